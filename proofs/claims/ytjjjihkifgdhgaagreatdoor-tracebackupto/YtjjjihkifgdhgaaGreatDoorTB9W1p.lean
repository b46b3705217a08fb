/- a part of a proof of TraceBack -/
import Derived.Test.YtjjjihkifgdhgaaGreatDoorTB9Mp
import Derived.Test.YtjjjihkifgdhgaaGreatDoorRtZkp
import Derived.Test.YtjjjihkifgdhgaaGreatDoorProg
set_option linter.all false
namespace Go.Proofs.YtjjjihkifgdhgaaGreatDoor
open Go.IntKind renaming wrap → wi0
open Go.Proofs.Tryz renaming prog → pg0
open Go.RowKit
set_option maxRecDepth 10000
open Tryz
def aD:=@sizeOf27
def aG:=@underlying53
def aI:=@underlying9
def aO:=@sizeOf68
def aP:=@underlying65
def aW:=@underlying68
def aX:=@isAgg27
def bj:=@sizeOf52
def bo:=@underlying52
def bq:=@zeroValue68
def bx:=@isAgg68
def bG:=@isAgg9
def bH:=@underlying66
def bK:=@underlying5
def bL:=@zeroValue27
def bO:=@zeroValue52
def bR:=@sizeOf55
def bX:=@isAgg53
def bY:=@isAgg3
def ca:=@isAgg52
def cn:=@underlying152
def cr:=@zeroValue79
def cx:=@underlying79
def cD:=@underlying27
def cI:=@call279
def cL:=@sizeOf53
def cV:=@underlying215
def cW:=@zeroValue55
def dj:=@sizeOf79
def dm:=@sizeOf9
def dr:=@underlying55
def du:=@underlying213
def dD:=@call277
def dI:=@underlying354
def dV:=@sizeOf5
def eo:=@sizeOf3
def ep:=@call335
def eF:=@underlying349
def eG:=@isAgg55
def eH:=@underlying159
def eK:=@underlying3
def eV:=@isAgg65
def eW:=@isAgg66
def eX:=@call334
def eY:=@underlying91
def fw:=@call170
def fz:=@underlying310
def fE:=@call206
def fF:=@zeroValue5
def fG:=@zeroValue215
def fO:=@call105
abbrev K0:fQ:=⟨zS,zS⟩
abbrev K1:ByteArray:=⟨#[101,97,103,101,114]⟩
abbrev K2:ByteArray:=⟨#[116,104,114,105,102,116,121]⟩
abbrev K3:ByteArray:=⟨#[46]⟩
abbrev K4:ByteArray:=⟨#[32]⟩
abbrev K5:ByteArray:=⟨#[62]⟩
abbrev K6:ByteArray:=⟨#[48,49,50,51,52,53,54,55,56,57,97,98,99,100,101,102]⟩
abbrev K7:fP:=⟨0,K0,zS,K0,K0,zS⟩
abbrev C1 (d:Int) (g h i j k n o p:ByteArray) (q:Option Addr) (a c:Nat):List Value:=[(.int .i64 d),(.string g),(.string h),(.string i),(.string j),(.string k),(.string n),(.string o),(.string p),(.slice q a c)]
abbrev C2 (a c d:Int) (g:ByteArray) (h:Option Addr) (i j:Nat) (k:Option Addr) (n o:Nat):List Value:=[(.int .i64 a),(.int .i64 c),(.int .i64 d),(.string g),(.slice h i j),(.slice k n o)]
abbrev C3:List Value:=[(.int .i64 0),(.int .i64 0),(.int .i64 0),(.string zS),(.slice none 0 0),(.slice none 0 0)]
abbrev C4:List Value:=[(.int .i64 0),(.string (K0.fX)),(.string (K0.Word)),(.string zS),(.string (K0.fX)),(.string (K0.Word)),(.string (K0.fX)),(.string (K0.Word)),(.string zS),(.slice none 0 0)]
abbrev C5 (a:Int):List Value:=[(.int .i64 a),(.int .i64 0),(.int .i64 0),(.string zS),(.slice none 0 0),(.slice none 0 0)]
abbrev C6 (a:Int) (c:ByteArray):List Value:=[(.int .i64 1),(.int .i64 a),(.int .i64 0),(.string c),(.slice none 0 0),(.slice none 0 0)]
abbrev C7 (a:Int):List Value:=[(.int .i64 5),(.int .i64 0),(.int .i64 a),(.string zS),(.slice none 0 0),(.slice none 0 0)]
abbrev C8:List Value:=[(.int .i64 3),(.int .i64 0),(.int .i64 0),(.string zS),(.slice none 0 0),(.slice none 0 0)]
abbrev C9:List Value:=[(.int .i64 4),(.int .i64 0),(.int .i64 0),(.string zS),(.slice none 0 0),(.slice none 0 0)]
abbrev HT:List Value:=[(.int .i64 2),(.int .i64 0),(.int .i64 0),(.string zS),(.slice none 0 0),(.slice none 0 0)]
theorem gK:Tryz.prog.follows .mixedOrders=true:=by rfl
theorem ju:Tryz.prog.info? 5=some Tryz.t5∧Tryz.t5.zero=some (.int .u8 0)∧Tryz.t5.size=1∧Tryz.t5.bytes=1:=⟨by kernel_rfl,by kernel_rfl,by kernel_rfl,by kernel_rfl⟩
theorem sQ:Tryz.prog.info? 9=some Tryz.t9∧Tryz.t9.zero=some (.string ⟨#[]⟩)∧Tryz.t9.size=1∧Tryz.t9.bytes=16:=⟨by kernel_rfl,by kernel_rfl,by kernel_rfl,by kernel_rfl⟩
theorem ob:Tryz.prog.info? 27=some Tryz.t27∧Tryz.t27.zero=some (.agg #[(.string ⟨#[]⟩),(.string ⟨#[]⟩)])∧Tryz.t27.size=2∧Tryz.t27.bytes=32:=⟨by kernel_rfl,by kernel_rfl,by kernel_rfl,by kernel_rfl⟩
theorem rj:Tryz.prog.info? 55=some Tryz.t55∧Tryz.t55.zero=some (.agg #[(.int .i64 0),(.string ⟨#[]⟩),(.string ⟨#[]⟩),(.string ⟨#[]⟩),(.string ⟨#[]⟩),(.string ⟨#[]⟩),(.string ⟨#[]⟩),(.string ⟨#[]⟩),(.string ⟨#[]⟩),(.slice none 0 0)])∧Tryz.t55.size=10∧Tryz.t55.bytes=160:=⟨by kernel_rfl,by kernel_rfl,by kernel_rfl,by kernel_rfl⟩
theorem oY:iE pg0 27 0 0:=hY cD rfl dm (by decide) rfl
theorem qm:iE pg0 27 1 1:=hY cD rfl dm (by decide) rfl
theorem Fg:(Tryz.prog.fieldsOf 27).toList=(match Tryz.prog.underlying 27 with | some (.struct a)=>a.toList | _=>[]):=by rw [cD]; simp [Program.fieldsOf,cD]
theorem qL (d:Nat) (x y:fQ) (W:World):(Op.equalIn (d+2) 27 (.agg (fS x).toArray) (.agg (fS y).toArray)).run pg0 W= .ok (gW x y) W:=by
 rw [run_equalIn_struct W (d+1) 27 _ _ (by kernel_rfl) Tryz.stoodInHeld27,Fg,cD]
 exact (kU (by decide) (nn bG rfl) (nn bG rfl) (Gc aI _ _ _ _) (kU (by decide) (nn bG rfl) (nn bG rfl) (Gc aI _ _ _ _) (vE _ _ _)))
theorem Fl:∀a,Tryz.prog.underlying 27=some (.struct a)→∀w,(a.mapM (λ(f:Field)=>do pure (f.offset,←sizeOf f.type)):Sem (Array (Nat×Nat))).run pg0 w= .ok #[(0,1),(1,1)] w:=by
 intro a h w
 rw [cD] at h
 cases h
 kernel_rfl
theorem rs:iE pg0 52 0 0:=hY bo rfl eo (by decide) rfl
theorem rA:iE pg0 52 1 1:=hY bo rfl aD (by decide) rfl
theorem rZ:iE pg0 52 2 3:=hY bo rfl dm (by decide) rfl
theorem kb:iE pg0 52 3 4:=hY bo rfl aD (by decide) rfl
theorem qh:iE pg0 52 4 6:=hY bo rfl aD (by decide) rfl
theorem sh:iE pg0 52 5 8:=hY bo rfl dm (by decide) rfl
theorem FL:(Tryz.prog.fieldsOf 52).toList=(match Tryz.prog.underlying 52 with | some (.struct a)=>a.toList | _=>[]):=by rw [bo]; simp [Program.fieldsOf,bo]
theorem AS (d:Nat) (x y:fP) (W:World):(Op.equalIn (d+3) 52 (.agg (gb x).toArray) (.agg (gb y).toArray)).run pg0 W= .ok (lQ x y) W:=by
 rw [run_equalIn_struct W (d+2) 52 _ _ (by kernel_rfl) Tryz.stoodInHeld52,FL,bo]
 exact (kU (by decide) (nn bY rfl) (nn bY rfl) (I8 eK _ _ _ _) (kU (by decide) (qT aX aD rfl) (qT aX aD rfl) (qL _ x.Head y.Head W) (kU (by decide) (nn bG rfl) (nn bG rfl) (Gc aI _ _ _ _) (kU (by decide) (qT aX aD rfl) (qT aX aD rfl) (qL _ x.B y.B W) (kU (by decide) (qT aX aD rfl) (qT aX aD rfl) (qL _ x.C y.C W) (kU (by decide) (nn bG rfl) (nn bG rfl) (Gc aI _ _ _ _) (vE _ _ _)))))))
theorem uO:∀a,Tryz.prog.underlying 52=some (.struct a)→∀w,(a.mapM (λ(f:Field)=>do pure (f.offset,←sizeOf f.type)):Sem (Array (Nat×Nat))).run pg0 w= .ok #[(0,1),(1,2),(3,1),(4,2),(6,2),(8,1)] w:=by
 intro a h w
 rw [bo] at h
 cases h
 kernel_rfl
theorem GP:iE pg0 119 0 0:=hY underlying119 rfl dm (by decide) rfl
theorem Gy:iE pg0 119 1 1:=hY underlying119 rfl cL (by decide) rfl
theorem qg:iE pg0 55 0 0:=hY dr rfl bj (by decide) rfl
theorem ss:iE pg0 55 1 9:=hY dr rfl cL (by decide) rfl
theorem ES:∀a,Tryz.prog.underlying 55=some (.struct a)→∀w,(a.mapM (λ(f:Field)=>do pure (f.offset,←sizeOf f.type)):Sem (Array (Nat×Nat))).run pg0 w= .ok #[(0,9),(9,1)] w:=by
 intro a h w
 rw [dr] at h
 cases h
 kernel_rfl
theorem om:iE pg0 68 0 0:=hY aW rfl eo (by decide) rfl
theorem pw:iE pg0 68 1 1:=hY aW rfl eo (by decide) rfl
theorem qk:iE pg0 68 2 2:=hY aW rfl eo (by decide) rfl
theorem qo:iE pg0 68 3 3:=hY aW rfl dm (by decide) rfl
theorem nG:iE pg0 68 4 4:=hY aW rfl sizeOf65 (by decide) rfl
theorem nC:iE pg0 68 5 5:=hY aW rfl sizeOf66 (by decide) rfl
theorem qV:∀a,Tryz.prog.underlying 68=some (.struct a)→∀w,(a.mapM (λ(f:Field)=>do pure (f.offset,←sizeOf f.type)):Sem (Array (Nat×Nat))).run pg0 w= .ok #[(0,1),(1,1),(2,1),(3,1),(4,1),(5,1)] w:=by
 intro a h w
 rw [aW] at h
 cases h
 kernel_rfl
theorem AU:iE pg0 79 0 0:=hY cx rfl sizeOf4 (by decide) rfl
theorem xo:iE pg0 79 1 1:=hY cx rfl cL (by decide) rfl
theorem zY:∀a,Tryz.prog.underlying 79=some (.struct a)→∀w,(a.mapM (λ(f:Field)=>do pure (f.offset,←sizeOf f.type)):Sem (Array (Nat×Nat))).run pg0 w= .ok #[(0,1),(1,1)] w:=by
 intro a h w
 rw [cx] at h
 cases h
 kernel_rfl
theorem pf:iE pg0 215 0 0:=hY cV rfl cL (by decide) rfl
theorem zL:∀a,Tryz.prog.underlying 215=some (.struct a)→∀w,(a.mapM (λ(f:Field)=>do pure (f.offset,←sizeOf f.type)):Sem (Array (Nat×Nat))).run pg0 w= .ok #[(0,1)] w:=by
 intro a h w
 rw [cV] at h
 cases h
 kernel_rfl
theorem pn:iE pg0 349 0 0:=hY eF rfl cL (by decide) rfl
theorem yn:iE pg0 349 1 1:=hY eF rfl sizeOf4 (by decide) rfl
theorem Ij:∀a,Tryz.prog.underlying 349=some (.struct a)→∀w,(a.mapM (λ(f:Field)=>do pure (f.offset,←sizeOf f.type)):Sem (Array (Nat×Nat))).run pg0 w= .ok #[(0,1),(1,1)] w:=by
 intro a h w
 rw [eF] at h
 cases h
 kernel_rfl
theorem Gg:iE pg0 354 0 0:=hY dI rfl sizeOf310 (by decide) rfl
theorem Ge:iE pg0 354 1 1:=hY dI rfl sizeOf109 (by decide) rfl
theorem Ir:∀a,Tryz.prog.underlying 354=some (.struct a)→∀w,(a.mapM (λ(f:Field)=>do pure (f.offset,←sizeOf f.type)):Sem (Array (Nat×Nat))).run pg0 w= .ok #[(0,1),(1,1)] w:=by
 intro a h w
 rw [dI] at h
 cases h
 kernel_rfl
def tB:lc Key:=λμ ys x=>∃(v0:Value),ys=[.string x.ir,v0]∧Sl (Pl (fW .u8)) 1 μ v0 x.Key
theorem tB.out {μ:gm} {ys:List Value} {x:Key} (h:tB μ ys x):∃(v0:Value),ys=[.string x.ir,v0]∧Sl (Pl (fW .u8)) 1 μ v0 x.Key:=h
theorem tB.mk {μ:gm} {ys:List Value} {x:Key} (h:∃(v0:Value),ys=[.string x.ir,v0]∧Sl (Pl (fW .u8)) 1 μ v0 x.Key):tB μ ys x:=h
def gr:lc Signed:=λμ ys x=>∃(v0:Value),ys=[.int .i64 x.fP.Kind,.string x.fP.Head.fX,.string x.fP.Head.Word,.string x.fP.ir,.string x.fP.B.fX,.string x.fP.B.Word,.string x.fP.C.fX,.string x.fP.C.Word,.string x.fP.gT,v0]∧Sl (Pl (fW .u8)) 1 μ v0 x.Tag
theorem gr.out {μ:gm} {ys:List Value} {x:Signed} (h:gr μ ys x):∃(v0:Value),ys=[.int .i64 x.fP.Kind,.string x.fP.Head.fX,.string x.fP.Head.Word,.string x.fP.ir,.string x.fP.B.fX,.string x.fP.B.Word,.string x.fP.C.fX,.string x.fP.C.Word,.string x.fP.gT,v0]∧Sl (Pl (fW .u8)) 1 μ v0 x.Tag:=h
theorem gr.mk {μ:gm} {ys:List Value} {x:Signed} (h:∃(v0:Value),ys=[.int .i64 x.fP.Kind,.string x.fP.Head.fX,.string x.fP.Head.Word,.string x.fP.ir,.string x.fP.B.fX,.string x.fP.B.Word,.string x.fP.C.fX,.string x.fP.C.Word,.string x.fP.gT,v0]∧Sl (Pl (fW .u8)) 1 μ v0 x.Tag):gr μ ys x:=h
theorem gO:Deep gr 10 where
 mono:=by rintro _ _ _ _ c ⟨v0,rfl,a⟩; exact ⟨v0,rfl,a.mono (Pl.mono _) c⟩
 len:=by rintro _ _ _ ⟨v0,rfl,a⟩; rfl
 one:=by
  rintro _ _ _ ⟨v0,rfl,a⟩
  intro u hu; simp only [aS,dh,fA] at hu; rcases hu with rfl | rfl | rfl | rfl | rfl | rfl | rfl | rfl | rfl | rfl
  ·rfl
  ·rfl
  ·rfl
  ·rfl
  ·rfl
  ·rfl
  ·rfl
  ·rfl
  ·rfl
  ·exact a.F9
def pz:lc rH:=λμ ys x=>∃(v0:Value),ys=[.bool x.Out,v0]∧Sl (Pl (fW .u8)) 1 μ v0 x.B
theorem pz.out {μ:gm} {ys:List Value} {x:rH} (h:pz μ ys x):∃(v0:Value),ys=[.bool x.Out,v0]∧Sl (Pl (fW .u8)) 1 μ v0 x.B:=h
theorem pz.mk {μ:gm} {ys:List Value} {x:rH} (h:∃(v0:Value),ys=[.bool x.Out,v0]∧Sl (Pl (fW .u8)) 1 μ v0 x.B):pz μ ys x:=h
theorem wX:Deep pz 2 where
 mono:=by rintro _ _ _ _ c ⟨v0,rfl,a⟩; exact ⟨v0,rfl,a.mono (Pl.mono _) c⟩
 len:=by rintro _ _ _ ⟨v0,rfl,a⟩; rfl
 one:=by
  rintro _ _ _ ⟨v0,rfl,a⟩
  intro u hu; simp only [aS,dh,fA] at hu; rcases hu with rfl | rfl
  ·rfl
  ·exact a.F9
theorem pU (c g:ByteArray) (r:(ByteArray×ByteArray×Bool)) (w:World) (a:ny pg0 (hp w)) (hm:mm c g=some r) :
  gz true pg0 105 [(.string c),(.string g)] w (.tuple #[(.string (r.1)),(.string (r.2.1)),(.bool (r.2.2))]):=DC GH H8 rfl a.m hm
theorem uU (r:List ByteArray) (w:World) (hm:oh =some r) :
  iF true pg0 97 [] w 9 lN 1 r:=by
 refine ua 2 func97 rfl (λd=>sg (Wa (lr (VE (iy (cs:=#[(.string zS),(.string K1),(.string K2)]) d (xM rfl rfl rfl) (lH cn dm zeroValue9) (λc a d=>Wa (lt ?_)))))))
 obtain rfl:=sj hm
 exact gZ (v:=(.slice (some ⟨a,0,none⟩) 3 3)) rfl rfl ⟨_,[(a,Ob #[(.string zS),(.string K1),(.string K2)] 9)],rfl,d.jM (λp g=>by rw [aM] at g; subst g; exact Mh) (by simp),(gB.lit (l:=[zS,K1,K2]) (enc:=lN) rfl dc rfl rfl)⟩
theorem tP (g:Value) (k:List ByteArray) (x:ByteArray) (r:Int) (w:World) (c:Sl (Pl lN) 1 (hp w) g k) (hm:nB k x=some r) :
  gz true pg0 166 [g,(.string x)] w (.int .i64 r):=by
 refine cG 19 func166 rfl (λd=>sg (Wa (lS (Wm (V (iI cn rfl c) (Wm (ln (jb (λi E W=>∃j,(E 8= .int .i64 (i:Nat)∧E 7= .int .i64 (k.length:Nat))∧ST true iv w W (hp w) j∧E 0=g∧E 1=(.string x)∧mB x (k.drop i) i=some r) k.length c.len ⟨_,⟨rfl,rfl⟩,(d.fR St),rfl,rfl,hm⟩ dc dc dc (λ_ _ _ h=>by obtain ⟨_,o,_⟩:=h; exact o) ?_ ?_))))))))
 ·rintro K E W D ⟨j,⟨n,p⟩,d,t,u,a⟩
  obtain ⟨z,M,I,H,J⟩:=iK D
  rw [I] at a
  refine bg (Wh n (Wa (lr (Wh u (Wh t (Wm (VQ (ll (enc:=lN) (i:=(K:Int)) (x0:=z) cn dm rfl rfl c (aV _) H) (λN G=>V (fU rfl (nT d.has (y:=(.string z)) G bG)) (V (lA rfl rfl rfl) ?_)))))))))
  refine ln (CI a rfl (λB a=>?_) (λB a=>?_))
  ·refine sg (Wm (Wa (lt (jK (gN (jK (gN ?_)))))))
   obtain rfl:=sj a
   exact rP d
  exact iD (ig (gj ⟨n,_,⟨rfl,p⟩,(d.fR St),t,u,(by rw [J]; exact a)⟩))
 rintro E W ⟨j,⟨n,p⟩,d,t,u,a⟩
 rw [aZ] at a
 exact gj (sg (Wa (lt (rQ a d))))
theorem mH (i k:ByteArray) (r:Bool) (w:World) (hm:iT i k=some r) :
  gz true pg0 178 [(.string i),(.string k)] w (.bool r):=by
 refine cG 18 func178 rfl (λd=>sg (Wa (lr (Wm (V (iR aI rfl) (Wm (V (iR aI rfl) (Wi rfl (Wm (LJ hm (λy E W=>∃u,ST true iv w W (hp w) u∧E 4=(.bool false)∧E 17=(.bool y)) 7 ?_ (λy c g=>?_)))))))))))
 ·rintro G E W ⟨u,d,D,z⟩ x
  exact Wg z (lt (rQ x d))
 refine bC c (λa c=>?_) (λa c=>?_)
 ·refine ug a (gl rfl) (ug a (gl rfl) (ug a (iR aI rfl) (bS c λB t c=>ug a (sW (s:=i) (j:=(k.size:Int)) aI rfl rfl t) (ug a (gl rfl) (ug a (lA rfl rfl rfl) (V (gx (cB a) rfl) ?_))))))
  obtain rfl:=sj c
  exact g _ _ ⟨_,(d.fR St),rfl,rfl⟩
 refine un a (un a (un a (un a (un a (un a (V (gw (cB a) rfl) ?_))))))
 obtain rfl:=sj c
 exact g _ _ ⟨_,(d.fR St),rfl,rfl⟩
theorem py (a c r:ByteArray) (w:World) (hm:kp a c=some r) :
  gz true pg0 285 [(.string a),(.string c)] w (.string r):=by
 refine cG 13 func285 rfl (λd=>sg (Wa (lS (Wm (Wm (bS hm λu j hm=>VE (Eg d call178 (mH a c _ _  j) (λt d=>ln ?_))))))))
 refine CI hm rfl (λg hm=>?_) (λg hm=>?_)
 ·refine sg (Wm (Wm (V (iR aI rfl) (bS hm λx k hm=>V (rq (s:=a) (i:=(c.size:Int)) aI rfl rfl k) (Wa (lt (gN ?_)))))))
  obtain rfl:=sj hm
  exact rP d
 exact kg (Wm (Wa (lt (rQ hm d))))
theorem uz (a c r:ByteArray) (w:World) (hm:mg a c=some r) :
  gz true pg0 226 [(.string a),(.string c)] w (.string r):=by
 refine cG 8 func226 rfl (λd=>sg (Wa (lr (Wm (Wm (bS hm λj g hm=>VE (Eg d call285 (py a c _ _  g) (λi d=>Wa (ln ?_)))))))))
 exact gC (rQ hm d)
theorem Cv (c g:ByteArray) (r:(List ByteArray)) (w:World) (a:ny pg0 (hp w)) (hm:se c g=some r) :
  iF true pg0 286 [(.string c),(.string g)] w 9 lN 1 r:=Bn GL kr Iw rfl a.m hm
theorem vc (c g:ByteArray) (r:List ByteArray) (w:World) (i:ny pg0 (hp w)) (hm:lT c g=some r) :
  iF true pg0 227 [(.string c),(.string g)] w 9 lN 1 r:=by
 refine ua 10 func227 rfl (λd=>sg (Wa (lS (Wm (V (lA rfl rfl rfl) (ln (CI hm rfl (λj hm=>?_) (λj hm=>?_))))))))
 ·refine sg (Wa (lt (gN ?_)))
  obtain rfl:=sj hm
  exact gZ (v:=(.slice none 0 0)) rfl rfl ⟨_,[],rfl,d.jM (λp h=>by cases h) (by simp),gB.nil _ _ _⟩
 refine kg (Wm (Wm (bS hm λz k hm=>VE (nJ d call286 (Cv c g _ _ (i.mono d.gd) k) (λy x B t d u n a=>Wa (lt ?_))))))
 obtain rfl:=sj hm
 exact gZ (v:=x) rfl rfl ⟨_,t,rfl,d.jM (λp h=>(Ml h)) a.nd,a⟩
theorem HL (w:World) (s:ByteArray) (c:Int):(callFunc 282 [Value.string s,.int .u8 c].toArray).run pg0 w= .ok (.value (.int .i64 (ni s c))) w:=xR func282 (by kernel_rfl) (by kernel_rfl) (by kernel_rfl) (by kernel_rfl) s c w
theorem pT (a:ByteArray) (c r:Int) (w:World) (hm:iS a c=some r) :
  gz true pg0 220 [(.string a),(.int .u8 c)] w (.int .i64 r):=by
 exact cG 8 func220 rfl (λd=>sg (Wa (lr (Wm (Wm (VE (zB (args:=[(.string a),(.int .u8 c)]) (v:=.int .i64 (ni a c)) rfl (by exact jG rfl rfl) (HL _ a c) (Wa (lt (rQ hm d))))))))))
theorem mM (a:ByteArray) (c r:Int) (w:World) (hm:ji a c=some r) :
  gz true pg0 163 [(.string a),(.int .u8 c)] w (.int .i64 r):=by
 refine cG 8 func163 rfl (λd=>sg (Wa (lr (Wm (Wm (bS hm λj g hm=>VE (Eg d call220 (pT a c _ _  g) (λi d=>Wa (ln ?_)))))))))
 exact gC (rQ hm d)
theorem Bp (I:ByteArray) (r:Bool) (w:World) (hm:ta I=some r) :
  gz true pg0 164 [(.string I)] w (.bool r):=by
 refine cG 16 func164 rfl (λd=>sg (Wa (lS (Wm (bS hm λH J hm=>VE (yZ d aI aG bK rfl J (λW3 N T d M q j Y=>V (iI aG rfl j) (Wm (gJ ?_)))))))))
 refine gj (jb (λi E W=>∃c,(E 8= .int .i64 (i:Nat)∧E 7= .int .i64 (H.length:Nat))∧ST true iv w W T c∧E 6=N∧nA (H.drop i)=some r) H.length j.len ⟨_,⟨rfl,rfl⟩,(d.fR St),rfl,hm⟩ dc dc dc (λ_ _ _ h=>by obtain ⟨_,o,_⟩:=h; exact o) ?_ ?_)
 ·rintro K E W u ⟨c,⟨n,p⟩,d,g,a⟩
  obtain ⟨k,Q,D,B,G⟩:=iK u
  rw [D] at a
  refine bg (VQ (ll (enc:=(fW .u8)) (i:=(K:Int)) (x0:=k) aG dV g n j (aV _) B) (λZ x=>V (fU rfl (nT d.has (y:=(.int .u8 k)) x isAgg5)) (Wa (lr (Wm (bS a λs z a=>VE (Eg d call163 (mM (⟨#[97,98,99,100,101,102,103,104,105,106,107,108,109,110,111,112,113,114,115,116,117,118,119,120,121,122,48,49,50,51,52,53,54,55,56,57,45]⟩:ByteArray) k _ _  z) (λU d=>Wi rfl (gJ ?_)))))))))
  refine gj (CI a rfl (λt a=>?_) (λt a=>?_))
  ·refine sg (Wa (lt (jK (gN (jK (gN ?_))))))
   obtain rfl:=sj a
   exact rP d
  exact iD (ig (gj ⟨n,_,⟨rfl,p⟩,(d.fR St),g,(by rw [G]; exact a)⟩))
 rintro E W ⟨c,⟨n,p⟩,d,g,a⟩
 rw [aZ] at a
 exact gj (sg (Wa (lt (rQ a d))))
theorem mA (z:ByteArray) (r:Bool) (w:World) (hm:kl z=some r) :
  gz true pg0 93 [(.string z)] w (.bool r):=by
 refine cG 21 func93 rfl (λd=>sg (Wa (lr (Wm (V (iR aI rfl) (Wi rfl (Wm (LJ hm (λK E W=>∃Y,ST true iv w W (hp w) Y∧E 0=(.string z)∧E 2=(.bool false)∧E 10=(.bool K)) 4 ?_ (λK t y=>?_)))))))))
 ·rintro x2 E W ⟨Y,d,M,h,o⟩ a5
  refine Wh o (LJ a5 (λJ E W=>∃D,ST true iv w W (hp w) D∧E 0=(.string z)∧E 2=(.bool false)∧E 16=(.bool J)) 5 ?_ (λJ a x=>?_))
  ·rintro A E W ⟨D,d,n,H,a2⟩ N
   refine Wh a2 (LJ N (λI E W=>∃G,ST true iv w W (hp w) G∧E 2=(.bool false)∧E 20=(.bool I)) 3 ?_ (λI j u=>?_))
   ·rintro L E W ⟨G,d,a9,a3⟩ Q
    exact Wg a3 (lt (rQ Q d))
   refine bC j (λg j=>?_) (λg j=>?_)
   ·refine ug g (gl n) (bS j λs T j=>nN g (Eg d call164 (Bp z _ _  T) (λp d=>V (gx (cB g) rfl) ?_)))
    obtain rfl:=sj j
    exact u _ _ ⟨_,(d.fR St),H,rfl⟩
   refine un g (un g (V (gw (cB g) rfl) ?_))
   obtain rfl:=sj j
   exact u _ _ ⟨_,(d.fR St),H,rfl⟩
  refine bC a (λc a=>?_) (λc a=>?_)
  ·refine ug c (gl M) (bS a λZ B a=>ug c (qD (i:=0) aI rfl rfl (pH B) (sd B)) (bS a λv U a=>nN c (Eg d call163 (mM (⟨#[97,98,99,100,101,102,103,104,105,106,107,108,109,110,111,112,113,114,115,116,117,118,119,120,121,122]⟩:ByteArray) (Z.toNat:Int) _ _  U) (λq d=>ug c (iJ rfl rfl rfl) (V (gx (cB c) rfl) ?_)))))
   obtain rfl:=sj a
   exact x _ _ ⟨_,(d.fR St),M,h,rfl⟩
  refine un c (un c (un c (un c (V (gw (cB c) rfl) ?_))))
  obtain rfl:=sj a
  exact x _ _ ⟨_,(d.fR St),M,h,rfl⟩
 refine bC t (λk t=>?_) (λk t=>?_)
 ·refine ug k (gl rfl) (ug k (iR aI rfl) (ug k (iJ rfl rfl rfl) (V (gx (cB k) rfl) ?_)))
  obtain rfl:=sj t
  exact y _ _ ⟨_,(d.fR St),rfl,rfl,rfl⟩
 refine un k (un k (un k (V (gw (cB k) rfl) ?_)))
 obtain rfl:=sj t
 exact y _ _ ⟨_,(d.fR St),rfl,rfl,rfl⟩
theorem lF (i:fQ) (r:Bool) (w:World) (hm:jB i=some r) :
  gz true pg0 206 [(.agg (fS i).toArray)] w (.bool r):=by
 refine cG 11 func206 rfl (λd=>sg (VE (jr d rfl (λH J d=>Wa (lr (Wf oY (VB d Mh rfl rfl bG (bS hm λK y hm=>VE (Eg d call93 (mA i.fX _ _  y) (λI d=>Wm (LJ hm (λk E W=>∃j,ST true iv w W (hp w) j∧E 2=(.bool false)∧E 10=(.bool k)) 4 ?_ (λk a g=>?_))))))))))))
 ·rintro G E W ⟨j,d,B,x⟩ t
  exact Wg x (lt (rQ t d))
 refine bC a (λc a=>?_) (λc a=>?_)
 ·refine ug c (fZ qm rfl) (ug c (fU rfl (gh d.has Mh rfl bG)) (bS a λD u a=>nN c (Eg d call93 (mA i.Word _ _  u) (λz d=>V (gx (cB c) rfl) ?_))))
  obtain rfl:=sj a
  exact g _ _ ⟨_,(d.fR (Db St)),rfl,rfl⟩
 refine un c (un c (un c (V (gw (cB c) rfl) ?_)))
 obtain rfl:=sj a
 exact g _ _ ⟨_,(d.fR (Db St)),rfl,rfl⟩
theorem oN (c:ByteArray) (r:(fQ×Bool)) (w:World) (j:ny pg0 (hp w)) (hm:jU c=some r) :
  gz true pg0 228 [(.string c)] w (.tuple #[(.agg (fS r.1).toArray),(.bool r.2)]):=by
 let M:Value:=(.agg (fS K0).toArray)
 refine cG 22 func228 rfl (λd=>sg (VE (gy d bL (λB I d=>Wa (lr (Wm (bS hm λa k hm=>VE (Eg d fO (pU c K3 _ _ (j.mono d.gd) k) (λD d=>Wm (Wx rfl (Wx rfl ?_)))))))))))
 let t:=(⟨a.1,a.2.1⟩:fQ)
 let u:Value:=(.agg (fS t).toArray)
 refine Wx rfl (Wa (Wa (Wa (lr (Wm (Wm (V (ia (v:=u) (mY rfl rfl) (gG bL cD (Fl _ cD) kr)) (VE (gy d bL (λG J d=>VO (ga u ((fS t).toArray) d rfl rfl aD (iH t) nb rfl (λH d=>ln ?_))))))))))))
 refine gq (sg (VA d Mh (fS t) aX aD (bS hm λK i hm=>VE (Eg d fE (lF t _ _  i) (λx d=>V (kj rfl) (ln (CI hm rfl (λg hm=>?_) (λg hm=>?_))))))))
 ·refine sg (V (ia (v:=M) lb (gG bL cD (Fl _ cD) kr)) ?_)
  replace d:=d.perm (Nb (Pb Pz) Nz)
  refine VO (ga M ((fS K0).toArray) d rfl rfl aD (iH K0) nb rfl (λy d=>Wa (ln ?_)))
  replace d:=d.fR (Kb (Db St))
  refine gC (gN ?_)
  obtain rfl:=sj hm
  exact nD (v0:=M) (v1:=(.bool false)) rfl rfl (fY d.has Mh (fS K0) rfl aX aD) rfl ⟨rfl,d.ex⟩
 refine kg (VA d Mh (fS t) aX aD ?_)
 replace d:=d.perm (Nb (Pb Pz) Nz)
 refine VO (ga u ((fS t).toArray) d rfl rfl aD (iH t) nb rfl (λz d=>Wa (ln ?_)))
 replace d:=d.fR (Kb (Db St))
 refine gC ?_
 obtain rfl:=sj hm
 exact nD (v0:=u) (v1:=(.bool true)) rfl rfl (fY d.has Mh (fS t) rfl aX aD) rfl ⟨rfl,d.ex⟩
theorem zf (a c:ByteArray) (r:Int) (w:World) (hm:re a c=some r) :
  gz true pg0 229 [(.string a),(.string c)] w (.int .i64 r):=Df Gs rfl hm
theorem xy (c g:ByteArray) (r:Int) (w:World) (a:ny pg0 (hp w)) (hm:sv c g=some r) :
  gz true pg0 347 [(.string c),(.string g)] w (.int .i64 r):=Bi GN Il rfl a.m hm
theorem DK (a:fQ) (t:ByteArray) (r:fP) (w:World) (u:ny pg0 (hp w)) (hm:sX a t=some r) :
  gz true pg0 289 [(.agg (fS a).toArray),(.string t)] w (.agg (gb r).toArray):=by
 let b8:=(⟨1,a,t,K0,K0,zS⟩:fP)
 let A:Value:=(.agg (gb b8).toArray)
 refine cG 67 func289 rfl (λd=>sg (VE (jr d rfl (λW2 b1 d=>VE (gy d bO (λW4 b3 d=>lr (Wm (bS hm λU Q hm=>VE (Eg d fO (pU t (⟨#[32,38,32]⟩:ByteArray) _ _ (u.mono d.gd) Q) (λW7 d=>Wm (Wx rfl (Wx rfl ?_))))))))))))
 refine Wx rfl (Wa (Wa (Wa (lr (Wm (bS hm λc T hm=>VE (Eg d call228 (oN U.1 _ _ (u.mono d.gd) T) (λZ d=>Wm (Wx rfl (Wx rfl (VE (gy d bL (λa2 c0 d=>?_)))))))))))))
 let p:=(⟨2,a,zS,c.1,K0,zS⟩:fP)
 let L:Value:=(.agg (gb p).toArray)
 refine VO (ga (.agg (fS c.1).toArray) ((fS c.1).toArray) d rfl rfl aD (iH c.1) nb rfl (λa3 d=>Wa (lr (Wm (bS hm λg G hm=>VE (Eg d call228 (oN U.2.1 _ _ (u.mono d.gd) G) (λa4 d=>Wm (Wx rfl (Wx rfl (VE (gy d bL (λa5 c1 d=>VO (ga (.agg (fS g.1).toArray) ((fS g.1).toArray) d rfl rfl aD (iH g.1) nb rfl (λP d=>Wa ?_))))))))))))))
 let a0:=(⟨4,a,zS,c.1,g.1,zS⟩:fP)
 let q:Value:=(.agg (gb a0).toArray)
 refine lr (Wm (bS hm λy H hm=>VE (Eg d call229 (zf t K3 _ _  H) (λR d=>Wa (ln (bg (Wm (Wa ?_))))))))
 refine ln (CI hm rfl (λz hm=>?_) (λz hm=>?_))
 ·refine sg (VA d (Mt (Mt (Mt Mh))) (fS a) aX aD (VA d (Mt Mh) (fS c.1) aX aD (VA d Mh (fS g.1) aX aD (V (ia (v:=q) (DF rfl rfl rfl rfl) (gG bO bo (uO _ bo) kr)) ?_))))
  replace d:=d.perm (Nb (Pb (Pb Pz)) Nz)
  refine VO (ga q ((gb a0).toArray) d rfl rfl bj (lp a0) nb rfl (λW d=>ln ?_))
  replace d:=d.fR (Kb (Db (Db (Db St))))
  refine gC (jK ?_)
  have n:=sj hm; subst n
  exact iX (v:=q) rfl rfl (fY d.has Mh (gb a0) rfl ca bj) ⟨rfl,d.ex⟩
 refine sg (Wm (bS hm λc3 I hm=>VE (Eg d call347 (xy t K3 _ _ (u.mono d.gd) I) (λa9 d=>Wi rfl (Wa (ln ?_))))))
 replace d:=d.fR (Db St)
 refine CI hm rfl (λB hm=>?_) (λB hm=>?_)
 ·refine sg (VA d (Mt (Mt Mh)) (fS a) aX aD (Wm (V (ia (v:=A) (xM rfl rfl rfl) (gG bO bo (uO _ bo) kr)) ?_)))
  replace d:=d.perm (Nb (Pb Pz) Nz)
  refine VO (ga A ((gb b8).toArray) d rfl rfl bj (lp b8) nb rfl (λb0 d=>ln ?_))
  replace d:=d.fR (Kb (Db (Db St)))
  refine gC (jK ?_)
  have n:=sj hm; subst n
  exact iX (v:=A) rfl rfl (fY d.has Mh (gb b8) rfl ca bj) ⟨rfl,d.ex⟩
 refine sg (Wm (bS hm λc4 J hm=>VE (Eg d call347 (xy t K3 _ _ (u.mono d.gd) J) (λb2 d=>Wi rfl (Wa (ln (CI hm rfl (λD hm=>?_) (λD hm=>?_))))))))
 ·refine sg (VA d (Mt (Mt Mh)) (fS a) aX aD (VA d Mh (fS c.1) aX aD (V (ia (v:=L) (xM rfl rfl rfl) (gG bO bo (uO _ bo) kr)) ?_)))
  replace d:=d.perm (Nb (Pb Pz) Nz)
  refine VO (ga L ((gb p).toArray) d rfl rfl bj (lp p) nb rfl (λb4 d=>ln ?_))
  replace d:=d.fR (Kb (Db (Db St)))
  refine gC (jK ?_)
  have n:=sj hm; subst n
  exact iX (v:=L) rfl rfl (fY d.has Mh (gb p) rfl ca bj) ⟨rfl,d.ex⟩
 refine sg (Wm (Wm (bS hm λY M hm=>V (sW (s:=t) (j:=y) aI rfl rfl M) (bS hm λk K hm=>VE (Eg d call228 (oN Y _ _ (u.mono d.gd) K) (λb5 d=>Wm (Wx rfl (Wx rfl (VE (gy d bL (λb6 c2 d=>VO (ga (.agg (fS k.1).toArray) ((fS k.1).toArray) d rfl rfl aD (iH k.1) nb rfl (λb7 d=>Wa (gJ ?_))))))))))))))
 refine gj ?_
 replace d:=d.fR (Kb (Db St))
 refine gq ?_
 replace d:=d.drew
 have h:=d.has.fR (Kb (Db (Kb Sn)))
 refine ic h gK (XH 0 rfl h (λ_ O=>fU rfl (fY O (Mt Mh) (fS a) rfl aX aD)) (XH 1 rfl h (λ_ O=>fU rfl (fY O Mh (fS k.1) rfl aX aD)) (X 2 rfl h (gl rfl) (X 3 rfl h (gl rfl) (X 4 rfl h (iJ rfl rfl rfl) (bS hm λx N hm=>X 5 rfl h (rq (s:=t) (i:=(wi0 .i64 (y+1))) aI rfl rfl N) (X 6 rfl h (ia (v:=(.agg (gb (⟨3,a,zS,k.1,K0,x⟩:fP)).toArray)) (DF rfl rfl rfl rfl) (gG bO bo (uO _ bo) kr)) ?_)))))))
 let o:=(⟨3,a,zS,k.1,K0,x⟩:fP)
 replace d:=d.perm (Nb (Pb Pz) Nz)
 refine XO 7 rfl (ga (.agg (gb o).toArray) ((gb o).toArray) d rfl rfl bj (lp o) nb rfl (λb9 d=>?_))
 have h:=d.has.fR (Db (Kb (Kb Sn)))
 refine ⟨h,(iz kr (gj ?_))⟩
 replace d:=d.fR (Kb (Db (Db St)))
 refine gC (jK ?_)
 have n:=sj hm; subst n
 exact iX (v:=(.agg (gb o).toArray)) rfl rfl (fY d.has Mh (gb o) rfl ca bj) ⟨rfl,d.ex⟩
theorem Hm (w:World) (a b:ByteArray):(callFunc 273 [Value.string a,.string b].toArray).run pg0 w= .ok (.value (.int .i64 (nc a b))) w:=ER func273 (by kernel_rfl) (by kernel_rfl) (by kernel_rfl) (by kernel_rfl) a b w
theorem pP (a c:ByteArray) (r:Int) (w:World) (hm:kx a c=some r) :
  gz true pg0 215 [(.string a),(.string c)] w (.int .i64 r):=by
 exact cG 8 func215 rfl (λd=>sg (Wa (lr (Wm (Wm (VE (zB (args:=[(.string a),(.string c)]) (v:=.int .i64 (nc a c)) rfl (by exact jG rfl rfl) (Hm _ a c) (Wa (lt (rQ hm d))))))))))
theorem rJ (a c:ByteArray) (r:Int) (w:World) (hm:nv a c=some r) :
  gz true pg0 156 [(.string a),(.string c)] w (.int .i64 r):=by
 refine cG 8 func156 rfl (λd=>sg (Wa (lr (Wm (Wm (bS hm λj g hm=>VE (Eg d call215 (pP a c _ _  g) (λi d=>Wa (ln ?_)))))))))
 exact gC (rQ hm d)
theorem Ax (g:Value) (t:List Int) (r:Int) (w:World) (c:Sl (Pl (fW .i64)) 1 (hp w) g t) (hm:sf t=some r) :
  gz true pg0 155 [g] w (.int .i64 r):=by
 refine cG 18 func155 rfl (λd=>sg (Wa (lr (Wa (lS (Wm ?_))))))
 refine V (iI underlying257 rfl c) (Wm (ln (jb (λi E W=>∃k,(E 8= .int .i64 (i:Nat)∧E 7= .int .i64 (t.length:Nat))∧ST true iv w W (hp w) k∧E 3=(.int .i64 0)∧E 6=g∧oJ (t.drop i)=some r) t.length c.len ⟨_,⟨rfl,rfl⟩,(d.fR St),rfl,rfl,hm⟩ dc dc dc (λ_ _ _ h=>by obtain ⟨_,o,_⟩:=h; exact o) ?_ ?_)))
 ·rintro J E W B ⟨k,⟨n,p⟩,d,j,u,a⟩
  obtain ⟨x,K,H,G,I⟩:=iK B
  rw [H] at a
  refine bg (VQ (ll (enc:=(fW .i64)) (i:=(J:Int)) (x0:=x) underlying257 eo u n c (aV _) G) (λM D=>V (fU rfl (nT d.has (y:=(.int .i64 x)) D bY)) (Wa (lr (Wm (Wh j (Wi rfl (ln ?_))))))))
  refine CI a rfl (λz a=>?_) (λz a=>?_)
  ·refine sg (Wm (Wa (lt (jK (gN (jK (gN ?_)))))))
   obtain rfl:=sj a
   exact rP d
  exact iD (ig (gj ⟨n,_,⟨rfl,p⟩,(d.fR St),j,u,(by rw [I]; exact a)⟩))
 rintro E W ⟨k,⟨n,p⟩,d,j,u,a⟩
 rw [aZ] at a
 exact gj (sg (Wh j (Wa (lt (rQ a d)))))
theorem tA (g i:fQ) (r:Int) (w:World) (hm:lj g i=some r) :
  gz true pg0 83 [(.agg (fS g).toArray),(.agg (fS i).toArray)] w (.int .i64 r):=by
 refine cG 17 func83 rfl (λd=>sg (VE (jr d rfl (λG I d=>VE (jr d rfl (λH J d=>Wa (ln (gq ?_))))))))
 replace d:=d.drew
 have h:=d.has.fR (Kb (Kb Sn))
 refine ic h gK (X 0 rfl h (fZ oY rfl) (XH 1 rfl h (λ_ n=>fU rfl (gh n (Mt Mh) rfl bG)) (X 2 rfl h (fZ oY rfl) (XH 3 rfl h (λ_ n=>fU rfl (gh n Mh rfl bG)) (X 5 rfl h (fZ qm rfl) (XH 6 rfl h (λ_ n=>fU rfl (gh n (Mt Mh) rfl bG)) (X 7 rfl h (fZ qm rfl) (XH 8 rfl h (λ_ n=>fU rfl (gh n Mh rfl bG)) (bS hm λa j hm=>XE 4 rfl (Eg d call156 (rJ g.fX i.fX _ _  j) (λx d=>?_)))))))))))
 have h:=d.has.fR (Kb (Kb Sn))
 refine ⟨h,(bS hm λc k hm=>XE 9 rfl (Eg d call156 (rJ g.Word i.Word _ _  k) (λy d=>?_)))⟩
 have h:=d.has.fR (Kb (Kb Sn))
 refine ⟨h,(XE 10 rfl (iy (cs:=#[(.int .i64 a),(.int .i64 c)]) d (mY rfl rfl) (lH underlying257 eo zeroValue3) (λz u d=>?_)))⟩
 have h:=d.has.fR (Db (Kb (Kb Sn)))
 refine ⟨h,(bS hm λD t hm=>XE 11 rfl (Eg d call155 (Ax (.slice (some ⟨u,0,none⟩) 2 2) ([a,c]) _ _ (Sl.lit (enc:=(fW .i64)) (l:=[a,c]) (λ_=>rfl) rfl nb rfl (d.at_ Mh)) t) (λB d=>?_)))⟩
 have h:=d.has.fR (Db (Kb (Kb Sn)))
 refine ⟨h,(X 12 rfl h (iM rfl) (iz kr (gj ?_)))⟩
 exact gC (rQ hm d)
set_option maxHeartbeats 4000000 in
theorem oU (a:fP) (r:Bool) (w:World) (hm:jC a=some r) :
  gz true pg0 144 [(.agg (gb a).toArray)] w (.bool r):=by
 let m9:=(⟨a.Kind,a.Head,zS,a.B,a.C,zS⟩:fP)
 let j2:=(⟨a.Kind,a.Head,zS,a.B,K0,a.gT⟩:fP)
 let j1:Value:=(.agg (fS a.B).toArray)
 let g6:=((gb (⟨a.Kind,a.Head,zS,a.B,K0,zS⟩:fP)).toArray)
 let s:=(⟨a.Kind,a.Head,zS,K0,K0,zS⟩:fP)
 refine cG 98 func144 rfl (λd=>sg (VE (jr d rfl (λW2 N d=>Wa (lr (Wf rs (VB d Mh rfl rfl bY (Wf rA (VA d Mh (fS a.Head) aX aD (V (ia (v:=(.agg (gb s).toArray)) (mY rfl rfl) (gG bO bo (uO _ bo) kr)) (VE (gy d bO (λW4 B d=>?_)))))))))))))
 refine VO (ga (.agg (gb s).toArray) ((gb s).toArray) d rfl rfl bj (lp s) nb rfl (λW5 d=>lr (Wf rA (VA d (Mt Mh) (fS a.Head) aX aD (bS hm λq j4 hm=>VE (Eg d fE (lF a.Head _ _  j4) (λW8 d=>Wa (ln (gq (wu hm (λO E W=>∃b6,ST true iv w W (hp w) ((B,Ol (gb O.2) 52)::((N,Ol (gb a) 52)::b6))∧E 1=(.pointer (some ⟨N,0,none⟩))∧E 3=(.pointer (some ⟨B,0,none⟩))∧E 4=(.bool O.1)) (λO g Z=>?_) ?_))))))))))
 ·let g5:=((gb m9).toArray:Array Value)
  let b8:=((gb j2).toArray:Array Value)
  let p:Value:=(.pointer (some ⟨B,0,none⟩))
  let o:Value:=(.pointer (some ⟨N,0,none⟩))
  let a0:=((gb a).toArray:Array Value)
  refine sg (Wf rs (VB d (Mt Mh) rfl rfl bY (ln (bg (Wi rfl (Wa (ln (CI g rfl (λe5 g=>?_) (λe5 g=>?_)))))))))
  ·replace d:=d.drew
   have h:=d.has.fR (Db (Kb Sn))
   refine ic h gK (X 0 rfl h (fZ rZ rfl) (XH 1 rfl h (λ_ n=>fU rfl (gh n Mh rfl bG)) (X 2 rfl h (gl rfl) (X 3 rfl h (gl rfl) (X 8 rfl h (fZ rZ rfl) (PJ g (λd6 E W=>∃b9,ST true iv w W (hp w) ((B,Ol (gb s) 52)::((N,Obj.cells a0 52 (0,0))::b9))∧E 1=o∧E 3=p∧E 4=(.bool q)∧E 18=(.string a.ir)∧E 24=(.bool d6)∧E 25=(.pointer (some ⟨B,3,none⟩))) (bm 11 511) 2 ?_ (λd6 D a2=>?_)))))))
   ·rintro m1 E W ⟨b9,d,h2,h3,k8,h4,h5,h6⟩ f1
    refine XO 9 rfl (ga (.string a.ir) ((gb (⟨a.Kind,a.Head,a.ir,K0,K0,zS⟩:fP)).toArray) d h6 h4 dm (vx a.ir) nb rfl (λj5 d=>?_))
    have h:=d.has.fR (Db (Kb Sn))
    refine ⟨h,(X 10 rfl h (iM h5) (iz kr (ig (gj ?_))))⟩
    obtain rfl:=sj f1
    exact ⟨_,rfl,_,(d.fR St),h2,h3,rfl⟩
   refine bC D (λk D=>?_) (λk D=>?_)
   ·refine Xg 4 rfl rfl (cB k) h (fZ rZ rfl) (uW 5 rfl rfl (cB k) h (λ_ n=>fU rfl (gh n Mh rfl bG)) (bS D λl2 f9 D=>yO 6 rfl rfl (cB k) (Eg d call93 (mA a.ir _ _  f9) (λj6 d=>?_))))
    have h:=d.has.fR (Db (Kb Sn))
    refine ⟨h,(X 7 rfl h (gx (cB k) rfl) ?_)⟩
    obtain rfl:=sj D
    refine jj kr (a2 _ _ ⟨_,(d.fR St),rfl,rfl,rfl,rfl,rfl,rfl⟩)
   refine Xn 4 rfl rfl (cB k) h (Xn 5 rfl rfl (cB k) h (Xn 6 rfl rfl (cB k) h (X 7 rfl h (gw (cB k) rfl) ?_)))
   obtain rfl:=sj D
   refine jj kr (a2 _ _ ⟨_,(d.fR St),rfl,rfl,rfl,rfl,rfl,rfl⟩)
  refine sg (Wi rfl (Wa (ln (CI g rfl (λe6 g=>?_) (λe6 g=>?_)))))
  ·replace d:=d.drew
   have h:=d.has.fR (Db (Kb Sn))
   refine ic h gK (X 0 rfl h (fZ kb rfl) (XH 1 rfl h (λ_ n=>fU rfl (fY n Mh (fS a.B) rfl aX aD)) (X 2 rfl h (gl rfl) (X 3 rfl h (gl rfl) (X 8 rfl h (fZ kb rfl) (PJ g (λd7 E W=>∃c0,ST true iv w W (hp w) ((B,Ol (gb s) 52)::((N,Obj.cells a0 52 (0,0))::c0))∧E 1=o∧E 3=p∧E 4=(.bool q)∧E 29=j1∧E 35=(.bool d7)∧E 36=(.pointer (some ⟨B,4,none⟩))) (bm 11 511) 2 ?_ (λd7 G a3=>?_)))))))
   ·rintro m2 E W ⟨c0,d,h7,h8,k9,h9,i0,i1⟩ f2
    refine XO 9 rfl (ga j1 g6 d i1 h9 aD (iH a.B) nb rfl (λj7 d=>?_))
    have h:=d.has.fR (Db (Kb Sn))
    refine ⟨h,(X 10 rfl h (iM i0) (iz kr (ig (gj ?_))))⟩
    obtain rfl:=sj f2
    exact ⟨_,rfl,_,(d.fR St),h7,h8,rfl⟩
   refine bC G (λt G=>?_) (λt G=>?_)
   ·refine Xg 4 rfl rfl (cB t) h (fZ kb rfl) (uW 5 rfl rfl (cB t) h (λ_ n=>fU rfl (fY n Mh (fS a.B) rfl aX aD)) (bS G λl3 g0 G=>yO 6 rfl rfl (cB t) (Eg d fE (lF a.B _ _  g0) (λj8 d=>?_))))
    have h:=d.has.fR (Db (Kb Sn))
    refine ⟨h,(X 7 rfl h (gx (cB t) rfl) ?_)⟩
    obtain rfl:=sj G
    refine jj kr (a3 _ _ ⟨_,(d.fR St),rfl,rfl,rfl,rfl,rfl,rfl⟩)
   refine Xn 4 rfl rfl (cB t) h (Xn 5 rfl rfl (cB t) h (Xn 6 rfl rfl (cB t) h (X 7 rfl h (gw (cB t) rfl) ?_)))
   obtain rfl:=sj G
   refine jj kr (a3 _ _ ⟨_,(d.fR St),rfl,rfl,rfl,rfl,rfl,rfl⟩)
  refine sg (Wi rfl (Wa (ln (CI g rfl (λe7 g=>?_) (λe7 g=>?_)))))
  ·refine gq ?_
   replace d:=d.drew
   have h:=d.has.fR (Db (Kb Sn))
   refine ic h gK (X 0 rfl h (fZ kb rfl) (XH 1 rfl h (λ_ n=>fU rfl (fY n Mh (fS a.B) rfl aX aD)) (X 2 rfl h (fZ sh rfl) (XH 3 rfl h (λ_ n=>fU rfl (gh n Mh rfl bG)) (X 4 rfl h (fZ kb rfl) (XO 5 rfl (ga j1 g6 d rfl rfl aD (iH a.B) nb rfl (λj9 d=>?_))))))))
   have h:=d.has.fR (Db (Kb Sn))
   refine ⟨h,(X 6 rfl h (fZ sh rfl) (XO 7 rfl (ga (.string a.gT) ((gb j2).toArray) d rfl rfl dm (vx a.gT) nb rfl (λk0 d=>?_))))⟩
   have h:=d.has.fR (Db (Kb Sn))
   refine ⟨h,(iz kr (gj (gn (Wm (Wm (LJ g (λe0 E W=>∃c1,ST true iv w W (hp w) ((B,Obj.cells b8 52 (0,0))::((N,Obj.cells a0 52 (0,0))::c1))∧E 1=o∧E 3=p∧E 4=(.bool q)∧E 50=(.bool e0)) 4 ?_ (λe0 I R=>?_)))))))⟩
   ·rintro m3 E W ⟨c1,d,U,c7,c8,i2⟩ f3
    refine Wh i2 (LJ f3 (λd9 E W=>∃c2,ST true iv w W (hp w) ((B,Obj.cells b8 52 (0,0))::((N,Obj.cells a0 52 (0,0))::c2))∧E 1=o∧E 3=p∧E 4=(.bool q)∧E 59=(.bool d9)) 8 ?_ (λd9 T a5=>?_))
    ·rintro m4 E W ⟨c2,d,A,c9,d0,i3⟩ f4
     refine Wh i3 (LJ f4 (λd8 E W=>∃c3,ST true iv w W (hp w) ((B,Obj.cells b8 52 (0,0))::((N,Obj.cells a0 52 (0,0))::c3))∧E 1=o∧E 3=p∧E 4=(.bool q)∧E 64=(.bool d8)) 4 ?_ (λd8 H a4=>?_))
     ·rintro m5 E W ⟨c3,d,i4,i5,l0,i6⟩ f5
      refine Wg i6 (gJ (ig (gj ?_)))
      obtain rfl:=sj f5
      exact ⟨_,rfl,_,(d.fR St),i4,i5,rfl⟩
     refine bC H (λx H=>?_) (λx H=>?_)
     ·refine ug x (fZ sh A) (ug x (fU rfl (gh d.has (Mt Mh) rfl bG)) (bS H λl4 g1 H=>nN x (Eg d call93 (mA a.gT _ _  g1) (λk1 d=>V (gx (cB x) rfl) ?_))))
      obtain rfl:=sj H
      exact a4 _ _ ⟨_,(d.fR St),A,c9,d0,rfl⟩
     refine un x (un x (un x (V (gw (cB x) rfl) ?_)))
     obtain rfl:=sj H
     exact a4 _ _ ⟨_,(d.fR St),A,c9,d0,rfl⟩
    refine bC T (λc T=>?_) (λc T=>?_)
    ·refine ug c (fZ kb U) (ug c (fZ oY rfl) (ug c (fU rfl (gh d.has (Mt Mh) rfl bG)) (ug c (fZ rA U) (ug c (fZ oY rfl) (ug c (fU rfl (gh d.has (Mt Mh) rfl bG)) (ug c (lA rfl rfl rfl) (V (gx (cB c) rfl) ?_)))))))
     obtain rfl:=sj T
     exact a5 _ _ ⟨_,(d.fR St),U,c7,c8,rfl⟩
    refine un c (un c (un c (un c (un c (un c (un c (V (gw (cB c) rfl) ?_)))))))
    obtain rfl:=sj T
    exact a5 _ _ ⟨_,(d.fR St),U,c7,c8,rfl⟩
   refine bC I (λu I=>?_) (λu I=>?_)
   ·refine ug u (fZ kb rfl) (ug u (fU rfl (fY d.has (Mt Mh) (fS a.B) rfl aX aD)) (bS I λl5 g2 I=>nN u (Eg d fE (lF a.B _ _  g2) (λk2 d=>V (gx (cB u) rfl) ?_))))
    obtain rfl:=sj I
    exact R _ _ ⟨_,(d.fR St),rfl,rfl,rfl,rfl⟩
   refine un u (un u (un u (V (gw (cB u) rfl) ?_)))
   obtain rfl:=sj I
   exact R _ _ ⟨_,(d.fR St),rfl,rfl,rfl,rfl⟩
  refine sg (Wi rfl (Wa (ln (CI g rfl (λe8 g=>?_) (λe8 g=>?_)))))
  ·refine gq ?_
   replace d:=d.drew
   have h:=d.has.fR (Db (Kb Sn))
   refine ic h gK (X 0 rfl h (fZ kb rfl) (XH 1 rfl h (λ_ n=>fU rfl (fY n Mh (fS a.B) rfl aX aD)) (X 2 rfl h (fZ qh rfl) (XH 3 rfl h (λ_ n=>fU rfl (fY n Mh (fS a.C) rfl aX aD)) (X 4 rfl h (fZ kb rfl) (XO 5 rfl (ga j1 g6 d rfl rfl aD (iH a.B) nb rfl (λk3 d=>?_))))))))
   have h:=d.has.fR (Db (Kb Sn))
   refine ⟨h,(X 6 rfl h (fZ qh rfl) (XO 7 rfl (ga (.agg (fS a.C).toArray) ((gb m9).toArray) d rfl rfl aD (iH a.C) nb rfl (λk4 d=>?_))))⟩
   have h:=d.has.fR (Db (Kb Sn))
   refine ⟨h,(iz kr (gj (gn (Wm (Wm (LJ g (λe3 E W=>∃c4,ST true iv w W (hp w) ((B,Obj.cells g5 52 (0,0))::((N,Obj.cells a0 52 (0,0))::c4))∧E 1=o∧E 3=p∧E 4=(.bool q)∧E 78=(.bool e3)) 4 ?_ (λe3 M a9=>?_)))))))⟩
   ·rintro m6 E W ⟨c4,d,L,d1,d2,i7⟩ f6
    refine Wh i7 (LJ f6 (λe2 E W=>∃c5,ST true iv w W (hp w) ((B,Obj.cells g5 52 (0,0))::((N,Obj.cells a0 52 (0,0))::c5))∧E 1=o∧E 3=p∧E 4=(.bool q)∧E 83=(.bool e2)) 4 ?_ (λe2 K a8=>?_))
    ·rintro m7 E W ⟨c5,d,Y,d3,d4,i8⟩ f7
     refine Wh i8 (LJ f7 (λe1 E W=>∃c6,ST true iv w W (hp w) ((B,Obj.cells g5 52 (0,0))::((N,Obj.cells a0 52 (0,0))::c6))∧E 1=o∧E 3=p∧E 4=(.bool q)∧E 91=(.bool e1)) 7 ?_ (λe1 J a7=>?_))
     ·rintro m8 E W ⟨c6,d,i9,j0,l1,j3⟩ f8
      refine Wg j3 (gJ (ig (gj ?_)))
      obtain rfl:=sj f8
      exact ⟨_,rfl,_,(d.fR St),i9,j0,rfl⟩
     refine bC J (λi J=>?_) (λi J=>?_)
     ·refine ug i (fZ kb Y) (ug i (fU rfl (fY d.has (Mt Mh) (fS a.B) rfl aX aD)) (ug i (fZ qh Y) (ug i (fU rfl (fY d.has (Mt Mh) (fS a.C) rfl aX aD)) (bS J λl6 g3 J=>nN i (Eg d call83 (tA a.B a.C _ _  g3) (λk5 d=>ug i (iJ rfl rfl rfl) (V (gx (cB i) rfl) ?_)))))))
      obtain rfl:=sj J
      exact a7 _ _ ⟨_,(d.fR St),Y,d3,d4,rfl⟩
     refine un i (un i (un i (un i (un i (un i (V (gw (cB i) rfl) ?_))))))
     obtain rfl:=sj J
     exact a7 _ _ ⟨_,(d.fR St),Y,d3,d4,rfl⟩
    refine bC K (λz K=>?_) (λz K=>?_)
    ·refine ug z (fZ qh L) (ug z (fU rfl (fY d.has (Mt Mh) (fS a.C) rfl aX aD)) (bS K λl7 g4 K=>nN z (Eg d fE (lF a.C _ _  g4) (λk6 d=>V (gx (cB z) rfl) ?_))))
     obtain rfl:=sj K
     exact a8 _ _ ⟨_,(d.fR St),L,d1,d2,rfl⟩
    refine un z (un z (un z (V (gw (cB z) rfl) ?_)))
    obtain rfl:=sj K
    exact a8 _ _ ⟨_,(d.fR St),L,d1,d2,rfl⟩
   refine bC M (λy M=>?_) (λy M=>?_)
   ·refine ug y (fZ kb rfl) (ug y (fU rfl (fY d.has (Mt Mh) (fS a.B) rfl aX aD)) (bS M λl8 g7 M=>nN y (Eg d fE (lF a.B _ _  g7) (λk7 d=>V (gx (cB y) rfl) ?_))))
    obtain rfl:=sj M
    exact a9 _ _ ⟨_,(d.fR St),rfl,rfl,rfl,rfl⟩
   refine un y (un y (un y (V (gw (cB y) rfl) ?_)))
   obtain rfl:=sj M
   exact a9 _ _ ⟨_,(d.fR St),rfl,rfl,rfl,rfl⟩
  refine sg (Wa (ln ?_))
  replace d:=d.fR (Db (Db St))
  refine gC (jK (gN ?_))
  obtain rfl:=sj g
  replace Z:some false=some r:=Z
  obtain rfl:=sj Z
  exact rP d
 rintro ⟨l9,e4⟩ E W ⟨b6,d,g8,g9,h0⟩ e9
 refine sg (Wh h0 (Wm (LJ e9 (λd5 E W=>∃b7,ST true iv w W (hp w) b7∧E 97=(.bool d5)) 4 ?_ (λd5 Q P=>?_))))
 ·rintro m0 E W ⟨b7,d,h1⟩ f0
  exact Wg h1 (lt (rQ f0 d))
 refine bC Q (λj Q=>?_) (λj Q=>?_)
 ·refine ug j (fU g9 (fY d.has Mh (gb e4) rfl ca bj)) (ug j (fU g8 (fY d.has (Mt Mh) (gb a) rfl ca bj)) (ug j (Dd rfl rfl (rf eqGuardType52) (yj (AS _ e4 a))) (V (gx (cB j) rfl) ?_)))
  obtain rfl:=sj Q
  exact P _ _ ⟨_,(d.fR (Db (Db St))),rfl⟩
 refine un j (un j (un j (V (gw (cB j) rfl) ?_)))
 obtain rfl:=sj Q
 exact P _ _ ⟨_,(d.fR (Db (Db St))),rfl⟩
theorem oy (a:fQ) (r:ByteArray) (w:World) (hm:kI a=some r) :
  gz true pg0 79 [(.agg (fS a).toArray)] w (.string r):=by
 refine cG 9 func79 rfl (λd=>sg (VE (jr d rfl (λi j d=>Wa (lr (Wf oY (VB d Mh rfl rfl bG (bS hm λk c hm=>V (kW rfl rfl c) (Wf qm (VB d Mh rfl rfl bG ?_))))))))))
 refine bS hm λt g hm=>V (kW rfl rfl g) (Wa (ln ?_))
 exact gC (rQ hm d)
theorem Bo (a:fP) (r:ByteArray) (w:World) (hm:tp a=some r) :
  gz true pg0 145 [(.agg (gb a).toArray)] w (.string r):=by
 refine cG 31 func145 rfl (λd=>sg (VE (jr d rfl (λU Z d=>Wa (lS (Wf rs (VB d Mh rfl rfl bY (ln (jS ?_)))))))))
 refine sg (Wi rfl (Wa (ln (CI hm rfl (λx hm=>?_) (λx hm=>?_)))))
 ·refine sg (Wf rZ (VB d Mh rfl rfl bG (Wa (ln ?_))))
  replace d:=d.fR (Db St)
  refine gC (jK (gN ?_))
  obtain rfl:=sj hm
  exact rP d
 refine sg (Wi rfl (Wa (ln (CI hm rfl (λy hm=>?_) (λy hm=>?_)))))
 ·refine sg (Wf kb (VA d Mh (fS a.B) aX aD (bS hm λo B hm=>VE (Eg d call79 (oy a.B _ _  B) (λY d=>Wa (ln ?_))))))
  replace d:=d.fR (Db St)
  refine gC (jK (gN ?_))
  obtain rfl:=sj hm
  exact rP d
 refine sg (Wi rfl (Wa (ln (CI hm rfl (λz hm=>?_) (λz hm=>?_)))))
 ·refine gq ?_
  replace d:=d.drew
  have h:=d.has.fR (Kb Sn)
  refine ic h gK (X 0 rfl h (fZ kb rfl) (XH 1 rfl h (λ_ n=>fU rfl (fY n Mh (fS a.B) rfl aX aD)) (X 4 rfl h (fZ sh rfl) (XH 5 rfl h (λ_ n=>fU rfl (gh n Mh rfl bG)) (bS hm λI c hm=>XE 2 rfl (Eg d call79 (oy a.B _ _  c) (λD d=>?_)))))))
  have h:=d.has.fR (Kb Sn)
  refine ⟨h,(bS hm λM j hm=>X 3 rfl h (kW rfl rfl j) (bS hm λN k hm=>X 6 rfl h (kW rfl rfl k) (X 7 rfl h (iM rfl) (iz kr (gj ?_)))))⟩
  replace d:=d.fR (Db St)
  refine gC (jK (gN ?_))
  obtain rfl:=sj hm
  exact rP d
 refine iD (ig (gj (gq ?_)))
 replace d:=d.drew
 have h:=d.has.fR (Kb Sn)
 refine ic h gK (X 0 rfl h (fZ kb rfl) (XH 1 rfl h (λ_ n=>fU rfl (fY n Mh (fS a.B) rfl aX aD)) (X 4 rfl h (fZ qh rfl) (XH 5 rfl h (λ_ n=>fU rfl (fY n Mh (fS a.C) rfl aX aD)) (bS hm λJ g hm=>XE 2 rfl (Eg d call79 (oy a.B _ _  g) (λG d=>?_)))))))
 have h:=d.has.fR (Kb Sn)
 refine ⟨h,(bS hm λQ t hm=>X 3 rfl h (kW rfl rfl t) (bS hm λK i hm=>XE 6 rfl (Eg d call79 (oy a.C _ _  i) (λH d=>?_))))⟩
 have h:=d.has.fR (Kb Sn)
 refine ⟨h,(bS hm λT u hm=>X 7 rfl h (kW rfl rfl u) (X 8 rfl h (iM rfl) (iz kr (gj ?_))))⟩
 exact gC (rQ hm d)
theorem wm (a:fP) (r:ByteArray) (w:World) (hm:px a=some r) :
  gz true pg0 74 [(.agg (gb a).toArray)] w (.string r):=by
 refine cG 13 func74 rfl (λd=>sg (VE (jr d rfl (λG I d=>Wa (lS (VA d Mh (gb a) ca bj (bS hm λJ t hm=>VE (Eg d call144 (oU a _ _  t) (λH d=>V (kj rfl) (gJ ?_))))))))))
 refine gj (CI hm rfl (λk hm=>?_) (λk hm=>?_))
 ·refine sg (Wa (ln ?_))
  replace d:=d.fR (Db St)
  refine gC (gN ?_)
  obtain rfl:=sj hm
  exact rP d
 refine kn (gq ?_)
 replace d:=d.drew
 have h:=d.has.fR (Kb Sn)
 refine ic h gK (X 0 rfl h (fZ rA rfl) (XH 1 rfl h (λ_ n=>fU rfl (fY n Mh (fS a.Head) rfl aX aD)) (XH 4 rfl h (λ_ n=>fU rfl (fY n Mh (gb a) rfl ca bj)) (bS hm λy c hm=>XE 2 rfl (Eg d call79 (oy a.Head _ _  c) (λu d=>?_))))))
 have h:=d.has.fR (Kb Sn)
 refine ⟨h,(bS hm λB i hm=>X 3 rfl h (kW rfl rfl i) (bS hm λz g hm=>XE 5 rfl (Eg d call145 (Bo a _ _  g) (λx d=>?_))))⟩
 have h:=d.has.fR (Kb Sn)
 refine ⟨h,(bS hm λD j hm=>X 6 rfl h (kW rfl rfl j) (X 7 rfl h (iM rfl) (iz kr (gj ?_))))⟩
 exact gC (rQ hm d)
theorem AY (x:ByteArray) (r:(fP×Bool)) (w:World) (k:ny pg0 (hp w)) (hm:qt x=some r) :
  gz true pg0 230 [(.string x)] w (.tuple #[(.agg (gb r.1).toArray),(.bool r.2)]):=by
 let Z:Value:=(.agg (gb K7).toArray)
 refine cG 37 func230 rfl (λd=>sg (VE (gy d bO (λW2 J d=>Wa (lr (Wm (bS hm λI U hm=>VE (Eg d fO (pU x (⟨#[32,60,45,32]⟩:ByteArray) _ _ (k.mono d.gd) U) (λW5 d=>Wm (Wx rfl (Wx rfl ?_)))))))))))
 refine Wx rfl (Wa (Wa (Wa (lr (Wm (bS hm λu Y hm=>VE (Eg d call228 (oN I.1 _ _ (k.mono d.gd) Y) (λW8 d=>Wm (Wx rfl (Wx rfl (VE (gy d bL (λa2 K d=>?_)))))))))))))
 refine VO (ga (.agg (fS u.1).toArray) ((fS u.1).toArray) d rfl rfl aD (iH u.1) nb rfl (λa3 d=>Wa (lS (Wm (V (kj rfl) (Wm (LJ hm (λz E W=>∃y,ST true iv w W (hp w) ((K,Ol (fS u.1) 27)::((J,Ol (gb K7) 52)::y))∧E 0=(.string x)∧E 2=(.pointer (some ⟨J,0,none⟩))∧E 5=(.string I.2.1)∧E 7=(.pointer (some ⟨K,0,none⟩))∧E 26=(.bool z)) 3 ?_ (λz i t=>?_))))))))
 ·rintro A E W ⟨y,d,M,j,N,Q,T⟩ a
  refine ln (CI a T (λB a=>?_) (λB a=>?_))
  ·refine sg (V (ia (v:=Z) lb (gG bO bo (uO _ bo) kr)) ?_)
   replace d:=d.perm (Nb (Pb Pz) Nz)
   refine VO (ga Z ((gb K7).toArray) d j rfl bj (lp K7) nb rfl (λa4 d=>Wa (ln ?_)))
   replace d:=d.fR (Kb (Db St))
   refine gC (gN ?_)
   obtain rfl:=sj a
   exact nD (v0:=Z) (v1:=(.bool false)) rfl j (fY d.has Mh (gb K7) rfl ca bj) rfl ⟨rfl,d.ex⟩
  refine kg (V (fU Q (fY d.has Mh (fS u.1) rfl aX aD)) (Wh N (bS a λc G a=>VE (Eg d call289 (DK u.1 I.2.1 _ _ (k.mono d.gd) G) (λa5 d=>VE (gy d bO (λh q d=>VO (ga (.agg (gb c).toArray) ((gb c).toArray) d rfl rfl bj (lp c) nb rfl (λn d=>ln ?_)))))))))
  replace d:=d.fR (Kb (Db St))
  refine gq (sg (VA d Mh (gb c) ca bj (bS a λs H a=>VE (Eg d call74 (wm c _ _  H) (λo d=>Wh M (V (lA rfl rfl rfl) (ln (CI a rfl (λD a=>?_) (λD a=>?_)))))))))
  ·refine sg (V (ia (v:=Z) lb (gG bO bo (uO _ bo) kr)) ?_)
   replace d:=d.perm (Nb (Pb Pz) Nz)
   refine VO (ga Z ((gb K7).toArray) d j rfl bj (lp K7) nb rfl (λa9 d=>Wa (ln ?_)))
   replace d:=d.fR (Kb (Db St))
   refine gC (gN ?_)
   obtain rfl:=sj a
   exact nD (v0:=Z) (v1:=(.bool false)) rfl j (fY d.has Mh (gb K7) rfl ca bj) rfl ⟨rfl,d.ex⟩
  refine kg (VA d Mh (gb c) ca bj ?_)
  replace d:=d.perm (Nb (Pb Pz) Nz)
  refine VO (ga (.agg (gb c).toArray) ((gb c).toArray) d j rfl bj (lp c) nb rfl (λp d=>Wa (ln ?_)))
  replace d:=d.fR (Kb (Db St))
  refine gC ?_
  obtain rfl:=sj a
  exact nD (v0:=(.agg (gb c).toArray)) (v1:=(.bool true)) rfl j (fY d.has Mh (gb c) rfl ca bj) rfl ⟨rfl,d.ex⟩
 refine bC i (λg i=>?_) (λg i=>?_)
 ·refine un g (un g (V (gx (cB g) rfl) ?_))
  obtain rfl:=sj i
  exact t _ _ ⟨_,(d.fR St),rfl,rfl,rfl,rfl,rfl⟩
 refine ug g (gl rfl) (ug g (kj rfl) (V (gw (cB g) rfl) ?_))
 obtain rfl:=sj i
 exact t _ _ ⟨_,(d.fR St),rfl,rfl,rfl,rfl,rfl⟩
theorem zl (a0:ByteArray) (r:List Int) (w:World) (hm:rD a0=some r) :
  iF true pg0 231 [(.string a0)] w 5 (fW .u8) 1 r:=by
 refine ua 32 func231 rfl (λd=>sg (Wa (lr (Wa (ln (gq (jS (pj (λm E W=>∃B y I t M,ST true iv w W (hp w) (t++M)∧E 0=(.string B)∧E 3=y∧gB 5 (fW .u8) 1 y I t∧kw m B I=some r) iq ⟨a0,(.slice none 0 0),([]),[],_,(d.fR St),rfl,rfl,(gB.nil _ _ _),hm⟩ ?_))))))))
 rintro m E W ⟨B,y,I,t,M,d,z,H,D,c⟩
 cases m with
 | zero=>rw [kw] at c; cases c
 | succ b5=>
  refine gq (sg (Wh z (V (iR aI rfl) (Wi rfl (ln (CI c rfl (λU c=>?_) (λU c=>?_)))))))
  ·refine kn (gq (jS (gq ?_)))
   replace d:=d.drew
   have h:=d.has.fR Sn
   refine ic h gK (X 0 rfl h (gl z) (bS c λA J c=>X 1 rfl h (qD (i:=0) aI rfl rfl (pH J) (sd J)) (X 3 rfl h (gl z) (bS c λL K c=>X 4 rfl h (qD (i:=1) aI rfl rfl (pH K) (sd K)) (bS c λu o c=>XE 2 rfl (Eg d call163 (mM K6 (A.toNat:Int) _ _  o) (λb9 d=>?_)))))))
   have h:=d.has.fR Sn
   refine ⟨h,(bS c λx a2 c=>XE 5 rfl (Eg d call163 (mM K6 (L.toNat:Int) _ _  a2) (λc0 d=>?_)))⟩
   have h:=d.has.fR Sn
   refine ⟨h,(X 6 rfl h (iM rfl) (X 7 rfl h (iM rfl) (iz kr (gj (gq (sg (Wm (Wi rfl (Wm (LJ c (λQ E W=>∃N,ST true iv w W (hp w) (t++N)∧E 0=(.string B)∧E 3=y∧E 4=(.int .i64 u)∧E 5=(.int .i64 x)∧E 22=(.bool Q)) 3 ?_ (λQ k G=>?_)))))))))))⟩
   ·rintro c3 E W ⟨N,d,a9,O,P,b2,b3⟩ g
    refine ln (CI g b3 (λY g=>?_) (λY g=>?_))
    ·refine sg (Wa (ln ?_))
     replace d:=d.fR (Dr St)
     refine gC (gN (jK (gN (gN (jK (gN ?_))))))
     obtain rfl:=sj g
     exact gZ (v:=(.slice none 0 0)) rfl rfl ⟨_,[],rfl,d.jM (λp n=>by cases n) (by simp),gB.nil _ _ _⟩
    refine kn (gn (Wh O (Wh P (Wi rfl (Wh b2 (Wi rfl (V (pa (k':=.i64) (a:=(wi0 .i64 ((wi0 .i64 (16*u))+x))) eK bK rfl) (VE (iy (cs:=[(.int .u8 (IntKind.u8.wrap (wi0 .i64 ((wi0 .i64 (16*u))+x))))].toArray) d (kA rfl) (lH aG dV fF) (λc1 q d=>?_))))))))))
    replace d:=d.perm (Nr (Qb Qz) Nz)
    refine bS g λb4 Z g=>VE (lg (enc:=(fW .u8)) (v:=y) (vs:=(.slice (some ⟨q,0,none⟩) 1 1)) (R:=t) d (λ_=>rfl) dc (qF _) aG ju.1 ju.2.1 rfl ju.2.2.1 ju.2.2.2 rfl rfl D (Sl.lit (enc:=(fW .u8)) (l:=[(IntKind.u8.wrap (wi0 .i64 ((wi0 .i64 (16*u))+x)))]) (λ_=>rfl) rfl nb rfl (d.at_ (Ma Mh))) Z (λc2 b6 a4 d T=>Wa (gJ (ig (gj ?_)))))
    replace d:=d.fR (Kr (Db St))
    exact gn (Wh a9 (bS g λb7 a3 g=>V (rq (s:=B) (i:=2) aI rfl rfl a3) (Wa (ln ⟨b5,cU _,b7,b6,b4,a4,_,(d.fR St),rfl,rfl,T,g⟩))))
   refine bC k (λj k=>?_) (λj k=>?_)
   ·refine un j (un j (V (gx (cB j) rfl) ?_))
    obtain rfl:=sj k
    exact G _ _ ⟨_,(d.fR St),z,H,rfl,rfl,rfl⟩
   refine ug j (gl rfl) (ug j (iJ rfl rfl rfl) (V (gw (cB j) rfl) ?_))
   obtain rfl:=sj k
   exact G _ _ ⟨_,(d.fR St),z,H,rfl,rfl,rfl⟩
  refine pd (oA (oA (uo (gj (sg (Wh H (Wa (lt ?_))))))))
  obtain rfl:=sj c
  exact gZ (v:=y) rfl rfl ⟨_,t,rfl,d.jM (λp n=>(Ml n)) D.nd,D⟩
theorem yp (a0:ByteArray) (r:ie) (w:World) {μ0:gm} (h0:kz μ0 [] w) (a5:ny pg0 μ0) (hm:ph a0=some r) :
  iC true pg0 167 [(.string a0)] w μ0 [] (λv L1 μ1=>∃y1 y3,v=(.agg #[(.int .i64 ((r).Kind)),(.int .i64 ((r).gY)),(.int .i64 ((r).E)),(.string ((r).Name)),y1,y3])∧L1=[]∧Sl (Pl fS) 2 μ1 y1 ((r).gA)∧Sl gr 10 μ1 y3 ((r).gv)):=by
 refine yX h0 74 func167 rfl (λd=>sg (VE (gy d bq (λW2 b1 d=>lr (V (ia (v:=(.agg HT.toArray)) (kA rfl) (gG bq aW (qV _ aW) kr)) (VE (gy d bq (λW4 b3 d=>VO (ga (.agg HT.toArray) (HT.toArray) d rfl rfl aO oc nb rfl (λW5 d=>lr ?_))))))))))
 refine Wm (bS hm λr6 j5 hm=>VE (Eg d call226 (uz a0 (⟨#[119,97,110,116,115,32]⟩:ByteArray) _ _  j5) (λW8 d=>bS hm λr9 i3 hm=>VE (Eg d fO (pU r6 (⟨#[32,115,104,111,119,115,32]⟩:ByteArray) _ _ (a5.mono d.gd) i3) (λn5 d=>Wm (Wx rfl (Wx rfl (Wx rfl (Wa (Wa (Wa (ln (gq ?_)))))))))))))
 refine sg (Wm (bS hm λf0 i4 hm=>VE (nJ d call227 (vc r9.1 (⟨#[44,32]⟩:ByteArray) _ _ (a5.mono d.gd) i4) (λn6 j6 k0 j4 d T af b2=>V (oM cn rfl b2) (Wm (ln (jb (λi E W=>∃z x I c5,(E 27= .int .i64 (i:Nat)∧E 26= .int .i64 (f0.length:Nat))∧ST true (gL []) w W k0 ((b3,Ob #[(.int .i64 2),(.int .i64 0),(.int .i64 0),(.string zS),z,(.slice none 0 0)] 68)::((b1,Ol C3 68)::(I++(j4++c5))))∧E 2=(.pointer (some ⟨b1,0,none⟩))∧E 3=(.pointer (some ⟨b3,0,none⟩))∧E 5=(.string r9.2.1)∧E 25=j6∧gB 27 fS 2 z x I∧ke r9 (f0.drop i) x=some r) f0.length b2.len ⟨(.slice none 0 0),([]),[],_,⟨rfl,rfl⟩,(d.fR (Sb (Pr Pz) (Sb (Pr Pz) St))),rfl,rfl,rfl,rfl,(gB.nil _ _ _),hm⟩ dc dc dc (λ_ _ _ h=>by obtain ⟨_,_,_,_,L,_⟩:=h; exact L) ?_ ?_)))))))
 ·rintro i5 E W f3 ⟨z,x,I,c5,⟨A,eN⟩,d,d0,a3,d1,d2,U,g⟩
  obtain ⟨d8,k1,g9,e3,h1⟩:=iK f3
  rw [g9] at g
  refine bg (VQ (mj (i:=(i5:Int)) (x0:=d8) cn dm d2 A b2 (aV _) e3) (λm5 f7=>V (fU rfl (wK d.has (λp hq=>(Mt (Mt (Ma (Ml hq))))) b2 (λ_=>rfl) f7 e3 (y:=(.string d8)) rfl bG)) (Wa (lr (Wm (bS g λD f9 g=>VE (Eg d call228 (oN d8 _ _ (a5.mono (T.trans d.gd)) f9) (λk5 d=>Wm (Wx rfl ?_)))))))))
  refine Wx rfl (VE (gy d bL (λk6 m1 d=>VO (ga (.agg (fS D.1).toArray) ((fS D.1).toArray) d rfl rfl aD (iH D.1) nb rfl (λk7 d=>Wa (ln (gn (V (fZ nG a3) (VB d (Mt Mh) rfl rfl eV (VA d Mh (fS D.1) aX aD (VE (iy (cs:=(fS D.1).toArray) d (kA rfl) (lH aP aD bL) (λk8 i1 d=>?_)))))))))))))
  replace d:=d.perm (Nr (Qb (Qb (Qb (Qb Qz)))) Nz)
  refine bS g λb5 f1 g=>VE (lg (enc:=fS) (v:=z) (vs:=(.slice (some ⟨i1,0,none⟩) 1 1)) (R:=I) d jl dc iH aP ob.1 ob.2.1 rfl ob.2.2.1 ob.2.2.2 rfl rfl U (Sl.lit (enc:=fS) (l:=[D.1]) jl rfl nb rfl (d.at_ (Ma Mh))) f1 (λk9 m8 h7 d d9=>V (fZ nG a3) ?_))
  obtain ⟨c3,c8,rfl⟩:=d9.form
  let g6:Value:=(.slice c3 b5.length c8)
  replace d:=d.perm (Nb (Pr (Pb (Pb Pz))) Nz)
  refine VO (ga g6 (#[(.int .i64 2),(.int .i64 0),(.int .i64 0),(.string zS),g6,(.slice none 0 0)]) d rfl rfl sizeOf65 oc nb rfl (λl0 d=>gJ (ig (gj ?_))))
  replace d:=d.fR (Kb (Kr (Db (Db St))))
  exact ⟨A,g6,b5,h7,_,⟨rfl,eN⟩,(d.fR (Kb (Sb (Pr Pz) St))),d0,a3,d1,d2,d9,(by rw [h1]; exact g)⟩
 rintro E W ⟨z,x,I,c5,⟨A,eN⟩,d,d0,a3,d1,d2,U,g⟩
 rw [aZ] at g
 refine gj ?_
 replace d:=d.fR (Kb (Kb (Kr (Dr St))))
 refine gq (sg (Wh d1 (bS g λd5 g0 g=>VE (nJ d call227 (vc r9.2.1 (⟨#[59,32]⟩:ByteArray) _ _ (a5.mono (T.trans d.gd)) g0) (λl1 i7 a9 h8 d c0 O Q=>V (oM cn rfl Q) (Wm (ln (CJ g (λd7 E W=>∃b9 c7 b0 e7,gf a9 b0∧Lo (gL []) w a9 b0∧ST true (gL []) w W b0 ((b3,Ob #[(.int .i64 2),(.int .i64 0),(.int .i64 0),(.string zS),z,b9] 68)::((b1,Ol C3 68)::(c7++(I++e7))))∧E 2=(.pointer (some ⟨b1,0,none⟩))∧E 3=(.pointer (some ⟨b3,0,none⟩))∧jA 55 gr 10 b0 b9 d7 c7) (λd7 f6=>?_) ?_))))))))
 ·refine jb (λi E W=>∃a7 b6 N K c6,(E 46= .int .i64 (i:Nat)∧E 45= .int .i64 (d5.length:Nat))∧gf a9 K∧Lo (gL []) w a9 K∧ST true (gL []) w W K ((b3,Ob #[(.int .i64 2),(.int .i64 0),(.int .i64 0),(.string zS),z,a7] 68)::((b1,Ol C3 68)::(N++(h8++(I++c6)))))∧E 2=(.pointer (some ⟨b1,0,none⟩))∧E 3=(.pointer (some ⟨b3,0,none⟩))∧E 44=i7∧jA 55 gr 10 K a7 b6 N∧kT (d5.drop i) b6=some d7) d5.length Q.len ⟨(.slice none 0 0),([]),[],a9,_,⟨rfl,rfl⟩,(gf.refl _),Lo.refl,(d.fR (Sb (Pr Pz) (Sb (Pr Pz) St))),d0,a3,rfl,(jA.nil _ _ _ _),f6⟩ dc dc dc (λ_ _ _ h=>by obtain ⟨_,_,_,_,_,L,_⟩:=h; exact L) ?_ ?_
  ·rintro i6 E W f4 ⟨a7,b6,N,K,c6,⟨A,eN⟩,M,q,d,d3,a4,d4,b4,c⟩
   obtain ⟨a8,k2,h2,e4,h3⟩:=iK f4
   rw [h2] at c
   refine bg (VQ (mj (i:=(i6:Int)) (x0:=a8) cn dm d4 A Q (aV _) e4) (λm6 f8=>V (fU rfl (wK d.has (λp hq=>(Mt (Mt (Ma (Ml hq))))) Q (λ_=>rfl) f8 e4 (y:=(.string a8)) rfl bG)) (Wa (lr (Wm (bS c λd6 g1 c=>VE (Eg d call229 (zf a8 K4 _ _  g1) (λl3 d=>Wa (gJ ?_)))))))))
   refine gj (sg (Wm (Wm (V (Hu (k:=.i64) rfl rfl) (bS c λi8 h4 c=>V (sW (s:=a8) (j:=(if 0 > d6 then 0 else d6)) aI rfl rfl h4) (bS c λa g2 c=>VE (Eg d call230 (AY i8 _ _ (a5.mono (((T.trans c0).trans M).trans d.gd)) g2) (λl4 d=>Wm (Wx rfl (Wx rfl (VE (gy d bO (λl5 m2 d=>VO (ga (.agg (gb a.1).toArray) ((gb a.1).toArray) d rfl rfl bj (lp a.1) nb rfl (λl6 d=>?_)))))))))))))))
   refine Wa (ln ?_)
   replace d:=d.drew
   have n:=d.has.fR (Kb Sn)
   have o:=d.has.fR (Db (Kb Sn))
   refine vN 12 n o gK (lh 0 rfl kr (.inl rfl) rfl dc (λ_ _ h=>⟨h.1,mu br h.2⟩) ⟨n,λ_=>o⟩ (λ_ _ _ _=>fZ nC a4) (lh 1 rfl kr (.inl rfl) rfl dc (λ_ _ h=>⟨h.1,mu br h.2⟩) ⟨n,λ_=>o⟩ (λl W ag hs=>have hS:=(hs.2 (ag.B6 12 [1] kr rfl)); fU rfl (gh hS Mh rfl eW)) (lh 2 rfl kr (.inl rfl) rfl dc (λ_ _ h=>⟨h.1,mu br h.2⟩) ⟨n,λ_=>o⟩ (λl W ag hs=>have hS:=hs.1; fU rfl (fY hS Mh (gb a.1) rfl ca bj)) (lh 3 rfl kr (.inl rfl) rfl dc (λ_ _ h=>⟨h.1,mu br h.2⟩) ⟨n,λ_=>o⟩ (λ_ _ _ _=>gl rfl) (lh 4 rfl kr (.inl rfl) rfl dc (λ_ _ h=>⟨h.1,mu br h.2⟩) ⟨n,λ_=>o⟩ (λ_ _ _ _=>gl rfl) (lh 5 rfl kr (.inl rfl) rfl dc (λ_ _ h=>⟨h.1,mu br h.2⟩) ⟨n,λ_=>o⟩ (λ_ _ _ _=>iJ rfl rfl rfl) (bS c λi9 h5 c=>lh 6 rfl kr (.inl rfl) rfl dc (λ_ _ h=>⟨h.1,mu br h.2⟩) ⟨n,λ_=>o⟩ (λ_ _ _ _=>rq (s:=a8) (i:=(wi0 .i64 (d6+1))) aI rfl rfl h5) (bS c λG g3 c=>XE 7 rfl (nJ d call231 (zl i9 _ _  g3) (λl7 m9 n4 k4 d t ad e0=>?_))))))))))
   have n:=d.has.jn t (Dr (Kb Sn))
   have o:=d.has.jn t (Dr (Db (Kb Sn)))
   refine ⟨⟨n,λ_=>o⟩,?_⟩
   obtain ⟨H,J,rfl⟩:=e0.form
   let e5:=(C1 a.1.Kind a.1.Head.fX a.1.Head.Word a.1.ir a.1.B.fX a.1.B.Word a.1.C.fX a.1.C.Word a.1.gT H G.length J)
   refine lh 8 rfl kr (.inl rfl) rfl dc (λ_ _ h=>⟨h.1,mu br h.2⟩) ⟨n,λ_=>o⟩ (λ_ _ _ _=>ia (v:=(.agg e5.toArray)) (mY rfl rfl) (gG cW dr (ES _ dr) kr)) ?_
   obtain ⟨j3,d,u,ae,g8⟩:=ST.uG d e0 (λ_=>rfl)
   refine XE 9 rfl (iy (cs:=e5.toArray) d (kA rfl) (lH bH bR cW) (λl8 m3 d=>?_))
   have n:=d.has.jn (t.trans u) (Db (Kb Sn))
   have o:=d.has.jn (t.trans u) (Db (Db (Kb Sn)))
   refine ⟨⟨n,λ_=>o⟩,?_⟩
   replace d:=d.perm (Nr (Qb (Qb (Qb (Qb Qz)))) Nz)
   refine bS c λb7 f2 c=>XE 10 rfl (yM (B:=N) gO d dc bH rj.1 rj.2.1 rfl rj.2.2.1 rj.2.2.2 rfl rfl (b4.mono gO (t.trans u)) (xr.lit gO (l:=[(⟨a.1,G⟩:Signed)]) (.cons (ys:=C1 a.1.Kind a.1.Head.fX a.1.Head.Word a.1.ir a.1.B.fX a.1.B.Word a.1.C.fX a.1.C.Word a.1.gT H G.length J) (gr.mk ⟨(.slice H G.length J),rfl,g8⟩) .nil) rfl nb (d.at_ (Ma Mh))) f2 (λl9 n0 h9 d e1=>?_))
   have n:=d.has.jn (t.trans u) (Dr (Db (Kb Sn)))
   have o:=d.has.jn (t.trans u) (Dr (Db (Db (Kb Sn))))
   refine ⟨⟨n,λ_=>o⟩,(lh 11 rfl kr (.inl rfl) rfl dc (λ_ _ h=>⟨h.1,mu br h.2⟩) ⟨n,λ_=>o⟩ (λ_ _ _ _=>fZ nC a4) ?_)⟩
   obtain ⟨c4,c9,rfl⟩:=e1.form
   let h6:Value:=(.slice c4 b7.length c9)
   replace d:=d.perm (Nb (Pr (Pb (Pb Pz))) Nz)
   refine XO 12 rfl (ga h6 (#[(.int .i64 2),(.int .i64 0),(.int .i64 0),(.string zS),z,h6]) d rfl rfl sizeOf66 oc nb rfl (λm0 d=>?_))
   have n:=d.has.jn (t.trans u) (Db (Dr (Db (Kb Sn))))
   refine ⟨⟨n,λh=>vi kr h⟩,(iz kr (ig (gj ?_)))⟩
   replace d:=d.fR (Kb (Kr (Db (Db St))))
   exact ⟨A,h6,b7,h9,j3,_,⟨rfl,eN⟩,((M.trans t).trans u),((q.trans ad).trans ae),(d.fR (Kb (Sb (Pr Pz) St))),d3,a4,d4,e1,(by rw [h3]; exact c)⟩
  rintro E W ⟨a7,b6,N,K,c6,⟨A,eN⟩,M,q,d,d3,a4,d4,b4,c⟩
  rw [aZ] at c
  refine gj ?_
  obtain rfl:=sj c
  exact ⟨a7,N,K,_,M,q,(d.fR (Kb (Kb (Kr (Dr St))))),d3,a4,b4⟩
 rintro a6 E W ⟨b9,c7,b0,e7,e9,P,d,e8,i2,e2⟩ f5
 refine sg (V (fU i2 (fY d.has Mh [(.int .i64 2),(.int .i64 0),(.int .i64 0),(.string zS),z,b9] rfl bx aO)) ?_)
 obtain ⟨Y,a1,rfl⟩:=U.form
 let g5:Value:=(.slice Y x.length a1)
 obtain ⟨Z,a2,rfl⟩:=e2.form
 let e6:Value:=(.slice Z a6.length a2)
 let b8:Value:=(.agg #[(.int .i64 2),(.int .i64 0),(.int .i64 0),(.string zS),g5,e6])
 replace d:=d.perm (Nb (Pb Pz) Nz)
 refine VO (ga b8 (#[(.int .i64 2),(.int .i64 0),(.int .i64 0),(.string zS),g5,e6]) d e8 rfl aO oc nb rfl (λl2 d=>ln ?_))
 replace d:=d.fR (Kb (Db St))
 refine gC ?_
 obtain rfl:=sj f5
 refine iX (v:=b8) rfl e8 (fY d.has Mh [(.int .i64 2),(.int .i64 0),(.int .i64 0),(.string zS),g5,e6] rfl bx aO) ?_
 replace d:=d.perm (Nr (Qb (Qr Qz)) Nz)
 obtain ⟨n2,d,c1,aa,g4⟩:=ST.uG d U jl
 replace d:=d.perm (Nr (Qb Qz) Nz)
 obtain ⟨n3,d,c2,ab,g7⟩:=ST.HN gO d (e2.mono gO c1)
 exact ⟨_,_,_,rfl,(d.hU Sn),((((T.trans c0).trans e9).trans c1).trans c2),((((af.trans O).trans P).trans aa).trans ab),(ST.gp d (gX.mem Sn)),g5,e6,rfl,rfl,(g4.mono (Pl.mono _) c2),g7⟩
theorem yK (a:ByteArray) (r:Int) (w:World) (hm:uu a=some r) :
  gz true pg0 106 [(.string a)] w (.tuple #[(.int .i64 r),.nilIface]):=CB GO rfl hm
theorem zx (H:ByteArray) (r:ie) (w:World) {μ0:gm} (L:kz μ0 [] w) (u:ny pg0 μ0) (hm:ku H=some r) :
  iC true pg0 96 [(.string H)] w μ0 [] (λv L1 μ1=>∃q s,v=(.agg #[(.int .i64 ((r).Kind)),(.int .i64 ((r).gY)),(.int .i64 ((r).E)),(.string ((r).Name)),q,s])∧L1=[]∧Sl (Pl fS) 2 μ1 q ((r).gA)∧Sl gr 10 μ1 s ((r).gv)):=by
 refine yX L 48 func96 rfl (λd=>sg (VE (gy d bq (λW2 R d=>lr (Wm (bS hm λZ a3 hm=>VE (Eg d fO (pU H K4 _ _ (u.mono d.gd) a3) (λW5 d=>Wm (Wx rfl (Wx rfl (Wx rfl ?_)))))))))))
 refine Wa (Wa (Wa (lS (Wm (ln (bg (V (lA rfl rfl rfl) ?_)))))))
 refine Wa (ln (CI hm rfl (λa2 hm=>?_) (λa2 hm=>?_)))
 ·refine sg (Wm (bS hm λy a4 hm=>VE (Eg d fO (pU Z.2.1 K4 _ _ (u.mono d.gd) a4) (λW9 d=>Wm (Wx rfl (Wx rfl (Wx rfl (Wa (Wa (Wa (ln (gq ?_))))))))))))
  refine gn (Wm (bS hm λa5 Q hm=>VE (nJ d call97 (uU  _ _  Q) (λb5 A c8 b4 d D h J=>Wm (bS hm λc T hm=>VE (Eg d call166 (tP A a5 y.2.1 _ _ (J.sl (λ_=>rfl) (λb o P=>d.at_ (Ml P))) T) (λb6 d=>V (ia (v:=(.agg (C6 c y.1).toArray)) (xM rfl rfl rfl) (gG bq aW (qV _ aW) kr)) ?_)))))))
  replace d:=d.perm (Nb (Pr Pz) Nz)
  refine VO (ga (.agg (C6 c y.1).toArray) ((C6 c y.1).toArray) d rfl rfl aO oc nb rfl (λb7 d=>ln ?_))
  replace d:=d.fR (Kb (Dr St))
  refine gC (jK (gN ?_))
  obtain rfl:=sj hm
  exact iX (v:=(.agg (C6 c y.1).toArray)) rfl rfl (fY d.has Mh (C6 c y.1) rfl bx aO) ⟨_,_,_,rfl,(d.hU Sn),D,h,(ST.gp d (gX.mem Sn)),(.slice none 0 0),(.slice none 0 0),rfl,rfl,(Sl.nil _ _ _),(Sl.nil _ _ _)⟩
 refine sg (V (lA rfl rfl rfl) (Wa (ln (CI hm rfl (λK hm=>?_) (λK hm=>?_)))))
 ·refine sg (Wm (bS hm λa U hm=>?_))
  refine VE (eD d (cj _) call167 (λO=>(yp Z.2.1 _ _ O (u.mono (gf.refl _)) U)) ?_ (L0:=[]))
  rintro _ c5 c9 W d G n ⟨c6,c7,x,rfl,z,B⟩
  obtain rfl:=x.symm
  obtain ⟨i,k,rfl⟩:=z.form
  let a0:Value:=(.slice i ((a).gA).length k)
  obtain ⟨j,t,rfl⟩:=B.form
  let p:Value:=(.slice j ((a).gv).length t)
  let I:Value:=(.agg #[(.int .i64 ((a).Kind)),(.int .i64 ((a).gY)),(.int .i64 ((a).E)),(.string ((a).Name)),a0,p])
  refine VO (ga I (#[(.int .i64 ((a).Kind)),(.int .i64 ((a).gY)),(.int .i64 ((a).E)),(.string ((a).Name)),a0,p]) d rfl rfl aO oc nb rfl (λc0 d=>lt (jK (gN ?_))))
  obtain rfl:=sj hm
  exact iX (v:=I) rfl rfl (fY d.has Mh [(.int .i64 ((a).Kind)),(.int .i64 ((a).gY)),(.int .i64 ((a).E)),(.string ((a).Name)),a0,p] rfl bx aO) ⟨_,_,_,rfl,(d.hU Sn),G,n,(ST.gp d (gX.mem Sn)),a0,p,rfl,rfl,z,B⟩
 refine sg (V (lA rfl rfl rfl) (Wa (ln (CI hm rfl (λM hm=>?_) (λM hm=>?_)))))
 ·refine sg (V (ia (v:=(.agg C8.toArray)) (kA rfl) (gG bq aW (qV _ aW) kr)) (VO (ga (.agg C8.toArray) (C8.toArray) d rfl rfl aO oc nb rfl (λc1 d=>lt (jK (gN ?_))))))
  obtain rfl:=sj hm
  exact iX (v:=(.agg C8.toArray)) rfl rfl (fY d.has Mh C8 rfl bx aO) ⟨_,_,_,rfl,(d.hU Sn),(gf.refl _),Lo.refl,(ST.gp d (gX.mem Sn)),(.slice none 0 0),(.slice none 0 0),rfl,rfl,(Sl.nil _ _ _),(Sl.nil _ _ _)⟩
 refine sg (V (lA rfl rfl rfl) (Wa (ln (CI hm rfl (λN hm=>?_) (λN hm=>?_)))))
 ·refine sg (V (ia (v:=(.agg C9.toArray)) (kA rfl) (gG bq aW (qV _ aW) kr)) (VO (ga (.agg C9.toArray) (C9.toArray) d rfl rfl aO oc nb rfl (λc2 d=>lt (jK (gN ?_))))))
  obtain rfl:=sj hm
  exact iX (v:=(.agg C9.toArray)) rfl rfl (fY d.has Mh C9 rfl bx aO) ⟨_,_,_,rfl,(d.hU Sn),(gf.refl _),Lo.refl,(ST.gp d (gX.mem Sn)),(.slice none 0 0),(.slice none 0 0),rfl,rfl,(Sl.nil _ _ _),(Sl.nil _ _ _)⟩
 refine iD (ig (gj (sg (Wm (bS hm λg Y hm=>VE (Eg d call106 (yK Z.2.1 _ _  Y) (λc3 d=>Wm (Wx rfl (Wx rfl (Wa (Wa (ln ?_))))))))))))
 refine sg (Wm (V (ia (v:=(.agg (C7 g).toArray)) (mY rfl rfl) (gG bq aW (qV _ aW) kr)) (VO (ga (.agg (C7 g).toArray) ((C7 g).toArray) d rfl rfl aO oc nb rfl (λc4 d=>lt ?_)))))
 obtain rfl:=sj hm
 exact iX (v:=(.agg (C7 g).toArray)) rfl rfl (fY d.has Mh (C7 g) rfl bx aO) ⟨_,_,_,rfl,(d.hU Sn),(gf.refl _),Lo.refl,(ST.gp d (gX.mem Sn)),(.slice none 0 0),(.slice none 0 0),rfl,rfl,(Sl.nil _ _ _),(Sl.nil _ _ _)⟩
theorem CC (a:ie) (k j:Value) (r:ie) (w:World) {J:gm} (h0:kz J [] w) (i:Sl (Pl fS) 2 J k a.gA) (g:Sl gr 10 J j a.gv) (hm:uh a=some r) :
  iC true pg0 92 [(.agg #[(.int .i64 a.Kind),(.int .i64 a.gY),(.int .i64 a.E),(.string a.Name),k,j])] w J [] (λv L1 μ1=>∃O P,v=(.agg #[(.int .i64 ((r).Kind)),(.int .i64 ((r).gY)),(.int .i64 ((r).E)),(.string ((r).Name)),O,P])∧L1=[]∧Sl (Pl fS) 2 μ1 O ((r).gA)∧Sl gr 10 μ1 P ((r).gv)):=by
 let n:Value:=(.int .i64 a.Kind)
 refine yX h0 31 func92 rfl (λd=>sg ?_)
 obtain ⟨N,Q,rfl⟩:=i.form
 let p:Value:=(.slice N a.gA.length Q)
 obtain ⟨Y,Z,rfl⟩:=g.form
 let q:Value:=(.slice Y a.gv.length Z)
 refine VE (jr d rfl (λW6 b5 d=>VE (gy d bq (λW8 A d=>lr (Wf om (VB d (Mt Mh) rfl rfl bY (V (ia (v:=(.agg (C5 a.Kind).toArray)) (kA rfl) (gG bq aW (qV _ aW) kr)) (VE (gy d bq (λb6 L d=>VO (ga (.agg (C5 a.Kind).toArray) ((C5 a.Kind).toArray) d rfl rfl aO oc nb rfl (λc0 d=>ln (gq (CJ hm (λt E W=>∃K M s,ST true (gL []) w W J ((L,Ob #[n,(.int .i64 t.1),(.int .i64 t.2.1),(.string t.2.2.1),K,M] 68)::((A,Ol C3 68)::s))∧E 2=(.pointer (some ⟨A,0,none⟩))∧E 3=(.pointer (some ⟨L,0,none⟩))∧Sl (Pl fS) 2 J K t.2.2.2.1∧Sl gr 10 J M t.2.2.2.2) (λt c=>?_) ?_))))))))))))))
 ·refine sg (Wf om (VB d (Mt (Mt Mh)) rfl rfl bY (ln (bg (Wi rfl (Wa (ln (CI c rfl (λa3 c=>?_) (λa3 c=>?_)))))))))
  ·replace d:=d.drew
   have h:=d.has.fR (Db (Db (Kb Sn)))
   refine ic h gK (X 0 rfl h (fZ qo rfl) (XH 1 rfl h (λ_ o=>fU rfl (gh o Mh rfl bG)) (X 2 rfl h (fZ pw rfl) (XH 3 rfl h (λ_ o=>fU rfl (gh o Mh rfl bY)) (X 4 rfl h (fZ qo rfl) (XO 5 rfl (ga (.string a.Name) (#[n,(.int .i64 0),(.int .i64 0),(.string a.Name),(.slice none 0 0),(.slice none 0 0)]) d rfl rfl dm (vx a.Name) nb rfl (λc3 d=>?_))))))))
   have h:=d.has.fR (Db (Db (Kb Sn)))
   refine ⟨h,(X 6 rfl h (fZ pw rfl) (XO 7 rfl (ga (.int .i64 a.gY) (#[n,(.int .i64 a.gY),(.int .i64 0),(.string a.Name),(.slice none 0 0),(.slice none 0 0)]) d rfl rfl eo (qF _ a.gY) nb rfl (λc5 d=>?_))))⟩
   have h:=d.has.fR (Db (Db (Kb Sn)))
   refine ⟨h,(iz kr (ig (gj ?_)))⟩
   obtain rfl:=sj c
   exact ⟨(.slice none 0 0),(.slice none 0 0),_,(d.fR (Kb (Kb (Db St)))),rfl,rfl,(Sl.nil _ _ _),(Sl.nil _ _ _)⟩
  refine sg (Wi rfl (Wa (ln (CI c rfl (λa4 c=>?_) (λa4 c=>?_)))))
  ·replace d:=d.drew
   have h:=d.has.fR (Db (Db (Kb Sn)))
   refine ic h gK (X 0 rfl h (fZ nG rfl) (XH 1 rfl h (λ_ o=>fU rfl (gh o Mh rfl eV)) (X 2 rfl h (fZ nC rfl) (XH 3 rfl h (λ_ o=>fU rfl (gh o Mh rfl eW)) (X 4 rfl h (fZ nG rfl) (XO 5 rfl (ga p (#[n,(.int .i64 0),(.int .i64 0),(.string zS),p,(.slice none 0 0)]) d rfl rfl sizeOf65 oc nb rfl (λc6 d=>?_))))))))
   have h:=d.has.fR (Db (Db (Kb Sn)))
   refine ⟨h,(X 6 rfl h (fZ nC rfl) (XO 7 rfl (ga q (#[n,(.int .i64 0),(.int .i64 0),(.string zS),p,q]) d rfl rfl sizeOf66 oc nb rfl (λc7 d=>?_))))⟩
   have h:=d.has.fR (Db (Db (Kb Sn)))
   refine ⟨h,(iz kr (ig (gj ?_)))⟩
   obtain rfl:=sj c
   exact ⟨p,q,_,(d.fR (Kb (Kb (Db St)))),rfl,rfl,i,g⟩
  refine sg (Wi rfl (Wa (ln (CI c rfl (λa5 c=>?_) (λa5 c=>?_)))))
  ·refine gn (Wf qk (VB d (Mt (Mt Mh)) rfl rfl bY (Wf qk (VO (ga (.int .i64 a.E) (#[n,(.int .i64 0),(.int .i64 a.E),(.string zS),(.slice none 0 0),(.slice none 0 0)]) d rfl rfl eo (qF _ a.E) nb rfl (λc8 d=>gJ (ig (gj ?_))))))))
   obtain rfl:=sj c
   exact ⟨(.slice none 0 0),(.slice none 0 0),_,(d.fR (Kb (Kb (Db St)))),rfl,rfl,(Sl.nil _ _ _),(Sl.nil _ _ _)⟩
  refine iD (ig (gj ?_))
  obtain rfl:=sj c
  exact ⟨(.slice none 0 0),(.slice none 0 0),_,(d.fR (Kb (Kb (Db St)))),rfl,rfl,(Sl.nil _ _ _),(Sl.nil _ _ _)⟩
 rintro ⟨G,H,I,B,D⟩ E W ⟨K,M,s,d,a2,a9,T,U⟩ R
 refine sg (V (fU a9 (fY d.has Mh [n,(.int .i64 G),(.int .i64 H),(.string I),K,M] rfl bx aO)) ?_)
 obtain ⟨u,y,rfl⟩:=T.form
 obtain ⟨x,z,rfl⟩:=U.form
 let a0:=(C2 a.Kind G H I u B.length y x D.length z)
 replace d:=d.perm (Nb (Pb Pz) Nz)
 refine VO (ga (.agg a0.toArray) (a0.toArray) d a2 rfl aO oc nb rfl (λc1 d=>ln ?_))
 replace d:=d.fR (Kb (Db St))
 refine gC ?_
 obtain rfl:=sj R
 exact iX (v:=(.agg a0.toArray)) rfl a2 (fY d.has Mh a0 rfl bx aO) ⟨_,_,_,rfl,(d.hU Sn),(gf.refl _),Lo.refl,(ST.gp d (gX.mem Sn)),(.slice u B.length y),(.slice x D.length z),rfl,rfl,T,U⟩
theorem qJ (t:Value) (y:List fQ) (u:Value) (K:List fQ) (r:Bool) (w:World) (c:Sl (Pl fS) 2 (hp w) t y) (z:Sl (Pl fS) 2 (hp w) u K) (hm:kY y K=some r) :
  gz true pg0 99 [t,u] w (.bool r):=by
 refine cG 26 func99 rfl (λn=>sg (Wa (lS (Wm (V (iI aP rfl c) (Wm (V (iI aP rfl z) (Wi rfl (gJ ?_)))))))))
 refine gj (CI hm rfl (λU hm=>?_) (λU hm=>?_))
 ·refine sg (Wa (lt (gN ?_)))
  obtain rfl:=sj hm
  exact rP n
 refine kS (Wm (V (iI aP rfl c) (Wm (ln (jb (λi E W=>∃g,(E 13= .int .i64 (i:Nat)∧E 12= .int .i64 (y.length:Nat))∧ST true iv w W (hp w) g∧E 0=t∧E 1=u∧jH K (y.drop i) i=some r) y.length c.len ⟨_,⟨rfl,rfl⟩,(n.fR St),rfl,rfl,hm⟩ dc dc dc (λ_ _ _ h=>by obtain ⟨_,p,_⟩:=h; exact p) ?_ ?_)))))
 ·rintro I E W M ⟨g,⟨o,s⟩,n,j,k,a⟩
  obtain ⟨J,a3,Q,N,T⟩:=iK M
  rw [Q] at a
  refine bg (Wh o (Wa (ln (gq ?_))))
  replace n:=n.drew
  have d:=n.has.fR Sn
  refine ic d gK (X 0 rfl d (gl j) (X 1 rfl d (gl rfl) (XQ 2 rfl d (ll (enc:=fS) (i:=(I:Int)) (x0:=J) aP aD rfl rfl c (aV _) N) (λY G=>XH 3 rfl d (λ_ q=>fU rfl (kf q G aX aD)) (X 4 rfl d (gl k) (X 5 rfl d (gl rfl) (bS a λB x a=>XQ 6 rfl d (ll (enc:=fS) (i:=(I:Int)) (x0:=B) aP aD rfl rfl z (jL x) (je x)) (λZ H=>XH 7 rfl d (λ_ q=>fU rfl (kf q H aX aD)) (X 8 rfl d (Ga rfl rfl (rf eqGuardType27) (BW (qL _ J B))) (iz kr (gj (CI a rfl (λD a=>?_) (λD a=>?_)))))))))))))
  ·refine sg (Wa (lt (jK (gN (jK (gN ?_))))))
   obtain rfl:=sj a
   exact rP n
  exact iD (ig (gj ⟨o,_,⟨rfl,s⟩,(n.fR St),j,k,(by rw [T]; exact a)⟩))
 rintro E W ⟨g,⟨o,s⟩,n,j,k,a⟩
 rw [aZ] at a
 exact gj (sg (Wa (lt (rQ a n))))
theorem kV (G:Value) (N:List Signed) (H:Value) (o:List Signed) (I:Value) (f2:(Signed×Signed)→Option Bool) (r:Bool) (w:World) (x:Sl gr 10 (hp w) G N) (Q:Sl gr 10 (hp w) H o) (s:Ba pg0 I (hp w) (CK gr gr) (λ(r:Bool)=>(.bool r)) f2) (hm:gD N o f2=some r) :
  gz false pg0 100 [G,H,I] w (.bool r):=by
 refine cG 32 func100 rfl (λd=>sg (Wa (lS (Wm (V (iI bH rfl x) (Wm (V (iI bH rfl Q) (Wi rfl (gJ ?_)))))))))
 refine gj (CI hm rfl (λA hm=>?_) (λA hm=>?_))
 ·refine sg (Wa (lt (gN ?_)))
  obtain rfl:=sj hm
  exact rP d
 refine kS (Wm (V (iI bH rfl x) (Wm (ln (jb (λi E W=>∃y,(E 17= .int .i64 (i:Nat)∧E 16= .int .i64 (N.length:Nat))∧ST false iv w W (hp w) y∧E 1=H∧E 2=I∧E 15=G∧gi o f2 (N.drop i) i=some r) N.length x.len ⟨_,⟨rfl,rfl⟩,(d.fR St),rfl,rfl,rfl,hm⟩ dc dc dc (λ_ _ _ h=>by obtain ⟨_,p,_⟩:=h; exact p) ?_ ?_)))))
 ·rintro a4 E W U ⟨y,⟨n,q⟩,d,z,B,D,g⟩
  obtain ⟨c,c5,a9,v,a3⟩:=iK U
  rw [a9] at g
  refine bg (Wh n (VQ (nZ (i:=(a4:Int)) (x0:=c) gr.out bH bR D n x (aV _) v) (λb9 ⟨_,⟨c2,rfl,J⟩,Y⟩=>V (fU rfl (kf d.has Y eG bR)) (VE (gy d cW (λL b6 d=>Wa ?_))))))
  obtain ⟨j,t,rfl⟩:=J.form
  let a0:=(C1 c.fP.Kind c.fP.Head.fX c.fP.Head.Word c.fP.ir c.fP.B.fX c.fP.B.Word c.fP.C.fX c.fP.C.Word c.fP.gT j c.Tag.length t)
  refine VO (ga (.agg a0.toArray) (a0.toArray) d rfl rfl bR oc nb rfl (λO d=>lr (Wh z (Wm (bS g λa M g=>VQ (nZ (i:=(a4:Int)) (x0:=a) gr.out bH bR rfl rfl Q (jL M) (je M)) (λc0 ⟨_,⟨c3,rfl,K⟩,Z⟩=>V (fU rfl (kf d.has Z eG bR)) (VE (gy d cW (λP b7 d=>?_)))))))))
  obtain ⟨k,u,rfl⟩:=K.form
  let a5:=(C1 a.fP.Kind a.fP.Head.fX a.fP.Head.Word a.fP.ir a.fP.B.fX a.fP.B.Word a.fP.C.fX a.fP.C.Word a.fP.gT k a.Tag.length u)
  refine VO (ga (.agg a5.toArray) (a5.toArray) d rfl rfl bR oc nb rfl (λR d=>lr (Wh B (VA d (Mt Mh) a0 eG bR (VA d Mh a5 eG bR (bS g λc1 a2 g=>VE (Iu (c,a) d s (gf.refl _) (CK.mk gO gO (gr.mk ⟨(.slice j c.Tag.length t),rfl,J⟩) (gr.mk ⟨(.slice k a.Tag.length u),rfl,K⟩) d.gd) rfl (jG rfl rfl) a2 (λb5 d=>V (kj rfl) (ln ?_)))))))))
  replace d:=d.fR (Db (Db St))
  refine CI g rfl (λT g=>?_) (λT g=>?_)
  ·refine sg (Wa (lt (jK (gN (jK (gN ?_))))))
   obtain rfl:=sj g
   exact rP d
  exact iD (ig (gj ⟨n,_,⟨rfl,q⟩,(d.fR St),z,B,D,(by rw [a3]; exact g)⟩))
 rintro E W ⟨y,⟨n,q⟩,d,z,B,D,g⟩
 rw [aZ] at g
 exact gj (sg (Wa (lt (rQ g d))))
theorem ve (a:Value) (j:List Int) (c:Value) (k:List Int) (r:Bool) (w:World) (g:Sl (Pl (fW .u8)) 1 (hp w) a j) (i:Sl (Pl (fW .u8)) 1 (hp w) c k) (hm:mV j k=some r) :
  gz true pg0 72 [a,c] w (.bool r):=by
 refine cG 10 func72 rfl (λd=>sg (Wa (lr (Wm (V (mT aG bK aI rfl (g.mono (Pl.mono _) d.gd)) (Wm (V (mT aG bK aI rfl (i.mono (Pl.mono _) d.gd)) (V (lA rfl rfl rfl) (Wa (gJ ?_))))))))))
 exact gj (gC (rQ hm d))
theorem wV (a:Signed) (t:Value) (c:Signed) (u:Value) (r:Bool) (w:World) (j:Sl (Pl (fW .u8)) 1 (hp w) t a.Tag) (k:Sl (Pl (fW .u8)) 1 (hp w) u c.Tag) (hm:jO a c=some r) :
  gz true pg0 101 [(.agg #[(.int .i64 a.fP.Kind),(.string a.fP.Head.fX),(.string a.fP.Head.Word),(.string a.fP.ir),(.string a.fP.B.fX),(.string a.fP.B.Word),(.string a.fP.C.fX),(.string a.fP.C.Word),(.string a.fP.gT),t]),(.agg #[(.int .i64 c.fP.Kind),(.string c.fP.Head.fX),(.string c.fP.Head.Word),(.string c.fP.ir),(.string c.fP.B.fX),(.string c.fP.B.Word),(.string c.fP.C.fX),(.string c.fP.C.Word),(.string c.fP.gT),u])] w (.bool r):=by
 refine cG 17 func101 rfl (λd=>sg ?_)
 obtain ⟨G,I,rfl⟩:=j.form
 refine VE (jr d rfl (λU Z d=>?_))
 obtain ⟨H,J,rfl⟩:=k.form
 refine VE (jr d rfl (λY h d=>Wa (lr (Wf qg (VA d (Mt Mh) (gb a.fP) ca bj (Wf qg (VA d Mh (gb c.fP) ca bj (V (Dd rfl rfl (rf eqGuardType52) (yj (AS _ a.fP c.fP))) (Wm (LJ hm (λz E W=>∃y,ST true iv w W (hp w) y∧E 4=(.bool false)∧E 16=(.bool z)) 6 ?_ (λz i x=>?_)))))))))))
 ·rintro T E W ⟨y,d,N,K⟩ B
  exact Wg K (lt (rQ B d))
 refine bC i (λg i=>?_) (λg i=>?_)
 ·refine ug g (fZ ss rfl) (ug g (fU rfl (gh d.has (Mt Mh) rfl bX)) (ug g (fZ ss rfl) (ug g (fU rfl (gh d.has Mh rfl bX)) (bS i λQ D i=>nN g (Eg d call72 (ve (.slice G a.Tag.length I) a.Tag (.slice H c.Tag.length J) c.Tag _ _ (j.mono (Pl.mono _) d.gd) (k.mono (Pl.mono _) d.gd) D) (λM d=>V (gx (cB g) rfl) ?_))))))
  obtain rfl:=sj i
  exact x _ _ ⟨_,(d.fR (Db (Db St))),rfl,rfl⟩
 refine un g (un g (un g (un g (un g (V (gw (cB g) rfl) ?_)))))
 obtain rfl:=sj i
 exact x _ _ ⟨_,(d.fR (Db (Db St))),rfl,rfl⟩
theorem xl (a:ie) (I H:Value) (c:ie) (K J:Value) (r:Bool) (w:World) (B:Sl (Pl fS) 2 (hp w) I a.gA) (z:Sl gr 10 (hp w) H a.gv) (G:Sl (Pl fS) 2 (hp w) K c.gA) (D:Sl gr 10 (hp w) J c.gv) (hm:oa a c=some r) :
  gz false pg0 34 [(.agg #[(.int .i64 a.Kind),(.int .i64 a.gY),(.int .i64 a.E),(.string a.Name),I,H]),(.agg #[(.int .i64 c.Kind),(.int .i64 c.gY),(.int .i64 c.E),(.string c.Name),K,J])] w (.bool r):=by
 refine cG 47 func34 rfl (λd=>sg ?_)
 obtain ⟨A1,c2,rfl⟩:=B.form
 obtain ⟨A3,P,rfl⟩:=z.form
 let a0:=(C2 a.Kind a.gY a.E a.Name A1 a.gA.length c2 A3 a.gv.length P)
 refine VE (jr d rfl (λW6 Y d=>?_))
 obtain ⟨A7,c8,rfl⟩:=G.form
 obtain ⟨A9,U,rfl⟩:=D.form
 let h:=(C2 c.Kind c.gY c.E c.Name A7 c.gA.length c8 A9 c.gv.length U)
 refine VE (jr d rfl (λf1 M d=>Wa (lr (Wf om (VB d (Mt Mh) rfl rfl bY (Wf om (VB d Mh rfl rfl bY (Wi rfl (Wm (LJ hm (λd3 E W=>∃c1,ST false iv w W (hp w) ((M,Ol h 68)::((Y,Ol a0 68)::c1))∧E 2=(.pointer (some ⟨Y,0,none⟩))∧E 3=(.pointer (some ⟨M,0,none⟩))∧E 17=(.bool d3)) 6 ?_ (λd3 T a5=>?_)))))))))))
 ·let o:Value:=(.pointer (some ⟨M,0,none⟩))
  let n:Value:=(.pointer (some ⟨Y,0,none⟩))
  rintro f6 E W ⟨c1,d,p,q,e1⟩ d4
  refine Wh e1 (LJ d4 (λd2 E W=>∃O,ST false iv w W (hp w) ((M,Ol h 68)::((Y,Ol a0 68)::O))∧E 2=n∧E 3=o∧E 24=(.bool d2)) 6 ?_ (λd2 Q a4=>?_))
  ·rintro f7 E W ⟨O,d,s,v,e2⟩ d5
   refine Wh e2 (LJ d5 (λd1 E W=>∃R,ST false iv w W (hp w) ((M,Ol h 68)::((Y,Ol a0 68)::R))∧E 2=n∧E 3=o∧E 31=(.bool d1)) 6 ?_ (λd1 N a3=>?_))
   ·rintro f8 E W ⟨R,d,A,L,e3⟩ d6
    refine Wg e3 (lr (Wm (Wm (LJ d6 (λd0 E W=>∃c6,ST false iv w W (hp w) ((M,Ol h 68)::((Y,Ol a0 68)::c6))∧E 2=n∧E 3=o∧E 39=(.bool d0)) 6 ?_ (λd0 y a2=>?_)))))
    ·rintro f9 E W ⟨c6,d,e4,e5,e6⟩ d7
     refine Wh e6 (LJ d7 (λc9 E W=>∃c7,ST false iv w W (hp w) c7∧E 46=(.bool c9)) 6 ?_ (λc9 u Z=>?_))
     ·rintro g0 E W ⟨c7,d,e7⟩ d8
      exact Wg e7 (lt (rQ d8 d))
     refine bC u (λt u=>?_) (λt u=>?_)
     ·refine ug t (fZ nC e4) (ug t (fU rfl (gh d.has (Mt Mh) rfl eW)) (ug t (fZ nC e5) (ug t (fU rfl (gh d.has Mh rfl eW)) (bS u λf4 d9 u=>nN t (Eg d call100 (kV (.slice A3 a.gv.length P) a.gv (.slice A9 c.gv.length U) c.gv (.func (.func 101) #[] #[]) (λ(x:(Signed×Signed))=>jO x.1 x.2) _ _ (z.mono gO.mono d.gd) (D.mono gO.mono d.gd) ⟨101,#[],#[],rfl,call101,λW x vs r hs hR hm=>by obtain ⟨_,_,rfl,e8,e9⟩:=hR; obtain ⟨u0,rfl,k0⟩:=e8.out; obtain ⟨t0,rfl,j0⟩:=e9.out; exact (wV x.1 u0 x.2 t0 r W k0 j0 hm).gV⟩ d9) (λf2 d=>V (gx (cB t) rfl) ?_))))))
      obtain rfl:=sj u
      exact Z _ _ ⟨_,(d.fR (Db (Db St))),rfl⟩
     refine un t (un t (un t (un t (un t (V (gw (cB t) rfl) ?_)))))
     obtain rfl:=sj u
     exact Z _ _ ⟨_,(d.fR (Db (Db St))),rfl⟩
    refine bC y (λk y=>?_) (λk y=>?_)
    ·refine ug k (fZ nG A) (ug k (fU rfl (gh d.has (Mt Mh) rfl eV)) (ug k (fZ nG L) (ug k (fU rfl (gh d.has Mh rfl eV)) (bS y λf5 e0 y=>nN k (Eg d call99 (gz.gV (qJ (.slice A1 a.gA.length c2) a.gA (.slice A7 c.gA.length c8) c.gA _ _ (B.mono (Pl.mono _) d.gd) (G.mono (Pl.mono _) d.gd) e0)) (λf3 d=>V (gx (cB k) rfl) ?_))))))
     obtain rfl:=sj y
     exact a2 _ _ ⟨_,(d.fR St),A,L,rfl⟩
    refine un k (un k (un k (un k (un k (V (gw (cB k) rfl) ?_)))))
    obtain rfl:=sj y
    exact a2 _ _ ⟨_,(d.fR St),A,L,rfl⟩
   refine bC N (λj N=>?_) (λj N=>?_)
   ·refine ug j (fZ qo s) (ug j (fU rfl (gh d.has (Mt Mh) rfl bG)) (ug j (fZ qo v) (ug j (fU rfl (gh d.has Mh rfl bG)) (ug j (lA rfl rfl rfl) (V (gx (cB j) rfl) ?_)))))
    obtain rfl:=sj N
    exact a3 _ _ ⟨_,(d.fR St),s,v,rfl⟩
   refine un j (un j (un j (un j (un j (V (gw (cB j) rfl) ?_)))))
   obtain rfl:=sj N
   exact a3 _ _ ⟨_,(d.fR St),s,v,rfl⟩
  refine bC Q (λi Q=>?_) (λi Q=>?_)
  ·refine ug i (fZ qk p) (ug i (fU rfl (gh d.has (Mt Mh) rfl bY)) (ug i (fZ qk q) (ug i (fU rfl (gh d.has Mh rfl bY)) (ug i (iJ rfl rfl rfl) (V (gx (cB i) rfl) ?_)))))
   obtain rfl:=sj Q
   exact a4 _ _ ⟨_,(d.fR St),p,q,rfl⟩
  refine un i (un i (un i (un i (un i (V (gw (cB i) rfl) ?_)))))
  obtain rfl:=sj Q
  exact a4 _ _ ⟨_,(d.fR St),p,q,rfl⟩
 refine bC T (λg T=>?_) (λg T=>?_)
 ·refine ug g (fZ pw rfl) (ug g (fU rfl (gh d.has (Mt Mh) rfl bY)) (ug g (fZ pw rfl) (ug g (fU rfl (gh d.has Mh rfl bY)) (ug g (iJ rfl rfl rfl) (V (gx (cB g) rfl) ?_)))))
  obtain rfl:=sj T
  exact a5 _ _ ⟨_,(d.fR St),rfl,rfl,rfl⟩
 refine un g (un g (un g (un g (un g (V (gw (cB g) rfl) ?_)))))
 obtain rfl:=sj T
 exact a5 _ _ ⟨_,(d.fR St),rfl,rfl,rfl⟩
theorem vm (g:Value) (i r:List fQ) (w:World) (a:Sl (Pl fS) 2 (hp w) g i) (hm:kZ i=some r) :
  iF true pg0 222 [g] w 27 fS 2 r:=by
 unfold kZ at hm
 refine ua 8 func222 rfl (λd=>sg (Wa (lS (Wm ?_))))
 obtain ⟨y,B,rfl⟩:=a.form
 refine V (yL aP rfl rfl) (ln ?_)
 rcases y with _ | z
 ·have u:=a.isNil
  replace hm:some []=some r:=by rw [u] at hm; simpa [ja,maxLen] using hm
  refine qf (rfl) (sg (Wa (lt (gN ?_))))
  obtain rfl:=sj hm
  exact gZ (v:=(.slice none 0 0)) rfl rfl ⟨_,[],rfl,d.jM (λp h=>by cases h) (by simp),gB.nil _ _ _⟩
 ·refine kH (rfl) (kg (VE (iy (cs:=#[]) d lb (yB [] aP aD bL dc rfl (by simp) rfl rfl) (λG k d=>Wm (bS hm λH t hm=>VE (lg (enc:=fS) (v:=(.slice (some ⟨k,0,none⟩) 0 0)) (vs:=(.slice (some z) i.length B)) (R:=[(k,Ob #[] 27)]) d jl dc iH aP ob.1 ob.2.1 rfl ob.2.2.1 ob.2.2.2 rfl rfl (gB.lit (l:=[]) (enc:=fS) rfl dc rfl rfl) (a.mono (Pl.mono _) d.gd) t (λD x j d c=>Wa (lt ?_))))))))
  obtain rfl:=sj hm
  exact gZ (v:=x) rfl rfl ⟨_,j,rfl,d.jM (λp h=>(Ml h)) c.nd,c⟩
theorem sC (g:Value) (t:List fQ) (j:Value) (B:fQ→Option Bool) (r:Int) (w:World) (c:Sl (Pl fS) 2 (hp w) g t) (D:vu pg0 j (hp w) (λ(x:fQ)=>[(.agg (fS x).toArray)]) (λ(r:Bool)=>(.bool r)) B) (hm:mQ t B=some r) :
  gz false pg0 283 [g,j] w (.int .i64 r):=by
 refine cG 19 func283 rfl (λd=>sg (Wa (lS (Wm (V (iI aP rfl c) (Wm (ln (jb (λi E W=>∃k,(E 8= .int .i64 (i:Nat)∧E 7= .int .i64 (t.length:Nat))∧ST false iv w W (hp w) k∧E 0=g∧E 1=j∧jz B (t.drop i) i=some r) t.length c.len ⟨_,⟨rfl,rfl⟩,(d.fR St),rfl,rfl,hm⟩ dc dc dc (λ_ _ _ h=>by obtain ⟨_,o,_⟩:=h; exact o) ?_ ?_))))))))
 ·rintro Q E W H ⟨k,⟨n,p⟩,d,u,y,a⟩
  obtain ⟨z,T,M,K,N⟩:=iK H
  rw [M] at a
  refine bg (Wh n (Wa (lr (Wh y (Wh u (Wm (VQ (ll (enc:=fS) (i:=(Q:Int)) (x0:=z) aP aD rfl rfl c (aV _) K) (λY I=>V (fU rfl (kf d.has I aX aD)) (bS a λZ J a=>?_)))))))))
  refine VE (HK z d D (gf.refl _) rfl (lM rfl) J (λU d=>ln (CI a rfl (λG a=>?_) (λG a=>?_))))
  ·refine sg (Wm (Wa (lt (jK (gN (jK (gN ?_)))))))
   obtain rfl:=sj a
   exact rP d
  exact iD (ig (gj ⟨n,_,⟨rfl,p⟩,(d.fR St),u,y,(by rw [N]; exact a)⟩))
 rintro E W ⟨k,⟨n,p⟩,d,u,y,a⟩
 rw [aZ] at a
 exact gj (sg (Wa (lt (rQ a d))))
theorem su (j:Value) (a0:List fQ) (t:LO) (H:Value) (f1:fQ→Option Bool) (r:List fQ) (w:World) {μ0:gm} (h0:kz μ0 (t++[]) w) (T:gB 27 fS 2 j a0 t) (a4:vu pg0 H μ0 (λ(x:fQ)=>[(.agg (fS x).toArray)]) (λ(r:Bool)=>(.bool r)) f1) (hm:kJ a0 f1=some r) :
  iu false pg0 221 [j,H] w (t++[]) (λv L1 W'=>∃s S2,v=s∧L1=(S2++[])∧gB 27 fS 2 s r S2):=by
 refine wo h0 42 func221 rfl (λd=>sg (Wa (lr (Wm (Wm (bS hm λq d3 hm=>VE (Eg d call283 (sC j a0 H f1 _ _ (T.sl jl (λb o h=>d.at_ (Ml h))) (a4.mono d.gd) d3) (λW3 d=>Wa (ln ?_)))))))))
 refine gq (sg (Wm (Wi rfl (ln (CI hm rfl (λd2 hm=>?_) (λd2 hm=>?_))))))
 ·refine sg (Wm (Wa (lt (gN ?_))))
  obtain rfl:=sj hm
  exact gZ (v:=j) rfl rfl ⟨_,_,rfl,(d.hU (Kr Sn)),j,t,rfl,rfl,T⟩
 refine kS (Wm (Wi rfl (Wa (ln (jS (pj (λm E W=>∃U I B D a2,ST false (gL (t++[])) w W μ0 (I++a2)∧E 0=j∧E 1=H∧E 5=(.int .i64 B)∧E 6=(.int .i64 D)∧gB 27 fS 2 j U I∧iW f1 m U B D=some r) iq ⟨a0,t,q,(wi0 .i64 (q+1)),_,(d.fR St),rfl,rfl,rfl,rfl,T,hm⟩ ?_))))))
 rintro m E W ⟨U,I,B,D,a2,d,y,Q,G,K,g,a⟩
 cases m with
 | zero=>rw [iW] at a; cases a
 | succ c8=>
  refine gq (sg (Wh K (Wh y (V (oM aP rfl g) (Wi rfl (ln (CI a rfl (λL a=>?_) (λL a=>?_))))))))
  ·refine kn (gq (CJ a (λY E W=>∃J a3,ST false (gL (t++[])) w W μ0 (J++a3)∧E 0=j∧E 1=H∧E 5=(.int .i64 Y.2)∧E 6=(.int .i64 D)∧gB 27 fS 2 j Y.1 J) (λY c=>?_) ?_))
   ·refine bg (Wh y (Wh K (bS c λk M c=>VQ (mj (i:=D) (x0:=k) aP aD rfl rfl g (jL M) (je M)) (λe4 R=>V (fU rfl (qP d.has (λp h=>(Ml h)) g jl R (je M) aX aD)) (VE (gy d bL (λd7 e2 d=>VO (ga (.agg (fS k).toArray) ((fS k).toArray) d rfl rfl aD (iH k) nb rfl (λd8 d=>lr (Wh Q ?_))))))))))
    refine VA d Mh (fS k) aX aD (bS c λe6 b5 c=>VE (HK k d a4 (gf.refl _) rfl (lM rfl) b5 (λd9 d=>V (kj rfl) (ln (CI c rfl (λO c=>?_) (λO c=>?_))))))
    ·refine sg (Wh y (Wh G (VA d Mh (fS k) aX aD (bS c λd0 N c=>VQ (mj (i:=B) (x0:=d0) aP aD rfl rfl g (jL N) (je N)) (λe5 b4=>?_)))))
     replace d:=d.perm (Nr (Qb Qz) Nz)
     refine VO (uf (u:=(.agg (fS k).toArray)) (x1:=k)  d g jl iH rfl rfl rfl b4 (je N) aD (λe0 c1 d A=>ln ?_))
     replace d:=d.fR (Kr (Db St))
     refine gn (Wh G (Wi rfl (Wa (gJ (ig (gj ?_))))))
     obtain rfl:=sj c
     exact ⟨c1,_,(d.fR St),y,Q,rfl,K,A⟩
    refine iD (ig (gj ?_))
    obtain rfl:=sj c
    exact ⟨I,_,(d.fR (Db St)),y,Q,G,K,g⟩
   rintro ⟨c7,c9⟩ E W ⟨J,a3,d,c3,c4,c5,c6,b6⟩ P
   exact gn (Wh c6 (Wi rfl (Wa (ln ⟨c8,cU _,c7,J,c9,(wi0 .i64 (D+1)),_,(d.fR St),c3,c4,c5,rfl,b6,P⟩))))
  refine pd (oA (oA (uo (gj (sg (Wh y (Wh G (bS a λ_ Z a=>VQ (tj (i:=B) aP aD rfl rfl g (sV Z) (sO Z)) (λe7 b7=>VO (wG (z:=K0)  d g jl iH aP bL b7 rfl rfl (λe1 c2 d a9=>lr (Wh y ?_))))))))))))
  refine Wh G (bS a λ_ n a=>VQ (yT (i:=B) aP aD rfl rfl a9 jl (sV n) (sO n)) (λa5 b9=>Wa (lt ?_)))
  obtain rfl:=sj a
  exact gZ (v:=a5) rfl rfl ⟨_,_,rfl,(d.hU (Kr Sn)),a5,c2,rfl,rfl,b9⟩
theorem zp (a:fQ) (r:Bool) (w:World) (hm:pK a=some r) :
  gz true pg0 223 [(.agg (fS a).toArray)] w (.bool r):=by
 refine cG 6 func223 rfl (λd=>sg (VE (jr d rfl (λg j d=>Wa (lr (VA d Mh (fS a) aX aD (bS hm λk c hm=>VE (Eg d fE (lF a _ _  c) (λi d=>V (kj rfl) (Wa (gJ ?_)))))))))))
 refine gj ?_
 exact gC (rQ hm d)
theorem CN (c:Value) (k:List fQ) (a:LO) (g:Value) (t:(fQ×fQ)→Option Int) (r:List fQ) (w:World) {y:gm} (u:kz y (a++[]) w) (i:gB 27 fS 2 c k a) (j:Ab pg0 g y (λ(x:(fQ×fQ))=>[(.agg (fS x.1).toArray),(.agg (fS x.2).toArray)]) (λ(r:Int)=>(.int .i64 r)) t) (hm:rR t k=some r) :
  iu true pg0 224 [c,g] w (a++[]) (λv z W'=>∃S,v=(.tuple #[])∧z=(S++[])∧gB 27 fS 2 c r S):=BC (P:=pg0) (ρ:=D4) G5 2 aX aD fS jl iH u.H u.S i j hm
theorem tZ (j:Value) (a0:List fQ) (x:LO) (r:List fQ) (w:World) {μ0:gm} (h0:kz μ0 (x++[]) w) (B:gB 27 fS 2 j a0 x) (hm:lP a0=some r) :
  iu true pg0 225 [j] w (x++[]) (λv L1 W'=>∃y1 S2,v=y1∧L1=(S2++[])∧gB 27 fS 2 y1 r S2):=by
 refine wo h0 61 func225 rfl (λd=>sg (Wa (lS (Wm (V (oM aP rfl B) (Wi rfl (ln (CI hm rfl (λg0 hm=>?_) (λg0 hm=>?_)))))))))
 ·refine sg (Wm (Wa (lt (gN ?_))))
  obtain rfl:=sj hm
  exact gZ (v:=j) rfl rfl ⟨_,_,rfl,(d.hU (Kr Sn)),j,x,rfl,rfl,B⟩
 refine kS (Wa (ln (jS (pj (λm E W=>∃t b4,ST true (gL (x++[])) w W μ0 (x++b4)∧E 0=j∧E 3=(.int .i64 t)∧jq a0 m t=some r) iq ⟨1,_,(d.fR St),rfl,rfl,hm⟩ ?_))))
 rintro m E W ⟨t,b4,d,D,H,a⟩
 cases m with
 | zero=>rw [jq] at a; cases a
 | succ f5=>
  refine gq (sg (Wh H (Wh D (V (oM aP rfl B) (Wi rfl (ln (CI a rfl (λd0 a=>?_) (λd0 a=>?_))))))))
  ·refine kn (gq (jS (gq ?_)))
   replace d:=d.drew
   have h:=d.has.fR (Kr Sn)
   refine ic h gK (X 0 rfl h (gl D) (X 1 rfl h (gl H) (bS a λc3 Z a=>XQ 2 rfl h (mj (i:=t) (x0:=c3) aP aD rfl rfl B (jL Z) (je Z)) (λg7 d6=>XH 3 rfl h (λ_ o=>fU rfl (qP o (λp n=>(Ml n)) B jl d6 (je Z) aX aD)) (X 4 rfl h (gl D) (X 5 rfl h (gl H) (X 6 rfl h (iJ rfl rfl rfl) (bS a λc4 q a=>XQ 7 rfl h (mj (i:=(wi0 .i64 (t-1))) (x0:=c4) aP aD rfl rfl B (jL q) (je q)) (λg8 d7=>XH 8 rfl h (λ_ o=>fU rfl (qP o (λp n=>(Ml n)) B jl d7 (je q) aX aD)) (X 9 rfl h (Dd rfl rfl (rf eqGuardType27) (yj (qL _ c3 c4))) (iz kr (gj ?_))))))))))))
   refine CI a rfl (λd1 a=>?_) (λd1 a=>?_)
   ·refine sg (Wh D (Wh H (bS a λ_ O a=>VQ (tj (i:=t) aP aD rfl rfl B (sV O) (sO O)) (λc1 M=>Wa (lS (Wa (ln ?_)))))))
    refine CJ a (λU E W=>∃s b5,ST true (gL (x++[])) w W μ0 (s++b5)∧E 0=j∧E 3=(.int .i64 U.2)∧gB 27 fS 2 j U.1 s) (λU d4=>?_) ?_
    ·refine jS (pj (λm E W=>∃A K Y y b6,ST true (gL (x++[])) w W μ0 (K++b6)∧E 0=j∧E 3=(.int .i64 Y)∧E 4=c1∧E 5=(.int .i64 y)∧gB 27 fS 2 j A K∧jo t m A Y y=some U) iq ⟨a0,x,t,1,_,(d.fR St),D,H,rfl,rfl,B,d4⟩ ?_)
     rintro m E W ⟨A,K,Y,y,b6,d,Q,T,I,J,g,k⟩
     cases m with
     | zero=>rw [jo] at k; cases k
     | succ f6=>
      refine gq (sg (Wh J (Wh I (V (D1 aP rfl M g) (Wi rfl (ln (CI k rfl (λd2 k=>?_) (λd2 k=>?_))))))))
      ·refine kn (gq (CJ k (λL E W=>∃N b7,ST true (gL (x++[])) w W μ0 (N++b7)∧E 0=j∧E 3=(.int .i64 L.2)∧E 4=c1∧E 5=(.int .i64 y)∧gB 27 fS 2 j L.1 N) (λL c=>?_) ?_))
       ·refine jS (gq ?_)
        replace d:=d.drew
        have h:=d.has.fR (Kr Sn)
        refine ic h gK (X 0 rfl h (gl I) (X 1 rfl h (gl J) (bS c λc6 a2 c=>XQ 2 rfl h (tq (i:=y) (x0:=c6) aP aD rfl rfl g M (jL a2) (je a2)) (λg9 d8=>XH 3 rfl h (λ_ o=>fU rfl (qP o (λp n=>(Ml n)) g jl d8 (uB (je a2)) aX aD)) (X 4 rfl h (gl I) (X 5 rfl h (gl J) (X 6 rfl h (iJ rfl rfl rfl) (bS c λc7 a3 c=>XQ 7 rfl h (tq (i:=(wi0 .i64 (y-1))) (x0:=c7) aP aD rfl rfl g M (jL a3) (je a3)) (λh1 d9=>XH 8 rfl h (λ_ o=>fU rfl (qP o (λp n=>(Ml n)) g jl d9 (uB (je a3)) aX aD)) (X 9 rfl h (Ga rfl rfl (rf eqGuardType27) (BW (qL _ c6 c7))) (iz kr (gj ?_))))))))))))
        refine CI c rfl (λd3 c=>?_) (λd3 c=>?_)
        ·refine sg (Wh Q (Wh T (Wh I (Wh J (bS c λa9 a4 c=>VQ (tq (i:=y) (x0:=a9) aP aD rfl rfl g M (jL a4) (je a4)) (λh2 e0=>V (fU rfl (qP d.has (λp n=>(Ml n)) g jl e0 (uB (je a4)) aX aD)) (bS c λf8 a5 c=>VQ (mj (i:=Y) (x0:=f8) aP aD rfl rfl g (jL a5) (je a5)) (λh3 e1=>VO (uf (u:=(.agg (fS a9).toArray)) (x1:=a9)  d g jl iH rfl rfl rfl e1 (je a5) aD (λg3 e8 d c9=>ln (gn ?_)))))))))))
         refine Wh T (Wi rfl (Wa (gJ (ig (gj ?_)))))
         obtain rfl:=sj c
         exact ⟨e8,_,(d.fR St),Q,rfl,I,J,c9⟩
        refine iD (ig (gj ?_))
        obtain rfl:=sj c
        exact ⟨K,_,(d.fR St),Q,T,I,J,g⟩
       rintro ⟨f4,f7⟩ E W ⟨N,b7,d,f0,f1,f2,f3,e4⟩ d5
       exact gn (Wh f3 (Wi rfl (Wa (ln ⟨f6,cU _,f4,N,f7,(wi0 .i64 (y+1)),_,(d.fR St),f0,f1,f2,rfl,e4,d5⟩))))
      refine pd (oA (oA (uo (gj ?_))))
      obtain rfl:=sj k
      exact ⟨K,_,(d.fR St),Q,T,g⟩
    rintro ⟨g4,c5⟩ E W ⟨s,b5,d,b9,c0,b3⟩ G
    refine sg (Wh b9 (Wh c0 (bS G λ_ P G=>VQ (tj (i:=c5) aP aD rfl rfl b3 (sV P) (sO P)) (λh4 e2=>VO (wG (z:=K0)  d b3 jl iH aP bL e2 rfl rfl (λg2 e7 d c8=>lr (Wh b9 (Wh c0 (bS G λ_ R G=>VQ (yT (i:=c5) aP aD rfl rfl c8 jl (sV R) (sO R)) (λc2 e3=>?_))))))))))
    refine Wa (lt (jK (gN (gN (jK (gN ?_))))))
    obtain rfl:=sj G
    exact gZ (v:=c2) rfl rfl ⟨_,_,rfl,(d.hU (Kr Sn)),c2,e7,rfl,rfl,e3⟩
   exact iD (ig (gj (gn (Wh H (Wi rfl (Wa (ln ⟨f5,cU _,(wi0 .i64 (t+1)),_,(d.fR St),D,rfl,a⟩)))))))
  refine pd (oA (oA (uo (gj (sg (Wh D (Wa (lt ?_))))))))
  obtain rfl:=sj a
  exact gZ (v:=j) rfl rfl ⟨_,_,rfl,(d.hU (Kr Sn)),j,x,rfl,rfl,B⟩
theorem Ct (i:Value) (t r:List fQ) (w:World) (B:Sl (Pl fS) 2 (hp w) i t) (hm:rU t=some r) :
  iF false pg0 165 [i] w 27 fS 2 r:=by
 refine ua 11 func165 rfl (λd=>sg (Wa (lr (Wm (bS hm λA T hm=>VE (nJ d call222 (iF.gV (vm i t _ _ (B.mono (Pl.mono _) d.gd) T)) (λW3 v7 L R8 d a5 u Q=>bS hm λU D hm=>?_)))))))
 refine VE (eM d (Cr Qz Cn) call221 (λn _=>(su v7 A R8 (.func (.func 223) #[] #[]) (λ(x:fQ)=>pK x) _ _ n Q ⟨223,#[],#[],rfl,call223,λW x r z hm=>(zp x r W  hm).gV⟩ D)) ?_)
 rintro _ b5 b9 P d O o h ⟨k,K,a,rfl,I⟩
 obtain rfl:=a.symm
 replace d:=d.perm (Tr Tn)
 refine Wa (lr (Wm (bS hm λY G hm=>?_)))
 refine VE (eM d (Cr Qz Cn) call224 (λn _=>iu.gV (CN k U K (.func (.func 83) #[] #[]) (λ(x:(fQ×fQ))=>lj x.1 x.2) _ _ n I ⟨83,#[],rfl,call83,λW x r z hm=>tA x.1 x.2 r W  hm⟩ G)) ?_)
 rintro _ b6 c0 a9 d a2 q h ⟨M,c,rfl,J⟩
 obtain rfl:=c.symm
 replace d:=d.perm (Tr Tn)
 refine lr (Wm (bS hm λb4 H hm=>?_))
 refine VE (eM d (Cr Qz Cn) call225 (λn _=>iu.gV (tZ k Y M _ _ n J H)) ?_)
 rintro _ b7 c1 R d a3 s h ⟨Z,N,g,rfl,j⟩
 obtain rfl:=g.symm
 replace d:=d.perm (Tr Tn)
 refine Wa (lt ?_)
 obtain rfl:=sj hm
 exact gZ (v:=Z) rfl rfl ⟨_,N,rfl,d.jM (λp y=>(Ml y)) j.nd,j⟩
theorem Bz (g:Value) (u:List fQ) (r:Bool) (w:World) (i:Sl (Pl fS) 2 (hp w) g u) (hm:rc u=some r) :
  gz false pg0 94 [g] w (.bool r):=by
 refine cG 12 func94 rfl (λd=>sg (Wa (lr (Wm (V (iI aP rfl i) (Wi rfl (Wm (LJ hm (λy E W=>∃t x,gf (hp w) t∧ST false iv w W t x∧E 2=(.bool false)∧E 11=(.bool y)) 5 ?_ (λy a k=>?_)))))))))
 ·rintro Z E W ⟨t,x,M,d,U,H⟩ B
  exact Wg H (lt (rQ B d))
 refine bC a (λc a=>?_) (λc a=>?_)
 ·refine ug c (gl rfl) (bS a λI D a=>nN c (nJ d call165 (Ct g u _ _ (i.mono (Pl.mono _) d.gd) D) (λQ J K N d j h z=>ug c (gl rfl) (bS a λY G a=>nN c (Eg d call99 (gz.gV (qJ J I g u _ _ (z.sl jl (λb o n=>d.at_ (Ml n))) (i.mono (Pl.mono _) (j.trans d.gd)) G)) (λT d=>V (gx (cB c) rfl) ?_))))))
  obtain rfl:=sj a
  exact k _ _ ⟨K,_,j,(d.fR (Dr St)),rfl,rfl⟩
 refine un c (un c (un c (un c (V (gw (cB c) rfl) ?_))))
 obtain rfl:=sj a
 exact k _ _ ⟨(hp w),_,(gf.refl _),(d.fR St),rfl,rfl⟩
theorem iV (t:Nat) (j:Value) (G:List Int) (i:LO) (h:Int) (r:(Bool×(List Int))) (w:World) {μ0:gm} (s:kz μ0 ((t,Ob #[j] 215)::(i++[])) w) (y:gB 5 (fW .u8) 1 j G i) (hm:gI G h=some r) :
  iu true pg0 170 [(.pointer (some ⟨t,0,none⟩)),(.int .i64 h)] w ((t,Ob #[j] 215)::(i++[])) (λv L1 W'=>∃n S2,v=(.bool (r.1))∧L1=((t,Ob #[n] 215)::(S2++[]))∧gB 5 (fW .u8) 1 n r.2 S2):=by
 refine wo s 38 func170 rfl (λd=>sg (Wa (lS (Wm (V (lB du rfl rfl) (Wm (Vg rfl rfl (gl rfl) (Vg rfl rfl (iJ rfl rfl rfl) (V (gw rfl rfl) ?_)))))))))
 refine ln (CI hm rfl (λa9 hm=>?_) (λa9 hm=>?_))
 ·refine sg (Wa (lt (gN ?_)))
  obtain rfl:=sj hm
  exact gZ (v:=(.bool false)) rfl rfl ⟨_,_,rfl,(d.hU (Kb (Kr Sn))),j,i,rfl,rfl,y⟩
 refine kn (gq (jS (pj (λm E W=>∃c z U u a0,ST true (gL ((t,Ob #[j] 215)::(i++[]))) w W μ0 ((t,Ob #[z] 215)::(u++a0))∧E 0=(.pointer (some ⟨t,0,none⟩))∧E 1=(.int .i64 c)∧gB 5 (fW .u8) 1 z U u∧iO m c U=some r) iq ⟨h,j,G,i,_,(d.fR St),rfl,rfl,y,hm⟩ ?_)))
 rintro m E W ⟨c,z,U,u,a0,d,x,K,T,g⟩
 cases m with
 | zero=>rw [iO] at g; cases g
 | succ q=>
  refine gq (sg (Wh K (Wi rfl (ln (CI g rfl (λo g=>?_) (λo g=>?_))))))
  ·refine kn (gq (jS (gn (Wh x (Wh x (Wn (Wf pf (VB d Mh rfl rfl bX (Wh K (V (pa (k':=.i64) (a:=c) eK bK rfl) (V (Dx (k:=.u8) (a:=(IntKind.u8.wrap c)) (b:=128) (v:=(.int .u8 (IntKind.u8.wrap (BitVec.ofInt (IntKind.bits .u8) (IntKind.u8.wrap c) ||| BitVec.ofInt (IntKind.bits .u8) 128).toNat))) rfl rfl dc rfl) (VE (iy (cs:=[(.int .u8 (IntKind.u8.wrap (BitVec.ofInt (IntKind.bits .u8) (IntKind.u8.wrap c) ||| BitVec.ofInt (IntKind.bits .u8) 128).toNat))].toArray) d (kA rfl) (lH aG dV fF) (λc3 p d=>?_))))))))))))))
   replace d:=d.perm (Nr (Qb (Qb Qz)) Nz)
   refine bS g λQ Y g=>VE (lg (enc:=(fW .u8)) (v:=z) (vs:=(.slice (some ⟨p,0,none⟩) 1 1)) (R:=u) d (λ_=>rfl) dc (qF _) aG ju.1 ju.2.1 rfl ju.2.2.1 ju.2.2.2 rfl rfl T (Sl.lit (enc:=(fW .u8)) (l:=[(IntKind.u8.wrap (BitVec.ofInt (IntKind.bits .u8) (IntKind.u8.wrap c) ||| BitVec.ofInt (IntKind.bits .u8) 128).toNat)]) (λ_=>rfl) rfl nb rfl (d.at_ (Ma Mh))) Y (λA c1 a2 d M=>Wn (Wf pf ?_)))
   obtain ⟨B,H,rfl⟩:=M.form
   replace d:=d.perm (Nb (Pr (Pb Pz)) Nz)
   refine VO (ga (.slice B Q.length H) (#[(.slice B Q.length H)]) d rfl rfl cL oc nb rfl (λL d=>gJ (ig (gj ?_))))
   replace d:=d.fR (Kb (Kr (Db St)))
   exact gn (Wh K (V (Dj (a:=c) (b:=7) rfl rfl dc) (Wa (ln ⟨q,cU _,(Int.fdiv c (2 ^ min (Int.toNat 7) (IntKind.bits .i64))),(.slice B Q.length H),Q,a2,_,(d.fR St),x,rfl,M,g⟩))))
  refine pd (oA (oA (uo (gj (sg (Wh x (Wh x (Wn (Wf pf (VB d Mh rfl rfl bX (Wh K (V (pa (k':=.i64) (a:=c) eK bK rfl) (VE (iy (cs:=[(.int .u8 (IntKind.u8.wrap c))].toArray) d (kA rfl) (lH aG dV fF) (λO a5 d=>?_)))))))))))))))
  replace d:=d.perm (Nr (Qb (Qb Qz)) Nz)
  refine bS g λJ Z g=>VE (lg (enc:=(fW .u8)) (v:=z) (vs:=(.slice (some ⟨a5,0,none⟩) 1 1)) (R:=u) d (λ_=>rfl) dc (qF _) aG ju.1 ju.2.1 rfl ju.2.2.1 ju.2.2.2 rfl rfl T (Sl.lit (enc:=(fW .u8)) (l:=[(IntKind.u8.wrap c)]) (λ_=>rfl) rfl nb rfl (d.at_ (Ma Mh))) Z (λP c2 a3 d N=>Wn (Wf pf ?_)))
  obtain ⟨D,I,rfl⟩:=N.form
  replace d:=d.perm (Nb (Pr (Pb Pz)) Nz)
  refine VO (ga (.slice D J.length I) (#[(.slice D J.length I)]) d rfl rfl cL oc nb rfl (λb9 d=>ln ?_))
  replace d:=d.fR (Kb (Kr (Db St)))
  refine sg (Wa (lt ?_))
  obtain rfl:=sj g
  exact gZ (v:=(.bool true)) rfl rfl ⟨_,_,rfl,(d.hU (Kb (Kr Sn))),(.slice D J.length I),a3,rfl,rfl,N⟩
theorem nx (g:Nat) (c:Value) (j:List Int) (a:LO) (u:Value) (D:List Int) (r:(Bool×(List Int))) (w:World) {Z:gm} (n:kz Z ((g,Ob #[c] 215)::(a++[])) w) (i:gB 5 (fW .u8) 1 c j a) (k:Sl (Pl (fW .u8)) 1 Z u D) (hm:jk j D=some r) :
  iu true pg0 171 [(.pointer (some ⟨g,0,none⟩)),u] w ((g,Ob #[c] 215)::(a++[])) (λv L1 W'=>∃U M,v=(.bool (r.1))∧L1=((g,Ob #[U] 215)::(M++[]))∧gB 5 (fW .u8) 1 U r.2 M):=by
 refine wo n 25 func171 rfl (λd=>sg (Wa (lS (Wm (V (lB du rfl rfl) (Wm (Vg rfl rfl (gl rfl) (Vg rfl rfl (iI aG rfl k) (Vg rfl rfl (iJ rfl rfl rfl) ?_)))))))))
 refine V (gw rfl rfl) (ln (CI hm rfl (λQ hm=>?_) (λQ hm=>?_)))
 ·refine sg (Wa (lt (gN ?_)))
  obtain rfl:=sj hm
  exact gZ (v:=(.bool false)) rfl rfl ⟨_,_,rfl,(d.hU (Kb (Kr Sn))),c,a,rfl,rfl,i⟩
 refine kg (Wm (Wm (V (iI aG rfl k) (bS hm λA T hm=>?_))))
 refine VE (eM d (Cb Pz (Cr Qz Cn)) fw (λo _=>(iV g c j a (D.length:Int) _ _ o i T)) ?_)
 rintro _ v8 q a3 d H p h ⟨Y,K,t,rfl,I⟩
 obtain rfl:=t.symm
 replace d:=d.perm (Tb (Tr Tn))
 refine lr (Wm (Wm (Wn (Wf pf (VB d Mh rfl rfl bX (Wm ?_))))))
 replace d:=d.perm (Nr (Qb Qz) Nz)
 refine bS hm λB G hm=>VE (lg (enc:=(fW .u8)) (v:=Y) (vs:=u) (R:=K) d (λ_=>rfl) dc (qF _) aG ju.1 ju.2.1 rfl ju.2.2.1 ju.2.2.2 rfl rfl I (k.mono (Pl.mono _) (H.trans d.gd)) G (λa4 s J d z=>Wn (Wf pf ?_)))
 obtain ⟨x,y,rfl⟩:=z.form
 replace d:=d.perm (Nb (Pr Pz) Nz)
 refine VO (ga (.slice x B.length y) (#[(.slice x B.length y)]) d rfl rfl cL oc nb rfl (λa5 d=>lr (Wa (lt ?_))))
 obtain rfl:=sj hm
 exact gZ (v:=(.bool true)) rfl rfl ⟨_,_,rfl,(d.hU (Kb (Kr Sn))),(.slice x B.length y),J,rfl,rfl,z⟩
theorem oT (j:Nat) (c:Value) (t:List Int) (a:LO) (J:ByteArray) (r:(Bool×(List Int))) (w:World) {Z:gm} (O:kz Z ((j,Ob #[c] 215)::(a++[])) w) (k:gB 5 (fW .u8) 1 c t a) (hm:lE t J=some r) :
  iu true pg0 213 [(.pointer (some ⟨j,0,none⟩)),(.string J)] w ((j,Ob #[c] 215)::(a++[])) (λv L1 W'=>∃q S2,v=(.bool (r.1))∧L1=((j,Ob #[q] 215)::(S2++[]))∧gB 5 (fW .u8) 1 q r.2 S2):=by
 refine wo O 17 func213 rfl (λd=>sg (Wa (lr (Wm (V (uL du rfl rfl) (Wm (Vg rfl rfl (gl rfl) (bS hm λr1 a4 hm=>Es rfl rfl (Eg d call93 (mA J _ _  a4) (λW3 d=>V (gx rfl rfl) ?_))))))))))
 refine Wm (LJ hm (λB E W=>∃z x D I,gf Z D∧ST true (gL ((j,Ob #[c] 215)::(a++[]))) w W D ((j,Ob #[z] 215)::(x++I))∧E 4=(.bool false)∧E 16=(.bool B.1)∧gB 5 (fW .u8) 1 z B.2 x) 5 ?_ (λB g y=>?_))
 ·rintro ⟨A,c0⟩ E W ⟨z,x,D,I,R,d,b9,a3,T⟩ M
  refine Wg a3 (lt ?_)
  obtain rfl:=sj M
  exact gZ (v:=(.bool A)) rfl rfl ⟨_,_,rfl,(d.hU (Kb (Kr Sn))),z,x,rfl,rfl,T⟩
 refine bC g (λi g=>?_) (λi g=>?_)
 ·refine ug i (gl rfl) (ug i (gl rfl) (bS g λa5 N g=>nN i (yZ d aI aG bK rfl N (λb6 s c3 d G o U b4=>bS g λc1 Q g=>?_))))
  refine nN i (eM d (Cb Pz (Cr Qz Cn)) call171 (λP n=>(nx j c t a s a5 _ _ P k (U.mono (Pl.mono _) n) Q)) ?_)
  rintro _ c2 L b5 d H p h ⟨a9,a2,u,rfl,Y⟩
  obtain rfl:=u.symm
  replace d:=d.perm (Tb (Tr Tn))
  refine V (gx (cB i) rfl) ?_
  obtain rfl:=sj g
  exact y _ _ ⟨a9,a2,L,_,(G.trans H),(d.fR St),rfl,rfl,Y⟩
 refine un i (un i (un i (un i (V (gw (cB i) rfl) ?_))))
 obtain rfl:=sj g
 exact y _ _ ⟨c,a,Z,_,(gf.refl _),(d.fR St),rfl,rfl,k⟩
theorem nH (c:Nat) (i:Value) (D:List Int) (a:LO) (x:fQ) (r:(Bool×(List Int))) (w:World) {μ0:gm} (h0:kz μ0 ((c,Ob #[i] 215)::(a++[])) w) (y:gB 5 (fW .u8) 1 i D a) (hm:jN D x=some r) :
  iu true pg0 212 [(.pointer (some ⟨c,0,none⟩)),(.agg (fS x).toArray)] w ((c,Ob #[i] 215)::(a++[])) (λv L1 W'=>∃A S2,v=(.bool (r.1))∧L1=((c,Ob #[A] 215)::(S2++[]))∧gB 5 (fW .u8) 1 A r.2 S2):=by
 let o:=((c,Ob #[i] 215)::(a++[]))
 refine wo h0 23 func212 rfl (λd=>sg (VE (jr d rfl (λW2 p d=>Wa (lr (Wm (V (uL du rfl rfl) (Wm (Vg rfl rfl (fU rfl (fY d.has Mh (fS x) rfl aX aD)) (bS hm λr3 c4 hm=>Es rfl rfl (Eg d fE (lF x _ _  c4) (λW5 d=>?_))))))))))))
 refine V (gx rfl rfl) (Wm (LJ hm (λT E W=>∃z u B a0,gf μ0 B∧ST true (gL o) w W B ((p,Ol (fS x) 27)::((c,Ob #[z] 215)::(u++a0)))∧E 0=(.pointer (some ⟨c,0,none⟩))∧E 3=(.pointer (some ⟨p,0,none⟩))∧E 4=(.bool false)∧E 16=(.bool T.1)∧gB 5 (fW .u8) 1 z T.2 u) 5 ?_ (λT t K=>?_)))
 ·rintro ⟨e6,c5⟩ E W ⟨z,u,B,a0,d2,d,c0,c1,a3,c2,N⟩ L
  refine Wh c2 (LJ L (λQ E W=>∃M I U a2,gf B U∧ST true (gL o) w W U ((c,Ob #[M] 215)::(I++a2))∧E 4=(.bool false)∧E 22=(.bool Q.1)∧gB 5 (fW .u8) 1 M Q.2 I) 5 ?_ (λQ k J=>?_))
  ·rintro ⟨c6,e1⟩ E W ⟨M,I,U,a2,d3,d,e0,c3,R⟩ O
   refine Wg c3 (lt ?_)
   obtain rfl:=sj O
   exact gZ (v:=(.bool c6)) rfl rfl ⟨_,_,rfl,(d.hU (Kb (Kr Sn))),M,I,rfl,rfl,R⟩
  refine bC k (λg k=>?_) (λg k=>?_)
  ·refine ug g (gl c0) (ug g (fZ qm c1) (ug g (fU rfl (gh d.has Mh rfl bG)) (bS k λe2 P k=>?_)))
   refine nN g (eM d (Cb (Pb Pz) (Cr (Qb Qz) Cn)) call213 (λn _=>(oT c z c5 u x.Word _ _ n N P)) ?_)
   rintro _ e4 d0 d6 d Y q h ⟨c8,b6,G,rfl,b2⟩
   obtain rfl:=G.symm
   replace d:=d.perm (Tb (Tr Tn))
   refine V (gx (cB g) rfl) ?_
   obtain rfl:=sj k
   exact J _ _ ⟨c8,b6,d0,_,Y,(d.fR (Kb (Kr (Db St)))),a3,rfl,b2⟩
  refine un g (un g (un g (un g (V (gw (cB g) rfl) ?_))))
  obtain rfl:=sj k
  exact J _ _ ⟨z,u,B,_,(gf.refl _),(d.fR (Db St)),a3,rfl,N⟩
 refine bC t (λj t=>?_) (λj t=>?_)
 ·refine ug j (gl rfl) (ug j (fZ oY rfl) (ug j (fU rfl (gh d.has Mh rfl bG)) (bS t λe3 a9 t=>?_)))
  refine nN j (eM d (Cb (Pb Pz) (Cr (Qb Qz) Cn)) call213 (λn _=>(oT c i D a x.fX _ _ n y a9)) ?_)
  rintro _ e5 d1 d7 d Z s h ⟨c9,b7,H,rfl,b3⟩
  obtain rfl:=H.symm
  replace d:=d.perm (Tb (Tr Tn))
  refine V (gx (cB j) rfl) ?_
  obtain rfl:=sj t
  exact K _ _ ⟨c9,b7,d1,_,Z,(d.fR (Sb (Pb (Pr Pz)) St)),rfl,rfl,rfl,rfl,b3⟩
 refine un j (un j (un j (un j (V (gw (cB j) rfl) ?_))))
 obtain rfl:=sj t
 exact K _ _ ⟨i,a,μ0,_,(gf.refl _),(d.fR St),rfl,rfl,rfl,rfl,y⟩
theorem rB (g:Value) (i r:List Int) (w:World) (a:Sl (Pl (fW .u8)) 1 (hp w) g i) (hm:jF i=some r) :
  iF true pg0 234 [g] w 5 (fW .u8) 1 r:=by
 unfold jF at hm
 refine ua 8 func234 rfl (λd=>sg (Wa (lS (Wm ?_))))
 obtain ⟨y,B,rfl⟩:=a.form
 refine V (yL aG rfl rfl) (ln ?_)
 rcases y with _ | z
 ·have u:=a.isNil
  replace hm:some []=some r:=by rw [u] at hm; simpa [ja,maxLen] using hm
  refine qf (rfl) (sg (Wa (lt (gN ?_))))
  obtain rfl:=sj hm
  exact gZ (v:=(.slice none 0 0)) rfl rfl ⟨_,[],rfl,d.jM (λp h=>by cases h) (by simp),gB.nil _ _ _⟩
 ·refine kH (rfl) (kg (VE (iy (cs:=#[]) d lb (yB [] aG dV fF dc rfl (by simp) rfl rfl) (λG k d=>Wm (bS hm λH t hm=>VE (lg (enc:=(fW .u8)) (v:=(.slice (some ⟨k,0,none⟩) 0 0)) (vs:=(.slice (some z) i.length B)) (R:=[(k,Ob #[] 5)]) d (λ_=>rfl) dc (qF _) aG ju.1 ju.2.1 rfl ju.2.2.1 ju.2.2.2 rfl rfl (gB.lit (l:=[]) (enc:=(fW .u8)) rfl dc rfl rfl) (a.mono (Pl.mono _) d.gd) t (λD x j d c=>Wa (lt ?_))))))))
  obtain rfl:=sj hm
  exact gZ (v:=x) rfl rfl ⟨_,j,rfl,d.jM (λp h=>(Ml h)) c.nd,c⟩
theorem nY (g:Nat) (a:Value) (c r:List Int) (w:World) (j:Sl (Pl (fW .u8)) 1 (hp w) a c) (k:At (hp w) (.pointer (some ⟨g,0,none⟩)) [a]) (hm:jv c=some r) :
  iF true pg0 173 [(.pointer (some ⟨g,0,none⟩))] w 5 (fW .u8) 1 r:=by
 refine ua 10 func173 rfl (λd=>sg (Wa (lS (Wm (V (lB du rfl rfl) (ln (kH rfl (iD ?_))))))))
 refine gj (sg (Wm (Wn (VQ (vP [a] pf rfl k rfl) (λG u=>V (fU rfl (nT d.has (y:=a) u bX)) (bS hm λH x hm=>VE (nJ d call234 (rB a c _ _ (j.mono (Pl.mono _) d.gd) x) (λD z I t d B h i=>Wa (lt ?_)))))))))
 obtain rfl:=sj hm
 exact gZ (v:=z) rfl rfl ⟨_,t,rfl,d.jM (λp n=>(Ml n)) i.nd,i⟩
theorem st (c:fP) (r:List Int) (w:World) (hm:mE c=some r) :
  iF true pg0 152 [(.agg (gb c).toArray)] w 5 (fW .u8) 1 r:=by
 refine ua 53 func152 rfl (λd=>sg (VE (jr d rfl (λW2 b1 d=>Wa (lS (VA d Mh (gb c) ca bj (bS hm λr3 g3 hm=>VE (Eg d call144 (oU c _ _  g3) (λW5 d=>V (kj rfl) (gJ ?_))))))))))
 refine gj (CI hm rfl (λg0 hm=>?_) (λg0 hm=>?_))
 ·refine sg (Wa (ln ?_))
  replace d:=d.fR (Db St)
  refine gC (gN ?_)
  obtain rfl:=sj hm
  exact gZ (v:=(.slice none 0 0)) rfl rfl ⟨_,[],rfl,d.jM (λp q=>by cases q) (by simp),gB.nil _ _ _⟩
 refine kg (V (ia (v:=(.agg #[(.slice none 0 0)])) lb (gG fG cV (zL _ cV) kr)) (VE (jr d rfl (λW8 g d=>Wa (lr (Wm (Wf rs (VB d (Mt Mh) rfl rfl bY (bS hm λr9 e2 hm=>?_)))))))))
 refine VE (eM d (Cb Pz (C0 Cn)) fw (λn _=>(iV g (.slice none 0 0) ([]) [] c.Kind _ _ n (gB.nil _ _ _) e2)) ?_)
 rintro _ k3 k5 j9 d g7 a7 h ⟨g4,f9,I,rfl,e4⟩
 obtain rfl:=I.symm
 replace d:=d.perm (Tb (Tr Tn))
 refine lr (Wm (Wf rA (VA d (Mt (Ma Mh)) (fS c.Head) aX aD (bS hm λN e3 hm=>?_))))
 refine VE (eM d (Cb Pz (Cr Qz Cn)) call212 (λn _=>(nH g g4 r9.2 f9 c.Head _ _ n e4 e3)) ?_)
 rintro _ k4 d1 k0 d g8 a8 h ⟨G,D,J,rfl,i⟩
 obtain rfl:=J.symm
 replace d:=d.perm (Tb (Tr Tn))
 refine ln (gq (CJ hm (λa3 E W=>∃B H K Q,gf d1 K∧ST true iv w W K ((g,Ob #[B] 215)::(H++Q))∧E 3=(.pointer (some ⟨g,0,none⟩))∧gB 5 (fW .u8) 1 B a3 H) (λa3 a=>?_) ?_))
 ·refine sg (Wf rs (VB d (Mt (Ma Mh)) rfl rfl bY (ln (bg (Wi rfl (Wa (ln (CI a rfl (λb0 a=>?_) (λb0 a=>?_)))))))))
  ·refine gn (Wm (Wf rZ (VB d (Mt (Ma Mh)) rfl rfl bG (bS a λi3 b6 a=>?_))))
   refine VE (eM d (Cb Pz (Cr Qz Cn)) call213 (λn _=>(oT g G N.2 D c.ir _ _ n i b6)) ?_)
   rintro _ i8 f5 g9 d T A h ⟨e9,d3,k,rfl,c5⟩
   obtain rfl:=k.symm
   replace d:=d.perm (Tb (Tr Tn))
   refine gJ (ig (gj ?_))
   obtain rfl:=sj a
   exact ⟨e9,d3,f5,_,T,(d.fR (Kb (Kr (Db St)))),rfl,c5⟩
  refine sg (Wi rfl (Wa (ln (CI a rfl (λb2 a=>?_) (λb2 a=>?_)))))
  ·refine gn (Wm (Wf kb (VA d (Mt (Ma Mh)) (fS c.B) aX aD (bS a λi4 b9 a=>?_))))
   refine VE (eM d (Cb Pz (Cr Qz Cn)) call212 (λn _=>(nH g G N.2 D c.B _ _ n i b9)) ?_)
   rintro _ i9 f6 h0 d U L h ⟨f0,d4,t,rfl,c6⟩
   obtain rfl:=t.symm
   replace d:=d.perm (Tb (Tr Tn))
   refine gJ (ig (gj ?_))
   obtain rfl:=sj a
   exact ⟨f0,d4,f6,_,U,(d.fR (Kb (Kr (Db St)))),rfl,c6⟩
  refine sg (Wi rfl (Wa (ln (CI a rfl (λb3 a=>?_) (λb3 a=>?_)))))
  ·refine sg (Wm (Wf kb (VA d (Mt (Ma Mh)) (fS c.B) aX aD (bS a λe6 c0 a=>?_))))
   refine VE (eM d (Cb Pz (Cr Qz Cn)) call212 (λn _=>(nH g G N.2 D c.B _ _ n i c0)) ?_)
   rintro _ j0 j7 h1 d Y O h ⟨f1,d5,u,rfl,c7⟩
   obtain rfl:=u.symm
   replace d:=d.perm (Tb (Tr Tn))
   refine ln (gn (Wm (Wf sh (VB d (Mt (Ma Mh)) rfl rfl bG (bS a λi5 c1 a=>?_)))))
   refine VE (eM d (Cb Pz (Cr Qz Cn)) call213 (λn _=>(oT g f1 e6.2 d5 c.gT _ _ n c7 c1)) ?_)
   rintro _ j3 f7 h2 d Z P h ⟨f2,d6,x,rfl,c8⟩
   obtain rfl:=x.symm
   replace d:=d.perm (Tb (Tr Tn))
   refine gJ (ig (gj ?_))
   obtain rfl:=sj a
   exact ⟨f2,d6,f7,_,(Y.trans Z),(d.fR (Kb (Kr (Db St)))),rfl,c8⟩
  refine sg (Wi rfl (Wa (ln (CI a rfl (λb4 a=>?_) (λb4 a=>?_)))))
  ·refine sg (Wm (Wf kb (VA d (Mt (Ma Mh)) (fS c.B) aX aD (bS a λe7 c2 a=>?_))))
   refine VE (eM d (Cb Pz (Cr Qz Cn)) call212 (λn _=>(nH g G N.2 D c.B _ _ n i c2)) ?_)
   rintro _ j4 j8 h3 d a1 R h ⟨f3,d7,y,rfl,c9⟩
   obtain rfl:=y.symm
   replace d:=d.perm (Tb (Tr Tn))
   refine ln (gn (Wm (Wf qh (VA d (Mt (Ma Mh)) (fS c.C) aX aD (bS a λi6 c3 a=>?_)))))
   refine VE (eM d (Cb Pz (Cr Qz Cn)) call212 (λn _=>(nH g f3 e7.2 d7 c.C _ _ n c9 c3)) ?_)
   rintro _ j5 f8 h4 d a2 a6 h ⟨f4,d8,z,rfl,d0⟩
   obtain rfl:=z.symm
   replace d:=d.perm (Tb (Tr Tn))
   refine gJ (ig (gj ?_))
   obtain rfl:=sj a
   exact ⟨f4,d8,f8,_,(a1.trans a2),(d.fR (Kb (Kr (Db St)))),rfl,d0⟩
  refine iD (ig (gj ?_))
  obtain rfl:=sj a
  exact ⟨G,D,d1,_,(gf.refl _),(d.fR (Kb (Kr (Db St)))),rfl,i⟩
 rintro e5 E W ⟨B,H,K,Q,g1,d,d9,c4⟩ j
 refine sg (Wh d9 (bS j λi2 b5 j=>VE (nJ d call173 (nY g B e5 _ _ (c4.sl (λ_=>rfl) (λb o q=>d.at_ (Mt (Ml q)))) (At.of (d.at_ Mh) _ rfl) b5) (λh5 e8 j6 d2 d g2 s M=>Wa (ln ?_)))))
 replace d:=d.fR (Kr (Db (Dr St)))
 refine gC ?_
 obtain rfl:=sj j
 exact gZ (v:=e8) rfl rfl ⟨_,d2,rfl,d.jM (λp q=>(Ml q)) M.nd,M⟩
theorem Hq (w:World) {c d:Value} {a b:List Int} (h1:Sl (Pl (fW .u8)) 1 (hp w) c a) (g:Sl (Pl (fW .u8)) 1 (hp w) d b):(callFunc 211 [c,d].toArray).run pg0 w= .ok (.value (.int .i64 (pW a b))) w:=Fk func211 (by kernel_rfl) (by kernel_rfl) (by kernel_rfl) (by kernel_rfl) h1 g
theorem xz (a:Value) (g:List Int) (c:Value) (i:List Int) (r:Int) (w:World) (j:Sl (Pl (fW .u8)) 1 (hp w) a g) (k:Sl (Pl (fW .u8)) 1 (hp w) c i) (hm:qC g i=some r) :
  gz true pg0 151 [a,c] w (.int .i64 r):=by
 exact cG 8 func151 rfl (λd=>sg (Wa (lr (Wm (Wm (VE (zB (args:=[a,c]) (v:=.int .i64 (pW g i)) rfl (by exact jG rfl rfl) (Hq _ (j.mono (Pl.mono _) d.gd) (k.mono (Pl.mono _) d.gd)) (Wa (lt (rQ hm d))))))))))
theorem yk (g i:fP) (r:Int) (w:World) (hm:my g i=some r) :
  gz true pg0 81 [(.agg (gb g).toArray),(.agg (gb i).toArray)] w (.int .i64 r):=by
 refine cG 10 func81 rfl (λd=>sg (VE (jr d rfl (λT Y d=>VE (jr d rfl (λU Z d=>Wa (ln (gq ?_))))))))
 replace d:=d.drew
 have h:=d.has.fR (Kb (Kb Sn))
 refine ic h gK (XH 0 rfl h (λ_ n=>fU rfl (fY n (Mt Mh) (gb g) rfl ca bj)) (XH 2 rfl h (λ_ n=>fU rfl (fY n Mh (gb i) rfl ca bj)) (bS hm λy t hm=>XE 1 rfl (nJ d call152 (st g _ _  t) (λI B N G d a q j=>?_)))))
 have h:=d.has.jn a (Dr (Kb (Kb Sn)))
 refine ⟨h,(bS hm λz u hm=>XE 3 rfl (nJ d call152 (st i _ _  u) (λJ D Q H d c s k=>?_)))⟩
 have h:=d.has.jn (a.trans c) (Dr (Dr (Kb (Kb Sn))))
 refine ⟨h,(bS hm λM x hm=>XE 4 rfl (Eg d call151 (xz B y D z _ _ (j.sl (λ_=>rfl) (λb o p=>d.at_ (Ma (Ml p)))) (k.sl (λ_=>rfl) (λb o p=>d.at_ (Ml p))) x) (λK d=>?_)))⟩
 have h:=d.has.jn (a.trans c) (Dr (Dr (Kb (Kb Sn))))
 refine ⟨h,(X 5 rfl h (iM rfl) (iz kr (gj ?_)))⟩
 exact gC (rQ hm d)
theorem BA (u:Value) (Y:List Signed) (r:Bool) (w:World) (M:Sl gr 10 (hp w) u Y) (hm:tw Y=some r) :
  gz true pg0 95 [u] w (.bool r):=by
 refine cG 42 func95 rfl (λn=>sg (Wa (lS (Wm (V (iI bH rfl M) (Wm (ln (jb (λi E W=>∃U,(E 7= .int .i64 (i:Nat)∧E 6= .int .i64 (Y.length:Nat))∧ST true iv w W (hp w) U∧E 0=u∧E 5=u∧mv Y (Y.drop i) i=some r) Y.length M.len ⟨_,⟨rfl,rfl⟩,(n.fR St),rfl,rfl,hm⟩ dc dc dc (λ_ _ _ h=>by obtain ⟨_,s,_⟩:=h; exact s) ?_ ?_))))))))
 ·rintro B E W b4 ⟨U,⟨p,v⟩,n,I,J,k⟩
  obtain ⟨a,e1,c4,c3,c5⟩:=iK b4
  rw [c4] at k
  refine bg (Wh p (VQ (nZ (i:=(B:Int)) (x0:=a) gr.out bH bR J p M (aV _) c3) (λe6 ⟨_,⟨f1,rfl,a4⟩,b7⟩=>V (fU rfl (kf n.has b7 eG bR)) (VE (gy n cW (λe2 H n=>Wa ?_))))))
  let f5:Value:=(.int .i64 (Y.length:Int))
  let b8:Value:=(.int .i64 (B:Int))
  obtain ⟨D,G,rfl⟩:=a4.form
  let a0:=(C1 a.fP.Kind a.fP.Head.fX a.fP.Head.Word a.fP.ir a.fP.B.fX a.fP.B.Word a.fP.C.fX a.fP.C.Word a.fP.gT D a.Tag.length G)
  refine VO (ga (.agg a0.toArray) (a0.toArray) n rfl rfl bR oc nb rfl (λe3 n=>ln (gq ?_)))
  replace n:=n.drew
  have d:=n.has.fR (Kb Sn)
  refine ic d gK (X 0 rfl d (fZ qg rfl) (XH 1 rfl d (λ_ o=>fU rfl (fY o Mh (gb a.fP) rfl ca bj)) (bS k λe9 c1 k=>XE 2 rfl (Eg n call144 (oU a.fP _ _  c1) (λe4 n=>?_)))))
  have d:=n.has.fR (Kb Sn)
  refine ⟨d,(X 3 rfl d (kj rfl) (X 4 rfl d (gl rfl) (PJ k (λb2 E W=>∃A,ST true iv w W (hp w) ((H,Ol a0 55)::A)∧E 0=u∧E 3=b8∧E 4=(.pointer (some ⟨H,0,none⟩))∧E 5=u∧E 6=f5∧E 7=b8∧E 21=(.bool b2)) (bm 26 1023) 16 ?_ (λb2 z T=>?_))))⟩
  ·rintro d9 E W ⟨A,n,K,a9,c6,Z,q,a2,c7⟩ b5
   have d:=n.has.fR (Kb Sn)
   refine X 10 rfl d (gl c7) (PJ b5 (λP E W=>∃L,ST true iv w W (hp w) ((H,Ol a0 55)::L)∧E 0=u∧E 5=u∧E 6=f5∧E 7=b8∧E 37=(.bool P)) (bm 26 67108863) 0 ?_ (λP y N=>?_))
   ·rintro f3 E W ⟨L,n,c8,c9,d0,d1,d2⟩ x
    refine iz kr (gj ?_)
    replace n:=n.fR (Db St)
    refine CI x d2 (λb3 x=>?_) (λb3 x=>?_)
    ·refine sg (Wa (lt (jK (gN (jK (gN ?_))))))
     obtain rfl:=sj x
     exact rP n
    exact iD (ig (gj ⟨d1,_,⟨rfl,d0⟩,(n.fR St),c8,c9,(by rw [c5]; exact x)⟩))
   refine bC y (λg y=>?_) (λg y=>?_)
   ·refine Xn 11 rfl rfl (cB g) d (Xn 12 rfl rfl (cB g) d (Xn 13 rfl rfl (cB g) d (Xu 14 rfl rfl rfl d (Xu 15 rfl rfl rfl d (Xu 16 rfl rfl rfl d (Xu 17 rfl rfl rfl d (Xu 18 rfl rfl rfl d (Xu 19 rfl rfl rfl d (Xu 20 rfl rfl rfl d (Xu 21 rfl rfl rfl d (Xu 22 rfl rfl rfl d (Xu 23 rfl rfl rfl d (Xn 24 rfl rfl (cB g) d (X 25 rfl d (gx (cB g) rfl) ?_))))))))))))))
    obtain rfl:=sj y
    refine jj kr (N _ _ ⟨_,(n.fR St),K,Z,q,a2,rfl⟩)
   refine Xg 11 rfl rfl (cB g) d (gl a9) (Xg 12 rfl rfl (cB g) d (iJ rfl rfl rfl) (Xg 13 rfl rfl (cB g) d (gl rfl) (PJ y (λR E W=>∃O,ST true iv w W (hp w) ((H,Ol a0 55)::O)∧E 0=u∧E 5=u∧E 6=f5∧E 7=b8∧E 22=(.bool d9)∧E 36=(.bool R)) (bm 26 33554431) 1 ?_ (λR t Q=>?_))))
   ·rintro f4 E W ⟨O,n,d3,d4,d5,d6,d7,d8⟩ b6
    have d:=n.has.fR (Kb Sn)
    refine X 25 rfl d (gw (d7.trans (cB g)) d8) ?_
    obtain rfl:=sj b6
    refine jj kr (N _ _ ⟨_,(n.fR St),d3,d4,d5,d6,rfl⟩)
   refine bC t (λc t=>?_) (λc t=>?_)
   ·refine Xg 14 rfl rfl (cB c) d (gl K) (Xg 15 rfl rfl (cB c) d (gl a9) (Xg 16 rfl rfl (cB c) d (iJ rfl rfl rfl) (bS t λa3 a5 t=>Fb 17 rfl kr (.inr ⟨13,true,25,rfl,rfl,by decide,(cB c)⟩) rfl dc (λ_ _ h=>h) d (nZ (i:=(wi0 .i64 ((B:Int)-1))) (x0:=a3) gr.out bH bR rfl rfl M (jL a5) (je a5)) (λe7 ⟨_,⟨f2,rfl,e0⟩,b9⟩=>Fb 18 rfl kr (.inr ⟨13,true,25,rfl,rfl,by decide,(cB c)⟩) rfl dc (λ_ _ h=>h) d (vP (gb a3.fP) qg rfl b9 rfl) (λe8 c0=>uW 19 rfl rfl (cB c) d (λ_ o=>fU rfl (kf o c0 ca bj)) (Xg 20 rfl rfl (cB c) d (fZ qg c6) (uW 21 rfl rfl (cB c) d (λ_ o=>fU rfl (fY o Mh (gb a.fP) rfl ca bj)) (bS t λf0 c2 t=>yO 22 rfl rfl (cB c) (Eg n call81 (yk a3.fP a.fP _ _  c2) (λe5 n=>?_))))))))))
    have d:=n.has.fR (Kb Sn)
    refine ⟨d,(Xg 23 rfl rfl (cB c) d (iJ rfl rfl rfl) (Xg 24 rfl rfl (cB g) d (gx (cB c) rfl) ?_))⟩
    obtain rfl:=sj t
    refine jj kr (Q _ _ ⟨_,(n.fR St),K,Z,q,a2,rfl,rfl⟩)
   refine Xn 14 rfl rfl (cB c) d (Xn 15 rfl rfl (cB c) d (Xn 16 rfl rfl (cB c) d (Xn 17 rfl rfl (cB c) d (Xn 18 rfl rfl (cB c) d (Xn 19 rfl rfl (cB c) d (Xn 20 rfl rfl (cB c) d (Xn 21 rfl rfl (cB c) d (Xn 22 rfl rfl (cB c) d (Xn 23 rfl rfl (cB c) d (Xg 24 rfl rfl (cB g) d (gw (cB c) rfl) ?_))))))))))
   obtain rfl:=sj t
   refine jj kr (Q _ _ ⟨_,(n.fR St),K,Z,q,a2,rfl,rfl⟩)
  refine bC z (λj z=>?_) (λj z=>?_)
  ·refine Xn 5 rfl rfl (cB j) d (Xn 6 rfl rfl (cB j) d (Xn 7 rfl rfl (cB j) d (Xn 8 rfl rfl (cB j) d (X 9 rfl d (gx (cB j) rfl) ?_))))
   obtain rfl:=sj z
   refine jj kr (T _ _ ⟨_,(n.fR St),I,rfl,rfl,J,v,p,rfl⟩)
  refine Xg 5 rfl rfl (cB j) d (fZ ss rfl) (uW 6 rfl rfl (cB j) d (λ_ o=>fU rfl (gh o Mh rfl bX)) (Xg 7 rfl rfl (cB j) d (iI aG rfl a4) (Xg 8 rfl rfl (cB j) d (iJ rfl rfl rfl) (X 9 rfl d (gw (cB j) rfl) ?_))))
  obtain rfl:=sj z
  refine jj kr (T _ _ ⟨_,(n.fR St),I,rfl,rfl,J,v,p,rfl⟩)
 rintro E W ⟨U,⟨p,v⟩,n,I,J,k⟩
 rw [aZ] at k
 exact gj (sg (Wh I (V (iI bH rfl M) (Wi rfl (Wa (lt (rQ k n)))))))
theorem pC (a:ie) (G D:Value) (r:Bool) (w:World) (i:Sl (Pl fS) 2 (hp w) G a.gA) (g:Sl gr 10 (hp w) D a.gv) (hm:js a=some r) :
  gz false pg0 31 [(.agg #[(.int .i64 a.Kind),(.int .i64 a.gY),(.int .i64 a.E),(.string a.Name),G,D])] w (.bool r):=by
 refine cG 53 func31 rfl (λd=>sg ?_)
 obtain ⟨Y,c2,rfl⟩:=i.form
 let n:Value:=(.slice Y a.gA.length c2)
 obtain ⟨Z,P,rfl⟩:=g.form
 let a2:Value:=(.slice Z a.gv.length P)
 let a0:=(C2 a.Kind a.gY a.E a.Name Y a.gA.length c2 Z a.gv.length P)
 refine VE (jr d rfl (λW6 b5 d=>Wa (ln (gq (gq ?_)))))
 replace d:=d.drew
 have h:=d.has.fR (Kb Sn)
 refine ic h gK (XH 0 rfl h (λ_ o=>fU rfl (fY o Mh a0 rfl bx aO)) (XH 2 rfl h (λ_ o=>fU rfl (fY o Mh a0 rfl bx aO)) (bS hm λe1 d1 hm=>?_)))
 refine XE 1 rfl (eD d (cj _) call92 (λhh=>iC.gV (CC a n a2 _ _ hh (i.mono (Pl.mono _) (gf.refl _)) (g.mono gO.mono (gf.refl _)) d1)) ?_ (L0:=[]))
 rintro _ g1 N f3 d y R ⟨e3,e4,Q,rfl,d5,d6⟩
 obtain rfl:=Q.symm
 have h:=d.has.jn y (Kb Sn)
 refine ⟨h,(bS hm λf9 d2 hm=>XE 3 rfl (Eg d call34 (xl e1 e3 e4 a n a2 _ _ (d5.mono (Pl.mono _) d.gd) (d6.mono gO.mono d.gd) (i.mono (Pl.mono _) (y.trans d.gd)) (g.mono gO.mono (y.trans d.gd)) d2) (λf5 d=>?_)))⟩
 have h:=d.has.jn y (Kb Sn)
 refine ⟨h,(X 4 rfl h (kj rfl) (iz kr (gj (CI hm rfl (λc6 hm=>?_) (λc6 hm=>?_)))))⟩
 ·refine sg (Wa (ln ?_))
  replace d:=d.fR (Db St)
  refine gC (gN ?_)
  obtain rfl:=sj hm
  exact rP d
 refine kS (Wf om (VB d Mh rfl rfl bY (ln (bg (Wi rfl (Wa (gJ ?_)))))))
 refine gj (CI hm rfl (λc7 hm=>?_) (λc7 hm=>?_))
 ·refine sg (Wf qo (VB d Mh rfl rfl bG (bS hm λe2 d3 hm=>VE (Eg d call93 (gz.gV (mA a.Name _ _  d3)) (λf6 d=>Wm (LJ hm (λL E W=>∃v,ST false iv w W N v∧E 2=(.bool false)∧E 24=(.bool L)) 9 ?_ (λL H T=>?_)))))))
  ·rintro g2 E W ⟨v,d,f8,d7⟩ c9
   refine Wg d7 (lt (jK (gN ?_)))
   obtain rfl:=sj c9
   exact rP d
  refine bC H (λc H=>?_) (λc H=>?_)
  ·refine ug c (fZ pw rfl) (ug c (fU rfl (gh d.has Mh rfl bY)) (ug c (iJ rfl rfl rfl) (ug c (gl rfl) (LJ H (λO E W=>∃A,ST false iv w W N A∧E 2=(.bool false)∧E 15=(.bool e2)∧E 23=(.bool O)) 4 ?_ (λO I U=>?_)))))
   ·rintro g3 E W ⟨A,d,d8,d9,e0⟩ d0
    refine V (gx (d9.trans (cB c)) e0) ?_
    obtain rfl:=sj d0
    exact T _ _ ⟨_,(d.fR St),d8,rfl⟩
   refine bC I (λt I=>?_) (λt I=>?_)
   ·refine un t (un t (un t (ug c (gx (cB t) rfl) ?_)))
    obtain rfl:=sj I
    exact U _ _ ⟨_,(d.fR (Db St)),rfl,rfl,rfl⟩
   refine ug t (fZ pw rfl) (ug t (fU rfl (gh d.has Mh rfl bY)) (ug t (iJ rfl rfl rfl) (ug c (gw (cB t) rfl) ?_)))
   obtain rfl:=sj I
   exact U _ _ ⟨_,(d.fR (Db St)),rfl,rfl,rfl⟩
  refine un c (un c (un c (un c (Vu rfl rfl (Vu rfl rfl (Vu rfl rfl (un c (V (gw (cB c) rfl) ?_))))))))
  obtain rfl:=sj H
  exact T _ _ ⟨_,(d.fR (Db St)),rfl,rfl⟩
 refine sg (Wi rfl (Wa (ln (CI hm rfl (λc8 hm=>?_) (λc8 hm=>?_)))))
 ·refine sg (Wf nG (VB d Mh rfl rfl eV (bS hm λg0 d4 hm=>VE (Eg d call94 (Bz n a.gA _ _ (i.mono (Pl.mono _) (y.trans d.gd)) d4) (λf7 d=>Wm (LJ hm (λp E W=>∃a3,ST false iv w W N a3∧E 2=(.bool false)∧E 34=(.bool p)) 4 ?_ (λp x J=>?_)))))))
  ·rintro f0 E W ⟨a3,d,e6,c0⟩ b0
   refine Wg c0 (lt (jK (gN ?_)))
   obtain rfl:=sj b0
   exact rP d
  refine bC x (λu x=>?_) (λu x=>?_)
  ·refine ug u (fZ nC rfl) (ug u (fU rfl (gh d.has Mh rfl eW)) (bS x λe9 b3 x=>nN u (Eg d call95 (gz.gV (BA a2 a.gv _ _ (g.mono gO.mono (y.trans d.gd)) b3)) (λe5 d=>V (gx (cB u) rfl) ?_))))
   obtain rfl:=sj x
   exact J _ _ ⟨_,(d.fR (Db St)),rfl,rfl⟩
  refine un u (un u (un u (V (gw (cB u) rfl) ?_)))
  obtain rfl:=sj x
  exact J _ _ ⟨_,(d.fR (Db St)),rfl,rfl⟩
 refine sg (Wi rfl (Wa (ln (CI hm rfl (λa9 hm=>?_) (λa9 hm=>?_)))))
 ·refine sg (Wf qk (VB d Mh rfl rfl bY (Wi rfl (Wm (LJ hm (λq E W=>∃a4,ST false iv w W N a4∧E 2=(.bool false)∧E 44=(.bool q)) 4 ?_ (λq z K=>?_))))))
  ·rintro f1 E W ⟨a4,d,e7,c1⟩ b1
   refine Wg c1 (lt (jK (gN ?_)))
   obtain rfl:=sj b1
   exact rP d
  refine bC z (λj z=>?_) (λj z=>?_)
  ·refine ug j (fZ qk rfl) (ug j (fU rfl (gh d.has Mh rfl bY)) (ug j (iJ rfl rfl rfl) (V (gx (cB j) rfl) ?_)))
   obtain rfl:=sj z
   exact K _ _ ⟨_,(d.fR (Db St)),rfl,rfl⟩
  refine un j (un j (un j (V (gw (cB j) rfl) ?_)))
  obtain rfl:=sj z
  exact K _ _ ⟨_,(d.fR (Db St)),rfl,rfl⟩
 refine iD (ig (gj (sg (Wf om (VB d Mh rfl rfl bY (Wi rfl (Wm (LJ hm (λs E W=>∃a5,ST false iv w W N a5∧E 2=(.bool false)∧E 52=(.bool s)) 4 ?_ (λs B M=>?_)))))))))
 ·rintro f2 E W ⟨a5,d,e8,c3⟩ b2
  exact Wg c3 (lt (rQ b2 d))
 refine bC B (λk B=>?_) (λk B=>?_)
 ·refine un k (un k (un k (V (gx (cB k) rfl) ?_)))
  obtain rfl:=sj B
  exact M _ _ ⟨_,(d.fR (Db St)),rfl,rfl⟩
 refine ug k (fZ om rfl) (ug k (fU rfl (gh d.has Mh rfl bY)) (ug k (iJ rfl rfl rfl) (V (gw (cB k) rfl) ?_)))
 obtain rfl:=sj B
 exact M _ _ ⟨_,(d.fR (Db St)),rfl,rfl⟩
theorem Bt (J:Value) (N:List Int) (r:ByteArray) (w:World) (I:Sl (Pl (fW .u8)) 1 (hp w) J N) (hm:sZ N=some r) :
  gz true pg0 168 [J] w (.string r):=by
 refine cG 24 func168 rfl (λd=>sg (Wa (lr (Wa (lS (Wm ?_))))))
 refine V (iI aG rfl I) (Wm (ln (jb (λi E W=>∃t B j D,(E 8= .int .i64 (i:Nat)∧E 7= .int .i64 (N.length:Nat))∧ST true iv w W (hp w) (j++D)∧E 3=t∧E 6=J∧gB 5 (fW .u8) 1 t B j∧mw (N.drop i) B=some r) N.length I.len ⟨(.slice none 0 0),([]),[],_,⟨rfl,rfl⟩,(d.fR St),rfl,rfl,(gB.nil _ _ _),hm⟩ dc dc dc (λ_ _ _ h=>by obtain ⟨_,_,_,_,q,_⟩:=h; exact q) ?_ ?_)))
 ·rintro a5 E W U ⟨t,B,j,D,⟨o,s⟩,d,G,H,z,c⟩
  obtain ⟨g,a8,A,Z,a2⟩:=iK U
  rw [A] at c
  refine bg (VQ (ll (enc:=(fW .u8)) (i:=(a5:Int)) (x0:=g) aG dV H o I (aV _) Z) (λb1 Y=>V (fU rfl (nT d.has (y:=(.int .u8 g)) Y isAgg5)) (Wa (ln ?_))))
  replace d:=d.drew
  have n:=d.has.fR Sn
  refine ic n gK (X 0 rfl n (gl G) (X 1 rfl n (gl rfl) (X 2 rfl n (Dj (a:=g) (b:=4) rfl rfl dc) (bS c λu K c=>X 3 rfl n (qD (i:=(Int.fdiv g (2 ^ min (Int.toNat 4) (IntKind.bits .u8)))) aI rfl rfl (pH K) (sd K)) (X 4 rfl n (gl rfl) (X 5 rfl n (Dx (k:=.u8) (a:=g) (b:=15) (v:=(.int .u8 (IntKind.u8.wrap (BitVec.ofInt (IntKind.bits .u8) g &&& BitVec.ofInt (IntKind.bits .u8) 15).toNat))) rfl rfl dc rfl) (bS c λx M c=>X 6 rfl n (qD (i:=(IntKind.u8.wrap (BitVec.ofInt (IntKind.bits .u8) g &&& BitVec.ofInt (IntKind.bits .u8) 15).toNat)) aI rfl rfl (pH M) (sd M)) (XE 7 rfl (iy (cs:=#[(.int .u8 (u.toNat:Int)),(.int .u8 (x.toNat:Int))]) d (mY rfl rfl) (lH aG dV fF) (λa9 a4 d=>?_))))))))))
  have n:=d.has.fR Sn
  refine ⟨n,?_⟩
  replace d:=d.perm (Nr (Qb Qz) Nz)
  refine bS c λL T c=>XE 8 rfl (lg (enc:=(fW .u8)) (v:=t) (vs:=(.slice (some ⟨a4,0,none⟩) 2 2)) (R:=j) d (λ_=>rfl) dc (qF _) aG ju.1 ju.2.1 rfl ju.2.2.1 ju.2.2.2 rfl rfl z (Sl.lit (enc:=(fW .u8)) (l:=[(u.toNat:Int),(x.toNat:Int)]) (λ_=>rfl) rfl nb rfl (d.at_ (Ma Mh))) T (λb0 O a3 d Q=>?_))
  have n:=d.has.fR Sn
  refine ⟨n,(X 9 rfl n (iM rfl) (iz kr (ig (gj ?_))))⟩
  replace d:=d.fR (Kr (Db St))
  exact ⟨o,O,L,a3,_,⟨rfl,s⟩,(d.fR St),rfl,H,Q,(by rw [a2]; exact c)⟩
 rintro E W ⟨t,B,j,D,⟨o,s⟩,d,G,H,z,c⟩
 rw [aZ] at c
 refine gj (sg (Wh G (V (mT aG bK aI rfl (z.BM (λ_=>rfl) d (λp P=>(Ml P)))) (Wa (ln ?_)))))
 exact gC (rQ c d)
theorem Ey (a:Value) (g:List ByteArray) (i r:ByteArray) (w:World) (c:Sl (Pl lN) 1 (hp w) a g) (hm:xh g i=some r) :
  gz false pg0 209 [a,(.string i)] w (.string r):=CQ GD IX rfl c hm
theorem tV (a:Value) (g:List ByteArray) (i r:ByteArray) (w:World) (c:Sl (Pl lN) 1 (hp w) a g) (hm:nM g i=some r) :
  gz false pg0 169 [a,(.string i)] w (.string r):=by
 refine cG 11 func169 rfl (λd=>sg (Wa (lS (Wm (V (iI cn rfl c) (Wi rfl (ln (CI hm rfl (λj hm=>?_) (λj hm=>?_)))))))))
 ·refine sg (Wa (lt (gN ?_)))
  obtain rfl:=sj hm
  exact rP d
 exact kg (Wm (Wm (bS hm λu k hm=>VE (Eg d call209 (Ey a g i _ _ (c.mono (Pl.mono _) d.gd) k) (λt d=>Wa (lt (rQ hm d)))))))
theorem zO (k:ie) (B z:Value) (r:ByteArray) (w:World) (u:Sl (Pl fS) 2 (hp w) B k.gA) (t:Sl gr 10 (hp w) z k.gv) (hm:qz k=some r) :
  gz false pg0 98 [(.agg #[(.int .i64 k.Kind),(.int .i64 k.gY),(.int .i64 k.E),(.string k.Name),B,z])] w (.string r):=by
 refine cG 48 func98 rfl (λd=>sg ?_)
 obtain ⟨A1,c2,rfl⟩:=u.form
 obtain ⟨A3,c4,rfl⟩:=t.form
 refine VE (jr d rfl (λW6 b5 d=>Wa (lr (Wa (Wa (lS (Wf nG (VB d Mh rfl rfl eV ?_))))))))
 refine V (iI aP rfl u) (Wm (ln (jb (λi E W=>∃x H y Y,(E 12= .int .i64 (i:Nat)∧E 11= .int .i64 (k.gA.length:Nat))∧ST false iv w W (hp w) ((b5,Ol (C2 k.Kind k.gY k.E k.Name A1 k.gA.length c2 A3 k.gv.length c4) 68)::(y++Y))∧E 1=(.pointer (some ⟨b5,0,none⟩))∧E 3=x∧E 4=(.slice none 0 0)∧E 10=(.slice A1 k.gA.length c2)∧gB 9 lN 1 x H y∧kO k (k.gA.drop i) H=some r) k.gA.length u.len ⟨(.slice none 0 0),([]),[],_,⟨rfl,rfl⟩,(d.fR St),rfl,rfl,rfl,rfl,(gB.nil _ _ _),hm⟩ dc dc dc (λ_ _ _ h=>by obtain ⟨_,_,_,_,q,_⟩:=h; exact q) ?_ ?_)))
 ·rintro g0 E W e9 ⟨x,H,y,Y,⟨p,s⟩,d,a3,a4,a5,L,J,g⟩
  obtain ⟨I,j3,f1,f0,f2⟩:=iK e9
  rw [f1] at g
  refine bg (VQ (ll (enc:=fS) (i:=(g0:Int)) (x0:=I) aP aD L p u (aV _) f0) (λh9 c1=>V (fU rfl (kf d.has c1 aX aD)) (VE (gy d bL (λg2 h7 d=>VO (ga (.agg (fS I).toArray) ((fS I).toArray) d rfl rfl aD (iH I) nb rfl (λg3 d=>ln (gn (Wh a4 (VA d Mh (fS I) aX aD (bS g λN c5 g=>VE (Eg d call79 (gz.gV (oy I _ _  c5)) (λg4 d=>VE (iy (cs:=[(.string N)].toArray) d (kA rfl) (lH cn dm zeroValue9) (λg7 e3 d=>?_)))))))))))))))
  replace d:=d.perm (Nr (Qb (Qb (Qb Qz))) Nz)
  refine bS g λf4 b6 g=>VE (lg (enc:=lN) (v:=x) (vs:=(.slice (some ⟨e3,0,none⟩) 1 1)) (R:=y) d (λ_=>rfl) dc vx cn sQ.1 sQ.2.1 rfl sQ.2.2.1 sQ.2.2.2 rfl rfl J (Sl.lit (enc:=lN) (l:=[N]) (λ_=>rfl) rfl nb rfl (d.at_ (Ma Mh))) b6 (λg8 f7 e1 d b3=>Wa (gJ (ig (gj ?_)))))
  replace d:=d.fR (Kr (Db (Db St)))
  exact ⟨p,f7,f4,e1,_,⟨rfl,s⟩,(d.fR (Sb (Pr Pz) St)),a3,rfl,a5,L,b3,(by rw [f2]; exact g)⟩
 rintro E W ⟨x,H,y,Y,⟨p,s⟩,d,a3,a4,a5,L,J,g⟩
 rw [aZ] at g
 refine gj (gq (sg (V (fZ nC a3) (VB d Mh rfl rfl eW (V (iI bH rfl t) (Wm (ln ?_)))))))
 replace d:=d.fR (Db St)
 refine CJ g (λb0 E W=>∃T A b2,ST false iv w W (hp w) (A++(y++b2))∧E 3=x∧E 4=T∧gB 9 lN 1 T b0 A) (λb0 c0=>?_) ?_
 ·refine jb (λi E W=>∃G M D Z,(E 25= .int .i64 (i:Nat)∧E 24= .int .i64 (k.gv.length:Nat))∧ST false iv w W (hp w) (D++(y++Z))∧E 3=x∧E 4=G∧E 23=(.slice A3 k.gv.length c4)∧gB 9 lN 1 G M D∧lL (k.gv.drop i) M=some b0) k.gv.length t.len ⟨(.slice none 0 0),([]),[],_,⟨rfl,rfl⟩,(d.fR St),a4,a5,rfl,(gB.nil _ _ _),c0⟩ dc dc dc (λ_ _ _ h=>by obtain ⟨_,_,_,_,q,_⟩:=h; exact q) ?_ ?_
  ·rintro f3 E W b9 ⟨G,M,D,Z,⟨p,s⟩,d,O,P,a9,K,c⟩
   obtain ⟨a,g1,d7,d6,d8⟩:=iK b9
   rw [d7] at c
   refine bg (VQ (nZ (i:=(f3:Int)) (x0:=a) gr.out bH bR a9 p t (aV _) d6) (λi0 ⟨_,⟨i9,rfl,b1⟩,c3⟩=>V (fU rfl (kf d.has c3 eG bR)) (VE (gy d cW (λh1 h8 d=>?_)))))
   obtain ⟨U,a2,rfl⟩:=b1.form
   let a0:=(C1 a.fP.Kind a.fP.Head.fX a.fP.Head.Word a.fP.ir a.fP.B.fX a.fP.B.Word a.fP.C.fX a.fP.C.Word a.fP.gT U a.Tag.length a2)
   refine VO (ga (.agg a0.toArray) (a0.toArray) d rfl rfl bR oc nb rfl (λh2 d=>ln ?_))
   replace d:=d.drew
   have n:=d.has.fR (Kb Sn)
   refine ic n gK (X 0 rfl n (gl P) (X 1 rfl n (fZ qg rfl) (XH 2 rfl n (λ_ hS=>fU rfl (fY hS Mh (gb a.fP) rfl ca bj)) (X 5 rfl n (fZ ss rfl) (XH 6 rfl n (λ_ hS=>fU rfl (gh hS Mh rfl bX)) (bS c λi3 c8 c=>XE 3 rfl (Eg d call74 (gz.gV (wm a.fP _ _  c8)) (λh3 d=>?_))))))))
   have n:=d.has.fR (Kb Sn)
   refine ⟨n,(bS c λi8 d4 c=>X 4 rfl n (kW rfl rfl d4) (bS c λi4 c9 c=>XE 7 rfl (Eg d call168 (gz.gV (Bt (.slice U a.Tag.length a2) a.Tag _ _ (b1.mono (Pl.mono _) d.gd) c9)) (λh4 d=>?_))))⟩
   have n:=d.has.fR (Kb Sn)
   refine ⟨n,(bS c λQ d5 c=>X 8 rfl n (kW rfl rfl d5) (XE 9 rfl (iy (cs:=[(.string Q)].toArray) d (kA rfl) (lH cn dm zeroValue9) (λh5 e4 d=>?_))))⟩
   have n:=d.has.fR (Db (Kb Sn))
   refine ⟨n,?_⟩
   replace d:=d.perm (Nr (Qb (Qb Qz)) Nz)
   refine bS c λf6 b7 c=>XE 10 rfl (lg (enc:=lN) (v:=G) (vs:=(.slice (some ⟨e4,0,none⟩) 1 1)) (R:=D) d (λ_=>rfl) dc vx cn sQ.1 sQ.2.1 rfl sQ.2.2.1 sQ.2.2.2 rfl rfl K (Sl.lit (enc:=lN) (l:=[Q]) (λ_=>rfl) rfl nb rfl (d.at_ (Ma Mh))) b7 (λh6 f8 e2 d b4=>?_))
   have n:=d.has.fR (Dr (Db (Kb Sn)))
   refine ⟨n,(X 11 rfl n (iM rfl) (iz kr (ig (gj ?_))))⟩
   replace d:=d.fR (Kr (Db (Db St)))
   exact ⟨p,f8,f6,e2,_,⟨rfl,s⟩,(d.fR St),O,rfl,a9,b4,(by rw [d8]; exact c)⟩
  rintro E W ⟨G,M,D,Z,⟨p,s⟩,d,O,P,a9,K,c⟩
  rw [aZ] at c
  refine gj ?_
  obtain rfl:=sj c
  exact ⟨G,D,_,(d.fR St),O,P,K⟩
 rintro f5 E W ⟨T,A,b2,d,e7,e8,d0⟩ j
 refine sg (Wh e7 (bS j λi1 c6 j=>VE (Eg d call169 (tV x H (⟨#[44,32]⟩:ByteArray) _ _ (J.sl (λ_=>rfl) (λb o hq=>d.at_ (Ma (Ml hq)))) c6) (λg9 d=>bS j λi5 d1 j=>V (kW rfl rfl d1) (bS j λi6 d2 j=>V (kW rfl rfl d2) (Wh e8 (bS j λi2 c7 j=>VE (Eg d call169 (tV T f5 (⟨#[59,32]⟩:ByteArray) _ _ (d0.sl (λ_=>rfl) (λb o hq=>d.at_ (Ml hq))) c7) (λh0 d=>bS j λi7 d3 j=>V (kW rfl rfl d3) (Wa ?_))))))))))
 refine ln ?_
 exact gC (rQ j d)
theorem A5 (c:Int) (r:ByteArray) (w:World) (a:ny pg0 (hp w)) (hm:vS c=some r) :
  gz true pg0 50 [(.int .i64 c)] w (.string r):=Dg Hw rfl a.t hm
theorem qX (a:ie) (k j:Value) (r:ByteArray) (w:World) (a4:ny pg0 (hp w)) (g:Sl (Pl fS) 2 (hp w) k a.gA) (c:Sl gr 10 (hp w) j a.gv) (hm:jV a=some r) :
  gz false pg0 33 [(.agg #[(.int .i64 a.Kind),(.int .i64 a.gY),(.int .i64 a.E),(.string a.Name),k,j])] w (.string r):=by
 refine cG 32 func33 rfl (λd=>sg ?_)
 obtain ⟨u,z,rfl⟩:=g.form
 obtain ⟨x,B,rfl⟩:=c.form
 let a0:=(C2 a.Kind a.gY a.E a.Name u a.gA.length z x a.gv.length B)
 refine VE (jr d rfl (λW6 b5 d=>Wa (lS (VA d Mh a0 bx aO (bS hm λr7 a5 hm=>VE (Eg d call31 (pC a (.slice u a.gA.length z) (.slice x a.gv.length B) _ _ (g.mono (Pl.mono _) d.gd) (c.mono gO.mono d.gd) a5) (λW9 d=>V (kj rfl) (ln (CI hm rfl (λI hm=>?_) (λI hm=>?_))))))))))
 ·refine sg (Wa (ln ?_))
  replace d:=d.fR (Db St)
  refine gC (gN ?_)
  obtain rfl:=sj hm
  exact rP d
 refine kS (Wf om (VB d Mh rfl rfl bY (ln (bg (Wi rfl (Wa (gJ ?_)))))))
 refine gj (CI hm rfl (λJ hm=>?_) (λJ hm=>?_))
 ·refine gq ?_
  replace d:=d.drew
  have h:=d.has.fR (Kb Sn)
  refine ic h gK (X 0 rfl h (fZ qo rfl) (XH 1 rfl h (λ_ n=>fU rfl (gh n Mh rfl bG)) (bS hm λb4 Z hm=>X 2 rfl h (kW rfl rfl Z) (bS hm λb6 q hm=>X 3 rfl h (kW rfl rfl q) (X 5 rfl h (fZ pw rfl) (XH 6 rfl h (λ_ n=>fU rfl (gh n Mh rfl bY)) (bS hm λP T hm=>XE 4 rfl (nJ d call97 (iF.gV (uU  _ _  T)) (λA c0 c1 v d G o D=>?_)))))))))
  have h:=d.has.jn G (Dr (Kb Sn))
  refine ⟨h,(bS hm λH t hm=>XQ 7 rfl h (mj (i:=a.gY) (x0:=H) cn dm rfl rfl D (jL t) (je t)) (λO Q=>XE 8 rfl (.inl ⟨_,_,fU rfl (wK d.has (λp s=>(Ml s)) D (λ_=>rfl) Q (je t) (y:=(.string H)) rfl bG),⟨h,(bS hm λb7 a2 hm=>X 9 rfl h (kW rfl rfl a2) (X 10 rfl h (iM rfl) (iz kr (gj ?_))))⟩⟩)))⟩
  replace d:=d.fR (Dr (Db St))
  refine gC (jK (gN ?_))
  obtain rfl:=sj hm
  exact rP d
 refine sg (Wi rfl (Wa (ln (CI hm rfl (λK hm=>?_) (λK hm=>?_)))))
 ·refine sg (VA d Mh a0 bx aO (bS hm λR U hm=>VE (Eg d call98 (zO a (.slice u a.gA.length z) (.slice x a.gv.length B) _ _ (g.mono (Pl.mono _) d.gd) (c.mono gO.mono d.gd) U) (λL d=>Wa (ln ?_)))))
  replace d:=d.fR (Db St)
  refine gC (jK (gN ?_))
  obtain rfl:=sj hm
  exact rP d
 refine sg (Wi rfl (Wa (ln (CI hm rfl (λM hm=>?_) (λM hm=>?_)))))
 ·refine sg (Wa (ln ?_))
  replace d:=d.fR (Db St)
  refine gC (jK (gN ?_))
  obtain rfl:=sj hm
  exact rP d
 refine sg (Wi rfl (Wa (ln (CI hm rfl (λN hm=>?_) (λN hm=>?_)))))
 ·refine sg (Wa (ln ?_))
  replace d:=d.fR (Db St)
  refine gC (jK (gN ?_))
  obtain rfl:=sj hm
  exact rP d
 refine iD (ig (gj (sg (Wf qk (VB d Mh rfl rfl bY (bS hm λW Y hm=>VE (Eg d call50 (gz.gV (A5 a.E _ _ (a4.mono d.gd) Y)) (λa9 d=>bS hm λb9 a3 hm=>V (kW rfl rfl a3) (Wa (ln ?_))))))))))
 exact gC (rQ hm d)
theorem pO (M:ByteArray) (r:(ie×Bool)) (w:World) {U:gm} (L:kz U [] w) (H:ny pg0 U) (hm:lX M=some r) :
  iC false pg0 32 [(.string M)] w U [] (λv L1 μ1=>∃q s,v=(.tuple #[(.agg #[(.int .i64 ((r.1).Kind)),(.int .i64 ((r.1).gY)),(.int .i64 ((r.1).E)),(.string ((r.1).Name)),q,s]),(.bool (r.2))])∧L1=[]∧Sl (Pl fS) 2 μ1 q ((r.1).gA)∧Sl gr 10 μ1 s ((r.1).gv)):=by
 refine yX L 17 func32 rfl (λd=>sg (VE (gy d bq (λW2 Y d=>Wa (lr (Wm (bS hm λa a2 hm=>?_)))))))
 let n:Value:=(.int .i64 ((a).E))
 let h:Value:=(.string ((a).Name))
 let a5:Value:=(.int .i64 ((a).gY))
 let a4:Value:=(.int .i64 ((a).Kind))
 refine VE (eD d (cj _) call96 (λO=>iC.gV (zx M _ _ O (H.mono (gf.refl _)) a2)) ?_ (L0:=[]))
 rintro _ v9 p P d x o ⟨c1,c2,y,rfl,z,B⟩
 obtain rfl:=y.symm
 refine VE (gy d bq (λR J d=>?_))
 obtain ⟨g,j,rfl⟩:=z.form
 let a0:Value:=(.slice g ((a).gA).length j)
 obtain ⟨i,k,rfl⟩:=B.form
 let a3:Value:=(.slice i ((a).gv).length k)
 let N:Value:=(.agg #[a4,a5,n,h,a0,a3])
 refine VO (ga N (#[a4,a5,n,h,a0,a3]) d rfl rfl aO oc nb rfl (λb4 d=>lS (Wm (V (lA rfl rfl rfl) (Wm (LJ hm (λK E W=>∃I,ST false (gL []) w W p ((J,Ob #[a4,a5,n,h,a0,a3] 68)::((Y,Ol C3 68)::I))∧E 2=(.pointer (some ⟨Y,0,none⟩))∧E 4=(.pointer (some ⟨J,0,none⟩))∧E 14=(.bool K)) 5 ?_ (λK t G=>?_)))))))
 ·rintro c0 E W ⟨I,d,D,Z,A⟩ u
  refine ln (CI u A (λQ u=>?_) (λQ u=>?_))
  ·refine sg (V (ia (v:=(.agg C3.toArray)) lb (gG bq aW (qV _ aW) kr)) ?_)
   replace d:=d.perm (Nb (Pb Pz) Nz)
   refine VO (ga (.agg C3.toArray) (C3.toArray) d D rfl aO oc nb rfl (λb5 d=>Wa (ln ?_)))
   replace d:=d.fR (Kb (Db St))
   refine gC (gN ?_)
   obtain rfl:=sj u
   exact nD (v0:=(.agg C3.toArray)) (v1:=(.bool false)) rfl D (fY d.has Mh C3 rfl bx aO) rfl ⟨_,_,_,rfl,(d.hU Sn),x,o,(ST.gp d (gX.mem Sn)),(.slice none 0 0),(.slice none 0 0),rfl,rfl,(Sl.nil _ _ _),(Sl.nil _ _ _)⟩
  refine kg (V (fU Z (fY d.has Mh [a4,a5,n,h,a0,a3] rfl bx aO)) ?_)
  replace d:=d.perm (Nb (Pb Pz) Nz)
  refine VO (ga N (#[a4,a5,n,h,a0,a3]) d D rfl aO oc nb rfl (λb6 d=>Wa (ln ?_)))
  replace d:=d.fR (Kb (Db St))
  refine gC ?_
  obtain rfl:=sj u
  exact nD (v0:=N) (v1:=(.bool true)) rfl D (fY d.has Mh [a4,a5,n,h,a0,a3] rfl bx aO) rfl ⟨_,_,_,rfl,(d.hU Sn),x,o,(ST.gp d (gX.mem Sn)),a0,a3,rfl,rfl,z,B⟩
 refine bC t (λc t=>?_) (λc t=>?_)
 ·refine un c (un c (un c (un c (V (gx (cB c) rfl) ?_))))
  obtain rfl:=sj t
  exact G _ _ ⟨_,(d.fR St),rfl,rfl,rfl⟩
 refine ug c (fU rfl (fY d.has Mh [a4,a5,n,h,a0,a3] rfl bx aO)) (bS t λb9 T t=>nN c (Eg d call33 (qX a a0 a3 _ _ (H.mono (x.trans d.gd)) (z.mono (Pl.mono _) d.gd) (B.mono gO.mono d.gd) T) (λb7 d=>ug c (gl rfl) (ug c (lA rfl rfl rfl) (V (gw (cB c) rfl) ?_)))))
 obtain rfl:=sj t
 exact G _ _ ⟨_,(d.fR St),rfl,rfl,rfl⟩
theorem qH (a c:ByteArray) (r:Bool) (w:World) (hm:la a c=some r) :
  gz true pg0 107 [(.string a),(.string c)] w (.bool r):=by
 refine cG 8 func107 rfl (λd=>sg (Wa (lr (Wm (Wm (bS hm λj g hm=>VE (Eg d call178 (mH a c _ _  g) (λi d=>Wa (ln ?_)))))))))
 exact gC (rQ hm d)
theorem xe (g:Nat) (c:Value) (j:List Int) (a:LO) (i:Value) (D:List Int) (r:(Bool×(List Int))) (w:World) {I:gm} (M:kz I ((g,Ob #[c] 215)::(a++[])) w) (k:gB 5 (fW .u8) 1 c j a) (y:Sl (Pl (fW .u8)) 1 I i D) (hm:pS j D=some r) :
  iu true pg0 290 [(.pointer (some ⟨g,0,none⟩)),i] w ((g,Ob #[c] 215)::(a++[])) (λv J W'=>∃H B,v=(.bool (r.1))∧J=((g,Ob #[H] 215)::(B++[]))∧gB 5 (fW .u8) 1 H r.2 B):=by
 refine wo M 16 func290 rfl (λd=>sg (Wa (lS (Wm (V (lB du rfl rfl) (ln (kH rfl (iD ?_))))))))
 refine gj (sg (Wm (Wm (Wn (Wf pf (VB d Mh rfl rfl bX (Wm ?_)))))))
 replace d:=d.perm (Nr (Qb Qz) Nz)
 refine bS hm λz G hm=>VE (lg (enc:=(fW .u8)) (v:=c) (vs:=i) (R:=a) d (λ_=>rfl) dc (qF _) aG ju.1 ju.2.1 rfl ju.2.2.1 ju.2.2.2 rfl rfl k (y.mono (Pl.mono _) d.gd) G (λN T K d t=>Wn (Wf pf ?_)))
 obtain ⟨u,x,rfl⟩:=t.form
 replace d:=d.perm (Nb (Pr Pz) Nz)
 refine VO (ga (.slice u z.length x) (#[(.slice u z.length x)]) d rfl rfl cL oc nb rfl (λQ d=>lr (Wa (lt ?_))))
 obtain rfl:=sj hm
 exact gZ (v:=(.bool true)) rfl rfl ⟨_,_,rfl,(d.hU (Kb (Kr Sn))),(.slice u z.length x),K,rfl,rfl,t⟩
theorem Aa (i:Nat) (g:Value) (D:List Int) (c:LO) (a:Signed) (z:Value) (r:(Bool×(List Int))) (w:World) {μ0:gm} (h0:kz μ0 ((i,Ob #[g] 215)::(c++[])) w) (B:gB 5 (fW .u8) 1 g D c) (u:Sl (Pl (fW .u8)) 1 μ0 z a.Tag) (hm:qq D a=some r) :
  iu true pg0 235 [(.pointer (some ⟨i,0,none⟩)),(.agg #[(.int .i64 a.fP.Kind),(.string a.fP.Head.fX),(.string a.fP.Head.Word),(.string a.fP.ir),(.string a.fP.B.fX),(.string a.fP.B.Word),(.string a.fP.C.fX),(.string a.fP.C.Word),(.string a.fP.gT),z])] w ((i,Ob #[g] 215)::(c++[])) (λv L1 W'=>∃y1 S2,v=(.bool (r.1))∧L1=((i,Ob #[y1] 215)::(S2++[]))∧gB 5 (fW .u8) 1 y1 r.2 S2):=by
 let q:=((i,Ob #[g] 215)::(c++[]))
 refine wo h0 30 func235 rfl (λd=>sg ?_)
 obtain ⟨A1,c2,rfl⟩:=u.form
 refine VE (jr d rfl (λW4 O d=>Wa (lS (Wm (V (lB du rfl rfl) (Wm (Vg rfl rfl (fZ qg rfl) (Vg rfl rfl (fU rfl (fY d.has Mh (gb a.fP) rfl ca bj)) (bS hm λr5 d0 hm=>Es rfl rfl (Eg d call144 (oU a.fP _ _  d0) (λW7 d=>Vg rfl rfl (kj rfl) ?_)))))))))))
 refine V (gw rfl rfl) (Wm (LJ hm (λs E W=>∃a0,ST true (gL q) w W μ0 ((O,Ol (C1 a.fP.Kind a.fP.Head.fX a.fP.Head.Word a.fP.ir a.fP.B.fX a.fP.B.Word a.fP.C.fX a.fP.C.Word a.fP.gT A1 a.Tag.length c2) 55)::((i,Ob #[g] 215)::(c++a0)))∧E 0=(.pointer (some ⟨i,0,none⟩))∧E 3=(.pointer (some ⟨O,0,none⟩))∧E 18=(.bool s)) 5 ?_ (λs y K=>?_)))
 ·rintro x9 E W ⟨a0,d,a4,a5,c8⟩ k
  refine ln (CI k c8 (λb5 k=>?_) (λb5 k=>?_))
  ·refine sg (Wa (ln ?_))
   replace d:=d.fR (Db St)
   refine gC (gN ?_)
   obtain rfl:=sj k
   exact gZ (v:=(.bool false)) rfl rfl ⟨_,_,rfl,(d.hU (Kb (Kr Sn))),g,c,rfl,rfl,B⟩
  refine kg (Wh a4 (V (fZ qg a5) (VA d Mh (gb a.fP) ca bj (bS k λd1 b7 k=>VE (nJ d call152 (st a.fP _ _  b7) (λe4 d3 f1 e3 d U P b4=>bS k λd2 b9 k=>?_))))))
  refine VE (HP d (Cb (Pr (Pb Pz)) (Cr (Qr (Qb Qz)) Cn)) call290 (λhH hN n p=>(xe i g D c d3 d1 _ _ ⟨hH,hN,gf.refl _⟩ B (b4.sl (λ_=>rfl) (λb o hq=>p b o (Ml hq))) b9)) (λe5 e9 L e1 d Y R h b1=>?_))
  obtain ⟨A,a3,G,rfl,N⟩:=b1
  replace G:=G.symm; subst G
  replace d:=d.perm (Tb (Tr Tn))
  refine Wm (LJ k (λQ E W=>∃M I T a2,gf L T∧ST true (gL q) w W T ((i,Ob #[M] 215)::(I++a2))∧E 29=(.bool Q.1)∧gB 5 (fW .u8) 1 M Q.2 I) 5 ?_ (λQ x J=>?_))
  ·rintro ⟨d4,e7⟩ E W ⟨M,I,T,a2,d8,d,c9,c1⟩ b6
   refine Wg c9 (lt ?_)
   obtain rfl:=sj b6
   exact gZ (v:=(.bool d4)) rfl rfl ⟨_,_,rfl,(d.hU (Kb (Kr Sn))),M,I,rfl,rfl,c1⟩
  refine bC x (λj x=>?_) (λj x=>?_)
  ·refine ug j (gl a4) (ug j (fZ ss a5) (ug j (fU rfl (gh d.has (Mt (Ma (Ma Mh))) rfl bX)) (bS x λe8 c0 x=>?_)))
   refine nN j (eM d (Cb Pz (Cr Qz Cn)) call171 (λhh n=>(nx i A d2.2 a3 (.slice A1 a.Tag.length c2) a.Tag _ _ hh N (u.mono (Pl.mono _) ((U.trans Y).trans n)) c0)) ?_)
   rintro _ f0 d7 e2 d Z aa h ⟨d6,c6,H,rfl,c3⟩
   obtain rfl:=H.symm
   replace d:=d.perm (Tb (Tr Tn))
   refine V (gx (cB j) rfl) ?_
   obtain rfl:=sj x
   exact J _ _ ⟨d6,c6,d7,_,Z,(d.fR (Kb (Kr (Dr (Db St))))),rfl,c3⟩
  refine un j (un j (un j (un j (V (gw (cB j) rfl) ?_))))
  obtain rfl:=sj x
  exact J _ _ ⟨A,a3,L,_,(gf.refl _),(d.fR (Kb (Kr (Dr (Db St))))),rfl,N⟩
 refine bC y (λt y=>?_) (λt y=>?_)
 ·refine un t (un t (un t (un t (V (gx (cB t) rfl) ?_))))
  obtain rfl:=sj y
  exact K _ _ ⟨_,(d.fR St),rfl,rfl,rfl⟩
 refine ug t (fZ ss rfl) (ug t (fU rfl (gh d.has Mh rfl bX)) (ug t (iI aG rfl u) (ug t (iJ rfl rfl rfl) (V (gw (cB t) rfl) ?_))))
 obtain rfl:=sj y
 exact K _ _ ⟨_,(d.fR St),rfl,rfl,rfl⟩
theorem Bl (g:Nat) (y:Value) (c8:List Int) (u:LO) (j:ie) (H G:Value) (r:(Bool×(List Int))) (w:World) {μ0:gm} (h0:kz μ0 ((g,Ob #[y] 215)::(u++[])) w) (c3:gB 5 (fW .u8) 1 y c8 u) (t:Sl (Pl fS) 2 μ0 H j.gA) (k:Sl gr 10 μ0 G j.gv) (hm:nl c8 j=some r) :
  iu false pg0 174 [(.pointer (some ⟨g,0,none⟩)),(.agg #[(.int .i64 j.Kind),(.int .i64 j.gY),(.int .i64 j.E),(.string j.Name),H,G])] w ((g,Ob #[y] 215)::(u++[])) (λv L1 W'=>∃y1 S2,v=(.bool (r.1))∧L1=((g,Ob #[y1] 215)::(S2++[]))∧gB 5 (fW .u8) 1 y1 r.2 S2):=by
 let b8:=((g,Ob #[y] 215)::(u++[]))
 refine wo h0 72 func174 rfl (λd=>sg ?_)
 obtain ⟨A1,c2,rfl⟩:=t.form
 obtain ⟨A3,c4,rfl⟩:=k.form
 let e1:=(C2 j.Kind j.gY j.E j.Name A1 j.gA.length c2 A3 j.gv.length c4)
 refine VE (jr d rfl (λW6 b5 d=>Wa (lS (Wm (V (lB du rfl rfl) (Wm (Vg rfl rfl (fU rfl (fY d.has Mh e1 rfl bx aO)) (bS hm λr7 n2 hm=>Es rfl rfl (Eg d call31 (pC j (.slice A1 j.gA.length c2) (.slice A3 j.gv.length c4) _ _ (t.mono (Pl.mono _) d.gd) (k.mono gO.mono d.gd) n2) (λW9 d=>Vg rfl rfl (kj rfl) (V (gw rfl rfl) ?_)))))))))))
 refine ln (CI hm rfl (λk8 hm=>?_) (λk8 hm=>?_))
 ·refine sg (Wa (ln ?_))
  replace d:=d.fR (Db St)
  refine gC (gN ?_)
  obtain rfl:=sj hm
  exact gZ (v:=(.bool false)) rfl rfl ⟨_,_,rfl,(d.hU (Kb (Kr Sn))),y,u,rfl,rfl,c3⟩
 refine kg (Wm (Wf om (VB d Mh rfl rfl bY (bS hm λf3 k9 hm=>?_))))
 refine VE (eM d (Cb (Pb Pz) (Cr (Qb Qz) Cn)) fw (λo _=>iu.gV (iV g y c8 u j.Kind _ _ o c3 k9)) ?_)
 rintro _ r6 j9 r4 d d8 aj n ⟨R,d7,d2,rfl,A⟩
 obtain rfl:=d2.symm
 replace d:=d.perm (Tb (Tr Tn))
 refine ln (gq (CJ hm (λd3 E W=>∃L a2 d5 e3,gf j9 d5∧ST false (gL b8) w W d5 ((g,Ob #[L] 215)::(a2++e3))∧gB 5 (fW .u8) 1 L d3 a2) (λd3 c=>?_) ?_))
 ·refine sg (Wf om (VB d (Mt (Ma Mh)) rfl rfl bY (ln (bg (Wi rfl (Wa (ln (CI c rfl (λg2 c=>?_) (λg2 c=>?_)))))))))
  ·refine sg (Wm (Wf qo (VB d (Mt (Ma Mh)) rfl rfl bG (bS c λl2 h5 c=>?_))))
   refine VE (eM d (Cb Pz (Cr Qz Cn)) call213 (λo _=>iu.gV (oT g R f3.2 d7 j.Name _ _ o A h5)) ?_)
   rintro _ q4 r3 n7 d e7 aa n ⟨l7,k0,a8,rfl,j0⟩
   obtain rfl:=a8.symm
   replace d:=d.perm (Tb (Tr Tn))
   refine ln (gn (Wm (Wf pw (VB d (Mt (Ma Mh)) rfl rfl bY (bS c λq2 h6 c=>?_)))))
   refine VE (eM d (Cb Pz (Cr Qz Cn)) fw (λo _=>iu.gV (iV g l7 l2.2 k0 j.gY _ _ o j0 h6)) ?_)
   rintro _ q5 m5 n8 d e8 ab n ⟨l8,k1,a9,rfl,j3⟩
   obtain rfl:=a9.symm
   replace d:=d.perm (Tb (Tr Tn))
   refine gJ (ig (gj ?_))
   obtain rfl:=sj c
   exact ⟨l8,k1,m5,_,(e7.trans e8),(d.fR (Kb (Kr (Db St)))),j3⟩
  refine sg (Wi rfl (Wa (ln (CI c rfl (λg3 c=>?_) (λg3 c=>?_)))))
  ·refine sg (Wm (Wf nG (VB d (Mt (Ma Mh)) rfl rfl eV (V (iI aP rfl t) (bS c λl3 h7 c=>?_)))))
   refine VE (eM d (Cb Pz (Cr Qz Cn)) fw (λo _=>iu.gV (iV g R f3.2 d7 (j.gA.length:Int) _ _ o A h7)) ?_)
   rintro _ q6 f4 n9 d U ad n ⟨l9,k2,b0,rfl,j4⟩
   obtain rfl:=b0.symm
   replace d:=d.perm (Tb (Tr Tn))
   refine lS (Wf nG (VB d (Mt (Ma Mh)) rfl rfl eV (V (iI aP rfl t) (Wm (ln (jb (λi E W=>∃M K I P c6,(E 42= .int .i64 (i:Nat)∧E 41= .int .i64 (j.gA.length:Nat))∧gf f4 P∧ST false (gL b8) w W P ((g,Ob #[M] 215)::((b5,Ol e1 68)::(I++c6)))∧E 0=(.pointer (some ⟨g,0,none⟩))∧E 3=(.pointer (some ⟨b5,0,none⟩))∧E 40=(.slice A1 j.gA.length c2)∧gB 5 (fW .u8) 1 M K I∧lm j (j.gA.drop i) K=some d3) j.gA.length t.len ⟨l9,l3.2,k2,f4,_,⟨rfl,rfl⟩,(gf.refl _),(d.fR (Kb (Sb (Pr Pz) St))),rfl,rfl,rfl,j4,c⟩ dc dc dc (λ_ _ _ h=>by obtain ⟨_,_,_,_,_,q,_⟩:=h; exact q) ?_ ?_))))))
   ·rintro l0 E W g7 ⟨M,K,I,P,c6,⟨p,s⟩,B,d,T,a5,c9,a6,x⟩
    obtain ⟨Q,n4,i5,i4,i6⟩:=iK g7
    rw [i5] at x
    refine bg (VQ (ll (enc:=fS) (i:=(l0:Int)) (x0:=Q) aP aD c9 p (t.mono (Pl.mono _) ((d8.trans U).trans B)) (aV _) i4) (λq0 h3=>V (fU rfl (kf d.has h3 aX aD)) (VE (gy d bL (λo7 p5 d=>VO (ga (.agg (fS Q).toArray) ((fS Q).toArray) d rfl rfl aD (iH Q) nb rfl (λo8 d=>ln (gn (Wh T (VA d Mh (fS Q) aX aD (bS x λl4 h8 x=>?_)))))))))))
    refine VE (eM d (Cb (Pb Pz) (Cr (Qb (Qb Qz)) Cn)) call212 (λo _=>iu.gV (nH g M K I Q _ _ o a6 h8)) ?_)
    rintro _ q7 m6 o0 d e9 ae n ⟨m0,k3,b1,rfl,j5⟩
    obtain rfl:=b1.symm
    replace d:=d.perm (Tb (Tr Tn))
    refine gJ (ig (gj ?_))
    replace d:=d.fR (Kb (Kr (Db St)))
    exact ⟨p,m0,l4.2,k3,m6,_,⟨rfl,s⟩,(B.trans e9),(d.fR (Kb (Sb (Pr Pz) St))),T,a5,c9,j5,(by rw [i6]; exact x)⟩
   rintro E W ⟨M,K,I,P,c6,⟨p,s⟩,B,d,T,a5,c9,a6,x⟩
   rw [aZ] at x
   refine gj (sg (Wh T (V (fZ nC a5) (VB d (Mt Mh) rfl rfl eW (V (iI bH rfl k) (bS x λl5 h9 x=>?_))))))
   refine VE (eM d (Cb Pz (Cr (Qb Qz) Cn)) fw (λo _=>iu.gV (iV g M K I (j.gv.length:Int) _ _ o a6 h9)) ?_)
   rintro _ q8 d6 o1 d c5 af n ⟨m1,k4,b2,rfl,j6⟩
   obtain rfl:=b2.symm
   replace d:=d.perm (Tb (Tr Tn))
   refine lr (V (fZ nC a5) (VB d (Mt (Ma Mh)) rfl rfl eW (V (iI bH rfl k) (Wm (ln ?_)))))
   replace d:=d.fR (Kb (Kr (Db St)))
   refine yt (CJ x (λd4 E W=>∃O a3 c1 e4,gf d6 c1∧ST false (gL b8) w W c1 ((g,Ob #[O] 215)::(a3++e4))∧gB 5 (fW .u8) 1 O d4 a3) (λd4 h2=>?_) ?_)
   ·refine jb (λi E W=>∃N Y J Z c7,(E 58= .int .i64 (i:Nat)∧E 57= .int .i64 (j.gv.length:Nat))∧gf d6 Z∧ST false (gL b8) w W Z ((g,Ob #[N] 215)::(J++c7))∧E 0=(.pointer (some ⟨g,0,none⟩))∧E 56=(.slice A3 j.gv.length c4)∧gB 5 (fW .u8) 1 N Y J∧mx (j.gv.drop i) Y=some d4) j.gv.length k.len ⟨m1,l5.2,k4,d6,_,⟨rfl,rfl⟩,(gf.refl _),(d.fR St),T,rfl,j6,h2⟩ dc dc dc (λ_ _ _ h=>by obtain ⟨_,_,_,_,_,q,_⟩:=h; exact q) ?_ ?_
    ·rintro l1 E W g8 ⟨N,Y,J,Z,c7,⟨p,s⟩,D,d,d0,d1,a7,z⟩
     obtain ⟨a,n5,i8,i7,i9⟩:=iK g8
     rw [i8] at z
     refine bg (VQ (nZ (i:=(l1:Int)) (x0:=a) gr.out bH bR d1 p (k.mono gO.mono ((((d8.trans U).trans B).trans c5).trans D)) (aV _) i7) (λq1 ⟨_,⟨q9,rfl,d9⟩,h4⟩=>V (fU rfl (kf d.has h4 eG bR)) (VE (gy d cW (λp1 p6 d=>?_)))))
     obtain ⟨a0,a4,rfl⟩:=d9.form
     let a1:=(C1 a.fP.Kind a.fP.Head.fX a.fP.Head.Word a.fP.ir a.fP.B.fX a.fP.B.Word a.fP.C.fX a.fP.C.Word a.fP.gT a0 a.Tag.length a4)
     refine VO (ga (.agg a1.toArray) (a1.toArray) d rfl rfl bR oc nb rfl (λp2 d=>ln (gn (Wh d0 (VA d Mh a1 eG bR (bS z λl6 i0 z=>?_))))))
     refine VE (eM d (Cb (Pb Pz) (Cr (Qb Qz) Cn)) call235 (λo ai=>iu.gV (Aa g N Y J a (.slice a0 a.Tag.length a4) _ _ o a7 (d9.mono (Pl.mono _) ai) i0)) ?_)
     rintro _ r0 m7 o2 d f1 ag n ⟨m2,k5,b3,rfl,j7⟩
     obtain rfl:=b3.symm
     replace d:=d.perm (Tb (Tr Tn))
     refine gJ (ig (gj ?_))
     replace d:=d.fR (Kb (Kr (Db St)))
     exact ⟨p,m2,l6.2,k5,m7,_,⟨rfl,s⟩,(D.trans f1),(d.fR St),d0,d1,j7,(by rw [i9]; exact z)⟩
    rintro E W ⟨N,Y,J,Z,c7,⟨p,s⟩,D,d,d0,d1,a7,z⟩
    rw [aZ] at z
    refine gj ?_
    obtain rfl:=sj z
    exact ⟨N,J,Z,_,D,(d.fR St),a7⟩
   rintro p9 E W ⟨O,a3,c1,e4,f0,d,i3⟩ h1
   refine ig (gj ?_)
   obtain rfl:=sj h1
   exact ⟨O,a3,c1,_,(((U.trans B).trans c5).trans f0),(d.fR St),i3⟩
  refine sg (Wi rfl (Wa (ln (CI c rfl (λg4 c=>?_) (λg4 c=>?_)))))
  ·refine gn (Wm (Wf qk (VB d (Mt (Ma Mh)) rfl rfl bY (bS c λq3 i1 c=>?_))))
   refine VE (eM d (Cb Pz (Cr Qz Cn)) fw (λo _=>iu.gV (iV g R f3.2 d7 j.E _ _ o A i1)) ?_)
   rintro _ r1 m8 o3 d f2 ah n ⟨m3,k6,b4,rfl,j8⟩
   obtain rfl:=b4.symm
   replace d:=d.perm (Tb (Tr Tn))
   refine gJ (ig (gj ?_))
   obtain rfl:=sj c
   exact ⟨m3,k6,m8,_,f2,(d.fR (Kb (Kr (Db St)))),j8⟩
  refine iD (ig (gj ?_))
  obtain rfl:=sj c
  exact ⟨R,d7,j9,_,(gf.refl _),(d.fR (Kb (Kr (Db St)))),A⟩
 rintro p8 E W ⟨L,a2,d5,e3,n1,d,i2⟩ g9
 refine sg (Wa (lt ?_))
 obtain rfl:=sj g9
 exact gZ (v:=(.bool true)) rfl rfl ⟨_,_,rfl,(d.hU (Kb (Kr Sn))),L,a2,rfl,rfl,i2⟩
theorem BD (a:ie) (j i:Value) (r:List Int) (w:World) (g:Sl (Pl fS) 2 (hp w) j a.gA) (c:Sl gr 10 (hp w) i a.gv) (hm:lx a=some r) :
  iF false pg0 103 [(.agg #[(.int .i64 a.Kind),(.int .i64 a.gY),(.int .i64 a.E),(.string a.Name),j,i])] w 5 (fW .u8) 1 r:=by
 refine ua 11 func103 rfl (λd=>sg ?_)
 obtain ⟨u,y,rfl⟩:=g.form
 obtain ⟨x,z,rfl⟩:=c.form
 refine VE (jr d rfl (λW6 P d=>Wa (lr (V (ia (v:=(.agg #[(.slice none 0 0)])) lb (gG fG cV (zL _ cV) kr)) (VE (jr d rfl (λW8 J d=>Wa (lr (Wm (VA d (Mt Mh) (C2 a.Kind a.gY a.E a.Name u a.gA.length y x a.gv.length z) bx aO ?_))))))))))
 refine bS hm λT D hm=>?_
 refine VE (eM d (Cb Pz (C0 Cn)) call174 (λL h=>(Bl J (.slice none 0 0) ([]) [] a (.slice u a.gA.length y) (.slice x a.gv.length z) _ _ L (gB.nil _ _ _) (g.mono (Pl.mono _) h) (c.mono gO.mono h) D)) ?_)
 rintro _ a3 a4 U d N s n ⟨M,Y,k,rfl,H⟩
 obtain rfl:=k.symm
 replace d:=d.perm (Tb (Tr Tn))
 refine ln ?_
 replace d:=d.fR (Kb (Kr (Db St)))
 refine sg (Wm (bS hm λa2 G hm=>VE (nJ d call173 (iF.gV (nY J M T.2 _ _ (H.sl (λ_=>rfl) (λb o q=>d.at_ (Mt (Ml q)))) (At.of (d.at_ Mh) _ rfl) G)) (λO K a5 I d Q A t=>Wa (ln ?_)))))
 replace d:=d.fR (Kr (Db (Dr St)))
 refine gC ?_
 obtain rfl:=sj hm
 exact gZ (v:=K) rfl rfl ⟨_,I,rfl,d.jM (λp q=>(Ml q)) t.nd,t⟩
theorem yg (g:Int) (r:List Int) (w:World) (hm:qM g=some r) :
  iF true pg0 233 [(.int .i64 g)] w 5 (fW .u8) 1 r:=by
 refine ua 11 func233 rfl (λd=>sg (Wa (lr (V (ia (v:=(.agg #[(.slice none 0 0)])) lb (gG fG cV (zL _ cV) kr)) (VE (jr d rfl (λN u d=>Wa (lr ?_))))))))
 refine Wm (Wm (bS hm λG x hm=>?_))
 refine VE (eM d (Cb Pz (C0 Cn)) fw (λq _=>(iV u (.slice none 0 0) ([]) [] g _ _ q (gB.nil _ _ _) x)) ?_)
 rintro _ T U H d D s h ⟨z,I,a,rfl,k⟩
 obtain rfl:=a.symm
 replace d:=d.perm (Tb (Tr Tn))
 refine lr (Wm (bS hm λK j hm=>VE (nJ d call173 (nY u z G.2 _ _ (k.sl (λ_=>rfl) (λb o i=>d.at_ (Mt (Ml i)))) (At.of (d.at_ Mh) _ rfl) j) (λJ y M t d B n c=>Wa (ln ?_)))))
 replace d:=d.fR (Kr (Db (Dr St)))
 refine gC ?_
 obtain rfl:=sj hm
 exact gZ (v:=y) rfl rfl ⟨_,t,rfl,d.jM (λp i=>(Ml i)) c.nd,c⟩
theorem DN (u:Value) (H:List (List Int)) (r:Int) (w:World) (U:Sl (A0 (fW .u8) 1) 1 (hp w) u H) (hm:vD H=some r) :
  gz true pg0 232 [u] w (.int .u64 r):=by
 refine cG 28 func232 rfl (λd=>sg (Wa (lr (Wa (lS (Wm ?_))))))
 refine V (iI underlying318 rfl U) (Wm (ln (jb (λi E W=>∃x D,(E 10= .int .i64 (i:Nat)∧E 9= .int .i64 (H.length:Nat))∧ST true iv w W (hp w) D∧E 3=(.int .u64 x)∧E 8=u∧oV (H.drop i) x=some r) H.length U.len ⟨14695981039346656037,_,⟨rfl,rfl⟩,(d.fR St),rfl,rfl,hm⟩ dc dc dc (λ_ _ _ h=>by obtain ⟨_,_,o,_⟩:=h; exact o) ?_ ?_)))
 ·rintro Y E W a3 ⟨x,D,⟨n,p⟩,d,I,J,c⟩
  obtain ⟨B,c2,O,a9,P⟩:=iK a3
  rw [O] at c
  refine bg (VQ (EU (enc:=(fW .u8)) (k2:=1) (i:=(Y:Int)) (x0:=B) underlying318 cL J n U (aV _) a9) (λc4 ⟨a2,A,z⟩=>V (fU rfl (nT d.has (y:=a2) A bX)) (Wa (lr (Wm (V (iI aG rfl z) (Wm (ln ?_))))))))
  refine yt (CJ c (λZ E W=>∃q,ST true iv w W (hp w) q∧E 3=(.int .u64 Z)∧E 8=u∧E 9=(.int .i64 (H.length:Int))∧E 10=(.int .i64 (Y:Int))) (λZ s=>?_) ?_)
  ·refine jb (λi E W=>∃j G,(E 16= .int .i64 (i:Nat)∧E 15= .int .i64 (B.length:Nat))∧ST true iv w W (hp w) G∧E 3=(.int .u64 j)∧E 8=u∧E 9=(.int .i64 (H.length:Int))∧E 10=(.int .i64 (Y:Int))∧E 14=a2∧oR (B.drop i) j=some Z) B.length z.len ⟨x,_,⟨rfl,rfl⟩,(d.fR St),I,J,p,n,rfl,s⟩ dc dc dc (λ_ _ _ h=>by obtain ⟨_,_,o,_⟩:=h; exact o) ?_ ?_
   ·rintro c0 E W a4 ⟨j,G,⟨n,p⟩,d,K,M,N,Q,T,g⟩
    obtain ⟨t,c3,b3,R,b4⟩:=iK a4
    rw [b3] at g
    refine bg (VQ (ll (enc:=(fW .u8)) (i:=(c0:Int)) (x0:=t) aG dV T n z (aV _) R) (λc5 L=>V (fU rfl (nT d.has (y:=(.int .u8 t)) L isAgg5)) (Wa (ln (gn (Wh K (Wm (V (pa (k':=.u8) (a:=t) bK underlying272 rfl) (V (EL (k:=.u64) (a:=j) (b:=(IntKind.u64.wrap t)) (v:=(.int .u64 (IntKind.u64.wrap (BitVec.ofInt (IntKind.bits .u64) j ^^^ BitVec.ofInt (IntKind.bits .u64) (IntKind.u64.wrap t)).toNat))) rfl rfl rfl) (Wi rfl (Wa ?_)))))))))))
    exact gJ (ig (gj ⟨n,(IntKind.u64.wrap ((IntKind.u64.wrap (BitVec.ofInt (IntKind.bits .u64) j ^^^ BitVec.ofInt (IntKind.bits .u64) (IntKind.u64.wrap t)).toNat)*1099511628211)),_,⟨rfl,p⟩,(d.fR St),rfl,M,N,Q,T,(by rw [b4]; exact g)⟩))
   rintro E W ⟨j,G,⟨n,p⟩,d,K,M,N,Q,T,g⟩
   rw [aZ] at g
   refine gj ?_
   obtain rfl:=sj g
   exact ⟨_,(d.fR St),K,M,N,Q⟩
  rintro c1 E W ⟨q,d,b5,b6,b7,b9⟩ a5
  exact ig (gj ⟨b9,c1,_,⟨rfl,b7⟩,(d.fR St),b5,b6,(by rw [P]; exact a5)⟩)
 rintro E W ⟨x,D,⟨n,p⟩,d,I,J,c⟩
 rw [aZ] at c
 exact gj (sg (Wh I (Wa (lt (rQ c d)))))
theorem wz (a0:Int) (Z:Value) (B r:List Int) (w:World) (U:Sl (Pl (fW .u8)) 1 (hp w) Z B) (hm:pF a0 B=some r) :
  iF true pg0 172 [(.int .i64 a0),Z] w 5 (fW .u8) 1 r:=by
 refine ua 30 func172 rfl (λd=>sg (Wa (lr (Wm (bS hm λT b7 hm=>VE (nJ d call233 (yg a0 _ _  b7) (λW3 v7 A R8 d R a1 a5=>Wm ?_)))))))
 obtain ⟨J,M,rfl⟩:=a5.form
 obtain ⟨K,N,rfl⟩:=U.form
 refine VE (iy (cs:=#[(.slice J T.length M),(.slice K B.length N)]) d (mY rfl rfl) (lH underlying318 cL zeroValue53) (λc4 b6 d=>bS hm λk b1 hm=>VE (Eg d call232 (DN (.slice (some ⟨b6,0,none⟩) 2 2) ([T,B]) _ _ (A0.lit (l:=[T,B]) (vs:=[(.slice J T.length M),(.slice K B.length N)]) rfl nb (d.at_ Mh) (.cons (a5.sl (λ_=>rfl) (λb o s=>d.at_ (Mt (Ml s)))) (.cons (U.mono (Pl.mono _) (R.trans d.gd)) .nil))) b1) (λc5 d=>Wa (ln ?_)))))
 replace d:=d.fR (Db (Dr St))
 refine sg (bS hm λQ P hm=>VE (Bj (enc:=(fW .u8)) (z:=0) d (λ_=>rfl) dc aG ju.1 ju.2.1 ju.2.2.1 ju.2.2.2 rfl rfl rfl P (λc6 Y b5 d I=>Wa (lS (Wm (V (oM aG rfl I) (Wm (ln ?_))))))))
 refine jb (λi E W=>∃D y G,(E 16= .int .i64 (i:Nat)∧E 15= .int .i64 (Q.length:Nat))∧ST true iv w W A (y++G)∧E 5=(.int .u64 k)∧E 6=Y∧gB 5 (fW .u8) 1 Y D y∧nF k (Q.drop i) i D=some r) Q.length I.len ⟨Q,b5,_,⟨rfl,rfl⟩,(d.fR St),rfl,rfl,I,hm⟩ dc dc dc (λ_ _ _ h=>by obtain ⟨_,_,_,q,_⟩:=h; exact q) ?_ ?_
 ·rintro j E W a9 ⟨D,y,G,⟨n,L⟩,d,H,t,g,c⟩
  obtain ⟨c7,c2,b2,c0,b3⟩:=iK a9
  rw [b2] at c
  refine bg (Wh n (Wa (ln (gn (Wh t (Wm (Wh H (Wm (Wi rfl (Wi rfl (bS c λ_ a3 c=>?_)))))))))))
  exact V (Dj (a:=k) (b:=(wi0 .i64 (8*(wi0 .i64 (7-(j:Int)))))) rfl rfl (G9 a3)) (V (pa (k':=.u64) (a:=(Int.fdiv k (2 ^ min (Int.toNat (wi0 .i64 (8*(wi0 .i64 (7-(j:Int)))))) (IntKind.bits .u64)))) underlying272 bK rfl) (bS c λb4 x c=>VQ (mj (i:=(j:Int)) (x0:=b4) aG dV rfl rfl g (jL x) (je x)) (λc1 a4=>VO (uf (u:=(.int .u8 (IntKind.u8.wrap (Int.fdiv k (2 ^ min (Int.toNat (wi0 .i64 (8*(wi0 .i64 (7-(j:Int)))))) (IntKind.bits .u64)))))) (x1:=(IntKind.u8.wrap (Int.fdiv k (2 ^ min (Int.toNat (wi0 .i64 (8*(wi0 .i64 (7-(j:Int)))))) (IntKind.bits .u64)))))  d g (λ_=>rfl) (qF _) rfl rfl rfl a4 (je x) dV (λb9 O d a2=>gJ (ig (gj ⟨n,(D.set (Int.toNat (j:Int)) (IntKind.u8.wrap (Int.fdiv k (2 ^ min (Int.toNat (wi0 .i64 (8*(wi0 .i64 (7-(j:Int)))))) (IntKind.bits .u64))))),O,_,⟨rfl,L⟩,(d.fR St),H,t,a2,(by rw [b3]; exact c)⟩)))))))
 rintro E W ⟨D,y,G,⟨n,L⟩,d,H,t,g,c⟩
 rw [aZ] at c
 refine gj (sg (Wh t (Wa (lt ?_))))
 obtain rfl:=sj c
 exact gZ (v:=Y) rfl rfl ⟨_,y,rfl,d.jM (λp s=>(Ml s)) g.nd,g⟩
theorem AT (H:Int) (g:Value) (J r:List Int) (w:World) (t:Sl (Pl (fW .u8)) 1 (hp w) g J) (hm:sr H J=some r) :
  iF true pg0 102 [(.int .i64 H),g] w 5 (fW .u8) 1 r:=by
 refine ua 32 func102 rfl (λd=>sg (Wa (lS (Wm (Wi rfl (Wm (LJ hm (λU E W=>∃L3,ST true iv w W (hp w) L3∧E 0=(.int .i64 H)∧E 1=g∧E 11=(.bool U)) 3 ?_ (λU k G=>?_))))))))
 ·rintro x2 E W ⟨L3,d,L,Y,e7⟩ c1
  refine Wh e7 (LJ c1 (λT E W=>∃M,ST true iv w W (hp w) M∧E 0=(.int .i64 H)∧E 1=g∧E 16=(.bool T)) 4 ?_ (λT j D=>?_))
  ·rintro x9 E W ⟨M,d,N,Q,b9⟩ a
   refine ln (CI a b9 (λa5 a=>?_) (λa5 a=>?_))
   ·refine sg (Wa (lt (gN ?_)))
    obtain rfl:=sj a
    exact gZ (v:=(.slice none 0 0)) rfl rfl ⟨_,[],rfl,d.jM (λp n=>by cases n) (by simp),gB.nil _ _ _⟩
   refine kg (V (ia (v:=(.agg #[(.slice none 0 0)])) lb (gG fG cV (zL _ cV) kr)) (VE (jr d rfl (λe0 z d=>Wa (lr (Wm (Wh N (bS a λc2 a6 a=>?_))))))))
   refine VE (eM d (Cb Pz (C0 Cn)) fw (λs _=>(iV z (.slice none 0 0) ([]) [] H _ _ s (gB.nil _ _ _) a6)) ?_)
   rintro _ f0 f3 d5 d B O h ⟨c8,b6,u,rfl,b1⟩
   obtain rfl:=u.symm
   replace d:=d.perm (Tb (Tr Tn))
   refine lr (Wm (Wh Q (bS a λc3 a7 a=>?_)))
   refine VE (eM d (Cb Pz (Cr Qz Cn)) call171 (λs q=>(nx z c8 c2.2 b6 g J _ _ s b1 (t.mono (Pl.mono _) (B.trans q)) a7)) ?_)
   rintro _ f1 f4 d6 d K P h ⟨c9,b7,x,rfl,b2⟩
   obtain rfl:=x.symm
   replace d:=d.perm (Tb (Tr Tn))
   refine lr (Wm (Wh N (Wh Q (bS a λc4 a8 a=>VE (nJ d call172 (wz H g J _ _ (t.mono (Pl.mono _) ((B.trans K).trans d.gd)) a8) (λe3 c6 f5 d8 d d1 R a4=>bS a λc5 a9 a=>?_))))))
   refine VE (HP d (Cb (Pr Pz) (Cr (Qr Qz) Cn)) call171 (λhH hN q A=>(nx z c9 c3.2 b7 c6 c4 _ _ ⟨hH,hN,gf.refl _⟩ b2 (a4.sl (λ_=>rfl) (λb o n=>A b o (Ml n))) a9)) (λe4 f2 f6 d7 d d2 Z h a3=>?_))
   obtain ⟨d0,d9,y,rfl,b3⟩:=a3
   replace y:=y.symm; subst y
   replace d:=d.perm (Tb (Tr Tn))
   refine ln ?_
   replace d:=d.fR (Kb (Kr (Dr St)))
   refine sg (Wm (bS a λe9 b0 a=>VE (nJ d call173 (nY z d0 c5.2 _ _ (b3.sl (λ_=>rfl) (λb o n=>d.at_ (Mt (Ml n)))) (At.of (d.at_ Mh) _ rfl) b0) (λe8 c7 f7 b5 d d3 a1 I=>Wa (ln ?_)))))
   replace d:=d.fR (Kr (Db (Dr St)))
   refine gC ?_
   obtain rfl:=sj a
   exact gZ (v:=c7) rfl rfl ⟨_,b5,rfl,d.jM (λp n=>(Ml n)) I.nd,I⟩
  refine bC j (λc j=>?_) (λc j=>?_)
  ·refine un c (un c (un c (V (gx (cB c) rfl) ?_)))
   obtain rfl:=sj j
   exact D _ _ ⟨_,(d.fR St),L,Y,rfl⟩
  refine ug c (gl Y) (ug c (iI aG rfl t) (ug c (iJ rfl rfl rfl) (V (gw (cB c) rfl) ?_)))
  obtain rfl:=sj j
  exact D _ _ ⟨_,(d.fR St),L,Y,rfl⟩
 refine bC k (λi k=>?_) (λi k=>?_)
 ·refine un i (un i (V (gx (cB i) rfl) ?_))
  obtain rfl:=sj k
  exact G _ _ ⟨_,(d.fR St),rfl,rfl,rfl⟩
 refine ug i (gl rfl) (ug i (iJ rfl rfl rfl) (V (gw (cB i) rfl) ?_))
 obtain rfl:=sj k
 exact G _ _ ⟨_,(d.fR St),rfl,rfl,rfl⟩
theorem nz (z:Int) (a:ie) (j i:Value) (r:List Int) (w:World) (g:Sl (Pl fS) 2 (hp w) j a.gA) (c:Sl gr 10 (hp w) i a.gv) (hm:mG z a=some r) :
  iF false pg0 35 [(.int .i64 z),(.agg #[(.int .i64 a.Kind),(.int .i64 a.gY),(.int .i64 a.E),(.string a.Name),j,i])] w 5 (fW .u8) 1 r:=by
 refine ua 12 func35 rfl (λd=>sg ?_)
 obtain ⟨k,u,rfl⟩:=g.form
 obtain ⟨t,x,rfl⟩:=c.form
 let a0:=(C2 a.Kind a.gY a.E a.Name k a.gA.length u t a.gv.length x)
 refine VE (jr d rfl (λW6 s d=>Wa (lS (VA d Mh a0 bx aO (bS hm λA J hm=>VE (Eg d call31 (pC a (.slice k a.gA.length u) (.slice t a.gv.length x) _ _ (g.mono (Pl.mono _) d.gd) (c.mono gO.mono d.gd) J) (λW9 d=>V (kj rfl) (ln (CI hm rfl (λD hm=>?_) (λD hm=>?_))))))))))
 ·refine sg (Wa (ln ?_))
  replace d:=d.fR (Db St)
  refine gC (gN ?_)
  obtain rfl:=sj hm
  exact gZ (v:=(.slice none 0 0)) rfl rfl ⟨_,[],rfl,d.jM (λp h=>by cases h) (by simp),gB.nil _ _ _⟩
 refine kg (Wm (VA d Mh a0 bx aO (bS hm λK G hm=>VE (nJ d call103 (BD a (.slice k a.gA.length u) (.slice t a.gv.length x) _ _ (g.mono (Pl.mono _) d.gd) (c.mono gO.mono d.gd) G) (λY M a3 U d Q n B=>bS hm λa2 H hm=>VE (nJ d call102 (iF.gV (AT z M K _ _ (B.sl (λ_=>rfl) (λb o h=>d.at_ (Ml h))) H)) (λZ N a4 I d T q y=>Wa (ln ?_))))))))
 replace d:=d.fR (Kr (Dr (Db St)))
 refine gC ?_
 obtain rfl:=sj hm
 exact gZ (v:=N) rfl rfl ⟨_,I,rfl,d.jM (λp h=>(Ml h)) y.nd,y⟩
theorem Al (a:Bool) (r:ByteArray) (w:World) (hm:sc a=some r) :
  gz true pg0 104 [(.bool a)] w (.string r):=by
 refine cG 4 func104 rfl (λd=>sg (Wa (lS (Wm (ln (CI hm rfl (λc hm=>?_) (λc hm=>?_)))))))
 ·refine sg (Wa (lt (gN ?_)))
  obtain rfl:=sj hm
  exact rP d
 exact kg (Wa (lt (rQ hm d)))
theorem uY {dd:Bool} {F:Nat→Prop} {w W:World} {μ:gm} {L:LO} (p x:Nat) (G M:Value) (c y:Int) (u:FrameMode) (o:ST dd F w W μ ((p,.cells #[G,M] 349 (0,0))::(x,.cells #[.int .i64 c] 109 (0,0))::L)) (hu:(u= .returning∧y=c)∨u= .panicking [{ v:=nu 354 p y,recovered:=false }]) :
  CallsD pg0 331 #[.pointer (some ⟨p,0,none⟩),.pointer (some ⟨x,0,none⟩)] u W λe J W'=>e= .returned (.tuple #[])∧settle J= .returning∧ST dd F w W' μ ((p,.cells #[G,.bool true] 349 (0,0))::(x,.cells #[.int .i64 y] 109 (0,0))::L):=by
 refine callsD_of_wpS func331 rfl λs I z=>HU (n:=31) (gn (Wm (Wn (Wf yn (VO (rY [] (.bool true) #[G,.bool true] o rfl rfl sizeOf4 oc (bl 2) rfl (λg o=>gJ ⟨rfl,λa ha=>wpS_seq ?_⟩))))))) (Bc (args:=[.pointer (some ⟨p,0,none⟩),.pointer (some ⟨x,0,none⟩)]) Tryz.ntmps331 nb)
 rcases hu with ⟨rfl,rfl⟩ | rfl
 ·refine wk (n:=31) (d:=10) (d2:=4) (v:=.nilIface) (cs':={ s with mode:=.returning }::I) dc dc rfl rfl rfl rfl (λ_=>rfl) (λE h=>iM h) (.inr ⟨?_,rfl,?_⟩) ha (λa ha=>?_)
  ·simp only [recoverD,z]
  ·rw [←z]
  exact Cd (u:=.returning) Tryz.results331 (gq (sg (Wm (V (Gt underlying20 rfl rfl) (ln (qf rfl (gC (gN ⟨.inr rfl,rfl,rfl,o⟩)))))))) ha
 refine wk (n:=31) (d:=10) (d2:=4) (v:=nu 354 p y) (cs':={ s with mode:=.panicking [{ v:=nu 354 p y,recovered:=true }] }::I) dc dc rfl rfl rfl rfl (λ_=>rfl) (λE h=>iM h) (.inl ?_) ha (λa ha=>?_)
 ·simp only [recoverD,z]
 refine Cd (u:=.panicking [{ v:=nu 354 p y,recovered:=true }]) Tryz.results331 (gq (sg (Wm (V (G0 underlying20 rfl rfl) (ln (kH rfl (kg (Wm (V (Dn dI (by intro q h; cases h) rfl) ?_))))))))) ha
 refine Wm (Wx rfl (Wx rfl (VE (gy o zeroValue354 (λi O o=>VO (rY [] (.agg #[.pointer (some ⟨p,0,none⟩),.int .i64 y]) #[.pointer (some ⟨p,0,none⟩),.int .i64 y] o rfl rfl sizeOf354 oc (bl 2) rfl (λj o=>Wa (lS (Wm (V (kj rfl) (Wm (Vg rfl rfl (fZ Gg rfl) ?_))))))))))))
 refine Vg rfl rfl (fU rfl (gh o.has Mh rfl isAgg310)) (Vg rfl rfl (gl rfl) (Vg rfl rfl (wy fz sizeOf349 rfl rfl) (V (gw rfl rfl) (ln (kH rfl (kn (gn (Wm (Wf Ge (VB o Mh rfl rfl isAgg109 (Wn (VO (rY [_,_] (.int .i64 y) #[.int .i64 y] o rfl rfl sizeOf109 oc (bl 1) rfl (λk o=>?_))))))))))))))
 exact gJ ⟨.inl rfl,rfl,rfl,ST.drop (A:=[]) o⟩
theorem wi {dd:Bool} {S:Type} (fk:Nat) (a:Array Value) (N:Value) (T b:List Int) (s:Int ⊕ S) (rd:S→List Int) (w:World) {Q:gm} {j:LO} (h0:kz Q j w) (hb:Sl (Pl (fW .u8)) 1 Q N T) (Y:jF T=some b) (K:S→LO→gm→Prop) (X:Int→LO→gm→Prop) (H:∀args w,(callFunc fk args).run pg0 w= .ok (.enter fk args) w) (hf:∀(w':World) (μ':gm) (L:Nat) (G:Value),kz μ' ((L,Obj.cells #[G,.bool false] 349 (0,0))::j) w'→gf Q μ'→Sl (Pl (fW .u8)) 1 μ' G b→
   gk dd pg0 fk (.pointer (some ⟨L,0,none⟩)::a.toList) w' μ' ((L,Obj.cells #[G,.bool false] 349 (0,0))::j) s (λr v B u=>∃y z L',B=(L,Obj.cells #[y,z] 349 (0,0))::L'∧Sl (Pl (fW .u8)) 1 u y (rd r)∧K r L' u)
    (λx c B u=>∃y z L',c=[{ v:=nu 354 L x,recovered:=false }]∧B=(L,Obj.cells #[y,z] 349 (0,0))::L'∧X x L' u)) :
  iC dd pg0 275 [N,.func (.func fk) #[] a] w Q j (λv B u=>v= .int .i64 (xk rd s)∧FQ K X s B u):=by
 refine DL ?_
 have o:=ST.me (dd:=dd) h0
 refine AQ (n:=22) func275 rfl rfl nb (Cm (gn (VE (gy o zeroValue109 (λW1 P o=>gJ ⟨rfl,(Cm (gn (Wm (VE (nJ o call234 (iF.gV (rB N T _ _ (hb.mono (Pl.mono _) o.gd) Y)) (λW2 v2 aa R2 o g a1 U=>?_))))))⟩)))))
 obtain ⟨ab,o,i,a6,J⟩:=ST.uG o U (λ_=>rfl)
 obtain ⟨A,c,rfl⟩:=J.form
 refine V (ia (v:=(.agg #[.slice A b.length c,.bool false])) (kA rfl) (gG zeroValue349 eF (Ij _ eF) kr)) (VE (jr o rfl (λW3 L o=>Wa (gJ ⟨rfl,(HI (DA (Ip (.inl rfl) rfl dc (gl rfl) (DV (d:=⟨.fn (.func 331) #[],#[.pointer (some ⟨L,0,none⟩),.pointer (some ⟨P,0,none⟩)]⟩) (.inl rfl) rfl (EG (args:=[.pointer (some ⟨L,0,none⟩),.pointer (some ⟨P,0,none⟩)]) rfl (by exact jG rfl rfl)) (gj (rW (rW (qG (qZ (.inl rfl) rfl dc (gl rfl) (qZ (.inl rfl) rfl dc (Bk underlying313 rfl rfl) (tK ?_)))))))))))⟩))))
 refine gj (Bd rfl (qG (qZ (.inl rfl) rfl dc (gl rfl) (qZ (.inl rfl) rfl dc (gl rfl) ?_))))
 have hP:List.Perm ((L,Obj.cells (.agg #[.slice A b.length c,.bool false]:Value).cells 349 (0,0))::(P,Obj.cells (Value.int IntKind.i64 0).cells 109 (0,0))::j) (((L,Obj.cells #[.slice A b.length c,.bool false] 349 (0,0))::j)++[(P,Obj.cells (Value.int IntKind.i64 0).cells 109 (0,0))]):=List.Perm.cons _ (eA (l₁:=[_]))
 have hB:∀{M:LO} {p q:Nat×Obj},((p::M)++[q]).Perm (p::q::M):=List.Perm.cons _ (eA (l₂:=[_]))
 rcases s with x | r
 ·refine Im (.inl rfl) (iB (args:=[(.pointer (some ⟨L,0,none⟩))]) (caps:=a) _ _ o hP rfl H (by exact lM rfl) (λhH hN W a8=>gk.l (hf _ _ L _ ⟨hH,hN,W⟩ (g.trans i) J)) (λW4 cc Z L4 o D R hX=>?_))
  obtain ⟨y,z,L',rfl,rfl,hX⟩:=hX
  replace o:=o.perm hB
  intro E' a7
  refine ib (Aw (by simp) call331 (uY _ _ _ _ 0 x _ o (.inr rfl)) (λI o=>iX (v:=.int .i64 x) rfl (a7 4) (gh o.has (.tail _ (.head _)) rfl isAgg109) ?_))
  have o:=ST.drop (A:=[]) (ST.drop (A:=[]) o)
  exact ⟨_,_,_,rfl,o.GW,(g.trans i).trans D,(a1.trans a6).trans R,o.gp (λ_ h=>h),rfl,hX⟩
 refine IB (.inl rfl) rfl dc (AW (args:=[(.pointer (some ⟨L,0,none⟩))]) (caps:=a) _ _ o hP rfl H (by exact lM rfl) (λhH hN W a8=>gk.r (hf _ _ L _ ⟨hH,hN,W⟩ (g.trans i) J)) (λW4 v4 Z L4 o D R hK=>?_))
 obtain ⟨y,z,L',rfl,hy,hK⟩:=hK
 replace o:=o.perm hB
 refine tK (gj (rW (rW (qG (qZ (.inl rfl) rfl dc (gl rfl) (qZ (.inl rfl) rfl dc (pb rfl) (qZ (.inl rfl) rfl dc (fZ pn rfl) (qZ (.inl rfl) rfl dc (fU rfl (gh o.has (.head _) rfl bX)) (qZ (.inl rfl) rfl dc (iI aG rfl hy) (qZ (.inl rfl) rfl dc (iJ rfl rfl rfl) (tK (gj ?_))))))))))))
 have O:∀(k:Int) (E:Nat→Value) (I:World),E 4= .pointer (some ⟨P,0,none⟩)→k=(if (rd r).length > 0 then 13 else 0)→ST dd (gL j) w I Z ((L,Obj.cells #[y,z] 349 (0,0))::(P,Obj.cells #[.int .i64 k] 109 (0,0))::L')→∀tmps:Array Value,(∀t,tmps.getD t undef=E t)→Leaves pg0 Tryz.f275 tmps (F7 dd w Q j (λv B u=>v= .int .i64 (xk rd (.inr r))∧FQ K X (.inr r) B u)) [⟨.fn (.func 331) #[],#[.pointer (some ⟨L,0,none⟩),.pointer (some ⟨P,0,none⟩)]⟩] .returning I:=λk E I h4 hk o=>by
  refine Aw (by simp) call331 (uY _ _ _ _ k k _ o (.inl ⟨rfl,rfl⟩)) (λW6 o=>iX (v:=.int .i64 k) rfl h4 (gh o.has (.tail _ (.head _)) rfl isAgg109) ?_)
  have o:=ST.drop (A:=[]) (ST.drop (A:=[]) o)
  exact ⟨_,_,_,rfl,o.GW,(g.trans i).trans D,(a1.trans a6).trans R,o.gp (λ_ h=>h),by rw [hk,xk],hK⟩
 refine EJ (b:=decide (((rd r).length:Int) > 0)) rfl (λhq=>?_) (λhq=>?_)
 ·exact rW (qG (Ei (.inl rfl) rfl (rY [_] (.int .i64 13) #[.int .i64 13] o rfl rfl sizeOf109 oc (bl 1) rfl (λI o=>tK (gj (B2 (gN (O 13 _ _ rfl (by rw [aJ (by simpa using hq)]) o))))))))
 exact EV (gj (rW (qG (Ei (.inl rfl) rfl (rY [_] (.int .i64 0) #[.int .i64 0] o rfl rfl sizeOf109 oc (bl 1) rfl (λI o=>tK (gj (B2 (O 0 _ _ rfl (by rw [aK (by simpa using hq)]) o)))))))))
theorem rK (i:Nat) (c:Value) (g:List Int) (a r:Bool) (w:World) (k:Sl (Pl (fW .u8)) 1 (hp w) c g) (j:At (hp w) (.pointer (some ⟨i,0,none⟩)) [c,(.bool a)]) (hm:mc g a=some r) :
  gz true pg0 332 [(.pointer (some ⟨i,0,none⟩))] w (.bool r):=by
 refine cG 11 func332 rfl (λd=>sg (Wa (lr (Wm (V (lB fz rfl rfl) (Wm (Vg rfl rfl (gl rfl) (Vg rfl rfl (pb rfl) (Je rfl rfl (vP [(.bool a)] yn rfl j rfl) (λu t=>Vg rfl rfl (fU rfl (nT d.has (y:=(.bool a)) t isAgg4)) ?_))))))))))
 exact V (gw rfl rfl) (Wa (lt (rQ hm d)))
theorem gu (a:Nat) (t:fV) (g:Value) (B:Int) (s:(Int ⊕ Unit)) (w:World) {D:gm} (T:kz D ((a,Ob #[g,(.bool t.over)] 349)::[]) w) (I:Sl (Pl (fW .u8)) 1 D g t.b) (hm:gM t B=some s) :
  gk true pg0 279 [(.pointer (some ⟨a,0,none⟩)),(.int .i64 B)] w D ((a,Ob #[g,(.bool t.over)] 349)::[]) s (λr v G U=>v=(.tuple #[])∧G=((a,Ob #[g,(.bool t.over)] 349)::[])) (λx c G U=>∃y z,c=[{ v:=nu 354 a x,recovered:=false }]∧G=((a,Ob #[y,z] 349)::[])):=by
 have d:=ST.me (dd:=true) T
 refine jQ (n:=21) func279 rfl rfl nb (sg (Wm (V (uL fz rfl rfl) (Wm (Vg rfl rfl (gl rfl) (Vg rfl rfl (pb rfl) (Vg rfl rfl (fZ yn rfl) (Vg rfl rfl (fU rfl (gh d.has Mh rfl isAgg4)) (Vg rfl rfl (kj rfl) (V (gx rfl rfl) (Wm (LJ hm (λK E W=>∃H,ST true (gL ((a,Ob #[g,(.bool t.over)] 349)::[])) w W D ((a,Ob #[g,(.bool t.over)] 349)::H)∧E 0=(.pointer (some ⟨a,0,none⟩))∧E 1=(.int .i64 B)∧E 16=(.bool K)) 3 ?_ (λK j u=>?_)))))))))))))
 ·rintro Y E W ⟨H,d,M,N,Q⟩ k
  refine ln (CI k Q (λJ k=>?_) (λJ k=>?_))
  ·refine gn (Wh M (Wh N (V (ia (v:=(.agg #[(.pointer (some ⟨a,0,none⟩)),(.int .i64 B)])) (mY rfl rfl) (gG zeroValue354 dI (Ir _ dI) kr)) (V (GS dI (by intro q h; cases h) rfl) (jP (.inl rfl) (Gj rfl (iU ?_)))))))
   obtain rfl:=sj k
   exact gQ.li ⟨_,_,_,rfl,(d.hU (Kb Sn)),(gf.refl _),Lo.refl,(ST.gp d (gX.mem (Kb Sn))),⟨_,_,rfl,rfl⟩⟩
  refine iD (wb (ub ?_))
  obtain rfl:=sj k
  exact tU rfl (gQ.ri ⟨_,_,_,rfl,(d.hU (Kb Sn)),(gf.refl _),Lo.refl,(ST.gp d (gX.mem (Kb Sn))),rfl,rfl⟩)
 refine bC j (λi j=>?_) (λi j=>?_)
 ·refine ug i (gl rfl) (ug i (iJ rfl rfl rfl) (V (gx (cB i) rfl) ?_))
  obtain rfl:=sj j
  exact u _ _ ⟨_,(d.fR St),rfl,rfl,rfl⟩
 refine un i (un i (V (gw (cB i) rfl) ?_))
 obtain rfl:=sj j
 exact u _ _ ⟨_,(d.fR St),rfl,rfl,rfl⟩
theorem qe (a:Nat) (j:fV) (g:Value) (a1:Int) (s:(Int ⊕ (Int×fV))) (w:World) {μ0:gm} (h0:kz μ0 ((a,Ob #[g,(.bool j.over)] 349)::[]) w) (k:Sl (Pl (fW .u8)) 1 μ0 g j.b) (hm:mi j a1=some s) :
  gk true pg0 333 [(.pointer (some ⟨a,0,none⟩)),(.int .i64 a1)] w μ0 ((a,Ob #[g,(.bool j.over)] 349)::[]) s (λr v L1 μ1=>∃y1,v=(.int .u8 (r.1))∧L1=((a,Ob #[y1,(.bool ((r.2).over))] 349)::[])∧Sl (Pl (fW .u8)) 1 μ1 y1 ((r.2).b)) (λx c L1 μ1=>∃y z,c=[{ v:=nu 354 a x,recovered:=false }]∧L1=((a,Ob #[y,z] 349)::[])):=by
 let c8:=(⟨(j.b.drop (Int.toNat 1)),j.over⟩:fV)
 let c7:=(#[g,(.bool j.over)]:Array Value)
 let b8:Value:=(.pointer (some ⟨a,0,none⟩))
 let a0:=((a,Obj.cells c7 349 (0,0))::[])
 have d:=ST.me (dd:=true) h0
 refine jQ (n:=41) func333 rfl rfl nb (sg (Wa (ln (gq (wu hm (λg0 E W=>∃Y d7,gf μ0 Y∧Lo (gL a0) w μ0 Y∧ST true (gL a0) w W Y ((a,Obj.cells c7 349 (0,0))::d7)∧E 0=b8∧E 1=(.int .i64 a1)) (λg0 B a2=>?_) ?_)))))
 ·refine sg (Wm (Wi rfl (ln (CI B rfl (λd3 B=>?_) (λd3 B=>?_)))))
  ·refine gn (Wm (bS B λg1 b5 B=>?_))
   rcases g1 with f6 | h6
   ·have L:=d.size
    refine jP (.inl rfl) (iB (args:=[b8,(.int .i64 11)]) (caps:=#[]) _ _ d (Cb Pz Cn) rfl cI (by exact jG rfl rfl) (λhH hN A ae=>(gk.l (gu a j g 11 _ _ ⟨hH,hN,A⟩ (k.mono (Pl.mono _) (gf.refl _)) b5))) (λe7 h2 c6 e4 d T p ab=>?_))
    obtain ⟨i3,i6,d6,rfl⟩:=ab
    replace d:=d.perm (Tb Tn)
    refine ib (iU ?_)
    obtain rfl:=sj B
    replace a2:some (Sum.inl f6)=some s:=a2
    obtain rfl:=sj a2
    exact gQ.li ⟨_,_,_,rfl,(d.hU (Kb Sn)),T,p,(ST.gp d (gX.mem (Kb Sn))),⟨_,_,d6,rfl⟩⟩
   have L:=d.size
   refine VE (eD d (Cb Pz Cn) cI (λhh=>(gk.r (gu a j g 11 _ _ hh (k.mono (Pl.mono _) (gf.refl _)) b5))) ?_)
   rintro e7 h9 c6 e4 d T p ⟨a6,rfl⟩
   obtain rfl:=a6.symm
   replace d:=d.perm (Tb Tn)
   refine ln ?_
   obtain rfl:=sj B
   exact ⟨_,rfl,c6,_,T,p,(d.fR St),rfl,rfl⟩
  refine kn ?_
  obtain rfl:=sj B
  exact ⟨_,rfl,μ0,_,(gf.refl _),Lo.refl,(d.fR St),rfl,rfl⟩
 rintro ⟨⟩ E W ⟨Y,d7,G,q,d,b1,e0⟩ f0
 refine gq (wu f0 (λf8 E W=>∃I d8,gf Y I∧Lo (gL a0) w Y I∧ST true (gL a0) w W I ((a,Obj.cells c7 349 (0,0))::d8)∧E 0=b8∧E 1=(.int .i64 a1)) (λf8 u Z=>?_) ?_)
 ·refine sg (Wh b1 (Wn (Wf pn (VB d Mh rfl rfl bX (V (iI aG rfl k) (Wi rfl (ln (CI u rfl (λd2 u=>?_) (λd2 u=>?_)))))))))
  ·refine gn (Wh b1 (bS u λf9 b4 u=>?_))
   rcases f9 with f5 | h5
   ·have L:=d.size
    refine jP (.inl rfl) (iB (args:=[b8,(.int .i64 10)]) (caps:=#[]) _ _ d (Cb Pz Cn) rfl cI (by exact jG rfl rfl) (λhH hN A ae=>(gk.l (gu a j g 10 _ _ ⟨hH,hN,A⟩ (k.mono (Pl.mono _) G) b4))) (λe6 h1 c5 e3 d Q o aa=>?_))
    obtain ⟨i2,i5,d5,rfl⟩:=aa
    replace d:=d.perm (Tb Tn)
    refine ib (iU ?_)
    obtain rfl:=sj u
    replace Z:some (Sum.inl f5)=some s:=Z
    obtain rfl:=sj Z
    exact gQ.li ⟨_,_,_,rfl,(d.hU (Kb Sn)),(G.trans Q),(q.trans o),(ST.gp d (gX.mem (Kb Sn))),⟨_,_,d5,rfl⟩⟩
   have L:=d.size
   refine VE (eD d (Cb Pz Cn) cI (λhh=>(gk.r (gu a j g 10 _ _ hh (k.mono (Pl.mono _) G) b4))) ?_)
   rintro e6 h8 c5 e3 d Q o ⟨a5,rfl⟩
   obtain rfl:=a5.symm
   replace d:=d.perm (Tb Tn)
   refine ln ?_
   obtain rfl:=sj u
   exact ⟨_,rfl,c5,_,Q,o,(d.fR St),b1,e0⟩
  refine kn ?_
  obtain rfl:=sj u
  exact ⟨_,rfl,Y,_,(gf.refl _),Lo.refl,(d.fR St),b1,e0⟩
 rintro ⟨⟩ E W ⟨I,d8,J,O,d,a7,g2⟩ U
 refine sg (Wh a7 (Wn (Wf pn (VB d Mh rfl rfl bX (bS U λa9 c2 U=>VQ (ll (enc:=(fW .u8)) (i:=0) (x0:=a9) aG dV rfl rfl (k.mono (Pl.mono _) (G.trans J)) (jL c2) (je c2)) (λi8 f3=>V (fU rfl (nT d.has (y:=(.int .u8 a9)) f3 isAgg5)) (Wa (lr (Wh a7 ?_)))))))))
 refine Wh a7 (Wn (Wf pn (VB d Mh rfl rfl bX (bS U λ_ c1 U=>VQ (wC (i:=1) aG dV rfl rfl (k.mono (Pl.mono _) (G.trans J)) (sV c1) (sO c1)) (λi9 a3=>Wn (Wf pn ?_))))))
 obtain ⟨K,M,rfl⟩:=a3.1.form
 let P:Value:=(.slice K (j.b.drop (Int.toNat 1)).length M)
 refine VO (ga P (#[P,(.bool j.over)]) d rfl rfl cL oc nb rfl (λi7 d=>ln (gq (wu U (λg4 E W=>∃b6 d9,gf I b6∧Lo (gL a0) w I b6∧ST true (gL a0) w W b6 ((a,Ob #[P,(.bool j.over)] 349)::d9)∧E 5=(.int .u8 a9)) (λg4 f2 b0=>?_) ?_))))
 ·refine sg (Wm (Wi rfl (Wm (LJ f2 (λc3 E W=>∃b9,ST true (gL a0) w W I ((a,Ob #[P,(.bool j.over)] 349)::b9)∧E 0=b8∧E 5=(.int .u8 a9)∧E 37=(.bool c3)) 3 ?_ (λc3 H a8=>?_)))))
  ·rintro i0 E W ⟨b9,d,e8,c0,e9⟩ t
   refine ln (CI t e9 (λd1 t=>?_) (λd1 t=>?_))
   ·refine gn (Wh e8 (bS t λf7 b3 t=>?_))
    rcases f7 with f4 | h4
    ·have L:=d.size
     refine jP (.inl rfl) (iB (args:=[b8,(.int .i64 11)]) (caps:=#[]) _ _ d (Cb Pz Cn) rfl cI (by exact jG rfl rfl) (λhH hN A ae=>(gk.l (gu a c8 P 11 _ _ ⟨hH,hN,A⟩ (a3.1.mono (Pl.mono _) (gf.refl _)) b3))) (λe5 g9 c4 e2 d N h R=>?_))
     obtain ⟨i1,i4,d4,rfl⟩:=R
     replace d:=d.perm (Tb Tn)
     refine ib (iU ?_)
     obtain rfl:=sj t
     replace b0:some (Sum.inl f4)=some s:=b0
     obtain rfl:=sj b0
     exact gQ.li ⟨_,_,_,rfl,(d.hU (Kb Sn)),((G.trans J).trans N),((q.trans O).trans h),(ST.gp d (gX.mem (Kb Sn))),⟨_,_,d4,rfl⟩⟩
    have L:=d.size
    refine VE (eD d (Cb Pz Cn) cI (λhh=>(gk.r (gu a c8 P 11 _ _ hh (a3.1.mono (Pl.mono _) (gf.refl _)) b3))) ?_)
    rintro e5 h7 c4 e2 d N h ⟨a4,rfl⟩
    obtain rfl:=a4.symm
    replace d:=d.perm (Tb Tn)
    refine ln ?_
    obtain rfl:=sj t
    exact ⟨_,rfl,c4,_,N,h,(d.fR St),c0⟩
   refine kn ?_
   obtain rfl:=sj t
   exact ⟨_,rfl,I,_,(gf.refl _),Lo.refl,(d.fR St),c0⟩
  refine bC H (λD H=>?_) (λD H=>?_)
  ·refine ug D (gl g2) (ug D (iJ rfl rfl rfl) (V (gx (cB D) rfl) ?_))
   obtain rfl:=sj H
   exact a8 _ _ ⟨_,(d.fR St),a7,rfl,rfl⟩
  refine un D (un D (V (gw (cB D) rfl) ?_))
  obtain rfl:=sj H
  exact a8 _ _ ⟨_,(d.fR St),a7,rfl,rfl⟩
 rintro ⟨⟩ E W ⟨b6,d9,b2,ad,d,g3⟩ f1
 refine sg (Wh g3 (Wa (lt (lK ?_))))
 obtain rfl:=sj f1
 exact gZ (v:=(.int .u8 a9)) rfl rfl (gQ.ri ⟨_,_,_,rfl,(d.hU (Kb Sn)),((G.trans J).trans b2),((q.trans O).trans ad),(ST.gp d (gX.mem (Kb Sn))),P,rfl,rfl,(a3.1.mono (Pl.mono _) b2)⟩)
theorem gF (g:Nat) (I:fV) (j:Value) (R:Int) (s:(Int ⊕ (Int×fV))) (w:World) {μ0:gm} (h0:kz μ0 ((g,Ob #[j,(.bool I.over)] 349)::[]) w) (K:Sl (Pl (fW .u8)) 1 μ0 j I.b) (hm:ij I R=some s) :
  gk true pg0 277 [(.pointer (some ⟨g,0,none⟩)),(.int .i64 R)] w μ0 ((g,Ob #[j,(.bool I.over)] 349)::[]) s (λr v L1 μ1=>∃y1,v=(.int .i64 (r.1))∧L1=((g,Ob #[y1,(.bool ((r.2).over))] 349)::[])∧Sl (Pl (fW .u8)) 1 μ1 y1 ((r.2).b)) (λx c L1 μ1=>∃y z,c=[{ v:=nu 354 g x,recovered:=false }]∧L1=((g,Ob #[y,z] 349)::[])):=by
 let b7:Value:=(.pointer (some ⟨g,0,none⟩))
 let b2:=((g,Ob #[j,(.bool I.over)] 349)::[])
 have d:=ST.me (dd:=true) h0
 refine jQ (n:=31) func277 rfl rfl nb (sg (Wa (lS (Wm (bS hm λr1 e0 hm=>VE (Eg d call332 (rK g j I.b I.over _ _ (K.mono (Pl.mono _) d.gd) (At.of (d.at_ Mh) _ rfl) e0) (λW3 d=>ln (CI hm rfl (λd9 hm=>?_) (λd9 hm=>?_)))))))))
 ·refine sg (Wa (lt (gN (lK ?_))))
  obtain rfl:=sj hm
  exact gZ (v:=(.int .i64 0)) rfl rfl (gQ.ri ⟨_,_,_,rfl,(d.hU (Kb Sn)),(gf.refl _),Lo.refl,(ST.gp d (gX.mem (Kb Sn))),j,rfl,rfl,K⟩)
 refine kg (Wa (lS (Wa (ln (jS (pj (λm E W=>∃G u Q N T Y b3,gf μ0 Y∧Lo (gL b2) w μ0 Y∧ST true (gL b2) w W Y ((g,Ob #[Q,(.bool T)] 349)::b3)∧E 0=b7∧E 1=(.int .i64 R)∧E 5=(.int .i64 G)∧E 6=(.int .i64 u)∧Sl (Pl (fW .u8)) 1 Y Q N∧iN R m G u N T=some s) iq ⟨0,0,j,I.b,I.over,μ0,_,(gf.refl _),Lo.refl,(d.fR St),rfl,rfl,rfl,rfl,K,hm⟩ ?_))))))
 rintro m E W ⟨G,u,Q,N,T,Y,b3,H,o,d,a7,b5,d2,a8,b1,i⟩
 cases m with
 | zero=>rw [iN] at i; cases i
 | succ d4=>
  refine gq (bg (Wh a7 (Wh a8 (bS i λd8 a9 i=>?_))))
  rcases d8 with e6 | t
  ·have P:=d.size
   refine jP (.inl rfl) (iB (args:=[b7,(.int .i64 u)]) (caps:=#[]) _ _ d (Cb Pz Cn) rfl call333 (by exact jG rfl rfl) (λhH hN O aa=>(gk.l (qe g (⟨N,T⟩:fV) Q u _ _ ⟨hH,hN,O⟩ (b1.mono (Pl.mono _) (gf.refl _)) a9))) (λd0 e3 Z c8 d D h q=>?_))
   obtain ⟨f0,f2,c3,rfl⟩:=q
   replace d:=d.perm (Tb Tn)
   refine ib (lD (ib (ib (lD (ib (iU ?_))))))
   obtain rfl:=sj i
   exact gQ.li ⟨_,_,_,rfl,(d.hU (Kb Sn)),(H.trans D),(o.trans h),(ST.gp d (gX.mem (Kb Sn))),⟨_,_,c3,rfl⟩⟩
  have P:=d.size
  refine VE (eD d (Cb Pz Cn) call333 (λhh=>(gk.r (qe g (⟨N,T⟩:fV) Q u _ _ hh (b1.mono (Pl.mono _) (gf.refl _)) a9))) ?_)
  rintro d0 e8 Z c8 d D h ⟨U,a3,rfl,J⟩
  obtain rfl:=a3.symm
  replace d:=d.perm (Tb Tn)
  refine Wa (lr (Wh d2 (Wm (V (Dx (k:=.u8) (a:=t.1) (b:=127) (v:=(.int .u8 (IntKind.u8.wrap (BitVec.ofInt (IntKind.bits .u8) t.1 &&& BitVec.ofInt (IntKind.bits .u8) 127).toNat))) rfl rfl dc rfl) (V (pa (k':=.u8) (a:=(IntKind.u8.wrap (BitVec.ofInt (IntKind.bits .u8) t.1 &&& BitVec.ofInt (IntKind.bits .u8) 127).toNat)) bK eK rfl) (Wh a8 (Wi rfl (bS i λ_ c5 i=>V (HX (a:=(wi0 .i64 (IntKind.u8.wrap (BitVec.ofInt (IntKind.bits .u8) t.1 &&& BitVec.ofInt (IntKind.bits .u8) 127).toNat))) (b:=(wi0 .i64 (7*u))) rfl rfl (G9 c5)) (V (EL (k:=.i64) (a:=G) (b:=(wi0 .i64 ((wi0 .i64 (IntKind.u8.wrap (BitVec.ofInt (IntKind.bits .u8) t.1 &&& BitVec.ofInt (IntKind.bits .u8) 127).toNat))*2 ^ min (Int.toNat (wi0 .i64 (7*u))) (IntKind.bits .i64)))) (v:=(.int .i64 (wi0 .i64 (BitVec.ofInt (IntKind.bits .i64) G ||| BitVec.ofInt (IntKind.bits .i64) (wi0 .i64 ((wi0 .i64 (IntKind.u8.wrap (BitVec.ofInt (IntKind.bits .u8) t.1 &&& BitVec.ofInt (IntKind.bits .u8) 127).toNat))*2 ^ min (Int.toNat (wi0 .i64 (7*u))) (IntKind.bits .i64)))).toNat))) rfl rfl rfl) (Wa ?_))))))))))
  let a0:=(wi0 .i64 (BitVec.ofInt (IntKind.bits .i64) G ||| BitVec.ofInt (IntKind.bits .i64) (wi0 .i64 ((wi0 .i64 (IntKind.u8.wrap (BitVec.ofInt (IntKind.bits .u8) t.1 &&& BitVec.ofInt (IntKind.bits .u8) 127).toNat))*2 ^ min (Int.toNat (wi0 .i64 (7*u))) (IntKind.bits .i64)))).toNat)
  refine lr (Wm (Wi rfl (ln (CI i rfl (λc1 i=>?_) (λc1 i=>?_)))))
  ·refine pd (IT (by simp) (oA (oA (uo (gj (gq (wu i (λd6 E W=>∃a5 b4,gf Z a5∧Lo (gL b2) w Z a5∧ST true (gL b2) w W a5 ((g,Ob #[U,(.bool ((t.2).over))] 349)::b4)∧E 5=(.int .i64 a0)) (λd6 B a2=>?_) ?_)))))))
   ·refine sg (Wm (Wh b5 (Wi rfl (ln (CI B rfl (λc2 B=>?_) (λc2 B=>?_))))))
    ·refine gn (Wh a7 (bS B λd7 b0 B=>?_))
     rcases d7 with d5 | e7
     ·have P:=d.size
      refine jP (.inl rfl) (iB (args:=[b7,(.int .i64 12)]) (caps:=#[]) _ _ d (Cb Pz Cn) rfl cI (by exact jG rfl rfl) (λhH hN O aa=>(gk.l (gu g t.2 U 12 _ _ ⟨hH,hN,O⟩ (J.mono (Pl.mono _) (gf.refl _)) b0))) (λd1 e4 b6 c9 d M p A=>?_))
      obtain ⟨f1,f3,c4,rfl⟩:=A
      replace d:=d.perm (Tb Tn)
      refine ib (iU ?_)
      obtain rfl:=sj B
      replace a2:some (Sum.inl d5)=some s:=a2
      obtain rfl:=sj a2
      exact gQ.li ⟨_,_,_,rfl,(d.hU (Kb Sn)),((H.trans D).trans M),((o.trans h).trans p),(ST.gp d (gX.mem (Kb Sn))),⟨_,_,c4,rfl⟩⟩
     have P:=d.size
     refine VE (eD d (Cb Pz Cn) cI (λhh=>(gk.r (gu g t.2 U 12 _ _ hh (J.mono (Pl.mono _) (gf.refl _)) b0))) ?_)
     rintro d1 e9 b6 c9 d M p ⟨a4,rfl⟩
     obtain rfl:=a4.symm
     replace d:=d.perm (Tb Tn)
     refine ln ?_
     obtain rfl:=sj B
     exact ⟨_,rfl,b6,_,M,p,(d.fR St),rfl⟩
    refine kn ?_
    obtain rfl:=sj B
    exact ⟨_,rfl,Z,_,(gf.refl _),Lo.refl,(d.fR St),rfl⟩
   rintro ⟨⟩ E W ⟨a5,b4,a6,L,d,d3⟩ c6
   refine sg (Wh d3 (Wa (lt (lK ?_))))
   obtain rfl:=sj c6
   exact gZ (v:=(.int .i64 a0)) rfl rfl (gQ.ri ⟨_,_,_,rfl,(d.hU (Kb Sn)),((H.trans D).trans a6),((o.trans h).trans L),(ST.gp d (gX.mem (Kb Sn))),U,rfl,rfl,(J.mono (Pl.mono _) a6)⟩)
  exact iD (ig (gj (gn (Wh a8 (Wi rfl (Wa (ln ⟨d4,cU _,a0,(wi0 .i64 (u+1)),U,((t.2).b),((t.2).over),Z,_,(H.trans D),(o.trans h),(d.fR St),a7,b5,rfl,rfl,J,i⟩)))))))
theorem jX (a:Nat) (J:fV) (k:Value) (a1:Int) (s:(Int ⊕ ((List Int)×fV))) (w:World) {μ0:gm} (h0:kz μ0 ((a,Ob #[k,(.bool J.over)] 349)::[]) w) (D:Sl (Pl (fW .u8)) 1 μ0 k J.b) (hm:jw J a1=some s) :
  gk true pg0 278 [(.pointer (some ⟨a,0,none⟩)),(.int .i64 a1)] w μ0 ((a,Ob #[k,(.bool J.over)] 349)::[]) s (λr v L1 μ1=>∃y1 y3,v=y1∧L1=((a,Ob #[y3,(.bool ((r.2).over))] 349)::[])∧Sl (Pl (fW .u8)) 1 μ1 y1 (r.1)∧Sl (Pl (fW .u8)) 1 μ1 y3 ((r.2).b)) (λx c L1 μ1=>∃y z,c=[{ v:=nu 354 a x,recovered:=false }]∧L1=((a,Ob #[y,z] 349)::[])):=by
 let b6:=((a,Ob #[k,(.bool J.over)] 349)::[])
 let b2:Value:=(.pointer (some ⟨a,0,none⟩))
 have d:=ST.me (dd:=true) h0
 refine jQ (n:=44) func278 rfl rfl nb (sg (Wa (lS (Wm (bS hm λr1 e6 hm=>VE (Eg d call332 (rK a k J.b J.over _ _ (D.mono (Pl.mono _) d.gd) (At.of (d.at_ Mh) _ rfl) e6) (λW3 d=>ln (CI hm rfl (λe5 hm=>?_) (λe5 hm=>?_)))))))))
 ·refine sg (Wa (lt (gN (lK ?_))))
  obtain rfl:=sj hm
  exact gZ (v:=(.slice none 0 0)) rfl rfl (gQ.ri ⟨_,_,_,rfl,(d.hU (Kb Sn)),(gf.refl _),Lo.refl,(ST.gp d (gX.mem (Kb Sn))),(.slice none 0 0),k,rfl,rfl,(Sl.nil _ _ _),D⟩)
 refine kg (Wm (bS hm λd9 c0 hm=>?_))
 rcases d9 with g7 | t
 ·have A:=d.size
  refine jP (.inl rfl) (iB (args:=[b2,(.int .i64 9223372036854775807)]) (caps:=#[]) _ _ d (Cb Pz Cn) rfl dD (by exact jG rfl rfl) (λhH R q af=>(gk.l (gF a J k 9223372036854775807 _ _ ⟨hH,R,q⟩ (D.mono (Pl.mono _) (gf.refl _)) c0))) (λW7 g4 L e2 d I h aa=>?_))
  obtain ⟨h4,h5,d1,rfl⟩:=aa
  replace d:=d.perm (Tb Tn)
  refine ib (iU ?_)
  obtain rfl:=sj hm
  exact gQ.li ⟨_,_,_,rfl,(d.hU (Kb Sn)),I,h,(ST.gp d (gX.mem (Kb Sn))),⟨_,_,d1,rfl⟩⟩
 have A:=d.size
 refine VE (eD d (Cb Pz Cn) dD (λhh=>(gk.r (gF a J k 9223372036854775807 _ _ hh (D.mono (Pl.mono _) (gf.refl _)) c0))) ?_)
 rintro W7 h1 L e2 d I h ⟨T,U,rfl,B⟩
 obtain rfl:=U.symm
 replace d:=d.perm (Tb Tn)
 refine Wa (ln (gq (wu hm (λe7 E W=>∃a3 b7,gf L a3∧Lo (gL b6) w L a3∧ST true (gL b6) w W a3 ((a,Ob #[T,(.bool ((t.2).over))] 349)::b7)∧E 0=b2∧E 5=(.int .i64 t.1)) (λe7 g G=>?_) ?_)))
 ·refine bg (Wm (Wm (Wi rfl (Wa (ln (CI g rfl (λd0 g=>?_) (λd0 g=>?_)))))))
  ·refine gn (Wm (bS g λd7 a9 g=>?_))
   rcases d7 with d5 | g9
   ·have A:=d.size
    refine jP (.inl rfl) (iB (args:=[b2,(.int .i64 12)]) (caps:=#[]) _ _ d (Cb Pz Cn) rfl cI (by exact jG rfl rfl) (λhH R q af=>(gk.l (gu a t.2 T 12 _ _ ⟨hH,R,q⟩ (B.mono (Pl.mono _) (gf.refl _)) a9))) (λe3 f2 c2 c4 d M p O=>?_))
    obtain ⟨f7,f9,b4,rfl⟩:=O
    replace d:=d.perm (Tb Tn)
    refine lD (ib (iU ?_))
    obtain rfl:=sj g
    replace G:some (Sum.inl d5)=some s:=G
    obtain rfl:=sj G
    exact gQ.li ⟨_,_,_,rfl,(d.hU (Kb Sn)),(I.trans M),(h.trans p),(ST.gp d (gX.mem (Kb Sn))),⟨_,_,b4,rfl⟩⟩
   have A:=d.size
   refine VE (eD d (Cb Pz Cn) cI (λhh=>(gk.r (gu a t.2 T 12 _ _ hh (B.mono (Pl.mono _) (gf.refl _)) a9))) ?_)
   rintro e3 h3 c2 c4 d M p ⟨N,rfl⟩
   obtain rfl:=N.symm
   replace d:=d.perm (Tb Tn)
   refine gJ (ig (gj ?_))
   obtain rfl:=sj g
   exact ⟨_,rfl,c2,_,M,p,(d.fR St),rfl,rfl⟩
  refine sg (Wm (Wm (Wn (Wf pn (VB d Mh rfl rfl bX (V (iI aG rfl B) (Wi rfl (Wa (ln (CI g rfl (λb3 g=>?_) (λb3 g=>?_)))))))))))
  ·refine gn (Wm (bS g λd8 a2 g=>?_))
   rcases d8 with d6 | f5
   ·have A:=d.size
    refine jP (.inl rfl) (iB (args:=[b2,(.int .i64 10)]) (caps:=#[]) _ _ d (Cb Pz Cn) rfl cI (by exact jG rfl rfl) (λhH R q af=>(gk.l (gu a t.2 T 10 _ _ ⟨hH,R,q⟩ (B.mono (Pl.mono _) (gf.refl _)) a2))) (λc6 f3 b1 c5 d H o P=>?_))
    obtain ⟨f8,g0,b5,rfl⟩:=P
    replace d:=d.perm (Tb Tn)
    refine lD (ib (iU ?_))
    obtain rfl:=sj g
    replace G:some (Sum.inl d6)=some s:=G
    obtain rfl:=sj G
    exact gQ.li ⟨_,_,_,rfl,(d.hU (Kb Sn)),(I.trans H),(h.trans o),(ST.gp d (gX.mem (Kb Sn))),⟨_,_,b5,rfl⟩⟩
   have A:=d.size
   refine VE (eD d (Cb Pz Cn) cI (λhh=>(gk.r (gu a t.2 T 10 _ _ hh (B.mono (Pl.mono _) (gf.refl _)) a2))) ?_)
   rintro c6 f6 b1 c5 d H o ⟨Q,rfl⟩
   obtain rfl:=Q.symm
   replace d:=d.perm (Tb Tn)
   refine gJ (ig (gj ?_))
   obtain rfl:=sj g
   exact ⟨_,rfl,b1,_,H,o,(d.fR St),rfl,rfl⟩
  refine iD (ig (gj ?_))
  obtain rfl:=sj g
  exact ⟨_,rfl,L,_,(gf.refl _),Lo.refl,(d.fR St),rfl,rfl⟩
 rintro ⟨⟩ E W ⟨a3,b7,K,ab,d,a6,b9⟩ u
 refine sg (Wh a6 (Wn (Wf pn (VB d Mh rfl rfl bX (Wh b9 (bS u λ_ a7 u=>VQ (CR (j:=t.1) aG dV rfl rfl (B.mono (Pl.mono _) K) (sV a7) (sO a7)) (λe8 d3=>bS u λg8 d2 u=>VE (nJ d call234 (rB e8 (((t.2).b).take (Int.toNat t.1)) _ _ (d3.1.mono (Pl.mono _) d.gd) d2) (λg2 c1 h6 g1 d Y ad c9=>Wa (ln (gq ?_)))))))))))
 refine gn (Wh a6 (Wh a6 (Wn (Wf pn (VB d (Ma Mh) rfl rfl bX (Wh b9 (bS u λ_ a8 u=>VQ (wC (i:=t.1) aG dV rfl rfl (B.mono (Pl.mono _) (K.trans Y)) (sV a8) (sO a8)) (λh2 b0=>Wn (Wf pn ?_)))))))))
 obtain ⟨a4,a5,rfl⟩:=b0.1.form
 let a0:Value:=(.slice a4 (((t.2).b).drop (Int.toNat t.1)).length a5)
 replace d:=d.perm (Nb (Pr Pz) Nz)
 refine VO (ga a0 (#[a0,(.bool ((t.2).over))]) d rfl rfl cL oc nb rfl (λg3 d=>lr (Wm (Wa (lt (lK ?_))))))
 obtain rfl:=sj u
 refine gZ (v:=c1) rfl rfl ?_
 replace d:=d.perm (Nr (Qb Qz) Nz)
 obtain ⟨h7,d,Z,ae,d4⟩:=ST.uG d c9 (λ_=>rfl)
 exact gQ.ri ⟨_,_,_,rfl,(d.hU (Kb Sn)),(((I.trans K).trans Y).trans Z),(((h.trans ab).trans ad).trans ae),(ST.gp d (gX.mem (Kb Sn))),c1,a0,rfl,rfl,d4,(b0.1.mono (Pl.mono _) Z)⟩
theorem vI (a:Nat) (a0:fV) (g:Value) (j:Nat) (P:Int) (k:Nat) (c1:List Int) (I:Value) (t:Nat) (c2:List Int) (J:Value) (s:(Int ⊕ (fV×Int×(List Int)×(List Int)))) (w:World) {μ0:gm} (h0:kz μ0 ((a,Ob #[g,(.bool a0.over)] 349)::((j,Ob #[(.int .i64 P)] 3)::((k,Ob #[I] 53)::((t,Ob #[J] 53)::[])))) w) (Z:Sl (Pl (fW .u8)) 1 μ0 g a0.b) (f1:Sl (Pl (fW .u8)) 1 μ0 I c1) (f2:Sl (Pl (fW .u8)) 1 μ0 J c2) (hm:oW a0 P c1 c2=some s) :
  gk true pg0 276 [(.pointer (some ⟨a,0,none⟩)),(.pointer (some ⟨j,0,none⟩)),(.pointer (some ⟨k,0,none⟩)),(.pointer (some ⟨t,0,none⟩))] w μ0 ((a,Ob #[g,(.bool a0.over)] 349)::((j,Ob #[(.int .i64 P)] 3)::((k,Ob #[I] 53)::((t,Ob #[J] 53)::[])))) s (λr v L1 μ1=>∃y1 y3 y5,v=(.tuple #[])∧L1=((a,Ob #[y1,(.bool ((r.1).over))] 349)::((j,Ob #[(.int .i64 (r.2.1))] 3)::((k,Ob #[y3] 53)::((t,Ob #[y5] 53)::[]))))∧Sl (Pl (fW .u8)) 1 μ1 y1 ((r.1).b)∧Sl (Pl (fW .u8)) 1 μ1 y3 (r.2.2.1)∧Sl (Pl (fW .u8)) 1 μ1 y5 (r.2.2.2)) (λx c L1 μ1=>∃y z,c=[{ v:=nu 354 a x,recovered:=false }]∧L1=((a,Ob #[y,z] 349)::((j,Ob #[(.int .i64 P)] 3)::((k,Ob #[I] 53)::((t,Ob #[J] 53)::[]))))):=by
 have d:=ST.me (dd:=true) h0
 refine jQ (n:=20) func276 rfl rfl nb (sg (Wm (bS hm λe1 b6 hm=>?_)))
 rcases e1 with g4 | r1
 ·have o:=d.size
  refine jP (.inl rfl) (iB (args:=[(.pointer (some ⟨a,0,none⟩)),(.int .i64 1099511627776)]) (caps:=#[]) _ _ d (Cb Pz Cn) rfl dD (by exact jG rfl rfl) (λhH hN ab ae=>(gk.l (gF a a0 g 1099511627776 _ _ ⟨hH,hN,ab⟩ (Z.mono (Pl.mono _) (gf.refl _)) b6))) (λW3 g3 ad L9 d M h R=>?_))
  obtain ⟨h6,h9,c7,rfl⟩:=R
  replace d:=d.perm (Tb Tn)
  refine ib (iU ?_)
  obtain rfl:=sj hm
  exact gQ.li ⟨_,_,_,rfl,(d.hU (Kb (Kb (Kb (Kb Sn))))),M,h,(ST.gp d (gX.mem (Kb (Kb (Kb (Kb Sn)))))),⟨_,_,c7,rfl⟩⟩
 have o:=d.size
 refine VE (eD d (Cb Pz Cn) dD (λA=>(gk.r (gF a a0 g 1099511627776 _ _ A (Z.mono (Pl.mono _) (gf.refl _)) b6))) ?_)
 rintro W3 v7 ad L9 d M h ⟨e3,a2,rfl,d1⟩
 obtain rfl:=a2.symm
 replace d:=d.perm (Tb Tn)
 replace d:=d.perm (Nb (Pb Pz) Nz)
 refine VO (ga (.int .i64 r1.1) (#[(.int .i64 r1.1)]) d rfl rfl eo (qF _ r1.1) nb rfl (λf7 d=>lr (Wm (bS hm λe0 c8 hm=>?_))))
 rcases e0 with g7 | K
 ·cases hm
 have o:=d.size
 refine VE (eD d (Cb (Pb Pz) Cn) call278 (λA=>(gk.r (jX a r1.2 e3 2048 _ _ A (d1.mono (Pl.mono _) (gf.refl _)) c8))) ?_)
 rintro _ h2 i0 f4 d a8 p ⟨h7,e5,a3,rfl,a6,d2⟩
 obtain rfl:=a3.symm
 replace d:=d.perm (Tb Tn)
 obtain ⟨Q,U,rfl⟩:=a6.form
 let L:Value:=(.slice Q K.1.length U)
 replace d:=d.perm (Nb (Pb (Pb Pz)) Nz)
 refine VO (ga L (#[L]) d rfl rfl cL oc nb rfl (λf9 d=>lr (Wm (bS hm λd9 c9 hm=>?_))))
 rcases d9 with g8 | H
 ·cases hm
 have o:=d.size
 refine VE (eD d (Cb (Pb Pz) Cn) call278 (λA=>(gk.r (jX a K.2 e5 8 _ _ A (d2.mono (Pl.mono _) (gf.refl _)) c9))) ?_)
 rintro _ h3 e7 f5 d B q ⟨h8,b0,a4,rfl,N,a7⟩
 obtain rfl:=a4.symm
 replace d:=d.perm (Tb Tn)
 obtain ⟨T,Y,rfl⟩:=N.form
 let O:Value:=(.slice T H.1.length Y)
 replace d:=d.perm (Nb (Pb (Pb (Pb Pz))) Nz)
 refine VO (ga O (#[O]) d rfl rfl cL oc nb rfl (λg1 d=>lr (VB d Mh rfl rfl bX (V (iI aG rfl N) (Wi rfl (Wm (LJ hm (λb7 E W=>∃b5,ST true (gL ((a,Ob #[g,(.bool a0.over)] 349)::((j,Ob #[(.int .i64 P)] 3)::((k,Ob #[I] 53)::((t,Ob #[J] 53)::[]))))) w W e7 ((t,Ob #[O] 53)::((a,Ob #[b0,(.bool ((H.2).over))] 349)::((k,Ob #[L] 53)::((j,Ob #[(.int .i64 r1.1)] 3)::b5))))∧E 0=(.pointer (some ⟨a,0,none⟩))∧E 17=(.bool b7)) 3 ?_ (λb7 G a9=>?_))))))))
 ·rintro h5 E W ⟨b5,d,d5,d6⟩ i
  refine ln (CI i d6 (λc6 i=>?_) (λc6 i=>?_))
  ·refine gn (Wh d5 (bS i λd8 d0 i=>?_))
   rcases d8 with g9 | h1
   ·cases i
   have o:=d.size
   refine VE (eD d (Cb (Pb Pz) Cn) cI (λA=>(gk.r (gu a H.2 b0 11 _ _ A (a7.mono (Pl.mono _) (gf.refl _)) d0))) ?_)
   rintro _ h4 i1 f6 d D aa ⟨a5,rfl⟩
   obtain rfl:=a5.symm
   replace d:=d.perm (Tb Tn)
   refine gJ (wb (ub ?_))
   obtain rfl:=sj i
   exact tU rfl (gQ.ri ⟨_,_,_,rfl,(d.hU (Kb (Sb (Pb (Pb Pz)) (Sb (Pb Pz) (Kb Sn))))),(((M.trans a8).trans B).trans D),(((h.trans p).trans q).trans aa),(ST.gp d (gX.mem (Kb (Sb (Pb (Pb Pz)) (Sb (Pb Pz) (Kb Sn)))))),b0,L,O,rfl,rfl,(a7.mono (Pl.mono _) D),(a6.mono (Pl.mono _) (B.trans D)),(N.mono (Pl.mono _) D)⟩)
  refine iD (wb (ub ?_))
  obtain rfl:=sj i
  exact tU rfl (gQ.ri ⟨_,_,_,rfl,(d.hU (Sb (Pb Pz) (Sb (Pb (Pb Pz)) (Sb (Pb Pz) (Kb Sn))))),((M.trans a8).trans B),((h.trans p).trans q),(ST.gp d (gX.mem (Sb (Pb Pz) (Sb (Pb (Pb Pz)) (Sb (Pb Pz) (Kb Sn)))))),b0,L,O,rfl,rfl,a7,(a6.mono (Pl.mono _) B),N⟩)
 refine bC G (λu G=>?_) (λu G=>?_)
 ·refine un u (un u (V (gx (cB u) rfl) ?_))
  obtain rfl:=sj G
  exact a9 _ _ ⟨_,(d.fR St),rfl,rfl⟩
 refine ug u (fU rfl (gh d.has (Mt (Mt (Mt Mh))) rfl bY)) (ug u (iJ rfl rfl rfl) (V (gw (cB u) rfl) ?_))
 obtain rfl:=sj G
 exact a9 _ _ ⟨_,(d.fR St),rfl,rfl⟩
theorem sB (G:Value) (Q:List Int) (a:Nat) (H:Int) (g:Nat) (T:List Int) (j:Value) (i:Nat) (U:List Int) (k:Value) (r:(Int×Int×(List Int)×(List Int))) (w:World) {N:gm} (I:kz N ((a,Ob #[(.int .i64 H)] 3)::((g,Ob #[j] 53)::((i,Ob #[k] 53)::[]))) w) (Y:Sl (Pl (fW .u8)) 1 N G Q) (K:Sl (Pl (fW .u8)) 1 N j T) (M:Sl (Pl (fW .u8)) 1 N k U) (hm:mR Q H T U=some r) :
  iC true pg0 275 [G,(.func (.func 276) #[] #[(.pointer (some ⟨a,0,none⟩)),(.pointer (some ⟨g,0,none⟩)),(.pointer (some ⟨i,0,none⟩))])] w N ((a,Ob #[(.int .i64 H)] 3)::((g,Ob #[j] 53)::((i,Ob #[k] 53)::[]))) (λv D B=>∃t u,v=(.int .i64 (r.1))∧D=((a,Ob #[(.int .i64 (r.2.1))] 3)::((g,Ob #[t] 53)::((i,Ob #[u] 53)::[])))∧Sl (Pl (fW .u8)) 1 B t (r.2.2.1)∧Sl (Pl (fW .u8)) 1 B u (r.2.2.2)):=by
 refine bS hm λl h hm=>bS hm λs n hm=>?_
 obtain rfl:=sj hm
 refine iC.mono (wi 276 #[(.pointer (some ⟨a,0,none⟩)),(.pointer (some ⟨g,0,none⟩)),(.pointer (some ⟨i,0,none⟩))] G Q l s (λr=>(r.1).b) w I Y h (λr D B=>∃t u,D=((a,Ob #[(.int .i64 (r.2.1))] 3)::((g,Ob #[t] 53)::((i,Ob #[u] 53)::[])))∧Sl (Pl (fW .u8)) 1 B t (r.2.2.1)∧Sl (Pl (fW .u8)) 1 B u (r.2.2.2)) (λx D B=>D=((a,Ob #[(.int .i64 H)] 3)::((g,Ob #[j] 53)::((i,Ob #[k] 53)::[])))) call276 (λP μ' O o J hle A=>gk.mono (vI O (⟨l,false⟩:fV) o a H g T j i U k s P J A (K.mono (Pl.mono _) hle) (M.mono (Pl.mono _) hle) n) ?_ ?_)) ?_
 ·rintro r v D B ⟨W,t,u,R,d,Z,I,J⟩; exact ⟨_,_,_,d,Z,t,u,rfl,I,J⟩
 ·rintro x c D B ⟨y,z,L,d⟩; exact ⟨y,z,_,L,d,rfl⟩
 rintro v D B q ⟨rfl,p⟩
 cases s with
 | inl x=>exact ⟨j,k,rfl,p,(K.mono (Pl.mono _) q),(M.mono (Pl.mono _) q)⟩
 | inr r=>obtain ⟨t,u,d,I,J⟩:=p; exact ⟨t,u,rfl,d,I,J⟩
theorem zn (g:Value) (z:List Int) (r:(Int×(List Int)×(List Int)×Int)) (w:World) {G:gm} (U:kz G [] w) (D:Sl (Pl (fW .u8)) 1 G g z) (hm:pJ z=some r) :
  iC true pg0 218 [g] w G [] (λv M K=>∃I J,v=(.tuple #[(.int .i64 (r.1)),I,J,(.int .i64 (r.2.2.2))])∧M=[]∧Sl (Pl (fW .u8)) 1 K I (r.2.1)∧Sl (Pl (fW .u8)) 1 K J (r.2.2.1)):=by
 refine yX U 13 func218 rfl (λd=>sg (VE (gy d zeroValue3 (λW2 N d=>VE (gy d zeroValue53 (λW4 Q d=>VE (gy d zeroValue53 (λW6 T d=>Wa (lr (Wm (V (wE (by exact Ic rfl rfl rfl) rfl) (bS hm λa H hm=>?_))))))))))))
 refine VE (eD d (Cb (Pb (Pb Pz)) (Cb (Pb Pz) (Cb Pz Cn))) call275 (λP=>(sB g z N 0 Q ([]) (.slice none 0 0) T ([]) (.slice none 0 0) _ _ P (D.mono (Pl.mono _) (gf.refl _)) (Sl.nil _ _ _) (Sl.nil _ _ _) H)) ?_)
 rintro _ a3 a6 Y d y L ⟨a4,a5,c,rfl,u,x⟩
 obtain rfl:=c.symm
 replace d:=d.perm (Tb (Tb (Tb Tn)))
 refine Wa (ln (gq ?_))
 replace d:=d.drew
 have n:=d.has.fR Sn
 have q:=d.has.fR (Kb Sn)
 have p:=d.has.fR (Db (Kb Sn))
 have o:=d.has.fR (Db (Db (Kb Sn)))
 refine Ew 4 5 6 n q p o gK (lh 0 rfl kr (.inl rfl) rfl dc (λ_ _ h=>⟨h.1,mu br h.2.1,mu br h.2.2.1,mu br h.2.2.2⟩) ⟨n,λ_=>q,λ_=>p,λ_=>o⟩ (λl W s O=>have A:=(O.2.1 (s.B6 4 [0] kr rfl)); fU rfl (gh A Mh rfl bY)) (lh 1 rfl kr (.inl rfl) rfl dc (λ_ _ h=>⟨h.1,mu br h.2.1,mu br h.2.2.1,mu br h.2.2.2⟩) ⟨n,λ_=>q,λ_=>p,λ_=>o⟩ (λl W s O=>have A:=(O.2.2.1 (s.B6 5 [1] kr rfl)); fU rfl (gh A Mh rfl bX)) (lh 2 rfl kr (.inl rfl) rfl dc (λ_ _ h=>⟨h.1,mu br h.2.1,mu br h.2.2.1,mu br h.2.2.2⟩) ⟨n,λ_=>q,λ_=>p,λ_=>o⟩ (λl W s O=>have A:=(O.2.2.2 (s.B6 6 [2] kr rfl)); fU rfl (gh A Mh rfl bX)) (lh 3 rfl kr (.inl rfl) rfl dc (λ_ _ h=>⟨h.1,mu br h.2.1,mu br h.2.2.1,mu br h.2.2.2⟩) ⟨n,λ_=>q,λ_=>p,λ_=>o⟩ (λ_ _ _ _=>gl rfl) (XO 4 rfl (ga (.int .i64 a.2.1) (#[(.int .i64 a.2.1)]) d rfl rfl eo (qF _ a.2.1) nb rfl (λZ d=>?_)))))))
 have n:=d.has.fR Sn
 have p:=d.has.fR (Db (Kb Sn))
 have o:=d.has.fR (Db (Db (Kb Sn)))
 refine ⟨⟨n,λh=>vi kr h,λ_=>p,λ_=>o⟩,?_⟩
 obtain ⟨i,k,rfl⟩:=u.form
 let B:Value:=(.slice i a.2.2.1.length k)
 replace d:=d.perm (Nb (Pb Pz) Nz)
 refine XO 5 rfl (ga B (#[B]) d rfl rfl cL oc nb rfl (λR d=>?_))
 have n:=d.has.fR Sn
 have o:=d.has.fR (Db (Db (Kb Sn)))
 refine ⟨⟨n,λh=>vi kr h,λh=>vi kr h,λ_=>o⟩,?_⟩
 obtain ⟨j,t,rfl⟩:=x.form
 let a0:Value:=(.slice j a.2.2.2.length t)
 replace d:=d.perm (Nb (Pb (Pb Pz)) Nz)
 refine XO 6 rfl (ga a0 (#[a0]) d rfl rfl cL oc nb rfl (λa2 d=>?_))
 have n:=d.has.fR Sn
 refine ⟨⟨n,λh=>vi kr h,λh=>vi kr h,λh=>vi kr h⟩,(lh 7 rfl kr (.inl rfl) rfl dc (λ_ _ h=>⟨h.1,mu br h.2.1,mu br h.2.2.1,mu br h.2.2.2⟩) ⟨n,λh=>vi kr h,λh=>vi kr h,λh=>vi kr h⟩ (λ_ _ _ _=>iM rfl) (iz kr (gj (gC ?_))))⟩
 obtain rfl:=sj hm
 exact Ez (v0:=(.int .i64 a.2.1)) (v1:=B) (v2:=a0) (v3:=(.int .i64 a.1)) rfl rfl (gh d.has (Mt (Mt Mh)) rfl bY) rfl (gh d.has (Mt Mh) rfl bX) rfl (gh d.has Mh rfl bX) rfl ⟨_,_,_,rfl,(d.hU Sn),y,L,(ST.gp d (gX.mem Sn)),B,a0,rfl,rfl,u,x⟩
theorem kq (a:Nat) (G:fV) (g:Value) (s:(Int ⊕ (ByteArray×fV))) (w:World) {Z:gm} (h0:kz Z ((a,Ob #[g,(.bool G.over)] 349)::[]) w) (t:Sl (Pl (fW .u8)) 1 Z g G.b) (hm:lI G=some s) :
  gk true pg0 334 [(.pointer (some ⟨a,0,none⟩))] w Z ((a,Ob #[g,(.bool G.over)] 349)::[]) s (λr v K μ1=>∃W,v=(.string (r.1))∧K=((a,Ob #[W,(.bool ((r.2).over))] 349)::[])∧Sl (Pl (fW .u8)) 1 μ1 W ((r.2).b)) (λx c K μ1=>∃y z,c=[{ v:=nu 354 a x,recovered:=false }]∧K=((a,Ob #[y,z] 349)::[])):=by
 have d:=ST.me (dd:=true) h0
 refine jQ (n:=15) func334 rfl rfl nb (sg (Wa (lS (Wm (V (lB fz rfl rfl) (ln (kH rfl (iD ?_))))))))
 refine gj (sg (Wm (bS hm λa5 J hm=>?_)))
 rcases a5 with b6 | I
 ·have q:=d.size
  refine jP (.inl rfl) (iB (args:=[(.pointer (some ⟨a,0,none⟩)),(.int .i64 16)]) (caps:=#[]) _ _ d (Cb Pz Cn) rfl call278 (by exact jG rfl rfl) (λhH M p P=>(gk.l (jX a G g 16 _ _ ⟨hH,M,p⟩ (t.mono (Pl.mono _) (gf.refl _)) J))) (λW3 b4 R L9 d j o A=>?_))
  obtain ⟨c3,c5,Q,rfl⟩:=A
  replace d:=d.perm (Tb Tn)
  refine ib (iU ?_)
  obtain rfl:=sj hm
  exact gQ.li ⟨_,_,_,rfl,(d.hU (Kb Sn)),j,o,(ST.gp d (gX.mem (Kb Sn))),⟨_,_,Q,rfl⟩⟩
 have q:=d.size
 refine VE (eD d (Cb Pz Cn) call278 (λO=>(gk.r (jX a G g 16 _ _ O (t.mono (Pl.mono _) (gf.refl _)) J))) ?_)
 rintro W3 v7 R L9 d j o ⟨c2,D,u,rfl,Y,k⟩
 obtain rfl:=u.symm
 replace d:=d.perm (Tb Tn)
 refine V (mT aG bK aI rfl (Y.mono (Pl.mono _) d.gd)) (Wa (lS (Wm (bS hm λb9 U hm=>VE (Eg d call93 (mA (nR I.1) _ _  U) (λb3 d=>V (kj rfl) (ln (CI hm rfl (λN hm=>?_) (λN hm=>?_)))))))))
 ·refine sg (Wm (bS hm λa4 H hm=>?_))
  rcases a4 with b7 | c0
  ·have q:=d.size
   refine jP (.inl rfl) (iB (args:=[(.pointer (some ⟨a,0,none⟩)),(.int .i64 30)]) (caps:=#[]) _ _ d (Cb Pz Cn) rfl cI (by exact jG rfl rfl) (λhH M p P=>(gk.l (gu a I.2 D 30 _ _ ⟨hH,M,p⟩ (k.mono (Pl.mono _) (gf.refl _)) H))) (λa2 b5 a8 a1 d i h L=>?_))
   obtain ⟨c4,c6,T,rfl⟩:=L
   replace d:=d.perm (Tb Tn)
   refine ib (ib (iU ?_))
   obtain rfl:=sj hm
   exact gQ.li ⟨_,_,_,rfl,(d.hU (Kb Sn)),(j.trans i),(o.trans h),(ST.gp d (gX.mem (Kb Sn))),⟨_,_,T,rfl⟩⟩
  have q:=d.size
  refine VE (eD d (Cb Pz Cn) cI (λO=>(gk.r (gu a I.2 D 30 _ _ O (k.mono (Pl.mono _) (gf.refl _)) H))) ?_)
  rintro a2 c1 a8 a1 d i h ⟨B,rfl⟩
  obtain rfl:=B.symm
  replace d:=d.perm (Tb Tn)
  refine lr (Wa (lt (gN (lK ?_))))
  obtain rfl:=sj hm
  exact gZ (v:=(.string zS)) rfl rfl (gQ.ri ⟨_,_,_,rfl,(d.hU (Kb Sn)),(j.trans i),(o.trans h),(ST.gp d (gX.mem (Kb Sn))),D,rfl,rfl,(k.mono (Pl.mono _) i)⟩)
 refine kg (Wm (Wa (lt (lK ?_))))
 obtain rfl:=sj hm
 exact gZ (v:=(.string (nR I.1))) rfl rfl (gQ.ri ⟨_,_,_,rfl,(d.hU (Kb Sn)),j,o,(ST.gp d (gX.mem (Kb Sn))),D,rfl,rfl,k⟩)
theorem jy (a:Nat) (G:fV) (g:Value) (s:(Int ⊕ (fQ×fV))) (w:World) {Z:gm} (h0:kz Z ((a,Ob #[g,(.bool G.over)] 349)::[]) w) (u:Sl (Pl (fW .u8)) 1 Z g G.b) (hm:kP G=some s) :
  gk true pg0 335 [(.pointer (some ⟨a,0,none⟩))] w Z ((a,Ob #[g,(.bool G.over)] 349)::[]) s (λr v M μ1=>∃y1,v=(.agg (fS (r.1)).toArray)∧M=((a,Ob #[y1,(.bool ((r.2).over))] 349)::[])∧Sl (Pl (fW .u8)) 1 μ1 y1 ((r.2).b)) (λx c M μ1=>∃y z,c=[{ v:=nu 354 a x,recovered:=false }]∧M=((a,Ob #[y,z] 349)::[])):=by
 have d:=ST.me (dd:=true) h0
 refine jQ (n:=10) func335 rfl rfl nb (sg (VE (gy d bL (λW2 b1 d=>lr (Wm (bS hm λa5 J hm=>?_))))))
 rcases a5 with b7 | t
 ·have q:=d.size
  refine jP (.inl rfl) (iB (args:=[(.pointer (some ⟨a,0,none⟩))]) (caps:=#[]) _ _ d (Cb (Pb Pz) Cn) rfl eX (by exact lM rfl) (λhH O p R=>(gk.l (kq a G g _ _ ⟨hH,O,p⟩ (u.mono (Pl.mono _) (gf.refl _)) J))) (λW5 b5 W a1 d k o A=>?_))
  obtain ⟨c1,c3,T,rfl⟩:=A
  replace d:=d.perm (Tb Tn)
  refine ib (iU ?_)
  obtain rfl:=sj hm
  exact gQ.li ⟨_,_,_,rfl,(d.hU (Kb Sn)),k,o,(ST.gp d (gX.mem (Kb Sn))),⟨_,_,T,rfl⟩⟩
 have q:=d.size
 refine VE (eD d (Cb (Pb Pz) Cn) eX (λP=>(gk.r (kq a G g _ _ P (u.mono (Pl.mono _) (gf.refl _)) J))) ?_)
 rintro W5 v9 W a1 d k o ⟨K,B,rfl,I⟩
 obtain rfl:=B.symm
 replace d:=d.perm (Tb Tn)
 refine Wa (lr (Wm (Wm (bS hm λa4 H hm=>?_))))
 rcases a4 with b9 | i
 ·have q:=d.size
  refine jP (.inl rfl) (iB (args:=[(.pointer (some ⟨a,0,none⟩))]) (caps:=#[]) _ _ d (Cb Pz Cn) rfl eX (by exact lM rfl) (λhH O p R=>(gk.l (kq a t.2 K _ _ ⟨hH,O,p⟩ (I.mono (Pl.mono _) (gf.refl _)) H))) (λa3 b6 a9 a2 d j h L=>?_))
  obtain ⟨c2,c4,U,rfl⟩:=L
  replace d:=d.perm (Tb Tn)
  refine ib (iU ?_)
  obtain rfl:=sj hm
  exact gQ.li ⟨_,_,_,rfl,(d.hU (Kb Sn)),(k.trans j),(o.trans h),(ST.gp d (gX.mem (Kb Sn))),⟨_,_,U,rfl⟩⟩
 have q:=d.size
 refine VE (eD d (Cb Pz Cn) eX (λP=>(gk.r (kq a t.2 K _ _ P (I.mono (Pl.mono _) (gf.refl _)) H))) ?_)
 rintro a3 c0 a9 a2 d j h ⟨a7,D,rfl,Y⟩
 obtain rfl:=D.symm
 replace d:=d.perm (Tb Tn)
 let N:=(⟨t.1,i.1⟩:fQ)
 let Q:Value:=(.agg (fS N).toArray)
 refine V (ia (v:=Q) (mY rfl rfl) (gG bL cD (Fl _ cD) kr)) ?_
 replace d:=d.perm (Nb (Pb Pz) Nz)
 refine VO (ga Q ((fS N).toArray) d rfl rfl aD (iH N) nb rfl (λb4 d=>lt (lK ?_)))
 obtain rfl:=sj hm
 exact iX (v:=Q) rfl rfl (fY d.has Mh (fS N) rfl aX aD) (gQ.ri ⟨_,_,_,rfl,(d.hU (Db (Kb Sn))),(k.trans j),(o.trans h),(ST.gp d (gX.mem (Db (Kb Sn)))),a7,rfl,rfl,Y⟩)
set_option maxHeartbeats 4000000 in
theorem vC (a:Nat) (a0:fV) (j:Value) (s:(Int ⊕ (fP×fV))) (w:World) {μ0:gm} (h0:kz μ0 ((a,Ob #[j,(.bool a0.over)] 349)::[]) w) (d1:Sl (Pl (fW .u8)) 1 μ0 j a0.b) (hm:qv a0=some s) :
  gk true pg0 367 [(.pointer (some ⟨a,0,none⟩))] w μ0 ((a,Ob #[j,(.bool a0.over)] 349)::[]) s (λr v L1 μ1=>∃y1,v=(.agg (gb (r.1)).toArray)∧L1=((a,Ob #[y1,(.bool ((r.2).over))] 349)::[])∧Sl (Pl (fW .u8)) 1 μ1 y1 ((r.2).b)) (λx c L1 μ1=>∃y z,c=[{ v:=nu 354 a x,recovered:=false }]∧L1=((a,Ob #[y,z] 349)::[])):=by
 let h2:Value:=(.agg (gb K7).toArray)
 let g5:=((gb K7).toArray:Array Value)
 let b8:=((a,Ob #[j,(.bool a0.over)] 349)::[])
 let a5:Value:=(.pointer (some ⟨a,0,none⟩))
 have d:=ST.me (dd:=true) h0
 refine jQ (n:=55) func367 rfl rfl nb (sg (VE (gy d bO (λW2 b1 d=>lr (Wm (bS hm λo5 k4 hm=>?_))))))
 let g6:Value:=(.pointer (some ⟨b1,0,none⟩))
 rcases o5 with v3 | J
 ·have o:=d.size
  refine jP (.inl rfl) (iB (args:=[a5,(.int .i64 9223372036854775807)]) (caps:=#[]) _ _ d (Cb (Pb Pz) Cn) rfl dD (by exact jG rfl rfl) (λhH L h aa=>(gk.l (gF a a0 j 9223372036854775807 _ _ ⟨hH,L,h⟩ (d1.mono (Pl.mono _) (gf.refl _)) k4))) (λW5 v1 aj p4 d u A av=>?_))
  obtain ⟨v6,v8,m6,rfl⟩:=av
  replace d:=d.perm (Tb Tn)
  refine ib (iU ?_)
  obtain rfl:=sj hm
  exact gQ.li ⟨_,_,_,rfl,(d.hU (Kb Sn)),u,A,(ST.gp d (gX.mem (Kb Sn))),⟨_,_,m6,rfl⟩⟩
 have o:=d.size
 refine VE (eD d (Cb (Pb Pz) Cn) dD (λO=>(gk.r (gF a a0 j 9223372036854775807 _ _ O (d1.mono (Pl.mono _) (gf.refl _)) k4))) ?_)
 rintro W5 v9 aj p4 d u A ⟨b5,d4,rfl,c8⟩
 let h3:=(#[b5,(.bool ((J.2).over))]:Array Value)
 obtain rfl:=d4.symm
 replace d:=d.perm (Tb Tn)
 let f2:=(⟨J.1,K0,zS,K0,K0,zS⟩:fP)
 refine V (ia (v:=(.agg (gb f2).toArray)) (kA rfl) (gG bO bo (uO _ bo) kr)) (VE (gy d bO (λu8 b4 d=>VO (ga (.agg (gb f2).toArray) ((gb f2).toArray) d rfl rfl bj (lp f2) nb rfl (λu9 d=>ln (gq (wu hm (λo3 E W=>∃f0 k3,gf aj f0∧Lo (gL b8) w aj f0∧ST true (gL b8) w W f0 ((b4,Ol (gb f2) 52)::((a,Obj.cells h3 349 (0,0))::((b1,Obj.cells g5 52 (0,0))::k3)))∧E 0=a5∧E 2=g6∧E 3=(.pointer (some ⟨b4,0,none⟩))) (λo3 j7 b7=>?_) ?_)))))))
 ·refine sg (Wf rs (VB d Mh rfl rfl bY (Wi rfl (Wm (LJ j7 (λg0 E W=>∃f4,ST true (gL b8) w W aj ((b4,Ol (gb f2) 52)::((a,Obj.cells h3 349 (0,0))::((b1,Obj.cells g5 52 (0,0))::f4)))∧E 0=a5∧E 2=g6∧E 3=(.pointer (some ⟨b4,0,none⟩))∧E 14=(.bool g0)) 4 ?_ (λg0 Z d2=>?_))))))
  ·rintro t1 E W ⟨f4,d,d3,f6,f7,m3⟩ H
   refine ln (CI H m3 (λi6 H=>?_) (λi6 H=>?_))
   ·refine gn (Wh d3 (bS H λo4 e7 H=>?_))
    rcases o4 with n4 | s2
    ·have o:=d.size
     refine jP (.inl rfl) (iB (args:=[a5,(.int .i64 11)]) (caps:=#[]) _ _ d (Cb (Pb Pz) Cn) rfl cI (by exact jG rfl rfl) (λhH L h aa=>(gk.l (gu a J.2 b5 11 _ _ ⟨hH,L,h⟩ (c8.mono (Pl.mono _) (gf.refl _)) e7))) (λm1 r7 h1 l3 d b2 ai au=>?_))
     obtain ⟨t9,u7,j6,rfl⟩:=au
     replace d:=d.perm (Tb Tn)
     refine ib (iU ?_)
     obtain rfl:=sj H
     replace b7:some (Sum.inl n4)=some s:=b7
     obtain rfl:=sj b7
     exact gQ.li ⟨_,_,_,rfl,(d.hU (Kb Sn)),(u.trans b2),(A.trans ai),(ST.gp d (gX.mem (Kb Sn))),⟨_,_,j6,rfl⟩⟩
    have o:=d.size
    refine VE (eD d (Cb (Pb Pz) Cn) cI (λO=>(gk.r (gu a J.2 b5 11 _ _ O (c8.mono (Pl.mono _) (gf.refl _)) e7))) ?_)
    rintro m1 t0 h1 l3 d b2 ai ⟨c7,rfl⟩
    obtain rfl:=c7.symm
    replace d:=d.perm (Tb Tn)
    refine ln ?_
    obtain rfl:=sj H
    exact ⟨_,rfl,h1,_,b2,ai,(d.fR (Sb (Pb Pz) St)),d3,f6,f7⟩
   refine kn ?_
   obtain rfl:=sj H
   exact ⟨_,rfl,aj,_,(gf.refl _),Lo.refl,(d.fR St),d3,f6,f7⟩
  refine bC Z (λG Z=>?_) (λG Z=>?_)
  ·refine un G (un G (un G (V (gx (cB G) rfl) ?_)))
   obtain rfl:=sj Z
   exact d2 _ _ ⟨_,(d.fR St),rfl,rfl,rfl,rfl⟩
  refine ug G (fZ rs rfl) (ug G (fU rfl (gh d.has Mh rfl bY)) (ug G (iJ rfl rfl rfl) (V (gw (cB G) rfl) ?_)))
  obtain rfl:=sj Z
  exact d2 _ _ ⟨_,(d.fR St),rfl,rfl,rfl,rfl⟩
 rintro ⟨⟩ E W ⟨f0,k3,k,q,d,M,d0,I⟩ b9
 refine sg (Wh M (bS b9 λo2 f8 b9=>?_))
 rcases o2 with v4 | D
 ·have o:=d.size
  refine jP (.inl rfl) (iB (args:=[a5]) (caps:=#[]) _ _ d (Cb (Pb Pz) Cn) rfl ep (by exact lM rfl) (λhH L h aa=>(gk.l (jy a J.2 b5 _ _ ⟨hH,L,h⟩ (c8.mono (Pl.mono _) k) f8))) (λp6 v2 f1 p5 d t p aw=>?_))
  obtain ⟨v7,w0,m7,rfl⟩:=aw
  replace d:=d.perm (Tb Tn)
  refine ib (iU ?_)
  obtain rfl:=sj b9
  exact gQ.li ⟨_,_,_,rfl,(d.hU (Kb Sn)),((u.trans k).trans t),((A.trans q).trans p),(ST.gp d (gX.mem (Kb Sn))),⟨_,_,m7,rfl⟩⟩
 have o:=d.size
 refine VE (eD d (Cb (Pb Pz) Cn) ep (λO=>(gk.r (jy a J.2 b5 _ _ O (c8.mono (Pl.mono _) k) f8))) ?_)
 rintro p6 v5 f1 p5 d t p ⟨a1,d5,rfl,K⟩
 obtain rfl:=d5.symm
 replace d:=d.perm (Tb Tn)
 refine V (fZ rA I) ?_
 replace d:=d.perm (Nb (Pb Pz) Nz)
 refine VO (ga (.agg (fS D.1).toArray) ((gb (⟨J.1,D.1,zS,K0,K0,zS⟩:fP)).toArray) d rfl rfl aD (iH D.1) nb rfl (λv0 d=>ln (gq (wu b9 (λc9 E W=>∃Q b3 f3,gf f1 b3∧Lo (gL b8) w f1 b3∧ST true (gL b8) w W b3 ((b4,Ol (gb c9.1) 52)::((a,Ob #[Q,(.bool c9.2.2)] 349)::((b1,Obj.cells g5 52 (0,0))::f3)))∧E 0=a5∧E 2=g6∧E 3=(.pointer (some ⟨b4,0,none⟩))∧Sl (Pl (fW .u8)) 1 b3 Q c9.2.1) (λc9 g i=>?_) ?_))))
 ·refine sg (V (fZ rs I) (VB d Mh rfl rfl bY (ln (bg (Wi rfl (Wa (ln (CI g rfl (λi2 g=>?_) (λi2 g=>?_)))))))))
  ·refine gn (Wh M (bS g λn6 e1 g=>?_))
   rcases n6 with m8 | d6
   ·have o:=d.size
    refine jP (.inl rfl) (iB (args:=[a5]) (caps:=#[]) _ _ d (Cb (Pb Pz) Cn) rfl eX (by exact lM rfl) (λhH L h aa=>(gk.l (kq a D.2 a1 _ _ ⟨hH,L,h⟩ (K.mono (Pl.mono _) (gf.refl _)) e1))) (λl5 r0 g4 k7 d a7 ae al=>?_))
    obtain ⟨t3,u1,i8,rfl⟩:=al
    replace d:=d.perm (Tb Tn)
    refine lD (ib (iU ?_))
    obtain rfl:=sj g
    replace i:some (Sum.inl m8)=some s:=i
    obtain rfl:=sj i
    exact gQ.li ⟨_,_,_,rfl,(d.hU (Kb Sn)),(((u.trans k).trans t).trans a7),(((A.trans q).trans p).trans ae),(ST.gp d (gX.mem (Kb Sn))),⟨_,_,i8,rfl⟩⟩
   have o:=d.size
   refine VE (eD d (Cb (Pb Pz) Cn) eX (λO=>(gk.r (kq a D.2 a1 _ _ O (K.mono (Pl.mono _) (gf.refl _)) e1))) ?_)
   rintro l5 s4 g4 k7 d a7 ae ⟨o6,c1,rfl,j9⟩
   obtain rfl:=c1.symm
   replace d:=d.perm (Tb Tn)
   refine V (fZ rZ I) ?_
   replace d:=d.perm (Nb (Pb Pz) Nz)
   refine VO (ga (.string d6.1) ((gb (⟨J.1,D.1,d6.1,K0,K0,zS⟩:fP)).toArray) d rfl rfl dm (vx d6.1) nb rfl (λq2 d=>gJ (ig (gj ?_))))
   obtain rfl:=sj g
   exact ⟨_,rfl,o6,g4,_,a7,ae,(d.fR St),M,d0,I,j9⟩
  refine sg (Wi rfl (Wa (ln (CI g rfl (λi3 g=>?_) (λi3 g=>?_)))))
  ·refine gn (Wh M (bS g λn7 e2 g=>?_))
   rcases n7 with m9 | d7
   ·have o:=d.size
    refine jP (.inl rfl) (iB (args:=[a5]) (caps:=#[]) _ _ d (Cb (Pb Pz) Cn) rfl ep (by exact lM rfl) (λhH L h aa=>(gk.l (jy a D.2 a1 _ _ ⟨hH,L,h⟩ (K.mono (Pl.mono _) (gf.refl _)) e2))) (λl6 r1 g7 k8 d a8 af an=>?_))
    obtain ⟨t4,u2,i9,rfl⟩:=an
    replace d:=d.perm (Tb Tn)
    refine lD (ib (iU ?_))
    obtain rfl:=sj g
    replace i:some (Sum.inl m9)=some s:=i
    obtain rfl:=sj i
    exact gQ.li ⟨_,_,_,rfl,(d.hU (Kb Sn)),(((u.trans k).trans t).trans a8),(((A.trans q).trans p).trans af),(ST.gp d (gX.mem (Kb Sn))),⟨_,_,i9,rfl⟩⟩
   have o:=d.size
   refine VE (eD d (Cb (Pb Pz) Cn) ep (λO=>(gk.r (jy a D.2 a1 _ _ O (K.mono (Pl.mono _) (gf.refl _)) e2))) ?_)
   rintro l6 s5 g7 k8 d a8 af ⟨o7,c2,rfl,k0⟩
   obtain rfl:=c2.symm
   replace d:=d.perm (Tb Tn)
   refine V (fZ kb I) ?_
   replace d:=d.perm (Nb (Pb Pz) Nz)
   refine VO (ga (.agg (fS d7.1).toArray) ((gb (⟨J.1,D.1,zS,d7.1,K0,zS⟩:fP)).toArray) d rfl rfl aD (iH d7.1) nb rfl (λq3 d=>gJ (ig (gj ?_))))
   obtain rfl:=sj g
   exact ⟨_,rfl,o7,g7,_,a8,af,(d.fR St),M,d0,I,k0⟩
  refine sg (Wi rfl (Wa (ln (CI g rfl (λi4 g=>?_) (λi4 g=>?_)))))
  ·refine sg (Wh M (bS g λn9 e3 g=>?_))
   rcases n9 with n0 | a2
   ·have o:=d.size
    refine jP (.inl rfl) (iB (args:=[a5]) (caps:=#[]) _ _ d (Cb (Pb Pz) Cn) rfl ep (by exact lM rfl) (λhH L h aa=>(gk.l (jy a D.2 a1 _ _ ⟨hH,L,h⟩ (K.mono (Pl.mono _) (gf.refl _)) e3))) (λl7 r2 p2 k9 d U P ao=>?_))
    obtain ⟨t5,u3,j0,rfl⟩:=ao
    replace d:=d.perm (Tb Tn)
    refine ib (lD (ib (iU ?_)))
    obtain rfl:=sj g
    replace i:some (Sum.inl n0)=some s:=i
    obtain rfl:=sj i
    exact gQ.li ⟨_,_,_,rfl,(d.hU (Kb Sn)),(((u.trans k).trans t).trans U),(((A.trans q).trans p).trans P),(ST.gp d (gX.mem (Kb Sn))),⟨_,_,j0,rfl⟩⟩
   have o:=d.size
   refine VE (eD d (Cb (Pb Pz) Cn) ep (λO=>(gk.r (jy a D.2 a1 _ _ O (K.mono (Pl.mono _) (gf.refl _)) e3))) ?_)
   rintro l7 s6 p2 k9 d U P ⟨g2,c3,rfl,e8⟩
   obtain rfl:=c3.symm
   replace d:=d.perm (Tb Tn)
   refine V (fZ kb I) ?_
   replace d:=d.perm (Nb (Pb Pz) Nz)
   refine VO (ga (.agg (fS a2.1).toArray) ((gb (⟨J.1,D.1,zS,a2.1,K0,zS⟩:fP)).toArray) d rfl rfl aD (iH a2.1) nb rfl (λq4 d=>ln (gn (Wh M (bS g λn8 e4 g=>?_)))))
   rcases n8 with n1 | d8
   ·have o:=d.size
    refine jP (.inl rfl) (iB (args:=[a5]) (caps:=#[]) _ _ d (Cb (Pb Pz) Cn) rfl eX (by exact lM rfl) (λhH L h aa=>(gk.l (kq a a2.2 g2 _ _ ⟨hH,L,h⟩ (e8.mono (Pl.mono _) (gf.refl _)) e4))) (λl8 r4 g8 l0 d a9 ag ap=>?_))
    obtain ⟨t6,u4,j3,rfl⟩:=ap
    replace d:=d.perm (Tb Tn)
    refine lD (ib (iU ?_))
    obtain rfl:=sj g
    replace i:some (Sum.inl n1)=some s:=i
    obtain rfl:=sj i
    exact gQ.li ⟨_,_,_,rfl,(d.hU (Kb Sn)),((((u.trans k).trans t).trans U).trans a9),((((A.trans q).trans p).trans P).trans ag),(ST.gp d (gX.mem (Kb Sn))),⟨_,_,j3,rfl⟩⟩
   have o:=d.size
   refine VE (eD d (Cb (Pb Pz) Cn) eX (λO=>(gk.r (kq a a2.2 g2 _ _ O (e8.mono (Pl.mono _) (gf.refl _)) e4))) ?_)
   rintro l8 s7 g8 l0 d a9 ag ⟨o8,c4,rfl,k1⟩
   obtain rfl:=c4.symm
   replace d:=d.perm (Tb Tn)
   refine V (fZ sh I) ?_
   replace d:=d.perm (Nb (Pb Pz) Nz)
   refine VO (ga (.string d8.1) ((gb (⟨J.1,D.1,zS,a2.1,K0,d8.1⟩:fP)).toArray) d rfl rfl dm (vx d8.1) nb rfl (λq5 d=>gJ (ig (gj ?_))))
   obtain rfl:=sj g
   exact ⟨_,rfl,o8,g8,_,(U.trans a9),(P.trans ag),(d.fR St),M,d0,I,k1⟩
  refine sg (Wi rfl (Wa (ln (CI g rfl (λi5 g=>?_) (λi5 g=>?_)))))
  ·refine sg (Wh M (bS g λo1 e5 g=>?_))
   rcases o1 with n2 | a3
   ·have o:=d.size
    refine jP (.inl rfl) (iB (args:=[a5]) (caps:=#[]) _ _ d (Cb (Pb Pz) Cn) rfl ep (by exact lM rfl) (λhH L h aa=>(gk.l (jy a D.2 a1 _ _ ⟨hH,L,h⟩ (K.mono (Pl.mono _) (gf.refl _)) e5))) (λl9 r5 p3 l1 d Y R aq=>?_))
    obtain ⟨t7,u5,j4,rfl⟩:=aq
    replace d:=d.perm (Tb Tn)
    refine ib (lD (ib (iU ?_)))
    obtain rfl:=sj g
    replace i:some (Sum.inl n2)=some s:=i
    obtain rfl:=sj i
    exact gQ.li ⟨_,_,_,rfl,(d.hU (Kb Sn)),(((u.trans k).trans t).trans Y),(((A.trans q).trans p).trans R),(ST.gp d (gX.mem (Kb Sn))),⟨_,_,j4,rfl⟩⟩
   have o:=d.size
   refine VE (eD d (Cb (Pb Pz) Cn) ep (λO=>(gk.r (jy a D.2 a1 _ _ O (K.mono (Pl.mono _) (gf.refl _)) e5))) ?_)
   rintro l9 s8 p3 l1 d Y R ⟨g3,c5,rfl,e9⟩
   obtain rfl:=c5.symm
   replace d:=d.perm (Tb Tn)
   refine V (fZ kb I) ?_
   replace d:=d.perm (Nb (Pb Pz) Nz)
   refine VO (ga (.agg (fS a3.1).toArray) ((gb (⟨J.1,D.1,zS,a3.1,K0,zS⟩:fP)).toArray) d rfl rfl aD (iH a3.1) nb rfl (λq6 d=>ln (gn (Wh M (bS g λo0 e6 g=>?_)))))
   rcases o0 with n3 | d9
   ·have o:=d.size
    refine jP (.inl rfl) (iB (args:=[a5]) (caps:=#[]) _ _ d (Cb (Pb Pz) Cn) rfl ep (by exact lM rfl) (λhH L h aa=>(gk.l (jy a a3.2 g3 _ _ ⟨hH,L,h⟩ (e9.mono (Pl.mono _) (gf.refl _)) e6))) (λm0 r6 g9 l2 d b0 ah ar=>?_))
    obtain ⟨t8,u6,j5,rfl⟩:=ar
    replace d:=d.perm (Tb Tn)
    refine lD (ib (iU ?_))
    obtain rfl:=sj g
    replace i:some (Sum.inl n3)=some s:=i
    obtain rfl:=sj i
    exact gQ.li ⟨_,_,_,rfl,(d.hU (Kb Sn)),((((u.trans k).trans t).trans Y).trans b0),((((A.trans q).trans p).trans R).trans ah),(ST.gp d (gX.mem (Kb Sn))),⟨_,_,j5,rfl⟩⟩
   have o:=d.size
   refine VE (eD d (Cb (Pb Pz) Cn) ep (λO=>(gk.r (jy a a3.2 g3 _ _ O (e9.mono (Pl.mono _) (gf.refl _)) e6))) ?_)
   rintro m0 s9 g9 l2 d b0 ah ⟨o9,c6,rfl,k2⟩
   obtain rfl:=c6.symm
   replace d:=d.perm (Tb Tn)
   refine V (fZ qh I) ?_
   replace d:=d.perm (Nb (Pb Pz) Nz)
   refine VO (ga (.agg (fS d9.1).toArray) ((gb (⟨J.1,D.1,zS,a3.1,d9.1,zS⟩:fP)).toArray) d rfl rfl aD (iH d9.1) nb rfl (λq7 d=>gJ (ig (gj ?_))))
   obtain rfl:=sj g
   exact ⟨_,rfl,o9,g9,_,(Y.trans b0),(R.trans ah),(d.fR St),M,d0,I,k2⟩
  refine iD (ig (gj ?_))
  obtain rfl:=sj g
  exact ⟨_,rfl,a1,f1,_,(gf.refl _),Lo.refl,(d.fR St),M,d0,I,K⟩
 rintro ⟨N,f9,g1⟩ E W ⟨Q,b3,f3,a6,ab,d,m2,b6,f5,a4⟩ B
 refine gq (sg (V (fU f5 (fY d.has Mh (gb N) rfl ca bj)) (bS B λs0 j8 B=>VE (Eg d call144 (oU N _ _  j8) (λp9 d=>V (kj rfl) (ln (CI B rfl (λi1 B=>?_) (λi1 B=>?_))))))))
 ·refine sg (Wh m2 (bS B λn5 e0 B=>?_))
  rcases n5 with r9 | s1
  ·have o:=d.size
   refine jP (.inl rfl) (iB (args:=[a5,(.int .i64 11)]) (caps:=#[]) _ _ d (Cb (Pb Pz) Cn) rfl cI (by exact jG rfl rfl) (λhH L h aa=>(gk.l (gu a (⟨f9,g1⟩:fV) Q 11 _ _ ⟨hH,L,h⟩ (a4.mono (Pl.mono _) (gf.refl _)) e0))) (λl4 q9 p1 k6 d T ad ak=>?_))
   obtain ⟨t2,u0,i7,rfl⟩:=ak
   replace d:=d.perm (Tb Tn)
   refine ib (ib (iU ?_))
   obtain rfl:=sj B
   exact gQ.li ⟨_,_,_,rfl,(d.hU (Kb Sn)),((((u.trans k).trans t).trans a6).trans T),((((A.trans q).trans p).trans ab).trans ad),(ST.gp d (gX.mem (Kb Sn))),⟨_,_,i7,rfl⟩⟩
  have o:=d.size
  refine VE (eD d (Cb (Pb Pz) Cn) cI (λO=>(gk.r (gu a (⟨f9,g1⟩:fV) Q 11 _ _ O (a4.mono (Pl.mono _) (gf.refl _)) e0))) ?_)
  rintro l4 s3 p1 k6 d T ad ⟨c0,rfl⟩
  obtain rfl:=c0.symm
  replace d:=d.perm (Tb Tn)
  refine ln ?_
  replace d:=d.fR (Kb (Db St))
  refine sg (V (ia (v:=h2) lb (gG bO bo (uO _ bo) kr)) ?_)
  replace d:=d.perm (Nb (Pb Pz) Nz)
  refine VO (ga h2 ((gb K7).toArray) d b6 rfl bj (lp K7) nb rfl (λq0 d=>lt (gN (lK ?_))))
  obtain rfl:=sj B
  exact iX (v:=h2) rfl b6 (fY d.has Mh (gb K7) rfl ca bj) (gQ.ri ⟨_,_,_,rfl,(d.hU (Db (Kb Sn))),((((u.trans k).trans t).trans a6).trans T),((((A.trans q).trans p).trans ab).trans ad),(ST.gp d (gX.mem (Db (Kb Sn)))),Q,rfl,rfl,(a4.mono (Pl.mono _) T)⟩)
 refine kg (V (fU f5 (fY d.has Mh (gb N) rfl ca bj)) ?_)
 replace d:=d.perm (Nb (Pb (Pb Pz)) Nz)
 refine VO (ga (.agg (gb N).toArray) ((gb N).toArray) d b6 rfl bj (lp N) nb rfl (λq1 d=>ln ?_))
 replace d:=d.fR (Kb (Db St))
 refine gC (lK ?_)
 obtain rfl:=sj B
 exact iX (v:=(.agg (gb N).toArray)) rfl b6 (fY d.has Mh (gb N) rfl ca bj) (gQ.ri ⟨_,_,_,rfl,(d.hU (Db (Kb Sn))),(((u.trans k).trans t).trans a6),(((A.trans q).trans p).trans ab),(ST.gp d (gX.mem (Db (Kb Sn)))),Q,rfl,rfl,a4⟩)
theorem vL (g:Nat) (Q:fV) (i:Value) (s:(Int ⊕ (Signed×fV))) (w:World) {μ0:gm} (h0:kz μ0 ((g,Ob #[i,(.bool Q.over)] 349)::[]) w) (H:Sl (Pl (fW .u8)) 1 μ0 i Q.b) (hm:qw Q=some s) :
  gk true pg0 336 [(.pointer (some ⟨g,0,none⟩))] w μ0 ((g,Ob #[i,(.bool Q.over)] 349)::[]) s (λr v L1 μ1=>∃y1 y3,v=(.agg #[(.int .i64 (((r.1).fP).Kind)),(.string ((((r.1).fP).Head).fX)),(.string ((((r.1).fP).Head).Word)),(.string (((r.1).fP).ir)),(.string ((((r.1).fP).B).fX)),(.string ((((r.1).fP).B).Word)),(.string ((((r.1).fP).C).fX)),(.string ((((r.1).fP).C).Word)),(.string (((r.1).fP).gT)),y1])∧L1=((g,Ob #[y3,(.bool ((r.2).over))] 349)::[])∧Sl (Pl (fW .u8)) 1 μ1 y1 ((r.1).Tag)∧Sl (Pl (fW .u8)) 1 μ1 y3 ((r.2).b)) (λx c L1 μ1=>∃y z,c=[{ v:=nu 354 g x,recovered:=false }]∧L1=((g,Ob #[y,z] 349)::[])):=by
 let a2:Value:=(.pointer (some ⟨g,0,none⟩))
 have d:=ST.me (dd:=true) h0
 refine jQ (n:=18) func336 rfl rfl nb (sg (VE (gy d cW (λW2 b1 d=>lr (Wm (bS hm λc1 Z hm=>?_))))))
 rcases c1 with d7 | a
 ·have A:=d.size
  refine jP (.inl rfl) (iB (args:=[a2]) (caps:=#[]) _ _ d (Cb (Pb Pz) Cn) rfl call367 (by exact lM rfl) (λhH L q aa=>(gk.l (vC g Q i _ _ ⟨hH,L,q⟩ (H.mono (Pl.mono _) (gf.refl _)) Z))) (λW5 d4 ab b3 d t o O=>?_))
  obtain ⟨e3,e7,a7,rfl⟩:=O
  replace d:=d.perm (Tb Tn)
  refine ib (iU ?_)
  obtain rfl:=sj hm
  exact gQ.li ⟨_,_,_,rfl,(d.hU (Kb Sn)),t,o,(ST.gp d (gX.mem (Kb Sn))),⟨_,_,a7,rfl⟩⟩
 have A:=d.size
 refine VE (eD d (Cb (Pb Pz) Cn) call367 (λW=>(gk.r (vC g Q i _ _ W (H.mono (Pl.mono _) (gf.refl _)) Z))) ?_)
 rintro W5 v9 ab b3 d t o ⟨a1,I,rfl,Y⟩
 obtain rfl:=I.symm
 replace d:=d.perm (Tb Tn)
 refine VE (gy d bO (λc9 d3 d=>VO (ga (.agg (gb a.1).toArray) ((gb a.1).toArray) d rfl rfl bj (lp a.1) nb rfl (λd0 d=>lr (Wm (bS hm λc0 T hm=>?_))))))
 rcases c0 with d8 | k
 ·have A:=d.size
  refine jP (.inl rfl) (iB (args:=[a2,(.int .i64 8)]) (caps:=#[]) _ _ d (Cb (Pb Pz) Cn) rfl call278 (by exact jG rfl rfl) (λhH L q aa=>(gk.l (jX g a.2 a1 8 _ _ ⟨hH,L,q⟩ (Y.mono (Pl.mono _) (gf.refl _)) T))) (λb6 d5 c4 b4 d j h P=>?_))
  obtain ⟨e5,e8,a8,rfl⟩:=P
  replace d:=d.perm (Tb Tn)
  refine ib (iU ?_)
  obtain rfl:=sj hm
  exact gQ.li ⟨_,_,_,rfl,(d.hU (Kb Sn)),(t.trans j),(o.trans h),(ST.gp d (gX.mem (Kb Sn))),⟨_,_,a8,rfl⟩⟩
 have A:=d.size
 refine VE (eD d (Cb (Pb Pz) Cn) call278 (λW=>(gk.r (jX g a.2 a1 8 _ _ W (Y.mono (Pl.mono _) (gf.refl _)) T))) ?_)
 rintro b6 e1 c4 b4 d j h ⟨e4,N,J,rfl,M,G⟩
 obtain rfl:=J.symm
 replace d:=d.perm (Tb Tn)
 refine Wa (lS (Wm (V (iI aG rfl M) (Wi rfl (ln (CI hm rfl (λa6 hm=>?_) (λa6 hm=>?_)))))))
 ·refine sg (Wm (bS hm λb9 U hm=>?_))
  rcases b9 with d9 | e0
  ·have A:=d.size
   refine jP (.inl rfl) (iB (args:=[a2,(.int .i64 11)]) (caps:=#[]) _ _ d (Cb Pz Cn) rfl cI (by exact jG rfl rfl) (λhH L q aa=>(gk.l (gu g k.2 N 11 _ _ ⟨hH,L,q⟩ (G.mono (Pl.mono _) (gf.refl _)) U))) (λb7 d6 c5 b5 d u p R=>?_))
   obtain ⟨e6,e9,a9,rfl⟩:=R
   replace d:=d.perm (Tb Tn)
   refine ib (ib (iU ?_))
   obtain rfl:=sj hm
   exact gQ.li ⟨_,_,_,rfl,(d.hU (Kb Sn)),((t.trans j).trans u),((o.trans h).trans p),(ST.gp d (gX.mem (Kb Sn))),⟨_,_,a9,rfl⟩⟩
  have A:=d.size
  refine VE (eD d (Cb Pz Cn) cI (λW=>(gk.r (gu g k.2 N 11 _ _ W (G.mono (Pl.mono _) (gf.refl _)) U))) ?_)
  rintro b7 e2 c5 b5 d u p ⟨K,rfl⟩
  obtain rfl:=K.symm
  replace d:=d.perm (Tb Tn)
  refine ln ?_
  replace d:=d.fR (Kb (Db St))
  refine sg (V (ia (v:=(.agg C4.toArray)) lb (gG cW dr (ES _ dr) kr)) ?_)
  replace d:=d.perm (Nb (Pb Pz) Nz)
  refine VO (ga (.agg C4.toArray) (C4.toArray) d rfl rfl bR oc nb rfl (λd1 d=>lt (gN (lK ?_))))
  obtain rfl:=sj hm
  exact iX (v:=(.agg C4.toArray)) rfl rfl (fY d.has Mh C4 rfl eG bR) (gQ.ri ⟨_,_,_,rfl,(d.hU (Db (Kb Sn))),((t.trans j).trans u),((o.trans h).trans p),(ST.gp d (gX.mem (Db (Kb Sn)))),(.slice none 0 0),N,rfl,rfl,(Sl.nil _ _ _),(G.mono (Pl.mono _) u)⟩)
 refine kg (VA d (Mt Mh) (gb a.1) ca bj (Wm ?_))
 obtain ⟨B,D,rfl⟩:=M.form
 let a0:=(C1 a.1.Kind a.1.Head.fX a.1.Head.Word a.1.ir a.1.B.fX a.1.B.Word a.1.C.fX a.1.C.Word a.1.gT B k.1.length D)
 refine V (ia (v:=(.agg a0.toArray)) (mY rfl rfl) (gG cW dr (ES _ dr) kr)) ?_
 replace d:=d.perm (Nb (Pb (Pb Pz)) Nz)
 refine VO (ga (.agg a0.toArray) (a0.toArray) d rfl rfl bR oc nb rfl (λd2 d=>ln ?_))
 replace d:=d.fR (Kb (Kb (Db St)))
 refine gC (lK ?_)
 obtain rfl:=sj hm
 exact iX (v:=(.agg a0.toArray)) rfl rfl (fY d.has Mh a0 rfl eG bR) (gQ.ri ⟨_,_,_,rfl,(d.hU (Db (Kb Sn))),(t.trans j),(o.trans h),(ST.gp d (gX.mem (Db (Kb Sn)))),(.slice B k.1.length D),N,rfl,rfl,M,G⟩)
end Go.Proofs.YtjjjihkifgdhgaaGreatDoor
