/- a part of a proof of ChangeTells -/
import Derived.Test.YtjjjihkifgdhgaaGreatDoorDM7Mn
import Derived.Test.YtjjjihkifgdhgaaGreatDoorProg
set_option linter.all false
namespace Go.Proofs.YtjjjihkifgdhgaaGreatDoor
open Go.IntKind renaming wrap → wi0
open Go.Proofs.Tryz renaming prog → pg0
open Go.RowKit
set_option maxRecDepth 10000
open Tryz
def aG:=@sizeOf30
def aH:=@underlying28
def aP:=@sizeOf27
def aR:=@sizeOf52
def aX:=@underlying45
def aZ:=@isAgg30
def bG:=@zeroValue30
def bI:=@isAgg27
def bN:=@underlying9
def bT:=@isAgg9
def bV:=@sizeOf193
def bX:=@isAgg3
def bZ:=@underlying122
def cA:=@isAgg52
def cC:=@underlying53
def cD:=@sizeOf132
def cH:=@underlying23
def cN:=@underlying30
def cO:=@sizeOf57
def cS:=@underlying22
def cV:=@sizeOf25
def dH:=@underlying3
def dJ:=@isAgg25
def dQ:=@sizeOf34
def dT:=@zeroValue52
def dU:=@underlying5
def dX:=@underlying271
def eA:=@underlying129
def eF:=@underlying32
def eV:=@underlying27
def eW:=@underlying52
def eX:=@underlying65
def eZ:=@isAgg28
def fB:=@isAgg132
def fD:=@isAgg34
def fG:=@sizeOf197
def fI:=@eqGuardType27
def fK:=@underlying34
def fL:=@zeroValue57
def fN:=@underlying193
def fO:=@underlying197
def fP:=@isAgg57
def fQ:=@zeroValue132
def fR:=@zeroValue27
def fT:=@sizeOf119
def fW:=@isAgg193
def fY:=@sizeOf9
def gk:=@underlying246
def gm:=@eqGuardType52
def gI:=@isAgg53
def gJ:=@underlying116
def gL:=@isAgg22
def gS:=@sizeOf3
def gT:=@underlying25
def ie:=@isAgg23
def iw:=@underlying57
def iy:=@zeroValue193
def iz:=@zeroValue197
def iA:=@zeroValue116
def iF:=@underlying215
def iG:=@underlying213
def iP:=@call50
def iQ:=@isAgg32
def iZ:=@isAgg45
def ja:=@underlying242
def jb:=@underlying226
def jh:=@underlying31
def ji:=@underlying55
def jj:=@underlying91
def jk:=@sizeOf116
def js:=@sizeOf53
def jt:=@zeroValue5
def jD:=@zeroValue34
def jH:=@underlying285
def jI:=@underlying224
def jJ:=@underlying114
def jK:=@underlying247
def jR:=@sizeOf55
def jU:=@call206
def jV:=@zeroValue247
def jW:=@underlying66
def kl:=@isAgg124
def km:=@isAgg133
def ko:=@zeroValue55
def kv:=@sizeOf5
def kw:=@call129
def kx:=@sizeOf285
abbrev K0:kz:=⟨zS,zS⟩
abbrev K1:ByteArray:=⟨#[103,111,118]⟩
abbrev K2:ByteArray:=⟨#[105,100]⟩
abbrev K3:ByteArray:=⟨#[97,110,110]⟩
abbrev K4:ByteArray:=⟨#[115,104,111,112]⟩
abbrev K5:ByteArray:=⟨#[45]⟩
abbrev K6:ByteArray:=⟨#[42]⟩
abbrev K7:ByteArray:=⟨#[43]⟩
abbrev K9:sH:=⟨0,0⟩
abbrev QT:ByteArray:=⟨#[112,108,97,110]⟩
abbrev QW:ByteArray:=⟨#[114,111,111,109,115]⟩
abbrev QS:ByteArray:=⟨#[116,105,109,101,111,117,116]⟩
abbrev Q8:ByteArray:=⟨#[116,114,105,101,115]⟩
abbrev QL:ByteArray:=⟨#[98,117,100,103,101,116]⟩
abbrev TW:mc:=⟨0⟩
abbrev CU:kz:=⟨K1,K2⟩
abbrev TS:lZ:=⟨K4,[],[]⟩
abbrev SA:lZ:=⟨K3,[],[]⟩
abbrev UF:Formula:=⟨2,0,K0,[]⟩
abbrev R5:kC:=⟨0,K0,zS,K0,K0,zS⟩
abbrev MY:kC:=⟨1,CU,K3,K0,K0,zS⟩
abbrev T6:Formula:=⟨1,0,CU,[]⟩
abbrev MP:nA:=⟨TS,SA,T6,0,K9,0,0,0,[]⟩
abbrev C1 (O:ByteArray) (P:Option Addr) (Q R:Nat) (T:Option Addr) (U W:Nat) (Y:ByteArray) (Z:Option Addr) (p9 d:Nat) (i:Option Addr) (j n:Nat) (p q:Int) (r s:ByteArray) (u:Option Addr) (v w:Nat) (x z A E G I:Int) (J:Option Addr) (L M:Nat):List Value:=[(.string O),(.slice P Q R),(.slice T U W),(.string Y),(.slice Z p9 d),(.slice i j n),(.int .i64 p),(.int .i64 q),(.string r),(.string s),(.slice u v w),(.int .i64 x),(.int .i64 z),(.int .i64 A),(.int .i64 E),(.int .i64 G),(.int .i64 I),(.slice J L M)]
abbrev C2 (d i:Int) (j n:ByteArray) (p:Option Addr) (q r:Nat):List Value:=[(.int .i64 d),(.int .i64 i),(.string j),(.string n),(.slice p q r)]
abbrev C3 (v:Int) (w x z A E G I J:ByteArray) (L:Option Addr) (d i:Nat) (j n:Int) (p q:ByteArray) (r:Option Addr) (s u:Nat):List Value:=[(.int .i64 v),(.string w),(.string x),(.string z),(.string A),(.string E),(.string G),(.string I),(.string J),(.slice L d i),(.int .i64 j),(.int .i64 n),(.string p),(.string q),(.slice r s u)]
abbrev C4 (d:ByteArray) (i:Option Addr) (j n:Nat) (p:Option Addr) (q r:Nat):List Value:=[(.string d),(.slice i j n),(.slice p q r)]
abbrev C5 (j n:ByteArray) (p q:Int) (r s:ByteArray) (u:Option Addr) (v w:Nat) (x:Option Addr) (d i:Nat):List Value:=[(.string j),(.string n),(.int .i64 p),(.int .i64 q),(.string r),(.string s),(.slice u v w),(.slice x d i)]
abbrev C6:List Value:=[(.string K4),(.slice none 0 0),(.slice none 0 0),(.string K3),(.slice none 0 0),(.slice none 0 0),(.int .i64 1),(.int .i64 0),(.string (CU.kA)),(.string (CU.Word)),(.slice none 0 0),(.int .i64 0),(.int .i64 0),(.int .i64 0),(.int .i64 0),(.int .i64 0),(.int .i64 0),(.slice none 0 0)]
abbrev C7 (d:Option Addr) (i j:Nat):List Value:=[(.int .i64 1),(.string (CU.kA)),(.string (CU.Word)),(.string K3),(.string (K0.kA)),(.string (K0.Word)),(.string (K0.kA)),(.string (K0.Word)),(.string zS),(.slice d i j),(.int .i64 2),(.int .i64 0),(.string zS),(.string zS),(.slice none 0 0)]
abbrev C8 (d:Nat):List Value:=[(.string K4),(.slice none 0 0),(.slice none 0 0),(.string K3),(.slice (some ⟨d,0,none⟩) 1 1),(.slice none 0 0),(.int .i64 1),(.int .i64 0),(.string (CU.kA)),(.string (CU.Word)),(.slice none 0 0),(.int .i64 0),(.int .i64 0),(.int .i64 0),(.int .i64 0),(.int .i64 0),(.int .i64 0),(.slice none 0 0)]
abbrev C9:List Value:=[(.int .i64 0),(.int .i64 0),(.string zS),(.string zS),(.slice none 0 0)]
abbrev Pq (j:Int) (n p q r s u v w:ByteArray) (x:Option Addr) (d i:Nat):List Value:=[(.int .i64 j),(.string n),(.string p),(.string q),(.string r),(.string s),(.string u),(.string v),(.string w),(.slice x d i)]
abbrev OZ:List Value:=[(.int .i64 0),(.string (K0.kA)),(.string (K0.Word)),(.string zS),(.string (K0.kA)),(.string (K0.Word)),(.string (K0.kA)),(.string (K0.Word)),(.string zS),(.slice none 0 0),(.int .i64 0),(.int .i64 0),(.string zS),(.string zS),(.slice none 0 0)]
abbrev MM:List Value:=[(.int .i64 2),(.int .i64 0),(.string zS),(.string zS),(.slice none 0 0)]
abbrev R4 (d:Int):List Value:=[(.int .i64 d),(.int .i64 0),(.string zS),(.string zS),(.slice none 0 0)]
abbrev ON:List Value:=[(.int .i64 3),(.int .i64 0),(.string zS),(.string zS),(.slice none 0 0)]
theorem lj:Tryz.prog.follows .mixedOrders=true:=by rfl
theorem Tz:Tryz.prog.info? 3=some Tryz.t3∧Tryz.t3.zero=some (.int .i64 0)∧Tryz.t3.size=1∧Tryz.t3.bytes=8:=⟨by kernel_rfl,by kernel_rfl,by kernel_rfl,by kernel_rfl⟩
theorem ue:Tryz.prog.info? 5=some Tryz.t5∧Tryz.t5.zero=some (.int .u8 0)∧Tryz.t5.size=1∧Tryz.t5.bytes=1:=⟨by kernel_rfl,by kernel_rfl,by kernel_rfl,by kernel_rfl⟩
theorem IC:Tryz.prog.info? 9=some Tryz.t9∧Tryz.t9.zero=some (.string ⟨#[]⟩)∧Tryz.t9.size=1∧Tryz.t9.bytes=16:=⟨by kernel_rfl,by kernel_rfl,by kernel_rfl,by kernel_rfl⟩
theorem Bp:Tryz.prog.info? 27=some Tryz.t27∧Tryz.t27.zero=some (.agg #[(.string ⟨#[]⟩),(.string ⟨#[]⟩)])∧Tryz.t27.size=2∧Tryz.t27.bytes=32:=⟨by kernel_rfl,by kernel_rfl,by kernel_rfl,by kernel_rfl⟩
theorem qF:Tryz.prog.info? 30=some Tryz.t30∧Tryz.t30.zero=some (.agg #[(.int .i64 0),(.int .i64 0),(.string ⟨#[]⟩),(.string ⟨#[]⟩),(.slice none 0 0)])∧Tryz.t30.size=5∧Tryz.t30.bytes=72:=⟨by kernel_rfl,by kernel_rfl,by kernel_rfl,by kernel_rfl⟩
theorem qG:Tryz.prog.info? 52=some Tryz.t52∧Tryz.t52.zero=some (.agg #[(.int .i64 0),(.string ⟨#[]⟩),(.string ⟨#[]⟩),(.string ⟨#[]⟩),(.string ⟨#[]⟩),(.string ⟨#[]⟩),(.string ⟨#[]⟩),(.string ⟨#[]⟩),(.string ⟨#[]⟩)])∧Tryz.t52.size=9∧Tryz.t52.bytes=136:=⟨by kernel_rfl,by kernel_rfl,by kernel_rfl,by kernel_rfl⟩
theorem Bu:Tryz.prog.info? 57=some Tryz.t57∧Tryz.t57.zero=some (.agg #[(.int .i64 0),(.string ⟨#[]⟩),(.string ⟨#[]⟩),(.string ⟨#[]⟩),(.string ⟨#[]⟩),(.string ⟨#[]⟩),(.string ⟨#[]⟩),(.string ⟨#[]⟩),(.string ⟨#[]⟩),(.slice none 0 0),(.int .i64 0),(.int .i64 0),(.string ⟨#[]⟩),(.string ⟨#[]⟩),(.slice none 0 0)])∧Tryz.t57.size=15∧Tryz.t57.bytes=232:=⟨by kernel_rfl,by kernel_rfl,by kernel_rfl,by kernel_rfl⟩
theorem vw:Tryz.prog.info? 132=some Tryz.t132∧Tryz.t132.zero=some (.agg #[(.string ⟨#[]⟩),(.string ⟨#[]⟩),(.int .i64 0),(.int .i64 0),(.string ⟨#[]⟩),(.string ⟨#[]⟩),(.slice none 0 0),(.slice none 0 0)])∧Tryz.t132.size=8∧Tryz.t132.bytes=128:=⟨by kernel_rfl,by kernel_rfl,by kernel_rfl,by kernel_rfl⟩
theorem vz:Tryz.prog.info? 193=some Tryz.t193∧Tryz.t193.zero=some (.agg #[(.int .i64 0),(.string ⟨#[]⟩),(.string ⟨#[]⟩),(.string ⟨#[]⟩),(.string ⟨#[]⟩),(.string ⟨#[]⟩),(.string ⟨#[]⟩),(.string ⟨#[]⟩),(.string ⟨#[]⟩),(.string ⟨#[]⟩),(.string ⟨#[]⟩)])∧Tryz.t193.size=11∧Tryz.t193.bytes=168:=⟨by kernel_rfl,by kernel_rfl,by kernel_rfl,by kernel_rfl⟩
theorem vu:Tryz.prog.info? 197=some Tryz.t197∧Tryz.t197.zero=some (.agg #[(.string ⟨#[]⟩),(.string ⟨#[]⟩),(.string ⟨#[]⟩),(.string ⟨#[]⟩)])∧Tryz.t197.size=4∧Tryz.t197.bytes=64:=⟨by kernel_rfl,by kernel_rfl,by kernel_rfl,by kernel_rfl⟩
theorem Gu:Tryz.prog.info? 285=some Tryz.t285∧Tryz.t285.zero=some (.agg #[(.string ⟨#[]⟩),(.string ⟨#[]⟩),(.string ⟨#[]⟩)])∧Tryz.t285.size=3∧Tryz.t285.bytes=48:=⟨by kernel_rfl,by kernel_rfl,by kernel_rfl,by kernel_rfl⟩
theorem qR:mF pg0 27 0 0:=lW eV rfl fY (by decide) rfl
theorem sU:mF pg0 27 1 1:=lW eV rfl fY (by decide) rfl
theorem Qi:(Tryz.prog.fieldsOf 27).toList=(match Tryz.prog.underlying 27 with | some (.struct fs)=>fs.toList | _=>[]):=by rw [eV]; simp [Program.fieldsOf,eV]
theorem rD (d:Nat) (x y:kz) (W:World):(Op.equalIn (d+2) 27 (.agg (kN x).toArray) (.agg (kN y).toArray)).run pg0 W= .ok (lq x y) W:=by
 rw [run_equalIn_struct W (d+1) 27 _ _ (by kernel_rfl) Tryz.stoodInHeld27,Qi,eV]
 exact (sO (by decide) (pV bT rfl) (pV bT rfl) (ML bN _ _ _ _) (sO (by decide) (pV bT rfl) (pV bT rfl) (ML bN _ _ _ _) (FN _ _ _)))
theorem PE:∀fs,Tryz.prog.underlying 27=some (.struct fs)→∀w,(fs.mapM (λ(f:Field)=>do pure (f.offset,←sizeOf f.type)):Sem (Array (Nat×Nat))).run pg0 w= .ok #[(0,1),(1,1)] w:=by
 intro fs h w
 rw [eV] at h
 cases h
 kernel_rfl
theorem rY:mF pg0 52 0 0:=lW eW rfl gS (by decide) rfl
theorem vF:mF pg0 52 1 1:=lW eW rfl aP (by decide) rfl
theorem xL:mF pg0 52 2 3:=lW eW rfl fY (by decide) rfl
theorem qq:mF pg0 52 3 4:=lW eW rfl aP (by decide) rfl
theorem uR:mF pg0 52 4 6:=lW eW rfl aP (by decide) rfl
theorem wW:mF pg0 52 5 8:=lW eW rfl fY (by decide) rfl
theorem QH:(Tryz.prog.fieldsOf 52).toList=(match Tryz.prog.underlying 52 with | some (.struct fs)=>fs.toList | _=>[]):=by rw [eW]; simp [Program.fieldsOf,eW]
theorem wJ (d:Nat) (x y:kC) (W:World):(Op.equalIn (d+3) 52 (.agg (kI x).toArray) (.agg (kI y).toArray)).run pg0 W= .ok (lL x y) W:=by
 rw [run_equalIn_struct W (d+2) 52 _ _ (by kernel_rfl) Tryz.stoodInHeld52,QH,eW]
 exact (sO (by decide) (pV bX rfl) (pV bX rfl) (SB dH _ _ _ _) (sO (by decide) (AO bI aP rfl) (AO bI aP rfl) (rD _ x.Head y.Head W) (sO (by decide) (pV bT rfl) (pV bT rfl) (ML bN _ _ _ _) (sO (by decide) (AO bI aP rfl) (AO bI aP rfl) (rD _ x.B y.B W) (sO (by decide) (AO bI aP rfl) (AO bI aP rfl) (rD _ x.C y.C W) (sO (by decide) (pV bT rfl) (pV bT rfl) (ML bN _ _ _ _) (FN _ _ _)))))))
theorem Tj:∀fs,Tryz.prog.underlying 52=some (.struct fs)→∀w,(fs.mapM (λ(f:Field)=>do pure (f.offset,←sizeOf f.type)):Sem (Array (Nat×Nat))).run pg0 w= .ok #[(0,1),(1,2),(3,1),(4,2),(6,2),(8,1)] w:=by
 intro fs h w
 rw [eW] at h
 cases h
 kernel_rfl
theorem Ru:Tryz.prog.cellsOf 3=1:=by kernel_rfl
theorem Mj (d:Nat) (x y:sH) (W:World):(Op.equalIn (d+2) 31 (.agg (wH x).toArray) (.agg (wH y).toArray)).run pg0 W= .ok (zM x y) W :=
 H4 jh Tz.1 Ru (Ah (pV bX rfl) (pV bX rfl) (SB dH _ _ _ _) (Ah (pV bX rfl) (pV bX rfl) (SB dH _ _ _ _) (Hh _ _ _ _ _)))
theorem Rj:Tryz.prog.cellsOf 9=1:=by kernel_rfl
theorem GY (d:Nat) (x y:mI) (W:World):(Op.equalIn (d+2) 116 (.agg (nT x).toArray) (.agg (nT y).toArray)).run pg0 W= .ok (wK x y) W :=
 H4 gJ IC.1 Rj (Ah (pV bT rfl) (pV bT rfl) (ML bN _ _ _ _) (Ah (pV bT rfl) (pV bT rfl) (ML bN _ _ _ _) (Hh _ _ _ _ _)))
theorem M4:mF pg0 193 0 0:=lW fN rfl aR (by decide) rfl
theorem Rw:mF pg0 193 1 9:=lW fN rfl fY (by decide) rfl
theorem RI:mF pg0 193 2 10:=lW fN rfl fY (by decide) rfl
theorem N6:∀fs,Tryz.prog.underlying 193=some (.struct fs)→∀w,(fs.mapM (λ(f:Field)=>do pure (f.offset,←sizeOf f.type)):Sem (Array (Nat×Nat))).run pg0 w= .ok #[(0,9),(9,1),(10,1)] w:=by
 intro fs h w
 rw [fN] at h
 cases h
 kernel_rfl
theorem Mq:mF pg0 197 0 0:=lW fO rfl aP (by decide) rfl
theorem RK:mF pg0 197 1 2:=lW fO rfl fY (by decide) rfl
theorem RC:mF pg0 197 2 3:=lW fO rfl fY (by decide) rfl
theorem No:∀fs,Tryz.prog.underlying 197=some (.struct fs)→∀w,(fs.mapM (λ(f:Field)=>do pure (f.offset,←sizeOf f.type)):Sem (Array (Nat×Nat))).run pg0 w= .ok #[(0,2),(2,1),(3,1)] w:=by
 intro fs h w
 rw [fO] at h
 cases h
 kernel_rfl
theorem M5:mF pg0 285 0 0:=lW jH rfl aP (by decide) rfl
theorem To:∀fs,Tryz.prog.underlying 285=some (.struct fs)→∀w,(fs.mapM (λ(f:Field)=>do pure (f.offset,←sizeOf f.type)):Sem (Array (Nat×Nat))).run pg0 w= .ok #[(0,2),(2,1)] w:=by
 intro fs h w
 rw [jH] at h
 cases h
 kernel_rfl
theorem Mu:mF pg0 224 0 0:=lW jI rfl sizeOf109 (by decide) rfl
theorem Tv:∀fs,Tryz.prog.underlying 224=some (.struct fs)→∀w,(fs.mapM (λ(f:Field)=>do pure (f.offset,←sizeOf f.type)):Sem (Array (Nat×Nat))).run pg0 w= .ok #[(0,1)] w:=by
 intro fs h w
 rw [jI] at h
 cases h
 kernel_rfl
theorem yD:mF pg0 55 0 0:=lW ji rfl aR (by decide) rfl
theorem D6:mF pg0 55 1 9:=lW ji rfl js (by decide) rfl
theorem Uc:∀fs,Tryz.prog.underlying 55=some (.struct fs)→∀w,(fs.mapM (λ(f:Field)=>do pure (f.offset,←sizeOf f.type)):Sem (Array (Nat×Nat))).run pg0 w= .ok #[(0,9),(9,1)] w:=by
 intro fs h w
 rw [ji] at h
 cases h
 kernel_rfl
theorem qt:mF pg0 30 0 0:=lW cN rfl gS (by decide) rfl
theorem uA:mF pg0 30 1 1:=lW cN rfl gS (by decide) rfl
theorem ux:mF pg0 30 2 2:=lW cN rfl aP (by decide) rfl
theorem pS:mF pg0 30 3 4:=lW cN rfl sizeOf28 (by decide) rfl
theorem BB:∀fs,Tryz.prog.underlying 30=some (.struct fs)→∀w,(fs.mapM (λ(f:Field)=>do pure (f.offset,←sizeOf f.type)):Sem (Array (Nat×Nat))).run pg0 w= .ok #[(0,1),(1,1),(2,2),(4,1)] w:=by
 intro fs h w
 rw [cN] at h
 cases h
 kernel_rfl
theorem vg:mF pg0 57 0 0:=lW iw rfl jR (by decide) rfl
theorem Cy:mF pg0 57 1 10:=lW iw rfl aG (by decide) rfl
theorem Sj:∀fs,Tryz.prog.underlying 57=some (.struct fs)→∀w,(fs.mapM (λ(f:Field)=>do pure (f.offset,←sizeOf f.type)):Sem (Array (Nat×Nat))).run pg0 w= .ok #[(0,10),(10,5)] w:=by
 intro fs h w
 rw [iw] at h
 cases h
 kernel_rfl
theorem ya:mF pg0 132 0 0:=lW underlying132 rfl aP (by decide) rfl
theorem AG:mF pg0 132 1 2:=lW underlying132 rfl aG (by decide) rfl
theorem zt:mF pg0 132 2 7:=lW underlying132 rfl sizeOf45 (by decide) rfl
theorem vE:mF pg0 25 0 0:=lW gT rfl fY (by decide) rfl
theorem sV:mF pg0 25 1 1:=lW gT rfl sizeOf22 (by decide) rfl
theorem uY:mF pg0 25 2 2:=lW gT rfl sizeOf23 (by decide) rfl
theorem SQ:∀fs,Tryz.prog.underlying 25=some (.struct fs)→∀w,(fs.mapM (λ(f:Field)=>do pure (f.offset,←sizeOf f.type)):Sem (Array (Nat×Nat))).run pg0 w= .ok #[(0,1),(1,1),(2,1)] w:=by
 intro fs h w
 rw [gT] at h
 cases h
 kernel_rfl
theorem Eu:mF pg0 119 0 0:=lW underlying119 rfl fY (by decide) rfl
theorem El:mF pg0 119 1 1:=lW underlying119 rfl js (by decide) rfl
theorem uX:mF pg0 34 0 0:=lW fK rfl cV (by decide) rfl
theorem sW:mF pg0 34 1 3:=lW fK rfl cV (by decide) rfl
theorem Ad:mF pg0 34 2 6:=lW fK rfl aG (by decide) rfl
theorem H9:mF pg0 34 3 11:=lW fK rfl gS (by decide) rfl
theorem D9:mF pg0 34 4 12:=lW fK rfl sizeOf31 (by decide) rfl
theorem H0:mF pg0 34 5 14:=lW fK rfl gS (by decide) rfl
theorem HW:mF pg0 34 6 15:=lW fK rfl gS (by decide) rfl
theorem Ic:mF pg0 34 7 16:=lW fK rfl gS (by decide) rfl
theorem wY:mF pg0 34 8 17:=lW fK rfl sizeOf32 (by decide) rfl
theorem Uj:∀fs,Tryz.prog.underlying 34=some (.struct fs)→∀w,(fs.mapM (λ(f:Field)=>do pure (f.offset,←sizeOf f.type)):Sem (Array (Nat×Nat))).run pg0 w= .ok #[(0,3),(3,3),(6,5),(11,1),(12,2),(14,1),(15,1),(16,1),(17,1)] w:=by
 intro fs h w
 rw [fK] at h
 cases h
 kernel_rfl
theorem Eh:mF pg0 246 0 0:=lW gk rfl sizeOf242 (by decide) rfl
theorem IL:mF pg0 246 1 1:=lW gk rfl sizeOf45 (by decide) rfl
theorem Rq:mF pg0 246 2 2:=lW gk rfl sizeOf243 (by decide) rfl
theorem Rf:mF pg0 246 3 3:=lW gk rfl sizeOf244 (by decide) rfl
theorem BW:mF pg0 246 4 4:=lW gk rfl sizeOf226 (by decide) rfl
theorem GF:mF pg0 246 5 5:=lW gk rfl gS (by decide) rfl
theorem TL:∀fs,Tryz.prog.underlying 246=some (.struct fs)→∀w,(fs.mapM (λ(f:Field)=>do pure (f.offset,←sizeOf f.type)):Sem (Array (Nat×Nat))).run pg0 w= .ok #[(0,1),(1,1),(2,1),(3,1),(4,1),(5,1)] w:=by
 intro fs h w
 rw [gk] at h
 cases h
 kernel_rfl
theorem AL:mF pg0 215 0 0:=lW iF rfl js (by decide) rfl
theorem QV:∀fs,Tryz.prog.underlying 215=some (.struct fs)→∀w,(fs.mapM (λ(f:Field)=>do pure (f.offset,←sizeOf f.type)):Sem (Array (Nat×Nat))).run pg0 w= .ok #[(0,1)] w:=by
 intro fs h w
 rw [iF] at h
 cases h
 kernel_rfl
def uI:rB Signed:=λμ ys x=>∃(v0:Value),ys=[.int .i64 x.kC.Kind,.string x.kC.Head.kA,.string x.kC.Head.Word,.string x.kC.mC,.string x.kC.B.kA,.string x.kC.B.Word,.string x.kC.C.kA,.string x.kC.C.Word,.string x.kC.mA,v0]∧Sl (Pl (lP .u8)) 1 μ v0 x.Tag
theorem uI.out {μ:lF} {ys:List Value} {x:Signed} (h:uI μ ys x):∃(v0:Value),ys=[.int .i64 x.kC.Kind,.string x.kC.Head.kA,.string x.kC.Head.Word,.string x.kC.mC,.string x.kC.B.kA,.string x.kC.B.Word,.string x.kC.C.kA,.string x.kC.C.Word,.string x.kC.mA,v0]∧Sl (Pl (lP .u8)) 1 μ v0 x.Tag:=h
theorem uI.mk {μ:lF} {ys:List Value} {x:Signed} (h:∃(v0:Value),ys=[.int .i64 x.kC.Kind,.string x.kC.Head.kA,.string x.kC.Head.Word,.string x.kC.mC,.string x.kC.B.kA,.string x.kC.B.Word,.string x.kC.C.kA,.string x.kC.C.Word,.string x.kC.mA,v0]∧Sl (Pl (lP .u8)) 1 μ v0 x.Tag):uI μ ys x:=h
theorem BS:Deep uI 10 where
 mono:=by rintro _ _ _ _ i ⟨v0,rfl,d⟩; exact ⟨v0,rfl,d.mono (Pl.mono _) i⟩
 len:=by rintro _ _ _ ⟨v0,rfl,d⟩; rfl
 one:=by
  rintro _ _ _ ⟨v0,rfl,d⟩
  intro u hu; simp only [aY,dM,gP] at hu; rcases hu with rfl | rfl | rfl | rfl | rfl | rfl | rfl | rfl | rfl | rfl
  ·rfl
  ·rfl
  ·rfl
  ·rfl
  ·rfl
  ·rfl
  ·rfl
  ·rfl
  ·rfl
  ·exact d.wE
def yN:Nat→rB Formula
 | 0=>λ_ _ _=>False
 | n+1=>λμ ys x=>∃(v0:Value),ys=[.int .i64 x.Op,.int .i64 x.K,.string x.kz.kA,.string x.kz.Word,v0]∧Sl (yN n) 5 μ v0 x.Kids
def kD:rB Formula:=λμ ys x=>∃n,yN n μ ys x
theorem FC:∀n,J4 (yN n)
 | 0=>λ_ _ _ _ _ h=>h
 | n+1=>by rintro _ _ _ _ i ⟨v0,rfl,d⟩; exact ⟨v0,rfl,d.mono (FC n) i⟩
theorem Ik:∀n m (μ:lF) (ys:List Value) (x:Formula),n≤m→yN n μ ys x→yN m μ ys x
 | 0,_,_,_,_,_,h=>h.elim
 | n+1,0,_,_,_,d,_=>absurd d (by omega)
 | n+1,m+1,μ,ys,x,d,h=>by
  obtain ⟨v0,rfl,i⟩:=h
  exact ⟨v0,rfl,i.imp λys x h=>Ik n m μ ys x (by omega) h⟩
theorem kD.out {μ:lF} {ys:List Value} {x:Formula} (h:kD μ ys x):∃(v0:Value),ys=[.int .i64 x.Op,.int .i64 x.K,.string x.kz.kA,.string x.kz.Word,v0]∧Sl kD 5 μ v0 x.Kids:=by
 obtain ⟨n,h⟩:=h
 cases n with
 | zero=>exact h.elim
 | succ n=>
  obtain ⟨v0,rfl,d⟩:=h
  exact ⟨v0,rfl,d.imp λys x h=>⟨n,h⟩⟩
theorem kD.mk {μ:lF} {ys:List Value} {x:Formula} (h:∃(v0:Value),ys=[.int .i64 x.Op,.int .i64 x.K,.string x.kz.kA,.string x.kz.Word,v0]∧Sl kD 5 μ v0 x.Kids):kD μ ys x:=by
 obtain ⟨v0,rfl,d⟩:=h
 obtain ⟨n,j⟩:=d.TM (λ_ _ h=>h) (λa b ys x i h=>Ik a b _ ys x i h)
 exact ⟨n+1,v0,rfl,j⟩
theorem kT:Deep kD 5 where
 mono:=λ_ _ _ _ i ⟨n,h⟩=>⟨n,FC n _ _ _ _ i h⟩
 len:=by rintro _ _ _ h; obtain ⟨v0,rfl,d⟩:=h.out; rfl
 one:=by
  rintro _ _ _ h
  obtain ⟨v0,rfl,d⟩:=h.out
  intro u hu; simp only [aY,dM,gP] at hu; rcases hu with rfl | rfl | rfl | rfl | rfl
  ·rfl
  ·rfl
  ·rfl
  ·rfl
  ·exact d.wE
def kX:rB lh:=λμ ys x=>∃(v0:Value) (v1:Value),ys=[.int .i64 x.Signed.kC.Kind,.string x.Signed.kC.Head.kA,.string x.Signed.kC.Head.Word,.string x.Signed.kC.mC,.string x.Signed.kC.B.kA,.string x.Signed.kC.B.Word,.string x.Signed.kC.C.kA,.string x.Signed.kC.C.Word,.string x.Signed.kC.mA,v0,.int .i64 x.kE.Op,.int .i64 x.kE.K,.string x.kE.kz.kA,.string x.kE.kz.Word,v1]∧Sl (Pl (lP .u8)) 1 μ v0 x.Signed.Tag∧Sl kD 5 μ v1 x.kE.Kids
theorem kX.out {μ:lF} {ys:List Value} {x:lh} (h:kX μ ys x):∃(v0:Value) (v1:Value),ys=[.int .i64 x.Signed.kC.Kind,.string x.Signed.kC.Head.kA,.string x.Signed.kC.Head.Word,.string x.Signed.kC.mC,.string x.Signed.kC.B.kA,.string x.Signed.kC.B.Word,.string x.Signed.kC.C.kA,.string x.Signed.kC.C.Word,.string x.Signed.kC.mA,v0,.int .i64 x.kE.Op,.int .i64 x.kE.K,.string x.kE.kz.kA,.string x.kE.kz.Word,v1]∧Sl (Pl (lP .u8)) 1 μ v0 x.Signed.Tag∧Sl kD 5 μ v1 x.kE.Kids:=h
theorem kX.mk {μ:lF} {ys:List Value} {x:lh} (h:∃(v0:Value) (v1:Value),ys=[.int .i64 x.Signed.kC.Kind,.string x.Signed.kC.Head.kA,.string x.Signed.kC.Head.Word,.string x.Signed.kC.mC,.string x.Signed.kC.B.kA,.string x.Signed.kC.B.Word,.string x.Signed.kC.C.kA,.string x.Signed.kC.C.Word,.string x.Signed.kC.mA,v0,.int .i64 x.kE.Op,.int .i64 x.kE.K,.string x.kE.kz.kA,.string x.kE.kz.Word,v1]∧Sl (Pl (lP .u8)) 1 μ v0 x.Signed.Tag∧Sl kD 5 μ v1 x.kE.Kids):kX μ ys x:=h
theorem lg:Deep kX 15 where
 mono:=by rintro _ _ _ _ i ⟨v0,v1,rfl,d,h1⟩; exact ⟨v0,v1,rfl,d.mono (Pl.mono _) i,h1.mono kT.mono i⟩
 len:=by rintro _ _ _ ⟨v0,v1,rfl,d,h1⟩; rfl
 one:=by
  rintro _ _ _ ⟨v0,v1,rfl,d,h1⟩
  intro u hu; simp only [aY,dM,gP] at hu; rcases hu with rfl | rfl | rfl | rfl | rfl | rfl | rfl | rfl | rfl | rfl | rfl | rfl | rfl | rfl | rfl
  ·rfl
  ·rfl
  ·rfl
  ·rfl
  ·rfl
  ·rfl
  ·rfl
  ·rfl
  ·rfl
  ·exact d.wE
  ·rfl
  ·rfl
  ·rfl
  ·rfl
  ·exact h1.wE
def ls:rB mn:=λμ ys x=>∃(v0:Value) (v1:Value),ys=[.string x.kz.kA,.string x.kz.Word,.int .i64 x.kE.Op,.int .i64 x.kE.K,.string x.kE.kz.kA,.string x.kE.kz.Word,v0,v1]∧Sl kD 5 μ v0 x.kE.Kids∧Sl (Pl kI) 9 μ v1 x.lN
theorem ls.out {μ:lF} {ys:List Value} {x:mn} (h:ls μ ys x):∃(v0:Value) (v1:Value),ys=[.string x.kz.kA,.string x.kz.Word,.int .i64 x.kE.Op,.int .i64 x.kE.K,.string x.kE.kz.kA,.string x.kE.kz.Word,v0,v1]∧Sl kD 5 μ v0 x.kE.Kids∧Sl (Pl kI) 9 μ v1 x.lN:=h
theorem ls.mk {μ:lF} {ys:List Value} {x:mn} (h:∃(v0:Value) (v1:Value),ys=[.string x.kz.kA,.string x.kz.Word,.int .i64 x.kE.Op,.int .i64 x.kE.K,.string x.kE.kz.kA,.string x.kE.kz.Word,v0,v1]∧Sl kD 5 μ v0 x.kE.Kids∧Sl (Pl kI) 9 μ v1 x.lN):ls μ ys x:=h
theorem mf:Deep ls 8 where
 mono:=by rintro _ _ _ _ i ⟨v0,v1,rfl,d,h1⟩; exact ⟨v0,v1,rfl,d.mono kT.mono i,h1.mono (Pl.mono _) i⟩
 len:=by rintro _ _ _ ⟨v0,v1,rfl,d,h1⟩; rfl
 one:=by
  rintro _ _ _ ⟨v0,v1,rfl,d,h1⟩
  intro u hu; simp only [aY,dM,gP] at hu; rcases hu with rfl | rfl | rfl | rfl | rfl | rfl | rfl | rfl
  ·rfl
  ·rfl
  ·rfl
  ·rfl
  ·rfl
  ·rfl
  ·exact d.wE
  ·exact h1.wE
def oF:rB Key:=λμ ys x=>∃(v0:Value),ys=[.string x.mC,v0]∧Sl (Pl (lP .u8)) 1 μ v0 x.Key
theorem oF.out {μ:lF} {ys:List Value} {x:Key} (h:oF μ ys x):∃(v0:Value),ys=[.string x.mC,v0]∧Sl (Pl (lP .u8)) 1 μ v0 x.Key:=h
theorem oF.mk {μ:lF} {ys:List Value} {x:Key} (h:∃(v0:Value),ys=[.string x.mC,v0]∧Sl (Pl (lP .u8)) 1 μ v0 x.Key):oF μ ys x:=h
theorem xi:Deep oF 2 where
 mono:=by rintro _ _ _ _ i ⟨v0,rfl,d⟩; exact ⟨v0,rfl,d.mono (Pl.mono _) i⟩
 len:=by rintro _ _ _ ⟨v0,rfl,d⟩; rfl
 one:=by
  rintro _ _ _ ⟨v0,rfl,d⟩
  intro u hu; simp only [aY,dM,gP] at hu; rcases hu with rfl | rfl
  ·rfl
  ·exact d.wE
def yi:rB nA:=λμ ys x=>∃(v0:Value) (v1:Value) (v2:Value) (v3:Value) (v4:Value) (v5:Value),ys=[.string x.kA.Name,v0,v1,.string x.Client.Name,v2,v3,.int .i64 x.Formula.Op,.int .i64 x.Formula.K,.string x.Formula.kz.kA,.string x.Formula.kz.Word,v4,.int .i64 x.oA,.int .i64 x.lA.oH,.int .i64 x.lA.ow,.int .i64 x.my,.int .i64 x.nz,.int .i64 x.mW,v5]∧Sl kX 15 μ v0 x.kA.kM∧Sl ls 8 μ v1 x.kA.kU∧Sl kX 15 μ v2 x.Client.kM∧Sl ls 8 μ v3 x.Client.kU∧Sl kD 5 μ v4 x.Formula.Kids∧Sl oF 2 μ v5 x.Keys
theorem yi.out {μ:lF} {ys:List Value} {x:nA} (h:yi μ ys x):∃(v0:Value) (v1:Value) (v2:Value) (v3:Value) (v4:Value) (v5:Value),ys=[.string x.kA.Name,v0,v1,.string x.Client.Name,v2,v3,.int .i64 x.Formula.Op,.int .i64 x.Formula.K,.string x.Formula.kz.kA,.string x.Formula.kz.Word,v4,.int .i64 x.oA,.int .i64 x.lA.oH,.int .i64 x.lA.ow,.int .i64 x.my,.int .i64 x.nz,.int .i64 x.mW,v5]∧Sl kX 15 μ v0 x.kA.kM∧Sl ls 8 μ v1 x.kA.kU∧Sl kX 15 μ v2 x.Client.kM∧Sl ls 8 μ v3 x.Client.kU∧Sl kD 5 μ v4 x.Formula.Kids∧Sl oF 2 μ v5 x.Keys:=h
theorem yi.mk {μ:lF} {ys:List Value} {x:nA} (h:∃(v0:Value) (v1:Value) (v2:Value) (v3:Value) (v4:Value) (v5:Value),ys=[.string x.kA.Name,v0,v1,.string x.Client.Name,v2,v3,.int .i64 x.Formula.Op,.int .i64 x.Formula.K,.string x.Formula.kz.kA,.string x.Formula.kz.Word,v4,.int .i64 x.oA,.int .i64 x.lA.oH,.int .i64 x.lA.ow,.int .i64 x.my,.int .i64 x.nz,.int .i64 x.mW,v5]∧Sl kX 15 μ v0 x.kA.kM∧Sl ls 8 μ v1 x.kA.kU∧Sl kX 15 μ v2 x.Client.kM∧Sl ls 8 μ v3 x.Client.kU∧Sl kD 5 μ v4 x.Formula.Kids∧Sl oF 2 μ v5 x.Keys):yi μ ys x:=h
theorem Q3:Deep yi 18 where
 mono:=by rintro _ _ _ _ d ⟨v0,v1,v2,v3,v4,v5,rfl,i,h1,j,n,p,q⟩; exact ⟨v0,v1,v2,v3,v4,v5,rfl,i.mono lg.mono d,h1.mono mf.mono d,j.mono lg.mono d,n.mono mf.mono d,p.mono kT.mono d,q.mono xi.mono d⟩
 len:=by rintro _ _ _ ⟨v0,v1,v2,v3,v4,v5,rfl,i,h1,j,n,p,q⟩; rfl
 one:=by
  rintro _ _ _ ⟨v0,v1,v2,v3,v4,v5,rfl,i,h1,j,n,p,q⟩
  intro u hu; simp only [aY,dM,gP] at hu; rcases hu with rfl | rfl | rfl | rfl | rfl | rfl | rfl | rfl | rfl | rfl | rfl | rfl | rfl | rfl | rfl | rfl | rfl | rfl
  ·rfl
  ·exact i.wE
  ·exact h1.wE
  ·rfl
  ·exact j.wE
  ·exact n.wE
  ·rfl
  ·rfl
  ·rfl
  ·rfl
  ·exact p.wE
  ·rfl
  ·rfl
  ·rfl
  ·rfl
  ·rfl
  ·rfl
  ·exact q.wE
theorem QY:uy pg0 9 Value.string lQ:=uy.string bN
theorem Jc:uy pg0 27 (λ(x:kz)=>(.agg (kN x).toArray)) lq :=
 uy.struct eV (λd x y W=>rD (d+8) x y W) (λb k W=>Iz eV rfl (ij.2 ⟨λ_=>⟨.string k.kA,pV bT rfl,zU bN _ _ _ _⟩,(ij.2 ⟨λ_=>⟨.string k.Word,pV bT rfl,zU bN _ _ _ _⟩,(λ_ h=>by cases h)⟩)⟩))
  (λk x h=>(ny.1 h).symm) (λk=>by simp [Instr.sameBits,kN,FG,qk])
theorem uq (g:Value) (t:List lh) (j:Value) (z:lh→Option Bool) (r:Int) (w:World) (c:Sl kX 15 (hp w) g t) (B:ud pg0 j (hp w) (qn kX) (λ(r:Bool)=>(.bool r)) z) (hm:oV t z=some r) :
  la false pg0 142 [g,j] w (.int .i64 r):=by
 refine cG 19 func142 rfl (λd=>sg (Wa (lS (Wm (V (mx cS rfl c) (Wm (ln (mj (λi E W=>∃k,(E 8= .int .i64 (i:Nat)∧E 7= .int .i64 (t.length:Nat))∧ST false lD w W (hp w) k∧E 0=g∧E 1=j∧nw z (t.drop i) i=some r) t.length c.len ⟨_,⟨rfl,rfl⟩,(d.kB St),rfl,rfl,hm⟩ dc dc dc (λ_ _ _ h=>by obtain ⟨_,p,_⟩:=h; exact p) ?_ ?_))))))))
 ·rintro T E W G ⟨k,⟨n,q⟩,d,u,x,a⟩
  obtain ⟨y,Z,N,M,Q⟩:=lX G
  rw [N] at a
  refine bg (Wh n (Wa (lr (Wh x (Wh u (Wm (VQ (mo (i:=(T:Int)) (x0:=y) kX.out cS cO rfl rfl c (aM _) M) (λa2 ⟨_,⟨U,Y,rfl,J,K⟩,H⟩=>V (kF rfl (lx d.has H fP cO)) (bS a λa3 I a=>?_)))))))))
  refine VE (pY y d B (lz.refl _) (qn.mk lg (kX.mk ⟨U,Y,rfl,J,K⟩) d.kG) rfl (pk rfl) I (λs d=>ln (CI a rfl (λD a=>?_) (λD a=>?_))))
  ·refine sg (Wm (Wa (lt (nU (lV (nU (lV ?_)))))))
   obtain rfl:=sj a
   exact rP d
  exact mM (lI (kP ⟨n,_,⟨rfl,q⟩,(d.kB St),u,x,(by rw [Q]; exact a)⟩))
 rintro E W ⟨k,⟨n,q⟩,d,u,x,a⟩
 rw [aO] at a
 exact kP (sg (Wa (lt (rQ a d))))
theorem Bk (a:lh) (j g:Value) (t:Nat) (k:Value) (x:lh→Option kC) (u:Nat) (H:kC) (r:Bool) (w:World) (i:Sl (Pl (lP .u8)) 1 (hp w) j a.Signed.Tag) (c:Sl kD 5 (hp w) g a.kE.Kids) (K:ud pg0 k (hp w) (qn kX) (λ(r:kC)=>(.agg (kI r).toArray)) x) (z:At (hp w) (.pointer (some ⟨t,0,none⟩)) [k]) (B:At (hp w) (.pointer (some ⟨u,0,none⟩)) (kI H)) (hm:rp a x H=some r) :
  la false pg0 143 [(.agg #[(.int .i64 a.Signed.kC.Kind),(.string a.Signed.kC.Head.kA),(.string a.Signed.kC.Head.Word),(.string a.Signed.kC.mC),(.string a.Signed.kC.B.kA),(.string a.Signed.kC.B.Word),(.string a.Signed.kC.C.kA),(.string a.Signed.kC.C.Word),(.string a.Signed.kC.mA),j,(.int .i64 a.kE.Op),(.int .i64 a.kE.K),(.string a.kE.kz.kA),(.string a.kE.kz.Word),g]),(.pointer (some ⟨t,0,none⟩)),(.pointer (some ⟨u,0,none⟩))] w (.bool r):=by
 refine cG 10 func143 rfl (λd=>sg ?_)
 obtain ⟨D,I,rfl⟩:=i.form
 obtain ⟨G,J,rfl⟩:=c.form
 refine VE (ly d rfl (λT U d=>Wa (ln (kQ ?_))))
 replace d:=d.drew
 have n:=d.has.kB (Kb Sn)
 refine lC n lj (XH 0 rfl n (λ_ p=>kF rfl (pO p (y:=k) z kl)) (XH 1 rfl n (λ_ p=>kF rfl (kL p Mh (C3 a.Signed.kC.Kind a.Signed.kC.Head.kA a.Signed.kC.Head.Word a.Signed.kC.mC a.Signed.kC.B.kA a.Signed.kC.B.Word a.Signed.kC.C.kA a.Signed.kC.C.Word a.Signed.kC.mA D a.Signed.Tag.length I a.kE.Op a.kE.K a.kE.kz.kA a.kE.kz.Word G a.kE.Kids.length J) rfl fP cO)) (XH 3 rfl n (λ_ p=>kF rfl (lx p B cA aR)) (bS hm λN M hm=>XE 2 rfl (pY a d K (lz.refl _) (qn.mk lg (kX.mk ⟨(.slice D a.Signed.Tag.length I),(.slice G a.kE.Kids.length J),rfl,i,c⟩) d.kG) rfl (pk rfl) M (λQ d=>?_))))))
 have n:=d.has.kB (Kb Sn)
 refine ⟨n,(X 4 rfl n (wD rfl rfl (oX gm) (tE (wJ _ N H))) (X 5 rfl n (mU rfl) (lH kr (kP ?_))))⟩
 exact lB (rQ hm d)
theorem xW (g:Value) (t:List lh) (j:kC) (a:Nat) (i:Value) (c:lh→Option kC) (r:Int) (w:World) (y:Sl kX 15 (hp w) g t) (z:ud pg0 i (hp w) (qn kX) (λ(r:kC)=>(.agg (kI r).toArray)) c) (k:At (hp w) (.pointer (some ⟨a,0,none⟩)) [i]) (hm:qU t j c=some r) :
  la false pg0 141 [g,(.agg (kI j).toArray),(.pointer (some ⟨a,0,none⟩))] w (.int .i64 r):=by
 refine cG 9 func141 rfl (λd=>sg (VE (ly d rfl (λI u d=>Wa (lr (Wm (V (qz (by exact qJ rfl rfl) rfl) (bS hm λK D hm=>VE (Eg d call142 (uq g t (.func (.func 143) #[] #[(.pointer (some ⟨a,0,none⟩)),(.pointer (some ⟨u,0,none⟩))]) (λ(x:lh)=>rp x c j) _ _ (y.mono lg.mono d.kG) ⟨143,#[],#[(.pointer (some ⟨a,0,none⟩)),(.pointer (some ⟨u,0,none⟩))],rfl,call143,λW x vs r n p hm=>by obtain ⟨_,rfl,B⟩:=p; obtain ⟨G,H,rfl,q,s⟩:=B.out; exact Bk x G H a i c u j r W q s (z.mono (d.kG.trans n)) (k.mono (d.kG.trans n)) (At.of (n _ _ (d.at_ Mh)) _ rfl) hm⟩ D) (λJ d=>Wa (lu ?_)))))))))))
 refine kP ?_
 exact lB (rQ hm d)
set_option maxHeartbeats 4000000 in
theorem DX (a2:Value) (a0:List lh) (b6:Value) (O:List lh) (g4:Value) (f2:lh→Option kC) (e2:Value) (f3:(lh×lh)→Option Bool) (d5:Value) (f4:lh→Option ByteArray) (r:List ky) (w:World) (d2:Sl kX 15 (hp w) a2 a0) (c9:Sl kX 15 (hp w) b6 O) (N:ud pg0 g4 (hp w) (qn kX) (λ(r:kC)=>(.agg (kI r).toArray)) f2) (k2:ud pg0 e2 (hp w) (uu kX kX) (λ(r:Bool)=>(.bool r)) f3) (e1:ud pg0 d5 (hp w) (qn kX) (λ(r:ByteArray)=>(.string r)) f4) (hm:rX a0 O f2 f3 f4=some r) :
  oU false pg0 69 [a2,b6,g4,e2,d5] w 193 kO 11 r:=by
 refine Az 89 func69 rfl (λd=>sg ?_)
 obtain ⟨aa,ab,ad,rfl⟩:=N.form
 let k1:Value:=(.func aa ab ad)
 refine VE (ly d rfl (λW5 A d=>Wa (lr (Wa (lr (V (qz (by exact pk rfl) rfl) (Wa (ln ?_))))))))
 refine kQ (sg (Wm (V (mx cS rfl d2) (Wm (ln (mj (λi E W=>∃Q b0 K d9,(E 21= .int .i64 (i:Nat)∧E 20= .int .i64 (a0.length:Nat))∧ST false lD w W (hp w) ((A,Ob #[k1] 124)::(K++d9))∧E 0=a2∧E 1=b6∧E 3=e2∧E 4=d5∧E 7=(.pointer (some ⟨A,0,none⟩))∧E 11=Q∧E 12=(.func (.func 141) #[] #[(.pointer (some ⟨A,0,none⟩))])∧E 19=a2∧lm 193 kO 11 Q b0 K∧ou f2 O f4 f3 a0 (a0.drop i) b0=some r) a0.length d2.len ⟨(.slice none 0 0),([]),[],_,⟨rfl,rfl⟩,(d.kB St),rfl,rfl,rfl,rfl,rfl,rfl,rfl,rfl,(lm.nil _ _ _),hm⟩ dc dc dc (λ_ _ _ h=>by obtain ⟨_,_,_,_,P,_⟩:=h; exact P) ?_ ?_))))))
 ·rintro k3 E W h8 ⟨Q,b0,K,d9,⟨s,L⟩,d,c5,Y,c6,Z,M,c7,a9,c8,a7,g⟩
  obtain ⟨a,m7,j3,j0,d3⟩:=lX h8
  rw [j3] at g
  refine bg (VQ (mo (i:=(k3:Int)) (x0:=a) kX.out cS cO c8 s d2 (aM _) j0) (λo2 ⟨_,⟨o5,o6,rfl,H,I⟩,h9⟩=>V (kF rfl (lx d.has h9 fP cO)) (VE (lT d fL (λm8 o1 d=>?_)))))
  obtain ⟨k,u,rfl⟩:=H.form
  let e0:Value:=(.slice k a.Signed.Tag.length u)
  obtain ⟨t,x,rfl⟩:=I.form
  let d6:Value:=(.slice t a.kE.Kids.length x)
  let b8:=(C3 a.Signed.kC.Kind a.Signed.kC.Head.kA a.Signed.kC.Head.Word a.Signed.kC.mC a.Signed.kC.B.kA a.Signed.kC.B.Word a.Signed.kC.C.kA a.Signed.kC.C.Word a.Signed.kC.mA k a.Signed.Tag.length u a.kE.Op a.kE.K a.kE.kz.kA a.kE.kz.Word t a.kE.Kids.length x)
  refine VO (lp (.agg b8.toArray) (b8.toArray) d rfl rfl cO oc nb rfl (λm9 d=>lr (Wh a9 (Wh Y (V (kF M (kV d.has (Mt Mh) rfl kl)) (VA d Mh b8 fP cO (bS g λg3 i1 g=>VE (pY a d N (lz.refl _) (qn.mk lg (kX.mk ⟨e0,d6,rfl,H,I⟩) d.kG) rfl (pk rfl) i1 (λn0 d=>bS g λk6 i2 g=>VE (GH (args:=[b6,(.agg (kI g3).toArray)]) (caps:=#[(.pointer (some ⟨A,0,none⟩))]) d rfl call141 (by exact qJ rfl rfl) (xW b6 O g3 A k1 f2 _ _ (c9.mono lg.mono d.kG) (N.mono d.kG) (At.of (d.at_ (Mt Mh)) _ rfl) i2) (λn1 d=>Wa (lu ?_))))))))))))
  refine kP (bg (Wm (Wi rfl (Wa (ln (CI g rfl (λh4 g=>?_) (λh4 g=>?_)))))))
  ·replace d:=d.drew
   have n:=d.has.kB (Kb (Kb Sn))
   refine lC n lj (X 0 rfl n (kH c7) (XH 1 rfl n (λ_ q=>kF M (kV q (Mt Mh) rfl kl)) (XH 2 rfl n (λ_ q=>kF rfl (kL q Mh b8 rfl fP cO)) (X 4 rfl n (kH Z) (XH 5 rfl n (λ_ q=>kF rfl (kL q Mh b8 rfl fP cO)) (bS g λb1 i3 g=>XE 3 rfl (pY a d N (lz.refl _) (qn.mk lg (kX.mk ⟨e0,d6,rfl,H,I⟩) d.kG) rfl (pk rfl) i3 (λn2 d=>?_))))))))
   have n:=d.has.kB (Kb (Kb Sn))
   refine ⟨n,(bS g λb2 i4 g=>XE 6 rfl (pY a d e1 (lz.refl _) (qn.mk lg (kX.mk ⟨e0,d6,rfl,H,I⟩) d.kG) rfl (pk rfl) i4 (λn3 d=>?_)))⟩
   let g5:=(⟨b1,b2,K5⟩:ky)
   have n:=d.has.kB (Kb (Kb Sn))
   refine ⟨n,(X 7 rfl n (nB (v:=(.agg (kO (g5)).toArray)) (yQ rfl rfl rfl) (nk iy fN (N6 _ fN) kr)) (XE 8 rfl (lJ (cs:=(kO (g5)).toArray) d (nL rfl) (oa bZ bV iy) (λn4 j9 d=>?_))))⟩
   have n:=d.has.kB (Db (Kb (Kb Sn)))
   refine ⟨n,?_⟩
   replace d:=d.perm (Nr (Qb (Qb (Qb Qz))) Nz)
   refine bS g λk4 h5 g=>XE 9 rfl (pK (enc:=kO) (v:=Q) (vs:=(.slice (some ⟨j9,0,none⟩) 1 1)) (R:=K) d lK dc oz bZ vz.1 vz.2.1 rfl vz.2.2.1 vz.2.2.2 rfl rfl a7 (Sl.lit (enc:=kO) (l:=[g5]) lK rfl nb rfl (d.at_ (Ma Mh))) h5 (λn5 k7 j7 d h2=>?_))
   have n:=d.has.kB (Dr (Db (Kb (Kb Sn))))
   refine ⟨n,(X 10 rfl n (mU rfl) (lH kr (lI (lI (kP ?_)))))⟩
   replace d:=d.kB (Kr (Db (Db St)))
   exact ⟨s,k7,k4,j7,_,⟨rfl,L⟩,(d.kB (Sb (Pr Pz) St)),c5,Y,c6,Z,M,rfl,a9,c8,h2,(by rw [d3]; exact g)⟩
  refine kQ ?_
  replace d:=d.drew
  have n:=d.has.kB (Kb Sn)
  refine lC n lj (X 0 rfl n (kH c6) (XH 1 rfl n (λ_ q=>kF rfl (kL q Mh b8 rfl fP cO)) (X 2 rfl n (kH Y) (X 3 rfl n (kH rfl) (bS g λg7 e4 g=>XQ 4 rfl n (mo (i:=k6) (x0:=g7) kX.out cS cO rfl rfl c9 (kZ e4) (kY e4)) (λo3 ⟨_,⟨k8,k9,rfl,i8,i9⟩,i0⟩=>XH 5 rfl n (λ_ q=>kF rfl (lx q i0 fP cO)) (bS g λo4 i5 g=>XE 6 rfl (pY (a,g7) d k2 (lz.refl _) (uu.mk lg lg (kX.mk ⟨e0,d6,rfl,H,I⟩) (kX.mk ⟨k8,k9,rfl,i8,i9⟩) d.kG) rfl (qJ rfl rfl) i5 (λn6 d=>?_)))))))))
  have n:=d.has.kB (Kb Sn)
  refine ⟨n,(X 7 rfl n (nv rfl) (X 8 rfl n (mU rfl) (lH kr (kP (CI g rfl (λh6 g=>?_) (λh6 g=>?_))))))⟩
  ·replace d:=d.drew
   have n:=d.has.kB (Kb (Kb Sn))
   refine lC n lj (X 0 rfl n (kH c7) (XH 1 rfl n (λ_ q=>kF M (kV q (Mt Mh) rfl kl)) (XH 2 rfl n (λ_ q=>kF rfl (kL q Mh b8 rfl fP cO)) (X 4 rfl n (kH Z) (XH 5 rfl n (λ_ q=>kF rfl (kL q Mh b8 rfl fP cO)) (bS g λb3 i6 g=>XE 3 rfl (pY a d N (lz.refl _) (qn.mk lg (kX.mk ⟨e0,d6,rfl,H,I⟩) d.kG) rfl (pk rfl) i6 (λn7 d=>?_))))))))
   have n:=d.has.kB (Kb (Kb Sn))
   refine ⟨n,(bS g λb5 i7 g=>XE 6 rfl (pY a d e1 (lz.refl _) (qn.mk lg (kX.mk ⟨e0,d6,rfl,H,I⟩) d.kG) rfl (pk rfl) i7 (λn8 d=>?_)))⟩
   let g6:=(⟨b3,b5,K6⟩:ky)
   have n:=d.has.kB (Kb (Kb Sn))
   refine ⟨n,(X 7 rfl n (nB (v:=(.agg (kO (g6)).toArray)) (yQ rfl rfl rfl) (nk iy fN (N6 _ fN) kr)) (XE 8 rfl (lJ (cs:=(kO (g6)).toArray) d (nL rfl) (oa bZ bV iy) (λn9 k0 d=>?_))))⟩
   have n:=d.has.kB (Db (Kb (Kb Sn)))
   refine ⟨n,?_⟩
   replace d:=d.perm (Nr (Qb (Qb (Qb Qz))) Nz)
   refine bS g λk5 h7 g=>XE 9 rfl (pK (enc:=kO) (v:=Q) (vs:=(.slice (some ⟨k0,0,none⟩) 1 1)) (R:=K) d lK dc oz bZ vz.1 vz.2.1 rfl vz.2.2.1 vz.2.2.2 rfl rfl a7 (Sl.lit (enc:=kO) (l:=[g6]) lK rfl nb rfl (d.at_ (Ma Mh))) h7 (λo0 l0 j8 d h3=>?_))
   have n:=d.has.kB (Dr (Db (Kb (Kb Sn))))
   refine ⟨n,(X 10 rfl n (mU rfl) (lH kr (lI (lI (kP ?_)))))⟩
   replace d:=d.kB (Kr (Db (Db St)))
   exact ⟨s,l0,k5,j8,_,⟨rfl,L⟩,(d.kB (Sb (Pr Pz) St)),c5,Y,c6,Z,M,rfl,a9,c8,h3,(by rw [d3]; exact g)⟩
  refine mM (lI (lI (kP ?_)))
  replace d:=d.kB (Db St)
  exact ⟨s,Q,b0,K,_,⟨rfl,L⟩,(d.kB St),c5,Y,c6,Z,M,c7,a9,c8,a7,(by rw [d3]; exact g)⟩
 rintro E W ⟨Q,b0,K,d9,⟨s,L⟩,d,c5,Y,c6,Z,M,c7,a9,c8,a7,g⟩
 rw [aO] at g
 refine kP (kQ (sg (Wh Y (V (mx cS rfl c9) (Wm (ln (CJ g (λd4 E W=>∃c4 b7 e3,ST false lD w W (hp w) (b7++e3)∧E 11=c4∧lm 193 kO 11 c4 d4 b7) (λd4 f5=>?_) ?_)))))))
 ·let e6:Value:=(.pointer (some ⟨A,0,none⟩))
  refine mj (λi E W=>∃J a8 G d1,(E 66= .int .i64 (i:Nat)∧E 65= .int .i64 (O.length:Nat))∧ST false lD w W (hp w) ((A,Ob #[k1] 124)::(G++d1))∧E 0=a2∧E 4=d5∧E 7=e6∧E 11=J∧E 12=(.func (.func 141) #[] #[e6])∧E 64=b6∧lm 193 kO 11 J a8 G∧pg f2 a0 f4 (O.drop i) a8=some d4) O.length c9.len ⟨Q,b0,K,_,⟨rfl,rfl⟩,(d.kB St),c5,Z,M,c7,a9,rfl,a7,f5⟩ dc dc dc (λ_ _ _ h=>by obtain ⟨_,_,_,_,P,_⟩:=h; exact P) ?_ ?_
  ·rintro j4 E W f0 ⟨J,a8,G,d1,⟨s,L⟩,d,b9,c0,a3,c1,c2,c3,a4,j⟩
   obtain ⟨c,l2,g2,g1,d8⟩:=lX f0
   rw [g2] at j
   refine bg (VQ (mo (i:=(j4:Int)) (x0:=c) kX.out cS cO c3 s c9 (aM _) g1) (λm3 ⟨_,⟨m5,m6,rfl,a5,a6⟩,f6⟩=>V (kF rfl (lx d.has f6 fP cO)) (VE (lT d fL (λl3 m1 d=>?_)))))
   obtain ⟨y,B,rfl⟩:=a5.form
   let j2:Value:=(.slice y c.Signed.Tag.length B)
   obtain ⟨z,D,rfl⟩:=a6.form
   let h1:Value:=(.slice z c.kE.Kids.length D)
   let d0:=(C3 c.Signed.kC.Kind c.Signed.kC.Head.kA c.Signed.kC.Head.Word c.Signed.kC.mC c.Signed.kC.B.kA c.Signed.kC.B.Word c.Signed.kC.C.kA c.Signed.kC.C.Word c.Signed.kC.mA y c.Signed.Tag.length B c.kE.Op c.kE.K c.kE.kz.kA c.kE.kz.Word z c.kE.Kids.length D)
   refine VO (lp (.agg d0.toArray) (d0.toArray) d rfl rfl cO oc nb rfl (λl4 d=>lr (Wh c2 (Wh b9 (V (kF a3 (kV d.has (Mt Mh) rfl kl)) (VA d Mh d0 fP cO (bS j λe5 f7 j=>VE (pY c d N (lz.refl _) (qn.mk lg (kX.mk ⟨j2,h1,rfl,a5,a6⟩) d.kG) rfl (pk rfl) f7 (λl5 d=>bS j λm4 f8 j=>VE (GH (args:=[a2,(.agg (kI e5).toArray)]) (caps:=#[e6]) d rfl call141 (by exact qJ rfl rfl) (xW a2 a0 e5 A k1 f2 _ _ (d2.mono lg.mono d.kG) (N.mono d.kG) (At.of (d.at_ (Mt Mh)) _ rfl) f8) (λl6 d=>Wi rfl (lu ?_))))))))))))
   refine kP (CI j rfl (λe8 j=>?_) (λe8 j=>?_))
   ·replace d:=d.drew
    have n:=d.has.kB (Kb (Kb Sn))
    refine lC n lj (X 0 rfl n (kH c1) (XH 1 rfl n (λ_ q=>kF a3 (kV q (Mt Mh) rfl kl)) (XH 2 rfl n (λ_ q=>kF rfl (kL q Mh d0 rfl fP cO)) (X 4 rfl n (kH c0) (XH 5 rfl n (λ_ q=>kF rfl (kL q Mh d0 rfl fP cO)) (bS j λT f9 j=>XE 3 rfl (pY c d N (lz.refl _) (qn.mk lg (kX.mk ⟨j2,h1,rfl,a5,a6⟩) d.kG) rfl (pk rfl) f9 (λl7 d=>?_))))))))
    have n:=d.has.kB (Kb (Kb Sn))
    refine ⟨n,(bS j λU g0 j=>XE 6 rfl (pY c d e1 (lz.refl _) (qn.mk lg (kX.mk ⟨j2,h1,rfl,a5,a6⟩) d.kG) rfl (pk rfl) g0 (λl8 d=>?_)))⟩
    let j1:=(⟨T,U,K7⟩:ky)
    have n:=d.has.kB (Kb (Kb Sn))
    refine ⟨n,(X 7 rfl n (nB (v:=(.agg (kO (j1)).toArray)) (yQ rfl rfl rfl) (nk iy fN (N6 _ fN) kr)) (XE 8 rfl (lJ (cs:=(kO (j1)).toArray) d (nL rfl) (oa bZ bV iy) (λl9 g9 d=>?_))))⟩
    have n:=d.has.kB (Db (Kb (Kb Sn)))
    refine ⟨n,?_⟩
    replace d:=d.perm (Nr (Qb (Qb (Qb Qz))) Nz)
    refine bS j λj5 e9 j=>XE 9 rfl (pK (enc:=kO) (v:=J) (vs:=(.slice (some ⟨g9,0,none⟩) 1 1)) (R:=G) d lK dc oz bZ vz.1 vz.2.1 rfl vz.2.2.1 vz.2.2.2 rfl rfl a4 (Sl.lit (enc:=kO) (l:=[j1]) lK rfl nb rfl (d.at_ (Ma Mh))) e9 (λm0 j6 g8 d e7=>?_))
    have n:=d.has.kB (Dr (Db (Kb (Kb Sn))))
    refine ⟨n,(X 10 rfl n (mU rfl) (lH kr (lI (kP ?_))))⟩
    replace d:=d.kB (Kr (Db (Db St)))
    exact ⟨s,j6,j5,g8,_,⟨rfl,L⟩,(d.kB (Sb (Pr Pz) St)),b9,c0,a3,rfl,c2,c3,e7,(by rw [d8]; exact j)⟩
   refine mM (lI (kP ?_))
   replace d:=d.kB (Db St)
   exact ⟨s,J,a8,G,_,⟨rfl,L⟩,(d.kB St),b9,c0,a3,c1,c2,c3,a4,(by rw [d8]; exact j)⟩
  rintro E W ⟨J,a8,G,d1,⟨s,L⟩,d,b9,c0,a3,c1,c2,c3,a4,j⟩
  rw [aO] at j
  refine kP ?_
  obtain rfl:=sj j
  exact ⟨J,G,_,(d.kB (Db St)),c1,a4⟩
 rintro m2 E W ⟨c4,b7,e3,d,h0,d7⟩ f1
 refine sg (Wh h0 (Wa (lt ?_)))
 obtain rfl:=sj f1
 exact nq (v:=c4) rfl rfl ⟨_,b7,rfl,d.sI (λp hq=>(Ml hq)) d7.nd,d7⟩
theorem GQ (a:lh) (g c:Value) (r:kC) (w:World) (j:Sl (Pl (lP .u8)) 1 (hp w) g a.Signed.Tag) (i:Sl kD 5 (hp w) c a.kE.Kids) (hm:oM a=some r) :
  la true pg0 70 [(.agg #[(.int .i64 a.Signed.kC.Kind),(.string a.Signed.kC.Head.kA),(.string a.Signed.kC.Head.Word),(.string a.Signed.kC.mC),(.string a.Signed.kC.B.kA),(.string a.Signed.kC.B.Word),(.string a.Signed.kC.C.kA),(.string a.Signed.kC.C.Word),(.string a.Signed.kC.mA),g,(.int .i64 a.kE.Op),(.int .i64 a.kE.K),(.string a.kE.kz.kA),(.string a.kE.kz.Word),c])] w (.agg (kI r).toArray):=by
 refine cG 6 func70 rfl (λd=>sg ?_)
 obtain ⟨k,u,rfl⟩:=j.form
 obtain ⟨t,x,rfl⟩:=i.form
 refine VE (ly d rfl (λy D d=>VE (lT d dT (λz G d=>lr (Wf vg (Wf yD (VA d (Mt Mh) (kI a.Signed.kC) cA aR (VO (lp (.agg (kI a.Signed.kC).toArray) ((kI a.Signed.kC).toArray) d rfl rfl aR (qM a.Signed.kC) nb rfl (λB d=>ln ?_))))))))))
 replace d:=d.kB (Kb (Db St))
 refine lB ?_
 obtain rfl:=sj hm
 exact qQ (v:=(.agg (kI a.Signed.kC).toArray)) rfl rfl (kL d.has Mh (kI a.Signed.kC) rfl cA aR) ⟨rfl,d.ex⟩
theorem Fe (a:Value) (j:List Int) (c:Value) (k:List Int) (r:Bool) (w:World) (g:Sl (Pl (lP .u8)) 1 (hp w) a j) (i:Sl (Pl (lP .u8)) 1 (hp w) c k) (hm:xa j k=some r) :
  la true pg0 72 [a,c] w (.bool r):=by
 refine cG 10 func72 rfl (λd=>sg (Wa (lr (Wm (V (uO cC dU bN rfl (g.mono (Pl.mono _) d.kG)) (Wm (V (uO cC dU bN rfl (i.mono (Pl.mono _) d.kG)) (V (qe rfl rfl rfl) (Wa (lu ?_))))))))))
 exact kP (lB (rQ hm d))
theorem sr (G:Value) (N:List Formula) (H:Value) (p:List Formula) (I:Value) (f2:(Formula×Formula)→Option Bool) (r:Bool) (w:World) (x:Sl kD 5 (hp w) G N) (Q:Sl kD 5 (hp w) H p) (v:ud pg0 I (hp w) (uu kD kD) (λ(r:Bool)=>(.bool r)) f2) (hm:oh N p f2=some r) :
  la false pg0 136 [G,H,I] w (.bool r):=by
 refine cG 32 func136 rfl (λd=>sg (Wa (lS (Wm (V (mx aH rfl x) (Wm (V (mx aH rfl Q) (Wi rfl (lu ?_)))))))))
 refine kP (CI hm rfl (λL hm=>?_) (λL hm=>?_))
 ·refine sg (Wa (lt (lV ?_)))
  obtain rfl:=sj hm
  exact rP d
 refine kS (Wm (V (mx aH rfl x) (Wm (ln (mj (λi E W=>∃y,(E 17= .int .i64 (i:Nat)∧E 16= .int .i64 (N.length:Nat))∧ST false lD w W (hp w) y∧E 1=H∧E 2=I∧E 15=G∧mB p f2 (N.drop i) i=some r) N.length x.len ⟨_,⟨rfl,rfl⟩,(d.kB St),rfl,rfl,rfl,hm⟩ dc dc dc (λ_ _ _ h=>by obtain ⟨_,q,_⟩:=h; exact q) ?_ ?_)))))
 ·rintro a4 E W U ⟨y,⟨n,s⟩,d,z,B,D,a⟩
  obtain ⟨g,c5,a9,A,a3⟩:=lX U
  rw [a9] at a
  refine bg (Wh n (VQ (mo (i:=(a4:Int)) (x0:=g) kD.out aH aG D n x (aM _) A) (λb9 ⟨_,⟨c2,rfl,J⟩,Y⟩=>V (kF rfl (lx d.has Y aZ aG)) (VE (lT d bG (λO b6 d=>Wa ?_))))))
  obtain ⟨j,t,rfl⟩:=J.form
  let a0:=(C2 g.Op g.K g.kz.kA g.kz.Word j g.Kids.length t)
  refine VO (lp (.agg a0.toArray) (a0.toArray) d rfl rfl aG oc nb rfl (λP d=>lr (Wh z (Wm (bS a λc M a=>VQ (mo (i:=(a4:Int)) (x0:=c) kD.out aH aG rfl rfl Q (kZ M) (kY M)) (λc0 ⟨_,⟨c3,rfl,K⟩,Z⟩=>V (kF rfl (lx d.has Z aZ aG)) (VE (lT d bG (λR b7 d=>?_)))))))))
  obtain ⟨k,u,rfl⟩:=K.form
  let a5:=(C2 c.Op c.K c.kz.kA c.kz.Word k c.Kids.length u)
  refine VO (lp (.agg a5.toArray) (a5.toArray) d rfl rfl aG oc nb rfl (λb4 d=>lr (Wh B (VA d (Mt Mh) a0 aZ aG (VA d Mh a5 aZ aG (bS a λc1 a2 a=>VE (pY (g,c) d v (lz.refl _) (uu.mk kT kT (kD.mk ⟨(.slice j g.Kids.length t),rfl,J⟩) (kD.mk ⟨(.slice k c.Kids.length u),rfl,K⟩) d.kG) rfl (qJ rfl rfl) a2 (λb5 d=>V (nv rfl) (ln ?_)))))))))
  replace d:=d.kB (Db (Db St))
  refine CI a rfl (λT a=>?_) (λT a=>?_)
  ·refine sg (Wa (lt (nU (lV (nU (lV ?_))))))
   obtain rfl:=sj a
   exact rP d
  exact mM (lI (kP ⟨n,_,⟨rfl,s⟩,(d.kB St),z,B,D,(by rw [a3]; exact a)⟩))
 rintro E W ⟨y,⟨n,s⟩,d,z,B,D,a⟩
 rw [aO] at a
 exact kP (sg (Wa (lt (rQ a d))))
theorem Fo (M:Formula→Formula→Option Bool) (P:∀(a:Formula) (j:Value) (c:Formula) (k:Value) (r:Bool) (w:World) (u:Sl kD 5 (hp w) j a.Kids) (y:Sl kD 5 (hp w) k c.Kids),M a c=some r→la false pg0 61 [(.agg #[(.int .i64 a.Op),(.int .i64 a.K),(.string a.kz.kA),(.string a.kz.Word),j]),(.agg #[(.int .i64 c.Op),(.int .i64 c.K),(.string c.kz.kA),(.string c.kz.Word),k])] w (.bool r)) (a:Formula) (j:Value) (c:Formula) (k:Value) (r:Bool) (w:World) (u:Sl kD 5 (hp w) j a.Kids) (y:Sl kD 5 (hp w) k c.Kids) (hm:xk M a c=some r) :
  la false pg0 61 [(.agg #[(.int .i64 a.Op),(.int .i64 a.K),(.string a.kz.kA),(.string a.kz.Word),j]),(.agg #[(.int .i64 c.Op),(.int .i64 c.K),(.string c.kz.kA),(.string c.kz.Word),k])] w (.bool r):=by
 refine cG 31 func61 rfl (λd=>sg ?_)
 obtain ⟨N,Y,rfl⟩:=u.form
 let n:=(C2 a.Op a.K a.kz.kA a.kz.Word N a.Kids.length Y)
 refine VE (ly d rfl (λW4 T d=>?_))
 obtain ⟨Q,Z,rfl⟩:=y.form
 let a0:=(C2 c.Op c.K c.kz.kA c.kz.Word Q c.Kids.length Z)
 refine VE (ly d rfl (λW8 U d=>Wa (lr (Wf qt (VB d (Mt Mh) rfl rfl bX (Wf qt (VB d Mh rfl rfl bX (Wi rfl (Wm (LJ hm (λa9 E W=>∃a2,ST false lD w W (hp w) ((U,Ol a0 30)::((T,Ol n 30)::a2))∧E 2=(.pointer (some ⟨T,0,none⟩))∧E 3=(.pointer (some ⟨U,0,none⟩))∧E 4=(.bool false)∧E 16=(.bool a9)) 6 ?_ (λa9 D I=>?_)))))))))))
 ·rintro d1 E W ⟨a2,d,J,K,a5,R⟩ v
  refine Wh R (LJ v (λs E W=>∃a3,ST false lD w W (hp w) ((U,Ol a0 30)::((T,Ol n 30)::a3))∧E 2=(.pointer (some ⟨T,0,none⟩))∧E 3=(.pointer (some ⟨U,0,none⟩))∧E 4=(.bool false)∧E 23=(.bool s)) 6 ?_ (λs B H=>?_))
  ·rintro d2 E W ⟨a3,d,b9,c0,p,c1⟩ A
   refine Wh c1 (LJ A (λq E W=>∃a4,ST false lD w W (hp w) a4∧E 4=(.bool false)∧E 30=(.bool q)) 6 ?_ (λq z G=>?_))
   ·rintro d3 E W ⟨a4,d,c9,c3⟩ L
    exact Wg c3 (lt (rQ L d))
   refine bC z (λi z=>?_) (λi z=>?_)
   ·refine ug i (kJ pS b9) (ug i (kF rfl (kV d.has (Mt Mh) rfl eZ)) (ug i (kJ pS c0) (ug i (kF rfl (kV d.has Mh rfl eZ)) (bS z λd0 O z=>rU i (Eg d call136 (sr (.slice N a.Kids.length Y) a.Kids (.slice Q c.Kids.length Z) c.Kids (.func (.func 61) #[] #[]) (λ(x:(Formula×Formula))=>M x.1 x.2) _ _ (u.mono kT.mono d.kG) (y.mono kT.mono d.kG) ⟨61,#[],#[],rfl,call61,λW x vs r hs hR hm=>by obtain ⟨_,_,rfl,c4,c5⟩:=hR; obtain ⟨u0,rfl,k0⟩:=c4.out; obtain ⟨t0,rfl,j0⟩:=c5.out; exact P x.1 u0 x.2 t0 r W k0 j0 hm⟩ O) (λc8 d=>V (lb (cB i) rfl) ?_))))))
    obtain rfl:=sj z
    exact G _ _ ⟨_,(d.kB (Db (Db St))),p,rfl⟩
   refine un i (un i (un i (un i (un i (V (lf (cB i) rfl) ?_)))))
   obtain rfl:=sj z
   exact G _ _ ⟨_,(d.kB (Db (Db St))),p,rfl⟩
  refine bC B (λg B=>?_) (λg B=>?_)
  ·refine ug g (kJ ux J) (ug g (kF rfl (kL d.has (Mt Mh) (kN a.kz) rfl bI aP)) (ug g (kJ ux K) (ug g (kF rfl (kL d.has Mh (kN c.kz) rfl bI aP)) (ug g (wD rfl rfl (oX fI) (tE (rD _ a.kz c.kz))) (V (lb (cB g) rfl) ?_)))))
   obtain rfl:=sj B
   exact H _ _ ⟨_,(d.kB St),J,K,a5,rfl⟩
  refine un g (un g (un g (un g (un g (V (lf (cB g) rfl) ?_)))))
  obtain rfl:=sj B
  exact H _ _ ⟨_,(d.kB St),J,K,a5,rfl⟩
 refine bC D (λt D=>?_) (λt D=>?_)
 ·refine ug t (kJ uA rfl) (ug t (kF rfl (kV d.has (Mt Mh) rfl bX)) (ug t (kJ uA rfl) (ug t (kF rfl (kV d.has Mh rfl bX)) (ug t (lE rfl rfl rfl) (V (lb (cB t) rfl) ?_)))))
  obtain rfl:=sj D
  exact I _ _ ⟨_,(d.kB St),rfl,rfl,rfl,rfl⟩
 refine un t (un t (un t (un t (un t (V (lf (cB t) rfl) ?_)))))
 obtain rfl:=sj D
 exact I _ _ ⟨_,(d.kB St),rfl,rfl,rfl,rfl⟩
theorem wg:∀(n:Nat) (g:Formula) (a:Value) (i:Formula) (c:Value) (r:Bool) (w:World) (j:Sl kD 5 (hp w) a g.Kids) (k:Sl kD 5 (hp w) c i.Kids) (_:oP n g i=some r),
  la false pg0 61 [(.agg #[(.int .i64 g.Op),(.int .i64 g.K),(.string g.kz.kA),(.string g.kz.Word),a]),(.agg #[(.int .i64 i.Op),(.int .i64 i.K),(.string i.kz.kA),(.string i.kz.Word),c])] w (.bool r)
 | 0=>by intros; rename_i h; simp only [oP] at h; cases h
 | n+1=>Fo (oP n) (wg n)
theorem GS (a:lh) (y k:Value) (c:lh) (z t:Value) (r:Bool) (w:World) (u:Sl (Pl (lP .u8)) 1 (hp w) y a.Signed.Tag) (i:Sl kD 5 (hp w) k a.kE.Kids) (x:Sl (Pl (lP .u8)) 1 (hp w) z c.Signed.Tag) (j:Sl kD 5 (hp w) t c.kE.Kids) (hm:pG a c=some r) :
  la false pg0 71 [(.agg #[(.int .i64 a.Signed.kC.Kind),(.string a.Signed.kC.Head.kA),(.string a.Signed.kC.Head.Word),(.string a.Signed.kC.mC),(.string a.Signed.kC.B.kA),(.string a.Signed.kC.B.Word),(.string a.Signed.kC.C.kA),(.string a.Signed.kC.C.Word),(.string a.Signed.kC.mA),y,(.int .i64 a.kE.Op),(.int .i64 a.kE.K),(.string a.kE.kz.kA),(.string a.kE.kz.Word),k]),(.agg #[(.int .i64 c.Signed.kC.Kind),(.string c.Signed.kC.Head.kA),(.string c.Signed.kC.Head.Word),(.string c.Signed.kC.mC),(.string c.Signed.kC.B.kA),(.string c.Signed.kC.B.Word),(.string c.Signed.kC.C.kA),(.string c.Signed.kC.C.Word),(.string c.Signed.kC.mA),z,(.int .i64 c.kE.Op),(.int .i64 c.kE.K),(.string c.kE.kz.kA),(.string c.kE.kz.Word),t])] w (.bool r):=by
 refine cG 19 func71 rfl (λd=>sg ?_)
 obtain ⟨U,Z,rfl⟩:=u.form
 obtain ⟨J,M,rfl⟩:=i.form
 refine VE (ly d rfl (λW6 L d=>?_))
 obtain ⟨Y,n,rfl⟩:=x.form
 obtain ⟨K,G,rfl⟩:=j.form
 refine VE (ly d rfl (λa4 q d=>Wa (lr (Wf vg (Wf D6 (VB d (Mt Mh) rfl rfl gI (Wf vg (Wf D6 (VB d Mh rfl rfl gI (bS hm λa9 Q hm=>VE (Eg d call72 (la.mK (Fe (.slice U a.Signed.Tag.length Z) a.Signed.Tag (.slice Y c.Signed.Tag.length n) c.Signed.Tag _ _ (u.mono (Pl.mono _) d.kG) (x.mono (Pl.mono _) d.kG) Q)) (λa5 d=>Wm ?_))))))))))))
 refine LJ hm (λI E W=>∃H,ST false lD w W (hp w) H∧E 4=(.bool false)∧E 18=(.bool I)) 6 ?_ (λI B D=>?_)
 ·rintro A E W ⟨H,d,s,a3⟩ N
  exact Wg a3 (lt (rQ N d))
 refine bC B (λg B=>?_) (λg B=>?_)
 ·refine ug g (kJ Cy rfl) (ug g (kF rfl (kL d.has (Mt Mh) (C2 a.kE.Op a.kE.K a.kE.kz.kA a.kE.kz.Word J a.kE.Kids.length M) rfl aZ aG)) (ug g (kJ Cy rfl) (ug g (kF rfl (kL d.has Mh (C2 c.kE.Op c.kE.K c.kE.kz.kA c.kE.kz.Word K c.kE.Kids.length G) rfl aZ aG)) (bS B λv T B=>rU g (Eg d call61 ((wg li) a.kE (.slice J a.kE.Kids.length M) c.kE (.slice K c.kE.Kids.length G) _ _ (i.mono kT.mono d.kG) (j.mono kT.mono d.kG) T) (λp d=>V (lb (cB g) rfl) ?_))))))
  obtain rfl:=sj B
  exact D _ _ ⟨_,(d.kB (Db (Db St))),rfl,rfl⟩
 refine un g (un g (un g (un g (un g (V (lf (cB g) rfl) ?_)))))
 obtain rfl:=sj B
 exact D _ _ ⟨_,(d.kB (Db (Db St))),rfl,rfl⟩
theorem Te (w:World) (s:ByteArray) (c:Int):(callFunc 282 [Value.string s,.int .u8 c].toArray).run pg0 w= .ok (.value (.int .i64 (yn s c))) w:=IK func282 (by kernel_rfl) (by kernel_rfl) (by kernel_rfl) (by kernel_rfl) s c w
theorem zn (a:ByteArray) (c r:Int) (w:World) (hm:qj a c=some r) :
  la true pg0 220 [(.string a),(.int .u8 c)] w (.int .i64 r):=by
 exact cG 8 func220 rfl (λd=>sg (Wa (lr (Wm (Wm (VE (J6 (args:=[(.string a),(.int .u8 c)]) (v:=.int .i64 (yn a c)) rfl (by exact qJ rfl rfl) (Te _ a c) (Wa (lt (rQ hm d))))))))))
theorem Ay (a:ByteArray) (c r:Int) (w:World) (hm:td a c=some r) :
  la true pg0 163 [(.string a),(.int .u8 c)] w (.int .i64 r):=by
 refine cG 8 func163 rfl (λd=>sg (Wa (lr (Wm (Wm (bS hm λj g hm=>VE (Eg d call220 (zn a c _ _  g) (λi d=>Wa (ln ?_)))))))))
 exact lB (rQ hm d)
theorem Mf (I:ByteArray) (r:Bool) (w:World) (hm:Dv I=some r) :
  la true pg0 164 [(.string I)] w (.bool r):=by
 refine cG 16 func164 rfl (λd=>sg (Wa (lS (Wm (bS hm λH J hm=>VE (JF d bN cC dU rfl J (λW3 N T d M s j Y=>V (mx cC rfl j) (Wm (lu ?_)))))))))
 refine kP (mj (λi E W=>∃c,(E 8= .int .i64 (i:Nat)∧E 7= .int .i64 (H.length:Nat))∧ST true lD w W T c∧E 6=N∧we (H.drop i)=some r) H.length j.len ⟨_,⟨rfl,rfl⟩,(d.kB St),rfl,hm⟩ dc dc dc (λ_ _ _ h=>by obtain ⟨_,p,_⟩:=h; exact p) ?_ ?_)
 ·rintro K E W u ⟨c,⟨n,q⟩,d,g,a⟩
  obtain ⟨k,Q,D,B,G⟩:=lX u
  rw [D] at a
  refine bg (VQ (th (enc:=(lP .u8)) (i:=(K:Int)) (x0:=k) cC kv g n j (aM _) B) (λZ x=>V (kF rfl (pO d.has (y:=(.int .u8 k)) x isAgg5)) (Wa (lr (Wm (bS a λv z a=>VE (Eg d call163 (Ay (⟨#[97,98,99,100,101,102,103,104,105,106,107,108,109,110,111,112,113,114,115,116,117,118,119,120,121,122,48,49,50,51,52,53,54,55,56,57,45]⟩:ByteArray) k _ _  z) (λU d=>Wi rfl (lu ?_)))))))))
  refine kP (CI a rfl (λt a=>?_) (λt a=>?_))
  ·refine sg (Wa (lt (nU (lV (nU (lV ?_))))))
   obtain rfl:=sj a
   exact rP d
  exact mM (lI (kP ⟨n,_,⟨rfl,q⟩,(d.kB St),g,(by rw [G]; exact a)⟩))
 rintro E W ⟨c,⟨n,q⟩,d,g,a⟩
 rw [aO] at a
 exact kP (sg (Wa (lt (rQ a d))))
theorem vT (z:ByteArray) (r:Bool) (w:World) (hm:sD z=some r) :
  la true pg0 93 [(.string z)] w (.bool r):=by
 refine cG 21 func93 rfl (λd=>sg (Wa (lr (Wm (V (pL bN rfl) (Wi rfl (Wm (LJ hm (λK E W=>∃Y,ST true lD w W (hp w) Y∧E 0=(.string z)∧E 2=(.bool false)∧E 10=(.bool K)) 4 ?_ (λK t y=>?_)))))))))
 ·rintro x2 E W ⟨Y,d,M,n,q⟩ a5
  refine Wh q (LJ a5 (λJ E W=>∃D,ST true lD w W (hp w) D∧E 0=(.string z)∧E 2=(.bool false)∧E 16=(.bool J)) 5 ?_ (λJ a x=>?_))
  ·rintro O E W ⟨D,d,p,H,a2⟩ N
   refine Wh a2 (LJ N (λI E W=>∃G,ST true lD w W (hp w) G∧E 2=(.bool false)∧E 20=(.bool I)) 3 ?_ (λI j u=>?_))
   ·rintro P E W ⟨G,d,a9,a3⟩ Q
    exact Wg a3 (lt (rQ Q d))
   refine bC j (λg j=>?_) (λg j=>?_)
   ·refine ug g (kH p) (bS j λA T j=>rU g (Eg d call164 (Mf z _ _  T) (λs d=>V (lb (cB g) rfl) ?_)))
    obtain rfl:=sj j
    exact u _ _ ⟨_,(d.kB St),H,rfl⟩
   refine un g (un g (V (lf (cB g) rfl) ?_))
   obtain rfl:=sj j
   exact u _ _ ⟨_,(d.kB St),H,rfl⟩
  refine bC a (λc a=>?_) (λc a=>?_)
  ·refine ug c (kH M) (bS a λZ B a=>ug c (BQ (i:=0) bN rfl rfl (Bg B) (ET B)) (bS a λL U a=>rU c (Eg d call163 (Ay (⟨#[97,98,99,100,101,102,103,104,105,106,107,108,109,110,111,112,113,114,115,116,117,118,119,120,121,122]⟩:ByteArray) (Z.toNat:Int) _ _  U) (λv d=>ug c (lE rfl rfl rfl) (V (lb (cB c) rfl) ?_)))))
   obtain rfl:=sj a
   exact x _ _ ⟨_,(d.kB St),M,n,rfl⟩
  refine un c (un c (un c (un c (V (lf (cB c) rfl) ?_))))
  obtain rfl:=sj a
  exact x _ _ ⟨_,(d.kB St),M,n,rfl⟩
 refine bC t (λk t=>?_) (λk t=>?_)
 ·refine ug k (kH rfl) (ug k (pL bN rfl) (ug k (lE rfl rfl rfl) (V (lb (cB k) rfl) ?_)))
  obtain rfl:=sj t
  exact y _ _ ⟨_,(d.kB St),rfl,rfl,rfl⟩
 refine un k (un k (un k (V (lf (cB k) rfl) ?_)))
 obtain rfl:=sj t
 exact y _ _ ⟨_,(d.kB St),rfl,rfl,rfl⟩
theorem tY (i:kz) (r:Bool) (w:World) (hm:qS i=some r) :
  la true pg0 206 [(.agg (kN i).toArray)] w (.bool r):=by
 refine cG 11 func206 rfl (λd=>sg (VE (ly d rfl (λH J d=>Wa (lr (Wf qR (VB d Mh rfl rfl bT (bS hm λK y hm=>VE (Eg d call93 (vT i.kA _ _  y) (λI d=>Wm (LJ hm (λk E W=>∃j,ST true lD w W (hp w) j∧E 2=(.bool false)∧E 10=(.bool k)) 4 ?_ (λk a g=>?_))))))))))))
 ·rintro G E W ⟨j,d,B,x⟩ t
  exact Wg x (lt (rQ t d))
 refine bC a (λc a=>?_) (λc a=>?_)
 ·refine ug c (kJ sU rfl) (ug c (kF rfl (kV d.has Mh rfl bT)) (bS a λD u a=>rU c (Eg d call93 (vT i.Word _ _  u) (λz d=>V (lb (cB c) rfl) ?_))))
  obtain rfl:=sj a
  exact g _ _ ⟨_,(d.kB (Db St)),rfl,rfl⟩
 refine un c (un c (un c (V (lf (cB c) rfl) ?_)))
 obtain rfl:=sj a
 exact g _ _ ⟨_,(d.kB (Db St)),rfl,rfl⟩
theorem SM (w:World) (a b:ByteArray):(callFunc 273 [Value.string a,.string b].toArray).run pg0 w= .ok (.value (.int .i64 (vD a b))) w:=Pt func273 (by kernel_rfl) (by kernel_rfl) (by kernel_rfl) (by kernel_rfl) a b w
theorem zg (a c:ByteArray) (r:Int) (w:World) (hm:rM a c=some r) :
  la true pg0 215 [(.string a),(.string c)] w (.int .i64 r):=by
 exact cG 8 func215 rfl (λd=>sg (Wa (lr (Wm (Wm (VE (J6 (args:=[(.string a),(.string c)]) (v:=.int .i64 (vD a c)) rfl (by exact qJ rfl rfl) (SM _ a c) (Wa (lt (rQ hm d))))))))))
theorem BH (a c:ByteArray) (r:Int) (w:World) (hm:vR a c=some r) :
  la true pg0 156 [(.string a),(.string c)] w (.int .i64 r):=by
 refine cG 8 func156 rfl (λd=>sg (Wa (lr (Wm (Wm (bS hm λj g hm=>VE (Eg d call215 (zg a c _ _  g) (λi d=>Wa (ln ?_)))))))))
 exact lB (rQ hm d)
theorem Lr (g:Value) (t:List Int) (r:Int) (w:World) (c:Sl (Pl (lP .i64)) 1 (hp w) g t) (hm:B9 t=some r) :
  la true pg0 155 [g] w (.int .i64 r):=by
 refine cG 18 func155 rfl (λd=>sg (Wa (lr (Wa (lS (Wm ?_))))))
 refine V (mx underlying257 rfl c) (Wm (ln (mj (λi E W=>∃k,(E 8= .int .i64 (i:Nat)∧E 7= .int .i64 (t.length:Nat))∧ST true lD w W (hp w) k∧E 3=(.int .i64 0)∧E 6=g∧xp (t.drop i)=some r) t.length c.len ⟨_,⟨rfl,rfl⟩,(d.kB St),rfl,rfl,hm⟩ dc dc dc (λ_ _ _ h=>by obtain ⟨_,p,_⟩:=h; exact p) ?_ ?_)))
 ·rintro J E W B ⟨k,⟨n,q⟩,d,j,u,a⟩
  obtain ⟨x,K,H,G,I⟩:=lX B
  rw [H] at a
  refine bg (VQ (th (enc:=(lP .i64)) (i:=(J:Int)) (x0:=x) underlying257 gS u n c (aM _) G) (λM D=>V (kF rfl (pO d.has (y:=(.int .i64 x)) D bX)) (Wa (lr (Wm (Wh j (Wi rfl (ln ?_))))))))
  refine CI a rfl (λz a=>?_) (λz a=>?_)
  ·refine sg (Wm (Wa (lt (nU (lV (nU (lV ?_)))))))
   obtain rfl:=sj a
   exact rP d
  exact mM (lI (kP ⟨n,_,⟨rfl,q⟩,(d.kB St),j,u,(by rw [I]; exact a)⟩))
 rintro E W ⟨k,⟨n,q⟩,d,j,u,a⟩
 rw [aO] at a
 exact kP (sg (Wh j (Wa (lt (rQ a d)))))
theorem AF (g i:kz) (r:Int) (w:World) (hm:oR g i=some r) :
  la true pg0 83 [(.agg (kN g).toArray),(.agg (kN i).toArray)] w (.int .i64 r):=by
 refine cG 17 func83 rfl (λd=>sg (VE (ly d rfl (λG I d=>VE (ly d rfl (λH J d=>Wa (ln (kQ ?_))))))))
 replace d:=d.drew
 have n:=d.has.kB (Kb (Kb Sn))
 refine lC n lj (X 0 rfl n (kJ qR rfl) (XH 1 rfl n (λ_ p=>kF rfl (kV p (Mt Mh) rfl bT)) (X 2 rfl n (kJ qR rfl) (XH 3 rfl n (λ_ p=>kF rfl (kV p Mh rfl bT)) (X 5 rfl n (kJ sU rfl) (XH 6 rfl n (λ_ p=>kF rfl (kV p (Mt Mh) rfl bT)) (X 7 rfl n (kJ sU rfl) (XH 8 rfl n (λ_ p=>kF rfl (kV p Mh rfl bT)) (bS hm λa j hm=>XE 4 rfl (Eg d call156 (BH g.kA i.kA _ _  j) (λx d=>?_)))))))))))
 have n:=d.has.kB (Kb (Kb Sn))
 refine ⟨n,(bS hm λc k hm=>XE 9 rfl (Eg d call156 (BH g.Word i.Word _ _  k) (λy d=>?_)))⟩
 have n:=d.has.kB (Kb (Kb Sn))
 refine ⟨n,(XE 10 rfl (lJ (cs:=#[(.int .i64 a),(.int .i64 c)]) d (uB rfl rfl) (oa underlying257 gS zeroValue3) (λz u d=>?_)))⟩
 have n:=d.has.kB (Db (Kb (Kb Sn)))
 refine ⟨n,(bS hm λD t hm=>XE 11 rfl (Eg d call155 (Lr (.slice (some ⟨u,0,none⟩) 2 2) ([a,c]) _ _ (Sl.lit (enc:=(lP .i64)) (l:=[a,c]) (λ_=>rfl) rfl nb rfl (d.at_ Mh)) t) (λB d=>?_)))⟩
 have n:=d.has.kB (Db (Kb (Kb Sn)))
 refine ⟨n,(X 12 rfl n (mU rfl) (lH kr (kP ?_)))⟩
 exact lB (rQ hm d)
set_option maxHeartbeats 4000000 in
theorem xT (a:kC) (r:Bool) (w:World) (hm:tW a=some r) :
  la true pg0 144 [(.agg (kI a).toArray)] w (.bool r):=by
 let m9:=(⟨a.Kind,a.Head,zS,a.B,a.C,zS⟩:kC)
 let j2:=(⟨a.Kind,a.Head,zS,a.B,K0,a.mA⟩:kC)
 let j1:Value:=(.agg (kN a.B).toArray)
 let g6:=((kI (⟨a.Kind,a.Head,zS,a.B,K0,zS⟩:kC)).toArray)
 let L:=(⟨a.Kind,a.Head,zS,K0,K0,zS⟩:kC)
 refine cG 98 func144 rfl (λd=>sg (VE (ly d rfl (λW2 N d=>Wa (lr (Wf rY (VB d Mh rfl rfl bX (Wf vF (VA d Mh (kN a.Head) bI aP (V (nB (v:=(.agg (kI L).toArray)) (uB rfl rfl) (nk dT eW (Tj _ eW) kr)) (VE (lT d dT (λW4 B d=>?_)))))))))))))
 refine VO (lp (.agg (kI L).toArray) ((kI L).toArray) d rfl rfl aR (qM L) nb rfl (λW5 d=>lr (Wf vF (VA d (Mt Mh) (kN a.Head) bI aP (bS hm λA j4 hm=>VE (Eg d jU (tY a.Head _ _  j4) (λW8 d=>Wa (ln (kQ (T3 hm (λR E W=>∃b6,ST true lD w W (hp w) ((B,Ol (kI R.2) 52)::((N,Ol (kI a) 52)::b6))∧E 1=(.pointer (some ⟨N,0,none⟩))∧E 3=(.pointer (some ⟨B,0,none⟩))∧E 4=(.bool R.1)) (λR g Z=>?_) ?_))))))))))
 ·let g5:=((kI m9).toArray:Array Value)
  let b8:=((kI j2).toArray:Array Value)
  let s:Value:=(.pointer (some ⟨B,0,none⟩))
  let q:Value:=(.pointer (some ⟨N,0,none⟩))
  let a0:=((kI a).toArray:Array Value)
  refine sg (Wf rY (VB d (Mt Mh) rfl rfl bX (ln (bg (Wi rfl (Wa (ln (CI g rfl (λe5 g=>?_) (λe5 g=>?_)))))))))
  ·replace d:=d.drew
   have n:=d.has.kB (Db (Kb Sn))
   refine lC n lj (X 0 rfl n (kJ xL rfl) (XH 1 rfl n (λ_ p=>kF rfl (kV p Mh rfl bT)) (X 2 rfl n (kH rfl) (X 3 rfl n (kH rfl) (X 8 rfl n (kJ xL rfl) (PJ g (λd6 E W=>∃b9,ST true lD w W (hp w) ((B,Ol (kI L) 52)::((N,Obj.cells a0 52 (0,0))::b9))∧E 1=q∧E 3=s∧E 4=(.bool A)∧E 18=(.string a.mC)∧E 24=(.bool d6)∧E 25=(.pointer (some ⟨B,3,none⟩))) (bm 11 511) 2 ?_ (λd6 D a2=>?_)))))))
   ·rintro m1 E W ⟨b9,d,h2,h3,k8,h4,h5,h6⟩ f1
    refine XO 9 rfl (lp (.string a.mC) ((kI (⟨a.Kind,a.Head,a.mC,K0,K0,zS⟩:kC)).toArray) d h6 h4 fY (P8 a.mC) nb rfl (λj5 d=>?_))
    have n:=d.has.kB (Db (Kb Sn))
    refine ⟨n,(X 10 rfl n (mU h5) (lH kr (lI (kP ?_))))⟩
    obtain rfl:=sj f1
    exact ⟨_,rfl,_,(d.kB St),h2,h3,rfl⟩
   refine bC D (λk D=>?_) (λk D=>?_)
   ·refine Xg 4 rfl rfl (cB k) n (kJ xL rfl) (pu 5 rfl rfl (cB k) n (λ_ p=>kF rfl (kV p Mh rfl bT)) (bS D λl2 f9 D=>yq 6 rfl rfl (cB k) (Eg d call93 (vT a.mC _ _  f9) (λj6 d=>?_))))
    have n:=d.has.kB (Db (Kb Sn))
    refine ⟨n,(X 7 rfl n (lb (cB k) rfl) ?_)⟩
    obtain rfl:=sj D
    refine nf kr (a2 _ _ ⟨_,(d.kB St),rfl,rfl,rfl,rfl,rfl,rfl⟩)
   refine Xn 4 rfl rfl (cB k) n (Xn 5 rfl rfl (cB k) n (Xn 6 rfl rfl (cB k) n (X 7 rfl n (lf (cB k) rfl) ?_)))
   obtain rfl:=sj D
   refine nf kr (a2 _ _ ⟨_,(d.kB St),rfl,rfl,rfl,rfl,rfl,rfl⟩)
  refine sg (Wi rfl (Wa (ln (CI g rfl (λe6 g=>?_) (λe6 g=>?_)))))
  ·replace d:=d.drew
   have n:=d.has.kB (Db (Kb Sn))
   refine lC n lj (X 0 rfl n (kJ qq rfl) (XH 1 rfl n (λ_ p=>kF rfl (kL p Mh (kN a.B) rfl bI aP)) (X 2 rfl n (kH rfl) (X 3 rfl n (kH rfl) (X 8 rfl n (kJ qq rfl) (PJ g (λd7 E W=>∃c0,ST true lD w W (hp w) ((B,Ol (kI L) 52)::((N,Obj.cells a0 52 (0,0))::c0))∧E 1=q∧E 3=s∧E 4=(.bool A)∧E 29=j1∧E 35=(.bool d7)∧E 36=(.pointer (some ⟨B,4,none⟩))) (bm 11 511) 2 ?_ (λd7 G a3=>?_)))))))
   ·rintro m2 E W ⟨c0,d,h7,h8,k9,h9,i0,i1⟩ f2
    refine XO 9 rfl (lp j1 g6 d i1 h9 aP (wo a.B) nb rfl (λj7 d=>?_))
    have n:=d.has.kB (Db (Kb Sn))
    refine ⟨n,(X 10 rfl n (mU i0) (lH kr (lI (kP ?_))))⟩
    obtain rfl:=sj f2
    exact ⟨_,rfl,_,(d.kB St),h7,h8,rfl⟩
   refine bC G (λt G=>?_) (λt G=>?_)
   ·refine Xg 4 rfl rfl (cB t) n (kJ qq rfl) (pu 5 rfl rfl (cB t) n (λ_ p=>kF rfl (kL p Mh (kN a.B) rfl bI aP)) (bS G λl3 g0 G=>yq 6 rfl rfl (cB t) (Eg d jU (tY a.B _ _  g0) (λj8 d=>?_))))
    have n:=d.has.kB (Db (Kb Sn))
    refine ⟨n,(X 7 rfl n (lb (cB t) rfl) ?_)⟩
    obtain rfl:=sj G
    refine nf kr (a3 _ _ ⟨_,(d.kB St),rfl,rfl,rfl,rfl,rfl,rfl⟩)
   refine Xn 4 rfl rfl (cB t) n (Xn 5 rfl rfl (cB t) n (Xn 6 rfl rfl (cB t) n (X 7 rfl n (lf (cB t) rfl) ?_)))
   obtain rfl:=sj G
   refine nf kr (a3 _ _ ⟨_,(d.kB St),rfl,rfl,rfl,rfl,rfl,rfl⟩)
  refine sg (Wi rfl (Wa (ln (CI g rfl (λe7 g=>?_) (λe7 g=>?_)))))
  ·refine kQ ?_
   replace d:=d.drew
   have n:=d.has.kB (Db (Kb Sn))
   refine lC n lj (X 0 rfl n (kJ qq rfl) (XH 1 rfl n (λ_ p=>kF rfl (kL p Mh (kN a.B) rfl bI aP)) (X 2 rfl n (kJ wW rfl) (XH 3 rfl n (λ_ p=>kF rfl (kV p Mh rfl bT)) (X 4 rfl n (kJ qq rfl) (XO 5 rfl (lp j1 g6 d rfl rfl aP (wo a.B) nb rfl (λj9 d=>?_))))))))
   have n:=d.has.kB (Db (Kb Sn))
   refine ⟨n,(X 6 rfl n (kJ wW rfl) (XO 7 rfl (lp (.string a.mA) ((kI j2).toArray) d rfl rfl fY (P8 a.mA) nb rfl (λk0 d=>?_))))⟩
   have n:=d.has.kB (Db (Kb Sn))
   refine ⟨n,(lH kr (kP (kR (Wm (Wm (LJ g (λe0 E W=>∃c1,ST true lD w W (hp w) ((B,Obj.cells b8 52 (0,0))::((N,Obj.cells a0 52 (0,0))::c1))∧E 1=q∧E 3=s∧E 4=(.bool A)∧E 50=(.bool e0)) 4 ?_ (λe0 I a6=>?_)))))))⟩
   ·rintro m3 E W ⟨c1,d,U,c7,c8,i2⟩ f3
    refine Wh i2 (LJ f3 (λd9 E W=>∃c2,ST true lD w W (hp w) ((B,Obj.cells b8 52 (0,0))::((N,Obj.cells a0 52 (0,0))::c2))∧E 1=q∧E 3=s∧E 4=(.bool A)∧E 59=(.bool d9)) 8 ?_ (λd9 T a5=>?_))
    ·rintro m4 E W ⟨c2,d,O,c9,d0,i3⟩ f4
     refine Wh i3 (LJ f4 (λd8 E W=>∃c3,ST true lD w W (hp w) ((B,Obj.cells b8 52 (0,0))::((N,Obj.cells a0 52 (0,0))::c3))∧E 1=q∧E 3=s∧E 4=(.bool A)∧E 64=(.bool d8)) 4 ?_ (λd8 H a4=>?_))
     ·rintro m5 E W ⟨c3,d,i4,i5,l0,i6⟩ f5
      refine Wg i6 (lu (lI (kP ?_)))
      obtain rfl:=sj f5
      exact ⟨_,rfl,_,(d.kB St),i4,i5,rfl⟩
     refine bC H (λx H=>?_) (λx H=>?_)
     ·refine ug x (kJ wW O) (ug x (kF rfl (kV d.has (Mt Mh) rfl bT)) (bS H λl4 g1 H=>rU x (Eg d call93 (vT a.mA _ _  g1) (λk1 d=>V (lb (cB x) rfl) ?_))))
      obtain rfl:=sj H
      exact a4 _ _ ⟨_,(d.kB St),O,c9,d0,rfl⟩
     refine un x (un x (un x (V (lf (cB x) rfl) ?_)))
     obtain rfl:=sj H
     exact a4 _ _ ⟨_,(d.kB St),O,c9,d0,rfl⟩
    refine bC T (λc T=>?_) (λc T=>?_)
    ·refine ug c (kJ qq U) (ug c (kJ qR rfl) (ug c (kF rfl (kV d.has (Mt Mh) rfl bT)) (ug c (kJ vF U) (ug c (kJ qR rfl) (ug c (kF rfl (kV d.has (Mt Mh) rfl bT)) (ug c (qe rfl rfl rfl) (V (lb (cB c) rfl) ?_)))))))
     obtain rfl:=sj T
     exact a5 _ _ ⟨_,(d.kB St),U,c7,c8,rfl⟩
    refine un c (un c (un c (un c (un c (un c (un c (V (lf (cB c) rfl) ?_)))))))
    obtain rfl:=sj T
    exact a5 _ _ ⟨_,(d.kB St),U,c7,c8,rfl⟩
   refine bC I (λu I=>?_) (λu I=>?_)
   ·refine ug u (kJ qq rfl) (ug u (kF rfl (kL d.has (Mt Mh) (kN a.B) rfl bI aP)) (bS I λl5 g2 I=>rU u (Eg d jU (tY a.B _ _  g2) (λk2 d=>V (lb (cB u) rfl) ?_))))
    obtain rfl:=sj I
    exact a6 _ _ ⟨_,(d.kB St),rfl,rfl,rfl,rfl⟩
   refine un u (un u (un u (V (lf (cB u) rfl) ?_)))
   obtain rfl:=sj I
   exact a6 _ _ ⟨_,(d.kB St),rfl,rfl,rfl,rfl⟩
  refine sg (Wi rfl (Wa (ln (CI g rfl (λe8 g=>?_) (λe8 g=>?_)))))
  ·refine kQ ?_
   replace d:=d.drew
   have n:=d.has.kB (Db (Kb Sn))
   refine lC n lj (X 0 rfl n (kJ qq rfl) (XH 1 rfl n (λ_ p=>kF rfl (kL p Mh (kN a.B) rfl bI aP)) (X 2 rfl n (kJ uR rfl) (XH 3 rfl n (λ_ p=>kF rfl (kL p Mh (kN a.C) rfl bI aP)) (X 4 rfl n (kJ qq rfl) (XO 5 rfl (lp j1 g6 d rfl rfl aP (wo a.B) nb rfl (λk3 d=>?_))))))))
   have n:=d.has.kB (Db (Kb Sn))
   refine ⟨n,(X 6 rfl n (kJ uR rfl) (XO 7 rfl (lp (.agg (kN a.C).toArray) ((kI m9).toArray) d rfl rfl aP (wo a.C) nb rfl (λk4 d=>?_))))⟩
   have n:=d.has.kB (Db (Kb Sn))
   refine ⟨n,(lH kr (kP (kR (Wm (Wm (LJ g (λe3 E W=>∃c4,ST true lD w W (hp w) ((B,Obj.cells g5 52 (0,0))::((N,Obj.cells a0 52 (0,0))::c4))∧E 1=q∧E 3=s∧E 4=(.bool A)∧E 78=(.bool e3)) 4 ?_ (λe3 M a9=>?_)))))))⟩
   ·rintro m6 E W ⟨c4,d,P,d1,d2,i7⟩ f6
    refine Wh i7 (LJ f6 (λe2 E W=>∃c5,ST true lD w W (hp w) ((B,Obj.cells g5 52 (0,0))::((N,Obj.cells a0 52 (0,0))::c5))∧E 1=q∧E 3=s∧E 4=(.bool A)∧E 83=(.bool e2)) 4 ?_ (λe2 K a8=>?_))
    ·rintro m7 E W ⟨c5,d,Y,d3,d4,i8⟩ f7
     refine Wh i8 (LJ f7 (λe1 E W=>∃c6,ST true lD w W (hp w) ((B,Obj.cells g5 52 (0,0))::((N,Obj.cells a0 52 (0,0))::c6))∧E 1=q∧E 3=s∧E 4=(.bool A)∧E 91=(.bool e1)) 7 ?_ (λe1 J a7=>?_))
     ·rintro m8 E W ⟨c6,d,i9,j0,l1,j3⟩ f8
      refine Wg j3 (lu (lI (kP ?_)))
      obtain rfl:=sj f8
      exact ⟨_,rfl,_,(d.kB St),i9,j0,rfl⟩
     refine bC J (λi J=>?_) (λi J=>?_)
     ·refine ug i (kJ qq Y) (ug i (kF rfl (kL d.has (Mt Mh) (kN a.B) rfl bI aP)) (ug i (kJ uR Y) (ug i (kF rfl (kL d.has (Mt Mh) (kN a.C) rfl bI aP)) (bS J λl6 g3 J=>rU i (Eg d call83 (AF a.B a.C _ _  g3) (λk5 d=>ug i (lE rfl rfl rfl) (V (lb (cB i) rfl) ?_)))))))
      obtain rfl:=sj J
      exact a7 _ _ ⟨_,(d.kB St),Y,d3,d4,rfl⟩
     refine un i (un i (un i (un i (un i (un i (V (lf (cB i) rfl) ?_))))))
     obtain rfl:=sj J
     exact a7 _ _ ⟨_,(d.kB St),Y,d3,d4,rfl⟩
    refine bC K (λz K=>?_) (λz K=>?_)
    ·refine ug z (kJ uR P) (ug z (kF rfl (kL d.has (Mt Mh) (kN a.C) rfl bI aP)) (bS K λl7 g4 K=>rU z (Eg d jU (tY a.C _ _  g4) (λk6 d=>V (lb (cB z) rfl) ?_))))
     obtain rfl:=sj K
     exact a8 _ _ ⟨_,(d.kB St),P,d1,d2,rfl⟩
    refine un z (un z (un z (V (lf (cB z) rfl) ?_)))
    obtain rfl:=sj K
    exact a8 _ _ ⟨_,(d.kB St),P,d1,d2,rfl⟩
   refine bC M (λy M=>?_) (λy M=>?_)
   ·refine ug y (kJ qq rfl) (ug y (kF rfl (kL d.has (Mt Mh) (kN a.B) rfl bI aP)) (bS M λl8 g7 M=>rU y (Eg d jU (tY a.B _ _  g7) (λk7 d=>V (lb (cB y) rfl) ?_))))
    obtain rfl:=sj M
    exact a9 _ _ ⟨_,(d.kB St),rfl,rfl,rfl,rfl⟩
   refine un y (un y (un y (V (lf (cB y) rfl) ?_)))
   obtain rfl:=sj M
   exact a9 _ _ ⟨_,(d.kB St),rfl,rfl,rfl,rfl⟩
  refine sg (Wa (ln ?_))
  replace d:=d.kB (Db (Db St))
  refine lB (nU (lV ?_))
  obtain rfl:=sj g
  replace Z:some false=some r:=Z
  obtain rfl:=sj Z
  exact rP d
 rintro ⟨l9,e4⟩ E W ⟨b6,d,g8,g9,h0⟩ e9
 refine sg (Wh h0 (Wm (LJ e9 (λd5 E W=>∃b7,ST true lD w W (hp w) b7∧E 97=(.bool d5)) 4 ?_ (λd5 Q a1=>?_))))
 ·rintro m0 E W ⟨b7,d,h1⟩ f0
  exact Wg h1 (lt (rQ f0 d))
 refine bC Q (λj Q=>?_) (λj Q=>?_)
 ·refine ug j (kF g9 (kL d.has Mh (kI e4) rfl cA aR)) (ug j (kF g8 (kL d.has (Mt Mh) (kI a) rfl cA aR)) (ug j (wD rfl rfl (oX gm) (tE (wJ _ e4 a))) (V (lb (cB j) rfl) ?_)))
  obtain rfl:=sj Q
  exact a1 _ _ ⟨_,(d.kB (Db (Db St))),rfl⟩
 refine un j (un j (un j (V (lf (cB j) rfl) ?_)))
 obtain rfl:=sj Q
 exact a1 _ _ ⟨_,(d.kB (Db (Db St))),rfl⟩
theorem vM (a:kz) (r:ByteArray) (w:World) (hm:rq a=some r) :
  la true pg0 79 [(.agg (kN a).toArray)] w (.string r):=by
 refine cG 9 func79 rfl (λd=>sg (VE (ly d rfl (λi j d=>Wa (lr (Wf qR (VB d Mh rfl rfl bT (bS hm λk c hm=>V (lU rfl rfl c) (Wf sU (VB d Mh rfl rfl bT ?_))))))))))
 refine bS hm λt g hm=>V (lU rfl rfl g) (Wa (ln ?_))
 exact lB (rQ hm d)
theorem LS (a:kC) (r:ByteArray) (w:World) (hm:DS a=some r) :
  la true pg0 145 [(.agg (kI a).toArray)] w (.string r):=by
 refine cG 31 func145 rfl (λd=>sg (VE (ly d rfl (λU Z d=>Wa (lS (Wf rY (VB d Mh rfl rfl bX (ln (me ?_)))))))))
 refine sg (Wi rfl (Wa (ln (CI hm rfl (λx hm=>?_) (λx hm=>?_)))))
 ·refine sg (Wf xL (VB d Mh rfl rfl bT (Wa (ln ?_))))
  replace d:=d.kB (Db St)
  refine lB (nU (lV ?_))
  obtain rfl:=sj hm
  exact rP d
 refine sg (Wi rfl (Wa (ln (CI hm rfl (λy hm=>?_) (λy hm=>?_)))))
 ·refine sg (Wf qq (VA d Mh (kN a.B) bI aP (bS hm λq B hm=>VE (Eg d call79 (vM a.B _ _  B) (λY d=>Wa (ln ?_))))))
  replace d:=d.kB (Db St)
  refine lB (nU (lV ?_))
  obtain rfl:=sj hm
  exact rP d
 refine sg (Wi rfl (Wa (ln (CI hm rfl (λz hm=>?_) (λz hm=>?_)))))
 ·refine kQ ?_
  replace d:=d.drew
  have n:=d.has.kB (Kb Sn)
  refine lC n lj (X 0 rfl n (kJ qq rfl) (XH 1 rfl n (λ_ p=>kF rfl (kL p Mh (kN a.B) rfl bI aP)) (X 4 rfl n (kJ wW rfl) (XH 5 rfl n (λ_ p=>kF rfl (kV p Mh rfl bT)) (bS hm λI c hm=>XE 2 rfl (Eg d call79 (vM a.B _ _  c) (λD d=>?_)))))))
  have n:=d.has.kB (Kb Sn)
  refine ⟨n,(bS hm λM j hm=>X 3 rfl n (lU rfl rfl j) (bS hm λN k hm=>X 6 rfl n (lU rfl rfl k) (X 7 rfl n (mU rfl) (lH kr (kP ?_)))))⟩
  replace d:=d.kB (Db St)
  refine lB (nU (lV ?_))
  obtain rfl:=sj hm
  exact rP d
 refine mM (lI (kP (kQ ?_)))
 replace d:=d.drew
 have n:=d.has.kB (Kb Sn)
 refine lC n lj (X 0 rfl n (kJ qq rfl) (XH 1 rfl n (λ_ p=>kF rfl (kL p Mh (kN a.B) rfl bI aP)) (X 4 rfl n (kJ uR rfl) (XH 5 rfl n (λ_ p=>kF rfl (kL p Mh (kN a.C) rfl bI aP)) (bS hm λJ g hm=>XE 2 rfl (Eg d call79 (vM a.B _ _  g) (λG d=>?_)))))))
 have n:=d.has.kB (Kb Sn)
 refine ⟨n,(bS hm λQ t hm=>X 3 rfl n (lU rfl rfl t) (bS hm λK i hm=>XE 6 rfl (Eg d call79 (vM a.C _ _  i) (λH d=>?_))))⟩
 have n:=d.has.kB (Kb Sn)
 refine ⟨n,(bS hm λT u hm=>X 7 rfl n (lU rfl rfl u) (X 8 rfl n (mU rfl) (lH kr (kP ?_))))⟩
 exact lB (rQ hm d)
theorem Mb (a:kC) (r:ByteArray) (w:World) (hm:Bh a=some r) :
  la true pg0 74 [(.agg (kI a).toArray)] w (.string r):=by
 refine cG 13 func74 rfl (λd=>sg (VE (ly d rfl (λG I d=>Wa (lS (VA d Mh (kI a) cA aR (bS hm λJ t hm=>VE (Eg d call144 (xT a _ _  t) (λH d=>V (nv rfl) (lu ?_))))))))))
 refine kP (CI hm rfl (λk hm=>?_) (λk hm=>?_))
 ·refine sg (Wa (ln ?_))
  replace d:=d.kB (Db St)
  refine lB (lV ?_)
  obtain rfl:=sj hm
  exact rP d
 refine kn (kQ ?_)
 replace d:=d.drew
 have n:=d.has.kB (Kb Sn)
 refine lC n lj (X 0 rfl n (kJ vF rfl) (XH 1 rfl n (λ_ p=>kF rfl (kL p Mh (kN a.Head) rfl bI aP)) (XH 4 rfl n (λ_ p=>kF rfl (kL p Mh (kI a) rfl cA aR)) (bS hm λy c hm=>XE 2 rfl (Eg d call79 (vM a.Head _ _  c) (λu d=>?_))))))
 have n:=d.has.kB (Kb Sn)
 refine ⟨n,(bS hm λB i hm=>X 3 rfl n (lU rfl rfl i) (bS hm λz g hm=>XE 5 rfl (Eg d call145 (LS a _ _  g) (λx d=>?_))))⟩
 have n:=d.has.kB (Kb Sn)
 refine ⟨n,(bS hm λD j hm=>X 6 rfl n (lU rfl rfl j) (X 7 rfl n (mU rfl) (lH kr (kP ?_))))⟩
 exact lB (rQ hm d)
theorem GU (a:lh) (g c:Value) (r:ByteArray) (w:World) (j:Sl (Pl (lP .u8)) 1 (hp w) g a.Signed.Tag) (i:Sl kD 5 (hp w) c a.kE.Kids) (hm:po a=some r) :
  la true pg0 73 [(.agg #[(.int .i64 a.Signed.kC.Kind),(.string a.Signed.kC.Head.kA),(.string a.Signed.kC.Head.Word),(.string a.Signed.kC.mC),(.string a.Signed.kC.B.kA),(.string a.Signed.kC.B.Word),(.string a.Signed.kC.C.kA),(.string a.Signed.kC.C.Word),(.string a.Signed.kC.mA),g,(.int .i64 a.kE.Op),(.int .i64 a.kE.K),(.string a.kE.kz.kA),(.string a.kE.kz.Word),c])] w (.string r):=by
 refine cG 7 func73 rfl (λd=>sg ?_)
 obtain ⟨t,x,rfl⟩:=j.form
 obtain ⟨u,y,rfl⟩:=i.form
 refine VE (ly d rfl (λz D d=>Wa (lr (Wf vg (Wf yD (VA d Mh (kI a.Signed.kC) cA aR (bS hm λG k hm=>VE (Eg d call74 (Mb a.Signed.kC _ _  k) (λB d=>Wa (ln ?_))))))))))
 exact lB (rQ hm d)
theorem vN (g:Value) (t:List mn) (j:Value) (z:mn→Option Bool) (r:Int) (w:World) (c:Sl ls 8 (hp w) g t) (B:ud pg0 j (hp w) (qn ls) (λ(r:Bool)=>(.bool r)) z) (hm:py t z=some r) :
  la false pg0 147 [g,j] w (.int .i64 r):=by
 refine cG 19 func147 rfl (λd=>sg (Wa (lS (Wm (V (mx cH rfl c) (Wm (ln (mj (λi E W=>∃k,(E 8= .int .i64 (i:Nat)∧E 7= .int .i64 (t.length:Nat))∧ST false lD w W (hp w) k∧E 0=g∧E 1=j∧ob z (t.drop i) i=some r) t.length c.len ⟨_,⟨rfl,rfl⟩,(d.kB St),rfl,rfl,hm⟩ dc dc dc (λ_ _ _ h=>by obtain ⟨_,p,_⟩:=h; exact p) ?_ ?_))))))))
 ·rintro T E W G ⟨k,⟨n,q⟩,d,u,x,a⟩
  obtain ⟨y,Z,N,M,Q⟩:=lX G
  rw [N] at a
  refine bg (Wh n (Wa (lr (Wh x (Wh u (Wm (VQ (mo (i:=(T:Int)) (x0:=y) ls.out cH cD rfl rfl c (aM _) M) (λa2 ⟨_,⟨U,Y,rfl,J,K⟩,H⟩=>V (kF rfl (lx d.has H fB cD)) (bS a λa3 I a=>?_)))))))))
  refine VE (pY y d B (lz.refl _) (qn.mk mf (ls.mk ⟨U,Y,rfl,J,K⟩) d.kG) rfl (pk rfl) I (λs d=>ln (CI a rfl (λD a=>?_) (λD a=>?_))))
  ·refine sg (Wm (Wa (lt (nU (lV (nU (lV ?_)))))))
   obtain rfl:=sj a
   exact rP d
  exact mM (lI (kP ⟨n,_,⟨rfl,q⟩,(d.kB St),u,x,(by rw [Q]; exact a)⟩))
 rintro E W ⟨k,⟨n,q⟩,d,u,x,a⟩
 rw [aO] at a
 exact kP (sg (Wa (lt (rQ a d))))
theorem Bs (a:mn) (g j:Value) (t:Nat) (k:Value) (x:mn→Option kz) (u:Nat) (H:kz) (r:Bool) (w:World) (c:Sl kD 5 (hp w) g a.kE.Kids) (i:Sl (Pl kI) 9 (hp w) j a.lN) (K:ud pg0 k (hp w) (qn ls) (λ(r:kz)=>(.agg (kN r).toArray)) x) (z:At (hp w) (.pointer (some ⟨t,0,none⟩)) [k]) (B:At (hp w) (.pointer (some ⟨u,0,none⟩)) (kN H)) (hm:rn a x H=some r) :
  la false pg0 148 [(.agg #[(.string a.kz.kA),(.string a.kz.Word),(.int .i64 a.kE.Op),(.int .i64 a.kE.K),(.string a.kE.kz.kA),(.string a.kE.kz.Word),g,j]),(.pointer (some ⟨t,0,none⟩)),(.pointer (some ⟨u,0,none⟩))] w (.bool r):=by
 refine cG 10 func148 rfl (λd=>sg ?_)
 obtain ⟨D,I,rfl⟩:=c.form
 obtain ⟨G,J,rfl⟩:=i.form
 refine VE (ly d rfl (λT U d=>Wa (ln (kQ ?_))))
 replace d:=d.drew
 have n:=d.has.kB (Kb Sn)
 refine lC n lj (XH 0 rfl n (λ_ p=>kF rfl (pO p (y:=k) z km)) (XH 1 rfl n (λ_ p=>kF rfl (kL p Mh (C5 a.kz.kA a.kz.Word a.kE.Op a.kE.K a.kE.kz.kA a.kE.kz.Word D a.kE.Kids.length I G a.lN.length J) rfl fB cD)) (XH 3 rfl n (λ_ p=>kF rfl (lx p B bI aP)) (bS hm λN M hm=>XE 2 rfl (pY a d K (lz.refl _) (qn.mk mf (ls.mk ⟨(.slice D a.kE.Kids.length I),(.slice G a.lN.length J),rfl,c,i⟩) d.kG) rfl (pk rfl) M (λQ d=>?_))))))
 have n:=d.has.kB (Kb Sn)
 refine ⟨n,(X 4 rfl n (wD rfl rfl (oX fI) (tE (rD _ N H))) (X 5 rfl n (mU rfl) (lH kr (kP ?_))))⟩
 exact lB (rQ hm d)
theorem xP (g:Value) (t:List mn) (j:kz) (a:Nat) (i:Value) (c:mn→Option kz) (r:Int) (w:World) (y:Sl ls 8 (hp w) g t) (z:ud pg0 i (hp w) (qn ls) (λ(r:kz)=>(.agg (kN r).toArray)) c) (k:At (hp w) (.pointer (some ⟨a,0,none⟩)) [i]) (hm:qW t j c=some r) :
  la false pg0 146 [g,(.agg (kN j).toArray),(.pointer (some ⟨a,0,none⟩))] w (.int .i64 r):=by
 refine cG 9 func146 rfl (λd=>sg (VE (ly d rfl (λI u d=>Wa (lr (Wm (V (qz (by exact qJ rfl rfl) rfl) (bS hm λK D hm=>VE (Eg d call147 (vN g t (.func (.func 148) #[] #[(.pointer (some ⟨a,0,none⟩)),(.pointer (some ⟨u,0,none⟩))]) (λ(x:mn)=>rn x c j) _ _ (y.mono mf.mono d.kG) ⟨148,#[],#[(.pointer (some ⟨a,0,none⟩)),(.pointer (some ⟨u,0,none⟩))],rfl,call148,λW x vs r n p hm=>by obtain ⟨_,rfl,B⟩:=p; obtain ⟨G,H,rfl,q,s⟩:=B.out; exact Bs x G H a i c u j r W q s (z.mono (d.kG.trans n)) (k.mono (d.kG.trans n)) (At.of (n _ _ (d.at_ Mh)) _ rfl) hm⟩ D) (λJ d=>Wa (lu ?_)))))))))))
 refine kP ?_
 exact lB (rQ hm d)
set_option maxHeartbeats 4000000 in
theorem D2 (a2:Value) (a0:List mn) (b6:Value) (O:List mn) (g4:Value) (f2:mn→Option kz) (e2:Value) (f3:(mn×mn)→Option Bool) (d5:Value) (f4:mn→Option ByteArray) (r:List kK) (w:World) (d2:Sl ls 8 (hp w) a2 a0) (c9:Sl ls 8 (hp w) b6 O) (N:ud pg0 g4 (hp w) (qn ls) (λ(r:kz)=>(.agg (kN r).toArray)) f2) (k2:ud pg0 e2 (hp w) (uu ls ls) (λ(r:Bool)=>(.bool r)) f3) (e1:ud pg0 d5 (hp w) (qn ls) (λ(r:ByteArray)=>(.string r)) f4) (hm:rW a0 O f2 f3 f4=some r) :
  oU false pg0 75 [a2,b6,g4,e2,d5] w 197 ll 4 r:=by
 refine Az 89 func75 rfl (λd=>sg ?_)
 obtain ⟨aa,ab,ad,rfl⟩:=N.form
 let j2:Value:=(.func aa ab ad)
 refine VE (ly d rfl (λW5 A d=>Wa (lr (Wa (lr (V (qz (by exact pk rfl) rfl) (Wa (ln ?_))))))))
 refine kQ (sg (Wm (V (mx cH rfl d2) (Wm (ln (mj (λi E W=>∃Q b0 K d9,(E 21= .int .i64 (i:Nat)∧E 20= .int .i64 (a0.length:Nat))∧ST false lD w W (hp w) ((A,Ob #[j2] 133)::(K++d9))∧E 0=a2∧E 1=b6∧E 3=e2∧E 4=d5∧E 7=(.pointer (some ⟨A,0,none⟩))∧E 11=Q∧E 12=(.func (.func 146) #[] #[(.pointer (some ⟨A,0,none⟩))])∧E 19=a2∧lm 197 ll 4 Q b0 K∧ov f2 O f4 f3 a0 (a0.drop i) b0=some r) a0.length d2.len ⟨(.slice none 0 0),([]),[],_,⟨rfl,rfl⟩,(d.kB St),rfl,rfl,rfl,rfl,rfl,rfl,rfl,rfl,(lm.nil _ _ _),hm⟩ dc dc dc (λ_ _ _ h=>by obtain ⟨_,_,_,_,P,_⟩:=h; exact P) ?_ ?_))))))
 ·rintro k3 E W h8 ⟨Q,b0,K,d9,⟨s,L⟩,d,c5,Y,c6,Z,M,c7,a9,c8,a7,g⟩
  obtain ⟨a,m7,j3,j0,d3⟩:=lX h8
  rw [j3] at g
  refine bg (VQ (mo (i:=(k3:Int)) (x0:=a) ls.out cH cD c8 s d2 (aM _) j0) (λo2 ⟨_,⟨o5,o6,rfl,H,I⟩,h9⟩=>V (kF rfl (lx d.has h9 fB cD)) (VE (lT d fQ (λm8 o1 d=>?_)))))
  obtain ⟨k,u,rfl⟩:=H.form
  let d6:Value:=(.slice k a.kE.Kids.length u)
  obtain ⟨t,x,rfl⟩:=I.form
  let e0:Value:=(.slice t a.lN.length x)
  let b8:=(C5 a.kz.kA a.kz.Word a.kE.Op a.kE.K a.kE.kz.kA a.kE.kz.Word k a.kE.Kids.length u t a.lN.length x)
  refine VO (lp (.agg b8.toArray) (b8.toArray) d rfl rfl cD oc nb rfl (λm9 d=>lr (Wh a9 (Wh Y (V (kF M (kV d.has (Mt Mh) rfl km)) (VA d Mh b8 fB cD (bS g λg3 i1 g=>VE (pY a d N (lz.refl _) (qn.mk mf (ls.mk ⟨d6,e0,rfl,H,I⟩) d.kG) rfl (pk rfl) i1 (λn0 d=>bS g λk6 i2 g=>VE (GH (args:=[b6,(.agg (kN g3).toArray)]) (caps:=#[(.pointer (some ⟨A,0,none⟩))]) d rfl call146 (by exact qJ rfl rfl) (xP b6 O g3 A j2 f2 _ _ (c9.mono mf.mono d.kG) (N.mono d.kG) (At.of (d.at_ (Mt Mh)) _ rfl) i2) (λn1 d=>Wa (lu ?_))))))))))))
  refine kP (bg (Wm (Wi rfl (Wa (ln (CI g rfl (λh4 g=>?_) (λh4 g=>?_)))))))
  ·replace d:=d.drew
   have n:=d.has.kB (Kb (Kb Sn))
   refine lC n lj (X 0 rfl n (kH c7) (XH 1 rfl n (λ_ q=>kF M (kV q (Mt Mh) rfl km)) (XH 2 rfl n (λ_ q=>kF rfl (kL q Mh b8 rfl fB cD)) (X 4 rfl n (kH Z) (XH 5 rfl n (λ_ q=>kF rfl (kL q Mh b8 rfl fB cD)) (bS g λb1 i3 g=>XE 3 rfl (pY a d N (lz.refl _) (qn.mk mf (ls.mk ⟨d6,e0,rfl,H,I⟩) d.kG) rfl (pk rfl) i3 (λn2 d=>?_))))))))
   have n:=d.has.kB (Kb (Kb Sn))
   refine ⟨n,(bS g λb2 i4 g=>XE 6 rfl (pY a d e1 (lz.refl _) (qn.mk mf (ls.mk ⟨d6,e0,rfl,H,I⟩) d.kG) rfl (pk rfl) i4 (λn3 d=>?_)))⟩
   let g5:=(⟨b1,b2,K5⟩:kK)
   have n:=d.has.kB (Kb (Kb Sn))
   refine ⟨n,(X 7 rfl n (nB (v:=(.agg (ll (g5)).toArray)) (yQ rfl rfl rfl) (nk iz fO (No _ fO) kr)) (XE 8 rfl (lJ (cs:=(ll (g5)).toArray) d (nL rfl) (oa eA fG iz) (λn4 j9 d=>?_))))⟩
   have n:=d.has.kB (Db (Kb (Kb Sn)))
   refine ⟨n,?_⟩
   replace d:=d.perm (Nr (Qb (Qb (Qb Qz))) Nz)
   refine bS g λk4 h5 g=>XE 9 rfl (pK (enc:=ll) (v:=Q) (vs:=(.slice (some ⟨j9,0,none⟩) 1 1)) (R:=K) d nX dc sa eA vu.1 vu.2.1 rfl vu.2.2.1 vu.2.2.2 rfl rfl a7 (Sl.lit (enc:=ll) (l:=[g5]) nX rfl nb rfl (d.at_ (Ma Mh))) h5 (λn5 k7 j7 d h2=>?_))
   have n:=d.has.kB (Dr (Db (Kb (Kb Sn))))
   refine ⟨n,(X 10 rfl n (mU rfl) (lH kr (lI (lI (kP ?_)))))⟩
   replace d:=d.kB (Kr (Db (Db St)))
   exact ⟨s,k7,k4,j7,_,⟨rfl,L⟩,(d.kB (Sb (Pr Pz) St)),c5,Y,c6,Z,M,rfl,a9,c8,h2,(by rw [d3]; exact g)⟩
  refine kQ ?_
  replace d:=d.drew
  have n:=d.has.kB (Kb Sn)
  refine lC n lj (X 0 rfl n (kH c6) (XH 1 rfl n (λ_ q=>kF rfl (kL q Mh b8 rfl fB cD)) (X 2 rfl n (kH Y) (X 3 rfl n (kH rfl) (bS g λg7 e4 g=>XQ 4 rfl n (mo (i:=k6) (x0:=g7) ls.out cH cD rfl rfl c9 (kZ e4) (kY e4)) (λo3 ⟨_,⟨k8,k9,rfl,i8,i9⟩,i0⟩=>XH 5 rfl n (λ_ q=>kF rfl (lx q i0 fB cD)) (bS g λo4 i5 g=>XE 6 rfl (pY (a,g7) d k2 (lz.refl _) (uu.mk mf mf (ls.mk ⟨d6,e0,rfl,H,I⟩) (ls.mk ⟨k8,k9,rfl,i8,i9⟩) d.kG) rfl (qJ rfl rfl) i5 (λn6 d=>?_)))))))))
  have n:=d.has.kB (Kb Sn)
  refine ⟨n,(X 7 rfl n (nv rfl) (X 8 rfl n (mU rfl) (lH kr (kP (CI g rfl (λh6 g=>?_) (λh6 g=>?_))))))⟩
  ·replace d:=d.drew
   have n:=d.has.kB (Kb (Kb Sn))
   refine lC n lj (X 0 rfl n (kH c7) (XH 1 rfl n (λ_ q=>kF M (kV q (Mt Mh) rfl km)) (XH 2 rfl n (λ_ q=>kF rfl (kL q Mh b8 rfl fB cD)) (X 4 rfl n (kH Z) (XH 5 rfl n (λ_ q=>kF rfl (kL q Mh b8 rfl fB cD)) (bS g λb3 i6 g=>XE 3 rfl (pY a d N (lz.refl _) (qn.mk mf (ls.mk ⟨d6,e0,rfl,H,I⟩) d.kG) rfl (pk rfl) i6 (λn7 d=>?_))))))))
   have n:=d.has.kB (Kb (Kb Sn))
   refine ⟨n,(bS g λb5 i7 g=>XE 6 rfl (pY a d e1 (lz.refl _) (qn.mk mf (ls.mk ⟨d6,e0,rfl,H,I⟩) d.kG) rfl (pk rfl) i7 (λn8 d=>?_)))⟩
   let g6:=(⟨b3,b5,K6⟩:kK)
   have n:=d.has.kB (Kb (Kb Sn))
   refine ⟨n,(X 7 rfl n (nB (v:=(.agg (ll (g6)).toArray)) (yQ rfl rfl rfl) (nk iz fO (No _ fO) kr)) (XE 8 rfl (lJ (cs:=(ll (g6)).toArray) d (nL rfl) (oa eA fG iz) (λn9 k0 d=>?_))))⟩
   have n:=d.has.kB (Db (Kb (Kb Sn)))
   refine ⟨n,?_⟩
   replace d:=d.perm (Nr (Qb (Qb (Qb Qz))) Nz)
   refine bS g λk5 h7 g=>XE 9 rfl (pK (enc:=ll) (v:=Q) (vs:=(.slice (some ⟨k0,0,none⟩) 1 1)) (R:=K) d nX dc sa eA vu.1 vu.2.1 rfl vu.2.2.1 vu.2.2.2 rfl rfl a7 (Sl.lit (enc:=ll) (l:=[g6]) nX rfl nb rfl (d.at_ (Ma Mh))) h7 (λo0 l0 j8 d h3=>?_))
   have n:=d.has.kB (Dr (Db (Kb (Kb Sn))))
   refine ⟨n,(X 10 rfl n (mU rfl) (lH kr (lI (lI (kP ?_)))))⟩
   replace d:=d.kB (Kr (Db (Db St)))
   exact ⟨s,l0,k5,j8,_,⟨rfl,L⟩,(d.kB (Sb (Pr Pz) St)),c5,Y,c6,Z,M,rfl,a9,c8,h3,(by rw [d3]; exact g)⟩
  refine mM (lI (lI (kP ?_)))
  replace d:=d.kB (Db St)
  exact ⟨s,Q,b0,K,_,⟨rfl,L⟩,(d.kB St),c5,Y,c6,Z,M,c7,a9,c8,a7,(by rw [d3]; exact g)⟩
 rintro E W ⟨Q,b0,K,d9,⟨s,L⟩,d,c5,Y,c6,Z,M,c7,a9,c8,a7,g⟩
 rw [aO] at g
 refine kP (kQ (sg (Wh Y (V (mx cH rfl c9) (Wm (ln (CJ g (λd4 E W=>∃c4 b7 e3,ST false lD w W (hp w) (b7++e3)∧E 11=c4∧lm 197 ll 4 c4 d4 b7) (λd4 f5=>?_) ?_)))))))
 ·let e6:Value:=(.pointer (some ⟨A,0,none⟩))
  refine mj (λi E W=>∃J a8 G d1,(E 66= .int .i64 (i:Nat)∧E 65= .int .i64 (O.length:Nat))∧ST false lD w W (hp w) ((A,Ob #[j2] 133)::(G++d1))∧E 0=a2∧E 4=d5∧E 7=e6∧E 11=J∧E 12=(.func (.func 146) #[] #[e6])∧E 64=b6∧lm 197 ll 4 J a8 G∧ph f2 a0 f4 (O.drop i) a8=some d4) O.length c9.len ⟨Q,b0,K,_,⟨rfl,rfl⟩,(d.kB St),c5,Z,M,c7,a9,rfl,a7,f5⟩ dc dc dc (λ_ _ _ h=>by obtain ⟨_,_,_,_,P,_⟩:=h; exact P) ?_ ?_
  ·rintro j4 E W f0 ⟨J,a8,G,d1,⟨s,L⟩,d,b9,c0,a3,c1,c2,c3,a4,j⟩
   obtain ⟨c,l2,g2,g1,d8⟩:=lX f0
   rw [g2] at j
   refine bg (VQ (mo (i:=(j4:Int)) (x0:=c) ls.out cH cD c3 s c9 (aM _) g1) (λm3 ⟨_,⟨m5,m6,rfl,a5,a6⟩,f6⟩=>V (kF rfl (lx d.has f6 fB cD)) (VE (lT d fQ (λl3 m1 d=>?_)))))
   obtain ⟨y,B,rfl⟩:=a5.form
   let h1:Value:=(.slice y c.kE.Kids.length B)
   obtain ⟨z,D,rfl⟩:=a6.form
   let k1:Value:=(.slice z c.lN.length D)
   let d0:=(C5 c.kz.kA c.kz.Word c.kE.Op c.kE.K c.kE.kz.kA c.kE.kz.Word y c.kE.Kids.length B z c.lN.length D)
   refine VO (lp (.agg d0.toArray) (d0.toArray) d rfl rfl cD oc nb rfl (λl4 d=>lr (Wh c2 (Wh b9 (V (kF a3 (kV d.has (Mt Mh) rfl km)) (VA d Mh d0 fB cD (bS j λe5 f7 j=>VE (pY c d N (lz.refl _) (qn.mk mf (ls.mk ⟨h1,k1,rfl,a5,a6⟩) d.kG) rfl (pk rfl) f7 (λl5 d=>bS j λm4 f8 j=>VE (GH (args:=[a2,(.agg (kN e5).toArray)]) (caps:=#[e6]) d rfl call146 (by exact qJ rfl rfl) (xP a2 a0 e5 A j2 f2 _ _ (d2.mono mf.mono d.kG) (N.mono d.kG) (At.of (d.at_ (Mt Mh)) _ rfl) f8) (λl6 d=>Wi rfl (lu ?_))))))))))))
   refine kP (CI j rfl (λe8 j=>?_) (λe8 j=>?_))
   ·replace d:=d.drew
    have n:=d.has.kB (Kb (Kb Sn))
    refine lC n lj (X 0 rfl n (kH c1) (XH 1 rfl n (λ_ q=>kF a3 (kV q (Mt Mh) rfl km)) (XH 2 rfl n (λ_ q=>kF rfl (kL q Mh d0 rfl fB cD)) (X 4 rfl n (kH c0) (XH 5 rfl n (λ_ q=>kF rfl (kL q Mh d0 rfl fB cD)) (bS j λT f9 j=>XE 3 rfl (pY c d N (lz.refl _) (qn.mk mf (ls.mk ⟨h1,k1,rfl,a5,a6⟩) d.kG) rfl (pk rfl) f9 (λl7 d=>?_))))))))
    have n:=d.has.kB (Kb (Kb Sn))
    refine ⟨n,(bS j λU g0 j=>XE 6 rfl (pY c d e1 (lz.refl _) (qn.mk mf (ls.mk ⟨h1,k1,rfl,a5,a6⟩) d.kG) rfl (pk rfl) g0 (λl8 d=>?_)))⟩
    let j1:=(⟨T,U,K7⟩:kK)
    have n:=d.has.kB (Kb (Kb Sn))
    refine ⟨n,(X 7 rfl n (nB (v:=(.agg (ll (j1)).toArray)) (yQ rfl rfl rfl) (nk iz fO (No _ fO) kr)) (XE 8 rfl (lJ (cs:=(ll (j1)).toArray) d (nL rfl) (oa eA fG iz) (λl9 g9 d=>?_))))⟩
    have n:=d.has.kB (Db (Kb (Kb Sn)))
    refine ⟨n,?_⟩
    replace d:=d.perm (Nr (Qb (Qb (Qb Qz))) Nz)
    refine bS j λj5 e9 j=>XE 9 rfl (pK (enc:=ll) (v:=J) (vs:=(.slice (some ⟨g9,0,none⟩) 1 1)) (R:=G) d nX dc sa eA vu.1 vu.2.1 rfl vu.2.2.1 vu.2.2.2 rfl rfl a4 (Sl.lit (enc:=ll) (l:=[j1]) nX rfl nb rfl (d.at_ (Ma Mh))) e9 (λm0 j6 g8 d e7=>?_))
    have n:=d.has.kB (Dr (Db (Kb (Kb Sn))))
    refine ⟨n,(X 10 rfl n (mU rfl) (lH kr (lI (kP ?_))))⟩
    replace d:=d.kB (Kr (Db (Db St)))
    exact ⟨s,j6,j5,g8,_,⟨rfl,L⟩,(d.kB (Sb (Pr Pz) St)),b9,c0,a3,rfl,c2,c3,e7,(by rw [d8]; exact j)⟩
   refine mM (lI (kP ?_))
   replace d:=d.kB (Db St)
   exact ⟨s,J,a8,G,_,⟨rfl,L⟩,(d.kB St),b9,c0,a3,c1,c2,c3,a4,(by rw [d8]; exact j)⟩
  rintro E W ⟨J,a8,G,d1,⟨s,L⟩,d,b9,c0,a3,c1,c2,c3,a4,j⟩
  rw [aO] at j
  refine kP ?_
  obtain rfl:=sj j
  exact ⟨J,G,_,(d.kB (Db St)),c1,a4⟩
 rintro m2 E W ⟨c4,b7,e3,d,h0,d7⟩ f1
 refine sg (Wh h0 (Wa (lt ?_)))
 obtain rfl:=sj f1
 exact nq (v:=c4) rfl rfl ⟨_,b7,rfl,d.sI (λp hq=>(Ml hq)) d7.nd,d7⟩
theorem G0 (c:mn) (a g:Value) (r:kz) (w:World) (i:Sl kD 5 (hp w) a c.kE.Kids) (j:Sl (Pl kI) 9 (hp w) g c.lN) (hm:oL c=some r) :
  la true pg0 76 [(.agg #[(.string c.kz.kA),(.string c.kz.Word),(.int .i64 c.kE.Op),(.int .i64 c.kE.K),(.string c.kE.kz.kA),(.string c.kE.kz.Word),a,g])] w (.agg (kN r).toArray):=by
 refine cG 5 func76 rfl (λd=>sg ?_)
 obtain ⟨k,u,rfl⟩:=i.form
 obtain ⟨t,x,rfl⟩:=j.form
 refine VE (ly d rfl (λy D d=>VE (lT d fR (λz G d=>lr (Wf ya (VA d (Mt Mh) (kN c.kz) bI aP (VO (lp (.agg (kN c.kz).toArray) ((kN c.kz).toArray) d rfl rfl aP (wo c.kz) nb rfl (λB d=>ln ?_)))))))))
 replace d:=d.kB (Kb (Db St))
 refine lB ?_
 obtain rfl:=sj hm
 exact qQ (v:=(.agg (kN c.kz).toArray)) rfl rfl (kL d.has Mh (kN c.kz) rfl bI aP) ⟨rfl,d.ex⟩
theorem vk (t:Value) (y:List kC) (u:Value) (K:List kC) (r:Bool) (w:World) (c:Sl (Pl kI) 9 (hp w) t y) (z:Sl (Pl kI) 9 (hp w) u K) (hm:pD y K=some r) :
  la true pg0 58 [t,u] w (.bool r):=by
 refine cG 26 func58 rfl (λn=>sg (Wa (lS (Wm (V (mx aX rfl c) (Wm (V (mx aX rfl z) (Wi rfl (lu ?_)))))))))
 refine kP (CI hm rfl (λU hm=>?_) (λU hm=>?_))
 ·refine sg (Wa (lt (lV ?_)))
  obtain rfl:=sj hm
  exact rP n
 refine kS (Wm (V (mx aX rfl c) (Wm (ln (mj (λi E W=>∃g,(E 13= .int .i64 (i:Nat)∧E 12= .int .i64 (y.length:Nat))∧ST true lD w W (hp w) g∧E 0=t∧E 1=u∧rs K (y.drop i) i=some r) y.length c.len ⟨_,⟨rfl,rfl⟩,(n.kB St),rfl,rfl,hm⟩ dc dc dc (λ_ _ _ h=>by obtain ⟨_,q,_⟩:=h; exact q) ?_ ?_)))))
 ·rintro I E W M ⟨g,⟨p,v⟩,n,j,k,a⟩
  obtain ⟨J,a3,Q,N,T⟩:=lX M
  rw [Q] at a
  refine bg (Wh p (Wa (ln (kQ ?_))))
  replace n:=n.drew
  have d:=n.has.kB Sn
  refine lC d lj (X 0 rfl d (kH j) (X 1 rfl d (kH rfl) (XQ 2 rfl d (th (enc:=kI) (i:=(I:Int)) (x0:=J) aX aR rfl rfl c (aM _) N) (λY G=>XH 3 rfl d (λ_ s=>kF rfl (lx s G cA aR)) (X 4 rfl d (kH k) (X 5 rfl d (kH rfl) (bS a λB x a=>XQ 6 rfl d (th (enc:=kI) (i:=(I:Int)) (x0:=B) aX aR rfl rfl z (kZ x) (kY x)) (λZ H=>XH 7 rfl d (λ_ s=>kF rfl (lx s H cA aR)) (X 8 rfl d (E1 rfl rfl (oX gm) (AK (wJ _ J B))) (lH kr (kP (CI a rfl (λD a=>?_) (λD a=>?_)))))))))))))
  ·refine sg (Wa (lt (nU (lV (nU (lV ?_))))))
   obtain rfl:=sj a
   exact rP n
  exact mM (lI (kP ⟨p,_,⟨rfl,v⟩,(n.kB St),j,k,(by rw [T]; exact a)⟩))
 rintro E W ⟨g,⟨p,v⟩,n,j,k,a⟩
 rw [aO] at a
 exact kP (sg (Wa (lt (rQ a n))))
theorem GW (c:mn) (k y:Value) (g:mn) (t z:Value) (r:Bool) (w:World) (i:Sl kD 5 (hp w) k c.kE.Kids) (u:Sl (Pl kI) 9 (hp w) y c.lN) (j:Sl kD 5 (hp w) t g.kE.Kids) (x:Sl (Pl kI) 9 (hp w) z g.lN) (hm:pF c g=some r) :
  la false pg0 77 [(.agg #[(.string c.kz.kA),(.string c.kz.Word),(.int .i64 c.kE.Op),(.int .i64 c.kE.K),(.string c.kE.kz.kA),(.string c.kE.kz.Word),k,y]),(.agg #[(.string g.kz.kA),(.string g.kz.Word),(.int .i64 g.kE.Op),(.int .i64 g.kE.K),(.string g.kE.kz.kA),(.string g.kE.kz.Word),t,z])] w (.bool r):=by
 refine cG 17 func77 rfl (λd=>sg ?_)
 obtain ⟨J,M,rfl⟩:=i.form
 obtain ⟨Y,n,rfl⟩:=u.form
 refine VE (ly d rfl (λW6 L d=>?_))
 obtain ⟨K,N,rfl⟩:=j.form
 obtain ⟨Z,H,rfl⟩:=x.form
 refine VE (ly d rfl (λa4 q d=>Wa (lr (Wf AG (VA d (Mt Mh) (C2 c.kE.Op c.kE.K c.kE.kz.kA c.kE.kz.Word J c.kE.Kids.length M) aZ aG (Wf AG (VA d Mh (C2 g.kE.Op g.kE.K g.kE.kz.kA g.kE.kz.Word K g.kE.Kids.length N) aZ aG (bS hm λa9 T hm=>VE (Eg d call61 ((wg li) c.kE (.slice J c.kE.Kids.length M) g.kE (.slice K g.kE.Kids.length N) _ _ (i.mono kT.mono d.kG) (j.mono kT.mono d.kG) T) (λa5 d=>Wm (LJ hm (λI E W=>∃G,ST false lD w W (hp w) G∧E 4=(.bool false)∧E 16=(.bool I)) 6 ?_ (λI B D=>?_))))))))))))
 ·rintro A E W ⟨G,d,s,a3⟩ Q
  exact Wg a3 (lt (rQ Q d))
 refine bC B (λa B=>?_) (λa B=>?_)
 ·refine ug a (kJ zt rfl) (ug a (kF rfl (kV d.has (Mt Mh) rfl iZ)) (ug a (kJ zt rfl) (ug a (kF rfl (kV d.has Mh rfl iZ)) (bS B λv U B=>rU a (Eg d call58 (la.mK (vk (.slice Y c.lN.length n) c.lN (.slice Z g.lN.length H) g.lN _ _ (u.mono (Pl.mono _) d.kG) (x.mono (Pl.mono _) d.kG) U)) (λp d=>V (lb (cB a) rfl) ?_))))))
  obtain rfl:=sj B
  exact D _ _ ⟨_,(d.kB (Db (Db St))),rfl,rfl⟩
 refine un a (un a (un a (un a (un a (V (lf (cB a) rfl) ?_)))))
 obtain rfl:=sj B
 exact D _ _ ⟨_,(d.kB (Db (Db St))),rfl,rfl⟩
theorem GZ (c:mn) (a g:Value) (r:ByteArray) (w:World) (i:Sl kD 5 (hp w) a c.kE.Kids) (j:Sl (Pl kI) 9 (hp w) g c.lN) (hm:pp c=some r) :
  la true pg0 78 [(.agg #[(.string c.kz.kA),(.string c.kz.Word),(.int .i64 c.kE.Op),(.int .i64 c.kE.K),(.string c.kE.kz.kA),(.string c.kE.kz.Word),a,g])] w (.string r):=by
 refine cG 7 func78 rfl (λd=>sg ?_)
 obtain ⟨u,y,rfl⟩:=i.form
 obtain ⟨x,z,rfl⟩:=j.form
 refine VE (ly d rfl (λD H d=>Wa (lr (Wf ya (VA d Mh (kN c.kz) bI aP (bS hm λI t hm=>VE (Eg d call79 (vM c.kz _ _  t) (λG d=>bS hm λB k hm=>V (lU rfl rfl k) (Wa (ln ?_))))))))))
 exact lB (rQ hm d)
theorem uo (z:Value) (a0:List ky) (B:LO) (s a2:Int) (M:Value) (f3:(ky×ky)→Option Int) (r:List ky) (w:World) {μ0:lF} (h0:pe μ0 (B++[]) w) (g8:lm 193 kO 11 z a0 B) (g9:sQ pg0 M μ0 (λ(x:(ky×ky))=>[(.agg (kO x.1).toArray),(.agg (kO x.2).toArray)]) (λ(r:Int)=>(.int .i64 r)) f3) (hm:oQ a0 s a2 f3=some r) :
  mz false pg0 269 [z,(.int .i64 s),(.int .i64 a2),M] w (B++[]) (λv L1 W'=>∃S1,v=(.tuple #[])∧L1=(S1++[])∧lm 193 kO 11 z r S1):=by
 refine wM h0 53 func269 rfl (λn=>sg (Wm (Wi rfl (Wa (ln (rZ (me (nn (λm E W=>∃T G y b9,ST false (keys (B++[])) w W μ0 (G++b9)∧E 0=z∧E 1=(.int .i64 s)∧E 2=(.int .i64 a2)∧E 3=M∧E 8=(.int .i64 y)∧lm 193 kO 11 z T G∧mY a2 s f3 m T y=some r) li ⟨a0,B,(wi0 .i64 (s+1)),_,(n.kB St),rfl,rfl,rfl,rfl,rfl,g8,hm⟩ ?_))))))))
 rintro m E W ⟨T,G,y,b9,n,e9,f0,c3,f1,b1,b6,t⟩
 cases m with
 | zero=>rw [mY] at t; cases t
 | succ g1=>
  refine kQ (sg (Wh b1 (Wh c3 (Wi rfl (ln (CI t rfl (λd5 t=>?_) (λd5 t=>?_)))))))
  ·refine kn (kQ (bg (Wh b1 (Wa (ln (rZ (CJ t (λb4 E W=>∃N c0,ST false (keys (B++[])) w W μ0 (N++c0)∧E 0=z∧E 1=(.int .i64 s)∧E 2=(.int .i64 a2)∧E 3=M∧E 8=(.int .i64 y)∧lm 193 kO 11 z b4 N) (λb4 d8=>?_) ?_)))))))
   ·refine me (nn (λm E W=>∃U H k c1,ST false (keys (B++[])) w W μ0 (H++c1)∧E 0=z∧E 1=(.int .i64 s)∧E 2=(.int .i64 a2)∧E 3=M∧E 8=(.int .i64 y)∧E 9=(.int .i64 k)∧lm 193 kO 11 z U H∧nm s f3 m U k=some b4) li ⟨T,G,y,_,(n.kB St),e9,f0,c3,f1,b1,rfl,b6,d8⟩ ?_)
    rintro m E W ⟨U,H,k,c1,n,Q,b2,c4,b3,c5,I,j,K⟩
    cases m with
    | zero=>rw [nm] at K; cases K
    | succ g2=>
     refine kQ (kQ ?_)
     replace n:=n.drew
     have d:=n.has.kB (Kr Sn)
     refine lC d lj (X 0 rfl d (kH I) (X 1 rfl d (kH b2) (X 2 rfl d (lE rfl rfl rfl) (X 3 rfl d (kH rfl) (PJ K (λd0 E W=>∃c2,ST false (keys (B++[])) w W μ0 (H++c2)∧E 0=z∧E 1=(.int .i64 s)∧E 2=(.int .i64 a2)∧E 3=M∧E 8=(.int .i64 y)∧E 9=(.int .i64 k)∧E 34=(.bool d0)) (bm 17 131071) 0 ?_ (λd0 g a9=>?_))))))
     ·rintro i3 E W ⟨c2,n,D,c6,c7,c8,c9,J,f8⟩ c
      have d:=n.has.kB (Kr Sn)
      refine lH kr (kP (CI c f8 (λd6 c=>?_) (λd6 c=>?_)))
      ·refine kn (kQ (me ?_))
       replace n:=n.drew
       have d:=n.has.kB Sn
       have q:=n.has.kB (Kr Sn)
       refine sM 15 d q lj (lG 0 rfl kr (.inl rfl) rfl dc (λ_ _ h=>⟨h.1,lO br h.2⟩) ⟨d,λ_=>q⟩ (λ_ _ _ _=>kH D) (lG 1 rfl kr (.inl rfl) rfl dc (λ_ _ h=>⟨h.1,lO br h.2⟩) ⟨d,λ_=>q⟩ (λ_ _ _ _=>kH J) (lG 2 rfl kr (.inl rfl) rfl dc (λ_ _ h=>⟨h.1,lO br h.2⟩) ⟨d,λ_=>q⟩ (λ_ _ _ _=>kH D) (lG 3 rfl kr (.inl rfl) rfl dc (λ_ _ h=>⟨h.1,lO br h.2⟩) ⟨d,λ_=>q⟩ (λ_ _ _ _=>kH J) (lG 4 rfl kr (.inl rfl) rfl dc (λ_ _ h=>⟨h.1,lO br h.2⟩) ⟨d,λ_=>q⟩ (λ_ _ _ _=>lE rfl rfl rfl) (lG 5 rfl kr (.inl rfl) rfl dc (λ_ _ h=>⟨h.1,lO br h.2⟩) ⟨d,λ_=>q⟩ (λ_ _ _ _=>kH D) (lG 6 rfl kr (.inl rfl) rfl dc (λ_ _ h=>⟨h.1,lO br h.2⟩) ⟨d,λ_=>q⟩ (λ_ _ _ _=>kH J) (lG 7 rfl kr (.inl rfl) rfl dc (λ_ _ h=>⟨h.1,lO br h.2⟩) ⟨d,λ_=>q⟩ (λ_ _ _ _=>lE rfl rfl rfl) (bS c λY a3 c=>np 8 rfl kr (.inl rfl) rfl dc (λ_ _ h=>⟨h.1,lO br h.2⟩) ⟨d,λ_=>q⟩ (mh (i:=(wi0 .i64 (k-1))) (x0:=Y) bZ bV rfl rfl j (kZ a3) (kY a3)) (λh6 d9=>lG 9 rfl kr (.inl rfl) rfl dc (λ_ _ h=>⟨h.1,lO br h.2⟩) ⟨d,λ_=>q⟩ (λl W L hs=>have A:=(hs.2 (L.yL 15 [9] kr rfl)); kF rfl (nC A (λp O=>(Ml O)) j lK d9 (kY a3) fW bV)) (lG 10 rfl kr (.inl rfl) rfl dc (λ_ _ h=>⟨h.1,lO br h.2⟩) ⟨d,λ_=>q⟩ (λ_ _ _ _=>kH D) (lG 11 rfl kr (.inl rfl) rfl dc (λ_ _ h=>⟨h.1,lO br h.2⟩) ⟨d,λ_=>q⟩ (λ_ _ _ _=>kH J) (bS c λZ a4 c=>?_)))))))))))))
       refine np 12 rfl kr (.inl rfl) rfl dc (λ_ _ h=>⟨h.1,lO br h.2⟩) ⟨d,λ_=>q⟩ (mh (i:=k) (x0:=Z) bZ bV rfl rfl j (kZ a4) (kY a4)) (λh7 e0=>lG 13 rfl kr (.inl rfl) rfl dc (λ_ _ h=>⟨h.1,lO br h.2⟩) ⟨d,λ_=>q⟩ (λl W L hs=>have A:=(hs.2 (L.yL 15 [13] kr rfl)); kF rfl (nC A (λp O=>(Ml O)) j lK e0 (kY a4) fW bV)) (bS c λg3 a5 c=>np 14 rfl kr (.inl rfl) rfl dc (λ_ _ h=>⟨h.1,lO br h.2⟩) ⟨d,λ_=>q⟩ (mh (i:=k) (x0:=g3) bZ bV rfl rfl j (kZ a5) (kY a5)) (λh8 e1=>XO 15 rfl (qZ (u:=(.agg (kO Y).toArray)) (x1:=Y)  n j lK oz rfl rfl rfl e1 (kY a5) bV (λh3 h2 n b5=>?_)))))
       have d:=n.has.kB Sn
       refine ⟨⟨d,λh=>vp kr h⟩,(bS c λg4 P c=>np 16 rfl kr (.inl rfl) rfl dc (λ_ _ h=>⟨h.1,lO br h.2⟩) ⟨d,λh=>vp kr h⟩ (mh (i:=(wi0 .i64 (k-1))) (x0:=g4) bZ bV rfl rfl b5 (kZ P) (kY P)) (λh9 e2=>XO 17 rfl (qZ (u:=(.agg (kO Z).toArray)) (x1:=Z)  n b5 lK oz rfl rfl rfl e2 (kY P) bV (λh4 e8 n d4=>?_))))⟩
       have d:=n.has.kB Sn
       exact ⟨⟨d,λh=>vp kr h⟩,(lH kr (lI (kP (kR (Wh J (Wi rfl (Wa (ln ⟨g2,aT _,((U.set (Int.toNat k) Y).set (Int.toNat (wi0 .i64 (k-1))) Z),e8,(wi0 .i64 (k-1)),_,(n.kB St),D,c6,c7,c8,c9,rfl,d4,c⟩))))))))⟩
      refine nu (ng (ng (pM (kP ?_))))
      obtain rfl:=sj c
      exact ⟨H,_,(n.kB St),D,c6,c7,c8,c9,j⟩
     refine bC g (λa g=>?_) (λa g=>?_)
     ·refine Xg 4 rfl rfl (cB a) d (kH b3) (Xg 5 rfl rfl (cB a) d (kH Q) (Xg 6 rfl rfl (cB a) d (kH I) (bS g λd1 R g=>np 7 rfl kr (.inr ⟨3,true,21,rfl,rfl,by decide,(cB a)⟩) rfl dc (λ_ _ h=>h) d (mh (i:=k) (x0:=d1) bZ bV rfl rfl j (kZ R) (kY R)) (λi0 e3=>pu 8 rfl rfl (cB a) d (λ_ A=>kF rfl (nC A (λp O=>(Ml O)) j lK e3 (kY R) fW bV)) (Xg 9 rfl rfl (cB a) d (kH Q) (Xg 10 rfl rfl (cB a) d (kH I) (Xg 11 rfl rfl (cB a) d (lE rfl rfl rfl) (bS g λd2 a8 g=>np 12 rfl kr (.inr ⟨3,true,21,rfl,rfl,by decide,(cB a)⟩) rfl dc (λ_ _ h=>h) d (mh (i:=(wi0 .i64 (k-1))) (x0:=d2) bZ bV rfl rfl j (kZ a8) (kY a8)) (λi1 e4=>pu 13 rfl rfl (cB a) d (λ_ A=>kF rfl (nC A (λp O=>(Ml O)) j lK e4 (kY a8) fW bV)) (bS g λi2 e5 g=>yq 14 rfl rfl (cB a) (DR (d1,d2) n g9 (lz.refl _) rfl (qJ rfl rfl) e5 (λh5 n=>?_))))))))))))
      have d:=n.has.kB (Kr Sn)
      refine ⟨d,(Xg 15 rfl rfl (cB a) d (lE rfl rfl rfl) (X 16 rfl d (lb (cB a) rfl) ?_))⟩
      obtain rfl:=sj g
      refine nf kr (a9 _ _ ⟨_,(n.kB St),Q,b2,c4,b3,c5,I,rfl⟩)
     refine Xn 4 rfl rfl (cB a) d (Xn 5 rfl rfl (cB a) d (Xn 6 rfl rfl (cB a) d (Xn 7 rfl rfl (cB a) d (Xn 8 rfl rfl (cB a) d (Xn 9 rfl rfl (cB a) d (Xn 10 rfl rfl (cB a) d (Xn 11 rfl rfl (cB a) d (Xn 12 rfl rfl (cB a) d (Xn 13 rfl rfl (cB a) d (Xn 14 rfl rfl (cB a) d (Xn 15 rfl rfl (cB a) d (X 16 rfl d (lf (cB a) rfl) ?_))))))))))))
     obtain rfl:=sj g
     refine nf kr (a9 _ _ ⟨_,(n.kB St),Q,b2,c4,b3,c5,I,rfl⟩)
   rintro g0 E W ⟨N,c0,n,f2,f4,f5,f6,f7,e6⟩ d7
   exact lI (kP (kR (Wh f7 (Wi rfl (Wa (ln ⟨g1,aT _,g0,N,(wi0 .i64 (y+1)),_,(n.kB St),f2,f4,f5,f6,rfl,e6,d7⟩))))))
  refine nu (ng (ng (pM (kP (qK ?_)))))
  obtain rfl:=sj t
  exact px rfl ⟨_,_,rfl,(n.od (Kr Sn)),G,rfl,rfl,b6⟩
theorem sq (y:Value) (a0:List ky) (k:LO) (M N a3:Int) (a4:Value) (f4:(ky×ky)→Option Int) (r:List ky) (w:World) {μ0:lF} (h0:pe μ0 (k++[]) w) (b4:lm 193 kO 11 y a0 k) (c8:sQ pg0 a4 μ0 (λ(x:(ky×ky))=>[(.agg (kO x.1).toArray),(.agg (kO x.2).toArray)]) (λ(r:Int)=>(.int .i64 r)) f4) (hm:oN a0 M N a3 f4=some r) :
  mz true pg0 365 [y,(.int .i64 M),(.int .i64 N),(.int .i64 a3),a4] w (k++[]) (λv L1 W'=>∃S1,v=(.tuple #[])∧L1=(S1++[])∧lm 193 kO 11 y r S1):=by
 refine wM h0 38 func365 rfl (λq=>sg (Wa (ln (rZ (me (nn (λm E W=>∃I z c Y,ST true (keys (k++[])) w W μ0 (z++Y)∧E 0=y∧E 1=(.int .i64 M)∧E 2=(.int .i64 N)∧E 3=(.int .i64 a3)∧E 10=(.int .i64 c)∧lm 193 kO 11 y I z∧nH a3 N M m I c=some r) li ⟨a0,k,0,_,(q.kB St),rfl,rfl,rfl,rfl,rfl,b4,hm⟩ ?_))))))
 rintro m E W ⟨I,z,c,Y,q,t,Q,T,Z,j,g,a⟩
 cases m with
 | zero=>rw [nH] at a; cases a
 | succ b5=>
  refine kQ (sg (Wh j (Wh Z (Wi rfl (ln (CI a rfl (λR a=>?_) (λR a=>?_)))))))
  ·refine kn (kQ (me ?_))
   replace q:=q.drew
   have d:=q.has.kB Sn
   have n:=q.has.kB (Kr Sn)
   refine sM 21 d n lj (lG 0 rfl kr (.inl rfl) rfl dc (λ_ _ h=>⟨h.1,lO br h.2⟩) ⟨d,λ_=>n⟩ (λ_ _ _ _=>kH t) (lG 1 rfl kr (.inl rfl) rfl dc (λ_ _ h=>⟨h.1,lO br h.2⟩) ⟨d,λ_=>n⟩ (λ_ _ _ _=>kH Q) (lG 2 rfl kr (.inl rfl) rfl dc (λ_ _ h=>⟨h.1,lO br h.2⟩) ⟨d,λ_=>n⟩ (λ_ _ _ _=>kH j) (lG 3 rfl kr (.inl rfl) rfl dc (λ_ _ h=>⟨h.1,lO br h.2⟩) ⟨d,λ_=>n⟩ (λ_ _ _ _=>lE rfl rfl rfl) (lG 4 rfl kr (.inl rfl) rfl dc (λ_ _ h=>⟨h.1,lO br h.2⟩) ⟨d,λ_=>n⟩ (λ_ _ _ _=>kH t) (lG 5 rfl kr (.inl rfl) rfl dc (λ_ _ h=>⟨h.1,lO br h.2⟩) ⟨d,λ_=>n⟩ (λ_ _ _ _=>kH T) (lG 6 rfl kr (.inl rfl) rfl dc (λ_ _ h=>⟨h.1,lO br h.2⟩) ⟨d,λ_=>n⟩ (λ_ _ _ _=>kH j) (lG 7 rfl kr (.inl rfl) rfl dc (λ_ _ h=>⟨h.1,lO br h.2⟩) ⟨d,λ_=>n⟩ (λ_ _ _ _=>lE rfl rfl rfl) (lG 8 rfl kr (.inl rfl) rfl dc (λ_ _ h=>⟨h.1,lO br h.2⟩) ⟨d,λ_=>n⟩ (λ_ _ _ _=>kH t) (lG 9 rfl kr (.inl rfl) rfl dc (λ_ _ h=>⟨h.1,lO br h.2⟩) ⟨d,λ_=>n⟩ (λ_ _ _ _=>kH T) (lG 10 rfl kr (.inl rfl) rfl dc (λ_ _ h=>⟨h.1,lO br h.2⟩) ⟨d,λ_=>n⟩ (λ_ _ _ _=>kH j) (lG 11 rfl kr (.inl rfl) rfl dc (λ_ _ h=>⟨h.1,lO br h.2⟩) ⟨d,λ_=>n⟩ (λ_ _ _ _=>lE rfl rfl rfl) (bS a λJ B a=>np 12 rfl kr (.inl rfl) rfl dc (λ_ _ h=>⟨h.1,lO br h.2⟩) ⟨d,λ_=>n⟩ (mh (i:=(wi0 .i64 (N+c))) (x0:=J) bZ bV rfl rfl g (kZ B) (kY B)) (λc9 a8=>?_))))))))))))))
   refine lG 13 rfl kr (.inl rfl) rfl dc (λ_ _ h=>⟨h.1,lO br h.2⟩) ⟨d,λ_=>n⟩ (λl W s O=>have A:=(O.2 (s.yL 21 [13] kr rfl)); kF rfl (nC A (λp L=>(Ml L)) g lK a8 (kY B) fW bV)) (lG 14 rfl kr (.inl rfl) rfl dc (λ_ _ h=>⟨h.1,lO br h.2⟩) ⟨d,λ_=>n⟩ (λ_ _ _ _=>kH t) (lG 15 rfl kr (.inl rfl) rfl dc (λ_ _ h=>⟨h.1,lO br h.2⟩) ⟨d,λ_=>n⟩ (λ_ _ _ _=>kH Q) (lG 16 rfl kr (.inl rfl) rfl dc (λ_ _ h=>⟨h.1,lO br h.2⟩) ⟨d,λ_=>n⟩ (λ_ _ _ _=>kH j) (lG 17 rfl kr (.inl rfl) rfl dc (λ_ _ h=>⟨h.1,lO br h.2⟩) ⟨d,λ_=>n⟩ (λ_ _ _ _=>lE rfl rfl rfl) (bS a λK D a=>np 18 rfl kr (.inl rfl) rfl dc (λ_ _ h=>⟨h.1,lO br h.2⟩) ⟨d,λ_=>n⟩ (mh (i:=(wi0 .i64 (M+c))) (x0:=K) bZ bV rfl rfl g (kZ D) (kY D)) (λd0 a9=>lG 19 rfl kr (.inl rfl) rfl dc (λ_ _ h=>⟨h.1,lO br h.2⟩) ⟨d,λ_=>n⟩ (λl W s O=>have A:=(O.2 (s.yL 21 [19] kr rfl)); kF rfl (nC A (λp L=>(Ml L)) g lK a9 (kY D) fW bV)) (bS a λb7 G a=>np 20 rfl kr (.inl rfl) rfl dc (λ_ _ h=>⟨h.1,lO br h.2⟩) ⟨d,λ_=>n⟩ (mh (i:=(wi0 .i64 (M+c))) (x0:=b7) bZ bV rfl rfl g (kZ G) (kY G)) (λd1 b0=>XO 21 rfl (qZ (u:=(.agg (kO J).toArray)) (x1:=J)  q g lK oz rfl rfl rfl b0 (kY G) bV (λc5 c4 q U=>?_))))))))))
   have d:=q.has.kB Sn
   refine ⟨⟨d,λh=>vp kr h⟩,(bS a λb9 H a=>np 22 rfl kr (.inl rfl) rfl dc (λ_ _ h=>⟨h.1,lO br h.2⟩) ⟨d,λh=>vp kr h⟩ (mh (i:=(wi0 .i64 (N+c))) (x0:=b9) bZ bV rfl rfl U (kZ H) (kY H)) (λd2 b1=>XO 23 rfl (qZ (u:=(.agg (kO K).toArray)) (x1:=K)  q U lK oz rfl rfl rfl b1 (kY H) bV (λc6 b2 q P=>?_))))⟩
   have d:=q.has.kB Sn
   exact ⟨⟨d,λh=>vp kr h⟩,(lH kr (lI (kP (kR (Wh j (Wi rfl (Wa (ln ⟨b5,aT _,((I.set (Int.toNat (wi0 .i64 (M+c))) J).set (Int.toNat (wi0 .i64 (N+c))) K),b2,(wi0 .i64 (c+1)),_,(q.kB St),t,Q,T,Z,rfl,P,a⟩))))))))⟩
  refine nu (ng (ng (pM (kP (qK ?_)))))
  obtain rfl:=sj a
  exact px rfl ⟨_,_,rfl,(q.od (Kr Sn)),z,rfl,rfl,g⟩
theorem AQ (k:Value) (a0:List ky) (G:LO) (s D a3:Int) (B:Value) (U:(ky×ky)→Option Int) (r:List ky) (w:World) {μ0:lF} (h0:pe μ0 (G++[]) w) (c5:lm 193 kO 11 k a0 G) (Q:sQ pg0 B μ0 (λ(x:(ky×ky))=>[(.agg (kO x.1).toArray),(.agg (kO x.2).toArray)]) (λ(r:Int)=>(.int .i64 r)) U) (hm:oI a0 s D a3 U=some r) :
  mz true pg0 326 [k,(.int .i64 s),(.int .i64 D),(.int .i64 a3),B] w (G++[]) (λv L1 W'=>∃S1,v=(.tuple #[])∧L1=(S1++[])∧lm 193 kO 11 k r S1):=by
 refine wM h0 58 func326 rfl (λd=>sg (Wm (Wm (Wi rfl (Wa (lr (Wm (Wm (Wi rfl (Wa ?_))))))))))
 refine ln (kQ (me (nn (λm E W=>∃z y c t T Y,lz μ0 T∧ST true (keys (G++[])) w W T (y++Y)∧E 0=k∧E 2=(.int .i64 D)∧E 4=B∧E 10=(.int .i64 c)∧E 11=(.int .i64 t)∧lm 193 kO 11 k z y∧om D U m z c t=some r) li ⟨a0,G,(wi0 .i64 (D-s)),(wi0 .i64 (a3-D)),μ0,_,(lz.refl _),(d.kB St),rfl,rfl,rfl,rfl,rfl,c5,hm⟩ ?_)))
 rintro m E W ⟨z,y,c,t,T,Y,j,d,H,i,I,g,u,J,a⟩
 let a2:=(wi0 .i64 (D-c))
 cases m with
 | zero=>rw [om] at a; cases a
 | succ a5=>
  refine kQ (sg (Wh g (Wh u (Wi rfl (ln (CI a rfl (λa9 a=>?_) (λa9 a=>?_)))))))
  ·refine kn (bg (Wh g (Wh u (Wi rfl (ln (CI a rfl (λP a=>?_) (λP a=>?_)))))))
   ·refine sg (Wh H (Wh i (Wh g (Wi rfl (Wh i (Wh u (Wh I (bS a λc6 R a=>?_))))))))
    refine VE (eM d (Cr Qz Cn) call365 (λq p=>(sq k z y a2 D t B U _ _ q J (Q.mono (j.trans p)) R)) ?_)
    rintro _ e1 c8 d3 d Z A n ⟨b9,K,rfl,b4⟩
    obtain rfl:=K.symm
    replace d:=d.perm (Tr Tn)
    exact ln (kR (Wh g (Wh u (Wi rfl (Wa (lu (lI (kP ⟨a5,aT _,c6,b9,(wi0 .i64 (c-t)),t,c8,_,(j.trans Z),(d.kB St),H,i,I,rfl,u,b4,a⟩))))))))
   refine sg (Wh H (Wh i (Wh g (Wi rfl (Wh i (Wh u (Wi rfl (Wh g (Wi rfl (Wh g (Wh I (bS a λc7 b2 a=>?_))))))))))))
   refine VE (eM d (Cr Qz Cn) call365 (λq p=>(sq k z y a2 (wi0 .i64 ((wi0 .i64 (D+t))-c)) c B U _ _ q J (Q.mono (j.trans p)) b2)) ?_)
   rintro _ e2 c9 d4 d a4 L n ⟨c0,M,rfl,b5⟩
   obtain rfl:=M.symm
   replace d:=d.perm (Tr Tn)
   exact ln (kR (Wh u (Wh g (Wi rfl (Wa (lu (lI (kP ⟨a5,aT _,c7,c0,c,(wi0 .i64 (t-c)),c9,_,(j.trans a4),(d.kB St),H,i,I,g,rfl,b5,a⟩))))))))
  refine nu (ng (ng (pM (kP (kR (Wh H (Wh i (Wh g (Wi rfl (Wh i (Wh g (Wh I (bS a λe0 b3 a=>?_)))))))))))))
  refine VE (eM d (Cr Qz Cn) call365 (λq p=>(sq k z y a2 D c B U _ _ q J (Q.mono (j.trans p)) b3)) ?_)
  rintro _ e3 e4 d5 d d1 O n ⟨c1,N,rfl,b6⟩
  obtain rfl:=N.symm
  replace d:=d.perm (Tr Tn)
  refine lu (qK ?_)
  obtain rfl:=sj a
  exact px rfl ⟨_,_,rfl,(d.od (Kr Sn)),c1,rfl,rfl,b6⟩
set_option maxHeartbeats 4000000 in
theorem yf (s7:(List ky)→Int→Int→Int→((ky×ky)→Option Int)→Option (List ky)) (s1:∀(t:Value) (a0:List ky) (c:LO) (D:Int) (Q:Int) (G:Int) (I:Value) (f4:(ky×ky)→Option Int) (r:List ky) (w:World) {μ0:lF} (h0:pe μ0 (c++[]) w) (H:lm 193 kO 11 t a0 c) (c4:sQ pg0 I μ0 (λ(x:(ky×ky))=>[(.agg (kO x.1).toArray),(.agg (kO x.2).toArray)]) (λ(r:Int)=>(.int .i64 r)) f4),s7 a0 D Q G f4=some r→mz false pg0 270 [t,(.int .i64 D),(.int .i64 Q),(.int .i64 G),I] w (c++[]) (λv L1 W'=>∃S1,v=(.tuple #[])∧L1=(S1++[])∧lm 193 kO 11 t r S1)) (t:Value) (a0:List ky) (c:LO) (D Q G:Int) (I:Value) (f4:(ky×ky)→Option Int) (r:List ky) (w:World) {μ0:lF} (h0:pe μ0 (c++[]) w) (H:lm 193 kO 11 t a0 c) (c4:sQ pg0 I μ0 (λ(x:(ky×ky))=>[(.agg (kO x.1).toArray),(.agg (kO x.2).toArray)]) (λ(r:Int)=>(.int .i64 r)) f4) (hm:rc s7 a0 D Q G f4=some r) :
  mz false pg0 270 [t,(.int .i64 D),(.int .i64 Q),(.int .i64 G),I] w (c++[]) (λv L1 W'=>∃S1,v=(.tuple #[])∧L1=(S1++[])∧lm 193 kO 11 t r S1):=by
 refine wM h0 220 func270 rfl (λd=>kQ (sg (Wm (Wm (Wi rfl (Wi rfl (ln (CI hm rfl (λy7 hm=>?_) (λy7 hm=>?_)))))))))
 ·refine sg (Wm (Wa (lr (Wm (Wa (ln (kQ (me (nn (λm E W=>∃U a7 o3,ST false (keys (c++[])) w W μ0 (c++o3)∧E 0=t∧E 1=(.int .i64 D)∧E 4=I∧E 10=(.int .i64 U)∧E 11=(.int .i64 a7)∧mN a0 D f4 m U a7=some r) li ⟨Q,G,_,(d.kB St),rfl,rfl,rfl,rfl,rfl,hm⟩ ?_)))))))))
  rintro m E W ⟨U,a7,o3,d,e4,i4,k2,i5,k3,z⟩
  cases m with
  | zero=>rw [mN] at z; cases z
  | succ s6=>
   refine kQ (sg (Wh i5 (Wh k3 (Wi rfl (ln (CI z rfl (λv4 z=>?_) (λv4 z=>?_)))))))
   ·refine kn (bg (Wh i5 (Wh k3 (Wi rfl (V (pc (k':=.i64) (a:=(wi0 .i64 (U+a7))) dH dX rfl) (V (BO (a:=(IntKind.u64.wrap (wi0 .i64 (U+a7)))) (b:=1) rfl rfl dc) (V (pc (k':=.u64) (a:=(Int.fdiv (IntKind.u64.wrap (wi0 .i64 (U+a7))) (2 ^ min (Int.toNat 1) (IntKind.bits .u64)))) dX dH rfl) (Wa (ln (kQ ?_))))))))))
    let c3:=(Int.fdiv (IntKind.u64.wrap (wi0 .i64 (U+a7))) (2 ^ min (Int.toNat 1) (IntKind.bits .u64)))
    replace d:=d.drew
    have n:=d.has.kB (Kr Sn)
    refine lC n lj (X 0 rfl n (kH k2) (X 1 rfl n (kH e4) (X 2 rfl n (kH rfl) (bS z λs8 i6 z=>XQ 3 rfl n (mh (i:=(wi0 .i64 c3)) (x0:=s8) bZ bV rfl rfl H (kZ i6) (kY i6)) (λbd w0=>XH 4 rfl n (λ_ s=>kF rfl (nC s (λp A=>(Ml A)) H lK w0 (kY i6) fW bV)) (X 5 rfl n (kH e4) (X 6 rfl n (kH i4) (bS z λs9 i7 z=>XQ 7 rfl n (mh (i:=D) (x0:=s9) bZ bV rfl rfl H (kZ i7) (kY i7)) (λbe w1=>XH 8 rfl n (λ_ s=>kF rfl (nC s (λp A=>(Ml A)) H lK w1 (kY i7) fW bV)) (bS z λbk w6 z=>XE 9 rfl (DR (s8,s9) d c4 (lz.refl _) rfl (qJ rfl rfl) w6 (λay d=>?_))))))))))))
    have n:=d.has.kB (Kr Sn)
    refine ⟨n,(X 10 rfl n (lE rfl rfl rfl) (lH kr (kP (CI z rfl (λv5 z=>?_) (λv5 z=>?_)))))⟩
    ·exact kR (Wm (Wi rfl (Wa (lu (lI (kP ⟨s6,aT _,(wi0 .i64 ((wi0 .i64 c3)+1)),a7,_,(d.kB St),e4,i4,k2,rfl,k3,z⟩))))))
    exact kR (Wm (Wa (lu (lI (kP ⟨s6,aT _,U,(wi0 .i64 c3),_,(d.kB St),e4,i4,k2,i5,rfl,z⟩)))))
   refine nu (ng (ng (pM (kP (kQ (sg (Wh i4 (Wa (ln (CJ z (λk4 E W=>∃g3 o4,ST false (keys (c++[])) w W μ0 (g3++o4)∧lm 193 kO 11 t k4 g3) (λk4 v9=>?_) ?_))))))))))
   ·refine me (nn (λm E W=>∃j4 g4 a8 o5,ST false (keys (c++[])) w W μ0 (g4++o5)∧E 0=t∧E 10=(.int .i64 U)∧E 13=(.int .i64 a8)∧lm 193 kO 11 t j4 g4∧nJ U m j4 a8=some k4) li ⟨a0,c,D,_,(d.kB St),e4,i5,rfl,H,v9⟩ ?_)
    rintro m E W ⟨j4,g4,a8,o5,d,e5,o7,c8,b1,B⟩
    cases m with
    | zero=>rw [nJ] at B; cases B
    | succ y1=>
     refine kQ (sg (Wh c8 (Wh o7 (Wi rfl (Wi rfl (ln (CI B rfl (λv6 B=>?_) (λv6 B=>?_))))))))
     ·refine kn (kQ (me ?_))
      replace d:=d.drew
      have n:=d.has.kB Sn
      have q:=d.has.kB (Kr Sn)
      refine sM 15 n q lj (lG 0 rfl kr (.inl rfl) rfl dc (λ_ _ h=>⟨h.1,lO br h.2⟩) ⟨n,λ_=>q⟩ (λ_ _ _ _=>kH e5) (lG 1 rfl kr (.inl rfl) rfl dc (λ_ _ h=>⟨h.1,lO br h.2⟩) ⟨n,λ_=>q⟩ (λ_ _ _ _=>kH c8) (lG 2 rfl kr (.inl rfl) rfl dc (λ_ _ h=>⟨h.1,lO br h.2⟩) ⟨n,λ_=>q⟩ (λ_ _ _ _=>kH e5) (lG 3 rfl kr (.inl rfl) rfl dc (λ_ _ h=>⟨h.1,lO br h.2⟩) ⟨n,λ_=>q⟩ (λ_ _ _ _=>kH c8) (lG 4 rfl kr (.inl rfl) rfl dc (λ_ _ h=>⟨h.1,lO br h.2⟩) ⟨n,λ_=>q⟩ (λ_ _ _ _=>lE rfl rfl rfl) (lG 5 rfl kr (.inl rfl) rfl dc (λ_ _ h=>⟨h.1,lO br h.2⟩) ⟨n,λ_=>q⟩ (λ_ _ _ _=>kH e5) (lG 6 rfl kr (.inl rfl) rfl dc (λ_ _ h=>⟨h.1,lO br h.2⟩) ⟨n,λ_=>q⟩ (λ_ _ _ _=>kH c8) (lG 7 rfl kr (.inl rfl) rfl dc (λ_ _ h=>⟨h.1,lO br h.2⟩) ⟨n,λ_=>q⟩ (λ_ _ _ _=>lE rfl rfl rfl) (bS B λj7 i8 B=>np 8 rfl kr (.inl rfl) rfl dc (λ_ _ h=>⟨h.1,lO br h.2⟩) ⟨n,λ_=>q⟩ (mh (i:=(wi0 .i64 (a8+1))) (x0:=j7) bZ bV rfl rfl b1 (kZ i8) (kY i8)) (λbf w2=>lG 9 rfl kr (.inl rfl) rfl dc (λ_ _ h=>⟨h.1,lO br h.2⟩) ⟨n,λ_=>q⟩ (λl W L hs=>have s:=(hs.2 (L.yL 15 [9] kr rfl)); kF rfl (nC s (λp A=>(Ml A)) b1 lK w2 (kY i8) fW bV)) (lG 10 rfl kr (.inl rfl) rfl dc (λ_ _ h=>⟨h.1,lO br h.2⟩) ⟨n,λ_=>q⟩ (λ_ _ _ _=>kH e5) (lG 11 rfl kr (.inl rfl) rfl dc (λ_ _ h=>⟨h.1,lO br h.2⟩) ⟨n,λ_=>q⟩ (λ_ _ _ _=>kH c8) (bS B λj8 i9 B=>?_)))))))))))))
      refine np 12 rfl kr (.inl rfl) rfl dc (λ_ _ h=>⟨h.1,lO br h.2⟩) ⟨n,λ_=>q⟩ (mh (i:=a8) (x0:=j8) bZ bV rfl rfl b1 (kZ i9) (kY i9)) (λbh w3=>lG 13 rfl kr (.inl rfl) rfl dc (λ_ _ h=>⟨h.1,lO br h.2⟩) ⟨n,λ_=>q⟩ (λl W L hs=>have s:=(hs.2 (L.yL 15 [13] kr rfl)); kF rfl (nC s (λp A=>(Ml A)) b1 lK w3 (kY i9) fW bV)) (bS B λy3 j0 B=>np 14 rfl kr (.inl rfl) rfl dc (λ_ _ h=>⟨h.1,lO br h.2⟩) ⟨n,λ_=>q⟩ (mh (i:=a8) (x0:=y3) bZ bV rfl rfl b1 (kZ j0) (kY j0)) (λbi w4=>XO 15 rfl (qZ (u:=(.agg (kO j7).toArray)) (x1:=j7)  d b1 lK oz rfl rfl rfl w4 (kY j0) bV (λaz aw d m8=>?_)))))
      have n:=d.has.kB Sn
      refine ⟨⟨n,λh=>vp kr h⟩,(bS B λy4 j3 B=>np 16 rfl kr (.inl rfl) rfl dc (λ_ _ h=>⟨h.1,lO br h.2⟩) ⟨n,λh=>vp kr h⟩ (mh (i:=(wi0 .i64 (a8+1))) (x0:=y4) bZ bV rfl rfl m8 (kZ j3) (kY j3)) (λbj w5=>XO 17 rfl (qZ (u:=(.agg (kO j8).toArray)) (x1:=j8)  d m8 lK oz rfl rfl rfl w5 (kY j3) bV (λba y0 d v3=>?_))))⟩
      have n:=d.has.kB Sn
      exact ⟨⟨n,λh=>vp kr h⟩,(lH kr (lI (kP (kR (Wh c8 (Wi rfl (Wa (ln ⟨y1,aT _,((j4.set (Int.toNat a8) j7).set (Int.toNat (wi0 .i64 (a8+1))) j8),y0,(wi0 .i64 (a8+1)),_,(d.kB St),e5,o7,rfl,v3,B⟩))))))))⟩
     refine nu (ng (ng (pM (kP ?_))))
     obtain rfl:=sj B
     exact ⟨g4,_,(d.kB St),b1⟩
   rintro bc E W ⟨g3,o4,d,w7⟩ v8
   refine lB (lV ?_)
   obtain rfl:=sj v8
   exact px rfl ⟨_,_,rfl,(d.od (Kr Sn)),g3,rfl,rfl,w7⟩
 refine kS (Wm (Wm (Wi rfl (Wi rfl (ln (CI hm rfl (λv7 hm=>?_) (λv7 hm=>?_)))))))
 ·refine sg (Wm (Wa (lr (Wm (Wa (ln (kQ (me (nn (λm E W=>∃Y a9 k5,ST false (keys (c++[])) w W μ0 (c++k5)∧E 0=t∧E 2=(.int .i64 Q)∧E 4=I∧E 14=(.int .i64 Y)∧E 15=(.int .i64 a9)∧mO a0 Q f4 m Y a9=some r) li ⟨D,Q,_,(d.kB St),rfl,rfl,rfl,rfl,rfl,hm⟩ ?_)))))))))
  rintro m E W ⟨Y,a9,k5,d,c5,d2,g7,d3,g8,j⟩
  let e3:=(IntKind.u64.wrap (wi0 .i64 (Y+a9)))
  let b8:=(Int.fdiv e3 (2 ^ min (Int.toNat 1) (IntKind.bits .u64)))
  cases m with
  | zero=>rw [mO] at j; cases j
  | succ m9=>
   refine kQ (sg (Wh d3 (Wh g8 (Wi rfl (ln (CI j rfl (λp2 j=>?_) (λp2 j=>?_)))))))
   ·refine kn (bg (Wh d3 (Wh g8 (Wi rfl (V (pc (k':=.i64) (a:=(wi0 .i64 (Y+a9))) dH dX rfl) (V (BO (a:=e3) (b:=1) rfl rfl dc) (V (pc (k':=.u64) (a:=(Int.fdiv e3 (2 ^ min (Int.toNat 1) (IntKind.bits .u64)))) dX dH rfl) (Wa (ln (kQ ?_))))))))))
    replace d:=d.drew
    have n:=d.has.kB (Kr Sn)
    refine lC n lj (X 0 rfl n (kH g7) (X 1 rfl n (kH c5) (X 2 rfl n (kH d2) (bS j λn6 f0 j=>XQ 3 rfl n (mh (i:=Q) (x0:=n6) bZ bV rfl rfl H (kZ f0) (kY f0)) (λaa q8=>XH 4 rfl n (λ_ s=>kF rfl (nC s (λp A=>(Ml A)) H lK q8 (kY f0) fW bV)) (X 5 rfl n (kH c5) (X 6 rfl n (kH rfl) (bS j λn7 f1 j=>XQ 7 rfl n (mh (i:=(wi0 .i64 b8)) (x0:=n7) bZ bV rfl rfl H (kZ f1) (kY f1)) (λab q9=>XH 8 rfl n (λ_ s=>kF rfl (nC s (λp A=>(Ml A)) H lK q9 (kY f1) fW bV)) (bS j λai r6 j=>XE 9 rfl (DR (n6,n7) d c4 (lz.refl _) rfl (qJ rfl rfl) r6 (λz2 d=>?_))))))))))))
    have n:=d.has.kB (Kr Sn)
    refine ⟨n,(X 10 rfl n (lE rfl rfl rfl) (X 11 rfl n (nv rfl) (lH kr (kP (CI j rfl (λp3 j=>?_) (λp3 j=>?_))))))⟩
    ·exact kR (Wm (Wi rfl (Wa (lu (lI (kP ⟨m9,aT _,(wi0 .i64 ((wi0 .i64 b8)+1)),a9,_,(d.kB St),c5,d2,g7,rfl,g8,j⟩))))))
    exact kR (Wm (Wa (lu (lI (kP ⟨m9,aT _,Y,(wi0 .i64 b8),_,(d.kB St),c5,d2,g7,d3,rfl,j⟩)))))
   refine nu (ng (ng (pM (kP (kQ (sg (Wh d2 (Wa (ln (CJ j (λj5 E W=>∃d0 k6,ST false (keys (c++[])) w W μ0 (d0++k6)∧lm 193 kO 11 t j5 d0) (λj5 q2=>?_) ?_))))))))))
   ·refine me (nn (λm E W=>∃d9 d1 T k7,ST false (keys (c++[])) w W μ0 (d1++k7)∧E 0=t∧E 14=(.int .i64 Y)∧E 17=(.int .i64 T)∧lm 193 kO 11 t d9 d1∧nO Y m d9 T=some j5) li ⟨a0,c,Q,_,(d.kB St),c5,d3,rfl,H,q2⟩ ?_)
    rintro m E W ⟨d9,d1,T,k7,d,c6,l5,b9,a6,y⟩
    cases m with
    | zero=>rw [nO] at y; cases y
    | succ x2=>
     refine kQ (sg (Wh b9 (Wh l5 (Wi rfl (ln (CI y rfl (λp4 y=>?_) (λp4 y=>?_)))))))
     ·refine kn (kQ (me ?_))
      replace d:=d.drew
      have n:=d.has.kB Sn
      have q:=d.has.kB (Kr Sn)
      refine sM 15 n q lj (lG 0 rfl kr (.inl rfl) rfl dc (λ_ _ h=>⟨h.1,lO br h.2⟩) ⟨n,λ_=>q⟩ (λ_ _ _ _=>kH c6) (lG 1 rfl kr (.inl rfl) rfl dc (λ_ _ h=>⟨h.1,lO br h.2⟩) ⟨n,λ_=>q⟩ (λ_ _ _ _=>kH b9) (lG 2 rfl kr (.inl rfl) rfl dc (λ_ _ h=>⟨h.1,lO br h.2⟩) ⟨n,λ_=>q⟩ (λ_ _ _ _=>kH c6) (lG 3 rfl kr (.inl rfl) rfl dc (λ_ _ h=>⟨h.1,lO br h.2⟩) ⟨n,λ_=>q⟩ (λ_ _ _ _=>kH b9) (lG 4 rfl kr (.inl rfl) rfl dc (λ_ _ h=>⟨h.1,lO br h.2⟩) ⟨n,λ_=>q⟩ (λ_ _ _ _=>lE rfl rfl rfl) (lG 5 rfl kr (.inl rfl) rfl dc (λ_ _ h=>⟨h.1,lO br h.2⟩) ⟨n,λ_=>q⟩ (λ_ _ _ _=>kH c6) (lG 6 rfl kr (.inl rfl) rfl dc (λ_ _ h=>⟨h.1,lO br h.2⟩) ⟨n,λ_=>q⟩ (λ_ _ _ _=>kH b9) (lG 7 rfl kr (.inl rfl) rfl dc (λ_ _ h=>⟨h.1,lO br h.2⟩) ⟨n,λ_=>q⟩ (λ_ _ _ _=>lE rfl rfl rfl) (bS y λe0 f2 y=>np 8 rfl kr (.inl rfl) rfl dc (λ_ _ h=>⟨h.1,lO br h.2⟩) ⟨n,λ_=>q⟩ (mh (i:=(wi0 .i64 (T-1))) (x0:=e0) bZ bV rfl rfl a6 (kZ f2) (kY f2)) (λac r0=>lG 9 rfl kr (.inl rfl) rfl dc (λ_ _ h=>⟨h.1,lO br h.2⟩) ⟨n,λ_=>q⟩ (λl W L hs=>have s:=(hs.2 (L.yL 15 [9] kr rfl)); kF rfl (nC s (λp A=>(Ml A)) a6 lK r0 (kY f2) fW bV)) (lG 10 rfl kr (.inl rfl) rfl dc (λ_ _ h=>⟨h.1,lO br h.2⟩) ⟨n,λ_=>q⟩ (λ_ _ _ _=>kH c6) (lG 11 rfl kr (.inl rfl) rfl dc (λ_ _ h=>⟨h.1,lO br h.2⟩) ⟨n,λ_=>q⟩ (λ_ _ _ _=>kH b9) (bS y λe1 f3 y=>?_)))))))))))))
      refine np 12 rfl kr (.inl rfl) rfl dc (λ_ _ h=>⟨h.1,lO br h.2⟩) ⟨n,λ_=>q⟩ (mh (i:=T) (x0:=e1) bZ bV rfl rfl a6 (kZ f3) (kY f3)) (λad r1=>lG 13 rfl kr (.inl rfl) rfl dc (λ_ _ h=>⟨h.1,lO br h.2⟩) ⟨n,λ_=>q⟩ (λl W L hs=>have s:=(hs.2 (L.yL 15 [13] kr rfl)); kF rfl (nC s (λp A=>(Ml A)) a6 lK r1 (kY f3) fW bV)) (bS y λx3 f5 y=>np 14 rfl kr (.inl rfl) rfl dc (λ_ _ h=>⟨h.1,lO br h.2⟩) ⟨n,λ_=>q⟩ (mh (i:=T) (x0:=x3) bZ bV rfl rfl a6 (kZ f5) (kY f5)) (λae r2=>XO 15 rfl (qZ (u:=(.agg (kO e0).toArray)) (x1:=e0)  d a6 lK oz rfl rfl rfl r2 (kY f5) bV (λz3 z1 d j9=>?_)))))
      have n:=d.has.kB Sn
      refine ⟨⟨n,λh=>vp kr h⟩,(bS y λx4 f6 y=>np 16 rfl kr (.inl rfl) rfl dc (λ_ _ h=>⟨h.1,lO br h.2⟩) ⟨n,λh=>vp kr h⟩ (mh (i:=(wi0 .i64 (T-1))) (x0:=x4) bZ bV rfl rfl j9 (kZ f6) (kY f6)) (λaf r3=>XO 17 rfl (qZ (u:=(.agg (kO e1).toArray)) (x1:=e1)  d j9 lK oz rfl rfl rfl r3 (kY f6) bV (λz4 t0 d p1=>?_))))⟩
      have n:=d.has.kB Sn
      exact ⟨⟨n,λh=>vp kr h⟩,(lH kr (lI (kP (kR (Wh b9 (Wi rfl (Wa (ln ⟨x2,aT _,((d9.set (Int.toNat T) e0).set (Int.toNat (wi0 .i64 (T-1))) e1),t0,(wi0 .i64 (T-1)),_,(d.kB St),c6,l5,rfl,p1,y⟩))))))))⟩
     refine nu (ng (ng (pM (kP ?_))))
     obtain rfl:=sj y
     exact ⟨d1,_,(d.kB St),a6⟩
   rintro z9 E W ⟨d0,k6,d,s2⟩ q1
   refine lB (lV ?_)
   obtain rfl:=sj q1
   exact px rfl ⟨_,_,rfl,(d.od (Kr Sn)),d0,rfl,rfl,s2⟩
 let e6:=(IntKind.u64.wrap (wi0 .i64 (D+G)))
 refine kg (Wm (Wm (Wi rfl (V (pc (k':=.i64) (a:=(wi0 .i64 (D+G))) dH dX rfl) (V (BO (a:=e6) (b:=1) rfl rfl dc) (V (pc (k':=.u64) (a:=(Int.fdiv e6 (2 ^ min (Int.toNat 1) (IntKind.bits .u64)))) dX dH rfl) (Wa (lr ?_))))))))
 let R:=(wi0 .i64 (Int.fdiv e6 (2 ^ min (Int.toNat 1) (IntKind.bits .u64))))
 let c9:=(wi0 .i64 (R+Q))
 refine Wm (Wm (Wi rfl (Wa (lr (Wa (Wa (ln (kQ (CJ hm (λj6 E W=>∃k8,ST false (keys (c++[])) w W μ0 (c++k8)∧E 0=t∧E 1=(.int .i64 D)∧E 2=(.int .i64 Q)∧E 3=(.int .i64 G)∧E 4=I∧E 18=(.int .i64 R)∧E 19=(.int .i64 c9)∧E 20=(.int .i64 j6.1)∧E 21=(.int .i64 j6.2)) (λj6 b5=>?_) ?_)))))))))
 ·refine sg (Wm (Wm (Wi rfl (ln (CI b5 rfl (λq0 b5=>?_) (λq0 b5=>?_))))))
  ·refine sg (Wm (Wm (Wi rfl (Wa (ln (kR (Wm (Wa (ln ?_)))))))))
   obtain rfl:=sj b5
   exact ⟨_,(d.kB St),rfl,rfl,rfl,rfl,rfl,rfl,rfl,rfl,rfl⟩
  refine sg (Wm (Wa (ln (kR (Wm (Wa (ln ?_)))))))
  obtain rfl:=sj b5
  exact ⟨_,(d.kB St),rfl,rfl,rfl,rfl,rfl,rfl,rfl,rfl,rfl⟩
 rintro ⟨x5,x6⟩ E W ⟨k8,d,t4,t5,t6,t7,t8,t9,l6,u0,u1⟩ q3
 refine sg (Wh l6 (Wi rfl (Wa (ln (kQ (me (nn (λm E W=>∃g N k9,ST false (keys (c++[])) w W μ0 (c++k9)∧E 0=t∧E 1=(.int .i64 D)∧E 2=(.int .i64 Q)∧E 3=(.int .i64 G)∧E 4=I∧E 18=(.int .i64 R)∧E 19=(.int .i64 c9)∧E 20=(.int .i64 g)∧E 21=(.int .i64 N)∧E 22=(.int .i64 (wi0 .i64 (c9-1)))∧mr a0 D G Q f4 s7 m g N=some r) li ⟨x5,x6,_,(d.kB St),t4,t5,t6,t7,t8,t9,l6,u0,u1,rfl,q3⟩ ?_)))))))
 rintro m E W ⟨g,N,k9,d,c0,d4,c1,d5,c7,d6,g9,b0,h1,h2,k⟩
 let g5:=(IntKind.u64.wrap (wi0 .i64 (g+N)))
 let a3:=(Int.fdiv g5 (2 ^ min (Int.toNat 1) (IntKind.bits .u64)))
 let g6:=(wi0 .i64 a3)
 let a2:=(wi0 .i64 (c9-g))
 cases m with
 | zero=>rw [mr] at k; cases k
 | succ n0=>
  refine kQ (sg (Wh b0 (Wh h1 (Wi rfl (ln (CI k rfl (λp5 k=>?_) (λp5 k=>?_)))))))
  ·refine kn (bg (Wh b0 (Wh h1 (Wi rfl (V (pc (k':=.i64) (a:=(wi0 .i64 (g+N))) dH dX rfl) (V (BO (a:=g5) (b:=1) rfl rfl dc) (V (pc (k':=.u64) (a:=(Int.fdiv g5 (2 ^ min (Int.toNat 1) (IntKind.bits .u64)))) dX dH rfl) (Wa (ln (kQ ?_))))))))))
   replace d:=d.drew
   have n:=d.has.kB (Kr Sn)
   refine lC n lj (X 0 rfl n (kH c7) (X 1 rfl n (kH c0) (X 2 rfl n (kH h2) (X 3 rfl n (kH rfl) (X 4 rfl n (lE rfl rfl rfl) (bS k λn8 f7 k=>XQ 5 rfl n (mh (i:=(wi0 .i64 ((wi0 .i64 (c9-1))-g6))) (x0:=n8) bZ bV rfl rfl H (kZ f7) (kY f7)) (λag r4=>XH 6 rfl n (λ_ s=>kF rfl (nC s (λp A=>(Ml A)) H lK r4 (kY f7) fW bV)) (X 7 rfl n (kH c0) (X 8 rfl n (kH rfl) (bS k λn9 f8 k=>XQ 9 rfl n (mh (i:=(wi0 .i64 a3)) (x0:=n9) bZ bV rfl rfl H (kZ f8) (kY f8)) (λah r5=>XH 10 rfl n (λ_ s=>kF rfl (nC s (λp A=>(Ml A)) H lK r5 (kY f8) fW bV)) (bS k λaj r7 k=>?_))))))))))))
   refine XE 11 rfl (DR (n8,n9) d c4 (lz.refl _) rfl (qJ rfl rfl) r7 (λz5 d=>?_))
   have n:=d.has.kB (Kr Sn)
   refine ⟨n,(X 12 rfl n (lE rfl rfl rfl) (X 13 rfl n (nv rfl) (lH kr (kP (CI k rfl (λp6 k=>?_) (λp6 k=>?_))))))⟩
   ·exact kR (Wm (Wi rfl (Wa (lu (lI (kP ⟨n0,aT _,(wi0 .i64 (g6+1)),N,_,(d.kB St),c0,d4,c1,d5,c7,d6,g9,rfl,h1,h2,k⟩))))))
   exact kR (Wm (Wa (lu (lI (kP ⟨n0,aT _,g,g6,_,(d.kB St),c0,d4,c1,d5,c7,d6,g9,b0,rfl,h2,k⟩)))))
  refine nu (ng (ng (pM (kP (sg (Wh g9 (Wh b0 (Wi rfl (Wa (ln (kQ (CJ k (λn4 E W=>∃b6 c2 l0,lz μ0 c2∧ST false (keys (c++[])) w W c2 (b6++l0)∧E 0=t∧E 1=(.int .i64 D)∧E 3=(.int .i64 G)∧E 4=I∧E 18=(.int .i64 R)∧E 20=(.int .i64 g)∧E 24=(.int .i64 a2)∧lm 193 kO 11 t n4 b6) (λn4 q7=>?_) ?_))))))))))))
  ·refine sg (Wh b0 (Wh c1 (Wi rfl (Wm (LJ q7 (λn5 E W=>∃l4,ST false (keys (c++[])) w W μ0 (c++l4)∧E 0=t∧E 1=(.int .i64 D)∧E 2=(.int .i64 Q)∧E 3=(.int .i64 G)∧E 4=I∧E 18=(.int .i64 R)∧E 20=(.int .i64 g)∧E 24=(.int .i64 a2)∧E 185=(.bool n5)) 4 ?_ (λn5 b4 g2=>?_))))))
   ·rintro au E W ⟨l4,d,i0,m5,v1,m6,i1,m7,i2,i3,v2⟩ a5
    refine ln (CI a5 v2 (λp9 a5=>?_) (λp9 a5=>?_))
    ·refine kR (Wh i0 (Wh i2 (Wh v1 (Wh i3 (Wh i1 (bS a5 λam s0 a5=>?_))))))
     refine VE (eM d (Cr Qz Cn) call326 (λhh P=>mz.mK (AQ t a0 c g Q a2 I f4 _ _ hh H (c4.mono P) s0)) ?_)
     rintro _ ap x8 z0 d o2 bn O ⟨t3,e9,rfl,s5⟩
     obtain rfl:=e9.symm
     replace d:=d.perm (Tr Tn)
     refine ln ?_
     obtain rfl:=sj a5
     exact ⟨t3,x8,_,o2,(d.kB St),i0,m5,m6,i1,m7,i2,i3,s5⟩
    refine kn ?_
    obtain rfl:=sj a5
    exact ⟨c,μ0,_,(lz.refl _),(d.kB St),i0,m5,m6,i1,m7,i2,i3,H⟩
   refine bC b4 (λM b4=>?_) (λM b4=>?_)
   ·refine ug M (kH c1) (ug M (kH rfl) (ug M (lE rfl rfl rfl) (V (lb (cB M) rfl) ?_)))
    obtain rfl:=sj b4
    exact g2 _ _ ⟨_,(d.kB St),c0,d4,c1,d5,c7,d6,b0,rfl,rfl⟩
   refine un M (un M (un M (V (lf (cB M) rfl) ?_)))
   obtain rfl:=sj b4
   exact g2 _ _ ⟨_,(d.kB St),c0,d4,c1,d5,c7,d6,b0,rfl,rfl⟩
  rintro w8 E W ⟨b6,c2,l0,f9,d,l7,h3,l8,l9,h4,d7,m0,k0⟩ q4
  refine kQ (CJ q4 (λn2 E W=>∃b7 e2 l1,lz c2 e2∧ST false (keys (c++[])) w W e2 (b7++l1)∧E 0=t∧E 3=(.int .i64 G)∧E 4=I∧E 18=(.int .i64 R)∧E 24=(.int .i64 a2)∧lm 193 kO 11 t n2 b7) (λn2 q6=>?_) ?_)
  ·refine sg (Wh h3 (Wh d7 (Wi rfl (Wm (LJ q6 (λn3 E W=>∃l3,ST false (keys (c++[])) w W c2 (b6++l3)∧E 0=t∧E 1=(.int .i64 D)∧E 3=(.int .i64 G)∧E 4=I∧E 18=(.int .i64 R)∧E 20=(.int .i64 g)∧E 24=(.int .i64 a2)∧E 199=(.bool n3)) 4 ?_ (λn3 b3 g1=>?_))))))
   ·rintro ar E W ⟨l3,d,h7,u8,m3,h8,h9,u9,m4,v0⟩ a4
    refine ln (CI a4 v0 (λp8 a4=>?_) (λp8 a4=>?_))
    ·refine kR (Wh h7 (Wh u8 (Wh u9 (Wh h9 (Wh h8 (bS a4 λal r9 a4=>?_))))))
     refine VE (eM d (Cr Qz Cn) call270 (λhh P=>(s1 t w8 b6 D g R I f4 _ _ hh k0 (c4.mono (f9.trans P)) r9)) ?_)
     rintro _ ao x7 y9 d o1 bl O ⟨t2,e8,rfl,s4⟩
     obtain rfl:=e8.symm
     replace d:=d.perm (Tr Tn)
     refine ln ?_
     obtain rfl:=sj a4
     exact ⟨t2,x7,_,o1,(d.kB St),h7,m3,h8,h9,m4,s4⟩
    refine kn ?_
    obtain rfl:=sj a4
    exact ⟨b6,c2,_,(lz.refl _),(d.kB St),h7,m3,h8,h9,m4,k0⟩
   refine bC b3 (λK b3=>?_) (λK b3=>?_)
   ·refine ug K (kH d7) (ug K (kH h4) (ug K (lE rfl rfl rfl) (V (lb (cB K) rfl) ?_)))
    obtain rfl:=sj b3
    exact g1 _ _ ⟨_,(d.kB St),l7,h3,l8,l9,h4,d7,m0,rfl⟩
   refine un K (un K (un K (V (lf (cB K) rfl) ?_)))
   obtain rfl:=sj b3
   exact g1 _ _ ⟨_,(d.kB St),l7,h3,l8,l9,h4,d7,m0,rfl⟩
  rintro w9 E W ⟨b7,e2,l1,o0,d,m1,h5,m2,h6,d8,k1⟩ q5
  refine sg (Wh h6 (Wh d8 (Wi rfl (Wm (LJ q5 (λn1 E W=>∃l2,ST false (keys (c++[])) w W e2 (b7++l2)∧E 0=t∧E 3=(.int .i64 G)∧E 4=I∧E 18=(.int .i64 R)∧E 24=(.int .i64 a2)∧E 213=(.bool n1)) 4 ?_ (λn1 b2 g0=>?_))))))
  ·rintro aq E W ⟨l2,d,u2,u3,u4,u5,u6,u7⟩ Z
   refine ln (CI Z u7 (λp7 Z=>?_) (λp7 Z=>?_))
   ·refine kR (Wh u2 (Wh u5 (Wh u6 (Wh u3 (Wh u4 (bS Z λak r8 Z=>?_))))))
    refine VE (eM d (Cr Qz Cn) call270 (λhh P=>(s1 t w9 b7 R a2 G I f4 _ _ hh k1 (c4.mono ((f9.trans o0).trans P)) r8)) ?_)
    rintro _ an av y8 d y5 aE O ⟨t1,e7,rfl,s3⟩
    obtain rfl:=e7.symm
    replace d:=d.perm (Tr Tn)
    refine lu (qK ?_)
    obtain rfl:=sj Z
    exact px rfl ⟨_,_,rfl,(d.od (Kr Sn)),t1,rfl,rfl,s3⟩
   refine mM (qK ?_)
   obtain rfl:=sj Z
   exact px rfl ⟨_,_,rfl,(d.od (Kr Sn)),b7,rfl,rfl,k1⟩
  refine bC b2 (λJ b2=>?_) (λJ b2=>?_)
  ·refine ug J (kH d8) (ug J (kH h5) (ug J (lE rfl rfl rfl) (V (lb (cB J) rfl) ?_)))
   obtain rfl:=sj b2
   exact g0 _ _ ⟨_,(d.kB St),m1,h5,m2,h6,d8,rfl⟩
  refine un J (un J (un J (V (lf (cB J) rfl) ?_)))
  obtain rfl:=sj b2
  exact g0 _ _ ⟨_,(d.kB St),m1,h5,m2,h6,d8,rfl⟩
theorem sG:∀(n:Nat) (c:Value) (j:List ky) (a:LO) (k:Int) (t:Int) (u:Int) (g:Value) (y:(ky×ky)→Option Int) (r:List ky) (w:World) {z:lF} (H:pe z (a++[]) w) (D:lm 193 kO 11 c j a) (G:sQ pg0 g z (λ(x:(ky×ky))=>[(.agg (kO x.1).toArray),(.agg (kO x.2).toArray)]) (λ(r:Int)=>(.int .i64 r)) y) (_:nh n j k t u y=some r),
  mz false pg0 270 [c,(.int .i64 k),(.int .i64 t),(.int .i64 u),g] w (a++[]) (λv B W'=>∃i,v=(.tuple #[])∧B=(i++[])∧lm 193 kO 11 c r i)
 | 0=>by intros; rename_i h; simp only [nh] at h; cases h
 | n+1=>yf (nh n) (sG n)
theorem AE (a:Value) (a0:List ky) (u:LO) (M:Int) (t:Value) (f2:(ky×ky)→Option Int) (r:List ky) (w:World) {μ0:lF} (h0:pe μ0 (u++[]) w) (k4:lm 193 kO 11 a a0 u) (c4:sQ pg0 t μ0 (λ(x:(ky×ky))=>[(.agg (kO x.1).toArray),(.agg (kO x.2).toArray)]) (λ(r:Int)=>(.int .i64 r)) f2) (hm:tg a0 M f2=some r) :
  mz false pg0 210 [a,(.int .i64 M),t] w (u++[]) (λv L1 W'=>∃S1,v=(.tuple #[])∧L1=(S1++[])∧lm 193 kO 11 a r S1):=by
 refine wM h0 63 func210 rfl (λd=>sg (Wa (lr (Wm (Wa (Wa (ln (kQ (me (nn (λm E W=>∃d2 A d3 s h2 f0,lz μ0 h2∧ST false (keys (u++[])) w W h2 (A++f0)∧E 0=a∧E 1=(.int .i64 M)∧E 2=t∧E 6=(.int .i64 20)∧E 7=(.int .i64 d3)∧E 8=(.int .i64 s)∧lm 193 kO 11 a d2 A∧nG M f2 m d2 d3 s=some r) li ⟨a0,u,0,20,μ0,_,(lz.refl _),(d.kB St),rfl,rfl,rfl,rfl,rfl,rfl,k4,hm⟩ ?_))))))))))
 rintro m E W ⟨d2,A,d3,s,h2,f0,y,d,L,O,P,d4,f3,R,g8,g⟩
 cases m with
 | zero=>rw [nG] at g; cases g
 | succ k5=>
  refine kQ (sg (Wh R (Wh O (Wi rfl (ln (CI g rfl (λi3 g=>?_) (λi3 g=>?_)))))))
  ·refine kn (bg (Wh L (Wh f3 (Wh R (Wh P (bS g λk6 i6 g=>?_))))))
   refine VE (eM d (Cr Qz Cn) call269 (λq p=>(uo a d2 A d3 s t f2 _ _ q g8 (c4.mono (y.trans p)) i6)) ?_)
   rintro _ m5 k8 l9 d f9 ab n ⟨k1,c5,rfl,i9⟩
   obtain rfl:=c5.symm
   replace d:=d.perm (Tr Tn)
   refine lr (Wh R (Wa (ln (kR (Wh R (Wh d4 (Wi rfl (Wa (lu (lI ?_))))))))))
   exact kP ⟨k5,aT _,k6,k1,s,(wi0 .i64 (s+20)),k8,_,(y.trans f9),(d.kB St),L,O,P,d4,rfl,rfl,i9,g⟩
  refine nu (ng (ng (pM (kP (sg (Wh L (Wh f3 (Wh O (Wh P (bS g λk7 i7 g=>?_))))))))))
  refine VE (eM d (Cr Qz Cn) call269 (λq p=>(uo a d2 A d3 M t f2 _ _ q g8 (c4.mono (y.trans p)) i7)) ?_)
  rintro _ m6 d6 m0 d c9 ad n ⟨k2,c6,rfl,j0⟩
  obtain rfl:=c6.symm
  replace d:=d.perm (Tr Tn)
  refine ln (rZ (CJ g (λd5 E W=>∃a9 d7 f1,lz d6 d7∧ST false (keys (u++[])) w W d7 (a9++f1)∧lm 193 kO 11 a d5 a9) (λd5 i5=>?_) ?_))
  ·refine me (nn (λm E W=>∃c7 a4 j D d8,lz d6 D∧ST false (keys (u++[])) w W D (a4++d8)∧E 0=a∧E 1=(.int .i64 M)∧E 2=t∧E 6=(.int .i64 j)∧lm 193 kO 11 a c7 a4∧nF M f2 m c7 j=some d5) li ⟨k7,k2,20,d6,_,(lz.refl _),(d.kB St),L,O,P,d4,j0,i5⟩ ?_)
   rintro m E W ⟨c7,a4,j,D,d8,z,d,h5,e2,h6,b0,e4,i⟩
   cases m with
   | zero=>rw [nF] at i; cases i
   | succ j5=>
    refine kQ (sg (Wh b0 (Wh e2 (Wi rfl (ln (CI i rfl (λf6 i=>?_) (λf6 i=>?_)))))))
    ·refine kn (bg (Wh b0 (Wi rfl (Wa (Wa (ln (kQ (CJ i (λZ E W=>∃G J d9,lz D J∧ST false (keys (u++[])) w W J (G++d9)∧E 0=a∧E 1=(.int .i64 M)∧E 2=t∧E 6=(.int .i64 j)∧E 7=(.int .i64 Z.2)∧lm 193 kO 11 a Z.1 G) (λZ g2=>?_) ?_))))))))
     ·refine me (nn (λm E W=>∃Y H I B a3 e1,lz D a3∧ST false (keys (u++[])) w W a3 (H++e1)∧E 0=a∧E 1=(.int .i64 M)∧E 2=t∧E 6=(.int .i64 j)∧E 7=(.int .i64 I)∧E 8=(.int .i64 B)∧lm 193 kO 11 a Y H∧oq M j f2 m Y I B=some Z) li ⟨c7,a4,0,(wi0 .i64 (2*j)),D,_,(lz.refl _),(d.kB St),h5,e2,h6,b0,rfl,rfl,e4,g2⟩ ?_)
      rintro m E W ⟨Y,H,I,B,a3,e1,K,d,b9,c0,c1,T,c2,U,d1,c⟩
      cases m with
      | zero=>rw [oq] at c; cases c
      | succ j6=>
       refine kQ (sg (Wh U (Wh c0 (Wi rfl (ln (CI c rfl (λf8 c=>?_) (λf8 c=>?_)))))))
       ·refine kn (bg (Wh b9 (Wh c2 (Wh c2 (Wh T (Wi rfl (Wh U (Wh c1 (bS c λj7 g4 c=>?_)))))))))
        refine VE (eM d (Cr Qz Cn) call270 (λq p=>((sG li) a Y H I (wi0 .i64 (I+j)) B t f2 _ _ q d1 (c4.mono ((((y.trans c9).trans z).trans K).trans p)) g4)) ?_)
        rintro _ l7 k0 l2 d e9 aa n ⟨h4,a6,rfl,h1⟩
        obtain rfl:=a6.symm
        replace d:=d.perm (Tr Tn)
        refine lr (Wh U (Wa (ln (kR (Wh U (Wh T (Wi rfl (Wi rfl (Wa (lu ?_))))))))))
        exact lI (kP ⟨j6,aT _,j7,h4,B,(wi0 .i64 (B+(wi0 .i64 (2*j)))),k0,_,(K.trans e9),(d.kB St),b9,c0,c1,T,rfl,rfl,h1,c⟩)
       refine nu (ng (ng (pM (kP ?_))))
       obtain rfl:=sj c
       exact ⟨H,a3,_,K,(d.kB St),b9,c0,c1,T,c2,d1⟩
     rintro ⟨j3,e6⟩ E W ⟨G,J,d9,a7,d,b5,Q,b6,b7,e3,d0⟩ g0
     refine kQ (CJ g0 (λe5 E W=>∃N a2 e0,lz J a2∧ST false (keys (u++[])) w W a2 (N++e0)∧E 0=a∧E 1=(.int .i64 M)∧E 2=t∧E 6=(.int .i64 j)∧lm 193 kO 11 a e5 N) (λe5 k=>?_) ?_)
     ·refine sg (Wh e3 (Wh b7 (Wi rfl (Wa (lr (Wm (Wh Q (Wi rfl (ln ?_)))))))))
      refine CI k rfl (λf7 k=>?_) (λf7 k=>?_)
      ·refine kR (Wh b5 (Wh e3 (Wm (Wh Q (Wh b6 (bS k λl5 g3 k=>?_))))))
       refine VE (eM d (Cr Qz Cn) call270 (λq p=>((sG li) a j3 G e6 (wi0 .i64 (e6+j)) M t f2 _ _ q d0 (c4.mono ((((y.trans c9).trans z).trans a7).trans p)) g3)) ?_)
       rintro _ l6 j9 l1 d e8 a1 n ⟨h3,a5,rfl,g9⟩
       obtain rfl:=a5.symm
       replace d:=d.perm (Tr Tn)
       refine ln ?_
       obtain rfl:=sj k
       exact ⟨h3,j9,_,e8,(d.kB St),b5,Q,b6,b7,g9⟩
      refine kn ?_
      obtain rfl:=sj k
      exact ⟨G,J,_,(lz.refl _),(d.kB St),b5,Q,b6,b7,d0⟩
     rintro j4 E W ⟨N,a2,e0,e7,d,h7,h8,h9,i0,g7⟩ g1
     exact kR (Wh i0 (Wi rfl (Wa (lu (lI (kP ⟨j5,aT _,j4,N,(wi0 .i64 (j*2)),a2,_,((z.trans a7).trans e7),(d.kB St),h7,h8,h9,rfl,g7,g1⟩))))))
    refine nu (ng (ng (pM (kP ?_))))
    obtain rfl:=sj i
    exact ⟨a4,D,_,z,(d.kB St),e4⟩
  rintro m4 E W ⟨a9,d7,f1,l0,d,i8⟩ i4
  refine qK ?_
  obtain rfl:=sj i4
  exact px rfl ⟨_,_,rfl,(d.od (Kr Sn)),a9,rfl,rfl,i8⟩
theorem vn (c:Value) (k:List ky) (a:LO) (i:Value) (t:(ky×ky)→Option Int) (r:List ky) (w:World) {H:lF} (J:pe H (a++[]) w) (j:lm 193 kO 11 c k a) (u:sQ pg0 i H (λ(x:(ky×ky))=>[(.agg (kO x.1).toArray),(.agg (kO x.2).toArray)]) (λ(r:Int)=>(.int .i64 r)) t) (hm:ox k t=some r) :
  mz false pg0 149 [c,i] w (a++[]) (λv I W'=>∃z,v=(.tuple #[])∧I=(z++[])∧lm 193 kO 11 c r z):=by
 refine wM J 9 func149 rfl (λd=>kR (Wm (Wm (V (qm bZ rfl j) (Wm (bS hm λQ G hm=>?_))))))
 refine VE (eM d (Cr Qz Cn) call210 (λq p=>(AE c k a (k.length:Int) i t _ _ q j (u.mono p) G)) ?_)
 rintro _ T U M d K s n ⟨B,g,rfl,y⟩
 obtain rfl:=g.symm
 replace d:=d.perm (Tr Tn)
 refine lu (qK ?_)
 obtain rfl:=sj hm
 exact px rfl ⟨_,_,rfl,(d.od (Kr Sn)),B,rfl,rfl,y⟩
theorem DL (c g:ky) (i:Nat) (a:Value) (j:(kC×kC)→Option Int) (r:Int) (w:World) (t:sQ pg0 a (hp w) (λ(x:(kC×kC))=>[(.agg (kI x.1).toArray),(.agg (kI x.2).toArray)]) (λ(r:Int)=>(.int .i64 r)) j) (k:At (hp w) (.pointer (some ⟨i,0,none⟩)) [a]) (hm:tO c g j=some r) :
  la false pg0 150 [(.agg (kO c).toArray),(.agg (kO g).toArray),(.pointer (some ⟨i,0,none⟩))] w (.int .i64 r):=by
 refine cG 12 func150 rfl (λd=>sg (VE (ly d rfl (λz G d=>VE (ly d rfl (λB H d=>Wa (lr (V (kF rfl (pO d.has (y:=a) k isAgg138)) (Wf M4 (VA d (Mt Mh) (kI c.key) cA aR (Wf M4 (VA d Mh (kI g.key) cA aR ?_))))))))))))
 refine bS hm λI u hm=>VE (DR (c.key,g.key) d t (lz.refl _) rfl (qJ rfl rfl) u (λD d=>Wa (ln ?_)))
 exact lB (rQ hm d)
theorem QE:mF pg0 93 0 0:=lW underlying93 rfl sizeOf91 (by decide) rfl
theorem N1:mF pg0 93 1 1:=lW underlying93 rfl js (by decide) rfl
theorem NG:Tryz.prog.info? 5=some Tryz.t5∧Tryz.t5.zero=some (.int .u8 0)∧Tryz.t5.size=1∧Tryz.t5.bytes=1:=⟨by kernel_rfl,rfl,rfl,rfl⟩
theorem Le:Tryz.prog.info? 93=some Tryz.t93∧Tryz.t93.size≠0:=⟨by kernel_rfl,by decide⟩
theorem TB:liesAt pg0 Tryz.prog.depth 93 (2 / Tryz.prog.cellsOf 93) 0 93 1=true:=by kernel_rfl
theorem SJ (x:Value) (w:World):(callFunc 189 [x].toArray).run pg0 w= .ok (.value x) w:=by
 rw [iC (e:=Extern.AbiNoEscape.same) func189 (by kernel_rfl) (by kernel_rfl) (by kernel_rfl) (by kernel_rfl)]
 rfl
theorem N5 (b:Nat) (a u:Value) (w:World) {i:lF} (g:pe i ((b,Ob #[a,u] 93)::[]) w) (ha:a= .pointer none∨a= .pointer (some ⟨b,0,none⟩)) :
  mz true pg0 121 [(.pointer (some ⟨b,0,none⟩))] w ((b,Ob #[a,u] 93)::[]) (λv c W'=>v=(.tuple #[])∧c=((b,Ob #[(.pointer (some ⟨b,0,none⟩)),u] 93)::[])):=by
 let k:Value:=(.pointer (some ⟨b,0,none⟩))
 refine wM g 20 func121 rfl (λd=>sg (Wm (Wn (Wf QE (VB d Mh rfl rfl isAgg91 ?_)))))
 rcases ha with rfl | rfl
 ·refine V (wI jj rfl rfl) (ln (xX rfl (kR (Wm (Wm ?_)))))
  have hb:=(d.box b _ (.head _)).1
  exact V (Pk rfl (Go.Lib.run_to_unsafe (P:=pg0) _ ⟨b,0,none⟩ jj underlying233 Le.1 Le.2 (Hy hb) nb)) (VE (J6 (args:=[k]) rfl (by exact pk rfl) (SJ _ _) (V (Pk rfl (Go.Lib.run_from_unsafe (P:=pg0) _ ⟨b,0,none⟩ underlying233 jj Le.1 (Hy hb) TB)) (Wn (Wf QE (VO (lp k (#[k,u]) d rfl rfl sizeOf91 oc nb rfl (λj d=>lu (qK (px rfl ⟨_,_,rfl,(d.od (Kb Sn)),rfl,rfl⟩))))))))))
 ·refine V (wI jj rfl rfl) (ln (tJ rfl (sg (Wm (Wn (Wf QE (VB d Mh rfl rfl isAgg91 (Wm (V (LY jj sizeOf93 rfl rfl) (ln (tJ rfl ?_)))))))))))
  exact mM (qK (px rfl ⟨_,_,rfl,(d.od (Kb Sn)),rfl,rfl⟩))
theorem Ir (k:Value) (D:ByteArray) (i:LO) (z r:ByteArray) (w:World) {K:lF} (I:pe K (i++[]) w) (B:IS 93 5 k D i) (hm:CO D z=some r) :
  mz true pg0 49 [k,(.string z)] w (i++[]) (λv H W'=>∃y S,v=y∧H=S++[]∧IS 93 5 k r S):=by
 obtain ⟨b,a,u,S,rfl,ha,rfl,A,P⟩:=B
 have d:=ST.IG (dd:=true) I
 have s:=λh=>Qc (r:=r) hm h
 have hm:=PC hm
 refine cF 19 func49 rfl (sg (Wa (Wa (lr (Wm ?_)))))
 refine VE (eM d (Cb Pz Cn) call121 (λL _=>(N5 b a u _ L ha)) ?_)
 rintro _ Y Z M d J O q ⟨j,rfl⟩
 obtain rfl:=j.symm
 replace d:=d.perm (Tb Tn)
 refine lr (Wm (Wm (Wn (Wf N1 (VB d Mh rfl rfl gI (Wm (VE (L8 (v:=u) (str:=z) [(b,Ob #[(.pointer (some ⟨b,0,none⟩)),u] 93)] d cC bN NG.1 NG.2.1 NG.2.2.1 NG.2.2.2 rfl rfl A hm (λN T t d x n=>Wn (Wf N1 ?_))))))))))
 have p:=λh:r.size=0=>n (P (s h).1) (s h).2
 obtain ⟨c,g,rfl⟩:=x.form
 let U:Value:=(.slice c (nQ r).length g)
 let G:=(#[(.pointer (some ⟨b,0,none⟩)),U]:Array Value)
 let a0:=((b,Obj.cells G 93 (0,0))::(t++[]))
 refine VO (lp U (#[(.pointer (some ⟨b,0,none⟩)),U]) d rfl rfl js oc nb rfl (λQ d=>lr (Wm (V (pL bN rfl) (Wa (Wa (lt (FI (v:=.int .i64 (z.size:Int)) (u:=.nilIface) rfl rfl rfl ?_))))))))
 have E:oZ a0 a0:=Kb (Kr Sn)
 exact ⟨_,_,rfl,d.od E,_,((b,Obj.cells G 93 (0,0))::t),rfl,rfl,⟨b,_,_,_,rfl,.inr rfl,rfl,x,p⟩⟩
theorem Hi (k:Value) (i:ByteArray) (g:LO) (r:ByteArray) (w:World) {D:lF} (t:pe D (g++[]) w) (x:IS 93 5 k i g) (hm:PM i=some r) :
  mz true pg0 51 [k] w (g++[]) (λv z W'=>v=(.string r)∧z=[]):=by
 obtain ⟨b,a,u,S,rfl,ha,rfl,q,E⟩:=x
 obtain rfl:=gZ hm
 have n:=ST.IG (dd:=true) t
 obtain ⟨A,c,rfl⟩:=q.form
 refine cF 14 func51 rfl (sg (Wa (ln (kQ ?_))))
 replace n:=n.drew
 have d:=n.has.kB (A:=[(b,Ob #[a,.slice A (nQ i).length c] 93)]) (Kb Sn)
 have p:A=none∨c≠0:=by
  by_cases t:i.size=0
  ·have E:=E t
   injection E with j
   exact .inl j
  ·rcases q with ⟨j,_,_⟩ | ⟨J,cap,I,j,_,B,_,_,_⟩
   ·injection j with y; exact .inl y
   ·injection j with _ _ y
    rw [oK] at B
    exact .inr (by omega)
 refine lC d lj (X 0 rfl d (kH rfl) (X 1 rfl d (ql rfl) (X 2 rfl d (kJ N1 rfl) (XH 3 rfl d (λ_ s=>kF rfl (kV s Mh rfl gI)) (X 4 rfl d (Qo rfl ⟨A,_,c,rfl,p,rfl⟩) (X 5 rfl d (kH rfl) (X 6 rfl d (ql rfl) (X 7 rfl d (kJ N1 rfl) (XH 8 rfl d (λ_ s=>kF rfl (kV s Mh rfl gI)) (X 9 rfl d (qm cC rfl q) ?_))))))))))
 replace n:=n.perm (L':=S++[(b,Ob #[a,.slice A (nQ i).length c] 93)]) (by rw [bB]; exact List.perm_append_comm (l₁:=[_]) (l₂:=S))
 refine XE 10 rfl (LX (l:=i) n underlying179 kr rfl rfl q (λG n=>?_))
 have d:=n.has
 exact ⟨d,X 11 rfl d (mU rfl) (lH kr (kP (lB (nq (v:=.string i) rfl rfl ⟨_,_,rfl,(n.od Sn),rfl,rfl⟩))))⟩
theorem Fw (t:Value) (a0:List ky) (j:LO) (U:Value) (Y:(kC×kC)→Option Int) (r:(ByteArray×(List ky))) (w:World) {μ0:lF} (h0:pe μ0 (j++[]) w) (c1:lm 193 kO 11 t a0 j) (Q:sQ pg0 U μ0 (λ(x:(kC×kC))=>[(.agg (kI x.1).toArray),(.agg (kI x.2).toArray)]) (λ(r:Int)=>(.int .i64 r)) Y) (hm:vh a0 Y=some r) :
  mz false pg0 80 [t,U] w (j++[]) (λv L1 W'=>∃S1,v=(.string (r.1))∧L1=(S1++[])∧lm 193 kO 11 t r.2 S1):=by
 refine wM h0 27 func80 rfl (λd=>sg ?_)
 obtain ⟨ab,ad,ae,rfl⟩:=Q.form
 refine VE (ly d rfl (λW5 P d=>Wa (lr (Wm (V (qz (by exact pk rfl) rfl) (bS hm λO d0 hm=>?_))))))
 refine VE (Bn d (Cr (Qb Qz) Cn) call149 (λhH A s q=>(vn t a0 j (.func (.func 150) #[] #[(.pointer (some ⟨P,0,none⟩))]) (λ(x:(ky×ky))=>tO x.1 x.2 Y) _ _ ⟨hH,A,lz.refl _⟩ c1 ⟨150,#[],#[(.pointer (some ⟨P,0,none⟩))],rfl,call150,λW x r hs hm=>DL x.1 x.2 P (.func ab ad ae) Y r W (Q.mono (s.trans hs)) (At.of (hs _ _ (q _ _ Mh)) _ rfl) hm⟩ d0)) (λW8 f4 L f2 d d3 ah n b9=>?_))
 obtain ⟨b3,K,rfl,k⟩:=b9
 replace K:=K.symm; subst K
 replace d:=d.perm (Tr Tn)
 refine ln ?_
 replace d:=d.kB (Kr (Db St))
 refine sg (VE (HV (e:=5) d zeroValue93 (λf3 N c7 d c0=>lS (Wm (V (qm bZ rfl k) (Wm (ln (mj (λi E W=>∃g c G I,(E 13= .int .i64 (i:Nat)∧E 12= .int .i64 (O.length:Nat))∧lz L G∧ST false (keys (j++[])) w W G (c++(b3++I))∧E 5=N∧E 11=t∧IS 93 5 N g c∧qy O (O.drop i) g=some r) O.length k.len ⟨zS,c7,L,_,⟨rfl,rfl⟩,(lz.refl _),(d.kB St),rfl,rfl,c0,hm⟩ dc dc dc (λ_ _ _ h=>by obtain ⟨_,_,_,_,aa,_⟩:=h; exact aa) ?_ ?_))))))))
 ·rintro c2 E W a2 ⟨g,c,G,I,⟨R,eN⟩,H,d,u,J,y,a⟩
  obtain ⟨D,d4,a9,M,b0⟩:=lX a2
  rw [a9] at a
  refine bg (VQ (mh (i:=(c2:Int)) (x0:=D) bZ bV J R k (aM _) M) (λe4 a3=>V (kF rfl (nC d.has (λp hq=>(Ma (Ml hq))) k lK a3 M fW bV)) (VE (lT d iy (λd8 e2 d=>VO (lp (.agg (kO D).toArray) ((kO D).toArray) d rfl rfl bV (oz D) nb rfl (λd9 d=>ln (kR (Wf RI (VB d Mh rfl rfl bT (bS a λe5 a6 a=>V (lU rfl rfl a6) (Wf Rw ?_))))))))))))
  refine VB d Mh rfl rfl bT (bS a λe6 a7 a=>V (lU rfl rfl a7) (bS a λc5 a8 a=>V (lU rfl rfl a8) (bS a λc3 a4 a=>?_)))
  refine VE (Bn d (Cr (Qb Qz) Cn) call49 (λhH A s q=>mz.mK (Ir N g c c5 _ _ ⟨hH,A,lz.refl _⟩ y a4)) (λe0 e7 c6 d6 d T af n Z=>?_) (ha:=Su u rfl))
  obtain ⟨e9,b5,z,rfl,b1⟩:=Z
  replace z:=z.symm; subst z
  replace d:=d.perm (Tr Tn)
  refine lu (lI (kP ?_))
  replace d:=d.kB (Kr (Db St))
  exact ⟨R,c3,b5,c6,_,⟨rfl,eN⟩,(H.trans T),(d.kB St),u,J,b1,(by rw [b0]; exact a)⟩
 rintro E W ⟨g,c,G,I,⟨R,eN⟩,H,d,u,J,y,a⟩
 rw [aO] at a
 refine kP (sg (bS a λc4 a5 a=>?_))
 refine VE (Bn d (Cr Qz Cn) call51 (λhH A s q=>mz.mK (Hi N g c _ _ ⟨hH,A,lz.refl _⟩ y a5)) (λe1 e8 f0 d7 d c9 ag n a1=>?_) (ha:=Nk u))
 obtain ⟨B,rfl⟩:=a1
 replace B:=B.symm; subst B
 replace d:=d.perm Tn
 refine Wa (lt ?_)
 obtain rfl:=sj a
 exact nq (v:=(.string c4)) rfl rfl ⟨_,_,rfl,(d.od (Kr Sn)),b3,rfl,rfl,k⟩
theorem sX (t:Nat) (j:Value) (G:List Int) (i:LO) (n:Int) (r:(Bool×(List Int))) (w:World) {μ0:lF} (L:pe μ0 ((t,Ob #[j] 215)::(i++[])) w) (y:lm 5 (lP .u8) 1 j G i) (hm:pC G n=some r) :
  mz true pg0 170 [(.pointer (some ⟨t,0,none⟩)),(.int .i64 n)] w ((t,Ob #[j] 215)::(i++[])) (λv L1 W'=>∃p S2,v=(.bool (r.1))∧L1=((t,Ob #[p] 215)::(S2++[]))∧lm 5 (lP .u8) 1 p r.2 S2):=by
 refine wM L 38 func170 rfl (λd=>sg (Wa (lS (Wm (V (wI iG rfl rfl) (Wm (Vg rfl rfl (kH rfl) (Vg rfl rfl (lE rfl rfl rfl) (V (lf rfl rfl) ?_)))))))))
 refine ln (CI hm rfl (λa9 hm=>?_) (λa9 hm=>?_))
 ·refine sg (Wa (lt (lV ?_)))
  obtain rfl:=sj hm
  exact nq (v:=(.bool false)) rfl rfl ⟨_,_,rfl,(d.od (Kb (Kr Sn))),j,i,rfl,rfl,y⟩
 refine kn (kQ (me (nn (λm E W=>∃c z U u a0,ST true (keys ((t,Ob #[j] 215)::(i++[]))) w W μ0 ((t,Ob #[z] 215)::(u++a0))∧E 0=(.pointer (some ⟨t,0,none⟩))∧E 1=(.int .i64 c)∧lm 5 (lP .u8) 1 z U u∧ru m c U=some r) li ⟨n,j,G,i,_,(d.kB St),rfl,rfl,y,hm⟩ ?_)))
 rintro m E W ⟨c,z,U,u,a0,d,x,K,T,g⟩
 cases m with
 | zero=>rw [ru] at g; cases g
 | succ A=>
  refine kQ (sg (Wh K (Wi rfl (ln (CI g rfl (λq g=>?_) (λq g=>?_))))))
  ·refine kn (kQ (me (kR (Wh x (Wh x (Wn (Wf AL (VB d Mh rfl rfl gI (Wh K (V (pc (k':=.i64) (a:=c) dH dU rfl) (V (J5 (k:=.u8) (a:=(IntKind.u8.wrap c)) (b:=128) (v:=(.int .u8 (IntKind.u8.wrap (BitVec.ofInt (IntKind.bits .u8) (IntKind.u8.wrap c) ||| BitVec.ofInt (IntKind.bits .u8) 128).toNat))) rfl rfl dc rfl) (VE (lJ (cs:=[(.int .u8 (IntKind.u8.wrap (BitVec.ofInt (IntKind.bits .u8) (IntKind.u8.wrap c) ||| BitVec.ofInt (IntKind.bits .u8) 128).toNat))].toArray) d (nL rfl) (oa cC kv jt) (λc3 s d=>?_))))))))))))))
   replace d:=d.perm (Nr (Qb (Qb Qz)) Nz)
   refine bS g λQ Y g=>VE (pK (enc:=(lP .u8)) (v:=z) (vs:=(.slice (some ⟨s,0,none⟩) 1 1)) (R:=u) d (λ_=>rfl) dc (HS _) cC ue.1 ue.2.1 rfl ue.2.2.1 ue.2.2.2 rfl rfl T (Sl.lit (enc:=(lP .u8)) (l:=[(IntKind.u8.wrap (BitVec.ofInt (IntKind.bits .u8) (IntKind.u8.wrap c) ||| BitVec.ofInt (IntKind.bits .u8) 128).toNat)]) (λ_=>rfl) rfl nb rfl (d.at_ (Ma Mh))) Y (λO c1 a2 d M=>Wn (Wf AL ?_)))
   obtain ⟨B,H,rfl⟩:=M.form
   replace d:=d.perm (Nb (Pr (Pb Pz)) Nz)
   refine VO (lp (.slice B Q.length H) (#[(.slice B Q.length H)]) d rfl rfl js oc nb rfl (λP d=>lu (lI (kP ?_))))
   replace d:=d.kB (Kb (Kr (Db St)))
   exact kR (Wh K (V (BO (a:=c) (b:=7) rfl rfl dc) (Wa (ln ⟨A,aT _,(Int.fdiv c (2 ^ min (Int.toNat 7) (IntKind.bits .i64))),(.slice B Q.length H),Q,a2,_,(d.kB St),x,rfl,M,g⟩))))
  refine nu (ng (ng (pM (kP (sg (Wh x (Wh x (Wn (Wf AL (VB d Mh rfl rfl gI (Wh K (V (pc (k':=.i64) (a:=c) dH dU rfl) (VE (lJ (cs:=[(.int .u8 (IntKind.u8.wrap c))].toArray) d (nL rfl) (oa cC kv jt) (λb6 a5 d=>?_)))))))))))))))
  replace d:=d.perm (Nr (Qb (Qb Qz)) Nz)
  refine bS g λJ Z g=>VE (pK (enc:=(lP .u8)) (v:=z) (vs:=(.slice (some ⟨a5,0,none⟩) 1 1)) (R:=u) d (λ_=>rfl) dc (HS _) cC ue.1 ue.2.1 rfl ue.2.2.1 ue.2.2.2 rfl rfl T (Sl.lit (enc:=(lP .u8)) (l:=[(IntKind.u8.wrap c)]) (λ_=>rfl) rfl nb rfl (d.at_ (Ma Mh))) Z (λb7 c2 a3 d N=>Wn (Wf AL ?_)))
  obtain ⟨D,I,rfl⟩:=N.form
  replace d:=d.perm (Nb (Pr (Pb Pz)) Nz)
  refine VO (lp (.slice D J.length I) (#[(.slice D J.length I)]) d rfl rfl js oc nb rfl (λb9 d=>ln ?_))
  replace d:=d.kB (Kb (Kr (Db St)))
  refine sg (Wa (lt ?_))
  obtain rfl:=sj g
  exact nq (v:=(.bool true)) rfl rfl ⟨_,_,rfl,(d.od (Kb (Kr Sn))),(.slice D J.length I),a3,rfl,rfl,N⟩
theorem G4 (g:Nat) (c:Value) (j:List Int) (a:LO) (u:Value) (D:List Int) (r:(Bool×(List Int))) (w:World) {Z:lF} (p:pe Z ((g,Ob #[c] 215)::(a++[])) w) (i:lm 5 (lP .u8) 1 c j a) (k:Sl (Pl (lP .u8)) 1 Z u D) (hm:yB j D=some r) :
  mz true pg0 171 [(.pointer (some ⟨g,0,none⟩)),u] w ((g,Ob #[c] 215)::(a++[])) (λv L1 W'=>∃U M,v=(.bool (r.1))∧L1=((g,Ob #[U] 215)::(M++[]))∧lm 5 (lP .u8) 1 U r.2 M):=by
 refine wM p 25 func171 rfl (λd=>sg (Wa (lS (Wm (V (wI iG rfl rfl) (Wm (Vg rfl rfl (kH rfl) (Vg rfl rfl (mx cC rfl k) (Vg rfl rfl (lE rfl rfl rfl) ?_)))))))))
 refine V (lf rfl rfl) (ln (CI hm rfl (λQ hm=>?_) (λQ hm=>?_)))
 ·refine sg (Wa (lt (lV ?_)))
  obtain rfl:=sj hm
  exact nq (v:=(.bool false)) rfl rfl ⟨_,_,rfl,(d.od (Kb (Kr Sn))),c,a,rfl,rfl,i⟩
 refine kg (Wm (Wm (V (mx cC rfl k) (bS hm λL T hm=>?_))))
 refine VE (eM d (Cb Pz (Cr Qz Cn)) call170 (λq _=>(sX g c j a (D.length:Int) _ _ q i T)) ?_)
 rintro _ v8 A a3 d H s n ⟨Y,K,t,rfl,I⟩
 obtain rfl:=t.symm
 replace d:=d.perm (Tb (Tr Tn))
 refine lr (Wm (Wm (Wn (Wf AL (VB d Mh rfl rfl gI (Wm ?_))))))
 replace d:=d.perm (Nr (Qb Qz) Nz)
 refine bS hm λB G hm=>VE (pK (enc:=(lP .u8)) (v:=Y) (vs:=u) (R:=K) d (λ_=>rfl) dc (HS _) cC ue.1 ue.2.1 rfl ue.2.2.1 ue.2.2.2 rfl rfl I (k.mono (Pl.mono _) (H.trans d.kG)) G (λa4 E J d z=>Wn (Wf AL ?_)))
 obtain ⟨x,y,rfl⟩:=z.form
 replace d:=d.perm (Nb (Pr Pz) Nz)
 refine VO (lp (.slice x B.length y) (#[(.slice x B.length y)]) d rfl rfl js oc nb rfl (λa5 d=>lr (Wa (lt ?_))))
 obtain rfl:=sj hm
 exact nq (v:=(.bool true)) rfl rfl ⟨_,_,rfl,(d.od (Kb (Kr Sn))),(.slice x B.length y),J,rfl,rfl,z⟩
theorem zO (j:Nat) (c:Value) (t:List Int) (a:LO) (J:ByteArray) (r:(Bool×(List Int))) (w:World) {Z:lF} (R:pe Z ((j,Ob #[c] 215)::(a++[])) w) (k:lm 5 (lP .u8) 1 c t a) (hm:vc t J=some r) :
  mz true pg0 213 [(.pointer (some ⟨j,0,none⟩)),(.string J)] w ((j,Ob #[c] 215)::(a++[])) (λv L1 W'=>∃A S2,v=(.bool (r.1))∧L1=((j,Ob #[A] 215)::(S2++[]))∧lm 5 (lP .u8) 1 A r.2 S2):=by
 refine wM R 17 func213 rfl (λd=>sg (Wa (lr (Wm (V (EZ iG rfl rfl) (Wm (Vg rfl rfl (kH rfl) (bS hm λr1 a4 hm=>Pa rfl rfl (Eg d call93 (vT J _ _  a4) (λW3 d=>V (lb rfl rfl) ?_))))))))))
 refine Wm (LJ hm (λB E W=>∃z x D I,lz Z D∧ST true (keys ((j,Ob #[c] 215)::(a++[]))) w W D ((j,Ob #[z] 215)::(x++I))∧E 4=(.bool false)∧E 16=(.bool B.1)∧lm 5 (lP .u8) 1 z B.2 x) 5 ?_ (λB g y=>?_))
 ·rintro ⟨O,c0⟩ E W ⟨z,x,D,I,b1,d,b9,a3,T⟩ M
  refine Wg a3 (lt ?_)
  obtain rfl:=sj M
  exact nq (v:=(.bool O)) rfl rfl ⟨_,_,rfl,(d.od (Kb (Kr Sn))),z,x,rfl,rfl,T⟩
 refine bC g (λi g=>?_) (λi g=>?_)
 ·refine ug i (kH rfl) (ug i (kH rfl) (bS g λa5 N g=>rU i (JF d bN cC dU rfl N (λb6 L c3 d G q U b4=>bS g λc1 Q g=>?_))))
  refine rU i (eM d (Cb Pz (Cr Qz Cn)) call171 (λhh p=>(G4 j c t a L a5 _ _ hh k (U.mono (Pl.mono _) p) Q)) ?_)
  rintro _ c2 P b5 d H s n ⟨a9,a2,u,rfl,Y⟩
  obtain rfl:=u.symm
  replace d:=d.perm (Tb (Tr Tn))
  refine V (lb (cB i) rfl) ?_
  obtain rfl:=sj g
  exact y _ _ ⟨a9,a2,P,_,(G.trans H),(d.kB St),rfl,rfl,Y⟩
 refine un i (un i (un i (un i (V (lf (cB i) rfl) ?_))))
 obtain rfl:=sj g
 exact y _ _ ⟨c,a,Z,_,(lz.refl _),(d.kB St),rfl,rfl,k⟩
theorem wq (c:Nat) (i:Value) (D:List Int) (a:LO) (x:kz) (r:(Bool×(List Int))) (w:World) {μ0:lF} (h0:pe μ0 ((c,Ob #[i] 215)::(a++[])) w) (y:lm 5 (lP .u8) 1 i D a) (hm:ry D x=some r) :
  mz true pg0 212 [(.pointer (some ⟨c,0,none⟩)),(.agg (kN x).toArray)] w ((c,Ob #[i] 215)::(a++[])) (λv L1 W'=>∃O S2,v=(.bool (r.1))∧L1=((c,Ob #[O] 215)::(S2++[]))∧lm 5 (lP .u8) 1 O r.2 S2):=by
 let q:=((c,Ob #[i] 215)::(a++[]))
 refine wM h0 23 func212 rfl (λd=>sg (VE (ly d rfl (λW2 s d=>Wa (lr (Wm (V (EZ iG rfl rfl) (Wm (Vg rfl rfl (kF rfl (kL d.has Mh (kN x) rfl bI aP)) (bS hm λr3 c4 hm=>Pa rfl rfl (Eg d jU (tY x _ _  c4) (λW5 d=>?_))))))))))))
 refine V (lb rfl rfl) (Wm (LJ hm (λT E W=>∃z u B a0,lz μ0 B∧ST true (keys q) w W B ((s,Ol (kN x) 27)::((c,Ob #[z] 215)::(u++a0)))∧E 0=(.pointer (some ⟨c,0,none⟩))∧E 3=(.pointer (some ⟨s,0,none⟩))∧E 4=(.bool false)∧E 16=(.bool T.1)∧lm 5 (lP .u8) 1 z T.2 u) 5 ?_ (λT t K=>?_)))
 ·rintro ⟨e6,c5⟩ E W ⟨z,u,B,a0,d2,d,c0,c1,a3,c2,N⟩ P
  refine Wh c2 (LJ P (λQ E W=>∃M I U a2,lz B U∧ST true (keys q) w W U ((c,Ob #[M] 215)::(I++a2))∧E 4=(.bool false)∧E 22=(.bool Q.1)∧lm 5 (lP .u8) 1 M Q.2 I) 5 ?_ (λQ k J=>?_))
  ·rintro ⟨c6,e1⟩ E W ⟨M,I,U,a2,d3,d,e0,c3,b0⟩ R
   refine Wg c3 (lt ?_)
   obtain rfl:=sj R
   exact nq (v:=(.bool c6)) rfl rfl ⟨_,_,rfl,(d.od (Kb (Kr Sn))),M,I,rfl,rfl,b0⟩
  refine bC k (λg k=>?_) (λg k=>?_)
  ·refine ug g (kH c0) (ug g (kJ sU c1) (ug g (kF rfl (kV d.has Mh rfl bT)) (bS k λe2 a8 k=>?_)))
   refine rU g (eM d (Cb (Pb Pz) (Cr (Qb Qz) Cn)) call213 (λp _=>(zO c z c5 u x.Word _ _ p N a8)) ?_)
   rintro _ e4 d0 d6 d Y A n ⟨c8,b6,G,rfl,b2⟩
   obtain rfl:=G.symm
   replace d:=d.perm (Tb (Tr Tn))
   refine V (lb (cB g) rfl) ?_
   obtain rfl:=sj k
   exact J _ _ ⟨c8,b6,d0,_,Y,(d.kB (Kb (Kr (Db St)))),a3,rfl,b2⟩
  refine un g (un g (un g (un g (V (lf (cB g) rfl) ?_))))
  obtain rfl:=sj k
  exact J _ _ ⟨z,u,B,_,(lz.refl _),(d.kB (Db St)),a3,rfl,N⟩
 refine bC t (λj t=>?_) (λj t=>?_)
 ·refine ug j (kH rfl) (ug j (kJ qR rfl) (ug j (kF rfl (kV d.has Mh rfl bT)) (bS t λe3 a9 t=>?_)))
  refine rU j (eM d (Cb (Pb Pz) (Cr (Qb Qz) Cn)) call213 (λp _=>(zO c i D a x.kA _ _ p y a9)) ?_)
  rintro _ e5 d1 d7 d Z L n ⟨c9,b7,H,rfl,b3⟩
  obtain rfl:=H.symm
  replace d:=d.perm (Tb (Tr Tn))
  refine V (lb (cB j) rfl) ?_
  obtain rfl:=sj t
  exact K _ _ ⟨c9,b7,d1,_,Z,(d.kB (Sb (Pb (Pr Pz)) St)),rfl,rfl,rfl,rfl,b3⟩
 refine un j (un j (un j (un j (V (lf (cB j) rfl) ?_))))
 obtain rfl:=sj t
 exact K _ _ ⟨i,a,μ0,_,(lz.refl _),(d.kB St),rfl,rfl,rfl,rfl,y⟩
theorem JU (g:Value) (i r:List Int) (w:World) (a:Sl (Pl (lP .u8)) 1 (hp w) g i) (hm:vB i=some r) :
  oU true pg0 234 [g] w 5 (lP .u8) 1 r:=by
 unfold vB at hm
 refine Az 8 func234 rfl (λd=>sg (Wa (lS (Wm ?_))))
 obtain ⟨y,B,rfl⟩:=a.form
 refine V (CV cC rfl rfl) (ln ?_)
 rcases y with _ | z
 ·have u:=a.isNil
  replace hm:some []=some r:=by rw [u] at hm; simpa [oB,maxLen] using hm
  refine xX (rfl) (sg (Wa (lt (lV ?_))))
  obtain rfl:=sj hm
  exact nq (v:=(.slice none 0 0)) rfl rfl ⟨_,[],rfl,d.sI (λp n=>by cases n) (by simp),lm.nil _ _ _⟩
 ·refine tJ (rfl) (kg (VE (lJ (cs:=#[]) d uC (A0 [] cC kv jt dc rfl (by simp) rfl rfl) (λG k d=>Wm (bS hm λH t hm=>VE (pK (enc:=(lP .u8)) (v:=(.slice (some ⟨k,0,none⟩) 0 0)) (vs:=(.slice (some z) i.length B)) (R:=[(k,Ob #[] 5)]) d (λ_=>rfl) dc (HS _) cC ue.1 ue.2.1 rfl ue.2.2.1 ue.2.2.2 rfl rfl (lm.lit (l:=[]) (enc:=(lP .u8)) rfl dc rfl rfl) (a.mono (Pl.mono _) d.kG) t (λD x j d c=>Wa (lt ?_))))))))
  obtain rfl:=sj hm
  exact nq (v:=x) rfl rfl ⟨_,j,rfl,d.sI (λp n=>(Ml n)) c.nd,c⟩
theorem Ci (g:Nat) (a:Value) (c r:List Int) (w:World) (j:Sl (Pl (lP .u8)) 1 (hp w) a c) (k:At (hp w) (.pointer (some ⟨g,0,none⟩)) [a]) (hm:uZ c=some r) :
  oU true pg0 173 [(.pointer (some ⟨g,0,none⟩))] w 5 (lP .u8) 1 r:=by
 refine Az 10 func173 rfl (λd=>sg (Wa (lS (Wm (V (wI iG rfl rfl) (ln (tJ rfl (mM ?_))))))))
 refine kP (sg (Wm (Wn (VQ (pE [a] AL rfl k rfl) (λG u=>V (kF rfl (pO d.has (y:=a) u gI)) (bS hm λH x hm=>VE (As d call234 (JU a c _ _ (j.mono (Pl.mono _) d.kG) x) (λD z I t d B n i=>Wa (lt ?_)))))))))
 obtain rfl:=sj hm
 exact nq (v:=z) rfl rfl ⟨_,t,rfl,d.sI (λp q=>(Ml q)) i.nd,i⟩
theorem Gk (c:kC) (r:List Int) (w:World) (hm:xO c=some r) :
  oU true pg0 152 [(.agg (kI c).toArray)] w 5 (lP .u8) 1 r:=by
 refine Az 53 func152 rfl (λd=>sg (VE (ly d rfl (λW2 b1 d=>Wa (lS (VA d Mh (kI c) cA aR (bS hm λr3 g3 hm=>VE (Eg d call144 (xT c _ _  g3) (λW5 d=>V (nv rfl) (lu ?_))))))))))
 refine kP (CI hm rfl (λg0 hm=>?_) (λg0 hm=>?_))
 ·refine sg (Wa (ln ?_))
  replace d:=d.kB (Db St)
  refine lB (lV ?_)
  obtain rfl:=sj hm
  exact nq (v:=(.slice none 0 0)) rfl rfl ⟨_,[],rfl,d.sI (λp s=>by cases s) (by simp),lm.nil _ _ _⟩
 refine kg (V (nB (v:=(.agg #[(.slice none 0 0)])) uC (nk zeroValue215 iF (QV _ iF) kr)) (VE (ly d rfl (λW8 g d=>Wa (lr (Wm (Wf rY (VB d (Mt Mh) rfl rfl bX (bS hm λr9 e2 hm=>?_)))))))))
 refine VE (eM d (Cb Pz (C0 Cn)) call170 (λq _=>(sX g (.slice none 0 0) ([]) [] c.Kind _ _ q (lm.nil _ _ _) e2)) ?_)
 rintro _ k3 k5 j9 d g7 a8 n ⟨g4,f9,I,rfl,e4⟩
 obtain rfl:=I.symm
 replace d:=d.perm (Tb (Tr Tn))
 refine lr (Wm (Wf vF (VA d (Mt (Ma Mh)) (kN c.Head) bI aP (bS hm λN e3 hm=>?_))))
 refine VE (eM d (Cb Pz (Cr Qz Cn)) call212 (λq _=>(wq g g4 r9.2 f9 c.Head _ _ q e4 e3)) ?_)
 rintro _ k4 d1 k0 d g8 aa n ⟨G,D,J,rfl,i⟩
 obtain rfl:=J.symm
 replace d:=d.perm (Tb (Tr Tn))
 refine ln (kQ (CJ hm (λa3 E W=>∃B H K Q,lz d1 K∧ST true lD w W K ((g,Ob #[B] 215)::(H++Q))∧E 3=(.pointer (some ⟨g,0,none⟩))∧lm 5 (lP .u8) 1 B a3 H) (λa3 a=>?_) ?_))
 ·refine sg (Wf rY (VB d (Mt (Ma Mh)) rfl rfl bX (ln (bg (Wi rfl (Wa (ln (CI a rfl (λb0 a=>?_) (λb0 a=>?_)))))))))
  ·refine kR (Wm (Wf xL (VB d (Mt (Ma Mh)) rfl rfl bT (bS a λi3 b6 a=>?_))))
   refine VE (eM d (Cb Pz (Cr Qz Cn)) call213 (λq _=>(zO g G N.2 D c.mC _ _ q i b6)) ?_)
   rintro _ i8 f5 g9 d T L n ⟨e9,d3,k,rfl,c5⟩
   obtain rfl:=k.symm
   replace d:=d.perm (Tb (Tr Tn))
   refine lu (lI (kP ?_))
   obtain rfl:=sj a
   exact ⟨e9,d3,f5,_,T,(d.kB (Kb (Kr (Db St)))),rfl,c5⟩
  refine sg (Wi rfl (Wa (ln (CI a rfl (λb2 a=>?_) (λb2 a=>?_)))))
  ·refine kR (Wm (Wf qq (VA d (Mt (Ma Mh)) (kN c.B) bI aP (bS a λi4 b9 a=>?_))))
   refine VE (eM d (Cb Pz (Cr Qz Cn)) call212 (λq _=>(wq g G N.2 D c.B _ _ q i b9)) ?_)
   rintro _ i9 f6 h0 d U O n ⟨f0,d4,t,rfl,c6⟩
   obtain rfl:=t.symm
   replace d:=d.perm (Tb (Tr Tn))
   refine lu (lI (kP ?_))
   obtain rfl:=sj a
   exact ⟨f0,d4,f6,_,U,(d.kB (Kb (Kr (Db St)))),rfl,c6⟩
  refine sg (Wi rfl (Wa (ln (CI a rfl (λb3 a=>?_) (λb3 a=>?_)))))
  ·refine sg (Wm (Wf qq (VA d (Mt (Ma Mh)) (kN c.B) bI aP (bS a λe6 c0 a=>?_))))
   refine VE (eM d (Cb Pz (Cr Qz Cn)) call212 (λq _=>(wq g G N.2 D c.B _ _ q i c0)) ?_)
   rintro _ j0 j7 h1 d Y P n ⟨f1,d5,u,rfl,c7⟩
   obtain rfl:=u.symm
   replace d:=d.perm (Tb (Tr Tn))
   refine ln (kR (Wm (Wf wW (VB d (Mt (Ma Mh)) rfl rfl bT (bS a λi5 c1 a=>?_)))))
   refine VE (eM d (Cb Pz (Cr Qz Cn)) call213 (λq _=>(zO g f1 e6.2 d5 c.mA _ _ q c7 c1)) ?_)
   rintro _ j3 f7 h2 d Z R n ⟨f2,d6,x,rfl,c8⟩
   obtain rfl:=x.symm
   replace d:=d.perm (Tb (Tr Tn))
   refine lu (lI (kP ?_))
   obtain rfl:=sj a
   exact ⟨f2,d6,f7,_,(Y.trans Z),(d.kB (Kb (Kr (Db St)))),rfl,c8⟩
  refine sg (Wi rfl (Wa (ln (CI a rfl (λb4 a=>?_) (λb4 a=>?_)))))
  ·refine sg (Wm (Wf qq (VA d (Mt (Ma Mh)) (kN c.B) bI aP (bS a λe7 c2 a=>?_))))
   refine VE (eM d (Cb Pz (Cr Qz Cn)) call212 (λq _=>(wq g G N.2 D c.B _ _ q i c2)) ?_)
   rintro _ j4 j8 h3 d a1 a6 n ⟨f3,d7,y,rfl,c9⟩
   obtain rfl:=y.symm
   replace d:=d.perm (Tb (Tr Tn))
   refine ln (kR (Wm (Wf uR (VA d (Mt (Ma Mh)) (kN c.C) bI aP (bS a λi6 c3 a=>?_)))))
   refine VE (eM d (Cb Pz (Cr Qz Cn)) call212 (λq _=>(wq g f3 e7.2 d7 c.C _ _ q c9 c3)) ?_)
   rintro _ j5 f8 h4 d a2 a7 n ⟨f4,d8,z,rfl,d0⟩
   obtain rfl:=z.symm
   replace d:=d.perm (Tb (Tr Tn))
   refine lu (lI (kP ?_))
   obtain rfl:=sj a
   exact ⟨f4,d8,f8,_,(a1.trans a2),(d.kB (Kb (Kr (Db St)))),rfl,d0⟩
  refine mM (lI (kP ?_))
  obtain rfl:=sj a
  exact ⟨G,D,d1,_,(lz.refl _),(d.kB (Kb (Kr (Db St)))),rfl,i⟩
 rintro e5 E W ⟨B,H,K,Q,g1,d,d9,c4⟩ j
 refine sg (Wh d9 (bS j λi2 b5 j=>VE (As d call173 (Ci g B e5 _ _ (c4.sl (λ_=>rfl) (λb o s=>d.at_ (Mt (Ml s)))) (At.of (d.at_ Mh) _ rfl) b5) (λh5 e8 j6 d2 d g2 A M=>Wa (ln ?_)))))
 replace d:=d.kB (Kr (Db (Dr St)))
 refine lB ?_
 obtain rfl:=sj j
 exact nq (v:=e8) rfl rfl ⟨_,d2,rfl,d.sI (λp s=>(Ml s)) M.nd,M⟩
theorem SO (w:World) {d i:Value} {a b:List Int} (h1:Sl (Pl (lP .u8)) 1 (hp w) d a) (j:Sl (Pl (lP .u8)) 1 (hp w) i b):(callFunc 211 [d,i].toArray).run pg0 w= .ok (.value (.int .i64 (zq a b))) w:=Qn func211 (by kernel_rfl) (by kernel_rfl) (by kernel_rfl) (by kernel_rfl) h1 j
theorem CZ (a:Value) (g:List Int) (c:Value) (i:List Int) (r:Int) (w:World) (j:Sl (Pl (lP .u8)) 1 (hp w) a g) (k:Sl (Pl (lP .u8)) 1 (hp w) c i) (hm:xx g i=some r) :
  la true pg0 151 [a,c] w (.int .i64 r):=by
 exact cG 8 func151 rfl (λd=>sg (Wa (lr (Wm (Wm (VE (J6 (args:=[a,c]) (v:=.int .i64 (zq g i)) rfl (by exact qJ rfl rfl) (SO _ (j.mono (Pl.mono _) d.kG) (k.mono (Pl.mono _) d.kG)) (Wa (lt (rQ hm d))))))))))
theorem DY (g i:kC) (r:Int) (w:World) (hm:oS g i=some r) :
  la true pg0 81 [(.agg (kI g).toArray),(.agg (kI i).toArray)] w (.int .i64 r):=by
 refine cG 10 func81 rfl (λd=>sg (VE (ly d rfl (λT Y d=>VE (ly d rfl (λU Z d=>Wa (ln (kQ ?_))))))))
 replace d:=d.drew
 have n:=d.has.kB (Kb (Kb Sn))
 refine lC n lj (XH 0 rfl n (λ_ p=>kF rfl (kL p (Mt Mh) (kI g) rfl cA aR)) (XH 2 rfl n (λ_ p=>kF rfl (kL p Mh (kI i) rfl cA aR)) (bS hm λy t hm=>XE 1 rfl (As d call152 (Gk g _ _  t) (λI B N G d a s j=>?_)))))
 have n:=d.has.DM a (Dr (Kb (Kb Sn)))
 refine ⟨n,(bS hm λz u hm=>XE 3 rfl (As d call152 (Gk i _ _  u) (λJ D Q H d c v k=>?_)))⟩
 have n:=d.has.DM (a.trans c) (Dr (Dr (Kb (Kb Sn))))
 refine ⟨n,(bS hm λM x hm=>XE 4 rfl (Eg d call151 (CZ B y D z _ _ (j.sl (λ_=>rfl) (λb o q=>d.at_ (Ma (Ml q)))) (k.sl (λ_=>rfl) (λb o q=>d.at_ (Ml q))) x) (λK d=>?_)))⟩
 have n:=d.has.DM (a.trans c) (Dr (Dr (Kb (Kb Sn))))
 refine ⟨n,(X 5 rfl n (mU rfl) (lH kr (kP ?_)))⟩
 exact lB (rQ hm d)
theorem yj (z:Value) (a0:List kK) (B:LO) (s a2:Int) (M:Value) (f3:(kK×kK)→Option Int) (r:List kK) (w:World) {μ0:lF} (h0:pe μ0 (B++[]) w) (g8:lm 197 ll 4 z a0 B) (g9:sQ pg0 M μ0 (λ(x:(kK×kK))=>[(.agg (ll x.1).toArray),(.agg (ll x.2).toArray)]) (λ(r:Int)=>(.int .i64 r)) f3) (hm:pz a0 s a2 f3=some r) :
  mz false pg0 271 [z,(.int .i64 s),(.int .i64 a2),M] w (B++[]) (λv L1 W'=>∃S1,v=(.tuple #[])∧L1=(S1++[])∧lm 197 ll 4 z r S1):=by
 refine wM h0 53 func271 rfl (λn=>sg (Wm (Wi rfl (Wa (ln (rZ (me (nn (λm E W=>∃T G y b9,ST false (keys (B++[])) w W μ0 (G++b9)∧E 0=z∧E 1=(.int .i64 s)∧E 2=(.int .i64 a2)∧E 3=M∧E 8=(.int .i64 y)∧lm 197 ll 4 z T G∧mX a2 s f3 m T y=some r) li ⟨a0,B,(wi0 .i64 (s+1)),_,(n.kB St),rfl,rfl,rfl,rfl,rfl,g8,hm⟩ ?_))))))))
 rintro m E W ⟨T,G,y,b9,n,e9,f0,c3,f1,b1,b6,t⟩
 cases m with
 | zero=>rw [mX] at t; cases t
 | succ g1=>
  refine kQ (sg (Wh b1 (Wh c3 (Wi rfl (ln (CI t rfl (λd5 t=>?_) (λd5 t=>?_)))))))
  ·refine kn (kQ (bg (Wh b1 (Wa (ln (rZ (CJ t (λb4 E W=>∃N c0,ST false (keys (B++[])) w W μ0 (N++c0)∧E 0=z∧E 1=(.int .i64 s)∧E 2=(.int .i64 a2)∧E 3=M∧E 8=(.int .i64 y)∧lm 197 ll 4 z b4 N) (λb4 d8=>?_) ?_)))))))
   ·refine me (nn (λm E W=>∃U H k c1,ST false (keys (B++[])) w W μ0 (H++c1)∧E 0=z∧E 1=(.int .i64 s)∧E 2=(.int .i64 a2)∧E 3=M∧E 8=(.int .i64 y)∧E 9=(.int .i64 k)∧lm 197 ll 4 z U H∧nl s f3 m U k=some b4) li ⟨T,G,y,_,(n.kB St),e9,f0,c3,f1,b1,rfl,b6,d8⟩ ?_)
    rintro m E W ⟨U,H,k,c1,n,Q,b2,c4,b3,c5,I,j,K⟩
    cases m with
    | zero=>rw [nl] at K; cases K
    | succ g2=>
     refine kQ (kQ ?_)
     replace n:=n.drew
     have d:=n.has.kB (Kr Sn)
     refine lC d lj (X 0 rfl d (kH I) (X 1 rfl d (kH b2) (X 2 rfl d (lE rfl rfl rfl) (X 3 rfl d (kH rfl) (PJ K (λd0 E W=>∃c2,ST false (keys (B++[])) w W μ0 (H++c2)∧E 0=z∧E 1=(.int .i64 s)∧E 2=(.int .i64 a2)∧E 3=M∧E 8=(.int .i64 y)∧E 9=(.int .i64 k)∧E 34=(.bool d0)) (bm 17 131071) 0 ?_ (λd0 g a9=>?_))))))
     ·rintro i3 E W ⟨c2,n,D,c6,c7,c8,c9,J,f8⟩ c
      have d:=n.has.kB (Kr Sn)
      refine lH kr (kP (CI c f8 (λd6 c=>?_) (λd6 c=>?_)))
      ·refine kn (kQ (me ?_))
       replace n:=n.drew
       have d:=n.has.kB Sn
       have q:=n.has.kB (Kr Sn)
       refine sM 15 d q lj (lG 0 rfl kr (.inl rfl) rfl dc (λ_ _ h=>⟨h.1,lO br h.2⟩) ⟨d,λ_=>q⟩ (λ_ _ _ _=>kH D) (lG 1 rfl kr (.inl rfl) rfl dc (λ_ _ h=>⟨h.1,lO br h.2⟩) ⟨d,λ_=>q⟩ (λ_ _ _ _=>kH J) (lG 2 rfl kr (.inl rfl) rfl dc (λ_ _ h=>⟨h.1,lO br h.2⟩) ⟨d,λ_=>q⟩ (λ_ _ _ _=>kH D) (lG 3 rfl kr (.inl rfl) rfl dc (λ_ _ h=>⟨h.1,lO br h.2⟩) ⟨d,λ_=>q⟩ (λ_ _ _ _=>kH J) (lG 4 rfl kr (.inl rfl) rfl dc (λ_ _ h=>⟨h.1,lO br h.2⟩) ⟨d,λ_=>q⟩ (λ_ _ _ _=>lE rfl rfl rfl) (lG 5 rfl kr (.inl rfl) rfl dc (λ_ _ h=>⟨h.1,lO br h.2⟩) ⟨d,λ_=>q⟩ (λ_ _ _ _=>kH D) (lG 6 rfl kr (.inl rfl) rfl dc (λ_ _ h=>⟨h.1,lO br h.2⟩) ⟨d,λ_=>q⟩ (λ_ _ _ _=>kH J) (lG 7 rfl kr (.inl rfl) rfl dc (λ_ _ h=>⟨h.1,lO br h.2⟩) ⟨d,λ_=>q⟩ (λ_ _ _ _=>lE rfl rfl rfl) (bS c λY a3 c=>np 8 rfl kr (.inl rfl) rfl dc (λ_ _ h=>⟨h.1,lO br h.2⟩) ⟨d,λ_=>q⟩ (mh (i:=(wi0 .i64 (k-1))) (x0:=Y) eA fG rfl rfl j (kZ a3) (kY a3)) (λh6 d9=>lG 9 rfl kr (.inl rfl) rfl dc (λ_ _ h=>⟨h.1,lO br h.2⟩) ⟨d,λ_=>q⟩ (λl W L hs=>have A:=(hs.2 (L.yL 15 [9] kr rfl)); kF rfl (nC A (λp O=>(Ml O)) j nX d9 (kY a3) isAgg197 fG)) (lG 10 rfl kr (.inl rfl) rfl dc (λ_ _ h=>⟨h.1,lO br h.2⟩) ⟨d,λ_=>q⟩ (λ_ _ _ _=>kH D) (lG 11 rfl kr (.inl rfl) rfl dc (λ_ _ h=>⟨h.1,lO br h.2⟩) ⟨d,λ_=>q⟩ (λ_ _ _ _=>kH J) (bS c λZ a4 c=>?_)))))))))))))
       refine np 12 rfl kr (.inl rfl) rfl dc (λ_ _ h=>⟨h.1,lO br h.2⟩) ⟨d,λ_=>q⟩ (mh (i:=k) (x0:=Z) eA fG rfl rfl j (kZ a4) (kY a4)) (λh7 e0=>lG 13 rfl kr (.inl rfl) rfl dc (λ_ _ h=>⟨h.1,lO br h.2⟩) ⟨d,λ_=>q⟩ (λl W L hs=>have A:=(hs.2 (L.yL 15 [13] kr rfl)); kF rfl (nC A (λp O=>(Ml O)) j nX e0 (kY a4) isAgg197 fG)) (bS c λg3 a5 c=>np 14 rfl kr (.inl rfl) rfl dc (λ_ _ h=>⟨h.1,lO br h.2⟩) ⟨d,λ_=>q⟩ (mh (i:=k) (x0:=g3) eA fG rfl rfl j (kZ a5) (kY a5)) (λh8 e1=>XO 15 rfl (qZ (u:=(.agg (ll Y).toArray)) (x1:=Y)  n j nX sa rfl rfl rfl e1 (kY a5) fG (λh3 h2 n b5=>?_)))))
       have d:=n.has.kB Sn
       refine ⟨⟨d,λh=>vp kr h⟩,(bS c λg4 P c=>np 16 rfl kr (.inl rfl) rfl dc (λ_ _ h=>⟨h.1,lO br h.2⟩) ⟨d,λh=>vp kr h⟩ (mh (i:=(wi0 .i64 (k-1))) (x0:=g4) eA fG rfl rfl b5 (kZ P) (kY P)) (λh9 e2=>XO 17 rfl (qZ (u:=(.agg (ll Z).toArray)) (x1:=Z)  n b5 nX sa rfl rfl rfl e2 (kY P) fG (λh4 e8 n d4=>?_))))⟩
       have d:=n.has.kB Sn
       exact ⟨⟨d,λh=>vp kr h⟩,(lH kr (lI (kP (kR (Wh J (Wi rfl (Wa (ln ⟨g2,aT _,((U.set (Int.toNat k) Y).set (Int.toNat (wi0 .i64 (k-1))) Z),e8,(wi0 .i64 (k-1)),_,(n.kB St),D,c6,c7,c8,c9,rfl,d4,c⟩))))))))⟩
      refine nu (ng (ng (pM (kP ?_))))
      obtain rfl:=sj c
      exact ⟨H,_,(n.kB St),D,c6,c7,c8,c9,j⟩
     refine bC g (λa g=>?_) (λa g=>?_)
     ·refine Xg 4 rfl rfl (cB a) d (kH b3) (Xg 5 rfl rfl (cB a) d (kH Q) (Xg 6 rfl rfl (cB a) d (kH I) (bS g λd1 R g=>np 7 rfl kr (.inr ⟨3,true,21,rfl,rfl,by decide,(cB a)⟩) rfl dc (λ_ _ h=>h) d (mh (i:=k) (x0:=d1) eA fG rfl rfl j (kZ R) (kY R)) (λi0 e3=>pu 8 rfl rfl (cB a) d (λ_ A=>kF rfl (nC A (λp O=>(Ml O)) j nX e3 (kY R) isAgg197 fG)) (Xg 9 rfl rfl (cB a) d (kH Q) (Xg 10 rfl rfl (cB a) d (kH I) (Xg 11 rfl rfl (cB a) d (lE rfl rfl rfl) (bS g λd2 a8 g=>np 12 rfl kr (.inr ⟨3,true,21,rfl,rfl,by decide,(cB a)⟩) rfl dc (λ_ _ h=>h) d (mh (i:=(wi0 .i64 (k-1))) (x0:=d2) eA fG rfl rfl j (kZ a8) (kY a8)) (λi1 e4=>pu 13 rfl rfl (cB a) d (λ_ A=>kF rfl (nC A (λp O=>(Ml O)) j nX e4 (kY a8) isAgg197 fG)) (bS g λi2 e5 g=>yq 14 rfl rfl (cB a) (DR (d1,d2) n g9 (lz.refl _) rfl (qJ rfl rfl) e5 (λh5 n=>?_))))))))))))
      have d:=n.has.kB (Kr Sn)
      refine ⟨d,(Xg 15 rfl rfl (cB a) d (lE rfl rfl rfl) (X 16 rfl d (lb (cB a) rfl) ?_))⟩
      obtain rfl:=sj g
      refine nf kr (a9 _ _ ⟨_,(n.kB St),Q,b2,c4,b3,c5,I,rfl⟩)
     refine Xn 4 rfl rfl (cB a) d (Xn 5 rfl rfl (cB a) d (Xn 6 rfl rfl (cB a) d (Xn 7 rfl rfl (cB a) d (Xn 8 rfl rfl (cB a) d (Xn 9 rfl rfl (cB a) d (Xn 10 rfl rfl (cB a) d (Xn 11 rfl rfl (cB a) d (Xn 12 rfl rfl (cB a) d (Xn 13 rfl rfl (cB a) d (Xn 14 rfl rfl (cB a) d (Xn 15 rfl rfl (cB a) d (X 16 rfl d (lf (cB a) rfl) ?_))))))))))))
     obtain rfl:=sj g
     refine nf kr (a9 _ _ ⟨_,(n.kB St),Q,b2,c4,b3,c5,I,rfl⟩)
   rintro g0 E W ⟨N,c0,n,f2,f4,f5,f6,f7,e6⟩ d7
   exact lI (kP (kR (Wh f7 (Wi rfl (Wa (ln ⟨g1,aT _,g0,N,(wi0 .i64 (y+1)),_,(n.kB St),f2,f4,f5,f6,rfl,e6,d7⟩))))))
  refine nu (ng (ng (pM (kP (qK ?_)))))
  obtain rfl:=sj t
  exact px rfl ⟨_,_,rfl,(n.od (Kr Sn)),G,rfl,rfl,b6⟩
theorem AP (g:Value) (a0:List kK) (i:LO) (z:Int) (j:Value) (f2:(kK×kK)→Option Int) (r:List kK) (w:World) {μ0:lF} (h0:pe μ0 (i++[]) w) (c5:lm 197 ll 4 g a0 i) (c6:sQ pg0 j μ0 (λ(x:(kK×kK))=>[(.agg (ll x.1).toArray),(.agg (ll x.2).toArray)]) (λ(r:Int)=>(.int .i64 r)) f2) (hm:tk a0 z f2=some r) :
  mz false pg0 214 [g,(.int .i64 z),j] w (i++[]) (λv L1 W'=>∃S1,v=(.tuple #[])∧L1=(S1++[])∧lm 197 ll 4 g r S1):=by
 refine wM h0 63 func214 rfl (λd=>sg (Wa (lr (Wm (Wa (Wa (ln (kQ (me (nn (λm E W=>∃N M Q n p U,lz μ0 p∧ST false (keys (i++[])) w W p (M++U)∧E 0=g∧E 1=(.int .i64 z)∧E 2=j∧E 6=(.int .i64 20)∧E 7=(.int .i64 Q)∧E 8=(.int .i64 n)∧lm 197 ll 4 g N M∧qw z f2 m N Q n=some r) li ⟨a0,i,0,20,μ0,_,(lz.refl _),(d.kB St),rfl,rfl,rfl,rfl,rfl,rfl,c5,hm⟩ ?_))))))))))
 rintro m E W ⟨N,M,Q,n,p,U,a5,d,Z,B,a2,c2,c3,c4,c7,a⟩
 cases m with
 | zero=>rw [qw] at a; cases a
 | succ e0=>
  refine kQ (sg (Wh c4 (Wh B (Wi rfl (ln (CI a rfl (λO a=>?_) (λO a=>?_)))))))
  ·cases a
  refine nu (ng (ng (pM (kP (sg (Wh Z (Wh c3 (Wh B (Wh a2 (bS a λc8 b4 a=>?_))))))))))
  refine VE (eM d (Cr Qz Cn) call271 (λhh A=>(yj g N M Q z j f2 _ _ hh c7 (c6.mono (a5.trans A)) b4)) ?_)
  rintro _ e1 I d6 d d0 q s ⟨c0,u,rfl,b7⟩
  obtain rfl:=u.symm
  replace d:=d.perm (Tr Tn)
  refine ln (rZ (CJ a (λG E W=>∃k J Y,lz I J∧ST false (keys (i++[])) w W J (k++Y)∧lm 197 ll 4 g G k) (λG R=>?_) ?_))
  ·refine me (nn (λm E W=>∃D t H y K,lz I y∧ST false (keys (i++[])) w W y (t++K)∧E 0=g∧E 1=(.int .i64 z)∧E 2=j∧E 6=(.int .i64 H)∧lm 197 ll 4 g D t∧pq z f2 m D H=some G) li ⟨c8,c0,20,I,_,(lz.refl _),(d.kB St),Z,B,a2,c2,b7,R⟩ ?_)
   rintro m E W ⟨D,t,H,y,K,T,d,d2,L,d3,a9,b6,c⟩
   cases m with
   | zero=>rw [pq] at c; cases c
   | succ d4=>
    refine kQ (sg (Wh a9 (Wh L (Wi rfl (ln (CI c rfl (λa4 c=>?_) (λa4 c=>?_)))))))
    ·cases c
    refine nu (ng (ng (pM (kP ?_))))
    obtain rfl:=sj c
    exact ⟨t,y,_,T,(d.kB St),b6⟩
  rintro d9 E W ⟨k,J,Y,d1,d,b5⟩ P
  refine qK ?_
  obtain rfl:=sj P
  exact px rfl ⟨_,_,rfl,(d.od (Kr Sn)),k,rfl,rfl,b5⟩
theorem vo (c:Value) (k:List kK) (a:LO) (i:Value) (t:(kK×kK)→Option Int) (r:List kK) (w:World) {H:lF} (J:pe H (a++[]) w) (j:lm 197 ll 4 c k a) (u:sQ pg0 i H (λ(x:(kK×kK))=>[(.agg (ll x.1).toArray),(.agg (ll x.2).toArray)]) (λ(r:Int)=>(.int .i64 r)) t) (hm:oy k t=some r) :
  mz false pg0 153 [c,i] w (a++[]) (λv I W'=>∃z,v=(.tuple #[])∧I=(z++[])∧lm 197 ll 4 c r z):=by
 refine wM J 9 func153 rfl (λd=>kR (Wm (Wm (V (qm eA rfl j) (Wm (bS hm λQ G hm=>?_))))))
 refine VE (eM d (Cr Qz Cn) call214 (λq p=>(AP c k a (k.length:Int) i t _ _ q j (u.mono p) G)) ?_)
 rintro _ T U M d K s n ⟨B,g,rfl,y⟩
 obtain rfl:=g.symm
 replace d:=d.perm (Tr Tn)
 refine lu (qK ?_)
 obtain rfl:=sj hm
 exact px rfl ⟨_,_,rfl,(d.od (Kr Sn)),B,rfl,rfl,y⟩
theorem DH (c g:kK) (i:Nat) (a:Value) (j:(kz×kz)→Option Int) (r:Int) (w:World) (t:sQ pg0 a (hp w) (λ(x:(kz×kz))=>[(.agg (kN x.1).toArray),(.agg (kN x.2).toArray)]) (λ(r:Int)=>(.int .i64 r)) j) (k:At (hp w) (.pointer (some ⟨i,0,none⟩)) [a]) (hm:tM c g j=some r) :
  la false pg0 154 [(.agg (ll c).toArray),(.agg (ll g).toArray),(.pointer (some ⟨i,0,none⟩))] w (.int .i64 r):=by
 refine cG 12 func154 rfl (λd=>sg (VE (ly d rfl (λz G d=>VE (ly d rfl (λB H d=>Wa (lr (V (kF rfl (pO d.has (y:=a) k isAgg140)) (Wf Mq (VA d (Mt Mh) (kN c.key) bI aP (Wf Mq (VA d Mh (kN g.key) bI aP ?_))))))))))))
 refine bS hm λI u hm=>VE (DR (c.key,g.key) d t (lz.refl _) rfl (qJ rfl rfl) u (λD d=>Wa (ln ?_)))
 exact lB (rQ hm d)
theorem Fv (t:Value) (a0:List kK) (j:LO) (U:Value) (Y:(kz×kz)→Option Int) (r:(ByteArray×(List kK))) (w:World) {μ0:lF} (h0:pe μ0 (j++[]) w) (c1:lm 197 ll 4 t a0 j) (Q:sQ pg0 U μ0 (λ(x:(kz×kz))=>[(.agg (kN x.1).toArray),(.agg (kN x.2).toArray)]) (λ(r:Int)=>(.int .i64 r)) Y) (hm:vm a0 Y=some r) :
  mz false pg0 82 [t,U] w (j++[]) (λv L1 W'=>∃S1,v=(.string (r.1))∧L1=(S1++[])∧lm 197 ll 4 t r.2 S1):=by
 refine wM h0 27 func82 rfl (λd=>sg ?_)
 obtain ⟨ab,ad,ae,rfl⟩:=Q.form
 refine VE (ly d rfl (λW5 P d=>Wa (lr (Wm (V (qz (by exact pk rfl) rfl) (bS hm λO d0 hm=>?_))))))
 refine VE (Bn d (Cr (Qb Qz) Cn) call153 (λhH A s q=>(vo t a0 j (.func (.func 154) #[] #[(.pointer (some ⟨P,0,none⟩))]) (λ(x:(kK×kK))=>tM x.1 x.2 Y) _ _ ⟨hH,A,lz.refl _⟩ c1 ⟨154,#[],#[(.pointer (some ⟨P,0,none⟩))],rfl,call154,λW x r hs hm=>DH x.1 x.2 P (.func ab ad ae) Y r W (Q.mono (s.trans hs)) (At.of (hs _ _ (q _ _ Mh)) _ rfl) hm⟩ d0)) (λW8 f4 L f2 d d3 ah n b9=>?_))
 obtain ⟨b3,K,rfl,k⟩:=b9
 replace K:=K.symm; subst K
 replace d:=d.perm (Tr Tn)
 refine ln ?_
 replace d:=d.kB (Kr (Db St))
 refine sg (VE (HV (e:=5) d zeroValue93 (λf3 N c7 d c0=>lS (Wm (V (qm eA rfl k) (Wm (ln (mj (λi E W=>∃g c G I,(E 13= .int .i64 (i:Nat)∧E 12= .int .i64 (O.length:Nat))∧lz L G∧ST false (keys (j++[])) w W G (c++(b3++I))∧E 5=N∧E 11=t∧IS 93 5 N g c∧pb O (O.drop i) g=some r) O.length k.len ⟨zS,c7,L,_,⟨rfl,rfl⟩,(lz.refl _),(d.kB St),rfl,rfl,c0,hm⟩ dc dc dc (λ_ _ _ h=>by obtain ⟨_,_,_,_,aa,_⟩:=h; exact aa) ?_ ?_))))))))
 ·rintro c2 E W a2 ⟨g,c,G,I,⟨R,eN⟩,H,d,u,J,y,a⟩
  obtain ⟨D,d4,a9,M,b0⟩:=lX a2
  rw [a9] at a
  rw [pb] at a
  refine bg (VQ (mh (i:=(c2:Int)) (x0:=D) eA fG J R k (aM _) M) (λe4 a3=>V (kF rfl (nC d.has (λp hq=>(Ma (Ml hq))) k nX a3 M isAgg197 fG)) (VE (lT d iz (λd8 e2 d=>VO (lp (.agg (ll D).toArray) ((ll D).toArray) d rfl rfl fG (sa D) nb rfl (λd9 d=>ln (kR (Wf RC (VB d Mh rfl rfl bT (bS a λe5 a6 a=>V (lU rfl rfl a6) (Wf RK ?_))))))))))))
  refine VB d Mh rfl rfl bT (bS a λe6 a7 a=>V (lU rfl rfl a7) (bS a λc5 a8 a=>V (lU rfl rfl a8) (bS a λc3 a4 a=>?_)))
  refine VE (Bn d (Cr (Qb Qz) Cn) call49 (λhH A s q=>mz.mK (Ir N g c c5 _ _ ⟨hH,A,lz.refl _⟩ y a4)) (λe0 e7 c6 d6 d T af n Z=>?_) (ha:=Su u rfl))
  obtain ⟨e9,b5,z,rfl,b1⟩:=Z
  replace z:=z.symm; subst z
  replace d:=d.perm (Tr Tn)
  refine lu (lI (kP ?_))
  replace d:=d.kB (Kr (Db St))
  exact ⟨R,c3,b5,c6,_,⟨rfl,eN⟩,(H.trans T),(d.kB St),u,J,b1,(by rw [b0]; exact a)⟩
 rintro E W ⟨g,c,G,I,⟨R,eN⟩,H,d,u,J,y,a⟩
 rw [aO] at a
 rw [pb] at a
 refine kP (sg (bS a λc4 a5 a=>?_))
 refine VE (Bn d (Cr Qz Cn) call51 (λhH A s q=>mz.mK (Hi N g c _ _ ⟨hH,A,lz.refl _⟩ y a5)) (λe1 e8 f0 d7 d c9 ag n a1=>?_) (ha:=Nk u))
 obtain ⟨B,rfl⟩:=a1
 replace B:=B.symm; subst B
 replace d:=d.perm Tn
 refine Wa (lt ?_)
 obtain rfl:=sj a
 exact nq (v:=(.string c4)) rfl rfl ⟨_,_,rfl,(d.od (Kr Sn)),b3,rfl,rfl,k⟩
theorem yd (z:lZ) (i u:Value) (B:lZ) (j y:Value) (r:ByteArray) (w:World) (c:Sl kX 15 (hp w) i z.kM) (k:Sl ls 8 (hp w) u z.kU) (g:Sl kX 15 (hp w) j B.kM) (t:Sl ls 8 (hp w) y B.kU) (hm:pQ z B=some r) :
  la false pg0 27 [(.agg #[(.string z.Name),i,u]),(.agg #[(.string B.Name),j,y])] w (.string r):=by
 refine cG 22 func27 rfl (λd=>sg ?_)
 obtain ⟨A1,c2,rfl⟩:=c.form
 obtain ⟨A3,c4,rfl⟩:=k.form
 refine VE (ly d rfl (λW6 b5 d=>?_))
 obtain ⟨A7,c8,rfl⟩:=g.form
 obtain ⟨A9,M,rfl⟩:=t.form
 refine VE (ly d rfl (λd2 d7 d=>Wa (lr (Wf sV (VB d (Mt Mh) rfl rfl gL (Wf sV (VB d Mh rfl rfl gL (bS hm λb4 Y hm=>VE (As d call69 (DX (.slice A1 z.kM.length c2) z.kM (.slice A7 B.kM.length c8) B.kM (.func (.func 70) #[] #[]) (λ(x:lh)=>oM x) (.func (.func 71) #[] #[]) (λ(x:(lh×lh))=>pG x.1 x.2) (.func (.func 73) #[] #[]) (λ(x:lh)=>po x) _ _ (c.mono lg.mono d.kG) (g.mono lg.mono d.kG) ⟨70,#[],#[],rfl,call70,λW x vs r v n hm=>by obtain ⟨_,rfl,a⟩:=n; obtain ⟨D,G,rfl,p,q⟩:=a.out; exact (GQ x D G r W p q hm).mK⟩ ⟨71,#[],#[],rfl,call71,λW x vs r v n hm=>by obtain ⟨_,_,rfl,a,K⟩:=n; obtain ⟨D,G,rfl,p,q⟩:=a.out; obtain ⟨t0,t1,rfl,E,j1⟩:=K.out; exact GS x.1 D G x.2 t0 t1 r W p q E j1 hm⟩ ⟨73,#[],#[],rfl,call73,λW x vs r v n hm=>by obtain ⟨_,rfl,a⟩:=n; obtain ⟨D,G,rfl,p,q⟩:=a.out; exact (GU x D G r W p q hm).mK⟩ Y) (λd3 b7 e3 a9 d J L T=>Wa (ln ?_)))))))))))
 refine sg (Wf uY (VB d (Ma (Mt Mh)) rfl rfl ie (Wf uY (VB d (Ma Mh) rfl rfl ie (bS hm λb6 Z hm=>VE (As d call75 (D2 (.slice A3 z.kU.length c4) z.kU (.slice A9 B.kU.length M) B.kU (.func (.func 76) #[] #[]) (λ(x:mn)=>oL x) (.func (.func 77) #[] #[]) (λ(x:(mn×mn))=>pF x.1 x.2) (.func (.func 78) #[] #[]) (λ(x:mn)=>pp x) _ _ (k.mono mf.mono (J.trans d.kG)) (t.mono mf.mono (J.trans d.kG)) ⟨76,#[],#[],rfl,call76,λW x vs r v n hm=>by obtain ⟨_,rfl,a⟩:=n; obtain ⟨D,G,rfl,p,q⟩:=a.out; exact (G0 x D G r W p q hm).mK⟩ ⟨77,#[],#[],rfl,call77,λW x vs r v n hm=>by obtain ⟨_,_,rfl,a,K⟩:=n; obtain ⟨D,G,rfl,p,q⟩:=a.out; obtain ⟨t0,t1,rfl,E,j1⟩:=K.out; exact GW x.1 D G x.2 t0 t1 r W p q E j1 hm⟩ ⟨78,#[],#[],rfl,call78,λW x vs r v n hm=>by obtain ⟨_,rfl,a⟩:=n; obtain ⟨D,G,rfl,p,q⟩:=a.out; exact (GZ x D G r W p q hm).mK⟩ Z) (λd4 b9 e4 R d c0 O U=>Wa (ln ?_))))))))
 replace d:=d.kB (Kr (Kr (Db (Db St))))
 refine sg (Wm (bS hm λd8 a2 hm=>?_))
 refine VE (eM d (Cr (Qr Qz) Cn) call80 (λA _=>(Fw b7 b4 a9 (.func (.func 81) #[] #[]) (λ(x:(kC×kC))=>oS x.1 x.2) _ _ A T ⟨81,#[],#[],rfl,call81,λW x r v hm=>(DY x.1 x.2 r W  hm).mK⟩ a2)) ?_)
 rintro _ e1 e5 c7 d c1 P s ⟨d0,H,rfl,c5⟩
 obtain rfl:=H.symm
 replace d:=d.perm (Tr Tn)
 refine Wm (bS hm λd9 a3 hm=>?_)
 refine VE (eM d (Cr (Qr Qz) Cn) call82 (λA _=>(Fv b9 b6 R (.func (.func 83) #[] #[]) (λ(x:(kz×kz))=>oR x.1 x.2) _ _ A U ⟨83,#[],#[],rfl,call83,λW x r v hm=>(AF x.1 x.2 r W  hm).mK⟩ a3)) ?_)
 rintro _ e2 e6 c9 d c3 Q s ⟨d1,I,rfl,c6⟩
 obtain rfl:=I.symm
 replace d:=d.perm (Tr Tn)
 refine bS hm λe0 a4 hm=>V (lU rfl rfl a4) (Wa (ln ?_))
 exact lB (rQ hm d)
theorem E9 (Y:ByteArray) (u:lZ) (k z:Value) (g:lZ) (t B:Value) (r:ByteArray) (w:World) (i:Sl kX 15 (hp w) k u.kM) (x:Sl ls 8 (hp w) z u.kU) (j:Sl kX 15 (hp w) t g.kM) (y:Sl ls 8 (hp w) B g.kU) (hm:wL Y u g=some r) :
  la false pg0 60 [(.string Y),(.agg #[(.string u.Name),k,z]),(.agg #[(.string g.Name),t,B])] w (.string r):=by
 refine cG 28 func60 rfl (λd=>sg ?_)
 obtain ⟨T,Z,rfl⟩:=i.form
 obtain ⟨U,n,rfl⟩:=x.form
 refine VE (ly d rfl (λW6 R d=>?_))
 obtain ⟨I,K,rfl⟩:=j.form
 obtain ⟨J,G,rfl⟩:=y.form
 let a0:=(C4 g.Name I g.kM.length K J g.kU.length G)
 refine VE (ly d rfl (λb6 N d=>Wa (lr (VA d (Mt Mh) (C4 u.Name T u.kM.length Z U u.kU.length n) dJ cV (VA d Mh a0 dJ cV (bS hm λP a5 hm=>VE (Eg d call27 (yd u (.slice T u.kM.length Z) (.slice U u.kU.length n) g (.slice I g.kM.length K) (.slice J g.kU.length G) _ _ (i.mono lg.mono d.kG) (x.mono mf.mono d.kG) (j.mono lg.mono d.kG) (y.mono mf.mono d.kG) a5) (λb7 d=>Wa (ln (kQ (kQ ?_)))))))))))
 refine kR (Wm (V (qe rfl rfl rfl) (Wm (LJ hm (λQ E W=>∃M,ST false lD w W (hp w) ((N,Ol a0 25)::M)∧E 0=(.string Y)∧E 5=(.pointer (some ⟨N,0,none⟩))∧E 7=(.string P)∧E 19=(.bool Q)) 6 ?_ (λQ D H=>?_)))))
 ·rintro c5 E W ⟨M,d,v,A,L,O⟩ c
  refine ln (CI c O (λa4 c=>?_) (λa4 c=>?_))
  ·refine sg (Wa (ln ?_))
   replace d:=d.kB (Db St)
   refine lB (lV ?_)
   obtain rfl:=sj c
   exact rP d
  refine kg (Wh v (bS c λb9 p c=>V (lU rfl rfl p) (V (kJ vE A) (VB d Mh rfl rfl bT (bS c λc0 q c=>V (lU rfl rfl q) (bS c λc1 s c=>V (lU rfl rfl s) (Wh L (bS c λc3 a9 c=>?_))))))))
  refine V (lU rfl rfl a9) (Wa (ln ?_))
  exact lB (rQ c d)
 refine bC D (λa D=>?_) (λa D=>?_)
 ·refine ug a (kJ vE rfl) (ug a (kF rfl (kV d.has (Mt Mh) rfl bT)) (ug a (kJ vE rfl) (ug a (kF rfl (kV d.has Mh rfl bT)) (ug a (qe rfl rfl rfl) (V (lb (cB a) rfl) ?_)))))
  obtain rfl:=sj D
  exact H _ _ ⟨_,(d.kB (Kb (Db St))),rfl,rfl,rfl,rfl⟩
 refine un a (un a (un a (un a (un a (V (lf (cB a) rfl) ?_)))))
 obtain rfl:=sj D
 exact H _ _ ⟨_,(d.kB (Kb (Db St))),rfl,rfl,rfl,rfl⟩
theorem E6 (T:Formula→Int→Option (Int×Int)) (s:∀(t:Formula) (j:Value) (I:Int) (r:(Int×Int)) (w:World) (g:Sl kD 5 (hp w) j t.Kids),T t I=some r→la false pg0 264 [(.agg #[(.int .i64 t.Op),(.int .i64 t.K),(.string t.kz.kA),(.string t.kz.Word),j]),(.int .i64 I)] w (.tuple #[(.int .i64 r.1),(.int .i64 r.2)])) (t:Formula) (j:Value) (I:Int) (r:(Int×Int)) (w:World) (g:Sl kD 5 (hp w) j t.Kids) (hm:wC T t I=some r) :
  la false pg0 264 [(.agg #[(.int .i64 t.Op),(.int .i64 t.K),(.string t.kz.kA),(.string t.kz.Word),j]),(.int .i64 I)] w (.tuple #[(.int .i64 r.1),(.int .i64 r.2)]):=by
 refine cG 40 func264 rfl (λd=>sg ?_)
 obtain ⟨A1,c2,rfl⟩:=g.form
 refine VE (ly d rfl (λW4 b3 d=>Wa (Wa (lr (Wa (Wa (lS (Wf pS ?_))))))))
 refine VB d Mh rfl rfl eZ (V (mx aH rfl g) (Wm (ln ?_)))
 replace d:=d.kB (Db St)
 refine CJ hm (λQ E W=>∃a2,ST false lD w W (hp w) a2∧E 6=(.int .i64 Q.1)∧E 7=(.int .i64 Q.2)) (λQ a5=>?_) ?_
 ·refine mj (λi E W=>∃y z J,(E 15= .int .i64 (i:Nat)∧E 14= .int .i64 (t.Kids.length:Nat))∧ST false lD w W (hp w) J∧E 1=(.int .i64 I)∧E 6=(.int .i64 y)∧E 7=(.int .i64 z)∧E 13=(.slice A1 t.Kids.length c2)∧qV I T (t.Kids.drop i) y z=some Q) t.Kids.length g.len ⟨1,0,_,⟨rfl,rfl⟩,(d.kB St),rfl,rfl,rfl,rfl,a5⟩ dc dc dc (λ_ _ _ h=>by obtain ⟨_,_,_,p,_⟩:=h; exact p) ?_ ?_
  ·rintro R E W a3 ⟨y,z,J,⟨n,q⟩,d,G,x,H,K,a⟩
   obtain ⟨c,c6,L,A,a9⟩:=lX a3
   rw [L] at a
   refine bg (VQ (mo (i:=(R:Int)) (x0:=c) kD.out aH aG K n g (aM _) A) (λc4 ⟨_,⟨c5,rfl,N⟩,Y⟩=>V (kF rfl (lx d.has Y aZ aG)) (VE (lT d bG (λb9 c3 d=>?_)))))
   obtain ⟨B,D,rfl⟩:=N.form
   let a0:=(C2 c.Op c.K c.kz.kA c.kz.Word B c.Kids.length D)
   refine VO (lp (.agg a0.toArray) (a0.toArray) d rfl rfl aG oc nb rfl (λc0 d=>lS (Wh x (Wh G (Wi rfl (ln (CI a rfl (λU a=>?_) (λU a=>?_))))))))
   ·refine nu (ng (Ta (by simp) (ng (pM (kP ?_)))))
    obtain rfl:=sj a
    exact ⟨_,(d.kB (Db St)),x,H⟩
   refine kg (VA d Mh a0 aZ aG (Wh G (Wh x (Wi rfl (bS a λM Z a=>VE (Eg d call264 (s c (.slice B c.Kids.length D) (wi0 .i64 (I-y)) _ _ (N.mono kT.mono d.kG) Z) (λc1 d=>Wm (Wx rfl (Wx rfl (Wa (Wa ?_)))))))))))
   refine ln ?_
   replace d:=d.kB (Db St)
   exact kR (Wh x (Wm (Wi rfl (Wh H (Wm (V (O3 (k:=.i64) rfl rfl) (Wa (Wa (lu (lI (kP ⟨n,(wi0 .i64 (y+M.1)),(if M.2 > z then M.2 else z),_,⟨rfl,q⟩,(d.kB St),G,rfl,rfl,K,(by rw [a9]; exact a)⟩)))))))))))
  rintro E W ⟨y,z,J,⟨n,q⟩,d,G,x,H,K,a⟩
  rw [aO] at a
  refine kP ?_
  obtain rfl:=sj a
  exact ⟨_,(d.kB St),x,H⟩
 rintro ⟨b6,b7⟩ E W ⟨a2,d,O,P⟩ a4
 refine sg (Wh O (Wh P (Wi rfl (Wa (Wa (lt ?_))))))
 obtain rfl:=sj a4
 exact FI (v:=(.int .i64 b6)) (u:=(.int .i64 (wi0 .i64 (b7+1)))) rfl rfl rfl ⟨rfl,d.ex⟩
theorem CT:∀(n:Nat) (c:Formula) (a:Value) (i:Int) (r:(Int×Int)) (w:World) (g:Sl kD 5 (hp w) a c.Kids) (_:pX n c i=some r),
  la false pg0 264 [(.agg #[(.int .i64 c.Op),(.int .i64 c.K),(.string c.kz.kA),(.string c.kz.Word),a]),(.int .i64 i)] w (.tuple #[(.int .i64 r.1),(.int .i64 r.2)])
 | 0=>by intros; rename_i h; simp only [pX] at h; cases h
 | n+1=>E6 (pX n) (CT n)
theorem IX (a:Formula) (g:Value) (r:(Int×Int)) (w:World) (c:Sl kD 5 (hp w) g a.Kids) (hm:yh a=some r) :
  la false pg0 201 [(.agg #[(.int .i64 a.Op),(.int .i64 a.K),(.string a.kz.kA),(.string a.kz.Word),g])] w (.tuple #[(.int .i64 r.1),(.int .i64 r.2)]):=by
 refine cG 15 func201 rfl (λd=>sg ?_)
 obtain ⟨i,j,rfl⟩:=c.form
 refine VE (ly d rfl (λy B d=>Wa (Wa (lr (VA d Mh (C2 a.Op a.K a.kz.kA a.kz.Word i a.Kids.length j) aZ aG (bS hm λx t hm=>VE (Eg d call264 ((CT li) a (.slice i a.Kids.length j) 4096 _ _ (c.mono kT.mono d.kG) t) (λz d=>Wm (Wx rfl (Wx rfl (Wa (Wa ?_))))))))))))
 refine ln ?_
 replace d:=d.kB (Db St)
 refine kQ (sg (Wm (Wi rfl (ln (CI hm rfl (λk hm=>?_) (λk hm=>?_))))))
 ·refine sg (Wa (Wa (lt (lV ?_))))
  obtain rfl:=sj hm
  exact FI (v:=(.int .i64 0)) (u:=(.int .i64 0)) rfl rfl rfl ⟨rfl,d.ex⟩
 refine kg (Wm (Wm (Wa (Wa (lt ?_)))))
 obtain rfl:=sj hm
 exact FI (v:=(.int .i64 x.1)) (u:=(.int .i64 x.2)) rfl rfl rfl ⟨rfl,d.ex⟩
theorem IP (a:Formula) (H:Value) (r:Bool) (w:World) (t:Sl kD 5 (hp w) H a.Kids) (hm:ye a=some r) :
  la true pg0 265 [(.agg #[(.int .i64 a.Op),(.int .i64 a.K),(.string a.kz.kA),(.string a.kz.Word),H])] w (.bool r):=by
 refine cG 63 func265 rfl (λd=>sg ?_)
 obtain ⟨A1,c2,rfl⟩:=t.form
 let q:=(C2 a.Op a.K a.kz.kA a.kz.Word A1 a.Kids.length c2)
 refine VE (ly d rfl (λW4 N d=>Wa (lr (V (nB (v:=(.agg (kN K0).toArray)) uC (nk fR eV (PE _ eV) kr)) (VE (lT d fR (λW6 R d=>VO (lp (.agg (kN K0).toArray) ((kN K0).toArray) d rfl rfl aP (wo K0) nb rfl (λW7 d=>lS (Wf qt ?_))))))))))
 refine VB d (Mt Mh) rfl rfl bX (ln (bg (Wi rfl (Wa (ln (CI hm rfl (λd9 hm=>?_) (λd9 hm=>?_)))))))
 ·refine sg (Wf ux (VA d (Mt Mh) (kN a.kz) bI aP (bS hm λf7 e5 hm=>VE (Eg d jU (tY a.kz _ _  e5) (λf5 d=>Wm (LJ hm (λd2 E W=>∃c4,ST true lD w W (hp w) ((N,Ol q 30)::c4)∧E 1=(.pointer (some ⟨N,0,none⟩))∧E 2=(.bool false)∧E 17=(.bool d2)) 5 ?_ (λd2 J a4=>?_)))))))
  ·rintro f8 E W ⟨c4,d,e7,c9,e8⟩ e1
   refine Wh e8 (LJ e1 (λd1 E W=>∃c5,ST true lD w W (hp w) c5∧E 2=(.bool false)∧E 22=(.bool d1)) 4 ?_ (λd1 I a3=>?_))
   ·rintro f9 E W ⟨c5,d,f6,e9⟩ e2
    refine Wg e9 (lt (nU (lV ?_)))
    obtain rfl:=sj e2
    exact rP d
   refine bC I (λu I=>?_) (λu I=>?_)
   ·refine ug u (kJ uA e7) (ug u (kF rfl (kV d.has Mh rfl bX)) (ug u (lE rfl rfl rfl) (V (lb (cB u) rfl) ?_)))
    obtain rfl:=sj I
    exact a3 _ _ ⟨_,(d.kB (Db St)),c9,rfl⟩
   refine un u (un u (un u (V (lf (cB u) rfl) ?_)))
   obtain rfl:=sj I
   exact a3 _ _ ⟨_,(d.kB (Db St)),c9,rfl⟩
  refine bC J (λj J=>?_) (λj J=>?_)
  ·refine ug j (kJ pS rfl) (ug j (kF rfl (kV d.has (Mt Mh) rfl eZ)) (ug j (mx aH rfl t) (ug j (lE rfl rfl rfl) (V (lb (cB j) rfl) ?_))))
   obtain rfl:=sj J
   exact a4 _ _ ⟨_,(d.kB (Db St)),rfl,rfl,rfl⟩
  refine un j (un j (un j (un j (V (lf (cB j) rfl) ?_))))
  obtain rfl:=sj J
  exact a4 _ _ ⟨_,(d.kB (Db St)),rfl,rfl,rfl⟩
 let a0:=(q.toArray:Array Value)
 let n:Value:=(.pointer (some ⟨N,0,none⟩))
 refine kQ (CJ hm (λb7 E W=>∃c6,ST true lD w W (hp w) ((R,Ol (kN K0) 27)::((N,Obj.cells a0 30 (0,0))::c6))∧E 1=n∧E 3=(.pointer (some ⟨R,0,none⟩))∧E 23=(.bool b7)) (λb7 G=>?_) ?_)
 ·refine sg (Wi rfl (Wa (ln (CI G rfl (λb9 G=>?_) (λb9 G=>?_)))))
  ·refine kn ?_
   obtain rfl:=sj G
   exact ⟨_,(d.kB St),rfl,rfl,rfl⟩
  refine kR (Wi rfl (Wa (ln ?_)))
  obtain rfl:=sj G
  exact ⟨_,(d.kB St),rfl,rfl,rfl⟩
 rintro g0 E W ⟨c6,d,Q,d0,f0⟩ K
 refine CI K f0 (λe0 K=>?_) (λe0 K=>?_)
 ·refine sg (V (kJ ux Q) (VA d (Mt Mh) (kN a.kz) bI aP (V (kF d0 (kL d.has Mh (kN K0) rfl bI aP)) (V (wD rfl rfl (oX fI) (tE (rD _ a.kz K0))) (Wm (LJ K (λd3 E W=>∃c7,ST true lD w W (hp w) c7∧E 34=(.bool d3)) 4 ?_ (λd3 M a5=>?_)))))))
  ·rintro g1 E W ⟨c7,d,f1⟩ e3
   refine Wg f1 (lt (nU (lV ?_)))
   obtain rfl:=sj e3
   exact rP d
  refine bC M (λx M=>?_) (λx M=>?_)
  ·refine ug x (kJ uA Q) (ug x (kF rfl (kV d.has (Mt Mh) rfl bX)) (ug x (lE rfl rfl rfl) (V (lb (cB x) rfl) ?_)))
   obtain rfl:=sj M
   exact a5 _ _ ⟨_,(d.kB (Db (Db St))),rfl⟩
  refine un x (un x (un x (V (lf (cB x) rfl) ?_)))
  obtain rfl:=sj M
  exact a5 _ _ ⟨_,(d.kB (Db (Db St))),rfl⟩
 refine mM (lI (kP (sg (V (kJ qt Q) (VB d (Mt Mh) rfl rfl bX (Wi rfl (Wm (LJ K (λb6 E W=>∃c8,ST true lD w W (hp w) ((N,Obj.cells a0 30 (0,0))::c8)∧E 1=n∧E 43=(.bool b6)) 5 ?_ (λb6 D p=>?_)))))))))
 ·rintro g2 E W ⟨c8,d,a2,d4⟩ e4
  refine Wh d4 (LJ e4 (λP E W=>∃s,ST true lD w W (hp w) ((N,Obj.cells a0 30 (0,0))::s)∧E 1=n∧E 48=(.bool P)) 4 ?_ (λP B Z=>?_))
  ·rintro f2 E W ⟨s,d,T,d5⟩ c0
   refine Wh d5 (LJ c0 (λO E W=>∃a9,ST true lD w W (hp w) ((N,Obj.cells a0 30 (0,0))::a9)∧E 1=n∧E 56=(.bool O)) 7 ?_ (λO z Y=>?_))
   ·rintro f3 E W ⟨a9,d,d6,d7⟩ c1
    refine Wh d7 (LJ c1 (λL E W=>∃A,ST true lD w W (hp w) A∧E 62=(.bool L)) 5 ?_ (λL y U=>?_))
    ·rintro f4 E W ⟨A,d,d8⟩ c3
     exact Wg d8 (lt (rQ c3 d))
    refine bC y (λg y=>?_) (λg y=>?_)
    ·refine ug g (kJ pS d6) (ug g (kF rfl (kV d.has Mh rfl eZ)) (ug g (mx aH rfl t) (ug g (lE rfl rfl rfl) (V (lb (cB g) rfl) ?_))))
     obtain rfl:=sj y
     exact U _ _ ⟨_,(d.kB (Db St)),rfl⟩
    refine un g (un g (un g (un g (V (lf (cB g) rfl) ?_))))
    obtain rfl:=sj y
    exact U _ _ ⟨_,(d.kB (Db St)),rfl⟩
   refine bC z (λc z=>?_) (λc z=>?_)
   ·refine ug c (kJ uA T) (ug c (kF rfl (kV d.has Mh rfl bX)) (ug c (kJ pS T) (ug c (kF rfl (kV d.has Mh rfl eZ)) (ug c (mx aH rfl t) (ug c (lE rfl rfl rfl) (V (lb (cB c) rfl) ?_))))))
    obtain rfl:=sj z
    exact Y _ _ ⟨_,(d.kB St),T,rfl⟩
   refine un c (un c (un c (un c (un c (un c (V (lf (cB c) rfl) ?_))))))
   obtain rfl:=sj z
   exact Y _ _ ⟨_,(d.kB St),T,rfl⟩
  refine bC B (λi B=>?_) (λi B=>?_)
  ·refine ug i (kJ uA a2) (ug i (kF rfl (kV d.has Mh rfl bX)) (ug i (lE rfl rfl rfl) (V (lb (cB i) rfl) ?_)))
   obtain rfl:=sj B
   exact Z _ _ ⟨_,(d.kB St),a2,rfl⟩
  refine un i (un i (un i (V (lf (cB i) rfl) ?_)))
  obtain rfl:=sj B
  exact Z _ _ ⟨_,(d.kB St),a2,rfl⟩
 refine bC D (λk D=>?_) (λk D=>?_)
 ·refine ug k (kJ ux Q) (ug k (kF rfl (kL d.has (Mt Mh) (kN a.kz) rfl bI aP)) (ug k (kF d0 (kL d.has Mh (kN K0) rfl bI aP)) (ug k (wD rfl rfl (oX fI) (tE (rD _ a.kz K0))) (V (lb (cB k) rfl) ?_))))
  obtain rfl:=sj D
  exact p _ _ ⟨_,(d.kB (Db St)),Q,rfl⟩
 refine un k (un k (un k (un k (V (lf (cB k) rfl) ?_))))
 obtain rfl:=sj D
 exact p _ _ ⟨_,(d.kB (Db St)),Q,rfl⟩
theorem By (g:Value) (t:List Formula) (j:Value) (z:Formula→Option Bool) (r:Int) (w:World) (c:Sl kD 5 (hp w) g t) (B:ud pg0 j (hp w) (qn kD) (λ(r:Bool)=>(.bool r)) z) (hm:ur t z=some r) :
  la false pg0 324 [g,j] w (.int .i64 r):=by
 refine cG 19 func324 rfl (λd=>sg (Wa (lS (Wm (V (mx aH rfl c) (Wm (ln (mj (λi E W=>∃k,(E 8= .int .i64 (i:Nat)∧E 7= .int .i64 (t.length:Nat))∧ST false lD w W (hp w) k∧E 0=g∧E 1=j∧oY z (t.drop i) i=some r) t.length c.len ⟨_,⟨rfl,rfl⟩,(d.kB St),rfl,rfl,hm⟩ dc dc dc (λ_ _ _ h=>by obtain ⟨_,p,_⟩:=h; exact p) ?_ ?_))))))))
 ·rintro Q E W G ⟨k,⟨n,q⟩,d,u,x,a⟩
  obtain ⟨y,U,M,K,N⟩:=lX G
  rw [M] at a
  refine bg (Wh n (Wa (lr (Wh x (Wh u (Wm (VQ (mo (i:=(Q:Int)) (x0:=y) kD.out aH aG rfl rfl c (aM _) K) (λZ ⟨_,⟨T,rfl,J⟩,H⟩=>V (kF rfl (lx d.has H aZ aG)) (bS a λs I a=>?_)))))))))
  refine VE (pY y d B (lz.refl _) (qn.mk kT (kD.mk ⟨T,rfl,J⟩) d.kG) rfl (pk rfl) I (λY d=>ln (CI a rfl (λD a=>?_) (λD a=>?_))))
  ·refine sg (Wm (Wa (lt (nU (lV (nU (lV ?_)))))))
   obtain rfl:=sj a
   exact rP d
  exact mM (lI (kP ⟨n,_,⟨rfl,q⟩,(d.kB St),u,x,(by rw [N]; exact a)⟩))
 rintro E W ⟨k,⟨n,q⟩,d,u,x,a⟩
 rw [aO] at a
 exact kP (sg (Wa (lt (rQ a d))))
theorem vP (a:Value) (g:List Formula) (c:Value) (i:Formula→Option Bool) (r:Bool) (w:World) (j:Sl kD 5 (hp w) a g) (k:ud pg0 c (hp w) (qn kD) (λ(r:Bool)=>(.bool r)) i) (hm:pA g i=some r) :
  la false pg0 266 [a,c] w (.bool r):=by
 refine cG 9 func266 rfl (λd=>sg (Wa (lr (Wm (Wm (bS hm λx t hm=>VE (Eg d call324 (By a g c i _ _ (j.mono kT.mono d.kG) (k.mono d.kG) t) (λu d=>Wi rfl (Wa (lu ?_))))))))))
 exact kP (lB (rQ hm d))
theorem FJ (i:Formula→Option Bool) (t:∀(c:Formula) (a:Value) (r:Bool) (w:World) (g:Sl kD 5 (hp w) a c.Kids),i c=some r→la false pg0 202 [(.agg #[(.int .i64 c.Op),(.int .i64 c.K),(.string c.kz.kA),(.string c.kz.Word),a])] w (.bool r)) (c:Formula) (a:Value) (r:Bool) (w:World) (g:Sl kD 5 (hp w) a c.Kids) (hm:vC i c=some r) :
  la false pg0 267 [(.agg #[(.int .i64 c.Op),(.int .i64 c.K),(.string c.kz.kA),(.string c.kz.Word),a])] w (.bool r):=by
 refine cG 6 func267 rfl (λd=>sg ?_)
 obtain ⟨j,k,rfl⟩:=g.form
 refine VE (ly d rfl (λx z d=>Wa (lr (VA d Mh (C2 c.Op c.K c.kz.kA c.kz.Word j c.Kids.length k) aZ aG (bS hm λB u hm=>VE (Eg d call202 (t c (.slice j c.Kids.length k) _ _ (g.mono kT.mono d.kG) u) (λy d=>V (nv rfl) (Wa (ln ?_)))))))))
 exact lB (rQ hm d)
theorem ED (z:Formula→Option Bool) (T:∀(a:Formula) (g:Value) (r:Bool) (w:World) (c:Sl kD 5 (hp w) g a.Kids),z a=some r→la false pg0 202 [(.agg #[(.int .i64 a.Op),(.int .i64 a.K),(.string a.kz.kA),(.string a.kz.Word),g])] w (.bool r)) (a:Formula) (g:Value) (r:Bool) (w:World) (c:Sl kD 5 (hp w) g a.Kids) (hm:wF z a=some r) :
  la false pg0 202 [(.agg #[(.int .i64 a.Op),(.int .i64 a.K),(.string a.kz.kA),(.string a.kz.Word),g])] w (.bool r):=by
 refine cG 17 func202 rfl (λd=>sg ?_)
 obtain ⟨B,D,rfl⟩:=c.form
 let a0:=(C2 a.Op a.K a.kz.kA a.kz.Word B a.Kids.length D)
 refine VE (ly d rfl (λW4 U d=>Wa (lr (VA d Mh a0 aZ aG (bS hm λP a3 hm=>VE (Eg d call265 (la.mK (IP a (.slice B a.Kids.length D) _ _ (c.mono kT.mono d.kG) a3)) (λW7 d=>Wm (LJ hm (λK E W=>∃G,ST false lD w W (hp w) ((U,Ol a0 30)::G)∧E 1=(.pointer (some ⟨U,0,none⟩))∧E 2=(.bool false)∧E 10=(.bool K)) 5 ?_ (λK t y=>?_)))))))))
 ·rintro R E W ⟨G,d,Y,I,Z⟩ M
  refine Wh Z (LJ M (λJ E W=>∃H,ST false lD w W (hp w) H∧E 2=(.bool false)∧E 16=(.bool J)) 5 ?_ (λJ k u=>?_))
  ·rintro L E W ⟨H,d,v,n⟩ N
   exact Wg n (lt (rQ N d))
  refine bC k (λi k=>?_) (λi k=>?_)
  ·refine ug i (kJ pS Y) (ug i (kF rfl (kV d.has Mh rfl eZ)) (bS k λA Q k=>rU i (Eg d call266 (vP (.slice B a.Kids.length D) a.Kids (.func (.func 267) #[] #[]) (λ(x:Formula)=>vC z x) _ _ (c.mono kT.mono d.kG) ⟨267,#[],#[],rfl,call267,λW x vs r O p hm=>by obtain ⟨_,rfl,a2⟩:=p; obtain ⟨s,rfl,q⟩:=a2.out; exact FJ z T x s r W q hm⟩ Q) (λa5 d=>ug i (nv rfl) (V (lb (cB i) rfl) ?_)))))
   obtain rfl:=sj k
   exact u _ _ ⟨_,(d.kB (Db St)),I,rfl⟩
  refine un i (un i (un i (un i (V (lf (cB i) rfl) ?_))))
  obtain rfl:=sj k
  exact u _ _ ⟨_,(d.kB (Db St)),I,rfl⟩
 refine bC t (λj t=>?_) (λj t=>?_)
 ·refine ug j (kJ pS rfl) (ug j (kF rfl (kV d.has Mh rfl eZ)) (ug j (mx aH rfl c) (ug j (lE rfl rfl rfl) (V (lb (cB j) rfl) ?_))))
  obtain rfl:=sj t
  exact y _ _ ⟨_,(d.kB St),rfl,rfl,rfl⟩
 refine un j (un j (un j (un j (V (lf (cB j) rfl) ?_))))
 obtain rfl:=sj t
 exact y _ _ ⟨_,(d.kB St),rfl,rfl,rfl⟩
theorem Dg:∀(n:Nat) (c:Formula) (a:Value) (r:Bool) (w:World) (g:Sl kD 5 (hp w) a c.Kids) (_:sE n c=some r),
  la false pg0 202 [(.agg #[(.int .i64 c.Op),(.int .i64 c.K),(.string c.kz.kA),(.string c.kz.Word),a])] w (.bool r)
 | 0=>by intros; rename_i h; simp only [sE] at h; cases h
 | n+1=>ED (sE n) (Dg n)
theorem sv (a:Formula) (k:Value) (r:Bool) (w:World) (c:Sl kD 5 (hp w) k a.Kids) (hm:qb a=some r) :
  la false pg0 129 [(.agg #[(.int .i64 a.Op),(.int .i64 a.K),(.string a.kz.kA),(.string a.kz.Word),k])] w (.bool r):=by
 refine cG 24 func129 rfl (λd=>sg ?_)
 obtain ⟨y,z,rfl⟩:=c.form
 let a0:=(C2 a.Op a.K a.kz.kA a.kz.Word y a.Kids.length z)
 refine VE (ly d rfl (λW4 H d=>Wa (lr (VA d Mh a0 aZ aG (bS hm λv a9 hm=>VE (Eg d call201 (IX a (.slice y a.Kids.length z) _ _ (c.mono kT.mono d.kG) a9) (λW7 d=>Wm (Wx rfl (Wx rfl (Wa (Wa (lu ?_))))))))))))
 refine kP (sg (Wm (Wi rfl (Wm (LJ hm (λY E W=>∃I,ST false lD w W (hp w) ((H,Ol a0 30)::I)∧E 1=(.pointer (some ⟨H,0,none⟩))∧E 2=(.bool false)∧E 4=(.int .i64 v.2)∧E 15=(.bool Y)) 3 ?_ (λY x G=>?_))))))
 ·rintro x9 E W ⟨I,d,M,N,a4,a5⟩ Z
  refine Wh a5 (LJ Z (λU E W=>∃J,ST false lD w W (hp w) ((H,Ol a0 30)::J)∧E 1=(.pointer (some ⟨H,0,none⟩))∧E 2=(.bool false)∧E 19=(.bool U)) 3 ?_ (λU u D=>?_))
  ·rintro P E W ⟨J,d,p,Q,q⟩ n
   refine Wh q (LJ n (λT E W=>∃K,ST false lD w W (hp w) K∧E 2=(.bool false)∧E 23=(.bool T)) 3 ?_ (λT j B=>?_))
   ·rintro R E W ⟨K,d,L,s⟩ a2
    exact Wg s (lt (rQ a2 d))
   refine bC j (λi j=>?_) (λi j=>?_)
   ·refine ug i (kF p (kL d.has Mh a0 rfl aZ aG)) (bS j λO a3 j=>rU i (Eg d call202 ((Dg li) a (.slice y a.Kids.length z) _ _ (c.mono kT.mono d.kG) a3) (λA d=>V (lb (cB i) rfl) ?_)))
    obtain rfl:=sj j
    exact B _ _ ⟨_,(d.kB (Db St)),Q,rfl⟩
   refine un i (un i (V (lf (cB i) rfl) ?_))
   obtain rfl:=sj j
   exact B _ _ ⟨_,(d.kB (Db St)),Q,rfl⟩
  refine bC u (λg u=>?_) (λg u=>?_)
  ·refine ug g (kH a4) (ug g (lE rfl rfl rfl) (V (lb (cB g) rfl) ?_))
   obtain rfl:=sj u
   exact D _ _ ⟨_,(d.kB St),M,N,rfl⟩
  refine un g (un g (V (lf (cB g) rfl) ?_))
  obtain rfl:=sj u
  exact D _ _ ⟨_,(d.kB St),M,N,rfl⟩
 refine bC x (λt x=>?_) (λt x=>?_)
 ·refine ug t (kH rfl) (ug t (lE rfl rfl rfl) (V (lb (cB t) rfl) ?_))
  obtain rfl:=sj x
  exact G _ _ ⟨_,(d.kB St),rfl,rfl,rfl,rfl⟩
 refine un t (un t (V (lf (cB t) rfl) ?_))
 obtain rfl:=sj x
 exact G _ _ ⟨_,(d.kB St),rfl,rfl,rfl,rfl⟩
theorem rI (c:Int) (r:ByteArray) (w:World) (a:zf pg0 (hp w)) (hm:sC c=some r) :
  la true pg0 50 [(.int .i64 c)] w (.string r):=Od Sf rfl a hm
theorem Pd (a:Value) (g:List ByteArray) (i r:ByteArray) (w:World) (c:Sl (Pl EJ) 1 (hp w) a g) (hm:Gp g i=some r) :
  la false pg0 209 [a,(.string i)] w (.string r):=Nx RS Un rfl c hm
theorem GP (T:Formula→Option ByteArray) (c7:∀(j:Formula) (t:Value) (r:ByteArray) (w:World) (N:zf pg0 (hp w)) (k:Sl kD 5 (hp w) t j.Kids),T j=some r→la false pg0 137 [(.agg #[(.int .i64 j.Op),(.int .i64 j.K),(.string j.kz.kA),(.string j.kz.Word),t])] w (.string r)) (j:Formula) (t:Value) (r:ByteArray) (w:World) (N:zf pg0 (hp w)) (k:Sl kD 5 (hp w) t j.Kids) (hm:yu T j=some r) :
  la false pg0 137 [(.agg #[(.int .i64 j.Op),(.int .i64 j.K),(.string j.kz.kA),(.string j.kz.Word),t])] w (.string r):=by
 refine cG 41 func137 rfl (λd=>sg ?_)
 obtain ⟨A1,c2,rfl⟩:=k.form
 refine VE (ly d rfl (λW4 q d=>Wa (lr (Wa (ln (kQ (T3 hm (λU E W=>∃s,ST false lD w W (hp w) ((q,Ol (C2 j.Op j.K j.kz.kA j.kz.Word A1 j.Kids.length c2) 30)::s)∧E 1=(.pointer (some ⟨q,0,none⟩))∧E 3=(.string U)) (λU c D=>?_) ?_)))))))
 ·refine sg (Wf qt (VB d Mh rfl rfl bX (ln (bg (Wi rfl (Wa (ln (CI c rfl (λO c=>?_) (λO c=>?_)))))))))
  ·refine sg (Wf ux (VA d Mh (kN j.kz) bI aP (bS c λd0 a8 c=>VE (Eg d call79 (la.mK (vM j.kz _ _  a8)) (λe2 d=>Wa (ln ?_))))))
   replace d:=d.kB (Db St)
   refine lB (nU (lV ?_))
   obtain rfl:=sj c
   replace D:some d0=some r:=D
   obtain rfl:=sj D
   exact rP d
  refine sg (Wi rfl (Wa (ln (CI c rfl (λa2 c=>?_) (λa2 c=>?_)))))
  ·refine kR (Wa (lu (lI (kP ?_))))
   obtain rfl:=sj c
   exact ⟨_,rfl,_,(d.kB St),rfl,rfl⟩
  refine sg (Wi rfl (Wa (ln (CI c rfl (λa3 c=>?_) (λa3 c=>?_)))))
  ·refine kR (Wa (lu (lI (kP ?_))))
   obtain rfl:=sj c
   exact ⟨_,rfl,_,(d.kB St),rfl,rfl⟩
  refine kR (Wf uA (VB d Mh rfl rfl bX (bS c λe7 a9 c=>VE (Eg d iP (la.mK (rI j.K _ _ (N.mono d.kG) a9)) (λe3 d=>bS c λf1 b4 c=>V (lU rfl rfl b4) (Wa (lu (lI (kP ?_)))))))))
  obtain rfl:=sj c
  exact ⟨_,rfl,_,(d.kB St),rfl,rfl⟩
 rintro A E W ⟨s,d,d3,d4⟩ c6
 refine sg (Wa (lS (V (kJ pS d3) (VB d Mh rfl rfl eZ (V (mx aH rfl k) (Wm (ln ?_)))))))
 replace d:=d.kB (Db St)
 refine mj (λi E W=>∃u y x I,(E 25= .int .i64 (i:Nat)∧E 24= .int .i64 (j.Kids.length:Nat))∧ST false lD w W (hp w) (x++I)∧E 3=(.string A)∧E 4=u∧E 23=(.slice A1 j.Kids.length c2)∧lm 9 EJ 1 u y x∧sF T A (j.Kids.drop i) y=some r) j.Kids.length k.len ⟨(.slice none 0 0),([]),[],_,⟨rfl,rfl⟩,(d.kB St),d4,rfl,rfl,(lm.nil _ _ _),c6⟩ dc dc dc (λ_ _ _ h=>by obtain ⟨_,_,_,_,p,_⟩:=h; exact p) ?_ ?_
 ·rintro c8 E W a4 ⟨u,y,x,I,⟨n,L⟩,d,J,K,M,G,a⟩
  obtain ⟨g,d5,b6,b5,b7⟩:=lX a4
  rw [b6] at a
  refine bg (VQ (mo (i:=(c8:Int)) (x0:=g) kD.out aH aG M n k (aM _) b5) (λe5 ⟨_,⟨f2,rfl,Q⟩,a5⟩=>V (kF rfl (lx d.has a5 aZ aG)) (VE (lT d bG (λd6 e4 d=>?_)))))
  obtain ⟨z,B,rfl⟩:=Q.form
  let a0:=(C2 g.Op g.K g.kz.kA g.kz.Word z g.Kids.length B)
  refine VO (lp (.agg a0.toArray) (a0.toArray) d rfl rfl aG oc nb rfl (λd7 d=>ln (kR (Wh K (VA d Mh a0 aZ aG (bS a λH P a=>VE (Eg d call137 (c7 g (.slice z g.Kids.length B) _ _ (N.mono d.kG) (Q.mono kT.mono d.kG) P) (λd8 d=>VE (lJ (cs:=[(.string H)].toArray) d (nL rfl) (oa underlying152 fY zeroValue9) (λd9 c4 d=>?_))))))))))
  replace d:=d.perm (Nr (Qb (Qb Qz)) Nz)
  refine bS a λc9 Z a=>VE (pK (enc:=EJ) (v:=u) (vs:=(.slice (some ⟨c4,0,none⟩) 1 1)) (R:=x) d (λ_=>rfl) dc P8 underlying152 IC.1 IC.2.1 rfl IC.2.2.1 IC.2.2.2 rfl rfl G (Sl.lit (enc:=EJ) (l:=[H]) (λ_=>rfl) rfl nb rfl (d.at_ (Ma Mh))) Z (λe0 d1 c3 d Y=>Wa (lu (lI (kP ?_)))))
  replace d:=d.kB (Kr (Db (Db St)))
  exact ⟨n,d1,c9,c3,_,⟨rfl,L⟩,(d.kB St),J,rfl,M,Y,(by rw [b7]; exact a)⟩
 rintro E W ⟨u,y,x,I,⟨n,L⟩,d,J,K,M,G,a⟩
 rw [aO] at a
 refine kP (sg (Wh J (bS a λe8 b0 a=>V (lU rfl rfl b0) (Wh K (bS a λe6 a7 a=>VE (Eg d call209 (Pd u y (⟨#[44,32]⟩:ByteArray) _ _ (G.sl (λ_=>rfl) (λb o hq=>d.at_ (Ml hq))) a7) (λe1 d=>bS a λe9 b1 a=>V (lU rfl rfl b1) (bS a λf0 b2 a=>V (lU rfl rfl b2) (Wa (lu ?_))))))))))
 refine kP ?_
 exact lB (rQ a d)
theorem FF:∀(n:Nat) (c:Formula) (a:Value) (r:ByteArray) (w:World) (i:zf pg0 (hp w)) (g:Sl kD 5 (hp w) a c.Kids) (_:pN n c=some r),
  la false pg0 137 [(.agg #[(.int .i64 c.Op),(.int .i64 c.K),(.string c.kz.kA),(.string c.kz.Word),a])] w (.string r)
 | 0=>by intros; rename_i h; simp only [pN] at h; cases h
 | n+1=>GP (pN n) (FF n)
theorem Lm (a:Formula) (g:Value) (r:ByteArray) (w:World) (t:zf pg0 (hp w)) (c:Sl kD 5 (hp w) g a.Kids) (hm:zI a=some r) :
  la false pg0 62 [(.agg #[(.int .i64 a.Op),(.int .i64 a.K),(.string a.kz.kA),(.string a.kz.Word),g])] w (.string r):=by
 refine cG 8 func62 rfl (λd=>sg ?_)
 obtain ⟨i,j,rfl⟩:=c.form
 let I:=(C2 a.Op a.K a.kz.kA a.kz.Word i a.Kids.length j)
 refine VE (ly d rfl (λz D d=>Wa (lS (VA d Mh I aZ aG (bS hm λG x hm=>VE (Eg d kw (sv a (.slice i a.Kids.length j) _ _ (c.mono kT.mono d.kG) x) (λB d=>V (nv rfl) (ln (CI hm rfl (λu hm=>?_) (λu hm=>?_))))))))))
 ·refine sg (Wa (ln ?_))
  replace d:=d.kB (Db St)
  refine lB (lV ?_)
  obtain rfl:=sj hm
  exact rP d
 refine kg (VA d Mh I aZ aG (bS hm λH k hm=>VE (Eg d call137 ((FF li) a (.slice i a.Kids.length j) _ _ (t.mono d.kG) (c.mono kT.mono d.kG) k) (λy d=>Wa (ln ?_)))))
 exact lB (rQ hm d)
theorem CH (a:nA) (k t c j g G:Value) (r:List mI) (w:World) (D:zf pg0 (hp w)) (z:Sl kX 15 (hp w) k a.kA.kM) (B:Sl ls 8 (hp w) t a.kA.kU) (u:Sl kX 15 (hp w) c a.Client.kM) (y:Sl ls 8 (hp w) j a.Client.kU) (x:Sl kD 5 (hp w) g a.Formula.Kids) (N:Sl oF 2 (hp w) G a.Keys) (hm:uS a=some r) :
  oU true pg0 63 [(.agg #[(.string a.kA.Name),k,t,(.string a.Client.Name),c,j,(.int .i64 a.Formula.Op),(.int .i64 a.Formula.K),(.string a.Formula.kz.kA),(.string a.Formula.kz.Word),g,(.int .i64 a.oA),(.int .i64 a.lA.oH),(.int .i64 a.lA.ow),(.int .i64 a.my),(.int .i64 a.nz),(.int .i64 a.mW),G])] w 116 nT 2 r:=by
 refine Az 38 func63 rfl (λn=>sg ?_)
 obtain ⟨A1,c2,rfl⟩:=z.form
 obtain ⟨A3,c4,rfl⟩:=B.form
 obtain ⟨A5,c6,rfl⟩:=u.form
 obtain ⟨A7,c8,rfl⟩:=y.form
 obtain ⟨A9,E,rfl⟩:=x.form
 obtain ⟨a5,L,rfl⟩:=N.form
 refine VE (ly n rfl (λO d0 n=>Wa (lr (Wa (ln (kQ ?_))))))
 replace n:=n.drew
 have d:=n.has.kB (Kb Sn)
 refine lC d lj (X 0 rfl d (kH rfl) (X 1 rfl d (kJ H9 rfl) (XH 2 rfl d (λ_ q=>kF rfl (kV q Mh rfl bX)) (X 5 rfl d (kH rfl) (X 6 rfl d (kJ D9 rfl) (X 7 rfl d (yg (i:=0) jh gS rfl rfl dc dc) (XH 8 rfl d (λ_ q=>kF rfl (kV q Mh rfl bX)) (X 11 rfl d (kH rfl) (X 12 rfl d (kJ D9 rfl) (X 13 rfl d (yg (i:=1) jh gS rfl rfl dc dc) (XH 14 rfl d (λ_ q=>kF rfl (kV q Mh rfl bX)) (X 18 rfl d (kH rfl) (X 19 rfl d (kJ H0 rfl) (XH 20 rfl d (λ_ q=>kF rfl (kV q Mh rfl bX)) ?_))))))))))))))
 refine X 23 rfl d (kH rfl) (X 24 rfl d (kJ HW rfl) (XH 25 rfl d (λ_ q=>kF rfl (kV q Mh rfl bX)) (X 28 rfl d (kH rfl) (X 29 rfl d (kJ Ic rfl) (XH 30 rfl d (λ_ q=>kF rfl (kV q Mh rfl bX)) (bS hm λH T hm=>XE 3 rfl (Eg n iP (rI a.oA _ _ (D.mono n.kG) T) (λP n=>?_))))))))
 have d:=n.has.kB (Kb Sn)
 refine ⟨d,(X 4 rfl d (nB (v:=(.agg (nT (⟨QT,H⟩:mI)).toArray)) (uB rfl rfl) (zT iA gJ fY kr)) (bS hm λd1 U hm=>XE 9 rfl (Eg n iP (rI a.lA.oH _ _ (D.mono n.kG) U) (λR n=>?_))))⟩
 have d:=n.has.kB (Kb Sn)
 refine ⟨d,(bS hm λd3 a3 hm=>X 10 rfl d (lU rfl rfl a3) (bS hm λd2 Y hm=>XE 15 rfl (Eg n iP (rI a.lA.ow _ _ (D.mono n.kG) Y) (λc1 n=>?_))))⟩
 have d:=n.has.kB (Kb Sn)
 refine ⟨d,(bS hm λM a4 hm=>X 16 rfl d (lU rfl rfl a4) (X 17 rfl d (nB (v:=(.agg (nT (⟨QW,M⟩:mI)).toArray)) (uB rfl rfl) (zT iA gJ fY kr)) (bS hm λI Z hm=>XE 21 rfl (Eg n iP (rI a.my _ _ (D.mono n.kG) Z) (λW n=>?_)))))⟩
 have d:=n.has.kB (Kb Sn)
 refine ⟨d,(X 22 rfl d (nB (v:=(.agg (nT (⟨QS,I⟩:mI)).toArray)) (uB rfl rfl) (zT iA gJ fY kr)) (bS hm λJ A hm=>XE 26 rfl (Eg n iP (rI a.nz _ _ (D.mono n.kG) A) (λc5 n=>?_))))⟩
 have d:=n.has.kB (Kb Sn)
 refine ⟨d,(X 27 rfl d (nB (v:=(.agg (nT (⟨Q8,J⟩:mI)).toArray)) (uB rfl rfl) (zT iA gJ fY kr)) (bS hm λK a2 hm=>XE 31 rfl (Eg n iP (rI a.mW _ _ (D.mono n.kG) a2) (λc7 n=>?_))))⟩
 have d:=n.has.kB (Kb Sn)
 refine ⟨d,(X 32 rfl d (nB (v:=(.agg (nT (⟨QL,K⟩:mI)).toArray)) (uB rfl rfl) (zT iA gJ fY kr)) (XE 33 rfl (lJ (cs:=#[(.string QT),(.string H),(.string QW),(.string M),(.string QS),(.string I),(.string Q8),(.string J),(.string QL),(.string K)]) n (SK rfl rfl rfl rfl rfl) (oa jJ jk iA) (λc9 Q n=>?_))))⟩
 have d:=n.has.kB (Db (Kb Sn))
 refine ⟨d,(X 34 rfl d (mU rfl) (lH kr (kP ?_)))⟩
 replace n:=n.kB (Kb (Db St))
 refine lB ?_
 obtain rfl:=sj hm
 exact nq (v:=(.slice (some ⟨Q,0,none⟩) 5 5)) rfl rfl ⟨_,[(Q,Ob #[(.string QT),(.string H),(.string QW),(.string M),(.string QS),(.string I),(.string Q8),(.string J),(.string QL),(.string K)] 116)],rfl,n.sI (λp s=>by rw [bH] at s; subst s; exact Mh) (by simp),(lm.lit (l:=[(⟨QT,H⟩:mI),(⟨QW,M⟩:mI),(⟨QS,I⟩:mI),(⟨Q8,J⟩:mI),(⟨QL,K⟩:mI)]) (enc:=nT) rfl dc rfl rfl)⟩
theorem vq (G:Value) (N:List Key) (H:Value) (p:List Key) (I:Value) (f2:(Key×Key)→Option Bool) (r:Bool) (w:World) (x:Sl oF 2 (hp w) G N) (Q:Sl oF 2 (hp w) H p) (v:ud pg0 I (hp w) (uu oF oF) (λ(r:Bool)=>(.bool r)) f2) (hm:oE N p f2=some r) :
  la false pg0 64 [G,H,I] w (.bool r):=by
 refine cG 32 func64 rfl (λd=>sg (Wa (lS (Wm (V (mx eF rfl x) (Wm (V (mx eF rfl Q) (Wi rfl (lu ?_)))))))))
 refine kP (CI hm rfl (λL hm=>?_) (λL hm=>?_))
 ·refine sg (Wa (lt (lV ?_)))
  obtain rfl:=sj hm
  exact rP d
 refine kS (Wm (V (mx eF rfl x) (Wm (ln (mj (λi E W=>∃y,(E 17= .int .i64 (i:Nat)∧E 16= .int .i64 (N.length:Nat))∧ST false lD w W (hp w) y∧E 1=H∧E 2=I∧E 15=G∧mV p f2 (N.drop i) i=some r) N.length x.len ⟨_,⟨rfl,rfl⟩,(d.kB St),rfl,rfl,rfl,hm⟩ dc dc dc (λ_ _ _ h=>by obtain ⟨_,q,_⟩:=h; exact q) ?_ ?_)))))
 ·rintro a4 E W U ⟨y,⟨n,s⟩,d,z,B,D,a⟩
  obtain ⟨g,c5,a9,A,a3⟩:=lX U
  rw [a9] at a
  refine bg (Wh n (VQ (mo (i:=(a4:Int)) (x0:=g) oF.out eF fT D n x (aM _) A) (λb9 ⟨_,⟨c2,rfl,J⟩,Y⟩=>V (kF rfl (lx d.has Y isAgg119 fT)) (VE (lT d zeroValue119 (λO b6 d=>Wa ?_))))))
  obtain ⟨j,t,rfl⟩:=J.form
  let a0:Value:=(.slice j g.Key.length t)
  refine VO (lp (.agg #[(.string g.mC),a0]) (#[(.string g.mC),a0]) d rfl rfl fT oc nb rfl (λP d=>lr (Wh z (Wm (bS a λc M a=>VQ (mo (i:=(a4:Int)) (x0:=c) oF.out eF fT rfl rfl Q (kZ M) (kY M)) (λc0 ⟨_,⟨c3,rfl,K⟩,Z⟩=>V (kF rfl (lx d.has Z isAgg119 fT)) (VE (lT d zeroValue119 (λR b7 d=>?_)))))))))
  obtain ⟨k,u,rfl⟩:=K.form
  let a5:Value:=(.slice k c.Key.length u)
  refine VO (lp (.agg #[(.string c.mC),a5]) (#[(.string c.mC),a5]) d rfl rfl fT oc nb rfl (λb4 d=>lr (Wh B (VA d (Mt Mh) [(.string g.mC),a0] isAgg119 fT (VA d Mh [(.string c.mC),a5] isAgg119 fT (bS a λc1 a2 a=>VE (pY (g,c) d v (lz.refl _) (uu.mk xi xi (oF.mk ⟨a0,rfl,J⟩) (oF.mk ⟨a5,rfl,K⟩) d.kG) rfl (qJ rfl rfl) a2 (λb5 d=>V (nv rfl) (ln ?_)))))))))
  replace d:=d.kB (Db (Db St))
  refine CI a rfl (λT a=>?_) (λT a=>?_)
  ·refine sg (Wa (lt (nU (lV (nU (lV ?_))))))
   obtain rfl:=sj a
   exact rP d
  exact mM (lI (kP ⟨n,_,⟨rfl,s⟩,(d.kB St),z,B,D,(by rw [a3]; exact a)⟩))
 rintro E W ⟨y,⟨n,s⟩,d,z,B,D,a⟩
 rw [aO] at a
 exact kP (sg (Wa (lt (rQ a d))))
theorem HB (t:Key) (j:Value) (u:Key) (k:Value) (r:Bool) (w:World) (g:Sl (Pl (lP .u8)) 1 (hp w) j t.Key) (i:Sl (Pl (lP .u8)) 1 (hp w) k u.Key) (hm:rN t u=some r) :
  la true pg0 65 [(.agg #[(.string t.mC),j]),(.agg #[(.string u.mC),k])] w (.bool r):=by
 refine cG 17 func65 rfl (λd=>sg ?_)
 obtain ⟨G,I,rfl⟩:=g.form
 refine VE (ly d rfl (λU Z d=>?_))
 obtain ⟨H,J,rfl⟩:=i.form
 refine VE (ly d rfl (λY n d=>Wa (lr (Wf Eu (VB d (Mt Mh) rfl rfl bT (Wf Eu (VB d Mh rfl rfl bT (V (qe rfl rfl rfl) (Wm (LJ hm (λz E W=>∃y,ST true lD w W (hp w) y∧E 4=(.bool false)∧E 16=(.bool z)) 6 ?_ (λz c x=>?_)))))))))))
 ·rintro T E W ⟨y,d,N,K⟩ B
  exact Wg K (lt (rQ B d))
 refine bC c (λa c=>?_) (λa c=>?_)
 ·refine ug a (kJ El rfl) (ug a (kF rfl (kV d.has (Mt Mh) rfl gI)) (ug a (kJ El rfl) (ug a (kF rfl (kV d.has Mh rfl gI)) (bS c λQ D c=>rU a (Eg d call72 (Fe (.slice G t.Key.length I) t.Key (.slice H u.Key.length J) u.Key _ _ (g.mono (Pl.mono _) d.kG) (i.mono (Pl.mono _) d.kG) D) (λM d=>V (lb (cB a) rfl) ?_))))))
  obtain rfl:=sj c
  exact x _ _ ⟨_,(d.kB (Db (Db St))),rfl,rfl⟩
 refine un a (un a (un a (un a (un a (V (lf (cB a) rfl) ?_)))))
 obtain rfl:=sj c
 exact x _ _ ⟨_,(d.kB (Db (Db St))),rfl,rfl⟩
set_option maxHeartbeats 4000000 in
theorem Fi (c:nA) (Y a4 M U N b0:Value) (a:nA) (a2 a5 Q Z T b1:Value) (r:ByteArray) (w:World) (d9:zf pg0 (hp w)) (D:Sl kX 15 (hp w) Y c.kA.kM) (I:Sl ls 8 (hp w) a4 c.kA.kU) (u:Sl kX 15 (hp w) M c.Client.kM) (B:Sl ls 8 (hp w) U c.Client.kU) (y:Sl kD 5 (hp w) N c.Formula.Kids) (a6:Sl oF 2 (hp w) b0 c.Keys) (H:Sl kX 15 (hp w) a2 a.kA.kM) (J:Sl ls 8 (hp w) a5 a.kA.kU) (z:Sl kX 15 (hp w) Q a.Client.kM) (G:Sl ls 8 (hp w) Z a.Client.kU) (j:Sl kD 5 (hp w) T a.Formula.Kids) (a3:Sl oF 2 (hp w) b1 a.Keys) (hm:wS c a=some r) :
  la false pg0 25 [(.agg #[(.string c.kA.Name),Y,a4,(.string c.Client.Name),M,U,(.int .i64 c.Formula.Op),(.int .i64 c.Formula.K),(.string c.Formula.kz.kA),(.string c.Formula.kz.Word),N,(.int .i64 c.oA),(.int .i64 c.lA.oH),(.int .i64 c.lA.ow),(.int .i64 c.my),(.int .i64 c.nz),(.int .i64 c.mW),b0]),(.agg #[(.string a.kA.Name),a2,a5,(.string a.Client.Name),Q,Z,(.int .i64 a.Formula.Op),(.int .i64 a.Formula.K),(.string a.Formula.kz.kA),(.string a.Formula.kz.Word),T,(.int .i64 a.oA),(.int .i64 a.lA.oH),(.int .i64 a.lA.ow),(.int .i64 a.my),(.int .i64 a.nz),(.int .i64 a.mW),b1])] w (.string r):=by
 refine cG 74 func25 rfl (λd=>sg ?_)
 obtain ⟨A1,c2,rfl⟩:=D.form
 obtain ⟨A3,c4,rfl⟩:=I.form
 obtain ⟨A5,c6,rfl⟩:=u.form
 obtain ⟨A7,c8,rfl⟩:=B.form
 obtain ⟨A9,b6,rfl⟩:=y.form
 obtain ⟨d0,d2,rfl⟩:=a6.form
 let a1:=(C1 c.kA.Name A1 c.kA.kM.length c2 A3 c.kA.kU.length c4 c.Client.Name A5 c.Client.kM.length c6 A7 c.Client.kU.length c8 c.Formula.Op c.Formula.K c.Formula.kz.kA c.Formula.kz.Word A9 c.Formula.Kids.length b6 c.oA c.lA.oH c.lA.ow c.my c.nz c.mW d0 c.Keys.length d2)
 refine VE (ly d rfl (λn6 f1 d=>?_))
 obtain ⟨P,b7,rfl⟩:=H.form
 obtain ⟨R,b9,rfl⟩:=J.form
 obtain ⟨b4,c0,rfl⟩:=z.form
 obtain ⟨b5,c1,rfl⟩:=G.form
 obtain ⟨a7,a8,rfl⟩:=j.form
 let e1:Value:=(.slice a7 a.Formula.Kids.length a8)
 let b8:=(C2 a.Formula.Op a.Formula.K a.Formula.kz.kA a.Formula.kz.Word a7 a.Formula.Kids.length a8)
 obtain ⟨d1,d3,rfl⟩:=a3.form
 let a0:=(C1 a.kA.Name P a.kA.kM.length b7 R a.kA.kU.length b9 a.Client.Name b4 a.Client.kM.length c0 b5 a.Client.kU.length c1 a.Formula.Op a.Formula.K a.Formula.kz.kA a.Formula.kz.Word a7 a.Formula.Kids.length a8 a.oA a.lA.oH a.lA.ow a.my a.nz a.mW d1 a.Keys.length d3)
 refine VE (ly d rfl (λn7 f2 d=>Wa (ln (kQ ?_))))
 replace d:=d.drew
 have n:=d.has.kB (Kb (Kb Sn))
 refine lC n lj (X 0 rfl n (kJ uX rfl) (XH 1 rfl n (λ_ q=>kF rfl (kL q (Mt Mh) (C4 c.kA.Name A1 c.kA.kM.length c2 A3 c.kA.kU.length c4) rfl dJ cV)) (X 2 rfl n (kJ uX rfl) (XH 3 rfl n (λ_ q=>kF rfl (kL q Mh (C4 a.kA.Name P a.kA.kM.length b7 R a.kA.kU.length b9) rfl dJ cV)) (X 5 rfl n (kJ sW rfl) (XH 6 rfl n (λ_ q=>kF rfl (kL q (Mt Mh) (C4 c.Client.Name A5 c.Client.kM.length c6 A7 c.Client.kU.length c8) rfl dJ cV)) (X 7 rfl n (kJ sW rfl) (XH 8 rfl n (λ_ q=>kF rfl (kL q Mh (C4 a.Client.Name b4 a.Client.kM.length c0 b5 a.Client.kU.length c1) rfl dJ cV)) (bS hm λo2 j4 hm=>XE 4 rfl (Eg d call60 (E9 (⟨#[111,119,110,101,114]⟩:ByteArray) c.kA (.slice A1 c.kA.kM.length c2) (.slice A3 c.kA.kU.length c4) a.kA (.slice P a.kA.kM.length b7) (.slice R a.kA.kU.length b9) _ _ (D.mono lg.mono d.kG) (I.mono mf.mono d.kG) (H.mono lg.mono d.kG) (J.mono mf.mono d.kG) j4) (λn8 d=>?_)))))))))))
 have n:=d.has.kB (Kb (Kb Sn))
 refine ⟨n,(bS hm λo3 j5 hm=>XE 9 rfl (Eg d call60 (E9 (⟨#[99,108,105,101,110,116]⟩:ByteArray) c.Client (.slice A5 c.Client.kM.length c6) (.slice A7 c.Client.kU.length c8) a.Client (.slice b4 a.Client.kM.length c0) (.slice b5 a.Client.kU.length c1) _ _ (u.mono lg.mono d.kG) (B.mono mf.mono d.kG) (z.mono lg.mono d.kG) (G.mono mf.mono d.kG) j5) (λn9 d=>?_)))⟩
 have n:=d.has.kB (Kb (Kb Sn))
 refine ⟨n,(bS hm λo4 j8 hm=>X 10 rfl n (lU rfl rfl j8) (X 11 rfl n (mU rfl) (lH kr (kP (kQ (CJ hm (λg0 E W=>∃i6,ST false lD w W (hp w) ((f2,Ol a0 34)::((f1,Ol a1 34)::i6))∧E 2=(.pointer (some ⟨f1,0,none⟩))∧E 3=(.pointer (some ⟨f2,0,none⟩))∧E 5=(.string g0)) (λg0 t=>?_) ?_))))))⟩
 ·refine sg (Wf Ad (VA d (Mt Mh) (C2 c.Formula.Op c.Formula.K c.Formula.kz.kA c.Formula.kz.Word A9 c.Formula.Kids.length b6) aZ aG (Wf Ad (VA d Mh b8 aZ aG (bS t λm2 h3 t=>VE (Eg d call61 ((wg li) c.Formula (.slice A9 c.Formula.Kids.length b6) a.Formula e1 _ _ (y.mono kT.mono d.kG) (j.mono kT.mono d.kG) h3) (λl5 d=>V (nv rfl) (ln (CI t rfl (λg4 t=>?_) (λg4 t=>?_))))))))))
  ·refine kR (Wm (Wf Ad (VA d Mh b8 aZ aG (bS t λm3 h4 t=>VE (Eg d call62 (Lm a.Formula e1 _ _ (d9.mono d.kG) (j.mono kT.mono d.kG) h4) (λl6 d=>bS t λn0 i2 t=>V (lU rfl rfl i2) (bS t λn1 i3 t=>V (lU rfl rfl i3) (bS t λn2 i4 t=>V (lU rfl rfl i4) (Wa (ln ?_))))))))))
   obtain rfl:=sj t
   exact ⟨_,(d.kB St),rfl,rfl,rfl⟩
  refine kn ?_
  obtain rfl:=sj t
  exact ⟨_,(d.kB St),rfl,rfl,rfl⟩
 rintro k9 E W ⟨i6,d,i7,i8,k3⟩ A
 refine sg (V (kF i7 (kL d.has (Mt Mh) a1 rfl fD dQ)) (bS A λk6 j6 A=>VE (As d call63 (oU.mK (CH c (.slice A1 c.kA.kM.length c2) (.slice A3 c.kA.kU.length c4) (.slice A5 c.Client.kM.length c6) (.slice A7 c.Client.kU.length c8) (.slice A9 c.Formula.Kids.length b6) (.slice d0 c.Keys.length d2) _ _ (d9.mono d.kG) (D.mono lg.mono d.kG) (I.mono mf.mono d.kG) (u.mono lg.mono d.kG) (B.mono mf.mono d.kG) (y.mono kT.mono d.kG) (a6.mono xi.mono d.kG) j6)) (λo0 k7 o5 k1 d K ab f6=>Wa (lS (V (kF i8 (kL d.has (Ma Mh) a0 rfl fD dQ)) (bS A λf8 j7 A=>VE (As d call63 (oU.mK (CH a (.slice P a.kA.kM.length b7) (.slice R a.kA.kU.length b9) (.slice b4 a.Client.kM.length c0) (.slice b5 a.Client.kU.length c1) e1 (.slice d1 a.Keys.length d3) _ _ (d9.mono (K.trans d.kG)) (H.mono lg.mono (K.trans d.kG)) (J.mono mf.mono (K.trans d.kG)) (z.mono lg.mono (K.trans d.kG)) (G.mono mf.mono (K.trans d.kG)) (j.mono kT.mono (K.trans d.kG)) (a3.mono xi.mono (K.trans d.kG)) j7)) (λo1 k8 i9 k2 d d8 ad d7=>V (qm jJ rfl d7) ?_)))))))))
 refine Wm (ln (mj (λi E W=>∃L e6,(E 38= .int .i64 (i:Nat)∧E 37= .int .i64 (f8.length:Nat))∧ST false lD w W i9 ((f2,Ol a0 34)::((f1,Ol a1 34)::(k2++(k1++e6))))∧E 2=(.pointer (some ⟨f1,0,none⟩))∧E 3=(.pointer (some ⟨f2,0,none⟩))∧E 5=(.string L)∧E 6=k7∧E 36=k8∧qi k6 c a (f8.drop i) i L=some r) f8.length d7.len ⟨k9,_,⟨rfl,rfl⟩,(d.kB (Sb (Pr (Pr Pz)) (Sb (Pr (Pr Pz)) St))),i7,i8,k3,rfl,rfl,A⟩ dc dc dc (λ_ _ _ h=>by obtain ⟨_,_,aa,_⟩:=h; exact aa) ?_ ?_))
 ·rintro f7 E W g7 ⟨L,e6,⟨O,eN⟩,d,d4,s,v,d5,d6,g⟩
  obtain ⟨a9,l0,i5,f3,f4⟩:=lX g7
  rw [i5] at g
  refine bg (Wh O (VQ (mh (i:=(f7:Int)) (x0:=a9) jJ jk d6 O d7 (aM _) f3) (λl8 g9=>V (kF rfl (nC d.has (λp hq=>(Mt (Mt (Ml hq)))) d7 Cv g9 f3 isAgg116 jk)) (VE (lT d iA (λl1 l7 d=>Wa (VO (lp (.agg (nT a9).toArray) ((nT a9).toArray) d rfl rfl jk (Hv a9) nb rfl (λl2 d=>ln (kQ ?_))))))))))
  replace d:=d.drew
  have n:=d.has.kB (Kb (Db (Db (Dr (Kr Sn)))))
  refine lC n lj (XH 0 rfl n (λ_ q=>kF rfl (kL q Mh (nT a9) rfl isAgg116 jk)) (X 1 rfl n (kH d5) (X 2 rfl n (kH rfl) (bS g λg1 e0 g=>XQ 3 rfl n (mh (i:=(f7:Int)) (x0:=g1) jJ jk rfl rfl f6 (kZ e0) (kY e0)) (λl9 h0=>XH 4 rfl n (λ_ q=>kF rfl (nC q (λp hq=>(Mt (Ml hq))) f6 Cv h0 (kY e0) isAgg116 jk)) (X 5 rfl n (E1 rfl rfl (oX eqGuardType116) (AK (GY _ a9 g1))) (lH kr (kP (CI g rfl (λg2 g=>?_) (λg2 g=>?_))))))))))
  ·refine kR (Wh v (V (yg (i:=0) gJ fY rfl rfl dc dc) (VB d Mh rfl rfl bT (bS g λm4 h5 g=>V (lU rfl rfl h5) (V (yg (i:=1) gJ fY rfl rfl dc dc) (VB d Mh rfl rfl bT (bS g λm5 h6 g=>V (lU rfl rfl h6) (bS g λm6 h7 g=>V (lU rfl rfl h7) (bS g λj9 h8 g=>V (lU rfl rfl h8) (Wa ?_))))))))))
   refine lu (lI (kP ?_))
   replace d:=d.kB (Db St)
   exact ⟨O,j9,_,⟨rfl,eN⟩,(d.kB St),d4,s,rfl,d5,d6,(by rw [f4]; exact g)⟩
  refine mM (lI (kP ?_))
  replace d:=d.kB (Db St)
  exact ⟨O,L,_,⟨rfl,eN⟩,(d.kB St),d4,s,v,d5,d6,(by rw [f4]; exact g)⟩
 rintro E W ⟨L,e6,⟨O,eN⟩,d,d4,s,v,d5,d6,g⟩
 rw [aO] at g
 refine kP ?_
 replace d:=d.kB (Kb (Kb (Dr (Dr St))))
 refine kQ (CJ g (λf9 E W=>∃f5,ST false lD w W i9 f5∧E 5=(.string f9)) (λf9 k=>?_) ?_)
 ·refine sg (V (kJ wY d4) (VB d (Mt Mh) rfl rfl iQ (V (kJ wY s) (VB d Mh rfl rfl iQ (bS k λm0 h1 k=>VE (Eg d call64 (vq (.slice d0 c.Keys.length d2) c.Keys (.slice d1 a.Keys.length d3) a.Keys (.func (.func 65) #[] #[]) (λ(x:(Key×Key))=>rN x.1 x.2) _ _ (a6.mono xi.mono ((K.trans d8).trans d.kG)) (a3.mono xi.mono ((K.trans d8).trans d.kG)) ⟨65,#[],#[],rfl,call65,λW x vs r hs hR hm=>by obtain ⟨_,_,rfl,k4,k5⟩:=hR; obtain ⟨u0,rfl,k0⟩:=k4.out; obtain ⟨t0,rfl,j0⟩:=k5.out; exact (HB x.1 u0 x.2 t0 r W k0 j0 hm).mK⟩ h1) (λl3 d=>V (nv rfl) (ln ?_))))))))
  replace d:=d.kB (Kb (Db St))
  refine CI k rfl (λg3 k=>?_) (λg3 k=>?_)
  ·refine kR (Wh v (V (kJ wY s) (VB d Mh rfl rfl iQ (V (mx eF rfl a3) (bS k λm1 h2 k=>VE (Eg d iP (la.mK (rI (a.Keys.length:Int) _ _ (d9.mono ((K.trans d8).trans d.kG)) h2)) (λl4 d=>bS k λm7 h9 k=>V (lU rfl rfl h9) (bS k λm8 i0 k=>V (lU rfl rfl i0) (bS k λm9 i1 k=>V (lU rfl rfl i1) (Wa (lu ?_)))))))))))
   refine kP ?_
   obtain rfl:=sj k
   exact ⟨_,(d.kB (Db St)),rfl⟩
  refine kn ?_
  obtain rfl:=sj k
  exact ⟨_,(d.kB (Db St)),v⟩
 rintro n5 E W ⟨f5,d,j3⟩ g8
 exact sg (Wh j3 (Wa (lt (rQ g8 d))))
end Go.Proofs.YtjjjihkifgdhgaaGreatDoor
