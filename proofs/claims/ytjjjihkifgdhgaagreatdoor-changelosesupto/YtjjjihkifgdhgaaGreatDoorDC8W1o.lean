/- a part of a proof of ChangeLoses -/
import Derived.Test.YtjjjihkifgdhgaaGreatDoorDC8Mo
import Derived.Test.YtjjjihkifgdhgaaGreatDoorProg
set_option linter.all false
namespace Go.Proofs.YtjjjihkifgdhgaaGreatDoor
open Go.IntKind renaming wrap → wi0
open Go.Proofs.Tryz renaming prog → pg0
open Go.RowKit
set_option maxRecDepth 10000
open Tryz
def aH:=@sizeOf30
def aN:=@underlying28
def bE:=@sizeOf52
def bF:=@sizeOf27
def bJ:=@underlying45
def bL:=@isAgg30
def bR:=@zeroValue30
def bZ:=@isAgg27
def cA:=@sizeOf193
def cC:=@sizeOf197
def cE:=@underlying122
def cH:=@underlying129
def cN:=@isAgg9
def cO:=@underlying9
def cP:=@underlying30
def cU:=@isAgg52
def cW:=@sizeOf132
def cY:=@sizeOf57
def dl:=@underlying271
def dm:=@underlying22
def dn:=@underlying3
def dp:=@underlying23
def dz:=@underlying53
def dC:=@sizeOf25
def dD:=@sizeOf34
def dJ:=@isAgg3
def dU:=@zeroValue52
def dW:=@isAgg25
def ej:=@isAgg34
def er:=@underlying27
def et:=@underlying52
def eA:=@zeroValue57
def eF:=@underlying34
def eG:=@isAgg132
def eH:=@sizeOf9
def eJ:=@isAgg57
def eP:=@underlying193
def eQ:=@underlying197
def fa:=@isAgg193
def fb:=@isAgg197
def fg:=@underlying246
def fh:=@underlying242
def fG:=@underlying116
def fJ:=@isAgg28
def fO:=@zeroValue27
def fQ:=@underlying25
def fR:=@zeroValue132
def fS:=@underlying32
def fT:=@underlying65
def fU:=@zeroValue247
def gf:=@underlying285
def gh:=@eqGuardType52
def gi:=@sizeOf119
def gj:=@underlying247
def gz:=@sizeOf3
def gA:=@underlying57
def gB:=@zeroValue193
def gC:=@isAgg53
def gD:=@zeroValue197
def gE:=@isAgg22
def gF:=@zeroValue116
def gL:=@underlying215
def gM:=@underlying213
def gN:=@underlying152
def iH:=@underlying226
def iL:=@underlying5
def iM:=@isAgg242
def iN:=@zeroValue34
def iZ:=@underlying55
def ja:=@underlying91
def jb:=@sizeOf116
def jl:=@sizeOf53
def jA:=@isAgg45
def jG:=@underlying224
def jH:=@eqGuardType27
def jI:=@underlying114
def jK:=@sizeOf55
def jL:=@sizeOf285
def jS:=@call206
def jT:=@zeroValue4
def jU:=@zeroValue285
def jV:=@underlying66
def ke:=@sizeOf22
def kf:=@isAgg124
def kh:=@isAgg133
def ki:=@zeroValue45
def kj:=@zeroValue55
def ko:=@isAgg23
def kp:=@call129
abbrev K0:ku:=⟨zS,zS⟩
abbrev K1:ByteArray:=⟨#[103,111,118]⟩
abbrev K2:ByteArray:=⟨#[105,100]⟩
abbrev K3:ByteArray:=⟨#[97,110,110]⟩
abbrev K4:ByteArray:=⟨#[115,104,111,112]⟩
abbrev K5:ByteArray:=⟨#[45]⟩
abbrev K6:ByteArray:=⟨#[42]⟩
abbrev K7:ByteArray:=⟨#[43]⟩
abbrev K9:uP:=⟨0,0⟩
abbrev Xj:ByteArray:=⟨#[112,108,97,110]⟩
abbrev Xl:ByteArray:=⟨#[114,111,111,109,115]⟩
abbrev Xi:ByteArray:=⟨#[116,105,109,101,111,117,116]⟩
abbrev XC:ByteArray:=⟨#[116,114,105,101,115]⟩
abbrev W0:ByteArray:=⟨#[98,117,100,103,101,116]⟩
abbrev K15:mj:=⟨0⟩
abbrev F4:ku:=⟨K1,K2⟩
abbrev K17:lB:=⟨K4,[],[]⟩
abbrev Zy:lB:=⟨K3,[],[]⟩
abbrev K19:Formula:=⟨2,0,K0,[]⟩
abbrev K20:kv:=⟨0,K0,zS,K0,K0,zS⟩
abbrev RX:kv:=⟨1,F4,K3,K0,K0,zS⟩
abbrev K22:Formula:=⟨1,0,F4,[]⟩
abbrev RK:mY:=⟨K17,Zy,K22,0,K9,0,0,0,[]⟩
abbrev C1 (R:ByteArray) (T:Option Addr) (U W:Nat) (Y:Option Addr) (Z p6:Nat) (p7:ByteArray) (p8:Option Addr) (p9 d:Nat) (i:Option Addr) (j n:Nat) (p u:Int) (v w:ByteArray) (x:Option Addr) (z A:Nat) (E G I J L M:Int) (O:Option Addr) (P Q:Nat):List Value:=[(.string R),(.slice T U W),(.slice Y Z p6),(.string p7),(.slice p8 p9 d),(.slice i j n),(.int .i64 p),(.int .i64 u),(.string v),(.string w),(.slice x z A),(.int .i64 E),(.int .i64 G),(.int .i64 I),(.int .i64 J),(.int .i64 L),(.int .i64 M),(.slice O P Q)]
abbrev C2 (d i:Int) (j n:ByteArray) (p:Option Addr) (u v:Nat):List Value:=[(.int .i64 d),(.int .i64 i),(.string j),(.string n),(.slice p u v)]
abbrev C3 (z:Int) (A E G I J L M O:ByteArray) (P:Option Addr) (d i:Nat) (j n:Int) (p u:ByteArray) (v:Option Addr) (w x:Nat):List Value:=[(.int .i64 z),(.string A),(.string E),(.string G),(.string I),(.string J),(.string L),(.string M),(.string O),(.slice P d i),(.int .i64 j),(.int .i64 n),(.string p),(.string u),(.slice v w x)]
abbrev C4:List Value:=[(.string K4),(.slice none 0 0),(.slice none 0 0),(.string K3),(.slice none 0 0),(.slice none 0 0),(.int .i64 1),(.int .i64 0),(.string (F4.kw)),(.string (F4.Word)),(.slice none 0 0),(.int .i64 0),(.int .i64 0),(.int .i64 0),(.int .i64 0),(.int .i64 0),(.int .i64 0),(.slice none 0 0)]
abbrev C5 (j n:ByteArray) (p u:Int) (v w:ByteArray) (x:Option Addr) (z A:Nat) (E:Option Addr) (d i:Nat):List Value:=[(.string j),(.string n),(.int .i64 p),(.int .i64 u),(.string v),(.string w),(.slice x z A),(.slice E d i)]
abbrev C6 (d:ByteArray) (i:Option Addr) (j n:Nat) (p:Option Addr) (u v:Nat):List Value:=[(.string d),(.slice i j n),(.slice p u v)]
abbrev C7 (d:Option Addr) (i j:Nat):List Value:=[(.int .i64 1),(.string (F4.kw)),(.string (F4.Word)),(.string K3),(.string (K0.kw)),(.string (K0.Word)),(.string (K0.kw)),(.string (K0.Word)),(.string zS),(.slice d i j),(.int .i64 2),(.int .i64 0),(.string zS),(.string zS),(.slice none 0 0)]
abbrev C8 (d:Nat):List Value:=[(.string K4),(.slice none 0 0),(.slice none 0 0),(.string K3),(.slice (some ⟨d,0,none⟩) 1 1),(.slice none 0 0),(.int .i64 1),(.int .i64 0),(.string (F4.kw)),(.string (F4.Word)),(.slice none 0 0),(.int .i64 0),(.int .i64 0),(.int .i64 0),(.int .i64 0),(.int .i64 0),(.int .i64 0),(.slice none 0 0)]
abbrev C9:List Value:=[(.int .i64 0),(.int .i64 0),(.string zS),(.string zS),(.slice none 0 0)]
abbrev Vi (j:Int) (n p u v w x z A:ByteArray) (E:Option Addr) (d i:Nat):List Value:=[(.int .i64 j),(.string n),(.string p),(.string u),(.string v),(.string w),(.string x),(.string z),(.string A),(.slice E d i)]
abbrev UL:List Value:=[(.int .i64 0),(.string (K0.kw)),(.string (K0.Word)),(.string zS),(.string (K0.kw)),(.string (K0.Word)),(.string (K0.kw)),(.string (K0.Word)),(.string zS),(.slice none 0 0),(.int .i64 0),(.int .i64 0),(.string zS),(.string zS),(.slice none 0 0)]
abbrev RG:List Value:=[(.int .i64 2),(.int .i64 0),(.string zS),(.string zS),(.slice none 0 0)]
abbrev YX (d:Int):List Value:=[(.int .i64 d),(.int .i64 0),(.string zS),(.string zS),(.slice none 0 0)]
abbrev Ut:List Value:=[(.int .i64 3),(.int .i64 0),(.string zS),(.string zS),(.slice none 0 0)]
theorem li:Tryz.prog.follows .mixedOrders=true:=by rfl
theorem vN:Tryz.prog.info? 5=some Tryz.t5∧Tryz.t5.zero=some (.int .u8 0)∧Tryz.t5.size=1∧Tryz.t5.bytes=1:=⟨by kernel_rfl,by kernel_rfl,by kernel_rfl,by kernel_rfl⟩
theorem Mw:Tryz.prog.info? 9=some Tryz.t9∧Tryz.t9.zero=some (.string ⟨#[]⟩)∧Tryz.t9.size=1∧Tryz.t9.bytes=16:=⟨by kernel_rfl,by kernel_rfl,by kernel_rfl,by kernel_rfl⟩
theorem Ee:Tryz.prog.info? 27=some Tryz.t27∧Tryz.t27.zero=some (.agg #[(.string ⟨#[]⟩),(.string ⟨#[]⟩)])∧Tryz.t27.size=2∧Tryz.t27.bytes=32:=⟨by kernel_rfl,by kernel_rfl,by kernel_rfl,by kernel_rfl⟩
theorem rF:Tryz.prog.info? 30=some Tryz.t30∧Tryz.t30.zero=some (.agg #[(.int .i64 0),(.int .i64 0),(.string ⟨#[]⟩),(.string ⟨#[]⟩),(.slice none 0 0)])∧Tryz.t30.size=5∧Tryz.t30.bytes=72:=⟨by kernel_rfl,by kernel_rfl,by kernel_rfl,by kernel_rfl⟩
theorem rH:Tryz.prog.info? 52=some Tryz.t52∧Tryz.t52.zero=some (.agg #[(.int .i64 0),(.string ⟨#[]⟩),(.string ⟨#[]⟩),(.string ⟨#[]⟩),(.string ⟨#[]⟩),(.string ⟨#[]⟩),(.string ⟨#[]⟩),(.string ⟨#[]⟩),(.string ⟨#[]⟩)])∧Tryz.t52.size=9∧Tryz.t52.bytes=136:=⟨by kernel_rfl,by kernel_rfl,by kernel_rfl,by kernel_rfl⟩
theorem wo:Tryz.prog.info? 57=some Tryz.t57∧Tryz.t57.zero=some (.agg #[(.int .i64 0),(.string ⟨#[]⟩),(.string ⟨#[]⟩),(.string ⟨#[]⟩),(.string ⟨#[]⟩),(.string ⟨#[]⟩),(.string ⟨#[]⟩),(.string ⟨#[]⟩),(.string ⟨#[]⟩),(.slice none 0 0),(.int .i64 0),(.int .i64 0),(.string ⟨#[]⟩),(.string ⟨#[]⟩),(.slice none 0 0)])∧Tryz.t57.size=15∧Tryz.t57.bytes=232:=⟨by kernel_rfl,by kernel_rfl,by kernel_rfl,by kernel_rfl⟩
theorem Jz:Tryz.prog.info? 132=some Tryz.t132∧Tryz.t132.zero=some (.agg #[(.string ⟨#[]⟩),(.string ⟨#[]⟩),(.int .i64 0),(.int .i64 0),(.string ⟨#[]⟩),(.string ⟨#[]⟩),(.slice none 0 0),(.slice none 0 0)])∧Tryz.t132.size=8∧Tryz.t132.bytes=128:=⟨by kernel_rfl,by kernel_rfl,by kernel_rfl,by kernel_rfl⟩
theorem xD:Tryz.prog.info? 193=some Tryz.t193∧Tryz.t193.zero=some (.agg #[(.int .i64 0),(.string ⟨#[]⟩),(.string ⟨#[]⟩),(.string ⟨#[]⟩),(.string ⟨#[]⟩),(.string ⟨#[]⟩),(.string ⟨#[]⟩),(.string ⟨#[]⟩),(.string ⟨#[]⟩),(.string ⟨#[]⟩),(.string ⟨#[]⟩)])∧Tryz.t193.size=11∧Tryz.t193.bytes=168:=⟨by kernel_rfl,by kernel_rfl,by kernel_rfl,by kernel_rfl⟩
theorem xx:Tryz.prog.info? 197=some Tryz.t197∧Tryz.t197.zero=some (.agg #[(.string ⟨#[]⟩),(.string ⟨#[]⟩),(.string ⟨#[]⟩),(.string ⟨#[]⟩)])∧Tryz.t197.size=4∧Tryz.t197.bytes=64:=⟨by kernel_rfl,by kernel_rfl,by kernel_rfl,by kernel_rfl⟩
theorem Jr:Tryz.prog.info? 285=some Tryz.t285∧Tryz.t285.zero=some (.agg #[(.string ⟨#[]⟩),(.string ⟨#[]⟩),(.string ⟨#[]⟩)])∧Tryz.t285.size=3∧Tryz.t285.bytes=48:=⟨by kernel_rfl,by kernel_rfl,by kernel_rfl,by kernel_rfl⟩
theorem yB:mE pg0 27 0 0:=me er rfl eH (by decide) rfl
theorem Ae:mE pg0 27 1 1:=me er rfl eH (by decide) rfl
theorem Wo:(Tryz.prog.fieldsOf 27).toList=(match Tryz.prog.underlying 27 with | some (.struct fs)=>fs.toList | _=>[]):=by rw [er]; simp [Program.fieldsOf,er]
theorem Ab (d:Nat) (x y:ku) (W:World):(Op.equalIn (d+2) 27 (.agg (kJ x).toArray) (.agg (kJ y).toArray)).run pg0 W= .ok (kR x y) W:=by
 rw [run_equalIn_struct W (d+1) 27 _ _ (by kernel_rfl) Tryz.stoodInHeld27,Wo,er]
 exact (uD (by decide) (sM cN rfl) (sM cN rfl) (RF cO _ _ _ _) (uD (by decide) (sM cN rfl) (sM cN rfl) (RF cO _ _ _ _) (IL _ _ _)))
theorem Vz:∀fs,Tryz.prog.underlying 27=some (.struct fs)→∀w,(fs.mapM (λ(f:Field)=>do pure (f.offset,←sizeOf f.type)):Sem (Array (Nat×Nat))).run pg0 w= .ok #[(0,1),(1,1)] w:=by
 intro fs h w
 rw [er] at h
 cases h
 kernel_rfl
theorem Bq:mE pg0 52 0 0:=me et rfl gz (by decide) rfl
theorem xL:mE pg0 52 1 1:=me et rfl bF (by decide) rfl
theorem FA:mE pg0 52 2 3:=me et rfl eH (by decide) rfl
theorem rK:mE pg0 52 3 4:=me et rfl bF (by decide) rfl
theorem Bm:mE pg0 52 4 6:=me et rfl bF (by decide) rfl
theorem CT:mE pg0 52 5 8:=me et rfl eH (by decide) rfl
theorem WS:(Tryz.prog.fieldsOf 52).toList=(match Tryz.prog.underlying 52 with | some (.struct fs)=>fs.toList | _=>[]):=by rw [et]; simp [Program.fieldsOf,et]
theorem B9 (d:Nat) (x y:kv) (W:World):(Op.equalIn (d+3) 52 (.agg (kF x).toArray) (.agg (kF y).toArray)).run pg0 W= .ok (ll x y) W:=by
 rw [run_equalIn_struct W (d+2) 52 _ _ (by kernel_rfl) Tryz.stoodInHeld52,WS,et]
 exact (uD (by decide) (sM dJ rfl) (sM dJ rfl) (eqI dn _ _ _ _) (uD (by decide) (DB bZ bF rfl) (DB bZ bF rfl) (Ab _ x.Head y.Head W) (uD (by decide) (sM cN rfl) (sM cN rfl) (RF cO _ _ _ _) (uD (by decide) (DB bZ bF rfl) (DB bZ bF rfl) (Ab _ x.B y.B W) (uD (by decide) (DB bZ bF rfl) (DB bZ bF rfl) (Ab _ x.C y.C W) (uD (by decide) (sM cN rfl) (sM cN rfl) (RF cO _ _ _ _) (IL _ _ _)))))))
theorem Z8:∀fs,Tryz.prog.underlying 52=some (.struct fs)→∀w,(fs.mapM (λ(f:Field)=>do pure (f.offset,←sizeOf f.type)):Sem (Array (Nat×Nat))).run pg0 w= .ok #[(0,1),(1,2),(3,1),(4,2),(6,2),(8,1)] w:=by
 intro fs h w
 rw [et] at h
 cases h
 kernel_rfl
theorem XR:Tryz.prog.cellsOf 9=1:=by kernel_rfl
theorem JS (d:Nat) (x y:mK) (W:World):(Op.equalIn (d+2) 116 (.agg (ou x).toArray) (.agg (ou y).toArray)).run pg0 W= .ok (zc x y) W :=
 SA fG Mw.1 XR (Jd (sM cN rfl) (sM cN rfl) (RF cO _ _ _ _) (Jd (sM cN rfl) (sM cN rfl) (RF cO _ _ _ _) (QR _ _ _ _ _)))
theorem R5:mE pg0 193 0 0:=me eP rfl bE (by decide) rfl
theorem X4:mE pg0 193 1 9:=me eP rfl eH (by decide) rfl
theorem Yo:mE pg0 193 2 10:=me eP rfl eH (by decide) rfl
theorem Tw:∀fs,Tryz.prog.underlying 193=some (.struct fs)→∀w,(fs.mapM (λ(f:Field)=>do pure (f.offset,←sizeOf f.type)):Sem (Array (Nat×Nat))).run pg0 w= .ok #[(0,9),(9,1),(10,1)] w:=by
 intro fs h w
 rw [eP] at h
 cases h
 kernel_rfl
theorem Q4:mE pg0 197 0 0:=me eQ rfl bF (by decide) rfl
theorem Yq:mE pg0 197 1 2:=me eQ rfl eH (by decide) rfl
theorem Yf:mE pg0 197 2 3:=me eQ rfl eH (by decide) rfl
theorem Sm:∀fs,Tryz.prog.underlying 197=some (.struct fs)→∀w,(fs.mapM (λ(f:Field)=>do pure (f.offset,←sizeOf f.type)):Sem (Array (Nat×Nat))).run pg0 w= .ok #[(0,2),(2,1),(3,1)] w:=by
 intro fs h w
 rw [eQ] at h
 cases h
 kernel_rfl
theorem Np:mE pg0 285 0 0:=me gf rfl bF (by decide) rfl
theorem E4:mE pg0 285 1 2:=me gf rfl eH (by decide) rfl
theorem WZ:∀fs,Tryz.prog.underlying 285=some (.struct fs)→∀w,(fs.mapM (λ(f:Field)=>do pure (f.offset,←sizeOf f.type)):Sem (Array (Nat×Nat))).run pg0 w= .ok #[(0,2),(2,1)] w:=by
 intro fs h w
 rw [gf] at h
 cases h
 kernel_rfl
theorem Q8:mE pg0 224 0 0:=me jG rfl sizeOf109 (by decide) rfl
theorem aak:∀fs,Tryz.prog.underlying 224=some (.struct fs)→∀w,(fs.mapM (λ(f:Field)=>do pure (f.offset,←sizeOf f.type)):Sem (Array (Nat×Nat))).run pg0 w= .ok #[(0,1)] w:=by
 intro fs h w
 rw [jG] at h
 cases h
 kernel_rfl
theorem D5:mE pg0 55 0 0:=me iZ rfl bE (by decide) rfl
theorem LV:mE pg0 55 1 9:=me iZ rfl jl (by decide) rfl
theorem aaT:∀fs,Tryz.prog.underlying 55=some (.struct fs)→∀w,(fs.mapM (λ(f:Field)=>do pure (f.offset,←sizeOf f.type)):Sem (Array (Nat×Nat))).run pg0 w= .ok #[(0,9),(9,1)] w:=by
 intro fs h w
 rw [iZ] at h
 cases h
 kernel_rfl
theorem xc:mE pg0 30 0 0:=me cP rfl gz (by decide) rfl
theorem Bw:mE pg0 30 1 1:=me cP rfl gz (by decide) rfl
theorem Br:mE pg0 30 2 2:=me cP rfl bF (by decide) rfl
theorem vA:mE pg0 30 3 4:=me cP rfl sizeOf28 (by decide) rfl
theorem Ey:∀fs,Tryz.prog.underlying 30=some (.struct fs)→∀w,(fs.mapM (λ(f:Field)=>do pure (f.offset,←sizeOf f.type)):Sem (Array (Nat×Nat))).run pg0 w= .ok #[(0,1),(1,1),(2,2),(4,1)] w:=by
 intro fs h w
 rw [cP] at h
 cases h
 kernel_rfl
theorem Au:mE pg0 57 0 0:=me gA rfl jK (by decide) rfl
theorem I8:mE pg0 57 1 10:=me gA rfl aH (by decide) rfl
theorem Zh:∀fs,Tryz.prog.underlying 57=some (.struct fs)→∀w,(fs.mapM (λ(f:Field)=>do pure (f.offset,←sizeOf f.type)):Sem (Array (Nat×Nat))).run pg0 w= .ok #[(0,10),(10,5)] w:=by
 intro fs h w
 rw [gA] at h
 cases h
 kernel_rfl
theorem Du:mE pg0 132 0 0:=me underlying132 rfl bF (by decide) rfl
theorem GW:mE pg0 132 1 2:=me underlying132 rfl aH (by decide) rfl
theorem E5:mE pg0 132 2 7:=me underlying132 rfl sizeOf45 (by decide) rfl
theorem Ec:mE pg0 25 0 0:=me fQ rfl eH (by decide) rfl
theorem uh:mE pg0 25 1 1:=me fQ rfl ke (by decide) rfl
theorem Fz:mE pg0 25 2 2:=me fQ rfl sizeOf23 (by decide) rfl
theorem ZP:∀fs,Tryz.prog.underlying 25=some (.struct fs)→∀w,(fs.mapM (λ(f:Field)=>do pure (f.offset,←sizeOf f.type)):Sem (Array (Nat×Nat))).run pg0 w= .ok #[(0,1),(1,1),(2,1)] w:=by
 intro fs h w
 rw [fQ] at h
 cases h
 kernel_rfl
theorem Nt:mE pg0 119 0 0:=me underlying119 rfl eH (by decide) rfl
theorem No:mE pg0 119 1 1:=me underlying119 rfl jl (by decide) rfl
theorem yA:mE pg0 34 0 0:=me eF rfl dC (by decide) rfl
theorem wP:mE pg0 34 1 3:=me eF rfl dC (by decide) rfl
theorem I9:mE pg0 34 2 6:=me eF rfl aH (by decide) rfl
theorem Y6:mE pg0 34 3 11:=me eF rfl gz (by decide) rfl
theorem Un:mE pg0 34 4 12:=me eF rfl sizeOf31 (by decide) rfl
theorem YZ:mE pg0 34 5 14:=me eF rfl gz (by decide) rfl
theorem YS:mE pg0 34 6 15:=me eF rfl gz (by decide) rfl
theorem Zb:mE pg0 34 7 16:=me eF rfl gz (by decide) rfl
theorem Mj:mE pg0 34 8 17:=me eF rfl sizeOf32 (by decide) rfl
theorem aa4:∀fs,Tryz.prog.underlying 34=some (.struct fs)→∀w,(fs.mapM (λ(f:Field)=>do pure (f.offset,←sizeOf f.type)):Sem (Array (Nat×Nat))).run pg0 w= .ok #[(0,3),(3,3),(6,5),(11,1),(12,2),(14,1),(15,1),(16,1),(17,1)] w:=by
 intro fs h w
 rw [eF] at h
 cases h
 kernel_rfl
theorem AW:mE pg0 246 0 0:=me fg rfl sizeOf242 (by decide) rfl
theorem MM:mE pg0 246 1 1:=me fg rfl sizeOf45 (by decide) rfl
theorem Ri:mE pg0 246 2 2:=me fg rfl sizeOf243 (by decide) rfl
theorem ML:mE pg0 246 3 3:=me fg rfl sizeOf244 (by decide) rfl
theorem E7:mE pg0 246 4 4:=me fg rfl sizeOf226 (by decide) rfl
theorem JA:mE pg0 246 5 5:=me fg rfl gz (by decide) rfl
theorem aaE:∀fs,Tryz.prog.underlying 246=some (.struct fs)→∀w,(fs.mapM (λ(f:Field)=>do pure (f.offset,←sizeOf f.type)):Sem (Array (Nat×Nat))).run pg0 w= .ok #[(0,1),(1,1),(2,1),(3,1),(4,1),(5,1)] w:=by
 intro fs h w
 rw [fg] at h
 cases h
 kernel_rfl
theorem Dy:mE pg0 215 0 0:=me gL rfl jl (by decide) rfl
theorem Xk:∀fs,Tryz.prog.underlying 215=some (.struct fs)→∀w,(fs.mapM (λ(f:Field)=>do pure (f.offset,←sizeOf f.type)):Sem (Array (Nat×Nat))).run pg0 w= .ok #[(0,1)] w:=by
 intro fs h w
 rw [gL] at h
 cases h
 kernel_rfl
def wB:tu Signed:=λμ ys x=>∃(v0:Value),ys=[.int .i64 x.kv.Kind,.string x.kv.Head.kw,.string x.kv.Head.Word,.string x.kv.lO,.string x.kv.B.kw,.string x.kv.B.Word,.string x.kv.C.kw,.string x.kv.C.Word,.string x.kv.mg,v0]∧Sl (Pl (mh .u8)) 1 μ v0 x.Tag
theorem wB.out {μ:lE} {ys:List Value} {x:Signed} (h:wB μ ys x):∃(v0:Value),ys=[.int .i64 x.kv.Kind,.string x.kv.Head.kw,.string x.kv.Head.Word,.string x.kv.lO,.string x.kv.B.kw,.string x.kv.B.Word,.string x.kv.C.kw,.string x.kv.C.Word,.string x.kv.mg,v0]∧Sl (Pl (mh .u8)) 1 μ v0 x.Tag:=h
theorem wB.mk {μ:lE} {ys:List Value} {x:Signed} (h:∃(v0:Value),ys=[.int .i64 x.kv.Kind,.string x.kv.Head.kw,.string x.kv.Head.Word,.string x.kv.lO,.string x.kv.B.kw,.string x.kv.B.Word,.string x.kv.C.kw,.string x.kv.C.Word,.string x.kv.mg,v0]∧Sl (Pl (mh .u8)) 1 μ v0 x.Tag):wB μ ys x:=h
theorem E2:Deep wB 10 where
 mono:=by rintro _ _ _ _ i ⟨v0,rfl,d⟩; exact ⟨v0,rfl,d.mono (Pl.mono _) i⟩
 len:=by rintro _ _ _ ⟨v0,rfl,d⟩; rfl
 one:=by
  rintro _ _ _ ⟨v0,rfl,d⟩
  intro u hu; simp only [aP,dv,fl] at hu; rcases hu with rfl | rfl | rfl | rfl | rfl | rfl | rfl | rfl | rfl | rfl
  ·rfl
  ·rfl
  ·rfl
  ·rfl
  ·rfl
  ·rfl
  ·rfl
  ·rfl
  ·rfl
  ·exact d.yW
def Bz:Nat→tu Formula
 | 0=>λ_ _ _=>False
 | n+1=>λμ ys x=>∃(v0:Value),ys=[.int .i64 x.Op,.int .i64 x.K,.string x.ku.kw,.string x.ku.Word,v0]∧Sl (Bz n) 5 μ v0 x.Kids
def kz:tu Formula:=λμ ys x=>∃n,Bz n μ ys x
theorem Iw:∀n,Oz (Bz n)
 | 0=>λ_ _ _ _ _ h=>h
 | n+1=>by rintro _ _ _ _ i ⟨v0,rfl,d⟩; exact ⟨v0,rfl,d.mono (Iw n) i⟩
theorem LL:∀n m (μ:lE) (ys:List Value) (x:Formula),n≤m→Bz n μ ys x→Bz m μ ys x
 | 0,_,_,_,_,_,h=>h.elim
 | n+1,0,_,_,_,d,_=>absurd d (by omega)
 | n+1,m+1,μ,ys,x,d,h=>by
  obtain ⟨v0,rfl,i⟩:=h
  exact ⟨v0,rfl,i.imp λys x h=>LL n m μ ys x (by omega) h⟩
theorem kz.out {μ:lE} {ys:List Value} {x:Formula} (h:kz μ ys x):∃(v0:Value),ys=[.int .i64 x.Op,.int .i64 x.K,.string x.ku.kw,.string x.ku.Word,v0]∧Sl kz 5 μ v0 x.Kids:=by
 obtain ⟨n,h⟩:=h
 cases n with
 | zero=>exact h.elim
 | succ n=>
  obtain ⟨v0,rfl,d⟩:=h
  exact ⟨v0,rfl,d.imp λys x h=>⟨n,h⟩⟩
theorem kz.mk {μ:lE} {ys:List Value} {x:Formula} (h:∃(v0:Value),ys=[.int .i64 x.Op,.int .i64 x.K,.string x.ku.kw,.string x.ku.Word,v0]∧Sl kz 5 μ v0 x.Kids):kz μ ys x:=by
 obtain ⟨v0,rfl,d⟩:=h
 obtain ⟨n,j⟩:=d.aaF (λ_ _ h=>h) (λa b ys x i h=>LL a b _ ys x i h)
 exact ⟨n+1,v0,rfl,j⟩
theorem kT:Deep kz 5 where
 mono:=λ_ _ _ _ i ⟨n,h⟩=>⟨n,Iw n _ _ _ _ i h⟩
 len:=by rintro _ _ _ h; obtain ⟨v0,rfl,d⟩:=h.out; rfl
 one:=by
  rintro _ _ _ h
  obtain ⟨v0,rfl,d⟩:=h.out
  intro u hu; simp only [aP,dv,fl] at hu; rcases hu with rfl | rfl | rfl | rfl | rfl
  ·rfl
  ·rfl
  ·rfl
  ·rfl
  ·exact d.yW
def kX:tu kU:=λμ ys x=>∃(v0:Value) (v1:Value),ys=[.int .i64 x.Signed.kv.Kind,.string x.Signed.kv.Head.kw,.string x.Signed.kv.Head.Word,.string x.Signed.kv.lO,.string x.Signed.kv.B.kw,.string x.Signed.kv.B.Word,.string x.Signed.kv.C.kw,.string x.Signed.kv.C.Word,.string x.Signed.kv.mg,v0,.int .i64 x.ky.Op,.int .i64 x.ky.K,.string x.ky.ku.kw,.string x.ky.ku.Word,v1]∧Sl (Pl (mh .u8)) 1 μ v0 x.Signed.Tag∧Sl kz 5 μ v1 x.ky.Kids
theorem kX.out {μ:lE} {ys:List Value} {x:kU} (h:kX μ ys x):∃(v0:Value) (v1:Value),ys=[.int .i64 x.Signed.kv.Kind,.string x.Signed.kv.Head.kw,.string x.Signed.kv.Head.Word,.string x.Signed.kv.lO,.string x.Signed.kv.B.kw,.string x.Signed.kv.B.Word,.string x.Signed.kv.C.kw,.string x.Signed.kv.C.Word,.string x.Signed.kv.mg,v0,.int .i64 x.ky.Op,.int .i64 x.ky.K,.string x.ky.ku.kw,.string x.ky.ku.Word,v1]∧Sl (Pl (mh .u8)) 1 μ v0 x.Signed.Tag∧Sl kz 5 μ v1 x.ky.Kids:=h
theorem kX.mk {μ:lE} {ys:List Value} {x:kU} (h:∃(v0:Value) (v1:Value),ys=[.int .i64 x.Signed.kv.Kind,.string x.Signed.kv.Head.kw,.string x.Signed.kv.Head.Word,.string x.Signed.kv.lO,.string x.Signed.kv.B.kw,.string x.Signed.kv.B.Word,.string x.Signed.kv.C.kw,.string x.Signed.kv.C.Word,.string x.Signed.kv.mg,v0,.int .i64 x.ky.Op,.int .i64 x.ky.K,.string x.ky.ku.kw,.string x.ky.ku.Word,v1]∧Sl (Pl (mh .u8)) 1 μ v0 x.Signed.Tag∧Sl kz 5 μ v1 x.ky.Kids):kX μ ys x:=h
theorem kZ:Deep kX 15 where
 mono:=by rintro _ _ _ _ i ⟨v0,v1,rfl,d,h1⟩; exact ⟨v0,v1,rfl,d.mono (Pl.mono _) i,h1.mono kT.mono i⟩
 len:=by rintro _ _ _ ⟨v0,v1,rfl,d,h1⟩; rfl
 one:=by
  rintro _ _ _ ⟨v0,v1,rfl,d,h1⟩
  intro u hu; simp only [aP,dv,fl] at hu; rcases hu with rfl | rfl | rfl | rfl | rfl | rfl | rfl | rfl | rfl | rfl | rfl | rfl | rfl | rfl | rfl
  ·rfl
  ·rfl
  ·rfl
  ·rfl
  ·rfl
  ·rfl
  ·rfl
  ·rfl
  ·rfl
  ·exact d.yW
  ·rfl
  ·rfl
  ·rfl
  ·rfl
  ·exact h1.yW
def lH:tu mr:=λμ ys x=>∃(v0:Value) (v1:Value),ys=[.string x.ku.kw,.string x.ku.Word,.int .i64 x.ky.Op,.int .i64 x.ky.K,.string x.ky.ku.kw,.string x.ky.ku.Word,v0,v1]∧Sl kz 5 μ v0 x.ky.Kids∧Sl (Pl kF) 9 μ v1 x.lT
theorem lH.out {μ:lE} {ys:List Value} {x:mr} (h:lH μ ys x):∃(v0:Value) (v1:Value),ys=[.string x.ku.kw,.string x.ku.Word,.int .i64 x.ky.Op,.int .i64 x.ky.K,.string x.ky.ku.kw,.string x.ky.ku.Word,v0,v1]∧Sl kz 5 μ v0 x.ky.Kids∧Sl (Pl kF) 9 μ v1 x.lT:=h
theorem lH.mk {μ:lE} {ys:List Value} {x:mr} (h:∃(v0:Value) (v1:Value),ys=[.string x.ku.kw,.string x.ku.Word,.int .i64 x.ky.Op,.int .i64 x.ky.K,.string x.ky.ku.kw,.string x.ky.ku.Word,v0,v1]∧Sl kz 5 μ v0 x.ky.Kids∧Sl (Pl kF) 9 μ v1 x.lT):lH μ ys x:=h
theorem mB:Deep lH 8 where
 mono:=by rintro _ _ _ _ i ⟨v0,v1,rfl,d,h1⟩; exact ⟨v0,v1,rfl,d.mono kT.mono i,h1.mono (Pl.mono _) i⟩
 len:=by rintro _ _ _ ⟨v0,v1,rfl,d,h1⟩; rfl
 one:=by
  rintro _ _ _ ⟨v0,v1,rfl,d,h1⟩
  intro u hu; simp only [aP,dv,fl] at hu; rcases hu with rfl | rfl | rfl | rfl | rfl | rfl | rfl | rfl
  ·rfl
  ·rfl
  ·rfl
  ·rfl
  ·rfl
  ·rfl
  ·exact d.yW
  ·exact h1.yW
def qb:tu Key:=λμ ys x=>∃(v0:Value),ys=[.string x.lO,v0]∧Sl (Pl (mh .u8)) 1 μ v0 x.Key
theorem qb.out {μ:lE} {ys:List Value} {x:Key} (h:qb μ ys x):∃(v0:Value),ys=[.string x.lO,v0]∧Sl (Pl (mh .u8)) 1 μ v0 x.Key:=h
theorem qb.mk {μ:lE} {ys:List Value} {x:Key} (h:∃(v0:Value),ys=[.string x.lO,v0]∧Sl (Pl (mh .u8)) 1 μ v0 x.Key):qb μ ys x:=h
theorem ye:Deep qb 2 where
 mono:=by rintro _ _ _ _ i ⟨v0,rfl,d⟩; exact ⟨v0,rfl,d.mono (Pl.mono _) i⟩
 len:=by rintro _ _ _ ⟨v0,rfl,d⟩; rfl
 one:=by
  rintro _ _ _ ⟨v0,rfl,d⟩
  intro u hu; simp only [aP,dv,fl] at hu; rcases hu with rfl | rfl
  ·rfl
  ·exact d.yW
def Cm:tu mY:=λμ ys x=>∃(v0:Value) (v1:Value) (v2:Value) (v3:Value) (v4:Value) (v5:Value),ys=[.string x.kw.Name,v0,v1,.string x.Client.Name,v2,v3,.int .i64 x.Formula.Op,.int .i64 x.Formula.K,.string x.Formula.ku.kw,.string x.Formula.ku.Word,v4,.int .i64 x.pj,.int .i64 x.lP.pJ,.int .i64 x.lP.pw,.int .i64 x.mO,.int .i64 x.nZ,.int .i64 x.ny,v5]∧Sl kX 15 μ v0 x.kw.kE∧Sl lH 8 μ v1 x.kw.kQ∧Sl kX 15 μ v2 x.Client.kE∧Sl lH 8 μ v3 x.Client.kQ∧Sl kz 5 μ v4 x.Formula.Kids∧Sl qb 2 μ v5 x.Keys
theorem Cm.out {μ:lE} {ys:List Value} {x:mY} (h:Cm μ ys x):∃(v0:Value) (v1:Value) (v2:Value) (v3:Value) (v4:Value) (v5:Value),ys=[.string x.kw.Name,v0,v1,.string x.Client.Name,v2,v3,.int .i64 x.Formula.Op,.int .i64 x.Formula.K,.string x.Formula.ku.kw,.string x.Formula.ku.Word,v4,.int .i64 x.pj,.int .i64 x.lP.pJ,.int .i64 x.lP.pw,.int .i64 x.mO,.int .i64 x.nZ,.int .i64 x.ny,v5]∧Sl kX 15 μ v0 x.kw.kE∧Sl lH 8 μ v1 x.kw.kQ∧Sl kX 15 μ v2 x.Client.kE∧Sl lH 8 μ v3 x.Client.kQ∧Sl kz 5 μ v4 x.Formula.Kids∧Sl qb 2 μ v5 x.Keys:=h
theorem Cm.mk {μ:lE} {ys:List Value} {x:mY} (h:∃(v0:Value) (v1:Value) (v2:Value) (v3:Value) (v4:Value) (v5:Value),ys=[.string x.kw.Name,v0,v1,.string x.Client.Name,v2,v3,.int .i64 x.Formula.Op,.int .i64 x.Formula.K,.string x.Formula.ku.kw,.string x.Formula.ku.Word,v4,.int .i64 x.pj,.int .i64 x.lP.pJ,.int .i64 x.lP.pw,.int .i64 x.mO,.int .i64 x.nZ,.int .i64 x.ny,v5]∧Sl kX 15 μ v0 x.kw.kE∧Sl lH 8 μ v1 x.kw.kQ∧Sl kX 15 μ v2 x.Client.kE∧Sl lH 8 μ v3 x.Client.kQ∧Sl kz 5 μ v4 x.Formula.Kids∧Sl qb 2 μ v5 x.Keys):Cm μ ys x:=h
theorem Xs:Deep Cm 18 where
 mono:=by rintro _ _ _ _ d ⟨v0,v1,v2,v3,v4,v5,rfl,i,h1,j,n,p,v⟩; exact ⟨v0,v1,v2,v3,v4,v5,rfl,i.mono kZ.mono d,h1.mono mB.mono d,j.mono kZ.mono d,n.mono mB.mono d,p.mono kT.mono d,v.mono ye.mono d⟩
 len:=by rintro _ _ _ ⟨v0,v1,v2,v3,v4,v5,rfl,i,h1,j,n,p,v⟩; rfl
 one:=by
  rintro _ _ _ ⟨v0,v1,v2,v3,v4,v5,rfl,i,h1,j,n,p,v⟩
  intro u hu; simp only [aP,dv,fl] at hu; rcases hu with rfl | rfl | rfl | rfl | rfl | rfl | rfl | rfl | rfl | rfl | rfl | rfl | rfl | rfl | rfl | rfl | rfl | rfl
  ·rfl
  ·exact i.yW
  ·exact h1.yW
  ·rfl
  ·exact j.yW
  ·exact n.yW
  ·rfl
  ·rfl
  ·rfl
  ·rfl
  ·exact p.yW
  ·rfl
  ·rfl
  ·rfl
  ·rfl
  ·rfl
  ·rfl
  ·exact v.yW
theorem L7:sG pg0 9 Value.string lz:=sG.string cO
theorem EA:sG pg0 27 (λ(x:ku)=>(.agg (kJ x).toArray)) kR :=
 sG.struct er (λd x y W=>Ab (d+8) x y W) (λb k W=>Mi er rfl (fE.2 ⟨λ_=>⟨.string k.kw,sM cN rfl,CN cO _ _ _ _⟩,(fE.2 ⟨λ_=>⟨.string k.Word,sM cN rfl,CN cO _ _ _ _⟩,(λ_ h=>by cases h)⟩)⟩))
  (λk x h=>(lj.1 h).symm) (λk=>by simp [Instr.sameBits,kJ,IA,nE])
theorem vU (g:Value) (t:List kU) (j:Value) (z:kU→Option Bool) (r:Int) (w:World) (c:Sl kX 15 (hp w) g t) (B:vL pg0 j (hp w) (re kX) (λ(r:Bool)=>(.bool r)) z) (hm:py t z=some r) :
  lC false pg0 142 [g,j] w (.int .i64 r):=by
 refine cG 19 func142 rfl (λd=>sg (Wa (lS (Wm (V (nv dm rfl c) (Wm (ln (mV (λi E W=>∃k,(E 8= .int .i64 (i:Nat)∧E 7= .int .i64 (t.length:Nat))∧ST false mN w W (hp w) k∧E 0=g∧E 1=j∧nM z (t.drop i) i=some r) t.length c.len ⟨_,⟨rfl,rfl⟩,(d.kA St),rfl,rfl,hm⟩ dc dc dc (λ_ _ _ h=>by obtain ⟨_,p,_⟩:=h; exact p) ?_ ?_))))))))
 ·rintro T E W G ⟨k,⟨n,v⟩,d,u,x,a⟩
  obtain ⟨y,Z,N,M,Q⟩:=mC G
  rw [N] at a
  refine bg (Wh n (Wa (lr (Wh x (Wh u (Wm (VQ (nN (i:=(T:Int)) (x0:=y) kX.out dm cY rfl rfl c (aX _) M) (λa2 ⟨_,⟨U,Y,rfl,J,K⟩,H⟩=>V (kB rfl (lL d.has H eJ cY)) (bS a λa3 I a=>?_)))))))))
  refine VE (qQ y d B (lx.refl _) (re.mk kZ (kX.mk ⟨U,Y,rfl,J,K⟩) d.kC) rfl (pR rfl) I (λA d=>ln (CI a rfl (λD a=>?_) (λD a=>?_))))
  ·refine sg (Wm (Wa (lt (pO (mL (pO (mL ?_)))))))
   obtain rfl:=sj a
   exact rP d
  exact nf (lG (kL ⟨n,_,⟨rfl,v⟩,(d.kA St),u,x,(by rw [Q]; exact a)⟩))
 rintro E W ⟨k,⟨n,v⟩,d,u,x,a⟩
 rw [bo] at a
 exact kL (sg (Wa (lt (rQ a d))))
theorem D4 (a:kU) (j g:Value) (t:Nat) (k:Value) (x:kU→Option kv) (u:Nat) (H:kv) (r:Bool) (w:World) (i:Sl (Pl (mh .u8)) 1 (hp w) j a.Signed.Tag) (c:Sl kz 5 (hp w) g a.ky.Kids) (K:vL pg0 k (hp w) (re kX) (λ(r:kv)=>(.agg (kF r).toArray)) x) (z:At (hp w) (.pointer (some ⟨t,0,none⟩)) [k]) (B:At (hp w) (.pointer (some ⟨u,0,none⟩)) (kF H)) (hm:sU a x H=some r) :
  lC false pg0 143 [(.agg #[(.int .i64 a.Signed.kv.Kind),(.string a.Signed.kv.Head.kw),(.string a.Signed.kv.Head.Word),(.string a.Signed.kv.lO),(.string a.Signed.kv.B.kw),(.string a.Signed.kv.B.Word),(.string a.Signed.kv.C.kw),(.string a.Signed.kv.C.Word),(.string a.Signed.kv.mg),j,(.int .i64 a.ky.Op),(.int .i64 a.ky.K),(.string a.ky.ku.kw),(.string a.ky.ku.Word),g]),(.pointer (some ⟨t,0,none⟩)),(.pointer (some ⟨u,0,none⟩))] w (.bool r):=by
 refine cG 10 func143 rfl (λd=>sg ?_)
 obtain ⟨D,I,rfl⟩:=i.form
 obtain ⟨G,J,rfl⟩:=c.form
 refine VE (lM d rfl (λT U d=>Wa (ln (kM ?_))))
 replace d:=d.drew
 have n:=d.has.kA (Kb Sn)
 refine lU n li (XH 0 rfl n (λ_ p=>kB rfl (sJ p (y:=k) z kf)) (XH 1 rfl n (λ_ p=>kB rfl (kI p Mh (C3 a.Signed.kv.Kind a.Signed.kv.Head.kw a.Signed.kv.Head.Word a.Signed.kv.lO a.Signed.kv.B.kw a.Signed.kv.B.Word a.Signed.kv.C.kw a.Signed.kv.C.Word a.Signed.kv.mg D a.Signed.Tag.length I a.ky.Op a.ky.K a.ky.ku.kw a.ky.ku.Word G a.ky.Kids.length J) rfl eJ cY)) (XH 3 rfl n (λ_ p=>kB rfl (lL p B cU bE)) (bS hm λN M hm=>XE 2 rfl (qQ a d K (lx.refl _) (re.mk kZ (kX.mk ⟨(.slice D a.Signed.Tag.length I),(.slice G a.ky.Kids.length J),rfl,i,c⟩) d.kC) rfl (pR rfl) M (λQ d=>?_))))))
 have n:=d.has.kA (Kb Sn)
 refine ⟨n,(X 4 rfl n (ER rfl rfl (uC gh) (AY (B9 _ N H))) (X 5 rfl n (oe rfl) (lX kr (kL ?_))))⟩
 exact lJ (rQ hm d)
theorem AD (g:Value) (t:List kU) (j:kv) (a:Nat) (i:Value) (c:kU→Option kv) (r:Int) (w:World) (y:Sl kX 15 (hp w) g t) (z:vL pg0 i (hp w) (re kX) (λ(r:kv)=>(.agg (kF r).toArray)) c) (k:At (hp w) (.pointer (some ⟨a,0,none⟩)) [i]) (hm:se t j c=some r) :
  lC false pg0 141 [g,(.agg (kF j).toArray),(.pointer (some ⟨a,0,none⟩))] w (.int .i64 r):=by
 refine cG 9 func141 rfl (λd=>sg (VE (lM d rfl (λI u d=>Wa (lr (Wm (V (qR (by exact qT rfl rfl) rfl) (bS hm λK D hm=>VE (Eg d call142 (vU g t (.func (.func 143) #[] #[(.pointer (some ⟨a,0,none⟩)),(.pointer (some ⟨u,0,none⟩))]) (λ(x:kU)=>sU x c j) _ _ (y.mono kZ.mono d.kC) ⟨143,#[],#[(.pointer (some ⟨a,0,none⟩)),(.pointer (some ⟨u,0,none⟩))],rfl,call143,λW x vs r n p hm=>by obtain ⟨_,rfl,B⟩:=p; obtain ⟨G,H,rfl,v,A⟩:=B.out; exact D4 x G H a i c u j r W v A (z.mono (d.kC.trans n)) (k.mono (d.kC.trans n)) (At.of (n _ _ (d.at_ Mh)) _ rfl) hm⟩ D) (λJ d=>Wa (lu ?_)))))))))))
 refine kL ?_
 exact lJ (rQ hm d)
set_option maxHeartbeats 4000000 in
theorem G0 (a2:Value) (a0:List kU) (b6:Value) (a1:List kU) (g4:Value) (f2:kU→Option kv) (e2:Value) (f3:(kU×kU)→Option Bool) (d5:Value) (f4:kU→Option ByteArray) (r:List kq) (w:World) (d2:Sl kX 15 (hp w) a2 a0) (c9:Sl kX 15 (hp w) b6 a1) (N:vL pg0 g4 (hp w) (re kX) (λ(r:kv)=>(.agg (kF r).toArray)) f2) (k2:vL pg0 e2 (hp w) (vY kX kX) (λ(r:Bool)=>(.bool r)) f3) (e1:vL pg0 d5 (hp w) (re kX) (λ(r:ByteArray)=>(.string r)) f4) (hm:tP a0 a1 f2 f3 f4=some r) :
  pH false pg0 69 [a2,b6,g4,e2,d5] w 193 kH 11 r:=by
 refine Dg 89 func69 rfl (λd=>sg ?_)
 obtain ⟨ab,ad,ae,rfl⟩:=N.form
 let k1:Value:=(.func ab ad ae)
 refine VE (lM d rfl (λW5 O d=>Wa (lr (Wa (lr (V (qR (by exact pR rfl) rfl) (Wa (ln ?_))))))))
 refine kM (sg (Wm (V (nv dm rfl d2) (Wm (ln (mV (λi E W=>∃Q b0 K d9,(E 21= .int .i64 (i:Nat)∧E 20= .int .i64 (a0.length:Nat))∧ST false mN w W (hp w) ((O,Ob #[k1] 124)::(K++d9))∧E 0=a2∧E 1=b6∧E 3=e2∧E 4=d5∧E 7=(.pointer (some ⟨O,0,none⟩))∧E 11=Q∧E 12=(.func (.func 141) #[] #[(.pointer (some ⟨O,0,none⟩))])∧E 19=a2∧lh 193 kH 11 Q b0 K∧oJ f2 a1 f4 f3 a0 (a0.drop i) b0=some r) a0.length d2.len ⟨(.slice none 0 0),([]),[],_,⟨rfl,rfl⟩,(d.kA St),rfl,rfl,rfl,rfl,rfl,rfl,rfl,rfl,(lh.nil _ _ _),hm⟩ dc dc dc (λ_ _ _ h=>by obtain ⟨_,_,_,_,aa,_⟩:=h; exact aa) ?_ ?_))))))
 ·rintro k3 E W h8 ⟨Q,b0,K,d9,⟨L,P⟩,d,c5,Y,c6,Z,M,c7,a9,c8,a7,g⟩
  obtain ⟨a,m7,j3,j0,d3⟩:=mC h8
  rw [j3] at g
  refine bg (VQ (nN (i:=(k3:Int)) (x0:=a) kX.out dm cY c8 L d2 (aX _) j0) (λo2 ⟨_,⟨o5,o6,rfl,H,I⟩,h9⟩=>V (kB rfl (lL d.has h9 eJ cY)) (VE (ml d eA (λm8 o1 d=>?_)))))
  obtain ⟨k,u,rfl⟩:=H.form
  let e0:Value:=(.slice k a.Signed.Tag.length u)
  obtain ⟨t,x,rfl⟩:=I.form
  let d6:Value:=(.slice t a.ky.Kids.length x)
  let b8:=(C3 a.Signed.kv.Kind a.Signed.kv.Head.kw a.Signed.kv.Head.Word a.Signed.kv.lO a.Signed.kv.B.kw a.Signed.kv.B.Word a.Signed.kv.C.kw a.Signed.kv.C.Word a.Signed.kv.mg k a.Signed.Tag.length u a.ky.Op a.ky.K a.ky.ku.kw a.ky.ku.Word t a.ky.Kids.length x)
  refine VO (lA (.agg b8.toArray) (b8.toArray) d rfl rfl cY oc nb rfl (λm9 d=>lr (Wh a9 (Wh Y (V (kB M (lg d.has (Mt Mh) rfl kf)) (VA d Mh b8 eJ cY (bS g λg3 i1 g=>VE (qQ a d N (lx.refl _) (re.mk kZ (kX.mk ⟨e0,d6,rfl,H,I⟩) d.kC) rfl (pR rfl) i1 (λn0 d=>bS g λk6 i2 g=>VE (JD (args:=[b6,(.agg (kF g3).toArray)]) (caps:=#[(.pointer (some ⟨O,0,none⟩))]) d rfl call141 (by exact qT rfl rfl) (AD b6 a1 g3 O k1 f2 _ _ (c9.mono kZ.mono d.kC) (N.mono d.kC) (At.of (d.at_ (Mt Mh)) _ rfl) i2) (λn1 d=>Wa (lu ?_))))))))))))
  refine kL (bg (Wm (Wi rfl (Wa (ln (CI g rfl (λh4 g=>?_) (λh4 g=>?_)))))))
  ·replace d:=d.drew
   have n:=d.has.kA (Kb (Kb Sn))
   refine lU n li (X 0 rfl n (kD c7) (XH 1 rfl n (λ_ A=>kB M (lg A (Mt Mh) rfl kf)) (XH 2 rfl n (λ_ A=>kB rfl (kI A Mh b8 rfl eJ cY)) (X 4 rfl n (kD Z) (XH 5 rfl n (λ_ A=>kB rfl (kI A Mh b8 rfl eJ cY)) (bS g λb1 i3 g=>XE 3 rfl (qQ a d N (lx.refl _) (re.mk kZ (kX.mk ⟨e0,d6,rfl,H,I⟩) d.kC) rfl (pR rfl) i3 (λn2 d=>?_))))))))
   have n:=d.has.kA (Kb (Kb Sn))
   refine ⟨n,(bS g λb2 i4 g=>XE 6 rfl (qQ a d e1 (lx.refl _) (re.mk kZ (kX.mk ⟨e0,d6,rfl,H,I⟩) d.kC) rfl (pR rfl) i4 (λn3 d=>?_)))⟩
   let g5:=(⟨b1,b2,K5⟩:kq)
   have n:=d.has.kA (Kb (Kb Sn))
   refine ⟨n,(X 7 rfl n (nP (v:=(.agg (kH (g5)).toArray)) (BD rfl rfl rfl) (nt gB eP (Tw _ eP) kr)) (XE 8 rfl (lZ (cs:=(kH (g5)).toArray) d (og rfl) (oE cE cA gB) (λn4 j9 d=>?_))))⟩
   have n:=d.has.kA (Db (Kb (Kb Sn)))
   refine ⟨n,?_⟩
   replace d:=d.perm (Nr (Qb (Qb (Qb Qz))) Nz)
   refine bS g λk4 h5 g=>XE 9 rfl (qF (enc:=kH) (v:=Q) (vs:=(.slice (some ⟨j9,0,none⟩) 1 1)) (R:=K) d lW dc oQ cE xD.1 xD.2.1 rfl xD.2.2.1 xD.2.2.2 rfl rfl a7 (Sl.lit (enc:=kH) (l:=[g5]) lW rfl nb rfl (d.at_ (Ma Mh))) h5 (λn5 k7 j7 d h2=>?_))
   have n:=d.has.kA (Dr (Db (Kb (Kb Sn))))
   refine ⟨n,(X 10 rfl n (oe rfl) (lX kr (lG (lG (kL ?_)))))⟩
   replace d:=d.kA (Kr (Db (Db St)))
   exact ⟨L,k7,k4,j7,_,⟨rfl,P⟩,(d.kA (Sb (Pr Pz) St)),c5,Y,c6,Z,M,rfl,a9,c8,h2,(by rw [d3]; exact g)⟩
  refine kM ?_
  replace d:=d.drew
  have n:=d.has.kA (Kb Sn)
  refine lU n li (X 0 rfl n (kD c6) (XH 1 rfl n (λ_ A=>kB rfl (kI A Mh b8 rfl eJ cY)) (X 2 rfl n (kD Y) (X 3 rfl n (kD rfl) (bS g λg7 e4 g=>XQ 4 rfl n (nN (i:=k6) (x0:=g7) kX.out dm cY rfl rfl c9 (kW e4) (kO e4)) (λo3 ⟨_,⟨k8,k9,rfl,i8,i9⟩,i0⟩=>XH 5 rfl n (λ_ A=>kB rfl (lL A i0 eJ cY)) (bS g λo4 i5 g=>XE 6 rfl (qQ (a,g7) d k2 (lx.refl _) (vY.mk kZ kZ (kX.mk ⟨e0,d6,rfl,H,I⟩) (kX.mk ⟨k8,k9,rfl,i8,i9⟩) d.kC) rfl (qT rfl rfl) i5 (λn6 d=>?_)))))))))
  have n:=d.has.kA (Kb Sn)
  refine ⟨n,(X 7 rfl n (oF rfl) (X 8 rfl n (oe rfl) (lX kr (kL (CI g rfl (λh6 g=>?_) (λh6 g=>?_))))))⟩
  ·replace d:=d.drew
   have n:=d.has.kA (Kb (Kb Sn))
   refine lU n li (X 0 rfl n (kD c7) (XH 1 rfl n (λ_ A=>kB M (lg A (Mt Mh) rfl kf)) (XH 2 rfl n (λ_ A=>kB rfl (kI A Mh b8 rfl eJ cY)) (X 4 rfl n (kD Z) (XH 5 rfl n (λ_ A=>kB rfl (kI A Mh b8 rfl eJ cY)) (bS g λb3 i6 g=>XE 3 rfl (qQ a d N (lx.refl _) (re.mk kZ (kX.mk ⟨e0,d6,rfl,H,I⟩) d.kC) rfl (pR rfl) i6 (λn7 d=>?_))))))))
   have n:=d.has.kA (Kb (Kb Sn))
   refine ⟨n,(bS g λb5 i7 g=>XE 6 rfl (qQ a d e1 (lx.refl _) (re.mk kZ (kX.mk ⟨e0,d6,rfl,H,I⟩) d.kC) rfl (pR rfl) i7 (λn8 d=>?_)))⟩
   let g6:=(⟨b3,b5,K6⟩:kq)
   have n:=d.has.kA (Kb (Kb Sn))
   refine ⟨n,(X 7 rfl n (nP (v:=(.agg (kH (g6)).toArray)) (BD rfl rfl rfl) (nt gB eP (Tw _ eP) kr)) (XE 8 rfl (lZ (cs:=(kH (g6)).toArray) d (og rfl) (oE cE cA gB) (λn9 k0 d=>?_))))⟩
   have n:=d.has.kA (Db (Kb (Kb Sn)))
   refine ⟨n,?_⟩
   replace d:=d.perm (Nr (Qb (Qb (Qb Qz))) Nz)
   refine bS g λk5 h7 g=>XE 9 rfl (qF (enc:=kH) (v:=Q) (vs:=(.slice (some ⟨k0,0,none⟩) 1 1)) (R:=K) d lW dc oQ cE xD.1 xD.2.1 rfl xD.2.2.1 xD.2.2.2 rfl rfl a7 (Sl.lit (enc:=kH) (l:=[g6]) lW rfl nb rfl (d.at_ (Ma Mh))) h7 (λo0 l0 j8 d h3=>?_))
   have n:=d.has.kA (Dr (Db (Kb (Kb Sn))))
   refine ⟨n,(X 10 rfl n (oe rfl) (lX kr (lG (lG (kL ?_)))))⟩
   replace d:=d.kA (Kr (Db (Db St)))
   exact ⟨L,l0,k5,j8,_,⟨rfl,P⟩,(d.kA (Sb (Pr Pz) St)),c5,Y,c6,Z,M,rfl,a9,c8,h3,(by rw [d3]; exact g)⟩
  refine nf (lG (lG (kL ?_)))
  replace d:=d.kA (Db St)
  exact ⟨L,Q,b0,K,_,⟨rfl,P⟩,(d.kA St),c5,Y,c6,Z,M,c7,a9,c8,a7,(by rw [d3]; exact g)⟩
 rintro E W ⟨Q,b0,K,d9,⟨L,P⟩,d,c5,Y,c6,Z,M,c7,a9,c8,a7,g⟩
 rw [bo] at g
 refine kL (kM (sg (Wh Y (V (nv dm rfl c9) (Wm (ln (CJ g (λd4 E W=>∃c4 b7 e3,ST false mN w W (hp w) (b7++e3)∧E 11=c4∧lh 193 kH 11 c4 d4 b7) (λd4 f5=>?_) ?_)))))))
 ·let e6:Value:=(.pointer (some ⟨O,0,none⟩))
  refine mV (λi E W=>∃J a8 G d1,(E 66= .int .i64 (i:Nat)∧E 65= .int .i64 (a1.length:Nat))∧ST false mN w W (hp w) ((O,Ob #[k1] 124)::(G++d1))∧E 0=a2∧E 4=d5∧E 7=e6∧E 11=J∧E 12=(.func (.func 141) #[] #[e6])∧E 64=b6∧lh 193 kH 11 J a8 G∧pT f2 a0 f4 (a1.drop i) a8=some d4) a1.length c9.len ⟨Q,b0,K,_,⟨rfl,rfl⟩,(d.kA St),c5,Z,M,c7,a9,rfl,a7,f5⟩ dc dc dc (λ_ _ _ h=>by obtain ⟨_,_,_,_,aa,_⟩:=h; exact aa) ?_ ?_
  ·rintro j4 E W f0 ⟨J,a8,G,d1,⟨L,P⟩,d,b9,c0,a3,c1,c2,c3,a4,j⟩
   obtain ⟨c,l2,g2,g1,d8⟩:=mC f0
   rw [g2] at j
   refine bg (VQ (nN (i:=(j4:Int)) (x0:=c) kX.out dm cY c3 L c9 (aX _) g1) (λm3 ⟨_,⟨m5,m6,rfl,a5,a6⟩,f6⟩=>V (kB rfl (lL d.has f6 eJ cY)) (VE (ml d eA (λl3 m1 d=>?_)))))
   obtain ⟨y,B,rfl⟩:=a5.form
   let j2:Value:=(.slice y c.Signed.Tag.length B)
   obtain ⟨z,D,rfl⟩:=a6.form
   let h1:Value:=(.slice z c.ky.Kids.length D)
   let d0:=(C3 c.Signed.kv.Kind c.Signed.kv.Head.kw c.Signed.kv.Head.Word c.Signed.kv.lO c.Signed.kv.B.kw c.Signed.kv.B.Word c.Signed.kv.C.kw c.Signed.kv.C.Word c.Signed.kv.mg y c.Signed.Tag.length B c.ky.Op c.ky.K c.ky.ku.kw c.ky.ku.Word z c.ky.Kids.length D)
   refine VO (lA (.agg d0.toArray) (d0.toArray) d rfl rfl cY oc nb rfl (λl4 d=>lr (Wh c2 (Wh b9 (V (kB a3 (lg d.has (Mt Mh) rfl kf)) (VA d Mh d0 eJ cY (bS j λe5 f7 j=>VE (qQ c d N (lx.refl _) (re.mk kZ (kX.mk ⟨j2,h1,rfl,a5,a6⟩) d.kC) rfl (pR rfl) f7 (λl5 d=>bS j λm4 f8 j=>VE (JD (args:=[a2,(.agg (kF e5).toArray)]) (caps:=#[e6]) d rfl call141 (by exact qT rfl rfl) (AD a2 a0 e5 O k1 f2 _ _ (d2.mono kZ.mono d.kC) (N.mono d.kC) (At.of (d.at_ (Mt Mh)) _ rfl) f8) (λl6 d=>Wi rfl (lu ?_))))))))))))
   refine kL (CI j rfl (λe8 j=>?_) (λe8 j=>?_))
   ·replace d:=d.drew
    have n:=d.has.kA (Kb (Kb Sn))
    refine lU n li (X 0 rfl n (kD c1) (XH 1 rfl n (λ_ A=>kB a3 (lg A (Mt Mh) rfl kf)) (XH 2 rfl n (λ_ A=>kB rfl (kI A Mh d0 rfl eJ cY)) (X 4 rfl n (kD c0) (XH 5 rfl n (λ_ A=>kB rfl (kI A Mh d0 rfl eJ cY)) (bS j λT f9 j=>XE 3 rfl (qQ c d N (lx.refl _) (re.mk kZ (kX.mk ⟨j2,h1,rfl,a5,a6⟩) d.kC) rfl (pR rfl) f9 (λl7 d=>?_))))))))
    have n:=d.has.kA (Kb (Kb Sn))
    refine ⟨n,(bS j λU g0 j=>XE 6 rfl (qQ c d e1 (lx.refl _) (re.mk kZ (kX.mk ⟨j2,h1,rfl,a5,a6⟩) d.kC) rfl (pR rfl) g0 (λl8 d=>?_)))⟩
    let j1:=(⟨T,U,K7⟩:kq)
    have n:=d.has.kA (Kb (Kb Sn))
    refine ⟨n,(X 7 rfl n (nP (v:=(.agg (kH (j1)).toArray)) (BD rfl rfl rfl) (nt gB eP (Tw _ eP) kr)) (XE 8 rfl (lZ (cs:=(kH (j1)).toArray) d (og rfl) (oE cE cA gB) (λl9 g9 d=>?_))))⟩
    have n:=d.has.kA (Db (Kb (Kb Sn)))
    refine ⟨n,?_⟩
    replace d:=d.perm (Nr (Qb (Qb (Qb Qz))) Nz)
    refine bS j λj5 e9 j=>XE 9 rfl (qF (enc:=kH) (v:=J) (vs:=(.slice (some ⟨g9,0,none⟩) 1 1)) (R:=G) d lW dc oQ cE xD.1 xD.2.1 rfl xD.2.2.1 xD.2.2.2 rfl rfl a4 (Sl.lit (enc:=kH) (l:=[j1]) lW rfl nb rfl (d.at_ (Ma Mh))) e9 (λm0 j6 g8 d e7=>?_))
    have n:=d.has.kA (Dr (Db (Kb (Kb Sn))))
    refine ⟨n,(X 10 rfl n (oe rfl) (lX kr (lG (kL ?_))))⟩
    replace d:=d.kA (Kr (Db (Db St)))
    exact ⟨L,j6,j5,g8,_,⟨rfl,P⟩,(d.kA (Sb (Pr Pz) St)),b9,c0,a3,rfl,c2,c3,e7,(by rw [d8]; exact j)⟩
   refine nf (lG (kL ?_))
   replace d:=d.kA (Db St)
   exact ⟨L,J,a8,G,_,⟨rfl,P⟩,(d.kA St),b9,c0,a3,c1,c2,c3,a4,(by rw [d8]; exact j)⟩
  rintro E W ⟨J,a8,G,d1,⟨L,P⟩,d,b9,c0,a3,c1,c2,c3,a4,j⟩
  rw [bo] at j
  refine kL ?_
  obtain rfl:=sj j
  exact ⟨J,G,_,(d.kA (Db St)),c1,a4⟩
 rintro m2 E W ⟨c4,b7,e3,d,h0,d7⟩ f1
 refine sg (Wh h0 (Wa (lt ?_)))
 obtain rfl:=sj f1
 exact nC (v:=c4) rfl rfl ⟨_,b7,rfl,d.uA (λp hq=>(Ml hq)) d7.nd,d7⟩
theorem JM (a:kU) (g c:Value) (r:kv) (w:World) (j:Sl (Pl (mh .u8)) 1 (hp w) g a.Signed.Tag) (i:Sl kz 5 (hp w) c a.ky.Kids) (hm:pe a=some r) :
  lC true pg0 70 [(.agg #[(.int .i64 a.Signed.kv.Kind),(.string a.Signed.kv.Head.kw),(.string a.Signed.kv.Head.Word),(.string a.Signed.kv.lO),(.string a.Signed.kv.B.kw),(.string a.Signed.kv.B.Word),(.string a.Signed.kv.C.kw),(.string a.Signed.kv.C.Word),(.string a.Signed.kv.mg),g,(.int .i64 a.ky.Op),(.int .i64 a.ky.K),(.string a.ky.ku.kw),(.string a.ky.ku.Word),c])] w (.agg (kF r).toArray):=by
 refine cG 6 func70 rfl (λd=>sg ?_)
 obtain ⟨k,u,rfl⟩:=j.form
 obtain ⟨t,x,rfl⟩:=i.form
 refine VE (lM d rfl (λy D d=>VE (ml d dU (λz G d=>lr (Wf Au (Wf D5 (VA d (Mt Mh) (kF a.Signed.kv) cU bE (VO (lA (.agg (kF a.Signed.kv).toArray) ((kF a.Signed.kv).toArray) d rfl rfl bE (su a.Signed.kv) nb rfl (λB d=>ln ?_))))))))))
 replace d:=d.kA (Kb (Db St))
 refine lJ ?_
 obtain rfl:=sj hm
 exact rY (v:=(.agg (kF a.Signed.kv).toArray)) rfl rfl (kI d.has Mh (kF a.Signed.kv) rfl cU bE) ⟨rfl,d.ex⟩
theorem H7 (a:Value) (j:List Int) (c:Value) (k:List Int) (r:Bool) (w:World) (g:Sl (Pl (mh .u8)) 1 (hp w) a j) (i:Sl (Pl (mh .u8)) 1 (hp w) c k) (hm:zn j k=some r) :
  lC true pg0 72 [a,c] w (.bool r):=by
 refine cG 10 func72 rfl (λd=>sg (Wa (lr (Wm (V (RO dz iL cO rfl (g.mono (Pl.mono _) d.kC)) (Wm (V (RO dz iL cO rfl (i.mono (Pl.mono _) d.kC)) (V (Gt rfl rfl rfl) (Wa (lu ?_))))))))))
 exact kL (lJ (rQ hm d))
theorem ua (G:Value) (N:List Formula) (H:Value) (p:List Formula) (I:Value) (f2:(Formula×Formula)→Option Bool) (r:Bool) (w:World) (x:Sl kz 5 (hp w) G N) (Q:Sl kz 5 (hp w) H p) (L:vL pg0 I (hp w) (vY kz kz) (λ(r:Bool)=>(.bool r)) f2) (hm:oA N p f2=some r) :
  lC false pg0 136 [G,H,I] w (.bool r):=by
 refine cG 32 func136 rfl (λd=>sg (Wa (lS (Wm (V (nv aN rfl x) (Wm (V (nv aN rfl Q) (Wi rfl (lu ?_)))))))))
 refine kL (CI hm rfl (λP hm=>?_) (λP hm=>?_))
 ·refine sg (Wa (lt (mL ?_)))
  obtain rfl:=sj hm
  exact rP d
 refine kS (Wm (V (nv aN rfl x) (Wm (ln (mV (λi E W=>∃y,(E 17= .int .i64 (i:Nat)∧E 16= .int .i64 (N.length:Nat))∧ST false mN w W (hp w) y∧E 1=H∧E 2=I∧E 15=G∧mF p f2 (N.drop i) i=some r) N.length x.len ⟨_,⟨rfl,rfl⟩,(d.kA St),rfl,rfl,rfl,hm⟩ dc dc dc (λ_ _ _ h=>by obtain ⟨_,v,_⟩:=h; exact v) ?_ ?_)))))
 ·rintro a4 E W U ⟨y,⟨n,A⟩,d,z,B,D,a⟩
  obtain ⟨g,c5,a9,O,a3⟩:=mC U
  rw [a9] at a
  refine bg (Wh n (VQ (nN (i:=(a4:Int)) (x0:=g) kz.out aN aH D n x (aX _) O) (λb9 ⟨_,⟨c2,rfl,J⟩,Y⟩=>V (kB rfl (lL d.has Y bL aH)) (VE (ml d bR (λR b6 d=>Wa ?_))))))
  obtain ⟨j,t,rfl⟩:=J.form
  let a0:=(C2 g.Op g.K g.ku.kw g.ku.Word j g.Kids.length t)
  refine VO (lA (.agg a0.toArray) (a0.toArray) d rfl rfl aH oc nb rfl (λb2 d=>lr (Wh z (Wm (bS a λc M a=>VQ (nN (i:=(a4:Int)) (x0:=c) kz.out aN aH rfl rfl Q (kW M) (kO M)) (λc0 ⟨_,⟨c3,rfl,K⟩,Z⟩=>V (kB rfl (lL d.has Z bL aH)) (VE (ml d bR (λb3 b7 d=>?_)))))))))
  obtain ⟨k,u,rfl⟩:=K.form
  let a5:=(C2 c.Op c.K c.ku.kw c.ku.Word k c.Kids.length u)
  refine VO (lA (.agg a5.toArray) (a5.toArray) d rfl rfl aH oc nb rfl (λb4 d=>lr (Wh B (VA d (Mt Mh) a0 bL aH (VA d Mh a5 bL aH (bS a λc1 a2 a=>VE (qQ (g,c) d L (lx.refl _) (vY.mk kT kT (kz.mk ⟨(.slice j g.Kids.length t),rfl,J⟩) (kz.mk ⟨(.slice k c.Kids.length u),rfl,K⟩) d.kC) rfl (qT rfl rfl) a2 (λb5 d=>V (oF rfl) (ln ?_)))))))))
  replace d:=d.kA (Db (Db St))
  refine CI a rfl (λT a=>?_) (λT a=>?_)
  ·refine sg (Wa (lt (pO (mL (pO (mL ?_))))))
   obtain rfl:=sj a
   exact rP d
  exact nf (lG (kL ⟨n,_,⟨rfl,A⟩,(d.kA St),z,B,D,(by rw [a3]; exact a)⟩))
 rintro E W ⟨y,⟨n,A⟩,d,z,B,D,a⟩
 rw [bo] at a
 exact kL (sg (Wa (lt (rQ a d))))
theorem Ii (M:Formula→Formula→Option Bool) (b5:∀(a:Formula) (j:Value) (c:Formula) (k:Value) (r:Bool) (w:World) (u:Sl kz 5 (hp w) j a.Kids) (y:Sl kz 5 (hp w) k c.Kids),M a c=some r→lC false pg0 61 [(.agg #[(.int .i64 a.Op),(.int .i64 a.K),(.string a.ku.kw),(.string a.ku.Word),j]),(.agg #[(.int .i64 c.Op),(.int .i64 c.K),(.string c.ku.kw),(.string c.ku.Word),k])] w (.bool r)) (a:Formula) (j:Value) (c:Formula) (k:Value) (r:Bool) (w:World) (u:Sl kz 5 (hp w) j a.Kids) (y:Sl kz 5 (hp w) k c.Kids) (hm:zI M a c=some r) :
  lC false pg0 61 [(.agg #[(.int .i64 a.Op),(.int .i64 a.K),(.string a.ku.kw),(.string a.ku.Word),j]),(.agg #[(.int .i64 c.Op),(.int .i64 c.K),(.string c.ku.kw),(.string c.ku.Word),k])] w (.bool r):=by
 refine cG 31 func61 rfl (λd=>sg ?_)
 obtain ⟨N,Y,rfl⟩:=u.form
 let n:=(C2 a.Op a.K a.ku.kw a.ku.Word N a.Kids.length Y)
 refine VE (lM d rfl (λW4 T d=>?_))
 obtain ⟨Q,Z,rfl⟩:=y.form
 let a0:=(C2 c.Op c.K c.ku.kw c.ku.Word Q c.Kids.length Z)
 refine VE (lM d rfl (λW8 U d=>Wa (lr (Wf xc (VB d (Mt Mh) rfl rfl dJ (Wf xc (VB d Mh rfl rfl dJ (Wi rfl (Wm (LJ hm (λa9 E W=>∃a2,ST false mN w W (hp w) ((U,Ol a0 30)::((T,Ol n 30)::a2))∧E 2=(.pointer (some ⟨T,0,none⟩))∧E 3=(.pointer (some ⟨U,0,none⟩))∧E 4=(.bool false)∧E 16=(.bool a9)) 6 ?_ (λa9 D I=>?_)))))))))))
 ·rintro d1 E W ⟨a2,d,J,K,a5,b6⟩ L
  refine Wh b6 (LJ L (λA E W=>∃a3,ST false mN w W (hp w) ((U,Ol a0 30)::((T,Ol n 30)::a3))∧E 2=(.pointer (some ⟨T,0,none⟩))∧E 3=(.pointer (some ⟨U,0,none⟩))∧E 4=(.bool false)∧E 23=(.bool A)) 6 ?_ (λA B H=>?_))
  ·rintro d2 E W ⟨a3,d,b9,c0,p,c1⟩ O
   refine Wh c1 (LJ O (λv E W=>∃a4,ST false mN w W (hp w) a4∧E 4=(.bool false)∧E 30=(.bool v)) 6 ?_ (λv z G=>?_))
   ·rintro d3 E W ⟨a4,d,c9,c3⟩ P
    exact Wg c3 (lt (rQ P d))
   refine bC z (λi z=>?_) (λi z=>?_)
   ·refine ug i (kN vA b9) (ug i (kB rfl (lg d.has (Mt Mh) rfl fJ)) (ug i (kN vA c0) (ug i (kB rfl (lg d.has Mh rfl fJ)) (bS z λd0 R z=>ue i (Eg d call136 (ua (.slice N a.Kids.length Y) a.Kids (.slice Q c.Kids.length Z) c.Kids (.func (.func 61) #[] #[]) (λ(x:(Formula×Formula))=>M x.1 x.2) _ _ (u.mono kT.mono d.kC) (y.mono kT.mono d.kC) ⟨61,#[],#[],rfl,call61,λW x vs r hs hR hm=>by obtain ⟨_,_,rfl,c4,c5⟩:=hR; obtain ⟨u0,rfl,k0⟩:=c4.out; obtain ⟨t0,rfl,j0⟩:=c5.out; exact b5 x.1 u0 x.2 t0 r W k0 j0 hm⟩ R) (λc8 d=>V (lK (cB i) rfl) ?_))))))
    obtain rfl:=sj z
    exact G _ _ ⟨_,(d.kA (Db (Db St))),p,rfl⟩
   refine un i (un i (un i (un i (un i (V (lN (cB i) rfl) ?_)))))
   obtain rfl:=sj z
   exact G _ _ ⟨_,(d.kA (Db (Db St))),p,rfl⟩
  refine bC B (λg B=>?_) (λg B=>?_)
  ·refine ug g (kN Br J) (ug g (kB rfl (kI d.has (Mt Mh) (kJ a.ku) rfl bZ bF)) (ug g (kN Br K) (ug g (kB rfl (kI d.has Mh (kJ c.ku) rfl bZ bF)) (ug g (ER rfl rfl (uC jH) (AY (Ab _ a.ku c.ku))) (V (lK (cB g) rfl) ?_)))))
   obtain rfl:=sj B
   exact H _ _ ⟨_,(d.kA St),J,K,a5,rfl⟩
  refine un g (un g (un g (un g (un g (V (lN (cB g) rfl) ?_)))))
  obtain rfl:=sj B
  exact H _ _ ⟨_,(d.kA St),J,K,a5,rfl⟩
 refine bC D (λt D=>?_) (λt D=>?_)
 ·refine ug t (kN Bw rfl) (ug t (kB rfl (lg d.has (Mt Mh) rfl dJ)) (ug t (kN Bw rfl) (ug t (kB rfl (lg d.has Mh rfl dJ)) (ug t (lY rfl rfl rfl) (V (lK (cB t) rfl) ?_)))))
  obtain rfl:=sj D
  exact I _ _ ⟨_,(d.kA St),rfl,rfl,rfl,rfl⟩
 refine un t (un t (un t (un t (un t (V (lN (cB t) rfl) ?_)))))
 obtain rfl:=sj D
 exact I _ _ ⟨_,(d.kA St),rfl,rfl,rfl,rfl⟩
theorem yG:∀(n:Nat) (g:Formula) (a:Value) (i:Formula) (c:Value) (r:Bool) (w:World) (j:Sl kz 5 (hp w) a g.Kids) (k:Sl kz 5 (hp w) c i.Kids) (_:pu n g i=some r),
  lC false pg0 61 [(.agg #[(.int .i64 g.Op),(.int .i64 g.K),(.string g.ku.kw),(.string g.ku.Word),a]),(.agg #[(.int .i64 i.Op),(.int .i64 i.K),(.string i.ku.kw),(.string i.ku.Word),c])] w (.bool r)
 | 0=>by intros; rename_i h; simp only [pu] at h; cases h
 | n+1=>Ii (pu n) (yG n)
theorem JO (a:kU) (y k:Value) (c:kU) (z t:Value) (r:Bool) (w:World) (u:Sl (Pl (mh .u8)) 1 (hp w) y a.Signed.Tag) (i:Sl kz 5 (hp w) k a.ky.Kids) (x:Sl (Pl (mh .u8)) 1 (hp w) z c.Signed.Tag) (j:Sl kz 5 (hp w) t c.ky.Kids) (hm:qC a c=some r) :
  lC false pg0 71 [(.agg #[(.int .i64 a.Signed.kv.Kind),(.string a.Signed.kv.Head.kw),(.string a.Signed.kv.Head.Word),(.string a.Signed.kv.lO),(.string a.Signed.kv.B.kw),(.string a.Signed.kv.B.Word),(.string a.Signed.kv.C.kw),(.string a.Signed.kv.C.Word),(.string a.Signed.kv.mg),y,(.int .i64 a.ky.Op),(.int .i64 a.ky.K),(.string a.ky.ku.kw),(.string a.ky.ku.Word),k]),(.agg #[(.int .i64 c.Signed.kv.Kind),(.string c.Signed.kv.Head.kw),(.string c.Signed.kv.Head.Word),(.string c.Signed.kv.lO),(.string c.Signed.kv.B.kw),(.string c.Signed.kv.B.Word),(.string c.Signed.kv.C.kw),(.string c.Signed.kv.C.Word),(.string c.Signed.kv.mg),z,(.int .i64 c.ky.Op),(.int .i64 c.ky.K),(.string c.ky.ku.kw),(.string c.ky.ku.Word),t])] w (.bool r):=by
 refine cG 19 func71 rfl (λd=>sg ?_)
 obtain ⟨U,Z,rfl⟩:=u.form
 obtain ⟨J,M,rfl⟩:=i.form
 refine VE (lM d rfl (λW6 P d=>?_))
 obtain ⟨Y,n,rfl⟩:=x.form
 obtain ⟨K,G,rfl⟩:=j.form
 refine VE (lM d rfl (λa4 v d=>Wa (lr (Wf Au (Wf LV (VB d (Mt Mh) rfl rfl gC (Wf Au (Wf LV (VB d Mh rfl rfl gC (bS hm λa9 Q hm=>VE (Eg d call72 (lC.nx (H7 (.slice U a.Signed.Tag.length Z) a.Signed.Tag (.slice Y c.Signed.Tag.length n) c.Signed.Tag _ _ (u.mono (Pl.mono _) d.kC) (x.mono (Pl.mono _) d.kC) Q)) (λa5 d=>Wm ?_))))))))))))
 refine LJ hm (λI E W=>∃H,ST false mN w W (hp w) H∧E 4=(.bool false)∧E 18=(.bool I)) 6 ?_ (λI B D=>?_)
 ·rintro O E W ⟨H,d,A,a3⟩ N
  exact Wg a3 (lt (rQ N d))
 refine bC B (λg B=>?_) (λg B=>?_)
 ·refine ug g (kN I8 rfl) (ug g (kB rfl (kI d.has (Mt Mh) (C2 a.ky.Op a.ky.K a.ky.ku.kw a.ky.ku.Word J a.ky.Kids.length M) rfl bL aH)) (ug g (kN I8 rfl) (ug g (kB rfl (kI d.has Mh (C2 c.ky.Op c.ky.K c.ky.ku.kw c.ky.ku.Word K c.ky.Kids.length G) rfl bL aH)) (bS B λL T B=>ue g (Eg d call61 ((yG kY) a.ky (.slice J a.ky.Kids.length M) c.ky (.slice K c.ky.Kids.length G) _ _ (i.mono kT.mono d.kC) (j.mono kT.mono d.kC) T) (λp d=>V (lK (cB g) rfl) ?_))))))
  obtain rfl:=sj B
  exact D _ _ ⟨_,(d.kA (Db (Db St))),rfl,rfl⟩
 refine un g (un g (un g (un g (un g (V (lN (cB g) rfl) ?_)))))
 obtain rfl:=sj B
 exact D _ _ ⟨_,(d.kA (Db (Db St))),rfl,rfl⟩
theorem Z5 (w:World) (s:ByteArray) (c:Int):(callFunc 282 [Value.string s,.int .u8 c].toArray).run pg0 w= .ok (.value (.int .i64 (Ba s c))) w:=MK func282 (by kernel_rfl) (by kernel_rfl) (by kernel_rfl) (by kernel_rfl) s c w
theorem B7 (a:ByteArray) (c r:Int) (w:World) (hm:rc a c=some r) :
  lC true pg0 220 [(.string a),(.int .u8 c)] w (.int .i64 r):=by
 exact cG 8 func220 rfl (λd=>sg (Wa (lr (Wm (Wm (VE (OD (args:=[(.string a),(.int .u8 c)]) (v:=.int .i64 (Ba a c)) rfl (by exact qT rfl rfl) (Z5 _ a c) (Wa (lt (rQ hm d))))))))))
theorem De (a:ByteArray) (c r:Int) (w:World) (hm:uM a c=some r) :
  lC true pg0 163 [(.string a),(.int .u8 c)] w (.int .i64 r):=by
 refine cG 8 func163 rfl (λd=>sg (Wa (lr (Wm (Wm (bS hm λj g hm=>VE (Eg d call220 (B7 a c _ _  g) (λi d=>Wa (ln ?_)))))))))
 exact lJ (rQ hm d)
theorem QW (I:ByteArray) (r:Bool) (w:World) (hm:Gw I=some r) :
  lC true pg0 164 [(.string I)] w (.bool r):=by
 refine cG 16 func164 rfl (λd=>sg (Wa (lS (Wm (bS hm λH J hm=>VE (N3 d cO dz iL rfl J (λW3 N T d M A j Y=>V (nv dz rfl j) (Wm (lu ?_)))))))))
 refine kL (mV (λi E W=>∃c,(E 8= .int .i64 (i:Nat)∧E 7= .int .i64 (H.length:Nat))∧ST true mN w W T c∧E 6=N∧yE (H.drop i)=some r) H.length j.len ⟨_,⟨rfl,rfl⟩,(d.kA St),rfl,hm⟩ dc dc dc (λ_ _ _ h=>by obtain ⟨_,p,_⟩:=h; exact p) ?_ ?_)
 ·rintro K E W u ⟨c,⟨n,v⟩,d,g,a⟩
  obtain ⟨k,Q,D,B,G⟩:=mC u
  rw [D] at a
  refine bg (VQ (uR (enc:=(mh .u8)) (i:=(K:Int)) (x0:=k) dz sizeOf5 g n j (aX _) B) (λZ x=>V (kB rfl (sJ d.has (y:=(.int .u8 k)) x isAgg5)) (Wa (lr (Wm (bS a λL z a=>VE (Eg d call163 (De (⟨#[97,98,99,100,101,102,103,104,105,106,107,108,109,110,111,112,113,114,115,116,117,118,119,120,121,122,48,49,50,51,52,53,54,55,56,57,45]⟩:ByteArray) k _ _  z) (λU d=>Wi rfl (lu ?_)))))))))
  refine kL (CI a rfl (λt a=>?_) (λt a=>?_))
  ·refine sg (Wa (lt (pO (mL (pO (mL ?_))))))
   obtain rfl:=sj a
   exact rP d
  exact nf (lG (kL ⟨n,_,⟨rfl,v⟩,(d.kA St),g,(by rw [G]; exact a)⟩))
 rintro E W ⟨c,⟨n,v⟩,d,g,a⟩
 rw [bo] at a
 exact kL (sg (Wa (lt (rQ a d))))
theorem yo (z:ByteArray) (r:Bool) (w:World) (hm:uw z=some r) :
  lC true pg0 93 [(.string z)] w (.bool r):=by
 refine cG 21 func93 rfl (λd=>sg (Wa (lr (Wm (V (rU cO rfl) (Wi rfl (Wm (LJ hm (λK E W=>∃Y,ST true mN w W (hp w) Y∧E 0=(.string z)∧E 2=(.bool false)∧E 10=(.bool K)) 4 ?_ (λK t y=>?_)))))))))
 ·rintro x2 E W ⟨Y,d,M,n,v⟩ a5
  refine Wh v (LJ a5 (λJ E W=>∃D,ST true mN w W (hp w) D∧E 0=(.string z)∧E 2=(.bool false)∧E 16=(.bool J)) 5 ?_ (λJ a x=>?_))
  ·rintro R E W ⟨D,d,p,H,a2⟩ N
   refine Wh a2 (LJ N (λI E W=>∃G,ST true mN w W (hp w) G∧E 2=(.bool false)∧E 20=(.bool I)) 3 ?_ (λI j u=>?_))
   ·rintro b3 E W ⟨G,d,a9,a3⟩ Q
    exact Wg a3 (lt (rQ Q d))
   refine bC j (λg j=>?_) (λg j=>?_)
   ·refine ug g (kD p) (bS j λO T j=>ue g (Eg d call164 (QW z _ _  T) (λA d=>V (lK (cB g) rfl) ?_)))
    obtain rfl:=sj j
    exact u _ _ ⟨_,(d.kA St),H,rfl⟩
   refine un g (un g (V (lN (cB g) rfl) ?_))
   obtain rfl:=sj j
   exact u _ _ ⟨_,(d.kA St),H,rfl⟩
  refine bC a (λc a=>?_) (λc a=>?_)
  ·refine ug c (kD M) (bS a λZ B a=>ug c (TK (i:=0) cO rfl rfl (QO B) (V1 B)) (bS a λP U a=>ue c (Eg d call163 (De (⟨#[97,98,99,100,101,102,103,104,105,106,107,108,109,110,111,112,113,114,115,116,117,118,119,120,121,122]⟩:ByteArray) (Z.toNat:Int) _ _  U) (λL d=>ug c (lY rfl rfl rfl) (V (lK (cB c) rfl) ?_)))))
   obtain rfl:=sj a
   exact x _ _ ⟨_,(d.kA St),M,n,rfl⟩
  refine un c (un c (un c (un c (V (lN (cB c) rfl) ?_))))
  obtain rfl:=sj a
  exact x _ _ ⟨_,(d.kA St),M,n,rfl⟩
 refine bC t (λk t=>?_) (λk t=>?_)
 ·refine ug k (kD rfl) (ug k (rU cO rfl) (ug k (lY rfl rfl rfl) (V (lK (cB k) rfl) ?_)))
  obtain rfl:=sj t
  exact y _ _ ⟨_,(d.kA St),rfl,rfl,rfl⟩
 refine un k (un k (un k (V (lN (cB k) rfl) ?_)))
 obtain rfl:=sj t
 exact y _ _ ⟨_,(d.kA St),rfl,rfl,rfl⟩
theorem vH (i:ku) (r:Bool) (w:World) (hm:rZ i=some r) :
  lC true pg0 206 [(.agg (kJ i).toArray)] w (.bool r):=by
 refine cG 11 func206 rfl (λd=>sg (VE (lM d rfl (λH J d=>Wa (lr (Wf yB (VB d Mh rfl rfl cN (bS hm λK y hm=>VE (Eg d call93 (yo i.kw _ _  y) (λI d=>Wm (LJ hm (λk E W=>∃j,ST true mN w W (hp w) j∧E 2=(.bool false)∧E 10=(.bool k)) 4 ?_ (λk a g=>?_))))))))))))
 ·rintro G E W ⟨j,d,B,x⟩ t
  exact Wg x (lt (rQ t d))
 refine bC a (λc a=>?_) (λc a=>?_)
 ·refine ug c (kN Ae rfl) (ug c (kB rfl (lg d.has Mh rfl cN)) (bS a λD u a=>ue c (Eg d call93 (yo i.Word _ _  u) (λz d=>V (lK (cB c) rfl) ?_))))
  obtain rfl:=sj a
  exact g _ _ ⟨_,(d.kA (Db St)),rfl,rfl⟩
 refine un c (un c (un c (V (lN (cB c) rfl) ?_)))
 obtain rfl:=sj a
 exact g _ _ ⟨_,(d.kA (Db St)),rfl,rfl⟩
theorem ZL (w:World) (a b:ByteArray):(callFunc 273 [Value.string a,.string b].toArray).run pg0 w= .ok (.value (.int .i64 (rX a b))) w:=Vk func273 (by kernel_rfl) (by kernel_rfl) (by kernel_rfl) (by kernel_rfl) a b w
theorem BY (a c:ByteArray) (r:Int) (w:World) (hm:pV a c=some r) :
  lC true pg0 215 [(.string a),(.string c)] w (.int .i64 r):=by
 exact cG 8 func215 rfl (λd=>sg (Wa (lr (Wm (Wm (VE (OD (args:=[(.string a),(.string c)]) (v:=.int .i64 (rX a c)) rfl (by exact qT rfl rfl) (ZL _ a c) (Wa (lt (rQ hm d))))))))))
theorem EN (a c:ByteArray) (r:Int) (w:World) (hm:sK a c=some r) :
  lC true pg0 156 [(.string a),(.string c)] w (.int .i64 r):=by
 refine cG 8 func156 rfl (λd=>sg (Wa (lr (Wm (Wm (bS hm λj g hm=>VE (Eg d call215 (BY a c _ _  g) (λi d=>Wa (ln ?_)))))))))
 exact lJ (rQ hm d)
theorem Qe (g:Value) (t:List Int) (r:Int) (w:World) (c:Sl (Pl (mh .i64)) 1 (hp w) g t) (hm:yv t=some r) :
  lC true pg0 155 [g] w (.int .i64 r):=by
 refine cG 18 func155 rfl (λd=>sg (Wa (lr (Wa (lS (Wm ?_))))))
 refine V (nv underlying257 rfl c) (Wm (ln (mV (λi E W=>∃k,(E 8= .int .i64 (i:Nat)∧E 7= .int .i64 (t.length:Nat))∧ST true mN w W (hp w) k∧E 3=(.int .i64 0)∧E 6=g∧vK (t.drop i)=some r) t.length c.len ⟨_,⟨rfl,rfl⟩,(d.kA St),rfl,rfl,hm⟩ dc dc dc (λ_ _ _ h=>by obtain ⟨_,p,_⟩:=h; exact p) ?_ ?_)))
 ·rintro J E W B ⟨k,⟨n,v⟩,d,j,u,a⟩
  obtain ⟨x,K,H,G,I⟩:=mC B
  rw [H] at a
  refine bg (VQ (uR (enc:=(mh .i64)) (i:=(J:Int)) (x0:=x) underlying257 gz u n c (aX _) G) (λM D=>V (kB rfl (sJ d.has (y:=(.int .i64 x)) D dJ)) (Wa (lr (Wm (Wh j (Wi rfl (ln ?_))))))))
  refine CI a rfl (λz a=>?_) (λz a=>?_)
  ·refine sg (Wm (Wa (lt (pO (mL (pO (mL ?_)))))))
   obtain rfl:=sj a
   exact rP d
  exact nf (lG (kL ⟨n,_,⟨rfl,v⟩,(d.kA St),j,u,(by rw [I]; exact a)⟩))
 rintro E W ⟨k,⟨n,v⟩,d,j,u,a⟩
 rw [bo] at a
 exact kL (sg (Wh j (Wa (lt (rQ a d)))))
theorem Dn (g i:ku) (r:Int) (w:World) (hm:ov g i=some r) :
  lC true pg0 83 [(.agg (kJ g).toArray),(.agg (kJ i).toArray)] w (.int .i64 r):=by
 refine cG 17 func83 rfl (λd=>sg (VE (lM d rfl (λG I d=>VE (lM d rfl (λH J d=>Wa (ln (kM ?_))))))))
 replace d:=d.drew
 have n:=d.has.kA (Kb (Kb Sn))
 refine lU n li (X 0 rfl n (kN yB rfl) (XH 1 rfl n (λ_ p=>kB rfl (lg p (Mt Mh) rfl cN)) (X 2 rfl n (kN yB rfl) (XH 3 rfl n (λ_ p=>kB rfl (lg p Mh rfl cN)) (X 5 rfl n (kN Ae rfl) (XH 6 rfl n (λ_ p=>kB rfl (lg p (Mt Mh) rfl cN)) (X 7 rfl n (kN Ae rfl) (XH 8 rfl n (λ_ p=>kB rfl (lg p Mh rfl cN)) (bS hm λa j hm=>XE 4 rfl (Eg d call156 (EN g.kw i.kw _ _  j) (λx d=>?_)))))))))))
 have n:=d.has.kA (Kb (Kb Sn))
 refine ⟨n,(bS hm λc k hm=>XE 9 rfl (Eg d call156 (EN g.Word i.Word _ _  k) (λy d=>?_)))⟩
 have n:=d.has.kA (Kb (Kb Sn))
 refine ⟨n,(XE 10 rfl (lZ (cs:=#[(.int .i64 a),(.int .i64 c)]) d (vC rfl rfl) (oE underlying257 gz zeroValue3) (λz u d=>?_)))⟩
 have n:=d.has.kA (Db (Kb (Kb Sn)))
 refine ⟨n,(bS hm λD t hm=>XE 11 rfl (Eg d call155 (Qe (.slice (some ⟨u,0,none⟩) 2 2) ([a,c]) _ _ (Sl.lit (enc:=(mh .i64)) (l:=[a,c]) (λ_=>rfl) rfl nb rfl (d.at_ Mh)) t) (λB d=>?_)))⟩
 have n:=d.has.kA (Db (Kb (Kb Sn)))
 refine ⟨n,(X 12 rfl n (oe rfl) (lX kr (kL ?_)))⟩
 exact lJ (rQ hm d)
set_option maxHeartbeats 4000000 in
theorem Av (a:kv) (r:Bool) (w:World) (hm:vE a=some r) :
  lC true pg0 144 [(.agg (kF a).toArray)] w (.bool r):=by
 let m9:=(⟨a.Kind,a.Head,zS,a.B,a.C,zS⟩:kv)
 let j2:=(⟨a.Kind,a.Head,zS,a.B,K0,a.mg⟩:kv)
 let j1:Value:=(.agg (kJ a.B).toArray)
 let g6:=((kF (⟨a.Kind,a.Head,zS,a.B,K0,zS⟩:kv)).toArray)
 let P:=(⟨a.Kind,a.Head,zS,K0,K0,zS⟩:kv)
 refine cG 98 func144 rfl (λd=>sg (VE (lM d rfl (λW2 N d=>Wa (lr (Wf Bq (VB d Mh rfl rfl dJ (Wf xL (VA d Mh (kJ a.Head) bZ bF (V (nP (v:=(.agg (kF P).toArray)) (vC rfl rfl) (nt dU et (Z8 _ et) kr)) (VE (ml d dU (λW4 B d=>?_)))))))))))))
 refine VO (lA (.agg (kF P).toArray) ((kF P).toArray) d rfl rfl bE (su P) nb rfl (λW5 d=>lr (Wf xL (VA d (Mt Mh) (kJ a.Head) bZ bF (bS hm λO j4 hm=>VE (Eg d jS (vH a.Head _ _  j4) (λW8 d=>Wa (ln (kM (CJs hm (λb5 E W=>∃b6,ST true mN w W (hp w) ((B,Ol (kF b5.2) 52)::((N,Ol (kF a) 52)::b6))∧E 1=(.pointer (some ⟨N,0,none⟩))∧E 3=(.pointer (some ⟨B,0,none⟩))∧E 4=(.bool b5.1)) (λb5 g Z=>?_) ?_))))))))))
 ·let g5:=((kF m9).toArray:Array Value)
  let b8:=((kF j2).toArray:Array Value)
  let L:Value:=(.pointer (some ⟨B,0,none⟩))
  let A:Value:=(.pointer (some ⟨N,0,none⟩))
  let a0:=((kF a).toArray:Array Value)
  refine sg (Wf Bq (VB d (Mt Mh) rfl rfl dJ (ln (bg (Wi rfl (Wa (ln (CI g rfl (λe5 g=>?_) (λe5 g=>?_)))))))))
  ·replace d:=d.drew
   have n:=d.has.kA (Db (Kb Sn))
   refine lU n li (X 0 rfl n (kN FA rfl) (XH 1 rfl n (λ_ p=>kB rfl (lg p Mh rfl cN)) (X 2 rfl n (kD rfl) (X 3 rfl n (kD rfl) (X 8 rfl n (kN FA rfl) (PJ g (λd6 E W=>∃b9,ST true mN w W (hp w) ((B,Ol (kF P) 52)::((N,Obj.cells a0 52 (0,0))::b9))∧E 1=A∧E 3=L∧E 4=(.bool O)∧E 18=(.string a.lO)∧E 24=(.bool d6)∧E 25=(.pointer (some ⟨B,3,none⟩))) (bm 11 511) 2 ?_ (λd6 D a2=>?_)))))))
   ·rintro m1 E W ⟨b9,d,h2,h3,k8,h4,h5,h6⟩ f1
    refine XO 9 rfl (lA (.string a.lO) ((kF (⟨a.Kind,a.Head,a.lO,K0,K0,zS⟩:kv)).toArray) d h6 h4 eH (V8 a.lO) nb rfl (λj5 d=>?_))
    have n:=d.has.kA (Db (Kb Sn))
    refine ⟨n,(X 10 rfl n (oe h5) (lX kr (lG (kL ?_))))⟩
    obtain rfl:=sj f1
    exact ⟨_,rfl,_,(d.kA St),h2,h3,rfl⟩
   refine bC D (λk D=>?_) (λk D=>?_)
   ·refine Xg 4 rfl rfl (cB k) n (kN FA rfl) (Aj 5 rfl rfl (cB k) n (λ_ p=>kB rfl (lg p Mh rfl cN)) (bS D λl2 f9 D=>Mf 6 rfl rfl (cB k) (Eg d call93 (yo a.lO _ _  f9) (λj6 d=>?_))))
    have n:=d.has.kA (Db (Kb Sn))
    refine ⟨n,(X 7 rfl n (lK (cB k) rfl) ?_)⟩
    obtain rfl:=sj D
    refine rN kr (a2 _ _ ⟨_,(d.kA St),rfl,rfl,rfl,rfl,rfl,rfl⟩)
   refine Xn 4 rfl rfl (cB k) n (Xn 5 rfl rfl (cB k) n (Xn 6 rfl rfl (cB k) n (X 7 rfl n (lN (cB k) rfl) ?_)))
   obtain rfl:=sj D
   refine rN kr (a2 _ _ ⟨_,(d.kA St),rfl,rfl,rfl,rfl,rfl,rfl⟩)
  refine sg (Wi rfl (Wa (ln (CI g rfl (λe6 g=>?_) (λe6 g=>?_)))))
  ·replace d:=d.drew
   have n:=d.has.kA (Db (Kb Sn))
   refine lU n li (X 0 rfl n (kN rK rfl) (XH 1 rfl n (λ_ p=>kB rfl (kI p Mh (kJ a.B) rfl bZ bF)) (X 2 rfl n (kD rfl) (X 3 rfl n (kD rfl) (X 8 rfl n (kN rK rfl) (PJ g (λd7 E W=>∃c0,ST true mN w W (hp w) ((B,Ol (kF P) 52)::((N,Obj.cells a0 52 (0,0))::c0))∧E 1=A∧E 3=L∧E 4=(.bool O)∧E 29=j1∧E 35=(.bool d7)∧E 36=(.pointer (some ⟨B,4,none⟩))) (bm 11 511) 2 ?_ (λd7 G a3=>?_)))))))
   ·rintro m2 E W ⟨c0,d,h7,h8,k9,h9,i0,i1⟩ f2
    refine XO 9 rfl (lA j1 g6 d i1 h9 bF (AZ a.B) nb rfl (λj7 d=>?_))
    have n:=d.has.kA (Db (Kb Sn))
    refine ⟨n,(X 10 rfl n (oe i0) (lX kr (lG (kL ?_))))⟩
    obtain rfl:=sj f2
    exact ⟨_,rfl,_,(d.kA St),h7,h8,rfl⟩
   refine bC G (λt G=>?_) (λt G=>?_)
   ·refine Xg 4 rfl rfl (cB t) n (kN rK rfl) (Aj 5 rfl rfl (cB t) n (λ_ p=>kB rfl (kI p Mh (kJ a.B) rfl bZ bF)) (bS G λl3 g0 G=>Mf 6 rfl rfl (cB t) (Eg d jS (vH a.B _ _  g0) (λj8 d=>?_))))
    have n:=d.has.kA (Db (Kb Sn))
    refine ⟨n,(X 7 rfl n (lK (cB t) rfl) ?_)⟩
    obtain rfl:=sj G
    refine rN kr (a3 _ _ ⟨_,(d.kA St),rfl,rfl,rfl,rfl,rfl,rfl⟩)
   refine Xn 4 rfl rfl (cB t) n (Xn 5 rfl rfl (cB t) n (Xn 6 rfl rfl (cB t) n (X 7 rfl n (lN (cB t) rfl) ?_)))
   obtain rfl:=sj G
   refine rN kr (a3 _ _ ⟨_,(d.kA St),rfl,rfl,rfl,rfl,rfl,rfl⟩)
  refine sg (Wi rfl (Wa (ln (CI g rfl (λe7 g=>?_) (λe7 g=>?_)))))
  ·refine kM ?_
   replace d:=d.drew
   have n:=d.has.kA (Db (Kb Sn))
   refine lU n li (X 0 rfl n (kN rK rfl) (XH 1 rfl n (λ_ p=>kB rfl (kI p Mh (kJ a.B) rfl bZ bF)) (X 2 rfl n (kN CT rfl) (XH 3 rfl n (λ_ p=>kB rfl (lg p Mh rfl cN)) (X 4 rfl n (kN rK rfl) (XO 5 rfl (lA j1 g6 d rfl rfl bF (AZ a.B) nb rfl (λj9 d=>?_))))))))
   have n:=d.has.kA (Db (Kb Sn))
   refine ⟨n,(X 6 rfl n (kN CT rfl) (XO 7 rfl (lA (.string a.mg) ((kF j2).toArray) d rfl rfl eH (V8 a.mg) nb rfl (λk0 d=>?_))))⟩
   have n:=d.has.kA (Db (Kb Sn))
   refine ⟨n,(lX kr (kL (kK (Wm (Wm (LJ g (λe0 E W=>∃c1,ST true mN w W (hp w) ((B,Obj.cells b8 52 (0,0))::((N,Obj.cells a0 52 (0,0))::c1))∧E 1=A∧E 3=L∧E 4=(.bool O)∧E 50=(.bool e0)) 4 ?_ (λe0 I a6=>?_)))))))⟩
   ·rintro m3 E W ⟨c1,d,U,c7,c8,i2⟩ f3
    refine Wh i2 (LJ f3 (λd9 E W=>∃c2,ST true mN w W (hp w) ((B,Obj.cells b8 52 (0,0))::((N,Obj.cells a0 52 (0,0))::c2))∧E 1=A∧E 3=L∧E 4=(.bool O)∧E 59=(.bool d9)) 8 ?_ (λd9 T a5=>?_))
    ·rintro m4 E W ⟨c2,d,R,c9,d0,i3⟩ f4
     refine Wh i3 (LJ f4 (λd8 E W=>∃c3,ST true mN w W (hp w) ((B,Obj.cells b8 52 (0,0))::((N,Obj.cells a0 52 (0,0))::c3))∧E 1=A∧E 3=L∧E 4=(.bool O)∧E 64=(.bool d8)) 4 ?_ (λd8 H a4=>?_))
     ·rintro m5 E W ⟨c3,d,i4,i5,l0,i6⟩ f5
      refine Wg i6 (lu (lG (kL ?_)))
      obtain rfl:=sj f5
      exact ⟨_,rfl,_,(d.kA St),i4,i5,rfl⟩
     refine bC H (λx H=>?_) (λx H=>?_)
     ·refine ug x (kN CT R) (ug x (kB rfl (lg d.has (Mt Mh) rfl cN)) (bS H λl4 g1 H=>ue x (Eg d call93 (yo a.mg _ _  g1) (λk1 d=>V (lK (cB x) rfl) ?_))))
      obtain rfl:=sj H
      exact a4 _ _ ⟨_,(d.kA St),R,c9,d0,rfl⟩
     refine un x (un x (un x (V (lN (cB x) rfl) ?_)))
     obtain rfl:=sj H
     exact a4 _ _ ⟨_,(d.kA St),R,c9,d0,rfl⟩
    refine bC T (λc T=>?_) (λc T=>?_)
    ·refine ug c (kN rK U) (ug c (kN yB rfl) (ug c (kB rfl (lg d.has (Mt Mh) rfl cN)) (ug c (kN xL U) (ug c (kN yB rfl) (ug c (kB rfl (lg d.has (Mt Mh) rfl cN)) (ug c (Gt rfl rfl rfl) (V (lK (cB c) rfl) ?_)))))))
     obtain rfl:=sj T
     exact a5 _ _ ⟨_,(d.kA St),U,c7,c8,rfl⟩
    refine un c (un c (un c (un c (un c (un c (un c (V (lN (cB c) rfl) ?_)))))))
    obtain rfl:=sj T
    exact a5 _ _ ⟨_,(d.kA St),U,c7,c8,rfl⟩
   refine bC I (λu I=>?_) (λu I=>?_)
   ·refine ug u (kN rK rfl) (ug u (kB rfl (kI d.has (Mt Mh) (kJ a.B) rfl bZ bF)) (bS I λl5 g2 I=>ue u (Eg d jS (vH a.B _ _  g2) (λk2 d=>V (lK (cB u) rfl) ?_))))
    obtain rfl:=sj I
    exact a6 _ _ ⟨_,(d.kA St),rfl,rfl,rfl,rfl⟩
   refine un u (un u (un u (V (lN (cB u) rfl) ?_)))
   obtain rfl:=sj I
   exact a6 _ _ ⟨_,(d.kA St),rfl,rfl,rfl,rfl⟩
  refine sg (Wi rfl (Wa (ln (CI g rfl (λe8 g=>?_) (λe8 g=>?_)))))
  ·refine kM ?_
   replace d:=d.drew
   have n:=d.has.kA (Db (Kb Sn))
   refine lU n li (X 0 rfl n (kN rK rfl) (XH 1 rfl n (λ_ p=>kB rfl (kI p Mh (kJ a.B) rfl bZ bF)) (X 2 rfl n (kN Bm rfl) (XH 3 rfl n (λ_ p=>kB rfl (kI p Mh (kJ a.C) rfl bZ bF)) (X 4 rfl n (kN rK rfl) (XO 5 rfl (lA j1 g6 d rfl rfl bF (AZ a.B) nb rfl (λk3 d=>?_))))))))
   have n:=d.has.kA (Db (Kb Sn))
   refine ⟨n,(X 6 rfl n (kN Bm rfl) (XO 7 rfl (lA (.agg (kJ a.C).toArray) ((kF m9).toArray) d rfl rfl bF (AZ a.C) nb rfl (λk4 d=>?_))))⟩
   have n:=d.has.kA (Db (Kb Sn))
   refine ⟨n,(lX kr (kL (kK (Wm (Wm (LJ g (λe3 E W=>∃c4,ST true mN w W (hp w) ((B,Obj.cells g5 52 (0,0))::((N,Obj.cells a0 52 (0,0))::c4))∧E 1=A∧E 3=L∧E 4=(.bool O)∧E 78=(.bool e3)) 4 ?_ (λe3 M a9=>?_)))))))⟩
   ·rintro m6 E W ⟨c4,d,b4,d1,d2,i7⟩ f6
    refine Wh i7 (LJ f6 (λe2 E W=>∃c5,ST true mN w W (hp w) ((B,Obj.cells g5 52 (0,0))::((N,Obj.cells a0 52 (0,0))::c5))∧E 1=A∧E 3=L∧E 4=(.bool O)∧E 83=(.bool e2)) 4 ?_ (λe2 K a8=>?_))
    ·rintro m7 E W ⟨c5,d,Y,d3,d4,i8⟩ f7
     refine Wh i8 (LJ f7 (λe1 E W=>∃c6,ST true mN w W (hp w) ((B,Obj.cells g5 52 (0,0))::((N,Obj.cells a0 52 (0,0))::c6))∧E 1=A∧E 3=L∧E 4=(.bool O)∧E 91=(.bool e1)) 7 ?_ (λe1 J a7=>?_))
     ·rintro m8 E W ⟨c6,d,i9,j0,l1,j3⟩ f8
      refine Wg j3 (lu (lG (kL ?_)))
      obtain rfl:=sj f8
      exact ⟨_,rfl,_,(d.kA St),i9,j0,rfl⟩
     refine bC J (λi J=>?_) (λi J=>?_)
     ·refine ug i (kN rK Y) (ug i (kB rfl (kI d.has (Mt Mh) (kJ a.B) rfl bZ bF)) (ug i (kN Bm Y) (ug i (kB rfl (kI d.has (Mt Mh) (kJ a.C) rfl bZ bF)) (bS J λl6 g3 J=>ue i (Eg d call83 (Dn a.B a.C _ _  g3) (λk5 d=>ug i (lY rfl rfl rfl) (V (lK (cB i) rfl) ?_)))))))
      obtain rfl:=sj J
      exact a7 _ _ ⟨_,(d.kA St),Y,d3,d4,rfl⟩
     refine un i (un i (un i (un i (un i (un i (V (lN (cB i) rfl) ?_))))))
     obtain rfl:=sj J
     exact a7 _ _ ⟨_,(d.kA St),Y,d3,d4,rfl⟩
    refine bC K (λz K=>?_) (λz K=>?_)
    ·refine ug z (kN Bm b4) (ug z (kB rfl (kI d.has (Mt Mh) (kJ a.C) rfl bZ bF)) (bS K λl7 g4 K=>ue z (Eg d jS (vH a.C _ _  g4) (λk6 d=>V (lK (cB z) rfl) ?_))))
     obtain rfl:=sj K
     exact a8 _ _ ⟨_,(d.kA St),b4,d1,d2,rfl⟩
    refine un z (un z (un z (V (lN (cB z) rfl) ?_)))
    obtain rfl:=sj K
    exact a8 _ _ ⟨_,(d.kA St),b4,d1,d2,rfl⟩
   refine bC M (λy M=>?_) (λy M=>?_)
   ·refine ug y (kN rK rfl) (ug y (kB rfl (kI d.has (Mt Mh) (kJ a.B) rfl bZ bF)) (bS M λl8 g7 M=>ue y (Eg d jS (vH a.B _ _  g7) (λk7 d=>V (lK (cB y) rfl) ?_))))
    obtain rfl:=sj M
    exact a9 _ _ ⟨_,(d.kA St),rfl,rfl,rfl,rfl⟩
   refine un y (un y (un y (V (lN (cB y) rfl) ?_)))
   obtain rfl:=sj M
   exact a9 _ _ ⟨_,(d.kA St),rfl,rfl,rfl,rfl⟩
  refine sg (Wa (ln ?_))
  replace d:=d.kA (Db (Db St))
  refine lJ (pO (mL ?_))
  obtain rfl:=sj g
  replace Z:some false=some r:=Z
  obtain rfl:=sj Z
  exact rP d
 rintro ⟨l9,e4⟩ E W ⟨b6,d,g8,g9,h0⟩ e9
 refine sg (Wh h0 (Wm (LJ e9 (λd5 E W=>∃b7,ST true mN w W (hp w) b7∧E 97=(.bool d5)) 4 ?_ (λd5 Q a1=>?_))))
 ·rintro m0 E W ⟨b7,d,h1⟩ f0
  exact Wg h1 (lt (rQ f0 d))
 refine bC Q (λj Q=>?_) (λj Q=>?_)
 ·refine ug j (kB g9 (kI d.has Mh (kF e4) rfl cU bE)) (ug j (kB g8 (kI d.has (Mt Mh) (kF a) rfl cU bE)) (ug j (ER rfl rfl (uC gh) (AY (B9 _ e4 a))) (V (lK (cB j) rfl) ?_)))
  obtain rfl:=sj Q
  exact a1 _ _ ⟨_,(d.kA (Db (Db St))),rfl⟩
 refine un j (un j (un j (V (lN (cB j) rfl) ?_)))
 obtain rfl:=sj Q
 exact a1 _ _ ⟨_,(d.kA (Db (Db St))),rfl⟩
theorem yb (a:ku) (r:ByteArray) (w:World) (hm:sZ a=some r) :
  lC true pg0 79 [(.agg (kJ a).toArray)] w (.string r):=by
 refine cG 9 func79 rfl (λd=>sg (VE (lM d rfl (λi j d=>Wa (lr (Wf yB (VB d Mh rfl rfl cN (bS hm λk c hm=>V (pP rfl rfl c) (Wf Ae (VB d Mh rfl rfl cN ?_))))))))))
 refine bS hm λt g hm=>V (pP rfl rfl g) (Wa (ln ?_))
 exact lJ (rQ hm d)
theorem QE (a:kv) (r:ByteArray) (w:World) (hm:GS a=some r) :
  lC true pg0 145 [(.agg (kF a).toArray)] w (.string r):=by
 refine cG 31 func145 rfl (λd=>sg (VE (lM d rfl (λU Z d=>Wa (lS (Wf Bq (VB d Mh rfl rfl dJ (ln (ma ?_)))))))))
 refine sg (Wi rfl (Wa (ln (CI hm rfl (λx hm=>?_) (λx hm=>?_)))))
 ·refine sg (Wf FA (VB d Mh rfl rfl cN (Wa (ln ?_))))
  replace d:=d.kA (Db St)
  refine lJ (pO (mL ?_))
  obtain rfl:=sj hm
  exact rP d
 refine sg (Wi rfl (Wa (ln (CI hm rfl (λy hm=>?_) (λy hm=>?_)))))
 ·refine sg (Wf rK (VA d Mh (kJ a.B) bZ bF (bS hm λv B hm=>VE (Eg d call79 (yb a.B _ _  B) (λY d=>Wa (ln ?_))))))
  replace d:=d.kA (Db St)
  refine lJ (pO (mL ?_))
  obtain rfl:=sj hm
  exact rP d
 refine sg (Wi rfl (Wa (ln (CI hm rfl (λz hm=>?_) (λz hm=>?_)))))
 ·refine kM ?_
  replace d:=d.drew
  have n:=d.has.kA (Kb Sn)
  refine lU n li (X 0 rfl n (kN rK rfl) (XH 1 rfl n (λ_ p=>kB rfl (kI p Mh (kJ a.B) rfl bZ bF)) (X 4 rfl n (kN CT rfl) (XH 5 rfl n (λ_ p=>kB rfl (lg p Mh rfl cN)) (bS hm λI c hm=>XE 2 rfl (Eg d call79 (yb a.B _ _  c) (λD d=>?_)))))))
  have n:=d.has.kA (Kb Sn)
  refine ⟨n,(bS hm λM j hm=>X 3 rfl n (pP rfl rfl j) (bS hm λN k hm=>X 6 rfl n (pP rfl rfl k) (X 7 rfl n (oe rfl) (lX kr (kL ?_)))))⟩
  replace d:=d.kA (Db St)
  refine lJ (pO (mL ?_))
  obtain rfl:=sj hm
  exact rP d
 refine nf (lG (kL (kM ?_)))
 replace d:=d.drew
 have n:=d.has.kA (Kb Sn)
 refine lU n li (X 0 rfl n (kN rK rfl) (XH 1 rfl n (λ_ p=>kB rfl (kI p Mh (kJ a.B) rfl bZ bF)) (X 4 rfl n (kN Bm rfl) (XH 5 rfl n (λ_ p=>kB rfl (kI p Mh (kJ a.C) rfl bZ bF)) (bS hm λJ g hm=>XE 2 rfl (Eg d call79 (yb a.B _ _  g) (λG d=>?_)))))))
 have n:=d.has.kA (Kb Sn)
 refine ⟨n,(bS hm λQ t hm=>X 3 rfl n (pP rfl rfl t) (bS hm λK i hm=>XE 6 rfl (Eg d call79 (yb a.C _ _  i) (λH d=>?_))))⟩
 have n:=d.has.kA (Kb Sn)
 refine ⟨n,(bS hm λT u hm=>X 7 rfl n (pP rfl rfl u) (X 8 rfl n (oe rfl) (lX kr (kL ?_))))⟩
 exact lJ (rQ hm d)
theorem QU (a:kv) (r:ByteArray) (w:World) (hm:DY a=some r) :
  lC true pg0 74 [(.agg (kF a).toArray)] w (.string r):=by
 refine cG 13 func74 rfl (λd=>sg (VE (lM d rfl (λG I d=>Wa (lS (VA d Mh (kF a) cU bE (bS hm λJ t hm=>VE (Eg d call144 (Av a _ _  t) (λH d=>V (oF rfl) (lu ?_))))))))))
 refine kL (CI hm rfl (λk hm=>?_) (λk hm=>?_))
 ·refine sg (Wa (ln ?_))
  replace d:=d.kA (Db St)
  refine lJ (mL ?_)
  obtain rfl:=sj hm
  exact rP d
 refine kn (kM ?_)
 replace d:=d.drew
 have n:=d.has.kA (Kb Sn)
 refine lU n li (X 0 rfl n (kN xL rfl) (XH 1 rfl n (λ_ p=>kB rfl (kI p Mh (kJ a.Head) rfl bZ bF)) (XH 4 rfl n (λ_ p=>kB rfl (kI p Mh (kF a) rfl cU bE)) (bS hm λy c hm=>XE 2 rfl (Eg d call79 (yb a.Head _ _  c) (λu d=>?_))))))
 have n:=d.has.kA (Kb Sn)
 refine ⟨n,(bS hm λB i hm=>X 3 rfl n (pP rfl rfl i) (bS hm λz g hm=>XE 5 rfl (Eg d call145 (QE a _ _  g) (λx d=>?_))))⟩
 have n:=d.has.kA (Kb Sn)
 refine ⟨n,(bS hm λD j hm=>X 6 rfl n (pP rfl rfl j) (X 7 rfl n (oe rfl) (lX kr (kL ?_))))⟩
 exact lJ (rQ hm d)
theorem JP (a:kU) (g c:Value) (r:ByteArray) (w:World) (j:Sl (Pl (mh .u8)) 1 (hp w) g a.Signed.Tag) (i:Sl kz 5 (hp w) c a.ky.Kids) (hm:pY a=some r) :
  lC true pg0 73 [(.agg #[(.int .i64 a.Signed.kv.Kind),(.string a.Signed.kv.Head.kw),(.string a.Signed.kv.Head.Word),(.string a.Signed.kv.lO),(.string a.Signed.kv.B.kw),(.string a.Signed.kv.B.Word),(.string a.Signed.kv.C.kw),(.string a.Signed.kv.C.Word),(.string a.Signed.kv.mg),g,(.int .i64 a.ky.Op),(.int .i64 a.ky.K),(.string a.ky.ku.kw),(.string a.ky.ku.Word),c])] w (.string r):=by
 refine cG 7 func73 rfl (λd=>sg ?_)
 obtain ⟨t,x,rfl⟩:=j.form
 obtain ⟨u,y,rfl⟩:=i.form
 refine VE (lM d rfl (λz D d=>Wa (lr (Wf Au (Wf D5 (VA d Mh (kF a.Signed.kv) cU bE (bS hm λG k hm=>VE (Eg d call74 (QU a.Signed.kv _ _  k) (λB d=>Wa (ln ?_))))))))))
 exact lJ (rQ hm d)
theorem yd (g:Value) (t:List mr) (j:Value) (z:mr→Option Bool) (r:Int) (w:World) (c:Sl lH 8 (hp w) g t) (B:vL pg0 j (hp w) (re lH) (λ(r:Bool)=>(.bool r)) z) (hm:qn t z=some r) :
  lC false pg0 147 [g,j] w (.int .i64 r):=by
 refine cG 19 func147 rfl (λd=>sg (Wa (lS (Wm (V (nv dp rfl c) (Wm (ln (mV (λi E W=>∃k,(E 8= .int .i64 (i:Nat)∧E 7= .int .i64 (t.length:Nat))∧ST false mN w W (hp w) k∧E 0=g∧E 1=j∧ox z (t.drop i) i=some r) t.length c.len ⟨_,⟨rfl,rfl⟩,(d.kA St),rfl,rfl,hm⟩ dc dc dc (λ_ _ _ h=>by obtain ⟨_,p,_⟩:=h; exact p) ?_ ?_))))))))
 ·rintro T E W G ⟨k,⟨n,v⟩,d,u,x,a⟩
  obtain ⟨y,Z,N,M,Q⟩:=mC G
  rw [N] at a
  refine bg (Wh n (Wa (lr (Wh x (Wh u (Wm (VQ (nN (i:=(T:Int)) (x0:=y) lH.out dp cW rfl rfl c (aX _) M) (λa2 ⟨_,⟨U,Y,rfl,J,K⟩,H⟩=>V (kB rfl (lL d.has H eG cW)) (bS a λa3 I a=>?_)))))))))
  refine VE (qQ y d B (lx.refl _) (re.mk mB (lH.mk ⟨U,Y,rfl,J,K⟩) d.kC) rfl (pR rfl) I (λA d=>ln (CI a rfl (λD a=>?_) (λD a=>?_))))
  ·refine sg (Wm (Wa (lt (pO (mL (pO (mL ?_)))))))
   obtain rfl:=sj a
   exact rP d
  exact nf (lG (kL ⟨n,_,⟨rfl,v⟩,(d.kA St),u,x,(by rw [Q]; exact a)⟩))
 rintro E W ⟨k,⟨n,v⟩,d,u,x,a⟩
 rw [bo] at a
 exact kL (sg (Wa (lt (rQ a d))))
theorem Ej (a:mr) (g j:Value) (t:Nat) (k:Value) (x:mr→Option ku) (u:Nat) (H:ku) (r:Bool) (w:World) (c:Sl kz 5 (hp w) g a.ky.Kids) (i:Sl (Pl kF) 9 (hp w) j a.lT) (K:vL pg0 k (hp w) (re lH) (λ(r:ku)=>(.agg (kJ r).toArray)) x) (z:At (hp w) (.pointer (some ⟨t,0,none⟩)) [k]) (B:At (hp w) (.pointer (some ⟨u,0,none⟩)) (kJ H)) (hm:sR a x H=some r) :
  lC false pg0 148 [(.agg #[(.string a.ku.kw),(.string a.ku.Word),(.int .i64 a.ky.Op),(.int .i64 a.ky.K),(.string a.ky.ku.kw),(.string a.ky.ku.Word),g,j]),(.pointer (some ⟨t,0,none⟩)),(.pointer (some ⟨u,0,none⟩))] w (.bool r):=by
 refine cG 10 func148 rfl (λd=>sg ?_)
 obtain ⟨D,I,rfl⟩:=c.form
 obtain ⟨G,J,rfl⟩:=i.form
 refine VE (lM d rfl (λT U d=>Wa (ln (kM ?_))))
 replace d:=d.drew
 have n:=d.has.kA (Kb Sn)
 refine lU n li (XH 0 rfl n (λ_ p=>kB rfl (sJ p (y:=k) z kh)) (XH 1 rfl n (λ_ p=>kB rfl (kI p Mh (C5 a.ku.kw a.ku.Word a.ky.Op a.ky.K a.ky.ku.kw a.ky.ku.Word D a.ky.Kids.length I G a.lT.length J) rfl eG cW)) (XH 3 rfl n (λ_ p=>kB rfl (lL p B bZ bF)) (bS hm λN M hm=>XE 2 rfl (qQ a d K (lx.refl _) (re.mk mB (lH.mk ⟨(.slice D a.ky.Kids.length I),(.slice G a.lT.length J),rfl,c,i⟩) d.kC) rfl (pR rfl) M (λQ d=>?_))))))
 have n:=d.has.kA (Kb Sn)
 refine ⟨n,(X 4 rfl n (ER rfl rfl (uC jH) (AY (Ab _ N H))) (X 5 rfl n (oe rfl) (lX kr (kL ?_))))⟩
 exact lJ (rQ hm d)
theorem Ao (g:Value) (t:List mr) (j:ku) (a:Nat) (i:Value) (c:mr→Option ku) (r:Int) (w:World) (y:Sl lH 8 (hp w) g t) (z:vL pg0 i (hp w) (re lH) (λ(r:ku)=>(.agg (kJ r).toArray)) c) (k:At (hp w) (.pointer (some ⟨a,0,none⟩)) [i]) (hm:sh t j c=some r) :
  lC false pg0 146 [g,(.agg (kJ j).toArray),(.pointer (some ⟨a,0,none⟩))] w (.int .i64 r):=by
 refine cG 9 func146 rfl (λd=>sg (VE (lM d rfl (λI u d=>Wa (lr (Wm (V (qR (by exact qT rfl rfl) rfl) (bS hm λK D hm=>VE (Eg d call147 (yd g t (.func (.func 148) #[] #[(.pointer (some ⟨a,0,none⟩)),(.pointer (some ⟨u,0,none⟩))]) (λ(x:mr)=>sR x c j) _ _ (y.mono mB.mono d.kC) ⟨148,#[],#[(.pointer (some ⟨a,0,none⟩)),(.pointer (some ⟨u,0,none⟩))],rfl,call148,λW x vs r n p hm=>by obtain ⟨_,rfl,B⟩:=p; obtain ⟨G,H,rfl,v,A⟩:=B.out; exact Ej x G H a i c u j r W v A (z.mono (d.kC.trans n)) (k.mono (d.kC.trans n)) (At.of (n _ _ (d.at_ Mh)) _ rfl) hm⟩ D) (λJ d=>Wa (lu ?_)))))))))))
 refine kL ?_
 exact lJ (rQ hm d)
set_option maxHeartbeats 4000000 in
theorem G5 (a2:Value) (a0:List mr) (b6:Value) (a1:List mr) (g4:Value) (f2:mr→Option ku) (e2:Value) (f3:(mr×mr)→Option Bool) (d5:Value) (f4:mr→Option ByteArray) (r:List kx) (w:World) (d2:Sl lH 8 (hp w) a2 a0) (c9:Sl lH 8 (hp w) b6 a1) (N:vL pg0 g4 (hp w) (re lH) (λ(r:ku)=>(.agg (kJ r).toArray)) f2) (k2:vL pg0 e2 (hp w) (vY lH lH) (λ(r:Bool)=>(.bool r)) f3) (e1:vL pg0 d5 (hp w) (re lH) (λ(r:ByteArray)=>(.string r)) f4) (hm:tO a0 a1 f2 f3 f4=some r) :
  pH false pg0 75 [a2,b6,g4,e2,d5] w 197 kG 4 r:=by
 refine Dg 89 func75 rfl (λd=>sg ?_)
 obtain ⟨ab,ad,ae,rfl⟩:=N.form
 let j2:Value:=(.func ab ad ae)
 refine VE (lM d rfl (λW5 O d=>Wa (lr (Wa (lr (V (qR (by exact pR rfl) rfl) (Wa (ln ?_))))))))
 refine kM (sg (Wm (V (nv dp rfl d2) (Wm (ln (mV (λi E W=>∃Q b0 K d9,(E 21= .int .i64 (i:Nat)∧E 20= .int .i64 (a0.length:Nat))∧ST false mN w W (hp w) ((O,Ob #[j2] 133)::(K++d9))∧E 0=a2∧E 1=b6∧E 3=e2∧E 4=d5∧E 7=(.pointer (some ⟨O,0,none⟩))∧E 11=Q∧E 12=(.func (.func 146) #[] #[(.pointer (some ⟨O,0,none⟩))])∧E 19=a2∧lh 197 kG 4 Q b0 K∧oK f2 a1 f4 f3 a0 (a0.drop i) b0=some r) a0.length d2.len ⟨(.slice none 0 0),([]),[],_,⟨rfl,rfl⟩,(d.kA St),rfl,rfl,rfl,rfl,rfl,rfl,rfl,rfl,(lh.nil _ _ _),hm⟩ dc dc dc (λ_ _ _ h=>by obtain ⟨_,_,_,_,aa,_⟩:=h; exact aa) ?_ ?_))))))
 ·rintro k3 E W h8 ⟨Q,b0,K,d9,⟨L,P⟩,d,c5,Y,c6,Z,M,c7,a9,c8,a7,g⟩
  obtain ⟨a,m7,j3,j0,d3⟩:=mC h8
  rw [j3] at g
  refine bg (VQ (nN (i:=(k3:Int)) (x0:=a) lH.out dp cW c8 L d2 (aX _) j0) (λo2 ⟨_,⟨o5,o6,rfl,H,I⟩,h9⟩=>V (kB rfl (lL d.has h9 eG cW)) (VE (ml d fR (λm8 o1 d=>?_)))))
  obtain ⟨k,u,rfl⟩:=H.form
  let d6:Value:=(.slice k a.ky.Kids.length u)
  obtain ⟨t,x,rfl⟩:=I.form
  let e0:Value:=(.slice t a.lT.length x)
  let b8:=(C5 a.ku.kw a.ku.Word a.ky.Op a.ky.K a.ky.ku.kw a.ky.ku.Word k a.ky.Kids.length u t a.lT.length x)
  refine VO (lA (.agg b8.toArray) (b8.toArray) d rfl rfl cW oc nb rfl (λm9 d=>lr (Wh a9 (Wh Y (V (kB M (lg d.has (Mt Mh) rfl kh)) (VA d Mh b8 eG cW (bS g λg3 i1 g=>VE (qQ a d N (lx.refl _) (re.mk mB (lH.mk ⟨d6,e0,rfl,H,I⟩) d.kC) rfl (pR rfl) i1 (λn0 d=>bS g λk6 i2 g=>VE (JD (args:=[b6,(.agg (kJ g3).toArray)]) (caps:=#[(.pointer (some ⟨O,0,none⟩))]) d rfl call146 (by exact qT rfl rfl) (Ao b6 a1 g3 O j2 f2 _ _ (c9.mono mB.mono d.kC) (N.mono d.kC) (At.of (d.at_ (Mt Mh)) _ rfl) i2) (λn1 d=>Wa (lu ?_))))))))))))
  refine kL (bg (Wm (Wi rfl (Wa (ln (CI g rfl (λh4 g=>?_) (λh4 g=>?_)))))))
  ·replace d:=d.drew
   have n:=d.has.kA (Kb (Kb Sn))
   refine lU n li (X 0 rfl n (kD c7) (XH 1 rfl n (λ_ A=>kB M (lg A (Mt Mh) rfl kh)) (XH 2 rfl n (λ_ A=>kB rfl (kI A Mh b8 rfl eG cW)) (X 4 rfl n (kD Z) (XH 5 rfl n (λ_ A=>kB rfl (kI A Mh b8 rfl eG cW)) (bS g λb1 i3 g=>XE 3 rfl (qQ a d N (lx.refl _) (re.mk mB (lH.mk ⟨d6,e0,rfl,H,I⟩) d.kC) rfl (pR rfl) i3 (λn2 d=>?_))))))))
   have n:=d.has.kA (Kb (Kb Sn))
   refine ⟨n,(bS g λb2 i4 g=>XE 6 rfl (qQ a d e1 (lx.refl _) (re.mk mB (lH.mk ⟨d6,e0,rfl,H,I⟩) d.kC) rfl (pR rfl) i4 (λn3 d=>?_)))⟩
   let g5:=(⟨b1,b2,K5⟩:kx)
   have n:=d.has.kA (Kb (Kb Sn))
   refine ⟨n,(X 7 rfl n (nP (v:=(.agg (kG (g5)).toArray)) (BD rfl rfl rfl) (nt gD eQ (Sm _ eQ) kr)) (XE 8 rfl (lZ (cs:=(kG (g5)).toArray) d (og rfl) (oE cH cC gD) (λn4 j9 d=>?_))))⟩
   have n:=d.has.kA (Db (Kb (Kb Sn)))
   refine ⟨n,?_⟩
   replace d:=d.perm (Nr (Qb (Qb (Qb Qz))) Nz)
   refine bS g λk4 h5 g=>XE 9 rfl (qF (enc:=kG) (v:=Q) (vs:=(.slice (some ⟨j9,0,none⟩) 1 1)) (R:=K) d lV dc oR cH xx.1 xx.2.1 rfl xx.2.2.1 xx.2.2.2 rfl rfl a7 (Sl.lit (enc:=kG) (l:=[g5]) lV rfl nb rfl (d.at_ (Ma Mh))) h5 (λn5 k7 j7 d h2=>?_))
   have n:=d.has.kA (Dr (Db (Kb (Kb Sn))))
   refine ⟨n,(X 10 rfl n (oe rfl) (lX kr (lG (lG (kL ?_)))))⟩
   replace d:=d.kA (Kr (Db (Db St)))
   exact ⟨L,k7,k4,j7,_,⟨rfl,P⟩,(d.kA (Sb (Pr Pz) St)),c5,Y,c6,Z,M,rfl,a9,c8,h2,(by rw [d3]; exact g)⟩
  refine kM ?_
  replace d:=d.drew
  have n:=d.has.kA (Kb Sn)
  refine lU n li (X 0 rfl n (kD c6) (XH 1 rfl n (λ_ A=>kB rfl (kI A Mh b8 rfl eG cW)) (X 2 rfl n (kD Y) (X 3 rfl n (kD rfl) (bS g λg7 e4 g=>XQ 4 rfl n (nN (i:=k6) (x0:=g7) lH.out dp cW rfl rfl c9 (kW e4) (kO e4)) (λo3 ⟨_,⟨k8,k9,rfl,i8,i9⟩,i0⟩=>XH 5 rfl n (λ_ A=>kB rfl (lL A i0 eG cW)) (bS g λo4 i5 g=>XE 6 rfl (qQ (a,g7) d k2 (lx.refl _) (vY.mk mB mB (lH.mk ⟨d6,e0,rfl,H,I⟩) (lH.mk ⟨k8,k9,rfl,i8,i9⟩) d.kC) rfl (qT rfl rfl) i5 (λn6 d=>?_)))))))))
  have n:=d.has.kA (Kb Sn)
  refine ⟨n,(X 7 rfl n (oF rfl) (X 8 rfl n (oe rfl) (lX kr (kL (CI g rfl (λh6 g=>?_) (λh6 g=>?_))))))⟩
  ·replace d:=d.drew
   have n:=d.has.kA (Kb (Kb Sn))
   refine lU n li (X 0 rfl n (kD c7) (XH 1 rfl n (λ_ A=>kB M (lg A (Mt Mh) rfl kh)) (XH 2 rfl n (λ_ A=>kB rfl (kI A Mh b8 rfl eG cW)) (X 4 rfl n (kD Z) (XH 5 rfl n (λ_ A=>kB rfl (kI A Mh b8 rfl eG cW)) (bS g λb3 i6 g=>XE 3 rfl (qQ a d N (lx.refl _) (re.mk mB (lH.mk ⟨d6,e0,rfl,H,I⟩) d.kC) rfl (pR rfl) i6 (λn7 d=>?_))))))))
   have n:=d.has.kA (Kb (Kb Sn))
   refine ⟨n,(bS g λb5 i7 g=>XE 6 rfl (qQ a d e1 (lx.refl _) (re.mk mB (lH.mk ⟨d6,e0,rfl,H,I⟩) d.kC) rfl (pR rfl) i7 (λn8 d=>?_)))⟩
   let g6:=(⟨b3,b5,K6⟩:kx)
   have n:=d.has.kA (Kb (Kb Sn))
   refine ⟨n,(X 7 rfl n (nP (v:=(.agg (kG (g6)).toArray)) (BD rfl rfl rfl) (nt gD eQ (Sm _ eQ) kr)) (XE 8 rfl (lZ (cs:=(kG (g6)).toArray) d (og rfl) (oE cH cC gD) (λn9 k0 d=>?_))))⟩
   have n:=d.has.kA (Db (Kb (Kb Sn)))
   refine ⟨n,?_⟩
   replace d:=d.perm (Nr (Qb (Qb (Qb Qz))) Nz)
   refine bS g λk5 h7 g=>XE 9 rfl (qF (enc:=kG) (v:=Q) (vs:=(.slice (some ⟨k0,0,none⟩) 1 1)) (R:=K) d lV dc oR cH xx.1 xx.2.1 rfl xx.2.2.1 xx.2.2.2 rfl rfl a7 (Sl.lit (enc:=kG) (l:=[g6]) lV rfl nb rfl (d.at_ (Ma Mh))) h7 (λo0 l0 j8 d h3=>?_))
   have n:=d.has.kA (Dr (Db (Kb (Kb Sn))))
   refine ⟨n,(X 10 rfl n (oe rfl) (lX kr (lG (lG (kL ?_)))))⟩
   replace d:=d.kA (Kr (Db (Db St)))
   exact ⟨L,l0,k5,j8,_,⟨rfl,P⟩,(d.kA (Sb (Pr Pz) St)),c5,Y,c6,Z,M,rfl,a9,c8,h3,(by rw [d3]; exact g)⟩
  refine nf (lG (lG (kL ?_)))
  replace d:=d.kA (Db St)
  exact ⟨L,Q,b0,K,_,⟨rfl,P⟩,(d.kA St),c5,Y,c6,Z,M,c7,a9,c8,a7,(by rw [d3]; exact g)⟩
 rintro E W ⟨Q,b0,K,d9,⟨L,P⟩,d,c5,Y,c6,Z,M,c7,a9,c8,a7,g⟩
 rw [bo] at g
 refine kL (kM (sg (Wh Y (V (nv dp rfl c9) (Wm (ln (CJ g (λd4 E W=>∃c4 b7 e3,ST false mN w W (hp w) (b7++e3)∧E 11=c4∧lh 197 kG 4 c4 d4 b7) (λd4 f5=>?_) ?_)))))))
 ·let e6:Value:=(.pointer (some ⟨O,0,none⟩))
  refine mV (λi E W=>∃J a8 G d1,(E 66= .int .i64 (i:Nat)∧E 65= .int .i64 (a1.length:Nat))∧ST false mN w W (hp w) ((O,Ob #[j2] 133)::(G++d1))∧E 0=a2∧E 4=d5∧E 7=e6∧E 11=J∧E 12=(.func (.func 146) #[] #[e6])∧E 64=b6∧lh 197 kG 4 J a8 G∧pU f2 a0 f4 (a1.drop i) a8=some d4) a1.length c9.len ⟨Q,b0,K,_,⟨rfl,rfl⟩,(d.kA St),c5,Z,M,c7,a9,rfl,a7,f5⟩ dc dc dc (λ_ _ _ h=>by obtain ⟨_,_,_,_,aa,_⟩:=h; exact aa) ?_ ?_
  ·rintro j4 E W f0 ⟨J,a8,G,d1,⟨L,P⟩,d,b9,c0,a3,c1,c2,c3,a4,j⟩
   obtain ⟨c,l2,g2,g1,d8⟩:=mC f0
   rw [g2] at j
   refine bg (VQ (nN (i:=(j4:Int)) (x0:=c) lH.out dp cW c3 L c9 (aX _) g1) (λm3 ⟨_,⟨m5,m6,rfl,a5,a6⟩,f6⟩=>V (kB rfl (lL d.has f6 eG cW)) (VE (ml d fR (λl3 m1 d=>?_)))))
   obtain ⟨y,B,rfl⟩:=a5.form
   let h1:Value:=(.slice y c.ky.Kids.length B)
   obtain ⟨z,D,rfl⟩:=a6.form
   let k1:Value:=(.slice z c.lT.length D)
   let d0:=(C5 c.ku.kw c.ku.Word c.ky.Op c.ky.K c.ky.ku.kw c.ky.ku.Word y c.ky.Kids.length B z c.lT.length D)
   refine VO (lA (.agg d0.toArray) (d0.toArray) d rfl rfl cW oc nb rfl (λl4 d=>lr (Wh c2 (Wh b9 (V (kB a3 (lg d.has (Mt Mh) rfl kh)) (VA d Mh d0 eG cW (bS j λe5 f7 j=>VE (qQ c d N (lx.refl _) (re.mk mB (lH.mk ⟨h1,k1,rfl,a5,a6⟩) d.kC) rfl (pR rfl) f7 (λl5 d=>bS j λm4 f8 j=>VE (JD (args:=[a2,(.agg (kJ e5).toArray)]) (caps:=#[e6]) d rfl call146 (by exact qT rfl rfl) (Ao a2 a0 e5 O j2 f2 _ _ (d2.mono mB.mono d.kC) (N.mono d.kC) (At.of (d.at_ (Mt Mh)) _ rfl) f8) (λl6 d=>Wi rfl (lu ?_))))))))))))
   refine kL (CI j rfl (λe8 j=>?_) (λe8 j=>?_))
   ·replace d:=d.drew
    have n:=d.has.kA (Kb (Kb Sn))
    refine lU n li (X 0 rfl n (kD c1) (XH 1 rfl n (λ_ A=>kB a3 (lg A (Mt Mh) rfl kh)) (XH 2 rfl n (λ_ A=>kB rfl (kI A Mh d0 rfl eG cW)) (X 4 rfl n (kD c0) (XH 5 rfl n (λ_ A=>kB rfl (kI A Mh d0 rfl eG cW)) (bS j λT f9 j=>XE 3 rfl (qQ c d N (lx.refl _) (re.mk mB (lH.mk ⟨h1,k1,rfl,a5,a6⟩) d.kC) rfl (pR rfl) f9 (λl7 d=>?_))))))))
    have n:=d.has.kA (Kb (Kb Sn))
    refine ⟨n,(bS j λU g0 j=>XE 6 rfl (qQ c d e1 (lx.refl _) (re.mk mB (lH.mk ⟨h1,k1,rfl,a5,a6⟩) d.kC) rfl (pR rfl) g0 (λl8 d=>?_)))⟩
    let j1:=(⟨T,U,K7⟩:kx)
    have n:=d.has.kA (Kb (Kb Sn))
    refine ⟨n,(X 7 rfl n (nP (v:=(.agg (kG (j1)).toArray)) (BD rfl rfl rfl) (nt gD eQ (Sm _ eQ) kr)) (XE 8 rfl (lZ (cs:=(kG (j1)).toArray) d (og rfl) (oE cH cC gD) (λl9 g9 d=>?_))))⟩
    have n:=d.has.kA (Db (Kb (Kb Sn)))
    refine ⟨n,?_⟩
    replace d:=d.perm (Nr (Qb (Qb (Qb Qz))) Nz)
    refine bS j λj5 e9 j=>XE 9 rfl (qF (enc:=kG) (v:=J) (vs:=(.slice (some ⟨g9,0,none⟩) 1 1)) (R:=G) d lV dc oR cH xx.1 xx.2.1 rfl xx.2.2.1 xx.2.2.2 rfl rfl a4 (Sl.lit (enc:=kG) (l:=[j1]) lV rfl nb rfl (d.at_ (Ma Mh))) e9 (λm0 j6 g8 d e7=>?_))
    have n:=d.has.kA (Dr (Db (Kb (Kb Sn))))
    refine ⟨n,(X 10 rfl n (oe rfl) (lX kr (lG (kL ?_))))⟩
    replace d:=d.kA (Kr (Db (Db St)))
    exact ⟨L,j6,j5,g8,_,⟨rfl,P⟩,(d.kA (Sb (Pr Pz) St)),b9,c0,a3,rfl,c2,c3,e7,(by rw [d8]; exact j)⟩
   refine nf (lG (kL ?_))
   replace d:=d.kA (Db St)
   exact ⟨L,J,a8,G,_,⟨rfl,P⟩,(d.kA St),b9,c0,a3,c1,c2,c3,a4,(by rw [d8]; exact j)⟩
  rintro E W ⟨J,a8,G,d1,⟨L,P⟩,d,b9,c0,a3,c1,c2,c3,a4,j⟩
  rw [bo] at j
  refine kL ?_
  obtain rfl:=sj j
  exact ⟨J,G,_,(d.kA (Db St)),c1,a4⟩
 rintro m2 E W ⟨c4,b7,e3,d,h0,d7⟩ f1
 refine sg (Wh h0 (Wa (lt ?_)))
 obtain rfl:=sj f1
 exact nC (v:=c4) rfl rfl ⟨_,b7,rfl,d.uA (λp hq=>(Ml hq)) d7.nd,d7⟩
theorem JU (c:mr) (a g:Value) (r:ku) (w:World) (i:Sl kz 5 (hp w) a c.ky.Kids) (j:Sl (Pl kF) 9 (hp w) g c.lT) (hm:pd c=some r) :
  lC true pg0 76 [(.agg #[(.string c.ku.kw),(.string c.ku.Word),(.int .i64 c.ky.Op),(.int .i64 c.ky.K),(.string c.ky.ku.kw),(.string c.ky.ku.Word),a,g])] w (.agg (kJ r).toArray):=by
 refine cG 5 func76 rfl (λd=>sg ?_)
 obtain ⟨k,u,rfl⟩:=i.form
 obtain ⟨t,x,rfl⟩:=j.form
 refine VE (lM d rfl (λy D d=>VE (ml d fO (λz G d=>lr (Wf Du (VA d (Mt Mh) (kJ c.ku) bZ bF (VO (lA (.agg (kJ c.ku).toArray) ((kJ c.ku).toArray) d rfl rfl bF (AZ c.ku) nb rfl (λB d=>ln ?_)))))))))
 replace d:=d.kA (Kb (Db St))
 refine lJ ?_
 obtain rfl:=sj hm
 exact rY (v:=(.agg (kJ c.ku).toArray)) rfl rfl (kI d.has Mh (kJ c.ku) rfl bZ bF) ⟨rfl,d.ex⟩
theorem xh (t:Value) (y:List kv) (u:Value) (K:List kv) (r:Bool) (w:World) (c:Sl (Pl kF) 9 (hp w) t y) (z:Sl (Pl kF) 9 (hp w) u K) (hm:qw y K=some r) :
  lC true pg0 58 [t,u] w (.bool r):=by
 refine cG 26 func58 rfl (λn=>sg (Wa (lS (Wm (V (nv bJ rfl c) (Wm (V (nv bJ rfl z) (Wi rfl (lu ?_)))))))))
 refine kL (CI hm rfl (λU hm=>?_) (λU hm=>?_))
 ·refine sg (Wa (lt (mL ?_)))
  obtain rfl:=sj hm
  exact rP n
 refine kS (Wm (V (nv bJ rfl c) (Wm (ln (mV (λi E W=>∃g,(E 13= .int .i64 (i:Nat)∧E 12= .int .i64 (y.length:Nat))∧ST true mN w W (hp w) g∧E 0=t∧E 1=u∧tf K (y.drop i) i=some r) y.length c.len ⟨_,⟨rfl,rfl⟩,(n.kA St),rfl,rfl,hm⟩ dc dc dc (λ_ _ _ h=>by obtain ⟨_,v,_⟩:=h; exact v) ?_ ?_)))))
 ·rintro I E W M ⟨g,⟨p,L⟩,n,j,k,a⟩
  obtain ⟨J,a3,Q,N,T⟩:=mC M
  rw [Q] at a
  refine bg (Wh p (Wa (ln (kM ?_))))
  replace n:=n.drew
  have d:=n.has.kA Sn
  refine lU d li (X 0 rfl d (kD j) (X 1 rfl d (kD rfl) (XQ 2 rfl d (uR (enc:=kF) (i:=(I:Int)) (x0:=J) bJ bE rfl rfl c (aX _) N) (λY G=>XH 3 rfl d (λ_ A=>kB rfl (lL A G cU bE)) (X 4 rfl d (kD k) (X 5 rfl d (kD rfl) (bS a λB x a=>XQ 6 rfl d (uR (enc:=kF) (i:=(I:Int)) (x0:=B) bJ bE rfl rfl z (kW x) (kO x)) (λZ H=>XH 7 rfl d (λ_ A=>kB rfl (lL A H cU bE)) (X 8 rfl d (TH rfl rfl (uC gh) (MV (B9 _ J B))) (lX kr (kL (CI a rfl (λD a=>?_) (λD a=>?_)))))))))))))
  ·refine sg (Wa (lt (pO (mL (pO (mL ?_))))))
   obtain rfl:=sj a
   exact rP n
  exact nf (lG (kL ⟨p,_,⟨rfl,L⟩,(n.kA St),j,k,(by rw [T]; exact a)⟩))
 rintro E W ⟨g,⟨p,L⟩,n,j,k,a⟩
 rw [bo] at a
 exact kL (sg (Wa (lt (rQ a n))))
theorem JR (c:mr) (k y:Value) (g:mr) (t z:Value) (r:Bool) (w:World) (i:Sl kz 5 (hp w) k c.ky.Kids) (u:Sl (Pl kF) 9 (hp w) y c.lT) (j:Sl kz 5 (hp w) t g.ky.Kids) (x:Sl (Pl kF) 9 (hp w) z g.lT) (hm:qy c g=some r) :
  lC false pg0 77 [(.agg #[(.string c.ku.kw),(.string c.ku.Word),(.int .i64 c.ky.Op),(.int .i64 c.ky.K),(.string c.ky.ku.kw),(.string c.ky.ku.Word),k,y]),(.agg #[(.string g.ku.kw),(.string g.ku.Word),(.int .i64 g.ky.Op),(.int .i64 g.ky.K),(.string g.ky.ku.kw),(.string g.ky.ku.Word),t,z])] w (.bool r):=by
 refine cG 17 func77 rfl (λd=>sg ?_)
 obtain ⟨J,M,rfl⟩:=i.form
 obtain ⟨Y,n,rfl⟩:=u.form
 refine VE (lM d rfl (λW6 P d=>?_))
 obtain ⟨K,N,rfl⟩:=j.form
 obtain ⟨Z,H,rfl⟩:=x.form
 refine VE (lM d rfl (λa4 v d=>Wa (lr (Wf GW (VA d (Mt Mh) (C2 c.ky.Op c.ky.K c.ky.ku.kw c.ky.ku.Word J c.ky.Kids.length M) bL aH (Wf GW (VA d Mh (C2 g.ky.Op g.ky.K g.ky.ku.kw g.ky.ku.Word K g.ky.Kids.length N) bL aH (bS hm λa9 T hm=>VE (Eg d call61 ((yG kY) c.ky (.slice J c.ky.Kids.length M) g.ky (.slice K g.ky.Kids.length N) _ _ (i.mono kT.mono d.kC) (j.mono kT.mono d.kC) T) (λa5 d=>Wm (LJ hm (λI E W=>∃G,ST false mN w W (hp w) G∧E 4=(.bool false)∧E 16=(.bool I)) 6 ?_ (λI B D=>?_))))))))))))
 ·rintro O E W ⟨G,d,A,a3⟩ Q
  exact Wg a3 (lt (rQ Q d))
 refine bC B (λa B=>?_) (λa B=>?_)
 ·refine ug a (kN E5 rfl) (ug a (kB rfl (lg d.has (Mt Mh) rfl jA)) (ug a (kN E5 rfl) (ug a (kB rfl (lg d.has Mh rfl jA)) (bS B λL U B=>ue a (Eg d call58 (lC.nx (xh (.slice Y c.lT.length n) c.lT (.slice Z g.lT.length H) g.lT _ _ (u.mono (Pl.mono _) d.kC) (x.mono (Pl.mono _) d.kC) U)) (λp d=>V (lK (cB a) rfl) ?_))))))
  obtain rfl:=sj B
  exact D _ _ ⟨_,(d.kA (Db (Db St))),rfl,rfl⟩
 refine un a (un a (un a (un a (un a (V (lN (cB a) rfl) ?_)))))
 obtain rfl:=sj B
 exact D _ _ ⟨_,(d.kA (Db (Db St))),rfl,rfl⟩
theorem JT (c:mr) (a g:Value) (r:ByteArray) (w:World) (i:Sl kz 5 (hp w) a c.ky.Kids) (j:Sl (Pl kF) 9 (hp w) g c.lT) (hm:pZ c=some r) :
  lC true pg0 78 [(.agg #[(.string c.ku.kw),(.string c.ku.Word),(.int .i64 c.ky.Op),(.int .i64 c.ky.K),(.string c.ky.ku.kw),(.string c.ky.ku.Word),a,g])] w (.string r):=by
 refine cG 7 func78 rfl (λd=>sg ?_)
 obtain ⟨u,y,rfl⟩:=i.form
 obtain ⟨x,z,rfl⟩:=j.form
 refine VE (lM d rfl (λD H d=>Wa (lr (Wf Du (VA d Mh (kJ c.ku) bZ bF (bS hm λI t hm=>VE (Eg d call79 (yb c.ku _ _  t) (λG d=>bS hm λB k hm=>V (pP rfl rfl k) (Wa (ln ?_))))))))))
 exact lJ (rQ hm d)
theorem vT (z:Value) (a0:List kq) (B:LO) (L a2:Int) (M:Value) (f3:(kq×kq)→Option Int) (r:List kq) (w:World) {μ0:lE} (h0:pn μ0 (B++[]) w) (g8:lh 193 kH 11 z a0 B) (g9:sI pg0 M μ0 (λ(x:(kq×kq))=>[(.agg (kH x.1).toArray),(.agg (kH x.2).toArray)]) (λ(r:Int)=>(.int .i64 r)) f3) (hm:pv a0 L a2 f3=some r) :
  mi false pg0 269 [z,(.int .i64 L),(.int .i64 a2),M] w (B++[]) (λv L1 W'=>∃S1,v=(.tuple #[])∧L1=(S1++[])∧lh 193 kH 11 z r S1):=by
 refine xq h0 53 func269 rfl (λn=>sg (Wm (Wi rfl (Wa (ln (sW (ma (nn (λm E W=>∃T G y b9,ST false (keys (B++[])) w W μ0 (G++b9)∧E 0=z∧E 1=(.int .i64 L)∧E 2=(.int .i64 a2)∧E 3=M∧E 8=(.int .i64 y)∧lh 193 kH 11 z T G∧ni a2 L f3 m T y=some r) kY ⟨a0,B,(wi0 .i64 (L+1)),_,(n.kA St),rfl,rfl,rfl,rfl,rfl,g8,hm⟩ ?_))))))))
 rintro m E W ⟨T,G,y,b9,n,e9,f0,c3,f1,b1,b6,t⟩
 cases m with
 | zero=>rw [ni] at t; cases t
 | succ g1=>
  refine kM (sg (Wh b1 (Wh c3 (Wi rfl (ln (CI t rfl (λd5 t=>?_) (λd5 t=>?_)))))))
  ·refine kn (kM (bg (Wh b1 (Wa (ln (sW (CJ t (λb4 E W=>∃N c0,ST false (keys (B++[])) w W μ0 (N++c0)∧E 0=z∧E 1=(.int .i64 L)∧E 2=(.int .i64 a2)∧E 3=M∧E 8=(.int .i64 y)∧lh 193 kH 11 z b4 N) (λb4 d8=>?_) ?_)))))))
   ·refine ma (nn (λm E W=>∃U H k c1,ST false (keys (B++[])) w W μ0 (H++c1)∧E 0=z∧E 1=(.int .i64 L)∧E 2=(.int .i64 a2)∧E 3=M∧E 8=(.int .i64 y)∧E 9=(.int .i64 k)∧lh 193 kH 11 z U H∧nH L f3 m U k=some b4) kY ⟨T,G,y,_,(n.kA St),e9,f0,c3,f1,b1,rfl,b6,d8⟩ ?_)
    rintro m E W ⟨U,H,k,c1,n,Q,b2,c4,b3,c5,I,j,K⟩
    cases m with
    | zero=>rw [nH] at K; cases K
    | succ g2=>
     refine kM (kM ?_)
     replace n:=n.drew
     have d:=n.has.kA (Kr Sn)
     refine lU d li (X 0 rfl d (kD I) (X 1 rfl d (kD b2) (X 2 rfl d (lY rfl rfl rfl) (X 3 rfl d (kD rfl) (PJ K (λd0 E W=>∃c2,ST false (keys (B++[])) w W μ0 (H++c2)∧E 0=z∧E 1=(.int .i64 L)∧E 2=(.int .i64 a2)∧E 3=M∧E 8=(.int .i64 y)∧E 9=(.int .i64 k)∧E 34=(.bool d0)) (bm 17 131071) 0 ?_ (λd0 g a9=>?_))))))
     ·rintro i3 E W ⟨c2,n,D,c6,c7,c8,c9,J,f8⟩ c
      have d:=n.has.kA (Kr Sn)
      refine lX kr (kL (CI c f8 (λd6 c=>?_) (λd6 c=>?_)))
      ·refine kn (kM (ma ?_))
       replace n:=n.drew
       have d:=n.has.kA Sn
       have A:=n.has.kA (Kr Sn)
       refine rC 15 d A li (lf 0 rfl kr (.inl rfl) rfl dc (λ_ _ h=>⟨h.1,lm br h.2⟩) ⟨d,λ_=>A⟩ (λ_ _ _ _=>kD D) (lf 1 rfl kr (.inl rfl) rfl dc (λ_ _ h=>⟨h.1,lm br h.2⟩) ⟨d,λ_=>A⟩ (λ_ _ _ _=>kD J) (lf 2 rfl kr (.inl rfl) rfl dc (λ_ _ h=>⟨h.1,lm br h.2⟩) ⟨d,λ_=>A⟩ (λ_ _ _ _=>kD D) (lf 3 rfl kr (.inl rfl) rfl dc (λ_ _ h=>⟨h.1,lm br h.2⟩) ⟨d,λ_=>A⟩ (λ_ _ _ _=>kD J) (lf 4 rfl kr (.inl rfl) rfl dc (λ_ _ h=>⟨h.1,lm br h.2⟩) ⟨d,λ_=>A⟩ (λ_ _ _ _=>lY rfl rfl rfl) (lf 5 rfl kr (.inl rfl) rfl dc (λ_ _ h=>⟨h.1,lm br h.2⟩) ⟨d,λ_=>A⟩ (λ_ _ _ _=>kD D) (lf 6 rfl kr (.inl rfl) rfl dc (λ_ _ h=>⟨h.1,lm br h.2⟩) ⟨d,λ_=>A⟩ (λ_ _ _ _=>kD J) (lf 7 rfl kr (.inl rfl) rfl dc (λ_ _ h=>⟨h.1,lm br h.2⟩) ⟨d,λ_=>A⟩ (λ_ _ _ _=>lY rfl rfl rfl) (bS c λY a3 c=>oM 8 rfl kr (.inl rfl) rfl dc (λ_ _ h=>⟨h.1,lm br h.2⟩) ⟨d,λ_=>A⟩ (lI (i:=(wi0 .i64 (k-1))) (x0:=Y) cE cA rfl rfl j (kW a3) (kO a3)) (λh6 d9=>lf 9 rfl kr (.inl rfl) rfl dc (λ_ _ h=>⟨h.1,lm br h.2⟩) ⟨d,λ_=>A⟩ (λl W P hs=>have O:=(hs.2 (P.yj 15 [9] kr rfl)); kB rfl (na O (λp R=>(Ml R)) j lW d9 (kO a3) fa cA)) (lf 10 rfl kr (.inl rfl) rfl dc (λ_ _ h=>⟨h.1,lm br h.2⟩) ⟨d,λ_=>A⟩ (λ_ _ _ _=>kD D) (lf 11 rfl kr (.inl rfl) rfl dc (λ_ _ h=>⟨h.1,lm br h.2⟩) ⟨d,λ_=>A⟩ (λ_ _ _ _=>kD J) (bS c λZ a4 c=>?_)))))))))))))
       refine oM 12 rfl kr (.inl rfl) rfl dc (λ_ _ h=>⟨h.1,lm br h.2⟩) ⟨d,λ_=>A⟩ (lI (i:=k) (x0:=Z) cE cA rfl rfl j (kW a4) (kO a4)) (λh7 e0=>lf 13 rfl kr (.inl rfl) rfl dc (λ_ _ h=>⟨h.1,lm br h.2⟩) ⟨d,λ_=>A⟩ (λl W P hs=>have O:=(hs.2 (P.yj 15 [13] kr rfl)); kB rfl (na O (λp R=>(Ml R)) j lW e0 (kO a4) fa cA)) (bS c λg3 a5 c=>oM 14 rfl kr (.inl rfl) rfl dc (λ_ _ h=>⟨h.1,lm br h.2⟩) ⟨d,λ_=>A⟩ (lI (i:=k) (x0:=g3) cE cA rfl rfl j (kW a5) (kO a5)) (λh8 e1=>XO 15 rfl (pD (u:=(.agg (kH Y).toArray)) (x1:=Y)  n j lW oQ rfl rfl rfl e1 (kO a5) cA (λh3 h2 n b5=>?_)))))
       have d:=n.has.kA Sn
       refine ⟨⟨d,λh=>tQ kr h⟩,(bS c λg4 a6 c=>oM 16 rfl kr (.inl rfl) rfl dc (λ_ _ h=>⟨h.1,lm br h.2⟩) ⟨d,λh=>tQ kr h⟩ (lI (i:=(wi0 .i64 (k-1))) (x0:=g4) cE cA rfl rfl b5 (kW a6) (kO a6)) (λh9 e2=>XO 17 rfl (pD (u:=(.agg (kH Z).toArray)) (x1:=Z)  n b5 lW oQ rfl rfl rfl e2 (kO a6) cA (λh4 e8 n d4=>?_))))⟩
       have d:=n.has.kA Sn
       exact ⟨⟨d,λh=>tQ kr h⟩,(lX kr (lG (kL (kK (Wh J (Wi rfl (Wa (ln ⟨g2,aQ _,((U.set (Int.toNat k) Y).set (Int.toNat (wi0 .i64 (k-1))) Z),e8,(wi0 .i64 (k-1)),_,(n.kA St),D,c6,c7,c8,c9,rfl,d4,c⟩))))))))⟩
      refine mX (mD (mD (pE (kL ?_))))
      obtain rfl:=sj c
      exact ⟨H,_,(n.kA St),D,c6,c7,c8,c9,j⟩
     refine bC g (λa g=>?_) (λa g=>?_)
     ·refine Xg 4 rfl rfl (cB a) d (kD b3) (Xg 5 rfl rfl (cB a) d (kD Q) (Xg 6 rfl rfl (cB a) d (kD I) (bS g λd1 a7 g=>oM 7 rfl kr (.inr ⟨3,true,21,rfl,rfl,by decide,(cB a)⟩) rfl dc (λ_ _ h=>h) d (lI (i:=k) (x0:=d1) cE cA rfl rfl j (kW a7) (kO a7)) (λi0 e3=>Aj 8 rfl rfl (cB a) d (λ_ O=>kB rfl (na O (λp R=>(Ml R)) j lW e3 (kO a7) fa cA)) (Xg 9 rfl rfl (cB a) d (kD Q) (Xg 10 rfl rfl (cB a) d (kD I) (Xg 11 rfl rfl (cB a) d (lY rfl rfl rfl) (bS g λd2 a8 g=>oM 12 rfl kr (.inr ⟨3,true,21,rfl,rfl,by decide,(cB a)⟩) rfl dc (λ_ _ h=>h) d (lI (i:=(wi0 .i64 (k-1))) (x0:=d2) cE cA rfl rfl j (kW a8) (kO a8)) (λi1 e4=>Aj 13 rfl rfl (cB a) d (λ_ O=>kB rfl (na O (λp R=>(Ml R)) j lW e4 (kO a8) fa cA)) (bS g λi2 e5 g=>Mf 14 rfl rfl (cB a) (DL (d1,d2) n g9 (lx.refl _) rfl (qT rfl rfl) e5 (λh5 n=>?_))))))))))))
      have d:=n.has.kA (Kr Sn)
      refine ⟨d,(Xg 15 rfl rfl (cB a) d (lY rfl rfl rfl) (X 16 rfl d (lK (cB a) rfl) ?_))⟩
      obtain rfl:=sj g
      refine rN kr (a9 _ _ ⟨_,(n.kA St),Q,b2,c4,b3,c5,I,rfl⟩)
     refine Xn 4 rfl rfl (cB a) d (Xn 5 rfl rfl (cB a) d (Xn 6 rfl rfl (cB a) d (Xn 7 rfl rfl (cB a) d (Xn 8 rfl rfl (cB a) d (Xn 9 rfl rfl (cB a) d (Xn 10 rfl rfl (cB a) d (Xn 11 rfl rfl (cB a) d (Xn 12 rfl rfl (cB a) d (Xn 13 rfl rfl (cB a) d (Xn 14 rfl rfl (cB a) d (Xn 15 rfl rfl (cB a) d (X 16 rfl d (lN (cB a) rfl) ?_))))))))))))
     obtain rfl:=sj g
     refine rN kr (a9 _ _ ⟨_,(n.kA St),Q,b2,c4,b3,c5,I,rfl⟩)
   rintro g0 E W ⟨N,c0,n,f2,f4,f5,f6,f7,e6⟩ d7
   exact lG (kL (kK (Wh f7 (Wi rfl (Wa (ln ⟨g1,aQ _,g0,N,(wi0 .i64 (y+1)),_,(n.kA St),f2,f4,f5,f6,rfl,e6,d7⟩))))))
  refine mX (mD (mD (pE (kL (pc ?_)))))
  obtain rfl:=sj t
  exact nY rfl ⟨_,_,rfl,(n.nK (Kr Sn)),G,rfl,rfl,b6⟩
theorem tY (y:Value) (a0:List kq) (k:LO) (M N a3:Int) (a4:Value) (f4:(kq×kq)→Option Int) (r:List kq) (w:World) {μ0:lE} (h0:pn μ0 (k++[]) w) (b4:lh 193 kH 11 y a0 k) (c8:sI pg0 a4 μ0 (λ(x:(kq×kq))=>[(.agg (kH x.1).toArray),(.agg (kH x.2).toArray)]) (λ(r:Int)=>(.int .i64 r)) f4) (hm:pg a0 M N a3 f4=some r) :
  mi true pg0 365 [y,(.int .i64 M),(.int .i64 N),(.int .i64 a3),a4] w (k++[]) (λv L1 W'=>∃S1,v=(.tuple #[])∧L1=(S1++[])∧lh 193 kH 11 y r S1):=by
 refine xq h0 38 func365 rfl (λA=>sg (Wa (ln (sW (ma (nn (λm E W=>∃I z c Y,ST true (keys (k++[])) w W μ0 (z++Y)∧E 0=y∧E 1=(.int .i64 M)∧E 2=(.int .i64 N)∧E 3=(.int .i64 a3)∧E 10=(.int .i64 c)∧lh 193 kH 11 y I z∧nX a3 N M m I c=some r) kY ⟨a0,k,0,_,(A.kA St),rfl,rfl,rfl,rfl,rfl,b4,hm⟩ ?_))))))
 rintro m E W ⟨I,z,c,Y,A,t,Q,T,Z,j,g,a⟩
 cases m with
 | zero=>rw [nX] at a; cases a
 | succ b5=>
  refine kM (sg (Wh j (Wh Z (Wi rfl (ln (CI a rfl (λa7 a=>?_) (λa7 a=>?_)))))))
  ·refine kn (kM (ma ?_))
   replace A:=A.drew
   have d:=A.has.kA Sn
   have n:=A.has.kA (Kr Sn)
   refine rC 21 d n li (lf 0 rfl kr (.inl rfl) rfl dc (λ_ _ h=>⟨h.1,lm br h.2⟩) ⟨d,λ_=>n⟩ (λ_ _ _ _=>kD t) (lf 1 rfl kr (.inl rfl) rfl dc (λ_ _ h=>⟨h.1,lm br h.2⟩) ⟨d,λ_=>n⟩ (λ_ _ _ _=>kD Q) (lf 2 rfl kr (.inl rfl) rfl dc (λ_ _ h=>⟨h.1,lm br h.2⟩) ⟨d,λ_=>n⟩ (λ_ _ _ _=>kD j) (lf 3 rfl kr (.inl rfl) rfl dc (λ_ _ h=>⟨h.1,lm br h.2⟩) ⟨d,λ_=>n⟩ (λ_ _ _ _=>lY rfl rfl rfl) (lf 4 rfl kr (.inl rfl) rfl dc (λ_ _ h=>⟨h.1,lm br h.2⟩) ⟨d,λ_=>n⟩ (λ_ _ _ _=>kD t) (lf 5 rfl kr (.inl rfl) rfl dc (λ_ _ h=>⟨h.1,lm br h.2⟩) ⟨d,λ_=>n⟩ (λ_ _ _ _=>kD T) (lf 6 rfl kr (.inl rfl) rfl dc (λ_ _ h=>⟨h.1,lm br h.2⟩) ⟨d,λ_=>n⟩ (λ_ _ _ _=>kD j) (lf 7 rfl kr (.inl rfl) rfl dc (λ_ _ h=>⟨h.1,lm br h.2⟩) ⟨d,λ_=>n⟩ (λ_ _ _ _=>lY rfl rfl rfl) (lf 8 rfl kr (.inl rfl) rfl dc (λ_ _ h=>⟨h.1,lm br h.2⟩) ⟨d,λ_=>n⟩ (λ_ _ _ _=>kD t) (lf 9 rfl kr (.inl rfl) rfl dc (λ_ _ h=>⟨h.1,lm br h.2⟩) ⟨d,λ_=>n⟩ (λ_ _ _ _=>kD T) (lf 10 rfl kr (.inl rfl) rfl dc (λ_ _ h=>⟨h.1,lm br h.2⟩) ⟨d,λ_=>n⟩ (λ_ _ _ _=>kD j) (lf 11 rfl kr (.inl rfl) rfl dc (λ_ _ h=>⟨h.1,lm br h.2⟩) ⟨d,λ_=>n⟩ (λ_ _ _ _=>lY rfl rfl rfl) (bS a λJ B a=>oM 12 rfl kr (.inl rfl) rfl dc (λ_ _ h=>⟨h.1,lm br h.2⟩) ⟨d,λ_=>n⟩ (lI (i:=(wi0 .i64 (N+c))) (x0:=J) cE cA rfl rfl g (kW B) (kO B)) (λc9 a8=>?_))))))))))))))
   refine lf 13 rfl kr (.inl rfl) rfl dc (λ_ _ h=>⟨h.1,lm br h.2⟩) ⟨d,λ_=>n⟩ (λl W L R=>have O:=(R.2 (L.yj 21 [13] kr rfl)); kB rfl (na O (λp P=>(Ml P)) g lW a8 (kO B) fa cA)) (lf 14 rfl kr (.inl rfl) rfl dc (λ_ _ h=>⟨h.1,lm br h.2⟩) ⟨d,λ_=>n⟩ (λ_ _ _ _=>kD t) (lf 15 rfl kr (.inl rfl) rfl dc (λ_ _ h=>⟨h.1,lm br h.2⟩) ⟨d,λ_=>n⟩ (λ_ _ _ _=>kD Q) (lf 16 rfl kr (.inl rfl) rfl dc (λ_ _ h=>⟨h.1,lm br h.2⟩) ⟨d,λ_=>n⟩ (λ_ _ _ _=>kD j) (lf 17 rfl kr (.inl rfl) rfl dc (λ_ _ h=>⟨h.1,lm br h.2⟩) ⟨d,λ_=>n⟩ (λ_ _ _ _=>lY rfl rfl rfl) (bS a λK D a=>oM 18 rfl kr (.inl rfl) rfl dc (λ_ _ h=>⟨h.1,lm br h.2⟩) ⟨d,λ_=>n⟩ (lI (i:=(wi0 .i64 (M+c))) (x0:=K) cE cA rfl rfl g (kW D) (kO D)) (λd0 a9=>lf 19 rfl kr (.inl rfl) rfl dc (λ_ _ h=>⟨h.1,lm br h.2⟩) ⟨d,λ_=>n⟩ (λl W L R=>have O:=(R.2 (L.yj 21 [19] kr rfl)); kB rfl (na O (λp P=>(Ml P)) g lW a9 (kO D) fa cA)) (bS a λb7 G a=>oM 20 rfl kr (.inl rfl) rfl dc (λ_ _ h=>⟨h.1,lm br h.2⟩) ⟨d,λ_=>n⟩ (lI (i:=(wi0 .i64 (M+c))) (x0:=b7) cE cA rfl rfl g (kW G) (kO G)) (λd1 b0=>XO 21 rfl (pD (u:=(.agg (kH J).toArray)) (x1:=J)  A g lW oQ rfl rfl rfl b0 (kO G) cA (λc5 c4 A U=>?_))))))))))
   have d:=A.has.kA Sn
   refine ⟨⟨d,λh=>tQ kr h⟩,(bS a λb9 H a=>oM 22 rfl kr (.inl rfl) rfl dc (λ_ _ h=>⟨h.1,lm br h.2⟩) ⟨d,λh=>tQ kr h⟩ (lI (i:=(wi0 .i64 (N+c))) (x0:=b9) cE cA rfl rfl U (kW H) (kO H)) (λd2 b1=>XO 23 rfl (pD (u:=(.agg (kH K).toArray)) (x1:=K)  A U lW oQ rfl rfl rfl b1 (kO H) cA (λc6 b2 A a6=>?_))))⟩
   have d:=A.has.kA Sn
   exact ⟨⟨d,λh=>tQ kr h⟩,(lX kr (lG (kL (kK (Wh j (Wi rfl (Wa (ln ⟨b5,aQ _,((I.set (Int.toNat (wi0 .i64 (M+c))) J).set (Int.toNat (wi0 .i64 (N+c))) K),b2,(wi0 .i64 (c+1)),_,(A.kA St),t,Q,T,Z,rfl,a6,a⟩))))))))⟩
  refine mX (mD (mD (pE (kL (pc ?_)))))
  obtain rfl:=sj a
  exact nY rfl ⟨_,_,rfl,(A.nK (Kr Sn)),z,rfl,rfl,g⟩
theorem DD (k:Value) (a0:List kq) (G:LO) (L D a3:Int) (B:Value) (U:(kq×kq)→Option Int) (r:List kq) (w:World) {μ0:lE} (h0:pn μ0 (G++[]) w) (c5:lh 193 kH 11 k a0 G) (Q:sI pg0 B μ0 (λ(x:(kq×kq))=>[(.agg (kH x.1).toArray),(.agg (kH x.2).toArray)]) (λ(r:Int)=>(.int .i64 r)) U) (hm:oZ a0 L D a3 U=some r) :
  mi true pg0 326 [k,(.int .i64 L),(.int .i64 D),(.int .i64 a3),B] w (G++[]) (λv L1 W'=>∃S1,v=(.tuple #[])∧L1=(S1++[])∧lh 193 kH 11 k r S1):=by
 refine xq h0 58 func326 rfl (λd=>sg (Wm (Wm (Wi rfl (Wa (lr (Wm (Wm (Wi rfl (Wa ?_))))))))))
 refine ln (kM (ma (nn (λm E W=>∃z y c t T Y,lx μ0 T∧ST true (keys (G++[])) w W T (y++Y)∧E 0=k∧E 2=(.int .i64 D)∧E 4=B∧E 10=(.int .i64 c)∧E 11=(.int .i64 t)∧lh 193 kH 11 k z y∧oC D U m z c t=some r) kY ⟨a0,G,(wi0 .i64 (D-L)),(wi0 .i64 (a3-D)),μ0,_,(lx.refl _),(d.kA St),rfl,rfl,rfl,rfl,rfl,c5,hm⟩ ?_)))
 rintro m E W ⟨z,y,c,t,T,Y,j,d,H,i,I,g,u,J,a⟩
 let a2:=(wi0 .i64 (D-c))
 cases m with
 | zero=>rw [oC] at a; cases a
 | succ a5=>
  refine kM (sg (Wh g (Wh u (Wi rfl (ln (CI a rfl (λa9 a=>?_) (λa9 a=>?_)))))))
  ·refine kn (bg (Wh g (Wh u (Wi rfl (ln (CI a rfl (λb0 a=>?_) (λb0 a=>?_)))))))
   ·refine sg (Wh H (Wh i (Wh g (Wi rfl (Wh i (Wh u (Wh I (bS a λc6 b1 a=>?_))))))))
    refine VE (eM d (Cr Qz Cn) call365 (λA p=>(tY k z y a2 D t B U _ _ A J (Q.mono (j.trans p)) b1)) ?_)
    rintro _ e1 c8 d3 d Z O n ⟨b9,K,rfl,b4⟩
    obtain rfl:=K.symm
    replace d:=d.perm (Tr Tn)
    exact ln (kK (Wh g (Wh u (Wi rfl (Wa (lu (lG (kL ⟨a5,aQ _,c6,b9,(wi0 .i64 (c-t)),t,c8,_,(j.trans Z),(d.kA St),H,i,I,rfl,u,b4,a⟩))))))))
   refine sg (Wh H (Wh i (Wh g (Wi rfl (Wh i (Wh u (Wi rfl (Wh g (Wi rfl (Wh g (Wh I (bS a λc7 b2 a=>?_))))))))))))
   refine VE (eM d (Cr Qz Cn) call365 (λA p=>(tY k z y a2 (wi0 .i64 ((wi0 .i64 (D+t))-c)) c B U _ _ A J (Q.mono (j.trans p)) b2)) ?_)
   rintro _ e2 c9 d4 d a4 P n ⟨c0,M,rfl,b5⟩
   obtain rfl:=M.symm
   replace d:=d.perm (Tr Tn)
   exact ln (kK (Wh u (Wh g (Wi rfl (Wa (lu (lG (kL ⟨a5,aQ _,c7,c0,c,(wi0 .i64 (t-c)),c9,_,(j.trans a4),(d.kA St),H,i,I,g,rfl,b5,a⟩))))))))
  refine mX (mD (mD (pE (kL (kK (Wh H (Wh i (Wh g (Wi rfl (Wh i (Wh g (Wh I (bS a λe0 b3 a=>?_)))))))))))))
  refine VE (eM d (Cr Qz Cn) call365 (λA p=>(tY k z y a2 D c B U _ _ A J (Q.mono (j.trans p)) b3)) ?_)
  rintro _ e3 e4 d5 d d1 R n ⟨c1,N,rfl,b6⟩
  obtain rfl:=N.symm
  replace d:=d.perm (Tr Tn)
  refine lu (pc ?_)
  obtain rfl:=sj a
  exact nY rfl ⟨_,_,rfl,(d.nK (Kr Sn)),c1,rfl,rfl,b6⟩
set_option maxHeartbeats 4000000 in
theorem AR (s7:(List kq)→Int→Int→Int→((kq×kq)→Option Int)→Option (List kq)) (s1:∀(t:Value) (a0:List kq) (c:LO) (D:Int) (Q:Int) (G:Int) (I:Value) (f4:(kq×kq)→Option Int) (r:List kq) (w:World) {μ0:lE} (h0:pn μ0 (c++[]) w) (H:lh 193 kH 11 t a0 c) (c4:sI pg0 I μ0 (λ(x:(kq×kq))=>[(.agg (kH x.1).toArray),(.agg (kH x.2).toArray)]) (λ(r:Int)=>(.int .i64 r)) f4),s7 a0 D Q G f4=some r→mi false pg0 270 [t,(.int .i64 D),(.int .i64 Q),(.int .i64 G),I] w (c++[]) (λv L1 W'=>∃S1,v=(.tuple #[])∧L1=(S1++[])∧lh 193 kH 11 t r S1)) (t:Value) (a0:List kq) (c:LO) (D Q G:Int) (I:Value) (f4:(kq×kq)→Option Int) (r:List kq) (w:World) {μ0:lE} (h0:pn μ0 (c++[]) w) (H:lh 193 kH 11 t a0 c) (c4:sI pg0 I μ0 (λ(x:(kq×kq))=>[(.agg (kH x.1).toArray),(.agg (kH x.2).toArray)]) (λ(r:Int)=>(.int .i64 r)) f4) (hm:sw s7 a0 D Q G f4=some r) :
  mi false pg0 270 [t,(.int .i64 D),(.int .i64 Q),(.int .i64 G),I] w (c++[]) (λv L1 W'=>∃S1,v=(.tuple #[])∧L1=(S1++[])∧lh 193 kH 11 t r S1):=by
 refine xq h0 220 func270 rfl (λd=>kM (sg (Wm (Wm (Wi rfl (Wi rfl (ln (CI hm rfl (λy7 hm=>?_) (λy7 hm=>?_)))))))))
 ·refine sg (Wm (Wa (lr (Wm (Wa (ln (kM (ma (nn (λm E W=>∃U a7 o3,ST false (keys (c++[])) w W μ0 (c++o3)∧E 0=t∧E 1=(.int .i64 D)∧E 4=I∧E 10=(.int .i64 U)∧E 11=(.int .i64 a7)∧mS a0 D f4 m U a7=some r) kY ⟨Q,G,_,(d.kA St),rfl,rfl,rfl,rfl,rfl,hm⟩ ?_)))))))))
  rintro m E W ⟨U,a7,o3,d,e4,i4,k2,i5,k3,z⟩
  cases m with
  | zero=>rw [mS] at z; cases z
  | succ s6=>
   refine kM (sg (Wh i5 (Wh k3 (Wi rfl (ln (CI z rfl (λv4 z=>?_) (λv4 z=>?_)))))))
   ·refine kn (bg (Wh i5 (Wh k3 (Wi rfl (V (oG (k':=.i64) (a:=(wi0 .i64 (U+a7))) dn dl rfl) (V (A4 (a:=(IntKind.u64.wrap (wi0 .i64 (U+a7)))) (b:=1) rfl rfl dc) (V (oG (k':=.u64) (a:=(Int.fdiv (IntKind.u64.wrap (wi0 .i64 (U+a7))) (2 ^ min (Int.toNat 1) (IntKind.bits .u64)))) dl dn rfl) (Wa (ln (kM ?_))))))))))
    let c3:=(Int.fdiv (IntKind.u64.wrap (wi0 .i64 (U+a7))) (2 ^ min (Int.toNat 1) (IntKind.bits .u64)))
    replace d:=d.drew
    have n:=d.has.kA (Kr Sn)
    refine lU n li (X 0 rfl n (kD k2) (X 1 rfl n (kD e4) (X 2 rfl n (kD rfl) (bS z λs8 i6 z=>XQ 3 rfl n (lI (i:=(wi0 .i64 c3)) (x0:=s8) cE cA rfl rfl H (kW i6) (kO i6)) (λbd w0=>XH 4 rfl n (λ_ L=>kB rfl (na L (λp O=>(Ml O)) H lW w0 (kO i6) fa cA)) (X 5 rfl n (kD e4) (X 6 rfl n (kD i4) (bS z λs9 i7 z=>XQ 7 rfl n (lI (i:=D) (x0:=s9) cE cA rfl rfl H (kW i7) (kO i7)) (λbe w1=>XH 8 rfl n (λ_ L=>kB rfl (na L (λp O=>(Ml O)) H lW w1 (kO i7) fa cA)) (bS z λbk w6 z=>XE 9 rfl (DL (s8,s9) d c4 (lx.refl _) rfl (qT rfl rfl) w6 (λay d=>?_))))))))))))
    have n:=d.has.kA (Kr Sn)
    refine ⟨n,(X 10 rfl n (lY rfl rfl rfl) (lX kr (kL (CI z rfl (λv5 z=>?_) (λv5 z=>?_)))))⟩
    ·exact kK (Wm (Wi rfl (Wa (lu (lG (kL ⟨s6,aQ _,(wi0 .i64 ((wi0 .i64 c3)+1)),a7,_,(d.kA St),e4,i4,k2,rfl,k3,z⟩))))))
    exact kK (Wm (Wa (lu (lG (kL ⟨s6,aQ _,U,(wi0 .i64 c3),_,(d.kA St),e4,i4,k2,i5,rfl,z⟩)))))
   refine mX (mD (mD (pE (kL (kM (sg (Wh i4 (Wa (ln (CJ z (λk4 E W=>∃g3 o4,ST false (keys (c++[])) w W μ0 (g3++o4)∧lh 193 kH 11 t k4 g3) (λk4 v9=>?_) ?_))))))))))
   ·refine ma (nn (λm E W=>∃j4 g4 a8 o5,ST false (keys (c++[])) w W μ0 (g4++o5)∧E 0=t∧E 10=(.int .i64 U)∧E 13=(.int .i64 a8)∧lh 193 kH 11 t j4 g4∧oa U m j4 a8=some k4) kY ⟨a0,c,D,_,(d.kA St),e4,i5,rfl,H,v9⟩ ?_)
    rintro m E W ⟨j4,g4,a8,o5,d,e5,o7,c8,b1,B⟩
    cases m with
    | zero=>rw [oa] at B; cases B
    | succ y1=>
     refine kM (sg (Wh c8 (Wh o7 (Wi rfl (Wi rfl (ln (CI B rfl (λv6 B=>?_) (λv6 B=>?_))))))))
     ·refine kn (kM (ma ?_))
      replace d:=d.drew
      have n:=d.has.kA Sn
      have A:=d.has.kA (Kr Sn)
      refine rC 15 n A li (lf 0 rfl kr (.inl rfl) rfl dc (λ_ _ h=>⟨h.1,lm br h.2⟩) ⟨n,λ_=>A⟩ (λ_ _ _ _=>kD e5) (lf 1 rfl kr (.inl rfl) rfl dc (λ_ _ h=>⟨h.1,lm br h.2⟩) ⟨n,λ_=>A⟩ (λ_ _ _ _=>kD c8) (lf 2 rfl kr (.inl rfl) rfl dc (λ_ _ h=>⟨h.1,lm br h.2⟩) ⟨n,λ_=>A⟩ (λ_ _ _ _=>kD e5) (lf 3 rfl kr (.inl rfl) rfl dc (λ_ _ h=>⟨h.1,lm br h.2⟩) ⟨n,λ_=>A⟩ (λ_ _ _ _=>kD c8) (lf 4 rfl kr (.inl rfl) rfl dc (λ_ _ h=>⟨h.1,lm br h.2⟩) ⟨n,λ_=>A⟩ (λ_ _ _ _=>lY rfl rfl rfl) (lf 5 rfl kr (.inl rfl) rfl dc (λ_ _ h=>⟨h.1,lm br h.2⟩) ⟨n,λ_=>A⟩ (λ_ _ _ _=>kD e5) (lf 6 rfl kr (.inl rfl) rfl dc (λ_ _ h=>⟨h.1,lm br h.2⟩) ⟨n,λ_=>A⟩ (λ_ _ _ _=>kD c8) (lf 7 rfl kr (.inl rfl) rfl dc (λ_ _ h=>⟨h.1,lm br h.2⟩) ⟨n,λ_=>A⟩ (λ_ _ _ _=>lY rfl rfl rfl) (bS B λj7 i8 B=>oM 8 rfl kr (.inl rfl) rfl dc (λ_ _ h=>⟨h.1,lm br h.2⟩) ⟨n,λ_=>A⟩ (lI (i:=(wi0 .i64 (a8+1))) (x0:=j7) cE cA rfl rfl b1 (kW i8) (kO i8)) (λbf w2=>lf 9 rfl kr (.inl rfl) rfl dc (λ_ _ h=>⟨h.1,lm br h.2⟩) ⟨n,λ_=>A⟩ (λl W P hs=>have L:=(hs.2 (P.yj 15 [9] kr rfl)); kB rfl (na L (λp O=>(Ml O)) b1 lW w2 (kO i8) fa cA)) (lf 10 rfl kr (.inl rfl) rfl dc (λ_ _ h=>⟨h.1,lm br h.2⟩) ⟨n,λ_=>A⟩ (λ_ _ _ _=>kD e5) (lf 11 rfl kr (.inl rfl) rfl dc (λ_ _ h=>⟨h.1,lm br h.2⟩) ⟨n,λ_=>A⟩ (λ_ _ _ _=>kD c8) (bS B λj8 i9 B=>?_)))))))))))))
      refine oM 12 rfl kr (.inl rfl) rfl dc (λ_ _ h=>⟨h.1,lm br h.2⟩) ⟨n,λ_=>A⟩ (lI (i:=a8) (x0:=j8) cE cA rfl rfl b1 (kW i9) (kO i9)) (λbh w3=>lf 13 rfl kr (.inl rfl) rfl dc (λ_ _ h=>⟨h.1,lm br h.2⟩) ⟨n,λ_=>A⟩ (λl W P hs=>have L:=(hs.2 (P.yj 15 [13] kr rfl)); kB rfl (na L (λp O=>(Ml O)) b1 lW w3 (kO i9) fa cA)) (bS B λy3 j0 B=>oM 14 rfl kr (.inl rfl) rfl dc (λ_ _ h=>⟨h.1,lm br h.2⟩) ⟨n,λ_=>A⟩ (lI (i:=a8) (x0:=y3) cE cA rfl rfl b1 (kW j0) (kO j0)) (λbi w4=>XO 15 rfl (pD (u:=(.agg (kH j7).toArray)) (x1:=j7)  d b1 lW oQ rfl rfl rfl w4 (kO j0) cA (λaz aw d m8=>?_)))))
      have n:=d.has.kA Sn
      refine ⟨⟨n,λh=>tQ kr h⟩,(bS B λy4 j3 B=>oM 16 rfl kr (.inl rfl) rfl dc (λ_ _ h=>⟨h.1,lm br h.2⟩) ⟨n,λh=>tQ kr h⟩ (lI (i:=(wi0 .i64 (a8+1))) (x0:=y4) cE cA rfl rfl m8 (kW j3) (kO j3)) (λbj w5=>XO 17 rfl (pD (u:=(.agg (kH j8).toArray)) (x1:=j8)  d m8 lW oQ rfl rfl rfl w5 (kO j3) cA (λba y0 d v3=>?_))))⟩
      have n:=d.has.kA Sn
      exact ⟨⟨n,λh=>tQ kr h⟩,(lX kr (lG (kL (kK (Wh c8 (Wi rfl (Wa (ln ⟨y1,aQ _,((j4.set (Int.toNat a8) j7).set (Int.toNat (wi0 .i64 (a8+1))) j8),y0,(wi0 .i64 (a8+1)),_,(d.kA St),e5,o7,rfl,v3,B⟩))))))))⟩
     refine mX (mD (mD (pE (kL ?_))))
     obtain rfl:=sj B
     exact ⟨g4,_,(d.kA St),b1⟩
   rintro bc E W ⟨g3,o4,d,w7⟩ v8
   refine lJ (mL ?_)
   obtain rfl:=sj v8
   exact nY rfl ⟨_,_,rfl,(d.nK (Kr Sn)),g3,rfl,rfl,w7⟩
 refine kS (Wm (Wm (Wi rfl (Wi rfl (ln (CI hm rfl (λv7 hm=>?_) (λv7 hm=>?_)))))))
 ·refine sg (Wm (Wa (lr (Wm (Wa (ln (kM (ma (nn (λm E W=>∃Y a9 k5,ST false (keys (c++[])) w W μ0 (c++k5)∧E 0=t∧E 2=(.int .i64 Q)∧E 4=I∧E 14=(.int .i64 Y)∧E 15=(.int .i64 a9)∧mT a0 Q f4 m Y a9=some r) kY ⟨D,Q,_,(d.kA St),rfl,rfl,rfl,rfl,rfl,hm⟩ ?_)))))))))
  rintro m E W ⟨Y,a9,k5,d,c5,d2,g7,d3,g8,j⟩
  let e3:=(IntKind.u64.wrap (wi0 .i64 (Y+a9)))
  let b8:=(Int.fdiv e3 (2 ^ min (Int.toNat 1) (IntKind.bits .u64)))
  cases m with
  | zero=>rw [mT] at j; cases j
  | succ m9=>
   refine kM (sg (Wh d3 (Wh g8 (Wi rfl (ln (CI j rfl (λp2 j=>?_) (λp2 j=>?_)))))))
   ·refine kn (bg (Wh d3 (Wh g8 (Wi rfl (V (oG (k':=.i64) (a:=(wi0 .i64 (Y+a9))) dn dl rfl) (V (A4 (a:=e3) (b:=1) rfl rfl dc) (V (oG (k':=.u64) (a:=(Int.fdiv e3 (2 ^ min (Int.toNat 1) (IntKind.bits .u64)))) dl dn rfl) (Wa (ln (kM ?_))))))))))
    replace d:=d.drew
    have n:=d.has.kA (Kr Sn)
    refine lU n li (X 0 rfl n (kD g7) (X 1 rfl n (kD c5) (X 2 rfl n (kD d2) (bS j λn6 f0 j=>XQ 3 rfl n (lI (i:=Q) (x0:=n6) cE cA rfl rfl H (kW f0) (kO f0)) (λaa q8=>XH 4 rfl n (λ_ L=>kB rfl (na L (λp O=>(Ml O)) H lW q8 (kO f0) fa cA)) (X 5 rfl n (kD c5) (X 6 rfl n (kD rfl) (bS j λn7 f1 j=>XQ 7 rfl n (lI (i:=(wi0 .i64 b8)) (x0:=n7) cE cA rfl rfl H (kW f1) (kO f1)) (λab q9=>XH 8 rfl n (λ_ L=>kB rfl (na L (λp O=>(Ml O)) H lW q9 (kO f1) fa cA)) (bS j λai r6 j=>XE 9 rfl (DL (n6,n7) d c4 (lx.refl _) rfl (qT rfl rfl) r6 (λz2 d=>?_))))))))))))
    have n:=d.has.kA (Kr Sn)
    refine ⟨n,(X 10 rfl n (lY rfl rfl rfl) (X 11 rfl n (oF rfl) (lX kr (kL (CI j rfl (λp3 j=>?_) (λp3 j=>?_))))))⟩
    ·exact kK (Wm (Wi rfl (Wa (lu (lG (kL ⟨m9,aQ _,(wi0 .i64 ((wi0 .i64 b8)+1)),a9,_,(d.kA St),c5,d2,g7,rfl,g8,j⟩))))))
    exact kK (Wm (Wa (lu (lG (kL ⟨m9,aQ _,Y,(wi0 .i64 b8),_,(d.kA St),c5,d2,g7,d3,rfl,j⟩)))))
   refine mX (mD (mD (pE (kL (kM (sg (Wh d2 (Wa (ln (CJ j (λj5 E W=>∃d0 k6,ST false (keys (c++[])) w W μ0 (d0++k6)∧lh 193 kH 11 t j5 d0) (λj5 q2=>?_) ?_))))))))))
   ·refine ma (nn (λm E W=>∃d9 d1 T k7,ST false (keys (c++[])) w W μ0 (d1++k7)∧E 0=t∧E 14=(.int .i64 Y)∧E 17=(.int .i64 T)∧lh 193 kH 11 t d9 d1∧oq Y m d9 T=some j5) kY ⟨a0,c,Q,_,(d.kA St),c5,d3,rfl,H,q2⟩ ?_)
    rintro m E W ⟨d9,d1,T,k7,d,c6,l5,b9,a6,y⟩
    cases m with
    | zero=>rw [oq] at y; cases y
    | succ x2=>
     refine kM (sg (Wh b9 (Wh l5 (Wi rfl (ln (CI y rfl (λp4 y=>?_) (λp4 y=>?_)))))))
     ·refine kn (kM (ma ?_))
      replace d:=d.drew
      have n:=d.has.kA Sn
      have A:=d.has.kA (Kr Sn)
      refine rC 15 n A li (lf 0 rfl kr (.inl rfl) rfl dc (λ_ _ h=>⟨h.1,lm br h.2⟩) ⟨n,λ_=>A⟩ (λ_ _ _ _=>kD c6) (lf 1 rfl kr (.inl rfl) rfl dc (λ_ _ h=>⟨h.1,lm br h.2⟩) ⟨n,λ_=>A⟩ (λ_ _ _ _=>kD b9) (lf 2 rfl kr (.inl rfl) rfl dc (λ_ _ h=>⟨h.1,lm br h.2⟩) ⟨n,λ_=>A⟩ (λ_ _ _ _=>kD c6) (lf 3 rfl kr (.inl rfl) rfl dc (λ_ _ h=>⟨h.1,lm br h.2⟩) ⟨n,λ_=>A⟩ (λ_ _ _ _=>kD b9) (lf 4 rfl kr (.inl rfl) rfl dc (λ_ _ h=>⟨h.1,lm br h.2⟩) ⟨n,λ_=>A⟩ (λ_ _ _ _=>lY rfl rfl rfl) (lf 5 rfl kr (.inl rfl) rfl dc (λ_ _ h=>⟨h.1,lm br h.2⟩) ⟨n,λ_=>A⟩ (λ_ _ _ _=>kD c6) (lf 6 rfl kr (.inl rfl) rfl dc (λ_ _ h=>⟨h.1,lm br h.2⟩) ⟨n,λ_=>A⟩ (λ_ _ _ _=>kD b9) (lf 7 rfl kr (.inl rfl) rfl dc (λ_ _ h=>⟨h.1,lm br h.2⟩) ⟨n,λ_=>A⟩ (λ_ _ _ _=>lY rfl rfl rfl) (bS y λe0 f2 y=>oM 8 rfl kr (.inl rfl) rfl dc (λ_ _ h=>⟨h.1,lm br h.2⟩) ⟨n,λ_=>A⟩ (lI (i:=(wi0 .i64 (T-1))) (x0:=e0) cE cA rfl rfl a6 (kW f2) (kO f2)) (λac r0=>lf 9 rfl kr (.inl rfl) rfl dc (λ_ _ h=>⟨h.1,lm br h.2⟩) ⟨n,λ_=>A⟩ (λl W P hs=>have L:=(hs.2 (P.yj 15 [9] kr rfl)); kB rfl (na L (λp O=>(Ml O)) a6 lW r0 (kO f2) fa cA)) (lf 10 rfl kr (.inl rfl) rfl dc (λ_ _ h=>⟨h.1,lm br h.2⟩) ⟨n,λ_=>A⟩ (λ_ _ _ _=>kD c6) (lf 11 rfl kr (.inl rfl) rfl dc (λ_ _ h=>⟨h.1,lm br h.2⟩) ⟨n,λ_=>A⟩ (λ_ _ _ _=>kD b9) (bS y λe1 f3 y=>?_)))))))))))))
      refine oM 12 rfl kr (.inl rfl) rfl dc (λ_ _ h=>⟨h.1,lm br h.2⟩) ⟨n,λ_=>A⟩ (lI (i:=T) (x0:=e1) cE cA rfl rfl a6 (kW f3) (kO f3)) (λad r1=>lf 13 rfl kr (.inl rfl) rfl dc (λ_ _ h=>⟨h.1,lm br h.2⟩) ⟨n,λ_=>A⟩ (λl W P hs=>have L:=(hs.2 (P.yj 15 [13] kr rfl)); kB rfl (na L (λp O=>(Ml O)) a6 lW r1 (kO f3) fa cA)) (bS y λx3 f5 y=>oM 14 rfl kr (.inl rfl) rfl dc (λ_ _ h=>⟨h.1,lm br h.2⟩) ⟨n,λ_=>A⟩ (lI (i:=T) (x0:=x3) cE cA rfl rfl a6 (kW f5) (kO f5)) (λae r2=>XO 15 rfl (pD (u:=(.agg (kH e0).toArray)) (x1:=e0)  d a6 lW oQ rfl rfl rfl r2 (kO f5) cA (λz3 z1 d j9=>?_)))))
      have n:=d.has.kA Sn
      refine ⟨⟨n,λh=>tQ kr h⟩,(bS y λx4 f6 y=>oM 16 rfl kr (.inl rfl) rfl dc (λ_ _ h=>⟨h.1,lm br h.2⟩) ⟨n,λh=>tQ kr h⟩ (lI (i:=(wi0 .i64 (T-1))) (x0:=x4) cE cA rfl rfl j9 (kW f6) (kO f6)) (λaf r3=>XO 17 rfl (pD (u:=(.agg (kH e1).toArray)) (x1:=e1)  d j9 lW oQ rfl rfl rfl r3 (kO f6) cA (λz4 t0 d p1=>?_))))⟩
      have n:=d.has.kA Sn
      exact ⟨⟨n,λh=>tQ kr h⟩,(lX kr (lG (kL (kK (Wh b9 (Wi rfl (Wa (ln ⟨x2,aQ _,((d9.set (Int.toNat T) e0).set (Int.toNat (wi0 .i64 (T-1))) e1),t0,(wi0 .i64 (T-1)),_,(d.kA St),c6,l5,rfl,p1,y⟩))))))))⟩
     refine mX (mD (mD (pE (kL ?_))))
     obtain rfl:=sj y
     exact ⟨d1,_,(d.kA St),a6⟩
   rintro z9 E W ⟨d0,k6,d,s2⟩ q1
   refine lJ (mL ?_)
   obtain rfl:=sj q1
   exact nY rfl ⟨_,_,rfl,(d.nK (Kr Sn)),d0,rfl,rfl,s2⟩
 let e6:=(IntKind.u64.wrap (wi0 .i64 (D+G)))
 refine kg (Wm (Wm (Wi rfl (V (oG (k':=.i64) (a:=(wi0 .i64 (D+G))) dn dl rfl) (V (A4 (a:=e6) (b:=1) rfl rfl dc) (V (oG (k':=.u64) (a:=(Int.fdiv e6 (2 ^ min (Int.toNat 1) (IntKind.bits .u64)))) dl dn rfl) (Wa (lr ?_))))))))
 let a1:=(wi0 .i64 (Int.fdiv e6 (2 ^ min (Int.toNat 1) (IntKind.bits .u64))))
 let c9:=(wi0 .i64 (a1+Q))
 refine Wm (Wm (Wi rfl (Wa (lr (Wa (Wa (ln (kM (CJ hm (λj6 E W=>∃k8,ST false (keys (c++[])) w W μ0 (c++k8)∧E 0=t∧E 1=(.int .i64 D)∧E 2=(.int .i64 Q)∧E 3=(.int .i64 G)∧E 4=I∧E 18=(.int .i64 a1)∧E 19=(.int .i64 c9)∧E 20=(.int .i64 j6.1)∧E 21=(.int .i64 j6.2)) (λj6 b5=>?_) ?_)))))))))
 ·refine sg (Wm (Wm (Wi rfl (ln (CI b5 rfl (λq0 b5=>?_) (λq0 b5=>?_))))))
  ·refine sg (Wm (Wm (Wi rfl (Wa (ln (kK (Wm (Wa (ln ?_)))))))))
   obtain rfl:=sj b5
   exact ⟨_,(d.kA St),rfl,rfl,rfl,rfl,rfl,rfl,rfl,rfl,rfl⟩
  refine sg (Wm (Wa (ln (kK (Wm (Wa (ln ?_)))))))
  obtain rfl:=sj b5
  exact ⟨_,(d.kA St),rfl,rfl,rfl,rfl,rfl,rfl,rfl,rfl,rfl⟩
 rintro ⟨x5,x6⟩ E W ⟨k8,d,t4,t5,t6,t7,t8,t9,l6,u0,u1⟩ q3
 refine sg (Wh l6 (Wi rfl (Wa (ln (kM (ma (nn (λm E W=>∃g N k9,ST false (keys (c++[])) w W μ0 (c++k9)∧E 0=t∧E 1=(.int .i64 D)∧E 2=(.int .i64 Q)∧E 3=(.int .i64 G)∧E 4=I∧E 18=(.int .i64 a1)∧E 19=(.int .i64 c9)∧E 20=(.int .i64 g)∧E 21=(.int .i64 N)∧E 22=(.int .i64 (wi0 .i64 (c9-1)))∧mx a0 D G Q f4 s7 m g N=some r) kY ⟨x5,x6,_,(d.kA St),t4,t5,t6,t7,t8,t9,l6,u0,u1,rfl,q3⟩ ?_)))))))
 rintro m E W ⟨g,N,k9,d,c0,d4,c1,d5,c7,d6,g9,b0,h1,h2,k⟩
 let g5:=(IntKind.u64.wrap (wi0 .i64 (g+N)))
 let a3:=(Int.fdiv g5 (2 ^ min (Int.toNat 1) (IntKind.bits .u64)))
 let g6:=(wi0 .i64 a3)
 let a2:=(wi0 .i64 (c9-g))
 cases m with
 | zero=>rw [mx] at k; cases k
 | succ n0=>
  refine kM (sg (Wh b0 (Wh h1 (Wi rfl (ln (CI k rfl (λp5 k=>?_) (λp5 k=>?_)))))))
  ·refine kn (bg (Wh b0 (Wh h1 (Wi rfl (V (oG (k':=.i64) (a:=(wi0 .i64 (g+N))) dn dl rfl) (V (A4 (a:=g5) (b:=1) rfl rfl dc) (V (oG (k':=.u64) (a:=(Int.fdiv g5 (2 ^ min (Int.toNat 1) (IntKind.bits .u64)))) dl dn rfl) (Wa (ln (kM ?_))))))))))
   replace d:=d.drew
   have n:=d.has.kA (Kr Sn)
   refine lU n li (X 0 rfl n (kD c7) (X 1 rfl n (kD c0) (X 2 rfl n (kD h2) (X 3 rfl n (kD rfl) (X 4 rfl n (lY rfl rfl rfl) (bS k λn8 f7 k=>XQ 5 rfl n (lI (i:=(wi0 .i64 ((wi0 .i64 (c9-1))-g6))) (x0:=n8) cE cA rfl rfl H (kW f7) (kO f7)) (λag r4=>XH 6 rfl n (λ_ L=>kB rfl (na L (λp O=>(Ml O)) H lW r4 (kO f7) fa cA)) (X 7 rfl n (kD c0) (X 8 rfl n (kD rfl) (bS k λn9 f8 k=>XQ 9 rfl n (lI (i:=(wi0 .i64 a3)) (x0:=n9) cE cA rfl rfl H (kW f8) (kO f8)) (λah r5=>XH 10 rfl n (λ_ L=>kB rfl (na L (λp O=>(Ml O)) H lW r5 (kO f8) fa cA)) (bS k λaj r7 k=>?_))))))))))))
   refine XE 11 rfl (DL (n8,n9) d c4 (lx.refl _) rfl (qT rfl rfl) r7 (λz5 d=>?_))
   have n:=d.has.kA (Kr Sn)
   refine ⟨n,(X 12 rfl n (lY rfl rfl rfl) (X 13 rfl n (oF rfl) (lX kr (kL (CI k rfl (λp6 k=>?_) (λp6 k=>?_))))))⟩
   ·exact kK (Wm (Wi rfl (Wa (lu (lG (kL ⟨n0,aQ _,(wi0 .i64 (g6+1)),N,_,(d.kA St),c0,d4,c1,d5,c7,d6,g9,rfl,h1,h2,k⟩))))))
   exact kK (Wm (Wa (lu (lG (kL ⟨n0,aQ _,g,g6,_,(d.kA St),c0,d4,c1,d5,c7,d6,g9,b0,rfl,h2,k⟩)))))
  refine mX (mD (mD (pE (kL (sg (Wh g9 (Wh b0 (Wi rfl (Wa (ln (kM (CJ k (λn4 E W=>∃b6 c2 l0,lx μ0 c2∧ST false (keys (c++[])) w W c2 (b6++l0)∧E 0=t∧E 1=(.int .i64 D)∧E 3=(.int .i64 G)∧E 4=I∧E 18=(.int .i64 a1)∧E 20=(.int .i64 g)∧E 24=(.int .i64 a2)∧lh 193 kH 11 t n4 b6) (λn4 q7=>?_) ?_))))))))))))
  ·refine sg (Wh b0 (Wh c1 (Wi rfl (Wm (LJ q7 (λn5 E W=>∃l4,ST false (keys (c++[])) w W μ0 (c++l4)∧E 0=t∧E 1=(.int .i64 D)∧E 2=(.int .i64 Q)∧E 3=(.int .i64 G)∧E 4=I∧E 18=(.int .i64 a1)∧E 20=(.int .i64 g)∧E 24=(.int .i64 a2)∧E 185=(.bool n5)) 4 ?_ (λn5 b4 g2=>?_))))))
   ·rintro au E W ⟨l4,d,i0,m5,v1,m6,i1,m7,i2,i3,v2⟩ a5
    refine ln (CI a5 v2 (λp9 a5=>?_) (λp9 a5=>?_))
    ·refine kK (Wh i0 (Wh i2 (Wh v1 (Wh i3 (Wh i1 (bS a5 λam s0 a5=>?_))))))
     refine VE (eM d (Cr Qz Cn) call326 (λhh aE=>mi.nx (DD t a0 c g Q a2 I f4 _ _ hh H (c4.mono aE) s0)) ?_)
     rintro _ ap x8 z0 d o2 bq R ⟨t3,e9,rfl,s5⟩
     obtain rfl:=e9.symm
     replace d:=d.perm (Tr Tn)
     refine ln ?_
     obtain rfl:=sj a5
     exact ⟨t3,x8,_,o2,(d.kA St),i0,m5,m6,i1,m7,i2,i3,s5⟩
    refine kn ?_
    obtain rfl:=sj a5
    exact ⟨c,μ0,_,(lx.refl _),(d.kA St),i0,m5,m6,i1,m7,i2,i3,H⟩
   refine bC b4 (λM b4=>?_) (λM b4=>?_)
   ·refine ug M (kD c1) (ug M (kD rfl) (ug M (lY rfl rfl rfl) (V (lK (cB M) rfl) ?_)))
    obtain rfl:=sj b4
    exact g2 _ _ ⟨_,(d.kA St),c0,d4,c1,d5,c7,d6,b0,rfl,rfl⟩
   refine un M (un M (un M (V (lN (cB M) rfl) ?_)))
   obtain rfl:=sj b4
   exact g2 _ _ ⟨_,(d.kA St),c0,d4,c1,d5,c7,d6,b0,rfl,rfl⟩
  rintro w8 E W ⟨b6,c2,l0,f9,d,l7,h3,l8,l9,h4,d7,m0,k0⟩ q4
  refine kM (CJ q4 (λn2 E W=>∃b7 e2 l1,lx c2 e2∧ST false (keys (c++[])) w W e2 (b7++l1)∧E 0=t∧E 3=(.int .i64 G)∧E 4=I∧E 18=(.int .i64 a1)∧E 24=(.int .i64 a2)∧lh 193 kH 11 t n2 b7) (λn2 q6=>?_) ?_)
  ·refine sg (Wh h3 (Wh d7 (Wi rfl (Wm (LJ q6 (λn3 E W=>∃l3,ST false (keys (c++[])) w W c2 (b6++l3)∧E 0=t∧E 1=(.int .i64 D)∧E 3=(.int .i64 G)∧E 4=I∧E 18=(.int .i64 a1)∧E 20=(.int .i64 g)∧E 24=(.int .i64 a2)∧E 199=(.bool n3)) 4 ?_ (λn3 b3 g1=>?_))))))
   ·rintro ar E W ⟨l3,d,h7,u8,m3,h8,h9,u9,m4,v0⟩ a4
    refine ln (CI a4 v0 (λp8 a4=>?_) (λp8 a4=>?_))
    ·refine kK (Wh h7 (Wh u8 (Wh u9 (Wh h9 (Wh h8 (bS a4 λal r9 a4=>?_))))))
     refine VE (eM d (Cr Qz Cn) call270 (λhh aE=>(s1 t w8 b6 D g a1 I f4 _ _ hh k0 (c4.mono (f9.trans aE)) r9)) ?_)
     rintro _ ao x7 y9 d o1 bp R ⟨t2,e8,rfl,s4⟩
     obtain rfl:=e8.symm
     replace d:=d.perm (Tr Tn)
     refine ln ?_
     obtain rfl:=sj a4
     exact ⟨t2,x7,_,o1,(d.kA St),h7,m3,h8,h9,m4,s4⟩
    refine kn ?_
    obtain rfl:=sj a4
    exact ⟨b6,c2,_,(lx.refl _),(d.kA St),h7,m3,h8,h9,m4,k0⟩
   refine bC b3 (λK b3=>?_) (λK b3=>?_)
   ·refine ug K (kD d7) (ug K (kD h4) (ug K (lY rfl rfl rfl) (V (lK (cB K) rfl) ?_)))
    obtain rfl:=sj b3
    exact g1 _ _ ⟨_,(d.kA St),l7,h3,l8,l9,h4,d7,m0,rfl⟩
   refine un K (un K (un K (V (lN (cB K) rfl) ?_)))
   obtain rfl:=sj b3
   exact g1 _ _ ⟨_,(d.kA St),l7,h3,l8,l9,h4,d7,m0,rfl⟩
  rintro w9 E W ⟨b7,e2,l1,o0,d,m1,h5,m2,h6,d8,k1⟩ q5
  refine sg (Wh h6 (Wh d8 (Wi rfl (Wm (LJ q5 (λn1 E W=>∃l2,ST false (keys (c++[])) w W e2 (b7++l2)∧E 0=t∧E 3=(.int .i64 G)∧E 4=I∧E 18=(.int .i64 a1)∧E 24=(.int .i64 a2)∧E 213=(.bool n1)) 4 ?_ (λn1 b2 g0=>?_))))))
  ·rintro aq E W ⟨l2,d,u2,u3,u4,u5,u6,u7⟩ Z
   refine ln (CI Z u7 (λp7 Z=>?_) (λp7 Z=>?_))
   ·refine kK (Wh u2 (Wh u5 (Wh u6 (Wh u3 (Wh u4 (bS Z λak r8 Z=>?_))))))
    refine VE (eM d (Cr Qz Cn) call270 (λhh aE=>(s1 t w9 b7 a1 a2 G I f4 _ _ hh k1 (c4.mono ((f9.trans o0).trans aE)) r8)) ?_)
    rintro _ an av y8 d y5 bl R ⟨t1,e7,rfl,s3⟩
    obtain rfl:=e7.symm
    replace d:=d.perm (Tr Tn)
    refine lu (pc ?_)
    obtain rfl:=sj Z
    exact nY rfl ⟨_,_,rfl,(d.nK (Kr Sn)),t1,rfl,rfl,s3⟩
   refine nf (pc ?_)
   obtain rfl:=sj Z
   exact nY rfl ⟨_,_,rfl,(d.nK (Kr Sn)),b7,rfl,rfl,k1⟩
  refine bC b2 (λJ b2=>?_) (λJ b2=>?_)
  ·refine ug J (kD d8) (ug J (kD h5) (ug J (lY rfl rfl rfl) (V (lK (cB J) rfl) ?_)))
   obtain rfl:=sj b2
   exact g0 _ _ ⟨_,(d.kA St),m1,h5,m2,h6,d8,rfl⟩
  refine un J (un J (un J (V (lN (cB J) rfl) ?_)))
  obtain rfl:=sj b2
  exact g0 _ _ ⟨_,(d.kA St),m1,h5,m2,h6,d8,rfl⟩
theorem uz:∀(n:Nat) (c:Value) (j:List kq) (a:LO) (k:Int) (t:Int) (u:Int) (g:Value) (y:(kq×kq)→Option Int) (r:List kq) (w:World) {z:lE} (H:pn z (a++[]) w) (D:lh 193 kH 11 c j a) (G:sI pg0 g z (λ(x:(kq×kq))=>[(.agg (kH x.1).toArray),(.agg (kH x.2).toArray)]) (λ(r:Int)=>(.int .i64 r)) y) (_:np n j k t u y=some r),
  mi false pg0 270 [c,(.int .i64 k),(.int .i64 t),(.int .i64 u),g] w (a++[]) (λv B W'=>∃i,v=(.tuple #[])∧B=(i++[])∧lh 193 kH 11 c r i)
 | 0=>by intros; rename_i h; simp only [np] at h; cases h
 | n+1=>AR (np n) (uz n)
theorem Dl (a:Value) (a0:List kq) (u:LO) (M:Int) (t:Value) (f2:(kq×kq)→Option Int) (r:List kq) (w:World) {μ0:lE} (h0:pn μ0 (u++[]) w) (k4:lh 193 kH 11 a a0 u) (c4:sI pg0 t μ0 (λ(x:(kq×kq))=>[(.agg (kH x.1).toArray),(.agg (kH x.2).toArray)]) (λ(r:Int)=>(.int .i64 r)) f2) (hm:uO a0 M f2=some r) :
  mi false pg0 210 [a,(.int .i64 M),t] w (u++[]) (λv L1 W'=>∃S1,v=(.tuple #[])∧L1=(S1++[])∧lh 193 kH 11 a r S1):=by
 refine xq h0 63 func210 rfl (λd=>sg (Wa (lr (Wm (Wa (Wa (ln (kM (ma (nn (λm E W=>∃d2 O d3 L h2 f0,lx μ0 h2∧ST false (keys (u++[])) w W h2 (O++f0)∧E 0=a∧E 1=(.int .i64 M)∧E 2=t∧E 6=(.int .i64 20)∧E 7=(.int .i64 d3)∧E 8=(.int .i64 L)∧lh 193 kH 11 a d2 O∧nW M f2 m d2 d3 L=some r) kY ⟨a0,u,0,20,μ0,_,(lx.refl _),(d.kA St),rfl,rfl,rfl,rfl,rfl,rfl,k4,hm⟩ ?_))))))))))
 rintro m E W ⟨d2,O,d3,L,h2,f0,y,d,P,R,b3,d4,f3,b4,g8,g⟩
 cases m with
 | zero=>rw [nW] at g; cases g
 | succ k5=>
  refine kM (sg (Wh b4 (Wh R (Wi rfl (ln (CI g rfl (λi3 g=>?_) (λi3 g=>?_)))))))
  ·refine kn (bg (Wh P (Wh f3 (Wh b4 (Wh b3 (bS g λk6 i6 g=>?_))))))
   refine VE (eM d (Cr Qz Cn) call269 (λA p=>(vT a d2 O d3 L t f2 _ _ A g8 (c4.mono (y.trans p)) i6)) ?_)
   rintro _ m5 k8 l9 d f9 ab n ⟨k1,c5,rfl,i9⟩
   obtain rfl:=c5.symm
   replace d:=d.perm (Tr Tn)
   refine lr (Wh b4 (Wa (ln (kK (Wh b4 (Wh d4 (Wi rfl (Wa (lu (lG ?_))))))))))
   exact kL ⟨k5,aQ _,k6,k1,L,(wi0 .i64 (L+20)),k8,_,(y.trans f9),(d.kA St),P,R,b3,d4,rfl,rfl,i9,g⟩
  refine mX (mD (mD (pE (kL (sg (Wh P (Wh f3 (Wh R (Wh b3 (bS g λk7 i7 g=>?_))))))))))
  refine VE (eM d (Cr Qz Cn) call269 (λA p=>(vT a d2 O d3 M t f2 _ _ A g8 (c4.mono (y.trans p)) i7)) ?_)
  rintro _ m6 d6 m0 d c9 ad n ⟨k2,c6,rfl,j0⟩
  obtain rfl:=c6.symm
  replace d:=d.perm (Tr Tn)
  refine ln (sW (CJ g (λd5 E W=>∃a9 d7 f1,lx d6 d7∧ST false (keys (u++[])) w W d7 (a9++f1)∧lh 193 kH 11 a d5 a9) (λd5 i5=>?_) ?_))
  ·refine ma (nn (λm E W=>∃c7 a4 j D d8,lx d6 D∧ST false (keys (u++[])) w W D (a4++d8)∧E 0=a∧E 1=(.int .i64 M)∧E 2=t∧E 6=(.int .i64 j)∧lh 193 kH 11 a c7 a4∧nU M f2 m c7 j=some d5) kY ⟨k7,k2,20,d6,_,(lx.refl _),(d.kA St),P,R,b3,d4,j0,i5⟩ ?_)
   rintro m E W ⟨c7,a4,j,D,d8,z,d,h5,e2,h6,b0,e4,i⟩
   cases m with
   | zero=>rw [nU] at i; cases i
   | succ j5=>
    refine kM (sg (Wh b0 (Wh e2 (Wi rfl (ln (CI i rfl (λf6 i=>?_) (λf6 i=>?_)))))))
    ·refine kn (bg (Wh b0 (Wi rfl (Wa (Wa (ln (kM (CJ i (λZ E W=>∃G J d9,lx D J∧ST false (keys (u++[])) w W J (G++d9)∧E 0=a∧E 1=(.int .i64 M)∧E 2=t∧E 6=(.int .i64 j)∧E 7=(.int .i64 Z.2)∧lh 193 kH 11 a Z.1 G) (λZ g2=>?_) ?_))))))))
     ·refine ma (nn (λm E W=>∃Y H I B a3 e1,lx D a3∧ST false (keys (u++[])) w W a3 (H++e1)∧E 0=a∧E 1=(.int .i64 M)∧E 2=t∧E 6=(.int .i64 j)∧E 7=(.int .i64 I)∧E 8=(.int .i64 B)∧lh 193 kH 11 a Y H∧oD M j f2 m Y I B=some Z) kY ⟨c7,a4,0,(wi0 .i64 (2*j)),D,_,(lx.refl _),(d.kA St),h5,e2,h6,b0,rfl,rfl,e4,g2⟩ ?_)
      rintro m E W ⟨Y,H,I,B,a3,e1,K,d,b9,c0,c1,T,c2,U,d1,c⟩
      cases m with
      | zero=>rw [oD] at c; cases c
      | succ j6=>
       refine kM (sg (Wh U (Wh c0 (Wi rfl (ln (CI c rfl (λf8 c=>?_) (λf8 c=>?_)))))))
       ·refine kn (bg (Wh b9 (Wh c2 (Wh c2 (Wh T (Wi rfl (Wh U (Wh c1 (bS c λj7 g4 c=>?_)))))))))
        refine VE (eM d (Cr Qz Cn) call270 (λA p=>((uz kY) a Y H I (wi0 .i64 (I+j)) B t f2 _ _ A d1 (c4.mono ((((y.trans c9).trans z).trans K).trans p)) g4)) ?_)
        rintro _ l7 k0 l2 d e9 aa n ⟨h4,a6,rfl,h1⟩
        obtain rfl:=a6.symm
        replace d:=d.perm (Tr Tn)
        refine lr (Wh U (Wa (ln (kK (Wh U (Wh T (Wi rfl (Wi rfl (Wa (lu ?_))))))))))
        exact lG (kL ⟨j6,aQ _,j7,h4,B,(wi0 .i64 (B+(wi0 .i64 (2*j)))),k0,_,(K.trans e9),(d.kA St),b9,c0,c1,T,rfl,rfl,h1,c⟩)
       refine mX (mD (mD (pE (kL ?_))))
       obtain rfl:=sj c
       exact ⟨H,a3,_,K,(d.kA St),b9,c0,c1,T,c2,d1⟩
     rintro ⟨j3,e6⟩ E W ⟨G,J,d9,a7,d,b5,Q,b6,b7,e3,d0⟩ g0
     refine kM (CJ g0 (λe5 E W=>∃N a2 e0,lx J a2∧ST false (keys (u++[])) w W a2 (N++e0)∧E 0=a∧E 1=(.int .i64 M)∧E 2=t∧E 6=(.int .i64 j)∧lh 193 kH 11 a e5 N) (λe5 k=>?_) ?_)
     ·refine sg (Wh e3 (Wh b7 (Wi rfl (Wa (lr (Wm (Wh Q (Wi rfl (ln ?_)))))))))
      refine CI k rfl (λf7 k=>?_) (λf7 k=>?_)
      ·refine kK (Wh b5 (Wh e3 (Wm (Wh Q (Wh b6 (bS k λl5 g3 k=>?_))))))
       refine VE (eM d (Cr Qz Cn) call270 (λA p=>((uz kY) a j3 G e6 (wi0 .i64 (e6+j)) M t f2 _ _ A d0 (c4.mono ((((y.trans c9).trans z).trans a7).trans p)) g3)) ?_)
       rintro _ l6 j9 l1 d e8 a1 n ⟨h3,a5,rfl,g9⟩
       obtain rfl:=a5.symm
       replace d:=d.perm (Tr Tn)
       refine ln ?_
       obtain rfl:=sj k
       exact ⟨h3,j9,_,e8,(d.kA St),b5,Q,b6,b7,g9⟩
      refine kn ?_
      obtain rfl:=sj k
      exact ⟨G,J,_,(lx.refl _),(d.kA St),b5,Q,b6,b7,d0⟩
     rintro j4 E W ⟨N,a2,e0,e7,d,h7,h8,h9,i0,g7⟩ g1
     exact kK (Wh i0 (Wi rfl (Wa (lu (lG (kL ⟨j5,aQ _,j4,N,(wi0 .i64 (j*2)),a2,_,((z.trans a7).trans e7),(d.kA St),h7,h8,h9,rfl,g7,g1⟩))))))
    refine mX (mD (mD (pE (kL ?_))))
    obtain rfl:=sj i
    exact ⟨a4,D,_,z,(d.kA St),e4⟩
  rintro m4 E W ⟨a9,d7,f1,l0,d,i8⟩ i4
  refine pc ?_
  obtain rfl:=sj i4
  exact nY rfl ⟨_,_,rfl,(d.nK (Kr Sn)),a9,rfl,rfl,i8⟩
theorem xn (c:Value) (k:List kq) (a:LO) (i:Value) (t:(kq×kq)→Option Int) (r:List kq) (w:World) {H:lE} (J:pn H (a++[]) w) (j:lh 193 kH 11 c k a) (u:sI pg0 i H (λ(x:(kq×kq))=>[(.agg (kH x.1).toArray),(.agg (kH x.2).toArray)]) (λ(r:Int)=>(.int .i64 r)) t) (hm:oN k t=some r) :
  mi false pg0 149 [c,i] w (a++[]) (λv I W'=>∃z,v=(.tuple #[])∧I=(z++[])∧lh 193 kH 11 c r z):=by
 refine xq J 9 func149 rfl (λd=>kK (Wm (Wm (V (tI cE rfl j) (Wm (bS hm λQ G hm=>?_))))))
 refine VE (eM d (Cr Qz Cn) call210 (λA p=>(Dl c k a (k.length:Int) i t _ _ A j (u.mono p) G)) ?_)
 rintro _ T U M d K E n ⟨B,g,rfl,y⟩
 obtain rfl:=g.symm
 replace d:=d.perm (Tr Tn)
 refine lu (pc ?_)
 obtain rfl:=sj hm
 exact nY rfl ⟨_,_,rfl,(d.nK (Kr Sn)),B,rfl,rfl,y⟩
theorem GP (c g:kq) (i:Nat) (a:Value) (j:(kv×kv)→Option Int) (r:Int) (w:World) (t:sI pg0 a (hp w) (λ(x:(kv×kv))=>[(.agg (kF x.1).toArray),(.agg (kF x.2).toArray)]) (λ(r:Int)=>(.int .i64 r)) j) (k:At (hp w) (.pointer (some ⟨i,0,none⟩)) [a]) (hm:vq c g j=some r) :
  lC false pg0 150 [(.agg (kH c).toArray),(.agg (kH g).toArray),(.pointer (some ⟨i,0,none⟩))] w (.int .i64 r):=by
 refine cG 12 func150 rfl (λd=>sg (VE (lM d rfl (λz G d=>VE (lM d rfl (λB H d=>Wa (lr (V (kB rfl (sJ d.has (y:=a) k isAgg138)) (Wf R5 (VA d (Mt Mh) (kF c.key) cU bE (Wf R5 (VA d Mh (kF g.key) cU bE ?_))))))))))))
 refine bS hm λI u hm=>VE (DL (c.key,g.key) d t (lx.refl _) rfl (qT rfl rfl) u (λD d=>Wa (ln ?_)))
 exact lJ (rQ hm d)
theorem WN:mE pg0 93 0 0:=me underlying93 rfl sizeOf91 (by decide) rfl
theorem Tq:mE pg0 93 1 1:=me underlying93 rfl jl (by decide) rfl
theorem SP:Tryz.prog.info? 5=some Tryz.t5∧Tryz.t5.zero=some (.int .u8 0)∧Tryz.t5.size=1∧Tryz.t5.bytes=1:=⟨by kernel_rfl,rfl,rfl,rfl⟩
theorem P3:Tryz.prog.info? 93=some Tryz.t93∧Tryz.t93.size≠0:=⟨by kernel_rfl,by decide⟩
theorem aar:liesAt pg0 Tryz.prog.depth 93 (2 / Tryz.prog.cellsOf 93) 0 93 1=true:=by kernel_rfl
theorem ZI (x:Value) (w:World):(callFunc 189 [x].toArray).run pg0 w= .ok (.value x) w:=by
 rw [gI (e:=Extern.AbiNoEscape.same) func189 (by kernel_rfl) (by kernel_rfl) (by kernel_rfl) (by kernel_rfl)]
 rfl
theorem Tv (b:Nat) (a u:Value) (w:World) {i:lE} (g:pn i ((b,Ob #[a,u] 93)::[]) w) (ha:a= .pointer none∨a= .pointer (some ⟨b,0,none⟩)) :
  mi true pg0 121 [(.pointer (some ⟨b,0,none⟩))] w ((b,Ob #[a,u] 93)::[]) (λv c W'=>v=(.tuple #[])∧c=((b,Ob #[(.pointer (some ⟨b,0,none⟩)),u] 93)::[])):=by
 let k:Value:=(.pointer (some ⟨b,0,none⟩))
 refine xq g 20 func121 rfl (λd=>sg (Wm (Wn (Wf WN (VB d Mh rfl rfl isAgg91 ?_)))))
 rcases ha with rfl | rfl
 ·refine V (xX ja rfl rfl) (ln (yR rfl (kK (Wm (Wm ?_)))))
  have hb:=(d.box b _ (.head _)).1
  exact V (Vb rfl (Go.Lib.run_to_unsafe (P:=pg0) _ ⟨b,0,none⟩ ja underlying233 P3.1 P3.2 (Kw hb) nb)) (VE (OD (args:=[k]) rfl (by exact pR rfl) (ZI _ _) (V (Vb rfl (Go.Lib.run_from_unsafe (P:=pg0) _ ⟨b,0,none⟩ underlying233 ja P3.1 (Kw hb) aar)) (Wn (Wf WN (VO (lA k (#[k,u]) d rfl rfl sizeOf91 oc nb rfl (λj d=>lu (pc (nY rfl ⟨_,_,rfl,(d.nK (Kb Sn)),rfl,rfl⟩))))))))))
 ·refine V (xX ja rfl rfl) (ln (sX rfl (sg (Wm (Wn (Wf WN (VB d Mh rfl rfl isAgg91 (Wm (V (QJ ja sizeOf93 rfl rfl) (ln (sX rfl ?_)))))))))))
  exact nf (pc (nY rfl ⟨_,_,rfl,(d.nK (Kb Sn)),rfl,rfl⟩))
theorem L4 (k:Value) (D:ByteArray) (i:LO) (z r:ByteArray) (w:World) {K:lE} (I:pn K (i++[]) w) (B:MY 93 5 k D i) (hm:FX D z=some r) :
  mi true pg0 49 [k,(.string z)] w (i++[]) (λv H W'=>∃y S,v=y∧H=S++[]∧MY 93 5 k r S):=by
 obtain ⟨b,a,u,S,rfl,ha,rfl,L,W⟩:=B
 have d:=ST.MC (dd:=true) I
 have E:=λh=>Wc (r:=r) hm h
 have hm:=Vx hm
 refine cF 19 func49 rfl (sg (Wa (Wa (lr (Wm ?_)))))
 refine VE (eM d (Cb Pz Cn) call121 (λP _=>(Tv b a u _ P ha)) ?_)
 rintro _ Y Z M d J R A ⟨j,rfl⟩
 obtain rfl:=j.symm
 replace d:=d.perm (Tb Tn)
 refine lr (Wm (Wm (Wn (Wf Tq (VB d Mh rfl rfl gC (Wm (VE (QS (v:=u) (str:=z) [(b,Ob #[(.pointer (some ⟨b,0,none⟩)),u] 93)] d dz cO SP.1 SP.2.1 SP.2.2.1 SP.2.2.2 rfl rfl L hm (λN T t d x n=>Wn (Wf Tq ?_))))))))))
 have p:=λh:r.size=0=>n (W (E h).1) (E h).2
 obtain ⟨c,g,rfl⟩:=x.form
 let U:Value:=(.slice c (nq r).length g)
 let G:=(#[(.pointer (some ⟨b,0,none⟩)),U]:Array Value)
 let a0:=((b,Obj.cells G 93 (0,0))::(t++[]))
 refine VO (lA U (#[(.pointer (some ⟨b,0,none⟩)),U]) d rfl rfl jl oc nb rfl (λQ d=>lr (Wm (V (rU cO rfl) (Wa (Wa (lt (IG (v:=.int .i64 (z.size:Int)) (u:=.nilIface) rfl rfl rfl ?_))))))))
 have O:pC a0 a0:=Kb (Kr Sn)
 exact ⟨_,_,rfl,d.nK O,_,((b,Obj.cells G 93 (0,0))::t),rfl,rfl,⟨b,_,_,_,rfl,.inr rfl,rfl,x,p⟩⟩
theorem Ka (k:Value) (i:ByteArray) (g:LO) (r:ByteArray) (w:World) {D:lE} (t:pn D (g++[]) w) (x:MY 93 5 k i g) (hm:VL i=some r) :
  mi true pg0 51 [k] w (g++[]) (λv z W'=>v=(.string r)∧z=[]):=by
 obtain ⟨b,a,u,S,rfl,ha,rfl,E,J⟩:=x
 obtain rfl:=fZ hm
 have n:=ST.MC (dd:=true) t
 obtain ⟨A,c,rfl⟩:=E.form
 refine cF 14 func51 rfl (sg (Wa (ln (kM ?_))))
 replace n:=n.drew
 have d:=n.has.kA (A:=[(b,Ob #[a,.slice A (nq i).length c] 93)]) (Kb Sn)
 have p:A=none∨c≠0:=by
  by_cases t:i.size=0
  ·have J:=J t
   injection J with j
   exact .inl j
  ·rcases E with ⟨j,_,_⟩ | ⟨M,cap,L,j,_,B,_,_,_⟩
   ·injection j with y; exact .inl y
   ·injection j with _ _ y
    rw [ot] at B
    exact .inr (by omega)
 refine lU d li (X 0 rfl d (kD rfl) (X 1 rfl d (oV rfl) (X 2 rfl d (kN Tq rfl) (XH 3 rfl d (λ_ I=>kB rfl (lg I Mh rfl gC)) (X 4 rfl d (Wu rfl ⟨A,_,c,rfl,p,rfl⟩) (X 5 rfl d (kD rfl) (X 6 rfl d (oV rfl) (X 7 rfl d (kN Tq rfl) (XH 8 rfl d (λ_ I=>kB rfl (lg I Mh rfl gC)) (X 9 rfl d (tI dz rfl E) ?_))))))))))
 replace n:=n.perm (L':=S++[(b,Ob #[a,.slice A (nq i).length c] 93)]) (by rw [aT]; exact eL (l₁:=[_]) (l₂:=S))
 refine XE 10 rfl (QI (l:=i) n underlying179 kr rfl rfl E (λG n=>?_))
 have d:=n.has
 exact ⟨d,X 11 rfl d (oe rfl) (lX kr (kL (lJ (nC (v:=.string i) rfl rfl ⟨_,_,rfl,(n.nK Sn),rfl,rfl⟩))))⟩
theorem Ip (t:Value) (a0:List kq) (j:LO) (U:Value) (Y:(kv×kv)→Option Int) (r:(ByteArray×(List kq))) (w:World) {μ0:lE} (h0:pn μ0 (j++[]) w) (c1:lh 193 kH 11 t a0 j) (Q:sI pg0 U μ0 (λ(x:(kv×kv))=>[(.agg (kF x.1).toArray),(.agg (kF x.2).toArray)]) (λ(r:Int)=>(.int .i64 r)) Y) (hm:xf a0 Y=some r) :
  mi false pg0 80 [t,U] w (j++[]) (λv L1 W'=>∃S1,v=(.string (r.1))∧L1=(S1++[])∧lh 193 kH 11 t r.2 S1):=by
 refine xq h0 27 func80 rfl (λd=>sg ?_)
 obtain ⟨ab,ad,ae,rfl⟩:=Q.form
 refine VE (lM d rfl (λW5 b4 d=>Wa (lr (Wm (V (qR (by exact pR rfl) rfl) (bS hm λR d0 hm=>?_))))))
 refine VE (Df d (Cr (Qb Qz) Cn) call149 (λhH O L A=>(xn t a0 j (.func (.func 150) #[] #[(.pointer (some ⟨b4,0,none⟩))]) (λ(x:(kq×kq))=>vq x.1 x.2 Y) _ _ ⟨hH,O,lx.refl _⟩ c1 ⟨150,#[],#[(.pointer (some ⟨b4,0,none⟩))],rfl,call150,λW x r hs hm=>GP x.1 x.2 b4 (.func ab ad ae) Y r W (Q.mono (L.trans hs)) (At.of (hs _ _ (A _ _ Mh)) _ rfl) hm⟩ d0)) (λW8 f4 P f2 d d3 ah n b9=>?_))
 obtain ⟨b3,K,rfl,k⟩:=b9
 replace K:=K.symm; subst K
 replace d:=d.perm (Tr Tn)
 refine ln ?_
 replace d:=d.kA (Kr (Db St))
 refine sg (VE (Lj (e:=5) d zeroValue93 (λf3 N c7 d c0=>lS (Wm (V (tI cE rfl k) (Wm (ln (mV (λi E W=>∃g c G I,(E 13= .int .i64 (i:Nat)∧E 12= .int .i64 (R.length:Nat))∧lx P G∧ST false (keys (j++[])) w W G (c++(b3++I))∧E 5=N∧E 11=t∧MY 93 5 N g c∧ru R (R.drop i) g=some r) R.length k.len ⟨zS,c7,P,_,⟨rfl,rfl⟩,(lx.refl _),(d.kA St),rfl,rfl,c0,hm⟩ dc dc dc (λ_ _ _ h=>by obtain ⟨_,_,_,_,aa,_⟩:=h; exact aa) ?_ ?_))))))))
 ·rintro c2 E W a2 ⟨g,c,G,I,⟨eI,eN⟩,H,d,u,J,y,a⟩
  obtain ⟨D,d4,a9,M,b0⟩:=mC a2
  rw [a9] at a
  refine bg (VQ (lI (i:=(c2:Int)) (x0:=D) cE cA J eI k (aX _) M) (λe4 a3=>V (kB rfl (na d.has (λp hq=>(Ma (Ml hq))) k lW a3 M fa cA)) (VE (ml d gB (λd8 e2 d=>VO (lA (.agg (kH D).toArray) ((kH D).toArray) d rfl rfl cA (oQ D) nb rfl (λd9 d=>ln (kK (Wf Yo (VB d Mh rfl rfl cN (bS a λe5 a6 a=>V (pP rfl rfl a6) (Wf X4 ?_))))))))))))
  refine VB d Mh rfl rfl cN (bS a λe6 a7 a=>V (pP rfl rfl a7) (bS a λc5 a8 a=>V (pP rfl rfl a8) (bS a λc3 a4 a=>?_)))
  refine VE (Df d (Cr (Qb Qz) Cn) call49 (λhH O L A=>mi.nx (L4 N g c c5 _ _ ⟨hH,O,lx.refl _⟩ y a4)) (λe0 e7 c6 d6 d T af n Z=>?_) (ha:=Zr u rfl))
  obtain ⟨e9,b5,z,rfl,b1⟩:=Z
  replace z:=z.symm; subst z
  replace d:=d.perm (Tr Tn)
  refine lu (lG (kL ?_))
  replace d:=d.kA (Kr (Db St))
  exact ⟨eI,c3,b5,c6,_,⟨rfl,eN⟩,(H.trans T),(d.kA St),u,J,b1,(by rw [b0]; exact a)⟩
 rintro E W ⟨g,c,G,I,⟨eI,eN⟩,H,d,u,J,y,a⟩
 rw [bo] at a
 refine kL (sg (bS a λc4 a5 a=>?_))
 refine VE (Df d (Cr Qz Cn) call51 (λhH O L A=>mi.nx (Ka N g c _ _ ⟨hH,O,lx.refl _⟩ y a5)) (λe1 e8 f0 d7 d c9 ag n a1=>?_) (ha:=XD u))
 obtain ⟨B,rfl⟩:=a1
 replace B:=B.symm; subst B
 replace d:=d.perm Tn
 refine Wa (lt ?_)
 obtain rfl:=sj a
 exact nC (v:=(.string c4)) rfl rfl ⟨_,_,rfl,(d.nK (Kr Sn)),b3,rfl,rfl,k⟩
theorem uK (t:Nat) (j:Value) (G:List Int) (i:LO) (n:Int) (r:(Bool×(List Int))) (w:World) {μ0:lE} (P:pn μ0 ((t,Ob #[j] 215)::(i++[])) w) (y:lh 5 (mh .u8) 1 j G i) (hm:qv G n=some r) :
  mi true pg0 170 [(.pointer (some ⟨t,0,none⟩)),(.int .i64 n)] w ((t,Ob #[j] 215)::(i++[])) (λv L1 W'=>∃p S2,v=(.bool (r.1))∧L1=((t,Ob #[p] 215)::(S2++[]))∧lh 5 (mh .u8) 1 p r.2 S2):=by
 refine xq P 38 func170 rfl (λd=>sg (Wa (lS (Wm (V (xX gM rfl rfl) (Wm (Vg rfl rfl (kD rfl) (Vg rfl rfl (lY rfl rfl rfl) (V (lN rfl rfl) ?_)))))))))
 refine ln (CI hm rfl (λa9 hm=>?_) (λa9 hm=>?_))
 ·refine sg (Wa (lt (mL ?_)))
  obtain rfl:=sj hm
  exact nC (v:=(.bool false)) rfl rfl ⟨_,_,rfl,(d.nK (Kb (Kr Sn))),j,i,rfl,rfl,y⟩
 refine kn (kM (ma (nn (λm E W=>∃c z U u a0,ST true (keys ((t,Ob #[j] 215)::(i++[]))) w W μ0 ((t,Ob #[z] 215)::(u++a0))∧E 0=(.pointer (some ⟨t,0,none⟩))∧E 1=(.int .i64 c)∧lh 5 (mh .u8) 1 z U u∧tg m c U=some r) kY ⟨n,j,G,i,_,(d.kA St),rfl,rfl,y,hm⟩ ?_)))
 rintro m E W ⟨c,z,U,u,a0,d,x,K,T,g⟩
 cases m with
 | zero=>rw [tg] at g; cases g
 | succ O=>
  refine kM (sg (Wh K (Wi rfl (ln (CI g rfl (λA g=>?_) (λA g=>?_))))))
  ·refine kn (kM (ma (kK (Wh x (Wh x (Wn (Wf Dy (VB d Mh rfl rfl gC (Wh K (V (oG (k':=.i64) (a:=c) dn iL rfl) (V (Xm (k:=.u8) (a:=(IntKind.u8.wrap c)) (b:=128) (v:=(.int .u8 (IntKind.u8.wrap (BitVec.ofInt (IntKind.bits .u8) (IntKind.u8.wrap c) ||| BitVec.ofInt (IntKind.bits .u8) 128).toNat))) rfl rfl dc rfl) (VE (lZ (cs:=[(.int .u8 (IntKind.u8.wrap (BitVec.ofInt (IntKind.bits .u8) (IntKind.u8.wrap c) ||| BitVec.ofInt (IntKind.bits .u8) 128).toNat))].toArray) d (og rfl) (oE dz sizeOf5 zeroValue5) (λc3 L d=>?_))))))))))))))
   replace d:=d.perm (Nr (Qb (Qb Qz)) Nz)
   refine bS g λQ Y g=>VE (qF (enc:=(mh .u8)) (v:=z) (vs:=(.slice (some ⟨L,0,none⟩) 1 1)) (R:=u) d (λ_=>rfl) dc (Ld _) dz vN.1 vN.2.1 rfl vN.2.2.1 vN.2.2.2 rfl rfl T (Sl.lit (enc:=(mh .u8)) (l:=[(IntKind.u8.wrap (BitVec.ofInt (IntKind.bits .u8) (IntKind.u8.wrap c) ||| BitVec.ofInt (IntKind.bits .u8) 128).toNat)]) (λ_=>rfl) rfl nb rfl (d.at_ (Ma Mh))) Y (λb4 c1 a2 d M=>Wn (Wf Dy ?_)))
   obtain ⟨B,H,rfl⟩:=M.form
   replace d:=d.perm (Nb (Pr (Pb Pz)) Nz)
   refine VO (lA (.slice B Q.length H) (#[(.slice B Q.length H)]) d rfl rfl jl oc nb rfl (λb5 d=>lu (lG (kL ?_))))
   replace d:=d.kA (Kb (Kr (Db St)))
   exact kK (Wh K (V (A4 (a:=c) (b:=7) rfl rfl dc) (Wa (ln ⟨O,aQ _,(Int.fdiv c (2 ^ min (Int.toNat 7) (IntKind.bits .i64))),(.slice B Q.length H),Q,a2,_,(d.kA St),x,rfl,M,g⟩))))
  refine mX (mD (mD (pE (kL (sg (Wh x (Wh x (Wn (Wf Dy (VB d Mh rfl rfl gC (Wh K (V (oG (k':=.i64) (a:=c) dn iL rfl) (VE (lZ (cs:=[(.int .u8 (IntKind.u8.wrap c))].toArray) d (og rfl) (oE dz sizeOf5 zeroValue5) (λb6 a5 d=>?_)))))))))))))))
  replace d:=d.perm (Nr (Qb (Qb Qz)) Nz)
  refine bS g λJ Z g=>VE (qF (enc:=(mh .u8)) (v:=z) (vs:=(.slice (some ⟨a5,0,none⟩) 1 1)) (R:=u) d (λ_=>rfl) dc (Ld _) dz vN.1 vN.2.1 rfl vN.2.2.1 vN.2.2.2 rfl rfl T (Sl.lit (enc:=(mh .u8)) (l:=[(IntKind.u8.wrap c)]) (λ_=>rfl) rfl nb rfl (d.at_ (Ma Mh))) Z (λb7 c2 a3 d N=>Wn (Wf Dy ?_)))
  obtain ⟨D,I,rfl⟩:=N.form
  replace d:=d.perm (Nb (Pr (Pb Pz)) Nz)
  refine VO (lA (.slice D J.length I) (#[(.slice D J.length I)]) d rfl rfl jl oc nb rfl (λb9 d=>ln ?_))
  replace d:=d.kA (Kb (Kr (Db St)))
  refine sg (Wa (lt ?_))
  obtain rfl:=sj g
  exact nC (v:=(.bool true)) rfl rfl ⟨_,_,rfl,(d.nK (Kb (Kr Sn))),(.slice D J.length I),a3,rfl,rfl,N⟩
theorem JV (g:Nat) (c:Value) (j:List Int) (a:LO) (u:Value) (D:List Int) (r:(Bool×(List Int))) (w:World) {Z:lE} (p:pn Z ((g,Ob #[c] 215)::(a++[])) w) (i:lh 5 (mh .u8) 1 c j a) (k:Sl (Pl (mh .u8)) 1 Z u D) (hm:Bl j D=some r) :
  mi true pg0 171 [(.pointer (some ⟨g,0,none⟩)),u] w ((g,Ob #[c] 215)::(a++[])) (λv L1 W'=>∃U M,v=(.bool (r.1))∧L1=((g,Ob #[U] 215)::(M++[]))∧lh 5 (mh .u8) 1 U r.2 M):=by
 refine xq p 25 func171 rfl (λd=>sg (Wa (lS (Wm (V (xX gM rfl rfl) (Wm (Vg rfl rfl (kD rfl) (Vg rfl rfl (nv dz rfl k) (Vg rfl rfl (lY rfl rfl rfl) ?_)))))))))
 refine V (lN rfl rfl) (ln (CI hm rfl (λQ hm=>?_) (λQ hm=>?_)))
 ·refine sg (Wa (lt (mL ?_)))
  obtain rfl:=sj hm
  exact nC (v:=(.bool false)) rfl rfl ⟨_,_,rfl,(d.nK (Kb (Kr Sn))),c,a,rfl,rfl,i⟩
 refine kg (Wm (Wm (V (nv dz rfl k) (bS hm λP T hm=>?_))))
 refine VE (eM d (Cb Pz (Cr Qz Cn)) call170 (λA _=>(uK g c j a (D.length:Int) _ _ A i T)) ?_)
 rintro _ v8 L a3 d H E n ⟨Y,K,t,rfl,I⟩
 obtain rfl:=t.symm
 replace d:=d.perm (Tb (Tr Tn))
 refine lr (Wm (Wm (Wn (Wf Dy (VB d Mh rfl rfl gC (Wm ?_))))))
 replace d:=d.perm (Nr (Qb Qz) Nz)
 refine bS hm λB G hm=>VE (qF (enc:=(mh .u8)) (v:=Y) (vs:=u) (R:=K) d (λ_=>rfl) dc (Ld _) dz vN.1 vN.2.1 rfl vN.2.2.1 vN.2.2.2 rfl rfl I (k.mono (Pl.mono _) (H.trans d.kC)) G (λa4 O J d z=>Wn (Wf Dy ?_)))
 obtain ⟨x,y,rfl⟩:=z.form
 replace d:=d.perm (Nb (Pr Pz) Nz)
 refine VO (lA (.slice x B.length y) (#[(.slice x B.length y)]) d rfl rfl jl oc nb rfl (λa5 d=>lr (Wa (lt ?_))))
 obtain rfl:=sj hm
 exact nC (v:=(.bool true)) rfl rfl ⟨_,_,rfl,(d.nK (Kb (Kr Sn))),(.slice x B.length y),J,rfl,rfl,z⟩
theorem CF (j:Nat) (c:Value) (t:List Int) (a:LO) (J:ByteArray) (r:(Bool×(List Int))) (w:World) {Z:lE} (h0:pn Z ((j,Ob #[c] 215)::(a++[])) w) (k:lh 5 (mh .u8) 1 c t a) (hm:xa t J=some r) :
  mi true pg0 213 [(.pointer (some ⟨j,0,none⟩)),(.string J)] w ((j,Ob #[c] 215)::(a++[])) (λv L1 W'=>∃O S2,v=(.bool (r.1))∧L1=((j,Ob #[O] 215)::(S2++[]))∧lh 5 (mh .u8) 1 O r.2 S2):=by
 refine xq h0 17 func213 rfl (λd=>sg (Wa (lr (Wm (V (HU gM rfl rfl) (Wm (Vg rfl rfl (kD rfl) (bS hm λr1 a4 hm=>UZ rfl rfl (Eg d call93 (yo J _ _  a4) (λW3 d=>V (lK rfl rfl) ?_))))))))))
 refine Wm (LJ hm (λB E W=>∃z x D I,lx Z D∧ST true (keys ((j,Ob #[c] 215)::(a++[]))) w W D ((j,Ob #[z] 215)::(x++I))∧E 4=(.bool false)∧E 16=(.bool B.1)∧lh 5 (mh .u8) 1 z B.2 x) 5 ?_ (λB g y=>?_))
 ·rintro ⟨R,c0⟩ E W ⟨z,x,D,I,b1,d,b9,a3,T⟩ M
  refine Wg a3 (lt ?_)
  obtain rfl:=sj M
  exact nC (v:=(.bool R)) rfl rfl ⟨_,_,rfl,(d.nK (Kb (Kr Sn))),z,x,rfl,rfl,T⟩
 refine bC g (λi g=>?_) (λi g=>?_)
 ·refine ug i (kD rfl) (ug i (kD rfl) (bS g λa5 N g=>ue i (N3 d cO dz iL rfl N (λb6 P c3 d G A U b4=>bS g λc1 Q g=>?_))))
  refine ue i (eM d (Cb Pz (Cr Qz Cn)) call171 (λhh p=>(JV j c t a P a5 _ _ hh k (U.mono (Pl.mono _) p) Q)) ?_)
  rintro _ c2 b0 b5 d H L n ⟨a9,a2,u,rfl,Y⟩
  obtain rfl:=u.symm
  replace d:=d.perm (Tb (Tr Tn))
  refine V (lK (cB i) rfl) ?_
  obtain rfl:=sj g
  exact y _ _ ⟨a9,a2,b0,_,(G.trans H),(d.kA St),rfl,rfl,Y⟩
 refine un i (un i (un i (un i (V (lN (cB i) rfl) ?_))))
 obtain rfl:=sj g
 exact y _ _ ⟨c,a,Z,_,(lx.refl _),(d.kA St),rfl,rfl,k⟩
theorem yO (c:Nat) (i:Value) (D:List Int) (a:LO) (x:ku) (r:(Bool×(List Int))) (w:World) {μ0:lE} (h0:pn μ0 ((c,Ob #[i] 215)::(a++[])) w) (y:lh 5 (mh .u8) 1 i D a) (hm:th D x=some r) :
  mi true pg0 212 [(.pointer (some ⟨c,0,none⟩)),(.agg (kJ x).toArray)] w ((c,Ob #[i] 215)::(a++[])) (λv L1 W'=>∃R S2,v=(.bool (r.1))∧L1=((c,Ob #[R] 215)::(S2++[]))∧lh 5 (mh .u8) 1 R r.2 S2):=by
 let A:=((c,Ob #[i] 215)::(a++[]))
 refine xq h0 23 func212 rfl (λd=>sg (VE (lM d rfl (λW2 L d=>Wa (lr (Wm (V (HU gM rfl rfl) (Wm (Vg rfl rfl (kB rfl (kI d.has Mh (kJ x) rfl bZ bF)) (bS hm λr3 c4 hm=>UZ rfl rfl (Eg d jS (vH x _ _  c4) (λW5 d=>?_))))))))))))
 refine V (lK rfl rfl) (Wm (LJ hm (λT E W=>∃z u B a0,lx μ0 B∧ST true (keys A) w W B ((L,Ol (kJ x) 27)::((c,Ob #[z] 215)::(u++a0)))∧E 0=(.pointer (some ⟨c,0,none⟩))∧E 3=(.pointer (some ⟨L,0,none⟩))∧E 4=(.bool false)∧E 16=(.bool T.1)∧lh 5 (mh .u8) 1 z T.2 u) 5 ?_ (λT t K=>?_)))
 ·rintro ⟨e6,c5⟩ E W ⟨z,u,B,a0,d2,d,c0,c1,a3,c2,N⟩ a6
  refine Wh c2 (LJ a6 (λQ E W=>∃M I U a2,lx B U∧ST true (keys A) w W U ((c,Ob #[M] 215)::(I++a2))∧E 4=(.bool false)∧E 22=(.bool Q.1)∧lh 5 (mh .u8) 1 M Q.2 I) 5 ?_ (λQ k J=>?_))
  ·rintro ⟨c6,e1⟩ E W ⟨M,I,U,a2,d3,d,e0,c3,b0⟩ a7
   refine Wg c3 (lt ?_)
   obtain rfl:=sj a7
   exact nC (v:=(.bool c6)) rfl rfl ⟨_,_,rfl,(d.nK (Kb (Kr Sn))),M,I,rfl,rfl,b0⟩
  refine bC k (λg k=>?_) (λg k=>?_)
  ·refine ug g (kD c0) (ug g (kN Ae c1) (ug g (kB rfl (lg d.has Mh rfl cN)) (bS k λe2 a8 k=>?_)))
   refine ue g (eM d (Cb (Pb Pz) (Cr (Qb Qz) Cn)) call213 (λp _=>(CF c z c5 u x.Word _ _ p N a8)) ?_)
   rintro _ e4 d0 d6 d Y O n ⟨c8,b6,G,rfl,b2⟩
   obtain rfl:=G.symm
   replace d:=d.perm (Tb (Tr Tn))
   refine V (lK (cB g) rfl) ?_
   obtain rfl:=sj k
   exact J _ _ ⟨c8,b6,d0,_,Y,(d.kA (Kb (Kr (Db St)))),a3,rfl,b2⟩
  refine un g (un g (un g (un g (V (lN (cB g) rfl) ?_))))
  obtain rfl:=sj k
  exact J _ _ ⟨z,u,B,_,(lx.refl _),(d.kA (Db St)),a3,rfl,N⟩
 refine bC t (λj t=>?_) (λj t=>?_)
 ·refine ug j (kD rfl) (ug j (kN yB rfl) (ug j (kB rfl (lg d.has Mh rfl cN)) (bS t λe3 a9 t=>?_)))
  refine ue j (eM d (Cb (Pb Pz) (Cr (Qb Qz) Cn)) call213 (λp _=>(CF c i D a x.kw _ _ p y a9)) ?_)
  rintro _ e5 d1 d7 d Z P n ⟨c9,b7,H,rfl,b3⟩
  obtain rfl:=H.symm
  replace d:=d.perm (Tb (Tr Tn))
  refine V (lK (cB j) rfl) ?_
  obtain rfl:=sj t
  exact K _ _ ⟨c9,b7,d1,_,Z,(d.kA (Sb (Pb (Pr Pz)) St)),rfl,rfl,rfl,rfl,b3⟩
 refine un j (un j (un j (un j (V (lN (cB j) rfl) ?_))))
 obtain rfl:=sj t
 exact K _ _ ⟨i,a,μ0,_,(lx.refl _),(d.kA St),rfl,rfl,rfl,rfl,y⟩
theorem Oi (g:Value) (i r:List Int) (w:World) (a:Sl (Pl (mh .u8)) 1 (hp w) g i) (hm:xF i=some r) :
  pH true pg0 234 [g] w 5 (mh .u8) 1 r:=by
 unfold xF at hm
 refine Dg 8 func234 rfl (λd=>sg (Wa (lS (Wm ?_))))
 obtain ⟨y,B,rfl⟩:=a.form
 refine V (F5 dz rfl rfl) (ln ?_)
 rcases y with _ | z
 ·have u:=a.isNil
  replace hm:some []=some r:=by rw [u] at hm; simpa [nm,maxLen] using hm
  refine yR (rfl) (sg (Wa (lt (mL ?_))))
  obtain rfl:=sj hm
  exact nC (v:=(.slice none 0 0)) rfl rfl ⟨_,[],rfl,d.uA (λp n=>by cases n) (by simp),lh.nil _ _ _⟩
 ·refine sX (rfl) (kg (VE (lZ (cs:=#[]) d xV (Fb [] dz sizeOf5 zeroValue5 dc rfl (by simp) rfl rfl) (λG k d=>Wm (bS hm λH t hm=>VE (qF (enc:=(mh .u8)) (v:=(.slice (some ⟨k,0,none⟩) 0 0)) (vs:=(.slice (some z) i.length B)) (R:=[(k,Ob #[] 5)]) d (λ_=>rfl) dc (Ld _) dz vN.1 vN.2.1 rfl vN.2.2.1 vN.2.2.2 rfl rfl (lh.lit (l:=[]) (enc:=(mh .u8)) rfl dc rfl rfl) (a.mono (Pl.mono _) d.kC) t (λD x j d c=>Wa (lt ?_))))))))
  obtain rfl:=sj hm
  exact nC (v:=x) rfl rfl ⟨_,j,rfl,d.uA (λp n=>(Ml n)) c.nd,c⟩
theorem Fx (g:Nat) (a:Value) (c r:List Int) (w:World) (j:Sl (Pl (mh .u8)) 1 (hp w) a c) (k:At (hp w) (.pointer (some ⟨g,0,none⟩)) [a]) (hm:wZ c=some r) :
  pH true pg0 173 [(.pointer (some ⟨g,0,none⟩))] w 5 (mh .u8) 1 r:=by
 refine Dg 10 func173 rfl (λd=>sg (Wa (lS (Wm (V (xX gM rfl rfl) (ln (sX rfl (nf ?_))))))))
 refine kL (sg (Wm (Wn (VQ (Em [a] Dy rfl k rfl) (λG u=>V (kB rfl (sJ d.has (y:=a) u gC)) (bS hm λH x hm=>VE (Ct d call234 (Oi a c _ _ (j.mono (Pl.mono _) d.kC) x) (λD z I t d B n i=>Wa (lt ?_)))))))))
 obtain rfl:=sj hm
 exact nC (v:=z) rfl rfl ⟨_,t,rfl,d.uA (λp A=>(Ml A)) i.nd,i⟩
theorem Jl (c:kv) (r:List Int) (w:World) (hm:An c=some r) :
  pH true pg0 152 [(.agg (kF c).toArray)] w 5 (mh .u8) 1 r:=by
 refine Dg 53 func152 rfl (λd=>sg (VE (lM d rfl (λW2 b1 d=>Wa (lS (VA d Mh (kF c) cU bE (bS hm λr3 g3 hm=>VE (Eg d call144 (Av c _ _  g3) (λW5 d=>V (oF rfl) (lu ?_))))))))))
 refine kL (CI hm rfl (λg0 hm=>?_) (λg0 hm=>?_))
 ·refine sg (Wa (ln ?_))
  replace d:=d.kA (Db St)
  refine lJ (mL ?_)
  obtain rfl:=sj hm
  exact nC (v:=(.slice none 0 0)) rfl rfl ⟨_,[],rfl,d.uA (λp L=>by cases L) (by simp),lh.nil _ _ _⟩
 refine kg (V (nP (v:=(.agg #[(.slice none 0 0)])) xV (nt zeroValue215 gL (Xk _ gL) kr)) (VE (lM d rfl (λW8 g d=>Wa (lr (Wm (Wf Bq (VB d (Mt Mh) rfl rfl dJ (bS hm λr9 e2 hm=>?_)))))))))
 refine VE (eM d (Cb Pz (C0 Cn)) call170 (λA _=>(uK g (.slice none 0 0) ([]) [] c.Kind _ _ A (lh.nil _ _ _) e2)) ?_)
 rintro _ k3 k5 j9 d g7 ab n ⟨g4,f9,I,rfl,e4⟩
 obtain rfl:=I.symm
 replace d:=d.perm (Tb (Tr Tn))
 refine lr (Wm (Wf xL (VA d (Mt (Ma Mh)) (kJ c.Head) bZ bF (bS hm λN e3 hm=>?_))))
 refine VE (eM d (Cb Pz (Cr Qz Cn)) call212 (λA _=>(yO g g4 r9.2 f9 c.Head _ _ A e4 e3)) ?_)
 rintro _ k4 d1 k0 d g8 ad n ⟨G,D,J,rfl,i⟩
 obtain rfl:=J.symm
 replace d:=d.perm (Tb (Tr Tn))
 refine ln (kM (CJ hm (λa3 E W=>∃B H K Q,lx d1 K∧ST true mN w W K ((g,Ob #[B] 215)::(H++Q))∧E 3=(.pointer (some ⟨g,0,none⟩))∧lh 5 (mh .u8) 1 B a3 H) (λa3 a=>?_) ?_))
 ·refine sg (Wf Bq (VB d (Mt (Ma Mh)) rfl rfl dJ (ln (bg (Wi rfl (Wa (ln (CI a rfl (λb0 a=>?_) (λb0 a=>?_)))))))))
  ·refine kK (Wm (Wf FA (VB d (Mt (Ma Mh)) rfl rfl cN (bS a λi3 b6 a=>?_))))
   refine VE (eM d (Cb Pz (Cr Qz Cn)) call213 (λA _=>(CF g G N.2 D c.lO _ _ A i b6)) ?_)
   rintro _ i8 f5 g9 d T P n ⟨e9,d3,k,rfl,c5⟩
   obtain rfl:=k.symm
   replace d:=d.perm (Tb (Tr Tn))
   refine lu (lG (kL ?_))
   obtain rfl:=sj a
   exact ⟨e9,d3,f5,_,T,(d.kA (Kb (Kr (Db St)))),rfl,c5⟩
  refine sg (Wi rfl (Wa (ln (CI a rfl (λb2 a=>?_) (λb2 a=>?_)))))
  ·refine kK (Wm (Wf rK (VA d (Mt (Ma Mh)) (kJ c.B) bZ bF (bS a λi4 b9 a=>?_))))
   refine VE (eM d (Cb Pz (Cr Qz Cn)) call212 (λA _=>(yO g G N.2 D c.B _ _ A i b9)) ?_)
   rintro _ i9 f6 h0 d U R n ⟨f0,d4,t,rfl,c6⟩
   obtain rfl:=t.symm
   replace d:=d.perm (Tb (Tr Tn))
   refine lu (lG (kL ?_))
   obtain rfl:=sj a
   exact ⟨f0,d4,f6,_,U,(d.kA (Kb (Kr (Db St)))),rfl,c6⟩
  refine sg (Wi rfl (Wa (ln (CI a rfl (λb3 a=>?_) (λb3 a=>?_)))))
  ·refine sg (Wm (Wf rK (VA d (Mt (Ma Mh)) (kJ c.B) bZ bF (bS a λe6 c0 a=>?_))))
   refine VE (eM d (Cb Pz (Cr Qz Cn)) call212 (λA _=>(yO g G N.2 D c.B _ _ A i c0)) ?_)
   rintro _ j0 j7 h1 d Y a6 n ⟨f1,d5,u,rfl,c7⟩
   obtain rfl:=u.symm
   replace d:=d.perm (Tb (Tr Tn))
   refine ln (kK (Wm (Wf CT (VB d (Mt (Ma Mh)) rfl rfl cN (bS a λi5 c1 a=>?_)))))
   refine VE (eM d (Cb Pz (Cr Qz Cn)) call213 (λA _=>(CF g f1 e6.2 d5 c.mg _ _ A c7 c1)) ?_)
   rintro _ j3 f7 h2 d Z a7 n ⟨f2,d6,x,rfl,c8⟩
   obtain rfl:=x.symm
   replace d:=d.perm (Tb (Tr Tn))
   refine lu (lG (kL ?_))
   obtain rfl:=sj a
   exact ⟨f2,d6,f7,_,(Y.trans Z),(d.kA (Kb (Kr (Db St)))),rfl,c8⟩
  refine sg (Wi rfl (Wa (ln (CI a rfl (λb4 a=>?_) (λb4 a=>?_)))))
  ·refine sg (Wm (Wf rK (VA d (Mt (Ma Mh)) (kJ c.B) bZ bF (bS a λe7 c2 a=>?_))))
   refine VE (eM d (Cb Pz (Cr Qz Cn)) call212 (λA _=>(yO g G N.2 D c.B _ _ A i c2)) ?_)
   rintro _ j4 j8 h3 d a1 a8 n ⟨f3,d7,y,rfl,c9⟩
   obtain rfl:=y.symm
   replace d:=d.perm (Tb (Tr Tn))
   refine ln (kK (Wm (Wf Bm (VA d (Mt (Ma Mh)) (kJ c.C) bZ bF (bS a λi6 c3 a=>?_)))))
   refine VE (eM d (Cb Pz (Cr Qz Cn)) call212 (λA _=>(yO g f3 e7.2 d7 c.C _ _ A c9 c3)) ?_)
   rintro _ j5 f8 h4 d a2 aa n ⟨f4,d8,z,rfl,d0⟩
   obtain rfl:=z.symm
   replace d:=d.perm (Tb (Tr Tn))
   refine lu (lG (kL ?_))
   obtain rfl:=sj a
   exact ⟨f4,d8,f8,_,(a1.trans a2),(d.kA (Kb (Kr (Db St)))),rfl,d0⟩
  refine nf (lG (kL ?_))
  obtain rfl:=sj a
  exact ⟨G,D,d1,_,(lx.refl _),(d.kA (Kb (Kr (Db St)))),rfl,i⟩
 rintro e5 E W ⟨B,H,K,Q,g1,d,d9,c4⟩ j
 refine sg (Wh d9 (bS j λi2 b5 j=>VE (Ct d call173 (Fx g B e5 _ _ (c4.sl (λ_=>rfl) (λb o L=>d.at_ (Mt (Ml L)))) (At.of (d.at_ Mh) _ rfl) b5) (λh5 e8 j6 d2 d g2 O M=>Wa (ln ?_)))))
 replace d:=d.kA (Kr (Db (Dr St)))
 refine lJ ?_
 obtain rfl:=sj j
 exact nC (v:=e8) rfl rfl ⟨_,d2,rfl,d.uA (λp L=>(Ml L)) M.nd,M⟩
theorem ZN (w:World) {d i:Value} {a b:List Int} (h1:Sl (Pl (mh .u8)) 1 (hp w) d a) (j:Sl (Pl (mh .u8)) 1 (hp w) i b):(callFunc 211 [d,i].toArray).run pg0 w= .ok (.value (.int .i64 (Ce a b))) w:=Ws func211 (by kernel_rfl) (by kernel_rfl) (by kernel_rfl) (by kernel_rfl) h1 j
theorem Gc (a:Value) (g:List Int) (c:Value) (i:List Int) (r:Int) (w:World) (j:Sl (Pl (mh .u8)) 1 (hp w) a g) (k:Sl (Pl (mh .u8)) 1 (hp w) c i) (hm:zZ g i=some r) :
  lC true pg0 151 [a,c] w (.int .i64 r):=by
 exact cG 8 func151 rfl (λd=>sg (Wa (lr (Wm (Wm (VE (OD (args:=[a,c]) (v:=.int .i64 (Ce g i)) rfl (by exact qT rfl rfl) (ZN _ (j.mono (Pl.mono _) d.kC) (k.mono (Pl.mono _) d.kC)) (Wa (lt (rQ hm d))))))))))
theorem G1 (g i:kv) (r:Int) (w:World) (hm:px g i=some r) :
  lC true pg0 81 [(.agg (kF g).toArray),(.agg (kF i).toArray)] w (.int .i64 r):=by
 refine cG 10 func81 rfl (λd=>sg (VE (lM d rfl (λT Y d=>VE (lM d rfl (λU Z d=>Wa (ln (kM ?_))))))))
 replace d:=d.drew
 have n:=d.has.kA (Kb (Kb Sn))
 refine lU n li (XH 0 rfl n (λ_ p=>kB rfl (kI p (Mt Mh) (kF g) rfl cU bE)) (XH 2 rfl n (λ_ p=>kB rfl (kI p Mh (kF i) rfl cU bE)) (bS hm λy t hm=>XE 1 rfl (Ct d call152 (Jl g _ _  t) (λI B N G d a A j=>?_)))))
 have n:=d.has.Ew a (Dr (Kb (Kb Sn)))
 refine ⟨n,(bS hm λz u hm=>XE 3 rfl (Ct d call152 (Jl i _ _  u) (λJ D Q H d c E k=>?_)))⟩
 have n:=d.has.Ew (a.trans c) (Dr (Dr (Kb (Kb Sn))))
 refine ⟨n,(bS hm λM x hm=>XE 4 rfl (Eg d call151 (Gc B y D z _ _ (j.sl (λ_=>rfl) (λb o v=>d.at_ (Ma (Ml v)))) (k.sl (λ_=>rfl) (λb o v=>d.at_ (Ml v))) x) (λK d=>?_)))⟩
 have n:=d.has.Ew (a.trans c) (Dr (Dr (Kb (Kb Sn))))
 refine ⟨n,(X 5 rfl n (oe rfl) (lX kr (kL ?_)))⟩
 exact lJ (rQ hm d)
theorem vP (z:Value) (a0:List kx) (B:LO) (L a2:Int) (M:Value) (f3:(kx×kx)→Option Int) (r:List kx) (w:World) {μ0:lE} (h0:pn μ0 (B++[]) w) (g8:lh 197 kG 4 z a0 B) (g9:sI pg0 M μ0 (λ(x:(kx×kx))=>[(.agg (kG x.1).toArray),(.agg (kG x.2).toArray)]) (λ(r:Int)=>(.int .i64 r)) f3) (hm:pq a0 L a2 f3=some r) :
  mi false pg0 271 [z,(.int .i64 L),(.int .i64 a2),M] w (B++[]) (λv L1 W'=>∃S1,v=(.tuple #[])∧L1=(S1++[])∧lh 197 kG 4 z r S1):=by
 refine xq h0 53 func271 rfl (λn=>sg (Wm (Wi rfl (Wa (ln (sW (ma (nn (λm E W=>∃T G y b9,ST false (keys (B++[])) w W μ0 (G++b9)∧E 0=z∧E 1=(.int .i64 L)∧E 2=(.int .i64 a2)∧E 3=M∧E 8=(.int .i64 y)∧lh 197 kG 4 z T G∧nh a2 L f3 m T y=some r) kY ⟨a0,B,(wi0 .i64 (L+1)),_,(n.kA St),rfl,rfl,rfl,rfl,rfl,g8,hm⟩ ?_))))))))
 rintro m E W ⟨T,G,y,b9,n,e9,f0,c3,f1,b1,b6,t⟩
 cases m with
 | zero=>rw [nh] at t; cases t
 | succ g1=>
  refine kM (sg (Wh b1 (Wh c3 (Wi rfl (ln (CI t rfl (λd5 t=>?_) (λd5 t=>?_)))))))
  ·refine kn (kM (bg (Wh b1 (Wa (ln (sW (CJ t (λb4 E W=>∃N c0,ST false (keys (B++[])) w W μ0 (N++c0)∧E 0=z∧E 1=(.int .i64 L)∧E 2=(.int .i64 a2)∧E 3=M∧E 8=(.int .i64 y)∧lh 197 kG 4 z b4 N) (λb4 d8=>?_) ?_)))))))
   ·refine ma (nn (λm E W=>∃U H k c1,ST false (keys (B++[])) w W μ0 (H++c1)∧E 0=z∧E 1=(.int .i64 L)∧E 2=(.int .i64 a2)∧E 3=M∧E 8=(.int .i64 y)∧E 9=(.int .i64 k)∧lh 197 kG 4 z U H∧nG L f3 m U k=some b4) kY ⟨T,G,y,_,(n.kA St),e9,f0,c3,f1,b1,rfl,b6,d8⟩ ?_)
    rintro m E W ⟨U,H,k,c1,n,Q,b2,c4,b3,c5,I,j,K⟩
    cases m with
    | zero=>rw [nG] at K; cases K
    | succ g2=>
     refine kM (kM ?_)
     replace n:=n.drew
     have d:=n.has.kA (Kr Sn)
     refine lU d li (X 0 rfl d (kD I) (X 1 rfl d (kD b2) (X 2 rfl d (lY rfl rfl rfl) (X 3 rfl d (kD rfl) (PJ K (λd0 E W=>∃c2,ST false (keys (B++[])) w W μ0 (H++c2)∧E 0=z∧E 1=(.int .i64 L)∧E 2=(.int .i64 a2)∧E 3=M∧E 8=(.int .i64 y)∧E 9=(.int .i64 k)∧E 34=(.bool d0)) (bm 17 131071) 0 ?_ (λd0 g a9=>?_))))))
     ·rintro i3 E W ⟨c2,n,D,c6,c7,c8,c9,J,f8⟩ c
      have d:=n.has.kA (Kr Sn)
      refine lX kr (kL (CI c f8 (λd6 c=>?_) (λd6 c=>?_)))
      ·refine kn (kM (ma ?_))
       replace n:=n.drew
       have d:=n.has.kA Sn
       have A:=n.has.kA (Kr Sn)
       refine rC 15 d A li (lf 0 rfl kr (.inl rfl) rfl dc (λ_ _ h=>⟨h.1,lm br h.2⟩) ⟨d,λ_=>A⟩ (λ_ _ _ _=>kD D) (lf 1 rfl kr (.inl rfl) rfl dc (λ_ _ h=>⟨h.1,lm br h.2⟩) ⟨d,λ_=>A⟩ (λ_ _ _ _=>kD J) (lf 2 rfl kr (.inl rfl) rfl dc (λ_ _ h=>⟨h.1,lm br h.2⟩) ⟨d,λ_=>A⟩ (λ_ _ _ _=>kD D) (lf 3 rfl kr (.inl rfl) rfl dc (λ_ _ h=>⟨h.1,lm br h.2⟩) ⟨d,λ_=>A⟩ (λ_ _ _ _=>kD J) (lf 4 rfl kr (.inl rfl) rfl dc (λ_ _ h=>⟨h.1,lm br h.2⟩) ⟨d,λ_=>A⟩ (λ_ _ _ _=>lY rfl rfl rfl) (lf 5 rfl kr (.inl rfl) rfl dc (λ_ _ h=>⟨h.1,lm br h.2⟩) ⟨d,λ_=>A⟩ (λ_ _ _ _=>kD D) (lf 6 rfl kr (.inl rfl) rfl dc (λ_ _ h=>⟨h.1,lm br h.2⟩) ⟨d,λ_=>A⟩ (λ_ _ _ _=>kD J) (lf 7 rfl kr (.inl rfl) rfl dc (λ_ _ h=>⟨h.1,lm br h.2⟩) ⟨d,λ_=>A⟩ (λ_ _ _ _=>lY rfl rfl rfl) (bS c λY a3 c=>oM 8 rfl kr (.inl rfl) rfl dc (λ_ _ h=>⟨h.1,lm br h.2⟩) ⟨d,λ_=>A⟩ (lI (i:=(wi0 .i64 (k-1))) (x0:=Y) cH cC rfl rfl j (kW a3) (kO a3)) (λh6 d9=>lf 9 rfl kr (.inl rfl) rfl dc (λ_ _ h=>⟨h.1,lm br h.2⟩) ⟨d,λ_=>A⟩ (λl W P hs=>have O:=(hs.2 (P.yj 15 [9] kr rfl)); kB rfl (na O (λp R=>(Ml R)) j lV d9 (kO a3) fb cC)) (lf 10 rfl kr (.inl rfl) rfl dc (λ_ _ h=>⟨h.1,lm br h.2⟩) ⟨d,λ_=>A⟩ (λ_ _ _ _=>kD D) (lf 11 rfl kr (.inl rfl) rfl dc (λ_ _ h=>⟨h.1,lm br h.2⟩) ⟨d,λ_=>A⟩ (λ_ _ _ _=>kD J) (bS c λZ a4 c=>?_)))))))))))))
       refine oM 12 rfl kr (.inl rfl) rfl dc (λ_ _ h=>⟨h.1,lm br h.2⟩) ⟨d,λ_=>A⟩ (lI (i:=k) (x0:=Z) cH cC rfl rfl j (kW a4) (kO a4)) (λh7 e0=>lf 13 rfl kr (.inl rfl) rfl dc (λ_ _ h=>⟨h.1,lm br h.2⟩) ⟨d,λ_=>A⟩ (λl W P hs=>have O:=(hs.2 (P.yj 15 [13] kr rfl)); kB rfl (na O (λp R=>(Ml R)) j lV e0 (kO a4) fb cC)) (bS c λg3 a5 c=>oM 14 rfl kr (.inl rfl) rfl dc (λ_ _ h=>⟨h.1,lm br h.2⟩) ⟨d,λ_=>A⟩ (lI (i:=k) (x0:=g3) cH cC rfl rfl j (kW a5) (kO a5)) (λh8 e1=>XO 15 rfl (pD (u:=(.agg (kG Y).toArray)) (x1:=Y)  n j lV oR rfl rfl rfl e1 (kO a5) cC (λh3 h2 n b5=>?_)))))
       have d:=n.has.kA Sn
       refine ⟨⟨d,λh=>tQ kr h⟩,(bS c λg4 a6 c=>oM 16 rfl kr (.inl rfl) rfl dc (λ_ _ h=>⟨h.1,lm br h.2⟩) ⟨d,λh=>tQ kr h⟩ (lI (i:=(wi0 .i64 (k-1))) (x0:=g4) cH cC rfl rfl b5 (kW a6) (kO a6)) (λh9 e2=>XO 17 rfl (pD (u:=(.agg (kG Z).toArray)) (x1:=Z)  n b5 lV oR rfl rfl rfl e2 (kO a6) cC (λh4 e8 n d4=>?_))))⟩
       have d:=n.has.kA Sn
       exact ⟨⟨d,λh=>tQ kr h⟩,(lX kr (lG (kL (kK (Wh J (Wi rfl (Wa (ln ⟨g2,aQ _,((U.set (Int.toNat k) Y).set (Int.toNat (wi0 .i64 (k-1))) Z),e8,(wi0 .i64 (k-1)),_,(n.kA St),D,c6,c7,c8,c9,rfl,d4,c⟩))))))))⟩
      refine mX (mD (mD (pE (kL ?_))))
      obtain rfl:=sj c
      exact ⟨H,_,(n.kA St),D,c6,c7,c8,c9,j⟩
     refine bC g (λa g=>?_) (λa g=>?_)
     ·refine Xg 4 rfl rfl (cB a) d (kD b3) (Xg 5 rfl rfl (cB a) d (kD Q) (Xg 6 rfl rfl (cB a) d (kD I) (bS g λd1 a7 g=>oM 7 rfl kr (.inr ⟨3,true,21,rfl,rfl,by decide,(cB a)⟩) rfl dc (λ_ _ h=>h) d (lI (i:=k) (x0:=d1) cH cC rfl rfl j (kW a7) (kO a7)) (λi0 e3=>Aj 8 rfl rfl (cB a) d (λ_ O=>kB rfl (na O (λp R=>(Ml R)) j lV e3 (kO a7) fb cC)) (Xg 9 rfl rfl (cB a) d (kD Q) (Xg 10 rfl rfl (cB a) d (kD I) (Xg 11 rfl rfl (cB a) d (lY rfl rfl rfl) (bS g λd2 a8 g=>oM 12 rfl kr (.inr ⟨3,true,21,rfl,rfl,by decide,(cB a)⟩) rfl dc (λ_ _ h=>h) d (lI (i:=(wi0 .i64 (k-1))) (x0:=d2) cH cC rfl rfl j (kW a8) (kO a8)) (λi1 e4=>Aj 13 rfl rfl (cB a) d (λ_ O=>kB rfl (na O (λp R=>(Ml R)) j lV e4 (kO a8) fb cC)) (bS g λi2 e5 g=>Mf 14 rfl rfl (cB a) (DL (d1,d2) n g9 (lx.refl _) rfl (qT rfl rfl) e5 (λh5 n=>?_))))))))))))
      have d:=n.has.kA (Kr Sn)
      refine ⟨d,(Xg 15 rfl rfl (cB a) d (lY rfl rfl rfl) (X 16 rfl d (lK (cB a) rfl) ?_))⟩
      obtain rfl:=sj g
      refine rN kr (a9 _ _ ⟨_,(n.kA St),Q,b2,c4,b3,c5,I,rfl⟩)
     refine Xn 4 rfl rfl (cB a) d (Xn 5 rfl rfl (cB a) d (Xn 6 rfl rfl (cB a) d (Xn 7 rfl rfl (cB a) d (Xn 8 rfl rfl (cB a) d (Xn 9 rfl rfl (cB a) d (Xn 10 rfl rfl (cB a) d (Xn 11 rfl rfl (cB a) d (Xn 12 rfl rfl (cB a) d (Xn 13 rfl rfl (cB a) d (Xn 14 rfl rfl (cB a) d (Xn 15 rfl rfl (cB a) d (X 16 rfl d (lN (cB a) rfl) ?_))))))))))))
     obtain rfl:=sj g
     refine rN kr (a9 _ _ ⟨_,(n.kA St),Q,b2,c4,b3,c5,I,rfl⟩)
   rintro g0 E W ⟨N,c0,n,f2,f4,f5,f6,f7,e6⟩ d7
   exact lG (kL (kK (Wh f7 (Wi rfl (Wa (ln ⟨g1,aQ _,g0,N,(wi0 .i64 (y+1)),_,(n.kA St),f2,f4,f5,f6,rfl,e6,d7⟩))))))
  refine mX (mD (mD (pE (kL (pc ?_)))))
  obtain rfl:=sj t
  exact nY rfl ⟨_,_,rfl,(n.nK (Kr Sn)),G,rfl,rfl,b6⟩
theorem ub (y:Value) (a0:List kx) (k:LO) (M N a3:Int) (a4:Value) (f4:(kx×kx)→Option Int) (r:List kx) (w:World) {μ0:lE} (h0:pn μ0 (k++[]) w) (b4:lh 197 kG 4 y a0 k) (c8:sI pg0 a4 μ0 (λ(x:(kx×kx))=>[(.agg (kG x.1).toArray),(.agg (kG x.2).toArray)]) (λ(r:Int)=>(.int .i64 r)) f4) (hm:rp a0 M N a3 f4=some r) :
  mi true pg0 366 [y,(.int .i64 M),(.int .i64 N),(.int .i64 a3),a4] w (k++[]) (λv L1 W'=>∃S1,v=(.tuple #[])∧L1=(S1++[])∧lh 197 kG 4 y r S1):=by
 refine xq h0 38 func366 rfl (λA=>sg (Wa (ln (sW (ma (nn (λm E W=>∃I z c Y,ST true (keys (k++[])) w W μ0 (z++Y)∧E 0=y∧E 1=(.int .i64 M)∧E 2=(.int .i64 N)∧E 3=(.int .i64 a3)∧E 10=(.int .i64 c)∧lh 197 kG 4 y I z∧qz a3 N M m I c=some r) kY ⟨a0,k,0,_,(A.kA St),rfl,rfl,rfl,rfl,rfl,b4,hm⟩ ?_))))))
 rintro m E W ⟨I,z,c,Y,A,t,Q,T,Z,j,g,a⟩
 cases m with
 | zero=>rw [qz] at a; cases a
 | succ b5=>
  refine kM (sg (Wh j (Wh Z (Wi rfl (ln (CI a rfl (λa7 a=>?_) (λa7 a=>?_)))))))
  ·refine kn (kM (ma ?_))
   replace A:=A.drew
   have d:=A.has.kA Sn
   have n:=A.has.kA (Kr Sn)
   refine rC 21 d n li (lf 0 rfl kr (.inl rfl) rfl dc (λ_ _ h=>⟨h.1,lm br h.2⟩) ⟨d,λ_=>n⟩ (λ_ _ _ _=>kD t) (lf 1 rfl kr (.inl rfl) rfl dc (λ_ _ h=>⟨h.1,lm br h.2⟩) ⟨d,λ_=>n⟩ (λ_ _ _ _=>kD Q) (lf 2 rfl kr (.inl rfl) rfl dc (λ_ _ h=>⟨h.1,lm br h.2⟩) ⟨d,λ_=>n⟩ (λ_ _ _ _=>kD j) (lf 3 rfl kr (.inl rfl) rfl dc (λ_ _ h=>⟨h.1,lm br h.2⟩) ⟨d,λ_=>n⟩ (λ_ _ _ _=>lY rfl rfl rfl) (lf 4 rfl kr (.inl rfl) rfl dc (λ_ _ h=>⟨h.1,lm br h.2⟩) ⟨d,λ_=>n⟩ (λ_ _ _ _=>kD t) (lf 5 rfl kr (.inl rfl) rfl dc (λ_ _ h=>⟨h.1,lm br h.2⟩) ⟨d,λ_=>n⟩ (λ_ _ _ _=>kD T) (lf 6 rfl kr (.inl rfl) rfl dc (λ_ _ h=>⟨h.1,lm br h.2⟩) ⟨d,λ_=>n⟩ (λ_ _ _ _=>kD j) (lf 7 rfl kr (.inl rfl) rfl dc (λ_ _ h=>⟨h.1,lm br h.2⟩) ⟨d,λ_=>n⟩ (λ_ _ _ _=>lY rfl rfl rfl) (lf 8 rfl kr (.inl rfl) rfl dc (λ_ _ h=>⟨h.1,lm br h.2⟩) ⟨d,λ_=>n⟩ (λ_ _ _ _=>kD t) (lf 9 rfl kr (.inl rfl) rfl dc (λ_ _ h=>⟨h.1,lm br h.2⟩) ⟨d,λ_=>n⟩ (λ_ _ _ _=>kD T) (lf 10 rfl kr (.inl rfl) rfl dc (λ_ _ h=>⟨h.1,lm br h.2⟩) ⟨d,λ_=>n⟩ (λ_ _ _ _=>kD j) (lf 11 rfl kr (.inl rfl) rfl dc (λ_ _ h=>⟨h.1,lm br h.2⟩) ⟨d,λ_=>n⟩ (λ_ _ _ _=>lY rfl rfl rfl) (bS a λJ B a=>oM 12 rfl kr (.inl rfl) rfl dc (λ_ _ h=>⟨h.1,lm br h.2⟩) ⟨d,λ_=>n⟩ (lI (i:=(wi0 .i64 (N+c))) (x0:=J) cH cC rfl rfl g (kW B) (kO B)) (λc9 a8=>?_))))))))))))))
   refine lf 13 rfl kr (.inl rfl) rfl dc (λ_ _ h=>⟨h.1,lm br h.2⟩) ⟨d,λ_=>n⟩ (λl W L R=>have O:=(R.2 (L.yj 21 [13] kr rfl)); kB rfl (na O (λp P=>(Ml P)) g lV a8 (kO B) fb cC)) (lf 14 rfl kr (.inl rfl) rfl dc (λ_ _ h=>⟨h.1,lm br h.2⟩) ⟨d,λ_=>n⟩ (λ_ _ _ _=>kD t) (lf 15 rfl kr (.inl rfl) rfl dc (λ_ _ h=>⟨h.1,lm br h.2⟩) ⟨d,λ_=>n⟩ (λ_ _ _ _=>kD Q) (lf 16 rfl kr (.inl rfl) rfl dc (λ_ _ h=>⟨h.1,lm br h.2⟩) ⟨d,λ_=>n⟩ (λ_ _ _ _=>kD j) (lf 17 rfl kr (.inl rfl) rfl dc (λ_ _ h=>⟨h.1,lm br h.2⟩) ⟨d,λ_=>n⟩ (λ_ _ _ _=>lY rfl rfl rfl) (bS a λK D a=>oM 18 rfl kr (.inl rfl) rfl dc (λ_ _ h=>⟨h.1,lm br h.2⟩) ⟨d,λ_=>n⟩ (lI (i:=(wi0 .i64 (M+c))) (x0:=K) cH cC rfl rfl g (kW D) (kO D)) (λd0 a9=>lf 19 rfl kr (.inl rfl) rfl dc (λ_ _ h=>⟨h.1,lm br h.2⟩) ⟨d,λ_=>n⟩ (λl W L R=>have O:=(R.2 (L.yj 21 [19] kr rfl)); kB rfl (na O (λp P=>(Ml P)) g lV a9 (kO D) fb cC)) (bS a λb7 G a=>oM 20 rfl kr (.inl rfl) rfl dc (λ_ _ h=>⟨h.1,lm br h.2⟩) ⟨d,λ_=>n⟩ (lI (i:=(wi0 .i64 (M+c))) (x0:=b7) cH cC rfl rfl g (kW G) (kO G)) (λd1 b0=>XO 21 rfl (pD (u:=(.agg (kG J).toArray)) (x1:=J)  A g lV oR rfl rfl rfl b0 (kO G) cC (λc5 c4 A U=>?_))))))))))
   have d:=A.has.kA Sn
   refine ⟨⟨d,λh=>tQ kr h⟩,(bS a λb9 H a=>oM 22 rfl kr (.inl rfl) rfl dc (λ_ _ h=>⟨h.1,lm br h.2⟩) ⟨d,λh=>tQ kr h⟩ (lI (i:=(wi0 .i64 (N+c))) (x0:=b9) cH cC rfl rfl U (kW H) (kO H)) (λd2 b1=>XO 23 rfl (pD (u:=(.agg (kG K).toArray)) (x1:=K)  A U lV oR rfl rfl rfl b1 (kO H) cC (λc6 b2 A a6=>?_))))⟩
   have d:=A.has.kA Sn
   exact ⟨⟨d,λh=>tQ kr h⟩,(lX kr (lG (kL (kK (Wh j (Wi rfl (Wa (ln ⟨b5,aQ _,((I.set (Int.toNat (wi0 .i64 (M+c))) J).set (Int.toNat (wi0 .i64 (N+c))) K),b2,(wi0 .i64 (c+1)),_,(A.kA St),t,Q,T,Z,rfl,a6,a⟩))))))))⟩
  refine mX (mD (mD (pE (kL (pc ?_)))))
  obtain rfl:=sj a
  exact nY rfl ⟨_,_,rfl,(A.nK (Kr Sn)),z,rfl,rfl,g⟩
theorem Ds (k:Value) (a0:List kx) (G:LO) (L D a3:Int) (B:Value) (U:(kx×kx)→Option Int) (r:List kx) (w:World) {μ0:lE} (h0:pn μ0 (G++[]) w) (c5:lh 197 kG 4 k a0 G) (Q:sI pg0 B μ0 (λ(x:(kx×kx))=>[(.agg (kG x.1).toArray),(.agg (kG x.2).toArray)]) (λ(r:Int)=>(.int .i64 r)) U) (hm:yz a0 L D a3 U=some r) :
  mi true pg0 327 [k,(.int .i64 L),(.int .i64 D),(.int .i64 a3),B] w (G++[]) (λv L1 W'=>∃S1,v=(.tuple #[])∧L1=(S1++[])∧lh 197 kG 4 k r S1):=by
 refine xq h0 58 func327 rfl (λd=>sg (Wm (Wm (Wi rfl (Wa (lr (Wm (Wm (Wi rfl (Wa ?_))))))))))
 refine ln (kM (ma (nn (λm E W=>∃z y c t T Y,lx μ0 T∧ST true (keys (G++[])) w W T (y++Y)∧E 0=k∧E 2=(.int .i64 D)∧E 4=B∧E 10=(.int .i64 c)∧E 11=(.int .i64 t)∧lh 197 kG 4 k z y∧qa D U m z c t=some r) kY ⟨a0,G,(wi0 .i64 (D-L)),(wi0 .i64 (a3-D)),μ0,_,(lx.refl _),(d.kA St),rfl,rfl,rfl,rfl,rfl,c5,hm⟩ ?_)))
 rintro m E W ⟨z,y,c,t,T,Y,j,d,H,i,I,g,u,J,a⟩
 let a2:=(wi0 .i64 (D-c))
 cases m with
 | zero=>rw [qa] at a; cases a
 | succ a5=>
  refine kM (sg (Wh g (Wh u (Wi rfl (ln (CI a rfl (λa9 a=>?_) (λa9 a=>?_)))))))
  ·refine kn (bg (Wh g (Wh u (Wi rfl (ln (CI a rfl (λb0 a=>?_) (λb0 a=>?_)))))))
   ·refine sg (Wh H (Wh i (Wh g (Wi rfl (Wh i (Wh u (Wh I (bS a λc6 b1 a=>?_))))))))
    refine VE (eM d (Cr Qz Cn) call366 (λA p=>(ub k z y a2 D t B U _ _ A J (Q.mono (j.trans p)) b1)) ?_)
    rintro _ e1 c8 d3 d Z O n ⟨b9,K,rfl,b4⟩
    obtain rfl:=K.symm
    replace d:=d.perm (Tr Tn)
    exact ln (kK (Wh g (Wh u (Wi rfl (Wa (lu (lG (kL ⟨a5,aQ _,c6,b9,(wi0 .i64 (c-t)),t,c8,_,(j.trans Z),(d.kA St),H,i,I,rfl,u,b4,a⟩))))))))
   refine sg (Wh H (Wh i (Wh g (Wi rfl (Wh i (Wh u (Wi rfl (Wh g (Wi rfl (Wh g (Wh I (bS a λc7 b2 a=>?_))))))))))))
   refine VE (eM d (Cr Qz Cn) call366 (λA p=>(ub k z y a2 (wi0 .i64 ((wi0 .i64 (D+t))-c)) c B U _ _ A J (Q.mono (j.trans p)) b2)) ?_)
   rintro _ e2 c9 d4 d a4 P n ⟨c0,M,rfl,b5⟩
   obtain rfl:=M.symm
   replace d:=d.perm (Tr Tn)
   exact ln (kK (Wh u (Wh g (Wi rfl (Wa (lu (lG (kL ⟨a5,aQ _,c7,c0,c,(wi0 .i64 (t-c)),c9,_,(j.trans a4),(d.kA St),H,i,I,g,rfl,b5,a⟩))))))))
  refine mX (mD (mD (pE (kL (kK (Wh H (Wh i (Wh g (Wi rfl (Wh i (Wh g (Wh I (bS a λe0 b3 a=>?_)))))))))))))
  refine VE (eM d (Cr Qz Cn) call366 (λA p=>(ub k z y a2 D c B U _ _ A J (Q.mono (j.trans p)) b3)) ?_)
  rintro _ e3 e4 d5 d d1 R n ⟨c1,N,rfl,b6⟩
  obtain rfl:=N.symm
  replace d:=d.perm (Tr Tn)
  refine lu (pc ?_)
  obtain rfl:=sj a
  exact nY rfl ⟨_,_,rfl,(d.nK (Kr Sn)),c1,rfl,rfl,b6⟩
set_option maxHeartbeats 4000000 in
theorem AS (s7:(List kx)→Int→Int→Int→((kx×kx)→Option Int)→Option (List kx)) (s1:∀(t:Value) (a0:List kx) (c:LO) (D:Int) (Q:Int) (G:Int) (I:Value) (f4:(kx×kx)→Option Int) (r:List kx) (w:World) {μ0:lE} (h0:pn μ0 (c++[]) w) (H:lh 197 kG 4 t a0 c) (c4:sI pg0 I μ0 (λ(x:(kx×kx))=>[(.agg (kG x.1).toArray),(.agg (kG x.2).toArray)]) (λ(r:Int)=>(.int .i64 r)) f4),s7 a0 D Q G f4=some r→mi false pg0 272 [t,(.int .i64 D),(.int .i64 Q),(.int .i64 G),I] w (c++[]) (λv L1 W'=>∃S1,v=(.tuple #[])∧L1=(S1++[])∧lh 197 kG 4 t r S1)) (t:Value) (a0:List kx) (c:LO) (D Q G:Int) (I:Value) (f4:(kx×kx)→Option Int) (r:List kx) (w:World) {μ0:lE} (h0:pn μ0 (c++[]) w) (H:lh 197 kG 4 t a0 c) (c4:sI pg0 I μ0 (λ(x:(kx×kx))=>[(.agg (kG x.1).toArray),(.agg (kG x.2).toArray)]) (λ(r:Int)=>(.int .i64 r)) f4) (hm:vJ s7 a0 D Q G f4=some r) :
  mi false pg0 272 [t,(.int .i64 D),(.int .i64 Q),(.int .i64 G),I] w (c++[]) (λv L1 W'=>∃S1,v=(.tuple #[])∧L1=(S1++[])∧lh 197 kG 4 t r S1):=by
 refine xq h0 220 func272 rfl (λd=>kM (sg (Wm (Wm (Wi rfl (Wi rfl (ln (CI hm rfl (λy7 hm=>?_) (λy7 hm=>?_)))))))))
 ·refine sg (Wm (Wa (lr (Wm (Wa (ln (kM (ma (nn (λm E W=>∃U a7 o3,ST false (keys (c++[])) w W μ0 (c++o3)∧E 0=t∧E 1=(.int .i64 D)∧E 4=I∧E 10=(.int .i64 U)∧E 11=(.int .i64 a7)∧pN a0 D f4 m U a7=some r) kY ⟨Q,G,_,(d.kA St),rfl,rfl,rfl,rfl,rfl,hm⟩ ?_)))))))))
  rintro m E W ⟨U,a7,o3,d,e4,i4,k2,i5,k3,z⟩
  cases m with
  | zero=>rw [pN] at z; cases z
  | succ s6=>
   refine kM (sg (Wh i5 (Wh k3 (Wi rfl (ln (CI z rfl (λv4 z=>?_) (λv4 z=>?_)))))))
   ·refine kn (bg (Wh i5 (Wh k3 (Wi rfl (V (oG (k':=.i64) (a:=(wi0 .i64 (U+a7))) dn dl rfl) (V (A4 (a:=(IntKind.u64.wrap (wi0 .i64 (U+a7)))) (b:=1) rfl rfl dc) (V (oG (k':=.u64) (a:=(Int.fdiv (IntKind.u64.wrap (wi0 .i64 (U+a7))) (2 ^ min (Int.toNat 1) (IntKind.bits .u64)))) dl dn rfl) (Wa (ln (kM ?_))))))))))
    let c3:=(Int.fdiv (IntKind.u64.wrap (wi0 .i64 (U+a7))) (2 ^ min (Int.toNat 1) (IntKind.bits .u64)))
    replace d:=d.drew
    have n:=d.has.kA (Kr Sn)
    refine lU n li (X 0 rfl n (kD k2) (X 1 rfl n (kD e4) (X 2 rfl n (kD rfl) (bS z λs8 i6 z=>XQ 3 rfl n (lI (i:=(wi0 .i64 c3)) (x0:=s8) cH cC rfl rfl H (kW i6) (kO i6)) (λbd w0=>XH 4 rfl n (λ_ L=>kB rfl (na L (λp O=>(Ml O)) H lV w0 (kO i6) fb cC)) (X 5 rfl n (kD e4) (X 6 rfl n (kD i4) (bS z λs9 i7 z=>XQ 7 rfl n (lI (i:=D) (x0:=s9) cH cC rfl rfl H (kW i7) (kO i7)) (λbe w1=>XH 8 rfl n (λ_ L=>kB rfl (na L (λp O=>(Ml O)) H lV w1 (kO i7) fb cC)) (bS z λbk w6 z=>XE 9 rfl (DL (s8,s9) d c4 (lx.refl _) rfl (qT rfl rfl) w6 (λay d=>?_))))))))))))
    have n:=d.has.kA (Kr Sn)
    refine ⟨n,(X 10 rfl n (lY rfl rfl rfl) (lX kr (kL (CI z rfl (λv5 z=>?_) (λv5 z=>?_)))))⟩
    ·exact kK (Wm (Wi rfl (Wa (lu (lG (kL ⟨s6,aQ _,(wi0 .i64 ((wi0 .i64 c3)+1)),a7,_,(d.kA St),e4,i4,k2,rfl,k3,z⟩))))))
    exact kK (Wm (Wa (lu (lG (kL ⟨s6,aQ _,U,(wi0 .i64 c3),_,(d.kA St),e4,i4,k2,i5,rfl,z⟩)))))
   refine mX (mD (mD (pE (kL (kM (sg (Wh i4 (Wa (ln (CJ z (λk4 E W=>∃g3 o4,ST false (keys (c++[])) w W μ0 (g3++o4)∧lh 197 kG 4 t k4 g3) (λk4 v9=>?_) ?_))))))))))
   ·refine ma (nn (λm E W=>∃j4 g4 a8 o5,ST false (keys (c++[])) w W μ0 (g4++o5)∧E 0=t∧E 10=(.int .i64 U)∧E 13=(.int .i64 a8)∧lh 197 kG 4 t j4 g4∧qO U m j4 a8=some k4) kY ⟨a0,c,D,_,(d.kA St),e4,i5,rfl,H,v9⟩ ?_)
    rintro m E W ⟨j4,g4,a8,o5,d,e5,o7,c8,b1,B⟩
    cases m with
    | zero=>rw [qO] at B; cases B
    | succ y1=>
     refine kM (sg (Wh c8 (Wh o7 (Wi rfl (Wi rfl (ln (CI B rfl (λv6 B=>?_) (λv6 B=>?_))))))))
     ·refine kn (kM (ma ?_))
      replace d:=d.drew
      have n:=d.has.kA Sn
      have A:=d.has.kA (Kr Sn)
      refine rC 15 n A li (lf 0 rfl kr (.inl rfl) rfl dc (λ_ _ h=>⟨h.1,lm br h.2⟩) ⟨n,λ_=>A⟩ (λ_ _ _ _=>kD e5) (lf 1 rfl kr (.inl rfl) rfl dc (λ_ _ h=>⟨h.1,lm br h.2⟩) ⟨n,λ_=>A⟩ (λ_ _ _ _=>kD c8) (lf 2 rfl kr (.inl rfl) rfl dc (λ_ _ h=>⟨h.1,lm br h.2⟩) ⟨n,λ_=>A⟩ (λ_ _ _ _=>kD e5) (lf 3 rfl kr (.inl rfl) rfl dc (λ_ _ h=>⟨h.1,lm br h.2⟩) ⟨n,λ_=>A⟩ (λ_ _ _ _=>kD c8) (lf 4 rfl kr (.inl rfl) rfl dc (λ_ _ h=>⟨h.1,lm br h.2⟩) ⟨n,λ_=>A⟩ (λ_ _ _ _=>lY rfl rfl rfl) (lf 5 rfl kr (.inl rfl) rfl dc (λ_ _ h=>⟨h.1,lm br h.2⟩) ⟨n,λ_=>A⟩ (λ_ _ _ _=>kD e5) (lf 6 rfl kr (.inl rfl) rfl dc (λ_ _ h=>⟨h.1,lm br h.2⟩) ⟨n,λ_=>A⟩ (λ_ _ _ _=>kD c8) (lf 7 rfl kr (.inl rfl) rfl dc (λ_ _ h=>⟨h.1,lm br h.2⟩) ⟨n,λ_=>A⟩ (λ_ _ _ _=>lY rfl rfl rfl) (bS B λj7 i8 B=>oM 8 rfl kr (.inl rfl) rfl dc (λ_ _ h=>⟨h.1,lm br h.2⟩) ⟨n,λ_=>A⟩ (lI (i:=(wi0 .i64 (a8+1))) (x0:=j7) cH cC rfl rfl b1 (kW i8) (kO i8)) (λbf w2=>lf 9 rfl kr (.inl rfl) rfl dc (λ_ _ h=>⟨h.1,lm br h.2⟩) ⟨n,λ_=>A⟩ (λl W P hs=>have L:=(hs.2 (P.yj 15 [9] kr rfl)); kB rfl (na L (λp O=>(Ml O)) b1 lV w2 (kO i8) fb cC)) (lf 10 rfl kr (.inl rfl) rfl dc (λ_ _ h=>⟨h.1,lm br h.2⟩) ⟨n,λ_=>A⟩ (λ_ _ _ _=>kD e5) (lf 11 rfl kr (.inl rfl) rfl dc (λ_ _ h=>⟨h.1,lm br h.2⟩) ⟨n,λ_=>A⟩ (λ_ _ _ _=>kD c8) (bS B λj8 i9 B=>?_)))))))))))))
      refine oM 12 rfl kr (.inl rfl) rfl dc (λ_ _ h=>⟨h.1,lm br h.2⟩) ⟨n,λ_=>A⟩ (lI (i:=a8) (x0:=j8) cH cC rfl rfl b1 (kW i9) (kO i9)) (λbh w3=>lf 13 rfl kr (.inl rfl) rfl dc (λ_ _ h=>⟨h.1,lm br h.2⟩) ⟨n,λ_=>A⟩ (λl W P hs=>have L:=(hs.2 (P.yj 15 [13] kr rfl)); kB rfl (na L (λp O=>(Ml O)) b1 lV w3 (kO i9) fb cC)) (bS B λy3 j0 B=>oM 14 rfl kr (.inl rfl) rfl dc (λ_ _ h=>⟨h.1,lm br h.2⟩) ⟨n,λ_=>A⟩ (lI (i:=a8) (x0:=y3) cH cC rfl rfl b1 (kW j0) (kO j0)) (λbi w4=>XO 15 rfl (pD (u:=(.agg (kG j7).toArray)) (x1:=j7)  d b1 lV oR rfl rfl rfl w4 (kO j0) cC (λaz aw d m8=>?_)))))
      have n:=d.has.kA Sn
      refine ⟨⟨n,λh=>tQ kr h⟩,(bS B λy4 j3 B=>oM 16 rfl kr (.inl rfl) rfl dc (λ_ _ h=>⟨h.1,lm br h.2⟩) ⟨n,λh=>tQ kr h⟩ (lI (i:=(wi0 .i64 (a8+1))) (x0:=y4) cH cC rfl rfl m8 (kW j3) (kO j3)) (λbj w5=>XO 17 rfl (pD (u:=(.agg (kG j8).toArray)) (x1:=j8)  d m8 lV oR rfl rfl rfl w5 (kO j3) cC (λba y0 d v3=>?_))))⟩
      have n:=d.has.kA Sn
      exact ⟨⟨n,λh=>tQ kr h⟩,(lX kr (lG (kL (kK (Wh c8 (Wi rfl (Wa (ln ⟨y1,aQ _,((j4.set (Int.toNat a8) j7).set (Int.toNat (wi0 .i64 (a8+1))) j8),y0,(wi0 .i64 (a8+1)),_,(d.kA St),e5,o7,rfl,v3,B⟩))))))))⟩
     refine mX (mD (mD (pE (kL ?_))))
     obtain rfl:=sj B
     exact ⟨g4,_,(d.kA St),b1⟩
   rintro bc E W ⟨g3,o4,d,w7⟩ v8
   refine lJ (mL ?_)
   obtain rfl:=sj v8
   exact nY rfl ⟨_,_,rfl,(d.nK (Kr Sn)),g3,rfl,rfl,w7⟩
 refine kS (Wm (Wm (Wi rfl (Wi rfl (ln (CI hm rfl (λv7 hm=>?_) (λv7 hm=>?_)))))))
 ·refine sg (Wm (Wa (lr (Wm (Wa (ln (kM (ma (nn (λm E W=>∃Y a9 k5,ST false (keys (c++[])) w W μ0 (c++k5)∧E 0=t∧E 2=(.int .i64 Q)∧E 4=I∧E 14=(.int .i64 Y)∧E 15=(.int .i64 a9)∧pK a0 Q f4 m Y a9=some r) kY ⟨D,Q,_,(d.kA St),rfl,rfl,rfl,rfl,rfl,hm⟩ ?_)))))))))
  rintro m E W ⟨Y,a9,k5,d,c5,d2,g7,d3,g8,j⟩
  let e3:=(IntKind.u64.wrap (wi0 .i64 (Y+a9)))
  let b8:=(Int.fdiv e3 (2 ^ min (Int.toNat 1) (IntKind.bits .u64)))
  cases m with
  | zero=>rw [pK] at j; cases j
  | succ m9=>
   refine kM (sg (Wh d3 (Wh g8 (Wi rfl (ln (CI j rfl (λp2 j=>?_) (λp2 j=>?_)))))))
   ·refine kn (bg (Wh d3 (Wh g8 (Wi rfl (V (oG (k':=.i64) (a:=(wi0 .i64 (Y+a9))) dn dl rfl) (V (A4 (a:=e3) (b:=1) rfl rfl dc) (V (oG (k':=.u64) (a:=(Int.fdiv e3 (2 ^ min (Int.toNat 1) (IntKind.bits .u64)))) dl dn rfl) (Wa (ln (kM ?_))))))))))
    replace d:=d.drew
    have n:=d.has.kA (Kr Sn)
    refine lU n li (X 0 rfl n (kD g7) (X 1 rfl n (kD c5) (X 2 rfl n (kD d2) (bS j λn6 f0 j=>XQ 3 rfl n (lI (i:=Q) (x0:=n6) cH cC rfl rfl H (kW f0) (kO f0)) (λaa q8=>XH 4 rfl n (λ_ L=>kB rfl (na L (λp O=>(Ml O)) H lV q8 (kO f0) fb cC)) (X 5 rfl n (kD c5) (X 6 rfl n (kD rfl) (bS j λn7 f1 j=>XQ 7 rfl n (lI (i:=(wi0 .i64 b8)) (x0:=n7) cH cC rfl rfl H (kW f1) (kO f1)) (λab q9=>XH 8 rfl n (λ_ L=>kB rfl (na L (λp O=>(Ml O)) H lV q9 (kO f1) fb cC)) (bS j λai r6 j=>XE 9 rfl (DL (n6,n7) d c4 (lx.refl _) rfl (qT rfl rfl) r6 (λz2 d=>?_))))))))))))
    have n:=d.has.kA (Kr Sn)
    refine ⟨n,(X 10 rfl n (lY rfl rfl rfl) (X 11 rfl n (oF rfl) (lX kr (kL (CI j rfl (λp3 j=>?_) (λp3 j=>?_))))))⟩
    ·exact kK (Wm (Wi rfl (Wa (lu (lG (kL ⟨m9,aQ _,(wi0 .i64 ((wi0 .i64 b8)+1)),a9,_,(d.kA St),c5,d2,g7,rfl,g8,j⟩))))))
    exact kK (Wm (Wa (lu (lG (kL ⟨m9,aQ _,Y,(wi0 .i64 b8),_,(d.kA St),c5,d2,g7,d3,rfl,j⟩)))))
   refine mX (mD (mD (pE (kL (kM (sg (Wh d2 (Wa (ln (CJ j (λj5 E W=>∃d0 k6,ST false (keys (c++[])) w W μ0 (d0++k6)∧lh 197 kG 4 t j5 d0) (λj5 q2=>?_) ?_))))))))))
   ·refine ma (nn (λm E W=>∃d9 d1 T k7,ST false (keys (c++[])) w W μ0 (d1++k7)∧E 0=t∧E 14=(.int .i64 Y)∧E 17=(.int .i64 T)∧lh 197 kG 4 t d9 d1∧qP Y m d9 T=some j5) kY ⟨a0,c,Q,_,(d.kA St),c5,d3,rfl,H,q2⟩ ?_)
    rintro m E W ⟨d9,d1,T,k7,d,c6,l5,b9,a6,y⟩
    cases m with
    | zero=>rw [qP] at y; cases y
    | succ x2=>
     refine kM (sg (Wh b9 (Wh l5 (Wi rfl (ln (CI y rfl (λp4 y=>?_) (λp4 y=>?_)))))))
     ·refine kn (kM (ma ?_))
      replace d:=d.drew
      have n:=d.has.kA Sn
      have A:=d.has.kA (Kr Sn)
      refine rC 15 n A li (lf 0 rfl kr (.inl rfl) rfl dc (λ_ _ h=>⟨h.1,lm br h.2⟩) ⟨n,λ_=>A⟩ (λ_ _ _ _=>kD c6) (lf 1 rfl kr (.inl rfl) rfl dc (λ_ _ h=>⟨h.1,lm br h.2⟩) ⟨n,λ_=>A⟩ (λ_ _ _ _=>kD b9) (lf 2 rfl kr (.inl rfl) rfl dc (λ_ _ h=>⟨h.1,lm br h.2⟩) ⟨n,λ_=>A⟩ (λ_ _ _ _=>kD c6) (lf 3 rfl kr (.inl rfl) rfl dc (λ_ _ h=>⟨h.1,lm br h.2⟩) ⟨n,λ_=>A⟩ (λ_ _ _ _=>kD b9) (lf 4 rfl kr (.inl rfl) rfl dc (λ_ _ h=>⟨h.1,lm br h.2⟩) ⟨n,λ_=>A⟩ (λ_ _ _ _=>lY rfl rfl rfl) (lf 5 rfl kr (.inl rfl) rfl dc (λ_ _ h=>⟨h.1,lm br h.2⟩) ⟨n,λ_=>A⟩ (λ_ _ _ _=>kD c6) (lf 6 rfl kr (.inl rfl) rfl dc (λ_ _ h=>⟨h.1,lm br h.2⟩) ⟨n,λ_=>A⟩ (λ_ _ _ _=>kD b9) (lf 7 rfl kr (.inl rfl) rfl dc (λ_ _ h=>⟨h.1,lm br h.2⟩) ⟨n,λ_=>A⟩ (λ_ _ _ _=>lY rfl rfl rfl) (bS y λe0 f2 y=>oM 8 rfl kr (.inl rfl) rfl dc (λ_ _ h=>⟨h.1,lm br h.2⟩) ⟨n,λ_=>A⟩ (lI (i:=(wi0 .i64 (T-1))) (x0:=e0) cH cC rfl rfl a6 (kW f2) (kO f2)) (λac r0=>lf 9 rfl kr (.inl rfl) rfl dc (λ_ _ h=>⟨h.1,lm br h.2⟩) ⟨n,λ_=>A⟩ (λl W P hs=>have L:=(hs.2 (P.yj 15 [9] kr rfl)); kB rfl (na L (λp O=>(Ml O)) a6 lV r0 (kO f2) fb cC)) (lf 10 rfl kr (.inl rfl) rfl dc (λ_ _ h=>⟨h.1,lm br h.2⟩) ⟨n,λ_=>A⟩ (λ_ _ _ _=>kD c6) (lf 11 rfl kr (.inl rfl) rfl dc (λ_ _ h=>⟨h.1,lm br h.2⟩) ⟨n,λ_=>A⟩ (λ_ _ _ _=>kD b9) (bS y λe1 f3 y=>?_)))))))))))))
      refine oM 12 rfl kr (.inl rfl) rfl dc (λ_ _ h=>⟨h.1,lm br h.2⟩) ⟨n,λ_=>A⟩ (lI (i:=T) (x0:=e1) cH cC rfl rfl a6 (kW f3) (kO f3)) (λad r1=>lf 13 rfl kr (.inl rfl) rfl dc (λ_ _ h=>⟨h.1,lm br h.2⟩) ⟨n,λ_=>A⟩ (λl W P hs=>have L:=(hs.2 (P.yj 15 [13] kr rfl)); kB rfl (na L (λp O=>(Ml O)) a6 lV r1 (kO f3) fb cC)) (bS y λx3 f5 y=>oM 14 rfl kr (.inl rfl) rfl dc (λ_ _ h=>⟨h.1,lm br h.2⟩) ⟨n,λ_=>A⟩ (lI (i:=T) (x0:=x3) cH cC rfl rfl a6 (kW f5) (kO f5)) (λae r2=>XO 15 rfl (pD (u:=(.agg (kG e0).toArray)) (x1:=e0)  d a6 lV oR rfl rfl rfl r2 (kO f5) cC (λz3 z1 d j9=>?_)))))
      have n:=d.has.kA Sn
      refine ⟨⟨n,λh=>tQ kr h⟩,(bS y λx4 f6 y=>oM 16 rfl kr (.inl rfl) rfl dc (λ_ _ h=>⟨h.1,lm br h.2⟩) ⟨n,λh=>tQ kr h⟩ (lI (i:=(wi0 .i64 (T-1))) (x0:=x4) cH cC rfl rfl j9 (kW f6) (kO f6)) (λaf r3=>XO 17 rfl (pD (u:=(.agg (kG e1).toArray)) (x1:=e1)  d j9 lV oR rfl rfl rfl r3 (kO f6) cC (λz4 t0 d p1=>?_))))⟩
      have n:=d.has.kA Sn
      exact ⟨⟨n,λh=>tQ kr h⟩,(lX kr (lG (kL (kK (Wh b9 (Wi rfl (Wa (ln ⟨x2,aQ _,((d9.set (Int.toNat T) e0).set (Int.toNat (wi0 .i64 (T-1))) e1),t0,(wi0 .i64 (T-1)),_,(d.kA St),c6,l5,rfl,p1,y⟩))))))))⟩
     refine mX (mD (mD (pE (kL ?_))))
     obtain rfl:=sj y
     exact ⟨d1,_,(d.kA St),a6⟩
   rintro z9 E W ⟨d0,k6,d,s2⟩ q1
   refine lJ (mL ?_)
   obtain rfl:=sj q1
   exact nY rfl ⟨_,_,rfl,(d.nK (Kr Sn)),d0,rfl,rfl,s2⟩
 let e6:=(IntKind.u64.wrap (wi0 .i64 (D+G)))
 refine kg (Wm (Wm (Wi rfl (V (oG (k':=.i64) (a:=(wi0 .i64 (D+G))) dn dl rfl) (V (A4 (a:=e6) (b:=1) rfl rfl dc) (V (oG (k':=.u64) (a:=(Int.fdiv e6 (2 ^ min (Int.toNat 1) (IntKind.bits .u64)))) dl dn rfl) (Wa (lr ?_))))))))
 let a1:=(wi0 .i64 (Int.fdiv e6 (2 ^ min (Int.toNat 1) (IntKind.bits .u64))))
 let c9:=(wi0 .i64 (a1+Q))
 refine Wm (Wm (Wi rfl (Wa (lr (Wa (Wa (ln (kM (CJ hm (λj6 E W=>∃k8,ST false (keys (c++[])) w W μ0 (c++k8)∧E 0=t∧E 1=(.int .i64 D)∧E 2=(.int .i64 Q)∧E 3=(.int .i64 G)∧E 4=I∧E 18=(.int .i64 a1)∧E 19=(.int .i64 c9)∧E 20=(.int .i64 j6.1)∧E 21=(.int .i64 j6.2)) (λj6 b5=>?_) ?_)))))))))
 ·refine sg (Wm (Wm (Wi rfl (ln (CI b5 rfl (λq0 b5=>?_) (λq0 b5=>?_))))))
  ·refine sg (Wm (Wm (Wi rfl (Wa (ln (kK (Wm (Wa (ln ?_)))))))))
   obtain rfl:=sj b5
   exact ⟨_,(d.kA St),rfl,rfl,rfl,rfl,rfl,rfl,rfl,rfl,rfl⟩
  refine sg (Wm (Wa (ln (kK (Wm (Wa (ln ?_)))))))
  obtain rfl:=sj b5
  exact ⟨_,(d.kA St),rfl,rfl,rfl,rfl,rfl,rfl,rfl,rfl,rfl⟩
 rintro ⟨x5,x6⟩ E W ⟨k8,d,t4,t5,t6,t7,t8,t9,l6,u0,u1⟩ q3
 refine sg (Wh l6 (Wi rfl (Wa (ln (kM (ma (nn (λm E W=>∃g N k9,ST false (keys (c++[])) w W μ0 (c++k9)∧E 0=t∧E 1=(.int .i64 D)∧E 2=(.int .i64 Q)∧E 3=(.int .i64 G)∧E 4=I∧E 18=(.int .i64 a1)∧E 19=(.int .i64 c9)∧E 20=(.int .i64 g)∧E 21=(.int .i64 N)∧E 22=(.int .i64 (wi0 .i64 (c9-1)))∧pM a0 D G Q f4 s7 m g N=some r) kY ⟨x5,x6,_,(d.kA St),t4,t5,t6,t7,t8,t9,l6,u0,u1,rfl,q3⟩ ?_)))))))
 rintro m E W ⟨g,N,k9,d,c0,d4,c1,d5,c7,d6,g9,b0,h1,h2,k⟩
 let g5:=(IntKind.u64.wrap (wi0 .i64 (g+N)))
 let a3:=(Int.fdiv g5 (2 ^ min (Int.toNat 1) (IntKind.bits .u64)))
 let g6:=(wi0 .i64 a3)
 let a2:=(wi0 .i64 (c9-g))
 cases m with
 | zero=>rw [pM] at k; cases k
 | succ n0=>
  refine kM (sg (Wh b0 (Wh h1 (Wi rfl (ln (CI k rfl (λp5 k=>?_) (λp5 k=>?_)))))))
  ·refine kn (bg (Wh b0 (Wh h1 (Wi rfl (V (oG (k':=.i64) (a:=(wi0 .i64 (g+N))) dn dl rfl) (V (A4 (a:=g5) (b:=1) rfl rfl dc) (V (oG (k':=.u64) (a:=(Int.fdiv g5 (2 ^ min (Int.toNat 1) (IntKind.bits .u64)))) dl dn rfl) (Wa (ln (kM ?_))))))))))
   replace d:=d.drew
   have n:=d.has.kA (Kr Sn)
   refine lU n li (X 0 rfl n (kD c7) (X 1 rfl n (kD c0) (X 2 rfl n (kD h2) (X 3 rfl n (kD rfl) (X 4 rfl n (lY rfl rfl rfl) (bS k λn8 f7 k=>XQ 5 rfl n (lI (i:=(wi0 .i64 ((wi0 .i64 (c9-1))-g6))) (x0:=n8) cH cC rfl rfl H (kW f7) (kO f7)) (λag r4=>XH 6 rfl n (λ_ L=>kB rfl (na L (λp O=>(Ml O)) H lV r4 (kO f7) fb cC)) (X 7 rfl n (kD c0) (X 8 rfl n (kD rfl) (bS k λn9 f8 k=>XQ 9 rfl n (lI (i:=(wi0 .i64 a3)) (x0:=n9) cH cC rfl rfl H (kW f8) (kO f8)) (λah r5=>XH 10 rfl n (λ_ L=>kB rfl (na L (λp O=>(Ml O)) H lV r5 (kO f8) fb cC)) (bS k λaj r7 k=>?_))))))))))))
   refine XE 11 rfl (DL (n8,n9) d c4 (lx.refl _) rfl (qT rfl rfl) r7 (λz5 d=>?_))
   have n:=d.has.kA (Kr Sn)
   refine ⟨n,(X 12 rfl n (lY rfl rfl rfl) (X 13 rfl n (oF rfl) (lX kr (kL (CI k rfl (λp6 k=>?_) (λp6 k=>?_))))))⟩
   ·exact kK (Wm (Wi rfl (Wa (lu (lG (kL ⟨n0,aQ _,(wi0 .i64 (g6+1)),N,_,(d.kA St),c0,d4,c1,d5,c7,d6,g9,rfl,h1,h2,k⟩))))))
   exact kK (Wm (Wa (lu (lG (kL ⟨n0,aQ _,g,g6,_,(d.kA St),c0,d4,c1,d5,c7,d6,g9,b0,rfl,h2,k⟩)))))
  refine mX (mD (mD (pE (kL (sg (Wh g9 (Wh b0 (Wi rfl (Wa (ln (kM (CJ k (λn4 E W=>∃b6 c2 l0,lx μ0 c2∧ST false (keys (c++[])) w W c2 (b6++l0)∧E 0=t∧E 1=(.int .i64 D)∧E 3=(.int .i64 G)∧E 4=I∧E 18=(.int .i64 a1)∧E 20=(.int .i64 g)∧E 24=(.int .i64 a2)∧lh 197 kG 4 t n4 b6) (λn4 q7=>?_) ?_))))))))))))
  ·refine sg (Wh b0 (Wh c1 (Wi rfl (Wm (LJ q7 (λn5 E W=>∃l4,ST false (keys (c++[])) w W μ0 (c++l4)∧E 0=t∧E 1=(.int .i64 D)∧E 2=(.int .i64 Q)∧E 3=(.int .i64 G)∧E 4=I∧E 18=(.int .i64 a1)∧E 20=(.int .i64 g)∧E 24=(.int .i64 a2)∧E 185=(.bool n5)) 4 ?_ (λn5 b4 g2=>?_))))))
   ·rintro au E W ⟨l4,d,i0,m5,v1,m6,i1,m7,i2,i3,v2⟩ a5
    refine ln (CI a5 v2 (λp9 a5=>?_) (λp9 a5=>?_))
    ·refine kK (Wh i0 (Wh i2 (Wh v1 (Wh i3 (Wh i1 (bS a5 λam s0 a5=>?_))))))
     refine VE (eM d (Cr Qz Cn) call327 (λhh aE=>mi.nx (Ds t a0 c g Q a2 I f4 _ _ hh H (c4.mono aE) s0)) ?_)
     rintro _ ap x8 z0 d o2 bq R ⟨t3,e9,rfl,s5⟩
     obtain rfl:=e9.symm
     replace d:=d.perm (Tr Tn)
     refine ln ?_
     obtain rfl:=sj a5
     exact ⟨t3,x8,_,o2,(d.kA St),i0,m5,m6,i1,m7,i2,i3,s5⟩
    refine kn ?_
    obtain rfl:=sj a5
    exact ⟨c,μ0,_,(lx.refl _),(d.kA St),i0,m5,m6,i1,m7,i2,i3,H⟩
   refine bC b4 (λM b4=>?_) (λM b4=>?_)
   ·refine ug M (kD c1) (ug M (kD rfl) (ug M (lY rfl rfl rfl) (V (lK (cB M) rfl) ?_)))
    obtain rfl:=sj b4
    exact g2 _ _ ⟨_,(d.kA St),c0,d4,c1,d5,c7,d6,b0,rfl,rfl⟩
   refine un M (un M (un M (V (lN (cB M) rfl) ?_)))
   obtain rfl:=sj b4
   exact g2 _ _ ⟨_,(d.kA St),c0,d4,c1,d5,c7,d6,b0,rfl,rfl⟩
  rintro w8 E W ⟨b6,c2,l0,f9,d,l7,h3,l8,l9,h4,d7,m0,k0⟩ q4
  refine kM (CJ q4 (λn2 E W=>∃b7 e2 l1,lx c2 e2∧ST false (keys (c++[])) w W e2 (b7++l1)∧E 0=t∧E 3=(.int .i64 G)∧E 4=I∧E 18=(.int .i64 a1)∧E 24=(.int .i64 a2)∧lh 197 kG 4 t n2 b7) (λn2 q6=>?_) ?_)
  ·refine sg (Wh h3 (Wh d7 (Wi rfl (Wm (LJ q6 (λn3 E W=>∃l3,ST false (keys (c++[])) w W c2 (b6++l3)∧E 0=t∧E 1=(.int .i64 D)∧E 3=(.int .i64 G)∧E 4=I∧E 18=(.int .i64 a1)∧E 20=(.int .i64 g)∧E 24=(.int .i64 a2)∧E 199=(.bool n3)) 4 ?_ (λn3 b3 g1=>?_))))))
   ·rintro ar E W ⟨l3,d,h7,u8,m3,h8,h9,u9,m4,v0⟩ a4
    refine ln (CI a4 v0 (λp8 a4=>?_) (λp8 a4=>?_))
    ·refine kK (Wh h7 (Wh u8 (Wh u9 (Wh h9 (Wh h8 (bS a4 λal r9 a4=>?_))))))
     refine VE (eM d (Cr Qz Cn) call272 (λhh aE=>(s1 t w8 b6 D g a1 I f4 _ _ hh k0 (c4.mono (f9.trans aE)) r9)) ?_)
     rintro _ ao x7 y9 d o1 bp R ⟨t2,e8,rfl,s4⟩
     obtain rfl:=e8.symm
     replace d:=d.perm (Tr Tn)
     refine ln ?_
     obtain rfl:=sj a4
     exact ⟨t2,x7,_,o1,(d.kA St),h7,m3,h8,h9,m4,s4⟩
    refine kn ?_
    obtain rfl:=sj a4
    exact ⟨b6,c2,_,(lx.refl _),(d.kA St),h7,m3,h8,h9,m4,k0⟩
   refine bC b3 (λK b3=>?_) (λK b3=>?_)
   ·refine ug K (kD d7) (ug K (kD h4) (ug K (lY rfl rfl rfl) (V (lK (cB K) rfl) ?_)))
    obtain rfl:=sj b3
    exact g1 _ _ ⟨_,(d.kA St),l7,h3,l8,l9,h4,d7,m0,rfl⟩
   refine un K (un K (un K (V (lN (cB K) rfl) ?_)))
   obtain rfl:=sj b3
   exact g1 _ _ ⟨_,(d.kA St),l7,h3,l8,l9,h4,d7,m0,rfl⟩
  rintro w9 E W ⟨b7,e2,l1,o0,d,m1,h5,m2,h6,d8,k1⟩ q5
  refine sg (Wh h6 (Wh d8 (Wi rfl (Wm (LJ q5 (λn1 E W=>∃l2,ST false (keys (c++[])) w W e2 (b7++l2)∧E 0=t∧E 3=(.int .i64 G)∧E 4=I∧E 18=(.int .i64 a1)∧E 24=(.int .i64 a2)∧E 213=(.bool n1)) 4 ?_ (λn1 b2 g0=>?_))))))
  ·rintro aq E W ⟨l2,d,u2,u3,u4,u5,u6,u7⟩ Z
   refine ln (CI Z u7 (λp7 Z=>?_) (λp7 Z=>?_))
   ·refine kK (Wh u2 (Wh u5 (Wh u6 (Wh u3 (Wh u4 (bS Z λak r8 Z=>?_))))))
    refine VE (eM d (Cr Qz Cn) call272 (λhh aE=>(s1 t w9 b7 a1 a2 G I f4 _ _ hh k1 (c4.mono ((f9.trans o0).trans aE)) r8)) ?_)
    rintro _ an av y8 d y5 bl R ⟨t1,e7,rfl,s3⟩
    obtain rfl:=e7.symm
    replace d:=d.perm (Tr Tn)
    refine lu (pc ?_)
    obtain rfl:=sj Z
    exact nY rfl ⟨_,_,rfl,(d.nK (Kr Sn)),t1,rfl,rfl,s3⟩
   refine nf (pc ?_)
   obtain rfl:=sj Z
   exact nY rfl ⟨_,_,rfl,(d.nK (Kr Sn)),b7,rfl,rfl,k1⟩
  refine bC b2 (λJ b2=>?_) (λJ b2=>?_)
  ·refine ug J (kD d8) (ug J (kD h5) (ug J (lY rfl rfl rfl) (V (lK (cB J) rfl) ?_)))
   obtain rfl:=sj b2
   exact g0 _ _ ⟨_,(d.kA St),m1,h5,m2,h6,d8,rfl⟩
  refine un J (un J (un J (V (lN (cB J) rfl) ?_)))
  obtain rfl:=sj b2
  exact g0 _ _ ⟨_,(d.kA St),m1,h5,m2,h6,d8,rfl⟩
theorem uu:∀(n:Nat) (c:Value) (j:List kx) (a:LO) (k:Int) (t:Int) (u:Int) (g:Value) (y:(kx×kx)→Option Int) (r:List kx) (w:World) {z:lE} (H:pn z (a++[]) w) (D:lh 197 kG 4 c j a) (G:sI pg0 g z (λ(x:(kx×kx))=>[(.agg (kG x.1).toArray),(.agg (kG x.2).toArray)]) (λ(r:Int)=>(.int .i64 r)) y) (_:pp n j k t u y=some r),
  mi false pg0 272 [c,(.int .i64 k),(.int .i64 t),(.int .i64 u),g] w (a++[]) (λv B W'=>∃i,v=(.tuple #[])∧B=(i++[])∧lh 197 kG 4 c r i)
 | 0=>by intros; rename_i h; simp only [pp] at h; cases h
 | n+1=>AS (pp n) (uu n)
theorem DC (a:Value) (a0:List kx) (u:LO) (M:Int) (t:Value) (f2:(kx×kx)→Option Int) (r:List kx) (w:World) {μ0:lE} (h0:pn μ0 (u++[]) w) (k4:lh 197 kG 4 a a0 u) (c4:sI pg0 t μ0 (λ(x:(kx×kx))=>[(.agg (kG x.1).toArray),(.agg (kG x.2).toArray)]) (λ(r:Int)=>(.int .i64 r)) f2) (hm:uV a0 M f2=some r) :
  mi false pg0 214 [a,(.int .i64 M),t] w (u++[]) (λv L1 W'=>∃S1,v=(.tuple #[])∧L1=(S1++[])∧lh 197 kG 4 a r S1):=by
 refine xq h0 63 func214 rfl (λd=>sg (Wa (lr (Wm (Wa (Wa (ln (kM (ma (nn (λm E W=>∃d2 O d3 L h2 f0,lx μ0 h2∧ST false (keys (u++[])) w W h2 (O++f0)∧E 0=a∧E 1=(.int .i64 M)∧E 2=t∧E 6=(.int .i64 20)∧E 7=(.int .i64 d3)∧E 8=(.int .i64 L)∧lh 197 kG 4 a d2 O∧qc M f2 m d2 d3 L=some r) kY ⟨a0,u,0,20,μ0,_,(lx.refl _),(d.kA St),rfl,rfl,rfl,rfl,rfl,rfl,k4,hm⟩ ?_))))))))))
 rintro m E W ⟨d2,O,d3,L,h2,f0,y,d,P,R,b3,d4,f3,b4,g8,g⟩
 cases m with
 | zero=>rw [qc] at g; cases g
 | succ k5=>
  refine kM (sg (Wh b4 (Wh R (Wi rfl (ln (CI g rfl (λi3 g=>?_) (λi3 g=>?_)))))))
  ·refine kn (bg (Wh P (Wh f3 (Wh b4 (Wh b3 (bS g λk6 i6 g=>?_))))))
   refine VE (eM d (Cr Qz Cn) call271 (λA p=>(vP a d2 O d3 L t f2 _ _ A g8 (c4.mono (y.trans p)) i6)) ?_)
   rintro _ m5 k8 l9 d f9 ab n ⟨k1,c5,rfl,i9⟩
   obtain rfl:=c5.symm
   replace d:=d.perm (Tr Tn)
   refine lr (Wh b4 (Wa (ln (kK (Wh b4 (Wh d4 (Wi rfl (Wa (lu (lG ?_))))))))))
   exact kL ⟨k5,aQ _,k6,k1,L,(wi0 .i64 (L+20)),k8,_,(y.trans f9),(d.kA St),P,R,b3,d4,rfl,rfl,i9,g⟩
  refine mX (mD (mD (pE (kL (sg (Wh P (Wh f3 (Wh R (Wh b3 (bS g λk7 i7 g=>?_))))))))))
  refine VE (eM d (Cr Qz Cn) call271 (λA p=>(vP a d2 O d3 M t f2 _ _ A g8 (c4.mono (y.trans p)) i7)) ?_)
  rintro _ m6 d6 m0 d c9 ad n ⟨k2,c6,rfl,j0⟩
  obtain rfl:=c6.symm
  replace d:=d.perm (Tr Tn)
  refine ln (sW (CJ g (λd5 E W=>∃a9 d7 f1,lx d6 d7∧ST false (keys (u++[])) w W d7 (a9++f1)∧lh 197 kG 4 a d5 a9) (λd5 i5=>?_) ?_))
  ·refine ma (nn (λm E W=>∃c7 a4 j D d8,lx d6 D∧ST false (keys (u++[])) w W D (a4++d8)∧E 0=a∧E 1=(.int .i64 M)∧E 2=t∧E 6=(.int .i64 j)∧lh 197 kG 4 a c7 a4∧ph M f2 m c7 j=some d5) kY ⟨k7,k2,20,d6,_,(lx.refl _),(d.kA St),P,R,b3,d4,j0,i5⟩ ?_)
   rintro m E W ⟨c7,a4,j,D,d8,z,d,h5,e2,h6,b0,e4,i⟩
   cases m with
   | zero=>rw [ph] at i; cases i
   | succ j5=>
    refine kM (sg (Wh b0 (Wh e2 (Wi rfl (ln (CI i rfl (λf6 i=>?_) (λf6 i=>?_)))))))
    ·refine kn (bg (Wh b0 (Wi rfl (Wa (Wa (ln (kM (CJ i (λZ E W=>∃G J d9,lx D J∧ST false (keys (u++[])) w W J (G++d9)∧E 0=a∧E 1=(.int .i64 M)∧E 2=t∧E 6=(.int .i64 j)∧E 7=(.int .i64 Z.2)∧lh 197 kG 4 a Z.1 G) (λZ g2=>?_) ?_))))))))
     ·refine ma (nn (λm E W=>∃Y H I B a3 e1,lx D a3∧ST false (keys (u++[])) w W a3 (H++e1)∧E 0=a∧E 1=(.int .i64 M)∧E 2=t∧E 6=(.int .i64 j)∧E 7=(.int .i64 I)∧E 8=(.int .i64 B)∧lh 197 kG 4 a Y H∧rr M j f2 m Y I B=some Z) kY ⟨c7,a4,0,(wi0 .i64 (2*j)),D,_,(lx.refl _),(d.kA St),h5,e2,h6,b0,rfl,rfl,e4,g2⟩ ?_)
      rintro m E W ⟨Y,H,I,B,a3,e1,K,d,b9,c0,c1,T,c2,U,d1,c⟩
      cases m with
      | zero=>rw [rr] at c; cases c
      | succ j6=>
       refine kM (sg (Wh U (Wh c0 (Wi rfl (ln (CI c rfl (λf8 c=>?_) (λf8 c=>?_)))))))
       ·refine kn (bg (Wh b9 (Wh c2 (Wh c2 (Wh T (Wi rfl (Wh U (Wh c1 (bS c λj7 g4 c=>?_)))))))))
        refine VE (eM d (Cr Qz Cn) call272 (λA p=>((uu kY) a Y H I (wi0 .i64 (I+j)) B t f2 _ _ A d1 (c4.mono ((((y.trans c9).trans z).trans K).trans p)) g4)) ?_)
        rintro _ l7 k0 l2 d e9 aa n ⟨h4,a6,rfl,h1⟩
        obtain rfl:=a6.symm
        replace d:=d.perm (Tr Tn)
        refine lr (Wh U (Wa (ln (kK (Wh U (Wh T (Wi rfl (Wi rfl (Wa (lu ?_))))))))))
        exact lG (kL ⟨j6,aQ _,j7,h4,B,(wi0 .i64 (B+(wi0 .i64 (2*j)))),k0,_,(K.trans e9),(d.kA St),b9,c0,c1,T,rfl,rfl,h1,c⟩)
       refine mX (mD (mD (pE (kL ?_))))
       obtain rfl:=sj c
       exact ⟨H,a3,_,K,(d.kA St),b9,c0,c1,T,c2,d1⟩
     rintro ⟨j3,e6⟩ E W ⟨G,J,d9,a7,d,b5,Q,b6,b7,e3,d0⟩ g0
     refine kM (CJ g0 (λe5 E W=>∃N a2 e0,lx J a2∧ST false (keys (u++[])) w W a2 (N++e0)∧E 0=a∧E 1=(.int .i64 M)∧E 2=t∧E 6=(.int .i64 j)∧lh 197 kG 4 a e5 N) (λe5 k=>?_) ?_)
     ·refine sg (Wh e3 (Wh b7 (Wi rfl (Wa (lr (Wm (Wh Q (Wi rfl (ln ?_)))))))))
      refine CI k rfl (λf7 k=>?_) (λf7 k=>?_)
      ·refine kK (Wh b5 (Wh e3 (Wm (Wh Q (Wh b6 (bS k λl5 g3 k=>?_))))))
       refine VE (eM d (Cr Qz Cn) call272 (λA p=>((uu kY) a j3 G e6 (wi0 .i64 (e6+j)) M t f2 _ _ A d0 (c4.mono ((((y.trans c9).trans z).trans a7).trans p)) g3)) ?_)
       rintro _ l6 j9 l1 d e8 a1 n ⟨h3,a5,rfl,g9⟩
       obtain rfl:=a5.symm
       replace d:=d.perm (Tr Tn)
       refine ln ?_
       obtain rfl:=sj k
       exact ⟨h3,j9,_,e8,(d.kA St),b5,Q,b6,b7,g9⟩
      refine kn ?_
      obtain rfl:=sj k
      exact ⟨G,J,_,(lx.refl _),(d.kA St),b5,Q,b6,b7,d0⟩
     rintro j4 E W ⟨N,a2,e0,e7,d,h7,h8,h9,i0,g7⟩ g1
     exact kK (Wh i0 (Wi rfl (Wa (lu (lG (kL ⟨j5,aQ _,j4,N,(wi0 .i64 (j*2)),a2,_,((z.trans a7).trans e7),(d.kA St),h7,h8,h9,rfl,g7,g1⟩))))))
    refine mX (mD (mD (pE (kL ?_))))
    obtain rfl:=sj i
    exact ⟨a4,D,_,z,(d.kA St),e4⟩
  rintro m4 E W ⟨a9,d7,f1,l0,d,i8⟩ i4
  refine pc ?_
  obtain rfl:=sj i4
  exact nY rfl ⟨_,_,rfl,(d.nK (Kr Sn)),a9,rfl,rfl,i8⟩
theorem xo (c:Value) (k:List kx) (a:LO) (i:Value) (t:(kx×kx)→Option Int) (r:List kx) (w:World) {H:lE} (J:pn H (a++[]) w) (j:lh 197 kG 4 c k a) (u:sI pg0 i H (λ(x:(kx×kx))=>[(.agg (kG x.1).toArray),(.agg (kG x.2).toArray)]) (λ(r:Int)=>(.int .i64 r)) t) (hm:oO k t=some r) :
  mi false pg0 153 [c,i] w (a++[]) (λv I W'=>∃z,v=(.tuple #[])∧I=(z++[])∧lh 197 kG 4 c r z):=by
 refine xq J 9 func153 rfl (λd=>kK (Wm (Wm (V (tI cH rfl j) (Wm (bS hm λQ G hm=>?_))))))
 refine VE (eM d (Cr Qz Cn) call214 (λA p=>(DC c k a (k.length:Int) i t _ _ A j (u.mono p) G)) ?_)
 rintro _ T U M d K E n ⟨B,g,rfl,y⟩
 obtain rfl:=g.symm
 replace d:=d.perm (Tr Tn)
 refine lu (pc ?_)
 obtain rfl:=sj hm
 exact nY rfl ⟨_,_,rfl,(d.nK (Kr Sn)),B,rfl,rfl,y⟩
theorem GM (c g:kx) (i:Nat) (a:Value) (j:(ku×ku)→Option Int) (r:Int) (w:World) (t:sI pg0 a (hp w) (λ(x:(ku×ku))=>[(.agg (kJ x.1).toArray),(.agg (kJ x.2).toArray)]) (λ(r:Int)=>(.int .i64 r)) j) (k:At (hp w) (.pointer (some ⟨i,0,none⟩)) [a]) (hm:vn c g j=some r) :
  lC false pg0 154 [(.agg (kG c).toArray),(.agg (kG g).toArray),(.pointer (some ⟨i,0,none⟩))] w (.int .i64 r):=by
 refine cG 12 func154 rfl (λd=>sg (VE (lM d rfl (λz G d=>VE (lM d rfl (λB H d=>Wa (lr (V (kB rfl (sJ d.has (y:=a) k isAgg140)) (Wf Q4 (VA d (Mt Mh) (kJ c.key) bZ bF (Wf Q4 (VA d Mh (kJ g.key) bZ bF ?_))))))))))))
 refine bS hm λI u hm=>VE (DL (c.key,g.key) d t (lx.refl _) rfl (qT rfl rfl) u (λD d=>Wa (ln ?_)))
 exact lJ (rQ hm d)
theorem Io (t:Value) (a0:List kx) (j:LO) (U:Value) (Y:(ku×ku)→Option Int) (r:(ByteArray×(List kx))) (w:World) {μ0:lE} (h0:pn μ0 (j++[]) w) (c1:lh 197 kG 4 t a0 j) (Q:sI pg0 U μ0 (λ(x:(ku×ku))=>[(.agg (kJ x.1).toArray),(.agg (kJ x.2).toArray)]) (λ(r:Int)=>(.int .i64 r)) Y) (hm:xk a0 Y=some r) :
  mi false pg0 82 [t,U] w (j++[]) (λv L1 W'=>∃S1,v=(.string (r.1))∧L1=(S1++[])∧lh 197 kG 4 t r.2 S1):=by
 refine xq h0 27 func82 rfl (λd=>sg ?_)
 obtain ⟨ab,ad,ae,rfl⟩:=Q.form
 refine VE (lM d rfl (λW5 b4 d=>Wa (lr (Wm (V (qR (by exact pR rfl) rfl) (bS hm λR d0 hm=>?_))))))
 refine VE (Df d (Cr (Qb Qz) Cn) call153 (λhH O L A=>(xo t a0 j (.func (.func 154) #[] #[(.pointer (some ⟨b4,0,none⟩))]) (λ(x:(kx×kx))=>vn x.1 x.2 Y) _ _ ⟨hH,O,lx.refl _⟩ c1 ⟨154,#[],#[(.pointer (some ⟨b4,0,none⟩))],rfl,call154,λW x r hs hm=>GM x.1 x.2 b4 (.func ab ad ae) Y r W (Q.mono (L.trans hs)) (At.of (hs _ _ (A _ _ Mh)) _ rfl) hm⟩ d0)) (λW8 f4 P f2 d d3 ah n b9=>?_))
 obtain ⟨b3,K,rfl,k⟩:=b9
 replace K:=K.symm; subst K
 replace d:=d.perm (Tr Tn)
 refine ln ?_
 replace d:=d.kA (Kr (Db St))
 refine sg (VE (Lj (e:=5) d zeroValue93 (λf3 N c7 d c0=>lS (Wm (V (tI cH rfl k) (Wm (ln (mV (λi E W=>∃g c G I,(E 13= .int .i64 (i:Nat)∧E 12= .int .i64 (R.length:Nat))∧lx P G∧ST false (keys (j++[])) w W G (c++(b3++I))∧E 5=N∧E 11=t∧MY 93 5 N g c∧pL R (R.drop i) g=some r) R.length k.len ⟨zS,c7,P,_,⟨rfl,rfl⟩,(lx.refl _),(d.kA St),rfl,rfl,c0,hm⟩ dc dc dc (λ_ _ _ h=>by obtain ⟨_,_,_,_,aa,_⟩:=h; exact aa) ?_ ?_))))))))
 ·rintro c2 E W a2 ⟨g,c,G,I,⟨eI,eN⟩,H,d,u,J,y,a⟩
  obtain ⟨D,d4,a9,M,b0⟩:=mC a2
  rw [a9] at a
  rw [pL] at a
  refine bg (VQ (lI (i:=(c2:Int)) (x0:=D) cH cC J eI k (aX _) M) (λe4 a3=>V (kB rfl (na d.has (λp hq=>(Ma (Ml hq))) k lV a3 M fb cC)) (VE (ml d gD (λd8 e2 d=>VO (lA (.agg (kG D).toArray) ((kG D).toArray) d rfl rfl cC (oR D) nb rfl (λd9 d=>ln (kK (Wf Yf (VB d Mh rfl rfl cN (bS a λe5 a6 a=>V (pP rfl rfl a6) (Wf Yq ?_))))))))))))
  refine VB d Mh rfl rfl cN (bS a λe6 a7 a=>V (pP rfl rfl a7) (bS a λc5 a8 a=>V (pP rfl rfl a8) (bS a λc3 a4 a=>?_)))
  refine VE (Df d (Cr (Qb Qz) Cn) call49 (λhH O L A=>mi.nx (L4 N g c c5 _ _ ⟨hH,O,lx.refl _⟩ y a4)) (λe0 e7 c6 d6 d T af n Z=>?_) (ha:=Zr u rfl))
  obtain ⟨e9,b5,z,rfl,b1⟩:=Z
  replace z:=z.symm; subst z
  replace d:=d.perm (Tr Tn)
  refine lu (lG (kL ?_))
  replace d:=d.kA (Kr (Db St))
  exact ⟨eI,c3,b5,c6,_,⟨rfl,eN⟩,(H.trans T),(d.kA St),u,J,b1,(by rw [b0]; exact a)⟩
 rintro E W ⟨g,c,G,I,⟨eI,eN⟩,H,d,u,J,y,a⟩
 rw [bo] at a
 rw [pL] at a
 refine kL (sg (bS a λc4 a5 a=>?_))
 refine VE (Df d (Cr Qz Cn) call51 (λhH O L A=>mi.nx (Ka N g c _ _ ⟨hH,O,lx.refl _⟩ y a5)) (λe1 e8 f0 d7 d c9 ag n a1=>?_) (ha:=XD u))
 obtain ⟨B,rfl⟩:=a1
 replace B:=B.symm; subst B
 replace d:=d.perm Tn
 refine Wa (lt ?_)
 obtain rfl:=sj a
 exact nC (v:=(.string c4)) rfl rfl ⟨_,_,rfl,(d.nK (Kr Sn)),b3,rfl,rfl,k⟩
theorem AO (z:lB) (i u:Value) (B:lB) (j y:Value) (r:ByteArray) (w:World) (c:Sl kX 15 (hp w) i z.kE) (k:Sl lH 8 (hp w) u z.kQ) (g:Sl kX 15 (hp w) j B.kE) (t:Sl lH 8 (hp w) y B.kQ) (hm:qe z B=some r) :
  lC false pg0 27 [(.agg #[(.string z.Name),i,u]),(.agg #[(.string B.Name),j,y])] w (.string r):=by
 refine cG 22 func27 rfl (λd=>sg ?_)
 obtain ⟨A1,c2,rfl⟩:=c.form
 obtain ⟨A3,c4,rfl⟩:=k.form
 refine VE (lM d rfl (λW6 b5 d=>?_))
 obtain ⟨A7,c8,rfl⟩:=g.form
 obtain ⟨A9,M,rfl⟩:=t.form
 refine VE (lM d rfl (λd2 d7 d=>Wa (lr (Wf uh (VB d (Mt Mh) rfl rfl gE (Wf uh (VB d Mh rfl rfl gE (bS hm λb4 Y hm=>VE (Ct d call69 (G0 (.slice A1 z.kE.length c2) z.kE (.slice A7 B.kE.length c8) B.kE (.func (.func 70) #[] #[]) (λ(x:kU)=>pe x) (.func (.func 71) #[] #[]) (λ(x:(kU×kU))=>qC x.1 x.2) (.func (.func 73) #[] #[]) (λ(x:kU)=>pY x) _ _ (c.mono kZ.mono d.kC) (g.mono kZ.mono d.kC) ⟨70,#[],#[],rfl,call70,λW x vs r E n hm=>by obtain ⟨_,rfl,a⟩:=n; obtain ⟨D,G,rfl,p,v⟩:=a.out; exact (JM x D G r W p v hm).nx⟩ ⟨71,#[],#[],rfl,call71,λW x vs r E n hm=>by obtain ⟨_,_,rfl,a,K⟩:=n; obtain ⟨D,G,rfl,p,v⟩:=a.out; obtain ⟨t0,t1,rfl,O,j1⟩:=K.out; exact JO x.1 D G x.2 t0 t1 r W p v O j1 hm⟩ ⟨73,#[],#[],rfl,call73,λW x vs r E n hm=>by obtain ⟨_,rfl,a⟩:=n; obtain ⟨D,G,rfl,p,v⟩:=a.out; exact (JP x D G r W p v hm).nx⟩ Y) (λd3 b7 e3 a9 d J P T=>Wa (ln ?_)))))))))))
 refine sg (Wf Fz (VB d (Ma (Mt Mh)) rfl rfl ko (Wf Fz (VB d (Ma Mh) rfl rfl ko (bS hm λb6 Z hm=>VE (Ct d call75 (G5 (.slice A3 z.kQ.length c4) z.kQ (.slice A9 B.kQ.length M) B.kQ (.func (.func 76) #[] #[]) (λ(x:mr)=>pd x) (.func (.func 77) #[] #[]) (λ(x:(mr×mr))=>qy x.1 x.2) (.func (.func 78) #[] #[]) (λ(x:mr)=>pZ x) _ _ (k.mono mB.mono (J.trans d.kC)) (t.mono mB.mono (J.trans d.kC)) ⟨76,#[],#[],rfl,call76,λW x vs r E n hm=>by obtain ⟨_,rfl,a⟩:=n; obtain ⟨D,G,rfl,p,v⟩:=a.out; exact (JU x D G r W p v hm).nx⟩ ⟨77,#[],#[],rfl,call77,λW x vs r E n hm=>by obtain ⟨_,_,rfl,a,K⟩:=n; obtain ⟨D,G,rfl,p,v⟩:=a.out; obtain ⟨t0,t1,rfl,O,j1⟩:=K.out; exact JR x.1 D G x.2 t0 t1 r W p v O j1 hm⟩ ⟨78,#[],#[],rfl,call78,λW x vs r E n hm=>by obtain ⟨_,rfl,a⟩:=n; obtain ⟨D,G,rfl,p,v⟩:=a.out; exact (JT x D G r W p v hm).nx⟩ Z) (λd4 b9 e4 b0 d c0 Q U=>Wa (ln ?_))))))))
 replace d:=d.kA (Kr (Kr (Db (Db St))))
 refine sg (Wm (bS hm λd8 a2 hm=>?_))
 refine VE (eM d (Cr (Qr Qz) Cn) call80 (λL _=>(Ip b7 b4 a9 (.func (.func 81) #[] #[]) (λ(x:(kv×kv))=>px x.1 x.2) _ _ L T ⟨81,#[],#[],rfl,call81,λW x r E hm=>(G1 x.1 x.2 r W  hm).nx⟩ a2)) ?_)
 rintro _ e1 e5 c7 d c1 R A ⟨d0,H,rfl,c5⟩
 obtain rfl:=H.symm
 replace d:=d.perm (Tr Tn)
 refine Wm (bS hm λd9 a3 hm=>?_)
 refine VE (eM d (Cr (Qr Qz) Cn) call82 (λL _=>(Io b9 b6 b0 (.func (.func 83) #[] #[]) (λ(x:(ku×ku))=>ov x.1 x.2) _ _ L U ⟨83,#[],#[],rfl,call83,λW x r E hm=>(Dn x.1 x.2 r W  hm).nx⟩ a3)) ?_)
 rintro _ e2 e6 c9 d c3 a1 A ⟨d1,I,rfl,c6⟩
 obtain rfl:=I.symm
 replace d:=d.perm (Tr Tn)
 refine bS hm λe0 a4 hm=>V (pP rfl rfl a4) (Wa (ln ?_))
 exact lJ (rQ hm d)
theorem H3 (Y:ByteArray) (u:lB) (k z:Value) (g:lB) (t B:Value) (r:ByteArray) (w:World) (i:Sl kX 15 (hp w) k u.kE) (x:Sl lH 8 (hp w) z u.kQ) (j:Sl kX 15 (hp w) t g.kE) (y:Sl lH 8 (hp w) B g.kQ) (hm:ze Y u g=some r) :
  lC false pg0 60 [(.string Y),(.agg #[(.string u.Name),k,z]),(.agg #[(.string g.Name),t,B])] w (.string r):=by
 refine cG 28 func60 rfl (λd=>sg ?_)
 obtain ⟨T,Z,rfl⟩:=i.form
 obtain ⟨U,n,rfl⟩:=x.form
 refine VE (lM d rfl (λW6 b5 d=>?_))
 obtain ⟨I,K,rfl⟩:=j.form
 obtain ⟨J,G,rfl⟩:=y.form
 let a0:=(C6 g.Name I g.kE.length K J g.kQ.length G)
 refine VE (lM d rfl (λb6 N d=>Wa (lr (VA d (Mt Mh) (C6 u.Name T u.kE.length Z U u.kQ.length n) dW dC (VA d Mh a0 dW dC (bS hm λb4 a5 hm=>VE (Eg d call27 (AO u (.slice T u.kE.length Z) (.slice U u.kQ.length n) g (.slice I g.kE.length K) (.slice J g.kQ.length G) _ _ (i.mono kZ.mono d.kC) (x.mono mB.mono d.kC) (j.mono kZ.mono d.kC) (y.mono mB.mono d.kC) a5) (λb7 d=>Wa (ln (kM (kM ?_)))))))))))
 refine kK (Wm (V (Gt rfl rfl rfl) (Wm (LJ hm (λQ E W=>∃M,ST false mN w W (hp w) ((N,Ol a0 25)::M)∧E 0=(.string Y)∧E 5=(.pointer (some ⟨N,0,none⟩))∧E 7=(.string b4)∧E 19=(.bool Q)) 6 ?_ (λQ D H=>?_)))))
 ·rintro c5 E W ⟨M,d,L,O,P,R⟩ c
  refine ln (CI c R (λa4 c=>?_) (λa4 c=>?_))
  ·refine sg (Wa (ln ?_))
   replace d:=d.kA (Db St)
   refine lJ (mL ?_)
   obtain rfl:=sj c
   exact rP d
  refine kg (Wh L (bS c λb9 p c=>V (pP rfl rfl p) (V (kN Ec O) (VB d Mh rfl rfl cN (bS c λc0 v c=>V (pP rfl rfl v) (bS c λc1 A c=>V (pP rfl rfl A) (Wh P (bS c λc3 a9 c=>?_))))))))
  refine V (pP rfl rfl a9) (Wa (ln ?_))
  exact lJ (rQ c d)
 refine bC D (λa D=>?_) (λa D=>?_)
 ·refine ug a (kN Ec rfl) (ug a (kB rfl (lg d.has (Mt Mh) rfl cN)) (ug a (kN Ec rfl) (ug a (kB rfl (lg d.has Mh rfl cN)) (ug a (Gt rfl rfl rfl) (V (lK (cB a) rfl) ?_)))))
  obtain rfl:=sj D
  exact H _ _ ⟨_,(d.kA (Kb (Db St))),rfl,rfl,rfl,rfl⟩
 refine un a (un a (un a (un a (un a (V (lN (cB a) rfl) ?_)))))
 obtain rfl:=sj D
 exact H _ _ ⟨_,(d.kA (Kb (Db St))),rfl,rfl,rfl,rfl⟩
theorem H0 (T:Formula→Int→Option (Int×Int)) (L:∀(t:Formula) (j:Value) (I:Int) (r:(Int×Int)) (w:World) (g:Sl kz 5 (hp w) j t.Kids),T t I=some r→lC false pg0 264 [(.agg #[(.int .i64 t.Op),(.int .i64 t.K),(.string t.ku.kw),(.string t.ku.Word),j]),(.int .i64 I)] w (.tuple #[(.int .i64 r.1),(.int .i64 r.2)])) (t:Formula) (j:Value) (I:Int) (r:(Int×Int)) (w:World) (g:Sl kz 5 (hp w) j t.Kids) (hm:yT T t I=some r) :
  lC false pg0 264 [(.agg #[(.int .i64 t.Op),(.int .i64 t.K),(.string t.ku.kw),(.string t.ku.Word),j]),(.int .i64 I)] w (.tuple #[(.int .i64 r.1),(.int .i64 r.2)]):=by
 refine cG 40 func264 rfl (λd=>sg ?_)
 obtain ⟨A1,c2,rfl⟩:=g.form
 refine VE (lM d rfl (λW4 b3 d=>Wa (Wa (lr (Wa (Wa (lS (Wf vA ?_))))))))
 refine VB d Mh rfl rfl fJ (V (nv aN rfl g) (Wm (ln ?_)))
 replace d:=d.kA (Db St)
 refine CJ hm (λQ E W=>∃a2,ST false mN w W (hp w) a2∧E 6=(.int .i64 Q.1)∧E 7=(.int .i64 Q.2)) (λQ a5=>?_) ?_
 ·refine mV (λi E W=>∃y z J,(E 15= .int .i64 (i:Nat)∧E 14= .int .i64 (t.Kids.length:Nat))∧ST false mN w W (hp w) J∧E 1=(.int .i64 I)∧E 6=(.int .i64 y)∧E 7=(.int .i64 z)∧E 13=(.slice A1 t.Kids.length c2)∧sf I T (t.Kids.drop i) y z=some Q) t.Kids.length g.len ⟨1,0,_,⟨rfl,rfl⟩,(d.kA St),rfl,rfl,rfl,rfl,a5⟩ dc dc dc (λ_ _ _ h=>by obtain ⟨_,_,_,p,_⟩:=h; exact p) ?_ ?_
  ·rintro b5 E W a3 ⟨y,z,J,⟨n,A⟩,d,G,x,H,K,a⟩
   obtain ⟨c,c6,P,O,a9⟩:=mC a3
   rw [P] at a
   refine bg (VQ (nN (i:=(b5:Int)) (x0:=c) kz.out aN aH K n g (aX _) O) (λc4 ⟨_,⟨c5,rfl,N⟩,Y⟩=>V (kB rfl (lL d.has Y bL aH)) (VE (ml d bR (λb9 c3 d=>?_)))))
   obtain ⟨B,D,rfl⟩:=N.form
   let a0:=(C2 c.Op c.K c.ku.kw c.ku.Word B c.Kids.length D)
   refine VO (lA (.agg a0.toArray) (a0.toArray) d rfl rfl aH oc nb rfl (λc0 d=>lS (Wh x (Wh G (Wi rfl (ln (CI a rfl (λU a=>?_) (λU a=>?_))))))))
   ·refine mX (mD (Z0 (by simp) (mD (pE (kL ?_)))))
    obtain rfl:=sj a
    exact ⟨_,(d.kA (Db St)),x,H⟩
   refine kg (VA d Mh a0 bL aH (Wh G (Wh x (Wi rfl (bS a λM Z a=>VE (Eg d call264 (L c (.slice B c.Kids.length D) (wi0 .i64 (I-y)) _ _ (N.mono kT.mono d.kC) Z) (λc1 d=>Wm (Wx rfl (Wx rfl (Wa (Wa ?_)))))))))))
   refine ln ?_
   replace d:=d.kA (Db St)
   exact kK (Wh x (Wm (Wi rfl (Wh H (Wm (V (ZR (k:=.i64) rfl rfl) (Wa (Wa (lu (lG (kL ⟨n,(wi0 .i64 (y+M.1)),(if M.2 > z then M.2 else z),_,⟨rfl,A⟩,(d.kA St),G,rfl,rfl,K,(by rw [a9]; exact a)⟩)))))))))))
  rintro E W ⟨y,z,J,⟨n,A⟩,d,G,x,H,K,a⟩
  rw [bo] at a
  refine kL ?_
  obtain rfl:=sj a
  exact ⟨_,(d.kA St),x,H⟩
 rintro ⟨b6,b7⟩ E W ⟨a2,d,R,b4⟩ a4
 refine sg (Wh R (Wh b4 (Wi rfl (Wa (Wa (lt ?_))))))
 obtain rfl:=sj a4
 exact IG (v:=(.int .i64 b6)) (u:=(.int .i64 (wi0 .i64 (b7+1)))) rfl rfl rfl ⟨rfl,d.ex⟩
theorem F3:∀(n:Nat) (c:Formula) (a:Value) (i:Int) (r:(Int×Int)) (w:World) (g:Sl kz 5 (hp w) a c.Kids) (_:qN n c i=some r),
  lC false pg0 264 [(.agg #[(.int .i64 c.Op),(.int .i64 c.K),(.string c.ku.kw),(.string c.ku.Word),a]),(.int .i64 i)] w (.tuple #[(.int .i64 r.1),(.int .i64 r.2)])
 | 0=>by intros; rename_i h; simp only [qN] at h; cases h
 | n+1=>H0 (qN n) (F3 n)
theorem M5 (a:Formula) (g:Value) (r:(Int×Int)) (w:World) (c:Sl kz 5 (hp w) g a.Kids) (hm:AU a=some r) :
  lC false pg0 201 [(.agg #[(.int .i64 a.Op),(.int .i64 a.K),(.string a.ku.kw),(.string a.ku.Word),g])] w (.tuple #[(.int .i64 r.1),(.int .i64 r.2)]):=by
 refine cG 15 func201 rfl (λd=>sg ?_)
 obtain ⟨i,j,rfl⟩:=c.form
 refine VE (lM d rfl (λy B d=>Wa (Wa (lr (VA d Mh (C2 a.Op a.K a.ku.kw a.ku.Word i a.Kids.length j) bL aH (bS hm λx t hm=>VE (Eg d call264 ((F3 kY) a (.slice i a.Kids.length j) 4096 _ _ (c.mono kT.mono d.kC) t) (λz d=>Wm (Wx rfl (Wx rfl (Wa (Wa ?_))))))))))))
 refine ln ?_
 replace d:=d.kA (Db St)
 refine kM (sg (Wm (Wi rfl (ln (CI hm rfl (λk hm=>?_) (λk hm=>?_))))))
 ·refine sg (Wa (Wa (lt (mL ?_))))
  obtain rfl:=sj hm
  exact IG (v:=(.int .i64 0)) (u:=(.int .i64 0)) rfl rfl rfl ⟨rfl,d.ex⟩
 refine kg (Wm (Wm (Wa (Wa (lt ?_)))))
 obtain rfl:=sj hm
 exact IG (v:=(.int .i64 x.1)) (u:=(.int .i64 x.2)) rfl rfl rfl ⟨rfl,d.ex⟩
end Go.Proofs.YtjjjihkifgdhgaaGreatDoor
