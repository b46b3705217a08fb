/- a part of a proof of AuditTells -/
import Derived.Test.YtlfibegniofmjaaGreatAV3Ma
import Derived.Test.YtlfibegniofmjaaGreatProg
set_option linter.all false
namespace Go.Proofs.YtlfibegniofmjaaGreat
open Go.IntKind renaming wrap → wi0
open Go.Proofs.Tryz renaming prog → pg0
open Go.RowKit
set_option maxRecDepth 10000
open Tryz
def aC:=@sizeOf62
def aD:=@underlying60
def aI:=@sizeOf53
def aK:=@sizeOf55
def aR:=@isAgg62
def aT:=@underlying49
def aU:=@zeroValue62
def aV:=@underlying43
def bD:=@underlying67
def bE:=@isAgg53
def bG:=@underlying9
def bH:=@isAgg3
def bK:=@isAgg55
def bM:=@underlying62
def bO:=@sizeOf57
def bU:=@isAgg9
def bV:=@underlying66
def cI:=@sizeOf69
def cJ:=@underlying5
def cM:=@underlying69
def cO:=@zeroValue55
def cR:=@zeroValue69
def cT:=@underlying27
def cU:=@zeroValue57
def cY:=@zeroValue53
def dl:=@underlying53
def dm:=@isAgg49
def dq:=@sizeOf71
def dr:=@underlying124
def dy:=@underlying55
def dF:=@zeroValue71
def dH:=@sizeOf3
def dJ:=@underlying39
def dK:=@underlying172
def dN:=@eqGuardType53
def dO:=@sizeOf171
def dT:=@underlying71
def dU:=@underlying23
def ed:=@underlying3
def ef:=@isAgg57
def ei:=@isAgg60
def ep:=@underlying57
def er:=@sizeOf9
def et:=@isAgg69
def ez:=@underlying35
def eE:=@underlying139
def eF:=@sizeOf64
def eH:=@sizeOf81
def eO:=@eqGuardType55
def eQ:=@sizeOf49
def eS:=@underlying22
def fc:=@sizeOf5
def fe:=@zeroValue171
def fg:=@underlying171
def fh:=@underlying213
def fi:=@underlying137
def fj:=@underlying209
def fl:=@zeroValue39
def fy:=@call84
def fG:=@sizeOf25
def fH:=@isAgg66
def fI:=@underlying189
def fP:=@sizeOf39
def fR:=@zeroValue64
def fS:=@underlying89
def fT:=@zeroValue5
def fU:=@zeroValue219
def fZ:=@underlying112
def ga:=@underlying203
def gb:=@underlying219
def gC:=@underlying64
def gD:=@underlying26
def gL:=@underlying135
def gN:=@isAgg25
def gO:=@isAgg71
def gQ:=@call82
def ij:=@underlying25
def iq:=@sizeOf51
def ir:=@isAgg67
def iu:=@call133
def iv:=@isAgg171
def iE:=@underlying198
def iI:=@zeroValue49
def iJ:=@isAgg209
def iK:=@zeroValue81
def iQ:=@isAgg4
def iX:=@underlying51
def iY:=@zeroValue139
def iZ:=@call132
def jM:=@zeroValue51
def jS:=@underlying224
def jT:=@underlying273
def jU:=@underlying191
def jV:=@underlying150
def kj:=@underlying74
def kk:=@zeroValue3
def kl:=@call118
def km:=@call69
def ko:=@isAgg64
def kp:=@zeroValue4
def kA:=@sizeOf30
def kB:=@zeroValue43
def kF:=@isAgg30
def kG:=@isAgg43
def kH:=@isAgg81
def kI:=@isAgg39
def kJ:=@call114
variable {q0 q1 q2 q3 q4 q5 q6 q7 q8 q9:Value} {qa:World} {qb:mc} {qc qd qe:Int} {qf qg qh qi qj:LO} {qk ql qm qn:Nat} {qo qp qq:List Int} {qr qs:List kK} {qt qu:Bool} {qv qw:List Formula} {qx qy:Formula} {qz qA:List kL} {qB:kK} {qC qD:ByteArray} {qE qF:List lx} {qG:mW} {qH qI:pd} {qJ:List (ByteArray×(List kK))} {qK:List (kL×(List (ByteArray×Bool)))} {qL:List (kL×(List kK))} {qM:List nJ} {qN:Option mN} {qO:lL} {qP qQ:kL} {qR:(Bool×(List Int))} {qS:List Key} {qT qU:List Signed} {qV:lj} {qW:Signed} {qX:(Formula×Int)} {qY:List sT} {qZ:(Formula×Formula)→Option Int}
abbrev K0:kL:=⟨zS,zS⟩
abbrev K1:ByteArray:=⟨#[109,101]⟩
abbrev K2:ByteArray:=⟨#[120]⟩
abbrev K3:ByteArray:=⟨#[121]⟩
abbrev K4:pg:=⟨0,1⟩
abbrev K5:mE:=⟨0⟩
abbrev K9:kK:=⟨0,K0,zS,K0,K0,zS⟩
abbrev K10:kL:=⟨K2,K3⟩
abbrev K11:Formula:=⟨3,0,K0,[]⟩
abbrev Yx:kK:=⟨1,K10,K1,K0,K0,zS⟩
abbrev C1 (a c:Int) (d g:ByteArray) (h:Option Addr) (i j:Nat):List Value:=[.int .i64 a,.int .i64 c,.string d,.string g,.slice h i j]
abbrev C2 (d:Int) (g h i j k n o p:ByteArray) (q:Option Addr) (a c:Nat):List Value:=[.int .i64 d,.string g,.string h,.string i,.string j,.string k,.string n,.string o,.string p,.slice q a c]
abbrev C3:List Value:=[.int .i64 0,.int .i64 0,.int .i64 0,.string zS,.slice none 0 0,.slice none 0 0]
abbrev C4 (a c d:Int) (g:ByteArray) (h:Option Addr) (i j:Nat) (k:Option Addr) (n o:Nat):List Value:=[.int .i64 a,.int .i64 c,.int .i64 d,.string g,.slice h i j,.slice k n o]
abbrev C5:List Value:=[.int .i64 0,.int .i64 0,.string zS,.string zS,.slice none 0 0]
abbrev C6 (o:Int) (p q s t u v w x:ByteArray) (y:Option Addr) (a c:Nat) (d g:Int) (h i:ByteArray) (j:Option Addr) (k n:Nat):List Value:=[.int .i64 o,.string p,.string q,.string s,.string t,.string u,.string v,.string w,.string x,.slice y a c,.int .i64 d,.int .i64 g,.string h,.string i,.slice j k n]
abbrev C7:List Value:=[.int .i64 0,.string K0.kO,.string K0.Word,.string zS,.string K0.kO,.string K0.Word,.string K0.kO,.string K0.Word,.string zS,.slice none 0 0]
abbrev C8 (a:ByteArray) (c:Option Addr) (d g:Nat) (h:Option Addr) (i j:Nat):List Value:=[.string a,.slice c d g,.slice h i j]
abbrev C9 (d g:ByteArray) (h i:Int) (j k:ByteArray) (n:Option Addr) (o p:Nat) (q:Option Addr) (a c:Nat):List Value:=[.string d,.string g,.int .i64 h,.int .i64 i,.string j,.string k,.slice n o p,.slice q a c]
abbrev YX:List Value:=[.int .i64 0,.string K0.kO,.string K0.Word,.string zS,.string K0.kO,.string K0.Word,.string K0.kO,.string K0.Word,.string zS,.slice none 0 0,.int .i64 0,.int .i64 0,.string zS,.string zS,.slice none 0 0]
abbrev Nt (a:Int):List Value:=[.int .i64 a,.int .i64 0,.string zS,.string zS,.slice none 0 0]
abbrev QV (a:Int):List Value:=[.int .i64 a,.int .i64 0,.int .i64 0,.string zS,.slice none 0 0,.slice none 0 0]
abbrev Lh:List Value:=[.int .i64 3,.int .i64 0,.string zS,.string zS,.slice none 0 0]
abbrev Th (a:Nat):List Value:=[.string K1,.slice (some ⟨a,0,none⟩) 1 1,.slice none 0 0]
abbrev C15 (a:Int) (c:Option Addr) (d g:Nat):List Value:=[.int .i64 a,.int .i64 0,.string zS,.string zS,.slice c d g]
abbrev C16 (a:Int) (c:Option Addr) (d g:Nat):List Value:=[.int .i64 4,.int .i64 a,.string zS,.string zS,.slice c d g]
abbrev MM:List Value:=[.int .i64 2,.int .i64 0,.string zS,.string zS,.slice none 0 0]
abbrev VV (a c:Int) (d:ByteArray):List Value:=[.int .i64 a,.int .i64 c,.int .i64 0,.string d,.slice none 0 0,.slice none 0 0]
abbrev YY (a:Nat):List Value:=[.string K2,.slice (some ⟨a,0,none⟩) 1 1]
theorem lM:Tryz.prog.follows .mixedOrders=true:=by rfl
theorem Hl:Tryz.prog.info? 3=some Tryz.t3∧Tryz.t3.zero=some (vI 0)∧Tryz.t3.size=1∧Tryz.t3.bytes=8:=⟨by kernel_rfl,by kernel_rfl,by kernel_rfl,by kernel_rfl⟩
theorem tk:Tryz.prog.info? 5=some Tryz.t5∧Tryz.t5.zero=some (.int .u8 0)∧Tryz.t5.size=1∧Tryz.t5.bytes=1:=⟨by kernel_rfl,by kernel_rfl,by kernel_rfl,by kernel_rfl⟩
theorem Hw:Tryz.prog.info? 9=some Tryz.t9∧Tryz.t9.zero=some (vS ⟨#[]⟩)∧Tryz.t9.size=1∧Tryz.t9.bytes=16:=⟨by kernel_rfl,by kernel_rfl,by kernel_rfl,by kernel_rfl⟩
theorem rH:Tryz.prog.info? 53=some Tryz.t53∧Tryz.t53.zero=some (vA [vS ⟨#[]⟩,vS ⟨#[]⟩])∧Tryz.t53.size=2∧Tryz.t53.bytes=32:=⟨by kernel_rfl,by kernel_rfl,by kernel_rfl,by kernel_rfl⟩
theorem od:Tryz.prog.info? 55=some Tryz.t55∧Tryz.t55.zero=some (vA [vI 0,vS ⟨#[]⟩,vS ⟨#[]⟩,vS ⟨#[]⟩,vS ⟨#[]⟩,vS ⟨#[]⟩,vS ⟨#[]⟩,vS ⟨#[]⟩,vS ⟨#[]⟩])∧Tryz.t55.size=9∧Tryz.t55.bytes=136:=⟨by kernel_rfl,by kernel_rfl,by kernel_rfl,by kernel_rfl⟩
theorem A4:Tryz.prog.info? 57=some Tryz.t57∧Tryz.t57.zero=some (vA [vI 0,vS ⟨#[]⟩,vS ⟨#[]⟩,vS ⟨#[]⟩,vS ⟨#[]⟩,vS ⟨#[]⟩,vS ⟨#[]⟩,vS ⟨#[]⟩,vS ⟨#[]⟩,vN])∧Tryz.t57.size=10∧Tryz.t57.bytes=160:=⟨by kernel_rfl,by kernel_rfl,by kernel_rfl,by kernel_rfl⟩
theorem ny:Tryz.prog.info? 62=some Tryz.t62∧Tryz.t62.zero=some (vA [vI 0,vI 0,vS ⟨#[]⟩,vS ⟨#[]⟩,vN])∧Tryz.t62.size=5∧Tryz.t62.bytes=72:=⟨by kernel_rfl,by kernel_rfl,by kernel_rfl,by kernel_rfl⟩
theorem Nw:Tryz.prog.info? 81=some Tryz.t81∧Tryz.t81.zero=some (vA [vS ⟨#[]⟩,vS ⟨#[]⟩,vI 0,vI 0,vS ⟨#[]⟩,vS ⟨#[]⟩,vN,vN])∧Tryz.t81.size=8∧Tryz.t81.bytes=128:=⟨by kernel_rfl,by kernel_rfl,by kernel_rfl,by kernel_rfl⟩
theorem yX:Tryz.prog.info? 171=some Tryz.t171∧Tryz.t171.zero=some (vA [vS ⟨#[]⟩,vS ⟨#[]⟩,vS ⟨#[]⟩])∧Tryz.t171.size=3∧Tryz.t171.bytes=48:=⟨by kernel_rfl,by kernel_rfl,by kernel_rfl,by kernel_rfl⟩
theorem sE:mP pg0 53 0 0:=mi dl Z er fs Z
theorem zu:mP pg0 53 1 1:=mi dl Z er fs Z
theorem X9:(Tryz.prog.fieldsOf 53).toList=(match Tryz.prog.underlying 53 with | some (.struct a)=>a.toList | _=>[]):=by rw [dl]; simp [Program.fieldsOf,dl]
theorem rS (d:Nat) (x y:kL) (W:World):(Op.equalIn (d+2) 53 (vA (kR x)) (vA (kR y))).run pg0 W= .ok (lJ x y) W:=by
 rw [jr W (d+1) 53 _ _ (by kernel_rfl) Tryz.stoodInHeld53,X9,dl]
 exact (tR fs (uj bU Z) (uj bU Z) (YE bG _ _ _ _) (tR fs (uj bU Z) (uj bU Z) (YE bG _ _ _ _) (GF _ _ _)))
theorem Kc:∀a,Tryz.prog.underlying 53=some (.struct a)→∀w,(a.mapM (λ(f:Field)=>do pure (f.offset,←sizeOf f.type)):Sem (Array (Nat×Nat))).run pg0 w= .ok #[(0,1),(1,1)] w:=by
 intro a h w
 rw [dl] at h
 cases h
 kernel_rfl
theorem rG:mP pg0 55 0 0:=mi dy Z dH fs Z
theorem ud:mP pg0 55 1 1:=mi dy Z aI fs Z
theorem zY:mP pg0 55 2 3:=mi dy Z er fs Z
theorem ph:mP pg0 55 3 4:=mi dy Z aI fs Z
theorem vH:mP pg0 55 4 6:=mi dy Z aI fs Z
theorem yc:mP pg0 55 5 8:=mi dy Z er fs Z
theorem Xr:(Tryz.prog.fieldsOf 55).toList=(match Tryz.prog.underlying 55 with | some (.struct a)=>a.toList | _=>[]):=by rw [dy]; simp [Program.fieldsOf,dy]
theorem yK (d:Nat) (x y:kK) (W:World):(Op.equalIn (d+3) 55 (vA (kQ x)) (vA (kQ y))).run pg0 W= .ok (nE x y) W:=by
 rw [jr W (d+2) 55 _ _ (by kernel_rfl) Tryz.stoodInHeld55,Xr,dy]
 exact (tR fs (uj bH Z) (uj bH Z) (eqI ed _ _ _ _) (tR fs (EC bE aI Z) (EC bE aI Z) (rS _ x.Head y.Head W) (tR fs (uj bU Z) (uj bU Z) (YE bG _ _ _ _) (tR fs (EC bE aI Z) (EC bE aI Z) (rS _ x.B y.B W) (tR fs (EC bE aI Z) (EC bE aI Z) (rS _ x.C y.C W) (tR fs (uj bU Z) (uj bU Z) (YE bG _ _ _ _) (GF _ _ _)))))))
theorem Oj:∀a,Tryz.prog.underlying 55=some (.struct a)→∀w,(a.mapM (λ(f:Field)=>do pure (f.offset,←sizeOf f.type)):Sem (Array (Nat×Nat))).run pg0 w= .ok #[(0,1),(1,2),(3,1),(4,2),(6,2),(8,1)] w:=by
 intro a h w
 rw [dy] at h
 cases h
 kernel_rfl
theorem Xl:(Tryz.prog.fieldsOf 39).toList=(match Tryz.prog.underlying 39 with | some (.struct a)=>a.toList | _=>[]):=by rw [dJ]; simp [Program.fieldsOf,dJ]
theorem HF (d:Nat) (x y:pg) (W:World):(Op.equalIn (d+2) 39 (vA (nA x)) (vA (nA y))).run pg0 W= .ok (AD x y) W:=by
 rw [jr W (d+1) 39 _ _ (by kernel_rfl) Tryz.stoodInHeld39,Xl,dJ]
 exact (tR fs (uj bH Z) (uj bH Z) (eqI ed _ _ _ _) (tR fs (uj kF Z) (uj kF Z) (eqI underlying30 _ _ _ _) (GF _ _ _)))
theorem LZ:∀a,Tryz.prog.underlying 39=some (.struct a)→∀w,(a.mapM (λ(f:Field)=>do pure (f.offset,←sizeOf f.type)):Sem (Array (Nat×Nat))).run pg0 w= .ok #[(0,1),(1,1)] w:=by
 intro a h w
 rw [dJ] at h
 cases h
 kernel_rfl
theorem BX:mP pg0 112 0 0:=mi fZ Z er fs Z
theorem oW:mP pg0 112 1 1:=mi fZ Z dH fs Z
theorem Ys:∀a,Tryz.prog.underlying 112=some (.struct a)→∀w,(a.mapM (λ(f:Field)=>do pure (f.offset,←sizeOf f.type)):Sem (Array (Nat×Nat))).run pg0 w= .ok #[(0,1),(1,1)] w:=by
 intro a h w
 rw [fZ] at h
 cases h
 kernel_rfl
theorem B6:mP pg0 171 0 0:=mi fg Z aI fs Z
theorem Ba:mP pg0 171 1 2:=mi fg Z er fs Z
theorem UQ:∀a,Tryz.prog.underlying 171=some (.struct a)→∀w,(a.mapM (λ(f:Field)=>do pure (f.offset,←sizeOf f.type)):Sem (Array (Nat×Nat))).run pg0 w= .ok #[(0,2),(2,1)] w:=by
 intro a h w
 rw [fg] at h
 cases h
 kernel_rfl
theorem N6:mP pg0 224 0 0:=mi jS Z sizeOf4 fs Z
theorem abB:∀a,Tryz.prog.underlying 224=some (.struct a)→∀w,(a.mapM (λ(f:Field)=>do pure (f.offset,←sizeOf f.type)):Sem (Array (Nat×Nat))).run pg0 w= .ok #[(0,1)] w:=by
 intro a h w
 rw [jS] at h
 cases h
 kernel_rfl
theorem SI:mP pg0 273 0 0:=mi jT Z kA fs Z
theorem abK:∀a,Tryz.prog.underlying 273=some (.struct a)→∀w,(a.mapM (λ(f:Field)=>do pure (f.offset,←sizeOf f.type)):Sem (Array (Nat×Nat))).run pg0 w= .ok #[(0,1)] w:=by
 intro a h w
 rw [jT] at h
 cases h
 kernel_rfl
theorem rZ:mP pg0 57 0 0:=mi ep Z aK fs Z
theorem Ak:mP pg0 57 1 9:=mi ep Z eQ fs Z
theorem Of:∀a,Tryz.prog.underlying 57=some (.struct a)→∀w,(a.mapM (λ(f:Field)=>do pure (f.offset,←sizeOf f.type)):Sem (Array (Nat×Nat))).run pg0 w= .ok #[(0,9),(9,1)] w:=by
 intro a h w
 rw [ep] at h
 cases h
 kernel_rfl
theorem pD:mP pg0 62 0 0:=mi bM Z dH fs Z
theorem wO:mP pg0 62 1 1:=mi bM Z dH fs Z
theorem yB:mP pg0 62 2 2:=mi bM Z aI fs Z
theorem pG:mP pg0 62 3 4:=mi bM Z sizeOf60 fs Z
theorem yU:∀a,Tryz.prog.underlying 62=some (.struct a)→∀w,(a.mapM (λ(f:Field)=>do pure (f.offset,←sizeOf f.type)):Sem (Array (Nat×Nat))).run pg0 w= .ok #[(0,1),(1,1),(2,2),(4,1)] w:=by
 intro a h w
 rw [bM] at h
 cases h
 kernel_rfl
theorem Gs:mP pg0 64 0 0:=mi gC Z bO fs Z
theorem Qk:mP pg0 64 1 10:=mi gC Z aC fs Z
theorem aak:∀a,Tryz.prog.underlying 64=some (.struct a)→∀w,(a.mapM (λ(f:Field)=>do pure (f.offset,←sizeOf f.type)):Sem (Array (Nat×Nat))).run pg0 w= .ok #[(0,10),(10,5)] w:=by
 intro a h w
 rw [gC] at h
 cases h
 kernel_rfl
theorem Vz:mP pg0 81 0 0:=mi underlying81 Z aI fs Z
theorem Qa:mP pg0 81 1 2:=mi underlying81 Z aC fs Z
theorem R4:mP pg0 81 2 7:=mi underlying81 Z sizeOf43 fs Z
theorem aav:mP pg0 25 0 0:=mi ij Z er fs Z
theorem HZ:mP pg0 25 1 1:=mi ij Z sizeOf22 fs Z
theorem QY:mP pg0 25 2 2:=mi ij Z sizeOf23 fs Z
theorem acz:∀a,Tryz.prog.underlying 25=some (.struct a)→∀w,(a.mapM (λ(f:Field)=>do pure (f.offset,←sizeOf f.type)):Sem (Array (Nat×Nat))).run pg0 w= .ok #[(0,1),(1,1),(2,1)] w:=by
 intro a h w
 rw [ij] at h
 cases h
 kernel_rfl
theorem Jx:mP pg0 51 0 0:=mi iX Z er fs Z
theorem Ky:mP pg0 51 1 1:=mi iX Z eQ fs Z
theorem acv:∀a,Tryz.prog.underlying 51=some (.struct a)→∀w,(a.mapM (λ(f:Field)=>do pure (f.offset,←sizeOf f.type)):Sem (Array (Nat×Nat))).run pg0 w= .ok #[(0,1),(1,1)] w:=by
 intro a h w
 rw [iX] at h
 cases h
 kernel_rfl
theorem DP:mP pg0 71 0 0:=mi dT Z sizeOf4 fs Z
theorem Ct:mP pg0 71 1 1:=mi dT Z eQ fs Z
theorem L5:∀a,Tryz.prog.underlying 71=some (.struct a)→∀w,(a.mapM (λ(f:Field)=>do pure (f.offset,←sizeOf f.type)):Sem (Array (Nat×Nat))).run pg0 w= .ok #[(0,1),(1,1)] w:=by
 intro a h w
 rw [dT] at h
 cases h
 kernel_rfl
theorem QQ:mP pg0 74 0 0:=mi kj Z sizeOf72 fs Z
theorem acA:∀a,Tryz.prog.underlying 74=some (.struct a)→∀w,(a.mapM (λ(f:Field)=>do pure (f.offset,←sizeOf f.type)):Sem (Array (Nat×Nat))).run pg0 w= .ok #[(0,1)] w:=by
 intro a h w
 rw [kj] at h
 cases h
 kernel_rfl
theorem zk:mP pg0 69 0 0:=mi cM Z dH fs Z
theorem BN:mP pg0 69 1 1:=mi cM Z dH fs Z
theorem Bz:mP pg0 69 2 2:=mi cM Z dH fs Z
theorem D9:mP pg0 69 3 3:=mi cM Z er fs Z
theorem yz:mP pg0 69 4 4:=mi cM Z sizeOf67 fs Z
theorem uE:mP pg0 69 5 5:=mi cM Z sizeOf66 fs Z
theorem ED:∀a,Tryz.prog.underlying 69=some (.struct a)→∀w,(a.mapM (λ(f:Field)=>do pure (f.offset,←sizeOf f.type)):Sem (Array (Nat×Nat))).run pg0 w= .ok #[(0,1),(1,1),(2,1),(3,1),(4,1),(5,1)] w:=by
 intro a h w
 rw [cM] at h
 cases h
 kernel_rfl
theorem WK:mP pg0 89 0 0:=mi fS Z fG fs Z
theorem aa7:mP pg0 89 1 3:=mi fS Z er fs Z
theorem RC:mP pg0 89 3 5:=mi fS Z sizeOf43 fs Z
theorem QM:mP pg0 89 4 6:=mi fS Z dH fs Z
theorem Wv:mP pg0 89 5 7:=mi fS Z eQ fs Z
theorem ab8:∀a,Tryz.prog.underlying 89=some (.struct a)→∀w,(a.mapM (λ(f:Field)=>do pure (f.offset,←sizeOf f.type)):Sem (Array (Nat×Nat))).run pg0 w= .ok #[(0,3),(3,1),(4,1),(5,1),(6,1),(7,1)] w:=by
 intro a h w
 rw [fS] at h
 cases h
 kernel_rfl
theorem BV:mP pg0 139 0 0:=mi eE Z eQ fs Z
theorem M3:∀a,Tryz.prog.underlying 139=some (.struct a)→∀w,(a.mapM (λ(f:Field)=>do pure (f.offset,←sizeOf f.type)):Sem (Array (Nat×Nat))).run pg0 w= .ok #[(0,1)] w:=by
 intro a h w
 rw [eE] at h
 cases h
 kernel_rfl
theorem B0:mP pg0 198 0 0:=mi iE Z eQ fs Z
theorem N9:mP pg0 198 1 1:=mi iE Z sizeOf4 fs Z
theorem abz:∀a,Tryz.prog.underlying 198=some (.struct a)→∀w,(a.mapM (λ(f:Field)=>do pure (f.offset,←sizeOf f.type)):Sem (Array (Nat×Nat))).run pg0 w= .ok #[(0,1),(1,1)] w:=by
 intro a h w
 rw [iE] at h
 cases h
 kernel_rfl
theorem BP:mP pg0 213 0 0:=mi fh Z sizeOf209 fs Z
theorem Oo:mP pg0 213 1 1:=mi fh Z sizeOf43 fs Z
theorem TN:mP pg0 213 2 2:=mi fh Z sizeOf210 fs Z
theorem Ot:mP pg0 213 3 3:=mi fh Z sizeOf211 fs Z
theorem Gk:mP pg0 213 4 4:=mi fh Z sizeOf124 fs Z
theorem KR:mP pg0 213 5 5:=mi fh Z dH fs Z
theorem ab4:∀a,Tryz.prog.underlying 213=some (.struct a)→∀w,(a.mapM (λ(f:Field)=>do pure (f.offset,←sizeOf f.type)):Sem (Array (Nat×Nat))).run pg0 w= .ok #[(0,1),(1,1),(2,1),(3,1),(4,1),(5,1)] w:=by
 intro a h w
 rw [fh] at h
 cases h
 kernel_rfl
theorem ZG:mP pg0 203 0 0:=mi ga Z sizeOf150 fs Z
theorem Y9:mP pg0 203 1 1:=mi ga Z kA fs Z
theorem ab3:∀a,Tryz.prog.underlying 203=some (.struct a)→∀w,(a.mapM (λ(f:Field)=>do pure (f.offset,←sizeOf f.type)):Sem (Array (Nat×Nat))).run pg0 w= .ok #[(0,1),(1,1)] w:=by
 intro a h w
 rw [ga] at h
 cases h
 kernel_rfl
def mg:sV Signed:=λμ ys x=>∃(v0:Value),ys=[.int .i64 x.kK.Kind,.string x.kK.Head.kO,.string x.kK.Head.Word,.string x.kK.lV,.string x.kK.B.kO,.string x.kK.B.Word,.string x.kK.C.kO,.string x.kK.C.Word,.string x.kK.lW,v0]∧Sl (Pl (lu .u8)) 1 μ v0 x.Tag
theorem mg.out {μ:mc} {ys:List Value} {x:Signed} (h:mg μ ys x):∃(v0:Value),ys=[.int .i64 x.kK.Kind,.string x.kK.Head.kO,.string x.kK.Head.Word,.string x.kK.lV,.string x.kK.B.kO,.string x.kK.B.Word,.string x.kK.C.kO,.string x.kK.C.Word,.string x.kK.lW,v0]∧Sl (Pl (lu .u8)) 1 μ v0 x.Tag:=h
theorem mg.mk {μ:mc} {ys:List Value} {x:Signed} (h:∃(v0:Value),ys=[.int .i64 x.kK.Kind,.string x.kK.Head.kO,.string x.kK.Head.Word,.string x.kK.lV,.string x.kK.B.kO,.string x.kK.B.Word,.string x.kK.C.kO,.string x.kK.C.Word,.string x.kK.lW,v0]∧Sl (Pl (lu .u8)) 1 μ v0 x.Tag):mg μ ys x:=h
theorem nu:Deep mg 10 where
 mono:=by rintro _ _ _ _ c ⟨v0,rfl,a⟩; exact ⟨v0,Z,a.mono (Pl.mono _) c⟩
 len:=by rintro _ _ _ ⟨v0,rfl,a⟩; rfl
 one:=by
  rintro _ _ _ ⟨v0,rfl,a⟩
  intro u hu; simp only [aS,du,fx] at hu; rcases hu with rfl | rfl | rfl | rfl | rfl | rfl | rfl | rfl | rfl | rfl
  ·rfl
  ·rfl
  ·rfl
  ·rfl
  ·rfl
  ·rfl
  ·rfl
  ·rfl
  ·rfl
  ·exact a.CN
def CA:Nat→sV Formula
 | 0=>λ_ _ _=>False
 | n+1=>λμ ys x=>∃(v0:Value),ys=[.int .i64 x.Op,.int .i64 x.K,.string x.kL.kO,.string x.kL.Word,v0]∧Sl (CA n) 5 μ v0 x.Kids
def kN:sV Formula:=λμ ys x=>∃n,CA n μ ys x
theorem Ju:∀n,M1 (CA n)
 | 0=>λ_ _ _ _ _ h=>h
 | n+1=>by rintro _ _ _ _ c ⟨v0,rfl,a⟩; exact ⟨v0,Z,a.mono (Ju n) c⟩
theorem Na:∀n m (μ:mc) (ys:List Value) (x:Formula),n≤m→CA n μ ys x→CA m μ ys x
 | 0,_,_,_,_,_,h=>h.elim
 | n+1,0,_,_,_,a,_=>absurd a eR
 | n+1,m+1,μ,ys,x,a,h=>by
  obtain ⟨v0,rfl,c⟩:=h
  exact ⟨v0,Z,c.imp λys x h=>Na n m μ ys x eR h⟩
theorem kN.out {μ:mc} {ys:List Value} {x:Formula} (h:kN μ ys x):∃(v0:Value),ys=[.int .i64 x.Op,.int .i64 x.K,.string x.kL.kO,.string x.kL.Word,v0]∧Sl kN 5 μ v0 x.Kids:=by
 obtain ⟨n,h⟩:=h
 cases n with
 | zero=>exact h.elim
 | succ n=>
  obtain ⟨v0,rfl,a⟩:=h
  exact ⟨v0,Z,a.imp λys x h=>⟨n,h⟩⟩
theorem kN.mk {μ:mc} {ys:List Value} {x:Formula} (h:∃(v0:Value),ys=[.int .i64 x.Op,.int .i64 x.K,.string x.kL.kO,.string x.kL.Word,v0]∧Sl kN 5 μ v0 x.Kids):kN μ ys x:=by
 obtain ⟨v0,rfl,c⟩:=h
 obtain ⟨n,g⟩:=c.abX (λ_ _ h=>h) (λa b ys x d h=>Na a b _ ys x d h)
 exact ⟨n+1,v0,Z,g⟩
theorem lc:Deep kN 5 where
 mono:=λ_ _ _ _ c ⟨n,h⟩=>⟨n,Ju n _ _ _ _ c h⟩
 len:=by rintro _ _ _ h; obtain ⟨v0,rfl,a⟩:=h.out; rfl
 one:=by
  rintro _ _ _ h
  obtain ⟨v0,rfl,a⟩:=h.out
  intro u hu; simp only [aS,du,fx] at hu; rcases hu with rfl | rfl | rfl | rfl | rfl
  ·rfl
  ·rfl
  ·rfl
  ·rfl
  ·exact a.CN
def nq:sV nM:=λμ ys x=>∃(v0:Value) (v1:Value),ys=[.int .i64 x.Signed.kK.Kind,.string x.Signed.kK.Head.kO,.string x.Signed.kK.Head.Word,.string x.Signed.kK.lV,.string x.Signed.kK.B.kO,.string x.Signed.kK.B.Word,.string x.Signed.kK.C.kO,.string x.Signed.kK.C.Word,.string x.Signed.kK.lW,v0,.int .i64 x.la.Op,.int .i64 x.la.K,.string x.la.kL.kO,.string x.la.kL.Word,v1]∧Sl (Pl (lu .u8)) 1 μ v0 x.Signed.Tag∧Sl kN 5 μ v1 x.la.Kids
theorem nq.out {μ:mc} {ys:List Value} {x:nM} (h:nq μ ys x):∃(v0:Value) (v1:Value),ys=[.int .i64 x.Signed.kK.Kind,.string x.Signed.kK.Head.kO,.string x.Signed.kK.Head.Word,.string x.Signed.kK.lV,.string x.Signed.kK.B.kO,.string x.Signed.kK.B.Word,.string x.Signed.kK.C.kO,.string x.Signed.kK.C.Word,.string x.Signed.kK.lW,v0,.int .i64 x.la.Op,.int .i64 x.la.K,.string x.la.kL.kO,.string x.la.kL.Word,v1]∧Sl (Pl (lu .u8)) 1 μ v0 x.Signed.Tag∧Sl kN 5 μ v1 x.la.Kids:=h
theorem nq.mk {μ:mc} {ys:List Value} {x:nM} (h:∃(v0:Value) (v1:Value),ys=[.int .i64 x.Signed.kK.Kind,.string x.Signed.kK.Head.kO,.string x.Signed.kK.Head.Word,.string x.Signed.kK.lV,.string x.Signed.kK.B.kO,.string x.Signed.kK.B.Word,.string x.Signed.kK.C.kO,.string x.Signed.kK.C.Word,.string x.Signed.kK.lW,v0,.int .i64 x.la.Op,.int .i64 x.la.K,.string x.la.kL.kO,.string x.la.kL.Word,v1]∧Sl (Pl (lu .u8)) 1 μ v0 x.Signed.Tag∧Sl kN 5 μ v1 x.la.Kids):nq μ ys x:=h
theorem pU:Deep nq 15 where
 mono:=by rintro _ _ _ _ c ⟨v0,v1,rfl,a,h1⟩; exact ⟨v0,v1,Z,a.mono (Pl.mono _) c,h1.mono lc.mono c⟩
 len:=by rintro _ _ _ ⟨v0,v1,rfl,a,h1⟩; rfl
 one:=by
  rintro _ _ _ ⟨v0,v1,rfl,a,h1⟩
  intro u hu; simp only [aS,du,fx] at hu; rcases hu with rfl | rfl | rfl | rfl | rfl | rfl | rfl | rfl | rfl | rfl | rfl | rfl | rfl | rfl | rfl
  ·rfl
  ·rfl
  ·rfl
  ·rfl
  ·rfl
  ·rfl
  ·rfl
  ·rfl
  ·rfl
  ·exact a.CN
  ·rfl
  ·rfl
  ·rfl
  ·rfl
  ·exact h1.CN
def oB:sV sT:=λμ ys x=>∃(v0:Value) (v1:Value),ys=[.string x.kL.kO,.string x.kL.Word,.int .i64 x.la.Op,.int .i64 x.la.K,.string x.la.kL.kO,.string x.la.kL.Word,v0,v1]∧Sl kN 5 μ v0 x.la.Kids∧Sl (Pl kQ) 9 μ v1 x.pf
theorem oB.out {μ:mc} {ys:List Value} {x:sT} (h:oB μ ys x):∃(v0:Value) (v1:Value),ys=[.string x.kL.kO,.string x.kL.Word,.int .i64 x.la.Op,.int .i64 x.la.K,.string x.la.kL.kO,.string x.la.kL.Word,v0,v1]∧Sl kN 5 μ v0 x.la.Kids∧Sl (Pl kQ) 9 μ v1 x.pf:=h
theorem oB.mk {μ:mc} {ys:List Value} {x:sT} (h:∃(v0:Value) (v1:Value),ys=[.string x.kL.kO,.string x.kL.Word,.int .i64 x.la.Op,.int .i64 x.la.K,.string x.la.kL.kO,.string x.la.kL.Word,v0,v1]∧Sl kN 5 μ v0 x.la.Kids∧Sl (Pl kQ) 9 μ v1 x.pf):oB μ ys x:=h
theorem xi:Deep oB 8 where
 mono:=by rintro _ _ _ _ c ⟨v0,v1,rfl,a,h1⟩; exact ⟨v0,v1,Z,a.mono lc.mono c,h1.mono (Pl.mono _) c⟩
 len:=by rintro _ _ _ ⟨v0,v1,rfl,a,h1⟩; rfl
 one:=by
  rintro _ _ _ ⟨v0,v1,rfl,a,h1⟩
  intro u hu; simp only [aS,du,fx] at hu; rcases hu with rfl | rfl | rfl | rfl | rfl | rfl | rfl | rfl
  ·rfl
  ·rfl
  ·rfl
  ·rfl
  ·rfl
  ·rfl
  ·exact a.CN
  ·exact h1.CN
def vi:sV Key:=λμ ys x=>∃(v0:Value),ys=[.string x.lV,v0]∧Sl (Pl (lu .u8)) 1 μ v0 x.Key
theorem vi.out {μ:mc} {ys:List Value} {x:Key} (h:vi μ ys x):∃(v0:Value),ys=[.string x.lV,v0]∧Sl (Pl (lu .u8)) 1 μ v0 x.Key:=h
theorem vi.mk {μ:mc} {ys:List Value} {x:Key} (h:∃(v0:Value),ys=[.string x.lV,v0]∧Sl (Pl (lu .u8)) 1 μ v0 x.Key):vi μ ys x:=h
theorem FJ:Deep vi 2 where
 mono:=by rintro _ _ _ _ c ⟨v0,rfl,a⟩; exact ⟨v0,Z,a.mono (Pl.mono _) c⟩
 len:=by rintro _ _ _ ⟨v0,rfl,a⟩; rfl
 one:=by
  rintro _ _ _ ⟨v0,rfl,a⟩
  intro u hu; simp only [aS,du,fx] at hu; rcases hu with rfl | rfl
  ·rfl
  ·exact a.CN
def pc:sV nJ:=λμ ys x=>∃(v0:Value),ys=[.bool x.Out,v0]∧Sl (Pl (lu .u8)) 1 μ v0 x.B
theorem pc.out {μ:mc} {ys:List Value} {x:nJ} (h:pc μ ys x):∃(v0:Value),ys=[.bool x.Out,v0]∧Sl (Pl (lu .u8)) 1 μ v0 x.B:=h
theorem pc.mk {μ:mc} {ys:List Value} {x:nJ} (h:∃(v0:Value),ys=[.bool x.Out,v0]∧Sl (Pl (lu .u8)) 1 μ v0 x.B):pc μ ys x:=h
theorem vK:Deep pc 2 where
 mono:=by rintro _ _ _ _ c ⟨v0,rfl,a⟩; exact ⟨v0,Z,a.mono (Pl.mono _) c⟩
 len:=by rintro _ _ _ ⟨v0,rfl,a⟩; rfl
 one:=by
  rintro _ _ _ ⟨v0,rfl,a⟩
  intro u hu; simp only [aS,du,fx] at hu; rcases hu with rfl | rfl
  ·rfl
  ·exact a.CN
def nR:sV mN:=λμ ys x=>∃(v0:Value),ys=[v0]∧vg Value.string (lQ 5 (lu .u8) 1) μ v0 x.m
theorem nR.out {μ:mc} {ys:List Value} {x:mN} (h:nR μ ys x):∃(v0:Value),ys=[v0]∧vg Value.string (lQ 5 (lu .u8) 1) μ v0 x.m:=h
theorem nR.mk {μ:mc} {ys:List Value} {x:mN} (h:∃(v0:Value),ys=[v0]∧vg Value.string (lQ 5 (lu .u8) 1) μ v0 x.m):nR μ ys x:=h
theorem po:Deep nR 1 where
 mono:=by rintro _ _ _ _ c ⟨v0,rfl,a⟩; exact ⟨v0,Z,a.mono  c⟩
 len:=by rintro _ _ _ ⟨v0,rfl,a⟩; rfl
 one:=by
  rintro _ _ _ ⟨v0,rfl,a⟩
  intro u hu; simp only [aS,du,fx] at hu; rcases hu with rfl
  ·exact a.CN
theorem Ji:sY pg0 9 Value.string mx:=sY.string bG
theorem Fx:sY pg0 53 (λ(x:kL)=>vA (kR x)) lJ :=
 sY.struct dl (λd x y W=>rS (d+8) x y W) (λb k W=>Nq dl Z (iH.2 ⟨λ_=>⟨.string k.kO,uj bU Z,DV bG _ _ _ _⟩,iH.2 ⟨λ_=>⟨.string k.Word,uj bU Z,DV bG _ _ _ _⟩,(λ_ h=>by cases h)⟩⟩))
  (λk x h=>(lO.1 h).symm) (λk=>by simp [Instr.sameBits,kR,Jz,mU])
theorem abf (w:World) (s:ByteArray) (c:Int):(callFunc 128 [Value.string s,.int .u8 c].toArray).run pg0 w= .ok (.value (vI (B7 s c))) w:=NZ func128 (by kernel_rfl) (by kernel_rfl) (by kernel_rfl) (by kernel_rfl) s c w
theorem Dj (a:ByteArray) (c r:Int) (w:World) (hm:sy a c=some r) :
  lF true pg0 79 [vS a,.int .u8 c] w (vI r):=by
 exact cG 8 func79 Z (λd=>sg (Wa (lr (Wm (Wm (VE (Uu (args:=[vS a,.int .u8 c]) (v:=vI (B7 a c)) Z (by exact pj Z Z) (abf _ a c) (Wa (lt (rQ hm d))))))))))
theorem El (a:ByteArray) (c r:Int) (w:World) (hm:wM a c=some r) :
  lF true pg0 39 [vS a,.int .u8 c] w (vI r):=by
 refine cG 8 func39 Z (λd=>sg (Wa (lr (Wm (Wm (bS hm λj g hm=>VE (Eg d call79 (Dj a c _ _  g) λi d=>Wa (ln ?_))))))))
 exact lB (rQ hm d)
theorem SA (B:ByteArray) (r:Bool) (w:World) (hm:HB B=some r) :
  lF true pg0 40 [vS B] w (vB r):=by
 refine cG 16 func40 Z (λd=>sg (Wa (lS (Wm (bS hm λY D hm=>VE (Kv d bG aT cJ Z D λU I K d H o j N=>V (lT aT Z j) (Wm (lC ?_))))))))
 refine kW (mJ 8 7 (λi p E W=>∃c,ST true lN w W K c∧E 6=I∧Ah p=some r) j.len ⟨_,d.kM,Z,hm⟩ ?_ ?_)
 ·rintro G k J E W z ⟨⟨h,n⟩,c,d,g,a⟩
  refine sg (VQ (oz (enc:=lu .u8) (i:=(G:Int)) (x0:=k) aT fc g h j (aG _) z) λQ u=>V (kP Z (rz d.has (y:= .int .u8 k) u isAgg5)) (Wa (lr (Wm (bS a λT x a=>VE (Eg d call39 (El (⟨#[97,98,99,100,101,102,103,104,105,106,107,108,109,110,111,112,113,114,115,116,117,118,119,120,121,122,48,49,50,51,52,53,54,55,56,57,45]⟩:ByteArray) k _ _  x) λM d=>Wi Z (ln ?_)))))))
  refine CI a Z (λt a=>?_) (λt a=>?_)
  ·refine sg (Wa (lt (mG (ly (mG (ly ?_))))))
   cases sj a
   exact rP d
  exact lU (lD (kW ⟨h,n,_,d.kM,g,a⟩))
 rintro E W ⟨⟨h,n⟩,c,d,g,a⟩
 exact kW (sg (Wa (lt (rQ a d))))
theorem xq (z:ByteArray) (r:Bool) (w:World) (hm:tJ z=some r) :
  lF true pg0 19 [vS z] w (vB r):=by
 refine cG 21 func19 Z (λd=>sg (Wa (lr (Wm (V (pn bG Z) (Wi Z (Wm (LJ hm (λK E W=>∃Y,ST true lN w W (hp w) Y∧E 0=vS z∧E 2=vB false∧E 10=vB K) 4 ?_ λK t y=>?_))))))))
 ·rintro x2 E W ⟨Y,d,M,h,p⟩ a5
  refine Wh p (LJ a5 (λJ E W=>∃D,ST true lN w W (hp w) D∧E 0=vS z∧E 2=vB false∧E 16=vB J) 5 ?_ λJ a x=>?_)
  ·rintro L E W ⟨D,d,o,H,a2⟩ N
   refine Wh a2 (LJ N (λI E W=>∃G,ST true lN w W (hp w) G∧E 2=vB false∧E 20=vB I) 3 ?_ λI j u=>?_)
   ·rintro O E W ⟨G,d,a9,a3⟩ Q
    exact Wg a3 (lt (rQ Q d))
   refine bC j (λg j=>?_) (λg j=>?_)
   ·refine ug g (kT o) (bS j λv T j=>sh g (Eg d call40 (SA z _ _  T) λq d=>V (lh (cB g) Z) ?_))
    cases sj j
    exact u _ _ ⟨_,d.kM,H,Z⟩
   refine un g (un g (V (lg (cB g) Z) ?_))
   cases sj j
   exact u _ _ ⟨_,d.kM,H,Z⟩
  refine bC a (λc a=>?_) (λc a=>?_)
  ·refine ug c (kT M) (bS a λn B a=>ug c (B9 (i:=0) bG Z Z (Bc B) (EG B)) (bS a λA U a=>sh c (Eg d call39 (El (⟨#[97,98,99,100,101,102,103,104,105,106,107,108,109,110,111,112,113,114,115,116,117,118,119,120,121,122]⟩:ByteArray) (n.toNat:Int) _ _  U) λs d=>ug c (lI Z Z Z) (V (lh (cB c) Z) ?_))))
   cases sj a
   exact x _ _ ⟨_,d.kM,M,h,Z⟩
  refine un c (un c (un c (un c (V (lg (cB c) Z) ?_))))
  cases sj a
  exact x _ _ ⟨_,d.kM,M,h,Z⟩
 refine bC t (λk t=>?_) (λk t=>?_)
 ·refine ug k (kT Z) (ug k (pn bG Z) (ug k (lI Z Z Z) (V (lh (cB k) Z) ?_)))
  cases sj t
  exact y _ _ ⟨_,d.kM,Z,Z,Z⟩
 refine un k (un k (un k (V (lg (cB k) Z) ?_)))
 cases sj t
 exact y _ _ ⟨_,d.kM,Z,Z,Z⟩
theorem CP (a:Sl (Pl (lu .u8)) 1 (hp qa) q0 qo) (hm:rO qo=some qp) :
  mM true pg0 20 [q0] qa 5 (lu .u8) 1 qp:=by
 unfold rO at hm
 refine yd 8 func20 Z (λd=>sg (Wa (lS (Wm ?_))))
 obtain ⟨y,B,rfl⟩:=a.form
 refine V (Fb aT Z Z) (ln ?_)
 rcases y with _ | z
 ·have u:=a.isNil
  replace hm:some []=some qp:=by rw [u] at hm; simpa [nF,maxLen] using hm
  refine Aw (rfl) (sg (Wa (lt (ly ?_))))
  cases sj hm
  exact ma (v:=vN) Z Z ⟨_,[],Z,d.oa (λp g=>by cases g) fb,lQ.nil _ _ _⟩
 ·refine sM (rfl) (kg (VE (lE (cs:=#[]) d oP (EP [] aT fc fT dc Z fb Z Z) λG k d=>Wm (bS hm λH t hm=>VE (oG (enc:=lu .u8) (v:= .slice (some ⟨k,0,none⟩) 0 0) (vs:= .slice (some z) qo.length B) (R:=[(k,Ob #[] 5)]) d (λ_=>rfl) dc (uk _) aT tk.1 tk.2.1 Z tk.2.2.1 tk.2.2.2 Z Z (lQ.lit (l:=[]) (enc:=lu .u8) Z dc Z Z) (a.mono (Pl.mono _) d.lb) t λD x j d c=>Wa (lt ?_))))))
  cases sj hm
  exact ma (v:=x) Z Z ⟨_,j,Z,d.oa (λp g=>Ml g) c.nd,c⟩
theorem NX {r:((Option mN)×Int)} (h0:nN qb [] qa) (a3:Sl vi 2 qb q0 qS) (hm:FY qS=some r) :
  mq true pg0 5 [q0] qa qb [] (λv L1 μ1=>∃y1,v=vT [y1,vI r.2]∧L1=[]∧we nR μ1 y1 r.1):=by
 refine ve h0 57 func5 Z (λd=>sg (Wa (Wa (lr (VE (FX (P:=pg0) Value.string (lQ 5 (lu .u8) 1) d λW1 v4 R2 d c6=>?_))))))
 obtain ⟨L,rfl⟩:=c6.form
 refine V (lX (v:=vA [.map (some L)]) (mB Z) (lG zeroValue74 kj (acA _ kj) kr)) (VE (lY d Z (λW7 q d=>Wa (lS (Wm (V (lT gD Z a3) (Wm (ln (mJ 14 13 (λi js E W=>∃I D y T,lm qb y∧Lo (keys []) qa qb y∧ST true (keys []) qa W y ((q,Ob #[.map (some L)] 74)::(D++T))∧E 4=vP q∧E 12=q0∧nT Value.string (lQ 5 (lu .u8) 1) (.map (some L)) I D∧ze js I=some r) a3.len ⟨[],R2,qb,_,lm.refl _,Lo.refl,d.kM,Z,Z,c6,hm⟩ ?_ ?_)))))))))
 ·rintro b0 j e1 E W c5 ⟨⟨O,eN⟩,I,D,y,T,t,n,d,G,M,Q,g⟩
  refine sg (VQ (my (i:=(b0:Int)) (x0:=j) vi.out gD iq M O (a3.mono FJ.mono t) (aG _) c5) λf2 ⟨_,⟨f4,rfl,B⟩,b9⟩=>V (kP Z (lA d.has b9 isAgg51 iq)) (VE (lq d jM λe6 a6 d=>?_)))
  obtain ⟨J,K,rfl⟩:=B.form
  let a2:Value:= .slice J j.Key.length K
  refine VO (FA (#[vS j.lV,a2]) d iq λe7 d=>ln (kY ?_))
  have d:=d.drew
  have h:=d.has.kM (Kb (Kb (Kr Sn)))
  refine mh h lM (X 0 Z h (kT G) (X 1 Z h (mK Z) (X 2 Z h (kU QQ Z) (XH 3 Z h (λ_ p=>kP Z (kZ p (Mt Mh) Z isAgg72)) (X 4 Z h (kU Jx Z) (XH 5 Z h (λ_ p=>kP Z (kZ p Mh Z bU)) ?_))))))
  obtain ⟨e0,N⟩:=Q
  obtain ⟨e4,d8,d9⟩:=ou.rowAt mU.1 N j.lV
  refine XH 6 Z h (λ_ p=>H8 (k:=j.lV) (z:=vN) Ji underlying72 iI Z Z N λb o hq=>p.2 b o (Mt (Mt (Ml hq)))) (X 7 Z h (kT Z) (X 8 Z h (xA Z Z) (X 9 Z h (xA Z Z) (X 10 Z h (nz Z) (X 11 Z h (nz Z) (ml kr (kW (kY (bg (Wf Jx (VB d Mh Z Z bU (bS g λf3 c2 g=>?_))))))))))))
  refine VE (Eg d call19 (xq j.lV _ _  c2) λe8 d=>V (nt Z) (Wa (ln (CI g Z (λb4 g=>?_) λb4 g=>?_))))
  ·refine sg (Wa (Wa (ln ?_)))
   have d:=d.kM (Db (Db (Dr St)))
   refine lB (mG (ly (mG (ly (mG (ly ?_))))))
   cases sj g
   exact zh (v:= .pointer none) (u:=vI 30) Z Z Z ⟨_,_,_,Z,d.lZ Sn,t,n,ST.lp d (mu.mem Sn),.pointer none,Z,Z,we.nil⟩
  refine sg (Wf Ky (VB d Mh Z Z dm (V (lT aT Z B) (Wi Z (Wm (LJ g (λb1 E W=>∃a5,ST true (keys []) qa W y ((a6,Ob #[vS j.lV,a2] 51)::((q,Ob #[.map (some L)] 74)::(D++a5)))∧E 4=vP q∧E 6=vP a6∧E 8=vB ((mO mx I j.lV).isSome)∧E 12=q0∧E 13=vI (qS.length:Int)∧E 14=vI (b0:Int)∧E 43=vB b1) 5 ?_ λb1 x Y=>?_))))))
  ·rintro f6 E W ⟨a5,d,a7,a8,c9,d0,d1,d2,d3⟩ a
   refine Wg d3 (ln (CI a Z (λb5 a=>?_) λb5 a=>?_))
   ·refine sg (Wa (Wa (ln ?_)))
    have d:=d.kM (Db (Db (Dr St)))
    refine lB (mG (ly (mG (ly (mG (ly ?_))))))
    cases sj a
    exact zh (v:= .pointer none) (u:=vI 21) Z Z Z ⟨_,_,_,Z,d.lZ Sn,t,n,ST.lp d (mu.mem Sn),.pointer none,Z,Z,we.nil⟩
   refine sg (Wh c9 (Wa (ln (CI a Z (λb7 a=>?_) λb7 a=>?_))))
   ·refine sg (Wa (Wa (ln ?_)))
    have d:=d.kM (Db (Db (Dr St)))
    refine lB (mG (ly (mG (ly (mG (ly ?_))))))
    cases sj a
    exact zh (v:= .pointer none) (u:=vI 41) Z Z Z ⟨_,_,_,Z,d.lZ Sn,t,n,ST.lp d (mu.mem Sn),.pointer none,Z,Z,we.nil⟩
   refine lU (lD (kW ?_))
   have d:=d.drew
   have h:=d.has.kM (Kb (Kb Sn))
   refine mh h lM (X 0 Z h (kT a7) (X 1 Z h (mK Z) (X 2 Z h (kU QQ Z) (XH 3 Z h (λ_ p=>kP Z (kZ p (Mt Mh) Z isAgg72)) (X 4 Z h (kU Jx a8) (XH 5 Z h (λ_ p=>kP Z (kZ p Mh Z bU)) (X 6 Z h (kU Ky a8) (XH 7 Z h (λ_ p=>kP Z (kZ p Mh Z dm)) (bS a λd5 c3 a=>XE 8 Z (rM d call20 (CP (B.mono (Pl.mono _) d.lb) c3) λe9 f5 d6 e5 d H s b2=>?_))))))))))
   have h:=d.has.ob H (Dr (Kb (Kb Sn)))
   refine ⟨h,?_⟩
   have d:=d.perm (Nr (Qr (Qb (Qb Qz))) Nz)
   refine bS a λd4 c4 a=>XO 9 Z (Po (k:=j.lV) (z:=d5)  Ji underlying72 d N Z Z Z b2 c4 λf0 c7 d b3=>?_)
   have h:=d.has.ob H (Dr (Kb (Kb Sn)))
   refine ⟨h,ml kr (lD (kW ?_))⟩
   have d:=d.kM (Kr (Db St))
   exact ⟨d2,d1,d4,c7,d6,_,t.trans H,n.trans s,d.kM (Sb (Pr Pz) St),a7,d0,b3.e,a⟩
  refine bC x (λc x=>?_) (λc x=>?_)
  ·refine un c (un c (un c (un c (V (lh (cB c) Z) ?_))))
   cases sj x
   exact Y _ _ ⟨_,d.kM,G,Z,Z,M,eN,O,Z⟩
  refine ug c (kU Ky Z) (ug c (kP Z (kZ d.has Mh Z dm)) (ug c (lT aT Z B) (ug c (lI Z Z Z) (V (lg (cB c) Z) ?_))))
  cases sj x
  exact Y _ _ ⟨_,d.kM,G,Z,Z,M,eN,O,Z⟩
 rintro E W ⟨⟨O,eN⟩,I,D,y,T,t,n,d,G,M,Q,g⟩
 refine kW (sg (Wh G (Wa (Wa (lt ?_)))))
 cases sj g
 refine zh (v:=vP q) (u:=vI 0) Z Z Z ?_
 have d:=d.perm (Nr (Qb Qz) Nz)
 obtain ⟨f8,d,a9,w,c0⟩:=ST.Jy d
 obtain ⟨f9,d,U,A,c1⟩:=ST.Jy (R:=[(q,Ob #[.map (some L)] 74)]) d
 exact ⟨_,_,_,Z,d.lZ Sn,(t.trans a9).trans U,(n.trans w).trans A,ST.lp d (mu.mem Sn),vP q,Z,Z,we.some (At.of (c1 _ _ (.head _)) _ Z) (nR.mk ⟨.map (some L),Z,(Q.at c0).mono U⟩)⟩
theorem xB (i:kL) (r:Bool) (w:World) (hm:tK i=some r) :
  lF true pg0 118 [vA (kR i)] w (vB r):=by
 refine cG 11 func118 Z (λd=>sg (VE (lY d Z (λH J d=>Wa (lr (Wf sE (VB d Mh Z Z bU (bS hm λK y hm=>VE (Eg d call19 (xq i.kO _ _  y) λI d=>Wm (LJ hm (λk E W=>∃j,ST true lN w W (hp w) j∧E 2=vB false∧E 10=vB k) 4 ?_ λk a g=>?_))))))))))
 ·rintro G E W ⟨j,d,B,x⟩ t
  exact Wg x (lt (rQ t d))
 refine bC a (λc a=>?_) (λc a=>?_)
 ·refine ug c (kU zu Z) (ug c (kP Z (kZ d.has Mh Z bU)) (bS a λD u a=>sh c (Eg d call19 (xq i.Word _ _  u) λz d=>V (lh (cB c) Z) ?_)))
  cases sj a
  exact g _ _ ⟨_,d.kM (Db St),Z,Z⟩
 refine un c (un c (un c (V (lg (cB c) Z) ?_)))
 cases sj a
 exact g _ _ ⟨_,d.kM (Db St),Z,Z⟩
theorem aao (w:World) (a b:ByteArray):(callFunc 210 [Value.string a,.string b].toArray).run pg0 w= .ok (.value (vI (tz a b))) w:=WS func210 (by kernel_rfl) (by kernel_rfl) (by kernel_rfl) (by kernel_rfl) a b w
theorem CZ (a c:ByteArray) (r:Int) (w:World) (hm:pL a c=some r) :
  lF true pg0 189 [vS a,vS c] w (vI r):=by
 exact cG 8 func189 Z (λd=>sg (Wa (lr (Wm (Wm (VE (Uu (args:=[vS a,vS c]) (v:=vI (tz a c)) Z (by exact pj Z Z) (aao _ a c) (Wa (lt (rQ hm d))))))))))
theorem FR (a c:ByteArray) (r:Int) (w:World) (hm:uf a c=some r) :
  lF true pg0 151 [vS a,vS c] w (vI r):=by
 refine cG 8 func151 Z (λd=>sg (Wa (lr (Wm (Wm (bS hm λj g hm=>VE (Eg d call189 (CZ a c _ _  g) λi d=>Wa (ln ?_))))))))
 exact lB (rQ hm d)
theorem Rz (c:Sl (Pl (lu .i64)) 1 (hp qa) q0 qo) (hm:zX qo=some qc) :
  lF true pg0 150 [q0] qa (vI qc):=by
 refine cG 18 func150 Z (λd=>sg (Wa (lr (Wa (lS (Wm ?_))))))
 refine V (lT ez Z c) (Wm (ln (mJ 8 7 (λi n E W=>∃k,ST true lN qa W (hp qa) k∧E 3=vI 0∧E 6=q0∧xJ n=some qc) c.len ⟨_,d.kM,Z,Z,hm⟩ ?_ ?_)))
 ·rintro G u H E W B ⟨⟨g,h⟩,k,d,j,t,a⟩
  refine sg (VQ (oz (enc:=lu .i64) (i:=(G:Int)) (x0:=u) ez dH t g c (aG _) B) λI z=>V (kP Z (rz d.has (y:=vI u) z bH)) (Wa (lr (Wm (Wh j (Wi Z (ln (CI a Z (λx a=>?_) λx a=>?_))))))))
  ·refine sg (Wm (Wa (lt (mG (ly (mG (ly ?_)))))))
   cases sj a
   exact rP d
  exact lU (lD (kW ⟨g,h,_,d.kM,j,t,a⟩))
 rintro E W ⟨⟨g,h⟩,k,d,j,t,a⟩
 exact kW (sg (Wh j (Wa (lt (rQ a d)))))
theorem HY (g i:kL) (r:Int) (w:World) (hm:tY g i=some r) :
  lF true pg0 119 [vA (kR g),vA (kR i)] w (vI r):=by
 refine cG 17 func119 Z (λd=>sg (VE (lY d Z (λG I d=>VE (lY d Z (λH J d=>Wa (ln (kY ?_))))))))
 have d:=d.drew
 have h:=d.has.kM (Kb (Kb Sn))
 refine mh h lM (X 0 Z h (kU sE Z) (XH 1 Z h (λ_ n=>kP Z (kZ n (Mt Mh) Z bU)) (X 2 Z h (kU sE Z) (XH 3 Z h (λ_ n=>kP Z (kZ n Mh Z bU)) (X 5 Z h (kU zu Z) (XH 6 Z h (λ_ n=>kP Z (kZ n (Mt Mh) Z bU)) (X 7 Z h (kU zu Z) (XH 8 Z h (λ_ n=>kP Z (kZ n Mh Z bU)) (bS hm λa j hm=>XE 4 Z (Eg d call151 (FR g.kO i.kO _ _  j) λx d=>?_))))))))))
 have h:=d.has.kM (Kb (Kb Sn))
 refine ⟨h,bS hm λc k hm=>XE 9 Z (Eg d call151 (FR g.Word i.Word _ _  k) λy d=>?_)⟩
 have h:=d.has.kM (Kb (Kb Sn))
 refine ⟨h,XE 10 Z (lE (cs:=#[vI a,vI c]) d (pF Z Z) (ng ez dH kk) λz u d=>?_)⟩
 have h:=d.has.kM (Db (Kb (Kb Sn)))
 refine ⟨h,bS hm λD t hm=>XE 11 Z (Eg d call150 (Rz (Sl.lit (enc:=lu .i64) (l:=[a,c]) (λ_=>rfl) Z nb Z (d.at_ Mh)) t) λB d=>?_)⟩
 have h:=d.has.kM (Db (Kb (Kb Sn)))
 refine ⟨h,X 12 Z h (nz Z) (ml kr (kW ?_))⟩
 exact lB (rQ hm d)
set_option maxHeartbeats 4000000 in
theorem xC (a:kK) (r:Bool) (w:World) (hm:sJ a=some r) :
  lF true pg0 63 [vA (kQ a)] w (vB r):=by
 let m9:=(⟨a.Kind,a.Head,zS,a.B,a.C,zS⟩:kK)
 let j2:=(⟨a.Kind,a.Head,zS,a.B,K0,a.lW⟩:kK)
 let j1:Value:=vA (kR a.B)
 let g6:=(kQ (⟨a.Kind,a.Head,zS,a.B,K0,zS⟩:kK)).toArray
 let s:=(⟨a.Kind,a.Head,zS,K0,K0,zS⟩:kK)
 refine cG 98 func63 Z (λd=>sg (VE (lY d Z (λW2 N d=>Wa (lr (Wf rG (VB d Mh Z Z bH (Wf ud (VA d Mh (kR a.Head) bE aI (V (lX (v:=vA (kQ s)) (pF Z Z) (lG cO dy (Oj _ dy) kr)) (VE (lq d cO λW4 B d=>?_))))))))))))
 refine VO (FA (h1:=ow s) ((kQ s).toArray) d aK λW5 d=>lr (Wf ud (VA d (Mt Mh) (kR a.Head) bE aI (bS hm λq j4 hm=>VE (Eg d kl (xB a.Head _ _  j4) λW8 d=>Wa (ln (kY (Hs hm (λP E W=>∃b6,ST true lN w W (hp w) ((B,Ol (kQ P.2) 55)::((N,Ol (kQ a) 55)::b6))∧E 1=vP N∧E 3=vP B∧E 4=vB P.1) (λP g A=>?_) ?_))))))))
 ·let g5:=((kQ m9).toArray:Array Value)
  let b8:=((kQ j2).toArray:Array Value)
  let p:Value:=vP B
  let o:Value:=vP N
  let a0:=((kQ a).toArray:Array Value)
  refine sg (Wf rG (VB d (Mt Mh) Z Z bH (ln (bg (Wi Z (Wa (ln (CI g Z (λe5 g=>?_) λe5 g=>?_))))))))
  ·have d:=d.drew
   have h:=d.has.kM (Db (Kb Sn))
   refine mh h lM (X 0 Z h (kU zY Z) (XH 1 Z h (λ_ n=>kP Z (kZ n Mh Z bU)) (X 2 Z h (kT Z) (X 3 Z h (kT Z) (X 8 Z h (kU zY Z) (PJ g (λd6 E W=>∃b9,ST true lN w W (hp w) ((B,Ol (kQ s) 55)::((N,oC a0 55)::b9))∧E 1=o∧E 3=p∧E 4=vB q∧E 18=vS a.lV∧E 24=vB d6∧E 25= .pointer (some ⟨B,3,none⟩)) (bm 11 511) 2 ?_ λd6 D a2=>?_))))))
   ·rintro m1 E W ⟨b9,d,h2,h3,k8,h4,h5,h6⟩ f1
    refine XO 9 Z (lz (vS a.lV) ((kQ (⟨a.Kind,a.Head,a.lV,K0,K0,zS⟩:kK)).toArray) d h6 h4 er (EJ a.lV) nb Z (λj5 d=>?_))
    have h:=d.has.kM (Db (Kb Sn))
    refine ⟨h,X 10 Z h (nz h5) (ml kr (lD (kW ?_)))⟩
    cases sj f1
    exact ⟨_,Z,_,d.kM,h2,h3,Z⟩
   refine bC D (λk D=>?_) (λk D=>?_)
   ·refine Xg 4 Z Z (cB k) h (kU zY Z) (uq 5 Z Z (cB k) h (λ_ n=>kP Z (kZ n Mh Z bU)) (bS D λl2 f9 D=>Al 6 Z Z (cB k) (Eg d call19 (xq a.lV _ _  f9) λj6 d=>?_)))
    have h:=d.has.kM (Db (Kb Sn))
    refine ⟨h,X 7 Z h (lh (cB k) Z) ?_⟩
    cases sj D
    refine nr kr (a2 _ _ ⟨_,d.kM,Z,Z,Z,Z,Z,Z⟩)
   refine Xn 4 Z Z (cB k) h (Xn 5 Z Z (cB k) h (Xn 6 Z Z (cB k) h (X 7 Z h (lg (cB k) Z) ?_)))
   cases sj D
   refine nr kr (a2 _ _ ⟨_,d.kM,Z,Z,Z,Z,Z,Z⟩)
  refine sg (Wi Z (Wa (ln (CI g Z (λe6 g=>?_) λe6 g=>?_))))
  ·have d:=d.drew
   have h:=d.has.kM (Db (Kb Sn))
   refine mh h lM (X 0 Z h (kU ph Z) (XH 1 Z h (λ_ n=>kP Z (kV n Mh (kR a.B) Z bE aI)) (X 2 Z h (kT Z) (X 3 Z h (kT Z) (X 8 Z h (kU ph Z) (PJ g (λd7 E W=>∃c0,ST true lN w W (hp w) ((B,Ol (kQ s) 55)::((N,oC a0 55)::c0))∧E 1=o∧E 3=p∧E 4=vB q∧E 29=j1∧E 35=vB d7∧E 36= .pointer (some ⟨B,4,none⟩)) (bm 11 511) 2 ?_ λd7 G a3=>?_))))))
   ·rintro m2 E W ⟨c0,d,h7,h8,k9,h9,i0,i1⟩ f2
    refine XO 9 Z (lz j1 g6 d i1 h9 aI (oQ a.B) nb Z (λj7 d=>?_))
    have h:=d.has.kM (Db (Kb Sn))
    refine ⟨h,X 10 Z h (nz i0) (ml kr (lD (kW ?_)))⟩
    cases sj f2
    exact ⟨_,Z,_,d.kM,h7,h8,Z⟩
   refine bC G (λt G=>?_) (λt G=>?_)
   ·refine Xg 4 Z Z (cB t) h (kU ph Z) (uq 5 Z Z (cB t) h (λ_ n=>kP Z (kV n Mh (kR a.B) Z bE aI)) (bS G λl3 g0 G=>Al 6 Z Z (cB t) (Eg d kl (xB a.B _ _  g0) λj8 d=>?_)))
    have h:=d.has.kM (Db (Kb Sn))
    refine ⟨h,X 7 Z h (lh (cB t) Z) ?_⟩
    cases sj G
    refine nr kr (a3 _ _ ⟨_,d.kM,Z,Z,Z,Z,Z,Z⟩)
   refine Xn 4 Z Z (cB t) h (Xn 5 Z Z (cB t) h (Xn 6 Z Z (cB t) h (X 7 Z h (lg (cB t) Z) ?_)))
   cases sj G
   refine nr kr (a3 _ _ ⟨_,d.kM,Z,Z,Z,Z,Z,Z⟩)
  refine sg (Wi Z (Wa (ln (CI g Z (λe7 g=>?_) λe7 g=>?_))))
  ·refine kY ?_
   have d:=d.drew
   have h:=d.has.kM (Db (Kb Sn))
   refine mh h lM (X 0 Z h (kU ph Z) (XH 1 Z h (λ_ n=>kP Z (kV n Mh (kR a.B) Z bE aI)) (X 2 Z h (kU yc Z) (XH 3 Z h (λ_ n=>kP Z (kZ n Mh Z bU)) (X 4 Z h (kU ph Z) (XO 5 Z (lz j1 g6 d Z Z aI (oQ a.B) nb Z (λj9 d=>?_))))))))
   have h:=d.has.kM (Db (Kb Sn))
   refine ⟨h,X 6 Z h (kU yc Z) (XO 7 Z (lz (vS a.lW) ((kQ j2).toArray) d Z Z er (EJ a.lW) nb Z (λk0 d=>?_)))⟩
   have h:=d.has.kM (Db (Kb Sn))
   refine ⟨h,ml kr (kW (kX (Wm (Wm (LJ g (λe0 E W=>∃c1,ST true lN w W (hp w) ((B,oC b8 55)::((N,oC a0 55)::c1))∧E 1=o∧E 3=p∧E 4=vB q∧E 50=vB e0) 4 ?_ λe0 I a6=>?_)))))⟩
   ·rintro m3 E W ⟨c1,d,U,c7,c8,i2⟩ f3
    refine Wh i2 (LJ f3 (λd9 E W=>∃c2,ST true lN w W (hp w) ((B,oC b8 55)::((N,oC a0 55)::c2))∧E 1=o∧E 3=p∧E 4=vB q∧E 59=vB d9) 8 ?_ λd9 T a5=>?_)
    ·rintro m4 E W ⟨c2,d,L,c9,d0,i3⟩ f4
     refine Wh i3 (LJ f4 (λd8 E W=>∃c3,ST true lN w W (hp w) ((B,oC b8 55)::((N,oC a0 55)::c3))∧E 1=o∧E 3=p∧E 4=vB q∧E 64=vB d8) 4 ?_ λd8 H a4=>?_)
     ·rintro m5 E W ⟨c3,d,i4,i5,l0,i6⟩ f5
      refine Wg i6 (lC (lD (kW ?_)))
      cases sj f5
      exact ⟨_,Z,_,d.kM,i4,i5,Z⟩
     refine bC H (λx H=>?_) (λx H=>?_)
     ·refine ug x (kU yc L) (ug x (kP Z (kZ d.has (Mt Mh) Z bU)) (bS H λl4 g1 H=>sh x (Eg d call19 (xq a.lW _ _  g1) λk1 d=>V (lh (cB x) Z) ?_)))
      cases sj H
      exact a4 _ _ ⟨_,d.kM,L,c9,d0,Z⟩
     refine un x (un x (un x (V (lg (cB x) Z) ?_)))
     cases sj H
     exact a4 _ _ ⟨_,d.kM,L,c9,d0,Z⟩
    refine bC T (λc T=>?_) (λc T=>?_)
    ·refine ug c (kU ph U) (ug c (kU sE Z) (ug c (kP Z (kZ d.has (Mt Mh) Z bU)) (ug c (kU ud U) (ug c (kU sE Z) (ug c (kP Z (kZ d.has (Mt Mh) Z bU)) (ug c (rF Z Z Z) (V (lh (cB c) Z) ?_)))))))
     cases sj T
     exact a5 _ _ ⟨_,d.kM,U,c7,c8,Z⟩
    refine un c (un c (un c (un c (un c (un c (un c (V (lg (cB c) Z) ?_)))))))
    cases sj T
    exact a5 _ _ ⟨_,d.kM,U,c7,c8,Z⟩
   refine bC I (λu I=>?_) (λu I=>?_)
   ·refine ug u (kU ph Z) (ug u (kP Z (kV d.has (Mt Mh) (kR a.B) Z bE aI)) (bS I λl5 g2 I=>sh u (Eg d kl (xB a.B _ _  g2) λk2 d=>V (lh (cB u) Z) ?_)))
    cases sj I
    exact a6 _ _ ⟨_,d.kM,Z,Z,Z,Z⟩
   refine un u (un u (un u (V (lg (cB u) Z) ?_)))
   cases sj I
   exact a6 _ _ ⟨_,d.kM,Z,Z,Z,Z⟩
  refine sg (Wi Z (Wa (ln (CI g Z (λe8 g=>?_) λe8 g=>?_))))
  ·refine kY ?_
   have d:=d.drew
   have h:=d.has.kM (Db (Kb Sn))
   refine mh h lM (X 0 Z h (kU ph Z) (XH 1 Z h (λ_ n=>kP Z (kV n Mh (kR a.B) Z bE aI)) (X 2 Z h (kU vH Z) (XH 3 Z h (λ_ n=>kP Z (kV n Mh (kR a.C) Z bE aI)) (X 4 Z h (kU ph Z) (XO 5 Z (lz j1 g6 d Z Z aI (oQ a.B) nb Z (λk3 d=>?_))))))))
   have h:=d.has.kM (Db (Kb Sn))
   refine ⟨h,X 6 Z h (kU vH Z) (XO 7 Z (lz (vA (kR a.C)) ((kQ m9).toArray) d Z Z aI (oQ a.C) nb Z (λk4 d=>?_)))⟩
   have h:=d.has.kM (Db (Kb Sn))
   refine ⟨h,ml kr (kW (kX (Wm (Wm (LJ g (λe3 E W=>∃c4,ST true lN w W (hp w) ((B,oC g5 55)::((N,oC a0 55)::c4))∧E 1=o∧E 3=p∧E 4=vB q∧E 78=vB e3) 4 ?_ λe3 M a9=>?_)))))⟩
   ·rintro m6 E W ⟨c4,d,O,d1,d2,i7⟩ f6
    refine Wh i7 (LJ f6 (λe2 E W=>∃c5,ST true lN w W (hp w) ((B,oC g5 55)::((N,oC a0 55)::c5))∧E 1=o∧E 3=p∧E 4=vB q∧E 83=vB e2) 4 ?_ λe2 K a8=>?_)
    ·rintro m7 E W ⟨c5,d,Y,d3,d4,i8⟩ f7
     refine Wh i8 (LJ f7 (λe1 E W=>∃c6,ST true lN w W (hp w) ((B,oC g5 55)::((N,oC a0 55)::c6))∧E 1=o∧E 3=p∧E 4=vB q∧E 91=vB e1) 7 ?_ λe1 J a7=>?_)
     ·rintro m8 E W ⟨c6,d,i9,j0,l1,j3⟩ f8
      refine Wg j3 (lC (lD (kW ?_)))
      cases sj f8
      exact ⟨_,Z,_,d.kM,i9,j0,Z⟩
     refine bC J (λi J=>?_) (λi J=>?_)
     ·refine ug i (kU ph Y) (ug i (kP Z (kV d.has (Mt Mh) (kR a.B) Z bE aI)) (ug i (kU vH Y) (ug i (kP Z (kV d.has (Mt Mh) (kR a.C) Z bE aI)) (bS J λl6 g3 J=>sh i (Eg d call119 (HY a.B a.C _ _  g3) λk5 d=>ug i (lI Z Z Z) (V (lh (cB i) Z) ?_))))))
      cases sj J
      exact a7 _ _ ⟨_,d.kM,Y,d3,d4,Z⟩
     refine un i (un i (un i (un i (un i (un i (V (lg (cB i) Z) ?_))))))
     cases sj J
     exact a7 _ _ ⟨_,d.kM,Y,d3,d4,Z⟩
    refine bC K (λz K=>?_) (λz K=>?_)
    ·refine ug z (kU vH O) (ug z (kP Z (kV d.has (Mt Mh) (kR a.C) Z bE aI)) (bS K λl7 g4 K=>sh z (Eg d kl (xB a.C _ _  g4) λk6 d=>V (lh (cB z) Z) ?_)))
     cases sj K
     exact a8 _ _ ⟨_,d.kM,O,d1,d2,Z⟩
    refine un z (un z (un z (V (lg (cB z) Z) ?_)))
    cases sj K
    exact a8 _ _ ⟨_,d.kM,O,d1,d2,Z⟩
   refine bC M (λy M=>?_) (λy M=>?_)
   ·refine ug y (kU ph Z) (ug y (kP Z (kV d.has (Mt Mh) (kR a.B) Z bE aI)) (bS M λl8 g7 M=>sh y (Eg d kl (xB a.B _ _  g7) λk7 d=>V (lh (cB y) Z) ?_)))
    cases sj M
    exact a9 _ _ ⟨_,d.kM,Z,Z,Z,Z⟩
   refine un y (un y (un y (V (lg (cB y) Z) ?_)))
   cases sj M
   exact a9 _ _ ⟨_,d.kM,Z,Z,Z,Z⟩
  refine sg (Wa (ln ?_))
  have d:=d.kM (Db (Db St))
  refine lB (mG (ly ?_))
  cases sj g
  replace A:some false=some r:=A
  cases sj A
  exact rP d
 rintro ⟨l9,e4⟩ E W ⟨b6,d,g8,g9,h0⟩ e9
 refine sg (Wh h0 (Wm (LJ e9 (λd5 E W=>∃b7,ST true lN w W (hp w) b7∧E 97=vB d5) 4 ?_ λd5 Q R=>?_)))
 ·rintro m0 E W ⟨b7,d,h1⟩ f0
  exact Wg h1 (lt (rQ f0 d))
 refine bC Q (λj Q=>?_) (λj Q=>?_)
 ·refine ug j (kP g9 (kV d.has Mh (kQ e4) Z bK aK)) (ug j (kP g8 (kV d.has (Mt Mh) (kQ a) Z bK aK)) (ug j (wE Z Z (nY eO) (so (yK _ e4 a))) (V (lh (cB j) Z) ?_)))
  cases sj Q
  exact R _ _ ⟨_,d.kM (Db (Db St)),Z⟩
 refine un j (un j (un j (V (lg (cB j) Z) ?_)))
 cases sj Q
 exact R _ _ ⟨_,d.kM (Db (Db St)),Z⟩
theorem E9 {r:((List Int)×Int)} (Y:nN qb [] qa) (c:we nR qb q0 qN) (hm:xw qN qB=some r) :
  mq true pg0 33 [q0,vA (kQ qB)] qa qb [] (λv U p=>∃T,v=vT [T,vI r.2]∧U=[]∧Sl (Pl (lu .u8)) 1 p T r.1):=by
 refine ve Y 29 func33 Z (λa=>sg (VE (lY a Z (λW2 s a=>Wa (Wa (ln (kY (bg (Wm (V (MR underlying29 c Z Z) (Wa ?_)))))))))))
 refine ln (CI hm Z (λM hm=>?_) λM hm=>?_)
 ·refine sg (Wa (Wa (ln ?_)))
  have a:=a.kM (Db St)
  refine lB (mG (ly ?_))
  cases sj hm
  exact zh (v:=vN) (u:=vI 1) Z Z Z ⟨_,_,_,Z,a.lZ Sn,lm.refl _,Lo.refl,ST.lp a (mu.mem Sn),vN,Z,Z,Sl.nil _ _ _⟩
 refine sg (VA a Mh (kQ qB) bK aK (bS hm λt Q hm=>VE (Eg a call63 (xC qB _ _  Q) λW6 a=>V (nt Z) (Wa (ln (CI hm Z (λN hm=>?_) λN hm=>?_))))))
 ·refine sg (Wa (Wa (ln ?_)))
  have a:=a.kM (Db St)
  refine lB (mG (ly ?_))
  cases sj hm
  exact zh (v:=vN) (u:=vI 11) Z Z Z ⟨_,_,_,Z,a.lZ Sn,lm.refl _,Lo.refl,ST.lp a (mu.mem Sn),vN,Z,Z,Sl.nil _ _ _⟩
 refine lU (lD (kW (kY ?_)))
 have a:=a.drew
 have d:=a.has.kM (Kb Sn)
 refine mh d lM (X 0 Z d (kT Z) (bS hm λa5 I hm=>XQ 1 Z d (Pw nR.out c I Z) λa3 ⟨_,⟨x,rfl,H⟩,D⟩=>XQ 2 Z d (tO [x] QQ Z D Z) λa4 G=>XH 3 Z d (λ_ h=>kP Z (rz h (y:=x) G isAgg72)) (X 4 Z d (kU ud Z) (X 5 Z d (kU sE Z) (XH 6 Z d (λ_ h=>kP Z (kZ h Mh Z bU)) ?_)))))
 obtain ⟨j,a2,g,i⟩:=H
 refine XH 7 Z d (λ_ h=>H8 (k:=qB.Head.kO) (z:=vN) Ji underlying72 iI Z Z g λb o q=>h.1 b o (i b o q)) (X 8 Z d (kT Z) (X 9 Z d (xA Z Z) (X 10 Z d (xA Z Z) (X 11 Z d (nz Z) (X 12 Z d (nz Z) (ml kr (kW ?_)))))))
 have a:=a.kM (Db St)
 refine kY (sg (Wm (V (nt Z) (ln (CI hm Z (λB hm=>?_) λB hm=>?_)))))
 ·refine sg (Wa (Wa (lt (ly ?_))))
  cases sj hm
  exact zh (v:=vN) (u:=vI 21) Z Z Z ⟨_,_,_,Z,a.lZ Sn,lm.refl _,Lo.refl,ST.lp a (mu.mem Sn),vN,Z,Z,Sl.nil _ _ _⟩
 refine kg (Wm (Wa (Wa (lt ?_))))
 cases sj hm
 exact zh (v:=tU mx j qB.Head.kO vN) (u:=vI 0) Z Z Z ⟨_,_,_,Z,a.lZ Sn,lm.refl _,Lo.refl,ST.lp a (mu.mem Sn),tU mx j qB.Head.kO vN,Z,Z,ou.ach (enc:=lu .u8) (n:=1) (λ_=>rfl) mU.1 g qB.Head.kO i⟩
theorem pk (p:nN qb ((qk,Ob #[q0] 139)::(qf++[])) qa) (y:lQ 5 (lu .u8) 1 q0 qo qf) (hm:nD qo qc=some qR) :
  mX true pg0 69 [vP qk,vI qc] qa ((qk,Ob #[q0] 139)::(qf++[])) (λv L1 W'=>∃h S2,v=vB qR.1∧L1=((qk,Ob #[h] 139)::(S2++[]))∧lQ 5 (lu .u8) 1 h qR.2 S2):=by
 refine Bl p 38 func69 Z (λd=>sg (Wa (lS (Wm (V (uc fi Z Z) (Wm (Vg Z Z (kT Z) (Vg Z Z (lI Z Z Z) (V (lg Z Z) ?_)))))))))
 refine ln (CI hm Z (λa9 hm=>?_) λa9 hm=>?_)
 ·refine sg (Wa (lt (ly ?_)))
  cases sj hm
  exact ma (v:=vB false) Z Z ⟨_,_,Z,d.lZ (Kb (Kr Sn)),q0,qf,Z,Z,y⟩
 refine kn (kY (mA (nQ (λm E W=>∃c z U u a0,ST true (keys ((qk,Ob #[q0] 139)::(qf++[]))) qa W qb ((qk,Ob #[z] 139)::(u++a0))∧E 0=vP qk∧E 1=vI c∧lQ 5 (lu .u8) 1 z U u∧pE m c U=some qR) lP ⟨qc,q0,qo,qf,_,d.kM,Z,Z,y,hm⟩ ?_)))
 rintro m E W ⟨c,z,U,u,a0,d,x,K,T,g⟩
 cases m with
 | zero=>rw [pE] at g; cases g
 | succ o=>
  refine kY (sg (Wh K (Wi Z (ln (CI g Z (λj g=>?_) λj g=>?_)))))
  ·refine kn (kY (mA (kX (Wh x (Wh x (Wn (Wf BV (VB d Mh Z Z dm (Wh K (V (pt (k':=.i64) (a:=c) ed cJ Z) (V (E1 (k:=.u8) (a:=IntKind.u8.wrap c) (b:=128) (v:= .int .u8 (IntKind.u8.wrap (BitVec.ofInt (IntKind.bits .u8) (IntKind.u8.wrap c) ||| BitVec.ofInt (IntKind.bits .u8) 128).toNat)) Z Z dc Z) (VE (lE (cs:=[.int .u8 (IntKind.u8.wrap (BitVec.ofInt (IntKind.bits .u8) (IntKind.u8.wrap c) ||| BitVec.ofInt (IntKind.bits .u8) 128).toNat)].toArray) d (mB Z) (ng aT fc fT) λG n d=>?_)))))))))))))
   have d:=d.perm (Nr (Qb (Qb Qz)) Nz)
   refine bS g λQ Y g=>VE (oG (enc:=lu .u8) (v:=z) (vs:= .slice (some ⟨n,0,none⟩) 1 1) (R:=u) d (λ_=>rfl) dc (uk _) aT tk.1 tk.2.1 Z tk.2.2.1 tk.2.2.2 Z Z T (Sl.lit (enc:=lu .u8) (l:=[IntKind.u8.wrap (BitVec.ofInt (IntKind.bits .u8) (IntKind.u8.wrap c) ||| BitVec.ofInt (IntKind.bits .u8) 128).toNat]) (λ_=>rfl) Z nb Z (d.at_ (Ma Mh))) Y λq c1 a2 d M=>Wn (Wf BV ?_))
   obtain ⟨B,H,rfl⟩:=M.form
   have d:=d.perm (Nb (Pr (Pb Pz)) Nz)
   refine VO (lz (.slice B Q.length H) (#[.slice B Q.length H]) d Z Z eQ oc nb Z (λs d=>lC (lD (kW ?_))))
   have d:=d.kM (Kb (Kr (Db St)))
   exact kX (Wh K (V (I5 (a:=c) (b:=7) Z Z dc) (Wa (ln ⟨o,bB _,Int.fdiv c (2 ^ min (Int.toNat 7) (IntKind.bits .i64)),.slice B Q.length H,Q,a2,_,d.kM,x,Z,M,g⟩))))
  refine nB (nv (nv (ry (kW (sg (Wh x (Wh x (Wn (Wf BV (VB d Mh Z Z dm (Wh K (V (pt (k':=.i64) (a:=c) ed cJ Z) (VE (lE (cs:=[.int .u8 (IntKind.u8.wrap c)].toArray) d (mB Z) (ng aT fc fT) λt a5 d=>?_))))))))))))))
  have d:=d.perm (Nr (Qb (Qb Qz)) Nz)
  refine bS g λJ i g=>VE (oG (enc:=lu .u8) (v:=z) (vs:= .slice (some ⟨a5,0,none⟩) 1 1) (R:=u) d (λ_=>rfl) dc (uk _) aT tk.1 tk.2.1 Z tk.2.2.1 tk.2.2.2 Z Z T (Sl.lit (enc:=lu .u8) (l:=[IntKind.u8.wrap c]) (λ_=>rfl) Z nb Z (d.at_ (Ma Mh))) i λw c2 a3 d N=>Wn (Wf BV ?_))
  obtain ⟨D,I,rfl⟩:=N.form
  have d:=d.perm (Nb (Pr (Pb Pz)) Nz)
  refine VO (lz (.slice D J.length I) (#[.slice D J.length I]) d Z Z eQ oc nb Z (λA d=>ln ?_))
  have d:=d.kM (Kb (Kr (Db St)))
  refine sg (Wa (lt ?_))
  cases sj g
  exact ma (v:=vB true) Z Z ⟨_,_,Z,d.lZ (Kb (Kr Sn)),.slice D J.length I,a3,Z,Z,N⟩
theorem zV (d:nN qb ((qk,Ob #[q0] 139)::(qf++[])) qa) (i:lQ 5 (lu .u8) 1 q0 qo qf) (k:Sl (Pl (lu .u8)) 1 qb q1 qp) (hm:wu qo qp=some qR) :
  mX true pg0 77 [vP qk,q1] qa ((qk,Ob #[q0] 139)::(qf++[])) (λv L1 W'=>∃U M,v=vB qR.1∧L1=((qk,Ob #[U] 139)::(M++[]))∧lQ 5 (lu .u8) 1 U qR.2 M):=by
 refine Bl d 25 func77 Z (λa=>sg (Wa (lS (Wm (V (uc fi Z Z) (Wm (Vg Z Z (kT Z) (Vg Z Z (lT aT Z k) (Vg Z Z (lI Z Z Z) ?_)))))))))
 refine V (lg Z Z) (ln (CI hm Z (λQ hm=>?_) λQ hm=>?_))
 ·refine sg (Wa (lt (ly ?_)))
  cases sj hm
  exact ma (v:=vB false) Z Z ⟨_,_,Z,a.lZ (Kb (Kr Sn)),q0,qf,Z,Z,i⟩
 refine kg (Wm (Wm (V (lT aT Z k) (bS hm λo T hm=>?_))))
 refine VE (eM a (Cb Pz (Cr Qz Cn)) km (λg _=>pk g i T) ?_)
 rintro _ v8 j a3 a H h c ⟨Y,K,t,rfl,I⟩
 cases t
 have a:=a.perm (Tb (Tr Tn))
 refine lr (Wm (Wm (Wn (Wf BV (VB a Mh Z Z dm (Wm ?_))))))
 have a:=a.perm (Nr (Qb Qz) Nz)
 refine bS hm λB G hm=>VE (oG (enc:=lu .u8) (v:=Y) (vs:=q1) (R:=K) a (λ_=>rfl) dc (uk _) aT tk.1 tk.2.1 Z tk.2.2.1 tk.2.2.2 Z Z I (k.mono (Pl.mono _) (H.trans a.lb)) G λa4 n J a z=>Wn (Wf BV ?_))
 obtain ⟨x,y,rfl⟩:=z.form
 have a:=a.perm (Nb (Pr Pz) Nz)
 refine VO (lz (.slice x B.length y) (#[.slice x B.length y]) a Z Z eQ oc nb Z (λa5 a=>lr (Wa (lt ?_))))
 cases sj hm
 exact ma (v:=vB true) Z Z ⟨_,_,Z,a.lZ (Kb (Kr Sn)),.slice x B.length y,J,Z,Z,z⟩
theorem DR (q:nN qb ((qk,Ob #[q0] 139)::(qf++[])) qa) (k:lQ 5 (lu .u8) 1 q0 qo qf) (hm:yI qo qC=some qR) :
  mX true pg0 71 [vP qk,vS qC] qa ((qk,Ob #[q0] 139)::(qf++[])) (λv L1 W'=>∃n S2,v=vB qR.1∧L1=((qk,Ob #[n] 139)::(S2++[]))∧lQ 5 (lu .u8) 1 n qR.2 S2):=by
 refine Bl q 17 func71 Z (λa=>sg (Wa (lr (Wm (V (Ga fi Z Z) (Wm (Vg Z Z (kT Z) (bS hm λr1 a4 hm=>RN Z Z (Eg a call19 (xq qC _ _  a4) λW3 a=>V (lh Z Z) ?_)))))))))
 refine Wm (LJ hm (λB E W=>∃z x D I,lm qb D∧ST true (keys ((qk,Ob #[q0] 139)::(qf++[]))) qa W D ((qk,Ob #[z] 139)::(x++I))∧E 4=vB false∧E 16=vB B.1∧lQ 5 (lu .u8) 1 z B.2 x) 5 ?_ λB g y=>?_)
 ·rintro ⟨o,P⟩ E W ⟨z,x,D,I,w,a,O,a3,T⟩ M
  refine Wg a3 (lt ?_)
  cases sj M
  exact ma (v:=vB o) Z Z ⟨_,_,Z,a.lZ (Kb (Kr Sn)),z,x,Z,Z,T⟩
 refine bC g (λi g=>?_) (λi g=>?_)
 ·refine ug i (kT Z) (ug i (kT Z) (bS g λa5 N g=>sh i (Kv a bG aT cJ Z N λL t R a G h U A=>bS g λc1 Q g=>?_)))
  refine sh i (eM a (Cb Pz (Cr Qz Cn)) call77 (λs d=>zV s k (U.mono (Pl.mono _) d) Q) ?_)
  rintro _ c2 p J a H j c ⟨a9,a2,u,rfl,Y⟩
  cases u
  have a:=a.perm (Tb (Tr Tn))
  refine V (lh (cB i) Z) ?_
  cases sj g
  exact y _ _ ⟨a9,a2,p,_,G.trans H,a.kM,Z,Z,Y⟩
 refine un i (un i (un i (un i (V (lg (cB i) Z) ?_))))
 cases sj g
 exact y _ _ ⟨q0,qf,qb,_,lm.refl _,a.kM,Z,Z,k⟩
theorem Ao (h0:nN qb ((qk,Ob #[q0] 139)::(qf++[])) qa) (y:lQ 5 (lu .u8) 1 q0 qo qf) (hm:uC qo qP=some qR) :
  mX true pg0 70 [vP qk,vA (kR qP)] qa ((qk,Ob #[q0] 139)::(qf++[])) (λv L1 W'=>∃p S2,v=vB qR.1∧L1=((qk,Ob #[p] 139)::(S2++[]))∧lQ 5 (lu .u8) 1 p qR.2 S2):=by
 let h:=(qk,Ob #[q0] 139)::(qf++[])
 refine Bl h0 23 func70 Z (λa=>sg (VE (lY a Z (λW2 i a=>Wa (lr (Wm (V (Ga fi Z Z) (Wm (Vg Z Z (kP Z (kV a.has Mh (kR qP) Z bE aI)) (bS hm λr3 c4 hm=>RN Z Z (Eg a kl (xB qP _ _  c4) λW5 a=>?_)))))))))))
 refine V (lh Z Z) (Wm (LJ hm (λT E W=>∃z u B a0,lm qb B∧ST true (keys h) qa W B ((i,Ol (kR qP) 53)::((qk,Ob #[z] 139)::(u++a0)))∧E 0=vP qk∧E 3=vP i∧E 4=vB false∧E 16=vB T.1∧lQ 5 (lu .u8) 1 z T.2 u) 5 ?_ λT t K=>?_))
 ·rintro ⟨e6,c5⟩ E W ⟨z,u,B,a0,d2,a,c0,c1,a3,c2,N⟩ s
  refine Wh c2 (LJ s (λQ E W=>∃M I U a2,lm B U∧ST true (keys h) qa W U ((qk,Ob #[M] 139)::(I++a2))∧E 4=vB false∧E 22=vB Q.1∧lQ 5 (lu .u8) 1 M Q.2 I) 5 ?_ λQ k J=>?_)
  ·rintro ⟨c6,e1⟩ E W ⟨M,I,U,a2,d3,a,e0,c3,A⟩ w
   refine Wg c3 (lt ?_)
   cases sj w
   exact ma (v:=vB c6) Z Z ⟨_,_,Z,a.lZ (Kb (Kr Sn)),M,I,Z,Z,A⟩
  refine bC k (λg k=>?_) (λg k=>?_)
  ·refine ug g (kT c0) (ug g (kU zu c1) (ug g (kP Z (kZ a.has Mh Z bU)) (bS k λe2 x k=>?_)))
   refine sh g (eM a (Cb (Pb Pz) (Cr (Qb Qz) Cn)) call71 (λd _=>DR d N x) ?_)
   rintro _ e4 d0 d6 a Y n c ⟨c8,P,G,rfl,L⟩
   cases G
   have a:=a.perm (Tb (Tr Tn))
   refine V (lh (cB g) Z) ?_
   cases sj k
   exact J _ _ ⟨c8,P,d0,_,Y,a.kM (Kb (Kr (Db St))),a3,Z,L⟩
  refine un g (un g (un g (un g (V (lg (cB g) Z) ?_))))
  cases sj k
  exact J _ _ ⟨z,u,B,_,lm.refl _,a.kM (Db St),a3,Z,N⟩
 refine bC t (λj t=>?_) (λj t=>?_)
 ·refine ug j (kT Z) (ug j (kU sE Z) (ug j (kP Z (kZ a.has Mh Z bU)) (bS t λe3 a9 t=>?_)))
  refine sh j (eM a (Cb (Pb Pz) (Cr (Qb Qz) Cn)) call71 (λd _=>DR d y a9) ?_)
  rintro _ e5 d1 d7 a q o c ⟨c9,R,H,rfl,O⟩
  cases H
  have a:=a.perm (Tb (Tr Tn))
  refine V (lh (cB j) Z) ?_
  cases sj t
  exact K _ _ ⟨c9,R,d1,_,q,a.kM (Sb (Pb (Pr Pz)) St),Z,Z,Z,Z,O⟩
 refine un j (un j (un j (un j (V (lg (cB j) Z) ?_))))
 cases sj t
 exact K _ _ ⟨q0,qf,qb,_,lm.refl _,a.kM,Z,Z,Z,Z,y⟩
theorem yC (j:Sl (Pl (lu .u8)) 1 (hp qa) q0 qo) (k:At (hp qa) (vP qk) [q0]) (hm:rC qo=some qp) :
  mM true pg0 72 [vP qk] qa 5 (lu .u8) 1 qp:=by
 refine yd 10 func72 Z (λa=>sg (Wa (lS (Wm (V (uc fi Z Z) (ln (sM Z (lU ?_))))))))
 refine kW (sg (Wm (Wn (VQ (tO [q0] BV Z k Z) λG u=>V (kP Z (rz a.has (y:=q0) u dm)) (bS hm λH x hm=>VE (rM a call20 (CP (j.mono (Pl.mono _) a.lb) x) λD z I t a B c i=>Wa (lt ?_)))))))
 cases sj hm
 exact ma (v:=z) Z Z ⟨_,t,Z,a.oa (λp d=>Ml d) i.nd,i⟩
theorem BK (c:kK) (r:List Int) (w:World) (hm:wg c=some r) :
  mM true pg0 35 [vA (kQ c)] w 5 (lu .u8) 1 r:=by
 refine yd 53 func35 Z (λd=>sg (VE (lY d Z (λW2 b1 d=>Wa (lS (VA d Mh (kQ c) bK aK (bS hm λr3 g3 hm=>VE (Eg d call63 (xC c _ _  g3) λW5 d=>V (nt Z) (lC ?_)))))))))
 refine kW (CI hm Z (λg0 hm=>?_) λg0 hm=>?_)
 ·refine sg (Wa (ln ?_))
  have d:=d.kM (Db St)
  refine lB (ly ?_)
  cases sj hm
  exact ma (v:=vN) Z Z ⟨_,[],Z,d.oa (λp q=>by cases q) fb,lQ.nil _ _ _⟩
 refine kg (V (lX (v:=vA [vN]) oP (lG iY eE (M3 _ eE) kr)) (VE (lY d Z (λW8 g d=>Wa (lr (Wm (Wf rG (VB d (Mt Mh) Z Z bH (bS hm λr9 e2 hm=>?_)))))))))
 refine VE (eM d (Cb Pz (C0 Cn)) km (λn _=>pk n (lQ.nil _ _ _) e2) ?_)
 rintro _ k3 k5 j9 d g7 a7 h ⟨g4,f9,I,rfl,e4⟩
 cases I
 have d:=d.perm (Tb (Tr Tn))
 refine lr (Wm (Wf ud (VA d (Mt (Ma Mh)) (kR c.Head) bE aI (bS hm λN e3 hm=>?_))))
 refine VE (eM d (Cb Pz (Cr Qz Cn)) call70 (λn _=>Ao n e4 e3) ?_)
 rintro _ k4 d1 k0 d g8 a8 h ⟨G,D,J,rfl,i⟩
 cases J
 have d:=d.perm (Tb (Tr Tn))
 refine ln (kY (CJ hm (λa3 E W=>∃B H K Q,lm d1 K∧ST true lN w W K ((g,Ob #[B] 139)::(H++Q))∧E 3=vP g∧lQ 5 (lu .u8) 1 B a3 H) (λa3 a=>?_) ?_))
 ·refine sg (Wf rG (VB d (Mt (Ma Mh)) Z Z bH (ln (bg (Wi Z (Wa (ln (CI a Z (λb0 a=>?_) λb0 a=>?_))))))))
  ·refine kX (Wm (Wf zY (VB d (Mt (Ma Mh)) Z Z bU (bS a λi3 b6 a=>?_))))
   refine VE (eM d (Cb Pz (Cr Qz Cn)) call71 (λn _=>DR n i b6) ?_)
   rintro _ i8 f5 g9 d T A h ⟨e9,d3,k,rfl,c5⟩
   cases k
   have d:=d.perm (Tb (Tr Tn))
   refine lC (lD (kW ?_))
   cases sj a
   exact ⟨e9,d3,f5,_,T,d.kM (Kb (Kr (Db St))),Z,c5⟩
  refine sg (Wi Z (Wa (ln (CI a Z (λb2 a=>?_) λb2 a=>?_))))
  ·refine kX (Wm (Wf ph (VA d (Mt (Ma Mh)) (kR c.B) bE aI (bS a λi4 b9 a=>?_))))
   refine VE (eM d (Cb Pz (Cr Qz Cn)) call70 (λn _=>Ao n i b9) ?_)
   rintro _ i9 f6 h0 d U L h ⟨f0,d4,t,rfl,c6⟩
   cases t
   have d:=d.perm (Tb (Tr Tn))
   refine lC (lD (kW ?_))
   cases sj a
   exact ⟨f0,d4,f6,_,U,d.kM (Kb (Kr (Db St))),Z,c6⟩
  refine sg (Wi Z (Wa (ln (CI a Z (λb3 a=>?_) λb3 a=>?_))))
  ·refine sg (Wm (Wf ph (VA d (Mt (Ma Mh)) (kR c.B) bE aI (bS a λe6 c0 a=>?_))))
   refine VE (eM d (Cb Pz (Cr Qz Cn)) call70 (λn _=>Ao n i c0) ?_)
   rintro _ j0 j7 h1 d Y O h ⟨f1,d5,u,rfl,c7⟩
   cases u
   have d:=d.perm (Tb (Tr Tn))
   refine ln (kX (Wm (Wf yc (VB d (Mt (Ma Mh)) Z Z bU (bS a λi5 c1 a=>?_)))))
   refine VE (eM d (Cb Pz (Cr Qz Cn)) call71 (λn _=>DR n c7 c1) ?_)
   rintro _ j3 f7 h2 d Zq P h ⟨f2,d6,x,rfl,c8⟩
   cases x
   have d:=d.perm (Tb (Tr Tn))
   refine lC (lD (kW ?_))
   cases sj a
   exact ⟨f2,d6,f7,_,Y.trans Zq,d.kM (Kb (Kr (Db St))),Z,c8⟩
  refine sg (Wi Z (Wa (ln (CI a Z (λb4 a=>?_) λb4 a=>?_))))
  ·refine sg (Wm (Wf ph (VA d (Mt (Ma Mh)) (kR c.B) bE aI (bS a λe7 c2 a=>?_))))
   refine VE (eM d (Cb Pz (Cr Qz Cn)) call70 (λn _=>Ao n i c2) ?_)
   rintro _ j4 j8 h3 d a1 R h ⟨f3,d7,y,rfl,c9⟩
   cases y
   have d:=d.perm (Tb (Tr Tn))
   refine ln (kX (Wm (Wf vH (VA d (Mt (Ma Mh)) (kR c.C) bE aI (bS a λi6 c3 a=>?_)))))
   refine VE (eM d (Cb Pz (Cr Qz Cn)) call70 (λn _=>Ao n c9 c3) ?_)
   rintro _ j5 f8 h4 d a2 a6 h ⟨f4,d8,z,rfl,d0⟩
   cases z
   have d:=d.perm (Tb (Tr Tn))
   refine lC (lD (kW ?_))
   cases sj a
   exact ⟨f4,d8,f8,_,a1.trans a2,d.kM (Kb (Kr (Db St))),Z,d0⟩
  refine lU (lD (kW ?_))
  cases sj a
  exact ⟨G,D,d1,_,lm.refl _,d.kM (Kb (Kr (Db St))),Z,i⟩
 rintro e5 E W ⟨B,H,K,Q,g1,d,d9,c4⟩ j
 refine sg (Wh d9 (bS j λi2 b5 j=>VE (rM d call72 (yC (c4.sl (λ_=>rfl) λb o q=>d.at_ (Mt (Ml q))) (At.of (d.at_ Mh) _ Z) b5) λh5 e8 j6 d2 d g2 s M=>Wa (ln ?_))))
 have d:=d.kM (Kr (Db (Dr St)))
 refine lB ?_
 cases sj j
 exact ma (v:=e8) Z Z ⟨_,d2,Z,d.oa (λp q=>Ml q) M.nd,M⟩
theorem LD (i:Sl (Pl (lu .u8)) 1 (hp qa) q0 qo) (hm:zy qo=some qt) :
  lF true pg0 67 [q0] qa (vB qt):=by
 refine cG 11 func67 Z (λd=>sg (Wa (lr (Wm (V (lT aT Z i) (Wi Z (Wm (LJ hm (λx E W=>∃k,ST true lN qa W (hp qa) k∧E 2=vB false∧E 10=vB x) 4 ?_ λx c g=>?_))))))))
 ·rintro B E W ⟨k,d,z,y⟩ u
  exact Wg y (lt (rQ u d))
 refine bC c (λa c=>?_) (λa c=>?_)
 ·refine ug a (kT Z) (ug a (lT aT Z i) (ug a (lI Z Z Z) (V (lh (cB a) Z) ?_)))
  cases sj c
  exact g _ _ ⟨_,d.kM,Z,Z⟩
 refine un a (un a (un a (V (lg (cB a) Z) ?_)))
 cases sj c
 exact g _ _ ⟨_,d.kM,Z,Z⟩
theorem OR {a0:List (List Int)} (Q:Sl (O3 (lu .u8) 1) 1 (hp qa) q0 a0) (hm:Hf a0=some qc) :
  lF true pg0 68 [q0] qa (.int .u64 qc):=by
 refine cG 28 func68 Z (λd=>sg (Wa (lr (Wa (lS (Wm ?_))))))
 refine V (lT jU Z Q) (Wm (ln (mJ 10 9 (λi o E W=>∃x B,ST true lN qa W (hp qa) B∧E 3= .int .u64 x∧E 8=q0∧BI o x=some qc) Q.len ⟨14695981039346656037,_,d.kM,Z,Z,hm⟩ ?_ ?_)))
 ·rintro T O R E W q ⟨⟨h,n⟩,x,B,d,G,H,g⟩
  refine sg (VQ (XC (enc:=lu .u8) (k2:=1) (i:=(T:Int)) (x0:=O) jU eQ H h Q (aG _) q) λb7 ⟨p,a4,z⟩=>V (kP Z (rz d.has (y:=p) a4 dm)) (Wa (lr (Wm (V (lT aT Z z) (Wm (ln (tW ?_))))))))
  refine CJ g (λU E W=>∃Y,ST true lN qa W (hp qa) Y∧E 3= .int .u64 U∧E 8=q0∧E 9=vI (a0.length:Int)∧E 10=vI (T:Int)) (λU a3=>?_) ?_
  ·refine mJ 16 15 (λi o E W=>∃c D,ST true lN qa W (hp qa) D∧E 3= .int .u64 c∧E 8=q0∧E 9=vI (a0.length:Int)∧E 10=vI (T:Int)∧E 14=p∧BG o c=some U) z.len ⟨x,_,d.kM,G,H,n,h,Z,a3⟩ ?_ ?_
   ·rintro L t b6 E W s ⟨⟨h,n⟩,c,D,d,I,J,K,M,N,j⟩
    refine sg (VQ (oz (enc:=lu .u8) (i:=(L:Int)) (x0:=t) aT fc N h z (aG _) s) λb9 a5=>V (kP Z (rz d.has (y:= .int .u8 t) a5 isAgg5)) (Wa (ln (kX (Wh I (Wm (V (pt (k':=.u8) (a:=t) cJ gL Z) (V (RY (k:=.u64) (a:=c) (b:=IntKind.u64.wrap t) (v:= .int .u64 (IntKind.u64.wrap (BitVec.ofInt (IntKind.bits .u64) c ^^^ BitVec.ofInt (IntKind.bits .u64) (IntKind.u64.wrap t)).toNat)) Z Z Z) (Wi Z (Wa (lC ?_)))))))))))
    exact lD (kW ⟨h,n,IntKind.u64.wrap ((IntKind.u64.wrap (BitVec.ofInt (IntKind.bits .u64) c ^^^ BitVec.ofInt (IntKind.bits .u64) (IntKind.u64.wrap t)).toNat)*1099511628211),_,d.kM,Z,J,K,M,N,j⟩)
   rintro E W ⟨⟨h,n⟩,c,D,d,I,J,K,M,N,j⟩
   refine kW ?_
   cases sj j
   exact ⟨_,d.kM,I,J,K,M⟩
  rintro P E W ⟨Y,d,u,a9,w,A⟩ a2
  exact lD (kW ⟨A,w,P,_,d.kM,u,a9,a2⟩)
 rintro E W ⟨⟨h,n⟩,x,B,d,G,H,g⟩
 exact kW (sg (Wh G (Wa (lt (rQ g d)))))
theorem MH (j:Sl (Pl (lu .u8)) 1 (hp qa) q0 qo) (U:Sl (Pl (lu .u8)) 1 (hp qa) q1 qp) (hm:D7 qo qp=some qq) :
  mM true pg0 34 [q0,q1] qa 5 (lu .u8) 1 qq:=by
 let a2:=(qo.length:Int)
 refine yd 37 func34 Z (λd=>sg (Wa (lS (Wm (bS hm λr1 Q hm=>VE (Eg d call67 (LD (j.mono (Pl.mono _) d.lb) Q) λW3 d=>V (nt Z) (ln ?_)))))))
 refine CI hm Z (λP hm=>?_) (λP hm=>?_)
 ·refine sg (Wa (lt (ly ?_)))
  cases sj hm
  exact ma (v:=vN) Z Z ⟨_,[],Z,d.oa (λp n=>by cases n) fb,lQ.nil _ _ _⟩
 refine kg (Wm (V (lT aT Z j) (V (pt (k':=.i64) (a:=(qo.length:Int)) ed cJ Z) (VE (lE (cs:=[.int .u8 (IntKind.u8.wrap a2)].toArray) d (mB Z) (ng aT fc fT) λW6 o d=>Wm (Wm (Wm ?_)))))))
 obtain ⟨D,I,rfl⟩:=j.form
 let g:Value:= .slice D qo.length I
 obtain ⟨A9,T,rfl⟩:=U.form
 refine VE (lE (cs:=#[.slice (some ⟨o,0,none⟩) 1 1,g,.slice A9 qp.length T,g]) d (VY Z Z Z Z) (ng jU eQ iI) λc2 b2 d=>bS hm λx a9 hm=>VE (Eg d call68 (OR (O3.lit (l:=[[IntKind.u8.wrap a2],qo,qp,qo]) (vs:=[.slice (some ⟨o,0,none⟩) 1 1,g,.slice A9 qp.length T,g]) Z nb (d.at_ Mh) (.cons (Sl.lit (enc:=lu .u8) (l:=[IntKind.u8.wrap a2]) (λ_=>rfl) Z nb Z (d.at_ (Mt Mh))) (.cons (j.mono (Pl.mono _) d.lb) (.cons (U.mono (Pl.mono _) d.lb) (.cons (j.mono (Pl.mono _) d.lb) .nil))))) a9) λc3 d=>Wa (ln ?_)))
 have d:=d.kM (Db (Db St))
 refine sg (bS hm λR A hm=>VE (Lm (enc:=lu .u8) (z:=0) d (λ_=>rfl) dc aT tk.1 tk.2.1 tk.2.2.1 tk.2.2.2 Z Z Z A λc4 Y O d N=>Wa (lS (Wm (V (pe aT Z N) (Wm (ln ?_)))))))
 refine mJ 23 22 (λi js E W=>∃J G K,ST true lN qa W (hp qa) (G++K)∧E 5= .int .u64 x∧E 6=Y∧lQ 5 (lu .u8) 1 Y J G∧uK x js i J=some qq) N.len ⟨R,O,_,d.kM,Z,Z,N,hm⟩ ?_ ?_
 ·rintro t c5 c1 E W b9 ⟨⟨h,q⟩,J,G,K,d,M,y,k,c⟩
  let a0:=wi0 .i64 (8*(wi0 .i64 (7-(t:Int))))
  refine sg (Wh h (Wa (ln (kX (Wh y (Wm (Wh M (Wm (Wi Z (Wi Z (bS c λ_ a5 c=>V (I5 (a:=x) (b:=a0) Z Z (WZ a5)) ?_)))))))))))
  exact V (pt (k':=.u64) (a:=Int.fdiv x (2 ^ min (Int.toNat a0) (IntKind.bits .u64))) gL cJ Z) (bS c λL B c=>VQ (oF (i:=(t:Int)) (x0:=L) aT fc Z Z k (lR B) (lK B)) λc0 s=>VO (Av (u:= .int .u8 (IntKind.u8.wrap (Int.fdiv x (2 ^ min (Int.toNat a0) (IntKind.bits .u64))))) (x1:=IntKind.u8.wrap (Int.fdiv x (2 ^ min (Int.toNat a0) (IntKind.bits .u64))))  d k (λ_=>rfl) (uk _) Z Z Z s (lK B) fc λb7 w d a4=>lC (lD (kW ⟨h,q,J.set (Int.toNat (t:Int)) (IntKind.u8.wrap (Int.fdiv x (2 ^ min (Int.toNat a0) (IntKind.bits .u64)))),w,_,d.kM,M,y,a4,c⟩))))
 rintro E W ⟨⟨h,q⟩,J,G,K,d,M,y,k,c⟩
 refine kW (sg (Wh y (Wa (lt ?_))))
 cases sj c
 exact ma (v:=Y) Z Z ⟨_,G,Z,d.oa (λp n=>Ml n) k.nd,k⟩
theorem IX {r:(Signed×Int)} (z:nN qb [] qa) (G:we nR qb q0 qN) (hm:Ec qN qB=some r) :
  mq true pg0 17 [q0,vA (kQ qB)] qa qb [] (λv L1 μ1=>∃w,v=vT [vA [vI r.1.kK.Kind,vS r.1.kK.Head.kO,vS r.1.kK.Head.Word,vS r.1.kK.lV,vS r.1.kK.B.kO,vS r.1.kK.B.Word,vS r.1.kK.C.kO,vS r.1.kK.C.Word,vS r.1.kK.lW,w],vI r.2]∧L1=[]∧Sl (Pl (lu .u8)) 1 μ1 w r.1.Tag):=by
 refine ve z 24 func17 Z (λa=>sg (VE (lY a Z (λW2 b1 a=>VE (lq a cU λW4 b3 a=>Wa (lr (Wm (VA a (Mt Mh) (kQ qB) bK aK (bS hm λr5 T hm=>?_)))))))))
 refine VE (We a (bJ _) call33 (λhH A u L=>E9 ⟨hH,A,u⟩ (G.mono po (lm.refl _)) T) (λW7 b5 P Q a I h B=>?_) (L0:=[]))
 obtain ⟨a2,t,rfl,N⟩:=B
 replace t:=t.symm; subst t
 have a:=a.perm Tn
 refine Wm (Wx Z (Wx Z (Wa (Wa (lS (Wm (Wi Z (ln (CI hm Z (λH hm=>?_) λH hm=>?_)))))))))
 ·cases hm
 refine kn (kY ?_)
 have a:=a.drew
 have d:=a.has.kM (Db (Kb Sn))
 refine mh d lM (XH 0 Z d (λ_ s=>kP Z (kV s Mh (kQ qB) Z bK aK)) (X 1 Z d (kT Z) (XH 2 Z d (λ_ s=>kP Z (kV s Mh (kQ qB) Z bK aK)) (bS hm λU J hm=>XE 3 Z (rM a call35 (BK qB _ _  J) λW Y b7 R a c n D=>?_)))))
 have d:=a.has.ob c (Dr (Db (Kb Sn)))
 refine ⟨d,bS hm λj K hm=>XE 4 Z (rM a call34 (MH (N.mono (Pl.mono _) (c.trans a.lb)) (D.sl (λ_=>rfl) λb o O=>a.at_ (Ml O)) K) λb2 b6 b9 a9 a k p x=>?_)⟩
 have d:=a.has.ob (c.trans k) (Dr (Dr (Db (Kb Sn))))
 refine ⟨d,?_⟩
 obtain ⟨g,i,rfl⟩:=x.form
 let a0:=C2 qB.Kind qB.Head.kO qB.Head.Word qB.lV qB.B.kO qB.B.Word qB.C.kO qB.C.Word qB.lW g j.length i
 refine X 5 Z d (lX (v:=vA a0) (pF Z Z) (lG cU ep (Of _ ep) kr)) ?_
 have a:=a.perm (Nb (Pr (Pr Pz)) Nz)
 refine XO 6 Z (FA a0.toArray a bO λb4 a=>?_)
 have d:=a.has.ob (c.trans k) (Db (Dr (Dr (Kb Sn))))
 refine ⟨d,X 7 Z d (nz Z) (ml kr (kW ?_))⟩
 have a:=a.kM (Kb (Kr (Dr (Db St))))
 refine lB ?_
 cases sj hm
 refine rY (v0:=vA a0) (v1:=vI 0) Z Z (kV a.has Mh a0 Z ef bO) Z ?_
 have a:=a.perm (Nr (Qb Qz) Nz)
 obtain ⟨c0,a,y,q,M⟩:=ST.JS a x (λ_=>rfl)
 exact ⟨_,_,_,Z,a.lZ Sn,((I.trans c).trans k).trans y,((h.trans n).trans p).trans q,ST.lp a (mu.mem Sn),.slice g j.length i,Z,Z,M⟩
theorem Uz (L:nN qb [] qa) (i:Sl (Pl kR) 2 qb q0 qH.nU) (g:Sl mg 10 qb q1 qH.mC) (hm:Ax qH=some qI) :
  mq true pg0 74 [vA [vI qH.Kind,vI qH.oN,vI qH.E,vS qH.Name,q0,q1]] qa qb [] (λv L1 μ1=>∃s w,v=vA [vI qI.Kind,vI qI.oN,vI qI.E,vS qI.Name,s,w]∧L1=[]∧Sl (Pl kR) 2 μ1 s qI.nU∧Sl mg 10 μ1 w qI.mC):=by
 let j:Value:=vI qH.Kind
 refine ve L 31 func74 Z (λa=>sg ?_)
 obtain ⟨N,Q,rfl⟩:=i.form
 let k:Value:= .slice N qH.nU.length Q
 obtain ⟨Y,A,rfl⟩:=g.form
 let n:Value:= .slice Y qH.mC.length A
 refine VE (lY a Z (λW6 O a=>VE (lq a cR λW8 p a=>lr (Wf zk (VB a (Mt Mh) Z Z bH (V (lX (v:=vA (QV qH.Kind)) (mB Z) (lG cR cM (ED _ cM) kr)) (VE (lq a cR λP q a=>VO (FA ((QV qH.Kind).toArray) a cI λR a=>ln (kY (CJ hm (λt E W=>∃K M o,ST true (keys []) qa W qb ((q,Ob #[j,vI t.1,vI t.2.1,vS t.2.2.1,K,M] 69)::((p,Ol C3 69)::o))∧E 2=vP p∧E 3=vP q∧Sl (Pl kR) 2 qb K t.2.2.2.1∧Sl mg 10 qb M t.2.2.2.2) (λt c=>?_) ?_)))))))))))
 ·refine sg (Wf zk (VB a (Mt (Mt Mh)) Z Z bH (ln (bg (Wi Z (Wa (ln (CI c Z (λa3 c=>?_) λa3 c=>?_))))))))
  ·have a:=a.drew
   have d:=a.has.kM (Db (Db (Kb Sn)))
   refine mh d lM (X 0 Z d (kU D9 Z) (XH 1 Z d (λ_ h=>kP Z (kZ h Mh Z bU)) (X 2 Z d (kU BN Z) (XH 3 Z d (λ_ h=>kP Z (kZ h Mh Z bH)) (X 4 Z d (kU D9 Z) (XO 5 Z (lz (vS qH.Name) (#[j,vI 0,vI 0,vS qH.Name,vN,vN]) a Z Z er (EJ qH.Name) nb Z (λc3 a=>?_))))))))
   have d:=a.has.kM (Db (Db (Kb Sn)))
   refine ⟨d,X 6 Z d (kU BN Z) (XO 7 Z (lz (vI qH.oN) ((VV qH.Kind qH.oN qH.Name).toArray) a Z Z dH (uk _ qH.oN) nb Z (λc5 a=>?_)))⟩
   have d:=a.has.kM (Db (Db (Kb Sn)))
   refine ⟨d,ml kr (lD (kW ?_))⟩
   cases sj c
   exact ⟨vN,vN,_,a.kM (Kb (Kb (Db St))),Z,Z,Sl.nil _ _ _,Sl.nil _ _ _⟩
  refine sg (Wi Z (Wa (ln (CI c Z (λa4 c=>?_) λa4 c=>?_))))
  ·have a:=a.drew
   have d:=a.has.kM (Db (Db (Kb Sn)))
   refine mh d lM (X 0 Z d (kU yz Z) (XH 1 Z d (λ_ h=>kP Z (kZ h Mh Z ir)) (X 2 Z d (kU uE Z) (XH 3 Z d (λ_ h=>kP Z (kZ h Mh Z fH)) (X 4 Z d (kU yz Z) (XO 5 Z (lz k (#[j,vI 0,vI 0,vS zS,k,vN]) a Z Z sizeOf67 oc nb Z (λc6 a=>?_))))))))
   have d:=a.has.kM (Db (Db (Kb Sn)))
   refine ⟨d,X 6 Z d (kU uE Z) (XO 7 Z (lz n (#[j,vI 0,vI 0,vS zS,k,n]) a Z Z sizeOf66 oc nb Z (λc7 a=>?_)))⟩
   have d:=a.has.kM (Db (Db (Kb Sn)))
   refine ⟨d,ml kr (lD (kW ?_))⟩
   cases sj c
   exact ⟨k,n,_,a.kM (Kb (Kb (Db St))),Z,Z,i,g⟩
  refine sg (Wi Z (Wa (ln (CI c Z (λa5 c=>?_) λa5 c=>?_))))
  ·refine kX (Wf Bz (VB a (Mt (Mt Mh)) Z Z bH (Wf Bz (VO (lz (vI qH.E) (#[j,vI 0,vI qH.E,vS zS,vN,vN]) a Z Z dH (uk _ qH.E) nb Z (λc8 a=>lC (lD (kW ?_))))))))
   cases sj c
   exact ⟨vN,vN,_,a.kM (Kb (Kb (Db St))),Z,Z,Sl.nil _ _ _,Sl.nil _ _ _⟩
  refine lU (lD (kW ?_))
  cases sj c
  exact ⟨vN,vN,_,a.kM (Kb (Kb (Db St))),Z,Z,Sl.nil _ _ _,Sl.nil _ _ _⟩
 rintro ⟨G,H,I,B,D⟩ E W ⟨K,M,o,a,a2,a9,T,U⟩ J
 refine sg (V (kP a9 (kV a.has Mh [j,vI G,vI H,vS I,K,M] Z et cI)) ?_)
 obtain ⟨u,y,rfl⟩:=T.form
 obtain ⟨x,z,rfl⟩:=U.form
 let a0:=C4 qH.Kind G H I u B.length y x D.length z
 have a:=a.perm (Nb (Pb Pz) Nz)
 refine VO (lz (vA a0) a0.toArray a a2 Z cI oc nb Z (λc1 a=>ln ?_))
 have a:=a.kM (Kb (Db St))
 refine lB ?_
 cases sj J
 exact mR (v:=vA a0) Z a2 (kV a.has Mh a0 Z et cI) ⟨_,_,_,Z,a.lZ Sn,lm.refl _,Lo.refl,ST.lp a (mu.mem Sn),.slice u B.length y,.slice x D.length z,Z,Z,T,U⟩
theorem Em (c:Sl (Pl kR) 2 (hp qa) q0 qz) (y:Sl (Pl kR) 2 (hp qa) q1 qA) (hm:wK qz qA=some qt) :
  lF true pg0 123 [q0,q1] qa (vB qt):=by
 refine cG 26 func123 Z (λh=>sg (Wa (lS (Wm (V (lT bD Z c) (Wm (V (lT bD Z y) (Wi Z (lC ?_)))))))))
 refine kW (CI hm Z (λN hm=>?_) λN hm=>?_)
 ·refine sg (Wa (lt (ly ?_)))
  cases sj hm
  exact rP h
 refine kS (Wm (V (lT bD Z c) (Wm (ln (mJ 13 12 (λi q E W=>∃g,ST true lN qa W (hp qa) g∧E 0=q0∧E 1=q1∧sO qA q i=some qt) c.len ⟨_,h.kM,Z,Z,hm⟩ ?_ ?_)))))
 ·rintro H I Y E W K ⟨⟨n,p⟩,g,h,j,k,a⟩
  refine sg (Wh n (Wa (ln (kY ?_))))
  have h:=h.drew
  have d:=h.has.kM Sn
  refine mh d lM (X 0 Z d (kT j) (X 1 Z d (kT Z) (XQ 2 Z d (oz (enc:=kR) (i:=(H:Int)) (x0:=I) bD aI Z Z c (aG _) K) λQ D=>XH 3 Z d (λ_ o=>kP Z (lA o D bE aI)) (X 4 Z d (kT k) (X 5 Z d (kT Z) (bS a λz x a=>XQ 6 Z d (oz (enc:=kR) (i:=(H:Int)) (x0:=z) bD aI Z Z y (lR x) (lK x)) λT G=>XH 7 Z d (λ_ o=>kP Z (lA o G bE aI)) (X 8 Z d (Hz Z Z (nY dN) (Ds (rS _ I z))) (ml kr (kW (CI a Z (λB a=>?_) λB a=>?_))))))))))
  ·refine sg (Wa (lt (mG (ly (mG (ly ?_))))))
   cases sj a
   exact rP h
  exact lU (lD (kW ⟨n,p,_,h.kM,j,k,a⟩))
 rintro E W ⟨⟨n,p⟩,g,h,j,k,a⟩
 exact kW (sg (Wa (lt (rQ a h))))
theorem wC {f2:(Signed×Signed)→Option Bool} (x:Sl mg 10 (hp qa) q0 qT) (N:Sl mg 10 (hp qa) q1 qU) (a4:Ce pg0 q2 (hp qa) (zH mg mg) (λ(qt:Bool)=>vB qt) f2) (hm:mV qT qU f2=some qt) :
  lF false pg0 124 [q0,q1,q2] qa (vB qt):=by
 refine cG 32 func124 Z (λd=>sg (Wa (lS (Wm (V (lT bV Z x) (Wm (V (lT bV Z N) (Wi Z (lC ?_)))))))))
 refine kW (CI hm Z (λp hm=>?_) λp hm=>?_)
 ·refine sg (Wa (lt (ly ?_)))
  cases sj hm
  exact rP d
 refine kS (Wm (V (lT bV Z x) (Wm (ln (mJ 17 16 (λi q E W=>∃y,ST false lN qa W (hp qa) y∧E 1=q1∧E 2=q2∧E 15=q0∧mf qU f2 q i=some qt) x.len ⟨_,d.kM,Z,Z,Z,hm⟩ ?_ ?_)))))
 ·rintro n c c2 E W a5 ⟨⟨h,o⟩,y,d,z,B,D,g⟩
  refine sg (Wh h (VQ (my (i:=(n:Int)) (x0:=c) mg.out bV bO D h x (aG _) a5) λL ⟨_,⟨R,rfl,J⟩,T⟩=>V (kP Z (lA d.has T ef bO)) (VE (lq d cU λs G d=>Wa ?_))))
  obtain ⟨j,t,rfl⟩:=J.form
  let a2:=C2 c.kK.Kind c.kK.Head.kO c.kK.Head.Word c.kK.lV c.kK.B.kO c.kK.B.Word c.kK.C.kO c.kK.C.Word c.kK.lW j c.Tag.length t
  refine VO (FA a2.toArray d bO λa9 d=>lr (Wh z (Wm (bS g λa M g=>VQ (my (i:=(n:Int)) (x0:=a) mg.out bV bO Z Z N (lR M) (lK M)) λO ⟨_,⟨c0,rfl,K⟩,U⟩=>V (kP Z (lA d.has U ef bO)) (VE (lq d cU λv I d=>?_))))))
  obtain ⟨k,u,rfl⟩:=K.form
  let a3:=C2 a.kK.Kind a.kK.Head.kO a.kK.Head.Word a.kK.lV a.kK.B.kO a.kK.B.Word a.kK.C.kO a.kK.C.Word a.kK.lW k a.Tag.length u
  refine VO (FA a3.toArray d bO λw d=>lr (Wh B (VA d (Mt Mh) a2 ef bO (VA d Mh a3 ef bO (bS g λP Y g=>VE (CM (c,a) d a4 (lm.refl _) (zH.mk nu nu (mg.mk ⟨.slice j c.Tag.length t,Z,J⟩) (mg.mk ⟨.slice k a.Tag.length u,Z,K⟩) d.lb) Z (pj Z Z) Y λA d=>V (nt Z) (ln ?_)))))))
  have d:=d.kM (Db (Db St))
  refine CI g Z (λQ g=>?_) (λQ g=>?_)
  ·refine sg (Wa (lt (mG (ly (mG (ly ?_))))))
   cases sj g
   exact rP d
  exact lU (lD (kW ⟨h,o,_,d.kM,z,B,D,g⟩))
 rintro E W ⟨⟨h,o⟩,y,d,z,B,D,g⟩
 exact kW (sg (Wa (lt (rQ g d))))
theorem AU (g:Sl (Pl (lu .u8)) 1 (hp qa) q0 qo) (i:Sl (Pl (lu .u8)) 1 (hp qa) q1 qp) (hm:pY qo qp=some qt) :
  lF true pg0 42 [q0,q1] qa (vB qt):=by
 refine cG 10 func42 Z (λa=>sg (Wa (lr (Wm (V (tg aT cJ bG Z (g.mono (Pl.mono _) a.lb)) (Wm (V (tg aT cJ bG Z (i.mono (Pl.mono _) a.lb)) (V (rF Z Z Z) (Wa (lC ?_))))))))))
 exact kW (lB (rQ hm a))
theorem Ms {c:Signed} (j:Sl (Pl (lu .u8)) 1 (hp qa) q0 qW.Tag) (k:Sl (Pl (lu .u8)) 1 (hp qa) q1 c.Tag) (hm:sx qW c=some qt) :
  lF true pg0 125 [vA [vI qW.kK.Kind,vS qW.kK.Head.kO,vS qW.kK.Head.Word,vS qW.kK.lV,vS qW.kK.B.kO,vS qW.kK.B.Word,vS qW.kK.C.kO,vS qW.kK.C.Word,vS qW.kK.lW,q0],vA [vI c.kK.Kind,vS c.kK.Head.kO,vS c.kK.Head.Word,vS c.kK.lV,vS c.kK.B.kO,vS c.kK.B.Word,vS c.kK.C.kO,vS c.kK.C.Word,vS c.kK.lW,q1]] qa (vB qt):=by
 refine cG 17 func125 Z (λa=>sg ?_)
 obtain ⟨G,I,rfl⟩:=j.form
 refine VE (lY a Z (λU d a=>?_))
 obtain ⟨H,J,rfl⟩:=k.form
 refine VE (lY a Z (λY h a=>Wa (lr (Wf rZ (VA a (Mt Mh) (kQ qW.kK) bK aK (Wf rZ (VA a Mh (kQ c.kK) bK aK (V (wE Z Z (nY eO) (so (yK _ qW.kK c.kK))) (Wm (LJ hm (λz E W=>∃y,ST true lN qa W (hp qa) y∧E 4=vB false∧E 16=vB z) 6 ?_ λz i x=>?_))))))))))
 ·rintro T E W ⟨y,a,N,K⟩ B
  exact Wg K (lt (rQ B a))
 refine bC i (λg i=>?_) (λg i=>?_)
 ·refine ug g (kU Ak Z) (ug g (kP Z (kZ a.has (Mt Mh) Z dm)) (ug g (kU Ak Z) (ug g (kP Z (kZ a.has Mh Z dm)) (bS i λQ D i=>sh g (Eg a call42 (AU (j.mono (Pl.mono _) a.lb) (k.mono (Pl.mono _) a.lb) D) λM a=>V (lh (cB g) Z) ?_)))))
  cases sj i
  exact x _ _ ⟨_,a.kM (Db (Db St)),Z,Z⟩
 refine un g (un g (un g (un g (un g (V (lg (cB g) Z) ?_)))))
 cases sj i
 exact x _ _ ⟨_,a.kM (Db (Db St)),Z,Z⟩
theorem UD (B:Sl (Pl kR) 2 (hp qa) q0 qH.nU) (z:Sl mg 10 (hp qa) q1 qH.mC) (G:Sl (Pl kR) 2 (hp qa) q2 qI.nU) (D:Sl mg 10 (hp qa) q3 qI.mC) (hm:Ca qH qI=some qt) :
  lF false pg0 73 [vA [vI qH.Kind,vI qH.oN,vI qH.E,vS qH.Name,q0,q1],vA [vI qI.Kind,vI qI.oN,vI qI.E,vS qI.Name,q2,q3]] qa (vB qt):=by
 refine cG 47 func73 Z (λa=>sg ?_)
 obtain ⟨A1,c2,rfl⟩:=B.form
 obtain ⟨A3,P,rfl⟩:=z.form
 let a0:=C4 qH.Kind qH.oN qH.E qH.Name A1 qH.nU.length c2 A3 qH.mC.length P
 refine VE (lY a Z (λW6 Y a=>?_))
 obtain ⟨A7,R,rfl⟩:=G.form
 obtain ⟨A9,U,rfl⟩:=D.form
 let c:=C4 qI.Kind qI.oN qI.E qI.Name A7 qI.nU.length R A9 qI.mC.length U
 refine VE (lY a Z (λf1 M a=>Wa (lr (Wf zk (VB a (Mt Mh) Z Z bH (Wf zk (VB a Mh Z Z bH (Wi Z (Wm (LJ hm (λd3 E W=>∃c1,ST false lN qa W (hp qa) ((M,Ol c 69)::((Y,Ol a0 69)::c1))∧E 2=vP Y∧E 3=vP M∧E 17=vB d3) 6 ?_ λd3 T a5=>?_))))))))))
 ·let h:Value:=(vP M)
  let d:Value:=vP Y
  rintro f6 E W ⟨c1,a,n,o,e1⟩ d4
  refine Wh e1 (LJ d4 (λd2 E W=>∃A,ST false lN qa W (hp qa) ((M,Ol c 69)::((Y,Ol a0 69)::A))∧E 2=d∧E 3=h∧E 24=vB d2) 6 ?_ λd2 Q a4=>?_)
  ·rintro f7 E W ⟨A,a,p,q,e2⟩ d5
   refine Wh e2 (LJ d5 (λd1 E W=>∃I,ST false lN qa W (hp qa) ((M,Ol c 69)::((Y,Ol a0 69)::I))∧E 2=d∧E 3=h∧E 31=vB d1) 6 ?_ λd1 N a3=>?_)
   ·rintro f8 E W ⟨I,a,s,v,e3⟩ d6
    refine Wg e3 (lr (Wm (Wm (LJ d6 (λd0 E W=>∃J,ST false lN qa W (hp qa) ((M,Ol c 69)::((Y,Ol a0 69)::J))∧E 2=d∧E 3=h∧E 39=vB d0) 6 ?_ λd0 y a2=>?_))))
    ·rintro f9 E W ⟨J,a,e4,e5,e6⟩ d7
     refine Wh e6 (LJ d7 (λO E W=>∃L,ST false lN qa W (hp qa) L∧E 46=vB O) 6 ?_ λO u w=>?_)
     ·rintro g0 E W ⟨L,a,e7⟩ d8
      exact Wg e7 (lt (rQ d8 a))
     refine bC u (λt u=>?_) (λt u=>?_)
     ·refine ug t (kU uE e4) (ug t (kP Z (kZ a.has (Mt Mh) Z fH)) (ug t (kU uE e5) (ug t (kP Z (kZ a.has Mh Z fH)) (bS u λf4 d9 u=>sh t (Eg a call124 (wC (z.mono nu.mono a.lb) (D.mono nu.mono a.lb) ⟨125,#[],#[],Z,call125,λW x vs qt hs hR hm=>by obtain ⟨_,_,rfl,e8,e9⟩:=hR; obtain ⟨u0,rfl,k0⟩:=e8.out; obtain ⟨t0,rfl,j0⟩:=e9.out; exact (Ms k0 j0 hm).mF⟩ d9) λf2 a=>V (lh (cB t) Z) ?_)))))
      cases sj u
      exact w _ _ ⟨_,a.kM (Db (Db St)),Z⟩
     refine un t (un t (un t (un t (un t (V (lg (cB t) Z) ?_)))))
     cases sj u
     exact w _ _ ⟨_,a.kM (Db (Db St)),Z⟩
    refine bC y (λk y=>?_) (λk y=>?_)
    ·refine ug k (kU yz s) (ug k (kP Z (kZ a.has (Mt Mh) Z ir)) (ug k (kU yz v) (ug k (kP Z (kZ a.has Mh Z ir)) (bS y λf5 e0 y=>sh k (Eg a call123 (lF.mF (Em (B.mono (Pl.mono _) a.lb) (G.mono (Pl.mono _) a.lb) e0)) λf3 a=>V (lh (cB k) Z) ?_)))))
     cases sj y
     exact a2 _ _ ⟨_,a.kM,s,v,Z⟩
    refine un k (un k (un k (un k (un k (V (lg (cB k) Z) ?_)))))
    cases sj y
    exact a2 _ _ ⟨_,a.kM,s,v,Z⟩
   refine bC N (λj N=>?_) (λj N=>?_)
   ·refine ug j (kU D9 p) (ug j (kP Z (kZ a.has (Mt Mh) Z bU)) (ug j (kU D9 q) (ug j (kP Z (kZ a.has Mh Z bU)) (ug j (rF Z Z Z) (V (lh (cB j) Z) ?_)))))
    cases sj N
    exact a3 _ _ ⟨_,a.kM,p,q,Z⟩
   refine un j (un j (un j (un j (un j (V (lg (cB j) Z) ?_)))))
   cases sj N
   exact a3 _ _ ⟨_,a.kM,p,q,Z⟩
  refine bC Q (λi Q=>?_) (λi Q=>?_)
  ·refine ug i (kU Bz n) (ug i (kP Z (kZ a.has (Mt Mh) Z bH)) (ug i (kU Bz o) (ug i (kP Z (kZ a.has Mh Z bH)) (ug i (lI Z Z Z) (V (lh (cB i) Z) ?_)))))
   cases sj Q
   exact a4 _ _ ⟨_,a.kM,n,o,Z⟩
  refine un i (un i (un i (un i (un i (V (lg (cB i) Z) ?_)))))
  cases sj Q
  exact a4 _ _ ⟨_,a.kM,n,o,Z⟩
 refine bC T (λg T=>?_) (λg T=>?_)
 ·refine ug g (kU BN Z) (ug g (kP Z (kZ a.has (Mt Mh) Z bH)) (ug g (kU BN Z) (ug g (kP Z (kZ a.has Mh Z bH)) (ug g (lI Z Z Z) (V (lh (cB g) Z) ?_)))))
  cases sj T
  exact a5 _ _ ⟨_,a.kM,Z,Z,Z⟩
 refine un g (un g (un g (un g (un g (V (lg (cB g) Z) ?_)))))
 cases sj T
 exact a5 _ _ ⟨_,a.kM,Z,Z,Z⟩
theorem Jr (a:Sl (Pl kR) 2 (hp qa) q0 qz) (hm:wH qz=some qA) :
  mM true pg0 164 [q0] qa 53 kR 2 qA:=by
 unfold wH at hm
 refine yd 8 func164 Z (λd=>sg (Wa (lS (Wm ?_))))
 obtain ⟨y,B,rfl⟩:=a.form
 refine V (Fb bD Z Z) (ln ?_)
 rcases y with _ | z
 ·have u:=a.isNil
  replace hm:some []=some qA:=by rw [u] at hm; simpa [nF,maxLen] using hm
  refine Aw (rfl) (sg (Wa (lt (ly ?_))))
  cases sj hm
  exact ma (v:=vN) Z Z ⟨_,[],Z,d.oa (λp g=>by cases g) fb,lQ.nil _ _ _⟩
 ·refine sM (rfl) (kg (VE (lE (cs:=#[]) d oP (EP [] bD aI cY dc Z fb Z Z) λG k d=>Wm (bS hm λH t hm=>VE (oG (enc:=kR) (v:= .slice (some ⟨k,0,none⟩) 0 0) (vs:= .slice (some z) qz.length B) (R:=[(k,Ob #[] 53)]) d ox dc oQ bD rH.1 rH.2.1 Z rH.2.2.1 rH.2.2.2 Z Z (lQ.lit (l:=[]) (enc:=kR) Z dc Z Z) (a.mono (Pl.mono _) d.lb) t λD x j d c=>Wa (lt ?_))))))
  cases sj hm
  exact ma (v:=x) Z Z ⟨_,j,Z,d.oa (λp g=>Ml g) c.nd,c⟩
theorem G7 {z:kL→Option Bool} (c:Sl (Pl kR) 2 (hp qa) q0 qz) (B:DH pg0 q1 (hp qa) (λ(x:kL)=>[vA (kR x)]) (λ(qc:Bool)=>vB qc) z) (hm:yT qz z=some qc) :
  lF false pg0 195 [q0,q1] qa (vI qc):=by
 refine cG 19 func195 Z (λd=>sg (Wa (lS (Wm (V (lT bD Z c) (Wm (ln (mJ 8 7 (λi j E W=>∃k,ST false lN qa W (hp qa) k∧E 0=q0∧E 1=q1∧sH z j i=some qc) c.len ⟨_,d.kM,Z,Z,hm⟩ ?_ ?_))))))))
 ·rintro K y M E W I ⟨⟨g,h⟩,k,d,t,u,a⟩
  refine sg (Wh g (Wa (lr (Wh u (Wh t (Wm (VQ (oz (enc:=kR) (i:=(K:Int)) (x0:=y) bD aI Z Z c (aG _) I) λQ G=>V (kP Z (lA d.has G bE aI)) (bS a λT H a=>VE (RU y d B (lm.refl _) Z (sD Z) H λN d=>?_)))))))))
  refine ln (CI a Z (λD a=>?_) λD a=>?_)
  ·refine sg (Wm (Wa (lt (mG (ly (mG (ly ?_)))))))
   cases sj a
   exact rP d
  exact lU (lD (kW ⟨g,h,_,d.kM,t,u,a⟩))
 rintro E W ⟨⟨g,h⟩,k,d,t,u,a⟩
 exact kW (sg (Wa (lt (rQ a d))))
theorem G3 {f1:kL→Option Bool} (h0:nN qb (qf++[]) qa) (T:lQ 53 kR 2 q0 qz qf) (a4:DH pg0 q1 qb (λ(x:kL)=>[vA (kR x)]) (λ(qA:Bool)=>vB qA) f1) (hm:vy qz f1=some qA) :
  mX false pg0 163 [q0,q1] qa (qf++[]) (λv L1 W'=>∃s S2,v=s∧L1=(S2++[])∧lQ 53 kR 2 s qA S2):=by
 refine Bl h0 42 func163 Z (λd=>sg (Wa (lr (Wm (Wm (bS hm λq d3 hm=>VE (Eg d call195 (G7 (T.sl ox λb o h=>d.at_ (Ml h)) (a4.mono d.lb) d3) λW3 d=>Wa (ln ?_))))))))
 refine kY (sg (Wm (Wi Z (ln (CI hm Z (λd2 hm=>?_) λd2 hm=>?_)))))
 ·refine sg (Wm (Wa (lt (ly ?_))))
  cases sj hm
  exact ma (v:=q0) Z Z ⟨_,_,Z,d.lZ (Kr Sn),q0,qf,Z,Z,T⟩
 refine kS (Wm (Wi Z (Wa (ln (mA (nQ (λm E W=>∃U I B D a2,ST false (keys (qf++[])) qa W qb (I++a2)∧E 0=q0∧E 1=q1∧E 5=vI B∧E 6=vI D∧lQ 53 kR 2 q0 U I∧pP f1 m U B D=some qA) lP ⟨qz,qf,q,wi0 .i64 (q+1),_,d.kM,Z,Z,Z,Z,T,hm⟩ ?_))))))
 rintro m E W ⟨U,I,B,D,a2,d,y,Q,G,K,g,a⟩
 cases m with
 | zero=>rw [pP] at a; cases a
 | succ c8=>
  refine kY (sg (Wh K (Wh y (V (pe bD Z g) (Wi Z (ln (CI a Z (λw a=>?_) λw a=>?_)))))))
  ·refine kn (kY (CJ a (λY E W=>∃J a3,ST false (keys (qf++[])) qa W qb (J++a3)∧E 0=q0∧E 1=q1∧E 5=vI Y.2∧E 6=vI D∧lQ 53 kR 2 q0 Y.1 J) (λY c=>?_) ?_))
   ·refine bg (Wh y (Wh K (bS c λk M c=>VQ (oF (i:=D) (x0:=k) bD aI Z Z g (lR M) (lK M)) λe4 O=>V (kP Z (uh d.has (λp h=>Ml h) g ox O (lK M) bE aI)) (VE (lq d cY λd7 e2 d=>VO (FA (h1:=oQ k) ((kR k).toArray) d aI λd8 d=>lr (Wh Q ?_)))))))
    refine VA d Mh (kR k) bE aI (bS c λe6 R c=>VE (RU k d a4 (lm.refl _) Z (sD Z) R λd9 d=>V (nt Z) (ln (CI c Z (λA c=>?_) λA c=>?_))))
    ·refine sg (Wh y (Wh G (VA d Mh (kR k) bE aI (bS c λd0 N c=>VQ (oF (i:=B) (x0:=d0) bD aI Z Z g (lR N) (lK N)) λe5 P=>?_))))
     have d:=d.perm (Nr (Qb Qz) Nz)
     refine VO (Av (u:=vA (kR k)) (x1:=k)  d g ox oQ Z Z Z P (lK N) aI λe0 c1 d t=>ln ?_)
     have d:=d.kM (Kr (Db St))
     refine kX (Wh G (Wi Z (Wa (lC (lD (kW ?_))))))
     cases sj c
     exact ⟨c1,_,d.kM,y,Q,Z,K,t⟩
    refine lU (lD (kW ?_))
    cases sj c
    exact ⟨I,_,d.kM (Db St),y,Q,G,K,g⟩
   rintro ⟨c7,c9⟩ E W ⟨J,a3,d,c3,c4,c5,c6,b6⟩ L
   exact kX (Wh c6 (Wi Z (Wa (ln ⟨c8,bB _,c7,J,c9,wi0 .i64 (D+1),_,d.kM,c3,c4,c5,Z,b6,L⟩))))
  refine nB (nv (nv (ry (kW (sg (Wh y (Wh G (bS a λ_ j a=>VQ (zA (i:=B) bD aI Z Z g (vp j) (vl j)) λe7 b7=>VO (CE (z:=K0)  d g ox oQ bD cY b7 Z Z (λe1 c2 d a9=>lr (Wh y ?_)))))))))))
  refine Wh G (bS a λ_ n a=>VQ (Ff (i:=B) bD aI Z Z a9 ox (vp n) (vl n)) λa5 b9=>Wa (lt ?_))
  cases sj a
  exact ma (v:=a5) Z Z ⟨_,_,Z,d.lZ (Kr Sn),a5,c2,Z,Z,b9⟩
theorem PQ (a:kL) (r:Bool) (w:World) (hm:FM a=some r) :
  lF true pg0 165 [vA (kR a)] w (vB r):=by
 refine cG 6 func165 Z (λd=>sg (VE (lY d Z (λg j d=>Wa (lr (VA d Mh (kR a) bE aI (bS hm λk c hm=>VE (Eg d kl (xB a _ _  c) λi d=>V (nt Z) (Wa (lC ?_))))))))))
 refine kW ?_
 exact lB (rQ hm d)
theorem Ug {t:(kL×kL)→Option Int} (u:nN qb (qf++[]) qa) (i:lQ 53 kR 2 q0 qz qf) (j:Pa pg0 q1 qb (λ(x:(kL×kL))=>[vA (kR x.1),vA (kR x.2)]) (λ(qA:Int)=>vI qA) t) (hm:CS t qz=some qA) :
  mX true pg0 166 [q0,q1] qa (qf++[]) (λv z W'=>∃S,v=vT []∧z=(S++[])∧lQ 53 kR 2 q0 qA S):=LL (P:=pg0) (ρ:=V9) Z7 2 bE aI kR ox oQ u.H u.S i j hm
theorem It (h0:nN qb (qf++[]) qa) (B:lQ 53 kR 2 q0 qz qf) (hm:xS qz=some qA) :
  mX true pg0 167 [q0] qa (qf++[]) (λv L1 W'=>∃y1 S2,v=y1∧L1=(S2++[])∧lQ 53 kR 2 y1 qA S2):=by
 refine Bl h0 61 func167 Z (λd=>sg (Wa (lS (Wm (V (pe bD Z B) (Wi Z (ln (CI hm Z (λg0 hm=>?_) λg0 hm=>?_))))))))
 ·refine sg (Wm (Wa (lt (ly ?_))))
  cases sj hm
  exact ma (v:=q0) Z Z ⟨_,_,Z,d.lZ (Kr Sn),q0,qf,Z,Z,B⟩
 refine kS (Wa (ln (mA (nQ (λm E W=>∃t R,ST true (keys (qf++[])) qa W qb (qf++R)∧E 0=q0∧E 3=vI t∧sb qz m t=some qA) lP ⟨1,_,d.kM,Z,Z,hm⟩ ?_))))
 rintro m E W ⟨t,R,d,D,H,a⟩
 cases m with
 | zero=>rw [sb] at a; cases a
 | succ f5=>
  refine kY (sg (Wh H (Wh D (V (pe bD Z B) (Wi Z (ln (CI a Z (λd0 a=>?_) λd0 a=>?_)))))))
  ·refine kn (kY (mA (kY ?_)))
   have d:=d.drew
   have h:=d.has.kM (Kr Sn)
   refine mh h lM (X 0 Z h (kT D) (X 1 Z h (kT H) (bS a λc3 o a=>XQ 2 Z h (oF (i:=t) (x0:=c3) bD aI Z Z B (lR o) (lK o)) λg7 d6=>XH 3 Z h (λ_ n=>kP Z (uh n (λp j=>Ml j) B ox d6 (lK o) bE aI)) (X 4 Z h (kT D) (X 5 Z h (kT H) (X 6 Z h (lI Z Z Z) (bS a λc4 q a=>XQ 7 Z h (oF (i:=wi0 .i64 (t-1)) (x0:=c4) bD aI Z Z B (lR q) (lK q)) λg8 d7=>XH 8 Z h (λ_ n=>kP Z (uh n (λp j=>Ml j) B ox d7 (lK q) bE aI)) (X 9 Z h (wE Z Z (nY dN) (so (rS _ c3 c4))) (ml kr (kW ?_))))))))))
   refine CI a Z (λd1 a=>?_) (λd1 a=>?_)
   ·refine sg (Wh D (Wh H (bS a λ_ A a=>VQ (zA (i:=t) bD aI Z Z B (vp A) (vl A)) λc1 M=>Wa (lS (Wa (ln ?_))))))
    refine CJ a (λU E W=>∃s b5,ST true (keys (qf++[])) qa W qb (s++b5)∧E 0=q0∧E 3=vI U.2∧lQ 53 kR 2 q0 U.1 s) (λU d4=>?_) ?_
    ·refine mA (nQ (λm E W=>∃w K Y y b6,ST true (keys (qf++[])) qa W qb (K++b6)∧E 0=q0∧E 3=vI Y∧E 4=c1∧E 5=vI y∧lQ 53 kR 2 q0 w K∧rU t m w Y y=some U) lP ⟨qz,qf,t,1,_,d.kM,D,H,Z,Z,B,d4⟩ ?_)
     rintro m E W ⟨w,K,Y,y,b6,d,Q,T,I,J,g,k⟩
     cases m with
     | zero=>rw [rU] at k; cases k
     | succ f6=>
      refine kY (sg (Wh J (Wh I (V (JH bD Z M g) (Wi Z (ln (CI k Z (λd2 k=>?_) λd2 k=>?_)))))))
      ·refine kn (kY (CJ k (λx E W=>∃N b7,ST true (keys (qf++[])) qa W qb (N++b7)∧E 0=q0∧E 3=vI x.2∧E 4=c1∧E 5=vI y∧lQ 53 kR 2 q0 x.1 N) (λx c=>?_) ?_))
       ·refine mA (kY ?_)
        have d:=d.drew
        have h:=d.has.kM (Kr Sn)
        refine mh h lM (X 0 Z h (kT I) (X 1 Z h (kT J) (bS c λc6 a2 c=>XQ 2 Z h (zL (i:=y) (x0:=c6) bD aI Z Z g M (lR a2) (lK a2)) λg9 d8=>XH 3 Z h (λ_ n=>kP Z (uh n (λp j=>Ml j) g ox d8 (BH (lK a2)) bE aI)) (X 4 Z h (kT I) (X 5 Z h (kT J) (X 6 Z h (lI Z Z Z) (bS c λc7 a3 c=>XQ 7 Z h (zL (i:=wi0 .i64 (y-1)) (x0:=c7) bD aI Z Z g M (lR a3) (lK a3)) λh1 d9=>XH 8 Z h (λ_ n=>kP Z (uh n (λp j=>Ml j) g ox d9 (BH (lK a3)) bE aI)) (X 9 Z h (Hz Z Z (nY dN) (Ds (rS _ c6 c7))) (ml kr (kW ?_))))))))))
        refine CI c Z (λd3 c=>?_) (λd3 c=>?_)
        ·refine sg (Wh Q (Wh T (Wh I (Wh J (bS c λa9 a4 c=>VQ (zL (i:=y) (x0:=a9) bD aI Z Z g M (lR a4) (lK a4)) λh2 e0=>V (kP Z (uh d.has (λp j=>Ml j) g ox e0 (BH (lK a4)) bE aI)) (bS c λf8 a5 c=>VQ (oF (i:=Y) (x0:=f8) bD aI Z Z g (lR a5) (lK a5)) λh3 e1=>VO (Av (u:=vA (kR a9)) (x1:=a9)  d g ox oQ Z Z Z e1 (lK a5) aI λg3 e8 d c9=>ln (kX ?_))))))))
         refine Wh T (Wi Z (Wa (lC (lD (kW ?_)))))
         cases sj c
         exact ⟨e8,_,d.kM,Q,Z,I,J,c9⟩
        refine lU (lD (kW ?_))
        cases sj c
        exact ⟨K,_,d.kM,Q,T,I,J,g⟩
       rintro ⟨f4,f7⟩ E W ⟨N,b7,d,f0,f1,f2,f3,e4⟩ d5
       exact kX (Wh f3 (Wi Z (Wa (ln ⟨f6,bB _,f4,N,f7,wi0 .i64 (y+1),_,d.kM,f0,f1,f2,Z,e4,d5⟩))))
      refine nB (nv (nv (ry (kW ?_))))
      cases sj k
      exact ⟨K,_,d.kM,Q,T,g⟩
    rintro ⟨g4,c5⟩ E W ⟨s,b5,d,b9,c0,P⟩ G
    refine sg (Wh b9 (Wh c0 (bS G λ_ L G=>VQ (zA (i:=c5) bD aI Z Z P (vp L) (vl L)) λh4 e2=>VO (CE (z:=K0)  d P ox oQ bD cY e2 Z Z (λg2 e7 d c8=>lr (Wh b9 (Wh c0 (bS G λ_ O G=>VQ (Ff (i:=c5) bD aI Z Z c8 ox (vp O) (vl O)) λc2 e3=>?_))))))))
    refine Wa (lt (mG (ly (ly (mG (ly ?_))))))
    cases sj G
    exact ma (v:=c2) Z Z ⟨_,_,Z,d.lZ (Kr Sn),c2,e7,Z,Z,e3⟩
   exact lU (lD (kW (kX (Wh H (Wi Z (Wa (ln ⟨f5,bB _,wi0 .i64 (t+1),_,d.kM,D,Z,a⟩)))))))
  refine nB (nv (nv (ry (kW (sg (Wh D (Wa (lt ?_))))))))
  cases sj a
  exact ma (v:=q0) Z Z ⟨_,_,Z,d.lZ (Kr Sn),q0,qf,Z,Z,B⟩
theorem TR (B:Sl (Pl kR) 2 (hp qa) q0 qz) (hm:F7 qz=some qA) :
  mM false pg0 126 [q0] qa 53 kR 2 qA:=by
 refine yd 11 func126 Z (λd=>sg (Wa (lr (Wm (bS hm λr1 T hm=>VE (rM d call164 (mM.mF (Jr (B.mono (Pl.mono _) d.lb) T)) λW3 v7 y R8 d a5 t Q=>bS hm λU D hm=>?_))))))
 refine VE (eM d (Cr Qz Cn) call163 (λi _=>G3 i Q ⟨165,#[],#[],Z,call165,λW x qA w hm=>(PQ x qA W  hm).mF⟩ D) ?_)
 rintro _ P b9 A d z n h ⟨k,K,a,rfl,I⟩
 obtain rfl:=a.symm
 have d:=d.perm (Tr Tn)
 refine Wa (lr (Wm (bS hm λY G hm=>?_)))
 refine VE (eM d (Cr Qz Cn) call166 (λi _=>mX.mF (Ug i I ⟨119,#[],Z,call119,λW x qA w hm=>HY x.1 x.2 qA W  hm⟩ G)) ?_)
 rintro _ R c0 a9 d a2 o h ⟨M,c,rfl,J⟩
 obtain rfl:=c.symm
 have d:=d.perm (Tr Tn)
 refine lr (Wm (bS hm λO H hm=>?_))
 refine VE (eM d (Cr Qz Cn) call167 (λi _=>mX.mF (It i J H)) ?_)
 rintro _ b7 c1 L d a3 q h ⟨s,N,g,rfl,j⟩
 obtain rfl:=g.symm
 have d:=d.perm (Tr Tn)
 refine Wa (lt ?_)
 obtain rfl:=sj hm
 exact ma (v:=s) Z Z ⟨_,N,Z,d.oa (λp u=>Ml u) j.nd,j⟩
theorem SC (i:Sl (Pl kR) 2 (hp qa) q0 qz) (hm:Cq qz=some qt) :
  lF false pg0 75 [q0] qa (vB qt):=by
 refine cG 12 func75 Z (λd=>sg (Wa (lr (Wm (V (lT bD Z i) (Wi Z (Wm (LJ hm (λy E W=>∃t x,lm (hp qa) t∧ST false lN qa W t x∧E 2=vB false∧E 11=vB y) 5 ?_ λy a k=>?_))))))))
 ·rintro n E W ⟨t,x,M,d,U,H⟩ B
  exact Wg H (lt (rQ B d))
 refine bC a (λc a=>?_) (λc a=>?_)
 ·refine ug c (kT Z) (bS a λI D a=>sh c (rM d call126 (TR (i.mono (Pl.mono _) d.lb) D) λQ J K N d j g z=>ug c (kT Z) (bS a λY G a=>sh c (Eg d call123 (lF.mF (Em (z.sl ox λb o h=>d.at_ (Ml h)) (i.mono (Pl.mono _) (j.trans d.lb)) G)) λT d=>V (lh (cB c) Z) ?_))))
  cases sj a
  exact k _ _ ⟨K,_,j,d.kM (Dr St),Z,Z⟩
 refine un c (un c (un c (un c (V (lg (cB c) Z) ?_))))
 cases sj a
 exact k _ _ ⟨hp qa,_,lm.refl _,d.kM,Z,Z⟩
theorem aas (w:World) {c d:Value} {a b:List Int} (h1:Sl (Pl (lu .u8)) 1 (hp w) c a) (g:Sl (Pl (lu .u8)) 1 (hp w) d b):(callFunc 162 [c,d].toArray).run pg0 w= .ok (.value (vI (Dn a b))) w:=XY func162 (by kernel_rfl) (by kernel_rfl) (by kernel_rfl) (by kernel_rfl) h1 g
theorem Hi (j:Sl (Pl (lu .u8)) 1 (hp qa) q0 qo) (k:Sl (Pl (lu .u8)) 1 (hp qa) q1 qp) (hm:Bt qo qp=some qc) :
  lF true pg0 122 [q0,q1] qa (vI qc):=by
 exact cG 8 func122 Z (λa=>sg (Wa (lr (Wm (Wm (VE (Uu (args:=[q0,q1]) (v:=vI (Dn qo qp)) Z (by exact pj Z Z) (aas _ (j.mono (Pl.mono _) a.lb) (k.mono (Pl.mono _) a.lb)) (Wa (lt (rQ hm a))))))))))
theorem H5 (g i:kK) (r:Int) (w:World) (hm:vk g i=some r) :
  lF true pg0 65 [vA (kQ g),vA (kQ i)] w (vI r):=by
 refine cG 10 func65 Z (λd=>sg (VE (lY d Z (λT Y d=>VE (lY d Z (λU v d=>Wa (ln (kY ?_))))))))
 have d:=d.drew
 have h:=d.has.kM (Kb (Kb Sn))
 refine mh h lM (XH 0 Z h (λ_ n=>kP Z (kV n (Mt Mh) (kQ g) Z bK aK)) (XH 2 Z h (λ_ n=>kP Z (kV n Mh (kQ i) Z bK aK)) (bS hm λy t hm=>XE 1 Z (rM d call35 (BK g _ _  t) λI B N G d a q j=>?_))))
 have h:=d.has.ob a (Dr (Kb (Kb Sn)))
 refine ⟨h,bS hm λz u hm=>XE 3 Z (rM d call35 (BK i _ _  u) λJ D Q H d c s k=>?_)⟩
 have h:=d.has.ob (a.trans c) (Dr (Dr (Kb (Kb Sn))))
 refine ⟨h,bS hm λM x hm=>XE 4 Z (Eg d call122 (Hi (j.sl (λ_=>rfl) λb o p=>d.at_ (Ma (Ml p))) (k.sl (λ_=>rfl) λb o p=>d.at_ (Ml p)) x) λK d=>?_)⟩
 have h:=d.has.ob (a.trans c) (Dr (Dr (Kb (Kb Sn))))
 refine ⟨h,X 5 Z h (nz Z) (ml kr (kW ?_))⟩
 exact lB (rQ hm d)
theorem Ss (M:Sl mg 10 (hp qa) q0 qT) (hm:E8 qT=some qt) :
  lF true pg0 76 [q0] qa (vB qt):=by
 refine cG 42 func76 Z (λn=>sg (Wa (lS (Wm (V (lT bV Z M) (Wm (ln (mJ 7 6 (λi js E W=>∃U,ST true lN qa W (hp qa) U∧E 0=q0∧E 5=q0∧rR qT js i=some qt) M.len ⟨_,n.kM,Z,Z,hm⟩ ?_ ?_))))))))
 ·rintro B a d8 E W c2 ⟨⟨p,v⟩,U,n,I,J,t⟩
  refine sg (Wh p (VQ (my (i:=(B:Int)) (x0:=a) mg.out bV bO J p M (aG _) c2) λe3 ⟨_,⟨e8,rfl,a3⟩,b6⟩=>V (kP Z (lA n.has b6 ef bO)) (VE (lq n cU λd9 H n=>Wa ?_))))
  let f2:Value:=vI (qT.length:Int)
  let b8:Value:=vI (B:Int)
  obtain ⟨D,G,rfl⟩:=a3.form
  let q:=C2 a.kK.Kind a.kK.Head.kO a.kK.Head.Word a.kK.lV a.kK.B.kO a.kK.B.Word a.kK.C.kO a.kK.C.Word a.kK.lW D a.Tag.length G
  refine VO (FA q.toArray n bO λe0 n=>ln (kY ?_))
  have n:=n.drew
  have d:=n.has.kM (Kb Sn)
  refine mh d lM (X 0 Z d (kU rZ Z) (XH 1 Z d (λ_ o=>kP Z (kV o Mh (kQ a.kK) Z bK aK)) (bS t λe6 c0 t=>XE 2 Z (Eg n call63 (xC a.kK _ _  c0) λe1 n=>?_))))
  have d:=n.has.kM (Kb Sn)
  refine ⟨d,X 3 Z d (nt Z) (X 4 Z d (kT Z) (PJ t (λP E W=>∃a5,ST true lN qa W (hp qa) ((H,Ol q 57)::a5)∧E 0=q0∧E 3=b8∧E 4=vP H∧E 5=q0∧E 6=f2∧E 7=b8∧E 21=vB P) (bm 26 1023) 16 ?_ λP z T=>?_))⟩
  ·rintro d6 E W ⟨a5,n,K,L,c3,Y,s,u,c4⟩ b4
   have d:=n.has.kM (Kb Sn)
   refine X 10 Z d (kT c4) (PJ b4 (λa9 E W=>∃w,ST true lN qa W (hp qa) ((H,Ol q 57)::w)∧E 0=q0∧E 5=q0∧E 6=f2∧E 7=b8∧E 37=vB a9) (bm 26 67108863) 0 ?_ λa9 y N=>?_)
   ·rintro f0 E W ⟨w,n,c5,c6,c7,c8,c9⟩ x
    refine ml kr (kW ?_)
    have n:=n.kM (Db St)
    refine CI x c9 (λR x=>?_) (λR x=>?_)
    ·refine sg (Wa (lt (mG (ly (mG (ly ?_))))))
     cases sj x
     exact rP n
    exact lU (lD (kW ⟨c8,c7,_,n.kM,c5,c6,x⟩))
   refine bC y (λg y=>?_) (λg y=>?_)
   ·refine Xn 11 Z Z (cB g) d (Xn 12 Z Z (cB g) d (Xn 13 Z Z (cB g) d (Xu 14 Z Z Z d (Xu 15 Z Z Z d (Xu 16 Z Z Z d (Xu 17 Z Z Z d (Xu 18 Z Z Z d (Xu 19 Z Z Z d (Xu 20 Z Z Z d (Xu 21 Z Z Z d (Xu 22 Z Z Z d (Xu 23 Z Z Z d (Xn 24 Z Z (cB g) d (X 25 Z d (lh (cB g) Z) ?_))))))))))))))
    cases sj y
    refine nr kr (N _ _ ⟨_,n.kM,K,Y,s,u,Z⟩)
   refine Xg 11 Z Z (cB g) d (kT L) (Xg 12 Z Z (cB g) d (lI Z Z Z) (Xg 13 Z Z (cB g) d (kT Z) (PJ y (λO E W=>∃A,ST true lN qa W (hp qa) ((H,Ol q 57)::A)∧E 0=q0∧E 5=q0∧E 6=f2∧E 7=b8∧E 22=vB d6∧E 36=vB O) (bm 26 33554431) 1 ?_ λO k Q=>?_)))
   ·rintro f1 E W ⟨A,n,d0,d1,d2,d3,d4,d5⟩ b5
    have d:=n.has.kM (Kb Sn)
    refine X 25 Z d (lg (d4.trans (cB g)) d5) ?_
    cases sj b5
    refine nr kr (N _ _ ⟨_,n.kM,d0,d1,d2,d3,Z⟩)
   refine bC k (λc k=>?_) (λc k=>?_)
   ·refine Xg 14 Z Z (cB c) d (kT K) (Xg 15 Z Z (cB c) d (kT L) (Xg 16 Z Z (cB c) d (lI Z Z Z) (bS k λa2 a4 k=>vq 17 Z kr (.inr ⟨13,true,25,Z,Z,fs,cB c⟩) Z dc (λ_ _ h=>h) d (my (i:=wi0 .i64 ((B:Int)-1)) (x0:=a2) mg.out bV bO Z Z M (lR a4) (lK a4)) λe4 ⟨_,⟨e9,rfl,d7⟩,b7⟩=>vq 18 Z kr (.inr ⟨13,true,25,Z,Z,fs,cB c⟩) Z dc (λ_ _ h=>h) d (tO (kQ a2.kK) rZ Z b7 Z) λe5 b9=>uq 19 Z Z (cB c) d (λ_ o=>kP Z (lA o b9 bK aK)) (Xg 20 Z Z (cB c) d (kU rZ c3) (uq 21 Z Z (cB c) d (λ_ o=>kP Z (kV o Mh (kQ a.kK) Z bK aK)) (bS k λe7 c1 k=>Al 22 Z Z (cB c) (Eg n call65 (H5 a2.kK a.kK _ _  c1) λe2 n=>?_)))))))
    have d:=n.has.kM (Kb Sn)
    refine ⟨d,Xg 23 Z Z (cB c) d (lI Z Z Z) (Xg 24 Z Z (cB g) d (lh (cB c) Z) ?_)⟩
    cases sj k
    refine nr kr (Q _ _ ⟨_,n.kM,K,Y,s,u,Z,Z⟩)
   refine Xn 14 Z Z (cB c) d (Xn 15 Z Z (cB c) d (Xn 16 Z Z (cB c) d (Xn 17 Z Z (cB c) d (Xn 18 Z Z (cB c) d (Xn 19 Z Z (cB c) d (Xn 20 Z Z (cB c) d (Xn 21 Z Z (cB c) d (Xn 22 Z Z (cB c) d (Xn 23 Z Z (cB c) d (Xg 24 Z Z (cB g) d (lg (cB c) Z) ?_))))))))))
   cases sj k
   refine nr kr (Q _ _ ⟨_,n.kM,K,Y,s,u,Z,Z⟩)
  refine bC z (λj z=>?_) (λj z=>?_)
  ·refine Xn 5 Z Z (cB j) d (Xn 6 Z Z (cB j) d (Xn 7 Z Z (cB j) d (Xn 8 Z Z (cB j) d (X 9 Z d (lh (cB j) Z) ?_))))
   cases sj z
   refine nr kr (T _ _ ⟨_,n.kM,I,Z,Z,J,v,p,Z⟩)
  refine Xg 5 Z Z (cB j) d (kU Ak Z) (uq 6 Z Z (cB j) d (λ_ o=>kP Z (kZ o Mh Z dm)) (Xg 7 Z Z (cB j) d (lT aT Z a3) (Xg 8 Z Z (cB j) d (lI Z Z Z) (X 9 Z d (lg (cB j) Z) ?_))))
  cases sj z
  refine nr kr (T _ _ ⟨_,n.kM,I,Z,Z,J,v,p,Z⟩)
 rintro E W ⟨⟨p,v⟩,U,n,I,J,t⟩
 exact kW (sg (Wh I (V (lT bV Z M) (Wi Z (Wa (lt (rQ t n)))))))
theorem HQ (i:Sl (Pl kR) 2 (hp qa) q0 qH.nU) (g:Sl mg 10 (hp qa) q1 qH.mC) (hm:pB qH=some qt) :
  lF false pg0 36 [vA [vI qH.Kind,vI qH.oN,vI qH.E,vS qH.Name,q0,q1]] qa (vB qt):=by
 refine cG 53 func36 Z (λa=>sg ?_)
 obtain ⟨Y,c2,rfl⟩:=i.form
 let a1:Value:= .slice Y qH.nU.length c2
 obtain ⟨n,G,rfl⟩:=g.form
 let a2:Value:= .slice n qH.mC.length G
 let a0:=C4 qH.Kind qH.oN qH.E qH.Name Y qH.nU.length c2 n qH.mC.length G
 refine VE (lY a Z (λW6 b5 a=>Wa (ln (kY (kY ?_)))))
 have a:=a.drew
 have d:=a.has.kM (Kb Sn)
 refine mh d lM (XH 0 Z d (λ_ h=>kP Z (kV h Mh a0 Z et cI)) (XH 2 Z d (λ_ h=>kP Z (kV h Mh a0 Z et cI)) (bS hm λe1 d1 hm=>?_)))
 refine XE 1 Z (eD a (bJ _) call74 (λhh=>mq.mF (Uz hh (i.mono (Pl.mono _) (lm.refl _)) (g.mono nu.mono (lm.refl _)) d1)) ?_ (L0:=[]))
 rintro _ g1 N f3 a y L ⟨e3,e4,Q,rfl,d5,d6⟩
 cases Q
 have d:=a.has.ob y (Kb Sn)
 refine ⟨d,bS hm λf9 d2 hm=>XE 3 Z (Eg a call73 (UD (d5.mono (Pl.mono _) a.lb) (d6.mono nu.mono a.lb) (i.mono (Pl.mono _) (y.trans a.lb)) (g.mono nu.mono (y.trans a.lb)) d2) λf5 a=>?_)⟩
 have d:=a.has.ob y (Kb Sn)
 refine ⟨d,X 4 Z d (nt Z) (ml kr (kW (CI hm Z (λc6 hm=>?_) λc6 hm=>?_)))⟩
 ·refine sg (Wa (ln ?_))
  have a:=a.kM (Db St)
  refine lB (ly ?_)
  cases sj hm
  exact rP a
 refine kS (Wf zk (VB a Mh Z Z bH (ln (bg (Wi Z (Wa (lC ?_)))))))
 refine kW (CI hm Z (λc7 hm=>?_) λc7 hm=>?_)
 ·refine sg (Wf D9 (VB a Mh Z Z bU (bS hm λe2 d3 hm=>VE (Eg a call19 (lF.mF (xq qH.Name _ _  d3)) λf6 a=>Wm (LJ hm (λw E W=>∃s,ST false lN qa W N s∧E 2=vB false∧E 24=vB w) 9 ?_ λw H T=>?_)))))
  ·rintro g2 E W ⟨s,a,f8,d7⟩ c9
   refine Wg d7 (lt (mG (ly ?_)))
   cases sj c9
   exact rP a
  refine bC H (λc H=>?_) (λc H=>?_)
  ·refine ug c (kU BN Z) (ug c (kP Z (kZ a.has Mh Z bH)) (ug c (lI Z Z Z) (ug c (kT Z) (LJ H (λA E W=>∃v,ST false lN qa W N v∧E 2=vB false∧E 15=vB e2∧E 23=vB A) 4 ?_ λA I U=>?_))))
   ·rintro g3 E W ⟨v,a,d8,d9,e0⟩ d0
    refine V (lh (d9.trans (cB c)) e0) ?_
    cases sj d0
    exact T _ _ ⟨_,a.kM,d8,Z⟩
   refine bC I (λt I=>?_) (λt I=>?_)
   ·refine un t (un t (un t (ug c (lh (cB t) Z) ?_)))
    cases sj I
    exact U _ _ ⟨_,a.kM (Db St),Z,Z,Z⟩
   refine ug t (kU BN Z) (ug t (kP Z (kZ a.has Mh Z bH)) (ug t (lI Z Z Z) (ug c (lg (cB t) Z) ?_)))
   cases sj I
   exact U _ _ ⟨_,a.kM (Db St),Z,Z,Z⟩
  refine un c (un c (un c (un c (Vu Z Z (Vu Z Z (Vu Z Z (un c (V (lg (cB c) Z) ?_))))))))
  cases sj H
  exact T _ _ ⟨_,a.kM (Db St),Z,Z⟩
 refine sg (Wi Z (Wa (ln (CI hm Z (λc8 hm=>?_) λc8 hm=>?_))))
 ·refine sg (Wf yz (VB a Mh Z Z ir (bS hm λg0 d4 hm=>VE (Eg a call75 (SC (i.mono (Pl.mono _) (y.trans a.lb)) d4) λf7 a=>Wm (LJ hm (λo E W=>∃a3,ST false lN qa W N a3∧E 2=vB false∧E 34=vB o) 4 ?_ λo x J=>?_)))))
  ·rintro f0 E W ⟨a3,a,e6,c0⟩ O
   refine Wg c0 (lt (mG (ly ?_)))
   cases sj O
   exact rP a
  refine bC x (λu x=>?_) (λu x=>?_)
  ·refine ug u (kU uE Z) (ug u (kP Z (kZ a.has Mh Z fH)) (bS x λe9 b3 x=>sh u (Eg a call76 (lF.mF (Ss (g.mono nu.mono (y.trans a.lb)) b3)) λe5 a=>V (lh (cB u) Z) ?_)))
   cases sj x
   exact J _ _ ⟨_,a.kM (Db St),Z,Z⟩
  refine un u (un u (un u (V (lg (cB u) Z) ?_)))
  cases sj x
  exact J _ _ ⟨_,a.kM (Db St),Z,Z⟩
 refine sg (Wi Z (Wa (ln (CI hm Z (λa9 hm=>?_) λa9 hm=>?_))))
 ·refine sg (Wf Bz (VB a Mh Z Z bH (Wi Z (Wm (LJ hm (λp E W=>∃a4,ST false lN qa W N a4∧E 2=vB false∧E 44=vB p) 4 ?_ λp z K=>?_)))))
  ·rintro f1 E W ⟨a4,a,e7,c1⟩ P
   refine Wg c1 (lt (mG (ly ?_)))
   cases sj P
   exact rP a
  refine bC z (λj z=>?_) (λj z=>?_)
  ·refine ug j (kU Bz Z) (ug j (kP Z (kZ a.has Mh Z bH)) (ug j (lI Z Z Z) (V (lh (cB j) Z) ?_)))
   cases sj z
   exact K _ _ ⟨_,a.kM (Db St),Z,Z⟩
  refine un j (un j (un j (V (lg (cB j) Z) ?_)))
  cases sj z
  exact K _ _ ⟨_,a.kM (Db St),Z,Z⟩
 refine lU (lD (kW (sg (Wf zk (VB a Mh Z Z bH (Wi Z (Wm (LJ hm (λq E W=>∃a5,ST false lN qa W N a5∧E 2=vB false∧E 52=vB q) 4 ?_ λq B M=>?_))))))))
 ·rintro f2 E W ⟨a5,a,e8,c3⟩ R
  exact Wg c3 (lt (rQ R a))
 refine bC B (λk B=>?_) (λk B=>?_)
 ·refine un k (un k (un k (V (lh (cB k) Z) ?_)))
  cases sj B
  exact M _ _ ⟨_,a.kM (Db St),Z,Z⟩
 refine ug k (kU zk Z) (ug k (kP Z (kZ a.has Mh Z bH)) (ug k (lI Z Z Z) (V (lg (cB k) Z) ?_)))
 cases sj B
 exact M _ _ ⟨_,a.kM (Db St),Z,Z⟩
theorem ME (M:nN qb ((qk,Ob #[q0] 139)::(qf++[])) qa) (k:lQ 5 (lu .u8) 1 q0 qo qf) (y:Sl (Pl (lu .u8)) 1 qb q1 qp) (hm:GX qo qp=some qR) :
  mX true pg0 168 [vP qk,q1] qa ((qk,Ob #[q0] 139)::(qf++[])) (λv J W'=>∃H B,v=vB qR.1∧J=((qk,Ob #[H] 139)::(B++[]))∧lQ 5 (lu .u8) 1 H qR.2 B):=by
 refine Bl M 16 func168 Z (λa=>sg (Wa (lS (Wm (V (uc fi Z Z) (ln (sM Z (lU ?_))))))))
 refine kW (sg (Wm (Wm (Wn (Wf BV (VB a Mh Z Z dm (Wm ?_)))))))
 have a:=a.perm (Nr (Qb Qz) Nz)
 refine bS hm λz G hm=>VE (oG (enc:=lu .u8) (v:=q0) (vs:=q1) (R:=qf) a (λ_=>rfl) dc (uk _) aT tk.1 tk.2.1 Z tk.2.2.1 tk.2.2.2 Z Z k (y.mono (Pl.mono _) a.lb) G λN T K a t=>Wn (Wf BV ?_))
 obtain ⟨u,x,rfl⟩:=t.form
 have a:=a.perm (Nb (Pr Pz) Nz)
 refine VO (lz (.slice u z.length x) (#[.slice u z.length x]) a Z Z eQ oc nb Z (λQ a=>lr (Wa (lt ?_))))
 cases sj hm
 exact ma (v:=vB true) Z Z ⟨_,_,Z,a.lZ (Kb (Kr Sn)),.slice u z.length x,K,Z,Z,t⟩
theorem Rg (h0:nN qb ((qk,Ob #[q0] 139)::(qf++[])) qa) (B:lQ 5 (lu .u8) 1 q0 qo qf) (u:Sl (Pl (lu .u8)) 1 qb q1 qW.Tag) (hm:JF qo qW=some qR) :
  mX true pg0 127 [vP qk,vA [vI qW.kK.Kind,vS qW.kK.Head.kO,vS qW.kK.Head.Word,vS qW.kK.lV,vS qW.kK.B.kO,vS qW.kK.B.Word,vS qW.kK.C.kO,vS qW.kK.C.Word,vS qW.kK.lW,q1]] qa ((qk,Ob #[q0] 139)::(qf++[])) (λv L1 W'=>∃z S2,v=vB qR.1∧L1=((qk,Ob #[z] 139)::(S2++[]))∧lQ 5 (lu .u8) 1 z qR.2 S2):=by
 let h:=(qk,Ob #[q0] 139)::(qf++[])
 refine Bl h0 30 func127 Z (λa=>sg ?_)
 obtain ⟨A1,c2,rfl⟩:=u.form
 refine VE (lY a Z (λW4 p a=>Wa (lS (Wm (V (uc fi Z Z) (Wm (Vg Z Z (kU rZ Z) (Vg Z Z (kP Z (kV a.has Mh (kQ qW.kK) Z bK aK)) (bS hm λr5 d0 hm=>RN Z Z (Eg a call63 (xC qW.kK _ _  d0) λW7 a=>Vg Z Z (nt Z) ?_))))))))))
 refine V (lg Z Z) (Wm (LJ hm (λi E W=>∃a0,ST true (keys h) qa W qb ((p,Ol (C2 qW.kK.Kind qW.kK.Head.kO qW.kK.Head.Word qW.kK.lV qW.kK.B.kO qW.kK.B.Word qW.kK.C.kO qW.kK.C.Word qW.kK.lW A1 qW.Tag.length c2) 57)::((qk,Ob #[q0] 139)::(qf++a0)))∧E 0=vP qk∧E 3=vP p∧E 18=vB i) 5 ?_ λi y K=>?_))
 ·rintro x9 E W ⟨a0,a,a4,a5,c8⟩ k
  refine ln (CI k c8 (λR k=>?_) λR k=>?_)
  ·refine sg (Wa (ln ?_))
   have a:=a.kM (Db St)
   refine lB (ly ?_)
   cases sj k
   exact ma (v:=vB false) Z Z ⟨_,_,Z,a.lZ (Kb (Kr Sn)),q0,qf,Z,Z,B⟩
  refine kg (Wh a4 (V (kU rZ a5) (VA a Mh (kQ qW.kK) bK aK (bS k λd1 b7 k=>VE (rM a call35 (BK qW.kK _ _  b7) λe4 d3 f1 e3 a U q P=>bS k λd2 b9 k=>?_)))))
  refine VE (Tg a (Cb (Pr (Pb Pz)) (Cr (Qr (Qb Qz)) Cn)) call168 (λhH hN d g=>ME ⟨hH,hN,lm.refl _⟩ B (P.sl (λ_=>rfl) λb o hq=>g b o (Ml hq)) b9) λe5 e9 n e1 a Y s c O=>?_)
  obtain ⟨L,a3,G,rfl,N⟩:=O
  replace G:=G.symm; subst G
  have a:=a.perm (Tb (Tr Tn))
  refine Wm (LJ k (λQ E W=>∃M I T a2,lm n T∧ST true (keys h) qa W T ((qk,Ob #[M] 139)::(I++a2))∧E 29=vB Q.1∧lQ 5 (lu .u8) 1 M Q.2 I) 5 ?_ λQ x J=>?_)
  ·rintro ⟨d4,e7⟩ E W ⟨M,I,T,a2,d8,a,c9,c1⟩ b6
   refine Wg c9 (lt ?_)
   cases sj b6
   exact ma (v:=vB d4) Z Z ⟨_,_,Z,a.lZ (Kb (Kr Sn)),M,I,Z,Z,c1⟩
  refine bC x (λj x=>?_) (λj x=>?_)
  ·refine ug j (kT a4) (ug j (kU Ak a5) (ug j (kP Z (kZ a.has (Mt (Ma (Ma Mh))) Z dm)) (bS x λe8 c0 x=>?_)))
   refine sh j (eM a (Cb Pz (Cr Qz Cn)) call77 (λhh d=>zV hh N (u.mono (Pl.mono _) ((U.trans Y).trans d)) c0) ?_)
   rintro _ f0 d7 e2 a A w c ⟨d6,c6,H,rfl,c3⟩
   cases H
   have a:=a.perm (Tb (Tr Tn))
   refine V (lh (cB j) Z) ?_
   cases sj x
   exact J _ _ ⟨d6,c6,d7,_,A,a.kM (Kb (Kr (Dr (Db St)))),Z,c3⟩
  refine un j (un j (un j (un j (V (lg (cB j) Z) ?_))))
  cases sj x
  exact J _ _ ⟨L,a3,n,_,lm.refl _,a.kM (Kb (Kr (Dr (Db St)))),Z,N⟩
 refine bC y (λt y=>?_) (λt y=>?_)
 ·refine un t (un t (un t (un t (V (lh (cB t) Z) ?_))))
  cases sj y
  exact K _ _ ⟨_,a.kM,Z,Z,Z⟩
 refine ug t (kU Ak Z) (ug t (kP Z (kZ a.has Mh Z dm)) (ug t (lT aT Z u) (ug t (lI Z Z Z) (V (lg (cB t) Z) ?_))))
 cases sj y
 exact K _ _ ⟨_,a.kM,Z,Z,Z⟩
theorem Se (h0:nN qb ((qk,Ob #[q0] 139)::(qf++[])) qa) (d6:lQ 5 (lu .u8) 1 q0 qo qf) (k:Sl (Pl kR) 2 qb q1 qH.nU) (j:Sl mg 10 qb q2 qH.mC) (hm:Lj qo qH=some qR) :
  mX false pg0 78 [vP qk,vA [vI qH.Kind,vI qH.oN,vI qH.E,vS qH.Name,q1,q2]] qa ((qk,Ob #[q0] 139)::(qf++[])) (λv L1 W'=>∃y1 S2,v=vB qR.1∧L1=((qk,Ob #[y1] 139)::(S2++[]))∧lQ 5 (lu .u8) 1 y1 qR.2 S2):=by
 let b8:=(qk,Ob #[q0] 139)::(qf++[])
 refine Bl h0 72 func78 Z (λc=>sg ?_)
 obtain ⟨A1,c2,rfl⟩:=k.form
 obtain ⟨A3,c4,rfl⟩:=j.form
 let d0:=C4 qH.Kind qH.oN qH.E qH.Name A1 qH.nU.length c2 A3 qH.mC.length c4
 refine VE (lY c Z (λW6 b5 c=>Wa (lS (Wm (V (uc fi Z Z) (Wm (Vg Z Z (kP Z (kV c.has Mh d0 Z et cI)) (bS hm λr7 i3 hm=>RN Z Z (Eg c call36 (HQ (k.mono (Pl.mono _) c.lb) (j.mono nu.mono c.lb) i3) λW9 c=>Vg Z Z (nt Z) (V (lg Z Z) ?_))))))))))
 refine ln (CI hm Z (λg4 hm=>?_) λg4 hm=>?_)
 ·cases hm
 refine kg (Wm (Wf zk (VB c Mh Z Z bH (bS hm λi4 g7 hm=>?_))))
 refine VE (eM c (Cb (Pb Pz) (Cr (Qb Qz) Cn)) km (λg _=>mX.mF (pk g d6 g7)) ?_)
 rintro _ l5 i7 l3 c e5 af d ⟨i6,i0,c1,rfl,g8⟩
 cases c1
 have c:=c.perm (Tb (Tr Tn))
 refine ln (kY (CJ hm (λO E W=>∃o Y R d2,lm i7 R∧ST false (keys b8) qa W R ((qk,Ob #[o] 139)::(Y++d2))∧lQ 5 (lu .u8) 1 o O Y) (λO t=>?_) ?_))
 ·refine sg (Wf zk (VB c (Mt (Ma Mh)) Z Z bH (ln (bg (Wi Z (Wa (ln (CI t Z (λe3 t=>?_) λe3 t=>?_))))))))
  ·cases t
  refine sg (Wi Z (Wa (ln (CI t Z (λe4 t=>?_) λe4 t=>?_))))
  ·refine sg (Wm (Wf yz (VB c (Mt (Ma Mh)) Z Z ir (V (lT bD Z k) (bS t λh1 f0 t=>?_)))))
   refine VE (eM c (Cb Pz (Cr Qz Cn)) km (λg _=>mX.mF (pk g g8 f0)) ?_)
   rintro _ k8 d9 j4 c b0 aa d ⟨h4,f9,a3,rfl,f6⟩
   cases a3
   have c:=c.perm (Tb (Tr Tn))
   refine lS (Wf yz (VB c (Mt (Ma Mh)) Z Z ir (V (lT bD Z k) (Wm (ln (mJ 42 41 (λi js E W=>∃Q M J q u,lm d9 q∧ST false (keys b8) qa W q ((qk,Ob #[Q] 139)::((b5,Ol d0 69)::(J++u)))∧E 0=vP qk∧E 3=vP b5∧E 40= .slice A1 qH.nU.length c2∧lQ 5 (lu .u8) 1 Q M J∧Ew qH js M=some O) k.len ⟨h4,h1.2,f9,d9,_,lm.refl _,c.kM (Kb (Sb (Pr Pz) St)),Z,Z,Z,f6,t⟩ ?_ ?_))))))
   ·rintro k4 l2 i9 E W i8 ⟨⟨h,s⟩,Q,M,J,q,u,K,c,x,A,g2,c8,y⟩
    rw [Ew] at y
    cases y
   rintro E W ⟨⟨h,s⟩,Q,M,J,q,u,K,c,x,A,g2,c8,y⟩
   refine kW (sg (Wh x (V (kU uE A) (VB c (Mt Mh) Z Z fH (V (lT bV Z j) (bS y λh2 f1 y=>?_))))))
   refine VE (eM c (Cb Pz (Cr (Qb Qz) Cn)) km (λg _=>mX.mF (pk g c8 f1)) ?_)
   rintro _ k9 c7 j5 c b1 ab d ⟨h5,g0,a4,rfl,f7⟩
   cases a4
   have c:=c.perm (Tb (Tr Tn))
   refine lr (V (kU uE A) (VB c (Mt (Ma Mh)) Z Z fH (V (lT bV Z j) (Wm (ln ?_)))))
   have c:=c.kM (Kb (Kr (Db St)))
   refine tW (CJ y (λP E W=>∃p n a9 d3,lm c7 a9∧ST false (keys b8) qa W a9 ((qk,Ob #[p] 139)::(n++d3))∧lQ 5 (lu .u8) 1 p P n) (λP e8=>?_) ?_)
   ·refine mJ 58 57 (λi js E W=>∃I N H T w,lm c7 T∧ST false (keys b8) qa W T ((qk,Ob #[I] 139)::(H++w))∧E 0=vP qk∧E 56= .slice A3 qH.mC.length c4∧lQ 5 (lu .u8) 1 I N H∧Ez js N=some P) j.len ⟨h5,h2.2,g0,c7,_,lm.refl _,c.kM,x,Z,f7,e8⟩ ?_ ?_
    ·rintro g9 a j0 E W f5 ⟨⟨h,s⟩,I,N,H,T,w,B,c,G,L,a2,z⟩
     refine sg (VQ (my (i:=(g9:Int)) (x0:=a) mg.out bV bO L h (j.mono nu.mono ((((e5.trans b0).trans K).trans b1).trans B)) (aG _) f5) λk7 ⟨_,⟨l0,rfl,c9⟩,e9⟩=>V (kP Z (lA c.has e9 ef bO)) (VE (lq c cU λj9 k2 c=>?_)))
     obtain ⟨U,a0,rfl⟩:=c9.form
     let a1:=C2 a.kK.Kind a.kK.Head.kO a.kK.Head.Word a.kK.lV a.kK.B.kO a.kK.B.Word a.kK.C.kO a.kK.C.Word a.kK.lW U a.Tag.length a0
     refine VO (FA a1.toArray c bO λk0 c=>ln (kX (Wh G (VA c Mh a1 ef bO (bS z λh3 f2 z=>?_)))))
     refine VE (eM c (Cb (Pb Pz) (Cr (Qb Qz) Cn)) call127 (λg ae=>mX.mF (Rg g a2 (c9.mono (Pl.mono _) ae) f2)) ?_)
     rintro _ l1 h8 j6 c d8 ad d ⟨h6,g1,a5,rfl,f8⟩
     cases a5
     have c:=c.perm (Tb (Tr Tn))
     refine lC (lD (kW ?_))
     have c:=c.kM (Kb (Kr (Db St)))
     exact ⟨h,s,h6,h3.2,g1,h8,_,B.trans d8,c.kM,G,L,f8,z⟩
    rintro E W ⟨⟨h,s⟩,I,N,H,T,w,B,c,G,L,a2,z⟩
    refine kW ?_
    cases sj z
    exact ⟨I,H,T,_,B,c.kM,a2⟩
   rintro k6 E W ⟨p,n,a9,d3,d7,c,f4⟩ e7
   refine lD (kW ?_)
   cases sj e7
   exact ⟨p,n,a9,_,((b0.trans K).trans b1).trans d7,c.kM,f4⟩
  cases t
 rintro k5 E W ⟨o,Y,R,d2,i2,c,f3⟩ e6
 refine sg (Wa (lt ?_))
 cases sj e6
 exact ma (v:=vB true) Z Z ⟨_,_,Z,c.lZ (Kb (Kr Sn)),o,Y,Z,Z,f3⟩
theorem SD (g:Sl (Pl kR) 2 (hp qa) q0 qH.nU) (c:Sl mg 10 (hp qa) q1 qH.mC) (hm:Lv qH=some qo) :
  mM false pg0 38 [vA [vI qH.Kind,vI qH.oN,vI qH.E,vS qH.Name,q0,q1]] qa 5 (lu .u8) 1 qo:=by
 refine yd 11 func38 Z (λa=>sg ?_)
 obtain ⟨u,y,rfl⟩:=g.form
 obtain ⟨x,z,rfl⟩:=c.form
 refine VE (lY a Z (λW6 w a=>Wa (lr (V (lX (v:=vA [vN]) oP (lG iY eE (M3 _ eE) kr)) (VE (lY a Z (λW8 J a=>Wa (lr (Wm (VA a (Mt Mh) (C4 qH.Kind qH.oN qH.E qH.Name u qH.nU.length y x qH.mC.length z) et cI ?_))))))))))
 refine bS hm λT D hm=>?_
 refine VE (eM a (Cb Pz (C0 Cn)) call78 (λq d=>Se q (lQ.nil _ _ _) (g.mono (Pl.mono _) d) (c.mono nu.mono d) D) ?_)
 rintro _ a3 a4 U a N j h ⟨M,Y,k,rfl,H⟩
 cases k
 have a:=a.perm (Tb (Tr Tn))
 refine ln ?_
 have a:=a.kM (Kb (Kr (Db St)))
 refine sg (Wm (bS hm λa2 G hm=>VE (rM a call72 (mM.mF (yC (H.sl (λ_=>rfl) λb o i=>a.at_ (Mt (Ml i))) (At.of (a.at_ Mh) _ Z) G)) λs K a5 I a Q n t=>Wa (ln ?_))))
 have a:=a.kM (Kr (Db (Dr St)))
 refine lB ?_
 cases sj hm
 exact ma (v:=K) Z Z ⟨_,I,Z,a.oa (λp i=>Ml i) t.nd,t⟩
theorem Ow (g:Int) (r:List Int) (w:World) (hm:EF g=some r) :
  mM true pg0 85 [vI g] w 5 (lu .u8) 1 r:=by
 refine yd 11 func85 Z (λd=>sg (Wa (lr (V (lX (v:=vA [vN]) oP (lG iY eE (M3 _ eE) kr)) (VE (lY d Z (λN u d=>Wa (lr ?_))))))))
 refine Wm (Wm (bS hm λG x hm=>?_))
 refine VE (eM d (Cb Pz (C0 Cn)) km (λq _=>pk q (lQ.nil _ _ _) x) ?_)
 rintro _ T U H d D s h ⟨z,I,a,rfl,k⟩
 cases a
 have d:=d.perm (Tb (Tr Tn))
 refine lr (Wm (bS hm λK j hm=>VE (rM d call72 (yC (k.sl (λ_=>rfl) λb o i=>d.at_ (Mt (Ml i))) (At.of (d.at_ Mh) _ Z) j) λJ y M t d B n c=>Wa (ln ?_))))
 have d:=d.kM (Kr (Db (Dr St)))
 refine lB ?_
 cases sj hm
 exact ma (v:=y) Z Z ⟨_,t,Z,d.oa (λp i=>Ml i) c.nd,c⟩
theorem LF (T:Sl (Pl (lu .u8)) 1 (hp qa) q0 qo) (hm:Cu qc qo=some qp) :
  mM true pg0 43 [vI qc,q0] qa 5 (lu .u8) 1 qp:=by
 refine yd 30 func43 Z (λd=>sg (Wa (lr (Wm (bS hm λQ Y hm=>VE (rM d call85 (Ow qc _ _  Y) λW3 v7 s R8 d O a6 a4=>Wm ?_))))))
 obtain ⟨J,M,rfl⟩:=a4.form
 obtain ⟨K,N,rfl⟩:=T.form
 refine VE (lE (cs:=#[.slice J Q.length M,.slice K qo.length N]) d (pF Z Z) (ng jU eQ iI) λc1 b2 d=>bS hm λk a9 hm=>VE (Eg d call68 (OR (O3.lit (l:=[Q,qo]) (vs:=[.slice J Q.length M,.slice K qo.length N]) Z nb (d.at_ Mh) (.cons (a4.sl (λ_=>rfl) λb o q=>d.at_ (Mt (Ml q))) (.cons (T.mono (Pl.mono _) (O.trans d.lb)) .nil))) a9) λc2 d=>Wa (ln ?_)))
 have d:=d.kM (Db (Dr St))
 refine sg (bS hm λb4 L hm=>VE (Lm (enc:=lu .u8) (z:=0) d (λ_=>rfl) dc aT tk.1 tk.2.1 tk.2.2.1 tk.2.2.2 Z Z Z L λc3 U R d I=>Wa (lS (Wm (V (pe aT Z I) (Wm (ln ?_)))))))
 refine mJ 16 15 (λi js E W=>∃D y G,ST true lN qa W s (y++G)∧E 5= .int .u64 k∧E 6=U∧lQ 5 (lu .u8) 1 U D y∧zZ k js i D=some qp) I.len ⟨b4,R,_,d.kM,Z,Z,I,hm⟩ ?_ ?_
 ·rintro j c4 b9 E W b6 ⟨⟨n,w⟩,D,y,G,d,H,t,g,c⟩
  refine sg (Wh n (Wa (ln (kX (Wh t (Wm (Wh H (Wm (Wi Z (Wi Z (bS c λ_ a2 c=>V (I5 (a:=k) (b:=wi0 .i64 (8*(wi0 .i64 (7-(j:Int))))) Z Z (WZ a2)) ?_)))))))))))
  let h:=wi0 .i64 (8*(wi0 .i64 (7-(j:Int))))
  exact V (pt (k':=.u64) (a:=Int.fdiv k (2 ^ min (Int.toNat h) (IntKind.bits .u64))) gL cJ Z) (bS c λP x c=>VQ (oF (i:=(j:Int)) (x0:=P) aT fc Z Z g (lR x) (lK x)) λb7 a3=>VO (Av (u:= .int .u8 (IntKind.u8.wrap (Int.fdiv k (2 ^ min (Int.toNat h) (IntKind.bits .u64))))) (x1:=IntKind.u8.wrap (Int.fdiv k (2 ^ min (Int.toNat h) (IntKind.bits .u64))))  d g (λ_=>rfl) (uk _) Z Z Z a3 (lK x) fc λb5 a5 d A=>lC (lD (kW ⟨n,w,D.set (Int.toNat (j:Int)) (IntKind.u8.wrap (Int.fdiv k (2 ^ min (Int.toNat h) (IntKind.bits .u64)))),a5,_,d.kM,H,t,A,c⟩))))
 rintro E W ⟨⟨n,w⟩,D,y,G,d,H,t,g,c⟩
 refine kW (sg (Wh t (Wa (lt ?_))))
 cases sj c
 exact ma (v:=U) Z Z ⟨_,y,Z,d.oa (λp q=>Ml q) g.nd,g⟩
theorem QN (t:Sl (Pl (lu .u8)) 1 (hp qa) q0 qo) (hm:KB qc qo=some qp) :
  mM true pg0 37 [vI qc,q0] qa 5 (lu .u8) 1 qp:=by
 refine yd 32 func37 Z (λd=>sg (Wa (lS (Wm (Wi Z (Wm (LJ hm (λU E W=>∃L3,ST true lN qa W (hp qa) L3∧E 0=vI qc∧E 1=q0∧E 11=vB U) 3 ?_ λU k G=>?_)))))))
 ·rintro x2 E W ⟨L3,d,w,Y,e7⟩ c1
  refine Wh e7 (LJ c1 (λT E W=>∃M,ST true lN qa W (hp qa) M∧E 0=vI qc∧E 1=q0∧E 16=vB T) 4 ?_ λT j D=>?_)
  ·rintro x9 E W ⟨M,d,N,Q,b9⟩ a
   refine ln (CI a b9 (λa5 a=>?_) λa5 a=>?_)
   ·refine sg (Wa (lt (ly ?_)))
    cases sj a
    exact ma (v:=vN) Z Z ⟨_,[],Z,d.oa (λp h=>by cases h) fb,lQ.nil _ _ _⟩
   refine kg (V (lX (v:=vA [vN]) oP (lG iY eE (M3 _ eE) kr)) (VE (lY d Z (λe0 z d=>Wa (lr (Wm (Wh N (bS a λc2 R a=>?_))))))))
   refine VE (eM d (Cb Pz (C0 Cn)) km (λq _=>pk q (lQ.nil _ _ _) R) ?_)
   rintro _ f0 f3 d5 d B A g ⟨c8,b6,u,rfl,b1⟩
   cases u
   have d:=d.perm (Tb (Tr Tn))
   refine lr (Wm (Wh Q (bS a λc3 a7 a=>?_)))
   refine VE (eM d (Cb Pz (Cr Qz Cn)) call77 (λq n=>zV q b1 (t.mono (Pl.mono _) (B.trans n)) a7) ?_)
   rintro _ f1 f4 d6 d K J g ⟨c9,b7,x,rfl,b2⟩
   cases x
   have d:=d.perm (Tb (Tr Tn))
   refine lr (Wm (Wh N (Wh Q (bS a λc4 a8 a=>VE (rM d call43 (LF (t.mono (Pl.mono _) ((B.trans K).trans d.lb)) a8) λe3 c6 f5 d8 d d1 L a4=>bS a λc5 a9 a=>?_)))))
   refine VE (Tg d (Cb (Pr Pz) (Cr (Qr Qz) Cn)) call77 (λhH hN n s=>zV ⟨hH,hN,lm.refl _⟩ b2 (a4.sl (λ_=>rfl) λb o h=>s b o (Ml h)) a9) λe4 f2 f6 d7 d d2 O g a3=>?_)
   obtain ⟨d0,d9,y,rfl,b3⟩:=a3
   replace y:=y.symm; subst y
   have d:=d.perm (Tb (Tr Tn))
   refine ln ?_
   have d:=d.kM (Kb (Kr (Dr St)))
   refine sg (Wm (bS a λe9 b0 a=>VE (rM d call72 (yC (b3.sl (λ_=>rfl) λb o h=>d.at_ (Mt (Ml h))) (At.of (d.at_ Mh) _ Z) b0) λe8 c7 f7 b5 d d3 P I=>Wa (ln ?_))))
   have d:=d.kM (Kr (Db (Dr St)))
   refine lB ?_
   cases sj a
   exact ma (v:=c7) Z Z ⟨_,b5,Z,d.oa (λp h=>Ml h) I.nd,I⟩
  refine bC j (λc j=>?_) (λc j=>?_)
  ·refine un c (un c (un c (V (lh (cB c) Z) ?_)))
   cases sj j
   exact D _ _ ⟨_,d.kM,w,Y,Z⟩
  refine ug c (kT Y) (ug c (lT aT Z t) (ug c (lI Z Z Z) (V (lg (cB c) Z) ?_)))
  cases sj j
  exact D _ _ ⟨_,d.kM,w,Y,Z⟩
 refine bC k (λi k=>?_) (λi k=>?_)
 ·refine un i (un i (V (lh (cB i) Z) ?_))
  cases sj k
  exact G _ _ ⟨_,d.kM,Z,Z,Z⟩
 refine ug i (kT Z) (ug i (lI Z Z Z) (V (lg (cB i) Z) ?_))
 cases sj k
 exact G _ _ ⟨_,d.kM,Z,Z,Z⟩
theorem Q7 (g:Sl (Pl kR) 2 (hp qa) q0 qH.nU) (c:Sl mg 10 (hp qa) q1 qH.mC) (hm:Km qc qH=some qo) :
  mM false pg0 18 [vI qc,vA [vI qH.Kind,vI qH.oN,vI qH.E,vS qH.Name,q0,q1]] qa 5 (lu .u8) 1 qo:=by
 refine yd 12 func18 Z (λa=>sg ?_)
 obtain ⟨k,u,rfl⟩:=g.form
 obtain ⟨t,x,rfl⟩:=c.form
 let a0:=C4 qH.Kind qH.oN qH.E qH.Name k qH.nU.length u t qH.mC.length x
 refine VE (lY a Z (λW6 n a=>Wa (lS (VA a Mh a0 et cI (bS hm λq J hm=>VE (Eg a call36 (HQ (g.mono (Pl.mono _) a.lb) (c.mono nu.mono a.lb) J) λW9 a=>V (nt Z) (ln (CI hm Z (λD hm=>?_) λD hm=>?_))))))))
 ·cases hm
 refine kg (Wm (VA a Mh a0 et cI (bS hm λK G hm=>VE (rM a call38 (SD (g.mono (Pl.mono _) a.lb) (c.mono nu.mono a.lb) G) λY M a3 U a Q h B=>bS hm λa2 H hm=>VE (rM a call37 (mM.mF (QN (B.sl (λ_=>rfl) λb o d=>a.at_ (Ml d)) H)) λj N a4 I a T i y=>Wa (ln ?_))))))
 have a:=a.kM (Kr (Dr (Db St)))
 refine lB ?_
 cases sj hm
 exact ma (v:=N) Z Z ⟨_,I,Z,a.oa (λp d=>Ml d) y.nd,y⟩
theorem Je {F:Nat→Prop} {w W:World} (p t:Nat) (z I:Value) (c y:Int) (u:FrameMode) (o:ST qt F w W qb ((p,.cells #[z,I] 198 (0,0))::(t,.cells #[.int .i64 c] 30 (0,0))::qf)) (hu:(u= .returning∧y=c)∨u= .panicking [{ v:=zN 203 p y,recovered:=false }]) :
  CallsD pg0 129 #[.pointer (some ⟨p,0,none⟩),.pointer (some ⟨t,0,none⟩)] u W λe G W'=>e= .returned (vT [])∧settle G= .returning∧ST qt F w W' qb ((p,.cells #[z,.bool true] 198 (0,0))::(t,.cells #[.int .i64 y] 30 (0,0))::qf):=by
 refine callsD_of_wpS func129 Z λs ds x=>abj (n:=31) (kX (Wm (Wn (Wf N9 (VO (Gj [] (vB true) #[z,.bool true] o Z Z sizeOf4 oc (aZ 2) Z (λg o=>lC ⟨Z,λa ha=>wpS_seq ?_⟩))))))) (Q1 (args:=[.pointer (some ⟨p,0,none⟩),.pointer (some ⟨t,0,none⟩)]) Tryz.ntmps129 nb)
 rcases hu with ⟨rfl,rfl⟩ | rfl
 ·refine Ly (n:=31) (d:=10) (d2:=4) (v:=.nilIface) (cs':={ s with mode:=.returning }::ds) dc dc Z Z Z Z (λ_=>rfl) (λE h=>nz h) (.inr ⟨?_,Z,?_⟩) ha (λa ha=>?_)
  ·simp only [recoverD,x]
  ·rw [←x]
  exact SZ (u:=.returning) Tryz.results129 (kY (sg (Wm (V (ZI underlying20 Z Z) (ln (Aw Z (lB (ly ⟨.inr Z,Z,Z,o⟩)))))))) ha
 refine Ly (n:=31) (d:=10) (d2:=4) (v:=zN 203 p y) (cs':={ s with mode:=.panicking [{ v:=zN 203 p y,recovered:=true }] }::ds) dc dc Z Z Z Z (λ_=>rfl) (λE h=>nz h) (.inl ?_) ha (λa ha=>?_)
 ·simp only [recoverD,x]
 refine SZ (u:=.panicking [{ v:=zN 203 p y,recovered:=true }]) Tryz.results129 (kY (sg (Wm (V (Z9 underlying20 Z Z) (ln (sM Z (kg (Wm (V (Ul ga (by intro q h; cases h) Z) ?_))))))))) ha
 refine Wm (Wx Z (Wx Z (VE (lq o zeroValue203 λi J o=>VO (Gj [] (vA [.pointer (some ⟨p,0,none⟩),.int .i64 y]) #[.pointer (some ⟨p,0,none⟩),.int .i64 y] o Z Z sizeOf203 oc (aZ 2) Z (λj o=>Wa (lS (Wm (V (nt Z) (Wm (Vg Z Z (kU ZG Z) ?_)))))))))))
 refine Vg Z Z (kP Z (kZ o.has Mh Z isAgg150)) (Vg Z Z (kT Z) (Vg Z Z (Si jV sizeOf198 Z Z) (V (lg Z Z) (ln (sM Z (kn (kX (Wm (Wf Y9 (VB o Mh Z Z kF (Wn (VO (Gj [_,_] (vI y) #[.int .i64 y] o Z Z kA oc (aZ 1) Z (λk o=>?_))))))))))))))
 exact lC ⟨.inl Z,Z,Z,ST.drop (A:=[]) o⟩
theorem Lg {dd:Bool} {S:Type} (fk:Nat) (a:Array Value) (N:Value) (T b:List Int) (s:Int ⊕ S) (rd:S→List Int) (w:World) (h0:nN qb qf w) (hb:Sl (Pl (lu .u8)) 1 qb N T) (Y:rO T=some b) (K:S→LO→mc→Prop) (X:Int→LO→mc→Prop) (H:∀args w,(callFunc fk args).run pg0 w= .ok (.enter fk args) w) (hf:∀(w':World) (μ':mc) (o:Nat) (G:Value),nN μ' ((o,Obj.cells #[G,.bool false] 198 (0,0))::qf) w'→lm qb μ'→Sl (Pl (lu .u8)) 1 μ' G b→
   me dd pg0 fk (.pointer (some ⟨o,0,none⟩)::a.toList) w' μ' ((o,Obj.cells #[G,.bool false] 198 (0,0))::qf) s (λr v B u=>∃y z L',B=(o,Obj.cells #[y,z] 198 (0,0))::L'∧Sl (Pl (lu .u8)) 1 u y (rd r)∧K r L' u)
    (λx c B u=>∃y z L',c=[{ v:=zN 203 o x,recovered:=false }]∧B=(o,Obj.cells #[y,z] 198 (0,0))::L'∧X x L' u)) :
  mq dd pg0 80 [N,.func (.func fk) #[] a] w qb qf (λv B u=>v=vI (DL rd s)∧YH K X s B u):=by
 refine V1 ?_
 have j:=ST.yJ (dd:=dd) h0
 refine RP (n:=22) func80 Z Z nb (Td (kX (VE (lq j zeroValue30 λW1 O j=>lC ⟨Z,Td (kX (Wm (VE (rM j call20 (mM.mF (CP (hb.mono (Pl.mono _) j.lb) Y)) λW2 v2 a7 R2 j g R U=>?_))))⟩))))
 obtain ⟨a8,j,i,W,J⟩:=ST.JS j U (λ_=>rfl)
 obtain ⟨A,c,rfl⟩:=J.form
 refine V (lX (v:=vA [.slice A b.length c,.bool false]) (mB Z) (lG zeroValue198 iE (abz _ iE) kr)) (VE (lY j Z (λW3 o j=>Wa (lC ⟨Z,abd (Uo (ab2 (.inl Z) Z dc (kT Z) (Va (d:=⟨.fn (.func 129) #[],#[.pointer (some ⟨o,0,none⟩),.pointer (some ⟨O,0,none⟩)]⟩) (.inl Z) Z (VL (args:=[.pointer (some ⟨o,0,none⟩),.pointer (some ⟨O,0,none⟩)]) Z (by exact pj Z Z)) (kW (Gf (Gf (Ek (E5 (.inl Z) Z dc (kT Z) (E5 (.inl Z) Z dc (Sc underlying153 Z Z) (H6 ?_))))))))))⟩))))
 refine kW (R5 Z (Ek (E5 (.inl Z) Z dc (kT Z) (E5 (.inl Z) Z dc (kT Z) ?_))))
 have hP:List.Perm ((o,Obj.cells (vA [.slice A b.length c,.bool false]:Value).cells 198 (0,0))::(O,Obj.cells (Value.int IntKind.i64 0).cells 30 (0,0))::qf) (((o,Obj.cells #[.slice A b.length c,.bool false] 198 (0,0))::qf)++[(O,Obj.cells (Value.int IntKind.i64 0).cells 30 (0,0))]):=List.Perm.cons _ (eB (l₁:=[_]))
 have hB:∀{M:LO} {p q:Nat×Obj},((p::M)++[q]).Perm (p::q::M):=List.Perm.cons _ (eB (l₂:=[_]))
 rcases s with x | r
 ·refine abZ (.inl Z) (oL (args:=[vP o]) (caps:=a) _ _ j hP Z H (by exact sD Z) (λhH hN Q a6=>me.l (hf _ _ o _ ⟨hH,hN,Q⟩ (g.trans i) J)) λW4 cc Zq L4 j D P hX=>?_)
  obtain ⟨y,z,L',rfl,rfl,hX⟩:=hX
  have j:=j.perm hB
  intro E' a1
  refine nO (Qw fb call129 (Je _ _ _ _ 0 x _ j (.inr Z)) λI j=>mR (v:=.int .i64 x) Z (a1 4) (kZ j.has (.tail _ (.head _)) Z kF) ?_)
  have j:=ST.drop (A:=[]) (ST.drop (A:=[]) j)
  exact ⟨_,_,_,Z,j.aaB,(g.trans i).trans D,(R.trans W).trans P,j.lp λ_ h=>h,Z,hX⟩
 refine ab6 (.inl Z) Z dc (MB (args:=[vP o]) (caps:=a) _ _ j hP Z H (by exact sD Z) (λhH hN Q a6=>me.r (hf _ _ o _ ⟨hH,hN,Q⟩ (g.trans i) J)) λW4 v4 Zq L4 j D P hK=>?_)
 obtain ⟨y,z,L',rfl,hy,hK⟩:=hK
 have j:=j.perm hB
 refine H6 (kW (Gf (Gf (Ek (E5 (.inl Z) Z dc (kT Z) (E5 (.inl Z) Z dc (mK Z) (E5 (.inl Z) Z dc (kU B0 Z) (E5 (.inl Z) Z dc (kP Z (kZ j.has (.head _) Z dm)) (E5 (.inl Z) Z dc (lT aT Z hy) (E5 (.inl Z) Z dc (lI Z Z Z) (H6 (kW ?_))))))))))))
 have L:∀(k:Int) (E:mD) (I:World),E 4= .pointer (some ⟨O,0,none⟩)→k=(if (rd r).length > 0 then 13 else 0)→ST dd (keys qf) w I Zq ((o,Obj.cells #[y,z] 198 (0,0))::(O,Obj.cells #[.int .i64 k] 30 (0,0))::L')→∀tmps:Array Value,(∀t,tmps.getD t undef=E t)→Leaves pg0 Tryz.f80 tmps (YR dd w qb qf λv B u=>v=vI (DL rd (.inr r))∧YH K X (.inr r) B u) [⟨.fn (.func 129) #[],#[.pointer (some ⟨o,0,none⟩),.pointer (some ⟨O,0,none⟩)]⟩] .returning I:=λk E I h4 hk j=>by
  refine Qw fb call129 (Je _ _ _ _ k k _ j (.inl ⟨Z,Z⟩)) (λW6 j=>mR (v:=.int .i64 k) Z h4 (kZ j.has (.tail _ (.head _)) Z kF) ?_)
  have j:=ST.drop (A:=[]) (ST.drop (A:=[]) j)
  exact ⟨_,_,_,Z,j.aaB,(g.trans i).trans D,(R.trans W).trans P,j.lp λ_ h=>h,by rw [hk,DL],hK⟩
 refine WM (b:=decide (((rd r).length:Int) > 0)) Z (λhq=>?_) (λhq=>?_)
 ·exact Gf (Ek (Wt (.inl Z) Z (Gj [_] (vI 13) #[.int .i64 13] j Z Z kA oc (aZ 1) Z (λI j=>H6 (kW (Tv (ly (L 13 _ _ Z (by rw [aP (by simpa using hq)]) j))))))))
 exact XG (kW (Gf (Ek (Wt (.inl Z) Z (Gj [_] (vI 0) #[.int .i64 0] j Z Z kA oc (aZ 1) Z (λI j=>H6 (kW (Tv (L 0 _ _ Z (by rw [aN (by simpa using hq)]) j)))))))))
theorem FT (k:Sl (Pl (lu .u8)) 1 (hp qa) q0 qo) (j:At (hp qa) (vP qk) [q0,vB qt]) (hm:yf qo qt=some qu) :
  lF true pg0 130 [vP qk] qa (vB qu):=by
 refine cG 11 func130 Z (λa=>sg (Wa (lr (Wm (V (uc jV Z Z) (Wm (Vg Z Z (kT Z) (Vg Z Z (mK Z) (VgQ Z Z (tO [vB qt] N9 Z j Z) λu t=>Vg Z Z (kP Z (rz a.has (y:=vB qt) t iQ)) ?_)))))))))
 exact V (lg Z Z) (Wa (lt (rQ hm a)))
theorem mz (a:Nat) (t:lL) (g:Value) (B:Int) (s:(Int ⊕ Unit)) (w:World) (T:nN qb ((a,Ob #[g,vB t.over] 198)::[]) w) (I:Sl (Pl (lu .u8)) 1 qb g t.b) (hm:nm t B=some s) :
  me true pg0 84 [vP a,vI B] w qb ((a,Ob #[g,vB t.over] 198)::[]) s (λr v G U=>v=vT []∧G=((a,Ob #[g,vB t.over] 198)::[])) (λx c G U=>∃y z,c=[{ v:=zN 203 a x,recovered:=false }]∧G=((a,Ob #[y,z] 198)::[])):=by
 have d:=ST.yJ (dd:=true) T
 refine tu (n:=21) func84 Z Z nb (sg (Wm (V (Ga jV Z Z) (Wm (Vg Z Z (kT Z) (Vg Z Z (mK Z) (Vg Z Z (kU N9 Z) (Vg Z Z (kP Z (kZ d.has Mh Z iQ)) (Vg Z Z (nt Z) (V (lh Z Z) (Wm (LJ hm (λK E W=>∃H,ST true (keys ((a,Ob #[g,vB t.over] 198)::[])) w W qb ((a,Ob #[g,vB t.over] 198)::H)∧E 0=vP a∧E 1=vI B∧E 16=vB K) 3 ?_ λK j u=>?_))))))))))))
 ·rintro Y E W ⟨H,d,M,N,Q⟩ k
  refine ln (CI k Q (λJ k=>?_) λJ k=>?_)
  ·refine kX (Wh M (Wh N (V (lX (v:=vA [vP a,vI B]) (pF Z Z) (lG zeroValue203 ga (ab3 _ ga) kr)) (V (Zu ga (by intro q h; cases h) Z) (sI (.inl Z) (Y6 Z (pu ?_)))))))
   cases sj k
   exact nw.li ⟨_,_,_,Z,d.lZ (Kb Sn),lm.refl _,Lo.refl,ST.lp d (mu.mem (Kb Sn)),⟨_,_,Z,Z⟩⟩
  refine lU (KY (te ?_))
  cases sj k
  exact rK Z (nw.ri ⟨_,_,_,Z,d.lZ (Kb Sn),lm.refl _,Lo.refl,ST.lp d (mu.mem (Kb Sn)),Z,Z⟩)
 refine bC j (λi j=>?_) (λi j=>?_)
 ·refine ug i (kT Z) (ug i (lI Z Z Z) (V (lh (cB i) Z) ?_))
  cases sj j
  exact u _ _ ⟨_,d.kM,Z,Z,Z⟩
 refine un i (un i (V (lg (cB i) Z) ?_))
 cases sj j
 exact u _ _ ⟨_,d.kM,Z,Z,Z⟩
theorem DC {s:(Int ⊕ (Int×lL))} (h0:nN qb ((qk,Ob #[q0,vB qO.over] 198)::[]) qa) (k:Sl (Pl (lu .u8)) 1 qb q0 qO.b) (hm:yl qO qc=some s) :
  me true pg0 131 [vP qk,vI qc] qa qb ((qk,Ob #[q0,vB qO.over] 198)::[]) s (λr v L1 μ1=>∃y1,v= .int .u8 r.1∧L1=((qk,Ob #[y1,vB r.2.over] 198)::[])∧Sl (Pl (lu .u8)) 1 μ1 y1 r.2.b) (λx c L1 μ1=>∃y z,c=[{ v:=zN 203 qk x,recovered:=false }]∧L1=((qk,Ob #[y,z] 198)::[])):=by
 let c8:=(⟨qO.b.drop (Int.toNat 1),qO.over⟩:lL)
 let c7:=(#[q0,vB qO.over]:Array Value)
 let b8:Value:=vP qk
 let a0:=(qk,oC c7 198)::[]
 have a:=ST.yJ (dd:=true) h0
 refine tu (n:=41) func131 Z Z nb (sg (Wa (ln (kY (Hs hm (λg0 E W=>∃Y d7,lm qb Y∧Lo (keys a0) qa qb Y∧ST true (keys a0) qa W Y ((qk,oC c7 198)::d7)∧E 0=b8∧E 1=vI qc) (λg0 B a2=>?_) ?_)))))
 ·refine sg (Wm (Wi Z (ln (CI B Z (λd3 B=>?_) λd3 B=>?_))))
  ·refine kX (Wm (bS B λg1 b5 B=>?_))
   rcases g1 with f6 | h6
   ·have p:=a.size
    refine sI (.inl Z) (oL (args:=[b8,vI 11]) (caps:=#[]) _ _ a (Cb Pz Cn) Z fy (by exact pj Z Z) (λhH R o aa=>me.l (mz qk qO q0 11 _ _ ⟨hH,R,o⟩ (k.mono (Pl.mono _) (lm.refl _)) b5)) λe7 h2 c6 e4 a T h O=>?_)
    obtain ⟨i3,i6,d6,rfl⟩:=O
    have a:=a.perm (Tb Tn)
    refine nO (pu ?_)
    cases sj B
    replace a2:some (Sum.inl f6)=some s:=a2
    cases sj a2
    exact nw.li ⟨_,_,_,Z,a.lZ (Kb Sn),T,h,ST.lp a (mu.mem (Kb Sn)),⟨_,_,d6,Z⟩⟩
   have p:=a.size
   refine VE (eD a (Cb Pz Cn) fy (λhh=>me.r (mz qk qO q0 11 _ _ hh (k.mono (Pl.mono _) (lm.refl _)) b5)) ?_)
   rintro e7 h9 c6 e4 a T h ⟨a6,rfl⟩
   cases a6
   have a:=a.perm (Tb Tn)
   refine ln ?_
   cases sj B
   exact ⟨_,Z,c6,_,T,h,a.kM,Z,Z⟩
  refine kn ?_
  cases sj B
  exact ⟨_,Z,qb,_,lm.refl _,Lo.refl,a.kM,Z,Z⟩
 rintro ⟨⟩ E W ⟨Y,d7,G,j,a,b1,e0⟩ f0
 refine kY (Hs f0 (λf8 E W=>∃I d8,lm Y I∧Lo (keys a0) qa Y I∧ST true (keys a0) qa W I ((qk,oC c7 198)::d8)∧E 0=b8∧E 1=vI qc) (λf8 u Zq=>?_) ?_)
 ·refine sg (Wh b1 (Wn (Wf B0 (VB a Mh Z Z dm (V (lT aT Z k) (Wi Z (ln (CI u Z (λd2 u=>?_) λd2 u=>?_))))))))
  ·refine kX (Wh b1 (bS u λf9 b4 u=>?_))
   rcases f9 with f5 | h5
   ·have p:=a.size
    refine sI (.inl Z) (oL (args:=[b8,vI 10]) (caps:=#[]) _ _ a (Cb Pz Cn) Z fy (by exact pj Z Z) (λhH R o aa=>me.l (mz qk qO q0 10 _ _ ⟨hH,R,o⟩ (k.mono (Pl.mono _) G) b4)) λe6 h1 c5 e3 a Q g L=>?_)
    obtain ⟨i2,i5,d5,rfl⟩:=L
    have a:=a.perm (Tb Tn)
    refine nO (pu ?_)
    cases sj u
    replace Zq:some (Sum.inl f5)=some s:=Zq
    cases sj Zq
    exact nw.li ⟨_,_,_,Z,a.lZ (Kb Sn),G.trans Q,j.trans g,ST.lp a (mu.mem (Kb Sn)),⟨_,_,d5,Z⟩⟩
   have p:=a.size
   refine VE (eD a (Cb Pz Cn) fy (λhh=>me.r (mz qk qO q0 10 _ _ hh (k.mono (Pl.mono _) G) b4)) ?_)
   rintro e6 h8 c5 e3 a Q g ⟨a5,rfl⟩
   cases a5
   have a:=a.perm (Tb Tn)
   refine ln ?_
   cases sj u
   exact ⟨_,Z,c5,_,Q,g,a.kM,b1,e0⟩
  refine kn ?_
  cases sj u
  exact ⟨_,Z,Y,_,lm.refl _,Lo.refl,a.kM,b1,e0⟩
 rintro ⟨⟩ E W ⟨I,d8,J,q,a,P,g2⟩ U
 refine sg (Wh P (Wn (Wf B0 (VB a Mh Z Z dm (bS U λa9 c2 U=>VQ (oz (enc:=lu .u8) (i:=0) (x0:=a9) aT fc Z Z (k.mono (Pl.mono _) (G.trans J)) (lR c2) (lK c2)) λi8 f3=>V (kP Z (rz a.has (y:= .int .u8 a9) f3 isAgg5)) (Wa (lr (Wh P ?_))))))))
 refine Wh P (Wn (Wf B0 (VB a Mh Z Z dm (bS U λ_ c1 U=>VQ (Cv (i:=1) aT fc Z Z (k.mono (Pl.mono _) (G.trans J)) (vp c1) (vl c1)) λi9 a3=>Wn (Wf B0 ?_)))))
 obtain ⟨K,M,rfl⟩:=a3.1.form
 let w:Value:= .slice K (qO.b.drop (Int.toNat 1)).length M
 refine VO (lz w (#[w,vB qO.over]) a Z Z eQ oc nb Z (λi7 a=>ln (kY (Hs U (λg4 E W=>∃b6 d9,lm I b6∧Lo (keys a0) qa I b6∧ST true (keys a0) qa W b6 ((qk,Ob #[w,vB qO.over] 198)::d9)∧E 5= .int .u8 a9) (λg4 f2 b0=>?_) ?_))))
 ·refine sg (Wm (Wi Z (Wm (LJ f2 (λc3 E W=>∃b9,ST true (keys a0) qa W I ((qk,Ob #[w,vB qO.over] 198)::b9)∧E 0=b8∧E 5= .int .u8 a9∧E 37=vB c3) 3 ?_ λc3 H a8=>?_))))
  ·rintro i0 E W ⟨b9,a,e8,c0,e9⟩ t
   refine ln (CI t e9 (λd1 t=>?_) λd1 t=>?_)
   ·refine kX (Wh e8 (bS t λf7 b3 t=>?_))
    rcases f7 with f4 | h4
    ·have p:=a.size
     refine sI (.inl Z) (oL (args:=[b8,vI 11]) (caps:=#[]) _ _ a (Cb Pz Cn) Z fy (by exact pj Z Z) (λhH R o aa=>me.l (mz qk c8 w 11 _ _ ⟨hH,R,o⟩ (a3.1.mono (Pl.mono _) (lm.refl _)) b3)) λe5 g9 c4 e2 a N d A=>?_)
     obtain ⟨i1,i4,d4,rfl⟩:=A
     have a:=a.perm (Tb Tn)
     refine nO (pu ?_)
     cases sj t
     replace b0:some (Sum.inl f4)=some s:=b0
     cases sj b0
     exact nw.li ⟨_,_,_,Z,a.lZ (Kb Sn),(G.trans J).trans N,(j.trans q).trans d,ST.lp a (mu.mem (Kb Sn)),⟨_,_,d4,Z⟩⟩
    have p:=a.size
    refine VE (eD a (Cb Pz Cn) fy (λhh=>me.r (mz qk c8 w 11 _ _ hh (a3.1.mono (Pl.mono _) (lm.refl _)) b3)) ?_)
    rintro e5 h7 c4 e2 a N d ⟨a4,rfl⟩
    cases a4
    have a:=a.perm (Tb Tn)
    refine ln ?_
    cases sj t
    exact ⟨_,Z,c4,_,N,d,a.kM,c0⟩
   refine kn ?_
   cases sj t
   exact ⟨_,Z,I,_,lm.refl _,Lo.refl,a.kM,c0⟩
  refine bC H (λD H=>?_) (λD H=>?_)
  ·refine ug D (kT g2) (ug D (lI Z Z Z) (V (lh (cB D) Z) ?_))
   cases sj H
   exact a8 _ _ ⟨_,a.kM,P,Z,Z⟩
  refine un D (un D (V (lg (cB D) Z) ?_))
  cases sj H
  exact a8 _ _ ⟨_,a.kM,P,Z,Z⟩
 rintro ⟨⟩ E W ⟨b6,d9,b2,a1,a,g3⟩ f1
 refine sg (Wh g3 (Wa (lt (xG ?_))))
 cases sj f1
 exact ma (v:= .int .u8 a9) Z Z (nw.ri ⟨_,_,_,Z,a.lZ (Kb Sn),(G.trans J).trans b2,(j.trans q).trans a1,ST.lp a (mu.mem (Kb Sn)),w,Z,Z,a3.1.mono (Pl.mono _) b2⟩)
theorem nh {s:(Int ⊕ (Int×lL))} (h0:nN qb ((qk,Ob #[q0,vB qO.over] 198)::[]) qa) (K:Sl (Pl (lu .u8)) 1 qb q0 qO.b) (hm:om qO qc=some s) :
  me true pg0 82 [vP qk,vI qc] qa qb ((qk,Ob #[q0,vB qO.over] 198)::[]) s (λr v L1 μ1=>∃y1,v=vI r.1∧L1=((qk,Ob #[y1,vB r.2.over] 198)::[])∧Sl (Pl (lu .u8)) 1 μ1 y1 r.2.b) (λx c L1 μ1=>∃y z,c=[{ v:=zN 203 qk x,recovered:=false }]∧L1=((qk,Ob #[y,z] 198)::[])):=by
 let R:Value:=vP qk
 let L:=(qk,Ob #[q0,vB qO.over] 198)::[]
 have d:=ST.yJ (dd:=true) h0
 refine tu (n:=31) func82 Z Z nb (sg (Wa (lS (Wm (bS hm λr1 e0 hm=>VE (Eg d call130 (FT (K.mono (Pl.mono _) d.lb) (At.of (d.at_ Mh) _ Z) e0) λW3 d=>ln (CI hm Z (λd9 hm=>?_) λd9 hm=>?_)))))))
 ·refine sg (Wa (lt (ly (xG ?_))))
  cases sj hm
  exact ma (v:=vI 0) Z Z (nw.ri ⟨_,_,_,Z,d.lZ (Kb Sn),lm.refl _,Lo.refl,ST.lp d (mu.mem (Kb Sn)),q0,Z,Z,K⟩)
 refine kg (Wa (lS (Wa (ln (mA (nQ (λm E W=>∃G u Q N T Y b3,lm qb Y∧Lo (keys L) qa qb Y∧ST true (keys L) qa W Y ((qk,Ob #[Q,vB T] 198)::b3)∧E 0=R∧E 1=vI qc∧E 5=vI G∧E 6=vI u∧Sl (Pl (lu .u8)) 1 Y Q N∧py qc m G u N T=some s) lP ⟨0,0,q0,qO.b,qO.over,qb,_,lm.refl _,Lo.refl,d.kM,Z,Z,Z,Z,K,hm⟩ ?_))))))
 rintro m E W ⟨G,u,Q,N,T,Y,b3,H,h,d,O,b5,d2,P,b1,i⟩
 cases m with
 | zero=>rw [py] at i; cases i
 | succ d4=>
  refine kY (bg (Wh O (Wh P (bS i λd8 a9 i=>?_))))
  rcases d8 with e6 | t
  ·have A:=d.size
   refine sI (.inl Z) (oL (args:=[R,vI u]) (caps:=#[]) _ _ d (Cb Pz Cn) Z call131 (by exact pj Z Z) (λhH hN w a1=>me.l (DC ⟨hH,hN,w⟩ (b1.mono (Pl.mono _) (lm.refl _)) a9)) λd0 e3 I c8 d D g o=>?_)
   obtain ⟨f0,f2,c3,rfl⟩:=o
   have d:=d.perm (Tb Tn)
   refine nO (xp (nO (nO (xp (nO (pu ?_))))))
   cases sj i
   exact nw.li ⟨_,_,_,Z,d.lZ (Kb Sn),H.trans D,h.trans g,ST.lp d (mu.mem (Kb Sn)),⟨_,_,c3,Z⟩⟩
  have A:=d.size
  refine VE (eD d (Cb Pz Cn) call131 (λhh=>me.r (DC hh (b1.mono (Pl.mono _) (lm.refl _)) a9)) ?_)
  rintro d0 e8 I c8 d D g ⟨U,a3,rfl,J⟩
  cases a3
  have d:=d.perm (Tb Tn)
  refine Wa (lr (Wh d2 (Wm (V (E1 (k:=.u8) (a:=t.1) (b:=127) (v:= .int .u8 (IntKind.u8.wrap (BitVec.ofInt (IntKind.bits .u8) t.1 &&& BitVec.ofInt (IntKind.bits .u8) 127).toNat)) Z Z dc Z) (V (pt (k':=.u8) (a:=IntKind.u8.wrap (BitVec.ofInt (IntKind.bits .u8) t.1 &&& BitVec.ofInt (IntKind.bits .u8) 127).toNat) cJ ed Z) (Wh P (Wi Z (bS i λ_ c5 i=>V (abn (a:=wi0 .i64 (IntKind.u8.wrap (BitVec.ofInt (IntKind.bits .u8) t.1 &&& BitVec.ofInt (IntKind.bits .u8) 127).toNat)) (b:=wi0 .i64 (7*u)) Z Z (WZ c5)) (V (RY (k:=.i64) (a:=G) (b:=wi0 .i64 ((wi0 .i64 (IntKind.u8.wrap (BitVec.ofInt (IntKind.bits .u8) t.1 &&& BitVec.ofInt (IntKind.bits .u8) 127).toNat))*2 ^ min (Int.toNat (wi0 .i64 (7*u))) (IntKind.bits .i64))) (v:=vI (wi0 .i64 (BitVec.ofInt (IntKind.bits .i64) G ||| BitVec.ofInt (IntKind.bits .i64) (wi0 .i64 ((wi0 .i64 (IntKind.u8.wrap (BitVec.ofInt (IntKind.bits .u8) t.1 &&& BitVec.ofInt (IntKind.bits .u8) 127).toNat))*2 ^ min (Int.toNat (wi0 .i64 (7*u))) (IntKind.bits .i64)))).toNat)) Z Z Z) (Wa ?_))))))))))
  let a0:=wi0 .i64 (BitVec.ofInt (IntKind.bits .i64) G ||| BitVec.ofInt (IntKind.bits .i64) (wi0 .i64 ((wi0 .i64 (IntKind.u8.wrap (BitVec.ofInt (IntKind.bits .u8) t.1 &&& BitVec.ofInt (IntKind.bits .u8) 127).toNat))*2 ^ min (Int.toNat (wi0 .i64 (7*u))) (IntKind.bits .i64)))).toNat
  refine lr (Wm (Wi Z (ln (CI i Z (λc1 i=>?_) λc1 i=>?_))))
  ·refine nB (UP fb (nv (nv (ry (kW (kY (Hs i (λd6 E W=>∃a5 b4,lm I a5∧Lo (keys L) qa I a5∧ST true (keys L) qa W a5 ((qk,Ob #[U,vB t.2.over] 198)::b4)∧E 5=vI a0) (λd6 B a2=>?_) ?_)))))))
   ·refine sg (Wm (Wh b5 (Wi Z (ln (CI B Z (λc2 B=>?_) λc2 B=>?_)))))
    ·refine kX (Wh O (bS B λd7 b0 B=>?_))
     rcases d7 with d5 | e7
     ·have A:=d.size
      refine sI (.inl Z) (oL (args:=[R,vI 12]) (caps:=#[]) _ _ d (Cb Pz Cn) Z fy (by exact pj Z Z) (λhH hN w a1=>me.l (mz qk t.2 U 12 _ _ ⟨hH,hN,w⟩ (J.mono (Pl.mono _) (lm.refl _)) b0)) λd1 e4 b6 c9 d M j p=>?_)
      obtain ⟨f1,f3,c4,rfl⟩:=p
      have d:=d.perm (Tb Tn)
      refine nO (pu ?_)
      cases sj B
      replace a2:some (Sum.inl d5)=some s:=a2
      cases sj a2
      exact nw.li ⟨_,_,_,Z,d.lZ (Kb Sn),(H.trans D).trans M,(h.trans g).trans j,ST.lp d (mu.mem (Kb Sn)),⟨_,_,c4,Z⟩⟩
     have A:=d.size
     refine VE (eD d (Cb Pz Cn) fy (λhh=>me.r (mz qk t.2 U 12 _ _ hh (J.mono (Pl.mono _) (lm.refl _)) b0)) ?_)
     rintro d1 e9 b6 c9 d M j ⟨a4,rfl⟩
     cases a4
     have d:=d.perm (Tb Tn)
     refine ln ?_
     cases sj B
     exact ⟨_,Z,b6,_,M,j,d.kM,Z⟩
    refine kn ?_
    cases sj B
    exact ⟨_,Z,I,_,lm.refl _,Lo.refl,d.kM,Z⟩
   rintro ⟨⟩ E W ⟨a5,b4,a6,q,d,d3⟩ c6
   refine sg (Wh d3 (Wa (lt (xG ?_))))
   cases sj c6
   exact ma (v:=vI a0) Z Z (nw.ri ⟨_,_,_,Z,d.lZ (Kb Sn),(H.trans D).trans a6,(h.trans g).trans q,ST.lp d (mu.mem (Kb Sn)),U,Z,Z,J.mono (Pl.mono _) a6⟩)
  exact lU (lD (kW (kX (Wh P (Wi Z (Wa (ln ⟨d4,bB _,a0,wi0 .i64 (u+1),U,t.2.b,t.2.over,I,_,H.trans D,h.trans g,d.kM,O,b5,Z,Z,J,i⟩)))))))
theorem re {s:(Int ⊕ ((List Int)×lL))} (h0:nN qb ((qk,Ob #[q0,vB qO.over] 198)::[]) qa) (D:Sl (Pl (lu .u8)) 1 qb q0 qO.b) (hm:sC qO qc=some s) :
  me true pg0 83 [vP qk,vI qc] qa qb ((qk,Ob #[q0,vB qO.over] 198)::[]) s (λr v L1 μ1=>∃y1 y3,v=y1∧L1=((qk,Ob #[y3,vB r.2.over] 198)::[])∧Sl (Pl (lu .u8)) 1 μ1 y1 r.1∧Sl (Pl (lu .u8)) 1 μ1 y3 r.2.b) (λx c L1 μ1=>∃y z,c=[{ v:=zN 203 qk x,recovered:=false }]∧L1=((qk,Ob #[y,z] 198)::[])):=by
 let b6:=(qk,Ob #[q0,vB qO.over] 198)::[]
 let b2:Value:=vP qk
 have a:=ST.yJ (dd:=true) h0
 refine tu (n:=44) func83 Z Z nb (sg (Wa (lS (Wm (bS hm λr1 e6 hm=>VE (Eg a call130 (FT (D.mono (Pl.mono _) a.lb) (At.of (a.at_ Mh) _ Z) e6) λW3 a=>ln (CI hm Z (λe5 hm=>?_) λe5 hm=>?_)))))))
 ·refine sg (Wa (lt (ly (xG ?_))))
  cases sj hm
  exact ma (v:=vN) Z Z (nw.ri ⟨_,_,_,Z,a.lZ (Kb Sn),lm.refl _,Lo.refl,ST.lp a (mu.mem (Kb Sn)),vN,q0,Z,Z,Sl.nil _ _ _,D⟩)
 refine kg (Wm (bS hm λd9 c0 hm=>?_))
 rcases d9 with g7 | t
 ·have p:=a.size
  refine sI (.inl Z) (oL (args:=[b2,vI 9223372036854775807]) (caps:=#[]) _ _ a (Cb Pz Cn) Z gQ (by exact pj Z Z) (λhH J o aa=>me.l (nh ⟨hH,J,o⟩ (D.mono (Pl.mono _) (lm.refl _)) c0)) λW7 g4 q e2 a I d L=>?_)
  obtain ⟨h4,h5,d1,rfl⟩:=L
  have a:=a.perm (Tb Tn)
  refine nO (pu ?_)
  cases sj hm
  exact nw.li ⟨_,_,_,Z,a.lZ (Kb Sn),I,d,ST.lp a (mu.mem (Kb Sn)),⟨_,_,d1,Z⟩⟩
 have p:=a.size
 refine VE (eD a (Cb Pz Cn) gQ (λO=>me.r (nh O (D.mono (Pl.mono _) (lm.refl _)) c0)) ?_)
 rintro W7 h1 q e2 a I d ⟨T,U,rfl,B⟩
 cases U
 have a:=a.perm (Tb Tn)
 refine Wa (ln (kY (Hs hm (λe7 E W=>∃a3 b7,lm q a3∧Lo (keys b6) qa q a3∧ST true (keys b6) qa W a3 ((qk,Ob #[T,vB t.2.over] 198)::b7)∧E 0=b2∧E 5=vI t.1) (λe7 g G=>?_) ?_)))
 ·refine bg (Wm (Wm (Wi Z (Wa (ln (CI g Z (λd0 g=>?_) λd0 g=>?_))))))
  ·refine kX (Wm (bS g λd7 a9 g=>?_))
   rcases d7 with d5 | g9
   ·have p:=a.size
    refine sI (.inl Z) (oL (args:=[b2,vI 12]) (caps:=#[]) _ _ a (Cb Pz Cn) Z fy (by exact pj Z Z) (λhH J o aa=>me.l (mz qk t.2 T 12 _ _ ⟨hH,J,o⟩ (B.mono (Pl.mono _) (lm.refl _)) a9)) λe3 f2 c2 c4 a M k w=>?_)
    obtain ⟨f7,f9,b4,rfl⟩:=w
    have a:=a.perm (Tb Tn)
    refine xp (nO (pu ?_))
    cases sj g
    replace G:some (Sum.inl d5)=some s:=G
    cases sj G
    exact nw.li ⟨_,_,_,Z,a.lZ (Kb Sn),I.trans M,d.trans k,ST.lp a (mu.mem (Kb Sn)),⟨_,_,b4,Z⟩⟩
   have p:=a.size
   refine VE (eD a (Cb Pz Cn) fy (λO=>me.r (mz qk t.2 T 12 _ _ O (B.mono (Pl.mono _) (lm.refl _)) a9)) ?_)
   rintro e3 h3 c2 c4 a M k ⟨N,rfl⟩
   cases N
   have a:=a.perm (Tb Tn)
   refine lC (lD (kW ?_))
   cases sj g
   exact ⟨_,Z,c2,_,M,k,a.kM,Z,Z⟩
  refine sg (Wm (Wm (Wn (Wf B0 (VB a Mh Z Z dm (V (lT aT Z B) (Wi Z (Wa (ln (CI g Z (λb3 g=>?_) λb3 g=>?_))))))))))
  ·refine kX (Wm (bS g λd8 a2 g=>?_))
   rcases d8 with d6 | f5
   ·have p:=a.size
    refine sI (.inl Z) (oL (args:=[b2,vI 10]) (caps:=#[]) _ _ a (Cb Pz Cn) Z fy (by exact pj Z Z) (λhH J o aa=>me.l (mz qk t.2 T 10 _ _ ⟨hH,J,o⟩ (B.mono (Pl.mono _) (lm.refl _)) a2)) λc6 f3 b1 c5 a H h A=>?_)
    obtain ⟨f8,g0,b5,rfl⟩:=A
    have a:=a.perm (Tb Tn)
    refine xp (nO (pu ?_))
    cases sj g
    replace G:some (Sum.inl d6)=some s:=G
    cases sj G
    exact nw.li ⟨_,_,_,Z,a.lZ (Kb Sn),I.trans H,d.trans h,ST.lp a (mu.mem (Kb Sn)),⟨_,_,b5,Z⟩⟩
   have p:=a.size
   refine VE (eD a (Cb Pz Cn) fy (λO=>me.r (mz qk t.2 T 10 _ _ O (B.mono (Pl.mono _) (lm.refl _)) a2)) ?_)
   rintro c6 f6 b1 c5 a H h ⟨Q,rfl⟩
   cases Q
   have a:=a.perm (Tb Tn)
   refine lC (lD (kW ?_))
   cases sj g
   exact ⟨_,Z,b1,_,H,h,a.kM,Z,Z⟩
  refine lU (lD (kW ?_))
  cases sj g
  exact ⟨_,Z,q,_,lm.refl _,Lo.refl,a.kM,Z,Z⟩
 rintro ⟨⟩ E W ⟨a3,b7,K,P,a,a6,b9⟩ u
 refine sg (Wh a6 (Wn (Wf B0 (VB a Mh Z Z dm (Wh b9 (bS u λ_ a7 u=>VQ (Nl (j:=t.1) aT fc Z Z (B.mono (Pl.mono _) K) (vp a7) (vl a7)) λe8 d3=>bS u λg8 d2 u=>VE (rM a call20 (CP (d3.1.mono (Pl.mono _) a.lb) d2) λg2 c1 h6 g1 a Y R c9=>Wa (ln (kY ?_)))))))))
 refine kX (Wh a6 (Wh a6 (Wn (Wf B0 (VB a (Ma Mh) Z Z dm (Wh b9 (bS u λ_ a8 u=>VQ (Cv (i:=t.1) aT fc Z Z (B.mono (Pl.mono _) (K.trans Y)) (vp a8) (vl a8)) λh2 b0=>Wn (Wf B0 ?_))))))))
 obtain ⟨a4,a5,rfl⟩:=b0.1.form
 let a0:Value:= .slice a4 (t.2.b.drop (Int.toNat t.1)).length a5
 have a:=a.perm (Nb (Pr Pz) Nz)
 refine VO (lz a0 (#[a0,vB t.2.over]) a Z Z eQ oc nb Z (λg3 a=>lr (Wm (Wa (lt (xG ?_))))))
 cases sj u
 refine ma (v:=c1) Z Z ?_
 have a:=a.perm (Nr (Qb Qz) Nz)
 obtain ⟨h7,a,Zq,a1,d4⟩:=ST.JS a c9 (λ_=>rfl)
 exact nw.ri ⟨_,_,_,Z,a.lZ (Kb Sn),((I.trans K).trans Y).trans Zq,((d.trans P).trans R).trans a1,ST.lp a (mu.mem (Kb Sn)),c1,a0,Z,Z,d4,b0.1.mono (Pl.mono _) Zq⟩
theorem JT {s:((Int×(Int×(List Int)×(List Int))) ⊕ (lL×Int×(List Int)×(List Int)))} (h0:nN qb ((qk,Ob #[q0,vB qO.over] 198)::((ql,Ob #[vI qc] 3)::((qm,Ob #[q1] 49)::((qn,Ob #[q2] 49)::[])))) qa) (a4:Sl (Pl (lu .u8)) 1 qb q0 qO.b) (b5:Sl (Pl (lu .u8)) 1 qb q1 qo) (a7:Sl (Pl (lu .u8)) 1 qb q2 qp) (hm:BJ qO qc qo qp=some s) :
  me true pg0 81 [vP qk,vP ql,vP qm,vP qn] qa qb ((qk,Ob #[q0,vB qO.over] 198)::((ql,Ob #[vI qc] 3)::((qm,Ob #[q1] 49)::((qn,Ob #[q2] 49)::[])))) (OK s) (λr v L1 μ1=>∃y1 y3 y5,v=vT []∧L1=((qk,Ob #[y1,vB r.1.over] 198)::((ql,Ob #[vI r.2.1] 3)::((qm,Ob #[y3] 49)::((qn,Ob #[y5] 49)::[]))))∧Sl (Pl (lu .u8)) 1 μ1 y1 r.1.b∧Sl (Pl (lu .u8)) 1 μ1 y3 r.2.2.1∧Sl (Pl (lu .u8)) 1 μ1 y5 r.2.2.2) (λx c L1 μ1=>∃t:(Int×(List Int)×(List Int)),s= .inl (x,t)∧∃y z d2 d3,c=[{ v:=zN 203 qk x,recovered:=false }]∧L1=((qk,Ob #[y,z] 198)::((ql,Ob #[vI t.1] 3)::((qm,Ob #[d2] 49)::((qn,Ob #[d3] 49)::[]))))∧Sl (Pl (lu .u8)) 1 μ1 d2 t.2.1∧Sl (Pl (lu .u8)) 1 μ1 d3 t.2.2):=by
 let P:Value:=vP qk
 have a:=ST.yJ (dd:=true) h0
 refine tu (n:=20) func81 Z Z nb (sg (Wm (bS hm λf8 c8 hm=>?_)))
 rcases f8 with h8 | r1
 ·have q:=a.size
  refine sI (.inl Z) (oL (args:=[P,vI 1099511627776]) (caps:=#[]) _ _ a (Cb Pz Cn) Z gQ (by exact pj Z Z) (λhH A p J=>me.l (nh ⟨hH,A,p⟩ (a4.mono (Pl.mono _) (lm.refl _)) c8)) λW3 h4 ae L9 a i o R=>?_)
  obtain ⟨i7,j5,e0,rfl⟩:=R
  have a:=a.perm (Tb Tn)
  refine nO (pu ?_)
  cases sj hm
  exact nw.li ⟨_,_,_,Z,a.lZ (Kb (Kb (Kb (Kb Sn)))),i,o,ST.lp a (mu.mem (Kb (Kb (Kb (Kb Sn))))),⟨_,Z,_,_,q1,q2,e0,Z,b5.mono (Pl.mono _) i,a7.mono (Pl.mono _) i⟩⟩
 have q:=a.size
 refine VE (eD a (Cb Pz Cn) gQ (λG=>me.r (nh G (a4.mono (Pl.mono _) (lm.refl _)) c8)) ?_)
 rintro W3 v7 ae L9 a i o ⟨d0,a8,rfl,c3⟩
 cases a8
 have a:=a.perm (Tb Tn)
 have a:=a.perm (Nb (Pb Pz) Nz)
 refine VO (lz (vI r1.1) (#[vI r1.1]) a Z Z dH (uk _ r1.1) nb Z (λh1 a=>lr (Wm (bS hm λf7 b6 hm=>?_))))
 rcases f7 with h9 | K
 ·have q:=a.size
  refine sI (.inl Z) (oL (args:=[P,vI 2048]) (caps:=#[]) _ _ a (Cb (Pb Pz) Cn) Z call83 (by exact pj Z Z) (λhH A p J=>me.l (re ⟨hH,A,p⟩ (c3.mono (Pl.mono _) (lm.refl _)) b6)) λe7 h5 g2 e4 a j d aa=>?_)
  obtain ⟨i9,j6,e1,rfl⟩:=aa
  have a:=a.perm (Tb Tn)
  refine nO (pu ?_)
  cases sj hm
  exact nw.li ⟨_,_,_,Z,a.lZ (Kb (Kb (Kb (Kb Sn)))),i.trans j,o.trans d,ST.lp a (mu.mem (Kb (Kb (Kb (Kb Sn))))),⟨_,Z,_,_,q1,q2,e1,Z,b5.mono (Pl.mono _) (i.trans j),a7.mono (Pl.mono _) (i.trans j)⟩⟩
 have q:=a.size
 refine VE (eD a (Cb (Pb Pz) Cn) call83 (λG=>me.r (re G (c3.mono (Pl.mono _) (lm.refl _)) b6)) ?_)
 rintro e7 i3 g2 e4 a j d ⟨i8,d1,a9,rfl,Y,c4⟩
 cases a9
 have a:=a.perm (Tb Tn)
 obtain ⟨Q,T,rfl⟩:=Y.form
 let w:Value:= .slice Q K.1.length T
 have a:=a.perm (Nb (Pb (Pb Pz)) Nz)
 refine VO (lz w (#[w]) a Z Z eQ oc nb Z (λh2 a=>lr (Wm (bS hm λf6 b7 hm=>?_))))
 rcases f6 with i0 | M
 ·have q:=a.size
  refine sI (.inl Z) (oL (args:=[P,vI 8]) (caps:=#[]) _ _ a (Cb (Pb Pz) Cn) Z call83 (by exact pj Z Z) (λhH A p J=>me.l (re ⟨hH,A,p⟩ (c4.mono (Pl.mono _) (lm.refl _)) b7)) λe8 h6 d4 e5 a g h ab=>?_)
  obtain ⟨j3,j7,e2,rfl⟩:=ab
  have a:=a.perm (Tb Tn)
  refine nO (pu ?_)
  cases sj hm
  exact nw.li ⟨_,_,_,Z,a.lZ (Kb (Sb (Pb Pz) (Kb (Kb Sn)))),(i.trans j).trans g,(o.trans d).trans h,ST.lp a (mu.mem (Kb (Sb (Pb Pz) (Kb (Kb Sn))))),⟨_,Z,_,_,w,q2,e2,Z,Y.mono (Pl.mono _) g,a7.mono (Pl.mono _) ((i.trans j).trans g)⟩⟩
 have q:=a.size
 refine VE (eD a (Cb (Pb Pz) Cn) call83 (λG=>me.r (re G (c4.mono (Pl.mono _) (lm.refl _)) b7)) ?_)
 rintro e8 i4 d4 e5 a g h ⟨j0,a5,b0,rfl,O,a3⟩
 cases b0
 have a:=a.perm (Tb Tn)
 obtain ⟨a1,a2,rfl⟩:=O.form
 let L:Value:= .slice a1 M.1.length a2
 have a:=a.perm (Nb (Pb (Pb (Pb Pz))) Nz)
 refine VO (lz L (#[L]) a Z Z eQ oc nb Z (λh3 a=>lr (VB a Mh Z Z dm (V (lT aT Z O) (Wi Z (Wm (LJ hm (λc9 E W=>∃c7,ST true (keys ((qk,Ob #[q0,vB qO.over] 198)::((ql,Ob #[vI qc] 3)::((qm,Ob #[q1] 49)::((qn,Ob #[q2] 49)::[]))))) qa W d4 ((qn,Ob #[L] 49)::((qk,Ob #[a5,vB M.2.over] 198)::((qm,Ob #[w] 49)::((ql,Ob #[vI r1.1] 3)::c7))))∧E 0=P∧E 17=vB c9) 3 ?_ λc9 U b2=>?_)))))))
 ·rintro i6 E W ⟨c7,a,f2,f3⟩ B
  refine ln (CI B f3 (λd9 B=>?_) λd9 B=>?_)
  ·refine kX (Wh f2 (bS B λf5 b9 B=>?_))
   rcases f5 with i1 | i2
   ·have q:=a.size
    refine sI (.inl Z) (oL (args:=[P,vI 11]) (caps:=#[]) _ _ a (Cb (Pb Pz) Cn) Z fy (by exact pj Z Z) (λhH A p J=>me.l (mz qk M.2 a5 11 _ _ ⟨hH,A,p⟩ (a3.mono (Pl.mono _) (lm.refl _)) b9)) λe9 h7 g3 e6 a k u ad=>?_)
    obtain ⟨j4,j8,e3,rfl⟩:=ad
    have a:=a.perm (Tb Tn)
    refine pu ?_
    cases sj B
    exact nw.li ⟨_,_,_,Z,a.lZ (Kb (Sb (Pb (Pb Pz)) (Sb (Pb Pz) (Kb Sn)))),((i.trans j).trans g).trans k,((o.trans d).trans h).trans u,ST.lp a (mu.mem (Kb (Sb (Pb (Pb Pz)) (Sb (Pb Pz) (Kb Sn))))),⟨_,Z,_,_,w,L,e3,Z,Y.mono (Pl.mono _) (g.trans k),O.mono (Pl.mono _) k⟩⟩
   have q:=a.size
   refine VE (eD a (Cb (Pb Pz) Cn) fy (λG=>me.r (mz qk M.2 a5 11 _ _ G (a3.mono (Pl.mono _) (lm.refl _)) b9)) ?_)
   rintro e9 i5 g3 e6 a k u ⟨b1,rfl⟩
   cases b1
   have a:=a.perm (Tb Tn)
   refine lC (KY (te ?_))
   cases sj B
   exact rK Z (nw.ri ⟨_,_,_,Z,a.lZ (Kb (Sb (Pb (Pb Pz)) (Sb (Pb Pz) (Kb Sn)))),((i.trans j).trans g).trans k,((o.trans d).trans h).trans u,ST.lp a (mu.mem (Kb (Sb (Pb (Pb Pz)) (Sb (Pb Pz) (Kb Sn))))),a5,w,L,Z,Z,a3.mono (Pl.mono _) k,Y.mono (Pl.mono _) (g.trans k),O.mono (Pl.mono _) k⟩)
  refine lU (KY (te ?_))
  cases sj B
  exact rK Z (nw.ri ⟨_,_,_,Z,a.lZ (Sb (Pb Pz) (Sb (Pb (Pb Pz)) (Sb (Pb Pz) (Kb Sn)))),(i.trans j).trans g,(o.trans d).trans h,ST.lp a (mu.mem (Sb (Pb Pz) (Sb (Pb (Pb Pz)) (Sb (Pb Pz) (Kb Sn))))),a5,w,L,Z,Z,a3,Y.mono (Pl.mono _) g,O⟩)
 refine bC U (λI U=>?_) (λI U=>?_)
 ·refine un I (un I (V (lh (cB I) Z) ?_))
  cases sj U
  exact b2 _ _ ⟨_,a.kM,Z,Z⟩
 refine ug I (kP Z (kZ a.has (Mt (Mt (Mt Mh))) Z bH)) (ug I (lI Z Z Z) (V (lg (cB I) Z) ?_))
 cases sj U
 exact b2 _ _ ⟨_,a.kM,Z,Z⟩
theorem G6 {r:(Int×Int×(List Int)×(List Int))} (B:nN qb ((qk,Ob #[vI qc] 3)::((ql,Ob #[q1] 49)::((qm,Ob #[q2] 49)::[]))) qa) (U:Sl (Pl (lu .u8)) 1 qb q0 qo) (Y:Sl (Pl (lu .u8)) 1 qb q1 qp) (n:Sl (Pl (lu .u8)) 1 qb q2 qq) (hm:yV qo qc qp qq=some r) :
  mq true pg0 80 [q0,.func (.func 81) #[] #[vP qk,vP ql,vP qm]] qa qb ((qk,Ob #[vI qc] 3)::((ql,Ob #[q1] 49)::((qm,Ob #[q2] 49)::[]))) (λv I u=>∃j k,v=vI r.1∧I=((qk,Ob #[vI r.2.1] 3)::((ql,Ob #[j] 49)::((qm,Ob #[k] 49)::[])))∧Sl (Pl (lu .u8)) 1 u j r.2.2.1∧Sl (Pl (lu .u8)) 1 u k r.2.2.2):=by
 refine bS hm λl d hm=>bS hm λs g hm=>?_
 cases sj hm
 refine mq.mono (Lg 81 #[vP qk,vP ql,vP qm] q0 qo l (OK s) (λr=>(r.1).b) qa B U d (λr I u=>∃j k,I=((qk,Ob #[vI r.2.1] 3)::((ql,Ob #[j] 49)::((qm,Ob #[k] 49)::[])))∧Sl (Pl (lu .u8)) 1 u j r.2.2.1∧Sl (Pl (lu .u8)) 1 u k r.2.2.2) (λx I u=>∃t:(Int×(List Int)×(List Int)),s= .inl (x,t)∧∃j k,I=((qk,Ob #[vI t.1] 3)::((ql,Ob #[j] 49)::((qm,Ob #[k] 49)::[])))∧Sl (Pl (lu .u8)) 1 u j t.2.1∧Sl (Pl (lu .u8)) 1 u k t.2.2) call81 λL μ' J w D hle p=>me.mono (JT D p (Y.mono (Pl.mono _) hle) (n.mono (Pl.mono _) hle) g) ?_ ?_) ?_
 ·rintro r v I u ⟨M,j,k,G,a,o,B,D⟩; exact ⟨_,_,_,a,o,j,k,Z,B,D⟩
 ·rintro x c I u ⟨t,h,y,z,j,k,q,a,B,D⟩; exact ⟨y,z,_,q,a,t,h,j,k,Z,B,D⟩
 rintro v I u A ⟨rfl,i⟩
 cases s with
 | inl x=>
  obtain ⟨t,h,j,k,a,B,D⟩:=i
  obtain rfl:x.2=t:=bI Prod.snd (Sum.inl.inj h)
  exact ⟨j,k,Z,a,B,D⟩
 | inr r=>obtain ⟨j,k,a,B,D⟩:=i; exact ⟨j,k,Z,a,B,D⟩
theorem Ps {r:(Int×(List Int)×(List Int)×Int)} (U:nN qb [] qa) (D:Sl (Pl (lu .u8)) 1 qb q0 qo) (hm:yW qo=some r) :
  mq true pg0 41 [q0] qa qb [] (λv M K=>∃I J,v=vT [vI r.1,I,J,vI r.2.2.2]∧M=[]∧Sl (Pl (lu .u8)) 1 K I r.2.1∧Sl (Pl (lu .u8)) 1 K J r.2.2.1):=by
 refine ve U 13 func41 Z (λd=>sg (VE (lq d kk λW2 N d=>VE (lq d iI λW4 Q d=>VE (lq d iI λW6 T d=>Wa (lr (Wm (V (zB (by exact abS Z Z Z) Z) (bS hm λa H hm=>?_)))))))))
 refine VE (eD d (Cb (Pb (Pb Pz)) (Cb (Pb Pz) (Cb Pz Cn))) call80 (λA=>G6 A (D.mono (Pl.mono _) (lm.refl _)) (Sl.nil _ _ _) (Sl.nil _ _ _) H) ?_)
 rintro _ a3 O Y d y w ⟨a4,a5,c,rfl,u,x⟩
 cases c
 have d:=d.perm (Tb (Tb (Tb Tn)))
 refine Wa (ln (kY ?_))
 have d:=d.drew
 have g:=d.has.kM Sn
 have p:=d.has.kM (Kb Sn)
 have o:=d.has.kM (Db (Kb Sn))
 have n:=d.has.kM (Db (Db (Kb Sn)))
 refine VC 4 5 6 g p o n lM (Es 0 Z kr (.inl Z) Z dc (λ_ _ h=>⟨h.1,xI br h.2.1,xI br h.2.2.1,xI br h.2.2.2⟩) ⟨g,λ_=>p,λ_=>o,λ_=>n⟩ (λl W q z=>have s:=(z.2.1 (q.YM 4 [0] kr Z)); kP Z (kZ s Mh Z bH)) (Es 1 Z kr (.inl Z) Z dc (λ_ _ h=>⟨h.1,xI br h.2.1,xI br h.2.2.1,xI br h.2.2.2⟩) ⟨g,λ_=>p,λ_=>o,λ_=>n⟩ (λl W q z=>have s:=(z.2.2.1 (q.YM 5 [1] kr Z)); kP Z (kZ s Mh Z dm)) (Es 2 Z kr (.inl Z) Z dc (λ_ _ h=>⟨h.1,xI br h.2.1,xI br h.2.2.1,xI br h.2.2.2⟩) ⟨g,λ_=>p,λ_=>o,λ_=>n⟩ (λl W q z=>have s:=(z.2.2.2 (q.YM 6 [2] kr Z)); kP Z (kZ s Mh Z dm)) (Es 3 Z kr (.inl Z) Z dc (λ_ _ h=>⟨h.1,xI br h.2.1,xI br h.2.2.1,xI br h.2.2.2⟩) ⟨g,λ_=>p,λ_=>o,λ_=>n⟩ (λ_ _ _ _=>kT Z) (XO 4 Z (lz (vI a.2.1) (#[vI a.2.1]) d Z Z dH (uk _ a.2.1) nb Z (λG d=>?_)))))))
 have g:=d.has.kM Sn
 have o:=d.has.kM (Db (Kb Sn))
 have n:=d.has.kM (Db (Db (Kb Sn)))
 refine ⟨⟨g,λh=>yF kr h,λ_=>o,λ_=>n⟩,?_⟩
 obtain ⟨i,k,rfl⟩:=u.form
 let B:Value:= .slice i a.2.2.1.length k
 have d:=d.perm (Nb (Pb Pz) Nz)
 refine XO 5 Z (lz B (#[B]) d Z Z eQ oc nb Z (λL d=>?_))
 have g:=d.has.kM Sn
 have n:=d.has.kM (Db (Db (Kb Sn)))
 refine ⟨⟨g,λh=>yF kr h,λh=>yF kr h,λ_=>n⟩,?_⟩
 obtain ⟨j,t,rfl⟩:=x.form
 let a0:Value:= .slice j a.2.2.2.length t
 have d:=d.perm (Nb (Pb (Pb Pz)) Nz)
 refine XO 6 Z (lz a0 (#[a0]) d Z Z eQ oc nb Z (λa2 d=>?_))
 have g:=d.has.kM Sn
 refine ⟨⟨g,λh=>yF kr h,λh=>yF kr h,λh=>yF kr h⟩,Es 7 Z kr (.inl Z) Z dc (λ_ _ h=>⟨h.1,xI br h.2.1,xI br h.2.2.1,xI br h.2.2.2⟩) ⟨g,λh=>yF kr h,λh=>yF kr h,λh=>yF kr h⟩ (λ_ _ _ _=>nz Z) (ml kr (kW (lB ?_)))⟩
 cases sj hm
 exact VG (v0:=vI a.2.1) (v1:=B) (v2:=a0) (v3:=vI a.1) Z Z (kZ d.has (Mt (Mt Mh)) Z bH) Z (kZ d.has (Mt Mh) Z dm) Z (kZ d.has Mh Z dm) Z ⟨_,_,_,Z,d.lZ Sn,y,w,ST.lp d (mu.mem Sn),B,a0,Z,Z,u,x⟩
theorem uB {s:(Int ⊕ (ByteArray×lL))} (R:nN qb ((qk,Ob #[q0,vB qO.over] 198)::[]) qa) (t:Sl (Pl (lu .u8)) 1 qb q0 qO.b) (hm:xz qO=some s) :
  me true pg0 132 [vP qk] qa qb ((qk,Ob #[q0,vB qO.over] 198)::[]) s (λr v K μ1=>∃M,v=vS r.1∧K=((qk,Ob #[M,vB r.2.over] 198)::[])∧Sl (Pl (lu .u8)) 1 μ1 M r.2.b) (λx c K μ1=>∃y z,c=[{ v:=zN 203 qk x,recovered:=false }]∧K=((qk,Ob #[y,z] 198)::[])):=by
 have a:=ST.yJ (dd:=true) R
 refine tu (n:=15) func132 Z Z nb (sg (Wa (lS (Wm (V (uc jV Z Z) (ln (sM Z (lU ?_))))))))
 refine kW (sg (Wm (bS hm λa5 J hm=>?_)))
 rcases a5 with b6 | I
 ·have o:=a.size
  refine sI (.inl Z) (oL (args:=[vP qk,vI 16]) (caps:=#[]) _ _ a (Cb Pz Cn) Z call83 (by exact pj Z Z) (λhH w h G=>me.l (re ⟨hH,w,h⟩ (t.mono (Pl.mono _) (lm.refl _)) J)) λW3 b4 L L9 a j g p=>?_)
  obtain ⟨c3,c5,Q,rfl⟩:=p
  have a:=a.perm (Tb Tn)
  refine nO (pu ?_)
  cases sj hm
  exact nw.li ⟨_,_,_,Z,a.lZ (Kb Sn),j,g,ST.lp a (mu.mem (Kb Sn)),⟨_,_,Q,Z⟩⟩
 have o:=a.size
 refine VE (eD a (Cb Pz Cn) call83 (λA=>me.r (re A (t.mono (Pl.mono _) (lm.refl _)) J)) ?_)
 rintro W3 v7 L L9 a j g ⟨c2,D,u,rfl,Y,k⟩
 cases u
 have a:=a.perm (Tb Tn)
 refine V (tg aT cJ bG Z (Y.mono (Pl.mono _) a.lb)) (Wa (lS (Wm (bS hm λb9 U hm=>VE (Eg a call19 (xq (su I.1) _ _  U) λW a=>V (nt Z) (ln (CI hm Z (λN hm=>?_) λN hm=>?_)))))))
 ·refine sg (Wm (bS hm λa4 H hm=>?_))
  rcases a4 with b7 | c0
  ·have o:=a.size
   refine sI (.inl Z) (oL (args:=[vP qk,vI 30]) (caps:=#[]) _ _ a (Cb Pz Cn) Z fy (by exact pj Z Z) (λhH w h G=>me.l (mz qk I.2 D 30 _ _ ⟨hH,w,h⟩ (k.mono (Pl.mono _) (lm.refl _)) H)) λa2 b5 P O a i d q=>?_)
   obtain ⟨c4,c6,T,rfl⟩:=q
   have a:=a.perm (Tb Tn)
   refine nO (nO (pu ?_))
   cases sj hm
   exact nw.li ⟨_,_,_,Z,a.lZ (Kb Sn),j.trans i,g.trans d,ST.lp a (mu.mem (Kb Sn)),⟨_,_,T,Z⟩⟩
  have o:=a.size
  refine VE (eD a (Cb Pz Cn) fy (λA=>me.r (mz qk I.2 D 30 _ _ A (k.mono (Pl.mono _) (lm.refl _)) H)) ?_)
  rintro a2 c1 P O a i d ⟨B,rfl⟩
  cases B
  have a:=a.perm (Tb Tn)
  refine lr (Wa (lt (ly (xG ?_))))
  cases sj hm
  exact ma (v:=vS zS) Z Z (nw.ri ⟨_,_,_,Z,a.lZ (Kb Sn),j.trans i,g.trans d,ST.lp a (mu.mem (Kb Sn)),D,Z,Z,k.mono (Pl.mono _) i⟩)
 refine kg (Wm (Wa (lt (xG ?_))))
 cases sj hm
 exact ma (v:=vS (su I.1)) Z Z (nw.ri ⟨_,_,_,Z,a.lZ (Kb Sn),j,g,ST.lp a (mu.mem (Kb Sn)),D,Z,Z,k⟩)
theorem sG {s:(Int ⊕ (kL×lL))} (W:nN qb ((qk,Ob #[q0,vB qO.over] 198)::[]) qa) (u:Sl (Pl (lu .u8)) 1 qb q0 qO.b) (hm:vW qO=some s) :
  me true pg0 133 [vP qk] qa qb ((qk,Ob #[q0,vB qO.over] 198)::[]) s (λr v M μ1=>∃O,v=vA (kR r.1)∧M=((qk,Ob #[O,vB r.2.over] 198)::[])∧Sl (Pl (lu .u8)) 1 μ1 O r.2.b) (λx c M μ1=>∃y z,c=[{ v:=zN 203 qk x,recovered:=false }]∧M=((qk,Ob #[y,z] 198)::[])):=by
 have a:=ST.yJ (dd:=true) W
 refine tu (n:=10) func133 Z Z nb (sg (VE (lq a cY λW2 b1 a=>lr (Wm (bS hm λa5 J hm=>?_)))))
 rcases a5 with b7 | t
 ·have o:=a.size
  refine sI (.inl Z) (oL (args:=[vP qk]) (caps:=#[]) _ _ a (Cb (Pb Pz) Cn) Z iZ (by exact sD Z) (λhH w h G=>me.l (uB ⟨hH,w,h⟩ (u.mono (Pl.mono _) (lm.refl _)) J)) λW5 b5 L P a k g p=>?_)
  obtain ⟨c1,c3,T,rfl⟩:=p
  have a:=a.perm (Tb Tn)
  refine nO (pu ?_)
  cases sj hm
  exact nw.li ⟨_,_,_,Z,a.lZ (Kb Sn),k,g,ST.lp a (mu.mem (Kb Sn)),⟨_,_,T,Z⟩⟩
 have o:=a.size
 refine VE (eD a (Cb (Pb Pz) Cn) iZ (λA=>me.r (uB A (u.mono (Pl.mono _) (lm.refl _)) J)) ?_)
 rintro W5 v9 L P a k g ⟨K,B,rfl,I⟩
 cases B
 have a:=a.perm (Tb Tn)
 refine Wa (lr (Wm (Wm (bS hm λa4 H hm=>?_))))
 rcases a4 with b9 | i
 ·have o:=a.size
  refine sI (.inl Z) (oL (args:=[vP qk]) (caps:=#[]) _ _ a (Cb Pz Cn) Z iZ (by exact sD Z) (λhH w h G=>me.l (uB ⟨hH,w,h⟩ (I.mono (Pl.mono _) (lm.refl _)) H)) λa3 b6 a9 a2 a j d q=>?_)
  obtain ⟨c2,c4,U,rfl⟩:=q
  have a:=a.perm (Tb Tn)
  refine nO (pu ?_)
  cases sj hm
  exact nw.li ⟨_,_,_,Z,a.lZ (Kb Sn),k.trans j,g.trans d,ST.lp a (mu.mem (Kb Sn)),⟨_,_,U,Z⟩⟩
 have o:=a.size
 refine VE (eD a (Cb Pz Cn) iZ (λA=>me.r (uB A (I.mono (Pl.mono _) (lm.refl _)) H)) ?_)
 rintro a3 c0 a9 a2 a j d ⟨R,D,rfl,Y⟩
 cases D
 have a:=a.perm (Tb Tn)
 let N:=(⟨t.1,i.1⟩:kL)
 let Q:Value:=vA (kR N)
 refine V (lX (v:=Q) (pF Z Z) (lG cY dl (Kc _ dl) kr)) ?_
 have a:=a.perm (Nb (Pb Pz) Nz)
 refine VO (lz Q ((kR N).toArray) a Z Z aI (oQ N) nb Z (λb4 a=>lt (xG ?_)))
 cases sj hm
 exact mR (v:=Q) Z Z (kV a.has Mh (kR N) Z bE aI) (nw.ri ⟨_,_,_,Z,a.lZ (Db (Kb Sn)),k.trans j,g.trans d,ST.lp a (mu.mem (Db (Kb Sn))),R,Z,Z,Y⟩)
set_option maxHeartbeats 4000000 in
theorem Kp {s:(Int ⊕ (kK×lL))} (h0:nN qb ((qk,Ob #[q0,vB qO.over] 198)::[]) qa) (d1:Sl (Pl (lu .u8)) 1 qb q0 qO.b) (hm:Ea qO=some s) :
  me true pg0 169 [vP qk] qa qb ((qk,Ob #[q0,vB qO.over] 198)::[]) s (λr v L1 μ1=>∃y1,v=vA (kQ r.1)∧L1=((qk,Ob #[y1,vB r.2.over] 198)::[])∧Sl (Pl (lu .u8)) 1 μ1 y1 r.2.b) (λx c L1 μ1=>∃y z,c=[{ v:=zN 203 qk x,recovered:=false }]∧L1=((qk,Ob #[y,z] 198)::[])):=by
 let h2:Value:=vA (kQ K9)
 let g5:=((kQ K9).toArray:Array Value)
 let b8:=(qk,Ob #[q0,vB qO.over] 198)::[]
 let a5:Value:=vP qk
 have a:=ST.yJ (dd:=true) h0
 refine tu (n:=55) func169 Z Z nb (sg (VE (lq a cO λW2 b1 a=>lr (Wm (bS hm λo5 k4 hm=>?_)))))
 let g6:Value:=vP b1
 rcases o5 with v3 | J
 ·have h:=a.size
  refine sI (.inl Z) (oL (args:=[a5,vI 9223372036854775807]) (caps:=#[]) _ _ a (Cb (Pb Pz) Cn) Z gQ (by exact pj Z Z) (λhH q d O=>me.l (nh ⟨hH,q,d⟩ (d1.mono (Pl.mono _) (lm.refl _)) k4)) λW5 v1 ag p4 a u p aq=>?_)
  obtain ⟨v6,v8,m6,rfl⟩:=aq
  have a:=a.perm (Tb Tn)
  refine nO (pu ?_)
  cases sj hm
  exact nw.li ⟨_,_,_,Z,a.lZ (Kb Sn),u,p,ST.lp a (mu.mem (Kb Sn)),⟨_,_,m6,Z⟩⟩
 have h:=a.size
 refine VE (eD a (Cb (Pb Pz) Cn) gQ (λw=>me.r (nh w (d1.mono (Pl.mono _) (lm.refl _)) k4)) ?_)
 rintro W5 v9 ag p4 a u p ⟨b5,d4,rfl,c8⟩
 let h3:=(#[b5,vB J.2.over]:Array Value)
 cases d4
 have a:=a.perm (Tb Tn)
 let f2:=(⟨J.1,K0,zS,K0,K0,zS⟩:kK)
 refine V (lX (v:=vA (kQ f2)) (mB Z) (lG cO dy (Oj _ dy) kr)) (VE (lq a cO λu8 b4 a=>VO (FA (h1:=ow f2) ((kQ f2).toArray) a aK λu9 a=>ln (kY (Hs hm (λo3 E W=>∃f0 k3,lm ag f0∧Lo (keys b8) qa ag f0∧ST true (keys b8) qa W f0 ((b4,Ol (kQ f2) 55)::((qk,oC h3 198)::((b1,oC g5 55)::k3)))∧E 0=a5∧E 2=g6∧E 3=vP b4) (λo3 j7 b7=>?_) ?_)))))
 ·refine sg (Wf rG (VB a Mh Z Z bH (Wi Z (Wm (LJ j7 (λg0 E W=>∃f4,ST true (keys b8) qa W ag ((b4,Ol (kQ f2) 55)::((qk,oC h3 198)::((b1,oC g5 55)::f4)))∧E 0=a5∧E 2=g6∧E 3=vP b4∧E 14=vB g0) 4 ?_ λg0 Zq d2=>?_)))))
  ·rintro t1 E W ⟨f4,a,d3,f6,f7,m3⟩ H
   refine ln (CI H m3 (λi6 H=>?_) λi6 H=>?_)
   ·refine kX (Wh d3 (bS H λo4 e7 H=>?_))
    rcases o4 with n4 | s2
    ·have h:=a.size
     refine sI (.inl Z) (oL (args:=[a5,vI 11]) (caps:=#[]) _ _ a (Cb (Pb Pz) Cn) Z fy (by exact pj Z Z) (λhH q d O=>me.l (mz qk J.2 b5 11 _ _ ⟨hH,q,d⟩ (c8.mono (Pl.mono _) (lm.refl _)) e7)) λm1 r7 h1 l3 a b2 af ap=>?_)
     obtain ⟨t9,u7,j6,rfl⟩:=ap
     have a:=a.perm (Tb Tn)
     refine nO (pu ?_)
     cases sj H
     replace b7:some (Sum.inl n4)=some s:=b7
     cases sj b7
     exact nw.li ⟨_,_,_,Z,a.lZ (Kb Sn),u.trans b2,p.trans af,ST.lp a (mu.mem (Kb Sn)),⟨_,_,j6,Z⟩⟩
    have h:=a.size
    refine VE (eD a (Cb (Pb Pz) Cn) fy (λw=>me.r (mz qk J.2 b5 11 _ _ w (c8.mono (Pl.mono _) (lm.refl _)) e7)) ?_)
    rintro m1 t0 h1 l3 a b2 af ⟨c7,rfl⟩
    cases c7
    have a:=a.perm (Tb Tn)
    refine ln ?_
    cases sj H
    exact ⟨_,Z,h1,_,b2,af,a.kM (Sb (Pb Pz) St),d3,f6,f7⟩
   refine kn ?_
   cases sj H
   exact ⟨_,Z,ag,_,lm.refl _,Lo.refl,a.kM,d3,f6,f7⟩
  refine bC Zq (λG Zq=>?_) (λG Zq=>?_)
  ·refine un G (un G (un G (V (lh (cB G) Z) ?_)))
   cases sj Zq
   exact d2 _ _ ⟨_,a.kM,Z,Z,Z,Z⟩
  refine ug G (kU rG Z) (ug G (kP Z (kZ a.has Mh Z bH)) (ug G (lI Z Z Z) (V (lg (cB G) Z) ?_)))
  cases sj Zq
  exact d2 _ _ ⟨_,a.kM,Z,Z,Z,Z⟩
 rintro ⟨⟩ E W ⟨f0,k3,k,o,a,M,d0,I⟩ b9
 refine sg (Wh M (bS b9 λo2 f8 b9=>?_))
 rcases o2 with v4 | D
 ·have h:=a.size
  refine sI (.inl Z) (oL (args:=[a5]) (caps:=#[]) _ _ a (Cb (Pb Pz) Cn) Z iu (by exact sD Z) (λhH q d O=>me.l (sG ⟨hH,q,d⟩ (c8.mono (Pl.mono _) k) f8)) λp6 v2 f1 p5 a t j ar=>?_)
  obtain ⟨v7,w0,m7,rfl⟩:=ar
  have a:=a.perm (Tb Tn)
  refine nO (pu ?_)
  cases sj b9
  exact nw.li ⟨_,_,_,Z,a.lZ (Kb Sn),(u.trans k).trans t,(p.trans o).trans j,ST.lp a (mu.mem (Kb Sn)),⟨_,_,m7,Z⟩⟩
 have h:=a.size
 refine VE (eD a (Cb (Pb Pz) Cn) iu (λw=>me.r (sG w (c8.mono (Pl.mono _) k) f8)) ?_)
 rintro p6 v5 f1 p5 a t j ⟨a1,d5,rfl,K⟩
 cases d5
 have a:=a.perm (Tb Tn)
 refine V (kU ud I) ?_
 have a:=a.perm (Nb (Pb Pz) Nz)
 refine VO (lz (vA (kR D.1)) ((kQ (⟨J.1,D.1,zS,K0,K0,zS⟩:kK)).toArray) a Z Z aI (oQ D.1) nb Z (λv0 a=>ln (kY (Hs b9 (λc9 E W=>∃Q b3 f3,lm f1 b3∧Lo (keys b8) qa f1 b3∧ST true (keys b8) qa W b3 ((b4,Ol (kQ c9.1) 55)::((qk,Ob #[Q,vB c9.2.2] 198)::((b1,oC g5 55)::f3)))∧E 0=a5∧E 2=g6∧E 3=vP b4∧Sl (Pl (lu .u8)) 1 b3 Q c9.2.1) (λc9 g i=>?_) ?_))))
 ·refine sg (V (kU rG I) (VB a Mh Z Z bH (ln (bg (Wi Z (Wa (ln (CI g Z (λi2 g=>?_) λi2 g=>?_))))))))
  ·refine kX (Wh M (bS g λn6 e1 g=>?_))
   rcases n6 with m8 | d6
   ·have h:=a.size
    refine sI (.inl Z) (oL (args:=[a5]) (caps:=#[]) _ _ a (Cb (Pb Pz) Cn) Z iZ (by exact sD Z) (λhH q d O=>me.l (uB ⟨hH,q,d⟩ (K.mono (Pl.mono _) (lm.refl _)) e1)) λl5 r0 g4 k7 a a7 aa ai=>?_)
    obtain ⟨t3,u1,i8,rfl⟩:=ai
    have a:=a.perm (Tb Tn)
    refine xp (nO (pu ?_))
    cases sj g
    replace i:some (Sum.inl m8)=some s:=i
    cases sj i
    exact nw.li ⟨_,_,_,Z,a.lZ (Kb Sn),((u.trans k).trans t).trans a7,((p.trans o).trans j).trans aa,ST.lp a (mu.mem (Kb Sn)),⟨_,_,i8,Z⟩⟩
   have h:=a.size
   refine VE (eD a (Cb (Pb Pz) Cn) iZ (λw=>me.r (uB w (K.mono (Pl.mono _) (lm.refl _)) e1)) ?_)
   rintro l5 s4 g4 k7 a a7 aa ⟨o6,c1,rfl,j9⟩
   cases c1
   have a:=a.perm (Tb Tn)
   refine V (kU zY I) ?_
   have a:=a.perm (Nb (Pb Pz) Nz)
   refine VO (lz (vS d6.1) ((kQ (⟨J.1,D.1,d6.1,K0,K0,zS⟩:kK)).toArray) a Z Z er (EJ d6.1) nb Z (λaw a=>lC (lD (kW ?_))))
   cases sj g
   exact ⟨_,Z,o6,g4,_,a7,aa,a.kM,M,d0,I,j9⟩
  refine sg (Wi Z (Wa (ln (CI g Z (λi3 g=>?_) λi3 g=>?_))))
  ·refine kX (Wh M (bS g λn7 e2 g=>?_))
   rcases n7 with m9 | d7
   ·have h:=a.size
    refine sI (.inl Z) (oL (args:=[a5]) (caps:=#[]) _ _ a (Cb (Pb Pz) Cn) Z iu (by exact sD Z) (λhH q d O=>me.l (sG ⟨hH,q,d⟩ (K.mono (Pl.mono _) (lm.refl _)) e2)) λl6 r1 g7 k8 a a8 ab aj=>?_)
    obtain ⟨t4,u2,i9,rfl⟩:=aj
    have a:=a.perm (Tb Tn)
    refine xp (nO (pu ?_))
    cases sj g
    replace i:some (Sum.inl m9)=some s:=i
    cases sj i
    exact nw.li ⟨_,_,_,Z,a.lZ (Kb Sn),((u.trans k).trans t).trans a8,((p.trans o).trans j).trans ab,ST.lp a (mu.mem (Kb Sn)),⟨_,_,i9,Z⟩⟩
   have h:=a.size
   refine VE (eD a (Cb (Pb Pz) Cn) iu (λw=>me.r (sG w (K.mono (Pl.mono _) (lm.refl _)) e2)) ?_)
   rintro l6 s5 g7 k8 a a8 ab ⟨o7,c2,rfl,k0⟩
   cases c2
   have a:=a.perm (Tb Tn)
   refine V (kU ph I) ?_
   have a:=a.perm (Nb (Pb Pz) Nz)
   refine VO (lz (vA (kR d7.1)) ((kQ (⟨J.1,D.1,zS,d7.1,K0,zS⟩:kK)).toArray) a Z Z aI (oQ d7.1) nb Z (λay a=>lC (lD (kW ?_))))
   cases sj g
   exact ⟨_,Z,o7,g7,_,a8,ab,a.kM,M,d0,I,k0⟩
  refine sg (Wi Z (Wa (ln (CI g Z (λi4 g=>?_) λi4 g=>?_))))
  ·refine sg (Wh M (bS g λn9 e3 g=>?_))
   rcases n9 with n0 | a2
   ·have h:=a.size
    refine sI (.inl Z) (oL (args:=[a5]) (caps:=#[]) _ _ a (Cb (Pb Pz) Cn) Z iu (by exact sD Z) (λhH q d O=>me.l (sG ⟨hH,q,d⟩ (K.mono (Pl.mono _) (lm.refl _)) e3)) λl7 r2 p2 k9 a U A ak=>?_)
    obtain ⟨t5,u3,j0,rfl⟩:=ak
    have a:=a.perm (Tb Tn)
    refine nO (xp (nO (pu ?_)))
    cases sj g
    replace i:some (Sum.inl n0)=some s:=i
    cases sj i
    exact nw.li ⟨_,_,_,Z,a.lZ (Kb Sn),((u.trans k).trans t).trans U,((p.trans o).trans j).trans A,ST.lp a (mu.mem (Kb Sn)),⟨_,_,j0,Z⟩⟩
   have h:=a.size
   refine VE (eD a (Cb (Pb Pz) Cn) iu (λw=>me.r (sG w (K.mono (Pl.mono _) (lm.refl _)) e3)) ?_)
   rintro l7 s6 p2 k9 a U A ⟨g2,c3,rfl,e8⟩
   cases c3
   have a:=a.perm (Tb Tn)
   refine V (kU ph I) ?_
   have a:=a.perm (Nb (Pb Pz) Nz)
   refine VO (lz (vA (kR a2.1)) ((kQ (⟨J.1,D.1,zS,a2.1,K0,zS⟩:kK)).toArray) a Z Z aI (oQ a2.1) nb Z (λaz a=>ln (kX (Wh M (bS g λn8 e4 g=>?_)))))
   rcases n8 with n1 | d8
   ·have h:=a.size
    refine sI (.inl Z) (oL (args:=[a5]) (caps:=#[]) _ _ a (Cb (Pb Pz) Cn) Z iZ (by exact sD Z) (λhH q d O=>me.l (uB ⟨hH,q,d⟩ (e8.mono (Pl.mono _) (lm.refl _)) e4)) λl8 r4 g8 l0 a a9 ad al=>?_)
    obtain ⟨t6,u4,j3,rfl⟩:=al
    have a:=a.perm (Tb Tn)
    refine xp (nO (pu ?_))
    cases sj g
    replace i:some (Sum.inl n1)=some s:=i
    cases sj i
    exact nw.li ⟨_,_,_,Z,a.lZ (Kb Sn),(((u.trans k).trans t).trans U).trans a9,(((p.trans o).trans j).trans A).trans ad,ST.lp a (mu.mem (Kb Sn)),⟨_,_,j3,Z⟩⟩
   have h:=a.size
   refine VE (eD a (Cb (Pb Pz) Cn) iZ (λw=>me.r (uB w (e8.mono (Pl.mono _) (lm.refl _)) e4)) ?_)
   rintro l8 s7 g8 l0 a a9 ad ⟨o8,c4,rfl,k1⟩
   cases c4
   have a:=a.perm (Tb Tn)
   refine V (kU yc I) ?_
   have a:=a.perm (Nb (Pb Pz) Nz)
   refine VO (lz (vS d8.1) ((kQ (⟨J.1,D.1,zS,a2.1,K0,d8.1⟩:kK)).toArray) a Z Z er (EJ d8.1) nb Z (λaE a=>lC (lD (kW ?_))))
   cases sj g
   exact ⟨_,Z,o8,g8,_,U.trans a9,A.trans ad,a.kM,M,d0,I,k1⟩
  refine sg (Wi Z (Wa (ln (CI g Z (λi5 g=>?_) λi5 g=>?_))))
  ·refine sg (Wh M (bS g λo1 e5 g=>?_))
   rcases o1 with n2 | a3
   ·have h:=a.size
    refine sI (.inl Z) (oL (args:=[a5]) (caps:=#[]) _ _ a (Cb (Pb Pz) Cn) Z iu (by exact sD Z) (λhH q d O=>me.l (sG ⟨hH,q,d⟩ (K.mono (Pl.mono _) (lm.refl _)) e5)) λl9 r5 p3 l1 a Y L an=>?_)
    obtain ⟨t7,u5,j4,rfl⟩:=an
    have a:=a.perm (Tb Tn)
    refine nO (xp (nO (pu ?_)))
    cases sj g
    replace i:some (Sum.inl n2)=some s:=i
    cases sj i
    exact nw.li ⟨_,_,_,Z,a.lZ (Kb Sn),((u.trans k).trans t).trans Y,((p.trans o).trans j).trans L,ST.lp a (mu.mem (Kb Sn)),⟨_,_,j4,Z⟩⟩
   have h:=a.size
   refine VE (eD a (Cb (Pb Pz) Cn) iu (λw=>me.r (sG w (K.mono (Pl.mono _) (lm.refl _)) e5)) ?_)
   rintro l9 s8 p3 l1 a Y L ⟨g3,c5,rfl,e9⟩
   cases c5
   have a:=a.perm (Tb Tn)
   refine V (kU ph I) ?_
   have a:=a.perm (Nb (Pb Pz) Nz)
   refine VO (lz (vA (kR a3.1)) ((kQ (⟨J.1,D.1,zS,a3.1,K0,zS⟩:kK)).toArray) a Z Z aI (oQ a3.1) nb Z (λba a=>ln (kX (Wh M (bS g λo0 e6 g=>?_)))))
   rcases o0 with n3 | d9
   ·have h:=a.size
    refine sI (.inl Z) (oL (args:=[a5]) (caps:=#[]) _ _ a (Cb (Pb Pz) Cn) Z iu (by exact sD Z) (λhH q d O=>me.l (sG ⟨hH,q,d⟩ (e9.mono (Pl.mono _) (lm.refl _)) e6)) λm0 r6 g9 l2 a b0 ae ao=>?_)
    obtain ⟨t8,u6,j5,rfl⟩:=ao
    have a:=a.perm (Tb Tn)
    refine xp (nO (pu ?_))
    cases sj g
    replace i:some (Sum.inl n3)=some s:=i
    cases sj i
    exact nw.li ⟨_,_,_,Z,a.lZ (Kb Sn),(((u.trans k).trans t).trans Y).trans b0,(((p.trans o).trans j).trans L).trans ae,ST.lp a (mu.mem (Kb Sn)),⟨_,_,j5,Z⟩⟩
   have h:=a.size
   refine VE (eD a (Cb (Pb Pz) Cn) iu (λw=>me.r (sG w (e9.mono (Pl.mono _) (lm.refl _)) e6)) ?_)
   rintro m0 s9 g9 l2 a b0 ae ⟨o9,c6,rfl,k2⟩
   cases c6
   have a:=a.perm (Tb Tn)
   refine V (kU vH I) ?_
   have a:=a.perm (Nb (Pb Pz) Nz)
   refine VO (lz (vA (kR d9.1)) ((kQ (⟨J.1,D.1,zS,a3.1,d9.1,zS⟩:kK)).toArray) a Z Z aI (oQ d9.1) nb Z (λbc a=>lC (lD (kW ?_))))
   cases sj g
   exact ⟨_,Z,o9,g9,_,Y.trans b0,L.trans ae,a.kM,M,d0,I,k2⟩
  refine lU (lD (kW ?_))
  cases sj g
  exact ⟨_,Z,a1,f1,_,lm.refl _,Lo.refl,a.kM,M,d0,I,K⟩
 rintro ⟨N,f9,g1⟩ E W ⟨Q,b3,f3,a6,P,a,m2,b6,f5,a4⟩ B
 refine kY (sg (V (kP f5 (kV a.has Mh (kQ N) Z bK aK)) (bS B λs0 j8 B=>VE (Eg a call63 (xC N _ _  j8) λp9 a=>V (nt Z) (ln (CI B Z (λi1 B=>?_) λi1 B=>?_))))))
 ·refine sg (Wh m2 (bS B λn5 e0 B=>?_))
  rcases n5 with r9 | s1
  ·have h:=a.size
   refine sI (.inl Z) (oL (args:=[a5,vI 11]) (caps:=#[]) _ _ a (Cb (Pb Pz) Cn) Z fy (by exact pj Z Z) (λhH q d O=>me.l (mz qk (⟨f9,g1⟩:lL) Q 11 _ _ ⟨hH,q,d⟩ (a4.mono (Pl.mono _) (lm.refl _)) e0)) λl4 bd p1 k6 a T R ah=>?_)
   obtain ⟨t2,u0,i7,rfl⟩:=ah
   have a:=a.perm (Tb Tn)
   refine nO (nO (pu ?_))
   cases sj B
   exact nw.li ⟨_,_,_,Z,a.lZ (Kb Sn),(((u.trans k).trans t).trans a6).trans T,(((p.trans o).trans j).trans P).trans R,ST.lp a (mu.mem (Kb Sn)),⟨_,_,i7,Z⟩⟩
  have h:=a.size
  refine VE (eD a (Cb (Pb Pz) Cn) fy (λw=>me.r (mz qk (⟨f9,g1⟩:lL) Q 11 _ _ w (a4.mono (Pl.mono _) (lm.refl _)) e0)) ?_)
  rintro l4 s3 p1 k6 a T R ⟨c0,rfl⟩
  cases c0
  have a:=a.perm (Tb Tn)
  refine ln ?_
  have a:=a.kM (Kb (Db St))
  refine sg (V (lX (v:=h2) oP (lG cO dy (Oj _ dy) kr)) ?_)
  have a:=a.perm (Nb (Pb Pz) Nz)
  refine VO (lz h2 ((kQ K9).toArray) a b6 Z aK (ow K9) nb Z (λau a=>lt (ly (xG ?_))))
  cases sj B
  exact mR (v:=h2) Z b6 (kV a.has Mh (kQ K9) Z bK aK) (nw.ri ⟨_,_,_,Z,a.lZ (Db (Kb Sn)),(((u.trans k).trans t).trans a6).trans T,(((p.trans o).trans j).trans P).trans R,ST.lp a (mu.mem (Db (Kb Sn))),Q,Z,Z,a4.mono (Pl.mono _) T⟩)
 refine kg (V (kP f5 (kV a.has Mh (kQ N) Z bK aK)) ?_)
 have a:=a.perm (Nb (Pb (Pb Pz)) Nz)
 refine VO (lz (vA (kQ N)) ((kQ N).toArray) a b6 Z aK (ow N) nb Z (λav a=>ln ?_))
 have a:=a.kM (Kb (Db St))
 refine lB (xG ?_)
 cases sj B
 exact mR (v:=vA (kQ N)) Z b6 (kV a.has Mh (kQ N) Z bK aK) (nw.ri ⟨_,_,_,Z,a.lZ (Db (Kb Sn)),((u.trans k).trans t).trans a6,((p.trans o).trans j).trans P,ST.lp a (mu.mem (Db (Kb Sn))),Q,Z,Z,a4⟩)
theorem KC {s:(Int ⊕ (Signed×lL))} (h0:nN qb ((qk,Ob #[q0,vB qO.over] 198)::[]) qa) (H:Sl (Pl (lu .u8)) 1 qb q0 qO.b) (hm:Eb qO=some s) :
  me true pg0 134 [vP qk] qa qb ((qk,Ob #[q0,vB qO.over] 198)::[]) s (λr v L1 μ1=>∃W y3,v=vA [vI r.1.kK.Kind,vS r.1.kK.Head.kO,vS r.1.kK.Head.Word,vS r.1.kK.lV,vS r.1.kK.B.kO,vS r.1.kK.B.Word,vS r.1.kK.C.kO,vS r.1.kK.C.Word,vS r.1.kK.lW,W]∧L1=((qk,Ob #[y3,vB r.2.over] 198)::[])∧Sl (Pl (lu .u8)) 1 μ1 W r.1.Tag∧Sl (Pl (lu .u8)) 1 μ1 y3 r.2.b) (λx c L1 μ1=>∃y z,c=[{ v:=zN 203 qk x,recovered:=false }]∧L1=((qk,Ob #[y,z] 198)::[])):=by
 let a2:Value:=vP qk
 have d:=ST.yJ (dd:=true) h0
 refine tu (n:=18) func134 Z Z nb (sg (VE (lq d cU λW2 b1 d=>lr (Wm (bS hm λc1 R hm=>?_)))))
 rcases c1 with d7 | a
 ·have p:=d.size
  refine sI (.inl Z) (oL (args:=[a2]) (caps:=#[]) _ _ d (Cb (Pb Pz) Cn) Z call169 (by exact sD Z) (λhH q o P=>me.l (Kp ⟨hH,q,o⟩ (H.mono (Pl.mono _) (lm.refl _)) R)) λW5 d4 Q b3 d t h w=>?_)
  obtain ⟨e3,e7,a7,rfl⟩:=w
  have d:=d.perm (Tb Tn)
  refine nO (pu ?_)
  cases sj hm
  exact nw.li ⟨_,_,_,Z,d.lZ (Kb Sn),t,h,ST.lp d (mu.mem (Kb Sn)),⟨_,_,a7,Z⟩⟩
 have p:=d.size
 refine VE (eD d (Cb (Pb Pz) Cn) call169 (λO=>me.r (Kp O (H.mono (Pl.mono _) (lm.refl _)) R)) ?_)
 rintro W5 v9 Q b3 d t h ⟨a1,I,rfl,Y⟩
 cases I
 have d:=d.perm (Tb Tn)
 refine VE (lq d cO λc9 d3 d=>VO (FA (h1:=ow a.1) ((kQ a.1).toArray) d aK λd0 d=>lr (Wm (bS hm λc0 T hm=>?_))))
 rcases c0 with d8 | k
 ·have p:=d.size
  refine sI (.inl Z) (oL (args:=[a2,vI 8]) (caps:=#[]) _ _ d (Cb (Pb Pz) Cn) Z call83 (by exact pj Z Z) (λhH q o P=>me.l (re ⟨hH,q,o⟩ (Y.mono (Pl.mono _) (lm.refl _)) T)) λb6 d5 c4 b4 d j g A=>?_)
  obtain ⟨e5,e8,a8,rfl⟩:=A
  have d:=d.perm (Tb Tn)
  refine nO (pu ?_)
  cases sj hm
  exact nw.li ⟨_,_,_,Z,d.lZ (Kb Sn),t.trans j,h.trans g,ST.lp d (mu.mem (Kb Sn)),⟨_,_,a8,Z⟩⟩
 have p:=d.size
 refine VE (eD d (Cb (Pb Pz) Cn) call83 (λO=>me.r (re O (Y.mono (Pl.mono _) (lm.refl _)) T)) ?_)
 rintro b6 e1 c4 b4 d j g ⟨e4,N,J,rfl,M,G⟩
 cases J
 have d:=d.perm (Tb Tn)
 refine Wa (lS (Wm (V (lT aT Z M) (Wi Z (ln (CI hm Z (λa6 hm=>?_) λa6 hm=>?_))))))
 ·refine sg (Wm (bS hm λb9 U hm=>?_))
  rcases b9 with d9 | e0
  ·have p:=d.size
   refine sI (.inl Z) (oL (args:=[a2,vI 11]) (caps:=#[]) _ _ d (Cb Pz Cn) Z fy (by exact pj Z Z) (λhH q o P=>me.l (mz qk k.2 N 11 _ _ ⟨hH,q,o⟩ (G.mono (Pl.mono _) (lm.refl _)) U)) λb7 d6 c5 b5 d u i L=>?_)
   obtain ⟨e6,e9,a9,rfl⟩:=L
   have d:=d.perm (Tb Tn)
   refine nO (nO (pu ?_))
   cases sj hm
   exact nw.li ⟨_,_,_,Z,d.lZ (Kb Sn),(t.trans j).trans u,(h.trans g).trans i,ST.lp d (mu.mem (Kb Sn)),⟨_,_,a9,Z⟩⟩
  have p:=d.size
  refine VE (eD d (Cb Pz Cn) fy (λO=>me.r (mz qk k.2 N 11 _ _ O (G.mono (Pl.mono _) (lm.refl _)) U)) ?_)
  rintro b7 e2 c5 b5 d u i ⟨K,rfl⟩
  cases K
  have d:=d.perm (Tb Tn)
  refine ln ?_
  have d:=d.kM (Kb (Db St))
  refine sg (V (lX (v:=vA C7) oP (lG cU ep (Of _ ep) kr)) ?_)
  have d:=d.perm (Nb (Pb Pz) Nz)
  refine VO (FA C7.toArray d bO λd1 d=>lt (ly (xG ?_)))
  cases sj hm
  exact mR (v:=vA C7) Z Z (kV d.has Mh C7 Z ef bO) (nw.ri ⟨_,_,_,Z,d.lZ (Db (Kb Sn)),(t.trans j).trans u,(h.trans g).trans i,ST.lp d (mu.mem (Db (Kb Sn))),vN,N,Z,Z,Sl.nil _ _ _,G.mono (Pl.mono _) u⟩)
 refine kg (VA d (Mt Mh) (kQ a.1) bK aK (Wm ?_))
 obtain ⟨B,D,rfl⟩:=M.form
 let a0:=C2 a.1.Kind a.1.Head.kO a.1.Head.Word a.1.lV a.1.B.kO a.1.B.Word a.1.C.kO a.1.C.Word a.1.lW B k.1.length D
 refine V (lX (v:=vA a0) (pF Z Z) (lG cU ep (Of _ ep) kr)) ?_
 have d:=d.perm (Nb (Pb (Pb Pz)) Nz)
 refine VO (FA a0.toArray d bO λd2 d=>ln ?_)
 have d:=d.kM (Kb (Kb (Db St)))
 refine lB (xG ?_)
 cases sj hm
 exact mR (v:=vA a0) Z Z (kV d.has Mh a0 Z ef bO) (nw.ri ⟨_,_,_,Z,d.lZ (Db (Kb Sn)),t.trans j,h.trans g,ST.lp d (mu.mem (Db (Kb Sn))),.slice B k.1.length D,N,Z,Z,M,G⟩)
set_option maxHeartbeats 4000000 in
theorem LH {s:(Int ⊕ (pd×lL))} (h0:nN qb ((qk,Ob #[q0,vB qO.over] 198)::[]) qa) (i8:Sl (Pl (lu .u8)) 1 qb q0 qO.b) (hm:E6 qO=some s) :
  me false pg0 87 [vP qk] qa qb ((qk,Ob #[q0,vB qO.over] 198)::[]) s (λr v L1 μ1=>∃y1 y3 y5,v=vA [vI r.1.Kind,vI r.1.oN,vI r.1.E,vS r.1.Name,y1,y3]∧L1=((qk,Ob #[y5,vB r.2.over] 198)::[])∧Sl (Pl kR) 2 μ1 y1 r.1.nU∧Sl mg 10 μ1 y3 r.1.mC∧Sl (Pl (lu .u8)) 1 μ1 y5 r.2.b) (λx c L1 μ1=>∃y z,c=[{ v:=zN 203 qk x,recovered:=false }]∧L1=((qk,Ob #[y,z] 198)::[])):=by
 let c6:Value:=vP qk
 let b8:=(qk,Ob #[q0,vB qO.over] 198)::[]
 have d:=ST.yJ (dd:=false) h0
 refine tu (n:=55) func87 Z Z nb (sg (VE (lq d cR λW2 b1 d=>lr (Wm (bS hm λu1 v2 hm=>?_)))))
 let g6:Value:=vP b1
 rcases u1 with be | J
 ·have w:=d.size
  refine sI (.inl Z) (oL (args:=[c6,vI 9223372036854775807]) (caps:=#[]) _ _ d (Cb (Pb Pz) Cn) Z gQ (by exact pj Z Z) (λhH hN q bo=>zo.mF (me.l (nh ⟨hH,hN,q⟩ (i8.mono (Pl.mono _) (lm.refl _)) v2))) λW5 bd cd v7 d K O cf=>?_)
  obtain ⟨bf,bh,v5,rfl⟩:=cf
  have d:=d.perm (Tb Tn)
  refine nO (pu ?_)
  cases sj hm
  exact nw.li ⟨_,_,_,Z,d.lZ (Kb Sn),K,O,ST.lp d (mu.mem (Kb Sn)),⟨_,_,v5,Z⟩⟩
 have w:=d.size
 refine VE (eD d (Cb (Pb Pz) Cn) gQ (λhh=>mq.mF (me.r (nh hh (i8.mono (Pl.mono _) (lm.refl _)) v2))) ?_)
 rintro W5 v9 cd v7 d K O ⟨h3,k3,rfl,c1⟩
 cases k3
 have d:=d.perm (Tb Tn)
 refine V (lX (v:=vA (QV J.1)) (mB Z) (lG cR cM (ED _ cM) kr)) (VE (lq d cR λba e2 d=>VO (FA ((QV J.1).toArray) d cI λbc d=>ln (kY (Hs hm (λI E W=>∃b5 h6 b6 h7 Y b9 k4,lm cd b9∧Lo (keys b8) qa cd b9∧ST false (keys b8) qa W b9 ((e2,Ob #[vI J.1,vI I.1,vI I.2.1,vS I.2.2.1,b5,b6] 69)::((qk,Ob #[Y,vB I.2.2.2.2.2.2] 198)::((b1,Ol C3 69)::(h7++(h6++k4)))))∧E 0=c6∧E 2=g6∧E 3=vP e2∧lQ 53 kR 2 b5 I.2.2.2.1 h6∧mn 57 mg 10 b9 b6 I.2.2.2.2.1 h7∧Sl (Pl (lu .u8)) 1 b9 Y I.2.2.2.2.2.1) (λI i j=>?_) ?_)))))
 ·let j1:Value:=(vP e2)
  refine sg (Wf zk (VB d Mh Z Z bH (ln (bg (Wi Z (Wa (ln (CI i Z (λn3 i=>?_) λn3 i=>?_))))))))
  ·refine sg (Wm (bS i λt5 j0 i=>?_))
   rcases t5 with s7 | b3
   ·have w:=d.size
    refine sI (.inl Z) (oL (args:=[c6]) (caps:=#[]) _ _ d (Cb (Pb Pz) Cn) Z iZ (by exact sD Z) (λhH hN q bo=>zo.mF (me.l (uB ⟨hH,hN,q⟩ (c1.mono (Pl.mono _) (lm.refl _)) j0))) λr2 x6 v0 cj d a8 P bq=>?_)
    obtain ⟨ad,am,o1,rfl⟩:=bq
    have d:=d.perm (Tb Tn)
    refine nO (xp (nO (pu ?_)))
    cases sj i
    replace j:some (Sum.inl s7)=some s:=j
    cases sj j
    exact nw.li ⟨_,_,_,Z,d.lZ (Kb Sn),K.trans a8,O.trans P,ST.lp d (mu.mem (Kb Sn)),⟨_,_,o1,Z⟩⟩
   have w:=d.size
   refine VE (eD d (Cb (Pb Pz) Cn) iZ (λhh=>mq.mF (me.r (uB hh (c1.mono (Pl.mono _) (lm.refl _)) j0))) ?_)
   rintro r2 z2 v0 cj d a8 P ⟨l8,g3,rfl,k1⟩
   cases g3
   have d:=d.perm (Tb Tn)
   refine Wf D9 ?_
   have d:=d.perm (Nb (Pb Pz) Nz)
   refine VO (lz (vS b3.1) (#[vI J.1,vI 0,vI 0,vS b3.1,vN,vN]) d Z Z er (EJ b3.1) nb Z (λw5 d=>ln (kX (Wm (bS i λt4 j3 i=>?_)))))
   rcases t4 with s8 | i3
   ·have w:=d.size
    refine sI (.inl Z) (oL (args:=[c6,vI 2]) (caps:=#[]) _ _ d (Cb (Pb Pz) Cn) Z gQ (by exact pj Z Z) (λhH hN q bo=>zo.mF (me.l (nh ⟨hH,hN,q⟩ (k1.mono (Pl.mono _) (lm.refl _)) j3))) λr4 x7 l9 ck d d9 bi bs=>?_)
    obtain ⟨ae,an,o2,rfl⟩:=bs
    have d:=d.perm (Tb Tn)
    refine xp (nO (pu ?_))
    cases sj i
    replace j:some (Sum.inl s8)=some s:=j
    cases sj j
    exact nw.li ⟨_,_,_,Z,d.lZ (Kb Sn),(K.trans a8).trans d9,(O.trans P).trans bi,ST.lp d (mu.mem (Kb Sn)),⟨_,_,o2,Z⟩⟩
   have w:=d.size
   refine VE (eD d (Cb (Pb Pz) Cn) gQ (λhh=>mq.mF (me.r (nh hh (k1.mono (Pl.mono _) (lm.refl _)) j3))) ?_)
   rintro r4 z3 l9 ck d d9 bi ⟨u2,g4,rfl,p5⟩
   cases g4
   have d:=d.perm (Tb Tn)
   refine Wf BN ?_
   have d:=d.perm (Nb (Pb Pz) Nz)
   refine VO (lz (vI i3.1) ((VV J.1 i3.1 b3.1).toArray) d Z Z dH (uk _ i3.1) nb Z (λw6 d=>lC (lD (kW ?_))))
   cases sj i
   exact ⟨_,Z,vN,[],vN,[],u2,l9,_,a8.trans d9,P.trans bi,d.kM,Z,Z,Z,lQ.nil _ _ _,mn.nil _ _ _ _,p5⟩
  refine sg (Wi Z (Wa (ln (CI i Z (λn4 i=>?_) λn4 i=>?_))))
  ·refine kY (sg (Wm (bS i λt9 j4 i=>?_)))
   rcases t9 with s9 | f0
   ·have w:=d.size
    refine sI (.inl Z) (oL (args:=[c6,vI 16]) (caps:=#[]) _ _ d (Cb (Pb Pz) Cn) Z gQ (by exact pj Z Z) (λhH hN q bo=>zo.mF (me.l (nh ⟨hH,hN,q⟩ (c1.mono (Pl.mono _) (lm.refl _)) j4))) λr5 x8 f7 cm d M A bt=>?_)
    obtain ⟨af,ao,o3,rfl⟩:=bt
    have d:=d.perm (Tb Tn)
    refine nO (nO (xp (nO (pu ?_))))
    cases sj i
    replace j:some (Sum.inl s9)=some s:=j
    cases sj j
    exact nw.li ⟨_,_,_,Z,d.lZ (Kb Sn),K.trans M,O.trans A,ST.lp d (mu.mem (Kb Sn)),⟨_,_,o3,Z⟩⟩
   have w:=d.size
   refine VE (eD d (Cb (Pb Pz) Cn) gQ (λhh=>mq.mF (me.r (nh hh (c1.mono (Pl.mono _) (lm.refl _)) j4))) ?_)
   rintro r5 z4 f7 cm d M A ⟨u3,g7,rfl,p6⟩
   cases g7
   have d:=d.perm (Tb Tn)
   refine Wm (ln (mA (nQ (λm E W=>∃f5 N i1 T Zq U a4 d5 k5,lm f7 d5∧Lo (keys b8) qa f7 d5∧ST false (keys b8) qa W d5 ((e2,Ob #[vI J.1,vI 0,vI 0,vS zS,N,vN] 69)::((qk,Ob #[Zq,vB a4] 198)::((b1,Ol C3 69)::(T++k5))))∧E 0=c6∧E 2=g6∧E 3=j1∧E 20=vI f0.1∧E 21=vI f5∧lQ 53 kR 2 N i1 T∧Sl (Pl (lu .u8)) 1 d5 Zq U∧wT f0 m f5 i1 U a4=some I) lP ⟨0,vN,[],[],u3,f0.2.b,f0.2.over,f7,_,lm.refl _,Lo.refl,d.kM (Sb (Pb Pz) St),Z,Z,Z,Z,Z,lQ.nil _ _ _,p6,i⟩ ?_)))
   rintro m E W ⟨f5,N,i1,T,Zq,U,a4,d5,k5,Q,L,d,e5,k9,e6,l0,l1,j9,d1,k⟩
   let i5:=(⟨U,a4⟩:lL)
   cases m with
   | zero=>rw [wT] at k; cases k
   | succ s5=>
    refine sg (V (lI l1 l0 Z) (ln (kY (CI k Z (λn5 k=>?_) λn5 k=>?_))))
    ·refine kn (kY (mA ?_))
     have d:=d.drew
     have g:=d.has.kM Sn
     have p:=d.has.kM (Kb Sn)
     refine vh 7 g p lM (nZ 0 Z g p (kU yz e6) (Fo 1 Z g p (λhS=>kP Z (kZ hS Mh Z ir)) (nZ 2 Z g p (kT e5) (bS k λt6 j5 k=>?_))))
     rcases t6 with t0 | b4
     ·have w:=d.size
      refine aam 3 Z kr (.inl Z) (oL (args:=[c6]) (caps:=#[]) _ _ d (Cb (Pb Pz) Cn) Z iu (by exact sD Z) (λhH hN q bo=>zo.mF (me.l (sG ⟨hH,hN,q⟩ (d1.mono (Pl.mono _) (lm.refl _)) j5))) λr6 x9 m0 cn d G bj bu=>?_)
      obtain ⟨ag,ap,o4,rfl⟩:=bu
      have d:=d.perm (Tb Tn)
      refine xp (nO (nO (xp (nO (xp (nO (pu ?_)))))))
      cases sj k
      replace j:some (Sum.inl t0)=some s:=j
      cases sj j
      exact nw.li ⟨_,_,_,Z,d.lZ (Kb Sn),((K.trans M).trans Q).trans G,((O.trans A).trans L).trans bj,ST.lp d (mu.mem (Kb Sn)),⟨_,_,o4,Z⟩⟩
     have w:=d.size
     refine XE 3 Z (eD d (Cb (Pb Pz) Cn) iu (λhh=>mq.mF (me.r (sG hh (d1.mono (Pl.mono _) (lm.refl _)) j5))) ?_)
     rintro r6 z5 m0 cn d G bj ⟨u4,g8,rfl,p7⟩
     cases g8
     have d:=d.perm (Tb Tn)
     have g:=d.has.ob G Sn
     have p:=d.has.ob G (Db (Kb Sn))
     refine ⟨⟨g,λ_=>p⟩,XE 4 Z (lE (cs:=(kR b4.1).toArray) d (mB Z) (ng bD aI cY) λw7 s0 d=>?_)⟩
     have g:=d.has.ob G Sn
     have p:=d.has.ob G (Db (Db (Kb Sn)))
     refine ⟨⟨g,λ_=>p⟩,?_⟩
     have d:=d.perm (Nr (Qb (Qb (Qb (Qb Qz)))) Nz)
     refine bS k λe8 n6 k=>XE 5 Z (oG (enc:=kR) (v:=N) (vs:= .slice (some ⟨s0,0,none⟩) 1 1) (R:=T) d ox dc oQ bD rH.1 rH.2.1 Z rH.2.2.1 rH.2.2.2 Z Z j9 (Sl.lit (enc:=kR) (l:=[b4.1]) ox Z nb Z (d.at_ (Ma Mh))) n6 λw8 z6 ct d i6=>?_)
     have g:=d.has.ob G Sn
     have p:=d.has.ob G (Dr (Db (Db (Kb Sn))))
     refine ⟨⟨g,λ_=>p⟩,nZ 6 Z g p (kU yz e6) ?_⟩
     obtain ⟨h4,h8,rfl⟩:=i6.form
     have d:=d.perm (Nb (Pr (Pb (Pb Pz))) Nz)
     refine XO 7 Z (lz (.slice h4 e8.length h8) (#[vI J.1,vI 0,vI 0,vS zS,.slice h4 e8.length h8,vN]) d Z Z sizeOf67 oc nb Z (λw9 d=>?_))
     have g:=d.has.ob G Sn
     refine ⟨⟨g,λh=>yF kr h⟩,ml kr (lD (kW ?_))⟩
     have d:=d.kM (Kb (Kr (Db St)))
     exact kX (V (lI l1 Z Z) (Wm (ln ⟨s5,bB _,wi0 .i64 (f5+1),.slice h4 e8.length h8,e8,ct,u4,b4.2.b,b4.2.over,m0,_,Q.trans G,L.trans bj,d.kM (Kb (Sb (Pr Pz) (Sb (Pr Pz) St))),e5,k9,e6,l0,Z,i6,p7,k⟩)))
    refine nB (nv (nv (ry (kW (sg (Wh e5 (bS k λt8 j6 k=>?_)))))))
    rcases t8 with t1 | f1
    ·have w:=d.size
     refine sI (.inl Z) (oL (args:=[c6,vI 8]) (caps:=#[]) _ _ d (Cb (Pb Pz) Cn) Z gQ (by exact pj Z Z) (λhH hN q bo=>zo.mF (me.l (nh ⟨hH,hN,q⟩ (d1.mono (Pl.mono _) (lm.refl _)) j6))) λr7 y0 c0 cp d a9 ay bw=>?_)
     obtain ⟨ah,aq,o5,rfl⟩:=bw
     have d:=d.perm (Tb Tn)
     refine nO (xp (nO (pu ?_)))
     cases sj k
     replace j:some (Sum.inl t1)=some s:=j
     cases sj j
     exact nw.li ⟨_,_,_,Z,d.lZ (Kb Sn),((K.trans M).trans Q).trans a9,((O.trans A).trans L).trans ay,ST.lp d (mu.mem (Kb Sn)),⟨_,_,o5,Z⟩⟩
    have w:=d.size
    refine VE (eD d (Cb (Pb Pz) Cn) gQ (λhh=>mq.mF (me.r (nh hh (d1.mono (Pl.mono _) (lm.refl _)) j6))) ?_)
    rintro r7 z7 c0 cp d a9 ay ⟨u5,g9,rfl,p8⟩
    cases g9
    have d:=d.perm (Tb Tn)
    refine Wm (ln (tW (Hs k (λd3 E W=>∃f2 e3 f3 a5 k6,lm c0 a5∧Lo (keys b8) qa c0 a5∧ST false (keys b8) qa W a5 ((e2,Ob #[vI J.1,vI 0,vI 0,vS zS,N,f2] 69)::((qk,Ob #[f3,vB d3.2.2] 198)::((b1,Ol C3 69)::(e3++(T++k6)))))∧E 0=c6∧E 2=g6∧E 3=j1∧mn 57 mg 10 a5 f2 d3.1 e3∧Sl (Pl (lu .u8)) 1 a5 f3 d3.2.1) (λd3 o9 f8=>?_) ?_)))
    ·refine mA (nQ (λm E W=>∃f6 f4 i2 c5 b7 d2 d4 a6 k7,lm c0 a6∧Lo (keys b8) qa c0 a6∧ST false (keys b8) qa W a6 ((e2,Ob #[vI J.1,vI 0,vI 0,vS zS,N,f4] 69)::((qk,Ob #[b7,vB d4] 198)::((b1,Ol C3 69)::(c5++(T++k7)))))∧E 0=c6∧E 2=g6∧E 3=j1∧E 32=vI f1.1∧E 33=vI f6∧mn 57 mg 10 a6 f4 i2 c5∧Sl (Pl (lu .u8)) 1 a6 b7 d2∧wW f1 m f6 i2 d2 d4=some d3) lP ⟨0,vN,[],[],u5,f1.2.b,f1.2.over,c0,_,lm.refl _,Lo.refl,d.kM (Sb (Pb Pz) St),e5,k9,e6,Z,Z,mn.nil _ _ _ _,p8,o9⟩ ?_)
     rintro m E W ⟨f6,f4,i2,c5,b7,d2,d4,a6,k7,e0,bk,d,i0,l2,e7,l3,l4,k0,g1,u⟩
     cases m with
     | zero=>rw [wW] at u; cases u
     | succ s6=>
      refine sg (V (lI l4 l3 Z) (ln (kY (CI u Z (λn7 u=>?_) λn7 u=>?_))))
      ·refine kn (kY (mA ?_))
       have d:=d.drew
       have g:=d.has.kM Sn
       have p:=d.has.kM (Kb Sn)
       refine vh 7 g p lM (nZ 0 Z g p (kU uE e7) (Fo 1 Z g p (λhS=>kP Z (kZ hS Mh Z fH)) (nZ 2 Z g p (kT i0) (bS u λt7 j7 u=>?_))))
       rcases t7 with l6 | a
       ·have w:=d.size
        refine aam 3 Z kr (.inl Z) (oL (args:=[c6]) (caps:=#[]) _ _ d (Cb (Pb Pz) Cn) Z call134 (by exact sD Z) (λhH hN q bo=>zo.mF (me.l (KC ⟨hH,hN,q⟩ (g1.mono (Pl.mono _) (lm.refl _)) j7))) λr8 y2 m1 cq d t bl bx=>?_)
        obtain ⟨aj,ar,o6,rfl⟩:=bx
        have d:=d.perm (Tb Tn)
        refine xp (nO (nO (xp (nO (xp (nO (pu ?_)))))))
        cases sj u
        replace f8:some (Sum.inl (Sum.inl l6))=some I:=f8
        cases sj f8
        replace j:some (Sum.inl l6)=some s:=j
        cases sj j
        exact nw.li ⟨_,_,_,Z,d.lZ (Kb Sn),((((K.trans M).trans Q).trans a9).trans e0).trans t,((((O.trans A).trans L).trans ay).trans bk).trans bl,ST.lp d (mu.mem (Kb Sn)),⟨_,_,o6,Z⟩⟩
       have w:=d.size
       refine XE 3 Z (eD d (Cb (Pb Pz) Cn) call134 (λhh=>mq.mF (me.r (KC hh (g1.mono (Pl.mono _) (lm.refl _)) j7))) ?_)
       rintro r8 z8 m1 cq d t bl ⟨ai,u6,h1,rfl,k2,p9⟩
       cases h1
       have d:=d.perm (Tb Tn)
       have g:=d.has.ob t Sn
       have p:=d.has.ob t (Db (Kb Sn))
       refine ⟨⟨g,λ_=>p⟩,?_⟩
       obtain ⟨c4,c9,rfl⟩:=k2.form
       let j2:Value:= .slice c4 a.1.Tag.length c9
       let m4:=a.1.kK.Head
       refine XE 4 Z (lE (cs:=#[vI a.1.kK.Kind,vS m4.kO,vS m4.Word,vS a.1.kK.lV,vS a.1.kK.B.kO,vS a.1.kK.B.Word,vS a.1.kK.C.kO,vS a.1.kK.C.Word,vS a.1.kK.lW,j2]) d (mB Z) (ng bV bO cU) λx0 x4 d=>?_)
       have g:=d.has.ob t Sn
       have p:=d.has.ob t (Db (Db (Kb Sn)))
       refine ⟨⟨g,λ_=>p⟩,?_⟩
       have d:=d.perm (Nr (Qb (Qb (Qb (Qb Qz)))) Nz)
       refine bS u λe9 n8 u=>XE 5 Z (sk (B:=c5) nu d dc bV A4.1 A4.2.1 Z A4.2.2.1 A4.2.2.2 Z Z (k0.mono nu t) (Br.lit nu (l:=[a.1]) (.cons (ys:=[vI a.1.kK.Kind,vS m4.kO,vS m4.Word,vS a.1.kK.lV,vS a.1.kK.B.kO,vS a.1.kK.B.Word,vS a.1.kK.C.kO,vS a.1.kK.C.Word,vS a.1.kK.lW,j2]) (mg.mk ⟨j2,Z,k2⟩) .nil) Z nb (d.at_ (Ma Mh))) n8 λx1 z9 r0 d i7=>?_)
       have g:=d.has.ob t Sn
       have p:=d.has.ob t (Dr (Db (Db (Kb Sn))))
       refine ⟨⟨g,λ_=>p⟩,nZ 6 Z g p (kU uE e7) ?_⟩
       obtain ⟨h5,h9,rfl⟩:=i7.form
       have d:=d.perm (Nb (Pr (Pb (Pb Pz))) Nz)
       refine XO 7 Z (lz (.slice h5 e9.length h9) (#[vI J.1,vI 0,vI 0,vS zS,N,.slice h5 e9.length h9]) d Z Z sizeOf66 oc nb Z (λx2 d=>?_))
       have g:=d.has.ob t Sn
       refine ⟨⟨g,λh=>yF kr h⟩,ml kr (lD (kW ?_))⟩
       have d:=d.kM (Kb (Kr (Db St)))
       exact kX (V (lI l4 Z Z) (Wm (ln ⟨s6,bB _,wi0 .i64 (f6+1),.slice h5 e9.length h9,e9,r0,u6,a.2.b,a.2.over,m1,_,e0.trans t,bk.trans bl,d.kM (Kb (Sb (Pr Pz) (Sb (Pr Pz) St))),i0,l2,e7,l3,Z,i7,p9,u⟩)))
      refine nB (nv (nv (ry (kW ?_))))
      cases sj u
      exact ⟨_,Z,f4,c5,b7,a6,_,e0,bk,d.kM,i0,l2,e7,k0,g1⟩
    rintro ⟨y6,y7,ab⟩ E W ⟨f2,e3,f3,a5,k6,m3,cc,d,s2,s3,s4,p3,p4⟩ o8
    refine lD (kW ?_)
    cases sj o8
    exact ⟨_,Z,N,T,f2,e3,f3,a5,_,((M.trans Q).trans a9).trans m3,((A.trans L).trans ay).trans cc,d.kM,s2,s3,s4,j9,p3,p4⟩
  refine sg (Wi Z (Wa (ln (CI i Z (λn9 i=>?_) λn9 i=>?_))))
  ·refine kX (Wm (bS i λu0 j8 i=>?_))
   rcases u0 with t2 | i4
   ·have w:=d.size
    refine sI (.inl Z) (oL (args:=[c6,vI 99]) (caps:=#[]) _ _ d (Cb (Pb Pz) Cn) Z gQ (by exact pj Z Z) (λhH hN q bo=>zo.mF (me.l (nh ⟨hH,hN,q⟩ (c1.mono (Pl.mono _) (lm.refl _)) j8))) λr9 y4 m2 cr d e1 bn bz=>?_)
    obtain ⟨ak,au,o7,rfl⟩:=bz
    have d:=d.perm (Tb Tn)
    refine xp (nO (pu ?_))
    cases sj i
    replace j:some (Sum.inl t2)=some s:=j
    cases sj j
    exact nw.li ⟨_,_,_,Z,d.lZ (Kb Sn),K.trans e1,O.trans bn,ST.lp d (mu.mem (Kb Sn)),⟨_,_,o7,Z⟩⟩
   have w:=d.size
   refine VE (eD d (Cb (Pb Pz) Cn) gQ (λhh=>mq.mF (me.r (nh hh (c1.mono (Pl.mono _) (lm.refl _)) j8))) ?_)
   rintro r9 aa m2 cr d e1 bn ⟨u7,h2,rfl,cg⟩
   cases h2
   have d:=d.perm (Tb Tn)
   refine Wf Bz ?_
   have d:=d.perm (Nb (Pb Pz) Nz)
   refine VO (lz (vI i4.1) (#[vI J.1,vI 0,vI i4.1,vS zS,vN,vN]) d Z Z dH (uk _ i4.1) nb Z (λx3 d=>lC (lD (kW ?_))))
   cases sj i
   exact ⟨_,Z,vN,[],vN,[],u7,m2,_,e1,bn,d.kM,Z,Z,Z,lQ.nil _ _ _,mn.nil _ _ _ _,cg⟩
  refine lU (lD (kW ?_))
  cases sj i
  exact ⟨_,Z,vN,[],vN,[],h3,cd,_,lm.refl _,Lo.refl,d.kM,Z,Z,Z,lQ.nil _ _ _,mn.nil _ _ _ _,c1⟩
 rintro ⟨a1,a2,a3,b0,b2,l5,l7⟩ E W ⟨b5,h6,b6,h7,Y,b9,k4,d6,az,d,s1,e4,k8,f9,g0,d0⟩ H
 refine kY (sg (V (kP k8 (kV d.has Mh [vI J.1,vI a1,vI a2,vS a3,b5,b6] Z et cI)) (bS H λy9 p0 H=>VE (Eg d call36 (HQ (f9.sl ox λb o hq=>d.at_ (Mt (Mt (Mt (Ma (Ml hq)))))) (g0.sl nu d.lb λb o hq=>d.at_ (Mt (Mt (Mt (Ml hq))))) p0) λw2 d=>V (nt Z) (ln (CI H Z (λn2 H=>?_) λn2 H=>?_))))))
 ·refine sg (Wh s1 (bS H λt3 i9 H=>?_))
  rcases t3 with y8 | z0
  ·have w:=d.size
   refine sI (.inl Z) (oL (args:=[c6,vI 11]) (caps:=#[]) _ _ d (Cb (Pb Pz) Cn) Z fy (by exact pj Z Z) (λhH hN q bo=>zo.mF (me.l (mz qk (⟨l5,l7⟩:lL) Y 11 _ _ ⟨hH,hN,q⟩ (d0.mono (Pl.mono _) (lm.refl _)) i9))) λr1 x5 u9 ch d a7 aE bp=>?_)
   obtain ⟨ac,al,o0,rfl⟩:=bp
   have d:=d.perm (Tb Tn)
   refine nO (nO (pu ?_))
   cases sj H
   exact nw.li ⟨_,_,_,Z,d.lZ (Kb Sn),(K.trans d6).trans a7,(O.trans az).trans aE,ST.lp d (mu.mem (Kb Sn)),⟨_,_,o0,Z⟩⟩
  have w:=d.size
  refine VE (eD d (Cb (Pb Pz) Cn) fy (λhh=>mq.mF (me.r (mz qk (⟨l5,l7⟩:lL) Y 11 _ _ hh (d0.mono (Pl.mono _) (lm.refl _)) i9))) ?_)
  rintro r1 z1 u9 ch d a7 aE ⟨g2,rfl⟩
  cases g2
  have d:=d.perm (Tb Tn)
  refine ln ?_
  have d:=d.kM (Kb (Db (Kb (Dr (Dr St)))))
  refine sg (V (lX (v:=vA C3) oP (lG cR cM (ED _ cM) kr)) ?_)
  have d:=d.perm (Nb (Pb Pz) Nz)
  refine VO (lz (vA C3) C3.toArray d e4 Z cI oc nb Z (λw3 d=>lt (ly (xG ?_))))
  cases sj H
  exact mR (v:=vA C3) Z e4 (kV d.has Mh C3 Z et cI) (nw.ri ⟨_,_,_,Z,d.lZ (Db (Kb Sn)),(K.trans d6).trans a7,(O.trans az).trans aE,ST.lp d (mu.mem (Db (Kb Sn))),vN,vN,Y,Z,Z,Sl.nil _ _ _,Sl.nil _ _ _,d0.mono (Pl.mono _) a7⟩)
 refine kg (V (kP k8 (kV d.has Mh [vI J.1,vI a1,vI a2,vS a3,b5,b6] Z et cI)) ?_)
 obtain ⟨c2,c7,rfl⟩:=f9.form
 obtain ⟨c3,c8,rfl⟩:=g0.form
 let g5:=C4 J.1 a1 a2 a3 c2 b0.length c7 c3 b2.length c8
 have d:=d.perm (Nb (Pb (Pb Pz)) Nz)
 refine VO (lz (vA g5) g5.toArray d e4 Z cI oc nb Z (λw4 d=>ln ?_))
 have d:=d.kM (Kb (Db St))
 refine lB (xG ?_)
 cases sj H
 refine mR (v:=vA g5) Z e4 (kV d.has Mh g5 Z et cI) ?_
 have d:=d.perm (Nr (Qb (Qb (Qr Qz))) Nz)
 obtain ⟨av,d,d7,ca,p1⟩:=ST.JS d f9 ox
 have d:=d.perm (Nr (Qb (Qb Qz)) Nz)
 obtain ⟨aw,d,d8,cb,p2⟩:=ST.xW nu d (g0.mono nu d7)
 exact nw.ri ⟨_,_,_,Z,d.lZ (Db (Kb Sn)),((K.trans d6).trans d7).trans d8,((O.trans az).trans ca).trans cb,ST.lp d (mu.mem (Db (Kb Sn))),.slice c2 b0.length c7,.slice c3 b2.length c8,Y,Z,Z,p1.mono (Pl.mono _) d8,p2,d0.mono (Pl.mono _) (d7.trans d8)⟩
theorem M7 {s:(Int ⊕ (lL×pd))} (L:nN qb ((qk,Ob #[q0,vB qO.over] 198)::((ql,Ob #[vI qH.Kind,vI qH.oN,vI qH.E,vS qH.Name,q1,q2] 69)::[])) qa) (B:Sl (Pl (lu .u8)) 1 qb q0 qO.b) (Y:Sl (Pl kR) 2 qb q1 qH.nU) (U:Sl mg 10 qb q2 qH.mC) (hm:DM qO qH=some s) :
  me false pg0 86 [vP qk,vP ql] qa qb ((qk,Ob #[q0,vB qO.over] 198)::((ql,Ob #[vI qH.Kind,vI qH.oN,vI qH.E,vS qH.Name,q1,q2] 69)::[])) s (λr v L1 h=>∃p q u,v=vT []∧L1=((qk,Ob #[p,vB r.1.over] 198)::((ql,Ob #[vI r.2.Kind,vI r.2.oN,vI r.2.E,vS r.2.Name,q,u] 69)::[]))∧Sl (Pl (lu .u8)) 1 h p r.1.b∧Sl (Pl kR) 2 h q r.2.nU∧Sl mg 10 h u r.2.mC) (λx c L1 h=>∃y z,c=[{ v:=zN 203 qk x,recovered:=false }]∧L1=((qk,Ob #[y,z] 198)::((ql,Ob #[vI qH.Kind,vI qH.oN,vI qH.E,vS qH.Name,q1,q2] 69)::[]))):=by
 have a:=ST.yJ (dd:=false) L
 refine tu (n:=5) func86 Z Z nb (kX (Wm (bS hm λw o hm=>?_)))
 rcases w with b7 | t
 ·have j:=a.size
  refine sI (.inl Z) (oL (args:=[vP qk]) (caps:=#[]) _ _ a (Cb Pz Cn) Z call87 (by exact sD Z) (λhH O i R=>me.l (LH ⟨hH,O,i⟩ (B.mono (Pl.mono _) (lm.refl _)) o)) λW3 W k L9 a D d g=>?_)
  obtain ⟨c2,c3,a3,rfl⟩:=g
  have a:=a.perm (Tb Tn)
  refine pu ?_
  cases sj hm
  exact nw.li ⟨_,_,_,Z,a.lZ (Kb (Kb Sn)),D,d,ST.lp a (mu.mem (Kb (Kb Sn))),⟨_,_,a3,Z⟩⟩
 have j:=a.size
 refine VE (eD a (Cb Pz Cn) call87 (λP=>me.r (LH P (B.mono (Pl.mono _) (lm.refl _)) o)) ?_)
 rintro W3 v7 k L9 a D d ⟨b9,c1,A,G,rfl,N,Q,a4⟩
 cases G
 have a:=a.perm (Tb Tn)
 obtain ⟨I,K,rfl⟩:=N.form
 let a0:Value:= .slice I t.1.nU.length K
 obtain ⟨J,M,rfl⟩:=Q.form
 let a2:Value:= .slice J t.1.mC.length M
 have a:=a.perm (Nb (Pb Pz) Nz)
 refine VO (FA (#[vI t.1.Kind,vI t.1.oN,vI t.1.E,vS t.1.Name,a0,a2]) a cI λT a=>lC (KY (te ?_)))
 cases sj hm
 exact rK Z (nw.ri ⟨_,_,_,Z,a.lZ (Sb (Pb Pz) (Kb Sn)),D,d,ST.lp a (mu.mem (Sb (Pb Pz) (Kb Sn))),A,a0,a2,Z,Z,a4,N,Q⟩)
theorem IA {r:(Int×pd)} (I:nN qb ((qk,Ob #[vI qH.Kind,vI qH.oN,vI qH.E,vS qH.Name,q1,q2] 69)::[]) qa) (N:Sl (Pl (lu .u8)) 1 qb q0 qo) (t:Sl (Pl kR) 2 qb q1 qH.nU) (k:Sl mg 10 qb q2 qH.mC) (hm:AJ qo qH=some r) :
  mq false pg0 80 [q0,.func (.func 86) #[] #[vP qk]] qa qb ((qk,Ob #[vI qH.Kind,vI qH.oN,vI qH.E,vS qH.Name,q1,q2] 69)::[]) (λv G D=>∃u B,v=vI r.1∧G=((qk,Ob #[vI r.2.Kind,vI r.2.oN,vI r.2.E,vS r.2.Name,u,B] 69)::[])∧Sl (Pl kR) 2 D u r.2.nU∧Sl mg 10 D B r.2.mC):=by
 refine bS hm λl d hm=>bS hm λs g hm=>?_
 cases sj hm
 refine mq.mono (Lg 86 #[vP qk] q0 qo l s (λr=>(r.1).b) qa I N d (λr G D=>∃u B,G=((qk,Ob #[vI r.2.Kind,vI r.2.oN,vI r.2.E,vS r.2.Name,u,B] 69)::[])∧Sl (Pl kR) 2 D u r.2.nU∧Sl mg 10 D B r.2.mC) (λx G D=>G=((qk,Ob #[vI qH.Kind,vI qH.oN,vI qH.E,vS qH.Name,q1,q2] 69)::[])) call86 λw μ' q o J hle j=>me.mono (M7 J j (t.mono (Pl.mono _) hle) (k.mono nu.mono hle) g) ?_ ?_) ?_
 ·rintro r v G D ⟨A,u,B,p,a,Q,I,J⟩; exact ⟨_,_,_,a,Q,u,B,Z,I,J⟩
 ·rintro x c G D ⟨y,z,n,a⟩; exact ⟨y,z,_,n,a,Z⟩
 rintro v G D i ⟨rfl,h⟩
 cases s with
 | inl x=>exact ⟨q1,q2,Z,h,t.mono (Pl.mono _) i,k.mono nu.mono i⟩
 | inr r=>obtain ⟨u,B,a,I,J⟩:=h; exact ⟨u,B,Z,a,I,J⟩
theorem UK {r:(pd×Int)} (Y:nN qb [] qa) (D:Sl (Pl (lu .u8)) 1 qb q0 qo) (hm:FW qo=some r) :
  mq false pg0 44 [q0] qa qb [] (λv T Q=>∃J N,v=vT [vA [vI r.1.Kind,vI r.1.oN,vI r.1.E,vS r.1.Name,J,N],vI r.2]∧T=[]∧Sl (Pl kR) 2 Q J r.1.nU∧Sl mg 10 Q N r.1.mC):=by
 refine ve Y 14 func44 Z (λd=>sg (VE (lq d cR λW2 z d=>Wa (lr (VE (lq d cR λW4 U d=>lr (Wm ?_)))))))
 refine V (zB (by exact sD Z) Z) (bS hm λa I hm=>?_)
 let s:Value:=vI a.2.E
 let q:Value:=vS a.2.Name
 let p:Value:=vI a.2.oN
 let o:Value:=vI a.2.Kind
 refine VE (eD d (Cb Pz Cn) call80 (λt=>IA t (D.mono (Pl.mono _) (lm.refl _)) (Sl.nil _ _ _) (Sl.nil _ _ _) I) ?_)
 rintro _ a5 w a2 d u h ⟨K,M,k,rfl,x,y⟩
 cases k
 have d:=d.perm (Tb Tn)
 refine Wa (lS (Wm (Wi Z (ln (CI hm Z (λG hm=>?_) λG hm=>?_)))))
 ·refine sg (V (lX (v:=vA C3) oP (lG cR cM (ED _ cM) kr)) (Wm ?_))
  have d:=d.perm (Nb (Pb Pz) Nz)
  refine VO (FA C3.toArray d cI λa3 d=>Wa (ln ?_))
  have d:=d.kM (Kb (Db St))
  refine lB (ly ?_)
  cases sj hm
  exact rY (v0:=vA C3) (v1:=vI a.1) Z Z (kV d.has Mh C3 Z et cI) Z ⟨_,_,_,Z,d.lZ Sn,u,h,ST.lp d (mu.mem Sn),vN,vN,Z,Z,Sl.nil _ _ _,Sl.nil _ _ _⟩
 refine kg (VA d Mh [o,p,s,q,K,M] et cI ?_)
 obtain ⟨c,i,rfl⟩:=x.form
 let n:Value:= .slice c a.2.nU.length i
 obtain ⟨g,j,rfl⟩:=y.form
 let a0:Value:= .slice g a.2.mC.length j
 let B:Value:=vA [o,p,s,q,n,a0]
 have d:=d.perm (Nb (Pb Pz) Nz)
 refine VO (lz B (#[o,p,s,q,n,a0]) d Z Z cI oc nb Z (λa4 d=>Wa (ln ?_)))
 have d:=d.kM (Kb (Db St))
 refine lB ?_
 cases sj hm
 exact rY (v0:=B) (v1:=vI 0) Z Z (kV d.has Mh [o,p,s,q,n,a0] Z et cI) Z ⟨_,_,_,Z,d.lZ Sn,u,h,ST.lp d (mu.mem Sn),n,a0,Z,Z,x,y⟩
theorem GQ {r:(Int×pd×Int)} (h0:nN qb [] qa) (a3:Sl (Pl (lu .u8)) 1 qb q0 qo) (hm:Ac qo=some r) :
  mq false pg0 24 [q0] qa qb [] (λv L1 μ1=>∃y1 y3,v=vT [vI r.1,vA [vI r.2.1.Kind,vI r.2.1.oN,vI r.2.1.E,vS r.2.1.Name,y1,y3],vI r.2.2]∧L1=[]∧Sl (Pl kR) 2 μ1 y1 r.2.1.nU∧Sl mg 10 μ1 y3 r.2.1.mC):=by
 refine ve h0 46 func24 Z (λd=>sg (Wa (VE (lq d cR λW2 O d=>Wa (lS (Wm (V (lT aT Z a3) (Wi Z (lC ?_)))))))))
 refine kW (CI hm Z (λd8 hm=>?_) λd8 hm=>?_)
 ·refine sg (V (lX (v:=vA C3) oP (lG cR cM (ED _ cM) kr)) (Wa (VO (FA C3.toArray d cI λW4 d=>Wa (lt (ly ?_))))))
  cases sj hm
  exact BB (v0:=vI 0) (v1:=vA C3) (v2:=vI 12) Z Z Z (kV d.has Mh C3 Z et cI) Z ⟨_,_,_,Z,d.lZ Sn,lm.refl _,Lo.refl,ST.lp d (mu.mem Sn),vN,vN,Z,Z,Sl.nil _ _ _,Sl.nil _ _ _⟩
 refine kg (Wm (bS hm λJ d9 hm=>?_))
 refine VE (eD d (bJ _) call41 (λhh=>mq.mF (Ps hh (a3.mono (Pl.mono _) (lm.refl _)) d9)) ?_ (L0:=[]))
 rintro _ g2 s f4 d D n ⟨T,e2,K,rfl,a4,c8⟩
 cases K
 refine Wm (Wx Z (Wx Z (Wx Z (Wx Z (Wa (Wa (Wa (Wa (ln (kY (CJ hm (λa7 E W=>∃U b7,lm s U∧Lo (keys []) qa s U∧ST false (keys []) qa W U ((O,Ol C3 69)::b7)∧E 3=vP O∧E 5=vI J.1∧E 6=T∧E 8=vI a7) (λa7 b4=>?_) ?_)))))))))))
 ·refine sg (Wm (Wi Z (Wm (LJ b4 (λa8 E W=>∃k Y,lm s k∧Lo (keys []) qa s k∧ST false (keys []) qa W k ((O,Ol C3 69)::Y)∧E 3=vP O∧E 5=vI J.1∧E 6=T∧E 8=vI J.2.2.2∧E 30=vB a8) 7 ?_ λa8 g I=>?_))))
  ·rintro f3 E W ⟨k,Y,G,p,d,Zq,a1,a2,c1,c2⟩ j
   refine ln (CI j c2 (λb3 j=>?_) λb3 j=>?_)
   ·refine kX (Wa (ln ?_))
    cases sj j
    exact ⟨k,_,G,p,d.kM,Zq,a1,a2,Z⟩
   refine kn ?_
   cases sj j
   exact ⟨k,_,G,p,d.kM,Zq,a1,a2,c1⟩
  refine bC g (λc g=>?_) (λc g=>?_)
  ·refine ug c (kT Z) (ug c (kT Z) (ug c (kT Z) (bS g λc9 b5 g=>sh c (rM d call43 (mM.mF (LF (a4.mono (Pl.mono _) d.lb) b5)) λe9 d2 d5 e7 d H A b2=>bS g λf2 b6 g=>sh c (Eg d call42 (lF.mF (AU (c8.mono (Pl.mono _) (H.trans d.lb)) (b2.sl (λ_=>rfl) λb o hq=>d.at_ (Ml hq)) b6)) λf0 d=>ug c (nt Z) (V (lh (cB c) Z) ?_))))))
   cases sj g
   exact I _ _ ⟨d5,_,H,A,d.kM (Dr St),Z,Z,Z,Z,Z⟩
  refine un c (un c (un c (un c (un c (un c (V (lg (cB c) Z) ?_))))))
  cases sj g
  exact I _ _ ⟨s,_,lm.refl _,Lo.refl,d.kM,Z,Z,Z,Z,Z⟩
 rintro e0 E W ⟨U,b7,z,q,d,B,d6,d7,b9⟩ i
 refine kY (sg (Wh b9 (Wi Z (ln (CI i Z (λc5 i=>?_) λc5 i=>?_)))))
 ·refine sg (V (lX (v:=vA C3) oP (lG cR cM (ED _ cM) kr)) (Wh b9 (Wa (VO (lz (vA C3) C3.toArray d B Z cI oc nb Z (λf6 d=>Wa (lt (ly ?_))))))))
  cases sj i
  exact BB (v0:=vI 0) (v1:=vA C3) (v2:=vI e0) Z Z B (kV d.has Mh C3 Z et cI) Z ⟨_,_,_,Z,d.lZ Sn,D.trans z,n.trans q,ST.lp d (mu.mem Sn),vN,vN,Z,Z,Sl.nil _ _ _,Sl.nil _ _ _⟩
 refine kg (Wh d7 (bS i λa c7 i=>?_))
 let d1:Value:=vI a.1.E
 let d0:Value:=vS a.1.Name
 let R:Value:=vI a.1.oN
 let P:Value:=vI a.1.Kind
 refine VE (eD d (bJ _) call44 (λhh=>UK hh (a4.mono (Pl.mono _) z) c7) ?_ (L0:=[]))
 rintro _ g3 g8 f5 d Q w ⟨g4,g7,M,rfl,a5,a6⟩
 cases M
 refine Wm (Wx Z (Wx Z (VE (lq d cR λf8 g1 d=>?_))))
 obtain ⟨t,x,rfl⟩:=a5.form
 let b8:Value:= .slice t a.1.nU.length x
 obtain ⟨u,y,rfl⟩:=a6.form
 let L:Value:= .slice u a.1.mC.length y
 let b0:=#[P,R,d1,d0,b8,L]
 let a9:Value:=vA [P,R,d1,d0,b8,L]
 refine VO (lz a9 b0 d Z Z cI oc nb Z (λf9 d=>Wa (lS (Wm (Wi Z (ln (CI i Z (λc6 i=>?_) λc6 i=>?_)))))))
 ·refine sg (V (lX (v:=vA C3) oP (lG cR cM (ED _ cM) kr)) (Wm (Wa ?_)))
  have d:=d.perm (Nb (Pb Pz) Nz)
  refine VO (lz (vA C3) C3.toArray d B Z cI oc nb Z (λg0 d=>Wa (ln ?_)))
  have d:=d.kM (Kb (Db St))
  refine lB (ly ?_)
  cases sj i
  exact BB (v0:=vI 0) (v1:=vA C3) (v2:=vI a.2) Z Z B (kV d.has Mh C3 Z et cI) Z ⟨_,_,_,Z,d.lZ Sn,(D.trans z).trans Q,(n.trans q).trans w,ST.lp d (mu.mem Sn),vN,vN,Z,Z,Sl.nil _ _ _,Sl.nil _ _ _⟩
 refine kn (kY ?_)
 have d:=d.drew
 have h:=d.has.kM (Kb Sn)
 refine mh h lM (X 0 Z h (kT d6) (XH 1 Z h (λ_ hS=>kP Z (kV hS Mh [P,R,d1,d0,b8,L] Z et cI)) (X 2 Z h (nz Z) ?_)))
 have d:=d.perm (Nb (Pb Pz) Nz)
 refine XO 3 Z (lz a9 b0 d B Z cI oc nb Z (λe8 d=>?_))
 have h:=d.has.kM (Db (Kb Sn))
 refine ⟨h,X 4 Z h (nz Z) (ml kr (kW ?_))⟩
 have d:=d.kM (Kb (Db St))
 refine lB ?_
 cases sj i
 exact BB (v0:=vI J.1) (v1:=a9) (v2:=vI 0) Z Z B (kV d.has Mh [P,R,d1,d0,b8,L] Z et cI) Z ⟨_,_,_,Z,d.lZ Sn,(D.trans z).trans Q,(n.trans q).trans w,ST.lp d (mu.mem Sn),b8,L,Z,Z,a5,a6⟩
theorem FH {i:nJ} (Q:nN qb [] qa) (c:Sl (Pl (lu .u8)) 1 qb q0 i.B) (hm:zd i=some qT) :
  mq false pg0 27 [vA [vB i.Out,q0]] qa qb [] (λv N T=>∃M,v=M∧N=[]∧Sl mg 10 T M qT):=by
 refine ve Q 17 func27 Z (λd=>sg ?_)
 obtain ⟨I,J,rfl⟩:=c.form
 refine VE (lY d Z (λW4 w d=>Wa (lr (Wf Ct (VB d Mh Z Z dm (bS hm λa K hm=>?_))))))
 refine VE (We d (bJ _) call24 (λhH n h o=>GQ ⟨hH,n,h⟩ (c.mono (Pl.mono _) (lm.refl _)) K) (λW7 a2 p U d u g B=>?_) (L0:=[]))
 obtain ⟨a3,a4,j,rfl,G,x⟩:=B
 replace j:=j.symm; subst j
 have d:=d.perm Tn
 refine Wm (Wx Z (Wx Z (Wx Z (VE (lq d cR λY s d=>Wa ?_)))))
 obtain ⟨y,z,rfl⟩:=G.form
 obtain ⟨k,t,rfl⟩:=x.form
 let a0:Value:= .slice k a.2.1.mC.length t
 refine VO (FA (#[vI a.2.1.Kind,vI a.2.1.oN,vI a.2.1.E,vS a.2.1.Name,.slice y a.2.1.nU.length z,a0]) d cI λq d=>Wa (ln ?_))
 have d:=d.kM (Kb (Db St))
 refine kY (sg (Wm (Wi Z (ln (CI hm Z (λD hm=>?_) λD hm=>?_)))))
 ·refine sg (Wa (ln ?_))
  have d:=d.kM (Db St)
  refine lB (ly ?_)
  cases sj hm
  exact ma (v:=vN) Z Z ⟨_,_,_,Z,d.lZ Sn,u,g,ST.lp d (mu.mem Sn),vN,Z,Z,Sl.nil _ _ _⟩
 refine kg (Wf uE (VB d Mh Z Z fH (Wa (ln ?_))))
 have d:=d.kM (Db St)
 refine lB ?_
 cases sj hm
 exact ma (v:=a0) Z Z ⟨_,_,_,Z,d.lZ Sn,u,g,ST.lp d (mu.mem Sn),a0,Z,Z,x⟩
theorem Up (u:Sl (Pl (lu .u8)) 1 (hp qa) q0 qo) (I:Sl (Pl (lu .u8)) 1 (hp qa) q1 qp) (J:Sl (Pl (lu .u8)) 1 (hp qa) q2 qq) (hm:F6 qo qp qq=some qt) :
  lF true pg0 96 [q0,q1,q2] qa (vB qt):=by
 refine cG 16 func96 Z (λd=>sg (Wa (lr (Wm (bS hm λq T hm=>VE (Eg d call67 (LD (u.mono (Pl.mono _) d.lb) T) λW3 d=>Wm (LJ hm (λB E W=>∃x z,lm (hp qa) x∧ST true lN qa W x z∧E 6=vB false∧E 15=vB B) 6 ?_ λB c t=>?_)))))))
 ·rintro a9 E W ⟨x,z,a3,d,n,Q⟩ K
  exact Wg Q (lt (rQ K d))
 refine bC c (λa c=>?_) (λa c=>?_)
 ·refine ug a (kT Z) (ug a (kT Z) (bS c λU M c=>sh a (rM d call34 (MH (u.mono (Pl.mono _) d.lb) (I.mono (Pl.mono _) d.lb) M) λa5 Y h a4 d k g H=>ug a (kT Z) (bS c λp N c=>sh a (Eg d call42 (AU (H.sl (λ_=>rfl) λb o i=>d.at_ (Ml i)) (J.mono (Pl.mono _) (k.trans d.lb)) N) λj d=>V (lh (cB a) Z) ?_)))))
  cases sj c
  exact t _ _ ⟨h,_,k,d.kM (Dr St),Z,Z⟩
 refine un a (un a (un a (un a (un a (V (lg (cB a) Z) ?_)))))
 cases sj c
 exact t _ _ ⟨hp qa,_,lm.refl _,d.kM,Z,Z⟩
theorem Ip (s:we nR (hp qa) q0 qN) (k:Sl (Pl (lu .u8)) 1 (hp qa) q1 qW.Tag) (hm:xP qN qW=some qc) :
  lF true pg0 50 [q0,vA [vI qW.kK.Kind,vS qW.kK.Head.kO,vS qW.kK.Head.Word,vS qW.kK.lV,vS qW.kK.B.kO,vS qW.kK.B.Word,vS qW.kK.C.kO,vS qW.kK.C.Word,vS qW.kK.lW,q1]] qa (vI qc):=by
 refine cG 27 func50 Z (λd=>sg ?_)
 obtain ⟨M,Q,rfl⟩:=k.form
 refine VE (lY d Z (λW4 w d=>Wa (lr (Wm (Wf rZ (VA d Mh (kQ qW.kK) bK aK (bS hm λL v hm=>?_)))))))
 refine VE (eD d (bJ _) call33 (λy=>E9 y (s.mono po (lm.refl _)) v) ?_ (L0:=[]))
 rintro _ c0 h b9 d a2 q ⟨a9,x,rfl,a3⟩
 cases x
 refine Wm (Wx Z (Wx Z (Wa (Wa (ln (kY (kY ?_)))))))
 have d:=d.drew
 have c:=d.has.kM (Kb Sn)
 refine mh c lM (X 0 Z c (kT Z) (X 1 Z c (lI Z Z Z) (X 2 Z c (kT Z) (PJ hm (λG E W=>∃z B,lm h z∧ST true lN qa W z ((w,Ol (C2 qW.kK.Kind qW.kK.Head.kO qW.kK.Head.Word qW.kK.lV qW.kK.B.kO qW.kK.B.Word qW.kK.C.kO qW.kK.C.Word qW.kK.lW M qW.Tag.length Q) 57)::B)∧E 6=vI L.2∧E 25=vB G) (bm 12 4095) 0 ?_ λG g u=>?_))))
 ·rintro b7 E W ⟨z,B,D,d,T,U⟩ j
  refine ml kr (kW ?_)
  have d:=d.kM (Db St)
  refine CI j U (λI j=>?_) (λI j=>?_)
  ·refine sg (Wa (lt (ly ?_)))
   cases sj j
   exact rP d
  exact kg (Wh T (Wa (lt (rQ j d))))
 refine bC g (λa g=>?_) (λa g=>?_)
 ·refine Xg 3 Z Z (cB a) c (kT Z) (Xg 4 Z Z (cB a) c (kU rZ Z) (uq 5 Z Z (cB a) c (λ_ n=>kP Z (kV n Mh (kQ qW.kK) Z bK aK)) (Xg 7 Z Z (cB a) c (kU Ak Z) (uq 8 Z Z (cB a) c (λ_ n=>kP Z (kZ n Mh Z dm)) (bS g λa4 J g=>Al 6 Z Z (cB a) (rM d call35 (BK qW.kK _ _  J) λP a5 t O d i p H=>?_))))))
  have c:=d.has.ob i (Dr (Kb Sn))
  refine ⟨c,bS g λY K g=>Al 9 Z Z (cB a) (Eg d call96 (Up (a3.mono (Pl.mono _) (i.trans d.lb)) (H.sl (λ_=>rfl) λb o A=>d.at_ (Ml A)) (k.mono (Pl.mono _) ((a2.trans i).trans d.lb)) K) λR d=>?_)⟩
  have c:=d.has.ob i (Dr (Kb Sn))
  refine ⟨c,Xg 10 Z Z (cB a) c (nt Z) (X 11 Z c (lh (cB a) Z) ?_)⟩
  cases sj g
  refine nr kr (u _ _ ⟨t,_,i,d.kM (Dr St),Z,Z⟩)
 refine Xn 3 Z Z (cB a) c (Xn 4 Z Z (cB a) c (Xn 5 Z Z (cB a) c (Xn 6 Z Z (cB a) c (Xn 7 Z Z (cB a) c (Xn 8 Z Z (cB a) c (Xn 9 Z Z (cB a) c (Xn 10 Z Z (cB a) c (X 11 Z c (lg (cB a) Z) ?_))))))))
 cases sj g
 refine nr kr (u _ _ ⟨h,_,lm.refl _,d.kM,Z,Z⟩)
theorem Jo (a:Sl (Pl kQ) 9 (hp qa) q0 qr) (hm:wJ qr=some qs) :
  mM true pg0 61 [q0] qa 55 kQ 9 qs:=by
 unfold wJ at hm
 refine yd 8 func61 Z (λd=>sg (Wa (lS (Wm ?_))))
 obtain ⟨y,B,rfl⟩:=a.form
 refine V (Fb aV Z Z) (ln ?_)
 rcases y with _ | z
 ·have u:=a.isNil
  replace hm:some []=some qs:=by rw [u] at hm; simpa [nF,maxLen] using hm
  refine Aw (rfl) (sg (Wa (lt (ly ?_))))
  cases sj hm
  exact ma (v:=vN) Z Z ⟨_,[],Z,d.oa (λp g=>by cases g) fb,lQ.nil _ _ _⟩
 ·refine sM (rfl) (kg (VE (lE (cs:=#[]) d oP (EP [] aV aK cO dc Z fb Z Z) λG k d=>Wm (bS hm λH t hm=>VE (oG (enc:=kQ) (v:= .slice (some ⟨k,0,none⟩) 0 0) (vs:= .slice (some z) qr.length B) (R:=[(k,Ob #[] 55)]) d mL dc ow aV od.1 od.2.1 Z od.2.2.1 od.2.2.2 Z Z (lQ.lit (l:=[]) (enc:=kQ) Z dc Z Z) (a.mono (Pl.mono _) d.lb) t λD x j d c=>Wa (lt ?_))))))
  cases sj hm
  exact ma (v:=x) Z Z ⟨_,j,Z,d.oa (λp g=>Ml g) c.nd,c⟩
theorem G8 {z:kK→Option Bool} (c:Sl (Pl kQ) 9 (hp qa) q0 qr) (B:DH pg0 q1 (hp qa) (λ(x:kK)=>[vA (kQ x)]) (λ(qc:Bool)=>vB qc) z) (hm:yS qr z=some qc) :
  lF false pg0 117 [q0,q1] qa (vI qc):=by
 refine cG 19 func117 Z (λd=>sg (Wa (lS (Wm (V (lT aV Z c) (Wm (ln (mJ 8 7 (λi j E W=>∃k,ST false lN qa W (hp qa) k∧E 0=q0∧E 1=q1∧sF z j i=some qc) c.len ⟨_,d.kM,Z,Z,hm⟩ ?_ ?_))))))))
 ·rintro K y M E W I ⟨⟨g,h⟩,k,d,t,u,a⟩
  refine sg (Wh g (Wa (lr (Wh u (Wh t (Wm (VQ (oz (enc:=kQ) (i:=(K:Int)) (x0:=y) aV aK Z Z c (aG _) I) λQ G=>V (kP Z (lA d.has G bK aK)) (bS a λT H a=>VE (RU y d B (lm.refl _) Z (sD Z) H λN d=>?_)))))))))
  refine ln (CI a Z (λD a=>?_) λD a=>?_)
  ·refine sg (Wm (Wa (lt (mG (ly (mG (ly ?_)))))))
   cases sj a
   exact rP d
  exact lU (lD (kW ⟨g,h,_,d.kM,t,u,a⟩))
 rintro E W ⟨⟨g,h⟩,k,d,t,u,a⟩
 exact kW (sg (Wa (lt (rQ a d))))
theorem G0 {f1:kK→Option Bool} (h0:nN qb (qf++[]) qa) (T:lQ 55 kQ 9 q0 qr qf) (a4:DH pg0 q1 qb (λ(x:kK)=>[vA (kQ x)]) (λ(qs:Bool)=>vB qs) f1) (hm:vU qr f1=some qs) :
  mX false pg0 60 [q0,q1] qa (qf++[]) (λv L1 W'=>∃s S2,v=s∧L1=(S2++[])∧lQ 55 kQ 9 s qs S2):=by
 refine Bl h0 42 func60 Z (λd=>sg (Wa (lr (Wm (Wm (bS hm λq d3 hm=>VE (Eg d call117 (G8 (T.sl mL λb o h=>d.at_ (Ml h)) (a4.mono d.lb) d3) λW3 d=>Wa (ln ?_))))))))
 refine kY (sg (Wm (Wi Z (ln (CI hm Z (λd2 hm=>?_) λd2 hm=>?_)))))
 ·refine sg (Wm (Wa (lt (ly ?_))))
  cases sj hm
  exact ma (v:=q0) Z Z ⟨_,_,Z,d.lZ (Kr Sn),q0,qf,Z,Z,T⟩
 refine kS (Wm (Wi Z (Wa (ln (mA (nQ (λm E W=>∃U I B D a2,ST false (keys (qf++[])) qa W qb (I++a2)∧E 0=q0∧E 1=q1∧E 5=vI B∧E 6=vI D∧lQ 55 kQ 9 q0 U I∧pO f1 m U B D=some qs) lP ⟨qr,qf,q,wi0 .i64 (q+1),_,d.kM,Z,Z,Z,Z,T,hm⟩ ?_))))))
 rintro m E W ⟨U,I,B,D,a2,d,y,Q,G,K,g,a⟩
 cases m with
 | zero=>rw [pO] at a; cases a
 | succ c8=>
  refine kY (sg (Wh K (Wh y (V (pe aV Z g) (Wi Z (ln (CI a Z (λw a=>?_) λw a=>?_)))))))
  ·refine kn (kY (CJ a (λY E W=>∃J a3,ST false (keys (qf++[])) qa W qb (J++a3)∧E 0=q0∧E 1=q1∧E 5=vI Y.2∧E 6=vI D∧lQ 55 kQ 9 q0 Y.1 J) (λY c=>?_) ?_))
   ·refine bg (Wh y (Wh K (bS c λk M c=>VQ (oF (i:=D) (x0:=k) aV aK Z Z g (lR M) (lK M)) λe4 O=>V (kP Z (uh d.has (λp h=>Ml h) g mL O (lK M) bK aK)) (VE (lq d cO λd7 e2 d=>VO (FA (h1:=ow k) ((kQ k).toArray) d aK λd8 d=>lr (Wh Q ?_)))))))
    refine VA d Mh (kQ k) bK aK (bS c λe6 R c=>VE (RU k d a4 (lm.refl _) Z (sD Z) R λd9 d=>V (nt Z) (ln (CI c Z (λA c=>?_) λA c=>?_))))
    ·refine sg (Wh y (Wh G (VA d Mh (kQ k) bK aK (bS c λd0 N c=>VQ (oF (i:=B) (x0:=d0) aV aK Z Z g (lR N) (lK N)) λe5 P=>?_))))
     have d:=d.perm (Nr (Qb Qz) Nz)
     refine VO (Av (u:=vA (kQ k)) (x1:=k)  d g mL ow Z Z Z P (lK N) aK λe0 c1 d t=>ln ?_)
     have d:=d.kM (Kr (Db St))
     refine kX (Wh G (Wi Z (Wa (lC (lD (kW ?_))))))
     cases sj c
     exact ⟨c1,_,d.kM,y,Q,Z,K,t⟩
    refine lU (lD (kW ?_))
    cases sj c
    exact ⟨I,_,d.kM (Db St),y,Q,G,K,g⟩
   rintro ⟨c7,c9⟩ E W ⟨J,a3,d,c3,c4,c5,c6,b6⟩ L
   exact kX (Wh c6 (Wi Z (Wa (ln ⟨c8,bB _,c7,J,c9,wi0 .i64 (D+1),_,d.kM,c3,c4,c5,Z,b6,L⟩))))
  refine nB (nv (nv (ry (kW (sg (Wh y (Wh G (bS a λ_ j a=>VQ (zA (i:=B) aV aK Z Z g (vp j) (vl j)) λe7 b7=>VO (CE (z:=K9)  d g mL ow aV cO b7 Z Z (λe1 c2 d a9=>lr (Wh y ?_)))))))))))
  refine Wh G (bS a λ_ n a=>VQ (Ff (i:=B) aV aK Z Z a9 mL (vp n) (vl n)) λa5 b9=>Wa (lt ?_))
  cases sj a
  exact ma (v:=a5) Z Z ⟨_,_,Z,d.lZ (Kr Sn),a5,c2,Z,Z,b9⟩
theorem Px (a:kK) (r:Bool) (w:World) (hm:FF a=some r) :
  lF true pg0 62 [vA (kQ a)] w (vB r):=by
 refine cG 6 func62 Z (λd=>sg (VE (lY d Z (λg j d=>Wa (lr (VA d Mh (kQ a) bK aK (bS hm λk c hm=>VE (Eg d call63 (xC a _ _  c) λi d=>V (nt Z) (Wa (lC ?_))))))))))
 refine kW ?_
 exact lB (rQ hm d)
theorem WO {t:(kK×kK)→Option Int} (u:nN qb (qf++[]) qa) (i:lQ 55 kQ 9 q0 qr qf) (j:Pa pg0 q1 qb (λ(x:(kK×kK))=>[vA (kQ x.1),vA (kQ x.2)]) (λ(qs:Int)=>vI qs) t) (hm:CS t qr=some qs) :
  mX true pg0 64 [q0,q1] qa (qf++[]) (λv z W'=>∃S,v=vT []∧z=(S++[])∧lQ 55 kQ 9 q0 qs S):=LL (P:=pg0) (ρ:=YI) abQ 9 bK aK kQ mL ow u.H u.S i j hm
end Go.Proofs.YtlfibegniofmjaaGreat
