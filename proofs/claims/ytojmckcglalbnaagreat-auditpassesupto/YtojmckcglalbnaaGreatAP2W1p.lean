/- a part of a proof of AuditPasses -/
import Derived.Test.YtojmckcglalbnaaGreatAP2Mp
import Derived.Test.YtojmckcglalbnaaGreatProg
set_option linter.all false
namespace Go.Proofs.YtojmckcglalbnaaGreat
open Go.IntKind renaming wrap → wi0
open Go.Proofs.Tryz renaming prog → pg0
open Go.RowKit
set_option maxRecDepth 10000
open Tryz
def aD:=@sizeOf36
def aI:=@sizeOf69
def aJ:=@underlying34
def aM:=@sizeOf33
def aN:=@underlying26
def aQ:=@underlying27
def aZ:=@underlying54
def bD:=@isAgg36
def bF:=@isAgg69
def bG:=@zeroValue36
def bJ:=@isAgg33
def bK:=@isAgg3
def bO:=@underlying79
def bR:=@sizeOf79
def bW:=@sizeOf71
def bX:=@underlying9
def cA:=@isAgg9
def cC:=@zeroValue79
def cF:=@underlying77
def cI:=@zeroValue69
def cO:=@underlying36
def cQ:=@zeroValue71
def cW:=@underlying23
def dn:=@sizeOf3
def dq:=@isAgg54
def du:=@underlying56
def dv:=@isAgg79
def dz:=@underlying69
def dA:=@sizeOf54
def dB:=@sizeOf174
def dC:=@underlying33
def dD:=@underlying52
def dE:=@zeroValue33
def dH:=@underlying53
def dI:=@zeroValue56
def dK:=@underlying63
def dL:=@underlying22
def dN:=@sizeOf29
def dO:=@sizeOf75
def dQ:=@isAgg26
def dT:=@underlying3
def dY:=@underlying71
def eo:=@sizeOf25
def eu:=@underlying101
def ey:=@underlying139
def ez:=@underlying157
def eA:=@sizeOf56
def eE:=@isAgg71
def eK:=@isAgg29
def eP:=@call132
def eS:=@underlying5
def eU:=@isAgg27
def fa:=@isAgg25
def fe:=@isAgg4
def fh:=@underlying230
def fi:=@eqGuardType69
def fj:=@underlying155
def fl:=@zeroValue75
def fp:=@underlying225
def fq:=@underlying235
def fx:=@sizeOf26
def fK:=@sizeOf9
def fL:=@zeroValue54
def fN:=@underlying114
def fO:=@underlying198
def fR:=@isAgg34
def fX:=@sizeOf27
def fY:=@zeroValue63
def gb:=@sizeOf5
def gd:=@call130
def gf:=@zeroValue235
def gh:=@zeroValue174
def gl:=@underlying296
def gm:=@underlying244
def gn:=@underlying327
def gp:=@eqGuardType33
def gq:=@underlying325
def gr:=@underlying223
def gC:=@zeroValue4
def gH:=@underlying75
def gI:=@underlying29
def gJ:=@underlying80
def gK:=@underlying96
def ig:=@underlying31
def ij:=@sizeOf4
def iq:=@underlying25
def ir:=@call167
def iu:=@sizeOf63
def iF:=@underlying239
def iG:=@isAgg77
def iH:=@underlying228
def iI:=@underlying306
def iJ:=@underlying148
def iN:=@zeroValue26
def iO:=@isAgg225
def iP:=@isAgg174
def jg:=@underlying67
def jh:=@underlying37
def ji:=@zeroValue157
def jj:=@call166
def jk:=@isAgg22
def jl:=@isAgg75
def jm:=@underlying49
def jI:=@sizeOf45
def jJ:=@zeroValue5
def jK:=@call79
def ke:=@call122
def kf:=@call104
def km:=@underlying299
def ko:=@underlying204
def kp:=@call49
def kq:=@underlying292
def kz:=@sizeOf67
def kA:=@sizeOf296
def kB:=@isAgg325
def kI:=@underlying39
def kJ:=@underlying86
def kK:=@call18
def kL:=@underlying44
def kM:=@call131
def kN:=@zeroValue296
def kV:=@zeroValue67
def kZ:=@isAgg45
def lb:=@isAgg56
def lf:=@isAgg96
variable {q0 q1 q2 q3 q4 q5 q6 q7 q8 q9:Value} {qa:World} {qb qc qd:Int} {qe:mO} {qf qg:Bool} {qh qi qj qk:Nat} {ql qm qn:List Int} {qo qp qq qr qs:LO} {qt qu:List lg} {qv qw:List lh} {qx:mD} {qy qz:Formula} {qA qB:List Formula} {qC:lg} {qD:Option mc} {qE qF:ByteArray} {qG:List oe} {qH qI:ow} {qJ:lm} {qK qL:lh} {qM:List (ByteArray×(List lg))} {qN:List (lh×(List (ByteArray×Bool)))} {qO:List (lh×(List lg))} {qP:List mT} {qQ:mf} {qR:pj} {qS:(Bool×(List Int))} {qT qU:List Signed} {qV:List np} {qW:List (ByteArray×Bool)} {qX:List (List Int)} {qY:List tT} {qZ:(Formula×Formula)→Option Int}
abbrev K0:lh:=⟨zS,zS⟩
abbrev K1:ByteArray:=⟨#[109,101]⟩
abbrev K2:ByteArray:=⟨#[120]⟩
abbrev K3:ByteArray:=⟨#[121]⟩
abbrev K4:sB:=⟨0,1⟩
abbrev K5:nq:=⟨0⟩
abbrev K7:lg:=⟨0,K0,zS,K0,K0,zS⟩
abbrev K9:lh:=⟨K2,K3⟩
abbrev K10:Formula:=⟨3,0,K0,[]⟩
abbrev Zf:lg:=⟨1,K9,K1,K0,K0,zS⟩
abbrev C1 (a d:Int) (g h:ByteArray) (i:Option Addr) (j k:Nat):List Value:=[.int .i64 a,.int .i64 d,.string g,.string h,.slice i j k]
abbrev C2 (v:ByteArray) (x:Option Addr) (y z:Nat) (I:Option Addr) (J M:Nat) (O:ByteArray) (P:Int) (Q:Option Addr) (a d:Nat) (g:Option Addr) (h i:Nat) (j:Option Addr) (k q:Nat) (s:Option Addr) (t u:Nat):List Value:=[.string v,.slice x y z,.slice I J M,.string O,.int .i64 P,.slice Q a d,.slice g h i,.slice j k q,.slice s t u]
abbrev C3 (g:Int) (h i j k q s t u:ByteArray) (v:Option Addr) (a d:Nat):List Value:=[.int .i64 g,.string h,.string i,.string j,.string k,.string q,.string s,.string t,.string u,.slice v a d]
abbrev C4:List Value:=[.int .i64 0,.int .i64 0,.int .i64 0,.string zS,.slice none 0 0,.slice none 0 0]
abbrev C5 (t:Int) (u v x y z I J M:ByteArray) (O:Option Addr) (a d:Nat) (g h:Int) (i j:ByteArray) (k:Option Addr) (q s:Nat):List Value:=[.int .i64 t,.string u,.string v,.string x,.string y,.string z,.string I,.string J,.string M,.slice O a d,.int .i64 g,.int .i64 h,.string i,.string j,.slice k q s]
abbrev C6 (a d g:Int) (h:ByteArray) (i:Option Addr) (j k:Nat) (q:Option Addr) (s t:Nat):List Value:=[.int .i64 a,.int .i64 d,.int .i64 g,.string h,.slice i j k,.slice q s t]
abbrev C7 (p0:ByteArray) (p1:Option Addr) (p2 p3:Nat) (p4:Option Addr) (p5 p6:Nat) (p7:ByteArray) (p8:Int) (p9:Option Addr) (a d:Nat) (g:Option Addr) (h i:Nat) (j:Option Addr) (k q:Nat) (s:Option Addr) (t u:Nat) (v:Bool) (x y z I J M O:Int) (P Q:ByteArray) (p31:Option Addr) (U W:Nat) (Y:Option Addr) (a1 a6:Nat) (a7:ByteArray) (a8:Option Addr) (aa ab:Nat) (ad:Option Addr) (ae af:Nat) (ag:ByteArray) (ah:Int) (ai:Option Addr) (aj an:Nat) (ao:Option Addr) (ap aq:Nat) (ar:Option Addr) (au av:Nat) (aw:Option Addr) (ay az:Nat) (aE:Bool) (b0 b1 b2 b3 b4 b5 b6:Int) (b7 b9:ByteArray) (ba:Option Addr) (bc bd:Nat) (bf:Option Addr) (bh bi:Nat) (bj bk:ByteArray) (bl:Option Addr) (bn bo:Nat):List Value:=[.string p0,.slice p1 p2 p3,.slice p4 p5 p6,.string p7,.int .i64 p8,.slice p9 a d,.slice g h i,.slice j k q,.slice s t u,.bool v,.int .i64 x,.int .i64 y,.int .i64 z,.int .i64 I,.int .i64 J,.int .i64 M,.int .i64 O,.string P,.string Q,.slice p31 U W,.slice Y a1 a6,.string a7,.slice a8 aa ab,.slice ad ae af,.string ag,.int .i64 ah,.slice ai aj an,.slice ao ap aq,.slice ar au av,.slice aw ay az,.bool aE,.int .i64 b0,.int .i64 b1,.int .i64 b2,.int .i64 b3,.int .i64 b4,.int .i64 b5,.int .i64 b6,.string b7,.string b9,.slice ba bc bd,.slice bf bh bi,.string bj,.string bk,.slice bl bn bo]
abbrev C8 (g h:ByteArray) (i j:Int) (k q:ByteArray) (s:Option Addr) (t u:Nat) (v:Option Addr) (a d:Nat):List Value:=[.string g,.string h,.int .i64 i,.int .i64 j,.string k,.string q,.slice s t u,.slice v a d]
abbrev C9:List Value:=[.int .i64 0,.string K0.lu,.string K0.Word,.string zS,.string K0.lu,.string K0.Word,.string K0.lu,.string K0.Word,.string zS,.slice none 0 0]
abbrev Dc:List Value:=[.int .i64 0,.int .i64 0,.string zS,.string zS,.slice none 0 0]
abbrev IV (a:ByteArray) (d:Option Addr) (g h:Nat) (i:Option Addr) (j k:Nat):List Value:=[.string a,.slice d g h,.slice i j k]
abbrev Zi:List Value:=[.int .i64 0,.string K0.lu,.string K0.Word,.string zS,.string K0.lu,.string K0.Word,.string K0.lu,.string K0.Word,.string zS,.slice none 0 0,.int .i64 0,.int .i64 0,.string zS,.string zS,.slice none 0 0]
abbrev Tp (a:Nat):List Value:=[.string K1,.slice (some ⟨a,0,none⟩) 1 1,.slice none 0 0]
abbrev Zj (a:Int):List Value:=[.int .i64 a,.int .i64 0,.int .i64 0,.string zS,.slice none 0 0,.slice none 0 0]
abbrev WW:List Value:=[.int .i64 3,.int .i64 0,.string zS,.string zS,.slice none 0 0]
abbrev C16 (a:Option Addr) (d g:Nat) (h:Option Addr) (i j:Nat):List Value:=[.int .i64 2,.int .i64 0,.int .i64 0,.string zS,.slice a d g,.slice h i j]
abbrev C17 (a:Option Addr) (d g:Nat):List Value:=[.int .i64 2,.int .i64 0,.int .i64 0,.string zS,.slice none 0 0,.slice a d g]
abbrev C18 (a:Int):List Value:=[.int .i64 a,.int .i64 0,.string zS,.string zS,.slice none 0 0]
abbrev ZC:List Value:=[.int .i64 2,.int .i64 0,.string zS,.string zS,.slice none 0 0]
abbrev Zp (a:Nat):List Value:=[.string K2,.slice (some ⟨a,0,none⟩) 1 1]
theorem lV:Tryz.prog.follows .mixedOrders=true:=by rfl
theorem QL:Tryz.prog.info? 3=some Tryz.t3∧Tryz.t3.zero=some (vI 0)∧Tryz.t3.size=1∧Tryz.t3.bytes=8:=⟨by kernel_rfl,by kernel_rfl,by kernel_rfl,by kernel_rfl⟩
theorem sL:Tryz.prog.info? 5=some Tryz.t5∧Tryz.t5.zero=some (.int .u8 0)∧Tryz.t5.size=1∧Tryz.t5.bytes=1:=⟨by kernel_rfl,by kernel_rfl,by kernel_rfl,by kernel_rfl⟩
theorem oI:Tryz.prog.info? 33=some Tryz.t33∧Tryz.t33.zero=some (vA [vS ⟨#[]⟩,vS ⟨#[]⟩])∧Tryz.t33.size=2∧Tryz.t33.bytes=32:=⟨by kernel_rfl,by kernel_rfl,by kernel_rfl,by kernel_rfl⟩
theorem uc:Tryz.prog.info? 36=some Tryz.t36∧Tryz.t36.zero=some (vA [vI 0,vI 0,vS ⟨#[]⟩,vS ⟨#[]⟩,vN])∧Tryz.t36.size=5∧Tryz.t36.bytes=72:=⟨by kernel_rfl,by kernel_rfl,by kernel_rfl,by kernel_rfl⟩
theorem FQ:Tryz.prog.info? 56=some Tryz.t56∧Tryz.t56.zero=some (vA [vB false,vN])∧Tryz.t56.size=2∧Tryz.t56.bytes=32:=⟨by kernel_rfl,by kernel_rfl,by kernel_rfl,by kernel_rfl⟩
theorem nZ:Tryz.prog.info? 69=some Tryz.t69∧Tryz.t69.zero=some (vA [vI 0,vS ⟨#[]⟩,vS ⟨#[]⟩,vS ⟨#[]⟩,vS ⟨#[]⟩,vS ⟨#[]⟩,vS ⟨#[]⟩,vS ⟨#[]⟩,vS ⟨#[]⟩])∧Tryz.t69.size=9∧Tryz.t69.bytes=136:=⟨by kernel_rfl,by kernel_rfl,by kernel_rfl,by kernel_rfl⟩
theorem Bk:Tryz.prog.info? 71=some Tryz.t71∧Tryz.t71.zero=some (vA [vI 0,vS ⟨#[]⟩,vS ⟨#[]⟩,vS ⟨#[]⟩,vS ⟨#[]⟩,vS ⟨#[]⟩,vS ⟨#[]⟩,vS ⟨#[]⟩,vS ⟨#[]⟩,vN])∧Tryz.t71.size=10∧Tryz.t71.bytes=160:=⟨by kernel_rfl,by kernel_rfl,by kernel_rfl,by kernel_rfl⟩
theorem LC:Tryz.prog.info? 174=some Tryz.t174∧Tryz.t174.zero=some (vA [vS ⟨#[]⟩,vS ⟨#[]⟩,vI 0,vI 0,vS ⟨#[]⟩,vS ⟨#[]⟩,vN,vN])∧Tryz.t174.size=8∧Tryz.t174.bytes=128:=⟨by kernel_rfl,by kernel_rfl,by kernel_rfl,by kernel_rfl⟩
theorem Ls:Tryz.prog.info? 296=some Tryz.t296∧Tryz.t296.zero=some (vA [vS ⟨#[]⟩,vS ⟨#[]⟩,vS ⟨#[]⟩])∧Tryz.t296.size=3∧Tryz.t296.bytes=48:=⟨by kernel_rfl,by kernel_rfl,by kernel_rfl,by kernel_rfl⟩
theorem zP:mC pg0 33 0 0:=lP dC Z fK tc Z
theorem Bo:mC pg0 33 1 1:=lP dC Z fK tc Z
theorem Yv:(Tryz.prog.fieldsOf 33).toList=(match Tryz.prog.underlying 33 with | some (.struct fs)=>fs.toList | _=>[]):=by rw [dC]; simp [Program.fieldsOf,dC]
theorem yR (d:Nat) (x y:lh) (W:World):(Op.equalIn (d+2) 33 (vA (lp x)) (vA (lp y))).run pg0 W= .ok (mq x y) W:=by
 rw [jH W (d+1) 33 _ _ (by kernel_rfl) Tryz.stoodInHeld33,Yv,dC]
 exact (uK tc (pJ cA Z) (pJ cA Z) (Zh bX _ _ _ _) (uK tc (pJ cA Z) (pJ cA Z) (Zh bX _ _ _ _) (G0 _ _ _)))
theorem Vt:∀fs,Tryz.prog.underlying 33=some (.struct fs)→∀w,(fs.mapM (λ(f:Field)=>do pure (f.offset,←sizeOf f.type)):Sem (Array (Nat×Nat))).run pg0 w= .ok #[(0,1),(1,1)] w:=by
 intro fs h w
 rw [dC] at h
 cases h
 kernel_rfl
theorem AD:mC pg0 69 0 0:=lP dz Z dn tc Z
theorem yv:mC pg0 69 1 1:=lP dz Z aM tc Z
theorem G2:mC pg0 69 2 3:=lP dz Z fK tc Z
theorem ub:mC pg0 69 3 4:=lP dz Z aM tc Z
theorem Dl:mC pg0 69 4 6:=lP dz Z aM tc Z
theorem Du:mC pg0 69 5 8:=lP dz Z fK tc Z
theorem Ys:(Tryz.prog.fieldsOf 69).toList=(match Tryz.prog.underlying 69 with | some (.struct fs)=>fs.toList | _=>[]):=by rw [dz]; simp [Program.fieldsOf,dz]
theorem Ao (d:Nat) (x y:lg) (W:World):(Op.equalIn (d+3) 69 (vA (lj x)) (vA (lj y))).run pg0 W= .ok (ni x y) W:=by
 rw [jH W (d+2) 69 _ _ (by kernel_rfl) Tryz.stoodInHeld69,Ys,dz]
 exact (uK tc (pJ bK Z) (pJ bK Z) (eqI dT _ _ _ _) (uK tc (Ba bJ aM Z) (Ba bJ aM Z) (yR _ x.Head y.Head W) (uK tc (pJ cA Z) (pJ cA Z) (Zh bX _ _ _ _) (uK tc (Ba bJ aM Z) (Ba bJ aM Z) (yR _ x.B y.B W) (uK tc (Ba bJ aM Z) (Ba bJ aM Z) (yR _ x.C y.C W) (uK tc (pJ cA Z) (pJ cA Z) (Zh bX _ _ _ _) (G0 _ _ _)))))))
theorem U2:∀fs,Tryz.prog.underlying 69=some (.struct fs)→∀w,(fs.mapM (λ(f:Field)=>do pure (f.offset,←sizeOf f.type)):Sem (Array (Nat×Nat))).run pg0 w= .ok #[(0,1),(1,2),(3,1),(4,2),(6,2),(8,1)] w:=by
 intro fs h w
 rw [dz] at h
 cases h
 kernel_rfl
theorem FU:mC pg0 31 0 0:=lP ig Z ij tc Z
theorem La:mC pg0 31 1 1:=lP ig Z dn tc Z
theorem Ww:mC pg0 31 2 2:=lP ig Z dn tc Z
theorem Xk:mC pg0 31 3 3:=lP ig Z dn tc Z
theorem V7:mC pg0 31 4 4:=lP ig Z dn tc Z
theorem W0:mC pg0 31 5 5:=lP ig Z dn tc Z
theorem YC:(Tryz.prog.fieldsOf 63).toList=(match Tryz.prog.underlying 63 with | some (.struct fs)=>fs.toList | _=>[]):=by rw [dK]; simp [Program.fieldsOf,dK]
theorem H5 (d:Nat) (x y:sB) (W:World):(Op.equalIn (d+2) 63 (vA (pk x)) (vA (pk y))).run pg0 W= .ok (Eu x y) W:=by
 rw [jH W (d+1) 63 _ _ (by kernel_rfl) Tryz.stoodInHeld63,YC,dK]
 exact (uK tc (pJ bK Z) (pJ bK Z) (eqI dT _ _ _ _) (uK tc (pJ kZ Z) (pJ kZ Z) (eqI underlying45 _ _ _ _) (G0 _ _ _)))
theorem OY:∀fs,Tryz.prog.underlying 63=some (.struct fs)→∀w,(fs.mapM (λ(f:Field)=>do pure (f.offset,←sizeOf f.type)):Sem (Array (Nat×Nat))).run pg0 w= .ok #[(0,1),(1,1)] w:=by
 intro fs h w
 rw [dK] at h
 cases h
 kernel_rfl
theorem OU:mC pg0 296 0 0:=lP gl Z aM tc Z
theorem GL:mC pg0 296 1 2:=lP gl Z fK tc Z
theorem Zb:∀fs,Tryz.prog.underlying 296=some (.struct fs)→∀w,(fs.mapM (λ(f:Field)=>do pure (f.offset,←sizeOf f.type)):Sem (Array (Nat×Nat))).run pg0 w= .ok #[(0,2),(2,1)] w:=by
 intro fs h w
 rw [gl] at h
 cases h
 kernel_rfl
theorem Uo:mC pg0 299 0 0:=lP km Z jI tc Z
theorem acs:∀fs,Tryz.prog.underlying 299=some (.struct fs)→∀w,(fs.mapM (λ(f:Field)=>do pure (f.offset,←sizeOf f.type)):Sem (Array (Nat×Nat))).run pg0 w= .ok #[(0,1)] w:=by
 intro fs h w
 rw [km] at h
 cases h
 kernel_rfl
theorem sP:mC pg0 71 0 0:=lP dY Z aI tc Z
theorem B9:mC pg0 71 1 9:=lP dY Z dA tc Z
theorem OG:∀fs,Tryz.prog.underlying 71=some (.struct fs)→∀w,(fs.mapM (λ(f:Field)=>do pure (f.offset,←sizeOf f.type)):Sem (Array (Nat×Nat))).run pg0 w= .ok #[(0,9),(9,1)] w:=by
 intro fs h w
 rw [dY] at h
 cases h
 kernel_rfl
theorem zb:mC pg0 36 0 0:=lP cO Z dn tc Z
theorem ES:mC pg0 36 1 1:=lP cO Z dn tc Z
theorem Dz:mC pg0 36 2 2:=lP cO Z aM tc Z
theorem xQ:mC pg0 36 3 4:=lP cO Z sizeOf34 tc Z
theorem Hj:∀fs,Tryz.prog.underlying 36=some (.struct fs)→∀w,(fs.mapM (λ(f:Field)=>do pure (f.offset,←sizeOf f.type)):Sem (Array (Nat×Nat))).run pg0 w= .ok #[(0,1),(1,1),(2,2),(4,1)] w:=by
 intro fs h w
 rw [cO] at h
 cases h
 kernel_rfl
theorem AF:mC pg0 75 0 0:=lP gH Z bW tc Z
theorem QY:mC pg0 75 1 10:=lP gH Z aD tc Z
theorem abP:∀fs,Tryz.prog.underlying 75=some (.struct fs)→∀w,(fs.mapM (λ(f:Field)=>do pure (f.offset,←sizeOf f.type)):Sem (Array (Nat×Nat))).run pg0 w= .ok #[(0,10),(10,5)] w:=by
 intro fs h w
 rw [gH] at h
 cases h
 kernel_rfl
theorem IK:mC pg0 174 0 0:=lP underlying174 Z aM tc Z
theorem IU:mC pg0 174 1 2:=lP underlying174 Z aD tc Z
theorem GN:mC pg0 174 2 7:=lP underlying174 Z fx tc Z
theorem RB:mC pg0 25 0 0:=lP iq Z fK tc Z
theorem Dm:mC pg0 25 1 1:=lP iq Z sizeOf22 tc Z
theorem IN:mC pg0 25 2 2:=lP iq Z sizeOf23 tc Z
theorem adj:∀fs,Tryz.prog.underlying 25=some (.struct fs)→∀w,(fs.mapM (λ(f:Field)=>do pure (f.offset,←sizeOf f.type)):Sem (Array (Nat×Nat))).run pg0 w= .ok #[(0,1),(1,1),(2,1)] w:=by
 intro fs h w
 rw [iq] at h
 cases h
 kernel_rfl
theorem Bl:mC pg0 29 0 0:=lP gI Z eo tc Z
theorem IF:mC pg0 29 1 3:=lP gI Z fK tc Z
theorem Nn:mC pg0 29 2 4:=lP gI Z dn tc Z
theorem Bw:mC pg0 29 3 5:=lP gI Z fx tc Z
theorem EF:mC pg0 29 4 6:=lP gI Z fx tc Z
theorem FK:mC pg0 29 5 7:=lP gI Z fX tc Z
theorem F2:mC pg0 29 6 8:=lP gI Z fX tc Z
theorem Ns:mC pg0 67 0 0:=lP jg Z fK tc Z
theorem NI:mC pg0 67 1 1:=lP jg Z dA tc Z
theorem adf:∀fs,Tryz.prog.underlying 67=some (.struct fs)→∀w,(fs.mapM (λ(f:Field)=>do pure (f.offset,←sizeOf f.type)):Sem (Array (Nat×Nat))).run pg0 w= .ok #[(0,1),(1,1)] w:=by
 intro fs h w
 rw [jg] at h
 cases h
 kernel_rfl
theorem KN:mC pg0 39 0 0:=lP kI Z dN tc Z
theorem abx:mC pg0 39 1 9:=lP kI Z sizeOf31 tc Z
theorem WO:mC pg0 39 2 15:=lP kI Z aD tc Z
theorem WG:mC pg0 39 3 20:=lP kI Z sizeOf37 tc Z
theorem abd:mC pg0 60 0 0:=lP underlying60 Z ij tc Z
theorem RW:mC pg0 60 1 1:=lP underlying60 Z dA tc Z
theorem FG:mC pg0 42 0 0:=lP underlying42 Z sizeOf39 tc Z
theorem VW:mC pg0 42 3 44:=lP underlying42 Z sizeOf40 tc Z
theorem Sy:mC pg0 86 0 0:=lP kJ Z sizeOf84 tc Z
theorem adg:∀fs,Tryz.prog.underlying 86=some (.struct fs)→∀w,(fs.mapM (λ(f:Field)=>do pure (f.offset,←sizeOf f.type)):Sem (Array (Nat×Nat))).run pg0 w= .ok #[(0,1)] w:=by
 intro fs h w
 rw [kJ] at h
 cases h
 kernel_rfl
theorem GJ:mC pg0 139 0 0:=lP ey Z ij tc Z
theorem Lk:mC pg0 139 1 1:=lP ey Z ij tc Z
theorem E7:mC pg0 139 2 2:=lP ey Z dn tc Z
theorem TC:mC pg0 139 3 3:=lP ey Z dn tc Z
theorem ZF:mC pg0 139 4 4:=lP ey Z dn tc Z
theorem Lu:mC pg0 139 5 5:=lP ey Z dn tc Z
theorem IC:mC pg0 139 6 6:=lP ey Z dn tc Z
theorem Lr:mC pg0 139 7 7:=lP ey Z dA tc Z
theorem Ul:mC pg0 139 8 8:=lP ey Z dn tc Z
theorem aci:∀fs,Tryz.prog.underlying 139=some (.struct fs)→∀w,(fs.mapM (λ(f:Field)=>do pure (f.offset,←sizeOf f.type)):Sem (Array (Nat×Nat))).run pg0 w= .ok #[(0,1),(1,1),(2,1),(3,1),(4,1),(5,1),(6,1),(7,1),(8,1)] w:=by
 intro fs h w
 rw [ey] at h
 cases h
 kernel_rfl
theorem Ea:mC pg0 101 0 0:=lP eu Z dN tc Z
theorem AN:mC pg0 101 1 9:=lP eu Z sizeOf31 tc Z
theorem TR:mC pg0 101 2 15:=lP eu Z aD tc Z
theorem aah:mC pg0 101 3 20:=lP eu Z sizeOf44 tc Z
theorem EY:mC pg0 101 4 21:=lP eu Z sizeOf96 tc Z
theorem Ly:mC pg0 101 5 22:=lP eu Z dn tc Z
theorem aae:mC pg0 101 6 23:=lP eu Z jI tc Z
theorem LD:mC pg0 101 7 24:=lP eu Z ij tc Z
theorem OL:mC pg0 101 8 25:=lP eu Z dn tc Z
theorem Us:mC pg0 101 9 26:=lP eu Z dn tc Z
theorem acq:∀fs,Tryz.prog.underlying 101=some (.struct fs)→∀w,(fs.mapM (λ(f:Field)=>do pure (f.offset,←sizeOf f.type)):Sem (Array (Nat×Nat))).run pg0 w= .ok #[(0,9),(9,6),(15,5),(20,1),(21,1),(22,1),(23,1),(24,1),(25,1),(26,1)] w:=by
 intro fs h w
 rw [eu] at h
 cases h
 kernel_rfl
theorem Oo:mC pg0 56 0 0:=lP du Z ij tc Z
theorem RT:mC pg0 56 1 1:=lP du Z dA tc Z
theorem Jj:∀fs,Tryz.prog.underlying 56=some (.struct fs)→∀w,(fs.mapM (λ(f:Field)=>do pure (f.offset,←sizeOf f.type)):Sem (Array (Nat×Nat))).run pg0 w= .ok #[(0,1),(1,1)] w:=by
 intro fs h w
 rw [du] at h
 cases h
 kernel_rfl
theorem Aa:mC pg0 79 0 0:=lP bO Z dn tc Z
theorem Er:mC pg0 79 1 1:=lP bO Z dn tc Z
theorem ER:mC pg0 79 2 2:=lP bO Z dn tc Z
theorem FO:mC pg0 79 3 3:=lP bO Z fK tc Z
theorem Cf:mC pg0 79 4 4:=lP bO Z fX tc Z
theorem AM:mC pg0 79 5 5:=lP bO Z sizeOf77 tc Z
theorem Be:∀fs,Tryz.prog.underlying 79=some (.struct fs)→∀w,(fs.mapM (λ(f:Field)=>do pure (f.offset,←sizeOf f.type)):Sem (Array (Nat×Nat))).run pg0 w= .ok #[(0,1),(1,1),(2,1),(3,1),(4,1),(5,1)] w:=by
 intro fs h w
 rw [bO] at h
 cases h
 kernel_rfl
theorem TP:mC pg0 114 0 0:=lP fN Z eo tc Z
theorem aaj:mC pg0 114 1 3:=lP fN Z fK tc Z
theorem Pm:mC pg0 114 3 5:=lP fN Z fx tc Z
theorem Pg:mC pg0 114 4 6:=lP fN Z dn tc Z
theorem Tz:mC pg0 114 5 7:=lP fN Z dA tc Z
theorem acC:∀fs,Tryz.prog.underlying 114=some (.struct fs)→∀w,(fs.mapM (λ(f:Field)=>do pure (f.offset,←sizeOf f.type)):Sem (Array (Nat×Nat))).run pg0 w= .ok #[(0,3),(3,1),(4,1),(5,1),(6,1),(7,1)] w:=by
 intro fs h w
 rw [fN] at h
 cases h
 kernel_rfl
theorem CR:mC pg0 157 0 0:=lP ez Z dA tc Z
theorem N1:∀fs,Tryz.prog.underlying 157=some (.struct fs)→∀w,(fs.mapM (λ(f:Field)=>do pure (f.offset,←sizeOf f.type)):Sem (Array (Nat×Nat))).run pg0 w= .ok #[(0,1)] w:=by
 intro fs h w
 rw [ez] at h
 cases h
 kernel_rfl
theorem CO:mC pg0 230 0 0:=lP fh Z sizeOf225 tc Z
theorem OV:mC pg0 230 1 1:=lP fh Z fx tc Z
theorem Ux:mC pg0 230 2 2:=lP fh Z sizeOf226 tc Z
theorem OK:mC pg0 230 3 3:=lP fh Z sizeOf227 tc Z
theorem GI:mC pg0 230 4 4:=lP fh Z sizeOf228 tc Z
theorem Lm:mC pg0 230 5 5:=lP fh Z dn tc Z
theorem ace:∀fs,Tryz.prog.underlying 230=some (.struct fs)→∀w,(fs.mapM (λ(f:Field)=>do pure (f.offset,←sizeOf f.type)):Sem (Array (Nat×Nat))).run pg0 w= .ok #[(0,1),(1,1),(2,1),(3,1),(4,1),(5,1)] w:=by
 intro fs h w
 rw [fh] at h
 cases h
 kernel_rfl
theorem CA:mC pg0 239 0 0:=lP iF Z dA tc Z
theorem O2:mC pg0 239 1 1:=lP iF Z ij tc Z
theorem acb:∀fs,Tryz.prog.underlying 239=some (.struct fs)→∀w,(fs.mapM (λ(f:Field)=>do pure (f.offset,←sizeOf f.type)):Sem (Array (Nat×Nat))).run pg0 w= .ok #[(0,1),(1,1)] w:=by
 intro fs h w
 rw [iF] at h
 cases h
 kernel_rfl
theorem aap:mC pg0 244 0 0:=lP gm Z sizeOf204 tc Z
theorem aaA:mC pg0 244 1 1:=lP gm Z jI tc Z
theorem acf:∀fs,Tryz.prog.underlying 244=some (.struct fs)→∀w,(fs.mapM (λ(f:Field)=>do pure (f.offset,←sizeOf f.type)):Sem (Array (Nat×Nat))).run pg0 w= .ok #[(0,1),(1,1)] w:=by
 intro fs h w
 rw [gm] at h
 cases h
 kernel_rfl
theorem Uh:mC pg0 327 0 0:=lP gn Z fx tc Z
theorem Ph:mC pg0 327 1 1:=lP gn Z sizeOf324 tc Z
theorem TK:mC pg0 327 2 2:=lP gn Z sizeOf235 tc Z
theorem Fk:mC pg0 327 3 3:=lP gn Z sizeOf325 tc Z
theorem acT:∀fs,Tryz.prog.underlying 327=some (.struct fs)→∀w,(fs.mapM (λ(f:Field)=>do pure (f.offset,←sizeOf f.type)):Sem (Array (Nat×Nat))).run pg0 w= .ok #[(0,1),(1,1),(2,1),(3,1)] w:=by
 intro fs h w
 rw [gn] at h
 cases h
 kernel_rfl
def mR:tu Signed:=λμ ys x=>∃(v0:Value),ys=[.int .i64 x.lg.Kind,.string x.lg.Head.lu,.string x.lg.Head.Word,.string x.lg.nj,.string x.lg.B.lu,.string x.lg.B.Word,.string x.lg.C.lu,.string x.lg.C.Word,.string x.lg.mV,v0]∧Sl (Pl (lJ .u8)) 1 μ v0 x.Tag
theorem mR.out {μ:mO} {ys:List Value} {x:Signed} (h:mR μ ys x):∃(v0:Value),ys=[.int .i64 x.lg.Kind,.string x.lg.Head.lu,.string x.lg.Head.Word,.string x.lg.nj,.string x.lg.B.lu,.string x.lg.B.Word,.string x.lg.C.lu,.string x.lg.C.Word,.string x.lg.mV,v0]∧Sl (Pl (lJ .u8)) 1 μ v0 x.Tag:=h
theorem mR.mk {μ:mO} {ys:List Value} {x:Signed} (h:∃(v0:Value),ys=[.int .i64 x.lg.Kind,.string x.lg.Head.lu,.string x.lg.Head.Word,.string x.lg.nj,.string x.lg.B.lu,.string x.lg.B.Word,.string x.lg.C.lu,.string x.lg.C.Word,.string x.lg.mV,v0]∧Sl (Pl (lJ .u8)) 1 μ v0 x.Tag):mR μ ys x:=h
theorem ra:Deep mR 10 where
 mono:=by rintro _ _ _ _ d ⟨v0,rfl,a⟩; exact ⟨v0,Z,a.mono (Pl.mono _) d⟩
 len:=by rintro _ _ _ ⟨v0,rfl,a⟩; rfl
 one:=by
  rintro _ _ _ ⟨v0,rfl,a⟩
  intro u hu; simp only [aW,cV,fc] at hu; rcases hu with rfl | rfl | rfl | rfl | rfl | rfl | rfl | rfl | rfl | rfl
  ·rfl
  ·rfl
  ·rfl
  ·rfl
  ·rfl
  ·rfl
  ·rfl
  ·rfl
  ·rfl
  ·exact a.BS
def Dv:Nat→tu Formula
 | 0=>λ_ _ _=>False
 | n+1=>λμ ys x=>∃(v0:Value),ys=[.int .i64 x.Op,.int .i64 x.K,.string x.lh.lu,.string x.lh.Word,v0]∧Sl (Dv n) 5 μ v0 x.Kids
def lx:tu Formula:=λμ ys x=>∃n,Dv n μ ys x
theorem Ki:∀n,NE (Dv n)
 | 0=>λ_ _ _ _ _ h=>h
 | n+1=>by rintro _ _ _ _ d ⟨v0,rfl,a⟩; exact ⟨v0,Z,a.mono (Ki n) d⟩
theorem NO:∀n m (μ:mO) (ys:List Value) (x:Formula),n≤m→Dv n μ ys x→Dv m μ ys x
 | 0,_,_,_,_,_,h=>h.elim
 | n+1,0,_,_,_,a,_=>absurd a rs
 | n+1,m+1,μ,ys,x,a,h=>by
  obtain ⟨v0,rfl,d⟩:=h
  exact ⟨v0,Z,d.imp λys x h=>NO n m μ ys x rs h⟩
theorem lx.out {μ:mO} {ys:List Value} {x:Formula} (h:lx μ ys x):∃(v0:Value),ys=[.int .i64 x.Op,.int .i64 x.K,.string x.lh.lu,.string x.lh.Word,v0]∧Sl lx 5 μ v0 x.Kids:=by
 obtain ⟨n,h⟩:=h
 cases n with
 | zero=>exact h.elim
 | succ n=>
  obtain ⟨v0,rfl,a⟩:=h
  exact ⟨v0,Z,a.imp λys x h=>⟨n,h⟩⟩
theorem lx.mk {μ:mO} {ys:List Value} {x:Formula} (h:∃(v0:Value),ys=[.int .i64 x.Op,.int .i64 x.K,.string x.lh.lu,.string x.lh.Word,v0]∧Sl lx 5 μ v0 x.Kids):lx μ ys x:=by
 obtain ⟨v0,rfl,d⟩:=h
 obtain ⟨n,i⟩:=d.acL (λ_ _ h=>h) (λa b ys x g h=>NO a b _ ys x g h)
 exact ⟨n+1,v0,Z,i⟩
theorem mQ:Deep lx 5 where
 mono:=λ_ _ _ _ d ⟨n,h⟩=>⟨n,Ki n _ _ _ _ d h⟩
 len:=by rintro _ _ _ h; obtain ⟨v0,rfl,a⟩:=h.out; rfl
 one:=by
  rintro _ _ _ h
  obtain ⟨v0,rfl,a⟩:=h.out
  intro u hu; simp only [aW,cV,fc] at hu; rcases hu with rfl | rfl | rfl | rfl | rfl
  ·rfl
  ·rfl
  ·rfl
  ·rfl
  ·exact a.BS
def lU:tu np:=λμ ys x=>∃(v0:Value) (v1:Value),ys=[.int .i64 x.Signed.lg.Kind,.string x.Signed.lg.Head.lu,.string x.Signed.lg.Head.Word,.string x.Signed.lg.nj,.string x.Signed.lg.B.lu,.string x.Signed.lg.B.Word,.string x.Signed.lg.C.lu,.string x.Signed.lg.C.Word,.string x.Signed.lg.mV,v0,.int .i64 x.lB.Op,.int .i64 x.lB.K,.string x.lB.lh.lu,.string x.lB.lh.Word,v1]∧Sl (Pl (lJ .u8)) 1 μ v0 x.Signed.Tag∧Sl lx 5 μ v1 x.lB.Kids
theorem lU.out {μ:mO} {ys:List Value} {x:np} (h:lU μ ys x):∃(v0:Value) (v1:Value),ys=[.int .i64 x.Signed.lg.Kind,.string x.Signed.lg.Head.lu,.string x.Signed.lg.Head.Word,.string x.Signed.lg.nj,.string x.Signed.lg.B.lu,.string x.Signed.lg.B.Word,.string x.Signed.lg.C.lu,.string x.Signed.lg.C.Word,.string x.Signed.lg.mV,v0,.int .i64 x.lB.Op,.int .i64 x.lB.K,.string x.lB.lh.lu,.string x.lB.lh.Word,v1]∧Sl (Pl (lJ .u8)) 1 μ v0 x.Signed.Tag∧Sl lx 5 μ v1 x.lB.Kids:=h
theorem lU.mk {μ:mO} {ys:List Value} {x:np} (h:∃(v0:Value) (v1:Value),ys=[.int .i64 x.Signed.lg.Kind,.string x.Signed.lg.Head.lu,.string x.Signed.lg.Head.Word,.string x.Signed.lg.nj,.string x.Signed.lg.B.lu,.string x.Signed.lg.B.Word,.string x.Signed.lg.C.lu,.string x.Signed.lg.C.Word,.string x.Signed.lg.mV,v0,.int .i64 x.lB.Op,.int .i64 x.lB.K,.string x.lB.lh.lu,.string x.lB.lh.Word,v1]∧Sl (Pl (lJ .u8)) 1 μ v0 x.Signed.Tag∧Sl lx 5 μ v1 x.lB.Kids):lU μ ys x:=h
theorem uE:Deep lU 15 where
 mono:=by rintro _ _ _ _ d ⟨v0,v1,rfl,a,h1⟩; exact ⟨v0,v1,Z,a.mono (Pl.mono _) d,h1.mono mQ.mono d⟩
 len:=by rintro _ _ _ ⟨v0,v1,rfl,a,h1⟩; rfl
 one:=by
  rintro _ _ _ ⟨v0,v1,rfl,a,h1⟩
  intro u hu; simp only [aW,cV,fc] at hu; rcases hu with rfl | rfl | rfl | rfl | rfl | rfl | rfl | rfl | rfl | rfl | rfl | rfl | rfl | rfl | rfl
  ·rfl
  ·rfl
  ·rfl
  ·rfl
  ·rfl
  ·rfl
  ·rfl
  ·rfl
  ·rfl
  ·exact a.BS
  ·rfl
  ·rfl
  ·rfl
  ·rfl
  ·exact h1.BS
def mH:tu oe:=λμ ys x=>∃(v0:Value) (v1:Value),ys=[.string x.lh.lu,.string x.lh.Word,.int .i64 x.lB.Op,.int .i64 x.lB.K,.string x.lB.lh.lu,.string x.lB.lh.Word,v0,v1]∧Sl lx 5 μ v0 x.lB.Kids∧Sl (Pl lj) 9 μ v1 x.nP
theorem mH.out {μ:mO} {ys:List Value} {x:oe} (h:mH μ ys x):∃(v0:Value) (v1:Value),ys=[.string x.lh.lu,.string x.lh.Word,.int .i64 x.lB.Op,.int .i64 x.lB.K,.string x.lB.lh.lu,.string x.lB.lh.Word,v0,v1]∧Sl lx 5 μ v0 x.lB.Kids∧Sl (Pl lj) 9 μ v1 x.nP:=h
theorem mH.mk {μ:mO} {ys:List Value} {x:oe} (h:∃(v0:Value) (v1:Value),ys=[.string x.lh.lu,.string x.lh.Word,.int .i64 x.lB.Op,.int .i64 x.lB.K,.string x.lB.lh.lu,.string x.lB.lh.Word,v0,v1]∧Sl lx 5 μ v0 x.lB.Kids∧Sl (Pl lj) 9 μ v1 x.nP):mH μ ys x:=h
theorem yI:Deep mH 8 where
 mono:=by rintro _ _ _ _ d ⟨v0,v1,rfl,a,h1⟩; exact ⟨v0,v1,Z,a.mono mQ.mono d,h1.mono (Pl.mono _) d⟩
 len:=by rintro _ _ _ ⟨v0,v1,rfl,a,h1⟩; rfl
 one:=by
  rintro _ _ _ ⟨v0,v1,rfl,a,h1⟩
  intro u hu; simp only [aW,cV,fc] at hu; rcases hu with rfl | rfl | rfl | rfl | rfl | rfl | rfl | rfl
  ·rfl
  ·rfl
  ·rfl
  ·rfl
  ·rfl
  ·rfl
  ·exact a.BS
  ·exact h1.BS
def za:tu Key:=λμ ys x=>∃(v0:Value),ys=[.string x.nj,v0]∧Sl (Pl (lJ .u8)) 1 μ v0 x.Key
theorem za.out {μ:mO} {ys:List Value} {x:Key} (h:za μ ys x):∃(v0:Value),ys=[.string x.nj,v0]∧Sl (Pl (lJ .u8)) 1 μ v0 x.Key:=h
theorem za.mk {μ:mO} {ys:List Value} {x:Key} (h:∃(v0:Value),ys=[.string x.nj,v0]∧Sl (Pl (lJ .u8)) 1 μ v0 x.Key):za μ ys x:=h
theorem RH:Deep za 2 where
 mono:=by rintro _ _ _ _ d ⟨v0,rfl,a⟩; exact ⟨v0,Z,a.mono (Pl.mono _) d⟩
 len:=by rintro _ _ _ ⟨v0,rfl,a⟩; rfl
 one:=by
  rintro _ _ _ ⟨v0,rfl,a⟩
  intro u hu; simp only [aW,cV,fc] at hu; rcases hu with rfl | rfl
  ·rfl
  ·exact a.BS
def AX:tu HN:=λμ ys x=>∃(v0:Value),ys=[.bool x.Pt,v0]∧Sl (Pl (lJ .u8)) 1 μ v0 x.B
theorem AX.out {μ:mO} {ys:List Value} {x:HN} (h:AX μ ys x):∃(v0:Value),ys=[.bool x.Pt,v0]∧Sl (Pl (lJ .u8)) 1 μ v0 x.B:=h
theorem AX.mk {μ:mO} {ys:List Value} {x:HN} (h:∃(v0:Value),ys=[.bool x.Pt,v0]∧Sl (Pl (lJ .u8)) 1 μ v0 x.B):AX μ ys x:=h
theorem Wd:Deep AX 2 where
 mono:=by rintro _ _ _ _ d ⟨v0,rfl,a⟩; exact ⟨v0,Z,a.mono (Pl.mono _) d⟩
 len:=by rintro _ _ _ ⟨v0,rfl,a⟩; rfl
 one:=by
  rintro _ _ _ ⟨v0,rfl,a⟩
  intro u hu; simp only [aW,cV,fc] at hu; rcases hu with rfl | rfl
  ·rfl
  ·exact a.BS
def nh:tu mc:=λμ ys x=>∃(v0:Value),ys=[v0]∧sQ Value.string (mg 5 (lJ .u8) 1) μ v0 x.m
theorem nh.out {μ:mO} {ys:List Value} {x:mc} (h:nh μ ys x):∃(v0:Value),ys=[v0]∧sQ Value.string (mg 5 (lJ .u8) 1) μ v0 x.m:=h
theorem nh.mk {μ:mO} {ys:List Value} {x:mc} (h:∃(v0:Value),ys=[v0]∧sQ Value.string (mg 5 (lJ .u8) 1) μ v0 x.m):nh μ ys x:=h
theorem zy:Deep nh 1 where
 mono:=by rintro _ _ _ _ d ⟨v0,rfl,a⟩; exact ⟨v0,Z,a.mono  d⟩
 len:=by rintro _ _ _ ⟨v0,rfl,a⟩; rfl
 one:=by
  rintro _ _ _ ⟨v0,rfl,a⟩
  intro u hu; simp only [aW,cV,fc] at hu; rcases hu with rfl
  ·exact a.BS
def sO:tu tT:=λμ ys x=>∃(v0:Value),ys=[.bool x.Out,v0]∧Sl (Pl (lJ .u8)) 1 μ v0 x.B
theorem sO.out {μ:mO} {ys:List Value} {x:tT} (h:sO μ ys x):∃(v0:Value),ys=[.bool x.Out,v0]∧Sl (Pl (lJ .u8)) 1 μ v0 x.B:=h
theorem sO.mk {μ:mO} {ys:List Value} {x:tT} (h:∃(v0:Value),ys=[.bool x.Out,v0]∧Sl (Pl (lJ .u8)) 1 μ v0 x.B):sO μ ys x:=h
theorem A6:Deep sO 2 where
 mono:=by rintro _ _ _ _ d ⟨v0,rfl,a⟩; exact ⟨v0,Z,a.mono (Pl.mono _) d⟩
 len:=by rintro _ _ _ ⟨v0,rfl,a⟩; rfl
 one:=by
  rintro _ _ _ ⟨v0,rfl,a⟩
  intro u hu; simp only [aW,cV,fc] at hu; rcases hu with rfl | rfl
  ·rfl
  ·exact a.BS
theorem HQ:sD pg0 9 Value.string ob:=sD.string bX
theorem DY:sD pg0 33 (λ(x:lh)=>vA (lp x)) mq :=
 sD.struct dC (λd x y W=>yR (d+8) x y W) (λb k W=>zT dC Z (cJ.2 ⟨λ_=>⟨.string k.lu,pJ cA Z,rU bX _ _ _ _⟩,cJ.2 ⟨λ_=>⟨.string k.Word,pJ cA Z,rU bX _ _ _ _⟩,(λ_ h=>by cases h)⟩⟩))
  (λk x h=>(mw.1 h).symm) (λk=>by simp [Instr.sameBits,lp,Hx,oq])
theorem YI:sD pg0 69 (λ(x:lg)=>vA (lj x)) ni :=
 sD.struct dz (λd x y W=>Ao (d+7) x y W) (λb k W=>zT dz Z (cJ.2 ⟨λ_=>⟨.int .i64 k.Kind,pJ bK Z,QW dT _ _ _ _ _⟩,cJ.2 ⟨λ_=>⟨.agg (lp k.Head).toArray,Ba bJ aM Z,zT dC Z (cJ.2 ⟨λ_=>⟨.string k.Head.lu,pJ cA Z,rU bX _ _ _ _⟩,cJ.2 ⟨λ_=>⟨.string k.Head.Word,pJ cA Z,rU bX _ _ _ _⟩,(λ_ h=>by cases h)⟩⟩)⟩,cJ.2 ⟨λ_=>⟨.string k.nj,pJ cA Z,rU bX _ _ _ _⟩,cJ.2 ⟨λ_=>⟨.agg (lp k.B).toArray,Ba bJ aM Z,zT dC Z (cJ.2 ⟨λ_=>⟨.string k.B.lu,pJ cA Z,rU bX _ _ _ _⟩,cJ.2 ⟨λ_=>⟨.string k.B.Word,pJ cA Z,rU bX _ _ _ _⟩,(λ_ h=>by cases h)⟩⟩)⟩,cJ.2 ⟨λ_=>⟨.agg (lp k.C).toArray,Ba bJ aM Z,zT dC Z (cJ.2 ⟨λ_=>⟨.string k.C.lu,pJ cA Z,rU bX _ _ _ _⟩,cJ.2 ⟨λ_=>⟨.string k.C.Word,pJ cA Z,rU bX _ _ _ _⟩,(λ_ h=>by cases h)⟩⟩)⟩,cJ.2 ⟨λ_=>⟨.string k.mV,pJ cA Z,rU bX _ _ _ _⟩,(λ_ h=>by cases h)⟩⟩⟩⟩⟩⟩))
  (λk x h=>(pH.1 h).symm) (λk=>by simp [Instr.sameBits,lj,Hx,oq])
theorem abW (w:World) (s:ByteArray) (c:Int):(callFunc 138 [Value.string s,.int .u8 c].toArray).run pg0 w= .ok (.value (vI (CU s c))) w:=Ot func138 (by kernel_rfl) (by kernel_rfl) (by kernel_rfl) (by kernel_rfl) s c w
abbrev po (a d:Bool) (g h i j k:Int) (q:Value) (s:Int):Array Value:=#[vB a,vB d,vI g,vI h,vI i,vI j,vI k,q,vI s]
abbrev tz (s:mD) (s1:pj) (s2:Formula) (t u v x y z a d:Value) (g:Nat) (h i:Int) (j:Bool) (k q:Int):Array Value:=#[vS s.lm.Name,t,u,vS s.mI,vI s.Room,v,x,y,z,vB s1.lu,vI s1.ny,vI s1.Room,vI s1.re,vI s1.wc,vI s1.vp,vI s2.Op,vI s2.K,vS s2.lh.lu,vS s2.lh.Word,a,d,vP g,vI h,vI i,vB j,vI k,vI q]
abbrev Cm (M:mD) (O P Q U W Y p9 a d g h i j k q s t u v x y z I J:Value):Array Value:=#[vS M.lm.Name,O,P,vS M.mI,vI M.Room,Q,U,W,Y,p9,a,d,g,h,i,j,k,q,s,t,u,v,x,y,z,I,J]
theorem mr {p:Prop} (h:p:=by first | exact Pl.mono _ | exact wo.mono _ _ | exact yI.mono | exact mQ.mono | exact uE.mono | exact Wd.mono | exact RH.mono | exact A6.mono | exact ra.mono):p:=h
theorem su {p:Prop} (h:p:=by repeat (first | exact lM.refl _ | with_reducible assumption | exact ST.ns (by assumption) | refine lM.trans ?_ (by first | with_reducible assumption | exact ST.ns (by assumption)))):p:=h
theorem mv {p:Prop} (h:p:=by first | with_reducible assumption | exact Sl.mono mr (by with_reducible assumption) su | exact pV.mono yI (by with_reducible assumption) su | exact pV.mono mQ (by with_reducible assumption) su | exact pV.mono zy (by with_reducible assumption) su | exact pV.mono A6 (by with_reducible assumption) su | exact pV.mono ra (by with_reducible assumption) su | exact uR.mono (by with_reducible assumption) su | exact At.mono (by with_reducible assumption) su | exact Sl.mono mr (by assumption) su):p:=h
theorem DX (a:ByteArray) (c r:Int) (w:World) (hm:tj a c=some r) :
  mo true pg0 97 [vS a,.int .u8 c] w (vI r):=by
 exact cG 8 func97 Z (λd=>sg (Wa (lr (Wm (Wm (VE (U8 (args:=[vS a,.int .u8 c]) (v:=vI (CU a c)) Z (by exact px Z Z) (abW _ a c) (Wa (lt (rQ hm d))))))))))
theorem EW (a:ByteArray) (c r:Int) (w:World) (hm:xg a c=some r) :
  mo true pg0 50 [vS a,.int .u8 c] w (vI r):=by
 refine cG 8 func50 Z (λd=>sg (Wa (lr (Wm (Wm (bS hm λj g hm=>VE (Eg d call97 (DX a c _ _  g) λi d=>Wa (ln ?_))))))))
 exact lO (rQ hm d)
theorem Te (B:ByteArray) (r:Bool) (w:World) (hm:H0 B=some r) :
  mo true pg0 51 [vS B] w (vB r):=by
 refine cG 16 func51 Z (λd=>sg (Wa (lS (Wm (bS hm λY D hm=>VE (P9 d bX aZ eS Z D λU I K d H s j N=>V (mP aZ Z j) (Wm (mh ?_))))))))
 refine lE (nM 8 7 (λi v E W=>∃c,ST true nf w W K c∧E 6=I∧AI v=some r) j.len ⟨_,d.ll,Z,hm⟩ ?_ ?_)
 ·rintro G k J E W z ⟨⟨h,q⟩,c,d,g,a⟩
  refine sg (VQ (rp (enc:=lJ .u8) (i:=(G:Int)) (x0:=k) aZ gb g h j (aF _) z) λQ u=>V (lq Z (om d.has (y:= .int .u8 k) u isAgg5)) (Wa (lr (Wm (bS a λT x a=>VE (Eg d call50 (EW (⟨#[97,98,99,100,101,102,103,104,105,106,107,108,109,110,111,112,113,114,115,116,117,118,119,120,121,122,48,49,50,51,52,53,54,55,56,57,45]⟩:ByteArray) k _ _  x) λM d=>Wi Z (ln ?_)))))))
  refine CI a Z (λt a=>?_) (λt a=>?_)
  ·refine sg (Wa (lt (nz (mj (nz (mj ?_))))))
   cases sj a
   exact rP d
  exact mU (mx (lE ⟨h,q,_,d.ll,g,a⟩))
 rintro E W ⟨⟨h,q⟩,c,d,g,a⟩
 exact lE (sg (Wa (lt (rQ a d))))
theorem vk (z:ByteArray) (r:Bool) (w:World) (hm:sG z=some r) :
  mo true pg0 18 [vS z] w (vB r):=by
 refine cG 21 func18 Z (λd=>sg (Wa (lr (Wm (V (th bX Z) (Wi Z (Wm (LJ hm (λK E W=>∃Y,ST true nf w W (hp w) Y∧E 0=vS z∧E 2=vB false∧E 10=vB K) 4 ?_ λK t y=>?_))))))))
 ·rintro x2 E W ⟨Y,d,M,h,v⟩ a5
  refine Wh v (LJ a5 (λJ E W=>∃D,ST true nf w W (hp w) D∧E 0=vS z∧E 2=vB false∧E 16=vB J) 5 ?_ λJ a x=>?_)
  ·rintro b2 E W ⟨D,d,s,H,a2⟩ N
   refine Wh a2 (LJ N (λI E W=>∃G,ST true nf w W (hp w) G∧E 2=vB false∧E 20=vB I) 3 ?_ λI j u=>?_)
   ·rintro b3 E W ⟨G,d,a9,a3⟩ Q
    exact Wg a3 (lt (rQ Q d))
   refine bC j (λg j=>?_) (λg j=>?_)
   ·refine ug g (lz s) (bS j λb0 T j=>tw g (Eg d call51 (Te z _ _  T) λO d=>V (lQ (cB g) Z) ?_))
    cases sj j
    exact u _ _ ⟨_,d.ll,H,Z⟩
   refine un g (un g (V (lN (cB g) Z) ?_))
   cases sj j
   exact u _ _ ⟨_,d.ll,H,Z⟩
  refine bC a (λc a=>?_) (λc a=>?_)
  ·refine ug c (lz M) (bS a λq B a=>ug c (VK (i:=0) bX Z Z (SZ B) (Yw B)) (bS a λb1 U a=>tw c (Eg d call50 (EW (⟨#[97,98,99,100,101,102,103,104,105,106,107,108,109,110,111,112,113,114,115,116,117,118,119,120,121,122]⟩:ByteArray) (q.toNat:Int) _ _  U) λP d=>ug c (mL Z Z Z) (V (lQ (cB c) Z) ?_))))
   cases sj a
   exact x _ _ ⟨_,d.ll,M,h,Z⟩
  refine un c (un c (un c (un c (V (lN (cB c) Z) ?_))))
  cases sj a
  exact x _ _ ⟨_,d.ll,M,h,Z⟩
 refine bC t (λk t=>?_) (λk t=>?_)
 ·refine ug k (lz Z) (ug k (th bX Z) (ug k (mL Z Z Z) (V (lQ (cB k) Z) ?_)))
  cases sj t
  exact y _ _ ⟨_,d.ll,Z,Z,Z⟩
 refine un k (un k (un k (V (lN (cB k) Z) ?_)))
 cases sj t
 exact y _ _ ⟨_,d.ll,Z,Z,Z⟩
theorem Br (a:Sl (Pl (lJ .u8)) 1 (hp qa) q0 ql) (hm:rO ql=some qm) :
  na true pg0 19 [q0] qa 5 (lJ .u8) 1 qm:=by
 unfold rO at hm
 refine vr 8 func19 Z (λd=>sg (Wa (lS (Wm ?_))))
 obtain ⟨y,B,rfl⟩:=a.form
 refine V (D5 aZ Z Z) (ln ?_)
 rcases y with _ | z
 ·have u:=a.isNil
  replace hm:some []=some qm:=by rw [u] at hm; simpa [oY,maxLen] using hm
  refine xz (rfl) (sg (Wa (lt (mj ?_))))
  cases sj hm
  exact ma (v:=vN) Z Z ⟨_,[],Z,d.nT (λp g=>by cases g) rv,mg.nil _ _ _⟩
 ·refine oV (rfl) (kg (VE (mn (cs:=#[]) d pP (Eb [] aZ gb jJ dc Z rv Z Z) λG k d=>Wm (bS hm λH t hm=>VE (oU (enc:=lJ .u8) (v:= .slice (some ⟨k,0,none⟩) 0 0) (vs:= .slice (some z) ql.length B) (R:=[(k,Ob #[] 5)]) d (λ_=>rfl) dc (vM _) aZ sL.1 sL.2.1 Z sL.2.2.1 sL.2.2.2 Z Z (mg.lit (l:=[]) (enc:=lJ .u8) Z dc Z Z) mv t λD x j d c=>Wa (lt ?_))))))
  cases sj hm
  exact ma (v:=x) Z Z ⟨_,j,Z,d.nT (λp g=>Ml g) c.nd,c⟩
theorem On {a0:List Key} {r:((Option mc)×Int)} (h0:oa qe [] qa) (a3:Sl za 2 qe q0 a0) (hm:Gr a0=some r) :
  my true pg0 5 [q0] qa qe [] (λv L1 μ1=>∃y1,v=vT [y1,vI r.2]∧L1=[]∧pV nh μ1 y1 r.1):=by
 refine rG h0 57 func5 Z (λd=>sg (Wa (Wa (lr (VE (Gq (P:=pg0) Value.string (mg 5 (lJ .u8) 1) d λW1 v4 R2 d c6=>?_))))))
 have ae:=d
 obtain ⟨Zq,rfl⟩:=c6.form
 have d:=ae
 refine V (mW (v:=vA [.map (some Zq)]) (nw Z) (mz zeroValue86 kJ (adg _ kJ) kr)) (VE (mA d Z (λW7 O d=>Wa (lS (Wm (V (mP jh Z a3) (Wm (ln (nM 14 13 (λi js E W=>∃I D y a1,lM qe y∧Lo (keys []) qa qe y∧ST true (keys []) qa W y ((O,Ob #[.map (some Zq)] 86)::(D++a1))∧E 4=vP O∧E 12=q0∧ol Value.string (mg 5 (lJ .u8) 1) (.map (some Zq)) I D∧zB js I=some r) a3.len ⟨[],R2,qe,_,lM.refl _,Lo.refl,d.ll,Z,Z,c6,hm⟩ ?_ ?_)))))))))
 ·rintro b0 j e1 E W c5 ⟨⟨eI,eN⟩,I,D,y,a1,t,q,d,G,M,Q,g⟩
  refine sg (VQ (nI (i:=(b0:Int)) (x0:=j) za.out jh kz M eI mv (aF _) c5) λf2 ⟨_,⟨f4,rfl,B⟩,b9⟩=>V (lq Z (mu d.has b9 isAgg67 kz)) (VE (lY d kV λe6 a6 d=>?_)))
  obtain ⟨J,K,rfl⟩:=B.form
  let a2:Value:= .slice J j.Key.length K
  refine VO (FA (#[vS j.nj,a2]) d kz λe7 d=>ln (lH ?_))
  have d:=d.drew
  have h:=d.has.ll (Kb (Kb (Kr Sn)))
  refine mF h lV (X 0 Z h (lz G) (X 1 Z h (lX Z) (X 2 Z h (ly Sy Z) (XH 3 Z h (λ_ s=>lq Z (lA s (Mt Mh) Z isAgg84)) (X 4 Z h (ly Ns Z) (XH 5 Z h (λ_ s=>lq Z (lA s Mh Z cA)) ?_))))))
  obtain ⟨e0,N⟩:=Q
  obtain ⟨e4,d8,d9⟩:=oS.rowAt oq.1 N j.nj
  refine XH 6 Z h (λ_ s=>IB (k:=j.nj) (z:=vN) HQ underlying84 fL Z Z N λb o hq=>s.2 b o (Mt (Mt (Ml hq)))) (X 7 Z h (lz Z) (X 8 Z h (pA Z Z) (X 9 Z h (pA Z Z) (X 10 Z h (nB Z) (X 11 Z h (nB Z) (mG kr (lE (lH (bg (Wf Ns (VB d Mh Z Z cA (bS g λf3 c2 g=>?_))))))))))))
  refine VE (Eg d kK (vk j.nj _ _  c2) λe8 d=>V (nK Z) (Wa (ln (CI g Z (λb4 g=>?_) λb4 g=>?_))))
  ·refine sg (Wa (Wa (ln ?_)))
   have d:=d.ll (Db (Db (Dr St)))
   refine lO (nz (mj (nz (mj (nz (mj ?_))))))
   cases sj g
   exact rq (v:= .pointer none) (u:=vI 30) Z Z Z ⟨_,_,_,Z,d.mB Sn,t,q,ST.lG d (mJ.mem Sn),.pointer none,Z,Z,pV.nil⟩
  refine sg (Wf NI (VB d Mh Z Z dq (V (mP aZ Z B) (Wi Z (Wm (LJ g (λb1 E W=>∃a5,ST true (keys []) qa W y ((a6,Ob #[vS j.nj,a2] 67)::((O,Ob #[.map (some Zq)] 86)::(D++a5)))∧E 4=vP O∧E 6=vP a6∧E 8=vB ((nv ob I j.nj).isSome)∧E 12=q0∧E 13=vI (a0.length:Int)∧E 14=vI (b0:Int)∧E 43=vB b1) 5 ?_ λb1 x Y=>?_))))))
  ·rintro f6 E W ⟨a5,d,a7,a8,c9,d0,d1,d2,d3⟩ a
   refine Wg d3 (ln (CI a Z (λb5 a=>?_) λb5 a=>?_))
   ·refine sg (Wa (Wa (ln ?_)))
    have d:=d.ll (Db (Db (Dr St)))
    refine lO (nz (mj (nz (mj (nz (mj ?_))))))
    cases sj a
    exact rq (v:= .pointer none) (u:=vI 21) Z Z Z ⟨_,_,_,Z,d.mB Sn,t,q,ST.lG d (mJ.mem Sn),.pointer none,Z,Z,pV.nil⟩
   refine sg (Wh c9 (Wa (ln (CI a Z (λb7 a=>?_) λb7 a=>?_))))
   ·refine sg (Wa (Wa (ln ?_)))
    have d:=d.ll (Db (Db (Dr St)))
    refine lO (nz (mj (nz (mj (nz (mj ?_))))))
    cases sj a
    exact rq (v:= .pointer none) (u:=vI 41) Z Z Z ⟨_,_,_,Z,d.mB Sn,t,q,ST.lG d (mJ.mem Sn),.pointer none,Z,Z,pV.nil⟩
   refine mU (mx (lE ?_))
   have d:=d.drew
   have h:=d.has.ll (Kb (Kb Sn))
   refine mF h lV (X 0 Z h (lz a7) (X 1 Z h (lX Z) (X 2 Z h (ly Sy Z) (XH 3 Z h (λ_ s=>lq Z (lA s (Mt Mh) Z isAgg84)) (X 4 Z h (ly Ns a8) (XH 5 Z h (λ_ s=>lq Z (lA s Mh Z cA)) (X 6 Z h (ly NI a8) (XH 7 Z h (λ_ s=>lq Z (lA s Mh Z dq)) (bS a λd5 c3 a=>XE 8 Z (oG d call19 (Br mv c3) λe9 f5 d6 e5 d H aa b2=>?_))))))))))
   have h:=d.has.nx H (Dr (Kb (Kb Sn)))
   refine ⟨h,?_⟩
   have d:=d.perm (Nr (Qr (Qb (Qb Qz))) Nz)
   refine bS a λd4 c4 a=>XO 9 Z (Qe (k:=j.nj) (z:=d5)  HQ underlying84 d N Z Z Z b2 c4 λf0 c7 d b3=>?_)
   have h:=d.has.nx H (Dr (Kb (Kb Sn)))
   refine ⟨h,mG kr (mx (lE ?_))⟩
   have d:=d.ll (Kr (Db St))
   exact ⟨d2,d1,d4,c7,d6,_,t.trans H,q.trans aa,d.ll (Sb (Pr Pz) St),a7,d0,b3.e,a⟩
  refine bC x (λc x=>?_) (λc x=>?_)
  ·refine un c (un c (un c (un c (V (lQ (cB c) Z) ?_))))
   cases sj x
   exact Y _ _ ⟨_,d.ll,G,Z,Z,M,eN,eI,Z⟩
  refine ug c (ly NI Z) (ug c (lq Z (lA d.has Mh Z dq)) (ug c (mP aZ Z B) (ug c (mL Z Z Z) (V (lN (cB c) Z) ?_))))
  cases sj x
  exact Y _ _ ⟨_,d.ll,G,Z,Z,M,eN,eI,Z⟩
 rintro E W ⟨⟨eI,eN⟩,I,D,y,a1,t,q,d,G,M,Q,g⟩
 refine lE (sg (Wh G (Wa (Wa (lt ?_)))))
 cases sj g
 refine rq (v:=vP O) (u:=vI 0) Z Z Z ?_
 have d:=d.perm (Nr (Qb Qz) Nz)
 obtain ⟨f8,d,a9,ab,c0⟩:=ST.zH d
 obtain ⟨f9,d,U,ad,c1⟩:=ST.zH (R:=[(O,Ob #[.map (some Zq)] 86)]) d
 exact ⟨_,_,_,Z,d.mB Sn,(t.trans a9).trans U,(q.trans ab).trans ad,ST.lG d (mJ.mem Sn),vP O,Z,Z,pV.some (At.of (c1 _ _ (.head _)) _ Z) (nh.mk ⟨.map (some Zq),Z,(Q.at c0).mono U⟩)⟩
theorem wL (i:lh) (r:Bool) (w:World) (hm:tF i=some r) :
  mo true pg0 122 [vA (lp i)] w (vB r):=by
 refine cG 11 func122 Z (λd=>sg (VE (mA d Z (λH J d=>Wa (lr (Wf zP (VB d Mh Z Z cA (bS hm λK y hm=>VE (Eg d kK (vk i.lu _ _  y) λI d=>Wm (LJ hm (λk E W=>∃j,ST true nf w W (hp w) j∧E 2=vB false∧E 10=vB k) 4 ?_ λk a g=>?_))))))))))
 ·rintro G E W ⟨j,d,B,x⟩ t
  exact Wg x (lt (rQ t d))
 refine bC a (λc a=>?_) (λc a=>?_)
 ·refine ug c (ly Bo Z) (ug c (lq Z (lA d.has Mh Z cA)) (bS a λD u a=>tw c (Eg d kK (vk i.Word _ _  u) λz d=>V (lQ (cB c) Z) ?_)))
  cases sj a
  exact g _ _ ⟨_,d.ll (Db St),Z,Z⟩
 refine un c (un c (un c (V (lN (cB c) Z) ?_)))
 cases sj a
 exact g _ _ ⟨_,d.ll (Db St),Z,Z⟩
theorem abO (w:World) (a b:ByteArray):(callFunc 228 [Value.string a,.string b].toArray).run pg0 w= .ok (.value (vI (zI a b))) w:=X0 func228 (by kernel_rfl) (by kernel_rfl) (by kernel_rfl) (by kernel_rfl) a b w
theorem DQ (a c:ByteArray) (r:Int) (w:World) (hm:vJ a c=some r) :
  mo true pg0 199 [vS a,vS c] w (vI r):=by
 exact cG 8 func199 Z (λd=>sg (Wa (lr (Wm (Wm (VE (U8 (args:=[vS a,vS c]) (v:=vI (zI a c)) Z (by exact px Z Z) (abO _ a c) (Wa (lt (rQ hm d))))))))))
theorem Gk (a c:ByteArray) (r:Int) (w:World) (hm:Au a c=some r) :
  mo true pg0 161 [vS a,vS c] w (vI r):=by
 refine cG 8 func161 Z (λd=>sg (Wa (lr (Wm (Wm (bS hm λj g hm=>VE (Eg d call199 (DQ a c _ _  g) λi d=>Wa (ln ?_))))))))
 exact lO (rQ hm d)
theorem R4 (c:Sl (Pl (lJ .i64)) 1 (hp qa) q0 ql) (hm:GY ql=some qb) :
  mo true pg0 160 [q0] qa (vI qb):=by
 refine cG 18 func160 Z (λd=>sg (Wa (lr (Wa (lS (Wm ?_))))))
 refine V (mP gJ Z c) (Wm (ln (nM 8 7 (λi q E W=>∃k,ST true nf qa W (hp qa) k∧E 3=vI 0∧E 6=q0∧BT q=some qb) c.len ⟨_,d.ll,Z,Z,hm⟩ ?_ ?_)))
 ·rintro G u H E W B ⟨⟨g,h⟩,k,d,j,t,a⟩
  refine sg (VQ (rp (enc:=lJ .i64) (i:=(G:Int)) (x0:=u) gJ dn t g c (aF _) B) λI z=>V (lq Z (om d.has (y:=vI u) z bK)) (Wa (lr (Wm (Wh j (Wi Z (ln (CI a Z (λx a=>?_) λx a=>?_))))))))
  ·refine sg (Wm (Wa (lt (nz (mj (nz (mj ?_)))))))
   cases sj a
   exact rP d
  exact mU (mx (lE ⟨g,h,_,d.ll,j,t,a⟩))
 rintro E W ⟨⟨g,h⟩,k,d,j,t,a⟩
 exact lE (sg (Wh j (Wa (lt (rQ a d)))))
theorem EZ (g i:lh) (r:Int) (w:World) (hm:vV g i=some r) :
  mo true pg0 123 [vA (lp g),vA (lp i)] w (vI r):=by
 refine cG 17 func123 Z (λd=>sg (VE (mA d Z (λG I d=>VE (mA d Z (λH J d=>Wa (ln (lH ?_))))))))
 have d:=d.drew
 have h:=d.has.ll (Kb (Kb Sn))
 refine mF h lV (X 0 Z h (ly zP Z) (XH 1 Z h (λ_ q=>lq Z (lA q (Mt Mh) Z cA)) (X 2 Z h (ly zP Z) (XH 3 Z h (λ_ q=>lq Z (lA q Mh Z cA)) (X 5 Z h (ly Bo Z) (XH 6 Z h (λ_ q=>lq Z (lA q (Mt Mh) Z cA)) (X 7 Z h (ly Bo Z) (XH 8 Z h (λ_ q=>lq Z (lA q Mh Z cA)) (bS hm λa j hm=>XE 4 Z (Eg d call161 (Gk g.lu i.lu _ _  j) λx d=>?_))))))))))
 have h:=d.has.ll (Kb (Kb Sn))
 refine ⟨h,bS hm λc k hm=>XE 9 Z (Eg d call161 (Gk g.Word i.Word _ _  k) λy d=>?_)⟩
 have h:=d.has.ll (Kb (Kb Sn))
 refine ⟨h,XE 10 Z (mn (cs:=#[vI a,vI c]) d (pZ Z Z) (nU gJ dn zeroValue3) λz u d=>?_)⟩
 have h:=d.has.ll (Db (Kb (Kb Sn)))
 refine ⟨h,bS hm λD t hm=>XE 11 Z (Eg d call160 (R4 (Sl.lit (enc:=lJ .i64) (l:=[a,c]) (λ_=>rfl) Z nb Z (d.at_ Mh)) t) λB d=>?_)⟩
 have h:=d.has.ll (Db (Kb (Kb Sn)))
 refine ⟨h,X 12 Z h (nB Z) (mG kr (lE ?_))⟩
 exact lO (rQ hm d)
set_option maxHeartbeats 4000000 in
theorem xS (a:lg) (r:Bool) (w:World) (hm:tH a=some r) :
  mo true pg0 76 [vA (lj a)] w (vB r):=by
 let m9:=(⟨a.Kind,a.Head,zS,a.B,a.C,zS⟩:lg)
 let j2:=(⟨a.Kind,a.Head,zS,a.B,K0,a.mV⟩:lg)
 let j1:Value:=vA (lp a.B)
 let g6:=(lj (⟨a.Kind,a.Head,zS,a.B,K0,zS⟩:lg)).toArray
 let b0:=(⟨a.Kind,a.Head,zS,K0,K0,zS⟩:lg)
 refine cG 98 func76 Z (λd=>sg (VE (mA d Z (λW2 N d=>Wa (lr (Wf AD (VB d Mh Z Z bK (Wf yv (VA d Mh (lp a.Head) bJ aM (V (mW (v:=vA (lj b0)) (pZ Z Z) (mz cI dz (U2 _ dz) kr)) (VE (lY d cI λW4 B d=>?_))))))))))))
 refine VO (FA (h1:=pf b0) ((lj b0).toArray) d aI λW5 d=>lr (Wf yv (VA d (Mt Mh) (lp a.Head) bJ aM (bS hm λP j4 hm=>VE (Eg d ke (wL a.Head _ _  j4) λW8 d=>Wa (ln (lH (IW hm (λb5 E W=>∃b6,ST true nf w W (hp w) ((B,Ol (lj b5.2) 69)::((N,Ol (lj a) 69)::b6))∧E 1=vP N∧E 3=vP B∧E 4=vB b5.1) (λb5 g Zq=>?_) ?_))))))))
 ·let g5:=((lj m9).toArray:Array Value)
  let b8:=((lj j2).toArray:Array Value)
  let O:Value:=vP B
  let s:Value:=vP N
  let a0:=((lj a).toArray:Array Value)
  refine sg (Wf AD (VB d (Mt Mh) Z Z bK (ln (bg (Wi Z (Wa (ln (CI g Z (λe5 g=>?_) λe5 g=>?_))))))))
  ·have d:=d.drew
   have h:=d.has.ll (Db (Kb Sn))
   refine mF h lV (X 0 Z h (ly G2 Z) (XH 1 Z h (λ_ q=>lq Z (lA q Mh Z cA)) (X 2 Z h (lz Z) (X 3 Z h (lz Z) (X 8 Z h (ly G2 Z) (PJ g (λd6 E W=>∃b9,ST true nf w W (hp w) ((B,Ol (lj b0) 69)::((N,oC a0 69)::b9))∧E 1=s∧E 3=O∧E 4=vB P∧E 18=vS a.nj∧E 24=vB d6∧E 25= .pointer (some ⟨B,3,none⟩)) (bm 11 511) 2 ?_ λd6 D a2=>?_))))))
   ·rintro m1 E W ⟨b9,d,h2,h3,k8,h4,h5,h6⟩ f1
    refine XO 9 Z (lZ (vS a.nj) ((lj (⟨a.Kind,a.Head,a.nj,K0,K0,zS⟩:lg)).toArray) d h6 h4 fK (O4 a.nj) nb Z (λj5 d=>?_))
    have h:=d.has.ll (Db (Kb Sn))
    refine ⟨h,X 10 Z h (nB h5) (mG kr (mx (lE ?_)))⟩
    cases sj f1
    exact ⟨_,Z,_,d.ll,h2,h3,Z⟩
   refine bC D (λk D=>?_) (λk D=>?_)
   ·refine Xg 4 Z Z (cB k) h (ly G2 Z) (uV 5 Z Z (cB k) h (λ_ q=>lq Z (lA q Mh Z cA)) (bS D λl2 f9 D=>CZ 6 Z Z (cB k) (Eg d kK (vk a.nj _ _  f9) λj6 d=>?_)))
    have h:=d.has.ll (Db (Kb Sn))
    refine ⟨h,X 7 Z h (lQ (cB k) Z) ?_⟩
    cases sj D
    refine ov kr (a2 _ _ ⟨_,d.ll,Z,Z,Z,Z,Z,Z⟩)
   refine Xn 4 Z Z (cB k) h (Xn 5 Z Z (cB k) h (Xn 6 Z Z (cB k) h (X 7 Z h (lN (cB k) Z) ?_)))
   cases sj D
   refine ov kr (a2 _ _ ⟨_,d.ll,Z,Z,Z,Z,Z,Z⟩)
  refine sg (Wi Z (Wa (ln (CI g Z (λe6 g=>?_) λe6 g=>?_))))
  ·have d:=d.drew
   have h:=d.has.ll (Db (Kb Sn))
   refine mF h lV (X 0 Z h (ly ub Z) (XH 1 Z h (λ_ q=>lq Z (lC q Mh (lp a.B) Z bJ aM)) (X 2 Z h (lz Z) (X 3 Z h (lz Z) (X 8 Z h (ly ub Z) (PJ g (λd7 E W=>∃c0,ST true nf w W (hp w) ((B,Ol (lj b0) 69)::((N,oC a0 69)::c0))∧E 1=s∧E 3=O∧E 4=vB P∧E 29=j1∧E 35=vB d7∧E 36= .pointer (some ⟨B,4,none⟩)) (bm 11 511) 2 ?_ λd7 G a3=>?_))))))
   ·rintro m2 E W ⟨c0,d,h7,h8,k9,h9,i0,i1⟩ f2
    refine XO 9 Z (lZ j1 g6 d i1 h9 aM (pt a.B) nb Z (λj7 d=>?_))
    have h:=d.has.ll (Db (Kb Sn))
    refine ⟨h,X 10 Z h (nB i0) (mG kr (mx (lE ?_)))⟩
    cases sj f2
    exact ⟨_,Z,_,d.ll,h7,h8,Z⟩
   refine bC G (λt G=>?_) (λt G=>?_)
   ·refine Xg 4 Z Z (cB t) h (ly ub Z) (uV 5 Z Z (cB t) h (λ_ q=>lq Z (lC q Mh (lp a.B) Z bJ aM)) (bS G λl3 g0 G=>CZ 6 Z Z (cB t) (Eg d ke (wL a.B _ _  g0) λj8 d=>?_)))
    have h:=d.has.ll (Db (Kb Sn))
    refine ⟨h,X 7 Z h (lQ (cB t) Z) ?_⟩
    cases sj G
    refine ov kr (a3 _ _ ⟨_,d.ll,Z,Z,Z,Z,Z,Z⟩)
   refine Xn 4 Z Z (cB t) h (Xn 5 Z Z (cB t) h (Xn 6 Z Z (cB t) h (X 7 Z h (lN (cB t) Z) ?_)))
   cases sj G
   refine ov kr (a3 _ _ ⟨_,d.ll,Z,Z,Z,Z,Z,Z⟩)
  refine sg (Wi Z (Wa (ln (CI g Z (λe7 g=>?_) λe7 g=>?_))))
  ·refine lH ?_
   have d:=d.drew
   have h:=d.has.ll (Db (Kb Sn))
   refine mF h lV (X 0 Z h (ly ub Z) (XH 1 Z h (λ_ q=>lq Z (lC q Mh (lp a.B) Z bJ aM)) (X 2 Z h (ly Du Z) (XH 3 Z h (λ_ q=>lq Z (lA q Mh Z cA)) (X 4 Z h (ly ub Z) (XO 5 Z (lZ j1 g6 d Z Z aM (pt a.B) nb Z (λj9 d=>?_))))))))
   have h:=d.has.ll (Db (Kb Sn))
   refine ⟨h,X 6 Z h (ly Du Z) (XO 7 Z (lZ (vS a.mV) ((lj j2).toArray) d Z Z fK (O4 a.mV) nb Z (λk0 d=>?_)))⟩
   have h:=d.has.ll (Db (Kb Sn))
   refine ⟨h,mG kr (lE (lI (Wm (Wm (LJ g (λe0 E W=>∃c1,ST true nf w W (hp w) ((B,oC b8 69)::((N,oC a0 69)::c1))∧E 1=s∧E 3=O∧E 4=vB P∧E 50=vB e0) 4 ?_ λe0 I a6=>?_)))))⟩
   ·rintro m3 E W ⟨c1,d,U,c7,c8,i2⟩ f3
    refine Wh i2 (LJ f3 (λd9 E W=>∃c2,ST true nf w W (hp w) ((B,oC b8 69)::((N,oC a0 69)::c2))∧E 1=s∧E 3=O∧E 4=vB P∧E 59=vB d9) 8 ?_ λd9 T a5=>?_)
    ·rintro m4 E W ⟨c2,d,b2,c9,d0,i3⟩ f4
     refine Wh i3 (LJ f4 (λd8 E W=>∃c3,ST true nf w W (hp w) ((B,oC b8 69)::((N,oC a0 69)::c3))∧E 1=s∧E 3=O∧E 4=vB P∧E 64=vB d8) 4 ?_ λd8 H a4=>?_)
     ·rintro m5 E W ⟨c3,d,i4,i5,l0,i6⟩ f5
      refine Wg i6 (mh (mx (lE ?_)))
      cases sj f5
      exact ⟨_,Z,_,d.ll,i4,i5,Z⟩
     refine bC H (λx H=>?_) (λx H=>?_)
     ·refine ug x (ly Du b2) (ug x (lq Z (lA d.has (Mt Mh) Z cA)) (bS H λl4 g1 H=>tw x (Eg d kK (vk a.mV _ _  g1) λk1 d=>V (lQ (cB x) Z) ?_)))
      cases sj H
      exact a4 _ _ ⟨_,d.ll,b2,c9,d0,Z⟩
     refine un x (un x (un x (V (lN (cB x) Z) ?_)))
     cases sj H
     exact a4 _ _ ⟨_,d.ll,b2,c9,d0,Z⟩
    refine bC T (λc T=>?_) (λc T=>?_)
    ·refine ug c (ly ub U) (ug c (ly zP Z) (ug c (lq Z (lA d.has (Mt Mh) Z cA)) (ug c (ly yv U) (ug c (ly zP Z) (ug c (lq Z (lA d.has (Mt Mh) Z cA)) (ug c (QO Z Z Z) (V (lQ (cB c) Z) ?_)))))))
     cases sj T
     exact a5 _ _ ⟨_,d.ll,U,c7,c8,Z⟩
    refine un c (un c (un c (un c (un c (un c (un c (V (lN (cB c) Z) ?_)))))))
    cases sj T
    exact a5 _ _ ⟨_,d.ll,U,c7,c8,Z⟩
   refine bC I (λu I=>?_) (λu I=>?_)
   ·refine ug u (ly ub Z) (ug u (lq Z (lC d.has (Mt Mh) (lp a.B) Z bJ aM)) (bS I λl5 g2 I=>tw u (Eg d ke (wL a.B _ _  g2) λk2 d=>V (lQ (cB u) Z) ?_)))
    cases sj I
    exact a6 _ _ ⟨_,d.ll,Z,Z,Z,Z⟩
   refine un u (un u (un u (V (lN (cB u) Z) ?_)))
   cases sj I
   exact a6 _ _ ⟨_,d.ll,Z,Z,Z,Z⟩
  refine sg (Wi Z (Wa (ln (CI g Z (λe8 g=>?_) λe8 g=>?_))))
  ·refine lH ?_
   have d:=d.drew
   have h:=d.has.ll (Db (Kb Sn))
   refine mF h lV (X 0 Z h (ly ub Z) (XH 1 Z h (λ_ q=>lq Z (lC q Mh (lp a.B) Z bJ aM)) (X 2 Z h (ly Dl Z) (XH 3 Z h (λ_ q=>lq Z (lC q Mh (lp a.C) Z bJ aM)) (X 4 Z h (ly ub Z) (XO 5 Z (lZ j1 g6 d Z Z aM (pt a.B) nb Z (λk3 d=>?_))))))))
   have h:=d.has.ll (Db (Kb Sn))
   refine ⟨h,X 6 Z h (ly Dl Z) (XO 7 Z (lZ (vA (lp a.C)) ((lj m9).toArray) d Z Z aM (pt a.C) nb Z (λk4 d=>?_)))⟩
   have h:=d.has.ll (Db (Kb Sn))
   refine ⟨h,mG kr (lE (lI (Wm (Wm (LJ g (λe3 E W=>∃c4,ST true nf w W (hp w) ((B,oC g5 69)::((N,oC a0 69)::c4))∧E 1=s∧E 3=O∧E 4=vB P∧E 78=vB e3) 4 ?_ λe3 M a9=>?_)))))⟩
   ·rintro m6 E W ⟨c4,d,b4,d1,d2,i7⟩ f6
    refine Wh i7 (LJ f6 (λe2 E W=>∃c5,ST true nf w W (hp w) ((B,oC g5 69)::((N,oC a0 69)::c5))∧E 1=s∧E 3=O∧E 4=vB P∧E 83=vB e2) 4 ?_ λe2 K a8=>?_)
    ·rintro m7 E W ⟨c5,d,Y,d3,d4,i8⟩ f7
     refine Wh i8 (LJ f7 (λe1 E W=>∃c6,ST true nf w W (hp w) ((B,oC g5 69)::((N,oC a0 69)::c6))∧E 1=s∧E 3=O∧E 4=vB P∧E 91=vB e1) 7 ?_ λe1 J a7=>?_)
     ·rintro m8 E W ⟨c6,d,i9,j0,l1,j3⟩ f8
      refine Wg j3 (mh (mx (lE ?_)))
      cases sj f8
      exact ⟨_,Z,_,d.ll,i9,j0,Z⟩
     refine bC J (λi J=>?_) (λi J=>?_)
     ·refine ug i (ly ub Y) (ug i (lq Z (lC d.has (Mt Mh) (lp a.B) Z bJ aM)) (ug i (ly Dl Y) (ug i (lq Z (lC d.has (Mt Mh) (lp a.C) Z bJ aM)) (bS J λl6 g3 J=>tw i (Eg d call123 (EZ a.B a.C _ _  g3) λk5 d=>ug i (mL Z Z Z) (V (lQ (cB i) Z) ?_))))))
      cases sj J
      exact a7 _ _ ⟨_,d.ll,Y,d3,d4,Z⟩
     refine un i (un i (un i (un i (un i (un i (V (lN (cB i) Z) ?_))))))
     cases sj J
     exact a7 _ _ ⟨_,d.ll,Y,d3,d4,Z⟩
    refine bC K (λz K=>?_) (λz K=>?_)
    ·refine ug z (ly Dl b4) (ug z (lq Z (lC d.has (Mt Mh) (lp a.C) Z bJ aM)) (bS K λl7 g4 K=>tw z (Eg d ke (wL a.C _ _  g4) λk6 d=>V (lQ (cB z) Z) ?_)))
     cases sj K
     exact a8 _ _ ⟨_,d.ll,b4,d1,d2,Z⟩
    refine un z (un z (un z (V (lN (cB z) Z) ?_)))
    cases sj K
    exact a8 _ _ ⟨_,d.ll,b4,d1,d2,Z⟩
   refine bC M (λy M=>?_) (λy M=>?_)
   ·refine ug y (ly ub Z) (ug y (lq Z (lC d.has (Mt Mh) (lp a.B) Z bJ aM)) (bS M λl8 g7 M=>tw y (Eg d ke (wL a.B _ _  g7) λk7 d=>V (lQ (cB y) Z) ?_)))
    cases sj M
    exact a9 _ _ ⟨_,d.ll,Z,Z,Z,Z⟩
   refine un y (un y (un y (V (lN (cB y) Z) ?_)))
   cases sj M
   exact a9 _ _ ⟨_,d.ll,Z,Z,Z,Z⟩
  refine sg (Wa (ln ?_))
  have d:=d.ll (Db (Db St))
  refine lO (nz (mj ?_))
  cases sj g
  replace Zq:some false=some r:=Zq
  cases sj Zq
  exact rP d
 rintro ⟨l9,e4⟩ E W ⟨b6,d,g8,g9,h0⟩ e9
 refine sg (Wh h0 (Wm (LJ e9 (λd5 E W=>∃b7,ST true nf w W (hp w) b7∧E 97=vB d5) 4 ?_ λd5 Q a1=>?_)))
 ·rintro m0 E W ⟨b7,d,h1⟩ f0
  exact Wg h1 (lt (rQ f0 d))
 refine bC Q (λj Q=>?_) (λj Q=>?_)
 ·refine ug j (lq g9 (lC d.has Mh (lj e4) Z bF aI)) (ug j (lq g8 (lC d.has (Mt Mh) (lj a) Z bF aI)) (ug j (A4 Z Z (rY fi) (xu (Ao _ e4 a))) (V (lQ (cB j) Z) ?_)))
  cases sj Q
  exact a1 _ _ ⟨_,d.ll (Db (Db St)),Z⟩
 refine un j (un j (un j (V (lN (cB j) Z) ?_)))
 cases sj Q
 exact a1 _ _ ⟨_,d.ll (Db (Db St)),Z⟩
theorem FI {r:((List Int)×Int)} (Y:oa qe [] qa) (c:pV nh qe q0 qD) (hm:xL qD qC=some r) :
  my true pg0 42 [q0,vA (lj qC)] qa qe [] (λv U q=>∃T,v=vT [T,vI r.2]∧U=[]∧Sl (Pl (lJ .u8)) 1 q T r.1):=by
 refine rG Y 29 func42 Z (λa=>sg (VE (mA a Z (λW2 t a=>Wa (Wa (ln (lH (bg (Wm (V (Gs kL c Z Z) (Wa ?_)))))))))))
 refine ln (CI hm Z (λM hm=>?_) λM hm=>?_)
 ·refine sg (Wa (Wa (ln ?_)))
  have a:=a.ll (Db St)
  refine lO (nz (mj ?_))
  cases sj hm
  exact rq (v:=vN) (u:=vI 1) Z Z Z ⟨_,_,_,Z,a.mB Sn,lM.refl _,Lo.refl,ST.lG a (mJ.mem Sn),vN,Z,Z,Sl.nil _ _ _⟩
 refine sg (VA a Mh (lj qC) bF aI (bS hm λJ Q hm=>VE (Eg a call76 (xS qC _ _  Q) λW6 a=>V (nK Z) (Wa (ln (CI hm Z (λN hm=>?_) λN hm=>?_))))))
 ·refine sg (Wa (Wa (ln ?_)))
  have a:=a.ll (Db St)
  refine lO (nz (mj ?_))
  cases sj hm
  exact rq (v:=vN) (u:=vI 11) Z Z Z ⟨_,_,_,Z,a.mB Sn,lM.refl _,Lo.refl,ST.lG a (mJ.mem Sn),vN,Z,Z,Sl.nil _ _ _⟩
 refine mU (mx (lE (lH ?_)))
 have a:=a.drew
 have d:=a.has.ll (Kb Sn)
 refine mF d lV (X 0 Z d (lz Z) (bS hm λa5 I hm=>XQ 1 Z d (Qn nh.out c I Z) λa3 ⟨_,⟨x,rfl,H⟩,D⟩=>XQ 2 Z d (pM [x] Sy Z D Z) λa4 G=>XH 3 Z d (λ_ h=>lq Z (om h (y:=x) G isAgg84)) (X 4 Z d (ly yv Z) (X 5 Z d (ly zP Z) (XH 6 Z d (λ_ h=>lq Z (lA h Mh Z cA)) ?_)))))
 obtain ⟨j,a2,g,i⟩:=H
 refine XH 7 Z d (λ_ h=>IB (k:=qC.Head.lu) (z:=vN) HQ underlying84 fL Z Z g λb o s=>h.1 b o (i b o s)) (X 8 Z d (lz Z) (X 9 Z d (pA Z Z) (X 10 Z d (pA Z Z) (X 11 Z d (nB Z) (X 12 Z d (nB Z) (mG kr (lE ?_)))))))
 have a:=a.ll (Db St)
 refine lH (sg (Wm (V (nK Z) (ln (CI hm Z (λB hm=>?_) λB hm=>?_)))))
 ·refine sg (Wa (Wa (lt (mj ?_))))
  cases sj hm
  exact rq (v:=vN) (u:=vI 21) Z Z Z ⟨_,_,_,Z,a.mB Sn,lM.refl _,Lo.refl,ST.lG a (mJ.mem Sn),vN,Z,Z,Sl.nil _ _ _⟩
 refine kg (Wm (Wa (Wa (lt ?_))))
 cases sj hm
 exact rq (v:=uN ob j qC.Head.lu vN) (u:=vI 0) Z Z Z ⟨_,_,_,Z,a.mB Sn,lM.refl _,Lo.refl,ST.lG a (mJ.mem Sn),uN ob j qC.Head.lu vN,Z,Z,oS.ac3 (enc:=lJ .u8) (n:=1) (λ_=>rfl) oq.1 g qC.Head.lu i⟩
theorem pd (t:oa qe ((qh,Ob #[q0] 157)::(qo++[])) qa) (y:mg 5 (lJ .u8) 1 q0 ql qo) (hm:nL ql qb=some qS) :
  nt true pg0 79 [vP qh,vI qb] qa ((qh,Ob #[q0] 157)::(qo++[])) (λv L1 W'=>∃h S2,v=vB qS.1∧L1=((qh,Ob #[h] 157)::(S2++[]))∧mg 5 (lJ .u8) 1 h qS.2 S2):=by
 refine B6 t 38 func79 Z (λd=>sg (Wa (lS (Wm (V (ox fj Z Z) (Wm (Vg Z Z (lz Z) (Vg Z Z (mL Z Z Z) (V (lN Z Z) ?_)))))))))
 refine ln (CI hm Z (λa9 hm=>?_) λa9 hm=>?_)
 ·refine sg (Wa (lt (mj ?_)))
  cases sj hm
  exact ma (v:=vB false) Z Z ⟨_,_,Z,d.mB (Kb (Kr Sn)),q0,qo,Z,Z,y⟩
 refine kn (lH (nO (pE (λm E W=>∃c z U u a0,ST true (keys ((qh,Ob #[q0] 157)::(qo++[]))) qa W qe ((qh,Ob #[z] 157)::(u++a0))∧E 0=vP qh∧E 1=vI c∧mg 5 (lJ .u8) 1 z U u∧oO m c U=some qS) mZ ⟨qb,q0,ql,qo,_,d.ll,Z,Z,y,hm⟩ ?_)))
 rintro m E W ⟨c,z,U,u,a0,d,x,K,T,g⟩
 cases m with
 | zero=>rw [oO] at g; cases g
 | succ s=>
  refine lH (sg (Wh K (Wi Z (ln (CI g Z (λj g=>?_) λj g=>?_)))))
  ·refine kn (lH (nO (lI (Wh x (Wh x (Wn (Wf CR (VB d Mh Z Z dq (Wh K (V (uI (k':=.i64) (a:=c) dT eS Z) (V (U0 (k:=.u8) (a:=IntKind.u8.wrap c) (b:=128) (v:= .int .u8 (IntKind.u8.wrap (BitVec.ofInt (IntKind.bits .u8) (IntKind.u8.wrap c) ||| BitVec.ofInt (IntKind.bits .u8) 128).toNat)) Z Z dc Z) (VE (mn (cs:=[.int .u8 (IntKind.u8.wrap (BitVec.ofInt (IntKind.bits .u8) (IntKind.u8.wrap c) ||| BitVec.ofInt (IntKind.bits .u8) 128).toNat)].toArray) d (nw Z) (nU aZ gb jJ) λc3 q d=>?_)))))))))))))
   have d:=d.perm (Nr (Qb (Qb Qz)) Nz)
   refine bS g λQ Y g=>VE (oU (enc:=lJ .u8) (v:=z) (vs:= .slice (some ⟨q,0,none⟩) 1 1) (R:=u) d (λ_=>rfl) dc (vM _) aZ sL.1 sL.2.1 Z sL.2.2.1 sL.2.2.2 Z Z T (Sl.lit (enc:=lJ .u8) (l:=[IntKind.u8.wrap (BitVec.ofInt (IntKind.bits .u8) (IntKind.u8.wrap c) ||| BitVec.ofInt (IntKind.bits .u8) 128).toNat]) (λ_=>rfl) Z nb Z (d.at_ (Ma Mh))) Y λO c1 a2 d M=>Wn (Wf CR ?_))
   obtain ⟨B,H,rfl⟩:=M.form
   have d:=d.perm (Nb (Pr (Pb Pz)) Nz)
   refine VO (lZ (.slice B Q.length H) (#[.slice B Q.length H]) d Z Z dA oc nb Z (λP d=>mh (mx (lE ?_))))
   have d:=d.ll (Kb (Kr (Db St)))
   exact lI (Wh K (V (JM (a:=c) (b:=7) Z Z dc) (Wa (ln ⟨s,bH _,Int.fdiv c (2 ^ min (Int.toNat 7) (IntKind.bits .i64)),.slice B Q.length H,Q,a2,_,d.ll,x,Z,M,g⟩))))
  refine pg (oL (oL (uO (lE (sg (Wh x (Wh x (Wn (Wf CR (VB d Mh Z Z dq (Wh K (V (uI (k':=.i64) (a:=c) dT eS Z) (VE (mn (cs:=[.int .u8 (IntKind.u8.wrap c)].toArray) d (nw Z) (nU aZ gb jJ) λb6 a5 d=>?_))))))))))))))
  have d:=d.perm (Nr (Qb (Qb Qz)) Nz)
  refine bS g λJ i g=>VE (oU (enc:=lJ .u8) (v:=z) (vs:= .slice (some ⟨a5,0,none⟩) 1 1) (R:=u) d (λ_=>rfl) dc (vM _) aZ sL.1 sL.2.1 Z sL.2.2.1 sL.2.2.2 Z Z T (Sl.lit (enc:=lJ .u8) (l:=[IntKind.u8.wrap c]) (λ_=>rfl) Z nb Z (d.at_ (Ma Mh))) i λb7 c2 a3 d N=>Wn (Wf CR ?_))
  obtain ⟨D,I,rfl⟩:=N.form
  have d:=d.perm (Nb (Pr (Pb Pz)) Nz)
  refine VO (lZ (.slice D J.length I) (#[.slice D J.length I]) d Z Z dA oc nb Z (λb9 d=>ln ?_))
  have d:=d.ll (Kb (Kr (Db St)))
  refine sg (Wa (lt ?_))
  cases sj g
  exact ma (v:=vB true) Z Z ⟨_,_,Z,d.mB (Kb (Kr Sn)),.slice D J.length I,a3,Z,Z,N⟩
theorem Aw (g:oa qe ((qh,Ob #[q0] 157)::(qo++[])) qa) (i:mg 5 (lJ .u8) 1 q0 ql qo) (k:Sl (Pl (lJ .u8)) 1 qe q1 qm) (hm:sw ql qm=some qS) :
  nt true pg0 87 [vP qh,q1] qa ((qh,Ob #[q0] 157)::(qo++[])) (λv L1 W'=>∃U M,v=vB qS.1∧L1=((qh,Ob #[U] 157)::(M++[]))∧mg 5 (lJ .u8) 1 U qS.2 M):=by
 refine B6 g 25 func87 Z (λa=>sg (Wa (lS (Wm (V (ox fj Z Z) (Wm (Vg Z Z (lz Z) (Vg Z Z (mP aZ Z k) (Vg Z Z (mL Z Z Z) ?_)))))))))
 refine V (lN Z Z) (ln (CI hm Z (λQ hm=>?_) λQ hm=>?_))
 ·refine sg (Wa (lt (mj ?_)))
  cases sj hm
  exact ma (v:=vB false) Z Z ⟨_,_,Z,a.mB (Kb (Kr Sn)),q0,qo,Z,Z,i⟩
 refine kg (Wm (Wm (V (mP aZ Z k) (bS hm λu T hm=>?_))))
 refine VE (eM a (Cb Pz (Cr Qz Cn)) jK (λh _=>pd h i T) ?_)
 rintro _ v8 q a3 a H j d ⟨Y,K,t,rfl,I⟩
 cases t
 have a:=a.perm (Tb (Tr Tn))
 refine lr (Wm (Wm (Wn (Wf CR (VB a Mh Z Z dq (Wm ?_))))))
 have a:=a.perm (Nr (Qb Qz) Nz)
 refine bS hm λB G hm=>VE (oU (enc:=lJ .u8) (v:=Y) (vs:=q1) (R:=K) a (λ_=>rfl) dc (vM _) aZ sL.1 sL.2.1 Z sL.2.2.1 sL.2.2.2 Z Z I mv G λa4 s J a z=>Wn (Wf CR ?_))
 obtain ⟨x,y,rfl⟩:=z.form
 have a:=a.perm (Nb (Pr Pz) Nz)
 refine VO (lZ (.slice x B.length y) (#[.slice x B.length y]) a Z Z dA oc nb Z (λa5 a=>lr (Wa (lt ?_))))
 cases sj hm
 exact ma (v:=vB true) Z Z ⟨_,_,Z,a.mB (Kb (Kr Sn)),.slice x B.length y,J,Z,Z,z⟩
theorem Cc (J:oa qe ((qh,Ob #[q0] 157)::(qo++[])) qa) (k:mg 5 (lJ .u8) 1 q0 ql qo) (hm:xP ql qE=some qS) :
  nt true pg0 81 [vP qh,vS qE] qa ((qh,Ob #[q0] 157)::(qo++[])) (λv L1 W'=>∃q S2,v=vB qS.1∧L1=((qh,Ob #[q] 157)::(S2++[]))∧mg 5 (lJ .u8) 1 q qS.2 S2):=by
 refine B6 J 17 func81 Z (λa=>sg (Wa (lr (Wm (V (Bj fj Z Z) (Wm (Vg Z Z (lz Z) (bS hm λr1 a4 hm=>Sk Z Z (Eg a kK (vk qE _ _  a4) λW3 a=>V (lQ Z Z) ?_)))))))))
 refine Wm (LJ hm (λB E W=>∃z x D I,lM qe D∧ST true (keys ((qh,Ob #[q0] 157)::(qo++[]))) qa W D ((qh,Ob #[z] 157)::(x++I))∧E 4=vB false∧E 16=vB B.1∧mg 5 (lJ .u8) 1 z B.2 x) 5 ?_ λB g y=>?_)
 ·rintro ⟨s,c0⟩ E W ⟨z,x,D,I,b1,a,b9,a3,T⟩ M
  refine Wg a3 (lt ?_)
  cases sj M
  exact ma (v:=vB s) Z Z ⟨_,_,Z,a.mB (Kb (Kr Sn)),z,x,Z,Z,T⟩
 refine bC g (λi g=>?_) (λi g=>?_)
 ·refine ug i (lz Z) (ug i (lz Z) (bS g λa5 N g=>tw i (P9 a bX aZ eS Z N λb6 a6 c3 a G h U b4=>bS g λc1 Q g=>?_)))
  refine tw i (eM a (Cb Pz (Cr Qz Cn)) call87 (λO P=>Aw O k mv Q) ?_)
  rintro _ c2 t b5 a H j d ⟨a9,a2,u,rfl,Y⟩
  cases u
  have a:=a.perm (Tb (Tr Tn))
  refine V (lQ (cB i) Z) ?_
  cases sj g
  exact y _ _ ⟨a9,a2,t,_,G.trans H,a.ll,Z,Z,Y⟩
 refine un i (un i (un i (un i (V (lN (cB i) Z) ?_))))
 cases sj g
 exact y _ _ ⟨q0,qo,qe,_,lM.refl _,a.ll,Z,Z,k⟩
theorem ze (h0:oa qe ((qh,Ob #[q0] 157)::(qo++[])) qa) (y:mg 5 (lJ .u8) 1 q0 ql qo) (hm:uA ql qK=some qS) :
  nt true pg0 80 [vP qh,vA (lp qK)] qa ((qh,Ob #[q0] 157)::(qo++[])) (λv L1 W'=>∃O S2,v=vB qS.1∧L1=((qh,Ob #[O] 157)::(S2++[]))∧mg 5 (lJ .u8) 1 O qS.2 S2):=by
 let i:=(qh,Ob #[q0] 157)::(qo++[])
 refine B6 h0 23 func80 Z (λa=>sg (VE (mA a Z (λW2 q a=>Wa (lr (Wm (V (Bj fj Z Z) (Wm (Vg Z Z (lq Z (lC a.has Mh (lp qK) Z bJ aM)) (bS hm λr3 c4 hm=>Sk Z Z (Eg a ke (wL qK _ _  c4) λW5 a=>?_)))))))))))
 refine V (lQ Z Z) (Wm (LJ hm (λT E W=>∃z u B a0,lM qe B∧ST true (keys i) qa W B ((q,Ol (lp qK) 33)::((qh,Ob #[z] 157)::(u++a0)))∧E 0=vP qh∧E 3=vP q∧E 4=vB false∧E 16=vB T.1∧mg 5 (lJ .u8) 1 z T.2 u) 5 ?_ λT t K=>?_))
 ·rintro ⟨e6,c5⟩ E W ⟨z,u,B,a0,d2,a,c0,c1,a3,c2,N⟩ a6
  refine Wh c2 (LJ a6 (λQ E W=>∃M I U a2,lM B U∧ST true (keys i) qa W U ((qh,Ob #[M] 157)::(I++a2))∧E 4=vB false∧E 22=vB Q.1∧mg 5 (lJ .u8) 1 M Q.2 I) 5 ?_ λQ k J=>?_)
  ·rintro ⟨c6,e1⟩ E W ⟨M,I,U,a2,d3,a,e0,c3,b0⟩ a7
   refine Wg c3 (lt ?_)
   cases sj a7
   exact ma (v:=vB c6) Z Z ⟨_,_,Z,a.mB (Kb (Kr Sn)),M,I,Z,Z,b0⟩
  refine bC k (λg k=>?_) (λg k=>?_)
  ·refine ug g (lz c0) (ug g (ly Bo c1) (ug g (lq Z (lA a.has Mh Z cA)) (bS k λe2 a8 k=>?_)))
   refine tw g (eM a (Cb (Pb Pz) (Cr (Qb Qz) Cn)) call81 (λh _=>Cc h N a8) ?_)
   rintro _ e4 d0 d6 a Y s d ⟨c8,b6,G,rfl,b2⟩
   cases G
   have a:=a.perm (Tb (Tr Tn))
   refine V (lQ (cB g) Z) ?_
   cases sj k
   exact J _ _ ⟨c8,b6,d0,_,Y,a.ll (Kb (Kr (Db St))),a3,Z,b2⟩
  refine un g (un g (un g (un g (V (lN (cB g) Z) ?_))))
  cases sj k
  exact J _ _ ⟨z,u,B,_,lM.refl _,a.ll (Db St),a3,Z,N⟩
 refine bC t (λj t=>?_) (λj t=>?_)
 ·refine ug j (lz Z) (ug j (ly zP Z) (ug j (lq Z (lA a.has Mh Z cA)) (bS t λe3 a9 t=>?_)))
  refine tw j (eM a (Cb (Pb Pz) (Cr (Qb Qz) Cn)) call81 (λh _=>Cc h y a9) ?_)
  rintro _ e5 d1 d7 a P x d ⟨c9,b7,H,rfl,b3⟩
  cases H
  have a:=a.perm (Tb (Tr Tn))
  refine V (lQ (cB j) Z) ?_
  cases sj t
  exact K _ _ ⟨c9,b7,d1,_,P,a.ll (Sb (Pb (Pr Pz)) St),Z,Z,Z,Z,b3⟩
 refine un j (un j (un j (un j (V (lN (cB j) Z) ?_))))
 cases sj t
 exact K _ _ ⟨q0,qo,qe,_,lM.refl _,a.ll,Z,Z,Z,Z,y⟩
theorem yY (j:Sl (Pl (lJ .u8)) 1 (hp qa) q0 ql) (k:At (hp qa) (vP qh) [q0]) (hm:si ql=some qm) :
  na true pg0 82 [vP qh] qa 5 (lJ .u8) 1 qm:=by
 refine vr 10 func82 Z (λa=>sg (Wa (lS (Wm (V (ox fj Z Z) (ln (oV Z (mU ?_))))))))
 refine lE (sg (Wm (Wn (VQ (pM [q0] CR Z k Z) λG u=>V (lq Z (om a.has (y:=q0) u dq)) (bS hm λH x hm=>VE (oG a call19 (Br mv x) λD z I t a B d i=>Wa (lt ?_)))))))
 cases sj hm
 exact ma (v:=z) Z Z ⟨_,t,Z,a.nT (λp g=>Ml g) i.nd,i⟩
theorem Cu (c:lg) (r:List Int) (w:World) (hm:wJ c=some r) :
  na true pg0 44 [vA (lj c)] w 5 (lJ .u8) 1 r:=by
 refine vr 53 func44 Z (λd=>sg (VE (mA d Z (λW2 b1 d=>Wa (lS (VA d Mh (lj c) bF aI (bS hm λr3 g3 hm=>VE (Eg d call76 (xS c _ _  g3) λW5 d=>V (nK Z) (mh ?_)))))))))
 refine lE (CI hm Z (λg0 hm=>?_) λg0 hm=>?_)
 ·refine sg (Wa (ln ?_))
  have d:=d.ll (Db St)
  refine lO (mj ?_)
  cases sj hm
  exact ma (v:=vN) Z Z ⟨_,[],Z,d.nT (λp s=>by cases s) rv,mg.nil _ _ _⟩
 refine kg (V (mW (v:=vA [vN]) pP (mz ji ez (N1 _ ez) kr)) (VE (mA d Z (λW8 g d=>Wa (lr (Wm (Wf AD (VB d (Mt Mh) Z Z bK (bS hm λr9 e2 hm=>?_)))))))))
 refine VE (eM d (Cb Pz (C0 Cn)) jK (λq _=>pd q (mg.nil _ _ _) e2) ?_)
 rintro _ k3 k5 j9 d g7 ad h ⟨g4,f9,I,rfl,e4⟩
 cases I
 have d:=d.perm (Tb (Tr Tn))
 refine lr (Wm (Wf yv (VA d (Mt (Ma Mh)) (lp c.Head) bJ aM (bS hm λN e3 hm=>?_))))
 refine VE (eM d (Cb Pz (Cr Qz Cn)) call80 (λq _=>ze q e4 e3) ?_)
 rintro _ k4 d1 k0 d g8 ae h ⟨G,D,J,rfl,i⟩
 cases J
 have d:=d.perm (Tb (Tr Tn))
 refine ln (lH (CJ hm (λa3 E W=>∃B H K Q,lM d1 K∧ST true nf w W K ((g,Ob #[B] 157)::(H++Q))∧E 3=vP g∧mg 5 (lJ .u8) 1 B a3 H) (λa3 a=>?_) ?_))
 ·refine sg (Wf AD (VB d (Mt (Ma Mh)) Z Z bK (ln (bg (Wi Z (Wa (ln (CI a Z (λb0 a=>?_) λb0 a=>?_))))))))
  ·refine lI (Wm (Wf G2 (VB d (Mt (Ma Mh)) Z Z cA (bS a λi3 b6 a=>?_))))
   refine VE (eM d (Cb Pz (Cr Qz Cn)) call81 (λq _=>Cc q i b6) ?_)
   rintro _ i8 f5 g9 d T P h ⟨e9,d3,k,rfl,c5⟩
   cases k
   have d:=d.perm (Tb (Tr Tn))
   refine mh (mx (lE ?_))
   cases sj a
   exact ⟨e9,d3,f5,_,T,d.ll (Kb (Kr (Db St))),Z,c5⟩
  refine sg (Wi Z (Wa (ln (CI a Z (λb2 a=>?_) λb2 a=>?_))))
  ·refine lI (Wm (Wf ub (VA d (Mt (Ma Mh)) (lp c.B) bJ aM (bS a λi4 b9 a=>?_))))
   refine VE (eM d (Cb Pz (Cr Qz Cn)) call80 (λq _=>ze q i b9) ?_)
   rintro _ i9 f6 h0 d U a6 h ⟨f0,d4,t,rfl,c6⟩
   cases t
   have d:=d.perm (Tb (Tr Tn))
   refine mh (mx (lE ?_))
   cases sj a
   exact ⟨f0,d4,f6,_,U,d.ll (Kb (Kr (Db St))),Z,c6⟩
  refine sg (Wi Z (Wa (ln (CI a Z (λb3 a=>?_) λb3 a=>?_))))
  ·refine sg (Wm (Wf ub (VA d (Mt (Ma Mh)) (lp c.B) bJ aM (bS a λe6 c0 a=>?_))))
   refine VE (eM d (Cb Pz (Cr Qz Cn)) call80 (λq _=>ze q i c0) ?_)
   rintro _ j0 j7 h1 d Y a7 h ⟨f1,d5,u,rfl,c7⟩
   cases u
   have d:=d.perm (Tb (Tr Tn))
   refine ln (lI (Wm (Wf Du (VB d (Mt (Ma Mh)) Z Z cA (bS a λi5 c1 a=>?_)))))
   refine VE (eM d (Cb Pz (Cr Qz Cn)) call81 (λq _=>Cc q c7 c1) ?_)
   rintro _ j3 f7 h2 d Zq a8 h ⟨f2,d6,x,rfl,c8⟩
   cases x
   have d:=d.perm (Tb (Tr Tn))
   refine mh (mx (lE ?_))
   cases sj a
   exact ⟨f2,d6,f7,_,Y.trans Zq,d.ll (Kb (Kr (Db St))),Z,c8⟩
  refine sg (Wi Z (Wa (ln (CI a Z (λb4 a=>?_) λb4 a=>?_))))
  ·refine sg (Wm (Wf ub (VA d (Mt (Ma Mh)) (lp c.B) bJ aM (bS a λe7 c2 a=>?_))))
   refine VE (eM d (Cb Pz (Cr Qz Cn)) call80 (λq _=>ze q i c2) ?_)
   rintro _ j4 j8 h3 d a1 aa h ⟨f3,d7,y,rfl,c9⟩
   cases y
   have d:=d.perm (Tb (Tr Tn))
   refine ln (lI (Wm (Wf Dl (VA d (Mt (Ma Mh)) (lp c.C) bJ aM (bS a λi6 c3 a=>?_)))))
   refine VE (eM d (Cb Pz (Cr Qz Cn)) call80 (λq _=>ze q c9 c3) ?_)
   rintro _ j5 f8 h4 d a2 ab h ⟨f4,d8,z,rfl,d0⟩
   cases z
   have d:=d.perm (Tb (Tr Tn))
   refine mh (mx (lE ?_))
   cases sj a
   exact ⟨f4,d8,f8,_,a1.trans a2,d.ll (Kb (Kr (Db St))),Z,d0⟩
  refine mU (mx (lE ?_))
  cases sj a
  exact ⟨G,D,d1,_,lM.refl _,d.ll (Kb (Kr (Db St))),Z,i⟩
 rintro e5 E W ⟨B,H,K,Q,g1,d,d9,c4⟩ j
 refine sg (Wh d9 (bS j λi2 b5 j=>VE (oG d call82 (yY (c4.sl (λ_=>rfl) λb o s=>d.at_ (Mt (Ml s))) (At.of (d.at_ Mh) _ Z) b5) λh5 e8 j6 d2 d g2 O M=>Wa (ln ?_))))
 have d:=d.ll (Kr (Db (Dr St)))
 refine lO ?_
 cases sj j
 exact ma (v:=e8) Z Z ⟨_,d2,Z,d.nT (λp s=>Ml s) M.nd,M⟩
theorem Mu (i:Sl (Pl (lJ .u8)) 1 (hp qa) q0 ql) (hm:Ae ql=some qf) :
  mo true pg0 77 [q0] qa (vB qf):=by
 refine cG 11 func77 Z (λd=>sg (Wa (lr (Wm (V (mP aZ Z i) (Wi Z (Wm (LJ hm (λx E W=>∃k,ST true nf qa W (hp qa) k∧E 2=vB false∧E 10=vB x) 4 ?_ λx c g=>?_))))))))
 ·rintro B E W ⟨k,d,z,y⟩ u
  exact Wg y (lt (rQ u d))
 refine bC c (λa c=>?_) (λa c=>?_)
 ·refine ug a (lz Z) (ug a (mP aZ Z i) (ug a (mL Z Z Z) (V (lQ (cB a) Z) ?_)))
  cases sj c
  exact g _ _ ⟨_,d.ll,Z,Z⟩
 refine un a (un a (un a (V (lN (cB a) Z) ?_)))
 cases sj c
 exact g _ _ ⟨_,d.ll,Z,Z⟩
theorem Pw (Q:Sl (wo (lJ .u8) 1) 1 (hp qa) q0 qX) (hm:HB qX=some qb) :
  mo true pg0 78 [q0] qa (.int .u64 qb):=by
 refine cG 28 func78 Z (λd=>sg (Wa (lr (Wa (lS (Wm ?_))))))
 refine V (mP dH Z Q) (Wm (ln (nM 10 9 (λi s E W=>∃x B,ST true nf qa W (hp qa) B∧E 3= .int .u64 x∧E 8=q0∧Co s x=some qb) Q.len ⟨14695981039346656037,_,d.ll,Z,Z,hm⟩ ?_ ?_)))
 ·rintro T b3 b5 E W O ⟨⟨h,q⟩,x,B,d,G,H,g⟩
  refine sg (VQ (DT (enc:=lJ .u8) (k2:=1) (i:=(T:Int)) (x0:=b3) dH dA H h Q (aF _) O) λb7 ⟨u,a4,z⟩=>V (lq Z (om d.has (y:=u) a4 dq)) (Wa (lr (Wm (V (mP aZ Z z) (Wm (ln (xl ?_))))))))
  refine CJ g (λU E W=>∃Y,ST true nf qa W (hp qa) Y∧E 3= .int .u64 U∧E 8=q0∧E 9=vI (qX.length:Int)∧E 10=vI (T:Int)) (λU a3=>?_) ?_
  ·refine nM 16 15 (λi s E W=>∃c D,ST true nf qa W (hp qa) D∧E 3= .int .u64 c∧E 8=q0∧E 9=vI (qX.length:Int)∧E 10=vI (T:Int)∧E 14=u∧Cj s c=some U) z.len ⟨x,_,d.ll,G,H,q,h,Z,a3⟩ ?_ ?_
   ·rintro b2 t b6 E W P ⟨⟨h,q⟩,c,D,d,I,J,K,M,N,j⟩
    refine sg (VQ (rp (enc:=lJ .u8) (i:=(b2:Int)) (x0:=t) aZ gb N h z (aF _) P) λb9 a5=>V (lq Z (om d.has (y:= .int .u8 t) a5 isAgg5)) (Wa (ln (lI (Wh I (Wm (V (uI (k':=.u8) (a:=t) eS underlying153 Z) (V (XX (k:=.u64) (a:=c) (b:=IntKind.u64.wrap t) (v:= .int .u64 (IntKind.u64.wrap (BitVec.ofInt (IntKind.bits .u64) c ^^^ BitVec.ofInt (IntKind.bits .u64) (IntKind.u64.wrap t)).toNat)) Z Z Z) (Wi Z (Wa (mh ?_)))))))))))
    exact mx (lE ⟨h,q,IntKind.u64.wrap ((IntKind.u64.wrap (BitVec.ofInt (IntKind.bits .u64) c ^^^ BitVec.ofInt (IntKind.bits .u64) (IntKind.u64.wrap t)).toNat)*1099511628211),_,d.ll,Z,J,K,M,N,j⟩)
   rintro E W ⟨⟨h,q⟩,c,D,d,I,J,K,M,N,j⟩
   refine lE ?_
   cases sj j
   exact ⟨_,d.ll,I,J,K,M⟩
  rintro b4 E W ⟨Y,d,a8,a9,b0,b1⟩ a2
  exact mx (lE ⟨b1,b0,b4,_,d.ll,a8,a9,a2⟩)
 rintro E W ⟨⟨h,q⟩,x,B,d,G,H,g⟩
 exact lE (sg (Wh G (Wa (lt (rQ g d)))))
theorem Nq (j:Sl (Pl (lJ .u8)) 1 (hp qa) q0 ql) (U:Sl (Pl (lJ .u8)) 1 (hp qa) q1 qm) (hm:EC ql qm=some qn) :
  na true pg0 43 [q0,q1] qa 5 (lJ .u8) 1 qn:=by
 let a2:=(ql.length:Int)
 refine vr 37 func43 Z (λd=>sg (Wa (lS (Wm (bS hm λr1 b4 hm=>VE (Eg d call77 (Mu mv b4) λW3 d=>V (nK Z) (ln ?_)))))))
 refine CI hm Z (λb3 hm=>?_) (λb3 hm=>?_)
 ·refine sg (Wa (lt (mj ?_)))
  cases sj hm
  exact ma (v:=vN) Z Z ⟨_,[],Z,d.nT (λp q=>by cases q) rv,mg.nil _ _ _⟩
 refine kg (Wm (V (mP aZ Z j) (V (uI (k':=.i64) (a:=(ql.length:Int)) dT eS Z) (VE (mn (cs:=[.int .u8 (IntKind.u8.wrap a2)].toArray) d (nw Z) (nU aZ gb jJ) λW6 s d=>Wm (Wm (Wm ?_)))))))
 obtain ⟨D,I,rfl⟩:=j.form
 let g:Value:= .slice D ql.length I
 obtain ⟨A9,T,rfl⟩:=U.form
 refine VE (mn (cs:=#[.slice (some ⟨s,0,none⟩) 1 1,g,.slice A9 qm.length T,g]) d (RL Z Z Z Z) (nU dH dA fL) λc2 b2 d=>bS hm λx a9 hm=>VE (Eg d call78 (Pw (wo.lit (l:=[[IntKind.u8.wrap a2],ql,qm,ql]) (vs:=[.slice (some ⟨s,0,none⟩) 1 1,g,.slice A9 qm.length T,g]) Z nb (d.at_ Mh) (.cons (Sl.lit (enc:=lJ .u8) (l:=[IntKind.u8.wrap a2]) (λ_=>rfl) Z nb Z (d.at_ (Mt Mh))) (.cons mv (.cons mv (.cons mv .nil))))) a9) λc3 d=>Wa (ln ?_)))
 have d:=d.ll (Db (Db St))
 refine sg (bS hm λb6 a8 hm=>VE (Mc (enc:=lJ .u8) (z:=0) d (λ_=>rfl) dc aZ sL.1 sL.2.1 sL.2.2.1 sL.2.2.2 Z Z Z a8 λc4 Y b1 d N=>Wa (lS (Wm (V (sf aZ Z N) (Wm (ln ?_)))))))
 refine nM 23 22 (λi js E W=>∃J G K,ST true nf qa W (hp qa) (G++K)∧E 5= .int .u64 x∧E 6=Y∧mg 5 (lJ .u8) 1 Y J G∧vz x js i J=some qn) N.len ⟨b6,b1,_,d.ll,Z,Z,N,hm⟩ ?_ ?_
 ·rintro t c5 c1 E W b9 ⟨⟨h,O⟩,J,G,K,d,M,y,k,c⟩
  let a0:=wi0 .i64 (8*(wi0 .i64 (7-(t:Int))))
  refine sg (Wh h (Wa (ln (lI (Wh y (Wm (Wh M (Wm (Wi Z (Wi Z (bS c λ_ a5 c=>V (JM (a:=x) (b:=a0) Z Z (Yb a5)) ?_)))))))))))
  exact V (uI (k':=.u64) (a:=Int.fdiv x (2 ^ min (Int.toNat a0) (IntKind.bits .u64))) underlying153 eS Z) (bS c λb0 B c=>VQ (pC (i:=(t:Int)) (x0:=b0) aZ gb Z Z k (mK B) (mE B)) λc0 P=>VO (zF (u:= .int .u8 (IntKind.u8.wrap (Int.fdiv x (2 ^ min (Int.toNat a0) (IntKind.bits .u64))))) (x1:=IntKind.u8.wrap (Int.fdiv x (2 ^ min (Int.toNat a0) (IntKind.bits .u64))))  d k (λ_=>rfl) (vM _) Z Z Z P (mE B) gb λb7 Q d a4=>mh (mx (lE ⟨h,O,J.set (Int.toNat (t:Int)) (IntKind.u8.wrap (Int.fdiv x (2 ^ min (Int.toNat a0) (IntKind.bits .u64)))),Q,_,d.ll,M,y,a4,c⟩))))
 rintro E W ⟨⟨h,O⟩,J,G,K,d,M,y,k,c⟩
 refine lE (sg (Wh y (Wa (lt ?_))))
 cases sj c
 exact ma (v:=Y) Z Z ⟨_,G,Z,d.nT (λp q=>Ml q) k.nd,k⟩
theorem JI {r:(Signed×Int)} (Q:oa qe [] qa) (H:pV nh qe q0 qD) (hm:EM qD qC=some r) :
  my true pg0 13 [q0,vA (lj qC)] qa qe [] (λv L1 μ1=>∃P,v=vT [vA [vI r.1.lg.Kind,vS r.1.lg.Head.lu,vS r.1.lg.Head.Word,vS r.1.lg.nj,vS r.1.lg.B.lu,vS r.1.lg.B.Word,vS r.1.lg.C.lu,vS r.1.lg.C.Word,vS r.1.lg.mV,P],vI r.2]∧L1=[]∧Sl (Pl (lJ .u8)) 1 μ1 P r.1.Tag):=by
 refine rG Q 24 func13 Z (λa=>sg (VE (mA a Z (λW2 b1 a=>VE (lY a cQ λW4 b3 a=>Wa (lr (Wm (VA a (Mt Mh) (lj qC) bF aI (bS hm λU T hm=>?_)))))))))
 refine VE (eD a (aT _) call42 (λW=>FI W mv T) ?_ (L0:=[]))
 rintro _ b9 a1 a9 a y h ⟨a3,t,rfl,N⟩
 cases t
 refine Wm (Wx Z (Wx Z (Wa (Wa (lS (Wm (Wi Z (ln (CI hm Z (λI hm=>?_) λI hm=>?_)))))))))
 ·refine sg (V (mW (v:=vA C9) pP (mz cQ dY (OG _ dY) kr)) (Wm (VO (FA C9.toArray a bW λb4 a=>Wa (ln ?_)))))
  have a:=a.ll (Kb (Db St))
  refine lO (mj ?_)
  cases sj hm
  exact rf (v0:=vA C9) (v1:=vI U.2) Z Z (lC a.has Mh C9 Z eE bW) Z ⟨_,_,_,Z,a.mB Sn,y,h,ST.lG a (mJ.mem Sn),vN,Z,Z,Sl.nil _ _ _⟩
 refine kn (lH ?_)
 have a:=a.drew
 have d:=a.has.ll (Db (Kb Sn))
 refine mF d lV (XH 0 Z d (λ_ O=>lq Z (lC O Mh (lj qC) Z bF aI)) (X 1 Z d (lz Z) (XH 2 Z d (λ_ O=>lq Z (lC O Mh (lj qC) Z bF aI)) (bS hm λY J hm=>XE 3 Z (oG a call44 (Cu qC _ _  J) λb5 Zq c1 b0 a c q G=>?_)))))
 have d:=a.has.nx c (Dr (Db (Kb Sn)))
 refine ⟨d,bS hm λj K hm=>XE 4 Z (oG a call43 (Nq mv (G.sl (λ_=>rfl) λb o hq=>a.at_ (Ml hq)) K) λb6 c0 c2 b2 a k s x=>?_)⟩
 have d:=a.has.nx (c.trans k) (Dr (Dr (Db (Kb Sn))))
 refine ⟨d,?_⟩
 obtain ⟨g,i,rfl⟩:=x.form
 let D:=C3 qC.Kind qC.Head.lu qC.Head.Word qC.nj qC.B.lu qC.B.Word qC.C.lu qC.C.Word qC.mV g j.length i
 refine X 5 Z d (mW (v:=vA D) (pZ Z Z) (mz cQ dY (OG _ dY) kr)) ?_
 have a:=a.perm (Nb (Pr (Pr Pz)) Nz)
 refine XO 6 Z (FA D.toArray a bW λb7 a=>?_)
 have d:=a.has.nx (c.trans k) (Db (Dr (Dr (Kb Sn))))
 refine ⟨d,X 7 Z d (nB Z) (mG kr (lE ?_))⟩
 have a:=a.ll (Kb (Kr (Dr (Db St))))
 refine lO ?_
 cases sj hm
 refine rf (v0:=vA D) (v1:=vI 0) Z Z (lC a.has Mh D Z eE bW) Z ?_
 have a:=a.perm (Nr (Qb Qz) Nz)
 obtain ⟨c3,a,z,u,M⟩:=ST.xM a x (λ_=>rfl)
 exact ⟨_,_,_,Z,a.mB Sn,((y.trans c).trans k).trans z,((h.trans q).trans s).trans u,ST.lG a (mJ.mem Sn),.slice g j.length i,Z,Z,M⟩
theorem Vb (h0:oa qe [] qa) (i:Sl (Pl lp) 2 qe q0 qH.nX) (g:Sl mR 10 qe q1 qH.nm) (hm:AT qH=some qI) :
  my true pg0 84 [vA [vI qH.Kind,vI qH.ny,vI qH.E,vS qH.Name,q0,q1]] qa qe [] (λv L1 μ1=>∃P y3,v=vA [vI qI.Kind,vI qI.ny,vI qI.E,vS qI.Name,P,y3]∧L1=[]∧Sl (Pl lp) 2 μ1 P qI.nX∧Sl mR 10 μ1 y3 qI.nm):=by
 let h:Value:=vI qH.Kind
 refine rG h0 31 func84 Z (λa=>sg ?_)
 obtain ⟨N,Q,rfl⟩:=i.form
 let k:Value:= .slice N qH.nX.length Q
 obtain ⟨Y,Zq,rfl⟩:=g.form
 let q:Value:= .slice Y qH.nm.length Zq
 refine VE (mA a Z (λW6 b5 a=>VE (lY a cC λW8 J a=>lr (Wf Aa (VB a (Mt Mh) Z Z bK (V (mW (v:=vA (Zj qH.Kind)) (nw Z) (mz cC bO (Be _ bO) kr)) (VE (lY a cC λb6 O a=>VO (FA ((Zj qH.Kind).toArray) a bR λc0 a=>ln (lH (CJ hm (λt E W=>∃K M s,ST true (keys []) qa W qe ((O,Ob #[h,vI t.1,vI t.2.1,vS t.2.2.1,K,M] 79)::((J,Ol C4 79)::s))∧E 2=vP J∧E 3=vP O∧Sl (Pl lp) 2 qe K t.2.2.2.1∧Sl mR 10 qe M t.2.2.2.2) (λt c=>?_) ?_)))))))))))
 ·refine sg (Wf Aa (VB a (Mt (Mt Mh)) Z Z bK (ln (bg (Wi Z (Wa (ln (CI c Z (λa3 c=>?_) λa3 c=>?_))))))))
  ·have a:=a.drew
   have d:=a.has.ll (Db (Db (Kb Sn)))
   refine mF d lV (X 0 Z d (ly FO Z) (XH 1 Z d (λ_ j=>lq Z (lA j Mh Z cA)) (X 2 Z d (ly Er Z) (XH 3 Z d (λ_ j=>lq Z (lA j Mh Z bK)) (X 4 Z d (ly FO Z) (XO 5 Z (lZ (vS qH.Name) (#[h,vI 0,vI 0,vS qH.Name,vN,vN]) a Z Z fK (O4 qH.Name) nb Z (λc3 a=>?_))))))))
   have d:=a.has.ll (Db (Db (Kb Sn)))
   refine ⟨d,X 6 Z d (ly Er Z) (XO 7 Z (lZ (vI qH.ny) (#[h,vI qH.ny,vI 0,vS qH.Name,vN,vN]) a Z Z dn (vM _ qH.ny) nb Z (λc5 a=>?_)))⟩
   have d:=a.has.ll (Db (Db (Kb Sn)))
   refine ⟨d,mG kr (mx (lE ?_))⟩
   cases sj c
   exact ⟨vN,vN,_,a.ll (Kb (Kb (Db St))),Z,Z,Sl.nil _ _ _,Sl.nil _ _ _⟩
  refine sg (Wi Z (Wa (ln (CI c Z (λa4 c=>?_) λa4 c=>?_))))
  ·have a:=a.drew
   have d:=a.has.ll (Db (Db (Kb Sn)))
   refine mF d lV (X 0 Z d (ly Cf Z) (XH 1 Z d (λ_ j=>lq Z (lA j Mh Z eU)) (X 2 Z d (ly AM Z) (XH 3 Z d (λ_ j=>lq Z (lA j Mh Z iG)) (X 4 Z d (ly Cf Z) (XO 5 Z (lZ k (#[h,vI 0,vI 0,vS zS,k,vN]) a Z Z fX oc nb Z (λc6 a=>?_))))))))
   have d:=a.has.ll (Db (Db (Kb Sn)))
   refine ⟨d,X 6 Z d (ly AM Z) (XO 7 Z (lZ q (#[h,vI 0,vI 0,vS zS,k,q]) a Z Z sizeOf77 oc nb Z (λc7 a=>?_)))⟩
   have d:=a.has.ll (Db (Db (Kb Sn)))
   refine ⟨d,mG kr (mx (lE ?_))⟩
   cases sj c
   exact ⟨k,q,_,a.ll (Kb (Kb (Db St))),Z,Z,i,g⟩
  refine sg (Wi Z (Wa (ln (CI c Z (λa5 c=>?_) λa5 c=>?_))))
  ·refine lI (Wf ER (VB a (Mt (Mt Mh)) Z Z bK (Wf ER (VO (lZ (vI qH.E) (#[h,vI 0,vI qH.E,vS zS,vN,vN]) a Z Z dn (vM _ qH.E) nb Z (λc8 a=>mh (mx (lE ?_))))))))
   cases sj c
   exact ⟨vN,vN,_,a.ll (Kb (Kb (Db St))),Z,Z,Sl.nil _ _ _,Sl.nil _ _ _⟩
  refine mU (mx (lE ?_))
  cases sj c
  exact ⟨vN,vN,_,a.ll (Kb (Kb (Db St))),Z,Z,Sl.nil _ _ _,Sl.nil _ _ _⟩
 rintro ⟨G,H,I,B,D⟩ E W ⟨K,M,s,a,a2,a9,T,U⟩ a6
 refine sg (V (lq a9 (lC a.has Mh [h,vI G,vI H,vS I,K,M] Z dv bR)) ?_)
 obtain ⟨u,y,rfl⟩:=T.form
 obtain ⟨x,z,rfl⟩:=U.form
 let a0:=C6 qH.Kind G H I u B.length y x D.length z
 have a:=a.perm (Nb (Pb Pz) Nz)
 refine VO (lZ (vA a0) a0.toArray a a2 Z bR oc nb Z (λc1 a=>ln ?_))
 have a:=a.ll (Kb (Db St))
 refine lO ?_
 cases sj a6
 exact oW (v:=vA a0) Z a2 (lC a.has Mh a0 Z dv bR) ⟨_,_,_,Z,a.mB Sn,lM.refl _,Lo.refl,ST.lG a (mJ.mem Sn),.slice u B.length y,.slice x D.length z,Z,Z,T,U⟩
theorem zj (c:Sl (Pl lp) 2 (hp qa) q0 qv) (y:Sl (Pl lp) 2 (hp qa) q1 qw) (hm:sv qv qw=some qf) :
  mo true pg0 103 [q0,q1] qa (vB qf):=by
 refine cG 26 func103 Z (λh=>sg (Wa (lS (Wm (V (mP aQ Z c) (Wm (V (mP aQ Z y) (Wi Z (mh ?_)))))))))
 refine lE (CI hm Z (λN hm=>?_) λN hm=>?_)
 ·refine sg (Wa (lt (mj ?_)))
  cases sj hm
  exact rP h
 refine kS (Wm (V (mP aQ Z c) (Wm (ln (nM 13 12 (λi u E W=>∃g,ST true nf qa W (hp qa) g∧E 0=q0∧E 1=q1∧tQ qw u i=some qf) c.len ⟨_,h.ll,Z,Z,hm⟩ ?_ ?_)))))
 ·rintro H I Y E W K ⟨⟨q,t⟩,g,h,j,k,a⟩
  refine sg (Wh q (Wa (ln (lH ?_))))
  have h:=h.drew
  have d:=h.has.ll Sn
  refine mF d lV (X 0 Z d (lz j) (X 1 Z d (lz Z) (XQ 2 Z d (rp (enc:=lp) (i:=(H:Int)) (x0:=I) aQ aM Z Z c (aF _) K) λQ D=>XH 3 Z d (λ_ s=>lq Z (mu s D bJ aM)) (X 4 Z d (lz k) (X 5 Z d (lz Z) (bS a λz x a=>XQ 6 Z d (rp (enc:=lp) (i:=(H:Int)) (x0:=z) aQ aM Z Z y (mK x) (mE x)) λT G=>XH 7 Z d (λ_ s=>lq Z (mu s G bJ aM)) (X 8 Z d (QP Z Z (rY gp) (Lq (yR _ I z))) (mG kr (lE (CI a Z (λB a=>?_) λB a=>?_))))))))))
  ·refine sg (Wa (lt (nz (mj (nz (mj ?_))))))
   cases sj a
   exact rP h
  exact mU (mx (lE ⟨q,t,_,h.ll,j,k,a⟩))
 rintro E W ⟨⟨q,t⟩,g,h,j,k,a⟩
 exact lE (sg (Wa (lt (rQ a h))))
theorem xa {f2:(Signed×Signed)→Option Bool} (x:Sl mR 10 (hp qa) q0 qT) (N:Sl mR 10 (hp qa) q1 qU) (a4:AQ pg0 q2 (hp qa) (An mR mR) (λ(qf:Bool)=>vB qf) f2) (hm:nc qT qU f2=some qf) :
  mo false pg0 124 [q0,q1,q2] qa (vB qf):=by
 refine cG 32 func124 Z (λd=>sg (Wa (lS (Wm (V (mP cF Z x) (Wm (V (mP cF Z N) (Wi Z (mh ?_)))))))))
 refine lE (CI hm Z (λv hm=>?_) λv hm=>?_)
 ·refine sg (Wa (lt (mj ?_)))
  cases sj hm
  exact rP d
 refine kS (Wm (V (mP cF Z x) (Wm (ln (nM 17 16 (λi I E W=>∃y,ST false nf qa W (hp qa) y∧E 1=q1∧E 2=q2∧E 15=q0∧ml qU f2 I i=some qf) x.len ⟨_,d.ll,Z,Z,Z,hm⟩ ?_ ?_)))))
 ·rintro q c c2 E W a5 ⟨⟨h,s⟩,y,d,z,B,D,g⟩
  refine sg (Wh h (VQ (nI (i:=(q:Int)) (x0:=c) mR.out cF bW D h x (aF _) a5) λb5 ⟨_,⟨b9,rfl,J⟩,T⟩=>V (lq Z (mu d.has T eE bW)) (VE (lY d cQ λO b3 d=>Wa ?_))))
  obtain ⟨j,t,rfl⟩:=J.form
  let a2:=C3 c.lg.Kind c.lg.Head.lu c.lg.Head.Word c.lg.nj c.lg.B.lu c.lg.B.Word c.lg.C.lu c.lg.C.Word c.lg.mV j c.Tag.length t
  refine VO (FA a2.toArray d bW λa9 d=>lr (Wh z (Wm (bS g λa M g=>VQ (nI (i:=(q:Int)) (x0:=a) mR.out cF bW Z Z N (mK M) (mE M)) λb6 ⟨_,⟨c0,rfl,K⟩,U⟩=>V (lq Z (mu d.has U eE bW)) (VE (lY d cQ λP b4 d=>?_))))))
  obtain ⟨k,u,rfl⟩:=K.form
  let a3:=C3 a.lg.Kind a.lg.Head.lu a.lg.Head.Word a.lg.nj a.lg.B.lu a.lg.B.Word a.lg.C.lu a.lg.C.Word a.lg.mV k a.Tag.length u
  refine VO (FA a3.toArray d bW λb1 d=>lr (Wh B (VA d (Mt Mh) a2 eE bW (VA d Mh a3 eE bW (bS g λb7 Y g=>VE (BR (c,a) d a4 (lM.refl _) (An.mk ra ra (mR.mk ⟨.slice j c.Tag.length t,Z,J⟩) (mR.mk ⟨.slice k a.Tag.length u,Z,K⟩) d.ns) Z (px Z Z) Y λb2 d=>V (nK Z) (ln ?_)))))))
  have d:=d.ll (Db (Db St))
  refine CI g Z (λQ g=>?_) (λQ g=>?_)
  ·refine sg (Wa (lt (nz (mj (nz (mj ?_))))))
   cases sj g
   exact rP d
  exact mU (mx (lE ⟨h,s,_,d.ll,z,B,D,g⟩))
 rintro E W ⟨⟨h,s⟩,y,d,z,B,D,g⟩
 exact lE (sg (Wa (lt (rQ g d))))
theorem Bp (g:Sl (Pl (lJ .u8)) 1 (hp qa) q0 ql) (i:Sl (Pl (lJ .u8)) 1 (hp qa) q1 qm) (hm:rk ql qm=some qf) :
  mo true pg0 74 [q0,q1] qa (vB qf):=by
 refine cG 10 func74 Z (λa=>sg (Wa (lr (Wm (V (OW aZ eS bX Z mv) (Wm (V (OW aZ eS bX Z mv) (V (QO Z Z Z) (Wa (mh ?_))))))))))
 exact lE (lO (rQ hm a))
theorem M7 {a c:Signed} (j:Sl (Pl (lJ .u8)) 1 (hp qa) q0 a.Tag) (k:Sl (Pl (lJ .u8)) 1 (hp qa) q1 c.Tag) (hm:rn a c=some qf) :
  mo true pg0 125 [vA [vI a.lg.Kind,vS a.lg.Head.lu,vS a.lg.Head.Word,vS a.lg.nj,vS a.lg.B.lu,vS a.lg.B.Word,vS a.lg.C.lu,vS a.lg.C.Word,vS a.lg.mV,q0],vA [vI c.lg.Kind,vS c.lg.Head.lu,vS c.lg.Head.Word,vS c.lg.nj,vS c.lg.B.lu,vS c.lg.B.Word,vS c.lg.C.lu,vS c.lg.C.Word,vS c.lg.mV,q1]] qa (vB qf):=by
 refine cG 17 func125 Z (λd=>sg ?_)
 obtain ⟨G,I,rfl⟩:=j.form
 refine VE (mA d Z (λU h d=>?_))
 obtain ⟨H,J,rfl⟩:=k.form
 refine VE (mA d Z (λY q d=>Wa (lr (Wf sP (VA d (Mt Mh) (lj a.lg) bF aI (Wf sP (VA d Mh (lj c.lg) bF aI (V (A4 Z Z (rY fi) (xu (Ao _ a.lg c.lg))) (Wm (LJ hm (λz E W=>∃y,ST true nf qa W (hp qa) y∧E 4=vB false∧E 16=vB z) 6 ?_ λz i x=>?_))))))))))
 ·rintro T E W ⟨y,d,N,K⟩ B
  exact Wg K (lt (rQ B d))
 refine bC i (λg i=>?_) (λg i=>?_)
 ·refine ug g (ly B9 Z) (ug g (lq Z (lA d.has (Mt Mh) Z dq)) (ug g (ly B9 Z) (ug g (lq Z (lA d.has Mh Z dq)) (bS i λQ D i=>tw g (Eg d call74 (Bp mv mv D) λM d=>V (lQ (cB g) Z) ?_)))))
  cases sj i
  exact x _ _ ⟨_,d.ll (Db (Db St)),Z,Z⟩
 refine un g (un g (un g (un g (un g (V (lN (cB g) Z) ?_)))))
 cases sj i
 exact x _ _ ⟨_,d.ll (Db (Db St)),Z,Z⟩
theorem Vf (B:Sl (Pl lp) 2 (hp qa) q0 qH.nX) (z:Sl mR 10 (hp qa) q1 qH.nm) (G:Sl (Pl lp) 2 (hp qa) q2 qI.nX) (D:Sl mR 10 (hp qa) q3 qI.nm) (hm:Ab qH qI=some qf) :
  mo false pg0 83 [vA [vI qH.Kind,vI qH.ny,vI qH.E,vS qH.Name,q0,q1],vA [vI qI.Kind,vI qI.ny,vI qI.E,vS qI.Name,q2,q3]] qa (vB qf):=by
 refine cG 47 func83 Z (λa=>sg ?_)
 obtain ⟨A1,c2,rfl⟩:=B.form
 obtain ⟨A3,c4,rfl⟩:=z.form
 let a0:=C6 qH.Kind qH.ny qH.E qH.Name A1 qH.nX.length c2 A3 qH.nm.length c4
 refine VE (mA a Z (λW6 Y a=>?_))
 obtain ⟨A7,c8,rfl⟩:=G.form
 obtain ⟨A9,U,rfl⟩:=D.form
 let d:=C6 qI.Kind qI.ny qI.E qI.Name A7 qI.nX.length c8 A9 qI.nm.length U
 refine VE (mA a Z (λf1 M a=>Wa (lr (Wf Aa (VB a (Mt Mh) Z Z bK (Wf Aa (VB a Mh Z Z bK (Wi Z (Wm (LJ hm (λd3 E W=>∃c1,ST false nf qa W (hp qa) ((M,Ol d 79)::((Y,Ol a0 79)::c1))∧E 2=vP Y∧E 3=vP M∧E 17=vB d3) 6 ?_ λd3 T a5=>?_))))))))))
 ·let q:Value:=(vP M)
  let h:Value:=vP Y
  rintro f6 E W ⟨c1,a,s,v,e1⟩ d4
  refine Wh e1 (LJ d4 (λd2 E W=>∃c3,ST false nf qa W (hp qa) ((M,Ol d 79)::((Y,Ol a0 79)::c3))∧E 2=h∧E 3=q∧E 24=vB d2) 6 ?_ λd2 Q a4=>?_)
  ·rintro f7 E W ⟨c3,a,I,J,e2⟩ d5
   refine Wh e2 (LJ d5 (λd1 E W=>∃c5,ST false nf qa W (hp qa) ((M,Ol d 79)::((Y,Ol a0 79)::c5))∧E 2=h∧E 3=q∧E 31=vB d1) 6 ?_ λd1 N a3=>?_)
   ·rintro f8 E W ⟨c5,a,O,P,e3⟩ d6
    refine Wg e3 (lr (Wm (Wm (LJ d6 (λd0 E W=>∃c6,ST false nf qa W (hp qa) ((M,Ol d 79)::((Y,Ol a0 79)::c6))∧E 2=h∧E 3=q∧E 39=vB d0) 6 ?_ λd0 y a2=>?_))))
    ·rintro f9 E W ⟨c6,a,e4,e5,e6⟩ d7
     refine Wh e6 (LJ d7 (λc9 E W=>∃c7,ST false nf qa W (hp qa) c7∧E 46=vB c9) 6 ?_ λc9 u Zq=>?_)
     ·rintro g0 E W ⟨c7,a,e7⟩ d8
      exact Wg e7 (lt (rQ d8 a))
     refine bC u (λt u=>?_) (λt u=>?_)
     ·refine ug t (ly AM e4) (ug t (lq Z (lA a.has (Mt Mh) Z iG)) (ug t (ly AM e5) (ug t (lq Z (lA a.has Mh Z iG)) (bS u λf4 d9 u=>tw t (Eg a call124 (xa mv mv ⟨125,#[],#[],Z,call125,λW x vs qf hs hR hm=>by obtain ⟨_,_,rfl,e8,e9⟩:=hR; obtain ⟨u0,rfl,k0⟩:=e8.out; obtain ⟨t0,rfl,j0⟩:=e9.out; exact (M7 k0 j0 hm).mN⟩ d9) λf2 a=>V (lQ (cB t) Z) ?_)))))
      cases sj u
      exact Zq _ _ ⟨_,a.ll (Db (Db St)),Z⟩
     refine un t (un t (un t (un t (un t (V (lN (cB t) Z) ?_)))))
     cases sj u
     exact Zq _ _ ⟨_,a.ll (Db (Db St)),Z⟩
    refine bC y (λk y=>?_) (λk y=>?_)
    ·refine ug k (ly Cf O) (ug k (lq Z (lA a.has (Mt Mh) Z eU)) (ug k (ly Cf P) (ug k (lq Z (lA a.has Mh Z eU)) (bS y λf5 e0 y=>tw k (Eg a call103 (mo.mN (zj mv mv e0)) λf3 a=>V (lQ (cB k) Z) ?_)))))
     cases sj y
     exact a2 _ _ ⟨_,a.ll,O,P,Z⟩
    refine un k (un k (un k (un k (un k (V (lN (cB k) Z) ?_)))))
    cases sj y
    exact a2 _ _ ⟨_,a.ll,O,P,Z⟩
   refine bC N (λj N=>?_) (λj N=>?_)
   ·refine ug j (ly FO I) (ug j (lq Z (lA a.has (Mt Mh) Z cA)) (ug j (ly FO J) (ug j (lq Z (lA a.has Mh Z cA)) (ug j (QO Z Z Z) (V (lQ (cB j) Z) ?_)))))
    cases sj N
    exact a3 _ _ ⟨_,a.ll,I,J,Z⟩
   refine un j (un j (un j (un j (un j (V (lN (cB j) Z) ?_)))))
   cases sj N
   exact a3 _ _ ⟨_,a.ll,I,J,Z⟩
  refine bC Q (λi Q=>?_) (λi Q=>?_)
  ·refine ug i (ly ER s) (ug i (lq Z (lA a.has (Mt Mh) Z bK)) (ug i (ly ER v) (ug i (lq Z (lA a.has Mh Z bK)) (ug i (mL Z Z Z) (V (lQ (cB i) Z) ?_)))))
   cases sj Q
   exact a4 _ _ ⟨_,a.ll,s,v,Z⟩
  refine un i (un i (un i (un i (un i (V (lN (cB i) Z) ?_)))))
  cases sj Q
  exact a4 _ _ ⟨_,a.ll,s,v,Z⟩
 refine bC T (λg T=>?_) (λg T=>?_)
 ·refine ug g (ly Er Z) (ug g (lq Z (lA a.has (Mt Mh) Z bK)) (ug g (ly Er Z) (ug g (lq Z (lA a.has Mh Z bK)) (ug g (mL Z Z Z) (V (lQ (cB g) Z) ?_)))))
  cases sj T
  exact a5 _ _ ⟨_,a.ll,Z,Z,Z⟩
 refine un g (un g (un g (un g (un g (V (lN (cB g) Z) ?_)))))
 cases sj T
 exact a5 _ _ ⟨_,a.ll,Z,Z,Z⟩
theorem BG (a:Sl (Pl lp) 2 (hp qa) q0 qv) (hm:tU qv=some qw) :
  na true pg0 63 [q0] qa 33 lp 2 qw:=by
 unfold tU at hm
 refine vr 8 func63 Z (λd=>sg (Wa (lS (Wm ?_))))
 obtain ⟨y,B,rfl⟩:=a.form
 refine V (D5 aQ Z Z) (ln ?_)
 rcases y with _ | z
 ·have u:=a.isNil
  replace hm:some []=some qw:=by rw [u] at hm; simpa [oY,maxLen] using hm
  refine xz (rfl) (sg (Wa (lt (mj ?_))))
  cases sj hm
  exact ma (v:=vN) Z Z ⟨_,[],Z,d.nT (λp g=>by cases g) rv,mg.nil _ _ _⟩
 ·refine oV (rfl) (kg (VE (mn (cs:=#[]) d pP (Eb [] aQ aM dE dc Z rv Z Z) λG k d=>Wm (bS hm λH t hm=>VE (oU (enc:=lp) (v:= .slice (some ⟨k,0,none⟩) 0 0) (vs:= .slice (some z) qv.length B) (R:=[(k,Ob #[] 33)]) d nC dc pt aQ oI.1 oI.2.1 Z oI.2.2.1 oI.2.2.2 Z Z (mg.lit (l:=[]) (enc:=lp) Z dc Z Z) mv t λD x j d c=>Wa (lt ?_))))))
  cases sj hm
  exact ma (v:=x) Z Z ⟨_,j,Z,d.nT (λp g=>Ml g) c.nd,c⟩
theorem Ht {z:lh→Option Bool} (c:Sl (Pl lp) 2 (hp qa) q0 qv) (B:Dd pg0 q1 (hp qa) (λ(x:lh)=>[vA (lp x)]) (λ(qb:Bool)=>vB qb) z) (hm:zp qv z=some qb) :
  mo false pg0 182 [q0,q1] qa (vI qb):=by
 refine cG 19 func182 Z (λd=>sg (Wa (lS (Wm (V (mP aQ Z c) (Wm (ln (nM 8 7 (λi j E W=>∃k,ST false nf qa W (hp qa) k∧E 0=q0∧E 1=q1∧tE z j i=some qb) c.len ⟨_,d.ll,Z,Z,hm⟩ ?_ ?_))))))))
 ·rintro K y M E W I ⟨⟨g,h⟩,k,d,t,u,a⟩
  refine sg (Wh g (Wa (lr (Wh u (Wh t (Wm (VQ (rp (enc:=lp) (i:=(K:Int)) (x0:=y) aQ aM Z Z c (aF _) I) λQ G=>V (lq Z (mu d.has G bJ aM)) (bS a λT H a=>VE (Sw y d B (lM.refl _) Z (pp Z) H λN d=>?_)))))))))
  refine ln (CI a Z (λD a=>?_) λD a=>?_)
  ·refine sg (Wm (Wa (lt (nz (mj (nz (mj ?_)))))))
   cases sj a
   exact rP d
  exact mU (mx (lE ⟨g,h,_,d.ll,t,u,a⟩))
 rintro E W ⟨⟨g,h⟩,k,d,t,u,a⟩
 exact lE (sg (Wa (lt (rQ a d))))
theorem Cv {f1:lh→Option Bool} (h0:oa qe (qo++[]) qa) (T:mg 33 lp 2 q0 qv qo) (a4:Dd pg0 q1 qe (λ(x:lh)=>[vA (lp x)]) (λ(qw:Bool)=>vB qw) f1) (hm:uo qv f1=some qw) :
  nt false pg0 144 [q0,q1] qa (qo++[]) (λv L1 W'=>∃t S2,v=t∧L1=(S2++[])∧mg 33 lp 2 t qw S2):=by
 refine B6 h0 42 func144 Z (λd=>sg (Wa (lr (Wm (Wm (bS hm λs d3 hm=>VE (Eg d call182 (Ht (T.sl nC λb o h=>d.at_ (Ml h)) (a4.mono d.ns) d3) λW3 d=>Wa (ln ?_))))))))
 refine lH (sg (Wm (Wi Z (ln (CI hm Z (λd2 hm=>?_) λd2 hm=>?_)))))
 ·refine sg (Wm (Wa (lt (mj ?_))))
  cases sj hm
  exact ma (v:=q0) Z Z ⟨_,_,Z,d.mB (Kr Sn),q0,qo,Z,Z,T⟩
 refine kS (Wm (Wi Z (Wa (ln (nO (pE (λm E W=>∃U I B D a2,ST false (keys (qo++[])) qa W qe (I++a2)∧E 0=q0∧E 1=q1∧E 5=vI B∧E 6=vI D∧mg 33 lp 2 q0 U I∧rC f1 m U B D=some qw) mZ ⟨qv,qo,s,wi0 .i64 (s+1),_,d.ll,Z,Z,Z,Z,T,hm⟩ ?_))))))
 rintro m E W ⟨U,I,B,D,a2,d,y,Q,G,K,g,a⟩
 cases m with
 | zero=>rw [rC] at a; cases a
 | succ c8=>
  refine lH (sg (Wh K (Wh y (V (sf aQ Z g) (Wi Z (ln (CI a Z (λP a=>?_) λP a=>?_)))))))
  ·refine kn (lH (CJ a (λY E W=>∃J a3,ST false (keys (qo++[])) qa W qe (J++a3)∧E 0=q0∧E 1=q1∧E 5=vI Y.2∧E 6=vI D∧mg 33 lp 2 q0 Y.1 J) (λY c=>?_) ?_))
   ·refine bg (Wh y (Wh K (bS c λk M c=>VQ (pC (i:=D) (x0:=k) aQ aM Z Z g (mK M) (mE M)) λe4 b3=>V (lq Z (uZ d.has (λp h=>Ml h) g nC b3 (mE M) bJ aM)) (VE (lY d dE λd7 e2 d=>VO (FA (h1:=pt k) ((lp k).toArray) d aM λd8 d=>lr (Wh Q ?_)))))))
    refine VA d Mh (lp k) bJ aM (bS c λe6 b5 c=>VE (Sw k d a4 (lM.refl _) Z (pp Z) b5 λd9 d=>V (nK Z) (ln (CI c Z (λb1 c=>?_) λb1 c=>?_))))
    ·refine sg (Wh y (Wh G (VA d Mh (lp k) bJ aM (bS c λd0 N c=>VQ (pC (i:=B) (x0:=d0) aQ aM Z Z g (mK N) (mE N)) λe5 b4=>?_))))
     have d:=d.perm (Nr (Qb Qz) Nz)
     refine VO (zF (u:=vA (lp k)) (x1:=k)  d g nC pt Z Z Z b4 (mE N) aM λe0 c1 d O=>ln ?_)
     have d:=d.ll (Kr (Db St))
     refine lI (Wh G (Wi Z (Wa (mh (mx (lE ?_))))))
     cases sj c
     exact ⟨c1,_,d.ll,y,Q,Z,K,O⟩
    refine mU (mx (lE ?_))
    cases sj c
    exact ⟨I,_,d.ll (Db St),y,Q,G,K,g⟩
   rintro ⟨c7,c9⟩ E W ⟨J,a3,d,c3,c4,c5,c6,b6⟩ b2
   exact lI (Wh c6 (Wi Z (Wa (ln ⟨c8,bH _,c7,J,c9,wi0 .i64 (D+1),_,d.ll,c3,c4,c5,Z,b6,b2⟩))))
  refine pg (oL (oL (uO (lE (sg (Wh y (Wh G (bS a λ_ j a=>VQ (Ak (i:=B) aQ aM Z Z g (uh j) (tY j)) λe7 b7=>VO (DA (z:=K0)  d g nC pt aQ dE b7 Z Z (λe1 c2 d a9=>lr (Wh y ?_)))))))))))
  refine Wh G (bS a λ_ q a=>VQ (yK (i:=B) aQ aM Z Z a9 nC (uh q) (tY q)) λa5 b9=>Wa (lt ?_))
  cases sj a
  exact ma (v:=a5) Z Z ⟨_,_,Z,d.mB (Kr Sn),a5,c2,Z,Z,b9⟩
theorem QA (a:lh) (r:Bool) (w:World) (hm:Ge a=some r) :
  mo true pg0 145 [vA (lp a)] w (vB r):=by
 refine cG 6 func145 Z (λd=>sg (VE (mA d Z (λg j d=>Wa (lr (VA d Mh (lp a) bJ aM (bS hm λk c hm=>VE (Eg d ke (wL a _ _  c) λi d=>V (nK Z) (Wa (mh ?_))))))))))
 refine lE ?_
 exact lO (rQ hm d)
theorem Vp {t:(lh×lh)→Option Int} (u:oa qe (qo++[]) qa) (i:mg 33 lp 2 q0 qv qo) (j:PV pg0 q1 qe (λ(x:(lh×lh))=>[vA (lp x.1),vA (lp x.2)]) (λ(qw:Int)=>vI qw) t) (hm:Fy t qv=some qw) :
  nt true pg0 146 [q0,q1] qa (qo++[]) (λv z W'=>∃S,v=vT []∧z=(S++[])∧mg 33 lp 2 q0 qw S):=MA (P:=pg0) (ρ:=XY) abT 2 bJ aM lp nC pt u.H u.S i j hm
theorem I3 (h0:oa qe (qo++[]) qa) (B:mg 33 lp 2 q0 qv qo) (hm:yi qv=some qw) :
  nt true pg0 147 [q0] qa (qo++[]) (λv L1 W'=>∃y1 S2,v=y1∧L1=(S2++[])∧mg 33 lp 2 y1 qw S2):=by
 refine B6 h0 61 func147 Z (λd=>sg (Wa (lS (Wm (V (sf aQ Z B) (Wi Z (ln (CI hm Z (λg0 hm=>?_) λg0 hm=>?_))))))))
 ·refine sg (Wm (Wa (lt (mj ?_))))
  cases sj hm
  exact ma (v:=q0) Z Z ⟨_,_,Z,d.mB (Kr Sn),q0,qo,Z,Z,B⟩
 refine kS (Wa (ln (nO (pE (λm E W=>∃t b4,ST true (keys (qo++[])) qa W qe (qo++b4)∧E 0=q0∧E 3=vI t∧sH qv m t=some qw) mZ ⟨1,_,d.ll,Z,Z,hm⟩ ?_))))
 rintro m E W ⟨t,b4,d,D,H,a⟩
 cases m with
 | zero=>rw [sH] at a; cases a
 | succ f5=>
  refine lH (sg (Wh H (Wh D (V (sf aQ Z B) (Wi Z (ln (CI a Z (λd0 a=>?_) λd0 a=>?_)))))))
  ·refine kn (lH (nO (lH ?_)))
   have d:=d.drew
   have h:=d.has.ll (Kr Sn)
   refine mF h lV (X 0 Z h (lz D) (X 1 Z h (lz H) (bS a λc3 s a=>XQ 2 Z h (pC (i:=t) (x0:=c3) aQ aM Z Z B (mK s) (mE s)) λg7 d6=>XH 3 Z h (λ_ q=>lq Z (uZ q (λp j=>Ml j) B nC d6 (mE s) bJ aM)) (X 4 Z h (lz D) (X 5 Z h (lz H) (X 6 Z h (mL Z Z Z) (bS a λc4 x a=>XQ 7 Z h (pC (i:=wi0 .i64 (t-1)) (x0:=c4) aQ aM Z Z B (mK x) (mE x)) λg8 d7=>XH 8 Z h (λ_ q=>lq Z (uZ q (λp j=>Ml j) B nC d7 (mE x) bJ aM)) (X 9 Z h (A4 Z Z (rY gp) (xu (yR _ c3 c4))) (mG kr (lE ?_))))))))))
   refine CI a Z (λd1 a=>?_) (λd1 a=>?_)
   ·refine sg (Wh D (Wh H (bS a λ_ b0 a=>VQ (Ak (i:=t) aQ aM Z Z B (uh b0) (tY b0)) λc1 M=>Wa (lS (Wa (ln ?_))))))
    refine CJ a (λU E W=>∃O b5,ST true (keys (qo++[])) qa W qe (O++b5)∧E 0=q0∧E 3=vI U.2∧mg 33 lp 2 q0 U.1 O) (λU d4=>?_) ?_
    ·refine nO (pE (λm E W=>∃P K Y y b6,ST true (keys (qo++[])) qa W qe (K++b6)∧E 0=q0∧E 3=vI Y∧E 4=c1∧E 5=vI y∧mg 33 lp 2 q0 P K∧sA t m P Y y=some U) mZ ⟨qv,qo,t,1,_,d.ll,D,H,Z,Z,B,d4⟩ ?_)
     rintro m E W ⟨P,K,Y,y,b6,d,Q,T,I,J,g,k⟩
     cases m with
     | zero=>rw [sA] at k; cases k
     | succ f6=>
      refine lH (sg (Wh J (Wh I (V (Kq aQ Z M g) (Wi Z (ln (CI k Z (λd2 k=>?_) λd2 k=>?_)))))))
      ·refine kn (lH (CJ k (λa8 E W=>∃N b7,ST true (keys (qo++[])) qa W qe (N++b7)∧E 0=q0∧E 3=vI a8.2∧E 4=c1∧E 5=vI y∧mg 33 lp 2 q0 a8.1 N) (λa8 c=>?_) ?_))
       ·refine nO (lH ?_)
        have d:=d.drew
        have h:=d.has.ll (Kr Sn)
        refine mF h lV (X 0 Z h (lz I) (X 1 Z h (lz J) (bS c λc6 a2 c=>XQ 2 Z h (Ap (i:=y) (x0:=c6) aQ aM Z Z g M (mK a2) (mE a2)) λg9 d8=>XH 3 Z h (λ_ q=>lq Z (uZ q (λp j=>Ml j) g nC d8 (Cl (mE a2)) bJ aM)) (X 4 Z h (lz I) (X 5 Z h (lz J) (X 6 Z h (mL Z Z Z) (bS c λc7 a3 c=>XQ 7 Z h (Ap (i:=wi0 .i64 (y-1)) (x0:=c7) aQ aM Z Z g M (mK a3) (mE a3)) λh1 d9=>XH 8 Z h (λ_ q=>lq Z (uZ q (λp j=>Ml j) g nC d9 (Cl (mE a3)) bJ aM)) (X 9 Z h (QP Z Z (rY gp) (Lq (yR _ c6 c7))) (mG kr (lE ?_))))))))))
        refine CI c Z (λd3 c=>?_) (λd3 c=>?_)
        ·refine sg (Wh Q (Wh T (Wh I (Wh J (bS c λa9 a4 c=>VQ (Ap (i:=y) (x0:=a9) aQ aM Z Z g M (mK a4) (mE a4)) λh2 e0=>V (lq Z (uZ d.has (λp j=>Ml j) g nC e0 (Cl (mE a4)) bJ aM)) (bS c λf8 a5 c=>VQ (pC (i:=Y) (x0:=f8) aQ aM Z Z g (mK a5) (mE a5)) λh3 e1=>VO (zF (u:=vA (lp a9)) (x1:=a9)  d g nC pt Z Z Z e1 (mE a5) aM λg3 e8 d c9=>ln (lI ?_))))))))
         refine Wh T (Wi Z (Wa (mh (mx (lE ?_)))))
         cases sj c
         exact ⟨e8,_,d.ll,Q,Z,I,J,c9⟩
        refine mU (mx (lE ?_))
        cases sj c
        exact ⟨K,_,d.ll,Q,T,I,J,g⟩
       rintro ⟨f4,f7⟩ E W ⟨N,b7,d,f0,f1,f2,f3,e4⟩ d5
       exact lI (Wh f3 (Wi Z (Wa (ln ⟨f6,bH _,f4,N,f7,wi0 .i64 (y+1),_,d.ll,f0,f1,f2,Z,e4,d5⟩))))
      refine pg (oL (oL (uO (lE ?_))))
      cases sj k
      exact ⟨K,_,d.ll,Q,T,g⟩
    rintro ⟨g4,c5⟩ E W ⟨O,b5,d,b9,c0,b3⟩ G
    refine sg (Wh b9 (Wh c0 (bS G λ_ b1 G=>VQ (Ak (i:=c5) aQ aM Z Z b3 (uh b1) (tY b1)) λh4 e2=>VO (DA (z:=K0)  d b3 nC pt aQ dE e2 Z Z (λg2 e7 d c8=>lr (Wh b9 (Wh c0 (bS G λ_ b2 G=>VQ (yK (i:=c5) aQ aM Z Z c8 nC (uh b2) (tY b2)) λc2 e3=>?_))))))))
    refine Wa (lt (nz (mj (mj (nz (mj ?_))))))
    cases sj G
    exact ma (v:=c2) Z Z ⟨_,_,Z,d.mB (Kr Sn),c2,e7,Z,Z,e3⟩
   exact mU (mx (lE (lI (Wh H (Wi Z (Wa (ln ⟨f5,bH _,wi0 .i64 (t+1),_,d.ll,D,Z,a⟩)))))))
  refine pg (oL (oL (uO (lE (sg (Wh D (Wa (lt ?_))))))))
  cases sj a
  exact ma (v:=q0) Z Z ⟨_,_,Z,d.mB (Kr Sn),q0,qo,Z,Z,B⟩
theorem yx (B:Sl (Pl lp) 2 (hp qa) q0 qv) (hm:ue qv=some qw) :
  na false pg0 104 [q0] qa 33 lp 2 qw:=by
 refine vr 11 func104 Z (λd=>sg (Wa (lr (Wm (bS hm λr1 T hm=>VE (oG d call63 (na.mN (BG mv T)) λW3 v7 P R8 d a5 y Q=>bS hm λU D hm=>?_))))))
 refine VE (eM d (Cr Qz Cn) call144 (λi _=>Cv i Q ⟨145,#[],#[],Z,call145,λW x qw O hm=>(QA x qw W  hm).mN⟩ D) ?_)
 rintro _ b5 b9 a8 d a1 q h ⟨k,K,a,rfl,I⟩
 obtain rfl:=a.symm
 have d:=d.perm (Tr Tn)
 refine Wa (lr (Wm (bS hm λY G hm=>?_)))
 refine VE (eM d (Cr Qz Cn) call146 (λi _=>nt.mN (Vp i I ⟨123,#[],Z,call123,λW x qw O hm=>EZ x.1 x.2 qw W  hm⟩ G)) ?_)
 rintro _ b6 c0 a9 d a2 s h ⟨M,c,rfl,J⟩
 obtain rfl:=c.symm
 have d:=d.perm (Tr Tn)
 refine lr (Wm (bS hm λb4 H hm=>?_))
 refine VE (eM d (Cr Qz Cn) call147 (λi _=>nt.mN (I3 i J H)) ?_)
 rintro _ b7 c1 b0 d a3 t h ⟨u,N,g,rfl,j⟩
 obtain rfl:=g.symm
 have d:=d.perm (Tr Tn)
 refine Wa (lt ?_)
 obtain rfl:=sj hm
 exact ma (v:=u) Z Z ⟨_,N,Z,d.nT (λp z=>Ml z) j.nd,j⟩
theorem Tg (i:Sl (Pl lp) 2 (hp qa) q0 qv) (hm:Bz qv=some qf) :
  mo false pg0 85 [q0] qa (vB qf):=by
 refine cG 12 func85 Z (λd=>sg (Wa (lr (Wm (V (mP aQ Z i) (Wi Z (Wm (LJ hm (λy E W=>∃t x,lM (hp qa) t∧ST false nf qa W t x∧E 2=vB false∧E 11=vB y) 5 ?_ λy a k=>?_))))))))
 ·rintro q E W ⟨t,x,M,d,U,H⟩ B
  exact Wg H (lt (rQ B d))
 refine bC a (λc a=>?_) (λc a=>?_)
 ·refine ug c (lz Z) (bS a λI D a=>tw c (oG d kf (yx mv D) λQ J K N d j g z=>ug c (lz Z) (bS a λY G a=>tw c (Eg d call103 (mo.mN (zj (z.sl nC λb o h=>d.at_ (Ml h)) mv G)) λT d=>V (lQ (cB c) Z) ?_))))
  cases sj a
  exact k _ _ ⟨K,_,j,d.ll (Dr St),Z,Z⟩
 refine un c (un c (un c (un c (V (lN (cB c) Z) ?_))))
 cases sj a
 exact k _ _ ⟨hp qa,_,lM.refl _,d.ll,Z,Z⟩
theorem aa7 (w:World) {d g:Value} {a b:List Int} (h1:Sl (Pl (lJ .u8)) 1 (hp w) d a) (h:Sl (Pl (lJ .u8)) 1 (hp w) g b):(callFunc 179 [d,g].toArray).run pg0 w= .ok (.value (vI (D4 a b))) w:=YJ func179 (by kernel_rfl) (by kernel_rfl) (by kernel_rfl) (by kernel_rfl) h1 h
theorem HD (j:Sl (Pl (lJ .u8)) 1 (hp qa) q0 ql) (k:Sl (Pl (lJ .u8)) 1 (hp qa) q1 qm) (hm:BY ql qm=some qb) :
  mo true pg0 137 [q0,q1] qa (vI qb):=by
 exact cG 8 func137 Z (λa=>sg (Wa (lr (Wm (Wm (VE (U8 (args:=[q0,q1]) (v:=vI (D4 ql qm)) Z (by exact px Z Z) (aa7 _ mv mv) (Wa (lt (rQ hm a))))))))))
theorem Iz (g i:lg) (r:Int) (w:World) (hm:vY g i=some r) :
  mo true pg0 95 [vA (lj g),vA (lj i)] w (vI r):=by
 refine cG 10 func95 Z (λd=>sg (VE (mA d Z (λT Y d=>VE (mA d Z (λU P d=>Wa (ln (lH ?_))))))))
 have d:=d.drew
 have h:=d.has.ll (Kb (Kb Sn))
 refine mF h lV (XH 0 Z h (λ_ q=>lq Z (lC q (Mt Mh) (lj g) Z bF aI)) (XH 2 Z h (λ_ q=>lq Z (lC q Mh (lj i) Z bF aI)) (bS hm λy t hm=>XE 1 Z (oG d call44 (Cu g _ _  t) λI B N G d a v j=>?_))))
 have h:=d.has.nx a (Dr (Kb (Kb Sn)))
 refine ⟨h,bS hm λz u hm=>XE 3 Z (oG d call44 (Cu i _ _  u) λJ D Q H d c O k=>?_)⟩
 have h:=d.has.nx (a.trans c) (Dr (Dr (Kb (Kb Sn))))
 refine ⟨h,bS hm λM x hm=>XE 4 Z (Eg d call137 (HD (j.sl (λ_=>rfl) λb o s=>d.at_ (Ma (Ml s))) (k.sl (λ_=>rfl) λb o s=>d.at_ (Ml s)) x) λK d=>?_)⟩
 have h:=d.has.nx (a.trans c) (Dr (Dr (Kb (Kb Sn))))
 refine ⟨h,X 5 Z h (nB Z) (mG kr (lE ?_))⟩
 exact lO (rQ hm d)
theorem SX (M:Sl mR 10 (hp qa) q0 qT) (hm:FF qT=some qf) :
  mo true pg0 86 [q0] qa (vB qf):=by
 refine cG 42 func86 Z (λq=>sg (Wa (lS (Wm (V (mP cF Z M) (Wm (ln (nM 7 6 (λi js E W=>∃U,ST true nf qa W (hp qa) U∧E 0=q0∧E 5=q0∧uM qT js i=some qf) M.len ⟨_,q.ll,Z,Z,hm⟩ ?_ ?_))))))))
 ·rintro B a d8 E W c2 ⟨⟨u,eN⟩,U,q,I,J,t⟩
  refine sg (Wh u (VQ (nI (i:=(B:Int)) (x0:=a) mR.out cF bW J u M (aF _) c2) λe3 ⟨_,⟨e8,rfl,a3⟩,b6⟩=>V (lq Z (mu q.has b6 eE bW)) (VE (lY q cQ λd9 H q=>Wa ?_))))
  let f2:Value:=vI (qT.length:Int)
  let b8:Value:=vI (B:Int)
  obtain ⟨D,G,rfl⟩:=a3.form
  let v:=C3 a.lg.Kind a.lg.Head.lu a.lg.Head.Word a.lg.nj a.lg.B.lu a.lg.B.Word a.lg.C.lu a.lg.C.Word a.lg.mV D a.Tag.length G
  refine VO (FA v.toArray q bW λe0 q=>ln (lH ?_))
  have q:=q.drew
  have d:=q.has.ll (Kb Sn)
  refine mF d lV (X 0 Z d (ly sP Z) (XH 1 Z d (λ_ s=>lq Z (lC s Mh (lj a.lg) Z bF aI)) (bS t λe6 c0 t=>XE 2 Z (Eg q call76 (xS a.lg _ _  c0) λe1 q=>?_))))
  have d:=q.has.ll (Kb Sn)
  refine ⟨d,X 3 Z d (nK Z) (X 4 Z d (lz Z) (PJ t (λb1 E W=>∃a5,ST true nf qa W (hp qa) ((H,Ol v 71)::a5)∧E 0=q0∧E 3=b8∧E 4=vP H∧E 5=q0∧E 6=f2∧E 7=b8∧E 21=vB b1) (bm 26 1023) 16 ?_ λb1 z T=>?_))⟩
  ·rintro d6 E W ⟨a5,q,K,a8,c3,Y,O,P,c4⟩ b4
   have d:=q.has.ll (Kb Sn)
   refine X 10 Z d (lz c4) (PJ b4 (λa9 E W=>∃a6,ST true nf qa W (hp qa) ((H,Ol v 71)::a6)∧E 0=q0∧E 5=q0∧E 6=f2∧E 7=b8∧E 37=vB a9) (bm 26 67108863) 0 ?_ λa9 y N=>?_)
   ·rintro f0 E W ⟨a6,q,c5,c6,c7,c8,c9⟩ x
    refine mG kr (lE ?_)
    have q:=q.ll (Db St)
    refine CI x c9 (λb3 x=>?_) (λb3 x=>?_)
    ·refine sg (Wa (lt (nz (mj (nz (mj ?_))))))
     cases sj x
     exact rP q
    exact mU (mx (lE ⟨c8,c7,_,q.ll,c5,c6,x⟩))
   refine bC y (λg y=>?_) (λg y=>?_)
   ·refine Xn 11 Z Z (cB g) d (Xn 12 Z Z (cB g) d (Xn 13 Z Z (cB g) d (Xu 14 Z Z Z d (Xu 15 Z Z Z d (Xu 16 Z Z Z d (Xu 17 Z Z Z d (Xu 18 Z Z Z d (Xu 19 Z Z Z d (Xu 20 Z Z Z d (Xu 21 Z Z Z d (Xu 22 Z Z Z d (Xu 23 Z Z Z d (Xn 24 Z Z (cB g) d (X 25 Z d (lQ (cB g) Z) ?_))))))))))))))
    cases sj y
    refine ov kr (N _ _ ⟨_,q.ll,K,Y,O,P,Z⟩)
   refine Xg 11 Z Z (cB g) d (lz a8) (Xg 12 Z Z (cB g) d (mL Z Z Z) (Xg 13 Z Z (cB g) d (lz Z) (PJ y (λb0 E W=>∃a7,ST true nf qa W (hp qa) ((H,Ol v 71)::a7)∧E 0=q0∧E 5=q0∧E 6=f2∧E 7=b8∧E 22=vB d6∧E 36=vB b0) (bm 26 33554431) 1 ?_ λb0 k Q=>?_)))
   ·rintro f1 E W ⟨a7,q,d0,d1,d2,d3,d4,d5⟩ b5
    have d:=q.has.ll (Kb Sn)
    refine X 25 Z d (lN (d4.trans (cB g)) d5) ?_
    cases sj b5
    refine ov kr (N _ _ ⟨_,q.ll,d0,d1,d2,d3,Z⟩)
   refine bC k (λc k=>?_) (λc k=>?_)
   ·refine Xg 14 Z Z (cB c) d (lz K) (Xg 15 Z Z (cB c) d (lz a8) (Xg 16 Z Z (cB c) d (mL Z Z Z) (bS k λa2 a4 k=>ym 17 Z kr (.inr ⟨13,true,25,Z,Z,tc,cB c⟩) Z dc (λ_ _ h=>h) d (nI (i:=wi0 .i64 ((B:Int)-1)) (x0:=a2) mR.out cF bW Z Z M (mK a4) (mE a4)) λe4 ⟨_,⟨e9,rfl,d7⟩,b7⟩=>ym 18 Z kr (.inr ⟨13,true,25,Z,Z,tc,cB c⟩) Z dc (λ_ _ h=>h) d (pM (lj a2.lg) sP Z b7 Z) λe5 b9=>uV 19 Z Z (cB c) d (λ_ s=>lq Z (mu s b9 bF aI)) (Xg 20 Z Z (cB c) d (ly sP c3) (uV 21 Z Z (cB c) d (λ_ s=>lq Z (lC s Mh (lj a.lg) Z bF aI)) (bS k λe7 c1 k=>CZ 22 Z Z (cB c) (Eg q call95 (Iz a2.lg a.lg _ _  c1) λe2 q=>?_)))))))
    have d:=q.has.ll (Kb Sn)
    refine ⟨d,Xg 23 Z Z (cB c) d (mL Z Z Z) (Xg 24 Z Z (cB g) d (lQ (cB c) Z) ?_)⟩
    cases sj k
    refine ov kr (Q _ _ ⟨_,q.ll,K,Y,O,P,Z,Z⟩)
   refine Xn 14 Z Z (cB c) d (Xn 15 Z Z (cB c) d (Xn 16 Z Z (cB c) d (Xn 17 Z Z (cB c) d (Xn 18 Z Z (cB c) d (Xn 19 Z Z (cB c) d (Xn 20 Z Z (cB c) d (Xn 21 Z Z (cB c) d (Xn 22 Z Z (cB c) d (Xn 23 Z Z (cB c) d (Xg 24 Z Z (cB g) d (lN (cB c) Z) ?_))))))))))
   cases sj k
   refine ov kr (Q _ _ ⟨_,q.ll,K,Y,O,P,Z,Z⟩)
  refine bC z (λj z=>?_) (λj z=>?_)
  ·refine Xn 5 Z Z (cB j) d (Xn 6 Z Z (cB j) d (Xn 7 Z Z (cB j) d (Xn 8 Z Z (cB j) d (X 9 Z d (lQ (cB j) Z) ?_))))
   cases sj z
   refine ov kr (T _ _ ⟨_,q.ll,I,Z,Z,J,eN,u,Z⟩)
  refine Xg 5 Z Z (cB j) d (ly B9 Z) (uV 6 Z Z (cB j) d (λ_ s=>lq Z (lA s Mh Z dq)) (Xg 7 Z Z (cB j) d (mP aZ Z a3) (Xg 8 Z Z (cB j) d (mL Z Z Z) (X 9 Z d (lN (cB j) Z) ?_))))
  cases sj z
  refine ov kr (T _ _ ⟨_,q.ll,I,Z,Z,J,eN,u,Z⟩)
 rintro E W ⟨⟨u,eN⟩,U,q,I,J,t⟩
 exact lE (sg (Wh I (V (mP cF Z M) (Wi Z (Wa (lt (rQ t q)))))))
theorem FB (i:Sl (Pl lp) 2 (hp qa) q0 qH.nX) (g:Sl mR 10 (hp qa) q1 qH.nm) (hm:oD qH=some qf) :
  mo false pg0 45 [vA [vI qH.Kind,vI qH.ny,vI qH.E,vS qH.Name,q0,q1]] qa (vB qf):=by
 refine cG 53 func45 Z (λa=>sg ?_)
 obtain ⟨Y,c2,rfl⟩:=i.form
 let a1:Value:= .slice Y qH.nX.length c2
 obtain ⟨q,c4,rfl⟩:=g.form
 let a2:Value:= .slice q qH.nm.length c4
 let a0:=C6 qH.Kind qH.ny qH.E qH.Name Y qH.nX.length c2 q qH.nm.length c4
 refine VE (mA a Z (λW6 b5 a=>Wa (ln (lH (lH ?_)))))
 have a:=a.drew
 have d:=a.has.ll (Kb Sn)
 refine mF d lV (XH 0 Z d (λ_ h=>lq Z (lC h Mh a0 Z dv bR)) (XH 2 Z d (λ_ h=>lq Z (lC h Mh a0 Z dv bR)) (bS hm λe1 d1 hm=>?_)))
 refine XE 1 Z (eD a (aT _) call84 (λhh=>my.mN (Vb hh mv mv d1)) ?_ (L0:=[]))
 rintro _ g1 N f3 a y aa ⟨e3,e4,Q,rfl,d5,d6⟩
 cases Q
 have d:=a.has.nx y (Kb Sn)
 refine ⟨d,bS hm λf9 d2 hm=>XE 3 Z (Eg a call83 (Vf mv mv mv mv d2) λf5 a=>?_)⟩
 have d:=a.has.nx y (Kb Sn)
 refine ⟨d,X 4 Z d (nK Z) (mG kr (lE (CI hm Z (λc6 hm=>?_) λc6 hm=>?_)))⟩
 ·refine sg (Wa (ln ?_))
  have a:=a.ll (Db St)
  refine lO (mj ?_)
  cases sj hm
  exact rP a
 refine kS (Wf Aa (VB a Mh Z Z bK (ln (bg (Wi Z (Wa (mh ?_)))))))
 refine lE (CI hm Z (λc7 hm=>?_) λc7 hm=>?_)
 ·refine sg (Wf FO (VB a Mh Z Z cA (bS hm λe2 d3 hm=>VE (Eg a kK (mo.mN (vk qH.Name _ _  d3)) λf6 a=>Wm (LJ hm (λb7 E W=>∃P,ST false nf qa W N P∧E 2=vB false∧E 24=vB b7) 9 ?_ λb7 H T=>?_)))))
  ·rintro g2 E W ⟨P,a,f8,d7⟩ c9
   refine Wg d7 (lt (nz (mj ?_)))
   cases sj c9
   exact rP a
  refine bC H (λc H=>?_) (λc H=>?_)
  ·refine ug c (ly Er Z) (ug c (lq Z (lA a.has Mh Z bK)) (ug c (mL Z Z Z) (ug c (lz Z) (LJ H (λb9 E W=>∃b6,ST false nf qa W N b6∧E 2=vB false∧E 15=vB e2∧E 23=vB b9) 4 ?_ λb9 I U=>?_))))
   ·rintro g3 E W ⟨b6,a,d8,d9,e0⟩ d0
    refine V (lQ (d9.trans (cB c)) e0) ?_
    cases sj d0
    exact T _ _ ⟨_,a.ll,d8,Z⟩
   refine bC I (λt I=>?_) (λt I=>?_)
   ·refine un t (un t (un t (ug c (lQ (cB t) Z) ?_)))
    cases sj I
    exact U _ _ ⟨_,a.ll (Db St),Z,Z,Z⟩
   refine ug t (ly Er Z) (ug t (lq Z (lA a.has Mh Z bK)) (ug t (mL Z Z Z) (ug c (lN (cB t) Z) ?_)))
   cases sj I
   exact U _ _ ⟨_,a.ll (Db St),Z,Z,Z⟩
  refine un c (un c (un c (un c (Vu Z Z (Vu Z Z (Vu Z Z (un c (V (lN (cB c) Z) ?_))))))))
  cases sj H
  exact T _ _ ⟨_,a.ll (Db St),Z,Z⟩
 refine sg (Wi Z (Wa (ln (CI hm Z (λc8 hm=>?_) λc8 hm=>?_))))
 ·refine sg (Wf Cf (VB a Mh Z Z eU (bS hm λg0 d4 hm=>VE (Eg a call85 (Tg mv d4) λf7 a=>Wm (LJ hm (λs E W=>∃a3,ST false nf qa W N a3∧E 2=vB false∧E 34=vB s) 4 ?_ λs x J=>?_)))))
  ·rintro f0 E W ⟨a3,a,e6,c0⟩ b0
   refine Wg c0 (lt (nz (mj ?_)))
   cases sj b0
   exact rP a
  refine bC x (λu x=>?_) (λu x=>?_)
  ·refine ug u (ly AM Z) (ug u (lq Z (lA a.has Mh Z iG)) (bS x λe9 b3 x=>tw u (Eg a call86 (mo.mN (SX mv b3)) λe5 a=>V (lQ (cB u) Z) ?_)))
   cases sj x
   exact J _ _ ⟨_,a.ll (Db St),Z,Z⟩
  refine un u (un u (un u (V (lN (cB u) Z) ?_)))
  cases sj x
  exact J _ _ ⟨_,a.ll (Db St),Z,Z⟩
 refine sg (Wi Z (Wa (ln (CI hm Z (λa9 hm=>?_) λa9 hm=>?_))))
 ·refine sg (Wf ER (VB a Mh Z Z bK (Wi Z (Wm (LJ hm (λv E W=>∃a4,ST false nf qa W N a4∧E 2=vB false∧E 44=vB v) 4 ?_ λv z K=>?_)))))
  ·rintro f1 E W ⟨a4,a,e7,c1⟩ b1
   refine Wg c1 (lt (nz (mj ?_)))
   cases sj b1
   exact rP a
  refine bC z (λj z=>?_) (λj z=>?_)
  ·refine ug j (ly ER Z) (ug j (lq Z (lA a.has Mh Z bK)) (ug j (mL Z Z Z) (V (lQ (cB j) Z) ?_)))
   cases sj z
   exact K _ _ ⟨_,a.ll (Db St),Z,Z⟩
  refine un j (un j (un j (V (lN (cB j) Z) ?_)))
  cases sj z
  exact K _ _ ⟨_,a.ll (Db St),Z,Z⟩
 refine mU (mx (lE (sg (Wf Aa (VB a Mh Z Z bK (Wi Z (Wm (LJ hm (λO E W=>∃a5,ST false nf qa W N a5∧E 2=vB false∧E 52=vB O) 4 ?_ λO B M=>?_))))))))
 ·rintro f2 E W ⟨a5,a,e8,c3⟩ b2
  exact Wg c3 (lt (rQ b2 a))
 refine bC B (λk B=>?_) (λk B=>?_)
 ·refine un k (un k (un k (V (lQ (cB k) Z) ?_)))
  cases sj B
  exact M _ _ ⟨_,a.ll (Db St),Z,Z⟩
 refine ug k (ly Aa Z) (ug k (lq Z (lA a.has Mh Z bK)) (ug k (mL Z Z Z) (V (lN (cB k) Z) ?_)))
 cases sj B
 exact M _ _ ⟨_,a.ll (Db St),Z,Z⟩
theorem Nl (M:oa qe ((qh,Ob #[q0] 157)::(qo++[])) qa) (k:mg 5 (lJ .u8) 1 q0 ql qo) (y:Sl (Pl (lJ .u8)) 1 qe q1 qm) (hm:DW ql qm=some qS) :
  nt true pg0 162 [vP qh,q1] qa ((qh,Ob #[q0] 157)::(qo++[])) (λv J W'=>∃H B,v=vB qS.1∧J=((qh,Ob #[H] 157)::(B++[]))∧mg 5 (lJ .u8) 1 H qS.2 B):=by
 refine B6 M 16 func162 Z (λa=>sg (Wa (lS (Wm (V (ox fj Z Z) (ln (oV Z (mU ?_))))))))
 refine lE (sg (Wm (Wm (Wn (Wf CR (VB a Mh Z Z dq (Wm ?_)))))))
 have a:=a.perm (Nr (Qb Qz) Nz)
 refine bS hm λz G hm=>VE (oU (enc:=lJ .u8) (v:=q0) (vs:=q1) (R:=qo) a (λ_=>rfl) dc (vM _) aZ sL.1 sL.2.1 Z sL.2.2.1 sL.2.2.2 Z Z k mv G λN T K a t=>Wn (Wf CR ?_))
 obtain ⟨u,x,rfl⟩:=t.form
 have a:=a.perm (Nb (Pr Pz) Nz)
 refine VO (lZ (.slice u z.length x) (#[.slice u z.length x]) a Z Z dA oc nb Z (λQ a=>lr (Wa (lt ?_))))
 cases sj hm
 exact ma (v:=vB true) Z Z ⟨_,_,Z,a.mB (Kb (Kr Sn)),.slice u z.length x,K,Z,Z,t⟩
theorem RP {a:Signed} (h0:oa qe ((qh,Ob #[q0] 157)::(qo++[])) qa) (B:mg 5 (lJ .u8) 1 q0 ql qo) (u:Sl (Pl (lJ .u8)) 1 qe q1 a.Tag) (hm:Ep ql a=some qS) :
  nt true pg0 127 [vP qh,vA [vI a.lg.Kind,vS a.lg.Head.lu,vS a.lg.Head.Word,vS a.lg.nj,vS a.lg.B.lu,vS a.lg.B.Word,vS a.lg.C.lu,vS a.lg.C.Word,vS a.lg.mV,q1]] qa ((qh,Ob #[q0] 157)::(qo++[])) (λv L1 W'=>∃y1 S2,v=vB qS.1∧L1=((qh,Ob #[y1] 157)::(S2++[]))∧mg 5 (lJ .u8) 1 y1 qS.2 S2):=by
 let q:=(qh,Ob #[q0] 157)::(qo++[])
 refine B6 h0 30 func127 Z (λd=>sg ?_)
 obtain ⟨A1,c2,rfl⟩:=u.form
 refine VE (mA d Z (λW4 O d=>Wa (lS (Wm (V (ox fj Z Z) (Wm (Vg Z Z (ly sP Z) (Vg Z Z (lq Z (lC d.has Mh (lj a.lg) Z bF aI)) (bS hm λr5 d0 hm=>Sk Z Z (Eg d call76 (xS a.lg _ _  d0) λW7 d=>Vg Z Z (nK Z) ?_))))))))))
 refine V (lN Z Z) (Wm (LJ hm (λs E W=>∃a0,ST true (keys q) qa W qe ((O,Ol (C3 a.lg.Kind a.lg.Head.lu a.lg.Head.Word a.lg.nj a.lg.B.lu a.lg.B.Word a.lg.C.lu a.lg.C.Word a.lg.mV A1 a.Tag.length c2) 71)::((qh,Ob #[q0] 157)::(qo++a0)))∧E 0=vP qh∧E 3=vP O∧E 18=vB s) 5 ?_ λs y K=>?_))
 ·rintro x9 E W ⟨a0,d,a4,a5,c8⟩ k
  refine ln (CI k c8 (λb5 k=>?_) λb5 k=>?_)
  ·refine sg (Wa (ln ?_))
   have d:=d.ll (Db St)
   refine lO (mj ?_)
   cases sj k
   exact ma (v:=vB false) Z Z ⟨_,_,Z,d.mB (Kb (Kr Sn)),q0,qo,Z,Z,B⟩
  refine kg (Wh a4 (V (ly sP a5) (VA d Mh (lj a.lg) bF aI (bS k λd1 b7 k=>VE (oG d call44 (Cu a.lg _ _  b7) λe4 d3 f1 e3 d U P b4=>bS k λd2 b9 k=>?_)))))
  refine VE (Gi d (Cb (Pr (Pb Pz)) (Cr (Qr (Qb Qz)) Cn)) call162 (λhH hN i h=>Nl ⟨hH,hN,lM.refl _⟩ B (b4.sl (λ_=>rfl) λb o hq=>h b o (Ml hq)) b9) λe5 e9 z e1 d Y aa g b1=>?_)
  obtain ⟨a7,a3,G,rfl,N⟩:=b1
  replace G:=G.symm; subst G
  have d:=d.perm (Tb (Tr Tn))
  refine Wm (LJ k (λQ E W=>∃M I T a2,lM z T∧ST true (keys q) qa W T ((qh,Ob #[M] 157)::(I++a2))∧E 29=vB Q.1∧mg 5 (lJ .u8) 1 M Q.2 I) 5 ?_ λQ x J=>?_)
  ·rintro ⟨d4,e7⟩ E W ⟨M,I,T,a2,d8,d,c9,c1⟩ b6
   refine Wg c9 (lt ?_)
   cases sj b6
   exact ma (v:=vB d4) Z Z ⟨_,_,Z,d.mB (Kb (Kr Sn)),M,I,Z,Z,c1⟩
  refine bC x (λj x=>?_) (λj x=>?_)
  ·refine ug j (lz a4) (ug j (ly B9 a5) (ug j (lq Z (lA d.has (Mt (Ma (Ma Mh))) Z dq)) (bS x λe8 c0 x=>?_)))
   refine tw j (eM d (Cb Pz (Cr Qz Cn)) call87 (λhh i=>Aw hh N mv c0) ?_)
   rintro _ f0 d7 e2 d Zq ab g ⟨d6,c6,H,rfl,c3⟩
   cases H
   have d:=d.perm (Tb (Tr Tn))
   refine V (lQ (cB j) Z) ?_
   cases sj x
   exact J _ _ ⟨d6,c6,d7,_,Zq,d.ll (Kb (Kr (Dr (Db St)))),Z,c3⟩
  refine un j (un j (un j (un j (V (lN (cB j) Z) ?_))))
  cases sj x
  exact J _ _ ⟨a7,a3,z,_,lM.refl _,d.ll (Kb (Kr (Dr (Db St)))),Z,N⟩
 refine bC y (λt y=>?_) (λt y=>?_)
 ·refine un t (un t (un t (un t (V (lQ (cB t) Z) ?_))))
  cases sj y
  exact K _ _ ⟨_,d.ll,Z,Z,Z⟩
 refine ug t (ly B9 Z) (ug t (lq Z (lA d.has Mh Z dq)) (ug t (mP aZ Z u) (ug t (mL Z Z Z) (V (lN (cB t) Z) ?_))))
 cases sj y
 exact K _ _ ⟨_,d.ll,Z,Z,Z⟩
theorem SK (h0:oa qe ((qh,Ob #[q0] 157)::(qo++[])) qa) (c3:mg 5 (lJ .u8) 1 q0 ql qo) (t:Sl (Pl lp) 2 qe q1 qH.nX) (k:Sl mR 10 qe q2 qH.nm) (hm:Af ql qH=some qS) :
  nt false pg0 89 [vP qh,vA [vI qH.Kind,vI qH.ny,vI qH.E,vS qH.Name,q1,q2]] qa ((qh,Ob #[q0] 157)::(qo++[])) (λv L1 W'=>∃y1 S2,v=vB qS.1∧L1=((qh,Ob #[y1] 157)::(S2++[]))∧mg 5 (lJ .u8) 1 y1 qS.2 S2):=by
 let b8:=(qh,Ob #[q0] 157)::(qo++[])
 refine B6 h0 72 func89 Z (λd=>sg ?_)
 obtain ⟨A1,c2,rfl⟩:=t.form
 obtain ⟨A3,c4,rfl⟩:=k.form
 let e1:=C6 qH.Kind qH.ny qH.E qH.Name A1 qH.nX.length c2 A3 qH.nm.length c4
 refine VE (mA d Z (λW6 b5 d=>Wa (lS (Wm (V (ox fj Z Z) (Wm (Vg Z Z (lq Z (lC d.has Mh e1 Z dv bR)) (bS hm λr7 m6 hm=>Sk Z Z (Eg d call45 (FB mv mv m6) λW9 d=>Vg Z Z (nK Z) (V (lN Z Z) ?_))))))))))
 refine ln (CI hm Z (λk2 hm=>?_) λk2 hm=>?_)
 ·refine sg (Wa (ln ?_))
  have d:=d.ll (Db St)
  refine lO (mj ?_)
  cases sj hm
  exact ma (v:=vB false) Z Z ⟨_,_,Z,d.mB (Kb (Kr Sn)),q0,qo,Z,Z,c3⟩
 refine kg (Wm (Wf Aa (VB d Mh Z Z bK (bS hm λf3 k3 hm=>?_))))
 refine VE (eM d (Cb (Pb Pz) (Cr (Qb Qz) Cn)) jK (λh _=>nt.mN (pd h c3 k3)) ?_)
 rintro _ r0 j3 av d d8 ai g ⟨e0,d7,d2,rfl,u⟩
 cases d2
 have d:=d.perm (Tb (Tr Tn))
 refine ln (lH (CJ hm (λd3 E W=>∃x a2 d5 e3,lM j3 d5∧ST false (keys b8) qa W d5 ((qh,Ob #[x] 157)::(a2++e3))∧mg 5 (lJ .u8) 1 x d3 a2) (λd3 c=>?_) ?_))
 ·refine sg (Wf Aa (VB d (Mt (Ma Mh)) Z Z bK (ln (bg (Wi Z (Wa (ln (CI c Z (λg2 c=>?_) λg2 c=>?_))))))))
  ·refine sg (Wm (Wf FO (VB d (Mt (Ma Mh)) Z Z cA (bS c λk6 h3 c=>?_))))
   refine VE (eM d (Cb Pz (Cr Qz Cn)) call81 (λh _=>nt.mN (Cc h u h3)) ?_)
   rintro _ p8 au n1 d e7 aa g ⟨l1,j4,a8,rfl,i4⟩
   cases a8
   have d:=d.perm (Tb (Tr Tn))
   refine ln (lI (Wm (Wf Er (VB d (Mt (Ma Mh)) Z Z bK (bS c λp6 h4 c=>?_)))))
   refine VE (eM d (Cb Pz (Cr Qz Cn)) jK (λh _=>nt.mN (pd h i4 h4)) ?_)
   rintro _ p9 l9 n2 d e8 ab g ⟨l2,j5,a9,rfl,i5⟩
   cases a9
   have d:=d.perm (Tb (Tr Tn))
   refine mh (mx (lE ?_))
   cases sj c
   exact ⟨l2,j5,l9,_,e7.trans e8,d.ll (Kb (Kr (Db St))),i5⟩
  refine sg (Wi Z (Wa (ln (CI c Z (λg3 c=>?_) λg3 c=>?_))))
  ·refine sg (Wm (Wf Cf (VB d (Mt (Ma Mh)) Z Z eU (V (mP aQ Z t) (bS c λk7 h5 c=>?_)))))
   refine VE (eM d (Cb Pz (Cr Qz Cn)) jK (λh _=>nt.mN (pd h u h5)) ?_)
   rintro _ aj f4 n3 d U ad g ⟨l3,j6,b0,rfl,i6⟩
   cases b0
   have d:=d.perm (Tb (Tr Tn))
   refine lS (Wf Cf (VB d (Mt (Ma Mh)) Z Z eU (V (mP aQ Z t) (Wm (ln (nM 42 41 (λi js E W=>∃M K I P c6,lM f4 P∧ST false (keys b8) qa W P ((qh,Ob #[M] 157)::((b5,Ol e1 79)::(I++c6)))∧E 0=vP qh∧E 3=vP b5∧E 40= .slice A1 qH.nX.length c2∧mg 5 (lJ .u8) 1 M K I∧xj qH js K=some d3) t.len ⟨l3,k7.2,j6,f4,_,lM.refl _,d.ll (Kb (Sb (Pr Pz) St)),Z,Z,Z,i6,c⟩ ?_ ?_))))))
   ·rintro k4 Q m8 E W i2 ⟨⟨j,s⟩,M,K,I,P,c6,B,d,T,a5,c9,a6,y⟩
    refine sg (VQ (rp (enc:=lp) (i:=(k4:Int)) (x0:=Q) aQ aM c9 j mv (aF _) i2) λp4 h1=>V (lq Z (mu d.has h1 bJ aM)) (VE (lY d dE λo1 o9 d=>VO (FA (h1:=pt Q) ((lp Q).toArray) d aM λo2 d=>ln (lI (Wh T (VA d Mh (lp Q) bJ aM (bS y λk8 h6 y=>?_))))))))
    refine VE (eM d (Cb (Pb Pz) (Cr (Qb (Qb Qz)) Cn)) call80 (λh _=>nt.mN (ze h a6 h6)) ?_)
    rintro _ an m0 n4 d e9 ae g ⟨l4,j7,b1,rfl,i7⟩
    cases b1
    have d:=d.perm (Tb (Tr Tn))
    refine mh (mx (lE ?_))
    have d:=d.ll (Kb (Kr (Db St)))
    exact ⟨j,s,l4,k8.2,j7,m0,_,B.trans e9,d.ll (Kb (Sb (Pr Pz) St)),T,a5,c9,i7,y⟩
   rintro E W ⟨⟨j,s⟩,M,K,I,P,c6,B,d,T,a5,c9,a6,y⟩
   refine lE (sg (Wh T (V (ly AM a5) (VB d (Mt Mh) Z Z iG (V (mP cF Z k) (bS y λk9 h7 y=>?_))))))
   refine VE (eM d (Cb Pz (Cr (Qb Qz) Cn)) jK (λh _=>nt.mN (pd h a6 h7)) ?_)
   rintro _ ao d6 n5 d c5 af g ⟨l5,j8,b2,rfl,i8⟩
   cases b2
   have d:=d.perm (Tb (Tr Tn))
   refine lr (V (ly AM a5) (VB d (Mt (Ma Mh)) Z Z iG (V (mP cF Z k) (Wm (ln ?_)))))
   have d:=d.ll (Kb (Kr (Db St)))
   refine xl (CJ y (λd4 E W=>∃O a3 c1 e4,lM d6 c1∧ST false (keys b8) qa W c1 ((qh,Ob #[O] 157)::(a3++e4))∧mg 5 (lJ .u8) 1 O d4 a3) (λd4 g9=>?_) ?_)
   ·refine nM 58 57 (λi js E W=>∃N Y J q c7,lM d6 q∧ST false (keys b8) qa W q ((qh,Ob #[N] 157)::(J++c7))∧E 0=vP qh∧E 56= .slice A3 qH.nm.length c4∧mg 5 (lJ .u8) 1 N Y J∧yN js Y=some d4) k.len ⟨l5,k9.2,j8,d6,_,lM.refl _,d.ll,T,Z,i8,g9⟩ ?_ ?_
    ·rintro k5 a m9 E W i3 ⟨⟨j,s⟩,N,Y,J,q,c7,D,d,d0,d1,a7,z⟩
     refine sg (VQ (nI (i:=(k5:Int)) (x0:=a) mR.out cF bW d1 j mv (aF _) i3) λp5 ⟨_,⟨ap,rfl,d9⟩,h2⟩=>V (lq Z (mu d.has h2 eE bW)) (VE (lY d cQ λo5 p0 d=>?_)))
     obtain ⟨a0,a4,rfl⟩:=d9.form
     let a1:=C3 a.lg.Kind a.lg.Head.lu a.lg.Head.Word a.lg.nj a.lg.B.lu a.lg.B.Word a.lg.C.lu a.lg.C.Word a.lg.mV a0 a.Tag.length a4
     refine VO (FA a1.toArray d bW λo6 d=>ln (lI (Wh d0 (VA d Mh a1 eE bW (bS z λl0 h8 z=>?_)))))
     refine VE (eM d (Cb (Pb Pz) (Cr (Qb Qz) Cn)) call127 (λh aw=>nt.mN (RP h a7 mv h8)) ?_)
     rintro _ aq m1 n6 d f1 ag g ⟨l6,j9,b3,rfl,i9⟩
     cases b3
     have d:=d.perm (Tb (Tr Tn))
     refine mh (mx (lE ?_))
     have d:=d.ll (Kb (Kr (Db St)))
     exact ⟨j,s,l6,l0.2,j9,m1,_,D.trans f1,d.ll,d0,d1,i9,z⟩
    rintro E W ⟨⟨j,s⟩,N,Y,J,q,c7,D,d,d0,d1,a7,z⟩
    refine lE ?_
    cases sj z
    exact ⟨N,J,q,_,D,d.ll,a7⟩
   rintro p3 E W ⟨O,a3,c1,e4,f0,d,i1⟩ g8
   refine mx (lE ?_)
   cases sj g8
   exact ⟨O,a3,c1,_,((U.trans B).trans c5).trans f0,d.ll,i1⟩
  refine sg (Wi Z (Wa (ln (CI c Z (λg4 c=>?_) λg4 c=>?_))))
  ·refine lI (Wm (Wf ER (VB d (Mt (Ma Mh)) Z Z bK (bS c λp7 h9 c=>?_))))
   refine VE (eM d (Cb Pz (Cr Qz Cn)) jK (λh _=>nt.mN (pd h u h9)) ?_)
   rintro _ ar m2 n7 d f2 ah g ⟨l7,k0,b4,rfl,j0⟩
   cases b4
   have d:=d.perm (Tb (Tr Tn))
   refine mh (mx (lE ?_))
   cases sj c
   exact ⟨l7,k0,m2,_,f2,d.ll (Kb (Kr (Db St))),j0⟩
  refine mU (mx (lE ?_))
  cases sj c
  exact ⟨e0,d7,j3,_,lM.refl _,d.ll (Kb (Kr (Db St))),u⟩
 rintro p2 E W ⟨x,a2,d5,e3,m5,d,i0⟩ g7
 refine sg (Wa (lt ?_))
 cases sj g7
 exact ma (v:=vB true) Z Z ⟨_,_,Z,d.mB (Kb (Kr Sn)),x,a2,Z,Z,i0⟩
theorem Ti (g:Sl (Pl lp) 2 (hp qa) q0 qH.nX) (c:Sl mR 10 (hp qa) q1 qH.nm) (hm:xD qH=some ql) :
  na false pg0 47 [vA [vI qH.Kind,vI qH.ny,vI qH.E,vS qH.Name,q0,q1]] qa 5 (lJ .u8) 1 ql:=by
 refine vr 11 func47 Z (λa=>sg ?_)
 obtain ⟨u,y,rfl⟩:=g.form
 obtain ⟨x,z,rfl⟩:=c.form
 refine VE (mA a Z (λW6 P a=>Wa (lr (V (mW (v:=vA [vN]) pP (mz ji ez (N1 _ ez) kr)) (VE (mA a Z (λW8 J a=>Wa (lr (Wm (VA a (Mt Mh) (C6 qH.Kind qH.ny qH.E qH.Name u qH.nX.length y x qH.nm.length z) dv bR ?_))))))))))
 refine bS hm λT D hm=>?_
 refine VE (eM a (Cb Pz (C0 Cn)) call89 (λq s=>SK q (mg.nil _ _ _) mv mv D) ?_)
 rintro _ a3 a4 U a N i d ⟨M,Y,k,rfl,H⟩
 cases k
 have a:=a.perm (Tb (Tr Tn))
 refine ln ?_
 have a:=a.ll (Kb (Kr (Db St)))
 refine sg (Wm (bS hm λa2 G hm=>VE (oG a call82 (na.mN (yY (H.sl (λ_=>rfl) λb o h=>a.at_ (Mt (Ml h))) (At.of (a.at_ Mh) _ Z) G)) λO K a5 I a Q j t=>Wa (ln ?_))))
 have a:=a.ll (Kr (Db (Dr St)))
 refine lO ?_
 cases sj hm
 exact ma (v:=K) Z Z ⟨_,I,Z,a.nT (λp h=>Ml h) t.nd,t⟩
theorem O6 (g:Int) (r:List Int) (w:World) (hm:E9 g=some r) :
  na true pg0 126 [vI g] w 5 (lJ .u8) 1 r:=by
 refine vr 11 func126 Z (λd=>sg (Wa (lr (V (mW (v:=vA [vN]) pP (mz ji ez (N1 _ ez) kr)) (VE (mA d Z (λN u d=>Wa (lr ?_))))))))
 refine Wm (Wm (bS hm λG x hm=>?_))
 refine VE (eM d (Cb Pz (C0 Cn)) jK (λs _=>pd s (mg.nil _ _ _) x) ?_)
 rintro _ T U H d D O h ⟨z,I,a,rfl,k⟩
 cases a
 have d:=d.perm (Tb (Tr Tn))
 refine lr (Wm (bS hm λK j hm=>VE (oG d call82 (yY (k.sl (λ_=>rfl) λb o i=>d.at_ (Mt (Ml i))) (At.of (d.at_ Mh) _ Z) j) λJ y M t d B q c=>Wa (ln ?_))))
 have d:=d.ll (Kr (Db (Dr St)))
 refine lO ?_
 cases sj hm
 exact ma (v:=y) Z Z ⟨_,t,Z,d.nT (λp i=>Ml i) c.nd,c⟩
theorem Mw (T:Sl (Pl (lJ .u8)) 1 (hp qa) q0 ql) (hm:Dq qb ql=some qm) :
  na true pg0 88 [vI qb,q0] qa 5 (lJ .u8) 1 qm:=by
 refine vr 30 func88 Z (λd=>sg (Wa (lr (Wm (bS hm λQ b3 hm=>VE (oG d call126 (O6 qb _ _  b3) λW3 v7 O R8 d a8 a6 a4=>Wm ?_))))))
 obtain ⟨J,M,rfl⟩:=a4.form
 obtain ⟨K,N,rfl⟩:=T.form
 refine VE (mn (cs:=#[.slice J Q.length M,.slice K ql.length N]) d (pZ Z Z) (nU dH dA fL) λc1 b2 d=>bS hm λk a9 hm=>VE (Eg d call78 (Pw (wo.lit (l:=[Q,ql]) (vs:=[.slice J Q.length M,.slice K ql.length N]) Z nb (d.at_ Mh) (.cons (a4.sl (λ_=>rfl) λb o s=>d.at_ (Mt (Ml s))) (.cons mv .nil))) a9) λc2 d=>Wa (ln ?_)))
 have d:=d.ll (Db (Dr St))
 refine sg (bS hm λb4 a7 hm=>VE (Mc (enc:=lJ .u8) (z:=0) d (λ_=>rfl) dc aZ sL.1 sL.2.1 sL.2.2.1 sL.2.2.2 Z Z Z a7 λc3 U b1 d I=>Wa (lS (Wm (V (sf aZ Z I) (Wm (ln ?_)))))))
 refine nM 16 15 (λi js E W=>∃D y G,ST true nf qa W O (y++G)∧E 5= .int .u64 k∧E 6=U∧mg 5 (lJ .u8) 1 U D y∧AA k js i D=some qm) I.len ⟨b4,b1,_,d.ll,Z,Z,I,hm⟩ ?_ ?_
 ·rintro j c4 b9 E W b6 ⟨⟨q,P⟩,D,y,G,d,H,t,g,c⟩
  refine sg (Wh q (Wa (ln (lI (Wh t (Wm (Wh H (Wm (Wi Z (Wi Z (bS c λ_ a2 c=>V (JM (a:=k) (b:=wi0 .i64 (8*(wi0 .i64 (7-(j:Int))))) Z Z (Yb a2)) ?_)))))))))))
  let h:=wi0 .i64 (8*(wi0 .i64 (7-(j:Int))))
  exact V (uI (k':=.u64) (a:=Int.fdiv k (2 ^ min (Int.toNat h) (IntKind.bits .u64))) underlying153 eS Z) (bS c λb0 x c=>VQ (pC (i:=(j:Int)) (x0:=b0) aZ gb Z Z g (mK x) (mE x)) λb7 a3=>VO (zF (u:= .int .u8 (IntKind.u8.wrap (Int.fdiv k (2 ^ min (Int.toNat h) (IntKind.bits .u64))))) (x1:=IntKind.u8.wrap (Int.fdiv k (2 ^ min (Int.toNat h) (IntKind.bits .u64))))  d g (λ_=>rfl) (vM _) Z Z Z a3 (mE x) gb λb5 a5 d Y=>mh (mx (lE ⟨q,P,D.set (Int.toNat (j:Int)) (IntKind.u8.wrap (Int.fdiv k (2 ^ min (Int.toNat h) (IntKind.bits .u64)))),a5,_,d.ll,H,t,Y,c⟩))))
 rintro E W ⟨⟨q,P⟩,D,y,G,d,H,t,g,c⟩
 refine lE (sg (Wh t (Wa (lt ?_))))
 cases sj c
 exact ma (v:=U) Z Z ⟨_,y,Z,d.nT (λp s=>Ml s) g.nd,g⟩
theorem Rx (t:Sl (Pl (lJ .u8)) 1 (hp qa) q0 ql) (hm:Hq qb ql=some qm) :
  na true pg0 46 [vI qb,q0] qa 5 (lJ .u8) 1 qm:=by
 refine vr 32 func46 Z (λd=>sg (Wa (lS (Wm (Wi Z (Wm (LJ hm (λU E W=>∃L3,ST true nf qa W (hp qa) L3∧E 0=vI qb∧E 1=q0∧E 11=vB U) 3 ?_ λU k G=>?_)))))))
 ·rintro x2 E W ⟨L3,d,O,Y,e7⟩ c1
  refine Wh e7 (LJ c1 (λT E W=>∃M,ST true nf qa W (hp qa) M∧E 0=vI qb∧E 1=q0∧E 16=vB T) 4 ?_ λT j D=>?_)
  ·rintro x9 E W ⟨M,d,N,Q,b9⟩ a
   refine ln (CI a b9 (λa5 a=>?_) λa5 a=>?_)
   ·refine sg (Wa (lt (mj ?_)))
    cases sj a
    exact ma (v:=vN) Z Z ⟨_,[],Z,d.nT (λp h=>by cases h) rv,mg.nil _ _ _⟩
   refine kg (V (mW (v:=vA [vN]) pP (mz ji ez (N1 _ ez) kr)) (VE (mA d Z (λe0 z d=>Wa (lr (Wm (Wh N (bS a λc2 a6 a=>?_))))))))
   refine VE (eM d (Cb Pz (C0 Cn)) jK (λq _=>pd q (mg.nil _ _ _) a6) ?_)
   rintro _ f0 f3 d5 d B P g ⟨c8,b6,u,rfl,b1⟩
   cases u
   have d:=d.perm (Tb (Tr Tn))
   refine lr (Wm (Wh Q (bS a λc3 a7 a=>?_)))
   refine VE (eM d (Cb Pz (Cr Qz Cn)) call87 (λq J=>Aw q b1 mv a7) ?_)
   rintro _ f1 f4 d6 d K a1 g ⟨c9,b7,x,rfl,b2⟩
   cases x
   have d:=d.perm (Tb (Tr Tn))
   refine lr (Wm (Wh N (Wh Q (bS a λc4 a8 a=>VE (oG d call88 (Mw mv a8) λe3 c6 f5 d8 d d1 aa a4=>bS a λc5 a9 a=>?_)))))
   refine VE (Gi d (Cb (Pr Pz) (Cr (Qr Qz) Cn)) call87 (λhH hN J s=>Aw ⟨hH,hN,lM.refl _⟩ b2 (a4.sl (λ_=>rfl) λb o h=>s b o (Ml h)) a9) λe4 f2 f6 d7 d d2 ab g a3=>?_)
   obtain ⟨d0,d9,y,rfl,b3⟩:=a3
   replace y:=y.symm; subst y
   have d:=d.perm (Tb (Tr Tn))
   refine ln ?_
   have d:=d.ll (Kb (Kr (Dr St)))
   refine sg (Wm (bS a λe9 b0 a=>VE (oG d call82 (yY (b3.sl (λ_=>rfl) λb o h=>d.at_ (Mt (Ml h))) (At.of (d.at_ Mh) _ Z) b0) λe8 c7 f7 b5 d d3 ad I=>Wa (ln ?_))))
   have d:=d.ll (Kr (Db (Dr St)))
   refine lO ?_
   cases sj a
   exact ma (v:=c7) Z Z ⟨_,b5,Z,d.nT (λp h=>Ml h) I.nd,I⟩
  refine bC j (λc j=>?_) (λc j=>?_)
  ·refine un c (un c (un c (V (lQ (cB c) Z) ?_)))
   cases sj j
   exact D _ _ ⟨_,d.ll,O,Y,Z⟩
  refine ug c (lz Y) (ug c (mP aZ Z t) (ug c (mL Z Z Z) (V (lN (cB c) Z) ?_)))
  cases sj j
  exact D _ _ ⟨_,d.ll,O,Y,Z⟩
 refine bC k (λi k=>?_) (λi k=>?_)
 ·refine un i (un i (V (lQ (cB i) Z) ?_))
  cases sj k
  exact G _ _ ⟨_,d.ll,Z,Z,Z⟩
 refine ug i (lz Z) (ug i (mL Z Z Z) (V (lN (cB i) Z) ?_))
 cases sj k
 exact G _ _ ⟨_,d.ll,Z,Z,Z⟩
theorem KD (g:Sl (Pl lp) 2 (hp qa) q0 qH.nX) (c:Sl mR 10 (hp qa) q1 qH.nm) (hm:Ci qb qH=some ql) :
  na false pg0 14 [vI qb,vA [vI qH.Kind,vI qH.ny,vI qH.E,vS qH.Name,q0,q1]] qa 5 (lJ .u8) 1 ql:=by
 refine vr 12 func14 Z (λa=>sg ?_)
 obtain ⟨k,u,rfl⟩:=g.form
 obtain ⟨t,x,rfl⟩:=c.form
 let a0:=C6 qH.Kind qH.ny qH.E qH.Name k qH.nX.length u t qH.nm.length x
 refine VE (mA a Z (λW6 q a=>Wa (lS (VA a Mh a0 dv bR (bS hm λs J hm=>VE (Eg a call45 (FB mv mv J) λW9 a=>V (nK Z) (ln (CI hm Z (λD hm=>?_) λD hm=>?_))))))))
 ·refine sg (Wa (ln ?_))
  have a:=a.ll (Db St)
  refine lO (mj ?_)
  cases sj hm
  exact ma (v:=vN) Z Z ⟨_,[],Z,a.nT (λp d=>by cases d) rv,mg.nil _ _ _⟩
 refine kg (Wm (VA a Mh a0 dv bR (bS hm λK G hm=>VE (oG a call47 (Ti mv mv G) λY M a3 U a Q h B=>bS hm λa2 H hm=>VE (oG a call46 (na.mN (Rx (B.sl (λ_=>rfl) λb o d=>a.at_ (Ml d)) H)) λj N a4 I a T i y=>Wa (ln ?_))))))
 have a:=a.ll (Kr (Dr (Db St)))
 refine lO ?_
 cases sj hm
 exact ma (v:=N) Z Z ⟨_,I,Z,a.nT (λp d=>Ml d) y.nd,y⟩
theorem JY {F:Nat→Prop} {w W:World} (t z:Nat) (J P:Value) (c y:Int) (u:FrameMode) (s:ST qf F w W qe ((t,.cells #[J,P] 239 (0,0))::(z,.cells #[.int .i64 c] 45 (0,0))::qo)) (hu:(u= .returning∧y=c)∨u= .panicking [{ v:=Ar 244 t y,recovered:=false }]) :
  CallsD pg0 163 #[.pointer (some ⟨t,0,none⟩),.pointer (some ⟨z,0,none⟩)] u W λe O W'=>e= .returned (vT [])∧settle O= .returning∧ST qf F w W' qe ((t,.cells #[J,.bool true] 239 (0,0))::(z,.cells #[.int .i64 y] 45 (0,0))::qo):=by
 refine callsD_of_wpS func163 Z λx M I=>ab0 (n:=31) (lI (Wm (Wn (Wf O2 (VO (GK [] (vB true) #[J,.bool true] s Z Z ij oc (aY 2) Z (λg s=>mh ⟨Z,λa ha=>wpS_seq ?_⟩))))))) (RG (args:=[.pointer (some ⟨t,0,none⟩),.pointer (some ⟨z,0,none⟩)]) Tryz.ntmps163 nb)
 rcases hu with ⟨rfl,rfl⟩ | rfl
 ·refine Mq (n:=31) (d:=10) (d2:=4) (v:=.nilIface) (cs':={ x with mode:=.returning }::M) dc dc Z Z Z Z (λ_=>rfl) (λE h=>nB h) (.inr ⟨?_,Z,?_⟩) ha (λa ha=>?_)
  ·simp only [recoverD,I]
  ·rw [←I]
  exact TH (u:=.returning) Tryz.results163 (lH (sg (Wm (V (aai underlying20 Z Z) (ln (xz Z (lO (mj ⟨.inr Z,Z,Z,s⟩)))))))) ha
 refine Mq (n:=31) (d:=10) (d2:=4) (v:=Ar 244 t y) (cs':={ x with mode:=.panicking [{ v:=Ar 244 t y,recovered:=true }] }::M) dc dc Z Z Z Z (λ_=>rfl) (λE h=>nB h) (.inl ?_) ha (λa ha=>?_)
 ·simp only [recoverD,I]
 refine TH (u:=.panicking [{ v:=Ar 244 t y,recovered:=true }]) Tryz.results163 (lH (sg (Wm (V (aaI underlying20 Z Z) (ln (oV Z (kg (Wm (V (UW gm (by intro q h; cases h) Z) ?_))))))))) ha
 refine Wm (Wx Z (Wx Z (VE (lY s zeroValue244 λi Q s=>VO (GK [] (vA [.pointer (some ⟨t,0,none⟩),.int .i64 y]) #[.pointer (some ⟨t,0,none⟩),.int .i64 y] s Z Z sizeOf244 oc (aY 2) Z (λj s=>Wa (lS (Wm (V (nK Z) (Wm (Vg Z Z (ly aap Z) ?_)))))))))))
 refine Vg Z Z (lq Z (lA s.has Mh Z isAgg204)) (Vg Z Z (lz Z) (Vg Z Z (SO ko sizeOf239 Z Z) (V (lN Z Z) (ln (oV Z (kn (lI (Wm (Wf aaA (VB s Mh Z Z kZ (Wn (VO (GK [_,_] (vI y) #[.int .i64 y] s Z Z jI oc (aY 1) Z (λk s=>?_))))))))))))))
 exact mh ⟨.inl Z,Z,Z,ST.drop (A:=[]) s⟩
theorem L6 {dd:Bool} {S:Type} (fk:Nat) (a:Array Value) (N:Value) (T b:List Int) (s:Int ⊕ S) (rd:S→List Int) (w:World) (h0:oa qe qo w) (hb:Sl (Pl (lJ .u8)) 1 qe N T) (Y:rO T=some b) (K:S→LO→mO→Prop) (X:Int→LO→mO→Prop) (H:∀args w,(callFunc fk args).run pg0 w= .ok (.enter fk args) w) (hf:∀(w':World) (μ':mO) (O:Nat) (G:Value),oa μ' ((O,Obj.cells #[G,.bool false] 239 (0,0))::qo) w'→lM qe μ'→Sl (Pl (lJ .u8)) 1 μ' G b→
   mS dd pg0 fk (.pointer (some ⟨O,0,none⟩)::a.toList) w' μ' ((O,Obj.cells #[G,.bool false] 239 (0,0))::qo) s (λr v B u=>∃y z L',B=(O,Obj.cells #[y,z] 239 (0,0))::L'∧Sl (Pl (lJ .u8)) 1 u y (rd r)∧K r L' u)
    (λx c B u=>∃y z L',c=[{ v:=Ar 244 O x,recovered:=false }]∧B=(O,Obj.cells #[y,z] 239 (0,0))::L'∧X x L' u)) :
  my dd pg0 128 [N,.func (.func fk) #[] a] w qe qo (λv B u=>v=vI (El rd s)∧Zn K X s B u):=by
 refine Xc ?_
 have j:=ST.zZ (dd:=dd) h0
 refine Sp (n:=22) func128 Z Z nb (TO (lI (VE (lY j zeroValue45 λW1 Q j=>mh ⟨Z,TO (lI (Wm (VE (oG j call19 (na.mN (Br mv Y)) λW2 v2 ab R2 j g a6 U=>?_))))⟩))))
 obtain ⟨ad,j,i,a7,J⟩:=ST.xM j U (λ_=>rfl)
 obtain ⟨A,c,rfl⟩:=J.form
 refine V (mW (v:=vA [.slice A b.length c,.bool false]) (nw Z) (mz zeroValue239 iF (acb _ iF) kr)) (VE (mA j Z (λW3 O j=>Wa (mh ⟨Z,abU (U4 (acR (.inl Z) Z dc (lz Z) (V2 (d:=⟨.fn (.func 163) #[],#[.pointer (some ⟨O,0,none⟩),.pointer (some ⟨Q,0,none⟩)]⟩) (.inl Z) Z (WK (args:=[.pointer (some ⟨O,0,none⟩),.pointer (some ⟨Q,0,none⟩)]) Z (by exact px Z Z)) (lE (GG (GG (EU (Fx (.inl Z) Z dc (lz Z) (Fx (.inl Z) Z dc (SJ underlying207 Z Z) (IA ?_))))))))))⟩))))
 refine lE (SE Z (EU (Fx (.inl Z) Z dc (lz Z) (Fx (.inl Z) Z dc (lz Z) ?_))))
 have hP:List.Perm ((O,Obj.cells (vA [.slice A b.length c,.bool false]:Value).cells 239 (0,0))::(Q,Obj.cells (Value.int IntKind.i64 0).cells 45 (0,0))::qo) (((O,Obj.cells #[.slice A b.length c,.bool false] 239 (0,0))::qo)++[(Q,Obj.cells (Value.int IntKind.i64 0).cells 45 (0,0))]):=List.Perm.cons _ (dV (l₁:=[_]))
 have hB:∀{M:LO} {p q:Nat×Obj},((p::M)++[q]).Perm (p::q::M):=List.Perm.cons _ (dV (l₂:=[_]))
 rcases s with x | r
 ·refine acN (.inl Z) (pe (args:=[vP O]) (caps:=a) _ _ j hP Z H (by exact pp Z) (λhH hN a1 aa=>mS.l (hf _ _ O _ ⟨hH,hN,a1⟩ (g.trans i) J)) λW4 cc Zq L4 j D W hX=>?_)
  obtain ⟨y,z,L',rfl,rfl,hX⟩:=hX
  have j:=j.perm hB
  intro E' a8
  refine oA (Q9 rv call163 (JY _ _ _ _ 0 x _ j (.inr Z)) λI j=>oW (v:=.int .i64 x) Z (a8 4) (lA j.has (.tail _ (.head _)) Z kZ) ?_)
  have j:=ST.drop (A:=[]) (ST.drop (A:=[]) j)
  exact ⟨_,_,_,Z,j.abc,(g.trans i).trans D,(a6.trans a7).trans W,j.lG λ_ h=>h,Z,hX⟩
 refine acW (.inl Z) Z dc (D0 (args:=[vP O]) (caps:=a) _ _ j hP Z H (by exact pp Z) (λhH hN a1 aa=>mS.r (hf _ _ O _ ⟨hH,hN,a1⟩ (g.trans i) J)) λW4 v4 Zq L4 j D W hK=>?_)
 obtain ⟨y,z,L',rfl,hy,hK⟩:=hK
 have j:=j.perm hB
 refine IA (lE (GG (GG (EU (Fx (.inl Z) Z dc (lz Z) (Fx (.inl Z) Z dc (lX Z) (Fx (.inl Z) Z dc (ly CA Z) (Fx (.inl Z) Z dc (lq Z (lA j.has (.head _) Z dq)) (Fx (.inl Z) Z dc (mP aZ Z hy) (Fx (.inl Z) Z dc (mL Z Z Z) (IA (lE ?_))))))))))))
 have P:∀(k:Int) (E:nn) (I:World),E 4= .pointer (some ⟨Q,0,none⟩)→k=(if (rd r).length > 0 then 13 else 0)→ST dd (keys qo) w I Zq ((O,Obj.cells #[y,z] 239 (0,0))::(Q,Obj.cells #[.int .i64 k] 45 (0,0))::L')→∀tmps:Array Value,(∀t,tmps.getD t undef=E t)→Leaves pg0 Tryz.f128 tmps (Zv dd w qe qo λv B u=>v=vI (El rd (.inr r))∧Zn K X (.inr r) B u) [⟨.fn (.func 163) #[],#[.pointer (some ⟨O,0,none⟩),.pointer (some ⟨Q,0,none⟩)]⟩] .returning I:=λk E I h4 hk j=>by
  refine Q9 rv call163 (JY _ _ _ _ k k _ j (.inl ⟨Z,Z⟩)) (λW6 j=>oW (v:=.int .i64 k) Z h4 (lA j.has (.tail _ (.head _)) Z kZ) ?_)
  have j:=ST.drop (A:=[]) (ST.drop (A:=[]) j)
  exact ⟨_,_,_,Z,j.abc,(g.trans i).trans D,(a6.trans a7).trans W,j.lG λ_ h=>h,by rw [hk,El],hK⟩
 refine XW (b:=decide (((rd r).length:Int) > 0)) Z (λhq=>?_) (λhq=>?_)
 ·exact GG (EU (XD (.inl Z) Z (GK [_] (vI 13) #[.int .i64 13] j Z Z jI oc (aY 1) Z (λI j=>IA (lE (Ud (mj (P 13 _ _ Z (by rw [aO (by simpa using hq)]) j))))))))
 exact Yu (lE (GG (EU (XD (.inl Z) Z (GK [_] (vI 0) #[.int .i64 0] j Z Z jI oc (aY 1) Z (λI j=>IA (lE (Ud (P 0 _ _ Z (by rw [aH (by simpa using hq)]) j)))))))))
theorem Gl (k:Sl (Pl (lJ .u8)) 1 (hp qa) q0 ql) (j:At (hp qa) (vP qh) [q0,vB qf]) (hm:yu ql qf=some qg) :
  mo true pg0 164 [vP qh] qa (vB qg):=by
 refine cG 11 func164 Z (λa=>sg (Wa (lr (Wm (V (ox ko Z Z) (Wm (Vg Z Z (lz Z) (Vg Z Z (lX Z) (VgQ Z Z (pM [vB qf] O2 Z j Z) λu t=>Vg Z Z (lq Z (om a.has (y:=vB qf) t fe)) ?_)))))))))
 exact V (lN Z Z) (Wa (lt (rQ hm a)))
theorem nk (a:Nat) (t:mf) (g:Value) (B:Int) (s:(Int ⊕ Unit)) (w:World) (T:oa qe ((a,Ob #[g,vB t.over] 239)::[]) w) (I:Sl (Pl (lJ .u8)) 1 qe g t.b) (hm:nS t B=some s) :
  mS true pg0 132 [vP a,vI B] w qe ((a,Ob #[g,vB t.over] 239)::[]) s (λr v G U=>v=vT []∧G=((a,Ob #[g,vB t.over] 239)::[])) (λx c G U=>∃y z,c=[{ v:=Ar 244 a x,recovered:=false }]∧G=((a,Ob #[y,z] 239)::[])):=by
 have d:=ST.zZ (dd:=true) T
 refine uv (n:=21) func132 Z Z nb (sg (Wm (V (Bj ko Z Z) (Wm (Vg Z Z (lz Z) (Vg Z Z (lX Z) (Vg Z Z (ly O2 Z) (Vg Z Z (lq Z (lA d.has Mh Z fe)) (Vg Z Z (nK Z) (V (lQ Z Z) (Wm (LJ hm (λK E W=>∃H,ST true (keys ((a,Ob #[g,vB t.over] 239)::[])) w W qe ((a,Ob #[g,vB t.over] 239)::H)∧E 0=vP a∧E 1=vI B∧E 16=vB K) 3 ?_ λK j u=>?_))))))))))))
 ·rintro Y E W ⟨H,d,M,N,Q⟩ k
  refine ln (CI k Q (λJ k=>?_) λJ k=>?_)
  ·refine lI (Wh M (Wh N (V (mW (v:=vA [vP a,vI B]) (pZ Z Z) (mz zeroValue244 gm (acf _ gm) kr)) (V (Z5 gm (by intro q h; cases h) Z) (tG (.inl Z) (ZJ Z (pN ?_)))))))
   cases sj k
   exact og.li ⟨_,_,_,Z,d.mB (Kb Sn),lM.refl _,Lo.refl,ST.lG d (mJ.mem (Kb Sn)),⟨_,_,Z,Z⟩⟩
  refine mU (LR (rI ?_))
  cases sj k
  exact pF Z (og.ri ⟨_,_,_,Z,d.mB (Kb Sn),lM.refl _,Lo.refl,ST.lG d (mJ.mem (Kb Sn)),Z,Z⟩)
 refine bC j (λi j=>?_) (λi j=>?_)
 ·refine ug i (lz Z) (ug i (mL Z Z Z) (V (lQ (cB i) Z) ?_))
  cases sj j
  exact u _ _ ⟨_,d.ll,Z,Z,Z⟩
 refine un i (un i (V (lN (cB i) Z) ?_))
 cases sj j
 exact u _ _ ⟨_,d.ll,Z,Z,Z⟩
theorem Ee {s:(Int ⊕ (Int×mf))} (h0:oa qe ((qh,Ob #[q0,vB qQ.over] 239)::[]) qa) (k:Sl (Pl (lJ .u8)) 1 qe q0 qQ.b) (hm:yD qQ qb=some s) :
  mS true pg0 165 [vP qh,vI qb] qa qe ((qh,Ob #[q0,vB qQ.over] 239)::[]) s (λr v L1 μ1=>∃y1,v= .int .u8 r.1∧L1=((qh,Ob #[y1,vB r.2.over] 239)::[])∧Sl (Pl (lJ .u8)) 1 μ1 y1 r.2.b) (λx c L1 μ1=>∃y z,c=[{ v:=Ar 244 qh x,recovered:=false }]∧L1=((qh,Ob #[y,z] 239)::[])):=by
 let c8:=(⟨qQ.b.drop (Int.toNat 1),qQ.over⟩:mf)
 let c7:=(#[q0,vB qQ.over]:Array Value)
 let b8:Value:=vP qh
 let a0:=(qh,oC c7 239)::[]
 have a:=ST.zZ (dd:=true) h0
 refine uv (n:=41) func165 Z Z nb (sg (Wa (ln (lH (IW hm (λg0 E W=>∃Y d7,lM qe Y∧Lo (keys a0) qa qe Y∧ST true (keys a0) qa W Y ((qh,oC c7 239)::d7)∧E 0=b8∧E 1=vI qb) (λg0 B a2=>?_) ?_)))))
 ·refine sg (Wm (Wi Z (ln (CI B Z (λd3 B=>?_) λd3 B=>?_))))
  ·refine lI (Wm (bS B λg1 b5 B=>?_))
   rcases g1 with f6 | h6
   ·have O:=a.size
    refine tG (.inl Z) (pe (args:=[b8,vI 11]) (caps:=#[]) _ _ a (Cb Pz Cn) Z eP (by exact px Z Z) (λhH hN q ae=>mS.l (nk qh qQ q0 11 _ _ ⟨hH,hN,q⟩ (k.mono (Pl.mono _) (lM.refl _)) b5)) λe7 h2 c6 e4 a T h ab=>?_)
    obtain ⟨i3,i6,d6,rfl⟩:=ab
    have a:=a.perm (Tb Tn)
    refine oA (pN ?_)
    cases sj B
    replace a2:some (Sum.inl f6)=some s:=a2
    cases sj a2
    exact og.li ⟨_,_,_,Z,a.mB (Kb Sn),T,h,ST.lG a (mJ.mem (Kb Sn)),⟨_,_,d6,Z⟩⟩
   have O:=a.size
   refine VE (eD a (Cb Pz Cn) eP (λhh=>mS.r (nk qh qQ q0 11 _ _ hh (k.mono (Pl.mono _) (lM.refl _)) b5)) ?_)
   rintro e7 h9 c6 e4 a T h ⟨a6,rfl⟩
   cases a6
   have a:=a.perm (Tb Tn)
   refine ln ?_
   cases sj B
   exact ⟨_,Z,c6,_,T,h,a.ll,Z,Z⟩
  refine kn ?_
  cases sj B
  exact ⟨_,Z,qe,_,lM.refl _,Lo.refl,a.ll,Z,Z⟩
 rintro ⟨⟩ E W ⟨Y,d7,G,j,a,b1,e0⟩ f0
 refine lH (IW f0 (λf8 E W=>∃I d8,lM Y I∧Lo (keys a0) qa Y I∧ST true (keys a0) qa W I ((qh,oC c7 239)::d8)∧E 0=b8∧E 1=vI qb) (λf8 u Zq=>?_) ?_)
 ·refine sg (Wh b1 (Wn (Wf CA (VB a Mh Z Z dq (V (mP aZ Z k) (Wi Z (ln (CI u Z (λd2 u=>?_) λd2 u=>?_))))))))
  ·refine lI (Wh b1 (bS u λf9 b4 u=>?_))
   rcases f9 with f5 | h5
   ·have O:=a.size
    refine tG (.inl Z) (pe (args:=[b8,vI 10]) (caps:=#[]) _ _ a (Cb Pz Cn) Z eP (by exact px Z Z) (λhH hN q ae=>mS.l (nk qh qQ q0 10 _ _ ⟨hH,hN,q⟩ (k.mono (Pl.mono _) G) b4)) λe6 h1 c5 e3 a Q g aa=>?_)
    obtain ⟨i2,i5,d5,rfl⟩:=aa
    have a:=a.perm (Tb Tn)
    refine oA (pN ?_)
    cases sj u
    replace Zq:some (Sum.inl f5)=some s:=Zq
    cases sj Zq
    exact og.li ⟨_,_,_,Z,a.mB (Kb Sn),G.trans Q,j.trans g,ST.lG a (mJ.mem (Kb Sn)),⟨_,_,d5,Z⟩⟩
   have O:=a.size
   refine VE (eD a (Cb Pz Cn) eP (λhh=>mS.r (nk qh qQ q0 10 _ _ hh (k.mono (Pl.mono _) G) b4)) ?_)
   rintro e6 h8 c5 e3 a Q g ⟨a5,rfl⟩
   cases a5
   have a:=a.perm (Tb Tn)
   refine ln ?_
   cases sj u
   exact ⟨_,Z,c5,_,Q,g,a.ll,b1,e0⟩
  refine kn ?_
  cases sj u
  exact ⟨_,Z,Y,_,lM.refl _,Lo.refl,a.ll,b1,e0⟩
 rintro ⟨⟩ E W ⟨I,d8,J,P,a,a7,g2⟩ U
 refine sg (Wh a7 (Wn (Wf CA (VB a Mh Z Z dq (bS U λa9 c2 U=>VQ (rp (enc:=lJ .u8) (i:=0) (x0:=a9) aZ gb Z Z (k.mono (Pl.mono _) (G.trans J)) (mK c2) (mE c2)) λi8 f3=>V (lq Z (om a.has (y:= .int .u8 a9) f3 isAgg5)) (Wa (lr (Wh a7 ?_))))))))
 refine Wh a7 (Wn (Wf CA (VB a Mh Z Z dq (bS U λ_ c1 U=>VQ (Ds (i:=1) aZ gb Z Z (k.mono (Pl.mono _) (G.trans J)) (uh c1) (tY c1)) λi9 a3=>Wn (Wf CA ?_)))))
 obtain ⟨K,M,rfl⟩:=a3.1.form
 let b7:Value:= .slice K (qQ.b.drop (Int.toNat 1)).length M
 refine VO (lZ b7 (#[b7,vB qQ.over]) a Z Z dA oc nb Z (λi7 a=>ln (lH (IW U (λg4 E W=>∃b6 d9,lM I b6∧Lo (keys a0) qa I b6∧ST true (keys a0) qa W b6 ((qh,Ob #[b7,vB qQ.over] 239)::d9)∧E 5= .int .u8 a9) (λg4 f2 b0=>?_) ?_))))
 ·refine sg (Wm (Wi Z (Wm (LJ f2 (λc3 E W=>∃b9,ST true (keys a0) qa W I ((qh,Ob #[b7,vB qQ.over] 239)::b9)∧E 0=b8∧E 5= .int .u8 a9∧E 37=vB c3) 3 ?_ λc3 H a8=>?_))))
  ·rintro i0 E W ⟨b9,a,e8,c0,e9⟩ t
   refine ln (CI t e9 (λd1 t=>?_) λd1 t=>?_)
   ·refine lI (Wh e8 (bS t λf7 b3 t=>?_))
    rcases f7 with f4 | h4
    ·have O:=a.size
     refine tG (.inl Z) (pe (args:=[b8,vI 11]) (caps:=#[]) _ _ a (Cb Pz Cn) Z eP (by exact px Z Z) (λhH hN q ae=>mS.l (nk qh c8 b7 11 _ _ ⟨hH,hN,q⟩ (a3.1.mono (Pl.mono _) (lM.refl _)) b3)) λe5 g9 c4 e2 a N d a1=>?_)
     obtain ⟨i1,i4,d4,rfl⟩:=a1
     have a:=a.perm (Tb Tn)
     refine oA (pN ?_)
     cases sj t
     replace b0:some (Sum.inl f4)=some s:=b0
     cases sj b0
     exact og.li ⟨_,_,_,Z,a.mB (Kb Sn),(G.trans J).trans N,(j.trans P).trans d,ST.lG a (mJ.mem (Kb Sn)),⟨_,_,d4,Z⟩⟩
    have O:=a.size
    refine VE (eD a (Cb Pz Cn) eP (λhh=>mS.r (nk qh c8 b7 11 _ _ hh (a3.1.mono (Pl.mono _) (lM.refl _)) b3)) ?_)
    rintro e5 h7 c4 e2 a N d ⟨a4,rfl⟩
    cases a4
    have a:=a.perm (Tb Tn)
    refine ln ?_
    cases sj t
    exact ⟨_,Z,c4,_,N,d,a.ll,c0⟩
   refine kn ?_
   cases sj t
   exact ⟨_,Z,I,_,lM.refl _,Lo.refl,a.ll,c0⟩
  refine bC H (λD H=>?_) (λD H=>?_)
  ·refine ug D (lz g2) (ug D (mL Z Z Z) (V (lQ (cB D) Z) ?_))
   cases sj H
   exact a8 _ _ ⟨_,a.ll,a7,Z,Z⟩
  refine un D (un D (V (lN (cB D) Z) ?_))
  cases sj H
  exact a8 _ _ ⟨_,a.ll,a7,Z,Z⟩
 rintro ⟨⟩ E W ⟨b6,d9,b2,ad,a,g3⟩ f1
 refine sg (Wh g3 (Wa (lt (xX ?_))))
 cases sj f1
 exact ma (v:= .int .u8 a9) Z Z (og.ri ⟨_,_,_,Z,a.mB (Kb Sn),(G.trans J).trans b2,(j.trans P).trans ad,ST.lG a (mJ.mem (Kb Sn)),b7,Z,Z,a3.1.mono (Pl.mono _) b2⟩)
theorem nN {s:(Int ⊕ (Int×mf))} (h0:oa qe ((qh,Ob #[q0,vB qQ.over] 239)::[]) qa) (K:Sl (Pl (lJ .u8)) 1 qe q0 qQ.b) (hm:oK qQ qb=some s) :
  mS true pg0 130 [vP qh,vI qb] qa qe ((qh,Ob #[q0,vB qQ.over] 239)::[]) s (λr v L1 μ1=>∃y1,v=vI r.1∧L1=((qh,Ob #[y1,vB r.2.over] 239)::[])∧Sl (Pl (lJ .u8)) 1 μ1 y1 r.2.b) (λx c L1 μ1=>∃y z,c=[{ v:=Ar 244 qh x,recovered:=false }]∧L1=((qh,Ob #[y,z] 239)::[])):=by
 let b7:Value:=vP qh
 let b2:=(qh,Ob #[q0,vB qQ.over] 239)::[]
 have d:=ST.zZ (dd:=true) h0
 refine uv (n:=31) func130 Z Z nb (sg (Wa (lS (Wm (bS hm λr1 e0 hm=>VE (Eg d call164 (Gl mv (At.of (d.at_ Mh) _ Z) e0) λW3 d=>ln (CI hm Z (λd9 hm=>?_) λd9 hm=>?_)))))))
 ·refine sg (Wa (lt (mj (xX ?_))))
  cases sj hm
  exact ma (v:=vI 0) Z Z (og.ri ⟨_,_,_,Z,d.mB (Kb Sn),lM.refl _,Lo.refl,ST.lG d (mJ.mem (Kb Sn)),q0,Z,Z,K⟩)
 refine kg (Wa (lS (Wa (ln (nO (pE (λm E W=>∃G u Q N T Y b3,lM qe Y∧Lo (keys b2) qa qe Y∧ST true (keys b2) qa W Y ((qh,Ob #[Q,vB T] 239)::b3)∧E 0=b7∧E 1=vI qb∧E 5=vI G∧E 6=vI u∧Sl (Pl (lJ .u8)) 1 Y Q N∧pT qb m G u N T=some s) mZ ⟨0,0,q0,qQ.b,qQ.over,qe,_,lM.refl _,Lo.refl,d.ll,Z,Z,Z,Z,K,hm⟩ ?_))))))
 rintro m E W ⟨G,u,Q,N,T,Y,b3,H,h,d,a7,b5,d2,a8,b1,i⟩
 cases m with
 | zero=>rw [pT] at i; cases i
 | succ d4=>
  refine lH (bg (Wh a7 (Wh a8 (bS i λd8 a9 i=>?_))))
  rcases d8 with e6 | t
  ·have a1:=d.size
   refine tG (.inl Z) (pe (args:=[b7,vI u]) (caps:=#[]) _ _ d (Cb Pz Cn) Z call165 (by exact px Z Z) (λhH hN P aa=>mS.l (Ee ⟨hH,hN,P⟩ mv a9)) λd0 e3 Zq c8 d D g q=>?_)
   obtain ⟨f0,f2,c3,rfl⟩:=q
   have d:=d.perm (Tb Tn)
   refine oA (xI (oA (oA (xI (oA (pN ?_))))))
   cases sj i
   exact og.li ⟨_,_,_,Z,d.mB (Kb Sn),H.trans D,h.trans g,ST.lG d (mJ.mem (Kb Sn)),⟨_,_,c3,Z⟩⟩
  have a1:=d.size
  refine VE (eD d (Cb Pz Cn) call165 (λhh=>mS.r (Ee hh mv a9)) ?_)
  rintro d0 e8 Zq c8 d D g ⟨U,a3,rfl,J⟩
  cases a3
  have d:=d.perm (Tb Tn)
  refine Wa (lr (Wh d2 (Wm (V (U0 (k:=.u8) (a:=t.1) (b:=127) (v:= .int .u8 (IntKind.u8.wrap (BitVec.ofInt (IntKind.bits .u8) t.1 &&& BitVec.ofInt (IntKind.bits .u8) 127).toNat)) Z Z dc Z) (V (uI (k':=.u8) (a:=IntKind.u8.wrap (BitVec.ofInt (IntKind.bits .u8) t.1 &&& BitVec.ofInt (IntKind.bits .u8) 127).toNat) eS dT Z) (Wh a8 (Wi Z (bS i λ_ c5 i=>V (ab3 (a:=wi0 .i64 (IntKind.u8.wrap (BitVec.ofInt (IntKind.bits .u8) t.1 &&& BitVec.ofInt (IntKind.bits .u8) 127).toNat)) (b:=wi0 .i64 (7*u)) Z Z (Yb c5)) (V (XX (k:=.i64) (a:=G) (b:=wi0 .i64 ((wi0 .i64 (IntKind.u8.wrap (BitVec.ofInt (IntKind.bits .u8) t.1 &&& BitVec.ofInt (IntKind.bits .u8) 127).toNat))*2 ^ min (Int.toNat (wi0 .i64 (7*u))) (IntKind.bits .i64))) (v:=vI (wi0 .i64 (BitVec.ofInt (IntKind.bits .i64) G ||| BitVec.ofInt (IntKind.bits .i64) (wi0 .i64 ((wi0 .i64 (IntKind.u8.wrap (BitVec.ofInt (IntKind.bits .u8) t.1 &&& BitVec.ofInt (IntKind.bits .u8) 127).toNat))*2 ^ min (Int.toNat (wi0 .i64 (7*u))) (IntKind.bits .i64)))).toNat)) Z Z Z) (Wa ?_))))))))))
  let a0:=wi0 .i64 (BitVec.ofInt (IntKind.bits .i64) G ||| BitVec.ofInt (IntKind.bits .i64) (wi0 .i64 ((wi0 .i64 (IntKind.u8.wrap (BitVec.ofInt (IntKind.bits .u8) t.1 &&& BitVec.ofInt (IntKind.bits .u8) 127).toNat))*2 ^ min (Int.toNat (wi0 .i64 (7*u))) (IntKind.bits .i64)))).toNat
  refine lr (Wm (Wi Z (ln (CI i Z (λc1 i=>?_) λc1 i=>?_))))
  ·refine pg (YQ rv (oL (oL (uO (lE (lH (IW i (λd6 E W=>∃a5 b4,lM Zq a5∧Lo (keys b2) qa Zq a5∧ST true (keys b2) qa W a5 ((qh,Ob #[U,vB t.2.over] 239)::b4)∧E 5=vI a0) (λd6 B a2=>?_) ?_)))))))
   ·refine sg (Wm (Wh b5 (Wi Z (ln (CI B Z (λc2 B=>?_) λc2 B=>?_)))))
    ·refine lI (Wh a7 (bS B λd7 b0 B=>?_))
     rcases d7 with d5 | e7
     ·have a1:=d.size
      refine tG (.inl Z) (pe (args:=[b7,vI 12]) (caps:=#[]) _ _ d (Cb Pz Cn) Z eP (by exact px Z Z) (λhH hN P aa=>mS.l (nk qh t.2 U 12 _ _ ⟨hH,hN,P⟩ mv b0)) λd1 e4 b6 c9 d M j I=>?_)
      obtain ⟨f1,f3,c4,rfl⟩:=I
      have d:=d.perm (Tb Tn)
      refine oA (pN ?_)
      cases sj B
      replace a2:some (Sum.inl d5)=some s:=a2
      cases sj a2
      exact og.li ⟨_,_,_,Z,d.mB (Kb Sn),(H.trans D).trans M,(h.trans g).trans j,ST.lG d (mJ.mem (Kb Sn)),⟨_,_,c4,Z⟩⟩
     have a1:=d.size
     refine VE (eD d (Cb Pz Cn) eP (λhh=>mS.r (nk qh t.2 U 12 _ _ hh mv b0)) ?_)
     rintro d1 e9 b6 c9 d M j ⟨a4,rfl⟩
     cases a4
     have d:=d.perm (Tb Tn)
     refine ln ?_
     cases sj B
     exact ⟨_,Z,b6,_,M,j,d.ll,Z⟩
    refine kn ?_
    cases sj B
    exact ⟨_,Z,Zq,_,lM.refl _,Lo.refl,d.ll,Z⟩
   rintro ⟨⟩ E W ⟨a5,b4,a6,O,d,d3⟩ c6
   refine sg (Wh d3 (Wa (lt (xX ?_))))
   cases sj c6
   exact ma (v:=vI a0) Z Z (og.ri ⟨_,_,_,Z,d.mB (Kb Sn),(H.trans D).trans a6,(h.trans g).trans O,ST.lG d (mJ.mem (Kb Sn)),U,Z,Z,mv⟩)
  exact mU (mx (lE (lI (Wh a8 (Wi Z (Wa (ln ⟨d4,bH _,a0,wi0 .i64 (u+1),U,t.2.b,t.2.over,Zq,_,H.trans D,h.trans g,d.ll,a7,b5,Z,Z,J,i⟩)))))))
theorem rS {s:(Int ⊕ ((List Int)×mf))} (h0:oa qe ((qh,Ob #[q0,vB qQ.over] 239)::[]) qa) (D:Sl (Pl (lJ .u8)) 1 qe q0 qQ.b) (hm:tp qQ qb=some s) :
  mS true pg0 131 [vP qh,vI qb] qa qe ((qh,Ob #[q0,vB qQ.over] 239)::[]) s (λr v L1 μ1=>∃y1 y3,v=y1∧L1=((qh,Ob #[y3,vB r.2.over] 239)::[])∧Sl (Pl (lJ .u8)) 1 μ1 y1 r.1∧Sl (Pl (lJ .u8)) 1 μ1 y3 r.2.b) (λx c L1 μ1=>∃y z,c=[{ v:=Ar 244 qh x,recovered:=false }]∧L1=((qh,Ob #[y,z] 239)::[])):=by
 let b6:=(qh,Ob #[q0,vB qQ.over] 239)::[]
 let b2:Value:=vP qh
 have a:=ST.zZ (dd:=true) h0
 refine uv (n:=44) func131 Z Z nb (sg (Wa (lS (Wm (bS hm λr1 e6 hm=>VE (Eg a call164 (Gl (D.mono (Pl.mono _) a.ns) (At.of (a.at_ Mh) _ Z) e6) λW3 a=>ln (CI hm Z (λe5 hm=>?_) λe5 hm=>?_)))))))
 ·refine sg (Wa (lt (mj (xX ?_))))
  cases sj hm
  exact ma (v:=vN) Z Z (og.ri ⟨_,_,_,Z,a.mB (Kb Sn),lM.refl _,Lo.refl,ST.lG a (mJ.mem (Kb Sn)),vN,q0,Z,Z,Sl.nil _ _ _,D⟩)
 refine kg (Wm (bS hm λd9 c0 hm=>?_))
 rcases d9 with g7 | t
 ·have J:=a.size
  refine tG (.inl Z) (pe (args:=[b2,vI 9223372036854775807]) (caps:=#[]) _ _ a (Cb Pz Cn) Z gd (by exact px Z Z) (λhH hN q af=>mS.l (nN ⟨hH,hN,q⟩ (D.mono (Pl.mono _) (lM.refl _)) c0)) λW7 g4 O e2 a I d aa=>?_)
  obtain ⟨h4,h5,d1,rfl⟩:=aa
  have a:=a.perm (Tb Tn)
  refine oA (pN ?_)
  cases sj hm
  exact og.li ⟨_,_,_,Z,a.mB (Kb Sn),I,d,ST.lG a (mJ.mem (Kb Sn)),⟨_,_,d1,Z⟩⟩
 have J:=a.size
 refine VE (eD a (Cb Pz Cn) gd (λhh=>mS.r (nN hh (D.mono (Pl.mono _) (lM.refl _)) c0)) ?_)
 rintro W7 h1 O e2 a I d ⟨T,U,rfl,B⟩
 cases U
 have a:=a.perm (Tb Tn)
 refine Wa (ln (lH (IW hm (λe7 E W=>∃a3 b7,lM O a3∧Lo (keys b6) qa O a3∧ST true (keys b6) qa W a3 ((qh,Ob #[T,vB t.2.over] 239)::b7)∧E 0=b2∧E 5=vI t.1) (λe7 g G=>?_) ?_)))
 ·refine bg (Wm (Wm (Wi Z (Wa (ln (CI g Z (λd0 g=>?_) λd0 g=>?_))))))
  ·refine lI (Wm (bS g λd7 a9 g=>?_))
   rcases d7 with d5 | g9
   ·have J:=a.size
    refine tG (.inl Z) (pe (args:=[b2,vI 12]) (caps:=#[]) _ _ a (Cb Pz Cn) Z eP (by exact px Z Z) (λhH hN q af=>mS.l (nk qh t.2 T 12 _ _ ⟨hH,hN,q⟩ (B.mono (Pl.mono _) (lM.refl _)) a9)) λe3 f2 c2 c4 a M k P=>?_)
    obtain ⟨f7,f9,b4,rfl⟩:=P
    have a:=a.perm (Tb Tn)
    refine xI (oA (pN ?_))
    cases sj g
    replace G:some (Sum.inl d5)=some s:=G
    cases sj G
    exact og.li ⟨_,_,_,Z,a.mB (Kb Sn),I.trans M,d.trans k,ST.lG a (mJ.mem (Kb Sn)),⟨_,_,b4,Z⟩⟩
   have J:=a.size
   refine VE (eD a (Cb Pz Cn) eP (λhh=>mS.r (nk qh t.2 T 12 _ _ hh (B.mono (Pl.mono _) (lM.refl _)) a9)) ?_)
   rintro e3 h3 c2 c4 a M k ⟨N,rfl⟩
   cases N
   have a:=a.perm (Tb Tn)
   refine mh (mx (lE ?_))
   cases sj g
   exact ⟨_,Z,c2,_,M,k,a.ll,Z,Z⟩
  refine sg (Wm (Wm (Wn (Wf CA (VB a Mh Z Z dq (V (mP aZ Z B) (Wi Z (Wa (ln (CI g Z (λb3 g=>?_) λb3 g=>?_))))))))))
  ·refine lI (Wm (bS g λd8 a2 g=>?_))
   rcases d8 with d6 | f5
   ·have J:=a.size
    refine tG (.inl Z) (pe (args:=[b2,vI 10]) (caps:=#[]) _ _ a (Cb Pz Cn) Z eP (by exact px Z Z) (λhH hN q af=>mS.l (nk qh t.2 T 10 _ _ ⟨hH,hN,q⟩ (B.mono (Pl.mono _) (lM.refl _)) a2)) λc6 f3 b1 c5 a H h a1=>?_)
    obtain ⟨f8,g0,b5,rfl⟩:=a1
    have a:=a.perm (Tb Tn)
    refine xI (oA (pN ?_))
    cases sj g
    replace G:some (Sum.inl d6)=some s:=G
    cases sj G
    exact og.li ⟨_,_,_,Z,a.mB (Kb Sn),I.trans H,d.trans h,ST.lG a (mJ.mem (Kb Sn)),⟨_,_,b5,Z⟩⟩
   have J:=a.size
   refine VE (eD a (Cb Pz Cn) eP (λhh=>mS.r (nk qh t.2 T 10 _ _ hh (B.mono (Pl.mono _) (lM.refl _)) a2)) ?_)
   rintro c6 f6 b1 c5 a H h ⟨Q,rfl⟩
   cases Q
   have a:=a.perm (Tb Tn)
   refine mh (mx (lE ?_))
   cases sj g
   exact ⟨_,Z,b1,_,H,h,a.ll,Z,Z⟩
  refine mU (mx (lE ?_))
  cases sj g
  exact ⟨_,Z,O,_,lM.refl _,Lo.refl,a.ll,Z,Z⟩
 rintro ⟨⟩ E W ⟨a3,b7,K,ab,a,a6,b9⟩ u
 refine sg (Wh a6 (Wn (Wf CA (VB a Mh Z Z dq (Wh b9 (bS u λ_ a7 u=>VQ (Vk (j:=t.1) aZ gb Z Z (B.mono (Pl.mono _) K) (uh a7) (tY a7)) λe8 d3=>bS u λg8 d2 u=>VE (oG a call19 (Br (d3.1.mono (Pl.mono _) a.ns) d2) λg2 c1 h6 g1 a Y ad c9=>Wa (ln (lH ?_)))))))))
 refine lI (Wh a6 (Wh a6 (Wn (Wf CA (VB a (Ma Mh) Z Z dq (Wh b9 (bS u λ_ a8 u=>VQ (Ds (i:=t.1) aZ gb Z Z (B.mono (Pl.mono _) (K.trans Y)) (uh a8) (tY a8)) λh2 b0=>Wn (Wf CA ?_))))))))
 obtain ⟨a4,a5,rfl⟩:=b0.1.form
 let a0:Value:= .slice a4 (t.2.b.drop (Int.toNat t.1)).length a5
 have a:=a.perm (Nb (Pr Pz) Nz)
 refine VO (lZ a0 (#[a0,vB t.2.over]) a Z Z dA oc nb Z (λg3 a=>lr (Wm (Wa (lt (xX ?_))))))
 cases sj u
 refine ma (v:=c1) Z Z ?_
 have a:=a.perm (Nr (Qb Qz) Nz)
 obtain ⟨h7,a,Zq,ae,d4⟩:=ST.xM a c9 (λ_=>rfl)
 exact og.ri ⟨_,_,_,Z,a.mB (Kb Sn),((I.trans K).trans Y).trans Zq,((d.trans ab).trans ad).trans ae,ST.lG a (mJ.mem (Kb Sn)),c1,a0,Z,Z,d4,b0.1.mono (Pl.mono _) Zq⟩
theorem Ky {s:((Int×(Int×(List Int)×(List Int))) ⊕ (mf×Int×(List Int)×(List Int)))} (h0:oa qe ((qh,Ob #[q0,vB qQ.over] 239)::((qi,Ob #[vI qb] 3)::((qj,Ob #[q1] 54)::((qk,Ob #[q2] 54)::[])))) qa) (a4:Sl (Pl (lJ .u8)) 1 qe q0 qQ.b) (b5:Sl (Pl (lJ .u8)) 1 qe q1 ql) (a7:Sl (Pl (lJ .u8)) 1 qe q2 qm) (hm:Cp qQ qb ql qm=some s) :
  mS true pg0 129 [vP qh,vP qi,vP qj,vP qk] qa qe ((qh,Ob #[q0,vB qQ.over] 239)::((qi,Ob #[vI qb] 3)::((qj,Ob #[q1] 54)::((qk,Ob #[q2] 54)::[])))) (Ps s) (λr v L1 μ1=>∃y1 y3 y5,v=vT []∧L1=((qh,Ob #[y1,vB r.1.over] 239)::((qi,Ob #[vI r.2.1] 3)::((qj,Ob #[y3] 54)::((qk,Ob #[y5] 54)::[]))))∧Sl (Pl (lJ .u8)) 1 μ1 y1 r.1.b∧Sl (Pl (lJ .u8)) 1 μ1 y3 r.2.2.1∧Sl (Pl (lJ .u8)) 1 μ1 y5 r.2.2.2) (λx c L1 μ1=>∃t:(Int×(List Int)×(List Int)),s= .inl (x,t)∧∃y z d2 d3,c=[{ v:=Ar 244 qh x,recovered:=false }]∧L1=((qh,Ob #[y,z] 239)::((qi,Ob #[vI t.1] 3)::((qj,Ob #[d2] 54)::((qk,Ob #[d3] 54)::[]))))∧Sl (Pl (lJ .u8)) 1 μ1 d2 t.2.1∧Sl (Pl (lJ .u8)) 1 μ1 d3 t.2.2):=by
 let a6:Value:=vP qh
 have a:=ST.zZ (dd:=true) h0
 refine uv (n:=20) func129 Z Z nb (sg (Wm (bS hm λf8 c8 hm=>?_)))
 rcases f8 with h8 | r1
 ·have J:=a.size
  refine tG (.inl Z) (pe (args:=[a6,vI 1099511627776]) (caps:=#[]) _ _ a (Cb Pz Cn) Z gd (by exact px Z Z) (λhH hN u aa=>mS.l (nN ⟨hH,hN,u⟩ mv c8)) λW3 h4 ag L9 a i q ab=>?_)
  obtain ⟨i7,j5,e0,rfl⟩:=ab
  have a:=a.perm (Tb Tn)
  refine oA (pN ?_)
  cases sj hm
  exact og.li ⟨_,_,_,Z,a.mB (Kb (Kb (Kb (Kb Sn)))),i,q,ST.lG a (mJ.mem (Kb (Kb (Kb (Kb Sn))))),⟨_,Z,_,_,q1,q2,e0,Z,mv,mv⟩⟩
 have J:=a.size
 refine VE (eD a (Cb Pz Cn) gd (λhh=>mS.r (nN hh mv c8)) ?_)
 rintro W3 v7 ag L9 a i q ⟨d0,a8,rfl,c3⟩
 cases a8
 have a:=a.perm (Tb Tn)
 have a:=a.perm (Nb (Pb Pz) Nz)
 refine VO (lZ (vI r1.1) (#[vI r1.1]) a Z Z dn (vM _ r1.1) nb Z (λh1 a=>lr (Wm (bS hm λf7 b6 hm=>?_))))
 rcases f7 with h9 | K
 ·have J:=a.size
  refine tG (.inl Z) (pe (args:=[a6,vI 2048]) (caps:=#[]) _ _ a (Cb (Pb Pz) Cn) Z kM (by exact px Z Z) (λhH hN u aa=>mS.l (rS ⟨hH,hN,u⟩ mv b6)) λe7 h5 g2 e4 a j d ad=>?_)
  obtain ⟨i9,j6,e1,rfl⟩:=ad
  have a:=a.perm (Tb Tn)
  refine oA (pN ?_)
  cases sj hm
  exact og.li ⟨_,_,_,Z,a.mB (Kb (Kb (Kb (Kb Sn)))),i.trans j,q.trans d,ST.lG a (mJ.mem (Kb (Kb (Kb (Kb Sn))))),⟨_,Z,_,_,q1,q2,e1,Z,mv,mv⟩⟩
 have J:=a.size
 refine VE (eD a (Cb (Pb Pz) Cn) kM (λhh=>mS.r (rS hh mv b6)) ?_)
 rintro e7 i3 g2 e4 a j d ⟨i8,d1,a9,rfl,Y,c4⟩
 cases a9
 have a:=a.perm (Tb Tn)
 obtain ⟨Q,T,rfl⟩:=Y.form
 let P:Value:= .slice Q K.1.length T
 have a:=a.perm (Nb (Pb (Pb Pz)) Nz)
 refine VO (lZ P (#[P]) a Z Z dA oc nb Z (λh2 a=>lr (Wm (bS hm λf6 b7 hm=>?_))))
 rcases f6 with i0 | M
 ·have J:=a.size
  refine tG (.inl Z) (pe (args:=[a6,vI 8]) (caps:=#[]) _ _ a (Cb (Pb Pz) Cn) Z kM (by exact px Z Z) (λhH hN u aa=>mS.l (rS ⟨hH,hN,u⟩ mv b7)) λe8 h6 d4 e5 a g h ae=>?_)
  obtain ⟨j3,j7,e2,rfl⟩:=ae
  have a:=a.perm (Tb Tn)
  refine oA (pN ?_)
  cases sj hm
  exact og.li ⟨_,_,_,Z,a.mB (Kb (Sb (Pb Pz) (Kb (Kb Sn)))),(i.trans j).trans g,(q.trans d).trans h,ST.lG a (mJ.mem (Kb (Sb (Pb Pz) (Kb (Kb Sn))))),⟨_,Z,_,_,P,q2,e2,Z,mv,mv⟩⟩
 have J:=a.size
 refine VE (eD a (Cb (Pb Pz) Cn) kM (λhh=>mS.r (rS hh mv b7)) ?_)
 rintro e8 i4 d4 e5 a g h ⟨j0,a5,b0,rfl,Zq,a3⟩
 cases b0
 have a:=a.perm (Tb Tn)
 obtain ⟨a1,a2,rfl⟩:=Zq.form
 let b4:Value:= .slice a1 M.1.length a2
 have a:=a.perm (Nb (Pb (Pb (Pb Pz))) Nz)
 refine VO (lZ b4 (#[b4]) a Z Z dA oc nb Z (λh3 a=>lr (VB a Mh Z Z dq (V (mP aZ Z Zq) (Wi Z (Wm (LJ hm (λc9 E W=>∃c7,ST true (keys ((qh,Ob #[q0,vB qQ.over] 239)::((qi,Ob #[vI qb] 3)::((qj,Ob #[q1] 54)::((qk,Ob #[q2] 54)::[]))))) qa W d4 ((qk,Ob #[b4] 54)::((qh,Ob #[a5,vB M.2.over] 239)::((qj,Ob #[P] 54)::((qi,Ob #[vI r1.1] 3)::c7))))∧E 0=a6∧E 17=vB c9) 3 ?_ λc9 U b2=>?_)))))))
 ·rintro i6 E W ⟨c7,a,f2,f3⟩ B
  refine ln (CI B f3 (λd9 B=>?_) λd9 B=>?_)
  ·refine lI (Wh f2 (bS B λf5 b9 B=>?_))
   rcases f5 with i1 | i2
   ·have J:=a.size
    refine tG (.inl Z) (pe (args:=[a6,vI 11]) (caps:=#[]) _ _ a (Cb (Pb Pz) Cn) Z eP (by exact px Z Z) (λhH hN u aa=>mS.l (nk qh M.2 a5 11 _ _ ⟨hH,hN,u⟩ mv b9)) λe9 h7 g3 e6 a k O af=>?_)
    obtain ⟨j4,j8,e3,rfl⟩:=af
    have a:=a.perm (Tb Tn)
    refine pN ?_
    cases sj B
    exact og.li ⟨_,_,_,Z,a.mB (Kb (Sb (Pb (Pb Pz)) (Sb (Pb Pz) (Kb Sn)))),((i.trans j).trans g).trans k,((q.trans d).trans h).trans O,ST.lG a (mJ.mem (Kb (Sb (Pb (Pb Pz)) (Sb (Pb Pz) (Kb Sn))))),⟨_,Z,_,_,P,b4,e3,Z,mv,mv⟩⟩
   have J:=a.size
   refine VE (eD a (Cb (Pb Pz) Cn) eP (λhh=>mS.r (nk qh M.2 a5 11 _ _ hh mv b9)) ?_)
   rintro e9 i5 g3 e6 a k O ⟨b1,rfl⟩
   cases b1
   have a:=a.perm (Tb Tn)
   refine mh (LR (rI ?_))
   cases sj B
   exact pF Z (og.ri ⟨_,_,_,Z,a.mB (Kb (Sb (Pb (Pb Pz)) (Sb (Pb Pz) (Kb Sn)))),((i.trans j).trans g).trans k,((q.trans d).trans h).trans O,ST.lG a (mJ.mem (Kb (Sb (Pb (Pb Pz)) (Sb (Pb Pz) (Kb Sn))))),a5,P,b4,Z,Z,mv,mv,mv⟩)
  refine mU (LR (rI ?_))
  cases sj B
  exact pF Z (og.ri ⟨_,_,_,Z,a.mB (Sb (Pb Pz) (Sb (Pb (Pb Pz)) (Sb (Pb Pz) (Kb Sn)))),(i.trans j).trans g,(q.trans d).trans h,ST.lG a (mJ.mem (Sb (Pb Pz) (Sb (Pb (Pb Pz)) (Sb (Pb Pz) (Kb Sn))))),a5,P,b4,Z,Z,a3,mv,Zq⟩)
 refine bC U (λI U=>?_) (λI U=>?_)
 ·refine un I (un I (V (lQ (cB I) Z) ?_))
  cases sj U
  exact b2 _ _ ⟨_,a.ll,Z,Z⟩
 refine ug I (lq Z (lA a.has (Mt (Mt (Mt Mh))) Z bK)) (ug I (mL Z Z Z) (V (lN (cB I) Z) ?_))
 cases sj U
 exact b2 _ _ ⟨_,a.ll,Z,Z⟩
theorem Hs {r:(Int×Int×(List Int)×(List Int))} (B:oa qe ((qh,Ob #[vI qb] 3)::((qi,Ob #[q1] 54)::((qj,Ob #[q2] 54)::[]))) qa) (U:Sl (Pl (lJ .u8)) 1 qe q0 ql) (Y:Sl (Pl (lJ .u8)) 1 qe q1 qm) (P:Sl (Pl (lJ .u8)) 1 qe q2 qn) (hm:zt ql qb qm qn=some r) :
  my true pg0 128 [q0,.func (.func 129) #[] #[vP qh,vP qi,vP qj]] qa qe ((qh,Ob #[vI qb] 3)::((qi,Ob #[q1] 54)::((qj,Ob #[q2] 54)::[]))) (λv I u=>∃j k,v=vI r.1∧I=((qh,Ob #[vI r.2.1] 3)::((qi,Ob #[j] 54)::((qj,Ob #[k] 54)::[])))∧Sl (Pl (lJ .u8)) 1 u j r.2.2.1∧Sl (Pl (lJ .u8)) 1 u k r.2.2.2):=by
 refine bS hm λl d hm=>bS hm λs g hm=>?_
 cases sj hm
 refine my.mono (L6 129 #[vP qh,vP qi,vP qj] q0 ql l (Ps s) (λr=>(r.1).b) qa B U d (λr I u=>∃j k,I=((qh,Ob #[vI r.2.1] 3)::((qi,Ob #[j] 54)::((qj,Ob #[k] 54)::[])))∧Sl (Pl (lJ .u8)) 1 u j r.2.2.1∧Sl (Pl (lJ .u8)) 1 u k r.2.2.2) (λx I u=>∃t:(Int×(List Int)×(List Int)),s= .inl (x,t)∧∃j k,I=((qh,Ob #[vI t.1] 3)::((qi,Ob #[j] 54)::((qj,Ob #[k] 54)::[])))∧Sl (Pl (lJ .u8)) 1 u j t.2.1∧Sl (Pl (lJ .u8)) 1 u k t.2.2) call129 λw' μ' rb O D hle J=>mS.mono (Ky D J mv mv g) ?_ ?_) ?_
 ·rintro r v I u ⟨yb,j,k,W,a,q,B,D⟩; exact ⟨_,_,_,a,q,j,k,Z,B,D⟩
 ·rintro x c I u ⟨t,h,y,z,j,k,M,a,B,D⟩; exact ⟨y,z,_,M,a,t,h,j,k,Z,B,D⟩
 rintro v I u Q ⟨rfl,i⟩
 cases s with
 | inl x=>
  obtain ⟨t,h,j,k,a,B,D⟩:=i
  obtain rfl:x.2=t:=bA Prod.snd (Sum.inl.inj h)
  exact ⟨j,k,Z,a,B,D⟩
 | inr r=>obtain ⟨j,k,a,B,D⟩:=i; exact ⟨j,k,Z,a,B,D⟩
theorem Ql {r:(Int×(List Int)×(List Int)×Int)} (U:oa qe [] qa) (D:Sl (Pl (lJ .u8)) 1 qe q0 ql) (hm:zu ql=some r) :
  my true pg0 90 [q0] qa qe [] (λv M K=>∃I J,v=vT [vI r.1,I,J,vI r.2.2.2]∧M=[]∧Sl (Pl (lJ .u8)) 1 K I r.2.1∧Sl (Pl (lJ .u8)) 1 K J r.2.2.1):=by
 refine rG U 13 func90 Z (λd=>sg (VE (lY d zeroValue3 λW2 N d=>VE (lY d fL λW4 Q d=>VE (lY d fL λW6 T d=>Wa (lr (Wm (V (pG (by exact acF Z Z Z) Z) (bS hm λa H hm=>?_)))))))))
 refine VE (eD d (Cb (Pb (Pb Pz)) (Cb (Pb Pz) (Cb Pz Cn))) call128 (λhh=>Hs hh mv (Sl.nil _ _ _) (Sl.nil _ _ _) H) ?_)
 rintro _ a3 a6 Y d y a7 ⟨a4,a5,c,rfl,u,x⟩
 cases c
 have d:=d.perm (Tb (Tb (Tb Tn)))
 refine Wa (ln (lH ?_))
 have d:=d.drew
 have g:=d.has.ll Sn
 have z:=d.has.ll (Kb Sn)
 have s:=d.has.ll (Db (Kb Sn))
 have q:=d.has.ll (Db (Db (Kb Sn)))
 refine Wy 4 5 6 g z s q lV (xh 0 Z kr (.inl Z) Z dc (λ_ _ h=>⟨h.1,uk br h.2.1,uk br h.2.2.1,uk br h.2.2.2⟩) ⟨g,λ_=>z,λ_=>s,λ_=>q⟩ (λl W O hs=>have P:=(hs.2.1 (O.Sa 4 [0] kr Z)); lq Z (lA P Mh Z bK)) (xh 1 Z kr (.inl Z) Z dc (λ_ _ h=>⟨h.1,uk br h.2.1,uk br h.2.2.1,uk br h.2.2.2⟩) ⟨g,λ_=>z,λ_=>s,λ_=>q⟩ (λl W O hs=>have P:=(hs.2.2.1 (O.Sa 5 [1] kr Z)); lq Z (lA P Mh Z dq)) (xh 2 Z kr (.inl Z) Z dc (λ_ _ h=>⟨h.1,uk br h.2.1,uk br h.2.2.1,uk br h.2.2.2⟩) ⟨g,λ_=>z,λ_=>s,λ_=>q⟩ (λl W O hs=>have P:=(hs.2.2.2 (O.Sa 6 [2] kr Z)); lq Z (lA P Mh Z dq)) (xh 3 Z kr (.inl Z) Z dc (λ_ _ h=>⟨h.1,uk br h.2.1,uk br h.2.2.1,uk br h.2.2.2⟩) ⟨g,λ_=>z,λ_=>s,λ_=>q⟩ (λ_ _ _ _=>lz Z) (XO 4 Z (lZ (vI a.2.1) (#[vI a.2.1]) d Z Z dn (vM _ a.2.1) nb Z (λZq d=>?_)))))))
 have g:=d.has.ll Sn
 have s:=d.has.ll (Db (Kb Sn))
 have q:=d.has.ll (Db (Db (Kb Sn)))
 refine ⟨⟨g,λh=>tC kr h,λ_=>s,λ_=>q⟩,?_⟩
 obtain ⟨i,k,rfl⟩:=u.form
 let B:Value:= .slice i a.2.2.1.length k
 have d:=d.perm (Nb (Pb Pz) Nz)
 refine XO 5 Z (lZ B (#[B]) d Z Z dA oc nb Z (λa1 d=>?_))
 have g:=d.has.ll Sn
 have q:=d.has.ll (Db (Db (Kb Sn)))
 refine ⟨⟨g,λh=>tC kr h,λh=>tC kr h,λ_=>q⟩,?_⟩
 obtain ⟨j,t,rfl⟩:=x.form
 let a0:Value:= .slice j a.2.2.2.length t
 have d:=d.perm (Nb (Pb (Pb Pz)) Nz)
 refine XO 6 Z (lZ a0 (#[a0]) d Z Z dA oc nb Z (λa2 d=>?_))
 have g:=d.has.ll Sn
 refine ⟨⟨g,λh=>tC kr h,λh=>tC kr h,λh=>tC kr h⟩,xh 7 Z kr (.inl Z) Z dc (λ_ _ h=>⟨h.1,uk br h.2.1,uk br h.2.2.1,uk br h.2.2.2⟩) ⟨g,λh=>tC kr h,λh=>tC kr h,λh=>tC kr h⟩ (λ_ _ _ _=>nB Z) (mG kr (lE (lO ?_)))⟩
 cases sj hm
 exact Wz (v0:=vI a.2.1) (v1:=B) (v2:=a0) (v3:=vI a.1) Z Z (lA d.has (Mt (Mt Mh)) Z bK) Z (lA d.has (Mt Mh) Z dq) Z (lA d.has Mh Z dq) Z ⟨_,_,_,Z,d.mB Sn,y,a7,ST.lG d (mJ.mem Sn),B,a0,Z,Z,u,x⟩
theorem vq {s:(Int ⊕ (ByteArray×mf))} (h0:oa qe ((qh,Ob #[q0,vB qQ.over] 239)::[]) qa) (t:Sl (Pl (lJ .u8)) 1 qe q0 qQ.b) (hm:xN qQ=some s) :
  mS true pg0 166 [vP qh] qa qe ((qh,Ob #[q0,vB qQ.over] 239)::[]) s (λr v K μ1=>∃y1,v=vS r.1∧K=((qh,Ob #[y1,vB r.2.over] 239)::[])∧Sl (Pl (lJ .u8)) 1 μ1 y1 r.2.b) (λx c K μ1=>∃y z,c=[{ v:=Ar 244 qh x,recovered:=false }]∧K=((qh,Ob #[y,z] 239)::[])):=by
 have a:=ST.zZ (dd:=true) h0
 refine uv (n:=15) func166 Z Z nb (sg (Wa (lS (Wm (V (ox ko Z Z) (ln (oV Z (mU ?_))))))))
 refine lE (sg (Wm (bS hm λa5 J hm=>?_)))
 rcases a5 with b6 | I
 ·have q:=a.size
  refine tG (.inl Z) (pe (args:=[vP qh,vI 16]) (caps:=#[]) _ _ a (Cb Pz Cn) Z kM (by exact px Z Z) (λhH P h a6=>mS.l (rS ⟨hH,P,h⟩ mv J)) λW3 b4 a7 L9 a j g M=>?_)
  obtain ⟨c3,c5,Q,rfl⟩:=M
  have a:=a.perm (Tb Tn)
  refine oA (pN ?_)
  cases sj hm
  exact og.li ⟨_,_,_,Z,a.mB (Kb Sn),j,g,ST.lG a (mJ.mem (Kb Sn)),⟨_,_,Q,Z⟩⟩
 have q:=a.size
 refine VE (eD a (Cb Pz Cn) kM (λW=>mS.r (rS W mv J)) ?_)
 rintro W3 v7 a7 L9 a j g ⟨c2,D,u,rfl,Y,k⟩
 cases u
 have a:=a.perm (Tb Tn)
 refine V (OW aZ eS bX Z mv) (Wa (lS (Wm (bS hm λb9 U hm=>VE (Eg a kK (vk (BC I.1) _ _  U) λb3 a=>V (nK Z) (ln (CI hm Z (λN hm=>?_) λN hm=>?_)))))))
 ·refine sg (Wm (bS hm λa4 H hm=>?_))
  rcases a4 with b7 | c0
  ·have q:=a.size
   refine tG (.inl Z) (pe (args:=[vP qh,vI 30]) (caps:=#[]) _ _ a (Cb Pz Cn) Z eP (by exact px Z Z) (λhH P h a6=>mS.l (nk qh I.2 D 30 _ _ ⟨hH,P,h⟩ mv H)) λa2 b5 a8 a1 a i d O=>?_)
   obtain ⟨c4,c6,T,rfl⟩:=O
   have a:=a.perm (Tb Tn)
   refine oA (oA (pN ?_))
   cases sj hm
   exact og.li ⟨_,_,_,Z,a.mB (Kb Sn),j.trans i,g.trans d,ST.lG a (mJ.mem (Kb Sn)),⟨_,_,T,Z⟩⟩
  have q:=a.size
  refine VE (eD a (Cb Pz Cn) eP (λW=>mS.r (nk qh I.2 D 30 _ _ W mv H)) ?_)
  rintro a2 c1 a8 a1 a i d ⟨B,rfl⟩
  cases B
  have a:=a.perm (Tb Tn)
  refine lr (Wa (lt (mj (xX ?_))))
  cases sj hm
  exact ma (v:=vS zS) Z Z (og.ri ⟨_,_,_,Z,a.mB (Kb Sn),j.trans i,g.trans d,ST.lG a (mJ.mem (Kb Sn)),D,Z,Z,mv⟩)
 refine kg (Wm (Wa (lt (xX ?_))))
 cases sj hm
 exact ma (v:=vS (BC I.1)) Z Z (og.ri ⟨_,_,_,Z,a.mB (Kb Sn),j,g,ST.lG a (mJ.mem (Kb Sn)),D,Z,Z,k⟩)
theorem tD {s:(Int ⊕ (lh×mf))} (h0:oa qe ((qh,Ob #[q0,vB qQ.over] 239)::[]) qa) (u:Sl (Pl (lJ .u8)) 1 qe q0 qQ.b) (hm:wF qQ=some s) :
  mS true pg0 167 [vP qh] qa qe ((qh,Ob #[q0,vB qQ.over] 239)::[]) s (λr v M μ1=>∃y1,v=vA (lp r.1)∧M=((qh,Ob #[y1,vB r.2.over] 239)::[])∧Sl (Pl (lJ .u8)) 1 μ1 y1 r.2.b) (λx c M μ1=>∃y z,c=[{ v:=Ar 244 qh x,recovered:=false }]∧M=((qh,Ob #[y,z] 239)::[])):=by
 have a:=ST.zZ (dd:=true) h0
 refine uv (n:=10) func167 Z Z nb (sg (VE (lY a dE λW2 b1 a=>lr (Wm (bS hm λa5 J hm=>?_)))))
 rcases a5 with b7 | t
 ·have q:=a.size
  refine tG (.inl Z) (pe (args:=[vP qh]) (caps:=#[]) _ _ a (Cb (Pb Pz) Cn) Z jj (by exact pp Z) (λhH W h a6=>mS.l (vq ⟨hH,W,h⟩ mv J)) λW5 b5 a8 a1 a k g O=>?_)
  obtain ⟨c1,c3,T,rfl⟩:=O
  have a:=a.perm (Tb Tn)
  refine oA (pN ?_)
  cases sj hm
  exact og.li ⟨_,_,_,Z,a.mB (Kb Sn),k,g,ST.lG a (mJ.mem (Kb Sn)),⟨_,_,T,Z⟩⟩
 have q:=a.size
 refine VE (eD a (Cb (Pb Pz) Cn) jj (λhh=>mS.r (vq hh mv J)) ?_)
 rintro W5 v9 a8 a1 a k g ⟨K,B,rfl,I⟩
 cases B
 have a:=a.perm (Tb Tn)
 refine Wa (lr (Wm (Wm (bS hm λa4 H hm=>?_))))
 rcases a4 with b9 | i
 ·have q:=a.size
  refine tG (.inl Z) (pe (args:=[vP qh]) (caps:=#[]) _ _ a (Cb Pz Cn) Z jj (by exact pp Z) (λhH W h a6=>mS.l (vq ⟨hH,W,h⟩ mv H)) λa3 b6 a9 a2 a j d P=>?_)
  obtain ⟨c2,c4,U,rfl⟩:=P
  have a:=a.perm (Tb Tn)
  refine oA (pN ?_)
  cases sj hm
  exact og.li ⟨_,_,_,Z,a.mB (Kb Sn),k.trans j,g.trans d,ST.lG a (mJ.mem (Kb Sn)),⟨_,_,U,Z⟩⟩
 have q:=a.size
 refine VE (eD a (Cb Pz Cn) jj (λhh=>mS.r (vq hh mv H)) ?_)
 rintro a3 c0 a9 a2 a j d ⟨a7,D,rfl,Y⟩
 cases D
 have a:=a.perm (Tb Tn)
 let N:=(⟨t.1,i.1⟩:lh)
 let Q:Value:=vA (lp N)
 refine V (mW (v:=Q) (pZ Z Z) (mz dE dC (Vt _ dC) kr)) ?_
 have a:=a.perm (Nb (Pb Pz) Nz)
 refine VO (lZ Q ((lp N).toArray) a Z Z aM (pt N) nb Z (λb4 a=>lt (xX ?_)))
 cases sj hm
 exact oW (v:=Q) Z Z (lC a.has Mh (lp N) Z bJ aM) (og.ri ⟨_,_,_,Z,a.mB (Db (Kb Sn)),k.trans j,g.trans d,ST.lG a (mJ.mem (Db (Kb Sn))),a7,Z,Z,Y⟩)
set_option maxHeartbeats 4000000 in
theorem KV {s:(Int ⊕ (lg×mf))} (h0:oa qe ((qh,Ob #[q0,vB qQ.over] 239)::[]) qa) (d1:Sl (Pl (lJ .u8)) 1 qe q0 qQ.b) (hm:EJ qQ=some s) :
  mS true pg0 200 [vP qh] qa qe ((qh,Ob #[q0,vB qQ.over] 239)::[]) s (λr v L1 μ1=>∃y1,v=vA (lj r.1)∧L1=((qh,Ob #[y1,vB r.2.over] 239)::[])∧Sl (Pl (lJ .u8)) 1 μ1 y1 r.2.b) (λx c L1 μ1=>∃y z,c=[{ v:=Ar 244 qh x,recovered:=false }]∧L1=((qh,Ob #[y,z] 239)::[])):=by
 let h2:Value:=vA (lj K7)
 let g5:=((lj K7).toArray:Array Value)
 let b8:=(qh,Ob #[q0,vB qQ.over] 239)::[]
 let a5:Value:=vP qh
 have a:=ST.zZ (dd:=true) h0
 refine uv (n:=55) func200 Z Z nb (sg (VE (lY a cI λW2 b1 a=>lr (Wm (bS hm λo5 k4 hm=>?_)))))
 let g6:Value:=vP b1
 rcases o5 with v3 | J
 ·have h:=a.size
  refine tG (.inl Z) (pe (args:=[a5,vI 9223372036854775807]) (caps:=#[]) _ _ a (Cb (Pb Pz) Cn) Z gd (by exact px Z Z) (λhH P d ad=>mS.l (nN ⟨hH,P,d⟩ mv k4)) λW5 v1 ao p4 a u O aE=>?_)
  obtain ⟨v6,v8,m6,rfl⟩:=aE
  have a:=a.perm (Tb Tn)
  refine oA (pN ?_)
  cases sj hm
  exact og.li ⟨_,_,_,Z,a.mB (Kb Sn),u,O,ST.lG a (mJ.mem (Kb Sn)),⟨_,_,m6,Z⟩⟩
 have h:=a.size
 refine VE (eD a (Cb (Pb Pz) Cn) gd (λhh=>mS.r (nN hh mv k4)) ?_)
 rintro W5 v9 ao p4 a u O ⟨b5,d4,rfl,c8⟩
 let h3:=(#[b5,vB J.2.over]:Array Value)
 cases d4
 have a:=a.perm (Tb Tn)
 let f2:=(⟨J.1,K0,zS,K0,K0,zS⟩:lg)
 refine V (mW (v:=vA (lj f2)) (nw Z) (mz cI dz (U2 _ dz) kr)) (VE (lY a cI λu8 b4 a=>VO (FA (h1:=pf f2) ((lj f2).toArray) a aI λu9 a=>ln (lH (IW hm (λo3 E W=>∃f0 k3,lM ao f0∧Lo (keys b8) qa ao f0∧ST true (keys b8) qa W f0 ((b4,Ol (lj f2) 69)::((qh,oC h3 239)::((b1,oC g5 69)::k3)))∧E 0=a5∧E 2=g6∧E 3=vP b4) (λo3 j7 b7=>?_) ?_)))))
 ·refine sg (Wf AD (VB a Mh Z Z bK (Wi Z (Wm (LJ j7 (λg0 E W=>∃f4,ST true (keys b8) qa W ao ((b4,Ol (lj f2) 69)::((qh,oC h3 239)::((b1,oC g5 69)::f4)))∧E 0=a5∧E 2=g6∧E 3=vP b4∧E 14=vB g0) 4 ?_ λg0 Zq d2=>?_)))))
  ·rintro t1 E W ⟨f4,a,d3,f6,f7,m3⟩ H
   refine ln (CI H m3 (λi6 H=>?_) λi6 H=>?_)
   ·refine lI (Wh d3 (bS H λo4 e7 H=>?_))
    rcases o4 with n4 | s2
    ·have h:=a.size
     refine tG (.inl Z) (pe (args:=[a5,vI 11]) (caps:=#[]) _ _ a (Cb (Pb Pz) Cn) Z eP (by exact px Z Z) (λhH P d ad=>mS.l (nk qh J.2 b5 11 _ _ ⟨hH,P,d⟩ mv e7)) λm1 r7 h1 l3 a b2 an az=>?_)
     obtain ⟨t9,u7,j6,rfl⟩:=az
     have a:=a.perm (Tb Tn)
     refine oA (pN ?_)
     cases sj H
     replace b7:some (Sum.inl n4)=some s:=b7
     cases sj b7
     exact og.li ⟨_,_,_,Z,a.mB (Kb Sn),u.trans b2,O.trans an,ST.lG a (mJ.mem (Kb Sn)),⟨_,_,j6,Z⟩⟩
    have h:=a.size
    refine VE (eD a (Cb (Pb Pz) Cn) eP (λhh=>mS.r (nk qh J.2 b5 11 _ _ hh mv e7)) ?_)
    rintro m1 t0 h1 l3 a b2 an ⟨c7,rfl⟩
    cases c7
    have a:=a.perm (Tb Tn)
    refine ln ?_
    cases sj H
    exact ⟨_,Z,h1,_,b2,an,a.ll (Sb (Pb Pz) St),d3,f6,f7⟩
   refine kn ?_
   cases sj H
   exact ⟨_,Z,ao,_,lM.refl _,Lo.refl,a.ll,d3,f6,f7⟩
  refine bC Zq (λG Zq=>?_) (λG Zq=>?_)
  ·refine un G (un G (un G (V (lQ (cB G) Z) ?_)))
   cases sj Zq
   exact d2 _ _ ⟨_,a.ll,Z,Z,Z,Z⟩
  refine ug G (ly AD Z) (ug G (lq Z (lA a.has Mh Z bK)) (ug G (mL Z Z Z) (V (lN (cB G) Z) ?_)))
  cases sj Zq
  exact d2 _ _ ⟨_,a.ll,Z,Z,Z,Z⟩
 rintro ⟨⟩ E W ⟨f0,k3,k,q,a,M,d0,I⟩ b9
 refine sg (Wh M (bS b9 λo2 f8 b9=>?_))
 rcases o2 with v4 | D
 ·have h:=a.size
  refine tG (.inl Z) (pe (args:=[a5]) (caps:=#[]) _ _ a (Cb (Pb Pz) Cn) Z ir (by exact pp Z) (λhH P d ad=>mS.l (tD ⟨hH,P,d⟩ mv f8)) λp6 v2 f1 p5 a t j ba=>?_)
  obtain ⟨v7,w0,m7,rfl⟩:=ba
  have a:=a.perm (Tb Tn)
  refine oA (pN ?_)
  cases sj b9
  exact og.li ⟨_,_,_,Z,a.mB (Kb Sn),(u.trans k).trans t,(O.trans q).trans j,ST.lG a (mJ.mem (Kb Sn)),⟨_,_,m7,Z⟩⟩
 have h:=a.size
 refine VE (eD a (Cb (Pb Pz) Cn) ir (λhh=>mS.r (tD hh mv f8)) ?_)
 rintro p6 v5 f1 p5 a t j ⟨a1,d5,rfl,K⟩
 cases d5
 have a:=a.perm (Tb Tn)
 refine V (ly yv I) ?_
 have a:=a.perm (Nb (Pb Pz) Nz)
 refine VO (lZ (vA (lp D.1)) ((lj (⟨J.1,D.1,zS,K0,K0,zS⟩:lg)).toArray) a Z Z aM (pt D.1) nb Z (λv0 a=>ln (lH (IW b9 (λc9 E W=>∃Q b3 f3,lM f1 b3∧Lo (keys b8) qa f1 b3∧ST true (keys b8) qa W b3 ((b4,Ol (lj c9.1) 69)::((qh,Ob #[Q,vB c9.2.2] 239)::((b1,oC g5 69)::f3)))∧E 0=a5∧E 2=g6∧E 3=vP b4∧Sl (Pl (lJ .u8)) 1 b3 Q c9.2.1) (λc9 g i=>?_) ?_))))
 ·refine sg (V (ly AD I) (VB a Mh Z Z bK (ln (bg (Wi Z (Wa (ln (CI g Z (λi2 g=>?_) λi2 g=>?_))))))))
  ·refine lI (Wh M (bS g λn6 e1 g=>?_))
   rcases n6 with m8 | d6
   ·have h:=a.size
    refine tG (.inl Z) (pe (args:=[a5]) (caps:=#[]) _ _ a (Cb (Pb Pz) Cn) Z jj (by exact pp Z) (λhH P d ad=>mS.l (vq ⟨hH,P,d⟩ mv e1)) λl5 r0 g4 k7 a a7 ag aq=>?_)
    obtain ⟨t3,u1,i8,rfl⟩:=aq
    have a:=a.perm (Tb Tn)
    refine xI (oA (pN ?_))
    cases sj g
    replace i:some (Sum.inl m8)=some s:=i
    cases sj i
    exact og.li ⟨_,_,_,Z,a.mB (Kb Sn),((u.trans k).trans t).trans a7,((O.trans q).trans j).trans ag,ST.lG a (mJ.mem (Kb Sn)),⟨_,_,i8,Z⟩⟩
   have h:=a.size
   refine VE (eD a (Cb (Pb Pz) Cn) jj (λhh=>mS.r (vq hh mv e1)) ?_)
   rintro l5 s4 g4 k7 a a7 ag ⟨o6,c1,rfl,j9⟩
   cases c1
   have a:=a.perm (Tb Tn)
   refine V (ly G2 I) ?_
   have a:=a.perm (Nb (Pb Pz) Nz)
   refine VO (lZ (vS d6.1) ((lj (⟨J.1,D.1,d6.1,K0,K0,zS⟩:lg)).toArray) a Z Z fK (O4 d6.1) nb Z (λbf a=>mh (mx (lE ?_))))
   cases sj g
   exact ⟨_,Z,o6,g4,_,a7,ag,a.ll,M,d0,I,j9⟩
  refine sg (Wi Z (Wa (ln (CI g Z (λi3 g=>?_) λi3 g=>?_))))
  ·refine lI (Wh M (bS g λn7 e2 g=>?_))
   rcases n7 with m9 | d7
   ·have h:=a.size
    refine tG (.inl Z) (pe (args:=[a5]) (caps:=#[]) _ _ a (Cb (Pb Pz) Cn) Z ir (by exact pp Z) (λhH P d ad=>mS.l (tD ⟨hH,P,d⟩ mv e2)) λl6 r1 g7 k8 a a8 ah ar=>?_)
    obtain ⟨t4,u2,i9,rfl⟩:=ar
    have a:=a.perm (Tb Tn)
    refine xI (oA (pN ?_))
    cases sj g
    replace i:some (Sum.inl m9)=some s:=i
    cases sj i
    exact og.li ⟨_,_,_,Z,a.mB (Kb Sn),((u.trans k).trans t).trans a8,((O.trans q).trans j).trans ah,ST.lG a (mJ.mem (Kb Sn)),⟨_,_,i9,Z⟩⟩
   have h:=a.size
   refine VE (eD a (Cb (Pb Pz) Cn) ir (λhh=>mS.r (tD hh mv e2)) ?_)
   rintro l6 s5 g7 k8 a a8 ah ⟨o7,c2,rfl,k0⟩
   cases c2
   have a:=a.perm (Tb Tn)
   refine V (ly ub I) ?_
   have a:=a.perm (Nb (Pb Pz) Nz)
   refine VO (lZ (vA (lp d7.1)) ((lj (⟨J.1,D.1,zS,d7.1,K0,zS⟩:lg)).toArray) a Z Z aM (pt d7.1) nb Z (λbh a=>mh (mx (lE ?_))))
   cases sj g
   exact ⟨_,Z,o7,g7,_,a8,ah,a.ll,M,d0,I,k0⟩
  refine sg (Wi Z (Wa (ln (CI g Z (λi4 g=>?_) λi4 g=>?_))))
  ·refine sg (Wh M (bS g λn9 e3 g=>?_))
   rcases n9 with n0 | a2
   ·have h:=a.size
    refine tG (.inl Z) (pe (args:=[a5]) (caps:=#[]) _ _ a (Cb (Pb Pz) Cn) Z ir (by exact pp Z) (λhH P d ad=>mS.l (tD ⟨hH,P,d⟩ mv e3)) λl7 r2 p2 k9 a U aa au=>?_)
    obtain ⟨t5,u3,j0,rfl⟩:=au
    have a:=a.perm (Tb Tn)
    refine oA (xI (oA (pN ?_)))
    cases sj g
    replace i:some (Sum.inl n0)=some s:=i
    cases sj i
    exact og.li ⟨_,_,_,Z,a.mB (Kb Sn),((u.trans k).trans t).trans U,((O.trans q).trans j).trans aa,ST.lG a (mJ.mem (Kb Sn)),⟨_,_,j0,Z⟩⟩
   have h:=a.size
   refine VE (eD a (Cb (Pb Pz) Cn) ir (λhh=>mS.r (tD hh mv e3)) ?_)
   rintro l7 s6 p2 k9 a U aa ⟨g2,c3,rfl,e8⟩
   cases c3
   have a:=a.perm (Tb Tn)
   refine V (ly ub I) ?_
   have a:=a.perm (Nb (Pb Pz) Nz)
   refine VO (lZ (vA (lp a2.1)) ((lj (⟨J.1,D.1,zS,a2.1,K0,zS⟩:lg)).toArray) a Z Z aM (pt a2.1) nb Z (λbi a=>ln (lI (Wh M (bS g λn8 e4 g=>?_)))))
   rcases n8 with n1 | d8
   ·have h:=a.size
    refine tG (.inl Z) (pe (args:=[a5]) (caps:=#[]) _ _ a (Cb (Pb Pz) Cn) Z jj (by exact pp Z) (λhH P d ad=>mS.l (vq ⟨hH,P,d⟩ mv e4)) λl8 r4 g8 l0 a a9 ai av=>?_)
    obtain ⟨t6,u4,j3,rfl⟩:=av
    have a:=a.perm (Tb Tn)
    refine xI (oA (pN ?_))
    cases sj g
    replace i:some (Sum.inl n1)=some s:=i
    cases sj i
    exact og.li ⟨_,_,_,Z,a.mB (Kb Sn),(((u.trans k).trans t).trans U).trans a9,(((O.trans q).trans j).trans aa).trans ai,ST.lG a (mJ.mem (Kb Sn)),⟨_,_,j3,Z⟩⟩
   have h:=a.size
   refine VE (eD a (Cb (Pb Pz) Cn) jj (λhh=>mS.r (vq hh mv e4)) ?_)
   rintro l8 s7 g8 l0 a a9 ai ⟨o8,c4,rfl,k1⟩
   cases c4
   have a:=a.perm (Tb Tn)
   refine V (ly Du I) ?_
   have a:=a.perm (Nb (Pb Pz) Nz)
   refine VO (lZ (vS d8.1) ((lj (⟨J.1,D.1,zS,a2.1,K0,d8.1⟩:lg)).toArray) a Z Z fK (O4 d8.1) nb Z (λbj a=>mh (mx (lE ?_))))
   cases sj g
   exact ⟨_,Z,o8,g8,_,U.trans a9,aa.trans ai,a.ll,M,d0,I,k1⟩
  refine sg (Wi Z (Wa (ln (CI g Z (λi5 g=>?_) λi5 g=>?_))))
  ·refine sg (Wh M (bS g λo1 e5 g=>?_))
   rcases o1 with n2 | a3
   ·have h:=a.size
    refine tG (.inl Z) (pe (args:=[a5]) (caps:=#[]) _ _ a (Cb (Pb Pz) Cn) Z ir (by exact pp Z) (λhH P d ad=>mS.l (tD ⟨hH,P,d⟩ mv e5)) λl9 r5 p3 l1 a Y ab aw=>?_)
    obtain ⟨t7,u5,j4,rfl⟩:=aw
    have a:=a.perm (Tb Tn)
    refine oA (xI (oA (pN ?_)))
    cases sj g
    replace i:some (Sum.inl n2)=some s:=i
    cases sj i
    exact og.li ⟨_,_,_,Z,a.mB (Kb Sn),((u.trans k).trans t).trans Y,((O.trans q).trans j).trans ab,ST.lG a (mJ.mem (Kb Sn)),⟨_,_,j4,Z⟩⟩
   have h:=a.size
   refine VE (eD a (Cb (Pb Pz) Cn) ir (λhh=>mS.r (tD hh mv e5)) ?_)
   rintro l9 s8 p3 l1 a Y ab ⟨g3,c5,rfl,e9⟩
   cases c5
   have a:=a.perm (Tb Tn)
   refine V (ly ub I) ?_
   have a:=a.perm (Nb (Pb Pz) Nz)
   refine VO (lZ (vA (lp a3.1)) ((lj (⟨J.1,D.1,zS,a3.1,K0,zS⟩:lg)).toArray) a Z Z aM (pt a3.1) nb Z (λbk a=>ln (lI (Wh M (bS g λo0 e6 g=>?_)))))
   rcases o0 with n3 | d9
   ·have h:=a.size
    refine tG (.inl Z) (pe (args:=[a5]) (caps:=#[]) _ _ a (Cb (Pb Pz) Cn) Z ir (by exact pp Z) (λhH P d ad=>mS.l (tD ⟨hH,P,d⟩ mv e6)) λm0 r6 g9 l2 a b0 aj ay=>?_)
    obtain ⟨t8,u6,j5,rfl⟩:=ay
    have a:=a.perm (Tb Tn)
    refine xI (oA (pN ?_))
    cases sj g
    replace i:some (Sum.inl n3)=some s:=i
    cases sj i
    exact og.li ⟨_,_,_,Z,a.mB (Kb Sn),(((u.trans k).trans t).trans Y).trans b0,(((O.trans q).trans j).trans ab).trans aj,ST.lG a (mJ.mem (Kb Sn)),⟨_,_,j5,Z⟩⟩
   have h:=a.size
   refine VE (eD a (Cb (Pb Pz) Cn) ir (λhh=>mS.r (tD hh mv e6)) ?_)
   rintro m0 s9 g9 l2 a b0 aj ⟨o9,c6,rfl,k2⟩
   cases c6
   have a:=a.perm (Tb Tn)
   refine V (ly Dl I) ?_
   have a:=a.perm (Nb (Pb Pz) Nz)
   refine VO (lZ (vA (lp d9.1)) ((lj (⟨J.1,D.1,zS,a3.1,d9.1,zS⟩:lg)).toArray) a Z Z aM (pt d9.1) nb Z (λbl a=>mh (mx (lE ?_))))
   cases sj g
   exact ⟨_,Z,o9,g9,_,Y.trans b0,ab.trans aj,a.ll,M,d0,I,k2⟩
  refine mU (mx (lE ?_))
  cases sj g
  exact ⟨_,Z,a1,f1,_,lM.refl _,Lo.refl,a.ll,M,d0,I,K⟩
 rintro ⟨N,f9,g1⟩ E W ⟨Q,b3,f3,a6,ae,a,m2,b6,f5,a4⟩ B
 refine lH (sg (V (lq f5 (lC a.has Mh (lj N) Z bF aI)) (bS B λs0 j8 B=>VE (Eg a call76 (xS N _ _  j8) λp9 a=>V (nK Z) (ln (CI B Z (λi1 B=>?_) λi1 B=>?_))))))
 ·refine sg (Wh m2 (bS B λn5 e0 B=>?_))
  rcases n5 with r9 | s1
  ·have h:=a.size
   refine tG (.inl Z) (pe (args:=[a5,vI 11]) (caps:=#[]) _ _ a (Cb (Pb Pz) Cn) Z eP (by exact px Z Z) (λhH P d ad=>mS.l (nk qh (⟨f9,g1⟩:mf) Q 11 _ _ ⟨hH,P,d⟩ mv e0)) λl4 bn p1 k6 a T af ap=>?_)
   obtain ⟨t2,u0,i7,rfl⟩:=ap
   have a:=a.perm (Tb Tn)
   refine oA (oA (pN ?_))
   cases sj B
   exact og.li ⟨_,_,_,Z,a.mB (Kb Sn),(((u.trans k).trans t).trans a6).trans T,(((O.trans q).trans j).trans ae).trans af,ST.lG a (mJ.mem (Kb Sn)),⟨_,_,i7,Z⟩⟩
  have h:=a.size
  refine VE (eD a (Cb (Pb Pz) Cn) eP (λhh=>mS.r (nk qh (⟨f9,g1⟩:mf) Q 11 _ _ hh mv e0)) ?_)
  rintro l4 s3 p1 k6 a T af ⟨c0,rfl⟩
  cases c0
  have a:=a.perm (Tb Tn)
  refine ln ?_
  have a:=a.ll (Kb (Db St))
  refine sg (V (mW (v:=h2) pP (mz cI dz (U2 _ dz) kr)) ?_)
  have a:=a.perm (Nb (Pb Pz) Nz)
  refine VO (lZ h2 ((lj K7).toArray) a b6 Z aI (pf K7) nb Z (λbc a=>lt (mj (xX ?_))))
  cases sj B
  exact oW (v:=h2) Z b6 (lC a.has Mh (lj K7) Z bF aI) (og.ri ⟨_,_,_,Z,a.mB (Db (Kb Sn)),(((u.trans k).trans t).trans a6).trans T,(((O.trans q).trans j).trans ae).trans af,ST.lG a (mJ.mem (Db (Kb Sn))),Q,Z,Z,mv⟩)
 refine kg (V (lq f5 (lC a.has Mh (lj N) Z bF aI)) ?_)
 have a:=a.perm (Nb (Pb (Pb Pz)) Nz)
 refine VO (lZ (vA (lj N)) ((lj N).toArray) a b6 Z aI (pf N) nb Z (λbd a=>ln ?_))
 have a:=a.ll (Kb (Db St))
 refine lO (xX ?_)
 cases sj B
 exact oW (v:=vA (lj N)) Z b6 (lC a.has Mh (lj N) Z bF aI) (og.ri ⟨_,_,_,Z,a.mB (Db (Kb Sn)),((u.trans k).trans t).trans a6,((O.trans q).trans j).trans ae,ST.lG a (mJ.mem (Db (Kb Sn))),Q,Z,Z,a4⟩)
theorem Ld {s:(Int ⊕ (Signed×mf))} (h0:oa qe ((qh,Ob #[q0,vB qQ.over] 239)::[]) qa) (H:Sl (Pl (lJ .u8)) 1 qe q0 qQ.b) (hm:EK qQ=some s) :
  mS true pg0 168 [vP qh] qa qe ((qh,Ob #[q0,vB qQ.over] 239)::[]) s (λr v L1 μ1=>∃y1 y3,v=vA [vI r.1.lg.Kind,vS r.1.lg.Head.lu,vS r.1.lg.Head.Word,vS r.1.lg.nj,vS r.1.lg.B.lu,vS r.1.lg.B.Word,vS r.1.lg.C.lu,vS r.1.lg.C.Word,vS r.1.lg.mV,y1]∧L1=((qh,Ob #[y3,vB r.2.over] 239)::[])∧Sl (Pl (lJ .u8)) 1 μ1 y1 r.1.Tag∧Sl (Pl (lJ .u8)) 1 μ1 y3 r.2.b) (λx c L1 μ1=>∃y z,c=[{ v:=Ar 244 qh x,recovered:=false }]∧L1=((qh,Ob #[y,z] 239)::[])):=by
 let a2:Value:=vP qh
 have d:=ST.zZ (dd:=true) h0
 refine uv (n:=18) func168 Z Z nb (sg (VE (lY d cQ λW2 b1 d=>lr (Wm (bS hm λc1 Zq hm=>?_)))))
 rcases c1 with d7 | a
 ·have O:=d.size
  refine tG (.inl Z) (pe (args:=[a2]) (caps:=#[]) _ _ d (Cb (Pb Pz) Cn) Z call200 (by exact pp Z) (λhH P q ab=>mS.l (KV ⟨hH,P,q⟩ mv Zq)) λW5 d4 ad b3 d t h Q=>?_)
  obtain ⟨e3,e7,a7,rfl⟩:=Q
  have d:=d.perm (Tb Tn)
  refine oA (pN ?_)
  cases sj hm
  exact og.li ⟨_,_,_,Z,d.mB (Kb Sn),t,h,ST.lG d (mJ.mem (Kb Sn)),⟨_,_,a7,Z⟩⟩
 have O:=d.size
 refine VE (eD d (Cb (Pb Pz) Cn) call200 (λhh=>mS.r (KV hh mv Zq)) ?_)
 rintro W5 v9 ad b3 d t h ⟨a1,I,rfl,Y⟩
 cases I
 have d:=d.perm (Tb Tn)
 refine VE (lY d cI λc9 d3 d=>VO (FA (h1:=pf a.1) ((lj a.1).toArray) d aI λd0 d=>lr (Wm (bS hm λc0 T hm=>?_))))
 rcases c0 with d8 | k
 ·have O:=d.size
  refine tG (.inl Z) (pe (args:=[a2,vI 8]) (caps:=#[]) _ _ d (Cb (Pb Pz) Cn) Z kM (by exact px Z Z) (λhH P q ab=>mS.l (rS ⟨hH,P,q⟩ mv T)) λb6 d5 c4 b4 d j g W=>?_)
  obtain ⟨e5,e8,a8,rfl⟩:=W
  have d:=d.perm (Tb Tn)
  refine oA (pN ?_)
  cases sj hm
  exact og.li ⟨_,_,_,Z,d.mB (Kb Sn),t.trans j,h.trans g,ST.lG d (mJ.mem (Kb Sn)),⟨_,_,a8,Z⟩⟩
 have O:=d.size
 refine VE (eD d (Cb (Pb Pz) Cn) kM (λhh=>mS.r (rS hh mv T)) ?_)
 rintro b6 e1 c4 b4 d j g ⟨e4,N,J,rfl,M,G⟩
 cases J
 have d:=d.perm (Tb Tn)
 refine Wa (lS (Wm (V (mP aZ Z M) (Wi Z (ln (CI hm Z (λa6 hm=>?_) λa6 hm=>?_))))))
 ·refine sg (Wm (bS hm λb9 U hm=>?_))
  rcases b9 with d9 | e0
  ·have O:=d.size
   refine tG (.inl Z) (pe (args:=[a2,vI 11]) (caps:=#[]) _ _ d (Cb Pz Cn) Z eP (by exact px Z Z) (λhH P q ab=>mS.l (nk qh k.2 N 11 _ _ ⟨hH,P,q⟩ mv U)) λb7 d6 c5 b5 d u i aa=>?_)
   obtain ⟨e6,e9,a9,rfl⟩:=aa
   have d:=d.perm (Tb Tn)
   refine oA (oA (pN ?_))
   cases sj hm
   exact og.li ⟨_,_,_,Z,d.mB (Kb Sn),(t.trans j).trans u,(h.trans g).trans i,ST.lG d (mJ.mem (Kb Sn)),⟨_,_,a9,Z⟩⟩
  have O:=d.size
  refine VE (eD d (Cb Pz Cn) eP (λhh=>mS.r (nk qh k.2 N 11 _ _ hh mv U)) ?_)
  rintro b7 e2 c5 b5 d u i ⟨K,rfl⟩
  cases K
  have d:=d.perm (Tb Tn)
  refine ln ?_
  have d:=d.ll (Kb (Db St))
  refine sg (V (mW (v:=vA C9) pP (mz cQ dY (OG _ dY) kr)) ?_)
  have d:=d.perm (Nb (Pb Pz) Nz)
  refine VO (FA C9.toArray d bW λd1 d=>lt (mj (xX ?_)))
  cases sj hm
  exact oW (v:=vA C9) Z Z (lC d.has Mh C9 Z eE bW) (og.ri ⟨_,_,_,Z,d.mB (Db (Kb Sn)),(t.trans j).trans u,(h.trans g).trans i,ST.lG d (mJ.mem (Db (Kb Sn))),vN,N,Z,Z,Sl.nil _ _ _,mv⟩)
 refine kg (VA d (Mt Mh) (lj a.1) bF aI (Wm ?_))
 obtain ⟨B,D,rfl⟩:=M.form
 let a0:=C3 a.1.Kind a.1.Head.lu a.1.Head.Word a.1.nj a.1.B.lu a.1.B.Word a.1.C.lu a.1.C.Word a.1.mV B k.1.length D
 refine V (mW (v:=vA a0) (pZ Z Z) (mz cQ dY (OG _ dY) kr)) ?_
 have d:=d.perm (Nb (Pb (Pb Pz)) Nz)
 refine VO (FA a0.toArray d bW λd2 d=>ln ?_)
 have d:=d.ll (Kb (Kb (Db St)))
 refine lO (xX ?_)
 cases sj hm
 exact oW (v:=vA a0) Z Z (lC d.has Mh a0 Z eE bW) (og.ri ⟨_,_,_,Z,d.mB (Db (Kb Sn)),t.trans j,h.trans g,ST.lG d (mJ.mem (Db (Kb Sn))),.slice B k.1.length D,N,Z,Z,M,G⟩)
set_option maxHeartbeats 4000000 in
theorem Mx {s:(Int ⊕ (ow×mf))} (h0:oa qe ((qh,Ob #[q0,vB qQ.over] 239)::[]) qa) (i8:Sl (Pl (lJ .u8)) 1 qe q0 qQ.b) (hm:vv qQ=some s) :
  mS false pg0 134 [vP qh] qa qe ((qh,Ob #[q0,vB qQ.over] 239)::[]) s (λr v L1 μ1=>∃y1 y3 y5,v=vA [vI r.1.Kind,vI r.1.ny,vI r.1.E,vS r.1.Name,y1,y3]∧L1=((qh,Ob #[y5,vB r.2.over] 239)::[])∧Sl (Pl lp) 2 μ1 y1 r.1.nX∧Sl mR 10 μ1 y3 r.1.nm∧Sl (Pl (lJ .u8)) 1 μ1 y5 r.2.b) (λx c L1 μ1=>∃y z,c=[{ v:=Ar 244 qh x,recovered:=false }]∧L1=((qh,Ob #[y,z] 239)::[])):=by
 let c6:Value:=vP qh
 let b8:=(qh,Ob #[q0,vB qQ.over] 239)::[]
 have d:=ST.zZ (dd:=false) h0
 refine uv (n:=55) func134 Z Z nb (sg (VE (lY d cC λW2 b1 d=>lr (Wm (bS hm λu1 v2 hm=>?_)))))
 let g6:Value:=vP b1
 rcases u1 with be | J
 ·have P:=d.size
  refine tG (.inl Z) (pe (args:=[c6,vI 9223372036854775807]) (caps:=#[]) _ _ d (Cb (Pb Pz) Cn) Z gd (by exact px Z Z) (λhH hN O bt=>zO.mN (mS.l (nN ⟨hH,hN,O⟩ mv v2))) λW5 bd cj v7 d K aE ck=>?_)
  obtain ⟨bf,bh,v5,rfl⟩:=ck
  have d:=d.perm (Tb Tn)
  refine oA (pN ?_)
  cases sj hm
  exact og.li ⟨_,_,_,Z,d.mB (Kb Sn),K,aE,ST.lG d (mJ.mem (Kb Sn)),⟨_,_,v5,Z⟩⟩
 have P:=d.size
 refine VE (eD d (Cb (Pb Pz) Cn) gd (λhh=>my.mN (mS.r (nN hh mv v2))) ?_)
 rintro W5 v9 cj v7 d K aE ⟨h3,k3,rfl,c1⟩
 cases k3
 have d:=d.perm (Tb Tn)
 refine V (mW (v:=vA (Zj J.1)) (nw Z) (mz cC bO (Be _ bO) kr)) (VE (lY d cC λba e2 d=>VO (FA ((Zj J.1).toArray) d bR λbc d=>ln (lH (IW hm (λI E W=>∃b5 h6 b6 h7 Y b9 k4,lM cj b9∧Lo (keys b8) qa cj b9∧ST false (keys b8) qa W b9 ((e2,Ob #[vI J.1,vI I.1,vI I.2.1,vS I.2.2.1,b5,b6] 79)::((qh,Ob #[Y,vB I.2.2.2.2.2.2] 239)::((b1,Ol C4 79)::(h7++(h6++k4)))))∧E 0=c6∧E 2=g6∧E 3=vP e2∧mg 33 lp 2 b5 I.2.2.2.1 h6∧mX 71 mR 10 b9 b6 I.2.2.2.2.1 h7∧Sl (Pl (lJ .u8)) 1 b9 Y I.2.2.2.2.2.1) (λI i j=>?_) ?_)))))
 ·let j1:Value:=(vP e2)
  refine sg (Wf Aa (VB d Mh Z Z bK (ln (bg (Wi Z (Wa (ln (CI i Z (λn3 i=>?_) λn3 i=>?_))))))))
  ·refine sg (Wm (bS i λt5 j0 i=>?_))
   rcases t5 with s7 | b3
   ·have P:=d.size
    refine tG (.inl Z) (pe (args:=[c6]) (caps:=#[]) _ _ d (Cb (Pb Pz) Cn) Z jj (by exact pp Z) (λhH hN O bt=>zO.mN (mS.l (vq ⟨hH,hN,O⟩ mv j0))) λr2 x6 v0 cp d a8 bi bw=>?_)
    obtain ⟨ad,am,o1,rfl⟩:=bw
    have d:=d.perm (Tb Tn)
    refine oA (xI (oA (pN ?_)))
    cases sj i
    replace j:some (Sum.inl s7)=some s:=j
    cases sj j
    exact og.li ⟨_,_,_,Z,d.mB (Kb Sn),K.trans a8,aE.trans bi,ST.lG d (mJ.mem (Kb Sn)),⟨_,_,o1,Z⟩⟩
   have P:=d.size
   refine VE (eD d (Cb (Pb Pz) Cn) jj (λhh=>my.mN (mS.r (vq hh mv j0))) ?_)
   rintro r2 z2 v0 cp d a8 bi ⟨l8,g3,rfl,k1⟩
   cases g3
   have d:=d.perm (Tb Tn)
   refine Wf FO ?_
   have d:=d.perm (Nb (Pb Pz) Nz)
   refine VO (lZ (vS b3.1) (#[vI J.1,vI 0,vI 0,vS b3.1,vN,vN]) d Z Z fK (O4 b3.1) nb Z (λw5 d=>ln (lI (Wm (bS i λt4 j3 i=>?_)))))
   rcases t4 with s8 | i3
   ·have P:=d.size
    refine tG (.inl Z) (pe (args:=[c6,vI 2]) (caps:=#[]) _ _ d (Cb (Pb Pz) Cn) Z gd (by exact px Z Z) (λhH hN O bt=>zO.mN (mS.l (nN ⟨hH,hN,O⟩ mv j3))) λr4 x7 l9 cq d d9 bn bx=>?_)
    obtain ⟨ae,an,o2,rfl⟩:=bx
    have d:=d.perm (Tb Tn)
    refine xI (oA (pN ?_))
    cases sj i
    replace j:some (Sum.inl s8)=some s:=j
    cases sj j
    exact og.li ⟨_,_,_,Z,d.mB (Kb Sn),(K.trans a8).trans d9,(aE.trans bi).trans bn,ST.lG d (mJ.mem (Kb Sn)),⟨_,_,o2,Z⟩⟩
   have P:=d.size
   refine VE (eD d (Cb (Pb Pz) Cn) gd (λhh=>my.mN (mS.r (nN hh mv j3))) ?_)
   rintro r4 z3 l9 cq d d9 bn ⟨u2,g4,rfl,p5⟩
   cases g4
   have d:=d.perm (Tb Tn)
   refine Wf Er ?_
   have d:=d.perm (Nb (Pb Pz) Nz)
   refine VO (lZ (vI i3.1) (#[vI J.1,vI i3.1,vI 0,vS b3.1,vN,vN]) d Z Z dn (vM _ i3.1) nb Z (λw6 d=>mh (mx (lE ?_))))
   cases sj i
   exact ⟨_,Z,vN,[],vN,[],u2,l9,_,a8.trans d9,bi.trans bn,d.ll,Z,Z,Z,mg.nil _ _ _,mX.nil _ _ _ _,p5⟩
  refine sg (Wi Z (Wa (ln (CI i Z (λn4 i=>?_) λn4 i=>?_))))
  ·refine lH (sg (Wm (bS i λt9 j4 i=>?_)))
   rcases t9 with s9 | f0
   ·have P:=d.size
    refine tG (.inl Z) (pe (args:=[c6,vI 16]) (caps:=#[]) _ _ d (Cb (Pb Pz) Cn) Z gd (by exact px Z Z) (λhH hN O bt=>zO.mN (mS.l (nN ⟨hH,hN,O⟩ mv j4))) λr5 x8 f7 cr d M ay bz=>?_)
    obtain ⟨af,ao,o3,rfl⟩:=bz
    have d:=d.perm (Tb Tn)
    refine oA (oA (xI (oA (pN ?_))))
    cases sj i
    replace j:some (Sum.inl s9)=some s:=j
    cases sj j
    exact og.li ⟨_,_,_,Z,d.mB (Kb Sn),K.trans M,aE.trans ay,ST.lG d (mJ.mem (Kb Sn)),⟨_,_,o3,Z⟩⟩
   have P:=d.size
   refine VE (eD d (Cb (Pb Pz) Cn) gd (λhh=>my.mN (mS.r (nN hh mv j4))) ?_)
   rintro r5 z4 f7 cr d M ay ⟨u3,g7,rfl,p6⟩
   cases g7
   have d:=d.perm (Tb Tn)
   refine Wm (ln (nO (pE (λm E W=>∃f5 N i1 T Zq U a4 d5 k5,lM f7 d5∧Lo (keys b8) qa f7 d5∧ST false (keys b8) qa W d5 ((e2,Ob #[vI J.1,vI 0,vI 0,vS zS,N,vN] 79)::((qh,Ob #[Zq,vB a4] 239)::((b1,Ol C4 79)::(T++k5))))∧E 0=c6∧E 2=g6∧E 3=j1∧E 20=vI f0.1∧E 21=vI f5∧mg 33 lp 2 N i1 T∧Sl (Pl (lJ .u8)) 1 d5 Zq U∧sC f0 m f5 i1 U a4=some I) mZ ⟨0,vN,[],[],u3,f0.2.b,f0.2.over,f7,_,lM.refl _,Lo.refl,d.ll (Sb (Pb Pz) St),Z,Z,Z,Z,Z,mg.nil _ _ _,p6,i⟩ ?_)))
   rintro m E W ⟨f5,N,i1,T,Zq,U,a4,d5,k5,Q,az,d,e5,k9,e6,l0,l1,j9,d1,k⟩
   let i5:=(⟨U,a4⟩:mf)
   cases m with
   | zero=>rw [sC] at k; cases k
   | succ s5=>
    refine sg (V (mL l1 l0 Z) (ln (lH (CI k Z (λn5 k=>?_) λn5 k=>?_))))
    ·refine kn (lH (nO ?_))
     have d:=d.drew
     have g:=d.has.ll Sn
     have q:=d.has.ll (Kb Sn)
     refine rW 7 g q lV (nu 0 Z g q (ly Cf e6) (BU 1 Z g q (λhS=>lq Z (lA hS Mh Z eU)) (nu 2 Z g q (lz e5) (bS k λt6 j5 k=>?_))))
     rcases t6 with t0 | b4
     ·have P:=d.size
      refine aa0 3 Z kr (.inl Z) (pe (args:=[c6]) (caps:=#[]) _ _ d (Cb (Pb Pz) Cn) Z ir (by exact pp Z) (λhH hN O bt=>zO.mN (mS.l (tD ⟨hH,hN,O⟩ mv j5))) λr6 x9 m0 ct d G bo ca=>?_)
      obtain ⟨ag,ap,o4,rfl⟩:=ca
      have d:=d.perm (Tb Tn)
      refine xI (oA (oA (xI (oA (xI (oA (pN ?_)))))))
      cases sj k
      replace j:some (Sum.inl t0)=some s:=j
      cases sj j
      exact og.li ⟨_,_,_,Z,d.mB (Kb Sn),((K.trans M).trans Q).trans G,((aE.trans ay).trans az).trans bo,ST.lG d (mJ.mem (Kb Sn)),⟨_,_,o4,Z⟩⟩
     have P:=d.size
     refine XE 3 Z (eD d (Cb (Pb Pz) Cn) ir (λhh=>my.mN (mS.r (tD hh mv j5))) ?_)
     rintro r6 z5 m0 ct d G bo ⟨u4,g8,rfl,p7⟩
     cases g8
     have d:=d.perm (Tb Tn)
     have g:=d.has.nx G Sn
     have q:=d.has.nx G (Db (Kb Sn))
     refine ⟨⟨g,λ_=>q⟩,XE 4 Z (mn (cs:=(lp b4.1).toArray) d (nw Z) (nU aQ aM dE) λw7 s0 d=>?_)⟩
     have g:=d.has.nx G Sn
     have q:=d.has.nx G (Db (Db (Kb Sn)))
     refine ⟨⟨g,λ_=>q⟩,?_⟩
     have d:=d.perm (Nr (Qb (Qb (Qb (Qb Qz)))) Nz)
     refine bS k λe8 n6 k=>XE 5 Z (oU (enc:=lp) (v:=N) (vs:= .slice (some ⟨s0,0,none⟩) 1 1) (R:=T) d nC dc pt aQ oI.1 oI.2.1 Z oI.2.2.1 oI.2.2.2 Z Z j9 (Sl.lit (enc:=lp) (l:=[b4.1]) nC Z nb Z (d.at_ (Ma Mh))) n6 λw8 z6 cx d i6=>?_)
     have g:=d.has.nx G Sn
     have q:=d.has.nx G (Dr (Db (Db (Kb Sn))))
     refine ⟨⟨g,λ_=>q⟩,nu 6 Z g q (ly Cf e6) ?_⟩
     obtain ⟨h4,h8,rfl⟩:=i6.form
     have d:=d.perm (Nb (Pr (Pb (Pb Pz))) Nz)
     refine XO 7 Z (lZ (.slice h4 e8.length h8) (#[vI J.1,vI 0,vI 0,vS zS,.slice h4 e8.length h8,vN]) d Z Z fX oc nb Z (λw9 d=>?_))
     have g:=d.has.nx G Sn
     refine ⟨⟨g,λh=>tC kr h⟩,mG kr (mx (lE ?_))⟩
     have d:=d.ll (Kb (Kr (Db St)))
     exact lI (V (mL l1 Z Z) (Wm (ln ⟨s5,bH _,wi0 .i64 (f5+1),.slice h4 e8.length h8,e8,cx,u4,b4.2.b,b4.2.over,m0,_,Q.trans G,az.trans bo,d.ll (Kb (Sb (Pr Pz) (Sb (Pr Pz) St))),e5,k9,e6,l0,Z,i6,p7,k⟩)))
    refine pg (oL (oL (uO (lE (sg (Wh e5 (bS k λt8 j6 k=>?_)))))))
    rcases t8 with t1 | f1
    ·have P:=d.size
     refine tG (.inl Z) (pe (args:=[c6,vI 8]) (caps:=#[]) _ _ d (Cb (Pb Pz) Cn) Z gd (by exact px Z Z) (λhH hN O bt=>zO.mN (mS.l (nN ⟨hH,hN,O⟩ mv j6))) λr7 y0 c0 cu d a9 bj cb=>?_)
     obtain ⟨ah,aq,o5,rfl⟩:=cb
     have d:=d.perm (Tb Tn)
     refine oA (xI (oA (pN ?_)))
     cases sj k
     replace j:some (Sum.inl t1)=some s:=j
     cases sj j
     exact og.li ⟨_,_,_,Z,d.mB (Kb Sn),((K.trans M).trans Q).trans a9,((aE.trans ay).trans az).trans bj,ST.lG d (mJ.mem (Kb Sn)),⟨_,_,o5,Z⟩⟩
    have P:=d.size
    refine VE (eD d (Cb (Pb Pz) Cn) gd (λhh=>my.mN (mS.r (nN hh mv j6))) ?_)
    rintro r7 z7 c0 cu d a9 bj ⟨u5,g9,rfl,p8⟩
    cases g9
    have d:=d.perm (Tb Tn)
    refine Wm (ln (xl (IW k (λd3 E W=>∃f2 e3 f3 a5 k6,lM c0 a5∧Lo (keys b8) qa c0 a5∧ST false (keys b8) qa W a5 ((e2,Ob #[vI J.1,vI 0,vI 0,vS zS,N,f2] 79)::((qh,Ob #[f3,vB d3.2.2] 239)::((b1,Ol C4 79)::(e3++(T++k6)))))∧E 0=c6∧E 2=g6∧E 3=j1∧mX 71 mR 10 a5 f2 d3.1 e3∧Sl (Pl (lJ .u8)) 1 a5 f3 d3.2.1) (λd3 o9 f8=>?_) ?_)))
    ·refine nO (pE (λm E W=>∃f6 f4 i2 c5 b7 d2 d4 a6 k7,lM c0 a6∧Lo (keys b8) qa c0 a6∧ST false (keys b8) qa W a6 ((e2,Ob #[vI J.1,vI 0,vI 0,vS zS,N,f4] 79)::((qh,Ob #[b7,vB d4] 239)::((b1,Ol C4 79)::(c5++(T++k7)))))∧E 0=c6∧E 2=g6∧E 3=j1∧E 32=vI f1.1∧E 33=vI f6∧mX 71 mR 10 a6 f4 i2 c5∧Sl (Pl (lJ .u8)) 1 a6 b7 d2∧tP f1 m f6 i2 d2 d4=some d3) mZ ⟨0,vN,[],[],u5,f1.2.b,f1.2.over,c0,_,lM.refl _,Lo.refl,d.ll (Sb (Pb Pz) St),e5,k9,e6,Z,Z,mX.nil _ _ _ _,p8,o9⟩ ?_)
     rintro m E W ⟨f6,f4,i2,c5,b7,d2,d4,a6,k7,e0,bp,d,i0,l2,e7,l3,l4,k0,g1,u⟩
     cases m with
     | zero=>rw [tP] at u; cases u
     | succ s6=>
      refine sg (V (mL l4 l3 Z) (ln (lH (CI u Z (λn7 u=>?_) λn7 u=>?_))))
      ·refine kn (lH (nO ?_))
       have d:=d.drew
       have g:=d.has.ll Sn
       have q:=d.has.ll (Kb Sn)
       refine rW 7 g q lV (nu 0 Z g q (ly AM e7) (BU 1 Z g q (λhS=>lq Z (lA hS Mh Z iG)) (nu 2 Z g q (lz i0) (bS u λt7 j7 u=>?_))))
       rcases t7 with l6 | a
       ·have P:=d.size
        refine aa0 3 Z kr (.inl Z) (pe (args:=[c6]) (caps:=#[]) _ _ d (Cb (Pb Pz) Cn) Z call168 (by exact pp Z) (λhH hN O bt=>zO.mN (mS.l (Ld ⟨hH,hN,O⟩ mv j7))) λr8 y2 m1 cv d t bq cc=>?_)
        obtain ⟨aj,ar,o6,rfl⟩:=cc
        have d:=d.perm (Tb Tn)
        refine xI (oA (oA (xI (oA (xI (oA (pN ?_)))))))
        cases sj u
        replace f8:some (Sum.inl (Sum.inl l6))=some I:=f8
        cases sj f8
        replace j:some (Sum.inl l6)=some s:=j
        cases sj j
        exact og.li ⟨_,_,_,Z,d.mB (Kb Sn),((((K.trans M).trans Q).trans a9).trans e0).trans t,((((aE.trans ay).trans az).trans bj).trans bp).trans bq,ST.lG d (mJ.mem (Kb Sn)),⟨_,_,o6,Z⟩⟩
       have P:=d.size
       refine XE 3 Z (eD d (Cb (Pb Pz) Cn) call168 (λhh=>my.mN (mS.r (Ld hh mv j7))) ?_)
       rintro r8 z8 m1 cv d t bq ⟨ai,u6,h1,rfl,k2,p9⟩
       cases h1
       have d:=d.perm (Tb Tn)
       have g:=d.has.nx t Sn
       have q:=d.has.nx t (Db (Kb Sn))
       refine ⟨⟨g,λ_=>q⟩,?_⟩
       obtain ⟨c4,c9,rfl⟩:=k2.form
       let j2:Value:= .slice c4 a.1.Tag.length c9
       let m4:=a.1.lg.Head
       refine XE 4 Z (mn (cs:=#[vI a.1.lg.Kind,vS m4.lu,vS m4.Word,vS a.1.lg.nj,vS a.1.lg.B.lu,vS a.1.lg.B.Word,vS a.1.lg.C.lu,vS a.1.lg.C.Word,vS a.1.lg.mV,j2]) d (nw Z) (nU cF bW cQ) λx0 x4 d=>?_)
       have g:=d.has.nx t Sn
       have q:=d.has.nx t (Db (Db (Kb Sn)))
       refine ⟨⟨g,λ_=>q⟩,?_⟩
       have d:=d.perm (Nr (Qb (Qb (Qb (Qb Qz)))) Nz)
       refine bS u λe9 n8 u=>XE 5 Z (wW (B:=c5) ra d dc cF Bk.1 Bk.2.1 Z Bk.2.2.1 Bk.2.2.2 Z Z (k0.mono ra t) (EI.lit ra (l:=[a.1]) (.cons (ys:=[vI a.1.lg.Kind,vS m4.lu,vS m4.Word,vS a.1.lg.nj,vS a.1.lg.B.lu,vS a.1.lg.B.Word,vS a.1.lg.C.lu,vS a.1.lg.C.Word,vS a.1.lg.mV,j2]) (mR.mk ⟨j2,Z,k2⟩) .nil) Z nb (d.at_ (Ma Mh))) n8 λx1 z9 r0 d i7=>?_)
       have g:=d.has.nx t Sn
       have q:=d.has.nx t (Dr (Db (Db (Kb Sn))))
       refine ⟨⟨g,λ_=>q⟩,nu 6 Z g q (ly AM e7) ?_⟩
       obtain ⟨h5,h9,rfl⟩:=i7.form
       have d:=d.perm (Nb (Pr (Pb (Pb Pz))) Nz)
       refine XO 7 Z (lZ (.slice h5 e9.length h9) (#[vI J.1,vI 0,vI 0,vS zS,N,.slice h5 e9.length h9]) d Z Z sizeOf77 oc nb Z (λx2 d=>?_))
       have g:=d.has.nx t Sn
       refine ⟨⟨g,λh=>tC kr h⟩,mG kr (mx (lE ?_))⟩
       have d:=d.ll (Kb (Kr (Db St)))
       exact lI (V (mL l4 Z Z) (Wm (ln ⟨s6,bH _,wi0 .i64 (f6+1),.slice h5 e9.length h9,e9,r0,u6,a.2.b,a.2.over,m1,_,e0.trans t,bp.trans bq,d.ll (Kb (Sb (Pr Pz) (Sb (Pr Pz) St))),i0,l2,e7,l3,Z,i7,p9,u⟩)))
      refine pg (oL (oL (uO (lE ?_))))
      cases sj u
      exact ⟨_,Z,f4,c5,b7,a6,_,e0,bp,d.ll,i0,l2,e7,k0,g1⟩
    rintro ⟨y6,y7,ab⟩ E W ⟨f2,e3,f3,a5,k6,m3,ch,d,s2,s3,s4,p3,p4⟩ o8
    refine mx (lE ?_)
    cases sj o8
    exact ⟨_,Z,N,T,f2,e3,f3,a5,_,((M.trans Q).trans a9).trans m3,((ay.trans az).trans bj).trans ch,d.ll,s2,s3,s4,j9,p3,p4⟩
  refine sg (Wi Z (Wa (ln (CI i Z (λn9 i=>?_) λn9 i=>?_))))
  ·refine lI (Wm (bS i λu0 j8 i=>?_))
   rcases u0 with t2 | i4
   ·have P:=d.size
    refine tG (.inl Z) (pe (args:=[c6,vI 99]) (caps:=#[]) _ _ d (Cb (Pb Pz) Cn) Z gd (by exact px Z Z) (λhH hN O bt=>zO.mN (mS.l (nN ⟨hH,hN,O⟩ mv j8))) λr9 y4 m2 cw d e1 bs cd=>?_)
    obtain ⟨ak,au,o7,rfl⟩:=cd
    have d:=d.perm (Tb Tn)
    refine xI (oA (pN ?_))
    cases sj i
    replace j:some (Sum.inl t2)=some s:=j
    cases sj j
    exact og.li ⟨_,_,_,Z,d.mB (Kb Sn),K.trans e1,aE.trans bs,ST.lG d (mJ.mem (Kb Sn)),⟨_,_,o7,Z⟩⟩
   have P:=d.size
   refine VE (eD d (Cb (Pb Pz) Cn) gd (λhh=>my.mN (mS.r (nN hh mv j8))) ?_)
   rintro r9 aa m2 cw d e1 bs ⟨u7,h2,rfl,cm⟩
   cases h2
   have d:=d.perm (Tb Tn)
   refine Wf ER ?_
   have d:=d.perm (Nb (Pb Pz) Nz)
   refine VO (lZ (vI i4.1) (#[vI J.1,vI 0,vI i4.1,vS zS,vN,vN]) d Z Z dn (vM _ i4.1) nb Z (λx3 d=>mh (mx (lE ?_))))
   cases sj i
   exact ⟨_,Z,vN,[],vN,[],u7,m2,_,e1,bs,d.ll,Z,Z,Z,mg.nil _ _ _,mX.nil _ _ _ _,cm⟩
  refine mU (mx (lE ?_))
  cases sj i
  exact ⟨_,Z,vN,[],vN,[],h3,cj,_,lM.refl _,Lo.refl,d.ll,Z,Z,Z,mg.nil _ _ _,mX.nil _ _ _ _,c1⟩
 rintro ⟨a1,a2,a3,b0,b2,l5,l7⟩ E W ⟨b5,h6,b6,h7,Y,b9,k4,d6,bk,d,s1,e4,k8,f9,g0,d0⟩ H
 refine lH (sg (V (lq k8 (lC d.has Mh [vI J.1,vI a1,vI a2,vS a3,b5,b6] Z dv bR)) (bS H λy9 p0 H=>VE (Eg d call45 (FB (f9.sl nC λb o hq=>d.at_ (Mt (Mt (Mt (Ma (Ml hq)))))) (g0.sl ra d.ns λb o hq=>d.at_ (Mt (Mt (Mt (Ml hq))))) p0) λw2 d=>V (nK Z) (ln (CI H Z (λn2 H=>?_) λn2 H=>?_))))))
 ·refine sg (Wh s1 (bS H λt3 i9 H=>?_))
  rcases t3 with y8 | z0
  ·have P:=d.size
   refine tG (.inl Z) (pe (args:=[c6,vI 11]) (caps:=#[]) _ _ d (Cb (Pb Pz) Cn) Z eP (by exact px Z Z) (λhH hN O bt=>zO.mN (mS.l (nk qh (⟨l5,l7⟩:mf) Y 11 _ _ ⟨hH,hN,O⟩ mv i9))) λr1 x5 u9 cn d a7 bl bu=>?_)
   obtain ⟨ac,al,o0,rfl⟩:=bu
   have d:=d.perm (Tb Tn)
   refine oA (oA (pN ?_))
   cases sj H
   exact og.li ⟨_,_,_,Z,d.mB (Kb Sn),(K.trans d6).trans a7,(aE.trans bk).trans bl,ST.lG d (mJ.mem (Kb Sn)),⟨_,_,o0,Z⟩⟩
  have P:=d.size
  refine VE (eD d (Cb (Pb Pz) Cn) eP (λhh=>my.mN (mS.r (nk qh (⟨l5,l7⟩:mf) Y 11 _ _ hh mv i9))) ?_)
  rintro r1 z1 u9 cn d a7 bl ⟨g2,rfl⟩
  cases g2
  have d:=d.perm (Tb Tn)
  refine ln ?_
  have d:=d.ll (Kb (Db (Kb (Dr (Dr St)))))
  refine sg (V (mW (v:=vA C4) pP (mz cC bO (Be _ bO) kr)) ?_)
  have d:=d.perm (Nb (Pb Pz) Nz)
  refine VO (lZ (vA C4) C4.toArray d e4 Z bR oc nb Z (λw3 d=>lt (mj (xX ?_))))
  cases sj H
  exact oW (v:=vA C4) Z e4 (lC d.has Mh C4 Z dv bR) (og.ri ⟨_,_,_,Z,d.mB (Db (Kb Sn)),(K.trans d6).trans a7,(aE.trans bk).trans bl,ST.lG d (mJ.mem (Db (Kb Sn))),vN,vN,Y,Z,Z,Sl.nil _ _ _,Sl.nil _ _ _,d0.mono (Pl.mono _) a7⟩)
 refine kg (V (lq k8 (lC d.has Mh [vI J.1,vI a1,vI a2,vS a3,b5,b6] Z dv bR)) ?_)
 obtain ⟨c2,c7,rfl⟩:=f9.form
 obtain ⟨c3,c8,rfl⟩:=g0.form
 let g5:=C6 J.1 a1 a2 a3 c2 b0.length c7 c3 b2.length c8
 have d:=d.perm (Nb (Pb (Pb Pz)) Nz)
 refine VO (lZ (vA g5) g5.toArray d e4 Z bR oc nb Z (λw4 d=>ln ?_))
 have d:=d.ll (Kb (Db St))
 refine lO (xX ?_)
 cases sj H
 refine oW (v:=vA g5) Z e4 (lC d.has Mh g5 Z dv bR) ?_
 have d:=d.perm (Nr (Qb (Qb (Qr Qz))) Nz)
 obtain ⟨av,d,d7,cf,p1⟩:=ST.xM d f9 nC
 have d:=d.perm (Nr (Qb (Qb Qz)) Nz)
 obtain ⟨aw,d,d8,cg,p2⟩:=ST.Bb ra d (g0.mono ra d7)
 exact og.ri ⟨_,_,_,Z,d.mB (Db (Kb Sn)),((K.trans d6).trans d7).trans d8,((aE.trans bk).trans cf).trans cg,ST.lG d (mJ.mem (Db (Kb Sn))),.slice c2 b0.length c7,.slice c3 b2.length c8,Y,Z,Z,mv,p2,mv⟩
theorem NL {s:(Int ⊕ (mf×ow))} (h0:oa qe ((qh,Ob #[q0,vB qQ.over] 239)::((qi,Ob #[vI qH.Kind,vI qH.ny,vI qH.E,vS qH.Name,q1,q2] 79)::[])) qa) (B:Sl (Pl (lJ .u8)) 1 qe q0 qQ.b) (Y:Sl (Pl lp) 2 qe q1 qH.nX) (U:Sl mR 10 qe q2 qH.nm) (hm:BN qQ qH=some s) :
  mS false pg0 133 [vP qh,vP qi] qa qe ((qh,Ob #[q0,vB qQ.over] 239)::((qi,Ob #[vI qH.Kind,vI qH.ny,vI qH.E,vS qH.Name,q1,q2] 79)::[])) s (λr v L1 h=>∃u O P,v=vT []∧L1=((qh,Ob #[u,vB r.1.over] 239)::((qi,Ob #[vI r.2.Kind,vI r.2.ny,vI r.2.E,vS r.2.Name,O,P] 79)::[]))∧Sl (Pl (lJ .u8)) 1 h u r.1.b∧Sl (Pl lp) 2 h O r.2.nX∧Sl mR 10 h P r.2.nm) (λx c L1 h=>∃y z,c=[{ v:=Ar 244 qh x,recovered:=false }]∧L1=((qh,Ob #[y,z] 239)::((qi,Ob #[vI qH.Kind,vI qH.ny,vI qH.E,vS qH.Name,q1,q2] 79)::[]))):=by
 have a:=ST.zZ (dd:=false) h0
 refine uv (n:=5) func133 Z Z nb (lI (Wm (bS hm λW q hm=>?_)))
 rcases W with b7 | t
 ·have j:=a.size
  refine tG (.inl Z) (pe (args:=[vP qh]) (caps:=#[]) _ _ a (Cb Pz Cn) Z call134 (by exact pp Z) (λhH hN i a7=>mS.l (Mx ⟨hH,hN,i⟩ mv q)) λW3 b6 k L9 a D d g=>?_)
  obtain ⟨c2,c3,a3,rfl⟩:=g
  have a:=a.perm (Tb Tn)
  refine pN ?_
  cases sj hm
  exact og.li ⟨_,_,_,Z,a.mB (Kb (Kb Sn)),D,d,ST.lG a (mJ.mem (Kb (Kb Sn))),⟨_,_,a3,Z⟩⟩
 have j:=a.size
 refine VE (eD a (Cb Pz Cn) call134 (λhh=>mS.r (Mx hh mv q)) ?_)
 rintro W3 v7 k L9 a D d ⟨b9,c1,a8,G,rfl,N,Q,a4⟩
 cases G
 have a:=a.perm (Tb Tn)
 obtain ⟨I,K,rfl⟩:=N.form
 let a0:Value:= .slice I t.1.nX.length K
 obtain ⟨J,M,rfl⟩:=Q.form
 let a2:Value:= .slice J t.1.nm.length M
 have a:=a.perm (Nb (Pb Pz) Nz)
 refine VO (FA (#[vI t.1.Kind,vI t.1.ny,vI t.1.E,vS t.1.Name,a0,a2]) a bR λb5 a=>mh (LR (rI ?_)))
 cases sj hm
 exact pF Z (og.ri ⟨_,_,_,Z,a.mB (Sb (Pb Pz) (Kb Sn)),D,d,ST.lG a (mJ.mem (Sb (Pb Pz) (Kb Sn))),a8,a0,a2,Z,Z,a4,N,Q⟩)
theorem Jc {r:(Int×ow)} (I:oa qe ((qh,Ob #[vI qH.Kind,vI qH.ny,vI qH.E,vS qH.Name,q1,q2] 79)::[]) qa) (N:Sl (Pl (lJ .u8)) 1 qe q0 ql) (t:Sl (Pl lp) 2 qe q1 qH.nX) (k:Sl mR 10 qe q2 qH.nm) (hm:yE ql qH=some r) :
  my false pg0 128 [q0,.func (.func 133) #[] #[vP qh]] qa qe ((qh,Ob #[vI qH.Kind,vI qH.ny,vI qH.E,vS qH.Name,q1,q2] 79)::[]) (λv G D=>∃u B,v=vI r.1∧G=((qh,Ob #[vI r.2.Kind,vI r.2.ny,vI r.2.E,vS r.2.Name,u,B] 79)::[])∧Sl (Pl lp) 2 D u r.2.nX∧Sl mR 10 D B r.2.nm):=by
 refine bS hm λl d hm=>bS hm λs g hm=>?_
 cases sj hm
 refine my.mono (L6 133 #[vP qh] q0 ql l s (λr=>(r.1).b) qa I N d (λr G D=>∃u B,G=((qh,Ob #[vI r.2.Kind,vI r.2.ny,vI r.2.E,vS r.2.Name,u,B] 79)::[])∧Sl (Pl lp) 2 D u r.2.nX∧Sl mR 10 D B r.2.nm) (λx G D=>G=((qh,Ob #[vI qH.Kind,vI qH.ny,vI qH.E,vS qH.Name,q1,q2] 79)::[])) call133 λU μ' P q J hle i=>mS.mono (NL J i mv mv g) ?_ ?_) ?_
 ·rintro r v G D ⟨W,u,B,O,a,Q,I,J⟩; exact ⟨_,_,_,a,Q,u,B,Z,I,J⟩
 ·rintro x c G D ⟨y,z,j,a⟩; exact ⟨y,z,_,j,a,Z⟩
 rintro v G D M ⟨rfl,h⟩
 cases s with
 | inl x=>exact ⟨q1,q2,Z,h,mv,mv⟩
 | inr r=>obtain ⟨u,B,a,I,J⟩:=h; exact ⟨u,B,Z,a,I,J⟩
theorem Vx {r:(ow×Int)} (Y:oa qe [] qa) (D:Sl (Pl (lJ .u8)) 1 qe q0 ql) (hm:Cz ql=some r) :
  my false pg0 91 [q0] qa qe [] (λv T Q=>∃J N,v=vT [vA [vI r.1.Kind,vI r.1.ny,vI r.1.E,vS r.1.Name,J,N],vI r.2]∧T=[]∧Sl (Pl lp) 2 Q J r.1.nX∧Sl mR 10 Q N r.1.nm):=by
 refine rG Y 14 func91 Z (λd=>sg (VE (lY d cC λW2 b1 d=>Wa (lr (VE (lY d cC λW4 U d=>lr (Wm ?_)))))))
 refine V (pG (by exact pp Z) Z) (bS hm λa I hm=>?_)
 let O:Value:=vI a.2.E
 let z:Value:=vS a.2.Name
 let t:Value:=vI a.2.ny
 let s:Value:=vI a.2.Kind
 refine VE (eD d (Cb Pz Cn) call128 (λP=>Jc P mv (Sl.nil _ _ _) (Sl.nil _ _ _) I) ?_)
 rintro _ a5 W a2 d u h ⟨K,M,k,rfl,x,y⟩
 cases k
 have d:=d.perm (Tb Tn)
 refine Wa (lS (Wm (Wi Z (ln (CI hm Z (λG hm=>?_) λG hm=>?_)))))
 ·refine sg (V (mW (v:=vA C4) pP (mz cC bO (Be _ bO) kr)) (Wm ?_))
  have d:=d.perm (Nb (Pb Pz) Nz)
  refine VO (FA C4.toArray d bR λa3 d=>Wa (ln ?_))
  have d:=d.ll (Kb (Db St))
  refine lO (mj ?_)
  cases sj hm
  exact rf (v0:=vA C4) (v1:=vI a.1) Z Z (lC d.has Mh C4 Z dv bR) Z ⟨_,_,_,Z,d.mB Sn,u,h,ST.lG d (mJ.mem Sn),vN,vN,Z,Z,Sl.nil _ _ _,Sl.nil _ _ _⟩
 refine kg (VA d Mh [s,t,O,z,K,M] dv bR ?_)
 obtain ⟨c,i,rfl⟩:=x.form
 let q:Value:= .slice c a.2.nX.length i
 obtain ⟨g,j,rfl⟩:=y.form
 let a0:Value:= .slice g a.2.nm.length j
 let B:Value:=vA [s,t,O,z,q,a0]
 have d:=d.perm (Nb (Pb Pz) Nz)
 refine VO (lZ B (#[s,t,O,z,q,a0]) d Z Z bR oc nb Z (λa4 d=>Wa (ln ?_)))
 have d:=d.ll (Kb (Db St))
 refine lO ?_
 cases sj hm
 exact rf (v0:=B) (v1:=vI 0) Z Z (lC d.has Mh [s,t,O,z,q,a0] Z dv bR) Z ⟨_,_,_,Z,d.mB Sn,u,h,ST.lG d (mJ.mem Sn),q,a0,Z,Z,x,y⟩
theorem ED {r:(Int×ow×Int)} (h0:oa qe [] qa) (a3:Sl (Pl (lJ .u8)) 1 qe q0 ql) (hm:yX ql=some r) :
  my false pg0 48 [q0] qa qe [] (λv L1 μ1=>∃y1 y3,v=vT [vI r.1,vA [vI r.2.1.Kind,vI r.2.1.ny,vI r.2.1.E,vS r.2.1.Name,y1,y3],vI r.2.2]∧L1=[]∧Sl (Pl lp) 2 μ1 y1 r.2.1.nX∧Sl mR 10 μ1 y3 r.2.1.nm):=by
 refine rG h0 46 func48 Z (λd=>sg (Wa (VE (lY d cC λW2 b1 d=>Wa (lS (Wm (V (mP aZ Z a3) (Wi Z (mh ?_)))))))))
 refine lE (CI hm Z (λd8 hm=>?_) λd8 hm=>?_)
 ·refine sg (V (mW (v:=vA C4) pP (mz cC bO (Be _ bO) kr)) (Wa (VO (FA C4.toArray d bR λW4 d=>Wa (lt (mj ?_))))))
  cases sj hm
  exact Jr (v0:=vI 0) (v1:=vA C4) (v2:=vI 12) Z Z Z (lC d.has Mh C4 Z dv bR) Z ⟨_,_,_,Z,d.mB Sn,lM.refl _,Lo.refl,ST.lG d (mJ.mem Sn),vN,vN,Z,Z,Sl.nil _ _ _,Sl.nil _ _ _⟩
 refine kg (Wm (bS hm λJ d9 hm=>?_))
 refine VE (eD d (aT _) call90 (λhh=>my.mN (Ql hh mv d9)) ?_ (L0:=[]))
 rintro _ g2 P f4 d D q ⟨T,e2,K,rfl,a4,c8⟩
 cases K
 refine Wm (Wx Z (Wx Z (Wx Z (Wx Z (Wa (Wa (Wa (Wa (ln (lH (CJ hm (λa7 E W=>∃U b7,lM P U∧Lo (keys []) qa P U∧ST false (keys []) qa W U ((b1,Ol C4 79)::b7)∧E 3=vP b1∧E 5=vI J.1∧E 6=T∧E 8=vI a7) (λa7 b4=>?_) ?_)))))))))))
 ·refine sg (Wm (Wi Z (Wm (LJ b4 (λa8 E W=>∃k Y,lM P k∧Lo (keys []) qa P k∧ST false (keys []) qa W k ((b1,Ol C4 79)::Y)∧E 3=vP b1∧E 5=vI J.1∧E 6=T∧E 8=vI J.2.2.2∧E 30=vB a8) 7 ?_ λa8 g I=>?_))))
  ·rintro f3 E W ⟨k,Y,G,s,d,Zq,a1,a2,c1,c2⟩ j
   refine ln (CI j c2 (λb3 j=>?_) λb3 j=>?_)
   ·refine lI (Wa (ln ?_))
    cases sj j
    exact ⟨k,_,G,s,d.ll,Zq,a1,a2,Z⟩
   refine kn ?_
   cases sj j
   exact ⟨k,_,G,s,d.ll,Zq,a1,a2,c1⟩
  refine bC g (λc g=>?_) (λc g=>?_)
  ·refine ug c (lz Z) (ug c (lz Z) (ug c (lz Z) (bS g λc9 b5 g=>tw c (oG d call88 (na.mN (Mw mv b5)) λe9 d2 d5 e7 d H ab b2=>bS g λf2 b6 g=>tw c (Eg d call74 (mo.mN (Bp mv (b2.sl (λ_=>rfl) λb o hq=>d.at_ (Ml hq)) b6)) λf0 d=>ug c (nK Z) (V (lQ (cB c) Z) ?_))))))
   cases sj g
   exact I _ _ ⟨d5,_,H,ab,d.ll (Dr St),Z,Z,Z,Z,Z⟩
  refine un c (un c (un c (un c (un c (un c (V (lN (cB c) Z) ?_))))))
  cases sj g
  exact I _ _ ⟨P,_,lM.refl _,Lo.refl,d.ll,Z,Z,Z,Z,Z⟩
 rintro e0 E W ⟨U,b7,z,O,d,B,d6,d7,b9⟩ i
 refine lH (sg (Wh b9 (Wi Z (ln (CI i Z (λc5 i=>?_) λc5 i=>?_)))))
 ·refine sg (V (mW (v:=vA C4) pP (mz cC bO (Be _ bO) kr)) (Wh b9 (Wa (VO (lZ (vA C4) C4.toArray d B Z bR oc nb Z (λf6 d=>Wa (lt (mj ?_))))))))
  cases sj i
  exact Jr (v0:=vI 0) (v1:=vA C4) (v2:=vI e0) Z Z B (lC d.has Mh C4 Z dv bR) Z ⟨_,_,_,Z,d.mB Sn,D.trans z,q.trans O,ST.lG d (mJ.mem Sn),vN,vN,Z,Z,Sl.nil _ _ _,Sl.nil _ _ _⟩
 refine kg (Wh d7 (bS i λa c7 i=>?_))
 let d1:Value:=vI a.1.E
 let d0:Value:=vS a.1.Name
 let c4:Value:=vI a.1.ny
 let c3:Value:=vI a.1.Kind
 refine VE (eD d (aT _) call91 (λhh=>Vx hh mv c7) ?_ (L0:=[]))
 rintro _ g3 g8 f5 d Q aa ⟨g4,g7,M,rfl,a5,a6⟩
 cases M
 refine Wm (Wx Z (Wx Z (VE (lY d cC λf8 g1 d=>?_))))
 obtain ⟨t,x,rfl⟩:=a5.form
 let b8:Value:= .slice t a.1.nX.length x
 obtain ⟨u,y,rfl⟩:=a6.form
 let c0:Value:= .slice u a.1.nm.length y
 let b0:=#[c3,c4,d1,d0,b8,c0]
 let a9:Value:=vA [c3,c4,d1,d0,b8,c0]
 refine VO (lZ a9 b0 d Z Z bR oc nb Z (λf9 d=>Wa (lS (Wm (Wi Z (ln (CI i Z (λc6 i=>?_) λc6 i=>?_)))))))
 ·refine sg (V (mW (v:=vA C4) pP (mz cC bO (Be _ bO) kr)) (Wm (Wa ?_)))
  have d:=d.perm (Nb (Pb Pz) Nz)
  refine VO (lZ (vA C4) C4.toArray d B Z bR oc nb Z (λg0 d=>Wa (ln ?_)))
  have d:=d.ll (Kb (Db St))
  refine lO (mj ?_)
  cases sj i
  exact Jr (v0:=vI 0) (v1:=vA C4) (v2:=vI a.2) Z Z B (lC d.has Mh C4 Z dv bR) Z ⟨_,_,_,Z,d.mB Sn,(D.trans z).trans Q,(q.trans O).trans aa,ST.lG d (mJ.mem Sn),vN,vN,Z,Z,Sl.nil _ _ _,Sl.nil _ _ _⟩
 refine kn (lH ?_)
 have d:=d.drew
 have h:=d.has.ll (Kb Sn)
 refine mF h lV (X 0 Z h (lz d6) (XH 1 Z h (λ_ hS=>lq Z (lC hS Mh [c3,c4,d1,d0,b8,c0] Z dv bR)) (X 2 Z h (nB Z) ?_)))
 have d:=d.perm (Nb (Pb Pz) Nz)
 refine XO 3 Z (lZ a9 b0 d B Z bR oc nb Z (λe8 d=>?_))
 have h:=d.has.ll (Db (Kb Sn))
 refine ⟨h,X 4 Z h (nB Z) (mG kr (lE ?_))⟩
 have d:=d.ll (Kb (Db St))
 refine lO ?_
 cases sj i
 exact Jr (v0:=vI J.1) (v1:=a9) (v2:=vI 0) Z Z B (lC d.has Mh [c3,c4,d1,d0,b8,c0] Z dv bR) Z ⟨_,_,_,Z,d.mB Sn,(D.trans z).trans Q,(q.trans O).trans aa,ST.lG d (mJ.mem Sn),b8,c0,Z,Z,a5,a6⟩
theorem Ga {i:tT} (Q:oa qe [] qa) (c:Sl (Pl (lJ .u8)) 1 qe q0 i.B) (hm:wX i=some qT) :
  my false pg0 40 [vA [vB i.Out,q0]] qa qe [] (λv N T=>∃M,v=M∧N=[]∧Sl mR 10 T M qT):=by
 refine rG Q 17 func40 Z (λd=>sg ?_)
 obtain ⟨I,J,rfl⟩:=c.form
 refine VE (mA d Z (λW4 b3 d=>Wa (lr (Wf RT (VB d Mh Z Z dq (bS hm λa K hm=>?_))))))
 refine VE (Ub d (aT _) call48 (λhH q h s=>ED ⟨hH,q,h⟩ mv K) (λW7 a2 O U d u g B=>?_) (L0:=[]))
 obtain ⟨a3,a4,j,rfl,G,x⟩:=B
 replace j:=j.symm; subst j
 have d:=d.perm Tn
 refine Wm (Wx Z (Wx Z (Wx Z (VE (lY d cC λY W d=>Wa ?_)))))
 obtain ⟨y,z,rfl⟩:=G.form
 obtain ⟨k,t,rfl⟩:=x.form
 let a0:Value:= .slice k a.2.1.nm.length t
 refine VO (FA (#[vI a.2.1.Kind,vI a.2.1.ny,vI a.2.1.E,vS a.2.1.Name,.slice y a.2.1.nX.length z,a0]) d bR λP d=>Wa (ln ?_))
 have d:=d.ll (Kb (Db St))
 refine lH (sg (Wm (Wi Z (ln (CI hm Z (λD hm=>?_) λD hm=>?_)))))
 ·refine sg (Wa (ln ?_))
  have d:=d.ll (Db St)
  refine lO (mj ?_)
  cases sj hm
  exact ma (v:=vN) Z Z ⟨_,_,_,Z,d.mB Sn,u,g,ST.lG d (mJ.mem Sn),vN,Z,Z,Sl.nil _ _ _⟩
 refine kg (Wf AM (VB d Mh Z Z iG (Wa (ln ?_))))
 have d:=d.ll (Db St)
 refine lO ?_
 cases sj hm
 exact ma (v:=a0) Z Z ⟨_,_,_,Z,d.mB Sn,u,g,ST.lG d (mJ.mem Sn),a0,Z,Z,x⟩
theorem U5 (u:Sl (Pl (lJ .u8)) 1 (hp qa) q0 ql) (I:Sl (Pl (lJ .u8)) 1 (hp qa) q1 qm) (J:Sl (Pl (lJ .u8)) 1 (hp qa) q2 qn) (hm:Gz ql qm qn=some qf) :
  mo true pg0 116 [q0,q1,q2] qa (vB qf):=by
 refine cG 16 func116 Z (λd=>sg (Wa (lr (Wm (bS hm λv T hm=>VE (Eg d call77 (Mu mv T) λW3 d=>Wm (LJ hm (λB E W=>∃x z,lM (hp qa) x∧ST true nf qa W x z∧E 6=vB false∧E 15=vB B) 6 ?_ λB c t=>?_)))))))
 ·rintro a9 E W ⟨x,z,a3,d,q,Q⟩ K
  exact Wg Q (lt (rQ K d))
 refine bC c (λa c=>?_) (λa c=>?_)
 ·refine ug a (lz Z) (ug a (lz Z) (bS c λU M c=>tw a (oG d call43 (Nq mv mv M) λa5 Y h a4 d k g H=>ug a (lz Z) (bS c λs N c=>tw a (Eg d call74 (Bp (H.sl (λ_=>rfl) λb o i=>d.at_ (Ml i)) mv N) λj d=>V (lQ (cB a) Z) ?_)))))
  cases sj c
  exact t _ _ ⟨h,_,k,d.ll (Dr St),Z,Z⟩
 refine un a (un a (un a (un a (un a (V (lN (cB a) Z) ?_)))))
 cases sj c
 exact t _ _ ⟨hp qa,_,lM.refl _,d.ll,Z,Z⟩
end Go.Proofs.YtojmckcglalbnaaGreat
