/- a part of a proof of AuditPasses -/
import Derived.Test.YtojmckcglalbnaaGreatFgp
import Derived.Test.YtojmckcglalbnaaGreatRtUp
import Derived.Test.YtojmckcglalbnaaGreatRows
import Derived.WalkKit
import Derived.ProofKit
import Derived.OpenShut
import Derived.JoinedCond
import Derived.Deep.Slices
import Derived.Carry
import Derived.ChangeArms
import Derived.ChangeSame
import Derived.Test.YtojmckcglalbnaaGreatAP2W4p
set_option linter.all false
namespace Go.Proofs.YtojmckcglalbnaaGreat
open Go.Proofs.Tryz renaming prog → pg0
open Go.RowKit Go.Lib
theorem B8.r {a b:List Int} (h:B8 (a++b)):B8 b:=λx d=>h x (dr _ d)
theorem VU (r:Int×mf):∀(s:List Signed) (n:Nat) (k:Int) (acc:List Signed) (l:List Int),(∀x∈s,Mo x)→0≤k→r.1=k+s.length→r.1≤100→s.length < n→acc.length+s.length≤1000→
  B8 (s.flatMap CY++l)→(s.flatMap CY++l).length≤100000→tP r n k acc (s.flatMap CY++l) false=some (.inr (acc++s,l,false))
 | _,0,_,_,_,_,_,_,_,j,_,_,_=>by omega
 | [],n+1,k,acc,l,_,_,hk,_,_,_,_,_=>by
  rw [tP,aH (by simp at hk ⊢; omega)];simp
 | x::s,n+1,k,acc,l,h,v,hk,a,j,ha,d,t=>by
  have q:=h x rv;have e:(x::s).flatMap CY++l=xb x.lg++((8:Int)::x.Tag)++(s.flatMap CY++l):=by simp [CY]
  have g:B8 (s.flatMap CY++l):=by rw [e] at d; exact d.r
  have i:(s.flatMap CY++l).length≤100000:=by rw [e,aC] at t; omega
  rw [aG] at hk j ha;rw [tP,aO ss,sgW _ d rs,e,ZR q.1 q.2.1];simp only [wr,aA];rw [od ss ss,aA,mM rs rs,VU r s n (k+1) _ l (λy u=>h y (by simp [u])) rs rs a rs ss g i];simp
theorem Xa (r:Int×mf):∀(w:List lh) (n:Nat) (k:Int) (acc:List lh) (l:List Int),(∀x∈w,ou x=true)→0≤k→r.1=k+w.length→r.1≤100→acc.length+w.length≤1000→
  B8 (w.flatMap rl++l)→(w.flatMap rl++l).length≤100000→sC r (n+1+w.length) k acc (w.flatMap rl++l) false=sC r (n+1) (k+w.length) (acc++w) l false
 | [],n,k,acc,l,_,_,hk,_,_,_,_=>by simp
 | x::w,n,k,acc,l,h,v,hk,a,ha,d,s=>by
  have t:=h x rv;have e:(x::w).flatMap rl++l=rl x++(w.flatMap rl++l):=by simp
  have g:B8 (w.flatMap rl++l):=by rw [e] at d; exact d.r
  have i:(w.flatMap rl++l).length≤100000:=by rw [e,aC] at s; omega
  rw [aG] at hk ha;have j:n+1+(x::w).length=(n+1+w.length)+1:=by rw [aG]; omega
  rw [j]
  conv=>lhs; rw [sC]
  rw [aO ss,JS _ d rs,e,D8 t];simp only [wr,aA];rw [od ss ss,aA,mM rs rs,Xa r w n (k+1) _ l (λy u=>h y (by simp [u])) rs rs a ss g i];have q:k+1+(w.length:Int)=k+((x::w).length:Int):=by rw [aG]; omega
  rw [q];simp
def Ny (m:ow) (b:List Int):Prop:=xD m=some b∧B8 b∧b.length≤2000∧vv ⟨b,false⟩=some (.inr (m,⟨[],false⟩))
theorem aak {w:List lh} {s:List Signed} (v:oD ⟨2,0,0,zS,w,s⟩=some true) (hw:∀r∈w,ou r=true) (i:w.length≤16) (q:∀x∈s,Mo x) (h:s.length≤8) :
  vv ⟨Fl w s,false⟩=some (.inr (⟨2,0,0,zS,w,s⟩,⟨[],false⟩)):=by
 have j:=Kw hw i q h;have k:=XN hw i q h;have y:((2:Int)==1)=false:=rfl;unfold vv;rw [Ca _ _ k rs];have e0:Fl w s=2::((w.length:Int)::(w.flatMap rl++(s.length:Int)::s.flatMap CY)):=rfl;rw [e0] at k j ⊢;have a:=k.tail;rw [aG] at j;rw [yq _ _ _ tc tc tc];simp only [wr,aA,y,bB,aB,aK,aR];rw [Ca _ _ a rs,yq _ _ _ rs rs rs];simp only [wr,aA];have d:=a.tail;rw [aG] at j;obtain ⟨n,u⟩:∃n,mZ=n+1+w.length:=⟨mZ-1-w.length,by rw [yP]; omega⟩;have g:=d.r;have t:=j;rw [aC,aG] at t;have step:=Xa ((w.length:Int),⟨w.flatMap rl++(s.length:Int)::s.flatMap CY,false⟩) w n 0 [] ((s.length:Int)::s.flatMap CY) hw tc rv ss ss d rs;rw [←u] at step;rw [step];rw [sC,aH rv,Ca _ _ g (by rw [aG]; omega),yq _ _ _ rs rs rs];simp only [wr,aA];have step2:=VU ((s.length:Int),⟨s.flatMap CY,false⟩) s mZ 0 [] [] q tc rv ss (by rw [yP]; omega) ss (by rw [cN]; exact g.tail) (by rw [cN]; omega);rw [cN] at step2;rw [step2];simp only [aA,bL,v,bM,aB,aK]
theorem N5 {m:ow} (g:oD m=some true) (h:RM m) (J:∀x∈m.nm,B8 x.Tag):∃b,Ny m b:=by
 rcases h with ⟨p,n,rfl,t,hp⟩ | ⟨w,s,rfl,hw,k,I,j⟩ | rfl | rfl | ⟨e,rfl,M,O⟩
 ·have P:=uJ t;have d:0≤p∧p≤2∧p < 128:=by rcases hp with rfl | rfl <;> decide
  have b8:B8 (1::(zU n++[p])):=λy a=>by
   rcases aW.1 a with rfl | a
   ·omega
   rcases bE.1 a with a | a
   ·exact Dp t y a
   ·rw [aV] at a; omega
  have z:(1::(zU n++[p])).length≤2000:=by rw [aG,aC,wz]; simp; omega
  refine ⟨1::(zU n++[p]),?_,b8,z,?_⟩
  ·unfold xD Af;rw [g,aA];simp only [bM,aB,aK,bB,aR];rw [sS tc tc rv,aA,I1 t rv,aA,sS d.1 d.2.2 (by simp [wz]; omega)];simp only [aA,bL];rw [DU (by simp [wz]; omega)];simp
  ·have q:=b8.tail;have u:=q.r;unfold vv;rw [Ca _ _ b8 rs,yq _ _ _ tc tc tc];simp only [wr,aA,bB,aR];rw [LQ _ q (by rw [aG] at z; omega),F1 t];simp only [wr,aA];rw [Ca _ _ u rv,yq _ _ _ d.1 d.2.2 d.2.1];simp only [wr,aA,g,bM,aB,aK]
 ·have i:∀x∈s,Mo x:=λx v=>⟨(I x v).1,(I x v).2,J x v⟩
  exact ⟨Fl w s,abX g hw k i j,XN hw k i j,Kw hw k i j,aak g hw k i j⟩
 ·have b8:B8 [3]:=λy a=>by rw [aV] at a; omega
  refine ⟨[3],?_,b8,tc,?_⟩
  ·unfold xD Af;rw [g,aA];simp only [bM,aB,aK];rw [sS tc tc rv,aA];simp only [show ((3:Int)==1)=false from rfl,show ((3:Int)==2)=false from rfl,show ((3:Int)==5)=false from rfl,aB,aK,aA,bL];rw [DU rv];rfl
  ·unfold vv;rw [Ca _ _ b8 tc,yq _ _ _ tc tc tc];simp only [wr,aA,show ((3:Int)==1)=false from rfl,show ((3:Int)==2)=false from rfl,show ((3:Int)==5)=false from rfl,g,bM,aB,aK]
 ·have b8:B8 [4]:=λy a=>by rw [aV] at a; omega
  refine ⟨[4],?_,b8,tc,?_⟩
  ·unfold xD Af;rw [g,aA];simp only [bM,aB,aK];rw [sS tc tc rv,aA];simp only [show ((4:Int)==1)=false from rfl,show ((4:Int)==2)=false from rfl,show ((4:Int)==5)=false from rfl,aB,aK,aA,bL];rw [DU rv];rfl
  ·unfold vv;rw [Ca _ _ b8 tc,yq _ _ _ tc tc tc];simp only [wr,aA,show ((4:Int)==1)=false from rfl,show ((4:Int)==2)=false from rfl,show ((4:Int)==5)=false from rfl,g,bM,aB,aK]
 ·have b8:B8 [5,e]:=λy a=>by
   rcases aW.1 a with rfl | a
   ·omega
   ·rw [aV] at a; omega
  refine ⟨[5,e],?_,b8,rv,?_⟩
  ·unfold xD Af;rw [g,aA];simp only [bM,aB,aK];rw [sS tc tc rv,aA];simp only [show ((5:Int)==1)=false from rfl,show ((5:Int)==2)=false from rfl,bB,aR,aB,aK];rw [sS rs rs rv];simp only [aA,bL];rw [DU rv];rfl
  ·unfold vv;rw [Ca _ _ b8 rv,yq _ _ _ tc tc tc];simp only [wr,aA,show ((5:Int)==1)=false from rfl,show ((5:Int)==2)=false from rfl,bB,aR,aB,aK];rw [Ca _ _ b8.tail rv,yq _ _ _ rs rs rs];simp only [wr,aA,g,bM,aB,aK]
theorem YR {m:ow} {b:List Int} (h:Ny m b):Cz b=some (m,0):=by
 obtain ⟨_,_,d,a⟩:=h;unfold Cz yE BN;rw [FP rs,aA,a];rfl
theorem T7 (H:Int):∀(l:List Int) (i:Nat) (a:List Int),AA H l i a=vz H l i a
 | [],i,a=>rfl
 | x::l,i,a=>by
  rw [AA,vz];simp only [T7 H l]
end Go.Proofs.YtojmckcglalbnaaGreat
namespace Go.Proofs.YtojmckcglalbnaaGreat
open Go.Proofs.Tryz renaming prog → pg0
open Go.RowKit
def Ax:List lh→Nat
 | []=>0
 | r::l=>5+r.lu.size+r.Word.size+Ax l
theorem Rs:∀(l:List lh) (x:Int),0≤x→x+(Ax l:Int)≤4000000000000000000→xt l x=some (x+(Ax l:Int))
 | [],x,_,_=>by rw [xt,Ax]; simp
 | r::l,x,a,h=>by
  rw [Ax] at h;rw [xt,mM (x:=5+(r.lu.size:Int)) rs rs,mM (x:=5+(r.lu.size:Int)+(r.Word.size:Int)) rs rs,mM rs rs,Rs l _ rs rs,Ax]
  congr 1; omega
theorem Kg (a b:List lh):Ax (a++b)=Ax a+Ax b:=by
 induction a with
 | nil=>simp [Ax]
 | cons r a ih=>rw [bU,Ax,Ax,ih]; omega
theorem Hb:∀l:List lg,20*l.length≤Aj l
 | []=>by simp
 | c::l=>by have:=Hb l; rw [Aj,aG]; omega
structure SQ (s:mD):Prop where
 p:PG s.lm
 go:NH s.lm≤1000000000
 acc:Aj s.lD≤1000000000
 sh:Aj s.Shown≤1000000000
 wl:s.lL.length≤10000000
 al:s.me.length≤10000000
 WI:Ax s.lL≤1000000000
 ask:Ax s.me≤1000000000
 peer:s.mI.size≤1000000000
theorem g20 (s:mD) (h:SQ s):∃r:Int,zz s=some r∧20*(s.lm.lK.length:Int)≤r∧20*(s.lD.length:Int)≤r:=by
 have h1:=h.go;have q:=h.acc;have t:=h.sh;have u:=h.wl;have v:=h.al;have y:=h.WI;have z:=h.ask;have I:=h.peer;obtain ⟨a,d,j,k⟩:=Zm s.lm h1;have g:=g5 s.lD 0 rs rs;have i:=g5 s.Shown 0 rs rs;have c1:=Hb s.lD;have c2:=Hb s.Shown;unfold zz;rw [d,aA,show tB s.lD=_ from g,aA,show tB s.Shown=_ from i,aA];rw [od ss ss,aA,bL,od rs rs,aA];rw [mM (x:=a+(s.mI.size:Int)) rs rs,mM (x:=a+(s.mI.size:Int)+(0+(Aj s.lD:Int))) rs rs,mM rs rs];rw [Rs _ _ rs (by rw [Kg]; omega)];exact ⟨_,Z,rs,rs⟩
theorem ab1 (f:oe→Option Bool) (p:oe→Bool) (l:List oe) (d:l.length≤1000000000) (h:∀a∈l,f a=some (p a)):pu l f=some (l.filter λa=>!p a):=by
 have:pu l f=Ie f XG l:=by
  unfold pu Ie tS;simp only [I8,MH]
 rw [this,Ce _ p XG _ rs h]
theorem XC {l:List oe} (a:l.length≤1000000):sU l=some l:=by
 unfold sU;rw [od ss ss]; rfl
def Ji (l:List oe) (c:lg):List oe:=l.filter λa=>ph ni a.nP c
theorem Pf (l:List oe) (c:lg) (d:l.length≤1000000):yf l c=some (Ji l c):=by
 unfold yf Ji;rw [XC d,aA,tN,ab1 _ (λa=>!ph ni a.nP c) l rs (λa _=>by unfold Cw tq; rw [tN,G8]; rfl)];simp only [fg]
noncomputable def sV (s:mD):lh→Bool:=vD s.lD s.mI
noncomputable def xU (s:mD):List oe:=s.lm.mi.filter λa=>!CB (sV s) a.lB
theorem TU (s:mD) (hp:PB s.lm) (hk:s.lm.mi.length≤1000000) (h:s.lD.length≤30000):zY s=some (xU s):=by
 obtain ⟨m,d,g⟩:=Rz s.lD rs s.mI;unfold zY AR;rw [d,aA,aA,XC hk,aA,tN];rw [ab1 _ (λa=>CB (sV s) a.lB) _ rs (λa ha=>by
  unfold Cq;rw [tN,I4 (sV s) _ (λr=>by unfold xT; rw [tN,g]; rfl) _ (by have:=hp.U7 a ha; unfold Gd; omega)])]
 rfl
theorem Jb (s:mD):∀a∈xU s,a∈s.lm.mi:=λa h=>(cR.1 h).1
def DM:List oe→List lg
 | []=>[]
 | a::l=>a.nP++DM l
theorem KG {n:Nat}:∀{l:List oe},(∀a∈l,a.nP.length≤n)→(DM l).length≤l.length*n
 | [],_=>by rw [DM]; simp
 | a::l,h=>by
  have h1:=h a rv;have g:=KG (l:=l) (λb d=>h b (by simp [d]));rw [DM,aC,aG,Nat.succ_mul]; omega
def HG (k:List oe) (l:List np):List lg:=(l.filter λx=>(Ji k x.Signed.lg).isEmpty).map (·.Signed.lg)
theorem R3:∀(l:List oe) (acc:List lg),acc.length+(DM l).length≤100000000→xn l acc=some (acc++DM l)
 | [],acc,_=>by rw [xn,DM,cN]
 | a::l,acc,h=>by
  rw [DM,aC] at h;rw [xn,od rs rs,aA,R3 l _ (by rw [aC]; omega),DM,aP]
theorem MG (k:List oe) (hk:k.length≤1000000):∀(l:List np) (acc:List lg),acc.length+l.length+(DM k).length≤100000000→vK k l acc=pD (acc++HG k l++DM k)
 | [],acc,h=>by
  rw [vK,R3 _ _ (by simp at h; omega),aA,tN];rw [show HG k []=[] from rfl,cN]
 | x::l,acc,h=>by
  rw [aG] at h;rw [vK,Pf k _ hk,aA];have e:HG k (x::l)=(if (Ji k x.Signed.lg).isEmpty then [x.Signed.lg] else [])++HG k l:=by
   unfold HG;rw [gL];split <;> rfl
  rw [e];cases d:Ji k x.Signed.lg with
  | nil=>
   simp only [cM,List.isEmpty_nil,aR];rw [aO (by rfl),od ss ss,aA,MG k hk l _ ss];simp
  | cons a b=>
   have:(((a::b).length:Int)==0)=false:=by rw [beq_eq_false_iff_ne,aG]; omega
   simp only [this,aB,aK,List.isEmpty_cons];rw [MG k hk l _ rs];simp
structure Sm (p:lm):Prop where
 Bd:p.lK.length≤256
 F6:p.mi.length≤8
 VZ:∀a∈p.mi,a.nP.length≤32
 rel:∀a∈p.mi,nl a.lB≤64
theorem FJ.sm {p:lm} (h:FJ p):Sm p:=by
 have h1:=h.long;unfold NY at h1;simp only [gE,fU,iw,bV] at h1;exact ⟨rs,rs,λa ha=>by have:=h1.2 a ha; omega,λa ha=>(JF (h.F6.1 a ha).2.1).1⟩
noncomputable def NW (s:mD):List lg:=HG (xU s) s.lm.lK++DM (xU s)
theorem V6 (s:mD) (h:Sm s.lm):(NW s).length≤512:=by
 have h1:(xU s).length≤s.lm.mi.length:=cY _ _;have d:=KG (l:=xU s) (λa ha=>h.VZ a (Jb s a ha));have g:(HG (xU s) s.lm.lK).length≤s.lm.lK.length:=by unfold HG; rw [eB]; exact cY _ _
 have i:=h.Bd;have j:=h.F6;unfold NW;rw [aC]; omega
theorem Ze (s:mD) (hp:PB s.lm) (d:Sm s.lm) (g:s.lD.length≤30000):Bn s=pD (NW s):=by
 have h1:(xU s).length≤s.lm.mi.length:=cY _ _;have h:=KG (l:=xU s) (λa ha=>d.VZ a (Jb s a ha));have i:=d.Bd;have j:=d.F6;unfold Bn;rw [TU s hp rs g,aA,MG _ rs _ _ ss,bL];rfl
theorem WB (s:mD) (hp:PB s.lm) (i:Sm s.lm) (q:s.lD.length≤30000) (hw:s.lL.length≤1000000000) :
  ∃o all ws b,Bn s=some o∧xO (NW s) o∧xO o all∧sa s.lL ws∧xv s=some b∧tW b∧b.length≤512∧∀c,c∈b↔AO all ws (.inr (.inr c)):=by
 have hlen:=V6 s i;obtain ⟨o,k,t⟩:=H3 (NW s) rs;have M:=uy Eh t;obtain ⟨all,ws,T,W,R,ha,j,g,y,u⟩:=aaL o s.lL rs hw;have z:=uy Eh ha;obtain ⟨b,O,d⟩:=H3 R (by have:=g.lR; omega);have I:=uy Eh d;have x:=g.lR;have a:∀c∈R,c∈all:=g.sub;have v:=SH ha rs (tt T) (tt W) R a d;refine ⟨o,all,ws,b,(Ze s hp i q).trans k,t,ha,j,?_,⟨d.1,λc J=>((d.2 c).1 J).2⟩,rs,λc=>?_⟩
 ·unfold xv;rw [Ze s hp i q,k,aA,u,aA];simp only;rw [v]; rfl
 ·rw [d.2,←g.acO y];exact ⟨λh=>h.1,λh=>⟨h,((ha.2 c).1 (a c h)).2⟩⟩
mutual
def N7:Formula→List lh
 | ⟨o,k,r,ks⟩=>if o=1 then [r] else JW ks
def JW:List Formula→List lh
 | []=>[]
 | k::ks=>N7 k++JW ks
end
theorem WN (f:Formula):N7 f=if f.Op=1 then [f.lh] else JW f.Kids:=by cases f; rw [N7]
theorem Ty:∀f:Formula,(N7 f).length≤nl f:=by
 refine QZ λf ih=>?_
 have key:∀ks:List Formula,(∀k∈ks,(N7 k).length≤nl k)→(JW ks).length≤nodesL ks:=by
  intro ks
  induction ks with
  | nil=>intro _; rw [JW]; simp
  | cons k ks a=>
   intro h;have h1:=h k rv;have g:=a (λx d=>h x (by simp [d]));rw [JW,aC,nodesL]; omega
 have:=key _ ih;rw [WN,vg];split
 ·simp
 ·omega
theorem WY (rec:Formula→Option (List lh)):∀(ks:List Formula) (acc:List lh),(∀k∈ks,rec k=some (N7 k))→acc.length+(JW ks).length≤100000000→vQ rec ks acc=some (acc++JW ks)
 | [],acc,_,_=>by rw [vQ,JW,cN]
 | k::ks,acc,h,a=>by
  rw [JW,aC] at a;rw [vQ,h k rv,aA,od rs rs,aA,WY rec ks _ (λx d=>h x (by simp [d])) (by rw [aC]; omega),JW,aP]
theorem aaG:∀(n:Nat) (f:Formula),xH f≤n→nl f≤10000000→wx n f=some (N7 f):=by
 intro n
 induction n with
 | zero=>intro f h; rw [uw] at h; omega
 | succ n ih=>
  intro f hd g;rw [uw] at hd;have d:=vg f;have hlen:=Ty f;rw [wx];unfold AV;rw [WN] at *;by_cases c1:f.Op=1
  ·simp only [c1,bB,aR]
  ·have a:(f.Op==1)=false:=by simpa using c1
   simp only [a,aB,aK,c1] at *;rw [WY _ f.Kids [] (λk hk=>ih k (by have:=B2 hk; omega) (by have:=D6 hk; omega)) ss,bL]
theorem ML (f:Formula) (h:nl f≤10000000):∃r,yh f=some r∧sa (N7 f) r∧r.length≤nl f:=by
 have h1:=Ty f;obtain ⟨r,e,a⟩:=Jz (N7 f) rs;have:=uy (HE _) a;refine ⟨r,?_,a,rs⟩;unfold yh;have:=GO f;rw [aaG mZ f (by rw [pI]; omega) h,aA,e]; rfl
def sJ {α:Type} (f:List Int→Int ⊕ (α×List Int)):Nat→List Int→Int ⊕ (List α×List Int)
 | 0,l=>.inr ([],l)
 | n+1,l=>nQ (f l) λx a=>nQ (sJ f n a) λxs d=>.inr (x::xs,d)
def Hi {α:Type} (acc:List α) (x:Int ⊕ (List α×List Int)):Int ⊕ (List α×List Int):=nQ x λxs l=>.inr (acc++xs,l)
theorem PC {α:Type} (acc:List α) (f:List Int→Int ⊕ (α×List Int)) (n:Nat) (l a:List Int) (x:α) (h:f l= .inr (x,a)):Hi acc (sJ f (n+1) l)=Hi (acc++[x]) (sJ f n a):=by
 unfold Hi;rw [sJ,h];simp only [nQ];cases sJ f n a <;> simp
theorem QV {α:Type} (acc:List α) (f:List Int→Int ⊕ (α×List Int)) (n:Nat) (l:List Int) (e:Int) (h:f l= .inl e):Hi acc (sJ f (n+1) l)= .inl e:=by
 unfold Hi; rw [sJ,h]; rfl
theorem RJ {α:Type} (x:Int ⊕ (List α×List Int)):Hi [] x=x:=by cases x <;> rfl
theorem TX (i:Nat) (h:i≤1000000):IntKind.i64.wrap ((i:Int)+1)=((i+1:Nat):Int):=by rw [mM rs rs]; simp
theorem IX (a:Int) (l:List Int) {v:Int} {d:List Int} (h:oH a 0 0 l= .inr (v,d)):0≤v∧v≤a:=O0 a l 0 0 v d ⟨tc,tc⟩ h
end Go.Proofs.YtojmckcglalbnaaGreat
namespace Go.Proofs.YtojmckcglalbnaaGreat
open Go.Proofs.Tryz renaming prog → pg0
open Go.RowKit Go.Lib
noncomputable def GW (m:ow):Bool:=(oD m).getD false
theorem Qd (m:ow) (d:m.nm.length≤100000000):oD m=some (GW m):=by
 obtain ⟨b,a,_⟩:=KL m d;unfold GW;rw [a]; rfl
noncomputable def Il (m:ow) (l:List Int):Int ⊕ (ow×List Int):=if GW m=true then .inr (m,l) else .inl 11
noncomputable def DB (l:List Int):Int ⊕ ((List lh×List Signed)×List Int) :=
 nQ (oH 16 0 0 l) λa d=>nQ (sJ wg a.toNat d) λw g=>nQ (oH 8 0 0 g) λb h=>nQ (sJ AW b.toNat h) λs i=>.inr ((w,s),i)
noncomputable def Im (l:List Int):Int ⊕ (ow×List Int) :=
 nQ (oH zr 0 0 l) λk a=>
  if k=1 then nQ (zM a) λn d=>nQ (oH 2 0 0 d) λp g=>Il ⟨k,p,0,n,[],[]⟩ g
  else if k=2 then nQ (DB a) λws h=>Il ⟨k,0,0,zS,ws.1,ws.2⟩ h
  else if k=5 then nQ (oH 99 0 0 a) λe d=>Il ⟨k,0,e,zS,[],[]⟩ d
  else Il ⟨k,0,0,zS,[],[]⟩ a
theorem PE (l:List Int):DR l (AW l):=(JC _).FT λc a=>(EG 8 _).FT λt d v g e=>by
 split at e
 ·cases e; exact ⟨0,Z⟩
 ·cases e
theorem Tu (r:Int×mf):∀(k:Nat) (acc:List Signed) (i:Nat) (l:List Int) (n:Nat),((i+k:Nat):Int)=r.1→i+k≤10000→B8 l→l.length≤1000000→acc.length+k≤100000→k < n→
  tP r n i acc l false=some (match Hi acc (sJ AW k l) with | .inl e=>.inl (.inl (.inl e)) | .inr (s,u)=>.inr (s,u,false))
 | 0,acc,i,l,n+1,t,_,_,_,_,_=>by
  rw [tP,aH ss];simp [sJ,Hi,nQ]
 | k+1,acc,i,l,n+1,t,hk,d,g,ha,v=>by
  rw [tP,aO ss,sgW l d g];cases a:AW l with
  | inl e=>rw [QV acc AW k l e a]; rfl
  | inr q=>
   obtain ⟨c,h⟩:=q;obtain ⟨h1,j⟩:=d.part g (PE l) a;simp only [aA,wr];rw [od ss ss,aA,TX i rs,PC acc AW k l h c a];exact Tu r k _ (i+1) h n rs rs h1 j ss rs
theorem Qc {α:Type} (f:List Int→Int ⊕ (α×List Int)):∀(n:Nat) (l:List Int) (xs:List α) (a:List Int),sJ f n l= .inr (xs,a)→xs.length=n
 | 0,l,xs,a,h=>by unfold sJ at h; cases h; rfl
 | n+1,l,xs,a,h=>by
  unfold sJ at h;cases d:f l with
  | inl e=>rw [d] at h; cases h
  | inr q=>
   obtain ⟨x,g⟩:=q;rw [d] at h;simp only [nQ] at h;cases hm:sJ f n g with
   | inl e=>rw [hm] at h; cases h
   | inr q=>
    obtain ⟨ys,i⟩:=q;rw [hm] at h;cases h;rw [aG,Qc f n g _ _ hm]
theorem Ug (r:Int×mf):∀(k:Nat) (acc:List lh) (i:Nat) (l:List Int) (n:Nat),((i+k:Nat):Int)=r.1→i+k≤10000→B8 l→l.length≤1000000→acc.length+k≤100000→k < n→
  sC r n i acc l false=some (match nQ (Hi acc (sJ wg k l)) (λw z=>nQ (oH 8 0 0 z) λb g=>nQ (sJ AW b.toNat g) λs t=>.inr ((w,s),t)) with | .inl e=>.inl (.inl e) | .inr (ws,t)=>.inr (0,0,zS,ws.1,ws.2,t,false))
 | 0,acc,i,l,n+1,x,_,a,d,_,_=>by
  rw [sC,aH ss,Ca l 8 a d];simp only [sJ,Hi,nQ,cN];cases u:oH 8 0 0 l with
  | inl e=>rfl
  | inr q=>
   obtain ⟨b,g⟩:=q;obtain ⟨h1,h⟩:=a.part d (vd 8 l 0 0) u;have y:=IX 8 l u;simp only [aA,wr];rw [show (0:Int)=((0:Nat):Int) from rfl,Tu (b,⟨g,false⟩) b.toNat [] 0 g mZ (by show ((0+b.toNat:Nat):Int)=b; omega) rs h1 h ss (by rw [yP]; omega),RJ];cases sJ AW b.toNat g with
   | inl e=>rfl
   | inr q=>rfl
 | k+1,acc,i,l,n+1,x,hk,a,d,ha,y=>by
  rw [sC,aO ss,JS l a d];cases j:wg l with
  | inl e=>rw [QV acc wg k l e j]; rfl
  | inr q=>
   obtain ⟨c,v⟩:=q;obtain ⟨h1,h⟩:=a.part d (xB l) j;simp only [aA,wr];rw [od ss ss,aA,TX i rs,PC acc wg k l v c j];exact Ug r k _ (i+1) v n rs rs h1 h ss rs
theorem PT {l:List Int} {w:List lh} {s:List Signed} {k:List Int} (v:B8 l) (h:DB l= .inr ((w,s),k)):s.length≤8:=by
 unfold DB at h;cases h1:oH 16 0 0 l with
 | inl e=>rw [h1] at h; cases h
 | inr q=>
  obtain ⟨a,t⟩:=q;rw [h1] at h;simp only [nQ] at h;cases i:sJ wg a.toNat t with
  | inl e=>rw [i] at h; cases h
  | inr q=>
   obtain ⟨I,j⟩:=q;rw [i] at h;simp only [nQ] at h;cases d:oH 8 0 0 j with
   | inl e=>rw [d] at h; cases h
   | inr q=>
    obtain ⟨b,u⟩:=q;have hle:=IX 8 j d;rw [d] at h;simp only [nQ] at h;cases g:sJ AW b.toNat u with
    | inl e=>rw [g] at h; cases h
    | inr q=>
     obtain ⟨z,y⟩:=q;rw [g] at h;have x:=Qc AW _ _ _ _ g;cases h;omega
theorem NC (m:ow) (l:List Int) (h:m.nm.length≤100000000):((oD m).bind λr=>(if (!r) then ((nS (⟨l,false⟩:mf) 11).bind λd=>match d with | .inl a=>some (Sum.inl a) | .inr g=>some (Sum.inr ((⟨0,0,0,zS,[],[]⟩:ow),(⟨l,false⟩:mf)))) else some (Sum.inr (m,(⟨l,false⟩:mf)))))=some (wr (Il m l)):=by
 rw [Qd m h,Bx _ 11 tc];unfold Il;cases GW m <;> rfl
theorem ade (l:List Int) (J:B8 l) (M:l.length≤1000000):vv ⟨l,false⟩=some (wr (Im l)):=by
 unfold vv Im;rw [Ca l _ J M];have e0:oH 9223372036854775807 0 0 l=oH zr 0 0 l:=rfl;rw [e0];cases W:oH zr 0 0 l with
 | inl e=>rfl
 | inr q=>
  obtain ⟨k,d⟩:=q;obtain ⟨h1,h⟩:=J.part M (vd zr l 0 0) W;simp only [aA,wr,nQ];by_cases v:k=1
  ·subst v;simp only [bB,aR];rw [LQ d h1 h];cases P:zM d with
   | inl e=>rfl
   | inr q=>
    obtain ⟨n,g⟩:=q;obtain ⟨t,u⟩:=h1.part h (CD d) P;simp only [aA,wr,nQ];rw [Ca g 2 t u];cases hp:oH 2 0 0 g with
    | inl e=>rfl
    | inr q=>
     obtain ⟨p,y⟩:=q;simp only [aA,wr,nQ];exact NC ⟨1,p,0,n,[],[]⟩ y rv
  ·have j:(k==1)=false:=by simpa using v
   by_cases k2:k=2
   ·subst k2;have i:((2:Int)=1)=False:=by simp
    simp only [j,i,aB,aK,bB,aR];rw [Ca d 16 h1 h];cases ha:oH 16 0 0 d with
    | inl e=>
     have:DB d= .inl e:=by unfold DB; rw [ha]; rfl
     rw [this]; rfl
    | inr q=>
     obtain ⟨a,g⟩:=q;obtain ⟨t,u⟩:=h1.part h (vd 16 d 0 0) ha;have hle:=IX 16 d ha;have U:DB d=nQ (Hi [] (sJ wg a.toNat g)) (λw y=>nQ (oH 8 0 0 y) λb Y=>nQ (sJ AW b.toNat Y) λs z=>.inr ((w,s),z)):=by
      unfold DB; rw [ha,RJ]; rfl
     have I:=Ug (a,⟨g,false⟩) a.toNat [] 0 g mZ (by show ((0+a.toNat:Nat):Int)=a; omega) rs t u ss (by rw [yP]; omega);rw [←U] at I;simp only [aA,wr];rw [show (0:Int)=((0:Nat):Int) from rfl,I];cases Q:DB d with
     | inl e=>rfl
     | inr q=>
      obtain ⟨⟨w,s⟩,z⟩:=q;simp only [aA,nQ];exact NC ⟨2,0,0,zS,w,s⟩ z (by have:=PT h1 Q; show s.length≤_; omega)
   ·have i:(k==2)=false:=by simpa using k2
    by_cases x:k=5
    ·subst x;have d1:((5:Int)=1)=False:=by simp
     have d2:((5:Int)=2)=False:=by simp
     simp only [j,i,d1,d2,aB,aK,bB,aR];rw [Ca d 99 h1 h];cases ha:oH 99 0 0 d with
     | inl e=>rfl
     | inr q=>
      obtain ⟨a,g⟩:=q;simp only [aA,wr,nQ];exact NC ⟨5,0,a,zS,[],[]⟩ g rv
    ·have O:(k==5)=false:=by simpa using x
     simp only [j,i,O,v,k2,x,aB,aK,aA];exact NC ⟨k,0,0,zS,[],[]⟩ d rv
abbrev Of:ow:=⟨0,0,0,zS,[],[]⟩
noncomputable def EP (l:List Int):ow×Int:=match Im l with
 | .inl e=>(Of,e)
 | .inr (m,a)=>if a.length > 0 then (Of,13) else (m,0)
theorem Ue (l:List Int) (d:B8 l) (a:l.length≤1000000):Cz l=some (EP l):=by
 unfold Cz yE BN EP;rw [FP a,aA,ade l d a];cases Im l with
 | inl e=>
  by_cases he:e=0
  ·subst he; rfl
  ·have:(e != 0)=true:=by simpa using he
   simp [wr,El,he]
 | inr q=>
  obtain ⟨m,g⟩:=q;by_cases h:g.length > 0
  ·simp [wr,El,h]
  ·simp [wr,El,h]
def vE:Nat→Nat→List Int
 | 0,u=>[(u:Int)]
 | f+1,u=>if u < 128 then [(u:Int)] else ((u % 128+128:Nat):Int)::vE f (u / 128)
theorem SA (a:Int):∀(l:List Int) (i:Nat) (n v:Int) (d:List Int),B8 l→i≤9→oH a i n l= .inr (v,d)→
  ∃u:Nat,v=n+u*128 ^ i∧l=vE (9-i) u++d∧(0 < i→1≤u)∧v≤a
 | [],i,n,v,d,_,_,h=>by cases h
 | c::l,i,n,v,d,t,O,h=>by
  have M:=t c rv;unfold oH at h;split at h
  ·cases h
  rename_i J
  split at h
  ·cases h
  rename_i I
  split at h
  ·rename_i g
   split at h
   ·cases h
   ·rename_i hm
    cases h;refine ⟨c.toNat,?_,?_,λhp=>by omega,rs⟩
    ·rw [show ((c.toNat:Nat):Int)=c % 128 by omega]
    ·obtain ⟨f,j⟩:∃f,9-i=f+1:=⟨8-i,rs⟩;rw [j,vE,aO rs,show ((c.toNat:Nat):Int)=c by omega];rfl
  ·rename_i g
   obtain ⟨u,h1,q,s,z⟩:=SA a l (i+1) _ v d t.tail rs h;have s:=s rs;refine ⟨(c % 128).toNat+128*u,?_,?_,λhp=>by omega,z⟩
   ·rw [h1,Int.pow_succ];have e:(((c % 128).toNat+128*u:Nat):Int)=c % 128+128*u:=by omega
    rw [e,Int.add_mul,Int.add_assoc]
    congr 2
    rw [Int.mul_comm (128 ^ i) 128,←Int.mul_assoc,Int.mul_comm (u:Int) 128]
   ·obtain ⟨f,j⟩:∃f,9-i=f+1:=⟨8-i,rs⟩;have k:9-(i+1)=f:=by omega
    rw [k] at q;rw [j,vE,aH rs,q];have x:(((c % 128).toNat+128*u) % 128+128:Nat)=c.toNat:=by omega
    have y:((c % 128).toNat+128*u) / 128=u:=by omega
    rw [x,y,show ((c.toNat:Nat):Int)=c by omega];rfl
theorem Nk:∀f u:Nat,(vE f u).length≤f+1
 | 0,u=>by simp [vE]
 | f+1,u=>by
  rw [vE];split
  ·simp
  ·rw [aG]; have:=Nk f (u / 128); omega
theorem Uq:∀(f:Nat) (u:Nat) (k:Nat) (l:List Int),u < 128 ^ (f+1)→f < k→l.length+f≤90000→oO k (u:Int) l=some (true,l++vE f u)
 | _,u,0,l,_,hk,_=>by omega
 | 0,u,k+1,l,hu,hk,a=>by
  have hu:u < 128:=by simpa using hu
  rw [oO,aH ss,show IntKind.u8.wrap (u:Int)=(u:Int) from ku _ rs,Ct ss];rfl
 | f+1,u,k+1,l,hu,hk,a=>by
  rw [oO,vE];by_cases h:u < 128
  ·rw [aH ss,aO h,show IntKind.u8.wrap (u:Int)=(u:Int) from ku _ rs,Ct ss];rfl
  ·have hd:u / 128 < 128 ^ (f+1):=by
    rw [kO] at hu;exact gF (by rw [je]; exact hu)
   rw [aO ss,aH h,Yd rs,Ct ss,aA,shV,show (u:Int) / 128=((u / 128:Nat):Int) by omega,Uq f (u / 128) k _ hd rs ss];simp
theorem aa1 {l:List Int} {u:Nat} (hu:u < 9223372036854775808) (a:l.length≤80000):nL l (u:Int)=some (true,l++vE 9 u):=by
 unfold nL;rw [aH rv];exact Uq 9 u mZ l rs (by rw [yP]; omega) rs
theorem PI {u:Nat} (b:List Int) (h1:u < 9223372036854775808):Dq (u:Int) b=some (KP (Hc (vE 9 u++b))):=by
 have a:=Nk 9 u;unfold Dq E9;rw [aa1 h1 rv,aA];simp only [bL];rw [DU rs,aA,aA,Wt,aA];simp only [T7];rw [Up _ (Rj _)];simp
def QQ (b:List Int):List Int:=vE 9 b.length++b
theorem Zk:∀(f u:Nat),u < 128 ^ (f+1)→B8 (vE f u)
 | 0,u,hu=>λx a=>by
  have hu:u < 128:=by simpa using hu
  rw [vE,aV] at a; omega
 | f+1,u,hu=>λx a=>by
  have hd:u / 128 < 128 ^ (f+1):=by
   rw [kO] at hu;exact gF (by rw [je]; exact hu)
  rw [vE] at a;split at a
  ·rw [aV] at a; omega
  ·rcases aW.1 a with rfl | a
   ·omega
   ·exact Zk f (u / 128) hd x a
theorem HH (m:ow):Ab m m=some true:=by
 have a:nc m.nm m.nm (λ(x:(Signed×Signed))=>rn x.1 x.2)=some true:=by
  unfold nc;rw [aH rv];have:∀(r p:List Signed),m.nm=p++r→ml m.nm (λ(x:(Signed×Signed))=>rn x.1 x.2) r p.length=some true:=by
   intro r
   induction r with
   | nil=>intro p e; rw [ml]
   | cons x r ih=>
    intro p e;rw [ml];have d:nY m.nm ((p.length:Nat):Int)=some x:=by
     rw [e,GF]; simp
    rw [d,aA];have g:rn x x=some true:=by
     unfold rn rk;rw [aO (pH.2 Z),oq.2 Z]; rfl
    rw [g,aA];simp only [bM,aB,aK];have:=ih (p++[x]) (by rw [e]; simp);rw [aC] at this;exact this
  exact this m.nm [] Z
 unfold Ab;rw [a,CK,oq.2 Z];simp
theorem MZ {a e:Int}:∀(l:List Int) (i:Nat) (n:Int),oH a i n l= .inl e→e≠0
 | [],i,n,h=>by
  unfold oH at h;cases h;split <;> decide
 | c::l,i,n,h=>by
  unfold oH at h;split at h
  ·cases h; decide
  split at h
  ·cases h; decide
  split at h
  ·split at h
   ·cases h; decide
   ·cases h
  ·exact MZ l _ _ h
theorem aaB {a:Int} {l:List Int} {e:Int} (d:B8 l) (g:l.length≤1000000) (h:oH a 0 0 l= .inl e):e≠0:=MZ l 0 0 h
noncomputable def Ez (l:List Int):Int ⊕ ((Int×List Int×List Int)×List Int) :=
 nQ (oH 1099511627776 0 0 l) λn a=>nQ (wk 2048 a) λb d=>nQ (wk 8 d) λc g=>if (c.length:Int)≠8∨n=0 then .inl 11 else .inr ((n,b,c),g)
noncomputable def vR (l:List Int):Int×ow×Int :=
 if (l.length:Int) > 4096 then (0,Of,12) else match Ez l with
 | .inl e=>(0,Of,e)
 | .inr ((n,b,c),a)=>if a.length > 0 then (0,Of,13) else if c≠KP (Hc (vE 9 n.toNat++b)) then (0,Of,20)
   else if (EP b).2≠0 then (0,Of,(EP b).2) else (n,(EP b).1,0)
theorem Rh {a:Int} {l:List Int} {e:Int} (g:B8 l) (i:l.length≤1000000) (h:wk a l= .inl e):e≠0:=by
 unfold wk at h;cases d:oH zr 0 0 l with
 | inl x=>rw [d] at h; cases h; exact MZ l 0 0 d
 | inr q=>
  rw [d] at h;simp only [nQ] at h;split at h
  ·cases h; decide
  split at h
  ·cases h; decide
  ·cases h
theorem aas (l:List Int) (i:B8 l) (g:l.length≤1000000):match Ez l with
  | .inl e=>e≠0∧∃x y z,zu l=some (x,y,z,e)
  | .inr ((n,b,c),J)=>zu l=some (n,b,c,if J.length > 0 then 13 else 0):=by
 unfold zu zt Cp Ez;rw [FP g,aA,Ca l _ i g];cases t:oH 1099511627776 0 0 l with
 | inl e=>exact ⟨aaB i g t,_,_,_,Z⟩
 | inr q=>
  obtain ⟨n,j⟩:=q;obtain ⟨h1,h⟩:=i.part g (vd _ l 0 0) t;simp only [aA,wr,nQ];rw [QH j _ h1 h];cases u:wk 2048 j with
  | inl e=>exact ⟨Rh h1 h u,_,_,_,Z⟩
  | inr q=>
   obtain ⟨b,v⟩:=q;obtain ⟨k,s⟩:=h1.part h (EG _ j) u;simp only [aA,wr,nQ];rw [QH v _ k s];cases I:wk 8 v with
   | inl e=>exact ⟨Rh k s I,_,_,_,Z⟩
   | inr q=>
    obtain ⟨c,M⟩:=q;simp only [aA,wr,nQ];rw [Bx _ 11 tc];by_cases a:(c.length:Int)=8
    ·by_cases d:n=0
     ·rw [aO (.inr d)];refine ⟨tc,n,b,c,?_⟩;simp [a,d,El,Ps]
     ·rw [aH (by simp [a,d])];simp [a,d,El,Ps]
    ·rw [aO (.inl a)];refine ⟨tc,n,b,c,?_⟩;simp [a,El,Ps,bne]
theorem Iu {a:Int} {l t i:List Int} (j:B8 l) (h:wk a l= .inr (t,i)):l=QQ t++i∧(t.length:Int)≤a∧B8 t:=by
 unfold wk at h;cases d:oH zr 0 0 l with
 | inl e=>rw [d] at h; cases h
 | inr q=>
  obtain ⟨n,g⟩:=q;rw [d] at h;simp only [nQ] at h;split at h
  ·cases h
  split at h
  ·cases h
  rename_i h1 v
  obtain ⟨u,hu,k,_,_⟩:=SA zr l 0 0 n g j rs d;have hu:n=(u:Int):=by rw [hu]; simp
  subst hu;have e:t=g.take u∧i=g.drop u:=by
   have:=bA (λx=>match x with | Sum.inr q=>q | _=>([],[])) h;simp at this;exact ⟨this.1.symm,this.2.symm⟩
  obtain ⟨rfl,rfl⟩:=e;have s:(g.take u).length=u:=by rw [cU]; omega
  refine ⟨?_,rs,?_⟩
  ·unfold QQ;rw [s,aP,gw];exact k
  ·have:B8 g:=λx d=>j x (by rw [k]; exact dr _ d)
   exact this.take _
theorem KX (l:List Int) (I:B8 l) (M:l.length≤1000000):yX l=some (vR l):=by
 unfold yX vR;by_cases h:(l.length:Int) > 4096
 ·simp [h]
 ·rw [aH (by simpa using h),aH h];have hp:=aas l I M;cases a:Ez l with
  | inl e=>
   rw [a] at hp;obtain ⟨he,x,y,z,k⟩:=hp;have t:(e==0)=false:=by simpa using he
   rw [k];simp [t,he]
  | inr q=>
   obtain ⟨⟨n,b,c⟩,P⟩:=q;rw [a] at hp;have k:zu l=some (n,b,c,if P.length > 0 then 13 else 0):=hp;have j:(0≤n∧n≤1099511627776)∧B8 b∧b.length≤2048∧B8 c:=by
    unfold Ez at a;cases hw:oH 1099511627776 0 0 l with
    | inl e=>rw [hw] at a; cases a
    | inr q=>
     obtain ⟨n',Q⟩:=q;have h1:=IX _ l hw;obtain ⟨g,v⟩:=I.part M (vd _ l 0 0) hw;rw [hw] at a;simp only [nQ] at a;cases i:wk 2048 Q with
     | inl e=>rw [i] at a; cases a
     | inr q=>
      obtain ⟨b',l2⟩:=q;obtain ⟨_,h4,U⟩:=Iu g i;obtain ⟨W,_⟩:=g.part v (EG _ Q) i;rw [i] at a;simp only at a;cases s:wk 8 l2 with
      | inl e=>rw [s] at a; cases a
      | inr q=>
       rw [s] at a;simp only at a;split at a
       ·cases a
       ·cases a; exact ⟨h1,U,rs,(Iu W s).2.2⟩
   obtain ⟨⟨t,h1⟩,g,v,Y⟩:=j;rw [k];simp only [aA];by_cases d:P.length > 0
   ·simp [d]
   ·have O:=PI (u:=n.toNat) b rs;rw [show ((n.toNat:Nat):Int)=n by omega] at O;have he:rk c (KP (Hc (vE 9 n.toNat++b)))=some (decide (c=KP (Hc (vE 9 n.toNat++b)))):=by
     unfold rk;rw [OE,OE]
     congr 1
     rw [eC,oq,ZM Y (abr _),decide_eq_true_iff]
    simp only [d,aK,bB,aR,O,he,aA];by_cases J:c=KP (Hc (vE 9 n.toNat++b))
    ·rw [Ue b g rs];simp [J];by_cases hm:(EP b).2=0
     ·simp [hm]
     ·simp [hm]
    ·simp [J]
theorem aaz {l:List Int} (s:B8 l) (O:l.length≤1000000) {n:Int} {b c t:List Int} (a:Ez l= .inr ((n,b,c),t)) :
  (0≤n∧n≤1099511627776)∧B8 b∧b.length≤2048∧B8 c∧c.length=8∧n≠0∧l=vE 9 n.toNat++(QQ b++(QQ c++t)):=by
 unfold Ez at a;cases hw:oH 1099511627776 0 0 l with
 | inl e=>rw [hw] at a; cases a
 | inr q=>
  obtain ⟨Q,j⟩:=q;have h1:=IX _ l hw;obtain ⟨k,v⟩:=s.part O (vd _ l 0 0) hw;obtain ⟨u,hu,J,_,_⟩:=SA _ l 0 0 Q j s rs hw;rw [hw] at a;simp only [nQ] at a;cases d:wk 2048 j with
  | inl e=>rw [d] at a; cases a
  | inr q=>
   obtain ⟨U,P⟩:=q;obtain ⟨z,Y,x⟩:=Iu k d;obtain ⟨y,_⟩:=k.part v (EG _ j) d;rw [d] at a;simp only at a;cases i:wk 8 P with
   | inl e=>rw [i] at a; cases a
   | inr q=>
    obtain ⟨W,l3⟩:=q;obtain ⟨I,h9,g⟩:=Iu y i;rw [i] at a;simp only at a;split at a
    ·cases a
    ·rename_i M
     cases a;refine ⟨h1,x,rs,g,rs,λh=>M (.inr h),?_⟩;have:u=n.toNat:=by rw [hu]; simp
     rw [←this,←I,←z];exact J
theorem P8 {α:Type} (f:List Int→Int ⊕ (α×List Int)) (P:α→Prop) (hp:∀l,DR l (f l)) (k:∀l x a,B8 l→l.length≤1000000→f l= .inr (x,a)→P x):∀(n:Nat) (l:List Int) (xs:List α) (a:List Int),B8 l→l.length≤1000000→sJ f n l= .inr (xs,a)→∀x∈xs,P x
 | 0,l,xs,a,_,_,h=>by unfold sJ at h; cases h; simp
 | n+1,l,xs,a,j,s,h=>by
  unfold sJ at h;cases d:f l with
  | inl e=>rw [d] at h; cases h
  | inr q=>
   obtain ⟨x,i⟩:=q;obtain ⟨h1,t⟩:=j.part s (hp l) d;rw [d] at h;simp only [nQ] at h;cases hm:sJ f n i with
   | inl e=>rw [hm] at h; cases h
   | inr q=>
    obtain ⟨ys,u⟩:=q;have ih:=P8 f P hp k n i ys u h1 t hm;rw [hm] at h;cases h;intro z g;rcases aW.1 g with rfl | g
    ·exact k l _ i j s d
    ·exact ih z g
theorem NM {α:Type} (f:List Int→Int ⊕ (α×List Int)) (hp:∀l,DR l (f l)):∀(n:Nat) (l:List Int),DR l (sJ f n l)
 | 0,l=>λv a e=>by unfold sJ at e; cases e; exact ⟨0,Z⟩
 | n+1,l=>by
  unfold sJ;exact (hp l).FT λx d=>(NM f hp n d).FT λxs g v a e=>by cases e; exact ⟨0,Z⟩
theorem acw (l:List Int) (x:Signed) (k:List Int) (i:B8 l) (j:l.length≤1000000) (h:AW l= .inr (x,k)):B8 x.Tag:=by
 unfold AW at h;cases a:HF l with
 | inl e=>rw [a] at h; cases h
 | inr q=>
  obtain ⟨c,s⟩:=q;obtain ⟨h1,u⟩:=i.part j (JC l) a;rw [a] at h;simp only [nQ] at h;cases d:wk 8 s with
  | inl e=>rw [d] at h; cases h
  | inr q=>
   obtain ⟨t,v⟩:=q;have g:=(Iu h1 d).2.2;rw [d] at h;simp only at h;split at h
   ·cases h; exact g
   ·cases h
def Sh (s:List Signed):Prop:=(∀x∈s,B8 x.Tag)∧s.length≤8
theorem Am:Sh []:=⟨rv,rv⟩
theorem aar {l:List Int} {w:List lh} {s:List Signed} {O:List Int} (j:B8 l) (M:l.length≤1000000) (h:DB l= .inr ((w,s),O)):Sh s:=by
 refine ⟨?_,PT j h⟩;unfold DB at h;cases h1:oH 16 0 0 l with
 | inl e=>rw [h1] at h; cases h
 | inr q=>
  obtain ⟨a,k⟩:=q;obtain ⟨u,v⟩:=j.part M (vd _ l 0 0) h1;rw [h1] at h;simp only [nQ] at h;cases d:sJ wg a.toNat k with
  | inl e=>rw [d] at h; cases h
  | inr q=>
   obtain ⟨W,t⟩:=q;obtain ⟨y,z⟩:=u.part v (NM wg xB _ k) d;rw [d] at h;simp only [nQ] at h;cases g:oH 8 0 0 t with
   | inl e=>rw [g] at h; cases h
   | inr q=>
    obtain ⟨b,P⟩:=q;obtain ⟨I,J⟩:=y.part z (vd _ t 0 0) g;rw [g] at h;simp only [nQ] at h;cases i:sJ AW b.toNat P with
    | inl e=>rw [i] at h; cases h
    | inr q=>
     obtain ⟨U,Q⟩:=q;have:=P8 AW (λx=>B8 x.Tag) PE acw _ _ _ _ I J i;rw [i] at h;cases h;exact this
theorem abg {l:List Int} {m:ow} {g:List Int} (x:B8 l) (y:l.length≤1000000) (h:Im l= .inr (m,g)):Sh m.nm:=by
 have d:∀{m u:ow} {l g:List Int},Il m l= .inr (u,g)→u=m:=λ{m u l g} h=>by
  unfold Il at h;split at h
  ·cases h; rfl
  ·cases h
 unfold Im at h;cases j:oH zr 0 0 l with
 | inl e=>rw [j] at h; cases h
 | inr q=>
  obtain ⟨k,t⟩:=q;obtain ⟨h1,v⟩:=x.part y (vd zr l 0 0) j;rw [j] at h;simp only [nQ] at h;split at h
  ·cases a:zM t with
   | inl e=>rw [a] at h; cases h
   | inr q=>
    obtain ⟨n,z⟩:=q;rw [a] at h;simp only [nQ] at h;cases hp:oH 2 0 0 z with
    | inl e=>rw [hp] at h; cases h
    | inr q=>rw [hp] at h; rw [d h]; exact Am
  split at h
  ·cases i:DB t with
   | inl e=>rw [i] at h; cases h
   | inr q=>
    obtain ⟨⟨w,s⟩,I⟩:=q;rw [i] at h;rw [d h];exact aar h1 v i
  split at h
  ·cases a:oH 99 0 0 t with
   | inl e=>rw [a] at h; cases h
   | inr q=>rw [a] at h; rw [d h]; exact Am
  ·rw [d h]; exact Am
theorem X4 {l:List Int} (a:B8 l) (d:l.length≤1000000):Sh (EP l).1.nm:=by
 unfold EP;cases h:Im l with
 | inl e=>exact Am
 | inr q=>
  obtain ⟨m,g⟩:=q;simp only;split
  ·exact Am
  ·exact abg a d h
theorem abb {l:List Int} (a:B8 l) (d:l.length≤1000000):Sh (vR l).2.1.nm:=by
 unfold vR;split
 ·exact Am
 ·cases h:Ez l with
  | inl e=>exact Am
  | inr q=>
   obtain ⟨⟨n,b,c⟩,i⟩:=q;obtain ⟨_,h1,g,_⟩:=aaz a d h;simp only;split
   ·exact Am
   split
   ·exact Am
   split
   ·exact Am
   ·exact X4 h1 rs
theorem aan {l:List Int} (h:(vR l).2.2≠0):(vR l).2.1.nm=[]∧(vR l).1=0:=by
 revert h
 unfold vR;split
 ·intro _; exact ⟨Z,Z⟩
 ·cases Ez l with
  | inl e=>intro _; exact ⟨Z,Z⟩
  | inr q=>
   obtain ⟨⟨n,b,c⟩,a⟩:=q;simp only;split
   ·intro _; exact ⟨Z,Z⟩
   split
   ·intro _; exact ⟨Z,Z⟩
   split
   ·intro _; exact ⟨Z,Z⟩
   ·intro h; exact absurd Z h
theorem P3 (a:Int) (l:List Int):∀(f u i:Nat) (n:Int),u < 128 ^ (f+1)→i≤8→u < 128 ^ (9-i)→(0 < i→1≤u)→n+u*128 ^ i≤a→oH a i n (vE f u++l)= .inr (n+u*128 ^ i,l)
 | 0,u,i,n,hu,k,_,h1,hm=>by
  have hu:u < 128:=by simpa using hu
  have e:((u:Nat):Int) % 128=u:=by omega
  rw [vE,eV,oH,aH rs,aH rs,aO rs,e,aH rs]
 | f+1,u,i,n,hu,k,d,h1,hm=>by
  rw [vE];by_cases h:u < 128
  ·have e:((u:Nat):Int) % 128=u:=by omega
   rw [aO h,eV,oH,aH rs,aH rs,aO rs,e,aH rs]
  ·have q:i≤7:=by
    apply Nat.le_of_not_lt;intro s;have:i=8:=by omega
    subst this;simp at d; omega
   have hd:u / 128 < 128 ^ (f+1):=by
    rw [kO] at hu;exact gF (by rw [je]; exact hu)
   have g:u / 128 < 128 ^ (9-(i+1)):=by
    have e:9-i=(9-(i+1))+1:=by omega
    rw [e,kO] at d;exact gF (by rw [je]; exact d)
   have e0:((u % 128+128:Nat):Int) % 128=((u % 128:Nat):Int):=by omega
   have j:n+((u % 128:Nat):Int)*128 ^ i+((u / 128:Nat):Int)*128 ^ (i+1)=n+(u:Int)*128 ^ i:=by
    rw [Int.pow_succ,Int.add_assoc,Int.mul_comm ((128:Int) ^ i) 128,←Int.mul_assoc,←Int.add_mul]
    congr 2
    omega
   rw [aH h,bU,oH,aH rs,aH rs,aH rs,e0,P3 a l f (u / 128) (i+1) _ hd rs g (λ_=>by omega) (by rw [j]; exact hm),j]
theorem aa6 {a:Int} {u:Nat} (hu:u < 9223372036854775808) (hm:(u:Int)≤a) (l:List Int):oH a 0 0 (vE 9 u++l)= .inr ((u:Int),l):=by
 have:=P3 a l 9 u 0 0 rs rs rs rs (by simpa using hm);simpa using this
theorem V8 {m:ow} {u:Nat} (J:1≤u) (h1:u≤1099511627776) (I:oD m=some true) {b:List Int} (h:Ny m b) :
  ∃F,Ci (u:Int) m=some F∧F.length≠0∧F.length≤2200∧B8 F∧vR F=((u:Int),m,0):=by
 obtain ⟨t,a,k,z⟩:=h;have M:=Nk 9 u;have hd:(KP (Hc (vE 9 u++b))).length=8:=rfl;have v:=PI b (show u < 9223372036854775808 by omega);generalize s:KP (Hc (vE 9 u++b))=S at v hd;have j:B8 S:=by rw [←s]; exact abr _
 have t1:=P4 b;have t2:=P4 S;have i:B8 (vE 9 u):=Zk 9 u rs;have g:(vE 9 u++(zQ b++zQ S)).length≤2200:=by rw [aC,aC]; omega
 have d:B8 (vE 9 u++(zQ b++zQ S)):=i.Mr ((Xt a rs).Mr (Xt j rs));refine ⟨vE 9 u++(zQ b++zQ S),?_,?_,g,d,?_⟩
 ·unfold Ci Hq;rw [I,aA,t];have c1:decide ((u:Int) < 1)=false:=by simp; omega
  have c2:decide ((u:Int) > 1099511627776)=false:=by simp; omega
  have y:decide ((b.length:Int) > 2048)=false:=by simp; omega
  simp only [bM,aB,aK,aA,c1,c2,y];rw [aa1 rs rv,aA];simp only [bL];rw [To rs rs,aA,v,aA];simp only [];rw [To rs (by rw [aC]; omega),aA];simp only [];rw [DU (by rw [aP]; omega),aP];rfl
 ·have:(zQ S).length≥8:=by unfold zQ; rw [aC]; omega
  rw [aC,aC]; omega
 ·have hp:Ez (vE 9 u++(zQ b++zQ S))= .inr (((u:Int),b,S),[]):=by
   unfold Ez;rw [aa6 rs rs];simp only [nQ];rw [T5 _ _ _ rs rs];simp only [nQ];have x:=T5 8 S [] rs rs;rw [cN] at x;rw [x];simp only [nQ];rw [aH rs]
  have q:EP b=(m,0):=by
   have:=Ue b a rs;rw [YR ⟨t,a,k,z⟩] at this;exact (gQ this).symm
  unfold vR;rw [aH rs,hp];simp only [cM,gt_iff_lt,Nat.lt_irrefl,aK,dZ,s,ne_eq,not_true_eq_false,q]
theorem acm (b:List Int):tL [b] (λx=>vx x)=some (if b.length=0 then [] else [b]):=by
 unfold tL wN;rw [pY];unfold vx;by_cases h:b.length=0
 ·obtain rfl:b=[]:=by cases b with | nil=>rfl | cons a l=>simp at h
  obtain ⟨k,hk⟩:∃k,mZ=k+1:=⟨_,pI⟩;have e:((([]:List Int).length:Int)==0)=true:=rfl;simp only [e,aA,aR];rw [aH tc,hk,pQ,aH tc];rfl
 ·have e:((b.length:Int)==0)=false:=by simpa using h
  simp only [e,aA,aB,aK,h];rw [pY];rfl
theorem Ou (w c:Bool) (n a tr l ti:Int) (la:List Int) (go:Int) (h:la.length≤1000000):xY w c n a tr l ti la go=some la:=by
 unfold xY;rw [FP h]; rfl
theorem aaw {m:ow} {u:Nat} (d:1≤u) (h1:u≤1099511627776) (a:oD m=some true) {b:List Int} (h:Ny m b) (s tr l ti:Int) (la:List Int) (go:Int) :
  ∃F,wQ true false (u:Int) s tr l ti la go m=some (F,0,false,((u+1:Nat):Int),tr,0,F)∧F.length≠0∧F.length≤2200∧B8 F∧vR F=((u:Int),m,0):=by
 obtain ⟨F,q,g,i,j,k⟩:=V8 d h1 a h;refine ⟨F,?_,g,i,j,k⟩;have e:IntKind.i64.wrap ((u:Int)+1)=((u+1:Nat):Int):=by rw [mM rs rs]; omega
 have c:decide ((u:Int) > 1099511627776)=false:=by simp; omega
 unfold wQ;simp only [bM,aB,aK,aA,a,c,q,e];rw [Ou _ _ _ _ _ _ _ _ _ rs];rfl
theorem ZK {w c:Bool} (h:w=false∨c=true) (n a tr l ti:Int) (la:List Int) (go:Int) (m:ow):wQ w c n a tr l ti la go m=some ([],43,w,n,l,ti,la):=by
 unfold wQ;rcases h with rfl | rfl
 ·simp
 ·cases w <;> simp
theorem Rk {la:List Int} {l:Nat} (w c:Bool) (n d tr ti go:Int) (g:l≤1000) (h:la.length≤1000000) :
  xK w c n d tr (l:Int) ti la go=some (if la.length=0∨l=0 then ([],false,(l:Int),ti) else (la,true,((l-1:Nat):Int),0)):=by
 unfold xK;by_cases a:la.length=0
 ·simp [a]
 ·by_cases h1:l=0
  ·simp [a,h1]
  ·have e:IntKind.i64.wrap ((l:Int)-1)=((l-1:Nat):Int):=by rw [mM rs rs]; omega
   have c1:((la.length:Int)==0)=false:=by simpa using a
   have c2:decide ((l:Int)≤0)=false:=by simp; omega
   simp only [c1,c2,aB,aK,aA,e];rw [Ou _ _ _ _ _ _ _ _ _ h,aH (by simp [a,h1])];rfl
def Gg (b:List Int):List (List Int):=if b.length=0 then [] else [b]
theorem E1 (S:mD) (T:pj) (f:Formula) (g:Option mc) (w c:Bool) (n a tr l ti:Int) (la:List Int) (go st e:Int) (be:Bool) (tk:Int) (se:Nat) (d:se≤1000000) (b:List Int) :
  pW S T f g w c n a tr l ti la go st e be tk (se:Int) [b]=some (Gg b,((se+(Gg b).length:Nat):Int)):=by
 unfold pW;rw [acm,aA];have h:(Gg b).length≤1:=by unfold Gg; split <;> simp
 show some (Gg b,IntKind.i64.wrap ((se:Int)+((Gg b).length:Int)))=_;rw [mM rs rs]
 congr 2
theorem Ks {m:ow} {u:Nat} (i:1≤u) (h1:u≤1099511627776) (v:oD m=some true) {b:List Int} (h:Ny m b) (S:mD) (T:pj) (f:Formula) (g:Option mc) (d tr l ti:Int) (la:List Int) (go st e:Int) (be:Bool) (tk:Int) (se:Nat) (x:se≤1000000) :
  ∃F,oy S T f g true false (u:Int) d tr l ti la go st e be tk (se:Int) m=some ([F],false,((u+1:Nat):Int),tr,0,F,((se+1:Nat):Int))∧F.length≠0∧F.length≤2200∧B8 F∧vR F=((u:Int),m,0):=by
 obtain ⟨F,s,a,j,k,q⟩:=aaw i h1 v h d tr l ti la go;refine ⟨F,?_,a,j,k,q⟩;have t:Gg F=[F]:=by unfold Gg; rw [aH a]
 unfold oy;rw [s,aA];simp only;rw [E1 _ _ _ _ _ _ _ _ _ _ _ _ _ _ _ _ _ se x,t];rfl
theorem abB {w c:Bool} (h:w=false∨c=true) (S:mD) (T:pj) (f:Formula) (g:Option mc) (n d tr l ti:Int) (la:List Int) (go st e:Int) (be:Bool) (tk:Int) (se:Nat) (a:se≤1000000) (m:ow) :
  oy S T f g w c n d tr l ti la go st e be tk (se:Int) m=some ([],w,n,l,ti,la,(se:Int)):=by
 unfold oy;rw [ZK h,aA];simp only;rw [E1 _ _ _ _ _ _ _ _ _ _ _ _ _ _ _ _ _ se a];rfl
theorem WQ {e:Int} (h1:1≤e) (a:e≤99):oD ⟨5,0,e,zS,[],[]⟩=some true:=by
 unfold oD AT;have d:=HH ⟨5,0,e,zS,[],[]⟩;simp [d,h1,a]
theorem Po {k:Int} (h:k=3∨k=4):oD ⟨k,0,0,zS,[],[]⟩=some true:=by
 unfold oD AT;rcases h with rfl | rfl
 ·have a:=HH ⟨3,0,0,zS,[],[]⟩;simp [a]
 ·have a:=HH ⟨4,0,0,zS,[],[]⟩;simp [a]
theorem ac0 {e:Int} (h1:1≤e) (a:e≤99):∃b,Ny ⟨5,0,e,zS,[],[]⟩ b:=N5 (WQ h1 a) (.inr (.inr (.inr (.inr ⟨e,Z,h1,a⟩)))) rv
theorem Zu {k:Int} (h:k=3∨k=4):∃b,Ny ⟨k,0,0,zS,[],[]⟩ b:=by
 refine N5 (Po h) ?_ rv;rcases h with rfl | rfl
 ·exact .inr (.inr (.inl Z))
 ·exact .inr (.inr (.inr (.inl Z)))
theorem HP {e0:Int} (h1:1≤e0) (a:e0≤99) {u:Nat} (h:1≤u) (hu:u≤1099511627776) (S:mD) (T:pj) (f:Formula) (g:Option mc) (d tr l ti:Int) (la:List Int) (go st e:Int) (be:Bool) (tk:Int) (se:Nat) (q:se≤1000000) :
  ∃F,nA S T f g true false (u:Int) d tr l ti la go st e be tk (se:Int) e0=some ([F],false,true,((u+1:Nat):Int),tr,0,F,3,e0,((se+1:Nat):Int))∧F.length≠0∧F.length≤2200∧B8 F∧vR F=((u:Int),⟨5,0,e0,zS,[],[]⟩,0):=by
 obtain ⟨b,k⟩:=ac0 h1 a;obtain ⟨F,j,i⟩:=Ks h hu (WQ h1 a) k S T f g d tr l ti la go st e be tk se q;refine ⟨F,?_,i⟩;unfold nA BP;simp only [aA,aR,j];rfl
theorem VC {c:Bool} {e0:Int} (S:mD) (T:pj) (f:Formula) (g:Option mc) (n a tr l ti:Int) (la:List Int) (go st e:Int) (be:Bool) (tk se:Int) :
  nA S T f g false c n a tr l ti la go st e be tk se e0=some ([],false,true,n,l,ti,la,3,e0,se):=by
 unfold nA BP;simp only [aA,aB,aK];rfl
end Go.Proofs.YtojmckcglalbnaaGreat
namespace Go.Proofs.YtojmckcglalbnaaGreat
open Go.Proofs.Tryz renaming prog → pg0
open Go.RowKit
theorem PW (s:mD) (hp:PB s.lm) (ha:s.lD.length≤30000) (k:List oe) (hk:k.length≤1000000) (c:lg):∀(l:List oe) (acc:List lh),(∀a∈l,nl a.lB≤64)→acc.length+l.length*64≤10000→
  ∃r,wU k c s l acc=some r∧r.length≤10064
 | [],acc,_,h=>by
  have j:=Hv s.lm c;obtain ⟨r,e,_,d⟩:=ML (rH s.lm c).1 rs;rw [wU,Pf k c hk,aA,WA s hp ha,KW _ hp];simp only [aA,e];by_cases c1:((Ji k c).length:Int) > 0
  ·simp only [c1,cK,aR,aA];exact ⟨acc,Z,by simp at h; omega⟩
  ·simp only [c1,cX,aB,aK,aA];cases FH s.lm (vD s.lD s.mI) c
   ·simp only [aB,aK];by_cases c2:((rH s.lm c).2 != 0)=true
    ·rw [aO c2]; exact ⟨[],Z,rv⟩
    ·rw [aH c2]; exact ⟨r,Z,rs⟩
   ·simp only [aR];exact ⟨acc,Z,by simp at h; omega⟩
 | a::l,acc,d,h=>by
  rw [aG] at h;have h1:=d a rv;obtain ⟨r,e,_,i⟩:=ML a.lB rs;rw [wU,e,aA,od rs rs,aA];exact PW s hp ha k hk c l _ (λx g=>d x (by simp [g])) (by rw [aC]; omega)
theorem aam (s:mD) (hp:PB s.lm) (d:Sm s.lm) (ha:s.lD.length≤30000) (c:lg):∃r,CH s (xU s) c=some r∧r.length≤10064:=by
 have h1:(xU s).length≤s.lm.mi.length:=cY _ _;have g:(Ji (xU s) c).length≤(xU s).length:=cY _ _;have i:=d.F6;unfold CH;rw [Pf _ c rs,aA];exact PW s hp ha _ rs c _ [] (λa h=>d.rel a (Jb s a (cR.1 h).1)) ss
theorem TL (s:mD) (hp:PB s.lm) (d:Sm s.lm) (ha:s.lD.length≤30000):∀(l:List lg) (acc:List lh),acc.length+l.length*10064≤10000000→∃q r,wR s (xU s) l acc=some r∧sa q r∧r.length≤10000000
 | [],acc,h=>by
  obtain ⟨r,e,a⟩:=Jz acc rs;have:=uy (HE _) a;exact ⟨acc,r,by rw [wR,e]; rfl,a,rs⟩
 | c::l,acc,h=>by
  rw [aG] at h;obtain ⟨r,e,a⟩:=aam s hp d ha c;rw [wR,e,aA,od rs rs,aA];exact TL s hp d ha l _ (by rw [aC]; omega)
theorem abE (s:mD) (hp:PB s.lm) (a:Sm s.lm) (ha:s.lD.length≤30000) (hw:s.lL.length≤1000000000):∃q r,Ay s=some r∧sa q r∧r.length≤10000000:=by
 obtain ⟨o,all,ws,b,_,_,_,_,e,_,d,_⟩:=WB s hp a ha hw;unfold Ay;rw [TU s hp (by have:=a.F6; omega) ha,aA,e,aA];exact TL s hp a ha b [] ss
theorem XR (n:Nat) (a:n≤1000000000):xG (n:Int)=some []:=by
 unfold xG;rw [aH rv];have e0:IntKind.i64.wrap (0-0)=0:=by decide
 rw [e0,Int.sub_zero,mM rs rs];by_cases h:(n:Int) > 0
 ·rw [aO (by simpa using h)];unfold JP;rw [aO ⟨rs,rs,by unfold maxLen; omega⟩];simp [rj]
 ·rw [aH (by simpa using h)]; rfl
theorem Pp (a b:List lh) (h:a.length+b.length≤1000000000):uS [a,b]=some (a++b):=by
 unfold uS;rw [te,mM rs rs,aH rv,te,mM rs rs,aH ss,te];rw [show (0:Int)+(a.length:Int)+(b.length:Int)=((a.length+b.length:Nat):Int) by omega,XR _ h];simp only [aA];rw [sY,od ss ss];simp only [aA,bL];rw [sY,od rs rs];simp only [aA];rw [sY];rfl
theorem Tj (x:lh):∀(l:List lh) (i:Nat),∃q:Int,vt x l i=some q∧(q≥0↔x∈l)
 | [],i=>⟨-1,Z,rv⟩
 | y::l,i=>by
  rw [vt];by_cases h:mq x y=true
  ·rw [aO h]; exact ⟨i,Z,by rw [mw.1 h]; simp⟩
  ·rw [aH h];obtain ⟨q,e,a⟩:=Tj x l (i+1);refine ⟨q,e,a.trans ?_⟩;have:x≠y:=λe=>h (mw.2 e)
   simp [this]
theorem aac (l:List lh) (x:lh):GC l x=some (ph mq l x):=by
 obtain ⟨q,e,a⟩:=Tj x l 0;unfold GC Ai BD;rw [e,aA,aA]
 congr 1
 rw [eC,bV,a,xx mw]
theorem abF (l:List lh) (h:l.length≤1000000000):((rj (decide (0≤(if 16 < (l.length:Int) then 16 else (l.length:Int)))&&decide ((if 16 < (l.length:Int) then 16 else (l.length:Int))≤(l.length:Int)))).bind λ_=>some (l.take (Int.toNat (if 16 < (l.length:Int) then 16 else (l.length:Int)))))=some (l.take 16):=by
 by_cases c:16 < (l.length:Int)
 ·rw [aO c,B1 rs rs,aA]; rfl
 ·rw [aH c,B1 rs rs,aA,show Int.toNat (l.length:Int)=l.length by omega,kw,dy rs]
theorem Wc {l:List lh} (h:sa l l) (a:l.length≤1000000000):ue l=some l:=by
 obtain ⟨s,e,d⟩:=Jz l a;rw [e,zm.unique (HE _) d h]
theorem sa.self {q l:List lh} (h:sa q l):sa l l:=⟨h.1,λx=>⟨λa=>⟨a,((h.2 x).1 a).2⟩,λa=>a.1⟩⟩
theorem sa.filter {l:List lh} (h:sa l l) (p:lh→Bool):sa (l.filter p) (l.filter p):=⟨h.1.filter _,λx=>⟨λa=>⟨a,((h.2 x).1 (cR.1 a).1).2⟩,λa=>a.1⟩⟩
theorem sa.take {l:List lh} (h:sa l l) (n:Nat):sa (l.take n) (l.take n):=⟨h.1.sublist (List.take_sublist n l),λx=>⟨λa=>⟨a,((h.2 x).1 (eJ a)).2⟩,λa=>a.1⟩⟩
theorem acK (s:mD) (hp:PB s.lm) (j:Sm s.lm) (ha:s.lD.length≤30000) (hw:s.lL.length≤1000000000) (own:List lh) (i:own.length≤1000) {nd:List lh} (d:Ay s=some nd) (h:nd.length≤10000000) :
  ∃u,sa (nd++own) u∧Bv s own=some ((u.filter λr=>!ph mq s.me r).take 16):=by
 obtain ⟨u,e,hu⟩:=Jz (nd++own) (by rw [aC]; omega);have a:=uy (HE _) hu;rw [aC] at a;have g:(u.filter λr=>!ph mq s.me r).length≤u.length:=cY _ _;refine ⟨u,hu,?_⟩;unfold Bv;rw [d,aA,Pp _ _ rs,aA,e,aA,Si,Ce _ (λr=>ph mq s.me r) zR u rs (λr _=>by unfold DS; rw [tN,aac]),aA,abF _ rs]
theorem abv (s:mD) {fr b:List lg} (e:wA s.lm s.lD s.mI=some fr) (g:fr.length≤1000000) (a:xv s=some b) :
  Az s=some (((fr.filter λc=>!ph ni s.Shown c).filter λc=>ph ni b c).take 8):=by
 have h1:(fr.filter λc=>!ph ni s.Shown c).length≤fr.length:=cY _ _;have d:((fr.filter λc=>!ph ni s.Shown c).filter λc=>ph ni b c).length≤(fr.filter λc=>!ph ni s.Shown c).length:=cY _ _;unfold Az;rw [a,aA,Rf s e rs,aA,Jw,Ce _ (λc=>!ph ni b c) zC _ rs (λc _=>by unfold Dk tq; rw [tN,G8]; rfl)];simp only [fg,aA];rw [Y9 _ rs]
def ZA (s:mD) (sh:List lg) (k:List lh):mD:=⟨s.lm,s.mI,s.Room,s.lD,sh,s.lL,k⟩
theorem acD (s:mD) (hp:PB s.lm) (O:FJ s.lm) (ha:s.lD.length≤30000) (hw:s.lL.length≤1000000000) (v:s.Shown.length≤100000) (hk:s.me.length≤100000000) (own:List lh) (ho:own.length≤1000) :
  ∃b sh w t k,xv s=some b∧Bv s own=some w∧Az s=some sh∧tW sh∧sh.length≤8∧(∀c∈sh,G9 s.lm s.lD s.mI c∧c∉s.Shown∧c∈b)∧sa w w∧w.length≤16∧(∀r∈w,r∉s.me)∧
   xO (s.Shown++sh) t∧sa (s.me++w) k∧xV s own=some (⟨2,0,0,zS,w,Dj s.lm sh⟩,0,ZA s t k):=by
 have g:=O.sm;obtain ⟨o,all,ws,b,_,_,_,_,z,a1,a6,_⟩:=WB s hp g ha hw;obtain ⟨q,nd,W,_,hn⟩:=abE s hp g ha hw;obtain ⟨u,hu,y⟩:=acK s hp g ha hw own ho W hn;obtain ⟨fr,Q,hf,hm,hlen⟩:=Y7 s.lm hp s.lD rs s.mI;have d:=g.Bd;have es:=abv s Q rs z;have a:∀c∈((fr.filter λc=>!ph ni s.Shown c).filter λc=>ph ni b c).take 8,G9 s.lm s.lD s.mI c∧c∉s.Shown∧c∈b:=λc d=>by
  have h1:=cR.1 (eJ d);have I:=cR.1 h1.1;refine ⟨(hm c).1 I.1,λh=>?_,(xx pH b c).1 h1.2⟩;have J:=I.2;rw [(xx pH _ c).2 h] at J;cases J
 have P:tW (((fr.filter λc=>!ph ni s.Shown c).filter λc=>ph ni b c).take 8):=((hf.filter _).filter _).take 8;have M:(((fr.filter λc=>!ph ni s.Shown c).filter λc=>ph ni b c).take 8).length≤8:=by rw [cU]; omega
 have hW:sa ((u.filter λr=>!ph mq s.me r).take 16) ((u.filter λr=>!ph mq s.me r).take 16):=((sa.self hu).filter _).take 16;have i:((u.filter λr=>!ph mq s.me r).take 16).length≤16:=by rw [cU]; omega
 have j:∀r∈(u.filter λr=>!ph mq s.me r).take 16,r∉s.me:=λr hr h=>by
  have h1:=(cR.1 (eJ hr)).2;rw [(xx mw _ r).2 h] at h1;cases h1
 generalize ((fr.filter λc=>!ph ni s.Shown c).filter λc=>ph ni b c).take 8=sh at *;generalize (u.filter λr=>!ph mq s.me r).take 16=w at *;obtain ⟨t,ht,Y⟩:=NX s hp ha (λx hx=>by have:=(O.Bd.1 x hx).1; omega) sh M P (λc d=>(a c d).1.1) (λc d=>(a c d).1.2.2) v;obtain ⟨k,U,hK⟩:=Jz (s.me++w) (by rw [aC]; omega);refine ⟨b,sh,w,t,k,z,y,es,P,M,a,hW,i,j,ht,hK,?_⟩;unfold xV;rw [y,aA,es,aA,show (⟨⟨s.lm.Name,s.lm.lK,s.lm.mi⟩,s.mI,s.Room,s.lD,s.Shown,s.lL,s.me⟩:mD)=s from rfl,Y,aA];simp only [eQ,aB,aK];rw [show (Li s t).me=s.me from rfl,Pp _ _ rs,aA,U,aA];rfl
theorem XA (w:List lh) (hw:sa w w) (d:w.length≤16) (l:List Signed) (h:l.length≤8) (i:∀x∈l,nH x.lg=true∧x.Tag.length=8) (hp:l.Pairwise λa b=>Mn a.lg b.lg=true):oD ⟨2,0,0,zS,w,l⟩=some true:=by
 have g:AT ⟨2,0,0,zS,w,l⟩=some ⟨2,0,0,zS,w,l⟩:=rfl;have h1:Bz w=some true:=by
  unfold Bz;rw [aO (by simpa using (by omega:(w.length:Int)≤16)),Wc hw rs,aA,CK];simp
 have j:FF l=some true:=RU l h i hp l [] Z;unfold oD;rw [g,aA,aao,aA];have q1:((2:Int)==1)=false:=rfl;simp only [bM,aB,aK,q1,bB,aR];rw [h1,j];rfl
theorem acU (a b:List Int):∃r,rk a b=some r:=⟨_,Z⟩
theorem V9 (ks:List Key) (d:BI [] ks=0) (s:Signed):∃e,ul (some ⟨sr ks⟩) s=some e:=by
 unfold ul;rw [kof];simp only [aA];cases a:nH s.lg
 ·exact ⟨11,Z⟩
 simp only [aR];cases g:OS ks s.lg.Head.lu with
 | none=>exact ⟨21,Z⟩
 | some k=>
  have hm:Mk ks s.lg k:=⟨d,a,g⟩;obtain ⟨q,eq⟩:=acU (YO k (xb s.lg)) s.Tag;have i:Gz k (xb s.lg) s.Tag=some q:=by
   unfold Gz;have h:Ae k=some true:=by
    unfold Ae;have:=hm.len;rw [iy (show (k.length:Int)≥1 by omega),iy (show (k.length:Int)≤32 by omega)]; rfl
   rw [h];simp only [aA,aR,aav _ hm.len,eq]
  simp only [cBy _ a,aA,i];cases q
  ·exact ⟨20,Z⟩
  ·exact ⟨0,Z⟩
def zh (s:mD) (acc:List lg):mD:=⟨s.lm,s.mI,s.Room,acc,s.Shown,s.lL,s.me⟩
theorem YS {l m:List lg} (h:∀c∈l,nH c=true→c∈m) (peer:ByteArray) (r:lh) (d:vD l peer r=true):vD m peer r=true:=by
 rw [Xl] at *;exact d.mono (λc a=>by rw [cR] at *; exact ⟨h c a.1 a.2,a.2⟩)
end Go.Proofs.YtojmckcglalbnaaGreat
namespace Go.Proofs.YtojmckcglalbnaaGreat
open Go.Proofs.Tryz renaming prog → pg0
open Go.RowKit Go.Lib
structure TS (i:Nat) (S:mD):Prop where
 pb:PB S.lm
 pr:FJ S.lm
 t8:∀x∈S.lm.lK,B8 x.Signed.Tag
 sh:tW S.Shown
 hd:∀c∈S.Shown,yr S.lm c
 ac:S.lD.length≤1000+8*i
 wa:S.lL.length≤20000000+16*i
 ak:S.me.length≤20000000+16*i
def QJ (S:mD) (m:ow):Prop:=∀x∈m.nm,FH S.lm (vD S.lD S.mI) x.lg=true∧x.lg∈S.Shown∧∃y,yg S.lm x.lg=some y∧y.Signed.Tag=x.Tag
structure Vq (S S':mD) (m:ow):Prop where
 right:oD m=some true
 bys:∃b,Ny m b
 LG:S'.lm=S.lm
 peer:S'.mI=S.mI
 acc:S'.lD=S.lD
 ok:QJ S' m
 sub:∀c∈S.Shown,c∈S'.Shown
 emp:∃b,yL m=some b
theorem ZH {p:lm} (a:∀x∈p.lK,B8 x.Signed.Tag) {l:List lg} (h:∀c∈l,yr p c):∀x∈Dj p l,B8 x.Tag:=λx g=>by
 obtain ⟨c,d,rfl⟩:=bT.1 g;obtain ⟨y,e,i,_⟩:=AY (h c d);unfold Fz;rw [e];exact a y i
theorem WS {p:lm} {l:List lg} (h:∀c∈l,yr p c):∀x∈Dj p l,∃y,yg p x.lg=some y∧y.Signed.Tag=x.Tag:=λx i=>by
 obtain ⟨c,g,rfl⟩:=bT.1 i;obtain ⟨y,e,_,d⟩:=AY (h c g);have a:Fz p c=y.Signed:=by unfold Fz; rw [e]
 exact ⟨y,by rw [a,d,e],by rw [a]⟩
theorem XJ {i:Nat} {S:mD} (h:TS i S) {sh t:List lg} {w:List lh} (U:tW sh) (h8:sh.length≤8) (u:∀c∈sh,G9 S.lm S.lD S.mI c) (O:xO (S.Shown++sh) t) (W:sa w w) (j:w.length≤16) (S':mD) (g:S'.lm=S.lm) (Q:S'.mI=S.mI) (J:S'.lD=S.lD) (z:S'.Shown=t) (Y:S'.lL=S.lL) (e6:S'.me.length≤S.me.length+16) :
  Vq S S' ⟨2,0,0,zS,w,Dj S.lm sh⟩∧TS (i+1) S':=by
 have k:∀c∈sh,yr S.lm c:=λc d=>(u c d).1
 have a:=Vi h.pr U k;have M:=PD (p:=S.lm) k;have v:(Dj S.lm sh).length≤8:=by unfold Dj; rw [eB]; exact h8
 have s:∀x∈Dj S.lm sh,x.lg∈sh:=λx y=>by rw [←M]; exact bT.2 ⟨x,y,Z⟩
 have P:∀c,c∈t↔c∈S.Shown++sh:=λc=>by
  rw [O.2];refine ⟨λh=>h.1,λq=>⟨q,?_⟩⟩;rcases bE.1 q with q | q
  ·exact h.sh.2 c q
  ·exact U.2 c q
 have I:=XA w W j _ v a.1 a.2;refine ⟨⟨I,N5 I (.inr (.inl ⟨w,_,Z,λr I=>((W.2 r).1 I).2,j,a.1,v⟩)) (ZH h.t8 k),g,Q,J,?_,?_,?_⟩,?_⟩
 ·intro x y;rw [g,Q,J,z];exact ⟨(u _ (s x y)).2.2,(P _).2 (dr _ (s x y)),WS k x y⟩
 ·intro c d;rw [z];exact (P _).2 (bY _ d)
 ·exact ⟨_,Z⟩
 ·have p1:=h.pb;have p2:=h.pr;have p3:=h.t8;have p4:=h.ac;have p5:=h.wa;have p6:=h.ak;refine ⟨by rw [g]; exact p1,by rw [g]; exact p2,by rw [g]; exact p3,by rw [z]; exact ⟨O.1,λc d=>((O.2 c).1 d).2⟩,?_,by rw [J]; omega,by rw [Y]; omega,rs⟩;intro c d;rw [z] at d;rw [g];rcases bE.1 ((P c).1 d) with q | q
  ·exact h.hd c q
  ·exact k c q
theorem XK {i:Nat} {S:mD} (h:TS i S) (hi:i≤100) (T:pj) (f:Formula) (Q:T.lu=true→rV f=true) (g:Option mc) (w c:Bool) (n to tr l ti:Int) (la:List Int) (go st e:Int) (be:Bool) (tk se:Int) :
  ∃m S',uG S T f g w c n to tr l ti la go st e be tk se=some (m,0,S')∧Vq S S' m∧TS (i+1) S':=by
 have p4:=h.ac;have p5:=h.wa;have p6:=h.ak;have W:=LB h.sh h.hd;have j:=h.pr.sm.Bd;have d:∀own:List lh,own.length≤1000→∃m S',xV S own=some (m,0,S')∧Vq S S' m∧TS (i+1) S':=λown x=>by
  obtain ⟨b,sh,w,t,k,eb,ea,es,u,M,v,P,s,U,y,O,e⟩:=acD S h.pb h.pr rs rs rs rs own x;have Y:=uy (HE _) O;rw [aC] at Y;exact ⟨_,_,e,XJ h u M (λc j=>(v c j).1) y P s (ZA S t k) Z Z Z Z Z (by show k.length≤_; omega)⟩
 unfold uG;by_cases c1:T.ny=1
 ·have q:(T.ny==1)=true:=by rw [c1]; rfl
  obtain ⟨fr,I,a,hm,hlen⟩:=Y7 S.lm h.pb S.lD rs S.mI;obtain ⟨t,y,e⟩:=aau S h.pb h.pr rs I a hm rs rs;rw [q,aO Z,e];refine ⟨_,_,Z,XJ h ((a.filter _).take 8) (by rw [cU]; omega) (λc j=>?_) y ⟨.nil,rv⟩ rv (Li S t) Z Z Z Z Z (by show S.me.length≤_; omega)⟩;exact (hm c).1 (cR.1 (eJ j)).1
 ·have q:(T.ny==1)=false:=by simpa using c1
  rw [q,aH rv];cases x:T.lu
  ·rw [aH rv];obtain ⟨m,S',e,h1⟩:=d [] rv;rw [e];exact ⟨m,S',Z,h1⟩
  ·rw [aO Z];have z:=Q x;unfold rV at z;simp only [bI,bV] at z;obtain ⟨r,J,_,hl⟩:=ML f rs;obtain ⟨m,S',e,h1⟩:=d r rs;rw [J,aA,show (⟨⟨S.lm.Name,S.lm.lK,S.lm.mi⟩,S.mI,S.Room,S.lD,S.Shown,S.lL,S.me⟩:mD)=S from rfl,e];exact ⟨m,S',Z,h1⟩
theorem abD (S:mD) (h:S.lD.length≤30000) (f:Formula) (g:Gd f):∃m,AR S=some m∧
  tR f (λx=>xT x m.1 m.2.1 m.2.2.1 m.2.2.2.1 m.2.2.2.2.1 m.2.2.2.2.2.1 m.2.2.2.2.2.2.1 S.lm.lK S.lm.mi m.2.2.2.2.2.2.2.1 m.2.2.2.2.2.2.2.2 S.lD S.Shown S.lL S.me)=some (CB (vD S.lD S.mI) f):=by
 obtain ⟨m,a,d⟩:=Rz S.lD rs S.mI;refine ⟨_,by unfold AR; rw [a]; rfl,?_⟩;exact I4 (vD S.lD S.mI) _ (λr=>by unfold xT; rw [tN,d]) f g
def Jg (ks:List Key) (l:List Signed) (c:lg):Prop:=∃x∈l,x.lg=c∧ul (some ⟨sr ks⟩) x=some 0
theorem Jg.cons {ks:List Key} {l:List Signed} {c:lg} {x:Signed} (h:Jg ks l c):Jg ks (x::l) c:=by
 obtain ⟨y,a,h⟩:=h;exact ⟨y,by simp [a],h⟩
theorem MT (ks:List Key) (g:BI [] ks=0) (s:mD):∀(l:List Signed) (n:Int) (acc:List lg),acc.length+l.length≤1000000→0≤n→n+l.length≤1000000→
  ∃i e a,uB (some ⟨sr ks⟩) s l n acc=some (i,e,zh s a)∧a.length≤acc.length+l.length∧(∀c∈a,c∈acc∨Jg ks l c)∧(e=0∨e=40)
 | [],n,acc,_,_,_=>⟨n,0,acc,by rw [uB]; rfl,rv,λc d=>.inl d,.inl Z⟩
 | x::l,n,acc,h,I,z=>by
  rw [aG] at h z;obtain ⟨e,j⟩:=V9 ks g x;obtain ⟨n1,u,q,q1,q2,q3⟩:=MT ks g s l n acc rs I rs;rw [uB,j,aA];unfold tq;rw [G8];simp only [aA,aG];have skip:∃i e a,uB (some ⟨sr ks⟩) s l n acc=some (i,e,zh s a)∧a.length≤acc.length+(l.length+1)∧(∀c∈a,c∈acc∨Jg ks (x::l) c)∧(e=0∨e=40):=⟨n1,u,q,q1,rs,λc d=>(q3.1 c d).imp id Jg.cons,q3.2⟩;by_cases c1:(e != 0)=true
  ·simp only [c1,aR,aA];exact skip
  ·simp only [c1,aK,aA,aB];cases ph ni acc x.lg
   ·simp only [aB,aK];by_cases c2:(acc.length:Int)≥s.Room
    ·simp only [c2,cK,aR];exact ⟨n,40,acc,Z,rs,λc d=>.inl d,.inr Z⟩
    ·simp only [c2,cX,aB,aK];obtain ⟨t,y,k⟩:=H3 (acc++[x.lg]) ss;have tl:=uy Eh k;rw [aC] at tl;simp only [aG,cM] at tl;obtain ⟨n2,v,a2,J,P,M,O⟩:=MT ks g s l (n+1) t rs rs rs;rw [KR rs];simp only [aA];rw [od ss ss,aA,y,aA,mM rs rs,J];refine ⟨n2,v,a2,Z,rs,λc d=>?_,O⟩;rcases M c d with h | h
     ·rcases bE.1 ((k.2 c).1 h).1 with h | h
      ·exact .inl h
      ·obtain rfl:c=x.lg:=by simpa using h
       exact .inr ⟨x,rv,Z,by rw [j]; congr 1; simpa using c1⟩
     ·exact .inr h.cons
   ·simp only [aR];exact skip
theorem Xj {p:Int} {n:ByteArray} (a:rz n=true) (hp:p=1∨p=2):oD ⟨1,p,0,n,[],[]⟩=some true:=by
 unfold oD AT;have d:=HH ⟨1,p,0,n,[],[]⟩;rcases hp with rfl | rfl <;> simp [d,uf,a]
theorem adh {p:Int} {n:ByteArray} (a:rz n=true) (hp:p=1∨p=2):∃b,Ny ⟨1,p,0,n,[],[]⟩ b:=N5 (Xj a hp) (.inl ⟨p,n,Z,a,hp⟩) rv
def yV (S:mD) (n:Nat) (la:List Int):Prop:=la.length≠0∧la.length≤2200∧B8 la∧∃(k:Nat) (m:ow),vR la=((k:Int),m,0)∧1≤k∧k < n∧QJ S m
theorem yV.mk' {S:mD} {F:List Int} {u n:Nat} {m:ow} (h:F.length≠0∧F.length≤2200∧B8 F∧vR F=((u:Int),m,0)) (h1:1≤u) (a:u < n) (d:QJ S m):yV S n F:=⟨h.1,h.2.1,h.2.2.1,u,m,h.2.2.2,h1,a,d⟩
theorem Ch (S:mD) {m:ow} (h:m.nm=[]):QJ S m:=λx a=>by rw [h] at a; cases a
def X9 (st:Int) (c:Bool):Prop:=(st=0∧c=false)∨((st=1∨st=2∨st=3)∧c=true)
structure Pn (T:pj) (f:Formula) (S S':mD) (F:List Int) (n:Nat) (st:Int) (c:Bool):Prop where
 la:yV S' n F
 ok:X9 st c
 own:st=1→T.lu=true→CB (vD S'.lD S'.mI) f=true
 par:S'.lm=S.lm
 peer:S'.mI=S.mI
 num:(n:Int)=(vR F).1+1
theorem Mj {j:Nat} {S:mD} (h:TS j S) (hi:j≤100) (T:pj) (f:Formula) (U:T.lu=true→rV f=true) (g:Option mc) {n:Nat} (n1:1≤n) (n2:n≤900) (z tr l ti:Int) (la:List Int) (go e:Int) (be:Bool) (tk:Int) (se:Nat) (hs:se≤900) (em:Bool) :
  ∃F S' J u e',tJ S T f g true false (n:Int) z tr l ti la go 0 e be tk (se:Int) em=some ([F],S',false,J,((n+1:Nat):Int),tr,0,F,u,e',((se+1:Nat):Int))∧TS (j+1) S'∧Pn T f S S' F (n+1) u J∧S'.lD=S.lD:=by
 have p4:=h.ac;have up:TS (j+1) S:=⟨h.pb,h.pr,h.t8,h.sh,h.hd,rs,by have:=h.wa; omega,by have:=h.ak; omega⟩;have rest:∃F S' J u e',((uG S T f g true false (n:Int) z tr l ti la go 0 e be tk (se:Int)).bind λd=>(if (d.2.1 != 0) then (nA d.2.2 T f g true false (n:Int) z tr l ti la go 0 e be tk (se:Int) d.2.1).bind λi=>some (i.1,d.2.2,i.2.1,i.2.2.1,i.2.2.2.1,i.2.2.2.2.1,i.2.2.2.2.2.1,i.2.2.2.2.2.2.1,i.2.2.2.2.2.2.2.1,i.2.2.2.2.2.2.2.2.1,i.2.2.2.2.2.2.2.2.2) else ((if em then (yL d.1).bind λt=>some t else some false):Option Bool).bind λP=>(if P then (oy d.2.2 T f g true false (n:Int) z tr l ti la go 0 e be tk (se:Int) (⟨4,0,0,zS,[],[]⟩:ow)).bind λa=>((pL d.2.2 T f g a.2.1 false a.2.2.1 z tr a.2.2.2.1 a.2.2.2.2.1 a.2.2.2.2.2.1 go 0 e be tk a.2.2.2.2.2.2 2 0).bind λs=>some (a.1,d.2.2,a.2.1,s.1,a.2.2.1,a.2.2.2.1,a.2.2.2.2.1,a.2.2.2.2.2.1,s.2.1,s.2.2,a.2.2.2.2.2.2)) else (oy d.2.2 T f g true false (n:Int) z tr l ti la go 0 e be tk (se:Int) d.1).bind λk=>some (k.1,d.2.2,k.2.1,false,k.2.2.1,k.2.2.2.1,k.2.2.2.2.1,k.2.2.2.2.2.1,0,e,k.2.2.2.2.2.2))))
   = some ([F],S',false,J,((n+1:Nat):Int),tr,0,F,u,e',((se+1:Nat):Int))∧TS (j+1) S'∧Pn T f S S' F (n+1) u J∧S'.lD=S.lD:=by
  obtain ⟨m,S',et,v,Q⟩:=XK h hi T f U g true false (n:Int) z tr l ti la go 0 e be tk (se:Int);obtain ⟨b,eb⟩:=v.emp;rw [et,aA,aH rv];have ex:∃x,((if em then (yL m).bind λt=>some t else some false):Option Bool)=some x:=by
   cases em
   ·exact ⟨_,Z⟩
   ·rw [aO Z,eb]; exact ⟨_,Z⟩
  obtain ⟨x,ex⟩:=ex;rw [ex,aA];cases x
  ·obtain ⟨y,O⟩:=v.bys;obtain ⟨F,M,I⟩:=Ks n1 rs v.right O S' T f g z tr l ti la go 0 e be tk se rs;rw [aH rv,M];exact ⟨F,S',false,0,e,Z,Q,⟨yV.mk' I n1 rs v.ok,.inl ⟨Z,Z⟩,λh=>(by cases h),v.LG,v.peer,by rw [I.2.2.2]; simp⟩,v.acc⟩
  ·obtain ⟨y,O⟩:=Zu (.inr Z);obtain ⟨F,M,I⟩:=Ks n1 rs (Po (.inr Z)) O S' T f g z tr l ti la go 0 e be tk se rs;rw [aO Z,M,aA];exact ⟨F,S',true,2,0,Z,Q,⟨yV.mk' I n1 rs (Ch _ Z),.inr ⟨.inr (.inl Z),Z⟩,λh=>(by cases h),v.LG,v.peer,by rw [I.2.2.2]; simp⟩,v.acc⟩
 unfold tJ;cases ho:T.lu
 ·rw [aH rv,aA,aH rv];exact rest
 ·have W:=U ho;have hg:Gd f:=by
   unfold rV at W;simp only [bI,bV] at W;unfold Gd; omega
  obtain ⟨q,Y,e2⟩:=abD S rs f hg;rw [aO Z,Y,aA,e2,aA,aA];cases hv:CB (vD S.lD S.mI) f
  ·rw [aH rv];exact rest
  ·obtain ⟨y,O⟩:=Zu (.inl Z);obtain ⟨F,M,I⟩:=Ks n1 rs (Po (.inl Z)) O S T f g z tr l ti la go 0 e be tk se rs;rw [aO Z,M,aA];exact ⟨F,S,true,1,0,Z,up,⟨yV.mk' I n1 rs (Ch _ Z),.inr ⟨.inl Z,Z⟩,λ_ _=>hv,Z,Z,by rw [I.2.2.2]; simp⟩,Z⟩
theorem MQ (b c:Bool):(if b=true then some true else some c:Option Bool)=some (b||c):=by cases b <;> rfl
theorem Lp (b c:Bool):(if b=true then some c else some false:Option Bool)=some (b&&c):=by cases b <;> rfl
theorem Zy (f:Formula):(⟨f.Op,f.K,f.lh,f.Kids⟩:Formula)=f:=by cases f; rfl
theorem TS.up {j k:Nat} {S:mD} (h:TS j S) (e:j≤k):TS k S :=
 ⟨h.pb,h.pr,h.t8,h.sh,h.hd,by have:=h.ac; omega,by have:=h.wa; omega,by have:=h.ak; omega⟩
theorem UN {j:Nat} {S:mD} (h:TS j S) (v:j≤100) (T:pj) (f:Formula) (u:T.lu=true→rV f=true) (g:Option mc) {n:Nat} (n1:1≤n) (n2:n≤900) (k tr l ti:Int) (la:List Int) (go e:Int) (be:Bool) (tk:Int) (se:Nat) (x:se≤900) (m:ow) :
  ∃F S' d a e' i,wh S T f g true false (n:Int) k tr l ti la go 0 e be tk (se:Int) m=some ([F],S',false,d,((n+1:Nat):Int),tr,0,F,a,e',i,((se+1:Nat):Int))∧TS (j+1) S'∧Pn T f S S' F (n+1) a d∧S'.lD=S.lD:=by
 unfold wh;simp only [MQ,aA];cases y:(!T.lu||be||!ob m.Name S.mI||m.ny != T.ny)
 ·rw [aH rv];obtain ⟨F,S',d,a,e',q,h1,t⟩:=Mj h v T f u g n1 n2 k tr l ti la go e true tk se x false;rw [q];exact ⟨F,S',d,a,e',true,Z,h1,t⟩
 ·rw [aO Z];obtain ⟨F,q,s⟩:=HP (e0:=2) rs rs n1 rs S T f g k tr l ti la go 0 e be tk se rs;rw [q];exact ⟨F,S,true,3,2,be,Z,h.up rs,⟨yV.mk' s n1 rs (Ch _ Z),.inr ⟨.inr (.inr Z),Z⟩,λh=>(by cases h),Z,Z,by rw [s.2.2.2]; simp⟩,Z⟩
theorem UX {j:Nat} {S:mD} (h:TS j S) (hi:j≤98) (T:pj) (f:Formula) (Q:T.lu=true→rV f=true) (ks:List Key) (hk:BI [] ks=0) {n:Nat} (n1:1≤n) (n2:n≤900) (x tr l ti:Int) (la:List Int) (go e:Int) (be:Bool) (tk:Int) (se:Nat) (U:se≤900) (m:ow) (hm:m.nm.length≤8∧m.nX.length≤16) :
  ∃F S' u g e',wj S T f (some ⟨sr ks⟩) true false (n:Int) x tr l ti la go 0 e be tk (se:Int) m=some ([F],S',false,u,((n+1:Nat):Int),tr,0,F,g,e',((se+1:Nat):Int))∧TS (j+2) S'∧Pn T f S S' F (n+1) g u∧∀c∈S'.lD,c∈S.lD∨Jg ks m.nm c:=by
 have p4:=h.ac;have p5:=h.wa;have k:∀(S2:mD) (e0:Int),TS (j+2) S2→S2.lm=S.lm→S2.mI=S.mI→1≤e0→e0≤99→∃F,nA S2 T f (some ⟨sr ks⟩) true false (n:Int) x tr l ti la go 0 e be tk (se:Int) e0=some ([F],false,true,((n+1:Nat):Int),tr,0,F,3,e0,((se+1:Nat):Int))∧Pn T f S S2 F (n+1) 3 true:=λS2 e0 I p1 p2 a b=>by
  obtain ⟨F,q,i⟩:=HP (e0:=e0) a b n1 rs S2 T f (some ⟨sr ks⟩) x tr l ti la go 0 e be tk se rs;exact ⟨F,q,yV.mk' i n1 rs (Ch _ Z),.inr ⟨.inr (.inr Z),Z⟩,λh=>(by cases h),p1,p2,by rw [i.2.2.2]; simp⟩
 unfold wj;simp only [Lp,aA,Zy];cases hx:(T.lu&&!be)
 ·rw [aH rv];obtain ⟨n',J,a,y,hl,s,he⟩:=MT ks hk S m.nm 0 S.lD rs rs rs;have O:DD S (some ⟨sr ks⟩) m.nm=some (n',J,zh S a):=by
   unfold DD;rw [aH rv];exact y
  have z:TS (j+1) (zh S a):=⟨h.pb,h.pr,h.t8,h.sh,h.hd,by show a.length≤_; omega,by show S.lL.length≤_; omega,by have:=h.ak; show S.me.length≤_; omega⟩;rw [O,aA];rcases he with rfl | rfl
  ·rw [aH rv];have note:∃S2:mD,((if (T.ny==2) then (BW (zh S a) m.nX).bind λd=>some (d.lm.Name,d.lm.lK,d.lm.mi,d.mI,d.Room,d.lD,d.Shown,d.lL,d.me) else some ((((zh S a).lm).Name),((zh S a).lm).lK,((zh S a).lm).mi,(zh S a).mI,(zh S a).Room,(zh S a).lD,(zh S a).Shown,(zh S a).lL,(zh S a).me)):Option (ByteArray×(List np)×(List oe)×ByteArray×Int×(List lg)×(List lg)×(List lh)×(List lh)))=some (S2.lm.Name,S2.lm.lK,S2.lm.mi,S2.mI,S2.Room,S2.lD,S2.Shown,S2.lL,S2.me)∧TS (j+1) S2∧S2.lm=S.lm∧S2.mI=S.mI∧S2.lD=a:=by
    cases (T.ny==2)
    ·exact ⟨zh S a,Z,z,Z,Z,Z⟩
    ·obtain ⟨t,y,W⟩:=Jz (S.lL++m.nX) (by rw [aC]; omega);have tl:=uy (HE _) W;rw [aC] at tl;refine ⟨⟨S.lm,S.mI,S.Room,a,S.Shown,t,S.me⟩,?_,⟨h.pb,h.pr,h.t8,h.sh,h.hd,by show a.length≤_; omega,by show t.length≤_; omega,by have:=h.ak; show S.me.length≤_; omega⟩,Z,Z,Z⟩;unfold BW;rw [aO Z,show (zh S a).lL=S.lL from rfl,Pp _ _ rs,aA,y];rfl
   obtain ⟨S2,M,I,u1,u2,u3⟩:=note;have em:∃b,yL m=some b:=⟨_,by unfold yL; rw [Lp]; rfl⟩;obtain ⟨b,P⟩:=em;obtain ⟨F,S',u,g,e',q,Y,k2,k3⟩:=Mj I rs T f Q (some ⟨sr ks⟩) n1 n2 x tr l ti la go e be tk se U b;simp only [M,aA,P];rw [show (⟨⟨S2.lm.Name,S2.lm.lK,S2.lm.mi⟩,S2.mI,S2.Room,S2.lD,S2.Shown,S2.lL,S2.me⟩:mD)=S2 from rfl,q];exact ⟨F,S',u,g,e',Z,Y,⟨k2.la,k2.ok,k2.own,k2.par.trans u1,k2.peer.trans u2,k2.num⟩,λc v=>s c (by rw [k3,u3] at v; exact v)⟩
  ·rw [aO rv];obtain ⟨F,q,i⟩:=k (zh S a) 40 (z.up rs) Z Z rs rs;simp only [q,aA];exact ⟨F,zh S a,true,3,40,Z,z.up rs,i,s⟩
 ·rw [aO Z];obtain ⟨F,q,i⟩:=k S 43 (h.up rs) Z Z rs rs;rw [q];exact ⟨F,S,true,3,43,Z,h.up rs,i,λc v=>.inl v⟩
theorem Wo {S:mD} (T:pj) (f:Formula) (g:Option mc) {n:Nat} (n1:1≤n) (n2:n≤900) (i tr l ti:Int) (la:List Int) (go e:Int) (be:Bool) (tk:Int) (se:Nat) (t:se≤900) (m:ow) :
  (∃F e',uF S T f g true false (n:Int) i tr l ti la go 0 e be tk (se:Int) m=some ([F],false,true,((n+1:Nat):Int),tr,0,F,3,e',((se+1:Nat):Int))∧yV S (n+1) F∧((n+1:Nat):Int)=(vR F).1+1)∨
  (∃a,uF S T f g true false (n:Int) i tr l ti la go 0 e be tk (se:Int) m=some ([],true,true,(n:Int),l,ti,la,a,0,(se:Int))∧(a=1∨a=2)∧(a=1→T.lu=false)):=by
 unfold uF;have cond:((if T.lu then ((if (m.Kind==3) then some true else some (!be)):Option Bool).bind λd=>some d else some false):Option Bool)=some (T.lu&&(m.Kind==3||!be)):=by
  rw [MQ,aA,Lp]
 rw [cond,aA];cases k:(T.lu&&(m.Kind==3||!be))
 ·right
  rw [aH rv];cases s:(m.Kind==3)
  ·rw [aH rv];exact ⟨2,Z,.inr Z,λh=>by cases h⟩
  ·rw [aO Z];rw [s] at k;exact ⟨1,Z,.inl Z,λ_=>by simpa using k⟩
 ·left
  rw [aO Z];obtain ⟨F,q,j⟩:=HP (e0:=43) rs rs n1 rs S T f g i tr l ti la go 0 e be tk se rs;rw [q];exact ⟨F,43,Z,yV.mk' j n1 rs (Ch _ Z),by rw [j.2.2.2]; simp⟩
theorem Gw {m a:ow} {l d:List Int} (h:Il m l= .inr (a,d)):GW a=true:=by
 unfold Il at h;split at h
 ·rename_i h1; cases h; exact h1
 ·cases h
theorem UM {l:List Int} {m:ow} {i:List Int} (h:Im l= .inr (m,i)):GW m=true:=by
 unfold Im at h;cases g:oH zr 0 0 l with
 | inl e=>rw [g] at h; cases h
 | inr q=>
  rw [g] at h;simp only [nQ] at h;split at h
  ·cases a:zM q.2 with
   | inl e=>rw [a] at h; cases h
   | inr q2=>
    rw [a] at h;simp only [nQ] at h;cases hp:oH 2 0 0 q2.2 with
    | inl e=>rw [hp] at h; cases h
    | inr q=>rw [hp] at h; exact Gw h
  split at h
  ·cases d:DB q.2 with
   | inl e=>rw [d] at h; cases h
   | inr q=>rw [d] at h; exact Gw h
  split at h
  ·cases a:oH 99 0 0 q.2 with
   | inl e=>rw [a] at h; cases h
   | inr q=>rw [a] at h; exact Gw h
  ·exact Gw h
theorem aaM (l:List Int):(vR l).2.1=Of∨GW (vR l).2.1=true:=by
 unfold vR;split
 ·exact .inl Z
 ·split
  ·exact .inl Z
  ·split
   ·exact .inl Z
   split
   ·exact .inl Z
   split
   ·exact .inl Z
   ·rename_i n b c a _ _ _ _
    show (EP b).1=Of∨_;unfold EP;cases h:Im b with
    | inl e=>exact .inl Z
    | inr q=>
     simp only;split
     ·exact .inl Z
     ·exact .inr (UM h)
theorem PU {l:List Int} (g:B8 l) (i:l.length≤1000000):(vR l).2.1.nm.length≤8∧(vR l).2.1.nX.length≤16:=by
 have d:=(abb g i).2;refine ⟨d,?_⟩;rcases aaM l with h | h
 ·rw [h]; simp
 ·have:=Qd (vR l).2.1 rs;rw [h] at this;obtain ⟨b,e,k⟩:=KL (vR l).2.1 rs;rw [this] at e;have j:=k (gQ e).symm;rcases j with ⟨p,n,e,_⟩ | ⟨w,s,e,_,a,_⟩ | e | e | ⟨x,e,_⟩ <;> rw [e] <;> simp
  omega
structure SS where
 S:mD
 w:Bool
 c:Bool
 n:Nat
 l:Nat
 ti:Int
 la:List Int
 go:Int
 st:Int
 e:Int
 be:Bool
 tk:Nat
 se:Nat
structure BO (T:pj) (f:Formula) (tr i:Nat) (x:SS):Prop where
 ts:TS (2*i) x.S
 n1:1≤x.n
 n2:x.n≤1+2*i
 se:x.se≤i
 tk:x.tk≤i
 t0:0≤x.ti
 t1:x.ti≤1000
 l:x.l≤tr
 la:x.la=[]∨yV x.S x.n x.la
 ok:X9 x.st x.c
 own:x.st=1→T.lu=true→CB (vD x.S.lD x.S.mI) f=true
structure Ik (T:pj) (f:Formula) (tr i:Nat) (x:SS) (out:List (List Int)) (y:SS):Prop where
 HZ:BO T f tr (i+1) y
 one:out.length≤1
 last:∀F∈out,F=y.la∧F.length≠0
 stay:x.st≠0→y.st=x.st∧(x.st=3→out=[])∧y.l+out.length≤x.l
 par:y.S.lm=x.S.lm
 peer:y.S.mI=x.S.mI
 fresh:y.la=x.la∨(out≠[]∧(x.n:Int)≤(vR y.la).1)
variable {T:pj} {f:Formula} {tr i:Nat} {x:SS}
theorem BO.up (h:BO T f tr i x):BO T f tr (i+1) x :=
 ⟨h.ts.up rs,h.n1,by have:=h.n2; omega,by have:=h.se; omega,by have:=h.tk; omega,h.t0,h.t1,h.l,h.la,h.ok,h.own⟩
theorem Ik.same (h:BO T f tr i x):Ik T f tr i x [] x:=⟨h.up,rv,rv,λ_=>⟨Z,λ_=>rfl,rv⟩,Z,Z,.inl Z⟩
theorem yV.up {S:mD} {n m:Nat} {la:List Int} (h:la=[]∨yV S n la) (e:n≤m):la=[]∨yV S m la:=by
 rcases h with h | ⟨a,b,c,k,q,d,f,g,i⟩
 ·exact .inl h
 ·exact .inr ⟨a,b,c,k,q,d,f,rs,i⟩
theorem yV.len {S:mD} {n:Nat} {la:List Int} (h:la=[]∨yV S n la):la.length≤2200:=by
 rcases h with rfl | h
 ·simp
 ·exact h.2.1
theorem Ik.said (h:BO T f tr i x) (k:x.st=0) {S':mD} {F:List Int} {a:Int} {g:Bool} (q:TS (2*i+2) S') {n:Nat} (ha:Pn T f x.S S' F n a g) (n1:1≤n) (n2:n≤3+2*i) (t:x.n < n) {go e':Int} {d:Bool} {tk:Nat} (s:tk≤i+1) :
  Ik T f tr i x [F] ⟨S',false,g,n,tr,0,F,go,a,e',d,tk,x.se+1⟩ :=
 ⟨⟨q.up rs,n1,by show n≤_; omega,by have:=h.se; show x.se+1≤_; omega,s,by show (0:Int)≤0; omega,by show (0:Int)≤1000; omega,aY _,.inr ha.la,ha.ok,ha.own⟩,rv,λG j=>by simp at j; subst j; exact ⟨Z,ha.la.1⟩,λh1=>absurd k h1,ha.par,ha.peer,.inr ⟨rv,by have:=ha.num; show (x.n:Int)≤(vR F).1; omega⟩⟩
theorem ac8 (h:BO T f tr i x) (hi:i≤40) (a1:tr≤100) (hf:T.lu=true→rV f=true) (ks:List Key) (hk:BI [] ks=0) (v:Int) {b:List Int} (hb:B8 b) (hl:b.length≤1000000) :
  ∃out y,xd x.S T f (some ⟨sr ks⟩) x.w x.c (x.n:Int) v (tr:Int) (x.l:Int) x.ti x.la x.go x.st x.e x.be (x.tk:Int) (x.se:Int) b
   = some (out,y.S,y.w,y.c,(y.n:Int),(y.l:Int),y.ti,y.la,y.go,y.st,y.e,y.be,(y.se:Int))∧y.tk=x.tk∧Ik T f tr i x out y∧∀c∈y.S.lD,c∈x.S.lD∨Jg ks (vR b).2.1.nm c:=by
 have h1:=h.n1;have h2:=h.n2;have h3:=h.se;have W:=h.l;unfold xd;by_cases J:x.st=3
 ·rw [aO (by simpa using J)];exact ⟨[],x,Z,Z,.same h,λc d=>.inl d⟩
 rw [aH (by simpa using J)];unfold D1;rw [KX b hb hl];have O:=PU hb hl;generalize vR b=r at *;obtain ⟨num,m,code⟩:=r;simp only [aA] at *;simp only [Lp,aA];by_cases Q:code=0
 ·have q:(code != 0)=false:=by simpa using Q
  rw [q,aH rv];cases hx:(num==(x.n:Int)&&!x.w&&!x.c)
  ·rw [aH rv];cases hg:(num==x.go)
   ·rw [aH rv];simp only [aA];rw [aH tc,aO tc];exact ⟨[],x,Z,Z,.same h,λc d=>.inl d⟩
   ·rw [aO Z];simp only [aA];rw [aO tc,Rk _ _ _ _ _ _ _ rs (by have:=yV.len h.la; omega),aA];by_cases u:x.la.length=0∨x.l=0
    ·rw [aO u];simp only;rw [E1 _ _ _ _ _ _ _ _ _ _ _ _ _ _ _ _ _ x.se rs];exact ⟨[],x,Z,Z,.same h,λc d=>.inl d⟩
    ·rw [aH u];simp only;rw [E1 _ _ _ _ _ _ _ _ _ _ _ _ _ _ _ _ _ x.se rs];have M:Gg x.la=[x.la]:=by unfold Gg; rw [aH λe=>u (.inl e)]
     rw [M];refine ⟨[x.la],{ x with l:=x.l-1,ti:=0,se:=x.se+1 },Z,Z,⟨⟨h.ts.up rs,h1,by show x.n≤_; omega,by show x.se+1≤_; omega,by have:=h.tk; show x.tk≤_; omega,by show (0:Int)≤0; omega,by show (0:Int)≤1000; omega,by show x.l-1≤_; omega,h.la,h.ok,h.own⟩,rv,λG Y=>?_,λ_=>⟨Z,λe=>absurd e J,?_⟩,Z,Z,.inl Z⟩,λc d=>.inl d⟩
     ·simp at Y;subst Y;exact ⟨Z,λe=>u (.inl e)⟩
     ·show x.l-1+1≤x.l;have:x.l≠0:=λe=>u (.inr e)
      omega
  ·rw [aO Z];simp only [bI,kh,iC] at hx;obtain ⟨⟨e1,e2⟩,U⟩:=hx;have g:x.st=0:=by
    rcases h.ok with k | k
    ·exact k.1
    ·rw [U] at k; cases k.2
   have ew:IntKind.i64.wrap ((x.n:Int)+1)=((x.n+1:Nat):Int):=by rw [mM rs rs]; omega
   simp only [aA,ew,U,g];rw [aH tc,aH tc];have s:=h.ts;cases k1:(m.Kind==1)
   ·rw [aH rv];cases k2:(m.Kind==2)
    ·rw [aH rv];cases k5:(m.Kind==5)
     ·rw [aH rv];rcases Wo (S:=x.S) T f (some ⟨sr ks⟩) (n:=x.n+1) rs rs v (tr:Int) (x.l:Int) x.ti x.la num x.e x.be (x.tk:Int) x.se rs m with ⟨F,e',q,hF,hN⟩ | ⟨t,q,hs,M⟩
      ·rw [q];exact ⟨[F],⟨x.S,false,true,x.n+1+1,tr,0,F,num,3,e',x.be,x.tk,x.se+1⟩,Z,Z,.said h g (s.up rs) ⟨hF,.inr ⟨.inr (.inr Z),Z⟩,λh=>(by cases h),Z,Z,hN⟩ rs rs rs (by have:=h.tk; omega),λc d=>.inl d⟩
      ·rw [q];refine ⟨[],⟨x.S,true,true,x.n+1,x.l,x.ti,x.la,num,t,0,x.be,x.tk,x.se⟩,Z,Z,⟨⟨s.up rs,by show 1≤x.n+1; omega,by show x.n+1≤_; omega,by show x.se≤_; omega,by have:=h.tk; show x.tk≤_; omega,h.t0,h.t1,W,yV.up h.la (by show x.n≤x.n+1; omega),.inr ⟨by rcases hs with a | a <;> simp [a],Z⟩,λa o=>by rw [M a] at o; cases o⟩,rv,rv,λP=>absurd g P,Z,Z,.inl Z⟩,λc d=>.inl d⟩
     ·rw [aO Z];exact ⟨[],⟨x.S,true,true,x.n+1,x.l,x.ti,x.la,num,3,m.E,x.be,x.tk,x.se⟩,Z,Z,⟨⟨s.up rs,by show 1≤x.n+1; omega,by show x.n+1≤_; omega,by show x.se≤_; omega,by have:=h.tk; show x.tk≤_; omega,h.t0,h.t1,W,yV.up h.la (by show x.n≤x.n+1; omega),.inr ⟨.inr (.inr Z),Z⟩,λa=>by cases a⟩,rv,rv,λP=>absurd g P,Z,Z,.inl Z⟩,λc d=>.inl d⟩
    ·rw [aO Z];obtain ⟨F,S',I,t,e',q,q1,q2,q3⟩:=UX (j:=2*i) s rs T f hf ks hk (n:=x.n+1) rs rs v (tr:Int) (x.l:Int) x.ti x.la num x.e x.be (x.tk:Int) x.se rs m O;rw [q];exact ⟨[F],⟨S',false,I,x.n+1+1,tr,0,F,num,t,e',x.be,x.tk,x.se+1⟩,Z,Z,.said h g q1 q2 rs rs rs (by have:=h.tk; omega),q3⟩
   ·rw [aO Z];obtain ⟨F,S',I,t,e',z,q,q1,q2,q3⟩:=UN (j:=2*i) s rs T f hf (some ⟨sr ks⟩) (n:=x.n+1) rs rs v (tr:Int) (x.l:Int) x.ti x.la num x.e x.be (x.tk:Int) x.se rs m;rw [q];exact ⟨[F],⟨S',false,I,x.n+1+1,tr,0,F,num,t,e',z,x.tk,x.se+1⟩,Z,Z,.said h g (q1.up rs) q2 rs rs rs (by have:=h.tk; omega),λc d=>.inl (by rw [q3] at d; exact d)⟩
 ·have q:(code != 0)=true:=by simpa using Q
  rw [q,aO Z];simp only [aA];rw [aH tc,aO tc];exact ⟨[],x,Z,Z,.same h,λc d=>.inl d⟩
theorem abH (h:BO T f tr i x) (O:i≤40) (z:tr≤100) (hp:T.ny=1∨T.ny=2) (g:Option mc) (u:Int) :
  ∃out y,vZ x.S T f g x.w x.c (x.n:Int) u (tr:Int) (x.l:Int) x.ti x.la x.go x.st x.e x.be (x.tk:Int) (x.se:Int)
   = some (out,y.w,(y.n:Int),(y.l:Int),y.ti,y.la,(y.se:Int))∧y.S=x.S∧y.c=x.c∧y.go=x.go∧y.st=x.st∧y.e=x.e∧y.be=x.be∧y.tk=x.tk∧Ik T f tr i x out y:=by
 have h1:=h.n1;have J:=h.n2;have M:=h.se;unfold vZ;rw [Ou _ _ _ _ _ _ _ _ _ (by have:=yV.len h.la; omega)];simp only [MQ,aA];cases t:(T.lu||decide ((x.la.length:Int) > 0)||x.st != 0)
 ·rw [aH rv];simp only [gE] at t;have a:x.st=0:=by simpa using t.2
  have s:x.c=false:=by
   rcases h.ok with k | k
   ·exact k.2
   ·rw [a] at k; rcases k.1 with k | k | k <;> cases k
  cases hw:x.w
  ·rw [abB (.inl Z) _ _ _ _ _ _ _ _ _ _ _ _ _ _ _ x.se rs];exact ⟨[],x,by rw [hw]; rfl,Z,Z,Z,Z,Z,Z,Z,.same h⟩
  ·obtain ⟨b,v⟩:=adh h.ts.pr.name hp;rw [s];obtain ⟨F,q,d⟩:=Ks h1 rs (Xj h.ts.pr.name hp) v x.S T f g u (tr:Int) (x.l:Int) x.ti x.la x.go x.st x.e x.be (x.tk:Int) x.se rs;rw [q];exact ⟨[F],{ x with w:=false,n:=x.n+1,l:=tr,ti:=0,la:=F,se:=x.se+1 },Z,Z,s,Z,Z,Z,Z,Z,
    ⟨⟨h.ts.up rs,by show 1≤x.n+1; omega,by show x.n+1≤_; omega,by show x.se+1≤_; omega,by have:=h.tk; show x.tk≤_; omega,by show (0:Int)≤0; omega,by show (0:Int)≤1000; omega,aY _,.inr (yV.mk' (n:=x.n+1) d h1 rs (Ch _ Z)),h.ok,h.own⟩,rv,λG j=>by simp at j; subst j; exact ⟨Z,d.1⟩,λI=>absurd a I,Z,Z,.inr ⟨rv,by show (x.n:Int)≤(vR F).1; rw [d.2.2.2]; exact iL _⟩⟩⟩
 ·rw [aO Z];exact ⟨[],x,Z,Z,Z,Z,Z,Z,Z,Z,.same h⟩
theorem PO {e0:Int} (z:1≤e0) (I:e0≤99) (h:BO T f tr i x) (d:x.st=0) (P:i≤40) (g:Option mc) (v:Int) {ti:Int} (t0:0≤ti) (t1:ti≤1000) {tk:Nat} (u:tk≤i+1) :
  ∃out y,nA x.S T f g x.w x.c (x.n:Int) v (tr:Int) (x.l:Int) ti x.la x.go x.st x.e x.be (tk:Int) (x.se:Int) e0
   = some (out,y.w,y.c,(y.n:Int),(y.l:Int),y.ti,y.la,y.st,y.e,(y.se:Int))∧y.S=x.S∧y.go=x.go∧y.be=x.be∧y.tk=tk∧Ik T f tr i x out y:=by
 have h1:=h.n1;have M:=h.n2;have O:=h.se;have J:x.c=false:=by
  rcases h.ok with k | k
  ·exact k.2
  ·rw [d] at k; rcases k.1 with k | k | k <;> cases k
 have bad:X9 3 true:=.inr ⟨.inr (.inr Z),Z⟩;cases hw:x.w
 ·rw [VC];exact ⟨[],{ x with c:=true,ti:=ti,st:=3,e:=e0,tk:=tk },by rw [←hw],Z,Z,Z,Z,
   ⟨⟨h.ts.up rs,h1,by show x.n≤_; omega,by show x.se≤_; omega,u,t0,t1,h.l,h.la,bad,λa=>by cases a⟩,rv,rv,λs=>absurd d s,Z,Z,.inl Z⟩⟩
 ·rw [J];obtain ⟨F,q,j⟩:=HP z I h1 rs x.S T f g v (tr:Int) (x.l:Int) ti x.la x.go x.st x.e x.be (tk:Int) x.se rs;rw [q];exact ⟨[F],{ x with w:=false,c:=true,n:=x.n+1,l:=tr,ti:=0,la:=F,st:=3,e:=e0,tk:=tk,se:=x.se+1 },Z,Z,Z,Z,Z,
   ⟨⟨h.ts.up rs,by show 1≤x.n+1; omega,by show x.n+1≤_; omega,by show x.se+1≤_; omega,u,by show (0:Int)≤0; omega,by show (0:Int)≤1000; omega,aY _,.inr (yV.mk' (n:=x.n+1) j h1 rs (Ch _ Z)),bad,λa=>by cases a⟩,rv,λG t=>by simp at t; subst t; exact ⟨Z,j.1⟩,λs=>absurd d s,Z,Z,.inr ⟨rv,by show (x.n:Int)≤(vR F).1; rw [j.2.2.2]; exact iL _⟩⟩⟩
theorem acy (h:BO T f tr i x) (M:i≤40) (Y:tr≤100) (g:Option mc) (d:Int) (a1:1≤d) (a6:d≤1000) :
  ∃out y,wu x.S T f g x.w x.c (x.n:Int) d (tr:Int) (x.l:Int) x.ti x.la x.go x.st x.e x.be (x.tk:Int) (x.se:Int)
   = some (out,y.w,y.c,(y.n:Int),(y.l:Int),y.ti,y.la,y.st,y.e,(y.tk:Int),(y.se:Int))∧y.S=x.S∧y.go=x.go∧y.be=x.be∧Ik T f tr i x out y:=by
 have h1:=h.n1;have h2:=h.n2;have h3:=h.se;have Q:=h.l;have h5:=h.tk;have z:=h.t0;have I:=h.t1;have U:=yV.len h.la;have O:IntKind.i64.wrap ((x.tk:Int)+1)=((x.tk+1:Nat):Int):=by rw [mM rs rs]; omega
 unfold wu;by_cases a:x.st=0
 ·rw [aH (by simpa using a),O];have hc:x.c=false:=by
   rcases h.ok with k | k
   ·exact k.2
   ·rw [a] at k; rcases k.1 with k | k | k <;> cases k
  by_cases u:((x.tk+1:Nat):Int) > T.vp
  ·rw [aO (by simpa using u)];obtain ⟨out,y,q,q1,q2,q3,q4,q5⟩:=PO (e0:=60) rs rs h a M g d z I (tk:=x.tk+1) rs;rw [q,aA];exact ⟨out,y,by rw [q4],q1,q2,q3,q5⟩
  rw [aH (by simpa using u)];have still:∀ti:Int,0≤ti→ti≤1000→∃out y,(pW x.S T f g x.w x.c (x.n:Int) d (tr:Int) (x.l:Int) ti x.la x.go x.st x.e x.be ((x.tk+1:Nat):Int) (x.se:Int) [[]]).bind (λj=>some (j.1,x.w,x.c,(x.n:Int),(x.l:Int),ti,x.la,x.st,x.e,((x.tk+1:Nat):Int),j.2))
    = some (out,y.w,y.c,(y.n:Int),(y.l:Int),y.ti,y.la,y.st,y.e,(y.tk:Int),(y.se:Int))∧y.S=x.S∧y.go=x.go∧y.be=x.be∧Ik T f tr i x out y:=λti t0 t1=>by
   rw [E1 _ _ _ _ _ _ _ _ _ _ _ _ _ _ _ _ _ x.se rs];exact ⟨[],{ x with ti:=ti,tk:=x.tk+1 },Z,Z,Z,Z,⟨⟨h.ts.up rs,h1,by show x.n≤_; omega,by show x.se≤_; omega,by show x.tk+1≤_; omega,t0,t1,Q,h.la,h.ok,h.own⟩,rv,rv,λt=>absurd a t,Z,Z,.inl Z⟩⟩
  unfold De;simp only [MQ,aA];cases hx:(x.c||x.w||(x.la.length:Int)==0)
  ·rw [aH rv];have P:IntKind.i64.wrap (x.ti+1)=x.ti+1:=mM rs rs;rw [P];have m0:0≤(if d < x.ti+1 then d else x.ti+1):=by split <;> omega
   have m1:(if d < x.ti+1 then d else x.ti+1)≤1000:=by split <;> omega
   generalize (if d < x.ti+1 then d else x.ti+1)=ti at *;by_cases v:ti < d
   ·rw [aO (by simpa using v)];simp only [aA];rw [aH tc];exact still ti m0 m1
   ·rw [aH (by simpa using v)];rw [Rk _ _ _ _ _ _ _ rs rs,aA];by_cases s:x.la.length=0∨x.l=0
    ·rw [aO s];simp only [fy,aR,aA];rw [aO tc];obtain ⟨out,y,q,q1,q2,q3,q4,q5⟩:=PO (e0:=60) rs rs h a M g d m0 m1 (tk:=x.tk+1) rs;rw [q,aA];exact ⟨out,y,by rw [q4],q1,q2,q3,q5⟩
    ·rw [aH s];simp only [bM,aB,aK,aA];rw [aH tc];rw [E1 _ _ _ _ _ _ _ _ _ _ _ _ _ _ _ _ _ x.se rs];have W:Gg x.la=[x.la]:=by unfold Gg; rw [aH λe=>s (.inl e)]
     rw [W];refine ⟨[x.la],{ x with l:=x.l-1,ti:=0,tk:=x.tk+1,se:=x.se+1 },Z,Z,Z,Z,⟨⟨h.ts.up rs,h1,by show x.n≤_; omega,by show x.se+1≤_; omega,by show x.tk+1≤_; omega,by show (0:Int)≤0; omega,by show (0:Int)≤1000; omega,by show x.l-1≤_; omega,h.la,h.ok,h.own⟩,rv,λG J=>?_,λt=>absurd a t,Z,Z,.inl Z⟩⟩;simp at J;subst J;exact ⟨Z,λe=>s (.inl e)⟩
  ·rw [aO Z];simp only [aA];rw [aH tc];exact still x.ti z I
 ·rw [aO (by simpa using a)];exact ⟨[],x,Z,Z,Z,Z,.same h⟩
end Go.Proofs.YtojmckcglalbnaaGreat
namespace Go.Proofs.YtojmckcglalbnaaGreat
open Go.Proofs.Tryz renaming prog → pg0
open Go.RowKit Go.Lib
noncomputable def Hw (p:lm) (s:Signed):Bool:=match yg p s.lg with
 | none=>false
 | some x=>ob (BC x.Signed.Tag) (BC s.Tag)
theorem abq (p:lm) (peer:ByteArray) (g:Option mc) (a:List lg) (n:Int) (last:List Int) (s:Signed):yH p peer g a n last s=some (Hw p s):=by
 unfold yH Hw yg
 induction p.lK with
 | nil=>rfl
 | cons x l ih=>
  rw [xc,gj];cases h:ni x.Signed.lg s.lg
  ·simp only [aB,aK]; exact ih
  ·simp only [aR]; rfl
noncomputable def X8 (p:lm) (v:lh→Bool) (l:List Signed):Int :=
 if l.all (Hw p) then if l.all (λx=>FH p v x.lg) then 0 else 44 else 42
theorem WJ (p:lm) (hp:PB p) (peer:ByteArray) (v:lh→Bool) (m:((List (lh×(List (ByteArray×Bool))))×(List lg)×(List (lh×(List lg)))×(List (ByteArray×(List lg)))×(List mT)×Int)) (d:∀r,ux m.1 m.2.1 m.2.2.1 m.2.2.2.1 m.2.2.2.2.1 m.2.2.2.2.2 r peer=some (v r)) (g:Option mc) (a:List lg) (n:Int) (last:List Int) :
  ∀l:List Signed,rD p m peer g a n last l=some (if l.all (λx=>FH p v x.lg) then .inr () else .inl 44)
 | []=>by rw [rD]; rfl
 | x::l=>by
  have ih:=WJ p hp peer v m d g a n last l;rw [rD,KW p hp,ih,List.all_cons];simp only [aA];unfold FH;by_cases h:(rH p x.lg).2=0
  ·have k:=Hv p x.lg;have j:=I4 v (λr=>vc r m.1 m.2.1 m.2.2.1 m.2.2.2.1 m.2.2.2.2.1 m.2.2.2.2.2 p peer g a n last) (λr=>by unfold vc; rw [d]; rfl) (rH p x.lg).1 (by unfold Gd; omega);have e:((rH p x.lg).2 != 0)=false:=by simp [h]
   have i:(⟨(rH p x.lg).1.Op,(rH p x.lg).1.K,(rH p x.lg).1.lh,(rH p x.lg).1.Kids⟩:Formula)=(rH p x.lg).1:=by cases (rH p x.lg).1; rfl
   simp only [e,aB,aK,i,j,aA,h,cK,gu];cases CB v (rH p x.lg).1 <;> simp
  ·have e:((rH p x.lg).2 != 0)=true:=by simpa using h
   simp only [e,aR,aA,h,cX,iv,aB,aK]
theorem XM (p:lm) (hp:PB p) (peer:ByteArray) (g:Option mc) (d:List lg) (n:Int) (last:List Int) (h:d.length≤30000) (a:List Signed) :
  ∀l:List Signed,rE p peer g d n last a l=some (if l.all (Hw p) then if a.all (λx=>FH p (vD d peer) x.lg) then 0 else 44 else 42)
 | []=>by
  obtain ⟨m,e,i⟩:=Rz d rs peer;rw [rE,e,aA,WJ p hp peer _ m i];simp only [aA,List.all_nil,aR];cases a.all λx=>FH p (vD d peer) x.lg <;> rfl
 | x::l=>by
  have ih:=XM p hp peer g d n last h a l;rw [rE,abq,aA,ih,List.all_cons];cases Hw p x <;> simp
theorem aaX (p:lm) (hp:PB p) (peer:ByteArray) (g:Option mc) (a:List lg) (n:Int) (last:List Int) (d:a.length≤30000) (l:List Signed) :
  wC p peer g a n last l=some (X8 p (vD a peer) l):=by
 unfold wC X8;exact XM p hp peer g a n last d l l
theorem Vl (ks:List Key) (t:BI [] ks=0):∀(l:List Signed) (acc:List lg),acc.length+l.length≤100000000→
  ∃r,rJ (some ⟨sr ks⟩) l acc=some r∧r.length≤acc.length+l.length∧(∀c,c∈acc∨Jg ks l c→nH c=true→c∈r)
 | [],acc,h=>by
  obtain ⟨s,es,z⟩:=H3 acc (by simp at h; omega);refine ⟨s,by rw [rJ,es]; rfl,by have:=uy Eh z; simp; omega,λc d i=>(z.2 c).2 ⟨?_,i⟩⟩;rcases d with d | ⟨x,I,_⟩
  ·exact d
  ·cases I
 | x::l,acc,h=>by
  rw [aG] at h;obtain ⟨e,u⟩:=V9 ks t x;rw [rJ,u,aA];by_cases k:e=0
  ·obtain ⟨r,q,v,d⟩:=Vl ks t l (acc++[x.lg]) ss;rw [aO (by simp [k]),od ss ss,aA,q];refine ⟨r,Z,by simp at v ⊢; omega,λc h1 i=>d c ?_ i⟩;rcases h1 with h1 | ⟨y,a,j,g⟩
   ·exact .inl (by simp [h1])
   ·rcases aW.1 a with a | a
    ·subst a; exact .inl (by simp [j])
    ·exact .inr ⟨y,a,j,g⟩
  ·obtain ⟨r,q,v,d⟩:=Vl ks t l acc rs;rw [aH (by simpa using k),q];refine ⟨r,Z,ss,λc h1 i=>d c ?_ i⟩;rcases h1 with h1 | ⟨y,a,j,g⟩
   ·exact .inl h1
   ·rcases aW.1 a with a | a
    ·subst a; rw [u] at g; exact absurd (gQ g) k
    ·exact .inr ⟨y,a,j,g⟩
theorem X6 (x:tT) (a:B8 x.B) (d:x.B.length≤1000000):wX x=some (vR x.B).2.1.nm:=by
 unfold wX;rw [KX x.B a d,aA];by_cases e:(vR x.B).2.2=0
 ·rw [aH (by simpa using e)]
 ·rw [aO (by simpa using e),(aan e).1]
def A0 (ks:List Key) (P:lm) (peer:ByteArray):List tT→List lg→Int→List Int→List lg→Int→List Int→Prop
 | [],c,n,la,d,g,a=>c=d∧n=g∧la=a
 | x::l,c,n,la,d,g,a=>if x.Out=true then (∃n2,vU P peer (some ⟨sr ks⟩) c n la x.B=some (0,n2,x.B)∧A0 ks P peer l c n2 x.B d g a)
   else ∃r,(wX x).bind (yB (some ⟨sr ks⟩))=some r∧A0 ks P peer l (c++r) n la d g a
theorem A0.Mr {ks:List Key} {P:lm} {peer:ByteArray}:∀{l m:List tT} {c:List lg} {n:Int} {la:List Int} {c1:List lg} {n1:Int} {a:List Int} {c2:List lg} {n2:Int} {d:List Int},A0 ks P peer l c n la c1 n1 a→A0 ks P peer m c1 n1 a c2 n2 d→A0 ks P peer (l++m) c n la c2 n2 d
 | [],m,c,n,la,c1,n1,a,c2,n2,d,h,k=>by obtain ⟨rfl,rfl,rfl⟩:=h; exact k
 | x::l,m,c,n,la,c1,n1,a,c2,n2,d,h,k=>by
  rw [bU];unfold A0 at h ⊢;split at h
  ·rename_i g
   rw [aO g];obtain ⟨q,e,h⟩:=h;exact ⟨q,e,h.Mr k⟩
  ·rename_i g
   rw [aH g];obtain ⟨q,e,h⟩:=h;exact ⟨q,e,h.Mr k⟩
theorem Ox (ks:List Key) (P:lm) (peer:ByteArray) (all:List tT):∀(l:List tT) (i:Nat) (c:List lg) (n:Int) (la:List Int) (d:List lg) (g:Int) (a:List Int),A0 ks P peer l c n la d g a→d.length≤100000000→
  uz (some ⟨sr ks⟩) P peer all l i c n la=some ⟨(all.length:Int),0⟩∧c.length≤d.length
 | [],i,c,n,la,d,g,a,h,k=>by
  obtain ⟨rfl,_,_⟩:=h;exact ⟨by rw [uz],aY _⟩
 | x::l,i,c,n,la,d,g,a,h,k=>by
  unfold A0 at h;split at h
  ·rename_i t
   obtain ⟨q,e,h⟩:=h;obtain ⟨h1,j⟩:=Ox ks P peer all l (i+1) c q x.B d g a h k;refine ⟨?_,j⟩;rw [uz,t,aH rv,e,aA];simp only [eQ,aB,aK];exact h1
  ·rename_i t
   obtain ⟨q,e,h⟩:=h;obtain ⟨h1,j⟩:=Ox ks P peer all l (i+1) (c++q) n la d g a h k;rw [aC] at j;refine ⟨?_,rs⟩;have u:x.Out=false:=by simpa using t
   rw [uz,u,aO rv];cases es:wX x with
   | none=>rw [es] at e; cases e
   | some s=>
    rw [es,aA] at e;rw [aA,e,aA,od rs rs,aA];exact h1
structure Xm (ks:List Key) (x:SS) (c:List lg) (n:Int) (la:List Int):Prop where
 la:la=x.la
 num:x.la=[]∧n=0∨(vR x.la).1=n
 acc:∀d∈x.S.lD,nH d=true→d∈c
theorem YG {p:lm} {s:Signed} (h:∃y,yg p s.lg=some y∧y.Signed.Tag=s.Tag):Hw p s=true:=by
 obtain ⟨y,e,a⟩:=h;unfold Hw;rw [e];show ob (BC y.Signed.Tag) (BC s.Tag)=true;rw [a,D7]
theorem YZ {T:pj} {f:Formula} {tr i:Nat} {y:SS} (ks:List Key) (t:BO T f tr i y) (J:i≤60) (u:y.la.length≠0) (c:List lg) (I:c.length≤30000) (ha:∀d∈y.S.lD,nH d=true→d∈c) (n:Int) (la:List Int) (a:n < (vR y.la).1∨n=(vR y.la).1∧la=y.la) :
  vU y.S.lm y.S.mI (some ⟨sr ks⟩) c n la y.la=some (0,(vR y.la).1,y.la):=by
 rcases t.la with h | h
 ·rw [h] at u; exact absurd Z u
 ·obtain ⟨_,M,z,k,m,e,_,_,v⟩:=h;rw [e] at a;unfold vU;rw [KX y.la z rs,e,aA];simp only [eQ,aB,aK] at *;have c1:decide ((k:Int) < n)=false:=by simp; omega
  rw [c1,aH rv];have c2:((if ((k:Int)==n) then (rk y.la la).bind λj=>some (!j) else some false):Option Bool)=some false:=by
   by_cases q:(k:Int)=n
   ·rw [aO (by simpa using q)];rcases a with a | a
    ·omega
    ·rw [a.2];unfold rk;rw [D7];rfl
   ·rw [aH (by simpa using q)]
  rw [c2,aA,aH rv,aaX _ t.ts.pb _ _ _ _ _ I];have x:m.nm.all (Hw y.S.lm)=true:=fV.2 λs g=>YG (v s g).2.2
  have a2:m.nm.all (λs=>FH y.S.lm (vD c y.S.mI) s.lg)=true:=fV.2 λs g=>Yf (YS ha y.S.mI) s.lg (v s g).1
  unfold X8;rw [x,a2];rfl
theorem MO {T:pj} {f:Formula} {tr i:Nat} {x y:SS} {out:List (List Int)} (ks:List Key) (z:BO T f tr i x) (Q:i≤50) (hO:Ik T f tr i x out y) {c:List lg} {n:Int} {la:List Int} (h:Xm ks x c n la) (c2:List lg) (M:c2.length≤30000) (ha:∀d∈y.S.lD,nH d=true→d∈c2) :
  ∃s,A0 ks x.S.lm x.S.mI (out.map λb=>(⟨true,b⟩:tT)) c2 n la c2 s y.la∧Xm ks y c2 s y.la:=by
 have j:=hO.one;have a:=hO.fresh;have same:y.la=x.la→out=[]→∃s,A0 ks x.S.lm x.S.mI (out.map λb=>(⟨true,b⟩:tT)) c2 n la c2 s y.la∧Xm ks y c2 s y.la:=λv J=>by
  subst J;exact ⟨n,⟨Z,Z,by rw [h.la,v]⟩,Z,by rw [v]; exact h.num,ha⟩
 match out,j,hO.last,same,a with
 | [],_,_,same,a=>
  rcases a with e | ⟨e,_⟩
  ·exact same e Z
  ·exact absurd Z e
 | [F],_,O,_,a=>
  obtain ⟨rfl,g⟩:=O F rv;have P:n < (vR y.la).1∨n=(vR y.la).1∧la=y.la:=by
   rcases a with e | ⟨_,e⟩
   ·rcases h.num with q | q
    ·rw [e,q.1] at g; exact absurd Z g
    ·exact .inr ⟨by rw [e]; exact q.symm,by rw [h.la,e]⟩
   ·left
    have n1:=z.n1;rcases z.la with q | ⟨_,_,_,k,m,t,U,k2,_⟩
    ·rcases h.num with u | u
     ·omega
     ·rw [q] at u;have:(vR []).1=0:=by decide +kernel
      omega
    ·rcases h.num with u | u
     ·rw [u.1] at t;have:(vR []).1=0:=by decide +kernel
      rw [t] at this;simp at this;omega
     ·rw [t] at u;simp only at u;omega
  have I:=YZ ks hO.HZ rs g c2 M ha n la P;rw [hO.par,hO.peer] at I;refine ⟨_,?_,Z,.inr Z,ha⟩;rw [bQ,ga];unfold A0;rw [aO Z];exact ⟨_,I,Z,Z,Z⟩
theorem LP:∀(a:List (List Int)) (l:List tT),l.length+a.length≤1000000→rF a l=some (l++a.map λb=>(⟨true,b⟩:tT))
 | [],l,_=>by rw [rF]; simp
 | b::a,l,h=>by
  rw [aG] at h;rw [rF,od ss ss,aA,LP a _ ss];simp
theorem XB {j:Nat} {S:mD} (h:TS j S) (g:j≤100):Bf S=some S:=by
 have i:=h.ac;have k:=h.wa;have q:=h.ak;have a:=LB h.sh h.hd;have d:=h.pr.sm.Bd;unfold Bf;rw [KR rs,aA,KR rs,aA,SB rs,aA,SB rs];rfl
theorem adp (s:mD) (h:SQ s):∃r:Int,zz s=some r∧20*(s.lD.length:Int)≤r∧r≤9000000000:=by
 have h1:=h.go;have q:=h.acc;have t:=h.sh;have u:=h.wl;have v:=h.al;have y:=h.WI;have z:=h.ask;have I:=h.peer;obtain ⟨a,d,j,k⟩:=Zm s.lm h1;have g:=g5 s.lD 0 rs rs;have i:=g5 s.Shown 0 rs rs;have c1:=Hb s.lD;unfold zz;rw [d,aA,show tB s.lD=_ from g,aA,show tB s.Shown=_ from i,aA];rw [od ss ss,aA,bL,od rs rs,aA];rw [mM (x:=a+(s.mI.size:Int)) rs rs,mM (x:=a+(s.mI.size:Int)+(0+(Aj s.lD:Int))) rs rs,mM rs rs];rw [Rs _ _ rs (by rw [Kg]; omega)];exact ⟨_,Z,rs,by rw [Kg]; omega⟩
theorem abZ (a b c:Int):wV a b c=some (decide (a≥b)&&decide (a≤c)):=by
 unfold wV;rw [Lp]; rfl
theorem Ya:DJ=some true:=by decide +kernel
theorem UR (a0:yJ) (W:a0.A.T.lu=true→rV a0.A.F=true) (ks:List Key) (hk:BI [] ks=0) (tr:Nat) (i:tr≤100) (s:Int) (t:1≤s) (u:s≤1000) (Q:Option mc×Int) (hr:Q.1=some ⟨sr ks⟩) (x0:mD×pj×Formula×Option mc×Ff×Int×Int×Bool×Int×Int) (q1:x0.2.1=a0.A.T) (q2:x0.2.2.1=a0.A.F) (q3:x0.2.2.2.1=some ⟨sr ks⟩) (q4:x0.2.2.2.2.1.timeout=s) (q5:x0.2.2.2.2.1.Je=(tr:Int)) :
  ∀(l:List HN) (k:Nat) (a:List tT) (x:SS) (c:List lg) (n:Int) (la:List Int),(∀o∈l,B8 o.B)→k+l.length≤30→BO a0.A.T a0.A.F tr k x→x.S.lm=a0.A.S.lm→x.S.mI=a0.A.S.mI→
   A0 ks a0.A.S.lm a0.A.S.mI a [] 0 [] c n la→Xm ks x c n la→c.length≤8*k→a.length≤2*k→
   sc x0 a0 Q l a x.S.lm.Name x.S.lm.lK x.S.lm.mi x.S.mI x.S.Room x.S.lD x.S.Shown x.S.lL x.S.me x.st x.e x.be (x.tk:Int) (x.se:Int) x.w x.c (x.n:Int) (x.l:Int) x.ti x.la x.go=some true
 | [],k,a,x,c,n,la,_,hl,J,v,y,hp,ha,hc,hn=>by
  have h:=(Ox ks a0.A.S.lm a0.A.S.mI a a 0 [] 0 [] c n la hp rs).1;rw [sc];unfold zA;rw [hr,aH rv,h,aA];unfold Eu;simp
 | o::l,k,a,x,c,n,la,ho,hl,J,v,y,hp,ha,hc,hn=>by
  rw [aG] at hl;have b8:=ho o rv;rw [sc];by_cases cb:(o.B.length:Int) > 1500
  ·rw [aO (by simpa using cb)]
  rw [aH (by simpa using cb)];simp only [q1,q2,q3,q4,q5,Zy];rw [show (⟨(⟨x.S.lm.Name,x.S.lm.lK,x.S.lm.mi⟩:lm),x.S.mI,x.S.Room,x.S.lD,x.S.Shown,x.S.lL,x.S.me⟩:mD)=x.S from rfl];cases ct:o.Pt
  ·rw [aH rv];obtain ⟨out,⟨yS,yw,yc,yn,yl,ad,a8,a7,ab,ye,a6,ae,aa⟩,q,P,hO,z⟩:=ac8 J rs i W ks hk s b8 rs;simp only at P q z;subst P;have af:=PU b8 rs;obtain ⟨r,er,a1,O⟩:=Vl ks hk (vR o.B).2.1.nm [] ss;simp only [cM,fJ,cV,false_or] at a1 O;have U:∀d∈yS.lD,nH d=true→d∈c++r:=λd hd I=>by
    rcases z d hd with h | h
    ·exact bY _ (ha.acc d h I)
    ·exact dr _ (O d h I)
   obtain ⟨n',g,j⟩:=MO ks J rs hO ha (c++r) (by rw [aC]; omega) U;rw [v,y] at g;have M:=hO.one;have Y:A0 ks a0.A.S.lm a0.A.S.mI [⟨false,o.B⟩] c n la (c++r) n la:=by
    unfold A0;rw [aH rv,X6 _ b8 (by show o.B.length≤_; omega)];exact ⟨r,er,Z,Z,Z⟩
   have ih:=UR a0 W ks hk tr i s t u Q hr x0 q1 q2 q3 q4 q5 l (k+1) (a++[⟨false,o.B⟩]++out.map λb=>(⟨true,b⟩:tT)) _ _ _ _ (λo h=>ho o (by simp [h])) rs hO.HZ (hO.par.trans v) (hO.peer.trans y) ((hp.Mr Y).Mr g) j (by rw [aC]; omega) (by simp only [aC,eB,aG,cM]; omega);rw [od ss ss,aA,q,aA];unfold ru;simp only;rw [LP _ _ ss,aA];exact ih
  ·rw [aO Z];obtain ⟨out,⟨yS,yw,yc,yn,yl,ad,a8,a7,ab,ye,a6,ae,aa⟩,q,P,u2,u3,hO⟩:=acy J rs i (some ⟨sr ks⟩) s t u;simp only at P u2 u3 q;subst P u2 u3;obtain ⟨n',g,j⟩:=MO ks J rs hO ha c rs ha.acc;rw [v,y] at g;have M:=hO.one;have ih:=UR a0 W ks hk tr i s t u Q hr x0 q1 q2 q3 q4 q5 l (k+1) (a++out.map λb=>(⟨true,b⟩:tT)) _ _ _ _ (λo h=>ho o (by simp [h])) rs hO.HZ (hO.par.trans v) (hO.peer.trans y) (hp.Mr g) j rs (by simp only [aC,eB]; omega);rw [q,aA];unfold ru;simp only;rw [LP _ _ rs,aA];exact ih
theorem MM (t:DJ=some true) (x:yJ) (j:SQ x.A.S) (t8:∀g∈x.A.S.lm.lK,B8 g.Signed.Tag) (hf:Dt x.A.F≤50000000) (hk:E2 x.A.G≤1000000000) (ho:∀o∈x.L,B8 o.B):zo x=some true:=by
 obtain ⟨r,v,r1,r2⟩:=adp x.A.S j;obtain ⟨q,eq,q1,q2⟩:=Lx x.A.F hf;have ek:=g6K x.A.G 0 rs rs;have hz:=Hb x.A.S.Shown;have h3:=j.sh;have h4:=j.wl;have h5:=j.al;have hn:=HR x.A.F;have eg:DL x.A=some (r+20*q+(E2 x.A.G:Int)):=by
  unfold DL;rw [v];simp only [aA];rw [eq,aA,show wY x.A.G []=_ from ek,aA];rw [mM (x:=20*q) rs rs,mM (x:=r+20*q) rs rs,mM rs rs]
  congr 1; omega
 unfold zo;rw [t,ZI,eg];simp only [aA,bM,aB,aK,MQ];by_cases u:BI [] x.A.G=0
 ·simp only [u,aR,eQ,aB,aK,Bool.or_false];cases s:(decide (r+20*q+(E2 x.A.G:Int) > 6000)||decide ((x.L.length:Int) > 25)||decide ((x.A.S.lD.length:Int) > 0))
  ·simp only [aB,aK];simp only [gE,fU] at s;obtain ⟨⟨cg,cl⟩,ca⟩:=s;have a:x.A.S.lD=[]:=ed.1 rs;unfold F5;obtain ⟨b,e,k⟩:=Wq x.A.S j.p.toPB rs rs rs rs;have v:=D2 x.A.F rs;unfold Hr;rw [aH rv,e];simp only [aA,abZ,Lp,MQ,v];cases hx:(!b||!(decide (x.A.T.ny≥1)&&decide (x.A.T.ny≤2)&&(decide (x.A.T.Room≥0)&&decide (x.A.T.Room≤256))&&(decide (x.A.T.re≥1)&&decide (x.A.T.re≤1000))&&(decide (x.A.T.wc≥0)&&decide (x.A.T.wc≤100))&&(decide (x.A.T.vp≥0)&&decide (x.A.T.vp≤1073741824)))||(x.A.T.Room != x.A.S.Room)||(x.A.T.lu&&!rV x.A.F))
   ·rw [aH rv];simp only [gE,Bool.not_eq_false',bI,bV,Bool.and_eq_false_imp,bne_eq_false_iff_eq] at hx;obtain ⟨⟨⟨x1,x2⟩,x3⟩,x4⟩:=hx;have i:=k.1 x1;obtain ⟨⟨⟨⟨p1,p2⟩,p3,p4⟩,p5⟩,p6⟩:(((1≤x.A.T.ny∧x.A.T.ny≤2)∧1≤x.A.T.re∧x.A.T.re≤1000)∧0≤x.A.T.wc)∧x.A.T.wc≤100:=by omega
    obtain ⟨tr,I⟩:=Int.eq_ofNat_of_zero_le p5;have a7:=LB i.sh i.held;have a6:=i.LG.sm.Bd;have ts:TS 0 x.A.S:=⟨j.p.toPB,i.LG,t8,i.sh,i.held,rs,rs,rs⟩;have d1:decide (x.A.T.re < 1)=false:=by simp; omega
    have d2:decide (x.A.T.re > 1000)=false:=by simp; omega
    have d3:decide (x.A.T.wc < 0)=false:=by simp; omega
    have d4:decide (x.A.T.wc > 100)=false:=by simp; omega
    have g0:BO x.A.T x.A.F tr 0 ⟨x.A.S,!x.A.T.lu,false,1,0,0,[],0,0,0,false,0,0⟩:=⟨ts,aY _,by show 1≤1+2*0; omega,aY _,aY _,iL _,by show (0:Int)≤1000; omega,ej _,.inl Z,.inl ⟨Z,Z⟩,λh=>by cases h⟩;unfold KT;simp only [MQ,aA,d1,d2,d3,d4,Bool.or_false,aB,aK,Vo,XB ts rs,eQ];obtain ⟨out,⟨yS,yw,yc,yn,yl,O,J,aa,ab,ye,a8,ad,M⟩,qq,P,Q,U,W,Y,e6,e7,hO⟩:=abH g0 rs rs rs (some ⟨sr x.A.G⟩) x.A.T.re;simp only at P Q U W Y e6 e7 qq;subst P Q U W Y e6 e7;rw [I];rw [show ((1:Nat):Int)=1 from rfl,show ((0:Nat):Int)=0 from rfl] at qq;rw [qq,aA];have a0:Xm x.A.G (⟨x.A.S,!x.A.T.lu,false,1,0,0,[],0,0,0,false,0,0⟩:SS) [] 0 []:=⟨Z,.inl ⟨Z,Z⟩,λd hd _=>by rw [show (SS.S ⟨x.A.S,!x.A.T.lu,false,1,0,0,[],0,0,0,false,0,0⟩)=x.A.S from rfl,a] at hd; cases hd⟩;obtain ⟨n',z,y⟩:=MO x.A.G g0 rs hO a0 [] rv (λd hd _=>by rw [show (SS.S ⟨x.A.S,yw,false,yn,yl,O,J,0,0,0,false,0,M⟩)=x.A.S from rfl,a] at hd; cases hd);have a1:=hO.one;unfold ru;simp only;rw [LP _ _ ss,aA];exact UR x x4 x.A.G u tr rs x.A.T.re p3 p4 (some ⟨sr x.A.G⟩,0) Z (x.A.S,x.A.T,x.A.F,some ⟨sr x.A.G⟩,⟨!x.A.T.lu,false,1,x.A.T.re,(tr:Int),0,0,[],0⟩,0,0,false,0,0) Z Z Z Z Z x.L 1 _ _ _ _ _ ho rs hO.HZ Z Z z y rv ss
   ·rw [aO Z];rfl
  ·simp only [aR]
 ·have:(BI [] x.A.G != 0)=true:=by simpa using u
  simp only [u,aK,this,Bool.or_true,Bool.true_or,aR]
end Go.Proofs.YtojmckcglalbnaaGreat
namespace Go.Proofs.YtojmckcglalbnaaGreat.Lf
open Go.ChangeShapes Go.WideShapes Go.ChangeAt Go.RowKit
open Go.Proofs.YtojmckcglalbnaaGreat (Rows.uptoBulk Rows.uptoBulkAll Rows.uptoSmall)
theorem abY {H:Type} (d:DataW H):1≤Rows.uptoBulk d:=by
 cases d with
 | lit l=>cases l <;> simp [Rows.uptoBulk]
 | nil=>simp [Rows.uptoBulk]
 | ptr d=>simp [Rows.uptoBulk]
 | slice a spare=>simp [Rows.uptoBulk]
 | agg parts=>simp [Rows.uptoBulk]
 | iface t d=>simp [Rows.uptoBulk]
 | map entries=>simp [Rows.uptoBulk]
 | held h=>simp [Rows.uptoBulk]
def My {α:Type} (P:Program) (t:TypeId) (enc:α→List Value) (sz:α→Nat):Prop :=
 ∀(H:Type) (d:TypeId×Value→H) (W:World) (base:Nat) (sp:Nat→Bool) (hd:Bool) (fuel:Nat) (cs:List Value) (x:DataW H×List MemPlace),
  DataW.trod d P W base sp hd fuel t cs=some x→∃a:α,cs=enc a∧sz a≤Rows.uptoBulk x.1
theorem UE {P:Program} {t:TypeId} (a:P.underlying t=some .string):My P t (λs:ByteArray=>[.string s]) (λs=>s.size):=by
 intro H d W base sp hd fuel cs x h;obtain ⟨s,rfl,rfl,_⟩:=DataW.trod_string a h;refine ⟨s,Z,?_⟩;have e:s.data.toList.length=s.size:=by rw [dF]; rfl
 simp [Rows.uptoBulk,e]
theorem Z6 {P:Program} {t:TypeId} {k:IntKind} (a:P.underlying t=some (.int k)):My P t (λn:Int=>[.int k n]) (λ_=>0):=by
 intro H d W base sp hd fuel cs x h;obtain ⟨n,rfl,rfl,_⟩:=DataW.trod_int a h;exact ⟨n,Z,ej _⟩
theorem aaq {α:Type} {n:Nat} {p:Nat→α→Prop} (h:∀i,i < n→∃x,p i x):∃l:List α,l.length=n∧∀i x,l[i]? =some x→p i x:=by
 induction n with
 | zero=>exact ⟨[],Z,rv⟩
 | succ n ih=>
  obtain ⟨l,h1,g⟩:=ih λi d=>h i rs
  obtain ⟨x,j⟩:=h n rs;refine ⟨l++[x],by simp [h1],λi y a=>?_⟩;by_cases d:i < l.length
  ·rw [List.getElem?_append_left d] at a;exact g i y a
  ·rw [gA rs] at a;have:i-l.length=0:=by
    cases hd:i-l.length with
    | zero=>rfl
    | succ m=>rw [hd] at a; simp at a
   rw [this] at a;have e:i=n:=by omega
   simp at a;subst a; rw [e]; exact j
theorem RD {W:World} {a:Addr} {v:Value} (h:W.cell? a=some v):∃cs T fr,W.heap[a.block]? =some (.cells cs T fr)∧a.spot=none∧cs[a.off]? =some v:=by
 unfold World.cell? at h;split at h
 ·rename_i c T fr g
  by_cases d:a.spot.isSome
  ·simp [d] at h
  ·simp only [d] at h;exact ⟨c,T,fr,g,by simpa using d,by simpa using h⟩
 ·cases h
theorem Ex.below {dd:Bool} {W W':World} (h:Ex dd W W'):Below W.heap.size W W':=⟨h.os,h.tape,h.output,h.size,h.oJ⟩
theorem J1 {H:Type} {s:TypeId×Value→H} {P:Program} (z:laidOutB P=true) {W W':World} {g:Nat→Bool} :
  ∀{ts:List TypeId} {vs:List Value} {j:List (DataW H)} {i:List MemPlace},(∀t∈ts,P.readableRec t=true∧t < P.types.size)→
   DataW.TrodAll s P W 0 (λ_=>true) true ts vs j i→(∀p∈i,W.sameAt W' p)→(∀p∈i,g p.block=true)→DataW.TrodAll s P W' 0 g true ts vs j i
 | [],_,_,_,_,h,_,_=>by
  obtain ⟨rfl,rfl,rfl⟩:=trodAll_nil h;exact trodAll_mk0
 | t::ts,_,_,_,k,h,h1,y=>by
  obtain ⟨v,vs,d,j,p,q,rfl,rfl,rfl,I,J⟩:=trodAll_cons h;exact trodAll_cons_mk (WideElems.Trod_stays z (k t rv).1 (k t rv).2 I (λx a=>h1 x (by simp [a])) λx a=>y x (by simp [a]))
   (J1 z (λu hu=>k u (by simp [hu])) J (λx a=>h1 x (by simp [a])) λx a=>y x (by simp [a]))
theorem UB {H:Type} {enc:TypeId×Value→H} {P:Program} (hl:laidOutB P=true) {f:Func} {s:ChangeSpec} {apart fresh handsOn again:Bool} {W W':World} {args:Array Value} {v:Value} {a gs:List (DataW H)} {before:List MemPlace} (hr:∀t∈f.params.toList,P.readableRec t=true∧t < P.types.size) (z:s.vars=[]) (J:DataW.Whole enc P f.params.toList s.vars apart W args.toList a gs before) {dd:Bool} (Y:Ex dd W W') (d:∀(b:Nat) (sp:Nat→Bool) (hd:Bool),DataW.TrodAll enc P W' b sp hd f.resultTypes.toList (v.resultList f.resultTypes.size) (s.fn H (a++gs)).results []) (g:(s.fn H (a++gs)).args=a) (i:(s.fn H (a++gs)).vars=[]) (Q:∀(j:Nat) (t:TypeId) (r:Value),f.resultTypes[j]? =some t→(v.resultList f.resultTypes.size)[j]? =some r→Value.okWide P W' .any 0 t r) :
  s.post enc P f apart fresh handsOn again W args v W':=by
 have h:=J.lt;have hold:∀p∈before,(λb=>decide (b < W.heap.size)) p.block=true:=λp hp=>by simpa using h p hp
 have O:=Ex.below Y;have M:=J;obtain ⟨p,q,hA,hV,u,hz,hn⟩:=J;rw [z] at hV;obtain ⟨rfl,rfl⟩:=trodVars_none hV;rw [cN] at u;subst u;have y:∀sp:Nat→Bool,(∀p∈before,sp p.block=true)→DataW.TrodAll enc P W' 0 sp true f.params.toList args.toList (s.fn H (a++[])).args before:=λsp U=>by
  rw [g];exact J1 hl hr hA (λx Y=>O.same (h x Y)) U
 have I:∀sp:Nat→Bool,DataW.TrodVars enc P W' sp s.vars (s.fn H (a++[])).vars []:=λsp=>by
  rw [i,z]; rfl
 refine ⟨a,[],before,[],before,[],M,d _ _ _,y _ hold,I _,World.keptBut_mono (λp hp=>⟨hp,?_⟩) (O.frame (·∈before)),λ_=>?_⟩
 ·exact Or.inr (Or.inl hp)
 ·refine ⟨Q,_,_,([]++before)++[],⟨[]++before,[],trodAll_append (y _ λ_ _=>rfl) (d _ _ _),I _,Z,?_,?_⟩,?_⟩
  ·intro b off hp;have k:MemPlace.cell b off∈before:=by simpa using hp
   rw [World.frozen?_of_block (w:=W) (O.block b (h _ k))];exact hz b off k
  ·intro ha;simpa using hn ha
  ·intro p hp _;simpa using hp
def JV {α:Type} (P:Program) (t:TypeId) (R:tu α) (sz:α→Nat):Prop :=
 ∀(H:Type) (d:TypeId×Value→H) (W:World) (base:Nat) (sp:Nat→Bool) (hd:Bool) (fuel:Nat) (cs:List Value) (x:DataW H×List MemPlace),
  DataW.trod d P W base sp hd fuel t cs=some x→∃a:α,R (hp W) cs a∧sz a≤Rows.uptoBulk x.1
theorem My.rel {α:Type} {P:Program} {t:TypeId} {enc:α→List Value} {sz:α→Nat} (h:My P t enc sz):JV P t (Pl enc) sz:=λH a W base sp hd fuel cs x d=>h H a W base sp hd fuel cs x d
theorem MB {H:Type}:∀l:List (DataW H),Rows.uptoBulkAll l=(l.map Rows.uptoBulk).sum
 | []=>by simp [Rows.uptoBulkAll]
 | d::l=>by simp [Rows.uptoBulkAll,MB l]
theorem WM {α:Type} (g:α→Nat):∀(n:Nat) (f:Nat→Nat) {l:List α},l.length=n→(∀i x,l[i]? =some x→g x≤f i)→(l.map g).sum≤((List.range n).map f).sum
 | 0,f,l,d,h=>by
  obtain rfl:=ed.1 d;simp
 | n+1,f,[],d,h=>by cases d
 | n+1,f,a::l,d,h=>by
  rw [List.range_succ_eq_map,bQ,bQ,fP,fP,eY];have h1:=h 0 a Z;have k:=WM g n (f∘Nat.succ) (l:=l) (by simpa using d) (λi x j=>h (i+1) x (by simpa using j));omega
def uj {α:Type} (sz:α→Nat) (l:List α):Nat:=(l.map λa=>max 1 (sz a)).sum
theorem Fc {α:Type} (sz:α→Nat):∀l:List α,l.length≤uj sz l
 | []=>aY _
 | a::l=>by have:=Fc sz l; simp only [uj,bQ,fP,aG] at this ⊢; omega
theorem Oe {α:Type} {sz:α→Nat}:∀{l:List α} {a:α},a∈l→sz a≤uj sz l
 | b::l,a,h=>by
  simp only [uj,bQ,fP];rcases aW.1 h with rfl | h
  ·omega
  ·have:=Oe (sz:=sz) h; simp only [uj] at this; omega
theorem Me {α:Type} {P:Program} {t e:TypeId} {k:Nat} {R:tu α} {sz:α→Nat} (hk:P.cellsOf e=k) (a6:0 < k) (ht:P.underlying t=some (.slice e)) {H:Type} {eh:TypeId×Value→H} {W:World} {base:Nat} {sp:Nat→Bool} {held:Bool} {fuel:Nat} {cs:List Value} {x:DataW H×List MemPlace} (hd:∀(fuel:Nat) (cs:List Value) (y:DataW H×List MemPlace),DataW.trod eh P W base sp held fuel e cs=some y→SizeOf.sizeOf y.1 < SizeOf.sizeOf x.1→∃a:α,R (hp W) cs a∧sz a≤Rows.uptoBulk y.1) (hf:DataW.trod eh P W base sp held fuel t cs=some x) :
  ∃v l,cs=[v]∧Sl R k (hp W) v l∧uj sz l≤Rows.uptoBulk x.1:=by
 rcases Go.Deep.open_slice ht hf with ⟨rfl,rfl⟩ | ⟨a,ln,cp,m,n,D,Q,rfl,hb,hl,hm,a8,rfl,a1⟩
 ·exact ⟨_,[],Z,⟨none,0,Z,aY _,ej _,λh=>absurd h (Nat.lt_irrefl _)⟩,ej _⟩
 ·have ah:ln≤m:=by rw [a8]; split <;> omega
  have hB:((List.range ln).map λi=>Rows.uptoBulk (D i)).sum≤Rows.uptoBulk (DataW.slice ((List.range ln).map D) ((List.range (m-ln)).map λj=>D (ln+j))):=by
   simp only [Rows.uptoBulk];rw [MB,eY];have e:((List.range ln).map λi=>Rows.uptoBulk (D i))=(List.range ln).map (Rows.uptoBulk∘D):=rfl;rw [e];omega
  have hS:∀i,i < ln→SizeOf.sizeOf (D i) < SizeOf.sizeOf (DataW.slice ((List.range ln).map D) ((List.range (m-ln)).map λj=>D (ln+j))):=λi hi=>by
   have:=List.sizeOf_lt_of_mem (bT.2 ⟨i,List.mem_range.2 hi,Z⟩:D i∈(List.range ln).map D);rw [DataW.slice.sizeOf_spec]; omega
  simp only at hd ⊢;generalize Rows.uptoBulk (DataW.slice ((List.range ln).map D) ((List.range (m-ln)).map λj=>D (ln+j)))=B at hB;obtain ⟨l,a7,u⟩:=aaq (α:=α) (n:=ln) (p:=λi x=>∃cs',W.cells? base (a.add (i*k)) k=some cs'∧R (hp W) cs' x∧sz x≤Rows.uptoBulk (D i)) λi hi=>by
   obtain ⟨cs',h1,M⟩:=a1 i rs;obtain ⟨x,hR,O⟩:=hd _ _ _ M (hS i hi);rw [hk] at h1;exact ⟨x,cs',h1,hR,O⟩
  subst a7;refine ⟨_,l,Z,⟨some a,cp,Z,hl,hm,λh0=>?_⟩,?_⟩
  ·have d:∀i x,l[i]? =some x→∃cs',R (hp W) cs' x∧cs'.length=k∧∀j,j < k→W.cell? ((a.add (i*k)).add j)=cs'[j]?:=λi x z=>
    let ⟨cs',h1,M,_⟩:=u i x z
    let ⟨_,O,h4⟩:=World.cells?_some h1
    ⟨cs',M,O,h4⟩
   obtain ⟨ae,_,h4,h5⟩:=d 0 l[0] (by simp [h0]);have U:=h5 0 a6;rw [Nat.zero_mul,dt rs] at U;have e0:(a.add 0).add 0=a:=rfl;rw [e0] at U;obtain ⟨cs,T,fr,Y,h8,_⟩:=RD U;obtain ⟨I,J,ad⟩:=a;simp only at Y h8;subst h8;refine ⟨I,J,cs,T,fr,Z,Y,λi x z=>?_⟩;obtain ⟨cs',gR,g1,g2⟩:=d i x z;refine ⟨cs',g1,gR,λj y hy=>?_⟩;have hj:j < k:=by
    rw [←g1];exact (bP.1 hy).1
   have h9:=g2 j hj;rw [Go.Deep.add_add,hy] at h9;obtain ⟨aa,T',af,g,ag,q⟩:=RD h9;have s:(Addr.add ⟨I,J,none⟩ (i*k+j)).block=I∧(Addr.add ⟨I,J,none⟩ (i*k+j)).off=J+(i*k+j):=by
    unfold Addr.add;split
    ·rename_i hz
     rw [hz]; exact ⟨Z,Z⟩
    ·exact ⟨Z,Z⟩
   rw [s.1,Y] at g;cases g;rw [s.2,←fM] at q;exact q
  ·refine dP (WM _ _ _ Z λi x z=>?_) hB;exact Nat.max_le.2 ⟨abY _,(u i x z).elim λ_ h=>h.2.2⟩
theorem pw {α:Type} {P:Program} {t e:TypeId} {k:Nat} {R:tu α} {sz:α→Nat} (hk:P.cellsOf e=k) (a:0 < k) (hd:JV P e R sz) (i:P.underlying t=some (.slice e)) {H:Type} {d:TypeId×Value→H} {W:World} {base:Nat} {sp:Nat→Bool} {held:Bool} {fuel:Nat} {cs:List Value} {x:DataW H×List MemPlace} (g:DataW.trod d P W base sp held fuel t cs=some x) :
  ∃v l,cs=[v]∧Sl R k (hp W) v l∧uj sz l≤Rows.uptoBulk x.1:=Me hk a i (λ_ _ _ h _=>hd _ _ _ _ _ _ _ _ _ h) g
def Sc {α:Type} (R:tu α) (Q:α→Prop):tu α:=λμ ys x=>R μ ys x∧Q x
theorem Sl.all {α:Type} {R:tu α} {Q:α→Prop} {k:Nat} {μ:mO} {v:Value} {l:List α} (h:Sl (Sc R Q) k μ v l):Sl R k μ v l∧∀x∈l,Q x:=by
 obtain ⟨A,c,rfl,h1,j,u⟩:=h;cases l with
 | nil=>exact ⟨⟨A,c,Z,h1,j,λh=>absurd h rv⟩,rv⟩
 | cons a l=>
  obtain ⟨b,o,cs,T,fr,e,y,q⟩:=u rv;refine ⟨⟨A,c,Z,h1,j,λ_=>⟨b,o,cs,T,fr,e,y,λi x g=>?_⟩⟩,λx g=>?_⟩
  ·obtain ⟨ys,s,d,t⟩:=q i x g;exact ⟨ys,s,d.1,t⟩
  ·obtain ⟨i,z⟩:=List.mem_iff_getElem?.1 g;obtain ⟨ys,s,d,t⟩:=q i x z;exact d.2
theorem Z9 {P:Program} {t:TypeId} (a:P.underlying t=some (.int .u8)):JV P t (Sc (Pl (lJ .u8)) λx=>0≤x∧x < 256) (λ_=>0):=by
 intro H d W base sp hd fuel cs x h;obtain ⟨n,rfl,rfl,hw⟩:=DataW.trod_int a h;refine ⟨n,⟨Z,?_⟩,ej _⟩;simp [Lit.wf,IntKind.min,IntKind.max,IntKind.bits,IntKind.signed] at hw;omega
end Go.Proofs.YtojmckcglalbnaaGreat.Lf
namespace Go.Proofs.YtojmckcglalbnaaGreat
open Go.Proofs.Tryz renaming prog → pg0
set_option maxRecDepth 10000
open Go.ChangeShapes Go.WideShapes Go.ChangeAt Go.RowKit
open Go.Proofs.YtojmckcglalbnaaGreat Go.Proofs.YtojmckcglalbnaaGreat.Lf
def gx:=@Tryz.underlying26
def ie:=@Tryz.underlying27
def kj:=@Tryz.underlying54
theorem ZN:pg0.cellsOf 42=45:=by kernel_rfl
theorem Vr {α:Type} {l:List α} (h:l.length=4):∃a0 a a2 a3,l=[a0,a,a2,a3]:=by
 match l,h with
 | [a0,a,a2,a3],_=>exact ⟨a0,a,a2,a3,Z⟩
theorem len25q {α:Type} {l:List α} (h:l.length=25):∃a0 a1 a2 a3 a4 a5 a6 a7 a8 a9 a10 a11 a12 a13 a14 a15 a16 a17 a18 a19 a20 a21 a22 a23 a24,l=[a0,a1,a2,a3,a4,a5,a6,a7,a8,a9,a10,a11,a12,a13,a14,a15,a16,a17,a18,a19,a20,a21,a22,a23,a24]:=by
 match l,h with
 | [a0,a1,a2,a3,a4,a5,a6,a7,a8,a9,a10,a11,a12,a13,a14,a15,a16,a17,a18,a19,a20,a21,a22,a23,a24],_=>exact ⟨a0,a1,a2,a3,a4,a5,a6,a7,a8,a9,a10,a11,a12,a13,a14,a15,a16,a17,a18,a19,a20,a21,a22,a23,a24,Z⟩
theorem len20q {α:Type} {l:List α} (h:l.length=20):∃a0 a1 a2 a3 a4 a5 a6 a7 a8 a9 a10 a11 a12 a13 a14 a15 a16 a17 a18 a19,l=[a0,a1,a2,a3,a4,a5,a6,a7,a8,a9,a10,a11,a12,a13,a14,a15,a16,a17,a18,a19]:=by
 match l,h with
 | [a0,a1,a2,a3,a4,a5,a6,a7,a8,a9,a10,a11,a12,a13,a14,a15,a16,a17,a18,a19],_=>exact ⟨a0,a1,a2,a3,a4,a5,a6,a7,a8,a9,a10,a11,a12,a13,a14,a15,a16,a17,a18,a19,Z⟩
theorem ab4 {α:Type} {l:List α} (h:l.length=45):∃a0 a1 a2 a3 a4 a5 a6 a7 a8 a9 a10 a11 a12 a13 a14 a15 a16 a17 a18 a19 a20 a21 a22 a23 a24 a25 a26 a27 a28 a29 a30 a31 a32 a33 a34 a35 a36 a37 a38 a39 a40 a41 a42 a43 a44,l=[a0,a1,a2,a3,a4,a5,a6,a7,a8,a9,a10,a11,a12,a13,a14,a15,a16,a17,a18,a19,a20,a21,a22,a23,a24,a25,a26,a27,a28,a29,a30,a31,a32,a33,a34,a35,a36,a37,a38,a39,a40,a41,a42,a43,a44]:=by
 obtain ⟨a0,a1,a2,a3,a4,a5,a6,a7,a8,a9,a10,a11,a12,a13,a14,a15,a16,a17,a18,a19,a20,a21,a22,a23,a24,e⟩:=len25q (l:=l.take 25) (by rw [List.length_take]; omega);obtain ⟨a25,a26,a27,a28,a29,a30,a31,a32,a33,a34,a35,a36,a37,a38,a39,a40,a41,a42,a43,a44,e2⟩:=len20q (l:=l.drop 25) (by rw [List.length_drop]; omega);exact ⟨a0,a1,a2,a3,a4,a5,a6,a7,a8,a9,a10,a11,a12,a13,a14,a15,a16,a17,a18,a19,a20,a21,a22,a23,a24,a25,a26,a27,a28,a29,a30,a31,a32,a33,a34,a35,a36,a37,a38,a39,a40,a41,a42,a43,a44,by rw [← List.take_append_drop 25 l,e,e2]; rfl⟩
theorem ZP:pg0.cellsOf 39=21:=by kernel_rfl
theorem TB:pg0.cellsOf 29=9:=by kernel_rfl
theorem aaP {α:Type} {l:List α} (h:l.length=7):∃a0 a a2 a3 a4 a5 d,l=[a0,a,a2,a3,a4,a5,d]:=by
 match l,h with
 | [a0,a,a2,a3,a4,a5,d],_=>exact ⟨a0,a,a2,a3,a4,a5,d,Z⟩
theorem acY {α:Type} {l:List α} (h:l.length=9):∃a0 a a2 a3 a4 a5 d g i,l=[a0,a,a2,a3,a4,a5,d,g,i]:=by
 match l,h with
 | [a0,a,a2,a3,a4,a5,d,g,i],_=>exact ⟨a0,a,a2,a3,a4,a5,d,g,i,Z⟩
theorem Uv:pg0.cellsOf 25=3:=by kernel_rfl
theorem Y3 {α:Type} {l:List α} (h:l.length=3):∃a0 a a2,l=[a0,a,a2]:=by
 match l,h with
 | [a0,a,a2],_=>exact ⟨a0,a,a2,Z⟩
theorem Hd:pg0.cellsOf 9=1:=by kernel_rfl
theorem Jy:My pg0 9 (λs:ByteArray=>[.string s]) (λs=>s.size):=UE Tryz.underlying9
theorem Tv:pg0.cellsOf 22=1:=by kernel_rfl
theorem Pe:pg0.cellsOf 75=15:=by kernel_rfl
theorem KQ {α:Type} {l:List α} (h:l.length=2):∃a0 a,l=[a0,a]:=by
 match l,h with
 | [a0,a],_=>exact ⟨a0,a,Z⟩
theorem ab6 {α:Type} {l:List α} (h:l.length=15):∃a0 j a2 a3 a4 a5 k q s a9 a d a12 g i,l=[a0,j,a2,a3,a4,a5,k,q,s,a9,a,d,a12,g,i]:=by
 match l,h with
 | [a0,j,a2,a3,a4,a5,k,q,s,a9,a,d,a12,g,i],_=>exact ⟨a0,j,a2,a3,a4,a5,k,q,s,a9,a,d,a12,g,i,Z⟩
theorem ZY:pg0.cellsOf 71=10:=by kernel_rfl
theorem Fb:pg0.cellsOf 69=9:=by kernel_rfl
theorem Ig:My pg0 3 (λn:Int=>[.int .i64 n]) (λ_=>0):=Z6 Tryz.underlying3
theorem Kx:pg0.cellsOf 3=1:=by kernel_rfl
theorem CT:pg0.cellsOf 33=2:=by kernel_rfl
def uX (x:lh):Nat:=x.lu.size+x.Word.size
theorem Fo:My pg0 33 lp uX:=by
 intro H g W base sp hd fuel cs x h;obtain ⟨xs,n,_,rfl,s,hlen,j⟩:=dm Tryz.underlying33 h;obtain ⟨u,v,rfl⟩:=KQ hlen;obtain ⟨a,c1,rfl⟩:=KQ (s.trans CT);have i:DataW.trod g pg0 W base sp hd n 9 (([a,c1].drop 0).take (pg0.cellsOf 9))=some u:=j 0 _ Z;have h1:DataW.trod g pg0 W base sp hd n 9 (([a,c1].drop 1).take (pg0.cellsOf 9))=some v:=j 1 _ Z;simp only [Hd,List.drop,List.take] at i h1;obtain ⟨t,e0,k⟩:=Jy _ _ _ _ _ _ _ _ _ i;obtain ⟨s1,d,q⟩:=Jy _ _ _ _ _ _ _ _ _ h1;simp only [aU,cP] at e0 d;obtain rfl:=e0;obtain rfl:=d;refine ⟨⟨t,s1⟩,Z,?_⟩;simp only [List.map,Rows.uptoBulk,Rows.uptoBulkAll,uX] at k q ⊢;omega
theorem X3 {α:Type} {l:List α} (h:l.length=6):∃a0 a a2 a3 a4 a5,l=[a0,a,a2,a3,a4,a5]:=by
 match l,h with
 | [a0,a,a2,a3,a4,a5],_=>exact ⟨a0,a,a2,a3,a4,a5,Z⟩
def xR (x:lg):Nat:=uX x.Head+x.nj.size+uX x.B+uX x.C+x.mV.size
theorem LA:My pg0 69 lj xR:=by
 intro H s W base sp hd fuel cs x h;obtain ⟨xs,n,_,rfl,hl,hlen,t⟩:=dm Tryz.underlying69 h;obtain ⟨y0,y1,y2,y3,y4,y5,rfl⟩:=X3 hlen;obtain ⟨a,c1,c2,d,g,i,j,k,q,rfl⟩:=acY (hl.trans Fb);have J:DataW.trod s pg0 W base sp hd n 3 (([a,c1,c2,d,g,i,j,k,q].drop 0).take (pg0.cellsOf 3))=some y0:=t 0 _ Z;have h1:DataW.trod s pg0 W base sp hd n 33 (([a,c1,c2,d,g,i,j,k,q].drop 1).take (pg0.cellsOf 33))=some y1:=t 1 _ Z;have M:DataW.trod s pg0 W base sp hd n 9 (([a,c1,c2,d,g,i,j,k,q].drop 3).take (pg0.cellsOf 9))=some y2:=t 2 _ Z;have O:DataW.trod s pg0 W base sp hd n 33 (([a,c1,c2,d,g,i,j,k,q].drop 4).take (pg0.cellsOf 33))=some y3:=t 3 _ Z;have P:DataW.trod s pg0 W base sp hd n 33 (([a,c1,c2,d,g,i,j,k,q].drop 6).take (pg0.cellsOf 33))=some y4:=t 4 _ Z;have Q:DataW.trod s pg0 W base sp hd n 9 (([a,c1,c2,d,g,i,j,k,q].drop 8).take (pg0.cellsOf 9))=some y5:=t 5 _ Z;simp only [Kx,CT,Hd,List.drop,List.take] at J h1 M O P Q;obtain ⟨s0,e0,U⟩:=Ig _ _ _ _ _ _ _ _ _ J;obtain ⟨s1,u,Y⟩:=Fo _ _ _ _ _ _ _ _ _ h1;obtain ⟨s2,v,b2⟩:=Jy _ _ _ _ _ _ _ _ _ M;obtain ⟨s3,y,b3⟩:=Fo _ _ _ _ _ _ _ _ _ O;obtain ⟨s4,z,b4⟩:=Fo _ _ _ _ _ _ _ _ _ P;obtain ⟨s5,I,b5⟩:=Jy _ _ _ _ _ _ _ _ _ Q;simp only [lp,aU,cP] at e0 u v y z I;obtain rfl:=e0;obtain ⟨rfl,rfl⟩:=u;obtain rfl:=v;obtain ⟨rfl,rfl⟩:=y;obtain ⟨rfl,rfl⟩:=z;obtain rfl:=I;refine ⟨⟨s0,s1,s2,s3,s4,s5⟩,Z,?_⟩;simp only [List.map,Rows.uptoBulk,Rows.uptoBulkAll,xR] at U Y b2 b3 b4 b5 ⊢;omega
theorem O1:pg0.cellsOf 54=1:=by kernel_rfl
theorem Rc:pg0.cellsOf 5=1:=by kernel_rfl
theorem Vh:JV pg0 5 (Sc (Pl (lJ .u8)) λx=>0≤x∧x < 256) (λ_=>0):=Z9 Tryz.underlying5
theorem GM:pg0.cellsOf 36=5:=by kernel_rfl
theorem adb {α:Type} {l:List α} (h:l.length=5):∃a0 a a2 a3 a4,l=[a0,a,a2,a3,a4]:=by
 match l,h with
 | [a0,a,a2,a3,a4],_=>exact ⟨a0,a,a2,a3,a4,Z⟩
theorem Z0:pg0.cellsOf 34=1:=by kernel_rfl
theorem ac6 {H:Type} {x:DataW H×List MemPlace} {ys:List (DataW H×List MemPlace)} {p:List MemPlace} (a:x=(.agg (ys.map (·.1)),p)) (i:Nat) {y:DataW H×List MemPlace} (h:ys[i]? =some y):SizeOf.sizeOf y.1 < SizeOf.sizeOf x.1:=by
 subst a;have:=List.sizeOf_lt_of_mem (bT.2 ⟨y,eH h,Z⟩:y.1∈ys.map (·.1));simp only [DataW.agg.sizeOf_spec]; omega
theorem RE:∀l:List Formula,szFL l≤uj Dt l
 | []=>aY _
 | k::l=>by have:=RE l; rw [szFL]; simp only [uj,bQ,fP] at this ⊢; omega
theorem aba:∀(N:Nat) (H:Type) (eh:TypeId×Value→H) (W:World) (base:Nat) (sp:Nat→Bool) (hd:Bool) (fuel:Nat) (cs:List Value) (x:DataW H×List MemPlace),
  DataW.trod eh pg0 W base sp hd fuel 36 cs=some x→SizeOf.sizeOf x.1 < N→∃a:Formula,lx (hp W) cs a∧Dt a≤Rows.uptoBulk x.1:=by
 intro N
 induction N with
 | zero=>intro _ _ _ _ _ _ _ _ _ _ h; exact absurd h (Nat.not_lt_zero _)
 | succ N ih=>
  intro H eh W base sp hd fuel cs x h hN;obtain ⟨a1,n1,_,J,U,I,q⟩:=dm Tryz.underlying36 h;obtain ⟨M,O,P,Q,rfl⟩:=Vr I;obtain ⟨d,g,i,j,k,rfl⟩:=adb (U.trans GM);have s:DataW.trod _ pg0 W _ _ _ n1 3 (([d,g,i,j,k].drop 0).take (pg0.cellsOf 3))=some M:=q 0 _ Z;have t:DataW.trod _ pg0 W _ _ _ n1 3 (([d,g,i,j,k].drop 1).take (pg0.cellsOf 3))=some O:=q 1 _ Z;have u:DataW.trod _ pg0 W _ _ _ n1 33 (([d,g,i,j,k].drop 2).take (pg0.cellsOf 33))=some P:=q 2 _ Z;have v:DataW.trod _ pg0 W _ _ _ n1 34 (([d,g,i,j,k].drop 4).take (pg0.cellsOf 34))=some Q:=q 3 _ Z;simp only [Kx,CT,Z0,List.drop,List.take] at s t u v;obtain ⟨s2,Y,b2⟩:=Ig _ _ _ _ _ _ _ _ _ s;simp only [aU,cP] at Y;obtain rfl:=Y;obtain ⟨s3,e3,b3⟩:=Ig _ _ _ _ _ _ _ _ _ t;simp only [aU,cP] at e3;obtain rfl:=e3;obtain ⟨s4,e4,b4⟩:=Fo _ _ _ _ _ _ _ _ _ u;simp only [lp,aU,cP] at e4;obtain ⟨rfl,rfl⟩:=e4;obtain ⟨v5,s5,e5,q5,b5⟩:=Me GM tc Tryz.underlying34 (λf cs y h hz=>ih _ _ _ _ _ _ _ _ _ h (by have:=ac6 J 3 Z; omega)) v;simp only [aU,cP] at e5;obtain rfl:=e5;have b1:=bA (λz=>Rows.uptoBulk z.1) J;refine ⟨⟨s2,s3,s4,s5⟩,lx.mk ⟨_,Z,q5⟩,?_⟩;have hz:=RE s5;simp only [List.map,Rows.uptoBulk,Rows.uptoBulkAll,uX] at b2 b3 b4 b5 b1 ⊢;rw [RZ];simp only;omega
theorem NU:JV pg0 36 lx Dt:=λH a W base sp hd fuel cs x h=>aba _ H a W base sp hd fuel cs x h (bH _)
def Ac (x:np):Nat:=xR x.Signed.lg+uj (λ_:Int=>0) x.Signed.Tag+1+Dt x.lB+1
def XI (x:np):Prop:=∀y∈x.Signed.Tag,0≤y∧y < 256
theorem WT:JV pg0 75 (Sc lU XI) Ac:=by
 intro H eh W base sp hd fuel cs x h;obtain ⟨ap,n6,_,ai,ah,Y,a8⟩:=dm Tryz.underlying75 h;obtain ⟨ab,ad,rfl⟩:=KQ Y;obtain ⟨a,d,g,i,j,k,q,s,t,u,v,y,I,J,M,rfl⟩:=ab6 (ah.trans Pe);have O:DataW.trod _ pg0 W _ _ _ n6 71 (([a,d,g,i,j,k,q,s,t,u,v,y,I,J,M].drop 0).take (pg0.cellsOf 71))=some ab:=a8 0 _ Z;have P:DataW.trod _ pg0 W _ _ _ n6 36 (([a,d,g,i,j,k,q,s,t,u,v,y,I,J,M].drop 10).take (pg0.cellsOf 36))=some ad:=a8 1 _ Z;simp only [GM,ZY,List.drop,List.take] at O P;obtain ⟨aq,n7,_,aj,ao,a1,aa⟩:=dm Tryz.underlying71 O;obtain ⟨ae,af,rfl⟩:=KQ a1;have Q:DataW.trod _ pg0 W _ _ _ n7 69 (([a,d,g,i,j,k,q,s,t,u].drop 0).take (pg0.cellsOf 69))=some ae:=aa 0 _ Z;have U:DataW.trod _ pg0 W _ _ _ n7 54 (([a,d,g,i,j,k,q,s,t,u].drop 9).take (pg0.cellsOf 54))=some af:=aa 1 _ Z;simp only [O1,Fb,List.drop,List.take] at Q U;obtain ⟨s8,e8,b8⟩:=LA _ _ _ _ _ _ _ _ _ Q;simp only [lj,lp,aU,cP] at e8;obtain ⟨rfl,rfl,rfl,rfl,rfl,rfl,rfl,rfl,rfl⟩:=e8;obtain ⟨v9,s9,e9,q9,b9⟩:=pw Rc tc Vh kj U;simp only [aU,cP] at e9;obtain rfl:=e9;obtain ⟨q9,g9⟩:=Lf.Sl.all q9;have b7:=bA (λz=>Rows.uptoBulk z.1) aj;obtain ⟨an,a6,ag⟩:=NU _ _ _ _ _ _ _ _ _ P;obtain ⟨v10,a7,a6⟩:=a6.out;simp only [aU,cP] at a7;obtain ⟨rfl,rfl,rfl,rfl,rfl⟩:=a7;have b6:=bA (λz=>Rows.uptoBulk z.1) ai;refine ⟨⟨⟨s8,s9⟩,an⟩,⟨lU.mk ⟨_,_,Z,q9,a6⟩,g9⟩,?_⟩;simp only [List.map,Rows.uptoBulk,Rows.uptoBulkAll,Ac] at b8 b9 b7 ag b6 ⊢;omega
theorem T6:pg0.cellsOf 23=1:=by kernel_rfl
theorem MN:pg0.cellsOf 174=8:=by kernel_rfl
theorem adl {α:Type} {l:List α} (h:l.length=8):∃a0 a a2 a3 a4 a5 d g,l=[a0,a,a2,a3,a4,a5,d,g]:=by
 match l,h with
 | [a0,a,a2,a3,a4,a5,d,g],_=>exact ⟨a0,a,a2,a3,a4,a5,d,g,Z⟩
theorem O3:pg0.cellsOf 26=1:=by kernel_rfl
def DG (x:oe):Nat:=uX x.lh+Dt x.lB+uj xR x.nP+1
def acI (x:oe):Prop:=True
theorem Uj:JV pg0 174 (Sc mH acI) DG:=by
 intro H eh W base sp hd fuel cs x h;obtain ⟨ah,n11,_,a6,a1,I,y⟩:=dm Tryz.underlying174 h;obtain ⟨M,O,P,rfl⟩:=Y3 I;obtain ⟨a,d,g,i,j,k,q,s,rfl⟩:=adl (a1.trans MN);have t:DataW.trod _ pg0 W _ _ _ n11 33 (([a,d,g,i,j,k,q,s].drop 0).take (pg0.cellsOf 33))=some M:=y 0 _ Z;have u:DataW.trod _ pg0 W _ _ _ n11 36 (([a,d,g,i,j,k,q,s].drop 2).take (pg0.cellsOf 36))=some O:=y 1 _ Z;have v:DataW.trod _ pg0 W _ _ _ n11 26 (([a,d,g,i,j,k,q,s].drop 7).take (pg0.cellsOf 26))=some P:=y 2 _ Z;simp only [O3,CT,GM,List.drop,List.take] at t u v;obtain ⟨ae,Q,a8⟩:=Fo _ _ _ _ _ _ _ _ _ t;simp only [lp,aU,cP] at Q;obtain ⟨rfl,rfl⟩:=Q;obtain ⟨af,J,aa⟩:=NU _ _ _ _ _ _ _ _ _ u;obtain ⟨ai,U,J⟩:=J.out;simp only [aU,cP] at U;obtain ⟨rfl,rfl,rfl,rfl,rfl⟩:=U;obtain ⟨aj,ag,Y,ad,ab⟩:=pw Fb tc LA.rel gx v;simp only [aU,cP] at Y;obtain rfl:=Y;have a7:=bA (λz=>Rows.uptoBulk z.1) a6;refine ⟨⟨ae,af,ag⟩,⟨mH.mk ⟨_,_,Z,J,ad⟩,trivial⟩,?_⟩;simp only [List.map,Rows.uptoBulk,Rows.uptoBulkAll,DG] at a8 aa ab a7 ⊢;omega
theorem Tt:pg0.cellsOf 27=1:=by kernel_rfl
theorem Pa:pg0.cellsOf 31=6:=by kernel_rfl
theorem aaW:My pg0 4 (λb:Bool=>[.bool b]) (λ_=>0):=by
 intro H a W base sp hd fuel cs x h;obtain ⟨n,rfl,rfl,_⟩:=DataW.trod_bool Tryz.underlying4 h;exact ⟨n,Z,ej _⟩
theorem VR:pg0.cellsOf 4=1:=by kernel_rfl
def LS (x:pj):Nat:=0
theorem Zo:My pg0 31 yp LS:=by
 intro H j W base sp hd fuel cs x h;obtain ⟨xs,n,_,rfl,hl,hlen,k⟩:=dm Tryz.underlying31 h;obtain ⟨y0,y1,y2,y3,y4,y5,rfl⟩:=X3 hlen;obtain ⟨a,c1,c2,d,g,i,rfl⟩:=X3 (hl.trans Pa);have y:DataW.trod j pg0 W base sp hd n 4 (([a,c1,c2,d,g,i].drop 0).take (pg0.cellsOf 4))=some y0:=k 0 _ Z;have h1:DataW.trod j pg0 W base sp hd n 3 (([a,c1,c2,d,g,i].drop 1).take (pg0.cellsOf 3))=some y1:=k 1 _ Z;have z:DataW.trod j pg0 W base sp hd n 3 (([a,c1,c2,d,g,i].drop 2).take (pg0.cellsOf 3))=some y2:=k 2 _ Z;have I:DataW.trod j pg0 W base sp hd n 3 (([a,c1,c2,d,g,i].drop 3).take (pg0.cellsOf 3))=some y3:=k 3 _ Z;have J:DataW.trod j pg0 W base sp hd n 3 (([a,c1,c2,d,g,i].drop 4).take (pg0.cellsOf 3))=some y4:=k 4 _ Z;have M:DataW.trod j pg0 W base sp hd n 3 (([a,c1,c2,d,g,i].drop 5).take (pg0.cellsOf 3))=some y5:=k 5 _ Z;simp only [Kx,VR,List.drop,List.take] at y h1 z I J M;obtain ⟨s0,e0,O⟩:=aaW _ _ _ _ _ _ _ _ _ y;obtain ⟨s1,q,P⟩:=Ig _ _ _ _ _ _ _ _ _ h1;obtain ⟨s2,s,Q⟩:=Ig _ _ _ _ _ _ _ _ _ z;obtain ⟨s3,t,U⟩:=Ig _ _ _ _ _ _ _ _ _ I;obtain ⟨s4,u,Y⟩:=Ig _ _ _ _ _ _ _ _ _ J;obtain ⟨s5,v,b5⟩:=Ig _ _ _ _ _ _ _ _ _ M;simp only [aU,cP] at e0 q s t u v;obtain rfl:=e0;obtain rfl:=q;obtain rfl:=s;obtain rfl:=t;obtain rfl:=u;obtain rfl:=v;refine ⟨⟨s0,s1,s2,s3,s4,s5⟩,Z,?_⟩;simp only [List.map,Rows.uptoBulk,Rows.uptoBulkAll,LS] at O P Q U Y b5 ⊢;omega
theorem TY:pg0.cellsOf 37=1:=by kernel_rfl
theorem O9:pg0.cellsOf 67=2:=by kernel_rfl
def HI (x:Key):Nat:=x.nj.size+uj (λ_:Int=>0) x.Key+1
def acH (x:Key):Prop:=∀y∈x.Key,0≤y∧y < 256
theorem Xw:JV pg0 67 (Sc za acH) HI:=by
 intro H Y W base sp hd fuel cs x h;obtain ⟨U,n15,_,I,y,j,k⟩:=dm Tryz.underlying67 h;obtain ⟨s,t,rfl⟩:=KQ j;obtain ⟨a,d,rfl⟩:=KQ (y.trans O9);have g:DataW.trod _ pg0 W _ _ _ n15 9 (([a,d].drop 0).take (pg0.cellsOf 9))=some s:=k 0 _ Z;have i:DataW.trod _ pg0 W _ _ _ n15 54 (([a,d].drop 1).take (pg0.cellsOf 54))=some t:=k 1 _ Z;simp only [O1,Hd,List.drop,List.take] at g i;obtain ⟨P,u,M⟩:=Jy _ _ _ _ _ _ _ _ _ g;simp only [aU,cP] at u;obtain rfl:=u;obtain ⟨v17,Q,v,q,O⟩:=pw Rc tc Vh kj i;simp only [aU,cP] at v;obtain rfl:=v;obtain ⟨q,g17⟩:=Lf.Sl.all q;have J:=bA (λz=>Rows.uptoBulk z.1) I;refine ⟨⟨P,Q⟩,⟨za.mk ⟨_,Z,q⟩,g17⟩,?_⟩;simp only [List.map,Rows.uptoBulk,Rows.uptoBulkAll,HI] at M O J ⊢;omega
theorem ZZ:pg0.cellsOf 40=1:=by kernel_rfl
theorem TJ:pg0.cellsOf 60=2:=by kernel_rfl
def Ov (x:HN):Nat:=uj (λ_:Int=>0) x.B+1
def ZE (x:HN):Prop:=∀y∈x.B,0≤y∧y < 256
theorem abn:JV pg0 60 (Sc AX ZE) Ov:=by
 intro H Y W base sp hd fuel cs x h;obtain ⟨U,n18,_,I,y,j,k⟩:=dm Tryz.underlying60 h;obtain ⟨s,t,rfl⟩:=KQ j;obtain ⟨a,d,rfl⟩:=KQ (y.trans TJ);have g:DataW.trod _ pg0 W _ _ _ n18 4 (([a,d].drop 0).take (pg0.cellsOf 4))=some s:=k 0 _ Z;have i:DataW.trod _ pg0 W _ _ _ n18 54 (([a,d].drop 1).take (pg0.cellsOf 54))=some t:=k 1 _ Z;simp only [VR,O1,List.drop,List.take] at g i;obtain ⟨P,u,M⟩:=aaW _ _ _ _ _ _ _ _ _ g;simp only [aU,cP] at u;obtain rfl:=u;obtain ⟨v20,Q,v,q,O⟩:=pw Rc tc Vh kj i;simp only [aU,cP] at v;obtain rfl:=v;obtain ⟨q,g20⟩:=Lf.Sl.all q;have J:=bA (λz=>Rows.uptoBulk z.1) I;refine ⟨⟨P,Q⟩,⟨AX.mk ⟨_,Z,q⟩,g20⟩,?_⟩;simp only [List.map,Rows.uptoBulk,Rows.uptoBulkAll,Ov] at M O J ⊢;omega
def FD (x:yJ):Nat:=x.A.S.lm.Name.size+uj Ac x.A.S.lm.lK+uj DG x.A.S.lm.mi+1+x.A.S.mI.size+uj xR x.A.S.lD+uj xR x.A.S.Shown+uj uX x.A.S.lL+uj uX x.A.S.me+1+LS x.A.T+Dt x.A.F+uj HI x.A.G+1+x.B.S.lm.Name.size+uj Ac x.B.S.lm.lK+uj DG x.B.S.lm.mi+1+x.B.S.mI.size+uj xR x.B.S.lD+uj xR x.B.S.Shown+uj uX x.B.S.lL+uj uX x.B.S.me+1+LS x.B.T+Dt x.B.F+uj HI x.B.G+1+uX x.R+uj Ov x.L+1
theorem adk:Tryz.prog.readableRec 42=true∧42 < Tryz.prog.types.size:=⟨by kernel_rfl,eO (by kernel_rfl)⟩
theorem Jv (c:lg):DK c=xR c:=by unfold DK xR uX; omega
theorem TD {α:Type} (sz:α→Nat) (h:∀a,2≤sz a):∀l:List α,2*l.length≤uj sz l
 | []=>ej _
 | a::l=>by have:=TD sz h l; have:=h a; simp only [uj,bQ,fP,aG] at *; omega
theorem Ha (y:np):Ac y=xR y.Signed.lg+uj (λ_:Int=>0) y.Signed.Tag+1+Dt y.lB+1:=rfl
theorem SC (y:oe):DG y=uX y.lh+Dt y.lB+uj xR y.nP+1:=rfl
theorem Lz:∀l:List lg,Aj l≤21*uj xR l
 | []=>ej _
 | c::l=>by have:=Lz l; rw [Aj,Jv]; simp only [uj,bQ,fP] at *; omega
theorem TM:∀l:List np,H8 l≤21*uj Ac l
 | []=>ej _
 | x::l=>by
  have:=TM l;have:=Fc (λ_:Int=>0) x.Signed.Tag;rw [H8,Jv];have e:=Ha x;simp only [uj,bQ,fP] at *; omega
theorem Uw:∀l:List oe,GV l≤21*uj DG l
 | []=>ej _
 | x::l=>by
  have:=Uw l;have:=Lz x.nP;rw [GV];have e:=SC x;unfold uX at e;have a:uj DG (x::l)=max 1 (DG x)+uj DG l:=rfl;omega
theorem Yp (x:lm) (g:x.Name.size≤1048576) (h1:uj Ac x.lK≤1048576) (h:uj DG x.mi≤1048576):PG x∧x.lK.length≤600000∧NH x≤1000000000:=by
 have c1:=TD Ac (λy=>by rw [Ha]; omega) x.lK;have c2:=Fc DG x.mi;have g1:∀y∈x.lK,xR y.Signed.lg≤1048576∧nl y.lB≤1048576:=λy a=>by
  have:=Oe (sz:=Ac) a;have e:=Ha y;have:=HR y.lB;omega
 have g2:∀y∈x.mi,nl y.lB≤1048576∧uj xR y.nP≤1048576:=λy a=>by
  have:=Oe (sz:=DG) a;have e:=SC y;have:=HR y.lB;omega
 refine ⟨{ Bd:=by omega,F6:=by omega,rel:=λy a=>?_,U7:=λy a=>?_,VZ:=λy a=>?_,csz:=λy a=>?_,asz:=λy a c d=>?_ },rs,?_⟩
 ·have:=(g1 y a).2; omega
 ·have:=(g2 y a).1; omega
 ·have:=(g2 y a).2; have:=Fc xR y.nP; omega
 ·have:=(g1 y a).1; rw [Jv]; omega
 ·have:=(g2 y a).2; have:=Oe (sz:=xR) d; rw [Jv]; omega
 ·have:=TM x.lK; have:=Uw x.mi; unfold NH; omega
theorem MR:∀l:List lh,Ax l≤6*uj uX l
 | []=>ej _
 | r::l=>by
  have:=MR l;have a:uj uX (r::l)=max 1 (uX r)+uj uX l:=rfl;have d:uX r=r.lu.size+r.Word.size:=rfl;rw [Ax]; omega
theorem Un:∀l:List Key,E2 l≤11*uj HI l
 | []=>ej _
 | x::l=>by
  have:=Un l;have:=Fc (λ_:Int=>0) x.Key;rw [E2];have e:HI x=x.nj.size+uj (λ_:Int=>0) x.Key+1:=rfl;have d:uj HI (x::l)=max 1 (HI x)+uj HI l:=rfl;omega
theorem OX (x:yJ) (h:FD x≤1048576):SQ x.A.S∧Dt x.A.F≤50000000∧E2 x.A.G≤1000000000:=by
 unfold FD at h;have a:=Yp x.A.S.lm rs rs rs;have c1:=Lz x.A.S.lD;have c2:=Lz x.A.S.Shown;have i:=MR x.A.S.lL;have j:=MR x.A.S.me;have d:=Fc uX x.A.S.lL;have g:=Fc uX x.A.S.me;have k:=Un x.A.G;exact ⟨{ p:=a.1,go:=a.2.2,acc:=by omega,sh:=by omega,wl:=by omega,al:=by omega,WI:=by omega,ask:=by omega,peer:=by omega },rs,rs⟩
theorem own:ownKnob Tryz.prog.godebug=none:=by kernel_rfl
theorem YH:laidOutB pg0=true:=by kernel_rfl
theorem YA (H:Type) (enc:TypeId×Value→H) (W:World) (base:Nat) (args:Array Value) (ds gs:List (DataW H)) (before:List MemPlace) (cr:∀(j:Nat) t v,Tryz.f3.params[j]? =some t→args[j]? =some v→Value.okWide pg0 W .any base t v) (hW:DataW.Whole enc pg0 Tryz.f3.params.toList Rows.auditPassesSpec.vars false W args.toList ds gs before) (hk:Rows.uptoSmall H (ds++gs)=true) :
  Calls pg0 3 args W λe W'=>∃v,e= .returned v∧Rows.auditPassesSpec.post enc pg0 Tryz.f3 false true false false W args v W':=by
 have o0:=hW;obtain ⟨p,q,n4,hV,rfl,q8,q9⟩:=hW;have hA:DataW.TrodAll enc pg0 W 0 (λ_=>true) true Tryz.f3.params.toList args.toList ds p:=n4;have hr:∀t∈Tryz.f3.params.toList,Tryz.prog.readableRec t=true∧t < Tryz.prog.types.size:=by
  rw [Tryz.params3];intro t ht;simp only [aW,cV,fc] at ht;subst ht;exact adk
 rw [Tryz.params3] at hA cr;obtain ⟨v0,qf,d0,q2,p0,q0,o1,rfl,rfl,h0,r0⟩:=trodAll_cons hA;obtain ⟨rfl,rfl,rfl⟩:=trodAll_nil r0;obtain rfl:args=#[v0]:=by cases args; simp_all
 obtain ⟨rfl,rfl⟩:=trodVars_none hV;have k0:=cr 0 42 v0 Z Z;obtain ⟨hq,rfl,_⟩:=okWide_struct Tryz.underlying42 k0;obtain ⟨q3,im⟩:=h0;obtain ⟨o2,rfl⟩:∃l:List Value,hq=l.toArray:=⟨hq.toList,rv⟩
 change DataW.trod _ _ _ _ _ _ _ _ o2=some _ at im
 obtain ⟨p5,n21,_,iR,ix,ch,b5⟩:=dm Tryz.underlying42 im;obtain ⟨er,et,ew,eF,rfl⟩:=Vr ch;obtain ⟨J,u,x,U,Y,M,O,P,Q,aE,aa,ab,ad,ae,af,ag,ah,ai,aj,a1,a6,g,a,d,y,I,h,i,k,s,an,ao,ap,aq,ar,au,av,aw,ay,az,a7,a8,b1,b2,b0,rfl⟩:=ab4 (ix.trans ZN);have b9:DataW.trod _ pg0 W _ _ _ n21 39 (([J,u,x,U,Y,M,O,P,Q,aE,aa,ab,ad,ae,af,ag,ah,ai,aj,a1,a6,g,a,d,y,I,h,i,k,s,an,ao,ap,aq,ar,au,av,aw,ay,az,a7,a8,b1,b2,b0].drop 0).take (pg0.cellsOf 39))=some er:=b5 0 _ Z;have ba:DataW.trod _ pg0 W _ _ _ n21 39 (([J,u,x,U,Y,M,O,P,Q,aE,aa,ab,ad,ae,af,ag,ah,ai,aj,a1,a6,g,a,d,y,I,h,i,k,s,an,ao,ap,aq,ar,au,av,aw,ay,az,a7,a8,b1,b2,b0].drop 21).take (pg0.cellsOf 39))=some et:=b5 1 _ Z;have bc:DataW.trod _ pg0 W _ _ _ n21 33 (([J,u,x,U,Y,M,O,P,Q,aE,aa,ab,ad,ae,af,ag,ah,ai,aj,a1,a6,g,a,d,y,I,h,i,k,s,an,ao,ap,aq,ar,au,av,aw,ay,az,a7,a8,b1,b2,b0].drop 42).take (pg0.cellsOf 33))=some ew:=b5 2 _ Z;have bd:DataW.trod _ pg0 W _ _ _ n21 40 (([J,u,x,U,Y,M,O,P,Q,aE,aa,ab,ad,ae,af,ag,ah,ai,aj,a1,a6,g,a,d,y,I,h,i,k,s,an,ao,ap,aq,ar,au,av,aw,ay,az,a7,a8,b1,b2,b0].drop 44).take (pg0.cellsOf 40))=some eF:=b5 3 _ Z;simp only [CT,ZP,ZZ,List.drop,List.take] at b9 ba bc bd;obtain ⟨p6,n22,_,iT,oj,cj,b6⟩:=dm Tryz.underlying39 b9;obtain ⟨eI,eN,eR,eT,rfl⟩:=Vr cj;have bf:DataW.trod _ pg0 W _ _ _ n22 29 (([J,u,x,U,Y,M,O,P,Q,aE,aa,ab,ad,ae,af,ag,ah,ai,aj,a1,a6].drop 0).take (pg0.cellsOf 29))=some eI:=b6 0 _ Z;have bh:DataW.trod _ pg0 W _ _ _ n22 31 (([J,u,x,U,Y,M,O,P,Q,aE,aa,ab,ad,ae,af,ag,ah,ai,aj,a1,a6].drop 9).take (pg0.cellsOf 31))=some eN:=b6 1 _ Z;have bi:DataW.trod _ pg0 W _ _ _ n22 36 (([J,u,x,U,Y,M,O,P,Q,aE,aa,ab,ad,ae,af,ag,ah,ai,aj,a1,a6].drop 15).take (pg0.cellsOf 36))=some eR:=b6 2 _ Z;have bj:DataW.trod _ pg0 W _ _ _ n22 37 (([J,u,x,U,Y,M,O,P,Q,aE,aa,ab,ad,ae,af,ag,ah,ai,aj,a1,a6].drop 20).take (pg0.cellsOf 37))=some eT:=b6 3 _ Z;simp only [TB,Pa,GM,TY,List.drop,List.take] at bf bh bi bj;obtain ⟨p7,n23,_,iW,oo,ck,b3⟩:=dm Tryz.underlying29 bf;obtain ⟨fb,fk,fo,fv,gg,gR,h2,rfl⟩:=aaP ck;have bk:DataW.trod _ pg0 W _ _ _ n23 25 (([J,u,x,U,Y,M,O,P,Q].drop 0).take (pg0.cellsOf 25))=some fb:=b3 0 _ Z;have bl:DataW.trod _ pg0 W _ _ _ n23 9 (([J,u,x,U,Y,M,O,P,Q].drop 3).take (pg0.cellsOf 9))=some fk:=b3 1 _ Z;have bn:DataW.trod _ pg0 W _ _ _ n23 3 (([J,u,x,U,Y,M,O,P,Q].drop 4).take (pg0.cellsOf 3))=some fo:=b3 2 _ Z;have bo:DataW.trod _ pg0 W _ _ _ n23 26 (([J,u,x,U,Y,M,O,P,Q].drop 5).take (pg0.cellsOf 26))=some fv:=b3 3 _ Z;have bp:DataW.trod _ pg0 W _ _ _ n23 26 (([J,u,x,U,Y,M,O,P,Q].drop 6).take (pg0.cellsOf 26))=some gg:=b3 4 _ Z;have bq:DataW.trod _ pg0 W _ _ _ n23 27 (([J,u,x,U,Y,M,O,P,Q].drop 7).take (pg0.cellsOf 27))=some gR:=b3 5 _ Z;have bs:DataW.trod _ pg0 W _ _ _ n23 27 (([J,u,x,U,Y,M,O,P,Q].drop 8).take (pg0.cellsOf 27))=some h2:=b3 6 _ Z;simp only [Uv,O3,Tt,Kx,Hd,List.drop,List.take] at bk bl bn bo bp bq bs;obtain ⟨p8,n24,_,j0,p1,cm,cf⟩:=dm Tryz.underlying25 bk;obtain ⟨h3,h4,h5,rfl⟩:=Y3 cm;have bt:DataW.trod _ pg0 W _ _ _ n24 9 (([J,u,x].drop 0).take (pg0.cellsOf 9))=some h3:=cf 0 _ Z;have bu:DataW.trod _ pg0 W _ _ _ n24 22 (([J,u,x].drop 1).take (pg0.cellsOf 22))=some h4:=cf 1 _ Z;have bw:DataW.trod _ pg0 W _ _ _ n24 23 (([J,u,x].drop 2).take (pg0.cellsOf 23))=some h5:=cf 2 _ Z;simp only [Tv,T6,Hd,List.drop,List.take] at bt bu bw;obtain ⟨da,hs,jn⟩:=Jy _ _ _ _ _ _ _ _ _ bt;simp only [aU,cP] at hs;obtain rfl:=hs;obtain ⟨v26,db,hv,cs,js⟩:=pw Pe tc WT Tryz.underlying22 bu;simp only [aU,cP] at hv;obtain rfl:=hv;obtain ⟨cs,n0⟩:=Lf.Sl.all cs;obtain ⟨v27,de,hy,ct,k1⟩:=pw MN tc Uj Tryz.underlying23 bw;simp only [aU,cP] at hy;obtain rfl:=hy;obtain ⟨ct,g27⟩:=Lf.Sl.all ct;have j9:=bA (λz=>Rows.uptoBulk z.1) j0;obtain ⟨df,hz,k2⟩:=Jy _ _ _ _ _ _ _ _ _ bl;simp only [aU,cP] at hz;obtain rfl:=hz;obtain ⟨dh,hC,k3⟩:=Ig _ _ _ _ _ _ _ _ _ bn;simp only [aU,cP] at hC;obtain rfl:=hC;obtain ⟨v30,di,hD,o3,k4⟩:=pw Fb tc LA.rel gx bo;simp only [aU,cP] at hD;obtain rfl:=hD;obtain ⟨v31,dj,hE,o4,k5⟩:=pw Fb tc LA.rel gx bp;simp only [aU,cP] at hE;obtain rfl:=hE;obtain ⟨v32,dk,hF,o5,k6⟩:=pw CT tc Fo.rel ie bq;simp only [aU,cP] at hF;obtain rfl:=hF;obtain ⟨v33,e0,hG,o6,k7⟩:=pw CT tc Fo.rel ie bs;simp only [aU,cP] at hG;obtain rfl:=hG;have j8:=bA (λz=>Rows.uptoBulk z.1) iW;obtain ⟨e1,hI,k8⟩:=Zo _ _ _ _ _ _ _ _ _ bh;simp only [yp,aU,cP] at hI;obtain ⟨rfl,rfl,rfl,rfl,rfl,rfl⟩:=hI;obtain ⟨e2,cu,k9⟩:=NU _ _ _ _ _ _ _ _ _ bi;obtain ⟨v35,hJ,cu⟩:=cu.out;simp only [aU,cP] at hJ;obtain ⟨rfl,rfl,rfl,rfl,rfl⟩:=hJ;obtain ⟨v36,e3,hK,cv,ka⟩:=pw O9 tc Xw Tryz.underlying37 bj;simp only [aU,cP] at hK;obtain rfl:=hK;obtain ⟨cv,q4⟩:=Lf.Sl.all cv;have j7:=bA (λz=>Rows.uptoBulk z.1) iT;obtain ⟨p9,n37,_,j3,p2,cn,b7⟩:=dm Tryz.underlying39 ba;obtain ⟨h6,h7,h8,h9,rfl⟩:=Vr cn;have bx:DataW.trod _ pg0 W _ _ _ n37 29 (([g,a,d,y,I,h,i,k,s,an,ao,ap,aq,ar,au,av,aw,ay,az,a7,a8].drop 0).take (pg0.cellsOf 29))=some h6:=b7 0 _ Z;have bz:DataW.trod _ pg0 W _ _ _ n37 31 (([g,a,d,y,I,h,i,k,s,an,ao,ap,aq,ar,au,av,aw,ay,az,a7,a8].drop 9).take (pg0.cellsOf 31))=some h7:=b7 1 _ Z;have c0:DataW.trod _ pg0 W _ _ _ n37 36 (([g,a,d,y,I,h,i,k,s,an,ao,ap,aq,ar,au,av,aw,ay,az,a7,a8].drop 15).take (pg0.cellsOf 36))=some h8:=b7 2 _ Z;have c3:DataW.trod _ pg0 W _ _ _ n37 37 (([g,a,d,y,I,h,i,k,s,an,ao,ap,aq,ar,au,av,aw,ay,az,a7,a8].drop 20).take (pg0.cellsOf 37))=some h9:=b7 3 _ Z;simp only [TB,Pa,GM,TY,List.drop,List.take] at bx bz c0 c3;obtain ⟨ps,n38,_,j4,p3,cp,b4⟩:=dm Tryz.underlying29 bx;obtain ⟨ha,hb,hc,hf,hh,hi,hj,rfl⟩:=aaP cp;have c4:DataW.trod _ pg0 W _ _ _ n38 25 (([g,a,d,y,I,h,i,k,s].drop 0).take (pg0.cellsOf 25))=some ha:=b4 0 _ Z;have c5:DataW.trod _ pg0 W _ _ _ n38 9 (([g,a,d,y,I,h,i,k,s].drop 3).take (pg0.cellsOf 9))=some hb:=b4 1 _ Z;have c6:DataW.trod _ pg0 W _ _ _ n38 3 (([g,a,d,y,I,h,i,k,s].drop 4).take (pg0.cellsOf 3))=some hc:=b4 2 _ Z;have c7:DataW.trod _ pg0 W _ _ _ n38 26 (([g,a,d,y,I,h,i,k,s].drop 5).take (pg0.cellsOf 26))=some hf:=b4 3 _ Z;have c8:DataW.trod _ pg0 W _ _ _ n38 26 (([g,a,d,y,I,h,i,k,s].drop 6).take (pg0.cellsOf 26))=some hh:=b4 4 _ Z;have c9:DataW.trod _ pg0 W _ _ _ n38 27 (([g,a,d,y,I,h,i,k,s].drop 7).take (pg0.cellsOf 27))=some hi:=b4 5 _ Z;have ca:DataW.trod _ pg0 W _ _ _ n38 27 (([g,a,d,y,I,h,i,k,s].drop 8).take (pg0.cellsOf 27))=some hj:=b4 6 _ Z;simp only [Uv,O3,Tt,Kx,Hd,List.drop,List.take] at c4 c5 c6 c7 c8 c9 ca;obtain ⟨q1,n39,_,j5,p4,cq,cg⟩:=dm Tryz.underlying25 c4;obtain ⟨hl,hn,ho,rfl⟩:=Y3 cq;have cb:DataW.trod _ pg0 W _ _ _ n39 9 (([g,a,d].drop 0).take (pg0.cellsOf 9))=some hl:=cg 0 _ Z;have cc:DataW.trod _ pg0 W _ _ _ n39 22 (([g,a,d].drop 1).take (pg0.cellsOf 22))=some hn:=cg 1 _ Z;have cd:DataW.trod _ pg0 W _ _ _ n39 23 (([g,a,d].drop 2).take (pg0.cellsOf 23))=some ho:=cg 2 _ Z;simp only [Tv,T6,Hd,List.drop,List.take] at cb cc cd;obtain ⟨e4,hL,l0⟩:=Jy _ _ _ _ _ _ _ _ _ cb;simp only [aU,cP] at hL;obtain rfl:=hL;obtain ⟨v41,e5,hM,cw,l1⟩:=pw Pe tc WT Tryz.underlying22 cc;simp only [aU,cP] at hM;obtain rfl:=hM;obtain ⟨cw,q5⟩:=Lf.Sl.all cw;obtain ⟨qb,e6,hN,cx,l2⟩:=pw MN tc Uj Tryz.underlying23 cd;simp only [aU,cP] at hN;obtain rfl:=hN;obtain ⟨cx,q6⟩:=Lf.Sl.all cx;have kt:=bA (λz=>Rows.uptoBulk z.1) j5;obtain ⟨e7,hP,l3⟩:=Jy _ _ _ _ _ _ _ _ _ c5;simp only [aU,cP] at hP;obtain rfl:=hP;obtain ⟨e8,hQ,l4⟩:=Ig _ _ _ _ _ _ _ _ _ c6;simp only [aU,cP] at hQ;obtain rfl:=hQ;obtain ⟨v45,e9,hR,o7,l5⟩:=pw Fb tc LA.rel gx c7;simp only [aU,cP] at hR;obtain rfl:=hR;obtain ⟨v46,ea,hS,o8,l6⟩:=pw Fb tc LA.rel gx c8;simp only [aU,cP] at hS;obtain rfl:=hS;obtain ⟨qc,eb,hT,o9,l7⟩:=pw CT tc Fo.rel ie c9;simp only [aU,cP] at hT;obtain rfl:=hT;obtain ⟨qe,ec,hU,oi,l8⟩:=pw CT tc Fo.rel ie ca;simp only [aU,cP] at hU;obtain rfl:=hU;have kl:=bA (λz=>Rows.uptoBulk z.1) j4;obtain ⟨ef,hX,l9⟩:=Zo _ _ _ _ _ _ _ _ _ bz;simp only [yp,aU,cP] at hX;obtain ⟨rfl,rfl,rfl,rfl,rfl,rfl⟩:=hX;obtain ⟨eg,cy,ls⟩:=NU _ _ _ _ _ _ _ _ _ c0;obtain ⟨v50,hY,cy⟩:=cy.out;simp only [aU,cP] at hY;obtain ⟨rfl,rfl,rfl,rfl,rfl⟩:=hY;obtain ⟨v51,eh,hZ,cz,lv⟩:=pw O9 tc Xw Tryz.underlying37 c3;simp only [aU,cP] at hZ;obtain rfl:=hZ;obtain ⟨cz,q7⟩:=Lf.Sl.all cz;have kb:=bA (λz=>Rows.uptoBulk z.1) j3;obtain ⟨ek,ik,mb⟩:=Fo _ _ _ _ _ _ _ _ _ bc;simp only [lp,aU,cP] at ik;obtain ⟨rfl,rfl⟩:=ik;obtain ⟨v53,en,il,cS,ms⟩:=pw TJ tc abn Tryz.underlying40 bd;simp only [aU,cP] at il;obtain rfl:=il;obtain ⟨cS,n3⟩:=Lf.Sl.all cS;have j6:=bA (λz=>Rows.uptoBulk z.1) iR;simp only [List.map,Rows.uptoBulk,Rows.uptoBulkAll] at jn js k1 j9 k2 k3 k4 k5 k6 k7 j8 k8 k9 ka j7 l0 l1 l2 kt l3 l4 l5 l6 l7 l8 kl l9 ls lv kb mb ms j6;have z0:FD (⟨⟨⟨⟨da,db,de⟩,df,dh,di,dj,dk,e0⟩,e1,e2,e3⟩,⟨⟨⟨e4,e5,e6⟩,e7,e8,e9,ea,eb,ec⟩,ef,eg,eh⟩,ek,en⟩:yJ)≤Rows.uptoBulk d0:=by simp only [FD]; omega
 have hB:Rows.uptoBulkAll ([d0]++[])≤1048576:=eO hk;simp only [cN,Rows.uptoBulkAll] at hB;have hm:zo (⟨⟨⟨⟨da,db,de⟩,df,dh,di,dj,dk,e0⟩,e1,e2,e3⟩,⟨⟨⟨e4,e5,e6⟩,e7,e8,e9,ea,eb,ec⟩,ef,eg,eh⟩,ek,en⟩:yJ)=some true:=MM Ya _ (OX _ rs).1 n0 (OX _ rs).2.1 (OX _ rs).2.2 n3;have hg:=Ka (⟨⟨⟨⟨da,db,de⟩,df,dh,di,dj,dk,e0⟩,e1,e2,e3⟩,⟨⟨⟨e4,e5,e6⟩,e7,e8,e9,ea,eb,ec⟩,ef,eg,eh⟩,ek,en⟩:yJ) u x M O P Q a1 a6 a d h i k s a7 a8 b0 true W cs ct o3 o4 o5 o6 cu cv cw cx o7 o8 o9 oi cy cz cS hm;refine dl hg λe W' ⟨he,hx⟩=>?_
 subst he;exact ⟨_,Z,UB YH hr Z o0 hx (λ_ _ _=>trodAll_cons_mk (shut_bool Tryz.underlying4 _) trodAll_mk0) Z Z (ok_one (by kernel_rfl) Z (okWide_bool_mk Tryz.underlying4 _))⟩
set_option maxRecDepth 100000 in
theorem abo (os:Os) (started:os.Started) (H:Type) (enc:TypeId×Value→H) (F:Stop.Interp) :
  ReturnsInHanded {} Tryz.checked os 3 .any ((Rows.OpenSpec.upto Rows.auditPassesSpec).pre6 enc pg0 Tryz.f3 Rows.auditPassesUptoRow.domain false) (((Rows.OpenSpec.upto Rows.auditPassesSpec).at F).post enc pg0 Tryz.f3 false true false false):=by
 refine returnsInHanded_of_cond (C:=Tryz.checked) (s:=Rows.OpenSpec.upto Rows.auditPassesSpec) (k:=Rows.uptoSmall) Z own started (by kernel_rfl) Tryz.func3
  (OpenSpec.witness (enc:=enc) (C:=Tryz.checked) (s:=Rows.OpenSpec.upto Rows.auditPassesSpec) (k:=Rows.uptoSmall) Z false ⟨#[],#[.agg #[.string ⟨#[]⟩,.slice none 0 0,.slice none 0 0,.string ⟨#[]⟩,.int .i64 0,.slice none 0 0,.slice none 0 0,.slice none 0 0,.slice none 0 0,.bool false,.int .i64 0,.int .i64 0,.int .i64 0,.int .i64 0,.int .i64 0,.int .i64 0,.int .i64 0,.string ⟨#[]⟩,.string ⟨#[]⟩,.slice none 0 0,.slice none 0 0,.string ⟨#[]⟩,.slice none 0 0,.slice none 0 0,.string ⟨#[]⟩,.int .i64 0,.slice none 0 0,.slice none 0 0,.slice none 0 0,.slice none 0 0,.bool false,.int .i64 0,.int .i64 0,.int .i64 0,.int .i64 0,.int .i64 0,.int .i64 0,.int .i64 0,.string ⟨#[]⟩,.string ⟨#[]⟩,.slice none 0 0,.slice none 0 0,.string ⟨#[]⟩,.string ⟨#[]⟩,.slice none 0 0]],[]⟩ 8 (by kernel_rfl) (by kernel_rfl) (by kernel_rfl)
   (x:=([.agg [.agg [.agg [.agg [.lit (.string []),.nil,.nil],.lit (.string []),.lit (.int .i64 0),.nil,.nil,.nil,.nil],.agg [.lit (.bool false),.lit (.int .i64 0),.lit (.int .i64 0),.lit (.int .i64 0),.lit (.int .i64 0),.lit (.int .i64 0)],.agg [.lit (.int .i64 0),.lit (.int .i64 0),.agg [.lit (.string []),.lit (.string [])],.nil],.nil],.agg [.agg [.agg [.lit (.string []),.nil,.nil],.lit (.string []),.lit (.int .i64 0),.nil,.nil,.nil,.nil],.agg [.lit (.bool false),.lit (.int .i64 0),.lit (.int .i64 0),.lit (.int .i64 0),.lit (.int .i64 0),.lit (.int .i64 0)],.agg [.lit (.int .i64 0),.lit (.int .i64 0),.agg [.lit (.string []),.lit (.string [])],.nil],.nil],.agg [.lit (.string []),.lit (.string [])],.nil]],[],[])) (by kernel_rfl) Z (by kernel_rfl)) ?_
 intro W base args d gs before a g _ hk _;exact YA H enc W base args d gs before a g hk
theorem acx {a b:Bool} (ha:a=true) (d:b=true):(a&&b)=true:=by rw [ha,d]; rfl
set_option maxHeartbeats 40000000 in
theorem ZG:joinedFacts Tryz.checked.prog 3 Tryz.f3 (Rows.OpenSpec.upto Rows.auditPassesSpec).bare Rows.auditPassesUptoRow=true:=by
 unfold joinedFacts
 repeat' with_reducible refine acx ?_ ?_
 all_goals as_aux_lemma=>kernel_rfl
theorem proved:Rows.AuditPassesUptoSaid :=
 OpenClaim.holds_of_cond 3 Tryz.f3 Z Z Z Z Z Z Z ⟨Z,Z,Z,Z,Z⟩ Z Z Z Z Z (by kernel_rfl) Tryz.func3 ZG
  (eO (by kernel_rfl)) (by unfold Func.isWrapper; first | (rw [aO (by decide +kernel)]; kernel_rfl) | (rw [aH (by decide +kernel)]; exact ⟨Z,Z⟩))
  (λos started H enc _ F=>abo os started H enc F)
end Go.Proofs.YtojmckcglalbnaaGreat
