/- a part of a proof of AuditTells -/
import Derived.Test.YtlfibegniofmjaaGreatYda
import Derived.Test.YtlfibegniofmjaaGreatRtVa
import Derived.Test.YtlfibegniofmjaaGreatRows
import Derived.WalkKit
import Derived.ProofKit
import Derived.OpenShut
import Derived.JoinedCond
import Derived.Deep.Slices
import Derived.Carry
import Derived.ChangeArms
import Derived.ChangeSame
import Derived.Test.YtlfibegniofmjaaGreatAV3W4a
set_option linter.all false
namespace Go.Proofs.YtlfibegniofmjaaGreat
open Go.Proofs.Tryz renaming prog → pg0
open Go.RowKit
structure PB (p:mW):Prop where
 abN:p.nK.length≤2000000
 Xi:p.pv.length≤2000000
 rel:∀x∈p.nK,mo x.la≤10000000
 Ut:∀a∈p.pv,mo a.la≤10000000
 clo:∀a∈p.pv,a.pf.length≤2000000
theorem Q6 (f:nM→Option Bool):∀(l:List nM) (i:Nat),pw f l i=Df f l i
 | [],i=>by rw [pw]; rfl
 | x::l,i=>by
  rw [pw,Df]
  cases f x with
  | none=>rfl
  | some b=>
   simp only [aA]
   rw [Q6 f l (i+1)]
theorem Qe (f:sT→Option Bool):∀(l:List sT) (i:Nat),rE f l i=Df f l i
 | [],i=>by rw [rE]; rfl
 | x::l,i=>by
  rw [rE,Df]
  cases f x with
  | none=>rfl
  | some b=>
   simp only [aA]
   rw [Qe f l (i+1)]
def AG (p:mW) (c:kK):Option nM:=p.nK.find? λx=>nE x.Signed.kK c
theorem Z0 (p:mW) (c:kK):∃z,DS p c=some (match AG p c with | some x=>(x,true) | none=>(z,false)):=by
 unfold DS xZ AG
 rw [Q6]
 rcases IQ (λx=>D5 x c) (λx=>nE x.Signed.kK c) p.nK 0 (λx _=>rfl) with ⟨e,h1⟩ | ⟨A,x,B,hp,h1,d,e⟩
 ·rw [e,aA,gS.2 (λx a=>by rw [h1 x a]; simp)]
  exact ⟨_,Z⟩
 ·rw [e,aA,hp,jP,gS.2 (λx a=>by rw [h1 x a]; simp),fB,d]
  have:¬(((0+A.length:Nat):Int) < 0):=by omega
  simp only [this,cE,aB,aH]
  rw [ov A x B _ eR]
  exact ⟨x,Z⟩
def zAc:sT:=⟨⟨zS,zS⟩,⟨0,0,⟨zS,zS⟩,[]⟩,[]⟩
theorem Qn (f:sT→Option Bool):∀(n:Nat) (l:List sT) (i j:Int),pW f n l i j=GP f zAc n l i j
 | 0,_,_,_=>rfl
 | n+1,l,i,j=>by
  rw [pW,GP]
  simp only [Qn f n]
  rfl
def Fh (p:mW) (c:kK):List sT:=p.pv.filter λa=>uX nE a.pf c
theorem XV (p:mW) (hp:PB p) (c:kK):CQ p c=some (Fh p c):=by
 have:=hp.Xi
 unfold CQ zp Fh
 rw [nL fo fo]
 simp only [aA,bN,vn]
 have:wG p.pv (λx=>yL x c)=JY (λx=>yL x c) zAc p.pv:=by
  unfold wG JY zJ
  simp only [Qe,Qn]
 rw [this,L7 _ (λa=>!uX nE a.pf c) zAc _ eR (λa _=>by unfold yL AM; rw [vn,XB]; rfl)]
 simp only [gE]
noncomputable def ub:Formula×Int→List Formula→Formula×Int
 | t,[]=>t
 | t,g::l=>if t.2=0 then ub (Dm ⟨2,0,uG,[t.1,g]⟩) l else t
theorem SE:∀(l:List Formula) (e o k:Int) (r:kL) (a:List Formula),(∀g∈l,mo g≤10000000)→mo ⟨o,k,r,a⟩≤64→
  yr l e o k r a=some ((ub (⟨o,k,r,a⟩,e) l).2,(ub (⟨o,k,r,a⟩,e) l).1.Op,(ub (⟨o,k,r,a⟩,e) l).1.K,(ub (⟨o,k,r,a⟩,e) l).1.kL,(ub (⟨o,k,r,a⟩,e) l).1.Kids)
 | [],e,o,k,r,a,_,_=>by rw [yr,ub]
 | g::l,e,o,k,r,a,h,t=>by
  rw [yr,ub]
  by_cases c:e=0
  ·have d:(e != 0)=false:=by simp [c]
   simp only [d,aB,aH,c,aJ]
   rw [ZK _ g eR (h g fb),aA]
   have j:=Dw (f:=⟨2,0,uG,[⟨o,k,r,a⟩,g]⟩)
   generalize Dm ⟨2,0,uG,[⟨o,k,r,a⟩,g]⟩=q at *
   obtain ⟨⟨p,k',s,i⟩,e'⟩:=q
   exact SE l e' p k' s i (λz n=>h z (by simp [n])) j
  ·have d:(e != 0)=true:=by simp [c]
   simp only [d,aJ,c,aH]
noncomputable def Mu (g:Formula) (l:List Formula):Formula×Int:=if (ub (Dm g) l).2=0 then ub (Dm g) l else (NF,(ub (Dm g) l).2)
theorem Zy (g:Formula) (l:List Formula) (s:mo g≤10000000) (j:∀x∈l,mo x≤10000000):Bb (g::l)=some (Mu g l):=by
 unfold Bb Mu
 have h:mT (g::l) 0=some g:=ov [] g l 0 Z
 have a:rr (decide (0≤1)&&decide ((1:Int)≤((g::l).length:Int)))=some ():=by
  rw [aM]
  have:(1:Int)≤((l.length+1:Nat):Int):=by omega
  simp [rr]; omega
 have n:=Dw (f:=g)
 rw [h,aA,SQ g (by unfold Gd; omega),aA,a,aA]
 generalize Dm g=q at *
 obtain ⟨⟨o,k,r,d⟩,e⟩:=q
 have i:(g::l).drop (Int.toNat 1)=l:=rfl
 rw [i,SE l e o k r d j n,aA]
 generalize ub (⟨o,k,r,d⟩,e) l=t
 obtain ⟨⟨u,k',v,p⟩,e'⟩:=t
 by_cases c:e'=0
 ·subst c; rfl
 ·have a:(e' != 0)=true:=by simp [c]
  simp only [a,aJ,c,aH]; rfl
noncomputable def rJ (p:mW) (c:kK):Formula×Int:=match AG p c with | none=>(NF,42) | some x=>Mu x.la ((Fh p c).map (·.la))
theorem Wq:∀(l:List sT) (acc:List Formula),acc.length+l.length≤3000000→za l acc=Bb (acc++l.map (·.la))
 | [],acc,_=>by
  rw [za,gA,bP]
  cases Bb acc <;> rfl
 | a::l,acc,h=>by
  rw [aM] at h
  rw [za,nL fo fo,aA,Wq l _ fo]
  simp
theorem XU {p:mW} {c:kK} {x:nM} (h:AG p c=some x):x∈p.nK∧x.Signed.kK=c:=by
 unfold AG at h
 have h1:=List.mem_of_find?_eq_some h
 have a:=List.find?_some h
 exact ⟨h1,xo.1 a⟩
theorem aaZ (p:mW) (hp:PB p) (c:kK):Eh p c=some (rJ p c):=by
 unfold Eh rJ
 obtain ⟨z,e⟩:=Z0 p c
 rw [e,aA]
 cases h:AG p c with
 | none=>rfl
 | some x=>
  simp only [bR,aB,aH]
  have i:=XU h
  have j:(Fh p c).length≤p.pv.length:=gj _ _
  have:=hp.Xi
  rw [XV p hp c,aA,Wq _ _ fo]
  exact Zy x.la _ (hp.rel x i.1) (λg d=>by
   obtain ⟨a,ha,rfl⟩:=bW.1 d
   exact hp.Ut a (dV.1 ha).1)
theorem OM (p:mW) (c:kK):mo (rJ p c).1≤64:=by
 have a:mo NF≤64:=by rw [NF,mo,nodesL]; omega
 have d:∀(l:List Formula) (t:Formula×Int),mo t.1≤64→mo (ub t l).1≤64:=by
  intro l
  induction l with
  | nil=>intro t h; exact h
  | cons g l ih=>
   intro t h
   rw [ub]
   split
   ·exact ih _ Dw
   ·exact h
 unfold rJ
 split
 ·exact a
 ·unfold Mu
  split
  ·exact d _ _ Dw
  ·exact a
theorem Ri:∀(l:List Formula) (f:Formula) (e:Int),(ub (f,e) l).2=0→e=0∧(si f=true→si (ub (f,e) l).1=true∧∀v,wB v (ub (f,e) l).1=(wB v f&&l.all (wB v)))
 | [],f,e,h=>by rw [ub] at *; exact ⟨h,λk=>⟨k,λv=>by simp⟩⟩
 | g::l,f,e,h=>by
  rw [ub] at *
  by_cases c:e=0
  ·simp only [c,aJ] at h ⊢
   cases a:Dm ⟨2,0,uG,[f,g]⟩ with
   | mk q e'=>
    rw [a] at h
    obtain ⟨h1,j⟩:=Ri l q e' h
    subst h1
    obtain ⟨n,a2,a3⟩:=Vd a
    obtain ⟨d,i⟩:=j a2
    refine ⟨trivial,λ_=>⟨d,λv=>?_⟩⟩
    rw [i v,a3 v,SO]
    simp [yO,iw]
  ·simp only [c,aH] at h
theorem Vj {p:mW} {c:kK} (h:(rJ p c).2=0):si (rJ p c).1=true∧∃x,AG p c=some x∧∀v,wB v (rJ p c).1=(wB v x.la&&(Fh p c).all λa=>wB v a.la):=by
 unfold rJ at *
 cases i:AG p c with
 | none=>rw [i] at h; simp at h
 | some x=>
  rw [i] at h
  simp only at h ⊢
  unfold Mu at *
  by_cases d:(ub (Dm x.la) ((Fh p c).map (·.la))).2=0
  ·simp only [d,aJ] at h ⊢
   cases g:Dm x.la with
   | mk q e=>
    rw [g] at d
    obtain ⟨h1,n⟩:=Ri _ q e d
    subst h1
    obtain ⟨o,a2,a3⟩:=Vd g
    obtain ⟨j,k⟩:=n a2
    refine ⟨j,x,Z,λv=>?_⟩
    rw [k v,a3 v,List.all_map]
    rfl
  ·simp only [d,aH] at h
def vF (F:List lx) (peer:ByteArray) (r:kL):Bool:=uX Gi F ⟨r,peer⟩
theorem Zb:∀(n:Nat) (l:List Formula),deepL l < n→∃r,uN n l=some r:=by
 intro n
 induction n with
 | zero=>intro l h; omega
 | succ n ih=>
  intro l h
  rw [uN]
  unfold Bx
  generalize (0:Int)=x
  induction l generalizing x with
  | nil=>exact ⟨x,by rw [yG]⟩
  | cons k l a=>
   rw [deepL] at h
   have:=oK k
   obtain ⟨r,e⟩:=ih k.Kids eR
   rw [yG,e,aA]
   exact a eR _
theorem NS (f:Formula) (h:Gd f):∃r,uN lP [f]=some r:=by
 unfold Gd at h
 have:=B5 f
 exact Zb lP [f] (by rw [deepL,deepL,nV]; omega)
structure PG (p:mW):Prop extends PB p where
 csz:∀x∈p.nK,AH x.Signed.kK≤1000000000
 asz:∀a∈p.pv,∀c∈a.pf,AH c≤1000000000
theorem MW:∀(l:List sT) (x:Int),(∀a∈l,mo a.la≤10000000∧a.pf.length≤2000000∧∀c∈a.pf,AH c≤1000000000)→∃r,xc l x=some r
 | [],x,_=>⟨x,by rw [xc]⟩
 | a::l,x,h=>by
  obtain ⟨h1,k,i⟩:=h a fb
  obtain ⟨n,d⟩:=NS a.la (by unfold Gd; omega)
  obtain ⟨o,g⟩:=QE a.pf eR i
  rw [xc,d,aA,g,aA]
  exact MW l _ (λz j=>h z (by simp [j]))
theorem Zl (p:mW) (hp:PG p):∃r,FO p=some r:=by
 have key:∀(l:List nM) (x:Int),(∀z∈l,z∈p.nK)→∃r,wU p l x=some r:=by
  intro l
  induction l with
  | nil=>
   intro x _
   obtain ⟨r,e⟩:=MW p.pv x (λa ha=>⟨hp.Ut a ha,hp.clo a ha,hp.asz a ha⟩)
   exact ⟨r,by rw [wU,e]; rfl⟩
  | cons z l ih=>
   intro x h
   have c:=h z fb
   obtain ⟨k,d⟩:=Zo [] [z.Signed] (λs i=>by
    obtain rfl:=aY.1 i
    exact hp.csz z c)
   obtain ⟨n,g⟩:=NS z.la (by have:=hp.rel z c; unfold Gd; omega)
   rw [wU,d]
   simp only [aA]
   rw [g,aA]
   exact ih _ (λy j=>h y (by simp [j]))
 exact key p.nK _ (λz c=>c)
noncomputable def vD (l:List kK) (peer:ByteArray) (r:kL):Bool:=@decide (sX (l.filter mQ) ⟨r,peer⟩) (Classical.propDecidable _)
theorem Wb (l:List kK) (peer:ByteArray) (r:kL):vD l peer r=true↔sX (l.filter mQ) ⟨r,peer⟩:=by unfold vD; simp
noncomputable def MG (p:mW) (v:kL→Bool) (c:kK):Bool:=decide ((rJ p c).2=0)&&MN v (rJ p c).1
theorem aa0:∀(n:Nat) (f:Formula),rn f≤n→Gd f→wv n f=some (mo f:Int):=by
 intro n
 induction n with
 | zero=>intro f h; rw [oK] at h; omega
 | succ n ih=>
  intro f g i
  rw [oK] at g
  have c:=rL f
  unfold Gd at i
  rw [wv]
  unfold BF
  have key:∀(a:List Formula) (x:Nat),(∀k∈a,k∈f.Kids)→x+nodesL a≤50000000→xb (wv n) a (x:Int)=some ((x+nodesL a:Nat):Int):=by
   intro a
   induction a with
   | nil=>intro x _ _; rw [xb,nodesL]; rfl
   | cons k a d=>
    intro x hk j
    rw [nodesL] at j
    rw [xb,ih k (by have:=vz (hk k fb); omega) (by have:=yo (hk k fb); unfold Gd; omega),aA]
    have w:IntKind.i64.wrap ((x:Int)+(mo k:Int))=((x+mo k:Nat):Int):=by rw [mr eR eR]; omega
    rw [w,d _ (λz o=>hk z (by simp [o])) eR,nodesL]
    congr 2; omega
  have:=key f.Kids 1 (λk hk=>hk) eR
  rw [c]
  exact this
theorem ab5:∀(n:Nat) (f:Formula),rn f≤n→Gd f→xr n f=some (rn f:Int):=by
 intro n
 induction n with
 | zero=>intro f h; rw [oK] at h; omega
 | succ n ih=>
  intro f g i
  rw [oK] at g ⊢
  have j:=rL f
  have hle:=B5 f
  rw [oK] at hle
  unfold Gd at i
  rw [xr]
  unfold Ck
  have key:∀(a:List Formula) (x:Nat),(∀k∈a,k∈f.Kids)→max x (deepL a)≤50000000→xH (xr n) a (x:Int)=some ((max x (deepL a)+1:Nat):Int):=by
   intro a
   induction a with
   | nil=>
    intro x _ c
    rw [deepL] at c
    rw [xH,deepL,mr eR eR]
    congr 1; omega
   | cons k a d=>
    intro x hk c
    rw [deepL] at c
    rw [xH,ih k (by have:=vz (hk k fb); omega) (by have:=yo (hk k fb); unfold Gd; omega),aA]
    have w:(if (rn k:Int) > (x:Int) then (rn k:Int) else (x:Int))=((max x (rn k):Nat):Int):=by split <;> omega
    rw [w,d _ (λz o=>hk z (by simp [o])) eR,deepL]
    congr 2; omega
  have:=key f.Kids 0 (λk hk=>hk) eR
  rw [Nat.zero_max] at this
  exact this
theorem abo:∀(n:Nat) (f:Formula),rn f≤n→xD n f=some (yk f):=by
 intro n
 induction n with
 | zero=>intro f h; rw [oK] at h; omega
 | succ n ih=>
  intro f h
  rw [oK] at h
  have key:∀j:List Formula,(∀k∈j,k∈f.Kids)→xQ (xD n) j=some (wellL j):=by
   intro j
   induction j with
   | nil=>intro _; rw [xQ,wellL]
   | cons k j s=>
    intro hk
    rw [xQ,ih k (by have:=vz (hk k fb); omega),aA,s λz u=>hk z (by simp [u]),wellL]
    cases yk k <;> rfl
  have hk:=key f.Kids (λk hk=>hk)
  rw [xD]
  unfold Cg
  rw [hk,Mr,Dh]
  unfold IY
  simp only [aA]
  by_cases c1:f.Op=1
  ·simp only [c1,aO,aJ]
   cases v:nk f.kL
   ·simp
   ·by_cases c:f.Kids.length=0
    ·have e:f.Kids=[]:=bF c
     by_cases q:f.K=0 <;> simp [e,q,wellL]
    ·have:((f.Kids.length:Int)==0)=false:=by rw [beq_eq_false_iff_ne]; omega
     simp [this,c]
  ·have t:(f.Op==1)=false:=by simpa using c1
   simp only [t,aB,aH,c1]
   by_cases i:f.Op=2∨f.Op=3
   ·have o:¬f.Op < 1:=by omega
    have a2:¬f.Op > 4:=by omega
    have a3:f.Op < 4:=by omega
    have a4:(f.Op==4)=false:=by rw [beq_eq_false_iff_ne]; omega
    simp only [o,a2,a3,a4,i,cE,cD,aB,aH,aJ,aA]
    cases g:lJ f.kL ⟨zS,zS⟩
    ·simp [uG,g]
    ·by_cases c:f.Kids.length≤8
     ·have d:¬((f.Kids.length:Int) > 8):=by omega
      by_cases q:f.K=0 <;> simp [uG,g,c,d,q]
     ·have d:((f.Kids.length:Int) > 8):=by omega
      simp [uG,g,c,d]
   ·by_cases p:f.Op=4
    ·have o:¬f.Op < 1:=by omega
     have a2:¬f.Op > 4:=by omega
     have a3:¬f.Op < 4:=by omega
     simp only [o,a2,a3,i,cE,aB,aH,aA]
     simp only [p,aO,aJ,cD,eP]
     cases g:lJ f.kL ⟨zS,zS⟩
     ·simp [uG,g]
     ·by_cases c:f.Kids.length≤8
      ·have d:¬((f.Kids.length:Int) > 8):=by omega
       by_cases d1:1≤f.Kids.length
       ·have g1:¬((f.Kids.length:Int) < 1):=by omega
        by_cases d2:0≤f.K
        ·have g2:¬f.K < 0:=by omega
         by_cases d3:f.K≤(f.Kids.length:Int)
         ·have g3:¬f.K > (f.Kids.length:Int):=by omega
          simp [uG,g,c,d,d1,g1,d2,g2,d3,g3]
         ·have g3:f.K > (f.Kids.length:Int):=by omega
          simp [uG,g,c,d,d1,g1,d2,g2,d3,g3]
        ·have g2:f.K < 0:=by omega
         simp [uG,g,c,d,d1,g1,d2,g2]
       ·have g1:((f.Kids.length:Int) < 1):=by omega
        simp [uG,g,c,d,d1,g1]
      ·have d:((f.Kids.length:Int) > 8):=by omega
       simp [uG,g,c,d]
    ·have a:f.Op < 1∨f.Op > 4:=by omega
     rcases a with a | a
     ·simp [a,i,p]
     ·have:¬f.Op < 1:=by omega
      simp [a,this,i,p]
theorem RX (f:Formula) (h:Gd f):wx f=some (si f):=by
 have c:=B5 f
 have a:=h
 unfold Gd at a
 unfold wx si
 rw [aa0 lP f (by rw [nV]; omega) h,ab5 lP f (by rw [nV]; omega) h,abo lP f (by rw [nV]; omega)]
 simp only [aA]
 by_cases c1:mo f≤64
 ·have d1:((mo f:Int)≤64):=by omega
  by_cases c2:rn f≤6
  ·have d2:((rn f:Int)≤6):=by omega
   simp [c1,c2,d1,d2]
  ·have d2:¬((rn f:Int)≤6):=by omega
   simp [c1,c2,d1,d2]
 ·have d1:¬((mo f:Int)≤64):=by omega
  simp [c1,d1]
theorem V0 {f:Formula} (hw:yk f=true) (a:mo f≤200):(DZ f).length≤40*mo f:=(Vf (rn f) f (aZ _) hw [] fo).2
theorem aah:∀(n:Nat) (f:Formula),rn f≤n→yk f=true→mo f≤64→tS n f=some (mH (DZ f)):=by
 intro n
 induction n with
 | zero=>intro f h; rw [oK] at h; omega
 | succ n ih=>
  intro f u hw A
  rw [oK] at u
  have w:=rL f
  obtain ⟨h1,p,i⟩:=Cm hw
  have d:0≤f.Op∧f.Op < 128:=by rcases i with h | h | h <;> omega
  have hlen:0≤(f.Kids.length:Int)∧(f.Kids.length:Int) < 128:=by omega
  have key:∀(c:List Formula) (l:List Int),(∀k∈c,k∈f.Kids)→wellL c=true→l.length+40*nodesL c≤8000→nodesL c≤64→xf (tS n) c (mH l)=some (mH (l++bytesFL c)):=by
   intro c
   induction c with
   | nil=>intro l _ _ _ _; rw [xf,bytesFL,bP]
   | cons k c o=>
    intro l hk a v j
    rw [wellL,bL] at a
    rw [nodesL] at v j
    have y:=V0 a.1 eR
    rw [xf,ih k (by have:=vz (hk k fb); omega) a.1 eR,aA,pN _ _ eR,aA,
     o _ (λz x=>hk z (by simp [x])) a.2 fo eR,bytesFL,aQ]
  rw [tS]
  unfold BE
  rw [Dz d.1 d.2,aA,ON]
  by_cases c1:f.Op=1
  ·have q:nk f.kL=true:=by rcases i with h | h | h; exact h.2.1; omega; omega
   have:=pa q
   simp only [c1,aO,aJ]
   rw [Gm q,aA,pN _ _ fo]
   rfl
  ·have s:(f.Op==1)=false:=by simpa using c1
   simp only [s,aB,aH,c1]
   by_cases g:f.Op=4
   ·have hk:0≤f.K∧f.K < 128:=by rcases i with h | h | h <;> omega
    simp only [g,aO,aJ]
    rw [Dz hk.1 hk.2,aA,pN _ _ fb,aA,aA,Dz hlen.1 hlen.2,aA,pN _ _ fb,aA,
     key f.Kids _ (λk hk=>hk) p fo eR]
    simp
   ·have t:(f.Op==4)=false:=by simpa using g
    simp only [t,aB,aH,g,aA]
    rw [Dz hlen.1 hlen.2,aA,pN _ _ fb,aA,key f.Kids _ (λk hk=>hk) p fo eR]
    simp
theorem rWr (f:Formula) (h:Gd f):((wx f).bind λr=>if r then (tS lP f).bind λa=>some a else some zS)=some (mH (Dx f)):=by
 rw [RX f h,aA]
 unfold Dx
 cases d:si f
 ·rfl
 ·obtain ⟨h1,g,c⟩:=EI d
  simp only [aJ]
  rw [aah lP f (by rw [nV]; omega) c h1,vn]
theorem P6 (f g:Formula) (j:Gd f) (k:Gd g):∃c:Int,Bn f g=some c∧(c > 0↔pI G2 g f=true):=by
 unfold Bn
 rw [rWr f j,aA,rWr g k,aA,Dq,sW,sW,Gl]
 rcases GG (xO (Dx f)) (xO (Dx g)) with h | h | h
 ·rw [aP h]
  refine ⟨-1,Z,iff_of_false eR λa=>?_⟩
  have:=De _ _ _ h a
  rw [As] at this; cases this
 ·have e:mx (mH (Dx f)) (mH (Dx g))=true:=mU.2 (Bv (by rw [sW,sW,h]))
  rw [h,As,e]
  exact ⟨0,Z,iff_of_false eR fb⟩
 ·have e:Op.bytesLess (xO (Dx f)) (xO (Dx g))=false:=by
   rw [←fQ]
   intro a
   have:=De _ _ _ h a
   rw [As] at this; cases this
  have i:mx (mH (Dx f)) (mH (Dx g))=false:=by
   rw [←fQ,mU]
   intro a
   have d:=bI (λs:ByteArray=>s.data.toList) a
   simp only [sW] at d
   rw [d,As] at h; cases h
  rw [e,i]
  exact ⟨1,Z,iff_of_true eR h⟩
theorem abx:∀(n:Nat) (f:Formula),rn f≤n→∀g,∃b,vR n f g=some b∧(b=true↔f=g):=by
 intro n
 induction n with
 | zero=>intro f h; rw [oK] at h; omega
 | succ n ih=>
  intro f h g
  rw [oK] at h
  have key:∀(l m A:List Formula),(∀x∈l,x∈f.Kids)→g.Kids=A++m→l.length=m.length→∃b,xN g (vR n) l A.length=some b∧(b=true↔l=m):=by
   intro l
   induction l with
   | nil=>
    intro m A _ _ a
    obtain rfl:=bF a.symm
    exact ⟨true,by rw [xN],fb⟩
   | cons x l p=>
    intro m A o s a
    match m,a with
    | y::m,a=>
     obtain ⟨b,e,k⟩:=ih x (by have:=vz (o x fb); omega) y
     rw [xN,s,ov A y m _ Z,aA,e,aA]
     cases b with
     | false=>
      refine ⟨false,Z,?_⟩
      have:x≠y:=λd=>by have:=k.2 d; simp at this
      simp [this]
     | true=>
      have d:=k.1 Z
      obtain ⟨b,q,c⟩:=p m (A++[y]) (λz t=>o z (by simp [t])) (by rw [s]; simp) (by simpa using a)
      rw [aF,List.length_singleton] at q
      simp only [bR,aB,aH]
      rw [q]
      exact ⟨b,Z,by rw [c]; simp [d]⟩
  rw [vR]
  unfold Ch
  by_cases h1:f.Op=g.Op
  ·by_cases c:f.K=g.K
   ·by_cases i:f.kL=g.kL
    ·have j:lJ f.kL g.kL=true:=lO.2 i
     by_cases a:f.Kids.length=g.Kids.length
     ·obtain ⟨b,e,k⟩:=key f.Kids g.Kids [] (λx o=>o) Z a
      rw [bZ] at e
      refine ⟨b,?_,k.trans ⟨λhk=>Formula.ext' h1 c i hk,λhk=>by rw [hk]⟩⟩
      simp [h1,c,j,a,e]
     ·refine ⟨false,?_,by simp; intro hk; rw [hk] at a; exact a Z⟩
      have:((f.Kids.length:Int) != (g.Kids.length:Int))=true:=by simp; omega
      simp [h1,c,j,this]
    ·have j:lJ f.kL g.kL=false:=by rw [←fQ,lO]; exact i
     exact ⟨false,by simp [h1,c,j],by simp; intro hk; rw [hk] at i; exact i Z⟩
   ·exact ⟨false,by simp [h1,c],by simp; intro hk; rw [hk] at c; exact c Z⟩
  ·exact ⟨false,by simp [h1],by simp; intro hk; rw [hk] at h1; exact h1 Z⟩
theorem WY (a b:Formula) (h:Gd a):vR lP a b=some (uQ a b):=by
 have:=B5 a
 unfold Gd at h
 obtain ⟨x,e,c⟩:=abx lP a (by rw [nV]; omega) b
 rw [e]; congr 1
 rw [cC,c,Gh]
section
variable {α:Type} {lt:α→α→Bool}
def TD (lt:α→α→Bool) (l:List α):Prop:=l.Pairwise λx y=>lt y x=false
theorem JI (h:SWO lt) (k:α):∀{l:List α},TD lt l→∃A B,l=A++B∧(∀x∈A,lt k x=false)∧(∀x∈B,lt k x=true)
 | [],_=>⟨[],[],Z,fb,fb⟩
 | x::l,i=>by
  obtain ⟨h1,c⟩:=cW.1 i
  cases e:lt k x with
  | true=>
   refine ⟨[],x::l,Z,fb,λy a=>?_⟩
   rcases aS.1 a with rfl | a
   ·exact e
   ·rcases h.U9 _ y _ e with q | q
    ·exact q
    ·rw [h1 y a] at q; cases q
  | false=>
   obtain ⟨A,B,rfl,d,g⟩:=JI h k c
   exact ⟨x::A,B,Z,λy a=>by
    rcases aS.1 a with rfl | a
    ·exact e
    ·exact d y a,g⟩
theorem NI {k:α} {A B:List α} (c:∀x∈A,lt k x=false) (d:∀x∈B,lt k x=true):GZ lt (A++B) k=A++k::B:=by
 unfold GZ
 rw [fV,fV]
 rw [gI.2 (λx a=>by rw [c x a]; rfl),List.filter_eq_nil_iff.2 (λx a=>by rw [d x a]; simp),List.filter_eq_nil_iff.2 (λx a=>by rw [c x a]; simp),gI.2 λx a=>d x a]
 simp
theorem Tt (h:SWO lt) {k:α} {A B:List α} (d:TD lt (A++B)) (g:∀x∈A,lt k x=false) (i:∀x∈B,lt k x=true):TD lt (A++k::B):=by
 unfold TD at *
 rw [dz] at *
 refine ⟨d.1,cW.2 ⟨λx j=>h.asym (i x j),d.2.1⟩,λa ha b c=>?_⟩
 rcases aS.1 c with rfl | c
 ·exact g a ha
 ·exact d.2.2 a ha b c
variable {eq:α→α→Bool}
theorem OW (he:∀x y,eq x y=true↔x=y) (k:α):∀(l:List α) (p:α),oT eq p (l++[k])=if eq k ((l.getLast?).getD p) then oT eq p l else oT eq p l++[k]
 | [],p=>by
  rw [bN,oT,oT]
  rfl
 | y::l,p=>by
  have e:((y::l).getLast?).getD p=(l.getLast?).getD y:=by cases l <;> rfl
  rw [cH,oT,oT,OW he k l y,e]
  by_cases h1:eq y p=true
  ·rw [aP h1,aP h1]
  ·rw [aN h1,aN h1]
   split <;> rfl
def EV (eq:α→α→Bool) (l:List α) (k:α):Bool:=match l.getLast? with | some y=>eq y k | none=>false
theorem V6 (x:α) (l:List α):(x::l).getLast? =some ((l.getLast?).getD x):=by cases l <;> rfl
theorem Y4 (he:∀x y,eq x y=true↔x=y) (k:α) (l:List α):dd eq (l++[k])=if EV eq l k then dd eq l else dd eq l++[k]:=by
 cases l with
 | nil=>rfl
 | cons x l=>
  have a:dd eq ((x::l)++[k])=x::oT eq x (l++[k]):=rfl
  have c:dd eq (x::l)=x::oT eq x l:=rfl
  unfold EV
  rw [a,c,OW he,V6]
  simp only
  by_cases h:(l.getLast?).getD x=k
  ·rw [h,aP ((he k k).2 Z),aP ((he k k).2 Z)]
  ·rw [aN λq=>h ((he _ _).1 q).symm,aN λq=>h ((he _ _).1 q)]; rfl
theorem Rx (he:∀x y,eq x y=true↔x=y) (y:α) (B:List α):∀(l:List α) (p:α),y≠(l.getLast?).getD p→oT eq p (l++y::B)=oT eq p l++y::oT eq y B
 | [],p,h=>by
  have h:y≠p:=h
  rw [bN]
  have e:oT eq p (y::B)=if eq y p then oT eq y B else y::oT eq y B:=rfl
  rw [e,aN λq=>h ((he _ _).1 q)]; rfl
 | z::l,p,h=>by
  have e:((z::l).getLast?).getD p=(l.getLast?).getD z:=by cases l <;> rfl
  rw [e] at h
  rw [cH,oT,oT,Rx he y B l z h]
  split <;> rfl
theorem Wc (he:∀x y,eq x y=true↔x=y) (A:List α):∀B:List α,(∀y,B.head? =some y→A.getLast?≠some y)→dd eq (A++B)=dd eq A++dd eq B
 | [],_=>by rw [bP]; show _=dd eq A++[]; rw [bP]
 | y::B,h=>by
  have h:=h y Z
  cases A with
  | nil=>rfl
  | cons x A=>
   have e:(x::A).getLast? =some ((A.getLast?).getD x):=by cases A <;> rfl
   rw [e] at h
   rw [cH,dd,dd,dd,Rx he y B A x λq=>h (by rw [q])]; rfl
theorem O1 (he:∀x y,eq x y=true↔x=y):∀(l:List α) (p:α),((oT eq p l).getLast?).getD p=(l.getLast?).getD p
 | [],p=>by rw [oT]
 | y::l,p=>by
  have e:((y::l).getLast?).getD p=(l.getLast?).getD y:=by cases l <;> rfl
  rw [oT,e,←O1 he l y]
  by_cases h:eq y p=true
  ·rw [aP h,(he _ _).1 h]
  ·rw [aN h]
   cases oT eq y l <;> rfl
theorem ZF (he:∀x y,eq x y=true↔x=y) (l:List α):(dd eq l).getLast? =l.getLast?:=by
 cases l with
 | nil=>rfl
 | cons x l=>
  have e:∀m:List α,(x::m).getLast? =some ((m.getLast?).getD x):=by intro m; cases m <;> rfl
  rw [dd,e,e,O1 he]
theorem aaC (h:SWO lt) (he:∀x y,eq x y=true↔x=y) {k:α} {A B:List α} (g:∀x∈A,lt k x=false) (d:∀x∈B,lt k x=true) :
  dd eq (A++B)=dd eq A++dd eq B∧dd eq (A++k::B)=(if EV eq A k then dd eq A else dd eq A++[k])++dd eq B:=by
 have h1:∀y,B.head? =some y→A.getLast?≠some y:=λy c a=>by
  have:=d y (List.mem_of_mem_head? c)
  rw [g y (List.mem_of_getLast? a)] at this; cases this
 refine ⟨Wc he A B h1,?_⟩
 have e:A++k::B=(A++[k])++B:=by simp
 rw [e,Wc he (A++[k]) B,Y4 he]
 intro y c a
 rw [List.getLast?_append] at a
 simp only [List.getLast?_singleton,Option.some_or,ib] at a
 have:=d y (List.mem_of_mem_head? c)
 rw [a,h.Yq] at this; cases this
end
theorem MY (l:List Formula) (k:Formula) (h:∀x∈l,Gd x) (hk:Gd k) (A:List Formula) (o:∀x∈A,pI G2 k x=false):∀(m:Nat) (B C:List Formula),B.length=m→l=A++B++C→(∀x∈B,pI G2 k x=true)→l.length≤1000000→∀n,m < n→
  ui l k n ((A.length+B.length:Nat):Int)=some (A.length:Int)
 | 0,B,C,hm,a,g,hlen,n+1,p=>by
  obtain rfl:=bF hm
  rw [ui]
  simp only [bZ,gZ]
  rcases dt A with rfl | ⟨A',y,rfl⟩
  ·rfl
  ·rw [dR] at *
   have hp:((A'++[y]).length:Int) > 0:=by simp
   simp only [hp,cD,aJ]
   have hw:IntKind.i64.wrap (((A'++[y]).length:Int)-1)=(A'.length:Int):=by
    simp at hlen a ⊢
    rw [a] at hlen
    simp at hlen
    rw [mr eR eR]
   rw [hw,show mT l (A'.length:Int)=some y from by rw [a]; simp only [bP,aQ]; exact ov A' y C _ Z,aA]
   have j:y∈l:=by rw [a]; simp
   obtain ⟨c,e,i⟩:=P6 y k (h y j) hk
   have d:¬c > 0:=λq=>by have:=i.1 q; rw [o y fb] at this; cases this
   rw [e,aA]
   simp [d]
 | m+1,B,C,hm,a,g,hlen,n+1,p=>by
  rcases dt B with rfl | ⟨B',y,rfl⟩
  ·simp at hm
  ·rw [dR] at *
   rw [ui]
   have hp:((A.length+(B'++[y]).length:Nat):Int) > 0:=by simp; omega
   simp only [hp,cD,aJ]
   have hw:IntKind.i64.wrap (((A.length+(B'++[y]).length:Nat):Int)-1)=((A.length+B'.length:Nat):Int):=by
    rw [a] at hlen
    simp at hlen
    rw [mr fo fo]; simp; omega
   have hi:mT l ((A.length+B'.length:Nat):Int)=some y:=by
    rw [a]
    have e:A++(B'++[y])++C=(A++B')++y::C:=by simp
    rw [e]
    exact ov (A++B') y C _ fb
   rw [hw,hi,aA]
   have j:y∈l:=by rw [a]; simp
   obtain ⟨c,e,i⟩:=P6 y k (h y j) hk
   have d:c > 0:=i.2 (g y fb)
   rw [e,aA]
   simp only [d,cD,aA,aJ]
   exact MY l k h hk A o m B' (y::C) (by simp at hm; omega) (by rw [a]; simp) (λx s=>g x (by simp [s])) hlen n eR
theorem acp {b:Bool} (h:b=true):rr b=some ():=by rw [h]; rfl
theorem Ll (a:Bool) (k:Formula) (i A B:List Formula) (n:∀x∈A++B,Gd x) (hk:Gd k) (o:∀x∈A,pI G2 k x=false) (p:∀x∈B,pI G2 k x=true) (hlen:(A++B).length≤1000000) :
  oA a (k::i) (A++B)=if a&&EV uQ A k then oA a i (A++B) else oA a i (A++k::B):=by
 have j:=MY (A++B) k n hk A o B.length B [] Z fb p hlen lP (by rw [nV]; simp at hlen; omega)
 have c:A.length+B.length≤1000000:=by simpa using hlen
 rw [oA,aF,j,aA]
 have rest:((rr (decide ((0:Int)≤(A.length:Int))&&decide ((A.length:Int)≤((A++B).length:Int)))).bind λ_=>(nF 72 ([]) ((A++B).take (Int.toNat (A.length:Int)))).bind λd=>(nF 72 d ([k])).bind λg=>(rr (decide ((0:Int)≤(A.length:Int))&&decide ((A.length:Int)≤((A++B).length:Int)))).bind λ_=>(nF 72 g ((A++B).drop (Int.toNat (A.length:Int)))).bind λh=>oA a i h)=oA a i (A++k::B):=by
  rw [acp fo,aA,dZ,List.take_left,List.drop_left,nL fo fo,aA,nL fo fo,aA,aA,nL fo fo,aA]
  simp
 rw [aF] at rest
 cases a with
 | false=>exact rest
 | true=>
  simp only [aJ,aA,eP]
  rcases dt A with rfl | ⟨A',y,rfl⟩
  ·exact rest
  ·rw [dR] at *
   have hp:((A'++[y]).length:Int) > 0:=by simp
   simp only [hp,cD,aJ]
   have hw:IntKind.i64.wrap (((A'++[y]).length:Int)-1)=(A'.length:Int):=by
    simp at c ⊢
    rw [mr eR eR]
   have hi:mT ((A'++[y])++B) (A'.length:Int)=some y:=by
    simp only [aQ,cH,bN]
    exact ov A' y B _ Z
   rw [hw,hi,aA,WY y k (n y fb),aA,aA]
   have q:EV uQ (A'++[y]) k=uQ y k:=by unfold EV; rw [List.getLast?_append]; rfl
   rw [q]
   cases uQ y k
   ·simp only [aB,aH]; exact rest
   ·rfl
theorem NB {x:Formula} {l:List Formula} (h:x∈dd uQ l):x∈l:=(QO (λ_ _=>Gh) l x).1 h
theorem LN:∀(c S:List Formula),TD (pI G2) S→(∀x∈S,Gd x)→(∀x∈c,Gd x)→S.length+c.length≤1000000→oA true c (dd uQ S)=some (dd uQ (c.foldl (GZ (pI G2)) S))
 | [],S,_,_,_,_=>by rw [oA]; rfl
 | k::c,S,n,i,hk,p=>by
  rw [aM] at p
  obtain ⟨A,B,rfl,d,g⟩:=JI OL k n
  obtain ⟨q,s⟩:=aaC (eq:=uQ) OL (λ_ _=>Gh) d g
  have j:=RI uQ (A++B)
  rw [q] at j ⊢
  rw [Ll true k c (dd uQ A) (dd uQ B) (λx a=>by
   rcases aX.1 a with h | h
   ·exact i x (by simp [NB h])
   ·exact i x (by simp [NB h])) (hk k fb) (λx a=>d x (NB a)) (λx a=>g x (NB a)) eR,fA,NI d g]
  have t:EV uQ (dd uQ A) k=EV uQ A k:=by unfold EV; rw [ZF (eq:=uQ) λ_ _=>Gh]
  rw [t,eP]
  have ih:=LN c (A++k::B) (Tt OL n d g) (λx a=>by
   rcases aX.1 a with h | h
   ·exact i x (by simp [h])
   ·rcases aS.1 h with rfl | h
    ·exact hk _ fb
    ·exact i x (by simp [h])) (λx a=>hk x (by simp [a])) (by simp at p ⊢; omega)
  rw [s] at ih
  cases o:EV uQ A k
  ·rw [o] at ih
   simp only [aB,aH] at ih ⊢
   rw [←ih]; simp
  ·rw [o] at ih
   simp only [aJ] at ih ⊢
   exact ih
theorem Nk:∀(a S:List Formula),TD (pI G2) S→(∀x∈S,Gd x)→(∀x∈a,Gd x)→S.length+a.length≤1000000→oA false a S=some (a.foldl (GZ (pI G2)) S)
 | [],S,_,_,_,_=>by rw [oA]; rfl
 | k::a,S,j,g,hk,n=>by
  rw [aM] at n
  obtain ⟨A,B,rfl,c,d⟩:=JI OL k j
  rw [Ll false k a A B g (hk k fb) c d eR,fA,NI c d,gw]
  simp only [aB,aH]
  exact Nk a (A++k::B) (Tt OL j c d) (λx i=>by
   rcases aX.1 i with h | h
   ·exact g x (by simp [h])
   ·rcases aS.1 h with rfl | h
    ·exact hk _ fb
    ·exact g x (by simp [h])) (λx i=>hk x (by simp [i])) (by simp at n ⊢; omega)
theorem abJ (l:List Formula) (h:∀x∈l,Gd x) (a:l.length≤1000000):Aa l true=some (dd uQ (Ad l)):=LN l [] List.Pairwise.nil fb h (by simpa using a)
theorem acy (l:List Formula) (h:∀x∈l,Gd x) (a:l.length≤1000000):Aa l false=some (Ad l):=Nk l [] List.Pairwise.nil fb h (by simpa using a)
theorem KT (f:Formula) (op:Int):Ap f op=some (nj op f):=IZ f op
theorem P8 (op:Int) (a:op=2∨op=3) (s:nc):∀l:List Formula,tw op s l=some (if l.any (nj (5-op)) then .inl (⟨5-op,0,uG,[]⟩,s) else .inr ())
 | []=>rfl
 | x::l=>by
  have hw:IntKind.i64.wrap (5-op)=5-op:=mr eR eR
  rw [tw,hw,KT,aA,gd,P8 op a s l]
  cases nj (5-op) x <;> rfl
theorem VU (op:Int) (a:op=2∨op=3) (l:List Formula) (j:nodesL l≤64):pb op ⟨false⟩ [] l=some (if l.any (nj (5-op)) then ⟨5-op,0,uG,[]⟩ else match dd uQ (Ad l) with | [x]=>x | r=>⟨op,0,uG,r⟩,⟨false⟩):=by
 have g:=ul l
 rw [pb,P8 op a,aA]
 cases h:l.any (nj (5-op))
 ·simp only [aB,aH]
  rw [abJ l (λx d=>by have:=yo d; unfold Gd; omega) eR,aA]
  have i:=RI uQ (Ad l)
  have hp:=(DA l).length_eq
  have c:¬(((dd uQ (Ad l)).length:Int) > 64):=by omega
  simp only [c,cE,aB,aH,aA]
  generalize dd uQ (Ad l)=r
  match r with
  | []=>rfl
  | [x]=>rfl
  | x::y::r=>
   have:(((x::y::r).length:Int)==1)=false:=by simp; omega
   simp only [this,aB,aH]
   rfl
 ·rfl
theorem Mx (op:Int) (g:op=2∨op=3):∀(d acc:List Formula),nodesL acc+nodesL d≤64→
  pb op ⟨false⟩ d acc=some (if (acc++rN op d).any (nj (5-op)) then ⟨5-op,0,uG,[]⟩ else match dd uQ (Ad (acc++rN op d)) with | [x]=>x | r=>⟨op,0,uG,r⟩,⟨false⟩)
 | [],acc,h=>by
  rw [nodesL] at h
  rw [rN,bP]
  exact VU op g acc eR
 | k::d,acc,h=>by
  rw [nodesL] at h
  have h1:=rL k
  have o:=ul k.Kids
  have p:=ul acc
  have e:∀a b:List Formula,nodesL (a++b)=nodesL a+nodesL b:=by
   intro a b
   induction a with
   | nil=>rw [bN,nodesL]; omega
   | cons x a i=>rw [cH,nodesL,nodesL,i]; omega
  have hw:IntKind.i64.wrap (5-op)=5-op:=mr eR eR
  rw [pb,rN]
  by_cases c:k.Op=op
  ·simp only [c,aO,aJ]
   rw [nL eR eR,aA,Mx op g d _ (by rw [e]; omega),aQ]
  ·have j:(k.Op==op)=false:=by simpa using c
   simp only [j,aB,aH,c]
   rw [KT,hw,aA]
   cases n:nj (5-op) k
   ·simp only [aB,aH]
    rw [nL fo fo,aA,Mx op g d _ (by rw [e,nodesL,nodesL]; omega),aQ]
   ·simp only [aJ]
    have:(acc++([k]++rN op d)).any (nj (5-op))=true:=by simp [n]
    rw [this]; rfl
theorem TT (op:Int) (c:op=2∨op=3) (a:List Formula) (h:nodesL a≤64):th ⟨false⟩ op a=some (tX op a,⟨false⟩):=by
 unfold th tX
 rw [Mx op c a [] (by rw [nodesL]; omega),bN]
 rfl
theorem Hp:∀(a acc:List Formula) (k:Int),-1000≤k-(a.length:Int)→k≤1000→acc.length+a.length≤1000→
  oV a k acc=some (k-((a.filter (nj 2)).length:Int),acc++a.filter λx=>!nj 2 x&&!nj 3 x)
 | [],acc,k,h1,c,d=>by rw [oV]; simp
 | x::a,acc,k,h1,c,d=>by
  simp only [aM] at h1 d
  rw [oV,KT,aA,KT,aA]
  rw [dv,dv]
  cases c2:nj 2 x
  ·cases g:nj 3 x
   ·simp only [cX,jW,aB,aH,aJ]
    rw [nL fo fo,aA,Hp a _ k eR c fo]
    simp only [aQ,cH,bN]
   ·simp only [cX,bR,Bool.and_false,aB,aH]
    rw [Hp a _ k eR c eR]
  ·simp only [bR,gw,aB,aH,aJ]
   rw [mr eR eR,Hp a _ (k-1) eR eR eR]
   simp only [aM]
   have e:k-1-((a.filter (nj 2)).length:Int)=k-(((a.filter (nj 2)).length+1:Nat):Int):=by omega
   rw [e]
theorem aaw:∀(n:Nat) (f:Formula),rn f≤n→mo f≤64→yk f=true→oZ n ⟨false⟩ f=some (uI f,⟨false⟩):=by
 intro n
 induction n with
 | zero=>intro f h; rw [oK] at h; omega
 | succ n ih=>
  intro f y L hw
  rw [oK] at y
  have A:=rL f
  obtain ⟨h1,w,s⟩:=Cm hw
  rw [oZ]
  unfold xt
  rw [Hu]
  by_cases c1:f.Op=1
  ·simp only [c1,aO,aJ]
  ·have t:(f.Op==1)=false:=by simpa using c1
   simp only [t,aB,aH,c1]
   have last:∀acc:List Formula,nodesL acc≤64→pA (oZ n) f [] acc ⟨false⟩=some (if f.Op=4 then ya f.K acc else tX f.Op acc,⟨false⟩):=by
    intro acc d
    have hlen:=ul acc
    have J:=Ed (λx=>!nj 2 x&&!nj 3 x) acc
    rw [pA]
    by_cases q:f.Op=4
    ·have hk:0≤f.K∧f.K≤(f.Kids.length:Int):=by rcases s with h | h | h <;> omega
     have j:¬f.Op < 4:=by omega
     simp only [j,q,cE,aB,aH,aJ]
     rw [Hp acc [] f.K eR eR fo,aA,bN]
     unfold ya
     simp only
     have i:=ul (acc.filter λx=>!nj 2 x&&!nj 3 x)
     have hm:∀x∈(acc.filter λx=>!nj 2 x&&!nj 3 x),Gd x:=λx G=>by have:=yo G; unfold Gd; omega
     generalize (acc.filter λx=>!nj 2 x&&!nj 3 x)=l at *
     generalize f.K-((acc.filter (nj 2)).length:Int)=k
     by_cases d1:k≤0
     ·simp only [d1,cD,aJ]; rfl
     ·simp only [d1,cE,aB,aH]
      by_cases d2:k > (l.length:Int)
      ·simp only [d2,cD,aJ]; rfl
      ·simp only [d2,cE,aB,aH]
       by_cases d3:k=(l.length:Int)
       ·simp only [←d3,aO,aJ]
        rw [TT 2 (.inl Z) l eR,aA]
        rfl
       ·have u:(k==(l.length:Int))=false:=by simpa using d3
        simp only [u,aB,aH,d3]
        by_cases d4:k=1
        ·simp only [d4,aO,aJ]
         rw [TT 3 (.inr Z) l eR,aA]
         rfl
        ·have v:(k==1)=false:=by simpa using d4
         simp only [v,aB,aH,d4]
         rw [acy l hm eR]
         rfl
    ·have o:f.Op=2∨f.Op=3:=by rcases s with h | h | h <;> omega
     have j:f.Op < 4:=by omega
     simp only [j,q,cD,aJ,aH]
     rw [TT f.Op o acc d,aA]
   have key:∀(a acc:List Formula),(∀k∈a,k∈f.Kids)→wellL a=true→nodesL (acc++shapeL a)≤64→nodesL a≤64→pA (oZ n) f a acc ⟨false⟩=some (if f.Op=4 then ya f.K (acc++shapeL a) else tX f.Op (acc++shapeL a),⟨false⟩):=by
    intro a
    induction a with
    | nil=>
     intro acc _ _ d _
     rw [shapeL,bP] at *
     exact last acc d
    | cons k a p=>
     intro acc hk c d i
     rw [wellL,bL] at c
     rw [nodesL] at i
     rw [shapeL] at d
     have g:=ul (acc++uI k::shapeL a)
     simp only [aF,aM] at g
     rw [pA,ih k (by have:=vz (hk k fb); omega) eR c.1,aA,nL fo fo,aA,
      p (acc++[uI k]) (λz I=>hk z (by simp [I])) c.2 (by rw [aQ]; exact d) eR,shapeL]
     simp only [aQ,cH,bN]
   have:=JA f.Kids
   have:=key f.Kids [] (λk hk=>hk) w (by simpa using by omega) eR
   simpa using this
theorem YV (f:Formula) (h:Gd f):DN f=some (Dm f):=by
 unfold DN Dm
 rw [RX f h,aA]
 cases c:si f
 ·rfl
 ·obtain ⟨h1,d,a⟩:=EI c
  have g:=E7 f
  simp only [bR,aB,aH,aJ]
  rw [aaw lP f (by rw [nV]; omega) h1 a,aA,RX (uI f) (by unfold Gd; omega)]
  simp only [aB,aH,aA]
  cases si (uI f) <;> rfl
theorem NV (c:kK):∀(l:List sT) (e o k:Int) (r:kL) (d:List Formula),(∀a∈l,mo a.la≤10000000)→mo ⟨o,k,r,d⟩≤64→
  xT c l e o k r d=some (let t:=ub (⟨o,k,r,d⟩,e) ((l.filter λa=>uX nE a.pf c).map (·.la)); (t.2,t.1.Op,t.1.K,t.1.kL,t.1.Kids))
 | [],e,o,k,r,d,_,_=>by rw [xT,List.filter_nil,gA,ub]
 | a::l,e,o,k,r,d,h,u=>by
  have ha:=h a fb
  have p:∀x∈l,mo x.la≤10000000:=λx y=>h x (by simp [y])
  rw [xT,dv,SR]
  by_cases j:e=0
  ·have n:(e==0)=true:=by simp [j]
   simp only [n,aJ,aA]
   cases G:uX nE a.pf c
   ·simp only [aB,aH]
    exact NV c l e o k r d p u
   ·simp only [aJ]
    rw [bY,ub]
    simp only [j,aJ]
    have v:Gd ⟨2,0,uG,[⟨o,k,r,d⟩,a.la]⟩:=by show mo _≤_; rw [mo,nodesL,nodesL,nodesL]; omega
    rw [show (⟨2,0,(⟨zS,zS⟩:kL),[(⟨o,k,r,d⟩:Formula),a.la]⟩:Formula)=⟨2,0,uG,[⟨o,k,r,d⟩,a.la]⟩ from rfl,YV _ v,aA]
    have w:=Dw (f:=⟨2,0,uG,[⟨o,k,r,d⟩,a.la]⟩)
    generalize Dm ⟨2,0,uG,[⟨o,k,r,d⟩,a.la]⟩=q at *
    obtain ⟨⟨z,k',A,s⟩,e'⟩:=q
    exact NV c l e' z k' A s p w
  ·have n:(e==0)=false:=by simpa using j
   simp only [n,aB,aH,aA]
   rw [NV c l e o k r d p u]
   have i:∀m:List Formula,ub (⟨o,k,r,d⟩,e) m=(⟨o,k,r,d⟩,e):=by
    intro m
    cases m with
    | nil=>rw [ub]
    | cons g m=>rw [ub]; simp only [j,aH]
   rw [i,i]
theorem U7 (c:kK) (p:mW) (hp:PB p):∀l:List nM,(∀x∈l,x∈p.nK)→AY c p l=some (match l.find? (λx=>nE x.Signed.kK c) with | none=>(NF,42) | some x=>Mu x.la ((Fh p c).map (·.la)))
 | [],_=>rfl
 | x::l,h=>by
  rw [AY,fB]
  cases s:nE x.Signed.kK c
  ·simp only [cX,aJ]
   exact U7 c p hp l (λz j=>h z (by simp [j]))
  ·simp only [bR,aB,aH]
   have u:=hp.rel x (h x fb)
   have i:=Dw (f:=x.la)
   rw [YV _ (by unfold Gd; omega),aA]
   unfold Mu Fh
   generalize Dm x.la=q at *
   obtain ⟨⟨o,k,r,d⟩,e⟩:=q
   rw [NV c p.pv e o k r d hp.Ut i,aA]
   simp only
   generalize ub (⟨o,k,r,d⟩,e) ((p.pv.filter λa=>uX nE a.pf c).map (·.la))=t
   obtain ⟨⟨v,k',w,n⟩,e'⟩:=t
   by_cases c1:e'=0
   ·subst c1; rfl
   ·have g:(e' != 0)=true:=by simp [c1]
    simp only [g,aJ,c1,aH]; rfl
theorem abL (p:mW) (hp:PB p) (c:kK):Gb p c=some (rJ p c):=by
 unfold Gb rJ AG
 refine (U7 c p hp _ λx a=>a).trans ?_
 cases p.nK.find? (λx=>nE x.Signed.kK c) <;> rfl
theorem acn (l:List kL) (r:kL):EX l r=some (uX lJ l r):=by
 unfold EX
 induction l with
 | nil=>rfl
 | cons x l ih=>
  rw [BS,ih]
  have e:uX lJ (x::l) r=(lJ r x||uX lJ l r):=rfl
  have a:lJ x r=lJ r x:=by rw [cC,lO,lO]; exact eq_comm
  rw [e,a]
  cases lJ r x <;> rfl
theorem Mf (l:List kL) (rec:Formula→List kL→Option Bool) (f:Formula) (v:kL→Bool):∀(a:List Formula) (x:Nat),(∀k∈a,rec k l=some (wB v k))→x+a.length≤100000000→
  wj rec l f a (x:Int)=some (if f.Op=2 then decide (x+evN v a=f.Kids.length) else if f.Op=3 then decide (0 < x+evN v a) else decide (f.K≤((x+evN v a:Nat):Int)))
 | [],x,_,_=>by
  rw [wj,evN,gZ]
  by_cases c2:f.Op=2
  ·simp only [c2,aO,aJ]
   congr 1
   rw [cC,gP,cP]; omega
  ·have d:(f.Op==2)=false:=by simpa using c2
   simp only [d,aB,aH,c2]
   by_cases c:f.Op=3
   ·simp only [c,aO,aJ]
    congr 1
    rw [cC,cP,cP]; omega
   ·have i:(f.Op==3)=false:=by simpa using c
    simp only [i,aB,aH,c]
    first | done | rfl
 | k::a,x,h,j=>by
  rw [aM] at j
  rw [wj,h k fb,aA,evN]
  cases wB v k
  ·simp only [aB,aH]
   rw [Mf l rec f v a x (λz g=>h z (by simp [g])) eR,fa]
  ·simp only [aJ]
   have e:IntKind.i64.wrap ((x:Int)+1)=((x+1:Nat):Int):=by rw [mr eR eR]; omega
   rw [e,Mf l rec f v a (x+1) (λz g=>h z (by simp [g])) eR]
   have d:x+1+evN v a=x+(1+evN v a):=by omega
   rw [d]
theorem abA (l:List kL):∀(n:Nat) (f:Formula),rn f≤n→Gd f→xv n f l=some (wB (uX lJ l) f):=by
 intro n
 induction n with
 | zero=>intro f h; rw [oK] at h; omega
 | succ n ih=>
  intro f c d
  rw [oK] at c
  have g:=rL f
  have i:=ul f.Kids
  unfold Gd at d
  rw [xv]
  unfold Ci
  rw [Fp,acn]
  by_cases c1:f.Op=1
  ·simp only [c1,aO,aJ,aA]
  ·have a:(f.Op==1)=false:=by simpa using c1
   simp only [a,aB,aH,c1]
   have:=Mf l (xv n) f (uX lJ l) f.Kids 0 (λk hk=>ih k (by have:=vz hk; omega) (by have:=yo hk; unfold Gd; omega)) eR
   simpa using this
theorem WQ (F:List lx) (w:ByteArray):uX lJ (QS F w)=vF F w:=by
 funext r
 unfold vF QS
 rw [cC,BL lO,BL Co,bW]
 constructor
 ·rintro ⟨f,c,rfl⟩
  obtain ⟨h1,a⟩:=dV.1 c
  have:=mU.1 a
  rw [←this]; exact h1
 ·intro h
  exact ⟨⟨r,w⟩,dV.2 ⟨h,mU.2 Z⟩,Z⟩
theorem Yn {l:List kK} {F:List lx} (h:aan l F) (peer:ByteArray):vF F peer=vD l peer:=by
 funext r
 rw [cC,Wb]
 unfold vF
 rw [BL Co,(h.Cd (l.filter mQ) (λc=>by rw [dV])).2]
mutual
def Ho:Formula→Nat
 | ⟨_,_,r,ks⟩=>1+r.kO.size+r.Word.size+szFL ks
def szFL:List Formula→Nat
 | []=>0
 | k::ks=>Ho k+szFL ks
end
theorem Wj (f:Formula):Ho f=1+f.kL.kO.size+f.kL.Word.size+szFL f.Kids:=by cases f; rw [Ho]
theorem Pc:∀f:Formula,mo f≤Ho f:=by
 refine TW λf ih=>?_
 have:∀a:List Formula,(∀k∈a,mo k≤Ho k)→nodesL a≤szFL a:=by
  intro a
  induction a with
  | nil=>intro _; rw [nodesL]; omega
  | cons k a c=>
   intro h
   have:=c (λx d=>h x (by simp [d]))
   have:=h k fb
   rw [nodesL,szFL]; omega
 have:=this f.Kids ih
 rw [rL,Wj]; omega
def EA:List kK→Nat
 | []=>0
 | c::l=>20+AH c+EA l
theorem g5:∀(l:List kK) (n:Int),0≤n→n+(EA l:Int)≤4000000000000000000→tD l n=some (n+(EA l:Int))
 | [],n,_,_=>by rw [tD,EA]; simp
 | c::l,n,d,a=>by
  have e:AH c=c.Head.kO.size+c.Head.Word.size+c.lV.size+c.B.kO.size+c.B.Word.size+c.C.kO.size+c.C.Word.size+c.lW.size:=rfl
  rw [EA] at a
  rw [tD]
  rw [mr (x:=20+(c.Head.kO.size:Int)) eR eR,mr (x:=20+(c.Head.kO.size:Int)+(c.Head.Word.size:Int)) eR eR,mr (x:=20+(c.Head.kO.size:Int)+(c.Head.Word.size:Int)+(c.lV.size:Int)) eR eR,mr (x:=20+(c.Head.kO.size:Int)+(c.Head.Word.size:Int)+(c.lV.size:Int)+(c.B.kO.size:Int)) eR eR,mr (x:=20+(c.Head.kO.size:Int)+(c.Head.Word.size:Int)+(c.lV.size:Int)+(c.B.kO.size:Int)+(c.B.Word.size:Int)) eR eR,mr (x:=20+(c.Head.kO.size:Int)+(c.Head.Word.size:Int)+(c.lV.size:Int)+(c.B.kO.size:Int)+(c.B.Word.size:Int)+(c.C.kO.size:Int)) eR eR,mr (x:=20+(c.Head.kO.size:Int)+(c.Head.Word.size:Int)+(c.lV.size:Int)+(c.B.kO.size:Int)+(c.B.Word.size:Int)+(c.C.kO.size:Int)+(c.C.Word.size:Int)) eR eR,mr (x:=20+(c.Head.kO.size:Int)+(c.Head.Word.size:Int)+(c.lV.size:Int)+(c.B.kO.size:Int)+(c.B.Word.size:Int)+(c.C.kO.size:Int)+(c.C.Word.size:Int)+(c.lW.size:Int)) eR eR,mr eR eR]
  rw [g5 l _ eR eR,EA]
  congr 1; omega
theorem g6 (s:Signed) (h:AH s.kK+s.Tag.length≤1000000000):A8 [] [s]=some (20+(AH s.kK:Int)+(s.Tag.length:Int)):=by
 unfold A8
 rw [uW,uV]
 have:=g5 [s.kK] 0 eR (by rw [EA,EA]; omega)
 rw [show AR [s.kK]=_ from this,aA,uV,EA,EA]
 rw [mr (x:=0+((20+AH s.kK+0:Nat):Int)+(s.Tag.length:Int)) eR eR,mr eR eR]
 simp only [aA]
 congr 1; omega
def Uc:List nM→Nat
 | []=>0
 | x::l=>20+AH x.Signed.kK+x.Signed.Tag.length+20*Ho x.la+Uc l
def TU:List sT→Nat
 | []=>0
 | a::l=>a.kL.kO.size+a.kL.Word.size+20*Ho a.la+EA a.pf+TU l
def gsz (p:mW):Nat:=p.Name.size+Uc p.nK+TU p.pv
noncomputable def grP (p:RA):Bool:=(NG p.kO p.Client p.Formula).getD false
def inL (l:List nM) (i:Int):Prop:=0≤i∧i < l.length
instance (l:List nM) (i:Int):Decidable (inL l i):=by unfold inL; infer_instance
def aaD (l:List nM) (i:Int):List nM:=if inL l i then l.eraseIdx i.toNat else l
def Yy (p:RA) (e i:Int):RA :=
 if e=0 then ⟨⟨p.kO.Name,aaD p.kO.nK i,p.kO.pv⟩,p.Client,p.Formula,p.oN,p.YS,p.Tm,p.Yw,p.Vk,p.Keys⟩
 else if e=1 then ⟨p.kO,⟨p.Client.Name,aaD p.Client.nK i,p.Client.pv⟩,p.Formula,p.oN,p.YS,p.Tm,p.Yw,p.Vk,p.Keys⟩
 else p
theorem bb {α β γ:Type} (x:Option α) (f:α→Option β) (g:β→Option γ):(x.bind λa=>(f a).bind g)=(x.bind f).bind g:=by cases x <;> rfl
noncomputable def shr (e:Int):Nat→RA→RA
 | 0,p=>p
 | k+1,p=>shr e k (if grP (Yy p e k) then Yy p e k else p)
def wr {α:Type}:Int ⊕ (α×List Int)→Int ⊕ (α×lL)
 | .inl e=>.inl e
 | .inr (v,l)=>.inr (v,⟨l,false⟩)
def mS {α β:Type} (x:Int ⊕ (α×List Int)) (f:α→List Int→Int ⊕ (β×List Int)):Int ⊕ (β×List Int) :=
 match x with
 | .inl e=>.inl e
 | .inr (v,l)=>f v l
def og (a:Int):Nat→Int→List Int→Int ⊕ (Int×List Int)
 | i,n,[]=>.inl (if i=9 then 11 else 10)
 | i,n,c::l=>if i=9 then .inl 11 else if c=0∧0 < i then .inl 11 else
   if c < 128 then if n+c % 128*128 ^ i > a then .inl 12 else .inr (n+c % 128*128 ^ i,l) else og a (i+1) (n+c % 128*128 ^ i) l
def vv:Int:=9223372036854775807
def ux (a:Int) (l:List Int):Int ⊕ (List Int×List Int) :=
 mS (og vv 0 0 l) λn l'=>if n > a then .inl 12 else if n > (l'.length:Int) then .inl 10 else .inr (l'.take n.toNat,l'.drop n.toNat)
def xl (l:List Int):Int ⊕ (ByteArray×List Int):=mS (ux 16 l) λt l'=>if oM (mH t)=true then .inr (mH t,l') else .inl 30
def rl (l:List Int):Int ⊕ (kL×List Int):=mS (xl l) λa c=>mS (xl c) λb d=>.inr (⟨a,b⟩,d)
def Gy (k:Int) (h:kL) (l:List Int):Int ⊕ (kK×List Int) :=
 if k=1 then mS (xl l) λw l'=>.inr (⟨k,h,w,zR,zR,zS⟩,l')
 else if k=2 then mS (rl l) λb l'=>.inr (⟨k,h,zS,b,zR,zS⟩,l')
 else if k=3 then mS (rl l) λb l'=>mS (xl l') λw a=>.inr (⟨k,h,zS,b,zR,w⟩,a)
 else mS (rl l) λb l'=>mS (rl l') λc a=>.inr (⟨k,h,zS,b,c,zS⟩,a)
def FZ (l:List Int):Int ⊕ (kK×List Int) :=
 mS (og vv 0 0 l) λk a=>if k < 1∨4 < k then .inl 11 else mS (rl a) λh d=>mS (Gy k h d) λc g=>if mQ c=true then .inr (c,g) else .inl 11
def wD (l:List Int):Int ⊕ (Signed×List Int) :=
 mS (FZ l) λc a=>mS (ux 8 a) λt d=>if (t.length:Int)=8 then .inr (⟨c,t⟩,d) else .inl 11
theorem A0 (l:List Int) (e:Int) (he:e≠0):nm ⟨l,false⟩ e=some (.inl e):=by
 unfold nm; simp [he]
theorem Ve (l:List Int) (i:Int) (hi:0≤i):yl ⟨l,false⟩ i=some (match l with
  | []=>.inl (if i=9 then 11 else 10)
  | c::t=>if i=9 then .inl 11 else if c=0∧0 < i then .inl 11 else .inr (c,⟨t,false⟩)):=by
 unfold yl
 rw [A0 _ 11 fs,A0 _ 10 fs]
 by_cases a:i=9
 ·subst a; cases l <;> simp
 ·cases l with
  | nil=>simp [a]
  | cons c t=>
   have h1:((c::t).length:Int)≠0:=by simp; omega
   have d:rr (decide (0≤(1:Int))&&decide ((1:Int)≤((c::t).length:Int)))=some ():=Gt fs fo
   have g:mT (c::t) 0=some c:=ov [] c t 0 Z
   simp only [gP,a,h1,aH,aA,d,g]
   have h:rr (decide (1≤(t.length:Int)+1))=some ():=by simp [rr]; omega
   by_cases j:c=0 <;> by_cases hp:0 < i <;> simp [j,hp,A0,h]
theorem ab9 (c:Int) (a:0≤c) (h1:c < 256):IntKind.u8.wrap (BitVec.ofInt (IntKind.bits .u8) c &&& BitVec.ofInt (IntKind.bits .u8) 127).toNat=c % 128:=by
 obtain ⟨k,rfl⟩:∃k:Nat,c=k:=⟨c.toNat,eR⟩
 have:∀k:Nat,k < 256→IntKind.u8.wrap (BitVec.ofInt (IntKind.bits .u8) (k:Int) &&& BitVec.ofInt (IntKind.bits .u8) 127).toNat=(k:Int) % 128:=by decide +kernel
 exact this k eR
theorem abp (n m j:Nat) (c:n < 2 ^ j) (hm:m*2 ^ j+n < 18446744073709551616):(BitVec.ofInt 64 (n:Int) ||| BitVec.ofInt 64 ((m*2 ^ j:Nat):Int)).toNat=n+m*2 ^ j:=by
 have h1:n < 2 ^ 64:=by omega
 have a:m*2 ^ j < 2 ^ 64:=by omega
 rw [BitVec.toNat_or,BitVec.ofInt_natCast,BitVec.ofInt_natCast,BitVec.toNat_ofNat,BitVec.toNat_ofNat,Nat.mod_eq_of_lt h1,Nat.mod_eq_of_lt a,Nat.or_comm,←Nat.shiftLeft_eq,←Nat.shiftLeft_add_eq_or_of_lt c,kf]
theorem abC (n c:Int) (i:Nat) (hi:i≤8) (s:0≤n∧n < 128 ^ i) (h:0≤c∧c < 256):IntKind.i64.wrap (BitVec.ofInt (IntKind.bits .i64) n ||| BitVec.ofInt (IntKind.bits .i64) (IntKind.i64.wrap (IntKind.i64.wrap (IntKind.u8.wrap (BitVec.ofInt (IntKind.bits .u8) c &&& BitVec.ofInt (IntKind.bits .u8) 127).toNat)*2 ^ min (Int.toNat (IntKind.i64.wrap (7*(i:Int)))) (IntKind.bits .i64)))).toNat=n+c % 128*128 ^ i:=by
 rw [ab9 c h.1 h.2,mr (x:=c % 128) eR eR,mr (x:=7*(i:Int)) eR eR]
 have j:min (Int.toNat (7*(i:Int))) (IntKind.bits .i64)=7*i:=by simp only [IntKind.bits]; omega
 rw [j]
 obtain ⟨a,rfl⟩:∃a:Nat,n=a:=⟨n.toNat,eR⟩
 obtain ⟨b,p⟩:∃b:Nat,c % 128=b:=⟨(c % 128).toNat,eR⟩
 rw [p]
 have q:b < 128:=by omega
 have g:(128:Nat) ^ i=2 ^ (7*i):=by rw [Nat.pow_mul]
 have k:(128:Int) ^ i=((2 ^ (7*i):Nat):Int):=by rw [←g]; simp
 have ha:a < 2 ^ (7*i):=by rw [←g]; have:=s.2; exact_mod_cast this
 have d:2 ^ (7*i)≤2 ^ 56:=iM fs eR
 have hm:b*2 ^ (7*i)+a < 9223372036854775808:=by
  have:(b+1)*2 ^ (7*i)≤128*2 ^ 56:=jv eR d
  rw [dn] at this; omega
 have o:((b:Int)*2 ^ (7*i))=((b*2 ^ (7*i):Nat):Int):=by simp
 rw [o,mr (x:=((b*2 ^ (7*i):Nat):Int)) eR eR]
 show IntKind.i64.wrap ((BitVec.ofInt 64 (a:Int) ||| BitVec.ofInt 64 ((b*2 ^ (7*i):Nat):Int)).toNat:Int)=_
 rw [abp a b (7*i) ha eR,mr eR eR,k]
 simp
theorem Ql (n c:Int) (i:Nat) (a:0≤n∧n < 128 ^ i):0≤n+c % 128*128 ^ i∧n+c % 128*128 ^ i < 128 ^ (i+1):=by
 have h1:0≤c % 128∧c % 128 < 128:=⟨eR,eR⟩
 have hp:(0:Int) < 128 ^ i:=Int.pow_pos fs
 constructor
 ·have:=Int.mul_nonneg h1.1 (kq hp); omega
 ·rw [Int.pow_succ]
  have:c % 128*128 ^ i≤127*128 ^ i:=iD eR (kq hp)
  omega
theorem YD (a:Int):∀(l:List Int) (i:Nat) (n:Int) (k:Nat),B8 l→i≤9→0≤n∧n < 128 ^ i→l.length < k→py a k n i l false=some (wr (og a i n l))
 | [],i,n,k+1,_,hi,_,_=>by
  rw [py,Ve _ _ eR]
  by_cases g:i=9 <;> simp [og,wr,g] <;> omega
 | c::l,i,n,k+1,t,hi,u,hk=>by
  have v:=t c (List.mem_cons_self ..)
  rw [py,Ve _ _ eR]
  unfold og
  by_cases g:i=9
  ·subst g; rfl
  ·have o:¬((i:Int)=9):=by omega
   have s:=abC n c i eR u v
   have hp:=Ql n c i u
   have p:rr (decide (0≤IntKind.i64.wrap (7*(i:Int))))=some ():=by rw [mr eR eR]; simp [rr]; omega
   have q:IntKind.i64.wrap ((i:Int)+1)=((i+1:Nat):Int):=by rw [mr eR eR]; simp
   simp only [g,o,aH,aA]
   by_cases j:c=0∧0 < i
   ·have:c=0∧0 < (i:Int):=⟨j.1,eR⟩
    rw [aP this,aP j]; rfl
   ·have:¬(c=0∧0 < (i:Int)):=λh=>j ⟨h.1,eR⟩
    rw [aN this,aN j]
    simp only [s,p,q,aA]
    by_cases d:c < 128
    ·simp only [d,cD,aJ]
     by_cases hm:n+c % 128*128 ^ i > a
     ·simp only [hm,cD,aJ,A0 _ 12 fs,aA,wr]
     ·simp only [hm,cE,aH,aB,aA,wr]
    ·simp only [d,cE,aH,aB]
     exact YD a l (i+1) _ k (λx w=>t x (ew _ w)) eR hp (by simp only [aM] at hk; omega)
theorem B8.tail {c:Int} {l:List Int} (h:B8 (c::l)):B8 l:=λx a=>h x (ew _ a)
theorem B8.drop {l:List Int} (h:B8 l) (n:Nat):B8 (l.drop n):=λx a=>h x (iL a)
theorem B8.take {l:List Int} (h:B8 l) (n:Nat):B8 (l.take n):=λx a=>h x (List.mem_of_mem_take a)
def Dd {α:Type} (l:List Int) (x:Int ⊕ (α×List Int)):Prop:=∀v l',x= .inr (v,l')→∃k,l'=l.drop k
theorem Dd.Fg {α β:Type} {l:List Int} {x:Int ⊕ (α×List Int)} {f:α→List Int→Int ⊕ (β×List Int)} (h:Dd l x) (a:∀v l',Dd l' (f v l')):Dd l (mS x f):=λv l' e=>by
 cases x with
 | inl q=>cases e
 | inr q=>
  obtain ⟨k,hk⟩:=h q.1 q.2 Z
  obtain ⟨j,c⟩:=a q.1 q.2 v l' e
  exact ⟨k+j,by rw [c,hk,List.drop_drop]⟩
theorem pC (a:Int):∀(l:List Int) (i:Nat) (n:Int),Dd l (og a i n l)
 | [],i,n=>λv l' e=>by cases e
 | c::l,i,n=>λv l' e=>by
  unfold og at e
  split at e
  ·cases e
  split at e
  ·cases e
  split at e
  ·split at e
   ·cases e
   ·cases e; exact ⟨1,Z⟩
  ·obtain ⟨k,hk⟩:=pC a l (i+1) _ v l' e
   exact ⟨k+1,by rw [hk,List.drop_succ_cons]⟩
theorem B3 (a:Int) (l:List Int):Dd l (ux a l):=(pC _ _ _ _).Fg λn l' v c e=>by
 split at e
 ·cases e
 split at e
 ·cases e
 ·cases e; exact ⟨_,Z⟩
theorem zi (l:List Int):Dd l (xl l):=(B3 _ _).Fg λt l' v a e=>by
 split at e
 ·cases e; exact ⟨0,Z⟩
 ·cases e
theorem tV (l:List Int):Dd l (rl l):=(zi _).Fg λa c=>(zi _).Fg λb d v g e=>by cases e; exact ⟨0,Z⟩
theorem Sj (k:Int) (h:kL) (l:List Int):Dd l (Gy k h l):=by
 unfold Gy
 split
 ·exact (zi _).Fg λa c v d e=>by cases e; exact ⟨0,Z⟩
 split
 ·exact (tV _).Fg λa c v d e=>by cases e; exact ⟨0,Z⟩
 split
 ·exact (tV _).Fg λa c=>(zi _).Fg λb g v d e=>by cases e; exact ⟨0,Z⟩
 ·exact (tV _).Fg λa c=>(tV _).Fg λb g v d e=>by cases e; exact ⟨0,Z⟩
theorem F3 (l:List Int):Dd l (FZ l):=(pC _ _ _ _).Fg λk a=>by
 split
 ·intro v l' e; cases e
 ·exact (tV _).Fg λh d=>(Sj _ _ _).Fg λc g v i e=>by
   split at e
   ·cases e; exact ⟨0,Z⟩
   ·cases e
theorem JJ (l:List Int) (a:Int) (c:B8 l) (d:l.length≤1000000):om ⟨l,false⟩ a=some (wr (og a 0 0 l)):=by
 unfold om yf
 simp only [aA,aB,aH]
 exact YD a l 0 0 lP c eR fs (by rw [sP]; omega)
theorem KS (a:Int):∀(l:List Int) (i:Nat) (n v:Int) (l':List Int),0≤n∧n < 128 ^ i→og a i n l= .inr (v,l')→0≤v∧v≤a
 | [],i,n,v,l',_,e=>by cases e
 | c::l,i,n,v,l',d,e=>by
  have hp:=Ql n c i d
  unfold og at e
  split at e
  ·cases e
  split at e
  ·cases e
  split at e
  ·split at e
   ·cases e
   ·cases e; exact ⟨hp.1,eR⟩
  ·exact KS a l (i+1) _ v l' hp e
theorem PW (l:List Int) (a:Int) (s:B8 l) (t:l.length≤1000000):sC ⟨l,false⟩ a=some (wr (ux a l)):=by
 unfold sC yf
 simp only [aA,aB,aH]
 rw [JJ l _ s t]
 unfold ux
 have d:=pC vv l 0 0
 have c:=KS vv l 0 0
 have i:og 9223372036854775807 0 0 l=og vv 0 0 l:=rfl
 rw [i]
 cases h:og vv 0 0 l with
 | inl e=>simp [wr,mS]
 | inr q=>
  obtain ⟨n,l'⟩:=q
  obtain ⟨k,hk⟩:=d n l' h
  have j:=(c n l' ⟨fs,fs⟩ h).1
  have u:l'.length≤1000000:=by rw [hk,fM]; omega
  simp only [aA,wr,mS]
  by_cases h1:n > a
  ·simp only [h1,cD,aJ,A0 _ 12 fs,aA,wr]
  ·by_cases g:n > (l'.length:Int)
   ·simp only [h1,g,cD,cE,aJ,aH,aB,A0 _ 10 fs,aA,wr]
   ·have o:rr (decide (0≤n)&&decide (n≤(l'.length:Int)))=some ():=Gt j eR
    have p:rO (l'.take n.toNat)=some (l'.take n.toNat):=H4 (by rw [dA]; omega)
    simp only [h1,g,o,p,cE,aH,aB,aA,wr]
theorem B8.part {α:Type} {l l':List Int} {x:Int ⊕ (α×List Int)} {v:α} (h:B8 l) (a:l.length≤1000000) (hp:Dd l x) (e:x= .inr (v,l')):B8 l'∧l'.length≤1000000:=by
 obtain ⟨k,hk⟩:=hp v l' e
 rw [hk]
 exact ⟨h.drop k,by rw [fM]; omega⟩
theorem NN (l:List Int) (a:B8 l) (c:l.length≤1000000):xz ⟨l,false⟩=some (wr (xl l)):=by
 unfold xz xl
 rw [PW l _ a c]
 cases g:ux 16 l with
 | inl e=>rfl
 | inr q=>
  obtain ⟨t,l'⟩:=q
  simp only [aA,wr,mS,uy,wk]
  cases d:oM (mH t) <;> simp [wr,A0]
theorem K6 (l:List Int) (c:B8 l) (d:l.length≤1000000):vW ⟨l,false⟩=some (wr (rl l)):=by
 unfold vW rl
 rw [NN l c d]
 cases i:xl l with
 | inl e=>rfl
 | inr q=>
  obtain ⟨a,g⟩:=q
  obtain ⟨h1,h⟩:=c.part d (zi l) i
  simp only [aA,wr,mS]
  rw [NN g h1 h]
  cases j:xl g with
  | inl e=>rfl
  | inr q=>obtain ⟨b,k⟩:=q; rfl
theorem abH (l:List Int) (y:B8 l) (z:l.length≤1000000):Ea ⟨l,false⟩=some (wr (FZ l)):=by
 unfold Ea FZ
 rw [JJ l _ y z]
 have I:og 9223372036854775807 0 0 l=og vv 0 0 l:=rfl
 rw [I]
 cases M:og vv 0 0 l with
 | inl e=>rfl
 | inr q=>
  obtain ⟨k,v⟩:=q
  obtain ⟨h1,x⟩:=y.part z (pC vv l 0 0) M
  simp only [aA,wr,mS]
  by_cases hk:k < 1∨4 < k
  ·have s:(if decide (k < 1)=true then some true else some (decide (k > 4)):Option Bool)=some true:=by
    by_cases h:k < 1 <;> simp [h]; omega
   rw [s,aP hk]
   simp [A0,wr]
  ·have s:(if decide (k < 1)=true then some true else some (decide (k > 4)):Option Bool)=some false:=by
    rw [aN fo]; simp; omega
   rw [s,aN hk]
   simp only [aA,aH,aB]
   rw [K6 v h1 x]
   cases L:rl v with
   | inl e=>rfl
   | inr q=>
    obtain ⟨h,d⟩:=q
    obtain ⟨i,j⟩:=h1.part x (tV v) L
    simp only [aA,wr,mS]
    have J:∀{A:Type} (K:kK→List Int→Bool→Option A) (X:Int→Option A),True:=λ_ _=>trivial
    have fin:∀(c:kK) (a:List Int),((sJ c).bind λo=>if (!o)=true then (nm ⟨a,false⟩ 11).bind λp=>match p with | .inl n=>some (Sum.inl n) | .inr G=>some (Sum.inr ((⟨0,⟨zS,zS⟩,zS,⟨zS,zS⟩,⟨zS,zS⟩,zS⟩:kK),(⟨a,false⟩:lL))) else some (Sum.inr (c,(⟨a,false⟩:lL))))=some (wr (if mQ c=true then .inr (c,a) else .inl 11)):=λc a=>by
     rw [uw]
     cases mQ c <;> simp [A0,wr]
    unfold Gy
    by_cases O:k=1
    ·subst O
     simp only [aO,aJ]
     rw [NN d i j]
     cases xl d with
     | inl e=>rfl
     | inr q=>obtain ⟨w,a⟩:=q; exact fin _ _
    ·by_cases k2:k=2
     ·subst k2
      simp only [Int.reduceBEq,Int.reduceEq,aH,aJ,aB]
      rw [K6 d i j]
      cases rl d with
      | inl e=>rfl
      | inr q=>obtain ⟨w,a⟩:=q; exact fin _ _
     ·by_cases P:k=3
      ·subst P
       simp only [Int.reduceBEq,Int.reduceEq,aH,aJ,aB]
       rw [K6 d i j]
       cases g:rl d with
       | inl e=>rfl
       | inr q=>
        obtain ⟨w,a⟩:=q
        obtain ⟨t,u⟩:=i.part j (tV d) g
        simp only [aA,wr,mS]
        rw [NN a t u]
        cases xl a with
        | inl e=>rfl
        | inr q=>obtain ⟨T,R⟩:=q; exact fin _ _
      ·have Q:k=4:=by omega
       subst Q
       simp only [Int.reduceBEq,Int.reduceEq,aH,aJ,aB]
       rw [K6 d i j]
       cases g:rl d with
       | inl e=>rfl
       | inr q=>
        obtain ⟨w,a⟩:=q
        obtain ⟨t,u⟩:=i.part j (tV d) g
        simp only [aA,wr,mS]
        rw [K6 a t u]
        cases rl a with
        | inl e=>rfl
        | inr q=>obtain ⟨T,R⟩:=q; exact fin _ _
theorem sgW (l:List Int) (a:B8 l) (d:l.length≤1000000):Eb ⟨l,false⟩=some (wr (wD l)):=by
 unfold Eb wD
 rw [abH l a d]
 cases j:FZ l with
 | inl e=>rfl
 | inr q=>
  obtain ⟨c,g⟩:=q
  obtain ⟨h1,h⟩:=a.part d (F3 l) j
  simp only [aA,wr,mS]
  rw [PW g _ h1 h]
  cases k:ux 8 g with
  | inl e=>rfl
  | inr q=>
   obtain ⟨t,n⟩:=q
   simp only [aA,wr,mS]
   by_cases i:(t.length:Int)=8 <;> simp [i,A0,wr]
theorem XI {l:List Int} (h:l.length≤1000000):rC l=some l:=by
 unfold rC; rw [H4 h]; rfl
end Go.Proofs.YtlfibegniofmjaaGreat
namespace Go.Proofs.YtlfibegniofmjaaGreat
open Go.Proofs.Tryz renaming prog → pg0
open Go.RowKit Go.Lib
theorem J4 (all:List Signed) (k:all.length≤100000000):∀(l A:List Signed),all=A++l→∃b,rR all l A.length=some b∧(b=true→(∀x∈l,mQ x.kK=true∧x.Tag.length=8)∧all.length≤8)
 | [],A,_=>⟨_,by rw [rR],λh=>⟨fb,by have:=eo h; omega⟩⟩
 | x::l,A,e=>by
  have prev:∃v,(if (decide ((A.length:Int) > 0)) then (mT all (IntKind.i64.wrap ((A.length:Int)-1))).bind λd=>((vk d.kK x.kK).bind λa=>some (decide (a≥0))) else some false)=some v:=by
   rcases dt A with rfl | ⟨B,y,rfl⟩
   ·exact ⟨_,Z⟩
   ·simp only [dR] at *
    have j:B.length≤100000000:=by rw [e] at k; simp at k; omega
    have h1:((B++[y]).length:Int) > 0:=by simp
    simp only [h1,cD,aJ]
    rw [mr fb fo,show ((B++[y]).length:Int)-1=(B.length:Int) by simp,e,aQ]
    rw [show B++([y]++x::l)=B++y::(x::l) from rfl,ov B y (x::l) _ Z,aA]
    obtain ⟨c,o,h⟩:=Cj y.kK x.kK
    rw [o]
    exact ⟨_,Z⟩
  obtain ⟨v,q⟩:=prev
  rw [rR,uw,aA]
  cases p:mQ x.kK with
  | false=>exact ⟨false,fb,λh=>by cases h⟩
  | true=>
   by_cases n:x.Tag.length=8
   ·have i:((x.Tag.length:Int) != 8)=false:=by simp [n]
    simp only [bR,aB,aH,aA,i,q]
    cases v with
    | true=>exact ⟨false,fb,λh=>by cases h⟩
    | false=>
     obtain ⟨b,j,hi⟩:=J4 all k l (A++[x]) (by rw [e]; simp)
     rw [aF] at j
     refine ⟨b,by simpa using j,λh=>⟨λy g=>?_,(hi h).2⟩⟩
     rcases aS.1 g with g | g
     ·subst g; exact ⟨p,n⟩
     ·exact (hi h).1 y g
   ·have i:((x.Tag.length:Int) != 8)=true:=by simp; omega
    exact ⟨false,by simp [i],λh=>by cases h⟩
theorem P7 (f:Signed×Signed→Option Bool) (a:∀x,∃v,f x=some v):∀(l m A:List Signed),l.length=m.length→∃v,mf (A++m) f l A.length=some v
 | [],[],A,_=>⟨_,by rw [mf]⟩
 | x::l,y::m,A,h=>by
  obtain ⟨v,c⟩:=a (x,y)
  rw [mf,ov A y m _ Z,aA,c,aA]
  obtain ⟨w,hw⟩:=P7 f a l m (A++[y]) (by simpa using h)
  rw [aF,aQ] at hw
  cases v with
  | true=>exact ⟨w,by simpa using hw⟩
  | false=>exact ⟨_,Z⟩
theorem Ud (x:Signed×Signed):∃v,sx x.1 x.2=some v:=by
 unfold sx pY
 cases nE x.1.kK x.2.kK <;> exact ⟨_,Z⟩
theorem IJ (a b:pd):∃v,Ca a b=some v∧(v=true→a.Kind=b.Kind∧a.oN=b.oN∧a.E=b.E∧a.Name=b.Name∧a.nU=b.nU∧a.mC.length=b.mC.length):=by
 have n:∃v,mV a.mC b.mC (λ(x:(Signed×Signed))=>sx x.1 x.2)=some v∧(v=true→a.mC.length=b.mC.length):=by
  unfold mV
  by_cases h:a.mC.length=b.mC.length
  ·rw [aN (by simp [h])]
   obtain ⟨v,i⟩:=P7 _ Ud a.mC b.mC [] h
   exact ⟨v,i,λ_=>h⟩
  ·rw [aP fo]
   exact ⟨false,Z,λh=>by cases h⟩
 obtain ⟨v,i,j⟩:=n
 unfold Ca
 rw [i,F2]
 by_cases h1:a.Kind=b.Kind
 ·by_cases c:a.oN=b.oN
  ·by_cases d:a.E=b.E
   ·cases k:mx a.Name b.Name with
    | false=>exact ⟨false,by simp [h1,c,d],λh=>by cases h⟩
    | true=>
     by_cases g:a.nU=b.nU
     ·exact ⟨v,by simp [h1,c,d,g],λh=>⟨h1,c,d,mU.1 k,g,j h⟩⟩
     ·exact ⟨false,by simp [h1,c,d,g],λh=>by cases h⟩
   ·exact ⟨false,by simp [h1,c,d],λh=>by cases h⟩
  ·exact ⟨false,by simp [h1,c],λh=>by cases h⟩
 ·exact ⟨false,by simp [h1],λh=>by cases h⟩
def RM (m:pd):Prop :=
 (∃p n,m=⟨1,p,0,n,[],[]⟩∧oM n=true∧(p=1∨p=2))∨
 (∃w s,m=⟨2,0,0,zS,w,s⟩∧(∀r∈w,nk r=true)∧w.length≤16∧(∀x∈s,mQ x.kK=true∧x.Tag.length=8)∧s.length≤8)∨
 m=⟨3,0,0,zS,[],[]⟩∨m=⟨4,0,0,zS,[],[]⟩∨(∃e,m=⟨5,0,e,zS,[],[]⟩∧1≤e∧e≤99)
theorem VH (w:List kL):∃b,Cq w=some b∧(b=true→(∀r∈w,nk r=true)∧w.length≤16):=by
 unfold Cq
 by_cases h:w.length≤16
 ·obtain ⟨s,e,d⟩:=aaN w eR
  refine ⟨decide (s=w),by rw [aP fo,e,aA,F2]; rfl,λa=>⟨λr c=>?_,h⟩⟩
  have:=eo a
  subst this
  exact ((d.2 r).1 c).2
 ·exact ⟨false,by rw [aN fo]; rfl,λh=>by cases h⟩
theorem X4 {α:Type} {l:List α} (h:([]:List α).length=l.length):l=[]:=dX.1 h.symm
theorem Ke (m:pd) (L:m.mC.length≤100000000):∃b,pB m=some b∧(b=true→RM m):=by
 obtain ⟨k,p,e,n,w,s⟩:=m
 unfold pB Ax
 by_cases y:k=1
 ·subst y
  obtain ⟨v,g,c⟩:=IJ ⟨1,p,0,n,[],[]⟩ ⟨1,p,e,n,w,s⟩
  simp only [aO,aJ,aA,g,wk]
  cases v with
  | false=>exact ⟨false,Z,λh=>by cases h⟩
  | true=>
   obtain ⟨_,_,he,_,hw,d⟩:=c Z
   obtain rfl:0=e:=he
   obtain rfl:[]=w:=hw
   obtain rfl:=X4 d
   refine ⟨oM n&&(decide (p=1)||decide (p=2)),?_,λh=>.inl ⟨p,n,Z,?_⟩⟩
   ·cases oM n
    ·rfl
    ·by_cases G:p=1
     ·simp [G]
     ·by_cases O:p=2 <;> simp [G,O]
   ·simpa using h
 ·by_cases k2:k=2
  ·subst k2
   obtain ⟨v,g,c⟩:=IJ ⟨2,0,0,zS,w,s⟩ ⟨2,p,e,n,w,s⟩
   obtain ⟨a,ha,i⟩:=VH w
   obtain ⟨b,J,j⟩:=J4 s L s [] Z
   have t:E8 s=some b:=J
   have q:((2:Int)==1)=false:=rfl
   simp only [q,aO,aB,aH,aJ,aA,g,ha,t]
   cases v with
   | false=>exact ⟨false,Z,λh=>by cases h⟩
   | true=>
    obtain ⟨_,hp,he,o,_,_⟩:=c Z
    obtain rfl:0=p:=hp
    obtain rfl:0=e:=he
    obtain rfl:zS=n:=o
    refine ⟨a&&b,by cases a <;> cases b <;> rfl,λh=>.inr (.inl ⟨w,s,Z,?_⟩)⟩
    rw [bL] at h
    exact ⟨(i h.1).1,(i h.1).2,(j h.2).1,(j h.2).2⟩
  ·have q:(k==1)=false:=by simpa using y
   have x:(k==2)=false:=by simpa using k2
   by_cases A:k=5
   ·subst A
    obtain ⟨v,g,c⟩:=IJ ⟨5,0,e,zS,[],[]⟩ ⟨5,p,e,n,w,s⟩
    simp only [q,x,aO,aB,aH,aJ,aA,g]
    cases v with
    | false=>exact ⟨false,Z,λh=>by cases h⟩
    | true=>
     obtain ⟨_,hp,_,o,hw,d⟩:=c Z
     obtain rfl:0=p:=hp
     obtain rfl:zS=n:=o
     obtain rfl:[]=w:=hw
     obtain rfl:=X4 d
     refine ⟨decide (1≤e∧e≤99),?_,λh=>.inr (.inr (.inr (.inr ⟨e,Z,eo h⟩)))⟩
     by_cases u:1≤e
     ·simp [u]
     ·simp [u]
   ·have I:(k==5)=false:=by simpa using A
    obtain ⟨v,g,c⟩:=IJ ⟨k,0,0,zS,[],[]⟩ ⟨k,p,e,n,w,s⟩
    simp only [q,x,I,aB,aH,aA,g]
    cases v with
    | false=>exact ⟨false,Z,λh=>by cases h⟩
    | true=>
     obtain ⟨_,hp,he,o,hw,d⟩:=c Z
     obtain rfl:0=p:=hp
     obtain rfl:0=e:=he
     obtain rfl:zS=n:=o
     obtain rfl:[]=w:=hw
     obtain rfl:=X4 d
     refine ⟨decide (k=3∨k=4),?_,λh=>?_⟩
     ·by_cases z:k=3
      ·simp [z]
      ·by_cases M:k=4 <;> simp [z,M]
     ·rcases eo h with rfl | rfl
      ·exact .inr (.inr (.inl Z))
      ·exact .inr (.inr (.inr (.inl Z)))
theorem orV:∀k:Nat,k < 256→IntKind.u8.wrap (BitVec.ofInt (IntKind.bits .u8) (k:Int) ||| BitVec.ofInt (IntKind.bits .u8) 128).toNat=(k:Int) % 128+128:=by decide +kernel
theorem acd {n:Int} (h:0≤n):IntKind.u8.wrap (BitVec.ofInt (IntKind.bits .u8) (IntKind.u8.wrap n) ||| BitVec.ofInt (IntKind.bits .u8) 128).toNat=n % 128+128:=by
 rw [show IntKind.u8.wrap n=n % 256 from kw n]
 have:=orV (n % 256).toNat eR
 rw [show (((n % 256).toNat:Nat):Int)=n % 256 by omega] at this
 rw [this]; omega
theorem shV (n:Int):Int.fdiv n (2 ^ min (Int.toNat 7) (IntKind.bits .i64))=n / 128:=by
 have e:(2:Int) ^ min (Int.toNat 7) (IntKind.bits .i64)=128:=by decide
 rw [e,gv _ fs]
theorem B8.r {a b:List Int} (h:B8 (a++b)):B8 b:=λx c=>h x (dI _ c)
theorem To (H:Int):∀(l:List Int) (i:Nat) (a:List Int),zZ H l i a=uK H l i a
 | [],i,a=>rfl
 | x::l,i,a=>by
  rw [zZ,uK]
  simp only [To H l]
end Go.Proofs.YtlfibegniofmjaaGreat
namespace Go.Proofs.YtlfibegniofmjaaGreat
open Go.Proofs.Tryz renaming prog → pg0
open Go.RowKit
def Ng {α β:Type} (x:Int ⊕ (α×List Int)) (z:β) (v:α→β) (r:Option (β×lj)):Prop:=match x with
 | .inl e=>e≠0∧∃S,r=some (z,(⟨S,e⟩:lj))
 | .inr q=>r=some (v q.1,(⟨mH q.2,0⟩:lj))
theorem u8b (c:Int) (d:0≤c∧c < 256):((c.toNat.toUInt8.toNat:Nat):Int)=c:=by
 have a:c.toNat.toUInt8.toNat=c.toNat:=by rw [Nat.toUInt8_eq,ju]; omega
 rw [a]; omega
theorem VW (c:Int) (l:List Int):mx (mH (c::l)) zS=false:=by
 rw [←fQ,mU]
 intro h
 have:=bI ByteArray.size h
 rw [vc] at this
 have:zS.size=0:=rfl
 simp_all
theorem Tf:mH []=zS:=rfl
theorem RD (l:List Int) (n:Int) (a:0≤n) (h1:n≤(l.length:Int)):Jj (mH l) n ((mH l).size:Int)=some (mH (l.drop n.toNat)):=by
 unfold Jj
 rw [vc,aP ⟨a,h1,jz _⟩]
 congr 1
 apply Bv
 rw [ByteArray.data_extract,Array.toList_extract,sW,sW]
 simp [xO,List.extract_eq_take_drop]
 rw [dM fb]
theorem Xc (l:List Int) (n:Int) (a:0≤n) (h1:n≤(l.length:Int)):Jj (mH l) 0 n=some (mH (l.take n.toNat)):=by
 unfold Jj
 rw [vc,aP ⟨jz _,a,h1⟩]
 congr 1
 apply Bv
 rw [ByteArray.data_extract,Array.toList_extract,sW,sW]
 simp [xO,List.extract_eq_take_drop]
theorem OF (a:Int):∀(l:List Int) (i:Nat) (n u:Int) (k:Nat),B8 l→i≤9→(0≤n∧n < 128 ^ i)→(i≤8→u=128 ^ i)→l.length < k→Ng (og a i n l) 0 id (pK a k n u i ⟨mH l,0⟩)
 | [],i,n,u,k+1,_,hi,_,_,_=>by
  rw [pK]
  unfold og
  by_cases p:i=9
  ·subst p; exact ⟨fb,_,Z⟩
  ·have j:¬((i:Int)=9):=by omega
   refine ⟨by simp [p],mH [],?_⟩
   simp only [gP,j,p,aH]
   rw [aP (by rw [Tf,mU])]
 | c::l,i,n,u,k+1,z,hi,R,hu,hk=>by
  have G:=z c (List.mem_cons_self ..)
  rw [pK]
  unfold og
  by_cases p:i=9
  ·subst p; exact ⟨fs,_,Z⟩
  ·have j:¬((i:Int)=9):=by omega
   have w:=hu eR
   have hp:=Ql n c i R
   have y:Dk (mH (c::l)) 0=some c.toNat.toUInt8:=N1 (A:=[]) (B:=xO l) (by rw [sW]; rfl) 0 Z
   have T:Jj (mH (c::l)) 1 ((mH (c::l)).size:Int)=some (mH l):=RD (c::l) 1 fs fo
   have hw:IntKind.i64.wrap ((c.toNat.toUInt8.toNat:Nat):Int)=c:=by rw [u8b c G,mr eR eR]
   have hm:Int.tmod c 128=c % 128:=gx G.1
   have O:(128:Int) ^ i≤72057594037927936:=by
    have:(128:Nat) ^ i≤128 ^ 8:=iM fs eR
    have v:(128:Nat) ^ 8=72057594037927936:=by decide
    rw [v] at this
    rw [show (128:Int) ^ i=((128 ^ i:Nat):Int) by simp]
    omega
   have g:(0:Int) < 128 ^ i:=Int.pow_pos fs
   have hmul:c % 128*128 ^ i≤127*128 ^ i:=iD eR (kq g)
   have Q:0≤c % 128*128 ^ i:=Int.mul_nonneg eR (kq g)
   have I:IntKind.i64.wrap (c % 128*128 ^ i)=c % 128*128 ^ i:=mr eR eR
   have J:IntKind.i64.wrap (n+c % 128*128 ^ i)=n+c % 128*128 ^ i:=mr eR eR
   have L:IntKind.i64.wrap ((i:Int)+1)=((i+1:Nat):Int):=by rw [mr eR eR]; simp
   have g0:(¬((i:Int)==9)=true):=by simpa using j
   rw [aN g0,aN p,aN (show ¬(mx (mH (c::l)) zS=true) by rw [VW]; decide)]
   simp only [y,T,aA,hw,hm,w,I,J,L]
   by_cases s:c=0∧0 < i
   ·have t:(if (c==0)=true then some (decide ((i:Int) > 0)) else some false:Option Bool)=some true:=by
     rw [aP (by simp [s.1]),gy eR]
    rw [t,aP s]
    exact ⟨fs,_,Z⟩
   ·have t:(if (c==0)=true then some (decide ((i:Int) > 0)) else some false:Option Bool)=some false:=by
     by_cases o:c=0
     ·rw [aP (by simp [o]),decide_eq_false λh=>s ⟨o,eR⟩]
     ·rw [aN (by simpa using o)]
    rw [t,aN s]
    simp only [aA,aB,aH]
    by_cases d:c < 128
    ·simp only [d,cD,aJ]
     by_cases q:n+c % 128*128 ^ i > a
     ·simp only [q,cD,aJ]; exact ⟨fs,_,Z⟩
     ·simp only [q,cE,aH,aB]; rfl
    ·simp only [d,cE,aH,aB]
     refine OF a l (i+1) _ _ k (λx y=>z x (ew _ y)) eR hp (λP=>?_) (by simp only [aM] at hk; omega)
     have M:(128:Int) ^ i≤562949953421312:=by
      have:(128:Nat) ^ i≤128 ^ 7:=iM fs eR
      have v:(128:Nat) ^ 7=562949953421312:=by decide
      rw [v] at this
      rw [show (128:Int) ^ i=((128 ^ i:Nat):Int) by simp]
      omega
     rw [Int.pow_succ,mr eR eR]
theorem TA (l:List Int) (a:B8 l) (c:l.length≤1000000):Ng (og vv 0 0 l) 0 id (mj ⟨mH l,0⟩ 9223372036854775807):=by
 unfold mj
 rw [aN (show ¬(((0:Int) != 0)=true) by decide)]
 exact OF vv l 0 0 1 lP a eR fs (λ_=>by simp) (by rw [sP]; omega)
theorem Oe (S:ByteArray) (e a:Int) (he:e≠0):mj ⟨S,e⟩ a=some (0,⟨S,e⟩):=by
 unfold mj; rw [aP (by simpa using he)]
theorem Gz (S:ByteArray) (e a:Int) (he:e≠0):nS ⟨S,e⟩ a=some (zS,⟨S,e⟩):=by
 unfold nS; rw [Oe S e _ he,aA,aP (by simpa using he)]
theorem GB (l:List Int) (a:Int) (t:B8 l) (u:l.length≤1000000):Ng (ux a l) zS mH (nS ⟨mH l,0⟩ a):=by
 unfold nS ux
 have h:=TA l t u
 have g:=pC vv l 0 0
 have d:=KS vv l 0 0
 cases c:og vv 0 0 l with
 | inl e=>
  rw [c] at h
  obtain ⟨he,S,i⟩:=h
  rw [i,aA,aP (by simpa using he)]
  exact ⟨he,S,Z⟩
 | inr q=>
  obtain ⟨n,l'⟩:=q
  rw [c] at h
  have i:mj ⟨mH l,0⟩ 9223372036854775807=some (n,(⟨mH l',0⟩:lj)):=h
  obtain ⟨k,hk⟩:=g n l' c
  have o:=(d n l' ⟨fs,fs⟩ c).1
  rw [i,aA,aN fb]
  simp only [mS,vc]
  by_cases h1:n > a
  ·simp only [h1,cD,aJ]; exact ⟨fs,_,Z⟩
  ·by_cases p:n > (l'.length:Int)
   ·simp only [h1,p,cD,cE,aJ,aH,aB]; exact ⟨fs,_,Z⟩
   ·have s:=Xc l' n o eR
    have j:=RD l' n o eR
    rw [vc] at j
    simp only [h1,p,cE,aH,aB,s,j,aA]; rfl
theorem EN (S:ByteArray) (e:Int) (he:e≠0):oY ⟨S,e⟩=some (zS,⟨S,e⟩):=by
 unfold oY; rw [Gz S e _ he,aA,aN (by simpa using he)]
 simp only [aA,aB,aH]
 rw [aP (by simpa using he)]
theorem GW (l:List Int) (d:B8 l) (g:l.length≤1000000):Ng (xl l) zS id (oY ⟨mH l,0⟩):=by
 unfold oY xl
 have h:=GB l 16 d g
 cases c:ux 16 l with
 | inl e=>
  rw [c] at h
  obtain ⟨he,S,a⟩:=h
  rw [a,aA,aN (by simpa using he)]
  simp only [aA,aB,aH]
  rw [aP (by simpa using he)]
  exact ⟨he,S,Z⟩
 | inr q=>
  obtain ⟨t,l'⟩:=q
  rw [c] at h
  have a:nS ⟨mH l,0⟩ 16=some (mH t,(⟨mH l',0⟩:lj)):=h
  rw [a,aA,aP (by rfl),yH]
  simp only [aA,mS]
  cases a:oM (mH t)
  ·simp only [cX,aJ,aA,aH,aB]; exact ⟨fs,_,Z⟩
  ·simp only [bR,aJ,aA,aH,aB]; rfl
abbrev Iu:kL:=⟨zS,zS⟩
theorem Gv (S:ByteArray) (e:Int) (he:e≠0):oR ⟨S,e⟩=some (Iu,⟨S,e⟩):=by
 unfold oR; rw [EN S e he,aA,EN S e he,aA,aP (by simpa using he)]
theorem Ix (l:List Int) (j:B8 l) (k:l.length≤1000000):Ng (rl l) Iu id (oR ⟨mH l,0⟩):=by
 unfold oR rl
 have h:=GW l j k
 cases i:xl l with
 | inl e=>
  rw [i] at h
  obtain ⟨he,S,c⟩:=h
  rw [c,aA,EN S e he,aA,aP (by simpa using he)]
  exact ⟨he,S,Z⟩
 | inr q=>
  obtain ⟨a,g⟩:=q
  rw [i] at h
  have c:oY ⟨mH l,0⟩=some (a,(⟨mH g,0⟩:lj)):=h
  obtain ⟨h1,o⟩:=j.part k (zi l) i
  have d:=GW g h1 o
  rw [c,aA]
  simp only [mS]
  cases n:xl g with
  | inl e=>
   rw [n] at d
   obtain ⟨he,S,c⟩:=d
   rw [c,aA,aP (by simpa using he)]
   exact ⟨he,S,Z⟩
  | inr q=>
   obtain ⟨b,p⟩:=q
   rw [n] at d
   have c:oY ⟨mH g,0⟩=some (b,(⟨mH p,0⟩:lj)):=d
   rw [c,aA,aN fb]; rfl
abbrev zCr:kK:=⟨0,(⟨zS,zS⟩:kL),zS,(⟨zS,zS⟩:kL),(⟨zS,zS⟩:kL),zS⟩
noncomputable def KJ (k:Int) (h:kL) (t:lj):Option (kK×lj) :=
 (if (k==1) then (oY t).bind λd=>some ((⟨k,h,d.1,(⟨zS,zS⟩:kL),(⟨zS,zS⟩:kL),zS⟩:kK),d.2) else ((if (k==2) then some (k==2) else if (k==3) then some (k==3) else some (k==4)):Option Bool).bind λn=>(if n then (oR t).bind λc=>(((if (k==3) then (oY c.2).bind λi=>some ((⟨k,h,zS,c.1,(⟨zS,zS⟩:kL),i.1⟩:kK),i.2) else some ((⟨k,h,zS,c.1,(⟨zS,zS⟩:kL),zS⟩:kK),c.2)):Option (kK×lj)).bind λ(a,j)=>(if (a.Kind==4) then (oR j).bind λg=>some ((⟨a.Kind,a.Head,a.lV,a.B,g.1,a.lW⟩:kK),g.2) else some (a,j))) else some ((⟨k,h,zS,(⟨zS,zS⟩:kL),(⟨zS,zS⟩:kL),zS⟩:kK),t)))
theorem Q8 (k:Int) (h:kL) (S:ByteArray) (e:Int) (he:e≠0):∃c,KJ k h ⟨S,e⟩=some (c,⟨S,e⟩):=by
 unfold KJ
 rw [EN S e he,Gv S e he]
 by_cases h1:k=1
 ·exact ⟨_,by rw [aP (by simpa using h1)]; rfl⟩
 rw [aN (by simpa using h1)]
 by_cases j:k=2
 ·subst j; exact ⟨_,Z⟩
 by_cases n:k=3
 ·subst n
  refine ⟨⟨3,h,zS,Iu,Iu,zS⟩,?_⟩
  show (((oY (⟨S,e⟩:lj)).bind λg=>some ((⟨3,h,zS,Iu,(⟨zS,zS⟩:kL),g.1⟩:kK),g.2):Option (kK×lj)).bind λ(a,i)=>(if (a.Kind==4) then (oR i).bind λd=>some ((⟨a.Kind,a.Head,a.lV,a.B,d.1,a.lW⟩:kK),d.2) else some (a,i)))=_
  rw [EN S e he]
  rfl
 by_cases o:k=4
 ·subst o
  refine ⟨⟨4,h,zS,Iu,Iu,zS⟩,?_⟩
  show ((oR (⟨S,e⟩:lj)).bind λd=>some ((⟨4,h,zS,Iu,d.1,zS⟩:kK),d.2))=_
  rw [Gv S e he]
  rfl
 ·refine ⟨⟨k,h,zS,Iu,Iu,zS⟩,?_⟩
  rw [aN (show ¬((k==2)=true) by simpa using j),aN (show ¬((k==3)=true) by simpa using n)]
  have:(k==4)=false:=by simpa using o
  rw [this]
  rfl
def RdE (x:Int ⊕ (kK×List Int)) (r:Option (kK×lj)):Prop:=match x with
 | .inl e=>e≠0∧∃c S,r=some (c,(⟨S,e⟩:lj))
 | .inr q=>r=some (q.1,(⟨mH q.2,0⟩:lj))
theorem aay (k:Int) (hk:1≤k∧k≤4) (h:kL) (l:List Int) (u:B8 l) (v:l.length≤1000000):RdE (Gy k h l) (KJ k h ⟨mH l,0⟩):=by
 unfold KJ Gy
 have s:=GW l u v
 have t:=Ix l u v
 by_cases h1:k=1
 ·subst h1
  simp only [aO,aJ]
  cases i:xl l with
  | inl e=>rw [i] at s; obtain ⟨he,S,d⟩:=s; rw [d]; exact ⟨he,_,S,Z⟩
  | inr q=>rw [i] at s; have d:_=some _:=s; rw [d]; rfl
 have z:(if (k==2)=true then some (k==2) else if (k==3)=true then some (k==3) else some (k==4):Option Bool)=some true:=by
  have:k=2∨k=3∨k=4:=by omega
  rcases this with rfl | rfl | rfl <;> rfl
 rw [aN h1,aN (show ¬((k==1)=true) by simpa using h1),z]
 simp only [aA,aJ]
 cases i:rl l with
 | inl e=>
  rw [i] at t
  obtain ⟨he,S,d⟩:=t
  rw [d,aA]
  simp only [mS,ite_self]
  simp only [EN S e he,aA]
  by_cases o:k=3
  ·subst o; exact ⟨he,_,S,Z⟩
  rw [aN (by simpa using o)]
  simp only [aA]
  by_cases p:k=4
  ·subst p; simp only [aO,aJ,Gv S e he,aA]; exact ⟨he,_,S,Z⟩
  ·rw [aN (by simpa using p)]; exact ⟨he,_,S,Z⟩
 | inr q=>
  obtain ⟨b,n⟩:=q
  rw [i] at t
  have d:oR ⟨mH l,0⟩=some (b,(⟨mH n,0⟩:lj)):=t
  obtain ⟨x,y⟩:=u.part v (tV l) i
  have a:=GW n x y
  have c:=Ix n x y
  rw [d,aA]
  simp only [mS]
  by_cases w:k=2
  ·subst w; rfl
  rw [aN w]
  by_cases o:k=3
  ·subst o
   simp only [aO,aJ]
   cases j:xl n with
   | inl e=>rw [j] at a; obtain ⟨he,S,g⟩:=a; rw [g]; exact ⟨he,_,S,Z⟩
   | inr q=>rw [j] at a; have g:_=some _:=a; rw [g]; rfl
  have p:k=4:=by omega
  subst p
  rw [aN fs,aN fs]
  simp only [aA,aO,aJ]
  cases j:rl n with
  | inl e=>rw [j] at c; obtain ⟨he,S,g⟩:=c; rw [g]; exact ⟨he,_,S,Z⟩
  | inr q=>rw [j] at c; have g:_=some _:=c; rw [g]; rfl
noncomputable def RG (d:kK) (a:lj):Option (kK×lj) :=
 (((((if (a.E==0) then (uL d).bind λg=>some (!g) else some false):Option Bool).bind λh=>(if h then some (⟨a.S,11⟩:lj) else some a)):Option lj).bind λc=>(if (c.E != 0) then some ((⟨0,(⟨zS,zS⟩:kL),zS,(⟨zS,zS⟩:kL),(⟨zS,zS⟩:kL),zS⟩:kK),c) else some (d,c)))
theorem P3 (c:kK) (S:ByteArray) (e:Int) (he:e≠0):RG c ⟨S,e⟩=some (zCr,⟨S,e⟩):=by
 unfold RG
 rw [aN (by simpa using he)]
 simp only [aA,aB,aH]
 rw [aP (by simpa using he)]
theorem abF (c:kK) (S:ByteArray):RG c ⟨S,0⟩=some (if mQ c=true then (c,⟨S,0⟩) else (zCr,⟨S,11⟩)):=by
 unfold RG
 rw [aP (by rfl),wY]
 cases mQ c <;> rfl
theorem MD (a0:lj):AQ a0=((mj a0 9223372036854775807).bind λa=>((((if (a.2.E==0) then ((if (decide (a.1 < 1)) then some true else some (decide (a.1 > 4))):Option Bool).bind λg=>some g else some false):Option Bool).bind λd=>(if d then some (⟨a.2.S,11⟩:lj) else some a.2)):Option lj).bind λh=>(oR h).bind λc=>(KJ a.1 c.1 c.2).bind λq=>RG q.1 q.2):=rfl
theorem XL (l:List Int) (u:B8 l) (v:l.length≤1000000):Ng (FZ l) zCr id (AQ ⟨mH l,0⟩):=by
 rw [MD]
 unfold FZ
 have h:=TA l u v
 cases p:og vv 0 0 l with
 | inl e=>
  rw [p] at h
  obtain ⟨he,S,a⟩:=h
  rw [a,aA,aN (by simpa using he)]
  simp only [aA,aB,aH]
  rw [Gv S e he,aA]
  obtain ⟨c,i⟩:=Q8 0 Iu S e he
  rw [i,aA,P3 _ _ _ he]
  exact ⟨he,S,Z⟩
 | inr q=>
  obtain ⟨k,g⟩:=q
  rw [p] at h
  have a:mj ⟨mH l,0⟩ 9223372036854775807=some (k,(⟨mH g,0⟩:lj)):=h
  obtain ⟨h1,t⟩:=u.part v (pC vv l 0 0) p
  rw [a,aA,aP (by rfl)]
  simp only [mS]
  by_cases hk:k < 1∨4 < k
  ·have o:(if decide (k < 1)=true then some true else some (decide (k > 4)):Option Bool)=some true:=by
    by_cases h:k < 1 <;> simp [h]; omega
   rw [o,aP hk]
   simp only [aA,aJ]
   rw [Gv _ 11 fs,aA]
   obtain ⟨c,i⟩:=Q8 k Iu (mH g) 11 fs
   rw [i,aA,P3 _ _ _ fs]
   exact ⟨fs,_,Z⟩
  ·have o:(if decide (k < 1)=true then some true else some (decide (k > 4)):Option Bool)=some false:=by
    rw [aN fo]; simp; omega
   rw [o,aN hk]
   simp only [aA,aH,aB]
   have j:=Ix g h1 t
   cases s:rl g with
   | inl e=>
    rw [s] at j
    obtain ⟨he,S,a⟩:=j
    rw [a,aA]
    obtain ⟨c,i⟩:=Q8 k Iu S e he
    rw [i,aA,P3 _ _ _ he]
    exact ⟨he,S,Z⟩
   | inr q=>
    obtain ⟨b,n⟩:=q
    rw [s] at j
    have a:oR ⟨mH g,0⟩=some (b,(⟨mH n,0⟩:lj)):=j
    obtain ⟨x,y⟩:=h1.part t (tV g) s
    rw [a,aA]
    simp only
    have d:=aay k eR b n x y
    cases w:Gy k b n with
    | inl e=>
     rw [w] at d
     obtain ⟨he,c,S,a⟩:=d
     rw [a,aA,P3 _ _ _ he]
     exact ⟨he,S,Z⟩
    | inr q=>
     obtain ⟨c,z⟩:=q
     rw [w] at d
     have a:KJ k b ⟨mH n,0⟩=some (c,(⟨mH z,0⟩:lj)):=d
     rw [a,aA,abF]
     simp only
     cases mQ c
     ·exact ⟨fs,_,Z⟩
     ·rfl
theorem aal (l:List Int) (p:B8 l) (s:l.length≤1000000):Ng (wD l) zSg id (AS ⟨mH l,0⟩):=by
 unfold AS wD
 have h:=XL l p s
 cases k:FZ l with
 | inl e=>
  rw [k] at h
  obtain ⟨he,S,d⟩:=h
  rw [d,aA,Gz S e _ he,aA,aN (by simpa using he)]
  simp only [aA,aB,aH]
  rw [aP (by simpa using he)]
  exact ⟨he,S,Z⟩
 | inr q=>
  obtain ⟨c,g⟩:=q
  rw [k] at h
  have d:AQ ⟨mH l,0⟩=some (c,(⟨mH g,0⟩:lj)):=h
  obtain ⟨h1,o⟩:=p.part s (F3 l) k
  have j:=GB g 8 h1 o
  rw [d,aA]
  simp only [mS]
  cases a:ux 8 g with
  | inl e=>
   rw [a] at j
   obtain ⟨he,S,d⟩:=j
   rw [d,aA,aN (by simpa using he)]
   simp only [aA,aB,aH]
   rw [aP (by simpa using he)]
   exact ⟨he,S,Z⟩
  | inr q=>
   obtain ⟨t,w⟩:=q
   rw [a] at j
   have d:nS ⟨mH g,0⟩ 8=some (mH t,(⟨mH w,0⟩:lj)):=j
   have u:B8 t∧t.length≤1000000:=by
    unfold ux at a
    cases hw:og vv 0 0 g with
    | inl e=>rw [hw] at a; cases a
    | inr q=>
     obtain ⟨n,x⟩:=q
     obtain ⟨v,i⟩:=h1.part o (pC vv g 0 0) hw
     rw [hw] at a
     simp only [mS] at a
     split at a
     ·cases a
     split at a
     ·cases a
     ·cases a; exact ⟨v.take _,by rw [dA]; omega⟩
   rw [d,aA,aP (by rfl)]
   simp only [aA,vc]
   by_cases i:(t.length:Int)=8
   ·rw [aP i,aN (show ¬(((t.length:Int) != 8)=true) by simp [i])]
    simp only [aA]
    rw [aN fb,US u.1 u.2]
    rfl
   ·rw [aN i,aP (show ((t.length:Int) != 8)=true by simpa using i)]
    exact ⟨fs,_,Z⟩
mutual
def atF:Formula→List kL
 | ⟨o,k,r,ks⟩=>if o=1 then [r] else atL ks
def atL:List Formula→List kL
 | []=>[]
 | k::ks=>atF k++atL ks
end
def oU {α:Type} (f:List Int→Int ⊕ (α×List Int)):Nat→List Int→Int ⊕ (List α×List Int)
 | 0,l=>.inr ([],l)
 | n+1,l=>mS (f l) λx a=>mS (oU f n a) λxs c=>.inr (x::xs,c)
def Di {α:Type} (acc:List α) (x:Int ⊕ (List α×List Int)):Int ⊕ (List α×List Int):=mS x λxs l=>.inr (acc++xs,l)
theorem Hh {α:Type} (acc:List α) (f:List Int→Int ⊕ (α×List Int)) (n:Nat) (l a:List Int) (x:α) (h:f l= .inr (x,a)):Di acc (oU f (n+1) l)=Di (acc++[x]) (oU f n a):=by
 unfold Di
 rw [oU,h]
 simp only [mS]
 cases oU f n a <;> simp
theorem Iy {α:Type} (acc:List α) (f:List Int→Int ⊕ (α×List Int)) (n:Nat) (l:List Int) (e:Int) (h:f l= .inl e):Di acc (oU f (n+1) l)= .inl e:=by
 unfold Di; rw [oU,h]; rfl
theorem IN {α:Type} (x:Int ⊕ (List α×List Int)):Di [] x=x:=by cases x <;> rfl
theorem KO (i:Nat) (h:i≤1000000):IntKind.i64.wrap ((i:Int)+1)=((i+1:Nat):Int):=by rw [mr eR eR]; simp
theorem EO (a:Int) (l:List Int) {v:Int} {l':List Int} (h:og a 0 0 l= .inr (v,l')):0≤v∧v≤a:=KS a l 0 0 v l' ⟨fs,fs⟩ h
theorem Ev (l:List Int) (a:Int) (c:B8 l) (d:l.length≤1000000):Ng (og a 0 0 l) 0 id (mj ⟨mH l,0⟩ a):=by
 unfold mj
 rw [aN (show ¬(((0:Int) != 0)=true) by decide)]
 exact OF a l 0 0 1 lP c eR fs (λ_=>by simp) (by rw [sP]; omega)
end Go.Proofs.YtlfibegniofmjaaGreat
namespace Go.Proofs.YtlfibegniofmjaaGreat
open Go.Proofs.Tryz renaming prog → pg0
open Go.RowKit Go.Lib
noncomputable def Gx (m:pd):Bool:=(pB m).getD false
theorem Fv (m:pd) (c:m.mC.length≤100000000):pB m=some (Gx m):=by
 obtain ⟨b,a,_⟩:=Ke m c
 unfold Gx
 rw [a]; rfl
noncomputable def HP (m:pd) (l:List Int):Int ⊕ (pd×List Int):=if Gx m=true then .inr (m,l) else .inl 11
noncomputable def zg (l:List Int):Int ⊕ ((List kL×List Signed)×List Int) :=
 mS (og 16 0 0 l) λa c=>mS (oU rl a.toNat c) λw d=>mS (og 8 0 0 d) λb g=>mS (oU wD b.toNat g) λs h=>.inr ((w,s),h)
noncomputable def Kj (l:List Int):Int ⊕ (pd×List Int) :=
 mS (og vv 0 0 l) λk a=>
  if k=1 then mS (xl a) λn c=>mS (og 2 0 0 c) λp d=>HP ⟨k,p,0,n,[],[]⟩ d
  else if k=2 then mS (zg a) λws g=>HP ⟨k,0,0,zS,ws.1,ws.2⟩ g
  else if k=5 then mS (og 99 0 0 a) λe c=>HP ⟨k,0,e,zS,[],[]⟩ c
  else HP ⟨k,0,0,zS,[],[]⟩ a
theorem JO (l:List Int):Dd l (wD l):=(F3 _).Fg λc a=>(B3 8 _).Fg λt d v g e=>by
 split at e
 ·cases e; exact ⟨0,Z⟩
 ·cases e
theorem SP (r:Int×lL):∀(k:Nat) (acc:List Signed) (i:Nat) (l:List Int) (n:Nat),((i+k:Nat):Int)=r.1→i+k≤10000→B8 l→l.length≤1000000→acc.length+k≤100000→k < n→
  wW r n i acc l false=some (match Di acc (oU wD k l) with | .inl e=>.inl (.inl (.inl e)) | .inr (s,l')=>.inr (s,l',false))
 | 0,acc,i,l,n+1,hi,_,_,_,_,_=>by
  rw [wW,aN fo]
  simp [oU,Di,mS]
 | k+1,acc,i,l,n+1,hi,hk,d,g,ha,o=>by
  rw [wW,aP fo,sgW l d g]
  cases a:wD l with
  | inl e=>rw [Iy acc wD k l e a]; rfl
  | inr q=>
   obtain ⟨c,h⟩:=q
   obtain ⟨h1,j⟩:=d.part g (JO l) a
   simp only [aA,wr]
   rw [nL fo fo,aA,KO i eR,Hh acc wD k l h c a]
   exact SP r k _ (i+1) h n eR eR h1 j fo eR
theorem Kx {α:Type} (f:List Int→Int ⊕ (α×List Int)):∀(n:Nat) (l:List Int) (xs:List α) (l':List Int),oU f n l= .inr (xs,l')→xs.length=n
 | 0,l,xs,l',h=>by unfold oU at h; cases h; rfl
 | n+1,l,xs,l',h=>by
  unfold oU at h
  cases a:f l with
  | inl e=>rw [a] at h; cases h
  | inr q=>
   obtain ⟨x,c⟩:=q
   rw [a] at h
   simp only [mS] at h
   cases hm:oU f n c with
   | inl e=>rw [hm] at h; cases h
   | inr q=>
    obtain ⟨ys,d⟩:=q
    rw [hm] at h
    cases h
    rw [aM,Kx f n c _ _ hm]
theorem Ty (r:Int×lL):∀(k:Nat) (acc:List kL) (i:Nat) (l:List Int) (n:Nat),((i+k:Nat):Int)=r.1→i+k≤10000→B8 l→l.length≤1000000→acc.length+k≤100000→k < n→
  wT r n i acc l false=some (match mS (Di acc (oU rl k l)) (λw v=>mS (og 8 0 0 v) λb g=>mS (oU wD b.toNat g) λs o=>.inr ((w,s),o)) with | .inl e=>.inl (.inl e) | .inr (ws,o)=>.inr (0,0,zS,ws.1,ws.2,o,false))
 | 0,acc,i,l,n+1,hi,_,a,d,_,_=>by
  rw [wT,aN fo,JJ l 8 a d]
  simp only [oU,Di,mS,bP]
  cases p:og 8 0 0 l with
  | inl e=>rfl
  | inr q=>
   obtain ⟨b,g⟩:=q
   obtain ⟨h1,h⟩:=a.part d (pC 8 l 0 0) p
   have u:=EO 8 l p
   simp only [aA,wr]
   rw [show (0:Int)=((0:Nat):Int) from rfl,SP (b,⟨g,false⟩) b.toNat [] 0 g lP (by show ((0+b.toNat:Nat):Int)=b; omega) eR h1 h fo (by rw [sP]; omega),IN]
   cases oU wD b.toNat g with
   | inl e=>rfl
   | inr q=>rfl
 | k+1,acc,i,l,n+1,hi,hk,a,d,ha,u=>by
  rw [wT,aP fo,K6 l a d]
  cases j:rl l with
  | inl e=>rw [Iy acc rl k l e j]; rfl
  | inr q=>
   obtain ⟨c,t⟩:=q
   obtain ⟨h1,h⟩:=a.part d (tV l) j
   simp only [aA,wr]
   rw [nL fo fo,aA,KO i eR,Hh acc rl k l t c j]
   exact Ty r k _ (i+1) t n eR eR h1 h fo eR
theorem J7 {l:List Int} {w:List kL} {s:List Signed} {l':List Int} (n:B8 l) (h:zg l= .inr ((w,s),l')):s.length≤8:=by
 unfold zg at h
 cases h1:og 16 0 0 l with
 | inl e=>rw [h1] at h; cases h
 | inr q=>
  obtain ⟨a,j⟩:=q
  rw [h1] at h
  simp only [mS] at h
  cases g:oU rl a.toNat j with
  | inl e=>rw [g] at h; cases h
  | inr q=>
   obtain ⟨u,i⟩:=q
   rw [g] at h
   simp only [mS] at h
   cases c:og 8 0 0 i with
   | inl e=>rw [c] at h; cases h
   | inr q=>
    obtain ⟨b,k⟩:=q
    have hle:=EO 8 i c
    rw [c] at h
    simp only [mS] at h
    cases d:oU wD b.toNat k with
    | inl e=>rw [d] at h; cases h
    | inr q=>
     obtain ⟨t,p⟩:=q
     rw [d] at h
     have o:=Kx wD _ _ _ _ d
     cases h
     omega
theorem MZ (m:pd) (l:List Int) (g:m.mC.length≤100000000):((pB m).bind λr=>(if (!r) then ((nm (⟨l,false⟩:lL) 11).bind λc=>match c with | .inl a=>some (Sum.inl a) | .inr d=>some (Sum.inr ((⟨0,0,0,zS,[],[]⟩:pd),(⟨l,false⟩:lL)))) else some (Sum.inr (m,(⟨l,false⟩:lL)))))=some (wr (HP m l)):=by
 rw [Fv m g,A0 _ 11 fs]
 unfold HP
 cases Gx m <;> rfl
theorem acu (l:List Int) (z:B8 l) (A:l.length≤1000000):E6 ⟨l,false⟩=some (wr (Kj l)):=by
 unfold E6 Kj
 rw [JJ l _ z A]
 have G:og 9223372036854775807 0 0 l=og vv 0 0 l:=rfl
 rw [G]
 cases O:og vv 0 0 l with
 | inl e=>rfl
 | inr q=>
  obtain ⟨k,c⟩:=q
  obtain ⟨h1,g⟩:=z.part A (pC vv l 0 0) O
  simp only [aA,wr,mS]
  by_cases t:k=1
  ·subst t
   simp only [aO,aJ]
   rw [NN c h1 g]
   cases J:xl c with
   | inl e=>rfl
   | inr q=>
    obtain ⟨n,d⟩:=q
    obtain ⟨j,o⟩:=h1.part g (zi c) J
    simp only [aA,wr,mS]
    rw [JJ d 2 j o]
    cases hp:og 2 0 0 d with
    | inl e=>rfl
    | inr q=>
     obtain ⟨p,v⟩:=q
     simp only [aA,wr,mS]
     exact MZ ⟨1,p,0,n,[],[]⟩ v fb
  ·have i:(k==1)=false:=by simpa using t
   by_cases k2:k=2
   ·subst k2
    have h:((2:Int)=1)=False:=by simp
    simp only [i,h,aB,aH,aO,aJ]
    rw [JJ c 16 h1 g]
    cases ha:og 16 0 0 c with
    | inl e=>
     have:zg c= .inl e:=by unfold zg; rw [ha]; rfl
     rw [this]; rfl
    | inr q=>
     obtain ⟨a,d⟩:=q
     obtain ⟨j,o⟩:=h1.part g (pC 16 c 0 0) ha
     have hle:=EO 16 c ha
     have M:zg c=mS (Di [] (oU rl a.toNat d)) (λw v=>mS (og 8 0 0 v) λb P=>mS (oU wD b.toNat P) λs x=>.inr ((w,s),x)):=by
      unfold zg; rw [ha,IN]; rfl
     have y:=Ty (a,⟨d,false⟩) a.toNat [] 0 d lP (by show ((0+a.toNat:Nat):Int)=a; omega) eR j o fo (by rw [sP]; omega)
     rw [←M] at y
     simp only [aA,wr]
     rw [show (0:Int)=((0:Nat):Int) from rfl,y]
     cases L:zg c with
     | inl e=>rfl
     | inr q=>
      obtain ⟨⟨w,s⟩,x⟩:=q
      simp only [aA,mS]
      exact MZ ⟨2,0,0,zS,w,s⟩ x (by have:=J7 h1 L; show s.length≤_; omega)
   ·have h:(k==2)=false:=by simpa using k2
    by_cases u:k=5
    ·subst u
     have d1:((5:Int)=1)=False:=by simp
     have d2:((5:Int)=2)=False:=by simp
     simp only [i,h,d1,d2,aB,aH,aO,aJ]
     rw [JJ c 99 h1 g]
     cases ha:og 99 0 0 c with
     | inl e=>rfl
     | inr q=>
      obtain ⟨a,d⟩:=q
      simp only [aA,wr,mS]
      exact MZ ⟨5,0,a,zS,[],[]⟩ d fb
    ·have I:(k==5)=false:=by simpa using u
     simp only [i,h,I,t,k2,u,aB,aH,aA]
     exact MZ ⟨k,0,0,zS,[],[]⟩ c fb
abbrev FU:pd:=⟨0,0,0,zS,[],[]⟩
noncomputable def Ei (l:List Int):pd×Int:=match Kj l with
 | .inl e=>(FU,e)
 | .inr (m,l')=>if l'.length > 0 then (FU,13) else (m,0)
theorem ZL (l:List Int) (c:B8 l) (a:l.length≤1000000):FW l=some (Ei l):=by
 unfold FW AJ DM Ei
 rw [H4 a,aA,acu l c a]
 cases Kj l with
 | inl e=>
  by_cases he:e=0
  ·subst he; rfl
  ·have:(e != 0)=true:=by simpa using he
   simp [wr,DL,he]
 | inr q=>
  obtain ⟨m,l'⟩:=q
  by_cases h:l'.length > 0
  ·simp [wr,DL,h]
  ·simp [wr,DL,h]
def ue:Nat→Nat→List Int
 | 0,u=>[(u:Int)]
 | f+1,u=>if u < 128 then [(u:Int)] else ((u % 128+128:Nat):Int)::ue f (u / 128)
theorem RZ (a:Int):∀(l:List Int) (i:Nat) (n v:Int) (l':List Int),B8 l→i≤9→og a i n l= .inr (v,l')→
  ∃u:Nat,v=n+u*128 ^ i∧l=ue (9-i) u++l'∧(0 < i→1≤u)∧v≤a
 | [],i,n,v,l',_,_,h=>by cases h
 | c::l,i,n,v,l',p,hi,h=>by
  have y:=p c fb
  unfold og at h
  split at h
  ·cases h
  rename_i x
  split at h
  ·cases h
  rename_i w
  split at h
  ·rename_i d
   split at h
   ·cases h
   ·rename_i hm
    cases h
    refine ⟨c.toNat,?_,?_,λhp=>by omega,eR⟩
    ·rw [show ((c.toNat:Nat):Int)=c % 128 by omega]
    ·obtain ⟨f,g⟩:∃f,9-i=f+1:=⟨8-i,eR⟩
     rw [g,ue,aP eR,show ((c.toNat:Nat):Int)=c by omega]
     rfl
  ·rename_i d
   obtain ⟨u,h1,k,o,t⟩:=RZ a l (i+1) _ v l' p.tail eR h
   have o:=o eR
   refine ⟨(c % 128).toNat+128*u,?_,?_,λhp=>by omega,t⟩
   ·rw [h1,Int.pow_succ]
    have e:(((c % 128).toNat+128*u:Nat):Int)=c % 128+128*u:=by omega
    rw [e,Int.add_mul,Int.add_assoc]
    congr 2
    rw [Int.mul_comm (128 ^ i) 128,←Int.mul_assoc,Int.mul_comm (u:Int) 128]
   ·obtain ⟨f,g⟩:∃f,9-i=f+1:=⟨8-i,eR⟩
    have j:9-(i+1)=f:=by omega
    rw [j] at k
    rw [g,ue,aN eR,k]
    have q:(((c % 128).toNat+128*u) % 128+128:Nat)=c.toNat:=by omega
    have s:((c % 128).toNat+128*u) / 128=u:=by omega
    rw [q,s,show ((c.toNat:Nat):Int)=c by omega]
    rfl
theorem G5:∀f u:Nat,(ue f u).length≤f+1
 | 0,u=>by simp [ue]
 | f+1,u=>by
  rw [ue]
  split
  ·simp
  ·rw [aM]; have:=G5 f (u / 128); omega
theorem TG:∀(f:Nat) (u:Nat) (k:Nat) (l:List Int),u < 128 ^ (f+1)→f < k→l.length+f≤90000→pE k (u:Int) l=some (true,l++ue f u)
 | _,u,0,l,_,hk,_=>by omega
 | 0,u,k+1,l,hu,hk,c=>by
  have hu:u < 128:=by simpa using hu
  rw [pE,aN fo,show IntKind.u8.wrap (u:Int)=(u:Int) from gf _ eR,HU fo]
  rfl
 | f+1,u,k+1,l,hu,hk,c=>by
  rw [pE,ue]
  by_cases h:u < 128
  ·rw [aN fo,aP h,show IntKind.u8.wrap (u:Int)=(u:Int) from gf _ eR,HU fo]
   rfl
  ·have a:u / 128 < 128 ^ (f+1):=by
    rw [Nat.pow_succ] at hu
    exact iN (by rw [kh]; exact hu)
   rw [aP fo,aN h,acd eR,HU fo,aA,shV,show (u:Int) / 128=((u / 128:Nat):Int) by omega,TG f (u / 128) k _ a eR fo]
   simp
theorem acj {l:List Int} {u:Nat} (hu:u < 9223372036854775808) (a:l.length≤80000):nD l (u:Int)=some (true,l++ue 9 u):=by
 unfold nD
 rw [aN fb]
 exact TG 9 u lP l eR (by rw [sP]; omega) eR
theorem VJ {u:Nat} (b:List Int) (h1:u < 9223372036854775808):Cu (u:Int) b=some (Eo (Bd (ue 9 u++b))):=by
 have a:=G5 9 u
 unfold Cu EF
 rw [acj h1 fb,aA]
 simp only [bN]
 rw [XI eR,aA,aA,Vw,aA]
 simp only [To]
 rw [TF _ (IG _)]
 simp
theorem SH:∀(f:Nat) (u:Nat) (k:Nat) (l:List Int),u < 128 ^ (f+1)→u < 9223372036854775808→f < k→l.length+f≤90000→sU k (u:Int) (mH l)=some (mH (l++ue f u))
 | _,u,0,l,_,_,hk,_=>by omega
 | 0,u,k+1,l,hu,a,hk,d=>by
  have hu:u < 128:=by simpa using hu
  rw [sU,aN fo,show IntKind.u8.wrap (u:Int)=(u:Int) from gf _ eR,uy,pN _ _ fo]
  rfl
 | f+1,u,k+1,l,hu,a,hk,d=>by
  rw [sU,ue]
  by_cases h:u < 128
  ·rw [aN fo,aP h,show IntKind.u8.wrap (u:Int)=(u:Int) from gf _ eR,uy,pN _ _ fo]
   rfl
  ·have c:u / 128 < 128 ^ (f+1):=by
    rw [Nat.pow_succ] at hu
    exact iN (by rw [kh]; exact hu)
   have t1:Int.tmod (u:Int) 128=((u % 128:Nat):Int):=by rw [gx eR]; omega
   have t2:Int.tdiv (u:Int) 128=((u / 128:Nat):Int):=by rw [Int.tdiv_eq_ediv_of_nonneg eR]; omega
   have g:IntKind.u8.wrap (IntKind.i64.wrap (128+(Int.tmod (u:Int) 128)))=((u % 128+128:Nat):Int):=by
    rw [t1,mr eR eR,show IntKind.u8.wrap (128+((u % 128:Nat):Int))=128+((u % 128:Nat):Int) from gf _ eR]; omega
   have i:IntKind.i64.wrap (Int.tdiv (u:Int) 128)=((u / 128:Nat):Int):=by rw [t2,mr eR eR]
   rw [aP fo,aN h,g,uy,pN _ _ fo,aA,i,SH f (u / 128) k _ c eR eR fo]
   simp
theorem aaK {u:Nat} (hu:u < 9223372036854775808):ra (u:Int)=some (mH (ue 9 u)):=by
 unfold ra
 have:=SH 9 u lP [] eR hu (by rw [sP]; omega) fb
 exact this
theorem QA:∀(n:Nat) (H:Int) (s:ByteArray) (i:Int),wV n H s i=rj n H s i
 | 0,H,s,i=>rfl
 | n+1,H,s,i=>by
  rw [wV,rj]
  simp only [QA n]
theorem Xa (H:Int) (hH:0≤H∧H < 18446744073709551616):CK H=some (mH (Eo H)):=by
 unfold CK
 rw [QA,Vv H hH]
def AN (b:List Int):List Int:=ue 9 b.length++b
theorem OX (b:List Int):(AN b).length≤b.length+10:=by
 unfold AN; rw [aF]; have:=G5 9 b.length; omega
theorem Ro {b:List Int} (a:b.length≤100000):tN (mH b)=some (mH (AN b)):=by
 have:=G5 9 b.length
 unfold tN
 rw [vc,aaK eR,aA,pN _ _ eR]
 rfl
theorem Nh:∀(f u:Nat),u < 128 ^ (f+1)→B8 (ue f u)
 | 0,u,hu=>λx a=>by
  have hu:u < 128:=by simpa using hu
  rw [ue,aY] at a; omega
 | f+1,u,hu=>λx a=>by
  have c:u / 128 < 128 ^ (f+1):=by
   rw [Nat.pow_succ] at hu
   exact iN (by rw [kh]; exact hu)
  rw [ue] at a
  split at a
  ·rw [aY] at a; omega
  ·rcases aS.1 a with rfl | a
   ·omega
   ·exact Nh f (u / 128) c x a
theorem Zn {u:Nat} {b:List Int} (hu:u < 9223372036854775808) (g:b.length≤2048) (d:B8 b):DQ (u:Int) (mH b)=some (mH (ue 9 u++(AN b++AN (Eo (Bd (ue 9 u++b)))))):=by
 have a:=G5 9 u
 have c:=OX b
 have h:(Eo (Bd (ue 9 u++b))).length=8:=rfl
 have e:=OX (Eo (Bd (ue 9 u++b)))
 unfold DQ
 rw [aaK hu,aA,Ro eR,aA,pN _ _ eR,aA,aA,pN _ _ eR,aA,U5 ((Nh 9 u eR).Lz d) (by rw [aF]; omega),aA,Xa _ (IG _),aA,Ro eR,aA,pN _ _ (by rw [aF]; omega),aQ]
 rfl
def RdQ {α β:Type} (x:Int ⊕ (α×List Int)) (v:α→β) (r:Option (β×lj)):Prop:=match x with
 | .inl e=>e≠0∧∃y S,r=some (y,(⟨S,e⟩:lj))
 | .inr q=>r=some (v q.1,(⟨mH q.2,0⟩:lj))
theorem Uy (r:Int×lj) (n:Nat) (acc:List Signed) (i:Int) (S:ByteArray) (e:Int) (he:e≠0):rc r (n+1) i acc ⟨S,e⟩=some (acc,⟨S,e⟩):=by
 rw [rc]
 have:(e==0)=false:=by simpa using he
 have a:(if decide (i < r.1)=true then some ((⟨S,e⟩:lj).E==0) else some false:Option Bool)=some false:=by
  show (if decide (i < r.1)=true then some (e==0) else some false:Option Bool)=some false
  rw [this,ite_self]
 rw [a]
 simp only [aA,aB,aH]
theorem YA (r:Int×lj):∀(k:Nat) (acc:List Signed) (i:Nat) (l:List Int) (n:Nat),((i+k:Nat):Int)=r.1→i+k≤10000→B8 l→l.length≤1000000→acc.length+k≤100000→k < n→
  RdQ (Di acc (oU wD k l)) id (rc r n i acc ⟨mH l,0⟩)
 | 0,acc,i,l,n+1,hi,_,_,_,_,_=>by
  rw [rc,aN fo]
  simp [oU,Di,mS,RdQ]
 | k+1,acc,i,l,n+1,hi,hk,j,o,ha,s=>by
  rw [rc,aP fo]
  simp only [aO,aA,aJ]
  have a:=aal l j o
  obtain ⟨n,rfl⟩:∃m,n=m+1:=⟨n-1,eR⟩
  cases d:wD l with
  | inl e=>
   rw [d] at a
   obtain ⟨he,S,g⟩:=a
   rw [Iy acc wD k l e d,g,aA,nL fo fo,aA,Uy _ _ _ _ _ _ he]
   exact ⟨he,_,S,Z⟩
  | inr q=>
   obtain ⟨c,h⟩:=q
   rw [d] at a
   have g:AS ⟨mH l,0⟩=some (c,(⟨mH h,0⟩:lj)):=a
   obtain ⟨h1,p⟩:=j.part o (JO l) d
   rw [g,aA,nL fo fo,aA,KO i eR,Hh acc wD k l h c d]
   exact YA r k _ (i+1) h (n+1) eR eR h1 p fo eR
theorem Yt (r:Int×lj) (n:Nat) (acc:List kL) (i:Int) (S:ByteArray) (e:Int) (he:e≠0):rp r (n+1) i acc ⟨S,e⟩=some (acc,[],⟨S,e⟩):=by
 rw [rp]
 have:(e==0)=false:=by simpa using he
 have a:(if decide (i < r.1)=true then some ((⟨S,e⟩:lj).E==0) else some false:Option Bool)=some false:=by
  show (if decide (i < r.1)=true then some (e==0) else some false:Option Bool)=some false
  rw [this,ite_self]
 rw [a]
 simp only [aA,aB,aH]
 rw [Oe S e _ he,aA,nV,Uy _ _ _ _ _ _ he]
 rfl
def Rd3 (x:Int ⊕ ((List kL×List Signed)×List Int)) (r:Option (List kL×List Signed×lj)):Prop:=match x with
 | .inl e=>e≠0∧∃w s S,r=some (w,s,(⟨S,e⟩:lj))
 | .inr q=>r=some (q.1.1,q.1.2,(⟨mH q.2,0⟩:lj))
theorem YC (r:Int×lj):∀(k:Nat) (acc:List kL) (i:Nat) (l:List Int) (n:Nat),((i+k:Nat):Int)=r.1→i+k≤10000→B8 l→l.length≤1000000→acc.length+k≤100000→k < n→
  Rd3 (mS (Di acc (oU rl k l)) λw z=>mS (og 8 0 0 z) λb d=>mS (oU wD b.toNat d) λs A=>.inr ((w,s),A)) (rp r n i acc ⟨mH l,0⟩)
 | 0,acc,i,l,n+1,hi,_,o,t,_,_=>by
  rw [rp,aN fo]
  simp only [oU,Di,mS,bP,aA,aB,aH]
  have h:=Ev l 8 o t
  cases u:og 8 0 0 l with
  | inl e=>
   rw [u] at h
   obtain ⟨he,S,a⟩:=h
   rw [a,aA,nV,Uy _ _ _ _ _ _ he]
   exact ⟨he,_,_,S,Z⟩
  | inr q=>
   obtain ⟨b,d⟩:=q
   rw [u] at h
   have a:mj ⟨mH l,0⟩ 8=some (b,(⟨mH d,0⟩:lj)):=h
   obtain ⟨h1,g⟩:=o.part t (pC 8 l 0 0) u
   have x:=EO 8 l u
   have g:=YA (b,⟨mH d,0⟩) b.toNat [] 0 d lP (by show ((0+b.toNat:Nat):Int)=b; omega) eR h1 g fo (by rw [sP]; omega)
   rw [IN] at g
   rw [a,aA]
   simp only
   cases hm:oU wD b.toNat d with
   | inl e=>
    rw [hm] at g
    obtain ⟨he,y,S,a⟩:=g
    have a:rc (b,⟨mH d,0⟩) lP 0 [] ⟨mH d,0⟩=some (y,⟨S,e⟩):=a
    rw [a]
    exact ⟨he,_,_,S,Z⟩
   | inr q=>
    rw [hm] at g
    have a:rc (b,⟨mH d,0⟩) lP 0 [] ⟨mH d,0⟩=some (q.1,⟨mH q.2,0⟩):=g
    rw [a]
    rfl
 | k+1,acc,i,l,n+1,hi,hk,o,t,ha,x=>by
  rw [rp,aP fo]
  simp only [aO,aA,aJ]
  have j:=Ix l o t
  obtain ⟨n,rfl⟩:∃m,n=m+1:=⟨n-1,eR⟩
  cases p:rl l with
  | inl e=>
   rw [p] at j
   obtain ⟨he,S,a⟩:=j
   rw [Iy acc rl k l e p,a,aA,nL fo fo,aA,Yt _ _ _ _ _ _ he]
   exact ⟨he,_,_,S,Z⟩
  | inr q=>
   obtain ⟨c,v⟩:=q
   rw [p] at j
   have a:oR ⟨mH l,0⟩=some (c,(⟨mH v,0⟩:lj)):=j
   obtain ⟨h1,g⟩:=o.part t (tV l) p
   rw [a,aA,nL fo fo,aA,KO i eR,Hh acc rl k l v c p]
   exact YC r k _ (i+1) v (n+1) eR eR h1 g fo eR
theorem OP (m:pd) (t:m.mC.length≤8):∀(s:List Signed) (i:Nat),rR m.mC s i=sv m s i
 | [],i=>by
  rw [rR,sv]
  simp; omega
 | x::s,i=>by
  rw [rR,sv,OP m t s (i+1)]
  unfold FD
  have k:∀a b:kK,((vk a b).bind λh=>some (decide (h≥0)))=((uu a b).bind λg=>some (decide (g≥0))):=λa b=>by
   obtain ⟨c,p,j⟩:=Cj a b
   obtain ⟨d,q,n⟩:=Fj a b
   rw [p,q]
   simp only [aA]
   congr 2
   rw [ge_iff_le,ge_iff_le,gu]
   have:=j.trans n.symm
   omega
  rw [uw,wY]
  simp only [aA,k]
  cases mQ x.kK
  ·simp
  ·by_cases o:(x.Tag.length:Int)=8
   ·simp [o]
   ·simp [o,bne]
theorem Hj (m:pd):Ca m m=some true:=by
 have a:mV m.mC m.mC (λ(x:(Signed×Signed))=>sx x.1 x.2)=some true:=by
  unfold mV
  rw [aN fb]
  have:∀(r p:List Signed),m.mC=p++r→mf m.mC (λ(x:(Signed×Signed))=>sx x.1 x.2) r p.length=some true:=by
   intro r
   induction r with
   | nil=>intro p e; rw [mf]
   | cons x r ih=>
    intro p e
    rw [mf]
    have hi:mT m.mC ((p.length:Nat):Int)=some x:=by
     rw [e,Ge]; simp
    rw [hi,aA]
    have c:sx x x=some true:=by
     unfold sx pY
     rw [aP (xo.2 Z),mU.2 Z]; rfl
    rw [c,aA]
    simp only [bR,aB,aH]
    have:=ih (p++[x]) (by rw [e]; simp)
    rw [aF] at this
    exact this
  exact this m.mC [] Z
 unfold Ca
 rw [a,F2,mU.2 Z]
 simp
theorem Ue (p:Int) (n:ByteArray):pZ ⟨1,p,0,n,[],[]⟩=pB ⟨1,p,0,n,[],[]⟩:=by
 unfold pZ pB Ax
 have d:=Hj ⟨1,p,0,n,[],[]⟩
 simp [d,yH,wk]
 have:IntKind.i64.wrap 0=0:=rfl
 simp [this]
 cases oM n
 ·simp
 ·by_cases h1:p=1
  ·simp [h1]
  ·by_cases a:p=2
   ·simp [a]
   ·have:¬(1≤p∧p≤2):=by omega
    by_cases c:1≤p
    ·have:¬p≤2:=by omega
     simp [h1,a,c,this]
    ·simp [h1,a,c]
theorem Ur (e:Int):pZ ⟨5,0,e,zS,[],[]⟩=pB ⟨5,0,e,zS,[],[]⟩:=by
 unfold pZ pB Ax
 have a:=Hj ⟨5,0,e,zS,[],[]⟩
 have:IntKind.i64.wrap 0=0:=rfl
 simp [a,this,wA]
theorem Uv (k:Int) (h1:k≠1) (p:k≠2) (q:k≠5):pZ ⟨k,0,0,zS,[],[]⟩=pB ⟨k,0,0,zS,[],[]⟩:=by
 unfold pZ pB Ax
 have d:=Hj ⟨k,0,0,zS,[],[]⟩
 have hw:IntKind.i64.wrap 0=0:=rfl
 have j:(k==1)=false:=by simpa using h1
 have n:(k==2)=false:=by simpa using p
 have o:(k==5)=false:=by simpa using q
 have c:E3 []=some []:=by decide +kernel
 have a:yM [] []=some true:=abv []
 simp only [d,hw,j,n,o,bne,wA,aA]
 by_cases g:k=3
 ·subst g; simp [d,hw,c,a,sv]
 ·by_cases i:k=4
  ·subst i; simp [d,hw,c,a,sv]
  ·have:k < 1∨5 < k:=by omega
   rcases this with h | h
   ·simp [d,h,g,i]
   ·have:¬k < 1:=by omega
    simp [d,h,this,g,i]
theorem Uh (w:List kL) (s:List Signed) (hw:w.length≤16) (o:s.length≤8):pZ ⟨2,0,0,zS,w,s⟩=pB ⟨2,0,0,zS,w,s⟩:=by
 unfold pZ pB Ax Cq E8
 have d:=Hj ⟨2,0,0,zS,w,s⟩
 have h:=OP ⟨2,0,0,zS,w,s⟩ o s 0
 have n:rR s s 0=sv ⟨2,0,0,zS,w,s⟩ s 0:=h
 obtain ⟨b,q,_⟩:=Ke ⟨2,0,0,zS,w,s⟩ (by show s.length≤_; omega)
 obtain ⟨c,k,_⟩:=J4 s eR s [] Z
 have a:rR s s 0=some c:=k
 obtain ⟨t,p,h1⟩:=Y0 w eR
 obtain ⟨u,g,j⟩:=aaN w eR
 obtain rfl:=zU.unique (M6 _) h1 j
 have i:decide ((w.length:Int) > 16)=false:=by simp; omega
 have a2:decide ((s.length:Int) > 8)=false:=by simp; omega
 have a3:decide ((w.length:Int)≤16)=true:=by simp; omega
 simp only [d,p,g,Wl,F2,aA,i,a2,a3,bne,wA,aO,aJ,aH,aB,bR,cX,a]
 rw [n] at a
 rw [a]
 by_cases e:t=w
 ·simp [e,d]
 ·simp [e,d]
theorem Hb {m:pd} (h:(∃p n,m=⟨1,p,0,n,[],[]⟩)∨(∃w s,m=⟨2,0,0,zS,w,s⟩∧w.length≤16∧s.length≤8)∨(∃e,m=⟨5,0,e,zS,[],[]⟩)∨(∃k,m=⟨k,0,0,zS,[],[]⟩∧k≠1∧k≠2∧k≠5)):pZ m=some (Gx m):=by
 rcases h with ⟨p,n,rfl⟩ | ⟨w,s,rfl,hw,d⟩ | ⟨e,rfl⟩ | ⟨k,rfl,h1,a,c⟩
 ·rw [Ue,Fv _ fb]
 ·rw [Uh w s hw d,Fv _ (by show s.length≤_; omega)]
 ·rw [Ur,Fv _ fb]
 ·rw [Uv k h1 a c,Fv _ fb]
theorem Z2 {a:Int} {l:List Int} {e:Int} (c:B8 l) (d:l.length≤1000000) (h:og a 0 0 l= .inl e):e≠0:=by
 have:=Ev l a c d
 rw [h] at this; exact this.1
theorem Gp (m:pd) (l:List Int) (e:Int) (he:e≠0) (S:ByteArray):sw ⟨S,e⟩=some e:=by
 unfold sw
 have:(e==0)=false:=by simpa using he
 simp [this]
theorem Rc (l:List Int):sw ⟨mH l,0⟩=some (if l.length > 0 then 13 else 0):=by
 unfold sw
 cases l with
 | nil=>simp [Tf,wA]
 | cons a l=>simp [VW]
theorem IP (m:pd) (l:List Int) (i:pZ m=some (Gx m)) :
  (((((if ((⟨mH l,0⟩:lj).E==0) then (pZ m).bind λc=>some (!c) else some false):Option Bool).bind λg=>(if g then some (⟨(⟨mH l,0⟩:lj).S,11⟩:lj) else some (⟨mH l,0⟩:lj))):Option lj).bind λd=>(sw d).bind λa=>(if (a != 0) then some (FU,a) else some (m,0)))
   = some (match HP m l with | .inl e=>(FU,e) | .inr (m,l')=>if l'.length > 0 then (FU,13) else (m,0)):=by
 simp only [aO,aJ,i,aA]
 unfold HP
 cases Gx m
 ·simp only [cX,aJ,aA,aB,aH]
  rw [Gp m l 11 fs]
  rfl
 ·simp only [bR,aB,aH,aJ,aA]
  rw [Rc]
  by_cases h:l.length > 0
  ·simp [h]
  ·simp [h]
theorem Du (m:pd) (S:ByteArray) (e:Int) (he:e≠0) :
  ((sw ⟨S,e⟩).bind λa=>(if (a != 0) then some (FU,a) else some (m,0)))=some (FU,e):=by
 rw [Gp m [] e he]
 simp [he]
theorem VD (l:List Int) (O:B8 l) (P:l.length≤1000000):DJ (mH l)=some (Ei l):=by
 unfold DJ Ei Kj
 have Y:=Ev l vv O P
 have t:Ng (og vv 0 0 l) 0 id (mj ⟨mH l,0⟩ 9223372036854775807):=Y
 cases M:og vv 0 0 l with
 | inl e=>
  rw [M] at t
  obtain ⟨he,S,c⟩:=t
  have j:(e==0)=false:=by simpa using he
  rw [c]
  simp only [aA,j,aB,aH,mS]
  exact Du ⟨0,0,0,zS,[],[]⟩ S e he
 | inr q=>
  obtain ⟨k,i⟩:=q
  rw [M] at t
  have c:mj ⟨mH l,0⟩ 9223372036854775807=some (k,(⟨mH i,0⟩:lj)):=t
  obtain ⟨h1,A⟩:=O.part P (pC vv l 0 0) M
  rw [c]
  simp only [aA,aO,aJ,mS]
  by_cases I:k=1
  ·subst I
   have d2:((1:Int)==2)=false:=rfl
   have d5:((1:Int)==5)=false:=rfl
   simp only [aO,aJ]
   have hm:=GW i h1 A
   cases hw:xl i with
   | inl e=>
    rw [hw] at hm
    obtain ⟨he,S,c⟩:=hm
    have j:(e==0)=false:=by simpa using he
    rw [c,aA,Oe S e _ he]
    simp only [aA,j,aB,aH,mS]
    exact Du _ S e he
   | inr q=>
    obtain ⟨n,d⟩:=q
    rw [hw] at hm
    have c:oY ⟨mH i,0⟩=some (n,(⟨mH d,0⟩:lj)):=hm
    obtain ⟨x,y⟩:=h1.part A (zi i) hw
    rw [c,aA]
    have hp:=Ev d 2 x y
    simp only [mS]
    cases Q:og 2 0 0 d with
    | inl e=>
     rw [Q] at hp
     obtain ⟨he,S,c⟩:=hp
     have j:(e==0)=false:=by simpa using he
     rw [c]
     simp only [aA,j,aB,aH]
     exact Du _ S e he
    | inr q=>
     obtain ⟨p,v⟩:=q
     rw [Q] at hp
     have c:mj ⟨mH d,0⟩ 2=some (p,(⟨mH v,0⟩:lj)):=hp
     rw [c]
     simp only [aA,aO,aJ,d2,d5,aB,aH]
     exact IP ⟨1,p,0,n,[],[]⟩ v (Hb (.inl ⟨_,_,Z⟩))
  ·have T:(k==1)=false:=by simpa using I
   simp only [T,I,aB,aH,aA,aO,aJ]
   by_cases k2:k=2
   ·subst k2
    have d5:((2:Int)==5)=false:=rfl
    simp only [aO,aJ]
    have g:=Ev i 16 h1 A
    unfold zg
    cases ha:og 16 0 0 i with
    | inl e=>
     rw [ha] at g
     obtain ⟨he,S,c⟩:=g
     have j:(e==0)=false:=by simpa using he
     rw [c,aA,nV,Yt _ _ _ _ _ _ he]
     simp only [aA,j,aB,aH,mS]
     exact Du _ S e he
    | inr q=>
     obtain ⟨a,d⟩:=q
     rw [ha] at g
     have c:mj ⟨mH i,0⟩ 16=some (a,(⟨mH d,0⟩:lj)):=g
     obtain ⟨x,y⟩:=h1.part A (pC 16 i 0 0) ha
     have hle:=EO 16 i ha
     have z:=YC (a,⟨mH d,0⟩) a.toNat [] 0 d lP (by show ((0+a.toNat:Nat):Int)=a; omega) eR x y fo (by rw [sP]; omega)
     rw [IN] at z
     have L:zg i=(mS (oU rl a.toNat d) λw v=>mS (og 8 0 0 v) λb G=>mS (oU wD b.toNat G) λs o=>.inr ((w,s),o)):=by
      unfold zg; rw [ha]; rfl
     rw [←L] at z
     have hlen:∀w s o,zg i= .inr ((w,s),o)→w.length≤16∧s.length≤8:=λw s o h=>⟨by
      rw [L] at h
      cases u:oU rl a.toNat d with
      | inl e=>rw [u] at h; cases h
      | inr q=>
       obtain ⟨w',v⟩:=q
       have:=Kx rl _ _ _ _ u
       rw [u] at h
       simp only [mS] at h
       cases x:og 8 0 0 v with
       | inl e=>rw [x] at h; cases h
       | inr q=>
        obtain ⟨b,G⟩:=q
        rw [x] at h
        simp only at h
        cases y:oU wD b.toNat G with
        | inl e=>rw [y] at h; cases h
        | inr q=>rw [y] at h; cases h; omega,J7 h1 h⟩
     rw [c,aA]
     have R:(mS (Sum.inr (a,d)) λa d=>mS (oU rl a.toNat d) λw v=>mS (og 8 0 0 v) λb G=>mS (oU wD b.toNat G) λs o=>(.inr ((w,s),o):Int ⊕ ((List kL×List Signed)×List Int)))=zg i:=L.symm
     rw [R]
     cases u:zg i with
     | inl e=>
      rw [u] at z
      obtain ⟨he,w,s,S,c⟩:=z
      have c:rp (a,⟨mH d,0⟩) lP 0 [] ⟨mH d,0⟩=some (w,s,⟨S,e⟩):=c
      have j:(e==0)=false:=by simpa using he
      rw [c]
      simp only [aA,j,aB,aH]
      exact Du _ S e he
     | inr q=>
      obtain ⟨⟨w,s⟩,o⟩:=q
      rw [u] at z
      have c:rp (a,⟨mH d,0⟩) lP 0 [] ⟨mH d,0⟩=some (w,s,⟨mH o,0⟩):=z
      rw [c]
      simp only [aA,aO,aJ,d5,aB,aH]
      exact IP ⟨2,0,0,zS,w,s⟩ o (Hb (.inr (.inl ⟨_,_,Z,(hlen w s o u).1,(hlen w s o u).2⟩)))
   ·have U:(k==2)=false:=by simpa using k2
    simp only [U,k2,aB,aH,aA,aO,aJ]
    by_cases J:k=5
    ·subst J
     simp only [aO,aJ]
     have g:=Ev i 99 h1 A
     cases ha:og 99 0 0 i with
     | inl e=>
      rw [ha] at g
      obtain ⟨he,S,c⟩:=g
      have j:(e==0)=false:=by simpa using he
      rw [c]
      simp only [aA,j,aB,aH]
      exact Du _ S e he
     | inr q=>
      obtain ⟨a,d⟩:=q
      rw [ha] at g
      have c:mj ⟨mH i,0⟩ 99=some (a,(⟨mH d,0⟩:lj)):=g
      rw [c]
      simp only [aA]
      exact IP ⟨5,0,a,zS,[],[]⟩ d (Hb (.inr (.inr (.inl ⟨_,Z⟩))))
    ·have W:(k==5)=false:=by simpa using J
     simp only [W,J,aB,aH,aA,aO,aJ]
     exact IP ⟨k,0,0,zS,[],[]⟩ i (Hb (.inr (.inr (.inr ⟨_,Z,I,k2,J⟩))))
noncomputable def E2 (l:List Int):Int ⊕ ((Int×List Int×List Int)×List Int) :=
 mS (og 1099511627776 0 0 l) λn a=>mS (ux 2048 a) λb d=>mS (ux 8 d) λc g=>if (c.length:Int)≠8∨n=0 then .inl 11 else .inr ((n,b,c),g)
noncomputable def pV (l:List Int):Int×pd×Int :=
 if (l.length:Int) > 4096 then (0,FU,12) else match E2 l with
 | .inl e=>(0,FU,e)
 | .inr ((n,b,c),l')=>if l'.length > 0 then (0,FU,13) else if c≠Eo (Bd (ue 9 n.toNat++b)) then (0,FU,20)
   else if (Ei b).2≠0 then (0,FU,(Ei b).2) else (n,(Ei b).1,0)
theorem QB {a:Int} {l:List Int} {e:Int} (c:B8 l) (d:l.length≤1000000) (h:ux a l= .inl e):e≠0:=by
 have:=GB l a c d
 rw [h] at this; exact this.1
theorem ZS (l:List Int) (i:B8 l) (g:l.length≤1000000):match E2 l with
  | .inl e=>e≠0∧∃x y z,yW l=some (x,y,z,e)
  | .inr ((n,b,c),l')=>yW l=some (n,b,c,if l'.length > 0 then 13 else 0):=by
 unfold yW yV BJ E2
 rw [H4 g,aA,JJ l _ i g]
 cases p:og 1099511627776 0 0 l with
 | inl e=>exact ⟨Z2 i g p,_,_,_,Z⟩
 | inr q=>
  obtain ⟨n,j⟩:=q
  obtain ⟨h1,h⟩:=i.part g (pC _ l 0 0) p
  simp only [aA,wr,mS]
  rw [PW j _ h1 h]
  cases s:ux 2048 j with
  | inl e=>exact ⟨QB h1 h s,_,_,_,Z⟩
  | inr q=>
   obtain ⟨b,t⟩:=q
   obtain ⟨k,o⟩:=h1.part h (B3 _ j) s
   simp only [aA,wr,mS]
   rw [PW t _ k o]
   cases u:ux 8 t with
   | inl e=>exact ⟨QB k o u,_,_,_,Z⟩
   | inr q=>
    obtain ⟨c,v⟩:=q
    simp only [aA,wr,mS]
    rw [A0 _ 11 fs]
    by_cases a:(c.length:Int)=8
    ·by_cases d:n=0
     ·rw [aP (.inr d)]
      refine ⟨fs,n,b,c,?_⟩
      simp [a,d,DL,OK]
     ·rw [aN (by simp [a,d])]
      simp [a,d,DL,OK]
    ·rw [aP (.inl a)]
     refine ⟨fs,n,b,c,?_⟩
     simp [a,DL,OK,bne]
theorem HX {a:Int} {l t l':List Int} (g:B8 l) (h:ux a l= .inr (t,l')):l=AN t++l'∧(t.length:Int)≤a∧B8 t:=by
 unfold ux at h
 cases c:og vv 0 0 l with
 | inl e=>rw [c] at h; cases h
 | inr q=>
  obtain ⟨n,d⟩:=q
  rw [c] at h
  simp only [mS] at h
  split at h
  ·cases h
  split at h
  ·cases h
  rename_i h1 k
  obtain ⟨u,hu,i,_,_⟩:=RZ vv l 0 0 n d g eR c
  have hu:n=(u:Int):=by rw [hu]; simp
  subst hu
  have e:t=d.take u∧l'=d.drop u:=by
   have:=bI (λx=>match x with | Sum.inr q=>q | _=>([],[])) h
   simp at this
   exact ⟨this.1.symm,this.2.symm⟩
  obtain ⟨rfl,rfl⟩:=e
  have j:(d.take u).length=u:=by rw [dA]; omega
  refine ⟨?_,eR,?_⟩
  ·unfold AN
   rw [j,aQ,gi]
   exact i
  ·have:B8 d:=λx c=>g x (by rw [i]; exact dI _ c)
   exact this.take _
theorem Ks (l:List Int) (t:B8 l) (w:l.length≤1000000):Ac l=some (pV l):=by
 unfold Ac pV
 by_cases h:(l.length:Int) > 4096
 ·simp [h]
 ·rw [aN (by simpa using h),aN h]
  have hp:=ZS l t w
  cases a:E2 l with
  | inl e=>
   rw [a] at hp
   obtain ⟨he,x,y,z,k⟩:=hp
   have p:(e==0)=false:=by simpa using he
   rw [k]
   simp [p,he]
  | inr q=>
   obtain ⟨⟨n,b,c⟩,l'⟩:=q
   rw [a] at hp
   have k:yW l=some (n,b,c,if l'.length > 0 then 13 else 0):=hp
   have j:(0≤n∧n≤1099511627776)∧B8 b∧b.length≤2048∧B8 c:=by
    unfold E2 at a
    cases hw:og 1099511627776 0 0 l with
    | inl e=>rw [hw] at a; cases a
    | inr q=>
     obtain ⟨Q,G⟩:=q
     have h1:=EO _ l hw
     obtain ⟨g,s⟩:=t.part w (pC _ l 0 0) hw
     rw [hw] at a
     simp only [mS] at a
     cases i:ux 2048 G with
     | inl e=>rw [i] at a; cases a
     | inr q=>
      obtain ⟨O,M⟩:=q
      obtain ⟨_,P,I⟩:=HX g i
      obtain ⟨J,_⟩:=g.part s (B3 _ G) i
      rw [i] at a
      simp only at a
      cases o:ux 8 M with
      | inl e=>rw [o] at a; cases a
      | inr q=>
       rw [o] at a
       simp only at a
       split at a
       ·cases a
       ·cases a; exact ⟨h1,I,eR,(HX J o).2.2⟩
   obtain ⟨⟨p,h1⟩,g,s,L⟩:=j
   rw [k]
   simp only [aA]
   by_cases d:l'.length > 0
   ·simp [d]
   ·have A:=VJ (u:=n.toNat) b eR
    rw [show ((n.toNat:Nat):Int)=n by omega] at A
    have he:pY c (Eo (Bd (ue 9 n.toNat++b)))=some (decide (c=Eo (Bd (ue 9 n.toNat++b)))):=by
     unfold pY
     rw [uy,uy]
     congr 1
     rw [cC,mU,H3 L (XR _),fW]
    simp only [d,aH,aO,aJ,A,he,aA]
    by_cases v:c=Eo (Bd (ue 9 n.toNat++b))
    ·rw [ZL b g eR]
     simp [v]
     by_cases hm:(Ei b).2=0
     ·simp [hm]
     ·simp [hm]
    ·simp [v]
theorem TO {l:List Int} (o:B8 l) (z:l.length≤1000000) {n:Int} {b c l':List Int} (a:E2 l= .inr ((n,b,c),l')) :
  (0≤n∧n≤1099511627776)∧B8 b∧b.length≤2048∧B8 c∧c.length=8∧n≠0∧l=ue 9 n.toNat++(AN b++(AN c++l')):=by
 unfold E2 at a
 cases hw:og 1099511627776 0 0 l with
 | inl e=>rw [hw] at a; cases a
 | inr q=>
  obtain ⟨G,j⟩:=q
  have h1:=EO _ l hw
  obtain ⟨k,p⟩:=o.part z (pC _ l 0 0) hw
  obtain ⟨u,hu,x,_,_⟩:=RZ _ l 0 0 G j o eR hw
  rw [hw] at a
  simp only [mS] at a
  cases d:ux 2048 j with
  | inl e=>rw [d] at a; cases a
  | inr q=>
   obtain ⟨I,A⟩:=q
   obtain ⟨v,L,s⟩:=HX k d
   obtain ⟨t,_⟩:=k.part p (B3 _ j) d
   rw [d] at a
   simp only at a
   cases i:ux 8 A with
   | inl e=>rw [i] at a; cases a
   | inr q=>
    obtain ⟨J,O⟩:=q
    obtain ⟨w,M,g⟩:=HX t i
    rw [i] at a
    simp only at a
    split at a
    ·cases a
    ·rename_i y
     cases a
     refine ⟨h1,s,eR,g,eR,λh=>y (.inr h),?_⟩
     have:u=n.toNat:=by rw [hu]; simp
     rw [←this,←w,←v]
     exact x
theorem Ww (l:List Int) (I:B8 l) (w:l.length≤1000000):vE (mH l)=some (pV l):=by
 unfold vE pV
 rw [vc]
 by_cases h:(l.length:Int) > 4096
 ·simp [h]
 ·rw [aN (by simpa using h),aN h]
  have d:=λn b c l'=>TO I w (n:=n) (b:=b) (c:=c) (l':=l')
  revert d
  unfold E2
  have J:=Ev l 1099511627776 I w
  cases T:og 1099511627776 0 0 l with
  | inl e=>
   intro _
   rw [T] at J
   obtain ⟨he,S,g⟩:=J
   have j:(e==0)=false:=by simpa using he
   rw [g,aA,Gz S e _ he,aA,Gz S e _ he]
   simp only [aA,j,aB,aH,mS]
   rw [Gp FU [] e he]
   simp [j,he]
  | inr q=>
   obtain ⟨n,z⟩:=q
   rw [T] at J
   have g:mj ⟨mH l,0⟩ 1099511627776=some (n,(⟨mH z,0⟩:lj)):=J
   obtain ⟨h1,W⟩:=I.part w (pC _ l 0 0) T
   have p:=GB z 2048 h1 W
   rw [g,aA]
   simp only [mS]
   cases U:ux 2048 z with
   | inl e=>
    intro _
    rw [U] at p
    obtain ⟨he,S,g⟩:=p
    have j:(e==0)=false:=by simpa using he
    rw [g,aA,Gz S e _ he]
    simp only [aA,j,aB,aH,mS]
    rw [Gp FU [] e he]
    simp [j,he]
   | inr q=>
    obtain ⟨b,L⟩:=q
    rw [U] at p
    have g:nS ⟨mH z,0⟩ 2048=some (mH b,(⟨mH L,0⟩:lj)):=p
    obtain ⟨h3,h4⟩:=h1.part W (B3 _ z) U
    have i:=GB L 8 h3 h4
    rw [g,aA]
    simp only
    cases hz:ux 8 L with
    | inl e=>
     intro _
     rw [hz] at i
     obtain ⟨he,S,g⟩:=i
     have j:(e==0)=false:=by simpa using he
     rw [g]
     simp only [aA,j,aB,aH,mS]
     rw [Gp FU [] e he]
     simp [j,he]
    | inr q=>
     obtain ⟨c,A⟩:=q
     intro d
     rw [hz] at i
     have g:nS ⟨mH L,0⟩ 8=some (mH c,(⟨mH A,0⟩:lj)):=i
     rw [g]
     simp only [aA,aO,aJ,vc]
     by_cases G:(c.length:Int)≠8∨n=0
     ·rw [aP G]
      have hi:((if ((c.length:Int) != 8) then some true else some (n==0)):Option Bool)=some true:=by
       by_cases o:(c.length:Int)=8
       ·have y:n=0:=G.resolve_left (λh=>h o)
        simp [o,y]
       ·simp [o,bne]
      rw [hi]
      simp only [aA,aJ]
      rw [Gp FU [] 11 fs]
      simp
     ·rw [aN G]
      obtain ⟨⟨y,a6⟩,k,M,a1,s,R,P⟩:=d n b c A (by simp only [aN G])
      have hi:((if ((c.length:Int) != 8) then some true else some (n==0)):Option Bool)=some false:=by
       simp [s,R]
      rw [hi]
      simp only [aA,aB,aH]
      rw [Rc,aA]
      by_cases x:A.length > 0
      ·simp [x]
      ·obtain rfl:A=[]:=by cases A with | nil=>rfl | cons a t=>simp at x
       have Y:=Zn (u:=n.toNat) (b:=b) eR M k
       rw [show ((n.toNat:Nat):Int)=n by omega] at Y
       have hd:=XR (Bd (ue 9 n.toNat++b))
       have v:(Eo (Bd (ue 9 n.toNat++b))).length=8:=rfl
       have h9:∀t:List Int,B8 t→t.length=8→B8 (AN t):=λt p w=>by
        unfold AN; rw [w]; exact (Nh 9 8 fs).Lz p
       have O:B8 (AN b):=(Nh 9 b.length eR).Lz k
       have Q:(mx (mH l) (mH (ue 9 n.toNat++(AN b++AN (Eo (Bd (ue 9 n.toNat++b)))))))=decide (c=Eo (Bd (ue 9 n.toNat++b))):=by
        rw [cC,mU,H3 I ((Nh 9 _ eR).Lz (O.Lz (h9 _ hd v))),fW,P,bP,gz,gz]
        unfold AN
        rw [s,v,gz]
       simp only [bZ,gt_iff_lt,Nat.lt_irrefl,aH,aO,aJ,Y,aA,Q]
       by_cases o:c=Eo (Bd (ue 9 n.toNat++b))
       ·rw [VD b k eR]
        simp [o]
        by_cases hm:(Ei b).2=0
        ·simp [hm]
        ·simp [hm]
       ·simp [o]
theorem Ph {α:Type} (f:List Int→Int ⊕ (α×List Int)) (P:α→Prop) (hp:∀l,Dd l (f l)) (i:∀l x l',B8 l→l.length≤1000000→f l= .inr (x,l')→P x):∀(n:Nat) (l:List Int) (xs:List α) (l':List Int),B8 l→l.length≤1000000→oU f n l= .inr (xs,l')→∀x∈xs,P x
 | 0,l,xs,l',_,_,h=>by unfold oU at h; cases h; simp
 | n+1,l,xs,l',g,j,h=>by
  unfold oU at h
  cases a:f l with
  | inl e=>rw [a] at h; cases h
  | inr q=>
   obtain ⟨x,d⟩:=q
   obtain ⟨h1,k⟩:=g.part j (hp l) a
   rw [a] at h
   simp only [mS] at h
   cases hm:oU f n d with
   | inl e=>rw [hm] at h; cases h
   | inr q=>
    obtain ⟨ys,o⟩:=q
    have ih:=Ph f P hp i n d ys o h1 k hm
    rw [hm] at h
    cases h
    intro z c
    rcases aS.1 c with rfl | c
    ·exact i l _ d g j a
    ·exact ih z c
theorem M8 {α:Type} (f:List Int→Int ⊕ (α×List Int)) (hp:∀l,Dd l (f l)):∀(n:Nat) (l:List Int),Dd l (oU f n l)
 | 0,l=>λv l' e=>by unfold oU at e; cases e; exact ⟨0,Z⟩
 | n+1,l=>by
  unfold oU
  exact (hp l).Fg λx a=>(M8 f hp n a).Fg λxs c v l' e=>by cases e; exact ⟨0,Z⟩
theorem abI (l:List Int) (x:Signed) (l':List Int) (i:B8 l) (j:l.length≤1000000) (h:wD l= .inr (x,l')):B8 x.Tag:=by
 unfold wD at h
 cases a:FZ l with
 | inl e=>rw [a] at h; cases h
 | inr q=>
  obtain ⟨c,k⟩:=q
  obtain ⟨h1,n⟩:=i.part j (F3 l) a
  rw [a] at h
  simp only [mS] at h
  cases d:ux 8 k with
  | inl e=>rw [d] at h; cases h
  | inr q=>
   obtain ⟨t,o⟩:=q
   have g:=(HX h1 d).2.2
   rw [d] at h
   simp only at h
   split at h
   ·cases h; exact g
   ·cases h
def OE (s:List Signed):Prop:=(∀x∈s,B8 x.Tag)∧s.length≤8
theorem zG:OE []:=⟨fb,fb⟩
theorem ZQ {l:List Int} {w:List kL} {s:List Signed} {l':List Int} (i:B8 l) (y:l.length≤1000000) (h:zg l= .inr ((w,s),l')):OE s:=by
 refine ⟨?_,J7 i h⟩
 unfold zg at h
 cases h1:og 16 0 0 l with
 | inl e=>rw [h1] at h; cases h
 | inr q=>
  obtain ⟨a,j⟩:=q
  obtain ⟨n,o⟩:=i.part y (pC _ l 0 0) h1
  rw [h1] at h
  simp only [mS] at h
  cases c:oU rl a.toNat j with
  | inl e=>rw [c] at h; cases h
  | inr q=>
   obtain ⟨I,k⟩:=q
   obtain ⟨p,t⟩:=n.part o (M8 rl tV _ j) c
   rw [c] at h
   simp only [mS] at h
   cases d:og 8 0 0 k with
   | inl e=>rw [d] at h; cases h
   | inr q=>
    obtain ⟨b,z⟩:=q
    obtain ⟨u,v⟩:=p.part t (pC _ k 0 0) d
    rw [d] at h
    simp only [mS] at h
    cases g:oU wD b.toNat z with
    | inl e=>rw [g] at h; cases h
    | inr q=>
     obtain ⟨G,A⟩:=q
     have:=Ph wD (λx=>B8 x.Tag) JO abI _ _ _ _ u v g
     rw [g] at h
     cases h
     exact this
theorem aaG {l:List Int} {m:pd} {l':List Int} (p:B8 l) (t:l.length≤1000000) (h:Kj l= .inr (m,l')):OE m.mC:=by
 have c:∀{m j:pd} {l l':List Int},HP m l= .inr (j,l')→j=m:=λ{m j l l'} h=>by
  unfold HP at h
  split at h
  ·cases h; rfl
  ·cases h
 unfold Kj at h
 cases g:og vv 0 0 l with
 | inl e=>rw [g] at h; cases h
 | inr q=>
  obtain ⟨k,i⟩:=q
  obtain ⟨h1,o⟩:=p.part t (pC vv l 0 0) g
  rw [g] at h
  simp only [mS] at h
  split at h
  ·cases a:xl i with
   | inl e=>rw [a] at h; cases h
   | inr q=>
    obtain ⟨n,u⟩:=q
    rw [a] at h
    simp only [mS] at h
    cases hp:og 2 0 0 u with
    | inl e=>rw [hp] at h; cases h
    | inr q=>rw [hp] at h; rw [c h]; exact zG
  split at h
  ·cases d:zg i with
   | inl e=>rw [d] at h; cases h
   | inr q=>
    obtain ⟨⟨w,s⟩,v⟩:=q
    rw [d] at h
    rw [c h]
    exact ZQ h1 o d
  split at h
  ·cases a:og 99 0 0 i with
   | inl e=>rw [a] at h; cases h
   | inr q=>rw [a] at h; rw [c h]; exact zG
  ·rw [c h]; exact zG
theorem WT {l:List Int} (a:B8 l) (c:l.length≤1000000):OE (Ei l).1.mC:=by
 unfold Ei
 cases h:Kj l with
 | inl e=>exact zG
 | inr q=>
  obtain ⟨m,l'⟩:=q
  simp only
  split
  ·exact zG
  ·exact aaG a c h
theorem aaz {l:List Int} (a:B8 l) (d:l.length≤1000000):OE (pV l).2.1.mC:=by
 unfold pV
 split
 ·exact zG
 ·cases h:E2 l with
  | inl e=>exact zG
  | inr q=>
   obtain ⟨⟨n,b,c⟩,l'⟩:=q
   obtain ⟨_,h1,g,_⟩:=TO a d h
   simp only
   split
   ·exact zG
   split
   ·exact zG
   split
   ·exact zG
   ·exact WT h1 eR
theorem Oz {l:List Int} (h:(pV l).2.2≠0):(pV l).2.1.mC=[]∧(pV l).1=0:=by
 revert h
 unfold pV
 split
 ·intro _; exact ⟨Z,Z⟩
 ·cases E2 l with
  | inl e=>intro _; exact ⟨Z,Z⟩
  | inr q=>
   obtain ⟨⟨n,b,c⟩,l'⟩:=q
   simp only
   split
   ·intro _; exact ⟨Z,Z⟩
   split
   ·intro _; exact ⟨Z,Z⟩
   split
   ·intro _; exact ⟨Z,Z⟩
   ·intro h; exact absurd Z h
noncomputable section
def uU (l:List kK):List kK:=(zm l).getD []
theorem EK (l:List kK) (a:l.length≤1000000000):zm l=some (uU l)∧zK l=some (uU l)∧Rr l (uU l):=by
 obtain ⟨s,e,c⟩:=acb l a
 obtain ⟨t,d,g⟩:=Tw l a
 obtain rfl:=zU.unique Iv c g
 unfold uU
 rw [e]
 exact ⟨Z,d,c⟩
theorem LY {l:List kK} (a:l.length≤1000000000) (c:kK):c∈uU l↔c∈l∧mQ c=true:=(EK l a).2.2.2 c
theorem Vh {a b:List kK} (ha:a.length≤1000000000) (g:b.length≤1000000000) (h:∀c,mQ c=true→(c∈a↔c∈b)):uU a=uU b:=by
 obtain ⟨_,_,h1⟩:=EK a ha
 obtain ⟨_,_,d⟩:=EK b g
 refine zU.unique Iv h1 ⟨d.1,λc=>?_⟩
 rw [d.2]
 exact ⟨λ⟨p,q⟩=>⟨(h c q).2 p,q⟩,λ⟨p,q⟩=>⟨(h c q).1 p,q⟩⟩
def WG (a:List Key) (s:Signed):Bool:=@decide (WD a s) (Classical.propDecidable _)
def pM (a:List Key) (l:List Signed):List kK:=(l.filter (WG a)).map (·.kK)
theorem Dy (a:List Key) (l:List Signed):(pM a l).length≤l.length:=by unfold pM; rw [dw]; exact gj _ _
theorem GM (l:List kK) (d:l.length≤1000000000):(uU l).length≤l.length:=by
 obtain ⟨_,_,h⟩:=EK l d
 exact oE (zI Iv (λx g=>((h.2 x).1 g).2) h.1) λc a=>((h.2 c).1 a).1
theorem Ii (a:List Key) (hk:K8 a) (d:Bf [] a=0):∀(l:List Signed) (acc:List kK),(∀x∈l,B8 x.Tag)→acc.length+l.length≤100000000→
  pT (some ⟨vu a⟩) l acc=some (uU (acc++pM a l))∧vL a l acc=some (uU (acc++pM a l))
 | [],acc,_,j=>by
  have:=EK acc (by simp at j; omega)
  rw [pT,vL,this.1,this.2.1]
  simp [pM]
 | x::l,acc,g,j=>by
  obtain ⟨e,h1,o,n⟩:=Yb a hk d x (g x fb)
  rw [pT,vL,h1,o]
  simp only [aA]
  simp only [aM] at j
  by_cases he:e=0
  ·have i:WG a x=true:=by unfold WG; simpa using n.1 he
   have:=Ii a hk d l (acc++[x.kK]) (λz k=>g z (by simp [k])) fo
   rw [aP (by simpa using he),aP (by simpa using he),nL fo fo,aA,aA,this.1,this.2]
   have c:pM a (x::l)=x.kK::pM a l:=by unfold pM; rw [dv,aP i,bY]
   rw [c]
   simp
  ·have i:WG a x=false:=by unfold WG; simpa using λh=>he (n.2 h)
   have:=Ii a hk d l acc (λz k=>g z (by simp [k])) eR
   rw [aN (by simpa using he),aN (by simpa using he),this.1,this.2]
   have c:pM a (x::l)=pM a l:=by unfold pM; rw [dv,aN (by simp [i])]
   rw [c]
   exact ⟨Z,Z⟩
def LG (l:List nJ):Prop:=∀x∈l,B8 x.B∧x.B.length≤1000000
theorem LG.cons {x:nJ} {l:List nJ} (h:LG (x::l)):(B8 x.B∧x.B.length≤1000000)∧LG l:=⟨h x fb,λy a=>h y (by simp [a])⟩
def yp (x:nJ):List Signed:=(pV x.B).2.1.mC
theorem GC {x:nJ} (h:B8 x.B∧x.B.length≤1000000):OE (yp x):=aaz h.1 h.2
theorem Rs {x:nJ} (h:B8 x.B∧x.B.length≤1000000):zd x=some (yp x):=by
 unfold zd yp
 rw [Ks x.B h.1 h.2,aA]
 by_cases he:(pV x.B).2.2=0
 ·rw [aN (by simpa using he)]
 ·rw [aP (by simpa using he),(Oz he).1]
theorem JX {x:nJ} (h:B8 x.B∧x.B.length≤1000000):vE (su x.B)=some (pV x.B):=by rw [uy]; exact Ww x.B h.1 h.2
def Bk (l:List nJ):List Signed:=(l.filter λx=>!x.Out).flatMap yp
theorem IF (x:nJ) (l:List nJ):Bk (x::l)=(if x.Out then [] else yp x)++Bk l:=by
 unfold Bk
 rw [dv]
 cases x.Out <;> simp
def Ht (l:List nJ):List Signed:=(l.filter λx=>x.Out).flatMap yp
theorem UF (x:nJ) (l:List nJ):Ht (x::l)=(if x.Out then yp x else [])++Ht l:=by
 unfold Ht
 rw [dv]
 cases x.Out <;> simp
theorem Qc:∀(l:List nJ),LG l→(∀x∈Bk l,B8 x.Tag)∧(Bk l).length≤8*l.length
 | [],_=>by simp [Bk]
 | x::l,h=>by
  obtain ⟨h1,c⟩:=h.cons
  have ih:=Qc l c
  have a:=GC h1
  rw [IF]
  cases x.Out
  ·simp only [aB,aH]
   refine ⟨λy d=>(aX.1 d).elim (a.1 y) (ih.1 y),?_⟩
   have:=a.2; have:=ih.2
   simp only [aF,aM]; omega
  ·simp only [aJ,bN]
   exact ⟨ih.1,by have:=ih.2; simp only [aM]; omega⟩
theorem OA (a:List Key) (hk:K8 a) (c:Bf [] a=0):∀(l:List nJ) (acc:List Signed),LG l→(∀x∈acc,B8 x.Tag)→acc.length+8*l.length≤10000000→
  vM (some ⟨vu a⟩) l acc=some (uU (pM a (acc++Bk l)))
 | [],acc,_,ha,d=>by
  have:=(Ii a hk c acc [] ha (by simp at d ⊢; omega)).1
  rw [vM]
  unfold vY
  rw [this]
  simp [Bk]
 | x::l,acc,h,ha,d=>by
  obtain ⟨h1,g⟩:=h.cons
  have i:=GC h1
  have j:=i.2
  simp only [aM] at d
  rw [vM,IF]
  cases x.Out
  ·simp only [cX,aJ,aB,aH]
   rw [Rs h1,aA,nL eR eR,aA,OA a hk c l _ g (λy k=>(aX.1 k).elim (ha y) (i.1 y)) (by rw [aF]; omega),aQ]
  ·simp only [bR,aB,aH,aJ,bN]
   exact OA a hk c l acc g ha eR
def ta (a:List Key) (l:List nJ):List kK:=(l.filter λx=>!x.Out).flatMap λx=>uU (pM a (yp x))
theorem IW (a:List Key) (x:nJ) (l:List nJ):ta a (x::l)=(if x.Out then [] else uU (pM a (yp x)))++ta a l:=by
 unfold ta
 rw [dv]
 cases x.Out <;> simp
theorem Fw (a:List Key):∀(l:List nJ),LG l→(ta a l).length≤8*l.length
 | [],_=>by simp [ta]
 | x::l,h=>by
  obtain ⟨h1,c⟩:=h.cons
  have ih:=Fw a l c
  have d:=(GC h1).2
  have:=GM (pM a (yp x)) (by have:=Dy a (yp x); omega)
  have:=Dy a (yp x)
  rw [IW]
  cases x.Out <;> simp <;> omega
theorem Pf (d:List Key):∀(l:List nJ),LG l→∀c,mQ c=true→(c∈ta d l↔c∈pM d (Bk l))
 | [],_,c,_=>by simp [ta,Bk,pM]
 | x::l,h,c,g=>by
  obtain ⟨h1,i⟩:=h.cons
  have ih:=Pf d l i c g
  have k:=(GC h1).2
  have j:∀a b,pM d (a++b)=pM d a++pM d b:=λa b=>by unfold pM; rw [fV,cV]
  rw [IW,IF,j,aX,aX,ih]
  have:c∈(if x.Out=true then [] else uU (pM d (yp x)))↔c∈pM d (if x.Out=true then [] else yp x):=by
   cases x.Out
   ·simp only [aB,aH]
    rw [LY (by have:=Dy d (yp x); omega)]
    exact ⟨λh=>h.1,λh=>⟨h,g⟩⟩
   ·simp [pM]
  rw [this]
theorem GH (a:List Key) (hk:K8 a) (c:Bf [] a=0):∀(l:List nJ) (acc:List kK),LG l→acc.length+8*l.length≤10000000→
  vO a l acc=some (uU (acc++ta a l))
 | [],acc,_,i=>by
  have:=EK acc (by simp at i; omega)
  rw [vO,this.2.1]
  simp [ta]
 | x::l,acc,h,i=>by
  obtain ⟨h1,d⟩:=h.cons
  have j:=GC h1
  have n:=j.2
  have p:=Dy a (yp x)
  have o:=GM (pM a (yp x)) eR
  simp only [aM] at i
  rw [vO,IW,JX h1,aA]
  cases q:x.Out
  ·simp only [cX,aJ,aB,aH,aA]
   by_cases he:(pV x.B).2.2=0
   ·rw [aP (by simpa using he)]
    have g:GA a (pV x.B).2.1.mC=some (uU (pM a (yp x))):=(Ii a hk c (yp x) [] j.1 fo).2
    rw [g,aA,nL eR eR,aA,GH a hk c l _ d (by rw [aF]; omega),aQ]
   ·rw [aN (by simpa using he),GH a hk c l acc d eR]
    have:yp x=[]:=(Oz he).1
    have k:uU (pM a (yp x))=[]:=by
     rw [this]
     have:=GM (pM a []) (by simp [pM])
     exact dX.1 (by simpa [pM] using this)
    rw [k,bN]
  ·simp only [bR,aB,aH,aJ,aA,bN]
   exact GH a hk c l acc d eR
theorem XT (a:List Key) (l:List nJ) (h:LG l) (g:l.length≤100000):uU (ta a l)=uU (pM a (Bk l)):=by
 have h1:=Fw a l h
 have c:=(Qc l h).2
 have d:=Dy a (Bk l)
 exact Vh eR eR (Pf a l h)
theorem TC:∀(s:List Signed) (acc:List kK),acc.length+s.length≤100000000→xR s acc=some (acc++s.map (·.kK))∧vX s acc=some (acc++s.map (·.kK))
 | [],acc,_=>by rw [xR,vX]; simp
 | x::s,acc,h=>by
  simp only [aM] at h
  have:=TC s (acc++[x.kK]) fo
  rw [xR,vX,nL fo fo,aA,aA,this.1,this.2]
  simp
theorem Oy:∀(l:List nJ) (acc:List kK),LG l→acc.length+8*l.length≤10000000→
  vC l acc=some (uU (acc++(Ht l).map (·.kK)))∧wo l acc=some (uU (acc++(Ht l).map (·.kK)))
 | [],acc,_,a=>by
  have:=EK acc (by simp at a; omega)
  rw [vC,wo,this.1,this.2.1]
  simp [Ht]
 | x::l,acc,h,a=>by
  obtain ⟨h1,d⟩:=h.cons
  have i:=(GC h1).2
  simp only [aM] at a
  rw [vC,wo,UF,JX h1,aA]
  cases j:x.Out
  ·have:=Oy l acc d eR
   simp only [aB,aH,aA,bN]
   exact this
  ·simp only [aJ,aA]
   have e:=TC (yp x) acc eR
   have:=Oy l (acc++(yp x).map (·.kK)) d (by rw [aF,dw]; omega)
   rw [Rs h1,aA,e.1,aA,this.1]
   refine ⟨fb,?_⟩
   by_cases he:(pV x.B).2.2=0
   ·have g:vX (pV x.B).2.1.mC acc=some (acc++(yp x).map (·.kK)):=e.2
    rw [aP (by simpa using he),g,aA,this.2]
    simp
   ·have c:yp x=[]:=(Oz he).1
    rw [c] at this
    rw [aN (by simpa using he),c]
    simpa using this.2
def F0 (l:List nJ):List Int:=(l.filter λx=>x.Out).map λx=>(pV x.B).1
theorem OJ:∀(l:List nJ) (acc:List Int),LG l→acc.length+l.length≤10000000→
  tG l acc=some (acc++F0 l)∧tE l acc=some (acc++F0 l)
 | [],acc,_,c=>by rw [tG,tE]; simp [F0]
 | x::l,acc,h,c=>by
  obtain ⟨h1,a⟩:=h.cons
  simp only [aM] at c
  rw [tG,tE,JX h1,aA,Ks x.B h1.1 h1.2,aA]
  unfold F0
  rw [dv]
  cases d:x.Out
  ·simp only [aB,aH]
   exact OJ l acc a eR
  ·have:=OJ l (acc++[(pV x.B).1]) a fo
   simp only [aJ]
   rw [nL fo fo,aA,aA,this.1,this.2]
   simp [F0]
end
end Go.Proofs.YtlfibegniofmjaaGreat
namespace Go.Proofs.YtlfibegniofmjaaGreat
open Go.Proofs.Tryz renaming prog → pg0
open Go.RowKit
theorem RW {l m:List kK} (h:∀c∈l,mQ c=true→c∈m) (peer:ByteArray) (r:kL) (d:vD l peer r=true):vD m peer r=true:=by
 rw [Wb] at *
 exact d.mono (λc a=>by rw [dV] at *; exact ⟨h c a.1 a.2,a.2⟩)
end Go.Proofs.YtlfibegniofmjaaGreat
namespace Go.Proofs.YtlfibegniofmjaaGreat
open Go.Proofs.Tryz renaming prog → pg0
open Go.RowKit Go.Lib
noncomputable def ES (p:mW) (s:Signed):Bool:=match AG p s.kK with
 | none=>false
 | some x=>mx (su x.Signed.Tag) (su s.Tag)
theorem aaQ (p:mW) (peer:ByteArray) (g:Option mN) (a:List kK) (n:Int) (last:List Int) (s:Signed):yn p peer g a n last s=some (ES p s):=by
 unfold yn ES AG
 induction p.nK with
 | nil=>rfl
 | cons x l ih=>
  rw [wF,fB]
  cases h:nE x.Signed.kK s.kK
  ·simp only [aB,aH]; exact ih
  ·simp only [aJ]; rfl
theorem aa1 (p:mW) (c:kK):D4 p c=some (match AG p c with | none=>((⟨⟨0,⟨zS,zS⟩,zS,⟨zS,zS⟩,⟨zS,zS⟩,zS⟩,[]⟩:Signed),false) | some x=>(x.Signed,true)):=by
 unfold D4 AG
 induction p.nK with
 | nil=>rfl
 | cons x l ih=>
  rw [Bp,fB]
  cases h:nE x.Signed.kK c
  ·simp only [aB,aH]; exact ih
  ·simp only [aJ]
noncomputable def LU (p:mW) (v:kL→Bool) (l:List Signed):Int :=
 if l.all (ES p) then if l.all (λx=>MG p v x.kK) then 0 else 44 else 42
theorem VK (p:mW) (hp:PB p) (peer:ByteArray) (v:kL→Bool) (m:((List (kL×(List (ByteArray×Bool))))×(List kK)×(List (kL×(List kK)))×(List (ByteArray×(List kK)))×(List lx)×Int)) (c:∀r,tF m.1 m.2.1 m.2.2.1 m.2.2.2.1 m.2.2.2.2.1 m.2.2.2.2.2 r peer=some (v r)) (g:Option mN) (a:List kK) (n:Int) (last:List Int) :
  ∀l:List Signed,pQ p m peer g a n last l=some (if l.all (λx=>MG p v x.kK) then .inr () else .inl 44)
 | []=>by rw [pQ]; rfl
 | x::l=>by
  have ih:=VK p hp peer v m c g a n last l
  rw [pQ,aaZ p hp,ih,fp]
  simp only [aA]
  unfold MG
  by_cases h:(rJ p x.kK).2=0
  ·have j:=OM p x.kK
   have i:=Z1 v (λr=>um r m.1 m.2.1 m.2.2.1 m.2.2.2.1 m.2.2.2.2.1 m.2.2.2.2.2 p peer g a n last) (λr=>by unfold um; rw [c]; rfl) (rJ p x.kK).1 (by unfold Gd; omega)
   have e:((rJ p x.kK).2 != 0)=false:=by simp [h]
   have d:(⟨(rJ p x.kK).1.Op,(rJ p x.kK).1.K,(rJ p x.kK).1.kL,(rJ p x.kK).1.Kids⟩:Formula)=(rJ p x.kK).1:=by cases (rJ p x.kK).1; rfl
   simp only [e,aB,aH,d,i,aA,h,cD,eP]
   cases MN v (rJ p x.kK).1 <;> simp
  ·have e:((rJ p x.kK).2 != 0)=true:=by simpa using h
   simp only [e,aJ,aA,h,cE,gw,aB,aH]
theorem WA (p:mW) (hp:PB p) (peer:ByteArray) (g:Option mN) (c:List kK) (n:Int) (last:List Int) (h:c.length≤30000) (a:List Signed) :
  ∀l:List Signed,pS p peer g c n last a l=some (if l.all (ES p) then if a.all (λx=>MG p (vD c peer) x.kK) then 0 else 44 else 42)
 | []=>by
  obtain ⟨F,d⟩:=abh c h
  obtain ⟨m,e,_,hm⟩:=d.mdl
  have i:∀r,tF m.1 m.2.1 m.2.2.1 m.2.2.2.1 m.2.2.2.2.1 m.2.2.2.2.2 r peer=some (vD c peer r):=λr=>by
   rw [hm,←Yn d peer]; rfl
  rw [pS,e,aA,VK p hp peer _ m i]
  simp only [aA,List.all_nil,aJ]
  cases a.all λx=>MG p (vD c peer) x.kK <;> rfl
 | x::l=>by
  have ih:=WA p hp peer g c n last h a l
  rw [pS,aaQ,aA,ih,fp]
  cases ES p x <;> simp
theorem aag (p:mW) (hp:PB p) (peer:ByteArray) (g:Option mN) (a:List kK) (n:Int) (last:List Int) (c:a.length≤30000) (l:List Signed) :
  vQ p peer g a n last l=some (LU p (vD a peer) l):=by
 unfold vQ LU
 exact WA p hp peer g a n last c l l
theorem Tc (p:mW):∀l:List Signed,wS p l=some (if l.all (ES p) then .inr () else .inl 42)
 | []=>by rw [wS]; rfl
 | x::l=>by
  have ih:=Tc p l
  rw [wS,aa1,aA,ih,fp]
  have a:ES p x=(match AG p x.kK with | none=>false | some y=>mx (su y.Signed.Tag) (su x.Tag)):=rfl
  rw [a]
  generalize l.all (ES p)=d
  cases AG p x.kK with
  | none=>simp
  | some y=>simp only [bR,aB,aH,aA]; by_cases c:mx (su y.Signed.Tag) (su x.Tag)=true <;> simp [c]
theorem SY (p:mW) (hp:PB p) (a:List kL):∀l:List Signed,wP p a l=some (if l.all (λx=>MG p (uX lJ a) x.kK) then .inr () else .inl 44)
 | []=>by rw [wP]; rfl
 | x::l=>by
  have ih:=SY p hp a l
  have g:=OM p x.kK
  have d:=B5 (rJ p x.kK).1
  rw [wP,abL p hp,aA,abA a lP _ (by rw [nV]; omega) (by unfold Gd; omega),ih,fp]
  unfold MG
  by_cases h:(rJ p x.kK).2=0
  ·have c:=(Vj h).1
   have e:((rJ p x.kK).2 != 0)=false:=by simp [h]
   unfold MN
   simp only [e,aB,aH,aA,h,cD,eP,c]
   cases wB (uX lJ a) (rJ p x.kK).1 <;> simp
  ·have e:((rJ p x.kK).2 != 0)=true:=by simpa using h
   simp only [e,aJ,aA,h,cE,gw,aB,aH]
noncomputable def zQ (s:Int×List Int) (x:nJ):Int×List Int:=if x.Out=true∧s.1≤(pV x.B).1 then ((pV x.B).1,x.B) else s
noncomputable def se (l:List nJ):Int×List Int:=l.foldl zQ (0,[])
theorem NC (l:List nJ) (x:nJ):se (l++[x])=zQ (se l) x:=by unfold se; rw [List.foldl_append]; rfl
theorem TH:∀(l:List nJ) (s:Int×List Int),LG l→B8 s.2→B8 (l.foldl zQ s).2
 | [],s,_,h=>h
 | x::l,s,c,h=>by
  obtain ⟨h1,a⟩:=c.cons
  refine TH l _ a ?_
  unfold zQ
  split
  ·exact h1.1
  ·exact h
theorem ZN {l:List nJ} (h:LG l):B8 (se l).2:=TH l _ h (λx a=>by cases a)
noncomputable def Is (p:mW) (peer:ByteArray) (a:List Key) (pre:List nJ) (b:List Int):Int :=
 if (pV b).2.2≠0 then 11 else if (pV b).1 < (se pre).1 then 43 else if (pV b).1=(se pre).1∧b≠(se pre).2 then 41 else LU p (vD (ta a pre) peer) (pV b).2.1.mC
theorem aaA {l:List kK} (d:l.length≤1000000000) (peer:ByteArray):vD (uU l) peer=vD l peer:=by
 funext r
 rw [cC]
 exact ⟨RW (λc a _=>((LY d c).1 a).1) peer r,RW (λc a g=>(LY d c).2 ⟨a,g⟩) peer r⟩
theorem O4 (p:mW) (hp:PB p) (peer:ByteArray) (a:List Key) (hk:K8 a) (t:Bf [] a=0) (pre:List nJ) (o:LG pre) (z:pre.length≤3000) (b:List Int) (u:B8 b) (he:(pV b).2.2=0) :
  ∀(l:List nJ) (s:Int×List Int),LG l→B8 s.2→tH (pV b) (mH b) p a pre peer l s.1 (mH s.2) =
   some (if (pV b).1 < (l.foldl zQ s).1 then 43 else if (pV b).1=(l.foldl zQ s).1∧b≠(l.foldl zQ s).2 then 41 else LU p (vD (ta a pre) peer) (pV b).2.1.mC)
 | [],s,_,j=>by
  show tH (pV b) (mH b) p a pre peer [] s.1 (mH s.2)=some (if (pV b).1 < s.1 then 43 else if (pV b).1=s.1∧b≠s.2 then 41 else LU p (vD (ta a pre) peer) (pV b).2.1.mC)
  have n:=GH a hk t pre [] o fo
  have hlen:=Fw a pre o
  have G:=GM (ta a pre) eR
  have n:BD a pre=some (uU (ta a pre)):=n
  obtain ⟨F,k⟩:=abh (uU (ta a pre)) eR
  have w:=k.len
  have A:mx (mH b) (mH s.2)=decide (b=s.2):=by rw [cC,mU,H3 u j,fW]
  rw [tH,Tc,n]
  simp only [aA,k.ref,show AO F peer=some (QS F peer) from aac F peer eR,SY p hp,WQ,Yn k,aaA (show (ta a pre).length≤1000000000 by omega),A]
  by_cases h1:(pV b).1 < s.1
  ·simp [h1]
  ·simp only [h1,cE,aB,aH]
   by_cases d:(pV b).1=s.1
   ·have a2:((pV b).1==s.1)=true:=by simpa using d
    by_cases i:b=s.2
    ·have e:(decide (b=s.2))=true:=by simpa using i
     have a3:¬((pV b).1=s.1∧b≠s.2):=λq=>q.2 i
     simp only [a2,aJ,e,bR,aB,aH,aA]
     unfold LU
     by_cases c:(pV b).2.1.mC.all (ES p)=true
     ·by_cases g:(pV b).2.1.mC.all (λx=>MG p (vD (ta a pre) peer) x.kK)=true
      ·simp only [c,g,aJ]; rw [aN a3]
      ·simp only [c,g,aJ,aH,aB]; rw [aN a3]
     ·simp only [c,aH,aB]; rw [aN a3]
    ·have e:(decide (b=s.2))=false:=by simpa using i
     have a3:((pV b).1=s.1∧b≠s.2):=⟨d,i⟩
     simp only [a2,aJ,e,cX,aA]; rw [aP a3]
   ·have e:((pV b).1==s.1)=false:=by simpa using d
    have a3:¬((pV b).1=s.1∧b≠s.2):=λq=>d q.1
    simp only [e,aB,aH,aA]
    unfold LU
    by_cases c:(pV b).2.1.mC.all (ES p)=true
    ·by_cases g:(pV b).2.1.mC.all (λx=>MG p (vD (ta a pre) peer) x.kK)=true
     ·simp only [c,g,aJ]; rw [aN a3]
     ·simp only [c,g,aJ,aH,aB]; rw [aN a3]
    ·simp only [c,aH,aB]; rw [aN a3]
 | x::l,s,y,j=>by
  obtain ⟨h1,d⟩:=y.cons
  rw [tH,JX h1,aA,fA]
  have ih:=λs h=>O4 p hp peer a hk t pre o z b u he l s d h
  cases v:x.Out
  ·simp only [aB,aH,aA]
   have e:zQ s x=s:=by unfold zQ; rw [aN (by simp [v])]
   rw [e]; exact ih s j
  ·simp only [aJ,aA]
   by_cases h:s.1≤(pV x.B).1
   ·have e:zQ s x=((pV x.B).1,x.B):=by unfold zQ; rw [aP ⟨v,h⟩]
    rw [aP (by simpa using h),e,uy]
    exact ih ((pV x.B).1,x.B) h1.1
   ·have e:zQ s x=s:=by unfold zQ; rw [aN (by simp [h])]
    rw [aN (by simpa using h),e]; exact ih s j
theorem aaE (p:mW) (hp:PB p) (peer:ByteArray) (a:List Key) (hk:K8 a) (d:Bf [] a=0) (pre:List nJ) (c:LG pre) (g:pre.length≤3000) (x:nJ) (h:B8 x.B∧x.B.length≤1000000) :
  CU p peer a pre (su x.B)=some (Is p peer a pre x.B):=by
 unfold CU Is
 rw [JX h,aA]
 by_cases he:(pV x.B).2.2=0
 ·rw [aN (by simpa using he),aN (by simpa using he),uy]
  exact O4 p hp peer a hk d pre c g x.B h.1 he pre (0,[]) c (λy i=>by cases i)
 ·rw [aP (by simpa using he),aP he]
theorem aap (p:mW) (hp:PB p) (peer:ByteArray) (a:List Key) (pre:List nJ) (k:LG pre) (q:pre.length≤3000) (x:nJ) (h:B8 x.B∧x.B.length≤1000000) (o:x.Out=true) :
  ∃s,xM p peer (some ⟨vu a⟩) (ta a pre) (se pre).1 (se pre).2 x.B=some (Is p peer a pre x.B,s.1,s.2)∧(Is p peer a pre x.B=0→s=se (pre++[x])):=by
 have hlen:=Fw a pre k
 unfold xM Is
 rw [Ks x.B h.1 h.2,aA,NC]
 by_cases he:(pV x.B).2.2=0
 ·have g:((pV x.B).2.2 != 0)=false:=by simp [he]
  simp only [g,he,aB,aH,ne_eq,not_true_eq_false]
  by_cases h1:(pV x.B).1 < (se pre).1
  ·simp only [h1,cD,aJ]
   exact ⟨(_,_),Z,λh=>by cases h⟩
  ·simp only [h1,cE,aB,aH]
   have j:zQ (se pre) x=((pV x.B).1,x.B):=by unfold zQ; rw [aP ⟨o,eR⟩]
   have n:pY x.B (se pre).2=some (decide (x.B=(se pre).2)):=by
    unfold pY
    rw [uy,uy]
    congr 1
    rw [cC,mU,H3 h.1 (ZN k),fW]
   rw [n,aag p hp peer _ _ _ _ eR,j]
   simp only [aA]
   by_cases c:(pV x.B).1=(se pre).1
   ·have a2:((pV x.B).1==(se pre).1)=true:=by simpa using c
    by_cases d:x.B=(se pre).2
    ·have e:(decide (x.B=(se pre).2))=true:=by simpa using d
     have a3:¬((pV x.B).1=(se pre).1∧¬x.B=(se pre).2):=λi=>i.2 d
     simp only [a2,aJ,e,bR,aB,aH,aA,aN a3]
     exact ⟨(_,_),Z,λ_=>rfl⟩
    ·have e:(decide (x.B=(se pre).2))=false:=by simpa using d
     have a3:((pV x.B).1=(se pre).1∧¬x.B=(se pre).2):=⟨c,d⟩
     simp only [a2,aJ,e,cX,aA,aP a3]
     exact ⟨(_,_),Z,λh=>by cases h⟩
   ·have e:((pV x.B).1==(se pre).1)=false:=by simpa using c
    have a3:¬((pV x.B).1=(se pre).1∧¬x.B=(se pre).2):=λi=>c i.1
    simp only [e,aB,aH,aA,aN a3]
    exact ⟨(_,_),Z,λ_=>rfl⟩
 ·have g:((pV x.B).2.2 != 0)=true:=by simpa using he
  simp only [g,aJ,ne_eq,he,not_false_eq_true]
  exact ⟨(_,_),Z,λh=>by cases h⟩
theorem Zf {a c:Int} (h:0≤a∧a≤c):rr (decide (0≤a)&&decide (a≤c))=some ():=by
 unfold rr
 simp [h.1,h.2]
theorem Ns (a:List Key) (l:List nJ) (x:nJ):ta a (l++[x])=ta a l++(if x.Out then [] else uU (pM a (yp x))):=by
 unfold ta
 rw [fV,gJ]
 congr 1
 rw [dv]
 cases x.Out <;> simp
theorem LG.Lz {a b:List nJ} (h:LG (a++b)):LG a∧LG b:=⟨λx c=>h x (cN _ c),λx c=>h x (dI _ c)⟩
theorem QW (p:mW) (hp:PB p) (peer:ByteArray) (a:List Key) (hk:K8 a) (j:Bf [] a=0) (all:List nJ) (n:LG all) (t:all.length≤3000) :
  ∀(l pre:List nJ),all=pre++l→∃v,tI (some ⟨vu a⟩) p peer all l pre.length (ta a pre) (se pre).1 (se pre).2=some v∧tm all p peer a l pre.length=some v
 | [],pre,e=>⟨_,by rw [tI],by rw [tm]⟩
 | x::l,pre,e=>by
  have c:=n
  rw [e] at c
  obtain ⟨g1,g2⟩:=LG.Lz c
  obtain ⟨h1,A⟩:=LG.cons g2
  have G:pre.length+(l.length+1)=all.length:=by rw [e]; simp
  have ih:=QW p hp peer a hk j all n t l (pre++[x]) (by rw [e]; simp)
  rw [aF] at ih
  have ih:∃v,tI (some ⟨vu a⟩) p peer all l (pre.length+1) (ta a (pre++[x])) (se (pre++[x])).1 (se (pre++[x])).2=some v∧tm all p peer a l (pre.length+1)=some v:=ih
  have hlen:=Fw a pre g1
  rw [tI,tm]
  cases g:x.Out
  ·obtain ⟨v,i1,i2⟩:=ih
   have d:=GC h1
   have k:vY (some ⟨vu a⟩) (yp x)=some (uU (pM a (yp x))):=(Ii a hk j (yp x) [] d.1 (by have:=d.2; simp; omega)).1
   have u:=Dy a (yp x)
   have w:=GM (pM a (yp x)) (by have:=d.2; omega)
   have y:=d.2
   simp only [cX,aJ]
   rw [Rs h1,aA,k,aA,nL eR eR,aA]
   have i:ta a (pre++[x])=ta a pre++uU (pM a (yp x)):=by rw [Ns]; simp [g]
   have el:se (pre++[x])=se pre:=by rw [NC]; unfold zQ; rw [aN (by simp [g])]
   rw [i,el] at i1
   exact ⟨v,i1,i2⟩
  ·simp only [bR,aB,aH]
   obtain ⟨s,o,q⟩:=aap p hp peer a pre g1 eR x h1 g
   have hw:=aaE p hp peer a hk j pre g1 eR x h1
   have z:all.take (Int.toNat ((pre.length:Nat):Int))=pre:=by rw [e]; simp
   rw [o,aA,z,hw,Zf fo,aA,aA]
   simp only
   by_cases h:Is p peer a pre x.B=0
   ·rw [aN (by simpa using h),aN (by simpa using h),q h]
    obtain ⟨v,i1,i2⟩:=ih
    have i:ta a (pre++[x])=ta a pre:=by rw [Ns]; simp [g]
    rw [i] at i1
    exact ⟨v,i1,i2⟩
   ·rw [aP (by simpa using h),aP (by simpa using h)]
    exact ⟨_,Z,Z⟩
def Dc:List nJ→Nat
 | []=>0
 | x::l=>20+x.B.length+Dc l
theorem Tl:∀(l:List nJ) (n:Nat),n+Dc l≤1000000000→wR l (n:Int)=some (decide (((n+Dc l:Nat):Int) > 8000))
 | [],n,_=>by rw [wR]; rfl
 | x::l,n,h=>by
  unfold Dc at h
  have a:IntKind.i64.wrap (20+(x.B.length:Int))=((20+x.B.length:Nat):Int):=by rw [mr eR eR]; omega
  have c:IntKind.i64.wrap ((n:Int)+((20+x.B.length:Nat):Int))=((n+(20+x.B.length):Nat):Int):=by rw [mr eR eR]; omega
  rw [wR,a,c,Tl l _ eR,Dc,eL]
theorem Q5:∀l:List nJ,20*l.length≤Dc l
 | []=>by simp
 | x::l=>by have:=Q5 l; rw [Dc,aM]; omega
theorem QJ:∀(l:List nJ),∀x∈l,x.B.length≤Dc l
 | y::l,x,h=>by
  rw [Dc]
  rcases aS.1 h with rfl | h
  ·omega
  ·have:=QJ l x h; omega
theorem Lt (a:List Int) (p:mW) (c:Option mN×Int) (g:List nJ) (d:List Key) (R:Option Bool) (h:sa a p c g d [] a.length=R):∀(l pre:List Int),a=pre++l→sa a p c g d l pre.length=R
 | [],pre,e=>by
  have i:a=pre:=by rw [e]; simp
  rw [←h]
  rw [i]
 | x::l,pre,e=>by
  have hi:mT a ((pre.length:Nat):Int)=some x:=by rw [e,Ge]; simp
  have ih:=Lt a p c g d R h l (pre++[x]) (by rw [e]; simp)
  rw [aF] at ih
  rw [sa,hi,aA,aN fb]
  exact ih
theorem MU (u:CR=some true) (p:mW) (hp:PG p) (c:List Key) (hk:K8 c) (a:List nJ) (t:∀x∈a,B8 x.B) (z:Dc a≤1000000000):zt p c a=some true:=by
 unfold zt
 rw [u,aA,Y5,aA]
 obtain ⟨r,w⟩:=Zl p hp
 have j:CO a=some (decide (((Dc a:Nat):Int) > 8000)):=by
  have:=Tl a 0 eR
  unfold CO
  simpa using this
 rw [w,aA,j]
 simp only [bR,aB,aH,aA]
 by_cases h1:r > 4000
 ·simp [h1]
 by_cases o:((Dc a:Nat):Int) > 8000
 ·simp [h1,o]
 simp only [h1,o,cE,aB,aH,aA]
 by_cases i:Bf [] c=0
 ·have hlen:=Q5 a
  have d:LG a:=λx q=>⟨t x q,by have:=QJ a x q; omega⟩
  obtain ⟨g,h⟩:=OJ a [] d fo
  have g:Bs a=some (F0 a):=g
  have h:Ej a=some (F0 a):=h
  simp only [i,aJ,bne_self_eq_false,aB,aH]
  rw [g,h]
  simp only [aA,bne_self_eq_false,aB,aH]
  refine Lt (F0 a) p _ a c (some true) ?_ (F0 a) [] Z
  obtain ⟨v,c1,c2⟩:=QW p hp.toPB (⟨#[98,111,98]⟩:ByteArray) c hk i a d eR a [] Z
  have c1:zc p (⟨#[98,111,98]⟩:ByteArray) (some ⟨vu c⟩) a=some v:=c1
  have c2:FE p (⟨#[98,111,98]⟩:ByteArray) c a=some v:=c2
  have s:DD (some ⟨vu c⟩) a=some (uU (pM c (Bk a))):=OA c hk i a [] d fb fo
  have a2:BD c a=some (uU (pM c (Bk a))):=by
   have:=GH c hk i a [] d fo
   rw [←XT c a d eR]
   exact this
  obtain ⟨k,n⟩:=Oy a [] d fo
  have k:DX a=some (uU ((Ht a).map (·.kK))):=k
  have n:GD a=some (uU ((Ht a).map (·.kK))):=n
  rw [sa,c1,c2,s,a2,k,n]
  have y:AD v v=true:=Ou.2 Z
  simp only [aA,y,aJ,abY]
 ·simp [i]
theorem XW:CR=some true:=by decide +kernel
end Go.Proofs.YtlfibegniofmjaaGreat
namespace Go.Proofs.YtlfibegniofmjaaGreat.Lf
open Go.ChangeShapes Go.WideShapes Go.ChangeAt Go.RowKit
open Go.Proofs.YtlfibegniofmjaaGreat (Rows.uptoBulk Rows.uptoBulkAll Rows.uptoSmall)
theorem abg {H:Type} (d:DataW H):1≤Rows.uptoBulk d:=by
 cases d with
 | lit l=>cases l <;> simp [Rows.uptoBulk]
 | nil=>simp [Rows.uptoBulk]
 | ptr d=>simp [Rows.uptoBulk]
 | slice a spare=>simp [Rows.uptoBulk]
 | agg parts=>simp [Rows.uptoBulk]
 | iface t d=>simp [Rows.uptoBulk]
 | map entries=>simp [Rows.uptoBulk]
 | held h=>simp [Rows.uptoBulk]
def NU {α:Type} (P:Program) (t:TypeId) (enc:α→List Value) (sz:α→Nat):Prop :=
 ∀(H:Type) (c:TypeId×Value→H) (W:World) (base:Nat) (sp:Nat→Bool) (d:Bool) (fuel:Nat) (cs:List Value) (x:DataW H×List MemPlace),
  DataW.trod c P W base sp d fuel t cs=some x→∃a:α,cs=enc a∧sz a≤Rows.uptoBulk x.1
theorem T7 {P:Program} {t:TypeId} (a:P.underlying t=some .string):NU P t (λs:ByteArray=>[.string s]) (λs=>s.size):=by
 intro H c W base sp d fuel cs x h
 obtain ⟨s,rfl,rfl,_⟩:=DataW.trod_string a h
 refine ⟨s,Z,?_⟩
 have e:s.data.toList.length=s.size:=by rw [dS]; rfl
 simp [Rows.uptoBulk,e]
theorem Zx {P:Program} {t:TypeId} {k:IntKind} (a:P.underlying t=some (.int k)):NU P t (λn:Int=>[.int k n]) (λ_=>0):=by
 intro H c W base sp d fuel cs x h
 obtain ⟨n,rfl,rfl,_⟩:=DataW.trod_int a h
 exact ⟨n,Z,eG _⟩
theorem ZP {α:Type} {n:Nat} {p:Nat→α→Prop} (h:∀i,i < n→∃x,p i x):∃l:List α,l.length=n∧∀i x,l[i]? =some x→p i x:=by
 induction n with
 | zero=>exact ⟨[],Z,fb⟩
 | succ n ih=>
  obtain ⟨l,h1,c⟩:=ih λi hi=>h i eR
  obtain ⟨x,g⟩:=h n eR
  refine ⟨l++[x],by simp [h1],λi y a=>?_⟩
  by_cases hi:i < l.length
  ·rw [gF hi] at a
   exact c i y a
  ·rw [ft eR] at a
   have:i-l.length=0:=by
    cases d:i-l.length with
    | zero=>rfl
    | succ m=>rw [d] at a; simp at a
   rw [this] at a
   have e:i=n:=by omega
   simp at a
   subst a; rw [e]; exact g
theorem QX {W:World} {a:Addr} {v:Value} (h:W.cell? a=some v):∃cs T fr,W.heap[a.block]? =some (.cells cs T fr)∧a.spot=none∧cs[a.off]? =some v:=by
 unfold World.cell? at h
 split at h
 ·rename_i c T fr g
  by_cases d:a.spot.isSome
  ·simp [d] at h
  ·simp only [d] at h
   exact ⟨c,T,fr,g,by simpa using d,by simpa using h⟩
 ·cases h
theorem Ex.below {dd:Bool} {W W':World} (h:Ex dd W W'):Below W.heap.size W W':=⟨h.os,h.tape,h.output,h.size,h.oh⟩
theorem Jk {H:Type} {k:TypeId×Value→H} {P:Program} (o:laidOutB P=true) {W W':World} {c:Nat→Bool} :
  ∀{i:List TypeId} {vs:List Value} {ds:List (DataW H)} {g:List MemPlace},(∀t∈i,P.readableRec t=true∧t < P.types.size)→
   DataW.TrodAll k P W 0 (λ_=>true) true i vs ds g→(∀p∈g,W.sameAt W' p)→(∀p∈g,c p.block=true)→DataW.TrodAll k P W' 0 c true i vs ds g
 | [],_,_,_,_,h,_,_=>by
  obtain ⟨rfl,rfl,rfl⟩:=trodAll_nil h
  exact trodAll_mk0
 | t::i,_,_,_,j,h,h1,n=>by
  obtain ⟨v,vs,d,ds,p,q,rfl,rfl,rfl,s,w⟩:=trodAll_cons h
  exact trodAll_cons_mk (WideElems.Trod_stays o (j t fb).1 (j t fb).2 s (λx a=>h1 x (by simp [a])) λx a=>n x (by simp [a]))
   (Jk o (λu hu=>j u (by simp [hu])) w (λx a=>h1 x (by simp [a])) λx a=>n x (by simp [a]))
theorem TY {H:Type} {enc:TypeId×Value→H} {P:Program} (O:laidOutB P=true) {f:Func} {s:ChangeSpec} {apart fresh handsOn again:Bool} {W W':World} {args:Array Value} {v:Value} {ds gs:List (DataW H)} {before:List MemPlace} (R:∀t∈f.params.toList,P.readableRec t=true∧t < P.types.size) (n:s.vars=[]) (u:DataW.Whole enc P f.params.toList s.vars apart W args.toList ds gs before) {dd:Bool} (I:Ex dd W W') (a:∀(b:Nat) (sp:Nat→Bool) (M:Bool),DataW.TrodAll enc P W' b sp M f.resultTypes.toList (v.resultList f.resultTypes.size) (s.fn H (ds++gs)).results []) (c:(s.fn H (ds++gs)).args=ds) (g:(s.fn H (ds++gs)).vars=[]) (A:∀(j:Nat) (t:TypeId) (r:Value),f.resultTypes[j]? =some t→(v.resultList f.resultTypes.size)[j]? =some r→Value.okWide P W' .any 0 t r) :
  s.post enc P f apart fresh handsOn again W args v W':=by
 have d:=u.lt
 have hold:∀p∈before,(λb=>decide (b < W.heap.size)) p.block=true:=λp hp=>by simpa using d p hp
 have z:=Ex.below I
 have y:=u
 obtain ⟨p,q,L,J,i,T,Q⟩:=u
 rw [n] at J
 obtain ⟨rfl,rfl⟩:=trodVars_none J
 rw [bP] at i
 subst i
 have k:∀sp:Nat→Bool,(∀p∈before,sp p.block=true)→DataW.TrodAll enc P W' 0 sp true f.params.toList args.toList (s.fn H (ds++[])).args before:=λsp G=>by
  rw [c]
  exact Jk O R L (λx I=>z.same (d x I)) G
 have o:∀sp:Nat→Bool,DataW.TrodVars enc P W' sp s.vars (s.fn H (ds++[])).vars []:=λsp=>by
  rw [g,n]; rfl
 refine ⟨ds,[],before,[],before,[],y,a _ _ _,k _ hold,o _,World.keptBut_mono (λp hp=>⟨hp,?_⟩) (z.frame (·∈before)),λ_=>?_⟩
 ·exact Or.inr (Or.inl hp)
 ·refine ⟨A,_,_,([]++before)++[],⟨[]++before,[],trodAll_append (k _ λ_ _=>rfl) (a _ _ _),o _,Z,?_,?_⟩,?_⟩
  ·intro b off hp
   have h:MemPlace.cell b off∈before:=by simpa using hp
   rw [World.frozen?_of_block (w:=W) (z.block b (d _ h))]
   exact T b off h
  ·intro ha
   simpa using Q ha
  ·intro p hp _
   simpa using hp
end Go.Proofs.YtlfibegniofmjaaGreat.Lf
namespace Go.Proofs.YtlfibegniofmjaaGreat.Lf
open Go.ChangeShapes Go.WideShapes Go.ChangeAt Go.RowKit
open Go.Proofs.YtlfibegniofmjaaGreat (Rows.uptoBulk Rows.uptoBulkAll Rows.uptoSmall)
def HV {α:Type} (P:Program) (t:TypeId) (R:sV α) (sz:α→Nat):Prop :=
 ∀(H:Type) (c:TypeId×Value→H) (W:World) (base:Nat) (sp:Nat→Bool) (d:Bool) (fuel:Nat) (cs:List Value) (x:DataW H×List MemPlace),
  DataW.trod c P W base sp d fuel t cs=some x→∃a:α,R (hp W) cs a∧sz a≤Rows.uptoBulk x.1
theorem NU.rel {α:Type} {P:Program} {t:TypeId} {enc:α→List Value} {sz:α→Nat} (h:NU P t enc sz):HV P t (Pl enc) sz:=λH a W base sp c fuel cs x d=>h H a W base sp c fuel cs x d
end Go.Proofs.YtlfibegniofmjaaGreat.Lf
namespace Go.Proofs.YtlfibegniofmjaaGreat.Lf
open Go.ChangeShapes Go.WideShapes Go.ChangeAt Go.RowKit
open Go.Proofs.YtlfibegniofmjaaGreat (Rows.uptoBulk Rows.uptoBulkAll Rows.uptoSmall)
theorem LP {H:Type}:∀l:List (DataW H),Rows.uptoBulkAll l=(l.map Rows.uptoBulk).sum
 | []=>by simp [Rows.uptoBulkAll]
 | d::l=>by simp [Rows.uptoBulkAll,LP l]
theorem VN {α:Type} (g:α→Nat):∀(n:Nat) (f:Nat→Nat) {l:List α},l.length=n→(∀i x,l[i]? =some x→g x≤f i)→(l.map g).sum≤((List.range n).map f).sum
 | 0,f,l,c,h=>by
  obtain rfl:=dX.1 c
  simp
 | n+1,f,[],c,h=>by cases c
 | n+1,f,a::l,c,h=>by
  rw [List.range_succ_eq_map,bY,bY,fJ,fJ,eY]
  have h1:=h 0 a Z
  have j:=VN g n (f∘Nat.succ) (l:=l) (by simpa using c) (λi x d=>h (i+1) x (by simpa using d))
  omega
def xu {α:Type} (sz:α→Nat) (l:List α):Nat:=(l.map λa=>max 1 (sz a)).sum
theorem Ik {α:Type} (sz:α→Nat):∀l:List α,l.length≤xu sz l
 | []=>aZ _
 | a::l=>by have:=Ik sz l; simp only [xu,bY,fJ,aM] at this ⊢; omega
theorem NP {α:Type} {sz:α→Nat}:∀{l:List α} {a:α},a∈l→sz a≤xu sz l
 | b::l,a,h=>by
  simp only [xu,bY,fJ]
  rcases aS.1 h with rfl | h
  ·omega
  ·have:=NP (sz:=sz) h; simp only [xu] at this; omega
theorem Ln {α:Type} {P:Program} {t e:TypeId} {k:Nat} {R:sV α} {sz:α→Nat} (hk:P.cellsOf e=k) (L:0 < k) (ht:P.underlying t=some (.slice e)) {H:Type} {Y:TypeId×Value→H} {W:World} {base:Nat} {sp:Nat→Bool} {held:Bool} {fuel:Nat} {cs:List Value} {x:DataW H×List MemPlace} (hd:∀(fuel:Nat) (cs:List Value) (y:DataW H×List MemPlace),DataW.trod Y P W base sp held fuel e cs=some y→SizeOf.sizeOf y.1 < SizeOf.sizeOf x.1→∃a:α,R (hp W) cs a∧sz a≤Rows.uptoBulk y.1) (hf:DataW.trod Y P W base sp held fuel t cs=some x) :
  ∃v l,cs=[v]∧Sl R k (hp W) v l∧xu sz l≤Rows.uptoBulk x.1:=by
 rcases Go.Deep.open_slice ht hf with ⟨rfl,rfl⟩ | ⟨a,ln,cp,m,n,D,Q,rfl,hb,hl,hm,O,rfl,J⟩
 ·exact ⟨_,[],Z,⟨none,0,Z,aZ _,eG _,λh=>absurd h (Nat.lt_irrefl _)⟩,eG _⟩
 ·have aa:ln≤m:=by rw [O]; split <;> omega
  have hB:((List.range ln).map λi=>Rows.uptoBulk (D i)).sum≤Rows.uptoBulk (DataW.slice ((List.range ln).map D) ((List.range (m-ln)).map λj=>D (ln+j))):=by
   simp only [Rows.uptoBulk]
   rw [LP,eY]
   have e:((List.range ln).map λi=>Rows.uptoBulk (D i))=(List.range ln).map (Rows.uptoBulk∘D):=rfl
   rw [e]
   omega
  have hS:∀i,i < ln→SizeOf.sizeOf (D i) < SizeOf.sizeOf (DataW.slice ((List.range ln).map D) ((List.range (m-ln)).map λj=>D (ln+j))):=λi hi=>by
   have:=List.sizeOf_lt_of_mem (bW.2 ⟨i,List.mem_range.2 hi,Z⟩:D i∈(List.range ln).map D)
   rw [DataW.slice.sizeOf_spec]; omega
  simp only at hd ⊢
  generalize Rows.uptoBulk (DataW.slice ((List.range ln).map D) ((List.range (m-ln)).map λj=>D (ln+j)))=B at hB
  obtain ⟨l,M,q⟩:=ZP (α:=α) (n:=ln) (p:=λi x=>∃cs',W.cells? base (a.add (i*k)) k=some cs'∧R (hp W) cs' x∧sz x≤Rows.uptoBulk (D i)) λi hi=>by
   obtain ⟨cs',h1,z⟩:=J i eR
   obtain ⟨x,hR,A⟩:=hd _ _ _ z (hS i hi)
   rw [hk] at h1
   exact ⟨x,cs',h1,hR,A⟩
  subst M
  refine ⟨_,l,Z,⟨some a,cp,Z,hl,hm,λh0=>?_⟩,?_⟩
  ·have c:∀i x,l[i]? =some x→∃cs',R (hp W) cs' x∧cs'.length=k∧∀j,j < k→W.cell? ((a.add (i*k)).add j)=cs'[j]?:=λi x s=>
    let ⟨cs',h1,z,_⟩:=q i x s
    let ⟨_,A,h4⟩:=World.cells?_some h1
    ⟨cs',z,A,h4⟩
   obtain ⟨a6,_,h4,h5⟩:=c 0 l[0] (by simp [h0])
   have G:=h5 0 L
   rw [Nat.zero_mul,dD eR] at G
   have e0:(a.add 0).add 0=a:=rfl
   rw [e0] at G
   obtain ⟨cs,T,fr,I,h8,_⟩:=QX G
   obtain ⟨u,w,a1⟩:=a
   simp only at I h8
   subst h8
   refine ⟨u,w,cs,T,fr,Z,I,λi x s=>?_⟩
   obtain ⟨cs',gR,g1,g2⟩:=c i x s
   refine ⟨cs',g1,gR,λj y hy=>?_⟩
   have hj:j < k:=by
    rw [←g1]
    exact (bT.1 hy).1
   have h9:=g2 j hj
   rw [Go.Deep.add_add,hy] at h9
   obtain ⟨U,T',a7,d,a8,g⟩:=QX h9
   have o:(Addr.add ⟨u,w,none⟩ (i*k+j)).block=u∧(Addr.add ⟨u,w,none⟩ (i*k+j)).off=w+(i*k+j):=by
    unfold Addr.add
    split
    ·rename_i hz
     rw [hz]; exact ⟨Z,Z⟩
    ·exact ⟨Z,Z⟩
   rw [o.1,I] at d
   cases d
   rw [o.2,←eL] at g
   exact g
  ·refine ee (VN _ _ _ Z λi x s=>?_) hB
   exact Nat.max_le.2 ⟨abg _,(q i x s).elim λ_ h=>h.2.2⟩
theorem zw {α:Type} {P:Program} {t e:TypeId} {k:Nat} {R:sV α} {sz:α→Nat} (hk:P.cellsOf e=k) (a:0 < k) (d:HV P e R sz) (i:P.underlying t=some (.slice e)) {H:Type} {c:TypeId×Value→H} {W:World} {base:Nat} {sp:Nat→Bool} {held:Bool} {fuel:Nat} {cs:List Value} {x:DataW H×List MemPlace} (g:DataW.trod c P W base sp held fuel t cs=some x) :
  ∃v l,cs=[v]∧Sl R k (hp W) v l∧xu sz l≤Rows.uptoBulk x.1:=Ln hk a i (λ_ _ _ h _=>d _ _ _ _ _ _ _ _ _ h) g
end Go.Proofs.YtlfibegniofmjaaGreat.Lf
namespace Go.Proofs.YtlfibegniofmjaaGreat.Lf
open Go.ChangeShapes Go.WideShapes Go.ChangeAt Go.RowKit
open Go.Proofs.YtlfibegniofmjaaGreat (Rows.uptoBulk Rows.uptoBulkAll Rows.uptoSmall)
def Pg {α:Type} (R:sV α) (Q:α→Prop):sV α:=λμ ys x=>R μ ys x∧Q x
theorem Sl.all {α:Type} {R:sV α} {Q:α→Prop} {k:Nat} {μ:mc} {v:Value} {l:List α} (h:Sl (Pg R Q) k μ v l):Sl R k μ v l∧∀x∈l,Q x:=by
 obtain ⟨A,c,rfl,h1,j,s⟩:=h
 cases l with
 | nil=>exact ⟨⟨A,c,Z,h1,j,λh=>absurd h fb⟩,fb⟩
 | cons a l=>
  obtain ⟨b,o,cs,T,fr,e,t,n⟩:=s fb
  refine ⟨⟨A,c,Z,h1,j,λ_=>⟨b,o,cs,T,fr,e,t,λi x g=>?_⟩⟩,λx g=>?_⟩
  ·obtain ⟨ys,p,d,q⟩:=n i x g
   exact ⟨ys,p,d.1,q⟩
  ·obtain ⟨i,hi⟩:=List.mem_iff_getElem?.1 g
   obtain ⟨ys,p,d,q⟩:=n i x hi
   exact d.2
theorem Zz {P:Program} {t:TypeId} (a:P.underlying t=some (.int .u8)):HV P t (Pg (Pl (lu .u8)) λx=>0≤x∧x < 256) (λ_=>0):=by
 intro H c W base sp d fuel cs x h
 obtain ⟨n,rfl,rfl,hw⟩:=DataW.trod_int a h
 refine ⟨n,⟨Z,?_⟩,eG _⟩
 simp [Lit.wf,IntKind.min,IntKind.max,IntKind.bits,IntKind.signed] at hw
 omega
theorem Lx {α H:Type} {o:TypeId×Value→H} {P:Program} {t e:TypeId} {k:Nat} {R:sV α} {Q:α→Prop} {sz:α→Nat} (hk:P.cellsOf e=k) (c:0 < k) (s:HV P e (Pg R Q) sz) (j:P.underlying t=some (.slice e)) {W:World} {base n:Nat} {r:Reach} {sp:Nat→Bool} {held:Bool} {v:Value} {d:DataW H} {y:List MemPlace} (a:Value.okWide P W r n t v) (h:DataW.Trod o P W base sp held t v d y) :
  ∃l:List α,Sl R k (hp W) v l∧xu sz l≤Rows.uptoBulk d∧∀x∈l,Q x:=by
 obtain ⟨A,ln,g,rfl⟩:=okWide_slice j a
 obtain ⟨fuel,w⟩:=h
 obtain ⟨u,l,h1,i,p⟩:=zw hk c s j w
 have q:(Value.slice A ln g).cells.toList=[Value.slice A ln g]:=rfl
 rw [q] at h1
 cases h1
 exact ⟨l,(Sl.all i).1,p,(Sl.all i).2⟩
end Go.Proofs.YtlfibegniofmjaaGreat.Lf
namespace Go.Proofs.YtlfibegniofmjaaGreat
open Go.Proofs.Tryz renaming prog → pg0
set_option maxRecDepth 10000
open Go.ChangeShapes Go.WideShapes Go.ChangeAt Go.RowKit
open Go.Proofs.YtlfibegniofmjaaGreat Go.Proofs.YtlfibegniofmjaaGreat.Lf
def jQ:=@Tryz.underlying49
theorem ZY:Tryz.prog.cellsOf 25=3:=by kernel_rfl
theorem Yj {α:Type} {l:List α} (h:l.length=3):∃a0 a a2,l=[a0,a,a2]:=by
 match l,h with
 | [a0,a,a2],_=>exact ⟨a0,a,a2,Z⟩
theorem Nj:Tryz.prog.cellsOf 9=1:=by kernel_rfl
theorem Om:NU pg0 9 (λs:ByteArray=>[.string s]) (λs=>s.size):=T7 Tryz.underlying9
theorem Za:Tryz.prog.cellsOf 22=1:=by kernel_rfl
theorem TK:Tryz.prog.cellsOf 64=15:=by kernel_rfl
theorem Kh {α:Type} {l:List α} (h:l.length=2):∃a0 a,l=[a0,a]:=by
 match l,h with
 | [a0,a],_=>exact ⟨a0,a,Z⟩
theorem abr {α:Type} {l:List α} (h:l.length=15):∃a0 i a2 a3 a4 a5 j k n a9 a c a12 d g,l=[a0,i,a2,a3,a4,a5,j,k,n,a9,a,c,a12,d,g]:=by
 match l,h with
 | [a0,i,a2,a3,a4,a5,j,k,n,a9,a,c,a12,d,g],_=>exact ⟨a0,i,a2,a3,a4,a5,j,k,n,a9,a,c,a12,d,g,Z⟩
theorem Zs:Tryz.prog.cellsOf 57=10:=by kernel_rfl
theorem OH:Tryz.prog.cellsOf 55=9:=by kernel_rfl
theorem Xx:NU pg0 3 (λn:Int=>[.int .i64 n]) (λ_=>0):=Zx Tryz.underlying3
theorem Vs:Tryz.prog.cellsOf 3=1:=by kernel_rfl
theorem KG:Tryz.prog.cellsOf 53=2:=by kernel_rfl
def Cw (x:kL):Nat:=x.kO.size+x.Word.size
theorem Ni:NU pg0 53 kR Cw:=by
 intro H g W base sp j fuel cs x h
 obtain ⟨xs,n,_,rfl,q,hlen,k⟩:=eA Tryz.underlying53 h
 obtain ⟨t,u,rfl⟩:=Kh hlen
 obtain ⟨a,c1,rfl⟩:=Kh (q.trans KG)
 have i:DataW.trod g pg0 W base sp j n 9 (([a,c1].drop 0).take (Tryz.prog.cellsOf 9))=some t:=k 0 _ Z
 have h1:DataW.trod g pg0 W base sp j n 9 (([a,c1].drop 1).take (Tryz.prog.cellsOf 9))=some u:=k 1 _ Z
 simp only [Nj,List.drop,List.take] at i h1
 obtain ⟨s,c,o⟩:=Om _ _ _ _ _ _ _ _ _ i
 obtain ⟨s1,d,p⟩:=Om _ _ _ _ _ _ _ _ _ h1
 simp only [cA,eT] at c d
 obtain rfl:=c
 obtain rfl:=d
 refine ⟨⟨s,s1⟩,Z,?_⟩
 simp only [List.map,Rows.uptoBulk,Rows.uptoBulkAll,Cw] at o p ⊢
 omega
theorem ab7 {α:Type} {l:List α} (h:l.length=6):∃a0 a a2 a3 a4 a5,l=[a0,a,a2,a3,a4,a5]:=by
 match l,h with
 | [a0,a,a2,a3,a4,a5],_=>exact ⟨a0,a,a2,a3,a4,a5,Z⟩
theorem aca {α:Type} {l:List α} (h:l.length=9):∃a0 a a2 a3 a4 a5 c d g,l=[a0,a,a2,a3,a4,a5,c,d,g]:=by
 match l,h with
 | [a0,a,a2,a3,a4,a5,c,d,g],_=>exact ⟨a0,a,a2,a3,a4,a5,c,d,g,Z⟩
def An (x:kK):Nat:=Cw x.Head+x.lV.size+Cw x.B+Cw x.C+x.lW.size
theorem YZ:NU pg0 55 kQ An:=by
 intro H o W base sp p fuel cs x h
 obtain ⟨xs,n,_,rfl,T,hlen,q⟩:=eA Tryz.underlying55 h
 obtain ⟨y0,y1,y2,y3,y4,y5,rfl⟩:=ab7 hlen
 obtain ⟨a,c1,c2,c,d,g,i,j,k,rfl⟩:=aca (T.trans OH)
 have z:DataW.trod o pg0 W base sp p n 3 (([a,c1,c2,c,d,g,i,j,k].drop 0).take (Tryz.prog.cellsOf 3))=some y0:=q 0 _ Z
 have h1:DataW.trod o pg0 W base sp p n 53 (([a,c1,c2,c,d,g,i,j,k].drop 1).take (Tryz.prog.cellsOf 53))=some y1:=q 1 _ Z
 have A:DataW.trod o pg0 W base sp p n 9 (([a,c1,c2,c,d,g,i,j,k].drop 3).take (Tryz.prog.cellsOf 9))=some y2:=q 2 _ Z
 have G:DataW.trod o pg0 W base sp p n 53 (([a,c1,c2,c,d,g,i,j,k].drop 4).take (Tryz.prog.cellsOf 53))=some y3:=q 3 _ Z
 have I:DataW.trod o pg0 W base sp p n 53 (([a,c1,c2,c,d,g,i,j,k].drop 6).take (Tryz.prog.cellsOf 53))=some y4:=q 4 _ Z
 have J:DataW.trod o pg0 W base sp p n 9 (([a,c1,c2,c,d,g,i,j,k].drop 8).take (Tryz.prog.cellsOf 9))=some y5:=q 5 _ Z
 simp only [Vs,KG,Nj,List.drop,List.take] at z h1 A G I J
 obtain ⟨U,s,L⟩:=Xx _ _ _ _ _ _ _ _ _ z
 obtain ⟨s1,t,M⟩:=Ni _ _ _ _ _ _ _ _ _ h1
 obtain ⟨s2,u,O⟩:=Om _ _ _ _ _ _ _ _ _ A
 obtain ⟨Y,v,P⟩:=Ni _ _ _ _ _ _ _ _ _ G
 obtain ⟨s4,w,Q⟩:=Ni _ _ _ _ _ _ _ _ _ I
 obtain ⟨s5,y,R⟩:=Om _ _ _ _ _ _ _ _ _ J
 simp only [kR,cA,eT] at s t u v w y
 obtain rfl:=s
 obtain ⟨rfl,rfl⟩:=t
 obtain rfl:=u
 obtain ⟨rfl,rfl⟩:=v
 obtain ⟨rfl,rfl⟩:=w
 obtain rfl:=y
 refine ⟨⟨U,s1,s2,Y,s4,s5⟩,Z,?_⟩
 simp only [List.map,Rows.uptoBulk,Rows.uptoBulkAll,An] at L M O P Q R ⊢
 omega
theorem N0:Tryz.prog.cellsOf 49=1:=by kernel_rfl
theorem Qy:Tryz.prog.cellsOf 5=1:=by kernel_rfl
theorem UE:HV pg0 5 (Pg (Pl (lu .u8)) λx=>0≤x∧x < 256) (λ_=>0):=Zz Tryz.underlying5
theorem KP:Tryz.prog.cellsOf 62=5:=by kernel_rfl
theorem acw {α:Type} {l:List α} (h:l.length=4):∃a0 a a2 a3,l=[a0,a,a2,a3]:=by
 match l,h with
 | [a0,a,a2,a3],_=>exact ⟨a0,a,a2,a3,Z⟩
theorem acs {α:Type} {l:List α} (h:l.length=5):∃a0 a a2 a3 a4,l=[a0,a,a2,a3,a4]:=by
 match l,h with
 | [a0,a,a2,a3,a4],_=>exact ⟨a0,a,a2,a3,a4,Z⟩
theorem Zk:Tryz.prog.cellsOf 60=1:=by kernel_rfl
theorem ack {H:Type} {x:DataW H×List MemPlace} {ys:List (DataW H×List MemPlace)} {p:List MemPlace} (a:x=(.agg (ys.map (·.1)),p)) (i:Nat) {y:DataW H×List MemPlace} (h:ys[i]? =some y):SizeOf.sizeOf y.1 < SizeOf.sizeOf x.1:=by
 subst a
 have:=List.sizeOf_lt_of_mem (bW.2 ⟨y,dE h,Z⟩:y.1∈ys.map (·.1))
 simp only [DataW.agg.sizeOf_spec]; omega
theorem QZ:∀l:List Formula,szFL l≤xu Ho l
 | []=>aZ _
 | k::l=>by have:=QZ l; rw [szFL]; simp only [xu,bY,fJ] at this ⊢; omega
theorem abl:∀(N:Nat) (H:Type) (P:TypeId×Value→H) (W:World) (base:Nat) (sp:Nat→Bool) (Q:Bool) (fuel:Nat) (cs:List Value) (x:DataW H×List MemPlace),
  DataW.trod P pg0 W base sp Q fuel 62 cs=some x→SizeOf.sizeOf x.1 < N→∃a:Formula,kN (hp W) cs a∧Ho a≤Rows.uptoBulk x.1:=by
 intro N
 induction N with
 | zero=>intro _ _ _ _ _ _ _ _ _ _ h; exact absurd h (Nat.not_lt_zero _)
 | succ N ih=>
  intro H P W base sp Q fuel cs x h hN
  obtain ⟨a1,G,_,t,I,s,k⟩:=eA Tryz.underlying62 h
  obtain ⟨u,v,w,A,rfl⟩:=acw s
  obtain ⟨c,d,g,i,j,rfl⟩:=acs (I.trans KP)
  have n:DataW.trod _ pg0 W _ _ _ G 3 (([c,d,g,i,j].drop 0).take (Tryz.prog.cellsOf 3))=some u:=k 0 _ Z
  have o:DataW.trod _ pg0 W _ _ _ G 3 (([c,d,g,i,j].drop 1).take (Tryz.prog.cellsOf 3))=some v:=k 1 _ Z
  have p:DataW.trod _ pg0 W _ _ _ G 53 (([c,d,g,i,j].drop 2).take (Tryz.prog.cellsOf 53))=some w:=k 2 _ Z
  have q:DataW.trod _ pg0 W _ _ _ G 60 (([c,d,g,i,j].drop 4).take (Tryz.prog.cellsOf 60))=some A:=k 3 _ Z
  simp only [Vs,KG,Zk,List.drop,List.take] at n o p q
  obtain ⟨s2,J,U⟩:=Xx _ _ _ _ _ _ _ _ _ n
  simp only [cA,eT] at J
  obtain rfl:=J
  obtain ⟨s3,L,Y⟩:=Xx _ _ _ _ _ _ _ _ _ o
  simp only [cA,eT] at L
  obtain rfl:=L
  obtain ⟨s4,M,b4⟩:=Ni _ _ _ _ _ _ _ _ _ p
  simp only [kR,cA,eT] at M
  obtain ⟨rfl,rfl⟩:=M
  obtain ⟨v5,R,O,q5,b5⟩:=Ln KP fs Tryz.underlying60 (λf cs y h hz=>ih _ _ _ _ _ _ _ _ _ h (by have:=ack t 3 Z; omega)) q
  simp only [cA,eT] at O
  obtain rfl:=O
  have T:=bI (λz=>Rows.uptoBulk z.1) t
  refine ⟨⟨s2,s3,s4,R⟩,kN.mk ⟨_,Z,q5⟩,?_⟩
  have hz:=QZ R
  simp only [List.map,Rows.uptoBulk,Rows.uptoBulkAll,Cw] at U Y b4 b5 T ⊢
  rw [Wj]
  simp only
  omega
theorem WR:HV pg0 62 kN Ho:=λH a W base sp c fuel cs x h=>abl _ H a W base sp c fuel cs x h (bB _)
def Au (x:nM):Nat:=An x.Signed.kK+xu (λ_:Int=>0) x.Signed.Tag+1+Ho x.la+1
def Wu (x:nM):Prop:=∀y∈x.Signed.Tag,0≤y∧y < 256
theorem aa8:HV pg0 64 (Pg nq Wu) Au:=by
 intro H eh W base sp hd fuel cs x h
 obtain ⟨ab,n6,_,a6,a1,I,O⟩:=eA Tryz.underlying64 h
 obtain ⟨Q,R,rfl⟩:=Kh I
 obtain ⟨a,c,d,g,i,j,k,n,o,p,q,s,t,u,v,rfl⟩:=abr (a1.trans TK)
 have w:DataW.trod _ pg0 W _ _ _ n6 57 (([a,c,d,g,i,j,k,n,o,p,q,s,t,u,v].drop 0).take (Tryz.prog.cellsOf 57))=some Q:=O 0 _ Z
 have y:DataW.trod _ pg0 W _ _ _ n6 62 (([a,c,d,g,i,j,k,n,o,p,q,s,t,u,v].drop 10).take (Tryz.prog.cellsOf 62))=some R:=O 1 _ Z
 simp only [Zs,KP,List.drop,List.take] at w y
 obtain ⟨ad,n7,_,a7,aa,J,P⟩:=eA Tryz.underlying57 w
 obtain ⟨T,U,rfl⟩:=Kh J
 have A:DataW.trod _ pg0 W _ _ _ n7 55 (([a,c,d,g,i,j,k,n,o,p].drop 0).take (Tryz.prog.cellsOf 55))=some T:=P 0 _ Z
 have G:DataW.trod _ pg0 W _ _ _ n7 49 (([a,c,d,g,i,j,k,n,o,p].drop 9).take (Tryz.prog.cellsOf 49))=some U:=P 1 _ Z
 simp only [N0,OH,List.drop,List.take] at A G
 obtain ⟨s8,e8,b8⟩:=YZ _ _ _ _ _ _ _ _ _ A
 simp only [kQ,kR,cA,eT] at e8
 obtain ⟨rfl,rfl,rfl,rfl,rfl,rfl,rfl,rfl,rfl⟩:=e8
 obtain ⟨v9,s9,e9,q9,b9⟩:=zw Qy fs UE jQ G
 simp only [cA,eT] at e9
 obtain rfl:=e9
 obtain ⟨q9,g9⟩:=Lf.Sl.all q9
 have b7:=bI (λz=>Rows.uptoBulk z.1) a7
 obtain ⟨a8,L,Y⟩:=WR _ _ _ _ _ _ _ _ _ y
 obtain ⟨v10,M,L⟩:=L.out
 simp only [cA,eT] at M
 obtain ⟨rfl,rfl,rfl,rfl,rfl⟩:=M
 have b6:=bI (λz=>Rows.uptoBulk z.1) a6
 refine ⟨⟨⟨s8,s9⟩,a8⟩,⟨nq.mk ⟨_,_,Z,q9,L⟩,g9⟩,?_⟩
 simp only [List.map,Rows.uptoBulk,Rows.uptoBulkAll,Au] at b8 b9 b7 Y b6 ⊢
 omega
theorem ZD:Tryz.prog.cellsOf 23=1:=by kernel_rfl
theorem SF:Tryz.prog.cellsOf 81=8:=by kernel_rfl
theorem acC {α:Type} {l:List α} (h:l.length=8):∃a0 a a2 a3 a4 a5 c d,l=[a0,a,a2,a3,a4,a5,c,d]:=by
 match l,h with
 | [a0,a,a2,a3,a4,a5,c,d],_=>exact ⟨a0,a,a2,a3,a4,a5,c,d,Z⟩
theorem ZR:Tryz.prog.cellsOf 43=1:=by kernel_rfl
def DY (x:sT):Nat:=Cw x.kL+Ho x.la+xu An x.pf+1
def abV (x:sT):Prop:=True
theorem abi:HV pg0 81 (Pg oB abV) DY:=by
 intro H eh W base sp hd fuel cs x h
 obtain ⟨a1,n11,_,L,J,t,s⟩:=eA Tryz.underlying81 h
 obtain ⟨v,w,y,rfl⟩:=Yj t
 obtain ⟨a,c,d,g,i,j,k,n,rfl⟩:=acC (J.trans SF)
 have o:DataW.trod _ pg0 W _ _ _ n11 53 (([a,c,d,g,i,j,k,n].drop 0).take (Tryz.prog.cellsOf 53))=some v:=s 0 _ Z
 have p:DataW.trod _ pg0 W _ _ _ n11 62 (([a,c,d,g,i,j,k,n].drop 2).take (Tryz.prog.cellsOf 62))=some w:=s 1 _ Z
 have q:DataW.trod _ pg0 W _ _ _ n11 43 (([a,c,d,g,i,j,k,n].drop 7).take (Tryz.prog.cellsOf 43))=some y:=s 2 _ Z
 simp only [ZR,KG,KP,List.drop,List.take] at o p q
 obtain ⟨T,A,O⟩:=Ni _ _ _ _ _ _ _ _ _ o
 simp only [kR,cA,eT] at A
 obtain ⟨rfl,rfl⟩:=A
 obtain ⟨U,u,P⟩:=WR _ _ _ _ _ _ _ _ _ p
 obtain ⟨a6,G,u⟩:=u.out
 simp only [cA,eT] at G
 obtain ⟨rfl,rfl,rfl,rfl,rfl⟩:=G
 obtain ⟨a7,Y,I,R,Q⟩:=zw OH fs YZ.rel Tryz.underlying43 q
 simp only [cA,eT] at I
 obtain rfl:=I
 have M:=bI (λz=>Rows.uptoBulk z.1) L
 refine ⟨⟨T,U,Y⟩,⟨oB.mk ⟨_,_,Z,u,R⟩,trivial⟩,?_⟩
 simp only [List.map,Rows.uptoBulk,Rows.uptoBulkAll,DY] at O P Q M ⊢
 omega
def KZ (x:mW):Nat:=x.Name.size+xu Au x.nK+xu DY x.pv+1
theorem TE:Tryz.prog.cellsOf 51=2:=by kernel_rfl
def YB (x:Key):Nat:=x.lV.size+xu (λ_:Int=>0) x.Key+1
def abU (x:Key):Prop:=∀y∈x.Key,0≤y∧y < 256
theorem aaq:HV pg0 51 (Pg vi abU) YB:=by
 intro H I W base sp J fuel cs x h
 obtain ⟨G,n19,_,t,s,i,j⟩:=eA Tryz.underlying51 h
 obtain ⟨n,o,rfl⟩:=Kh i
 obtain ⟨a,c,rfl⟩:=Kh (s.trans TE)
 have d:DataW.trod _ pg0 W _ _ _ n19 9 (([a,c].drop 0).take (Tryz.prog.cellsOf 9))=some n:=j 0 _ Z
 have g:DataW.trod _ pg0 W _ _ _ n19 49 (([a,c].drop 1).take (Tryz.prog.cellsOf 49))=some o:=j 1 _ Z
 simp only [N0,Nj,List.drop,List.take] at d g
 obtain ⟨y,p,v⟩:=Om _ _ _ _ _ _ _ _ _ d
 simp only [cA,eT] at p
 obtain rfl:=p
 obtain ⟨v21,A,q,k,w⟩:=zw Qy fs UE jQ g
 simp only [cA,eT] at q
 obtain rfl:=q
 obtain ⟨k,g21⟩:=Lf.Sl.all k
 have u:=bI (λz=>Rows.uptoBulk z.1) t
 refine ⟨⟨y,A⟩,⟨vi.mk ⟨_,Z,k⟩,g21⟩,?_⟩
 simp only [List.map,Rows.uptoBulk,Rows.uptoBulkAll,YB] at v w u ⊢
 omega
theorem Ta:Tryz.prog.cellsOf 71=2:=by kernel_rfl
theorem Z6:Tryz.prog.cellsOf 4=1:=by kernel_rfl
theorem acf:NU pg0 4 (λb:Bool=>[.bool b]) (λ_=>0):=by
 intro H a W base sp c fuel cs x h
 obtain ⟨n,rfl,rfl,_⟩:=DataW.trod_bool Tryz.underlying4 h
 exact ⟨n,Z,eG _⟩
def Hq (x:nJ):Nat:=xu (λ_:Int=>0) x.B+1
def abw (x:nJ):Prop:=∀y∈x.B,0≤y∧y < 256
theorem aa9:HV pg0 71 (Pg pc abw) Hq:=by
 intro H I W base sp J fuel cs x h
 obtain ⟨G,n22,_,t,s,i,j⟩:=eA Tryz.underlying71 h
 obtain ⟨n,o,rfl⟩:=Kh i
 obtain ⟨a,c,rfl⟩:=Kh (s.trans Ta)
 have d:DataW.trod _ pg0 W _ _ _ n22 4 (([a,c].drop 0).take (Tryz.prog.cellsOf 4))=some n:=j 0 _ Z
 have g:DataW.trod _ pg0 W _ _ _ n22 49 (([a,c].drop 1).take (Tryz.prog.cellsOf 49))=some o:=j 1 _ Z
 simp only [Z6,N0,List.drop,List.take] at d g
 obtain ⟨y,p,v⟩:=acf _ _ _ _ _ _ _ _ _ d
 simp only [cA,eT] at p
 obtain rfl:=p
 obtain ⟨v24,A,q,k,w⟩:=zw Qy fs UE jQ g
 simp only [cA,eT] at q
 obtain rfl:=q
 obtain ⟨k,g24⟩:=Lf.Sl.all k
 have u:=bI (λz=>Rows.uptoBulk z.1) t
 refine ⟨⟨y,A⟩,⟨pc.mk ⟨_,Z,k⟩,g24⟩,?_⟩
 simp only [List.map,Rows.uptoBulk,Rows.uptoBulkAll,Hq] at v w u ⊢
 omega
theorem acF:Tryz.prog.readableRec 25=true∧25 < Tryz.prog.types.size:=⟨by kernel_rfl,eo (by kernel_rfl)⟩
theorem acm:Tryz.prog.readableRec 26=true∧26 < Tryz.prog.types.size:=⟨by kernel_rfl,eo (by kernel_rfl)⟩
theorem acB:Tryz.prog.readableRec 27=true∧27 < Tryz.prog.types.size:=⟨by kernel_rfl,eo (by kernel_rfl)⟩
theorem IM (c:kK):AH c=An c:=by unfold AH An Cw; omega
theorem SV {α:Type} (sz:α→Nat) (h:∀a,2≤sz a):∀l:List α,2*l.length≤xu sz l
 | []=>eG _
 | a::l=>by have:=SV sz h l; have:=h a; simp only [xu,bY,fJ,aM] at *; omega
theorem GN (y:nM):Au y=An y.Signed.kK+xu (λ_:Int=>0) y.Signed.Tag+1+Ho y.la+1:=rfl
theorem R3 (y:sT):DY y=Cw y.kL+Ho y.la+xu An y.pf+1:=rfl
theorem S7:∀l:List kK,EA l≤21*xu An l
 | []=>eG _
 | c::l=>by have:=S7 l; rw [EA,IM]; simp only [xu,bY,fJ] at *; omega
theorem S0:∀l:List nM,Uc l≤21*xu Au l
 | []=>eG _
 | x::l=>by
  have:=S0 l
  have:=Ik (λ_:Int=>0) x.Signed.Tag
  rw [Uc,IM]
  have e:=GN x
  simp only [xu,bY,fJ] at *; omega
theorem TP:∀l:List sT,TU l≤21*xu DY l
 | []=>eG _
 | x::l=>by
  have:=TP l
  have:=S7 x.pf
  rw [TU]
  have e:=R3 x
  unfold Cw at e
  have a:xu DY (x::l)=max 1 (DY x)+xu DY l:=rfl
  omega
theorem Xz (x:mW) (g:x.Name.size≤1048576) (h1:xu Au x.nK≤1048576) (h:xu DY x.pv≤1048576):PG x∧x.nK.length≤600000∧gsz x≤1000000000:=by
 have c1:=SV Au (λy=>by rw [GN]; omega) x.nK
 have c2:=Ik DY x.pv
 have g1:∀y∈x.nK,An y.Signed.kK≤1048576∧mo y.la≤1048576:=λy a=>by
  have:=NP (sz:=Au) a
  have e:=GN y
  have:=Pc y.la
  omega
 have g2:∀y∈x.pv,mo y.la≤1048576∧xu An y.pf≤1048576:=λy a=>by
  have:=NP (sz:=DY) a
  have e:=R3 y
  have:=Pc y.la
  omega
 refine ⟨{ abN:=by omega,Xi:=by omega,rel:=λy a=>?_,Ut:=λy a=>?_,clo:=λy a=>?_,csz:=λy a=>?_,asz:=λy a c d=>?_ },eR,?_⟩
 ·have:=(g1 y a).2; omega
 ·have:=(g2 y a).1; omega
 ·have:=(g2 y a).2; have:=Ik An y.pf; omega
 ·have:=(g1 y a).1; rw [IM]; omega
 ·have:=(g2 y a).2; have:=NP (sz:=An) d; rw [IM]; omega
 ·have:=S0 x.nK; have:=TP x.pv; unfold gsz; omega
theorem VZ (x:mW) (h:KZ x≤1048576):PG x∧x.nK.length≤600000∧gsz x≤1000000000:=by
 unfold KZ at h
 exact Xz x eR eR eR
theorem SN:∀l:List nJ,Dc l≤21*xu Hq l
 | []=>eG _
 | x::l=>by
  have:=SN l
  have:=Ik (λ_:Int=>0) x.B
  rw [Dc]
  have e:Hq x=xu (λ_:Int=>0) x.B+1:=rfl
  have a:xu Hq (x::l)=max 1 (Hq x)+xu Hq l:=rfl
  omega
theorem aa3 (l:List nJ) (h:xu Hq l≤1048576):Dc l≤1000000000:=by have:=SN l; omega
theorem own:ownKnob Tryz.prog.godebug=none:=by kernel_rfl
theorem XX:laidOutB pg0=true:=by kernel_rfl
theorem XN (H:Type) (enc:TypeId×Value→H) (W:World) (base:Nat) (args:Array Value) (ds gs:List (DataW H)) (before:List MemPlace) (g:∀(j:Nat) t v,Tryz.f3.params[j]? =some t→args[j]? =some v→Value.okWide pg0 W .any base t v) (hW:DataW.Whole enc pg0 Tryz.f3.params.toList Rows.auditTellsSpec.vars false W args.toList ds gs before) (hk:Rows.uptoSmall H (ds++gs)=true) :
  Calls pg0 3 args W λe W'=>∃v,e= .returned v∧Rows.auditTellsSpec.post enc pg0 Tryz.f3 false true false false W args v W':=by
 have ab:=hW
 obtain ⟨p,q,aa,hV,rfl,an,ao⟩:=hW
 have hA:DataW.TrodAll enc pg0 W 0 (λ_=>true) true Tryz.f3.params.toList args.toList ds p:=aa
 have hr:∀t∈Tryz.f3.params.toList,Tryz.prog.readableRec t=true∧t < Tryz.prog.types.size:=by
  rw [Tryz.params3]
  intro t ht
  simp only [aS,du,fx] at ht
  rcases ht with rfl | rfl | rfl
  ·exact acF
  ·exact acm
  ·exact acB
 rw [Tryz.params3] at hA g
 obtain ⟨v0,aq,d0,ai,p0,q0,ad,rfl,rfl,h0,r0⟩:=trodAll_cons hA
 obtain ⟨v1,ar,d1,aj,p1,q1,rfl,rfl,rfl,h1,r1⟩:=trodAll_cons r0
 obtain ⟨v2,au,d2,ak,p2,q2,rfl,rfl,rfl,h2,r2⟩:=trodAll_cons r1
 obtain ⟨rfl,rfl,rfl⟩:=trodAll_nil r2
 obtain rfl:args=#[v0,v1,v2]:=by cases args; simp_all
 obtain ⟨rfl,rfl⟩:=trodVars_none hV
 have k0:=g 0 25 v0 Z Z
 have k1:=g 1 26 v1 Z Z
 have k2:=g 2 27 v2 Z Z
 obtain ⟨L,rfl,_⟩:=okWide_struct Tryz.underlying25 k0
 obtain ⟨al,Q⟩:=h0
 obtain ⟨ae,rfl⟩:∃l:List Value,L=l.toArray:=⟨L.toList,fb⟩
 change DataW.trod _ _ _ _ _ _ _ _ ae=some _ at Q
 obtain ⟨ah,n15,_,T,R,s,o⟩:=eA Tryz.underlying25 Q
 obtain ⟨G,I,J,rfl⟩:=Yj s
 obtain ⟨d,a,c,rfl⟩:=Yj (R.trans ZY)
 have h:DataW.trod _ pg0 W _ _ _ n15 9 (([d,a,c].drop 0).take (Tryz.prog.cellsOf 9))=some G:=o 0 _ Z
 have i:DataW.trod _ pg0 W _ _ _ n15 22 (([d,a,c].drop 1).take (Tryz.prog.cellsOf 22))=some I:=o 1 _ Z
 have n:DataW.trod _ pg0 W _ _ _ n15 23 (([d,a,c].drop 2).take (Tryz.prog.cellsOf 23))=some J:=o 2 _ Z
 simp only [Za,ZD,Nj,List.drop,List.take] at h i n
 obtain ⟨x,M,a6⟩:=Om _ _ _ _ _ _ _ _ _ h
 simp only [cA,eT] at M
 obtain rfl:=M
 obtain ⟨v17,y,O,u,a7⟩:=zw TK fs aa8 Tryz.underlying22 i
 simp only [cA,eT] at O
 obtain rfl:=O
 obtain ⟨u,g17⟩:=Lf.Sl.all u
 obtain ⟨ap,A,P,w,a8⟩:=zw SF fs abi Tryz.underlying23 n
 simp only [cA,eT] at P
 obtain rfl:=P
 obtain ⟨w,g18⟩:=Lf.Sl.all w
 have Y:=bI (λz=>Rows.uptoBulk z.1) T
 simp only [List.map,Rows.uptoBulk,Rows.uptoBulkAll] at a6 a7 a8 Y
 have z0:KZ (⟨x,y,A⟩:mW)≤Rows.uptoBulk d0:=by simp only [KZ]; omega
 obtain ⟨U,af,z1,o1⟩:=Lx (k:=2) TE fs aaq Tryz.underlying26 k1 h1
 obtain ⟨a2,ag,z2,o2⟩:=Lx (k:=2) Ta fs aa9 Tryz.underlying27 k2 h2
 have hB:Rows.uptoBulkAll ([d0,d1,d2]++[])≤1048576:=eo hk
 simp only [bP,Rows.uptoBulkAll] at hB
 have hm:zt (⟨x,y,A⟩:mW) U a2=some true:=MU XW _ (VZ _ eR).1 U o1 a2 o2 (aa3 a2 eR)
 have hg:=JD (⟨x,y,A⟩:mW) a c v1 U v2 a2 true W u w af ag hm
 refine cZ hg λe W' ⟨he,hx⟩=>?_
 subst he
 exact ⟨_,Z,TY XX hr Z ab hx (λ_ _ _=>trodAll_cons_mk (shut_bool Tryz.underlying4 _) trodAll_mk0) Z Z (ok_one (by kernel_rfl) Z (okWide_bool_mk Tryz.underlying4 _))⟩
set_option maxRecDepth 100000 in
theorem aaP (os:Os) (started:os.Started) (H:Type) (enc:TypeId×Value→H) (F:Stop.Interp) :
  ReturnsInHanded {} Tryz.checked os 3 .any ((Rows.OpenSpec.upto Rows.auditTellsSpec).pre6 enc pg0 Tryz.f3 Rows.auditTellsUptoRow.domain false) (((Rows.OpenSpec.upto Rows.auditTellsSpec).at F).post enc pg0 Tryz.f3 false true false false):=by
 refine returnsInHanded_of_cond (C:=Tryz.checked) (s:=Rows.OpenSpec.upto Rows.auditTellsSpec) (k:=Rows.uptoSmall) Z own started (by kernel_rfl) Tryz.func3
  (OpenSpec.witness (enc:=enc) (C:=Tryz.checked) (s:=Rows.OpenSpec.upto Rows.auditTellsSpec) (k:=Rows.uptoSmall) Z false ⟨#[],#[.agg #[.string ⟨#[]⟩,.slice none 0 0,.slice none 0 0],.slice none 0 0,.slice none 0 0],[]⟩ 8 (by kernel_rfl) (by kernel_rfl) (by kernel_rfl)
   (x:=([.agg [.lit (.string []),.nil,.nil],.nil,.nil],[],[])) (by kernel_rfl) Z (by kernel_rfl)) ?_
 intro W base args ds gs before a c _ hk _
 exact XN H enc W base args ds gs before a c hk
theorem abM {a b:Bool} (ha:a=true) (c:b=true):(a&&b)=true:=by rw [ha,c]; rfl
set_option maxHeartbeats 40000000 in
theorem Y3:joinedFacts Tryz.checked.prog 3 Tryz.f3 (Rows.OpenSpec.upto Rows.auditTellsSpec).bare Rows.auditTellsUptoRow=true:=by
 unfold joinedFacts
 repeat' with_reducible refine abM ?_ ?_
 all_goals as_aux_lemma=>kernel_rfl
theorem proved:Rows.AuditTellsUptoSaid :=
 OpenClaim.holds_of_cond 3 Tryz.f3 Z Z Z Z Z Z Z ⟨Z,Z,Z,Z,Z⟩ Z Z Z Z Z (by kernel_rfl) Tryz.func3 Y3
  (eo (by kernel_rfl)) (by unfold Func.isWrapper; first | (rw [aP (by decide +kernel)]; kernel_rfl) | (rw [aN (by decide +kernel)]; exact ⟨Z,Z⟩))
  (λos started H enc _ F=>aaP os started H enc F)
end Go.Proofs.YtlfibegniofmjaaGreat
