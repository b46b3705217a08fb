/- a part of a proof of ChangeLoses -/
import Derived.Test.YtjjjihkifgdhgaaGreatDoorHho
import Derived.Test.YtjjjihkifgdhgaaGreatDoorRtVo
import Derived.Test.YtjjjihkifgdhgaaGreatDoorRows
import Derived.WalkKit
import Derived.ProofKit
import Derived.OpenShut
import Derived.JoinedCond
import Derived.Deep.Slices
import Derived.Carry
import Derived.ChangeArms
import Derived.ChangeSame
set_option linter.all false
namespace Go.Proofs.YtjjjihkifgdhgaaGreatDoor
open Go.IntKind renaming wrap → wi0
open Go.RowKit
noncomputable def vD (l:List kv) (peer:ByteArray) (r:ku):Bool:=@decide (rB (l.filter mM) ⟨r,peer⟩) (Classical.propDecidable _)
theorem P0 (l:List kv) (peer:ByteArray) (r:ku):vD l peer r=true↔rB (l.filter mM) ⟨r,peer⟩:=by unfold vD; simp
theorem Q1 {l m:List kv} (h:∀c∈l,c∈m) (peer:ByteArray) (r:ku) (i:vD l peer r=true):vD m peer r=true:=by
 rw [P0] at *
 exact i.mono (λc d=>by rw [bU] at *; exact ⟨h c d.1,d.2⟩)
theorem aap (l:List kv) (j:l.length≤1000000) (peer:ByteArray):∃m,yC l peer=some m∧∀r,sT r m.1 m.2.1 m.2.2.1 m.2.2.2.1 m.2.2.2.2.1 m.2.2.2.2.2.1 m.2.2.2.2.2.2=some (vD l peer r):=by
 obtain ⟨C,T,p,ws,n,e,m,i,_⟩:=SO l j
 unfold yC
 rw [e,aA]
 refine ⟨_,rfl,λr=>?_⟩
 unfold sT
 rw [pI]
 obtain ⟨b,d,hb⟩:=Um m C p ws [] n r peer
 rw [d]
 congr 1
 rw [bK,hb,P0]
 exact rB.congr (λc=>by rw [i,bU]) _
noncomputable def TR (p:lB) (v:ku→Bool) (c:kv):Bool:=decide ((qk p c).2=0)&&xg v (qk p c).1
theorem Vw {p:lB} {v w:ku→Bool} (h:∀r,v r=true→w r=true) (c:kv) (d:TR p v c=true):TR p w c=true:=by
 unfold TR xg at *
 simp only [bn,bH] at *
 exact ⟨d.1,d.2.1,RR h _ d.2.2⟩
def rE (s:List kv):Prop:=s.Pairwise (λa b=>Be a b=true)∧∀c∈s,mM c=true
theorem rE.nodup {s:List kv} (h:rE s):s.Nodup:=yg zL h.2 h.1
theorem rE.le {s t:List kv} (h:rE s) (d:∀c∈s,c∈t):s.length≤t.length:=nD h.nodup d
theorem rE.ext {s t:List kv} (h:rE s) (k:rE t) (i:∀c,c∈s↔c∈t):s=t :=
 wz.unique zL (l:=t) ⟨h.1,λx=>⟨λd=>⟨(i x).1 d,h.2 x d⟩,λd=>(i x).2 d.1⟩⟩ ⟨k.1,λx=>⟨λd=>⟨d,k.2 x d⟩,λd=>d.1⟩⟩
theorem rE.eq {s t:List kv} (h:rE s) (k:rE t) (i:∀c∈s,c∈t) (p:t.length≤s.length):s=t:=by
 refine h.ext k λc=>⟨i c,λj=>?_⟩
 refine fu λn=>?_
 have:=nD (l:=c::s) (m:=t) (dO.2 ⟨n,h.nodup⟩) (λx d=>by
  rcases aP.1 d with rfl | d
  ·exact j
  ·exact i x d)
 simp at this; omega
theorem rE.nil:rE []:=⟨by simp,by simp⟩
theorem rE.filter {s:List kv} (h:rE s) (p:kv→Bool):rE (s.filter p):=⟨h.1.filter _,λc d=>h.2 c (bU.1 d).1⟩
def Lh (p:lB) (c:kv):Prop:=∃x∈p.kE,x.Signed.kv=c
def wj (p:lB) (l:List kv) (peer:ByteArray) (c:kv):Prop:=Lh p c∧mM c=true∧TR p (vD l peer) c=true
theorem zz {p:lB} {l m:List kv} (h:∀c∈l,c∈m) {peer:ByteArray} {c:kv} (d:wj p l peer c):wj p m peer c:=⟨d.1,d.2.1,Vw (Q1 h peer) c d.2.2⟩
theorem Ch {p:lB} {s:List kv} (h:rE s) (i:∀c∈s,Lh p c):s.length≤p.kE.length:=by
 have:=h.le (t:=p.kE.map (·.Signed.kv)) (λc d=>by obtain ⟨x,j,e⟩:=i c d; exact aS.2 ⟨x,j,e⟩)
 simpa using this
theorem Oy (p:lB) (hp:PB p) (l:List kv) (A:l.length≤1000000) (peer:ByteArray):∃s,vy p l peer=some s∧rE s∧(∀c,c∈s↔wj p l peer c)∧s.length≤p.kE.length:=by
 obtain ⟨m,e,E⟩:=aap l A peer
 have:=hp.BR
 unfold vy
 rw [e,aA,GX p hp _ m E p.kE [] (by simp; omega),aW]
 have h1:(p.kE.filter (D1 p (vD l peer))).length≤p.kE.length:=dE _ _
 obtain ⟨s,w,d⟩:=Vr ((p.kE.filter (D1 p (vD l peer))).map (·.Signed.kv)) (by simp; omega)
 have v:rE s:=⟨d.1,λc j=>((d.2 c).1 j).2⟩
 have hm:∀c,c∈s↔wj p l peer c:=λc=>by
  rw [d.2,aS]
  constructor
  ·rintro ⟨⟨x,u,rfl⟩,n⟩
   obtain ⟨z,i⟩:=bU.1 u
   exact ⟨⟨x,z,rfl⟩,n,i⟩
  ·rintro ⟨⟨x,u,rfl⟩,n,i⟩
   exact ⟨⟨x,bU.2 ⟨u,i⟩,rfl⟩,n⟩
 exact ⟨s,w,v,hm,Ch v (λc j=>((hm c).1 j).1)⟩
structure Rs (a b:lB) (x y:List kv):Prop where
 sx:rE x
 sy:rE y
 fx:∀c,c∈x↔wj a y b.Name c
 fy:∀c,c∈y↔wj b x a.Name c
 least:∀X Y:List kv,(∀c,wj a Y b.Name c→c∈X)→(∀c,wj b X a.Name c→c∈Y)→(∀c∈x,c∈X)∧(∀c∈y,c∈Y)
theorem Rs.ly {a b:lB} {x y:List kv} (h:Rs a b x y):y.length≤b.kE.length:=Ch h.sy (λc d=>((h.fy c).1 d).1)
theorem NO (a b:lB) (ha:PB a) (hb:PB b) (Q:a.kE.length≤600000) (R:b.kE.length≤600000):∀(n:Nat) (x y:List kv) (i:Int),rE x→rE y→(∀c∈x,wj a y b.Name c)→(∀c∈y,wj b x a.Name c)→
  (∀X Y:List kv,(∀c,wj a Y b.Name c→c∈X)→(∀c,wj b X a.Name c→c∈Y)→(∀c∈x,c∈X)∧(∀c∈y,c∈Y))→a.kE.length+b.kE.length < n+x.length+y.length→
  ∃I J j,sr a b n x y i=some (I,J,j)∧Rs a b I J
 | 0,x,y,i,sx,sy,u,v,hm,P=>by
  have h1:=Ch sx (λc d=>(u c d).1)
  have O:=Ch sy (λc d=>(v c d).1)
  omega
 | n+1,x,y,i,sx,sy,u,v,hm,P=>by
  have h1:=Ch sx (λc d=>(u c d).1)
  have O:=Ch sy (λc d=>(v c d).1)
  obtain ⟨p,L,sp,mp,Z⟩:=Oy a ha y (by omega) b.Name
  obtain ⟨q,M,sq,w,lq⟩:=Oy b hb x (by omega) a.Name
  have z:∀c∈x,c∈p:=λc d=>(mp c).2 (u c d)
  have A:∀c∈y,c∈q:=λc d=>(w c).2 (v c d)
  have U:=sx.le z
  have W:=sy.le A
  rw [sr,L,aA,M,aA]
  by_cases c1:p.length=x.length∧q.length=y.length
  ·have e:((if ((p.length:Int)==(x.length:Int)) then some ((q.length:Int)==(y.length:Int)) else some false):Option Bool)=some true:=by
    rw [c1.1,c1.2]; simp
   rw [e]
   simp only [aA,aK]
   obtain rfl:=sx.eq sp z (by omega)
   obtain rfl:=sy.eq sq A (by omega)
   exact ⟨_,_,_,rfl,sx,sy,mp,w,hm⟩
  ·have e:((if ((p.length:Int)==(x.length:Int)) then some ((q.length:Int)==(y.length:Int)) else some false):Option Bool)=some false:=by
    by_cases c2:p.length=x.length
    ·have T:¬q.length=y.length:=λh=>c1 ⟨c2,h⟩
     simp [c2]; omega
    ·have:¬((p.length:Int)=(x.length:Int)):=by omega
     simp [this]
   rw [e]
   simp only [aA,aB,aI]
   refine NO a b ha hb Q R n p q _ sp sq (λc d=>zz A ((mp c).1 d)) (λc d=>zz z ((w c).1 d)) (λX Y E G=>?_) (by omega)
   obtain ⟨g1,g2⟩:=hm X Y E G
   exact ⟨λc d=>E c (zz g2 ((mp c).1 d)),λc d=>G c (zz g1 ((w c).1 d))⟩
theorem TU (a b:lB) (ha:PB a) (hb:PB b) (d:a.kE.length≤600000) (i:b.kE.length≤600000):∃x y j,zt a b=some (x,y,j)∧Rs a b x y :=
 NO a b ha hb d i kY [] [] 0 rE.nil rE.nil (by simp) (by simp) (λ_ _ _ _=>by simp) (by rw [my]; simp; omega)
def OY (l:List kU) (d:kv):Option Formula:=(l.find? λx=>ll x.Signed.kv d).map (·.ky)
theorem UK (n:ByteArray) (l:List kU) (k:List mr) (c:kv):Lh ⟨n,l,k⟩ c↔c∈l.map (·.Signed.kv):=by
 unfold Lh; rw [aS]
structure PP (p:mY):Prop where
 o:PG p.kw
 c:PG p.Client
 lo:p.kw.kE.length≤600000
 lc:p.Client.kE.length≤600000
 f:lQ p.Formula≤10000000
def aa3:ByteArray:=⟨#[99,108,105]⟩
def sY:ku:=⟨⟨#[120]⟩,⟨#[121]⟩⟩
def sc:kv:=⟨1,sY,aa3,⟨zS,zS⟩,⟨zS,zS⟩,zS⟩
theorem ZS:∀(n:Nat) (f:Formula),pW f≤n→Gd f→zd n f=some (lQ f:Int):=by
 intro n
 induction n with
 | zero=>intro f h; rw [od] at h; omega
 | succ n ih=>
  intro f j p
  rw [od] at j
  have d:=qj f
  unfold Gd at p
  rw [zd]
  unfold Eh
  have key:∀(ks:List Formula) (x:Nat),(∀k∈ks,k∈f.Kids)→x+nodesL ks≤50000000→wW (zd n) ks (x:Int)=some ((x+nodesL ks:Nat):Int):=by
   intro ks
   induction ks with
   | nil=>intro x _ _; rw [wW,nodesL]; rfl
   | cons k ks i=>
    intro x hk u
    rw [nodesL] at u
    rw [wW,ih k (by have:=tF (hk k (by simp)); omega) (by have:=vx (hk k (by simp)); unfold Gd; omega),aA]
    have w:wi0 .i64 ((x:Int)+(lQ k:Int))=((x+lQ k:Nat):Int):=by rw [mc (by omega) (by omega)]; omega
    rw [w,i _ (λz v=>hk z (by simp [v])) (by omega),nodesL]
    congr 2; omega
  have:=key f.Kids 1 (λk hk=>hk) (by omega)
  rw [d]
  exact this
theorem aaJ:∀(n:Nat) (f:Formula),pW f≤n→Gd f→Ac n f=some (pW f:Int):=by
 intro n
 induction n with
 | zero=>intro f h; rw [od] at h; omega
 | succ n ih=>
  intro f j p
  rw [od] at j ⊢
  have u:=qj f
  have hle:=zB f
  rw [od] at hle
  unfold Gd at p
  rw [Ac]
  unfold EK
  have key:∀(ks:List Formula) (x:Nat),(∀k∈ks,k∈f.Kids)→max x (deepL ks)≤50000000→xI (Ac n) ks (x:Int)=some ((max x (deepL ks)+1:Nat):Int):=by
   intro ks
   induction ks with
   | nil=>
    intro x _ d
    rw [deepL] at d
    rw [xI,deepL,mc (by omega) (by omega)]
    congr 1; omega
   | cons k ks i=>
    intro x hk d
    rw [deepL] at d
    rw [xI,ih k (by have:=tF (hk k (by simp)); omega) (by have:=vx (hk k (by simp)); unfold Gd; omega),aA]
    have w:(if (pW k:Int) > (x:Int) then (pW k:Int) else (x:Int))=((max x (pW k):Nat):Int):=by split <;> omega
    rw [w,i _ (λz v=>hk z (by simp [v])) (by omega),deepL]
    congr 2; omega
  have:=key f.Kids 0 (λk hk=>hk) (by omega)
  rw [Nat.zero_max] at this
  exact this
theorem aac:∀(n:Nat) (f:Formula),pW f≤n→Ax n f=some (uH f):=by
 intro n
 induction n with
 | zero=>intro f h; rw [od] at h; omega
 | succ n ih=>
  intro f h
  rw [od] at h
  have key:∀ks:List Formula,(∀k∈ks,k∈f.Kids)→xY (Ax n) ks=some (wellL ks):=by
   intro ks
   induction ks with
   | nil=>intro _; rw [xY,wellL]
   | cons k ks w=>
    intro hk
    rw [xY,ih k (by have:=tF (hk k (by simp)); omega),aA,w (λz A=>hk z (by simp [A])),wellL]
    cases uH k <;> rfl
  have hk:=key f.Kids (λk hk=>hk)
  rw [Ax]
  unfold EF
  rw [hk,KR,B5]
  unfold HN
  simp only [aA]
  by_cases c1:f.Op=1
  ·simp only [c1,bP,aK]
   cases E:mw f.ku
   ·simp
   ·by_cases d:f.Kids.length=0
    ·have e:f.Kids=[]:=aJ d
     by_cases v:f.K=0 <;> simp [e,v,wellL]
    ·have:((f.Kids.length:Int)==0)=false:=by rw [beq_eq_false_iff_ne]; omega
     simp [this,d]
  ·have x:(f.Op==1)=false:=by simpa using c1
   simp only [x,aB,aI,c1]
   by_cases j:f.Op=2∨f.Op=3
   ·have p:¬f.Op < 1:=by omega
    have a2:¬f.Op > 4:=by omega
    have a3:f.Op < 4:=by omega
    have a4:(f.Op==4)=false:=by rw [beq_eq_false_iff_ne]; omega
    simp only [p,a2,a3,a4,j,bN,bB,aB,aI,aK,aA]
    cases hb:kR f.ku ⟨zS,zS⟩
    ·simp [tk,hb]
    ·by_cases d:f.Kids.length≤8
     ·have i:¬((f.Kids.length:Int) > 8):=by omega
      by_cases v:f.K=0 <;> simp [tk,hb,d,i,v]
     ·have i:((f.Kids.length:Int) > 8):=by omega
      simp [tk,hb,d,i]
   ·by_cases u:f.Op=4
    ·have p:¬f.Op < 1:=by omega
     have a2:¬f.Op > 4:=by omega
     have a3:¬f.Op < 4:=by omega
     simp only [p,a2,a3,j,bN,aB,aI,aA]
     simp only [u,bP,aK,bB,dZ]
     cases hb:kR f.ku ⟨zS,zS⟩
     ·simp [tk,hb]
     ·by_cases d:f.Kids.length≤8
      ·have i:¬((f.Kids.length:Int) > 8):=by omega
       by_cases d1:1≤f.Kids.length
       ·have g1:¬((f.Kids.length:Int) < 1):=by omega
        by_cases d2:0≤f.K
        ·have g2:¬f.K < 0:=by omega
         by_cases d3:f.K≤(f.Kids.length:Int)
         ·have g3:¬f.K > (f.Kids.length:Int):=by omega
          simp [tk,hb,d,i,d1,g1,d2,g2,d3,g3]
         ·have g3:f.K > (f.Kids.length:Int):=by omega
          simp [tk,hb,d,i,d1,g1,d2,g2,d3,g3]
        ·have g2:f.K < 0:=by omega
         simp [tk,hb,d,i,d1,g1,d2,g2]
       ·have g1:((f.Kids.length:Int) < 1):=by omega
        simp [tk,hb,d,i,d1,g1]
      ·have i:((f.Kids.length:Int) > 8):=by omega
       simp [tk,hb,d,i]
    ·have a:f.Op < 1∨f.Op > 4:=by omega
     rcases a with a | a
     ·simp [a,j,u]
     ·have:¬f.Op < 1:=by omega
      simp [a,this,j,u]
theorem Jk (f:Formula) (h:Gd f):si f=some (pk f):=by
 have i:=zB f
 have d:=h
 unfold Gd at d
 unfold si pk
 rw [ZS kY f (by rw [my]; omega) h,aaJ kY f (by rw [my]; omega) h,aac kY f (by rw [my]; omega)]
 simp only [aA]
 by_cases c1:lQ f≤64
 ·have d1:((lQ f:Int)≤64):=by omega
  by_cases c2:pW f≤6
  ·have d2:((pW f:Int)≤6):=by omega
   simp [c1,c2,d1,d2]
  ·have d2:¬((pW f:Int)≤6):=by omega
   simp [c1,c2,d1,d2]
 ·have d1:¬((lQ f:Int)≤64):=by omega
  simp [c1,d1]
theorem Uz {f:Formula} (hw:uH f=true) (d:lQ f≤200):(CP f).length≤40*lQ f:=(T6 (pW f) f (aR _) hw [] (by simp; omega)).2
theorem Y9:∀(n:Nat) (f:Formula),pW f≤n→uH f=true→lQ f≤64→vZ n f=some (zM (CP f)):=by
 intro n
 induction n with
 | zero=>intro f h; rw [od] at h; omega
 | succ n ih=>
  intro f G hw M
  rw [od] at G
  have J:=qj f
  obtain ⟨h1,w,p⟩:=zr hw
  have i:0≤f.Op∧f.Op < 128:=by rcases p with h | h | h <;> omega
  have hlen:0≤(f.Kids.length:Int)∧(f.Kids.length:Int) < 128:=by omega
  have key:∀(ks:List Formula) (l:List Int),(∀k∈ks,k∈f.Kids)→wellL ks=true→l.length+40*nodesL ks≤8000→nodesL ks≤64→xb (vZ n) ks (zM l)=some (zM (l++bytesFL ks)):=by
   intro ks
   induction ks with
   | nil=>intro l _ _ _ _; rw [xb,bytesFL,aT]
   | cons k ks v=>
    intro l hk d I u
    rw [wellL,bn] at d
    rw [nodesL] at I u
    have hb:=Uz d.1 (by omega)
    rw [xb,ih k (by have:=tF (hk k (by simp)); omega) d.1 (by omega),aA,uQ _ _ (by omega),aA,
     v _ (λz L=>hk z (by simp [L])) d.2 (by simp; omega) (by omega),bytesFL,aM]
  rw [vZ]
  unfold Ea
  rw [Co i.1 i.2,aA,Nx]
  by_cases c1:f.Op=1
  ·have x:mw f.ku=true:=by rcases p with h | h | h; exact h.2.1; omega; omega
   have:=rh x
   simp only [c1,bP,aK]
   rw [E9 x,aA,uQ _ _ (by simp; omega)]
   rfl
  ·have A:(f.Op==1)=false:=by simpa using c1
   simp only [A,aB,aI,c1]
   by_cases j:f.Op=4
   ·have hk:0≤f.K∧f.K < 128:=by rcases p with h | h | h <;> omega
    simp only [j,bP,aK]
    rw [Co hk.1 hk.2,aA,uQ _ _ (by simp),aA,aA,Co hlen.1 hlen.2,aA,uQ _ _ (by simp),aA,
     key f.Kids _ (λk hk=>hk) w (by simp; omega) (by omega)]
    simp
   ·have E:(f.Op==4)=false:=by simpa using j
    simp only [E,aB,aI,j,aA]
    rw [Co hlen.1 hlen.2,aA,uQ _ _ (by simp),aA,key f.Kids _ (λk hk=>hk) w (by simp; omega) (by omega)]
    simp
theorem rWr (f:Formula) (h:Gd f):((si f).bind λr=>if r then (vZ kY f).bind λd=>some d else some zS)=some (zM (Ck f)):=by
 rw [Jk f h,aA]
 unfold Ck
 cases j:pk f
 ·rfl
 ·obtain ⟨h1,n,i⟩:=B6 j
  simp only [aK]
  rw [Y9 kY f (by rw [my]; omega) i h1,pI]
theorem OG (f g:Formula) (n:Gd f) (p:Gd g):∃c:Int,CE f g=some c∧(c > 0↔pQ FT g f=true):=by
 unfold CE
 rw [rWr f n,aA,rWr g p,aA,Cg,yf,yf,E8]
 rcases Dx (xt (Ck f)) (xt (Ck g)) with h | h | h
 ·rw [bD h]
  refine ⟨-1,rfl,iff_of_false (by omega) (λd=>?_)⟩
  have:=yU _ _ _ h d
  rw [xO] at this; cases this
 ·have e:lz (zM (Ck f)) (zM (Ck g))=true:=nE.2 (yr (by rw [yf,yf,h]))
  rw [h,xO,e]
  exact ⟨0,rfl,iff_of_false (by omega) (by simp)⟩
 ·have e:Op.bytesLess (xt (Ck f)) (xt (Ck g))=false:=by
   rw [←gG]
   intro d
   have:=yU _ _ _ h d
   rw [xO] at this; cases this
  have j:lz (zM (Ck f)) (zM (Ck g))=false:=by
   rw [←gG,nE]
   intro d
   have i:=bA (λs:ByteArray=>s.data.toList) d
   simp only [yf] at i
   rw [i,xO] at h; cases h
  rw [e,j]
  exact ⟨1,rfl,iff_of_true (by omega) h⟩
theorem aai:∀(n:Nat) (f:Formula),pW f≤n→∀g,∃b,qI n f g=some b∧(b=true↔f=g):=by
 intro n
 induction n with
 | zero=>intro f h; rw [od] at h; omega
 | succ n ih=>
  intro f h g
  rw [od] at h
  have key:∀(l m A:List Formula),(∀x∈l,x∈f.Kids)→g.Kids=A++m→l.length=m.length→∃b,xN g (qI n) l A.length=some b∧(b=true↔l=m):=by
   intro l
   induction l with
   | nil=>
    intro m A _ _ d
    obtain rfl:=aJ d.symm
    exact ⟨true,by rw [xN],by simp⟩
   | cons x l w=>
    intro m A v G d
    match m,d with
    | y::m,d=>
     obtain ⟨b,e,hb⟩:=ih x (by have:=tF (v x (by simp)); omega) y
     rw [xN,G,mz A y m _ rfl,aA,e,aA]
     cases b with
     | false=>
      refine ⟨false,rfl,?_⟩
      have:x≠y:=λj=>by have:=hb.2 j; simp at this
      simp [this]
     | true=>
      have j:=hb.1 rfl
      obtain ⟨b,E,i⟩:=w m (A++[y]) (λz I=>v z (by simp [I])) (by rw [G]; simp) (by simpa using d)
      rw [aC,gk] at E
      simp only [cI,aB,aI]
      rw [E]
      exact ⟨b,rfl,by rw [i]; simp [j]⟩
  rw [qI]
  unfold EG
  by_cases h1:f.Op=g.Op
  ·by_cases i:f.K=g.K
   ·by_cases p:f.ku=g.ku
    ·have u:kR f.ku g.ku=true:=lj.2 p
     by_cases d:f.Kids.length=g.Kids.length
     ·obtain ⟨b,e,hb⟩:=key f.Kids g.Kids [] (λx v=>v) rfl d
      rw [aZ] at e
      refine ⟨b,?_,hb.trans ⟨λhk=>Formula.ext' h1 i p hk,λhk=>by rw [hk]⟩⟩
      simp [h1,i,u,d,e]
     ·refine ⟨false,?_,by simp; intro hk; rw [hk] at d; exact d rfl⟩
      have:((f.Kids.length:Int) != (g.Kids.length:Int))=true:=by simp; omega
      simp [h1,i,u,this]
    ·have u:kR f.ku g.ku=false:=by rw [←gG,lj]; exact p
     exact ⟨false,by simp [h1,i,u],by simp; intro hk; rw [hk] at p; exact p rfl⟩
   ·exact ⟨false,by simp [h1,i],by simp; intro hk; rw [hk] at i; exact i rfl⟩
  ·exact ⟨false,by simp [h1],by simp; intro hk; rw [hk] at h1; exact h1 rfl⟩
theorem Hr (a b:Formula) (h:Gd a):qI kY a b=some (rD a b):=by
 have:=zB a
 unfold Gd at h
 obtain ⟨x,e,d⟩:=aai kY a (by rw [my]; omega) b
 rw [e]; congr 1
 rw [bK,d,AM]
section
variable {α:Type} {lt:α→α→Bool}
def Ki (lt:α→α→Bool) (l:List α):Prop:=l.Pairwise λx y=>lt y x=false
theorem F7 (h:SWO lt) (k:α):∀{l:List α},Ki lt l→∃A B,l=A++B∧(∀x∈A,lt k x=false)∧(∀x∈B,lt k x=true)
 | [],_=>⟨[],[],rfl,by simp,by simp⟩
 | x::l,p=>by
  obtain ⟨h1,i⟩:=bY.1 p
  cases e:lt k x with
  | true=>
   refine ⟨[],x::l,rfl,by simp,λy d=>?_⟩
   rcases aP.1 d with rfl | d
   ·exact e
   ·rcases h.Ls _ y _ e with q | q
    ·exact q
    ·rw [h1 y d] at q; cases q
  | false=>
   obtain ⟨A,B,rfl,j,n⟩:=F7 h k i
   exact ⟨x::A,B,rfl,λy d=>by
    rcases aP.1 d with rfl | d
    ·exact e
    ·exact j y d,n⟩
theorem HQ {k:α} {A B:List α} (i:∀x∈A,lt k x=false) (j:∀x∈B,lt k x=true):EB lt (A++B) k=A++k::B:=by
 unfold EB
 rw [jo,jo]
 rw [gJ.2 (λx d=>by rw [i x d]; rfl),fY.2 (λx d=>by rw [j x d]; simp),fY.2 (λx d=>by rw [i x d]; simp),gJ.2 (λx d=>j x d)]
 simp
theorem Nh (h:SWO lt) {k:α} {A B:List α} (d:Ki lt (A++B)) (i:∀x∈A,lt k x=false) (j:∀x∈B,lt k x=true):Ki lt (A++k::B):=by
 unfold Ki at *
 rw [dB] at *
 refine ⟨d.1,bY.2 ⟨λx n=>h.asym (j x n),d.2.1⟩,λa ha b hb=>?_⟩
 rcases aP.1 hb with rfl | hb
 ·exact i a ha
 ·exact d.2.2 a ha b hb
theorem VI (h:SWO lt) (l:List α):Ki lt (Bj lt l):=by
 suffices H:∀(l a:List α),Ki lt a→Ki lt (l.foldl (EB lt) a) from H l [] List.Pairwise.nil
 intro l
 induction l with
 | nil=>intro a ha; exact ha
 | cons k l ih=>
  intro a ha
  rw [eY]
  obtain ⟨A,B,rfl,d,i⟩:=F7 h k ha
  rw [HQ d i]
  exact ih _ (Nh h ha d i)
variable {eq:α→α→Bool}
theorem NK (he:∀x y,eq x y=true↔x=y) (k:α):∀(l:List α) (p:α),oX eq p (l++[k])=if eq k ((l.getLast?).getD p) then oX eq p l else oX eq p l++[k]
 | [],p=>by
  rw [aW,oX,oX]
  rfl
 | y::l,p=>by
  have e:((y::l).getLast?).getD p=(l.getLast?).getD y:=by cases l <;> rfl
  rw [bM,oX,oX,NK he k l y,e]
  by_cases h1:eq y p=true
  ·rw [bD h1,bD h1]
  ·rw [bG h1,bG h1]
   split <;> rfl
def DR (eq:α→α→Bool) (l:List α) (k:α):Bool:=match l.getLast? with | some y=>eq y k | none=>false
theorem UH (x:α) (l:List α):(x::l).getLast? =some ((l.getLast?).getD x):=by cases l <;> rfl
theorem XM (he:∀x y,eq x y=true↔x=y) (k:α) (l:List α):dd eq (l++[k])=if DR eq l k then dd eq l else dd eq l++[k]:=by
 cases l with
 | nil=>rfl
 | cons x l=>
  have d:dd eq ((x::l)++[k])=x::oX eq x (l++[k]):=rfl
  have i:dd eq (x::l)=x::oX eq x l:=rfl
  unfold DR
  rw [d,i,NK he,UH]
  simp only
  by_cases h:(l.getLast?).getD x=k
  ·rw [h,bD ((he k k).2 rfl),bD ((he k k).2 rfl)]
  ·rw [bG (λq=>h ((he _ _).1 q).symm),bG (λq=>h ((he _ _).1 q))]; rfl
theorem Qa (he:∀x y,eq x y=true↔x=y) (y:α) (B:List α):∀(l:List α) (p:α),y≠(l.getLast?).getD p→oX eq p (l++y::B)=oX eq p l++y::oX eq y B
 | [],p,h=>by
  have h:y≠p:=h
  rw [aW]
  have e:oX eq p (y::B)=if eq y p then oX eq y B else y::oX eq y B:=rfl
  rw [e,bG (λq=>h ((he _ _).1 q))]; rfl
 | z::l,p,h=>by
  have e:((z::l).getLast?).getD p=(l.getLast?).getD z:=by cases l <;> rfl
  rw [e] at h
  rw [bM,oX,oX,Qa he y B l z h]
  split <;> rfl
theorem UJ (he:∀x y,eq x y=true↔x=y) (A:List α):∀B:List α,(∀y,B.head? =some y→A.getLast?≠some y)→dd eq (A++B)=dd eq A++dd eq B
 | [],_=>by rw [aT]; show _=dd eq A++[]; rw [aT]
 | y::B,h=>by
  have h:=h y rfl
  cases A with
  | nil=>rfl
  | cons x A=>
   have e:(x::A).getLast? =some ((A.getLast?).getD x):=by cases A <;> rfl
   rw [e] at h
   rw [bM,dd,dd,dd,Qa he y B A x (λq=>h (by rw [q]))]; rfl
theorem NR (he:∀x y,eq x y=true↔x=y):∀(l:List α) (p:α),((oX eq p l).getLast?).getD p=(l.getLast?).getD p
 | [],p=>by rw [oX]
 | y::l,p=>by
  have e:((y::l).getLast?).getD p=(l.getLast?).getD y:=by cases l <;> rfl
  rw [oX,e,←NR he l y]
  by_cases h:eq y p=true
  ·rw [bD h,(he _ _).1 h]
  ·rw [bG h]
   cases oX eq y l <;> rfl
theorem Yr (he:∀x y,eq x y=true↔x=y) (l:List α):(dd eq l).getLast? =l.getLast?:=by
 cases l with
 | nil=>rfl
 | cons x l=>
  have e:∀m:List α,(x::m).getLast? =some ((m.getLast?).getD x):=by intro m; cases m <;> rfl
  rw [dd,e,e,NR he]
theorem Zq (h:SWO lt) (he:∀x y,eq x y=true↔x=y) {k:α} {A B:List α} (n:∀x∈A,lt k x=false) (j:∀x∈B,lt k x=true) :
  dd eq (A++B)=dd eq A++dd eq B∧dd eq (A++k::B)=(if DR eq A k then dd eq A else dd eq A++[k])++dd eq B:=by
 have h1:∀y,B.head? =some y→A.getLast?≠some y:=λy i d=>by
  have:=j y (List.mem_of_mem_head? i)
  rw [n y (List.mem_of_getLast? d)] at this; cases this
 refine ⟨UJ he A B h1,?_⟩
 have e:A++k::B=(A++[k])++B:=by simp
 rw [e,UJ he (A++[k]) B,XM he]
 intro y i d
 rw [gu] at d
 simp only [ie,Option.some_or,gm] at d
 have:=j y (List.mem_of_mem_head? i)
 rw [d,h.NB] at this; cases this
end
theorem Lw (l:List Formula) (k:Formula) (p:∀x∈l,Gd x) (hk:Gd k) (A:List Formula) (w:∀x∈A,pQ FT k x=false):∀(m:Nat) (B C:List Formula),B.length=m→l=A++B++C→(∀x∈B,pQ FT k x=true)→l.length≤1000000→∀n,m < n→
  wq l k n ((A.length+B.length:Nat):Int)=some (A.length:Int)
 | 0,B,C,hm,d,j,hlen,n+1,E=>by
  obtain rfl:=aJ hm
  rw [wq]
  simp only [aZ,fD]
  rcases cV A with rfl | ⟨A',y,rfl⟩
  ·rfl
  ·rw [dt] at *
   have hp:((A'++[y]).length:Int) > 0:=by simp
   simp only [hp,bB,aK]
   have hw:wi0 .i64 (((A'++[y]).length:Int)-1)=(A'.length:Int):=by
    simp at hlen d ⊢
    rw [d] at hlen
    simp at hlen
    rw [mc (by omega) (by omega)]
   rw [hw,show lD l (A'.length:Int)=some y from by rw [d]; simp only [aT,aM]; exact mz A' y C _ rfl,aA]
   have v:y∈l:=by rw [d]; simp
   obtain ⟨c,e,u⟩:=OG y k (p y v) hk
   have i:¬c > 0:=λq=>by have:=u.1 q; rw [w y (by simp)] at this; cases this
   rw [e,aA]
   simp [i]
 | m+1,B,C,hm,d,j,hlen,n+1,E=>by
  rcases cV B with rfl | ⟨B',y,rfl⟩
  ·simp at hm
  ·rw [dt] at *
   rw [wq]
   have hp:((A.length+(B'++[y]).length:Nat):Int) > 0:=by simp; omega
   simp only [hp,bB,aK]
   have hw:wi0 .i64 (((A.length+(B'++[y]).length:Nat):Int)-1)=((A.length+B'.length:Nat):Int):=by
    rw [d] at hlen
    simp at hlen
    rw [mc (by simp; omega) (by simp; omega)]; simp; omega
   have z:lD l ((A.length+B'.length:Nat):Int)=some y:=by
    rw [d]
    have e:A++(B'++[y])++C=(A++B')++y::C:=by simp
    rw [e]
    exact mz (A++B') y C _ (by simp)
   rw [hw,z,aA]
   have v:y∈l:=by rw [d]; simp
   obtain ⟨c,e,u⟩:=OG y k (p y v) hk
   have i:c > 0:=u.2 (j y (by simp))
   rw [e,aA]
   simp only [i,bB,aA,aK]
   exact Lw l k p hk A w m B' (y::C) (by simp at hm; omega) (by rw [d]; simp) (λx G=>j x (by simp [G])) hlen n (by omega)
theorem aaW {b:Bool} (h:b=true):vB b=some ():=by rw [h]; rfl
theorem JY (d:Bool) (k:Formula) (ks A B:List Formula) (v:∀x∈A++B,Gd x) (hk:Gd k) (w:∀x∈A,pQ FT k x=false) (z:∀x∈B,pQ FT k x=true) (hlen:(A++B).length≤1000000) :
  oL d (k::ks) (A++B)=if d&&DR rD A k then oL d ks (A++B) else oL d ks (A++k::B):=by
 have u:=Lw (A++B) k v hk A w B.length B [] rfl (by simp) z hlen kY (by rw [my]; simp at hlen; omega)
 have i:A.length+B.length≤1000000:=by simpa using hlen
 rw [oL,aC,u,aA]
 have rest:((vB (decide ((0:Int)≤(A.length:Int))&&decide ((A.length:Int)≤((A++B).length:Int)))).bind λ_=>(nm 72 ([]) ((A++B).take (Int.toNat (A.length:Int)))).bind λj=>(nm 72 j ([k])).bind λn=>(vB (decide ((0:Int)≤(A.length:Int))&&decide ((A.length:Int)≤((A++B).length:Int)))).bind λ_=>(nm 72 n ((A++B).drop (Int.toNat (A.length:Int)))).bind λp=>oL d ks p)=oL d ks (A++k::B):=by
  rw [aaW (by simp; omega),aA,dq,jf,List.drop_left,ns (by simp; omega) (by simp; omega),aA,ns (by simp; omega) (by simp; omega),aA,aA,ns (by simp; omega) (by simp; omega),aA]
  simp
 rw [aC] at rest
 cases d with
 | false=>exact rest
 | true=>
  simp only [aK,aA,dZ]
  rcases cV A with rfl | ⟨A',y,rfl⟩
  ·exact rest
  ·rw [dt] at *
   have hp:((A'++[y]).length:Int) > 0:=by simp
   simp only [hp,bB,aK]
   have hw:wi0 .i64 (((A'++[y]).length:Int)-1)=(A'.length:Int):=by
    simp at i ⊢
    rw [mc (by omega) (by omega)]
   have G:lD ((A'++[y])++B) (A'.length:Int)=some y:=by
    simp only [aM,bM,aW]
    exact mz A' y B _ rfl
   rw [hw,G,aA,Hr y k (v y (by simp)),aA,aA]
   have E:DR rD (A'++[y]) k=rD y k:=by unfold DR; rw [gu]; rfl
   rw [E]
   cases rD y k
   ·simp only [aB,aI]; exact rest
   ·rfl
theorem Mq {x:Formula} {l:List Formula} (h:x∈dd rD l):x∈l:=(Pn (λ_ _=>AM) l x).1 h
theorem Ko:∀(ks S:List Formula),Ki (pQ FT) S→(∀x∈S,Gd x)→(∀x∈ks,Gd x)→S.length+ks.length≤1000000→oL true ks (dd rD S)=some (dd rD (ks.foldl (EB (pQ FT)) S))
 | [],S,_,_,_,_=>by rw [oL]; rfl
 | k::ks,S,u,n,hk,v=>by
  rw [aG] at v
  obtain ⟨A,B,rfl,i,j⟩:=F7 Nv k u
  obtain ⟨w,z⟩:=Zq (eq:=rD) Nv (λ_ _=>AM) i j
  have p:=Qj rD (A++B)
  rw [w] at p ⊢
  rw [JY true k ks (dd rD A) (dd rD B) (λx d=>by
   rcases aO.1 d with h | h
   ·exact n x (by simp [Mq h])
   ·exact n x (by simp [Mq h])) (hk k (by simp)) (λx d=>i x (Mq d)) (λx d=>j x (Mq d)) (by omega),eY,HQ i j]
  have E:DR rD (dd rD A) k=DR rD A k:=by unfold DR; rw [Yr (eq:=rD) (λ_ _=>AM)]
  rw [E,dZ]
  have ih:=Ko ks (A++k::B) (Nh Nv u i j) (λx d=>by
   rcases aO.1 d with h | h
   ·exact n x (by simp [h])
   ·rcases aP.1 h with rfl | h
    ·exact hk _ (by simp)
    ·exact n x (by simp [h])) (λx d=>hk x (by simp [d])) (by simp at v ⊢; omega)
  rw [z] at ih
  cases hb:DR rD A k
  ·rw [hb] at ih
   simp only [aB,aI] at ih ⊢
   rw [←ih]; simp
  ·rw [hb] at ih
   simp only [aK] at ih ⊢
   exact ih
theorem Mb:∀(ks S:List Formula),Ki (pQ FT) S→(∀x∈S,Gd x)→(∀x∈ks,Gd x)→S.length+ks.length≤1000000→oL false ks S=some (ks.foldl (EB (pQ FT)) S)
 | [],S,_,_,_,_=>by rw [oL]; rfl
 | k::ks,S,p,j,hk,u=>by
  rw [aG] at u
  obtain ⟨A,B,rfl,d,i⟩:=F7 Nv k p
  rw [JY false k ks A B j (hk k (by simp)) d i (by omega),eY,HQ d i,gr]
  simp only [aB,aI]
  exact Mb ks (A++k::B) (Nh Nv p d i) (λx n=>by
   rcases aO.1 n with h | h
   ·exact j x (by simp [h])
   ·rcases aP.1 h with rfl | h
    ·exact hk _ (by simp)
    ·exact j x (by simp [h])) (λx n=>hk x (by simp [n])) (by simp at u ⊢; omega)
theorem aaq (l:List Formula) (h:∀x∈l,Gd x) (d:l.length≤1000000):AJ l true=some (dd rD (yx l)):=Ko l [] List.Pairwise.nil (by simp) h (by simpa using d)
theorem aa2 (l:List Formula) (h:∀x∈l,Gd x) (d:l.length≤1000000):AJ l false=some (yx l):=Mb l [] List.Pairwise.nil (by simp) h (by simpa using d)
theorem JB (f:Formula) (op:Int):Az f op=some (mP op f):=HO f op
theorem OI (op:Int) (d:op=2∨op=3) (s:oU):∀l:List Formula,ui op s l=some (if l.any (mP (5-op)) then .inl (⟨5-op,0,tk,[]⟩,s) else .inr ())
 | []=>rfl
 | x::l=>by
  have hw:wi0 .i64 (5-op)=5-op:=mc (by omega) (by omega)
  rw [ui,hw,JB,aA,gQ,OI op d s l]
  cases mP (5-op) x <;> rfl
theorem Uv (op:Int) (d:op=2∨op=3) (l:List Formula) (v:nodesL l≤64):pS op ⟨false⟩ [] l=some (if l.any (mP (5-op)) then ⟨5-op,0,tk,[]⟩ else match dd rD (yx l) with | [x]=>x | r=>⟨op,0,tk,r⟩,⟨false⟩):=by
 have n:=sO l
 rw [pS,OI op d,aA]
 cases p:l.any (mP (5-op))
 ·simp only [aB,aI]
  rw [aaq l (λx j=>by have:=vx j; unfold Gd; omega) (by omega),aA]
  have u:=Qj rD (yx l)
  have hp:=(Cp l).length_eq
  have i:¬(((dd rD (yx l)).length:Int) > 64):=by omega
  simp only [i,bN,aB,aI,aA]
  generalize dd rD (yx l)=r
  match r with
  | []=>rfl
  | [x]=>rfl
  | x::y::r=>
   have:(((x::y::r).length:Int)==1)=false:=by simp; omega
   simp only [this,aB,aI]
   rfl
 ·rfl
theorem KW (op:Int) (d:op=2∨op=3):∀(ks acc:List Formula),nodesL acc+nodesL ks≤64→
  pS op ⟨false⟩ ks acc=some (if (acc++qx op ks).any (mP (5-op)) then ⟨5-op,0,tk,[]⟩ else match dd rD (yx (acc++qx op ks)) with | [x]=>x | r=>⟨op,0,tk,r⟩,⟨false⟩)
 | [],acc,h=>by
  rw [nodesL] at h
  rw [qx,aT]
  exact Uv op d acc (by omega)
 | k::ks,acc,h=>by
  rw [nodesL] at h
  have h1:=qj k
  have p:=sO k.Kids
  have u:=sO acc
  have e:∀a b:List Formula,nodesL (a++b)=nodesL a+nodesL b:=by
   intro a b
   induction a with
   | nil=>rw [aW,nodesL]; omega
   | cons x a i=>rw [bM,nodesL,nodesL,i]; omega
  have hw:wi0 .i64 (5-op)=5-op:=mc (by omega) (by omega)
  rw [pS,qx]
  by_cases c:k.Op=op
  ·simp only [c,bP,aK]
   rw [ns (by omega) (by omega),aA,KW op d ks _ (by rw [e]; omega),aM]
  ·have j:(k.Op==op)=false:=by simpa using c
   simp only [j,aB,aI,c]
   rw [JB,hw,aA]
   cases n:mP (5-op) k
   ·simp only [aB,aI]
    rw [ns (by simp; omega) (by simp; omega),aA,KW op d ks _ (by rw [e,nodesL,nodesL]; omega),aM]
   ·simp only [aK]
    have:(acc++([k]++qx op ks)).any (mP (5-op))=true:=by simp [n]
    rw [this]; rfl
theorem Sq (op:Int) (d:op=2∨op=3) (ks:List Formula) (h:nodesL ks≤64):tS ⟨false⟩ op ks=some (sv op ks,⟨false⟩):=by
 unfold tS sv
 rw [KW op d ks [] (by rw [nodesL]; omega),aW]
 rfl
theorem Gk:∀(ks acc:List Formula) (k:Int),-1000≤k-(ks.length:Int)→k≤1000→acc.length+ks.length≤1000→
  pG ks k acc=some (k-((ks.filter (mP 2)).length:Int),acc++ks.filter λx=>!mP 2 x&&!mP 3 x)
 | [],acc,k,h1,d,i=>by rw [pG]; simp
 | x::ks,acc,k,h1,d,i=>by
  simp only [aG] at h1 i
  rw [pG,JB,aA,JB,aA]
  rw [cZ,cZ]
  cases c2:mP 2 x
  ·cases j:mP 3 x
   ·simp only [cR,gS,aB,aI,aK]
    rw [ns (by simp; omega) (by simp; omega),aA,Gk ks _ k (by omega) d (by simp; omega)]
    simp only [aM,bM,aW]
   ·simp only [cR,cI,jr,aB,aI]
    rw [Gk ks _ k (by omega) d (by omega)]
  ·simp only [cI,gr,aB,aI,aK]
   rw [mc (by omega) (by omega),Gk ks _ (k-1) (by omega) (by omega) (by omega)]
   simp only [aG]
   have e:k-1-((ks.filter (mP 2)).length:Int)=k-(((ks.filter (mP 2)).length+1:Nat):Int):=by omega
   rw [e]
theorem Zm:∀(n:Nat) (f:Formula),pW f≤n→lQ f≤64→uH f=true→rz n ⟨false⟩ f=some (tp f,⟨false⟩):=by
 intro n
 induction n with
 | zero=>intro f h; rw [od] at h; omega
 | succ n ih=>
  intro f M T hw
  rw [od] at M
  have O:=qj f
  obtain ⟨h1,L,E⟩:=zr hw
  rw [rz]
  unfold yP
  rw [Gr]
  by_cases c1:f.Op=1
  ·simp only [c1,bP,aK]
  ·have G:(f.Op==1)=false:=by simpa using c1
   simp only [G,aB,aI,c1]
   have last:∀acc:List Formula,nodesL acc≤64→qp (rz n) f [] acc ⟨false⟩=some (if f.Op=4 then we f.K acc else sv f.Op acc,⟨false⟩):=by
    intro acc i
    have hlen:=sO acc
    have R:=CZ (λx=>!mP 2 x&&!mP 3 x) acc
    rw [qp]
    by_cases A:f.Op=4
    ·have hk:0≤f.K∧f.K≤(f.Kids.length:Int):=by rcases E with h | h | h <;> omega
     have u:¬f.Op < 4:=by omega
     simp only [u,A,bN,aB,aI,aK]
     rw [Gk acc [] f.K (by omega) (by omega) (by simp; omega),aA,aW]
     unfold we
     simp only
     have p:=sO (acc.filter λx=>!mP 2 x&&!mP 3 x)
     have hm:∀x∈(acc.filter λx=>!mP 2 x&&!mP 3 x),Gd x:=λx P=>by have:=vx P; unfold Gd; omega
     generalize (acc.filter λx=>!mP 2 x&&!mP 3 x)=l at *
     generalize f.K-((acc.filter (mP 2)).length:Int)=k
     by_cases d1:k≤0
     ·simp only [d1,bB,aK]; rfl
     ·simp only [d1,bN,aB,aI]
      by_cases d2:k > (l.length:Int)
      ·simp only [d2,bB,aK]; rfl
      ·simp only [d2,bN,aB,aI]
       by_cases d3:k=(l.length:Int)
       ·simp only [←d3,bP,aK]
        rw [Sq 2 (.inl rfl) l (by omega),aA]
        rfl
       ·have I:(k==(l.length:Int))=false:=by simpa using d3
        simp only [I,aB,aI,d3]
        by_cases d4:k=1
        ·simp only [d4,bP,aK]
         rw [Sq 3 (.inr rfl) l (by omega),aA]
         rfl
        ·have J:(k==1)=false:=by simpa using d4
         simp only [J,aB,aI,d4]
         rw [aa2 l hm (by omega)]
         rfl
    ·have v:f.Op=2∨f.Op=3:=by rcases E with h | h | h <;> omega
     have u:f.Op < 4:=by omega
     simp only [u,A,bB,aK,aI]
     rw [Sq f.Op v acc i,aA]
   have key:∀(ks acc:List Formula),(∀k∈ks,k∈f.Kids)→wellL ks=true→nodesL (acc++shapeL ks)≤64→nodesL ks≤64→qp (rz n) f ks acc ⟨false⟩=some (if f.Op=4 then we f.K (acc++shapeL ks) else sv f.Op (acc++shapeL ks),⟨false⟩):=by
    intro ks
    induction ks with
    | nil=>
     intro acc _ _ i _
     rw [shapeL,aT] at *
     exact last acc i
    | cons k ks w=>
     intro acc hk d i p
     rw [wellL,bn] at d
     rw [nodesL] at p
     rw [shapeL] at i
     have j:=sO (acc++tp k::shapeL ks)
     simp only [aC,aG] at j
     rw [qp,ih k (by have:=tF (hk k (by simp)); omega) (by omega) d.1,aA,ns (by simp; omega) (by simp; omega),aA,
      w (acc++[tp k]) (λz Q=>hk z (by simp [Q])) d.2 (by rw [aM]; exact i) (by omega),shapeL]
     simp only [aM,bM,aW]
   have:=IB f.Kids
   have:=key f.Kids [] (λk hk=>hk) L (by simpa using by omega) (by omega)
   simpa using this
theorem XB (f:Formula) (h:Gd f):EP f=some (Cd f):=by
 unfold EP Cd
 rw [Jk f h,aA]
 cases i:pk f
 ·rfl
 ·obtain ⟨h1,j,d⟩:=B6 i
  have n:=D2 f
  simp only [cI,aB,aI,aK]
  rw [Zm kY f (by rw [my]; omega) h1 d,aA,Jk (tp f) (by unfold Gd; omega)]
  simp only [aB,aI,aA]
  cases pk (tp f) <;> rfl
theorem MI (c:kv):∀(l:List mr) (e o k:Int) (r:ku) (ks:List Formula),(∀a∈l,lQ a.ky≤10000000)→lQ ⟨o,k,r,ks⟩≤64→
  xy c l e o k r ks=some (let t:=sE (⟨o,k,r,ks⟩,e) ((l.filter λa=>rk ll a.lT c).map (·.ky)); (t.2,t.1.Op,t.1.K,t.1.ku,t.1.Kids))
 | [],e,o,k,r,ks,_,_=>by rw [xy,gd,dN,sE]
 | a::l,e,o,k,r,ks,h,u=>by
  have ha:=h a (by simp)
  have n:∀x∈l,lQ x.ky≤10000000:=λx z=>h x (by simp [z])
  rw [xy,cZ,MW]
  by_cases i:e=0
  ·have j:(e==0)=true:=by simp [i]
   simp only [j,aK,aA]
   cases hb:rk ll a.lT c
   ·simp only [aB,aI]
    exact MI c l e o k r ks n u
   ·simp only [aK]
    rw [aU,sE]
    simp only [i,aK]
    have v:Gd ⟨2,0,tk,[⟨o,k,r,ks⟩,a.ky]⟩:=by show lQ _≤_; rw [lQ,nodesL,nodesL,nodesL]; omega
    rw [show (⟨2,0,(⟨zS,zS⟩:ku),[(⟨o,k,r,ks⟩:Formula),a.ky]⟩:Formula)=⟨2,0,tk,[⟨o,k,r,ks⟩,a.ky]⟩ from rfl,XB _ v,aA]
    have w:=Cj (f:=⟨2,0,tk,[⟨o,k,r,ks⟩,a.ky]⟩)
    generalize Cd ⟨2,0,tk,[⟨o,k,r,ks⟩,a.ky]⟩=q at *
    obtain ⟨⟨A,k',E,p⟩,e'⟩:=q
    exact MI c l e' A k' E p n w
  ·have j:(e==0)=false:=by simpa using i
   simp only [j,aB,aI,aA]
   rw [MI c l e o k r ks n u]
   have d:∀m:List Formula,sE (⟨o,k,r,ks⟩,e) m=(⟨o,k,r,ks⟩,e):=by
    intro m
    cases m with
    | nil=>rw [sE]
    | cons g m=>rw [sE]; simp only [i,aI]
   rw [d,d]
theorem TV (c:kv) (p:lB) (hp:PB p):∀l:List kU,(∀x∈l,x∈p.kE)→BU c p l=some (match l.find? (λx=>ll x.Signed.kv c) with | none=>(Kg,42) | some x=>Je x.ky ((zh p c).map (·.ky)))
 | [],_=>rfl
 | x::l,h=>by
  rw [BU,eZ]
  cases hb:ll x.Signed.kv c
  ·simp only [cR,aK]
   exact TV c p hp l (λz j=>h z (by simp [j]))
  ·simp only [cI,aB,aI]
   have u:=hp.rel x (h x (by simp))
   have i:=Cj (f:=x.ky)
   rw [XB _ (by unfold Gd; omega),aA]
   unfold Je zh
   generalize Cd x.ky=q at *
   obtain ⟨⟨o,k,r,ks⟩,e⟩:=q
   rw [MI c p.kQ e o k r ks hp.HH i,aA]
   simp only
   generalize sE (⟨o,k,r,ks⟩,e) ((p.kQ.filter λa=>rk ll a.lT c).map (·.ky))=t
   obtain ⟨⟨v,k',w,n⟩,e'⟩:=t
   by_cases c1:e'=0
   ·subst c1; rfl
   ·have d:(e' != 0)=true:=by simp [c1]
    simp only [d,aK,c1,aI]; rfl
theorem aas (p:lB) (hp:PB p) (c:kv):HX p c=some (qk p c):=by
 unfold HX qk DW
 refine (TV c p hp _ (λx d=>d)).trans ?_
 cases p.kE.find? (λx=>ll x.Signed.kv c) <;> rfl
theorem aaU (l:List ku) (r:ku):GG l r=some (rk kR l r):=by
 unfold GG
 induction l with
 | nil=>rfl
 | cons x l ih=>
  rw [Dv,ih]
  have e:rk kR (x::l) r=(kR r x||rk kR l r):=rfl
  have d:kR x r=kR r x:=by rw [bK,lj,lj]; exact eq_comm
  rw [e,d]
  cases kR r x <;> rfl
theorem KG (l:List ku) (rec:Formula→List ku→Option Bool) (f:Formula) (v:ku→Bool):∀(ks:List Formula) (x:Nat),(∀k∈ks,rec k l=some (tq v k))→x+ks.length≤100000000→
  vR rec l f ks (x:Int)=some (if f.Op=2 then decide (x+evN v ks=f.Kids.length) else if f.Op=3 then decide (0 < x+evN v ks) else decide (f.K≤((x+evN v ks:Nat):Int)))
 | [],x,_,_=>by
  rw [vR,evN,fD]
  by_cases c2:f.Op=2
  ·simp only [c2,bP,aK]
   congr 1
   rw [bK,fF,bH]; omega
  ·have i:(f.Op==2)=false:=by simpa using c2
   simp only [i,aB,aI,c2]
   by_cases d:f.Op=3
   ·simp only [d,bP,aK]
    congr 1
    rw [bK,bH,bH]; omega
   ·have n:(f.Op==3)=false:=by simpa using d
    simp only [n,aB,aI,d]
    first | done | rfl
 | k::ks,x,h,p=>by
  rw [aG] at p
  rw [vR,h k (by simp),aA,evN]
  cases tq v k
  ·simp only [aB,aI]
   rw [KG l rec f v ks x (λz j=>h z (by simp [j])) (by omega),eO]
  ·simp only [aK]
   have e:wi0 .i64 ((x:Int)+1)=((x+1:Nat):Int):=by rw [mc (by omega) (by omega)]; omega
   rw [e,KG l rec f v ks (x+1) (λz j=>h z (by simp [j])) (by omega)]
   have i:x+1+evN v ks=x+(1+evN v ks):=by omega
   rw [i]
theorem Xh (l:List ku):∀(n:Nat) (f:Formula),pW f≤n→Gd f→yu n f l=some (tq (rk kR l) f):=by
 intro n
 induction n with
 | zero=>intro f h; rw [od] at h; omega
 | succ n ih=>
  intro f i j
  rw [od] at i
  have p:=qj f
  have u:=sO f.Kids
  unfold Gd at j
  rw [yu]
  unfold EI
  rw [Bx,aaU]
  by_cases c1:f.Op=1
  ·simp only [c1,bP,aK,aA]
  ·have d:(f.Op==1)=false:=by simpa using c1
   simp only [d,aB,aI,c1]
   have:=KG l (yu n) f (rk kR l) f.Kids 0 (λk hk=>ih k (by have:=tF hk; omega) (by have:=vx hk; unfold Gd; omega)) (by omega)
   simpa using this
theorem N7 (F:List kV) (w:ByteArray):rk kR (LX F w)=vF F w:=by
 funext r
 unfold vF LX
 rw [bK,wg lj,wg Bn,aS]
 constructor
 ·rintro ⟨f,i,rfl⟩
  obtain ⟨h1,d⟩:=bU.1 i
  have:=nE.1 d
  rw [←this]; exact h1
 ·intro h
  exact ⟨⟨r,w⟩,bU.2 ⟨h,nE.2 rfl⟩,rfl⟩
theorem HT (p:lB) (hp:PB p) (l:List ku) (v:ku→Bool) (d:rk kR l=v):∀(xs:List kU) (acc:List kv),acc.length+xs.length≤1000000000→vQ p l xs acc=BB (acc++(xs.filter (D1 p v)).map (·.Signed.kv))
 | [],acc,_=>by rw [vQ,gd,dN,aT,pI]
 | x::xs,acc,h=>by
  rw [aG] at h
  have n:=Nw p x.Signed.kv
  have j:=zB (qk p x.Signed.kv).1
  rw [vQ,aas p hp,aA,Xh l kY _ (by rw [my]; omega) (by unfold Gd; omega),d,cZ]
  unfold D1
  by_cases c:(qk p x.Signed.kv).2=0
  ·have i:=(Ua c).1
   simp only [c,bP,aK,bB,dZ,aA]
   unfold xg
   rw [i,dZ]
   cases u:tq v (qk p x.Signed.kv).1
   ·simp only [aB,aI]
    exact HT p hp l v d xs acc (by omega)
   ·simp only [aK]
    rw [ns (by simp; omega) (by simp; omega),aA,HT p hp l v d xs _ (by simp; omega)]
    simp only [aU,aM,bM,aW]
    rfl
  ·have e:((qk p x.Signed.kv).2==0)=false:=by simpa using c
   simp only [e,aB,aI,c,bN,gr,aA]
   exact HT p hp l v d xs acc (by omega)
theorem aad {l:List kv} {F:List kV} (h:SR l F) (peer:ByteArray):vF F peer=vD l peer:=by
 funext r
 rw [bK,P0]
 unfold vF
 rw [wg Bn,(h.Bd (l.filter mM) (λc=>by rw [bU])).2]
theorem Xr (p:lB) (hp:PB p) (l:List kv) (j:l.length≤30000) (peer:ByteArray):CY p l peer=vy p l peer:=by
 obtain ⟨F,d⟩:=Z9 l j
 obtain ⟨s,e,n⟩:=XU p hp d peer
 have:=hp.BR
 have h1:(p.kE.filter (D1 p (vF F peer))).length≤p.kE.length:=dE _ _
 have hlen:=d.len
 unfold CY
 rw [d.ref,aA,show xw F peer=some (LX F peer) from TX F peer (by omega),aA,e]
 rw [HT p hp _ (vF F peer) (N7 F peer) p.kE [] (by simp; omega),aW]
 obtain ⟨t,i,u⟩:=Nk ((p.kE.filter (D1 p (vF F peer))).map (·.Signed.kv)) (by simp; omega)
 rw [i,wz.unique zL u n]
theorem QA:∀(l m A:List kv),l.length=m.length→∃b,xP (A++m) l A.length=some b∧(b=true↔l=m)
 | [],m,A,i=>by
  obtain rfl:=aJ i.symm
  exact ⟨true,by rw [xP],by simp⟩
 | x::l,[],A,i=>by simp at i
 | x::l,y::m,A,i=>by
  have i1:lD (A++y::m) (A.length:Int)=some y:=mz _ _ _ _ rfl
  rw [xP,i1,aA]
  cases hb:ll x y with
  | false=>
   refine ⟨false,by simp [hb],?_⟩
   have:x≠y:=λd=>by have:=om.2 d; rw [this] at hb; cases hb
   simp [this]
  | true=>
   have d:=om.1 hb
   obtain ⟨b,j,u⟩:=QA l m (A++[y]) (by simpa using i)
   have n:A++y::m=(A++[y])++m:=by simp
   have p:A.length+1=(A++[y]).length:=by simp
   simp only [cI,aB,aI]
   rw [n,p,j]
   exact ⟨b,rfl,by rw [u]; simp [d]⟩
theorem Xo (l m:List kv):∃b,vz l m=some b∧(b=true↔l=m):=by
 unfold vz
 by_cases h:l.length=m.length
 ·have:((l.length:Int) != (m.length:Int))=false:=by simp [h]
  simp only [this,aB,aI]
  exact QA l m [] h
 ·have:((l.length:Int) != (m.length:Int))=true:=by simp; omega
  simp only [this,aK]
  exact ⟨false,rfl,by simp; intro hk; rw [hk] at h; exact h rfl⟩
theorem PD {x p:List kv} (sx:rE x) (sp:rE p) (h:∀c∈x,c∈p):vz p x=some (decide (p.length=x.length)):=by
 obtain ⟨b,e,hb⟩:=Xo p x
 rw [e]; congr 1
 rw [bK,hb,bH]
 exact ⟨λq=>by rw [q],λq=>(sx.eq sp h (by omega)).symm⟩
theorem Lx (a b:lB) (ha:PB a) (hb:PB b) (G:a.kE.length≤30000) (I:b.kE.length≤30000):∀(n:Nat) (x y:List kv) (i:Int),rE x→rE y→(∀c∈x,wj a y b.Name c)→(∀c∈y,wj b x a.Name c)→
  zo a b n x y i=sr a b n x y i
 | 0,x,y,i,sx,sy,j,u=>by rw [zo,sr]
 | n+1,x,y,i,sx,sy,j,u=>by
  have h1:=Ch sx (λc d=>(j c d).1)
  have J:=Ch sy (λc d=>(u c d).1)
  obtain ⟨p,A,sp,mp,L⟩:=Oy a ha y (by omega) b.Name
  obtain ⟨q,E,sq,v,M⟩:=Oy b hb x (by omega) a.Name
  have w:∀c∈x,c∈p:=λc d=>(mp c).2 (j c d)
  have z:∀c∈y,c∈q:=λc d=>(v c).2 (u c d)
  rw [zo,sr,Xr a ha y (by omega),Xr b hb x (by omega),A,E]
  simp only [aA]
  rw [PD sx sp w,PD sy sq z]
  simp only [aA]
  have ih:=Lx a b ha hb G I n p q (wi0 .i64 (i+1)) sp sq (λc d=>zz z ((mp c).1 d)) (λc d=>zz w ((v c).1 d))
  rw [ih]
  have d1:((p.length:Int)==(x.length:Int))=decide (p.length=x.length):=by
   rw [bK,fF,bH]; omega
  have d2:((q.length:Int)==(y.length:Int))=decide (q.length=y.length):=by
   rw [bK,fF,bH]; omega
  rw [d1,d2]
theorem M3 (a b:lB) (ha:PB a) (hb:PB b) (d:a.kE.length≤30000) (i:b.kE.length≤30000):Cw a b=zt a b :=
 Lx a b ha hb d i kY [] [] 0 rE.nil rE.nil (by simp) (by simp)
mutual
def Di:Formula→Nat
 | ⟨_,_,r,ks⟩=>1+r.kw.size+r.Word.size+szFL ks
def szFL:List Formula→Nat
 | []=>0
 | k::ks=>Di k+szFL ks
end
theorem P8 (f:Formula):Di f=1+f.ku.kw.size+f.ku.Word.size+szFL f.Kids:=by cases f; rw [Di]
theorem Gm:∀f:Formula,lQ f≤Di f:=by
 refine OR λf ih=>?_
 have:∀ks:List Formula,(∀k∈ks,lQ k≤Di k)→nodesL ks≤szFL ks:=by
  intro ks
  induction ks with
  | nil=>intro _; rw [nodesL]; omega
  | cons k ks d=>
   intro h
   have:=d (λx i=>h x (by simp [i]))
   have:=h k (by simp)
   rw [nodesL,szFL]; omega
 have:=this f.Kids ih
 rw [qj,P8]; omega
def B0:List kv→Nat
 | []=>0
 | c::l=>20+BS c+B0 l
theorem g5:∀(l:List kv) (n:Int),0≤n→n+(B0 l:Int)≤4000000000000000000→uT l n=some (n+(B0 l:Int))
 | [],n,_,_=>by rw [uT,B0]; simp
 | c::l,n,d,hb=>by
  have e:BS c=c.Head.kw.size+c.Head.Word.size+c.lO.size+c.B.kw.size+c.B.Word.size+c.C.kw.size+c.C.Word.size+c.mg.size:=rfl
  rw [B0] at hb
  rw [uT]
  rw [mc (x:=20+(c.Head.kw.size:Int)) (by omega) (by omega),mc (x:=20+(c.Head.kw.size:Int)+(c.Head.Word.size:Int)) (by omega) (by omega),mc (x:=20+(c.Head.kw.size:Int)+(c.Head.Word.size:Int)+(c.lO.size:Int)) (by omega) (by omega),mc (x:=20+(c.Head.kw.size:Int)+(c.Head.Word.size:Int)+(c.lO.size:Int)+(c.B.kw.size:Int)) (by omega) (by omega),mc (x:=20+(c.Head.kw.size:Int)+(c.Head.Word.size:Int)+(c.lO.size:Int)+(c.B.kw.size:Int)+(c.B.Word.size:Int)) (by omega) (by omega),mc (x:=20+(c.Head.kw.size:Int)+(c.Head.Word.size:Int)+(c.lO.size:Int)+(c.B.kw.size:Int)+(c.B.Word.size:Int)+(c.C.kw.size:Int)) (by omega) (by omega),mc (x:=20+(c.Head.kw.size:Int)+(c.Head.Word.size:Int)+(c.lO.size:Int)+(c.B.kw.size:Int)+(c.B.Word.size:Int)+(c.C.kw.size:Int)+(c.C.Word.size:Int)) (by omega) (by omega),mc (x:=20+(c.Head.kw.size:Int)+(c.Head.Word.size:Int)+(c.lO.size:Int)+(c.B.kw.size:Int)+(c.B.Word.size:Int)+(c.C.kw.size:Int)+(c.C.Word.size:Int)+(c.mg.size:Int)) (by omega) (by omega),mc (by omega) (by omega)]
  rw [g5 l _ (by omega) (by omega),B0]
  congr 1; omega
theorem g11:∀(n:Nat) (l:List Formula),deepL l < n→szFL l≤1000000000000→∃r:Int,rn n l=some r∧0≤r∧r≤(szFL l:Int):=by
 intro n
 induction n with
 | zero=>intro l h; omega
 | succ n ih=>
  intro l h p
  rw [rn]
  unfold Af
  have key:∀(l:List Formula) (x:Int),deepL l < n+1→0≤x→x+(szFL l:Int)≤1000000000000→∃r:Int,uZ (rn n) l x=some r∧0≤r∧r≤x+(szFL l:Int):=by
   intro l
   induction l with
   | nil=>intro x _ u _; exact ⟨x,by rw [uZ],u,by rw [szFL]; simp⟩
   | cons k l j=>
    intro x h u p
    rw [deepL] at h
    rw [szFL] at p
    have hk:=P8 k
    have:=od k
    obtain ⟨r,e,h1,v⟩:=ih k.Kids (by omega) (by omega)
    rw [uZ,e,aA]
    have A:0≤Int.tdiv ((k.ku.kw.size:Int)+(k.ku.Word.size:Int)) 16∧Int.tdiv ((k.ku.kw.size:Int)+(k.ku.Word.size:Int)) 16≤(k.ku.kw.size:Int)+(k.ku.Word.size:Int):=by
     rw [Int.tdiv_eq_ediv_of_nonneg (by omega)]
     omega
    rw [mc (x:=(k.ku.kw.size:Int)+(k.ku.Word.size:Int)) (by omega) (by omega)]
    generalize Int.tdiv ((k.ku.kw.size:Int)+(k.ku.Word.size:Int)) 16=d at *
    rw [mc (x:=d) (by omega) (by omega),mc (x:=1+d) (by omega) (by omega),mc (x:=1+d+r) (by omega) (by omega),mc (x:=x+(1+d+r)) (by omega) (by omega)]
    obtain ⟨z,e',i,w⟩:=j (x+(1+d+r)) (by omega) (by omega) (by omega)
    exact ⟨z,e',i,by rw [szFL]; omega⟩
  obtain ⟨r,e,h1,v⟩:=key l 0 h (by omega) (by omega)
  exact ⟨r,e,h1,by omega⟩
theorem M4 (f:Formula) (h:Di f≤50000000):∃r:Int,rn kY [f]=some r∧0≤r∧r≤(Di f:Int):=by
 have h1:=Gm f
 have d:=zB f
 obtain ⟨r,e,a,b⟩:=g11 kY [f] (by rw [deepL,deepL,my]; omega) (by rw [szFL,szFL]; omega)
 refine ⟨r,e,a,?_⟩
 rw [szFL,szFL] at b; omega
theorem g6 (s:Signed) (h:BS s.kv+s.Tag.length≤1000000000):xE [] [s]=some (20+(BS s.kv:Int)+(s.Tag.length:Int)):=by
 unfold xE
 rw [tJ,vc]
 have:=g5 [s.kv] 0 (by omega) (by rw [B0,B0]; omega)
 rw [show zf [s.kv]=_ from this,aA,vc,B0,B0]
 rw [mc (x:=0+((20+BS s.kv+0:Nat):Int)+(s.Tag.length:Int)) (by omega) (by omega),mc (by omega) (by omega)]
 simp only [aA]
 congr 1; omega
def GD:List kU→Nat
 | []=>0
 | x::l=>20+BS x.Signed.kv+x.Signed.Tag.length+20*Di x.ky+GD l
def Fo:List mr→Nat
 | []=>0
 | a::l=>a.ku.kw.size+a.ku.Word.size+20*Di a.ky+B0 a.lT+Fo l
def NL (p:lB):Nat:=p.Name.size+GD p.kE+Fo p.kQ
theorem Va:∀(l:List mr) (x:Int),0≤x→x+(Fo l:Int)≤1000000000→∃r:Int,vd l x=some r∧x≤r∧r≤x+(Fo l:Int)
 | [],x,_,_=>⟨x,by rw [vd],by omega,by rw [Fo]; omega⟩
 | a::l,x,n,h=>by
  rw [Fo] at h
  obtain ⟨r,e,h1,p⟩:=M4 a.ky (by omega)
  have d:=g5 a.lT 0 (by omega) (by omega)
  rw [vd,e,aA,show zf a.lT=_ from d,aA]
  rw [mc (x:=(a.ku.kw.size:Int)+(a.ku.Word.size:Int)) (by omega) (by omega),mc (x:=20*r) (by omega) (by omega),mc (x:=(a.ku.kw.size:Int)+(a.ku.Word.size:Int)+20*r) (by omega) (by omega),mc (x:=(a.ku.kw.size:Int)+(a.ku.Word.size:Int)+20*r+(0+(B0 a.lT:Int))) (by omega) (by omega),mc (by omega) (by omega)]
  obtain ⟨i,e',j,a2⟩:=Va l (x+((a.ku.kw.size:Int)+(a.ku.Word.size:Int)+20*r+(0+(B0 a.lT:Int)))) (by omega) (by omega)
  exact ⟨i,e',by omega,by rw [Fo]; omega⟩
theorem g15 (p:lB) (i:NL p≤1000000000):∃r:Int,zp p=some r∧20*(p.kE.length:Int)≤r∧r≤(NL p:Int):=by
 unfold NL at i
 have key:∀(l:List kU) (x:Int),0≤x→x+(GD l:Int)+(Fo p.kQ:Int)≤1000000000→∃r:Int,uW p l x=some r∧x+20*(l.length:Int)≤r∧r≤x+(GD l:Int)+(Fo p.kQ:Int):=by
  intro l
  induction l with
  | nil=>
   intro x d h
   rw [GD] at h
   obtain ⟨r,e,a,b⟩:=Va p.kQ x d (by omega)
   exact ⟨r,by rw [uW,e]; rfl,by simp; omega,by rw [GD]; omega⟩
  | cons y l ih=>
   intro x d h
   rw [GD] at h
   obtain ⟨r,e,h1,n⟩:=M4 y.ky (by omega)
   rw [uW,g6 y.Signed (by omega)]
   simp only [aA]
   rw [e,aA]
   rw [mc (x:=20*r) (by omega) (by omega),mc (x:=20+(BS y.Signed.kv:Int)+(y.Signed.Tag.length:Int)+20*r) (by omega) (by omega),mc (by omega) (by omega)]
   obtain ⟨j,e',a,b⟩:=ih (x+(20+(BS y.Signed.kv:Int)+(y.Signed.Tag.length:Int)+20*r)) (by omega) (by omega)
   exact ⟨j,e',by rw [aG]; omega,by rw [GD]; omega⟩
 obtain ⟨r,e,a,b⟩:=key p.kE (p.Name.size:Int) (by omega) (by omega)
 unfold zp
 exact ⟨r,e,by omega,by unfold NL; omega⟩
def Fp:List Key→Nat
 | []=>0
 | k::l=>10+k.lO.size+k.Key.length+Fp l
theorem g6K:∀(ks:List Key) (x:Int),0≤x→x+(Fp ks:Int)≤2000000000→tJ [] ks x=some (x+(Fp ks:Int))
 | [],x,_,_=>by rw [tJ,vc,Fp]; simp
 | k::ks,x,d,h=>by
  rw [Fp] at h
  rw [tJ,mc (x:=10+(k.lO.size:Int)) (by omega) (by omega),mc (x:=10+(k.lO.size:Int)+(k.Key.length:Int)) (by omega) (by omega),mc (by omega) (by omega),g6K ks _ (by omega) (by omega),Fp]
  congr 1; omega
structure PQ (p:mY):Prop extends PP p where
 go:NL p.kw≤1000000000
 gc:NL p.Client≤1000000000
 fs:Di p.Formula≤50000000
 ks:Fp p.Keys≤1000000000
theorem Q7 (a b:lB) (f:Formula) (ha:PB a) (hb:PB b) (v:a.kE.length≤30000) (w:b.kE.length≤30000) (i:Gd f) :
  ∃x y j,zt a b=some (x,y,j)∧Rs a b x y∧xU a b f=some (xg (vD y b.Name) f)∧yw a b f=some (xg (vD y b.Name) f):=by
 obtain ⟨x,y,j,e,F⟩:=TU a b ha hb (by omega) (by omega)
 have E:=F.ly
 obtain ⟨G,d⟩:=Z9 y (by omega)
 obtain ⟨m,p,_,u⟩:=d.mdl
 have n:=aad d b.Name
 refine ⟨x,y,j,e,F,?_,?_⟩
 ·unfold xU Eo
  rw [e,aA,p,aA,aA]
  rw [Sj (vD y b.Name) _ (λr=>by unfold za; rw [pI,u,←n]; rfl) f i]
  rfl
 ·have z:=zB f
  unfold yw
  rw [Jk f i,aA]
  unfold xg
  cases A:pk f
  ·rfl
  ·simp only [aK]
   unfold H4
   rw [M3 a b ha hb v w,e,aA,d.ref,aA,show xw G b.Name=some (LX G b.Name) from TX G b.Name (by have:=d.len; omega)]
   simp only [aA]
   rw [Xh _ kY f (by rw [my]; unfold Gd at i; omega) i,N7,n]
   rfl
structure PL (p:mY):Prop where
 o:PB p.kw
 c:PB p.Client
 lo:p.kw.kE.length≤30000
 lc:p.Client.kE.length≤30000
 f:Gd p.Formula
noncomputable def grP (p:mY):Bool:=(xU p.kw p.Client p.Formula).getD false
def YY (l:List kU) (i:Int):Prop:=0≤i∧i < l.length
instance (l:List kU) (i:Int):Decidable (YY l i):=by unfold YY; infer_instance
def KI (l:List kU) (i:Int):List kU:=if YY l i then l.eraseIdx i.toNat else l
def OB (p:mY) (e i:Int):mY :=
 if e=0 then ⟨⟨p.kw.Name,KI p.kw.kE i,p.kw.kQ⟩,p.Client,p.Formula,p.pj,p.lP,p.mO,p.nZ,p.ny,p.Keys⟩
 else if e=1 then ⟨p.kw,⟨p.Client.Name,KI p.Client.kE i,p.Client.kQ⟩,p.Formula,p.pj,p.lP,p.mO,p.nZ,p.ny,p.Keys⟩
 else p
theorem Lc (l:List kU) (i:Int):(KI l i).length≤l.length:=by
 unfold KI
 split
 ·rw [List.length_eraseIdx]; split <;> omega
 ·omega
theorem V5 {l:List kU} {i:Int} {x:kU} (h:x∈KI l i):x∈l:=by
 unfold KI at h
 split at h
 ·exact List.mem_of_mem_eraseIdx h
 ·exact h
theorem PB.cut {n:ByteArray} {l:List kU} {k:List mr} (h:PB ⟨n,l,k⟩) (i:Int):PB ⟨n,KI l i,k⟩ where
 BR:=dx (Lc l i) h.BR
 Er:=h.Er
 rel:=λx d=>h.rel x (V5 d)
 HH:=h.HH
 Q9:=h.Q9
theorem PL.drop {p:mY} (h:PL p) (e i:Int):PL (OB p e i):=by
 unfold OB
 split
 ·exact ⟨PB.cut (n:=p.kw.Name) (k:=p.kw.kQ) h.o i,h.c,dx (Lc _ i) h.lo,h.lc,h.f⟩
 ·split
  ·exact ⟨h.o,PB.cut (n:=p.Client.Name) (k:=p.Client.kQ) h.c i,h.lo,dx (Lc _ i) h.lc,h.f⟩
  ·exact h
theorem U3 {α:Type} (l:List α) (i:Nat) (h:i < l.length):∃A x B,l=A++x::B∧A.length=i:=⟨l.take i,l[i],l.drop (i+1),by simp,by simp; omega⟩
theorem rE.take {s:List kv} (h:rE s) (n:Nat):rE (s.take n):=⟨h.1.sublist (List.take_sublist n s),λc d=>h.2 c (List.mem_of_mem_take d)⟩
theorem bb {α β γ:Type} (x:Option α) (f:α→Option β) (g:β→Option γ):(x.bind λa=>(f a).bind g)=(x.bind f).bind g:=by cases x <;> rfl
theorem SE (f:kv→Option Bool) (p:kv→Bool) (l:List kv) (h:∀x∈l,f x=some (p x)):tC l f=some (l.any p):=by
 unfold tC sF
 rw [Nu]; exact KT f p l h
structure Jx (p:mY) (x y:List kv) (g:Bool):Prop where
 sx:rE x
 sy:rE y
 s:uE p=some (x,y,g)
 r:∃j,Cw p.kw p.Client=some (x,y,j)
 q:yw p.kw p.Client p.Formula=some g
theorem aax (p:mY) (h:PL p):∃x y g,Jx p x y g:=by
 obtain ⟨x,y,j,e,F,g1,g2⟩:=Q7 p.kw p.Client p.Formula h.o h.c h.lo h.lc h.f
 refine ⟨x,y,_,F.sx,F.sy,?_,⟨j,by rw [M3 _ _ h.o h.c h.lo h.lc,e]⟩,g2⟩
 unfold uE
 rw [e,aA,g1,aA]
def zm (a b:List kv):Bool:=a.all (rk ll b)
theorem GY {a b:List kv}:zm a b=true↔∀c∈a,c∈b:=by
 unfold zm
 rw [dP]
 exact forall_congr' λc=>forall_congr' λ_=>wg om b c
theorem F2 (a b:List kv):xG a b=some (zm a b)∧AT a b=some (zm a b):=by
 refine ⟨?_,?_⟩
 ·unfold xG
  rw [SE _ (λc=>!rk ll b c) a (λc _=>by unfold xJ wA; rw [pI,PH]; rfl),aA]
  unfold zm
  rw [ic]
 ·unfold AT zm
  induction a with
  | nil=>rw [yl]; rfl
  | cons c a ih=>
   rw [yl,MW,aA,ih,gO]
   cases rk ll b c <;> rfl
def J5 (x y u v:List kv) (g h:Bool):Bool:=zm u x&&zm v y&&(g||!h)
theorem Pq {a b:mY} {x y u v:List kv} {g h:Bool} (ha:Jx a x y g) (hb:Jx b u v h):qU a b=some (J5 x y u v g h)∧EE a b=some (J5 x y u v g h):=by
 obtain ⟨j,d⟩:=ha.r
 obtain ⟨k,i⟩:=hb.r
 refine ⟨?_,?_⟩
 ·unfold qU J5
  rw [ha.s,hb.s]
  simp only [aA]
  rw [(F2 u x).1,(F2 v y).1]
  cases zm u x <;> cases zm v y <;> cases g <;> cases h <;> rfl
 ·unfold EE J5
  rw [d,i,ha.q,hb.q]
  simp only [aA]
  rw [(F2 u x).2,(F2 v y).2]
  cases zm u x <;> cases zm v y <;> cases g <;> cases h <;> rfl
theorem Qi {a b:List kv} (d:rE a) (i:rE b):(zm a b&&zm b a)=true↔a=b:=by
 rw [bn,GY,GY]
 exact ⟨λh=>d.ext i λc=>⟨h.1 c,h.2 c⟩,λh=>by subst h; exact ⟨λ_ h=>h,λ_ h=>h⟩⟩
theorem VM {a b:mY} {x y u v:List kv} {g h:Bool} (ha:Jx a x y g) (hb:Jx b u v h):wH a b=some (!(J5 x y u v g h&&J5 u v x y h g)):=by
 obtain ⟨d,j,p⟩:=Hh x u
 obtain ⟨i,n,w⟩:=Hh y v
 have z:d=(zm x u&&zm u x):=by rw [bK,p,Qi ha.sx hb.sx]
 have A:i=(zm y v&&zm v y):=by rw [bK,w,Qi ha.sy hb.sy]
 unfold wH J5
 rw [ha.s,hb.s]
 simp only [aA]
 rw [j,n,z,A]
 cases zm x u <;> cases zm u x <;> cases zm y v <;> cases zm v y <;> cases g <;> cases h <;> rfl
theorem PL.of (p:mY) (hp:PQ p) (d:p.kw.kE.length≤30000) (i:p.Client.kE.length≤30000):PL p:=⟨hp.o.toPB,hp.c.toPB,d,i,by have:=hp.f; unfold Gd; omega⟩
theorem aaL (p:mY) (hp:PQ p):∃r:Int,BW p=some r∧20*(p.kw.kE.length:Int)+20*(p.Client.kE.length:Int)≤r∧r≤10000000000:=by
 have j:=hp.go
 have i:=hp.gc
 have E:=hp.ks
 have d:=hp.fs
 obtain ⟨r1,v,G,I⟩:=g15 p.kw j
 obtain ⟨n,w,a2,J⟩:=g15 p.Client i
 obtain ⟨u,z,a3,L⟩:=M4 p.Formula d
 have A:=g6K p.Keys 0 (by omega) (by omega)
 unfold BW
 rw [v,aA,w,aA]
 simp only [aA]
 rw [z,aA,show xE p.Keys []=_ from A,aA]
 rw [mc (x:=r1+n) (by omega) (by omega),mc (x:=20*u) (by omega) (by omega),mc (x:=r1+n+20*u) (by omega) (by omega),mc (by omega) (by omega)]
 exact ⟨_,rfl,by omega,by omega⟩
section
variable {c:kq→kq→Int} {G:kq→Prop} {f:kq×kq→Option Int}
abbrev mQ (c:kq→kq→Int) (x y:kq):Bool:=decide (c x y < 0)
abbrev wL (f:kq×kq→Option Int) (c:kq→kq→Int) (G:kq→Prop):Prop:=∀x y,G x→G y→f (x,y)=some (c x y)
theorem WV (O:wL f c G) (pre:List kq) (x:kq) (T:G x):∀(k:Nat) (P S:List kq) (n:Nat) (j a:Int),P.length=k→k < n→(∀y∈P,G y)→(pre++(P++x::S)).length≤1000000→j=((pre.length+P.length:Nat):Int)→a=(pre.length:Int)→
  ∃P1 P2,P=P1++P2∧nH a f n (pre++(P++x::S)) j=some (pre++(P1++x::(P2++S)))∧(∀P' z,P1=P'++[z]→mQ c x z=false)∧(∀y P',P2=y::P'→mQ c x y=true):=by
 intro k
 induction k with
 | zero=>
  intro P S n j a hk R i w u ha
  obtain rfl:=aJ hk
  obtain ⟨n,rfl⟩:=aF (by omega:n≠0)
  refine ⟨[],[],rfl,?_,by simp,by simp⟩
  rw [nH]
  have:¬(j > a):=by rw [u,ha]; simp
  simp [this]
 | succ k ih=>
  intro P S n j a hk R i w u ha
  rcases cV P with rfl | ⟨P',z,rfl⟩
  ·simp at hk
  simp only [dt,aC,aG,aZ] at hk u w i ⊢
  obtain ⟨n,rfl⟩:=aF (by omega:n≠0)
  have v:j > a:=by omega
  have A:pre++(P'++[z]++x::S)=(pre++P')++z::x::S:=by simp
  have hw:wi0 .i64 (j-1)=((pre.length+P'.length:Nat):Int):=by rw [mc (by omega) (by omega)]; omega
  have i1:lD ((pre++P')++z::x::S) j=some x:=by
   rw [show (pre++P')++z::x::S=(pre++P'++[z])++x::S by simp]
   exact mz _ _ _ _ (by simp; omega)
  have i2:lD ((pre++P')++z::x::S) ((pre.length+P'.length:Nat):Int)=some z:=mz _ _ _ _ (by simp)
  have W:G z:=i z (by simp)
  have M:∀y∈P',G y:=λy U=>i y (by simp [U])
  have Z:j.toNat=pre.length+P'.length+1:=by omega
  rw [nH,A]
  simp only [v,bB,aK,i1,hw,i2,aA,O x z T W]
  by_cases p:c x z < 0
  ·simp only [p,bB,aK]
   have s1:((pre++P')++z::x::S).set j.toNat z=(pre++P')++z::z::S:=by
    have:=El (pre++P'++[z]) S x z j.toNat (by simp; omega)
    simpa only [aM,dM,bM,aW] using this
   have s2:((pre++P')++z::z::S).set (pre.length+P'.length) x=(pre++P')++x::z::S:=by
    exact El (pre++P') (z::S) z x _ (by simp)
   have i3:lD ((pre++P')++z::z::S) ((pre.length+P'.length:Nat):Int)=some z:=mz _ _ _ _ (by simp)
   rw [s1,i3,aA,dq,s2]
   have E:(pre++P')++x::z::S=pre++(P'++x::(z::S)):=by simp
   obtain ⟨P1,P2,h1,I,J,L⟩:=ih P' (z::S) n ((pre.length+P'.length:Nat):Int) a (by omega) (by omega) M (by simp; omega) rfl ha
   rw [E,I]
   refine ⟨P1,P2++[z],by rw [h1]; simp,by simp,J,?_⟩
   intro y Q d
   cases P2 with
   | nil=>
    simp only [aW,aY] at d
    rw [←d.1]; simp [mQ,p]
   | cons Y P2=>
    simp only [bM,aY] at d
    rw [←d.1]; exact L Y P2 rfl
  ·simp only [p,bN,aB,aI]
   refine ⟨P'++[z],[],by simp,by simp,?_,by simp⟩
   intro Q y d
   have:=jM d rfl
   simp only [aY,dL] at this
   rw [←this.2]; simp [mQ,p]
theorem NX (h:SWO (mQ c)) (R:wL f c G) (pre post:List kq) (a b:Int) (ha:a=(pre.length:Int)):∀(S t:List (kq×Nat)) (n:Nat) (i:Int),
  S.length < n→oy (mQ c) t→(∀x∈t,∀y∈S,x.2 < y.2)→S.Pairwise (λx y=>x.2 < y.2)→(∀x∈t++S,G x.1)→(pre++(t.map (·.1)++(S.map (·.1)++post))).length≤1000000→
  i=((pre.length+t.length:Nat):Int)→b=((pre.length+t.length+S.length:Nat):Int)→
  ∃u,ni b a f n (pre++(t.map (·.1)++(S.map (·.1)++post))) i=some (pre++(u.map (·.1)++post))∧oy (mQ c) u∧u.Perm (t++S)
 | [],t,n,i,O,P,h1,Q,J,M,T,hb=>by
  obtain ⟨n,rfl⟩:=aF (by simp at O; omega:n≠0)
  rw [ni]
  simp only [aZ] at hb
  have:¬(i < b):=by omega
  simp only [this,bN,aB,aI]
  exact ⟨t,by simp,P,by simp⟩
 | s::S,t,n,i,O,P,h1,Q,J,M,T,hb=>by
  simp only [aG] at O hb
  obtain ⟨n,rfl⟩:=aF (by omega:n≠0)
  rw [ni]
  have L:i < b:=by omega
  simp only [L,bB,aK]
  have w:=M
  simp only [aC,bT,aG] at w
  obtain ⟨P1,P2,Y,Z,e3,e4⟩:=WV R pre s.1 (J s (by simp)) (t.map (·.1)).length (t.map (·.1)) (S.map (·.1)++post) kY i a rfl (by rw [my]; simp; omega)
   (λy E=>by obtain ⟨p,hp,rfl⟩:=aS.1 E; exact J p (by simp [hp])) (by simpa using M) (by simp; omega) ha
  simp only [aU,bM]
  rw [Z,aA]
  obtain ⟨t1,t2,rfl,U,W⟩:=iy.1 Y
  have hlen:t1.length+t2.length=(t1++t2).length:=by simp
  have hw:wi0 .i64 (i+1)=((pre.length+(t1++s::t2).length:Nat):Int):=by rw [mc (by omega) (by omega)]; simp at T ⊢; omega
  rw [hw]
  have A:oy (mQ c) (t1++s::t2):=DA h P
   (λA' z b B' v I=>by
    simp only [aY] at I
    rw [←I.1]
    refine .inr ⟨e3 (A'.map (·.1)) z.1 (by rw [←U,v]; simp),h1 z (by rw [v]; simp) s (by simp)⟩)
   (λA' z b B' v I=>by
    have hz:z=s:=by
     cases A' with
     | nil=>simpa using v.symm
     | cons _ A'=>simp at v
    rw [hz]
    exact .inl (e4 b.1 (B'.map (·.1)) (by rw [←W,I]; simp)))
  have j:=bY.1 Q
  have e5:pre++(P1++s.1::(P2++(S.map (·.1)++post)))=pre++((t1++s::t2).map (·.1)++(S.map (·.1)++post)):=by rw [←U,←W]; simp
  rw [e5]
  obtain ⟨u,u1,u2,u3⟩:=NX h R pre post a b ha S (t1++s::t2) n _ (by omega) A
   (λx d y E=>by
    rcases aO.1 d with d | d
    ·exact h1 x (by simp [d]) y (by simp [E])
    ·rcases aP.1 d with rfl | d
     ·exact j.1 y E
     ·exact h1 x (by simp [d]) y (by simp [E]))
   j.2 (λx d=>J x (by
    simp only [aO,aP] at d ⊢
    rcases d with (d | d | d) | d
    ·exact .inl (.inl d)
    ·exact .inr (.inl d)
    ·exact .inl (.inr d)
    ·exact .inr (.inr d))) (by simp at w ⊢; omega) rfl (by simp at hb ⊢; omega)
  refine ⟨u,u1,u2,u3.trans ?_⟩
  simp only [aM,bM]
  exact bX t1 (List.perm_middle.symm)
theorem Ke (h:SWO (mQ c)) (z:wL f c G) (pre post:List kq) (S:List (kq×Nat)) (a b:Int) (v:S.Pairwise (λx y=>x.2 < y.2)) (w:∀x∈S,G x.1) (p:(pre++(S.map (·.1)++post)).length≤1000000) (ha:a=(pre.length:Int)) (hb:b=((pre.length+S.length:Nat):Int)) :
  ∃u,pv (pre++(S.map (·.1)++post)) a b f=some (pre++(u.map (·.1)++post))∧oy (mQ c) u∧u.Perm S:=by
 unfold pv
 have i:=p
 simp only [aC,bT] at i
 cases S with
 | nil=>
  refine ⟨[],?_,.nil,.nil⟩
  obtain ⟨n,A⟩:=aF (by rw [my]; omega:kY≠0)
  rw [A,ni]
  have:¬(wi0 .i64 (a+1) < b):=by rw [mc (by omega) (by omega)]; simp at hb; omega
  simp [this]
 | cons s S=>
  simp only [aG] at hb i
  have d:=bY.1 v
  obtain ⟨u,I,J,L⟩:=NX h z pre post a b ha S [s] kY (wi0 .i64 (a+1)) (by rw [my]; omega) (eX _ _) (λx j y E=>by simp at j; rw [j]; exact d.1 y E) d.2
   (λx j=>w x (by simpa using j)) (by simp at p ⊢; omega) (by rw [mc (by omega) (by omega)]; simp; omega) (by simp; omega)
  exact ⟨u,by simpa using I,J,by simpa using L⟩
end
section
variable {c:kq→kq→Int} {G:kq→Prop} {f:kq×kq→Option Int}
theorem Ti (p m q:List kq) (a b N:Int):∀(k:Nat) (X1 X2 Y1 Y2:List kq) (n:Nat) (i:Int),X2.length=k→Y2.length=k→X1.length=Y1.length→k < n→(p++(Y1++(X2++(m++(X1++(Y2++q)))))).length≤1000000→
  i=(X1.length:Int)→N=((X1.length+k:Nat):Int)→a=(p.length:Int)→b=((p.length+X1.length+k+m.length:Nat):Int)→
  nX N b a n (p++(Y1++(X2++(m++(X1++(Y2++q)))))) i=some (p++((Y1++Y2)++(m++((X1++X2)++q)))):=by
 intro k
 induction k with
 | zero=>
  intro X1 X2 Y1 Y2 n i h1 d E I w G v ha hb
  obtain rfl:=aJ h1
  obtain rfl:=aJ d
  obtain ⟨n,rfl⟩:=aF (by omega:n≠0)
  rw [nX]
  have:¬(i < N):=by omega
  simp [this]
 | succ k ih=>
  intro X1 X2 Y1 Y2 n i h1 d E I w G v ha hb
  cases X2 with
  | nil=>simp at h1
  | cons x X2=>
  cases Y2 with
  | nil=>simp at d
  | cons y Y2=>
  simp only [aG,Nat.add_right_cancel_iff] at h1 d
  obtain ⟨n,rfl⟩:=aF (by omega:n≠0)
  have u:=w
  simp only [aC,aG] at u
  have j:i < N:=by omega
  have J:wi0 .i64 (b+i)=(((p++Y1).length+1+(X2++(m++X1)).length:Nat):Int):=mI _ (by simp; omega) (by simp; omega)
  have L:wi0 .i64 (a+i)=((p++Y1).length:Int):=mI _ (by simp; omega) (by simp; omega)
  have M:wi0 .i64 (i+1)=((X1++[x]).length:Int):=mI _ (by simp; omega) (by simp; omega)
  have z:p++(Y1++(x::X2++(m++(X1++(y::Y2++q)))))=(p++Y1)++x::((X2++(m++X1))++y::(Y2++q)):=by simp
  have i1:lD ((p++Y1)++x::((X2++(m++X1))++y::(Y2++q))) (((p++Y1).length+1+(X2++(m++X1)).length:Nat):Int)=some y:=by
   have:=mz ((p++Y1)++x::(X2++(m++X1))) y (Y2++q) (((p++Y1).length+1+(X2++(m++X1)).length:Nat):Int) (by simp; omega)
   simpa using this
  have i2:lD ((p++Y1)++x::((X2++(m++X1))++y::(Y2++q))) ((p++Y1).length:Int)=some x:=mz _ _ _ _ rfl
  rw [nX,z]
  simp only [j,bB,aK,J,L,i1,i2,aA,dq,M]
  have i3:lD (((p++Y1)++x::((X2++(m++X1))++y::(Y2++q))).set (p++Y1).length y) (((p++Y1).length+1+(X2++(m++X1)).length:Nat):Int)=some y:=by
   rw [EZ]
   have:=mz ((p++Y1)++y::(X2++(m++X1))) y (Y2++q) (((p++Y1).length+1+(X2++(m++X1)).length:Nat):Int) (by simp; omega)
   simpa using this
  rw [i3,aA,Fm]
  have A:(p++Y1)++y::((X2++(m++X1))++x::(Y2++q))=p++((Y1++[y])++(X2++(m++((X1++[x])++(Y2++q))))):=by simp
  rw [A,ih (X1++[x]) X2 (Y1++[y]) Y2 n _ h1 d (by simp; omega) (by omega) (by simp; omega) rfl (by rw [v]; simp; omega) ha (by rw [hb]; simp; omega)]
  simp
theorem IP (p m q X Y:List kq) (a b N:Int) (h:X.length=Y.length) (i:(p++(X++(m++(Y++q)))).length≤1000000) (j:N=(X.length:Int)) (ha:a=(p.length:Int)) (hb:b=((p.length+X.length+m.length:Nat):Int)) :
  pg (p++(X++(m++(Y++q)))) a b N f=some (p++(Y++(m++(X++q)))):=by
 unfold pg
 have d:=i
 simp only [aC] at d
 have:=Ti p m q a b N X.length [] X [] Y kY 0 rfl h.symm rfl (by rw [my]; omega) (by simpa using i) rfl (by simpa using j) ha (by rw [hb]; simp)
 simpa using this
theorem Uw (M:Int):∀(k:Nat) (A B p q:List kq) (n:Nat) (i j:Int),A.length+B.length≤k→0 < A.length→0 < B.length→k < n→(p++(A++(B++q))).length≤1000000→i=(A.length:Int)→j=(B.length:Int)→M=((p.length+A.length:Nat):Int)→
  oC M f n (p++(A++(B++q))) i j=some (p++(B++(A++q))):=by
 intro k
 induction k with
 | zero=>intro A B p q n i j h h1 G; omega
 | succ k ih=>
  intro A B p q n i j h h1 G U L u x I
  obtain ⟨n,rfl⟩:=aF (by omega:n≠0)
  have d:=L
  simp only [aC] at d
  rw [oC]
  by_cases he:A.length=B.length
  ·have:(i != j)=false:=by rw [u,x,he]; simp
   simp only [this,aB,aI]
   have v:wi0 .i64 (M-i)=(p.length:Int):=mI _ (by omega) (by omega)
   have:=IP (f:=f) p [] q A B (p.length:Int) M i he (by simpa using L) u rfl (by rw [I]; simp)
   simp only [aW] at this
   rw [v,this]; rfl
  ·have z:(i != j)=true:=by rw [u,x]; simp; omega
   simp only [z,aK]
   by_cases J:i > j
   ·simp only [J,bB,aK]
    obtain ⟨X,Y,rfl,T⟩:=sN (l:=A) (n:=B.length) (by omega)
    simp only [aC] at u h I d
    have v:wi0 .i64 (M-i)=(p.length:Int):=mI _ (by omega) (by omega)
    have s:=IP (f:=f) p Y q X B (p.length:Int) M j (by omega) (by simp; omega) (by omega) rfl (by omega)
    have w:p++(X++Y++(B++q))=p++(X++(Y++(B++q))):=by simp
    have E:wi0 .i64 (i-j)=(Y.length:Int):=mI _ (by omega) (by omega)
    rw [w,v,s,aA,E]
    have O:p++(B++(Y++(X++q)))=(p++B)++(Y++(X++q)):=by simp
    rw [O,ih Y X (p++B) q n _ j (by omega) (by omega) (by omega) (by omega) (by simp; omega) rfl (by omega) (by simp; omega)]
    simp
   ·simp only [J,bN,aB,aI]
    obtain ⟨Z,V,rfl,P⟩:=sN (l:=B) (n:=B.length-A.length) (by omega)
    simp only [aC] at x h d P G he
    have v:wi0 .i64 (M-i)=(p.length:Int):=mI _ (by omega) (by omega)
    have Q:wi0 .i64 (M+j)=((p.length+A.length+(Z.length+V.length):Nat):Int):=mI _ (by omega) (by omega)
    have R:wi0 .i64 (((p.length+A.length+(Z.length+V.length):Nat):Int)-i)=((p.length+A.length+Z.length:Nat):Int):=mI _ (by omega) (by omega)
    have s:=IP (f:=f) p Z q A V (p.length:Int) ((p.length+A.length+Z.length:Nat):Int) i (by omega) (by simp; omega) u rfl rfl
    have w:p++(A++(Z++V++q))=p++(A++(Z++(V++q))):=by simp
    have E:wi0 .i64 (j-i)=(Z.length:Int):=mI _ (by omega) (by omega)
    rw [w,v,Q,R,s,aA,E]
    rw [show p++(V++(Z++(A++q)))=p++(V++(Z++(A++q))) from rfl,ih V Z p (A++q) n i _ (by omega) (by omega) (by omega) (by omega) (by simp; omega) (by omega) rfl (by omega)]
    simp
theorem Yj (A B p q:List kq) (a m b:Int) (h1:0 < A.length) (j:0 < B.length) (i:(p++(A++(B++q))).length≤1000000) (ha:a=(p.length:Int)) (hm:m=((p.length+A.length:Nat):Int)) (hb:b=((p.length+A.length+B.length:Nat):Int)) :
  oZ (p++(A++(B++q))) a m b f=some (p++(B++(A++q))):=by
 unfold oZ
 have d:=i
 simp only [aC] at d
 rw [mI A.length (by omega) (by omega),mI B.length (by omega) (by omega)]
 exact Uw m (A.length+B.length) A B p q kY _ _ (aR _) h1 j (by rw [my]; omega) i rfl rfl hm
end
section
variable {c:kq→kq→Int} {G:kq→Prop} {f:kq×kq→Option Int}
abbrev Cu (a0:List kq) (f:kq×kq→Option Int) (p q:Int) (b:Bool):Prop:=∃x y r,lD a0 p=some x∧lD a0 q=some y∧f (x,y)=some r∧decide (r < 0)=b
theorem Yh (a0:List kq) (E:Int) (u:Nat→Bool) (lo p:Nat) (T:p≤1000000) (J:∀h,lo≤h→h < p→Cu a0 f (h:Int) E (u h)):∀(d n i j:Nat),j-i≤d→d < n→lo≤i→i≤j→j≤p→(i=lo∨u (i-1)=true)→(j=p∨u j=false)→
  ∃t W,lo≤t∧t≤p∧(t=lo∨u (t-1)=true)∧(t=p∨u t=false)∧mS a0 E f n (i:Int) (j:Int)=mS a0 E f (W+1) (t:Int) (t:Int):=by
 intro d
 induction d with
 | zero=>
  intro n i j h1 U v Q w z A
  obtain ⟨n,rfl⟩:=aF (by omega:n≠0)
  obtain rfl:i=j:=by omega
  exact ⟨i,n,v,w,z,A,rfl⟩
 | succ d ih=>
  intro n i j h1 U v Q w z A
  obtain ⟨n,rfl⟩:=aF (by omega:n≠0)
  by_cases G:i=j
  ·subst G; exact ⟨i,n,v,w,z,A,rfl⟩
  have R:=zD (i+j) (x:=(i:Int)+(j:Int)) (by omega) (by omega)
  obtain ⟨x,y,r,L,M,O,P⟩:=J ((i+j) / 2) (by omega) (by omega)
  rw [mS]
  have I:((i:Int) < (j:Int)):=by omega
  simp only [I,bB,aK,R,L,M,O,P,aA]
  cases hp:u ((i+j) / 2)
  ·simp only [aB,aI]
   exact ih n i ((i+j) / 2) (by omega) (by omega) v (by omega) (by omega) z (.inr hp)
  ·simp only [aK]
   rw [mI ((i+j) / 2+1) (by omega) (by omega)]
   exact ih n ((i+j) / 2+1) j (by omega) (by omega) (by omega) (by omega) w (.inr (by simpa using hp)) A
theorem YL (a0:List kq) (a2:Int) (u:Nat→Bool) (lo p:Nat) (R:p≤1000000) (I:∀h,lo≤h→h < p→Cu a0 f a2 (h:Int) (!u h)):∀(d n i j:Nat),j-i≤d→d < n→lo≤i→i≤j→j≤p→(i=lo∨u (i-1)=true)→(j=p∨u j=false)→
  ∃t U,lo≤t∧t≤p∧(t=lo∨u (t-1)=true)∧(t=p∨u t=false)∧mT a0 a2 f n (i:Int) (j:Int)=mT a0 a2 f (U+1) (t:Int) (t:Int):=by
 intro d
 induction d with
 | zero=>
  intro n i j h1 T v P w z A
  obtain ⟨n,rfl⟩:=aF (by omega:n≠0)
  obtain rfl:i=j:=by omega
  exact ⟨i,n,v,w,z,A,rfl⟩
 | succ d ih=>
  intro n i j h1 T v P w z A
  obtain ⟨n,rfl⟩:=aF (by omega:n≠0)
  by_cases E:i=j
  ·subst E; exact ⟨i,n,v,w,z,A,rfl⟩
  have Q:=zD (i+j) (x:=(i:Int)+(j:Int)) (by omega) (by omega)
  obtain ⟨x,y,r,J,L,M,O⟩:=I ((i+j) / 2) (by omega) (by omega)
  rw [mT]
  have G:((i:Int) < (j:Int)):=by omega
  simp only [G,bB,aK,Q,J,L,M,O,aA,fe]
  cases hp:u ((i+j) / 2)
  ·simp only [aB,aI]
   exact ih n i ((i+j) / 2) (by omega) (by omega) v (by omega) (by omega) z (.inr hp)
  ·simp only [aK]
   rw [mI ((i+j) / 2+1) (by omega) (by omega)]
   exact ih n ((i+j) / 2+1) j (by omega) (by omega) (by omega) (by omega) w (.inr (by simpa using hp)) A
theorem RN (x:kq):∀(P Q R:List kq) (n:Nat) (k i:Int),P.length < n→(Q++x::(P++R)).length≤1000000→k=(Q.length:Int)→i=((Q.length+P.length+1:Nat):Int)→oa i n (Q++x::(P++R)) k=some (Q++(P++x::R))
 | [],Q,R,n,k,i,j,p,hk,d=>by
  obtain ⟨n,rfl⟩:=aF (by simp at j; omega:n≠0)
  simp only [aC,aG,aZ] at p d
  rw [oa,mI Q.length (by omega) (by omega)]
  have:¬(k < (Q.length:Int)):=by omega
  simp [this]
 | y::P,Q,R,n,k,i,j,p,hk,d=>by
  obtain ⟨n,rfl⟩:=aF (by simp at j; omega:n≠0)
  simp only [aC,aG] at p d j
  have v:Q++x::(y::P++R)=Q++x::([]++y::(P++R)):=rfl
  have w:wi0 .i64 (k+1)=((Q.length+1+([]:List kq).length:Nat):Int):=mI _ (by simp; omega) (by simp; omega)
  have i1:lD (Q++x::([]++y::(P++R))) ((Q.length+1+([]:List kq).length:Nat):Int)=some y:=by
   have:=mz (Q++[x]) y (P++R) ((Q.length+1+([]:List kq).length:Nat):Int) (by simp)
   simpa using this
  have i2:lD (Q++x::([]++y::(P++R))) k=some x:=mz _ _ _ _ hk
  rw [oa,mI (Q.length+P.length+1) (by omega) (by omega),v]
  have u:k < ((Q.length+P.length+1:Nat):Int):=by omega
  have kn:k.toNat=Q.length:=by omega
  simp only [u,bB,aK,w,i1,i2,aA,kn]
  have i3:lD ((Q++x::([]++y::(P++R))).set Q.length y) ((Q.length+1+([]:List kq).length:Nat):Int)=some y:=by
   rw [EZ]
   have:=mz (Q++[y]) y (P++R) ((Q.length+1+([]:List kq).length:Nat):Int) (by simp)
   simpa using this
  rw [i3,aA,dq,Fm]
  have:=RN x P (Q++[y]) R n ((Q.length+1+([]:List kq).length:Nat):Int) i (by omega) (by simp; omega) (by simp) (by rw [d]; simp; omega)
  simpa using this
theorem YM (x:kq):∀(k:Nat) (S Q R:List kq) (n:Nat) (j i:Int),S.length=k→k < n→(Q++(S++x::R)).length≤1000000→j=((Q.length+S.length:Nat):Int)→i=(Q.length:Int)→oq i n (Q++(S++x::R)) j=some (Q++x::(S++R)):=by
 intro k
 induction k with
 | zero=>
  intro S Q R n j i hk E w d v
  obtain ⟨n,rfl⟩:=aF (by omega:n≠0)
  obtain rfl:=aJ hk
  rw [oq]
  simp only [aZ,fD] at d
  have:¬(j > i):=by omega
  simp [this]
 | succ k ih=>
  intro S Q R n j i hk E w d v
  obtain ⟨n,rfl⟩:=aF (by omega:n≠0)
  rcases cV S with rfl | ⟨S,z,rfl⟩
  ·simp at hk
  simp only [dt,aC,aG,aZ] at hk d w ⊢
  have A:Q++(S++[z]++x::R)=(Q++S)++z::([]++x::R):=by simp
  have I:wi0 .i64 (j-1)=((Q++S).length:Int):=mI _ (by simp; omega) (by simp; omega)
  have p:j=(((Q++S).length+1+([]:List kq).length:Nat):Int):=by rw [d]; simp; omega
  have i1:lD ((Q++S)++z::([]++x::R)) j=some x:=by
   have:=mz (Q++S++[z]) x R j (by rw [p]; simp; omega)
   simpa using this
  have i2:lD ((Q++S)++z::([]++x::R)) ((Q++S).length:Int)=some z:=mz _ _ _ _ rfl
  rw [oq,A]
  have u:j > i:=by omega
  have G:j.toNat=(Q++S).length+1+([]:List kq).length:=by omega
  simp only [u,bB,aK,I,i1,i2,aA,G]
  have i3:lD (((Q++S)++z::([]++x::R)).set ((Q++S).length+1+([]:List kq).length) z) ((Q++S).length:Int)=some z:=by
   have:((Q++S)++z::([]++x::R)).set ((Q++S).length+1+([]:List kq).length) z=(Q++S)++z::(z::R):=by
    have:=El (Q++S++[z]) R x z ((Q++S).length+1+([]:List kq).length) (by simp; omega)
    simpa using this
   rw [this]; exact mz _ _ _ _ rfl
  rw [i3,aA,dq,ND]
  have:=ih S Q (z::R) n ((Q++S).length:Int) i (by omega) (by omega) (by simp; omega) (by simp) v
  simpa using this
end
section
variable {c:kq→kq→Int} {G:kq→Prop} {f:kq×kq→Option Int}
theorem Rw (a0:List kq) (z a3 a2:Int) (rec:List kq→Int→Int→Int→((kq×kq)→Option Int)→Option (List kq)) (mid m p:Nat) (A:z+a3=((2*mid:Nat):Int)∨z+a3=((2*mid+1:Nat):Int)) (hm:a2=(m:Int)) (hp:p+1=mid+m) (w:Nat→Bool) (lo u:Nat) (Z:u≤1000000) (a7:mid≤1000000) (a6:mid+m≤2000000) (hle:u≤p+1) (P:∀h,lo≤h→h < u→Cu a0 f ((p-h:Nat):Int) (h:Int) (!w h)):∀(d n i j:Nat),j-i≤d→d < n→lo≤i→i≤j→j≤u→(i=lo∨w (i-1)=true)→(j=u∨w j=false)→
  ∃t n',lo≤t∧t≤u∧(t=lo∨w (t-1)=true)∧(t=u∨w t=false)∧mx a0 z a3 a2 f rec n (i:Int) (j:Int)=mx a0 z a3 a2 f rec (n'+1) (t:Int) (t:Int):=by
 have v:wi0 .i64 (Int.fdiv (IntKind.u64.wrap (wi0 .i64 (z+a3))) (2 ^ min (Int.toNat 1) (IntKind.bits .u64)))=(mid:Int):=by
  rcases A with h | h
  ·rw [zD _ h (by omega),show 2*mid / 2=mid by omega]
  ·rw [zD _ h (by omega),show (2*mid+1) / 2=mid by omega]
 intro d
 induction d with
 | zero=>
  intro n i j h1 hn G W I J L
  obtain ⟨n,rfl⟩:=aF (by omega:n≠0)
  obtain rfl:i=j:=by omega
  exact ⟨i,n,G,I,J,L,rfl⟩
 | succ d ih=>
  intro n i j h1 hn G W I J L
  obtain ⟨n,rfl⟩:=aF (by omega:n≠0)
  by_cases M:i=j
  ·subst M; exact ⟨i,n,G,I,J,L,rfl⟩
  have Y:=zD (i+j) (x:=(i:Int)+(j:Int)) (by omega) (by omega)
  obtain ⟨x,y,r,Q,R,T,U⟩:=P ((i+j) / 2) (by omega) (by omega)
  have w1:wi0 .i64 ((mid:Int)+a2)=((mid+m:Nat):Int):=mI _ (by omega) (by omega)
  have w2:wi0 .i64 (((mid+m:Nat):Int)-1)=(p:Int):=mI _ (by omega) (by omega)
  have w3:wi0 .i64 ((p:Int)-(((i+j) / 2:Nat):Int))=((p-(i+j) / 2:Nat):Int):=mI _ (by omega) (by omega)
  rw [mx]
  have O:((i:Int) < (j:Int)):=by omega
  simp only [O,bB,aK,Y,v,w1,w2,w3,Q,R,T,U,aA,fe]
  cases E:w ((i+j) / 2)
  ·simp only [aB,aI]
   exact ih n i ((i+j) / 2) (by omega) (by omega) G (by omega) (by omega) J (.inr E)
  ·simp only [aK]
   rw [mI ((i+j) / 2+1) (by omega) (by omega)]
   exact ih n ((i+j) / 2+1) j (by omega) (by omega) (by omega) (by omega) I (.inr (by simpa using E)) L
theorem TF (a0:List kq) (i a3 a2:Int) (rec:List kq→Int→Int→Int→((kq×kq)→Option Int)→Option (List kq)) (mid m t n:Nat) (j:i+a3=((2*mid:Nat):Int)∨i+a3=((2*mid+1:Nat):Int)) (hm:a2=(m:Int)) (G:mid≤1000000) (E:mid+m≤2000000) (M:t≤mid+m) :
  mx a0 i a3 a2 f rec (n+1) (t:Int) (t:Int) =
   ((if t < m∧m < mid+m-t then oZ a0 (t:Int) a2 ((mid+m-t:Nat):Int) f else some a0).bind λl=>((if i < (t:Int)∧t < mid then rec l i (t:Int) (mid:Int) f else some l).bind λl=>if mid < mid+m-t∧((mid+m-t:Nat):Int) < a3 then rec l (mid:Int) ((mid+m-t:Nat):Int) a3 f else some l)):=by
 have d:wi0 .i64 (Int.fdiv (IntKind.u64.wrap (wi0 .i64 (i+a3))) (2 ^ min (Int.toNat 1) (IntKind.bits .u64)))=(mid:Int):=by
  rcases j with h | h
  ·rw [zD _ h (by omega),show 2*mid / 2=mid by omega]
  ·rw [zD _ h (by omega),show (2*mid+1) / 2=mid by omega]
 have J:wi0 .i64 ((mid:Int)+a2)=((mid+m:Nat):Int):=mI _ (by omega) (by omega)
 have L:wi0 .i64 (((mid+m:Nat):Int)-(t:Int))=((mid+m-t:Nat):Int):=mI _ (by omega) (by omega)
 rw [mx]
 simp only [gP,bN,aB,aI,d,J,L,pI]
 subst hm
 have u:((t:Int) < (m:Int))=(t < m):=by simp
 have v:((m:Int) < ((mid+m-t:Nat):Int))=(m < mid+m-t):=by rw [fV]; omega
 have w:((t:Int) < (mid:Int))=(t < mid):=by simp
 have z:((mid:Int) < ((mid+m-t:Nat):Int))=(mid < mid+m-t):=by rw [fV]; omega
 simp only [u,v,w,z]
 have key:∀(p q:Prop) [Decidable p] [Decidable q] (A B:Option (List kq)),((if decide p=true then some (decide q) else some false:Option Bool).bind λx=>if x=true then A else B)=if p∧q then A else B:=by
  intro p q _ _ A B
  by_cases hp:p <;> by_cases I:q <;> simp [hp,I]
 simp only [key]
theorem Hu (p A q:List kq) (h:Nat) (i:p.length≤h) (h1:h < p.length+A.length):∃x,A[h-p.length]? =some x∧lD (p++(A++q)) (h:Int)=some x:=by
 obtain ⟨x,d⟩:∃x,A[h-p.length]? =some x:=⟨_,dy (by omega)⟩
 refine ⟨x,d,?_⟩
 rw [GZ,eE i,ft (by omega),d]
end
section
variable {c:kq→kq→Int} {G:kq→Prop} {f:kq×kq→Option Int}
theorem wE {A:List (kq×Nat)} {i:Nat} {z:kq×Nat} (h:A[i]? =some z):(A.map (·.1))[i]? =some z.1:=by simp [h]
theorem TT (h:SWO (mQ c)) (W:wL f c G) (x:kq×Nat) (B:List (kq×Nat)) (pre post:List kq) (a m b:Int) (Q:oy (mQ c) B) (ht:∀y∈B,x.2 < y.2) (I:∀y∈x::B,G y.1) (Y:(pre++x.1::(B.map (·.1)++post)).length≤400000) (ha:a=(pre.length:Int)) (hm:m=((pre.length+1:Nat):Int)) (hb:b=((pre.length+1+B.length:Nat):Int)) :
  ∃u,mS (pre++x.1::(B.map (·.1)++post)) a f kY m b=some (pre++(u.map (·.1)++post))∧oy (mQ c) u∧u.Perm (x::B):=by
 have w:=Y
 simp only [aC,aG,bT] at w
 let i:Nat→Bool:=λk=>match (B.map (·.1))[k-(pre.length+1)]? with | some y=>mQ c y x.1 | none=>false
 have p:∀k,pre.length+1≤k→k < pre.length+1+B.length→Cu (pre++x.1::(B.map (·.1)++post)) f (k:Int) a (i k):=by
  intro k h1 h2
  obtain ⟨y,A,J⟩:=Hu (pre++[x.1]) (B.map (·.1)) post k (by simp; omega) (by simp; omega)
  have L:lD (pre++x.1::(B.map (·.1)++post)) (k:Int)=some y:=by simpa using J
  have M:lD (pre++x.1::(B.map (·.1)++post)) a=some x.1:=mz _ _ _ _ ha
  have hy:G y:=by
   obtain ⟨q,Z,rfl⟩:=aS.1 (cX A)
   exact I q (by simp [Z])
  refine ⟨y,x.1,_,L,M,W y x.1 hy (I x (by simp)),?_⟩
  simp only [aC,aG,aZ] at A
  simp only [i,A]
 obtain ⟨t,n',t1,t2,t3,t4,e⟩:=Yh (f:=f) _ a i (pre.length+1) (pre.length+1+B.length) (by omega) p B.length kY (pre.length+1) (pre.length+1+B.length) (by omega) (by rw [my]; omega) (aR _) (by omega) (aR _) (.inl rfl) (.inl rfl)
 rw [hm,hb,e,mS]
 simp only [gP,bN,aB,aI,pI]
 obtain ⟨P,S,rfl,R⟩:=sN (l:=B) (n:=t-(pre.length+1)) (by omega)
 simp only [aC] at w t2 t4
 have O:pre++x.1::((P++S).map (·.1)++post)=pre++x.1::(P.map (·.1)++(S.map (·.1)++post)):=by simp
 rw [O,RN x.1 (P.map (·.1)) pre (S.map (·.1)++post) kY a (t:Int) (by rw [my]; simp; omega) (by simp; omega) ha (by simp; omega)]
 refine ⟨P++x::S,by simp,DA h Q ?_ ?_,fi⟩
 ·intro A' z E B' j d
  simp only [aY] at d
  rw [←d.1]
  have T:0 < P.length:=by rw [j]; simp
  have hp:i (t-1)=true:=by
   rcases t3 with t3 | t3
   ·omega
   ·exact t3
  have v:=wE (Ar S j)
  rw [show P.length-1=t-1-(pre.length+1) by omega] at v
  simp only [i,v] at hp
  exact .inl hp
 ·intro A' z E B' j d
  have hz:z=x:=by
   cases A' with
   | nil=>simpa using j.symm
   | cons _ A'=>simp at j
  rw [hz]
  have U:0 < S.length:=by rw [d]; simp
  have hp:i t=false:=by
   rcases t4 with t4 | t4
   ·omega
   ·exact t4
  have v:=wE (Ah P d)
  rw [R] at v
  simp only [i,v] at hp
  exact .inr ⟨hp,ht E (by rw [d]; simp)⟩
theorem UF (h:SWO (mQ c)) (W:wL f c G) (y:kq×Nat) (A:List (kq×Nat)) (pre post:List kq) (a m:Int) (Q:oy (mQ c) A) (ht:∀x∈A,x.2 < y.2) (I:∀x∈y::A,G x.1) (Y:(pre++(A.map (·.1)++y.1::post)).length≤400000) (ha:a=(pre.length:Int)) (hm:m=((pre.length+A.length:Nat):Int)) :
  ∃u,mT (pre++(A.map (·.1)++y.1::post)) m f kY a m=some (pre++(u.map (·.1)++post))∧oy (mQ c) u∧u.Perm (A++[y]):=by
 have w:=Y
 simp only [aC,aG,bT] at w
 let j:Nat→Bool:=λk=>match (A.map (·.1))[k-pre.length]? with | some x=>!mQ c y.1 x | none=>false
 have p:∀k,pre.length≤k→k < pre.length+A.length→Cu (pre++(A.map (·.1)++y.1::post)) f m (k:Int) (!j k):=by
  intro k h1 h2
  obtain ⟨x,E,L⟩:=Hu pre (A.map (·.1)) (y.1::post) k h1 (by simp; omega)
  have M:lD (pre++(A.map (·.1)++y.1::post)) m=some y.1:=by
   have:=mz (pre++A.map (·.1)) y.1 post m (by rw [hm]; simp)
   simpa using this
  have hx:G x:=by
   obtain ⟨q,Z,rfl⟩:=aS.1 (cX E)
   exact I q (by simp [Z])
  refine ⟨y.1,x,_,M,L,W y.1 x (I y (by simp)) hx,?_⟩
  simp only [j,E,fe]
 obtain ⟨t,n',t1,t2,t3,t4,e⟩:=YL (f:=f) _ m j pre.length (pre.length+A.length) (by omega) p A.length kY pre.length (pre.length+A.length) (by omega) (by rw [my]; omega) (aR _) (by omega) (aR _) (.inl rfl) (.inl rfl)
 rw [←hm,←ha] at e
 rw [e,mT]
 simp only [gP,bN,aB,aI,pI]
 obtain ⟨P,S,rfl,R⟩:=sN (l:=A) (n:=t-pre.length) (by omega)
 simp only [aC] at w t2 t4 hm
 have O:pre++((P++S).map (·.1)++y.1::post)=(pre++P.map (·.1))++(S.map (·.1)++y.1::post):=by simp
 rw [O,YM y.1 S.length (S.map (·.1)) (pre++P.map (·.1)) post kY m (t:Int) (by simp) (by rw [my]; omega) (by simp; omega) (by rw [hm]; simp; omega) (by simp; omega)]
 refine ⟨P++y::S,by simp,DA h Q ?_ ?_,List.perm_middle.trans (fp y (P++S)).symm⟩
 ·intro A' z J B' d i
  simp only [aY] at i
  rw [←i.1]
  have T:0 < P.length:=by rw [d]; simp
  have hp:j (t-1)=true:=by
   rcases t3 with t3 | t3
   ·omega
   ·exact t3
  have v:=wE (Ar S d)
  rw [show P.length-1=t-1-pre.length by omega] at v
  simp only [j,v,eW] at hp
  exact .inr ⟨hp,ht z (by rw [d]; simp)⟩
 ·intro A' z J B' d i
  have hz:z=y:=by
   cases A' with
   | nil=>simpa using d.symm
   | cons _ A'=>simp at d
  rw [hz]
  have U:0 < S.length:=by rw [i]; simp
  have hp:j t=false:=by
   rcases t4 with t4 | t4
   ·omega
   ·exact t4
  have v:=wE (Ah P i)
  rw [R] at v
  simp only [j,v,gW] at hp
  exact .inl hp
def Jv (c:kq→kq→Int) (A B:List kq) (d i p q:Nat):Bool:=match A[q-d]?,B[p-q-i]? with | some x,some y=>!mQ c y x | _,_=>false
theorem Jm {A B:List kq} {d i p q:Nat} {x y:kq} (h1:A[q-d]? =some x) (j:B[p-q-i]? =some y):Jv c A B d i p q=!mQ c y x:=by simp only [Jv,h1,j]
theorem Wb (I:wL f c G) (A B:List (kq×Nat)) (pre post:List kq) (d p:Nat) (J:d=pre.length+A.length) (u:∀x∈A++B,G x.1) (q:Nat) (O:pre.length≤q) (P:q < d) (Q:d≤p-q) (R:p-q < d+B.length) :
  Cu (pre++(A.map (·.1)++(B.map (·.1)++post))) f ((p-q:Nat):Int) (q:Int) (!Jv c (A.map (·.1)) (B.map (·.1)) pre.length d p q):=by
 obtain ⟨x,n,v⟩:=Hu pre (A.map (·.1)) (B.map (·.1)++post) q O (by simp; omega)
 obtain ⟨y,i,w⟩:=Hu (pre++A.map (·.1)) (B.map (·.1)) post (p-q) (by simp; omega) (by simp; omega)
 have L:G x:=by
  obtain ⟨z,j,rfl⟩:=aS.1 (cX n)
  exact u z (by simp [j])
 have M:G y:=by
  obtain ⟨z,j,rfl⟩:=aS.1 (cX i)
  exact u z (by simp [j])
 have E:lD (pre++(A.map (·.1)++(B.map (·.1)++post))) ((p-q:Nat):Int)=some y:=by simpa using w
 refine ⟨y,x,_,E,v,I y x M L,?_⟩
 rw [show p-q-(pre++A.map (·.1)).length=p-q-d by simp; omega] at i
 rw [Jm n i,fe]
abbrev Ye (c:kq→kq→Int) (G:kq→Prop) (f:kq×kq→Option Int) (rec:List kq→Int→Int→Int→((kq×kq)→Option Int)→Option (List kq)) (k:Nat):Prop :=
 ∀(A B:List (kq×Nat)) (pre post:List kq) (a m b:Int),A.length+B.length≤k→0 < A.length→0 < B.length→oy (mQ c) A→oy (mQ c) B→
  (∀x∈A,∀y∈B,x.2 < y.2)→(∀x∈A++B,G x.1)→(pre++(A.map (·.1)++(B.map (·.1)++post))).length≤400000→a=(pre.length:Int)→m=((pre.length+A.length:Nat):Int)→b=((pre.length+A.length+B.length:Nat):Int)→
  ∃u,rec (pre++(A.map (·.1)++(B.map (·.1)++post))) a m b f=some (pre++(u.map (·.1)++post))∧oy (mQ c) u∧u.Perm (A++B)
theorem Tm (h:SWO (mQ c)) {rec:List kq→Int→Int→Int→((kq×kq)→Option Int)→Option (List kq)} {k:Nat} (ih:Ye c G f rec k) (A1 A2 B1 B2:List (kq×Nat)) (pre post:List kq) (a m b:Int) (mid d t:Nat) (U:d=pre.length+(A1.length+A2.length)) (Y:mid=(pre.length+(d+(B1.length+B2.length))) / 2) (R:A1.length=t-pre.length) (T:B1.length=mid-t) (Z:pre.length≤t) (a1:t≤mid) (a6:t≤d) (hk:A1.length+A2.length+(B1.length+B2.length)≤k+1) (W:2≤A1.length+A2.length+(B1.length+B2.length)) (v:oy (mQ c) (A1++A2)) (w:oy (mQ c) (B1++B2)) (Q:∀x∈A1++A2,∀y∈B1++B2,x.2 < y.2) (P:∀x∈(A1++A2)++(B1++B2),G x.1) (hl:pre.length+(A1.length+A2.length+(B1.length+B2.length+post.length))≤400000) (ha:a=(pre.length:Int)) (hm:m=(d:Int)) (hb:b=((d+(B1.length+B2.length):Nat):Int)) (l1:Lk (mQ c) A1 B2) (l2:Lk (mQ c) B1 A2) :
  ∃u,((if t < d∧d < mid+d-t then oZ (pre++((A1++A2).map (·.1)++((B1++B2).map (·.1)++post))) (t:Int) m ((mid+d-t:Nat):Int) f else some (pre++((A1++A2).map (·.1)++((B1++B2).map (·.1)++post)))).bind λl=>
   ((if a < (t:Int)∧t < mid then rec l a (t:Int) (mid:Int) f else some l).bind λl=>if mid < mid+d-t∧((mid+d-t:Nat):Int) < b then rec l (mid:Int) ((mid+d-t:Nat):Int) b f else some l))=some (pre++(u.map (·.1)++post))∧oy (mQ c) u∧u.Perm ((A1++A2)++(B1++B2)):=by
 have r1:(if t < d∧d < mid+d-t then oZ (pre++((A1++A2).map (·.1)++((B1++B2).map (·.1)++post))) (t:Int) m ((mid+d-t:Nat):Int) f else some (pre++((A1++A2).map (·.1)++((B1++B2).map (·.1)++post)))) =
   some (pre++(A1.map (·.1)++(B1.map (·.1)++(A2.map (·.1)++(B2.map (·.1)++post))))):=by
  by_cases j:t < d∧d < mid+d-t
  ·rw [bD j]
   have:=Yj (f:=f) (A2.map (·.1)) (B1.map (·.1)) (pre++A1.map (·.1)) (B2.map (·.1)++post) (t:Int) m ((mid+d-t:Nat):Int) (by simp; omega) (by simp; omega) (by simp; omega) (by simp; omega) (by simp; omega) (by simp; omega)
   simpa using this
  ·rw [bG j]
   have:A2=[]∨B1=[]:=by
    by_cases h1:A2.length=0
    ·exact .inl (aJ h1)
    ·exact .inr (aJ (by omega))
   rcases this with rfl | rfl <;> simp
 rw [r1,aA]
 have r2:∃C1,(if a < (t:Int)∧t < mid then rec (pre++(A1.map (·.1)++(B1.map (·.1)++(A2.map (·.1)++(B2.map (·.1)++post))))) a (t:Int) (mid:Int) f else some (pre++(A1.map (·.1)++(B1.map (·.1)++(A2.map (·.1)++(B2.map (·.1)++post)))))) =
   some (pre++(C1.map (·.1)++(A2.map (·.1)++(B2.map (·.1)++post))))∧oy (mQ c) C1∧C1.Perm (A1++B1):=by
  by_cases j:a < (t:Int)∧t < mid
  ·rw [bD j]
   exact ih A1 B1 pre (A2.map (·.1)++(B2.map (·.1)++post)) a t mid (by omega) (by omega) (by omega) v.left w.left (λx i y L=>Q x (by simp [i]) y (by simp [L])) (λx i=>P x (by simp at i ⊢; rcases i with i | i <;> simp [i]))
    (by simp; omega) ha (by omega) (by omega)
  ·rw [bG j]
   refine ⟨A1++B1,by simp,Hq h v.left w.left (λA' x y B' M O=>?_),.refl _⟩
   have g1:0 < A1.length:=by rw [M]; simp
   have g2:0 < B1.length:=by rw [O]; simp
   omega
 obtain ⟨C1,z,E,n⟩:=r2
 have A:=n.length_eq
 simp only [aC] at A
 rw [z,aA]
 have r3:∃C2,(if mid < mid+d-t∧((mid+d-t:Nat):Int) < b then rec (pre++(C1.map (·.1)++(A2.map (·.1)++(B2.map (·.1)++post)))) (mid:Int) ((mid+d-t:Nat):Int) b f else some (pre++(C1.map (·.1)++(A2.map (·.1)++(B2.map (·.1)++post))))) =
   some ((pre++C1.map (·.1))++(C2.map (·.1)++post))∧oy (mQ c) C2∧C2.Perm (A2++B2):=by
  by_cases j:mid < mid+d-t∧((mid+d-t:Nat):Int) < b
  ·rw [bD j]
   have:=ih A2 B2 (pre++C1.map (·.1)) post mid ((mid+d-t:Nat):Int) b (by omega) (by omega) (by omega) v.right w.right (λx i y L=>Q x (by simp [i]) y (by simp [L])) (λx i=>P x (by simp at i ⊢; rcases i with i | i <;> simp [i]))
    (by simp; omega) (by simp; omega) (by simp; omega) (by simp; omega)
   simpa using this
  ·rw [bG j]
   refine ⟨A2++B2,by simp,Hq h v.right w.right (λA' x y B' M O=>?_),.refl _⟩
   have g1:0 < A2.length:=by rw [M]; simp
   have g2:0 < B2.length:=by rw [O]; simp
   omega
 obtain ⟨C2,I,J,p⟩:=r3
 rw [I]
 exact ⟨C1++C2,by simp,Sd h v w l1 l2 n p E J,ON n p⟩
theorem Po (F:Nat) (U:1000000 < F) (L:List kq) (rec:List kq→Int→Int→Int→((kq×kq)→Option Int)→Option (List kq)) (pl i j mid d p:Nat) (a b m:Int) (A:Nat→Bool) (J:0 < i) (M:0 < j) (Q:pl+(i+j)≤400000) (P:mid=(pl+(pl+i+j)) / 2) (O:d=pl+i) (hp:p+1=mid+d) (w:a+b=((2*mid:Nat):Int)∨a+b=((2*mid+1:Nat):Int)) (ha:a=(pl:Int)) (v:m=(d:Int)) (hb:b=((pl+i+j:Nat):Int)) (n:∀q,pl≤q→q < d→d≤p-q→p-q < d+j→Cu L f ((p-q:Nat):Int) (q:Int) (!A q)) :
  ∃t z lo E:Nat,(lo=pl∧E=d∧d≤mid∨lo+(pl+i+j)=mid+d∧E=mid∧mid < d)∧lo≤t∧t≤E∧(t=lo∨A (t-1)=true)∧(t=E∨A t=false)∧
    ((if decide (m > (mid:Int)) then some (wi0 .i64 (((mid+d:Nat):Int)-b),(mid:Int)) else some (a,m):Option (Int×Int)).bind λx=>mx L a b m f rec F x.1 x.2) =
     mx L a b m f rec (z+1) (t:Int) (t:Int):=by
 by_cases I:mid < d
 ·obtain ⟨lo,G⟩:∃lo:Nat,lo+(pl+i+j)=mid+d:=⟨mid+d-(pl+i+j),by omega⟩
  obtain ⟨t,z,t1,t2,t3,t4,e⟩:=Rw (f:=f) L a b m rec mid d p w v hp A lo mid (by omega) (by omega) (by omega) (by omega) (λq R T=>n q (by omega) (by omega) (by omega) (by omega))
   (mid-lo) F lo mid (aR _) (by omega) (aR _) (by omega) (aR _) (.inl rfl) (.inl rfl)
  refine ⟨t,z,lo,mid,.inr ⟨G,rfl,I⟩,t1,t2,t3,t4,?_⟩
  have u:m > (mid:Int):=by omega
  simp only [u,bB,aK,aA]
  rw [mI lo (by omega) (by omega),e]
 ·obtain ⟨t,z,t1,t2,t3,t4,e⟩:=Rw (f:=f) L a b m rec mid d p w v hp A pl d (by omega) (by omega) (by omega) (by omega) (λq R T=>n q (by omega) (by omega) (by omega) (by omega))
   (d-pl) F pl d (aR _) (by omega) (aR _) (by omega) (aR _) (.inl rfl) (.inl rfl)
  refine ⟨t,z,pl,d,.inl ⟨rfl,rfl,by omega⟩,t1,t2,t3,t4,?_⟩
  have u:¬(m > (mid:Int)):=by omega
  simp only [u,bN,aB,aI,aA]
  rw [←e,←ha,←v]
set_option maxHeartbeats 2000000 in
theorem WD (h:SWO (mQ c)) (hf:wL f c G):∀(k:Nat) (A B:List (kq×Nat)) (pre post:List kq) (n:Nat) (a m b:Int),A.length+B.length≤k→0 < A.length→0 < B.length→k < n→oy (mQ c) A→oy (mQ c) B→
  (∀x∈A,∀y∈B,x.2 < y.2)→(∀x∈A++B,G x.1)→(pre++(A.map (·.1)++(B.map (·.1)++post))).length≤400000→a=(pre.length:Int)→m=((pre.length+A.length:Nat):Int)→b=((pre.length+A.length+B.length:Nat):Int)→
  ∃u,np n (pre++(A.map (·.1)++(B.map (·.1)++post))) a m b f=some (pre++(u.map (·.1)++post))∧oy (mQ c) u∧u.Perm (A++B):=by
 intro k
 induction k with
 | zero=>intro A B pre post n a m b h0 h1 h2; omega
 | succ k ih=>
  intro A B pre post n a m b h0 h1 h2 hn hA hB Z Y hl ha hm hb
  obtain ⟨n,rfl⟩:=aF (by omega:n≠0)
  have T:=hl
  simp only [aC,bT] at T
  rw [np]
  unfold sw
  by_cases c1:A.length=1
  ·obtain ⟨x,rfl⟩:=fW.1 c1
   have:(wi0 .i64 (m-a)==1)=true:=by rw [mI 1 (by simp at hm; omega) (by omega)]; rfl
   simp only [this,aK]
   obtain ⟨u,u1,u2,u3⟩:=TT h hf x B pre post a m b hB (λy hy=>Z x (by simp) y hy) (λy hy=>Y y (by simpa using hy)) (by simpa using hl) ha (by simpa using hm) (by simpa using hb)
   exact ⟨u,by simpa using u1,u2,by simpa using u3⟩
  have n1:(wi0 .i64 (m-a)==1)=false:=by rw [mI A.length (by omega) (by omega)]; simp; omega
  simp only [n1,aB,aI]
  by_cases c2:B.length=1
  ·obtain ⟨y,rfl⟩:=fW.1 c2
   have:(wi0 .i64 (b-m)==1)=true:=by rw [mI 1 (by simp at hb; omega) (by omega)]; rfl
   simp only [this,aK]
   obtain ⟨u,u1,u2,u3⟩:=UF h hf y A pre post a m hA (λx hx=>Z x hx y (by simp)) (λx hx=>Y x (by simp at hx ⊢; exact hx.symm)) (by simpa using hl) ha hm
   exact ⟨u,by simpa using u1,u2,u3⟩
  have n2:(wi0 .i64 (b-m)==1)=false:=by rw [mI B.length (by omega) (by omega)]; simp; omega
  simp only [n2,aB,aI]
  obtain ⟨F,hF,a6⟩:∃F,F=kY∧1000000 < F:=⟨kY,rfl,by rw [my]; omega⟩
  rw [←hF]
  obtain ⟨mid,M⟩:∃mid:Nat,mid=(pre.length+(pre.length+A.length+B.length)) / 2:=⟨_,rfl⟩
  obtain ⟨d,v⟩:∃d:Nat,d=pre.length+A.length:=⟨_,rfl⟩
  obtain ⟨p,hp⟩:∃p:Nat,p+1=mid+d:=⟨mid+d-1,by omega⟩
  have J:a+b=((2*mid:Nat):Int)∨a+b=((2*mid+1:Nat):Int):=by omega
  have O:wi0 .i64 (Int.fdiv (IntKind.u64.wrap (wi0 .i64 (a+b))) (2 ^ min (Int.toNat 1) (IntKind.bits .u64)))=(mid:Int):=by
   rcases J with h | h
   ·rw [zD _ h (by omega),show 2*mid / 2=mid by omega]
   ·rw [zD _ h (by omega),show (2*mid+1) / 2=mid by omega]
  have L:m=(d:Int):=by omega
  have w1:wi0 .i64 ((mid:Int)+m)=((mid+d:Nat):Int):=mI _ (by omega) (by omega)
  obtain ⟨P,w⟩:∃P:Nat→Bool,P=Jv c (A.map (·.1)) (B.map (·.1)) pre.length d p:=⟨_,rfl⟩
  have R:∀q,pre.length≤q→q < d→d≤p-q→p-q < d+B.length→Cu (pre++(A.map (·.1)++(B.map (·.1)++post))) f ((p-q:Nat):Int) (q:Int) (!P q):=λq i j q3 q4=>by rw [w]; exact Wb hf A B pre post d p v Y q i j q3 q4
  obtain ⟨t,n',lo,hi,a7,t1,t2,t3,t4,e⟩:=Po (f:=f) F a6 (pre++(A.map (·.1)++(B.map (·.1)++post))) (np n) pre.length A.length B.length mid d p a b m P (by omega) (by omega) (by omega) M v hp J ha L hb R
  simp only [O,w1]
  rw [e,TF (f:=f) _ a b m _ mid d t n' J L (by omega) (by omega) (by omega)]
  obtain ⟨A1,A2,rfl,Q⟩:=sN (l:=A) (n:=t-pre.length) (by omega)
  obtain ⟨B1,B2,rfl,a1⟩:=sN (l:=B) (n:=mid-t) (by omega)
  simp only [aC] at h0 h1 h2 T t1 t2 t3 t4 a7 hm hb v M
  have U:∀q x y,((A1++A2).map (·.1))[q-pre.length]? =some x→((B1++B2).map (·.1))[p-q-d]? =some y→P q=!mQ c y x:=λq x y E I=>by rw [w]; exact Jm E I
  have l1:Lk (mQ c) A1 B2:=by
   intro A' z b' B' i j
   have g1:0 < A1.length:=by rw [i]; simp
   have g2:0 < B2.length:=by rw [j]; simp
   have W:P (t-1)=true:=by
    rcases t3 with t3 | t3
    ·omega
    ·exact t3
   have E:=wE (Ar A2 i)
   have I:=wE (Ah B1 j)
   rw [show A1.length-1=t-1-pre.length by omega] at E
   rw [show B1.length=p-(t-1)-d by omega] at I
   rw [U _ _ _ E I,eW] at W
   exact .inr ⟨W,Z z (by rw [i]; simp) b' (by rw [j]; simp)⟩
  have l2:Lk (mQ c) B1 A2:=by
   intro A' z b' B' i j
   have g1:0 < B1.length:=by rw [i]; simp
   have g2:0 < A2.length:=by rw [j]; simp
   have W:P t=false:=by
    rcases t4 with t4 | t4
    ·omega
    ·exact t4
   have E:=wE (Ar B2 i)
   have I:=wE (Ah A1 j)
   rw [show B1.length-1=p-t-d by omega] at E
   rw [Q] at I
   rw [U _ _ _ I E,gW] at W
   exact .inl W
  exact Tm h (λA B pre post a m b i j q3=>ih A B pre post n a m b i j q3 (by omega)) A1 A2 B1 B2 pre post a m b mid d t v (by rw [M]; congr 1; omega) Q a1 (by omega) (by omega) (by omega) (by omega) (by omega) hA hB Z Y (by omega) ha L (by rw [hb]; congr 1; omega) l1 l2
end
section
variable {c:kq→kq→Int} {G:kq→Prop} {f:kq×kq→Option Int}
def qX (c:kq→kq→Int):Nat→List (List (kq×Nat))→Prop
 | _,[]=>True
 | o,A::bs=>oy (mQ c) A∧(∀x∈A,o≤x.2∧x.2 < o+A.length)∧qX c (o+A.length) bs
def vv (s:Nat):List (List (kq×Nat))→Prop
 | []=>True
 | A::bs=>A.length≤s∧(bs≠[]→A.length=s)∧vv s bs
theorem qX.append:∀{ds bs:List (List (kq×Nat))} {o:Nat},qX c o (ds++bs)↔qX c o ds∧qX c (o+ds.flatten.length) bs
 | [],bs,o=>by simp [qX]
 | A::ds,bs,o=>by
  simp only [bM,qX,qX.append (ds:=ds),aV,aC,and_assoc,ew]
def oY (bs:List (List (kq×Nat))):List kq:=bs.flatten.map (·.1)
theorem H8 (a b:List (List (kq×Nat))):oY (a++b)=oY a++oY b:=by simp [oY]
theorem JZ (A:List (kq×Nat)) (b:List (List (kq×Nat))):oY (A::b)=A.map (·.1)++oY b:=by simp [oY]
theorem qE (a:List (List (kq×Nat))):(oY a).length=a.flatten.length:=by unfold oY; rw [bT]
theorem LN (ds:List (List (kq×Nat))) (C:List (kq×Nat)):(ds++[C]).flatten.length=ds.flatten.length+C.length:=by rw [bW,aC]; simp only [aV,cK,aT]
theorem Tj (C:List (kq×Nat)) (bs:List (List (kq×Nat))):oY ([C]++bs)=C.map (·.1)++oY bs:=by simp [oY]
theorem DS {R:List kq} {o:Nat} {x:kq×Nat} (h:x∈R.zipIdx o):x.1∈R:=gq h
theorem vv.two {s:Nat} {A:List (kq×Nat)} {bs:List (List (kq×Nat))} (j:0 < s) (h:vv s (A::bs)) (i:s < (A::bs).flatten.length):A.length=s∧∃B d,bs=B::d∧(B.length=s∨d=[])∧B.length≤s∧vv s d:=by
 cases bs with
 | nil=>simp at i; have:=h.1; omega
 | cons B d=>
  refine ⟨h.2.1 (by simp),B,d,rfl,?_,h.2.2.1,h.2.2.2.2⟩
  by_cases hb:d=[]
  ·exact .inr hb
  ·exact .inl (h.2.2.2.1 hb)
theorem I7 (h:SWO (mQ c)) (J:wL f c G) {ds bs:List (List (kq×Nat))} {A B:List (kq×Nat)} (hO:qX c 0 (ds++A::B::bs)) (I:∀x∈(ds++A::B::bs).flatten,G x.1) (j:(oY (ds++A::B::bs)).length≤400000) (z:0 < A.length) (E:0 < B.length) (a m b:Int) (ha:a=(ds.flatten.length:Int)) (hm:m=((ds.flatten.length+A.length:Nat):Int)) (hb:b=((ds.flatten.length+A.length+B.length:Nat):Int)) :
  ∃C,np kY (oY (ds++A::B::bs)) a m b f=some (oY ((ds++[C])++bs))∧qX c 0 ((ds++[C])++bs)∧C.Perm (A++B):=by
 obtain ⟨h1,w⟩:=qX.append.1 hO
 obtain ⟨Q,u,R,v,L⟩:=w
 have e:oY (ds++A::B::bs)=oY ds++(A.map (·.1)++(B.map (·.1)++oY bs)):=by rw [H8,JZ,JZ]
 rw [e] at j ⊢
 have n:=j
 simp only [aC,bT,qE] at n
 obtain ⟨C,O,P,p⟩:=WD h J (A.length+B.length) A B (oY ds) (oY bs) kY a m b (aR _) z E (by rw [my]; omega) Q R (λx d y M=>by have:=(u x d).2; have:=(v y M).1; omega)
  (λx d=>I x (by
   rw [bW,aV,aV,aO,aO,aO]
   rcases aO.1 d with d | d
   ·exact .inr (.inl d)
   ·exact .inr (.inr (.inl d)))) j (by rw [ha,qE]) (by rw [hm,qE]) (by rw [hb,qE])
 have i:=p.length_eq
 simp only [aC] at i
 refine ⟨C,by rw [O,aM,H8,Tj],?_,p⟩
 ·rw [aM,qX.append]
  refine ⟨h1,P,λx d=>?_,?_⟩
  ·rcases aO.1 (p.mem_iff.1 d) with d | d
   ·have:=u x d; omega
   ·have:=v x d; omega
  ·rw [i,←ew]; exact L
theorem Iq {ds bs:List (List (kq×Nat))} {A B C:List (kq×Nat)} (h:C.Perm (A++B)):((ds++[C])++bs).flatten.Perm (ds++A::B::bs).flatten:=by
 simp only [bW,aV,cK,aT,aM]
 refine bX _ ?_
 rw [←aM]
 exact h.append_right _
theorem QH (h:SWO (mQ c)) (Y:wL f c G) (s:Nat) (hs:0 < s) (a1:s≤1000000) (N:Nat) (hN:N≤400000):∀(k:Nat) (bs ds:List (List (kq×Nat))) (n:Nat) (a b:Int),bs.length≤k→k < n→qX c 0 (ds++bs)→(∀x∈(ds++bs).flatten,G x.1)→(ds++bs).flatten.length=N→vv s bs→(∀A∈ds,A.length=2*s)→
  a=(ds.flatten.length:Int)→b=((ds.flatten.length+2*s:Nat):Int)→
  ∃es r,oD (N:Int) (s:Int) f n (oY (ds++bs)) a b=some (oY (es++r),(es.flatten.length:Int))∧qX c 0 (es++r)∧(es++r).flatten.Perm (ds++bs).flatten∧vv s r∧r.flatten.length < 2*s∧(∀A∈es,A.length=2*s):=by
 intro k
 induction k with
 | zero=>
  intro bs ds n a b hk Z hO z p E u ha hb
  obtain ⟨n,rfl⟩:=aF (by omega:n≠0)
  obtain rfl:=aJ (kk.1 hk)
  simp only [aT] at p
  rw [oD]
  have:¬(b≤(N:Int)):=by omega
  simp only [this,bN,aB,aI]
  exact ⟨ds,[],by rw [ha],hO,.refl _,trivial,by simp only [cK,aZ]; omega,u⟩
 | succ k ih=>
  intro bs ds n a b hk Z hO z p E u ha hb
  obtain ⟨n,rfl⟩:=aF (by omega:n≠0)
  rw [oD]
  by_cases hle:b≤(N:Int)
  ·simp only [hle,bB,aK]
   have d:=p
   rw [bW,aC] at d
   cases bs with
   | nil=>simp only [cK,aZ] at d; omega
   | cons A bs=>
    obtain ⟨hA,B,j,rfl,v,T,I⟩:=vv.two hs E (by omega)
    have U:B.length=s:=by
     rcases v with v | rfl
     ·exact v
     ·simp only [aV,cK,aT,aC] at d; omega
    have w1:wi0 .i64 (a+(s:Int))=((ds.flatten.length+A.length:Nat):Int):=mI _ (by omega) (by omega)
    obtain ⟨C,q1,q2,J⟩:=I7 h Y hO z (by rw [qE]; omega) (by omega) (by omega) a _ b ha w1 (by omega)
    rw [q1,aA]
    have w:=J.length_eq
    simp only [aC] at w
    have w2:wi0 .i64 (2*(s:Int))=((2*s:Nat):Int):=mI _ (by omega) (by omega)
    have W:(ds++[C]).flatten.length=ds.flatten.length+2*s:=by rw [LN]; omega
    have w3:wi0 .i64 (b+((2*s:Nat):Int))=(((ds++[C]).flatten.length+2*s:Nat):Int):=mI _ (by omega) (by omega)
    have hp:=Iq (ds:=ds) (bs:=j) J
    rw [w2,w3]
    obtain ⟨es,r,L,M,O,P,Q,R⟩:=ih j (ds++[C]) n b _ (by simp at hk; omega) (by omega) q2 (λx hx=>z x (hp.mem_iff.1 hx)) (by rw [hp.length_eq,p]) I (λX i=>by
     rcases aO.1 i with i | i
     ·exact u X i
     ·simp at i; rw [i]; omega) (by rw [W]; omega) rfl
    exact ⟨es,r,L,M,O.trans hp,P,Q,R⟩
  ·simp only [hle,bN,aB,aI]
   refine ⟨ds,bs,by rw [ha],hO,.refl _,E,?_,u⟩
   rw [bW,aC] at p
   omega
theorem vv.CU {t:Nat}:∀{es:List (List (kq×Nat))} {C:List (kq×Nat)},(∀A∈es,A.length=t)→C.length≤t→vv t (es++[C])
 | [],C,_,d=>⟨d,λh=>absurd rfl h,trivial⟩
 | E::es,C,h,d=>⟨by rw [h E (by simp)]; omega,λ_=>h E (by simp),vv.CU (λA i=>h A (by simp [i])) d⟩
theorem On {s:Nat} {r:List (List (kq×Nat))} {o:Nat} (d:vv s r) (i:r.flatten.length≤s) (hO:qX c o r):oy (mQ c) r.flatten∧∀x∈r.flatten,o≤x.2∧x.2 < o+r.flatten.length:=by
 cases r with
 | nil=>exact ⟨.nil,λx j=>by cases j⟩
 | cons A r=>
  have:r.flatten=[]:=by
   by_cases hb:r=[]
   ·rw [hb]; rfl
   ·have:=d.2.1 hb
    rw [aV,aC] at i
    exact aJ (by omega)
  rw [aV,this,aT]
  exact ⟨hO.1,hO.2.1⟩
theorem PN (h:SWO (mQ c)) (hf:wL f c G) (N:Nat) (hN:N≤400000):∀(k s:Nat) (bs:List (List (kq×Nat))) (n:Nat),N-s≤k→k < n→0 < s→s≤1000000→qX c 0 bs→(∀x∈bs.flatten,G x.1)→bs.flatten.length=N→vv s bs→
  ∃u,nU (N:Int) f n (oY bs) (s:Int)=some (u.map (·.1))∧oy (mQ c) u∧u.Perm bs.flatten:=by
 intro k
 induction k with
 | zero=>
  intro s bs n hk hn R z hO w p i
  obtain ⟨n,rfl⟩:=aF (by omega:n≠0)
  rw [nU]
  have:¬((s:Int) < (N:Int)):=by omega
  simp only [this,bN,aB,aI]
  refine ⟨bs.flatten,rfl,?_,.refl _⟩
  cases bs with
  | nil=>exact .nil
  | cons A bs=>
   have:bs.flatten=[]:=by
    by_cases hb:bs=[]
    ·rw [hb]; rfl
    ·have:=i.2.1 hb
     rw [aV,aC] at p
     exact aJ (by omega)
   rw [aV,this,aT]
   exact hO.1
 | succ k ih=>
  intro s bs n hk hn R z hO w p i
  by_cases a8:s < N
  ·obtain ⟨n,rfl⟩:=aF (by omega:n≠0)
   rw [nU]
   have:((s:Int) < (N:Int)):=by omega
   simp only [this,bB,aK]
   have w1:wi0 .i64 (2*(s:Int))=((2*s:Nat):Int):=mI _ (by omega) (by omega)
   have w0:wi0 .i64 ((s:Int)*2)=((2*s:Nat):Int):=mI _ (by omega) (by omega)
   have a7:bs.length≤2000000:=by
    have:∀{bs:List (List (kq×Nat))},vv s bs→bs.length≤bs.flatten.length+1:=by
     intro bs
     induction bs with
     | nil=>intro _; simp
     | cons A bs T=>
      intro i
      by_cases hb:bs=[]
      ·subst hb; simp
      ·have:=i.2.1 hb
       have:=T i.2.2
       simp only [aG,aV,aC]
       omega
    have:=this i
    omega
   obtain ⟨es,r,Y,Z,d,e4,e5,e6⟩:=QH h hf s R z N hN bs.length bs [] kY 0 ((2*s:Nat):Int) (aR _) (by rw [my]; omega) (by simpa using hO) (by simpa using w) (by simpa using p) i (by simp) rfl (by simp)
   simp only [aW] at Y d
   rw [w1,Y,aA,w0]
   have v:=d.length_eq
   rw [p,bW,aC] at v
   have w2:wi0 .i64 ((es.flatten.length:Int)+(s:Int))=((es.flatten.length+s:Nat):Int):=mI _ (by omega) (by omega)
   simp only [w2]
   by_cases hm:es.flatten.length+s < N
   ·have:(((es.flatten.length+s:Nat):Int) < (N:Int)):=by omega
    simp only [this,bB,aK,pI]
    cases r with
    | nil=>simp only [cK,aZ] at v; omega
    | cons A r=>
     obtain ⟨hA,B,r',rfl,I,a1,a6⟩:=vv.two R e4 (by omega)
     have Q:r'=[]:=by
      rcases I with I | I
      ·by_cases hr:r'=[]
       ·exact hr
       ·simp only [aV,aC] at e5; omega
      ·exact I
     subst Q
     simp only [aV,cK,aT,aC] at v e5
     obtain ⟨C,q1,q2,q3⟩:=I7 h hf Z (λx E=>w x (d.mem_iff.1 E)) (by rw [qE,d.length_eq]; omega) (by omega) (by omega) (es.flatten.length:Int) ((es.flatten.length+s:Nat):Int) (N:Int) rfl (by omega) (by omega)
     rw [q1,aA]
     have L:=q3.length_eq
     simp only [aC] at L
     have hp:=(Iq (ds:=es) (bs:=[]) q3).trans d
     simp only [aT] at q2 hp ⊢
     obtain ⟨u,U,W,J⟩:=ih (2*s) (es++[C]) n (by omega) (by omega) (by omega) (by omega) q2 (λx E=>w x (hp.mem_iff.1 E)) (by rw [hp.length_eq,p]) (vv.CU e6 (by omega))
     exact ⟨u,U,W,J.trans hp⟩
   ·have:¬(((es.flatten.length+s:Nat):Int) < (N:Int)):=by omega
    simp only [this,bN,aB,aI,aA]
    obtain ⟨M,O⟩:=qX.append.1 Z
    obtain ⟨b1,b2⟩:=On e4 (by omega) O
    have P:oY (es++r)=oY (es++[r.flatten]):=by simp [oY]
    have j:(es++[r.flatten]).flatten=(es++r).flatten:=by simp
    rw [P]
    obtain ⟨u,U,W,J⟩:=ih (2*s) (es++[r.flatten]) n (by omega) (by omega) (by omega) (by omega) (qX.append.2 ⟨M,b1,b2,trivial⟩) (λx E=>w x (d.mem_iff.1 (by rw [←j]; exact E))) (by rw [j,d.length_eq,p]) (vv.CU e6 (by omega))
    exact ⟨u,U,W,by rw [j] at J; exact J.trans d⟩
  ·obtain ⟨n,rfl⟩:=aF (by omega:n≠0)
   rw [nU]
   have:¬((s:Int) < (N:Int)):=by omega
   simp only [this,bN,aB,aI]
   refine ⟨bs.flatten,rfl,?_,.refl _⟩
   cases bs with
   | nil=>exact .nil
   | cons A bs=>
    have:bs.flatten=[]:=by
     by_cases hb:bs=[]
     ·rw [hb]; rfl
     ·have:=i.2.1 hb
      rw [aV,aC] at p
      exact aJ (by omega)
    rw [aV,this,aT]
    exact hO.1
theorem GO:∀(l:List kq) (o:Nat),(l.zipIdx o).Pairwise (λx y=>x.2 < y.2)
 | [],o=>by simp
 | x::l,o=>by
  rw [gv,bY]
  refine ⟨λy d=>?_,GO l (o+1)⟩
  obtain ⟨a,b⟩:=y
  have:=eK d
  simp only at this ⊢; omega
theorem J2 (l:List kq) (o:Nat):∀x∈l.zipIdx o,o≤x.2∧x.2 < o+l.length:=by
 rintro ⟨a,b⟩ d
 have h1:=eK d
 have i:=iO d
 simp only at h1 i ⊢; omega
theorem LD (h:SWO (mQ c)) (w:wL f c G) (N:Nat) (M:N≤300000) (R:List kq) (ds:List (List (kq×Nat))) (n:Nat) (a b:Int) (P:0 < n) (hO:qX c 0 ds) (E:∀A∈ds,A.length=20) (I:∀x∈ds.flatten,G x.1) (p:∀x∈R,G x) (O:ds.flatten.length+R.length=N) (J:R.length < 20) (ha:a=(ds.flatten.length:Int)) (hb:b=((ds.flatten.length+20:Nat):Int)) :
  ∃u,nW (N:Int) f n (oY ds++R) a b=some (u.map (·.1))∧oy (mQ c) u∧u.Perm (ds.flatten++R.zipIdx ds.flatten.length):=by
 obtain ⟨n,rfl⟩:=aF (by omega:n≠0)
 rw [nW]
 have hle:¬(b≤(N:Int)):=by omega
 simp only [hle,bN,aB,aI,pI]
 obtain ⟨u,z,L,i⟩:=Ke h w (oY ds) [] (R.zipIdx ds.flatten.length) a (N:Int) (GO _ _) (λx d=>p x.1 (DS d)) (by simp only [aC,qE,bT,dw,aZ]; omega) (by rw [qE]; exact ha) (by rw [qE,dw]; omega)
 rw [fK,aT,aT] at z
 have j:=i.length_eq
 rw [dw] at j
 have e:oY ds++u.map (·.1)=oY (ds++[u]):=by simp [oY]
 have hp:(ds++[u]).flatten.Perm (ds.flatten++R.zipIdx ds.flatten.length):=by
  rw [bW]
  refine bX _ ?_
  simpa using i
 rw [z,aA,e]
 obtain ⟨v,v1,v2,v3⟩:=PN h w N (by omega) N 20 (ds++[u]) kY (by omega) (by rw [my]; omega) (by omega) (by omega) (qX.append.2 ⟨hO,L,λx d=>by have:=J2 R ds.flatten.length x (i.mem_iff.1 d); omega,trivial⟩) (λx d=>by
  rw [bW,aO] at d
  rcases d with d | d
  ·exact I x d
  ·simp only [aV,cK,aT] at d
   exact p x.1 (DS (i.mem_iff.1 d))) (by rw [hp.length_eq,aC,dw]; omega) (vv.CU E (by omega))
 exact ⟨v,v1,v2,v3.trans hp⟩
theorem PO (h:SWO (mQ c)) (L:wL f c G) (N:Nat) (P:N≤300000):∀(k:Nat) (R:List kq) (ds:List (List (kq×Nat))) (n:Nat) (a b:Int),R.length≤k→k < n→qX c 0 ds→(∀A∈ds,A.length=20)→(∀x∈ds.flatten,G x.1)→(∀x∈R,G x)→ds.flatten.length+R.length=N→
  a=(ds.flatten.length:Int)→b=((ds.flatten.length+20:Nat):Int)→
  ∃u,nW (N:Int) f n (oY ds++R) a b=some (u.map (·.1))∧oy (mQ c) u∧u.Perm (ds.flatten++R.zipIdx ds.flatten.length):=by
 intro k
 induction k with
 | zero=>
  intro R ds n a b hk Q hO z E p I ha hb
  obtain rfl:=aJ (kk.1 hk)
  exact LD h L N P [] ds n a b Q hO z E p I (by simp) ha hb
 | succ k ih=>
  intro R ds n a b hk Q hO z E p I ha hb
  by_cases O:R.length < 20
  ·exact LD h L N P R ds n a b (by omega) hO z E p I O ha hb
  obtain ⟨n,rfl⟩:=aF (by omega:n≠0)
  obtain ⟨R1,R2,rfl,w⟩:=sN (l:=R) (n:=20) (by omega)
  rw [aC] at I hk
  rw [nW]
  have hle:b≤(N:Int):=by omega
  simp only [hle,bB,aK]
  obtain ⟨u,T,U,J⟩:=Ke h L (oY ds) R2 (R1.zipIdx ds.flatten.length) a b (GO _ _) (λx d=>p x.1 (by simp [DS d])) (by simp only [aC,qE,bT,dw,aZ]; omega) (by rw [qE]; exact ha) (by rw [qE,dw]; omega)
  rw [fK] at T
  rw [T,aA]
  have i:=J.length_eq
  rw [dw,w] at i
  have M:(ds++[u]).flatten.length=ds.flatten.length+20:=by rw [LN,i]
  have W:wi0 .i64 (b+20)=(((ds++[u]).flatten.length+20:Nat):Int):=mI _ (by omega) (by omega)
  have e:oY ds++(u.map (·.1)++R2)=oY (ds++[u])++R2:=by simp [oY]
  rw [e,W]
  obtain ⟨v,v1,v2,v3⟩:=ih R2 (ds++[u]) n b _ (by omega) (by omega) (qX.append.2 ⟨hO,U,λx d=>by have:=J2 R1 ds.flatten.length x (J.mem_iff.1 d); omega,trivial⟩) (λA j=>by
   rcases aO.1 j with j | j
   ·exact z A j
   ·simp at j; rw [j]; exact i) (λx d=>by
   rw [bW,aO] at d
   rcases d with d | d
   ·exact E x d
   ·simp only [aV,cK,aT] at d
    exact p x.1 (by simp [DS (J.mem_iff.1 d)])) (λx d=>p x (by simp [d])) (by omega) (by omega) rfl
  refine ⟨v,v1,v2,v3.trans ?_⟩
  rw [M,bW,jm,w,aM]
  refine bX _ ?_
  simp only [aV,cK,aT]
  exact J.append_right _
theorem Ng (h:SWO (mQ c)) (n:wL f c G) (l:List kq) (j:∀x∈l,G x) (p:l.length≤300000):oN l f=some (Bj (mQ c) l):=by
 unfold oN uO
 obtain ⟨u,d,v,i⟩:=PO h n l.length p l.length l [] kY 0 20 (aR _) (by rw [my]; omega) trivial (by simp) (by simp) j (by simp) rfl rfl
 simp only [oY,cK,dN,aW,aZ] at d i
 rw [d,aA,Nj h v i]
end
section
variable {c:kx→kx→Int} {G:kx→Prop} {f:kx×kx→Option Int}
abbrev wI (c:kx→kx→Int) (x y:kx):Bool:=decide (c x y < 0)
abbrev JG (f:kx×kx→Option Int) (c:kx→kx→Int) (G:kx→Prop):Prop:=∀x y,G x→G y→f (x,y)=some (c x y)
theorem Vm (O:JG f c G) (pre:List kx) (x:kx) (T:G x):∀(k:Nat) (P S:List kx) (n:Nat) (j a:Int),P.length=k→k < n→(∀y∈P,G y)→(pre++(P++x::S)).length≤1000000→j=((pre.length+P.length:Nat):Int)→a=(pre.length:Int)→
  ∃P1 P2,P=P1++P2∧nG a f n (pre++(P++x::S)) j=some (pre++(P1++x::(P2++S)))∧(∀P' z,P1=P'++[z]→wI c x z=false)∧(∀y P',P2=y::P'→wI c x y=true):=by
 intro k
 induction k with
 | zero=>
  intro P S n j a hk R i w u ha
  obtain rfl:=aJ hk
  obtain ⟨n,rfl⟩:=aF (by omega:n≠0)
  refine ⟨[],[],rfl,?_,by simp,by simp⟩
  rw [nG]
  have:¬(j > a):=by rw [u,ha]; simp
  simp [this]
 | succ k ih=>
  intro P S n j a hk R i w u ha
  rcases cV P with rfl | ⟨P',z,rfl⟩
  ·simp at hk
  simp only [dt,aC,aG,aZ] at hk u w i ⊢
  obtain ⟨n,rfl⟩:=aF (by omega:n≠0)
  have v:j > a:=by omega
  have A:pre++(P'++[z]++x::S)=(pre++P')++z::x::S:=by simp
  have hw:wi0 .i64 (j-1)=((pre.length+P'.length:Nat):Int):=by rw [mc (by omega) (by omega)]; omega
  have i1:lD ((pre++P')++z::x::S) j=some x:=by
   rw [show (pre++P')++z::x::S=(pre++P'++[z])++x::S by simp]
   exact mz _ _ _ _ (by simp; omega)
  have i2:lD ((pre++P')++z::x::S) ((pre.length+P'.length:Nat):Int)=some z:=mz _ _ _ _ (by simp)
  have W:G z:=i z (by simp)
  have M:∀y∈P',G y:=λy U=>i y (by simp [U])
  have Z:j.toNat=pre.length+P'.length+1:=by omega
  rw [nG,A]
  simp only [v,bB,aK,i1,hw,i2,aA,O x z T W]
  by_cases p:c x z < 0
  ·simp only [p,bB,aK]
   have s1:((pre++P')++z::x::S).set j.toNat z=(pre++P')++z::z::S:=by
    have:=El (pre++P'++[z]) S x z j.toNat (by simp; omega)
    simpa only [aM,dM,bM,aW] using this
   have s2:((pre++P')++z::z::S).set (pre.length+P'.length) x=(pre++P')++x::z::S:=by
    exact El (pre++P') (z::S) z x _ (by simp)
   have i3:lD ((pre++P')++z::z::S) ((pre.length+P'.length:Nat):Int)=some z:=mz _ _ _ _ (by simp)
   rw [s1,i3,aA,dq,s2]
   have E:(pre++P')++x::z::S=pre++(P'++x::(z::S)):=by simp
   obtain ⟨P1,P2,h1,I,J,L⟩:=ih P' (z::S) n ((pre.length+P'.length:Nat):Int) a (by omega) (by omega) M (by simp; omega) rfl ha
   rw [E,I]
   refine ⟨P1,P2++[z],by rw [h1]; simp,by simp,J,?_⟩
   intro y Q d
   cases P2 with
   | nil=>
    simp only [aW,aY] at d
    rw [←d.1]; simp [wI,p]
   | cons Y P2=>
    simp only [bM,aY] at d
    rw [←d.1]; exact L Y P2 rfl
  ·simp only [p,bN,aB,aI]
   refine ⟨P'++[z],[],by simp,by simp,?_,by simp⟩
   intro Q y d
   have:=jM d rfl
   simp only [aY,dL] at this
   rw [←this.2]; simp [wI,p]
theorem NV (h:SWO (wI c)) (R:JG f c G) (pre post:List kx) (a b:Int) (ha:a=(pre.length:Int)):∀(S t:List (kx×Nat)) (n:Nat) (i:Int),
  S.length < n→oy (wI c) t→(∀x∈t,∀y∈S,x.2 < y.2)→S.Pairwise (λx y=>x.2 < y.2)→(∀x∈t++S,G x.1)→(pre++(t.map (·.1)++(S.map (·.1)++post))).length≤1000000→
  i=((pre.length+t.length:Nat):Int)→b=((pre.length+t.length+S.length:Nat):Int)→
  ∃u,nh b a f n (pre++(t.map (·.1)++(S.map (·.1)++post))) i=some (pre++(u.map (·.1)++post))∧oy (wI c) u∧u.Perm (t++S)
 | [],t,n,i,O,P,h1,Q,J,M,T,hb=>by
  obtain ⟨n,rfl⟩:=aF (by simp at O; omega:n≠0)
  rw [nh]
  simp only [aZ] at hb
  have:¬(i < b):=by omega
  simp only [this,bN,aB,aI]
  exact ⟨t,by simp,P,by simp⟩
 | s::S,t,n,i,O,P,h1,Q,J,M,T,hb=>by
  simp only [aG] at O hb
  obtain ⟨n,rfl⟩:=aF (by omega:n≠0)
  rw [nh]
  have L:i < b:=by omega
  simp only [L,bB,aK]
  have w:=M
  simp only [aC,bT,aG] at w
  obtain ⟨P1,P2,Y,Z,e3,e4⟩:=Vm R pre s.1 (J s (by simp)) (t.map (·.1)).length (t.map (·.1)) (S.map (·.1)++post) kY i a rfl (by rw [my]; simp; omega)
   (λy E=>by obtain ⟨p,hp,rfl⟩:=aS.1 E; exact J p (by simp [hp])) (by simpa using M) (by simp; omega) ha
  simp only [aU,bM]
  rw [Z,aA]
  obtain ⟨t1,t2,rfl,U,W⟩:=iy.1 Y
  have hlen:t1.length+t2.length=(t1++t2).length:=by simp
  have hw:wi0 .i64 (i+1)=((pre.length+(t1++s::t2).length:Nat):Int):=by rw [mc (by omega) (by omega)]; simp at T ⊢; omega
  rw [hw]
  have A:oy (wI c) (t1++s::t2):=DA h P
   (λA' z b B' v I=>by
    simp only [aY] at I
    rw [←I.1]
    refine .inr ⟨e3 (A'.map (·.1)) z.1 (by rw [←U,v]; simp),h1 z (by rw [v]; simp) s (by simp)⟩)
   (λA' z b B' v I=>by
    have hz:z=s:=by
     cases A' with
     | nil=>simpa using v.symm
     | cons _ A'=>simp at v
    rw [hz]
    exact .inl (e4 b.1 (B'.map (·.1)) (by rw [←W,I]; simp)))
  have j:=bY.1 Q
  have e5:pre++(P1++s.1::(P2++(S.map (·.1)++post)))=pre++((t1++s::t2).map (·.1)++(S.map (·.1)++post)):=by rw [←U,←W]; simp
  rw [e5]
  obtain ⟨u,u1,u2,u3⟩:=NV h R pre post a b ha S (t1++s::t2) n _ (by omega) A
   (λx d y E=>by
    rcases aO.1 d with d | d
    ·exact h1 x (by simp [d]) y (by simp [E])
    ·rcases aP.1 d with rfl | d
     ·exact j.1 y E
     ·exact h1 x (by simp [d]) y (by simp [E]))
   j.2 (λx d=>J x (by
    simp only [aO,aP] at d ⊢
    rcases d with (d | d | d) | d
    ·exact .inl (.inl d)
    ·exact .inr (.inl d)
    ·exact .inl (.inr d)
    ·exact .inr (.inr d))) (by simp at w ⊢; omega) rfl (by simp at hb ⊢; omega)
  refine ⟨u,u1,u2,u3.trans ?_⟩
  simp only [aM,bM]
  exact bX t1 (List.perm_middle.symm)
theorem QQ (h:SWO (wI c)) (z:JG f c G) (pre post:List kx) (S:List (kx×Nat)) (a b:Int) (v:S.Pairwise (λx y=>x.2 < y.2)) (w:∀x∈S,G x.1) (p:(pre++(S.map (·.1)++post)).length≤1000000) (ha:a=(pre.length:Int)) (hb:b=((pre.length+S.length:Nat):Int)) :
  ∃u,pq (pre++(S.map (·.1)++post)) a b f=some (pre++(u.map (·.1)++post))∧oy (wI c) u∧u.Perm S:=by
 unfold pq
 have i:=p
 simp only [aC,bT] at i
 cases S with
 | nil=>
  refine ⟨[],?_,.nil,.nil⟩
  obtain ⟨n,A⟩:=aF (by rw [my]; omega:kY≠0)
  rw [A,nh]
  have:¬(wi0 .i64 (a+1) < b):=by rw [mc (by omega) (by omega)]; simp at hb; omega
  simp [this]
 | cons s S=>
  simp only [aG] at hb i
  have d:=bY.1 v
  obtain ⟨u,I,J,L⟩:=NV h z pre post a b ha S [s] kY (wi0 .i64 (a+1)) (by rw [my]; omega) (eX _ _) (λx j y E=>by simp at j; rw [j]; exact d.1 y E) d.2
   (λx j=>w x (by simpa using j)) (by simp at p ⊢; omega) (by rw [mc (by omega) (by omega)]; simp; omega) (by simp; omega)
  exact ⟨u,by simpa using I,J,by simpa using L⟩
end
section
variable {c:kx→kx→Int} {G:kx→Prop} {f:kx×kx→Option Int}
theorem PC {α:Type}:∀(l:List α) (o:Nat),(l.zipIdx o).Pairwise (λx y=>x.2 < y.2)
 | [],o=>by simp
 | x::l,o=>by
  rw [gv,bY]
  refine ⟨λy d=>?_,PC l (o+1)⟩
  obtain ⟨a,b⟩:=y
  have:=eK d
  simp only at this ⊢; omega
theorem SY (h:SWO (wI c)) (n:JG f c G) (l:List kx) (j:∀x∈l,G x) (z:l.length≤19):oO l f=some (Bj (wI c) l):=by
 obtain ⟨k,hk⟩:∃k,kY=k+1:=⟨_,my⟩
 obtain ⟨u,d,v,w⟩:=QQ h n [] [] (l.zipIdx 0) 0 (l.length:Int) (PC _ _) (λx p=>j x.1 (gq p)) (by simp; omega) rfl (by simp)
 rw [aW,aW,fK,aT,aT] at d
 have i:ph (l.length:Int) f (k+1) (u.map (·.1)) 20=some (u.map (·.1)):=by
  rw [ph]
  have:¬((20:Int) < (l.length:Int)):=by omega
  simp only [this,bN,aB,aI]
 unfold oO uV
 rw [pI,hk,qc]
 have hle:¬((20:Int)≤(l.length:Int)):=by omega
 simp only [hle,bN,aB,aI,pI]
 rw [d,aA,hk,i,Nj h v w]
end
section
variable {α κ:Type} {key:α→κ} {lk:κ→κ→Bool} {P:κ→Prop}
theorem Lq (w:SWO (λx y:α=>lk (key x) (key y))) (H:DH (λa b=>lk a b=true) P) {l:List α} (j:∀x∈l,P (key x)) (z:(l.map key).Nodup) {S:List κ} (A:S.Pairwise (λa b=>lk a b=true)) (hm:∀k,k∈S↔k∈l.map key) (mk:κ→α) (hk:∀x∈l,mk (key x)=x) :
  Bj (λx y:α=>lk (key x) (key y)) l=S.map mk:=by
 have hp:=FZ (λx y:α=>lk (key x) (key y)) l
 have hu:=VI w l
 have n:((Bj (λx y:α=>lk (key x) (key y)) l).map key).Nodup:=((hp.map key).nodup_iff).2 z
 have u:(Bj (λx y:α=>lk (key x) (key y)) l).map key=S:=by
  refine wz.unique (l:=S) H ⟨?_,λk=>?_⟩ ⟨A,λk=>?_⟩
  ·unfold Ki at hu
   rw [eV]
   have p:=eV.1 n
   refine (hu.and p).imp_of_mem λ{a b} ha hb d=>?_
   rcases H.total (key a) (key b) (j a (hp.mem_iff.1 ha)) (j b (hp.mem_iff.1 hb)) with q | q | q
   ·exact q
   ·exact absurd q d.2
   ·exact absurd q (by simpa using d.1)
  ·rw [hm,(hp.map key).mem_iff]
   constructor
   ·intro h
    obtain ⟨x,i,rfl⟩:=aS.1 h
    exact ⟨h,j x i⟩
   ·exact λh=>h.1
  ·refine ⟨λh=>⟨h,?_⟩,λh=>h.1⟩
   obtain ⟨x,i,rfl⟩:=aS.1 ((hm k).1 h)
   exact j x i
 rw [←u,ef]
 refine Eq.symm ?_
 have v:=iU (f:=mk∘key) (g:=id) (l:=Bj (λx y:α=>lk (key x) (key y)) l) (λx i=>hk x (hp.mem_iff.1 i))
 rw [v,jE]
section
variable {X K:Type} (key:X→K) (bq:K→K→Bool) (same:X→X→Bool)
def wD (l:List X) (k:K):Option X:=l.find? λx=>bq (key x) k
def tD:List X→K→Nat→Int
 | [],_,_=>-1
 | x::l,k,i=>if bq (key x) k then (i:Int) else tD l k (i+1)
theorem sV (k:K):∀(l:List X) (i:Nat),(wD key bq l k=none∧tD key bq l k i=-1)∨∃A x B,l=A++x::B∧wD key bq l k=some x∧bq (key x) k=true∧tD key bq l k i=((i+A.length:Nat):Int)
 | [],i=>.inl ⟨rfl,rfl⟩
 | x::l,i=>by
  unfold wD tD
  cases hb:bq (key x) k with
  | true=>exact .inr ⟨[],x,l,rfl,by rw [eZ,hb],hb,by simp⟩
  | false=>
   rcases sV k l (i+1) with ⟨h1,d⟩ | ⟨A,y,B,rfl,h1,d,j⟩
   ·exact .inl ⟨by rw [eZ,hb]; exact h1,by simpa using d⟩
   ·exact .inr ⟨x::A,y,B,rfl,by rw [eZ,hb]; exact h1,d,by simp only [aB,aI]; rw [j]; simp; omega⟩
theorem yZ {hb:∀x y,bq x y=true↔x=y} {l:List X} {k:K}:wD key bq l k=none↔k∉l.map key:=by
 unfold wD
 rw [fX]
 constructor
 ·intro h hk
  obtain ⟨x,d,rfl⟩:=aS.1 hk
  exact h x d ((hb _ _).2 rfl)
 ·intro h x d i
  exact h (aS.2 ⟨x,d,(hb _ _).1 i⟩)
def Gf:ByteArray:=⟨#[43]⟩
def zg:ByteArray:=⟨#[45]⟩
def Gl:ByteArray:=⟨#[42]⟩
def yJ (a b:List X) (k:K):ByteArray :=
 match wD key bq a k,wD key bq b k with
 | none,_=>Gf
 | some _,none=>zg
 | some x,some y=>if same x y then zS else Gl
def zX (a b:List X):List K:=(a.map key).filter (λk=>!lz (yJ key bq same a b k) zS)++(b.map key).filter λk=>(wD key bq a k).isNone
end
end
theorem Tt:∀(k u:Nat),u < 10 ^ (k+1)→(Go.Lib.decDigits u).length≤k+1
 | 0,u,h=>by rw [Go.Lib.decDigits,dif_pos (by simpa using h)]; simp
 | k+1,u,h=>by
  rw [Nat.pow_succ] at h
  by_cases h1:u < 10
  ·rw [Go.Lib.decDigits,dif_pos h1]; simp
  ·have:=Tt k (u / 10) (by omega)
   rw [Go.Lib.decDigits,dif_neg h1]; simp; omega
def vu (n:Int):Prop:=-9223372036854775808≤n∧n≤9223372036854775807
theorem xB {n:Int} (h:vu n):ur n=some (nk n):=bD h
theorem qH {n:Int} (h:vu n):(nk n).size≤20:=by
 obtain ⟨d,h1⟩:=h
 show (Go.Lib.itoa n).toArray.size≤20
 unfold Go.Lib.itoa
 split
 ·have:=Tt 18 n.natAbs (by omega)
  simp; omega
 ·have:=Tt 18 n.toNat (by omega)
  simp; omega
theorem Ig:zS.size=0:=rfl
def pf:ByteArray:=⟨#[32]⟩
def rf:ByteArray:=⟨#[10]⟩
theorem mA {a b:ByteArray} (h:a.size+b.size≤1000000000):mf a b=some (a++b):=by
 unfold mf
 rw [bG]
 have:IntKind.i64.max=9223372036854775807:=rfl
 rw [this]; omega
def zH:ByteArray:=⟨#[46]⟩
def rT (r:ku):ByteArray:=r.kw++zH++r.Word
theorem IU:zH.size=1:=rfl
theorem Yz (r:ku):(rT r).size=r.kw.size+1+r.Word.size:=by
 unfold rT; rw [aD,aD]; rfl
theorem aal (r:ku) (h:r.kw.size+r.Word.size≤100000000):sZ r=some (rT r)∧wU r=some (rT r):=by
 have e:(⟨#[46]⟩:ByteArray)=zH:=rfl
 have d:=IU
 unfold sZ wU
 rw [e,mA (by omega),aA,mA (by rw [aD]; omega)]
 exact ⟨rfl,rfl⟩
theorem Kh {r:ku} (h:mw r=true):r.kw.size≤16∧r.Word.size≤16∧1≤r.kw.size∧1≤r.Word.size:=by
 unfold mw at h
 rw [bn] at h
 have a:=oT h.1
 have b:=oT h.2
 omega
theorem yh {r:ku} (h:mw r=true):sZ r=some (rT r)∧wU r=some (rT r)∧(rT r).size≤33:=by
 have a:=Kh h
 have b:=aal r (by omega)
 exact ⟨b.1,b.2,by rw [Yz]; omega⟩
def KC:ByteArray:=⟨#[32,60,45,32]⟩
def Eu:ByteArray:=⟨#[32,38,32]⟩
def cT (c:kv):ByteArray:=rT c.Head++KC++(if c.Kind=1 then c.lO else if c.Kind=2 then rT c.B else if c.Kind=3 then rT c.B++zH++c.mg else rT c.B++Eu++rT c.C)
theorem HZ {c:kv} (h:mM c=true):DY c=some (cT c)∧Fq c=some (cT c)∧(cT c).size≤200:=by
 obtain ⟨h1,L,O⟩:=yh (Bs h)
 have d:=IU
 have G:(⟨#[46]⟩:ByteArray)=zH:=rfl
 have I:(⟨#[32,60,45,32]⟩:ByteArray)=KC:=rfl
 have J:(⟨#[32,38,32]⟩:ByteArray)=Eu:=rfl
 have s2:KC.size=4:=rfl
 have P:Eu.size=3:=rfl
 unfold DY Fq GS
 rw [xT,h,h1,L,G,I,J]
 simp only [aA,cI,aB,aI]
 rw [mA (by omega)]
 simp only [aA]
 unfold cT
 rcases qh h with ⟨k,j,q⟩ | ⟨k,j,q⟩ | ⟨k,j,z,q⟩ | ⟨k,j,z,q⟩
 ·have w:=oT j
  have i:(c.Kind==1)=true:=by rw [k]; rfl
  simp only [i,aK,aA]
  rw [mA (by rw [aD]; omega)]
  have e:(if c.Kind=1 then c.lO else if c.Kind=2 then rT c.B else if c.Kind=3 then rT c.B++zH++c.mg else rT c.B++Eu++rT c.C)=c.lO:=by rw [k]; rfl
  rw [e]
  exact ⟨rfl,rfl,by simp only [aD]; omega⟩
 ·obtain ⟨v,x,A⟩:=yh j
  have i:(c.Kind==1)=false:=by rw [k]; rfl
  have n:(c.Kind==2)=true:=by rw [k]; rfl
  have p:(c.Kind==3)=false:=by rw [k]; rfl
  have u:(c.Kind==4)=false:=by rw [k]; rfl
  simp only [i,n,p,u,v,x,aK,aB,aI,aA]
  rw [mA (by rw [aD]; omega)]
  have e:(if c.Kind=1 then c.lO else if c.Kind=2 then rT c.B else if c.Kind=3 then rT c.B++zH++c.mg else rT c.B++Eu++rT c.C)=rT c.B:=by rw [k]; rfl
  rw [e]
  exact ⟨rfl,rfl,by simp only [aD]; omega⟩
 ·obtain ⟨v,x,A⟩:=yh j
  have E:=oT z
  have i:(c.Kind==1)=false:=by rw [k]; rfl
  have n:(c.Kind==2)=false:=by rw [k]; rfl
  have p:(c.Kind==3)=true:=by rw [k]; rfl
  have u:(c.Kind==4)=false:=by rw [k]; rfl
  simp only [i,n,p,u,v,x,aK,aB,aI,aA]
  rw [mA (a:=rT c.B) (b:=zH) (by omega),mA (a:=zH) (b:=c.mg) (by omega),mA (a:=rT c.Head++KC) (b:=rT c.B) (by rw [aD]; omega)]
  simp only [aA]
  rw [mA (by rw [aD]; omega),mA (by simp only [aD]; omega)]
  simp only [aA]
  rw [mA (by simp only [aD]; omega)]
  have e:(if c.Kind=1 then c.lO else if c.Kind=2 then rT c.B else if c.Kind=3 then rT c.B++zH++c.mg else rT c.B++Eu++rT c.C)=rT c.B++zH++c.mg:=by rw [k]; rfl
  rw [e]
  refine ⟨rfl,?_,by simp only [aD]; omega⟩
  simp only [aA,dR]
 ·obtain ⟨v,x,A⟩:=yh j
  obtain ⟨E,M,Q⟩:=yh z
  have i:(c.Kind==1)=false:=by rw [k]; rfl
  have n:(c.Kind==2)=false:=by rw [k]; rfl
  have p:(c.Kind==3)=false:=by rw [k]; rfl
  have u:(c.Kind==4)=true:=by rw [k]; rfl
  simp only [i,n,p,u,v,x,E,M,aK,aB,aI,aA]
  rw [mA (a:=rT c.B) (b:=Eu) (by omega),mA (a:=Eu) (b:=rT c.C) (by omega),mA (a:=rT c.Head++KC) (b:=rT c.B) (by rw [aD]; omega)]
  simp only [aA]
  rw [mA (by rw [aD]; omega),mA (by simp only [aD]; omega)]
  simp only [aA]
  rw [mA (by simp only [aD]; omega)]
  have e:(if c.Kind=1 then c.lO else if c.Kind=2 then rT c.B else if c.Kind=3 then rT c.B++zH++c.mg else rT c.B++Eu++rT c.C)=rT c.B++Eu++rT c.C:=by rw [k]; rfl
  rw [e]
  refine ⟨rfl,?_,by simp only [aD]; omega⟩
  simp only [aA,dR]
theorem Th {k:Int} (d:0≤k) (h1:k < 10):nk k=uF [IntKind.u8.wrap (wi0 .i64 (48+k))]:=by
 obtain ⟨n,rfl⟩:=Int.eq_ofNat_of_zero_le d
 have i:n < 10:=by omega
 unfold nk Go.Lib.itoa
 rw [bG (by omega),Go.Lib.decDigits,dif_pos (by simpa using i)]
 rcases (by omega:n=0∨n=1∨n=2∨n=3∨n=4∨n=5∨n=6∨n=7∨n=8∨n=9) with rfl | rfl | rfl | rfl | rfl | rfl | rfl | rfl | rfl | rfl <;> rfl
def Hz:ByteArray:=⟨#[44,32]⟩
def HG:ByteArray:=⟨#[40]⟩
def Dt:ByteArray:=⟨#[41]⟩
def H6:List ByteArray→ByteArray
 | []=>zS
 | s::l=>Hz++s++H6 l
theorem AG (a b:ByteArray):(a++b).data.toList=a.data.toList++b.data.toList:=by simp
theorem LZ (s:ByteArray):zS++s=s:=yr (by rw [AG]; rfl)
theorem yL (s:ByteArray):s++zS=s:=yr (by rw [AG]; exact aT _)
theorem Pf:∀{ks:List Formula},wellL ks=true→∀k∈ks,uH k=true
 | [],_,k,hk=>by cases hk
 | x::ks,h,k,hk=>by
  rw [wellL,bn] at h
  rcases aP.1 hk with rfl | hk
  ·exact h.1
  ·exact Pf h.2 k hk
theorem OW:∀l:List ByteArray,(H6 l).data.toList=Go.Lib.joinTail Hz.data.toList (l.map (·.data.toList))
 | []=>rfl
 | s::l=>by
  rw [H6,AG,AG,OW l]
  simp [Go.Lib.joinTail]
theorem YC (s:ByteArray) (l:List ByteArray):Li (s::l) Hz=s++H6 l:=by
 apply yr
 unfold Li
 rw [AG,OW,aU,Go.Lib.join_cons]
def Gg:List ByteArray→ByteArray
 | []=>zS
 | s::l=>s++H6 l
theorem XN (l:List ByteArray):Li l Hz=Gg l:=by cases l with | nil=>rfl | cons s l=>exact YC s l
theorem Qm (x:ByteArray) (rec:Formula→Option ByteArray) (t:Formula→ByteArray) (w:x.size≤100):∀(ks:List Formula) (acc:List ByteArray),(∀k∈ks,rec k=some (t k))→(acc++ks.map t).length≤100→(Gg (acc++ks.map t)).size≤1000000→
  uy rec x ks acc=some (x++HG++Gg (acc++ks.map t)++Dt)
 | [],acc,_,d,i=>by
  have j:(⟨#[40]⟩:ByteArray)=HG:=rfl
  have n:(⟨#[44,32]⟩:ByteArray)=Hz:=rfl
  have p:(⟨#[41]⟩:ByteArray)=Dt:=rfl
  have s1:HG.size=1:=rfl
  have E:Dt.size=1:=rfl
  simp only [dN,aT] at d i ⊢
  rw [uy,j,n,p,mA (by omega),aA]
  have u:Jo acc Hz=some (Gg acc):=by
   unfold Jo; rw [XN,bD (by omega)]
  rw [u,aA,mA (by rw [aD]; omega),aA,mA (by simp only [aD]; omega)]
  rfl
 | k::ks,acc,hk,d,i=>by
  have e:acc++(k::ks).map t=(acc++[t k])++ks.map t:=by simp
  rw [e] at d i ⊢
  have v:acc.length+1≤100:=by simp at d; omega
  rw [uy,hk k (by simp),aA,ns (by simp; omega) (by simp; omega),aA,Qm x rec t w ks _ (λz A=>hk z (by simp [A])) d i]
theorem P5 (rec:Formula→Option ByteArray) (t:Formula→ByteArray):∀(ks:List Formula) (i:Nat) (x:ByteArray),(∀k∈ks,rec k=some (t k))→x.size+(H6 (ks.map t)).size≤1000000→
  rI rec ks (i+1) x=some (x++H6 (ks.map t)++Dt)
 | [],i,x,_,d=>by
  have n:(⟨#[41]⟩:ByteArray)=Dt:=rfl
  have u:Dt.size=1:=rfl
  rw [rI,n,mA (by omega)]
  rw [dN,H6,yL]; rfl
 | k::ks,i,x,hk,d=>by
  have j:(⟨#[44,32]⟩:ByteArray)=Hz:=rfl
  have s2:Hz.size=2:=rfl
  rw [aU,H6] at d ⊢
  simp only [aD] at d
  have h1:(((i+1:Nat):Int) > 0):=by omega
  rw [rI,j]
  simp only [h1,bB,aK]
  rw [mA (by omega)]
  simp only [aA]
  rw [hk k (by simp),aA,mA (by rw [aD]; omega),aA,P5 rec t ks (i+1) _ (λz p=>hk z (by simp [p])) (by simp only [aD]; omega)]
  simp only [dR]
theorem We (rec:Formula→Option ByteArray) (t:Formula→ByteArray) (ks:List Formula) (x:ByteArray) (hk:∀k∈ks,rec k=some (t k)) (d:x.size+(Gg (ks.map t)).size≤1000000) :
  rI rec ks 0 x=some (x++Gg (ks.map t)++Dt):=by
 cases ks with
 | nil=>
  have i:(⟨#[41]⟩:ByteArray)=Dt:=rfl
  have n:Dt.size=1:=rfl
  rw [rI,i,mA (by omega)]
  rw [dN,Gg,yL]; rfl
 | cons k ks=>
  rw [aU,Gg] at d ⊢
  simp only [aD] at d
  have h1:¬(((0:Nat):Int) > 0):=by omega
  rw [rI]
  simp only [h1,bN,aB,aI,aA]
  rw [hk k (by simp),aA,mA (by omega),aA,P5 rec t ks 0 _ (λz j=>hk z (by simp [j])) (by simp only [aD]; omega)]
  simp only [dR]
theorem O0 (t:Formula→ByteArray):∀ks:List Formula,(∀k∈ks,(t k).size≤60*lQ k)→(H6 (ks.map t)).size≤60*nodesL ks+2*ks.length∧(Gg (ks.map t)).size≤60*nodesL ks+2*ks.length
 | [],_=>⟨by simp [H6,Ig],by simp [Gg,Ig]⟩
 | k::ks,h=>by
  obtain ⟨a,b⟩:=O0 t ks (λx d=>h x (by simp [d]))
  have:=h k (by simp)
  have e:Hz.size=2:=rfl
  rw [aU,H6,Gg,nodesL,aG]
  simp only [aD]
  omega
theorem T9:∀(n:Nat) (f:Formula),pW f≤n→uH f=true→lQ f≤64→∃s,qG n f=some s∧vt n f=some s∧s.size≤60*lQ f:=by
 intro n
 induction n with
 | zero=>intro f h; rw [od] at h; omega
 | succ n ih=>
  intro f M hw hn
  rw [od] at M
  have P:=qj f
  obtain ⟨h1,J,L⟩:=zr hw
  have hk:∀k∈f.Kids,pW k≤n∧uH k=true∧lQ k≤64:=λk hk=>by
   have:=tF hk
   refine ⟨by omega,?_,?_⟩
   ·exact Pf J k hk
   ·have:=vx hk; omega
  let t:Formula→ByteArray:=λk=>(qG n k).getD zS
  have u:∀k∈f.Kids,qG n k=some (t k)∧vt n k=some (t k)∧(t k).size≤60*lQ k:=λk p=>by
   obtain ⟨a,b,c⟩:=hk k p
   obtain ⟨s,j,G,I⟩:=ih k a b c
   have:t k=s:=by show (qG n k).getD zS=s; rw [j]; rfl
   rw [this]; exact ⟨j,G,I⟩
  have Q:=O0 t f.Kids (λk hk=>(u k hk).2.2)
  rw [qG,vt]
  unfold Bg EH
  have j:(⟨#[40]⟩:ByteArray)=HG:=rfl
  have s1:HG.size=1:=rfl
  have s3:Dt.size=1:=rfl
  have fin:∀x:ByteArray,x.size≤10→uy (qG n) x f.Kids []=some (x++HG++Gg (f.Kids.map t)++Dt)∧rI (vt n) f.Kids 0 (x++HG)=some (x++HG++Gg (f.Kids.map t)++Dt)∧(x++HG++Gg (f.Kids.map t)++Dt).size≤60*lQ f:=λx hx=>by
   refine ⟨?_,?_,?_⟩
   ·have:=Qm x (qG n) t (by omega) f.Kids [] (λk hk=>(u k hk).1) (by simp; omega) (by simp only [aW]; omega)
    rw [this]; rfl
   ·exact We (vt n) t f.Kids _ (λk hk=>(u k hk).2.1) (by rw [aD]; omega)
   ·simp only [aD]; omega
  rcases L with ⟨k,A,R,_⟩ | ⟨k,_⟩ | ⟨k,_,T,i,_⟩
  ·obtain ⟨a,b,c⟩:=yh A
   have a2:=(yh A).2.1
   unfold wU at a2
   have i:(f.Op==1)=true:=by rw [k]; rfl
   simp only [i,aK]
   rw [a,a2]
   exact ⟨_,rfl,rfl,by omega⟩
  ·have i:(f.Op==1)=false:=by rcases k with k | k <;> rw [k] <;> rfl
   have E:(f.Op==4)=false:=by rcases k with k | k <;> rw [k] <;> rfl
   rcases k with k | k
   ·have v:(f.Op==2)=true:=by rw [k]; rfl
    have w:(f.Op==3)=false:=by rw [k]; rfl
    simp only [i,v,w,E,aK,aB,aI,aA]
    obtain ⟨a,b,c⟩:=fin ⟨#[97,108,108]⟩ (by decide)
    exact ⟨_,a,b,c⟩
   ·have v:(f.Op==2)=false:=by rw [k]; rfl
    have w:(f.Op==3)=true:=by rw [k]; rfl
    simp only [i,v,w,E,aK,aB,aI,aA]
    obtain ⟨a,b,c⟩:=fin ⟨#[115,111,109,101]⟩ (by decide)
    exact ⟨_,a,b,c⟩
  ·have U:(f.Op==1)=false:=by rw [k]; rfl
   have W:(f.Op==2)=false:=by rw [k]; rfl
   have Y:(f.Op==3)=false:=by rw [k]; rfl
   have Z:(f.Op==4)=true:=by rw [k]; rfl
   have d:=Th T (by omega)
   have O:ur f.K=some (nk f.K):=xB (by unfold vu; omega)
   have R:=qH (n:=f.K) (by unfold vu; omega)
   have z:(nk f.K).size=1:=by rw [d,Rh,Le]; rfl
   simp only [U,W,Y,Z,aK,aB,aI]
   rw [O,←d,j]
   simp only [aA]
   have s4:(⟨#[97,116,32]⟩:ByteArray).size=3:=rfl
   rw [mA (by omega)]
   simp only [aA]
   rw [mA (by rw [aD]; omega)]
   simp only [aA]
   obtain ⟨a,b,c⟩:=fin ((⟨#[97,116,32]⟩:ByteArray)++nk f.K) (by rw [aD]; omega)
   exact ⟨_,a,b,c⟩
def Aw:List ByteArray→ByteArray
 | []=>zS
 | s::l=>s++Aw l
theorem OP:∀l:List ByteArray,(∀s∈l,s.size≤300)→(Aw l).size≤300*l.length
 | [],_=>by simp [Aw,Ig]
 | s::l,h=>by
  have:=OP l (λx d=>h x (by simp [d]))
  have:=h s (by simp)
  rw [Aw,aD,aG]; omega
theorem M8:SWO (λa b:kv=>Be a b) where
 NB x:=xO _
 tr x y z h1 d:=yU _ _ _ h1 d
 Ls x y z h:=by
  have h:Op.bytesLess (Ft x) (Ft z)=true:=h
  rcases Dx (Ft x) (Ft y) with q | q | q
  ·exact .inl q
  ·exact .inr (by show Op.bytesLess (Ft y) (Ft z)=true; rw [←q]; exact h)
  ·exact .inr (yU _ _ _ q h)
theorem Nd:SWO (λa b:ku=>wY a b) where
 NB x:=by
  have:=(CK λ_=>True).irrefl x trivial
  simpa using this
 tr x y z h1 d:=(CK λ_=>True).trans _ _ _ trivial trivial trivial h1 d
 Ls x y z h:=by
  rcases (CK λ_=>True).total x y trivial trivial with q | q | q
  ·exact .inl q
  ·exact .inr (q▸h)
  ·exact .inr ((CK λ_=>True).trans _ _ _ trivial trivial trivial q h)
theorem D8 {α β:Type} {f:α→β}:∀{l:List α},(l.map f).Nodup→∀{x y:α},x∈l→y∈l→f x=f y→x=y
 | [],_,x,_,n,_,_=>by cases n
 | z::l,h,x,y,n,u,e=>by
  rw [aU,dO] at h
  rcases aP.1 n with p | i
  ·rcases aP.1 u with j | d
   ·rw [p,j]
   ·exact absurd (aS.2 ⟨y,d,by rw [←e,p]⟩) h.1
  ·rcases aP.1 u with j | d
   ·exact absurd (aS.2 ⟨x,i,by rw [e,j]⟩) h.1
   ·exact D8 h.2 i d e
abbrev lF (x:kU):kv:=x.Signed.kv
noncomputable abbrev tz (x y:kU):Bool:=lz (uF x.Signed.Tag) (uF y.Signed.Tag)&&rD x.ky y.ky
abbrev Bi (k:kv):ByteArray:=cT k
noncomputable abbrev wC (a b:List kU) (k:kv):ByteArray:=yJ lF ll tz a b k
noncomputable def By (a b:List kU) (k:kv):kq:=⟨k,Bi k,wC a b k⟩
theorem RU (x:kU) (h:mM (lF x)=true):pY x=some (Bi (lF x))∧(Bi (lF x)).size≤200:=by
 obtain ⟨a,_,c⟩:=HZ h
 unfold pY
 rw [a]; exact ⟨rfl,c⟩
theorem Wj (x y:kU) (h:Gd x.ky):qC x y=some (tz x y):=by
 unfold qC zn
 rw [aA,Ju _ _ h]
 unfold tz
 cases lz (uF x.Signed.Tag) (uF y.Signed.Tag) <;> rfl
theorem RE (k:kv) (f:kU→Option Bool) (d:∀x,f x=some (ll (lF x) k)):∀(l:List kU) (i:Nat),nM f l i=some (tD lF ll l k i)
 | [],i=>by rw [nM]; rfl
 | x::l,i=>by
  rw [nM,d,aA,tD,RE k f d l (i+1)]
  cases ll (lF x) k <;> rfl
theorem Zd (l:List kU) (k:kv):se l k (λx=>pe x)=some (tD lF ll l k 0):=by
 unfold se py
 rw [RE k (λx=>sU x (λx=>pe x) k) (λx=>rfl)]
 rfl
theorem Qd (a b:List kU):∀(l:List kU) (acc:List kq),(∀x∈l,mM (lF x)=true)→acc.length+l.length≤1000000→
  pT (λx=>pe x) a (λx=>pY x) l acc=some (acc++((l.map lF).filter λk=>(wD lF ll a k).isNone).map (By a b))
 | [],acc,_,_=>by rw [pT]; simp
 | x::l,acc,j,v=>by
  rw [aG] at v
  have p:pe x=some (lF x):=rfl
  rw [pT,p,aA,Zd,aA,aA,(RU x (j x (by simp))).1,aA,aU,cZ]
  rcases sV lF ll (lF x) a 0 with ⟨h1,i⟩ | ⟨A,y,B,w,h1,_,i⟩
  ·rw [i,h1]
   have u:By a b (lF x)=⟨lF x,Bi (lF x),Gf⟩:=by unfold By wC yJ; rw [h1]
   have d:(⟨#[43]⟩:ByteArray)=Gf:=rfl
   simp only [show ((-1:Int) < 0) from by omega,bB,aK,gU,aU]
   rw [d,←u,ns (by simp; omega) (by simp; omega),aA,Qd a b l _ (λz n=>j z (by simp [n])) (by simp; omega)]
   simp
  ·rw [i,h1]
   have d:¬(((0+A.length:Nat):Int) < 0):=by omega
   simp only [d,bN,aB,aI,js]
   exact Qd a b l acc (λz n=>j z (by simp [n])) (by omega)
theorem UO (a b:List kU) (hb:∀x∈b,mM (lF x)=true):∀(l:List kU) (acc:List kq),(∀x∈l,mM (lF x)=true∧wD lF ll a (lF x)=some x∧Gd x.ky)→acc.length+l.length+b.length≤1000000→
  oJ (λx=>pe x) b (λx=>pY x) (λx=>qC x.1 x.2) a l acc=some (acc++((l.map lF).filter λk=>!lz (wC a b k) zS).map (By a b)++((b.map lF).filter λk=>(wD lF ll a k).isNone).map (By a b))
 | [],acc,_,v=>by
  rw [oJ,Qd a b b acc hb (by simp at v; omega)]
  simp
 | x::l,acc,w,v=>by
  rw [aG] at v
  obtain ⟨O,hk,M⟩:=w x (by simp)
  have E:pe x=some (lF x):=rfl
  have ih:=λacc=>UO a b hb l acc (λz P=>w z (by simp [P]))
  rw [oJ,E,aA,Zd,aA,(RU x O).1]
  simp only [aA]
  rw [aU,cZ]
  have step:∀s:ByteArray,wC a b (lF x)=s→((nm 168 acc ([(⟨lF x,Bi (lF x),s⟩:kq)])).bind λi=>oJ (λx=>pe x) b (λx=>pY x) (λx=>qC x.1 x.2) a l i)=some (acc++(By a b (lF x)::((l.map lF).filter λk=>!lz (wC a b k) zS).map (By a b))++((b.map lF).filter λk=>(wD lF ll a k).isNone).map (By a b)):=λs j=>by
   rw [ns (by simp; omega) (by simp; omega),aA,ih _ (by simp; omega)]
   have:(⟨lF x,Bi (lF x),s⟩:kq)=By a b (lF x):=by unfold By; rw [j]
   rw [this]; simp
  rcases sV lF ll (lF x) b 0 with ⟨h1,u⟩ | ⟨A,y,B,L,h1,_,u⟩
  ·rw [u]
   have d:wC a b (lF x)=zg:=by unfold wC yJ; rw [hk,h1]
   have n:(⟨#[45]⟩:ByteArray)=zg:=rfl
   have p:(!lz zg zS)=true:=by decide +kernel
   simp only [show ((-1:Int) < 0) from by omega,bB,aK]
   rw [d,p,bD rfl,n,step _ d,aU]
  ·rw [u]
   have d:wC a b (lF x)=if tz x y then zS else Gl:=by unfold wC yJ; rw [hk,h1]
   have n:¬(((0+A.length:Nat):Int) < 0):=by omega
   have p:(⟨#[42]⟩:ByteArray)=Gl:=rfl
   have G:(!lz Gl zS)=true:=by decide +kernel
   have I:(!lz zS zS)=false:=by decide +kernel
   have J:lD b ((0+A.length:Nat):Int)=some y:=by rw [L]; exact mz A y B _ (by omega)
   simp only [n,bN,aB,aI]
   rw [J,aA]
   rw [Wj x y M,aA]
   cases j:tz x y
   ·rw [j] at d
    simp only [aB,aI] at d
    rw [d,G,bD rfl,cR,bD rfl,p,step _ d,aU]
   ·rw [j] at d
    simp only [aK] at d
    rw [d,I]
    simp only [cI,aB,aI]
    exact ih acc (by omega)
theorem UY (a b:List kU) (d:List kq):∀(l:List kv) (acc:ByteArray),(∀k∈l,(Bi k).size≤200)→acc.size+300*l.length≤1000000000→
  ru d (l.map (By a b)) acc=some (acc++Aw (l.map λk=>wC a b k++pf++Bi k++rf),d)
 | [],acc,_,_=>by rw [dN,ru,dN,Aw,yL]; rfl
 | k::l,acc,hk,u=>by
  rw [aG] at u
  have w:=hk k (by simp)
  have h1:(wC a b k).size≤1:=by
   unfold wC yJ
   split
   ·exact aR _
   ·exact aR _
   ·split
    ·exact dT _
    ·exact aR _
  have i:(⟨#[32]⟩:ByteArray)=pf:=rfl
  have j:(⟨#[10]⟩:ByteArray)=rf:=rfl
  have s1:pf.size=1:=rfl
  have s2:rf.size=1:=rfl
  have n:(By a b k).sign=wC a b k:=rfl
  have p:(By a b k).text=Bi k:=rfl
  rw [aU,ru,i,j,n,p,mA (by omega),aA,mA (by rw [aD]; omega),aA,mA (by simp only [aD]; omega),aA]
  have hb:FX acc (wC a b k++pf++Bi k++rf)=some (acc++(wC a b k++pf++Bi k++rf)):=by
   unfold FX; rw [bD (by simp only [aD]; omega)]
  rw [hb,aA,UY a b d l _ (λz v=>hk z (by simp [v])) (by simp only [aD]; omega),aU,Aw]
  simp only [dR]
noncomputable def Ap (a b:List kU) (S:List kv):ByteArray:=Aw ((S.filter λk=>!lz (wC a b k) zS).map λk=>wC a b k++pf++Bi k++rf)
theorem TL (a b:List kU) (S:List kv) (ha:rJ (a.map lF) (a.map lF)) (hb:rJ (b.map lF) (b.map lF)) (v:rJ (a.map lF++b.map lF) S) (T:∀x∈a,Gd x.ky) (hl:a.length+b.length≤100000) :
  ∃E W,tP a b (λx=>pe x) (λx=>qC x.1 x.2) (λx=>pY x)=some E∧xf E (λx=>px x.1 x.2)=some (Ap a b S,W):=by
 have Y:∀x∈a,mM (lF x)=true:=λx d=>((ha.2 (lF x)).1 (aS.2 ⟨x,d,rfl⟩)).2
 have Z:∀x∈b,mM (lF x)=true:=λx d=>((hb.2 (lF x)).1 (aS.2 ⟨x,d,rfl⟩)).2
 have nd:∀{l:List kU},rJ (l.map lF) (l.map lF)→(l.map lF).Nodup:=λ{l} h=>by
  refine h.1.imp_of_mem λ{x y} d w J I=>?_
  subst I
  exact zL.irrefl x ((h.2 x).1 d).2 J
 have hk:∀x∈a,wD lF ll a (lF x)=some x:=λx d=>by
  rcases sV lF ll (lF x) a 0 with ⟨h1,_⟩ | ⟨A,y,B,R,h1,i,_⟩
  ·exact absurd (aS.2 ⟨x,d,rfl⟩) ((yZ (hb:=λx y=>om) lF ll).1 h1)
  ·have w:y∈a:=by rw [R]; simp
   have e:=om.1 i
   rw [h1]
   rw [D8 (nd ha) w d e]
 have key:tP a b (λx=>pe x) (λx=>qC x.1 x.2) (λx=>pY x)=some ((zX lF ll tz a b).map (By a b)):=by
  unfold tP
  rw [UO a b Z a [] (λx d=>⟨Y x d,hk x d,T x d⟩) (by simp; omega),zX,cL]
  rfl
 have j:∀k,k∈zX lF ll tz a b↔k∈S.filter λk=>!lz (wC a b k) zS:=λk=>by
  unfold zX
  rw [aO,bU,bU,bU,v.2 k,aO]
  have U:(wD lF ll a k).isNone=true↔k∉a.map lF:=by
   rw [eu]; exact yZ (hb:=λx y=>om) lF ll
  constructor
  ·rintro (⟨h1,i⟩ | ⟨h1,i⟩)
   ·exact ⟨⟨.inl h1,((ha.2 k).1 h1).2⟩,i⟩
   ·refine ⟨⟨.inr h1,((hb.2 k).1 h1).2⟩,?_⟩
    have:wC a b k=Gf:=by unfold wC yJ; rw [eu.1 i]
    rw [this]; decide +kernel
  ·rintro ⟨⟨h1,i⟩,Q⟩
   by_cases q:k∈a.map lF
   ·exact .inl ⟨q,Q⟩
   ·exact .inr ⟨h1.resolve_left q,U.2 q⟩
 have L:(zX lF ll tz a b).Nodup:=by
  unfold zX
  rw [cD]
  refine ⟨(nd ha).filter _,(nd hb).filter _,λx d y w I=>?_⟩
  subst I
  have h1:=(bU.1 d).1
  have i:=(bU.1 w).2
  exact (yZ (hb:=λx y=>om) lF ll).1 (eu.1 i) h1
 have O:(zX lF ll tz a b).length≤a.length+b.length:=by
  unfold zX
  have h1:=dE (λk=>!lz (yJ lF ll tz a b k) zS) (a.map lF)
  have i:=dE (λk=>(wD lF ll a k).isNone) (b.map lF)
  simp only [bT,aC] at *; omega
 refine ⟨_,Bj (λx y:kq=>Be x.key y.key) ((zX lF ll tz a b).map (By a b)),key,?_⟩
 let c:kq→kq→Int:=λx y=>(px x.key y.key).getD 0
 have M:∀x y:kq,px x.key y.key=some (c x y)∧decide (c x y < 0)=Be x.key y.key:=λx y=>by
  obtain ⟨z,e,h⟩:=EJ x.key y.key
  have:c x y=z:=by show (px x.key y.key).getD 0=z; rw [e]; rfl
  rw [this]
  exact ⟨e,by rw [bK,bH]; exact h⟩
 have p:mQ c=λx y:kq=>Be x.key y.key:=by funext x y; exact (M x y).2
 have swo:SWO (λx y:kq=>Be x.key y.key):=⟨λx=>M8.NB _,λx y z=>M8.tr _ _ _,λx y z=>M8.Ls _ _ _⟩
 have u:=Ng (c:=c) (f:=λx=>vq x.1 x.2 (λx=>px x.1 x.2)) (G:=λ_=>True) (by rw [p]; exact swo) (λx y _ _=>by show (px x.key y.key).bind _=_; rw [(M x y).1]; rfl) ((zX lF ll tz a b).map (By a b)) (λ_ _=>trivial) (by simp; omega)
 rw [p] at u
 have n:=Lq (key:=kq.key) (lk:=Be) (P:=λc=>mM c=true) swo zL (l:=(zX lF ll tz a b).map (By a b)) (S:=S.filter λk=>!lz (wC a b k) zS) (λx d=>by
  obtain ⟨k,h1,rfl⟩:=aS.1 d
  exact ((v.2 k).1 (bU.1 ((j k).1 h1)).1).2) (by
   rw [ef]
   have:(kq.key∘By a b)=id:=rfl
   rw [this,jE]; exact L) (v.1.filter _) (λk=>by
   rw [ef]
   have:(kq.key∘By a b)=id:=rfl
   rw [this,jE]; exact (j k).symm) (By a b) (λx d=>by
   obtain ⟨k,h1,rfl⟩:=aS.1 d
   rfl)
 unfold xf
 rw [u,aA]
 have hlen:(S.filter λk=>!lz (wC a b k) zS).length≤100000:=by
  have:=bA List.length n
  rw [(FZ _ _).length_eq,bT,bT] at this
  omega
 have:=UY a b (Bj (λx y:kq=>Be x.key y.key) ((zX lF ll tz a b).map (By a b))) (S.filter λk=>!lz (wC a b k) zS) zS (λk hk=>(HZ ((v.2 k).1 (bU.1 hk).1).2).2.2) (by rw [Ig]; omega)
 rw [LZ] at this
 rw [n] at this ⊢
 exact this
def FC:ByteArray:=⟨#[97,99,107,32]⟩
abbrev mo (x:mr):ku:=x.ku
noncomputable abbrev tw (x y:mr):Bool:=rD x.ky y.ky&&(qw x.lT y.lT).getD false
def B3 (k:ku):ByteArray:=FC++rT k
noncomputable abbrev xr (a b:List mr) (k:ku):ByteArray:=yJ mo kR tw a b k
noncomputable def Bo (a b:List mr) (k:ku):kx:=⟨k,B3 k,xr a b k⟩
theorem RI (x:mr) (h:mw (mo x)=true):pZ x=some (B3 (mo x))∧(B3 (mo x)).size≤200:=by
 obtain ⟨a,_,c⟩:=yh h
 have e:(⟨#[97,99,107,32]⟩:ByteArray)=FC:=rfl
 have d:FC.size=4:=rfl
 unfold pZ
 rw [a,e,aA,mA (by omega)]
 exact ⟨rfl,by show (FC++rT (mo x)).size≤200; rw [aD]; omega⟩
theorem WA (x y:mr) (h:Gd x.ky):qy x y=some (tw x y):=by
 obtain ⟨b,e,_⟩:=Hh x.lT y.lT
 unfold qy
 rw [Ju _ _ h]
 unfold tw
 rw [e]
 cases rD x.ky y.ky <;> rfl
theorem Rk (k:ku) (f:mr→Option Bool) (d:∀x,f x=some (kR (mo x) k)):∀(l:List mr) (i:Nat),ox f l i=some (tD mo kR l k i)
 | [],i=>by rw [ox]; rfl
 | x::l,i=>by
  rw [ox,d,aA,tD,Rk k f d l (i+1)]
  cases kR (mo x) k <;> rfl
theorem Zo (l:List mr) (k:ku):sh l k (λx=>pd x)=some (tD mo kR l k 0):=by
 unfold sh qn
 rw [Rk k (λx=>sR x (λx=>pd x) k) (λx=>rfl)]
 rfl
theorem OX (a b:List mr):∀(l:List mr) (acc:List kx),(∀x∈l,mw (mo x)=true)→acc.length+l.length≤1000000→
  pU (λx=>pd x) a (λx=>pZ x) l acc=some (acc++((l.map mo).filter λk=>(wD mo kR a k).isNone).map (Bo a b))
 | [],acc,_,_=>by rw [pU]; simp
 | x::l,acc,j,v=>by
  rw [aG] at v
  have p:pd x=some (mo x):=rfl
  rw [pU,p,aA,Zo,aA,aA,(RI x (j x (by simp))).1,aA,aU,cZ]
  rcases sV mo kR (mo x) a 0 with ⟨h1,i⟩ | ⟨A,y,B,w,h1,_,i⟩
  ·rw [i,h1]
   have u:Bo a b (mo x)=⟨mo x,B3 (mo x),Gf⟩:=by unfold Bo xr yJ; rw [h1]
   have d:(⟨#[43]⟩:ByteArray)=Gf:=rfl
   simp only [show ((-1:Int) < 0) from by omega,bB,aK,gU,aU]
   rw [d,←u,ns (by simp; omega) (by simp; omega),aA,OX a b l _ (λz n=>j z (by simp [n])) (by simp; omega)]
   simp
  ·rw [i,h1]
   have d:¬(((0+A.length:Nat):Int) < 0):=by omega
   simp only [d,bN,aB,aI,js]
   exact OX a b l acc (λz n=>j z (by simp [n])) (by omega)
theorem TN (a b:List mr) (hb:∀x∈b,mw (mo x)=true):∀(l:List mr) (acc:List kx),(∀x∈l,mw (mo x)=true∧wD mo kR a (mo x)=some x∧Gd x.ky)→acc.length+l.length+b.length≤1000000→
  oK (λx=>pd x) b (λx=>pZ x) (λx=>qy x.1 x.2) a l acc=some (acc++((l.map mo).filter λk=>!lz (xr a b k) zS).map (Bo a b)++((b.map mo).filter λk=>(wD mo kR a k).isNone).map (Bo a b))
 | [],acc,_,v=>by
  rw [oK,OX a b b acc hb (by simp at v; omega)]
  simp
 | x::l,acc,w,v=>by
  rw [aG] at v
  obtain ⟨O,hk,M⟩:=w x (by simp)
  have E:pd x=some (mo x):=rfl
  have ih:=λacc=>TN a b hb l acc (λz P=>w z (by simp [P]))
  rw [oK,E,aA,Zo,aA,(RI x O).1]
  simp only [aA]
  rw [aU,cZ]
  have step:∀s:ByteArray,xr a b (mo x)=s→((nm 64 acc ([(⟨mo x,B3 (mo x),s⟩:kx)])).bind λi=>oK (λx=>pd x) b (λx=>pZ x) (λx=>qy x.1 x.2) a l i)=some (acc++(Bo a b (mo x)::((l.map mo).filter λk=>!lz (xr a b k) zS).map (Bo a b))++((b.map mo).filter λk=>(wD mo kR a k).isNone).map (Bo a b)):=λs j=>by
   rw [ns (by simp; omega) (by simp; omega),aA,ih _ (by simp; omega)]
   have:(⟨mo x,B3 (mo x),s⟩:kx)=Bo a b (mo x):=by unfold Bo; rw [j]
   rw [this]; simp
  rcases sV mo kR (mo x) b 0 with ⟨h1,u⟩ | ⟨A,y,B,L,h1,_,u⟩
  ·rw [u]
   have d:xr a b (mo x)=zg:=by unfold xr yJ; rw [hk,h1]
   have n:(⟨#[45]⟩:ByteArray)=zg:=rfl
   have p:(!lz zg zS)=true:=by decide +kernel
   simp only [show ((-1:Int) < 0) from by omega,bB,aK]
   rw [d,p,bD rfl,n,step _ d,aU]
  ·rw [u]
   have d:xr a b (mo x)=if tw x y then zS else Gl:=by unfold xr yJ; rw [hk,h1]
   have n:¬(((0+A.length:Nat):Int) < 0):=by omega
   have p:(⟨#[42]⟩:ByteArray)=Gl:=rfl
   have G:(!lz Gl zS)=true:=by decide +kernel
   have I:(!lz zS zS)=false:=by decide +kernel
   have J:lD b ((0+A.length:Nat):Int)=some y:=by rw [L]; exact mz A y B _ (by omega)
   simp only [n,bN,aB,aI]
   rw [J,aA]
   rw [WA x y M,aA]
   cases j:tw x y
   ·rw [j] at d
    simp only [aB,aI] at d
    rw [d,G,bD rfl,cR,bD rfl,p,step _ d,aU]
   ·rw [j] at d
    simp only [aK] at d
    rw [d,I]
    simp only [cI,aB,aI]
    exact ih acc (by omega)
theorem T8 (a b:List mr) (d:List kx):∀(l:List ku) (acc:ByteArray),(∀k∈l,(B3 k).size≤200)→acc.size+300*l.length≤1000000000→
  pL d (l.map (Bo a b)) acc=some (acc++Aw (l.map λk=>xr a b k++pf++B3 k++rf),d)
 | [],acc,_,_=>by rw [dN,pL,dN,Aw,yL]; rfl
 | k::l,acc,hk,u=>by
  rw [aG] at u
  have w:=hk k (by simp)
  have h1:(xr a b k).size≤1:=by
   unfold xr yJ
   split
   ·exact aR _
   ·exact aR _
   ·split
    ·exact dT _
    ·exact aR _
  have i:(⟨#[32]⟩:ByteArray)=pf:=rfl
  have j:(⟨#[10]⟩:ByteArray)=rf:=rfl
  have s1:pf.size=1:=rfl
  have s2:rf.size=1:=rfl
  have n:(Bo a b k).sign=xr a b k:=rfl
  have p:(Bo a b k).text=B3 k:=rfl
  rw [aU,pL,i,j,n,p,mA (by omega),aA,mA (by rw [aD]; omega),aA,mA (by simp only [aD]; omega),aA]
  have hb:FX acc (xr a b k++pf++B3 k++rf)=some (acc++(xr a b k++pf++B3 k++rf)):=by
   unfold FX; rw [bD (by simp only [aD]; omega)]
  rw [hb,aA,T8 a b d l _ (λz v=>hk z (by simp [v])) (by simp only [aD]; omega),aU,Aw]
  simp only [dR]
noncomputable def Bv (a b:List mr) (S:List ku):ByteArray:=Aw ((S.filter λk=>!lz (xr a b k) zS).map λk=>xr a b k++pf++B3 k++rf)
theorem U6 (a b:List mr) (S:List ku) (ha:FG (a.map mo) (a.map mo)) (hb:FG (b.map mo) (b.map mo)) (v:FG (a.map mo++b.map mo) S) (T:∀x∈a,Gd x.ky) (hl:a.length+b.length≤19) :
  ∃E W,tO a b (λx=>pd x) (λx=>qy x.1 x.2) (λx=>pZ x)=some E∧xk E (λx=>ov x.1 x.2)=some (Bv a b S,W):=by
 have Y:∀x∈a,mw (mo x)=true:=λx d=>((ha.2 (mo x)).1 (aS.2 ⟨x,d,rfl⟩)).2
 have Z:∀x∈b,mw (mo x)=true:=λx d=>((hb.2 (mo x)).1 (aS.2 ⟨x,d,rfl⟩)).2
 have nd:∀{l:List mr},FG (l.map mo) (l.map mo)→(l.map mo).Nodup:=λ{l} h=>by
  refine h.1.imp_of_mem λ{x y} d w J I=>?_
  subst I
  exact (CK λc=>mw c=true).irrefl x ((h.2 x).1 d).2 J
 have hk:∀x∈a,wD mo kR a (mo x)=some x:=λx d=>by
  rcases sV mo kR (mo x) a 0 with ⟨h1,_⟩ | ⟨A,y,B,R,h1,i,_⟩
  ·exact absurd (aS.2 ⟨x,d,rfl⟩) ((yZ (hb:=λx y=>lj) mo kR).1 h1)
  ·have w:y∈a:=by rw [R]; simp
   have e:=lj.1 i
   rw [h1]
   rw [D8 (nd ha) w d e]
 have key:tO a b (λx=>pd x) (λx=>qy x.1 x.2) (λx=>pZ x)=some ((zX mo kR tw a b).map (Bo a b)):=by
  unfold tO
  rw [TN a b Z a [] (λx d=>⟨Y x d,hk x d,T x d⟩) (by simp; omega),zX,cL]
  rfl
 have j:∀k,k∈zX mo kR tw a b↔k∈S.filter λk=>!lz (xr a b k) zS:=λk=>by
  unfold zX
  rw [aO,bU,bU,bU,v.2 k,aO]
  have U:(wD mo kR a k).isNone=true↔k∉a.map mo:=by
   rw [eu]; exact yZ (hb:=λx y=>lj) mo kR
  constructor
  ·rintro (⟨h1,i⟩ | ⟨h1,i⟩)
   ·exact ⟨⟨.inl h1,((ha.2 k).1 h1).2⟩,i⟩
   ·refine ⟨⟨.inr h1,((hb.2 k).1 h1).2⟩,?_⟩
    have:xr a b k=Gf:=by unfold xr yJ; rw [eu.1 i]
    rw [this]; decide +kernel
  ·rintro ⟨⟨h1,i⟩,Q⟩
   by_cases q:k∈a.map mo
   ·exact .inl ⟨q,Q⟩
   ·exact .inr ⟨h1.resolve_left q,U.2 q⟩
 have L:(zX mo kR tw a b).Nodup:=by
  unfold zX
  rw [cD]
  refine ⟨(nd ha).filter _,(nd hb).filter _,λx d y w I=>?_⟩
  subst I
  have h1:=(bU.1 d).1
  have i:=(bU.1 w).2
  exact (yZ (hb:=λx y=>lj) mo kR).1 (eu.1 i) h1
 have O:(zX mo kR tw a b).length≤a.length+b.length:=by
  unfold zX
  have h1:=dE (λk=>!lz (yJ mo kR tw a b k) zS) (a.map mo)
  have i:=dE (λk=>(wD mo kR a k).isNone) (b.map mo)
  simp only [bT,aC] at *; omega
 refine ⟨_,Bj (λx y:kx=>wY x.key y.key) ((zX mo kR tw a b).map (Bo a b)),key,?_⟩
 let c:kx→kx→Int:=λx y=>(ov x.key y.key).getD 0
 have M:∀x y:kx,ov x.key y.key=some (c x y)∧decide (c x y < 0)=wY x.key y.key:=λx y=>by
  obtain ⟨z,e,h⟩:=yn x.key y.key
  have:c x y=z:=by show (ov x.key y.key).getD 0=z; rw [e]; rfl
  rw [this]
  exact ⟨e,by rw [bK,bH]; exact h⟩
 have p:wI c=λx y:kx=>wY x.key y.key:=by funext x y; exact (M x y).2
 have swo:SWO (λx y:kx=>wY x.key y.key):=⟨λx=>Nd.NB _,λx y z=>Nd.tr _ _ _,λx y z=>Nd.Ls _ _ _⟩
 have u:=SY (c:=c) (f:=λx=>vn x.1 x.2 (λx=>ov x.1 x.2)) (G:=λ_=>True) (by rw [p]; exact swo) (λx y _ _=>by show (ov x.key y.key).bind _=_; rw [(M x y).1]; rfl) ((zX mo kR tw a b).map (Bo a b)) (λ_ _=>trivial) (by simp; omega)
 rw [p] at u
 have n:=Lq (key:=kx.key) (lk:=wY) (P:=λc=>mw c=true) swo (CK λc=>mw c=true) (l:=(zX mo kR tw a b).map (Bo a b)) (S:=S.filter λk=>!lz (xr a b k) zS) (λx d=>by
  obtain ⟨k,h1,rfl⟩:=aS.1 d
  exact ((v.2 k).1 (bU.1 ((j k).1 h1)).1).2) (by
   rw [ef]
   have:(kx.key∘Bo a b)=id:=rfl
   rw [this,jE]; exact L) (v.1.filter _) (λk=>by
   rw [ef]
   have:(kx.key∘Bo a b)=id:=rfl
   rw [this,jE]; exact (j k).symm) (Bo a b) (λx d=>by
   obtain ⟨k,h1,rfl⟩:=aS.1 d
   rfl)
 unfold xk
 rw [u,aA]
 have hlen:(S.filter λk=>!lz (xr a b k) zS).length≤100000:=by
  have:=bA List.length n
  rw [(FZ _ _).length_eq,bT,bT] at this
  omega
 have:=T8 a b (Bj (λx y:kx=>wY x.key y.key) ((zX mo kR tw a b).map (Bo a b))) (S.filter λk=>!lz (xr a b k) zS) zS (λk hk=>(by have h:=(yh ((v.2 k).1 (bU.1 hk).1).2).2.2; have s4:FC.size=4:=rfl; show (FC++rT k).size≤200; rw [aD]; omega)) (by rw [Ig]; omega)
 rw [LZ] at this
 rw [n] at this ⊢
 exact this
def Iv (s:ByteArray):ByteArray:=if lz s zS then zS else s++pf
theorem R9 {X K:Type} (key:X→K) (bq:K→K→Bool) (same:X→X→Bool) (a b:List X) (k:K) (m:Bool) (hm:∀x y,wD key bq a k=some x→wD key bq b k=some y→m=same x y) :
  CD (tD key bq a k 0) (tD key bq b k 0) m=some (Iv (yJ key bq same a b k)):=by
 unfold CD yJ
 have n:Iv Gf=(⟨#[43,32]⟩:ByteArray):=by decide +kernel
 have p:Iv zg=(⟨#[45,32]⟩:ByteArray):=by decide +kernel
 have u:Iv Gl=(⟨#[42,32]⟩:ByteArray):=by decide +kernel
 have v:Iv zS=zS:=by decide +kernel
 rcases sV key bq k a 0 with ⟨h1,d⟩ | ⟨A,x,B,_,h1,_,d⟩
 ·rw [h1,d,n]; rfl
 ·have i:¬(((0+A.length:Nat):Int) < 0):=by omega
  rcases sV key bq k b 0 with ⟨g1,g2⟩ | ⟨C,y,D,_,g1,_,g2⟩
  ·rw [h1,d,g1,g2,p]
   simp only [i,bN,aB,aI]
   rfl
  ·have j:¬(((0+C.length:Nat):Int) < 0):=by omega
   rw [h1,d,g1,g2,hm x y h1 g1]
   simp only [i,j,bN,aB,aI]
   cases same x y
   ·simp only [cR,aK,aB,aI]; rw [u]
   ·simp only [cI,aK,aB,aI]; rw [v]
theorem Rx (k:kv):∀(l:List kU) (i:Nat),xS k l i=some (tD lF ll l k i)
 | [],i=>by rw [xS]; rfl
 | x::l,i=>by
  rw [xS,tD,Rx k l (i+1)]
  cases ll (lF x) k <;> rfl
theorem Up (l:List kU) (k:kv):FN l k=some (tD lF ll l k 0):=Rx k l 0
theorem Pa (k:ku):∀(l:List mr) (i:Nat),xd k l i=some (tD mo kR l k i)
 | [],i=>by rw [xd]; rfl
 | x::l,i=>by
  rw [xd,tD,Pa k l (i+1)]
  cases kR (mo x) k <;> rfl
theorem RC (l:List mr) (k:ku):EC l k=some (tD mo kR l k 0):=Pa k l 0
theorem HI {X K:Type} (key:X→K) (bq:K→K→Bool) (same:X→X→Bool) (a b:List X) (k:K):(yJ key bq same a b k).size≤1:=by
 unfold yJ
 split
 ·exact aR _
 ·exact aR _
 ·split
  ·exact dT _
  ·exact aR _
theorem Xe (s:ByteArray):lz (Iv s) zS=lz s zS:=by
 unfold Iv
 cases h:lz s zS
 ·simp only [aB,aI]
  rw [Bool.eq_false_iff]
  intro q
  have:=nE.1 q
  have d:=bA ByteArray.size this
  rw [aD,Ig] at d
  have:pf.size=1:=rfl
  omega
 ·simp only [aK]; decide +kernel
theorem Pt (p q:lB) (L:∀x∈p.kE,Gd x.ky):∀(S:List kv) (acc:ByteArray),(∀k∈S,mM k=true)→acc.size+300*S.length≤1000000000→
  uX p q S acc=some (acc++Aw ((S.filter λk=>!lz (wC p.kE q.kE k) zS).map λk=>wC p.kE q.kE k++pf++Bi k++rf))
 | [],acc,_,_=>by rw [uX,gd,dN,Aw,yL]
 | k::S,acc,hk,R=>by
  rw [aG] at R
  obtain ⟨_,t1,t2⟩:=HZ (hk k (by simp))
  have U:=HI lF ll tz p.kE q.kE k
  have ih:=λacc=>Pt p q L S acc (λz G=>hk z (by simp [G]))
  have s1:pf.size=1:=rfl
  have s2:rf.size=1:=rfl
  have M:(⟨#[10]⟩:ByteArray)=rf:=rfl
  rw [uX,Up,Up]
  simp only [aA]
  have main:∃m,(((if (decide (tD lF ll p.kE k 0≥0)) then some (decide (tD lF ll q.kE k 0≥0)) else some false):Option Bool).bind λi=>(((if i then ((lD p.kE (tD lF ll p.kE k 0)).bind λv=>((lD q.kE (tD lF ll q.kE k 0)).bind λw=>some (lz (uF v.Signed.Tag) (uF w.Signed.Tag)))) else some false):Option Bool).bind λj=>((if j then ((lD p.kE (tD lF ll p.kE k 0)).bind λn=>((lD q.kE (tD lF ll q.kE k 0)).bind λu=>((qI kY n.ky u.ky).bind λd=>some d))) else some false):Option Bool)))=some m∧∀x y,wD lF ll p.kE k=some x→wD lF ll q.kE k=some y→m=tz x y:=by
   rcases sV lF ll k p.kE 0 with ⟨h1,E⟩ | ⟨A,x,B,J,h1,_,E⟩
   ·rw [h1,E]; exact ⟨false,rfl,λx y h=>by cases h⟩
   ·have I:((0+A.length:Nat):Int)≥0:=by omega
    rcases sV lF ll k q.kE 0 with ⟨g1,g2⟩ | ⟨C,y,D,Q,g1,_,g2⟩
    ·rw [g1,g2,E]
     simp only [I,bB,aK]
     exact ⟨false,rfl,λx y _ h=>by cases h⟩
    ·have O:((0+C.length:Nat):Int)≥0:=by omega
     have i1:lD p.kE ((0+A.length:Nat):Int)=some x:=by rw [J]; exact mz A x B _ (by omega)
     have i2:lD q.kE ((0+C.length:Nat):Int)=some y:=by rw [Q]; exact mz C y D _ (by omega)
     rw [h1,E,g1,g2]
     simp only [I,O,bB,aK,aA,i1,i2]
     rw [Hr _ _ (L x (by rw [J]; simp))]
     refine ⟨tz x y,?_,λW Y h P=>by cases h; cases P; rfl⟩
     unfold tz
     cases lz (uF x.Signed.Tag) (uF y.Signed.Tag) <;> rfl
  obtain ⟨m,em,hm⟩:=main
  have key:∀F:Bool→Option ByteArray,(((if (decide (tD lF ll p.kE k 0≥0)) then some (decide (tD lF ll q.kE k 0≥0)) else some false):Option Bool).bind λi=>(((if i then ((lD p.kE (tD lF ll p.kE k 0)).bind λv=>((lD q.kE (tD lF ll q.kE k 0)).bind λw=>some (lz (uF v.Signed.Tag) (uF w.Signed.Tag)))) else some false):Option Bool).bind λj=>(((if j then ((lD p.kE (tD lF ll p.kE k 0)).bind λn=>((lD q.kE (tD lF ll q.kE k 0)).bind λu=>((qI kY n.ky u.ky).bind λd=>some d))) else some false):Option Bool).bind F)))=F m:=λF=>by
   have:=bA (λo=>o.bind F) em
   simpa only [Option.bind_assoc,aA] using this
  rw [key,R9 lF ll tz _ _ _ m hm,aA,Xe,cZ]
  cases G:lz (yJ lF ll tz p.kE q.kE k) zS
  ·have T:Iv (yJ lF ll tz p.kE q.kE k)=yJ lF ll tz p.kE q.kE k++pf:=by unfold Iv; rw [G]; rfl
   simp only [cR,aK]
   rw [t1,aA,T,M,mA (by rw [aD]; omega),aA,mA (by simp only [aD]; omega),aA,mA (by simp only [aD]; omega),aA,ih _ (by simp only [aD]; omega),aU,Aw]
   simp only [dR]
  ·simp only [cI,aB,aI]
   exact ih acc (by omega)
theorem OO (p q:lB) (M:∀x∈p.kQ,Gd x.ky):∀(S:List ku) (acc:ByteArray),(∀k∈S,mw k=true)→acc.size+300*S.length≤1000000000→
  ve p q S acc=some (acc++Aw ((S.filter λk=>!lz (xr p.kQ q.kQ k) zS).map λk=>xr p.kQ q.kQ k++pf++B3 k++rf))
 | [],acc,_,_=>by rw [ve,gd,dN,Aw,yL]
 | k::S,acc,hk,Z=>by
  rw [aG] at Z
  have t0:=Kh (hk k (by simp))
  have hs:=HI mo kR tw p.kQ q.kQ k
  have ih:=λacc=>OO p q M S acc (λz I=>hk z (by simp [I]))
  have s1:pf.size=1:=rfl
  have s2:rf.size=1:=rfl
  have Q:(⟨#[10]⟩:ByteArray)=rf:=rfl
  rw [ve,RC,RC]
  simp only [aA]
  have main:∃m,(((if (decide (tD mo kR p.kQ k 0≥0)) then some (decide (tD mo kR q.kQ k 0≥0)) else some false):Option Bool).bind λj=>(((if j then ((lD p.kQ (tD mo kR p.kQ k 0)).bind λw=>((lD q.kQ (tD mo kR q.kQ k 0)).bind λE=>((qI kY w.ky E.ky).bind λi=>some i))) else some false):Option Bool).bind λn=>((if n then ((lD p.kQ (tD mo kR p.kQ k 0)).bind λu=>((lD q.kQ (tD mo kR q.kQ k 0)).bind λv=>((vz u.lT v.lT).bind λd=>some d))) else some false):Option Bool)))=some m∧∀x y,wD mo kR p.kQ k=some x→wD mo kR q.kQ k=some y→m=tw x y:=by
   rcases sV mo kR k p.kQ 0 with ⟨h1,G⟩ | ⟨A,x,B,L,h1,_,G⟩
   ·rw [h1,G]; exact ⟨false,rfl,λx y h=>by cases h⟩
   ·have J:((0+A.length:Nat):Int)≥0:=by omega
    rcases sV mo kR k q.kQ 0 with ⟨g1,g2⟩ | ⟨C,y,D,Y,g1,_,g2⟩
    ·rw [g1,g2,G]
     simp only [J,bB,aK]
     exact ⟨false,rfl,λx y _ h=>by cases h⟩
    ·have R:((0+C.length:Nat):Int)≥0:=by omega
     have i1:lD p.kQ ((0+A.length:Nat):Int)=some x:=by rw [L]; exact mz A x B _ (by omega)
     have i2:lD q.kQ ((0+C.length:Nat):Int)=some y:=by rw [Y]; exact mz C y D _ (by omega)
     rw [h1,G,g1,g2]
     simp only [J,R,bB,aK,aA,i1,i2]
     obtain ⟨O,f1,c1⟩:=Xo x.lT y.lT
     obtain ⟨P,f2,c2⟩:=Hh x.lT y.lT
     have hb:O=P:=by rw [bK,c1,c2]
     rw [Hr _ _ (M x (by rw [L]; simp)),f1]
     refine ⟨tw x y,?_,λx' y' h W=>by cases h; cases W; rfl⟩
     unfold tw
     rw [f2,hb]
     cases rD x.ky y.ky <;> rfl
  obtain ⟨m,em,hm⟩:=main
  have key:∀F:Bool→Option ByteArray,(((if (decide (tD mo kR p.kQ k 0≥0)) then some (decide (tD mo kR q.kQ k 0≥0)) else some false):Option Bool).bind λj=>(((if j then ((lD p.kQ (tD mo kR p.kQ k 0)).bind λw=>((lD q.kQ (tD mo kR q.kQ k 0)).bind λE=>((qI kY w.ky E.ky).bind λi=>some i))) else some false):Option Bool).bind λn=>(((if n then ((lD p.kQ (tD mo kR p.kQ k 0)).bind λu=>((lD q.kQ (tD mo kR q.kQ k 0)).bind λv=>((vz u.lT v.lT).bind λd=>some d))) else some false):Option Bool).bind F)))=F m:=λF=>by
   have:=bA (λo=>o.bind F) em
   simpa only [Option.bind_assoc,aA] using this
  rw [key,R9 mo kR tw _ _ _ m hm,aA,Xe,cZ]
  cases I:lz (yJ mo kR tw p.kQ q.kQ k) zS
  ·have hr:Iv (yJ mo kR tw p.kQ q.kQ k)=yJ mo kR tw p.kQ q.kQ k++pf:=by unfold Iv; rw [I]; rfl
   simp only [cR,aK]
   have T:(⟨#[97,99,107,32]⟩:ByteArray)=FC:=rfl
   have s4:FC.size=4:=rfl
   have U:(⟨#[46]⟩:ByteArray)=zH:=rfl
   have s5:=IU
   rw [hr,Q,T,U,mA (by rw [aD]; omega),aA,mA (by simp only [aD]; omega),aA,mA (by simp only [aD]; omega),aA,mA (by simp only [aD]; omega),aA,mA (by simp only [aD]; omega),aA,mA (by simp only [aD]; omega),aA,ih _ (by simp only [aD]; omega),aU,Aw]
   have tA:B3 k=FC++(k.kw++zH++k.Word):=rfl
   rw [tA]
   simp only [dR]
  ·simp only [cI,aB,aI]
   exact ih acc (by omega)
theorem P4:∀(l:List mr) (acc:List ku),acc.length+l.length≤1000000→wS l acc=some (acc++l.map mo)
 | [],acc,_=>by rw [wS]; simp
 | x::l,acc,h=>by
  rw [aG] at h
  rw [wS,ns (by simp; omega) (by simp; omega),aA,P4 l _ (by simp; omega)]
  simp
theorem Ps (p q:lB):∀(l:List kU) (acc:List kv),acc.length+l.length≤1000000→uS p q l acc=uS p q [] (acc++l.map lF)
 | [],acc,_=>by simp
 | x::l,acc,h=>by
  rw [aG] at h
  have e:=uS.eq_2 p q acc x l
  rw [e,ns (by simp; omega) (by simp; omega),aA,Ps p q l _ (by simp; omega)]
  simp
structure DQ (p:lB):Prop where
 c:rJ (p.kE.map lF) (p.kE.map lF)
 a:FG (p.kQ.map mo) (p.kQ.map mo)
 g:∀x∈p.kE,Gd x.ky
 h:∀x∈p.kQ,Gd x.ky
 l:p.kE.length≤1000
 m:p.kQ.length≤8
theorem Py {α:Type} (S:List α) (f:α→ByteArray) (n:Nat) (d:∀k∈S,(f k).size≤300) (j:S.length≤n):(Aw (S.map f)).size≤300*n:=by
 have:=OP (S.map f) (λs i=>by obtain ⟨k,hk,rfl⟩:=aS.1 i; exact d k hk)
 rw [bT] at this
 omega
theorem O7 (p q:lB) (hp:DQ p) (d:DQ q):∃S R,rJ (p.kE.map lF++q.kE.map lF) S∧FG (p.kQ.map mo++q.kQ.map mo) R∧qe p q=some (Ap p.kE q.kE S++Bv p.kQ q.kQ R)∧wc p q=some (Ap p.kE q.kE S++Bv p.kQ q.kQ R)∧(Ap p.kE q.kE S++Bv p.kQ q.kQ R).size≤1200000:=by
 have h1:=hp.l
 have z:=hp.m
 have U:=d.l
 have W:=d.m
 obtain ⟨S,J,n⟩:=Nk (p.kE.map lF++q.kE.map lF) (by simp; omega)
 obtain ⟨R,I,j⟩:=XG (p.kQ.map mo++q.kQ.map mo) (by simp; omega)
 obtain ⟨E,r,A,G⟩:=TL p.kE q.kE S hp.c d.c n hp.g (by omega)
 obtain ⟨F,Z,f1,f2⟩:=U6 p.kQ q.kQ R hp.a d.a j hp.h (by omega)
 have w:∀k∈S,mM k=true:=λk hk=>((n.2 k).1 hk).2
 have v:∀k∈R,mw k=true:=λk hk=>((j.2 k).1 hk).2
 have O:S.Nodup:=n.1.imp_of_mem λ{x y} u L i d=>by subst d; exact zL.irrefl x (w x u) i
 have M:R.Nodup:=j.1.imp_of_mem λ{x y} u L i d=>by subst d; exact (CK λc=>mw c=true).irrefl x (v x u) i
 have lS:S.length≤2000:=by
  have:=nD O (m:=p.kE.map lF++q.kE.map lF) (λk hk=>((n.2 k).1 hk).1)
  simp at this; omega
 have Y:R.length≤2000:=by
  have:=nD M (m:=p.kQ.map mo++q.kQ.map mo) (λk hk=>((j.2 k).1 hk).1)
  simp at this; omega
 have s1:pf.size=1:=rfl
 have s2:rf.size=1:=rfl
 have T:(Ap p.kE q.kE S).size≤600000:=by
  unfold Ap
  refine Py _ _ 2000 (λk hk=>?_) ?_
  ·have h1:(wC p.kE q.kE k).size≤1:=HI lF ll tz p.kE q.kE k
   have z:(Bi k).size≤200:=(HZ (w k (bU.1 hk).1)).2.2
   simp only [aD]; omega
  ·have:=dE (λk=>!lz (wC p.kE q.kE k) zS) S; omega
 have Q:(Bv p.kQ q.kQ R).size≤600000:=by
  unfold Bv
  refine Py _ _ 2000 (λk hk=>?_) ?_
  ·have h1:(xr p.kQ q.kQ k).size≤1:=HI mo kR tw p.kQ q.kQ k
   have h:=(yh (v k (bU.1 hk).1)).2.2
   have s4:FC.size=4:=rfl
   have P:B3 k=FC++rT k:=rfl
   rw [P]
   simp only [aD]; omega
  ·have:=dE (λk=>!lz (xr p.kQ q.kQ k) zS) R; omega
 refine ⟨S,R,n,j,?_,?_,by rw [aD]; omega⟩
 ·unfold qe
  rw [A,aA,f1,aA,G,aA,f2,aA]
  have e:∀a b:ByteArray,a.size≤600000→b.size≤600000→(mf a b).bind (λs=>some s)=some (a++b):=λa b h1 z=>by rw [mA (by omega)]; rfl
  exact e _ _ T Q
 ·unfold wc
  rw [ns (by simp; omega) (by simp; omega),aA,ns (by simp; omega) (by simp; omega),aA,Ps p q _ _ (by simp; omega),uS]
  simp only [aW,cL]
  rw [J,aA,Pt p q hp.g S zS w (by rw [Ig]; omega),aA,ns (by rw [aZ]; omega) (by rw [aZ]; omega),aA,aW,ns (by omega) (by omega),aA,P4 _ _ (by simp; omega),aA,aW,cL,I,aA,LZ]
  have e:=OO p q hp.h R (Ap p.kE q.kE S) v (by omega)
  unfold Ap at e ⊢
  rw [e]
  rfl
def Su (l:List UInt8):Nat:=l.foldl (λa d=>10*a+(d.toNat-48)) 0
theorem PV {k:Nat} (h:k < 10):(UInt8.ofNat (48+k)).toNat=48+k:=by
 rw [UInt8.toNat_ofNat']; omega
theorem Px:∀(n u:Nat),u < n→Su (Go.Lib.decDigits u)=u∧(∀d∈Go.Lib.decDigits u,48≤d.toNat∧d.toNat≤57)∧Go.Lib.decDigits u≠[]
 | 0,u,h=>by omega
 | n+1,u,h=>by
  rw [Go.Lib.decDigits]
  split
  ·rename_i h1
   refine ⟨?_,λd i=>?_,by simp⟩
   ·simp only [Su,eY,List.foldl_nil]; rw [PV h1]; omega
   ·rw [bO] at i; rw [i,PV h1]; omega
  ·rename_i h1
   obtain ⟨a,b,c⟩:=Px n (u / 10) (by omega)
   have e:=PV (k:=u % 10) (by omega)
   refine ⟨?_,λd i=>?_,by simp⟩
   ·unfold Su at a ⊢
    rw [List.foldl_append,a]
    simp only [eY,List.foldl_nil]
    rw [e]; omega
   ·rcases aO.1 i with i | i
    ·exact b d i
    ·rw [bO] at i; rw [i,e]; omega
theorem TY (u:Nat):Su (Go.Lib.decDigits u)=u∧(∀d∈Go.Lib.decDigits u,48≤d.toNat∧d.toNat≤57)∧Go.Lib.decDigits u≠[]:=Px (u+1) u (by omega)
theorem Vf {u v:Nat} (h:Go.Lib.decDigits u=Go.Lib.decDigits v):u=v:=by rw [←(TY u).1,h,(TY v).1]
theorem RM {u:Nat} {d:UInt8} {l:List UInt8} (h:Go.Lib.decDigits u=d::l):d≠45:=by
 have:=(TY u).2.1 d (by rw [h]; simp)
 intro e; subst e; simp at this
theorem I6 {m n:Int} (h:nk m=nk n):m=n:=by
 have h:=bA (λb:ByteArray=>b.data.toList) h
 have h:Go.Lib.itoa m=Go.Lib.itoa n:=by simpa [nk] using h
 unfold Go.Lib.itoa at h
 split at h <;> split at h
 ·have:=Vf (iI h).2; omega
 ·exact absurd rfl (RM h.symm)
 ·exact absurd rfl (RM h)
 ·have:=Vf h; omega
theorem Pk (n:Int):(32:UInt8)∉(nk n).data.toList:=by
 show (32:UInt8)∉Go.Lib.itoa n
 unfold Go.Lib.itoa
 split
 ·intro h
  rcases aP.1 h with h | h
  ·cases h
  ·have:=(TY _).2.1 _ h; simp at this
 ·intro h; have:=(TY _).2.1 _ h; simp at this
theorem UA {x:UInt8}:∀{a b c d:List UInt8},x∉a→x∉c→a++x::b=c++x::d→a=c∧b=d
 | [],b,[],d,_,_,h=>⟨rfl,(iI h).2⟩
 | [],b,z::c,d,_,i,h=>absurd (iI h).1 (λe=>i (by rw [e]; simp))
 | z::a,b,[],d,ha,_,h=>absurd (iI h).1 (λe=>ha (by rw [←e]; simp))
 | y::a,b,z::c,d,ha,i,h=>by
  obtain ⟨h1,j⟩:=iI h
  obtain ⟨n,p⟩:=UA (λq=>ha (by simp [q])) (λq=>i (by simp [q])) j
  exact ⟨by rw [h1,n],p⟩
theorem HB (m n:Int):lz (nk m) (nk n)=decide (m=n):=by
 rw [bK,nE,bH]
 exact ⟨I6,λh=>by rw [h]⟩
theorem Uf (a b c d:Int):lz (nk a++pf++nk b) (nk c++pf++nk d)=(decide (a=c)&&decide (b=d)):=by
 rw [bK,nE,bn,bH,bH]
 constructor
 ·intro h
  have h:=bA (λb:ByteArray=>b.data.toList) h
  simp only [AG] at h
  have s:pf.data.toList=[32]:=rfl
  rw [s,aM,aM,dM,dM] at h
  obtain ⟨h1,i⟩:=UA (Pk a) (Pk c) h
  exact ⟨I6 (yr h1),I6 (yr i)⟩
 ·rintro ⟨rfl,rfl⟩; rfl
def RT (x y:Key):Bool:=lz x.lO y.lO&&lz (uF x.Key) (uF y.Key)
def Fi:List Key→List Key→Bool
 | [],[]=>true
 | x::l,y::m=>RT x y&&Fi l m
 | _,_=>false
theorem OQ:∀{l m:List Key},l.length≠m.length→Fi l m=false
 | [],[],h=>absurd rfl h
 | [],_::_,_=>rfl
 | _::_,[],_=>rfl
 | x::l,y::m,h=>by
  rw [Fi,OQ (l:=l) (m:=m) (λe=>h (by simp [e])),jr]
theorem SS (x y:Key):tL x y=some (RT x y):=by
 unfold tL zn RT
 cases lz x.lO y.lO <;> rfl
theorem N5:∀(l m A:List Key),l.length=m.length→ng (A++m) (λx=>tL x.1 x.2) l A.length=some (Fi l m)
 | [],m,A,h=>by
  obtain rfl:=aJ h.symm
  rw [ng]; rfl
 | x::l,[],A,h=>by simp at h
 | x::l,y::m,A,h=>by
  have ih:=N5 l m (A++[y]) (by simpa using h)
  rw [aC,gk,aM,dM] at ih
  rw [ng,mz A y m _ rfl,aA,SS,aA,Fi,ih]
  cases RT x y <;> rfl
theorem Zp (l m:List Key):oW l m (λx=>tL x.1 x.2)=some (Fi l m):=by
 unfold oW
 by_cases h:l.length=m.length
 ·have:((l.length:Int) != (m.length:Int))=false:=by simp [h]
  simp only [this,aB,aI]
  exact N5 l m [] h
 ·have:((l.length:Int) != (m.length:Int))=true:=by simp; omega
  simp only [this,aK]
  rw [OQ h]
theorem Q5 (p:mY) (x:ByteArray):∀(l:List Key) (i:Nat),oH p x l i false=oH p x [] 0 false
 | [],i=>by rw [oH.eq_1,oH.eq_1]
 | z::l,i=>by
  rw [oH.eq_2]
  simp only [aB,aI,aA]
  exact Q5 p x l (i+1)
theorem PW (p:mY) (x:ByteArray):∀(l m A:List Key) (b:Bool),p.Keys=A++m→(b=true→l.length=m.length)→oH p x l A.length b=oH p x [] 0 (b&&Fi l m)
 | [],m,A,b,e,h=>by
  cases b with
  | false=>rw [oH,oH]; rfl
  | true=>
   obtain rfl:=aJ (h rfl).symm
   rw [oH,oH]; rfl
 | y::l,m,A,false,e,_=>by
  rw [Q5]; rfl
 | y::l,[],A,true,e,h=>by have:=h rfl; simp at this
 | y::l,z::m,A,true,e,h=>by
  have ih:=λb=>PW p x l m (A++[z]) b (by rw [e]; simp) (λ_=>by have:=h rfl; simpa using this)
  have i1:lD p.Keys ((A.length:Nat):Int)=some z:=by rw [e]; exact mz A z m _ rfl
  rw [oH.eq_2]
  simp only [aK,i1,aA]
  rw [aC,gk] at ih
  rw [Fi]
  unfold RT
  cases lz y.lO z.lO
  ·simp only [aB,aI,aA]
   rw [ih]; rfl
  ·simp only [aK,aA]
   rw [ih]; simp
noncomputable def Pw (f:Formula):ByteArray:=if pk f then (qG kY f).getD zS else zS
theorem YU (f:Formula) (h:Gd f):CB f=some (Pw f)∧((si f).bind λd=>(if d then ((vt kY f).bind λi=>some i) else some zS))=some (Pw f)∧(Pw f).size≤4000:=by
 unfold CB Pw
 rw [Ca _ h,Jk _ h]
 simp only [aA]
 cases u:pk f
 ·exact ⟨rfl,rfl,by simp [Ig]⟩
 ·obtain ⟨h1,w,p⟩:=B6 u
  obtain ⟨s,j,n,v⟩:=T9 kY f (by rw [my]; omega) p h1
  simp only [cI,aB,aI,aK]
  rw [j,n]
  exact ⟨rfl,rfl,by show s.size≤4000; omega⟩
structure Ht (p:mY):Prop where
 o:DQ p.kw
 c:DQ p.Client
 no:p.kw.Name.size≤100
 nc:p.Client.Name.size≤100
 f:Gd p.Formula
 KU:vu p.pj
 r0:vu p.lP.pJ
 r1:vu p.lP.pw
 t:vu p.mO
 y:vu p.nZ
 b:vu p.ny
 k:p.Keys.length≤1000000000
def Cq (c:Bool) (s:ByteArray):ByteArray:=if c then zS else s
theorem wh (c:Bool) (s:ByteArray):(Cq c s).size≤s.size:=by cases c <;> simp [Cq,Ig]
theorem Ad:rf.size=1:=rfl
theorem Al:pf.size=1:=rfl
theorem Jy (acc lit s:ByteArray) (c:Bool) (h:acc.size+lit.size+s.size≤900000000) :
  (if (!c) then ((mf lit s).bind λd=>((mf d (⟨#[10]⟩:ByteArray)).bind λi=>((mf acc i).bind λj=>some j))) else some acc:Option ByteArray)=some (acc++Cq c (lit++s++rf)):=by
 have e:(⟨#[10]⟩:ByteArray)=rf:=rfl
 have n:=Ad
 cases c
 ·simp only [cR,aK]
  rw [e,mA (by omega),aA,mA (by rw [aD]; omega),aA,mA (by simp only [aD]; omega)]
  rfl
 ·simp [Cq,yL]
theorem JK (acc lit:ByteArray) (m n:Int) (u:vu n) (h:acc.size+lit.size≤800000000) :
  (if (m != n) then ((ur n).bind λd=>((mf lit d).bind λi=>((mf i (⟨#[10]⟩:ByteArray)).bind λj=>((mf acc j).bind λp=>some p)))) else some acc:Option ByteArray)=some (acc++Cq (decide (m=n)) (lit++nk n++rf)):=by
 have:=qH u
 have:=Jy acc lit (nk n) (decide (m=n)) (by omega)
 rw [xB u,←this]
 simp only [aA]
 have e:(m != n)=!decide (m=n):=by rw [bK]; simp
 rw [e]
theorem Fj (r:List mK) (a b:mY) (x y:mK) (xs:List mK) (i:Nat) (acc:ByteArray) (p:lD r (i:Int)=some y) (n:x.pJ=y.pJ) (h:acc.size+x.pJ.size+x.pw.size≤800000000) :
  qZ r a b (x::xs) i acc=qZ r a b xs (i+1) (acc++Cq (lz x.pw y.pw) (x.pJ++pf++x.pw++rf)):=by
 have d:(⟨#[32]⟩:ByteArray)=pf:=rfl
 have j:(⟨#[10]⟩:ByteArray)=rf:=rfl
 have u:=Ad
 have v:=Al
 rw [qZ.eq_2,p,aA]
 have hb:zc x y=lz x.pw y.pw:=by unfold zc; rw [n,qV,dZ,Bool.and_true]
 rw [hb]
 cases lz x.pw y.pw
 ·simp only [cR,aK]
  rw [d,j,mA (by omega),aA,mA (by rw [aD]; omega),aA,mA (by simp only [aD]; omega),aA,mA (by simp only [aD]; omega),aA]
  rfl
 ·simp [Cq,yL]
def CV:ByteArray:=⟨#[112,108,97,110]⟩
def yt:ByteArray:=⟨#[114,111,111,109,115]⟩
def CA:ByteArray:=⟨#[116,105,109,101,111,117,116]⟩
def Ay:ByteArray:=⟨#[116,114,105,101,115]⟩
def yK:ByteArray:=⟨#[98,117,100,103,101,116]⟩
def ES (p:mY):List mK:=[⟨CV,nk p.pj⟩,⟨yt,nk p.lP.pJ++pf++nk p.lP.pw⟩,⟨CA,nk p.mO⟩,⟨Ay,nk p.nZ⟩,⟨yK,nk p.ny⟩]
theorem Ry (p:mY) (h:Ht p):wN p=some (ES p):=by
 have d:(⟨#[32]⟩:ByteArray)=pf:=rfl
 have j:=Al
 have i:=qH h.r0
 have h1:=qH h.r1
 unfold wN
 rw [xB h.KU,xB h.r0,xB h.r1,xB h.t,xB h.y,xB h.b,d]
 simp only [aA]
 rw [mA (by omega),aA,mA (by rw [aD]; omega)]
 rfl
def HE (a b:mY) (acc:ByteArray):ByteArray :=
 acc++Cq (decide (a.pj=b.pj)) (CV++pf++nk b.pj++rf)++Cq (decide (a.lP.pJ=b.lP.pJ)&&decide (a.lP.pw=b.lP.pw)) (yt++pf++(nk b.lP.pJ++pf++nk b.lP.pw)++rf)
  ++ Cq (decide (a.mO=b.mO)) (CA++pf++nk b.mO++rf)++Cq (decide (a.nZ=b.nZ)) (Ay++pf++nk b.nZ++rf)++Cq (decide (a.ny=b.ny)) (yK++pf++nk b.ny++rf)
def SQ (a b:mY) (acc:ByteArray):ByteArray:=acc++Cq (Fi a.Keys b.Keys) ((⟨#[107,101,121,115,32]⟩:ByteArray)++nk b.Keys.length++rf)
theorem DN (m n:Int):decide (n=m)=decide (m=n):=by rw [bK]; simp only [bH]; exact eq_comm
theorem V3 (a b:mY) (ha:Ht a) (hb:Ht b) (acc:ByteArray) (h:acc.size≤700000000) :
  qZ (ES a) a b (ES b) 0 acc=some (SQ a b (HE a b acc)):=by
 have A:CV.size=4:=rfl
 have s1:yt.size=5:=rfl
 have s2:CA.size=7:=rfl
 have E:Ay.size=5:=rfl
 have G:yK.size=6:=rfl
 have x:=Ad
 have z:=Al
 have i0:=qH hb.KU
 have i1:=qH hb.r0
 have i2:=qH hb.r1
 have i3:=qH hb.t
 have i4:=qH hb.y
 have i5:=qH hb.b
 have i:=wh (decide (a.pj=b.pj)) (CV++pf++nk b.pj++rf)
 have j:=wh (decide (a.lP.pJ=b.lP.pJ)&&decide (a.lP.pw=b.lP.pw)) (yt++pf++(nk b.lP.pJ++pf++nk b.lP.pw)++rf)
 have n:=wh (decide (a.mO=b.mO)) (CA++pf++nk b.mO++rf)
 have p:=wh (decide (a.nZ=b.nZ)) (Ay++pf++nk b.nZ++rf)
 have u:=wh (decide (a.ny=b.ny)) (yK++pf++nk b.ny++rf)
 simp only [aD] at i j n p u
 have d:ES b=[⟨CV,nk b.pj⟩,⟨yt,nk b.lP.pJ++pf++nk b.lP.pw⟩,⟨CA,nk b.mO⟩,⟨Ay,nk b.nZ⟩,⟨yK,nk b.ny⟩]:=rfl
 rw [d,Fj (ES a) a b ⟨CV,nk b.pj⟩ ⟨CV,nk a.pj⟩ _ 0 acc rfl rfl (by simp only; omega)]
 simp only [HB,DN a.pj b.pj]
 rw [Fj (ES a) a b ⟨yt,nk b.lP.pJ++pf++nk b.lP.pw⟩ ⟨yt,nk a.lP.pJ++pf++nk a.lP.pw⟩ _ _ _ rfl rfl (by simp only [aD]; omega)]
 simp only [Uf,DN a.lP.pJ,DN a.lP.pw]
 rw [Fj (ES a) a b ⟨CA,nk b.mO⟩ ⟨CA,nk a.mO⟩ _ _ _ rfl rfl (by simp only [aD]; omega)]
 simp only [HB,DN a.mO]
 rw [Fj (ES a) a b ⟨Ay,nk b.nZ⟩ ⟨Ay,nk a.nZ⟩ _ _ _ rfl rfl (by simp only [aD]; omega)]
 simp only [HB,DN a.nZ]
 rw [Fj (ES a) a b ⟨yK,nk b.ny⟩ ⟨yK,nk a.ny⟩ _ _ _ rfl rfl (by simp only [aD]; omega)]
 simp only [HB,DN a.ny]
 have hk:vu (b.Keys.length:Int):=by have:=hb.k; unfold vu; omega
 have w:=qH hk
 have I:(⟨#[107,101,121,115,32]⟩:ByteArray).size=5:=rfl
 rw [qZ.eq_1,Zp,aA,xB hk,aA]
 have v:(HE a b acc).size≤800000000:=by unfold HE; simp only [aD]; omega
 have:=Jy (HE a b acc) (⟨#[107,101,121,115,32]⟩:ByteArray) (nk b.Keys.length) (Fi a.Keys b.Keys) (by omega)
 unfold HE at this
 rw [this]; rfl
def FU:ByteArray:=⟨#[111,119,110,101,114]⟩
def DM:ByteArray:=⟨#[99,108,105,101,110,116]⟩
def Fa:ByteArray:=⟨#[103,114,97,110,116,115,32]⟩
def MB (w:ByteArray) (p q:lB) (s:ByteArray):ByteArray:=Cq (lz s zS&&lz p.Name q.Name) (w++pf++q.Name++rf++s)
theorem Us (w:ByteArray) (p q:lB) (s:ByteArray) (hw:w.size≤10) (j:q.Name.size≤100) (n:s.size≤1200000) (e:qe p q=some s):ze w p q=some (MB w p q s):=by
 have d:(⟨#[32]⟩:ByteArray)=pf:=rfl
 have i:(⟨#[10]⟩:ByteArray)=rf:=rfl
 have u:=Ad
 have v:=Al
 unfold ze MB
 rw [e,aA,GR,aA]
 cases lz s zS&&lz p.Name q.Name
 ·simp only [aB,aI]
  rw [d,i,mA (by omega),aA,mA (by rw [aD]; omega),aA,mA (by simp only [aD]; omega),aA,mA (by simp only [aD]; omega)]
  rfl
 ·rfl
theorem Sc (acc w:ByteArray) (p q:lB) (s:ByteArray) (hw:w.size≤10) (z:q.Name.size≤100) (A:s.size≤1200000) (ha:acc.size≤10000000) :
  (((if (!(lz s zS)) then some true else some (!(lz p.Name q.Name))):Option Bool).bind λu=>(if u then ((mf (w++pf) q.Name).bind λd=>((mf d (⟨#[10]⟩:ByteArray)).bind λi=>((mf i s).bind λj=>((mf acc j).bind λn=>some n)))) else some acc))=some (acc++MB w p q s):=by
 have E:=Ad
 have G:=Al
 have x:(if (!(lz s zS)) then some true else some (!(lz p.Name q.Name)):Option Bool)=some (!(lz s zS&&lz p.Name q.Name)):=by cases lz s zS <;> rfl
 have v:(⟨#[10]⟩:ByteArray)=rf:=rfl
 rw [x,aA,v]
 unfold MB
 cases lz s zS&&lz p.Name q.Name
 ·simp only [cR,aK]
  rw [mA (by rw [aD]; omega),aA,mA (by simp only [aD]; omega),aA,mA (by simp only [aD]; omega),aA,mA (by simp only [aD]; omega)]
  rfl
 ·simp [Cq,yL]
theorem Wd (acc:ByteArray) (a b:mY) (w:vu b.lP.pJ) (h1:vu b.lP.pw) (h:acc.size≤800000000) :
  (if (!(EQ a.lP b.lP)) then ((ur b.lP.pJ).bind λd=>((mf (yt++pf) d).bind λj=>((mf j (⟨#[32]⟩:ByteArray)).bind λn=>((ur b.lP.pw).bind λi=>((mf n i).bind λp=>((mf p (⟨#[10]⟩:ByteArray)).bind λu=>((mf acc u).bind λv=>some v))))))) else some acc:Option ByteArray)
   = some (acc++Cq (decide (a.lP.pJ=b.lP.pJ)&&decide (a.lP.pw=b.lP.pw)) (yt++pf++(nk b.lP.pJ++pf++nk b.lP.pw)++rf)):=by
 have x:(⟨#[32]⟩:ByteArray)=pf:=rfl
 have z:(⟨#[10]⟩:ByteArray)=rf:=rfl
 have s1:yt.size=5:=rfl
 have A:=Ad
 have E:=Al
 have i1:=qH w
 have i2:=qH h1
 have hb:EQ a.lP b.lP=(decide (a.lP.pJ=b.lP.pJ)&&decide (a.lP.pw=b.lP.pw)):=by
  unfold EQ; rw [Bool.and_true]; rfl
 rw [hb]
 cases decide (a.lP.pJ=b.lP.pJ)&&decide (a.lP.pw=b.lP.pw)
 ·simp only [cR,aK]
  rw [x,z,xB w,xB h1]
  simp only [aA]
  rw [mA (by rw [aD]; omega),aA,mA (by simp only [aD]; omega),aA,mA (by simp only [aD]; omega),aA,mA (by simp only [aD]; omega),aA,mA (by simp only [aD]; omega)]
  simp only [aA,Cq,aB,aI,dR]
 ·simp [Cq,yL]
theorem OH (w:ByteArray) (p q:lB) (s:ByteArray) (hw:w.size≤10) (d:q.Name.size≤100) (i:s.size≤1200000):(MB w p q s).size≤1300000:=by
 have:=wh (lz s zS&&lz p.Name q.Name) (w++pf++q.Name++rf++s)
 have j:=Ad
 have n:=Al
 unfold MB
 simp only [aD] at this; omega
noncomputable def TJ (a b:mY) (s t:ByteArray):ByteArray :=
 SQ a b (HE a b (MB FU a.kw b.kw s++MB DM a.Client b.Client t++Cq (rD a.Formula b.Formula) (Fa++Pw b.Formula++rf)))
theorem Y3 (a b:mY) (ha:Ht a) (hb:Ht b) (s t:ByteArray) (u:qe a.kw b.kw=some s) (v:qe a.Client b.Client=some t) (f1:wc a.kw b.kw=some s) (f2:wc a.Client b.Client=some t) (i:s.size≤1200000) (j:t.size≤1200000) :
  xA a b=some (TJ a b s t)∧IR a b=some (TJ a b s t):=by
 obtain ⟨t1,t2,t3⟩:=YU b.Formula hb.f
 have Q:FU.size=5:=rfl
 have sc:DM.size=6:=rfl
 have sg:Fa.size=7:=rfl
 have I:=Ad
 have J:=Al
 have R:=OH FU a.kw b.kw s (by omega) hb.no i
 have z2:=OH DM a.Client b.Client t (by omega) hb.nc j
 have z3:=wh (rD a.Formula b.Formula) (Fa++Pw b.Formula++rf)
 simp only [aD] at z3
 have n:∀acc:ByteArray,acc.size≤10000000→_:=λacc h=>Jy acc Fa (Pw b.Formula) (rD a.Formula b.Formula) (by omega)
 refine ⟨?_,?_⟩
 ·unfold xA
  have g1:(⟨#[111,119,110,101,114]⟩:ByteArray)=FU:=rfl
  have g2:(⟨#[99,108,105,101,110,116]⟩:ByteArray)=DM:=rfl
  have g3:(⟨#[103,114,97,110,116,115,32]⟩:ByteArray)=Fa:=rfl
  rw [g1,g2,g3,Us FU _ _ s (by omega) hb.no i u,Us DM _ _ t (by omega) hb.nc j v]
  simp only [aA]
  rw [mA (by omega),aA,Ju _ _ ha.f,aA,t1]
  simp only [aA]
  rw [n _ (by rw [aD]; omega),aA,Ry a ha,Ry b hb,aA,aA,V3 a b ha hb _ (by simp only [aD]; omega)]
  rfl
 ·unfold IR
  have g1:(⟨#[111,119,110,101,114,32]⟩:ByteArray)=FU++pf:=by decide +kernel
  have g2:(⟨#[99,108,105,101,110,116,32]⟩:ByteArray)=DM++pf:=by decide +kernel
  have g3:(⟨#[103,114,97,110,116,115,32]⟩:ByteArray)=Fa:=rfl
  have g4:(⟨#[112,108,97,110,32]⟩:ByteArray)=CV++pf:=by decide +kernel
  have g5:(⟨#[114,111,111,109,115,32]⟩:ByteArray)=yt++pf:=by decide +kernel
  have g6:(⟨#[116,105,109,101,111,117,116,32]⟩:ByteArray)=CA++pf:=by decide +kernel
  have g7:(⟨#[116,114,105,101,115,32]⟩:ByteArray)=Ay++pf:=by decide +kernel
  have g8:(⟨#[98,117,100,103,101,116,32]⟩:ByteArray)=yK++pf:=by decide +kernel
  have L:CV.size=4:=rfl
  have s1:yt.size=5:=rfl
  have s2:CA.size=7:=rfl
  have M:Ay.size=5:=rfl
  have O:yK.size=6:=rfl
  have i0:=qH hb.KU
  have i1:=qH hb.r0
  have i2:=qH hb.r1
  have i3:=qH hb.t
  have i4:=qH hb.y
  have i5:=qH hb.b
  have w:=wh (decide (a.pj=b.pj)) (CV++pf++nk b.pj++rf)
  have x:=wh (decide (a.lP.pJ=b.lP.pJ)&&decide (a.lP.pw=b.lP.pw)) (yt++pf++(nk b.lP.pJ++pf++nk b.lP.pw)++rf)
  have z:=wh (decide (a.mO=b.mO)) (CA++pf++nk b.mO++rf)
  have A:=wh (decide (a.nZ=b.nZ)) (Ay++pf++nk b.nZ++rf)
  have E:=wh (decide (a.ny=b.ny)) (yK++pf++nk b.ny++rf)
  simp only [aD] at w x z A E
  rw [g1,g2,g3,g4,g5,g6,g7,g8,f1,aA,Sc zS FU a.kw b.kw s (by omega) hb.no i (by rw [Ig]; omega),aA,LZ,
   f2,aA,Sc _ DM a.Client b.Client t (by omega) hb.nc j (by omega),aA,Hr _ _ ha.f,aA,t2]
  simp only [aA]
  rw [n _ (by rw [aD]; omega)]
  simp only [aA]
  rw [JK _ (CV++pf) a.pj b.pj hb.KU (by simp only [aD]; omega),aA,
   Wd _ a b hb.r0 hb.r1 (by simp only [aD]; omega),aA,
   JK _ (CA++pf) a.mO b.mO hb.t (by simp only [aD]; omega),aA,
   JK _ (Ay++pf) a.nZ b.nZ hb.y (by simp only [aD]; omega),aA,
   JK _ (yK++pf) a.ny b.ny hb.b (by simp only [aD]; omega),aA]
  have hk:vu (b.Keys.length:Int):=by have:=hb.k; unfold vu; omega
  have G:=qH hk
  have P:(⟨#[107,101,121,115,32]⟩:ByteArray).size=5:=rfl
  have he:((a.Keys.length:Int)==(b.Keys.length:Int))=decide (a.Keys.length=b.Keys.length):=by rw [bK]; simp; omega
  have p:=λacc=>PW b acc a.Keys b.Keys [] (decide (a.Keys.length=b.Keys.length)) rfl (by simp)
  rw [aZ] at p
  have d:(decide (a.Keys.length=b.Keys.length)&&Fi a.Keys b.Keys)=Fi a.Keys b.Keys:=by
   by_cases h:a.Keys.length=b.Keys.length
   ·simp [h]
   ·simp [h,OQ h]
  rw [he,p,d,oH.eq_1,xB hk,aA]
  have:=λacc (h:acc.size≤20000000)=>Jy acc (⟨#[107,101,121,115,32]⟩:ByteArray) (nk b.Keys.length) (Fi a.Keys b.Keys) (by omega)
  rw [this _ (by simp only [aD]; omega)]
  rfl
theorem NS:∀(l:List mr) (q:Option ku),FO q l→(l.map mo).Pairwise (λa b=>wY a b=true)
 | [],_,_=>List.Pairwise.nil
 | x::l,q,h=>by
  rw [aU,bY]
  refine ⟨λr d=>?_,NS l _ h.2⟩
  obtain ⟨a,ha,rfl⟩:=aS.1 d
  exact Kl l x.ku h.2 a ha
theorem Fk.Z6 {p:lB} (h:Fk p) (hp:PB p):DQ p where
 c:=h.BR.2
 a:=⟨NS p.kQ none h.Er.2,λr=>⟨λd=>⟨d,by
  obtain ⟨a,ha,rfl⟩:=aS.1 d
  exact (h.Er.1 a ha).1⟩,λd=>d.1⟩⟩
 g:=λx i=>by have:=hp.rel x i; unfold Gd; omega
 h:=λx i=>by have:=hp.HH x i; unfold Gd; omega
 l:=by have:=h.WM; unfold JC at this; simp only [iP,fM] at this; omega
 m:=by have:=h.WM; unfold JC at this; simp only [iP,fM] at this; omega
structure ZV (p:mY):Prop where
 KU:vu p.pj
 r0:vu p.lP.pJ
 r1:vu p.lP.pw
 t:vu p.mO
 y:vu p.nZ
 b:vu p.ny
theorem O9:∀l:List Key,l.length≤Fp l
 | []=>dT _
 | x::l=>by have:=O9 l; rw [Fp,aG]; omega
theorem WH {p:mY} (hp:PQ p) (d:ZV p) (j:Fk p.kw) (i:Fk p.Client):Ht p where
 o:=j.Z6 hp.o.toPB
 c:=i.Z6 hp.c.toPB
 no:=by have:=oT j.name; omega
 nc:=by have:=oT i.name; omega
 f:=by have:=hp.f; unfold Gd; omega
 KU:=d.KU
 r0:=d.r0
 r1:=d.r1
 t:=d.t
 y:=d.y
 b:=d.b
 k:=by have:=O9 p.Keys; have:=hp.ks; omega
noncomputable def shr (e:Int):Nat→mY→mY
 | 0,p=>p
 | k+1,p=>shr e k (if grP (OB p e k) then OB p e k else p)
theorem LS (n:ByteArray) (l:List kU) (k:List mr) (c:kv):qk ⟨n,l,k⟩ c=match OY l c with | none=>(Kg,42) | some r=>Je r ((zh ⟨n,[],k⟩ c).map (·.ky)):=by
 unfold qk DW OY zh
 simp only
 cases l.find? (λx=>ll x.Signed.kv c) <;> rfl
theorem SJ {v w:ku→Bool} (h:∀r,v r=true→w r=true) (f:Formula) (d:xg v f=true):xg w f=true:=by
 unfold xg at *
 simp only [bn] at *
 exact ⟨d.1,RR h _ d.2⟩
def okU (b:UInt8):Prop:=b.toNat < 128∧b≠10
def EL (s:ByteArray):Prop:=∀b∈s.data.toList,okU b
theorem EL.FH {a b:ByteArray} (ha:EL a) (hb:EL b):EL (a++b):=λx d=>by
 rw [AG] at d
 rcases aO.1 d with h | h
 ·exact ha x h
 ·exact hb x h
theorem F6 {s:ByteArray} (h:po s=true):EL s:=λb hb=>by
 unfold po at h
 simp only [bn] at h
 have:=dP.1 h.2 b hb
 unfold FM DJ at this
 simp only [fw,bn,bH] at this
 refine ⟨by omega,λe=>?_⟩
 subst e
 simp at this
theorem Fg {r:ku} (h:mw r=true):EL (rT r):=by
 unfold mw at h
 rw [bn] at h
 have d:EL zH:=λb hb=>by
  have:b=46:=by simpa [zH] using hb
  subst this; exact ⟨by decide,by decide⟩
 exact ((F6 h.1).FH d).FH (F6 h.2)
theorem Wt {c:kv} (h:mM c=true):EL (cT c):=by
 have d:EL zH:=λb hb=>by
  have:b=46:=by simpa [zH] using hb
  subst this; exact ⟨by decide,by decide⟩
 have a:EL KC:=λb hb=>by
  have:b=32∨b=60∨b=45∨b=32:=by simpa [KC] using hb
  rcases this with rfl | rfl | rfl | rfl <;> exact ⟨by decide,by decide⟩
 have e:EL Eu:=λb hb=>by
  have:b=32∨b=38∨b=32:=by simpa [Eu] using hb
  rcases this with rfl | rfl | rfl <;> exact ⟨by decide,by decide⟩
 unfold cT
 refine ((Fg (Bs h)).FH a).FH ?_
 rcases qh h with ⟨k,i,_⟩ | ⟨k,i,_⟩ | ⟨k,i,j,_⟩ | ⟨k,i,j,_⟩
 ·rw [bD k]; exact F6 i
 ·rw [bG (by omega),bD k]; exact Fg i
 ·rw [bG (by omega),bG (by omega),bD k]; exact ((Fg i).FH d).FH (F6 j)
 ·rw [bG (by omega),bG (by omega),bG (by omega)]; exact ((Fg i).FH e).FH (Fg j)
def IM (s:ByteArray):Nat:=s.data.toList.countP λb=>b==10
def Es (s:ByteArray):Prop:=∀b∈s.data.toList,b.toNat < 128
theorem Ho (a b:ByteArray):IM (a++b)=IM a+IM b:=by unfold IM; rw [AG,List.countP_append]
theorem Es.FH {a b:ByteArray} (ha:Es a) (hb:Es b):Es (a++b):=λx d=>by
 rw [AG] at d
 rcases aO.1 d with h | h
 ·exact ha x h
 ·exact hb x h
theorem EL.asc {s:ByteArray} (h:EL s):Es s:=λb hb=>(h b hb).1
theorem EL.nl {s:ByteArray} (h:EL s):IM s=0:=by
 unfold IM
 rw [List.countP_eq_zero]
 intro b hb
 simpa using (h b hb).2
theorem N8:∀l:List ByteArray,(∀s∈l,Es s∧IM s=1)→Es (Aw l)∧IM (Aw l)=l.length
 | [],_=>⟨λb hb=>by simp [Aw,zS] at hb,rfl⟩
 | s::l,h=>by
  obtain ⟨a,b⟩:=N8 l λx i=>h x (by simp [i])
  obtain ⟨c,d⟩:=h s (by simp)
  rw [Aw,Ho,b,d,aG]
  exact ⟨c.FH a,by omega⟩
theorem VY {s:ByteArray} (h:Es s):ID s=some (nq s):=by
 unfold ID
 rw [bD]
 rw [dP]
 intro x d
 unfold nq at d
 obtain ⟨b,hb,rfl⟩:=aS.1 d
 have:=h b hb
 simp; omega
theorem KJ:∀(l:List Int) (x:Int),0≤x→x+l.length≤1000000000→ry l x=some (x+(l.countP λc=>c==10:Nat))
 | [],x,_,_=>by rw [ry]; simp
 | c::l,x,d,h=>by
  rw [aG] at h
  rw [ry,List.countP_cons]
  cases i:c==10
  ·simp only [aB,aI,aA]
   rw [KJ l x d (by omega)]; simp
  ·simp only [aK,aA]
   rw [mc (by omega) (by omega),KJ l (x+1) (by omega) (by omega)]
   congr 1; omega
theorem VF (s:ByteArray):((nq s).countP λc=>c==10)=IM s:=by
 unfold nq IM
 rw [List.countP_map]
 congr 1
 funext b
 simp only [Function.comp_apply]
 rw [bK,fF,fF]
 constructor
 ·intro h
  have d:b.toNat=10:=by omega
  exact UInt8.toNat_inj.1 d
 ·intro h; subst h; rfl
def Rq (d:List Bool) (i:Nat):Bool:=(d[i]?).getD false
def BM (d:List Bool):List kU→Nat→List kU
 | [],_=>[]
 | x::l,i=>if Rq d i then BM d l (i+1) else x::BM d l (i+1)
theorem DP (d:List Bool):∀(l:List kU) (i:Nat),(BM d l i).Sublist l
 | [],_=>.slnil
 | x::l,i=>by
  rw [BM]
  cases Rq d i
  ·exact (DP d l (i+1)).cons_cons x
  ·exact (DP d l (i+1)).cons x
theorem Ud (d:List Bool) (i:Nat):(if (decide ((i:Int) < (d.length:Int))) then ((lD d (i:Int)).bind λj=>some j) else some false:Option Bool)=some (Rq d i):=by
 unfold Rq
 by_cases h:i < d.length
 ·have h1:((i:Int) < (d.length:Int)):=by omega
  obtain ⟨A,x,B,e,rfl⟩:=U3 d i h
  simp only [h1,bB,aK]
  rw [pI]
  conv=>lhs; rw [e]
  rw [mz A x B _ rfl]
  conv=>rhs; rw [e]
  simp
 ·have h1:¬((i:Int) < (d.length:Int)):=by omega
  simp only [h1,bN,aB,aI]
  rw [fq (by omega)]; rfl
theorem MR (d:List Bool) (p:mY):∀(l:List kU) (i:Nat) (n:Int) (o c:List kU),p.kw.kE.length≤i→0≤n→n+l.length≤1000000→c.length+l.length≤1000000→
  nr d p l i n o c=nr d p [] 0 (n+l.length-(BM d l i).length) o (c++BM d l i)
 | [],i,n,o,c,_,_,_,_=>by
  rw [BM,aT,aZ,nr.eq_1,nr.eq_1]
  simp
 | x::l,i,n,o,c,v,j,h1,u=>by
  rw [aG] at h1 u
  have ks:=(DP d l (i+1)).length_le
  rw [nr.eq_2,Ud,aA,BM]
  cases Rq d i
  ·have e:¬((i:Int) < (p.kw.kE.length:Int)):=by omega
   simp only [aB,aI,e,bN]
   rw [ns (by simp; omega) (by simp; omega),aA,MR d p l (i+1) n o _ (by omega) j (by omega) (by simp; omega)]
   rw [aG,aG,aM,dM]
   congr 1; omega
  ·simp only [aK]
   rw [mc (by omega) (by omega),MR d p l (i+1) (n+1) o c (by omega) (by omega) (by omega) (by omega),aG]
   congr 1; omega
theorem M0 (d:List Bool) (p:mY) (C:List kU) (u:C.length≤1000):∀(l:List kU) (i:Nat) (n:Int) (o:List kU),i+l.length=p.kw.kE.length→i+l.length≤1000→0≤n→n≤i→o.length≤i→
  nr d p (l++C) i n o []=nr d p C p.kw.kE.length (n+l.length-(BM d l i).length) (o++BM d l i) []
 | [],i,n,o,j,_,_,_,_=>by
  rw [aZ,fD] at j
  rw [BM,aT,aW,j]; simp
 | x::l,i,n,o,j,v,h1,w,z=>by
  rw [aG] at j v
  have ks:=(DP d l (i+1)).length_le
  rw [bM,nr.eq_2,Ud,aA,BM]
  cases Rq d i
  ·have e:((i:Int) < (p.kw.kE.length:Int)):=by omega
   simp only [aB,aI,e,bB,aK]
   rw [ns (by simp; omega) (by simp; omega),aA,M0 d p C u l (i+1) n _ (by omega) (by omega) h1 (by omega) (by simp; omega)]
   rw [aG,aG,aM,dM]
   congr 1; omega
  ·simp only [aK]
   rw [mc (by omega) (by omega),M0 d p C u l (i+1) (n+1) o (by omega) (by omega) (by omega) (by omega) (by omega),aG]
   congr 1; omega
theorem Qg {α:Type} (f:α→Bool):∀l:List α,(l.filter λx=>!f x).length+(l.filter λx=>f x).length=l.length
 | []=>rfl
 | x::l=>by
  have:=Qg f l
  rw [cZ,cZ,aG]
  cases f x <;> simp <;> omega
theorem Xz {l:List kv} (h:rJ l l):l.Nodup:=h.1.imp_of_mem λ{x y} j n d i=>by subst i; exact zL.irrefl x ((h.2 x).1 j).2 d
theorem Lt {a b:List kU} (i:b.Sublist a) (h:rJ (a.map lF) (a.map lF)):rJ (b.map lF) (b.map lF) :=
 ⟨h.1.sublist (i.map lF),λc=>⟨λd=>⟨d,((h.2 c).1 ((i.map lF).subset d)).2⟩,λd=>d.1⟩⟩
theorem DQ.sub {p:lB} (h:DQ p) {l:List kU} (d:l.Sublist p.kE):DQ ⟨p.Name,l,p.kQ⟩ where
 c:=Lt d h.c
 a:=h.a
 g:=λx i=>h.g x (d.subset i)
 h:=h.h
 l:=by have:=d.length_le; have:=h.l; simp only; omega
 m:=h.m
theorem LC {l:List kU} (h:rJ (l.map lF) (l.map lF)) {x:kU} (d:x∈l):wD lF ll l (lF x)=some x:=by
 rcases sV lF ll (lF x) l 0 with ⟨h1,_⟩ | ⟨A,y,B,j,h1,i,_⟩
 ·exact absurd (aS.2 ⟨x,d,rfl⟩) ((yZ (hb:=λx y=>om) lF ll).1 h1)
 ·have n:y∈l:=by rw [j]; simp
  rw [h1,D8 (Xz h) n d (om.1 i)]
theorem SN (x:kU):tz x x=true:=by unfold tz; rw [qV,dZ]; exact AM.2 rfl
theorem Ss (x:mr):tw x x=true:=by
 unfold tw
 obtain ⟨b,e,h⟩:=Hh x.lT x.lT
 rw [e,AM.2 rfl,h.2 rfl]; rfl
theorem Ns {a b:List kU} (i:b.Sublist a) (h:rJ (a.map lF) (a.map lF)) {k:kv} (hk:k∈a.map lF):wC a b k=if rk ll (b.map lF) k then zS else zg:=by
 obtain ⟨x,j,rfl⟩:=aS.1 hk
 unfold wC yJ
 rw [LC h j]
 by_cases d:lF x∈b.map lF
 ·obtain ⟨y,n,e⟩:=aS.1 d
  have:=D8 (Xz h) (i.subset n) j e
  subst this
  rw [LC (Lt i h) n,(wg om _ _).2 d,bD rfl]
  simp only [SN,aK]
 ·rw [(yZ (hb:=λx y=>om) lF ll).2 d,bG (λq=>d ((wg om _ _).1 q))]
theorem NJ (a:List mr) {R:List ku} (h:∀k∈R,k∈a.map mo):Bv a a R=zS:=by
 unfold Bv
 have:(R.filter λk=>!lz (xr a a k) zS)=[]:=by
  rw [fY]
  intro k hk
  have d:wD mo kR a k≠none:=λq=>(yZ (hb:=λx y=>lj) mo kR).1 q (h k hk)
  have:xr a a k=zS:=by
   unfold xr yJ
   cases i:wD mo kR a k with
   | none=>exact absurd i d
   | some x=>simp only [Ss,aK]
  rw [this,qV]; simp
 rw [this]; rfl
theorem MH (p:lB) (hp:DQ p) {l:List kU} (i:l.Sublist p.kE):∃s,qe p ⟨p.Name,l,p.kQ⟩=some s∧s.size≤1200000∧Es s∧IM s=p.kE.length-l.length:=by
 obtain ⟨S,R,J,I,e,_,z⟩:=O7 p ⟨p.Name,l,p.kQ⟩ hp (hp.sub i)
 refine ⟨_,e,z,?_⟩
 have G:Bv p.kQ p.kQ R=zS:=NJ p.kQ (λk hk=>by
  rcases aO.1 ((I.2 k).1 hk).1 with h | h <;> exact h)
 have n:rJ (p.kE.map lF++l.map lF) (p.kE.map lF):=⟨hp.c.1,λc=>⟨λu=>⟨cQ _ u,((hp.c.2 c).1 u).2⟩,λu=>by
  rcases aO.1 u.1 with h | h
  ·exact h
  ·exact (i.map lF).subset h⟩⟩
 obtain rfl:S=p.kE.map lF:=wz.unique zL J n
 simp only
 rw [G,yL]
 unfold Ap
 have L:((p.kE.map lF).filter λk=>!lz (wC p.kE l k) zS)=(p.kE.map lF).filter λk=>!rk ll (l.map lF) k:=by
  refine List.filter_congr λk hk=>?_
  rw [Ns i hp.c hk]
  have m0:lz zg zS=false:=by decide +kernel
  cases rk ll (l.map lF) k
  ·simp [m0]
  ·simp [qV]
 rw [L]
 have d:((p.kE.map lF).filter λk=>rk ll (l.map lF) k)=l.map lF:=by
  refine wz.unique (l:=l.map lF) zL ⟨hp.c.1.filter _,λc=>?_⟩ (Lt i hp.c)
  rw [bU,wg om]
  exact ⟨λh=>⟨h.2,((hp.c.2 c).1 h.1).2⟩,λh=>⟨(i.map lF).subset h.1,h.1⟩⟩
 have hlen:((p.kE.map lF).filter λk=>!rk ll (l.map lF) k).length=p.kE.length-l.length:=by
  have h1:=Qg (rk ll (l.map lF)) (p.kE.map lF)
  have E:=bA List.length d
  rw [bT] at h1 E
  omega
 obtain ⟨x,a2⟩:=N8 (((p.kE.map lF).filter λk=>!rk ll (l.map lF) k).map λk=>wC p.kE l k++pf++Bi k++rf) (λs w=>by
  obtain ⟨k,hk,rfl⟩:=aS.1 w
  obtain ⟨j,v⟩:=bU.1 hk
  have M:rk ll (l.map lF) k=false:=by simpa using v
  rw [Ns i hp.c j,M,bG (by simp)]
  have t:EL (Bi k):=Wt ((hp.c.2 k).1 j).2
  have c1:Es zg:=λb hb=>by
   have:b=45:=by simpa [zg] using hb
   subst this; decide
  have c2:Es pf:=λb hb=>by
   have:b=32:=by simpa [pf] using hb
   subst this; decide
  have A:Es rf:=λb hb=>by
   have:b=10:=by simpa [rf] using hb
   subst this; decide
  refine ⟨((c1.FH c2).FH t.asc).FH A,?_⟩
  rw [Ho,Ho,Ho,t.nl]
  rfl)
 rw [bT] at a2
 exact ⟨x,a2.trans hlen⟩
theorem LP (p:lB) (hp:DQ p):qe p p=some zS∧wc p p=some zS:=by
 obtain ⟨S,R,u,n,e,d,z⟩:=O7 p p hp hp
 have i:Bv p.kQ p.kQ R=zS:=NJ p.kQ (λk hk=>by
  rcases aO.1 ((n.2 k).1 hk).1 with h | h <;> exact h)
 have j:Ap p.kE p.kE S=zS:=by
  unfold Ap
  have:(S.filter λk=>!lz (wC p.kE p.kE k) zS)=[]:=by
   rw [fY]
   intro k hk
   have hm:k∈p.kE.map lF:=by rcases aO.1 ((u.2 k).1 hk).1 with h | h <;> exact h
   rw [Ns (List.Sublist.refl _) hp.c hm,(wg om _ _).2 hm,bD rfl,qV]; simp
  rw [this]; rfl
 rw [j,i,yL] at e d
 exact ⟨e,d⟩
theorem Rz:∀l:List Key,Fi l l=true
 | []=>rfl
 | x::l=>by rw [Fi,Rz l,Bool.and_true]; unfold RT; rw [qV,qV]; rfl
theorem UT (p:mY) (h:Ht p):xA p p=some zS:=by
 obtain ⟨d,a2⟩:=LP p.kw h.o
 obtain ⟨i,j⟩:=LP p.Client h.c
 rw [(Y3 p p h h zS zS d i a2 j (by rw [Ig]; omega) (by rw [Ig]; omega)).1]
 have e:rD p.Formula p.Formula=true:=AM.2 rfl
 have n:∀s:ByteArray,Cq true s=zS:=λ_=>rfl
 unfold TJ SQ HE MB
 simp only [e,qV,gS,bB,Rz,n,yL]
theorem PB.sub {p:lB} (h:PB p) {l:List kU} (d:l.Sublist p.kE):PB ⟨p.Name,l,p.kQ⟩ where
 BR:=dx d.length_le h.BR
 Er:=h.Er
 rel:=λx i=>h.rel x (d.subset i)
 HH:=h.HH
 Q9:=h.Q9
theorem Rt (l:List kU) (d:kv):OY l d=(wD lF ll l d).map (·.ky):=rfl
theorem Pm {p:lB} {l:List kU} (d:l.Sublist p.kE) (h:rJ (p.kE.map lF) (p.kE.map lF)) {L:List kv} {peer:ByteArray} {c:kv} (z:wj ⟨p.Name,l,p.kQ⟩ L peer c):wj p L peer c:=by
 obtain ⟨h1,w,v⟩:=z
 have hm:=(UK _ _ _ _).1 h1
 obtain ⟨x,i,rfl⟩:=aS.1 hm
 refine ⟨⟨x,d.subset i,rfl⟩,w,?_⟩
 have A:qk p x.Signed.kv=qk ⟨p.Name,l,p.kQ⟩ x.Signed.kv:=by
  have j:=LS p.Name p.kE p.kQ x.Signed.kv
  have u:=LS p.Name l p.kQ x.Signed.kv
  have E:OY p.kE x.Signed.kv=some x.ky:=by rw [Rt,show x.Signed.kv=lF x from rfl,LC h (d.subset i)]; rfl
  have G:OY l x.Signed.kv=some x.ky:=by rw [Rt,show x.Signed.kv=lF x from rfl,LC (Lt d h) i]; rfl
  have I:∀m n:ByteArray,zh ⟨m,[],p.kQ⟩ x.Signed.kv=zh ⟨n,[],p.kQ⟩ x.Signed.kv:=λ_ _=>rfl
  rw [E] at j
  rw [G] at u
  exact j.trans u.symm
 unfold TR at v ⊢
 rw [A]; exact v
theorem Xf (p:mY) (h:PL p):∃x y,Rs p.kw p.Client x y∧Jx p x y (xg (vD y p.Client.Name) p.Formula):=by
 obtain ⟨x,y,j,e,F,g1,g2⟩:=Q7 p.kw p.Client p.Formula h.o h.c h.lo h.lc h.f
 refine ⟨x,y,F,F.sx,F.sy,?_,⟨j,by rw [M3 _ _ h.o h.c h.lo h.lc,e]⟩,g2⟩
 unfold uE
 rw [e,aA,g1,aA]
def Gu (p:mY) (a b:List kU):mY:=⟨⟨p.kw.Name,a,p.kw.kQ⟩,⟨p.Client.Name,b,p.Client.kQ⟩,p.Formula,p.pj,p.lP,p.mO,p.nZ,p.ny,p.Keys⟩
theorem Te (p:mY) (h:PL p) (A:rJ (p.kw.kE.map lF) (p.kw.kE.map lF)) (sc:rJ (p.Client.kE.map lF) (p.Client.kE.map lF)) {a b:List kU} (ha:a.Sublist p.kw.kE) (hb:b.Sublist p.Client.kE) :
  qU p (Gu p a b)=some true:=by
 have n:PL (Gu p a b):=⟨h.o.sub ha,h.c.sub hb,dx ha.length_le h.lo,dx hb.length_le h.lc,h.f⟩
 obtain ⟨x,y,F,s1⟩:=Xf p h
 obtain ⟨u,v,G,s2⟩:=Xf (Gu p a b) n
 rw [(Pq s1 s2).1]
 obtain ⟨z,i⟩:=G.least x y (λc d=>(F.fx c).2 (Pm ha A d)) (λc d=>(F.fy c).2 (Pm hb sc d))
 unfold J5
 have i1:zm u x=true:=GY.2 z
 have i2:zm v y=true:=GY.2 i
 have i3:(xg (vD y p.Client.Name) p.Formula||!xg (vD v (Gu p a b).Client.Name) (Gu p a b).Formula)=true:=by
  cases j:xg (vD v (Gu p a b).Client.Name) (Gu p a b).Formula
  ·simp
  ·have:xg (vD y p.Client.Name) p.Formula=true:=SJ (λr w=>Q1 i _ r w) p.Formula j
   rw [this]; rfl
 rw [i1,i2,i3]; rfl
theorem XK (a:mY) (ha:PQ a):∃r,BE [a]=some r∧(r=true→Fk a.kw∧Fk a.Client):=by
 obtain ⟨j,g1,h1⟩:=N2 a.kw ha.o.toPB
 obtain ⟨n,g2,p⟩:=N2 a.Client ha.c.toPB
 unfold BE
 rw [wX,g1,aA,g2,aA,wX]
 simp only [UC,aA]
 rw [←h1,←p]
 by_cases d:j=0
 ·by_cases i:n=0
  ·exact ⟨true,by simp [d,i],λ_=>⟨d,i⟩⟩
  ·exact ⟨false,by simp [d,i],λh=>by cases h⟩
 ·exact ⟨false,by simp [d],λh=>by cases h⟩
theorem Kx (M:BH=some true) (p:mY) (d:List Bool) (hp:PQ p) (w:ZV p):xm p d=some true:=by
 obtain ⟨r1,I,_,_⟩:=aaL p hp
 obtain ⟨G,J,L⟩:=XK p hp
 unfold xm
 rw [M,aA,I,J]
 simp only [cI,aB,aI,aA]
 rw [UC]
 simp only [aA]
 cases n:(decide (r1 > 6000)||!G)
 ·rw [iP] at n
  have Q:G=true:=by simpa using n.2
  obtain ⟨R,U⟩:=L Q
  have T:=WH hp w R U
  have lo:=T.o.l
  have lc:=T.c.l
  have v:=DP d p.kw.kE 0
  have hk:=DP d p.Client.kE p.kw.kE.length
  have P:=v.length_le
  have O:=hk.length_le
  simp only [aB,aI]
  rw [ns (by simp; omega) (by simp; omega),aA,aW,ns (by omega) (by omega),aA,
   M0 d p p.Client.kE (by omega) p.kw.kE 0 0 [] (by omega) (by omega) (by omega) (by omega) (by simp),
   MR d p p.Client.kE p.kw.kE.length _ _ [] (aR _) (by omega) (by omega) (by simp; omega),aW,aW]
  obtain ⟨s,s1,s2,W,Y⟩:=MH p.kw T.o v
  obtain ⟨t,t1,t2,t3,t4⟩:=MH p.Client T.c hk
  rw [nr.eq_1,s1,t1]
  simp only [aA]
  rw [mA (by omega)]
  simp only [aA]
  rw [VY (W.FH t3)]
  simp only [aA]
  rw [KJ _ 0 (by omega) (by rw [ot,aD]; omega),VF,Ho,Y,t4]
  simp only [aA]
  have j:PL p:=PL.of p hp (by omega) (by omega)
  obtain ⟨x,y,g,u⟩:=aax p j
  have i:∀l:List kv,zm l l=true:=λl=>GY.2 λc n=>n
  have Z:J5 x y x y g g=true:=by unfold J5; rw [i,i]; cases g <;> rfl
  have z:=VM u u
  have A:=(Pq u u).1
  rw [Z] at z A
  have E:=Te p j T.o.c T.c.c v hk
  unfold Gu at E
  rw [UT p T,z,A,E]
  simp only [aA,qV,aK,gS,cI,cR]
  congr 1
  rw [fF]
  omega
 ·simp
theorem Yv:BH=some true:=by decide +kernel
end Go.Proofs.YtjjjihkifgdhgaaGreatDoor
namespace Go.Proofs.YtjjjihkifgdhgaaGreatDoor.Lf
open Go.ChangeShapes Go.WideShapes Go.ChangeAt Go.RowKit
open Go.Proofs.YtjjjihkifgdhgaaGreatDoor (Rows.uptoBulk Rows.uptoBulkAll Rows.uptoSmall)
theorem Ve {H:Type} (d:DataW H):1≤Rows.uptoBulk d:=by
 cases d with
 | lit l=>cases l <;> simp [Rows.uptoBulk]
 | nil=>simp [Rows.uptoBulk]
 | ptr d=>simp [Rows.uptoBulk]
 | slice i spare=>simp [Rows.uptoBulk]
 | agg parts=>simp [Rows.uptoBulk]
 | iface t d=>simp [Rows.uptoBulk]
 | map entries=>simp [Rows.uptoBulk]
 | held h=>simp [Rows.uptoBulk]
theorem length_le {H:Type} (l:List (DataW H)):l.length≤Rows.uptoBulkAll l:=by
 induction l with
 | nil=>simp [Rows.uptoBulkAll]
 | cons x r ih=>have:=Ve x; simp only [Rows.uptoBulkAll,aG]; omega
def Km {α:Type} (P:Program) (t:TypeId) (enc:α→List Value) (sz:α→Nat):Prop :=
 ∀(H:Type) (d:TypeId×Value→H) (W:World) (base:Nat) (sp:Nat→Bool) (i:Bool) (fuel:Nat) (cs:List Value) (x:DataW H×List MemPlace),
  DataW.trod d P W base sp i fuel t cs=some x→∃a:α,cs=enc a∧sz a≤Rows.uptoBulk x.1
theorem SD {P:Program} {t:TypeId} (d:P.underlying t=some .string):Km P t (λs:ByteArray=>[.string s]) (λs=>s.size):=by
 intro H i W base sp j fuel cs x h
 obtain ⟨s,rfl,rfl,_⟩:=DataW.trod_string d h
 refine ⟨s,rfl,?_⟩
 have e:s.data.toList.length=s.size:=by rw [dF]; rfl
 simp [Rows.uptoBulk,e]
theorem Yi {P:Program} {t:TypeId} {k:IntKind} (d:P.underlying t=some (.int k)):Km P t (λn:Int=>[.int k n]) (λ_=>0):=by
 intro H i W base sp j fuel cs x h
 obtain ⟨n,rfl,rfl,_⟩:=DataW.trod_int d h
 exact ⟨n,rfl,dT _⟩
theorem Yx {α:Type} {n:Nat} {p:Nat→α→Prop} (h:∀i,i < n→∃x,p i x):∃l:List α,l.length=n∧∀i x,l[i]? =some x→p i x:=by
 induction n with
 | zero=>exact ⟨[],rfl,by simp⟩
 | succ n ih=>
  obtain ⟨l,h1,u⟩:=ih λi j=>h i (by omega)
  obtain ⟨x,w⟩:=h n (by omega)
  refine ⟨l++[x],by simp [h1],λi y d=>?_⟩
  by_cases j:i < l.length
  ·rw [ft j] at d
   exact u i y d
  ·rw [eE (by omega)] at d
   have:i-l.length=0:=by
    cases v:i-l.length with
    | zero=>rfl
    | succ m=>rw [v] at d; simp at d
   rw [this] at d
   have e:i=n:=by omega
   simp at d
   subst d; rw [e]; exact w
theorem PA {W:World} {a:Addr} {v:Value} (h:W.cell? a=some v):∃cs T fr,W.heap[a.block]? =some (.cells cs T fr)∧a.spot=none∧cs[a.off]? =some v:=by
 unfold World.cell? at h
 split at h
 ·rename_i c T fr hb
  by_cases d:a.spot.isSome
  ·simp [d] at h
  ·simp only [d] at h
   exact ⟨c,T,fr,hb,by simpa using d,by simpa using h⟩
 ·cases h
theorem Ex.below {dd:Bool} {W W':World} (h:Ex dd W W'):Below W.heap.size W W':=⟨h.os,h.tape,h.output,h.size,h.nL⟩
theorem Ic {H:Type} {z:TypeId×Value→H} {P:Program} (E:laidOutB P=true) {W W':World} {j:Nat→Bool} :
  ∀{n:List TypeId} {vs:List Value} {ds:List (DataW H)} {ps:List MemPlace},(∀t∈n,P.readableRec t=true∧t < P.types.size)→
   DataW.TrodAll z P W 0 (λ_=>true) true n vs ds ps→(∀p∈ps,W.sameAt W' p)→(∀p∈ps,j p.block=true)→DataW.TrodAll z P W' 0 j true n vs ds ps
 | [],_,_,_,_,h,_,_=>by
  obtain ⟨rfl,rfl,rfl⟩:=trodAll_nil h
  exact trodAll_mk0
 | t::n,_,_,_,w,h,h1,A=>by
  obtain ⟨v,vs,d,ds,p,q,rfl,rfl,rfl,G,I⟩:=trodAll_cons h
  exact trodAll_cons_mk (WideElems.Trod_stays E (w t (by simp)).1 (w t (by simp)).2 G (λx i=>h1 x (by simp [i])) (λx i=>A x (by simp [i])))
   (Ic E (λu hu=>w u (by simp [hu])) I (λx i=>h1 x (by simp [i])) (λx i=>A x (by simp [i])))
theorem Sx {H:Type} {enc:TypeId×Value→H} {P:Program} (Y:laidOutB P=true) {f:Func} {s:ChangeSpec} {apart fresh handsOn again:Bool} {W W':World} {args:Array Value} {v:Value} {ds gs:List (DataW H)} {before:List MemPlace} (hr:∀t∈f.params.toList,P.readableRec t=true∧t < P.types.size) (G:s.vars=[]) (J:DataW.Whole enc P f.params.toList s.vars apart W args.toList ds gs before) {dd:Bool} (Q:Ex dd W W') (d:∀(b:Nat) (sp:Nat→Bool) (U:Bool),DataW.TrodAll enc P W' b sp U f.resultTypes.toList (v.resultList f.resultTypes.size) (s.fn H (ds++gs)).results []) (i:(s.fn H (ds++gs)).args=ds) (u:(s.fn H (ds++gs)).vars=[]) (M:∀(j:Nat) (t:TypeId) (r:Value),f.resultTypes[j]? =some t→(v.resultList f.resultTypes.size)[j]? =some r→Value.okWide P W' .any 0 t r) :
  s.post enc P f apart fresh handsOn again W args v W':=by
 have n:=J.lt
 have hold:∀p∈before,(λb=>decide (b < W.heap.size)) p.block=true:=λp hp=>by simpa using n p hp
 have hb:=Ex.below Q
 have L:=J
 obtain ⟨p,q,T,R,A,hz,Z⟩:=J
 rw [G] at R
 obtain ⟨rfl,rfl⟩:=trodVars_none R
 rw [aT] at A
 subst A
 have E:∀sp:Nat→Bool,(∀p∈before,sp p.block=true)→DataW.TrodAll enc P W' 0 sp true f.params.toList args.toList (s.fn H (ds++[])).args before:=λsp O=>by
  rw [i]
  exact Ic Y hr T (λx Q=>hb.same (n x Q)) O
 have I:∀sp:Nat→Bool,DataW.TrodVars enc P W' sp s.vars (s.fn H (ds++[])).vars []:=λsp=>by
  rw [u,G]; rfl
 refine ⟨ds,[],before,[],before,[],L,d _ _ _,E _ hold,I _,World.keptBut_mono (λp hp=>⟨hp,?_⟩) (hb.frame (·∈before)),λ_=>?_⟩
 ·exact Or.inr (Or.inl hp)
 ·refine ⟨M,_,_,([]++before)++[],⟨[]++before,[],trodAll_append (E _ (λ_ _=>rfl)) (d _ _ _),I _,rfl,?_,?_⟩,?_⟩
  ·intro b off hp
   have z:MemPlace.cell b off∈before:=by simpa using hp
   rw [World.frozen?_of_block (w:=W) (hb.block b (n _ z))]
   exact hz b off z
  ·intro ha
   simpa using Z ha
  ·intro p hp _
   simpa using hp
end Go.Proofs.YtjjjihkifgdhgaaGreatDoor.Lf
namespace Go.Proofs.YtjjjihkifgdhgaaGreatDoor.Lf
open Go.ChangeShapes Go.WideShapes Go.ChangeAt Go.RowKit
open Go.Proofs.YtjjjihkifgdhgaaGreatDoor (Rows.uptoBulk Rows.uptoBulkAll Rows.uptoSmall)
def FW {α:Type} (P:Program) (t:TypeId) (R:tu α) (sz:α→Nat):Prop :=
 ∀(H:Type) (d:TypeId×Value→H) (W:World) (base:Nat) (sp:Nat→Bool) (i:Bool) (fuel:Nat) (cs:List Value) (x:DataW H×List MemPlace),
  DataW.trod d P W base sp i fuel t cs=some x→∃a:α,R (hp W) cs a∧sz a≤Rows.uptoBulk x.1
theorem Km.rel {α:Type} {P:Program} {t:TypeId} {enc:α→List Value} {sz:α→Nat} (h:Km P t enc sz):FW P t (Pl enc) sz:=λH d W base sp i fuel cs x j=>h H d W base sp i fuel cs x j
end Go.Proofs.YtjjjihkifgdhgaaGreatDoor.Lf
namespace Go.Proofs.YtjjjihkifgdhgaaGreatDoor.Lf
open Go.ChangeShapes Go.WideShapes Go.ChangeAt Go.RowKit
open Go.Proofs.YtjjjihkifgdhgaaGreatDoor (Rows.uptoBulk Rows.uptoBulkAll Rows.uptoSmall)
theorem Kp {H:Type}:∀l:List (DataW H),Rows.uptoBulkAll l=(l.map Rows.uptoBulk).sum
 | []=>by simp [Rows.uptoBulkAll]
 | d::l=>by simp [Rows.uptoBulkAll,Kp l]
theorem Uo {α:Type} (g:α→Nat):∀(n:Nat) (f:Nat→Nat) {l:List α},l.length=n→(∀i x,l[i]? =some x→g x≤f i)→(l.map g).sum≤((List.range n).map f).sum
 | 0,f,l,d,h=>by
  obtain rfl:=ez.1 d
  simp
 | n+1,f,[],d,h=>by cases d
 | n+1,f,a::l,d,h=>by
  rw [List.range_succ_eq_map,aU,aU,fH,fH,ef]
  have h1:=h 0 a rfl
  have p:=Uo g n (f∘Nat.succ) (l:=l) (by simpa using d) (λi x j=>h (i+1) x (by simpa using j))
  omega
def vj {α:Type} (sz:α→Nat) (l:List α):Nat:=(l.map λa=>max 1 (sz a)).sum
theorem He {α:Type} (sz:α→Nat):∀l:List α,l.length≤vj sz l
 | []=>aR _
 | a::l=>by have:=He sz l; simp only [vj,aU,fH,aG] at this ⊢; omega
theorem ME {α:Type} {sz:α→Nat}:∀{l:List α} {a:α},a∈l→sz a≤vj sz l
 | b::l,a,h=>by
  simp only [vj,aU,fH]
  rcases aP.1 h with rfl | h
  ·omega
  ·have:=ME (sz:=sz) h; simp only [vj] at this; omega
theorem J0 {α:Type} {P:Program} {t e:TypeId} {k:Nat} {R:tu α} {sz:α→Nat} (hk:P.cellsOf e=k) (a1:0 < k) (ht:P.underlying t=some (.slice e)) {H:Type} {eh:TypeId×Value→H} {W:World} {base:Nat} {sp:Nat→Bool} {held:Bool} {fuel:Nat} {cs:List Value} {x:DataW H×List MemPlace} (hd:∀(fuel:Nat) (cs:List Value) (y:DataW H×List MemPlace),DataW.trod eh P W base sp held fuel e cs=some y→SizeOf.sizeOf y.1 < SizeOf.sizeOf x.1→∃a:α,R (hp W) cs a∧sz a≤Rows.uptoBulk y.1) (hf:DataW.trod eh P W base sp held fuel t cs=some x) :
  ∃v l,cs=[v]∧Sl R k (hp W) v l∧vj sz l≤Rows.uptoBulk x.1:=by
 rcases Go.Deep.open_slice ht hf with ⟨rfl,rfl⟩ | ⟨a,ln,cp,m,n,D,Q,rfl,hb,hl,hm,a7,rfl,Y⟩
 ·exact ⟨_,[],rfl,⟨none,0,rfl,aR _,dT _,λh=>absurd h (Nat.lt_irrefl _)⟩,dT _⟩
 ·have ag:ln≤m:=by rw [a7]; split <;> omega
  have hB:((List.range ln).map λi=>Rows.uptoBulk (D i)).sum≤Rows.uptoBulk (DataW.slice ((List.range ln).map D) ((List.range (m-ln)).map λj=>D (ln+j))):=by
   simp only [Rows.uptoBulk]
   rw [Kp,ef]
   have e:((List.range ln).map λi=>Rows.uptoBulk (D i))=(List.range ln).map (Rows.uptoBulk∘D):=rfl
   rw [e]
   omega
  have hS:∀i,i < ln→SizeOf.sizeOf (D i) < SizeOf.sizeOf (DataW.slice ((List.range ln).map D) ((List.range (m-ln)).map λj=>D (ln+j))):=λi Z=>by
   have:=List.sizeOf_lt_of_mem (aS.2 ⟨i,List.mem_range.2 Z,rfl⟩:D i∈(List.range ln).map D)
   rw [DataW.slice.sizeOf_spec]; omega
  simp only at hd ⊢
  generalize Rows.uptoBulk (DataW.slice ((List.range ln).map D) ((List.range (m-ln)).map λj=>D (ln+j)))=B at hB
  obtain ⟨l,a6,E⟩:=Yx (α:=α) (n:=ln) (p:=λi x=>∃d,W.cells? base (a.add (i*k)) k=some d∧R (hp W) d x∧sz x≤Rows.uptoBulk (D i)) λi Z=>by
   obtain ⟨d,h1,L⟩:=Y i (by omega)
   obtain ⟨x,hR,M⟩:=hd _ _ _ L (hS i Z)
   rw [hk] at h1
   exact ⟨x,d,h1,hR,M⟩
  subst a6
  refine ⟨_,l,rfl,⟨some a,cp,rfl,hl,hm,λh0=>?_⟩,?_⟩
  ·have u:∀i x,l[i]? =some x→∃d,R (hp W) d x∧d.length=k∧∀j,j < k→W.cell? ((a.add (i*k)).add j)=d[j]?:=λi x G=>
    let ⟨d,h1,L,_⟩:=E i x G
    let ⟨_,M,h4⟩:=World.cells?_some h1
    ⟨d,L,M,h4⟩
   obtain ⟨ad,_,h4,h5⟩:=u 0 l[0] (by simp [h0])
   have O:=h5 0 a1
   rw [Nat.zero_mul,dy (by omega)] at O
   have e0:(a.add 0).add 0=a:=rfl
   rw [e0] at O
   obtain ⟨cs,T,fr,U,h8,_⟩:=PA O
   obtain ⟨I,J,aa⟩:=a
   simp only at U h8
   subst h8
   refine ⟨I,J,cs,T,fr,rfl,U,λi x G=>?_⟩
   obtain ⟨d,gR,g1,g2⟩:=u i x G
   refine ⟨d,g1,gR,λj y hy=>?_⟩
   have hj:j < k:=by
    rw [←g1]
    exact (bQ.1 hy).1
   have h9:=g2 j hj
   rw [Go.Deep.add_add,hy] at h9
   obtain ⟨a8,T',ae,w,af,z⟩:=PA h9
   have A:(Addr.add ⟨I,J,none⟩ (i*k+j)).block=I∧(Addr.add ⟨I,J,none⟩ (i*k+j)).off=J+(i*k+j):=by
    unfold Addr.add
    split
    ·rename_i hz
     rw [hz]; exact ⟨rfl,rfl⟩
    ·exact ⟨rfl,rfl⟩
   rw [A.1,U] at w
   cases w
   rw [A.2,←ew] at z
   exact z
  ·refine dx (Uo _ _ _ rfl λi x G=>?_) hB
   exact Nat.max_le.2 ⟨Ve _,(E i x G).elim λ_ h=>h.2.2⟩
theorem vl {α:Type} {P:Program} {t e:TypeId} {k:Nat} {R:tu α} {sz:α→Nat} (hk:P.cellsOf e=k) (d:0 < k) (j:FW P e R sz) (p:P.underlying t=some (.slice e)) {H:Type} {i:TypeId×Value→H} {W:World} {base:Nat} {sp:Nat→Bool} {held:Bool} {fuel:Nat} {cs:List Value} {x:DataW H×List MemPlace} (n:DataW.trod i P W base sp held fuel t cs=some x) :
  ∃v l,cs=[v]∧Sl R k (hp W) v l∧vj sz l≤Rows.uptoBulk x.1:=J0 hk d p (λ_ _ _ h _=>j _ _ _ _ _ _ _ _ _ h) n
theorem QT {α H:Type} {x:TypeId×Value→H} {P:Program} {t e:TypeId} {k:Nat} {enc:α→List Value} {sz:α→Nat} (hk:P.cellsOf e=k) (j:0 < k) (I:Km P e enc sz) (p:P.underlying t=some (.slice e)) {W:World} {base w:Nat} {r:Reach} {sp:Nat→Bool} {held:Bool} {v:Value} {d:DataW H} {ps:List MemPlace} (i:Value.okWide P W r w t v) (h:DataW.Trod x P W base sp held t v d ps) :
  ∃l:List α,Sl (Pl enc) k (hp W) v l∧vj sz l≤Rows.uptoBulk d:=by
 obtain ⟨A,ln,n,rfl⟩:=okWide_slice p i
 obtain ⟨fuel,J⟩:=h
 obtain ⟨u,l,h1,z,E⟩:=vl hk j I.rel p J
 have G:(Value.slice A ln n).cells.toList=[Value.slice A ln n]:=rfl
 rw [G] at h1
 cases h1
 exact ⟨l,z,E⟩
end Go.Proofs.YtjjjihkifgdhgaaGreatDoor.Lf
namespace Go.Proofs.YtjjjihkifgdhgaaGreatDoor.Lf
open Go.ChangeShapes Go.WideShapes Go.ChangeAt Go.RowKit
open Go.Proofs.YtjjjihkifgdhgaaGreatDoor (Rows.uptoBulk Rows.uptoBulkAll Rows.uptoSmall)
def Ms {α:Type} (R:tu α) (Q:α→Prop):tu α:=λμ ys x=>R μ ys x∧Q x
theorem Sl.all {α:Type} {R:tu α} {Q:α→Prop} {k:Nat} {μ:lE} {v:Value} {l:List α} (h:Sl (Ms R Q) k μ v l):Sl R k μ v l∧∀x∈l,Q x:=by
 obtain ⟨A,c,rfl,h1,n,z⟩:=h
 cases l with
 | nil=>exact ⟨⟨A,c,rfl,h1,n,λh=>absurd h (by simp)⟩,by simp⟩
 | cons a l=>
  obtain ⟨b,o,cs,T,fr,e,E,p⟩:=z (by simp)
  refine ⟨⟨A,c,rfl,h1,n,λ_=>⟨b,o,cs,T,fr,e,E,λi x j=>?_⟩⟩,λx j=>?_⟩
  ·obtain ⟨ys,u,d,w⟩:=p i x j
   exact ⟨ys,u,d.1,w⟩
  ·obtain ⟨i,G⟩:=List.mem_iff_getElem?.1 j
   obtain ⟨ys,u,d,w⟩:=p i x G
   exact d.2
theorem Yl {P:Program} {t:TypeId} (d:P.underlying t=some (.int .u8)):FW P t (Ms (Pl (mh .u8)) (λx=>0≤x∧x < 256)) (λ_=>0):=by
 intro H i W base sp j fuel cs x h
 obtain ⟨n,rfl,rfl,hw⟩:=DataW.trod_int d h
 refine ⟨n,⟨rfl,?_⟩,dT _⟩
 simp [Lit.wf,IntKind.min,IntKind.max,IntKind.bits,IntKind.signed] at hw
 omega
theorem Vt {P:Program} {t:TypeId} (d:P.underlying t=some (.int .i64)):FW P t (Ms (Pl (mh .i64)) (λx=>-9223372036854775808≤x∧x≤9223372036854775807)) (λ_=>0):=by
 intro H i W base sp j fuel cs x h
 obtain ⟨n,rfl,rfl,hw⟩:=DataW.trod_int d h
 refine ⟨n,⟨rfl,?_⟩,dT _⟩
 simp [Lit.wf,IntKind.min,IntKind.max,IntKind.bits,IntKind.signed] at hw
 omega
end Go.Proofs.YtjjjihkifgdhgaaGreatDoor.Lf
