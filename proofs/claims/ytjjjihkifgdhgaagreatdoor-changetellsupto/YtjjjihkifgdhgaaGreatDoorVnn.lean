/- a part of a proof of ChangeTells -/
import Derived.Test.YtjjjihkifgdhgaaGreatDoorDgn
import Derived.Test.YtjjjihkifgdhgaaGreatDoorRtYn
import Derived.Test.YtjjjihkifgdhgaaGreatDoorRows
import Derived.WalkKit
import Derived.ProofKit
import Derived.OpenShut
import Derived.JoinedCond
import Derived.Deep.Slices
import Derived.Carry
import Derived.ChangeArms
import Derived.ChangeSame
import Derived.Test.YtjjjihkifgdhgaaGreatDoorCards
import Derived.Test.YtjjjihkifgdhgaaGreatDoorTie
import Derived.Deep.DeepHandedRow
import Derived.Lib.LaidTab
import Derived.SevenTiedAt
import Derived.Test.YtjjjihkifgdhgaaGreatDoorDM7W3n
set_option linter.all false
namespace Go.Proofs.YtjjjihkifgdhgaaGreatDoor
open Go.IntKind renaming wrap → wi0
open Go.Proofs.Tryz renaming prog → pg0
open Go.RowKit
section
variable {c:ky→ky→Int} {G:ky→Prop} {f:ky×ky→Option Int}
def qh (c:ky→ky→Int):Nat→List (List (ky×Nat))→Prop
 | _,[]=>True
 | o,A::bs=>oe (mL c) A∧(∀x∈A,o≤x.2∧x.2 < o+A.length)∧qh c (o+A.length) bs
def tT (s:Nat):List (List (ky×Nat))→Prop
 | []=>True
 | A::bs=>A.length≤s∧(bs≠[]→A.length=s)∧tT s bs
theorem qh.append:∀{ds bs:List (List (ky×Nat))} {o:Nat},qh c o (ds++bs)↔qh c o ds∧qh c (o+ds.flatten.length) bs
 | [],bs,o=>by simp [qh]
 | A::ds,bs,o=>by
  simp only [bY,qh,qh.append (ds:=ds),aU,aC,and_assoc,fA]
def oG (bs:List (List (ky×Nat))):List ky:=bs.flatten.map (·.1)
theorem Ff (a b:List (List (ky×Nat))):oG (a++b)=oG a++oG b:=by simp [oG]
theorem G6 (A:List (ky×Nat)) (b:List (List (ky×Nat))):oG (A::b)=A.map (·.1)++oG b:=by simp [oG]
theorem pJ (a:List (List (ky×Nat))):(oG a).length=a.flatten.length:=by unfold oG; rw [bW]
theorem Il (ds:List (List (ky×Nat))) (C:List (ky×Nat)):(ds++[C]).flatten.length=ds.flatten.length+C.length:=by rw [bP,aC]; simp only [aU,cJ,bB]
theorem NW (C:List (ky×Nat)) (bs:List (List (ky×Nat))):oG ([C]++bs)=C.map (·.1)++oG bs:=by simp [oG]
theorem Ba {R:List ky} {o:Nat} {x:ky×Nat} (h:x∈R.zipIdx o):x.1∈R:=iq h
theorem tT.two {s:Nat} {A:List (ky×Nat)} {bs:List (List (ky×Nat))} (j:0 < s) (h:tT s (A::bs)) (i:s < (A::bs).flatten.length):A.length=s∧∃B d,bs=B::d∧(B.length=s∨d=[])∧B.length≤s∧tT s d:=by
 cases bs with
 | nil=>simp at i; have:=h.1; omega
 | cons B d=>
  refine ⟨h.2.1 (by simp),B,d,rfl,?_,h.2.2.1,h.2.2.2.2⟩
  by_cases hb:d=[]
  ·exact .inr hb
  ·exact .inl (h.2.2.2.1 hb)
theorem F9 (h:SWO (mL c)) (z:uN f c G) {ds bs:List (List (ky×Nat))} {A B:List (ky×Nat)} (hO:qh c 0 (ds++A::B::bs)) (w:∀x∈(ds++A::B::bs).flatten,G x.1) (j:(oG (ds++A::B::bs)).length≤400000) (u:0 < A.length) (v:0 < B.length) (a m b:Int) (ha:a=(ds.flatten.length:Int)) (hm:m=((ds.flatten.length+A.length:Nat):Int)) (hb:b=((ds.flatten.length+A.length+B.length:Nat):Int)) :
  ∃C,nh li (oG (ds++A::B::bs)) a m b f=some (oG ((ds++[C])++bs))∧qh c 0 ((ds++[C])++bs)∧C.Perm (A++B):=by
 obtain ⟨h1,s⟩:=qh.append.1 hO
 obtain ⟨M,q,O,r,E⟩:=s
 have e:oG (ds++A::B::bs)=oG ds++(A.map (·.1)++(B.map (·.1)++oG bs)):=by rw [Ff,G6,G6]
 rw [e] at j ⊢
 have n:=j
 simp only [aC,bW,pJ] at n
 obtain ⟨C,J,L,p⟩:=Qv h z (A.length+B.length) A B (oG ds) (oG bs) li a m b (aQ _) u v (by rw [mJ]; omega) M O (λx d y I=>by have:=(q x d).2; have:=(r y I).1; omega)
  (λx d=>w x (by
   rw [bP,aU,aU,aV,aV,aV]
   rcases aV.1 d with d | d
   ·exact .inr (.inl d)
   ·exact .inr (.inr (.inl d)))) j (by rw [ha,pJ]) (by rw [hm,pJ]) (by rw [hb,pJ])
 have i:=p.length_eq
 simp only [aC] at i
 refine ⟨C,by rw [J,aW,Ff,NW],?_,p⟩
 ·rw [aW,qh.append]
  refine ⟨h1,L,λx d=>?_,?_⟩
  ·rcases aV.1 (p.mem_iff.1 d) with d | d
   ·have:=q x d; omega
   ·have:=r x d; omega
  ·rw [i,←fA]; exact E
theorem Fx {ds bs:List (List (ky×Nat))} {A B C:List (ky×Nat)} (h:C.Perm (A++B)):((ds++[C])++bs).flatten.Perm (ds++A::B::bs).flatten:=by
 simp only [bP,aU,cJ,bB,aW]
 refine dB _ ?_
 rw [←aW]
 exact h.append_right _
theorem LV (h:SWO (mL c)) (W:uN f c G) (s:Nat) (Z:0 < s) (a1:s≤1000000) (N:Nat) (hN:N≤400000):∀(k:Nat) (bs ds:List (List (ky×Nat))) (n:Nat) (a b:Int),bs.length≤k→k < n→qh c 0 (ds++bs)→(∀x∈(ds++bs).flatten,G x.1)→(ds++bs).flatten.length=N→tT s bs→(∀A∈ds,A.length=2*s)→
  a=(ds.flatten.length:Int)→b=((ds.flatten.length+2*s:Nat):Int)→
  ∃es r,oq (N:Int) (s:Int) f n (oG (ds++bs)) a b=some (oG (es++r),(es.flatten.length:Int))∧qh c 0 (es++r)∧(es++r).flatten.Perm (ds++bs).flatten∧tT s r∧r.flatten.length < 2*s∧(∀A∈es,A.length=2*s):=by
 intro k
 induction k with
 | zero=>
  intro bs ds n a b hk Y hO w p z q ha hb
  obtain ⟨n,rfl⟩:=aF (by omega:n≠0)
  obtain rfl:=aI (kp.1 hk)
  simp only [bB] at p
  rw [oq]
  have:¬(b≤(N:Int)):=by omega
  simp only [this,bL,aB,aN]
  exact ⟨ds,[],by rw [ha],hO,.refl _,trivial,by simp only [cJ,bD]; omega,q⟩
 | succ k ih=>
  intro bs ds n a b hk Y hO w p z q ha hb
  obtain ⟨n,rfl⟩:=aF (by omega:n≠0)
  rw [oq]
  by_cases hle:b≤(N:Int)
  ·simp only [hle,bJ,aS]
   have d:=p
   rw [bP,aC] at d
   cases bs with
   | nil=>simp only [cJ,bD] at d; omega
   | cons A bs=>
    obtain ⟨hA,B,j,rfl,u,R,E⟩:=tT.two Z z (by omega)
    have T:B.length=s:=by
     rcases u with u | rfl
     ·exact u
     ·simp only [aU,cJ,bB,aC] at d; omega
    have w1:wi0 .i64 (a+(s:Int))=((ds.flatten.length+A.length:Nat):Int):=mH _ (by omega) (by omega)
    obtain ⟨C,q1,q2,I⟩:=F9 h W hO w (by rw [pJ]; omega) (by omega) (by omega) a _ b ha w1 (by omega)
    rw [q1,aA]
    have v:=I.length_eq
    simp only [aC] at v
    have w2:wi0 .i64 (2*(s:Int))=((2*s:Nat):Int):=mH _ (by omega) (by omega)
    have U:(ds++[C]).flatten.length=ds.flatten.length+2*s:=by rw [Il]; omega
    have w3:wi0 .i64 (b+((2*s:Nat):Int))=(((ds++[C]).flatten.length+2*s:Nat):Int):=mH _ (by omega) (by omega)
    have hp:=Fx (ds:=ds) (bs:=j) I
    rw [w2,w3]
    obtain ⟨es,r,J,L,M,O,P,Q⟩:=ih j (ds++[C]) n b _ (by simp at hk; omega) (by omega) q2 (λx hx=>w x (hp.mem_iff.1 hx)) (by rw [hp.length_eq,p]) E (λX i=>by
     rcases aV.1 i with i | i
     ·exact q X i
     ·simp at i; rw [i]; omega) (by rw [U]; omega) rfl
    exact ⟨es,r,J,L,M.trans hp,O,P,Q⟩
  ·simp only [hle,bL,aB,aN]
   refine ⟨ds,bs,by rw [ha],hO,.refl _,z,?_,q⟩
   rw [bP,aC] at p
   omega
theorem tT.Ae {t:Nat}:∀{es:List (List (ky×Nat))} {C:List (ky×Nat)},(∀A∈es,A.length=t)→C.length≤t→tT t (es++[C])
 | [],C,_,d=>⟨d,λh=>absurd rfl h,trivial⟩
 | E::es,C,h,d=>⟨by rw [h E (by simp)]; omega,λ_=>h E (by simp),tT.Ae (λA i=>h A (by simp [i])) d⟩
theorem JW {s:Nat} {r:List (List (ky×Nat))} {o:Nat} (d:tT s r) (i:r.flatten.length≤s) (hO:qh c o r):oe (mL c) r.flatten∧∀x∈r.flatten,o≤x.2∧x.2 < o+r.flatten.length:=by
 cases r with
 | nil=>exact ⟨.nil,λx j=>by cases j⟩
 | cons A r=>
  have:r.flatten=[]:=by
   by_cases hb:r=[]
   ·rw [hb]; rfl
   ·have:=d.2.1 hb
    rw [aU,aC] at i
    exact aI (by omega)
  rw [aU,this,bB]
  exact ⟨hO.1,hO.2.1⟩
theorem KX (h:SWO (mL c)) (hf:uN f c G) (N:Nat) (hN:N≤400000):∀(k s:Nat) (bs:List (List (ky×Nat))) (n:Nat),N-s≤k→k < n→0 < s→s≤1000000→qh c 0 bs→(∀x∈bs.flatten,G x.1)→bs.flatten.length=N→tT s bs→
  ∃u,nF (N:Int) f n (oG bs) (s:Int)=some (u.map (·.1))∧oe (mL c) u∧u.Perm bs.flatten:=by
 intro k
 induction k with
 | zero=>
  intro s bs n hk hn Q w hO v p i
  obtain ⟨n,rfl⟩:=aF (by omega:n≠0)
  rw [nF]
  have:¬((s:Int) < (N:Int)):=by omega
  simp only [this,bL,aB,aN]
  refine ⟨bs.flatten,rfl,?_,.refl _⟩
  cases bs with
  | nil=>exact .nil
  | cons A bs=>
   have:bs.flatten=[]:=by
    by_cases hb:bs=[]
    ·rw [hb]; rfl
    ·have:=i.2.1 hb
     rw [aU,aC] at p
     exact aI (by omega)
   rw [aU,this,bB]
   exact hO.1
 | succ k ih=>
  intro s bs n hk hn Q w hO v p i
  by_cases a8:s < N
  ·obtain ⟨n,rfl⟩:=aF (by omega:n≠0)
   rw [nF]
   have:((s:Int) < (N:Int)):=by omega
   simp only [this,bJ,aS]
   have w1:wi0 .i64 (2*(s:Int))=((2*s:Nat):Int):=mH _ (by omega) (by omega)
   have w0:wi0 .i64 ((s:Int)*2)=((2*s:Nat):Int):=mH _ (by omega) (by omega)
   have a7:bs.length≤2000000:=by
    have:∀{bs:List (List (ky×Nat))},tT s bs→bs.length≤bs.flatten.length+1:=by
     intro bs
     induction bs with
     | nil=>intro _; simp
     | cons A bs R=>
      intro i
      by_cases hb:bs=[]
      ·subst hb; simp
      ·have:=i.2.1 hb
       have:=R i.2.2
       simp only [aJ,aU,aC]
       omega
    have:=this i
    omega
   obtain ⟨es,r,W,Y,d,Z,e5,e6⟩:=LV h hf s Q w N hN bs.length bs [] li 0 ((2*s:Nat):Int) (aQ _) (by rw [mJ]; omega) (by simpa using hO) (by simpa using v) (by simpa using p) i (by simp) rfl (by simp)
   simp only [bM] at W d
   rw [w1,W,aA,w0]
   have q:=d.length_eq
   rw [p,bP,aC] at q
   have w2:wi0 .i64 ((es.flatten.length:Int)+(s:Int))=((es.flatten.length+s:Nat):Int):=mH _ (by omega) (by omega)
   simp only [w2]
   by_cases hm:es.flatten.length+s < N
   ·have:(((es.flatten.length+s:Nat):Int) < (N:Int)):=by omega
    simp only [this,bJ,aS,si]
    cases r with
    | nil=>simp only [cJ,bD] at q; omega
    | cons A r=>
     obtain ⟨hA,B,r',rfl,E,a1,a6⟩:=tT.two Q Z (by omega)
     have P:r'=[]:=by
      rcases E with E | E
      ·by_cases hr:r'=[]
       ·exact hr
       ·simp only [aU,aC] at e5; omega
      ·exact E
     subst P
     simp only [aU,cJ,bB,aC] at q e5
     obtain ⟨C,q1,q2,q3⟩:=F9 h hf Y (λx z=>v x (d.mem_iff.1 z)) (by rw [pJ,d.length_eq]; omega) (by omega) (by omega) (es.flatten.length:Int) ((es.flatten.length+s:Nat):Int) (N:Int) rfl (by omega) (by omega)
     rw [q1,aA]
     have J:=q3.length_eq
     simp only [aC] at J
     have hp:=(Fx (ds:=es) (bs:=[]) q3).trans d
     simp only [bB] at q2 hp ⊢
     obtain ⟨u,T,U,I⟩:=ih (2*s) (es++[C]) n (by omega) (by omega) (by omega) (by omega) q2 (λx z=>v x (hp.mem_iff.1 z)) (by rw [hp.length_eq,p]) (tT.Ae e6 (by omega))
     exact ⟨u,T,U,I.trans hp⟩
   ·have:¬(((es.flatten.length+s:Nat):Int) < (N:Int)):=by omega
    simp only [this,bL,aB,aN,aA]
    obtain ⟨L,M⟩:=qh.append.1 Y
    obtain ⟨b1,b2⟩:=JW Z (by omega) M
    have O:oG (es++r)=oG (es++[r.flatten]):=by simp [oG]
    have j:(es++[r.flatten]).flatten=(es++r).flatten:=by simp
    rw [O]
    obtain ⟨u,T,U,I⟩:=ih (2*s) (es++[r.flatten]) n (by omega) (by omega) (by omega) (by omega) (qh.append.2 ⟨L,b1,b2,trivial⟩) (λx z=>v x (d.mem_iff.1 (by rw [←j]; exact z))) (by rw [j,d.length_eq,p]) (tT.Ae e6 (by omega))
    exact ⟨u,T,U,by rw [j] at I; exact I.trans d⟩
  ·obtain ⟨n,rfl⟩:=aF (by omega:n≠0)
   rw [nF]
   have:¬((s:Int) < (N:Int)):=by omega
   simp only [this,bL,aB,aN]
   refine ⟨bs.flatten,rfl,?_,.refl _⟩
   cases bs with
   | nil=>exact .nil
   | cons A bs=>
    have:bs.flatten=[]:=by
     by_cases hb:bs=[]
     ·rw [hb]; rfl
     ·have:=i.2.1 hb
      rw [aU,aC] at p
      exact aI (by omega)
    rw [aU,this,bB]
    exact hO.1
theorem DK:∀(l:List ky) (o:Nat),(l.zipIdx o).Pairwise (λx y=>x.2 < y.2)
 | [],o=>by simp
 | x::l,o=>by
  rw [ir,bU]
  refine ⟨λy d=>?_,DK l (o+1)⟩
  obtain ⟨a,b⟩:=y
  have:=fM d
  simp only at this ⊢; omega
theorem G9 (l:List ky) (o:Nat):∀x∈l.zipIdx o,o≤x.2∧x.2 < o+l.length:=by
 rintro ⟨a,b⟩ d
 have h1:=fM d
 have i:=jd d
 simp only at h1 i ⊢; omega
theorem Ig (h:SWO (mL c)) (q:uN f c G) (N:Nat) (I:N≤300000) (R:List ky) (ds:List (List (ky×Nat))) (n:Nat) (a b:Int) (L:0 < n) (hO:qh c 0 ds) (s:∀A∈ds,A.length=20) (w:∀x∈ds.flatten,G x.1) (p:∀x∈R,G x) (J:ds.flatten.length+R.length=N) (z:R.length < 20) (ha:a=(ds.flatten.length:Int)) (hb:b=((ds.flatten.length+20:Nat):Int)) :
  ∃u,nG (N:Int) f n (oG ds++R) a b=some (u.map (·.1))∧oe (mL c) u∧u.Perm (ds.flatten++R.zipIdx ds.flatten.length):=by
 obtain ⟨n,rfl⟩:=aF (by omega:n≠0)
 rw [nG]
 have hle:¬(b≤(N:Int)):=by omega
 simp only [hle,bL,aB,aN,si]
 obtain ⟨u,r,E,i⟩:=Hk h q (oG ds) [] (R.zipIdx ds.flatten.length) a (N:Int) (DK _ _) (λx d=>p x.1 (Ba d)) (by simp only [aC,pJ,bW,dD,bD]; omega) (by rw [pJ]; exact ha) (by rw [pJ,dD]; omega)
 rw [gM,bB,bB] at r
 have j:=i.length_eq
 rw [dD] at j
 have e:oG ds++u.map (·.1)=oG (ds++[u]):=by simp [oG]
 have hp:(ds++[u]).flatten.Perm (ds.flatten++R.zipIdx ds.flatten.length):=by
  rw [bP]
  refine dB _ ?_
  simpa using i
 rw [r,aA,e]
 obtain ⟨v,v1,v2,v3⟩:=KX h q N (by omega) N 20 (ds++[u]) li (by omega) (by rw [mJ]; omega) (by omega) (by omega) (qh.append.2 ⟨hO,E,λx d=>by have:=G9 R ds.flatten.length x (i.mem_iff.1 d); omega,trivial⟩) (λx d=>by
  rw [bP,aV] at d
  rcases d with d | d
  ·exact w x d
  ·simp only [aU,cJ,bB] at d
   exact p x.1 (Ba (i.mem_iff.1 d))) (by rw [hp.length_eq,aC,dD]; omega) (tT.Ae s (by omega))
 exact ⟨v,v1,v2,v3.trans hp⟩
theorem KY (h:SWO (mL c)) (E:uN f c G) (N:Nat) (L:N≤300000):∀(k:Nat) (R:List ky) (ds:List (List (ky×Nat))) (n:Nat) (a b:Int),R.length≤k→k < n→qh c 0 ds→(∀A∈ds,A.length=20)→(∀x∈ds.flatten,G x.1)→(∀x∈R,G x)→ds.flatten.length+R.length=N→
  a=(ds.flatten.length:Int)→b=((ds.flatten.length+20:Nat):Int)→
  ∃u,nG (N:Int) f n (oG ds++R) a b=some (u.map (·.1))∧oe (mL c) u∧u.Perm (ds.flatten++R.zipIdx ds.flatten.length):=by
 intro k
 induction k with
 | zero=>
  intro R ds n a b hk M hO r s p w ha hb
  obtain rfl:=aI (kp.1 hk)
  exact Ig h E N L [] ds n a b M hO r s p w (by simp) ha hb
 | succ k ih=>
  intro R ds n a b hk M hO r s p w ha hb
  by_cases J:R.length < 20
  ·exact Ig h E N L R ds n a b (by omega) hO r s p w J ha hb
  obtain ⟨n,rfl⟩:=aF (by omega:n≠0)
  obtain ⟨R1,R2,rfl,q⟩:=rj (l:=R) (n:=20) (by omega)
  rw [aC] at w hk
  rw [nG]
  have hle:b≤(N:Int):=by omega
  simp only [hle,bJ,aS]
  obtain ⟨u,O,P,z⟩:=Hk h E (oG ds) R2 (R1.zipIdx ds.flatten.length) a b (DK _ _) (λx d=>p x.1 (by simp [Ba d])) (by simp only [aC,pJ,bW,dD,bD]; omega) (by rw [pJ]; exact ha) (by rw [pJ,dD]; omega)
  rw [gM] at O
  rw [O,aA]
  have i:=z.length_eq
  rw [dD,q] at i
  have I:(ds++[u]).flatten.length=ds.flatten.length+20:=by rw [Il,i]
  have Q:wi0 .i64 (b+20)=(((ds++[u]).flatten.length+20:Nat):Int):=mH _ (by omega) (by omega)
  have e:oG ds++(u.map (·.1)++R2)=oG (ds++[u])++R2:=by simp [oG]
  rw [e,Q]
  obtain ⟨v,v1,v2,v3⟩:=ih R2 (ds++[u]) n b _ (by omega) (by omega) (qh.append.2 ⟨hO,P,λx d=>by have:=G9 R1 ds.flatten.length x (z.mem_iff.1 d); omega,trivial⟩) (λA j=>by
   rcases aV.1 j with j | j
   ·exact r A j
   ·simp at j; rw [j]; exact i) (λx d=>by
   rw [bP,aV] at d
   rcases d with d | d
   ·exact s x d
   ·simp only [aU,cJ,bB] at d
    exact p x.1 (by simp [Ba (z.mem_iff.1 d)])) (λx d=>p x (by simp [d])) (by omega) (by omega) rfl
  refine ⟨v,v1,v2,v3.trans ?_⟩
  rw [I,bP,ju,q,aW]
  refine dB _ ?_
  simp only [aU,cJ,bB]
  exact z.append_right _
theorem I7 (h:SWO (mL c)) (n:uN f c G) (l:List ky) (j:∀x∈l,G x) (p:l.length≤300000):ox l f=some (yz (mL c) l):=by
 unfold ox tg
 obtain ⟨u,d,q,i⟩:=KY h n l.length p l.length l [] li 0 20 (aQ _) (by rw [mJ]; omega) trivial (by simp) (by simp) j (by simp) rfl rfl
 simp only [oG,cJ,eU,bM,bD] at d i
 rw [d,aA,I9 h q i]
end
section
variable {c:kK→kK→Int} {G:kK→Prop} {f:kK×kK→Option Int}
abbrev uL (c:kK→kK→Int) (x y:kK):Bool:=decide (c x y < 0)
abbrev GK (f:kK×kK→Option Int) (c:kK→kK→Int) (G:kK→Prop):Prop:=∀x y,G x→G y→f (x,y)=some (c x y)
theorem Pv (J:GK f c G) (pre:List kK) (x:kK) (M:G x):∀(k:Nat) (P S:List kK) (n:Nat) (j a:Int),P.length=k→k < n→(∀y∈P,G y)→(pre++(P++x::S)).length≤1000000→j=((pre.length+P.length:Nat):Int)→a=(pre.length:Int)→
  ∃P1 P2,P=P1++P2∧nl a f n (pre++(P++x::S)) j=some (pre++(P1++x::(P2++S)))∧(∀P' z,P1=P'++[z]→uL c x z=false)∧(∀y P',P2=y::P'→uL c x y=true):=by
 intro k
 induction k with
 | zero=>
  intro P S n j a hk L i s q ha
  obtain rfl:=aI hk
  obtain ⟨n,rfl⟩:=aF (by omega:n≠0)
  refine ⟨[],[],rfl,?_,by simp,by simp⟩
  rw [nl]
  have:¬(j > a):=by rw [q,ha]; simp
  simp [this]
 | succ k ih=>
  intro P S n j a hk L i s q ha
  rcases dO P with rfl | ⟨P',z,rfl⟩
  ·simp at hk
  simp only [eK,aC,aJ,bD] at hk q s i ⊢
  obtain ⟨n,rfl⟩:=aF (by omega:n≠0)
  have r:j > a:=by omega
  have u:pre++(P'++[z]++x::S)=(pre++P')++z::x::S:=by simp
  have hw:wi0 .i64 (j-1)=((pre.length+P'.length:Nat):Int):=by rw [mi (by omega) (by omega)]; omega
  have i1:lM ((pre++P')++z::x::S) j=some x:=by
   rw [show (pre++P')++z::x::S=(pre++P'++[z])++x::S by simp]
   exact mD _ _ _ _ (by simp; omega)
  have i2:lM ((pre++P')++z::x::S) ((pre.length+P'.length:Nat):Int)=some z:=mD _ _ _ _ (by simp)
  have R:G z:=i z (by simp)
  have I:∀y∈P',G y:=λy O=>i y (by simp [O])
  have U:j.toNat=pre.length+P'.length+1:=by omega
  rw [nl,u]
  simp only [r,bJ,aS,i1,hw,i2,aA,J x z M R]
  by_cases p:c x z < 0
  ·simp only [p,bJ,aS]
   have s1:((pre++P')++z::x::S).set j.toNat z=(pre++P')++z::z::S:=by
    have:=Bv (pre++P'++[z]) S x z j.toNat (by simp; omega)
    simpa only [aW,eH,bY,bM] using this
   have s2:((pre++P')++z::z::S).set (pre.length+P'.length) x=(pre++P')++x::z::S:=by
    exact Bv (pre++P') (z::S) z x _ (by simp)
   have i3:lM ((pre++P')++z::z::S) ((pre.length+P'.length:Nat):Int)=some z:=mD _ _ _ _ (by simp)
   rw [s1,i3,aA,dC,s2]
   have v:(pre++P')++x::z::S=pre++(P'++x::(z::S)):=by simp
   obtain ⟨P1,P2,h1,w,A,E⟩:=ih P' (z::S) n ((pre.length+P'.length:Nat):Int) a (by omega) (by omega) I (by simp; omega) rfl ha
   rw [v,w]
   refine ⟨P1,P2++[z],by rw [h1]; simp,by simp,A,?_⟩
   intro y Q d
   cases P2 with
   | nil=>
    simp only [bM,aK] at d
    rw [←d.1]; simp [uL,p]
   | cons T P2=>
    simp only [bY,aK] at d
    rw [←d.1]; exact E T P2 rfl
  ·simp only [p,bL,aB,aN]
   refine ⟨P'++[z],[],by simp,by simp,?_,by simp⟩
   intro Q y d
   have:=jS d rfl
   simp only [aK,cU] at this
   rw [←this.2]; simp [uL,p]
theorem Jw (h:SWO (uL c)) (P:GK f c G) (pre post:List kK) (a b:Int) (ha:a=(pre.length:Int)):∀(S t:List (kK×Nat)) (n:Nat) (i:Int),
  S.length < n→oe (uL c) t→(∀x∈t,∀y∈S,x.2 < y.2)→S.Pairwise (λx y=>x.2 < y.2)→(∀x∈t++S,G x.1)→(pre++(t.map (·.1)++(S.map (·.1)++post))).length≤1000000→
  i=((pre.length+t.length:Nat):Int)→b=((pre.length+t.length+S.length:Nat):Int)→
  ∃u,mX b a f n (pre++(t.map (·.1)++(S.map (·.1)++post))) i=some (pre++(u.map (·.1)++post))∧oe (uL c) u∧u.Perm (t++S)
 | [],t,n,i,L,M,h1,O,E,J,Q,hb=>by
  obtain ⟨n,rfl⟩:=aF (by simp at L; omega:n≠0)
  rw [mX]
  simp only [bD] at hb
  have:¬(i < b):=by omega
  simp only [this,bL,aB,aN]
  exact ⟨t,by simp,M,by simp⟩
 | s::S,t,n,i,L,M,h1,O,E,J,Q,hb=>by
  simp only [aJ] at L hb
  obtain ⟨n,rfl⟩:=aF (by omega:n≠0)
  rw [mX]
  have I:i < b:=by omega
  simp only [I,bJ,aS]
  have r:=J
  simp only [aC,bW,aJ] at r
  obtain ⟨P1,P2,U,W,Y,Z⟩:=Pv P pre s.1 (E s (by simp)) (t.map (·.1)).length (t.map (·.1)) (S.map (·.1)++post) li i a rfl (by rw [mJ]; simp; omega)
   (λy w=>by obtain ⟨p,hp,rfl⟩:=bE.1 w; exact E p (by simp [hp])) (by simpa using J) (by simp; omega) ha
  simp only [bA,bY]
  rw [W,aA]
  obtain ⟨t1,t2,rfl,R,T⟩:=iR.1 U
  have hlen:t1.length+t2.length=(t1++t2).length:=by simp
  have hw:wi0 .i64 (i+1)=((pre.length+(t1++s::t2).length:Nat):Int):=by rw [mi (by omega) (by omega)]; simp at Q ⊢; omega
  rw [hw]
  have v:oe (uL c) (t1++s::t2):=AN h M
   (λA' z b B' q A=>by
    simp only [aK] at A
    rw [←A.1]
    refine .inr ⟨Y (A'.map (·.1)) z.1 (by rw [←R,q]; simp),h1 z (by rw [q]; simp) s (by simp)⟩)
   (λA' z b B' q A=>by
    have hz:z=s:=by
     cases A' with
     | nil=>simpa using q.symm
     | cons _ A'=>simp at q
    rw [hz]
    exact .inl (Z b.1 (B'.map (·.1)) (by rw [←T,A]; simp)))
  have j:=bU.1 O
  have e5:pre++(P1++s.1::(P2++(S.map (·.1)++post)))=pre++((t1++s::t2).map (·.1)++(S.map (·.1)++post)):=by rw [←R,←T]; simp
  rw [e5]
  obtain ⟨u,u1,u2,u3⟩:=Jw h P pre post a b ha S (t1++s::t2) n _ (by omega) v
   (λx d y w=>by
    rcases aV.1 d with d | d
    ·exact h1 x (by simp [d]) y (by simp [w])
    ·rcases aY.1 d with rfl | d
     ·exact j.1 y w
     ·exact h1 x (by simp [d]) y (by simp [w]))
   j.2 (λx d=>E x (by
    simp only [aV,aY] at d ⊢
    rcases d with (d | d | d) | d
    ·exact .inl (.inl d)
    ·exact .inr (.inl d)
    ·exact .inl (.inr d)
    ·exact .inr (.inr d))) (by simp at r ⊢; omega) rfl (by simp at hb ⊢; omega)
  refine ⟨u,u1,u2,u3.trans ?_⟩
  simp only [aW,bY]
  exact dB t1 (List.perm_middle.symm)
theorem L7 (h:SWO (uL c)) (v:GK f c G) (pre post:List kK) (S:List (kK×Nat)) (a b:Int) (q:S.Pairwise (λx y=>x.2 < y.2)) (r:∀x∈S,G x.1) (p:(pre++(S.map (·.1)++post)).length≤1000000) (ha:a=(pre.length:Int)) (hb:b=((pre.length+S.length:Nat):Int)) :
  ∃u,pz (pre++(S.map (·.1)++post)) a b f=some (pre++(u.map (·.1)++post))∧oe (uL c) u∧u.Perm S:=by
 unfold pz
 have i:=p
 simp only [aC,bW] at i
 cases S with
 | nil=>
  refine ⟨[],?_,.nil,.nil⟩
  obtain ⟨n,w⟩:=aF (by rw [mJ]; omega:li≠0)
  rw [w,mX]
  have:¬(wi0 .i64 (a+1) < b):=by rw [mi (by omega) (by omega)]; simp at hb; omega
  simp [this]
 | cons s S=>
  simp only [aJ] at hb i
  have d:=bU.1 q
  obtain ⟨u,A,E,I⟩:=Jw h v pre post a b ha S [s] li (wi0 .i64 (a+1)) (by rw [mJ]; omega) (fV _ _) (λx j y z=>by simp at j; rw [j]; exact d.1 y z) d.2
   (λx j=>r x (by simpa using j)) (by simp at p ⊢; omega) (by rw [mi (by omega) (by omega)]; simp; omega) (by simp; omega)
  exact ⟨u,by simpa using A,E,by simpa using I⟩
end
section
variable {c:kK→kK→Int} {G:kK→Prop} {f:kK×kK→Option Int}
theorem KS {α:Type}:∀(l:List α) (o:Nat),(l.zipIdx o).Pairwise (λx y=>x.2 < y.2)
 | [],o=>by simp
 | x::l,o=>by
  rw [ir,bU]
  refine ⟨λy d=>?_,KS l (o+1)⟩
  obtain ⟨a,b⟩:=y
  have:=fM d
  simp only at this ⊢; omega
theorem NM (h:SWO (uL c)) (n:GK f c G) (l:List kK) (j:∀x∈l,G x) (s:l.length≤19):oy l f=some (yz (uL c) l):=by
 obtain ⟨k,hk⟩:∃k,li=k+1:=⟨_,mJ⟩
 obtain ⟨u,d,q,r⟩:=L7 h n [] [] (l.zipIdx 0) 0 (l.length:Int) (KS _ _) (λx p=>j x.1 (iq p)) (by simp; omega) rfl (by simp)
 rw [bM,bM,gM,bB,bB] at d
 have i:pq (l.length:Int) f (k+1) (u.map (·.1)) 20=some (u.map (·.1)):=by
  rw [pq]
  have:¬((20:Int) < (l.length:Int)):=by omega
  simp only [this,bL,aB,aN]
 unfold oy tk
 rw [si,hk,qw]
 have hle:¬((20:Int)≤(l.length:Int)):=by omega
 simp only [hle,bL,aB,aN,si]
 rw [d,aA,hk,i,I9 h q r]
end
section
variable {α κ:Type} {key:α→κ} {lk:κ→κ→Bool} {P:κ→Prop}
theorem H2 (u:SWO (λx y:α=>lk (key x) (key y))) (H:Cx (λa b=>lk a b=true) P) {l:List α} (j:∀x∈l,P (key x)) (v:(l.map key).Nodup) {S:List κ} (w:S.Pairwise (λa b=>lk a b=true)) (hm:∀k,k∈S↔k∈l.map key) (mk:κ→α) (hk:∀x∈l,mk (key x)=x) :
  yz (λx y:α=>lk (key x) (key y)) l=S.map mk:=by
 have hp:=CR (λx y:α=>lk (key x) (key y)) l
 have hu:=PI u l
 have n:((yz (λx y:α=>lk (key x) (key y)) l).map key).Nodup:=((hp.map key).nodup_iff).2 v
 have r:(yz (λx y:α=>lk (key x) (key y)) l).map key=S:=by
  refine yl.unique (l:=S) H ⟨?_,λk=>?_⟩ ⟨w,λk=>?_⟩
  ·unfold JH at hu
   rw [iM]
   have p:=iM.1 n
   refine (hu.and p).imp_of_mem λ{a b} ha hb d=>?_
   rcases H.total (key a) (key b) (j a (hp.mem_iff.1 ha)) (j b (hp.mem_iff.1 hb)) with q | q | q
   ·exact q
   ·exact absurd q d.2
   ·exact absurd q (by simpa using d.1)
  ·rw [hm,(hp.map key).mem_iff]
   constructor
   ·intro h
    obtain ⟨x,i,rfl⟩:=bE.1 h
    exact ⟨h,j x i⟩
   ·exact λh=>h.1
  ·refine ⟨λh=>⟨h,?_⟩,λh=>h.1⟩
   obtain ⟨x,i,rfl⟩:=bE.1 ((hm k).1 h)
   exact j x i
 rw [←r,gH]
 refine Eq.symm ?_
 have s:=List.map_congr_left (f:=mk∘key) (g:=id) (l:=yz (λx y:α=>lk (key x) (key y)) l) (λx i=>hk x (hp.mem_iff.1 i))
 rw [s,jF]
section
variable {X K:Type} (key:X→K) (bq:K→K→Bool) (same:X→X→Bool)
def vQ (l:List X) (k:K):Option X:=l.find? λx=>bq (key x) k
def rC:List X→K→Nat→Int
 | [],_,_=>-1
 | x::l,k,i=>if bq (key x) k then (i:Int) else rC l k (i+1)
theorem sb (k:K):∀(l:List X) (i:Nat),(vQ key bq l k=none∧rC key bq l k i=-1)∨∃A x B,l=A++x::B∧vQ key bq l k=some x∧bq (key x) k=true∧rC key bq l k i=((i+A.length:Nat):Int)
 | [],i=>.inl ⟨rfl,rfl⟩
 | x::l,i=>by
  unfold vQ rC
  cases hb:bq (key x) k with
  | true=>exact .inr ⟨[],x,l,rfl,by rw [gY,hb],hb,by simp⟩
  | false=>
   rcases sb k l (i+1) with ⟨h1,d⟩ | ⟨A,y,B,rfl,h1,d,j⟩
   ·exact .inl ⟨by rw [gY,hb]; exact h1,by simpa using d⟩
   ·exact .inr ⟨x::A,y,B,rfl,by rw [gY,hb]; exact h1,d,by simp only [aB,aN]; rw [j]; simp; omega⟩
theorem AT {hb:∀x y,bq x y=true↔x=y} {l:List X} {k:K}:vQ key bq l k=none↔k∉l.map key:=by
 unfold vQ
 rw [jy]
 constructor
 ·intro h hk
  obtain ⟨x,d,rfl⟩:=bE.1 hk
  exact h x d ((hb _ _).2 rfl)
 ·intro h x d i
  exact h (bE.2 ⟨x,d,(hb _ _).1 i⟩)
def Dc:ByteArray:=⟨#[43]⟩
def Bm:ByteArray:=⟨#[45]⟩
def Di:ByteArray:=⟨#[42]⟩
def wV (a b:List X) (k:K):ByteArray :=
 match vQ key bq a k,vQ key bq b k with
 | none,_=>Dc
 | some _,none=>Bm
 | some x,some y=>if same x y then zS else Di
def xv (a b:List X):List K:=(a.map key).filter (λk=>!lQ (wV key bq same a b k) zS)++(b.map key).filter λk=>(vQ key bq a k).isNone
end
end
theorem N3:∀(k u:Nat),u < 10 ^ (k+1)→(Go.Lib.decDigits u).length≤k+1
 | 0,u,h=>by rw [Go.Lib.decDigits,dif_pos (by simpa using h)]; simp
 | k+1,u,h=>by
  rw [Nat.pow_succ] at h
  by_cases h1:u < 10
  ·rw [Go.Lib.decDigits,dif_pos h1]; simp
  ·have:=N3 k (u / 10) (by omega)
   rw [Go.Lib.decDigits,dif_neg h1]; simp; omega
def tQ (n:Int):Prop:=-9223372036854775808≤n∧n≤9223372036854775807
theorem vx {n:Int} (h:tQ n):sC n=some (mZ n):=cE h
theorem pP {n:Int} (h:tQ n):(mZ n).size≤20:=by
 obtain ⟨d,h1⟩:=h
 show (Go.Lib.itoa n).toArray.size≤20
 unfold Go.Lib.itoa
 split
 ·have:=N3 18 n.natAbs (by omega)
  simp; omega
 ·have:=N3 18 n.toNat (by omega)
  simp; omega
theorem Ho:zS.size=0:=rfl
def oO:ByteArray:=⟨#[32]⟩
def qI:ByteArray:=⟨#[10]⟩
theorem mw {a b:ByteArray} (h:a.size+b.size≤1000000000):lY a b=some (a++b):=by
 unfold lY
 rw [cI]
 have:IntKind.i64.max=9223372036854775807:=rfl
 rw [this]; omega
def zN:ByteArray:=⟨#[46]⟩
def rT (r:kz):ByteArray:=r.kA++zN++r.Word
theorem FX:zN.size=1:=rfl
theorem RR (r:kz):(rT r).size=r.kA.size+1+r.Word.size:=by
 unfold rT; rw [aD,aD]; rfl
theorem Tw (r:kz) (h:r.kA.size+r.Word.size≤100000000):rq r=some (rT r)∧tV r=some (rT r):=by
 have e:(⟨#[46]⟩:ByteArray)=zN:=rfl
 have d:=FX
 unfold rq tV
 rw [e,mw (by omega),aA,mw (by rw [aD]; omega)]
 exact ⟨rfl,rfl⟩
theorem Hl {r:kz} (h:mu r=true):r.kA.size≤16∧r.Word.size≤16∧1≤r.kA.size∧1≤r.Word.size:=by
 unfold mu at h
 rw [bQ] at h
 have a:=oT h.1
 have b:=oT h.2
 omega
theorem vO {r:kz} (h:mu r=true):rq r=some (rT r)∧tV r=some (rT r)∧(rT r).size≤33:=by
 have a:=Hl h
 have b:=Tw r (by omega)
 exact ⟨b.1,b.2,by rw [RR]; omega⟩
def KL:ByteArray:=⟨#[32,60,45,32]⟩
def DE:ByteArray:=⟨#[32,38,32]⟩
def cT (c:kC):ByteArray:=rT c.Head++KL++(if c.Kind=1 then c.mC else if c.Kind=2 then rT c.B else if c.Kind=3 then rT c.B++zN++c.mA else rT c.B++DE++rT c.C)
theorem E5 {c:kC} (h:nW c=true):Bh c=some (cT c)∧zK c=some (cT c)∧(cT c).size≤200:=by
 obtain ⟨h1,I,L⟩:=vO (Bf h)
 have d:=FX
 have A:(⟨#[46]⟩:ByteArray)=zN:=rfl
 have E:(⟨#[32,60,45,32]⟩:ByteArray)=KL:=rfl
 have G:(⟨#[32,38,32]⟩:ByteArray)=DE:=rfl
 have s2:KL.size=4:=rfl
 have M:DE.size=3:=rfl
 unfold Bh zK DS
 rw [Ai,h,h1,I,A,E,G]
 simp only [aA,cY,aB,aN]
 rw [mw (by omega)]
 simp only [aA]
 unfold cT
 rcases su h with ⟨k,j,q⟩ | ⟨k,j,q⟩ | ⟨k,j,v,q⟩ | ⟨k,j,v,q⟩
 ·have w:=oT j
  have i:(c.Kind==1)=true:=by rw [k]; rfl
  simp only [i,aS,aA]
  rw [mw (by rw [aD]; omega)]
  have e:(if c.Kind=1 then c.mC else if c.Kind=2 then rT c.B else if c.Kind=3 then rT c.B++zN++c.mA else rT c.B++DE++rT c.C)=c.mC:=by rw [k]; rfl
  rw [e]
  exact ⟨rfl,rfl,by simp only [aD]; omega⟩
 ·obtain ⟨s,u,x⟩:=vO j
  have i:(c.Kind==1)=false:=by rw [k]; rfl
  have n:(c.Kind==2)=true:=by rw [k]; rfl
  have p:(c.Kind==3)=false:=by rw [k]; rfl
  have r:(c.Kind==4)=false:=by rw [k]; rfl
  simp only [i,n,p,r,s,u,aS,aB,aN,aA]
  rw [mw (by rw [aD]; omega)]
  have e:(if c.Kind=1 then c.mC else if c.Kind=2 then rT c.B else if c.Kind=3 then rT c.B++zN++c.mA else rT c.B++DE++rT c.C)=rT c.B:=by rw [k]; rfl
  rw [e]
  exact ⟨rfl,rfl,by simp only [aD]; omega⟩
 ·obtain ⟨s,u,x⟩:=vO j
  have z:=oT v
  have i:(c.Kind==1)=false:=by rw [k]; rfl
  have n:(c.Kind==2)=false:=by rw [k]; rfl
  have p:(c.Kind==3)=true:=by rw [k]; rfl
  have r:(c.Kind==4)=false:=by rw [k]; rfl
  simp only [i,n,p,r,s,u,aS,aB,aN,aA]
  rw [mw (a:=rT c.B) (b:=zN) (by omega),mw (a:=zN) (b:=c.mA) (by omega),mw (a:=rT c.Head++KL) (b:=rT c.B) (by rw [aD]; omega)]
  simp only [aA]
  rw [mw (by rw [aD]; omega),mw (by simp only [aD]; omega)]
  simp only [aA]
  rw [mw (by simp only [aD]; omega)]
  have e:(if c.Kind=1 then c.mC else if c.Kind=2 then rT c.B else if c.Kind=3 then rT c.B++zN++c.mA else rT c.B++DE++rT c.C)=rT c.B++zN++c.mA:=by rw [k]; rfl
  rw [e]
  refine ⟨rfl,?_,by simp only [aD]; omega⟩
  simp only [aA,dV]
 ·obtain ⟨s,u,x⟩:=vO j
  obtain ⟨z,J,O⟩:=vO v
  have i:(c.Kind==1)=false:=by rw [k]; rfl
  have n:(c.Kind==2)=false:=by rw [k]; rfl
  have p:(c.Kind==3)=false:=by rw [k]; rfl
  have r:(c.Kind==4)=true:=by rw [k]; rfl
  simp only [i,n,p,r,s,u,z,J,aS,aB,aN,aA]
  rw [mw (a:=rT c.B) (b:=DE) (by omega),mw (a:=DE) (b:=rT c.C) (by omega),mw (a:=rT c.Head++KL) (b:=rT c.B) (by rw [aD]; omega)]
  simp only [aA]
  rw [mw (by rw [aD]; omega),mw (by simp only [aD]; omega)]
  simp only [aA]
  rw [mw (by simp only [aD]; omega)]
  have e:(if c.Kind=1 then c.mC else if c.Kind=2 then rT c.B else if c.Kind=3 then rT c.B++zN++c.mA else rT c.B++DE++rT c.C)=rT c.B++DE++rT c.C:=by rw [k]; rfl
  rw [e]
  refine ⟨rfl,?_,by simp only [aD]; omega⟩
  simp only [aA,dV]
theorem NU {k:Int} (d:0≤k) (h1:k < 10):mZ k=sP [IntKind.u8.wrap (wi0 .i64 (48+k))]:=by
 obtain ⟨n,rfl⟩:=Int.eq_ofNat_of_zero_le d
 have i:n < 10:=by omega
 unfold mZ Go.Lib.itoa
 rw [cI (by omega),Go.Lib.decDigits,dif_pos (by simpa using i)]
 rcases (by omega:n=0∨n=1∨n=2∨n=3∨n=4∨n=5∨n=6∨n=7∨n=8∨n=9) with rfl | rfl | rfl | rfl | rfl | rfl | rfl | rfl | rfl | rfl <;> rfl
def EK:ByteArray:=⟨#[44,32]⟩
def ER:ByteArray:=⟨#[40]⟩
def AJ:ByteArray:=⟨#[41]⟩
def Fb:List ByteArray→ByteArray
 | []=>zS
 | s::l=>EK++s++Fb l
theorem BU (a b:ByteArray):(a++b).data.toList=a.data.toList++b.data.toList:=by simp
theorem Iq (s:ByteArray):zS++s=s:=xA (by rw [BU]; rfl)
theorem yK (s:ByteArray):s++zS=s:=xA (by rw [BU]; exact bB _)
theorem KD:∀{ks:List Formula},wellL ks=true→∀k∈ks,vl k=true
 | [],_,k,hk=>by cases hk
 | x::ks,h,k,hk=>by
  rw [wellL,bQ] at h
  rcases aY.1 hk with rfl | hk
  ·exact h.1
  ·exact KD h.2 k hk
theorem Kp:∀l:List ByteArray,(Fb l).data.toList=Go.Lib.joinTail EK.data.toList (l.map (·.data.toList))
 | []=>rfl
 | s::l=>by
  rw [Fb,BU,BU,Kp l]
  simp [Go.Lib.joinTail]
theorem RT (s:ByteArray) (l:List ByteArray):HU (s::l) EK=s++Fb l:=by
 apply xA
 unfold HU
 rw [BU,Kp,bA,Go.Lib.join_cons]
def Dd:List ByteArray→ByteArray
 | []=>zS
 | s::l=>s++Fb l
theorem Ri (l:List ByteArray):HU l EK=Dd l:=by cases l with | nil=>rfl | cons s l=>exact RT s l
theorem Lz (x:ByteArray) (rec:Formula→Option ByteArray) (t:Formula→ByteArray) (s:x.size≤100):∀(ks:List Formula) (acc:List ByteArray),(∀k∈ks,rec k=some (t k))→(acc++ks.map t).length≤100→(Dd (acc++ks.map t)).size≤1000000→
  sF rec x ks acc=some (x++ER++Dd (acc++ks.map t)++AJ)
 | [],acc,_,d,i=>by
  have j:(⟨#[40]⟩:ByteArray)=ER:=rfl
  have n:(⟨#[44,32]⟩:ByteArray)=EK:=rfl
  have p:(⟨#[41]⟩:ByteArray)=AJ:=rfl
  have s1:ER.size=1:=rfl
  have v:AJ.size=1:=rfl
  simp only [eU,bB] at d i ⊢
  rw [sF,j,n,p,mw (by omega),aA]
  have q:Gp acc EK=some (Dd acc):=by
   unfold Gp; rw [Ri,cE (by omega)]
  rw [q,aA,mw (by rw [aD]; omega),aA,mw (by simp only [aD]; omega)]
  rfl
 | k::ks,acc,hk,d,i=>by
  have e:acc++(k::ks).map t=(acc++[t k])++ks.map t:=by simp
  rw [e] at d i ⊢
  have r:acc.length+1≤100:=by simp at d; omega
  rw [sF,hk k (by simp),aA,qg (by simp; omega) (by simp; omega),aA,Lz x rec t s ks _ (λz u=>hk z (by simp [u])) d i]
theorem Lh (rec:Formula→Option ByteArray) (t:Formula→ByteArray):∀(ks:List Formula) (i:Nat) (x:ByteArray),(∀k∈ks,rec k=some (t k))→x.size+(Fb (ks.map t)).size≤1000000→
  pZ rec ks (i+1) x=some (x++Fb (ks.map t)++AJ)
 | [],i,x,_,d=>by
  have n:(⟨#[41]⟩:ByteArray)=AJ:=rfl
  have q:AJ.size=1:=rfl
  rw [pZ,n,mw (by omega)]
  rw [eU,Fb,yK]; rfl
 | k::ks,i,x,hk,d=>by
  have j:(⟨#[44,32]⟩:ByteArray)=EK:=rfl
  have s2:EK.size=2:=rfl
  rw [bA,Fb] at d ⊢
  simp only [aD] at d
  have h1:(((i+1:Nat):Int) > 0):=by omega
  rw [pZ,j]
  simp only [h1,bJ,aS]
  rw [mw (by omega)]
  simp only [aA]
  rw [hk k (by simp),aA,mw (by rw [aD]; omega),aA,Lh rec t ks (i+1) _ (λz p=>hk z (by simp [p])) (by simp only [aD]; omega)]
  simp only [dV]
theorem Qe (rec:Formula→Option ByteArray) (t:Formula→ByteArray) (ks:List Formula) (x:ByteArray) (hk:∀k∈ks,rec k=some (t k)) (d:x.size+(Dd (ks.map t)).size≤1000000) :
  pZ rec ks 0 x=some (x++Dd (ks.map t)++AJ):=by
 cases ks with
 | nil=>
  have i:(⟨#[41]⟩:ByteArray)=AJ:=rfl
  have n:AJ.size=1:=rfl
  rw [pZ,i,mw (by omega)]
  rw [eU,Dd,yK]; rfl
 | cons k ks=>
  rw [bA,Dd] at d ⊢
  simp only [aD] at d
  have h1:¬(((0:Nat):Int) > 0):=by omega
  rw [pZ]
  simp only [h1,bL,aB,aN,aA]
  rw [hk k (by simp),aA,mw (by omega),aA,Lh rec t ks 0 _ (λz j=>hk z (by simp [j])) (by simp only [aD]; omega)]
  simp only [dV]
theorem Kt (t:Formula→ByteArray):∀ks:List Formula,(∀k∈ks,(t k).size≤60*ma k)→(Fb (ks.map t)).size≤60*nodesL ks+2*ks.length∧(Dd (ks.map t)).size≤60*nodesL ks+2*ks.length
 | [],_=>⟨by simp [Fb,Ho],by simp [Dd,Ho]⟩
 | k::ks,h=>by
  obtain ⟨a,b⟩:=Kt t ks (λx d=>h x (by simp [d]))
  have:=h k (by simp)
  have e:EK.size=2:=rfl
  rw [bA,Fb,Dd,nodesL,aJ]
  simp only [aD]
  omega
theorem OA:∀(n:Nat) (f:Formula),qc f≤n→vl f=true→ma f≤64→∃s,pN n f=some s∧qO n f=some s∧s.size≤60*ma f:=by
 intro n
 induction n with
 | zero=>intro f h; rw [pa] at h; omega
 | succ n ih=>
  intro f J hw Y
  rw [pa] at J
  have M:=rl f
  obtain ⟨h1,G,I⟩:=Dt hw
  have hk:∀k∈f.Kids,qc k≤n∧vl k=true∧ma k≤64:=λk hk=>by
   have:=uT hk
   refine ⟨by omega,?_,?_⟩
   ·exact KD G k hk
   ·have:=xD hk; omega
  let t:Formula→ByteArray:=λk=>(pN n k).getD zS
  have q:∀k∈f.Kids,pN n k=some (t k)∧qO n k=some (t k)∧(t k).size≤60*ma k:=λk p=>by
   obtain ⟨a,b,c⟩:=hk k p
   obtain ⟨s,j,A,E⟩:=ih k a b c
   have:t k=s:=by show (pN n k).getD zS=s; rw [j]; rfl
   rw [this]; exact ⟨j,A,E⟩
  have O:=Kt t f.Kids (λk hk=>(q k hk).2.2)
  rw [pN,qO]
  unfold yu yx
  have j:(⟨#[40]⟩:ByteArray)=ER:=rfl
  have s1:ER.size=1:=rfl
  have s3:AJ.size=1:=rfl
  have fin:∀x:ByteArray,x.size≤10→sF (pN n) x f.Kids []=some (x++ER++Dd (f.Kids.map t)++AJ)∧pZ (qO n) f.Kids 0 (x++ER)=some (x++ER++Dd (f.Kids.map t)++AJ)∧(x++ER++Dd (f.Kids.map t)++AJ).size≤60*ma f:=λx Z=>by
   refine ⟨?_,?_,?_⟩
   ·have:=Lz x (pN n) t (by omega) f.Kids [] (λk hk=>(q k hk).1) (by simp; omega) (by simp only [bM]; omega)
    rw [this]; rfl
   ·exact Qe (qO n) t f.Kids _ (λk hk=>(q k hk).2.1) (by rw [aD]; omega)
   ·simp only [aD]; omega
  rcases I with ⟨k,w,P,_⟩ | ⟨k,_⟩ | ⟨k,_,Q,i,_⟩
  ·obtain ⟨a,b,c⟩:=vO w
   have a2:=(vO w).2.1
   unfold tV at a2
   have i:(f.Op==1)=true:=by rw [k]; rfl
   simp only [i,aS]
   rw [a,a2]
   exact ⟨_,rfl,rfl,by omega⟩
  ·have i:(f.Op==1)=false:=by rcases k with k | k <;> rw [k] <;> rfl
   have z:(f.Op==4)=false:=by rcases k with k | k <;> rw [k] <;> rfl
   rcases k with k | k
   ·have r:(f.Op==2)=true:=by rw [k]; rfl
    have u:(f.Op==3)=false:=by rw [k]; rfl
    simp only [i,r,u,z,aS,aB,aN,aA]
    obtain ⟨a,b,c⟩:=fin ⟨#[97,108,108]⟩ (by decide)
    exact ⟨_,a,b,c⟩
   ·have r:(f.Op==2)=false:=by rw [k]; rfl
    have u:(f.Op==3)=true:=by rw [k]; rfl
    simp only [i,r,u,z,aS,aB,aN,aA]
    obtain ⟨a,b,c⟩:=fin ⟨#[115,111,109,101]⟩ (by decide)
    exact ⟨_,a,b,c⟩
  ·have R:(f.Op==1)=false:=by rw [k]; rfl
   have T:(f.Op==2)=false:=by rw [k]; rfl
   have U:(f.Op==3)=false:=by rw [k]; rfl
   have W:(f.Op==4)=true:=by rw [k]; rfl
   have d:=NU Q (by omega)
   have L:sC f.K=some (mZ f.K):=vx (by unfold tQ; omega)
   have P:=pP (n:=f.K) (by unfold tQ; omega)
   have v:(mZ f.K).size=1:=by rw [d,Mx,HT]; rfl
   simp only [R,T,U,W,aS,aB,aN]
   rw [L,←d,j]
   simp only [aA]
   have s4:(⟨#[97,116,32]⟩:ByteArray).size=3:=rfl
   rw [mw (by omega)]
   simp only [aA]
   rw [mw (by rw [aD]; omega)]
   simp only [aA]
   obtain ⟨a,b,c⟩:=fin ((⟨#[97,116,32]⟩:ByteArray)++mZ f.K) (by rw [aD]; omega)
   exact ⟨_,a,b,c⟩
def Ar:List ByteArray→ByteArray
 | []=>zS
 | s::l=>s++Ar l
theorem Kh:∀l:List ByteArray,(∀s∈l,s.size≤300)→(Ar l).size≤300*l.length
 | [],_=>by simp [Ar,Ho]
 | s::l,h=>by
  have:=Kh l (λx d=>h x (by simp [d]))
  have:=h s (by simp)
  rw [Ar,aD,aJ]; omega
theorem I1:SWO (λa b:kC=>yI a b) where
 Kj x:=Bq _
 tr x y z h1 d:=zi _ _ _ h1 d
 H5 x y z h:=by
  have h:Op.bytesLess (Ce x) (Ce z)=true:=h
  rcases Cc (Ce x) (Ce y) with q | q | q
  ·exact .inl q
  ·exact .inr (by show Op.bytesLess (Ce y) (Ce z)=true; rw [←q]; exact h)
  ·exact .inr (zi _ _ _ q h)
theorem I5:SWO (λa b:kz=>wh a b) where
 Kj x:=by
  have:=(Bb λ_=>True).irrefl x trivial
  simpa using this
 tr x y z h1 d:=(Bb λ_=>True).trans _ _ _ trivial trivial trivial h1 d
 H5 x y z h:=by
  rcases (Bb λ_=>True).total x y trivial trivial with q | q | q
  ·exact .inl q
  ·exact .inr (q▸h)
  ·exact .inr ((Bb λ_=>True).trans _ _ _ trivial trivial trivial q h)
theorem FH {α β:Type} {f:α→β}:∀{l:List α},(l.map f).Nodup→∀{x y:α},x∈l→y∈l→f x=f y→x=y
 | [],_,x,_,n,_,_=>by cases n
 | z::l,h,x,y,n,q,e=>by
  rw [bA,eT] at h
  rcases aY.1 n with p | i
  ·rcases aY.1 q with j | d
   ·rw [p,j]
   ·exact absurd (bE.2 ⟨y,d,by rw [←e,p]⟩) h.1
  ·rcases aY.1 q with j | d
   ·exact absurd (bE.2 ⟨x,i,by rw [e,j]⟩) h.1
   ·exact FH h.2 i d e
abbrev mq (x:lh):kC:=x.Signed.kC
noncomputable abbrev sw (x y:lh):Bool:=lQ (sP x.Signed.Tag) (sP y.Signed.Tag)&&xy x.kE y.kE
abbrev Ab (k:kC):ByteArray:=cT k
noncomputable abbrev wm (a b:List lh) (k:kC):ByteArray:=wV mq lL sw a b k
noncomputable def yM (a b:List lh) (k:kC):ky:=⟨k,Ab k,wm a b k⟩
theorem MV (x:lh) (h:nW (mq x)=true):po x=some (Ab (mq x))∧(Ab (mq x)).size≤200:=by
 obtain ⟨a,_,c⟩:=E5 h
 unfold po
 rw [a]; exact ⟨rfl,c⟩
theorem Qf (x y:lh) (h:Gd x.kE):pG x y=some (sw x y):=by
 unfold pG xa
 rw [aA,Gw _ _ h]
 unfold sw
 cases lQ (sP x.Signed.Tag) (sP y.Signed.Tag) <;> rfl
theorem MK (k:kC) (f:lh→Option Bool) (d:∀x,f x=some (lL (mq x) k)):∀(l:List lh) (i:Nat),nw f l i=some (rC mq lL l k i)
 | [],i=>by rw [nw]; rfl
 | x::l,i=>by
  rw [nw,d,aA,rC,MK k f d l (i+1)]
  cases lL (mq x) k <;> rfl
theorem Sg (l:List lh) (k:kC):qU l k (λx=>oM x)=some (rC mq lL l k 0):=by
 unfold qU oV
 rw [MK k (λx=>rp x (λx=>oM x) k) (λx=>rfl)]
 rfl
theorem Lq (a b:List lh):∀(l:List lh) (acc:List ky),(∀x∈l,nW (mq x)=true)→acc.length+l.length≤1000000→
  pg (λx=>oM x) a (λx=>po x) l acc=some (acc++((l.map mq).filter λk=>(vQ mq lL a k).isNone).map (yM a b))
 | [],acc,_,_=>by rw [pg]; simp
 | x::l,acc,j,r=>by
  rw [aJ] at r
  have p:oM x=some (mq x):=rfl
  rw [pg,p,aA,Sg,aA,aA,(MV x (j x (by simp))).1,aA,bA,fH]
  rcases sb mq lL (mq x) a 0 with ⟨h1,i⟩ | ⟨A,y,B,s,h1,_,i⟩
  ·rw [i,h1]
   have q:yM a b (mq x)=⟨mq x,Ab (mq x),Dc⟩:=by unfold yM wm wV; rw [h1]
   have d:(⟨#[43]⟩:ByteArray)=Dc:=rfl
   simp only [show ((-1:Int) < 0) from by omega,bJ,aS,jr,bA]
   rw [d,←q,qg (by simp; omega) (by simp; omega),aA,Lq a b l _ (λz n=>j z (by simp [n])) (by simp; omega)]
   simp
  ·rw [i,h1]
   have d:¬(((0+A.length:Nat):Int) < 0):=by omega
   simp only [d,bL,aB,aN,Option.isNone_some]
   exact Lq a b l acc (λz n=>j z (by simp [n])) (by omega)
theorem O1 (a b:List lh) (hb:∀x∈b,nW (mq x)=true):∀(l:List lh) (acc:List ky),(∀x∈l,nW (mq x)=true∧vQ mq lL a (mq x)=some x∧Gd x.kE)→acc.length+l.length+b.length≤1000000→
  ou (λx=>oM x) b (λx=>po x) (λx=>pG x.1 x.2) a l acc=some (acc++((l.map mq).filter λk=>!lQ (wm a b k) zS).map (yM a b)++((b.map mq).filter λk=>(vQ mq lL a k).isNone).map (yM a b))
 | [],acc,_,r=>by
  rw [ou,Lq a b b acc hb (by simp at r; omega)]
  simp
 | x::l,acc,u,r=>by
  rw [aJ] at r
  obtain ⟨L,hk,J⟩:=u x (by simp)
  have v:oM x=some (mq x):=rfl
  have ih:=λacc=>O1 a b hb l acc (λz M=>u z (by simp [M]))
  rw [ou,v,aA,Sg,aA,(MV x L).1]
  simp only [aA]
  rw [bA,fH]
  have step:∀s:ByteArray,wm a b (mq x)=s→((oB 168 acc ([(⟨mq x,Ab (mq x),s⟩:ky)])).bind λi=>ou (λx=>oM x) b (λx=>po x) (λx=>pG x.1 x.2) a l i)=some (acc++(yM a b (mq x)::((l.map mq).filter λk=>!lQ (wm a b k) zS).map (yM a b))++((b.map mq).filter λk=>(vQ mq lL a k).isNone).map (yM a b)):=λs j=>by
   rw [qg (by simp; omega) (by simp; omega),aA,ih _ (by simp; omega)]
   have:(⟨mq x,Ab (mq x),s⟩:ky)=yM a b (mq x):=by unfold yM; rw [j]
   rw [this]; simp
  rcases sb mq lL (mq x) b 0 with ⟨h1,q⟩ | ⟨A,y,B,I,h1,_,q⟩
  ·rw [q]
   have d:wm a b (mq x)=Bm:=by unfold wm wV; rw [hk,h1]
   have n:(⟨#[45]⟩:ByteArray)=Bm:=rfl
   have p:(!lQ Bm zS)=true:=by decide +kernel
   simp only [show ((-1:Int) < 0) from by omega,bJ,aS]
   rw [d,p,cE rfl,n,step _ d,bA]
  ·rw [q]
   have d:wm a b (mq x)=if sw x y then zS else Di:=by unfold wm wV; rw [hk,h1]
   have n:¬(((0+A.length:Nat):Int) < 0):=by omega
   have p:(⟨#[42]⟩:ByteArray)=Di:=rfl
   have w:(!lQ Di zS)=true:=by decide +kernel
   have E:(!lQ zS zS)=false:=by decide +kernel
   have G:lM b ((0+A.length:Nat):Int)=some y:=by rw [I]; exact mD A y B _ (by omega)
   simp only [n,bL,aB,aN]
   rw [G,aA]
   rw [Qf x y J,aA]
   cases j:sw x y
   ·rw [j] at d
    simp only [aB,aN] at d
    rw [d,w,cE rfl,dY,cE rfl,p,step _ d,bA]
   ·rw [j] at d
    simp only [aS] at d
    rw [d,E]
    simp only [cY,aB,aN]
    exact ih acc (by omega)
theorem O9 (a b:List lh) (d:List ky):∀(l:List kC) (acc:ByteArray),(∀k∈l,(Ab k).size≤200)→acc.size+300*l.length≤1000000000→
  qy d (l.map (yM a b)) acc=some (acc++Ar (l.map λk=>wm a b k++oO++Ab k++qI),d)
 | [],acc,_,_=>by rw [eU,qy,eU,Ar,yK]; rfl
 | k::l,acc,hk,q=>by
  rw [aJ] at q
  have s:=hk k (by simp)
  have h1:(wm a b k).size≤1:=by
   unfold wm wV
   split
   ·exact aQ _
   ·exact aQ _
   ·split
    ·exact eB _
    ·exact aQ _
  have i:(⟨#[32]⟩:ByteArray)=oO:=rfl
  have j:(⟨#[10]⟩:ByteArray)=qI:=rfl
  have s1:oO.size=1:=rfl
  have s2:qI.size=1:=rfl
  have n:(yM a b k).sign=wm a b k:=rfl
  have p:(yM a b k).text=Ab k:=rfl
  rw [bA,qy,i,j,n,p,mw (by omega),aA,mw (by rw [aD]; omega),aA,mw (by simp only [aD]; omega),aA]
  have hb:CO acc (wm a b k++oO++Ab k++qI)=some (acc++(wm a b k++oO++Ab k++qI)):=by
   unfold CO; rw [cE (by simp only [aD]; omega)]
  rw [hb,aA,O9 a b d l _ (λz r=>hk z (by simp [r])) (by simp only [aD]; omega),bA,Ar]
  simp only [dV]
noncomputable def Br (a b:List lh) (S:List kC):ByteArray:=Ar ((S.filter λk=>!lQ (wm a b k) zS).map λk=>wm a b k++oO++Ab k++qI)
theorem Oj (a b:List lh) (S:List kC) (ha:vH (a.map mq) (a.map mq)) (hb:vH (b.map mq) (b.map mq)) (s:vH (a.map mq++b.map mq) S) (Q:∀x∈a,Gd x.kE) (Y:a.length+b.length≤100000) :
  ∃E T,rX a b (λx=>oM x) (λx=>pG x.1 x.2) (λx=>po x)=some E∧vh E (λx=>oS x.1 x.2)=some (Br a b S,T):=by
 have U:∀x∈a,nW (mq x)=true:=λx d=>((ha.2 (mq x)).1 (bE.2 ⟨x,d,rfl⟩)).2
 have W:∀x∈b,nW (mq x)=true:=λx d=>((hb.2 (mq x)).1 (bE.2 ⟨x,d,rfl⟩)).2
 have nd:∀{l:List lh},vH (l.map mq) (l.map mq)→(l.map mq).Nodup:=λ{l} h=>by
  refine h.1.imp_of_mem λ{x y} d u w v=>?_
  subst v
  exact Ev.irrefl x ((h.2 x).1 d).2 w
 have hk:∀x∈a,vQ mq lL a (mq x)=some x:=λx d=>by
  rcases sb mq lL (mq x) a 0 with ⟨h1,_⟩ | ⟨A,y,B,O,h1,i,_⟩
  ·exact absurd (bE.2 ⟨x,d,rfl⟩) ((AT (hb:=λx y=>qC) mq lL).1 h1)
  ·have u:y∈a:=by rw [O]; simp
   have e:=qC.1 i
   rw [h1]
   rw [FH (nd ha) u d e]
 have key:rX a b (λx=>oM x) (λx=>pG x.1 x.2) (λx=>po x)=some ((xv mq lL sw a b).map (yM a b)):=by
  unfold rX
  rw [O1 a b W a [] (λx d=>⟨U x d,hk x d,Q x d⟩) (by simp; omega),xv,cP]
  rfl
 have j:∀k,k∈xv mq lL sw a b↔k∈S.filter λk=>!lQ (wm a b k) zS:=λk=>by
  unfold xv
  rw [aV,cQ,cQ,cQ,s.2 k,aV]
  have R:(vQ mq lL a k).isNone=true↔k∉a.map mq:=by
   rw [eY]; exact AT (hb:=λx y=>qC) mq lL
  constructor
  ·rintro (⟨h1,i⟩ | ⟨h1,i⟩)
   ·exact ⟨⟨.inl h1,((ha.2 k).1 h1).2⟩,i⟩
   ·refine ⟨⟨.inr h1,((hb.2 k).1 h1).2⟩,?_⟩
    have:wm a b k=Dc:=by unfold wm wV; rw [eY.1 i]
    rw [this]; decide +kernel
  ·rintro ⟨⟨h1,i⟩,M⟩
   by_cases q:k∈a.map mq
   ·exact .inl ⟨q,M⟩
   ·exact .inr ⟨h1.resolve_left q,R.2 q⟩
 have I:(xv mq lL sw a b).Nodup:=by
  unfold xv
  rw [cW]
  refine ⟨(nd ha).filter _,(nd hb).filter _,λx d y u v=>?_⟩
  subst v
  have h1:=(cQ.1 d).1
  have i:=(cQ.1 u).2
  exact (AT (hb:=λx y=>qC) mq lL).1 (eY.1 i) h1
 have L:(xv mq lL sw a b).length≤a.length+b.length:=by
  unfold xv
  have h1:=eL (λk=>!lQ (wV mq lL sw a b k) zS) (a.map mq)
  have i:=eL (λk=>(vQ mq lL a k).isNone) (b.map mq)
  simp only [bW,aC] at *; omega
 refine ⟨_,yz (λx y:ky=>yI x.key y.key) ((xv mq lL sw a b).map (yM a b)),key,?_⟩
 let c:ky→ky→Int:=λx y=>(oS x.key y.key).getD 0
 have J:∀x y:ky,oS x.key y.key=some (c x y)∧decide (c x y < 0)=yI x.key y.key:=λx y=>by
  obtain ⟨z,e,h⟩:=BF x.key y.key
  have:c x y=z:=by show (oS x.key y.key).getD 0=z; rw [e]; rfl
  rw [this]
  exact ⟨e,by rw [cZ,cX]; exact h⟩
 have p:mL c=λx y:ky=>yI x.key y.key:=by funext x y; exact (J x y).2
 have swo:SWO (λx y:ky=>yI x.key y.key):=⟨λx=>I1.Kj _,λx y z=>I1.tr _ _ _,λx y z=>I1.H5 _ _ _⟩
 have r:=I7 (c:=c) (f:=λx=>tO x.1 x.2 (λx=>oS x.1 x.2)) (G:=λ_=>True) (by rw [p]; exact swo) (λx y _ _=>by show (oS x.key y.key).bind _=_; rw [(J x y).1]; rfl) ((xv mq lL sw a b).map (yM a b)) (λ_ _=>trivial) (by simp; omega)
 rw [p] at r
 have n:=H2 (key:=ky.key) (lk:=yI) (P:=λc=>nW c=true) swo Ev (l:=(xv mq lL sw a b).map (yM a b)) (S:=S.filter λk=>!lQ (wm a b k) zS) (λx d=>by
  obtain ⟨k,h1,rfl⟩:=bE.1 d
  exact ((s.2 k).1 (cQ.1 ((j k).1 h1)).1).2) (by
   rw [gH]
   have:(ky.key∘yM a b)=id:=rfl
   rw [this,jF]; exact I) (s.1.filter _) (λk=>by
   rw [gH]
   have:(ky.key∘yM a b)=id:=rfl
   rw [this,jF]; exact (j k).symm) (yM a b) (λx d=>by
   obtain ⟨k,h1,rfl⟩:=bE.1 d
   rfl)
 unfold vh
 rw [r,aA]
 have hlen:(S.filter λk=>!lQ (wm a b k) zS).length≤100000:=by
  have:=bO List.length n
  rw [(CR _ _).length_eq,bW,bW] at this
  omega
 have:=O9 a b (yz (λx y:ky=>yI x.key y.key) ((xv mq lL sw a b).map (yM a b))) (S.filter λk=>!lQ (wm a b k) zS) zS (λk hk=>(E5 ((s.2 k).1 (cQ.1 hk).1).2).2.2) (by rw [Ho]; omega)
 rw [Iq] at this
 rw [n] at this ⊢
 exact this
def Cq:ByteArray:=⟨#[97,99,107,32]⟩
abbrev mm (x:mn):kz:=x.kz
noncomputable abbrev st (x y:mn):Bool:=xy x.kE y.kE&&(pD x.lN y.lN).getD false
def zk (k:kz):ByteArray:=Cq++rT k
noncomputable abbrev vW (a b:List mn) (k:kz):ByteArray:=wV mm lq st a b k
noncomputable def yE (a b:List mn) (k:kz):kK:=⟨k,zk k,vW a b k⟩
theorem MN (x:mn) (h:mu (mm x)=true):pp x=some (zk (mm x))∧(zk (mm x)).size≤200:=by
 obtain ⟨a,_,c⟩:=vO h
 have e:(⟨#[97,99,107,32]⟩:ByteArray)=Cq:=rfl
 have d:Cq.size=4:=rfl
 unfold pp
 rw [a,e,aA,mw (by omega)]
 exact ⟨rfl,by show (Cq++rT (mm x)).size≤200; rw [aD]; omega⟩
theorem Qu (x y:mn) (h:Gd x.kE):pF x y=some (st x y):=by
 obtain ⟨b,e,_⟩:=Lv x.lN y.lN
 unfold pF
 rw [Gw _ _ h]
 unfold st
 rw [e]
 cases xy x.kE y.kE <;> rfl
theorem My (k:kz) (f:mn→Option Bool) (d:∀x,f x=some (lq (mm x) k)):∀(l:List mn) (i:Nat),ob f l i=some (rC mm lq l k i)
 | [],i=>by rw [ob]; rfl
 | x::l,i=>by
  rw [ob,d,aA,rC,My k f d l (i+1)]
  cases lq (mm x) k <;> rfl
theorem Sq (l:List mn) (k:kz):qW l k (λx=>oL x)=some (rC mm lq l k 0):=by
 unfold qW py
 rw [My k (λx=>rn x (λx=>oL x) k) (λx=>rfl)]
 rfl
theorem Kq (a b:List mn):∀(l:List mn) (acc:List kK),(∀x∈l,mu (mm x)=true)→acc.length+l.length≤1000000→
  ph (λx=>oL x) a (λx=>pp x) l acc=some (acc++((l.map mm).filter λk=>(vQ mm lq a k).isNone).map (yE a b))
 | [],acc,_,_=>by rw [ph]; simp
 | x::l,acc,j,r=>by
  rw [aJ] at r
  have p:oL x=some (mm x):=rfl
  rw [ph,p,aA,Sq,aA,aA,(MN x (j x (by simp))).1,aA,bA,fH]
  rcases sb mm lq (mm x) a 0 with ⟨h1,i⟩ | ⟨A,y,B,s,h1,_,i⟩
  ·rw [i,h1]
   have q:yE a b (mm x)=⟨mm x,zk (mm x),Dc⟩:=by unfold yE vW wV; rw [h1]
   have d:(⟨#[43]⟩:ByteArray)=Dc:=rfl
   simp only [show ((-1:Int) < 0) from by omega,bJ,aS,jr,bA]
   rw [d,←q,qg (by simp; omega) (by simp; omega),aA,Kq a b l _ (λz n=>j z (by simp [n])) (by simp; omega)]
   simp
  ·rw [i,h1]
   have d:¬(((0+A.length:Nat):Int) < 0):=by omega
   simp only [d,bL,aB,aN,Option.isNone_some]
   exact Kq a b l acc (λz n=>j z (by simp [n])) (by omega)
theorem On (a b:List mn) (hb:∀x∈b,mu (mm x)=true):∀(l:List mn) (acc:List kK),(∀x∈l,mu (mm x)=true∧vQ mm lq a (mm x)=some x∧Gd x.kE)→acc.length+l.length+b.length≤1000000→
  ov (λx=>oL x) b (λx=>pp x) (λx=>pF x.1 x.2) a l acc=some (acc++((l.map mm).filter λk=>!lQ (vW a b k) zS).map (yE a b)++((b.map mm).filter λk=>(vQ mm lq a k).isNone).map (yE a b))
 | [],acc,_,r=>by
  rw [ov,Kq a b b acc hb (by simp at r; omega)]
  simp
 | x::l,acc,u,r=>by
  rw [aJ] at r
  obtain ⟨L,hk,J⟩:=u x (by simp)
  have v:oL x=some (mm x):=rfl
  have ih:=λacc=>On a b hb l acc (λz M=>u z (by simp [M]))
  rw [ov,v,aA,Sq,aA,(MN x L).1]
  simp only [aA]
  rw [bA,fH]
  have step:∀s:ByteArray,vW a b (mm x)=s→((oB 64 acc ([(⟨mm x,zk (mm x),s⟩:kK)])).bind λi=>ov (λx=>oL x) b (λx=>pp x) (λx=>pF x.1 x.2) a l i)=some (acc++(yE a b (mm x)::((l.map mm).filter λk=>!lQ (vW a b k) zS).map (yE a b))++((b.map mm).filter λk=>(vQ mm lq a k).isNone).map (yE a b)):=λs j=>by
   rw [qg (by simp; omega) (by simp; omega),aA,ih _ (by simp; omega)]
   have:(⟨mm x,zk (mm x),s⟩:kK)=yE a b (mm x):=by unfold yE; rw [j]
   rw [this]; simp
  rcases sb mm lq (mm x) b 0 with ⟨h1,q⟩ | ⟨A,y,B,I,h1,_,q⟩
  ·rw [q]
   have d:vW a b (mm x)=Bm:=by unfold vW wV; rw [hk,h1]
   have n:(⟨#[45]⟩:ByteArray)=Bm:=rfl
   have p:(!lQ Bm zS)=true:=by decide +kernel
   simp only [show ((-1:Int) < 0) from by omega,bJ,aS]
   rw [d,p,cE rfl,n,step _ d,bA]
  ·rw [q]
   have d:vW a b (mm x)=if st x y then zS else Di:=by unfold vW wV; rw [hk,h1]
   have n:¬(((0+A.length:Nat):Int) < 0):=by omega
   have p:(⟨#[42]⟩:ByteArray)=Di:=rfl
   have w:(!lQ Di zS)=true:=by decide +kernel
   have E:(!lQ zS zS)=false:=by decide +kernel
   have G:lM b ((0+A.length:Nat):Int)=some y:=by rw [I]; exact mD A y B _ (by omega)
   simp only [n,bL,aB,aN]
   rw [G,aA]
   rw [Qu x y J,aA]
   cases j:st x y
   ·rw [j] at d
    simp only [aB,aN] at d
    rw [d,w,cE rfl,dY,cE rfl,p,step _ d,bA]
   ·rw [j] at d
    simp only [aS] at d
    rw [d,E]
    simp only [cY,aB,aN]
    exact ih acc (by omega)
theorem Oz (a b:List mn) (d:List kK):∀(l:List kz) (acc:ByteArray),(∀k∈l,(zk k).size≤200)→acc.size+300*l.length≤1000000000→
  pb d (l.map (yE a b)) acc=some (acc++Ar (l.map λk=>vW a b k++oO++zk k++qI),d)
 | [],acc,_,_=>by rw [eU,pb,eU,Ar,yK]; rfl
 | k::l,acc,hk,q=>by
  rw [aJ] at q
  have s:=hk k (by simp)
  have h1:(vW a b k).size≤1:=by
   unfold vW wV
   split
   ·exact aQ _
   ·exact aQ _
   ·split
    ·exact eB _
    ·exact aQ _
  have i:(⟨#[32]⟩:ByteArray)=oO:=rfl
  have j:(⟨#[10]⟩:ByteArray)=qI:=rfl
  have s1:oO.size=1:=rfl
  have s2:qI.size=1:=rfl
  have n:(yE a b k).sign=vW a b k:=rfl
  have p:(yE a b k).text=zk k:=rfl
  rw [bA,pb,i,j,n,p,mw (by omega),aA,mw (by rw [aD]; omega),aA,mw (by simp only [aD]; omega),aA]
  have hb:CO acc (vW a b k++oO++zk k++qI)=some (acc++(vW a b k++oO++zk k++qI)):=by
   unfold CO; rw [cE (by simp only [aD]; omega)]
  rw [hb,aA,Oz a b d l _ (λz r=>hk z (by simp [r])) (by simp only [aD]; omega),bA,Ar]
  simp only [dV]
noncomputable def Ee (a b:List mn) (S:List kz):ByteArray:=Ar ((S.filter λk=>!lQ (vW a b k) zS).map λk=>vW a b k++oO++zk k++qI)
theorem Pe (a b:List mn) (S:List kz) (ha:Cw (a.map mm) (a.map mm)) (hb:Cw (b.map mm) (b.map mm)) (s:Cw (a.map mm++b.map mm) S) (Q:∀x∈a,Gd x.kE) (Y:a.length+b.length≤19) :
  ∃E T,rW a b (λx=>oL x) (λx=>pF x.1 x.2) (λx=>pp x)=some E∧vm E (λx=>oR x.1 x.2)=some (Ee a b S,T):=by
 have U:∀x∈a,mu (mm x)=true:=λx d=>((ha.2 (mm x)).1 (bE.2 ⟨x,d,rfl⟩)).2
 have W:∀x∈b,mu (mm x)=true:=λx d=>((hb.2 (mm x)).1 (bE.2 ⟨x,d,rfl⟩)).2
 have nd:∀{l:List mn},Cw (l.map mm) (l.map mm)→(l.map mm).Nodup:=λ{l} h=>by
  refine h.1.imp_of_mem λ{x y} d u w v=>?_
  subst v
  exact (Bb λc=>mu c=true).irrefl x ((h.2 x).1 d).2 w
 have hk:∀x∈a,vQ mm lq a (mm x)=some x:=λx d=>by
  rcases sb mm lq (mm x) a 0 with ⟨h1,_⟩ | ⟨A,y,B,O,h1,i,_⟩
  ·exact absurd (bE.2 ⟨x,d,rfl⟩) ((AT (hb:=λx y=>ny) mm lq).1 h1)
  ·have u:y∈a:=by rw [O]; simp
   have e:=ny.1 i
   rw [h1]
   rw [FH (nd ha) u d e]
 have key:rW a b (λx=>oL x) (λx=>pF x.1 x.2) (λx=>pp x)=some ((xv mm lq st a b).map (yE a b)):=by
  unfold rW
  rw [On a b W a [] (λx d=>⟨U x d,hk x d,Q x d⟩) (by simp; omega),xv,cP]
  rfl
 have j:∀k,k∈xv mm lq st a b↔k∈S.filter λk=>!lQ (vW a b k) zS:=λk=>by
  unfold xv
  rw [aV,cQ,cQ,cQ,s.2 k,aV]
  have R:(vQ mm lq a k).isNone=true↔k∉a.map mm:=by
   rw [eY]; exact AT (hb:=λx y=>ny) mm lq
  constructor
  ·rintro (⟨h1,i⟩ | ⟨h1,i⟩)
   ·exact ⟨⟨.inl h1,((ha.2 k).1 h1).2⟩,i⟩
   ·refine ⟨⟨.inr h1,((hb.2 k).1 h1).2⟩,?_⟩
    have:vW a b k=Dc:=by unfold vW wV; rw [eY.1 i]
    rw [this]; decide +kernel
  ·rintro ⟨⟨h1,i⟩,M⟩
   by_cases q:k∈a.map mm
   ·exact .inl ⟨q,M⟩
   ·exact .inr ⟨h1.resolve_left q,R.2 q⟩
 have I:(xv mm lq st a b).Nodup:=by
  unfold xv
  rw [cW]
  refine ⟨(nd ha).filter _,(nd hb).filter _,λx d y u v=>?_⟩
  subst v
  have h1:=(cQ.1 d).1
  have i:=(cQ.1 u).2
  exact (AT (hb:=λx y=>ny) mm lq).1 (eY.1 i) h1
 have L:(xv mm lq st a b).length≤a.length+b.length:=by
  unfold xv
  have h1:=eL (λk=>!lQ (wV mm lq st a b k) zS) (a.map mm)
  have i:=eL (λk=>(vQ mm lq a k).isNone) (b.map mm)
  simp only [bW,aC] at *; omega
 refine ⟨_,yz (λx y:kK=>wh x.key y.key) ((xv mm lq st a b).map (yE a b)),key,?_⟩
 let c:kK→kK→Int:=λx y=>(oR x.key y.key).getD 0
 have J:∀x y:kK,oR x.key y.key=some (c x y)∧decide (c x y < 0)=wh x.key y.key:=λx y=>by
  obtain ⟨z,e,h⟩:=yA x.key y.key
  have:c x y=z:=by show (oR x.key y.key).getD 0=z; rw [e]; rfl
  rw [this]
  exact ⟨e,by rw [cZ,cX]; exact h⟩
 have p:uL c=λx y:kK=>wh x.key y.key:=by funext x y; exact (J x y).2
 have swo:SWO (λx y:kK=>wh x.key y.key):=⟨λx=>I5.Kj _,λx y z=>I5.tr _ _ _,λx y z=>I5.H5 _ _ _⟩
 have r:=NM (c:=c) (f:=λx=>tM x.1 x.2 (λx=>oR x.1 x.2)) (G:=λ_=>True) (by rw [p]; exact swo) (λx y _ _=>by show (oR x.key y.key).bind _=_; rw [(J x y).1]; rfl) ((xv mm lq st a b).map (yE a b)) (λ_ _=>trivial) (by simp; omega)
 rw [p] at r
 have n:=H2 (key:=kK.key) (lk:=wh) (P:=λc=>mu c=true) swo (Bb λc=>mu c=true) (l:=(xv mm lq st a b).map (yE a b)) (S:=S.filter λk=>!lQ (vW a b k) zS) (λx d=>by
  obtain ⟨k,h1,rfl⟩:=bE.1 d
  exact ((s.2 k).1 (cQ.1 ((j k).1 h1)).1).2) (by
   rw [gH]
   have:(kK.key∘yE a b)=id:=rfl
   rw [this,jF]; exact I) (s.1.filter _) (λk=>by
   rw [gH]
   have:(kK.key∘yE a b)=id:=rfl
   rw [this,jF]; exact (j k).symm) (yE a b) (λx d=>by
   obtain ⟨k,h1,rfl⟩:=bE.1 d
   rfl)
 unfold vm
 rw [r,aA]
 have hlen:(S.filter λk=>!lQ (vW a b k) zS).length≤100000:=by
  have:=bO List.length n
  rw [(CR _ _).length_eq,bW,bW] at this
  omega
 have:=Oz a b (yz (λx y:kK=>wh x.key y.key) ((xv mm lq st a b).map (yE a b))) (S.filter λk=>!lQ (vW a b k) zS) zS (λk hk=>(by have h:=(vO ((s.2 k).1 (cQ.1 hk).1).2).2.2; have Z:Cq.size=4:=rfl; show (Cq++rT k).size≤200; rw [aD]; omega)) (by rw [Ho]; omega)
 rw [Iq] at this
 rw [n] at this ⊢
 exact this
def FB (s:ByteArray):ByteArray:=if lQ s zS then zS else s++oO
theorem M7 {X K:Type} (key:X→K) (bq:K→K→Bool) (same:X→X→Bool) (a b:List X) (k:K) (m:Bool) (hm:∀x y,vQ key bq a k=some x→vQ key bq b k=some y→m=same x y) :
  xE (rC key bq a k 0) (rC key bq b k 0) m=some (FB (wV key bq same a b k)):=by
 unfold xE wV
 have n:FB Dc=(⟨#[43,32]⟩:ByteArray):=by decide +kernel
 have p:FB Bm=(⟨#[45,32]⟩:ByteArray):=by decide +kernel
 have q:FB Di=(⟨#[42,32]⟩:ByteArray):=by decide +kernel
 have r:FB zS=zS:=by decide +kernel
 rcases sb key bq k a 0 with ⟨h1,d⟩ | ⟨A,x,B,_,h1,_,d⟩
 ·rw [h1,d,n]; rfl
 ·have i:¬(((0+A.length:Nat):Int) < 0):=by omega
  rcases sb key bq k b 0 with ⟨g1,g2⟩ | ⟨C,y,D,_,g1,_,g2⟩
  ·rw [h1,d,g1,g2,p]
   simp only [i,bL,aB,aN]
   rfl
  ·have j:¬(((0+C.length:Nat):Int) < 0):=by omega
   rw [h1,d,g1,g2,hm x y h1 g1]
   simp only [i,j,bL,aB,aN]
   cases same x y
   ·simp only [dY,aS,aB,aN]; rw [q]
   ·simp only [cY,aS,aB,aN]; rw [r]
theorem ME (k:kC):∀(l:List lh) (i:Nat),uk k l i=some (rC mq lL l k i)
 | [],i=>by rw [uk]; rfl
 | x::l,i=>by
  rw [uk,rC,ME k l (i+1)]
  cases lL (mq x) k <;> rfl
theorem OK (l:List lh) (k:kC):Ao l k=some (rC mq lL l k 0):=ME k l 0
theorem Kz (k:kz):∀(l:List mn) (i:Nat),tF k l i=some (rC mm lq l k i)
 | [],i=>by rw [tF]; rfl
 | x::l,i=>by
  rw [tF,rC,Kz k l (i+1)]
  cases lq (mm x) k <;> rfl
theorem MH (l:List mn) (k:kz):zd l k=some (rC mm lq l k 0):=Kz k l 0
theorem EU {X K:Type} (key:X→K) (bq:K→K→Bool) (same:X→X→Bool) (a b:List X) (k:K):(wV key bq same a b k).size≤1:=by
 unfold wV
 split
 ·exact aQ _
 ·exact aQ _
 ·split
  ·exact eB _
  ·exact aQ _
theorem QR (s:ByteArray):lQ (FB s) zS=lQ s zS:=by
 unfold FB
 cases h:lQ s zS
 ·simp only [aB,aN]
  rw [Bool.eq_false_iff]
  intro q
  have:=qk.1 q
  have d:=bO ByteArray.size this
  rw [aD,Ho] at d
  have:oO.size=1:=rfl
  omega
 ·simp only [aS]; decide +kernel
theorem KK (p q:lZ) (I:∀x∈p.kM,Gd x.kE):∀(S:List kC) (acc:ByteArray),(∀k∈S,nW k=true)→acc.size+300*S.length≤1000000000→
  rH p q S acc=some (acc++Ar ((S.filter λk=>!lQ (wm p.kM q.kM k) zS).map λk=>wm p.kM q.kM k++oO++Ab k++qI))
 | [],acc,_,_=>by rw [rH,kh,eU,Ar,yK]
 | k::S,acc,hk,P=>by
  rw [aJ] at P
  obtain ⟨_,t1,t2⟩:=E5 (hk k (by simp))
  have R:=EU mq lL sw p.kM q.kM k
  have ih:=λacc=>KK p q I S acc (λz w=>hk z (by simp [w]))
  have s1:oO.size=1:=rfl
  have s2:qI.size=1:=rfl
  have J:(⟨#[10]⟩:ByteArray)=qI:=rfl
  rw [rH,OK,OK]
  simp only [aA]
  have main:∃m,(((if (decide (rC mq lL p.kM k 0≥0)) then some (decide (rC mq lL q.kM k 0≥0)) else some false):Option Bool).bind λi=>(((if i then ((lM p.kM (rC mq lL p.kM k 0)).bind λs=>((lM q.kM (rC mq lL q.kM k 0)).bind λu=>some (lQ (sP s.Signed.Tag) (sP u.Signed.Tag)))) else some false):Option Bool).bind λj=>((if j then ((lM p.kM (rC mq lL p.kM k 0)).bind λn=>((lM q.kM (rC mq lL q.kM k 0)).bind λr=>((pj li n.kE r.kE).bind λd=>some d))) else some false):Option Bool)))=some m∧∀x y,vQ mq lL p.kM k=some x→vQ mq lL q.kM k=some y→m=sw x y:=by
   rcases sb mq lL k p.kM 0 with ⟨h1,v⟩ | ⟨A,x,B,G,h1,_,v⟩
   ·rw [h1,v]; exact ⟨false,rfl,λx y h=>by cases h⟩
   ·have E:((0+A.length:Nat):Int)≥0:=by omega
    rcases sb mq lL k q.kM 0 with ⟨g1,g2⟩ | ⟨C,y,D,O,g1,_,g2⟩
    ·rw [g1,g2,v]
     simp only [E,bJ,aS]
     exact ⟨false,rfl,λx y _ h=>by cases h⟩
    ·have L:((0+C.length:Nat):Int)≥0:=by omega
     have i1:lM p.kM ((0+A.length:Nat):Int)=some x:=by rw [G]; exact mD A x B _ (by omega)
     have i2:lM q.kM ((0+C.length:Nat):Int)=some y:=by rw [O]; exact mD C y D _ (by omega)
     rw [h1,v,g1,g2]
     simp only [E,L,bJ,aS,aA,i1,i2]
     rw [Hu _ _ (I x (by rw [G]; simp))]
     refine ⟨sw x y,?_,λT U h M=>by cases h; cases M; rfl⟩
     unfold sw
     cases lQ (sP x.Signed.Tag) (sP y.Signed.Tag) <;> rfl
  obtain ⟨m,em,hm⟩:=main
  have key:∀F:Bool→Option ByteArray,(((if (decide (rC mq lL p.kM k 0≥0)) then some (decide (rC mq lL q.kM k 0≥0)) else some false):Option Bool).bind λi=>(((if i then ((lM p.kM (rC mq lL p.kM k 0)).bind λs=>((lM q.kM (rC mq lL q.kM k 0)).bind λu=>some (lQ (sP s.Signed.Tag) (sP u.Signed.Tag)))) else some false):Option Bool).bind λj=>(((if j then ((lM p.kM (rC mq lL p.kM k 0)).bind λn=>((lM q.kM (rC mq lL q.kM k 0)).bind λr=>((pj li n.kE r.kE).bind λd=>some d))) else some false):Option Bool).bind F)))=F m:=λF=>by
   have:=bO (λo=>o.bind F) em
   simpa only [Option.bind_assoc,aA] using this
  rw [key,M7 mq lL sw _ _ _ m hm,aA,QR,fH]
  cases w:lQ (wV mq lL sw p.kM q.kM k) zS
  ·have Q:FB (wV mq lL sw p.kM q.kM k)=wV mq lL sw p.kM q.kM k++oO:=by unfold FB; rw [w]; rfl
   simp only [dY,aS]
   rw [t1,aA,Q,J,mw (by rw [aD]; omega),aA,mw (by simp only [aD]; omega),aA,mw (by simp only [aD]; omega),aA,ih _ (by simp only [aD]; omega),bA,Ar]
   simp only [dV]
  ·simp only [cY,aB,aN]
   exact ih acc (by omega)
theorem Kg (p q:lZ) (J:∀x∈p.kU,Gd x.kE):∀(S:List kz) (acc:ByteArray),(∀k∈S,mu k=true)→acc.size+300*S.length≤1000000000→
  rL p q S acc=some (acc++Ar ((S.filter λk=>!lQ (vW p.kU q.kU k) zS).map λk=>vW p.kU q.kU k++oO++zk k++qI))
 | [],acc,_,_=>by rw [rL,kh,eU,Ar,yK]
 | k::S,acc,hk,W=>by
  rw [aJ] at W
  have t0:=Hl (hk k (by simp))
  have hs:=EU mm lq st p.kU q.kU k
  have ih:=λacc=>Kg p q J S acc (λz E=>hk z (by simp [E]))
  have s1:oO.size=1:=rfl
  have s2:qI.size=1:=rfl
  have O:(⟨#[10]⟩:ByteArray)=qI:=rfl
  rw [rL,MH,MH]
  simp only [aA]
  have main:∃m,(((if (decide (rC mm lq p.kU k 0≥0)) then some (decide (rC mm lq q.kU k 0≥0)) else some false):Option Bool).bind λj=>(((if j then ((lM p.kU (rC mm lq p.kU k 0)).bind λu=>((lM q.kU (rC mm lq q.kU k 0)).bind λv=>((pj li u.kE v.kE).bind λi=>some i))) else some false):Option Bool).bind λn=>((if n then ((lM p.kU (rC mm lq p.kU k 0)).bind λr=>((lM q.kU (rC mm lq q.kU k 0)).bind λs=>((vX r.lN s.lN).bind λd=>some d))) else some false):Option Bool)))=some m∧∀x y,vQ mm lq p.kU k=some x→vQ mm lq q.kU k=some y→m=st x y:=by
   rcases sb mm lq k p.kU 0 with ⟨h1,w⟩ | ⟨A,x,B,I,h1,_,w⟩
   ·rw [h1,w]; exact ⟨false,rfl,λx y h=>by cases h⟩
   ·have G:((0+A.length:Nat):Int)≥0:=by omega
    rcases sb mm lq k q.kU 0 with ⟨g1,g2⟩ | ⟨C,y,D,U,g1,_,g2⟩
    ·rw [g1,g2,w]
     simp only [G,bJ,aS]
     exact ⟨false,rfl,λx y _ h=>by cases h⟩
    ·have P:((0+C.length:Nat):Int)≥0:=by omega
     have i1:lM p.kU ((0+A.length:Nat):Int)=some x:=by rw [I]; exact mD A x B _ (by omega)
     have i2:lM q.kU ((0+C.length:Nat):Int)=some y:=by rw [U]; exact mD C y D _ (by omega)
     rw [h1,w,g1,g2]
     simp only [G,P,bJ,aS,aA,i1,i2]
     obtain ⟨L,f1,c1⟩:=TF x.lN y.lN
     obtain ⟨M,f2,c2⟩:=Lv x.lN y.lN
     have hb:L=M:=by rw [cZ,c1,c2]
     rw [Hu _ _ (J x (by rw [I]; simp)),f1]
     refine ⟨st x y,?_,λx' y' h T=>by cases h; cases T; rfl⟩
     unfold st
     rw [f2,hb]
     cases xy x.kE y.kE <;> rfl
  obtain ⟨m,em,hm⟩:=main
  have key:∀F:Bool→Option ByteArray,(((if (decide (rC mm lq p.kU k 0≥0)) then some (decide (rC mm lq q.kU k 0≥0)) else some false):Option Bool).bind λj=>(((if j then ((lM p.kU (rC mm lq p.kU k 0)).bind λu=>((lM q.kU (rC mm lq q.kU k 0)).bind λv=>((pj li u.kE v.kE).bind λi=>some i))) else some false):Option Bool).bind λn=>(((if n then ((lM p.kU (rC mm lq p.kU k 0)).bind λr=>((lM q.kU (rC mm lq q.kU k 0)).bind λs=>((vX r.lN s.lN).bind λd=>some d))) else some false):Option Bool).bind F)))=F m:=λF=>by
   have:=bO (λo=>o.bind F) em
   simpa only [Option.bind_assoc,aA] using this
  rw [key,M7 mm lq st _ _ _ m hm,aA,QR,fH]
  cases E:lQ (wV mm lq st p.kU q.kU k) zS
  ·have Y:FB (wV mm lq st p.kU q.kU k)=wV mm lq st p.kU q.kU k++oO:=by unfold FB; rw [E]; rfl
   simp only [dY,aS]
   have Q:(⟨#[97,99,107,32]⟩:ByteArray)=Cq:=rfl
   have s4:Cq.size=4:=rfl
   have R:(⟨#[46]⟩:ByteArray)=zN:=rfl
   have s5:=FX
   rw [Y,O,Q,R,mw (by rw [aD]; omega),aA,mw (by simp only [aD]; omega),aA,mw (by simp only [aD]; omega),aA,mw (by simp only [aD]; omega),aA,mw (by simp only [aD]; omega),aA,mw (by simp only [aD]; omega),aA,ih _ (by simp only [aD]; omega),bA,Ar]
   have Z:zk k=Cq++(k.kA++zN++k.Word):=rfl
   rw [Z]
   simp only [dV]
  ·simp only [cY,aB,aN]
   exact ih acc (by omega)
theorem Lg:∀(l:List mn) (acc:List kz),acc.length+l.length≤1000000→tp l acc=some (acc++l.map mm)
 | [],acc,_=>by rw [tp]; simp
 | x::l,acc,h=>by
  rw [aJ] at h
  rw [tp,qg (by simp; omega) (by simp; omega),aA,Lg l _ (by simp; omega)]
  simp
theorem KJ (p q:lZ):∀(l:List lh) (acc:List kC),acc.length+l.length≤1000000→rG p q l acc=rG p q [] (acc++l.map mq)
 | [],acc,_=>by simp
 | x::l,acc,h=>by
  rw [aJ] at h
  have e:=rG.eq_2 p q acc x l
  rw [e,qg (by simp; omega) (by simp; omega),aA,KJ p q l _ (by simp; omega)]
  simp
structure EG (p:lZ):Prop where
 c:vH (p.kM.map mq) (p.kM.map mq)
 a:Cw (p.kU.map mm) (p.kU.map mm)
 g:∀x∈p.kM,Gd x.kE
 h:∀x∈p.kU,Gd x.kE
 l:p.kM.length≤1000
 m:p.kU.length≤8
theorem KQ {α:Type} (S:List α) (f:α→ByteArray) (n:Nat) (d:∀k∈S,(f k).size≤300) (j:S.length≤n):(Ar (S.map f)).size≤300*n:=by
 have:=Kh (S.map f) (λs i=>by obtain ⟨k,hk,rfl⟩:=bE.1 i; exact d k hk)
 rw [bW] at this
 omega
theorem PD (p q:lZ) (hp:EG p) (d:EG q):∃S R,vH (p.kM.map mq++q.kM.map mq) S∧Cw (p.kU.map mm++q.kU.map mm) R∧pQ p q=some (Br p.kM q.kM S++Ee p.kU q.kU R)∧qY p q=some (Br p.kM q.kM S++Ee p.kU q.kU R)∧(Br p.kM q.kM S++Ee p.kU q.kU R).size≤1200000:=by
 have h1:=hp.l
 have z:=hp.m
 have U:=d.l
 have W:=d.m
 obtain ⟨S,J,n⟩:=RN (p.kM.map mq++q.kM.map mq) (by simp; omega)
 obtain ⟨R,I,j⟩:=Rc (p.kU.map mm++q.kU.map mm) (by simp; omega)
 obtain ⟨E,r,A,G⟩:=Oj p.kM q.kM S hp.c d.c n hp.g (by omega)
 obtain ⟨F,Z,f1,f2⟩:=Pe p.kU q.kU R hp.a d.a j hp.h (by omega)
 have w:∀k∈S,nW k=true:=λk hk=>((n.2 k).1 hk).2
 have v:∀k∈R,mu k=true:=λk hk=>((j.2 k).1 hk).2
 have O:S.Nodup:=n.1.imp_of_mem λ{x y} u L i d=>by subst d; exact Ev.irrefl x (w x u) i
 have M:R.Nodup:=j.1.imp_of_mem λ{x y} u L i d=>by subst d; exact (Bb λc=>mu c=true).irrefl x (v x u) i
 have lS:S.length≤2000:=by
  have:=qT O (m:=p.kM.map mq++q.kM.map mq) (λk hk=>((n.2 k).1 hk).1)
  simp at this; omega
 have Y:R.length≤2000:=by
  have:=qT M (m:=p.kU.map mm++q.kU.map mm) (λk hk=>((j.2 k).1 hk).1)
  simp at this; omega
 have s1:oO.size=1:=rfl
 have s2:qI.size=1:=rfl
 have T:(Br p.kM q.kM S).size≤600000:=by
  unfold Br
  refine KQ _ _ 2000 (λk hk=>?_) ?_
  ·have h1:(wm p.kM q.kM k).size≤1:=EU mq lL sw p.kM q.kM k
   have z:(Ab k).size≤200:=(E5 (w k (cQ.1 hk).1)).2.2
   simp only [aD]; omega
  ·have:=eL (λk=>!lQ (wm p.kM q.kM k) zS) S; omega
 have Q:(Ee p.kU q.kU R).size≤600000:=by
  unfold Ee
  refine KQ _ _ 2000 (λk hk=>?_) ?_
  ·have h1:(vW p.kU q.kU k).size≤1:=EU mm lq st p.kU q.kU k
   have h:=(vO (v k (cQ.1 hk).1)).2.2
   have s4:Cq.size=4:=rfl
   have P:zk k=Cq++rT k:=rfl
   rw [P]
   simp only [aD]; omega
  ·have:=eL (λk=>!lQ (vW p.kU q.kU k) zS) R; omega
 refine ⟨S,R,n,j,?_,?_,by rw [aD]; omega⟩
 ·unfold pQ
  rw [A,aA,f1,aA,G,aA,f2,aA]
  have e:∀a b:ByteArray,a.size≤600000→b.size≤600000→(lY a b).bind (λs=>some s)=some (a++b):=λa b h1 z=>by rw [mw (by omega)]; rfl
  exact e _ _ T Q
 ·unfold qY
  rw [qg (by simp; omega) (by simp; omega),aA,qg (by simp; omega) (by simp; omega),aA,KJ p q _ _ (by simp; omega),rG]
  simp only [bM,cP]
  rw [J,aA,KK p q hp.g S zS w (by rw [Ho]; omega),aA,qg (by rw [bD]; omega) (by rw [bD]; omega),aA,bM,qg (by omega) (by omega),aA,Lg _ _ (by simp; omega),aA,bM,cP,I,aA,Iq]
  have e:=Kg p q hp.h R (Br p.kM q.kM S) v (by omega)
  unfold Br at e ⊢
  rw [e]
  rfl
theorem Mr (p q:lZ) (hp:EG p) (d:EG q):∃s,pQ p q=some s∧qY p q=some s∧s.size≤1200000:=by
 obtain ⟨S,R,_,_,a,b,c⟩:=PD p q hp d
 exact ⟨_,a,b,c⟩
def Nq (l:List UInt8):Nat:=l.foldl (λa d=>10*a+(d.toNat-48)) 0
theorem Lc {k:Nat} (h:k < 10):(UInt8.ofNat (48+k)).toNat=48+k:=by
 rw [UInt8.toNat_ofNat']; omega
theorem KP:∀(n u:Nat),u < n→Nq (Go.Lib.decDigits u)=u∧(∀d∈Go.Lib.decDigits u,48≤d.toNat∧d.toNat≤57)∧Go.Lib.decDigits u≠[]
 | 0,u,h=>by omega
 | n+1,u,h=>by
  rw [Go.Lib.decDigits]
  split
  ·rename_i h1
   refine ⟨?_,λd i=>?_,by simp⟩
   ·simp only [Nq,gW,List.foldl_nil]; rw [Lc h1]; omega
   ·rw [bH] at i; rw [i,Lc h1]; omega
  ·rename_i h1
   obtain ⟨a,b,c⟩:=KP n (u / 10) (by omega)
   have e:=Lc (k:=u % 10) (by omega)
   refine ⟨?_,λd i=>?_,by simp⟩
   ·unfold Nq at a ⊢
    rw [List.foldl_append,a]
    simp only [gW,List.foldl_nil]
    rw [e]; omega
   ·rcases aV.1 i with i | i
    ·exact b d i
    ·rw [bH] at i; rw [i,e]; omega
theorem Ox (u:Nat):Nq (Go.Lib.decDigits u)=u∧(∀d∈Go.Lib.decDigits u,48≤d.toNat∧d.toNat≤57)∧Go.Lib.decDigits u≠[]:=KP (u+1) u (by omega)
theorem Po {u v:Nat} (h:Go.Lib.decDigits u=Go.Lib.decDigits v):u=v:=by rw [←(Ox u).1,h,(Ox v).1]
theorem MR {u:Nat} {d:UInt8} {l:List UInt8} (h:Go.Lib.decDigits u=d::l):d≠45:=by
 have:=(Ox u).2.1 d (by rw [h]; simp)
 intro e; subst e; simp at this
theorem F7 {m n:Int} (h:mZ m=mZ n):m=n:=by
 have h:=bO (λb:ByteArray=>b.data.toList) h
 have h:Go.Lib.itoa m=Go.Lib.itoa n:=by simpa [mZ] using h
 unfold Go.Lib.itoa at h
 split at h <;> split at h
 ·have:=Po (jc h).2; omega
 ·exact absurd rfl (MR h.symm)
 ·exact absurd rfl (MR h)
 ·have:=Po h; omega
theorem KH (n:Int):(32:UInt8)∉(mZ n).data.toList:=by
 show (32:UInt8)∉Go.Lib.itoa n
 unfold Go.Lib.itoa
 split
 ·intro h
  rcases aY.1 h with h | h
  ·cases h
  ·have:=(Ox _).2.1 _ h; simp at this
 ·intro h; have:=(Ox _).2.1 _ h; simp at this
theorem OS {x:UInt8}:∀{a b c d:List UInt8},x∉a→x∉c→a++x::b=c++x::d→a=c∧b=d
 | [],b,[],d,_,_,h=>⟨rfl,(jc h).2⟩
 | [],b,z::c,d,_,i,h=>absurd (jc h).1 (λe=>i (by rw [e]; simp))
 | z::a,b,[],d,ha,_,h=>absurd (jc h).1 (λe=>ha (by rw [←e]; simp))
 | y::a,b,z::c,d,ha,i,h=>by
  obtain ⟨h1,j⟩:=jc h
  obtain ⟨n,p⟩:=OS (λq=>ha (by simp [q])) (λq=>i (by simp [q])) j
  exact ⟨by rw [h1,n],p⟩
theorem EM (m n:Int):lQ (mZ m) (mZ n)=decide (m=n):=by
 rw [cZ,qk,cX]
 exact ⟨F7,λh=>by rw [h]⟩
theorem OE (a b c d:Int):lQ (mZ a++oO++mZ b) (mZ c++oO++mZ d)=(decide (a=c)&&decide (b=d)):=by
 rw [cZ,qk,bQ,cX,cX]
 constructor
 ·intro h
  have h:=bO (λb:ByteArray=>b.data.toList) h
  simp only [BU] at h
  have s:oO.data.toList=[32]:=rfl
  rw [s,aW,aW,eH,eH] at h
  obtain ⟨h1,i⟩:=OS (KH a) (KH c) h
  exact ⟨F7 (xA h1),F7 (xA i)⟩
 ·rintro ⟨rfl,rfl⟩; rfl
def OX (x y:Key):Bool:=lQ x.mC y.mC&&lQ (sP x.Key) (sP y.Key)
def DV:List Key→List Key→Bool
 | [],[]=>true
 | x::l,y::m=>OX x y&&DV l m
 | _,_=>false
theorem Ki:∀{l m:List Key},l.length≠m.length→DV l m=false
 | [],[],h=>absurd rfl h
 | [],_::_,_=>rfl
 | _::_,[],_=>rfl
 | x::l,y::m,h=>by
  rw [DV,Ki (l:=l) (m:=m) (λe=>h (by simp [e])),Bool.and_false]
theorem NH (x y:Key):rN x y=some (OX x y):=by
 unfold rN xa OX
 cases lQ x.mC y.mC <;> rfl
theorem JJ:∀(l m A:List Key),l.length=m.length→mV (A++m) (λx=>rN x.1 x.2) l A.length=some (DV l m)
 | [],m,A,h=>by
  obtain rfl:=aI h.symm
  rw [mV]; rfl
 | x::l,[],A,h=>by simp at h
 | x::l,y::m,A,h=>by
  have ih:=JJ l m (A++[y]) (by simpa using h)
  rw [aC,hY,aW,eH] at ih
  rw [mV,mD A y m _ rfl,aA,NH,aA,DV,ih]
  cases OX x y <;> rfl
theorem Ss (l m:List Key):oE l m (λx=>rN x.1 x.2)=some (DV l m):=by
 unfold oE
 by_cases h:l.length=m.length
 ·have:((l.length:Int) != (m.length:Int))=false:=by simp [h]
  simp only [this,aB,aN]
  exact JJ l m [] h
 ·have:((l.length:Int) != (m.length:Int))=true:=by simp; omega
  simp only [this,aS]
  rw [Ki h]
theorem Ms (p:nA) (x:ByteArray):∀(l:List Key) (i:Nat),nV p x l i false=nV p x [] 0 false
 | [],i=>by rw [nV.eq_1,nV.eq_1]
 | z::l,i=>by
  rw [nV.eq_2]
  simp only [aB,aN,aA]
  exact Ms p x l (i+1)
theorem Ld (p:nA) (x:ByteArray):∀(l m A:List Key) (b:Bool),p.Keys=A++m→(b=true→l.length=m.length)→nV p x l A.length b=nV p x [] 0 (b&&DV l m)
 | [],m,A,b,e,h=>by
  cases b with
  | false=>rw [nV,nV]; rfl
  | true=>
   obtain rfl:=aI (h rfl).symm
   rw [nV,nV]; rfl
 | y::l,m,A,false,e,_=>by
  rw [Ms]; rfl
 | y::l,[],A,true,e,h=>by have:=h rfl; simp at this
 | y::l,z::m,A,true,e,h=>by
  have ih:=λb=>Ld p x l m (A++[z]) b (by rw [e]; simp) (λ_=>by have:=h rfl; simpa using this)
  have i1:lM p.Keys ((A.length:Nat):Int)=some z:=by rw [e]; exact mD A z m _ rfl
  rw [nV.eq_2]
  simp only [aS,i1,aA]
  rw [aC,hY] at ih
  rw [DV]
  unfold OX
  cases lQ y.mC z.mC
  ·simp only [aB,aN,aA]
   rw [ih]; rfl
  ·simp only [aS,aA]
   rw [ih]; simp
noncomputable def KO (f:Formula):ByteArray:=if rh f then (pN li f).getD zS else zS
theorem R3 (f:Formula) (h:Gd f):zI f=some (KO f)∧((wN f).bind λd=>(if d then ((qO li f).bind λi=>some i) else some zS))=some (KO f)∧(KO f).size≤4000:=by
 unfold zI KO
 rw [A6 _ h,Tf _ h]
 simp only [aA]
 cases q:rh f
 ·exact ⟨rfl,rfl,by simp [Ho]⟩
 ·obtain ⟨h1,u,p⟩:=EW q
  obtain ⟨s,j,n,r⟩:=OA li f (by rw [mJ]; omega) p h1
  simp only [cY,aB,aN,aS]
  rw [j,n]
  exact ⟨rfl,rfl,by show s.size≤4000; omega⟩
structure Gs (p:nA):Prop where
 o:EG p.kA
 c:EG p.Client
 no:p.kA.Name.size≤100
 nc:p.Client.Name.size≤100
 f:Gd p.Formula
 HN:tQ p.oA
 r0:tQ p.lA.oH
 r1:tQ p.lA.ow
 t:tQ p.my
 y:tQ p.nz
 b:tQ p.mW
 k:p.Keys.length≤1000000000
def Aq (c:Bool) (s:ByteArray):ByteArray:=if c then zS else s
theorem uv (c:Bool) (s:ByteArray):(Aq c s).size≤s.size:=by cases c <;> simp [Aq,Ho]
theorem xB:qI.size=1:=rfl
theorem xJ:oO.size=1:=rfl
theorem GC (acc lit s:ByteArray) (c:Bool) (h:acc.size+lit.size+s.size≤900000000) :
  (if (!c) then ((lY lit s).bind λd=>((lY d (⟨#[10]⟩:ByteArray)).bind λi=>((lY acc i).bind λj=>some j))) else some acc:Option ByteArray)=some (acc++Aq c (lit++s++qI)):=by
 have e:(⟨#[10]⟩:ByteArray)=qI:=rfl
 have n:=xB
 cases c
 ·simp only [dY,aS]
  rw [e,mw (by omega),aA,mw (by rw [aD]; omega),aA,mw (by simp only [aD]; omega)]
  rfl
 ·simp [Aq,yK]
theorem GO (acc lit:ByteArray) (m n:Int) (q:tQ n) (h:acc.size+lit.size≤800000000) :
  (if (m != n) then ((sC n).bind λd=>((lY lit d).bind λi=>((lY i (⟨#[10]⟩:ByteArray)).bind λj=>((lY acc j).bind λp=>some p)))) else some acc:Option ByteArray)=some (acc++Aq (decide (m=n)) (lit++mZ n++qI)):=by
 have:=pP q
 have:=GC acc lit (mZ n) (decide (m=n)) (by omega)
 rw [vx q,←this]
 simp only [aA]
 have e:(m != n)=!decide (m=n):=by rw [cZ]; simp
 rw [e]
theorem B3 (r:List mI) (a b:nA) (x y:mI) (xs:List mI) (i:Nat) (acc:ByteArray) (p:lM r (i:Int)=some y) (n:x.oH=y.oH) (h:acc.size+x.oH.size+x.ow.size≤800000000) :
  qi r a b (x::xs) i acc=qi r a b xs (i+1) (acc++Aq (lQ x.ow y.ow) (x.oH++oO++x.ow++qI)):=by
 have d:(⟨#[32]⟩:ByteArray)=oO:=rfl
 have j:(⟨#[10]⟩:ByteArray)=qI:=rfl
 have q:=xB
 have s:=xJ
 rw [qi.eq_2,p,aA]
 have hb:wK x y=lQ x.ow y.ow:=by unfold wK; rw [n,xN,iH,Bool.and_true]
 rw [hb]
 cases lQ x.ow y.ow
 ·simp only [dY,aS]
  rw [d,j,mw (by omega),aA,mw (by rw [aD]; omega),aA,mw (by simp only [aD]; omega),aA,mw (by simp only [aD]; omega),aA]
  rfl
 ·simp [Aq,yK]
def Af:ByteArray:=⟨#[112,108,97,110]⟩
def vU:ByteArray:=⟨#[114,111,111,109,115]⟩
def zF:ByteArray:=⟨#[116,105,109,101,111,117,116]⟩
def xU:ByteArray:=⟨#[116,114,105,101,115]⟩
def wj:ByteArray:=⟨#[98,117,100,103,101,116]⟩
def BJ (p:nA):List mI:=[⟨Af,mZ p.oA⟩,⟨vU,mZ p.lA.oH++oO++mZ p.lA.ow⟩,⟨zF,mZ p.my⟩,⟨xU,mZ p.nz⟩,⟨wj,mZ p.mW⟩]
theorem MF (p:nA) (h:Gs p):uS p=some (BJ p):=by
 have d:(⟨#[32]⟩:ByteArray)=oO:=rfl
 have j:=xJ
 have i:=pP h.r0
 have h1:=pP h.r1
 unfold uS
 rw [vx h.HN,vx h.r0,vx h.r1,vx h.t,vx h.y,vx h.b,d]
 simp only [aA]
 rw [mw (by omega),aA,mw (by rw [aD]; omega)]
 rfl
def Gz (a b:nA) (acc:ByteArray):ByteArray :=
 acc++Aq (decide (a.oA=b.oA)) (Af++oO++mZ b.oA++qI)++Aq (decide (a.lA.oH=b.lA.oH)&&decide (a.lA.ow=b.lA.ow)) (vU++oO++(mZ b.lA.oH++oO++mZ b.lA.ow)++qI)
  ++ Aq (decide (a.my=b.my)) (zF++oO++mZ b.my++qI)++Aq (decide (a.nz=b.nz)) (xU++oO++mZ b.nz++qI)++Aq (decide (a.mW=b.mW)) (wj++oO++mZ b.mW++qI)
def QU (a b:nA) (acc:ByteArray):ByteArray:=acc++Aq (DV a.Keys b.Keys) ((⟨#[107,101,121,115,32]⟩:ByteArray)++mZ b.Keys.length++qI)
theorem A4 (m n:Int):decide (n=m)=decide (m=n):=by rw [cZ]; simp only [cX]; exact eq_comm
theorem P4 (a b:nA) (ha:Gs a) (hb:Gs b) (acc:ByteArray) (h:acc.size≤700000000) :
  qi (BJ a) a b (BJ b) 0 acc=some (QU a b (Gz a b acc)):=by
 have w:Af.size=4:=rfl
 have s1:vU.size=5:=rfl
 have s2:zF.size=7:=rfl
 have x:xU.size=5:=rfl
 have z:wj.size=6:=rfl
 have u:=xB
 have v:=xJ
 have i0:=pP hb.HN
 have i1:=pP hb.r0
 have i2:=pP hb.r1
 have i3:=pP hb.t
 have i4:=pP hb.y
 have i5:=pP hb.b
 have i:=uv (decide (a.oA=b.oA)) (Af++oO++mZ b.oA++qI)
 have j:=uv (decide (a.lA.oH=b.lA.oH)&&decide (a.lA.ow=b.lA.ow)) (vU++oO++(mZ b.lA.oH++oO++mZ b.lA.ow)++qI)
 have n:=uv (decide (a.my=b.my)) (zF++oO++mZ b.my++qI)
 have p:=uv (decide (a.nz=b.nz)) (xU++oO++mZ b.nz++qI)
 have q:=uv (decide (a.mW=b.mW)) (wj++oO++mZ b.mW++qI)
 simp only [aD] at i j n p q
 have d:BJ b=[⟨Af,mZ b.oA⟩,⟨vU,mZ b.lA.oH++oO++mZ b.lA.ow⟩,⟨zF,mZ b.my⟩,⟨xU,mZ b.nz⟩,⟨wj,mZ b.mW⟩]:=rfl
 rw [d,B3 (BJ a) a b ⟨Af,mZ b.oA⟩ ⟨Af,mZ a.oA⟩ _ 0 acc rfl rfl (by simp only; omega)]
 simp only [EM,A4 a.oA b.oA]
 rw [B3 (BJ a) a b ⟨vU,mZ b.lA.oH++oO++mZ b.lA.ow⟩ ⟨vU,mZ a.lA.oH++oO++mZ a.lA.ow⟩ _ _ _ rfl rfl (by simp only [aD]; omega)]
 simp only [OE,A4 a.lA.oH,A4 a.lA.ow]
 rw [B3 (BJ a) a b ⟨zF,mZ b.my⟩ ⟨zF,mZ a.my⟩ _ _ _ rfl rfl (by simp only [aD]; omega)]
 simp only [EM,A4 a.my]
 rw [B3 (BJ a) a b ⟨xU,mZ b.nz⟩ ⟨xU,mZ a.nz⟩ _ _ _ rfl rfl (by simp only [aD]; omega)]
 simp only [EM,A4 a.nz]
 rw [B3 (BJ a) a b ⟨wj,mZ b.mW⟩ ⟨wj,mZ a.mW⟩ _ _ _ rfl rfl (by simp only [aD]; omega)]
 simp only [EM,A4 a.mW]
 have hk:tQ (b.Keys.length:Int):=by have:=hb.k; unfold tQ; omega
 have s:=pP hk
 have A:(⟨#[107,101,121,115,32]⟩:ByteArray).size=5:=rfl
 rw [qi.eq_1,Ss,aA,vx hk,aA]
 have r:(Gz a b acc).size≤800000000:=by unfold Gz; simp only [aD]; omega
 have:=GC (Gz a b acc) (⟨#[107,101,121,115,32]⟩:ByteArray) (mZ b.Keys.length) (DV a.Keys b.Keys) (by omega)
 unfold Gz at this
 rw [this]; rfl
def CL:ByteArray:=⟨#[111,119,110,101,114]⟩
def AZ:ByteArray:=⟨#[99,108,105,101,110,116]⟩
def BZ:ByteArray:=⟨#[103,114,97,110,116,115,32]⟩
def JI (w:ByteArray) (p q:lZ) (s:ByteArray):ByteArray:=Aq (lQ s zS&&lQ p.Name q.Name) (w++oO++q.Name++qI++s)
theorem OM (w:ByteArray) (p q:lZ) (s:ByteArray) (hw:w.size≤10) (j:q.Name.size≤100) (n:s.size≤1200000) (e:pQ p q=some s):wL w p q=some (JI w p q s):=by
 have d:(⟨#[32]⟩:ByteArray)=oO:=rfl
 have i:(⟨#[10]⟩:ByteArray)=qI:=rfl
 have r:=xB
 have u:=xJ
 unfold wL JI
 rw [e,aA,Ti,aA]
 cases lQ s zS&&lQ p.Name q.Name
 ·simp only [aB,aN]
  rw [d,i,mw (by omega),aA,mw (by rw [aD]; omega),aA,mw (by simp only [aD]; omega),aA,mw (by simp only [aD]; omega)]
  rfl
 ·rfl
theorem M9 (acc w:ByteArray) (p q:lZ) (s:ByteArray) (hw:w.size≤10) (x:q.Name.size≤100) (z:s.size≤1200000) (ha:acc.size≤10000000) :
  (((if (!(lQ s zS)) then some true else some (!(lQ p.Name q.Name))):Option Bool).bind λr=>(if r then ((lY (w++oO) q.Name).bind λd=>((lY d (⟨#[10]⟩:ByteArray)).bind λi=>((lY i s).bind λj=>((lY acc j).bind λn=>some n)))) else some acc))=some (acc++JI w p q s):=by
 have A:=xB
 have E:=xJ
 have v:(if (!(lQ s zS)) then some true else some (!(lQ p.Name q.Name)):Option Bool)=some (!(lQ s zS&&lQ p.Name q.Name)):=by cases lQ s zS <;> rfl
 have u:(⟨#[10]⟩:ByteArray)=qI:=rfl
 rw [v,aA,u]
 unfold JI
 cases lQ s zS&&lQ p.Name q.Name
 ·simp only [dY,aS]
  rw [mw (by rw [aD]; omega),aA,mw (by simp only [aD]; omega),aA,mw (by simp only [aD]; omega),aA,mw (by simp only [aD]; omega)]
  rfl
 ·simp [Aq,yK]
theorem Qd (acc:ByteArray) (a b:nA) (s:tQ b.lA.oH) (h1:tQ b.lA.ow) (h:acc.size≤800000000) :
  (if (!(zM a.lA b.lA)) then ((sC b.lA.oH).bind λd=>((lY (vU++oO) d).bind λj=>((lY j (⟨#[32]⟩:ByteArray)).bind λn=>((sC b.lA.ow).bind λi=>((lY n i).bind λp=>((lY p (⟨#[10]⟩:ByteArray)).bind λq=>((lY acc q).bind λr=>some r))))))) else some acc:Option ByteArray)
   = some (acc++Aq (decide (a.lA.oH=b.lA.oH)&&decide (a.lA.ow=b.lA.ow)) (vU++oO++(mZ b.lA.oH++oO++mZ b.lA.ow)++qI)):=by
 have u:(⟨#[32]⟩:ByteArray)=oO:=rfl
 have v:(⟨#[10]⟩:ByteArray)=qI:=rfl
 have s1:vU.size=5:=rfl
 have w:=xB
 have x:=xJ
 have i1:=pP s
 have i2:=pP h1
 have hb:zM a.lA b.lA=(decide (a.lA.oH=b.lA.oH)&&decide (a.lA.ow=b.lA.ow)):=by
  unfold zM; rw [Bool.and_true]; rfl
 rw [hb]
 cases decide (a.lA.oH=b.lA.oH)&&decide (a.lA.ow=b.lA.ow)
 ·simp only [dY,aS]
  rw [u,v,vx s,vx h1]
  simp only [aA]
  rw [mw (by rw [aD]; omega),aA,mw (by simp only [aD]; omega),aA,mw (by simp only [aD]; omega),aA,mw (by simp only [aD]; omega),aA,mw (by simp only [aD]; omega)]
  simp only [aA,Aq,aB,aN,dV]
 ·simp [Aq,yK]
theorem Ka (w:ByteArray) (p q:lZ) (s:ByteArray) (hw:w.size≤10) (d:q.Name.size≤100) (i:s.size≤1200000):(JI w p q s).size≤1300000:=by
 have:=uv (lQ s zS&&lQ p.Name q.Name) (w++oO++q.Name++qI++s)
 have j:=xB
 have n:=xJ
 unfold JI
 simp only [aD] at this; omega
noncomputable def Q7 (a b:nA) (s t:ByteArray):ByteArray :=
 QU a b (Gz a b (JI CL a.kA b.kA s++JI AZ a.Client b.Client t++Aq (xy a.Formula b.Formula) (BZ++KO b.Formula++qI)))
theorem R9 (a b:nA) (ha:Gs a) (hb:Gs b) (s t:ByteArray) (q:pQ a.kA b.kA=some s) (r:pQ a.Client b.Client=some t) (f1:qY a.kA b.kA=some s) (f2:qY a.Client b.Client=some t) (i:s.size≤1200000) (j:t.size≤1200000) :
  wS a b=some (Q7 a b s t)∧zY a b=some (Q7 a b s t):=by
 obtain ⟨t1,t2,t3⟩:=R3 b.Formula hb.f
 have O:CL.size=5:=rfl
 have sc:AZ.size=6:=rfl
 have sg:BZ.size=7:=rfl
 have E:=xB
 have G:=xJ
 have P:=Ka CL a.kA b.kA s (by omega) hb.no i
 have z2:=Ka AZ a.Client b.Client t (by omega) hb.nc j
 have z3:=uv (xy a.Formula b.Formula) (BZ++KO b.Formula++qI)
 simp only [aD] at z3
 have n:∀acc:ByteArray,acc.size≤10000000→_:=λacc h=>GC acc BZ (KO b.Formula) (xy a.Formula b.Formula) (by omega)
 refine ⟨?_,?_⟩
 ·unfold wS
  have g1:(⟨#[111,119,110,101,114]⟩:ByteArray)=CL:=rfl
  have g2:(⟨#[99,108,105,101,110,116]⟩:ByteArray)=AZ:=rfl
  have g3:(⟨#[103,114,97,110,116,115,32]⟩:ByteArray)=BZ:=rfl
  rw [g1,g2,g3,OM CL _ _ s (by omega) hb.no i q,OM AZ _ _ t (by omega) hb.nc j r]
  simp only [aA]
  rw [mw (by omega),aA,Gw _ _ ha.f,aA,t1]
  simp only [aA]
  rw [n _ (by rw [aD]; omega),aA,MF a ha,MF b hb,aA,aA,P4 a b ha hb _ (by simp only [aD]; omega)]
  rfl
 ·unfold zY
  have g1:(⟨#[111,119,110,101,114,32]⟩:ByteArray)=CL++oO:=by decide +kernel
  have g2:(⟨#[99,108,105,101,110,116,32]⟩:ByteArray)=AZ++oO:=by decide +kernel
  have g3:(⟨#[103,114,97,110,116,115,32]⟩:ByteArray)=BZ:=rfl
  have g4:(⟨#[112,108,97,110,32]⟩:ByteArray)=Af++oO:=by decide +kernel
  have g5:(⟨#[114,111,111,109,115,32]⟩:ByteArray)=vU++oO:=by decide +kernel
  have g6:(⟨#[116,105,109,101,111,117,116,32]⟩:ByteArray)=zF++oO:=by decide +kernel
  have g7:(⟨#[116,114,105,101,115,32]⟩:ByteArray)=xU++oO:=by decide +kernel
  have g8:(⟨#[98,117,100,103,101,116,32]⟩:ByteArray)=wj++oO:=by decide +kernel
  have I:Af.size=4:=rfl
  have s1:vU.size=5:=rfl
  have s2:zF.size=7:=rfl
  have J:xU.size=5:=rfl
  have L:wj.size=6:=rfl
  have i0:=pP hb.HN
  have i1:=pP hb.r0
  have i2:=pP hb.r1
  have i3:=pP hb.t
  have i4:=pP hb.y
  have i5:=pP hb.b
  have u:=uv (decide (a.oA=b.oA)) (Af++oO++mZ b.oA++qI)
  have v:=uv (decide (a.lA.oH=b.lA.oH)&&decide (a.lA.ow=b.lA.ow)) (vU++oO++(mZ b.lA.oH++oO++mZ b.lA.ow)++qI)
  have w:=uv (decide (a.my=b.my)) (zF++oO++mZ b.my++qI)
  have x:=uv (decide (a.nz=b.nz)) (xU++oO++mZ b.nz++qI)
  have z:=uv (decide (a.mW=b.mW)) (wj++oO++mZ b.mW++qI)
  simp only [aD] at u v w x z
  rw [g1,g2,g3,g4,g5,g6,g7,g8,f1,aA,M9 zS CL a.kA b.kA s (by omega) hb.no i (by rw [Ho]; omega),aA,Iq,
   f2,aA,M9 _ AZ a.Client b.Client t (by omega) hb.nc j (by omega),aA,Hu _ _ ha.f,aA,t2]
  simp only [aA]
  rw [n _ (by rw [aD]; omega)]
  simp only [aA]
  rw [GO _ (Af++oO) a.oA b.oA hb.HN (by simp only [aD]; omega),aA,
   Qd _ a b hb.r0 hb.r1 (by simp only [aD]; omega),aA,
   GO _ (zF++oO) a.my b.my hb.t (by simp only [aD]; omega),aA,
   GO _ (xU++oO) a.nz b.nz hb.y (by simp only [aD]; omega),aA,
   GO _ (wj++oO) a.mW b.mW hb.b (by simp only [aD]; omega),aA]
  have hk:tQ (b.Keys.length:Int):=by have:=hb.k; unfold tQ; omega
  have A:=pP hk
  have M:(⟨#[107,101,121,115,32]⟩:ByteArray).size=5:=rfl
  have he:((a.Keys.length:Int)==(b.Keys.length:Int))=decide (a.Keys.length=b.Keys.length):=by rw [cZ]; simp; omega
  have p:=λacc=>Ld b acc a.Keys b.Keys [] (decide (a.Keys.length=b.Keys.length)) rfl (by simp)
  rw [bD] at p
  have d:(decide (a.Keys.length=b.Keys.length)&&DV a.Keys b.Keys)=DV a.Keys b.Keys:=by
   by_cases h:a.Keys.length=b.Keys.length
   ·simp [h]
   ·simp [h,Ki h]
  rw [he,p,d,nV.eq_1,vx hk,aA]
  have:=λacc (h:acc.size≤20000000)=>GC acc (⟨#[107,101,121,115,32]⟩:ByteArray) (mZ b.Keys.length) (DV a.Keys b.Keys) (by omega)
  rw [this _ (by simp only [aD]; omega)]
  rfl
theorem Js:∀(l:List mn) (q:Option kz),CF q l→(l.map mm).Pairwise (λa b=>wh a b=true)
 | [],_,_=>List.Pairwise.nil
 | x::l,q,h=>by
  rw [bA,bU]
  refine ⟨λr d=>?_,Js l _ h.2⟩
  obtain ⟨a,ha,rfl⟩:=bE.1 d
  exact Hm l x.kz h.2 a ha
theorem zD.Tg {p:lZ} (h:zD p) (hp:PB p):EG p where
 c:=h.Iu.2
 a:=⟨Js p.kU none h.FO.2,λr=>⟨λd=>⟨d,by
  obtain ⟨a,ha,rfl⟩:=bE.1 d
  exact (h.FO.1 a ha).1⟩,λd=>d.1⟩⟩
 g:=λx i=>by have:=hp.rel x i; unfold Gd; omega
 h:=λx i=>by have:=hp.NR x i; unfold Gd; omega
 l:=by have:=h.QC; unfold GG at this; simp only [Bool.or_eq_false_iff,gO] at this; omega
 m:=by have:=h.QC; unfold GG at this; simp only [Bool.or_eq_false_iff,gO] at this; omega
structure O5 (p:nA):Prop where
 HN:tQ p.oA
 r0:tQ p.lA.oH
 r1:tQ p.lA.ow
 t:tQ p.my
 y:tQ p.nz
 b:tQ p.mW
theorem Ky:∀l:List Key,l.length≤B7 l
 | []=>eB _
 | x::l=>by have:=Ky l; rw [B7,aJ]; omega
theorem LG {p:nA} (hp:PQ p) (d:O5 p) (j:zD p.kA) (i:zD p.Client):Gs p where
 o:=j.Tg hp.o.toPB
 c:=i.Tg hp.c.toPB
 no:=by have:=oT j.name; omega
 nc:=by have:=oT i.name; omega
 f:=by have:=hp.f; unfold Gd; omega
 HN:=d.HN
 r0:=d.r0
 r1:=d.r1
 t:=d.t
 y:=d.y
 b:=d.b
 k:=by have:=Ky p.Keys; have:=hp.ks; omega
theorem Rt (a b:nA) (ha:PQ a) (hb:PQ b):∃r,yR [a,b]=some r∧(r=true→(zD a.kA∧zD a.Client)∧zD b.kA∧zD b.Client):=by
 obtain ⟨p,g1,h1⟩:=Ds a.kA ha.o.toPB
 obtain ⟨q,g2,v⟩:=Ds a.Client ha.c.toPB
 obtain ⟨s,g3,w⟩:=Ds b.kA hb.o.toPB
 obtain ⟨u,g4,x⟩:=Ds b.Client hb.c.toPB
 unfold yR
 rw [tD,g1,aA,g2,aA,tD,g3,aA,g4,aA,tD]
 simp only [QX,aA]
 rw [←h1,←v,←w,←x]
 by_cases d:p=0
 ·by_cases i:q=0
  ·by_cases j:s=0
   ·by_cases n:u=0
    ·exact ⟨true,by simp [d,i,j,n],λ_=>⟨⟨d,i⟩,j,n⟩⟩
    ·exact ⟨false,by simp [d,i,j,n],λh=>by cases h⟩
   ·exact ⟨false,by simp [d,i,j],λh=>by cases h⟩
  ·exact ⟨false,by simp [d,i],λh=>by cases h⟩
 ·exact ⟨false,by simp [d],λh=>by cases h⟩
theorem Hw (r:yT=some true) (a b:nA) (ha:PQ a) (hb:PQ b) (u:O5 a) (nb:O5 b):vj a b=some true:=by
 obtain ⟨r1,j,_,_⟩:=RZ a ha
 obtain ⟨A,n,_,_⟩:=RZ b hb
 obtain ⟨E,p,q⟩:=Rt a b ha hb
 unfold vj
 rw [r,aA,j,n,p]
 simp only [cY,aB,aN,aA]
 rw [QX]
 simp only [aA]
 cases E
 ·simp
 ·cases decide (wi0 .i64 (r1+A) > 10000)
  ·obtain ⟨⟨v,w⟩,x,z⟩:=q rfl
   have d:=LG ha u v w
   have i:=LG hb nb x z
   obtain ⟨s,s1,s2,G⟩:=Mr a.kA b.kA d.o i.o
   obtain ⟨t,t1,t2,t3⟩:=Mr a.Client b.Client d.c i.c
   obtain ⟨I,J⟩:=R9 a b d i s t s1 t1 s2 t2 G t3
   rw [I,J,s1,s2,t1,t2]
   simp [xN]
  ·simp
theorem RO:yT=some true:=by decide +kernel
end Go.Proofs.YtjjjihkifgdhgaaGreatDoor
namespace Go.Proofs.YtjjjihkifgdhgaaGreatDoor.Lf
open Go.ChangeShapes Go.WideShapes Go.ChangeAt Go.RowKit
open Go.Proofs.YtjjjihkifgdhgaaGreatDoor (Rows.uptoBulk Rows.uptoBulkAll Rows.uptoSmall)
theorem Tk {H:Type} (d:DataW H):1≤Rows.uptoBulk d:=by
 cases d with
 | lit l=>cases l <;> simp [Rows.uptoBulk]
 | nil=>simp [Rows.uptoBulk]
 | ptr d=>simp [Rows.uptoBulk]
 | slice i spare=>simp [Rows.uptoBulk]
 | agg parts=>simp [Rows.uptoBulk]
 | iface t d=>simp [Rows.uptoBulk]
 | map entries=>simp [Rows.uptoBulk]
 | held h=>simp [Rows.uptoBulk]
def JK {α:Type} (P:Program) (t:TypeId) (enc:α→List Value) (sz:α→Nat):Prop :=
 ∀(H:Type) (d:TypeId×Value→H) (W:World) (base:Nat) (sp:Nat→Bool) (i:Bool) (fuel:Nat) (cs:List Value) (x:DataW H×List MemPlace),
  DataW.trod d P W base sp i fuel t cs=some x→∃a:α,cs=enc a∧sz a≤Rows.uptoBulk x.1
theorem Ny {P:Program} {t:TypeId} (d:P.underlying t=some .string):JK P t (λs:ByteArray=>[.string s]) (λs=>s.size):=by
 intro H i W base sp j fuel cs x h
 obtain ⟨s,rfl,rfl,_⟩:=DataW.trod_string d h
 refine ⟨s,rfl,?_⟩
 have e:s.data.toList.length=s.size:=by rw [dP]; rfl
 simp [Rows.uptoBulk,e]
theorem RE {P:Program} {t:TypeId} {k:IntKind} (d:P.underlying t=some (.int k)):JK P t (λn:Int=>[.int k n]) (λ_=>0):=by
 intro H i W base sp j fuel cs x h
 obtain ⟨n,rfl,rfl,_⟩:=DataW.trod_int d h
 exact ⟨n,rfl,eB _⟩
theorem RQ {α:Type} {n:Nat} {p:Nat→α→Prop} (h:∀i,i < n→∃x,p i x):∃l:List α,l.length=n∧∀i x,l[i]? =some x→p i x:=by
 induction n with
 | zero=>exact ⟨[],rfl,by simp⟩
 | succ n ih=>
  obtain ⟨l,h1,q⟩:=ih λi j=>h i (by omega)
  obtain ⟨x,s⟩:=h n (by omega)
  refine ⟨l++[x],by simp [h1],λi y d=>?_⟩
  by_cases j:i < l.length
  ·rw [gB j] at d
   exact q i y d
  ·rw [fJ (by omega)] at d
   have:i-l.length=0:=by
    cases r:i-l.length with
    | zero=>rfl
    | succ m=>rw [r] at d; simp at d
   rw [this] at d
   have e:i=n:=by omega
   simp at d
   subst d; rw [e]; exact s
theorem KR {W:World} {a:Addr} {v:Value} (h:W.cell? a=some v):∃cs T fr,W.heap[a.block]? =some (.cells cs T fr)∧a.spot=none∧cs[a.off]? =some v:=by
 unfold World.cell? at h
 split at h
 ·rename_i c T fr hb
  by_cases d:a.spot.isSome
  ·simp [d] at h
  ·simp only [d] at h
   exact ⟨c,T,fr,hb,by simpa using d,by simpa using h⟩
 ·cases h
theorem Ex.below {dd:Bool} {W W':World} (h:Ex dd W W'):Below W.heap.size W W':=⟨h.os,h.tape,h.output,h.size,h.rA⟩
theorem Fj {H:Type} {w:TypeId×Value→H} {P:Program} (A:laidOutB P=true) {W W':World} {j:Nat→Bool} :
  ∀{r:List TypeId} {vs:List Value} {ds:List (DataW H)} {n:List MemPlace},(∀t∈r,P.readableRec t=true∧t < P.types.size)→
   DataW.TrodAll w P W 0 (λ_=>true) true r vs ds n→(∀p∈n,W.sameAt W' p)→(∀p∈n,j p.block=true)→DataW.TrodAll w P W' 0 j true r vs ds n
 | [],_,_,_,_,h,_,_=>by
  obtain ⟨rfl,rfl,rfl⟩:=trodAll_nil h
  exact trodAll_mk0
 | t::r,_,_,_,s,h,h1,z=>by
  obtain ⟨v,vs,d,ds,p,q,rfl,rfl,rfl,E,G⟩:=trodAll_cons h
  exact trodAll_cons_mk (WideElems.Trod_stays A (s t (by simp)).1 (s t (by simp)).2 E (λx i=>h1 x (by simp [i])) (λx i=>z x (by simp [i])))
   (Fj A (λu hu=>s u (by simp [hu])) G (λx i=>h1 x (by simp [i])) (λx i=>z x (by simp [i])))
theorem Nu {H:Type} {enc:TypeId×Value→H} {P:Program} (Y:laidOutB P=true) {f:Func} {s:ChangeSpec} {apart fresh handsOn again:Bool} {W W':World} {args:Array Value} {v:Value} {ds gs:List (DataW H)} {before:List MemPlace} (hr:∀t∈f.params.toList,P.readableRec t=true∧t < P.types.size) (G:s.vars=[]) (J:DataW.Whole enc P f.params.toList s.vars apart W args.toList ds gs before) {dd:Bool} (Q:Ex dd W W') (d:∀(b:Nat) (sp:Nat→Bool) (U:Bool),DataW.TrodAll enc P W' b sp U f.resultTypes.toList (v.resultList f.resultTypes.size) (s.fn H (ds++gs)).results []) (i:(s.fn H (ds++gs)).args=ds) (u:(s.fn H (ds++gs)).vars=[]) (M:∀(j:Nat) (t:TypeId) (r:Value),f.resultTypes[j]? =some t→(v.resultList f.resultTypes.size)[j]? =some r→Value.okWide P W' .any 0 t r) :
  s.post enc P f apart fresh handsOn again W args v W':=by
 have n:=J.lt
 have hold:∀p∈before,(λb=>decide (b < W.heap.size)) p.block=true:=λp hp=>by simpa using n p hp
 have hb:=Ex.below Q
 have L:=J
 obtain ⟨p,q,T,R,A,hz,Z⟩:=J
 rw [G] at R
 obtain ⟨rfl,rfl⟩:=trodVars_none R
 rw [bB] at A
 subst A
 have E:∀sp:Nat→Bool,(∀p∈before,sp p.block=true)→DataW.TrodAll enc P W' 0 sp true f.params.toList args.toList (s.fn H (ds++[])).args before:=λsp O=>by
  rw [i]
  exact Fj Y hr T (λx Q=>hb.same (n x Q)) O
 have I:∀sp:Nat→Bool,DataW.TrodVars enc P W' sp s.vars (s.fn H (ds++[])).vars []:=λsp=>by
  rw [u,G]; rfl
 refine ⟨ds,[],before,[],before,[],L,d _ _ _,E _ hold,I _,World.keptBut_mono (λp hp=>⟨hp,?_⟩) (hb.frame (·∈before)),λ_=>?_⟩
 ·exact Or.inr (Or.inl hp)
 ·refine ⟨M,_,_,([]++before)++[],⟨[]++before,[],trodAll_append (E _ (λ_ _=>rfl)) (d _ _ _),I _,rfl,?_,?_⟩,?_⟩
  ·intro b off hp
   have z:MemPlace.cell b off∈before:=by simpa using hp
   rw [World.frozen?_of_block (w:=W) (hb.block b (n _ z))]
   exact hz b off z
  ·intro ha
   simpa using Z ha
  ·intro p hp _
   simpa using hp
end Go.Proofs.YtjjjihkifgdhgaaGreatDoor.Lf
namespace Go.Proofs.YtjjjihkifgdhgaaGreatDoor.Lf
open Go.ChangeShapes Go.WideShapes Go.ChangeAt Go.RowKit
open Go.Proofs.YtjjjihkifgdhgaaGreatDoor (Rows.uptoBulk Rows.uptoBulkAll Rows.uptoSmall)
def CN {α:Type} (P:Program) (t:TypeId) (R:rB α) (sz:α→Nat):Prop :=
 ∀(H:Type) (d:TypeId×Value→H) (W:World) (base:Nat) (sp:Nat→Bool) (i:Bool) (fuel:Nat) (cs:List Value) (x:DataW H×List MemPlace),
  DataW.trod d P W base sp i fuel t cs=some x→∃a:α,R (hp W) cs a∧sz a≤Rows.uptoBulk x.1
theorem JK.rel {α:Type} {P:Program} {t:TypeId} {enc:α→List Value} {sz:α→Nat} (h:JK P t enc sz):CN P t (Pl enc) sz:=λH d W base sp i fuel cs x j=>h H d W base sp i fuel cs x j
end Go.Proofs.YtjjjihkifgdhgaaGreatDoor.Lf
namespace Go.Proofs.YtjjjihkifgdhgaaGreatDoor.Lf
open Go.ChangeShapes Go.WideShapes Go.ChangeAt Go.RowKit
open Go.Proofs.YtjjjihkifgdhgaaGreatDoor (Rows.uptoBulk Rows.uptoBulkAll Rows.uptoSmall)
theorem Hp {H:Type}:∀l:List (DataW H),Rows.uptoBulkAll l=(l.map Rows.uptoBulk).sum
 | []=>by simp [Rows.uptoBulkAll]
 | d::l=>by simp [Rows.uptoBulkAll,Hp l]
theorem OJ {α:Type} (g:α→Nat):∀(n:Nat) (f:Nat→Nat) {l:List α},l.length=n→(∀i x,l[i]? =some x→g x≤f i)→(l.map g).sum≤((List.range n).map f).sum
 | 0,f,l,d,h=>by
  obtain rfl:=fF.1 d
  simp
 | n+1,f,[],d,h=>by cases d
 | n+1,f,a::l,d,h=>by
  rw [List.range_succ_eq_map,bA,bA,gK,gK,gH]
  have h1:=h 0 a rfl
  have p:=OJ g n (f∘Nat.succ) (l:=l) (by simpa using d) (λi x j=>h (i+1) x (by simpa using j))
  omega
def tS {α:Type} (sz:α→Nat) (l:List α):Nat:=(l.map λa=>max 1 (sz a)).sum
theorem Ef {α:Type} (sz:α→Nat):∀l:List α,l.length≤tS sz l
 | []=>aQ _
 | a::l=>by have:=Ef sz l; simp only [tS,bA,gK,aJ] at this ⊢; omega
theorem IH {α:Type} {sz:α→Nat}:∀{l:List α} {a:α},a∈l→sz a≤tS sz l
 | b::l,a,h=>by
  simp only [tS,bA,gK]
  rcases aY.1 h with rfl | h
  ·omega
  ·have:=IH (sz:=sz) h; simp only [tS] at this; omega
theorem G7 {α:Type} {P:Program} {t e:TypeId} {k:Nat} {R:rB α} {sz:α→Nat} (hk:P.cellsOf e=k) (U:0 < k) (ht:P.underlying t=some (.slice e)) {H:Type} {eh:TypeId×Value→H} {W:World} {base:Nat} {sp:Nat→Bool} {held:Bool} {fuel:Nat} {cs:List Value} {x:DataW H×List MemPlace} (hd:∀(fuel:Nat) (cs:List Value) (y:DataW H×List MemPlace),DataW.trod eh P W base sp held fuel e cs=some y→SizeOf.sizeOf y.1 < SizeOf.sizeOf x.1→∃a:α,R (hp W) cs a∧sz a≤Rows.uptoBulk y.1) (hf:DataW.trod eh P W base sp held fuel t cs=some x) :
  ∃v l,cs=[v]∧Sl R k (hp W) v l∧tS sz l≤Rows.uptoBulk x.1:=by
 rcases Go.Deep.open_slice ht hf with ⟨rfl,rfl⟩ | ⟨a,ln,cp,m,n,D,Q,rfl,hb,hl,hm,Z,rfl,M⟩
 ·exact ⟨_,[],rfl,⟨none,0,rfl,aQ _,eB _,λh=>absurd h (Nat.lt_irrefl _)⟩,eB _⟩
 ·have ad:ln≤m:=by rw [Z]; split <;> omega
  have hB:((List.range ln).map λi=>Rows.uptoBulk (D i)).sum≤Rows.uptoBulk (DataW.slice ((List.range ln).map D) ((List.range (m-ln)).map λj=>D (ln+j))):=by
   simp only [Rows.uptoBulk]
   rw [Hp,gH]
   have e:((List.range ln).map λi=>Rows.uptoBulk (D i))=(List.range ln).map (Rows.uptoBulk∘D):=rfl
   rw [e]
   omega
  have hS:∀i,i < ln→SizeOf.sizeOf (D i) < SizeOf.sizeOf (DataW.slice ((List.range ln).map D) ((List.range (m-ln)).map λj=>D (ln+j))):=λi O=>by
   have:=List.sizeOf_lt_of_mem (bE.2 ⟨i,List.mem_range.2 O,rfl⟩:D i∈(List.range ln).map D)
   rw [DataW.slice.sizeOf_spec]; omega
  simp only at hd ⊢
  generalize Rows.uptoBulk (DataW.slice ((List.range ln).map D) ((List.range (m-ln)).map λj=>D (ln+j)))=B at hB
  obtain ⟨l,Y,w⟩:=RQ (α:=α) (n:=ln) (p:=λi x=>∃d,W.cells? base (a.add (i*k)) k=some d∧R (hp W) d x∧sz x≤Rows.uptoBulk (D i)) λi O=>by
   obtain ⟨d,h1,G⟩:=M i (by omega)
   obtain ⟨x,hR,I⟩:=hd _ _ _ G (hS i O)
   rw [hk] at h1
   exact ⟨x,d,h1,hR,I⟩
  subst Y
  refine ⟨_,l,rfl,⟨some a,cp,rfl,hl,hm,λh0=>?_⟩,?_⟩
  ·have q:∀i x,l[i]? =some x→∃d,R (hp W) d x∧d.length=k∧∀j,j < k→W.cell? ((a.add (i*k)).add j)=d[j]?:=λi x z=>
    let ⟨d,h1,G,_⟩:=w i x z
    let ⟨_,I,h4⟩:=World.cells?_some h1
    ⟨d,G,I,h4⟩
   obtain ⟨a7,_,h4,h5⟩:=q 0 l[0] (by simp [h0])
   have J:=h5 0 U
   rw [Nat.zero_mul,dE (by omega)] at J
   have e0:(a.add 0).add 0=a:=rfl
   rw [e0] at J
   obtain ⟨cs,T,fr,L,h8,_⟩:=KR J
   obtain ⟨A,E,a6⟩:=a
   simp only at L h8
   subst h8
   refine ⟨A,E,cs,T,fr,rfl,L,λi x z=>?_⟩
   obtain ⟨d,gR,g1,g2⟩:=q i x z
   refine ⟨d,g1,gR,λj y hy=>?_⟩
   have hj:j < k:=by
    rw [←g1]
    exact (bK.1 hy).1
   have h9:=g2 j hj
   rw [Go.Deep.add_add,hy] at h9
   obtain ⟨a1,T',a8,r,aa,s⟩:=KR h9
   have u:(Addr.add ⟨A,E,none⟩ (i*k+j)).block=A∧(Addr.add ⟨A,E,none⟩ (i*k+j)).off=E+(i*k+j):=by
    unfold Addr.add
    split
    ·rename_i hz
     rw [hz]; exact ⟨rfl,rfl⟩
    ·exact ⟨rfl,rfl⟩
   rw [u.1,L] at r
   cases r
   rw [u.2,←fA] at s
   exact s
  ·refine eC (OJ _ _ _ rfl λi x z=>?_) hB
   exact Nat.max_le.2 ⟨Tk _,(w i x z).elim λ_ h=>h.2.2⟩
theorem qx {α:Type} {P:Program} {t e:TypeId} {k:Nat} {R:rB α} {sz:α→Nat} (hk:P.cellsOf e=k) (d:0 < k) (j:CN P e R sz) (p:P.underlying t=some (.slice e)) {H:Type} {i:TypeId×Value→H} {W:World} {base:Nat} {sp:Nat→Bool} {held:Bool} {fuel:Nat} {cs:List Value} {x:DataW H×List MemPlace} (n:DataW.trod i P W base sp held fuel t cs=some x) :
  ∃v l,cs=[v]∧Sl R k (hp W) v l∧tS sz l≤Rows.uptoBulk x.1:=G7 hk d p (λ_ _ _ h _=>j _ _ _ _ _ _ _ _ _ h) n
end Go.Proofs.YtjjjihkifgdhgaaGreatDoor.Lf
namespace Go.Proofs.YtjjjihkifgdhgaaGreatDoor.Lf
open Go.ChangeShapes Go.WideShapes Go.ChangeAt Go.RowKit
open Go.Proofs.YtjjjihkifgdhgaaGreatDoor (Rows.uptoBulk Rows.uptoBulkAll Rows.uptoSmall)
def IB {α:Type} (R:rB α) (Q:α→Prop):rB α:=λμ ys x=>R μ ys x∧Q x
theorem Sl.all {α:Type} {R:rB α} {Q:α→Prop} {k:Nat} {μ:lF} {v:Value} {l:List α} (h:Sl (IB R Q) k μ v l):Sl R k μ v l∧∀x∈l,Q x:=by
 obtain ⟨A,c,rfl,h1,n,s⟩:=h
 cases l with
 | nil=>exact ⟨⟨A,c,rfl,h1,n,λh=>absurd h (by simp)⟩,by simp⟩
 | cons a l=>
  obtain ⟨b,o,cs,T,fr,e,u,p⟩:=s (by simp)
  refine ⟨⟨A,c,rfl,h1,n,λ_=>⟨b,o,cs,T,fr,e,u,λi x j=>?_⟩⟩,λx j=>?_⟩
  ·obtain ⟨ys,q,d,r⟩:=p i x j
   exact ⟨ys,q,d.1,r⟩
  ·obtain ⟨i,w⟩:=List.mem_iff_getElem?.1 j
   obtain ⟨ys,q,d,r⟩:=p i x w
   exact d.2
theorem RH {P:Program} {t:TypeId} (d:P.underlying t=some (.int .u8)):CN P t (IB (Pl (lP .u8)) (λx=>0≤x∧x < 256)) (λ_=>0):=by
 intro H i W base sp j fuel cs x h
 obtain ⟨n,rfl,rfl,hw⟩:=DataW.trod_int d h
 refine ⟨n,⟨rfl,?_⟩,eB _⟩
 simp [Lit.wf,IntKind.min,IntKind.max,IntKind.bits,IntKind.signed] at hw
 omega
theorem Py {P:Program} {t:TypeId} (d:P.underlying t=some (.int .i64)):CN P t (IB (Pl (lP .i64)) (λx=>-9223372036854775808≤x∧x≤9223372036854775807)) (λ_=>0):=by
 intro H i W base sp j fuel cs x h
 obtain ⟨n,rfl,rfl,hw⟩:=DataW.trod_int d h
 refine ⟨n,⟨rfl,?_⟩,eB _⟩
 simp [Lit.wf,IntKind.min,IntKind.max,IntKind.bits,IntKind.signed] at hw
 omega
end Go.Proofs.YtjjjihkifgdhgaaGreatDoor.Lf
namespace Go.Proofs.YtjjjihkifgdhgaaGreatDoor
open Go.IntKind renaming wrap → wi0
open Go.Proofs.Tryz renaming prog → pg0
set_option maxRecDepth 10000
open Go.ChangeShapes Go.WideShapes Go.ChangeAt Go.RowKit
open Go.Proofs.YtjjjihkifgdhgaaGreatDoor Go.Proofs.YtjjjihkifgdhgaaGreatDoor.Lf
def iS:=@Tryz.underlying34
def iT:=@Tryz.underlying25
def iU:=@Tryz.underlying22
def iV:=@Tryz.underlying23
theorem MJ:Tryz.prog.cellsOf 34=18:=by kernel_rfl
theorem Pu {α:Type} {l:List α} (h:l.length=9):∃a0 d a2 a3 a4 a5 i j n,l=[a0,d,a2,a3,a4,a5,i,j,n]:=by
 match l,h with
 | [a0,d,a2,a3,a4,a5,i,j,n],_=>exact ⟨a0,d,a2,a3,a4,a5,i,j,n,rfl⟩
theorem Q2 {α:Type} {l:List α} (h:l.length=18):∃a0 r a2 a3 a4 a5 s u v a9 d i a12 j n p q a17,l=[a0,r,a2,a3,a4,a5,s,u,v,a9,d,i,a12,j,n,p,q,a17]:=by
 match l,h with
 | [a0,r,a2,a3,a4,a5,s,u,v,a9,d,i,a12,j,n,p,q,a17],_=>exact ⟨a0,r,a2,a3,a4,a5,s,u,v,a9,d,i,a12,j,n,p,q,a17,rfl⟩
theorem Ni:Tryz.prog.cellsOf 25=3:=by kernel_rfl
theorem LM {α:Type} {l:List α} (h:l.length=3):∃a0 d a2,l=[a0,d,a2]:=by
 match l,h with
 | [a0,d,a2],_=>exact ⟨a0,d,a2,rfl⟩
theorem Ct:Tryz.prog.cellsOf 9=1:=by kernel_rfl
theorem ES:JK pg0 9 (λs:ByteArray=>[.string s]) (λs=>s.size):=Ny Tryz.underlying9
theorem Gr:Tryz.prog.cellsOf 22=1:=by kernel_rfl
theorem Eb:Tryz.prog.cellsOf 57=15:=by kernel_rfl
theorem Gc {α:Type} {l:List α} (h:l.length=2):∃a0 d,l=[a0,d]:=by
 match l,h with
 | [a0,d],_=>exact ⟨a0,d,rfl⟩
theorem Tp {α:Type} {l:List α} (h:l.length=15):∃a0 p a2 a3 a4 a5 q r s a9 d i a12 j n,l=[a0,p,a2,a3,a4,a5,q,r,s,a9,d,i,a12,j,n]:=by
 match l,h with
 | [a0,p,a2,a3,a4,a5,q,r,s,a9,d,i,a12,j,n],_=>exact ⟨a0,p,a2,a3,a4,a5,q,r,s,a9,d,i,a12,j,n,rfl⟩
theorem RV:Tryz.prog.cellsOf 55=10:=by kernel_rfl
theorem IU:Tryz.prog.cellsOf 52=9:=by kernel_rfl
theorem PS:JK pg0 3 (λn:Int=>[.int .i64 n]) (λ_=>0):=RE Tryz.underlying3
theorem FT:Tryz.prog.cellsOf 3=1:=by kernel_rfl
theorem Gq:Tryz.prog.cellsOf 27=2:=by kernel_rfl
def yH (x:kz):Nat:=x.kA.size+x.Word.size
theorem Ia:JK pg0 27 kN yH:=by
 intro H p W base sp r fuel cs x h
 obtain ⟨xs,n,_,rfl,w,hlen,s⟩:=dN Tryz.underlying27 h
 obtain ⟨A,E,rfl⟩:=Gc hlen
 obtain ⟨d,c1,rfl⟩:=Gc (w.trans Gq)
 have q:DataW.trod p pg0 W base sp r n 9 (([d,c1].drop 0).take (Tryz.prog.cellsOf 9))=some A:=s 0 _ rfl
 have h1:DataW.trod p pg0 W base sp r n 9 (([d,c1].drop 1).take (Tryz.prog.cellsOf 9))=some E:=s 1 _ rfl
 simp only [Ct,List.drop,List.take] at q h1
 obtain ⟨z,i,u⟩:=ES _ _ _ _ _ _ _ _ _ q
 obtain ⟨s1,j,v⟩:=ES _ _ _ _ _ _ _ _ _ h1
 simp only [aK,cU] at i j
 obtain rfl:=i
 obtain rfl:=j
 refine ⟨⟨z,s1⟩,rfl,?_⟩
 simp only [List.map,Rows.uptoBulk,Rows.uptoBulkAll,yH] at u v ⊢
 omega
theorem T7 {α:Type} {l:List α} (h:l.length=6):∃a0 d a2 a3 a4 a5,l=[a0,d,a2,a3,a4,a5]:=by
 match l,h with
 | [a0,d,a2,a3,a4,a5],_=>exact ⟨a0,d,a2,a3,a4,a5,rfl⟩
def wk (x:kC):Nat:=yH x.Head+x.mC.size+yH x.B+yH x.C+x.mA.size
theorem QQ:JK pg0 52 kI wk:=by
 intro H u W base sp v fuel cs x h
 obtain ⟨xs,n,_,rfl,hl,hlen,w⟩:=dN Tryz.underlying52 h
 obtain ⟨y0,y1,y2,y3,y4,y5,rfl⟩:=T7 hlen
 obtain ⟨d,c1,c2,i,j,p,q,r,s,rfl⟩:=Pu (hl.trans IU)
 have L:DataW.trod u pg0 W base sp v n 3 (([d,c1,c2,i,j,p,q,r,s].drop 0).take (Tryz.prog.cellsOf 3))=some y0:=w 0 _ rfl
 have h1:DataW.trod u pg0 W base sp v n 27 (([d,c1,c2,i,j,p,q,r,s].drop 1).take (Tryz.prog.cellsOf 27))=some y1:=w 1 _ rfl
 have M:DataW.trod u pg0 W base sp v n 9 (([d,c1,c2,i,j,p,q,r,s].drop 3).take (Tryz.prog.cellsOf 9))=some y2:=w 2 _ rfl
 have O:DataW.trod u pg0 W base sp v n 27 (([d,c1,c2,i,j,p,q,r,s].drop 4).take (Tryz.prog.cellsOf 27))=some y3:=w 3 _ rfl
 have P:DataW.trod u pg0 W base sp v n 27 (([d,c1,c2,i,j,p,q,r,s].drop 6).take (Tryz.prog.cellsOf 27))=some y4:=w 4 _ rfl
 have Q:DataW.trod u pg0 W base sp v n 9 (([d,c1,c2,i,j,p,q,r,s].drop 8).take (Tryz.prog.cellsOf 9))=some y5:=w 5 _ rfl
 simp only [Gq,FT,Ct,List.drop,List.take] at L h1 M O P Q
 obtain ⟨s0,z,R⟩:=PS _ _ _ _ _ _ _ _ _ L
 obtain ⟨s1,A,T⟩:=Ia _ _ _ _ _ _ _ _ _ h1
 obtain ⟨s2,E,U⟩:=ES _ _ _ _ _ _ _ _ _ M
 obtain ⟨s3,G,Y⟩:=Ia _ _ _ _ _ _ _ _ _ O
 obtain ⟨s4,I,Z⟩:=Ia _ _ _ _ _ _ _ _ _ P
 obtain ⟨s5,J,b5⟩:=ES _ _ _ _ _ _ _ _ _ Q
 simp only [kN,aK,cU] at z A E G I J
 obtain rfl:=z
 obtain ⟨rfl,rfl⟩:=A
 obtain rfl:=E
 obtain ⟨rfl,rfl⟩:=G
 obtain ⟨rfl,rfl⟩:=I
 obtain rfl:=J
 refine ⟨⟨s0,s1,s2,s3,s4,s5⟩,rfl,?_⟩
 simp only [List.map,Rows.uptoBulk,Rows.uptoBulkAll,wk] at R T U Y Z b5 ⊢
 omega
theorem Mp:Tryz.prog.cellsOf 53=1:=by kernel_rfl
theorem OC:Tryz.prog.cellsOf 5=1:=by kernel_rfl
theorem Q1:CN pg0 5 (IB (Pl (lP .u8)) (λx=>0≤x∧x < 256)) (λ_=>0):=RH Tryz.underlying5
theorem BY:Tryz.prog.cellsOf 30=5:=by kernel_rfl
theorem Ug {α:Type} {l:List α} (h:l.length=4):∃a0 d a2 a3,l=[a0,d,a2,a3]:=by
 match l,h with
 | [a0,d,a2,a3],_=>exact ⟨a0,d,a2,a3,rfl⟩
theorem Uf {α:Type} {l:List α} (h:l.length=5):∃a0 d a2 a3 a4,l=[a0,d,a2,a3,a4]:=by
 match l,h with
 | [a0,d,a2,a3,a4],_=>exact ⟨a0,d,a2,a3,a4,rfl⟩
theorem Re:Tryz.prog.cellsOf 28=1:=by kernel_rfl
theorem Ub {H:Type} {x:DataW H×List MemPlace} {ys:List (DataW H×List MemPlace)} {p:List MemPlace} (d:x=(.agg (ys.map (·.1)),p)) (i:Nat) {y:DataW H×List MemPlace} (h:ys[i]? =some y):SizeOf.sizeOf y.1 < SizeOf.sizeOf x.1:=by
 subst d
 have:=List.sizeOf_lt_of_mem (bE.2 ⟨y,cR h,rfl⟩:y.1∈ys.map (·.1))
 simp only [DataW.agg.sizeOf_spec]; omega
theorem KT:∀l:List Formula,szFL l≤tS AA l
 | []=>aQ _
 | k::l=>by have:=KT l; rw [szFL]; simp only [tS,bA,gK] at this ⊢; omega
theorem S0:∀(N:Nat) (H:Type) (T:TypeId×Value→H) (W:World) (base:Nat) (sp:Nat→Bool) (U:Bool) (fuel:Nat) (cs:List Value) (x:DataW H×List MemPlace),
  DataW.trod T pg0 W base sp U fuel 30 cs=some x→SizeOf.sizeOf x.1 < N→∃a:Formula,kD (hp W) cs a∧AA a≤Rows.uptoBulk x.1:=by
 intro N
 induction N with
 | zero=>intro _ _ _ _ _ _ _ _ _ _ h; exact absurd h (Nat.not_lt_zero _)
 | succ N ih=>
  intro H T W base sp U fuel cs x h hN
  obtain ⟨a1,L,_,A,M,w,q⟩:=dN Tryz.underlying30 h
  obtain ⟨E,G,I,J,rfl⟩:=Ug w
  obtain ⟨d,i,j,n,p,rfl⟩:=Uf (M.trans BY)
  have r:DataW.trod _ pg0 W _ _ _ L 3 (([d,i,j,n,p].drop 0).take (Tryz.prog.cellsOf 3))=some E:=q 0 _ rfl
  have s:DataW.trod _ pg0 W _ _ _ L 3 (([d,i,j,n,p].drop 1).take (Tryz.prog.cellsOf 3))=some G:=q 1 _ rfl
  have u:DataW.trod _ pg0 W _ _ _ L 27 (([d,i,j,n,p].drop 2).take (Tryz.prog.cellsOf 27))=some I:=q 2 _ rfl
  have v:DataW.trod _ pg0 W _ _ _ L 28 (([d,i,j,n,p].drop 4).take (Tryz.prog.cellsOf 28))=some J:=q 3 _ rfl
  simp only [Gq,Re,FT,List.drop,List.take] at r s u v
  obtain ⟨s2,O,b2⟩:=PS _ _ _ _ _ _ _ _ _ r
  simp only [aK,cU] at O
  obtain rfl:=O
  obtain ⟨s3,P,b3⟩:=PS _ _ _ _ _ _ _ _ _ s
  simp only [aK,cU] at P
  obtain rfl:=P
  obtain ⟨s4,Q,b4⟩:=Ia _ _ _ _ _ _ _ _ _ u
  simp only [kN,aK,cU] at Q
  obtain ⟨rfl,rfl⟩:=Q
  obtain ⟨v5,Y,R,q5,b5⟩:=G7 BY (by decide) Tryz.underlying28 (λf cs y h hz=>ih _ _ _ _ _ _ _ _ _ h (by have:=Ub A 3 rfl; omega)) v
  simp only [aK,cU] at R
  obtain rfl:=R
  have Z:=bO (λz=>Rows.uptoBulk z.1) A
  refine ⟨⟨s2,s3,s4,Y⟩,kD.mk ⟨_,rfl,q5⟩,?_⟩
  have hz:=KT Y
  simp only [List.map,Rows.uptoBulk,Rows.uptoBulkAll,yH] at b2 b3 b4 b5 Z ⊢
  rw [Ll]
  simp only
  omega
theorem H7:CN pg0 30 kD AA:=λH d W base sp i fuel cs x h=>S0 _ H d W base sp i fuel cs x h (aT _)
def vK (x:lh):Nat:=wk x.Signed.kC+tS (λ_:Int=>0) x.Signed.Tag+1+AA x.kE+1
def O8 (x:lh):Prop:=(∀y∈x.Signed.Tag,0≤y∧y < 256)
theorem Ip:CN pg0 57 (IB kX O8) vK:=by
 intro H eh W base sp hd fuel cs x h
 obtain ⟨ag,n6,_,ab,aa,P,U⟩:=dN Tryz.underlying57 h
 obtain ⟨Z,a1,rfl⟩:=Gc P
 obtain ⟨d,i,j,n,p,q,r,s,u,v,w,A,E,G,I,rfl⟩:=Tp (aa.trans Eb)
 have J:DataW.trod _ pg0 W _ _ _ n6 55 (([d,i,j,n,p,q,r,s,u,v,w,A,E,G,I].drop 0).take (Tryz.prog.cellsOf 55))=some Z:=U 0 _ rfl
 have L:DataW.trod _ pg0 W _ _ _ n6 30 (([d,i,j,n,p,q,r,s,u,v,w,A,E,G,I].drop 10).take (Tryz.prog.cellsOf 30))=some a1:=U 1 _ rfl
 simp only [BY,RV,List.drop,List.take] at J L
 obtain ⟨ah,n7,_,ad,af,Q,Y⟩:=dN Tryz.underlying55 J
 obtain ⟨a6,a7,rfl⟩:=Gc Q
 have M:DataW.trod _ pg0 W _ _ _ n7 52 (([d,i,j,n,p,q,r,s,u,v].drop 0).take (Tryz.prog.cellsOf 52))=some a6:=Y 0 _ rfl
 have O:DataW.trod _ pg0 W _ _ _ n7 53 (([d,i,j,n,p,q,r,s,u,v].drop 9).take (Tryz.prog.cellsOf 53))=some a7:=Y 1 _ rfl
 simp only [IU,Mp,List.drop,List.take] at M O
 obtain ⟨s8,e8,b8⟩:=QQ _ _ _ _ _ _ _ _ _ M
 simp only [kI,kN,aK,cU] at e8
 obtain ⟨rfl,rfl,rfl,rfl,rfl,rfl,rfl,rfl,rfl⟩:=e8
 obtain ⟨v9,s9,e9,q9,b9⟩:=qx OC (by decide) Q1 Tryz.underlying53 O
 simp only [aK,cU] at e9
 obtain rfl:=e9
 obtain ⟨q9,g9⟩:=Lf.Sl.all q9
 have b7:=bO (λz=>Rows.uptoBulk z.1) ad
 obtain ⟨ae,R,a8⟩:=H7 _ _ _ _ _ _ _ _ _ L
 obtain ⟨v10,T,R⟩:=R.out
 simp only [aK,cU] at T
 obtain ⟨rfl,rfl,rfl,rfl,rfl⟩:=T
 have b6:=bO (λz=>Rows.uptoBulk z.1) ab
 refine ⟨⟨⟨s8,s9⟩,ae⟩,⟨kX.mk ⟨_,_,rfl,q9,R⟩,g9⟩,?_⟩
 simp only [List.map,Rows.uptoBulk,Rows.uptoBulkAll,vK] at b8 b9 b7 a8 b6 ⊢
 omega
theorem GD:Tryz.prog.cellsOf 23=1:=by kernel_rfl
theorem CB:Tryz.prog.cellsOf 132=8:=by kernel_rfl
theorem Uk {α:Type} {l:List α} (h:l.length=8):∃a0 d a2 a3 a4 a5 i j,l=[a0,d,a2,a3,a4,a5,i,j]:=by
 match l,h with
 | [a0,d,a2,a3,a4,a5,i,j],_=>exact ⟨a0,d,a2,a3,a4,a5,i,j,rfl⟩
theorem RP:Tryz.prog.cellsOf 45=1:=by kernel_rfl
def yX (x:mn):Nat:=yH x.kz+AA x.kE+tS wk x.lN+1
def TJ (x:mn):Prop:=True
theorem GI:CN pg0 132 (IB ls TJ) yX:=by
 intro H eh W base sp hd fuel cs x h
 obtain ⟨aa,n11,_,R,Q,E,A⟩:=dN Tryz.underlying132 h
 obtain ⟨I,J,L,rfl⟩:=LM E
 obtain ⟨d,i,j,n,p,q,r,s,rfl⟩:=Uk (Q.trans CB)
 have u:DataW.trod _ pg0 W _ _ _ n11 27 (([d,i,j,n,p,q,r,s].drop 0).take (Tryz.prog.cellsOf 27))=some I:=A 0 _ rfl
 have v:DataW.trod _ pg0 W _ _ _ n11 30 (([d,i,j,n,p,q,r,s].drop 2).take (Tryz.prog.cellsOf 30))=some J:=A 1 _ rfl
 have w:DataW.trod _ pg0 W _ _ _ n11 45 (([d,i,j,n,p,q,r,s].drop 7).take (Tryz.prog.cellsOf 45))=some L:=A 2 _ rfl
 simp only [Gq,BY,RP,List.drop,List.take] at u v w
 obtain ⟨a6,M,U⟩:=Ia _ _ _ _ _ _ _ _ _ u
 simp only [kN,aK,cU] at M
 obtain ⟨rfl,rfl⟩:=M
 obtain ⟨a7,G,Y⟩:=H7 _ _ _ _ _ _ _ _ _ v
 obtain ⟨ab,O,G⟩:=G.out
 simp only [aK,cU] at O
 obtain ⟨rfl,rfl,rfl,rfl,rfl⟩:=O
 obtain ⟨ad,a8,P,a1,Z⟩:=qx IU (by decide) QQ.rel Tryz.underlying45 w
 simp only [aK,cU] at P
 obtain rfl:=P
 have T:=bO (λz=>Rows.uptoBulk z.1) R
 refine ⟨⟨a6,a7,a8⟩,⟨ls.mk ⟨_,_,rfl,G,a1⟩,trivial⟩,?_⟩
 simp only [List.map,Rows.uptoBulk,Rows.uptoBulkAll,yX] at U Y Z T ⊢
 omega
theorem Ja:Tryz.prog.cellsOf 31=2:=by kernel_rfl
def Gm (x:sH):Nat:=0
theorem M2:Tryz.prog.cellsOf 32=1:=by kernel_rfl
theorem HF:Tryz.prog.cellsOf 119=2:=by kernel_rfl
def Df (x:Key):Nat:=x.mC.size+tS (λ_:Int=>0) x.Key+1
def TI (x:Key):Prop:=(∀y∈x.Key,0≤y∧y < 256)
theorem Nh:CN pg0 119 (IB oF TI) Df:=by
 intro H P W base sp Q fuel cs x h
 obtain ⟨O,n15,_,E,A,p,q⟩:=dN Tryz.underlying119 h
 obtain ⟨s,u,rfl⟩:=Gc p
 obtain ⟨d,i,rfl⟩:=Gc (A.trans HF)
 have j:DataW.trod _ pg0 W _ _ _ n15 9 (([d,i].drop 0).take (Tryz.prog.cellsOf 9))=some s:=q 0 _ rfl
 have n:DataW.trod _ pg0 W _ _ _ n15 53 (([d,i].drop 1).take (Tryz.prog.cellsOf 53))=some u:=q 1 _ rfl
 simp only [Mp,Ct,List.drop,List.take] at j n
 obtain ⟨L,v,I⟩:=ES _ _ _ _ _ _ _ _ _ j
 simp only [aK,cU] at v
 obtain rfl:=v
 obtain ⟨v17,M,w,r,J⟩:=qx OC (by decide) Q1 Tryz.underlying53 n
 simp only [aK,cU] at w
 obtain rfl:=w
 obtain ⟨r,g17⟩:=Lf.Sl.all r
 have G:=bO (λz=>Rows.uptoBulk z.1) E
 refine ⟨⟨L,M⟩,⟨oF.mk ⟨_,rfl,r⟩,g17⟩,?_⟩
 simp only [List.map,Rows.uptoBulk,Rows.uptoBulkAll,Df] at I J G ⊢
 omega
def Ed (x:nA):Nat:=x.kA.Name.size+tS vK x.kA.kM+tS yX x.kA.kU+1+x.Client.Name.size+tS vK x.Client.kM+tS yX x.Client.kU+1+AA x.Formula+Gm x.lA+tS Df x.Keys+1
theorem Bc:CN pg0 3 (IB (Pl (lP .i64)) tQ) (λ_=>0):=Py Tryz.underlying3
theorem OW:CN pg0 31 (IB (Pl wH) (λa=>tQ a.oH∧tQ a.ow)) (λ_=>0):=by
 intro H p W base sp r fuel cs x h
 obtain ⟨xs,n,_,rfl,u,hlen,s⟩:=DataW.trod_array Tryz.underlying31 h
 obtain ⟨w,z,rfl⟩:=Gc hlen
 obtain ⟨d,c1,rfl⟩:=Gc (u.trans Ja)
 have q:DataW.trod p pg0 W base sp r n 3 (([d,c1].drop (0*Tryz.prog.cellsOf 3)).take (Tryz.prog.cellsOf 3))=some w:=s 0 (by decide)
 have h1:DataW.trod p pg0 W base sp r n 3 (([d,c1].drop (1*Tryz.prog.cellsOf 3)).take (Tryz.prog.cellsOf 3))=some z:=s 1 (by decide)
 simp only [FT,List.drop,List.take,Nat.reduceMul] at q h1
 obtain ⟨v,⟨i,g0⟩,_⟩:=Bc _ _ _ _ _ _ _ _ _ q
 simp only [Pl,lP,aK,cU] at i
 obtain rfl:=i
 obtain ⟨s1,⟨j,g1⟩,_⟩:=Bc _ _ _ _ _ _ _ _ _ h1
 simp only [Pl,lP,aK,cU] at j
 obtain rfl:=j
 exact ⟨⟨v,s1⟩,⟨rfl,g0,g1⟩,eB _⟩
theorem R7:Tryz.prog.readableRec 34=true∧34 < Tryz.prog.types.size:=⟨by kernel_rfl,jG (by kernel_rfl)⟩
theorem EQ (c:kC):zb c=wk c:=by unfold zb wk yH; omega
theorem MB {α:Type} (sz:α→Nat) (h:∀a,2≤sz a):∀l:List α,2*l.length≤tS sz l
 | []=>eB _
 | a::l=>by have:=MB sz h l; have:=h a; simp only [tS,bA,gK,aJ] at *; omega
theorem Cp (y:lh):vK y=wk y.Signed.kC+tS (λ_:Int=>0) y.Signed.Tag+1+AA y.kE+1:=rfl
theorem LK (y:mn):yX y=yH y.kz+AA y.kE+tS wk y.lN+1:=rfl
theorem Qt (y:Key):Df y=y.mC.size+tS (λ_:Int=>0) y.Key+1:=rfl
theorem MI:∀l:List kC,zj l≤21*tS wk l
 | []=>eB _
 | c::l=>by have:=MI l; rw [zj,EQ]; simp only [tS,bA,gK] at *; omega
theorem MG:∀l:List lh,DA l≤21*tS vK l
 | []=>eB _
 | x::l=>by
  have:=MG l
  have:=Ef (λ_:Int=>0) x.Signed.Tag
  rw [DA,EQ]
  have e:=Cp x
  simp only [tS,bA,gK] at *; omega
theorem Nj:∀l:List mn,B6 l≤21*tS yX l
 | []=>eB _
 | x::l=>by
  have:=Nj l
  have:=MI x.lN
  rw [B6]
  have e:=LK x
  unfold yH at e
  have d:tS yX (x::l)=max 1 (yX x)+tS yX l:=rfl
  omega
theorem M8:∀l:List Key,B7 l≤11*tS Df l
 | []=>eB _
 | x::l=>by
  have:=M8 l
  have:=Ef (λ_:Int=>0) x.Key
  rw [B7]
  have e:=Qt x
  have d:tS Df (x::l)=max 1 (Df x)+tS Df l:=rfl
  omega
theorem KU (x:lZ) (j:x.Name.size≤1048576) (h1:tS vK x.kM≤1048576) (n:tS yX x.kU≤1048576):PG x∧x.kM.length≤600000∧Jn x≤1000000000:=by
 have c1:=MB vK (λy=>by rw [Cp]; omega) x.kM
 have c2:=Ef yX x.kU
 have g1:∀y∈x.kM,wk y.Signed.kC≤1048576∧ma y.kE≤1048576:=λy d=>by
  have:=IH (sz:=vK) d
  have e:=Cp y
  have:=Dj y.kE
  omega
 have g2:∀y∈x.kU,ma y.kE≤1048576∧tS wk y.lN≤1048576:=λy d=>by
  have:=IH (sz:=yX) d
  have e:=LK y
  have:=Dj y.kE
  omega
 refine ⟨{ Iu:=by omega,FO:=by omega,rel:=λy d=>?_,NR:=λy d=>?_,TU:=λy d=>?_,Us:=λy d=>?_,UC:=λy d c i=>?_ },by omega,?_⟩
 ·have:=(g1 y d).2; omega
 ·have:=(g2 y d).1; omega
 ·have:=(g2 y d).2; have:=Ef wk y.lN; omega
 ·have:=(g1 y d).1; rw [EQ]; omega
 ·have:=(g2 y d).2; have:=IH (sz:=wk) i; rw [EQ]; omega
 ·have:=MG x.kM; have:=Nj x.kU; unfold Jn; omega
theorem Nc (p:nA) (h:Ed p≤1048576):PQ p:=by
 unfold Ed at h
 have a:=KU p.kA (by omega) (by omega) (by omega)
 have b:=KU p.Client (by omega) (by omega) (by omega)
 have k:=M8 p.Keys
 have f:=Dj p.Formula
 exact { o:=a.1,c:=b.1,lo:=a.2.1,lc:=b.2.1,f:=by omega,go:=a.2.2,gc:=b.2.2,fs:=by omega,ks:=by omega }
theorem Uy:ownKnob Tryz.prog.godebug=none:=by kernel_rfl
theorem Ql:laidOutB pg0=true:=by kernel_rfl
theorem P5:Tryz.prog.globalNamed "internal/strconv.uint64pow10"=some 3:=by kernel_rfl
theorem Qs:(Tryz.prog.globals[3]?).map (·.type)=some 331:=by kernel_rfl
theorem Si:Tryz.prog.cellsOf 331=20:=by kernel_rfl
theorem SV:Tryz.prog.cellsOf 272=1:=by kernel_rfl
theorem Kl {P:Program} {x:String×DataW Unit} {r:List (String×DataW Unit)} {w:World} (h:laidMet P (x::r) w):laidMet P r w:=by
 obtain ⟨v,⟨g,t,cs,fuel,p,q,h1,n,s,u,d,rfl⟩,j,i⟩:=h
 exact ⟨q,d,(cW.1 j).2.1,λb off hb=>i b off (aV.2 (.inr hb))⟩
theorem T8 {W:World} (h:laidMetH pg0 Rows.changeTellsUptoRow.laid W):zf pg0 (hp W):=by
 have i:laidMet pg0 [("math/bits.deBruijn32tab",Rows.laid_math_bits_deBruijn32tab),("math/bits.deBruijn64tab",Rows.laid_math_bits_deBruijn64tab),("internal/strconv.uint64pow10",Go.Lib.tabData .u64 Go.Lib.pow10Tab)] W:=h
 have h1:=Go.Lib.tabIs_of_head (rest:=[]) P5 Qs Tryz.underlying331 Tryz.underlying272 SV Si (Kl (Kl i))
 unfold Go.Lib.TabIs World.var? at h1
 rw [P5] at h1
 simp only [aA] at h1
 cases d:W.heap[3]? with
 | none=>rw [d] at h1; cases h1
 | some o=>
  rw [d] at h1
  cases o with
  | cells cs T fr=>
   obtain rfl:=gZ h1
   exact ⟨3,_,_,P5,d⟩
  | _=>exact absurd (show (none:Option (Array Value))=some _ from h1) (λh=>by cases h)
def TH:DataW Unit→Array Value
 | .agg l=>(l.map λx=>match x with | .lit (.int k z)=>Value.int k z | _=>Value.nilIface).toArray
 | _=>#[]
def KG (d:DataW Unit) (o:Obj):Obj:=match o with | .cells _ t frozen=>.cells (TH d) t frozen | o=>o
theorem P7 (H:Type) (enc:TypeId×Value→H) (W:World) (base:Nat) (args:Array Value) (ds gs:List (DataW H)) (before:List MemPlace) (bt:∀(j:Nat) t v,Tryz.f7.params[j]? =some t→args[j]? =some v→Value.okWide pg0 W .any base t v) (hW:DataW.Whole enc pg0 Tryz.f7.params.toList Rows.changeTellsSpec.vars false W args.toList ds gs before) (hk:Rows.uptoSmall H (ds++gs)=true) (hL:laidMetH pg0 Rows.changeTellsUptoRow.laid W) :
  Calls pg0 7 args W λe W'=>∃v,e= .returned v∧Rows.changeTellsSpec.post enc pg0 Tryz.f7 false true false false W args v W':=by
 have hs:=hW
 obtain ⟨p,q,hq,hV,rfl,j3,j4⟩:=hW
 have hA:DataW.TrodAll enc pg0 W 0 (λ_=>true) true Tryz.f7.params.toList args.toList ds p:=hq
 have hr:∀t∈Tryz.f7.params.toList,Tryz.prog.readableRec t=true∧t < Tryz.prog.types.size:=by
  rw [Tryz.params7]
  intro t ht
  simp only [aY,dM,gP] at ht
  rcases ht with rfl | rfl
  ·exact R7
  ·exact R7
 rw [Tryz.params7] at hA bt
 obtain ⟨v0,j8,d0,hQ,p0,q0,hv,rfl,rfl,h0,r0⟩:=trodAll_cons hA
 obtain ⟨v1,j9,d1,hR,p1,q1,rfl,rfl,rfl,h1,r1⟩:=trodAll_cons r0
 obtain ⟨rfl,rfl,rfl⟩:=trodAll_nil r1
 obtain rfl:args=#[v0,v1]:=by cases args; simp_all
 obtain ⟨rfl,rfl⟩:=trodVars_none hV
 have k0:=bt 0 34 v0 rfl rfl
 have k1:=bt 1 34 v1 rfl rfl
 obtain ⟨en,rfl,_⟩:=okWide_struct iS k0
 obtain ⟨hS,fw⟩:=h0
 obtain ⟨hy,rfl⟩:∃l:List Value,en=l.toArray:=⟨en.toList,by simp⟩
 change DataW.trod _ _ _ _ _ _ _ _ hy=some _ at fw
 obtain ⟨hI,n18,_,ga,fy,bx,ak⟩:=dN iS fw
 obtain ⟨dq,dr,dt,du,dv,dw,dx,dy,dz,rfl⟩:=Pu bx
 obtain ⟨J,d,i,L,n,r,ab,ad,ae,af,A,P,Q,R,T,U,Y,E,rfl⟩:=Q2 (fy.trans MJ)
 have an:DataW.trod _ pg0 W _ _ _ n18 25 (([J,d,i,L,n,r,ab,ad,ae,af,A,P,Q,R,T,U,Y,E].drop 0).take (Tryz.prog.cellsOf 25))=some dq:=ak 0 _ rfl
 have ao:DataW.trod _ pg0 W _ _ _ n18 25 (([J,d,i,L,n,r,ab,ad,ae,af,A,P,Q,R,T,U,Y,E].drop 3).take (Tryz.prog.cellsOf 25))=some dr:=ak 1 _ rfl
 have ap:DataW.trod _ pg0 W _ _ _ n18 30 (([J,d,i,L,n,r,ab,ad,ae,af,A,P,Q,R,T,U,Y,E].drop 6).take (Tryz.prog.cellsOf 30))=some dt:=ak 2 _ rfl
 have aq:DataW.trod _ pg0 W _ _ _ n18 3 (([J,d,i,L,n,r,ab,ad,ae,af,A,P,Q,R,T,U,Y,E].drop 11).take (Tryz.prog.cellsOf 3))=some du:=ak 3 _ rfl
 have ar:DataW.trod _ pg0 W _ _ _ n18 31 (([J,d,i,L,n,r,ab,ad,ae,af,A,P,Q,R,T,U,Y,E].drop 12).take (Tryz.prog.cellsOf 31))=some dv:=ak 4 _ rfl
 have au:DataW.trod _ pg0 W _ _ _ n18 3 (([J,d,i,L,n,r,ab,ad,ae,af,A,P,Q,R,T,U,Y,E].drop 14).take (Tryz.prog.cellsOf 3))=some dw:=ak 5 _ rfl
 have av:DataW.trod _ pg0 W _ _ _ n18 3 (([J,d,i,L,n,r,ab,ad,ae,af,A,P,Q,R,T,U,Y,E].drop 15).take (Tryz.prog.cellsOf 3))=some dx:=ak 6 _ rfl
 have aw:DataW.trod _ pg0 W _ _ _ n18 3 (([J,d,i,L,n,r,ab,ad,ae,af,A,P,Q,R,T,U,Y,E].drop 16).take (Tryz.prog.cellsOf 3))=some dy:=ak 7 _ rfl
 have ay:DataW.trod _ pg0 W _ _ _ n18 32 (([J,d,i,L,n,r,ab,ad,ae,af,A,P,Q,R,T,U,Y,E].drop 17).take (Tryz.prog.cellsOf 32))=some dz:=ak 8 _ rfl
 simp only [Ni,FT,BY,Ja,M2,List.drop,List.take] at an ao ap aq ar au av aw ay
 obtain ⟨hJ,n19,_,gb,hD,bz,bo⟩:=dN iT an
 obtain ⟨e0,e1,e2,rfl⟩:=LM bz
 have az:DataW.trod _ pg0 W _ _ _ n19 9 (([J,d,i].drop 0).take (Tryz.prog.cellsOf 9))=some e0:=bo 0 _ rfl
 have aE:DataW.trod _ pg0 W _ _ _ n19 22 (([J,d,i].drop 1).take (Tryz.prog.cellsOf 22))=some e1:=bo 1 _ rfl
 have b0:DataW.trod _ pg0 W _ _ _ n19 23 (([J,d,i].drop 2).take (Tryz.prog.cellsOf 23))=some e2:=bo 2 _ rfl
 simp only [Gr,GD,Ct,List.drop,List.take] at az aE b0
 obtain ⟨c6,ep,gl⟩:=ES _ _ _ _ _ _ _ _ _ az
 simp only [aK,cU] at ep
 obtain rfl:=ep
 obtain ⟨v21,c7,er,cy,gn⟩:=qx Eb (by decide) Ip iU aE
 simp only [aK,cU] at er
 obtain rfl:=er
 obtain ⟨cy,g21⟩:=Lf.Sl.all cy
 obtain ⟨v22,c8,et,cz,gq⟩:=qx CB (by decide) GI iV b0
 simp only [aK,cU] at et
 obtain rfl:=et
 obtain ⟨cz,g22⟩:=Lf.Sl.all cz
 have gj:=bO (λz=>Rows.uptoBulk z.1) gb
 obtain ⟨hK,n23,_,gd,hE,c0,bp⟩:=dN iT ao
 obtain ⟨e3,e4,e5,rfl⟩:=LM c0
 have b1:DataW.trod _ pg0 W _ _ _ n23 9 (([L,n,r].drop 0).take (Tryz.prog.cellsOf 9))=some e3:=bp 0 _ rfl
 have b2:DataW.trod _ pg0 W _ _ _ n23 22 (([L,n,r].drop 1).take (Tryz.prog.cellsOf 22))=some e4:=bp 1 _ rfl
 have b3:DataW.trod _ pg0 W _ _ _ n23 23 (([L,n,r].drop 2).take (Tryz.prog.cellsOf 23))=some e5:=bp 2 _ rfl
 simp only [Gr,GD,Ct,List.drop,List.take] at b1 b2 b3
 obtain ⟨c9,eu,gu⟩:=ES _ _ _ _ _ _ _ _ _ b1
 simp only [aK,cU] at eu
 obtain rfl:=eu
 obtain ⟨v25,ca,ev,da,gw⟩:=qx Eb (by decide) Ip iU b2
 simp only [aK,cU] at ev
 obtain rfl:=ev
 obtain ⟨da,hX⟩:=Lf.Sl.all da
 obtain ⟨v26,cb,ew,db,gy⟩:=qx CB (by decide) GI iV b3
 simp only [aK,cU] at ew
 obtain rfl:=ew
 obtain ⟨db,hZ⟩:=Lf.Sl.all db
 have gr:=bO (λz=>Rows.uptoBulk z.1) gd
 obtain ⟨cc,de,gz⟩:=H7 _ _ _ _ _ _ _ _ _ ap
 obtain ⟨v27,ey,de⟩:=de.out
 simp only [aK,cU] at ey
 obtain ⟨rfl,rfl,rfl,rfl,rfl⟩:=ey
 obtain ⟨cd,⟨ez,hd⟩,_⟩:=Bc _ _ _ _ _ _ _ _ _ aq
 simp only [Pl,lP,aK,cU] at ez
 obtain rfl:=ez
 obtain ⟨bu,⟨eI,fu⟩,_⟩:=OW _ _ _ _ _ _ _ _ _ ar
 simp only [Pl,wH,aK,cU] at eI
 obtain ⟨rfl,rfl⟩:=eI
 have hz:Gm bu≤0:=aQ _
 obtain ⟨cf,⟨eN,hf⟩,_⟩:=Bc _ _ _ _ _ _ _ _ _ au
 simp only [Pl,lP,aK,cU] at eN
 obtain rfl:=eN
 obtain ⟨cg,⟨eR,hh⟩,_⟩:=Bc _ _ _ _ _ _ _ _ _ av
 simp only [Pl,lP,aK,cU] at eR
 obtain rfl:=eR
 obtain ⟨ch,⟨eS,hi⟩,_⟩:=Bc _ _ _ _ _ _ _ _ _ aw
 simp only [Pl,lP,aK,cU] at eS
 obtain rfl:=eS
 obtain ⟨v33,cj,fa,df,gR⟩:=qx HF (by decide) Nh Tryz.underlying32 ay
 simp only [aK,cU] at fa
 obtain rfl:=fa
 obtain ⟨df,ia⟩:=Lf.Sl.all df
 have gi:=bO (λz=>Rows.uptoBulk z.1) ga
 simp only [List.map,Rows.uptoBulk,Rows.uptoBulkAll] at gl gn gq gj gu gw gy gr gz gR gi
 have z0:Ed (⟨⟨c6,c7,c8⟩,⟨c9,ca,cb⟩,cc,cd,bu,cf,cg,ch,cj⟩:nA)≤Rows.uptoBulk d0:=by simp only [Ed]; omega
 have dn:O5 (⟨⟨c6,c7,c8⟩,⟨c9,ca,cb⟩,cc,cd,bu,cf,cg,ch,cj⟩:nA):=⟨hd,fu.1,fu.2,hf,hh,hi⟩
 obtain ⟨eo,rfl,_⟩:=okWide_struct iS k1
 obtain ⟨hT,fx⟩:=h1
 obtain ⟨Nk,rfl⟩:∃l:List Value,eo=l.toArray:=⟨eo.toList,by simp⟩
 change DataW.trod _ _ _ _ _ _ _ _ Nk=some _ at fx
 obtain ⟨hM,n34,_,gf,fz,c3,al⟩:=dN iS fx
 obtain ⟨e6,e7,e8,e9,ea,eb,ec,ed,ee,rfl⟩:=Pu c3
 obtain ⟨M,s,u,O,w,x,ag,ah,ai,aj,G,Z,a1,a6,a7,a8,aa,I,rfl⟩:=Q2 (fz.trans MJ)
 have b4:DataW.trod _ pg0 W _ _ _ n34 25 (([M,s,u,O,w,x,ag,ah,ai,aj,G,Z,a1,a6,a7,a8,aa,I].drop 0).take (Tryz.prog.cellsOf 25))=some e6:=al 0 _ rfl
 have b5:DataW.trod _ pg0 W _ _ _ n34 25 (([M,s,u,O,w,x,ag,ah,ai,aj,G,Z,a1,a6,a7,a8,aa,I].drop 3).take (Tryz.prog.cellsOf 25))=some e7:=al 1 _ rfl
 have b6:DataW.trod _ pg0 W _ _ _ n34 30 (([M,s,u,O,w,x,ag,ah,ai,aj,G,Z,a1,a6,a7,a8,aa,I].drop 6).take (Tryz.prog.cellsOf 30))=some e8:=al 2 _ rfl
 have b7:DataW.trod _ pg0 W _ _ _ n34 3 (([M,s,u,O,w,x,ag,ah,ai,aj,G,Z,a1,a6,a7,a8,aa,I].drop 11).take (Tryz.prog.cellsOf 3))=some e9:=al 3 _ rfl
 have b9:DataW.trod _ pg0 W _ _ _ n34 31 (([M,s,u,O,w,x,ag,ah,ai,aj,G,Z,a1,a6,a7,a8,aa,I].drop 12).take (Tryz.prog.cellsOf 31))=some ea:=al 4 _ rfl
 have ba:DataW.trod _ pg0 W _ _ _ n34 3 (([M,s,u,O,w,x,ag,ah,ai,aj,G,Z,a1,a6,a7,a8,aa,I].drop 14).take (Tryz.prog.cellsOf 3))=some eb:=al 5 _ rfl
 have bc:DataW.trod _ pg0 W _ _ _ n34 3 (([M,s,u,O,w,x,ag,ah,ai,aj,G,Z,a1,a6,a7,a8,aa,I].drop 15).take (Tryz.prog.cellsOf 3))=some ec:=al 6 _ rfl
 have bd:DataW.trod _ pg0 W _ _ _ n34 3 (([M,s,u,O,w,x,ag,ah,ai,aj,G,Z,a1,a6,a7,a8,aa,I].drop 16).take (Tryz.prog.cellsOf 3))=some ed:=al 7 _ rfl
 have bf:DataW.trod _ pg0 W _ _ _ n34 32 (([M,s,u,O,w,x,ag,ah,ai,aj,G,Z,a1,a6,a7,a8,aa,I].drop 17).take (Tryz.prog.cellsOf 32))=some ee:=al 8 _ rfl
 simp only [Ni,FT,BY,Ja,M2,List.drop,List.take] at b4 b5 b6 b7 b9 ba bc bd bf
 obtain ⟨hN,n35,_,gg,hF,c4,bq⟩:=dN iT b4
 obtain ⟨ef,eg,eh,rfl⟩:=LM c4
 have bh:DataW.trod _ pg0 W _ _ _ n35 9 (([M,s,u].drop 0).take (Tryz.prog.cellsOf 9))=some ef:=bq 0 _ rfl
 have bi:DataW.trod _ pg0 W _ _ _ n35 22 (([M,s,u].drop 1).take (Tryz.prog.cellsOf 22))=some eg:=bq 1 _ rfl
 have bj:DataW.trod _ pg0 W _ _ _ n35 23 (([M,s,u].drop 2).take (Tryz.prog.cellsOf 23))=some eh:=bq 2 _ rfl
 simp only [Gr,GD,Ct,List.drop,List.take] at bh bi bj
 obtain ⟨ck,fb,h4⟩:=ES _ _ _ _ _ _ _ _ _ bh
 simp only [aK,cU] at fb
 obtain rfl:=fb
 obtain ⟨v37,cm,fc,dh,h5⟩:=qx Eb (by decide) Ip iU bi
 simp only [aK,cU] at fc
 obtain rfl:=fc
 obtain ⟨dh,ik⟩:=Lf.Sl.all dh
 obtain ⟨j5,cn,fe,di,h6⟩:=qx CB (by decide) GI iV bj
 simp only [aK,cU] at fe
 obtain rfl:=fe
 obtain ⟨di,il⟩:=Lf.Sl.all di
 have h3:=bO (λz=>Rows.uptoBulk z.1) gg
 obtain ⟨hP,n39,_,gh,hG,c5,bs⟩:=dN iT b5
 obtain ⟨ei,ej,ek,rfl⟩:=LM c5
 have bk:DataW.trod _ pg0 W _ _ _ n39 9 (([O,w,x].drop 0).take (Tryz.prog.cellsOf 9))=some ei:=bs 0 _ rfl
 have bl:DataW.trod _ pg0 W _ _ _ n39 22 (([O,w,x].drop 1).take (Tryz.prog.cellsOf 22))=some ej:=bs 1 _ rfl
 have bn:DataW.trod _ pg0 W _ _ _ n39 23 (([O,w,x].drop 2).take (Tryz.prog.cellsOf 23))=some ek:=bs 2 _ rfl
 simp only [Gr,GD,Ct,List.drop,List.take] at bk bl bn
 obtain ⟨cp,fg,h8⟩:=ES _ _ _ _ _ _ _ _ _ bk
 simp only [aK,cU] at fg
 obtain rfl:=fg
 obtain ⟨v41,cq,fh,dj,h9⟩:=qx Eb (by decide) Ip iU bl
 simp only [aK,cU] at fh
 obtain rfl:=fh
 obtain ⟨dj,im⟩:=Lf.Sl.all dj
 obtain ⟨j6,cr,fi,dk,ha⟩:=qx CB (by decide) GI iV bn
 simp only [aK,cU] at fi
 obtain rfl:=fi
 obtain ⟨dk,ix⟩:=Lf.Sl.all dk
 have h7:=bO (λz=>Rows.uptoBulk z.1) gh
 obtain ⟨cs,dl,hb⟩:=H7 _ _ _ _ _ _ _ _ _ b6
 obtain ⟨j7,fj,dl⟩:=dl.out
 simp only [aK,cU] at fj
 obtain ⟨rfl,rfl,rfl,rfl,rfl⟩:=fj
 obtain ⟨ct,⟨fk,hj⟩,_⟩:=Bc _ _ _ _ _ _ _ _ _ b7
 simp only [Pl,lP,aK,cU] at fk
 obtain rfl:=fk
 obtain ⟨bw,⟨fl,fv⟩,_⟩:=OW _ _ _ _ _ _ _ _ _ b9
 simp only [Pl,wH,aK,cU] at fl
 obtain ⟨rfl,rfl⟩:=fl
 have hC:Gm bw≤0:=aQ _
 obtain ⟨cu,⟨fo,hl⟩,_⟩:=Bc _ _ _ _ _ _ _ _ _ ba
 simp only [Pl,lP,aK,cU] at fo
 obtain rfl:=fo
 obtain ⟨cv,⟨fp,hn⟩,_⟩:=Bc _ _ _ _ _ _ _ _ _ bc
 simp only [Pl,lP,aK,cU] at fp
 obtain rfl:=fp
 obtain ⟨cw,⟨fq,ho⟩,_⟩:=Bc _ _ _ _ _ _ _ _ _ bd
 simp only [Pl,lP,aK,cU] at fq
 obtain rfl:=fq
 obtain ⟨v49,cx,ft,dm,hc⟩:=qx HF (by decide) Nh Tryz.underlying32 bf
 simp only [aK,cU] at ft
 obtain rfl:=ft
 obtain ⟨dm,j0⟩:=Lf.Sl.all dm
 have h2:=bO (λz=>Rows.uptoBulk z.1) gf
 simp only [List.map,Rows.uptoBulk,Rows.uptoBulkAll] at h4 h5 h6 h3 h8 h9 ha h7 hb hc h2
 have z1:Ed (⟨⟨ck,cm,cn⟩,⟨cp,cq,cr⟩,cs,ct,bw,cu,cv,cw,cx⟩:nA)≤Rows.uptoBulk d1:=by simp only [Ed]; omega
 have dp:O5 (⟨⟨ck,cm,cn⟩,⟨cp,cq,cr⟩,cs,ct,bw,cu,cv,cw,cx⟩:nA):=⟨hj,fv.1,fv.2,hl,hn,ho⟩
 have hB:Rows.uptoBulkAll ([d0,d1]++[])≤1048576:=jG hk
 simp only [bB,Rows.uptoBulkAll] at hB
 have hm:vj (⟨⟨c6,c7,c8⟩,⟨c9,ca,cb⟩,cc,cd,bu,cf,cg,ch,cj⟩:nA) (⟨⟨ck,cm,cn⟩,⟨cp,cq,cr⟩,cs,ct,bw,cu,cv,cw,cx⟩:nA)=some true:=Hw RO _ _ (Nc _ (by omega)) (Nc _ (by omega)) dn dp
 have hg:=Ft (⟨⟨c6,c7,c8⟩,⟨c9,ca,cb⟩,cc,cd,bu,cf,cg,ch,cj⟩:nA) d i n r A E (⟨⟨ck,cm,cn⟩,⟨cp,cq,cr⟩,cs,ct,bw,cu,cv,cw,cx⟩:nA) s u w x G I true W (T8 hL) cy cz da db de df dh di dj dk dl dm hm
 refine dI hg λe W' ⟨he,hx⟩=>?_
 subst he
 exact ⟨_,rfl,Nu Ql hr rfl hs hx (λ_ _ _=>trodAll_cons_mk (shut_bool Tryz.underlying4 _) trodAll_mk0) rfl rfl (ok_one (by kernel_rfl) rfl (okWide_bool_mk Tryz.underlying4 _))⟩
noncomputable def FA (os:Os):World :=
 { World.holding pg0 os ⟨#[],#[],[]⟩ with heap:=(((World.holding pg0 os ⟨#[],#[],[]⟩).heap.modify 4 (KG Rows.laid_math_bits_deBruijn32tab)).modify 5 (KG Rows.laid_math_bits_deBruijn64tab)).modify 3 (KG Rows.laid_internal_strconv_uint64pow10) }
theorem Qm (os:Os):laidMet pg0 Rows.changeTellsUptoRow.laid ((FA os).forCall (λ_ _=>0) ⟨#[],#[.agg #[.string ⟨#[]⟩,.slice none 0 0,.slice none 0 0,.string ⟨#[]⟩,.slice none 0 0,.slice none 0 0,.int .i64 0,.int .i64 0,.string ⟨#[]⟩,.string ⟨#[]⟩,.slice none 0 0,.int .i64 0,.int .i64 0,.int .i64 0,.int .i64 0,.int .i64 0,.int .i64 0,.slice none 0 0],.agg #[.string ⟨#[]⟩,.slice none 0 0,.slice none 0 0,.string ⟨#[]⟩,.slice none 0 0,.slice none 0 0,.int .i64 0,.int .i64 0,.string ⟨#[]⟩,.string ⟨#[]⟩,.slice none 0 0,.int .i64 0,.int .i64 0,.int .i64 0,.int .i64 0,.int .i64 0,.int .i64 0,.slice none 0 0]],[]⟩).memory :=
 laidMet_of_run' 8 (by kernel_rfl) (by kernel_rfl)
theorem Ts (os:Os) {H:Type} (enc:TypeId×Value→H):∃places,DataW.whole enc pg0 ((FA os).forCall (λ_ _=>0) ⟨#[],#[.agg #[.string ⟨#[]⟩,.slice none 0 0,.slice none 0 0,.string ⟨#[]⟩,.slice none 0 0,.slice none 0 0,.int .i64 0,.int .i64 0,.string ⟨#[]⟩,.string ⟨#[]⟩,.slice none 0 0,.int .i64 0,.int .i64 0,.int .i64 0,.int .i64 0,.int .i64 0,.int .i64 0,.slice none 0 0],.agg #[.string ⟨#[]⟩,.slice none 0 0,.slice none 0 0,.string ⟨#[]⟩,.slice none 0 0,.slice none 0 0,.int .i64 0,.int .i64 0,.string ⟨#[]⟩,.string ⟨#[]⟩,.slice none 0 0,.int .i64 0,.int .i64 0,.int .i64 0,.int .i64 0,.int .i64 0,.int .i64 0,.slice none 0 0]],[]⟩).memory Tryz.f7.params.toList Rows.changeTellsSpec.vars false #[.agg #[.string ⟨#[]⟩,.slice none 0 0,.slice none 0 0,.string ⟨#[]⟩,.slice none 0 0,.slice none 0 0,.int .i64 0,.int .i64 0,.string ⟨#[]⟩,.string ⟨#[]⟩,.slice none 0 0,.int .i64 0,.int .i64 0,.int .i64 0,.int .i64 0,.int .i64 0,.int .i64 0,.slice none 0 0],.agg #[.string ⟨#[]⟩,.slice none 0 0,.slice none 0 0,.string ⟨#[]⟩,.slice none 0 0,.slice none 0 0,.int .i64 0,.int .i64 0,.string ⟨#[]⟩,.string ⟨#[]⟩,.slice none 0 0,.int .i64 0,.int .i64 0,.int .i64 0,.int .i64 0,.int .i64 0,.int .i64 0,.slice none 0 0]].toList 8=some ([.agg [.agg [.lit (.string []),.nil,.nil],.agg [.lit (.string []),.nil,.nil],.agg [.lit (.int .i64 0),.lit (.int .i64 0),.agg [.lit (.string []),.lit (.string [])],.nil],.lit (.int .i64 0),.agg [.lit (.int .i64 0),.lit (.int .i64 0)],.lit (.int .i64 0),.lit (.int .i64 0),.lit (.int .i64 0),.nil],.agg [.agg [.lit (.string []),.nil,.nil],.agg [.lit (.string []),.nil,.nil],.agg [.lit (.int .i64 0),.lit (.int .i64 0),.agg [.lit (.string []),.lit (.string [])],.nil],.lit (.int .i64 0),.agg [.lit (.int .i64 0),.lit (.int .i64 0)],.lit (.int .i64 0),.lit (.int .i64 0),.lit (.int .i64 0),.nil]],[],places) :=
 ⟨[],by kernel_rfl⟩
set_option maxRecDepth 100000 in
theorem SE (os:Os) (started:os.Started) (H:Type) (enc:TypeId×Value→H) (F:Stop.Interp) :
  ReturnsInHanded {} Tryz.checked os 7 .any ((Rows.OpenSpec.upto Rows.changeTellsSpec).preRow enc pg0 Tryz.f7 Rows.changeTellsUptoRow.domain false Rows.changeTellsUptoRow.laid) (((Rows.OpenSpec.upto Rows.changeTellsSpec).at F).post enc pg0 Tryz.f7 false true false false):=by
 obtain ⟨places,p⟩:=Ts os enc
 refine returnsInHanded_of_row (C:=Tryz.checked) (s:=Rows.OpenSpec.upto Rows.changeTellsSpec) Uy started (by kernel_rfl) Tryz.func7
  (witness_row_at (enc:=enc) (C:=Tryz.checked) false (FA os) #[.agg #[.string ⟨#[]⟩,.slice none 0 0,.slice none 0 0,.string ⟨#[]⟩,.slice none 0 0,.slice none 0 0,.int .i64 0,.int .i64 0,.string ⟨#[]⟩,.string ⟨#[]⟩,.slice none 0 0,.int .i64 0,.int .i64 0,.int .i64 0,.int .i64 0,.int .i64 0,.int .i64 0,.slice none 0 0],.agg #[.string ⟨#[]⟩,.slice none 0 0,.slice none 0 0,.string ⟨#[]⟩,.slice none 0 0,.slice none 0 0,.int .i64 0,.int .i64 0,.string ⟨#[]⟩,.string ⟨#[]⟩,.slice none 0 0,.int .i64 0,.int .i64 0,.int .i64 0,.int .i64 0,.int .i64 0,.int .i64 0,.slice none 0 0]] rfl (by kernel_rfl) (by kernel_rfl) (by kernel_rfl)
   (OpenSpec.preRow_of_cond 8 p (by kernel_rfl) (λk hk=>by cases hk; kernel_rfl) (by kernel_rfl) (Qm os))) ?_
 intro W base args ds gs before i n _ d _ j _ _
 exact P7 H enc W base args ds gs before i n (d _ rfl) j
theorem TC {a b:Bool} (ha:a=true) (hb:b=true):(a&&b)=true:=by rw [ha,hb]; rfl
set_option maxHeartbeats 40000000 in
theorem Rh:joinedFacts Tryz.checked.prog 7 Tryz.f7 (Rows.OpenSpec.upto Rows.changeTellsSpec).bare Rows.changeTellsUptoRow=true:=by
 unfold joinedFacts
 repeat' with_reducible refine TC ?_ ?_
 all_goals as_aux_lemma=>kernel_rfl
theorem Ua:Rows.ChangeTellsUptoSaid :=
 OpenClaim.holds_of_cond 7 Tryz.f7 rfl rfl rfl rfl rfl rfl rfl ⟨rfl,rfl,rfl,rfl,rfl⟩ rfl rfl rfl rfl rfl (by kernel_rfl) Tryz.func7 Rh
  (jG (by kernel_rfl)) (by unfold Func.isWrapper; first | (rw [cE (by decide +kernel)]; kernel_rfl) | (rw [cI (by decide +kernel)]; exact ⟨rfl,rfl⟩))
  (λos started H enc _ F=>by rw [OpenClaim.pre_eq_preRow]; exact SE os started H enc F)
theorem Sk (f:FuncId) (fn:Func) (p:Tryz.pinned.checked.prog.funcNamed "entente/ententelaw50.ChangeTells"=some f) (i:Tryz.pinned.checked.prog.funcs[f]? =some fn) :
  true=Tryz.pinned.checked.prog.looks []∧∀(j:Nat) t,fn.params[j]? =some t→Tryz.pinned.checked.prog.wantsStandIn t=false:=by
 obtain rfl:f=7:=gZ ((show Tryz.prog.funcNamed "entente/ententelaw50.ChangeTells"=some 7 by kernel_rfl).symm.trans p) |>.symm
 obtain rfl:fn=Tryz.f7:=(gZ (Tryz.func7.symm.trans i)).symm
 refine ⟨by kernel_rfl,λj t n=>?_⟩
 rw [Tryz.params7] at n
 have hm:t∈[34]:=by simpa using Array.mem_of_getElem? n
 have d:([34].all λu=>!Tryz.prog.wantsStandIn u)=true:=by kernel_rfl
 exact (show Tryz.prog.wantsStandIn t=false by simpa using iv.1 d t hm)
theorem Uu:Rows.changeTellsUptoRow.wfByText (Rows.OpenSpec.upto Rows.changeTellsSpec)=true:=by kernel_rfl
theorem Ux:Tryz.pinned.checked.prog.mainIs=some (Rows.changeTellsUptoCard.stood.harness.1,Rows.changeTellsUptoCard.stood.harness.2.toList):=by kernel_rfl
theorem Ur:false=Rows.changeTellsUptoRow.goesBy Tryz.pinned.checked.prog:=by kernel_rfl
theorem proved:Rows.ChangeTellsUptoCardSaid :=
 Claim7.holds_tied_plain_at .later [] _ _ _ _ Ua (λ_ h=>by cases h) Uu (λ_ h=>by cases h) changeTellsUpto_row_tie rfl ⟨rfl,rfl⟩ Ux rfl Sk Ur
end Go.Proofs.YtjjjihkifgdhgaaGreatDoor
