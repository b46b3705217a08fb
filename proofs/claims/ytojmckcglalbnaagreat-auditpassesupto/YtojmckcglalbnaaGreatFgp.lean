/- a part of a proof of AuditPasses -/
import Derived.Test.YtojmckcglalbnaaGreatAP2Mp
import Derived.Test.YtojmckcglalbnaaGreatRtUp
set_option linter.all false
namespace Go.Proofs.YtojmckcglalbnaaGreat
open Go.IntKind renaming wrap → wi0
open Go.RowKit
section
variable {α:Type}
structure SWO (lt:α→α→Bool):Prop where
 irr:∀x,lt x x=false
 tr:∀x y z,lt x y=true→lt y z=true→lt x z=true
 ntr:∀x y z,lt x z=true→lt x y=true∨lt y z=true
variable {lt:α→α→Bool}
def tl (lt:α→α→Bool) (p q:α×Nat):Prop:=lt p.1 q.1=true∨(lt q.1 p.1=false∧p.2 < q.2)
end
section
variable {α:Type}
theorem Lj (p q:List α) (x y:α):(p++x::q).set p.length y=p++y::q:=by simp
theorem Sq (p q:List α) (x y:α) (n:Nat) (h:n=p.length):(p++x::q).set n y=p++y::q:=by subst h; simp
theorem MD (p m q:List α) (x y:α):((p++x::(m++y::q)).set p.length y).set (p.length+1+m.length) x=p++y::(m++x::q):=by
 rw [Lj]
 have:p++y::(m++y::q)=(p++y::m)++y::q:=by simp
 rw [this,show p.length+1+m.length=(p++y::m).length by simp; omega,Lj]
 simp
theorem V0 (p m q:List α) (x y:α):((p++x::(m++y::q)).set (p.length+1+m.length) x).set p.length y=p++y::(m++x::q):=by
 rw [List.set_comm _ _ rs,MD]
theorem xJ {l:List α} {n:Nat} (h:n≤l.length):∃a b,l=a++b∧a.length=n:=⟨l.take n,l.drop n,(gw n l).symm,by simp [h]⟩
end
theorem YV {c x:Bool}:(if c=true then some x else some false:Option Bool)=some (c&&x):=by cases c <;> rfl
theorem tN {α:Type} (x:Option α):(x.bind λy=>some y)=x:=by cases x <;> rfl
theorem mM {x:Int} (a:-9223372036854775808≤x) (h1:x≤9223372036854775807):wi0 .i64 x=x:=IntWalk.i64_in _ rs
theorem pz {α:Type} (A:List α) (x:α) (B:List α) (i:Int) (h:i=(A.length:Int)):nY (A++x::B) i=some x:=by
 subst h; rw [GF]; simp
theorem pI:mZ=18446744073709551615+1:=by rw [yP]
def Hf {α:Type} (f1:α→Option Bool) (z:α):Nat→List α→Int→Int→Option (List α)
 | 0,_,_,_=>none
 | n+1,l,i,j=>if decide (j < (l.length:Int)) then
   ((nY l j).bind λx=>(f1 x).bind λr=>if (!r) then (nY l i).bind λ_=>some (l.set (Int.toNat i) x,wi0 .i64 (i+1)) else some (l,i):Option (List α×Int)).bind λ(d,a)=>Hf f1 z n d a (wi0 .i64 (j+1))
  else (rj (decide (0≤i)&&decide (i≤(l.length:Int)))).bind λ_=>(rj (decide (0≤i)&&decide (i≤((rr l (Int.toNat i) z).length:Int)))).bind λ_=>some ((rr l (Int.toNat i) z).take (Int.toNat i))
theorem B1 {a b:Int} (d:0≤a) (h1:a≤b):rj (decide (0≤a)&&decide (a≤b))=some ():=by simp [rj,d,h1]
theorem RN {α:Type} (f1:α→Option Bool) (p:α→Bool) (z:α):∀(rest out mid:List α) (n:Nat),rest.length < n→(out++mid++rest).length < 4611686018427387904→mid≠[]→(∀x∈rest,f1 x=some (p x))→
  Hf f1 z n (out++mid++rest) (out.length:Int) ((out.length+mid.length:Nat):Int)=some (out++rest.filter λx=>!p x)
 | [],out,mid,0,h,_,_,_=>by simp at h
 | [],out,mid,n+1,_,d,hm,_=>by
  rw [Hf,aH rv]
  have h1:out.length≤(out++mid++[]).length:=by simp
  rw [B1 rs rs]
  simp only [aA]
  rw [B1 rs (by rw [Bs _ _ _ (by simpa using h1)]; omega)]
  simp only [aA,dZ]
  rw [Mz _ _ _ h1]
  simp
 | x::rest,out,mid,0,h,_,_,_=>by simp at h
 | x::rest,out,mid,n+1,h,d,hm,g=>by
  have hlen:(out++mid++x::rest).length=out.length+mid.length+rest.length+1:=by simp; omega
  rw [hlen] at d
  rw [Hf,aO (by rw [hlen]; simp; omega)]
  rw [pz (out++mid) x rest _ rv]
  simp only [aA,g x rv]
  rw [mM (x:=((out.length+mid.length:Nat):Int)+1) rs rs]
  have ih:=RN f1 p z rest
  cases hp:p x with
  | true=>
   simp only [bM,aB,aK,aA]
   have:=ih out (mid++[x]) n (by simp at h; omega) ss rv (λy i=>g y (by simp [i]))
   simp only [aP,bU,bL,aC,aG,cM] at this ⊢
   rw [show ((out.length+mid.length:Nat):Int)+1=((out.length+(mid.length+(0+1)):Nat):Int) by omega,this]
   simp [hp]
  | false=>
   obtain ⟨m,a,rfl⟩:∃m a,mid=m::a:=by cases mid with
    | nil=>exact absurd Z hm
    | cons m a=>exact ⟨m,a,Z⟩
   simp only [fy,aR]
   rw [aP out (m::a) (x::rest),bU]
   rw [pz out m (a++x::rest) _ Z]
   simp only [aA]
   rw [mM (x:=(out.length:Int)+1) rs (by simp at d; omega)]
   have:=ih (out++[x]) (a++[x]) n (by simp at h; omega) (by simp at d ⊢; omega) rv (λy i=>g y (by simp [i]))
   simp only [aP,bU,bL,aC,aG,cM] at this
   have j:(out++m::(a++x::rest)).set (Int.toNat (out.length:Int)) x=out++x::(a++x::rest):=by
    rw [dZ,List.set_append_right _ _ (aY _)]; simp
   rw [j]
   simp only [aG] at d ⊢
   rw [show (out.length:Int)+1=((out.length+(0+1):Nat):Int) by omega,show ((out.length+(a.length+1):Nat):Int)+1=((out.length+(0+1)+(a.length+(0+1)):Nat):Int) by omega,this]
   simp [hp]
def Df {α:Type} (f1:α→Option Bool):List α→Nat→Option Int
 | [],_=>some (-1)
 | x::xs,i=>(f1 x).bind λr=>if r then some (i:Int) else Df f1 xs (i+1)
theorem He {α:Type} (f1:α→Option Bool) (p:α→Bool):∀(l:List α) (i:Nat),(∀x∈l,f1 x=some (p x))→
  (Df f1 l i=some (-1)∧∀x∈l,p x=false)∨∃A x B,l=A++x::B∧(∀y∈A,p y=false)∧p x=true∧Df f1 l i=some ((i+A.length:Nat):Int)
 | [],i,_=>.inl ⟨Z,rv⟩
 | x::l,i,h=>by
  rw [Df,h x rv]
  simp only [aA]
  cases hp:p x with
  | true=>exact .inr ⟨[],x,l,Z,rv,hp,rv⟩
  | false=>
   simp only [aB,aK]
   rcases He f1 p l (i+1) (λy a=>h y (by simp [a])) with ⟨h1,d⟩ | ⟨A,y,B,rfl,h1,d,j⟩
   ·exact .inl ⟨h1,by intro y a; rcases aW.1 a with rfl | a; exact hp; exact d y a⟩
   ·refine .inr ⟨x::A,y,B,Z,?_,d,?_⟩
    ·intro z g; rcases aW.1 g with rfl | g
     ·exact hp
     ·exact h1 z g
    ·rw [j]; simp; omega
def Ie {α:Type} (f1:α→Option Bool) (z:α) (l:List α):Option (List α) :=
 (Df f1 l 0).bind λa=>if (a==(-1)) then some l else Hf f1 z mZ l a (wi0 .i64 (a+1))
theorem Ce {α:Type} (f1:α→Option Bool) (p:α→Bool) (z:α) (l:List α) (g:l.length < 4611686018427387904) (h:∀x∈l,f1 x=some (p x)):Ie f1 z l=some (l.filter λx=>!p x):=by
 unfold Ie
 rcases He f1 p l 0 h with ⟨h1,d⟩ | ⟨A,x,B,rfl,h1,d,i⟩
 ·rw [h1]
  simp only [aA,bB,aR]
  rw [List.filter_eq_self.2 (λy a=>by simp [d y a])]
 ·rw [i]
  simp only [aA,fJ]
  rw [aH rv,mM rs (by simp at g; omega)]
  have:=RN f1 p z B A [x] mZ (by rw [yP]; simp at g; omega) (by simpa using g) rv (λy a=>h y (by simp [a]))
  simp only [aP,bU,bL,aG,cM] at this
  rw [show (A.length:Int)+1=((A.length+(0+1):Nat):Int) by omega,this]
  have j:A.filter (λx=>!p x)=A:=List.filter_eq_self.2 (λy a=>by simp [h1 y a])
  rw [List.filter_append,j]
  simp [d]
def uY {α:Type} (eq:α→α→Bool):α→List α→List α
 | _,[]=>[]
 | p,y::ys=>if eq y p then uY eq y ys else y::uY eq y ys
def dd {α:Type} (eq:α→α→Bool):List α→List α
 | []=>[]
 | x::xs=>x::uY eq x xs
def Fj {α:Type} (eq:α→α→Bool) (i:Int):Nat→List α→Int→Int→Option (List α×Int)
 | 0,_,_,_=>none
 | n+1,l,k,j=>if decide (j < ((l.length-Int.toNat i:Nat):Int)) then
   ((nY (l.drop (Int.toNat i)) j).bind λx=>(nY (l.drop (Int.toNat i)) (wi0 .i64 (j-1))).bind λy=>if !(eq x y) then (nY (l.drop (Int.toNat i)) j).bind λz=>(nY l k).bind λ_=>some (l.set (Int.toNat k) z,wi0 .i64 (k+1)) else some (l,k):Option (List α×Int)).bind λ(a,k')=>Fj eq i n a k' (wi0 .i64 (j+1))
  else some (l,k)
def F3 {α:Type} (eq:α→α→Bool) (z:α) (l:List α):Nat→Int→Option (List α)
 | 0,_=>none
 | n+1,i=>if decide (i < (l.length:Int)) then (nY l i).bind λx=>(nY l (wi0 .i64 (i-1))).bind λy=>if eq x y then
    (rj (decide (0≤i)&&decide (i≤(l.length:Int)))).bind λ_=>(Fj eq i mZ l i 1).bind λ(a,k)=>(rj (decide (0≤k)&&decide (k≤(a.length:Int)))).bind λ_=>(rj (decide (0≤k)&&decide (k≤((rr a (Int.toNat k) z).length:Int)))).bind λ_=>some ((rr a (Int.toNat k) z).take (Int.toNat k))
   else F3 eq z l n (wi0 .i64 (i+1))
  else some l
def MW {α:Type} (eq:α→α→Bool) (z:α) (l:List α):Option (List α):=if decide ((l.length:Int) < 2) then some l else F3 eq z l mZ 1
theorem QU {α:Type} (l:List α) (i:Nat) (j:Int) (a:0≤j):nY (l.drop i) j=nY l ((i:Int)+j):=by
 obtain ⟨m,rfl⟩:∃m:Nat,j=m:=⟨j.toNat,rs⟩
 rw [show (i:Int)+(m:Int)=((i+m:Nat):Int) by omega,GF,GF,ei]
theorem Ni {α:Type} (eq:α→α→Bool) (i:Nat):∀(rest out mid:List α) (p:α) (n:Nat),rest.length < n→(out++(mid++[p])++rest).length < 4611686018427387904→1≤i→i≤out.length→
  ∃d,Fj eq (i:Int) n (out++(mid++[p])++rest) (out.length:Int) ((out.length+mid.length+1-i:Nat):Int)=some (d,((out++uY eq p rest).length:Int))∧d.take (out++uY eq p rest).length=out++uY eq p rest∧(out++uY eq p rest).length≤d.length
 | [],out,mid,p,0,h,_,_,_=>by simp at h
 | [],out,mid,p,n+1,h,s,h1,q=>by
  rw [Fj,aH ss]
  exact ⟨out++(mid++[p])++[],by simp [uY],by simp [uY],by simp [uY]⟩
 | x::rest,out,mid,p,0,h,_,_,_=>by simp at h
 | x::rest,out,mid,p,n+1,h,s,h1,q=>by
  have hlen:(out++(mid++[p])++x::rest).length=out.length+mid.length+rest.length+2:=by simp; omega
  rw [hlen] at s
  rw [Fj,aO (by rw [hlen]; simp; omega)]
  rw [dZ,QU _ _ _ rs,pz (out++(mid++[p])) x rest _ ss]
  simp only [aA]
  rw [mM (x:=((out.length+mid.length+1-i:Nat):Int)-1) rs rs,QU _ _ _ rs]
  rw [show out++(mid++[p])++x::rest=(out++mid)++p::(x::rest) by simp]
  rw [pz (out++mid) p (x::rest) _ ss]
  simp only [aA]
  rw [mM (x:=((out.length+mid.length+1-i:Nat):Int)+1) rs rs]
  cases hp:eq x p with
  | true=>
   simp only [bM,aB,aK,aA]
   obtain ⟨d,g,j,k⟩:=Ni eq i rest out (mid++[p]) x n (by simp at h; omega) ss h1 q
   refine ⟨d,?_,by rw [uY,hp]; exact j,by rw [uY,hp]; exact k⟩
   rw [uY,hp,aO Z,←g]
   congr 1
   ·simp
   ·simp; omega
  | false=>
   simp only [fy,aR]
   obtain ⟨m,a,hm⟩:∃m a,mid++[p]=m::a:=by cases mid with
    | nil=>exact ⟨p,[],Z⟩
    | cons m a=>exact ⟨m,a++[p],Z⟩
   have u:a.length=mid.length:=by have:=bA List.length hm; simp at this; omega
   rw [show (out++mid)++p::(x::rest)=out++m::(a++x::rest) by rw [←bU,←hm]; simp]
   rw [pz out m (a++x::rest) _ Z]
   simp only [aA]
   rw [mM (x:=(out.length:Int)+1) rs rs]
   have v:(out++m::(a++x::rest)).set (Int.toNat (out.length:Int)) x=(out++[x])++(a++[x])++rest:=by
    rw [dZ,List.set_append_right _ _ (aY _)]; simp
   rw [v]
   obtain ⟨d,g,j,k⟩:=Ni eq i rest (out++[x]) a x n (by simp at h; omega) ss h1 ss
   refine ⟨d,?_,?_,?_⟩
   ·rw [uY,hp,aH tc]
    have t:((out++x::uY eq x rest).length:Int)=((out++[x]++uY eq x rest).length:Int):=by simp
    rw [t,←g]
    congr 1
    ·simp
    ·simp; omega
   ·rw [uY,hp,aH tc]; simpa using j
   ·rw [uY,hp,aH tc]; simpa using k
theorem Sf {α:Type} (eq:α→α→Bool) (z:α):∀(rest pre:List α) (p:α) (n:Nat),rest.length < n→(pre++p::rest).length < 4611686018427387904→
  F3 eq z (pre++p::rest) n ((pre.length+1:Nat):Int)=some (pre++p::uY eq p rest)
 | [],pre,p,0,h,_=>by simp at h
 | [],pre,p,n+1,h,j=>by rw [F3,aH rv]; simp [uY]
 | x::rest,pre,p,0,h,_=>by simp at h
 | x::rest,pre,p,n+1,h,j=>by
  have hlen:(pre++p::x::rest).length=pre.length+rest.length+2:=by simp; omega
  rw [hlen] at j
  rw [F3,aO (by rw [hlen]; simp; omega)]
  rw [show pre++p::x::rest=(pre++[p])++x::rest by simp,pz (pre++[p]) x rest _ rv]
  simp only [aA]
  rw [mM (x:=((pre.length+1:Nat):Int)-1) rs rs]
  rw [show (pre++[p])++x::rest=pre++p::(x::rest) by simp,pz pre p (x::rest) _ rs]
  simp only [aA]
  cases hp:eq x p with
  | true=>
   simp only [aR]
   rw [B1 rs (by rw [hlen]; omega)]
   simp only [aA]
   obtain ⟨k,a,i,g⟩:=Ni eq (pre.length+1) rest (pre++[p]) [] x mZ (by rw [yP]; omega) ss rs rv
   simp only [aP,bU,bL,aC,aG,cM] at a i g
   rw [show (pre.length+(0+1)+0+1-(pre.length+1):Nat)=1 by omega] at a
   rw [show ((pre.length+1:Nat):Int)=((pre.length+(0+1):Nat):Int) by omega] at *
   have d:Fj eq ((pre.length+(0+1):Nat):Int) mZ (pre++p::x::rest) ((pre.length+(0+1):Nat):Int) 1=_:=a
   rw [d]
   simp only [aA]
   rw [B1 rs rs]
   simp only [aA,dZ]
   rw [B1 rs (by rw [Bs _ _ _ g]; omega)]
   simp only [aA]
   rw [Mz _ _ _ g,i,uY,hp]
   simp
  | false=>
   simp only [aB,aK]
   rw [mM (x:=((pre.length+1:Nat):Int)+1) rs rs]
   have:=Sf eq z rest (pre++[p]) x n (by simp at h; omega) ss
   simp only [aP,bU,bL,aC,aG,cM] at this
   rw [show ((pre.length+1:Nat):Int)+1=((pre.length+(0+1)+1:Nat):Int) by omega,this,uY,hp]
   simp
theorem Nf {α:Type} (eq:α→α→Bool) (z:α) (l:List α) (a:l.length < 4611686018427387904):MW eq z l=some (dd eq l):=by
 unfold MW
 cases l with
 | nil=>rfl
 | cons x xs=>
  cases xs with
  | nil=>simp [dd,uY]
  | cons y ys=>
   rw [aH ss]
   have:=Sf eq z (y::ys) [] x mZ (by rw [yP]; simp at a ⊢; omega) (by simpa using a)
   simpa [dd] using this
structure KM {α:Type} (lt:α→α→Prop) (P:α→Prop):Prop where
 irrefl:∀x,P x→¬lt x x
 trans:∀x y z,P x→P y→P z→lt x y→lt y z→lt x z
 total:∀x y,P x→P y→lt x y∨x=y∨lt y x
def zm {α:Type} (lt:α→α→Prop) (P:α→Prop) (l out:List α):Prop:=out.Pairwise lt∧∀x,x∈out↔x∈l∧P x
theorem zm.unique {α:Type} {lt:α→α→Prop} {P:α→Prop} (H:KM lt P):∀{l a b:List α},zm lt P l a→zm lt P l b→a=b:=by
 have key:∀a b:List α,(∀x∈a,P x)→a.Pairwise lt→b.Pairwise lt→(∀x,x∈a↔x∈b)→a=b:=by
  intro a
  induction a with
  | nil=>intro b _ _ _ hm; cases b with
   | nil=>rfl
   | cons y ys=>exact absurd ((hm y).2 rv) rv
  | cons x xs ih=>
   intro b s ha k hm
   cases b with
   | nil=>exact absurd ((hm x).1 rv) rv
   | cons y ys=>
    have t:P y:=s y ((hm y).2 rv)
    have d:P x:=s x rv
    have g:=gi.1 ha
    have i:=gi.1 k
    have u:x=y:=by
     rcases aW.1 ((hm x).1 rv) with h | h
     ·exact h
     ·rcases aW.1 ((hm y).2 rv) with q | q
      ·exact q.symm
      ·exact absurd (H.trans x y x d t d (g.1 y q) (i.1 x h)) (H.irrefl x d)
    subst u
    congr 1
    refine ih ys (λz j=>s z (by simp [j])) g.2 i.2 (λz=>?_)
    constructor
    ·intro j
     rcases aW.1 ((hm z).1 (by simp [j])) with h | h
     ·subst h; exact absurd (g.1 z j) (H.irrefl z d)
     ·exact h
    ·intro j
     rcases aW.1 ((hm z).2 (by simp [j])) with h | h
     ·subst h; exact absurd (i.1 z j) (H.irrefl z d)
     ·exact h
 intro l a b ha k
 exact key a b (λx v=>((ha.2 x).1 v).2) ha.1 k.1 (λx=>(ha.2 x).trans (k.2 x).symm)
theorem Jt {α:Type} {eq:α→α→Bool} (he:∀x y,eq x y=true↔x=y):∀(l:List α) (p x:α),x∈p::uY eq p l↔x∈p::l
 | [],p,x=>by simp [uY]
 | y::l,p,x=>by
  rw [uY]
  split
  ·rename_i h
   have:=(he y p).1 h
   subst this
   rw [Jt he l y x]; simp
  ·have:=Jt he l y x
   simp only [aW] at this ⊢
   rw [this]
theorem aa3 {α:Type} {eq:α→α→Bool} (he:∀x y,eq x y=true↔x=y) (l:List α) (x:α):x∈dd eq l↔x∈l:=by
 cases l with
 | nil=>simp [dd]
 | cons y l=>exact Jt he l y x
theorem H4 {α:Type} {eq:α→α→Bool} {lt:α→α→Prop} {P:α→Prop} (he:∀x y,eq x y=true↔x=y) (H:KM lt P):∀(l:List α) (p:α),(∀x∈p::l,P x)→(p::l).Pairwise (λa b=>¬lt b a)→(p::uY eq p l).Pairwise lt
 | [],p,_,_=>by simp [uY]
 | y::l,p,d,t=>by
  have h1:=gi.1 t
  rw [uY]
  split
  ·rename_i h
   have:=(he y p).1 h
   subst this
   exact H4 he H l y (λx j=>d x (eG _ j)) h1.2
  ·rename_i h
   have ih:=H4 he H l y (λx j=>d x (eG _ j)) h1.2
   refine gi.2 ⟨λz s=>?_,ih⟩
   have i:lt p y:=by
    rcases H.total p y (d p rv) (d y rv) with g | g | g
    ·exact g
    ·exact absurd ((he y p).2 g.symm) h
    ·exact absurd g (h1.1 y rv)
   rcases aW.1 s with rfl | k
   ·exact i
   ·have q:z∈y::l:=(Jt he l y z).1 s
    exact H.trans p y z (d p rv) (d y rv) (d z (eG _ q)) i ((gi.1 ih).1 z k)
theorem VT {α:Type} {eq:α→α→Bool} {lt:α→α→Prop} {P:α→Prop} (he:∀x y,eq x y=true↔x=y) (H:KM lt P) (l:List α) (d:∀x∈l,P x) (g:l.Pairwise λa b=>¬lt b a):(dd eq l).Pairwise lt:=by
 cases l with
 | nil=>simp [dd]
 | cons y l=>exact H4 he H l y d g
theorem Qi {α:Type} {le:α→α→Bool} {P:α→Prop} (i:∀a b c,P a→P b→P c→le a b=true→le b c=true→le a c=true) (h:∀a b,P a→P b→(le a b||le b a)=true) (l:List α) (d:∀x∈l,P x) :
  (l.mergeSort le).Pairwise (λa b=>le a b=true):=by
 have e:l=(l.attachWith P d).map Subtype.val:=by simp
 have hm:((l.attachWith P d).mergeSort λa b=>le a.1 b.1).map Subtype.val=l.mergeSort le:=by
  conv=>rhs; rw [e]
  exact jv (λa _ b _=>rfl)
 rw [←hm,fI]
 exact gW (le:=λ(a b:{x // P x})=>le a.1 b.1) (λa b c h1 g=>i a.1 b.1 c.1 a.2 b.2 c.2 h1 g) (λa b=>h a.1 b.1 a.2 b.2) _
theorem Mv {α:Type} {eq:α→α→Bool} {lt:α→α→Prop} {P:α→Prop} {cf:α×α→Option Int} {l:List α} (he:∀x y,eq x y=true↔x=y) (H:KM lt P) (g:∀x∈l,P x) (U:l.length < 4611686018427387904) (Q:∀x y,P x→P y→∃c,cf (x,y)=some c∧(c < 0↔lt x y)):∃s,Fy cf l=some s∧s.length=l.length∧zm lt P l (dd eq s):=by
 have j:∀x y,P x→P y→(xW cf x y=true↔lt x y):=λx y i t=>by
  obtain ⟨c,h1,q⟩:=Q x y i t
  unfold xW
  rw [h1]
  simpa using q
 have d:∀x y,P x→P y→(xW cf x y=false↔¬lt x y):=λx y i t=>by
  rw [←j x y i t]; simp
 have ok:G5 cf l:=by
  refine ⟨λx i y t=>?_,λx i=>?_,λx i y t z M h1 q=>?_,λx i y t h1 q=>?_,U⟩
  ·obtain ⟨c,h1,_⟩:=Q x y (g x i) (g y t); exact ⟨c,h1⟩
  ·exact (d x x (g x i) (g x i)).2 (H.irrefl x (g x i))
  ·rw [j _ _ (g x i) (g y t)] at h1
   rw [j _ _ (g y t) (g z M)] at q
   rw [j _ _ (g x i) (g z M)]
   exact H.trans x y z (g x i) (g y t) (g z M) h1 q
  ·rw [d _ _ (g x i) (g y t)] at h1
   rw [d _ _ (g y t) (g x i)] at q
   rcases H.total x y (g x i) (g y t) with h | h | h
   ·exact absurd h h1
   ·exact h
   ·exact absurd h q
 refine ⟨_,YX ok,by simp [xe],?_,?_⟩
 ·have k:∀x,x∈xe cf l↔x∈l:=λx=>by simp [xe]
  refine VT he H _ (λx i=>g x ((k x).1 i)) ?_
  have:=Qi (le:=λx y=>!xW cf y x) (P:=P) (λa b c ha u v h1 q=>?_) (λa b ha u=>?_) l g
  ·refine (this.imp_of_mem ?_:_)
   intro a b ha u h
   have I:a∈l:=(k a).1 ha
   have J:b∈l:=(k b).1 u
   simp at h
   exact (d b a (g b J) (g a I)).1 h
  ·simp at h1 q ⊢
   rw [d _ _ u ha] at h1
   rw [d _ _ v u] at q
   rw [d _ _ v ha]
   intro O
   rcases H.total a b ha u with h | h | h
   ·exact q (H.trans c a b v ha u O h)
   ·subst h; exact q O
   ·exact h1 h
  ·simp only [gS,kh]
   rw [d _ _ u ha,d _ _ ha u]
   by_cases h:lt b a
   ·right; intro q; exact H.irrefl a ha (H.trans a b a ha u ha q h)
   ·exact .inl h
 ·intro x
  rw [aa3 he]
  constructor
  ·intro i
   have:x∈l:=by simpa [xe] using i
   exact ⟨this,g x this⟩
  ·intro i; simpa [xe] using i.1
theorem KI:∀a:List UInt8,Op.bytesLess a a=false
 | []=>rfl
 | x::a=>by simp [Op.bytesLess,KI a]
theorem Sd (x y:UInt8):x < y∨x=y∨y < x:=by
 rcases Nat.lt_trichotomy x.toNat y.toNat with h | h | h
 ·exact .inl h
 ·exact .inr (.inl (UInt8.toNat_inj.1 h))
 ·exact .inr (.inr h)
theorem MK:∀a b c:List UInt8,Op.bytesLess a b=true→Op.bytesLess b c=true→Op.bytesLess a c=true
 | [],[],c,h1,_=>by simp [Op.bytesLess] at h1
 | _::_,[],c,h1,_=>by simp [Op.bytesLess] at h1
 | a,_::_,[],_,d=>by simp [Op.bytesLess] at d
 | [],b::g,c::cs,_,_=>rfl
 | a::ax,b::g,c::cs,h1,d=>by
  simp only [Op.bytesLess,gS,bV,bI,iC] at h1 d ⊢
  rcases h1 with h1 | ⟨rfl,h1⟩
  ·rcases d with d | ⟨rfl,d⟩
   ·exact .inl (UInt8.lt_trans h1 d)
   ·exact .inl h1
  ·rcases d with d | ⟨rfl,d⟩
   ·exact .inl d
   ·exact .inr ⟨Z,MK ax g cs h1 d⟩
theorem MP:∀a b:List UInt8,Op.bytesLess a b=true∨a=b∨Op.bytesLess b a=true
 | [],[]=>.inr (.inl Z)
 | [],_::_=>.inl Z
 | _::_,[]=>.inr (.inr Z)
 | a::ax,b::d=>by
  simp only [Op.bytesLess,gS,bV,bI,iC,aU]
  rcases Sd a b with h | h | h
  ·exact .inl (.inl h)
  ·subst h
   rcases MP ax d with h | h | h
   ·exact .inl (.inr ⟨Z,h⟩)
   ·exact .inr (.inl ⟨Z,h⟩)
   ·exact .inr (.inr (.inr ⟨Z,h⟩))
  ·exact .inr (.inr (.inl h))
theorem OT:∀a b:List UInt8,(Lib.compareBytes a b < 0↔Op.bytesLess a b=true)
 | [],[]=>by simp [Lib.compareBytes,Op.bytesLess]
 | [],_::_=>by simp [Lib.compareBytes,Op.bytesLess]
 | _::_,[]=>by simp [Lib.compareBytes,Op.bytesLess]
 | a::ax,b::i=>by
  simp only [Lib.compareBytes,Op.bytesLess,gS,bV,bI,iC]
  by_cases h:a < b
  ·simp [h]
  ·by_cases g:b < a
   ·have:a≠b:=by rintro rfl; exact h g
    simp [h,g,this]
   ·have:a=b:=by rcases Sd a b with d | d | d; exact absurd d h; exact d; exact absurd d g
    subst this
    simp [h,OT ax i]
theorem Ss:∀a b:List UInt8,(Lib.compareBytes a b=0↔a=b)
 | [],[]=>by simp [Lib.compareBytes]
 | [],_::_=>by simp [Lib.compareBytes]
 | _::_,[]=>by simp [Lib.compareBytes]
 | a::ax,b::i=>by
  simp only [Lib.compareBytes,aU]
  by_cases h:a < b
  ·simp only [h,aR]
   constructor
   ·intro h; cases h
   ·rintro ⟨rfl,_⟩; exact absurd h rv
  ·by_cases g:b < a
   ·simp only [h,g,aR,aK]
    constructor
    ·intro h; cases h
    ·rintro ⟨rfl,_⟩; exact absurd g rv
   ·have:a=b:=by rcases Sd a b with d | d | d; exact absurd d h; exact d; exact absurd d g
    subst this
    simp [h,Ss ax i]
theorem Iy (a b:ByteArray):Hp a b=Op.bytesLess a.data.toList b.data.toList:=by unfold Hp; rw [fQ,fQ]
theorem Nt {a b:ByteArray} (h:a.data.toList=b.data.toList):a=b:=kk (Array.toList_inj.1 h)
theorem Jm (a:ByteArray):Hp a a=false:=by rw [Iy,KI]
theorem P7 {a b c:ByteArray} (h1:Hp a b=true) (d:Hp b c=true):Hp a c=true:=by rw [Iy] at *; exact MK _ _ _ h1 d
theorem PA (a b:ByteArray):Hp a b=true∨a=b∨Hp b a=true:=by
 rw [Iy,Iy]
 rcases MP a.data.toList b.data.toList with h | h | h
 ·exact .inl h
 ·exact .inr (.inl (Nt h))
 ·exact .inr (.inr h)
def JH (b:UInt8):Bool:=decide (97≤b.toNat)&&decide (b.toNat≤122)
def N6 (b:UInt8):Bool:=JH b||(decide (48≤b.toNat)&&decide (b.toNat≤57))||decide (b.toNat=45)
def rz (s:ByteArray):Bool:=decide (1≤s.size)&&decide (s.size≤16)&&(match s.data.toList with | []=>false | b::_=>JH b)&&s.data.toList.all N6
theorem uJ {s:ByteArray} (h:rz s=true):1≤s.size∧s.size≤16:=by
 simp only [rz,bI,bV] at h
 exact h.1.1
theorem UG:∀n:Nat,n < 256→decide (CU (⟨#[97,98,99,100,101,102,103,104,105,106,107,108,109,110,111,112,113,114,115,116,117,118,119,120,121,122]⟩:ByteArray) (n:Int)≥0)=JH (UInt8.ofNat n):=by decide +kernel
theorem YU:∀n:Nat,n < 256→decide (CU (⟨#[97,98,99,100,101,102,103,104,105,106,107,108,109,110,111,112,113,114,115,116,117,118,119,120,121,122,48,49,50,51,52,53,54,55,56,57,45]⟩:ByteArray) (n:Int) < 0)=!N6 (UInt8.ofNat n):=by decide +kernel
theorem XZ (s:ByteArray):s.size=s.data.toList.length:=by rw [dF]; rfl
theorem Mi {s:ByteArray} (h:s.size≤16):I0 s=some (zc s):=by
 unfold I0; rw [aO (by unfold maxLen; omega)]
theorem Ru:∀l:List UInt8,AI (l.map λb=>(b.toNat:Int))=some (l.all N6)
 | []=>rfl
 | b::l=>by
  rw [bQ,AI]
  simp only [xg,tj,aA]
  have a:=YU b.toNat (UInt8.toNat_lt b)
  rw [a]
  simp only [UInt8.ofNat_toNat,List.all_cons]
  cases N6 b with
  | true=>simp [Ru l]
  | false=>simp
theorem WL {s:ByteArray} {b:UInt8} {l:List UInt8} (h:s.data.toList=b::l):Nh s 0=some b:=by
 unfold Nh
 rw [aO (iL 0)]
 have a:s.data[0]? =some b:=by rw [←dU,h]; rfl
 show s[0]? =some b
 rw [←a]
 rfl
theorem uf (s:ByteArray):sG s=some (rz s):=by
 unfold sG
 simp only [YV,aA,tN]
 by_cases h1:1≤s.size
 ·by_cases a:s.size≤16
  ·rw [aO ss]
   obtain ⟨b,l,d⟩:∃b l,s.data.toList=b::l:=by
    cases h:s.data.toList with
    | nil=>rw [XZ,h] at h1; simp at h1
    | cons b l=>exact ⟨b,l,Z⟩
   rw [WL d]
   simp only [aA,xg,tj]
   rw [UG b.toNat (UInt8.toNat_lt b)]
   simp only [UInt8.ofNat_toNat,rz,h1,a,d,cK,gu]
   cases JH b with
   | false=>simp
   | true=>
    simp only [aR,H0,Mi a,aA,zc]
    rw [Ru,d]
    simp
  ·rw [aH ss]
   simp [rz,a]
 ·rw [aH ss]
  simp [rz,h1]
theorem D7 (a:ByteArray):ob a a=true:=oq.2 Z
def ou (r:lh):Bool:=rz r.lu&&rz r.Word
theorem zK (r:lh):tF r=some (ou r):=by
 unfold tF ou
 simp only [uf,aA]
 cases rz r.lu <;> simp
def J0 (a b:lh):Bool:=Hp a.lu b.lu||(ob a.lu b.lu&&Hp a.Word b.Word)
theorem GH {a b:lh}:J0 a b=true↔Hp a.lu b.lu=true∨(a.lu=b.lu∧Hp a.Word b.Word=true):=by
 simp [J0,oq]
theorem HE (P:lh→Prop):KM (λa b=>J0 a b=true) P:=by
 refine ⟨λx _ h=>?_,λx y z _ _ _ h1 d=>?_,λx y _ _=>?_⟩
 ·rw [GH] at h
  simp [Jm] at h
 ·rw [GH] at *
  rcases h1 with h1 | ⟨i,h1⟩
  ·rcases d with d | ⟨g,d⟩
   ·exact .inl (P7 h1 d)
   ·exact .inl (by rw [←g]; exact h1)
  ·rcases d with d | ⟨g,d⟩
   ·exact .inl (by rw [i]; exact d)
   ·exact .inr ⟨i.trans g,P7 h1 d⟩
 ·simp only [GH]
  rcases PA x.lu y.lu with h | h | h
  ·exact .inl (.inl h)
  ·rcases PA x.Word y.Word with d | d | d
   ·exact .inl (.inr ⟨h,d⟩)
   ·refine .inr (.inl ?_)
    cases x; cases y; simp at h d; simp [h,d]
   ·exact .inr (.inr (.inr ⟨h.symm,d⟩))
  ·exact .inr (.inr (.inl h))
theorem Di (a b:lh):∃c,vV a b=some c∧(c < 0↔J0 a b=true):=by
 unfold vV
 simp only [Au,vJ,aA,GY,BT]
 have h1:∀a b:ByteArray,(zI a b < 0↔Hp a b=true):=λa b=>by rw [Iy]; exact OT _ _
 have g:∀a b:ByteArray,(zI a b=0↔a=b):=λa b=>by
  unfold zI; rw [Ss]; exact ⟨Nt,λh=>by rw [h]⟩
 by_cases e:zI a.lu b.lu=0
 ·rw [aH (by simp [e])]
  have e':=(g _ _).1 e
  by_cases d:zI a.Word b.Word=0
  ·rw [aH (by simp [d])]
   refine ⟨0,Z,?_⟩
   rw [GH,e',(g _ _).1 d]
   simp [Jm]
  ·rw [aO (by simp [d])]
   refine ⟨_,Z,?_⟩
   rw [GH,e',h1]
   simp [Jm]
 ·rw [aO (by simp [e])]
  refine ⟨_,Z,?_⟩
  rw [GH,h1]
  have:a.lu≠b.lu:=λh=>e ((g _ _).2 h)
  simp [this]
def zR:lh:=⟨zS,zS⟩
theorem Ck (a:lh):mq a a=true:=mw.2 Z
def nH (c:lg):Bool:=ou c.Head&&(
 if c.Kind==1 then rz c.nj&&mq zR c.B&&mq zR c.C&&ob zS c.mV
 else if c.Kind==2 then ou c.B&&ob zS c.nj&&mq zR c.C&&ob zS c.mV
 else if c.Kind==3 then ou c.B&&ob c.B.lu c.Head.lu&&rz c.mV&&ob zS c.nj&&mq zR c.C
 else if c.Kind==4 then ou c.B&&ou c.C&&J0 c.B c.C&&ob zS c.nj&&ob zS c.mV
 else false)
theorem ud (c:lg):tH c=some (nH c):=by
 unfold tH nH
 simp only [zK,uf,aA]
 obtain ⟨k,hk,a⟩:=Di c.B c.C
 rw [hk]
 have d:decide (k < 0)=J0 c.B c.C:=by rw [eC,←a]; simp
 simp only [aA,d]
 by_cases h1:c.Kind=1
 ·cases ou c.Head <;> cases rz c.nj <;> simp [h1,ni,Ck,D7,zR,jL]
 ·by_cases g:c.Kind=2
  ·cases ou c.Head <;> cases ou c.B <;> simp [g,ni,Ck,D7,zR,jL]
  ·by_cases h:c.Kind=3
   ·cases ou c.Head <;> cases ou c.B <;> cases ob c.B.lu c.Head.lu <;> cases rz c.mV <;> simp [h,ni,Ck,D7,zR,jL]
   ·by_cases i:c.Kind=4
    ·cases ou c.Head <;> cases ou c.B <;> cases ou c.C <;> cases J0 c.B c.C <;> simp [i,ni,Ck,D7,zR,jL]
    ·simp [h1,g,h,i]
theorem od {α:Type} {b:Nat} {l m:List α} (h:(l.length+m.length)*b≤140737488355328) (a:l.length+m.length≤9223372036854775807):oY b l m=some (l++m):=by
 unfold oY; rw [aO ⟨h,by unfold maxLen; omega⟩]
theorem Ct {l m:List Int} (h:l.length+m.length≤1000000):oY 1 l m=some (l++m):=od rs rs
def zU (s:ByteArray):List Int:=(s.size:Int)::zc s
def rl (r:lh):List Int:=zU r.lu++zU r.Word
def FE (c:lg):List Int:=if c.Kind=1 then zU c.nj else if c.Kind=2 then rl c.B else if c.Kind=3 then rl c.B++zU c.mV else rl c.B++rl c.C
def xb (c:lg):List Int:=c.Kind::(rl c.Head++FE c)
theorem wz (s:ByteArray):(zU s).length=s.size+1:=by simp [zU,sx]
theorem rR {r:lh} (h:ou r=true):(rl r).length≤34:=by
 simp only [ou,bI] at h
 have h1:=uJ h.1
 have a:=uJ h.2
 simp [rl,wz]; omega
theorem sS {l:List Int} {n:Int} (a:0≤n) (h1:n < 128) (d:l.length≤100000):nL l n=some (true,l++[n]):=by
 have hw:IntKind.u8.wrap n=n:=by
  obtain ⟨k,rfl⟩:∃k:Nat,n=k:=⟨n.toNat,rs⟩
  have:∀k:Nat,k < 128→IntKind.u8.wrap (k:Int)=(k:Int):=by decide +kernel
  exact this k rs
 unfold nL
 rw [aH ss,pI,oO,aH ss,hw,Ct ss]
 rfl
theorem I1 {l:List Int} {s:ByteArray} (h:rz s=true) (a:l.length≤10000):xP l s=some (true,l++zU s):=by
 have h1:=uJ h
 unfold xP
 simp only [uf,aA,h,aR,Mi h1.2]
 unfold sw
 rw [aH (by rw [sx]; simp; omega)]
 rw [sx,sS rs rs rs]
 simp only [aA]
 rw [Ct (by simp [sx]; omega)]
 simp [zU]
theorem Nd {l:List Int} {r:lh} (h:ou r=true) (d:l.length≤9000):uA l r=some (true,l++rl r):=by
 have a:=h
 simp only [ou,bI] at h
 have h1:=uJ h.1
 unfold uA
 simp only [zK,aA,a,aR]
 rw [I1 h.1 rs]
 simp only [aA,aR]
 rw [I1 h.2 (by simp [wz]; omega)]
 simp [rl]
theorem IT {l:List Int} {r:lh} (h:ou r=true) (a:l.length≤1000):uA l r=some (true,l++rl r):=Nd h rs
theorem Fu {c:lg} (h:nH c=true):ou c.Head=true:=by
 simp only [nH,bI] at h; exact h.1
theorem uq {c:lg} (h:nH c=true) :
  (c.Kind=1∧rz c.nj=true∧c.B=zR∧c.C=zR∧c.mV=zS)∨
  (c.Kind=2∧ou c.B=true∧c.nj=zS∧c.C=zR∧c.mV=zS)∨
  (c.Kind=3∧ou c.B=true∧rz c.mV=true∧c.B.lu=c.Head.lu∧c.nj=zS∧c.C=zR)∨
  (c.Kind=4∧ou c.B=true∧ou c.C=true∧J0 c.B c.C=true∧c.nj=zS∧c.mV=zS):=by
 simp only [nH,bI] at h
 obtain ⟨_,h⟩:=h
 split at h
 ·rename_i h1
  simp only [bI,mw,oq] at h
  exact .inl ⟨by simpa using h1,h.1.1.1,h.1.1.2.symm,h.1.2.symm,h.2.symm⟩
 ·split at h
  ·rename_i h1
   simp only [bI,mw,oq] at h
   exact .inr (.inl ⟨by simpa using h1,h.1.1.1,h.1.1.2.symm,h.1.2.symm,h.2.symm⟩)
  ·split at h
   ·rename_i h1
    simp only [bI,mw,oq] at h
    exact .inr (.inr (.inl ⟨by simpa using h1,h.1.1.1.1,h.1.1.2,h.1.1.1.2,h.1.2.symm,h.2.symm⟩))
   ·split at h
    ·rename_i h1
     simp only [bI,mw,oq] at h
     exact .inr (.inr (.inr ⟨by simpa using h1,h.1.1.1.1,h.1.1.1.2,h.1.1.2,h.1.2.symm,h.2.symm⟩))
    ·cases h
theorem Ev (c:lg):wJ c=some (if nH c then xb c else []):=by
 unfold wJ
 rw [ud]
 simp only [aA]
 cases h:nH c with
 | false=>simp
 | true=>
  have i:=Fu h
  have j:=rR i
  simp only [bM,aB,aK,aR]
  have hk:0≤c.Kind∧c.Kind < 128:=by rcases uq h with h | h | h | h <;> omega
  rw [sS hk.1 hk.2 rv]
  simp only [aA]
  rw [IT i rv]
  simp only [aA,si,rO]
  rcases uq h with ⟨k,h1,_⟩ | ⟨k,h1,_⟩ | ⟨k,h1,a,_⟩ | ⟨k,h1,a,_⟩
  ·have d:=uJ h1
   simp only [k,bB,aR,I1 h1 (show (([]++[(1:Int)])++rl c.Head).length≤10000 by simp; omega),aA]
   rw [Ct (by simp [wz]; omega)]
   simp [xb,FE,k]
  ·have d:=rR h1
   simp only [k,show ((2:Int)==1)=false from rfl,aB,bB,aR,aK,IT h1 (show (([]++[(2:Int)])++rl c.Head).length≤1000 by simp; omega),aA]
   rw [Ct ss]
   simp [xb,FE,k]
  ·have d:=rR h1
   have g:=uJ a
   simp only [k,show ((3:Int)==1)=false from rfl,show ((3:Int)==2)=false from rfl,aB,bB,aR,aK,IT h1 (show (([]++[(3:Int)])++rl c.Head).length≤1000 by simp; omega),aA]
   rw [I1 a ss]
   simp only [aA]
   rw [Ct (by simp [wz]; omega)]
   simp [xb,FE,k]
  ·have d:=rR h1
   have g:=rR a
   simp only [k,show ((4:Int)==1)=false from rfl,show ((4:Int)==2)=false from rfl,show ((4:Int)==3)=false from rfl,aB,bB,aR,aK,IT h1 (show (([]++[(4:Int)])++rl c.Head).length≤1000 by simp; omega),aA]
   rw [IT a ss]
   simp only [aA]
   rw [Ct ss]
   simp [xb,FE,k]
def Nv (l:List Int):ByteArray:=⟨(F0 l).toArray⟩
theorem M4 (l:List Int):(Nv l).data.toList=F0 l:=rfl
theorem N8:∀(l:List Int) (r:ByteArray),(l.foldl (λr n=>r.push (UInt8.ofNat n.toNat)) r).data.toList=r.data.toList++F0 l
 | [],r=>by simp [F0]
 | x::l,r=>by
  rw [iS,N8 l]
  show ((r.data.push _).toList)++_=_
  simp [F0]
theorem OE (l:List Int):BC l=Nv l:=Nt (by unfold BC; rw [N8]; rfl)
theorem JO (s:ByteArray):Nv (zc s)=s:=Nt (by rw [M4]; simp [F0,zc,jP])
def Rt (c:lg):List UInt8:=F0 (if nH c then xb c else [])
def Mn (a b:lg):Bool:=Op.bytesLess (Rt a) (Rt b)
theorem Dg (a b:lg):∃c,vY a b=some c∧(c < 0↔Mn a b=true):=by
 unfold vY
 rw [Ev,Ev]
 exact ⟨_,Z,OT _ _⟩
theorem abQ {a b:Int} (ha:0≤a∧a < 256) (d:0≤b∧b < 256) (h:a.toNat.toUInt8=b.toNat.toUInt8):a=b:=by
 have:=bA UInt8.toNat h
 simp only [UInt8.toNat_ofNat',Nat.toUInt8] at this
 simp at this
 omega
theorem O7:∀{a b:List Int},(∀x∈a,0≤x∧x < 256)→(∀x∈b,0≤x∧x < 256)→F0 a=F0 b→a=b
 | [],[],_,_,_=>rfl
 | [],_::_,_,_,h=>by simp [F0] at h
 | _::_,[],_,_,h=>by simp [F0] at h
 | x::a,y::b,ha,g,h=>by
  simp only [F0,bQ,aU] at h
  rw [abQ (ha x rv) (g y rv) h.1,O7 (λz d=>ha z (by simp [d])) (λz d=>g z (by simp [d])) h.2]
theorem Dp {s:ByteArray} (h:rz s=true):∀x∈zU s,0≤x∧x < 256:=by
 have h1:=uJ h
 intro x a
 rcases aW.1 a with rfl | a
 ·omega
 ·simp only [zc,bT] at a
  obtain ⟨b,_,rfl⟩:=a
  have:=UInt8.toNat_lt b
  omega
theorem By {r:lh} (h:ou r=true):∀x∈rl r,0≤x∧x < 256:=by
 simp only [ou,bI] at h
 intro x a
 rcases bE.1 a with a | a
 ·exact Dp h.1 x a
 ·exact Dp h.2 x a
theorem H2 {c:lg} (h:nH c=true):∀x∈xb c,0≤x∧x < 256:=by
 intro x a
 rcases aW.1 a with rfl | a
 ·rcases uq h with h | h | h | h <;> omega
 ·rcases bE.1 a with a | a
  ·exact By (Fu h) x a
  ·unfold FE at a
   rcases uq h with ⟨k,h1,_⟩ | ⟨k,h1,_⟩ | ⟨k,h1,d,_⟩ | ⟨k,h1,d,_⟩
   ·rw [aO k] at a; exact Dp h1 x a
   ·rw [aH rs,aO k] at a; exact By h1 x a
   ·rw [aH rs,aH rs,aO k] at a
    rcases bE.1 a with a | a
    ·exact By h1 x a
    ·exact Dp d x a
   ·rw [aH rs,aH rs,aH rs] at a
    rcases bE.1 a with a | a
    ·exact By h1 x a
    ·exact By d x a
theorem VH {s t:ByteArray} (h:zc s=zc t):s=t:=by rw [←JO s,h,JO]
theorem HC {s t:ByteArray} {X Y:List Int} (h:zU s++X=zU t++Y):s=t∧X=Y:=by
 simp only [zU,bU,aU] at h
 obtain ⟨h1,a⟩:=h
 have d:(zc s).length=(zc t).length:=by rw [sx,sx]; omega
 have:=List.append_inj a d
 exact ⟨VH this.1,this.2⟩
theorem FM {a b:lh} {X Y:List Int} (h:rl a++X=rl b++Y):a=b∧X=Y:=by
 simp only [rl,aP] at h
 obtain ⟨h1,g⟩:=HC h
 obtain ⟨d,i⟩:=HC g
 exact ⟨by cases a; cases b; simp at h1 d; simp [h1,d],i⟩
theorem Wv {a b:lg} (ha:nH a=true) (u:nH b=true) (h:xb a=xb b):a=b:=by
 simp only [xb,aU] at h
 obtain ⟨hk,s⟩:=h
 obtain ⟨q,h⟩:=FM s
 clear s
 have e0:∀{X Y:List Int},X=Y→X++[]=Y++[]:=λh=>by rw [h]
 unfold FE at h
 obtain ⟨M,t,wa,z,I,x⟩:=a
 obtain ⟨O,v,P,bb,J,y⟩:=b
 simp only at hk q h
 subst hk q
 rcases uq ha with ⟨k,h1,g,i,d⟩ | ⟨k,h1,g,i,d⟩ | ⟨k,h1,g,i,d,j⟩ | ⟨k,h1,g,i,d,j⟩ <;>
 rcases uq u with ⟨k',g1,g2,g3,g4⟩ | ⟨k',g1,g2,g3,g4⟩ | ⟨k',g1,g2,g3,g4,g5⟩ | ⟨k',g1,g2,g3,g4,g5⟩ <;> simp only at k k' g i d g2 g3 g4 <;> (try omega)
 ·rw [aO k,aO k] at h
  simp [HC (e0 h),g,i,d,g2,g3,g4]
 ·rw [aH rs,aO k,aH rs,aO k] at h
  simp [FM (e0 h),g,i,d,g2,g3,g4]
 ·rw [aH rs,aH rs,aO k,aH rs,aH rs,aO k] at h
  obtain ⟨q1,q2⟩:=FM h
  simp only at j g5
  simp [q1,HC (e0 q2),d,j,g4,g5]
 ·rw [aH rs,aH rs,aH rs,aH rs,aH rs,aH rs] at h
  obtain ⟨q1,q2⟩:=FM h
  simp only at j g5
  simp [q1,FM (e0 q2),d,j,g4,g5]
theorem Eh:KM (λa b=>Mn a b=true) (λc=>nH c=true):=by
 refine ⟨λx _ h=>?_,λx y z _ _ _ h1 i=>MK _ _ _ h1 i,λx y d g=>?_⟩
 ·unfold Mn at h; rw [KI] at h; cases h
 ·rcases MP (Rt x) (Rt y) with h | h | h
  ·exact .inl h
  ·refine .inr (.inl (Wv d g ?_))
   unfold Rt at h
   rw [aO d,aO g] at h
   exact O7 (H2 d) (H2 g) h
  ·exact .inr (.inr h)
section
variable {c:Formula→Formula→Int} {G:Formula→Prop} {f:Formula×Formula→Option Int}
theorem Vd (x:Formula):(⟨x.Op,x.K,x.lh,x.Kids⟩:Formula)=x:=by cases x; rfl
abbrev Zr (c:Formula→Formula→Int) (x y:Formula):Bool:=decide (c x y < 0)
abbrev JX (f:Formula×Formula→Option Int) (c:Formula→Formula→Int) (G:Formula→Prop):Prop:=∀x y,G x→G y→f (x,y)=some (c x y)
theorem ada (M:JX f c G) (pre:List Formula) (x:Formula) (U:G x):∀(k:Nat) (P S:List Formula) (n:Nat) (j a:Int),P.length=k→k < n→(∀y∈P,G y)→(pre++(P++x::S)).length≤1000000→j=((pre.length+P.length:Nat):Int)→a=(pre.length:Int)→
  ∃P1 P2,P=P1++P2∧nR a f n (pre++(P++x::S)) j=some (pre++(P1++x::(P2++S)))∧(∀P' z,P1=P'++[z]→Zr c x z=false)∧(∀y P',P2=y::P'→Zr c x y=true):=by
 intro k
 induction k with
 | zero=>
  intro P S n j a hk O g s i ha
  obtain rfl:=bZ hk
  obtain ⟨n,rfl⟩:=aX (by omega:n≠0)
  refine ⟨[],[],Z,?_,rv,rv⟩
  rw [nR]
  have:¬(j > a):=by rw [i,ha]; simp
  simp [this]
 | succ k ih=>
  intro P S n j a hk O g s i ha
  rcases fB P with rfl | ⟨P',z,rfl⟩
  ·simp at hk
  simp only [fC,aC,aG,cM] at hk i s g ⊢
  obtain ⟨n,rfl⟩:=aX (by omega:n≠0)
  have q:j > a:=by omega
  have e0:pre++(P'++[z]++x::S)=(pre++P')++z::x::S:=by simp
  have hw:wi0 .i64 (j-1)=((pre.length+P'.length:Nat):Int):=by rw [mM rs rs]; omega
  have i1:nY ((pre++P')++z::x::S) j=some x:=by
   rw [show (pre++P')++z::x::S=(pre++P'++[z])++x::S by simp]
   exact pz _ _ _ _ ss
  have i2:nY ((pre++P')++z::x::S) ((pre.length+P'.length:Nat):Int)=some z:=pz _ _ _ _ rv
  have Y:G z:=g z rv
  have J:∀y∈P',G y:=λy W=>g y (by simp [W])
  have jn:j.toNat=pre.length+P'.length+1:=by omega
  rw [nR,e0]
  simp only [q,cK,aR,i1,hw,i2,aA,M x z U Y]
  by_cases h:c x z < 0
  ·simp only [h,cK,aR]
   have s1:((pre++P')++z::x::S).set j.toNat z=(pre++P')++z::z::S:=by
    have:=Sq (pre++P'++[z]) S x z j.toNat ss
    simpa only [aP,eV,bU,bL] using this
   have s2:((pre++P')++z::z::S).set (pre.length+P'.length) x=(pre++P')++x::z::S:=by
    exact Sq (pre++P') (z::S) z x _ rv
   have i3:nY ((pre++P')++z::z::S) ((pre.length+P'.length:Nat):Int)=some z:=pz _ _ _ _ rv
   rw [s1,i3,aA,dZ,Vd,s2]
   have t:(pre++P')++x::z::S=pre++(P'++x::(z::S)):=by simp
   obtain ⟨P1,P2,h1,u,v,I⟩:=ih P' (z::S) n ((pre.length+P'.length:Nat):Int) a rs rs J ss Z ha
   rw [t,u]
   refine ⟨P1,P2++[z],by rw [h1]; simp,rv,v,?_⟩
   intro y Q d
   cases P2 with
   | nil=>
    simp only [bL,aU] at d
    rw [←d.1]; simp [Zr,h]
   | cons y' P2=>
    simp only [bU,aU] at d
    rw [←d.1]; exact I y' P2 Z
  ·simp only [h,cX,aB,aK]
   refine ⟨P'++[z],[],rv,rv,?_,rv⟩
   intro Q y d
   have:=List.append_inj' d Z
   simp only [aU,cP] at this
   rw [←this.2]; simp [Zr,h]
end
section
variable {c:Formula→Formula→Int} {G:Formula→Prop} {f:Formula×Formula→Option Int}
theorem rh {x:Int} (n:Nat) (h:x=(n:Int)) (a:n≤4000000):wi0 .i64 x=(n:Int):=by rw [h,mM rs rs]
theorem abS (p m q:List Formula) (a b N:Int):∀(k:Nat) (X1 X2 Y1 Y2:List Formula) (n:Nat) (i:Int),X2.length=k→Y2.length=k→X1.length=Y1.length→k < n→(p++(Y1++(X2++(m++(X1++(Y2++q)))))).length≤1000000→
  i=(X1.length:Int)→N=((X1.length+k:Nat):Int)→a=(p.length:Int)→b=((p.length+X1.length+k+m.length:Nat):Int)→
  oB N b a n (p++(Y1++(X2++(m++(X1++(Y2++q)))))) i=some (p++((Y1++Y2)++(m++((X1++X2)++q)))):=by
 intro k
 induction k with
 | zero=>
  intro X1 X2 Y1 Y2 n i h1 d v I t z j ha s
  obtain rfl:=bZ h1
  obtain rfl:=bZ d
  obtain ⟨n,rfl⟩:=aX (by omega:n≠0)
  rw [oB]
  have:¬(i < N):=by omega
  simp [this]
 | succ k ih=>
  intro X1 X2 Y1 Y2 n i h1 d v I t z j ha s
  cases X2 with
  | nil=>simp at h1
  | cons x X2=>
  cases Y2 with
  | nil=>simp at d
  | cons y Y2=>
  simp only [aG,Nat.add_right_cancel_iff] at h1 d
  obtain ⟨n,rfl⟩:=aX (by omega:n≠0)
  have h:=t
  simp only [aC,aG] at h
  have g:i < N:=by omega
  have J:wi0 .i64 (b+i)=(((p++Y1).length+1+(X2++(m++X1)).length:Nat):Int):=rh _ ss ss
  have M:wi0 .i64 (a+i)=((p++Y1).length:Int):=rh _ ss ss
  have O:wi0 .i64 (i+1)=((X1++[x]).length:Int):=rh _ ss ss
  have e0:p++(Y1++(x::X2++(m++(X1++(y::Y2++q)))))=(p++Y1)++x::((X2++(m++X1))++y::(Y2++q)):=by simp
  have i1:nY ((p++Y1)++x::((X2++(m++X1))++y::(Y2++q))) (((p++Y1).length+1+(X2++(m++X1)).length:Nat):Int)=some y:=by
   have:=pz ((p++Y1)++x::(X2++(m++X1))) y (Y2++q) (((p++Y1).length+1+(X2++(m++X1)).length:Nat):Int) ss
   simpa using this
  have i2:nY ((p++Y1)++x::((X2++(m++X1))++y::(Y2++q))) ((p++Y1).length:Int)=some x:=pz _ _ _ _ Z
  rw [oB,e0]
  simp only [g,cK,aR,J,M,i1,i2,aA,dZ,O]
  have i3:nY (((p++Y1)++x::((X2++(m++X1))++y::(Y2++q))).set (p++Y1).length y) (((p++Y1).length+1+(X2++(m++X1)).length:Nat):Int)=some y:=by
   rw [Lj]
   have:=pz ((p++Y1)++y::(X2++(m++X1))) y (Y2++q) (((p++Y1).length+1+(X2++(m++X1)).length:Nat):Int) ss
   simpa using this
  rw [i3,aA,Vd,MD]
  have u:(p++Y1)++y::((X2++(m++X1))++x::(Y2++q))=p++((Y1++[y])++(X2++(m++((X1++[x])++(Y2++q))))):=by simp
  rw [u,ih (X1++[x]) X2 (Y1++[y]) Y2 n _ h1 d ss rs ss Z (by rw [j]; simp; omega) ha (by rw [s]; simp; omega)]
  simp
theorem Uz (p m q X Y:List Formula) (a b N:Int) (h:X.length=Y.length) (g:(p++(X++(m++(Y++q)))).length≤1000000) (i:N=(X.length:Int)) (ha:a=(p.length:Int)) (j:b=((p.length+X.length+m.length:Nat):Int)) :
  pq (p++(X++(m++(Y++q)))) a b N f=some (p++(Y++(m++(X++q)))):=by
 unfold pq
 have d:=g
 simp only [aC] at d
 have:=abS p m q a b N X.length [] X [] Y mZ 0 Z h.symm Z (by rw [pI]; omega) (by simpa using g) Z (by simpa using i) ha (by rw [j]; simp)
 simpa using this
theorem ab7 (M:Int):∀(k:Nat) (A B p q:List Formula) (n:Nat) (i j:Int),A.length+B.length≤k→0 < A.length→0 < B.length→k < n→(p++(A++(B++q))).length≤1000000→i=(A.length:Int)→j=(B.length:Int)→M=((p.length+A.length:Nat):Int)→
  oQ M f n (p++(A++(B++q))) i j=some (p++(B++(A++q))):=by
 intro k
 induction k with
 | zero=>intro A B p q n i j h h1 y; omega
 | succ k ih=>
  intro A B p q n i j h h1 y hn J g u z
  obtain ⟨n,rfl⟩:=aX (by omega:n≠0)
  have d:=J
  simp only [aC] at d
  rw [oQ]
  by_cases he:A.length=B.length
  ·have:(i != j)=false:=by rw [g,u,he]; simp
   simp only [this,aB,aK]
   have t:wi0 .i64 (M-i)=(p.length:Int):=rh _ rs rs
   have:=Uz (f:=f) p [] q A B (p.length:Int) M i he (by simpa using J) g Z (by rw [z]; simp)
   simp only [bL] at this
   rw [t,this]; rfl
  ·have v:(i != j)=true:=by rw [g,u]; simp; omega
   simp only [v,aR]
   by_cases I:i > j
   ·simp only [I,cK,aR]
    obtain ⟨X,Y,rfl,W⟩:=xJ (l:=A) (n:=B.length) rs
    simp only [aC] at g h z d
    have t:wi0 .i64 (M-i)=(p.length:Int):=rh _ rs rs
    have s:=Uz (f:=f) p Y q X B (p.length:Int) M j rs ss rs Z rs
    have e0:p++(X++Y++(B++q))=p++(X++(Y++(B++q))):=by simp
    have x:wi0 .i64 (i-j)=(Y.length:Int):=rh _ rs rs
    rw [e0,t,s,aA,x]
    have O:p++(B++(Y++(X++q)))=(p++B)++(Y++(X++q)):=by simp
    rw [O,ih Y X (p++B) q n _ j rs rs rs rs ss Z rs ss]
    simp
   ·simp only [I,cX,aB,aK]
    obtain ⟨a,V,rfl,P⟩:=xJ (l:=B) (n:=B.length-A.length) rs
    simp only [aC] at u h d P y he
    have t:wi0 .i64 (M-i)=(p.length:Int):=rh _ rs rs
    have Q:wi0 .i64 (M+j)=((p.length+A.length+(a.length+V.length):Nat):Int):=rh _ rs rs
    have U:wi0 .i64 (((p.length+A.length+(a.length+V.length):Nat):Int)-i)=((p.length+A.length+a.length:Nat):Int):=rh _ rs rs
    have s:=Uz (f:=f) p a q A V (p.length:Int) ((p.length+A.length+a.length:Nat):Int) i rs ss g Z Z
    have e0:p++(A++(a++V++q))=p++(A++(a++(V++q))):=by simp
    have x:wi0 .i64 (j-i)=(a.length:Int):=rh _ rs rs
    rw [e0,t,Q,U,s,aA,x]
    rw [show p++(V++(a++(A++q)))=p++(V++(a++(A++q))) from rfl,ih V a p (A++q) n i _ rs rs rs rs ss rs Z rs]
    simp
theorem rot (A B p q:List Formula) (a m b:Int) (h1:0 < A.length) (h:0 < B.length) (g:(p++(A++(B++q))).length≤1000000) (ha:a=(p.length:Int)) (hm:m=((p.length+A.length:Nat):Int)) (i:b=((p.length+A.length+B.length:Nat):Int)) :
  pB (p++(A++(B++q))) a m b f=some (p++(B++(A++q))):=by
 unfold pB
 have d:=g
 simp only [aC] at d
 rw [rh A.length rs rs,rh B.length rs rs]
 exact ab7 m (A.length+B.length) A B p q mZ _ _ (aY _) h1 h (by rw [pI]; omega) g Z Z hm
end
section
variable {c:Formula→Formula→Int} {G:Formula→Prop} {f:Formula×Formula→Option Int}
theorem I6 {x:Int} (n:Nat) (h:x=(n:Int)) (d:n≤4000000):wi0 .i64 (Int.fdiv (IntKind.u64.wrap (wi0 .i64 x)) (2 ^ min (Int.toNat 1) (IntKind.bits .u64)))=((n / 2:Nat):Int):=by
 rw [rh n h d]
 have a:IntKind.u64.wrap (n:Int)=(n:Int):=by
  simp only [IntKind.wrap,IntKind.signed,IntKind.bits]
  simp
  omega
 rw [a,show (2 ^ min (Int.toNat 1) (IntKind.bits .u64):Int)=2 from by decide,gD _ tc,mM rs rs]
 omega
abbrev Ask (a0:List Formula) (f:Formula×Formula→Option Int) (p q:Int) (b:Bool):Prop:=∃x y r,nY a0 p=some x∧nY a0 q=some y∧f (x,y)=some r∧decide (r < 0)=b
theorem bs1 (a0:List Formula) (u:Int) (pr:Nat→Bool) (lo a:Nat) (W:a≤1000000) (I:∀h,lo≤h→h < a→Ask a0 f (h:Int) u (pr h)):∀(d n i j:Nat),j-i≤d→d < n→lo≤i→i≤j→j≤a→(i=lo∨pr (i-1)=true)→(j=a∨pr j=false)→
  ∃t n',lo≤t∧t≤a∧(t=lo∨pr (t-1)=true)∧(t=a∨pr t=false)∧nF a0 u f n (i:Int) (j:Int)=nF a0 u f (n'+1) (t:Int) (t:Int):=by
 intro d
 induction d with
 | zero=>
  intro n i j h1 Y g Q k q s
  obtain ⟨n,rfl⟩:=aX (by omega:n≠0)
  obtain rfl:i=j:=by omega
  exact ⟨i,n,g,k,q,s,Z⟩
 | succ d ih=>
  intro n i j h1 Y g Q k q s
  obtain ⟨n,rfl⟩:=aX (by omega:n≠0)
  by_cases v:i=j
  ·subst v; exact ⟨i,n,g,k,q,s,Z⟩
  have U:=I6 (i+j) (x:=(i:Int)+(j:Int)) rs rs
  obtain ⟨x,y,r,J,M,O,P⟩:=I ((i+j) / 2) rs rs
  rw [nF]
  have z:((i:Int) < (j:Int)):=by omega
  simp only [z,cK,aR,U,J,M,O,P,aA]
  cases hp:pr ((i+j) / 2)
  ·simp only [aB,aK]
   exact ih n i ((i+j) / 2) rs rs g rs rs q (.inr hp)
  ·simp only [aR]
   rw [rh ((i+j) / 2+1) rs rs]
   exact ih n ((i+j) / 2+1) j rs rs rs rs k (.inr (by simpa using hp)) s
theorem bs3 (a0:List Formula) (a2:Int) (pr:Nat→Bool) (lo a:Nat) (U:a≤1000000) (z:∀h,lo≤h→h < a→Ask a0 f a2 (h:Int) (!pr h)):∀(d n i j:Nat),j-i≤d→d < n→lo≤i→i≤j→j≤a→(i=lo∨pr (i-1)=true)→(j=a∨pr j=false)→
  ∃t Y,lo≤t∧t≤a∧(t=lo∨pr (t-1)=true)∧(t=a∨pr t=false)∧nG a0 a2 f n (i:Int) (j:Int)=nG a0 a2 f (Y+1) (t:Int) (t:Int):=by
 intro d
 induction d with
 | zero=>
  intro n i j h1 W g P k q s
  obtain ⟨n,rfl⟩:=aX (by omega:n≠0)
  obtain rfl:i=j:=by omega
  exact ⟨i,n,g,k,q,s,Z⟩
 | succ d ih=>
  intro n i j h1 W g P k q s
  obtain ⟨n,rfl⟩:=aX (by omega:n≠0)
  by_cases u:i=j
  ·subst u; exact ⟨i,n,g,k,q,s,Z⟩
  have Q:=I6 (i+j) (x:=(i:Int)+(j:Int)) rs rs
  obtain ⟨x,y,r,I,J,M,O⟩:=z ((i+j) / 2) rs rs
  rw [nG]
  have v:((i:Int) < (j:Int)):=by omega
  simp only [v,cK,aR,Q,I,J,M,O,aA,fg]
  cases hp:pr ((i+j) / 2)
  ·simp only [aB,aK]
   exact ih n i ((i+j) / 2) rs rs g rs rs q (.inr hp)
  ·simp only [aR]
   rw [rh ((i+j) / 2+1) rs rs]
   exact ih n ((i+j) / 2+1) j rs rs rs rs k (.inr (by simpa using hp)) s
theorem mv2 (x:Formula):∀(P Q R:List Formula) (n:Nat) (k i:Int),P.length < n→(Q++x::(P++R)).length≤1000000→k=(Q.length:Int)→i=((Q.length+P.length+1:Nat):Int)→oF i n (Q++x::(P++R)) k=some (Q++(P++x::R))
 | [],Q,R,n,k,i,d,g,hk,a=>by
  obtain ⟨n,rfl⟩:=aX (by simp at d; omega:n≠0)
  simp only [aC,aG,cM] at g a
  rw [oF,rh Q.length rs rs]
  have:¬(k < (Q.length:Int)):=by omega
  simp [this]
 | y::P,Q,R,n,k,i,d,g,hk,a=>by
  obtain ⟨n,rfl⟩:=aX (by simp at d; omega:n≠0)
  simp only [aC,aG] at g a d
  have e0:Q++x::(y::P++R)=Q++x::([]++y::(P++R)):=rfl
  have j:wi0 .i64 (k+1)=((Q.length+1+([]:List Formula).length:Nat):Int):=rh _ ss ss
  have i1:nY (Q++x::([]++y::(P++R))) ((Q.length+1+([]:List Formula).length:Nat):Int)=some y:=by
   have:=pz (Q++[x]) y (P++R) ((Q.length+1+([]:List Formula).length:Nat):Int) rv
   simpa using this
  have i2:nY (Q++x::([]++y::(P++R))) k=some x:=pz _ _ _ _ hk
  rw [oF,rh (Q.length+P.length+1) rs rs,e0]
  have h:k < ((Q.length+P.length+1:Nat):Int):=by omega
  have kn:k.toNat=Q.length:=by omega
  simp only [h,cK,aR,j,i1,i2,aA,kn]
  have i3:nY ((Q++x::([]++y::(P++R))).set Q.length y) ((Q.length+1+([]:List Formula).length:Nat):Int)=some y:=by
   rw [Lj]
   have:=pz (Q++[y]) y (P++R) ((Q.length+1+([]:List Formula).length:Nat):Int) rv
   simpa using this
  rw [i3,aA,dZ,Vd,MD]
  have:=mv2 x P (Q++[y]) R n ((Q.length+1+([]:List Formula).length:Nat):Int) i rs ss rv (by rw [a]; simp; omega)
  simpa using this
theorem mv4 (x:Formula):∀(k:Nat) (S Q R:List Formula) (n:Nat) (j i:Int),S.length=k→k < n→(Q++(S++x::R)).length≤1000000→j=((Q.length+S.length:Nat):Int)→i=(Q.length:Int)→oE i n (Q++(S++x::R)) j=some (Q++x::(S++R)):=by
 intro k
 induction k with
 | zero=>
  intro S Q R n j i hk s q a h
  obtain ⟨n,rfl⟩:=aX (by omega:n≠0)
  obtain rfl:=bZ hk
  rw [oE]
  simp only [cM,kG] at a
  have:¬(j > i):=by omega
  simp [this]
 | succ k ih=>
  intro S Q R n j i hk s q a h
  obtain ⟨n,rfl⟩:=aX (by omega:n≠0)
  rcases fB S with rfl | ⟨S,z,rfl⟩
  ·simp at hk
  simp only [fC,aC,aG,cM] at hk a q ⊢
  have e0:Q++(S++[z]++x::R)=(Q++S)++z::([]++x::R):=by simp
  have u:wi0 .i64 (j-1)=((Q++S).length:Int):=rh _ ss ss
  have d:j=(((Q++S).length+1+([]:List Formula).length:Nat):Int):=by rw [a]; simp; omega
  have i1:nY ((Q++S)++z::([]++x::R)) j=some x:=by
   have:=pz (Q++S++[z]) x R j (by rw [d]; simp; omega)
   simpa using this
  have i2:nY ((Q++S)++z::([]++x::R)) ((Q++S).length:Int)=some z:=pz _ _ _ _ Z
  rw [oE,e0]
  have g:j > i:=by omega
  have t:j.toNat=(Q++S).length+1+([]:List Formula).length:=by omega
  simp only [g,cK,aR,u,i1,i2,aA,t]
  have i3:nY (((Q++S)++z::([]++x::R)).set ((Q++S).length+1+([]:List Formula).length) z) ((Q++S).length:Int)=some z:=by
   have:((Q++S)++z::([]++x::R)).set ((Q++S).length+1+([]:List Formula).length) z=(Q++S)++z::(z::R):=by
    have:=Sq (Q++S++[z]) R x z ((Q++S).length+1+([]:List Formula).length) ss
    simpa using this
   rw [this]; exact pz _ _ _ _ Z
  rw [i3,aA,dZ,Vd,V0]
  have:=ih S Q (z::R) n ((Q++S).length:Int) i rs rs ss rv h
  simpa using this
end
section
variable {c:Formula→Formula→Int} {G:Formula→Prop} {f:Formula×Formula→Option Int}
theorem bs5 (a0:List Formula) (k a3 a2:Int) (rec:List Formula→Int→Int→Int→((Formula×Formula)→Option Int)→Option (List Formula)) (mid m p:Nat) (q:k+a3=((2*mid:Nat):Int)∨k+a3=((2*mid+1:Nat):Int)) (hm:a2=(m:Int)) (hp:p+1=mid+m) (pr:Nat→Bool) (lo a:Nat) (a6:a≤1000000) (a8:mid≤1000000) (a7:mid+m≤2000000) (hle:a≤p+1) (O:∀h,lo≤h→h < a→Ask a0 f ((p-h:Nat):Int) (h:Int) (!pr h)):∀(d n i j:Nat),j-i≤d→d < n→lo≤i→i≤j→j≤a→(i=lo∨pr (i-1)=true)→(j=a∨pr j=false)→
  ∃t n',lo≤t∧t≤a∧(t=lo∨pr (t-1)=true)∧(t=a∨pr t=false)∧nr a0 k a3 a2 f rec n (i:Int) (j:Int)=nr a0 k a3 a2 f rec (n'+1) (t:Int) (t:Int):=by
 have g:wi0 .i64 (Int.fdiv (IntKind.u64.wrap (wi0 .i64 (k+a3))) (2 ^ min (Int.toNat 1) (IntKind.bits .u64)))=(mid:Int):=by
  rcases q with h | h
  ·rw [I6 _ h rs,show 2*mid / 2=mid by omega]
  ·rw [I6 _ h rs,show (2*mid+1) / 2=mid by omega]
 intro d
 induction d with
 | zero=>
  intro n i j h1 hn u Y v z I
  obtain ⟨n,rfl⟩:=aX (by omega:n≠0)
  obtain rfl:i=j:=by omega
  exact ⟨i,n,u,v,z,I,Z⟩
 | succ d ih=>
  intro n i j h1 hn u Y v z I
  obtain ⟨n,rfl⟩:=aX (by omega:n≠0)
  by_cases J:i=j
  ·subst J; exact ⟨i,n,u,v,z,I,Z⟩
  have hh:=I6 (i+j) (x:=(i:Int)+(j:Int)) rs rs
  obtain ⟨x,y,r,P,Q,U,W⟩:=O ((i+j) / 2) rs rs
  have w1:wi0 .i64 ((mid:Int)+a2)=((mid+m:Nat):Int):=rh _ rs rs
  have w2:wi0 .i64 (((mid+m:Nat):Int)-1)=(p:Int):=rh _ rs rs
  have w3:wi0 .i64 ((p:Int)-(((i+j) / 2:Nat):Int))=((p-(i+j) / 2:Nat):Int):=rh _ rs rs
  rw [nr]
  have M:((i:Int) < (j:Int)):=by omega
  simp only [M,cK,aR,hh,g,w1,w2,w3,P,Q,U,W,aA,fg]
  cases s:pr ((i+j) / 2)
  ·simp only [aB,aK]
   exact ih n i ((i+j) / 2) rs rs u rs rs z (.inr s)
  ·simp only [aR]
   rw [rh ((i+j) / 2+1) rs rs]
   exact ih n ((i+j) / 2+1) j rs rs rs rs v (.inr (by simpa using s)) I
theorem abK (a0:List Formula) (d a3 a2:Int) (rec:List Formula→Int→Int→Int→((Formula×Formula)→Option Int)→Option (List Formula)) (mid m t n:Nat) (g:d+a3=((2*mid:Nat):Int)∨d+a3=((2*mid+1:Nat):Int)) (hm:a2=(m:Int)) (v:mid≤1000000) (u:mid+m≤2000000) (J:t≤mid+m) :
  nr a0 d a3 a2 f rec (n+1) (t:Int) (t:Int) =
   ((if t < m∧m < mid+m-t then pB a0 (t:Int) a2 ((mid+m-t:Nat):Int) f else some a0).bind λl=>((if d < (t:Int)∧t < mid then rec l d (t:Int) (mid:Int) f else some l).bind λl=>if mid < mid+m-t∧((mid+m-t:Nat):Int) < a3 then rec l (mid:Int) ((mid+m-t:Nat):Int) a3 f else some l)):=by
 have a:wi0 .i64 (Int.fdiv (IntKind.u64.wrap (wi0 .i64 (d+a3))) (2 ^ min (Int.toNat 1) (IntKind.bits .u64)))=(mid:Int):=by
  rcases g with h | h
  ·rw [I6 _ h rs,show 2*mid / 2=mid by omega]
  ·rw [I6 _ h rs,show (2*mid+1) / 2=mid by omega]
 have z:wi0 .i64 ((mid:Int)+a2)=((mid+m:Nat):Int):=rh _ rs rs
 have I:wi0 .i64 (((mid+m:Nat):Int)-(t:Int))=((mid+m-t:Nat):Int):=rh _ rs rs
 rw [nr]
 simp only [Int.lt_irrefl,cX,aB,aK,a,z,I,tN]
 subst hm
 have i:((t:Int) < (m:Int))=(t < m):=by simp
 have j:((m:Int) < ((mid+m-t:Nat):Int))=(m < mid+m-t):=by rw [eq_iff_iff]; omega
 have k:((t:Int) < (mid:Int))=(t < mid):=by simp
 have s:((mid:Int) < ((mid+m-t:Nat):Int))=(mid < mid+m-t):=by rw [eq_iff_iff]; omega
 simp only [i,j,k,s]
 have key:∀(p q:Prop) [Decidable p] [Decidable q] (A B:Option (List Formula)),((if decide p=true then some (decide q) else some false:Option Bool).bind λx=>if x=true then A else B)=if p∧q then A else B:=by
  intro p q _ _ A B
  by_cases hp:p <;> by_cases y:q <;> simp [hp,y]
 simp only [key]
end
section
variable {c:Formula→Formula→Int} {G:Formula→Prop} {f:Formula×Formula→Option Int}
def fm (a:List (List (Formula×Nat))):List Formula:=a.flatten.map (·.1)
end
theorem QZ {P:Formula→Prop} (h:∀f,(∀k∈f.Kids,P k)→P f):∀f,P f:=by
 intro f
 refine Formula.rec (motive_1:=P) (motive_2:=λks=>∀k∈ks,P k) ?_ ?_ ?_ f
 ·intro o k r ks ih; exact h _ ih
 ·intro k hk; cases hk
 ·intro k ks h1 d x a
  rcases aW.1 a with rfl | a
  ·exact h1
  ·exact d x a
mutual
def nl:Formula→Nat
 | ⟨_,_,_,ks⟩=>1+nodesL ks
def nodesL:List Formula→Nat
 | []=>0
 | k::ks=>nl k+nodesL ks
end
mutual
def xH:Formula→Nat
 | ⟨_,_,_,ks⟩=>deepL ks+1
def deepL:List Formula→Nat
 | []=>0
 | k::ks=>max (xH k) (deepL ks)
end
theorem vg (f:Formula):nl f=1+nodesL f.Kids:=by cases f; rw [nl]
theorem uw (f:Formula):xH f=deepL f.Kids+1:=by cases f; rw [xH]
theorem D6:∀{ks:List Formula} {k:Formula},k∈ks→nl k≤nodesL ks
 | x::ks,k,h=>by
  rw [nodesL]
  rcases aW.1 h with rfl | h
  ·omega
  ·have:=D6 h; omega
theorem B2:∀{ks:List Formula} {k:Formula},k∈ks→xH k≤deepL ks
 | x::ks,k,h=>by
  rw [deepL]
  rcases aW.1 h with rfl | h
  ·omega
  ·have:=B2 h; omega
theorem GO:∀f:Formula,xH f≤nl f:=by
 refine QZ λf ih=>?_
 rw [uw,vg]
 have:∀ks:List Formula,(∀k∈ks,xH k≤nl k)→deepL ks≤nodesL ks:=by
  intro ks
  induction ks with
  | nil=>intro _; rw [deepL]; omega
  | cons k ks a=>
   intro h
   have:=a (λx d=>h x (by simp [d]))
   have:=h k rv
   rw [deepL,nodesL]; omega
 have:=this f.Kids ih
 omega
theorem B3:∀ks:List Formula,ks.length≤nodesL ks
 | []=>by rw [nodesL]; simp
 | k::ks=>by have:=B3 ks; have:=vg k; rw [nodesL,aG]; omega
theorem VN (a:Nat) (hm:a≤4096) (rec:Formula→Int→Option (Int×Int)):∀(ks:List Formula),(∀k∈ks,∀q:Nat,q≤4096→∃n d:Nat,rec k (q:Int)=some ((n:Int),(d:Int))∧1≤n∧n≤nl k∧d≤nl k∧(nl k≤q→n=nl k∧d=xH k)∧(q < nl k→q < n))→∀x y:Nat,x+nodesL ks≤100000000→
  ∃n d:Nat,uD (a:Int) rec ks (x:Int) (y:Int)=some ((n:Int),(d:Int))∧x≤n∧n≤x+nodesL ks∧d≤max y (nodesL ks)∧(x+nodesL ks≤a→n=x+nodesL ks∧d=max y (deepL ks))∧(a < x+nodesL ks→a < n)
 | [],_,x,y,_=>by
  rw [uD,nodesL,deepL]
  exact ⟨x,y,Z,rs,rs,rs,λ_=>⟨rs,rs⟩,λh=>by omega⟩
 | k::ks,i,x,y,u=>by
  rw [nodesL] at u ⊢
  rw [uD,deepL]
  by_cases j:(x:Int) > (a:Int)
  ·simp only [j,cK,aR]
   exact ⟨x,y,Z,rs,rs,rs,λ_=>by omega,λh=>by omega⟩
  ·simp only [j,cX,aB,aK]
   have I:wi0 .i64 ((a:Int)-(x:Int))=((a-x:Nat):Int):=by rw [mM rs rs]; omega
   obtain ⟨m,d,e,h1,O,P,g,t⟩:=i k rv (a-x) rs
   rw [I,e,aA]
   have J:wi0 .i64 ((x:Int)+(m:Int))=((x+m:Nat):Int):=by rw [mM rs rs]; omega
   have M:(if (d:Int) > (y:Int) then (d:Int) else (y:Int))=((max y d:Nat):Int):=by split <;> omega
   simp only [J,M]
   obtain ⟨n,s,e',g1,g2,g3,g4,g5⟩:=VN a hm rec ks (λz v=>i z (by simp [v])) (x+m) (max y d) rs
   refine ⟨n,s,e',rs,rs,rs,λh=>?_,λh=>?_⟩
   ·obtain ⟨rfl,rfl⟩:=g rs
    obtain ⟨rfl,rfl⟩:=g4 rs
    exact ⟨rs,rs⟩
   ·by_cases hk:a-x < nl k
    ·have:=t hk; omega
    ·obtain ⟨rfl,_⟩:=g rs
     exact g5 rs
theorem YP:∀(n:Nat) (f:Formula),xH f≤n→nl f≤50000000→∀q:Nat,q≤4096→∃m d:Nat,sK n f (q:Int)=some ((m:Int),(d:Int))∧1≤m∧m≤nl f∧d≤nl f∧(nl f≤q→m=nl f∧d=xH f)∧(q < nl f→q < m):=by
 intro n
 induction n with
 | zero=>intro f h; rw [uw] at h; omega
 | succ n ih=>
  intro f hd v q a
  rw [uw] at hd
  have j:=vg f
  rw [sK]
  unfold AZ
  obtain ⟨m,d,e,h1,t,u,g,i⟩:=VN q a (sK n) f.Kids (λk hk q a=>ih k (by have:=B2 hk; omega) (by have:=D6 hk; omega) q a) 1 0 rs
  have e':uD (q:Int) (sK n) f.Kids 1 0=some ((m:Int),(d:Int)):=e
  rw [e',aA]
  have s:wi0 .i64 ((d:Int)+1)=((d+1:Nat):Int):=by rw [mM rs rs]; omega
  simp only [s]
  refine ⟨m,d+1,Z,h1,rs,rs,λh=>?_,λh=>i rs⟩
  obtain ⟨rfl,rfl⟩:=g rs
  rw [uw]
  exact ⟨rs,rs⟩
theorem aab (f:Formula) (i:nl f≤50000000):CL f=some (if nl f≤4096 then ((nl f:Int),(xH f:Int)) else (0,0)):=by
 unfold CL
 have:=GO f
 obtain ⟨m,d,e,h1,j,k,a,g⟩:=YP mZ f (by rw [pI]; omega) i 4096 (aY _)
 have e':sK mZ f 4096=some ((m:Int),(d:Int)):=e
 rw [e',aA]
 by_cases h:nl f≤4096
 ·obtain ⟨rfl,rfl⟩:=a h
  have:¬((nl f:Int) > 4096):=by omega
  simp [this,h]
 ·have:=g rs
  have:((m:Int) > 4096):=by omega
  simp [this,h]
def Da:lh:=⟨zS,zS⟩
def LL (f:Formula):Bool:=if f.Op=1 then ou f.lh&&decide (f.Kids.length=0)&&decide (f.K=0) else if f.Op=2∨f.Op=3 then mq f.lh Da&&decide (f.K=0) else decide (f.Op=4)&&mq f.lh Da&&decide (0≤f.K)&&decide (f.K≤(f.Kids.length:Int))&&decide (1≤f.Kids.length)
theorem aat (f:Formula):CG f=some (LL f):=by
 unfold CG LL
 simp only [zK,aA,tN]
 by_cases h1:f.Op=1
 ·simp only [h1,bB,aR]
  cases u:ou f.lh
  ·simp
  ·by_cases k:f.Kids.length=0
   ·have:f.Kids=[]:=bZ k
    by_cases hk:f.K=0 <;> simp [this,hk]
   ·have:((f.Kids.length:Int)==0)=false:=by simp; intro h; exact k (by simp [h])
    simp only [aR,aA,this,aB,aK,k,cX,Bool.and_false,iv]
 ·have s:(f.Op==1)=false:=by simpa using h1
  simp only [s,aB,aK,h1]
  by_cases d:f.Op=2∨f.Op=3
  ·have i:(if f.Op==2 then some (f.Op==2) else some (f.Op==3))=some true:=by
    rcases d with h | h <;> simp [h]
   simp only [i,aA,aR,d]
   cases g:mq f.lh ⟨zS,zS⟩ <;> by_cases hk:f.K=0 <;> simp [Da,g,hk]
  ·have i:(if f.Op==2 then some (f.Op==2) else some (f.Op==3))=some false:=by
    have a:f.Op≠2:=λh=>d (.inl h)
    have b:f.Op≠3:=λh=>d (.inr h)
    simp [a,b]
   simp only [i,aA,aB,aK,d]
   by_cases j:f.Op=4
   ·simp only [j,bB,aR,aA,cK,gu]
    cases g:mq f.lh ⟨zS,zS⟩
    ·simp [Da,g]
    ·by_cases c1:0≤f.K <;> by_cases c2:f.K≤(f.Kids.length:Int) <;> by_cases q:1≤f.Kids.length <;> simp [Da,g,c1,c2,q] <;> omega
   ·have t:(f.Op==4)=false:=by simpa using j
    simp [t,j]
mutual
def CP:Formula→Bool
 | ⟨o,n,r,ks⟩=>LL ⟨o,n,r,ks⟩&&decide (ks.length≤8)&&wellL ks
def wellL:List Formula→Bool
 | []=>true
 | k::ks=>CP k&&wellL ks
end
theorem R0 (f:Formula):CP f=(LL f&&decide (f.Kids.length≤8)&&wellL f.Kids):=by cases f; rw [CP]
theorem PZ:∀ks:List Formula,wellL ks=ks.all CP
 | []=>rfl
 | k::ks=>by rw [wellL,PZ ks]; rfl
theorem RI (f:Formula→Option Bool):∀(l:List Formula) (i:Nat),pS f l i=Df f l i
 | [],i=>by rw [pS]; rfl
 | x::l,i=>by
  rw [pS,Df]
  cases f x with
  | none=>rfl
  | some b=>
   simp only [aA]
   rw [RI f l (i+1)]
theorem Mf (f:Formula→Option Bool) (p:Formula→Bool) (l:List Formula) (h:∀x∈l,f x=some (p x)):so l f=some (l.any p):=by
 unfold so yo
 rw [RI]
 rcases He f p l 0 h with ⟨e,h1⟩ | ⟨A,x,B,rfl,h1,a,e⟩
 ·rw [e,aA]
  have:l.any p=false:=by rw [iw]; intro x d; rw [h1 x d]; simp
  rw [this]; rfl
 ·rw [e,aA]
  have:(A++x::B).any p=true:=by simp [a]
  rw [this]
  congr 1
theorem Yk:∀(n:Nat) (f:Formula),xH f≤n→wM n f=some (CP f):=by
 intro n
 induction n with
 | zero=>intro f h; rw [uw] at h; omega
 | succ n ih=>
  intro f h
  rw [uw] at h
  rw [wM]
  unfold Bc
  rw [aat,aA,R0,Mf _ (λk=>!CP k) f.Kids (λk hk=>by unfold B7; rw [ih k (by have:=B2 hk; omega)]; rfl)]
  rw [PZ]
  have e:(!(f.Kids.any λk=>!CP k))=f.Kids.all CP:=by rw [List.all_eq_not_any_not]
  cases LL f
  ·rfl
  ·by_cases a:f.Kids.length≤8
   ·have:((f.Kids.length:Int)≤8):=by omega
    simp [a,this,e]
   ·have:¬((f.Kids.length:Int)≤8):=by omega
    simp [a,this]
def rV (f:Formula):Bool:=decide (nl f≤64)&&decide (xH f≤6)&&CP f
theorem D2 (f:Formula) (d:nl f≤50000000):sM f=some (rV f):=by
 unfold sM rV
 have hd:=GO f
 rw [aab f d,aA,Yk mZ f (by rw [pI]; omega)]
 have h1:=vg f
 by_cases h:nl f≤4096
 ·simp only [h,aR]
  have a:((nl f:Int)≥1):=by omega
  simp only [a,cK,aR,aA,tN]
  by_cases c1:nl f≤64 <;> by_cases c2:xH f≤6
  ·have d1:((nl f:Int)≤64):=by omega
   have d2:((xH f:Int)≤6):=by omega
   simp [c1,c2,d1,d2]
  ·have d1:((nl f:Int)≤64):=by omega
   have d2:¬((xH f:Int)≤6):=by omega
   simp [c1,c2,d1,d2]
  ·have d1:¬((nl f:Int)≤64):=by omega
   simp [c1,d1]
  ·have d1:¬((nl f:Int)≤64):=by omega
   simp [c1,d1]
 ·simp only [h,aK]
  have:¬nl f≤64:=by omega
  simp [this]
theorem Formula.ext' {a b:Formula} (h1:a.Op=b.Op) (d:a.K=b.K) (g:a.lh=b.lh) (h:a.Kids=b.Kids):a=b:=by
 cases a; cases b; simp only at h1 d g h; subst h1 d g h; rfl
theorem XL (g:Formula×Formula→Option Bool):∀(l m:List Formula),l.length=m.length→(∀x∈l,∀y,∃b,g (x,y)=some b∧(b=true↔x=y))→∀(A:List Formula),
  ∃b,nD (A++m) g l A.length=some b∧(b=true↔l=m)
 | [],m,d,_,A=>by
  obtain rfl:=bZ d.symm
  exact ⟨true,Z,rv⟩
 | x::l,[],d,_,A=>by simp at d
 | x::l,y::m,d,i,A=>by
  rw [nD]
  obtain ⟨b,e,h⟩:=i x rv y
  have i1:nY (A++y::m) (A.length:Int)=some y:=pz _ _ _ _ Z
  rw [i1,aA,e,aA]
  cases b with
  | false=>
   refine ⟨false,Z,?_⟩
   have:x≠y:=λa=>by have:=h.2 a; simp at this
   simp [this]
  | true=>
   have a:=h.1 Z
   obtain ⟨b,j,s⟩:=XL g l m (by simpa using d) (λz t=>i z (by simp [t])) (A++[y])
   simp only [bM,aB,aK]
   have k:A++y::m=(A++[y])++m:=by simp
   have q:A.length+1=(A++[y]).length:=by simp
   rw [k,q,j]
   exact ⟨b,Z,by rw [s]; simp [a]⟩
theorem ZQ:∀(n:Nat) (f:Formula),xH f≤n→∀g,∃b,tO n f g=some b∧(b=true↔f=g):=by
 intro n
 induction n with
 | zero=>intro f h; rw [uw] at h; omega
 | succ n ih=>
  intro f h g
  rw [uw] at h
  rw [tO]
  unfold BF
  by_cases h1:f.Op=g.Op
  ·by_cases a:f.K=g.K
   ·by_cases d:f.lh=g.lh
    ·have j:mq f.lh g.lh=true:=mw.2 d
     simp only [h1,a,j,bB,aR,aA]
     unfold pa
     by_cases i:f.Kids.length=g.Kids.length
     ·have:((f.Kids.length:Int) != (g.Kids.length:Int))=false:=by simp [i]
      simp only [this,aB,aK]
      obtain ⟨b,e,s⟩:=XL (λx=>tO n x.1 x.2) f.Kids g.Kids i (λx t y=>ih x (by have:=B2 t; omega) y) []
      simp only [bL,cM] at e
      rw [e]
      refine ⟨b,rv,s.trans ⟨λhk=>Formula.ext' h1 a d hk,λhk=>by rw [hk]⟩⟩
     ·have:((f.Kids.length:Int) != (g.Kids.length:Int))=true:=by simp; omega
      simp only [this,aR]
      exact ⟨false,Z,by simp; intro hk; rw [hk] at i; exact i Z⟩
    ·have j:mq f.lh g.lh=false:=by rw [←Bool.not_eq_true,mw]; exact d
     simp only [h1,a,j,bB,aR,aA,aB,aK]
     exact ⟨false,Z,by simp; intro hk; rw [hk] at d; exact d Z⟩
   ·have q:(f.K==g.K)=false:=by simpa using a
    simp only [h1,q,bB,aR,aA,aB,aK]
    exact ⟨false,Z,by simp; intro hk; rw [hk] at a; exact a Z⟩
  ·have k:(f.Op==g.Op)=false:=by simpa using h1
   simp only [k,aA,aB,aK]
   exact ⟨false,Z,by simp; intro hk; rw [hk] at h1; exact h1 Z⟩
section
variable {α:Type} {R:α→Bool} {lt:α→α→Bool}
theorem Ms (H:KM (λa b=>lt a b=true) λx=>R x=true) {l:List α} (g:∀x∈l,R x=true) (h:l.Pairwise λa b=>lt a b=true):l.Nodup:=by
 refine h.imp_of_mem (λ{a b} ha i d e=>?_)
 subst e
 exact H.irrefl a (g a ha) d
theorem rZ:∀{l m:List α},l.Nodup→(∀x∈l,x∈m)→l.length≤m.length
 | [],_,_,_=>by simp
 | x::l,m,i,d=>by
  obtain ⟨A,B,rfl⟩:=List.append_of_mem (d x rv)
  have a:=dR.1 i
  have:=rZ (l:=l) (m:=A++B) a.2 (λy g=>by
   have:=d y (eG _ g)
   simp only [bE,aW] at this ⊢
   rcases this with h | h | h
   ·exact .inl h
   ·subst h; exact absurd g a.1
   ·exact .inr h)
  simp at this ⊢; omega
end
abbrev sa (l s:List lh):=zm (λa b=>J0 a b=true) (λx=>ou x=true) l s
abbrev xO (l s:List lg):=zm (λa b=>Mn a b=true) (λx=>nH x=true) l s
theorem uy {α:Type} {lt:α→α→Bool} {R:α→Bool} (H:KM (λa b=>lt a b=true) λx=>R x=true) {l s:List α} (h:zm (λa b=>lt a b=true) (λx=>R x=true) l s):s.length≤l.length :=
 rZ (Ms H (λx d=>((h.2 x).1 d).2) h.1) (λx d=>((h.2 x).1 d).1)
def zC:lg:=⟨0,⟨zS,zS⟩,zS,⟨zS,zS⟩,⟨zS,zS⟩,zS⟩
theorem T9 (f:lg→Option Bool):∀(n:Nat) (l:List lg) (i j:Int),rB f n l i j=Hf f zC n l i j
 | 0,_,_,_=>rfl
 | n+1,l,i,j=>by
  rw [rB,Hf]
  simp only [T9 f n]
  rfl
theorem Pq (f:lg→Option Bool):∀(l:List lg) (i:Nat),tA f l i=Df f l i
 | [],_=>rfl
 | x::l,i=>by rw [tA,Df]; simp only [Pq f l]
theorem Jw (f:lg→Option Bool) (l:List lg):ry l f=Ie f zC l:=by
 unfold ry Ie uU
 simp only [Pq,T9]
theorem RQ (i:Int):∀(n:Nat) (l:List lg) (k j:Int),sE i n l k j=Fj ni i n l k j
 | 0,_,_,_=>rfl
 | n+1,l,k,j=>by
  rw [sE,Fj]
  simp only [RQ i n]
theorem Q6 (l:List lg):∀(n:Nat) (i:Int),sI l n i=F3 ni zC l n i
 | 0,_=>rfl
 | n+1,i=>by
  rw [sI,F3]
  simp only [Q6 l n,RQ]
  rfl
theorem YT (l:List lg):yd l=MW ni zC l:=by
 unfold yd MW
 simp only [Q6]
theorem Uc (f:lh→Option Bool):∀(n:Nat) (l:List lh) (i j:Int),rC f n l i j=Hf f zR n l i j
 | 0,_,_,_=>rfl
 | n+1,l,i,j=>by
  rw [rC,Hf]
  simp only [Uc f n]
  rfl
theorem T4 (f:lh→Option Bool):∀(l:List lh) (i:Nat),tE f l i=Df f l i
 | [],_=>rfl
 | x::l,i=>by rw [tE,Df]; simp only [T4 f l]
theorem Si (f:lh→Option Bool) (l:List lh):uo l f=Ie f zR l:=by
 unfold uo Ie zp
 simp only [T4,Uc]
theorem Se (i:Int):∀(n:Nat) (l:List lh) (k j:Int),sA i n l k j=Fj mq i n l k j
 | 0,_,_,_=>rfl
 | n+1,l,k,j=>by
  rw [sA,Fj]
  simp only [Se i n]
theorem Q1 (l:List lh):∀(n:Nat) (i:Int),sH l n i=F3 mq zR l n i
 | 0,_=>rfl
 | n+1,i=>by
  rw [sH,F3]
  simp only [Q1 l n,Se]
  rfl
theorem Yx (l:List lh):yi l=MW mq zR l:=by
 unfold yi MW
 simp only [Q1]
theorem KR {l:List lg} (a:l.length≤1000000000):rA l=some l:=by
 unfold rA
 rw [od ss ss]
 simp
theorem SB {l:List lh} (a:l.length≤1000000000):tU l=some l:=by
 unfold tU
 rw [od ss ss]
 simp
theorem H3 (l:List lg) (g:l.length≤1000000000):∃s,pD l=some s∧xO l s:=by
 unfold pD
 rw [KR g]
 simp only [aA]
 rw [Jw,Ce _ (λx=>!nH x) zC l rs (λx _=>by simp [F8,ud])]
 simp only [aA,fg]
 have j:(l.filter λx=>nH x).length≤l.length:=cY _ _
 obtain ⟨s,h1,i,d⟩:=Mv (eq:=ni) (lt:=λa b=>Mn a b=true) (P:=λx=>nH x=true) (cf:=λx=>vY x.1 x.2) (l:=l.filter λx=>nH x) (λx y=>pH) Eh (λx h=>(cR.1 h).2) rs (λx y _ _=>Dg x y)
 rw [h1]
 simp only [aA]
 rw [YT,Nf _ _ _ rs]
 refine ⟨_,Z,d.1,λx=>?_⟩
 rw [d.2]
 simp
theorem Jz (l:List lh) (g:l.length≤1000000000):∃s,ue l=some s∧sa l s:=by
 unfold ue
 rw [SB g]
 simp only [aA]
 rw [Si,Ce _ (λx=>!ou x) zR l rs (λx _=>by simp [Ge,zK])]
 simp only [aA,fg]
 have j:(l.filter λx=>ou x).length≤l.length:=cY _ _
 obtain ⟨s,h1,i,d⟩:=Mv (eq:=mq) (lt:=λa b=>J0 a b=true) (P:=λx=>ou x=true) (cf:=λx=>vV x.1 x.2) (l:=l.filter λx=>ou x) (λx y=>mw) (HE _) (λx h=>(cR.1 h).2) rs (λx y _ _=>Di x y)
 rw [h1]
 simp only [aA]
 rw [Yx,Nf _ _ _ rs]
 refine ⟨_,Z,d.1,λx=>?_⟩
 rw [d.2]
 simp
def tt {κ:Type} (ks:List κ):List (κ×Bool):=ks.map λk=>(k,true)
def ph {κ:Type} (beq:κ→κ→Bool) (ks:List κ) (k:κ):Bool:=ks.any λx=>beq k x
def ins {κ:Type} (beq:κ→κ→Bool) (ks:List κ) (k:κ):List κ:=if ph beq ks k then ks else ks++[k]
section
variable {κ:Type} {beq:κ→κ→Bool}
theorem xx (a:∀{x y},beq x y=true↔x=y) (ks:List κ) (k:κ):ph beq ks k=true↔k∈ks:=by
 simp [ph,kC,a]
theorem Ua (a:∀{x y},beq x y=true↔x=y) (ks:List κ) (k x:κ):x∈ins beq ks k↔x∈ks∨x=k:=by
 unfold ins
 split
 ·rename_i h
  have:=(xx a ks k).1 h
  exact ⟨.inl,λh=>by rcases h with h | rfl; exact h; exact this⟩
 ·simp
theorem NV (ks:List κ) (k:κ):(ins beq ks k).length≤ks.length+1∧ks.length≤(ins beq ks k).length:=by
 unfold ins; split <;> simp
theorem KC (ks:List κ):(tt ks).length=ks.length:=by simp [tt]
theorem I9 (ks:List κ) (k:κ):zW beq (tt ks) k false=ph beq ks k:=by
 unfold zW nv ph tt
 induction ks with
 | nil=>rfl
 | cons x xs ih=>
  simp only [bQ,gj,List.any_cons]
  cases h:beq k x with
  | true=>simp
  | false=>simpa using ih
theorem IP (s:∀{x y},beq x y=true↔x=y) (ks:List κ) (k:κ):pO beq (tt ks) k true=tt (ins beq ks k):=by
 unfold pO ins
 have t:(tt ks).findIdx? (λp=>beq k p.1)=ks.findIdx? (λx=>beq k x):=by
  unfold tt; rw [gZ]; rfl
 rw [t]
 cases h:ks.findIdx? (λx=>beq k x) with
 | none=>
  rw [gM] at h
  rw [aH]
  ·simp [tt]
  ·intro d
   unfold ph at d
   rw [kC] at d
   obtain ⟨x,u,a⟩:=d
   rw [h x u] at a
   cases a
 | some i=>
  rw [eL] at h
  obtain ⟨q,h1,_⟩:=h
  have e:=s.1 h1
  rw [aO]
  ·simp only [tt]
   apply eZ
   intro j
   rw [fG]
   split
   ·rename_i g
    subst g
    simp [q,e]
   ·rfl
  ·unfold ph
   exact kC.2 ⟨ks[i],iD q,h1⟩
end
inductive AO (all:List lg) (wants:List lh):lh ⊕ ByteArray ⊕ lg→Prop
 | want (r:lh):r∈wants→AO all wants (.inl r)
 | UQ (c:lg):c∈all→AO all wants (.inl c.Head)→AO all wants (.inr (.inr c))
 | VD (c:lg):c∈all→AO all wants (.inr (.inl c.Head.Word))→AO all wants (.inr (.inr c))
 | Oh (c:lg):AO all wants (.inr (.inr c))→c.Kind > 1→AO all wants (.inl c.B)
 | PL (c:lg):AO all wants (.inr (.inr c))→c.Kind=4→AO all wants (.inl c.C)
 | PN (c:lg):AO all wants (.inr (.inr c))→c.Kind=3→AO all wants (.inr (.inl c.mV))
structure BK (all:List lg) (wants:List lh) (T:List lh) (W:List ByteArray) (R:List lg):Prop where
 sT:∀r∈T,AO all wants (.inl r)
 sW:∀w∈W,AO all wants (.inr (.inl w))
 sR:∀c∈R,AO all wants (.inr (.inr c))
 want:∀r∈wants,r∈T
 sub:∀c∈R,c∈all
 nd:R.Nodup
 Oh:∀c∈R,c.Kind > 1→c.B∈T
 PL:∀c∈R,c.Kind=4→c.C∈T
 PN:∀c∈R,c.Kind=3→c.mV∈W
 lT:T.length≤wants.length+2*R.length
 lW:W.length≤R.length
def OB (all:List lg) (T:List lh) (W:List ByteArray) (R:List lg):Prop:=∀c∈all,(c.Head∈T∨c.Head.Word∈W)→c∈R
section
variable {all:List lg} {wants:List lh} {T:List lh} {W:List ByteArray} {R:List lg}
theorem BK.aaK (h:BK all wants T W R) (d:OB all T W R):∀x,AO all wants x→(match x with | .inl r=>r∈T | .inr (.inl w)=>w∈W | .inr (.inr c)=>c∈R):=by
 intro x i
 induction i with
 | want r g=>exact h.want r g
 | UQ c a _ ih=>exact d c a (.inl ih)
 | VD c a _ ih=>exact d c a (.inr ih)
 | Oh c _ hk ih=>exact h.Oh c ih hk
 | PL c _ hk ih=>exact h.PL c ih hk
 | PN c _ hk ih=>exact h.PN c ih hk
theorem BK.acO (h:BK all wants T W R) (a:OB all T W R) (c:lg):c∈R↔AO all wants (.inr (.inr c)):=⟨h.sR c,h.aaK a (.inr (.inr c))⟩
theorem BK.lR (h:BK all wants T W R):R.length≤all.length:=rZ h.nd h.sub
def pn (c:lg):List lh:=if c.Kind=1 then [] else if c.Kind=4 then [c.B,c.C] else [c.B]
theorem BK.add (h:BK all wants T W R) {c:lg} (t:c∈all) (hk:nH c=true) (z:c∉R) (q:c.Head∈T∨c.Head.Word∈W) {T':List lh} {W':List ByteArray} (k:∀r,r∈T'↔r∈T∨r∈pn c) (s:∀w,w∈W'↔w∈W∨(c.Kind=3∧w=c.mV)) (lT:T'.length≤T.length+2) (lW:W'.length≤W.length+1):BK all wants T' W' (R++[c]):=by
 have j:AO all wants (.inr (.inr c)):=by
  rcases q with q | q
  ·exact .UQ c t (h.sT _ q)
  ·exact .VD c t (h.sW _ q)
 have y:c.Kind=1∨c.Kind=2∨c.Kind=3∨c.Kind=4:=by rcases uq hk with h | h | h | h <;> simp [h.1]
 refine ⟨λr i=>?_,λw hw=>?_,λd hd=>?_,λr i=>(k r).2 (.inl (h.want r i)),λd hd=>?_,?_,λd hd g=>?_,λd hd g=>?_,λd hd g=>?_,?_,?_⟩
 ·rcases (k r).1 i with i | i
  ·exact h.sT r i
  ·unfold pn at i
   split at i
   ·cases i
   ·split at i
    ·rename_i x
     simp at i
     rcases i with rfl | rfl
     ·exact .Oh c j rs
     ·exact .PL c j x
    ·simp at i; subst i; exact .Oh c j rs
 ·rcases (s w).1 hw with hw | ⟨v,rfl⟩
  ·exact h.sW w hw
  ·exact .PN c j v
 ·rcases bE.1 hd with hd | hd
  ·exact h.sR d hd
  ·simp at hd; subst hd; exact j
 ·rcases bE.1 hd with hd | hd
  ·exact h.sub d hd
  ·simp at hd; subst hd; exact t
 ·exact cE.2 ⟨h.nd,rv,λa ha b u=>by simp at u; subst u; intro e; subst e; exact z ha⟩
 ·rcases bE.1 hd with hd | hd
  ·exact (k _).2 (.inl (h.Oh d hd g))
  ·simp at hd; subst hd
   refine (k _).2 (.inr ?_)
   unfold pn
   rw [aH rs]
   split <;> simp
 ·rcases bE.1 hd with hd | hd
  ·exact (k _).2 (.inl (h.PL d hd g))
  ·simp at hd; subst hd
   refine (k _).2 (.inr ?_)
   unfold pn
   rw [aH rs,aO g]
   simp
 ·rcases bE.1 hd with hd | hd
  ·exact (s _).2 (.inl (h.PN d hd g))
  ·simp at hd; subst hd; exact (s _).2 (.inr ⟨g,Z⟩)
 ·have:=h.lT; simp; omega
 ·have:=h.lW; simp; omega
end
theorem VV {c:lg} (h:nH c=true):Cd c=some (c.Head::pn c):=by
 unfold Cd
 rw [ud,h]
 simp only [aA,bM,aB,aK]
 have a:c.Kind=1∨c.Kind=2∨c.Kind=3∨c.Kind=4:=by rcases uq h with h | h | h | h <;> simp [h.1]
 rcases a with k | k | k | k
 ·simp [k,pn]
 ·rw [aO (by simp [k]),od rv rv]
  simp [k,pn]
 ·rw [aO (by simp [k]),od rv rv]
  simp [k,pn]
 ·rw [aO (by simp [k]),od rv rv]
  simp only [aA]
  rw [aO (by simp [k]),od rv rv]
  simp [k,pn]
theorem TW (c:lg) (W:List ByteArray) (R:List lg):∀(a:List lh) (T:List lh),ta c (tt W) (tt R) a (tt T) =
  some (tt (a.foldl (ins mq) T),tt (if c.Kind=3 then ins ob W c.mV else W),tt (ins ni R c))
 | [],T=>by
  rw [ta,IP oq,IP pH]
  by_cases h:c.Kind=3 <;> simp [h]
 | r::a,T=>by
  rw [ta,IP mw,TW c W R a]
  rfl
theorem yk:∀(a T:List lh) (r:lh),r∈a.foldl (ins mq) T↔r∈T∨r∈a
 | [],T,r=>by simp
 | x::a,T,r=>by
  rw [iS,yk a,Ua mw]
  simp [or_assoc]
theorem DP:∀(a T:List lh),(a.foldl (ins mq) T).length≤T.length+a.length
 | [],T=>by simp
 | x::a,T=>by
  have h1:=DP a (ins mq T x)
  have d:=(NV (beq:=mq) T x).1
  simp only [iS,aG]
  omega
theorem aaC {c:lg} (h:nH c=true) (A:List lg) (T:List lh) (W:List ByteArray) (R:List lg):yC A (tt T) (tt W) (tt R) c =
  some (tt ((pn c).foldl (ins mq) T),tt (if c.Kind=3 then ins ob W c.mV else W),tt (ins ni R c)):=by
 unfold yC
 rw [VV h]
 simp only [aA]
 have a:rj (decide ((0:Nat)≤1)&&decide ((1:Int)≤((c.Head::pn c).length:Int)))=some ():=by
  have:(1:Int)≤((c.Head::pn c).length:Int):=by simp; omega
  simp only [rj,this]
  rfl
 rw [a]
 simp only [aA,show Int.toNat 1=1 from rfl,List.drop_succ_cons,List.drop_zero]
 exact TW c W R _ T
theorem OI (A all:List lg) (wants:List lh) (z:∀c∈all,nH c=true):∀(l:List lg) (T:List lh) (W:List ByteArray) (R:List lg),(∀c∈l,c∈all)→BK all wants T W R→
  ∃T' W' R',rL A l (tt T) (tt W) (tt R)=some (tt T',tt W',tt R')∧BK all wants T' W' R'∧R.length≤R'.length∧(R'.length=R.length→T'=T∧W'=W∧R'=R∧∀c∈l,(c.Head∈T∨c.Head.Word∈W)→c∈R)
 | [],T,W,R,_,h=>⟨T,W,R,Z,h,aY _,λ_=>⟨Z,Z,Z,rv⟩⟩
 | c::l,T,W,R,y,h=>by
  rw [rL,I9]
  have J:=xx (beq:=ni) pH R c
  have M:=xx (beq:=mq) mw T c.Head
  have O:=xx (beq:=ob) oq W c.Head.Word
  have rest:(c∈R∨¬(c.Head∈T∨c.Head.Word∈W))→∃T' W' R',rL A l (tt T) (tt W) (tt R)=some (tt T',tt W',tt R')∧BK all wants T' W' R'∧R.length≤R'.length∧(R'.length=R.length→T'=T∧W'=W∧R'=R∧∀d∈c::l,(d.Head∈T∨d.Head.Word∈W)→d∈R):=by
   intro j
   obtain ⟨T',W',R',e,g1,g2,g3⟩:=OI A all wants z l T W R (λd hd=>y d (by simp [hd])) h
   refine ⟨T',W',R',e,g1,g2,λI=>?_⟩
   obtain ⟨P,a2,a3,a4⟩:=g3 I
   exact ⟨P,a2,a3,λd hd s=>by
    rcases aW.1 hd with rfl | hd
    ·rcases j with j | j
     ·exact j
     ·exact absurd s j
    ·exact a4 d hd s⟩
  by_cases x:c∈R
  ·rw [J.2 x]
   simp only [bM,aB,aK,aA]
   exact rest (.inl x)
  ·have i:ph ni R c=false:=by cases u:ph ni R c with | false=>rfl | true=>exact absurd (J.1 u) x
   rw [i]
   simp only [fy,aR,BH,I9]
   by_cases a:c.Head∈T∨c.Head.Word∈W
   ·have g:((if ph mq T c.Head=true then some true else some (ph ob W c.Head.Word)):Option Bool)=some true:=by
     rcases a with a | a
     ·rw [M.2 a]; rfl
     ·rw [O.2 a]; cases ph mq T c.Head <;> rfl
    rw [g]
    simp only [aA,aR]
    have q:=z c (y c rv)
    rw [aaC q]
    simp only [aA]
    have t:ins ni R c=R++[c]:=by unfold ins; rw [i]; rfl
    rw [t]
    have Y:(pn c).length≤2:=by unfold pn; split <;> (try split) <;> simp
    have v:=h.add (y c rv) q x a (T':=(pn c).foldl (ins mq) T) (W':=if c.Kind=3 then ins ob W c.mV else W) (λr=>yk _ _ _) (λw=>by
     by_cases k:c.Kind=3
     ·simp only [k,aR,true_and]; exact Ua oq W c.mV w
     ·simp [k]) (by have:=DP (pn c) T; omega) (by
     by_cases k:c.Kind=3
     ·simp only [k,aR]; exact (NV W c.mV).1
     ·simp [k])
    obtain ⟨T',W',R',e,g1,g2,g3⟩:=OI A all wants z l _ _ _ (λd hd=>y d (by simp [hd])) v
    simp at g2
    exact ⟨T',W',R',e,g1,rs,λI=>by omega⟩
   ·have Q:ph mq T c.Head=false:=by cases u:ph mq T c.Head with | false=>rfl | true=>exact absurd (.inl (M.1 u)) a
    have U:ph ob W c.Head.Word=false:=by cases u:ph ob W c.Head.Word with | false=>rfl | true=>exact absurd (.inr (O.1 u)) a
    rw [Q,U]
    simp only [aB,aK,aA]
    exact rest (.inr a)
theorem TT (all:List lg) (wants:List lh) (d:∀c∈all,nH c=true):∀(n:Nat) (x:Int) (T:List lh) (W:List ByteArray) (R:List lg),(all.length:Int) < n+x→BK all wants T W R→x≤R.length→(x=R.length→OB all T W R)→
  ∃T' W' R',tg all n x (tt T) (tt W) (tt R)=some (tt T',tt W',tt R')∧BK all wants T' W' R'∧OB all T' W' R'
 | 0,x,T,W,R,i,h,j,_=>by have:=h.lR; omega
 | n+1,x,T,W,R,i,h,j,g=>by
  rw [tg,KC]
  by_cases a:x < R.length
  ·rw [aO (by simpa using a)]
   obtain ⟨T',W',R',e,g1,g2,g3⟩:=OI all all wants d all T W R (λ_ h=>h) h
   rw [e]
   simp only [aA]
   refine TT all wants d n R.length T' W' R' rs g1 rs (λhe=>?_)
   obtain ⟨rfl,rfl,rfl,a4⟩:=g3 rs
   exact a4
  ·rw [aH (by simpa using a)]
   exact ⟨T,W,R,Z,h,g rs⟩
theorem TG (all:List lg) (W:List ByteArray) (R:List lg):∀(ws T:List lh),rK all (tt W) (tt R) ws (tt T)=rK all (tt W) (tt R) [] (tt (ws.foldl (ins mq) T))
 | [],T=>rfl
 | w::ws,T=>by
  show rK all (tt W) (tt R) ws (pO mq (tt T) w true)=_
  rw [IP mw,TG all W R ws]
  rfl
theorem AO.mono {all:List lg} {wants a:List lh} (hw:∀r∈wants,r∈a) {x:lh ⊕ ByteArray ⊕ lg} (h:AO all wants x):AO all a x:=by
 induction h with
 | want r g=>exact .want r (hw r g)
 | UQ c d _ ih=>exact .UQ c d ih
 | VD c d _ ih=>exact .VD c d ih
 | Oh c _ hk ih=>exact .Oh c ih hk
 | PL c _ hk ih=>exact .PL c ih hk
 | PN c _ hk ih=>exact .PN c ih hk
theorem Z7 (all:List lg) (a:∀c∈all,nH c=true) (q:all.length≤100000000) (wants b:List lh) (j:b.length≤1000000000) {T:List lh} {W:List ByteArray} {R:List lg} (h:BK all wants T W R) :
  ∃s T' W' R',sa b s∧BK all (wants++s) T' W' R'∧OB all T' W' R'∧wK all (tt T) (tt W) (tt R) b=some ((R'.length:Int)-R.length,tt T',tt W',tt R'):=by
 obtain ⟨s,h1,g⟩:=Jz b j
 have i:BK all (wants++s) (s.foldl (ins mq) T) W R:=by
  have hm:∀{x},AO all wants x→AO all (wants++s) x:=λk=>k.mono (λr a=>bY _ a)
  refine ⟨λr a=>?_,λw hw=>hm (h.sW w hw),λc d=>hm (h.sR c d),λr a=>?_,h.sub,h.nd,λc d hk=>?_,λc d hk=>?_,h.PN,?_,h.lW⟩
  ·rcases (yk s T r).1 a with a | a
   ·exact hm (h.sT r a)
   ·exact .want r (dr _ a)
  ·rcases bE.1 a with a | a
   ·exact (yk s T r).2 (.inl (h.want r a))
   ·exact (yk s T r).2 (.inr a)
  ·exact (yk s T _).2 (.inl (h.Oh c d hk))
  ·exact (yk s T _).2 (.inl (h.PL c d hk))
  ·have:=h.lT
   have:=DP s T
   simp; omega
 obtain ⟨T',W',R',e,g1,g2⟩:=TT all (wants++s) a mZ (-1) _ W R (by rw [yP]; omega) i rs (λhe=>by omega)
 refine ⟨s,T',W',R',g,g1,g2,?_⟩
 unfold wK
 rw [h1]
 simp only [aA]
 rw [TG,rK,e]
 simp only [aA,KC]
 have:=g1.lR
 have:=h.lR
 rw [mM rs rs]
theorem aaL (l:List lg) (a:List lh) (j:l.length≤100000000) (ha:a.length≤1000000000):∃all s T W R,xO l all∧sa a s∧BK all s T W R∧OB all T W R∧Fw l a=some (all,tt T,tt W,tt R):=by
 obtain ⟨all,h1,g⟩:=H3 l rs
 have i:=uy Eh g
 obtain ⟨s,T,W,R,g1,g2,g3,g4⟩:=Z7 all (λc h=>((g.2 c).1 h).2) rs [] a ha (T:=[]) (W:=[]) (R:=[]) ⟨rv,rv,rv,rv,rv,rv,rv,rv,rv,rv,rv⟩
 refine ⟨all,s,T,W,R,g,g1,by simpa using g2,g3,?_⟩
 unfold Fw
 rw [h1]
 simp only [aA]
 have d:wK all [] [] [] a=_:=g4
 rw [d]
 rfl
theorem zm.congr {α:Type} {lt:α→α→Prop} {P:α→Prop} {l m s:List α} (h:zm lt P l s) (hm:∀x,x∈l↔x∈m):zm lt P m s:=⟨h.1,λx=>by rw [h.2,hm]⟩
theorem aaa {κ:Type} (ks:List κ):(tt ks).map (·.1)=ks:=by simp [tt,jP]
theorem SH {l all:List lg} (h:xO l all) (i:all.length≤100000000) (T:List (lh×Bool)) (W:List (ByteArray×Bool)) (R:List lg) (d:∀c∈R,c∈all) {s:List lg} (g:xO R s):xF all T W (tt R)=some s:=by
 unfold xF
 rw [KR rs]
 simp only [aA]
 rw [Jw,Ce _ (λc=>!ph ni R c) zC all rs (λc _=>by simp [yy,I9])]
 simp only [aA,fg]
 have:xO R (all.filter λc=>ph ni R c):=by
  refine ⟨h.1.filter _,λx=>?_⟩
  rw [cR,xx pH]
  constructor
  ·rintro ⟨h1,a⟩; exact ⟨a,((h.2 x).1 h1).2⟩
  ·rintro ⟨h1,a⟩; exact ⟨d x h1,h1⟩
 rw [zm.unique Eh this g]
def DK (c:lg):Nat:=c.Head.lu.size+c.Head.Word.size+c.nj.size+c.B.lu.size+c.B.Word.size+c.C.lu.size+c.C.Word.size+c.mV.size
theorem AO.congr {all:List lg} {w g:List lh} (h:∀r,r∈w↔r∈g) (x:lh ⊕ ByteArray ⊕ lg):AO all w x↔AO all g x:=⟨λd=>d.mono λr a=>(h r).1 a,λd=>d.mono λr a=>(h r).2 a⟩
section
variable {κ γ:Type} {beq:κ→κ→Bool}
theorem wy (a:∀{x y},beq x y=true↔x=y) {A B:List (κ×γ)} {k:κ} {x:γ} (d:∀p∈A,p.1≠k):nv beq (A++(k,x)::B) k=some x:=by
 unfold nv
 rw [ki]
 have:A.find? (λp=>beq k p.1)=none:=fz.2 (λp hp h=>d p hp (a.1 h).symm)
 rw [this]
 simp [a.2 (rfl:k=k)]
theorem AH (a:∀{x y},beq x y=true↔x=y) {l:List (κ×γ)} {k:κ} (h:∀p∈l,p.1≠k):nv beq l k=none:=by
 unfold nv
 rw [fz.2 λp hp d=>h p hp (a.1 d).symm]
 rfl
theorem CN (a:∀{x y},beq x y=true↔x=y) {A B:List (κ×γ)} {k:κ} {x y:γ} (d:∀p∈A,p.1≠k):pO beq (A++(k,x)::B) k y=A++(k,y)::B:=by
 have h1:(A++(k,x)::B).findIdx? (λp=>beq k p.1)=some A.length:=by
  rw [iK,gM.2 (λp hp=>by
   cases h:beq k p.1 with
   | false=>rfl
   | true=>exact absurd (a.1 h).symm (d p hp))]
  simp [fw,a.2 (rfl:k=k)]
 rw [wI h1]
 simp
theorem GP (a:∀{x y},beq x y=true↔x=y) {l:List (κ×γ)} {k:κ} {y:γ} (h:∀p∈l,p.1≠k):pO beq l k y=l++[(k,y)]:=by
 refine AP (gM.2 λp hp=>?_) y
 cases d:beq k p.1 with
 | false=>rfl
 | true=>exact absurd (a.1 d).symm (h p hp)
theorem zL (k:κ):∀(l:List (κ×γ)),(∀p∈l,p.1≠k)∨∃A x B,l=A++(k,x)::B∧∀p∈A,p.1≠k
 | []=>.inl (λ_ h=>by cases h)
 | p::l=>by
  by_cases hp:p.1=k
  ·exact .inr ⟨[],p.2,l,by rw [←hp]; rfl,λ_ h=>by cases h⟩
  ·rcases zL k l with h | ⟨A,x,B,rfl,h⟩
   ·exact .inl (λq a=>by rcases aW.1 a with rfl | a; exact hp; exact h q a)
   ·exact .inr ⟨p::A,x,B,Z,λq a=>by rcases aW.1 a with rfl | a; exact hp; exact h q a⟩
theorem M3 (a:∀{x y},beq x y=true↔x=y) (A B:List (κ×γ)) (k:κ):nv beq (A++B) k=(nv beq A k).or (nv beq B k):=by
 unfold nv
 rw [ki]
 cases A.find? (λp=>beq k p.1) <;> rfl
theorem FR (p:κ×γ) (l:List (κ×γ)) (k:κ):nv beq (p::l) k=if beq k p.1=true then some p.2 else nv beq l k:=by
 unfold nv
 rw [gj]
 cases beq k p.1 <;> simp
theorem KF (a:∀{x y},beq x y=true↔x=y) (l:List (κ×γ)) (k k2:κ) (y:γ):nv beq (pO beq l k y) k2=if beq k2 k=true then some y else nv beq l k2:=by
 rcases zL k l with h | ⟨A,x,B,rfl,h⟩
 ·rw [GP a h,M3 a,FR]
  by_cases hk:beq k2 k=true
  ·have:=a.1 hk
   subst this
   rw [aO hk,aO hk,AH a h]; rfl
  ·rw [aH hk,aH hk]
   show (nv beq l k2).or none=_
   cases nv beq l k2 <;> rfl
 ·rw [CN a h,M3 a,FR,M3 a,FR]
  by_cases hk:beq k2 k=true
  ·have:=a.1 hk
   subst this
   rw [aO hk,aO hk,AH a h]; rfl
  ·rw [aH hk,aH hk,aH hk]
end
abbrev uH:=List (lh×List ByteArray)
def mm (T:uH):List (lh×List (ByteArray×Bool)):=T.map λp=>(p.1,tt p.2)
def xo (T:uH) (r:lh):List ByteArray:=(nv mq T r).getD []
def FS (T:uH):List mT:=T.flatMap λp=>p.2.map λw=>(⟨p.1,w⟩:mT)
def KK (T:uH) (r:lh) (w:ByteArray):uH:=pO mq T r (xo T r++[w])
theorem Kh (A B:uH):mm (A++B)=mm A++mm B:=by simp [mm]
theorem E5 {A:uH} {r:lh} (h:∀p∈A,p.1≠r):∀p∈mm A,p.1≠r:=by
 intro p hp
 simp only [mm,bT] at hp
 obtain ⟨q,a,rfl⟩:=hp
 exact h q a
theorem ZU (T:uH) (r:lh):nv mq (mm T) r=(nv mq T r).map tt:=by
 rcases zL r T with h | ⟨A,x,B,rfl,h⟩
 ·rw [AH mw h,AH mw (E5 h)]; rfl
 ·rw [wy mw h,Kh]
  exact wy mw (E5 h)
theorem Uu (T:uH) (r:lh):(nv mq (mm T) r).getD []=tt (xo T r):=by
 rw [ZU,xo]; cases nv mq T r <;> rfl
theorem N2 (T:uH) (r:lh) (w:ByteArray):(FS (KK T r w)).Perm (FS T++[(⟨r,w⟩:mT)]):=by
 unfold KK xo
 rcases zL r T with h | ⟨A,x,B,rfl,h⟩
 ·rw [GP mw h,AH mw h]
  simp [FS]
 ·rw [CN mw h,wy mw h]
  simp only [FS,jb,gy,iB,cL,bQ,ga,aP]
  refine cH _ (cH _ ?_)
  exact dV
theorem Yt {T:uH} (hk:(T.map (·.1)).Nodup) (r:lh) (w:ByteArray):((KK T r w).map (·.1)).Nodup:=by
 unfold KK
 rcases zL r T with h | ⟨A,x,B,rfl,h⟩
 ·rw [GP mw h]
  simp only [cL,bQ,ga]
  refine cE.2 ⟨hk,rv,λa ha b d e=>?_⟩
  simp at d; subst d; subst e
  obtain ⟨p,hp,e⟩:=bT.1 ha
  exact h p hp e
 ·rw [CN mw h]
  simpa using hk
theorem Ho {T:uH} (hk:(T.map (·.1)).Nodup) (f:mT):f∈FS T↔f.nj∈xo T f.lh:=by
 simp only [FS,kD,bT]
 constructor
 ·rintro ⟨p,hp,w,hw,rfl⟩
  obtain ⟨A,B,rfl⟩:=List.append_of_mem hp
  have a:∀q∈A,q.1≠p.1:=λq g e=>by
   rw [cL,bQ] at hk
   exact (cE.1 hk).2.2 q.1 (bT.2 ⟨q,g,Z⟩) p.1 rv e
  rw [xo,show p=(p.1,p.2) from rfl,wy mw a]
  exact hw
 ·intro h
  unfold xo at h
  rcases zL f.lh T with d | ⟨A,x,B,rfl,a⟩
  ·rw [AH mw d] at h; cases h
  ·rw [wy mw a] at h
   exact ⟨(f.lh,x),rv,f.nj,h,Z⟩
theorem SR {T:uH} (h:(FS T).Nodup) (r:lh):(xo T r).Nodup:=by
 unfold xo
 rcases zL r T with d | ⟨A,x,B,rfl,a⟩
 ·rw [AH mw d]; simp
 ·rw [wy mw a]
  simp only [FS,jb,gy] at h
  have h1:=(cE.1 (cE.1 h).2.1).1
  simp only [List.Nodup,fI] at h1
  exact h1.imp (λh e=>h (by rw [e]))
inductive xZ (C:List lg):mT→Prop
 | mem c:c∈C→c.Kind=1→xZ C ⟨c.Head,c.nj⟩
 | inc (c w):c∈C→c.Kind=2→xZ C ⟨c.B,w⟩→xZ C ⟨c.Head,w⟩
 | Q7 (c b w):c∈C→c.Kind=3→xZ C ⟨c.B,b⟩→xZ C ⟨⟨b,c.mV⟩,w⟩→xZ C ⟨c.Head,w⟩
 | both (c w):c∈C→c.Kind=4→xZ C ⟨c.B,w⟩→xZ C ⟨c.C,w⟩→xZ C ⟨c.Head,w⟩
theorem xZ.mono {C C':List lg} (h:∀c∈C,c∈C') {f:mT} (i:xZ C f):xZ C' f:=by
 induction i with
 | mem c a hk=>exact .mem c (h c a) hk
 | inc c w a hk _ ih=>exact .inc c w (h c a) hk ih
 | Q7 c b w a hk _ _ d g=>exact .Q7 c b w (h c a) hk d g
 | both c w a hk _ _ d g=>exact .both c w (h c a) hk d g
def R5 (C:List lg):List mT:=(C.map (·.Head)).flatMap λr=>(C.map (·.nj)).map λw=>(⟨r,w⟩:mT)
theorem Vm (C:List lg):(R5 C).length=C.length*C.length:=by
 unfold R5
 have:∀l:List lh,(l.flatMap λr=>(C.map (·.nj)).map λw=>(⟨r,w⟩:mT)).length=l.length*C.length:=λl=>by
  induction l with
  | nil=>simp
  | cons x l ih=>simp only [gy,aC,ih,eB,aG,cZ]; omega
 rw [this,eB]
theorem aax {C:List lg} {r:lh} {w:ByteArray}:(⟨r,w⟩:mT)∈R5 C↔(∃c∈C,c.Head=r)∧∃c∈C,c.nj=w:=by
 unfold R5
 simp only [kD,bT,mT.mk.injEq]
 constructor
 ·rintro ⟨h,⟨c,g,rfl⟩,i,⟨d,a,rfl⟩,rfl,rfl⟩; exact ⟨⟨c,g,Z⟩,d,a,Z⟩
 ·rintro ⟨⟨c,g,rfl⟩,d,a,rfl⟩; exact ⟨_,⟨c,g,Z⟩,_,⟨d,a,Z⟩,Z,Z⟩
theorem xZ.Tl {C:List lg} {f:mT} (h:xZ C f):∃c∈C,c.Kind=1∧c.nj=f.nj:=by
 induction h with
 | mem c g hk=>exact ⟨c,g,hk,Z⟩
 | inc c w g hk _ ih=>exact ih
 | Q7 c b w g hk _ _ a d=>exact d
 | both c w g hk _ _ a d=>exact a
theorem xZ.head {C:List lg} {f:mT} (h:xZ C f):∃c∈C,c.Head=f.lh:=by
 cases h with
 | mem c a hk=>exact ⟨c,a,Z⟩
 | inc c w a hk _=>exact ⟨c,a,Z⟩
 | Q7 c b w a hk _ _=>exact ⟨c,a,Z⟩
 | both c w a hk _ _=>exact ⟨c,a,Z⟩
theorem xZ.R5 {C:List lg} {f:mT} (h:xZ C f):f∈R5 C:=by
 obtain ⟨c,a,_,hw⟩:=h.Tl
 exact aax.2 ⟨h.head,c,a,hw⟩
structure vH (C:List lg) (T:uH) (td:List mT) (n:Int):Prop where
 keys:(T.map (·.1)).Nodup
 nd:(FS T).Nodup
 Tq:td.Nodup
 sub:∀f∈td,f∈FS T
 num:n=(FS T).length
 IM:∀f∈FS T,xZ C f
theorem vH.len {C:List lg} {T:uH} {d:List mT} {n:Int} (h:vH C T d n):(FS T).length≤C.length*C.length:=by
 rw [←Vm]; exact rZ h.nd (λf a=>(h.IM f a).R5)
theorem vH.abR {C:List lg} {T:uH} {a:List mT} {n:Int} (h:vH C T a n):a.length≤(FS T).length:=rZ h.Tq h.sub
theorem vH.mono {C C':List lg} {T:uH} {a:List mT} {n:Int} (h:vH C T a n) (d:∀c∈C,c∈C'):vH C' T a n:=⟨h.keys,h.nd,h.Tq,h.sub,h.num,λf g=>(h.IM f g).mono d⟩
structure FX (T:uH) (td:List mT) (T':uH) (td':List mT):Prop where
 oJ:∀f∈FS T,f∈FS T'
 todo:∀f∈td,f∈td'
 new:∀f∈FS T',f∈FS T∨f∈td'
 fresh:∀f∈td',f∈td∨f∉FS T
theorem FX.refl (T:uH) (a:List mT):FX T a T a:=⟨λ_ h=>h,λ_ h=>h,λ_ h=>.inl h,λ_ h=>.inl h⟩
theorem FX.trans {T T' T'':uH} {j i a:List mT} (h:FX T j T' i) (k:FX T' i T'' a):FX T j T'' a :=
 ⟨λf d=>k.oJ f (h.oJ f d),λf d=>k.todo f (h.todo f d),λf d=>by
  rcases k.new f d with h1 | h1
  ·rcases h.new f h1 with g | g
   ·exact .inl g
   ·exact .inr (k.todo f g)
  ·exact .inr h1,λf d=>by
  rcases k.fresh f d with h1 | h1
  ·exact h.fresh f h1
  ·exact .inr (λg=>h1 (h.oJ f g))⟩
theorem Oq {α:Type} (p:α→Bool):∀l:List α,(l.filter p).length+(l.filter λx=>!p x).length=l.length
 | []=>rfl
 | x::l=>by
  have:=Oq p l
  cases h:p x <;> simp [h] <;> omega
theorem vH.cnt {C C':List lg} {T T':uH} {i d:List mT} {n t:Int} (j:vH C' T' d t) (g:vH C T i n) (x:FX T i T' d):d.length+(FS T).length≤i.length+(FS T').length:=by
 classical
 have h1:(d.filter λf=>decide (f∈FS T)).length≤i.length:=rZ (j.Tq.filter _) (λf k=>by
  have:=cR.1 k
  rcases x.fresh f this.1 with h | h
  ·exact h
  ·exact absurd (by simpa using this.2) h)
 have q:(FS T++d.filter λf=>!decide (f∈FS T)).length≤(FS T').length:=rZ (cE.2 ⟨g.nd,j.Tq.filter _,λa ha b s e=>by
  subst e
  have:=(cR.1 s).2
  simp [ha] at this⟩) (λf k=>by
  rcases bE.1 k with h | h
  ·exact x.oJ f h
  ·exact j.sub f (cR.1 h).1)
 have u:(d.filter λf=>decide (f∈FS T)).length+(d.filter λf=>!decide (f∈FS T)).length=d.length:=by
  exact Oq (λf=>decide (f∈FS T)) d
 rw [aC] at q
 omega
def Ib (C:List lg) (T:uH) (h:List mT) (d:Option (List (lh×List (ByteArray×Bool))×List mT×Int)) (Q:uH→Prop):Prop :=
 ∃T' a g,d=some (mm T',a,g)∧vH C T' a g∧FX T h T' a∧Q T'
theorem Ib.mono {C:List lg} {T:uH} {i:List mT} {a:Option (List (lh×List (ByteArray×Bool))×List mT×Int)} {Q Q':uH→Prop} (h:Ib C T i a Q) (q:∀T',(∀f∈FS T,f∈FS T')→Q T'→Q' T'):Ib C T i a Q':=by
 obtain ⟨T',d,s,h1,j,g,k⟩:=h
 exact ⟨T',d,s,h1,j,g,q T' g.oJ k⟩
def zi (C:List lg):Prop:=C.length≤1000000
theorem zi.sq {C:List lg} (h:zi C):C.length*C.length≤1000000000000:=Nat.mul_le_mul h h
theorem yA {T:uH} (hk:(T.map (·.1)).Nodup) (r:lh) (w:ByteArray):zW ob ((nv mq (mm T) r).getD []) w false=true↔(⟨r,w⟩:mT)∈FS T:=by
 rw [Uu,I9,xx oq,Ho hk]
theorem II {C:List lg} (I:zi C) {T:uH} {k:List mT} {n:Int} (h:vH C T k n) (cs:List lg) (Q:List (lh×List lg)) (ws:List (ByteArray×List lg)) {r:lh} {w:ByteArray} (hd:xZ C ⟨r,w⟩) :
  Ib C T k (rX (mm T) cs Q ws k n r w) (λT'=>(⟨r,w⟩:mT)∈FS T'):=by
 unfold rX
 have M:=I.sq
 have U:=h.len
 have O:=h.abR
 by_cases g:(⟨r,w⟩:mT)∈FS T
 ·rw [aO ((yA h.keys r w).2 g)]
  exact ⟨T,k,n,Z,h,FX.refl _ _,g⟩
 ·rw [aH λv=>g ((yA h.keys r w).1 v)]
  have J:vH C (KK T r w) (k++[⟨r,w⟩]) (n+1):=by
   have hp:=N2 T r w
   refine ⟨Yt h.keys r w,hp.nodup_iff.2 (cE.2 ⟨h.nd,rv,λa ha b s e=>?_⟩),cE.2 ⟨h.Tq,rv,λa ha b s e=>?_⟩,λf d=>hp.mem_iff.2 ?_,?_,λf d=>?_⟩
   ·simp at s; subst s; subst e; exact g ha
   ·simp at s; subst s; subst e; exact g (h.sub _ ha)
   ·rcases bE.1 d with d | d
    ·exact bY _ (h.sub f d)
    ·exact dr _ d
   ·rw [hp.length_eq,h.num]; simp
   ·rcases bE.1 (hp.mem_iff.1 d) with d | d
    ·exact h.IM f d
    ·simp at d; subst d; exact hd
  have y:((if (nv mq (mm T) r).isNone=true then (JT mq (mm T) r []).bind λl=>some l else some (mm T)):Option _).bind (λl=>MU mq ob l r w true)=some (mm (KK T r w)):=by
   unfold KK xo
   rcases zL r T with j | ⟨A,x,B,rfl,u⟩
   ·have t:=AH mw (E5 j)
    rw [t,AH mw j,GP mw j,Kh]
    simp only [ju,aR,JT,t,aA]
    rw [GP mw (E5 j)]
    unfold MU
    rw [wy mw (E5 j)]
    simp only [ep]
    rw [CN mw (E5 j)]
    rfl
   ·have q:=E5 u
    have z:nv mq (mm (A++(r,x)::B)) r=some (tt x):=by rw [Kh]; exact wy mw q
    rw [z,wy mw u,CN mw u]
    simp only [Option.isNone_some,aB,aK,aA,MU,z,ep,iB]
    have P:w∉x:=λhw=>g (by
     rw [Ho h.keys,xo,wy mw u]; exact hw)
    rw [IP oq]
    rw [show ins ob x w=x++[w] from by unfold ins; rw [aH λv=>P ((xx oq x w).1 v)]]
    rw [Kh,show mm ((r,x)::B)=(r,tt x)::mm B from rfl,CN mw q,Kh]
    rfl
  refine ⟨KK T r w,k++[⟨r,w⟩],n+1,?_,J,⟨λf d=>(N2 T r w).mem_iff.2 (bY _ d),λf d=>bY _ d,λf d=>?_,λf d=>?_⟩,(N2 T r w).mem_iff.2 rv⟩
  ·have i:=y
   generalize ((if (nv mq (mm T) r).isNone=true then (JT mq (mm T) r []).bind λl=>some l else some (mm T)):Option _)=o at i
   cases o with
   | none=>cases i
   | some l=>
    simp only [aA] at i ⊢
    rw [i]
    simp only [aA]
    rw [od ss ss]
    simp only [aA]
    rw [mM (by rw [h.num]; omega) (by rw [h.num]; omega)]
  ·rcases bE.1 ((N2 T r w).mem_iff.1 d) with h1 | h1
   ·exact .inl h1
   ·exact .inr (dr _ h1)
  ·rcases bE.1 d with h1 | h1
   ·exact .inl h1
   ·simp at h1; subst h1; exact .inr g
theorem Fp (l:List ByteArray) (x:ByteArray):x∈AK l↔x∈l:=by unfold AK; simp
def B5 (C:List lg):Prop:=∀c∈C,nH c=true
theorem Xi {c:lg} (h:nH c=true) (hk:c.Kind=1):c.nj.size≤16:=by
 rcases uq h with h | h | h | h
 ·exact (uJ h.2.1).2
 ·exact absurd (hk.symm.trans h.1) tc
 ·exact absurd (hk.symm.trans h.1) tc
 ·exact absurd (hk.symm.trans h.1) tc
theorem Yc {T:uH} (r:lh) (hk:(T.map (·.1)).Nodup):(xo T r).length≤(FS T).length:=by
 unfold xo
 rcases zL r T with d | ⟨A,x,B,rfl,a⟩
 ·rw [AH mw d]; simp
 ·rw [wy mw a]
  simp only [FS,jb,gy,aC,eB,iB]
  omega
theorem N3 {C:List lg} (a:zi C) (d:B5 C) {T:uH} {i:List mT} {n:Int} (h:vH C T i n) (cs:List lg) (j:List (lh×List lg)) (ws:List (ByteArray×List lg)) (q:List mT) (z:Int) (r:lh) :
  vX (mm T) cs j ws q z r=some (AK (xo T r)):=by
 unfold vX tI
 rw [Uu]
 simp only [aA,tN]
 have t:=Yc r h.keys
 have k:=h.len
 have s:=a.sq
 unfold Nw
 rw [aaa,aO]
 refine ⟨SR h.nd r,λp hp=>?_,by rw [KC]; omega⟩
 simp only [tt,bT] at hp
 obtain ⟨w,hw,rfl⟩:=hp
 have hd:=h.IM ⟨r,w⟩ ((Ho h.keys ⟨r,w⟩).2 hw)
 obtain ⟨c,g,hk,e⟩:=hd.Tl
 have:=Xi (d c g) hk
 simp only at e ⊢
 rw [←e]
 unfold maxLen
 omega
theorem V1 {C:List lg} (j:zi C) (cs:List lg) (i:List (lh×List lg)) (ws:List (ByteArray×List lg)) (head:lh):∀(l:List ByteArray) {T:uH} {a:List mT} {n:Int},vH C T a n→(∀w∈l,xZ C ⟨head,w⟩)→
  Ib C T a (vm cs i ws head l (mm T) a n) (λT'=>∀w∈l,(⟨head,w⟩:mT)∈FS T')
 | [],T,a,n,h,_=>⟨T,a,n,Z,h,FX.refl _ _,λ_ hw=>by cases hw⟩
 | w::l,T,a,n,h,hd=>by
  rw [vm]
  obtain ⟨T1,s,n1,k,g1,x1,q1⟩:=II j h cs i ws (hd w rv)
  rw [k]
  simp only [aA]
  obtain ⟨T2,g,n2,q,g2,x2,q2⟩:=V1 j cs i ws head l g1 (λw hw=>hd w (by simp [hw]))
  refine ⟨T2,g,n2,q,g2,x1.trans x2,λv d=>?_⟩
  rcases aW.1 d with rfl | d
  ·exact x2.oJ _ q1
  ·exact q2 v d
theorem aaV {C:List lg} (d:zi C) (i:B5 C) {T:uH} {a:List mT} {n:Int} (h:vH C T a n) (cs:List lg) (g:List (lh×List lg)) (ws:List (ByteArray×List lg)) (r head:lh) (hd:∀w,(⟨r,w⟩:mT)∈FS T→xZ C ⟨head,w⟩) :
  Ib C T a (zn (mm T) cs g ws a n r head) (λT'=>∀w,(⟨r,w⟩:mT)∈FS T→(⟨head,w⟩:mT)∈FS T'):=by
 unfold zn
 rw [N3 d i h]
 simp only [aA]
 refine (V1 d cs g ws head _ h λw hw=>hd w ((Ho h.keys ⟨r,w⟩).2 ((Fp _ _).1 hw))).mono (λT' _ j w hw=>j w ((Fp _ _).2 ((Ho h.keys ⟨r,w⟩).1 hw)))
def Lg (c:lg) (f:mT) (T T':uH):Prop :=
 (c.Kind=2→f.lh=c.B→(⟨c.Head,f.nj⟩:mT)∈FS T')∧
 (c.Kind=3→f.lh=c.B→∀w,(⟨⟨f.nj,c.mV⟩,w⟩:mT)∈FS T→(⟨c.Head,w⟩:mT)∈FS T')∧
 (c.Kind=4→(⟨c.B,f.nj⟩:mT)∈FS T→(⟨c.C,f.nj⟩:mT)∈FS T→(⟨c.Head,f.nj⟩:mT)∈FS T')
theorem Lg.mono {c:lg} {f:mT} {T T' T0 T1:uH} (h:Lg c f T T') (g:∀f∈FS T0,f∈FS T) (h1:∀f∈FS T',f∈FS T1):Lg c f T0 T1 :=
 ⟨λa b=>h1 _ (h.1 a b),λa b w hw=>h1 _ (h.2.1 a b w (g _ hw)),λa b d=>h1 _ (h.2.2 a (g _ b) (g _ d))⟩
theorem Zx (x:Option (List (lh×List (ByteArray×Bool))×List mT×Int)):(x.bind λr=>some (r.1,r.2.1,r.2.2))=x:=by cases x <;> rfl
theorem V3 {C:List lg} (u:zi C) (J:B5 C) {T:uH} {j:List mT} {n:Int} (h:vH C T j n) (cs:List lg) (s:List (lh×List lg)) (ws:List (ByteArray×List lg)) {c:lg} (v:c∈C) {f:mT} (z:f∈FS T) (I:f.lh∈pn c) :
  Ib C T j (xf (mm T) cs s ws j n c f) (Lg c f T):=by
 unfold xf
 simp only [Zx,YV]
 by_cases a:c.Kind=2
 ·have t:f.lh=c.B:=by simpa [pn,a] using I
  rw [aO (by simp [a])]
  have hd:xZ C ⟨c.Head,f.nj⟩:=.inc c f.nj v a (by rw [←t]; exact h.IM f z)
  refine (II u h cs s ws hd).mono (λT' _ i=>⟨λ_ _=>i,λk=>absurd (a.symm.trans k) tc,λk=>absurd (a.symm.trans k) tc⟩)
 rw [aH (by simp [a])]
 by_cases d:c.Kind=3
 ·have t:f.lh=c.B:=by simpa [pn,d] using I
  rw [aO (by simp [d])]
  refine (aaV u J h cs s ws ⟨f.nj,c.mV⟩ c.Head λw hw=>.Q7 c f.nj w v d (by rw [←t]; exact h.IM f z) (h.IM _ hw)).mono (λT' _ i=>⟨λk=>absurd k a,λ_ _ w hw=>i w hw,λk=>absurd (d.symm.trans k) tc⟩)
 rw [aH (by simp [d])]
 by_cases q:c.Kind=4
 ·rw [aO (by simp [q])]
  simp only [aA]
  by_cases g:(⟨c.B,f.nj⟩:mT)∈FS T∧(⟨c.C,f.nj⟩:mT)∈FS T
  ·rw [aO (by rw [bI,yA h.keys,yA h.keys]; exact g)]
   have hd:xZ C ⟨c.Head,f.nj⟩:=.both c f.nj v q (h.IM _ g.1) (h.IM _ g.2)
   exact (II u h cs s ws hd).mono (λT' _ i=>⟨λk=>absurd k a,λk=>absurd k d,λ_ _ _=>i⟩)
  ·rw [aH (by rw [bI,yA h.keys,yA h.keys]; exact g)]
   exact ⟨T,j,n,Z,h,FX.refl _ _,λk=>absurd k a,λk=>absurd k d,λ_ x y=>absurd ⟨x,y⟩ g⟩
 ·rw [aH (by simp [q])]
  exact ⟨T,j,n,Z,h,FX.refl _ _,λk=>absurd k a,λk=>absurd k d,λk=>absurd k q⟩
theorem Q8 {C:List lg} (j:zi C) (k:B5 C) (cs:List lg) (i:List (lh×List lg)) (ws:List (ByteArray×List lg)) {c:lg} (q:c∈C) (s:c.B∈pn c):∀(l:List ByteArray) {T:uH} {a:List mT} {n:Int},vH C T a n→(∀w∈l,(⟨c.B,w⟩:mT)∈FS T)→
  Ib C T a (uu cs i ws c l (mm T) a n) (λT'=>∀w∈l,Lg c ⟨c.B,w⟩ T T')
 | [],T,a,n,h,_=>⟨T,a,n,Z,h,FX.refl _ _,λ_ hw=>by cases hw⟩
 | w::l,T,a,n,h,hm=>by
  rw [uu]
  obtain ⟨T1,x,n1,t,g1,x1,q1⟩:=V3 j k h cs i ws q (f:=⟨c.B,w⟩) (hm w rv) s
  rw [t]
  simp only [aA]
  obtain ⟨T2,g,n2,u,g2,x2,q2⟩:=Q8 j k cs i ws q s l g1 (λw hw=>x1.oJ _ (hm w (by simp [hw])))
  refine ⟨T2,g,n2,u,g2,x1.trans x2,λv d=>?_⟩
  rcases aW.1 d with rfl | d
  ·exact q1.mono (λ_ h=>h) x2.oJ
  ·exact (q2 v d).mono x1.oJ (λ_ h=>h)
def L8 (c:lg) (T:uH) (a:List mT):Prop :=
 (c.Kind=1→(⟨c.Head,c.nj⟩:mT)∈FS T)∧
 (c.Kind=2→∀w,(⟨c.B,w⟩:mT)∈FS T→(⟨c.B,w⟩:mT)∉a→(⟨c.Head,w⟩:mT)∈FS T)∧
 (c.Kind=3→∀b w,(⟨c.B,b⟩:mT)∈FS T→(⟨c.B,b⟩:mT)∉a→(⟨⟨b,c.mV⟩,w⟩:mT)∈FS T→(⟨⟨b,c.mV⟩,w⟩:mT)∉a→(⟨c.Head,w⟩:mT)∈FS T)∧
 (c.Kind=4→∀w,(⟨c.B,w⟩:mT)∈FS T→(⟨c.B,w⟩:mT)∉a→(⟨c.C,w⟩:mT)∈FS T→(⟨c.C,w⟩:mT)∉a→(⟨c.Head,w⟩:mT)∈FS T)
theorem L8.ext {c:lg} {T T':uH} {i d:List mT} (h:L8 c T i) (x:FX T i T' d):L8 c T' d:=by
 have oJ:∀f,f∈FS T'→f∉d→f∈FS T∧f∉i:=λf s j=>by
  rcases x.new f s with h1 | h1
  ·exact ⟨h1,λq=>j (x.todo f q)⟩
  ·exact absurd h1 j
 refine ⟨λk=>x.oJ _ (h.1 k),λk w a b=>?_,λk b w g a2 a3 a4=>?_,λk w g a2 a3 a4=>?_⟩
 ·exact x.oJ _ (h.2.1 k w (oJ _ a b).1 (oJ _ a b).2)
 ·exact x.oJ _ (h.2.2.1 k b w (oJ _ g a2).1 (oJ _ g a2).2 (oJ _ a3 a4).1 (oJ _ a3 a4).2)
 ·exact x.oJ _ (h.2.2.2 k w (oJ _ g a2).1 (oJ _ g a2).2 (oJ _ a3 a4).1 (oJ _ a3 a4).2)
theorem Y4 {C:List lg} (s:zi C) (v:B5 C) {T:uH} {t:List mT} {n:Int} (h:vH C T t n) (cs:List lg) (u:List (lh×List lg)) (ws:List (ByteArray×List lg)) {c:lg} (y:c∈C) :
  ∃T' d i,ya (mm T) cs u ws t n c=some (mm T',d,i)∧vH C T' d i∧FX T t T' d∧L8 c T' d:=by
 unfold ya
 simp only [Zx]
 by_cases h1:c.Kind=1
 ·rw [aO (by simp [h1])]
  obtain ⟨T',d,i,e,g,x,q⟩:=II s h cs u ws (xZ.mem c y h1)
  exact ⟨T',d,i,e,g,x,λ_=>q,λk=>absurd (h1.symm.trans k) tc,λk=>absurd (h1.symm.trans k) tc,λk=>absurd (h1.symm.trans k) tc⟩
 ·rw [aH (by simp [h1]),N3 s v h]
  simp only [aA]
  have J:c.B∈pn c:=by unfold pn; rw [aH h1]; split <;> simp
  obtain ⟨T',d,i,e,g,x,q⟩:=Q8 s v cs u ws y J (AK (xo T c.B)) h (λw hw=>(Ho h.keys ⟨c.B,w⟩).2 ((Fp _ _).1 hw))
  have oJ:∀f,f∈FS T'→f∉d→f∈FS T:=λf z I=>by
   rcases x.new f z with h1 | h1
   ·exact h1
   ·exact absurd h1 I
  have qq:∀w,(⟨c.B,w⟩:mT)∈FS T→Lg c ⟨c.B,w⟩ T T':=λw hw=>q w ((Fp _ _).2 ((Ho h.keys ⟨c.B,w⟩).1 hw))
  refine ⟨T',d,i,e,g,x,λk=>absurd k h1,λk w a b=>?_,λk b w j a2 a3 a4=>?_,λk w j a2 a3 a4=>?_⟩
  ·exact (qq w (oJ _ a b)).1 k Z
  ·exact (qq b (oJ _ j a2)).2.1 k Z w (oJ _ a3 a4)
  ·exact (qq w (oJ _ j a2)).2.2 k (oJ _ j a2) (oJ _ a3 a4)
structure KA (C:List lg) (us:List (lh×List lg)) (ws:List (ByteArray×List lg)):Prop where
 Yi:∀r c,c∈(nv mq us r).getD []↔c∈C∧r∈pn c
 word:∀w c,c∈(nv ob ws w).getD []↔c∈C∧c.Kind=3∧c.mV=w
 abw:∀r,((nv mq us r).getD []).length≤2*C.length
 abG:∀w,((nv ob ws w).getD []).length≤C.length
theorem Pv {C:List lg} (j:zi C) (k:B5 C) (cs:List lg) (i:List (lh×List lg)) (ws:List (ByteArray×List lg)) {f:mT}:∀(l:List lg) {T:uH} {a:List mT} {n:Int},vH C T a n→f∈FS T→(∀c∈l,c∈C∧f.lh∈pn c)→
  Ib C T a (tZ cs i ws f l (mm T) a n) (λT'=>∀c∈l,Lg c f T T')
 | [],T,a,n,h,_,_=>⟨T,a,n,Z,h,FX.refl _ _,λ_ hw=>by cases hw⟩
 | c::l,T,a,n,h,q,hm=>by
  rw [tZ]
  obtain ⟨T1,x,n1,s,g1,x1,q1⟩:=V3 j k h cs i ws (hm c rv).1 q (hm c rv).2
  rw [s]
  simp only [aA]
  obtain ⟨T2,g,n2,t,g2,x2,q2⟩:=Pv j k cs i ws l g1 (x1.oJ _ q) (λc u=>hm c (by simp [u]))
  refine ⟨T2,g,n2,t,g2,x1.trans x2,λv d=>?_⟩
  rcases aW.1 d with rfl | d
  ·exact q1.mono (λ_ h=>h) x2.oJ
  ·exact (q2 v d).mono x1.oJ (λ_ h=>h)
theorem Km {C:List lg} (s:zi C) (y:B5 C) (cs:List lg) (k:List (lh×List lg)) (ws:List (ByteArray×List lg)) {f:mT}:∀(l:List lg) {T:uH} {i:List mT} {n:Int},vH C T i n→f∈FS T→(∀c∈l,c∈C∧c.Kind=3∧c.mV=f.lh.Word)→
  Ib C T i (sk f cs k ws l (mm T) i n) (λT'=>∀c∈l,(⟨c.B,f.lh.lu⟩:mT)∈FS T→(⟨c.Head,f.nj⟩:mT)∈FS T')
 | [],T,i,n,h,_,_=>⟨T,i,n,Z,h,FX.refl _ _,λ_ hw=>by cases hw⟩
 | c::l,T,i,n,h,u,hm=>by
  rw [sk]
  have hk:=hm c rv
  by_cases j:(⟨c.B,f.lh.lu⟩:mT)∈FS T
  ·rw [aO ((yA h.keys _ _).2 j)]
   have x:f=⟨⟨f.lh.lu,c.mV⟩,f.nj⟩:=by rw [hk.2.2]
   have hd:xZ C ⟨c.Head,f.nj⟩:=.Q7 c f.lh.lu f.nj hk.1 hk.2.1 (h.IM _ j) (by rw [←x]; exact h.IM f u)
   obtain ⟨T1,J,n1,z,g1,x1,q1⟩:=II s h cs k ws hd
   rw [z]
   simp only [aA]
   obtain ⟨T2,g,n2,q,g2,x2,q2⟩:=Km s y cs k ws l g1 (x1.oJ _ u) (λc t=>hm c (by simp [t]))
   refine ⟨T2,g,n2,q,g2,x1.trans x2,λv d a=>?_⟩
   rcases aW.1 d with rfl | d
   ·exact x2.oJ _ q1
   ·exact q2 v d (x1.oJ _ a)
  ·rw [aH λI=>j ((yA h.keys _ _).1 I)]
   obtain ⟨T2,g,n2,q,g2,x2,q2⟩:=Km s y cs k ws l h u (λc t=>hm c (by simp [t]))
   refine ⟨T2,g,n2,q,g2,x2,λv d a=>?_⟩
   rcases aW.1 d with rfl | d
   ·exact absurd a j
   ·exact q2 v d a
theorem P0 {C:List lg} (Q:zi C) (U:B5 C) {cs:List lg} {O:List (lh×List lg)} {ws:List (ByteArray×List lg)} (z:KA C O ws):∀(m:Nat) {T:uH} {q:List mT} {n:Int},vH C T q n→(∀c∈C,L8 c T q)→C.length*C.length+q.length < m+(FS T).length→
  ∃T' n',pU cs O ws m (mm T) q n=some (mm T',[],n')∧vH C T' [] n'∧(∀c∈C,L8 c T' [])∧(∀f∈FS T,f∈FS T')
 | 0,T,q,n,h,_,hm=>by have:=h.len; omega
 | m+1,T,[],n,h,t,hm=>by
  rw [pU]
  exact ⟨T,n,Z,h,t,λ_ h=>h⟩
 | m+1,T,f::q,n,h,t,hm=>by
  rw [pU]
  rw [aO rv]
  have Y:f∈FS T:=h.sub f rv
  have hn:=dR.1 h.Tq
  simp only [nY,iL,aR,Int.toNat_zero,gV,aA]
  rw [show rj (decide ((0:Nat)≤1)&&decide ((1:Int)≤((f::q).length:Int)))=some () by simp [rj]; omega]
  simp only [aA,show Int.toNat 1=1 from rfl,List.drop_one,List.tail_cons]
  have W:vH C T q n:=⟨h.keys,h.nd,hn.2,λg J=>h.sub g (by simp [J]),h.num,h.IM⟩
  obtain ⟨T1,a6,n1,e1,g1,x1,q1⟩:=Pv Q U cs O ws ((nv mq O f.lh).getD []) W Y (λc i=>(z.Yi _ c).1 i)
  rw [e1]
  simp only [aA]
  obtain ⟨T2,u,n2,e2,g2,x2,q2⟩:=Km Q U cs O ws ((nv ob ws f.lh.Word).getD []) g1 (x1.oJ _ Y) (λc i=>(z.word _ c).1 i)
  rw [e2]
  simp only [aA]
  have x:=x1.trans x2
  have oJ:∀g,g∈FS T2→g∉u→g∈FS T∧(g=f∨g∉f::q):=λg J M=>by
   rcases x.new g J with h1 | h1
   ·refine ⟨h1,?_⟩
    by_cases he:g=f
    ·exact .inl he
    ·exact .inr (λy=>by
      rcases aW.1 y with y | y
      ·exact he y
      ·exact M (x.todo g y))
   ·exact absurd h1 M
  have d1:∀c∈C,f.lh∈pn c→Lg c f T T2:=λc i hr=>(q1 c ((z.Yi _ c).2 ⟨i,hr⟩)).mono (λ_ h=>h) x2.oJ
  have I:∀c∈C,L8 c T2 u:=λc i=>by
   have k:=t c i
   refine ⟨λhk=>x.oJ _ (k.1 hk),λhk w a b=>?_,λhk b w P a2 a3 a4=>?_,λhk w P a2 a3 a4=>?_⟩
   ·obtain ⟨s,d⟩:=oJ _ a b
    rcases d with d | d
    ·subst d; exact (d1 c i (by simp [pn,hk])).1 hk Z
    ·exact x.oJ _ (k.2.1 hk w s d)
   ·obtain ⟨s,d⟩:=oJ _ P a2
    obtain ⟨v,j⟩:=oJ _ a3 a4
    rcases d with d | d
    ·subst d; exact (d1 c i (by simp [pn,hk])).2.1 hk Z w v
    ·rcases j with j | j
     ·subst j
      exact q2 c ((z.word _ c).2 ⟨i,hk,Z⟩) (x1.oJ _ s)
     ·exact x.oJ _ (k.2.2.1 hk b w s d v j)
   ·obtain ⟨s,d⟩:=oJ _ P a2
    obtain ⟨v,j⟩:=oJ _ a3 a4
    rcases d with d | d
    ·subst d; exact (d1 c i (by simp [pn,hk])).2.2 hk s v
    ·rcases j with j | j
     ·subst j; exact (d1 c i (by simp [pn,hk])).2.2 hk s v
     ·exact x.oJ _ (k.2.2.2 hk w s d v j)
  have hlen:u.length+(FS T).length≤q.length+(FS T2).length:=by
   exact g2.cnt W x
  obtain ⟨T3,n3,e3,g3,c3,o3⟩:=P0 Q U z m g2 I (by simp only [aG] at hm; omega)
  exact ⟨T3,n3,e3,g3,c3,λg J=>o3 g (x.oJ g J)⟩
theorem Uf (c:lg):∀(l:List lg) (i:Nat),∃z,vl c l i=some z∧(z≥0↔c∈l)
 | [],i=>⟨-1,Z,rv⟩
 | x::l,i=>by
  rw [vl]
  by_cases h:ni c x=true
  ·rw [aO h]
   exact ⟨_,Z,by simp [pH.1 h]⟩
  ·rw [aH h]
   obtain ⟨z,e,d⟩:=Uf c l (i+1)
   refine ⟨z,e,?_⟩
   rw [d,aW]
   exact ⟨.inr,λa=>a.resolve_left λe=>h (pH.2 e)⟩
theorem RS (c:lg) (l:List lg):∃b,tq l c=some b∧(b=true↔c∈l):=by
 obtain ⟨z,e,a⟩:=Uf c l 0
 refine ⟨decide (z≥0),?_,by simpa using a⟩
 unfold tq xE BJ
 rw [e]
 rfl
theorem TA (c:lg) (ws:List (ByteArray×List lg)) (C:List lg) (hw:∀w,((nv ob ws w).getD []).length≤2000000):∀(k:List lh) (a:List (lh×List lg)),(∀r,((nv mq a r).getD []).length+k.length≤4000000)→
  ∃i j,tb c ws C k a=some (C,i,j)∧(∀r x,x∈(nv mq i r).getD []↔x∈(nv mq a r).getD []∨(x=c∧r∈k))∧
   (∀w x,x∈(nv ob j w).getD []↔x∈(nv ob ws w).getD []∨(x=c∧c.Kind=3∧w=c.mV))∧(∀r,((nv mq i r).getD []).length≤((nv mq a r).getD []).length+k.length)∧
   (∀w,((nv ob j w).getD []).length≤((nv ob ws w).getD []).length+1)
 | [],a,_=>by
  rw [tb]
  by_cases q:c.Kind=3
  ·rw [aO (by simp [q])]
   have h:=hw c.mV
   rw [od ss ss]
   simp only [aA]
   refine ⟨a,_,Z,rv,λw x=>?_,rv,λw=>?_⟩
   ·rw [KF oq]
    by_cases hk:ob w c.mV=true
    ·rw [aO hk,oq.1 hk]; simp [q]
    ·rw [aH hk]
     have:w≠c.mV:=λe=>hk (oq.2 e)
     simp [this]
   ·rw [KF oq]
    by_cases hk:ob w c.mV=true
    ·rw [aO hk,oq.1 hk]; simp
    ·rw [aH hk]; exact jM _
  ·rw [aH (by simp [q])]
   exact ⟨a,ws,Z,rv,by simp [q],rv,rv⟩
 | d::k,a,s=>by
  rw [tb]
  have h:=s d
  simp only [aG] at h
  rw [od ss ss]
  simp only [aA]
  have g:∀r,(nv mq (pO mq a d (((nv mq a d).getD [])++[c])) r).getD []=if mq r d=true then ((nv mq a d).getD [])++[c] else (nv mq a r).getD []:=λr=>by
   rw [KF mw]; by_cases hk:mq r d=true
   ·rw [aO hk,aO hk]; rfl
   ·rw [aH hk,aH hk]
  obtain ⟨i,j,e,t,a2,a3,a4⟩:=TA c ws C hw k (pO mq a d (((nv mq a d).getD [])++[c])) (λr=>by
   rw [g r]
   have u:=s r
   simp only [aG] at u
   by_cases hk:mq r d=true
   ·rw [aO hk]; simp; omega
   ·rw [aH hk]; omega)
  refine ⟨i,j,e,λr x=>?_,a2,λr=>?_,a4⟩
  ·rw [t,g]
   by_cases hk:mq r d=true
   ·rw [aO hk,mw.1 hk]
    simp only [bE,aW,cV,fc]
    constructor
    ·rintro ((h | h) | h)
     ·exact .inl h
     ·exact .inr ⟨h,.inl trivial⟩
     ·exact .inr ⟨h.1,.inr h.2⟩
    ·rintro (h | h)
     ·exact .inl (.inl h)
     ·exact .inl (.inr h.1)
   ·rw [aH hk]
    have:r≠d:=λe=>hk (mw.2 e)
    simp [this]
  ·have:=a3 r
   rw [g r] at this
   by_cases hk:mq r d=true
   ·rw [aO hk] at this; rw [mw.1 hk] at this ⊢; simp at this ⊢; omega
   ·rw [aH hk] at this; simp; omega
theorem Z3 {C:List lg} {k:List (lh×List lg)} {ws:List (ByteArray×List lg)} (j:KA C k ws) (v:C.length+1≤1000000) {c:lg} (s:nH c=true) (i:List (lh×List (ByteArray×Bool))) (u:List mT) (n:Int) :
  ∃a d,yG i C k ws u n c=some (C++[c],a,d)∧KA (C++[c]) a d:=by
 unfold yG
 rw [od ss ss]
 simp only [aA,VV s]
 rw [show rj (decide ((0:Nat)≤1)&&decide ((1:Int)≤((c.Head::pn c).length:Int)))=some () by simp [rj]; omega]
 simp only [aA,show Int.toNat 1=1 from rfl,List.drop_one,List.tail_cons]
 have t:(pn c).length≤2:=by unfold pn; split; simp; split <;> simp
 obtain ⟨a,d,e,q,a2,a3,a4⟩:=TA c ws (C++[c]) (λw=>by have:=j.abG w; omega) (pn c) k (λr=>by have:=j.abw r; omega)
 refine ⟨a,d,e,λr x=>?_,λw x=>?_,λr=>?_,λw=>?_⟩
 ·rw [q,j.Yi,bE,aV]
  constructor
  ·rintro (h | h)
   ·exact ⟨.inl h.1,h.2⟩
   ·exact ⟨.inr h.1,by rw [h.1]; exact h.2⟩
  ·rintro ⟨h | h,g⟩
   ·exact .inl ⟨h,g⟩
   ·exact .inr ⟨h,by rw [←h]; exact g⟩
 ·rw [a2,j.word,bE,aV]
  constructor
  ·rintro (h | h)
   ·exact ⟨.inl h.1,h.2⟩
   ·exact ⟨.inr h.1,by rw [h.1]; exact ⟨h.2.1,h.2.2.symm⟩⟩
  ·rintro ⟨h | h,g⟩
   ·exact .inl ⟨h,g⟩
   ·subst h; exact .inr ⟨Z,g.1,g.2.symm⟩
 ·have:=a3 r; have:=j.abw r; simp; omega
 ·have:=a4 w; have:=j.abG w; simp; omega
structure MS (C:List lg) (T:uH) (us:List (lh×List lg)) (ws:List (ByteArray×List lg)) (n:Int):Prop where
 HZ:vH C T [] n
 cl:∀c∈C,L8 c T []
 ac4:KA C us ws
 right:B5 C
theorem MS.all {C:List lg} {T:uH} {i:List (lh×List lg)} {ws:List (ByteArray×List lg)} {n:Int} (h:MS C T i ws n) (f:mT):f∈FS T↔xZ C f:=by
 refine ⟨h.HZ.IM f,λhd=>?_⟩
 induction hd with
 | mem c a hk=>exact (h.cl c a).1 hk
 | inc c w a hk _ ih=>exact (h.cl c a).2.1 hk w ih rv
 | Q7 c b w a hk _ _ d g=>exact (h.cl c a).2.2.1 hk b w d rv g rv
 | both c w a hk _ _ d g=>exact (h.cl c a).2.2.2 hk w d rv g rv
theorem Ry (s:Int) (J:0≤s∧s≤1000000000000):∀(l:List lg) {C:List lg} {T:uH} {q:List mT} {M:List (lh×List lg)} {ws:List (ByteArray×List lg)} {n:Int},vH C T q n→(∀c∈C,L8 c T q)→KA C M ws→B5 C→C.length+l.length≤1000000→
  ∃C' T' a d j,sd s l (mm T) C M ws q n=some (j-s,mm T',C',a,d,[],j)∧MS C' T' a d j∧(∀c,c∈C'↔c∈C∨(c∈l∧nH c=true))∧C'.length≤C.length+l.length∧(∀f∈FS T,f∈FS T')
 | [],C,T,q,M,ws,n,g,i,v,t,hl=>by
  rw [sd]
  have hC:zi C:=by unfold zi; simp at hl; omega
  have ad:=hC.sq
  have hlen:=g.len
  have ae:=g.abR
  obtain ⟨T',j,e,Q,c',o⟩:=P0 hC t v (cs:=C) mZ g i (by rw [yP]; omega)
  unfold Ah
  rw [e]
  simp only [aA]
  have a6:=Q.len
  have ab:=Q.num
  rw [mM rs rs]
  exact ⟨C,T',M,ws,j,Z,⟨Q,c',v,t⟩,rv,rv,o⟩
 | x::l,C,T,q,M,ws,n,g,i,v,t,hl=>by
  rw [sd,ud]
  simp only [aG] at hl
  obtain ⟨b,hb,y⟩:=RS x C
  simp only [aA,hb,YV]
  by_cases k:nH x=true∧x∉C
  ·have W:b=false:=by cases b with | false=>rfl | true=>exact absurd (y.1 Z) k.2
   rw [k.1,W]
   simp only [fy,Bool.and_self,aR]
   obtain ⟨a8,aa,e1,U1⟩:=Z3 v rs k.1 (mm T) q n
   rw [e1]
   simp only [aA]
   have U:zi (C++[x]):=by unfold zi; simp; omega
   have u:B5 (C++[x]):=λc z=>by
    rcases bE.1 z with h | h
    ·exact t c h
    ·simp at h; subst h; exact k.1
   have g1:vH (C++[x]) T q n:=g.mono (λc z=>bY _ z)
   obtain ⟨T2,a7,n2,e2,g2,x2,c2⟩:=Y4 U u g1 (C++[x]) a8 aa (c:=x) rv
   rw [e2]
   simp only [aA]
   have I:∀c∈C++[x],L8 c T2 a7:=λc z=>by
    rcases bE.1 z with h | h
    ·exact (i c h).ext x2
    ·simp at h; subst h; exact c2
   obtain ⟨C',T',a,d,j,e,m,P,a2,a3⟩:=Ry s J l g2 I U1 u ss
   refine ⟨C',T',a,d,j,e,m,λc=>?_,by simp at a2 ⊢; omega,λf Y=>a3 f (x2.oJ f Y)⟩
   rw [P]
   simp only [bE,aW,cV,fc]
   constructor
   ·rintro ((h | h) | h)
    ·exact .inl h
    ·subst h; exact .inr ⟨.inl Z,k.1⟩
    ·exact .inr ⟨.inr h.1,h.2⟩
   ·rintro (h | ⟨h | h,O⟩)
    ·exact .inl (.inl h)
    ·exact .inl (.inr h)
    ·exact .inr ⟨h,O⟩
  ·have Y:(nH x&&!b)=false:=by
    cases hr:nH x with
    | false=>rfl
    | true=>
     have:x∈C:=gN λhn=>k ⟨hr,hn⟩
     rw [y.2 this]; rfl
   rw [Y]
   simp only [aB,aK]
   obtain ⟨C',T',a,d,j,e,m,P,a2,a3⟩:=Ry s J l g i v t rs
   refine ⟨C',T',a,d,j,e,m,λc=>?_,ss,a3⟩
   rw [P,aW]
   constructor
   ·rintro (h | h)
    ·exact .inl h
    ·exact .inr ⟨.inr h.1,h.2⟩
   ·rintro (h | ⟨h | h,O⟩)
    ·exact .inl h
    ·subst h
     exact .inl (gN λhn=>k ⟨O,hn⟩)
    ·exact .inr ⟨h,O⟩
theorem aaD {C:List lg} {T:uH} {i:List (lh×List lg)} {ws:List (ByteArray×List lg)} {n:Int} (h:MS C T i ws n) (l:List lg) (k:C.length+l.length≤1000000) :
  ∃C' T' a d g,zl (mm T) C i ws [] n l=some (g-n,mm T',C',a,d,[],g)∧MS C' T' a d g∧(∀c,c∈C'↔c∈C∨(c∈l∧nH c=true))∧C'.length≤C.length+l.length∧(∀f∈FS T,f∈FS T'):=by
 have j:zi C:=by unfold zi; omega
 have h1:=h.HZ.len
 have q:=j.sq
 have s:=h.HZ.num
 exact Ry n ⟨rs,rs⟩ l h.HZ h.cl h.ac4 h.right k
theorem KA.zero:KA [] [] []:=⟨λr c=>by simp [nv],λw c=>by simp [nv],λr=>by simp [nv],λw=>by simp [nv]⟩
theorem vH.zero:vH [] [] [] 0:=⟨rv,by simp [FS],rv,rv,by simp [FS],by simp [FS]⟩
theorem MS.zero:MS [] [] [] [] 0:=⟨vH.zero,λc a=>(by cases a),KA.zero,λc a=>(by cases a)⟩
theorem ack (l:List lg) (i:l.length≤1000000):∃C T g ws n,zJ l=some (mm T,C,g,ws,[],n)∧MS C T g ws n∧(∀c,c∈C↔c∈l∧nH c=true)∧C.length≤l.length:=by
 unfold zJ
 obtain ⟨C',T',a,d,j,e,m,h,a2,a3⟩:=aaD MS.zero l (by simpa using i)
 rw [show zl [] [] [] [] [] 0 l=_ from e]
 exact ⟨C',T',a,d,j,Z,m,by simpa using h,by simpa using a2⟩
theorem xZ.congr {C C':List lg} (h:∀c,c∈C↔c∈C') (f:mT):xZ C f↔xZ C' f:=⟨λd=>d.mono λc a=>(h c).1 a,λd=>d.mono λc a=>(h c).2 a⟩
theorem aa5 {C:List lg} {T:uH} {d:List (lh×List lg)} {ws:List (ByteArray×List lg)} {n:Int} (h:MS C T d ws n) (cs:List lg) (u:List (lh×List lg)) (w:List (ByteArray×List lg)) (a:List mT) (z:Int) (r:lh) (Tl:ByteArray) :
  ∃b,ux (mm T) cs u w a z r Tl=some b∧(b=true↔xZ C ⟨r,Tl⟩) :=
 ⟨_,Z,by rw [yA h.HZ.keys,h.all]⟩
def qA:lh:=⟨⟨#[97]⟩,⟨#[114]⟩⟩
def qB:lh:=⟨⟨#[98]⟩,⟨#[115]⟩⟩
def qd:ByteArray:=⟨#[100]⟩
def j1:lg:=⟨2,qA,zS,qB,⟨zS,zS⟩,zS⟩
def j2:lg:=⟨1,qB,qd,⟨zS,zS⟩,⟨zS,zS⟩,zS⟩
theorem Yq (n:Nat) (a:n≤1000000000):xA (n:Int)=some []:=by
 unfold xA
 rw [aH rv,mM (x:=0-0) rs rs,show (n:Int)-(0-0)=n by omega,mM (x:=(n:Int)) rs rs]
 by_cases h:0 < n
 ·rw [aO (by simpa using h)]
  unfold JP
  rw [aO ⟨rs,rs,by unfold maxLen; omega⟩]
  simp [rj]
 ·rw [aH (by simpa using h)]; rfl
theorem Wj (a b:List lg) (h:a.length+b.length≤1000000000):wE [a,b]=some (a++b):=by
 unfold wE
 rw [tf,mM rs rs,aH rv,tf,mM rs rs,aH ss,tf]
 rw [show (0:Int)+(a.length:Int)+(b.length:Int)=((a.length+b.length:Nat):Int) by omega,Yq _ h]
 simp only [aA]
 rw [sX,od ss ss]
 simp only [aA,bL]
 rw [sX,od rs rs]
 simp only [aA]
 rw [sX]
 rfl
theorem UT {a b:lh} (h:a≠b):mq a b=false:=by
 cases d:mq a b with
 | false=>rfl
 | true=>exact absurd (mw.1 d) h
theorem zm.self {α:Type} {lt:α→α→Prop} {P:α→Prop} {l s:List α} (h:zm lt P l s):zm lt P s s:=⟨h.1,λx=>⟨λa=>⟨a,((h.2 x).1 a).2⟩,λa=>a.1⟩⟩
def up (w:ByteArray) (g:ByteArray→Nat):ByteArray→Nat:=λx=>if ob w x=true then g x+1 else g x
def tot {α:Type} (a:List (List α)):Nat:=(a.map List.length).sum
instance adq:DecidableEq lh:=λa b=>decidable_of_iff (mq a b=true) mw
theorem PK (b:List lh):∀(l m A:List lh),A++m=b→l.length=m.length→BL b l A.length=some (decide (l=m))∧tQ b l A.length=some (decide (l=m))
 | [],[],A,_,_=>⟨by rw [BL]; rfl,by rw [tQ]; rfl⟩
 | x::l,y::m,A,h,g=>by
  have e:nY b (A.length:Int)=some y:=by rw [←h]; exact pz A y m _ Z
  obtain ⟨d,a2⟩:=PK b l m (A++[y]) (by simpa using h) (by simpa using g)
  rw [aC] at d a2
  rw [BL,tQ,e]
  simp only [aA]
  by_cases a:x=y
  ·subst a
   rw [Ck]
   simp only [bM,aB,aK]
   exact ⟨by rw [show A.length+1=A.length+[x].length from rfl,d]; simp,by rw [show A.length+1=A.length+[x].length from rfl,a2]; simp⟩
  ·rw [UT a]
   simp [a]
theorem CK (a b:List lh):sv a b=some (decide (a=b)):=by
 unfold sv
 by_cases h:a.length=b.length
 ·rw [aH (by simp [h])]
  exact (PK b a b [] Z h).2
 ·rw [aO ss]
  simp; intro e; exact h (by rw [e])
def qa:ByteArray:=⟨#[97]⟩
def B8 (l:List Int):Prop:=∀x∈l,0≤x∧x < 256
theorem B8.Mr {a b:List Int} (ha:B8 a) (d:B8 b):B8 (a++b):=λx g=>(bE.1 g).elim (ha x) (d x)
theorem ZM {a b:List Int} (ha:B8 a) (d:B8 b):Nv a=Nv b↔a=b :=
 ⟨λh=>O7 ha d (by rw [←M4,←M4,h]),λh=>by rw [h]⟩
def Xp (h x:Int):Int:=IntKind.u64.wrap ((IntKind.u64.wrap (BitVec.ofInt (IntKind.bits .u64) h ^^^ BitVec.ofInt (IntKind.bits .u64) (IntKind.u64.wrap x)).toNat)*1099511628211)
def Hc (l:List Int):Int:=l.foldl Xp 14695981039346656037
theorem ZT (n:Int):0≤IntKind.u64.wrap n∧IntKind.u64.wrap n < 18446744073709551616:=by
 simp only [IntKind.wrap,IntKind.bits,IntKind.signed]; constructor
 ·simp; omega
 ·simp; omega
theorem Rj (l:List Int):0≤Hc l∧Hc l < 18446744073709551616:=by
 have:∀(l:List Int) (h:Int),(0≤h∧h < 18446744073709551616)→0≤l.foldl Xp h∧l.foldl Xp h < 18446744073709551616:=by
  intro l
  induction l with
  | nil=>intro h a; exact a
  | cons x l ih=>intro h a; exact ih _ (ZT _)
 exact this l _ rs
theorem VX:∀(l:List Int) (h:Int),Cj l h=some (l.foldl Xp h)
 | [],h=>rfl
 | x::l,h=>by rw [Cj,VX l]; rfl
theorem Wr:∀(a:List (List Int)) (h:Int),Co a h=some (a.flatten.foldl Xp h)
 | [],h=>rfl
 | l::a,h=>by rw [Co,VX,aA,Wr a,dX,List.foldl_append]
theorem Wt (a:List (List Int)):HB a=some (Hc a.flatten):=Wr a _
def KP (H:Int):List Int:=[H / 72057594037927936 % 256,H / 281474976710656 % 256,H / 1099511627776 % 256,H / 4294967296 % 256,H / 16777216 % 256,H / 65536 % 256,H / 256 % 256,H % 256]
theorem abr (H:Int):B8 (KP H):=by
 intro x a
 simp only [KP,aW,cV,fc] at a
 rcases a with rfl | rfl | rfl | rfl | rfl | rfl | rfl | rfl <;> omega
theorem Up (H:Int) (hH:0≤H∧H < 18446744073709551616):((Hn 1 (0:Int) 8).bind λl=>vz H l 0 l)=some (KP H):=by
 have g:Hn 1 (0:Int) 8=some [0,0,0,0,0,0,0,0]:=by unfold Hn; rw [aO (by simp [maxLen])]; rfl
 rw [g,aA]
 have j:∀n:Nat,n≤7→wi0 .i64 (8*wi0 .i64 (7-(n:Int)))=8*(7-(n:Int)):=λn q=>by
  rw [mM (x:=7-(n:Int)) rs rs,mM rs rs]
 have step:∀(x:Int) (xs l:List Int) (i:Nat) (d:Int),i≤7→l.length=8→IntKind.u8.wrap (Int.fdiv H (2 ^ min (Int.toNat (8*(7-(i:Int)))) (IntKind.bits .u64)))=d→vz H (x::xs) i l=vz H xs (i+1) (l.set i d):=by
  intro x xs l i d h k hd
  rw [vz,j i h,hd]
  have:rj (decide (0≤8*(7-(i:Int))))=some ():=by simp [rj]; omega
  rw [this,aA]
  have:nY l (i:Int)=some l[i]:=by unfold nY; rw [aO rs]; simp
  rw [this,aA]
  rfl
 have a:∀n:Int,IntKind.u8.wrap n=n % 256:=λn=>by rw [IntKind.wrap_u8]
 have fd:∀m:Int,0 < m→Int.fdiv H m=H / m:=λm hm=>gD _ rs
 rw [step _ _ _ 0 (H / 72057594037927936 % 256) rs Z (by rw [a,fd _ tc]; rfl)]
 rw [step _ _ _ 1 (H / 281474976710656 % 256) rs Z (by rw [a,fd _ tc]; rfl)]
 rw [step _ _ _ 2 (H / 1099511627776 % 256) rs Z (by rw [a,fd _ tc]; rfl)]
 rw [step _ _ _ 3 (H / 4294967296 % 256) rs Z (by rw [a,fd _ tc]; rfl)]
 rw [step _ _ _ 4 (H / 16777216 % 256) rs Z (by rw [a,fd _ tc]; rfl)]
 rw [step _ _ _ 5 (H / 65536 % 256) rs Z (by rw [a,fd _ tc]; rfl)]
 rw [step _ _ _ 6 (H / 256 % 256) rs Z (by rw [a,fd _ tc]; rfl)]
 rw [step _ _ _ 7 (H % 256) rs Z (by rw [a,fd _ tc]; simp)]
 rfl
def YO (k b:List Int):List Int:=KP (Hc ((k.length:Int)::(k++(b++k))))
theorem aav {k:List Int} (b:List Int) (h:1≤k.length∧k.length≤32):EC k b=some (YO k b):=by
 have a:Ae k=some true:=by
  unfold Ae
  rw [iy (show (k.length:Int)≥1 by omega),iy (show (k.length:Int)≤32 by omega)]; rfl
 unfold EC
 rw [a]
 simp only [aA,bM,aB,aK]
 rw [Wt]
 simp only [aA]
 rw [Up _ (Rj _),show IntKind.u8.wrap (k.length:Int)=(k.length:Int) from ku _ rs]
 simp [YO]
def BI:List ByteArray→List Key→Int
 | _,[]=>0
 | seen,k::l=>if rz k.nj=false then 30 else if k.Key.length < 1∨32 < k.Key.length then 21 else if ph ob seen k.nj=true then 41 else BI (seen++[k.nj]) l
def sr (l:List Key):List (ByteArray×List Int):=l.map λk=>(k.nj,k.Key)
def OS (l:List Key) (o:ByteArray):Option (List Int):=nv ob (sr l) o
theorem YW (a b:List Key):sr (a++b)=sr a++sr b:=by simp [sr]
theorem Yl (acc:List Key) (w:ByteArray):(nv ob (sr acc) w).isSome=ph ob (acc.map (·.nj)) w:=by
 induction acc with
 | nil=>rfl
 | cons k l ih=>
  rw [show sr (k::l)=(k.nj,k.Key)::sr l from rfl,FR]
  simp only [bQ,ph,List.any_cons] at ih ⊢
  cases h:ob w k.nj <;> simp [ih]
theorem FP {l:List Int} (h:l.length≤1000000):rO l=some l:=by
 unfold rO
 rw [Ct (by simpa using h)]; rfl
theorem ac1 (k:Key):(if decide ((k.Key.length:Int) < 1)=true then some true else some (decide ((k.Key.length:Int) > 32)):Option Bool)=some (decide (k.Key.length < 1∨32 < k.Key.length)):=by
 rw [Bool.decide_or]
 by_cases h:k.Key.length < 1
 ·rw [aO ss,iy h,Bool.true_or]
 ·rw [aH ss,decide_eq_false h,Bool.false_or]
  congr 1; apply decide_eq_decide.2; omega
theorem NF:∀(l acc:List Key),zB l (sr acc)=some (if BI (acc.map (·.nj)) l=0 then (some (⟨sr (acc++l)⟩:mc),0) else (none,BI (acc.map (·.nj)) l))
 | [],acc=>by rw [zB]; simp [BI]
 | k::l,acc=>by
  rw [zB,uf,aA]
  unfold BI
  cases h:rz k.nj
  ·simp
  ·simp only [bM,aB,aK]
   rw [ac1,aA]
   by_cases hk:k.Key.length < 1∨32 < k.Key.length
   ·simp only [hk,cK,aR]
    rw [aH rv,aH tc]
   ·simp only [hk,cX,aB,aK]
    rw [Yl]
    cases a:ph ob (acc.map (·.nj)) k.nj
    ·simp only [aB,aK]
     rw [FP rs,aA]
     have d:∀p∈sr acc,p.1≠k.nj:=by
      intro p hp e
      obtain ⟨q,g,rfl⟩:=bT.1 hp
      have:=(xx oq (acc.map (·.nj)) k.nj).2 (bT.2 ⟨q,g,e⟩)
      rw [this] at a; cases a
     unfold JT
     rw [AH oq d,GP oq d]
     simp only [ju,aR,aA]
     have:=NF l (acc++[k])
     rw [YW] at this
     rw [show sr acc++[(k.nj,k.Key)]=sr acc++sr [k] from rfl,this]
     simp
    ·simp
theorem ZI (l:List Key):Gr l=some (if BI [] l=0 then (some (⟨sr l⟩:mc),0) else (none,BI [] l)):=NF l []
theorem Um:∀(l:List Key) (seen:List ByteArray),BI seen l=0→∀k∈l,1≤k.Key.length∧k.Key.length≤32
 | [],_,_,_,hk=>by cases hk
 | x::l,seen,h,k,hk=>by
  unfold BI at h
  split at h
  ·cases h
  split at h
  ·cases h
  split at h
  ·cases h
  rcases aW.1 hk with rfl | hk
  ·omega
  ·exact Um l _ h k hk
theorem M1:∀(l:List Key) (o:ByteArray) (b:List Int),OS l o=some b→∃k∈l,k.Key=b
 | [],o,b,h=>by cases h
 | x::l,o,b,h=>by
  unfold OS at h
  rw [show sr (x::l)=(x.nj,x.Key)::sr l from rfl,FR] at h
  split at h
  ·cases h; exact ⟨x,rv,Z⟩
  ·obtain ⟨k,hk,e⟩:=M1 l o b h
   exact ⟨k,by simp [hk],e⟩
def K8 (l:List Key):Prop:=∀k∈l,B8 k.Key
theorem cBy (c:lg) (h:nH c=true):wJ c=some (xb c):=by rw [Ev,aO h]
structure Mk (ks:List Key) (c:lg) (k:List Int):Prop where
 ok:BI [] ks=0
 rt:nH c=true
 lk:OS ks c.Head.lu=some k
theorem Mk.len {ks:List Key} {c:lg} {k:List Int} (h:Mk ks c k):1≤k.length∧k.length≤32:=by
 obtain ⟨q,a,rfl⟩:=M1 _ _ _ h.lk
 exact Um ks [] h.ok q a
theorem Mk.b8 {ks:List Key} {c:lg} {k:List Int} (h:Mk ks c k) (hk:K8 ks):B8 k:=by
 obtain ⟨q,a,rfl⟩:=M1 _ _ _ h.lk
 exact hk q a
theorem Mk.unique {ks:List Key} {c:lg} {k k':List Int} (h:Mk ks c k) (a:Mk ks c k'):k=k':=by
 have:=h.lk; rw [a.lk] at this; cases this; rfl
def acV (c:lg):List Int:=255::xb c
theorem abp {c:lg} (h:nH c=true):B8 (acV c):=λx a=>by
 rcases aW.1 a with rfl | a
 ·omega
 ·exact H2 h x a
theorem kof (ks:List Key) (c:lg):xL (some ⟨sr ks⟩) c=some (if nH c=true then (match OS ks c.Head.lu with | some k=>(k,(0:Int)) | none=>([],21)) else ([],11)):=by
 unfold xL
 rw [aH rv,ud]
 simp only [aA]
 cases a:nH c
 ·rfl
 simp only [bM,aB,aK,aR]
 unfold OS
 cases nv ob (sr ks) c.Head.lu <;> rfl
section
variable {c:Formula→Formula→Int} {G:Formula→Prop} {f:Formula×Formula→Option Int}
theorem aca (h:JX f c G) {L:List Formula} (g:∀x∈L,G x) (i:L.length≤1000000) {a j n:Nat} (h1:a≤j) (d:j < L.length) (t:j-a < n) :
  ∃L',nR (a:Int) f n L (j:Int)=some L'∧L'.Perm L:=by
 obtain ⟨A,B,rfl,q⟩:=xJ (l:=L) (n:=a) rs
 rw [aC] at d
 obtain ⟨P,C,rfl,s⟩:=xJ (l:=B) (n:=j-a) rs
 rw [aC] at d
 cases C with
 | nil=>simp at d; omega
 | cons x S=>
  obtain ⟨P1,P2,rfl,e,_⟩:=ada h A x (g x rv) P.length P S n j a Z rs (λy k=>g y (by simp [k])) i rs rs
  refine ⟨_,e,?_⟩
  rw [aP]
  exact cH _ (cH _ List.perm_middle.symm)
theorem acG (u:JX f c G) (a b N:Nat) (J:N≤1000000) (M:b≤N):∀(k n i:Nat) (L:List Formula),b-i≤k→k < n→a≤i→L.length=N→(∀x∈L,G x)→
  ∃L',oh (b:Int) (a:Int) f n L (i:Int)=some L'∧L'.Perm L:=by
 intro k
 induction k with
 | zero=>
  intro n i L t y ha h d
  obtain ⟨n,rfl⟩:=aX (by omega:n≠0)
  rw [oh,aH ss]
  exact ⟨L,Z,.refl _⟩
 | succ k ih=>
  intro n i L t y ha h d
  obtain ⟨n,rfl⟩:=aX (by omega:n≠0)
  rw [oh]
  by_cases v:i < b
  ·rw [aO ss]
   obtain ⟨L1,q,g⟩:=aca u d rs (a:=a) (j:=i) (n:=mZ) ha rs (by rw [pI]; omega)
   rw [q,aA,rh (i+1) rs rs]
   obtain ⟨L2,s,I⟩:=ih n (i+1) L1 rs rs rs (g.length_eq.trans h) (λx z=>d x (g.mem_iff.1 z))
   exact ⟨L2,s,I.trans g⟩
  ·rw [aH ss]
   exact ⟨L,Z,.refl _⟩
theorem Yg (h:JX f c G) {L:List Formula} (d:∀x∈L,G x) (i:L.length≤1000000) {a b:Nat} (g:b≤L.length) (ha:a≤L.length):∃L',pv L (a:Int) (b:Int) f=some L'∧L'.Perm L:=by
 unfold pv
 rw [rh (a+1) rs rs]
 exact acG h a b L.length i g L.length mZ (a+1) L rs (by rw [pI]; omega) rs Z d
theorem YK (k:JX f c G) {L:List Formula} (g:∀x∈L,G x) (p q:Nat→Nat) (n m:Nat) (h1:∀h,n≤h→h < m→p h < L.length∧q h < L.length):∃pr:Nat→Bool,∀h,n≤h→h < m→Ask L f ((p h:Nat):Int) ((q h:Nat):Int) (pr h):=by
 have:∀h,∃b,n≤h→h < m→Ask L f ((p h:Nat):Int) ((q h:Nat):Int) b:=λh=>by
  by_cases d:n≤h∧h < m
  ·obtain ⟨i,j⟩:=h1 h d.1 d.2
   refine ⟨_,λ_ _=>⟨L[p h],L[q h],c L[p h] L[q h],?_,?_,k _ _ (g _ (iD _)) (g _ (iD _)),Z⟩⟩
   ·rw [GF]; exact dt i
   ·rw [GF]; exact dt j
  ·exact ⟨true,λa b=>absurd ⟨a,b⟩ d⟩
 exact ⟨λh=>(this h).choose,λh=>(this h).choose_spec⟩
theorem acd (k:JX f c G) {L:List Formula} (j:∀x∈L,G x) (g:L.length≤400000) {a b:Nat} (h1:a+1 < b) (d:b≤L.length):∃L',nF L (a:Int) f mZ ((a+1:Nat):Int) (b:Int)=some L'∧L'.Perm L:=by
 obtain ⟨pr,i⟩:=YK k j (λh=>h) (λ_=>a) (a+1) b (λh q1 q2=>⟨rs,rs⟩)
 obtain ⟨t,u,t1,t2,_,_,e⟩:=bs1 (f:=f) L (a:Int) pr (a+1) b rs i b mZ (a+1) b rs (by rw [pI]; omega) (aY _) rs (aY _) (.inl Z) (.inl Z)
 rw [e,nF]
 simp only [Int.lt_irrefl,cX,aB,aK,tN]
 obtain ⟨Q,B,rfl,s⟩:=xJ (l:=L) (n:=a) rs
 rw [aC] at d g
 cases B with
 | nil=>simp at d; omega
 | cons x C=>
  rw [aG] at d g
  obtain ⟨P,R,rfl,q⟩:=xJ (l:=C) (n:=t-(a+1)) rs
  rw [aC] at d g
  rw [mv2 x P Q R mZ a (t:Int) (by rw [pI]; omega) ss rs rs]
  exact ⟨_,Z,cH _ ft⟩
theorem acP (k:JX f c G) {L:List Formula} (j:∀x∈L,G x) (g:L.length≤400000) {a m:Nat} (h1:a < m) (d:m < L.length):∃L',nG L (m:Int) f mZ (a:Int) (m:Int)=some L'∧L'.Perm L:=by
 obtain ⟨pr,i⟩:=YK k j (λ_=>m) (λh=>h) a m (λh q1 q2=>⟨rs,rs⟩)
 obtain ⟨t,u,t1,t2,_,_,e⟩:=bs3 (f:=f) L (m:Int) (λh=>!pr h) a m rs (λh q1 q2=>by rw [fg]; exact i h q1 q2) m mZ a m rs (by rw [pI]; omega) (aY _) rs (aY _) (.inl Z) (.inl Z)
 rw [e,nG]
 simp only [Int.lt_irrefl,cX,aB,aK,tN]
 obtain ⟨Q,B,rfl,q⟩:=xJ (l:=L) (n:=t) rs
 rw [aC] at d g
 obtain ⟨S,C,rfl,s⟩:=xJ (l:=B) (n:=m-t) rs
 rw [aC] at d g
 cases C with
 | nil=>simp at d; omega
 | cons x R=>
  rw [aG] at d g
  rw [mv4 x S.length S Q R mZ m (t:Int) Z (by rw [pI]; omega) ss rs rs]
  exact ⟨_,Z,cH _ List.perm_middle.symm⟩
theorem WH (F:Nat) (P:1000000 < F) (L:List Formula) (rec:List Formula→Int→Int→Int→((Formula×Formula)→Option Int)→Option (List Formula)) (pl al g mid d p:Nat) (a b m:Int) (pr:Nat→Bool) (z:0 < al) (I:0 < g) (O:pl+(al+g)≤400000) (M:mid=(pl+(pl+al+g)) / 2) (J:d=pl+al) (hp:p+1=mid+d) (k:a+b=((2*mid:Nat):Int)∨a+b=((2*mid+1:Nat):Int)) (ha:a=(pl:Int)) (j:m=(d:Int)) (Q:b=((pl+al+g:Nat):Int)) (h:∀q,pl≤q→q < d→d≤p-q→p-q < d+g→Ask L f ((p-q:Nat):Int) (q:Int) (!pr q)) :
  ∃t s lo u:Nat,(lo=pl∧u=d∧d≤mid∨lo+(pl+al+g)=mid+d∧u=mid∧mid < d)∧lo≤t∧t≤u∧(t=lo∨pr (t-1)=true)∧(t=u∨pr t=false)∧
    ((if decide (m > (mid:Int)) then some (wi0 .i64 (((mid+d:Nat):Int)-b),(mid:Int)) else some (a,m):Option (Int×Int)).bind λx=>nr L a b m f rec F x.1 x.2) =
     nr L a b m f rec (s+1) (t:Int) (t:Int):=by
 by_cases y:mid < d
 ·obtain ⟨lo,v⟩:∃lo:Nat,lo+(pl+al+g)=mid+d:=⟨mid+d-(pl+al+g),rs⟩
  obtain ⟨t,s,t1,t2,t3,t4,e⟩:=bs5 (f:=f) L a b m rec mid d p k j hp pr lo mid rs rs rs rs (λq q1 q2=>h q rs rs rs rs)
   (mid-lo) F lo mid (aY _) rs (aY _) rs (aY _) (.inl Z) (.inl Z)
  refine ⟨t,s,lo,mid,.inr ⟨v,Z,y⟩,t1,t2,t3,t4,?_⟩
  have i:m > (mid:Int):=by omega
  simp only [i,cK,aR,aA]
  rw [rh lo rs rs,e]
 ·obtain ⟨t,s,t1,t2,t3,t4,e⟩:=bs5 (f:=f) L a b m rec mid d p k j hp pr pl d rs rs rs rs (λq q1 q2=>h q rs rs rs rs)
   (d-pl) F pl d (aY _) rs (aY _) rs (aY _) (.inl Z) (.inl Z)
  refine ⟨t,s,pl,d,.inl ⟨Z,Z,rs⟩,t1,t2,t3,t4,?_⟩
  have i:¬(m > (mid:Int)):=by omega
  simp only [i,cX,aB,aK,aA]
  rw [←e,←ha,←j]
set_option maxHeartbeats 2000000 in
theorem aaO (I:JX f c G):∀(k n a m b:Nat) (L:List Formula),b-a≤k→k < n→a < m→m < b→b≤L.length→L.length≤400000→(∀x∈L,G x)→
  ∃L',nJ n L (a:Int) (m:Int) (b:Int) f=some L'∧L'.Perm L:=by
 intro k
 induction k with
 | zero=>intro n a m b L h0; omega
 | succ k ih=>
  intro n a m b L h0 hn h1 h2 v s j
  obtain ⟨n,rfl⟩:=aX (by omega:n≠0)
  rw [nJ]
  unfold ui
  rw [rh (x:=(m:Int)-a) (m-a) rs rs,rh (x:=(b:Int)-m) (b-m) rs rs]
  by_cases c1:m-a=1
  ·rw [aO (by rw [c1]; rfl)]
   obtain rfl:m=a+1:=by omega
   exact acd I j s rs v
  rw [aH ss]
  by_cases c2:b-m=1
  ·rw [aO (by rw [c2]; rfl)]
   exact acP I j s h1 rs
  rw [aH ss]
  obtain ⟨F,hF,z⟩:∃F,F=mZ∧1000000 < F:=⟨mZ,Z,by rw [pI]; omega⟩
  rw [←hF]
  obtain ⟨mid,J⟩:∃mid:Nat,mid=(a+(a+(m-a)+(b-m))) / 2:=⟨_,Z⟩
  obtain ⟨p,hp⟩:∃p:Nat,p+1=mid+m:=⟨mid+m-1,rs⟩
  have g:(a:Int)+b=((2*mid:Nat):Int)∨(a:Int)+b=((2*mid+1:Nat):Int):=by omega
  have i:wi0 .i64 (Int.fdiv (IntKind.u64.wrap (wi0 .i64 ((a:Int)+b))) (2 ^ min (Int.toNat 1) (IntKind.bits .u64)))=(mid:Int):=by
   rcases g with h | h
   ·rw [I6 _ h rs,show 2*mid / 2=mid by omega]
   ·rw [I6 _ h rs,show (2*mid+1) / 2=mid by omega]
  have w1:wi0 .i64 ((mid:Int)+m)=((mid+m:Nat):Int):=rh _ rs rs
  obtain ⟨pr,M⟩:=YK I j (λq=>min (p-q) (L.length-1)) (λq=>q) a m (λh q1 q2=>⟨rs,rs⟩)
  obtain ⟨t,n',lo,hi,a1,t1,t2,_,_,e⟩:=WH (f:=f) F z L (nJ n) a (m-a) (b-m) mid m p a b m (λq=>!pr q) rs rs rs J rs hp g Z Z rs
   (λq q1 q2 q3 q4=>by
    have:=M q q1 q2
    rw [show min (p-q) (L.length-1)=p-q by omega] at this
    rw [fg]; exact this)
  simp only [i,w1]
  rw [e,abK (f:=f) _ a b m _ mid m t n' g Z rs rs rs]
  have r1:∃L1,(if t < m∧m < mid+m-t then pB L (t:Int) (m:Int) ((mid+m-t:Nat):Int) f else some L)=some L1∧L1.Perm L:=by
   by_cases d:t < m∧m < mid+m-t
   ·rw [aO d]
    obtain ⟨P,B,rfl,hP⟩:=xJ (l:=L) (n:=t) rs
    rw [aC] at v s
    obtain ⟨X,C,rfl,hX⟩:=xJ (l:=B) (n:=m-t) rs
    rw [aC] at v s
    obtain ⟨Y,R,rfl,hY⟩:=xJ (l:=C) (n:=mid-t) rs
    rw [aC] at v s
    rw [rot (f:=f) X Y P R (t:Int) (m:Int) ((mid+m-t:Nat):Int) rs rs ss rs rs rs]
    refine ⟨_,Z,cH _ ?_⟩
    rw [←aP,←aP]
    exact fZ _ dV
   ·rw [aH d]; exact ⟨L,Z,.refl _⟩
  obtain ⟨L1,Q,u⟩:=r1
  have l1:=u.length_eq
  rw [Q,aA]
  have r2:∃L2,(if (a:Int) < (t:Int)∧t < mid then nJ n L1 (a:Int) (t:Int) (mid:Int) f else some L1)=some L2∧L2.Perm L1:=by
   by_cases d:(a:Int) < (t:Int)∧t < mid
   ·rw [aO d]
    exact ih n a t mid L1 rs rs rs d.2 rs rs (λx O=>j x (u.mem_iff.1 O))
   ·rw [aH d]; exact ⟨L1,Z,.refl _⟩
  obtain ⟨L2,U,y⟩:=r2
  have l2:=y.length_eq
  rw [U,aA]
  by_cases d:mid < mid+m-t∧((mid+m-t:Nat):Int) < (b:Int)
  ·rw [aO d]
   obtain ⟨L3,W,p3⟩:=ih n mid (mid+m-t) b L2 rs rs d.1 rs rs rs (λx O=>j x (u.mem_iff.1 (y.mem_iff.1 O)))
   exact ⟨L3,W,p3.trans (y.trans u)⟩
  ·rw [aH d]; exact ⟨L2,Z,y.trans u⟩
theorem aa9 (y:JX f c G) (s N:Nat) (P:0 < s) (I:s≤1000000) (O:N≤400000):∀(k n a:Nat) (L:List Formula),N-a≤k→k < n→a≤N→L.length=N→(∀x∈L,G x)→
  ∃(L':List Formula) (h:Nat),oN (N:Int) (s:Int) f n L (a:Int) ((a+2*s:Nat):Int)=some (L',(h:Int))∧L'.Perm L∧h≤N:=by
 intro k
 induction k with
 | zero=>
  intro n a L t z ha i d
  obtain ⟨n,rfl⟩:=aX (by omega:n≠0)
  rw [oN,aH ss]
  exact ⟨L,a,Z,.refl _,ha⟩
 | succ k ih=>
  intro n a L t z ha i d
  obtain ⟨n,rfl⟩:=aX (by omega:n≠0)
  rw [oN]
  by_cases v:a+2*s≤N
  ·rw [aO ss]
   obtain ⟨L1,j,g⟩:=aaO y L.length mZ a (a+s) (a+2*s) L rs (by rw [pI]; omega) rs rs rs rs d
   rw [rh (x:=(a:Int)+s) (a+s) rs rs,j,aA]
   rw [rh (x:=2*(s:Int)) (2*s) rs rs,rh (x:=((a+2*s:Nat):Int)+((2*s:Nat):Int)) (a+2*s+2*s) rs rs]
   obtain ⟨L2,a2,q,M,u⟩:=ih n (a+2*s) L1 rs rs v (g.length_eq.trans i) (λx J=>d x (g.mem_iff.1 J))
   exact ⟨L2,a2,q,M.trans g,u⟩
  ·rw [aH ss]
   exact ⟨L,a,Z,.refl _,ha⟩
theorem TE (y:JX f c G) (N:Nat) (M:N≤400000):∀(k n s:Nat) (L:List Formula),N-s≤k→k < n→0 < s→s≤1000000→L.length=N→(∀x∈L,G x)→
  ∃L',oM (N:Int) f n L (s:Int)=some L'∧L'.Perm L:=by
 intro k
 induction k with
 | zero=>
  intro n s L J P z g v i
  obtain ⟨n,rfl⟩:=aX (by omega:n≠0)
  rw [oM,aH ss]
  exact ⟨L,Z,.refl _⟩
 | succ k ih=>
  intro n s L J P z g v i
  obtain ⟨n,rfl⟩:=aX (by omega:n≠0)
  rw [oM]
  by_cases U:s < N
  ·rw [aO ss,rh (x:=2*(s:Int)) (0+2*s) rs rs]
   obtain ⟨L1,a,u,j,ha⟩:=aa9 y s N z g M N mZ 0 L rs (by rw [pI]; omega) rs v i
   have W:=j.length_eq
   rw [show ((0:Nat):Int)=0 from rfl] at u
   rw [u,aA]
   simp only
   rw [rh (x:=(a:Int)+s) (a+s) rs rs]
   have tail:∃L2,((if (decide (((a+s:Nat):Int) < (N:Int))) then (nJ mZ L1 (a:Int) ((a+s:Nat):Int) (N:Int) f).bind λd=>some d else some L1):Option (List Formula))=some L2∧L2.Perm L1:=by
    by_cases O:a+s < N
    ·rw [aO ss]
     obtain ⟨L2,q,h⟩:=aaO y N mZ a (a+s) N L1 rs (by rw [pI]; omega) rs O rs rs (λx t=>i x (j.mem_iff.1 t))
     rw [q]; exact ⟨L2,Z,h⟩
    ·rw [aH ss]; exact ⟨L1,Z,.refl _⟩
   obtain ⟨L2,q,h⟩:=tail
   have Y:=h.length_eq
   rw [q,aA,rh (x:=(s:Int)*2) (s*2) rs rs]
   obtain ⟨L3,I,Q⟩:=ih n (s*2) L2 rs rs rs rs rs (λx t=>i x (j.mem_iff.1 (h.mem_iff.1 t)))
   exact ⟨L3,I,Q.trans (h.trans j)⟩
  ·rw [aH ss]
   exact ⟨L,Z,.refl _⟩
theorem ZV (j:JX f c G) (N:Nat) (z:N≤300000):∀(k n a:Nat) (L:List Formula),N-a≤k→k < n→a≤N→L.length=N→(∀x∈L,G x)→
  ∃L',oP (N:Int) f n L (a:Int) ((a+20:Nat):Int)=some L'∧L'.Perm L:=by
 intro k
 induction k with
 | zero=>
  intro n a L u y ha t h
  obtain ⟨n,rfl⟩:=aX (by omega:n≠0)
  rw [oP,aH ss]
  obtain ⟨L1,i,d⟩:=Yg j h rs (a:=a) (b:=N) rs rs
  obtain ⟨L2,g,s⟩:=TE j N rs N mZ 20 L1 rs (by rw [pI]; omega) rs rs (d.length_eq.trans t) (λx q=>h x (d.mem_iff.1 q))
  rw [show ((20:Nat):Int)=20 from rfl] at g
  rw [i,aA,g]
  exact ⟨L2,Z,s.trans d⟩
 | succ k ih=>
  intro n a L u y ha t h
  obtain ⟨n,rfl⟩:=aX (by omega:n≠0)
  rw [oP]
  by_cases v:a+20≤N
  ·rw [aO ss]
   obtain ⟨L1,i,d⟩:=Yg j h rs (a:=a) (b:=a+20) rs rs
   rw [i,aA,rh (x:=((a+20:Nat):Int)+20) (a+20+20) rs rs]
   obtain ⟨L2,g,s⟩:=ih n (a+20) L1 rs rs v (d.length_eq.trans t) (λx q=>h x (d.mem_iff.1 q))
   exact ⟨L2,g,s.trans d⟩
  ·rw [aH ss]
   obtain ⟨L1,i,d⟩:=Yg j h rs (a:=a) (b:=N) rs rs
   obtain ⟨L2,g,s⟩:=TE j N rs N mZ 20 L1 rs (by rw [pI]; omega) rs rs (d.length_eq.trans t) (λx q=>h x (d.mem_iff.1 q))
   rw [show ((20:Nat):Int)=20 from rfl] at g
   rw [i,aA,g]
   exact ⟨L2,Z,s.trans d⟩
theorem acE (d:JX f c G) (l:List Formula) (a:∀x∈l,G x) (g:l.length≤300000):∃r,tM l f=some r∧r.Perm l:=by
 unfold tM wH
 obtain ⟨r,e,p⟩:=ZV d l.length g l.length mZ 0 l rs (by rw [pI]; omega) rs Z a
 rw [show ((0:Nat):Int)=0 from rfl,show ((0+20:Nat):Int)=20 from rfl] at e
 rw [e]
 exact ⟨r,Z,p⟩
end
mutual
def G7:Formula→List Int
 | ⟨o,k,r,ks⟩=>o::(if o=1 then rl r else (if o=4 then [k] else [])++((ks.length:Int)::bytesFL ks))
def bytesFL:List Formula→List Int
 | []=>[]
 | k::ks=>G7 k++bytesFL ks
end
theorem VP (f:Formula):G7 f=f.Op::(if f.Op=1 then rl f.lh else (if f.Op=4 then [f.K] else [])++((f.Kids.length:Int)::bytesFL f.Kids)):=by cases f; rw [G7]
theorem L5 {f:Formula} (h:CP f=true):f.Kids.length≤8∧wellL f.Kids=true∧((f.Op=1∧ou f.lh=true∧f.Kids=[]∧f.K=0)∨((f.Op=2∨f.Op=3)∧f.lh=Da∧f.K=0)∨(f.Op=4∧f.lh=Da∧0≤f.K∧f.K≤(f.Kids.length:Int)∧1≤f.Kids.length)):=by
 rw [R0] at h
 simp only [bI,bV] at h
 obtain ⟨⟨h1,a⟩,d⟩:=h
 refine ⟨a,d,?_⟩
 unfold LL at h1
 split at h1
 ·rename_i c
  simp only [bI,bV] at h1
  exact .inl ⟨c,h1.1.1,bZ h1.1.2,h1.2⟩
 ·split at h1
  ·rename_i c
   simp only [bI,bV,mw] at h1
   exact .inr (.inl ⟨c,h1.1,h1.2⟩)
  ·simp only [bI,bV,mw] at h1
   exact .inr (.inr ⟨h1.1.1.1.1,h1.1.1.1.2,h1.1.1.2,h1.1.2,h1.2⟩)
theorem aaR:∀(n:Nat) (f:Formula),xH f≤n→CP f=true→∀l:List Int,l.length+40*nl f≤8000→ve n l f=some (l++G7 f)∧(G7 f).length≤40*nl f:=by
 intro n
 induction n with
 | zero=>intro f h; rw [uw] at h; omega
 | succ n ih=>
  intro f hd hw l v
  rw [uw] at hd
  have y:=vg f
  obtain ⟨h1,u,s⟩:=L5 hw
  rw [ve]
  unfold Bh
  have g:0≤f.Op∧f.Op < 128:=by rcases s with h | h | h <;> omega
  rw [sS g.1 g.2 rs,aA,VP]
  have key:∀(ks:List Formula),(∀k∈ks,k∈f.Kids)→wellL ks=true→∀l:List Int,l.length+40*nodesL ks≤8000→vO (ve n) ks l=some (l++bytesFL ks)∧(bytesFL ks).length≤40*nodesL ks:=by
   intro ks
   induction ks with
   | nil=>intro _ _ l _; rw [vO,bytesFL]; simp
   | cons k ks t=>
    intro hk a l v
    rw [wellL,bI] at a
    rw [nodesL] at v
    obtain ⟨j,J⟩:=ih k (by have:=B2 (hk k rv); omega) a.1 l rs
    obtain ⟨d,q⟩:=t (λz I=>hk z (by simp [I])) a.2 (l++G7 k) ss
    rw [vO,j,aA,d,bytesFL,nodesL]
    exact ⟨rv,ss⟩
  have hlen:0≤(f.Kids.length:Int)∧(f.Kids.length:Int) < 128:=by omega
  by_cases c1:f.Op=1
  ·have x:ou f.lh=true:=by rcases s with h | h | h; exact h.2.1; omega; omega
   have:=rR x
   simp only [c1,bB,aR]
   rw [Nd x ss,aA]
   exact ⟨rv,ss⟩
  ·have j:(f.Op==1)=false:=by simpa using c1
   simp only [j,aB,aK,c1]
   by_cases i:f.Op=4
   ·have hk:0≤f.K∧f.K < 128:=by rcases s with h | h | h <;> omega
    simp only [i,bB,aR]
    rw [sS hk.1 hk.2 ss]
    simp only [aA]
    rw [sS hlen.1 hlen.2 ss]
    simp only [aA]
    obtain ⟨d,q⟩:=key f.Kids (λk hk=>hk) u (l++[4]++[f.K]++[(f.Kids.length:Int)]) ss
    rw [d]
    exact ⟨rv,ss⟩
   ·have q:(f.Op==4)=false:=by simpa using i
    simp only [q,aB,aK,i,aA]
    rw [sS hlen.1 hlen.2 ss]
    simp only [aA]
    obtain ⟨d,M⟩:=key f.Kids (λk hk=>hk) u (l++[f.Op]++[(f.Kids.length:Int)]) ss
    rw [d]
    exact ⟨rv,ss⟩
def TV (f:Formula):List Int:=if rV f then G7 f else []
abbrev Gd (f:Formula):Prop:=nl f≤50000000
theorem JF {f:Formula} (h:rV f=true):nl f≤64∧xH f≤6∧CP f=true:=by
 unfold rV at h
 simp only [bI,bV] at h
 exact ⟨h.1.1,h.1.2,h.2⟩
theorem aaH (f:Formula) (g:Gd f) (l:List Int) (k:l.length≤5000):BV l f=some (rV f,l++TV f)∧(TV f).length≤2560:=by
 unfold BV TV
 rw [D2 f g,aA]
 cases h:rV f
 ·simp
 ·obtain ⟨h1,j,d⟩:=JF h
  obtain ⟨a,i⟩:=aaR mZ f (by rw [pI]; omega) d l rs
  simp only [bM,aB,aK,a,aA,aR]
  exact ⟨trivial,rs⟩
theorem Oi (f:Formula) (d:Gd f):yt f=some (TV f):=by
 unfold yt
 obtain ⟨a,g⟩:=aaH f d [] rv
 rw [a,aA,tN]
 unfold si
 simp only [bL]
 rw [FP rs]
 rfl
def cFo (f g:Formula):Int:=D4 (TV f) (TV g)
theorem Vz (f g:Formula) (a:Gd f) (d:Gd g):Av f g=some (cFo f g):=by
 unfold Av BY
 rw [Oi f a,Oi g d]
 rfl
noncomputable def F9 (l:List Formula):List Formula:=match vW l with
 | some r=>@ite _ (r.Perm l) (Classical.propDecidable _) r l
 | none=>l
theorem KS (l:List Formula):(F9 l).Perm l:=by
 unfold F9
 cases vW l with
 | none=>exact .refl _
 | some r=>
  simp only
  split
  ·assumption
  ·exact .refl _
theorem QR (l:List Formula) (a:∀x∈l,Gd x) (d:l.length≤300000):vW l=some (F9 l):=by
 have:∃r,vW l=some r∧r.Perm l:=by
  unfold vW xC
  rw [od ss ss]
  simp only [aA,bL,tN]
  exact acE (λx y g h=>Vz x y g h) l a d
 obtain ⟨r,e,p⟩:=this
 unfold F9
 rw [e]
 simp only [p,aR]
noncomputable def Gm (a b:Formula):Bool:=@decide (a=b) (Classical.propDecidable _)
theorem ZS {a b:Formula}:Gm a b=true↔a=b:=by unfold Gm; simp
theorem ZW (a b:Formula) (h:Gd a):tO mZ a b=some (Gm a b):=by
 have:=GO a
 obtain ⟨x,e,d⟩:=ZQ mZ a (by rw [pI]; omega) b
 rw [e]; congr 1
 rw [eC,d,ZS]
def zF0:Formula:=⟨0,0,⟨zS,zS⟩,[]⟩
theorem Yr (f1:Formula×Formula→Option Bool) (i:Int):∀(n:Nat) (l:List Formula) (k j:Int),(∀x∈l,∀y∈l,f1 (x,y)=some (Gm x y))→pc i f1 n l k j=Fj Gm i n l k j
 | 0,l,k,j,_=>by rw [pc,Fj]
 | n+1,l,k,j,h=>by
  rw [pc,Fj]
  split
  ·cases g:nY (l.drop (Int.toNat i)) j with
   | none=>rfl
   | some x=>
    cases q:nY (l.drop (Int.toNat i)) (wi0 .i64 (j-1)) with
    | none=>rfl
    | some y=>
     have d:x∈l:=iQ (eH (mE g))
     have t:y∈l:=iQ (eH (mE q))
     simp only [aA,h x d y t]
     cases Gm x y
     ·simp only [fy,aR]
      cases u:nY l k with
      | none=>rfl
      | some z=>
       simp only [aA]
       refine Yr f1 i n _ _ _ (λa ha b s=>?_)
       have m:∀a∈l.set (Int.toNat k) x,a∈l:=λa ha=>by
        rcases List.mem_or_eq_of_mem_set ha with ha | rfl
        ·exact ha
        ·exact d
       exact h a (m a ha) b (m b s)
     ·simp only [bM,aB,aK,aA]
      exact Yr f1 i n _ _ _ h
  ·rfl
theorem abC (f1:Formula×Formula→Option Bool) (l:List Formula) (h:∀x∈l,∀y∈l,f1 (x,y)=some (Gm x y)):∀(n:Nat) (i:Int),oZ l f1 n i=F3 Gm zF0 l n i
 | 0,i=>by rw [oZ,F3]
 | n+1,i=>by
  rw [oZ,F3]
  split
  ·cases a:nY l i with
   | none=>rfl
   | some x=>
    cases d:nY l (wi0 .i64 (i-1)) with
    | none=>rfl
    | some y=>
     have g:x∈l:=eH (mE a)
     have j:y∈l:=eH (mE d)
     simp only [aA,h x g y j]
     rw [Yr f1 i mZ l i 1 h,abC f1 l h n]
     rfl
  ·rfl
theorem U9 (l:List Formula) (h:∀x∈l,Gd x) (d:l.length≤300000):uP l (λx=>tO mZ x.1 x.2)=some (dd Gm l):=by
 rw [←Nf Gm zF0 l rs]
 unfold uP MW
 rw [abC _ l λx a y _=>ZW x y (h x a)]
def ua (op:Int) (f:Formula):Bool:=decide (f.Op=op)&&f.Kids.isEmpty
theorem M8 (f:Formula) (op:Int):yO f op=some (ua op f):=by
 unfold yO ua
 rw [tN]
 by_cases h:f.Op=op
 ·simp only [h,bB,aR,cK,gu]
  congr 1
  cases hk:f.Kids with
  | nil=>rfl
  | cons a l=>simp; omega
 ·have e:(f.Op==op)=false:=by simpa using h
  simp [e,h]
def zg (op:Int):List Formula→List Formula
 | []=>[]
 | k::ks=>(if k.Op=op then k.Kids else [k])++zg op ks
theorem Ju (op:Int):∀ks:List Formula,nodesL (zg op ks)≤nodesL ks
 | []=>aY _
 | k::ks=>by
  have ih:=Ju op ks
  have e:∀a b:List Formula,nodesL (a++b)=nodesL a+nodesL b:=by
   intro a b
   induction a with
   | nil=>rw [bL,nodesL]; omega
   | cons x a d=>rw [bU,nodesL,nodesL,d]; omega
  have:=vg k
  rw [zg,e,nodesL]
  split
  ·omega
  ·rw [nodesL,nodesL]; omega
theorem OP (op:Int):∀(ks acc:List Formula),acc.length+nodesL ks≤100000000→vL op ks acc=some (acc++zg op ks)
 | [],acc,_=>by rw [vL,zg,cN]
 | k::ks,acc,h=>by
  rw [nodesL] at h
  have h1:=vg k
  have a:=B3 k.Kids
  rw [vL,zg]
  by_cases c:k.Op=op
  ·simp only [c,bB,aR]
   rw [od rs rs,aA,OP op ks _ ss,aP]
  ·have e:(k.Op==op)=false:=by simpa using c
   simp only [e,aB,aK,c]
   rw [od ss ss,aA,OP op ks _ ss,aP]
noncomputable def AE (op:Int) (ks:List Formula):Formula :=
 if (zg op ks).any (ua (5-op)) then ⟨5-op,0,Da,[]⟩ else
  match dd Gm (F9 (zg op ks)) with
  | [x]=>x
  | r=>⟨op,0,Da,r⟩
theorem abJ {α:Type} (eq:α→α→Bool) (l:List α):(dd eq l).length≤l.length:=by
 cases l with
 | nil=>exact aY _
 | cons x l=>
  have:∀(l:List α) (x:α),(uY eq x l).length≤l.length:=by
   intro l
   induction l with
   | nil=>intro x; exact aY _
   | cons y l ih=>intro x; rw [uY]; have:=ih y; have:=ih x; split <;> simp <;> omega
  have:=this l x
  rw [dd,aG,aG]; omega
theorem KO (s:nq) (op:Int) (i:op=2∨op=3) (ks:List Formula) (h:nodesL ks≤64):sF s op ks=some (AE op ks,s):=by
 have h1:=Ju op ks
 have j:=B3 (zg op ks)
 have d:∀x∈zg op ks,Gd x:=λx a=>by have:=D6 a; unfold Gd; omega
 have hw:wi0 .i64 (5-op)=5-op:=mM rs rs
 unfold sF Gf AE
 rw [OP op ks [] ss,aA,bL,hw,Mf _ (ua (5-op)) _ (λx _=>by unfold yz; rw [M8,tN]),aA]
 cases k:(zg op ks).any (ua (5-op))
 ·simp only [aB,aK]
  have hp:=KS (zg op ks)
  have q:=hp.length_eq
  rw [QR _ d rs,aA,U9 _ (λx a=>d x (hp.mem_iff.1 a)) rs,aA]
  have hd:=abJ Gm (F9 (zg op ks))
  have g:¬(((dd Gm (F9 (zg op ks))).length:Int) > 64):=by omega
  simp only [g,cX,aB,aK,aA]
  generalize dd Gm (F9 (zg op ks))=r
  match r with
  | []=>rfl
  | [x]=>rfl
  | x::y::r=>
   have:(((x::y::r).length:Int)==1)=false:=by simp; omega
   simp only [this,aB,aK]
   rfl
 ·rfl
noncomputable def DZ (k:Int) (ks:List Formula):Formula :=
 let n:=k-((ks.filter (ua 2)).length:Int)
 let l:=ks.filter λx=>!ua 2 x&&!ua 3 x
 if n≤0 then ⟨2,0,Da,[]⟩ else if n > (l.length:Int) then ⟨3,0,Da,[]⟩ else if n=(l.length:Int) then AE 2 l else if n=1 then AE 3 l else ⟨4,n,Da,F9 l⟩
theorem Hm (p:Formula→Bool):∀ks:List Formula,nodesL (ks.filter p)≤nodesL ks
 | []=>aY _
 | k::ks=>by
  have:=Hm p ks
  rw [gL]
  split
  ·rw [nodesL,nodesL]; omega
  ·rw [nodesL]; omega
theorem GA (s:nq):∀(ks acc:List Formula) (k:Int),-1000≤k-(ks.length:Int)→k≤1000→acc.length+ks.length≤1000→nodesL (acc++ks.filter λx=>!ua 2 x&&!ua 3 x)≤64→
  oX s ks k acc=some (let n:=k-((ks.filter (ua 2)).length:Int); let l:=acc++ks.filter λx=>!ua 2 x&&!ua 3 x; if n≤0 then ⟨2,0,Da,[]⟩ else if n > (l.length:Int) then ⟨3,0,Da,[]⟩ else if n=(l.length:Int) then AE 2 l else if n=1 then AE 3 l else ⟨4,n,Da,F9 l⟩,s)
 | [],acc,k,h1,h,i,a=>by
  simp only [List.filter_nil,cN,cM] at a ⊢
  rw [oX]
  simp only [Int.ofNat_zero,Int.sub_zero,Ey,E8,aA,Int.natCast_zero]
  have u:=B3 acc
  by_cases c1:k≤0
  ·simp only [c1,cK,aR]; rfl
  ·simp only [c1,cX,aB,aK]
   by_cases c2:k > (acc.length:Int)
   ·simp only [c2,cK,aR]; rfl
   ·simp only [c2,cX,aB,aK]
    by_cases d:k=(acc.length:Int)
    ·simp only [←d,bB,aR]
     rw [KO s 2 (.inl Z) acc a,aA]
    ·have j:(k==(acc.length:Int))=false:=by simpa using d
     simp only [j,aB,aK,d]
     by_cases g:k=1
     ·simp only [g,bB,aR]
      rw [KO s 3 (.inr Z) acc a,aA]
     ·have q:(k==1)=false:=by simpa using g
      simp only [q,aB,aK,g]
      rw [QR acc (λx t=>by have:=D6 t; unfold Gd; omega) rs]
      rfl
 | x::ks,acc,k,h1,h,i,a=>by
  simp only [aG] at h1 i
  rw [oX,M8,aA,M8,aA]
  rw [gL,gL] at *
  cases c2:ua 2 x
  ·cases d:ua 3 x
   ·simp only [c2,d,fy,Bool.and_self,aB,aK,aR] at a ⊢
    rw [od ss ss,aA,GA s ks _ k rs h ss (by rw [aP]; exact a)]
    simp only [aP,bU,bL]
   ·simp only [c2,d,fy,bM,Bool.and_false,aB,aK] at a ⊢
    rw [GA s ks _ k rs h rs a]
  ·simp only [c2,bM,iv,aB,aK,aR] at a ⊢
   rw [mM rs rs,GA s ks _ (k-1) rs rs rs a]
   simp only [aG]
   have e:k-1-((ks.filter (ua 2)).length:Int)=k-(((ks.filter (ua 2)).length+1:Nat):Int):=by omega
   rw [e]
theorem Ve (s:nq) (k:Int) (hk:0≤k∧k≤1000) (ks:List Formula) (h:nodesL ks≤64):we s k ks=some (DZ k ks,s):=by
 have:=B3 ks
 have:=Hm (λx=>!ua 2 x&&!ua 3 x) ks
 unfold we DZ
 rw [GA s ks [] k rs rs ss (by simpa using by omega)]
 rfl
mutual
noncomputable def AL:Formula→Formula
 | ⟨o,k,r,ks⟩=>if o=1 then ⟨o,k,r,ks⟩ else if o=4 then DZ k (shapeL ks) else AE o (shapeL ks)
noncomputable def shapeL:List Formula→List Formula
 | []=>[]
 | k::ks=>AL k::shapeL ks
end
theorem P6 (f:Formula):AL f=if f.Op=1 then f else if f.Op=4 then DZ f.K (shapeL f.Kids) else AE f.Op (shapeL f.Kids):=by cases f; rw [AL]
theorem Mm {a b:List Formula} (h:a.Perm b):nodesL a=nodesL b:=by
 induction h with
 | nil=>rfl
 | cons x _ ih=>rw [nodesL,nodesL,ih]
 | swap x y l=>rw [nodesL,nodesL,nodesL,nodesL]; omega
 | trans _ _ h1 d=>rw [h1,d]
theorem JR (eq:Formula→Formula→Bool):∀(l:List Formula) (x:Formula),nodesL (uY eq x l)≤nodesL l
 | [],x=>aY _
 | y::l,x=>by
  have h1:=JR eq l y
  have a:=JR eq l x
  rw [uY]
  split
  ·rw [nodesL]; omega
  ·rw [nodesL,nodesL]; omega
theorem Yj (eq:Formula→Formula→Bool) (l:List Formula):nodesL (dd eq l)≤nodesL l:=by
 cases l with
 | nil=>exact aY _
 | cons x l=>have:=JR eq l x; rw [dd,nodesL,nodesL]; omega
theorem Hk (op:Int) (ks:List Formula):nl (AE op ks)≤1+nodesL ks:=by
 unfold AE
 split
 ·rw [nl,nodesL]; omega
 ·have h1:=Yj Gm (F9 (zg op ks))
  have a:=Mm (KS (zg op ks))
  have d:=Ju op ks
  generalize dd Gm (F9 (zg op ks))=r at *
  split
  ·rename_i x
   rw [nodesL,nodesL] at h1; omega
  ·rw [nl]; omega
theorem QB (k:Int) (ks:List Formula):nl (DZ k ks)≤1+nodesL ks:=by
 have h:=Hm (λx=>!ua 2 x&&!ua 3 x) ks
 unfold DZ
 simp only
 generalize ks.filter (λx=>!ua 2 x&&!ua 3 x)=l at *
 generalize k-((ks.filter (ua 2)).length:Int)=n
 split
 ·rw [nl,nodesL]; omega
 ·split
  ·rw [nl,nodesL]; omega
  ·split
   ·have:=Hk 2 l; omega
   ·split
    ·have:=Hk 3 l; omega
    ·have:=Mm (KS l); rw [nl]; omega
theorem Ir:∀f:Formula,nl (AL f)≤nl f:=by
 refine QZ λf ih=>?_
 have h:∀ks:List Formula,(∀k∈ks,nl (AL k)≤nl k)→nodesL (shapeL ks)≤nodesL ks:=by
  intro ks
  induction ks with
  | nil=>intro _; rw [shapeL]; exact aY _
  | cons k ks a=>
   intro h
   have:=a (λx d=>h x (by simp [d]))
   have:=h k rv
   rw [shapeL,nodesL,nodesL]; omega
 have h:=h f.Kids ih
 rw [P6,vg f]
 split
 ·rw [vg]; omega
 ·split
  ·have:=QB f.K (shapeL f.Kids); omega
  ·have:=Hk f.Op (shapeL f.Kids); omega
theorem Q2 (ks:List Formula):nodesL (shapeL ks)≤nodesL ks:=by
 induction ks with
 | nil=>rw [shapeL]; exact aY _
 | cons k ks ih=>have:=Ir k; rw [shapeL,nodesL,nodesL]; omega
theorem YD:∀(n:Nat) (f:Formula),xH f≤n→nl f≤64→CP f=true→∀s:nq,pK n s f=some (AL f,s):=by
 intro n
 induction n with
 | zero=>intro f h; rw [uw] at h; omega
 | succ n ih=>
  intro f hd J hw s
  rw [uw] at hd
  have y:=vg f
  obtain ⟨h1,x,t⟩:=L5 hw
  rw [pK]
  unfold xw
  rw [P6]
  by_cases c1:f.Op=1
  ·simp only [c1,bB,aR]
  ·have u:(f.Op==1)=false:=by simpa using c1
   simp only [u,aB,aK,c1]
   have key:∀(ks acc:List Formula),(∀k∈ks,k∈f.Kids)→wellL ks=true→nodesL (acc++shapeL ks)≤64→nodesL ks≤64→rN (pK n) f ks acc s=some (if f.Op=4 then DZ f.K (acc++shapeL ks) else AE f.Op (acc++shapeL ks),s):=by
    intro ks
    induction ks with
    | nil=>
     intro acc _ _ g _
     rw [shapeL,cN] at *
     rw [rN]
     by_cases i:f.Op=4
     ·simp only [i,bB,aR]
      rw [Ve s f.K (by rcases t with h | h | h <;> omega) acc g,aA]
     ·have v:(f.Op==4)=false:=by simpa using i
      simp only [v,aB,aK,i]
      rw [KO s f.Op (by rcases t with h | h | h <;> omega) acc g,aA]
    | cons k ks q=>
     intro acc hk a g j
     rw [wellL,bI] at a
     rw [nodesL] at j
     rw [shapeL] at g
     have d:=B3 (acc++AL k::shapeL ks)
     simp only [aC,aG] at d
     rw [rN,ih k (by have:=B2 (hk k rv); omega) rs a.1 s,aA,od ss ss,aA,
      q (acc++[AL k]) (λz I=>hk z (by simp [I])) a.2 (by rw [aP]; exact g) rs,shapeL]
     simp only [aP,bU,bL]
   have:=Q2 f.Kids
   have:=key f.Kids [] (λk hk=>hk) x (by simpa using by omega) rs
   simpa using this
def P5:Formula:=⟨0,0,Da,[]⟩
noncomputable def Kl (f:Formula):Formula×Int:=if rV f then if rV (AL f) then (AL f,0) else (P5,12) else (P5,11)
theorem Tw (f:Formula) (h:Gd f):Dw f=some (Kl f):=by
 unfold Dw Kl
 rw [D2 f h,aA]
 cases d:rV f
 ·rfl
 ·obtain ⟨h1,g,a⟩:=JF d
  have i:=Ir f
  simp only [bM,aB,aK,aR]
  rw [YD mZ f (by rw [pI]; omega) h1 a,aA,D2 (AL f) rs]
  have e:(((⟨0⟩:nq).e) != 0)=false:=rfl
  simp only [e,aB,aK,aA]
  cases rV (AL f) <;> rfl
theorem HL {f:Formula}:nl (Kl f).1≤64:=by
 unfold Kl
 cases h:rV f
 ·exact by simp only [aB,aK,P5]; rw [nl,nodesL]; omega
 ·obtain ⟨h1,a,d⟩:=JF h
  have:=Ir f
  simp only [aR]
  split
  ·show nl (AL f)≤64; omega
  ·rw [P5,nl,nodesL]; omega
theorem aal (f g:Formula) (a:nl f≤10000000) (d:nl g≤10000000):DF f g=some (Kl ⟨2,0,Da,[f,g]⟩):=by
 unfold DF
 have:=Tw ⟨2,0,Da,[f,g]⟩ (by show nl _≤_; rw [nl,nodesL,nodesL,nodesL]; omega)
 rw [show (⟨2,0,(⟨zS,zS⟩:lh),[f,g]⟩:Formula)=⟨2,0,Da,[f,g]⟩ from rfl,this]
 rfl
mutual
def J2 (v:lh→Bool):Formula→Bool
 | ⟨o,k,r,ks⟩=>if o=1 then v r else if o=2 then decide (evN v ks=ks.length) else if o=3 then decide (0 < evN v ks) else decide (k≤(evN v ks:Int))
def evN (v:lh→Bool):List Formula→Nat
 | []=>0
 | k::ks=>(if J2 v k then 1 else 0)+evN v ks
end
theorem RV (v:lh→Bool) (f:Formula):J2 v f=if f.Op=1 then v f.lh else if f.Op=2 then decide (evN v f.Kids=f.Kids.length) else if f.Op=3 then decide (0 < evN v f.Kids) else decide (f.K≤(evN v f.Kids:Int)):=by cases f; rw [J2]
theorem Xb (v:lh→Bool):∀ks:List Formula,evN v ks≤ks.length
 | []=>by rw [evN]; exact aY _
 | k::ks=>by have:=Xb v ks; rw [evN,aG]; split <;> omega
theorem aad {v w:lh→Bool} (h:∀r,v r=true→w r=true):∀f:Formula,J2 v f=true→J2 w f=true:=by
 refine QZ λf ih=>?_
 have key:evN v f.Kids≤evN w f.Kids:=by
  have:∀ks:List Formula,(∀k∈ks,J2 v k=true→J2 w k=true)→evN v ks≤evN w ks:=by
   intro ks
   induction ks with
   | nil=>intro _; rw [evN,evN]; exact aY _
   | cons k ks a=>
    intro hk
    have h1:=a (λx i=>hk x (by simp [i]))
    have d:=hk k rv
    rw [evN,evN]
    cases g:J2 v k
    ·simp; omega
    ·rw [d g]; simp; omega
  exact this _ ih
 have hle:=Xb w f.Kids
 rw [RV,RV]
 split
 ·exact h _
 ·split
  ·simp only [bV]; omega
  ·split
   ·simp only [bV]; omega
   ·simp only [bV]; omega
theorem Kp (v:lh→Bool) (f1:lh→Option Bool) (rec:Formula→(lh→Option Bool)→Option Bool) (f:Formula):∀(ks:List Formula) (x:Nat),(∀k∈ks,rec k f1=some (J2 v k))→x+ks.length≤100000000→
  uC rec f1 f ks (x:Int)=some (if f.Op=2 then decide (x+evN v ks=f.Kids.length) else if f.Op=3 then decide (0 < x+evN v ks) else decide (f.K≤((x+evN v ks:Nat):Int)))
 | [],x,_,_=>by
  rw [uC,evN,kG]
  by_cases c2:f.Op=2
  ·simp only [c2,bB,aR]
   congr 1
   rw [eC,iC,bV]; omega
  ·have d:(f.Op==2)=false:=by simpa using c2
   simp only [d,aB,aK,c2]
   by_cases a:f.Op=3
   ·simp only [a,bB,aR]
    congr 1
    rw [eC,bV,bV]; omega
   ·have i:(f.Op==3)=false:=by simpa using a
    simp only [i,aB,aK,a]
 | k::ks,x,h,j=>by
  rw [aG] at j
  rw [uC,h k rv,aA,evN]
  cases J2 v k
  ·simp only [aB,aK]
   rw [Kp v f1 rec f ks x (λz g=>h z (by simp [g])) rs,fJ]
  ·simp only [aR]
   have e:wi0 .i64 ((x:Int)+1)=((x+1:Nat):Int):=by rw [mM rs rs]; omega
   rw [e,Kp v f1 rec f ks (x+1) (λz g=>h z (by simp [g])) rs]
   have d:x+1+evN v ks=x+(1+evN v ks):=by omega
   rw [d]
theorem Wl (v:lh→Bool) (f1:lh→Option Bool) (i:∀r,f1 r=some (v r)):∀(n:Nat) (f:Formula),xH f≤n→Gd f→vh n f f1=some (J2 v f):=by
 intro n
 induction n with
 | zero=>intro f h; rw [uw] at h; omega
 | succ n ih=>
  intro f hd d
  rw [uw] at hd
  have g:=vg f
  have j:=B3 f.Kids
  unfold Gd at d
  rw [vh]
  unfold A8
  rw [RV]
  by_cases c1:f.Op=1
  ·simp only [c1,bB,aR,i,aA]
  ·have a:(f.Op==1)=false:=by simpa using c1
   simp only [a,aB,aK,c1]
   have:=Kp v f1 (vh n) f f.Kids 0 (λk hk=>ih k (by have:=B2 hk; omega) (by have:=D6 hk; unfold Gd; omega)) rs
   simpa using this
def CB (v:lh→Bool) (f:Formula):Bool:=rV f&&J2 v f
theorem I4 (v:lh→Bool) (f1:lh→Option Bool) (a:∀r,f1 r=some (v r)) (f:Formula) (h:Gd f):tR f f1=some (CB v f):=by
 unfold tR CB
 rw [D2 f h,aA]
 have:=GO f
 cases rV f
 ·rfl
 ·unfold Gd at h
  simp only [aR,Wl v f1 a mZ f (by rw [pI]; omega) h,aA,gu]
def S8 (l:List Signed):Prop:=∀s∈l,B8 s.Tag
theorem G8 (b:List lg) (x:lg):xE b x=some (ph ni b x):=by
 obtain ⟨q,e,h⟩:=RS x b
 unfold tq at e
 rw [tN] at e
 rw [e,show q=ph ni b x from by rw [eC,h,xx pH]]
structure PB (p:lm):Prop where
 Bd:p.lK.length≤2000000
 F6:p.mi.length≤2000000
 rel:∀x∈p.lK,nl x.lB≤10000000
 U7:∀a∈p.mi,nl a.lB≤10000000
 VZ:∀a∈p.mi,a.nP.length≤2000000
theorem MY (f:np→Option Bool):∀(l:List np) (i:Nat),pR f l i=Df f l i
 | [],i=>by rw [pR]; rfl
 | x::l,i=>by
  rw [pR,Df]
  cases f x with
  | none=>rfl
  | some b=>
   simp only [aA]
   rw [MY f l (i+1)]
theorem I8 (f:oe→Option Bool):∀(l:List oe) (i:Nat),sn f l i=Df f l i
 | [],i=>by rw [sn]; rfl
 | x::l,i=>by
  rw [sn,Df]
  cases f x with
  | none=>rfl
  | some b=>
   simp only [aA]
   rw [I8 f l (i+1)]
theorem M9 {α:Type} (f:α→Option Bool) (p:α→Bool) (l:List α) (h:∀x∈l,f x=some (p x)):((Df f l 0).bind λg=>some (decide (g≥0)))=some (l.any p):=by
 rcases He f p l 0 h with ⟨e,h1⟩ | ⟨A,x,B,rfl,h1,a,e⟩
 ·rw [e,aA]
  have:l.any p=false:=by rw [iw]; intro x d; rw [h1 x d]; simp
  rw [this]; rfl
 ·rw [e,aA]
  have:(A++x::B).any p=true:=by simp [a]
  rw [this]
  congr 1
theorem Vj (f:np→Option Bool) (p:np→Bool) (l:List np) (h:∀x∈l,f x=some (p x)):um l f=some (l.any p):=by
 unfold um tK
 rw [MY]; exact M9 f p l h
theorem UL (f:oe→Option Bool) (p:oe→Bool) (l:List oe) (h:∀x∈l,f x=some (p x)):wi l f=some (l.any p):=by
 unfold wi tS
 rw [I8]; exact M9 f p l h
def yg (p:lm) (c:lg):Option np:=p.lK.find? λx=>ni x.Signed.lg c
theorem aay (p:lm) (c:lg):∃z,Es p c=some (match yg p c with | some x=>(x,true) | none=>(z,false)):=by
 unfold Es tK yg
 rw [MY]
 rcases He (λx=>EB x c) (λx=>ni x.Signed.lg c) p.lK 0 (λx _=>rfl) with ⟨e,h1⟩ | ⟨A,x,B,hp,h1,d,e⟩
 ·rw [e,aA,fz.2 (λx a=>by rw [h1 x a]; simp)]
  exact ⟨_,Z⟩
 ·rw [e,aA,hp,ki,fz.2 (λx a=>by rw [h1 x a]; simp),gj,d]
  have:¬(((0+A.length:Nat):Int) < 0):=by omega
  simp only [this,cX,aB,aK]
  rw [pz A x B _ rs]
  exact ⟨x,Z⟩
def XG:oe:=⟨⟨zS,zS⟩,⟨0,0,⟨zS,zS⟩,[]⟩,[]⟩
theorem MH (f:oe→Option Bool):∀(n:Nat) (l:List oe) (i j:Int),rM f n l i j=Hf f XG n l i j
 | 0,_,_,_=>rfl
 | n+1,l,i,j=>by
  rw [rM,Hf]
  simp only [MH f n]
  rfl
def NJ (p:lm) (c:lg):List oe:=p.mi.filter λa=>ph ni a.nP c
theorem YF (p:lm) (hp:PB p) (c:lg):DI p c=some (NJ p c):=by
 have:=hp.F6
 unfold DI sU NJ
 rw [od ss ss]
 simp only [aA,bL,tN]
 have:pu p.mi (λx=>zf x c)=Ie (λx=>zf x c) XG p.mi:=by
  unfold pu Ie tS
  simp only [I8,MH]
 rw [this,Ce _ (λa=>!ph ni a.nP c) XG _ rs (λa _=>by unfold zf tq; rw [tN,G8]; rfl)]
 simp only [fg]
noncomputable def BX:Formula×Int→List Formula→Formula×Int
 | t,[]=>t
 | t,g::l=>if t.2=0 then BX (Kl ⟨2,0,Da,[t.1,g]⟩) l else t
theorem Tk:∀(l:List Formula) (e o k:Int) (r:lh) (ks:List Formula),(∀g∈l,nl g≤10000000)→nl ⟨o,k,r,ks⟩≤64→
  yM l e o k r ks=some ((BX (⟨o,k,r,ks⟩,e) l).2,(BX (⟨o,k,r,ks⟩,e) l).1.Op,(BX (⟨o,k,r,ks⟩,e) l).1.K,(BX (⟨o,k,r,ks⟩,e) l).1.lh,(BX (⟨o,k,r,ks⟩,e) l).1.Kids)
 | [],e,o,k,r,ks,_,_=>by rw [yM,BX]
 | g::l,e,o,k,r,ks,h,u=>by
  rw [yM,BX]
  by_cases c:e=0
  ·have a:(e != 0)=false:=by simp [c]
   simp only [a,aB,aK,c,aR]
   rw [aal _ g rs (h g rv),aA]
   have i:=HL (f:=⟨2,0,Da,[⟨o,k,r,ks⟩,g]⟩)
   generalize Kl ⟨2,0,Da,[⟨o,k,r,ks⟩,g]⟩=q at *
   obtain ⟨⟨s,k',t,d⟩,e'⟩:=q
   exact Tk l e' s k' t d (λz j=>h z (by simp [j])) i
  ·have a:(e != 0)=true:=by simp [c]
   simp only [a,aR,c,aK]
noncomputable def Vs (g:Formula) (l:List Formula):Formula×Int:=if (BX (Kl g) l).2=0 then BX (Kl g) l else (P5,(BX (Kl g) l).2)
theorem Z8 (g:Formula) (l:List Formula) (j:nl g≤10000000) (d:∀x∈l,nl x≤10000000):BA (g::l)=some (Vs g l):=by
 unfold BA Vs
 have e0:nY (g::l) 0=some g:=pz [] g l 0 Z
 have a:rj (decide (0≤1)&&decide ((1:Int)≤((g::l).length:Int)))=some ():=by
  rw [aG]
  have:(1:Int)≤((l.length+1:Nat):Int):=by omega
  simp [rj]; omega
 have h:=HL (f:=g)
 rw [e0,aA,Tw g (by unfold Gd; omega),aA,a,aA]
 generalize Kl g=q at *
 obtain ⟨⟨o,k,r,ks⟩,e⟩:=q
 have hd:(g::l).drop (Int.toNat 1)=l:=rfl
 rw [hd,Tk l e o k r ks d h,aA]
 generalize BX (⟨o,k,r,ks⟩,e) l=t
 obtain ⟨⟨s,k',u,i⟩,e'⟩:=t
 by_cases c:e'=0
 ·subst c; rfl
 ·have a:(e' != 0)=true:=by simp [c]
  simp only [a,aR,c,aK]; rfl
noncomputable def rH (p:lm) (c:lg):Formula×Int:=match yg p c with | none=>(P5,42) | some x=>Vs x.lB ((NJ p c).map (·.lB))
theorem Xx:∀(l:List oe) (acc:List Formula),acc.length+l.length≤3000000→zx l acc=BA (acc++l.map (·.lB))
 | [],acc,_=>by
  rw [zx,ga,cN]
  cases BA acc <;> rfl
 | a::l,acc,h=>by
  rw [aG] at h
  rw [zx,od ss ss,aA,Xx l _ ss]
  simp
theorem YE {p:lm} {c:lg} {x:np} (h:yg p c=some x):x∈p.lK∧x.Signed.lg=c:=by
 unfold yg at h
 have h1:=fD h
 have a:=iV h
 exact ⟨h1,pH.1 a⟩
theorem KW (p:lm) (hp:PB p) (c:lg):zX p c=some (rH p c):=by
 unfold zX rH
 obtain ⟨z,e⟩:=aay p c
 rw [e,aA]
 cases h:yg p c with
 | none=>rfl
 | some x=>
  simp only [bM,aB,aK]
  have i:=YE h
  have j:(NJ p c).length≤p.mi.length:=cY _ _
  have:=hp.F6
  rw [YF p hp c,aA,Xx _ _ ss]
  exact Z8 x.lB _ (hp.rel x i.1) (λg d=>by
   obtain ⟨a,ha,rfl⟩:=bT.1 d
   exact hp.U7 a (cR.1 ha).1)
theorem Hv (p:lm) (c:lg):nl (rH p c).1≤64:=by
 have a:nl P5≤64:=by rw [P5,nl,nodesL]; omega
 have d:∀(l:List Formula) (t:Formula×Int),nl t.1≤64→nl (BX t l).1≤64:=by
  intro l
  induction l with
  | nil=>intro t h; exact h
  | cons g l ih=>
   intro t h
   rw [BX]
   split
   ·exact ih _ HL
   ·exact h
 unfold rH
 split
 ·exact a
 ·unfold Vs
  split
  ·exact d _ _ HL
  ·exact a
noncomputable def QN (p:lm) (v:lh→Bool) (x:np):Bool:=decide ((rH p x.Signed.lg).2=0)&&CB v (rH p x.Signed.lg).1
theorem Ll (p:lm) (hp:PB p) (v:lh→Bool) m (a:∀r,zV r m.1 m.2.1 m.2.2.1 m.2.2.2.1 m.2.2.2.2.1 m.2.2.2.2.2.1 m.2.2.2.2.2.2=some (v r)):∀(l:List np) (acc:List lg),acc.length+l.length≤1000000000→
  wG p m l acc=pD (acc++(l.filter (QN p v)).map (·.Signed.lg))
 | [],acc,_=>by
  rw [wG,List.filter_nil,ga,cN,tN]
 | x::l,acc,h=>by
  rw [aG] at h
  have d:=Hv p x.Signed.lg
  rw [wG,KW p hp,aA,I4 v _ a _ (by unfold Gd; omega),gL]
  unfold QN
  by_cases c:(rH p x.Signed.lg).2=0
  ·simp only [c,bB,aR,cK,gu,aA]
   cases g:CB v (rH p x.Signed.lg).1
   ·simp only [aB,aK]
    exact Ll p hp v m a l acc rs
   ·simp only [aR]
    rw [od ss ss,aA,Ll p hp v m a l _ ss]
    simp only [bQ,aP,bU,bL]
    rfl
  ·have e:((rH p x.Signed.lg).2==0)=false:=by simpa using c
   simp only [e,aB,aK,c,cX,iv,aA]
   exact Ll p hp v m a l acc rs
theorem Qf:∀(l m A:List lg),l.length=m.length→∃b,vn (A++m) l A.length=some b∧(b=true↔l=m)
 | [],m,A,d=>by
  obtain rfl:=bZ d.symm
  exact ⟨true,Z,rv⟩
 | x::l,[],A,d=>by simp at d
 | x::l,y::m,A,d=>by
  have i1:nY (A++y::m) (A.length:Int)=some y:=pz _ _ _ _ Z
  rw [vn,i1,aA]
  cases g:ni x y with
  | false=>
   refine ⟨false,Z,?_⟩
   have:x≠y:=λa=>by have:=pH.2 a; rw [this] at g; cases g
   simp [this]
  | true=>
   have a:=pH.1 g
   obtain ⟨b,h,k⟩:=Qf l m (A++[y]) (by simpa using d)
   simp only [bM,aB,aK]
   have i:A++y::m=(A++[y])++m:=by simp
   have j:A.length+1=(A++[y]).length:=by simp
   rw [i,j,h]
   exact ⟨b,Z,by rw [k]; simp [a]⟩
theorem Xz (l m:List lg):∃b,tV l m=some b∧(b=true↔l=m):=by
 unfold tV
 by_cases h:l.length=m.length
 ·have:((l.length:Int) != (m.length:Int))=false:=by simp [h]
  simp only [this,aB,aK]
  exact Qf l m [] h
 ·have:((l.length:Int) != (m.length:Int))=true:=by simp; omega
  simp only [this,aR]
  exact ⟨false,Z,by simp; intro hk; rw [hk] at h; exact h Z⟩
theorem Px (l:List lg) (i:l.length≤1000000000):∃b,AG l=some b∧(b=true↔xO l l):=by
 obtain ⟨s,e,h⟩:=H3 l i
 obtain ⟨b,d,g⟩:=Xz s l
 unfold AG
 rw [e,aA,d]
 refine ⟨b,Z,g.trans ⟨λa=>?_,λa=>zm.unique Eh h a⟩⟩
 rw [a] at h; exact h
def abm (l:List np):Prop:=(∀x∈l,x.Signed.Tag.length=8∧rV x.lB=true)∧xO (l.map (·.Signed.lg)) (l.map (·.Signed.lg))
theorem PY:∀(l:List np) (acc:List lg),acc.length+l.length≤1000000000→(∀x∈l,nl x.lB≤10000000)→
  ∃b,xi l acc=some b∧(b=true↔(∀x∈l,x.Signed.Tag.length=8∧rV x.lB=true)∧xO (acc++l.map (·.Signed.lg)) (acc++l.map (·.Signed.lg)))
 | [],acc,h,_=>by
  obtain ⟨b,e,d⟩:=Px acc rs
  rw [xi,e]
  exact ⟨b,Z,by simpa using d⟩
 | x::l,acc,h,g=>by
  rw [aG] at h
  have j:=g x rv
  rw [xi,D2 _ rs]
  simp only [aA]
  by_cases c1:x.Signed.Tag.length=8
  ·have a:((x.Signed.Tag.length:Int) != 8)=false:=by simp [c1]
   simp only [a,aB,aK,aA]
   cases c2:rV x.lB
   ·refine ⟨false,Z,?_⟩
    constructor
    ·intro h; cases h
    ·rintro ⟨h1,_⟩
     have:=(h1 x rv).2
     rw [c2] at this; cases this
   ·simp only [bM,aB,aK]
    obtain ⟨b,e,d⟩:=PY l (acc++[x.Signed.lg]) ss (λz i=>g z (by simp [i]))
    rw [od ss ss,aA,e]
    refine ⟨b,Z,d.trans ?_⟩
    simp only [aP,bU,bL,bQ,cJ]
    simp only [c1,c2,true_and]
  ·have a:((x.Signed.Tag.length:Int) != 8)=true:=by simp; omega
   simp only [a,aR,aA]
   refine ⟨false,Z,?_⟩
   constructor
   ·intro h; cases h
   ·rintro ⟨h1,_⟩
    exact absurd (h1 x rv).1 c1
def KZ:Option lh→List oe→Prop
 | _,[]=>True
 | q,a::l=>(∀z,q=some z→J0 z a.lh=true)∧KZ (some a.lh) l
def acS (l:List oe):Prop:=(∀a∈l,ou a.lh=true∧rV a.lB=true∧xO a.nP a.nP)∧KZ none l
theorem ZO (A:List oe) (a:oe) (l:List oe) (k:A.length+1+l.length≤1000000000):∃b,(((if (decide ((A.length:Int) > 0)) then (nY (A++a::l) (wi0 .i64 ((A.length:Int)-1))).bind λi=>((vV i.lh a.lh).bind λd=>some (decide (d≥0))) else some false):Option Bool).bind λg=>some g)=some b∧(b=false↔∀z,A.getLast?.map (·.lh)=some z→J0 z a.lh=true):=by
 rw [tN]
 rcases fB A with rfl | ⟨B,y,rfl⟩
 ·exact ⟨false,Z,rv⟩
 ·have h1:((B++[y]).length:Int) > 0:=by simp
  simp only [fC] at *
  simp only [h1,cK,aR]
  have hw:wi0 .i64 (((B++[y]).length:Int)-1)=(B.length:Int):=by rw [mM rv (by simp at *; omega)]; simp
  rw [hw,aP]
  rw [show B++([y]++a::l)=B++y::(a::l) from rfl,pz B y (a::l) _ Z,aA]
  obtain ⟨c,e,h⟩:=Di y.lh a.lh
  rw [e,aA]
  refine ⟨_,Z,?_⟩
  simp only [List.getLast?_append,List.getLast?_singleton,Option.some_or,ep,ia]
  rw [fU]
  constructor
  ·rintro j z rfl; exact h.1 rs
  ·intro j; have:=h.2 (j _ Z); omega
theorem Sz (all:List oe):∀(l A:List oe),all=A++l→all.length≤1000000000→(∀a∈l,nl a.lB≤10000000∧a.nP.length≤2000000)→
  ∃b,yj all l A.length=some b∧(b=true↔(∀a∈l,ou a.lh=true∧rV a.lB=true∧xO a.nP a.nP)∧KZ (A.getLast?.map (·.lh)) l)
 | [],A,_,_,_=>⟨true,by rw [yj],by simp [KZ]⟩
 | a::l,A,d,g,k=>by
  have ha:=k a rv
  have hlen:A.length+1+l.length≤1000000000:=by rw [d] at g; simp at g; omega
  obtain ⟨s,e0,j⟩:=ZO A a l hlen
  rw [←d] at e0
  obtain ⟨t,u,h1⟩:=Px a.nP rs
  rw [yj,zK,D2 _ rs,u]
  simp only [aA] at e0 ⊢
  rw [e0]
  rw [KZ]
  simp only [cJ]
  cases c1:ou a.lh
  ·exact ⟨false,rv,rv⟩
  ·cases c2:rV a.lB
   ·exact ⟨false,rv,rv⟩
   ·cases t with
    | false=>
     refine ⟨false,rv,?_⟩
     have:¬xO a.nP a.nP:=λh=>by have:=h1.2 h; cases this
     simp [this]
    | true=>
     have x:=h1.1 Z
     cases s with
     | true=>
      refine ⟨false,rv,?_⟩
      constructor
      ·intro h; cases h
      ·rintro ⟨_,h,_⟩
       have:=j.2 h; cases this
     | false=>
      have i:=j.1 Z
      obtain ⟨b,e,v⟩:=Sz all l (A++[a]) (by simp [d]) g (λz i=>k z (by simp [i]))
      rw [aC,List.length_singleton] at e
      refine ⟨b,by simpa using e,v.trans ?_⟩
      simp only [List.getLast?_append,List.getLast?_singleton,Option.some_or,ep,x,true_and]
      exact ⟨λ⟨p,q⟩=>⟨p,i,q⟩,λ⟨p,_,q⟩=>⟨p,q⟩⟩
def NY (p:lm):Bool:=decide (256 < p.lK.length)||decide (8 < p.mi.length)||p.mi.any λa=>decide (32 < a.nP.length)
theorem ZX (p:lm):EN p=some (NY p):=by
 unfold EN NY
 rw [UL _ (λa=>decide (32 < a.nP.length)) _ (λa _=>by unfold Eo; congr 1; rw [eC,bV,bV]; omega)]
 by_cases c1:256 < p.lK.length
 ·have:((p.lK.length:Int) > 256):=by omega
  simp [c1,this]
 ·have:¬((p.lK.length:Int) > 256):=by omega
  by_cases c2:8 < p.mi.length
  ·have:((p.mi.length:Int) > 8):=by omega
   simp [c1,c2, *]
  ·have:¬((p.mi.length:Int) > 8):=by omega
   simp [c1,c2, *]
theorem WC (p:lm) (hp:PB p):CC p=some (p.lK.all λx=>decide ((rH p x.Signed.lg).2=0)):=by
 unfold CC
 rw [Vj _ (λx=>!decide ((rH p x.Signed.lg).2=0)) _ (λx _=>by
  unfold Dh
  rw [KW p hp,aA]
  rfl),aA,List.all_eq_not_any_not]
structure FJ (p:lm):Prop where
 name:rz p.Name=true
 long:NY p=false
 Bd:abm p.lK
 F6:acS p.mi
 guards:∀x∈p.lK,(rH p x.Signed.lg).2=0
theorem XF (p:lm) (hp:PB p):∃e,DE p=some e∧(e=0↔FJ p):=by
 have z:=hp.Bd
 have v:=hp.F6
 obtain ⟨j,t,h1⟩:=PY p.lK [] ss hp.rel
 obtain ⟨k,u,s⟩:=Sz p.mi p.mi [] Z rs (λa ha=>⟨hp.U7 a ha,hp.VZ a ha⟩)
 have d:Gc p=some j:=t
 have g:GR p.mi=some k:=u
 unfold DE
 rw [uf,aA,ZX,d,g,WC p hp]
 simp only [aA]
 cases c1:rz p.Name
 ·exact ⟨30,Z,by simp; intro h; have:=h.name; rw [c1] at this; cases this⟩
 ·cases c2:NY p
  ·cases j with
   | false=>exact ⟨11,Z,by simp; intro h; have:=h1.2 h.Bd; cases this⟩
   | true=>
    cases k with
    | false=>exact ⟨11,Z,by simp; intro h; have:=s.2 h.F6; cases this⟩
    | true=>
     cases q:p.lK.all λx=>decide ((rH p x.Signed.lg).2=0)
     ·refine ⟨11,Z,iff_of_false tc λh=>?_⟩
      obtain ⟨x,i,y⟩:=List.all_eq_false.1 q
      simp [h.guards x i] at y
     ·exact ⟨0,Z,by simp; exact ⟨c1,c2,h1.1 Z,s.1 Z,λx i=>by simpa using fV.1 q x i⟩⟩
  ·exact ⟨12,Z,by simp; intro h; have:=h.long; rw [c2] at this; cases this⟩
structure PG (p:lm):Prop extends PB p where
 csz:∀x∈p.lK,DK x.Signed.lg≤1000000000
 asz:∀a∈p.mi,∀c∈a.nP,DK c≤1000000000
def gX:lh:=⟨⟨#[120]⟩,⟨#[121]⟩⟩
def gc:lg:=⟨1,gX,⟨#[109,101]⟩,⟨zS,zS⟩,⟨zS,zS⟩,zS⟩
noncomputable def vD (l:List lg) (peer:ByteArray) (r:lh):Bool:=@decide (xZ (l.filter nH) ⟨r,peer⟩) (Classical.propDecidable _)
theorem Xl (l:List lg) (peer:ByteArray) (r:lh):vD l peer r=true↔xZ (l.filter nH) ⟨r,peer⟩:=by unfold vD; simp
theorem Rz (l:List lg) (h:l.length≤1000000) (peer:ByteArray):∃m,zJ l=some m∧∀r,ux m.1 m.2.1 m.2.2.1 m.2.2.2.1 m.2.2.2.2.1 m.2.2.2.2.2 r peer=some (vD l peer r):=by
 obtain ⟨C,T,i,ws,n,e,m,d,_⟩:=ack l h
 refine ⟨_,e,λr=>?_⟩
 obtain ⟨b,a,g⟩:=aa5 m C i ws [] n r peer
 rw [a]
 congr 1
 rw [eC,g,Xl]
 exact xZ.congr (λc=>by rw [d,cR]) _
theorem acr (l:List lg) (a:l.length≤1000000) (peer:ByteArray):∃m,EA l peer=some m∧∀r,zV r m.1 m.2.1 m.2.2.1 m.2.2.2.1 m.2.2.2.2.1 m.2.2.2.2.2.1 m.2.2.2.2.2.2=some (vD l peer r):=by
 obtain ⟨m,e,h⟩:=Rz l a peer
 unfold EA
 rw [e,aA]
 exact ⟨_,Z,λr=>by unfold zV; rw [tN]; exact h r⟩
noncomputable def FH (p:lm) (v:lh→Bool) (c:lg):Bool:=decide ((rH p c).2=0)&&CB v (rH p c).1
theorem Yf {p:lm} {v w:lh→Bool} (h:∀r,v r=true→w r=true) (c:lg) (a:FH p v c=true):FH p w c=true:=by
 unfold FH CB at *
 simp only [bI,bV] at *
 exact ⟨a.1,a.2.1,aad h _ a.2.2⟩
def tW (s:List lg):Prop:=s.Pairwise (λa b=>Mn a b=true)∧∀c∈s,nH c=true
theorem tW.nodup {s:List lg} (h:tW s):s.Nodup:=Ms Eh h.2 h.1
theorem tW.le {s t:List lg} (h:tW s) (a:∀c∈s,c∈t):s.length≤t.length:=rZ h.nodup a
theorem tW.ext {s t:List lg} (h:tW s) (k:tW t) (d:∀c,c∈s↔c∈t):s=t :=
 zm.unique Eh (l:=t) ⟨h.1,λx=>⟨λa=>⟨(d x).1 a,h.2 x a⟩,λa=>(d x).2 a.1⟩⟩ ⟨k.1,λx=>⟨λa=>⟨a,k.2 x a⟩,λa=>a.1⟩⟩
theorem tW.eq {s t:List lg} (h:tW s) (k:tW t) (d:∀c∈s,c∈t) (j:t.length≤s.length):s=t:=by
 refine h.ext k λc=>⟨d c,λg=>?_⟩
 refine gN λi=>?_
 have:=rZ (l:=c::s) (m:=t) (dR.2 ⟨i,h.nodup⟩) (λx a=>by
  rcases aW.1 a with rfl | a
  ·exact g
  ·exact d x a)
 simp at this; omega
theorem tW.nil:tW []:=⟨rv,rv⟩
theorem tW.filter {s:List lg} (h:tW s) (p:lg→Bool):tW (s.filter p):=⟨h.1.filter _,λc a=>h.2 c (cR.1 a).1⟩
def yr (p:lm) (c:lg):Prop:=∃x∈p.lK,x.Signed.lg=c
def G9 (p:lm) (l:List lg) (peer:ByteArray) (c:lg):Prop:=yr p c∧nH c=true∧FH p (vD l peer) c=true
theorem LB {p:lm} {s:List lg} (h:tW s) (d:∀c∈s,yr p c):s.length≤p.lK.length:=by
 have:=h.le (t:=p.lK.map (·.Signed.lg)) (λc a=>by obtain ⟨x,g,e⟩:=d c a; exact bT.2 ⟨x,g,e⟩)
 simpa using this
theorem Y7 (p:lm) (hp:PB p) (l:List lg) (t:l.length≤1000000) (peer:ByteArray):∃s,wA p l peer=some s∧tW s∧(∀c,c∈s↔G9 p l peer c)∧s.length≤p.lK.length:=by
 obtain ⟨m,e,u⟩:=acr l t peer
 have:=hp.Bd
 unfold wA
 rw [e,aA,Ll p hp _ m u p.lK [] ss,bL]
 have h1:(p.lK.filter (QN p (vD l peer))).length≤p.lK.length:=cY _ _
 obtain ⟨s,k,a⟩:=H3 ((p.lK.filter (QN p (vD l peer))).map (·.Signed.lg)) ss
 have j:tW s:=⟨a.1,λc g=>((a.2 c).1 g).2⟩
 have hm:∀c,c∈s↔G9 p l peer c:=λc=>by
  rw [a.2,bT]
  constructor
  ·rintro ⟨⟨x,i,rfl⟩,h⟩
   obtain ⟨q,d⟩:=cR.1 i
   exact ⟨⟨x,q,Z⟩,h,d⟩
  ·rintro ⟨⟨x,i,rfl⟩,h,d⟩
   exact ⟨⟨x,cR.2 ⟨i,d⟩,Z⟩,h⟩
 exact ⟨s,k,j,hm,LB j λc g=>((hm c).1 g).1⟩
structure PP (p:Io):Prop where
 o:PG p.lu
 c:PG p.Client
 lo:p.lu.lK.length≤600000
 lc:p.Client.lK.length≤600000
 f:nl p.Formula≤10000000
def acZ:ByteArray:=⟨#[111,119,110]⟩
def adi:ByteArray:=⟨#[99,108,105]⟩
mutual
def Dt:Formula→Nat
 | ⟨_,_,r,ks⟩=>1+r.lu.size+r.Word.size+szFL ks
def szFL:List Formula→Nat
 | []=>0
 | k::ks=>Dt k+szFL ks
end
theorem RZ (f:Formula):Dt f=1+f.lh.lu.size+f.lh.Word.size+szFL f.Kids:=by cases f; rw [Dt]
theorem HR:∀f:Formula,nl f≤Dt f:=by
 refine QZ λf ih=>?_
 have:∀ks:List Formula,(∀k∈ks,nl k≤Dt k)→nodesL ks≤szFL ks:=by
  intro ks
  induction ks with
  | nil=>intro _; rw [nodesL]; omega
  | cons k ks a=>
   intro h
   have:=a (λx d=>h x (by simp [d]))
   have:=h k rv
   rw [nodesL,szFL]; omega
 have:=this f.Kids ih
 rw [vg,RZ]; omega
def Aj:List lg→Nat
 | []=>0
 | c::l=>20+DK c+Aj l
theorem g5:∀(l:List lg) (n:Int),0≤n→n+(Aj l:Int)≤4000000000000000000→xk l n=some (n+(Aj l:Int))
 | [],n,_,_=>by rw [xk,Aj]; simp
 | c::l,n,d,a=>by
  have e:DK c=c.Head.lu.size+c.Head.Word.size+c.nj.size+c.B.lu.size+c.B.Word.size+c.C.lu.size+c.C.Word.size+c.mV.size:=rfl
  rw [Aj] at a
  rw [xk]
  rw [mM (x:=20+(c.Head.lu.size:Int)) rs rs,mM (x:=20+(c.Head.lu.size:Int)+(c.Head.Word.size:Int)) rs rs,mM (x:=20+(c.Head.lu.size:Int)+(c.Head.Word.size:Int)+(c.nj.size:Int)) rs rs,mM (x:=20+(c.Head.lu.size:Int)+(c.Head.Word.size:Int)+(c.nj.size:Int)+(c.B.lu.size:Int)) rs rs,mM (x:=20+(c.Head.lu.size:Int)+(c.Head.Word.size:Int)+(c.nj.size:Int)+(c.B.lu.size:Int)+(c.B.Word.size:Int)) rs rs,mM (x:=20+(c.Head.lu.size:Int)+(c.Head.Word.size:Int)+(c.nj.size:Int)+(c.B.lu.size:Int)+(c.B.Word.size:Int)+(c.C.lu.size:Int)) rs rs,mM (x:=20+(c.Head.lu.size:Int)+(c.Head.Word.size:Int)+(c.nj.size:Int)+(c.B.lu.size:Int)+(c.B.Word.size:Int)+(c.C.lu.size:Int)+(c.C.Word.size:Int)) rs rs,mM (x:=20+(c.Head.lu.size:Int)+(c.Head.Word.size:Int)+(c.nj.size:Int)+(c.B.lu.size:Int)+(c.B.Word.size:Int)+(c.C.lu.size:Int)+(c.C.Word.size:Int)+(c.mV.size:Int)) rs rs,mM rs rs]
  rw [g5 l _ rs rs,Aj]
  congr 1; omega
theorem g11:∀(n:Nat) (l:List Formula),deepL l < n→szFL l≤1000000000000→∃r:Int,sy n l=some r∧0≤r∧r≤(szFL l:Int):=by
 intro n
 induction n with
 | zero=>intro l h; omega
 | succ n ih=>
  intro l h i
  rw [sy]
  unfold B4
  have key:∀(l:List Formula) (x:Int),deepL l < n+1→0≤x→x+(szFL l:Int)≤1000000000000→∃r:Int,xp (sy n) l x=some r∧0≤r∧r≤x+(szFL l:Int):=by
   intro l
   induction l with
   | nil=>intro x _ j _; exact ⟨x,by rw [xp],j,by rw [szFL]; simp⟩
   | cons k l g=>
    intro x h j i
    rw [deepL] at h
    rw [szFL] at i
    have hk:=RZ k
    have:=uw k
    obtain ⟨r,e,h1,q⟩:=ih k.Kids rs rs
    rw [xp,e,aA]
    have hd:0≤Int.tdiv ((k.lh.lu.size:Int)+(k.lh.Word.size:Int)) 16∧Int.tdiv ((k.lh.lu.size:Int)+(k.lh.Word.size:Int)) 16≤(k.lh.lu.size:Int)+(k.lh.Word.size:Int):=by
     rw [Int.tdiv_eq_ediv_of_nonneg rs]
     omega
    rw [mM (x:=(k.lh.lu.size:Int)+(k.lh.Word.size:Int)) rs rs]
    generalize Int.tdiv ((k.lh.lu.size:Int)+(k.lh.Word.size:Int)) 16=d at *
    rw [mM (x:=d) rs rs,mM (x:=1+d) rs rs,mM (x:=1+d+r) rs rs,mM (x:=x+(1+d+r)) rs rs]
    obtain ⟨t,e',a,s⟩:=g (x+(1+d+r)) rs rs rs
    exact ⟨t,e',a,by rw [szFL]; omega⟩
  obtain ⟨r,e,h1,q⟩:=key l 0 h rs rs
  exact ⟨r,e,h1,rs⟩
theorem Lx (f:Formula) (h:Dt f≤50000000):∃r:Int,sy mZ [f]=some r∧0≤r∧r≤(Dt f:Int):=by
 have h1:=HR f
 have d:=GO f
 obtain ⟨r,e,a,b⟩:=g11 mZ [f] (by rw [deepL,deepL,pI]; omega) (by rw [szFL,szFL]; omega)
 refine ⟨r,e,a,?_⟩
 rw [szFL,szFL] at b; omega
theorem g6 (s:Signed) (h:DK s.lg+s.Tag.length≤1000000000):wY [] [s]=some (20+(DK s.lg:Int)+(s.Tag.length:Int)):=by
 unfold wY
 rw [vG,xq]
 have:=g5 [s.lg] 0 rs (by rw [Aj,Aj]; omega)
 rw [show tB [s.lg]=_ from this,aA,xq,Aj,Aj]
 rw [mM (x:=0+((20+DK s.lg+0:Nat):Int)+(s.Tag.length:Int)) rs rs,mM rs rs]
 simp only [aA]
 congr 1; omega
def H8:List np→Nat
 | []=>0
 | x::l=>20+DK x.Signed.lg+x.Signed.Tag.length+20*Dt x.lB+H8 l
def GV:List oe→Nat
 | []=>0
 | a::l=>a.lh.lu.size+a.lh.Word.size+20*Dt a.lB+Aj a.nP+GV l
def NH (p:lm):Nat:=p.Name.size+H8 p.lK+GV p.mi
theorem XT:∀(l:List oe) (x:Int),0≤x→x+(GV l:Int)≤1000000000→∃r:Int,xr l x=some r∧x≤r∧r≤x+(GV l:Int)
 | [],x,_,_=>⟨x,by rw [xr],rs,by rw [GV]; omega⟩
 | a::l,x,j,h=>by
  rw [GV] at h
  obtain ⟨r,e,h1,k⟩:=Lx a.lB rs
  have d:=g5 a.nP 0 rs rs
  rw [xr,e,aA,show tB a.nP=_ from d,aA]
  rw [mM (x:=(a.lh.lu.size:Int)+(a.lh.Word.size:Int)) rs rs,mM (x:=20*r) rs rs,mM (x:=(a.lh.lu.size:Int)+(a.lh.Word.size:Int)+20*r) rs rs,mM (x:=(a.lh.lu.size:Int)+(a.lh.Word.size:Int)+20*r+(0+(Aj a.nP:Int))) rs rs,mM rs rs]
  obtain ⟨g,e',i,a2⟩:=XT l (x+((a.lh.lu.size:Int)+(a.lh.Word.size:Int)+20*r+(0+(Aj a.nP:Int)))) rs rs
  exact ⟨g,e',rs,by rw [GV]; omega⟩
theorem Zm (p:lm) (g:NH p≤1000000000):∃r:Int,zD p=some r∧20*(p.lK.length:Int)≤r∧r≤(NH p:Int):=by
 unfold NH at g
 have key:∀(l:List np) (x:Int),0≤x→x+(H8 l:Int)+(GV p.mi:Int)≤1000000000→∃r:Int,xm p l x=some r∧x+20*(l.length:Int)≤r∧r≤x+(H8 l:Int)+(GV p.mi:Int):=by
  intro l
  induction l with
  | nil=>
   intro x d h
   rw [H8] at h
   obtain ⟨r,e,a,b⟩:=XT p.mi x d rs
   exact ⟨r,by rw [xm,e]; rfl,ss,by rw [H8]; omega⟩
  | cons y l ih=>
   intro x d h
   rw [H8] at h
   obtain ⟨r,e,h1,j⟩:=Lx y.lB rs
   rw [xm,g6 y.Signed rs]
   simp only [aA]
   rw [e,aA]
   rw [mM (x:=20*r) rs rs,mM (x:=20+(DK y.Signed.lg:Int)+(y.Signed.Tag.length:Int)+20*r) rs rs,mM rs rs]
   obtain ⟨i,e',a,b⟩:=ih (x+(20+(DK y.Signed.lg:Int)+(y.Signed.Tag.length:Int)+20*r)) rs rs
   exact ⟨i,e',by rw [aG]; omega,by rw [H8]; omega⟩
 obtain ⟨r,e,a,b⟩:=key p.lK (p.Name.size:Int) rs rs
 unfold zD
 exact ⟨r,e,rs,by unfold NH; omega⟩
def E2:List Key→Nat
 | []=>0
 | k::l=>10+k.nj.size+k.Key.length+E2 l
theorem g6K:∀(ks:List Key) (x:Int),0≤x→x+(E2 ks:Int)≤2000000000→vG [] ks x=some (x+(E2 ks:Int))
 | [],x,_,_=>by rw [vG,xq,E2]; simp
 | k::ks,x,a,h=>by
  rw [E2] at h
  rw [vG,mM (x:=10+(k.nj.size:Int)) rs rs,mM (x:=10+(k.nj.size:Int)+(k.Key.length:Int)) rs rs,mM rs rs,g6K ks _ rs rs,E2]
  congr 1; omega
structure PQ (p:Io):Prop extends PP p where
 go:NH p.lu≤1000000000
 gc:NH p.Client≤1000000000
 fs:Dt p.Formula≤50000000
 ks:E2 p.Keys≤1000000000
theorem g27 (p:Io) (hp:PQ p):∃r:Int,J3 p=some r∧20*(p.lu.lK.length:Int)+20*(p.Client.lK.length:Int)≤r:=by
 have g:=hp.go
 have d:=hp.gc
 have u:=hp.ks
 have a:=hp.fs
 obtain ⟨h,k,v,y⟩:=Zm p.lu g
 obtain ⟨i,q,a2,z⟩:=Zm p.Client d
 obtain ⟨j,s,a3,I⟩:=Lx p.Formula a
 have t:=g6K p.Keys 0 rs rs
 unfold J3
 rw [k,aA,q,aA]
 simp only [aA]
 rw [s,aA,show wY p.Keys []=_ from t,aA]
 rw [mM (x:=h+i) rs rs,mM (x:=20*j) rs rs,mM (x:=h+i+20*j) rs rs,mM rs rs]
 exact ⟨_,Z,rs⟩
noncomputable def grP (p:Io):Bool:=(N4 p.lu p.Client p.Formula).getD false
def inL (l:List np) (i:Int):Prop:=0≤i∧i < l.length
instance (l:List np) (i:Int):Decidable (inL l i):=by unfold inL; infer_instance
def abe (l:List np) (i:Int):List np:=if inL l i then l.eraseIdx i.toNat else l
def Zc (p:Io) (e i:Int):Io :=
 if e=0 then ⟨⟨p.lu.Name,abe p.lu.lK i,p.lu.mi⟩,p.Client,p.Formula,p.ny,p.Zw,p.re,p.wc,p.vp,p.Keys⟩
 else if e=1 then ⟨p.lu,⟨p.Client.Name,abe p.Client.lK i,p.Client.mi⟩,p.Formula,p.ny,p.Zw,p.re,p.wc,p.vp,p.Keys⟩
 else p
def Yz:Signed:=⟨⟨0,⟨zS,zS⟩,zS,⟨zS,zS⟩,⟨zS,zS⟩,zS⟩,[]⟩
theorem L7 (c:lg):∀l:List np,yQ c l=some (match l.find? (λx=>ni x.Signed.lg c) with | some x=>(x.Signed,true) | none=>(Yz,false))
 | []=>by rw [yQ]; rfl
 | x::l=>by
  rw [yQ,gj,L7 c l]
  cases ni x.Signed.lg c <;> rfl
theorem Na (p:lm) (c:lg):Dx p c=some (match yg p c with | some x=>(x.Signed,true) | none=>(Yz,false)):=L7 c p.lK
theorem AY {p:lm} {c:lg} (h:yr p c):∃x,yg p c=some x∧x∈p.lK∧x.Signed.lg=c:=by
 obtain ⟨y,a,rfl⟩:=h
 unfold yg
 cases e:p.lK.find? (λx=>ni x.Signed.lg y.Signed.lg) with
 | none=>exact absurd (pH.2 Z) (by simpa using fz.1 e y a)
 | some x=>exact ⟨x,Z,fD e,pH.1 (by simpa using iV e)⟩
theorem VG {p:lm} {c:lg} (h:¬yr p c):yg p c=none:=by
 unfold yg
 rw [fz]
 intro x a e
 exact h ⟨x,a,pH.1 e⟩
theorem WA (s:mD) (hp:PB s.lm) (h:s.lD.length≤30000) (c:lg):EL s c=some (FH s.lm (vD s.lD s.mI) c):=by
 obtain ⟨m,d,g⟩:=Rz s.lD rs s.mI
 have i:=Hv s.lm c
 unfold EL
 rw [KW _ hp,aA]
 unfold FH
 by_cases a:(rH s.lm c).2=0
 ·simp only [a,bB,aR,cK,gu]
  unfold AR
  rw [d,aA,aA]
  rw [I4 (vD s.lD s.mI) _ (λr=>by unfold xT; rw [tN,g]) _ (by unfold Gd; omega)]
  rfl
 ·have:((rH s.lm c).2==0)=false:=by simpa using a
  simp only [this,aB,aK,a,cX,iv]
  rfl
theorem Rf (s:mD) {fr:List lg} (e:wA s.lm s.lD s.mI=some fr) (a:fr.length≤1000000000):BB s=some (fr.filter λc=>!ph ni s.Shown c):=by
 unfold BB
 rw [e,aA,tN,Jw,Ce _ (λc=>ph ni s.Shown c) zC fr rs (λc _=>by unfold E4 tq; rw [tN,G8]; rfl)]
theorem Y9 (l:List lg) (h:l.length≤1000000000):((rj (decide (0≤(if 8 < (l.length:Int) then 8 else (l.length:Int)))&&decide ((if 8 < (l.length:Int) then 8 else (l.length:Int))≤(l.length:Int)))).bind λ_=>some (l.take (Int.toNat (if 8 < (l.length:Int) then 8 else (l.length:Int)))))=some (l.take 8):=by
 by_cases c:8 < (l.length:Int)
 ·rw [aO c,B1 rs rs,aA]; rfl
 ·rw [aH c,B1 rs rs,aA,show Int.toNat (l.length:Int)=l.length by omega,kw,dy rs]
theorem Y5 (s:mD) {fr:List lg} (e:BB s=some fr) (h:fr.length≤1000000000):zw s=some (fr.take 8)∧Kn s=some fr.isEmpty:=by
 have h1:zw s=some (fr.take 8):=by
  unfold zw
  rw [e,aA,Y9 fr h]
 refine ⟨h1,?_⟩
 unfold Kn
 rw [h1,aA]
 cases fr with
 | nil=>rfl
 | cons x l=>rfl
def Li (s:mD) (sh:List lg):mD:=⟨s.lm,s.mI,s.Room,s.lD,sh,s.lL,s.me⟩
def Fz (p:lm) (c:lg):Signed:=match yg p c with | some x=>x.Signed | none=>Yz
def Dj (p:lm) (l:List lg):List Signed:=l.map (Fz p)
theorem WZ {l:List lg} (h:tW l) (g:l.length≤1000000000):pD l=some l:=by
 obtain ⟨s,e,a⟩:=H3 l g
 rw [e]
 have:s=l:=tW.ext ⟨a.1,λc d=>((a.2 c).1 d).2⟩ h (λc=>by rw [a.2]; exact ⟨λx=>x.1,λx=>⟨x,h.2 c x⟩⟩)
 rw [this]
theorem tW.take {s:List lg} (h:tW s) (n:Nat):tW (s.take n):=⟨h.1.sublist (List.take_sublist n s),λc a=>h.2 c (eJ a)⟩
theorem NR (s:mD) (hp:PB s.lm) (ha:s.lD.length≤30000):∀l:List lg,(∀c∈l,FH s.lm (vD s.lD s.mI) c=true)→wS s l=some (Sum.inr ())
 | [],_=>by rw [wS]
 | c::l,h=>by
  rw [wS,WA s hp ha,aA,h c rv]
  simp only [bM,aB,aK]
  exact NR s hp ha l (λx a=>h x (by simp [a]))
theorem NT (s:mD) (hp:PB s.lm) (ha:s.lD.length≤30000) (m:List lg) (hm:∀c∈m,FH s.lm (vD s.lD s.mI) c=true):∀l:List lg,(∀c∈l,yr s.lm c)→wT s m l=some 0
 | [],_=>by rw [wT,NR s hp ha m hm]; rfl
 | c::l,h=>by
  obtain ⟨x,e,_⟩:=AY (h c rv)
  rw [wT,Na,aA,e]
  simp only [bM,aB,aK]
  exact NT s hp ha m hm l (λx a=>h x (by simp [a]))
theorem Oa (s:mD) (m t:List lg) (e:wE [s.Shown,m]=some (s.Shown++m)) (a:pD (s.Shown++m)=some t) (g:∀x∈s.lm.lK,x.Signed.Tag.length≤1000):∀(l:List lg) (acc:List Signed),(∀c∈l,yr s.lm c)→acc.length+l.length≤100000→
  vj s m l acc=some (acc++Dj s.lm l,0,Li s t)
 | [],acc,_,_=>by
  rw [vj,e,aA,a]
  simp [Dj,Li]
 | c::l,acc,h,i=>by
  rw [aG] at i
  obtain ⟨x,d,j,q⟩:=AY (h c rv)
  have h1:=g x j
  rw [vj,Na,aA,d,aA]
  simp only
  unfold zk
  rw [od ss ss]
  simp only [aA,bL]
  rw [od ss ss,aA]
  have:=Oa s m t e a g l (acc++[x.Signed]) (λy k=>h y (by simp [k])) ss
  rw [show ([⟨x.Signed.lg,x.Signed.Tag⟩]:List Signed)=[x.Signed] from rfl,this]
  unfold Dj
  rw [bQ,show Fz s.lm c=x.Signed by unfold Fz; rw [d]]
  simp
theorem NX (s:mD) (hp:PB s.lm) (ha:s.lD.length≤30000) (g:∀x∈s.lm.lK,x.Signed.Tag.length≤1000) (l:List lg) (k:l.length≤8) (h:tW l) (a:∀c∈l,yr s.lm c) (hm:∀c∈l,FH s.lm (vD s.lD s.mI) c=true) (i:s.Shown.length≤100000) :
  ∃t,xO (s.Shown++l) t∧zd s l=some (Dj s.lm l,0,Li s t):=by
 obtain ⟨t,d,j⟩:=H3 (s.Shown++l) ss
 refine ⟨t,j,?_⟩
 have e:=Wj s.Shown l rs
 unfold zd E6
 have:¬((l.length:Int) > 8):=by omega
 simp only [this,cX,aB,aK]
 rw [NT s hp ha l hm l a,aA]
 simp only [eQ,aB,aK]
 rw [WZ h rs,aA,Oa s l t e d g l [] a ss]
 rfl
theorem aa2 (x:Signed):rn x x=some true:=by
 unfold rn rk
 rw [aO (pH.2 Z),show ob (BC x.Tag) (BC x.Tag)=true from oq.2 Z]
 rfl
theorem TN (f:Signed×Signed→Option Bool) (a:∀x,f (x,x)=some true):∀(l A:List Signed),ml (A++l) f l A.length=some true
 | [],A=>by rw [ml]
 | x::l,A=>by
  rw [ml,pz A x l _ Z,aA,a x,aA]
  simp only [bM,aB,aK]
  have:=TN f a l (A++[x])
  rw [aC,aP] at this
  exact this
theorem ac2 (l:List Signed) (f:Signed×Signed→Option Bool) (a:∀x,f (x,x)=some true):nc l l f=some true:=by
 unfold nc
 rw [aH rv]
 exact TN f a l []
theorem aao (m:ow):Ab m m=some true:=by
 unfold Ab
 have h1:ob m.Name m.Name=true:=oq.2 Z
 simp only [bB,aR,aA,h1]
 rw [CK,ac2 _ _ λx=>aa2 x]
 simp
theorem RU (all:List Signed) (i:all.length≤8) (j:∀x∈all,nH x.lg=true∧x.Tag.length=8) (hp:all.Pairwise λa b=>Mn a.lg b.lg=true):∀(l A:List Signed),all=A++l→uM all l A.length=some true
 | [],A,_=>by
  rw [uM]
  have:((all.length:Int)≤8):=by omega
  simp [this]
 | x::l,A,e=>by
  have k:=j x (by rw [e]; simp)
  have prev:(if (decide ((A.length:Int) > 0)) then (nY all (wi0 .i64 ((A.length:Int)-1))).bind λg=>((vY g.lg x.lg).bind λd=>some (decide (d≥0))) else some false)=some false:=by
   rcases fB A with rfl | ⟨B,y,rfl⟩
   ·rfl
   ·simp only [fC] at *
    have s:B.length≤8:=by rw [e] at i; simp at i; omega
    have h1:((B++[y]).length:Int) > 0:=by simp
    simp only [h1,cK,aR]
    rw [mM rv ss,show ((B++[y]).length:Int)-1=(B.length:Int) by simp,e,aP]
    rw [show B++([y]++x::l)=B++y::(x::l) from rfl,pz B y (x::l) _ Z,aA]
    obtain ⟨c,q,h⟩:=Dg y.lg x.lg
    rw [q,aA]
    have:Mn y.lg x.lg=true:=by
     rw [e] at hp
     exact (List.pairwise_append.1 hp).2.2 y rv x rv
    have:=h.2 this
    have:¬(c≥0):=by omega
    simp [this]
  rw [uM,ud,k.1,aA,k.2]
  simp only [bM,aB,aK,aA]
  rw [aH tc,prev]
  simp only [aA,aB,aK]
  have:=RU all i j hp l (A++[x]) (by rw [e]; simp)
  rw [aC] at this
  exact this
structure aaJ (s:mD):Prop where
 LG:FJ s.lm
 peer:rz s.mI=true
 acM:0≤s.Room
 room:s.Room≤256
 acc:tW s.lD
 sh:tW s.Shown
 WI:sa s.lL s.lL
 ask:sa s.me s.me
 held:∀c∈s.Shown,yr s.lm c
theorem Xr (l:List lg) (j:l.length≤1000000000):∃b,((pD l).bind λr=>tV r l)=some b∧(b=true↔tW l):=by
 obtain ⟨s,e,h⟩:=H3 l j
 obtain ⟨b,g,i⟩:=Xz s l
 refine ⟨b,by rw [e,aA,g],i.trans ⟨λa=>?_,λa=>?_⟩⟩
 ·subst a; exact ⟨h.1,λc d=>((h.2 c).1 d).2⟩
 ·exact tW.ext ⟨h.1,λc d=>((h.2 c).1 d).2⟩ a (λc=>by rw [h.2]; exact ⟨λx=>x.1,λx=>⟨x,a.2 c x⟩⟩)
theorem VM (l:List lh) (a:l.length≤1000000000):∃b,((ue l).bind λr=>sv r l)=some b∧(b=true↔sa l l):=by
 obtain ⟨s,e,h⟩:=Jz l a
 refine ⟨decide (s=l),by rw [e,aA,CK],?_⟩
 rw [bV]
 constructor
 ·rintro rfl; exact h
 ·intro d; exact zm.unique (HE _) h d
theorem bb {α β γ:Type} (x:Option α) (f:α→Option β) (g:β→Option γ):(x.bind λa=>(f a).bind g)=(x.bind f).bind g:=by cases x <;> rfl
theorem acv (s:mD) (h1:s.lD.length≤1000000000) (t:s.Shown.length≤1000000000) (u:s.lL.length≤1000000000) (v:s.me.length≤1000000000) :
  ∃b,Ft s=some b∧(b=true↔tW s.lD∧tW s.Shown∧sa s.lL s.lL∧sa s.me s.me):=by
 obtain ⟨a,i,x⟩:=Xr s.lD h1
 obtain ⟨d,j,k2⟩:=Xr s.Shown t
 obtain ⟨g,k,y⟩:=VM s.lL u
 obtain ⟨h,q,z⟩:=VM s.me v
 refine ⟨a&&(d&&(g&&h)),?_,by simp only [bI,x,k2,y,z]⟩
 unfold Ft
 rw [bb,i,aA]
 simp only [bb,tN,j,k,q]
 cases a <;> cases d <;> cases g <;> cases h <;> rfl
theorem UF (f:lg→Option Bool) (p:lg→Bool) (l:List lg) (h:∀x∈l,f x=some (p x)):vy l f=some (l.any p):=by
 unfold vy uU
 rw [Pq]; exact M9 f p l h
theorem Wq (s:mD) (hp:PB s.lm) (h1:s.lD.length≤1000000000) (q:s.Shown.length≤1000000000) (t:s.lL.length≤1000000000) (u:s.me.length≤1000000000) :
  ∃b,EQ s=some b∧(b=true↔aaJ s):=by
 obtain ⟨e,i,g⟩:=XF s.lm hp
 obtain ⟨b,j,k2⟩:=acv s h1 q t u
 have k:=UF (λx=>BZ x s.lm.Name s.lm.lK s.lm.mi s.mI s.Room s.lD s.Shown s.lL s.me) (λc=>(yg s.lm c).isNone) s.Shown (λc _=>by
  unfold BZ
  rw [show (⟨s.lm.Name,s.lm.lK,s.lm.mi⟩:lm)=s.lm from rfl,Na,aA]
  cases yg s.lm c <;> rfl)
 have y:(s.Shown.any λc=>(yg s.lm c).isNone)=false↔∀c∈s.Shown,yr s.lm c:=by
  rw [iw]
  refine forall_congr' λc=>forall_congr' λz=>?_
  by_cases h:yr s.lm c
  ·obtain ⟨x,ex,_⟩:=AY h
   simp [ex,h]
  ·simp [VG h,h]
 unfold EQ
 rw [i,aA]
 by_cases a:e=0
 ·subst a
  have v:=g.1 Z
  simp only [eQ,aB,aK]
  rw [uf,aA]
  cases c1:rz s.mI
  ·exact ⟨false,Z,by simp; intro h; have:=h.peer; rw [c1] at this; cases this⟩
  ·simp only [bM,aB,aK,aA]
   by_cases c2:s.Room < 0
   ·simp only [c2,cK,aR,aA]
    exact ⟨false,Z,by simp; intro h; have:=h.acM; omega⟩
   ·simp only [c2,cX,aB,aK,aA]
    by_cases d:s.Room > 256
    ·simp only [d,cK,aR,aA]
     exact ⟨false,Z,by simp; intro h; have:=h.room; omega⟩
    ·simp only [d,cX,aB,aK,aA]
     rw [j,aA,aA]
     cases b with
     | false=>exact ⟨false,Z,by simp; intro h; have:=k2.2 ⟨h.acc,h.sh,h.WI,h.ask⟩; cases this⟩
     | true=>
      obtain ⟨q1,q2,q3,q4⟩:=k2.1 Z
      simp only [bM,aB,aK]
      rw [k,aA]
      refine ⟨_,Z,?_⟩
      rw [kh,y]
      exact ⟨λh=>⟨v,c1,rs,rs,q1,q2,q3,q4,h⟩,λh=>h.held⟩
 ·have:(e != 0)=true:=by simpa using a
  simp only [this,aR,aA]
  exact ⟨false,Z,by simp; intro h; exact a (g.2 h.LG)⟩
def sp1:ByteArray:=⟨#[32]⟩
def p31 (f:Formula):Io:=⟨⟨acZ,[],[]⟩,⟨adi,[],[]⟩,f,0,⟨0,0⟩,0,0,0,[]⟩
def aaT:ByteArray:=⟨#[46]⟩
def rT (r:lh):ByteArray:=r.lu++aaT++r.Word
def ac7:ByteArray:=⟨#[32,60,45,32]⟩
def ac5:ByteArray:=⟨#[32,38,32]⟩
def cT (c:lg):ByteArray:=rT c.Head++ac7++(if c.Kind=1 then c.nj else if c.Kind=2 then rT c.B else if c.Kind=3 then rT c.B++aaT++c.mV else rT c.B++ac5++rT c.C)
noncomputable def shr (e:Int):Nat→Io→Io
 | 0,p=>p
 | k+1,p=>shr e k (if grP (Zc p e k) then Zc p e k else p)
theorem PD {p:lm} {l:List lg} (h:∀c∈l,yr p c):(Dj p l).map (·.lg)=l:=by
 unfold Dj
 rw [eY]
 have:∀c∈l,((λx:Signed=>x.lg)∘Fz p) c=c:=λc d=>by
  obtain ⟨x,e,_,a⟩:=AY (h c d)
  show (Fz p c).lg=c
  unfold Fz
  rw [e]; exact a
 rw [ja this,List.map_id']
theorem Vi {p:lm} (j:FJ p) {l:List lg} (g:tW l) (h:∀c∈l,yr p c):(∀x∈Dj p l,nH x.lg=true∧x.Tag.length=8)∧(Dj p l).Pairwise λa b=>Mn a.lg b.lg=true:=by
 constructor
 ·intro x k
  obtain ⟨c,d,rfl⟩:=bT.1 k
  obtain ⟨y,e,q,i⟩:=AY (h c d)
  unfold Fz
  rw [e]
  exact ⟨by rw [show y.Signed.lg=c from i]; exact g.2 c d,(j.Bd.1 y q).1⟩
 ·have:=g.1
  rw [←PD h] at this
  exact fI.1 this
theorem aau (s:mD) (hp:PB s.lm) (j:FJ s.lm) (ha:s.lD.length≤30000) {fr:List lg} (e:wA s.lm s.lD s.mI=some fr) (k:tW fr) (hm:∀c,c∈fr↔G9 s.lm s.lD s.mI c) (hlen:fr.length≤1000000) (g:s.Shown.length≤100000) :
  ∃t,xO (s.Shown++(fr.filter λc=>!ph ni s.Shown c).take 8) t∧CM s=some (⟨2,0,0,zS,[],Dj s.lm ((fr.filter λc=>!ph ni s.Shown c).take 8)⟩,0,Li s t):=by
 have h1:(fr.filter λc=>!ph ni s.Shown c).length≤fr.length:=cY _ _
 have h:=(Y5 s (Rf s e rs) rs).1
 have d:∀c∈(fr.filter λc=>!ph ni s.Shown c).take 8,G9 s.lm s.lD s.mI c:=λc a=>(hm c).1 (cR.1 (eJ a)).1
 obtain ⟨t,q,i⟩:=NX s hp ha (λx u=>by have:=(j.Bd.1 x u).1; omega) ((fr.filter λc=>!ph ni s.Shown c).take 8) (by rw [cU]; omega) ((k.filter _).take 8) (λc a=>(d c a).1) (λc a=>(d c a).2.2) g
 refine ⟨t,q,?_⟩
 unfold CM
 rw [h,aA,show (⟨⟨s.lm.Name,s.lm.lK,s.lm.mi⟩,s.mI,s.Room,s.lD,s.Shown,s.lL,s.me⟩:mD)=s from rfl,i,aA]
 simp only [eQ,aB,aK]
def wr {α:Type}:Int ⊕ (α×List Int)→Int ⊕ (α×mf)
 | .inl e=>.inl e
 | .inr (v,l)=>.inr (v,⟨l,false⟩)
def nQ {α β:Type} (x:Int ⊕ (α×List Int)) (f:α→List Int→Int ⊕ (β×List Int)):Int ⊕ (β×List Int) :=
 match x with
 | .inl e=>.inl e
 | .inr (v,l)=>f v l
def oH (a:Int):Nat→Int→List Int→Int ⊕ (Int×List Int)
 | i,n,[]=>.inl (if i=9 then 11 else 10)
 | i,n,c::l=>if i=9 then .inl 11 else if c=0∧0 < i then .inl 11 else
   if c < 128 then if n+c % 128*128 ^ i > a then .inl 12 else .inr (n+c % 128*128 ^ i,l) else oH a (i+1) (n+c % 128*128 ^ i) l
def zr:Int:=9223372036854775807
def wk (a:Int) (l:List Int):Int ⊕ (List Int×List Int) :=
 nQ (oH zr 0 0 l) λn d=>if n > a then .inl 12 else if n > (d.length:Int) then .inl 10 else .inr (d.take n.toNat,d.drop n.toNat)
def zM (l:List Int):Int ⊕ (ByteArray×List Int):=nQ (wk 16 l) λt a=>if rz (Nv t)=true then .inr (Nv t,a) else .inl 30
def wg (l:List Int):Int ⊕ (lh×List Int):=nQ (zM l) λa d=>nQ (zM d) λb g=>.inr (⟨a,b⟩,g)
def Iw (k:Int) (h:lh) (l:List Int):Int ⊕ (lg×List Int) :=
 if k=1 then nQ (zM l) λw a=>.inr (⟨k,h,w,zR,zR,zS⟩,a)
 else if k=2 then nQ (wg l) λb a=>.inr (⟨k,h,zS,b,zR,zS⟩,a)
 else if k=3 then nQ (wg l) λb a=>nQ (zM a) λw d=>.inr (⟨k,h,zS,b,zR,w⟩,d)
 else nQ (wg l) λb a=>nQ (wg a) λc d=>.inr (⟨k,h,zS,b,c,zS⟩,d)
def HF (l:List Int):Int ⊕ (lg×List Int) :=
 nQ (oH zr 0 0 l) λk a=>if k < 1∨4 < k then .inl 11 else nQ (wg a) λh d=>nQ (Iw k h d) λc g=>if nH c=true then .inr (c,g) else .inl 11
def AW (l:List Int):Int ⊕ (Signed×List Int) :=
 nQ (HF l) λc a=>nQ (wk 8 a) λt d=>if (t.length:Int)=8 then .inr (⟨c,t⟩,d) else .inl 11
theorem Bx (l:List Int) (e:Int) (he:e≠0):nS ⟨l,false⟩ e=some (.inl e):=by
 unfold nS; simp [he]
theorem V5 (l:List Int) (i:Int) (k:0≤i):yD ⟨l,false⟩ i=some (match l with
  | []=>.inl (if i=9 then 11 else 10)
  | c::t=>if i=9 then .inl 11 else if c=0∧0 < i then .inl 11 else .inr (c,⟨t,false⟩)):=by
 unfold yD
 rw [Bx _ 11 tc,Bx _ 10 tc]
 by_cases a:i=9
 ·subst a; cases l <;> simp
 ·cases l with
  | nil=>simp [a]
  | cons c t=>
   have h1:((c::t).length:Int)≠0:=by simp; omega
   have d:rj (decide (0≤(1:Int))&&decide ((1:Int)≤((c::t).length:Int)))=some ():=B1 tc ss
   have g:nY (c::t) 0=some c:=pz [] c t 0 Z
   simp only [iC,a,h1,aK,aA,d,g]
   have h:rj (decide (1≤(t.length:Int)+1))=some ():=by simp [rj]; omega
   by_cases j:c=0 <;> by_cases hp:0 < i <;> simp [j,hp,Bx,h]
theorem acX (c:Int) (a:0≤c) (h1:c < 256):IntKind.u8.wrap (BitVec.ofInt (IntKind.bits .u8) c &&& BitVec.ofInt (IntKind.bits .u8) 127).toNat=c % 128:=by
 obtain ⟨k,rfl⟩:∃k:Nat,c=k:=⟨c.toNat,rs⟩
 have:∀k:Nat,k < 256→IntKind.u8.wrap (BitVec.ofInt (IntKind.bits .u8) (k:Int) &&& BitVec.ofInt (IntKind.bits .u8) 127).toNat=(k:Int) % 128:=by decide +kernel
 exact this k rs
theorem ab5 (n m j:Nat) (d:n < 2 ^ j) (hm:m*2 ^ j+n < 18446744073709551616):(BitVec.ofInt 64 (n:Int) ||| BitVec.ofInt 64 ((m*2 ^ j:Nat):Int)).toNat=n+m*2 ^ j:=by
 have h1:n < 2 ^ 64:=by omega
 have a:m*2 ^ j < 2 ^ 64:=by omega
 rw [BitVec.toNat_or,BitVec.ofInt_natCast,BitVec.ofInt_natCast,BitVec.toNat_ofNat,BitVec.toNat_ofNat,Nat.mod_eq_of_lt h1,Nat.mod_eq_of_lt a,Nat.or_comm,←Nat.shiftLeft_eq,←Nat.shiftLeft_add_eq_or_of_lt d,kF]
theorem acn (n c:Int) (i:Nat) (v:i≤8) (u:0≤n∧n < 128 ^ i) (h:0≤c∧c < 256):wi0 .i64 (BitVec.ofInt (IntKind.bits .i64) n ||| BitVec.ofInt (IntKind.bits .i64) (wi0 .i64 (wi0 .i64 (IntKind.u8.wrap (BitVec.ofInt (IntKind.bits .u8) c &&& BitVec.ofInt (IntKind.bits .u8) 127).toNat)*2 ^ min (Int.toNat (wi0 .i64 (7*(i:Int)))) (IntKind.bits .i64)))).toNat=n+c % 128*128 ^ i:=by
 rw [acX c h.1 h.2,mM (x:=c % 128) rs rs,mM (x:=7*(i:Int)) rs rs]
 have j:min (Int.toNat (7*(i:Int))) (IntKind.bits .i64)=7*i:=by simp only [IntKind.bits]; omega
 rw [j]
 obtain ⟨a,rfl⟩:∃a:Nat,n=a:=⟨n.toNat,rs⟩
 obtain ⟨b,s⟩:∃b:Nat,c % 128=b:=⟨(c % 128).toNat,rs⟩
 rw [s]
 have t:b < 128:=by omega
 have g:(128:Nat) ^ i=2 ^ (7*i):=by rw [Nat.pow_mul]
 have k:(128:Int) ^ i=((2 ^ (7*i):Nat):Int):=by rw [←g]; simp
 have ha:a < 2 ^ (7*i):=by rw [←g]; have:=u.2; exact_mod_cast this
 have d:2 ^ (7*i)≤2 ^ 56:=Nat.pow_le_pow_right tc rs
 have hm:b*2 ^ (7*i)+a < 9223372036854775808:=by
  have:(b+1)*2 ^ (7*i)≤128*2 ^ 56:=Nat.mul_le_mul rs d
  rw [cZ] at this; omega
 have q:((b:Int)*2 ^ (7*i))=((b*2 ^ (7*i):Nat):Int):=by simp
 rw [q,mM (x:=((b*2 ^ (7*i):Nat):Int)) rs rs]
 show wi0 .i64 ((BitVec.ofInt 64 (a:Int) ||| BitVec.ofInt 64 ((b*2 ^ (7*i):Nat):Int)).toNat:Int)=_
 rw [ab5 a b (7*i) ha rs,mM rs rs,k]
 simp
theorem VY (n c:Int) (i:Nat) (a:0≤n∧n < 128 ^ i):0≤n+c % 128*128 ^ i∧n+c % 128*128 ^ i < 128 ^ (i+1):=by
 have h1:0≤c % 128∧c % 128 < 128:=⟨rs,rs⟩
 have hp:(0:Int) < 128 ^ i:=Int.pow_pos tc
 constructor
 ·have:=Int.mul_nonneg h1.1 (Int.le_of_lt hp); omega
 ·rw [Int.pow_succ]
  have:c % 128*128 ^ i≤127*128 ^ i:=Int.mul_le_mul_of_nonneg_right rs (Int.le_of_lt hp)
  omega
theorem Zg (a:Int):∀(l:List Int) (i:Nat) (n:Int) (k:Nat),B8 l→i≤9→0≤n∧n < 128 ^ i→l.length < k→pT a k n i l false=some (wr (oH a i n l))
 | [],i,n,k+1,_,I,_,_=>by
  rw [pT,V5 _ _ rs]
  by_cases g:i=9 <;> simp [oH,wr,g] <;> omega
 | c::l,i,n,k+1,v,I,y,hk=>by
  have z:=v c (List.mem_cons_self ..)
  rw [pT,V5 _ _ rs]
  unfold oH
  by_cases g:i=9
  ·subst g; rfl
  ·have q:¬((i:Int)=9):=by omega
   have u:=acn n c i rs y z
   have hp:=VY n c i y
   have s:rj (decide (0≤wi0 .i64 (7*(i:Int))))=some ():=by rw [mM rs rs]; simp [rj]; omega
   have t:wi0 .i64 ((i:Int)+1)=((i+1:Nat):Int):=by rw [mM rs rs]; simp
   simp only [g,q,aK,aA]
   by_cases j:c=0∧0 < i
   ·have:c=0∧0 < (i:Int):=⟨j.1,rs⟩
    rw [aO this,aO j]; rfl
   ·have:¬(c=0∧0 < (i:Int)):=λh=>j ⟨h.1,rs⟩
    rw [aH this,aH j]
    simp only [u,s,t,aA]
    by_cases d:c < 128
    ·simp only [d,cK,aR]
     by_cases hm:n+c % 128*128 ^ i > a
     ·simp only [hm,cK,aR,Bx _ 12 tc,aA,wr]
     ·simp only [hm,cX,aK,aB,aA,wr]
    ·simp only [d,cX,aK,aB]
     exact Zg a l (i+1) _ k (λx J=>v x (eG _ J)) rs hp (by simp only [aG] at hk; omega)
theorem B8.tail {c:Int} {l:List Int} (h:B8 (c::l)):B8 l:=λx a=>h x (eG _ a)
theorem B8.drop {l:List Int} (h:B8 l) (n:Nat):B8 (l.drop n):=λx a=>h x (iQ a)
theorem B8.take {l:List Int} (h:B8 l) (n:Nat):B8 (l.take n):=λx a=>h x (eJ a)
def DR {α:Type} (l:List Int) (x:Int ⊕ (α×List Int)):Prop:=∀v a,x= .inr (v,a)→∃k,a=l.drop k
theorem DR.FT {α β:Type} {l:List Int} {x:Int ⊕ (α×List Int)} {f:α→List Int→Int ⊕ (β×List Int)} (h:DR l x) (d:∀v a,DR a (f v a)):DR l (nQ x f):=λv a e=>by
 cases x with
 | inl q=>cases e
 | inr q=>
  obtain ⟨k,hk⟩:=h q.1 q.2 Z
  obtain ⟨j,g⟩:=d q.1 q.2 v a e
  exact ⟨k+j,by rw [g,hk,List.drop_drop]⟩
theorem vd (a:Int):∀(l:List Int) (i:Nat) (n:Int),DR l (oH a i n l)
 | [],i,n=>λv d e=>by cases e
 | c::l,i,n=>λv d e=>by
  unfold oH at e
  split at e
  ·cases e
  split at e
  ·cases e
  split at e
  ·split at e
   ·cases e
   ·cases e; exact ⟨1,Z⟩
  ·obtain ⟨k,hk⟩:=vd a l (i+1) _ v d e
   exact ⟨k+1,by rw [hk,List.drop_succ_cons]⟩
theorem EG (a:Int) (l:List Int):DR l (wk a l):=(vd _ _ _ _).FT λn d v g e=>by
 split at e
 ·cases e
 split at e
 ·cases e
 ·cases e; exact ⟨_,Z⟩
theorem CD (l:List Int):DR l (zM l):=(EG _ _).FT λt a v d e=>by
 split at e
 ·cases e; exact ⟨0,Z⟩
 ·cases e
theorem xB (l:List Int):DR l (wg l):=(CD _).FT λa d=>(CD _).FT λb g v h e=>by cases e; exact ⟨0,Z⟩
theorem SP (k:Int) (h:lh) (l:List Int):DR l (Iw k h l):=by
 unfold Iw
 split
 ·exact (CD _).FT λa d v g e=>by cases e; exact ⟨0,Z⟩
 split
 ·exact (xB _).FT λa d v g e=>by cases e; exact ⟨0,Z⟩
 split
 ·exact (xB _).FT λa d=>(CD _).FT λb i v g e=>by cases e; exact ⟨0,Z⟩
 ·exact (xB _).FT λa d=>(xB _).FT λb i v g e=>by cases e; exact ⟨0,Z⟩
theorem JC (l:List Int):DR l (HF l):=(vd _ _ _ _).FT λk d=>by
 split
 ·intro v a e; cases e
 ·exact (xB _).FT λh g=>(SP _ _ _).FT λc i v j e=>by
   split at e
   ·cases e; exact ⟨0,Z⟩
   ·cases e
theorem Ca (l:List Int) (a:Int) (d:B8 l) (g:l.length≤1000000):oK ⟨l,false⟩ a=some (wr (oH a 0 0 l)):=by
 unfold oK yu
 simp only [aA,aB,aK]
 exact Zg a l 0 0 mZ d rs tc (by rw [yP]; omega)
theorem O0 (a:Int):∀(l:List Int) (i:Nat) (n v:Int) (d:List Int),0≤n∧n < 128 ^ i→oH a i n l= .inr (v,d)→0≤v∧v≤a
 | [],i,n,v,d,_,e=>by cases e
 | c::l,i,n,v,d,g,e=>by
  have hp:=VY n c i g
  unfold oH at e
  split at e
  ·cases e
  split at e
  ·cases e
  split at e
  ·split at e
   ·cases e
   ·cases e; exact ⟨hp.1,rs⟩
  ·exact O0 a l (i+1) _ v d hp e
theorem QH (l:List Int) (a:Int) (v:B8 l) (x:l.length≤1000000):tp ⟨l,false⟩ a=some (wr (wk a l)):=by
 unfold tp yu
 simp only [aA,aB,aK]
 rw [Ca l _ v x]
 unfold wk
 have h:=vd zr l 0 0
 have g:=O0 zr l 0 0
 have e0:oH 9223372036854775807 0 0 l=oH zr 0 0 l:=rfl
 rw [e0]
 cases j:oH zr 0 0 l with
 | inl e=>simp [wr,nQ]
 | inr q=>
  obtain ⟨n,d⟩:=q
  obtain ⟨k,hk⟩:=h n d j
  have s:=(g n d ⟨tc,tc⟩ j).1
  have y:d.length≤1000000:=by rw [hk,fS]; omega
  simp only [aA,wr,nQ]
  by_cases h1:n > a
  ·simp only [h1,cK,aR,Bx _ 12 tc,aA,wr]
  ·by_cases i:n > (d.length:Int)
   ·simp only [h1,i,cK,cX,aR,aK,aB,Bx _ 10 tc,aA,wr]
   ·have t:rj (decide (0≤n)&&decide (n≤(d.length:Int)))=some ():=B1 s rs
    have u:rO (d.take n.toNat)=some (d.take n.toNat):=FP (by rw [cU]; omega)
    simp only [h1,i,t,u,cX,aK,aB,aA,wr]
theorem B8.part {α:Type} {l a:List Int} {x:Int ⊕ (α×List Int)} {v:α} (h:B8 l) (d:l.length≤1000000) (hp:DR l x) (e:x= .inr (v,a)):B8 a∧a.length≤1000000:=by
 obtain ⟨k,hk⟩:=hp v a e
 rw [hk]
 exact ⟨h.drop k,by rw [fS]; omega⟩
theorem LQ (l:List Int) (a:B8 l) (d:l.length≤1000000):xN ⟨l,false⟩=some (wr (zM l)):=by
 unfold xN zM
 rw [QH l _ a d]
 cases h:wk 16 l with
 | inl e=>rfl
 | inr q=>
  obtain ⟨t,i⟩:=q
  simp only [aA,wr,nQ,OE,uf]
  cases g:rz (Nv t) <;> simp [wr,Bx]
theorem JS (l:List Int) (d:B8 l) (g:l.length≤1000000):wF ⟨l,false⟩=some (wr (wg l)):=by
 unfold wF wg
 rw [LQ l d g]
 cases j:zM l with
 | inl e=>rfl
 | inr q=>
  obtain ⟨a,h⟩:=q
  obtain ⟨h1,i⟩:=d.part g (CD l) j
  simp only [aA,wr,nQ]
  rw [LQ h h1 i]
  cases k:zM h with
  | inl e=>rfl
  | inr q=>obtain ⟨b,s⟩:=q; rfl
theorem acu (l:List Int) (J:B8 l) (M:l.length≤1000000):EJ ⟨l,false⟩=some (wr (HF l)):=by
 unfold EJ HF
 rw [Ca l _ J M]
 have e0:oH 9223372036854775807 0 0 l=oH zr 0 0 l:=rfl
 rw [e0]
 cases U:oH zr 0 0 l with
 | inl e=>rfl
 | inr q=>
  obtain ⟨k,z⟩:=q
  obtain ⟨h1,I⟩:=J.part M (vd zr l 0 0) U
  simp only [aA,wr,nQ]
  by_cases hk:k < 1∨4 < k
  ·have v:(if decide (k < 1)=true then some true else some (decide (k > 4)):Option Bool)=some true:=by
    by_cases h:k < 1 <;> simp [h]; omega
   rw [v,aO hk]
   simp [Bx,wr]
  ·have v:(if decide (k < 1)=true then some true else some (decide (k > 4)):Option Bool)=some false:=by
    rw [aH ss]; simp; omega
   rw [v,aH hk]
   simp only [aA,aK,aB]
   rw [JS z h1 I]
   cases Q:wg z with
   | inl e=>rfl
   | inr q=>
    obtain ⟨h,d⟩:=q
    obtain ⟨i,j⟩:=h1.part I (xB z) Q
    simp only [aA,wr,nQ]
    have P:∀{A:Type} (K:lg→List Int→Bool→Option A) (X:Int→Option A),True:=λ_ _=>trivial
    have fin:∀(c:lg) (a:List Int),((tH c).bind λt=>if (!t)=true then (nS ⟨a,false⟩ 11).bind λu=>match u with | .inl s=>some (Sum.inl s) | .inr O=>some (Sum.inr ((⟨0,⟨zS,zS⟩,zS,⟨zS,zS⟩,⟨zS,zS⟩,zS⟩:lg),(⟨a,false⟩:mf))) else some (Sum.inr (c,(⟨a,false⟩:mf))))=some (wr (if nH c=true then .inr (c,a) else .inl 11)):=λc a=>by
     rw [ud]
     cases nH c <;> simp [Bx,wr]
    unfold Iw
    by_cases W:k=1
    ·subst W
     simp only [bB,aR]
     rw [LQ d i j]
     cases zM d with
     | inl e=>rfl
     | inr q=>obtain ⟨w,a⟩:=q; exact fin _ _
    ·by_cases k2:k=2
     ·subst k2
      simp only [Int.reduceBEq,Int.reduceEq,aK,aR,aB]
      rw [JS d i j]
      cases wg d with
      | inl e=>rfl
      | inr q=>obtain ⟨w,a⟩:=q; exact fin _ _
     ·by_cases Y:k=3
      ·subst Y
       simp only [Int.reduceBEq,Int.reduceEq,aK,aR,aB]
       rw [JS d i j]
       cases g:wg d with
       | inl e=>rfl
       | inr q=>
        obtain ⟨w,a⟩:=q
        obtain ⟨x,y⟩:=i.part j (xB d) g
        simp only [aA,wr,nQ]
        rw [LQ a x y]
        cases zM a with
        | inl e=>rfl
        | inr q=>obtain ⟨w2,l4⟩:=q; exact fin _ _
      ·have k4:k=4:=by omega
       subst k4
       simp only [Int.reduceBEq,Int.reduceEq,aK,aR,aB]
       rw [JS d i j]
       cases g:wg d with
       | inl e=>rfl
       | inr q=>
        obtain ⟨w,a⟩:=q
        obtain ⟨x,y⟩:=i.part j (xB d) g
        simp only [aA,wr,nQ]
        rw [JS a x y]
        cases wg a with
        | inl e=>rfl
        | inr q=>obtain ⟨w2,l4⟩:=q; exact fin _ _
theorem sgW (l:List Int) (a:B8 l) (d:l.length≤1000000):EK ⟨l,false⟩=some (wr (AW l)):=by
 unfold EK AW
 rw [acu l a d]
 cases j:HF l with
 | inl e=>rfl
 | inr q=>
  obtain ⟨c,g⟩:=q
  obtain ⟨h1,h⟩:=a.part d (JC l) j
  simp only [aA,wr,nQ]
  rw [QH g _ h1 h]
  cases k:wk 8 g with
  | inl e=>rfl
  | inr q=>
   obtain ⟨t,s⟩:=q
   simp only [aA,wr,nQ]
   by_cases i:(t.length:Int)=8 <;> simp [i,Bx,wr]
theorem yq (a k:Int) (l:List Int) (d:0≤k) (h1:k < 128) (hm:k≤a):oH a 0 0 (k::l)= .inr (k,l):=by
 unfold oH
 have e:(0:Int)+k % 128*128 ^ 0=k:=by simp; omega
 rw [e,aH tc,aH rv,aO h1,aH rs]
theorem Rg (a:Int) (t l:List Int) (h:t.length < 128) (hm:(t.length:Int)≤a):wk a ((t.length:Int)::(t++l))= .inr (t,l):=by
 unfold wk
 rw [yq _ _ _ rs rs (by unfold zr; omega)]
 simp only [nQ]
 rw [aH rs,aH ss]
 simp
theorem F1 {s:ByteArray} (h:rz s=true) (l:List Int):zM (zU s++l)= .inr (s,l):=by
 have h1:=uJ h
 unfold zM zU
 rw [bU,←sx,Rg _ _ _ (by rw [sx]; omega) (by rw [sx]; omega)]
 simp only [nQ,JO,h,aR]
theorem D8 {r:lh} (h:ou r=true) (l:List Int):wg (rl r++l)= .inr (r,l):=by
 simp only [ou,bI] at h
 unfold wg rl
 rw [aP,F1 h.1]
 simp only [nQ]
 rw [F1 h.2]
theorem Xh {c:lg} (h:nH c=true) (l:List Int):HF (xb c++l)= .inr (c,l):=by
 have a:=uq h
 have i:1≤c.Kind∧c.Kind≤4:=by rcases a with g | g | g | g <;> rw [g.1] <;> decide
 have d:Iw c.Kind c.Head (FE c++l)= .inr (c,l):=by
  obtain ⟨k,hd,Tl,b,c2,j⟩:=c
  unfold Iw FE
  rcases a with g | g | g | g
  ·obtain ⟨rfl,g1,rfl,rfl,rfl⟩:=g
   simp only [aR]
   rw [F1 g1]; rfl
  ·obtain ⟨rfl,g1,rfl,rfl,rfl⟩:=g
   simp only [Int.reduceEq,aK,aR]
   rw [D8 g1]; rfl
  ·obtain ⟨rfl,g1,g2,g3,rfl,rfl⟩:=g
   simp only [Int.reduceEq,aK,aR]
   rw [aP,D8 g1]
   simp only [nQ]
   rw [F1 g2]
  ·obtain ⟨rfl,g1,g2,g3,rfl,rfl⟩:=g
   simp only [Int.reduceEq,aK,aR]
   rw [aP,D8 g1]
   simp only [nQ]
   rw [D8 g2]
 unfold HF xb
 rw [bU,yq _ _ _ rs rs (by unfold zr; omega)]
 simp only [nQ]
 rw [aH rs,aP,D8 (Fu h)]
 simp only [nQ]
 rw [d]
 simp only [nQ,h,aR]
theorem ZR {c:lg} (h:nH c=true) {t:List Int} (a:t.length=8) (l:List Int):AW (xb c++((8:Int)::t)++l)= .inr (⟨c,t⟩,l):=by
 unfold AW
 rw [aP,Xh h]
 simp only [nQ]
 have:=Rg 8 t l rs rs
 rw [a] at this
 rw [bU,show ((8:Int)::(t++l))=(((8:Nat):Int)::(t++l)) from rfl,this]
 simp [nQ,a]
theorem aaE {c:lg} (h:nH c=true):B8 (xb c):=(abp h).tail
theorem DU {l:List Int} (h:l.length≤1000000):si l=some l:=by
 unfold si; rw [FP h]; rfl
end Go.Proofs.YtojmckcglalbnaaGreat
namespace Go.Proofs.YtojmckcglalbnaaGreat
open Go.IntKind renaming wrap → wi0
open Go.RowKit Go.Lib
theorem PR (all:List Signed) (k:all.length≤100000000):∀(l A:List Signed),all=A++l→∃b,uM all l A.length=some b∧(b=true→(∀x∈l,nH x.lg=true∧x.Tag.length=8)∧all.length≤8)
 | [],A,_=>⟨_,by rw [uM],λh=>⟨rv,by have:=eO h; omega⟩⟩
 | x::l,A,e=>by
  have prev:∃v,(if (decide ((A.length:Int) > 0)) then (nY all (wi0 .i64 ((A.length:Int)-1))).bind λd=>((vY d.lg x.lg).bind λa=>some (decide (a≥0))) else some false)=some v:=by
   rcases fB A with rfl | ⟨B,y,rfl⟩
   ·exact ⟨_,Z⟩
   ·simp only [fC] at *
    have j:B.length≤100000000:=by rw [e] at k; simp at k; omega
    have h1:((B++[y]).length:Int) > 0:=by simp
    simp only [h1,cK,aR]
    rw [mM rv ss,show ((B++[y]).length:Int)-1=(B.length:Int) by simp,e,aP]
    rw [show B++([y]++x::l)=B++y::(x::l) from rfl,pz B y (x::l) _ Z,aA]
    obtain ⟨c,t,h⟩:=Dg y.lg x.lg
    rw [t]
    exact ⟨_,Z⟩
  obtain ⟨v,z⟩:=prev
  rw [uM,ud,aA]
  cases u:nH x.lg with
  | false=>exact ⟨false,rv,λh=>by cases h⟩
  | true=>
   by_cases s:x.Tag.length=8
   ·have i:((x.Tag.length:Int) != 8)=false:=by simp [s]
    simp only [bM,aB,aK,aA,i,z]
    cases v with
    | true=>exact ⟨false,rv,λh=>by cases h⟩
    | false=>
     obtain ⟨b,j,q⟩:=PR all k l (A++[x]) (by rw [e]; simp)
     rw [aC] at j
     refine ⟨b,by simpa using j,λh=>⟨λy g=>?_,(q h).2⟩⟩
     rcases aW.1 g with g | g
     ·subst g; exact ⟨u,s⟩
     ·exact (q h).1 y g
   ·have i:((x.Tag.length:Int) != 8)=true:=by simp; omega
    exact ⟨false,by simp [i],λh=>by cases h⟩
theorem QS (f:Signed×Signed→Option Bool) (a:∀x,∃v,f x=some v):∀(l m A:List Signed),l.length=m.length→∃v,ml (A++m) f l A.length=some v
 | [],[],A,_=>⟨_,by rw [ml]⟩
 | x::l,y::m,A,h=>by
  obtain ⟨v,d⟩:=a (x,y)
  rw [ml,pz A y m _ Z,aA,d,aA]
  obtain ⟨w,hw⟩:=QS f a l m (A++[y]) (by simpa using h)
  rw [aC,aP] at hw
  cases v with
  | true=>exact ⟨w,by simpa using hw⟩
  | false=>exact ⟨_,Z⟩
theorem UJ (x:Signed×Signed):∃v,rn x.1 x.2=some v:=by
 unfold rn rk
 cases ni x.1.lg x.2.lg <;> exact ⟨_,Z⟩
theorem Jq (a b:ow):∃v,Ab a b=some v∧(v=true→a.Kind=b.Kind∧a.ny=b.ny∧a.E=b.E∧a.Name=b.Name∧a.nX=b.nX∧a.nm.length=b.nm.length):=by
 have s:∃v,nc a.nm b.nm (λ(x:(Signed×Signed))=>rn x.1 x.2)=some v∧(v=true→a.nm.length=b.nm.length):=by
  unfold nc
  by_cases h:a.nm.length=b.nm.length
  ·rw [aH (by simp [h])]
   obtain ⟨v,j⟩:=QS _ UJ a.nm b.nm [] h
   exact ⟨v,j,λ_=>h⟩
  ·rw [aO ss]
   exact ⟨false,Z,λh=>by cases h⟩
 obtain ⟨v,j,k⟩:=s
 unfold Ab
 rw [j,CK]
 by_cases h1:a.Kind=b.Kind
 ·by_cases d:a.ny=b.ny
  ·by_cases g:a.E=b.E
   ·cases q:ob a.Name b.Name with
    | false=>exact ⟨false,by simp [h1,d,g],λh=>by cases h⟩
    | true=>
     by_cases i:a.nX=b.nX
     ·exact ⟨v,by simp [h1,d,g,i],λh=>⟨h1,d,g,oq.1 q,i,k h⟩⟩
     ·exact ⟨false,by simp [h1,d,g,i],λh=>by cases h⟩
   ·exact ⟨false,by simp [h1,d,g],λh=>by cases h⟩
  ·exact ⟨false,by simp [h1,d],λh=>by cases h⟩
 ·exact ⟨false,by simp [h1],λh=>by cases h⟩
def RM (m:ow):Prop :=
 (∃p n,m=⟨1,p,0,n,[],[]⟩∧rz n=true∧(p=1∨p=2))∨
 (∃w s,m=⟨2,0,0,zS,w,s⟩∧(∀r∈w,ou r=true)∧w.length≤16∧(∀x∈s,nH x.lg=true∧x.Tag.length=8)∧s.length≤8)∨
 m=⟨3,0,0,zS,[],[]⟩∨m=⟨4,0,0,zS,[],[]⟩∨(∃e,m=⟨5,0,e,zS,[],[]⟩∧1≤e∧e≤99)
theorem WD (w:List lh):∃b,Bz w=some b∧(b=true→(∀r∈w,ou r=true)∧w.length≤16):=by
 unfold Bz
 by_cases h:w.length≤16
 ·obtain ⟨s,e,g⟩:=Jz w rs
  refine ⟨decide (s=w),by rw [aO ss,e,aA,CK]; rfl,λa=>⟨λr d=>?_,h⟩⟩
  have:=eO a
  subst this
  exact ((g.2 r).1 d).2
 ·exact ⟨false,by rw [aH ss]; rfl,λh=>by cases h⟩
theorem YN {α:Type} {l:List α} (h:([]:List α).length=l.length):l=[]:=ed.1 h.symm
theorem KL (m:ow) (U:m.nm.length≤100000000):∃b,oD m=some b∧(b=true→RM m):=by
 obtain ⟨k,p,e,n,w,s⟩:=m
 unfold oD AT
 by_cases I:k=1
 ·subst I
  obtain ⟨v,i,d⟩:=Jq ⟨1,p,0,n,[],[]⟩ ⟨1,p,e,n,w,s⟩
  simp only [bB,aR,aA,i,uf]
  cases v with
  | false=>exact ⟨false,Z,λh=>by cases h⟩
  | true=>
   obtain ⟨_,_,he,_,hw,g⟩:=d Z
   obtain rfl:0=e:=he
   obtain rfl:[]=w:=hw
   obtain rfl:=YN g
   refine ⟨rz n&&(decide (p=1)||decide (p=2)),?_,λh=>.inl ⟨p,n,Z,?_⟩⟩
   ·cases rz n
    ·rfl
    ·by_cases O:p=1
     ·simp [O]
     ·by_cases Y:p=2 <;> simp [O,Y]
   ·simpa using h
 ·by_cases k2:k=2
  ·subst k2
   obtain ⟨v,i,d⟩:=Jq ⟨2,0,0,zS,w,s⟩ ⟨2,p,e,n,w,s⟩
   obtain ⟨a,ha,j⟩:=WD w
   obtain ⟨b,Q,q⟩:=PR s U s [] Z
   have x:FF s=some b:=Q
   have u:((2:Int)==1)=false:=rfl
   simp only [u,bB,aB,aK,aR,aA,i,ha,x]
   cases v with
   | false=>exact ⟨false,Z,λh=>by cases h⟩
   | true=>
    obtain ⟨_,hp,he,t,_,_⟩:=d Z
    obtain rfl:0=p:=hp
    obtain rfl:0=e:=he
    obtain rfl:zS=n:=t
    refine ⟨a&&b,by cases a <;> cases b <;> rfl,λh=>.inr (.inl ⟨w,s,Z,?_⟩)⟩
    rw [bI] at h
    exact ⟨(j h.1).1,(j h.1).2,(q h.2).1,(q h.2).2⟩
  ·have u:(k==1)=false:=by simpa using I
   have z:(k==2)=false:=by simpa using k2
   by_cases M:k=5
   ·subst M
    obtain ⟨v,i,d⟩:=Jq ⟨5,0,e,zS,[],[]⟩ ⟨5,p,e,n,w,s⟩
    simp only [u,z,bB,aB,aK,aR,aA,i]
    cases v with
    | false=>exact ⟨false,Z,λh=>by cases h⟩
    | true=>
     obtain ⟨_,hp,_,t,hw,g⟩:=d Z
     obtain rfl:0=p:=hp
     obtain rfl:zS=n:=t
     obtain rfl:[]=w:=hw
     obtain rfl:=YN g
     refine ⟨decide (1≤e∧e≤99),?_,λh=>.inr (.inr (.inr (.inr ⟨e,Z,eO h⟩)))⟩
     by_cases y:1≤e
     ·simp [y]
     ·simp [y]
   ·have P:(k==5)=false:=by simpa using M
    obtain ⟨v,i,d⟩:=Jq ⟨k,0,0,zS,[],[]⟩ ⟨k,p,e,n,w,s⟩
    simp only [u,z,P,aB,aK,aA,i]
    cases v with
    | false=>exact ⟨false,Z,λh=>by cases h⟩
    | true=>
     obtain ⟨_,hp,he,t,hw,g⟩:=d Z
     obtain rfl:0=p:=hp
     obtain rfl:0=e:=he
     obtain rfl:zS=n:=t
     obtain rfl:[]=w:=hw
     obtain rfl:=YN g
     refine ⟨decide (k=3∨k=4),?_,λh=>?_⟩
     ·by_cases J:k=3
      ·simp [J]
      ·by_cases W:k=4 <;> simp [J,W]
     ·rcases eO h with rfl | rfl
      ·exact .inr (.inr (.inl Z))
      ·exact .inr (.inr (.inr (.inl Z)))
def hxd (k:Nat):Nat:=if k < 10 then 48+k else 87+k
def ac9 (t:List Int):List Int:=t.flatMap λx=>[(hxd (x.toNat / 16):Int),(hxd (x.toNat % 16):Int)]
def sT (s:Signed):ByteArray:=cT s.lg++sp1++Nv (ac9 s.Tag)
def Mo (s:Signed):Prop:=nH s.lg=true∧s.Tag.length=8∧B8 s.Tag
def Jl (n:Int):List Int:=if n < 128 then [n] else if n < 16384 then [n % 128+128,n / 128] else [n % 128+128,n / 128 % 128+128,n / 16384]
theorem Rw (n:Int):(Jl n).length≤3:=by
 unfold Jl
 split
 ·simp
 split <;> simp
theorem ab8 {n:Int} (d:0≤n) (h1:n < 2097152):B8 (Jl n):=by
 intro x a
 unfold Jl at a
 split at a
 ·simp at a; omega
 split at a
 ·simp at a; omega
 ·simp at a; omega
theorem orV:∀k:Nat,k < 256→IntKind.u8.wrap (BitVec.ofInt (IntKind.bits .u8) (k:Int) ||| BitVec.ofInt (IntKind.bits .u8) 128).toNat=(k:Int) % 128+128:=by decide +kernel
theorem Yd {n:Int} (h:0≤n):IntKind.u8.wrap (BitVec.ofInt (IntKind.bits .u8) (IntKind.u8.wrap n) ||| BitVec.ofInt (IntKind.bits .u8) 128).toNat=n % 128+128:=by
 rw [show IntKind.u8.wrap n=n % 256 from IntKind.wrap_u8 n]
 have:=orV (n % 256).toNat rs
 rw [show (((n % 256).toNat:Nat):Int)=n % 256 by omega] at this
 rw [this]; omega
theorem shV (n:Int):Int.fdiv n (2 ^ min (Int.toNat 7) (IntKind.bits .i64))=n / 128:=by
 have e:(2:Int) ^ min (Int.toNat 7) (IntKind.bits .i64)=128:=by decide
 rw [e,gD _ tc]
theorem aaQ {l:List Int} {n:Int} (d:0≤n) (h1:n < 2097152) (j:l.length≤90000):nL l n=some (true,l++Jl n):=by
 unfold Jl
 by_cases h:n < 128
 ·rw [aO h]; exact sS d h rs
 rw [aH h]
 unfold nL
 have i:∀x:Int,0≤x→x < 256→IntKind.u8.wrap x=x:=λx a b=>ku _ rs
 rw [aH ss,show mZ=18446744073709551613+1+1+1 by rw [yP],oO,aO ss,Yd d,Ct ss,aA,shV,oO]
 by_cases g:n < 16384
 ·rw [aO g,aH ss,i _ rs rs,Ct ss]
  simp
 ·rw [aH g,aO ss,Yd rs,Ct ss,aA,shV,oO,aH ss,i _ rs rs,Ct ss]
  have e:n / 128 / 128=n / 16384:=by omega
  rw [e]
  simp
theorem Pk (a:Int) (i:Nat) (n c:Int) (l:List Int) (d:i≠9) (g:128≤c):oH a i n (c::l)=oH a (i+1) (n+c % 128*128 ^ i) l:=by
 conv=>lhs; unfold oH
 rw [aH d,aH rs,aH rs]
theorem TI (a:Int) (i:Nat) (n c:Int) (l:List Int) (g:i≠9) (h:1≤c) (d:c < 128) (hm:n+c % 128*128 ^ i≤a):oH a i n (c::l)= .inr (n+c % 128*128 ^ i,l):=by
 conv=>lhs; unfold oH
 rw [aH g,aH rs,aO d,aH rs]
theorem abN (a n:Int) (l:List Int) (k:0≤n) (h1:n < 2097152) (hm:n≤a):oH a 0 0 (Jl n++l)= .inr (n,l):=by
 unfold Jl
 by_cases h:n < 128
 ·rw [aO h]; exact yq a n l k h hm
 rw [aH h]
 have d:(128:Int) ^ 0=1:=rfl
 have g:(128:Int) ^ (0+1)=128:=rfl
 have j:(128:Int) ^ (0+1+1)=16384:=rfl
 by_cases i:n < 16384
 ·rw [aO i,bU,bU,bL,Pk _ _ _ _ _ tc rs,TI _ _ _ _ _ tc rs rs (by rw [d,g]; omega),d,g]
  congr 2; omega
 ·rw [aH i,bU,bU,bU,bL,Pk _ _ _ _ _ tc rs,Pk _ _ _ _ _ tc rs,TI _ _ _ _ _ tc rs rs (by rw [d,g,j]; omega),d,g,j]
  congr 2; omega
def zQ (b:List Int):List Int:=Jl (b.length:Int)++b
theorem Xt {b:List Int} (h:B8 b) (a:b.length≤2048):B8 (zQ b):=(ab8 rs rs).Mr h
theorem P4 (b:List Int):(zQ b).length≤b.length+3:=by
 unfold zQ; rw [aC]; have:=Rw (b.length:Int); omega
theorem To {l b:List Int} (a:b.length≤2048) (d:l.length≤80000):sw l b=some (true,l++zQ b):=by
 unfold sw
 have:=Rw (b.length:Int)
 rw [aH ss,aaQ rs rs rs,aA,Ct (by rw [aC]; omega)]
 simp [zQ]
theorem T5 (a:Int) (b l:List Int) (d:b.length≤2048) (hm:(b.length:Int)≤a):wk a (zQ b++l)= .inr (b,l):=by
 unfold wk zQ
 rw [aP,abN _ _ _ rs rs (by unfold zr; omega)]
 simp only [nQ]
 rw [aH rs,aH ss]
 simp
def CY (x:Signed):List Int:=xb x.lg++((8:Int)::x.Tag)
theorem Q5 {c:lg} (h:nH c=true):(xb c).length≤103:=by
 unfold xb FE
 rw [aG,aC]
 have a:=rR (Fu h)
 rcases uq h with g | g | g | g
 ·rw [aO g.1]
  have:=uJ g.2.1
  rw [wz]; omega
 ·rw [aH (by rw [g.1]; decide),aO g.1]
  have:=rR g.2.1
  omega
 ·rw [aH (by rw [g.1]; decide),aH (by rw [g.1]; decide),aO g.1,aC,wz]
  have:=rR g.2.1
  have:=uJ g.2.2.1
  omega
 ·rw [aH (by rw [g.1]; decide),aH (by rw [g.1]; decide),aH (by rw [g.1]; decide),aC]
  have:=rR g.2.1
  have:=rR g.2.2.1
  omega
theorem Ui {x:Signed} (h:Mo x):(CY x).length≤112:=by
 have:=Q5 h.1
 unfold CY
 rw [aC,aG,h.2.1]; omega
theorem ado {x:Signed} (h:Mo x):B8 (CY x):=(aaE h.1).Mr (λy a=>by
 rcases aW.1 a with rfl | a
 ·omega
 ·exact h.2.2 y a)
theorem acA {l:List Int} {x:Signed} (h:Mo x) (g:l.length≤80000):Ep l x=some (true,l++CY x):=by
 have d:=Q5 h.1
 have a:((x.Tag.length:Int) != 8)=false:=by simp [h.2.1]
 unfold Ep
 rw [ud,h.1,a]
 simp only [aA,bM,aB,aK]
 rw [cBy _ h.1,aA]
 unfold DW
 rw [Ct rs]
 simp only [aA,aR]
 unfold sw
 rw [aH (by simp [h.2.1]),h.2.1,sS tc tc (by rw [aC]; omega)]
 simp only [aA]
 rw [Ct (by simp [h.2.1]; omega)]
 simp [CY]
theorem Xv:∀(s:List Signed) (l:List Int),(∀x∈s,Mo x)→l.length+112*s.length≤9000→yN s l=some (l++s.flatMap CY)
 | [],l,_,_=>by rw [yN]; simp
 | x::s,l,h,d=>by
  have a:=h x rv
  have:=Ui a
  rw [aG] at d
  rw [yN,acA a rs,aA,Xv s _ (λy g=>h y (by simp [g])) (by rw [aC]; omega)]
  simp
theorem We (m:ow):∀(w:List lh) (l:List Int),(∀x∈w,ou x=true)→l.length+34*w.length≤9000→xj m w l=xj m [] (l++w.flatMap rl)
 | [],l,_,_=>by simp
 | x::w,l,h,d=>by
  have a:=h x rv
  have:=rR a
  rw [aG] at d
  conv=>lhs; rw [xj]
  rw [Nd a rs,aA,We m w _ (λy g=>h y (by simp [g])) (by rw [aC]; omega)]
  simp
def Fl (w:List lh) (s:List Signed):List Int:=2::(w.length:Int)::(w.flatMap rl++(s.length:Int)::s.flatMap CY)
theorem LI {α:Type} (f:α→List Int) (K:Nat):∀l:List α,(∀x∈l,(f x).length≤K)→(l.flatMap f).length≤K*l.length
 | [],_=>by simp
 | x::l,h=>by
  have:=LI f K l (λy a=>h y (by simp [a]))
  have:=h x rv
  rw [gy,aC,aG,Nat.mul_add]; omega
theorem Zd {α:Type} (f:α→List Int) (l:List α) (h:∀x∈l,B8 (f x)):B8 (l.flatMap f):=λy a=>by
 obtain ⟨x,d,a⟩:=kD.1 a
 exact h x d y a
theorem Kw {w:List lh} {s:List Signed} (hw:∀r∈w,ou r=true) (i:w.length≤16) (g:∀x∈s,Mo x) (h:s.length≤8):(Fl w s).length≤2000:=by
 have a:=LI rl 34 w (λx d=>rR (hw x d))
 have b:=LI CY 112 s (λx d=>Ui (g x d))
 unfold Fl
 rw [aG,aG,aC,aG]; omega
theorem XN {w:List lh} {s:List Signed} (hw:∀r∈w,ou r=true) (i:w.length≤16) (g:∀x∈s,Mo x) (h:s.length≤8):B8 (Fl w s):=λy a=>by
 unfold Fl at a
 rcases aW.1 a with rfl | a
 ·omega
 rcases aW.1 a with rfl | a
 ·omega
 rcases bE.1 a with a | a
 ·exact Zd rl w (λx d=>By (hw x d)) y a
 rcases aW.1 a with rfl | a
 ·omega
 ·exact Zd CY s (λx d=>ado (g x d)) y a
theorem abX {w:List lh} {s:List Signed} (i:oD ⟨2,0,0,zS,w,s⟩=some true) (hw:∀r∈w,ou r=true) (g:w.length≤16) (h:∀x∈s,Mo x) (d:s.length≤8):xD ⟨2,0,0,zS,w,s⟩=some (Fl w s):=by
 have a:=LI rl 34 w (λx j=>rR (hw x j))
 have k:((2:Int)==1)=false:=rfl
 have q:=Kw hw g h d
 unfold xD Af
 rw [i,aA]
 simp only [bM,aB,aK,k,bB,aR]
 rw [sS tc tc rv,aA,sS rs rs rv,aA,We _ _ _ hw ss,xj]
 simp only []
 rw [sS rs rs (by simp only [aC,aG,cM]; omega),aA,Xv _ _ h (by simp only [aC,aG,cM]; omega)]
 simp only [aA]
 have e:[]++[2]++[(w.length:Int)]++List.flatMap rl w++[(s.length:Int)]++List.flatMap CY s=Fl w s:=by simp [Fl]
 rw [e,DU rs]
 rfl
end Go.Proofs.YtojmckcglalbnaaGreat
