/- a part of a proof of TraceBack -/
import Derived.Test.YtjjjihkifgdhgaaGreatDoorRtZkp
import Derived.Test.YtjjjihkifgdhgaaGreatDoorTB9Mp
import Derived.Test.YtjjjihkifgdhgaaGreatDoorRows
import Derived.WalkKit
import Derived.ProofKit
import Derived.OpenShut
import Derived.JoinedCond
import Derived.Deep.Slices
import Derived.Carry
import Derived.ChangeArms
import Derived.ChangeSame
import Derived.Test.YtjjjihkifgdhgaaGreatDoorCards
import Derived.Test.YtjjjihkifgdhgaaGreatDoorTie
import Derived.Deep.DeepHandedRow
import Derived.Lib.LaidTab
import Derived.SevenTiedAt
import Derived.Shelf.Vars
import Derived.Test.YtjjjihkifgdhgaaGreatDoorTB9W2p
set_option linter.all false
namespace Go.Proofs.YtjjjihkifgdhgaaGreatDoor
open Go.Proofs.Tryz renaming prog → pg0
open Go.RowKit
section
variable {α:Type}
structure SWO (lt:α→α→Bool):Prop where
 Jr:∀x,lt x x=false
 tr:∀x y z,lt x y=true→lt y z=true→lt x z=true
 Js:∀x y z,lt x z=true→lt x y=true∨lt y z=true
variable {lt:α→α→Bool}
def tl (lt:α→α→Bool) (p q:α×Nat):Prop:=lt p.1 q.1=true∨(lt q.1 p.1=false∧p.2 < q.2)
def IS (lt:α→α→Bool) (l:List α) (k:α):List α:=l.filter (λx=>!lt k x)++k::l.filter (λx=>lt k x)
def IR (lt:α→α→Bool) (l:List α):List α:=l.foldl (IS lt) []
end
theorem IY {c x:Bool}:(if c=true then some x else some false:Option Bool)=some (c&&x):=by cases c <;> rfl
theorem Ix {α:Type} (x:Option α):(x.bind λy=>some y)=x:=by cases x <;> rfl
theorem gH {x:Int} (a:-9223372036854775808≤x) (h1:x≤9223372036854775807):IntKind.i64.wrap x=x:=IntWalk.i64_in _ (by omega)
theorem mS {α:Type} (A:List α) (x:α) (B:List α) (i:Int) (h:i=(A.length:Int)):im (A++x::B) i=some x:=by
 subst h; rw [yc]; simp
theorem An:iq=18446744073709551615+1:=by rw [pe]
def wP {α:Type} (f1:α→Option Bool) (z:α):Nat→List α→Int→Int→Option (List α)
 | 0,_,_,_=>none
 | n+1,l,i,j=>if decide (j < (l.length:Int)) then
   ((im l j).bind λx=>(f1 x).bind λr=>if (!r) then (im l i).bind λ_=>some (l.set (Int.toNat i) x,IntKind.i64.wrap (i+1)) else some (l,i):Option (List α×Int)).bind λ(c,a)=>wP f1 z n c a (IntKind.i64.wrap (j+1))
  else (kh (decide (0≤i)&&decide (i≤(l.length:Int)))).bind λ_=>(kh (decide (0≤i)&&decide (i≤((jE l (Int.toNat i) z).length:Int)))).bind λ_=>some ((jE l (Int.toNat i) z).take (Int.toNat i))
theorem sa {a b:Int} (c:0≤a) (h1:a≤b):kh (decide (0≤a)&&decide (a≤b))=some ():=by simp [kh,c,h1]
theorem zT {α:Type} (f1:α→Option Bool) (p:α→Bool) (z:α):∀(rest out mid:List α) (n:Nat),rest.length < n→(out++mid++rest).length < 4611686018427387904→mid≠[]→(∀x∈rest,f1 x=some (p x))→
  wP f1 z n (out++mid++rest) (out.length:Int) ((out.length+mid.length:Nat):Int)=some (out++rest.filter λx=>!p x)
 | [],out,mid,0,h,_,_,_=>by simp at h
 | [],out,mid,n+1,_,c,hm,_=>by
  rw [wP,aK (by simp)]
  have h1:out.length≤(out++mid++[]).length:=by simp
  rw [sa (by omega) (by omega)]
  simp only [ay]
  rw [sa (by omega) (by rw [oe _ _ _ (by simpa using h1)]; omega)]
  simp only [ay,bM]
  rw [wD _ _ _ h1]
  simp
 | x::rest,out,mid,0,h,_,_,_=>by simp at h
 | x::rest,out,mid,n+1,h,c,hm,d=>by
  have hlen:(out++mid++x::rest).length=out.length+mid.length+rest.length+1:=by simp; omega
  rw [hlen] at c
  rw [wP,aJ (by rw [hlen]; simp; omega)]
  rw [mS (out++mid) x rest _ (by simp)]
  simp only [ay,d x (by simp)]
  rw [gH (x:=((out.length+mid.length:Nat):Int)+1) (by omega) (by omega)]
  have ih:=zT f1 p z rest
  cases hp:p x with
  | true=>
   simp only [bi,aB,aQ,ay]
   have:=ih out (mid++[x]) n (by simp at h; omega) (by simp; omega) (by simp) (λy g=>d y (by simp [g]))
   simp only [aH,bA,bD,az,aF,ck] at this ⊢
   rw [show ((out.length+mid.length:Nat):Int)+1=((out.length+(mid.length+(0+1)):Nat):Int) by omega,this]
   simp [hp]
  | false=>
   obtain ⟨m,a,rfl⟩:∃m a,mid=m::a:=by cases mid with
    | nil=>exact absurd rfl hm
    | cons m a=>exact ⟨m,a,rfl⟩
   simp only [Bool.not_false,bu]
   rw [aH out (m::a) (x::rest),bA]
   rw [mS out m (a++x::rest) _ rfl]
   simp only [ay]
   rw [gH (x:=(out.length:Int)+1) (by omega) (by simp at c; omega)]
   have:=ih (out++[x]) (a++[x]) n (by simp at h; omega) (by simp at c ⊢; omega) (by simp) (λy g=>d y (by simp [g]))
   simp only [aH,bA,bD,az,aF,ck] at this
   have i:(out++m::(a++x::rest)).set (Int.toNat (out.length:Int)) x=out++x::(a++x::rest):=by
    rw [bM,List.set_append_right _ _ (bl _)]; simp
   rw [i]
   simp only [aF] at c ⊢
   rw [show (out.length:Int)+1=((out.length+(0+1):Nat):Int) by omega,show ((out.length+(a.length+1):Nat):Int)+1=((out.length+(0+1)+(a.length+(0+1)):Nat):Int) by omega,this]
   simp [hp]
def wW {α:Type} (f1:α→Option Bool):List α→Nat→Option Int
 | [],_=>some (-1)
 | x::xs,i=>(f1 x).bind λr=>if r then some (i:Int) else wW f1 xs (i+1)
theorem zX {α:Type} (f1:α→Option Bool) (p:α→Bool):∀(l:List α) (i:Nat),(∀x∈l,f1 x=some (p x))→
  (wW f1 l i=some (-1)∧∀x∈l,p x=false)∨∃A x B,l=A++x::B∧(∀y∈A,p y=false)∧p x=true∧wW f1 l i=some ((i+A.length:Nat):Int)
 | [],i,_=>.inl ⟨rfl,by simp⟩
 | x::l,i,h=>by
  rw [wW,h x (by simp)]
  simp only [ay]
  cases hp:p x with
  | true=>exact .inr ⟨[],x,l,rfl,by simp,hp,by simp⟩
  | false=>
   simp only [aB,aQ]
   rcases zX f1 p l (i+1) (λy a=>h y (by simp [a])) with ⟨h1,c⟩ | ⟨A,y,B,rfl,h1,c,g⟩
   ·exact .inl ⟨h1,by intro y a; rcases aS.1 a with rfl | a; exact hp; exact c y a⟩
   ·refine .inr ⟨x::A,y,B,rfl,?_,c,?_⟩
    ·intro z d; rcases aS.1 d with rfl | d
     ·exact hp
     ·exact h1 z d
    ·rw [g]; simp; omega
def Dv {α:Type} (f1:α→Option Bool) (z:α) (l:List α):Option (List α) :=
 (wW f1 l 0).bind λa=>if (a==(-1)) then some l else wP f1 z iq l a (IntKind.i64.wrap (a+1))
theorem Fx {α:Type} (f1:α→Option Bool) (p:α→Bool) (z:α) (l:List α) (d:l.length < 4611686018427387904) (h:∀x∈l,f1 x=some (p x)):Dv f1 z l=some (l.filter λx=>!p x):=by
 unfold Dv
 rcases zX f1 p l 0 h with ⟨h1,c⟩ | ⟨A,x,B,rfl,h1,c,g⟩
 ·rw [h1]
  simp only [ay,bp,bu]
  rw [List.filter_eq_self.2 (λy a=>by simp [c y a])]
 ·rw [g]
  simp only [ay,dT]
  rw [aK (by simp),gH (by omega) (by simp at d; omega)]
  have:=zT f1 p z B A [x] iq (by rw [pe]; simp at d; omega) (by simpa using d) (by simp) (λy a=>h y (by simp [a]))
  simp only [aH,bA,bD,aF,ck] at this
  rw [show (A.length:Int)+1=((A.length+(0+1):Nat):Int) by omega,this]
  have i:A.filter (λx=>!p x)=A:=List.filter_eq_self.2 (λy a=>by simp [h1 y a])
  rw [List.filter_append,i]
  simp [c]
def kR {α:Type} (eq:α→α→Bool):α→List α→List α
 | _,[]=>[]
 | p,y::ys=>if eq y p then kR eq y ys else y::kR eq y ys
def dd {α:Type} (eq:α→α→Bool):List α→List α
 | []=>[]
 | x::xs=>x::kR eq x xs
def vQ {α:Type} (eq:α→α→Bool) (i:Int):Nat→List α→Int→Int→Option (List α×Int)
 | 0,_,_,_=>none
 | n+1,l,k,j=>if decide (j < ((l.length-Int.toNat i:Nat):Int)) then
   ((im (l.drop (Int.toNat i)) j).bind λx=>(im (l.drop (Int.toNat i)) (IntKind.i64.wrap (j-1))).bind λy=>if !(eq x y) then (im (l.drop (Int.toNat i)) j).bind λz=>(im l k).bind λ_=>some (l.set (Int.toNat k) z,IntKind.i64.wrap (k+1)) else some (l,k):Option (List α×Int)).bind λ(a,k')=>vQ eq i n a k' (IntKind.i64.wrap (j+1))
  else some (l,k)
def wQ {α:Type} (eq:α→α→Bool) (z:α) (l:List α):Nat→Int→Option (List α)
 | 0,_=>none
 | n+1,i=>if decide (i < (l.length:Int)) then (im l i).bind λx=>(im l (IntKind.i64.wrap (i-1))).bind λy=>if eq x y then
    (kh (decide (0≤i)&&decide (i≤(l.length:Int)))).bind λ_=>(vQ eq i iq l i 1).bind λ(a,k)=>(kh (decide (0≤k)&&decide (k≤(a.length:Int)))).bind λ_=>(kh (decide (0≤k)&&decide (k≤((jE a (Int.toNat k) z).length:Int)))).bind λ_=>some ((jE a (Int.toNat k) z).take (Int.toNat k))
   else wQ eq z l n (IntKind.i64.wrap (i+1))
  else some l
def Du {α:Type} (eq:α→α→Bool) (z:α) (l:List α):Option (List α):=if decide ((l.length:Int) < 2) then some l else wQ eq z l iq 1
theorem zP {α:Type} (l:List α) (i:Nat) (j:Int) (a:0≤j):im (l.drop i) j=im l ((i:Int)+j):=by
 obtain ⟨m,rfl⟩:∃m:Nat,j=m:=⟨j.toNat,by omega⟩
 rw [show (i:Int)+(m:Int)=((i+m:Nat):Int) by omega,yc,yc,cM]
theorem xc {α:Type} (eq:α→α→Bool) (i:Nat):∀(rest out mid:List α) (p:α) (n:Nat),rest.length < n→(out++(mid++[p])++rest).length < 4611686018427387904→1≤i→i≤out.length→
  ∃c,vQ eq (i:Int) n (out++(mid++[p])++rest) (out.length:Int) ((out.length+mid.length+1-i:Nat):Int)=some (c,((out++kR eq p rest).length:Int))∧c.take (out++kR eq p rest).length=out++kR eq p rest∧(out++kR eq p rest).length≤c.length
 | [],out,mid,p,0,h,_,_,_=>by simp at h
 | [],out,mid,p,n+1,h,o,h1,k=>by
  rw [vQ,aK (by simp; omega)]
  exact ⟨out++(mid++[p])++[],by simp [kR],by simp [kR],by simp [kR]⟩
 | x::rest,out,mid,p,0,h,_,_,_=>by simp at h
 | x::rest,out,mid,p,n+1,h,o,h1,k=>by
  have hlen:(out++(mid++[p])++x::rest).length=out.length+mid.length+rest.length+2:=by simp; omega
  rw [hlen] at o
  rw [vQ,aJ (by rw [hlen]; simp; omega)]
  rw [bM,zP _ _ _ (by omega),mS (out++(mid++[p])) x rest _ (by simp; omega)]
  simp only [ay]
  rw [gH (x:=((out.length+mid.length+1-i:Nat):Int)-1) (by omega) (by omega),zP _ _ _ (by omega)]
  rw [show out++(mid++[p])++x::rest=(out++mid)++p::(x::rest) by simp]
  rw [mS (out++mid) p (x::rest) _ (by simp; omega)]
  simp only [ay]
  rw [gH (x:=((out.length+mid.length+1-i:Nat):Int)+1) (by omega) (by omega)]
  cases hp:eq x p with
  | true=>
   simp only [bi,aB,aQ,ay]
   obtain ⟨c,d,g,j⟩:=xc eq i rest out (mid++[p]) x n (by simp at h; omega) (by simp; omega) h1 k
   refine ⟨c,?_,by rw [kR,hp]; exact g,by rw [kR,hp]; exact j⟩
   rw [kR,hp,aJ rfl,←d]
   congr 1
   ·simp
   ·simp; omega
  | false=>
   simp only [Bool.not_false,bu]
   obtain ⟨m,a,hm⟩:∃m a,mid++[p]=m::a:=by cases mid with
    | nil=>exact ⟨p,[],rfl⟩
    | cons m a=>exact ⟨m,a++[p],rfl⟩
   have s:a.length=mid.length:=by have:=aC List.length hm; simp at this; omega
   rw [show (out++mid)++p::(x::rest)=out++m::(a++x::rest) by rw [←bA,←hm]; simp]
   rw [mS out m (a++x::rest) _ rfl]
   simp only [ay]
   rw [gH (x:=(out.length:Int)+1) (by omega) (by omega)]
   have u:(out++m::(a++x::rest)).set (Int.toNat (out.length:Int)) x=(out++[x])++(a++[x])++rest:=by
    rw [bM,List.set_append_right _ _ (bl _)]; simp
   rw [u]
   obtain ⟨c,d,g,j⟩:=xc eq i rest (out++[x]) a x n (by simp at h; omega) (by simp; omega) h1 (by simp; omega)
   refine ⟨c,?_,?_,?_⟩
   ·rw [kR,hp,aK (by decide)]
    have q:((out++x::kR eq x rest).length:Int)=((out++[x]++kR eq x rest).length:Int):=by simp
    rw [q,←d]
    congr 1
    ·simp
    ·simp; omega
   ·rw [kR,hp,aK (by decide)]; simpa using g
   ·rw [kR,hp,aK (by decide)]; simpa using j
theorem AI {α:Type} (eq:α→α→Bool) (z:α):∀(rest pre:List α) (p:α) (n:Nat),rest.length < n→(pre++p::rest).length < 4611686018427387904→
  wQ eq z (pre++p::rest) n ((pre.length+1:Nat):Int)=some (pre++p::kR eq p rest)
 | [],pre,p,0,h,_=>by simp at h
 | [],pre,p,n+1,h,i=>by rw [wQ,aK (by simp)]; simp [kR]
 | x::rest,pre,p,0,h,_=>by simp at h
 | x::rest,pre,p,n+1,h,i=>by
  have hlen:(pre++p::x::rest).length=pre.length+rest.length+2:=by simp; omega
  rw [hlen] at i
  rw [wQ,aJ (by rw [hlen]; simp; omega)]
  rw [show pre++p::x::rest=(pre++[p])++x::rest by simp,mS (pre++[p]) x rest _ (by simp)]
  simp only [ay]
  rw [gH (x:=((pre.length+1:Nat):Int)-1) (by omega) (by omega)]
  rw [show (pre++[p])++x::rest=pre++p::(x::rest) by simp,mS pre p (x::rest) _ (by omega)]
  simp only [ay]
  cases hp:eq x p with
  | true=>
   simp only [bu]
   rw [sa (by omega) (by rw [hlen]; omega)]
   simp only [ay]
   obtain ⟨j,a,g,d⟩:=xc eq (pre.length+1) rest (pre++[p]) [] x iq (by rw [pe]; omega) (by simp; omega) (by omega) (by simp)
   simp only [aH,bA,bD,az,aF,ck] at a g d
   rw [show (pre.length+(0+1)+0+1-(pre.length+1):Nat)=1 by omega] at a
   rw [show ((pre.length+1:Nat):Int)=((pre.length+(0+1):Nat):Int) by omega] at *
   have c:vQ eq ((pre.length+(0+1):Nat):Int) iq (pre++p::x::rest) ((pre.length+(0+1):Nat):Int) 1=_:=a
   rw [c]
   simp only [ay]
   rw [sa (by omega) (by omega)]
   simp only [ay,bM]
   rw [sa (by omega) (by rw [oe _ _ _ d]; omega)]
   simp only [ay]
   rw [wD _ _ _ d,g,kR,hp]
   simp
  | false=>
   simp only [aB,aQ]
   rw [gH (x:=((pre.length+1:Nat):Int)+1) (by omega) (by omega)]
   have:=AI eq z rest (pre++[p]) x n (by simp at h; omega) (by simp; omega)
   simp only [aH,bA,bD,az,aF,ck] at this
   rw [show ((pre.length+1:Nat):Int)+1=((pre.length+(0+1)+1:Nat):Int) by omega,this,kR,hp]
   simp
theorem FE {α:Type} (eq:α→α→Bool) (z:α) (l:List α) (a:l.length < 4611686018427387904):Du eq z l=some (dd eq l):=by
 unfold Du
 cases l with
 | nil=>rfl
 | cons x xs=>
  cases xs with
  | nil=>simp [dd,kR]
  | cons y ys=>
   rw [aK (by simp; omega)]
   have:=AI eq z (y::ys) [] x iq (by rw [pe]; simp at a ⊢; omega) (by simpa using a)
   simpa [dd] using this
structure CL {α:Type} (lt:α→α→Prop) (P:α→Prop):Prop where
 irrefl:∀x,P x→¬lt x x
 trans:∀x y z,P x→P y→P z→lt x y→lt y z→lt x z
 total:∀x y,P x→P y→lt x y∨x=y∨lt y x
def xF {α:Type} (lt:α→α→Prop) (P:α→Prop) (l out:List α):Prop:=out.Pairwise lt∧∀x,x∈out↔x∈l∧P x
theorem uN {α:Type} {eq:α→α→Bool} (he:∀x y,eq x y=true↔x=y):∀(l:List α) (p x:α),x∈p::kR eq p l↔x∈p::l
 | [],p,x=>by simp [kR]
 | y::l,p,x=>by
  rw [kR]
  split
  ·rename_i h
   have:=(he y p).1 h
   subst this
   rw [uN he l y x]; simp
  ·have:=uN he l y x
   simp only [aS] at this ⊢
   rw [this]
theorem HM {α:Type} {eq:α→α→Bool} (he:∀x y,eq x y=true↔x=y) (l:List α) (x:α):x∈dd eq l↔x∈l:=by
 cases l with
 | nil=>simp [dd]
 | cons y l=>exact uN he l y x
theorem tb {α:Type} {eq:α→α→Bool} {lt:α→α→Prop} {P:α→Prop} (he:∀x y,eq x y=true↔x=y) (H:CL lt P):∀(l:List α) (p:α),(∀x∈p::l,P x)→(p::l).Pairwise (λa b=>¬lt b a)→(p::kR eq p l).Pairwise lt
 | [],p,_,_=>by simp [kR]
 | y::l,p,c,o=>by
  have h1:=fe.1 o
  rw [kR]
  split
  ·rename_i h
   have:=(he y p).1 h
   subst this
   exact tb he H l y (λx i=>c x (dt _ i)) h1.2
  ·rename_i h
   have ih:=tb he H l y (λx i=>c x (dt _ i)) h1.2
   refine fe.2 ⟨λz n=>?_,ih⟩
   have g:lt p y:=by
    rcases H.total p y (c p (by simp)) (c y (by simp)) with d | d | d
    ·exact d
    ·exact absurd ((he y p).2 d.symm) h
    ·exact absurd d (h1.1 y (by simp))
   rcases aS.1 n with rfl | j
   ·exact g
   ·have k:z∈y::l:=(uN he l y z).1 n
    exact H.trans p y z (c p (by simp)) (c y (by simp)) (c z (dt _ k)) g ((fe.1 ih).1 z j)
theorem DH {α:Type} {eq:α→α→Bool} {lt:α→α→Prop} {P:α→Prop} (he:∀x y,eq x y=true↔x=y) (H:CL lt P) (l:List α) (c:∀x∈l,P x) (d:l.Pairwise (λa b=>¬lt b a)):(dd eq l).Pairwise lt:=by
 cases l with
 | nil=>simp [dd]
 | cons y l=>exact tb he H l y c d
theorem zj {α:Type} {le:α→α→Bool} {P:α→Prop} (i:∀a b c,P a→P b→P c→le a b=true→le b c=true→le a c=true) (h:∀a b,P a→P b→(le a b||le b a)=true) (l:List α) (d:∀x∈l,P x) :
  (l.mergeSort le).Pairwise (λa b=>le a b=true):=by
 have e:l=(l.attachWith P d).map Subtype.val:=by simp
 have hm:((l.attachWith P d).mergeSort λa b=>le a.1 b.1).map Subtype.val=l.mergeSort le:=by
  conv=>rhs; rw [e]
  exact List.map_mergeSort (λa _ b _=>rfl)
 rw [←hm,List.pairwise_map]
 exact List.pairwise_mergeSort (le:=λ(a b:{x // P x})=>le a.1 b.1) (λa b c h1 g=>i a.1 b.1 c.1 a.2 b.2 c.2 h1 g) (λa b=>h a.1 b.1 a.2 b.2) _
theorem Bx {α:Type} {eq:α→α→Bool} {lt:α→α→Prop} {P:α→Prop} {cf:α×α→Option Int} {l:List α} (he:∀x y,eq x y=true↔x=y) (H:CL lt P) (g:∀x∈l,P x) (I:l.length < 4611686018427387904) (G:∀x y,P x→P y→∃c,cf (x,y)=some c∧(c < 0↔lt x y)):∃s,rR cf l=some s∧s.length=l.length∧xF lt P l (dd eq s):=by
 have j:∀x y,P x→P y→(lJ cf x y=true↔lt x y):=λx y i o=>by
  obtain ⟨c,h1,n⟩:=G x y i o
  unfold lJ
  rw [h1]
  simpa using n
 have d:∀x y,P x→P y→(lJ cf x y=false↔¬lt x y):=λx y i o=>by
  rw [←j x y i o]; simp
 have ok:so cf l:=by
  refine ⟨λx i y o=>?_,λx i=>?_,λx i y o z w h1 n=>?_,λx i y o h1 n=>?_,I⟩
  ·obtain ⟨c,h1,_⟩:=G x y (g x i) (g y o); exact ⟨c,h1⟩
  ·exact (d x x (g x i) (g x i)).2 (H.irrefl x (g x i))
  ·rw [j _ _ (g x i) (g y o)] at h1
   rw [j _ _ (g y o) (g z w)] at n
   rw [j _ _ (g x i) (g z w)]
   exact H.trans x y z (g x i) (g y o) (g z w) h1 n
  ·rw [d _ _ (g x i) (g y o)] at h1
   rw [d _ _ (g y o) (g x i)] at n
   rcases H.total x y (g x i) (g y o) with h | h | h
   ·exact absurd h h1
   ·exact h
   ·exact absurd h n
 refine ⟨_,FI ok,by simp [kX],?_,?_⟩
 ·have k:∀x,x∈kX cf l↔x∈l:=λx=>by simp [kX]
  refine DH he H _ (λx i=>g x ((k x).1 i)) ?_
  have:=zj (le:=λx y=>!lJ cf y x) (P:=P) (λa b c ha p q h1 n=>?_) (λa b ha p=>?_) l g
  ·refine (this.imp_of_mem ?_:_)
   intro a b ha p h
   have u:a∈l:=(k a).1 ha
   have v:b∈l:=(k b).1 p
   simp at h
   exact (d b a (g b v) (g a u)).1 h
  ·simp at h1 n ⊢
   rw [d _ _ p ha] at h1
   rw [d _ _ q p] at n
   rw [d _ _ q ha]
   intro A
   rcases H.total a b ha p with h | h | h
   ·exact n (H.trans c a b q ha p A h)
   ·subst h; exact n A
   ·exact h1 h
  ·simp only [eO,Bool.not_eq_true']
   rw [d _ _ p ha,d _ _ ha p]
   by_cases h:lt b a
   ·right; intro n; exact H.irrefl a ha (H.trans a b a ha p ha n h)
   ·exact .inl h
 ·intro x
  rw [HM he]
  constructor
  ·intro i
   have:x∈l:=by simpa [kX] using i
   exact ⟨this,g x this⟩
  ·intro i; simpa [kX] using i.1
theorem yI:∀a:List UInt8,Op.bytesLess a a=false
 | []=>rfl
 | x::a=>by simp [Op.bytesLess,yI a]
theorem AE (x y:UInt8):x < y∨x=y∨y < x:=by
 rcases Nat.lt_trichotomy x.toNat y.toNat with h | h | h
 ·exact .inl h
 ·exact .inr (.inl (UInt8.toNat_inj.1 h))
 ·exact .inr (.inr h)
theorem Ap:∀a b c:List UInt8,Op.bytesLess a b=true→Op.bytesLess b c=true→Op.bytesLess a c=true
 | [],[],c,h1,_=>by simp [Op.bytesLess] at h1
 | _::_,[],c,h1,_=>by simp [Op.bytesLess] at h1
 | a,_::_,[],_,d=>by simp [Op.bytesLess] at d
 | [],b::g,c::cs,_,_=>rfl
 | a::ax,b::g,c::cs,h1,d=>by
  simp only [Op.bytesLess,eO,er,aT,fD] at h1 d ⊢
  rcases h1 with h1 | ⟨rfl,h1⟩
  ·rcases d with d | ⟨rfl,d⟩
   ·exact .inl (UInt8.lt_trans h1 d)
   ·exact .inl h1
  ·rcases d with d | ⟨rfl,d⟩
   ·exact .inl d
   ·exact .inr ⟨rfl,Ap ax g cs h1 d⟩
theorem AH:∀a b:List UInt8,Op.bytesLess a b=true∨a=b∨Op.bytesLess b a=true
 | [],[]=>.inr (.inl rfl)
 | [],_::_=>.inl rfl
 | _::_,[]=>.inr (.inr rfl)
 | a::ax,b::c=>by
  simp only [Op.bytesLess,eO,er,aT,fD,cb]
  rcases AE a b with h | h | h
  ·exact .inl (.inl h)
  ·subst h
   rcases AH ax c with h | h | h
   ·exact .inl (.inr ⟨rfl,h⟩)
   ·exact .inr (.inl ⟨rfl,h⟩)
   ·exact .inr (.inr (.inr ⟨rfl,h⟩))
  ·exact .inr (.inr (.inl h))
theorem xS:∀a b:List UInt8,(Lib.compareBytes a b < 0↔Op.bytesLess a b=true)
 | [],[]=>by simp [Lib.compareBytes,Op.bytesLess]
 | [],_::_=>by simp [Lib.compareBytes,Op.bytesLess]
 | _::_,[]=>by simp [Lib.compareBytes,Op.bytesLess]
 | a::ax,b::g=>by
  simp only [Lib.compareBytes,Op.bytesLess,eO,er,aT,fD]
  by_cases h:a < b
  ·simp [h]
  ·by_cases d:b < a
   ·have:a≠b:=by rintro rfl; exact h d
    simp [h,d,this]
   ·have:a=b:=by rcases AE a b with c | c | c; exact absurd c h; exact c; exact absurd c d
    subst this
    simp [h,xS ax g]
theorem AR:∀a b:List UInt8,(Lib.compareBytes a b=0↔a=b)
 | [],[]=>by simp [Lib.compareBytes]
 | [],_::_=>by simp [Lib.compareBytes]
 | _::_,[]=>by simp [Lib.compareBytes]
 | a::ax,b::g=>by
  simp only [Lib.compareBytes,cb]
  by_cases h:a < b
  ·simp only [h,bu]
   constructor
   ·intro h; cases h
   ·rintro ⟨rfl,_⟩; exact absurd h (by simp)
  ·by_cases d:b < a
   ·simp only [h,d,bu,aQ]
    constructor
    ·intro h; cases h
    ·rintro ⟨rfl,_⟩; exact absurd d (by simp)
   ·have:a=b:=by rcases AE a b with c | c | c; exact absurd c h; exact c; exact absurd c d
    subst this
    simp [h,AR ax g]
theorem tH (a b:ByteArray):sU a b=Op.bytesLess a.data.toList b.data.toList:=by unfold sU; rw [dW,dW]
theorem rl {a b:ByteArray} (h:a.data.toList=b.data.toList):a=b:=eE (Array.toList_inj.1 h)
theorem uE (a:ByteArray):sU a a=false:=by rw [tH,yI]
theorem yV {a b c:ByteArray} (h1:sU a b=true) (d:sU b c=true):sU a c=true:=by rw [tH] at *; exact Ap _ _ _ h1 d
theorem yS (a b:ByteArray):sU a b=true∨a=b∨sU b a=true:=by
 rw [tH,tH]
 rcases AH a.data.toList b.data.toList with h | h | h
 ·exact .inl h
 ·exact .inr (.inl (rl h))
 ·exact .inr (.inr h)
def ux (b:UInt8):Bool:=decide (97≤b.toNat)&&decide (b.toNat≤122)
def tM (b:UInt8):Bool:=ux b||(decide (48≤b.toNat)&&decide (b.toNat≤57))||decide (b.toNat=45)
def jh (s:ByteArray):Bool:=decide (1≤s.size)&&decide (s.size≤16)&&(match s.data.toList with | []=>false | b::_=>ux b)&&s.data.toList.all tM
theorem iZ {s:ByteArray} (h:jh s=true):1≤s.size∧s.size≤16:=by
 simp only [jh,aT,er] at h
 exact h.1.1
theorem CT:∀n:Nat,n < 256→decide (ni (⟨#[97,98,99,100,101,102,103,104,105,106,107,108,109,110,111,112,113,114,115,116,117,118,119,120,121,122]⟩:ByteArray) (n:Int)≥0)=ux (UInt8.ofNat n):=by decide +kernel
theorem FG:∀n:Nat,n < 256→decide (ni (⟨#[97,98,99,100,101,102,103,104,105,106,107,108,109,110,111,112,113,114,115,116,117,118,119,120,121,122,48,49,50,51,52,53,54,55,56,57,45]⟩:ByteArray) (n:Int) < 0)=!tM (UInt8.ofNat n):=by decide +kernel
theorem iY (s:ByteArray):s.size=s.data.toList.length:=by rw [bP]; rfl
theorem wx {s:ByteArray} (h:s.size≤16):tS s=some (iA s):=by
 unfold tS; rw [aJ (by unfold maxLen; omega)]
theorem AO:∀l:List UInt8,nA (l.map λb=>(b.toNat:Int))=some (l.all tM)
 | []=>rfl
 | b::l=>by
  rw [aY,nA]
  simp only [ji,iS,ay]
  have a:=FG b.toNat (UInt8.toNat_lt b)
  rw [a]
  simp only [UInt8.ofNat_toNat,List.all_cons]
  cases tM b with
  | true=>simp [AO l]
  | false=>simp
theorem zd {s:ByteArray} {b:UInt8} {l:List UInt8} (h:s.data.toList=b::l):pu s 0=some b:=by
 unfold pu
 rw [aJ (Int.le_refl 0)]
 have a:s.data[0]? =some b:=by rw [←ez,h]; rfl
 show s[0]? =some b
 rw [←a]
 rfl
theorem ng (s:ByteArray):kl s=some (jh s):=by
 unfold kl
 simp only [IY,ay,Ix]
 by_cases h1:1≤s.size
 ·by_cases a:s.size≤16
  ·rw [aJ (by simp; omega)]
   obtain ⟨b,l,c⟩:∃b l,s.data.toList=b::l:=by
    cases h:s.data.toList with
    | nil=>rw [iY,h] at h1; simp at h1
    | cons b l=>exact ⟨b,l,rfl⟩
   rw [zd c]
   simp only [ay,ji,iS]
   rw [CT b.toNat (UInt8.toNat_lt b)]
   simp only [UInt8.ofNat_toNat,jh,h1,a,c,ee,Bool.true_and]
   cases ux b with
   | false=>simp
   | true=>
    simp only [bu,ta,wx a,ay,iA]
    rw [AO,c]
    simp
  ·rw [aK (by simp; omega)]
   simp [jh,a]
 ·rw [aK (by simp; omega)]
  simp [jh,h1]
theorem sH (a:ByteArray):gS a a=true:=kd.2 rfl
def gE (r:fQ):Bool:=jh r.fX&&jh r.Word
theorem nf (r:fQ):jB r=some (gE r):=by
 unfold jB gE
 simp only [ng,ay]
 cases jh r.fX <;> simp
def wj (a b:fQ):Bool:=sU a.fX b.fX||(gS a.fX b.fX&&sU a.Word b.Word)
theorem rX {a b:fQ}:wj a b=true↔sU a.fX b.fX=true∨(a.fX=b.fX∧sU a.Word b.Word=true):=by
 simp [wj,kd]
theorem Iq (P:fQ→Prop):CL (λa b=>wj a b=true) P:=by
 refine ⟨λx _ h=>?_,λx y z _ _ _ h1 c=>?_,λx y _ _=>?_⟩
 ·rw [rX] at h
  simp [uE] at h
 ·rw [rX] at *
  rcases h1 with h1 | ⟨g,h1⟩
  ·rcases c with c | ⟨d,c⟩
   ·exact .inl (yV h1 c)
   ·exact .inl (by rw [←d]; exact h1)
  ·rcases c with c | ⟨d,c⟩
   ·exact .inl (by rw [g]; exact c)
   ·exact .inr ⟨g.trans d,yV h1 c⟩
 ·simp only [rX]
  rcases yS x.fX y.fX with h | h | h
  ·exact .inl (.inl h)
  ·rcases yS x.Word y.Word with c | c | c
   ·exact .inl (.inr ⟨h,c⟩)
   ·refine .inr (.inl ?_)
    cases x; cases y; simp at h c; simp [h,c]
   ·exact .inr (.inr (.inr ⟨h.symm,c⟩))
  ·exact .inr (.inr (.inl h))
theorem rL (a b:fQ):∃c,lj a b=some c∧(c < 0↔wj a b=true):=by
 unfold lj
 simp only [nv,kx,ay,sf,oJ]
 have h1:∀a b:ByteArray,(nc a b < 0↔sU a b=true):=λa b=>by rw [tH]; exact xS _ _
 have g:∀a b:ByteArray,(nc a b=0↔a=b):=λa b=>by
  unfold nc; rw [AR]; exact ⟨rl,λh=>by rw [h]⟩
 by_cases e:nc a.fX b.fX=0
 ·rw [aK (by simp [e])]
  have e':=(g _ _).1 e
  by_cases d:nc a.Word b.Word=0
  ·rw [aK (by simp [d])]
   refine ⟨0,rfl,?_⟩
   rw [rX,e',(g _ _).1 d]
   simp [uE]
  ·rw [aJ (by simp [d])]
   refine ⟨_,rfl,?_⟩
   rw [rX,e',h1]
   simp [uE]
 ·rw [aJ (by simp [e])]
  refine ⟨_,rfl,?_⟩
  rw [rX,h1]
  have:a.fX≠b.fX:=λh=>e ((g _ _).2 h)
  simp [this]
def zR:fQ:=⟨zS,zS⟩
theorem oS (a:fQ):gW a a=true:=lC.2 rfl
def jg (c:fP):Bool:=gE c.Head&&(
 if c.Kind==1 then jh c.ir&&gW zR c.B&&gW zR c.C&&gS zS c.gT
 else if c.Kind==2 then gE c.B&&gS zS c.ir&&gW zR c.C&&gS zS c.gT
 else if c.Kind==3 then gE c.B&&gS c.B.fX c.Head.fX&&jh c.gT&&gS zS c.ir&&gW zR c.C
 else if c.Kind==4 then gE c.B&&gE c.C&&wj c.B c.C&&gS zS c.ir&&gS zS c.gT
 else false)
theorem na (c:fP):jC c=some (jg c):=by
 unfold jC jg
 simp only [nf,ng,ay]
 obtain ⟨k,hk,a⟩:=rL c.B c.C
 rw [hk]
 have d:decide (k < 0)=wj c.B c.C:=by rw [Bool.eq_iff_iff,←a]; simp
 simp only [ay,d]
 by_cases h1:c.Kind=1
 ·cases gE c.Head <;> cases jh c.ir <;> simp [h1,lQ,oS,sH,zR,fg]
 ·by_cases g:c.Kind=2
  ·cases gE c.Head <;> cases gE c.B <;> simp [g,lQ,oS,sH,zR,fg]
  ·by_cases h:c.Kind=3
   ·cases gE c.Head <;> cases gE c.B <;> cases gS c.B.fX c.Head.fX <;> cases jh c.gT <;> simp [h,lQ,oS,sH,zR,fg]
   ·by_cases i:c.Kind=4
    ·cases gE c.Head <;> cases gE c.B <;> cases gE c.C <;> cases wj c.B c.C <;> simp [i,lQ,oS,sH,zR,fg]
    ·simp [h1,g,h,i]
theorem qa {α:Type} {b:Nat} {l m:List α} (h:(l.length+m.length)*b≤140737488355328) (a:l.length+m.length≤9223372036854775807):ja b l m=some (l++m):=by
 unfold ja; rw [aJ ⟨h,by unfold maxLen; omega⟩]
theorem pr {l m:List Int} (h:l.length+m.length≤1000000):ja 1 l m=some (l++m):=qa (by omega) (by omega)
def oG (s:ByteArray):List Int:=(s.size:Int)::iA s
def jf (r:fQ):List Int:=oG r.fX++oG r.Word
def rV (c:fP):List Int:=if c.Kind=1 then oG c.ir else if c.Kind=2 then jf c.B else if c.Kind=3 then jf c.B++oG c.gT else jf c.B++jf c.C
def nh (c:fP):List Int:=c.Kind::(jf c.Head++rV c)
theorem kN (s:ByteArray):(oG s).length=s.size+1:=by simp [oG,iG]
theorem jm {r:fQ} (h:gE r=true):(jf r).length≤34:=by
 simp only [gE,aT] at h
 have h1:=iZ h.1
 have a:=iZ h.2
 simp [jf,kN]; omega
theorem kC {l:List Int} {n:Int} (a:0≤n) (h1:n < 128) (c:l.length≤100000):gI l n=some (true,l++[n]):=by
 have hw:IntKind.u8.wrap n=n:=by
  obtain ⟨k,rfl⟩:∃k:Nat,n=k:=⟨n.toNat,by omega⟩
  have:∀k:Nat,k < 128→IntKind.u8.wrap (k:Int)=(k:Int):=by decide +kernel
  exact this k (by omega)
 unfold gI
 rw [aK (by simp; omega),An,iO,aK (by simp; omega),hw,pr (by simp; omega)]
 rfl
theorem tT {l:List Int} {s:ByteArray} (h:jh s=true) (a:l.length≤10000):lE l s=some (true,l++oG s):=by
 have h1:=iZ h
 unfold lE
 simp only [ng,ay,h,bu,wx h1.2]
 unfold jk
 rw [aK (by rw [iG]; simp; omega)]
 rw [iG,kC (by omega) (by omega) (by omega)]
 simp only [ay]
 rw [pr (by simp [iG]; omega)]
 simp [oG]
theorem AP {l:List Int} {r:fQ} (h:gE r=true) (c:l.length≤9000):jN l r=some (true,l++jf r):=by
 have a:=h
 simp only [gE,aT] at h
 have h1:=iZ h.1
 unfold jN
 simp only [nf,ay,a,bu]
 rw [tT h.1 (by omega)]
 simp only [ay,bu]
 rw [tT h.2 (by simp [kN]; omega)]
 simp [jf]
theorem tI {l:List Int} {r:fQ} (h:gE r=true) (a:l.length≤1000):jN l r=some (true,l++jf r):=AP h (by omega)
theorem nm {c:fP} (h:jg c=true):gE c.Head=true:=by
 simp only [jg,aT] at h; exact h.1
theorem kK {c:fP} (h:jg c=true) :
  (c.Kind=1∧jh c.ir=true∧c.B=zR∧c.C=zR∧c.gT=zS)∨
  (c.Kind=2∧gE c.B=true∧c.ir=zS∧c.C=zR∧c.gT=zS)∨
  (c.Kind=3∧gE c.B=true∧jh c.gT=true∧c.B.fX=c.Head.fX∧c.ir=zS∧c.C=zR)∨
  (c.Kind=4∧gE c.B=true∧gE c.C=true∧wj c.B c.C=true∧c.ir=zS∧c.gT=zS):=by
 simp only [jg,aT] at h
 obtain ⟨_,h⟩:=h
 split at h
 ·rename_i h1
  simp only [aT,lC,kd] at h
  exact .inl ⟨by simpa using h1,h.1.1.1,h.1.1.2.symm,h.1.2.symm,h.2.symm⟩
 ·split at h
  ·rename_i h1
   simp only [aT,lC,kd] at h
   exact .inr (.inl ⟨by simpa using h1,h.1.1.1,h.1.1.2.symm,h.1.2.symm,h.2.symm⟩)
  ·split at h
   ·rename_i h1
    simp only [aT,lC,kd] at h
    exact .inr (.inr (.inl ⟨by simpa using h1,h.1.1.1.1,h.1.1.2,h.1.1.1.2,h.1.2.symm,h.2.symm⟩))
   ·split at h
    ·rename_i h1
     simp only [aT,lC,kd] at h
     exact .inr (.inr (.inr ⟨by simpa using h1,h.1.1.1.1,h.1.1.1.2,h.1.1.2,h.1.2.symm,h.2.symm⟩))
    ·cases h
theorem qx (c:fP):mE c=some (if jg c then nh c else []):=by
 unfold mE
 rw [na]
 simp only [ay]
 cases h:jg c with
 | false=>simp
 | true=>
  have i:=nm h
  have j:=jm i
  simp only [bi,aB,aQ,bu]
  have hk:0≤c.Kind∧c.Kind < 128:=by rcases kK h with h | h | h | h <;> omega
  rw [kC hk.1 hk.2 (by simp)]
  simp only [ay]
  rw [tI i (by simp)]
  simp only [ay,jv,jF]
  rcases kK h with ⟨k,h1,_⟩ | ⟨k,h1,_⟩ | ⟨k,h1,a,_⟩ | ⟨k,h1,a,_⟩
  ·have d:=iZ h1
   simp only [k,bp,bu,tT h1 (show (([]++[(1:Int)])++jf c.Head).length≤10000 by simp; omega),ay]
   rw [pr (by simp [kN]; omega)]
   simp [nh,rV,k]
  ·have d:=jm h1
   simp only [k,show ((2:Int)==1)=false from rfl,aB,bp,bu,aQ,tI h1 (show (([]++[(2:Int)])++jf c.Head).length≤1000 by simp; omega),ay]
   rw [pr (by simp; omega)]
   simp [nh,rV,k]
  ·have d:=jm h1
   have g:=iZ a
   simp only [k,show ((3:Int)==1)=false from rfl,show ((3:Int)==2)=false from rfl,aB,bp,bu,aQ,tI h1 (show (([]++[(3:Int)])++jf c.Head).length≤1000 by simp; omega),ay]
   rw [tT a (by simp; omega)]
   simp only [ay]
   rw [pr (by simp [kN]; omega)]
   simp [nh,rV,k]
  ·have d:=jm h1
   have g:=jm a
   simp only [k,show ((4:Int)==1)=false from rfl,show ((4:Int)==2)=false from rfl,show ((4:Int)==3)=false from rfl,aB,bp,bu,aQ,tI h1 (show (([]++[(4:Int)])++jf c.Head).length≤1000 by simp; omega),ay]
   rw [tI a (by simp; omega)]
   simp only [ay]
   rw [pr (by simp; omega)]
   simp [nh,rV,k]
def mW (l:List Int):ByteArray:=⟨(pB l).toArray⟩
theorem qQ (l:List Int):(mW l).data.toList=pB l:=rfl
theorem xC:∀(l:List Int) (r:ByteArray),(l.foldl (λr n=>r.push (UInt8.ofNat n.toNat)) r).data.toList=r.data.toList++pB l
 | [],r=>by simp [pB]
 | x::l,r=>by
  rw [dZ,xC l]
  show ((r.data.push _).toList)++_=_
  simp [pB]
theorem BZ (l:List Int):nR l=mW l:=rl (by unfold nR; rw [xC]; rfl)
theorem uR (l:List Int):(mW l).size=l.length:=by rw [iY,qQ]; simp [pB]
theorem DB (a b:List Int):pB (a++b)=pB a++pB b:=by simp [pB]
theorem Ds (s:ByteArray):mW (iA s)=s:=rl (by rw [qQ]; simp [pB,iA,Function.comp_def])
def HA (c:fP):List UInt8:=pB (if jg c then nh c else [])
def Jq (a b:fP):Bool:=Op.bytesLess (HA a) (HA b)
theorem we (a b:fP):∃c,my a b=some c∧(c < 0↔Jq a b=true):=by
 unfold my
 rw [qx,qx]
 exact ⟨_,rfl,xS _ _⟩
theorem pE {s:ByteArray} (h:jh s=true):∀x∈oG s,0≤x∧x < 256:=by
 have h1:=iZ h
 intro x a
 rcases aS.1 a with rfl | a
 ·omega
 ·simp only [iA,bt] at a
  obtain ⟨b,_,rfl⟩:=a
  have:=UInt8.toNat_lt b
  omega
theorem oz {r:fQ} (h:gE r=true):∀x∈jf r,0≤x∧x < 256:=by
 simp only [gE,aT] at h
 intro x a
 rcases aU.1 a with a | a
 ·exact pE h.1 x a
 ·exact pE h.2 x a
theorem Be {c:fP} (h:jg c=true):∀x∈nh c,0≤x∧x < 256:=by
 intro x a
 rcases aS.1 a with rfl | a
 ·rcases kK h with h | h | h | h <;> omega
 ·rcases aU.1 a with a | a
  ·exact oz (nm h) x a
  ·unfold rV at a
   rcases kK h with ⟨k,h1,_⟩ | ⟨k,h1,_⟩ | ⟨k,h1,d,_⟩ | ⟨k,h1,d,_⟩
   ·rw [aJ k] at a; exact pE h1 x a
   ·rw [aK (by omega),aJ k] at a; exact oz h1 x a
   ·rw [aK (by omega),aK (by omega),aJ k] at a
    rcases aU.1 a with a | a
    ·exact oz h1 x a
    ·exact pE d x a
   ·rw [aK (by omega),aK (by omega),aK (by omega)] at a
    rcases aU.1 a with a | a
    ·exact oz h1 x a
    ·exact oz d x a
section
variable {c:Formula→Formula→Int} {G:Formula→Prop} {f:Formula×Formula→Option Int}
abbrev Ja (c:Formula→Formula→Int) (x y:Formula):Bool:=decide (c x y < 0)
end
section
variable {c:Formula→Formula→Int} {G:Formula→Prop} {f:Formula×Formula→Option Int}
abbrev Ask (a0:List Formula) (f:Formula×Formula→Option Int) (p q:Int) (b:Bool):Prop:=∃x y r,im a0 p=some x∧im a0 q=some y∧f (x,y)=some r∧decide (r < 0)=b
end
theorem G6 {P:Formula→Prop} (h:∀f,(∀k∈f.Kids,P k)→P f):∀f,P f:=by
 intro f
 refine Formula.rec (motive_1:=P) (motive_2:=λc=>∀k∈c,P k) ?_ ?_ ?_ f
 ·intro o k r c ih; exact h _ ih
 ·intro k hk; cases hk
 ·intro k c h1 d x a
  rcases aS.1 a with rfl | a
  ·exact h1
  ·exact d x a
mutual
def rr:Formula→Nat
 | ⟨_,_,_,ks⟩=>1+nodesL ks
def nodesL:List Formula→Nat
 | []=>0
 | k::ks=>rr k+nodesL ks
end
mutual
def vZ:Formula→Nat
 | ⟨_,_,_,ks⟩=>deepL ks+1
def deepL:List Formula→Nat
 | []=>0
 | k::ks=>max (vZ k) (deepL ks)
end
theorem zh (f:Formula):rr f=1+nodesL f.Kids:=by cases f; rw [rr]
theorem AZ (f:Formula):vZ f=deepL f.Kids+1:=by cases f; rw [vZ]
theorem GG:∀f:Formula,vZ f≤rr f:=by
 refine G6 λf ih=>?_
 rw [AZ,zh]
 have:∀a:List Formula,(∀k∈a,vZ k≤rr k)→deepL a≤nodesL a:=by
  intro a
  induction a with
  | nil=>intro _; rw [deepL]; omega
  | cons k a c=>
   intro h
   have:=c (λx d=>h x (by simp [d]))
   have:=h k (by simp)
   rw [deepL,nodesL]; omega
 have:=this f.Kids ih
 omega
def Au:fQ:=⟨zS,zS⟩
def Ig (f:Formula):Bool:=if f.Op=1 then gE f.fQ&&decide (f.Kids.length=0)&&decide (f.K=0) else if f.Op=2∨f.Op=3 then gW f.fQ Au&&decide (f.K=0) else decide (f.Op=4)&&gW f.fQ Au&&decide (0≤f.K)&&decide (f.K≤(f.Kids.length:Int))&&decide (1≤f.Kids.length)
mutual
def FW:Formula→Bool
 | ⟨o,n,r,ks⟩=>Ig ⟨o,n,r,ks⟩&&decide (ks.length≤8)&&wellL ks
def wellL:List Formula→Bool
 | []=>true
 | k::ks=>FW k&&wellL ks
end
def Hz (f:Formula):Bool:=decide (rr f≤64)&&decide (vZ f≤6)&&FW f
theorem Formula.ext' {a b:Formula} (h1:a.Op=b.Op) (c:a.K=b.K) (d:a.fQ=b.fQ) (g:a.Kids=b.Kids):a=b:=by
 cases a; cases b; simp only at h1 c d g; subst h1 c d g; rfl
abbrev G8 (l s:List fQ):=xF (λa b=>wj a b=true) (λx=>gE x=true) l s
theorem B1 (f:fQ→Option Bool):∀(n:Nat) (l:List fQ) (i j:Int),iW f n l i j=wP f zR n l i j
 | 0,_,_,_=>rfl
 | n+1,l,i,j=>by
  rw [iW,wP]
  simp only [B1 f n]
  rfl
theorem BJ (f:fQ→Option Bool):∀(l:List fQ) (i:Nat),jz f l i=wW f l i
 | [],_=>rfl
 | x::l,i=>by rw [jz,wW]; simp only [BJ f l]
theorem Fw (f:fQ→Option Bool) (l:List fQ):kJ l f=Dv f zR l:=by
 unfold kJ Dv mQ
 simp only [BJ,B1]
theorem AF (i:Int):∀(n:Nat) (l:List fQ) (k j:Int),jo i n l k j=vQ gW i n l k j
 | 0,_,_,_=>rfl
 | n+1,l,k,j=>by
  rw [jo,vQ]
  simp only [AF i n]
theorem Ak (l:List fQ):∀(n:Nat) (i:Int),jq l n i=wQ gW zR l n i
 | 0,_=>rfl
 | n+1,i=>by
  rw [jq,wQ]
  simp only [Ak l n,AF]
  rfl
theorem EX (l:List fQ):lP l=Du gW zR l:=by
 unfold lP Du
 simp only [Ak]
theorem HV {l:List fQ} (a:l.length≤1000000000):kZ l=some l:=by
 unfold kZ
 rw [qa (by simp; omega) (by simp; omega)]
 simp
theorem IK (l:List fQ) (d:l.length≤1000000000):∃s,rU l=some s∧G8 l s:=by
 unfold rU
 rw [HV d]
 simp only [ay]
 rw [Fw,Fx _ (λx=>!gE x) zR l (by omega) (λx _=>by simp [pK,nf])]
 simp only [ay,Bool.not_not]
 have i:(l.filter λx=>gE x).length≤l.length:=List.length_filter_le _ _
 obtain ⟨s,h1,h,c⟩:=Bx (eq:=gW) (lt:=λa b=>wj a b=true) (P:=λx=>gE x=true) (cf:=λx=>lj x.1 x.2) (l:=l.filter λx=>gE x) (λx y=>lC) (Iq _) (λx g=>(List.mem_filter.1 g).2) (by omega) (λx y _ _=>rL x y)
 rw [h1]
 simp only [ay]
 rw [EX,FE _ _ _ (by omega)]
 refine ⟨_,rfl,c.1,λx=>?_⟩
 rw [c.2]
 simp
def G7 {κ:Type} (beq:κ→κ→Bool) (a:List κ) (k:κ):Bool:=a.any λx=>beq k x
def ins {κ:Type} (beq:κ→κ→Bool) (a:List κ) (k:κ):List κ:=if G7 beq a k then a else a++[k]
theorem xF.congr {α:Type} {lt:α→α→Prop} {P:α→Prop} {l m s:List α} (h:xF lt P l s) (hm:∀x,x∈l↔x∈m):xF lt P m s:=⟨h.1,λx=>by rw [h.2,hm]⟩
def sJ (c:fP):Nat:=c.Head.fX.size+c.Head.Word.size+c.ir.size+c.B.fX.size+c.B.Word.size+c.C.fX.size+c.C.Word.size+c.gT.size
section
variable {κ γ:Type} {beq:κ→κ→Bool}
theorem D5 (p:κ×γ) (l:List (κ×γ)) (k:κ):nQ beq (p::l) k=if beq k p.1=true then some p.2 else nQ beq l k:=by
 unfold nQ
 rw [List.find?_cons]
 cases beq k p.1 <;> simp
end
def qA:fQ:=⟨⟨#[97]⟩,⟨#[114]⟩⟩
def qB:fQ:=⟨⟨#[98]⟩,⟨#[115]⟩⟩
def qd:ByteArray:=⟨#[100]⟩
def j1:fP:=⟨2,qA,zS,qB,⟨zS,zS⟩,zS⟩
def j2:fP:=⟨1,qB,qd,⟨zS,zS⟩,⟨zS,zS⟩,zS⟩
theorem Dl {a b:fQ} (h:a≠b):gW a b=false:=by
 cases c:gW a b with
 | false=>rfl
 | true=>exact absurd (lC.1 c) h
def up (w:ByteArray) (g:ByteArray→Nat):ByteArray→Nat:=λx=>if gS w x=true then g x+1 else g x
instance I3:DecidableEq fQ:=λa b=>decidable_of_iff (gW a b=true) lC
theorem zg (b:List fQ):∀(l m A:List fQ),A++m=b→l.length=m.length→oE b l A.length=some (decide (l=m))∧jH b l A.length=some (decide (l=m))
 | [],[],A,_,_=>⟨by rw [oE]; rfl,by rw [jH]; rfl⟩
 | x::l,y::m,A,h,d=>by
  have e:im b (A.length:Int)=some y:=by rw [←h]; exact mS A y m _ rfl
  obtain ⟨c,a2⟩:=zg b l m (A++[y]) (by simpa using h) (by simpa using d)
  rw [az] at c a2
  rw [oE,jH,e]
  simp only [ay]
  by_cases a:x=y
  ·subst a
   rw [oS]
   simp only [bi,aB,aQ]
   exact ⟨by rw [show A.length+1=A.length+[x].length from rfl,c]; simp,by rw [show A.length+1=A.length+[x].length from rfl,a2]; simp⟩
  ·rw [Dl a]
   simp [a]
theorem uQ (a b:List fQ):kY a b=some (decide (a=b)):=by
 unfold kY
 by_cases h:a.length=b.length
 ·rw [aK (by simp [h])]
  exact (zg b a b [] rfl h).2
 ·rw [aJ (by simp; omega)]
  simp; intro e; exact h (by rw [e])
def B8 (l:List Int):Prop:=∀x∈l,0≤x∧x < 256
theorem B8.FV {a b:List Int} (ha:B8 a) (c:B8 b):B8 (a++b):=λx d=>(aU.1 d).elim (ha x) (c x)
def DY (h x:Int):Int:=IntKind.u64.wrap ((IntKind.u64.wrap (BitVec.ofInt (IntKind.bits .u64) h ^^^ BitVec.ofInt (IntKind.bits .u64) (IntKind.u64.wrap x)).toNat)*1099511628211)
def xT (l:List Int):Int:=l.foldl DY 14695981039346656037
theorem GA (n:Int):0≤IntKind.u64.wrap n∧IntKind.u64.wrap n < 18446744073709551616:=by
 simp only [IntKind.wrap,IntKind.bits,IntKind.signed]; constructor
 ·simp; omega
 ·simp; omega
theorem Fq (l:List Int):0≤xT l∧xT l < 18446744073709551616:=by
 have:∀(l:List Int) (h:Int),(0≤h∧h < 18446744073709551616)→0≤l.foldl DY h∧l.foldl DY h < 18446744073709551616:=by
  intro l
  induction l with
  | nil=>intro h a; exact a
  | cons x l ih=>intro h a; exact ih _ (GA _)
 exact this l _ (by omega)
theorem DO:∀(l:List Int) (h:Int),oR l h=some (l.foldl DY h)
 | [],h=>rfl
 | x::l,h=>by rw [oR,DO l]; rfl
theorem Eo:∀(a:List (List Int)) (h:Int),oV a h=some (a.flatten.foldl DY h)
 | [],h=>rfl
 | l::a,h=>by rw [oV,DO,ay,Eo a,bU,List.foldl_append]
theorem HD (a:List (List Int)):vD a=some (xT a.flatten):=Eo a _
def BY (H:Int):List Int:=[H / 72057594037927936 % 256,H / 281474976710656 % 256,H / 1099511627776 % 256,H / 4294967296 % 256,H / 16777216 % 256,H / 65536 % 256,H / 256 % 256,H % 256]
theorem IN (H:Int):B8 (BY H):=by
 intro x a
 simp only [BY,aS,dh,fA] at a
 rcases a with rfl | rfl | rfl | rfl | rfl | rfl | rfl | rfl <;> omega
theorem GF (H:Int) (hH:0≤H∧H < 18446744073709551616):((tO 1 (0:Int) 8).bind λl=>lU H l 0 l)=some (BY H):=by
 have c:tO 1 (0:Int) 8=some [0,0,0,0,0,0,0,0]:=by unfold tO; rw [aJ (by simp [maxLen])]; rfl
 rw [c,ay]
 have h:∀n:Nat,n≤7→IntKind.i64.wrap (8*IntKind.i64.wrap (7-(n:Int)))=8*(7-(n:Int)):=λn k=>by
  rw [gH (x:=7-(n:Int)) (by omega) (by omega),gH (by omega) (by omega)]
 have step:∀(x:Int) (xs l:List Int) (i:Nat) (d:Int),i≤7→l.length=8→IntKind.u8.wrap (Int.fdiv H (2 ^ min (Int.toNat (8*(7-(i:Int)))) (IntKind.bits .u64)))=d→lU H (x::xs) i l=lU H xs (i+1) (l.set i d):=by
  intro x xs l i d hi j g
  rw [lU,h i hi,g]
  have:kh (decide (0≤8*(7-(i:Int))))=some ():=by simp [kh]; omega
  rw [this,ay]
  have:im l (i:Int)=some l[i]:=by unfold im; rw [aJ (by omega)]; simp
  rw [this,ay]
  rfl
 have a:∀n:Int,IntKind.u8.wrap n=n % 256:=λn=>by rw [IntKind.wrap_u8]
 have fd:∀m:Int,0 < m→Int.fdiv H m=H / m:=λm hm=>Int.fdiv_eq_ediv_of_nonneg _ (by omega)
 rw [step _ _ _ 0 (H / 72057594037927936 % 256) (by omega) rfl (by rw [a,fd _ (by decide)]; rfl)]
 rw [step _ _ _ 1 (H / 281474976710656 % 256) (by omega) rfl (by rw [a,fd _ (by decide)]; rfl)]
 rw [step _ _ _ 2 (H / 1099511627776 % 256) (by omega) rfl (by rw [a,fd _ (by decide)]; rfl)]
 rw [step _ _ _ 3 (H / 4294967296 % 256) (by omega) rfl (by rw [a,fd _ (by decide)]; rfl)]
 rw [step _ _ _ 4 (H / 16777216 % 256) (by omega) rfl (by rw [a,fd _ (by decide)]; rfl)]
 rw [step _ _ _ 5 (H / 65536 % 256) (by omega) rfl (by rw [a,fd _ (by decide)]; rfl)]
 rw [step _ _ _ 6 (H / 256 % 256) (by omega) rfl (by rw [a,fd _ (by decide)]; rfl)]
 rw [step _ _ _ 7 (H % 256) (by omega) rfl (by rw [a,fd _ (by decide)]; simp)]
 rfl
def CX:List ByteArray→List Key→Int
 | _,[]=>0
 | seen,k::l=>if jh k.ir=false then 30 else if k.Key.length < 1∨32 < k.Key.length then 21 else if G7 gS seen k.ir=true then 41 else CX (seen++[k.ir]) l
def EW (l:List Key):List (ByteArray×List Int):=l.map λk=>(k.ir,k.Key)
def EQ (l:List Key) (o:ByteArray):Option (List Int):=nQ gS (EW l) o
theorem xq {l:List Int} (h:l.length≤1000000):jF l=some l:=by
 unfold jF
 rw [pr (by simpa using h)]; rfl
theorem Ca:∀(l:List Key) (seen:List ByteArray),CX seen l=0→∀k∈l,1≤k.Key.length∧k.Key.length≤32
 | [],_,_,_,hk=>by cases hk
 | x::l,seen,h,k,hk=>by
  unfold CX at h
  split at h
  ·cases h
  split at h
  ·cases h
  split at h
  ·cases h
  rcases aS.1 hk with rfl | hk
  ·omega
  ·exact Ca l _ h k hk
theorem wN:∀(l:List Key) (o:ByteArray) (b:List Int),EQ l o=some b→∃k∈l,k.Key=b
 | [],o,b,h=>by cases h
 | x::l,o,b,h=>by
  unfold EQ at h
  rw [show EW (x::l)=(x.ir,x.Key)::EW l from rfl,D5] at h
  split at h
  ·cases h; exact ⟨x,by simp,rfl⟩
  ·obtain ⟨k,hk,e⟩:=wN l o b h
   exact ⟨k,by simp [hk],e⟩
def K8 (l:List Key):Prop:=∀k∈l,B8 k.Key
theorem Jf (c:fP) (h:jg c=true):mE c=some (nh c):=by rw [qx,aJ h]
structure Mk (ks:List Key) (c:fP) (k:List Int):Prop where
 ok:CX [] ks=0
 rt:jg c=true
 lk:EQ ks c.Head.fX=some k
theorem Mk.len {a:List Key} {c:fP} {k:List Int} (h:Mk a c k):1≤k.length∧k.length≤32:=by
 obtain ⟨q,d,rfl⟩:=wN _ _ _ h.lk
 exact Ca a [] h.ok q d
theorem Mk.b8 {a:List Key} {c:fP} {k:List Int} (h:Mk a c k) (hk:K8 a):B8 k:=by
 obtain ⟨q,d,rfl⟩:=wN _ _ _ h.lk
 exact hk q d
def Iz (c:fP):List Int:=255::nh c
theorem Hc {c:fP} (h:jg c=true):B8 (Iz c):=λx a=>by
 rcases aS.1 a with rfl | a
 ·omega
 ·exact Be h x a
mutual
def EO:Formula→List Int
 | ⟨o,k,r,ks⟩=>o::(if o=1 then jf r else (if o=4 then [k] else [])++((ks.length:Int)::bytesFL ks))
def bytesFL:List Formula→List Int
 | []=>[]
 | k::ks=>EO k++bytesFL ks
end
def IC (f:Formula):List Int:=if Hz f then EO f else []
def Jj (f g:Formula):Int:=pW (IC f) (IC g)
def HG (l:List Formula):List Formula:=IR (Ja Jj) l
noncomputable def Jn (a b:Formula):Bool:=@decide (a=b) (Classical.propDecidable _)
def xO (op:Int) (f:Formula):Bool:=decide (f.Op=op)&&f.Kids.isEmpty
def CF (op:Int):List Formula→List Formula
 | []=>[]
 | k::a=>(if k.Op=op then k.Kids else [k])++CF op a
noncomputable def yy (op:Int) (a:List Formula):Formula :=
 if (CF op a).any (xO (5-op)) then ⟨5-op,0,Au,[]⟩ else
  match dd Jn (HG (CF op a)) with
  | [x]=>x
  | r=>⟨op,0,Au,r⟩
noncomputable def FA (k:Int) (a:List Formula):Formula :=
 let n:=k-((a.filter (xO 2)).length:Int)
 let l:=a.filter λx=>!xO 2 x&&!xO 3 x
 if n≤0 then ⟨2,0,Au,[]⟩ else if n > (l.length:Int) then ⟨3,0,Au,[]⟩ else if n=(l.length:Int) then yy 2 l else if n=1 then yy 3 l else ⟨4,n,Au,HG l⟩
mutual
noncomputable def Hy:Formula→Formula
 | ⟨o,k,r,ks⟩=>if o=1 then ⟨o,k,r,ks⟩ else if o=4 then FA k (shapeL ks) else yy o (shapeL ks)
noncomputable def shapeL:List Formula→List Formula
 | []=>[]
 | k::ks=>Hy k::shapeL ks
end
mutual
def Ji (v:fQ→Bool):Formula→Bool
 | ⟨o,k,r,ks⟩=>if o=1 then v r else if o=2 then decide (evN v ks=ks.length) else if o=3 then decide (0 < evN v ks) else decide (k≤(evN v ks:Int))
def evN (v:fQ→Bool):List Formula→Nat
 | []=>0
 | k::ks=>(if Ji v k then 1 else 0)+evN v ks
end
mutual
def xf:Formula→Nat
 | ⟨_,_,r,ks⟩=>1+r.fX.size+r.Word.size+szFL ks
def szFL:List Formula→Nat
 | []=>0
 | k::ks=>xf k+szFL ks
end
theorem D0 (f:Formula):xf f=1+f.fQ.fX.size+f.fQ.Word.size+szFL f.Kids:=by cases f; rw [xf]
theorem DU:∀f:Formula,rr f≤xf f:=by
 refine G6 λf ih=>?_
 have:∀a:List Formula,(∀k∈a,rr k≤xf k)→nodesL a≤szFL a:=by
  intro a
  induction a with
  | nil=>intro _; rw [nodesL]; omega
  | cons k a c=>
   intro h
   have:=c (λx d=>h x (by simp [d]))
   have:=h k (by simp)
   rw [nodesL,szFL]; omega
 have:=this f.Kids ih
 rw [zh,D0]; omega
def qS:List fP→Nat
 | []=>0
 | c::l=>20+sJ c+qS l
theorem g5:∀(l:List fP) (n:Int),0≤n→n+(qS l:Int)≤4000000000000000000→jR l n=some (n+(qS l:Int))
 | [],n,_,_=>by rw [jR,qS]; simp
 | c::l,n,d,a=>by
  have e:sJ c=c.Head.fX.size+c.Head.Word.size+c.ir.size+c.B.fX.size+c.B.Word.size+c.C.fX.size+c.C.Word.size+c.gT.size:=rfl
  rw [qS] at a
  rw [jR]
  rw [gH (x:=20+(c.Head.fX.size:Int)) (by omega) (by omega),gH (x:=20+(c.Head.fX.size:Int)+(c.Head.Word.size:Int)) (by omega) (by omega),gH (x:=20+(c.Head.fX.size:Int)+(c.Head.Word.size:Int)+(c.ir.size:Int)) (by omega) (by omega),gH (x:=20+(c.Head.fX.size:Int)+(c.Head.Word.size:Int)+(c.ir.size:Int)+(c.B.fX.size:Int)) (by omega) (by omega),gH (x:=20+(c.Head.fX.size:Int)+(c.Head.Word.size:Int)+(c.ir.size:Int)+(c.B.fX.size:Int)+(c.B.Word.size:Int)) (by omega) (by omega),gH (x:=20+(c.Head.fX.size:Int)+(c.Head.Word.size:Int)+(c.ir.size:Int)+(c.B.fX.size:Int)+(c.B.Word.size:Int)+(c.C.fX.size:Int)) (by omega) (by omega),gH (x:=20+(c.Head.fX.size:Int)+(c.Head.Word.size:Int)+(c.ir.size:Int)+(c.B.fX.size:Int)+(c.B.Word.size:Int)+(c.C.fX.size:Int)+(c.C.Word.size:Int)) (by omega) (by omega),gH (x:=20+(c.Head.fX.size:Int)+(c.Head.Word.size:Int)+(c.ir.size:Int)+(c.B.fX.size:Int)+(c.B.Word.size:Int)+(c.C.fX.size:Int)+(c.C.Word.size:Int)+(c.gT.size:Int)) (by omega) (by omega),gH (by omega) (by omega)]
  rw [g5 l _ (by omega) (by omega),qS]
  congr 1; omega
theorem Jg:∀(n:Nat) (l:List Formula),deepL l < n→szFL l≤1000000000000→∃r:Int,lY n l=some r∧0≤r∧r≤(szFL l:Int):=by
 intro n
 induction n with
 | zero=>intro l h; omega
 | succ n ih=>
  intro l h g
  rw [lY]
  unfold rp
  have key:∀(l:List Formula) (x:Int),deepL l < n+1→0≤x→x+(szFL l:Int)≤1000000000000→∃r:Int,mK (lY n) l x=some r∧0≤r∧r≤x+(szFL l:Int):=by
   intro l
   induction l with
   | nil=>intro x _ i _; exact ⟨x,by rw [mK],i,by rw [szFL]; simp⟩
   | cons k l c=>
    intro x h i g
    rw [deepL] at h
    rw [szFL] at g
    have hk:=D0 k
    have:=AZ k
    obtain ⟨r,e,h1,j⟩:=ih k.Kids (by omega) (by omega)
    rw [mK,e,ay]
    have q:0≤Int.tdiv ((k.fQ.fX.size:Int)+(k.fQ.Word.size:Int)) 16∧Int.tdiv ((k.fQ.fX.size:Int)+(k.fQ.Word.size:Int)) 16≤(k.fQ.fX.size:Int)+(k.fQ.Word.size:Int):=by
     rw [Int.tdiv_eq_ediv_of_nonneg (by omega)]
     omega
    rw [gH (x:=(k.fQ.fX.size:Int)+(k.fQ.Word.size:Int)) (by omega) (by omega)]
    generalize Int.tdiv ((k.fQ.fX.size:Int)+(k.fQ.Word.size:Int)) 16=d at *
    rw [gH (x:=d) (by omega) (by omega),gH (x:=1+d) (by omega) (by omega),gH (x:=1+d+r) (by omega) (by omega),gH (x:=x+(1+d+r)) (by omega) (by omega)]
    obtain ⟨p,e',a,o⟩:=c (x+(1+d+r)) (by omega) (by omega) (by omega)
    exact ⟨p,e',a,by rw [szFL]; omega⟩
  obtain ⟨r,e,h1,j⟩:=key l 0 h (by omega) (by omega)
  exact ⟨r,e,h1,by omega⟩
theorem B9 (f:Formula) (h:xf f≤50000000):∃r:Int,lY iq [f]=some r∧0≤r∧r≤(xf f:Int):=by
 have h1:=DU f
 have c:=GG f
 obtain ⟨r,e,a,b⟩:=Jg iq [f] (by rw [deepL,deepL,An]; omega) (by rw [szFL,szFL]; omega)
 refine ⟨r,e,a,?_⟩
 rw [szFL,szFL] at b; omega
theorem g6 (s:Signed) (h:sJ s.fP+s.Tag.length≤1000000000):lZ [] [s]=some (20+(sJ s.fP:Int)+(s.Tag.length:Int)):=by
 unfold lZ
 rw [mD,ky]
 have:=g5 [s.fP] 0 (by omega) (by rw [qS,qS]; omega)
 rw [show mU [s.fP]=_ from this,ay,ky,qS,qS]
 rw [gH (x:=0+((20+sJ s.fP+0:Nat):Int)+(s.Tag.length:Int)) (by omega) (by omega),gH (by omega) (by omega)]
 simp only [ay]
 congr 1; omega
def vA:List kk→Nat
 | []=>0
 | x::l=>20+sJ x.Signed.fP+x.Signed.Tag.length+20*xf x.pc+vA l
def uk:List oF→Nat
 | []=>0
 | a::l=>a.fQ.fX.size+a.fQ.Word.size+20*xf a.pc+qS a.qR+uk l
def F2 (p:nX):Nat:=p.Name.size+vA p.qY+uk p.uv
theorem EE:∀(l:List oF) (x:Int),0≤x→x+(uk l:Int)≤1000000000→∃r:Int,mz l x=some r∧x≤r∧r≤x+(uk l:Int)
 | [],x,_,_=>⟨x,by rw [mz],by omega,by rw [uk]; omega⟩
 | a::l,x,i,h=>by
  rw [uk] at h
  obtain ⟨r,e,h1,j⟩:=B9 a.pc (by omega)
  have c:=g5 a.qR 0 (by omega) (by omega)
  rw [mz,e,ay,show mU a.qR=_ from c,ay]
  rw [gH (x:=(a.fQ.fX.size:Int)+(a.fQ.Word.size:Int)) (by omega) (by omega),gH (x:=20*r) (by omega) (by omega),gH (x:=(a.fQ.fX.size:Int)+(a.fQ.Word.size:Int)+20*r) (by omega) (by omega),gH (x:=(a.fQ.fX.size:Int)+(a.fQ.Word.size:Int)+20*r+(0+(qS a.qR:Int))) (by omega) (by omega),gH (by omega) (by omega)]
  obtain ⟨d,e',g,a2⟩:=EE l (x+((a.fQ.fX.size:Int)+(a.fQ.Word.size:Int)+20*r+(0+(qS a.qR:Int)))) (by omega) (by omega)
  exact ⟨d,e',by omega,by rw [uk]; omega⟩
theorem g15 (p:nX) (d:F2 p≤1000000000):∃r:Int,vg p=some r∧20*(p.qY.length:Int)≤r∧r≤(F2 p:Int):=by
 unfold F2 at d
 have key:∀(l:List kk) (x:Int),0≤x→x+(vA l:Int)+(uk p.uv:Int)≤1000000000→∃r:Int,mI p l x=some r∧x+20*(l.length:Int)≤r∧r≤x+(vA l:Int)+(uk p.uv:Int):=by
  intro l
  induction l with
  | nil=>
   intro x c h
   rw [vA] at h
   obtain ⟨r,e,a,b⟩:=EE p.uv x c (by omega)
   exact ⟨r,by rw [mI,e]; rfl,by simp; omega,by rw [vA]; omega⟩
  | cons y l ih=>
   intro x c h
   rw [vA] at h
   obtain ⟨r,e,h1,i⟩:=B9 y.pc (by omega)
   rw [mI,g6 y.Signed (by omega)]
   simp only [ay]
   rw [e,ay]
   rw [gH (x:=20*r) (by omega) (by omega),gH (x:=20+(sJ y.Signed.fP:Int)+(y.Signed.Tag.length:Int)+20*r) (by omega) (by omega),gH (by omega) (by omega)]
   obtain ⟨g,e',a,b⟩:=ih (x+(20+(sJ y.Signed.fP:Int)+(y.Signed.Tag.length:Int)+20*r)) (by omega) (by omega)
   exact ⟨g,e',by rw [aF]; omega,by rw [vA]; omega⟩
 obtain ⟨r,e,a,b⟩:=key p.qY (p.Name.size:Int) (by omega) (by omega)
 unfold vg
 exact ⟨r,e,by omega,by unfold F2; omega⟩
noncomputable def Jc (p:Ay):Bool:=(xx p.fX p.Client p.Formula).getD false
def G4 (l:List kk) (i:Int):Prop:=0≤i∧i < l.length
instance (l:List kk) (i:Int):Decidable (G4 l i):=by unfold G4; infer_instance
def GX (l:List kk) (i:Int):List kk:=if G4 l i then l.eraseIdx i.toNat else l
def F4 (p:Ay) (e i:Int):Ay :=
 if e=0 then ⟨⟨p.fX.Name,GX p.fX.qY i,p.fX.uv⟩,p.Client,p.Formula,p.gY,p.F8,p.BP,p.F0,p.Ed,p.Keys⟩
 else if e=1 then ⟨p.fX,⟨p.Client.Name,GX p.Client.qY i,p.Client.uv⟩,p.Formula,p.gY,p.F8,p.BP,p.F0,p.Ed,p.Keys⟩
 else p
theorem HH (x:Signed):jO x x=some true:=by
 unfold jO mV
 rw [aJ (Bw.2 rfl),show gS (nR x.Tag) (nR x.Tag)=true from kd.2 rfl]
 rfl
theorem Ch (f:Signed×Signed→Option Bool) (a:∀x,f (x,x)=some true):∀(l A:List Signed),gi (A++l) f l A.length=some true
 | [],A=>by rw [gi]
 | x::l,A=>by
  rw [gi,mS A x l _ rfl,ay,a x,ay]
  simp only [bi,aB,aQ]
  have:=Ch f a l (A++[x])
  rw [az,aH] at this
  exact this
theorem IP (l:List Signed) (f:Signed×Signed→Option Bool) (a:∀x,f (x,x)=some true):gD l l f=some true:=by
 unfold gD
 rw [aK (by simp)]
 exact Ch f a l []
theorem Gw (m:ie):oa m m=some true:=by
 unfold oa
 have h1:gS m.Name m.Name=true:=kd.2 rfl
 simp only [bp,bu,ay,h1]
 rw [uQ,IP _ _ (λx=>HH x)]
 simp
theorem bb {α β γ:Type} (x:Option α) (f:α→Option β) (g:β→Option γ):(x.bind λa=>(f a).bind g)=(x.bind f).bind g:=by cases x <;> rfl
theorem zG:∀(k u:Nat),u < 10 ^ (k+1)→(Go.Lib.decDigits u).length≤k+1
 | 0,u,h=>by rw [Go.Lib.decDigits,dif_pos (by simpa using h)]; simp
 | k+1,u,h=>by
  rw [Nat.pow_succ] at h
  by_cases h1:u < 10
  ·rw [Go.Lib.decDigits,dif_pos h1]; simp
  ·have:=zG k (u / 10) (by omega)
   rw [Go.Lib.decDigits,dif_neg h1]; simp; omega
def wJ (n:Int):Prop:=-9223372036854775808≤n∧n≤9223372036854775807
theorem B0 {n:Int} (h:wJ n):vS n=some (mN n):=aJ h
theorem uw {n:Int} (h:wJ n):(mN n).size≤20:=by
 obtain ⟨a,h1⟩:=h
 show (Go.Lib.itoa n).toArray.size≤20
 unfold Go.Lib.itoa
 split
 ·have:=zG 18 n.natAbs (by omega)
  simp; omega
 ·have:=zG 18 n.toNat (by omega)
  simp; omega
def oq:ByteArray:=⟨#[32]⟩
theorem iQ {a b:ByteArray} (h:a.size+b.size≤1000000000):jT a b=some (a++b):=by
 unfold jT
 rw [aK]
 have:IntKind.i64.max=9223372036854775807:=rfl
 rw [this]; omega
theorem pN (a:ByteArray):gS a a=true:=kd.2 rfl
def kF:ByteArray:=⟨#[46]⟩
def rT (r:fQ):ByteArray:=r.fX++kF++r.Word
theorem vO:kF.size=1:=rfl
theorem GB (r:fQ):(rT r).size=r.fX.size+1+r.Word.size:=by
 unfold rT; rw [aA,aA]; rfl
theorem It (r:fQ) (h:r.fX.size+r.Word.size≤100000000):kI r=some (rT r)∧nL r=some (rT r):=by
 have e:(⟨#[46]⟩:ByteArray)=kF:=rfl
 have d:=vO
 unfold kI nL
 rw [e,iQ (by omega),ay,iQ (by rw [aA]; omega)]
 exact ⟨rfl,rfl⟩
theorem Br {r:fQ} (h:gE r=true):r.fX.size≤16∧r.Word.size≤16∧1≤r.fX.size∧1≤r.Word.size:=by
 unfold gE at h
 rw [aT] at h
 have a:=iZ h.1
 have b:=iZ h.2
 omega
theorem nW {r:fQ} (h:gE r=true):kI r=some (rT r)∧nL r=some (rT r)∧(rT r).size≤33:=by
 have a:=Br h
 have b:=It r (by omega)
 exact ⟨b.1,b.2,by rw [GB]; omega⟩
def vM:ByteArray:=⟨#[32,60,45,32]⟩
def qy:ByteArray:=⟨#[32,38,32]⟩
def cT (c:fP):ByteArray:=rT c.Head++vM++(if c.Kind=1 then c.ir else if c.Kind=2 then rT c.B else if c.Kind=3 then rT c.B++kF++c.gT else rT c.B++qy++rT c.C)
theorem sw {c:fP} (h:jg c=true):px c=some (cT c)∧vy c=some (cT c)∧(cT c).size≤200:=by
 obtain ⟨h1,A,I⟩:=nW (nm h)
 have d:=vO
 have x:(⟨#[46]⟩:ByteArray)=kF:=rfl
 have y:(⟨#[32,60,45,32]⟩:ByteArray)=vM:=rfl
 have z:(⟨#[32,38,32]⟩:ByteArray)=qy:=rfl
 have s2:vM.size=4:=rfl
 have J:qy.size=3:=rfl
 unfold px vy tp
 rw [na,h,h1,A,x,y,z]
 simp only [ay,bi,aB,aQ]
 rw [iQ (by omega)]
 simp only [ay]
 unfold cT
 rcases kK h with ⟨k,i,q⟩ | ⟨k,i,q⟩ | ⟨k,i,s,q⟩ | ⟨k,i,s,q⟩
 ·have w:=iZ i
  have g:(c.Kind==1)=true:=by rw [k]; rfl
  simp only [g,bu,ay]
  rw [iQ (by rw [aA]; omega)]
  have e:(if c.Kind=1 then c.ir else if c.Kind=2 then rT c.B else if c.Kind=3 then rT c.B++kF++c.gT else rT c.B++qy++rT c.C)=c.ir:=by rw [k]; rfl
  rw [e]
  exact ⟨rfl,rfl,by simp only [aA]; omega⟩
 ·obtain ⟨o,p,u⟩:=nW i
  have g:(c.Kind==1)=false:=by rw [k]; rfl
  have k2:(c.Kind==2)=true:=by rw [k]; rfl
  have j:(c.Kind==3)=false:=by rw [k]; rfl
  have n:(c.Kind==4)=false:=by rw [k]; rfl
  simp only [g,k2,j,n,o,p,bu,aB,aQ,ay]
  rw [iQ (by rw [aA]; omega)]
  have e:(if c.Kind=1 then c.ir else if c.Kind=2 then rT c.B else if c.Kind=3 then rT c.B++kF++c.gT else rT c.B++qy++rT c.C)=rT c.B:=by rw [k]; rfl
  rw [e]
  exact ⟨rfl,rfl,by simp only [aA]; omega⟩
 ·obtain ⟨o,p,u⟩:=nW i
  have v:=iZ s
  have g:(c.Kind==1)=false:=by rw [k]; rfl
  have k2:(c.Kind==2)=false:=by rw [k]; rfl
  have j:(c.Kind==3)=true:=by rw [k]; rfl
  have n:(c.Kind==4)=false:=by rw [k]; rfl
  simp only [g,k2,j,n,o,p,bu,aB,aQ,ay]
  rw [iQ (a:=rT c.B) (b:=kF) (by omega),iQ (a:=kF) (b:=c.gT) (by omega),iQ (a:=rT c.Head++vM) (b:=rT c.B) (by rw [aA]; omega)]
  simp only [ay]
  rw [iQ (by rw [aA]; omega),iQ (by simp only [aA]; omega)]
  simp only [ay]
  rw [iQ (by simp only [aA]; omega)]
  have e:(if c.Kind=1 then c.ir else if c.Kind=2 then rT c.B else if c.Kind=3 then rT c.B++kF++c.gT else rT c.B++qy++rT c.C)=rT c.B++kF++c.gT:=by rw [k]; rfl
  rw [e]
  refine ⟨rfl,?_,by simp only [aA]; omega⟩
  simp only [ay,et]
 ·obtain ⟨o,p,u⟩:=nW i
  obtain ⟨v,G,L⟩:=nW s
  have g:(c.Kind==1)=false:=by rw [k]; rfl
  have k2:(c.Kind==2)=false:=by rw [k]; rfl
  have j:(c.Kind==3)=false:=by rw [k]; rfl
  have n:(c.Kind==4)=true:=by rw [k]; rfl
  simp only [g,k2,j,n,o,p,v,G,bu,aB,aQ,ay]
  rw [iQ (a:=rT c.B) (b:=qy) (by omega),iQ (a:=qy) (b:=rT c.C) (by omega),iQ (a:=rT c.Head++vM) (b:=rT c.B) (by rw [aA]; omega)]
  simp only [ay]
  rw [iQ (by rw [aA]; omega),iQ (by simp only [aA]; omega)]
  simp only [ay]
  rw [iQ (by simp only [aA]; omega)]
  have e:(if c.Kind=1 then c.ir else if c.Kind=2 then rT c.B else if c.Kind=3 then rT c.B++kF++c.gT else rT c.B++qy++rT c.C)=rT c.B++qy++rT c.C:=by rw [k]; rfl
  rw [e]
  refine ⟨rfl,?_,by simp only [aA]; omega⟩
  simp only [ay,et]
theorem gU (a b:ByteArray):(a++b).data.toList=a.data.toList++b.data.toList:=by simp
def zQ (l:List UInt8):Nat:=l.foldl (λa d=>10*a+(d.toNat-48)) 0
theorem Ad {k:Nat} (h:k < 10):(UInt8.ofNat (48+k)).toNat=48+k:=by
 rw [ed]; omega
theorem A4:∀(n u:Nat),u < n→zQ (Go.Lib.decDigits u)=u∧(∀d∈Go.Lib.decDigits u,48≤d.toNat∧d.toNat≤57)∧Go.Lib.decDigits u≠[]
 | 0,u,h=>by omega
 | n+1,u,h=>by
  rw [Go.Lib.decDigits]
  split
  ·rename_i h1
   refine ⟨?_,λd g=>?_,by simp⟩
   ·simp only [zQ,dZ,List.foldl_nil]; rw [Ad h1]; omega
   ·rw [aM] at g; rw [g,Ad h1]; omega
  ·rename_i h1
   obtain ⟨a,b,c⟩:=A4 n (u / 10) (by omega)
   have e:=Ad (k:=u % 10) (by omega)
   refine ⟨?_,λd g=>?_,by simp⟩
   ·unfold zQ at a ⊢
    rw [List.foldl_append,a]
    simp only [dZ,List.foldl_nil]
    rw [e]; omega
   ·rcases aU.1 g with g | g
    ·exact b d g
    ·rw [aM] at g; rw [g,e]; omega
theorem IF (u:Nat):zQ (Go.Lib.decDigits u)=u∧(∀d∈Go.Lib.decDigits u,48≤d.toNat∧d.toNat≤57)∧Go.Lib.decDigits u≠[]:=A4 (u+1) u (by omega)
noncomputable def shr (e:Int):Nat→Ay→Ay
 | 0,p=>p
 | k+1,p=>shr e k (if Jc (F4 p e k) then F4 p e k else p)
end Go.Proofs.YtjjjihkifgdhgaaGreatDoor
namespace Go.Proofs.YtjjjihkifgdhgaaGreatDoor
open Go.Proofs.Tryz renaming prog → pg0
open Go.RowKit Go.Lib
theorem tR {a b sep tl:List UInt8} {c:UInt8} (i:sep=c::tl) (h:c∉a):∀j,j < a.length→occAt (a++b) sep j=false:=λj d=>by
 cases g:occAt (a++b) sep j with
 | false=>rfl
 | true=>
  have:=occAt_head i g
  rw [cH d] at this
  exact absurd (dq this) h
theorem EM (a sep b:List UInt8):occAt (a++(sep++b)) sep a.length=true:=by
 unfold occAt
 rw [fh]
 exact List.isPrefixOf_iff_prefix.2 ⟨b,rfl⟩
theorem Aj {a sep b:List UInt8} (h:∀j,j < a.length→occAt (a++(sep++b)) sep j=false):index (a++(sep++b)) sep=(a.length:Int) :=
 index_first (by simp) (EM a sep b) h
theorem A2 {s sep tl:List UInt8} {c:UInt8} (d:sep=c::tl) (h:c∉s):index s sep=-1:=by
 refine index_none λj g=>?_
 cases a:occAt s sep j with
 | false=>rfl
 | true=>exact absurd (dq (occAt_head d a)) h
theorem Cf {s a sep b:ByteArray} (c:s.data.toList=a.data.toList++(sep.data.toList++b.data.toList)) (d:s.size < 4294967281) (h:∀j,j < a.data.toList.length→occAt s.data.toList sep.data.toList j=false):mm s sep=some (a,b,true):=by
 have hi:index s.data.toList sep.data.toList=(a.data.toList.length:Int):=by rw [c] at h ⊢; exact Aj h
 have e:cut s.data.toList sep.data.toList=(a.data.toList,b.data.toList,true):=by
  unfold cut
  rw [hi,aJ (by omega),c,bM,ei,←aH,←az,fh]
 unfold mm
 rw [aJ d,e]
theorem oL {s a sep b:ByteArray} {c:UInt8} {tl:List UInt8} (d:sep.data.toList=c::tl) (g:s.data.toList=a.data.toList++(sep.data.toList++b.data.toList)) (k:s.size < 4294967281) (h:c∉a.data.toList):mm s sep=some (a,b,true) :=
 Cf g k (λj i=>by rw [g]; exact tR d h j i)
theorem sy {s sep:ByteArray} {c:UInt8} {tl:List UInt8} (a:sep.data.toList=c::tl) (d:s.size < 4294967281) (h:c∉s.data.toList):mm s sep=some (s,zS,false):=by
 have e:cut s.data.toList sep.data.toList=(s.data.toList,[],false):=by
  unfold cut
  rw [A2 a h,aK (by omega)]
 unfold mm
 rw [aJ d,e]
 rfl
theorem E7 (s sep:ByteArray) (a:s.size < 4294967281):∃r,mm s sep=some r∧r.1.size≤s.size∧r.2.1.size≤s.size:=by
 unfold mm
 rw [aJ a]
 refine ⟨_,rfl,?_,?_⟩
 ·show (cut s.data.toList sep.data.toList).1.toArray.size≤_
  rw [iY]
  unfold cut
  split <;> simp
  omega
 ·show (cut s.data.toList sep.data.toList).2.1.toArray.size≤_
  rw [iY]
  unfold cut
  split <;> simp
theorem wY {sep tl:List UInt8} {c:UInt8} (h:sep=c::tl):∀(d:List (List UInt8)) (p:List UInt8) (n:Nat),c∉p→(∀q∈d,c∉q)→d.length < n→
  countFrom sep n (p++joinTail sep d)=d.length∧splitK sep 0 d.length (p++joinTail sep d)=p::d
 | [],p,0,hp,_,g=>by simp at g
 | [],p,n+1,hp,_,g=>by
  have e:p++joinTail sep []=p:=by simp [joinTail]
  rw [e,countFrom,A2 h hp,aJ (by decide)]
  exact ⟨rfl,rfl⟩
 | q::d,p,0,hp,_,g=>by simp at g
 | q::d,p,n+1,hp,j,g=>by
  have e:p++joinTail sep (q::d)=p++(sep++(q++joinTail sep d)):=by simp [joinTail]
  have hi:=Aj (tR (b:=sep++(q++joinTail sep d)) h hp)
  obtain ⟨a,b⟩:=wY h d q n (j q (by simp)) (λz k=>j z (by simp [k])) (by simp at g; omega)
  have i:(p++(sep++(q++joinTail sep d))).drop ((p.length:Int).toNat+sep.length)=q++joinTail sep d:=by
   rw [bM,←aH,←az,fh]
  have h1:((p.length:Int)==-1)=false:=by simp
  rw [e,countFrom,hi,h1,i,a,aF,splitK,hi,h1,i,b]
  refine ⟨by simp; omega,by simp⟩
theorem rN (x:ByteArray) (r:List ByteArray) (sep:ByteArray):(qW (x::r) sep).data.toList=x.data.toList++joinTail sep.data.toList (r.map (·.data.toList)):=by
 unfold qW
 rw [aY,join_cons]
theorem EH {sep:ByteArray} {c:UInt8} {tl:List UInt8} (d:sep.data.toList=c::tl) (x:ByteArray) (r:List ByteArray) (h:∀p∈x::r,c∉p.data.toList) (s:(qW (x::r) sep).size < 4294967281):se (qW (x::r) sep) sep=some (x::r):=by
 have h1:1≤sep.size:=by rw [iY,d]; simp
 unfold se
 rw [aJ ⟨s,h1⟩]
 congr 1
 have k:=rN x r sep
 have key:=wY d (r.map (·.data.toList)) x.data.toList ((qW (x::r) sep).data.toList.length+1) (h x (by simp)) (λq o=>by
  obtain ⟨p,hp,rfl⟩:=bt.1 o
  exact h p (by simp [hp])) (by
   rw [k,cZ]
   have:∀l:List (List UInt8),l.length≤(joinTail sep.data.toList l).length:=λl=>by
    induction l with
    | nil=>simp
    | cons y l ih=>
     have e:joinTail sep.data.toList (y::l)=sep.data.toList++y++joinTail sep.data.toList l:=by simp [joinTail]
     have u:1≤sep.data.toList.length:=by rw [d]; simp
     rw [e,az,az,aF]; omega
   have:=this (r.map (·.data.toList))
   simp at this ⊢; omega)
 rw [←k,cZ] at key
 have n:countB (qW (x::r) sep) sep=r.length:=key.1
 rw [n]
 have j:=splitB_data sep 0 r.length (qW (x::r) sep)
 rw [key.2] at j
 have i:∀a b:List ByteArray,a.map (·.data.toList)=b.map (·.data.toList)→a=b:=λa=>by
  induction a with
  | nil=>intro b g; cases b with
   | nil=>rfl
   | cons y b=>simp at g
  | cons z a ih=>intro b g; cases b with
   | nil=>simp at g
   | cons y b=>
    rw [aY,aY] at g
    rw [rl (List.cons.inj g).1,ih b (List.cons.inj g).2]
 exact i _ _ j
theorem zc {s a b sep:ByteArray} {c:UInt8} (d:sep.data.toList=[c]) (p:s.data.toList=a.data.toList++(c::b.data.toList)) (q:s.size < 4611686018427387904) (h:c∉b.data.toList):re s sep=some (a.size:Int):=by
 unfold re
 rw [aJ q,d,p]
 congr 1
 unfold lastIndex
 rw [aJ (by simp; omega)]
 have ha:occAt (a.data.toList++(c::b.data.toList)) [c] a.data.toList.length=true:=EM a.data.toList [c] b.data.toList
 have o:∀j,a.data.toList.length < j→occAt (a.data.toList++(c::b.data.toList)) [c] j=false:=λj u=>by
  cases g:occAt (a.data.toList++(c::b.data.toList)) [c] j with
  | false=>rfl
  | true=>
   have:=occAt_head rfl g
   rw [cA (by omega)] at this
   obtain ⟨k,hk⟩:∃k,j-a.data.toList.length=k+1:=⟨j-a.data.toList.length-1,by omega⟩
   rw [hk,List.getElem?_cons_succ] at this
   exact absurd (dq this) h
 rcases lastOcc_spec (a.data.toList++(c::b.data.toList)) [c] ((a.data.toList++(c::b.data.toList)).length-[c].length+1) with ⟨_,n⟩ | ⟨i,hi,e,g,n⟩
 ·have:=n a.data.toList.length (by simp; omega)
  rw [ha] at this; cases this
 ·rw [e,iY]
  congr 1
  rcases Nat.lt_trichotomy i a.data.toList.length with h1 | h1 | h1
  ·have:=n a.data.toList.length h1 (by simp; omega)
   rw [ha] at this; cases this
  ·exact h1
  ·rw [o i h1] at g; cases g
theorem Eu (s sep:ByteArray) (a:s.size < 4611686018427387904):∃r,re s sep=some r:=by unfold re; rw [aJ a]; exact ⟨_,rfl⟩
theorem vV {s a b:ByteArray} (c:s.data.toList=a.data.toList++b.data.toList):nO s 0 (a.size:Int)=some a:=by
 have d:s.size=a.size+b.size:=by rw [iY,c,az,←iY,←iY]
 unfold nO
 rw [aJ (by omega)]
 congr 1
 apply rl
 rw [bM,show (0:Int).toNat=0 from rfl,extract_from_zero,c,iY,ei]
theorem xw {s a b:ByteArray} (c:s.data.toList=a.data.toList++b.data.toList):nO s (a.size:Int) (s.size:Int)=some b:=by
 have d:s.size=a.size+b.size:=by rw [iY,c,az,←iY,←iY]
 unfold nO
 rw [aJ (by omega)]
 congr 1
 apply rl
 rw [bM,bM,extract_to_end,c,iY,fh]
end Go.Proofs.YtjjjihkifgdhgaaGreatDoor
namespace Go.Proofs.YtjjjihkifgdhgaaGreatDoor
open Go.Proofs.Tryz renaming prog → pg0
open Go.RowKit
def wr {α:Type}:Int ⊕ (α×List Int)→Int ⊕ (α×fV)
 | .inl e=>.inl e
 | .inr (v,l)=>.inr (v,⟨l,false⟩)
def jJ {α β:Type} (x:Int ⊕ (α×List Int)) (f:α→List Int→Int ⊕ (β×List Int)):Int ⊕ (β×List Int) :=
 match x with
 | .inl e=>.inl e
 | .inr (v,l)=>f v l
def lV (a:Int):Nat→Int→List Int→Int ⊕ (Int×List Int)
 | i,n,[]=>.inl (if i=9 then 11 else 10)
 | i,n,c::l=>if i=9 then .inl 11 else if c=0∧0 < i then .inl 11 else
   if c < 128 then (if n+c % 128*128 ^ i > a then .inl 12 else .inr (n+c % 128*128 ^ i,l)) else lV a (i+1) (n+c % 128*128 ^ i) l
def rG:Int:=9223372036854775807
def qE (a:Int) (l:List Int):Int ⊕ (List Int×List Int) :=
 jJ (lV rG 0 0 l) λn c=>if n > a then .inl 12 else if n > (c.length:Int) then .inl 10 else .inr (c.take n.toNat,c.drop n.toNat)
def pk (l:List Int):Int ⊕ (ByteArray×List Int):=jJ (qE 16 l) λt a=>if jh (mW t)=true then .inr (mW t,a) else .inl 30
def nU (l:List Int):Int ⊕ (fQ×List Int):=jJ (pk l) λa c=>jJ (pk c) λb d=>.inr (⟨a,b⟩,d)
def tF (k:Int) (h:fQ) (l:List Int):Int ⊕ (fP×List Int) :=
 if k=1 then jJ (pk l) λw a=>.inr (⟨k,h,w,zR,zR,zS⟩,a)
 else if k=2 then jJ (nU l) λb a=>.inr (⟨k,h,zS,b,zR,zS⟩,a)
 else if k=3 then jJ (nU l) λb a=>jJ (pk a) λw d=>.inr (⟨k,h,zS,b,zR,w⟩,d)
 else jJ (nU l) λb a=>jJ (nU a) λc d=>.inr (⟨k,h,zS,b,c,zS⟩,d)
def uD (l:List Int):Int ⊕ (fP×List Int) :=
 jJ (lV rG 0 0 l) λk a=>if k < 1∨4 < k then .inl 11 else jJ (nU a) λh d=>jJ (tF k h d) λc g=>if jg c=true then .inr (c,g) else .inl 11
def Cy (l:List Int):Int ⊕ (Signed×List Int) :=
 jJ (uD l) λc a=>jJ (qE 8 a) λt d=>if (t.length:Int)=8 then .inr (⟨c,t⟩,d) else .inl 11
theorem pD (l:List Int) (e:Int) (he:e≠0):gM ⟨l,false⟩ e=some (.inl e):=by
 unfold gM; simp [he]
theorem DZ (l:List Int) (i:Int) (hi:0≤i):mi ⟨l,false⟩ i=some (match l with
  | []=>.inl (if i=9 then 11 else 10)
  | c::t=>if i=9 then .inl 11 else if c=0∧0 < i then .inl 11 else .inr (c,⟨t,false⟩)):=by
 unfold mi
 rw [pD _ 11 (by decide),pD _ 10 (by decide)]
 by_cases a:i=9
 ·subst a; cases l <;> simp
 ·cases l with
  | nil=>simp [a]
  | cons c t=>
   have h1:((c::t).length:Int)≠0:=by simp; omega
   have d:kh (decide (0≤(1:Int))&&decide ((1:Int)≤((c::t).length:Int)))=some ():=sa (by decide) (by simp; omega)
   have g:im (c::t) 0=some c:=mS [] c t 0 rfl
   simp only [fD,a,h1,aQ,ay,d,g]
   have h:kh (decide (1≤(t.length:Int)+1))=some ():=by simp [kh]; omega
   by_cases j:c=0 <;> by_cases hp:0 < i <;> simp [j,hp,pD,h]
theorem IH (c:Int) (a:0≤c) (h1:c < 256):IntKind.u8.wrap (BitVec.ofInt (IntKind.bits .u8) c &&& BitVec.ofInt (IntKind.bits .u8) 127).toNat=c % 128:=by
 obtain ⟨k,rfl⟩:∃k:Nat,c=k:=⟨c.toNat,by omega⟩
 have:∀k:Nat,k < 256→IntKind.u8.wrap (BitVec.ofInt (IntKind.bits .u8) (k:Int) &&& BitVec.ofInt (IntKind.bits .u8) 127).toNat=(k:Int) % 128:=by decide +kernel
 exact this k (by omega)
theorem H0 (n m j:Nat) (c:n < 2 ^ j) (hm:m*2 ^ j+n < 18446744073709551616):(BitVec.ofInt 64 (n:Int) ||| BitVec.ofInt 64 ((m*2 ^ j:Nat):Int)).toNat=n+m*2 ^ j:=by
 have h1:n < 2 ^ 64:=by omega
 have a:m*2 ^ j < 2 ^ 64:=by omega
 rw [BitVec.toNat_or,BitVec.ofInt_natCast,BitVec.ofInt_natCast,BitVec.toNat_ofNat,BitVec.toNat_ofNat,Nat.mod_eq_of_lt h1,Nat.mod_eq_of_lt a,Nat.or_comm,←Nat.shiftLeft_eq,←Nat.shiftLeft_add_eq_or_of_lt c,Nat.add_comm]
theorem Is (n c:Int) (i:Nat) (hi:i≤8) (s:0≤n∧n < 128 ^ i) (h:0≤c∧c < 256):IntKind.i64.wrap (BitVec.ofInt (IntKind.bits .i64) n ||| BitVec.ofInt (IntKind.bits .i64) (IntKind.i64.wrap (IntKind.i64.wrap (IntKind.u8.wrap (BitVec.ofInt (IntKind.bits .u8) c &&& BitVec.ofInt (IntKind.bits .u8) 127).toNat)*2 ^ min (Int.toNat (IntKind.i64.wrap (7*(i:Int)))) (IntKind.bits .i64)))).toNat=n+c % 128*128 ^ i:=by
 rw [IH c h.1 h.2,gH (x:=c % 128) (by omega) (by omega),gH (x:=7*(i:Int)) (by omega) (by omega)]
 have j:min (Int.toNat (7*(i:Int))) (IntKind.bits .i64)=7*i:=by simp only [IntKind.bits]; omega
 rw [j]
 obtain ⟨a,rfl⟩:∃a:Nat,n=a:=⟨n.toNat,by omega⟩
 obtain ⟨b,p⟩:∃b:Nat,c % 128=b:=⟨(c % 128).toNat,by omega⟩
 rw [p]
 have q:b < 128:=by omega
 have g:(128:Nat) ^ i=2 ^ (7*i):=by rw [Nat.pow_mul]
 have k:(128:Int) ^ i=((2 ^ (7*i):Nat):Int):=by rw [←g]; simp
 have ha:a < 2 ^ (7*i):=by rw [←g]; have:=s.2; exact_mod_cast this
 have d:2 ^ (7*i)≤2 ^ 56:=Nat.pow_le_pow_right (by decide) (by omega)
 have hm:b*2 ^ (7*i)+a < 9223372036854775808:=by
  have:(b+1)*2 ^ (7*i)≤128*2 ^ 56:=Nat.mul_le_mul (by omega) d
  rw [bZ] at this; omega
 have o:((b:Int)*2 ^ (7*i))=((b*2 ^ (7*i):Nat):Int):=by simp
 rw [o,gH (x:=((b*2 ^ (7*i):Nat):Int)) (by omega) (by omega)]
 show IntKind.i64.wrap ((BitVec.ofInt 64 (a:Int) ||| BitVec.ofInt 64 ((b*2 ^ (7*i):Nat):Int)).toNat:Int)=_
 rw [H0 a b (7*i) ha (by omega),gH (by omega) (by omega),k]
 simp
theorem DQ (n c:Int) (i:Nat) (a:0≤n∧n < 128 ^ i):0≤n+c % 128*128 ^ i∧n+c % 128*128 ^ i < 128 ^ (i+1):=by
 have h1:0≤c % 128∧c % 128 < 128:=⟨by omega,by omega⟩
 have hp:(0:Int) < 128 ^ i:=Int.pow_pos (by decide)
 constructor
 ·have:=Int.mul_nonneg h1.1 (Int.le_of_lt hp); omega
 ·rw [Int.pow_succ]
  have:c % 128*128 ^ i≤127*128 ^ i:=Int.mul_le_mul_of_nonneg_right (by omega) (Int.le_of_lt hp)
  omega
theorem Gb (a:Int):∀(l:List Int) (i:Nat) (n:Int) (k:Nat),B8 l→i≤9→0≤n∧n < 128 ^ i→l.length < k→iN a k n i l false=some (wr (lV a i n l))
 | [],i,n,k+1,_,hi,_,_=>by
  rw [iN,DZ _ _ (by omega)]
  by_cases g:i=9 <;> simp [lV,wr,g] <;> omega
 | c::l,i,n,k+1,u,hi,v,hk=>by
  have w:=u c (List.mem_cons_self ..)
  rw [iN,DZ _ _ (by omega)]
  unfold lV
  by_cases g:i=9
  ·subst g; rfl
  ·have o:¬((i:Int)=9):=by omega
   have s:=Is n c i (by omega) v w
   have hp:=DQ n c i v
   have p:kh (decide (0≤IntKind.i64.wrap (7*(i:Int))))=some ():=by rw [gH (by omega) (by omega)]; simp [kh]; omega
   have q:IntKind.i64.wrap ((i:Int)+1)=((i+1:Nat):Int):=by rw [gH (by omega) (by omega)]; simp
   simp only [g,o,aQ,ay]
   by_cases j:c=0∧0 < i
   ·have:c=0∧0 < (i:Int):=⟨j.1,by omega⟩
    rw [aJ this,aJ j]; rfl
   ·have:¬(c=0∧0 < (i:Int)):=λh=>j ⟨h.1,by omega⟩
    rw [aK this,aK j]
    simp only [s,p,q,ay]
    by_cases d:c < 128
    ·simp only [d,ee,bu]
     by_cases hm:n+c % 128*128 ^ i > a
     ·simp only [hm,ee,bu,pD _ 12 (by decide),ay,wr]
     ·simp only [hm,fH,aQ,aB,ay,wr]
    ·simp only [d,fH,aQ,aB]
     exact Gb a l (i+1) _ k (λx y=>u x (dt _ y)) (by omega) hp (by simp only [aF] at hk; omega)
theorem B8.tail {c:Int} {l:List Int} (h:B8 (c::l)):B8 l:=λx a=>h x (dt _ a)
theorem B8.drop {l:List Int} (h:B8 l) (n:Nat):B8 (l.drop n):=λx a=>h x (List.mem_of_mem_drop a)
theorem B8.take {l:List Int} (h:B8 l) (n:Nat):B8 (l.take n):=λx a=>h x (List.mem_of_mem_take a)
def si {α:Type} (l:List Int) (x:Int ⊕ (α×List Int)):Prop:=∀v a,x= .inr (v,a)→∃k,a=l.drop k
theorem si.tL {α β:Type} {l:List Int} {x:Int ⊕ (α×List Int)} {f:α→List Int→Int ⊕ (β×List Int)} (h:si l x) (c:∀v a,si a (f v a)):si l (jJ x f):=λv a e=>by
 cases x with
 | inl q=>cases e
 | inr q=>
  obtain ⟨k,hk⟩:=h q.1 q.2 rfl
  obtain ⟨j,d⟩:=c q.1 q.2 v a e
  exact ⟨k+j,by rw [d,hk,List.drop_drop]⟩
theorem rz (a:Int):∀(l:List Int) (i:Nat) (n:Int),si l (lV a i n l)
 | [],i,n=>λv d e=>by cases e
 | c::l,i,n=>λv d e=>by
  unfold lV at e
  split at e
  ·cases e
  split at e
  ·cases e
  split at e
  ·split at e
   ·cases e
   ·cases e; exact ⟨1,rfl⟩
  ·obtain ⟨k,hk⟩:=rz a l (i+1) _ v d e
   exact ⟨k+1,by rw [hk,List.drop_succ_cons]⟩
theorem CP (a:Int) (l:List Int):si l (qE a l):=(rz _ _ _ _).tL λn c v d e=>by
 split at e
 ·cases e
 split at e
 ·cases e
 ·cases e; exact ⟨_,rfl⟩
theorem qu (l:List Int):si l (pk l):=(CP _ _).tL λt a v c e=>by
 split at e
 ·cases e; exact ⟨0,rfl⟩
 ·cases e
theorem mZ (l:List Int):si l (nU l):=(qu _).tL λa c=>(qu _).tL λb d v g e=>by cases e; exact ⟨0,rfl⟩
theorem Bv (k:Int) (h:fQ) (l:List Int):si l (tF k h l):=by
 unfold tF
 split
 ·exact (qu _).tL λa c v d e=>by cases e; exact ⟨0,rfl⟩
 split
 ·exact (mZ _).tL λa c v d e=>by cases e; exact ⟨0,rfl⟩
 split
 ·exact (mZ _).tL λa c=>(qu _).tL λb g v d e=>by cases e; exact ⟨0,rfl⟩
 ·exact (mZ _).tL λa c=>(mZ _).tL λb g v d e=>by cases e; exact ⟨0,rfl⟩
theorem CE (l:List Int):si l (uD l):=(rz _ _ _ _).tL λk d=>by
 split
 ·intro v a e; cases e
 ·exact (mZ _).tL λh g=>(Bv _ _ _).tL λc i v j e=>by
   split at e
   ·cases e; exact ⟨0,rfl⟩
   ·cases e
theorem rC (l:List Int) (a:Int) (c:B8 l) (d:l.length≤1000000):ij ⟨l,false⟩ a=some (wr (lV a 0 0 l)):=by
 unfold ij mc
 simp only [ay,aB,aQ]
 exact Gb a l 0 0 iq c (by omega) (by decide) (by rw [pe]; omega)
theorem BT (a:Int):∀(l:List Int) (i:Nat) (n v:Int) (d:List Int),0≤n∧n < 128 ^ i→lV a i n l= .inr (v,d)→0≤v∧v≤a
 | [],i,n,v,d,_,e=>by cases e
 | c::l,i,n,v,d,g,e=>by
  have hp:=DQ n c i g
  unfold lV at e
  split at e
  ·cases e
  split at e
  ·cases e
  split at e
  ·split at e
   ·cases e
   ·cases e; exact ⟨hp.1,by omega⟩
  ·exact BT a l (i+1) _ v d hp e
theorem zF (l:List Int) (a:Int) (u:B8 l) (v:l.length≤1000000):jw ⟨l,false⟩ a=some (wr (qE a l)):=by
 unfold jw mc
 simp only [ay,aB,aQ]
 rw [rC l _ u v]
 unfold qE
 have g:=rz rG l 0 0
 have d:=BT rG l 0 0
 have j:lV 9223372036854775807 0 0 l=lV rG 0 0 l:=rfl
 rw [j]
 cases i:lV rG 0 0 l with
 | inl e=>simp [wr,jJ]
 | inr q=>
  obtain ⟨n,c⟩:=q
  obtain ⟨k,hk⟩:=g n c i
  have o:=(d n c ⟨by decide,by decide⟩ i).1
  have w:c.length≤1000000:=by rw [hk,dv]; omega
  simp only [ay,wr,jJ]
  by_cases h1:n > a
  ·simp only [h1,ee,bu,pD _ 12 (by decide),ay,wr]
  ·by_cases h:n > (c.length:Int)
   ·simp only [h1,h,ee,fH,bu,aQ,aB,pD _ 10 (by decide),ay,wr]
   ·have p:kh (decide (0≤n)&&decide (n≤(c.length:Int)))=some ():=sa o (by omega)
    have s:jF (c.take n.toNat)=some (c.take n.toNat):=xq (by rw [bI]; omega)
    simp only [h1,h,p,s,fH,aQ,aB,ay,wr]
theorem B8.part {α:Type} {l a:List Int} {x:Int ⊕ (α×List Int)} {v:α} (h:B8 l) (c:l.length≤1000000) (hp:si l x) (e:x= .inr (v,a)):B8 a∧a.length≤1000000:=by
 obtain ⟨k,hk⟩:=hp v a e
 rw [hk]
 exact ⟨h.drop k,by rw [dv]; omega⟩
theorem xI (l:List Int) (a:B8 l) (c:l.length≤1000000):lI ⟨l,false⟩=some (wr (pk l)):=by
 unfold lI pk
 rw [zF l _ a c]
 cases g:qE 16 l with
 | inl e=>rfl
 | inr q=>
  obtain ⟨t,h⟩:=q
  simp only [ay,wr,jJ,BZ,ng]
  cases d:jh (mW t) <;> simp [wr,pD]
theorem wc (l:List Int) (c:B8 l) (d:l.length≤1000000):kP ⟨l,false⟩=some (wr (nU l)):=by
 unfold kP nU
 rw [xI l c d]
 cases i:pk l with
 | inl e=>rfl
 | inr q=>
  obtain ⟨a,g⟩:=q
  obtain ⟨h1,h⟩:=c.part d (qu l) i
  simp only [ay,wr,jJ]
  rw [xI g h1 h]
  cases j:pk g with
  | inl e=>rfl
  | inr q=>obtain ⟨b,k⟩:=q; rfl
theorem IA (l:List Int) (z:B8 l) (G:l.length≤1000000):qv ⟨l,false⟩=some (wr (uD l)):=by
 unfold qv uD
 rw [rC l _ z G]
 have J:lV 9223372036854775807 0 0 l=lV rG 0 0 l:=rfl
 rw [J]
 cases O:lV rG 0 0 l with
 | inl e=>rfl
 | inr q=>
  obtain ⟨k,x⟩:=q
  obtain ⟨h1,y⟩:=z.part G (rz rG l 0 0) O
  simp only [ay,wr,jJ]
  by_cases hk:k < 1∨4 < k
  ·have s:(if decide (k < 1)=true then some true else some (decide (k > 4)):Option Bool)=some true:=by
    by_cases h:k < 1 <;> simp [h]; omega
   rw [s,aJ hk]
   simp [pD,wr]
  ·have s:(if decide (k < 1)=true then some true else some (decide (k > 4)):Option Bool)=some false:=by
    rw [aK (by simp; omega)]; simp; omega
   rw [s,aK hk]
   simp only [ay,aQ,aB]
   rw [wc x h1 y]
   cases M:nU x with
   | inl e=>rfl
   | inr q=>
    obtain ⟨h,d⟩:=q
    obtain ⟨i,j⟩:=h1.part y (mZ x) M
    simp only [ay,wr,jJ]
    have L:∀{A:Type} (K:fP→List Int→Bool→Option A) (X:Int→Option A),True:=λ_ _=>trivial
    have fin:∀(c:fP) (a:List Int),((jC c).bind λo=>if (!o)=true then (gM ⟨a,false⟩ 11).bind λp=>match p with | .inl n=>some (Sum.inl n) | .inr I=>some (Sum.inr ((⟨0,⟨zS,zS⟩,zS,⟨zS,zS⟩,⟨zS,zS⟩,zS⟩:fP),(⟨a,false⟩:fV))) else some (Sum.inr (c,(⟨a,false⟩:fV))))=some (wr (if jg c=true then .inr (c,a) else .inl 11)):=λc a=>by
     rw [na]
     cases jg c <;> simp [pD,wr]
    unfold tF
    by_cases P:k=1
    ·subst P
     simp only [bp,bu]
     rw [xI d i j]
     cases pk d with
     | inl e=>rfl
     | inr q=>obtain ⟨w,a⟩:=q; exact fin _ _
    ·by_cases k2:k=2
     ·subst k2
      simp only [Int.reduceBEq,Int.reduceEq,aQ,bu,aB]
      rw [wc d i j]
      cases nU d with
      | inl e=>rfl
      | inr q=>obtain ⟨w,a⟩:=q; exact fin _ _
     ·by_cases Q:k=3
      ·subst Q
       simp only [Int.reduceBEq,Int.reduceEq,aQ,bu,aB]
       rw [wc d i j]
       cases g:nU d with
       | inl e=>rfl
       | inr q=>
        obtain ⟨w,a⟩:=q
        obtain ⟨u,v⟩:=i.part j (mZ d) g
        simp only [ay,wr,jJ]
        rw [xI a u v]
        cases pk a with
        | inl e=>rfl
        | inr q=>obtain ⟨U,T⟩:=q; exact fin _ _
      ·have R:k=4:=by omega
       subst R
       simp only [Int.reduceBEq,Int.reduceEq,aQ,bu,aB]
       rw [wc d i j]
       cases g:nU d with
       | inl e=>rfl
       | inr q=>
        obtain ⟨w,a⟩:=q
        obtain ⟨u,v⟩:=i.part j (mZ d) g
        simp only [ay,wr,jJ]
        rw [wc a u v]
        cases nU a with
        | inl e=>rfl
        | inr q=>obtain ⟨U,T⟩:=q; exact fin _ _
theorem I5 (l:List Int) (a:B8 l) (d:l.length≤1000000):qw ⟨l,false⟩=some (wr (Cy l)):=by
 unfold qw Cy
 rw [IA l a d]
 cases j:uD l with
 | inl e=>rfl
 | inr q=>
  obtain ⟨c,g⟩:=q
  obtain ⟨h1,h⟩:=a.part d (CE l) j
  simp only [ay,wr,jJ]
  rw [zF g _ h1 h]
  cases k:qE 8 g with
  | inl e=>rfl
  | inr q=>
   obtain ⟨t,n⟩:=q
   simp only [ay,wr,jJ]
   by_cases i:(t.length:Int)=8 <;> simp [i,pD,wr]
theorem lW (a k:Int) (l:List Int) (c:0≤k) (h1:k < 128) (hm:k≤a):lV a 0 0 (k::l)= .inr (k,l):=by
 unfold lV
 have e:(0:Int)+k % 128*128 ^ 0=k:=by simp; omega
 rw [e,aK (by decide),aK (by simp),aJ h1,aK (by omega)]
theorem AD (a:Int) (t l:List Int) (h:t.length < 128) (hm:(t.length:Int)≤a):qE a ((t.length:Int)::(t++l))= .inr (t,l):=by
 unfold qE
 rw [lW _ _ _ (by omega) (by omega) (by unfold rG; omega)]
 simp only [jJ]
 rw [aK (by omega),aK (by simp; omega)]
 simp
theorem ry {s:ByteArray} (h:jh s=true) (l:List Int):pk (oG s++l)= .inr (s,l):=by
 have h1:=iZ h
 unfold pk oG
 rw [bA,←iG,AD _ _ _ (by rw [iG]; omega) (by rw [iG]; omega)]
 simp only [jJ,Ds,h,bu]
theorem pX {r:fQ} (h:gE r=true) (l:List Int):nU (jf r++l)= .inr (r,l):=by
 simp only [gE,aT] at h
 unfold nU jf
 rw [aH,ry h.1]
 simp only [jJ]
 rw [ry h.2]
theorem DR {c:fP} (h:jg c=true) (l:List Int):uD (nh c++l)= .inr (c,l):=by
 have a:=kK h
 have j:1≤c.Kind∧c.Kind≤4:=by rcases a with g | g | g | g <;> rw [g.1] <;> decide
 have d:tF c.Kind c.Head (rV c++l)= .inr (c,l):=by
  obtain ⟨k,n,i,b,c2,o⟩:=c
  unfold tF rV
  rcases a with g | g | g | g
  ·obtain ⟨rfl,g1,rfl,rfl,rfl⟩:=g
   simp only [bu]
   rw [ry g1]; rfl
  ·obtain ⟨rfl,g1,rfl,rfl,rfl⟩:=g
   simp only [Int.reduceEq,aQ,bu]
   rw [pX g1]; rfl
  ·obtain ⟨rfl,g1,g2,g3,rfl,rfl⟩:=g
   simp only [Int.reduceEq,aQ,bu]
   rw [aH,pX g1]
   simp only [jJ]
   rw [ry g2]
  ·obtain ⟨rfl,g1,g2,g3,rfl,rfl⟩:=g
   simp only [Int.reduceEq,aQ,bu]
   rw [aH,pX g1]
   simp only [jJ]
   rw [pX g2]
 unfold uD nh
 rw [bA,lW _ _ _ (by omega) (by omega) (by unfold rG; omega)]
 simp only [jJ]
 rw [aK (by omega),aH,pX (nm h)]
 simp only [jJ]
 rw [d]
 simp only [jJ,h,bu]
theorem Gx {c:fP} (h:jg c=true) {t:List Int} (a:t.length=8) (l:List Int):Cy (nh c++((8:Int)::t)++l)= .inr (⟨c,t⟩,l):=by
 unfold Cy
 rw [aH,DR h]
 simp only [jJ]
 have:=AD 8 t l (by omega) (by omega)
 rw [a] at this
 rw [bA,show ((8:Int)::(t++l))=(((8:Nat):Int)::(t++l)) from rfl,this]
 simp [jJ,a]
theorem GU {c:fP} (h:jg c=true):B8 (nh c):=(Hc h).tail
theorem pQ {l:List Int} (h:l.length≤1000000):jv l=some l:=by
 unfold jv; rw [xq h]; rfl
end Go.Proofs.YtjjjihkifgdhgaaGreatDoor
namespace Go.Proofs.YtjjjihkifgdhgaaGreatDoor
open Go.Proofs.Tryz renaming prog → pg0
open Go.RowKit Go.Lib
theorem mf {s:ByteArray} (h:jh s=true) {x:UInt8} (a:tM x=false):x∉s.data.toList:=λhm=>by
 unfold jh at h
 simp only [aT] at h
 have:=dU.1 h.2 x hm
 rw [a] at this; cases this
theorem tW (r:fQ):(rT r).data.toList=r.fX.data.toList++(46::r.Word.data.toList):=by
 unfold rT; rw [gU,gU,aH]; rfl
theorem ox {r:fQ} (h:gE r=true) {x:UInt8} (a:tM x=false) (c:x≠46):x∉(rT r).data.toList:=λhm=>by
 unfold gE at h
 rw [aT] at h
 rw [tW] at hm
 rcases aU.1 hm with hm | hm
 ·exact mf h.1 a hm
 ·rcases aS.1 hm with hm | hm
  ·exact c hm
  ·exact mf h.2 a hm
theorem tJ (s:ByteArray) (c:s.size < 4294967281):∃r b,jU s=some (r,b):=by
 obtain ⟨r,a,_⟩:=E7 s ⟨#[46]⟩ c
 unfold jU
 rw [a]
 simp only [ay,nf]
 cases gE ⟨r.1,r.2.1⟩
 ·exact ⟨_,_,rfl⟩
 ·exact ⟨_,_,rfl⟩
theorem pZ {r:fQ} (h:gE r=true):jU (rT r)=some (r,true):=by
 have g:=nW h
 have a:=h
 unfold gE at a
 rw [aT] at a
 have d:mm (rT r) ⟨#[46]⟩=some (r.fX,r.Word,true):=oL (c:=46) (tl:=[]) rfl (tW r) (by omega) (mf a.1 (by decide))
 unfold jU
 rw [d]
 simp only [ay,nf]
 have e:gE ⟨r.fX,r.Word⟩=true:=h
 rw [e]
 rfl
theorem vG {sep tl:List UInt8} {c:UInt8} (a:sep=c::tl):∀l:List (List UInt8),l.length≤(joinTail sep l).length
 | []=>by simp
 | y::l=>by
  have ih:=vG a l
  have e:joinTail sep (y::l)=sep++y++joinTail sep l:=by simp [joinTail]
  have d:1≤sep.length:=by rw [a]; simp
  rw [e,az,az,aF]; omega
theorem yA {s sep:ByteArray} {c:UInt8} {tl:List UInt8} (a:sep.data.toList=c::tl) (p:List UInt8) (d:List (List UInt8)) (hp:c∉p) (i:∀q∈d,c∉q) (g:s.data.toList=p++joinTail sep.data.toList d) (j:s.size < 4294967281):sv s sep=some (d.length:Int):=by
 have h1:1≤sep.size:=by rw [iY,a]; simp
 unfold sv
 rw [aJ ⟨j,h1⟩]
 have key:=(wY a d p (s.data.toList.length+1) hp i (by
  have:=vG a d
  rw [g,az]; omega)).1
 rw [←g] at key
 have h:countB s sep=d.length:=key
 rw [h]
def bT (c:fP):ByteArray:=if c.Kind=1 then c.ir else if c.Kind=2 then rT c.B else if c.Kind=3 then rT c.B++kF++c.gT else rT c.B++qy++rT c.C
theorem zC (c:fP):cT c=rT c.Head++vM++bT c:=rfl
theorem A8:jU zS=some (zR,false):=by decide +kernel
theorem DE {c:fP} (h:jg c=true):sX c.Head (bT c)=some c:=by
 have p:(bT c).size≤200:=by
  have:=(sw h).2.2
  rw [zC] at this
  simp only [aA] at this
  omega
 have hand:({ data:=#[32,38,32] }:ByteArray)=qy:=rfl
 have o:({ data:=#[46] }:ByteArray)=kF:=rfl
 obtain ⟨i,hi⟩:=Eu (bT c) kF (by omega)
 unfold sX
 rw [hand,o]
 obtain ⟨k,u,j,b,c2,d⟩:=c
 rcases kK h with g | g | g | g
 ·obtain ⟨rfl,g1,rfl,rfl,rfl⟩:=g
  have e:bT ⟨1,u,j,zR,zR,zS⟩=j:=rfl
  replace g1:jh j=true:=g1
  simp only [e] at p hi ⊢
  obtain ⟨x,y,G⟩:=tJ j (by omega)
  rw [sy (c:=32) (tl:=[38,32]) rfl (by omega) (mf g1 (by decide)),ay,G,ay,A8,ay,hi,ay,
   yA (c:=46) (tl:=[]) rfl j.data.toList [] (mf g1 (by decide)) (by simp) (by simp [joinTail]) (by omega)]
  rfl
 ·obtain ⟨rfl,g1,rfl,rfl,rfl⟩:=g
  have e:bT ⟨2,u,zS,b,zR,zS⟩=rT b:=rfl
  replace g1:gE b=true:=g1
  simp only [e] at p hi ⊢
  have g2:=g1
  unfold gE at g2
  rw [aT] at g2
  rw [sy (c:=32) (tl:=[38,32]) rfl (by omega) (ox g1 (by decide) (by decide)),ay,pZ g1,ay,A8,ay,hi,ay,
   yA (c:=46) (tl:=[]) rfl b.fX.data.toList [b.Word.data.toList] (mf g2.1 (by decide)) (by
    intro q n; rw [aM] at n; subst n; exact mf g2.2 (by decide)) (by rw [tW]; simp [joinTail]; rfl) (by omega)]
  rfl
 ·obtain ⟨rfl,g1,g2,g3,rfl,rfl⟩:=g
  have e:bT ⟨3,u,zS,b,zR,d⟩=rT b++kF++d:=rfl
  replace g1:gE b=true:=g1
  replace g2:jh d=true:=g2
  simp only [e] at p hi ⊢
  have g4:=g1
  unfold gE at g4
  rw [aT] at g4
  have el:(rT b++kF++d).data.toList=(rT b).data.toList++(46::d.data.toList):=by rw [gU,gU,aH]; rfl
  have v:(rT b++kF++d).data.toList=(rT b++kF).data.toList++d.data.toList:=gU _ _
  have w:(32:UInt8)∉(rT b++kF++d).data.toList:=λhm=>by
   rw [el] at hm
   rcases aU.1 hm with hm | hm
   ·exact ox g1 (by decide) (by decide) hm
   ·rcases aS.1 hm with hm | hm
    ·cases hm
    ·exact mf g2 (by decide) hm
  obtain ⟨x,y,G⟩:=tJ (rT b++kF++d) (by omega)
  have I:=zc (sep:=kF) (c:=46) rfl el (by omega) (mf g2 (by decide))
  have z:nO (rT b++kF++d) 0 ((rT b).size:Int)=some (rT b):=vV (b:=kF++d) (by rw [et,gU])
  have A:nO (rT b++kF++d) (((rT b).size:Int)+1) ((rT b++kF++d).size:Int)=some d:=by
   have:=xw v
   rw [show (((rT b++kF).size:Nat):Int)=((rT b).size:Int)+1 by rw [aA]; simp [vO]] at this
   exact this
  have L:(rT b).size≤200:=by simp only [aA] at p; omega
  have J:=yA (s:=rT b++kF++d) (sep:=kF) (c:=46) (tl:=[]) rfl b.fX.data.toList [b.Word.data.toList,d.data.toList] (mf g4.1 (by decide)) (by
    intro q n
    rcases aS.1 n with n | n
    ·subst n; exact mf g4.2 (by decide)
    ·rw [aM] at n; subst n; exact mf g2 (by decide)) (by rw [el,tW]; simp [joinTail]; rfl) (by omega)
  rw [sy (c:=32) (tl:=[38,32]) rfl (by omega) w,ay,G,ay,A8,ay,I,ay,J]
  simp only [aB,aQ,ay,aF,ck,z,pZ g1]
  rw [gH (by omega) (by omega),A]
  rfl
 ·obtain ⟨rfl,g1,g2,g3,rfl,rfl⟩:=g
  have e:bT ⟨4,u,zS,b,c2,zS⟩=rT b++qy++rT c2:=rfl
  replace g1:gE b=true:=g1
  replace g2:gE c2=true:=g2
  simp only [e] at p hi ⊢
  rw [oL (c:=32) (tl:=[38,32]) (a:=rT b) (b:=rT c2) rfl (by rw [gU,gU,aH]) (by omega) (ox g1 (by decide) (by decide)),ay,pZ g1,ay,pZ g2,ay,hi]
  rfl
theorem Eb {c:fP} (h:jg c=true):qt (cT c)=some (c,true):=by
 obtain ⟨h1,_,i⟩:=sw h
 have d:({ data:=#[32,60,45,32] }:ByteArray)=vM:=rfl
 have g:=nm h
 unfold qt
 rw [d,oL (c:=32) (tl:=[60,45,32]) (a:=rT c.Head) (b:=bT c) rfl (by rw [zC,gU,gU,aH]) (by omega) (ox g (by decide) (by decide))]
 simp only [ay,pZ g,bi,aB,aQ,DE h,h1,pN]
theorem yF (all:List Signed) (k:all.length≤100000000):∀(l A:List Signed),all=A++l→∃b,mv all l A.length=some b∧(b=true→(∀x∈l,jg x.fP=true∧x.Tag.length=8)∧all.length≤8)
 | [],A,_=>⟨_,by rw [mv],λh=>⟨by simp,by have:=bW h; omega⟩⟩
 | x::l,A,e=>by
  have prev:∃v,(if (decide ((A.length:Int) > 0)) then ((im all (IntKind.i64.wrap ((A.length:Int)-1))).bind λd=>((my d.fP x.fP).bind λa=>some (decide (a≥0)))) else some false)=some v:=by
   rcases List.eq_nil_or_concat A with rfl | ⟨B,y,rfl⟩
   ·exact ⟨_,rfl⟩
   ·simp only [List.concat_eq_append] at *
    have j:B.length≤100000000:=by rw [e] at k; simp at k; omega
    have h1:((B++[y]).length:Int) > 0:=by simp
    simp only [h1,ee,bu]
    rw [gH (by simp) (by simp; omega),show ((B++[y]).length:Int)-1=(B.length:Int) by simp,e,aH]
    rw [show B++([y]++x::l)=B++y::(x::l) from rfl,mS B y (x::l) _ rfl,ay]
    obtain ⟨c,o,h⟩:=we y.fP x.fP
    rw [o]
    exact ⟨_,rfl⟩
  obtain ⟨v,q⟩:=prev
  rw [mv,na,ay]
  cases p:jg x.fP with
  | false=>exact ⟨false,by simp,λh=>by cases h⟩
  | true=>
   by_cases n:x.Tag.length=8
   ·have i:((x.Tag.length:Int) != 8)=false:=by simp [n]
    simp only [bi,aB,aQ,ay,i,q]
    cases v with
    | true=>exact ⟨false,by simp,λh=>by cases h⟩
    | false=>
     obtain ⟨b,j,hi⟩:=yF all k l (A++[x]) (by rw [e]; simp)
     rw [az] at j
     refine ⟨b,by simpa using j,λh=>⟨λy g=>?_,(hi h).2⟩⟩
     rcases aS.1 g with g | g
     ·subst g; exact ⟨p,n⟩
     ·exact (hi h).1 y g
   ·have i:((x.Tag.length:Int) != 8)=true:=by simp; omega
    exact ⟨false,by simp [i],λh=>by cases h⟩
theorem zM (f:Signed×Signed→Option Bool) (a:∀x,∃v,f x=some v):∀(l m A:List Signed),l.length=m.length→∃v,gi (A++m) f l A.length=some v
 | [],[],A,_=>⟨_,by rw [gi]⟩
 | x::l,y::m,A,h=>by
  obtain ⟨v,c⟩:=a (x,y)
  rw [gi,mS A y m _ rfl,ay,c,ay]
  obtain ⟨w,hw⟩:=zM f a l m (A++[y]) (by simpa using h)
  rw [az,aH] at hw
  cases v with
  | true=>exact ⟨w,by simpa using hw⟩
  | false=>exact ⟨_,rfl⟩
theorem CV (x:Signed×Signed):∃v,jO x.1 x.2=some v:=by
 unfold jO mV
 cases lQ x.1.fP x.2.fP <;> exact ⟨_,rfl⟩
theorem uH (a b:ie):∃v,oa a b=some v∧(v=true→a.Kind=b.Kind∧a.gY=b.gY∧a.E=b.E∧a.Name=b.Name∧a.gA=b.gA∧a.gv.length=b.gv.length):=by
 have n:∃v,gD a.gv b.gv (λ(x:(Signed×Signed))=>jO x.1 x.2)=some v∧(v=true→a.gv.length=b.gv.length):=by
  unfold gD
  by_cases h:a.gv.length=b.gv.length
  ·rw [aK (by simp [h])]
   obtain ⟨v,i⟩:=zM _ CV a.gv b.gv [] h
   exact ⟨v,i,λ_=>h⟩
  ·rw [aJ (by simp; omega)]
   exact ⟨false,rfl,λh=>by cases h⟩
 obtain ⟨v,i,j⟩:=n
 unfold oa
 rw [i,uQ]
 by_cases h1:a.Kind=b.Kind
 ·by_cases c:a.gY=b.gY
  ·by_cases d:a.E=b.E
   ·cases k:gS a.Name b.Name with
    | false=>exact ⟨false,by simp [h1,c,d],λh=>by cases h⟩
    | true=>
     by_cases g:a.gA=b.gA
     ·exact ⟨v,by simp [h1,c,d,g],λh=>⟨h1,c,d,kd.1 k,g,j h⟩⟩
     ·exact ⟨false,by simp [h1,c,d,g],λh=>by cases h⟩
   ·exact ⟨false,by simp [h1,c,d],λh=>by cases h⟩
  ·exact ⟨false,by simp [h1,c],λh=>by cases h⟩
 ·exact ⟨false,by simp [h1],λh=>by cases h⟩
def RM (m:ie):Prop :=
 (∃p n,m=⟨1,p,0,n,[],[]⟩∧jh n=true∧(p=1∨p=2))∨
 (∃w s,m=⟨2,0,0,zS,w,s⟩∧(∀r∈w,gE r=true)∧w.length≤16∧(∀x∈s,jg x.fP=true∧x.Tag.length=8)∧s.length≤8)∨
 m=⟨3,0,0,zS,[],[]⟩∨m=⟨4,0,0,zS,[],[]⟩∨(∃e,m=⟨5,0,e,zS,[],[]⟩∧1≤e∧e≤99)
theorem EB (w:List fQ):∃b,rc w=some b∧(b=true→(∀r∈w,gE r=true)∧w.length≤16):=by
 unfold rc
 by_cases h:w.length≤16
 ·obtain ⟨s,e,d⟩:=IK w (by omega)
  refine ⟨decide (s=w),by rw [aJ (by simp; omega),e,ay,uQ]; rfl,λa=>⟨λr c=>?_,h⟩⟩
  have:=bW a
  subst this
  exact ((d.2 r).1 c).2
 ·exact ⟨false,by rw [aK (by simp; omega)]; rfl,λh=>by cases h⟩
theorem Ft {α:Type} {l:List α} (h:([]:List α).length=l.length):l=[]:=cz.1 h.symm
theorem Ah (m:ie) (M:m.gv.length≤100000000):∃b,js m=some b∧(b=true→RM m):=by
 obtain ⟨k,p,e,n,w,s⟩:=m
 unfold js uh
 by_cases z:k=1
 ·subst z
  obtain ⟨v,g,c⟩:=uH ⟨1,p,0,n,[],[]⟩ ⟨1,p,e,n,w,s⟩
  simp only [bp,bu,ay,g,ng]
  cases v with
  | false=>exact ⟨false,rfl,λh=>by cases h⟩
  | true=>
   obtain ⟨_,_,he,_,hw,d⟩:=c rfl
   obtain rfl:0=e:=he
   obtain rfl:[]=w:=hw
   obtain rfl:=Ft d
   refine ⟨jh n&&(decide (p=1)||decide (p=2)),?_,λh=>.inl ⟨p,n,rfl,?_⟩⟩
   ·cases jh n
    ·rfl
    ·by_cases I:p=1
     ·simp [I]
     ·by_cases P:p=2 <;> simp [I,P]
   ·simpa using h
 ·by_cases k2:k=2
  ·subst k2
   obtain ⟨v,g,c⟩:=uH ⟨2,0,0,zS,w,s⟩ ⟨2,p,e,n,w,s⟩
   obtain ⟨a,ha,i⟩:=EB w
   obtain ⟨b,L,j⟩:=yF s M s [] rfl
   have u:tw s=some b:=L
   have q:((2:Int)==1)=false:=rfl
   simp only [q,bp,aB,aQ,bu,ay,g,ha,u]
   cases v with
   | false=>exact ⟨false,rfl,λh=>by cases h⟩
   | true=>
    obtain ⟨_,hp,he,o,_,_⟩:=c rfl
    obtain rfl:0=p:=hp
    obtain rfl:0=e:=he
    obtain rfl:zS=n:=o
    refine ⟨a&&b,by cases a <;> cases b <;> rfl,λh=>.inr (.inl ⟨w,s,rfl,?_⟩)⟩
    rw [aT] at h
    exact ⟨(i h.1).1,(i h.1).2,(j h.2).1,(j h.2).2⟩
  ·have q:(k==1)=false:=by simpa using z
   have y:(k==2)=false:=by simpa using k2
   by_cases G:k=5
   ·subst G
    obtain ⟨v,g,c⟩:=uH ⟨5,0,e,zS,[],[]⟩ ⟨5,p,e,n,w,s⟩
    simp only [q,y,bp,aB,aQ,bu,ay,g]
    cases v with
    | false=>exact ⟨false,rfl,λh=>by cases h⟩
    | true=>
     obtain ⟨_,hp,_,o,hw,d⟩:=c rfl
     obtain rfl:0=p:=hp
     obtain rfl:zS=n:=o
     obtain rfl:[]=w:=hw
     obtain rfl:=Ft d
     refine ⟨decide (1≤e∧e≤99),?_,λh=>.inr (.inr (.inr (.inr ⟨e,rfl,bW h⟩)))⟩
     by_cases x:1≤e
     ·simp [x]
     ·simp [x]
   ·have J:(k==5)=false:=by simpa using G
    obtain ⟨v,g,c⟩:=uH ⟨k,0,0,zS,[],[]⟩ ⟨k,p,e,n,w,s⟩
    simp only [q,y,J,aB,aQ,ay,g]
    cases v with
    | false=>exact ⟨false,rfl,λh=>by cases h⟩
    | true=>
     obtain ⟨_,hp,he,o,hw,d⟩:=c rfl
     obtain rfl:0=p:=hp
     obtain rfl:0=e:=he
     obtain rfl:zS=n:=o
     obtain rfl:[]=w:=hw
     obtain rfl:=Ft d
     refine ⟨decide (k=3∨k=4),?_,λh=>?_⟩
     ·by_cases A:k=3
      ·simp [A]
      ·by_cases O:k=4 <;> simp [A,O]
     ·rcases bW h with rfl | rfl
      ·exact .inr (.inr (.inl rfl))
      ·exact .inr (.inr (.inr (.inl rfl)))
theorem wq:∀(l:List UInt8) (a:Nat),(∀d∈l,48≤d.toNat∧d.toNat≤57)→decFrom a l=some (l.foldl (λa d=>10*a+(d.toNat-48)) a)
 | [],a,_=>rfl
 | d::l,a,h=>by
  have c:=h d (by simp)
  have ih:=wq l (10*a+(d.toNat-48)) (λx j=>h x (by simp [j]))
  unfold decFrom
  have i:digitVal d=some (d.toNat-48):=by
   have h1:(48:UInt8)≤d:=UInt8.le_iff_toNat_le.2 c.1
   have g:d≤(57:UInt8):=UInt8.le_iff_toNat_le.2 c.2
   unfold digitVal; simp [h1,g,c.1,c.2]
  rw [dZ,←ih]
  simp only [i,Nat.mul_comm]
theorem yJ {n:Int} (j:0≤n) (h1:n≤1000000):uu (mN n)=some n:=by
 have i:(mN n).data.toList=decDigits n.toNat:=by
  show Go.Lib.itoa n=_
  unfold Go.Lib.itoa
  rw [aK (by omega)]
 have hlen:=zG 6 n.toNat (by omega)
 obtain ⟨d1,d2,d3⟩:=IF n.toNat
 unfold uu
 rw [aJ (by rw [iY,i]; omega),i]
 cases a:decDigits n.toNat with
 | nil=>exact absurd a d3
 | cons d l=>
  have g:(d==45)=false:=by
   have:=d2 d (by rw [a]; simp)
   cases h:d==45 with
   | false=>rfl
   | true=>have:=eq_of_beq h; subst this; simp at *
  have c:(d==43)=false:=by
   have:=d2 d (by rw [a]; simp)
   cases h:d==43 with
   | false=>rfl
   | true=>have:=eq_of_beq h; subst this; simp at *
  rw [a] at d1 d2
  unfold atoi
  simp only [g,c,aB,aQ,decNat,List.isEmpty_cons]
  rw [wq (d::l) 0 d2]
  show some ((zQ (d::l):Nat):Int)=some n
  rw [d1]
  congr 1; omega
def nq (k:Nat):Nat:=if k < 10 then 48+k else 87+k
def lu (t:List Int):List Int:=t.flatMap λx=>[(nq (x.toNat / 16):Int),(nq (x.toNat % 16):Int)]
theorem GI:∀n:Nat,n < 256→pu (⟨#[48,49,50,51,52,53,54,55,56,57,97,98,99,100,101,102]⟩:ByteArray) (Int.fdiv (n:Int) (2 ^ min (Int.toNat 4) (IntKind.bits .u8)))=some (UInt8.ofNat (nq (n / 16)))∧
  pu (⟨#[48,49,50,51,52,53,54,55,56,57,97,98,99,100,101,102]⟩:ByteArray) (IntKind.u8.wrap (BitVec.ofInt (IntKind.bits .u8) (n:Int) &&& BitVec.ofInt (IntKind.bits .u8) 15).toNat)=some (UInt8.ofNat (nq (n % 16)))∧
  (UInt8.ofNat (nq (n / 16))).toNat=nq (n / 16)∧(UInt8.ofNat (nq (n % 16))).toNat=nq (n % 16):=by decide +kernel
theorem BO:∀n:Nat,n < 256→ni (⟨#[48,49,50,51,52,53,54,55,56,57,97,98,99,100,101,102]⟩:ByteArray) (nq (n / 16):Int)=(n / 16:Nat)∧
  ni (⟨#[48,49,50,51,52,53,54,55,56,57,97,98,99,100,101,102]⟩:ByteArray) (nq (n % 16):Int)=(n % 16:Nat)∧
  IntKind.u8.wrap (IntKind.i64.wrap (IntKind.i64.wrap (16*((n / 16:Nat):Int))+((n % 16:Nat):Int)))=(n:Int)∧nq (n / 16)≠32∧nq (n % 16)≠32∧nq (n / 16)≠59∧nq (n % 16)≠59∧nq (n / 16) < 256∧nq (n % 16) < 256:=by decide +kernel
theorem FD {x:Int} (h:0≤x∧x < 256):∃n:Nat,n < 256∧x=n:=⟨x.toNat,by omega,by omega⟩
theorem uP:∀t:List Int,(lu t).length=2*t.length
 | []=>rfl
 | x::t=>by
  have e:lu (x::t)=(nq (x.toNat / 16):Int)::(nq (x.toNat % 16):Int)::lu t:=rfl
  rw [e,aF,aF,aF,uP t]; omega
theorem Ev:∀(t l:List Int),B8 t→l.length+2*t.length≤100000→mw t l=some (mW (l++lu t))
 | [],l,_,_=>by
  rw [mw,BZ,show lu []=[] from rfl,bQ]
 | x::t,l,h,g=>by
  obtain ⟨n,i,rfl⟩:=FD (h x (by simp))
  obtain ⟨a,b,c,d⟩:=GI n i
  rw [mw,a,ay,b,ay,c,d,pr (by simp at g ⊢; omega),ay,Ev t _ (λy j=>h y (by simp [j])) (by simp at g ⊢; omega)]
  simp [lu]
theorem HB {t:List Int} (h:B8 t) (a:t.length≤1000):sZ t=some (mW (lu t)):=by
 have:=Ev t [] h (by simp; omega)
 exact this
theorem H7 (a:Int) (l:List Int):pu (mW (a::l)) 0=some (UInt8.ofNat a.toNat):=zd (l:=pB l) rfl
theorem HZ (a b:Int) (l:List Int):pu (mW (a::b::l)) 1=some (UInt8.ofNat b.toNat):=by
 unfold pu
 rw [aJ (by decide)]
 have c:(mW (a::b::l)).data[1]? =some (UInt8.ofNat b.toNat):=by rw [←ez]; rfl
 show (mW (a::b::l))[1]? =_
 rw [←c]
 rfl
theorem Ai:∀(t:List Int) (n:Nat) (l:List Int),B8 t→t.length < n→l.length+t.length≤1000→kw n (mW (lu t)) l=some (l++t)
 | t,0,l,_,g,_=>by omega
 | [],n+1,l,_,_,_=>by
  have e:(mW (lu [])).size=0:=rfl
  rw [kw,e]
  simp
 | x::t,n+1,l,h,g,d=>by
  obtain ⟨k,hk,rfl⟩:=FD (h x (by simp))
  obtain ⟨a,b,c,d1,d2,d3,d4,d5,d6⟩:=BO k hk
  have e:lu ((k:Int)::t)=(nq (k / 16):Int)::(nq (k % 16):Int)::lu t:=rfl
  have o:(mW (lu ((k:Int)::t))).size=2*t.length+2:=by rw [uR,uP,aF]; omega
  have i:nO (mW (lu ((k:Int)::t))) 2 ((mW (lu ((k:Int)::t))).size:Int)=some (mW (lu t)):=by
   have:=xw (s:=mW (lu ((k:Int)::t))) (a:=mW [(nq (k / 16):Int),(nq (k % 16):Int)]) (b:=mW (lu t)) (by rw [e,qQ,qQ,qQ,←DB]; rfl)
   rw [uR] at this
   exact this
  have u:((UInt8.ofNat (Int.toNat (nq (k / 16):Int))).toNat:Int)=(nq (k / 16):Int):=by rw [bM,ed]; congr 1; omega
  have v:((UInt8.ofNat (Int.toNat (nq (k % 16):Int))).toNat:Int)=(nq (k % 16):Int):=by rw [bM,ed]; congr 1; omega
  rw [kw,i,aJ (by rw [o]; simp; omega),e,H7,ay,HZ,ay,u,v]
  simp only [ji,iS,ay,a,b,c]
  have p:decide (((k / 16:Nat):Int) < 0)=false:=by simp; omega
  have q:decide (((k % 16:Nat):Int) < 0)=false:=by simp; omega
  simp only [p,q,aB,aQ,ay]
  rw [pr (by simp at d ⊢; omega),ay,Ai t n _ (λy j=>h y (by simp [j])) (by simp at g; omega) (by simp at d ⊢; omega)]
  simp
theorem E9 {t:List Int} (h:B8 t) (a:t.length≤1000):rD (mW (lu t))=some t:=by
 have:=Ai t iq [] h (by rw [pe]; omega) (by simp; omega)
 exact this
theorem FP {t:List Int} (h:B8 t) {c:UInt8} (d:c=32∨c=59):c∉(mW (lu t)).data.toList:=by
 rw [qQ]
 induction t with
 | nil=>simp [lu,pB]
 | cons x t ih=>
  obtain ⟨k,hk,rfl⟩:=FD (h x (by simp))
  obtain ⟨a,b,i,d1,d2,d3,d4,d5,d6⟩:=BO k hk
  have e:pB (lu ((k:Int)::t))=UInt8.ofNat (nq (k / 16))::UInt8.ofNat (nq (k % 16))::pB (lu t):=rfl
  have q:∀m:Nat,m < 256→m≠32→m≠59→c≠UInt8.ofNat m:=λm h1 j n he=>by
   have:=aC UInt8.toNat he
   rw [ed] at this
   rcases d with rfl | rfl
   ·have:(32:Nat)=m % 2 ^ 8:=this
    omega
   ·have:(59:Nat)=m % 2 ^ 8:=this
    omega
  rw [e]
  intro hm
  rcases aS.1 hm with hm | hm
  ·exact q _ d5 d1 d3 hm
  ·rcases aS.1 hm with hm | hm
   ·exact q _ d6 d2 d4 hm
   ·exact ih (λy g=>h y (by simp [g])) hm
def rn:ByteArray:=⟨#[32,115,104,111,119,115,32]⟩
def vd:ByteArray:=⟨#[44,32]⟩
def wv:ByteArray:=⟨#[59,32]⟩
def Ht:ByteArray:=⟨#[110,111,110,101]⟩
def tY:ByteArray:=⟨#[119,97,110,116,115,32]⟩
def F1:ByteArray:=⟨#[116,117,114,110,32,119,97,110,116,115,32]⟩
def FU:ByteArray:=⟨#[116,117,114,110]⟩
def sT (s:Signed):ByteArray:=cT s.fP++oq++mW (lu s.Tag)
def mL (l:List ByteArray) (sep:ByteArray):ByteArray:=match l with
 | []=>Ht
 | x::r=>qW (x::r) sep
def rh (s:Signed):Prop:=jg s.fP=true∧s.Tag.length=8∧B8 s.Tag
theorem yu {s:Signed} (h:rh s):(sT s).size≤217:=by
 have:=(sw h.1).2.2
 have e:oq.size=1:=rfl
 unfold sT
 rw [aA,aA,uR,uP,h.2.1]; omega
theorem BE:∀(l:List Signed) (acc:List ByteArray),(∀x∈l,rh x)→acc.length+l.length≤100→lL l acc=some (acc++l.map sT)
 | [],acc,_,_=>by rw [lL]; simp
 | x::l,acc,h,d=>by
  have c:=h x (by simp)
  obtain ⟨a,_,b⟩:=sw c.1
  have e:({ data:=#[32] }:ByteArray)=oq:=rfl
  have i:oq.size=1:=rfl
  rw [lL,a,ay,e,iQ (by omega),ay,HB c.2.2 (by rw [c.2.1]; omega),ay,iQ (by rw [aA,uR,uP,c.2.1]; omega),ay,
   qa (by simp at d ⊢; omega) (by simp at d ⊢; omega),ay,BE l _ (λy g=>h y (by simp [g])) (by simp at d ⊢; omega)]
  simp [sT]
theorem BG (m:ie):∀(l:List fQ) (acc:List ByteArray),(∀x∈l,gE x=true)→acc.length+l.length≤100→kO m l acc=kO m [] (acc++l.map rT)
 | [],acc,_,_=>by simp
 | x::l,acc,h,a=>by
  conv=>lhs; rw [kO]
  rw [(nW (h x (by simp))).1,ay,qa (by simp at a ⊢; omega) (by simp at a ⊢; omega),ay,BG m l _ (λy c=>h y (by simp [c])) (by simp at a ⊢; omega)]
  simp
theorem yH (K:Nat) {sep:List UInt8} (a:sep.length=2):∀l:List ByteArray,(∀x∈l,x.size≤K)→(joinTail sep (l.map (·.data.toList))).length≤(K+2)*l.length
 | [],_=>by simp [joinTail]
 | x::l,h=>by
  have ih:=yH K a l (λy d=>h y (by simp [d]))
  have c:=h x (by simp)
  rw [iY] at c
  have e:joinTail sep ((x::l).map (·.data.toList))=sep++x.data.toList++joinTail sep (l.map (·.data.toList)):=by simp [joinTail]
  rw [e,az,az,aF,fK]; omega
theorem wZ (K:Nat) (d:4≤K) {sep:ByteArray} (a:sep.size=2) (l:List ByteArray) (h:∀x∈l,x.size≤K):(mL l sep).size≤(K+2)*(l.length+1):=by
 cases l with
 | nil=>show (4:Nat)≤_; simp; omega
 | cons x l=>
  have g:=yH K (sep:=sep.data.toList) (by rw [←iY,a]) l (λy c=>h y (by simp [c]))
  have i:=h x (by simp)
  unfold mL
  rw [iY,rN,az,←iY,aF]
  rw [fK,fK]; omega
theorem yQ (K:Nat) (a:4≤K) (c:K≤1000) {sep:ByteArray} (d:sep.size=2) (l:List ByteArray) (h:∀x∈l,x.size≤K) (g:l.length≤100):nM l sep=some (mL l sep):=by
 unfold nM
 cases l with
 | nil=>rfl
 | cons x l=>
  have i:=wZ K a d (x::l) h
  have:(K+2)*((x::l).length+1)≤1002*101:=Nat.mul_le_mul (by omega) (by omega)
  rw [aK (by simp; omega)]
  unfold xh
  rw [aJ ⟨by show (mL (x::l) sep).size≤_; omega,by omega⟩]
  rfl
def sG (w:List fQ) (s:List Signed):ByteArray:=F1++mL (w.map rT) vd++rn++mL (s.map sT) wv
theorem yo {w:List fQ} (h:∀r∈w,gE r=true) (d:w.length≤16):(mL (w.map rT) vd).size≤595:=by
 have:=wZ 33 (by omega) (sep:=vd) rfl (w.map rT) (λx c=>by obtain ⟨r,a,rfl⟩:=bt.1 c; exact (nW (h r a)).2.2)
 rw [cZ] at this
 omega
theorem xQ {s:List Signed} (h:∀x∈s,rh x) (d:s.length≤8):(mL (s.map sT) wv).size≤1971:=by
 have:=wZ 217 (by omega) (sep:=wv) rfl (s.map sT) (λx c=>by obtain ⟨r,a,rfl⟩:=bt.1 c; exact yu (h r a))
 rw [cZ] at this
 omega
theorem E3 {w:List fQ} {s:List Signed} (hw:∀r∈w,gE r=true) (g:w.length≤16) (c:∀x∈s,rh x) (d:s.length≤8):qz ⟨2,0,0,zS,w,s⟩=some (sG w s):=by
 have q:=yo hw g
 have z2:=xQ c d
 have i:({ data:=#[44,32] }:ByteArray)=vd:=rfl
 have j:({ data:=#[59,32] }:ByteArray)=wv:=rfl
 have k:({ data:=#[32,115,104,111,119,115,32] }:ByteArray)=rn:=rfl
 have n:({ data:=#[116,117,114,110,32,119,97,110,116,115,32] }:ByteArray)=F1:=rfl
 have o:rn.size=7:=rfl
 have p:F1.size=11:=rfl
 unfold qz
 rw [BG _ _ _ hw (by simp; omega),kO,BE _ _ c (by simp; omega),i,j,k,n]
 simp only [ay,bD]
 rw [yQ 33 (by omega) (by omega) (sep:=vd) rfl (w.map rT) (λx h=>by obtain ⟨r,a,rfl⟩:=bt.1 h; exact (nW (hw r a)).2.2) (by rw [cZ]; omega),ay,
  iQ (by omega),ay,iQ (by rw [aA]; omega),ay,
  yQ 217 (by omega) (by omega) (sep:=wv) rfl (s.map sT) (λx h=>by obtain ⟨r,a,rfl⟩:=bt.1 h; exact yu (c r a)) (by rw [cZ]; omega),ay,
  iQ (by simp only [aA]; omega)]
 rfl
theorem AX {sep:ByteArray} {c:UInt8} {tl:List UInt8} (d:sep.data.toList=c::tl) (l:List ByteArray) (h:∀p∈l,c∉p.data.toList∧(46:UInt8)∈p.data.toList) (n:(mL l sep).size < 4294967281):lT (mL l sep) sep=some l:=by
 unfold lT
 cases l with
 | nil=>
  have i:gS (mL [] sep) ⟨#[110,111,110,101]⟩=true:=pN Ht
  rw [i]; rfl
 | cons x l=>
  have g:gS (mL (x::l) sep) ⟨#[110,111,110,101]⟩=false:=by
   cases j:gS (mL (x::l) sep) ⟨#[110,111,110,101]⟩ with
   | false=>rfl
   | true=>
    have e:=kd.1 j
    have a:(46:UInt8)∈(mL (x::l) sep).data.toList:=by
     unfold mL
     rw [rN]
     exact bw _ (h x (by simp)).2
    rw [e] at a
    exact absurd a (by decide)
  have k:se (mL (x::l) sep) sep=some (x::l):=EH d x l (λp hp=>(h p hp).1) n
  rw [g,k]
  rfl
theorem Ee (C:List UInt8):∀(a:List (List UInt8)) (p:List UInt8),(32:UInt8)∉p→(∀q∈a,(32:UInt8)∉q∧(46:UInt8)∈q)→
  ∀j,j < (p++joinTail [44,32] a).length→occAt ((p++joinTail [44,32] a)++([32,115,104,111,119,115,32]++C)) [32,115,104,111,119,115,32] j=false
 | [],p,hp,_,j,g=>by
  have e:p++joinTail [44,32] []=p:=by simp [joinTail]
  rw [e] at g ⊢
  exact tR rfl hp j g
 | q::a,p,hp,v,j,g=>by
  have d:=v q (by simp)
  have e:(p++joinTail [44,32] (q::a))++([32,115,104,111,119,115,32]++C)=p++([44,32]++((q++joinTail [44,32] a)++([32,115,104,111,119,115,32]++C))):=by simp [joinTail]
  have el:(p++joinTail [44,32] (q::a)).length=p.length+2+(q++joinTail [44,32] a).length:=by simp [joinTail]; omega
  rw [el] at g
  rw [e]
  by_cases h1:j < p.length
  ·exact tR rfl hp j h1
  ·obtain ⟨i,rfl⟩:∃i,j=p.length+i:=⟨j-p.length,by omega⟩
   match i,g with
   | 0,_=>
    cases n:occAt (p++([44,32]++((q++joinTail [44,32] a)++([32,115,104,111,119,115,32]++C)))) [32,115,104,111,119,115,32] (p.length+0) with
    | false=>rfl
    | true=>
     have:=occAt_head rfl n
     rw [cA (by omega)] at this
     simp at this
   | 1,_=>
    cases n:occAt (p++([44,32]++((q++joinTail [44,32] a)++([32,115,104,111,119,115,32]++C)))) [32,115,104,111,119,115,32] (p.length+1) with
    | false=>rfl
    | true=>
     unfold occAt at n
     rw [dK] at n
     have c:=List.isPrefixOf_iff_prefix.1 n
     have c:[32,115,104,111,119,115,32] <+: 32::(q++(joinTail [44,32] a++([32,115,104,111,119,115,32]++C))):=by simpa using c
     obtain ⟨Z,o⟩:=c
     have o:[115,104,111,119,115,32]++Z=q++(joinTail [44,32] a++([32,115,104,111,119,115,32]++C)):=(List.cons.inj o).2
     have x:¬5 < q.length:=λh=>by
      have:=aC (λl:List UInt8=>l[5]?) o
      simp only [cH h] at this
      exact d.1 (dq (i:=5) (by rw [←this]; rfl))
     obtain ⟨k,hk,s⟩:=List.getElem_of_mem d.2
     have:=aC (λl:List UInt8=>l[k]?) o
     simp only [cH hk,bN hk,s] at this
     have u:k < 5:=by omega
     match k,u with
     | 0,_=>simp at this
     | 1,_=>simp at this
     | 2,_=>simp at this
     | 3,_=>simp at this
     | 4,_=>simp at this
   | i+2,g=>
    have:=Ee C a q d.1 (λz w=>v z (by simp [w])) i (by omega)
    unfold occAt at this ⊢
    rw [dK]
    exact this
theorem Dh (r:fQ):(46:UInt8)∈(rT r).data.toList:=by rw [tW]; simp
theorem vX (s:Signed):(sT s).data.toList=(cT s.fP).data.toList++(32::(mW (lu s.Tag)).data.toList):=by
 unfold sT; rw [gU,gU,aH]; rfl
theorem I0 (s:Signed):(46:UInt8)∈(sT s).data.toList:=by
 rw [vX,zC,gU,gU]
 exact bw _ (bw _ (bw _ (Dh _)))
theorem GV {c:fP} (h:jg c=true):(59:UInt8)∉(cT c).data.toList:=by
 rw [zC,gU,gU]
 have d:(59:UInt8)∉(rT c.Head).data.toList:=ox (nm h) (by decide) (by decide)
 have ha:(59:UInt8)∉vM.data.toList:=by decide
 have j:(59:UInt8)∉kF.data.toList:=by decide
 have k:(59:UInt8)∉qy.data.toList:=by decide
 have i:(59:UInt8)∉(bT c).data.toList:=by
  unfold bT
  rcases kK h with g | g | g | g
  ·rw [aJ g.1]; exact mf g.2.1 (by decide)
  ·rw [aK (by rw [g.1]; decide),aJ g.1]; exact ox g.2.1 (by decide) (by decide)
  ·rw [aK (by rw [g.1]; decide),aK (by rw [g.1]; decide),aJ g.1,gU,gU]
   have a:=ox (x:=59) g.2.1 (by decide) (by decide)
   have b:=mf (x:=59) g.2.2.1 (by decide)
   simp only [aU,not_or]
   exact ⟨⟨a,j⟩,b⟩
  ·rw [aK (by rw [g.1]; decide),aK (by rw [g.1]; decide),aK (by rw [g.1]; decide),gU,gU]
   have a:=ox (x:=59) g.2.1 (by decide) (by decide)
   have b:=ox (x:=59) g.2.2.1 (by decide) (by decide)
   simp only [aU,not_or]
   exact ⟨⟨a,k⟩,b⟩
 simp only [aU,not_or]
 exact ⟨⟨d,ha⟩,i⟩
theorem yP:∀(l:List Signed) (acc:List Signed),(∀x∈l,rh x)→acc.length+l.length≤100→kT (l.map sT) acc=some (acc++l)
 | [],acc,_,_=>by rw [List.map_nil,kT]; simp
 | x::l,acc,h,g=>by
  have d:=h x (by simp)
  have o:=yu d
  have e:({ data:=#[32] }:ByteArray)=oq:=rfl
  have n:=(sw d.1).2.2
  have h1:re (sT x) oq=some ((cT x.fP).size:Int):=zc (c:=32) rfl (vX x) (by omega) (FP d.2.2 (.inl rfl))
  have i:nO (sT x) 0 ((cT x.fP).size:Int)=some (cT x.fP):=vV (b:=oq++mW (lu x.Tag)) (by rw [vX,gU]; rfl)
  have j:nO (sT x) (((cT x.fP).size:Int)+1) ((sT x).size:Int)=some (mW (lu x.Tag)):=by
   have:=xw (s:=sT x) (a:=cT x.fP++oq) (b:=mW (lu x.Tag)) (gU _ _)
   rw [show (((cT x.fP++oq).size:Nat):Int)=((cT x.fP).size:Int)+1 by rw [aA]; rfl] at this
   exact this
  rw [aY,kT,e,h1,ay,aK (by omega),i,ay,Eb d.1,ay,gH (by omega) (by omega),j,ay,E9 d.2.2 (by rw [d.2.1]; omega),ay,
   qa (by simp at g ⊢; omega) (by simp at g ⊢; omega),ay,yP l _ (λy k=>h y (by simp [k])) (by simp at g ⊢; omega)]
  simp
theorem yY (c:ByteArray×ByteArray×Bool):∀(l:List fQ) (acc:List fQ),(∀x∈l,gE x=true)→acc.length+l.length≤100→ke c (l.map rT) acc=ke c [] (acc++l)
 | [],acc,_,_=>by simp
 | x::l,acc,h,a=>by
  rw [aY]
  conv=>lhs; rw [ke]
  rw [pZ (h x (by simp)),ay,qa (by simp at a ⊢; omega) (by simp at a ⊢; omega),ay,yY c l _ (λy d=>h y (by simp [d])) (by simp at a ⊢; omega)]
  simp
theorem D6 {w:List fQ} {s:List Signed} (hw:∀r∈w,gE r=true) (n:w.length≤16) (h:∀x∈s,rh x) (k:s.length≤8) :
  ph (tY++(mL (w.map rT) vd++(rn++mL (s.map sT) wv)))=some ⟨2,0,0,zS,w,s⟩:=by
 have P:=yo hw n
 have z2:=xQ h k
 have u:({ data:=#[44,32] }:ByteArray)=vd:=rfl
 have v:({ data:=#[59,32] }:ByteArray)=wv:=rfl
 have y:({ data:=#[32,115,104,111,119,115,32] }:ByteArray)=rn:=rfl
 have z:({ data:=#[119,97,110,116,115,32] }:ByteArray)=tY:=rfl
 have M:rn.size=7:=rfl
 have O:tY.size=6:=rfl
 generalize i:mL (w.map rT) vd=W at *
 generalize A:mL (s.map sT) wv=C at *
 have I:mg (tY++(W++(rn++C))) tY=some (W++(rn++C)):=by
  have a:=vV (s:=tY++(W++(rn++C))) (a:=tY) (b:=W++(rn++C)) (gU _ _)
  have b:=xw (s:=tY++(W++(rn++C))) (a:=tY) (b:=W++(rn++C)) (gU _ _)
  have j:((tY++(W++(rn++C))).size:Int)≥(tY.size:Int):=by rw [aA]; omega
  unfold mg kp iT
  rw [a,b]
  simp only [j,ee,bu,ay,pN]
 have g:mm (W++(rn++C)) rn=some (W,C,true):=by
  refine Cf (by rw [gU,gU]) (by simp only [aA]; omega) ?_
  rw [gU,gU]
  cases w with
  | nil=>
   subst i
   exact tR (c:=32) (tl:=[115,104,111,119,115,32]) rfl (show (32:UInt8)∉Ht.data.toList by decide)
  | cons r w=>
   subst i
   have G:(mL (List.map rT (r::w)) vd).data.toList=(rT r).data.toList++joinTail [44,32] ((w.map rT).map (·.data.toList)):=rN (rT r) (w.map rT) vd
   rw [G]
   refine Ee C.data.toList _ _ (ox (hw r (by simp)) (by decide) (by decide)) (λq o=>?_)
   rw [eU] at o
   obtain ⟨x,d,rfl⟩:=bt.1 o
   exact ⟨ox (hw x (by simp [d])) (by decide) (by decide),Dh x⟩
 have J:lT W vd=some (w.map rT):=by
  subst i
  exact AX (c:=44) (tl:=[32]) rfl _ (λp hp=>by
   obtain ⟨x,d,rfl⟩:=bt.1 hp
   exact ⟨ox (hw x d) (by decide) (by decide),Dh x⟩) (by omega)
 have L:lT C wv=some (s.map sT):=by
  subst A
  exact AX (c:=59) (tl:=[32]) rfl _ (λp hp=>by
   obtain ⟨x,d,rfl⟩:=bt.1 hp
   refine ⟨?_,I0 x⟩
   rw [vX]
   intro hm
   rcases aU.1 hm with hm | hm
   ·exact GV (h x d).1 hm
   ·rcases aS.1 hm with hm | hm
    ·cases hm
    ·exact FP (h x d).2.2 (.inr rfl) hm) (by omega)
 unfold ph
 rw [u,y,z,I,ay,g,ay,J,ay,yY _ _ _ hw (by simp; omega),ke,v,L,ay,yP _ _ h (by simp; omega)]
 rfl
def xE:ByteArray:=⟨#[104,101,108,108,111,32]⟩
def Ho:ByteArray:=⟨#[104,101,108,108,111]⟩
def Ck:ByteArray:=⟨#[101,97,103,101,114]⟩
def BX:ByteArray:=⟨#[116,104,114,105,102,116,121]⟩
def D8:ByteArray:=⟨#[103,114,97,110,116]⟩
def BF:ByteArray:=⟨#[102,97,105,108]⟩
def DG:ByteArray:=⟨#[97,98,111,114,116,32]⟩
def DX:ByteArray:=⟨#[97,98,111,114,116]⟩
def As (m:ie) (t:ByteArray):Prop:=jV m=some t∧gS t zS=false∧t.size≤3000∧ku t=some m
theorem yU (n p:ByteArray) (h:n.size≤16) (a:(32:UInt8)∉n.data.toList) (hp:p.size≤7) (k:Int) (hi:nB [zS,Ck,BX] p=some k) :
  ku (xE++n++oq++p)=some ⟨1,k,0,n,[],[]⟩:=by
 have e:({ data:=#[32] }:ByteArray)=oq:=rfl
 have s1:xE.size=6:=rfl
 have s2:oq.size=1:=rfl
 have c1:mm (xE++n++oq++p) oq=some (Ho,n++oq++p,true) :=
  oL (c:=32) (tl:=[]) rfl (by simp only [gU,aH]; rfl) (by simp only [aA]; omega) (by decide)
 have c2:mm (n++oq++p) oq=some (n,p,true) :=
  oL (c:=32) (tl:=[]) rfl (by simp only [gU,aH]) (by simp only [aA]; omega) a
 have d:gS Ho ⟨#[104,101,108,108,111]⟩=true:=pN Ho
 have g:oh=some [zS,Ck,BX]:=rfl
 unfold ku
 rw [e,c1,ay,d,aJ rfl,c2,ay,g,ay,hi,ay]
theorem FJ {m:ie} (g:js m=some true) (h:RM m) (U:∀x∈m.gv,B8 x.Tag):∃t,As m t:=by
 have s1:xE.size=6:=rfl
 have s2:oq.size=1:=rfl
 have a:({ data:=#[32] }:ByteArray)=oq:=rfl
 rcases h with ⟨p,n,rfl,M,hp⟩ | ⟨w,s,rfl,hw,v,Q,u⟩ | rfl | rfl | ⟨e,rfl,W,Y⟩
 ·have I:=iZ M
  have T:({ data:=#[104,101,108,108,111,32] }:ByteArray)=xE:=rfl
  have p1:oh=some [zS,Ck,BX]:=rfl
  have d:∀(k:Int) (b:ByteArray),b.size≤7→im [zS,Ck,BX] k=some b→js ⟨1,k,0,n,[],[]⟩=some true→jV ⟨1,k,0,n,[],[]⟩=some (xE++n++oq++b):=λk b o hi g=>by
   unfold jV
   rw [g,ay,T,a]
   simp only [bi,aB,aQ,bp,bu]
   rw [iQ (by omega),ay,iQ (by rw [aA]; omega),ay,p1,ay,hi,ay,iQ (by simp only [aA]; omega)]
   rfl
  have G:∀b:ByteArray,gS (xE++n++oq++b) zS=false:=λb=>by
   cases o:gS (xE++n++oq++b) zS with
   | false=>rfl
   | true=>
    have:=aC ByteArray.size (kd.1 o)
    simp only [aA] at this
    have z:zS.size=0:=rfl
    omega
  have J:∀b:ByteArray,b.size≤7→(xE++n++oq++b).size≤3000:=λb o=>by simp only [aA]; omega
  rcases hp with rfl | rfl
  ·exact ⟨_,d 1 Ck (by decide) rfl g,G _,J _ (by decide),yU n Ck I.2 (mf M (by decide)) (by decide) 1 (by decide +kernel)⟩
  ·exact ⟨_,d 2 BX (by decide) rfl g,G _,J _ (by decide),yU n BX I.2 (mf M (by decide)) (by decide) 2 (by decide +kernel)⟩
 ·have q:∀x∈s,rh x:=λx O=>⟨(Q x O).1,(Q x O).2,U x O⟩
  have z1:=yo hw v
  have z2:=xQ q u
  have q1:F1.size=11:=rfl
  have q2:rn.size=7:=rfl
  have q3:tY.size=6:=rfl
  have I:(sG w s).size≤3000:=by unfold sG; simp only [aA]; omega
  refine ⟨sG w s,?_,?_,I,?_⟩
  ·unfold jV
   rw [g,ay]
   have P:((2:Int)==1)=false:=rfl
   simp only [bi,aB,aQ,P,bp,bu]
   rw [E3 hw v q u]
   rfl
  ·cases o:gS (sG w s) zS with
   | false=>rfl
   | true=>
    have:=aC ByteArray.size (kd.1 o)
    unfold sG at this
    simp only [aA] at this
    have z:zS.size=0:=rfl
    omega
  ·have c1:mm (sG w s) oq=some (FU,tY++(mL (w.map rT) vd++(rn++mL (s.map sT) wv)),true) :=
    oL (c:=32) (tl:=[]) rfl (by unfold sG; simp only [gU,aH]; rfl) (by omega) (by decide)
   have i:gS FU ⟨#[104,101,108,108,111]⟩=false:=by decide +kernel
   have j:gS FU ⟨#[116,117,114,110]⟩=true:=pN FU
   unfold ku
   rw [a,c1,ay,i,aK (by decide),j,aJ rfl,D6 hw v q u]
   rfl
 ·refine ⟨D8,?_,by decide +kernel,by decide,?_⟩
  ·unfold jV
   rw [g]; rfl
  ·have i:gS D8 ⟨#[104,101,108,108,111]⟩=false:=by decide +kernel
   have j:gS D8 ⟨#[116,117,114,110]⟩=false:=by decide +kernel
   have y:gS D8 ⟨#[103,114,97,110,116]⟩=true:=pN D8
   unfold ku
   rw [a,sy (c:=32) (tl:=[]) rfl (by decide) (by decide),ay,i,aK (by decide),j,aK (by decide),y,aJ rfl]
 ·refine ⟨BF,?_,by decide +kernel,by decide,?_⟩
  ·unfold jV
   rw [g]; rfl
  ·have i:gS BF ⟨#[104,101,108,108,111]⟩=false:=by decide +kernel
   have j:gS BF ⟨#[116,117,114,110]⟩=false:=by decide +kernel
   have y:gS BF ⟨#[103,114,97,110,116]⟩=false:=by decide +kernel
   have L:gS BF ⟨#[102,97,105,108]⟩=true:=pN BF
   unfold ku
   rw [a,sy (c:=32) (tl:=[]) rfl (by decide) (by decide),ay,i,aK (by decide),j,aK (by decide),y,aK (by decide),L,aJ rfl]
 ·have A:wJ e:=⟨by omega,by omega⟩
  have I:=uw A
  have R:({ data:=#[97,98,111,114,116,32] }:ByteArray)=DG:=rfl
  have s3:DG.size=6:=rfl
  refine ⟨DG++mN e,?_,?_,by rw [aA]; omega,?_⟩
  ·unfold jV
   have P:((5:Int)==1)=false:=rfl
   have k2:((5:Int)==2)=false:=rfl
   have Z:((5:Int)==3)=false:=rfl
   have k4:((5:Int)==4)=false:=rfl
   rw [g,ay]
   simp only [bi,aB,aQ,P,k2,Z,k4]
   rw [B0 A,ay,R,iQ (by omega)]
   rfl
  ·cases o:gS (DG++mN e) zS with
   | false=>rfl
   | true=>
    have:=aC ByteArray.size (kd.1 o)
    simp only [aA] at this
    have z:zS.size=0:=rfl
    omega
  ·have c1:mm (DG++mN e) oq=some (DX,mN e,true) :=
    oL (c:=32) (tl:=[]) rfl (by simp only [gU]; rfl) (by rw [aA]; omega) (by decide)
   have i:gS DX ⟨#[104,101,108,108,111]⟩=false:=by decide +kernel
   have j:gS DX ⟨#[116,117,114,110]⟩=false:=by decide +kernel
   have y:gS DX ⟨#[103,114,97,110,116]⟩=false:=by decide +kernel
   have L:gS DX ⟨#[102,97,105,108]⟩=false:=by decide +kernel
   unfold ku
   rw [a,c1,ay,i,aK (by decide),j,aK (by decide),y,aK (by decide),L,aK (by decide),yJ (by omega) (by omega)]
   rfl
theorem xB {m:ie} {t:ByteArray} (h:As m t):lX t=some (m,true):=by
 obtain ⟨h1,a,_,c⟩:=h
 unfold lX
 rw [c,ay,a,aK (by decide),h1,ay,pN]
 rfl
def oQ (n:Int):List Int:=if n < 128 then [n] else if n < 16384 then [n % 128+128,n / 128] else [n % 128+128,n / 128 % 128+128,n / 16384]
theorem uI (n:Int):(oQ n).length≤3:=by
 unfold oQ
 split
 ·simp
 split <;> simp
theorem FR {n:Int} (c:0≤n) (h1:n < 2097152):B8 (oQ n):=by
 intro x a
 unfold oQ at a
 split at a
 ·simp at a; omega
 split at a
 ·simp at a; omega
 ·simp at a; omega
theorem Jl:∀k:Nat,k < 256→IntKind.u8.wrap (BitVec.ofInt (IntKind.bits .u8) (k:Int) ||| BitVec.ofInt (IntKind.bits .u8) 128).toNat=(k:Int) % 128+128:=by decide +kernel
theorem Hd {n:Int} (h:0≤n):IntKind.u8.wrap (BitVec.ofInt (IntKind.bits .u8) (IntKind.u8.wrap n) ||| BitVec.ofInt (IntKind.bits .u8) 128).toNat=n % 128+128:=by
 rw [show IntKind.u8.wrap n=n % 256 from IntKind.wrap_u8 n]
 have:=Jl (n % 256).toNat (by omega)
 rw [show (((n % 256).toNat:Nat):Int)=n % 256 by omega] at this
 rw [this]; omega
theorem ID (n:Int):Int.fdiv n (2 ^ min (Int.toNat 7) (IntKind.bits .i64))=n / 128:=by
 have e:(2:Int) ^ min (Int.toNat 7) (IntKind.bits .i64)=128:=by decide
 rw [e,Int.fdiv_eq_ediv_of_nonneg _ (by decide)]
theorem Aq {l:List Int} {n:Int} (c:0≤n) (h1:n < 2097152) (i:l.length≤90000):gI l n=some (true,l++oQ n):=by
 unfold oQ
 by_cases h:n < 128
 ·rw [aJ h]; exact kC c h (by omega)
 rw [aK h]
 unfold gI
 have g:∀x:Int,0≤x→x < 256→IntKind.u8.wrap x=x:=λx a b=>IntWalk.u8_in _ (by omega)
 rw [aK (by simp; omega),show iq=18446744073709551613+1+1+1 by rw [pe],iO,aJ (by simp; omega),Hd c,pr (by simp; omega),ay,ID,iO]
 by_cases d:n < 16384
 ·rw [aJ d,aK (by simp; omega),g _ (by omega) (by omega),pr (by simp; omega)]
  simp
 ·rw [aK d,aJ (by simp; omega),Hd (by omega),pr (by simp; omega),ay,ID,iO,aK (by simp; omega),g _ (by omega) (by omega),pr (by simp; omega)]
  have e:n / 128 / 128=n / 16384:=by omega
  rw [e]
  simp
theorem yz (a:Int) (i:Nat) (n c:Int) (l:List Int) (hi:i≠9) (d:128≤c):lV a i n (c::l)=lV a (i+1) (n+c % 128*128 ^ i) l:=by
 conv=>lhs; unfold lV
 rw [aK hi,aK (by omega),aK (by omega)]
theorem Ce (a:Int) (i:Nat) (n c:Int) (l:List Int) (hi:i≠9) (g:1≤c) (d:c < 128) (hm:n+c % 128*128 ^ i≤a):lV a i n (c::l)= .inr (n+c % 128*128 ^ i,l):=by
 conv=>lhs; unfold lV
 rw [aK hi,aK (by omega),aJ d,aK (by omega)]
theorem Ej (a n:Int) (l:List Int) (j:0≤n) (h1:n < 2097152) (hm:n≤a):lV a 0 0 (oQ n++l)= .inr (n,l):=by
 unfold oQ
 by_cases h:n < 128
 ·rw [aJ h]; exact lW a n l j h hm
 rw [aK h]
 have c:(128:Int) ^ 0=1:=rfl
 have d:(128:Int) ^ (0+1)=128:=rfl
 have i:(128:Int) ^ (0+1+1)=16384:=rfl
 by_cases g:n < 16384
 ·rw [aJ g,bA,bA,bD,yz _ _ _ _ _ (by decide) (by omega),Ce _ _ _ _ _ (by decide) (by omega) (by omega) (by rw [c,d]; omega),c,d]
  congr 2; omega
 ·rw [aK g,bA,bA,bA,bD,yz _ _ _ _ _ (by decide) (by omega),yz _ _ _ _ _ (by decide) (by omega),Ce _ _ _ _ _ (by decide) (by omega) (by omega) (by rw [c,d,i]; omega),c,d,i]
  congr 2; omega
def mh (b:List Int):List Int:=oQ (b.length:Int)++b
theorem D7 {b:List Int} (h:B8 b) (a:b.length≤2048):B8 (mh b):=(FR (by omega) (by omega)).FV h
theorem yR (b:List Int):(mh b).length≤b.length+3:=by
 unfold mh; rw [az]; have:=uI (b.length:Int); omega
theorem BK {l b:List Int} (a:b.length≤2048) (c:l.length≤80000):jk l b=some (true,l++mh b):=by
 unfold jk
 have:=uI (b.length:Int)
 rw [aK (by simp; omega),Aq (by omega) (by omega) (by omega),ay,pr (by rw [az]; omega)]
 simp [mh]
theorem BL (a:Int) (b l:List Int) (c:b.length≤2048) (hm:(b.length:Int)≤a):qE a (mh b++l)= .inr (b,l):=by
 unfold qE mh
 rw [aH,Ej _ _ _ (by omega) (by omega) (by unfold rG; omega)]
 simp only [jJ]
 rw [aK (by omega),aK (by simp; omega)]
 simp
def pp (x:Signed):List Int:=nh x.fP++((8:Int)::x.Tag)
theorem Ao {c:fP} (h:jg c=true):(nh c).length≤103:=by
 unfold nh rV
 rw [aF,az]
 have a:=jm (nm h)
 rcases kK h with g | g | g | g
 ·rw [aJ g.1]
  have:=iZ g.2.1
  rw [kN]; omega
 ·rw [aK (by rw [g.1]; decide),aJ g.1]
  have:=jm g.2.1
  omega
 ·rw [aK (by rw [g.1]; decide),aK (by rw [g.1]; decide),aJ g.1,az,kN]
  have:=jm g.2.1
  have:=iZ g.2.2.1
  omega
 ·rw [aK (by rw [g.1]; decide),aK (by rw [g.1]; decide),aK (by rw [g.1]; decide),az]
  have:=jm g.2.1
  have:=jm g.2.2.1
  omega
theorem B3 {x:Signed} (h:rh x):(pp x).length≤112:=by
 have:=Ao h.1
 unfold pp
 rw [az,aF,h.2.1]; omega
theorem IW {x:Signed} (h:rh x):B8 (pp x):=(GU h.1).FV (λy a=>by
 rcases aS.1 a with rfl | a
 ·omega
 ·exact h.2.2 y a)
theorem H4 {l:List Int} {x:Signed} (h:rh x) (d:l.length≤80000):qq l x=some (true,l++pp x):=by
 have c:=Ao h.1
 have a:((x.Tag.length:Int) != 8)=false:=by simp [h.2.1]
 unfold qq
 rw [na,h.1,a]
 simp only [ay,bi,aB,aQ]
 rw [Jf _ h.1,ay]
 unfold pS
 rw [pr (by omega)]
 simp only [ay,bu]
 unfold jk
 rw [aK (by simp [h.2.1]),h.2.1,kC (by decide) (by decide) (by rw [az]; omega)]
 simp only [ay]
 rw [pr (by simp [h.2.1]; omega)]
 simp [pp]
theorem D9:∀(s:List Signed) (l:List Int),(∀x∈s,rh x)→l.length+112*s.length≤9000→mx s l=some (l++s.flatMap pp)
 | [],l,_,_=>by rw [mx]; simp
 | x::s,l,h,c=>by
  have a:=h x (by simp)
  have:=B3 a
  rw [aF] at c
  rw [mx,H4 a (by omega),ay,D9 s _ (λy d=>h y (by simp [d])) (by rw [az]; omega)]
  simp
theorem Ef (m:ie):∀(w:List fQ) (l:List Int),(∀x∈w,gE x=true)→l.length+34*w.length≤9000→lm m w l=lm m [] (l++w.flatMap jf)
 | [],l,_,_=>by simp
 | x::w,l,h,c=>by
  have a:=h x (by simp)
  have:=jm a
  rw [aF] at c
  conv=>lhs; rw [lm]
  rw [AP a (by omega),ay,Ef m w _ (λy d=>h y (by simp [d])) (by rw [az]; omega)]
  simp
def ra (w:List fQ) (s:List Signed):List Int:=2::(w.length:Int)::(w.flatMap jf++(s.length:Int)::s.flatMap pp)
theorem vW {α:Type} (f:α→List Int) (K:Nat):∀l:List α,(∀x∈l,(f x).length≤K)→(l.flatMap f).length≤K*l.length
 | [],_=>by simp
 | x::l,h=>by
  have:=vW f K l (λy a=>h y (by simp [a]))
  have:=h x (by simp)
  rw [List.flatMap_cons,az,aF,fK]; omega
theorem F5 {α:Type} (f:α→List Int) (l:List α) (h:∀x∈l,B8 (f x)):B8 (l.flatMap f):=λy a=>by
 obtain ⟨x,c,a⟩:=List.mem_flatMap.1 a
 exact h x c y a
theorem vB {w:List fQ} {s:List Signed} (hw:∀r∈w,gE r=true) (h:w.length≤16) (d:∀x∈s,rh x) (g:s.length≤8):(ra w s).length≤2000:=by
 have a:=vW jf 34 w (λx c=>jm (hw x c))
 have b:=vW pp 112 s (λx c=>B3 (d x c))
 unfold ra
 rw [aF,aF,az,aF]; omega
theorem EA {w:List fQ} {s:List Signed} (hw:∀r∈w,gE r=true) (h:w.length≤16) (d:∀x∈s,rh x) (g:s.length≤8):B8 (ra w s):=λy a=>by
 unfold ra at a
 rcases aS.1 a with rfl | a
 ·omega
 rcases aS.1 a with rfl | a
 ·omega
 rcases aU.1 a with a | a
 ·exact F5 jf w (λx c=>oz (hw x c)) y a
 rcases aS.1 a with rfl | a
 ·omega
 ·exact F5 pp s (λx c=>IW (d x c)) y a
theorem HQ {w:List fQ} {s:List Signed} (h:js ⟨2,0,0,zS,w,s⟩=some true) (hw:∀r∈w,gE r=true) (d:w.length≤16) (g:∀x∈s,rh x) (c:s.length≤8):lx ⟨2,0,0,zS,w,s⟩=some (ra w s):=by
 have a:=vW jf 34 w (λx i=>jm (hw x i))
 have j:((2:Int)==1)=false:=rfl
 have k:=vB hw d g c
 unfold lx nl
 rw [h,ay]
 simp only [bi,aB,aQ,j,bp,bu]
 rw [kC (by decide) (by decide) (by simp),ay,kC (by omega) (by omega) (by simp),ay,Ef _ _ _ hw (by simp; omega),lm]
 simp only []
 rw [kC (by omega) (by omega) (by simp only [az,aF,ck]; omega),ay,D9 _ _ g (by simp only [az,aF,ck]; omega)]
 simp only [ay]
 have e:[]++[2]++[(w.length:Int)]++List.flatMap jf w++[(s.length:Int)]++List.flatMap pp s=ra w s:=by simp [ra]
 rw [e,pQ (by omega)]
 rfl
theorem B8.r {a b:List Int} (h:B8 (a++b)):B8 b:=λx c=>h x (cK _ c)
theorem DI (r:Int×fV):∀(s:List Signed) (n:Nat) (k:Int) (acc:List Signed) (l:List Int),(∀x∈s,rh x)→0≤k→r.1=k+s.length→r.1≤100→s.length < n→acc.length+s.length≤1000→
  B8 (s.flatMap pp++l)→(s.flatMap pp++l).length≤100000→lq r n k acc (s.flatMap pp++l) false=some (.inr (acc++s,l,false))
 | _,0,_,_,_,_,_,_,_,i,_,_,_=>by omega
 | [],n+1,k,acc,l,_,_,hk,_,_,_,_,_=>by
  rw [lq,aK (by simp at hk ⊢; omega)]
  simp
 | x::s,n+1,k,acc,l,h,q,hk,a,i,ha,c,o=>by
  have j:=h x (by simp)
  have e:(x::s).flatMap pp++l=nh x.fP++((8:Int)::x.Tag)++(s.flatMap pp++l):=by simp [pp]
  have d:B8 (s.flatMap pp++l):=by rw [e] at c; exact c.r
  have g:(s.flatMap pp++l).length≤100000:=by rw [e,az] at o; omega
  rw [aF] at hk i ha
  rw [lq,aJ (by simp; omega),I5 _ c (by omega),e,Gx j.1 j.2.1]
  simp only [wr,ay]
  rw [qa (by simp; omega) (by simp; omega),ay,gH (by omega) (by omega),DI r s n (k+1) _ l (λy p=>h y (by simp [p])) (by omega) (by omega) a (by omega) (by simp; omega) d g]
  simp
theorem DJ (r:Int×fV):∀(w:List fQ) (n:Nat) (k:Int) (acc:List fQ) (l:List Int),(∀x∈w,gE x=true)→0≤k→r.1=k+w.length→r.1≤100→acc.length+w.length≤1000→
  B8 (w.flatMap jf++l)→(w.flatMap jf++l).length≤100000→kB r (n+1+w.length) k acc (w.flatMap jf++l) false=kB r (n+1) (k+w.length) (acc++w) l false
 | [],n,k,acc,l,_,_,hk,_,_,_,_=>by simp
 | x::w,n,k,acc,l,h,s,hk,a,ha,c,o=>by
  have p:=h x (by simp)
  have e:(x::w).flatMap jf++l=jf x++(w.flatMap jf++l):=by simp
  have d:B8 (w.flatMap jf++l):=by rw [e] at c; exact c.r
  have g:(w.flatMap jf++l).length≤100000:=by rw [e,az] at o; omega
  rw [aF] at hk ha
  have i:n+1+(x::w).length=(n+1+w.length)+1:=by rw [aF]; omega
  rw [i]
  conv=>lhs; rw [kB]
  rw [aJ (by simp; omega),wc _ c (by omega),e,pX p]
  simp only [wr,ay]
  rw [qa (by simp; omega) (by simp; omega),ay,gH (by omega) (by omega),DJ r w n (k+1) _ l (λy q=>h y (by simp [q])) (by omega) (by omega) a (by simp; omega) d g]
  have j:k+1+(w.length:Int)=k+((x::w).length:Int):=by rw [aF]; omega
  rw [j]
  simp
def Hb (m:ie) (b:List Int):Prop:=lx m=some b∧B8 b∧b.length≤2000∧ly ⟨b,false⟩=some (.inr (m,⟨[],false⟩))
theorem Gv {w:List fQ} {s:List Signed} (u:js ⟨2,0,0,zS,w,s⟩=some true) (hw:∀r∈w,gE r=true) (h:w.length≤16) (k:∀x∈s,rh x) (g:s.length≤8) :
  ly ⟨ra w s,false⟩=some (.inr (⟨2,0,0,zS,w,s⟩,⟨[],false⟩)):=by
 have i:=vB hw h k g
 have j:=EA hw h k g
 have v:((2:Int)==1)=false:=rfl
 unfold ly
 rw [rC _ _ j (by omega)]
 have p:ra w s=2::((w.length:Int)::(w.flatMap jf++(s.length:Int)::s.flatMap pp)):=rfl
 rw [p] at j i ⊢
 have a:=j.tail
 rw [aF] at i
 rw [lW _ _ _ (by decide) (by decide) (by decide)]
 simp only [wr,ay,v,bp,aB,aQ,bu]
 rw [rC _ _ a (by omega),lW _ _ _ (by omega) (by omega) (by omega)]
 simp only [wr,ay]
 have c:=a.tail
 rw [aF] at i
 obtain ⟨n,q⟩:∃n,iq=n+1+w.length:=⟨iq-1-w.length,by rw [pe]; omega⟩
 have d:=c.r
 have o:=i
 rw [az,aF] at o
 have step:=DJ ((w.length:Int),⟨w.flatMap jf++(s.length:Int)::s.flatMap pp,false⟩) w n 0 [] ((s.length:Int)::s.flatMap pp) hw (by decide) (by simp) (by simp; omega) (by simp; omega) c (by omega)
 rw [←q] at step
 rw [step]
 rw [kB,aK (by simp),rC _ _ d (by rw [aF]; omega),lW _ _ _ (by omega) (by omega) (by omega)]
 simp only [wr,ay]
 have step2:=DI ((s.length:Int),⟨s.flatMap pp,false⟩) s iq 0 [] [] k (by decide) (by simp) (by simp; omega) (by rw [pe]; omega) (by simp; omega) (by rw [bQ]; exact d.tail) (by rw [bQ]; omega)
 rw [bQ] at step2
 rw [step2]
 simp only [ay,bD,u,bi,aB,aQ]
theorem Hr {m:ie} (d:js m=some true) (h:RM m) (A:∀x∈m.gv,B8 x.Tag):∃b,Hb m b:=by
 rcases h with ⟨p,n,rfl,o,hp⟩ | ⟨w,s,rfl,hw,j,z,i⟩ | rfl | rfl | ⟨e,rfl,G,I⟩
 ·have J:=iZ o
  have c:0≤p∧p≤2∧p < 128:=by rcases hp with rfl | rfl <;> decide
  have b8:B8 (1::(oG n++[p])):=λy a=>by
   rcases aS.1 a with rfl | a
   ·omega
   rcases aU.1 a with a | a
   ·exact pE o y a
   ·rw [aM] at a; omega
  have v:(1::(oG n++[p])).length≤2000:=by rw [aF,az,kN]; simp; omega
  refine ⟨1::(oG n++[p]),?_,b8,v,?_⟩
  ·unfold lx nl
   rw [d,ay]
   simp only [bi,aB,aQ,bp,bu]
   rw [kC (by decide) (by decide) (by simp),ay,tT o (by simp),ay,kC c.1 c.2.2 (by simp [kN]; omega)]
   simp only [ay,bD]
   rw [pQ (by simp [kN]; omega)]
   simp
  ·have k:=b8.tail
   have q:=k.r
   unfold ly
   rw [rC _ _ b8 (by omega),lW _ _ _ (by decide) (by decide) (by decide)]
   simp only [wr,ay,bp,bu]
   rw [xI _ k (by rw [aF] at v; omega),ry o]
   simp only [wr,ay]
   rw [rC _ _ q (by simp),lW _ _ _ c.1 c.2.2 c.2.1]
   simp only [wr,ay,d,bi,aB,aQ]
 ·have g:∀x∈s,rh x:=λx u=>⟨(z x u).1,(z x u).2,A x u⟩
  exact ⟨ra w s,HQ d hw j g i,EA hw j g i,vB hw j g i,Gv d hw j g i⟩
 ·have b8:B8 [3]:=λy a=>by rw [aM] at a; omega
  refine ⟨[3],?_,b8,by decide,?_⟩
  ·unfold lx nl
   rw [d,ay]
   simp only [bi,aB,aQ]
   rw [kC (by decide) (by decide) (by simp),ay]
   simp only [show ((3:Int)==1)=false from rfl,show ((3:Int)==2)=false from rfl,show ((3:Int)==5)=false from rfl,aB,aQ,ay,bD]
   rw [pQ (by simp)]
   rfl
  ·unfold ly
   rw [rC _ _ b8 (by decide),lW _ _ _ (by decide) (by decide) (by decide)]
   simp only [wr,ay,show ((3:Int)==1)=false from rfl,show ((3:Int)==2)=false from rfl,show ((3:Int)==5)=false from rfl,d,bi,aB,aQ]
 ·have b8:B8 [4]:=λy a=>by rw [aM] at a; omega
  refine ⟨[4],?_,b8,by decide,?_⟩
  ·unfold lx nl
   rw [d,ay]
   simp only [bi,aB,aQ]
   rw [kC (by decide) (by decide) (by simp),ay]
   simp only [show ((4:Int)==1)=false from rfl,show ((4:Int)==2)=false from rfl,show ((4:Int)==5)=false from rfl,aB,aQ,ay,bD]
   rw [pQ (by simp)]
   rfl
  ·unfold ly
   rw [rC _ _ b8 (by decide),lW _ _ _ (by decide) (by decide) (by decide)]
   simp only [wr,ay,show ((4:Int)==1)=false from rfl,show ((4:Int)==2)=false from rfl,show ((4:Int)==5)=false from rfl,d,bi,aB,aQ]
 ·have b8:B8 [5,e]:=λy a=>by
   rcases aS.1 a with rfl | a
   ·omega
   ·rw [aM] at a; omega
  refine ⟨[5,e],?_,b8,by simp,?_⟩
  ·unfold lx nl
   rw [d,ay]
   simp only [bi,aB,aQ]
   rw [kC (by decide) (by decide) (by simp),ay]
   simp only [show ((5:Int)==1)=false from rfl,show ((5:Int)==2)=false from rfl,bp,bu,aB,aQ]
   rw [kC (by omega) (by omega) (by simp)]
   simp only [ay,bD]
   rw [pQ (by simp)]
   rfl
  ·unfold ly
   rw [rC _ _ b8 (by simp),lW _ _ _ (by decide) (by decide) (by decide)]
   simp only [wr,ay,show ((5:Int)==1)=false from rfl,show ((5:Int)==2)=false from rfl,bp,bu,aB,aQ]
   rw [rC _ _ b8.tail (by simp),lW _ _ _ (by omega) (by omega) (by omega)]
   simp only [wr,ay,d,bi,aB,aQ]
theorem FC {m:ie} {b:List Int} (h:Hb m b):ql b=some (m,0):=by
 obtain ⟨_,_,c,a⟩:=h
 unfold ql nV qp
 rw [xq (by omega),ay,a]
 rfl
theorem BQ (H:Int):∀(l:List Int) (i:Nat) (a:List Int),nF H l i a=lU H l i a
 | [],i,a=>rfl
 | x::l,i,a=>by
  rw [nF,lU]
  simp only [BQ H l]
theorem E8 {n:Int} (b:List Int) (a:0≤n) (h1:n < 2097152):pF n b=some (BY (xT (oQ n++b))):=by
 have c:=uI n
 unfold pF qM
 rw [Aq a h1 (by simp),ay]
 simp only [bD]
 rw [pQ (by omega),ay,ay,HD,ay]
 simp only [BQ]
 rw [GF _ (Fq _)]
 simp
theorem Fy {m:ie} {n:Int} (A:1≤n) (h1:n≤65536) (z:js m=some true) {b:List Int} (h:Hb m b):∃F,mG n m=some F∧F.length≠0∧nK F=some (n,m,0):=by
 obtain ⟨s,d,o,y⟩:=h
 have G:=uI n
 have u:(BY (xT (oQ n++b))).length=8:=rfl
 have q:=E8 b (show 0≤n by omega) (by omega)
 generalize x:BY (xT (oQ n++b))=S at q u
 have k:B8 S:=by rw [←x]; exact IN _
 have t1:=yR b
 have t2:=yR S
 have j:=FR (n:=n) (by omega) (by omega)
 have i:(oQ n++(mh b++mh S)).length≤2100:=by rw [az,az]; omega
 have c:B8 (oQ n++(mh b++mh S)):=j.FV ((D7 d (by omega)).FV (D7 k (by omega)))
 have a:=c.r
 have g:=a.r
 refine ⟨oQ n++(mh b++mh S),?_,?_,?_⟩
 ·unfold mG sr
  rw [z,ay,s]
  have c1:decide (n < 1)=false:=by simp; omega
  have c2:decide (n > 1099511627776)=false:=by simp; omega
  have w:decide ((b.length:Int) > 2048)=false:=by simp; omega
  simp only [bi,aB,aQ,ay,c1,c2,w]
  rw [Aq (by omega) (by omega) (by simp),ay]
  simp only [bD]
  rw [BK (by omega) (by omega),ay,q,ay]
  simp only []
  rw [BK (by omega) (by rw [az]; omega),ay]
  simp only []
  rw [pQ (by rw [aH]; omega),aH]
  rfl
 ·have:(mh S).length≥8:=by unfold mh; rw [az]; omega
  rw [az,az]; omega
 ·have hp:pJ (oQ n++(mh b++mh S))=some (n,b,S,0):=by
   unfold pJ mR oW
   rw [xq (by omega),ay,rC _ _ c (by omega),Ej _ _ _ (by omega) (by omega) (by omega)]
   simp only [wr,ay]
   rw [zF _ _ a (by rw [az] at i; omega),BL _ _ _ (by omega) (by omega)]
   simp only [wr,ay]
   have v:=BL 8 S [] (by omega) (by omega)
   rw [bQ] at v
   rw [zF _ _ g (by omega),v]
   have c1:((S.length:Int) != 8)=false:=by simp [u]
   have c2:(n==0)=false:=by simp; omega
   simp only [wr,ay,c1,c2,aB,aQ]
   rfl
  unfold nK mV
  have c1:decide (((oQ n++(mh b++mh S)).length:Int) > 4096)=false:=by simp only [decide_eq_false_iff_not]; omega
  have c2:((0:Int) != 0)=false:=rfl
  have p:ql b=some (m,0):=FC ⟨s,d,o,y⟩
  rw [c1,hp]
  simp only [aB,aQ,ay,bp,bu,q,pN,bi,c2,p]
theorem EN:∀(l:List fP) (x:Int),∃v,jR l x=some v
 | [],x=>⟨x,rfl⟩
 | c::l,x=>by rw [jR]; exact EN l _
theorem En:∀(l:List Signed) (x:Int),∃v,ky l x=some v
 | [],x=>⟨x,rfl⟩
 | c::l,x=>by
  obtain ⟨v,d⟩:=EN [c.fP] 0
  have a:mU [c.fP]=some v:=d
  rw [ky,a,ay]; exact En l _
theorem DW:∀(l:List fQ) (x:Int),∃v,mF l x=some v
 | [],x=>⟨x,rfl⟩
 | c::l,x=>by rw [mF]; exact DW l _
theorem Et (m:ie):∃v,pM m=some v:=by
 obtain ⟨v,c⟩:=En m.gv 0
 have a:lZ [] m.gv=some v:=by
  unfold lZ
  rw [mD,c]; rfl
 unfold pM
 rw [a,ay]
 exact DW _ _
def tX:ByteArray:=⟨#[58,32]⟩
def sA:ByteArray:=⟨#[10]⟩
def I9:ByteArray:=⟨#[62,32]⟩
def Jo:ByteArray:=⟨#[60,32]⟩
def uJ (o:Bool):ByteArray:=if o then I9 else Jo
def mJ (o:Bool) (n:Int) (t:ByteArray):ByteArray:=uJ o++(mN n++tX++t)
theorem uq (o:Bool):(uJ o).size=2:=by cases o <;> rfl
theorem Gr {n:Int} (h:0≤n):(58:UInt8)∉(mN n).data.toList:=by
 show (58:UInt8)∉Go.Lib.itoa n
 unfold Go.Lib.itoa
 rw [aK (by omega)]
 intro hm; have:=(IF _).2.1 _ hm; simp at this
theorem BU {m:ie} {t:ByteArray} {n:Int} {F:List Int} (a:wJ n) (k:As m t) (g:nK F=some (n,m,0)) (o:Bool):nE [⟨o,F⟩]=some (mJ o n t++sA):=by
 obtain ⟨h1,_,p,_⟩:=k
 have q:=uw a
 have s:=uq o
 have c:({ data:=#[58,32] }:ByteArray)=tX:=rfl
 have d:({ data:=#[10] }:ByteArray)=sA:=rfl
 have s1:tX.size=2:=rfl
 have s2:sA.size=1:=rfl
 have i:ot F=some (mN n++tX++t):=by
  unfold ot
  rw [g,ay,aK (by simp)]
  simp only []
  rw [B0 a,ay,c,iQ (by omega),ay,h1,ay,iQ (by rw [aA]; omega)]
  rfl
 have j:sc o=some (uJ o):=by cases o <;> rfl
 have h:vR zS (mJ o n t++sA)=some (mJ o n t++sA):=by
  unfold vR
  have z0:zS.size=0:=rfl
  rw [aJ (by unfold mJ; simp only [aA]; omega)]
  exact aC some (rl (by rw [gU zS]; rfl))
 unfold nE
 rw [mX,j,ay]
 simp only []
 rw [i,ay,iQ (by simp only [aA]; omega),ay,d,iQ (by simp only [aA]; omega),ay]
 rw [show uJ o++(mN n++tX++t)=mJ o n t from rfl,h,ay,mX]
 rfl
theorem za {m:ie} {t:ByteArray} {n:Int} (a:wJ n) (c:As m t) (o:Bool):(mJ o n t).size≤4000∧4≤(mJ o n t).size:=by
 have g:=uw a
 have h:=uq o
 have s1:tX.size=2:=rfl
 have d:=c.2.2.1
 unfold mJ
 simp only [aA]; omega
theorem Em (o:Bool) (x:ByteArray):la (uJ o++x) ⟨#[62]⟩=some o:=by
 have d:=uq o
 have c:((uJ o++x).size:Int)≥((⟨#[62]⟩:ByteArray).size:Int):=by
  have:(⟨#[62]⟩:ByteArray).size=1:=rfl
  rw [aA]; omega
 unfold la iT
 rw [aJ (decide_eq_true c)]
 cases o with
 | true=>
  have a:nO (uJ true++x) 0 ((⟨#[62]⟩:ByteArray).size:Int)=some ⟨#[62]⟩:=vV (a:=⟨#[62]⟩) (b:=⟨#[32]⟩++x) (by rw [gU,gU]; rfl)
  rw [a,ay,pN]; rfl
 | false=>
  have a:nO (uJ false++x) 0 ((⟨#[62]⟩:ByteArray).size:Int)=some ⟨#[60]⟩:=vV (a:=⟨#[60]⟩) (b:=⟨#[32]⟩++x) (by rw [gU,gU]; rfl)
  have b:gS ⟨#[60]⟩ ⟨#[62]⟩=false:=by decide +kernel
  rw [a,ay,b]; rfl
theorem FB {m:ie} {t:ByteArray} {n:Int} {F:List Int} (j:0≤n) (h1:n≤1000000) (g:As m t) (u:nK F=some (n,m,0)) (v:mG n m=some F) (i:F.length≠0) (o:Bool):od (mJ o n t)=some (⟨o,F⟩,true):=by
 have d:wJ n:=⟨by omega,by omega⟩
 have A:=uw d
 have y:=uq o
 have G:=za d g o
 have s1:tX.size=2:=rfl
 have s2:sA.size=1:=rfl
 have z:=g.2.2.1
 have k:({ data:=#[58,32] }:ByteArray)=tX:=rfl
 have q:({ data:=#[10] }:ByteArray)=sA:=rfl
 have a:nO (mJ o n t) 2 ((mJ o n t).size:Int)=some (mN n++tX++t):=by
  have:=xw (s:=mJ o n t) (a:=uJ o) (b:=mN n++tX++t) (gU _ _)
  rw [y] at this
  exact this
 have c:mm (mN n++tX++t) tX=some (mN n,t,true):=oL (c:=58) (tl:=[32]) rfl (by rw [gU,gU,aH]) (by simp only [aA]; omega) (Gr j)
 have p:=Em o (mN n++tX++t)
 have x:la (mJ o n t) ⟨#[62]⟩=some o:=p
 have w:((F.length:Int)==0)=false:=by simp; exact λh=>i (by rw [h]; rfl)
 unfold od
 rw [aJ (by omega),a,ay,k,c,ay,yJ j h1,ay,xB g,ay,x,ay,v]
 simp only [ay,bi,aB,aQ,w]
 rw [BU d g u o,ay,q,iQ (by omega),ay,pN]
 rfl
theorem xX (y:pL=some true) (m:ie) (n:Int) (o:Bool) (I:m.gv.length≤100000000) (q:∀x∈m.gv,B8 x.Tag) (J:0≤n∧n≤65535):nw m n o=some true:=by
 obtain ⟨g,z⟩:=Et m
 obtain ⟨b,j,d⟩:=Ah m I
 unfold nw
 rw [y,ay,z,ay,j]
 simp only [bi,aB,aQ]
 by_cases h:g > 3000
 ·simp [h]
 have c1:decide (g > 3000)=false:=by simpa using h
 cases b with
 | false=>simp [c1]
 | true=>
  obtain ⟨t,i⟩:=FJ j (d rfl) q
  obtain ⟨B,w⟩:=Hr j (d rfl) q
  obtain ⟨F,u,k,v⟩:=Fy (n:=n+1) (by omega) (by omega) j w
  have c:wJ (n+1):=⟨by omega,by omega⟩
  have L:=za c i o
  have s2:sA.size=1:=rfl
  have A:=BU c i v o
  have hu:=FB (by omega) (by omega) i v u k o
  have p:nO (mJ o (n+1) t++sA) 0 (((mJ o (n+1) t++sA).size:Int)-1)=some (mJ o (n+1) t):=by
   have:=vV (s:=mJ o (n+1) t++sA) (a:=mJ o (n+1) t) (b:=sA) (gU _ _)
   rw [aA,s2]
   rw [show (((mJ o (n+1) t).size+1:Nat):Int)-1=((mJ o (n+1) t).size:Int) by omega]
   exact this
  have z0:(((mJ o (n+1) t++sA).size:Int)==0)=false:=by
   rw [aA]
   cases G:((((mJ o (n+1) t).size+sA.size:Nat):Int)==0) with
   | false=>rfl
   | true=>have:=eq_of_beq G; omega
  simp only [c1,aB,aQ,ay,bi]
  rw [i.1,ay,xB i,ay]
  simp only [bi,aB,aQ,Gw,ay]
  rw [gH (x:=n) (by omega) (by omega),gH (x:=n+1) (by omega) (by omega),u,ay,A,ay,z0]
  simp only [aB,aQ]
  have z9:(((mJ o (n+1) t++sA).size:Nat):Int)≤5000:=by rw [aA]; omega
  rw [gH (by omega) (by omega),p,ay,hu,ay]
  simp only [bu,bp,ay,pN]
theorem GJ:pL=some true:=by decide +kernel
end Go.Proofs.YtjjjihkifgdhgaaGreatDoor
namespace Go.Proofs.YtjjjihkifgdhgaaGreatDoor.Lf
open Go.ChangeShapes Go.WideShapes Go.ChangeAt Go.RowKit
open Go.Proofs.YtjjjihkifgdhgaaGreatDoor (Rows.uptoBulk Rows.uptoBulkAll Rows.uptoSmall)
theorem HR {H:Type} (d:DataW H):1≤Rows.uptoBulk d:=by
 cases d with
 | lit l=>cases l <;> simp [Rows.uptoBulk]
 | nil=>simp [Rows.uptoBulk]
 | ptr d=>simp [Rows.uptoBulk]
 | slice a spare=>simp [Rows.uptoBulk]
 | agg parts=>simp [Rows.uptoBulk]
 | iface t d=>simp [Rows.uptoBulk]
 | map entries=>simp [Rows.uptoBulk]
 | held h=>simp [Rows.uptoBulk]
def ze {α:Type} (P:Program) (t:TypeId) (enc:α→List Value) (g:α→Nat):Prop :=
 ∀(H:Type) (c:TypeId×Value→H) (W:World) (base:Nat) (sp:Nat→Bool) (d:Bool) (fuel:Nat) (cs:List Value) (x:DataW H×List MemPlace),
  DataW.trod c P W base sp d fuel t cs=some x→∃a:α,cs=enc a∧g a≤Rows.uptoBulk x.1
theorem CS {P:Program} {t:TypeId} (a:P.underlying t=some .string):ze P t (λs:ByteArray=>[.string s]) (λs=>s.size):=by
 intro H c W base sp d fuel cs x h
 obtain ⟨s,rfl,rfl,_⟩:=DataW.trod_string a h
 refine ⟨s,rfl,?_⟩
 have e:s.data.toList.length=s.size:=by rw [bP]; rfl
 simp [Rows.uptoBulk,e]
theorem Gi {P:Program} {t:TypeId} {k:IntKind} (a:P.underlying t=some (.int k)):ze P t (λn:Int=>[.int k n]) (λ_=>0):=by
 intro H c W base sp d fuel cs x h
 obtain ⟨n,rfl,rfl,_⟩:=DataW.trod_int a h
 exact ⟨n,rfl,dN _⟩
theorem Gz {α:Type} {n:Nat} {p:Nat→α→Prop} (h:∀i,i < n→∃x,p i x):∃l:List α,l.length=n∧∀i x,l[i]? =some x→p i x:=by
 induction n with
 | zero=>exact ⟨[],rfl,by simp⟩
 | succ n ih=>
  obtain ⟨l,h1,c⟩:=ih λi hi=>h i (by omega)
  obtain ⟨x,g⟩:=h n (by omega)
  refine ⟨l++[x],by simp [h1],λi y a=>?_⟩
  by_cases hi:i < l.length
  ·rw [cH hi] at a
   exact c i y a
  ·rw [cA (by omega)] at a
   have:i-l.length=0:=by
    cases d:i-l.length with
    | zero=>rfl
    | succ m=>rw [d] at a; simp at a
   rw [this] at a
   have e:i=n:=by omega
   simp at a
   subst a; rw [e]; exact g
theorem A6 {W:World} {a:Addr} {v:Value} (h:W.cell? a=some v):∃cs T fr,W.heap[a.block]? =some (.cells cs T fr)∧a.spot=none∧cs[a.off]? =some v:=by
 unfold World.cell? at h
 split at h
 ·rename_i c T fr g
  by_cases d:a.spot.isSome
  ·simp [d] at h
  ·simp only [d] at h
   exact ⟨c,T,fr,g,by simpa using d,by simpa using h⟩
 ·cases h
theorem Ex.below {dd:Bool} {W W':World} (h:Ex dd W W'):Below W.heap.size W W':=⟨h.os,h.tape,h.output,h.size,h.ki⟩
theorem uX {H:Type} {n:TypeId×Value→H} {P:Program} (s:laidOutB P=true) {W W':World} {c:Nat→Bool} :
  ∀{i:List TypeId} {vs:List Value} {j:List (DataW H)} {g:List MemPlace},(∀t∈i,P.readableRec t=true∧t < P.types.size)→
   DataW.TrodAll n P W 0 (λ_=>true) true i vs j g→(∀p∈g,W.sameAt W' p)→(∀p∈g,c p.block=true)→DataW.TrodAll n P W' 0 c true i vs j g
 | [],_,_,_,_,h,_,_=>by
  obtain ⟨rfl,rfl,rfl⟩:=trodAll_nil h
  exact trodAll_mk0
 | t::i,_,_,_,k,h,h1,o=>by
  obtain ⟨v,vs,d,j,p,q,rfl,rfl,rfl,w,y⟩:=trodAll_cons h
  exact trodAll_cons_mk (WideElems.Trod_stays s (k t (by simp)).1 (k t (by simp)).2 w (λx a=>h1 x (by simp [a])) (λx a=>o x (by simp [a])))
   (uX s (λu hu=>k u (by simp [hu])) y (λx a=>h1 x (by simp [a])) (λx a=>o x (by simp [a])))
theorem CH {H:Type} {enc:TypeId×Value→H} {P:Program} (Q:laidOutB P=true) {f:Func} {s:ChangeSpec} {apart fresh handsOn again:Bool} {W W':World} {args:Array Value} {v:Value} {a gs:List (DataW H)} {before:List MemPlace} (T:∀t∈f.params.toList,P.readableRec t=true∧t < P.types.size) (o:s.vars=[]) (y:DataW.Whole enc P f.params.toList s.vars apart W args.toList a gs before) {dd:Bool} (J:Ex dd W W') (c:∀(b:Nat) (sp:Nat→Bool) (O:Bool),DataW.TrodAll enc P W' b sp O f.resultTypes.toList (v.resultList f.resultTypes.size) (s.fn H (a++gs)).results []) (d:(s.fn H (a++gs)).args=a) (h:(s.fn H (a++gs)).vars=[]) (G:∀(j:Nat) (t:TypeId) (r:Value),f.resultTypes[j]? =some t→(v.resultList f.resultTypes.size)[j]? =some r→Value.okWide P W' .any 0 t r) :
  s.post enc P f apart fresh handsOn again W args v W':=by
 have g:=y.lt
 have hold:∀p∈before,(λb=>decide (b < W.heap.size)) p.block=true:=λp hp=>by simpa using g p hp
 have A:=Ex.below J
 have z:=y
 obtain ⟨p,q,M,L,k,U,R⟩:=y
 rw [o] at L
 obtain ⟨rfl,rfl⟩:=trodVars_none L
 rw [bQ] at k
 subst k
 have n:∀sp:Nat→Bool,(∀p∈before,sp p.block=true)→DataW.TrodAll enc P W' 0 sp true f.params.toList args.toList (s.fn H (a++[])).args before:=λsp I=>by
  rw [d]
  exact uX Q T M (λx J=>A.same (g x J)) I
 have u:∀sp:Nat→Bool,DataW.TrodVars enc P W' sp s.vars (s.fn H (a++[])).vars []:=λsp=>by
  rw [h,o]; rfl
 refine ⟨a,[],before,[],before,[],z,c _ _ _,n _ hold,u _,World.keptBut_mono (λp hp=>⟨hp,?_⟩) (A.frame (·∈before)),λ_=>?_⟩
 ·exact Or.inr (Or.inl hp)
 ·refine ⟨G,_,_,([]++before)++[],⟨[]++before,[],trodAll_append (n _ (λ_ _=>rfl)) (c _ _ _),u _,rfl,?_,?_⟩,?_⟩
  ·intro b off hp
   have i:MemPlace.cell b off∈before:=by simpa using hp
   rw [World.frozen?_of_block (w:=W) (A.block b (g _ i))]
   exact U b off i
  ·intro ha
   simpa using R ha
  ·intro p hp _
   simpa using hp
end Go.Proofs.YtjjjihkifgdhgaaGreatDoor.Lf
namespace Go.Proofs.YtjjjihkifgdhgaaGreatDoor.Lf
open Go.ChangeShapes Go.WideShapes Go.ChangeAt Go.RowKit
open Go.Proofs.YtjjjihkifgdhgaaGreatDoor (Rows.uptoBulk Rows.uptoBulkAll Rows.uptoSmall)
def yC {α:Type} (P:Program) (t:TypeId) (R:lc α) (g:α→Nat):Prop :=
 ∀(H:Type) (c:TypeId×Value→H) (W:World) (base:Nat) (sp:Nat→Bool) (d:Bool) (fuel:Nat) (cs:List Value) (x:DataW H×List MemPlace),
  DataW.trod c P W base sp d fuel t cs=some x→∃a:α,R (hp W) cs a∧g a≤Rows.uptoBulk x.1
theorem ze.rel {α:Type} {P:Program} {t:TypeId} {enc:α→List Value} {a:α→Nat} (h:ze P t enc a):yC P t (Pl enc) a:=λH c W base sp d fuel cs x g=>h H c W base sp d fuel cs x g
end Go.Proofs.YtjjjihkifgdhgaaGreatDoor.Lf
namespace Go.Proofs.YtjjjihkifgdhgaaGreatDoor.Lf
open Go.ChangeShapes Go.WideShapes Go.ChangeAt Go.RowKit
open Go.Proofs.YtjjjihkifgdhgaaGreatDoor (Rows.uptoBulk Rows.uptoBulkAll Rows.uptoSmall)
theorem wH {H:Type}:∀l:List (DataW H),Rows.uptoBulkAll l=(l.map Rows.uptoBulk).sum
 | []=>by simp [Rows.uptoBulkAll]
 | d::l=>by simp [Rows.uptoBulkAll,wH l]
theorem EK {α:Type} (g:α→Nat):∀(n:Nat) (f:Nat→Nat) {l:List α},l.length=n→(∀i x,l[i]? =some x→g x≤f i)→(l.map g).sum≤((List.range n).map f).sum
 | 0,f,l,c,h=>by
  obtain rfl:=cz.1 c
  simp
 | n+1,f,[],c,h=>by cases c
 | n+1,f,a::l,c,h=>by
  rw [List.range_succ_eq_map,aY,aY,List.sum_cons,List.sum_cons,eU]
  have h1:=h 0 a rfl
  have j:=EK g n (f∘Nat.succ) (l:=l) (by simpa using c) (λi x d=>h (i+1) x (by simpa using d))
  omega
def Ac {α:Type} (c:α→Nat) (l:List α):Nat:=(l.map λa=>max 1 (c a)).sum
theorem BV {α:Type} (c:α→Nat):∀l:List α,l.length≤Ac c l
 | []=>bl _
 | a::l=>by have:=BV c l; simp only [Ac,aY,List.sum_cons,aF] at this ⊢; omega
theorem Bm {α:Type} {P:Program} {t e:TypeId} {k:Nat} {R:lc α} {U:α→Nat} (hk:P.cellsOf e=k) (L:0 < k) (ht:P.underlying t=some (.slice e)) {H:Type} {Z:TypeId×Value→H} {W:World} {base:Nat} {sp:Nat→Bool} {held:Bool} {fuel:Nat} {cs:List Value} {x:DataW H×List MemPlace} (hd:∀(fuel:Nat) (cs:List Value) (y:DataW H×List MemPlace),DataW.trod Z P W base sp held fuel e cs=some y→SizeOf.sizeOf y.1 < SizeOf.sizeOf x.1→∃a:α,R (hp W) cs a∧U a≤Rows.uptoBulk y.1) (hf:DataW.trod Z P W base sp held fuel t cs=some x) :
  ∃v l,cs=[v]∧Sl R k (hp W) v l∧Ac U l≤Rows.uptoBulk x.1:=by
 rcases Go.Deep.open_slice ht hf with ⟨rfl,rfl⟩ | ⟨a,ln,cp,m,n,D,Q,rfl,hb,hl,hm,O,rfl,J⟩
 ·exact ⟨_,[],rfl,⟨none,0,rfl,bl _,dN _,λh=>absurd h (Nat.lt_irrefl _)⟩,dN _⟩
 ·have aa:ln≤m:=by rw [O]; split <;> omega
  have hB:((List.range ln).map λi=>Rows.uptoBulk (D i)).sum≤Rows.uptoBulk (DataW.slice ((List.range ln).map D) ((List.range (m-ln)).map λj=>D (ln+j))):=by
   simp only [Rows.uptoBulk]
   rw [wH,eU]
   have e:((List.range ln).map λi=>Rows.uptoBulk (D i))=(List.range ln).map (Rows.uptoBulk∘D):=rfl
   rw [e]
   omega
  have hS:∀i,i < ln→SizeOf.sizeOf (D i) < SizeOf.sizeOf (DataW.slice ((List.range ln).map D) ((List.range (m-ln)).map λj=>D (ln+j))):=λi hi=>by
   have:=List.sizeOf_lt_of_mem (bt.2 ⟨i,List.mem_range.2 hi,rfl⟩:D i∈(List.range ln).map D)
   rw [DataW.slice.sizeOf_spec]; omega
  simp only at hd ⊢
  generalize Rows.uptoBulk (DataW.slice ((List.range ln).map D) ((List.range (m-ln)).map λj=>D (ln+j)))=B at hB
  obtain ⟨l,M,q⟩:=Gz (α:=α) (n:=ln) (p:=λi x=>∃cs',W.cells? base (a.add (i*k)) k=some cs'∧R (hp W) cs' x∧U x≤Rows.uptoBulk (D i)) λi hi=>by
   obtain ⟨cs',h1,z⟩:=J i (by omega)
   obtain ⟨x,hR,A⟩:=hd _ _ _ z (hS i hi)
   rw [hk] at h1
   exact ⟨x,cs',h1,hR,A⟩
  subst M
  refine ⟨_,l,rfl,⟨some a,cp,rfl,hl,hm,λh0=>?_⟩,?_⟩
  ·have c:∀i x,l[i]? =some x→∃cs',R (hp W) cs' x∧cs'.length=k∧∀j,j < k→W.cell? ((a.add (i*k)).add j)=cs'[j]?:=λi x s=>
    let ⟨cs',h1,z,_⟩:=q i x s
    let ⟨_,A,h4⟩:=World.cells?_some h1
    ⟨cs',z,A,h4⟩
   obtain ⟨a6,_,h4,h5⟩:=c 0 l[0] (by simp [h0])
   have G:=h5 0 L
   rw [Nat.zero_mul,bN (by omega)] at G
   have e0:(a.add 0).add 0=a:=rfl
   rw [e0] at G
   obtain ⟨cs,T,fr,I,h8,_⟩:=A6 G
   obtain ⟨u,w,a1⟩:=a
   simp only at I h8
   subst h8
   refine ⟨u,w,cs,T,fr,rfl,I,λi x s=>?_⟩
   obtain ⟨cs',gR,g1,g2⟩:=c i x s
   refine ⟨cs',g1,gR,λj y hy=>?_⟩
   have hj:j < k:=by
    rw [←g1]
    exact (aR.1 hy).1
   have h9:=g2 j hj
   rw [Go.Deep.add_add,hy] at h9
   obtain ⟨Y,T',a7,d,a8,g⟩:=A6 h9
   have o:(Addr.add ⟨u,w,none⟩ (i*k+j)).block=u∧(Addr.add ⟨u,w,none⟩ (i*k+j)).off=w+(i*k+j):=by
    unfold Addr.add
    split
    ·rename_i hz
     rw [hz]; exact ⟨rfl,rfl⟩
    ·exact ⟨rfl,rfl⟩
   rw [o.1,I] at d
   cases d
   rw [o.2,←fx] at g
   exact g
  ·refine cd (EK _ _ _ rfl λi x s=>?_) hB
   exact Nat.max_le.2 ⟨HR _,(q i x s).elim λ_ h=>h.2.2⟩
theorem sY {α:Type} {P:Program} {t e:TypeId} {k:Nat} {R:lc α} {c:α→Nat} (hk:P.cellsOf e=k) (a:0 < k) (g:yC P e R c) (j:P.underlying t=some (.slice e)) {H:Type} {d:TypeId×Value→H} {W:World} {base:Nat} {sp:Nat→Bool} {held:Bool} {fuel:Nat} {cs:List Value} {x:DataW H×List MemPlace} (i:DataW.trod d P W base sp held fuel t cs=some x) :
  ∃v l,cs=[v]∧Sl R k (hp W) v l∧Ac c l≤Rows.uptoBulk x.1:=Bm hk a j (λ_ _ _ h _=>g _ _ _ _ _ _ _ _ _ h) i
end Go.Proofs.YtjjjihkifgdhgaaGreatDoor.Lf
namespace Go.Proofs.YtjjjihkifgdhgaaGreatDoor.Lf
open Go.ChangeShapes Go.WideShapes Go.ChangeAt Go.RowKit
open Go.Proofs.YtjjjihkifgdhgaaGreatDoor (Rows.uptoBulk Rows.uptoBulkAll Rows.uptoSmall)
def Ea {α:Type} (R:lc α) (Q:α→Prop):lc α:=λμ ys x=>R μ ys x∧Q x
theorem Sl.all {α:Type} {R:lc α} {Q:α→Prop} {k:Nat} {μ:gm} {v:Value} {l:List α} (h:Sl (Ea R Q) k μ v l):Sl R k μ v l∧∀x∈l,Q x:=by
 obtain ⟨A,c,rfl,h1,j,s⟩:=h
 cases l with
 | nil=>exact ⟨⟨A,c,rfl,h1,j,λh=>absurd h (by simp)⟩,by simp⟩
 | cons a l=>
  obtain ⟨b,o,cs,T,fr,e,u,n⟩:=s (by simp)
  refine ⟨⟨A,c,rfl,h1,j,λ_=>⟨b,o,cs,T,fr,e,u,λi x g=>?_⟩⟩,λx g=>?_⟩
  ·obtain ⟨ys,p,d,q⟩:=n i x g
   exact ⟨ys,p,d.1,q⟩
  ·obtain ⟨i,hi⟩:=List.mem_iff_getElem?.1 g
   obtain ⟨ys,p,d,q⟩:=n i x hi
   exact d.2
theorem Gk {P:Program} {t:TypeId} (a:P.underlying t=some (.int .u8)):yC P t (Ea (Pl (fW .u8)) (λx=>0≤x∧x < 256)) (λ_=>0):=by
 intro H c W base sp d fuel cs x h
 obtain ⟨n,rfl,rfl,hw⟩:=DataW.trod_int a h
 refine ⟨n,⟨rfl,?_⟩,dN _⟩
 simp [Lit.wf,IntKind.min,IntKind.max,IntKind.bits,IntKind.signed] at hw
 omega
theorem Fh {P:Program} {t:TypeId} (a:P.underlying t=some (.int .u16)):yC P t (Ea (Pl (fW .u16)) (λx=>0≤x∧x < 65536)) (λ_=>0):=by
 intro H c W base sp d fuel cs x h
 obtain ⟨n,rfl,rfl,hw⟩:=DataW.trod_int a h
 refine ⟨n,⟨rfl,?_⟩,dN _⟩
 simp [Lit.wf,IntKind.min,IntKind.max,IntKind.bits,IntKind.signed] at hw
 omega
end Go.Proofs.YtjjjihkifgdhgaaGreatDoor.Lf
namespace Go.Proofs.YtjjjihkifgdhgaaGreatDoor
open Go.Proofs.Tryz renaming prog → pg0
set_option maxRecDepth 10000
open Go.ChangeShapes Go.WideShapes Go.ChangeAt Go.RowKit
open Go.Proofs.YtjjjihkifgdhgaaGreatDoor Go.Proofs.YtjjjihkifgdhgaaGreatDoor.Lf
theorem Gn:Tryz.prog.cellsOf 68=6:=by kernel_rfl
theorem ET {α:Type} {l:List α} (h:l.length=6):∃a0 a a2 a3 a4 a5,l=[a0,a,a2,a3,a4,a5]:=by
 match l,h with
 | [a0,a,a2,a3,a4,a5],_=>exact ⟨a0,a,a2,a3,a4,a5,rfl⟩
theorem Ep:Tryz.prog.cellsOf 3=1:=by kernel_rfl
theorem Dz:ze pg0 3 (λn:Int=>[.int .i64 n]) (λ_=>0):=Gi Tryz.underlying3
theorem zW:Tryz.prog.cellsOf 9=1:=by kernel_rfl
theorem zU:ze pg0 9 (λs:ByteArray=>[.string s]) (λs=>s.size):=CS Tryz.underlying9
theorem Gu:Tryz.prog.cellsOf 65=1:=by kernel_rfl
theorem xY:Tryz.prog.cellsOf 27=2:=by kernel_rfl
theorem Fc {α:Type} {l:List α} (h:l.length=2):∃a0 a,l=[a0,a]:=by
 match l,h with
 | [a0,a],_=>exact ⟨a0,a,rfl⟩
def ue (x:fQ):Nat:=x.fX.size+x.Word.size
theorem zI:ze pg0 27 fS ue:=by
 intro H g W base sp j fuel cs x h
 obtain ⟨xs,n,_,rfl,q,hlen,k⟩:=eu Tryz.underlying27 h
 obtain ⟨u,v,rfl⟩:=Fc hlen
 obtain ⟨a,c1,rfl⟩:=Fc (q.trans xY)
 have i:DataW.trod g pg0 W base sp j n 9 (([a,c1].drop 0).take (Tryz.prog.cellsOf 9))=some u:=k 0 _ rfl
 have h1:DataW.trod g pg0 W base sp j n 9 (([a,c1].drop 1).take (Tryz.prog.cellsOf 9))=some v:=k 1 _ rfl
 simp only [zW,List.drop,List.take] at i h1
 obtain ⟨s,c,o⟩:=zU _ _ _ _ _ _ _ _ _ i
 obtain ⟨s1,d,p⟩:=zU _ _ _ _ _ _ _ _ _ h1
 simp only [cb,ev] at c d
 obtain rfl:=c
 obtain rfl:=d
 refine ⟨⟨s,s1⟩,rfl,?_⟩
 simp only [List.map,Rows.uptoBulk,Rows.uptoBulkAll,ue] at o p ⊢
 omega
theorem Gq:Tryz.prog.cellsOf 66=1:=by kernel_rfl
theorem Ci:Tryz.prog.cellsOf 55=10:=by kernel_rfl
theorem Iy {α:Type} {l:List α} (h:l.length=10):∃a0 a a2 a3 a4 a5 c d g a9,l=[a0,a,a2,a3,a4,a5,c,d,g,a9]:=by
 match l,h with
 | [a0,a,a2,a3,a4,a5,c,d,g,a9],_=>exact ⟨a0,a,a2,a3,a4,a5,c,d,g,a9,rfl⟩
theorem B7:Tryz.prog.cellsOf 52=9:=by kernel_rfl
theorem II {α:Type} {l:List α} (h:l.length=9):∃a0 a a2 a3 a4 a5 c d g,l=[a0,a,a2,a3,a4,a5,c,d,g]:=by
 match l,h with
 | [a0,a,a2,a3,a4,a5,c,d,g],_=>exact ⟨a0,a,a2,a3,a4,a5,c,d,g,rfl⟩
def Az (x:fP):Nat:=ue x.Head+x.ir.size+ue x.B+ue x.C+x.gT.size
theorem Ik:ze pg0 52 gb Az:=by
 intro H o W base sp p fuel cs x h
 obtain ⟨xs,n,_,rfl,U,hlen,q⟩:=eu Tryz.underlying52 h
 obtain ⟨y0,y1,y2,y3,y4,y5,rfl⟩:=ET hlen
 obtain ⟨a,c1,c2,c,d,g,i,j,k,rfl⟩:=II (U.trans B7)
 have A:DataW.trod o pg0 W base sp p n 3 (([a,c1,c2,c,d,g,i,j,k].drop 0).take (Tryz.prog.cellsOf 3))=some y0:=q 0 _ rfl
 have h1:DataW.trod o pg0 W base sp p n 27 (([a,c1,c2,c,d,g,i,j,k].drop 1).take (Tryz.prog.cellsOf 27))=some y1:=q 1 _ rfl
 have G:DataW.trod o pg0 W base sp p n 9 (([a,c1,c2,c,d,g,i,j,k].drop 3).take (Tryz.prog.cellsOf 9))=some y2:=q 2 _ rfl
 have I:DataW.trod o pg0 W base sp p n 27 (([a,c1,c2,c,d,g,i,j,k].drop 4).take (Tryz.prog.cellsOf 27))=some y3:=q 3 _ rfl
 have J:DataW.trod o pg0 W base sp p n 27 (([a,c1,c2,c,d,g,i,j,k].drop 6).take (Tryz.prog.cellsOf 27))=some y4:=q 4 _ rfl
 have L:DataW.trod o pg0 W base sp p n 9 (([a,c1,c2,c,d,g,i,j,k].drop 8).take (Tryz.prog.cellsOf 9))=some y5:=q 5 _ rfl
 simp only [xY,Ep,zW,List.drop,List.take] at A h1 G I J L
 obtain ⟨Y,s,M⟩:=Dz _ _ _ _ _ _ _ _ _ A
 obtain ⟨s1,u,O⟩:=zI _ _ _ _ _ _ _ _ _ h1
 obtain ⟨s2,v,P⟩:=zU _ _ _ _ _ _ _ _ _ G
 obtain ⟨Z,w,Q⟩:=zI _ _ _ _ _ _ _ _ _ I
 obtain ⟨s4,y,R⟩:=zI _ _ _ _ _ _ _ _ _ J
 obtain ⟨s5,z,T⟩:=zU _ _ _ _ _ _ _ _ _ L
 simp only [fS,cb,ev] at s u v w y z
 obtain rfl:=s
 obtain ⟨rfl,rfl⟩:=u
 obtain rfl:=v
 obtain ⟨rfl,rfl⟩:=w
 obtain ⟨rfl,rfl⟩:=y
 obtain rfl:=z
 refine ⟨⟨Y,s1,s2,Z,s4,s5⟩,rfl,?_⟩
 simp only [List.map,Rows.uptoBulk,Rows.uptoBulkAll,Az] at M O P Q R T ⊢
 omega
theorem Gm:Tryz.prog.cellsOf 53=1:=by kernel_rfl
theorem Hl:Tryz.prog.cellsOf 5=1:=by kernel_rfl
theorem Ib:yC pg0 5 (Ea (Pl (fW .u8)) (λx=>0≤x∧x < 256)) (λ_=>0):=Gk Tryz.underlying5
def us (x:Signed):Nat:=Az x.fP+Ac (λ_:Int=>0) x.Tag+1
def E4 (x:Signed):Prop:=(∀y∈x.Tag,0≤y∧y < 256)
theorem Hg:yC pg0 55 (Ea gr E4) us:=by
 intro H U W base sp Y fuel cs x h
 obtain ⟨T,M,_,G,A,u,v⟩:=eu Tryz.underlying55 h
 obtain ⟨w,y,rfl⟩:=Fc u
 obtain ⟨a,c,d,g,i,j,k,n,o,p,rfl⟩:=Iy (A.trans Ci)
 have q:DataW.trod _ pg0 W _ _ _ M 52 (([a,c,d,g,i,j,k,n,o,p].drop 0).take (Tryz.prog.cellsOf 52))=some w:=v 0 _ rfl
 have s:DataW.trod _ pg0 W _ _ _ M 53 (([a,c,d,g,i,j,k,n,o,p].drop 9).take (Tryz.prog.cellsOf 53))=some y:=v 1 _ rfl
 simp only [B7,Gm,List.drop,List.take] at q s
 obtain ⟨s2,J,P⟩:=Ik _ _ _ _ _ _ _ _ _ q
 simp only [gb,fS,cb,ev] at J
 obtain ⟨rfl,rfl,rfl,rfl,rfl,rfl,rfl,rfl,rfl⟩:=J
 obtain ⟨v3,R,L,I,Q⟩:=sY Hl (by decide) Ib Tryz.underlying53 s
 simp only [cb,ev] at L
 obtain rfl:=L
 obtain ⟨I,g3⟩:=Lf.Sl.all I
 have O:=aC (λz=>Rows.uptoBulk z.1) G
 refine ⟨⟨s2,R⟩,⟨gr.mk ⟨_,rfl,I⟩,g3⟩,?_⟩
 simp only [List.map,Rows.uptoBulk,Rows.uptoBulkAll,us] at P Q O ⊢
 omega
def Cu (x:ie):Nat:=x.Name.size+Ac ue x.gA+Ac us x.gv+1
theorem I2:Tryz.prog.readableRec 68=true∧68 < Tryz.prog.types.size:=⟨by kernel_rfl,bW (by kernel_rfl)⟩
theorem IL:Tryz.prog.readableRec 69=true∧69 < Tryz.prog.types.size:=⟨by kernel_rfl,bW (by kernel_rfl)⟩
theorem Jb:Tryz.prog.readableRec 4=true∧4 < Tryz.prog.types.size:=⟨by kernel_rfl,bW (by kernel_rfl)⟩
theorem I7:ownKnob Tryz.prog.godebug=none:=by kernel_rfl
theorem Fi:laidOutB pg0=true:=by kernel_rfl
theorem E2:Tryz.prog.globalNamed "internal/strconv.uint64pow10"=some 3:=by kernel_rfl
theorem Fu:(Tryz.prog.globals[3]?).map (·.type)=some 331:=by kernel_rfl
theorem HC:Tryz.prog.cellsOf 331=20:=by kernel_rfl
theorem Hv:Tryz.prog.cellsOf 272=1:=by kernel_rfl
theorem Ae {P:Program} {x:String×DataW Unit} {r:List (String×DataW Unit)} {w:World} (h:laidMet P (x::r) w):laidMet P r w:=by
 obtain ⟨o,⟨g,t,cs,fuel,p,q,h1,j,k,n,a,rfl⟩,i,d⟩:=h
 exact ⟨q,a,(bz.1 i).2.1,λb off c=>d b off (aU.2 (.inr c))⟩
theorem IJ {W:World} (h:laidMetH pg0 Rows.traceBackUptoRow.laid W):xV pg0 (hp W):=by
 have c:laidMet pg0 (("math/bits.deBruijn32tab",Rows.laid_math_bits_deBruijn32tab)::("math/bits.deBruijn64tab",Rows.laid_math_bits_deBruijn64tab)::("internal/strconv.uint64pow10",Go.Lib.tabData .u64 Go.Lib.pow10Tab)::[("unicode/utf8.acceptRanges",Rows.laid_unicode_utf8_acceptRanges),("strconv.ErrRange",Rows.laid_strconv_ErrRange),("strconv.ErrSyntax",Rows.laid_strconv_ErrSyntax),("unicode/utf8.first",Rows.laid_unicode_utf8_first)]) W:=h
 have h1:=Go.Lib.tabIs_of_head (rest:=[("unicode/utf8.acceptRanges",Rows.laid_unicode_utf8_acceptRanges),("strconv.ErrRange",Rows.laid_strconv_ErrRange),("strconv.ErrSyntax",Rows.laid_strconv_ErrSyntax),("unicode/utf8.first",Rows.laid_unicode_utf8_first)]) E2 Fu Tryz.underlying331 Tryz.underlying272 Hv HC (Ae (Ae c))
 unfold Go.Lib.TabIs World.var? at h1
 rw [E2] at h1
 simp only [ay] at h1
 cases a:W.heap[3]? with
 | none=>rw [a] at h1; cases h1
 | some o=>
  rw [a] at h1
  cases o with
  | cells cs T fr=>
   obtain rfl:=dE h1
   exact ⟨3,_,_,E2,a⟩
  | _=>exact absurd (show (none:Option (Array Value))=some _ from h1) (λh=>by cases h)
def DS:Nat→DataW Unit→List Value
 | 0,_=>[]
 | n+1,.agg l=>(l.map (DS n)).flatten
 | _+1,.lit (.int k z)=>[Value.int k z]
 | _+1,_=>[]
def Ie (d:DataW Unit):Array Value:=(DS 8 d).toArray
def B5 (t:TypeId) (b:Nat) (o:Obj):Obj:=match o with | .cells _ ty frozen=>.cells #[.iface t (.pointer (some ⟨b,0,none⟩))] ty frozen | o=>o
def vJ (d:DataW Unit) (o:Obj):Obj:=match o with | .cells _ t frozen=>.cells (Ie d) t frozen | o=>o
theorem IM {W:World} (h:W.ShapedOpen pg0):yh pg0 (hp W):=by
 have a:∃m,W.cell? ⟨0,0,none⟩=some (.int .i64 m):=Go.Proofs.cell_of_shapedOpen_int (zero:=#[.int .i64 0]) (t:=3) h (bW (by kernel_rfl)) (by kernel_rfl) rfl (by kernel_rfl) (by kernel_rfl) Tryz.underlying3
 obtain ⟨m,hm⟩:=a
 unfold World.cell? at hm
 split at hm
 ·rename_i c T fr d
  exact ⟨0,m,c,T,fr,by kernel_rfl,d,by simpa using hm⟩
 ·cases hm
theorem E5 (H:Type) (enc:TypeId×Value→H) (W:World) (base:Nat) (args:Array Value) (ds gs:List (DataW H)) (before:List MemPlace) (k:∀(j:Nat) t v,Tryz.f9.params[j]? =some t→args[j]? =some v→Value.okWide pg0 W .any base t v) (hW:DataW.Whole enc pg0 Tryz.f9.params.toList Rows.traceBackSpec.vars false W args.toList ds gs before) (hk:Rows.uptoSmall H (ds++gs)=true) (hL:laidMetH pg0 Rows.traceBackUptoRow.laid W) (aa:W.ShapedOpen pg0) :
  Calls pg0 9 args W λe W'=>∃v,e= .returned v∧Rows.traceBackSpec.post enc pg0 Tryz.f9 false true false false W args v W':=by
 have ab:=hW
 obtain ⟨p,q,a8,hV,rfl,ao,ap⟩:=hW
 have hA:DataW.TrodAll enc pg0 W 0 (λ_=>true) true Tryz.f9.params.toList args.toList ds p:=a8
 have hr:∀t∈Tryz.f9.params.toList,Tryz.prog.readableRec t=true∧t < Tryz.prog.types.size:=by
  rw [Tryz.params9]
  intro t ht
  simp only [aS,dh,fA] at ht
  rcases ht with rfl | rfl | rfl
  ·exact I2
  ·exact IL
  ·exact Jb
 rw [Tryz.params9] at hA k
 obtain ⟨v0,aq,d0,ai,p0,q0,ad,rfl,rfl,h0,r0⟩:=trodAll_cons hA
 obtain ⟨v1,ar,d1,aj,p1,q1,rfl,rfl,rfl,h1,r1⟩:=trodAll_cons r0
 obtain ⟨v2,au,d2,ak,p2,q2,rfl,rfl,rfl,h2,r2⟩:=trodAll_cons r1
 obtain ⟨rfl,rfl,rfl⟩:=trodAll_nil r2
 obtain rfl:args=#[v0,v1,v2]:=by cases args; simp_all
 obtain ⟨rfl,rfl⟩:=trodVars_none hV
 have k0:=k 0 68 v0 rfl rfl
 have k1:=k 1 69 v1 rfl rfl
 have k2:=k 2 4 v2 rfl rfl
 obtain ⟨M,rfl,_⟩:=okWide_struct Tryz.underlying68 k0
 obtain ⟨al,P⟩:=h0
 obtain ⟨ah,rfl⟩:∃l:List Value,M=l.toArray:=⟨M.toList,by simp⟩
 change DataW.trod _ _ _ _ _ _ _ _ ah=some _ at P
 obtain ⟨av,L,_,ag,af,I,n⟩:=eu Tryz.underlying68 P
 obtain ⟨Q,R,T,U,Y,Z,rfl⟩:=ET I
 obtain ⟨d,g,h,i,a,c,rfl⟩:=ET (af.trans Gn)
 have s:DataW.trod _ pg0 W _ _ _ L 3 (([d,g,h,i,a,c].drop 0).take (Tryz.prog.cellsOf 3))=some Q:=n 0 _ rfl
 have u:DataW.trod _ pg0 W _ _ _ L 3 (([d,g,h,i,a,c].drop 1).take (Tryz.prog.cellsOf 3))=some R:=n 1 _ rfl
 have w:DataW.trod _ pg0 W _ _ _ L 3 (([d,g,h,i,a,c].drop 2).take (Tryz.prog.cellsOf 3))=some T:=n 2 _ rfl
 have y:DataW.trod _ pg0 W _ _ _ L 9 (([d,g,h,i,a,c].drop 3).take (Tryz.prog.cellsOf 9))=some U:=n 3 _ rfl
 have A:DataW.trod _ pg0 W _ _ _ L 65 (([d,g,h,i,a,c].drop 4).take (Tryz.prog.cellsOf 65))=some Y:=n 4 _ rfl
 have G:DataW.trod _ pg0 W _ _ _ L 66 (([d,g,h,i,a,c].drop 5).take (Tryz.prog.cellsOf 66))=some Z:=n 5 _ rfl
 simp only [Ep,Gu,Gq,zW,List.drop,List.take] at s u w y A G
 obtain ⟨s5,e5,b5⟩:=Dz _ _ _ _ _ _ _ _ _ s
 simp only [cb,ev] at e5
 obtain rfl:=e5
 obtain ⟨s6,e6,b6⟩:=Dz _ _ _ _ _ _ _ _ _ u
 simp only [cb,ev] at e6
 obtain rfl:=e6
 obtain ⟨s7,e7,b7⟩:=Dz _ _ _ _ _ _ _ _ _ w
 simp only [cb,ev] at e7
 obtain rfl:=e7
 obtain ⟨s8,e8,b8⟩:=zU _ _ _ _ _ _ _ _ _ y
 simp only [cb,ev] at e8
 obtain rfl:=e8
 obtain ⟨v9,s9,e9,q9,b9⟩:=sY xY (by decide) zI.rel Tryz.underlying65 A
 simp only [cb,ev] at e9
 obtain rfl:=e9
 obtain ⟨v10,o,O,J,a6⟩:=sY Ci (by decide) Hg Tryz.underlying66 G
 simp only [cb,ev] at O
 obtain rfl:=O
 obtain ⟨J,g10⟩:=Lf.Sl.all J
 have b4:=aC (λz=>Rows.uptoBulk z.1) ag
 simp only [List.map,Rows.uptoBulk,Rows.uptoBulkAll] at b5 b6 b7 b8 b9 a6 b4
 have z0:Cu (⟨s5,s6,s7,s8,s9,o⟩:ie)≤Rows.uptoBulk d0:=by simp only [Cu]; omega
 obtain ⟨a1,rfl⟩:=okWide_int Tryz.underlying69 k1
 obtain ⟨an,ae⟩:=h1
 obtain ⟨b1,⟨a7,z1⟩,_⟩:=Fh Tryz.underlying69 _ _ _ _ _ _ _ _ _ ae
 obtain rfl:a1=b1:=by simpa [Value.cells,Pl,fW] using a7
 obtain ⟨a2,rfl⟩:=okWide_bool Tryz.underlying4 k2
 have hB:Rows.uptoBulkAll ([d0,d1,d2]++[])≤1048576:=bW hk
 simp only [bQ,Rows.uptoBulkAll] at hB
 have hm:nw (⟨s5,s6,s7,s8,s9,o⟩:ie) a1 a2=some true:=xX GJ _ _ _ (by have:=BV us o; simp only [Cu] at z0; show o.length≤100000000; omega) (λx hx=>g10 x hx) (by omega)
 have hg:=wg (⟨s5,s6,s7,s8,s9,o⟩:ie) a c a1 a2 true W ⟨IJ hL,IM aa⟩ q9 J hm
 refine bk hg λe W' ⟨he,hx⟩=>?_
 subst he
 exact ⟨_,rfl,CH Fi hr rfl ab hx (λ_ _ _=>trodAll_cons_mk (shut_bool Tryz.underlying4 _) trodAll_mk0) rfl rfl (ok_one (by kernel_rfl) rfl (okWide_bool_mk Tryz.underlying4 _))⟩
noncomputable def EY (a:Array Obj):Array Obj:=(((((((((a.modify 4 (vJ Rows.laid_math_bits_deBruijn32tab)).modify 5 (vJ Rows.laid_math_bits_deBruijn64tab)).modify 3 (vJ Rows.laid_internal_strconv_uint64pow10)).modify 7 (vJ Rows.laid_unicode_utf8_acceptRanges)).modify 2 (B5 367 (a.size+0))).modify 1 (B5 367 (a.size+1))).modify 6 (vJ Rows.laid_unicode_utf8_first)).push (Obj.cells #[.string ⟨#[118,97,108,117,101,32,111,117,116,32,111,102,32,114,97,110,103,101]⟩] 369 (0,0))).push (Obj.cells #[.string ⟨#[105,110,118,97,108,105,100,32,115,121,110,116,97,120]⟩] 369 (0,0)))
noncomputable def vt (os:Os):World:={ World.holding pg0 os ⟨#[],#[],[]⟩ with heap:=EY (World.holding pg0 os ⟨#[],#[],[]⟩).heap }
theorem Fj (os:Os):laidMet pg0 Rows.traceBackUptoRow.laid ((vt os).forCall (λ_ _=>0) ⟨#[],#[.agg #[.int .i64 0,.int .i64 0,.int .i64 0,.string ⟨#[]⟩,.slice none 0 0,.slice none 0 0],.int .u16 0,.bool false],[]⟩).memory :=
 laidMet_of_run' 8 (by kernel_rfl) (by kernel_rfl)
theorem Ia (os:Os) {H:Type} (enc:TypeId×Value→H):∃places,DataW.whole enc pg0 ((vt os).forCall (λ_ _=>0) ⟨#[],#[.agg #[.int .i64 0,.int .i64 0,.int .i64 0,.string ⟨#[]⟩,.slice none 0 0,.slice none 0 0],.int .u16 0,.bool false],[]⟩).memory Tryz.f9.params.toList Rows.traceBackSpec.vars false #[.agg #[.int .i64 0,.int .i64 0,.int .i64 0,.string ⟨#[]⟩,.slice none 0 0,.slice none 0 0],.int .u16 0,.bool false].toList 8=some ([.agg [.lit (.int .i64 0),.lit (.int .i64 0),.lit (.int .i64 0),.lit (.string []),.nil,.nil],.lit (.int .u16 0),.lit (.bool false)],[],places) :=
 ⟨[],by kernel_rfl⟩
set_option maxRecDepth 100000 in
theorem Ha (os:Os) (started:os.Started) (H:Type) (enc:TypeId×Value→H) (F:Stop.Interp) :
  ReturnsInHanded {} Tryz.checked os 9 .any ((Rows.OpenSpec.upto Rows.traceBackSpec).preRow enc pg0 Tryz.f9 Rows.traceBackUptoRow.domain false Rows.traceBackUptoRow.laid) (((Rows.OpenSpec.upto Rows.traceBackSpec).at F).post enc pg0 Tryz.f9 false true false false):=by
 obtain ⟨places,j⟩:=Ia os enc
 refine returnsInHanded_of_row (C:=Tryz.checked) (s:=Rows.OpenSpec.upto Rows.traceBackSpec) I7 started (by kernel_rfl) Tryz.func9
  (witness_row_at (enc:=enc) (C:=Tryz.checked) false (vt os) #[.agg #[.int .i64 0,.int .i64 0,.int .i64 0,.string ⟨#[]⟩,.slice none 0 0,.slice none 0 0],.int .u16 0,.bool false] rfl (by kernel_rfl) (by kernel_rfl) (by kernel_rfl)
   (OpenSpec.preRow_of_cond 8 j (by kernel_rfl) (λk hk=>by cases hk; kernel_rfl) (by kernel_rfl) (Fj os))) ?_
 intro W base args g gs before c i _ a _ h d _
 exact E5 H enc W base args g gs before c i (a _ rfl) h d
theorem H2 {a b:Bool} (ha:a=true) (c:b=true):(a&&b)=true:=by rw [ha,c]; rfl
set_option maxHeartbeats 40000000 in
theorem Gh:joinedFacts Tryz.checked.prog 9 Tryz.f9 (Rows.OpenSpec.upto Rows.traceBackSpec).bare Rows.traceBackUptoRow=true:=by
 unfold joinedFacts
 repeat' with_reducible refine H2 ?_ ?_
 all_goals as_aux_lemma=>kernel_rfl
theorem IQ:Rows.TraceBackUptoSaid :=
 OpenClaim.holds_of_cond 9 Tryz.f9 rfl rfl rfl rfl rfl rfl rfl ⟨rfl,rfl,rfl,rfl,rfl⟩ rfl rfl rfl rfl rfl (by kernel_rfl) Tryz.func9 Gh
  (bW (by kernel_rfl)) (by unfold Func.isWrapper; first | (rw [aJ (by decide +kernel)]; kernel_rfl) | (rw [aK (by decide +kernel)]; exact ⟨rfl,rfl⟩))
  (λos started H enc _ F=>by rw [OpenClaim.pre_eq_preRow]; exact Ha os started H enc F)
theorem HE (f:FuncId) (fn:Func) (g:Tryz.pinned.checked.prog.funcNamed "entente/ententelaw39.TraceBack"=some f) (c:Tryz.pinned.checked.prog.funcs[f]? =some fn) :
  true=Tryz.pinned.checked.prog.looks []∧∀(j:Nat) t,fn.params[j]? =some t→Tryz.pinned.checked.prog.wantsStandIn t=false:=by
 obtain rfl:f=9:=dE ((show Tryz.prog.funcNamed "entente/ententelaw39.TraceBack"=some 9 by kernel_rfl).symm.trans g) |>.symm
 obtain rfl:fn=Tryz.f9:=(dE (Tryz.func9.symm.trans c)).symm
 refine ⟨by kernel_rfl,λj t d=>?_⟩
 rw [Tryz.params9] at d
 have hm:t∈[68,69,4]:=by simpa using Array.mem_of_getElem? d
 have a:([68,69,4].all λu=>!Tryz.prog.wantsStandIn u)=true:=by kernel_rfl
 exact (show Tryz.prog.wantsStandIn t=false by simpa using dU.1 a t hm)
theorem Jh:Rows.traceBackUptoRow.wfByText (Rows.OpenSpec.upto Rows.traceBackSpec)=true:=by kernel_rfl
theorem Jm:Tryz.pinned.checked.prog.mainIs=some (Rows.traceBackUptoCard.stood.harness.1,Rows.traceBackUptoCard.stood.harness.2.toList):=by kernel_rfl
theorem I4:false=Rows.traceBackUptoRow.goesBy Tryz.pinned.checked.prog:=by kernel_rfl
theorem proved:Rows.TraceBackUptoCardSaid :=
 Claim7.holds_tied_plain_at .later [] _ _ _ _ IQ (λ_ h=>by cases h) Jh (λ_ h=>by cases h) traceBackUpto_row_tie rfl ⟨rfl,rfl⟩ Jm rfl HE I4
end Go.Proofs.YtjjjihkifgdhgaaGreatDoor
