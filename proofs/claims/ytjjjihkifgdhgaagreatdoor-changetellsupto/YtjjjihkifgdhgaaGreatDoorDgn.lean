/- a part of a proof of ChangeTells -/
import Derived.Test.YtjjjihkifgdhgaaGreatDoorRtYn
import Derived.Test.YtjjjihkifgdhgaaGreatDoorDM7Mn
set_option linter.all false
namespace Go.Proofs.YtjjjihkifgdhgaaGreatDoor
open Go.IntKind renaming wrap → wi0
open Go.RowKit
section
variable {α:Type}
structure SWO (lt:α→α→Bool):Prop where
 Kj:∀x,lt x x=false
 tr:∀x y z,lt x y=true→lt y z=true→lt x z=true
 H5:∀x y z,lt x z=true→lt x y=true∨lt y z=true
variable {lt:α→α→Bool}
theorem SWO.asym (h:SWO lt) {x y:α} (a:lt x y=true):lt y x=false:=by
 cases e:lt y x
 ·rfl
 ·have:=h.tr _ _ _ a e; rw [h.Kj] at this; cases this
def tl (lt:α→α→Bool) (p q:α×Nat):Prop:=lt p.1 q.1=true∨(lt q.1 p.1=false∧p.2 < q.2)
theorem EC (h:SWO lt) {p q r:α×Nat} (a:tl lt p q) (b:tl lt q r):tl lt p r:=by
 unfold tl at *
 rcases a with a | ⟨a,a2⟩ <;> rcases b with b | ⟨b,d⟩
 ·exact .inl (h.tr _ _ _ a b)
 ·rcases h.H5 _ r.1 _ a with c | c
  ·exact .inl c
  ·rw [b] at c; cases c
 ·rcases h.H5 _ p.1 _ b with c | c
  ·rw [a] at c; cases c
  ·exact .inl c
 ·refine .inr ⟨?_,by omega⟩
  cases e:lt r.1 p.1
  ·rfl
  ·rcases h.H5 _ q.1 _ e with c | c
   ·rw [b] at c; cases c
   ·rw [a] at c; cases c
theorem Ro (h:SWO lt) {p q:α×Nat} (a:tl lt p q) (b:tl lt q p):False:=by
 have c:=EC h a b
 rcases c with c | ⟨_,c⟩
 ·rw [h.Kj] at c; cases c
 ·omega
abbrev oe (lt:α→α→Bool) (t:List (α×Nat)):Prop:=t.Pairwise (tl lt)
theorem IA (h:SWO lt):∀{t u:List (α×Nat)},oe lt t→oe lt u→t.Perm u→t=u
 | [],u,_,_,hp=>by rw [List.nil_perm] at hp; exact hp.symm
 | p::t,[],_,_,hp=>by simp at hp
 | p::t,q::u,h1,i,hp=>by
  have e:p=q:=by
   rcases aY.1 (hp.mem_iff.1 (.head _)) with e | j
   ·exact e
   ·rcases aY.1 (hp.mem_iff.2 (.head _)) with e | d
    ·exact e.symm
    ·exact (Ro h ((bU.1 h1).1 _ d) ((bU.1 i).1 _ j)).elim
  subst e
  rw [IA h (bU.1 h1).2 (bU.1 i).2 (List.Perm.cons_inv hp)]
def DN (lt:α→α→Bool) (l:List α) (k:α):List α:=l.filter (λx=>!lt k x)++k::l.filter (λx=>lt k x)
def yz (lt:α→α→Bool) (l:List α):List α:=l.foldl (DN lt) []
def HA (lt:α→α→Bool) (t:List (α×Nat)) (k:α×Nat):List (α×Nat):=t.filter (λx=>!lt k.1 x.1)++k::t.filter (λx=>lt k.1 x.1)
theorem PT (t:List (α×Nat)) (k:α×Nat):(HA lt t k).map (·.1)=DN lt (t.map (·.1)) k.1:=by
 simp [HA,DN,List.filter_map,jA]
theorem Pp (t:List (α×Nat)) (k:α×Nat):(HA lt t k).Perm (t++[k]):=by
 unfold HA
 refine List.perm_middle.trans ?_
 refine (List.Perm.cons _ ?_).trans (gv k t).symm
 have:=List.filter_append_perm (λx:α×Nat=>!lt k.1 x.1) t
 simpa using this
theorem QJ (h:SWO lt) {t:List (α×Nat)} {k:α×Nat} (p:oe lt t) (hk:∀x∈t,x.2 < k.2):oe lt (HA lt t k):=by
 unfold HA oe
 rw [dG,bU]
 refine ⟨p.filter _,⟨λx i=>?_,p.filter _⟩,λx i y j=>?_⟩
 ·exact .inl (cQ.1 i).2
 ·obtain ⟨h1,n⟩:=cQ.1 i
  simp only [fU,] at n
  have d:tl lt x k:=.inr ⟨n,hk x h1⟩
  rcases aY.1 j with rfl | j
  ·exact d
  ·exact EC h d (.inl (cQ.1 j).2)
theorem Ty (h:SWO lt) (l:List α):∃t,oe lt t∧t.Perm l.zipIdx∧t.map (·.1)=yz lt l:=by
 suffices H:∀(l r:List α) (t:List (α×Nat)),oe lt t→t.Perm r.zipIdx→∃u,oe lt u∧u.Perm (r++l).zipIdx∧u.map (·.1)=l.foldl (DN lt) (t.map (·.1)) by
  obtain ⟨u,h1,d,j⟩:=H l [] [] .nil (by simp)
  exact ⟨u,h1,by simpa using d,j⟩
 intro l
 induction l with
 | nil=>intro r t h1 d; exact ⟨t,h1,by simpa using d,rfl⟩
 | cons k l ih=>
  intro r t h1 d
  obtain ⟨u,i,a2,a3⟩:=ih (r++[k]) (HA lt t (k,r.length)) (QJ h h1 (λx n=>by
   obtain ⟨a,b⟩:=x
   have:=List.snd_lt_of_mem_zipIdx (d.mem_iff.1 n)
   simpa using this)) ((Pp t _).trans (by rw [ju]; simpa using d.append_right _))
  refine ⟨u,i,by simpa using a2,?_⟩
  rw [a3,PT]
  rfl
theorem I9 (h:SWO lt) {l:List α} {t:List (α×Nat)} (h1:oe lt t) (i:t.Perm l.zipIdx):t.map (·.1)=yz lt l:=by
 obtain ⟨u,d,a2,a3⟩:=Ty h l
 rw [←a3,IA h h1 d (i.trans a2.symm)]
end
section
variable {α:Type} {lt:α→α→Bool}
abbrev Lk (lt:α→α→Bool) (A B:List (α×Nat)):Prop:=∀A' a b B',A=A'++[a]→B=b::B'→tl lt a b
theorem Bo (h:SWO lt) {A B:List (α×Nat)} (n:oe lt A) (p:oe lt B) (l:Lk lt A B):∀a∈A,∀b∈B,tl lt a b:=by
 intro a ha b hb
 rcases dO A with rfl | ⟨A',z,rfl⟩
 ·cases ha
 cases B with
 | nil=>cases hb
 | cons y B'=>
  have h1:tl lt z y:=l A' z y B' (by simp) rfl
  have d:a=z∨tl lt a z:=by
   simp only [eK,aV,bH] at ha
   rcases ha with ha | ha
   ·refine .inr ?_
    simp only [eK,oe,dG] at n
    exact n.2.2 a ha z (by simp)
   ·exact .inl ha
  have i:b=y∨tl lt y b:=by
   rcases aY.1 hb with hb | hb
   ·exact .inl hb
   ·exact .inr ((bU.1 p).1 b hb)
  have j:tl lt a y:=by
   rcases d with rfl | d
   ·exact h1
   ·exact EC h d h1
  rcases i with rfl | i
  ·exact j
  ·exact EC h j i
theorem Ez (h:SWO lt) {A B:List (α×Nat)} (d:oe lt A) (i:oe lt B) (l:Lk lt A B):oe lt (A++B) :=
 dG.2 ⟨d,i,Bo h d i l⟩
theorem oe.left {A B:List (α×Nat)} (h:oe lt (A++B)):oe lt A:=(dG.1 h).1
theorem oe.right {A B:List (α×Nat)} (h:oe lt (A++B)):oe lt B:=(dG.1 h).2.1
theorem oe.two {A B:List (α×Nat)} (h:oe lt (A++B)):∀a∈A,∀b∈B,tl lt a b:=(dG.1 h).2.2
theorem AN (h:SWO lt) {A B:List (α×Nat)} {x:α×Nat} (d:oe lt (A++B)) (j:Lk lt A [x]) (n:Lk lt [x] B):oe lt (A++x::B):=by
 have h1:=Bo h d.left (fV _ x) j
 have i:=Bo h (fV _ x) d.right n
 refine dG.2 ⟨d.left,bU.2 ⟨λb hb=>i x (by simp) b hb,d.right⟩,λa ha b hb=>?_⟩
 rcases aY.1 hb with rfl | hb
 ·exact h1 a ha _ (by simp)
 ·exact d.two a ha b hb
theorem Na (h:SWO lt) {A1 A2 B1 B2 C1 C2:List (α×Nat)} (d:oe lt (A1++A2)) (i:oe lt (B1++B2)) (n:Lk lt A1 B2) (p:Lk lt B1 A2) (q:C1.Perm (A1++B1)) (r:C2.Perm (A2++B2)) (h1:oe lt C1) (j:oe lt C2):oe lt (C1++C2):=by
 have x1:=Bo h d.left i.right n
 have x2:=Bo h i.left d.right p
 refine dG.2 ⟨h1,j,λa ha b hb=>?_⟩
 rcases aV.1 (q.mem_iff.1 ha) with ha | ha <;> rcases aV.1 (r.mem_iff.1 hb) with hb | hb
 ·exact d.two a ha b hb
 ·exact x1 a ha b hb
 ·exact x2 a ha b hb
 ·exact i.two a ha b hb
end
section
variable {α:Type}
theorem BR (p q:List α) (x y:α):(p++x::q).set p.length y=p++y::q:=by simp
theorem Bv (p q:List α) (x y:α) (n:Nat) (h:n=p.length):(p++x::q).set n y=p++y::q:=by subst h; simp
theorem B5 (p m q:List α) (x y:α):((p++x::(m++y::q)).set p.length y).set (p.length+1+m.length) x=p++y::(m++x::q):=by
 rw [BR]
 have:p++y::(m++y::q)=(p++y::m)++y::q:=by simp
 rw [this,show p.length+1+m.length=(p++y::m).length by simp; omega,BR]
 simp
theorem Jf (p m q:List α) (x y:α):((p++x::(m++y::q)).set (p.length+1+m.length) x).set p.length y=p++y::(m++x::q):=by
 rw [List.set_comm _ _ (by omega),B5]
theorem rj {l:List α} {n:Nat} (h:n≤l.length):∃a b,l=a++b∧a.length=n:=⟨l.take n,l.drop n,(iY n l).symm,by simp [h]⟩
end
theorem Ti {c x:Bool}:(if c=true then some x else some false:Option Bool)=some (c&&x):=by cases c <;> rfl
theorem QX {c x:Bool}:(if c=true then some true else some x:Option Bool)=some (c||x):=by cases c <;> rfl
theorem si {α:Type} (x:Option α):(x.bind λy=>some y)=x:=by cases x <;> rfl
theorem mi {x:Int} (d:-9223372036854775808≤x) (h1:x≤9223372036854775807):wi0 .i64 x=x:=IntWalk.i64_in _ (by omega)
theorem mD {α:Type} (A:List α) (x:α) (B:List α) (i:Int) (h:i=(A.length:Int)):lM (A++x::B) i=some x:=by
 subst h; rw [DW]; simp
theorem mJ:li=18446744073709551615+1:=by rw [AX]
def EV {α:Type} (f1:α→Option Bool) (z:α):Nat→List α→Int→Int→Option (List α)
 | 0,_,_,_=>none
 | n+1,l,i,j=>if decide (j < (l.length:Int)) then
   ((lM l j).bind λx=>(f1 x).bind λr=>if (!r) then (lM l i).bind λ_=>some (l.set (Int.toNat i) x,wi0 .i64 (i+1)) else some (l,i):Option (List α×Int)).bind λ(p,d)=>EV f1 z n p d (wi0 .i64 (j+1))
  else (wy (decide (0≤i)&&decide (i≤(l.length:Int)))).bind λ_=>(wy (decide (0≤i)&&decide (i≤((qp l (Int.toNat i) z).length:Int)))).bind λ_=>some ((qp l (Int.toNat i) z).take (Int.toNat i))
theorem Fy {a b:Int} (d:0≤a) (h1:a≤b):wy (decide (0≤a)&&decide (a≤b))=some ():=by simp [wy,d,h1]
theorem KW {α:Type} (f1:α→Option Bool) (p:α→Bool) (z:α):∀(rest out mid:List α) (n:Nat),rest.length < n→(out++mid++rest).length < 4611686018427387904→mid≠[]→(∀x∈rest,f1 x=some (p x))→
  EV f1 z n (out++mid++rest) (out.length:Int) ((out.length+mid.length:Nat):Int)=some (out++rest.filter λx=>!p x)
 | [],out,mid,0,h,_,_,_=>by simp at h
 | [],out,mid,n+1,_,i,hm,_=>by
  rw [EV,cI (by simp)]
  have h1:out.length≤(out++mid++[]).length:=by simp
  rw [Fy (by omega) (by omega)]
  simp only [aA]
  rw [Fy (by omega) (by rw [wU _ _ _ (by simpa using h1)]; omega)]
  simp only [aA,dC]
  rw [Hn _ _ _ h1]
  simp
 | x::rest,out,mid,0,h,_,_,_=>by simp at h
 | x::rest,out,mid,n+1,h,i,hm,j=>by
  have hlen:(out++mid++x::rest).length=out.length+mid.length+rest.length+1:=by simp; omega
  rw [hlen] at i
  rw [EV,cE (by rw [hlen]; simp; omega)]
  rw [mD (out++mid) x rest _ (by simp)]
  simp only [aA,j x (by simp)]
  rw [mi (x:=((out.length+mid.length:Nat):Int)+1) (by omega) (by omega)]
  have ih:=KW f1 p z rest
  cases hp:p x with
  | true=>
   simp only [cY,aB,aN,aA]
   have:=ih out (mid++[x]) n (by simp at h; omega) (by simp; omega) (by simp) (λy q=>j y (by simp [q]))
   simp only [aW,bY,bM,aC,aJ,bD] at this ⊢
   rw [show ((out.length+mid.length:Nat):Int)+1=((out.length+(mid.length+(0+1)):Nat):Int) by omega,this]
   simp [hp]
  | false=>
   obtain ⟨m,d,rfl⟩:∃m d,mid=m::d:=by cases mid with
    | nil=>exact absurd rfl hm
    | cons m d=>exact ⟨m,d,rfl⟩
   simp only [dY,aS]
   rw [aW out (m::d) (x::rest),bY]
   rw [mD out m (d++x::rest) _ rfl]
   simp only [aA]
   rw [mi (x:=(out.length:Int)+1) (by omega) (by simp at i; omega)]
   have:=ih (out++[x]) (d++[x]) n (by simp at h; omega) (by simp at i ⊢; omega) (by simp) (λy q=>j y (by simp [q]))
   simp only [aW,bY,bM,aC,aJ,bD] at this
   have r:(out++m::(d++x::rest)).set (Int.toNat (out.length:Int)) x=out++x::(d++x::rest):=by
    rw [dC,List.set_append_right _ _ (aQ _)]; simp
   rw [r]
   simp only [aJ] at i ⊢
   rw [show (out.length:Int)+1=((out.length+(0+1):Nat):Int) by omega,show ((out.length+(d.length+1):Nat):Int)+1=((out.length+(0+1)+(d.length+(0+1)):Nat):Int) by omega,this]
   simp [hp]
def zQ {α:Type} (f1:α→Option Bool):List α→Nat→Option Int
 | [],_=>some (-1)
 | x::xs,i=>(f1 x).bind λr=>if r then some (i:Int) else zQ f1 xs (i+1)
theorem Cu {α:Type} (f1:α→Option Bool) (p:α→Bool):∀(l:List α) (i:Nat),(∀x∈l,f1 x=some (p x))→
  (zQ f1 l i=some (-1)∧∀x∈l,p x=false)∨∃A x B,l=A++x::B∧(∀y∈A,p y=false)∧p x=true∧zQ f1 l i=some ((i+A.length:Nat):Int)
 | [],i,_=>.inl ⟨rfl,by simp⟩
 | x::l,i,h=>by
  rw [zQ,h x (by simp)]
  simp only [aA]
  cases hp:p x with
  | true=>exact .inr ⟨[],x,l,rfl,by simp,hp,by simp⟩
  | false=>
   simp only [aB,aN]
   rcases Cu f1 p l (i+1) (λy d=>h y (by simp [d])) with ⟨h1,j⟩ | ⟨A,y,B,rfl,h1,j,q⟩
   ·exact .inl ⟨h1,by intro y d; rcases aY.1 d with rfl | d; exact hp; exact j y d⟩
   ·refine .inr ⟨x::A,y,B,rfl,?_,j,?_⟩
    ·intro z n; rcases aY.1 n with rfl | n
     ·exact hp
     ·exact h1 z n
    ·rw [q]; simp; omega
def IZ {α:Type} (f1:α→Option Bool) (z:α) (l:List α):Option (List α) :=
 (zQ f1 l 0).bind λr1=>if (r1==(-1)) then some l else EV f1 z li l r1 (wi0 .i64 (r1+1))
theorem KE {α:Type} (f1:α→Option Bool) (p:α→Bool) (z:α) (l:List α) (j:l.length < 4611686018427387904) (h:∀x∈l,f1 x=some (p x)):IZ f1 z l=some (l.filter λx=>!p x):=by
 unfold IZ
 rcases Cu f1 p l 0 h with ⟨h1,i⟩ | ⟨A,x,B,rfl,h1,i,n⟩
 ·rw [h1]
  simp only [aA,cK,aS]
  rw [iD.2 (λy d=>by simp [i y d])]
 ·rw [n]
  simp only [aA,gG]
  rw [cI (by simp),mi (by omega) (by simp at j; omega)]
  have:=KW f1 p z B A [x] li (by rw [AX]; simp at j; omega) (by simpa using j) (by simp) (λy d=>h y (by simp [d]))
  simp only [aW,bY,bM,aJ,bD] at this
  rw [show (A.length:Int)+1=((A.length+(0+1):Nat):Int) by omega,this]
  have q:A.filter (λx=>!p x)=A:=iD.2 (λy d=>by simp [h1 y d])
  rw [jv,q]
  simp [i]
def ri {α:Type} (eq:α→α→Bool):α→List α→List α
 | _,[]=>[]
 | p,y::ys=>if eq y p then ri eq y ys else y::ri eq y ys
def dd {α:Type} (eq:α→α→Bool):List α→List α
 | []=>[]
 | x::xs=>x::ri eq x xs
def CM {α:Type} (eq:α→α→Bool) (i:Int):Nat→List α→Int→Int→Option (List α×Int)
 | 0,_,_,_=>none
 | n+1,l,k,j=>if decide (j < ((l.length-Int.toNat i:Nat):Int)) then
   ((lM (l.drop (Int.toNat i)) j).bind λx=>(lM (l.drop (Int.toNat i)) (wi0 .i64 (j-1))).bind λy=>if !(eq x y) then (lM (l.drop (Int.toNat i)) j).bind λz=>(lM l k).bind λ_=>some (l.set (Int.toNat k) z,wi0 .i64 (k+1)) else some (l,k):Option (List α×Int)).bind λ(d,k')=>CM eq i n d k' (wi0 .i64 (j+1))
  else some (l,k)
def Dw {α:Type} (eq:α→α→Bool) (z:α) (l:List α):Nat→Int→Option (List α)
 | 0,_=>none
 | n+1,i=>if decide (i < (l.length:Int)) then (lM l i).bind λx=>(lM l (wi0 .i64 (i-1))).bind λy=>if eq x y then
    (wy (decide (0≤i)&&decide (i≤(l.length:Int)))).bind λ_=>(CM eq i li l i 1).bind λ(d,k)=>(wy (decide (0≤k)&&decide (k≤(d.length:Int)))).bind λ_=>(wy (decide (0≤k)&&decide (k≤((qp d (Int.toNat k) z).length:Int)))).bind λ_=>some ((qp d (Int.toNat k) z).take (Int.toNat k))
   else Dw eq z l n (wi0 .i64 (i+1))
  else some l
def KN {α:Type} (eq:α→α→Bool) (z:α) (l:List α):Option (List α):=if decide ((l.length:Int) < 2) then some l else Dw eq z l li 1
theorem Kc {α:Type} (l:List α) (i:Nat) (j:Int) (d:0≤j):lM (l.drop i) j=lM l ((i:Int)+j):=by
 obtain ⟨m,rfl⟩:∃m:Nat,j=m:=⟨j.toNat,by omega⟩
 rw [show (i:Int)+(m:Int)=((i+m:Nat):Int) by omega,DW,DW,eP]
theorem HR {α:Type} (eq:α→α→Bool) (i:Nat):∀(rest out mid:List α) (p:α) (n:Nat),rest.length < n→(out++(mid++[p])++rest).length < 4611686018427387904→1≤i→i≤out.length→
  ∃j,CM eq (i:Int) n (out++(mid++[p])++rest) (out.length:Int) ((out.length+mid.length+1-i:Nat):Int)=some (j,((out++ri eq p rest).length:Int))∧j.take (out++ri eq p rest).length=out++ri eq p rest∧(out++ri eq p rest).length≤j.length
 | [],out,mid,p,0,h,_,_,_=>by simp at h
 | [],out,mid,p,n+1,h,v,h1,u=>by
  rw [CM,cI (by simp; omega)]
  exact ⟨out++(mid++[p])++[],by simp [ri],by simp [ri],by simp [ri]⟩
 | x::rest,out,mid,p,0,h,_,_,_=>by simp at h
 | x::rest,out,mid,p,n+1,h,v,h1,u=>by
  have hlen:(out++(mid++[p])++x::rest).length=out.length+mid.length+rest.length+2:=by simp; omega
  rw [hlen] at v
  rw [CM,cE (by rw [hlen]; simp; omega)]
  rw [dC,Kc _ _ _ (by omega),mD (out++(mid++[p])) x rest _ (by simp; omega)]
  simp only [aA]
  rw [mi (x:=((out.length+mid.length+1-i:Nat):Int)-1) (by omega) (by omega),Kc _ _ _ (by omega)]
  rw [show out++(mid++[p])++x::rest=(out++mid)++p::(x::rest) by simp]
  rw [mD (out++mid) p (x::rest) _ (by simp; omega)]
  simp only [aA]
  rw [mi (x:=((out.length+mid.length+1-i:Nat):Int)+1) (by omega) (by omega)]
  cases hp:eq x p with
  | true=>
   simp only [cY,aB,aN,aA]
   obtain ⟨j,q,r,s⟩:=HR eq i rest out (mid++[p]) x n (by simp at h; omega) (by simp; omega) h1 u
   refine ⟨j,?_,by rw [ri,hp]; exact r,by rw [ri,hp]; exact s⟩
   rw [ri,hp,cE rfl,←q]
   congr 1
   ·simp
   ·simp; omega
  | false=>
   simp only [dY,aS]
   obtain ⟨m,d,hm⟩:∃m d,mid++[p]=m::d:=by cases mid with
    | nil=>exact ⟨p,[],rfl⟩
    | cons m d=>exact ⟨m,d++[p],rfl⟩
   have z:d.length=mid.length:=by have:=bO List.length hm; simp at this; omega
   rw [show (out++mid)++p::(x::rest)=out++m::(d++x::rest) by rw [←bY,←hm]; simp]
   rw [mD out m (d++x::rest) _ rfl]
   simp only [aA]
   rw [mi (x:=(out.length:Int)+1) (by omega) (by omega)]
   have A:(out++m::(d++x::rest)).set (Int.toNat (out.length:Int)) x=(out++[x])++(d++[x])++rest:=by
    rw [dC,List.set_append_right _ _ (aQ _)]; simp
   rw [A]
   obtain ⟨j,q,r,s⟩:=HR eq i rest (out++[x]) d x n (by simp at h; omega) (by simp; omega) h1 (by simp; omega)
   refine ⟨j,?_,?_,?_⟩
   ·rw [ri,hp,cI (by decide)]
    have w:((out++x::ri eq x rest).length:Int)=((out++[x]++ri eq x rest).length:Int):=by simp
    rw [w,←q]
    congr 1
    ·simp
    ·simp; omega
   ·rw [ri,hp,cI (by decide)]; simpa using r
   ·rw [ri,hp,cI (by decide)]; simpa using s
theorem Lw {α:Type} (eq:α→α→Bool) (z:α):∀(rest pre:List α) (p:α) (n:Nat),rest.length < n→(pre++p::rest).length < 4611686018427387904→
  Dw eq z (pre++p::rest) n ((pre.length+1:Nat):Int)=some (pre++p::ri eq p rest)
 | [],pre,p,0,h,_=>by simp at h
 | [],pre,p,n+1,h,r=>by rw [Dw,cI (by simp)]; simp [ri]
 | x::rest,pre,p,0,h,_=>by simp at h
 | x::rest,pre,p,n+1,h,r=>by
  have hlen:(pre++p::x::rest).length=pre.length+rest.length+2:=by simp; omega
  rw [hlen] at r
  rw [Dw,cE (by rw [hlen]; simp; omega)]
  rw [show pre++p::x::rest=(pre++[p])++x::rest by simp,mD (pre++[p]) x rest _ (by simp)]
  simp only [aA]
  rw [mi (x:=((pre.length+1:Nat):Int)-1) (by omega) (by omega)]
  rw [show (pre++[p])++x::rest=pre++p::(x::rest) by simp,mD pre p (x::rest) _ (by omega)]
  simp only [aA]
  cases hp:eq x p with
  | true=>
   simp only [aS]
   rw [Fy (by omega) (by rw [hlen]; omega)]
   simp only [aA]
   obtain ⟨s,d,q,j⟩:=HR eq (pre.length+1) rest (pre++[p]) [] x li (by rw [AX]; omega) (by simp; omega) (by omega) (by simp)
   simp only [aW,bY,bM,aC,aJ,bD] at d q j
   rw [show (pre.length+(0+1)+0+1-(pre.length+1):Nat)=1 by omega] at d
   rw [show ((pre.length+1:Nat):Int)=((pre.length+(0+1):Nat):Int) by omega] at *
   have i:CM eq ((pre.length+(0+1):Nat):Int) li (pre++p::x::rest) ((pre.length+(0+1):Nat):Int) 1=_:=d
   rw [i]
   simp only [aA]
   rw [Fy (by omega) (by omega)]
   simp only [aA,dC]
   rw [Fy (by omega) (by rw [wU _ _ _ j]; omega)]
   simp only [aA]
   rw [Hn _ _ _ j,q,ri,hp]
   simp
  | false=>
   simp only [aB,aN]
   rw [mi (x:=((pre.length+1:Nat):Int)+1) (by omega) (by omega)]
   have:=Lw eq z rest (pre++[p]) x n (by simp at h; omega) (by simp; omega)
   simp only [aW,bY,bM,aC,aJ,bD] at this
   rw [show ((pre.length+1:Nat):Int)+1=((pre.length+(0+1)+1:Nat):Int) by omega,this,ri,hp]
   simp
theorem LF {α:Type} (eq:α→α→Bool) (z:α) (l:List α) (d:l.length < 4611686018427387904):KN eq z l=some (dd eq l):=by
 unfold KN
 cases l with
 | nil=>rfl
 | cons x xs=>
  cases xs with
  | nil=>simp [dd,ri]
  | cons y ys=>
   rw [cI (by simp; omega)]
   have:=Lw eq z (y::ys) [] x li (by rw [AX]; simp at d ⊢; omega) (by simpa using d)
   simpa [dd] using this
structure Cx {α:Type} (lt:α→α→Prop) (P:α→Prop):Prop where
 irrefl:∀x,P x→¬lt x x
 trans:∀x y z,P x→P y→P z→lt x y→lt y z→lt x z
 total:∀x y,P x→P y→lt x y∨x=y∨lt y x
def yl {α:Type} (lt:α→α→Prop) (P:α→Prop) (l out:List α):Prop:=out.Pairwise lt∧∀x,x∈out↔x∈l∧P x
theorem yl.unique {α:Type} {lt:α→α→Prop} {P:α→Prop} (H:Cx lt P):∀{l a b:List α},yl lt P l a→yl lt P l b→a=b:=by
 have key:∀a b:List α,(∀x∈a,P x)→a.Pairwise lt→b.Pairwise lt→(∀x,x∈a↔x∈b)→a=b:=by
  intro a
  induction a with
  | nil=>intro b _ _ _ hm; cases b with
   | nil=>rfl
   | cons y ys=>exact absurd ((hm y).2 (by simp)) (by simp)
  | cons x xs ih=>
   intro b q ha hb hm
   cases b with
   | nil=>exact absurd ((hm x).1 (by simp)) (by simp)
   | cons y ys=>
    have r:P y:=q y ((hm y).2 (by simp))
    have d:P x:=q x (by simp)
    have i:=bU.1 ha
    have j:=bU.1 hb
    have s:x=y:=by
     rcases aY.1 ((hm x).1 (by simp)) with h | h
     ·exact h
     ·rcases aY.1 ((hm y).2 (by simp)) with p | p
      ·exact p.symm
      ·exact absurd (H.trans x y x d r d (i.1 y p) (j.1 x h)) (H.irrefl x d)
    subst s
    congr 1
    refine ih ys (λz n=>q z (by simp [n])) i.2 j.2 (λz=>?_)
    constructor
    ·intro n
     rcases aY.1 ((hm z).1 (by simp [n])) with h | h
     ·subst h; exact absurd (i.1 z n) (H.irrefl z d)
     ·exact h
    ·intro n
     rcases aY.1 ((hm z).2 (by simp [n])) with h | h
     ·subst h; exact absurd (j.1 z n) (H.irrefl z d)
     ·exact h
 intro l a b ha hb
 exact key a b (λx u=>((ha.2 x).1 u).2) ha.1 hb.1 (λx=>(ha.2 x).trans (hb.2 x).symm)
theorem EO {α:Type} {eq:α→α→Bool} (he:∀x y,eq x y=true↔x=y):∀(l:List α) (p x:α),x∈p::ri eq p l↔x∈p::l
 | [],p,x=>by simp [ri]
 | y::l,p,x=>by
  rw [ri]
  split
  ·rename_i h
   have:=(he y p).1 h
   subst this
   rw [EO he l y x]; simp
  ·have:=EO he l y x
   simp only [aY] at this ⊢
   rw [this]
theorem Sm {α:Type} {eq:α→α→Bool} (he:∀x y,eq x y=true↔x=y) (l:List α) (x:α):x∈dd eq l↔x∈l:=by
 cases l with
 | nil=>simp [dd]
 | cons y l=>exact EO he l y x
theorem Dx {α:Type} {eq:α→α→Bool} {lt:α→α→Prop} {P:α→Prop} (he:∀x y,eq x y=true↔x=y) (H:Cx lt P):∀(l:List α) (p:α),(∀x∈p::l,P x)→(p::l).Pairwise (λa b=>¬lt b a)→(p::ri eq p l).Pairwise lt
 | [],p,_,_=>by simp [ri]
 | y::l,p,d,u=>by
  have h1:=bU.1 u
  rw [ri]
  split
  ·rename_i h
   have:=(he y p).1 h
   subst this
   exact Dx he H l y (λx n=>d x (gF _ n)) h1.2
  ·rename_i h
   have ih:=Dx he H l y (λx n=>d x (gF _ n)) h1.2
   refine bU.2 ⟨λz s=>?_,ih⟩
   have j:lt p y:=by
    rcases H.total p y (d p (by simp)) (d y (by simp)) with i | i | i
    ·exact i
    ·exact absurd ((he y p).2 i.symm) h
    ·exact absurd i (h1.1 y (by simp))
   rcases aY.1 s with rfl | q
   ·exact j
   ·have r:z∈y::l:=(EO he l y z).1 s
    exact H.trans p y z (d p (by simp)) (d y (by simp)) (d z (gF _ r)) j ((bU.1 ih).1 z q)
theorem Ov {α:Type} {eq:α→α→Bool} {lt:α→α→Prop} {P:α→Prop} (he:∀x y,eq x y=true↔x=y) (H:Cx lt P) (l:List α) (d:∀x∈l,P x) (i:l.Pairwise (λa b=>¬lt b a)):(dd eq l).Pairwise lt:=by
 cases l with
 | nil=>simp [dd]
 | cons y l=>exact Dx he H l y d i
theorem JN {α:Type} {le:α→α→Bool} {P:α→Prop} (n:∀a b c,P a→P b→P c→le a b=true→le b c=true→le a c=true) (j:∀a b,P a→P b→(le a b||le b a)=true) (l:List α) (d:∀x∈l,P x) :
  (l.mergeSort le).Pairwise (λa b=>le a b=true):=by
 have e:l=(l.attachWith P d).map Subtype.val:=by simp
 have hm:((l.attachWith P d).mergeSort λa b=>le a.1 b.1).map Subtype.val=l.mergeSort le:=by
  conv=>rhs; rw [e]
  exact List.map_mergeSort (λa _ b _=>rfl)
 rw [←hm,iM]
 exact List.pairwise_mergeSort (le:=λ(a b:{x // P x})=>le a.1 b.1) (λa b c h1 i=>n a.1 b.1 c.1 a.2 b.2 c.2 h1 i) (λa b=>j a.1 b.1 a.2 b.2) _
theorem Mg {α:Type} {eq:α→α→Bool} {lt:α→α→Prop} {P:α→Prop} {cf:α×α→Option Int} {l:List α} (he:∀x y,eq x y=true↔x=y) (H:Cx lt P) (i:∀x∈l,P x) (I:l.length < 4611686018427387904) (G:∀x y,P x→P y→∃c,cf (x,y)=some c∧(c < 0↔lt x y)):∃s,Dn cf l=some s∧s.length=l.length∧yl lt P l (dd eq s):=by
 have n:∀x y,P x→P y→(ub cf x y=true↔lt x y):=λx y j r=>by
  obtain ⟨c,h1,q⟩:=G x y j r
  unfold ub
  rw [h1]
  simpa using q
 have d:∀x y,P x→P y→(ub cf x y=false↔¬lt x y):=λx y j r=>by
  rw [←n x y j r]; simp
 have ok:Cg cf l:=by
  refine ⟨λx j y r=>?_,λx j=>?_,λx j y r z A h1 q=>?_,λx j y r h1 q=>?_,I⟩
  ·obtain ⟨c,h1,_⟩:=G x y (i x j) (i y r); exact ⟨c,h1⟩
  ·exact (d x x (i x j) (i x j)).2 (H.irrefl x (i x j))
  ·rw [n _ _ (i x j) (i y r)] at h1
   rw [n _ _ (i y r) (i z A)] at q
   rw [n _ _ (i x j) (i z A)]
   exact H.trans x y z (i x j) (i y r) (i z A) h1 q
  ·rw [d _ _ (i x j) (i y r)] at h1
   rw [d _ _ (i y r) (i x j)] at q
   rcases H.total x y (i x j) (i y r) with h | h | h
   ·exact absurd h h1
   ·exact h
   ·exact absurd h q
 refine ⟨_,QF ok,by simp [sT],?_,?_⟩
 ·have p:∀x,x∈sT cf l↔x∈l:=λx=>by simp [sT]
  refine Ov he H _ (λx j=>i x ((p x).1 j)) ?_
  have:=JN (le:=λx y=>!ub cf y x) (P:=P) (λa b c ha hb u h1 q=>?_) (λa b ha hb=>?_) l i
  ·refine (this.imp_of_mem ?_:_)
   intro a b ha hb h
   have v:a∈l:=(p a).1 ha
   have w:b∈l:=(p b).1 hb
   simp at h
   exact (d b a (i b w) (i a v)).1 h
  ·simp at h1 q ⊢
   rw [d _ _ hb ha] at h1
   rw [d _ _ u hb] at q
   rw [d _ _ u ha]
   intro E
   rcases H.total a b ha hb with h | h | h
   ·exact q (H.trans c a b u ha hb E h)
   ·subst h; exact q E
   ·exact h1 h
  ·simp only [iJ,fU]
   rw [d _ _ hb ha,d _ _ ha hb]
   by_cases h:lt b a
   ·right; intro q; exact H.irrefl a ha (H.trans a b a ha hb ha q h)
   ·exact .inl h
 ·intro x
  rw [Sm he]
  constructor
  ·intro j
   have:x∈l:=by simpa [sT] using j
   exact ⟨this,i x this⟩
  ·intro j; simpa [sT] using j.1
theorem Bq:∀a:List UInt8,Op.bytesLess a a=false
 | []=>rfl
 | x::a=>by simp [Op.bytesLess,Bq a]
theorem Lu (x y:UInt8):x < y∨x=y∨y < x:=by
 rcases Nat.lt_trichotomy x.toNat y.toNat with h | h | h
 ·exact .inl h
 ·exact .inr (.inl (UInt8.toNat_inj.1 h))
 ·exact .inr (.inr h)
theorem zi:∀a b c:List UInt8,Op.bytesLess a b=true→Op.bytesLess b c=true→Op.bytesLess a c=true
 | [],[],c,h1,_=>by simp [Op.bytesLess] at h1
 | _::_,[],c,h1,_=>by simp [Op.bytesLess] at h1
 | a,_::_,[],_,d=>by simp [Op.bytesLess] at d
 | [],b::bs,c::cs,_,_=>rfl
 | a::ax,b::bs,c::cs,h1,d=>by
  simp only [Op.bytesLess,iJ,cX,bQ,beq_iff_eq] at h1 d ⊢
  rcases h1 with h1 | ⟨rfl,h1⟩
  ·rcases d with d | ⟨rfl,d⟩
   ·exact .inl (UInt8.lt_trans h1 d)
   ·exact .inl h1
  ·rcases d with d | ⟨rfl,d⟩
   ·exact .inl d
   ·exact .inr ⟨rfl,zi ax bs cs h1 d⟩
theorem Cc:∀a b:List UInt8,Op.bytesLess a b=true∨a=b∨Op.bytesLess b a=true
 | [],[]=>.inr (.inl rfl)
 | [],_::_=>.inl rfl
 | _::_,[]=>.inr (.inr rfl)
 | a::ax,b::bs=>by
  simp only [Op.bytesLess,iJ,cX,bQ,beq_iff_eq,aK]
  rcases Lu a b with h | h | h
  ·exact .inl (.inl h)
  ·subst h
   rcases Cc ax bs with h | h | h
   ·exact .inl (.inr ⟨rfl,h⟩)
   ·exact .inr (.inl ⟨rfl,h⟩)
   ·exact .inr (.inr (.inr ⟨rfl,h⟩))
  ·exact .inr (.inr (.inl h))
theorem GB:∀a b:List UInt8,(Lib.compareBytes a b < 0↔Op.bytesLess a b=true)
 | [],[]=>by simp [Lib.compareBytes,Op.bytesLess]
 | [],_::_=>by simp [Lib.compareBytes,Op.bytesLess]
 | _::_,[]=>by simp [Lib.compareBytes,Op.bytesLess]
 | a::ax,b::bs=>by
  simp only [Lib.compareBytes,Op.bytesLess,iJ,cX,bQ,beq_iff_eq]
  by_cases h:a < b
  ·simp [h]
  ·by_cases i:b < a
   ·have:a≠b:=by rintro rfl; exact h i
    simp [h,i,this]
   ·have:a=b:=by rcases Lu a b with d | d | d; exact absurd d h; exact d; exact absurd d i
    subst this
    simp [h,GB ax bs]
theorem LC:∀a b:List UInt8,(Lib.compareBytes a b=0↔a=b)
 | [],[]=>by simp [Lib.compareBytes]
 | [],_::_=>by simp [Lib.compareBytes]
 | _::_,[]=>by simp [Lib.compareBytes]
 | a::ax,b::bs=>by
  simp only [Lib.compareBytes,aK]
  by_cases h:a < b
  ·simp only [h,aS]
   constructor
   ·intro h; cases h
   ·rintro ⟨rfl,_⟩; exact absurd h (by simp)
  ·by_cases i:b < a
   ·simp only [h,i,aS,aN]
    constructor
    ·intro h; cases h
    ·rintro ⟨rfl,_⟩; exact absurd i (by simp)
   ·have:a=b:=by rcases Lu a b with d | d | d; exact absurd d h; exact d; exact absurd d i
    subst this
    simp [h,LC ax bs]
theorem BT (a b:ByteArray):zy a b=Op.bytesLess a.data.toList b.data.toList:=by unfold zy; rw [iB,iB]
theorem xA {a b:ByteArray} (h:a.data.toList=b.data.toList):a=b:=iE (Array.toList_inj.1 h)
theorem EI (a:ByteArray):zy a a=false:=by rw [BT,Bq]
theorem JE {a b c:ByteArray} (h1:zy a b=true) (d:zy b c=true):zy a c=true:=by rw [BT] at *; exact zi _ _ _ h1 d
theorem Jm (a b:ByteArray):zy a b=true∨a=b∨zy b a=true:=by
 rw [BT,BT]
 rcases Cc a.data.toList b.data.toList with h | h | h
 ·exact .inl h
 ·exact .inr (.inl (xA h))
 ·exact .inr (.inr h)
def CC (b:UInt8):Bool:=decide (97≤b.toNat)&&decide (b.toNat≤122)
def Em (b:UInt8):Bool:=CC b||(decide (48≤b.toNat)&&decide (b.toNat≤57))||decide (b.toNat=45)
def qf (s:ByteArray):Bool:=decide (1≤s.size)&&decide (s.size≤16)&&(match s.data.toList with | []=>false | b::_=>CC b)&&s.data.toList.all Em
theorem oT {s:ByteArray} (h:qf s=true):1≤s.size∧s.size≤16:=by
 simp only [qf,bQ,cX] at h
 exact h.1.1
theorem NA:∀n:Nat,n < 256→decide (yn (⟨#[97,98,99,100,101,102,103,104,105,106,107,108,109,110,111,112,113,114,115,116,117,118,119,120,121,122]⟩:ByteArray) (n:Int)≥0)=CC (UInt8.ofNat n):=by decide +kernel
theorem QA:∀n:Nat,n < 256→decide (yn (⟨#[97,98,99,100,101,102,103,104,105,106,107,108,109,110,111,112,113,114,115,116,117,118,119,120,121,122,48,49,50,51,52,53,54,55,56,57,45]⟩:ByteArray) (n:Int) < 0)=!Em (UInt8.ofNat n):=by decide +kernel
theorem xV (s:ByteArray):s.size=s.data.toList.length:=by rw [dP]; rfl
theorem Ha {s:ByteArray} (h:s.size≤16):Er s=some (nQ s):=by
 unfold Er; rw [cE (by unfold maxLen; omega)]
theorem KF:∀l:List UInt8,we (l.map λb=>(b.toNat:Int))=some (l.all Em)
 | []=>rfl
 | b::l=>by
  rw [bA,we]
  simp only [td,qj,aA]
  have hb:=QA b.toNat (jw b)
  rw [hb]
  simp only [jE,List.all_cons]
  cases Em b with
  | true=>simp [KF l]
  | false=>simp
theorem Jt {s:ByteArray} {b:UInt8} {l:List UInt8} (h:s.data.toList=b::l):BD s 0=some b:=by
 unfold BD
 rw [cE (Int.le_refl 0)]
 have d:s.data[0]? =some b:=by rw [←eJ,h]; rfl
 show s[0]? =some b
 rw [←d]
 rfl
theorem xw (s:ByteArray):sD s=some (qf s):=by
 unfold sD
 simp only [Ti,aA,si]
 by_cases h1:1≤s.size
 ·by_cases d:s.size≤16
  ·rw [cE (by simp; omega)]
   obtain ⟨b,l,i⟩:∃b l,s.data.toList=b::l:=by
    cases h:s.data.toList with
    | nil=>rw [xV,h] at h1; simp at h1
    | cons b l=>exact ⟨b,l,rfl⟩
   rw [Jt i]
   simp only [aA,td,qj]
   rw [NA b.toNat (jw b)]
   simp only [jE,qf,h1,d,i,bJ,iH]
   cases CC b with
   | false=>simp
   | true=>
    simp only [aS,Dv,Ha d,aA,nQ]
    rw [KF,i]
    simp
  ·rw [cI (by simp; omega)]
   simp [qf,d]
 ·rw [cI (by simp; omega)]
  simp [qf,h1]
theorem Rg {s:ByteArray} {A B:List UInt8} {b:UInt8} (h:s.data.toList=A++b::B) (i:Int) (j:i=(A.length:Int)):BD s i=some b:=by
 subst j
 unfold BD
 rw [cE (by omega),dC]
 have d:s.data[A.length]? =some b:=by rw [←eJ,h]; simp
 show s[A.length]? =some b
 rw [←d]
 rfl
theorem F3 (s:ByteArray) (I:s.size≤16):∀(B A:List UInt8) (n:Nat),s.data.toList=A++B→B.length < n→rE s n (A.length:Int)=some (B.all Em)
  | [],A,0,_,h=>by simp at h
  | [],A,n+1,h,_=>by
    have:s.size=A.length:=by rw [xV,h]; simp
    rw [rE,cI (by rw [this]; simp)]
    rfl
  | b::B,A,0,_,h=>by simp at h
  | b::B,A,n+1,h,G=>by
    have u:s.size=A.length+B.length+1:=by rw [xV,h]; simp; omega
    rw [rE,cE (by rw [u]; simp; omega)]
    rw [Rg h _ rfl]
    simp only [aA]
    rw [mi (x:=(A.length:Int)+1) (by omega) (by omega)]
    have ih:=F3 s I B (A++[b]) n (by rw [h]; simp) (by simp at G; omega)
    rw [show ((A++[b]).length:Int)=(A.length:Int)+1 by simp] at ih
    simp only [List.all_cons]
    have r:∀n:Nat,n < 256→Em (UInt8.ofNat n)=!((decide (n < 97)||decide (n > 122))&&(decide (n < 48)||decide (n > 57))&&decide (n≠45)):=by decide +kernel
    have hb:=r b.toNat (jw b)
    simp only [jE] at hb
    rw [hb]
    by_cases h1:b.toNat < 97 <;> by_cases v:b.toNat > 122 <;> by_cases w:b.toNat < 48 <;> by_cases z:b.toNat > 57 <;> by_cases E:b.toNat=45 <;>
      first
      | omega
      | (have d:((b.toNat:Int) < 97)=(b.toNat < 97):=by rw [gU]; omega
         have i:((b.toNat:Int) > 122)=(b.toNat > 122):=by rw [gU]; omega
         have j:((b.toNat:Int) < 48)=(b.toNat < 48):=by rw [gU]; omega
         have p:((b.toNat:Int) > 57)=(b.toNat > 57):=by rw [gU]; omega
         have q:((b.toNat:Int) != 45)=!decide (b.toNat=45):=by rw [cZ]; simp; omega
         simp [h1,v,w,z,E,d,i,j,p,q,ih])
theorem xN (a:ByteArray):lQ a a=true:=qk.2 rfl
theorem QZ {s:ByteArray}:s=zS↔s.size=0:=by
 constructor
 ·rintro rfl; rfl
 ·intro h; exact xA (by rw [xV] at h; rw [fF.1 h]; rfl)
theorem Cm (s:ByteArray):us s=some (qf s):=by
 unfold us
 simp only [QX,aA,si]
 by_cases i:s.size=0
 ·have:s=zS:=QZ.2 i
  subst this
  rw [xN]
  rfl
 ·have hb:lQ s zS=false:=by
   cases h:lQ s zS with
   | false=>rfl
   | true=>exact absurd (QZ.1 (qk.1 h)) i
  rw [hb]
  simp only [Bool.false_or]
  by_cases j:s.size≤16
  ·rw [cI (by simp; omega)]
   obtain ⟨b,l,p⟩:∃b l,s.data.toList=b::l:=by
    cases h:s.data.toList with
    | nil=>rw [xV,h] at i; simp at i
    | cons b l=>exact ⟨b,l,rfl⟩
   rw [Jt p]
   simp only [aA,QX]
   have q:=F3 s j s.data.toList [] li rfl (by rw [AX,←xV]; omega)
   simp only [bD] at q
   rw [show (0:Int)=((0:Nat):Int) from rfl] at *
   rw [q]
   have n:((b.toNat:Int) < 97)=(b.toNat < 97):=by rw [gU]; omega
   have d:((b.toNat:Int) > 122)=(b.toNat > 122):=by rw [gU]; omega
   have h1:1≤s.size:=by omega
   simp only [qf,h1,j,p,CC,bJ,iH,n,d]
   by_cases a:b.toNat < 97
   ·simp [a,show ¬97≤b.toNat by omega]
   ·by_cases c:b.toNat > 122
    ·simp [a,c,show ¬b.toNat≤122 by omega]
    ·simp [a,c,show 97≤b.toNat by omega,show b.toNat≤122 by omega]
  ·rw [cE (by simp; omega)]
   simp [qf,j]
def mu (r:kz):Bool:=qf r.kA&&qf r.Word
theorem xo (r:kz):qS r=some (mu r):=by
 unfold qS mu
 simp only [xw,aA]
 cases qf r.kA <;> simp
theorem zm (r:kz):sN r=some (mu r):=by
 unfold sN mu
 simp only [Cm,aA]
 cases qf r.kA <;> simp
def wh (a b:kz):Bool:=zy a.kA b.kA||(lQ a.kA b.kA&&zy a.Word b.Word)
theorem zL (a b:kz):vZ a b=some (wh a b):=by
 unfold vZ wh
 cases zy a.kA b.kA <;> cases lQ a.kA b.kA <;> simp
theorem BV {a b:kz}:wh a b=true↔zy a.kA b.kA=true∨(a.kA=b.kA∧zy a.Word b.Word=true):=by
 simp [wh,qk]
theorem Bb (P:kz→Prop):Cx (λa b=>wh a b=true) P:=by
 refine ⟨λx _ h=>?_,λx y z _ _ _ h1 d=>?_,λx y _ _=>?_⟩
 ·rw [BV] at h
  simp [EI] at h
 ·rw [BV] at *
  rcases h1 with h1 | ⟨j,h1⟩
  ·rcases d with d | ⟨i,d⟩
   ·exact .inl (JE h1 d)
   ·exact .inl (by rw [←i]; exact h1)
  ·rcases d with d | ⟨i,d⟩
   ·exact .inl (by rw [j]; exact d)
   ·exact .inr ⟨j.trans i,JE h1 d⟩
 ·simp only [BV]
  rcases Jm x.kA y.kA with h | h | h
  ·exact .inl (.inl h)
  ·rcases Jm x.Word y.Word with d | d | d
   ·exact .inl (.inr ⟨h,d⟩)
   ·refine .inr (.inl ?_)
    cases x; cases y; simp at h d; simp [h,d]
   ·exact .inr (.inr (.inr ⟨h.symm,d⟩))
  ·exact .inr (.inr (.inl h))
theorem yA (a b:kz):∃c,oR a b=some c∧(c < 0↔wh a b=true):=by
 unfold oR
 simp only [vR,rM,aA,B9,xp]
 have h1:∀a b:ByteArray,(vD a b < 0↔zy a b=true):=λa b=>by rw [BT]; exact GB _ _
 have i:∀a b:ByteArray,(vD a b=0↔a=b):=λa b=>by
  unfold vD; rw [LC]; exact ⟨xA,λh=>by rw [h]⟩
 by_cases e:vD a.kA b.kA=0
 ·rw [cI (by simp [e])]
  have e':=(i _ _).1 e
  by_cases d:vD a.Word b.Word=0
  ·rw [cI (by simp [d])]
   refine ⟨0,rfl,?_⟩
   rw [BV,e',(i _ _).1 d]
   simp [EI]
  ·rw [cE (by simp [d])]
   refine ⟨_,rfl,?_⟩
   rw [BV,e',h1]
   simp [EI]
 ·rw [cE (by simp [e])]
  refine ⟨_,rfl,?_⟩
  rw [BV,h1]
  have:a.kA≠b.kA:=λh=>e ((i _ _).2 h)
  simp [this]
def zR:kz:=⟨zS,zS⟩
theorem Jq (a b:ByteArray):lQ a b=lQ b a:=by rw [cZ,qk,qk]; exact eq_comm
theorem Gg (a b:kz):lq a b=lq b a:=by rw [cZ,ny,ny]; exact eq_comm
theorem Ak (a:kz):lq a a=true:=ny.2 rfl
def nW (c:kC):Bool:=mu c.Head&&(
 if c.Kind==1 then qf c.mC&&lq zR c.B&&lq zR c.C&&lQ zS c.mA
 else if c.Kind==2 then mu c.B&&lQ zS c.mC&&lq zR c.C&&lQ zS c.mA
 else if c.Kind==3 then mu c.B&&lQ c.B.kA c.Head.kA&&qf c.mA&&lQ zS c.mC&&lq zR c.C
 else if c.Kind==4 then mu c.B&&mu c.C&&wh c.B c.C&&lQ zS c.mC&&lQ zS c.mA
 else false)
theorem Ai (c:kC):tW c=some (nW c):=by
 unfold tW nW
 simp only [xo,xw,aA]
 obtain ⟨k,hk,d⟩:=yA c.B c.C
 rw [hk]
 have i:decide (k < 0)=wh c.B c.C:=by rw [cZ,←d]; simp
 simp only [aA,i]
 by_cases h1:c.Kind=1
 ·cases mu c.Head <;> cases qf c.mC <;> simp [h1,lL,Ak,xN,zR,jx]
 ·by_cases j:c.Kind=2
  ·cases mu c.Head <;> cases mu c.B <;> simp [j,lL,Ak,xN,zR,jx]
  ·by_cases n:c.Kind=3
   ·cases mu c.Head <;> cases mu c.B <;> cases lQ c.B.kA c.Head.kA <;> cases qf c.mA <;> simp [n,lL,Ak,xN,zR,jx]
   ·by_cases p:c.Kind=4
    ·cases mu c.Head <;> cases mu c.B <;> cases mu c.C <;> cases wh c.B c.C <;> simp [p,lL,Ak,xN,zR,jx]
    ·simp [h1,j,n,p]
theorem Cj (c:kC):wZ c=some (nW c):=by
 unfold wZ nW
 simp only [zm,Cm,zL,aA]
 rw [show (⟨zS,zS⟩:kz)=zR from rfl,Gg c.B zR,Gg c.C zR,Jq c.mA zS,Jq c.mC zS]
 by_cases h1:c.Kind=1
 ·cases mu c.Head <;> cases qf c.mC <;> cases lq zR c.B <;> cases lq zR c.C <;> simp [h1]
 ·by_cases d:c.Kind=2
  ·cases mu c.Head <;> cases mu c.B <;> cases lQ zS c.mC <;> cases lq zR c.C <;> simp [d]
  ·by_cases i:c.Kind=3
   ·cases mu c.Head <;> cases mu c.B <;> cases lQ zS c.mC <;> cases lq zR c.C <;> cases lQ c.B.kA c.Head.kA <;> simp [i]
   ·by_cases j:c.Kind=4
    ·cases mu c.Head <;> cases mu c.B <;> cases lQ zS c.mC <;> cases lQ zS c.mA <;> cases mu c.C <;> simp [j]
    ·cases mu c.Head <;> cases mu c.B <;> cases lQ zS c.mC <;> simp [h1,d,i,j]
theorem qg {α:Type} {b:Nat} {l m:List α} (h:(l.length+m.length)*b≤140737488355328) (d:l.length+m.length≤9223372036854775807):oB b l m=some (l++m):=by
 unfold oB; rw [cE ⟨h,by unfold maxLen; omega⟩]
theorem HQ {l m:List Int} (h:l.length+m.length≤1000000):oB 1 l m=some (l++m):=qg (by omega) (by omega)
def xu (s:ByteArray):List Int:=(s.size:Int)::nQ s
def tP (r:kz):List Int:=xu r.kA++xu r.Word
def Av (c:kC):List Int:=if c.Kind=1 then xu c.mC else if c.Kind=2 then tP c.B else if c.Kind=3 then tP c.B++xu c.mA else tP c.B++tP c.C
def uH (c:kC):List Int:=c.Kind::(tP c.Head++Av c)
theorem uV (s:ByteArray):(xu s).length=s.size+1:=by simp [xu,oK]
theorem qP {r:kz} (h:mu r=true):(tP r).length≤34:=by
 simp only [mu,bQ] at h
 have h1:=oT h.1
 have d:=oT h.2
 simp [tP,uV]; omega
theorem zu {l:List Int} {n:Int} (d:0≤n) (h1:n < 128) (i:l.length≤100000):pC l n=some (true,l++[n]):=by
 have hw:IntKind.u8.wrap n=n:=by
  obtain ⟨k,rfl⟩:∃k:Nat,n=k:=⟨n.toNat,by omega⟩
  have:∀k:Nat,k < 128→IntKind.u8.wrap (k:Int)=(k:Int):=by decide +kernel
  exact this k (by omega)
 unfold pC
 rw [cI (by simp; omega),mJ,ru,cI (by simp; omega),hw,HQ (by simp; omega)]
 rfl
theorem GL {l:List Int} {s:ByteArray} (h:qf s=true) (d:l.length≤10000):vc l s=some (true,l++xu s):=by
 have h1:=oT h
 unfold vc
 simp only [xw,aA,h,aS,Ha h1.2]
 unfold yB
 rw [cI (by rw [oK]; simp; omega)]
 rw [oK,zu (by omega) (by omega) (by omega)]
 simp only [aA]
 rw [HQ (by simp [oK]; omega)]
 simp [xu]
theorem LA {l:List Int} {r:kz} (h:mu r=true) (i:l.length≤9000):ry l r=some (true,l++tP r):=by
 have d:=h
 simp only [mu,bQ] at h
 have h1:=oT h.1
 unfold ry
 simp only [xo,aA,d,aS]
 rw [GL h.1 (by omega)]
 simp only [aA,aS]
 rw [GL h.2 (by simp [uV]; omega)]
 simp [tP]
theorem Ei {l:List Int} {r:kz} (h:mu r=true) (d:l.length≤1000):ry l r=some (true,l++tP r):=LA h (by omega)
theorem Bf {c:kC} (h:nW c=true):mu c.Head=true:=by
 simp only [nW,bQ] at h; exact h.1
theorem su {c:kC} (h:nW c=true) :
  (c.Kind=1∧qf c.mC=true∧c.B=zR∧c.C=zR∧c.mA=zS)∨
  (c.Kind=2∧mu c.B=true∧c.mC=zS∧c.C=zR∧c.mA=zS)∨
  (c.Kind=3∧mu c.B=true∧qf c.mA=true∧c.B.kA=c.Head.kA∧c.mC=zS∧c.C=zR)∨
  (c.Kind=4∧mu c.B=true∧mu c.C=true∧wh c.B c.C=true∧c.mC=zS∧c.mA=zS):=by
 simp only [nW,bQ] at h
 obtain ⟨_,h⟩:=h
 split at h
 ·rename_i h1
  simp only [bQ,ny,qk] at h
  exact .inl ⟨by simpa using h1,h.1.1.1,h.1.1.2.symm,h.1.2.symm,h.2.symm⟩
 ·split at h
  ·rename_i h1
   simp only [bQ,ny,qk] at h
   exact .inr (.inl ⟨by simpa using h1,h.1.1.1,h.1.1.2.symm,h.1.2.symm,h.2.symm⟩)
  ·split at h
   ·rename_i h1
    simp only [bQ,ny,qk] at h
    exact .inr (.inr (.inl ⟨by simpa using h1,h.1.1.1.1,h.1.1.2,h.1.1.1.2,h.1.2.symm,h.2.symm⟩))
   ·split at h
    ·rename_i h1
     simp only [bQ,ny,qk] at h
     exact .inr (.inr (.inr ⟨by simpa using h1,h.1.1.1.1,h.1.1.1.2,h.1.1.2,h.1.2.symm,h.2.symm⟩))
    ·cases h
theorem Da (c:kC):xO c=some (if nW c then uH c else []):=by
 unfold xO
 rw [Ai]
 simp only [aA]
 cases h:nW c with
 | false=>simp
 | true=>
  have n:=Bf h
  have p:=qP n
  simp only [cY,aB,aN,aS]
  have hk:0≤c.Kind∧c.Kind < 128:=by rcases su h with h | h | h | h <;> omega
  rw [zu hk.1 hk.2 (by simp)]
  simp only [aA]
  rw [Ei n (by simp)]
  simp only [aA,uZ,vB]
  rcases su h with ⟨k,h1,_⟩ | ⟨k,h1,_⟩ | ⟨k,h1,d,_⟩ | ⟨k,h1,d,_⟩
  ·have i:=oT h1
   simp only [k,cK,aS,GL h1 (show (([]++[(1:Int)])++tP c.Head).length≤10000 by simp; omega),aA]
   rw [HQ (by simp [uV]; omega)]
   simp [uH,Av,k]
  ·have i:=qP h1
   simp only [k,show ((2:Int)==1)=false from rfl,aB,cK,aS,aN,Ei h1 (show (([]++[(2:Int)])++tP c.Head).length≤1000 by simp; omega),aA]
   rw [HQ (by simp; omega)]
   simp [uH,Av,k]
  ·have i:=qP h1
   have j:=oT d
   simp only [k,show ((3:Int)==1)=false from rfl,show ((3:Int)==2)=false from rfl,aB,cK,aS,aN,Ei h1 (show (([]++[(3:Int)])++tP c.Head).length≤1000 by simp; omega),aA]
   rw [GL d (by simp; omega)]
   simp only [aA]
   rw [HQ (by simp [uV]; omega)]
   simp [uH,Av,k]
  ·have i:=qP h1
   have j:=qP d
   simp only [k,show ((4:Int)==1)=false from rfl,show ((4:Int)==2)=false from rfl,show ((4:Int)==3)=false from rfl,aB,cK,aS,aN,Ei h1 (show (([]++[(4:Int)])++tP c.Head).length≤1000 by simp; omega),aA]
   rw [Ei d (by simp; omega)]
   simp only [aA]
   rw [HQ (by simp; omega)]
   simp [uH,Av,k]
def BE (l:List Int):ByteArray:=⟨(wz l).toArray⟩
theorem CA (l:List Int):(BE l).data.toList=wz l:=rfl
theorem ID:∀(l:List Int) (r:ByteArray),(l.foldl (λr n=>r.push (UInt8.ofNat n.toNat)) r).data.toList=r.data.toList++wz l
 | [],r=>by simp [wz]
 | x::l,r=>by
  rw [gW,ID l]
  show ((r.data.push _).toList)++_=_
  simp [wz]
theorem Mx (l:List Int):sP l=BE l:=xA (by unfold sP; rw [ID]; rfl)
theorem HT (l:List Int):(BE l).size=l.length:=by rw [xV,CA]; simp [wz]
theorem NP (a b:List Int):wz (a++b)=wz a++wz b:=by simp [wz]
theorem xe (a b:List Int) (h:a.length+b.length≤1000000):lY (BE a) (BE b)=some (BE (a++b)):=by
 unfold lY
 rw [cI]
 ·congr 1
  refine xA ?_
  rw [CA,NP,←CA a,←CA b]
  exact ByteArray.toList_data_append▸rfl
 ·rw [HT,HT]
  show ¬(_ > (9223372036854775807:Int))
  omega
theorem E3 (s:ByteArray):BE (nQ s)=s:=xA (by rw [CA]; simp [wz,nQ,jA])
theorem JC {n:Int} (d:0≤n) (h1:n < 128):wx n=some (BE [n]):=by
 have hw:IntKind.u8.wrap n=n:=by
  obtain ⟨k,rfl⟩:∃k:Nat,n=k:=⟨n.toNat,by omega⟩
  have:∀k:Nat,k < 128→IntKind.u8.wrap (k:Int)=(k:Int):=by decide +kernel
  exact this k (by omega)
 unfold wx
 rw [mJ,uE,cI (by simp; omega),hw,Mx,show zS=BE [] from rfl,xe _ _ (by simp)]
 rfl
theorem GJ {s:ByteArray} (h:qf s=true):ve s=some (BE (xu s)):=by
 have h1:=oT h
 unfold ve
 rw [JC (by omega) (by omega)]
 simp only [aA]
 have:=xe [(s.size:Int)] (nQ s) (by rw [oK]; simp; omega)
 rw [E3] at this
 rw [this]
 simp [xu]
theorem En {r:kz} (h:mu r=true):vy r=some (BE (tP r)):=by
 simp only [mu,bQ] at h
 have h1:=oT h.1
 have d:=oT h.2
 unfold vy
 rw [GJ h.1,GJ h.2]
 simp only [aA]
 rw [xe _ _ (by simp [uV]; omega)]
 rfl
theorem Ch (c:kC):wO c=some (BE (if nW c then uH c else [])):=by
 unfold wO
 rw [Cj]
 simp only [aA]
 cases h:nW c with
 | false=>rfl
 | true=>
  have n:=Bf h
  have p:=qP n
  simp only [cY,aB,aN,aS]
  have hk:0≤c.Kind∧c.Kind < 128:=by rcases su h with h | h | h | h <;> omega
  unfold Bx
  rw [JC hk.1 hk.2,En n]
  simp only [aA]
  rw [xe _ _ (by simp; omega)]
  simp only [aA]
  rcases su h with ⟨k,h1,_⟩ | ⟨k,h1,_⟩ | ⟨k,h1,d,_⟩ | ⟨k,h1,d,_⟩
  ·have i:=oT h1
   simp only [k,cK,aS,GJ h1,aA]
   rw [xe _ _ (by simp [uV]; omega)]
   simp [uH,Av,k]
  ·have i:=qP h1
   simp only [k,show ((2:Int)==1)=false from rfl,show ((2:Int)==3)=false from rfl,show ((2:Int)==4)=false from rfl,aB,aN,En h1,aA]
   rw [xe _ _ (by simp; omega)]
   simp [uH,Av,k]
  ·have i:=qP h1
   have j:=oT d
   simp only [k,show ((3:Int)==1)=false from rfl,show ((3:Int)==4)=false from rfl,aB,cK,aS,aN,En h1,aA]
   rw [xe _ _ (by simp; omega)]
   simp only [aA,GJ d]
   rw [xe _ _ (by simp [uV]; omega)]
   simp [uH,Av,k]
  ·have i:=qP h1
   have j:=qP d
   simp only [k,show ((4:Int)==1)=false from rfl,show ((4:Int)==3)=false from rfl,aB,cK,aS,aN,En h1,aA]
   rw [xe _ _ (by simp; omega)]
   simp only [aA,En d]
   rw [xe _ _ (by simp; omega)]
   simp [uH,Av,k]
def Ce (c:kC):List UInt8:=wz (if nW c then uH c else [])
def yI (a b:kC):Bool:=Op.bytesLess (Ce a) (Ce b)
theorem BF (a b:kC):∃c,oS a b=some c∧(c < 0↔yI a b=true):=by
 unfold oS
 rw [Da,Da]
 exact ⟨_,rfl,GB _ _⟩
theorem FW (a b:kC):∃c,uj a b=some c∧(c < 0↔yI a b=true):=by
 unfold uj
 rw [Ch,Ch]
 simp only [aA]
 have h:zy (BE (if nW a then uH a else [])) (BE (if nW b then uH b else []))=yI a b:=by rw [BT]; rfl
 rw [h]
 cases yI a b with
 | true=>exact ⟨_,rfl,by decide⟩
 | false=>
  simp only [aB,aN,Bool.false_or]
  cases d:lQ (BE (if nW a then uH a else [])) (BE (if nW b then uH b else [])) with
  | true=>exact ⟨0,by simp,by decide⟩
  | false=>exact ⟨1,by simp,by decide⟩
theorem Tc {a b:Int} (ha:0≤a∧a < 256) (hb:0≤b∧b < 256) (h:a.toNat.toUInt8=b.toNat.toUInt8):a=b:=by
 have:=bO UInt8.toNat h
 simp only [UInt8.toNat_ofNat',Nat.toUInt8] at this
 simp at this
 omega
theorem MX:∀{a b:List Int},(∀x∈a,0≤x∧x < 256)→(∀x∈b,0≤x∧x < 256)→wz a=wz b→a=b
 | [],[],_,_,_=>rfl
 | [],_::_,_,_,h=>by simp [wz] at h
 | _::_,[],_,_,h=>by simp [wz] at h
 | x::a,y::b,ha,hb,h=>by
  simp only [wz,bA,aK] at h
  rw [Tc (ha x (by simp)) (hb y (by simp)) h.1,MX (λz d=>ha z (by simp [d])) (λz d=>hb z (by simp [d])) h.2]
theorem Bd {s:ByteArray} (h:qf s=true):∀x∈xu s,0≤x∧x < 256:=by
 have h1:=oT h
 intro x d
 rcases aY.1 d with rfl | d
 ·omega
 ·simp only [nQ,bE] at d
  obtain ⟨b,_,rfl⟩:=d
  have:=jw b
  omega
theorem yF {r:kz} (h:mu r=true):∀x∈tP r,0≤x∧x < 256:=by
 simp only [mu,bQ] at h
 intro x d
 rcases aV.1 d with d | d
 ·exact Bd h.1 x d
 ·exact Bd h.2 x d
theorem G5 {c:kC} (h:nW c=true):∀x∈uH c,0≤x∧x < 256:=by
 intro x d
 rcases aY.1 d with rfl | d
 ·rcases su h with h | h | h | h <;> omega
 ·rcases aV.1 d with d | d
  ·exact yF (Bf h) x d
  ·unfold Av at d
   rcases su h with ⟨k,h1,_⟩ | ⟨k,h1,_⟩ | ⟨k,h1,i,_⟩ | ⟨k,h1,i,_⟩
   ·rw [cE k] at d; exact Bd h1 x d
   ·rw [cI (by omega),cE k] at d; exact yF h1 x d
   ·rw [cI (by omega),cI (by omega),cE k] at d
    rcases aV.1 d with d | d
    ·exact yF h1 x d
    ·exact Bd i x d
   ·rw [cI (by omega),cI (by omega),cI (by omega)] at d
    rcases aV.1 d with d | d
    ·exact yF h1 x d
    ·exact yF i x d
theorem Og {s t:ByteArray} (h:nQ s=nQ t):s=t:=by rw [←E3 s,h,E3]
theorem CY {s t:ByteArray} {X Y:List Int} (h:xu s++X=xu t++Y):s=t∧X=Y:=by
 simp only [xu,bY,aK] at h
 obtain ⟨h1,d⟩:=h
 have i:(nQ s).length=(nQ t).length:=by rw [oK,oK]; omega
 have:=List.append_inj d i
 exact ⟨Og this.1,this.2⟩
theorem Bl {a b:kz} {X Y:List Int} (h:tP a++X=tP b++Y):a=b∧X=Y:=by
 simp only [tP,aW] at h
 obtain ⟨h1,i⟩:=CY h
 obtain ⟨d,j⟩:=CY i
 exact ⟨by cases a; cases b; simp at h1 d; simp [h1,d],j⟩
theorem OG {a b:kC} (ha:nW a=true) (hb:nW b=true) (h:uH a=uH b):a=b:=by
 simp only [uH,aK] at h
 obtain ⟨hk,u⟩:=h
 obtain ⟨s,h⟩:=Bl u
 clear u
 have p:∀{X Y:List Int},X=Y→X++[]=Y++[]:=λh=>by rw [h]
 unfold Av at h
 obtain ⟨I,v,L,A,E,x⟩:=a
 obtain ⟨J,w,M,bb,G,z⟩:=b
 simp only at hk s h
 subst hk s
 rcases su ha with ⟨k,h1,i,j,d⟩ | ⟨k,h1,i,j,d⟩ | ⟨k,h1,i,j,d,n⟩ | ⟨k,h1,i,j,d,n⟩ <;>
 rcases su hb with ⟨k',g1,g2,g3,g4⟩ | ⟨k',g1,g2,g3,g4⟩ | ⟨k',g1,g2,g3,g4,g5⟩ | ⟨k',g1,g2,g3,g4,g5⟩ <;> simp only at k k' i j d g2 g3 g4 <;> (try omega)
 ·rw [cE k,cE k] at h
  simp [CY (p h),i,j,d,g2,g3,g4]
 ·rw [cI (by omega),cE k,cI (by omega),cE k] at h
  simp [Bl (p h),i,j,d,g2,g3,g4]
 ·rw [cI (by omega),cI (by omega),cE k,cI (by omega),cI (by omega),cE k] at h
  obtain ⟨q,r⟩:=Bl h
  simp only at n g5
  simp [q,CY (p r),d,n,g4,g5]
 ·rw [cI (by omega),cI (by omega),cI (by omega),cI (by omega),cI (by omega),cI (by omega)] at h
  obtain ⟨q,r⟩:=Bl h
  simp only at n g5
  simp [q,Bl (p r),d,n,g4,g5]
theorem Ev:Cx (λa b=>yI a b=true) (λc=>nW c=true):=by
 refine ⟨λx _ h=>?_,λx y z _ _ _ h1 j=>zi _ _ _ h1 j,λx y d i=>?_⟩
 ·unfold yI at h; rw [Bq] at h; cases h
 ·rcases Cc (Ce x) (Ce y) with h | h | h
  ·exact .inl h
  ·refine .inr (.inl (OG d i ?_))
   unfold Ce at h
   rw [cE d,cE i] at h
   exact MX (G5 d) (G5 i) h
  ·exact .inr (.inr h)
section
variable {c:Formula→Formula→Int} {G:Formula→Prop} {f:Formula×Formula→Option Int}
theorem NZ (x:Formula):(⟨x.Op,x.K,x.kz,x.Kids⟩:Formula)=x:=by cases x; rfl
abbrev pU (c:Formula→Formula→Int) (x y:Formula):Bool:=decide (c x y < 0)
abbrev DZ (f:Formula×Formula→Option Int) (c:Formula→Formula→Int) (G:Formula→Prop):Prop:=∀x y,G x→G y→f (x,y)=some (c x y)
theorem Ud (J:DZ f c G) (pre:List Formula) (x:Formula) (M:G x):∀(k:Nat) (P S:List Formula) (n:Nat) (j a:Int),P.length=k→k < n→(∀y∈P,G y)→(pre++(P++x::S)).length≤1000000→j=((pre.length+P.length:Nat):Int)→a=(pre.length:Int)→
  ∃P1 P2,P=P1++P2∧nj a f n (pre++(P++x::S)) j=some (pre++(P1++x::(P2++S)))∧(∀P' z,P1=P'++[z]→pU c x z=false)∧(∀y P',P2=y::P'→pU c x y=true):=by
 intro k
 induction k with
 | zero=>
  intro P S n j a hk L i s q ha
  obtain rfl:=aI hk
  obtain ⟨n,rfl⟩:=aF (by omega:n≠0)
  refine ⟨[],[],rfl,?_,by simp,by simp⟩
  rw [nj]
  have:¬(j > a):=by rw [q,ha]; simp
  simp [this]
 | succ k ih=>
  intro P S n j a hk L i s q ha
  rcases dO P with rfl | ⟨P',z,rfl⟩
  ·simp at hk
  simp only [eK,aC,aJ,bD] at hk q s i ⊢
  obtain ⟨n,rfl⟩:=aF (by omega:n≠0)
  have r:j > a:=by omega
  have u:pre++(P'++[z]++x::S)=(pre++P')++z::x::S:=by simp
  have hw:wi0 .i64 (j-1)=((pre.length+P'.length:Nat):Int):=by rw [mi (by omega) (by omega)]; omega
  have i1:lM ((pre++P')++z::x::S) j=some x:=by
   rw [show (pre++P')++z::x::S=(pre++P'++[z])++x::S by simp]
   exact mD _ _ _ _ (by simp; omega)
  have i2:lM ((pre++P')++z::x::S) ((pre.length+P'.length:Nat):Int)=some z:=mD _ _ _ _ (by simp)
  have R:G z:=i z (by simp)
  have I:∀y∈P',G y:=λy O=>i y (by simp [O])
  have U:j.toNat=pre.length+P'.length+1:=by omega
  rw [nj,u]
  simp only [r,bJ,aS,i1,hw,i2,aA,J x z M R]
  by_cases p:c x z < 0
  ·simp only [p,bJ,aS]
   have s1:((pre++P')++z::x::S).set j.toNat z=(pre++P')++z::z::S:=by
    have:=Bv (pre++P'++[z]) S x z j.toNat (by simp; omega)
    simpa only [aW,eH,bY,bM] using this
   have s2:((pre++P')++z::z::S).set (pre.length+P'.length) x=(pre++P')++x::z::S:=by
    exact Bv (pre++P') (z::S) z x _ (by simp)
   have i3:lM ((pre++P')++z::z::S) ((pre.length+P'.length:Nat):Int)=some z:=mD _ _ _ _ (by simp)
   rw [s1,i3,aA,dC,NZ,s2]
   have v:(pre++P')++x::z::S=pre++(P'++x::(z::S)):=by simp
   obtain ⟨P1,P2,h1,w,A,E⟩:=ih P' (z::S) n ((pre.length+P'.length:Nat):Int) a (by omega) (by omega) I (by simp; omega) rfl ha
   rw [v,w]
   refine ⟨P1,P2++[z],by rw [h1]; simp,by simp,A,?_⟩
   intro y Q d
   cases P2 with
   | nil=>
    simp only [bM,aK] at d
    rw [←d.1]; simp [pU,p]
   | cons T P2=>
    simp only [bY,aK] at d
    rw [←d.1]; exact E T P2 rfl
  ·simp only [p,bL,aB,aN]
   refine ⟨P'++[z],[],by simp,by simp,?_,by simp⟩
   intro Q y d
   have:=jS d rfl
   simp only [aK,cU] at this
   rw [←this.2]; simp [pU,p]
theorem QN (h:SWO (pU c)) (P:DZ f c G) (pre post:List Formula) (a b:Int) (ha:a=(pre.length:Int)):∀(S t:List (Formula×Nat)) (n:Nat) (i:Int),
  S.length < n→oe (pU c) t→(∀x∈t,∀y∈S,x.2 < y.2)→S.Pairwise (λx y=>x.2 < y.2)→(∀x∈t++S,G x.1)→(pre++(t.map (·.1)++(S.map (·.1)++post))).length≤1000000→
  i=((pre.length+t.length:Nat):Int)→b=((pre.length+t.length+S.length:Nat):Int)→
  ∃u,mP b a f n (pre++(t.map (·.1)++(S.map (·.1)++post))) i=some (pre++(u.map (·.1)++post))∧oe (pU c) u∧u.Perm (t++S)
 | [],t,n,i,L,M,h1,O,E,J,Q,hb=>by
  obtain ⟨n,rfl⟩:=aF (by simp at L; omega:n≠0)
  rw [mP]
  simp only [bD] at hb
  have:¬(i < b):=by omega
  simp only [this,bL,aB,aN]
  exact ⟨t,by simp,M,by simp⟩
 | s::S,t,n,i,L,M,h1,O,E,J,Q,hb=>by
  simp only [aJ] at L hb
  obtain ⟨n,rfl⟩:=aF (by omega:n≠0)
  rw [mP]
  have I:i < b:=by omega
  simp only [I,bJ,aS]
  have r:=J
  simp only [aC,bW,aJ] at r
  obtain ⟨P1,P2,U,W,Y,Z⟩:=Ud P pre s.1 (E s (by simp)) (t.map (·.1)).length (t.map (·.1)) (S.map (·.1)++post) li i a rfl (by rw [mJ]; simp; omega)
   (λy w=>by obtain ⟨p,hp,rfl⟩:=bE.1 w; exact E p (by simp [hp])) (by simpa using J) (by simp; omega) ha
  simp only [bA,bY]
  rw [W,aA]
  obtain ⟨t1,t2,rfl,R,T⟩:=iR.1 U
  have hlen:t1.length+t2.length=(t1++t2).length:=by simp
  have hw:wi0 .i64 (i+1)=((pre.length+(t1++s::t2).length:Nat):Int):=by rw [mi (by omega) (by omega)]; simp at Q ⊢; omega
  rw [hw]
  have v:oe (pU c) (t1++s::t2):=AN h M
   (λA' z b B' q A=>by
    simp only [aK] at A
    rw [←A.1]
    refine .inr ⟨Y (A'.map (·.1)) z.1 (by rw [←R,q]; simp),h1 z (by rw [q]; simp) s (by simp)⟩)
   (λA' z b B' q A=>by
    have hz:z=s:=by
     cases A' with
     | nil=>simpa using q.symm
     | cons _ A'=>simp at q
    rw [hz]
    exact .inl (Z b.1 (B'.map (·.1)) (by rw [←T,A]; simp)))
  have j:=bU.1 O
  have e5:pre++(P1++s.1::(P2++(S.map (·.1)++post)))=pre++((t1++s::t2).map (·.1)++(S.map (·.1)++post)):=by rw [←R,←T]; simp
  rw [e5]
  obtain ⟨u,u1,u2,u3⟩:=QN h P pre post a b ha S (t1++s::t2) n _ (by omega) v
   (λx d y w=>by
    rcases aV.1 d with d | d
    ·exact h1 x (by simp [d]) y (by simp [w])
    ·rcases aY.1 d with rfl | d
     ·exact j.1 y w
     ·exact h1 x (by simp [d]) y (by simp [w]))
   j.2 (λx d=>E x (by
    simp only [aV,aY] at d ⊢
    rcases d with (d | d | d) | d
    ·exact .inl (.inl d)
    ·exact .inr (.inl d)
    ·exact .inl (.inr d)
    ·exact .inr (.inr d))) (by simp at r ⊢; omega) rfl (by simp at hb ⊢; omega)
  refine ⟨u,u1,u2,u3.trans ?_⟩
  simp only [aW,bY]
  exact dB t1 (List.perm_middle.symm)
theorem M1 (h:SWO (pU c)) (v:DZ f c G) (pre post:List Formula) (S:List (Formula×Nat)) (a b:Int) (q:S.Pairwise (λx y=>x.2 < y.2)) (r:∀x∈S,G x.1) (p:(pre++(S.map (·.1)++post)).length≤1000000) (ha:a=(pre.length:Int)) (hb:b=((pre.length+S.length:Nat):Int)) :
  ∃u,oJ (pre++(S.map (·.1)++post)) a b f=some (pre++(u.map (·.1)++post))∧oe (pU c) u∧u.Perm S:=by
 unfold oJ
 have i:=p
 simp only [aC,bW] at i
 cases S with
 | nil=>
  refine ⟨[],?_,.nil,.nil⟩
  obtain ⟨n,w⟩:=aF (by rw [mJ]; omega:li≠0)
  rw [w,mP]
  have:¬(wi0 .i64 (a+1) < b):=by rw [mi (by omega) (by omega)]; simp at hb; omega
  simp [this]
 | cons s S=>
  simp only [aJ] at hb i
  have d:=bU.1 q
  obtain ⟨u,A,E,I⟩:=QN h v pre post a b ha S [s] li (wi0 .i64 (a+1)) (by rw [mJ]; omega) (fV _ _) (λx j y z=>by simp at j; rw [j]; exact d.1 y z) d.2
   (λx j=>r x (by simpa using j)) (by simp at p ⊢; omega) (by rw [mi (by omega) (by omega)]; simp; omega) (by simp; omega)
  exact ⟨u,by simpa using A,E,by simpa using I⟩
end
section
variable {c:Formula→Formula→Int} {G:Formula→Prop} {f:Formula×Formula→Option Int}
theorem mH {x:Int} (n:Nat) (h:x=(n:Int)) (d:n≤4000000):wi0 .i64 x=(n:Int):=by rw [h,mi (by omega) (by omega)]
theorem Td (p m q:List Formula) (a b N:Int):∀(k:Nat) (X1 X2 Y1 Y2:List Formula) (n:Nat) (i:Int),X2.length=k→Y2.length=k→X1.length=Y1.length→k < n→(p++(Y1++(X2++(m++(X1++(Y2++q)))))).length≤1000000→
  i=(X1.length:Int)→N=((X1.length+k:Nat):Int)→a=(p.length:Int)→b=((p.length+X1.length+k+m.length:Nat):Int)→
  nx N b a n (p++(Y1++(X2++(m++(X1++(Y2++q)))))) i=some (p++((Y1++Y2)++(m++((X1++X2)++q)))):=by
 intro k
 induction k with
 | zero=>
  intro X1 X2 Y1 Y2 n i h1 d z E u A s ha hb
  obtain rfl:=aI h1
  obtain rfl:=aI d
  obtain ⟨n,rfl⟩:=aF (by omega:n≠0)
  rw [nx]
  have:¬(i < N):=by omega
  simp [this]
 | succ k ih=>
  intro X1 X2 Y1 Y2 n i h1 d z E u A s ha hb
  cases X2 with
  | nil=>simp at h1
  | cons x X2=>
  cases Y2 with
  | nil=>simp at d
  | cons y Y2=>
  simp only [aJ,Nat.add_right_cancel_iff] at h1 d
  obtain ⟨n,rfl⟩:=aF (by omega:n≠0)
  have r:=u
  simp only [aC,aJ] at r
  have j:i < N:=by omega
  have G:wi0 .i64 (b+i)=(((p++Y1).length+1+(X2++(m++X1)).length:Nat):Int):=mH _ (by simp; omega) (by simp; omega)
  have I:wi0 .i64 (a+i)=((p++Y1).length:Int):=mH _ (by simp; omega) (by simp; omega)
  have J:wi0 .i64 (i+1)=((X1++[x]).length:Int):=mH _ (by simp; omega) (by simp; omega)
  have v:p++(Y1++(x::X2++(m++(X1++(y::Y2++q)))))=(p++Y1)++x::((X2++(m++X1))++y::(Y2++q)):=by simp
  have i1:lM ((p++Y1)++x::((X2++(m++X1))++y::(Y2++q))) (((p++Y1).length+1+(X2++(m++X1)).length:Nat):Int)=some y:=by
   have:=mD ((p++Y1)++x::(X2++(m++X1))) y (Y2++q) (((p++Y1).length+1+(X2++(m++X1)).length:Nat):Int) (by simp; omega)
   simpa using this
  have i2:lM ((p++Y1)++x::((X2++(m++X1))++y::(Y2++q))) ((p++Y1).length:Int)=some x:=mD _ _ _ _ rfl
  rw [nx,v]
  simp only [j,bJ,aS,G,I,i1,i2,aA,dC,J]
  have i3:lM (((p++Y1)++x::((X2++(m++X1))++y::(Y2++q))).set (p++Y1).length y) (((p++Y1).length+1+(X2++(m++X1)).length:Nat):Int)=some y:=by
   rw [BR]
   have:=mD ((p++Y1)++y::(X2++(m++X1))) y (Y2++q) (((p++Y1).length+1+(X2++(m++X1)).length:Nat):Int) (by simp; omega)
   simpa using this
  rw [i3,aA,NZ,B5]
  have w:(p++Y1)++y::((X2++(m++X1))++x::(Y2++q))=p++((Y1++[y])++(X2++(m++((X1++[x])++(Y2++q))))):=by simp
  rw [w,ih (X1++[x]) X2 (Y1++[y]) Y2 n _ h1 d (by simp; omega) (by omega) (by simp; omega) rfl (by rw [s]; simp; omega) ha (by rw [hb]; simp; omega)]
  simp
theorem Ns (p m q X Y:List Formula) (a b N:Int) (h:X.length=Y.length) (i:(p++(X++(m++(Y++q)))).length≤1000000) (j:N=(X.length:Int)) (ha:a=(p.length:Int)) (hb:b=((p.length+X.length+m.length:Nat):Int)) :
  oC (p++(X++(m++(Y++q)))) a b N f=some (p++(Y++(m++(X++q)))):=by
 unfold oC
 have d:=i
 simp only [aC] at d
 have:=Td p m q a b N X.length [] X [] Y li 0 rfl h.symm rfl (by rw [mJ]; omega) (by simpa using i) rfl (by simpa using j) ha (by rw [hb]; simp)
 simpa using this
theorem Tq (M:Int):∀(k:Nat) (A B p q:List Formula) (n:Nat) (i j:Int),A.length+B.length≤k→0 < A.length→0 < B.length→k < n→(p++(A++(B++q))).length≤1000000→i=(A.length:Int)→j=(B.length:Int)→M=((p.length+A.length:Nat):Int)→
  nM M f n (p++(A++(B++q))) i j=some (p++(B++(A++q))):=by
 intro k
 induction k with
 | zero=>intro A B p q n i j h h1 E; omega
 | succ k ih=>
  intro A B p q n i j h h1 E T J r w G
  obtain ⟨n,rfl⟩:=aF (by omega:n≠0)
  have d:=J
  simp only [aC] at d
  rw [nM]
  by_cases he:A.length=B.length
  ·have:(i != j)=false:=by rw [r,w,he]; simp
   simp only [this,aB,aN]
   have u:wi0 .i64 (M-i)=(p.length:Int):=mH _ (by omega) (by omega)
   have:=Ns (f:=f) p [] q A B (p.length:Int) M i he (by simpa using J) r rfl (by rw [G]; simp)
   simp only [bM] at this
   rw [u,this]; rfl
  ·have x:(i != j)=true:=by rw [r,w]; simp; omega
   simp only [x,aS]
   by_cases I:i > j
   ·simp only [I,bJ,aS]
    obtain ⟨X,Y,rfl,R⟩:=rj (l:=A) (n:=B.length) (by omega)
    simp only [aC] at r h G d
    have u:wi0 .i64 (M-i)=(p.length:Int):=mH _ (by omega) (by omega)
    have s:=Ns (f:=f) p Y q X B (p.length:Int) M j (by omega) (by simp; omega) (by omega) rfl (by omega)
    have v:p++(X++Y++(B++q))=p++(X++(Y++(B++q))):=by simp
    have z:wi0 .i64 (i-j)=(Y.length:Int):=mH _ (by omega) (by omega)
    rw [v,u,s,aA,z]
    have L:p++(B++(Y++(X++q)))=(p++B)++(Y++(X++q)):=by simp
    rw [L,ih Y X (p++B) q n _ j (by omega) (by omega) (by omega) (by omega) (by simp; omega) rfl (by omega) (by simp; omega)]
    simp
   ·simp only [I,bL,aB,aN]
    obtain ⟨Z,V,rfl,O⟩:=rj (l:=B) (n:=B.length-A.length) (by omega)
    simp only [aC] at w h d O E he
    have u:wi0 .i64 (M-i)=(p.length:Int):=mH _ (by omega) (by omega)
    have P:wi0 .i64 (M+j)=((p.length+A.length+(Z.length+V.length):Nat):Int):=mH _ (by omega) (by omega)
    have Q:wi0 .i64 (((p.length+A.length+(Z.length+V.length):Nat):Int)-i)=((p.length+A.length+Z.length:Nat):Int):=mH _ (by omega) (by omega)
    have s:=Ns (f:=f) p Z q A V (p.length:Int) ((p.length+A.length+Z.length:Nat):Int) i (by omega) (by simp; omega) r rfl rfl
    have v:p++(A++(Z++V++q))=p++(A++(Z++(V++q))):=by simp
    have z:wi0 .i64 (j-i)=(Z.length:Int):=mH _ (by omega) (by omega)
    rw [v,u,P,Q,s,aA,z]
    rw [show p++(V++(Z++(A++q)))=p++(V++(Z++(A++q))) from rfl,ih V Z p (A++q) n i _ (by omega) (by omega) (by omega) (by omega) (by simp; omega) (by omega) rfl (by omega)]
    simp
theorem UA (A B p q:List Formula) (a m b:Int) (h1:0 < A.length) (j:0 < B.length) (i:(p++(A++(B++q))).length≤1000000) (ha:a=(p.length:Int)) (hm:m=((p.length+A.length:Nat):Int)) (hb:b=((p.length+A.length+B.length:Nat):Int)) :
  ot (p++(A++(B++q))) a m b f=some (p++(B++(A++q))):=by
 unfold ot
 have d:=i
 simp only [aC] at d
 rw [mH A.length (by omega) (by omega),mH B.length (by omega) (by omega)]
 exact Tq m (A.length+B.length) A B p q li _ _ (aQ _) h1 j (by rw [mJ]; omega) i rfl rfl hm
end
section
variable {c:Formula→Formula→Int} {G:Formula→Prop} {f:Formula×Formula→Option Int}
theorem xh {x:Int} (n:Nat) (h:x=(n:Int)) (i:n≤4000000):wi0 .i64 (Int.fdiv (IntKind.u64.wrap (wi0 .i64 x)) (2 ^ min (Int.toNat 1) (IntKind.bits .u64)))=((n / 2:Nat):Int):=by
 rw [mH n h i]
 have d:IntKind.u64.wrap (n:Int)=(n:Int):=by
  simp only [IntKind.wrap,IntKind.signed,IntKind.bits]
  simp
  omega
 rw [d,show (2 ^ min (Int.toNat 1) (IntKind.bits .u64):Int)=2 from by decide,Int.fdiv_eq_ediv_of_nonneg _ (by decide),mi (by omega) (by omega)]
 omega
abbrev Ask (a0:List Formula) (f:Formula×Formula→Option Int) (p q:Int) (b:Bool):Prop:=∃x y r,lM a0 p=some x∧lM a0 q=some y∧f (x,y)=some r∧decide (r < 0)=b
theorem Ut (a0:List Formula) (z:Int) (q:Nat→Bool) (lo p:Nat) (Q:p≤1000000) (G:∀h,lo≤h→h < p→Ask a0 f (h:Int) z (q h)):∀(d n i j:Nat),j-i≤d→d < n→lo≤i→i≤j→j≤p→(i=lo∨q (i-1)=true)→(j=p∨q j=false)→
  ∃t T,lo≤t∧t≤p∧(t=lo∨q (t-1)=true)∧(t=p∨q t=false)∧mE a0 z f n (i:Int) (j:Int)=mE a0 z f (T+1) (t:Int) (t:Int):=by
 intro d
 induction d with
 | zero=>
  intro n i j h1 R s O u v w
  obtain ⟨n,rfl⟩:=aF (by omega:n≠0)
  obtain rfl:i=j:=by omega
  exact ⟨i,n,s,u,v,w,rfl⟩
 | succ d ih=>
  intro n i j h1 R s O u v w
  obtain ⟨n,rfl⟩:=aF (by omega:n≠0)
  by_cases A:i=j
  ·subst A; exact ⟨i,n,s,u,v,w,rfl⟩
  have P:=xh (i+j) (x:=(i:Int)+(j:Int)) (by omega) (by omega)
  obtain ⟨x,y,r,I,J,L,M⟩:=G ((i+j) / 2) (by omega) (by omega)
  rw [mE]
  have E:((i:Int) < (j:Int)):=by omega
  simp only [E,bJ,aS,P,I,J,L,M,aA]
  cases hp:q ((i+j) / 2)
  ·simp only [aB,aN]
   exact ih n i ((i+j) / 2) (by omega) (by omega) s (by omega) (by omega) v (.inr hp)
  ·simp only [aS]
   rw [mH ((i+j) / 2+1) (by omega) (by omega)]
   exact ih n ((i+j) / 2+1) j (by omega) (by omega) (by omega) (by omega) u (.inr (by simpa using hp)) w
theorem UH (a0:List Formula) (a2:Int) (q:Nat→Bool) (lo p:Nat) (P:p≤1000000) (E:∀h,lo≤h→h < p→Ask a0 f a2 (h:Int) (!q h)):∀(d n i j:Nat),j-i≤d→d < n→lo≤i→i≤j→j≤p→(i=lo∨q (i-1)=true)→(j=p∨q j=false)→
  ∃t R,lo≤t∧t≤p∧(t=lo∨q (t-1)=true)∧(t=p∨q t=false)∧mG a0 a2 f n (i:Int) (j:Int)=mG a0 a2 f (R+1) (t:Int) (t:Int):=by
 intro d
 induction d with
 | zero=>
  intro n i j h1 Q s M u v w
  obtain ⟨n,rfl⟩:=aF (by omega:n≠0)
  obtain rfl:i=j:=by omega
  exact ⟨i,n,s,u,v,w,rfl⟩
 | succ d ih=>
  intro n i j h1 Q s M u v w
  obtain ⟨n,rfl⟩:=aF (by omega:n≠0)
  by_cases z:i=j
  ·subst z; exact ⟨i,n,s,u,v,w,rfl⟩
  have O:=xh (i+j) (x:=(i:Int)+(j:Int)) (by omega) (by omega)
  obtain ⟨x,y,r,G,I,J,L⟩:=E ((i+j) / 2) (by omega) (by omega)
  rw [mG]
  have A:((i:Int) < (j:Int)):=by omega
  simp only [A,bJ,aS,O,G,I,J,L,aA,fZ]
  cases hp:q ((i+j) / 2)
  ·simp only [aB,aN]
   exact ih n i ((i+j) / 2) (by omega) (by omega) s (by omega) (by omega) v (.inr hp)
  ·simp only [aS]
   rw [mH ((i+j) / 2+1) (by omega) (by omega)]
   exact ih n ((i+j) / 2+1) j (by omega) (by omega) (by omega) (by omega) u (.inr (by simpa using hp)) w
theorem TV (x:Formula):∀(P Q R:List Formula) (n:Nat) (k i:Int),P.length < n→(Q++x::(P++R)).length≤1000000→k=(Q.length:Int)→i=((Q.length+P.length+1:Nat):Int)→nE i n (Q++x::(P++R)) k=some (Q++(P++x::R))
 | [],Q,R,n,k,i,j,p,hk,d=>by
  obtain ⟨n,rfl⟩:=aF (by simp at j; omega:n≠0)
  simp only [aC,aJ,bD] at p d
  rw [nE,mH Q.length (by omega) (by omega)]
  have:¬(k < (Q.length:Int)):=by omega
  simp [this]
 | y::P,Q,R,n,k,i,j,p,hk,d=>by
  obtain ⟨n,rfl⟩:=aF (by simp at j; omega:n≠0)
  simp only [aC,aJ] at p d j
  have r:Q++x::(y::P++R)=Q++x::([]++y::(P++R)):=rfl
  have s:wi0 .i64 (k+1)=((Q.length+1+([]:List Formula).length:Nat):Int):=mH _ (by simp; omega) (by simp; omega)
  have i1:lM (Q++x::([]++y::(P++R))) ((Q.length+1+([]:List Formula).length:Nat):Int)=some y:=by
   have:=mD (Q++[x]) y (P++R) ((Q.length+1+([]:List Formula).length:Nat):Int) (by simp)
   simpa using this
  have i2:lM (Q++x::([]++y::(P++R))) k=some x:=mD _ _ _ _ hk
  rw [nE,mH (Q.length+P.length+1) (by omega) (by omega),r]
  have q:k < ((Q.length+P.length+1:Nat):Int):=by omega
  have kn:k.toNat=Q.length:=by omega
  simp only [q,bJ,aS,s,i1,i2,aA,kn]
  have i3:lM ((Q++x::([]++y::(P++R))).set Q.length y) ((Q.length+1+([]:List Formula).length:Nat):Int)=some y:=by
   rw [BR]
   have:=mD (Q++[y]) y (P++R) ((Q.length+1+([]:List Formula).length:Nat):Int) (by simp)
   simpa using this
  rw [i3,aA,dC,NZ,B5]
  have:=TV x P (Q++[y]) R n ((Q.length+1+([]:List Formula).length:Nat):Int) i (by omega) (by simp; omega) (by simp) (by rw [d]; simp; omega)
  simpa using this
theorem UB (x:Formula):∀(k:Nat) (S Q R:List Formula) (n:Nat) (j i:Int),S.length=k→k < n→(Q++(S++x::R)).length≤1000000→j=((Q.length+S.length:Nat):Int)→i=(Q.length:Int)→nD i n (Q++(S++x::R)) j=some (Q++x::(S++R)):=by
 intro k
 induction k with
 | zero=>
  intro S Q R n j i hk v s d r
  obtain ⟨n,rfl⟩:=aF (by omega:n≠0)
  obtain rfl:=aI hk
  rw [nD]
  simp only [bD,jT] at d
  have:¬(j > i):=by omega
  simp [this]
 | succ k ih=>
  intro S Q R n j i hk v s d r
  obtain ⟨n,rfl⟩:=aF (by omega:n≠0)
  rcases dO S with rfl | ⟨S,z,rfl⟩
  ·simp at hk
  simp only [eK,aC,aJ,bD] at hk d s ⊢
  have u:Q++(S++[z]++x::R)=(Q++S)++z::([]++x::R):=by simp
  have A:wi0 .i64 (j-1)=((Q++S).length:Int):=mH _ (by simp; omega) (by simp; omega)
  have p:j=(((Q++S).length+1+([]:List Formula).length:Nat):Int):=by rw [d]; simp; omega
  have i1:lM ((Q++S)++z::([]++x::R)) j=some x:=by
   have:=mD (Q++S++[z]) x R j (by rw [p]; simp; omega)
   simpa using this
  have i2:lM ((Q++S)++z::([]++x::R)) ((Q++S).length:Int)=some z:=mD _ _ _ _ rfl
  rw [nD,u]
  have q:j > i:=by omega
  have w:j.toNat=(Q++S).length+1+([]:List Formula).length:=by omega
  simp only [q,bJ,aS,A,i1,i2,aA,w]
  have i3:lM (((Q++S)++z::([]++x::R)).set ((Q++S).length+1+([]:List Formula).length) z) ((Q++S).length:Int)=some z:=by
   have:((Q++S)++z::([]++x::R)).set ((Q++S).length+1+([]:List Formula).length) z=(Q++S)++z::(z::R):=by
    have:=Bv (Q++S++[z]) R x z ((Q++S).length+1+([]:List Formula).length) (by simp; omega)
    simpa using this
   rw [this]; exact mD _ _ _ _ rfl
  rw [i3,aA,dC,NZ,Jf]
  have:=ih S Q (z::R) n ((Q++S).length:Int) i (by omega) (by omega) (by simp; omega) (by simp) r
  simpa using this
end
section
variable {c:Formula→Formula→Int} {G:Formula→Prop} {f:Formula×Formula→Option Int}
theorem T4 (a0:List Formula) (v a3 a2:Int) (rec:List Formula→Int→Int→Int→((Formula×Formula)→Option Int)→Option (List Formula)) (mid m p:Nat) (w:v+a3=((2*mid:Nat):Int)∨v+a3=((2*mid+1:Nat):Int)) (hm:a2=(m:Int)) (hp:p+1=mid+m) (u:Nat→Bool) (lo q:Nat) (W:q≤1000000) (Z:mid≤1000000) (Y:mid+m≤2000000) (hle:q≤p+1) (M:∀h,lo≤h→h < q→Ask a0 f ((p-h:Nat):Int) (h:Int) (!u h)):∀(d n i j:Nat),j-i≤d→d < n→lo≤i→i≤j→j≤q→(i=lo∨u (i-1)=true)→(j=q∨u j=false)→
  ∃t n',lo≤t∧t≤q∧(t=lo∨u (t-1)=true)∧(t=q∨u t=false)∧mg a0 v a3 a2 f rec n (i:Int) (j:Int)=mg a0 v a3 a2 f rec (n'+1) (t:Int) (t:Int):=by
 have s:wi0 .i64 (Int.fdiv (IntKind.u64.wrap (wi0 .i64 (v+a3))) (2 ^ min (Int.toNat 1) (IntKind.bits .u64)))=(mid:Int):=by
  rcases w with h | h
  ·rw [xh _ h (by omega),show 2*mid / 2=mid by omega]
  ·rw [xh _ h (by omega),show (2*mid+1) / 2=mid by omega]
 intro d
 induction d with
 | zero=>
  intro n i j h1 hn A T E G I
  obtain ⟨n,rfl⟩:=aF (by omega:n≠0)
  obtain rfl:i=j:=by omega
  exact ⟨i,n,A,E,G,I,rfl⟩
 | succ d ih=>
  intro n i j h1 hn A T E G I
  obtain ⟨n,rfl⟩:=aF (by omega:n≠0)
  by_cases J:i=j
  ·subst J; exact ⟨i,n,A,E,G,I,rfl⟩
  have U:=xh (i+j) (x:=(i:Int)+(j:Int)) (by omega) (by omega)
  obtain ⟨x,y,r,O,P,Q,R⟩:=M ((i+j) / 2) (by omega) (by omega)
  have w1:wi0 .i64 ((mid:Int)+a2)=((mid+m:Nat):Int):=mH _ (by omega) (by omega)
  have w2:wi0 .i64 (((mid+m:Nat):Int)-1)=(p:Int):=mH _ (by omega) (by omega)
  have w3:wi0 .i64 ((p:Int)-(((i+j) / 2:Nat):Int))=((p-(i+j) / 2:Nat):Int):=mH _ (by omega) (by omega)
  rw [mg]
  have L:((i:Int) < (j:Int)):=by omega
  simp only [L,bJ,aS,U,s,w1,w2,w3,O,P,Q,R,aA,fZ]
  cases z:u ((i+j) / 2)
  ·simp only [aB,aN]
   exact ih n i ((i+j) / 2) (by omega) (by omega) A (by omega) (by omega) G (.inr z)
  ·simp only [aS]
   rw [mH ((i+j) / 2+1) (by omega) (by omega)]
   exact ih n ((i+j) / 2+1) j (by omega) (by omega) (by omega) (by omega) E (.inr (by simpa using z)) I
theorem SY (a0:List Formula) (i a3 a2:Int) (rec:List Formula→Int→Int→Int→((Formula×Formula)→Option Int)→Option (List Formula)) (mid m t n:Nat) (j:i+a3=((2*mid:Nat):Int)∨i+a3=((2*mid+1:Nat):Int)) (hm:a2=(m:Int)) (z:mid≤1000000) (w:mid+m≤2000000) (J:t≤mid+m) :
  mg a0 i a3 a2 f rec (n+1) (t:Int) (t:Int) =
   ((if t < m∧m < mid+m-t then ot a0 (t:Int) a2 ((mid+m-t:Nat):Int) f else some a0).bind λl=>((if i < (t:Int)∧t < mid then rec l i (t:Int) (mid:Int) f else some l).bind λl=>if mid < mid+m-t∧((mid+m-t:Nat):Int) < a3 then rec l (mid:Int) ((mid+m-t:Nat):Int) a3 f else some l)):=by
 have d:wi0 .i64 (Int.fdiv (IntKind.u64.wrap (wi0 .i64 (i+a3))) (2 ^ min (Int.toNat 1) (IntKind.bits .u64)))=(mid:Int):=by
  rcases j with h | h
  ·rw [xh _ h (by omega),show 2*mid / 2=mid by omega]
  ·rw [xh _ h (by omega),show (2*mid+1) / 2=mid by omega]
 have G:wi0 .i64 ((mid:Int)+a2)=((mid+m:Nat):Int):=mH _ (by omega) (by omega)
 have I:wi0 .i64 (((mid+m:Nat):Int)-(t:Int))=((mid+m-t:Nat):Int):=mH _ (by omega) (by omega)
 rw [mg]
 simp only [iI,bL,aB,aN,d,G,I,si]
 subst hm
 have r:((t:Int) < (m:Int))=(t < m):=by simp
 have s:((m:Int) < ((mid+m-t:Nat):Int))=(m < mid+m-t):=by rw [gU]; omega
 have u:((t:Int) < (mid:Int))=(t < mid):=by simp
 have v:((mid:Int) < ((mid+m-t:Nat):Int))=(mid < mid+m-t):=by rw [gU]; omega
 simp only [r,s,u,v]
 have key:∀(p q:Prop) [Decidable p] [Decidable q] (A B:Option (List Formula)),((if decide p=true then some (decide q) else some false:Option Bool).bind λx=>if x=true then A else B)=if p∧q then A else B:=by
  intro p q _ _ A B
  by_cases hp:p <;> by_cases E:q <;> simp [hp,E]
 simp only [key]
theorem N9 (p A q:List Formula) (h:Nat) (i:p.length≤h) (h1:h < p.length+A.length):∃x,A[h-p.length]? =some x∧lM (p++(A++q)) (h:Int)=some x:=by
 obtain ⟨x,d⟩:∃x,A[h-p.length]? =some x:=⟨_,dE (by omega)⟩
 refine ⟨x,d,?_⟩
 rw [DW,fJ i,gB (by omega),d]
end
section
variable {c:Formula→Formula→Int} {G:Formula→Prop} {f:Formula×Formula→Option Int}
theorem xR {α:Type} {P A':List α} {z:α} (S:List α) (h:P=A'++[z]):(P++S)[P.length-1]? =some z:=by subst h; simp
theorem xF {α:Type} {S B':List α} {z:α} (P:List α) (h:S=z::B'):(P++S)[P.length]? =some z:=by subst h; simp
theorem zr {A:List (Formula×Nat)} {i:Nat} {z:Formula×Nat} (h:A[i]? =some z):(A.map (·.1))[i]? =some z.1:=by simp [h]
theorem TG (h:SWO (pU c)) (T:DZ f c G) (x:Formula×Nat) (B:List (Formula×Nat)) (pre post:List Formula) (a m b:Int) (M:oe (pU c) B) (Y:∀y∈B,x.2 < y.2) (A:∀y∈x::B,G y.1) (U:(pre++x.1::(B.map (·.1)++post)).length≤400000) (ha:a=(pre.length:Int)) (hm:m=((pre.length+1:Nat):Int)) (hb:b=((pre.length+1+B.length:Nat):Int)) :
  ∃u,mE (pre++x.1::(B.map (·.1)++post)) a f li m b=some (pre++(u.map (·.1)++post))∧oe (pU c) u∧u.Perm (x::B):=by
 have s:=U
 simp only [aC,aJ,bW] at s
 let i:Nat→Bool:=λk=>match (B.map (·.1))[k-(pre.length+1)]? with | some y=>pU c y x.1 | none=>false
 have p:∀k,pre.length+1≤k→k < pre.length+1+B.length→Ask (pre++x.1::(B.map (·.1)++post)) f (k:Int) a (i k):=by
  intro k h1 h2
  obtain ⟨y,v,E⟩:=N9 (pre++[x.1]) (B.map (·.1)) post k (by simp; omega) (by simp; omega)
  have I:lM (pre++x.1::(B.map (·.1)++post)) (k:Int)=some y:=by simpa using E
  have J:lM (pre++x.1::(B.map (·.1)++post)) a=some x.1:=mD _ _ _ _ ha
  have Z:G y:=by
   obtain ⟨q,W,rfl⟩:=bE.1 (cR v)
   exact A q (by simp [W])
  refine ⟨y,x.1,_,I,J,T y x.1 Z (A x (by simp)),?_⟩
  simp only [aC,aJ,bD] at v
  simp only [i,v]
 obtain ⟨t,n',t1,t2,t3,t4,e⟩:=Ut (f:=f) _ a i (pre.length+1) (pre.length+1+B.length) (by omega) p B.length li (pre.length+1) (pre.length+1+B.length) (by omega) (by rw [mJ]; omega) (aQ _) (by omega) (aQ _) (.inl rfl) (.inl rfl)
 rw [hm,hb,e,mE]
 simp only [iI,bL,aB,aN,si]
 obtain ⟨P,S,rfl,O⟩:=rj (l:=B) (n:=t-(pre.length+1)) (by omega)
 simp only [aC] at s t2 t4
 have L:pre++x.1::((P++S).map (·.1)++post)=pre++x.1::(P.map (·.1)++(S.map (·.1)++post)):=by simp
 rw [L,TV x.1 (P.map (·.1)) pre (S.map (·.1)++post) li a (t:Int) (by rw [mJ]; simp; omega) (by simp; omega) ha (by simp; omega)]
 refine ⟨P++x::S,by simp,AN h M ?_ ?_,gp⟩
 ·intro A' z w B' j d
  simp only [aK] at d
  rw [←d.1]
  have Q:0 < P.length:=by rw [j]; simp
  have hp:i (t-1)=true:=by
   rcases t3 with t3 | t3
   ·omega
   ·exact t3
  have r:=zr (xR S j)
  rw [show P.length-1=t-1-(pre.length+1) by omega] at r
  simp only [i,r] at hp
  exact .inl hp
 ·intro A' z w B' j d
  have hz:z=x:=by
   cases A' with
   | nil=>simpa using j.symm
   | cons _ A'=>simp at j
  rw [hz]
  have R:0 < S.length:=by rw [d]; simp
  have hp:i t=false:=by
   rcases t4 with t4 | t4
   ·omega
   ·exact t4
  have r:=zr (xF P d)
  rw [O] at r
  simp only [i,r] at hp
  exact .inr ⟨hp,Y w (by rw [d]; simp)⟩
theorem TO (h:SWO (pU c)) (T:DZ f c G) (y:Formula×Nat) (A:List (Formula×Nat)) (pre post:List Formula) (a m:Int) (M:oe (pU c) A) (Y:∀x∈A,x.2 < y.2) (w:∀x∈y::A,G x.1) (U:(pre++(A.map (·.1)++y.1::post)).length≤400000) (ha:a=(pre.length:Int)) (hm:m=((pre.length+A.length:Nat):Int)) :
  ∃u,mG (pre++(A.map (·.1)++y.1::post)) m f li a m=some (pre++(u.map (·.1)++post))∧oe (pU c) u∧u.Perm (A++[y]):=by
 have s:=U
 simp only [aC,aJ,bW] at s
 let j:Nat→Bool:=λk=>match (A.map (·.1))[k-pre.length]? with | some x=>!pU c y.1 x | none=>false
 have p:∀k,pre.length≤k→k < pre.length+A.length→Ask (pre++(A.map (·.1)++y.1::post)) f m (k:Int) (!j k):=by
  intro k h1 h2
  obtain ⟨x,v,I⟩:=N9 pre (A.map (·.1)) (y.1::post) k h1 (by simp; omega)
  have J:lM (pre++(A.map (·.1)++y.1::post)) m=some y.1:=by
   have:=mD (pre++A.map (·.1)) y.1 post m (by rw [hm]; simp)
   simpa using this
  have Z:G x:=by
   obtain ⟨q,W,rfl⟩:=bE.1 (cR v)
   exact w q (by simp [W])
  refine ⟨y.1,x,_,J,I,T y.1 x (w y (by simp)) Z,?_⟩
  simp only [j,v,fZ]
 obtain ⟨t,n',t1,t2,t3,t4,e⟩:=UH (f:=f) _ m j pre.length (pre.length+A.length) (by omega) p A.length li pre.length (pre.length+A.length) (by omega) (by rw [mJ]; omega) (aQ _) (by omega) (aQ _) (.inl rfl) (.inl rfl)
 rw [←hm,←ha] at e
 rw [e,mG]
 simp only [iI,bL,aB,aN,si]
 obtain ⟨P,S,rfl,O⟩:=rj (l:=A) (n:=t-pre.length) (by omega)
 simp only [aC] at s t2 t4 hm
 have L:pre++((P++S).map (·.1)++y.1::post)=(pre++P.map (·.1))++(S.map (·.1)++y.1::post):=by simp
 rw [L,UB y.1 S.length (S.map (·.1)) (pre++P.map (·.1)) post li m (t:Int) (by simp) (by rw [mJ]; omega) (by simp; omega) (by rw [hm]; simp; omega) (by simp; omega)]
 refine ⟨P++y::S,by simp,AN h M ?_ ?_,List.perm_middle.trans (gv y (P++S)).symm⟩
 ·intro A' z E B' d i
  simp only [aK] at i
  rw [←i.1]
  have Q:0 < P.length:=by rw [d]; simp
  have hp:j (t-1)=true:=by
   rcases t3 with t3 | t3
   ·omega
   ·exact t3
  have r:=zr (xR S d)
  rw [show P.length-1=t-1-pre.length by omega] at r
  simp only [j,r,fU] at hp
  exact .inr ⟨hp,Y z (by rw [d]; simp)⟩
 ·intro A' z E B' d i
  have hz:z=y:=by
   cases A' with
   | nil=>simpa using d.symm
   | cons _ A'=>simp at d
  rw [hz]
  have R:0 < S.length:=by rw [i]; simp
  have hp:j t=false:=by
   rcases t4 with t4 | t4
   ·omega
   ·exact t4
  have r:=zr (xF P i)
  rw [O] at r
  simp only [j,r,iK] at hp
  exact .inl hp
theorem Kf {α:Type} {A1 A2 B1 B2 C1 C2:List α} (d:C1.Perm (A1++B1)) (i:C2.Perm (A2++B2)):(C1++C2).Perm ((A1++A2)++(B1++B2)):=by
 refine (d.append i).trans ?_
 simp only [aW]
 refine dB A1 ?_
 exact ic B1 A2 B2
def Q6 (c:Formula→Formula→Int) (A B:List Formula) (d i p q:Nat):Bool:=match A[q-d]?,B[p-q-i]? with | some x,some y=>!pU c y x | _,_=>false
theorem Ke {A B:List Formula} {d i p q:Nat} {x y:Formula} (h1:A[q-d]? =some x) (j:B[p-q-i]? =some y):Q6 c A B d i p q=!pU c y x:=by simp only [Q6,h1,j]
theorem Ue (w:DZ f c G) (A B:List (Formula×Nat)) (pre post:List Formula) (d p:Nat) (E:d=pre.length+A.length) (r:∀x∈A++B,G x.1) (q:Nat) (L:pre.length≤q) (M:q < d) (O:d≤p-q) (P:p-q < d+B.length) :
  Ask (pre++(A.map (·.1)++(B.map (·.1)++post))) f ((p-q:Nat):Int) (q:Int) (!Q6 c (A.map (·.1)) (B.map (·.1)) pre.length d p q):=by
 obtain ⟨x,n,s⟩:=N9 pre (A.map (·.1)) (B.map (·.1)++post) q L (by simp; omega)
 obtain ⟨y,i,u⟩:=N9 (pre++A.map (·.1)) (B.map (·.1)) post (p-q) (by simp; omega) (by simp; omega)
 have I:G x:=by
  obtain ⟨z,j,rfl⟩:=bE.1 (cR n)
  exact r z (by simp [j])
 have J:G y:=by
  obtain ⟨z,j,rfl⟩:=bE.1 (cR i)
  exact r z (by simp [j])
 have v:lM (pre++(A.map (·.1)++(B.map (·.1)++post))) ((p-q:Nat):Int)=some y:=by simpa using u
 refine ⟨y,x,_,v,s,w y x J I,?_⟩
 rw [show p-q-(pre++A.map (·.1)).length=p-q-d by simp; omega] at i
 rw [Ke n i,fZ]
abbrev Uv (c:Formula→Formula→Int) (G:Formula→Prop) (f:Formula×Formula→Option Int) (rec:List Formula→Int→Int→Int→((Formula×Formula)→Option Int)→Option (List Formula)) (k:Nat):Prop :=
 ∀(A B:List (Formula×Nat)) (pre post:List Formula) (a m b:Int),A.length+B.length≤k→0 < A.length→0 < B.length→oe (pU c) A→oe (pU c) B→
  (∀x∈A,∀y∈B,x.2 < y.2)→(∀x∈A++B,G x.1)→(pre++(A.map (·.1)++(B.map (·.1)++post))).length≤400000→a=(pre.length:Int)→m=((pre.length+A.length:Nat):Int)→b=((pre.length+A.length+B.length:Nat):Int)→
  ∃u,rec (pre++(A.map (·.1)++(B.map (·.1)++post))) a m b f=some (pre++(u.map (·.1)++post))∧oe (pU c) u∧u.Perm (A++B)
theorem SL (h:SWO (pU c)) {rec:List Formula→Int→Int→Int→((Formula×Formula)→Option Int)→Option (List Formula)} {k:Nat} (ih:Uv c G f rec k) (A1 A2 B1 B2:List (Formula×Nat)) (pre post:List Formula) (a m b:Int) (mid d t:Nat) (Q:d=pre.length+(A1.length+A2.length)) (T:mid=(pre.length+(d+(B1.length+B2.length))) / 2) (O:A1.length=t-pre.length) (P:B1.length=mid-t) (U:pre.length≤t) (W:t≤mid) (Y:t≤d) (hk:A1.length+A2.length+(B1.length+B2.length)≤k+1) (R:2≤A1.length+A2.length+(B1.length+B2.length)) (q:oe (pU c) (A1++A2)) (r:oe (pU c) (B1++B2)) (M:∀x∈A1++A2,∀y∈B1++B2,x.2 < y.2) (L:∀x∈(A1++A2)++(B1++B2),G x.1) (hl:pre.length+(A1.length+A2.length+(B1.length+B2.length+post.length))≤400000) (ha:a=(pre.length:Int)) (hm:m=(d:Int)) (hb:b=((d+(B1.length+B2.length):Nat):Int)) (Z:Lk (pU c) A1 B2) (l2:Lk (pU c) B1 A2) :
  ∃u,((if t < d∧d < mid+d-t then ot (pre++((A1++A2).map (·.1)++((B1++B2).map (·.1)++post))) (t:Int) m ((mid+d-t:Nat):Int) f else some (pre++((A1++A2).map (·.1)++((B1++B2).map (·.1)++post)))).bind λl=>
   ((if a < (t:Int)∧t < mid then rec l a (t:Int) (mid:Int) f else some l).bind λl=>if mid < mid+d-t∧((mid+d-t:Nat):Int) < b then rec l (mid:Int) ((mid+d-t:Nat):Int) b f else some l))=some (pre++(u.map (·.1)++post))∧oe (pU c) u∧u.Perm ((A1++A2)++(B1++B2)):=by
 have r1:(if t < d∧d < mid+d-t then ot (pre++((A1++A2).map (·.1)++((B1++B2).map (·.1)++post))) (t:Int) m ((mid+d-t:Nat):Int) f else some (pre++((A1++A2).map (·.1)++((B1++B2).map (·.1)++post)))) =
   some (pre++(A1.map (·.1)++(B1.map (·.1)++(A2.map (·.1)++(B2.map (·.1)++post))))):=by
  by_cases j:t < d∧d < mid+d-t
  ·rw [cE j]
   have:=UA (f:=f) (A2.map (·.1)) (B1.map (·.1)) (pre++A1.map (·.1)) (B2.map (·.1)++post) (t:Int) m ((mid+d-t:Nat):Int) (by simp; omega) (by simp; omega) (by simp; omega) (by simp; omega) (by simp; omega) (by simp; omega)
   simpa using this
  ·rw [cI j]
   have:A2=[]∨B1=[]:=by
    by_cases h1:A2.length=0
    ·exact .inl (aI h1)
    ·exact .inr (aI (by omega))
   rcases this with rfl | rfl <;> simp
 rw [r1,aA]
 have r2:∃C1,(if a < (t:Int)∧t < mid then rec (pre++(A1.map (·.1)++(B1.map (·.1)++(A2.map (·.1)++(B2.map (·.1)++post))))) a (t:Int) (mid:Int) f else some (pre++(A1.map (·.1)++(B1.map (·.1)++(A2.map (·.1)++(B2.map (·.1)++post)))))) =
   some (pre++(C1.map (·.1)++(A2.map (·.1)++(B2.map (·.1)++post))))∧oe (pU c) C1∧C1.Perm (A1++B1):=by
  by_cases j:a < (t:Int)∧t < mid
  ·rw [cE j]
   exact ih A1 B1 pre (A2.map (·.1)++(B2.map (·.1)++post)) a t mid (by omega) (by omega) (by omega) q.left r.left (λx i y E=>M x (by simp [i]) y (by simp [E])) (λx i=>L x (by simp at i ⊢; rcases i with i | i <;> simp [i]))
    (by simp; omega) ha (by omega) (by omega)
  ·rw [cI j]
   refine ⟨A1++B1,by simp,Ez h q.left r.left (λA' x y B' I J=>?_),.refl _⟩
   have g1:0 < A1.length:=by rw [I]; simp
   have g2:0 < B1.length:=by rw [J]; simp
   omega
 obtain ⟨C1,s,w,n⟩:=r2
 have v:=n.length_eq
 simp only [aC] at v
 rw [s,aA]
 have r3:∃C2,(if mid < mid+d-t∧((mid+d-t:Nat):Int) < b then rec (pre++(C1.map (·.1)++(A2.map (·.1)++(B2.map (·.1)++post)))) (mid:Int) ((mid+d-t:Nat):Int) b f else some (pre++(C1.map (·.1)++(A2.map (·.1)++(B2.map (·.1)++post))))) =
   some ((pre++C1.map (·.1))++(C2.map (·.1)++post))∧oe (pU c) C2∧C2.Perm (A2++B2):=by
  by_cases j:mid < mid+d-t∧((mid+d-t:Nat):Int) < b
  ·rw [cE j]
   have:=ih A2 B2 (pre++C1.map (·.1)) post mid ((mid+d-t:Nat):Int) b (by omega) (by omega) (by omega) q.right r.right (λx i y E=>M x (by simp [i]) y (by simp [E])) (λx i=>L x (by simp at i ⊢; rcases i with i | i <;> simp [i]))
    (by simp; omega) (by simp; omega) (by simp; omega) (by simp; omega)
   simpa using this
  ·rw [cI j]
   refine ⟨A2++B2,by simp,Ez h q.right r.right (λA' x y B' I J=>?_),.refl _⟩
   have g1:0 < A2.length:=by rw [I]; simp
   have g2:0 < B2.length:=by rw [J]; simp
   omega
 obtain ⟨C2,z,A,p⟩:=r3
 rw [z]
 exact ⟨C1++C2,by simp,Na h q r Z l2 n p w A,Kf n p⟩
theorem PL (F:Nat) (R:1000000 < F) (L:List Formula) (rec:List Formula→Int→Int→Int→((Formula×Formula)→Option Int)→Option (List Formula)) (pl i j mid d p:Nat) (a b m:Int) (w:Nat→Bool) (G:0 < i) (I:0 < j) (O:pl+(i+j)≤400000) (M:mid=(pl+(pl+i+j)) / 2) (J:d=pl+i) (hp:p+1=mid+d) (u:a+b=((2*mid:Nat):Int)∨a+b=((2*mid+1:Nat):Int)) (ha:a=(pl:Int)) (s:m=(d:Int)) (hb:b=((pl+i+j:Nat):Int)) (n:∀q,pl≤q→q < d→d≤p-q→p-q < d+j→Ask L f ((p-q:Nat):Int) (q:Int) (!w q)) :
  ∃t v lo z:Nat,(lo=pl∧z=d∧d≤mid∨lo+(pl+i+j)=mid+d∧z=mid∧mid < d)∧lo≤t∧t≤z∧(t=lo∨w (t-1)=true)∧(t=z∨w t=false)∧
    ((if decide (m > (mid:Int)) then some (wi0 .i64 (((mid+d:Nat):Int)-b),(mid:Int)) else some (a,m):Option (Int×Int)).bind λx=>mg L a b m f rec F x.1 x.2) =
     mg L a b m f rec (v+1) (t:Int) (t:Int):=by
 by_cases E:mid < d
 ·obtain ⟨lo,A⟩:∃lo:Nat,lo+(pl+i+j)=mid+d:=⟨mid+d-(pl+i+j),by omega⟩
  obtain ⟨t,v,t1,t2,t3,t4,e⟩:=T4 (f:=f) L a b m rec mid d p u s hp w lo mid (by omega) (by omega) (by omega) (by omega) (λq P Q=>n q (by omega) (by omega) (by omega) (by omega))
   (mid-lo) F lo mid (aQ _) (by omega) (aQ _) (by omega) (aQ _) (.inl rfl) (.inl rfl)
  refine ⟨t,v,lo,mid,.inr ⟨A,rfl,E⟩,t1,t2,t3,t4,?_⟩
  have r:m > (mid:Int):=by omega
  simp only [r,bJ,aS,aA]
  rw [mH lo (by omega) (by omega),e]
 ·obtain ⟨t,v,t1,t2,t3,t4,e⟩:=T4 (f:=f) L a b m rec mid d p u s hp w pl d (by omega) (by omega) (by omega) (by omega) (λq P Q=>n q (by omega) (by omega) (by omega) (by omega))
   (d-pl) F pl d (aQ _) (by omega) (aQ _) (by omega) (aQ _) (.inl rfl) (.inl rfl)
  refine ⟨t,v,pl,d,.inl ⟨rfl,rfl,by omega⟩,t1,t2,t3,t4,?_⟩
  have r:¬(m > (mid:Int)):=by omega
  simp only [r,bL,aB,aN,aA]
  rw [←e,←ha,←s]
set_option maxHeartbeats 2000000 in
theorem Uh (h:SWO (pU c)) (hf:DZ f c G):∀(k:Nat) (A B:List (Formula×Nat)) (pre post:List Formula) (n:Nat) (a m b:Int),A.length+B.length≤k→0 < A.length→0 < B.length→k < n→oe (pU c) A→oe (pU c) B→
  (∀x∈A,∀y∈B,x.2 < y.2)→(∀x∈A++B,G x.1)→(pre++(A.map (·.1)++(B.map (·.1)++post))).length≤400000→a=(pre.length:Int)→m=((pre.length+A.length:Nat):Int)→b=((pre.length+A.length+B.length:Nat):Int)→
  ∃u,mR n (pre++(A.map (·.1)++(B.map (·.1)++post))) a m b f=some (pre++(u.map (·.1)++post))∧oe (pU c) u∧u.Perm (A++B):=by
 intro k
 induction k with
 | zero=>intro A B pre post n a m b h0 h1 h2; omega
 | succ k ih=>
  intro A B pre post n a m b h0 h1 h2 hn hA hB W U hl ha hm hb
  obtain ⟨n,rfl⟩:=aF (by omega:n≠0)
  have Q:=hl
  simp only [aC,bW] at Q
  rw [mR]
  unfold qL
  by_cases c1:A.length=1
  ·obtain ⟨x,rfl⟩:=gV.1 c1
   have:(wi0 .i64 (m-a)==1)=true:=by rw [mH 1 (by simp at hm; omega) (by omega)]; rfl
   simp only [this,aS]
   obtain ⟨u,u1,u2,u3⟩:=TG h hf x B pre post a m b hB (λy hy=>W x (by simp) y hy) (λy hy=>U y (by simpa using hy)) (by simpa using hl) ha (by simpa using hm) (by simpa using hb)
   exact ⟨u,by simpa using u1,u2,by simpa using u3⟩
  have n1:(wi0 .i64 (m-a)==1)=false:=by rw [mH A.length (by omega) (by omega)]; simp; omega
  simp only [n1,aB,aN]
  by_cases c2:B.length=1
  ·obtain ⟨y,rfl⟩:=gV.1 c2
   have:(wi0 .i64 (b-m)==1)=true:=by rw [mH 1 (by simp at hb; omega) (by omega)]; rfl
   simp only [this,aS]
   obtain ⟨u,u1,u2,u3⟩:=TO h hf y A pre post a m hA (λx Y=>W x Y y (by simp)) (λx Y=>U x (by simp at Y ⊢; exact Y.symm)) (by simpa using hl) ha hm
   exact ⟨u,by simpa using u1,u2,u3⟩
  have n2:(wi0 .i64 (b-m)==1)=false:=by rw [mH B.length (by omega) (by omega)]; simp; omega
  simp only [n2,aB,aN]
  obtain ⟨F,hF,a1⟩:∃F,F=li∧1000000 < F:=⟨li,rfl,by rw [mJ]; omega⟩
  rw [←hF]
  obtain ⟨mid,J⟩:∃mid:Nat,mid=(pre.length+(pre.length+A.length+B.length)) / 2:=⟨_,rfl⟩
  obtain ⟨d,r⟩:∃d:Nat,d=pre.length+A.length:=⟨_,rfl⟩
  obtain ⟨p,hp⟩:∃p:Nat,p+1=mid+d:=⟨mid+d-1,by omega⟩
  have E:a+b=((2*mid:Nat):Int)∨a+b=((2*mid+1:Nat):Int):=by omega
  have L:wi0 .i64 (Int.fdiv (IntKind.u64.wrap (wi0 .i64 (a+b))) (2 ^ min (Int.toNat 1) (IntKind.bits .u64)))=(mid:Int):=by
   rcases E with h | h
   ·rw [xh _ h (by omega),show 2*mid / 2=mid by omega]
   ·rw [xh _ h (by omega),show (2*mid+1) / 2=mid by omega]
  have I:m=(d:Int):=by omega
  have w1:wi0 .i64 ((mid:Int)+m)=((mid+d:Nat):Int):=mH _ (by omega) (by omega)
  obtain ⟨M,s⟩:∃M:Nat→Bool,M=Q6 c (A.map (·.1)) (B.map (·.1)) pre.length d p:=⟨_,rfl⟩
  have P:∀q,pre.length≤q→q < d→d≤p-q→p-q < d+B.length→Ask (pre++(A.map (·.1)++(B.map (·.1)++post))) f ((p-q:Nat):Int) (q:Int) (!M q):=λq i j q3 q4=>by rw [s]; exact Ue hf A B pre post d p r U q i j q3 q4
  obtain ⟨t,n',lo,hi,a6,t1,t2,t3,t4,e⟩:=PL (f:=f) F a1 (pre++(A.map (·.1)++(B.map (·.1)++post))) (mR n) pre.length A.length B.length mid d p a b m M (by omega) (by omega) (by omega) J r hp E ha I hb P
  simp only [L,w1]
  rw [e,SY (f:=f) _ a b m _ mid d t n' E I (by omega) (by omega) (by omega)]
  obtain ⟨A1,A2,rfl,O⟩:=rj (l:=A) (n:=t-pre.length) (by omega)
  obtain ⟨B1,B2,rfl,Z⟩:=rj (l:=B) (n:=mid-t) (by omega)
  simp only [aC] at h0 h1 h2 Q t1 t2 t3 t4 a6 hm hb r J
  have R:∀q x y,((A1++A2).map (·.1))[q-pre.length]? =some x→((B1++B2).map (·.1))[p-q-d]? =some y→M q=!pU c y x:=λq x y v w=>by rw [s]; exact Ke v w
  have l1:Lk (pU c) A1 B2:=by
   intro A' z b' B' i j
   have g1:0 < A1.length:=by rw [i]; simp
   have g2:0 < B2.length:=by rw [j]; simp
   have T:M (t-1)=true:=by
    rcases t3 with t3 | t3
    ·omega
    ·exact t3
   have v:=zr (xR A2 i)
   have w:=zr (xF B1 j)
   rw [show A1.length-1=t-1-pre.length by omega] at v
   rw [show B1.length=p-(t-1)-d by omega] at w
   rw [R _ _ _ v w,fU] at T
   exact .inr ⟨T,W z (by rw [i]; simp) b' (by rw [j]; simp)⟩
  have l2:Lk (pU c) B1 A2:=by
   intro A' z b' B' i j
   have g1:0 < B1.length:=by rw [i]; simp
   have g2:0 < A2.length:=by rw [j]; simp
   have T:M t=false:=by
    rcases t4 with t4 | t4
    ·omega
    ·exact t4
   have v:=zr (xR B2 i)
   have w:=zr (xF A1 j)
   rw [show B1.length-1=p-t-d by omega] at v
   rw [O] at w
   rw [R _ _ _ w v,iK] at T
   exact .inl T
  exact SL h (λA B pre post a m b i j q3=>ih A B pre post n a m b i j q3 (by omega)) A1 A2 B1 B2 pre post a m b mid d t r (by rw [J]; congr 1; omega) O Z (by omega) (by omega) (by omega) (by omega) (by omega) hA hB W U (by omega) ha I (by rw [hb]; congr 1; omega) l1 l2
end
section
variable {c:Formula→Formula→Int} {G:Formula→Prop} {f:Formula×Formula→Option Int}
def yr (c:Formula→Formula→Int):Nat→List (List (Formula×Nat))→Prop
 | _,[]=>True
 | o,A::bs=>oe (pU c) A∧(∀x∈A,o≤x.2∧x.2 < o+A.length)∧yr c (o+A.length) bs
def WB (s:Nat):List (List (Formula×Nat))→Prop
 | []=>True
 | A::bs=>A.length≤s∧(bs≠[]→A.length=s)∧WB s bs
theorem yr.append:∀{ds bs:List (List (Formula×Nat))} {o:Nat},yr c o (ds++bs)↔yr c o ds∧yr c (o+ds.flatten.length) bs
 | [],bs,o=>by simp [yr]
 | A::ds,bs,o=>by
  simp only [bY,yr,yr.append (ds:=ds),aU,aC,and_assoc,fA]
def fm (bs:List (List (Formula×Nat))):List Formula:=bs.flatten.map (·.1)
theorem Jx (a b:List (List (Formula×Nat))):fm (a++b)=fm a++fm b:=by simp [fm]
theorem MQ (A:List (Formula×Nat)) (b:List (List (Formula×Nat))):fm (A::b)=A.map (·.1)++fm b:=by simp [fm]
theorem sK (a:List (List (Formula×Nat))):(fm a).length=a.flatten.length:=by unfold fm; rw [bW]
theorem Pf (ds:List (List (Formula×Nat))) (C:List (Formula×Nat)):(ds++[C]).flatten.length=ds.flatten.length+C.length:=by rw [bP,aC]; simp only [aU,cJ,bB]
theorem SD (C:List (Formula×Nat)) (bs:List (List (Formula×Nat))):fm ([C]++bs)=C.map (·.1)++fm bs:=by simp [fm]
theorem GN {R:List Formula} {o:Nat} {x:Formula×Nat} (h:x∈R.zipIdx o):x.1∈R:=iq h
theorem WB.two {s:Nat} {A:List (Formula×Nat)} {bs:List (List (Formula×Nat))} (j:0 < s) (h:WB s (A::bs)) (i:s < (A::bs).flatten.length):A.length=s∧∃B d,bs=B::d∧(B.length=s∨d=[])∧B.length≤s∧WB s d:=by
 cases bs with
 | nil=>simp at i; have:=h.1; omega
 | cons B d=>
  refine ⟨h.2.1 (by simp),B,d,rfl,?_,h.2.2.1,h.2.2.2.2⟩
  by_cases hb:d=[]
  ·exact .inr hb
  ·exact .inl (h.2.2.2.1 hb)
theorem Lp (h:SWO (pU c)) (z:DZ f c G) {ds bs:List (List (Formula×Nat))} {A B:List (Formula×Nat)} (hO:yr c 0 (ds++A::B::bs)) (w:∀x∈(ds++A::B::bs).flatten,G x.1) (j:(fm (ds++A::B::bs)).length≤400000) (u:0 < A.length) (v:0 < B.length) (a m b:Int) (ha:a=(ds.flatten.length:Int)) (hm:m=((ds.flatten.length+A.length:Nat):Int)) (hb:b=((ds.flatten.length+A.length+B.length:Nat):Int)) :
  ∃C,mR li (fm (ds++A::B::bs)) a m b f=some (fm ((ds++[C])++bs))∧yr c 0 ((ds++[C])++bs)∧C.Perm (A++B):=by
 obtain ⟨h1,s⟩:=yr.append.1 hO
 obtain ⟨M,q,O,r,E⟩:=s
 have e:fm (ds++A::B::bs)=fm ds++(A.map (·.1)++(B.map (·.1)++fm bs)):=by rw [Jx,MQ,MQ]
 rw [e] at j ⊢
 have n:=j
 simp only [aC,bW,sK] at n
 obtain ⟨C,J,L,p⟩:=Uh h z (A.length+B.length) A B (fm ds) (fm bs) li a m b (aQ _) u v (by rw [mJ]; omega) M O (λx d y I=>by have:=(q x d).2; have:=(r y I).1; omega)
  (λx d=>w x (by
   rw [bP,aU,aU,aV,aV,aV]
   rcases aV.1 d with d | d
   ·exact .inr (.inl d)
   ·exact .inr (.inr (.inl d)))) j (by rw [ha,sK]) (by rw [hm,sK]) (by rw [hb,sK])
 have i:=p.length_eq
 simp only [aC] at i
 refine ⟨C,by rw [J,aW,Jx,SD],?_,p⟩
 ·rw [aW,yr.append]
  refine ⟨h1,L,λx d=>?_,?_⟩
  ·rcases aV.1 (p.mem_iff.1 d) with d | d
   ·have:=q x d; omega
   ·have:=r x d; omega
  ·rw [i,←fA]; exact E
theorem Kw {ds bs:List (List (Formula×Nat))} {A B C:List (Formula×Nat)} (h:C.Perm (A++B)):((ds++[C])++bs).flatten.Perm (ds++A::B::bs).flatten:=by
 simp only [bP,aU,cJ,bB,aW]
 refine dB _ ?_
 rw [←aW]
 exact h.append_right _
theorem Rs (h:SWO (pU c)) (W:DZ f c G) (s:Nat) (Z:0 < s) (a1:s≤1000000) (N:Nat) (hN:N≤400000):∀(k:Nat) (bs ds:List (List (Formula×Nat))) (n:Nat) (a b:Int),bs.length≤k→k < n→yr c 0 (ds++bs)→(∀x∈(ds++bs).flatten,G x.1)→(ds++bs).flatten.length=N→WB s bs→(∀A∈ds,A.length=2*s)→
  a=(ds.flatten.length:Int)→b=((ds.flatten.length+2*s:Nat):Int)→
  ∃es r,nK (N:Int) (s:Int) f n (fm (ds++bs)) a b=some (fm (es++r),(es.flatten.length:Int))∧yr c 0 (es++r)∧(es++r).flatten.Perm (ds++bs).flatten∧WB s r∧r.flatten.length < 2*s∧(∀A∈es,A.length=2*s):=by
 intro k
 induction k with
 | zero=>
  intro bs ds n a b hk Y hO w p z q ha hb
  obtain ⟨n,rfl⟩:=aF (by omega:n≠0)
  obtain rfl:=aI (kp.1 hk)
  simp only [bB] at p
  rw [nK]
  have:¬(b≤(N:Int)):=by omega
  simp only [this,bL,aB,aN]
  exact ⟨ds,[],by rw [ha],hO,.refl _,trivial,by simp only [cJ,bD]; omega,q⟩
 | succ k ih=>
  intro bs ds n a b hk Y hO w p z q ha hb
  obtain ⟨n,rfl⟩:=aF (by omega:n≠0)
  rw [nK]
  by_cases hle:b≤(N:Int)
  ·simp only [hle,bJ,aS]
   have d:=p
   rw [bP,aC] at d
   cases bs with
   | nil=>simp only [cJ,bD] at d; omega
   | cons A bs=>
    obtain ⟨hA,B,j,rfl,u,R,E⟩:=WB.two Z z (by omega)
    have T:B.length=s:=by
     rcases u with u | rfl
     ·exact u
     ·simp only [aU,cJ,bB,aC] at d; omega
    have w1:wi0 .i64 (a+(s:Int))=((ds.flatten.length+A.length:Nat):Int):=mH _ (by omega) (by omega)
    obtain ⟨C,q1,q2,I⟩:=Lp h W hO w (by rw [sK]; omega) (by omega) (by omega) a _ b ha w1 (by omega)
    rw [q1,aA]
    have v:=I.length_eq
    simp only [aC] at v
    have w2:wi0 .i64 (2*(s:Int))=((2*s:Nat):Int):=mH _ (by omega) (by omega)
    have U:(ds++[C]).flatten.length=ds.flatten.length+2*s:=by rw [Pf]; omega
    have w3:wi0 .i64 (b+((2*s:Nat):Int))=(((ds++[C]).flatten.length+2*s:Nat):Int):=mH _ (by omega) (by omega)
    have hp:=Kw (ds:=ds) (bs:=j) I
    rw [w2,w3]
    obtain ⟨es,r,J,L,M,O,P,Q⟩:=ih j (ds++[C]) n b _ (by simp at hk; omega) (by omega) q2 (λx hx=>w x (hp.mem_iff.1 hx)) (by rw [hp.length_eq,p]) E (λX i=>by
     rcases aV.1 i with i | i
     ·exact q X i
     ·simp at i; rw [i]; omega) (by rw [U]; omega) rfl
    exact ⟨es,r,J,L,M.trans hp,O,P,Q⟩
  ·simp only [hle,bL,aB,aN]
   refine ⟨ds,bs,by rw [ha],hO,.refl _,z,?_,q⟩
   rw [bP,aC] at p
   omega
theorem WB.Ae {t:Nat}:∀{es:List (List (Formula×Nat))} {C:List (Formula×Nat)},(∀A∈es,A.length=t)→C.length≤t→WB t (es++[C])
 | [],C,_,d=>⟨d,λh=>absurd rfl h,trivial⟩
 | E::es,C,h,d=>⟨by rw [h E (by simp)]; omega,λ_=>h E (by simp),WB.Ae (λA i=>h A (by simp [i])) d⟩
theorem Ou {s:Nat} {r:List (List (Formula×Nat))} {o:Nat} (d:WB s r) (i:r.flatten.length≤s) (hO:yr c o r):oe (pU c) r.flatten∧∀x∈r.flatten,o≤x.2∧x.2 < o+r.flatten.length:=by
 cases r with
 | nil=>exact ⟨.nil,λx j=>by cases j⟩
 | cons A r=>
  have:r.flatten=[]:=by
   by_cases hb:r=[]
   ·rw [hb]; rfl
   ·have:=d.2.1 hb
    rw [aU,aC] at i
    exact aI (by omega)
  rw [aU,this,bB]
  exact ⟨hO.1,hO.2.1⟩
theorem P6 (h:SWO (pU c)) (hf:DZ f c G) (N:Nat) (hN:N≤400000):∀(k s:Nat) (bs:List (List (Formula×Nat))) (n:Nat),N-s≤k→k < n→0 < s→s≤1000000→yr c 0 bs→(∀x∈bs.flatten,G x.1)→bs.flatten.length=N→WB s bs→
  ∃u,nr (N:Int) f n (fm bs) (s:Int)=some (u.map (·.1))∧oe (pU c) u∧u.Perm bs.flatten:=by
 intro k
 induction k with
 | zero=>
  intro s bs n hk hn Q w hO v p i
  obtain ⟨n,rfl⟩:=aF (by omega:n≠0)
  rw [nr]
  have:¬((s:Int) < (N:Int)):=by omega
  simp only [this,bL,aB,aN]
  refine ⟨bs.flatten,rfl,?_,.refl _⟩
  cases bs with
  | nil=>exact .nil
  | cons A bs=>
   have:bs.flatten=[]:=by
    by_cases hb:bs=[]
    ·rw [hb]; rfl
    ·have:=i.2.1 hb
     rw [aU,aC] at p
     exact aI (by omega)
   rw [aU,this,bB]
   exact hO.1
 | succ k ih=>
  intro s bs n hk hn Q w hO v p i
  by_cases a8:s < N
  ·obtain ⟨n,rfl⟩:=aF (by omega:n≠0)
   rw [nr]
   have:((s:Int) < (N:Int)):=by omega
   simp only [this,bJ,aS]
   have w1:wi0 .i64 (2*(s:Int))=((2*s:Nat):Int):=mH _ (by omega) (by omega)
   have w0:wi0 .i64 ((s:Int)*2)=((2*s:Nat):Int):=mH _ (by omega) (by omega)
   have a7:bs.length≤2000000:=by
    have:∀{bs:List (List (Formula×Nat))},WB s bs→bs.length≤bs.flatten.length+1:=by
     intro bs
     induction bs with
     | nil=>intro _; simp
     | cons A bs R=>
      intro i
      by_cases hb:bs=[]
      ·subst hb; simp
      ·have:=i.2.1 hb
       have:=R i.2.2
       simp only [aJ,aU,aC]
       omega
    have:=this i
    omega
   obtain ⟨es,r,W,Y,d,Z,e5,e6⟩:=Rs h hf s Q w N hN bs.length bs [] li 0 ((2*s:Nat):Int) (aQ _) (by rw [mJ]; omega) (by simpa using hO) (by simpa using v) (by simpa using p) i (by simp) rfl (by simp)
   simp only [bM] at W d
   rw [w1,W,aA,w0]
   have q:=d.length_eq
   rw [p,bP,aC] at q
   have w2:wi0 .i64 ((es.flatten.length:Int)+(s:Int))=((es.flatten.length+s:Nat):Int):=mH _ (by omega) (by omega)
   simp only [w2]
   by_cases hm:es.flatten.length+s < N
   ·have:(((es.flatten.length+s:Nat):Int) < (N:Int)):=by omega
    simp only [this,bJ,aS,si]
    cases r with
    | nil=>simp only [cJ,bD] at q; omega
    | cons A r=>
     obtain ⟨hA,B,r',rfl,E,a1,a6⟩:=WB.two Q Z (by omega)
     have P:r'=[]:=by
      rcases E with E | E
      ·by_cases hr:r'=[]
       ·exact hr
       ·simp only [aU,aC] at e5; omega
      ·exact E
     subst P
     simp only [aU,cJ,bB,aC] at q e5
     obtain ⟨C,q1,q2,q3⟩:=Lp h hf Y (λx z=>v x (d.mem_iff.1 z)) (by rw [sK,d.length_eq]; omega) (by omega) (by omega) (es.flatten.length:Int) ((es.flatten.length+s:Nat):Int) (N:Int) rfl (by omega) (by omega)
     rw [q1,aA]
     have J:=q3.length_eq
     simp only [aC] at J
     have hp:=(Kw (ds:=es) (bs:=[]) q3).trans d
     simp only [bB] at q2 hp ⊢
     obtain ⟨u,T,U,I⟩:=ih (2*s) (es++[C]) n (by omega) (by omega) (by omega) (by omega) q2 (λx z=>v x (hp.mem_iff.1 z)) (by rw [hp.length_eq,p]) (WB.Ae e6 (by omega))
     exact ⟨u,T,U,I.trans hp⟩
   ·have:¬(((es.flatten.length+s:Nat):Int) < (N:Int)):=by omega
    simp only [this,bL,aB,aN,aA]
    obtain ⟨L,M⟩:=yr.append.1 Y
    obtain ⟨b1,b2⟩:=Ou Z (by omega) M
    have O:fm (es++r)=fm (es++[r.flatten]):=by simp [fm]
    have j:(es++[r.flatten]).flatten=(es++r).flatten:=by simp
    rw [O]
    obtain ⟨u,T,U,I⟩:=ih (2*s) (es++[r.flatten]) n (by omega) (by omega) (by omega) (by omega) (yr.append.2 ⟨L,b1,b2,trivial⟩) (λx z=>v x (d.mem_iff.1 (by rw [←j]; exact z))) (by rw [j,d.length_eq,p]) (WB.Ae e6 (by omega))
    exact ⟨u,T,U,by rw [j] at I; exact I.trans d⟩
  ·obtain ⟨n,rfl⟩:=aF (by omega:n≠0)
   rw [nr]
   have:¬((s:Int) < (N:Int)):=by omega
   simp only [this,bL,aB,aN]
   refine ⟨bs.flatten,rfl,?_,.refl _⟩
   cases bs with
   | nil=>exact .nil
   | cons A bs=>
    have:bs.flatten=[]:=by
     by_cases hb:bs=[]
     ·rw [hb]; rfl
     ·have:=i.2.1 hb
      rw [aU,aC] at p
      exact aI (by omega)
    rw [aU,this,bB]
    exact hO.1
theorem I4:∀(l:List Formula) (o:Nat),(l.zipIdx o).Pairwise (λx y=>x.2 < y.2)
 | [],o=>by simp
 | x::l,o=>by
  rw [ir,bU]
  refine ⟨λy d=>?_,I4 l (o+1)⟩
  obtain ⟨a,b⟩:=y
  have:=fM d
  simp only at this ⊢; omega
theorem MA (l:List Formula) (o:Nat):∀x∈l.zipIdx o,o≤x.2∧x.2 < o+l.length:=by
 rintro ⟨a,b⟩ d
 have h1:=fM d
 have i:=jd d
 simp only at h1 i ⊢; omega
theorem OD (h:SWO (pU c)) (q:DZ f c G) (N:Nat) (I:N≤300000) (R:List Formula) (ds:List (List (Formula×Nat))) (n:Nat) (a b:Int) (L:0 < n) (hO:yr c 0 ds) (s:∀A∈ds,A.length=20) (w:∀x∈ds.flatten,G x.1) (p:∀x∈R,G x) (J:ds.flatten.length+R.length=N) (z:R.length < 20) (ha:a=(ds.flatten.length:Int)) (hb:b=((ds.flatten.length+20:Nat):Int)) :
  ∃u,ns (N:Int) f n (fm ds++R) a b=some (u.map (·.1))∧oe (pU c) u∧u.Perm (ds.flatten++R.zipIdx ds.flatten.length):=by
 obtain ⟨n,rfl⟩:=aF (by omega:n≠0)
 rw [ns]
 have hle:¬(b≤(N:Int)):=by omega
 simp only [hle,bL,aB,aN,si]
 obtain ⟨u,r,E,i⟩:=M1 h q (fm ds) [] (R.zipIdx ds.flatten.length) a (N:Int) (I4 _ _) (λx d=>p x.1 (GN d)) (by simp only [aC,sK,bW,dD,bD]; omega) (by rw [sK]; exact ha) (by rw [sK,dD]; omega)
 rw [gM,bB,bB] at r
 have j:=i.length_eq
 rw [dD] at j
 have e:fm ds++u.map (·.1)=fm (ds++[u]):=by simp [fm]
 have hp:(ds++[u]).flatten.Perm (ds.flatten++R.zipIdx ds.flatten.length):=by
  rw [bP]
  refine dB _ ?_
  simpa using i
 rw [r,aA,e]
 obtain ⟨v,v1,v2,v3⟩:=P6 h q N (by omega) N 20 (ds++[u]) li (by omega) (by rw [mJ]; omega) (by omega) (by omega) (yr.append.2 ⟨hO,E,λx d=>by have:=MA R ds.flatten.length x (i.mem_iff.1 d); omega,trivial⟩) (λx d=>by
  rw [bP,aV] at d
  rcases d with d | d
  ·exact w x d
  ·simp only [aU,cJ,bB] at d
   exact p x.1 (GN (i.mem_iff.1 d))) (by rw [hp.length_eq,aC,dD]; omega) (WB.Ae s (by omega))
 exact ⟨v,v1,v2,v3.trans hp⟩
theorem Qq (h:SWO (pU c)) (E:DZ f c G) (N:Nat) (L:N≤300000):∀(k:Nat) (R:List Formula) (ds:List (List (Formula×Nat))) (n:Nat) (a b:Int),R.length≤k→k < n→yr c 0 ds→(∀A∈ds,A.length=20)→(∀x∈ds.flatten,G x.1)→(∀x∈R,G x)→ds.flatten.length+R.length=N→
  a=(ds.flatten.length:Int)→b=((ds.flatten.length+20:Nat):Int)→
  ∃u,ns (N:Int) f n (fm ds++R) a b=some (u.map (·.1))∧oe (pU c) u∧u.Perm (ds.flatten++R.zipIdx ds.flatten.length):=by
 intro k
 induction k with
 | zero=>
  intro R ds n a b hk M hO r s p w ha hb
  obtain rfl:=aI (kp.1 hk)
  exact OD h E N L [] ds n a b M hO r s p w (by simp) ha hb
 | succ k ih=>
  intro R ds n a b hk M hO r s p w ha hb
  by_cases J:R.length < 20
  ·exact OD h E N L R ds n a b (by omega) hO r s p w J ha hb
  obtain ⟨n,rfl⟩:=aF (by omega:n≠0)
  obtain ⟨R1,R2,rfl,q⟩:=rj (l:=R) (n:=20) (by omega)
  rw [aC] at w hk
  rw [ns]
  have hle:b≤(N:Int):=by omega
  simp only [hle,bJ,aS]
  obtain ⟨u,O,P,z⟩:=M1 h E (fm ds) R2 (R1.zipIdx ds.flatten.length) a b (I4 _ _) (λx d=>p x.1 (by simp [GN d])) (by simp only [aC,sK,bW,dD,bD]; omega) (by rw [sK]; exact ha) (by rw [sK,dD]; omega)
  rw [gM] at O
  rw [O,aA]
  have i:=z.length_eq
  rw [dD,q] at i
  have I:(ds++[u]).flatten.length=ds.flatten.length+20:=by rw [Pf,i]
  have Q:wi0 .i64 (b+20)=(((ds++[u]).flatten.length+20:Nat):Int):=mH _ (by omega) (by omega)
  have e:fm ds++(u.map (·.1)++R2)=fm (ds++[u])++R2:=by simp [fm]
  rw [e,Q]
  obtain ⟨v,v1,v2,v3⟩:=ih R2 (ds++[u]) n b _ (by omega) (by omega) (yr.append.2 ⟨hO,P,λx d=>by have:=MA R1 ds.flatten.length x (z.mem_iff.1 d); omega,trivial⟩) (λA j=>by
   rcases aV.1 j with j | j
   ·exact r A j
   ·simp at j; rw [j]; exact i) (λx d=>by
   rw [bP,aV] at d
   rcases d with d | d
   ·exact s x d
   ·simp only [aU,cJ,bB] at d
    exact p x.1 (by simp [GN (z.mem_iff.1 d)])) (λx d=>p x (by simp [d])) (by omega) (by omega) rfl
  refine ⟨v,v1,v2,v3.trans ?_⟩
  rw [I,bP,ju,q,aW]
  refine dB _ ?_
  simp only [aU,cJ,bB]
  exact z.append_right _
theorem Nv (h:SWO (pU c)) (n:DZ f c G) (l:List Formula) (j:∀x∈l,G x) (p:l.length≤300000):qv l f=some (yz (pU c) l):=by
 unfold qv sy
 obtain ⟨u,d,q,i⟩:=Qq h n l.length p l.length l [] li 0 20 (aQ _) (by rw [mJ]; omega) trivial (by simp) (by simp) j (by simp) rfl rfl
 simp only [fm,cJ,eU,bM,bD] at d i
 rw [d,aA,I9 h q i]
end
theorem Px {P:Formula→Prop} (h:∀f,(∀k∈f.Kids,P k)→P f):∀f,P f:=by
 intro f
 refine Formula.rec (motive_1:=P) (motive_2:=λks=>∀k∈ks,P k) ?_ ?_ ?_ f
 ·intro o k r ks ih; exact h _ ih
 ·intro k hk; cases hk
 ·intro k ks h1 i x d
  rcases aY.1 d with rfl | d
  ·exact h1
  ·exact i x d
mutual
def ma:Formula→Nat
 | ⟨_,_,_,ks⟩=>1+nodesL ks
def nodesL:List Formula→Nat
 | []=>0
 | k::ks=>ma k+nodesL ks
end
mutual
def qc:Formula→Nat
 | ⟨_,_,_,ks⟩=>deepL ks+1
def deepL:List Formula→Nat
 | []=>0
 | k::ks=>max (qc k) (deepL ks)
end
theorem rl (f:Formula):ma f=1+nodesL f.Kids:=by cases f; rw [ma]
theorem pa (f:Formula):qc f=deepL f.Kids+1:=by cases f; rw [qc]
theorem xD:∀{ks:List Formula} {k:Formula},k∈ks→ma k≤nodesL ks
 | x::ks,k,h=>by
  rw [nodesL]
  rcases aY.1 h with rfl | h
  ·omega
  ·have:=xD h; omega
theorem uT:∀{ks:List Formula} {k:Formula},k∈ks→qc k≤deepL ks
 | x::ks,k,h=>by
  rw [deepL]
  rcases aY.1 h with rfl | h
  ·omega
  ·have:=uT h; omega
theorem AY:∀f:Formula,qc f≤ma f:=by
 refine Px λf ih=>?_
 rw [pa,rl]
 have:∀ks:List Formula,(∀k∈ks,qc k≤ma k)→deepL ks≤nodesL ks:=by
  intro ks
  induction ks with
  | nil=>intro _; rw [deepL]; omega
  | cons k ks d=>
   intro h
   have:=d (λx i=>h x (by simp [i]))
   have:=h k (by simp)
   rw [deepL,nodesL]; omega
 have:=this f.Kids ih
 omega
theorem zp:∀ks:List Formula,ks.length≤nodesL ks
 | []=>by rw [nodesL]; simp
 | k::ks=>by have:=zp ks; have:=rl k; rw [nodesL,aJ]; omega
theorem Oo (i:Nat) (hm:i≤4096) (rec:Formula→Int→Option (Int×Int)):∀(ks:List Formula),(∀k∈ks,∀q:Nat,q≤4096→∃n d:Nat,rec k (q:Int)=some ((n:Int),(d:Int))∧1≤n∧n≤ma k∧d≤ma k∧(ma k≤q→n=ma k∧d=qc k)∧(q < ma k→q < n))→∀x y:Nat,x+nodesL ks≤100000000→
  ∃n d:Nat,qV (i:Int) rec ks (x:Int) (y:Int)=some ((n:Int),(d:Int))∧x≤n∧n≤x+nodesL ks∧d≤max y (nodesL ks)∧(x+nodesL ks≤i→n=x+nodesL ks∧d=max y (deepL ks))∧(i < x+nodesL ks→i < n)
 | [],_,x,y,_=>by
  rw [qV,nodesL,deepL]
  exact ⟨x,y,rfl,by omega,by omega,by omega,λ_=>⟨by omega,by omega⟩,λh=>by omega⟩
 | k::ks,p,x,y,hb=>by
  rw [nodesL] at hb ⊢
  rw [qV,deepL]
  by_cases r:(x:Int) > (i:Int)
  ·simp only [r,bJ,aS]
   exact ⟨x,y,rfl,by omega,by omega,by omega,λ_=>by omega,λh=>by omega⟩
  ·simp only [r,bL,aB,aN]
   have w:wi0 .i64 ((i:Int)-(x:Int))=((i-x:Nat):Int):=by rw [mi (by omega) (by omega)]; omega
   obtain ⟨m,d,e,h1,G,I,j,u⟩:=p k (by simp) (i-x) (by omega)
   rw [w,e,aA]
   have A:wi0 .i64 ((x:Int)+(m:Int))=((x+m:Nat):Int):=by rw [mi (by omega) (by omega)]; omega
   have E:(if (d:Int) > (y:Int) then (d:Int) else (y:Int))=((max y d:Nat):Int):=by split <;> omega
   simp only [A,E]
   obtain ⟨n,s,e',g1,g2,g3,g4,g5⟩:=Oo i hm rec ks (λz v=>p z (by simp [v])) (x+m) (max y d) (by omega)
   refine ⟨n,s,e',by omega,by omega,by omega,λh=>?_,λh=>?_⟩
   ·obtain ⟨rfl,rfl⟩:=j (by omega)
    obtain ⟨rfl,rfl⟩:=g4 (by omega)
    exact ⟨by omega,by omega⟩
   ·by_cases hk:i-x < ma k
    ·have:=u hk; omega
    ·obtain ⟨rfl,_⟩:=j (by omega)
     exact g5 (by omega)
theorem Qw:∀(n:Nat) (f:Formula),qc f≤n→ma f≤50000000→∀q:Nat,q≤4096→∃m d:Nat,pX n f (q:Int)=some ((m:Int),(d:Int))∧1≤m∧m≤ma f∧d≤ma f∧(ma f≤q→m=ma f∧d=qc f)∧(q < ma f→q < m):=by
 intro n
 induction n with
 | zero=>intro f h; rw [pa] at h; omega
 | succ n ih=>
  intro f r x q i
  rw [pa] at r
  have s:=rl f
  rw [pX]
  unfold wC
  obtain ⟨m,d,e,h1,v,w,j,p⟩:=Oo q i (pX n) f.Kids (λk hk q i=>ih k (by have:=uT hk; omega) (by have:=xD hk; omega) q i) 1 0 (by omega)
  have e':qV (q:Int) (pX n) f.Kids 1 0=some ((m:Int),(d:Int)):=e
  rw [e',aA]
  have u:wi0 .i64 ((d:Int)+1)=((d+1:Nat):Int):=by rw [mi (by omega) (by omega)]; omega
  simp only [u]
  refine ⟨m,d+1,rfl,h1,by omega,by omega,λh=>?_,λh=>p (by omega)⟩
  obtain ⟨rfl,rfl⟩:=j (by omega)
  rw [pa]
  exact ⟨by omega,by omega⟩
theorem RJ (f:Formula) (n:ma f≤50000000):yh f=some (if ma f≤4096 then ((ma f:Int),(qc f:Int)) else (0,0)):=by
 unfold yh
 have:=AY f
 obtain ⟨m,d,e,h1,p,q,i,j⟩:=Qw li f (by rw [mJ]; omega) n 4096 (aQ _)
 have e':pX li f 4096=some ((m:Int),(d:Int)):=e
 rw [e',aA]
 by_cases h:ma f≤4096
 ·obtain ⟨rfl,rfl⟩:=i h
  have:¬((ma f:Int) > 4096):=by omega
  simp [this,h]
 ·have:=j (by omega)
  have:((m:Int) > 4096):=by omega
  simp [this,h]
def vd:kz:=⟨zS,zS⟩
def EX (f:Formula):Bool:=if f.Op=1 then mu f.kz&&decide (f.Kids.length=0)&&decide (f.K=0) else if f.Op=2∨f.Op=3 then lq f.kz vd&&decide (f.K=0) else decide (f.Op=4)&&lq f.kz vd&&decide (0≤f.K)&&decide (f.K≤(f.Kids.length:Int))&&decide (1≤f.Kids.length)
theorem RU (f:Formula):ye f=some (EX f):=by
 unfold ye EX
 simp only [xo,aA,si]
 by_cases h1:f.Op=1
 ·simp only [h1,cK,aS]
  cases s:mu f.kz
  ·simp
  ·by_cases n:f.Kids.length=0
   ·have:f.Kids=[]:=aI n
    by_cases hk:f.K=0 <;> simp [this,hk]
   ·have:((f.Kids.length:Int)==0)=false:=by simp; intro h; exact n (by simp [h])
    simp only [aS,aA,this,aB,aN,n,bL,Bool.and_false,Bool.false_and]
 ·have q:(f.Op==1)=false:=by simpa using h1
  simp only [q,aB,aN,h1]
  by_cases d:f.Op=2∨f.Op=3
  ·have i:(if f.Op==2 then some (f.Op==2) else some (f.Op==3))=some true:=by
    rcases d with h | h <;> simp [h]
   simp only [i,aA,aS,d]
   cases hb:lq f.kz ⟨zS,zS⟩ <;> by_cases hk:f.K=0 <;> simp [vd,hb,hk]
  ·have i:(if f.Op==2 then some (f.Op==2) else some (f.Op==3))=some false:=by
    have a:f.Op≠2:=λh=>d (.inl h)
    have b:f.Op≠3:=λh=>d (.inr h)
    simp [a,b]
   simp only [i,aA,aB,aN,d]
   by_cases j:f.Op=4
   ·simp only [j,cK,aS,aA,bJ,iH]
    cases hb:lq f.kz ⟨zS,zS⟩
    ·simp [vd,hb]
    ·by_cases c1:0≤f.K <;> by_cases c2:f.K≤(f.Kids.length:Int) <;> by_cases p:1≤f.Kids.length <;> simp [vd,hb,c1,c2,p] <;> omega
   ·have r:(f.Op==4)=false:=by simpa using j
    simp [r,j]
mutual
def vl:Formula→Bool
 | ⟨o,n,r,ks⟩=>EX ⟨o,n,r,ks⟩&&decide (ks.length≤8)&&wellL ks
def wellL:List Formula→Bool
 | []=>true
 | k::ks=>vl k&&wellL ks
end
theorem HL (f:Formula):vl f=(EX f&&decide (f.Kids.length≤8)&&wellL f.Kids):=by cases f; rw [vl]
theorem JB:∀ks:List Formula,wellL ks=ks.all vl
 | []=>rfl
 | k::ks=>by rw [wellL,JB ks]; rfl
theorem KV (f:Formula→Option Bool):∀(l:List Formula) (i:Nat),oY f l i=zQ f l i
 | [],i=>by rw [oY]; rfl
 | x::l,i=>by
  rw [oY,zQ]
  cases f x with
  | none=>rfl
  | some b=>
   simp only [aA]
   rw [KV f l (i+1)]
theorem G8 (f:Formula→Option Bool) (p:Formula→Bool) (l:List Formula) (h:∀x∈l,f x=some (p x)):pA l f=some (l.any p):=by
 unfold pA ur
 rw [KV]
 rcases Cu f p l 0 h with ⟨e,h1⟩ | ⟨A,x,B,rfl,h1,d,e⟩
 ·rw [e,aA]
  have:l.any p=false:=by rw [List.any_eq_false]; intro x i; rw [h1 x i]; simp
  rw [this]; rfl
 ·rw [e,aA]
  have:(A++x::B).any p=true:=by simp [d]
  rw [this]
  congr 1
theorem PH:∀(n:Nat) (f:Formula),qc f≤n→sE n f=some (vl f):=by
 intro n
 induction n with
 | zero=>intro f h; rw [pa] at h; omega
 | succ n ih=>
  intro f h
  rw [pa] at h
  rw [sE]
  unfold wF
  rw [RU,aA,HL,G8 _ (λk=>!vl k) f.Kids (λk hk=>by unfold vC; rw [ih k (by have:=uT hk; omega)]; rfl)]
  rw [JB]
  have e:(!(f.Kids.any λk=>!vl k))=f.Kids.all vl:=by rw [List.all_eq_not_any_not]
  cases EX f
  ·rfl
  ·by_cases d:f.Kids.length≤8
   ·have:((f.Kids.length:Int)≤8):=by omega
    simp [d,this,e]
   ·have:¬((f.Kids.length:Int)≤8):=by omega
    simp [d,this]
def rh (f:Formula):Bool:=decide (ma f≤64)&&decide (qc f≤6)&&vl f
theorem A6 (f:Formula) (d:ma f≤50000000):qb f=some (rh f):=by
 unfold qb rh
 have i:=AY f
 rw [RJ f d,aA,PH li f (by rw [mJ]; omega)]
 have h1:=rl f
 by_cases h:ma f≤4096
 ·simp only [h,aS]
  have a:((ma f:Int)≥1):=by omega
  simp only [a,bJ,aS,aA,si]
  by_cases c1:ma f≤64 <;> by_cases c2:qc f≤6
  ·have d1:((ma f:Int)≤64):=by omega
   have d2:((qc f:Int)≤6):=by omega
   simp [c1,c2,d1,d2]
  ·have d1:((ma f:Int)≤64):=by omega
   have d2:¬((qc f:Int)≤6):=by omega
   simp [c1,c2,d1,d2]
  ·have d1:¬((ma f:Int)≤64):=by omega
   simp [c1,d1]
  ·have d1:¬((ma f:Int)≤64):=by omega
   simp [c1,d1]
 ·simp only [h,aN]
  have:¬ma f≤64:=by omega
  simp [this]
theorem Formula.ext' {a b:Formula} (h1:a.Op=b.Op) (d:a.K=b.K) (i:a.kz=b.kz) (j:a.Kids=b.Kids):a=b:=by
 cases a; cases b; simp only at h1 d i j; subst h1 d i j; rfl
theorem Pc (g:Formula×Formula→Option Bool):∀(l m:List Formula),l.length=m.length→(∀x∈l,∀y,∃b,g (x,y)=some b∧(b=true↔x=y))→∀(A:List Formula),
  ∃b,mB (A++m) g l A.length=some b∧(b=true↔l=m)
 | [],m,i,_,A=>by
  obtain rfl:=aI i.symm
  exact ⟨true,rfl,by simp⟩
 | x::l,[],i,_,A=>by simp at i
 | x::l,y::m,i,j,A=>by
  rw [mB]
  obtain ⟨b,e,h⟩:=j x (by simp) y
  have i1:lM (A++y::m) (A.length:Int)=some y:=mD _ _ _ _ rfl
  rw [i1,aA,e,aA]
  cases b with
  | false=>
   refine ⟨false,rfl,?_⟩
   have:x≠y:=λd=>by have:=h.2 d; simp at this
   simp [this]
  | true=>
   have d:=h.1 rfl
   obtain ⟨b,n,r⟩:=Pc g l m (by simpa using i) (λz s=>j z (by simp [s])) (A++[y])
   simp only [cY,aB,aN]
   have p:A++y::m=(A++[y])++m:=by simp
   have q:A.length+1=(A++[y]).length:=by simp
   rw [p,q,n]
   exact ⟨b,rfl,by rw [r]; simp [d]⟩
theorem Rr:∀(n:Nat) (f:Formula),qc f≤n→∀g,∃b,oP n f g=some b∧(b=true↔f=g):=by
 intro n
 induction n with
 | zero=>intro f h; rw [pa] at h; omega
 | succ n ih=>
  intro f h g
  rw [pa] at h
  rw [oP]
  unfold xk
  by_cases h1:f.Op=g.Op
  ·by_cases d:f.K=g.K
   ·by_cases i:f.kz=g.kz
    ·have p:lq f.kz g.kz=true:=ny.2 i
     simp only [h1,d,p,cK,aS,aA]
     unfold oh
     by_cases j:f.Kids.length=g.Kids.length
     ·have:((f.Kids.length:Int) != (g.Kids.length:Int))=false:=by simp [j]
      simp only [this,aB,aN]
      obtain ⟨b,e,hb⟩:=Pc (λx=>oP n x.1 x.2) f.Kids g.Kids j (λx s y=>ih x (by have:=uT s; omega) y) []
      simp only [bM,bD] at e
      rw [e]
      refine ⟨b,by simp,hb.trans ⟨λhk=>Formula.ext' h1 d i hk,λhk=>by rw [hk]⟩⟩
     ·have:((f.Kids.length:Int) != (g.Kids.length:Int))=true:=by simp; omega
      simp only [this,aS]
      exact ⟨false,rfl,by simp; intro hk; rw [hk] at j; exact j rfl⟩
    ·have p:lq f.kz g.kz=false:=by rw [←Bool.not_eq_true,ny]; exact i
     simp only [h1,d,p,cK,aS,aA,aB,aN]
     exact ⟨false,rfl,by simp; intro hk; rw [hk] at i; exact i rfl⟩
   ·have r:(f.K==g.K)=false:=by simpa using d
    simp only [h1,r,cK,aS,aA,aB,aN]
    exact ⟨false,rfl,by simp; intro hk; rw [hk] at d; exact d rfl⟩
  ·have q:(f.Op==g.Op)=false:=by simpa using h1
   simp only [q,aA,aB,aN]
   exact ⟨false,rfl,by simp; intro hk; rw [hk] at h1; exact h1 rfl⟩
def vr {α:Type} (R:α→Bool) (lt:α→α→Bool) (last:Option α):List α→Bool→α→Bool×α
 | [],ok,b=>(ok,b)
 | x::xs,ok,b=>if R x&&last.all (λy=>lt y x)&&(!ok||lt x b) then vr R lt last xs true x else vr R lt last xs ok b
def Hr {α:Type} (w:Nat) (R:α→Bool) (lt:α→α→Bool) (d:α) (l:List α):Nat→List α→Option (List α)
 | 0,_=>none
 | n+1,out=>if !(vr R lt out.getLast? l false d).1 then some out else (oB w out [(vr R lt out.getLast? l false d).2]).bind λo=>Hr w R lt d l n o
section
variable {α:Type} {R:α→Bool} {lt:α→α→Bool}
theorem Gi (H:Cx (λa b=>lt a b=true) (λx=>R x=true)) (last:Option α):∀(l:List α) (ok:Bool) (b:α),(ok=true→R b=true∧last.all (λy=>lt y b)=true)→
  ((vr R lt last l ok b).1=false→ok=false∧∀x∈l,R x=true→last.all (λy=>lt y x)=false)∧
  ((vr R lt last l ok b).1=true→R (vr R lt last l ok b).2=true∧last.all (λy=>lt y (vr R lt last l ok b).2)=true∧((vr R lt last l ok b).2∈l∨(ok=true∧(vr R lt last l ok b).2=b))∧
   (∀x∈l,R x=true→last.all (λy=>lt y x)=true→lt x (vr R lt last l ok b).2=false)∧(ok=true→lt b (vr R lt last l ok b).2=false))
 | [],ok,b,hb=>by
  simp only [vr]
  exact ⟨λh=>⟨h,by simp⟩,λh=>⟨(hb h).1,(hb h).2,.inr ⟨h,trivial⟩,by simp,λ_=>by
   cases q:lt b b with
   | false=>rfl
   | true=>exact absurd q (H.irrefl b (hb h).1)⟩⟩
 | x::xs,ok,b,hb=>by
  rw [vr]
  by_cases p:(R x&&last.all (λy=>lt y x)&&(!ok||lt x b))=true
  ·rw [cE p]
   simp only [bQ,iJ,fU] at p
   obtain ⟨⟨I,w⟩,A⟩:=p
   obtain ⟨h1,v⟩:=Gi H last xs true x (λ_=>⟨I,w⟩)
   refine ⟨λh=>?_,λh=>?_⟩
   ·cases (h1 h).1
   ·obtain ⟨s,a2,a3,a4,a5⟩:=v h
    refine ⟨s,a2,?_,?_,?_⟩
    ·rcases a3 with a3 | ⟨_,a3⟩
     ·exact .inl (by simp [a3])
     ·exact .inl (by rw [a3]; simp)
    ·intro y j d i
     rcases aY.1 j with rfl | j
     ·exact a5 rfl
     ·exact a4 y j d i
    ·intro n
     cases q:lt b (vr R lt last xs true x).2 with
     | false=>rfl
     | true=>
      have E:lt x b=true:=by rcases A with h | h; rw [n] at h; cases h; exact h
      have:=H.trans x b _ I (hb n).1 s E q
      simp only [a5 rfl] at this
      cases this
  ·rw [cI p]
   obtain ⟨h1,v⟩:=Gi H last xs ok b hb
   refine ⟨λh=>⟨(h1 h).1,λy j d=>?_⟩,λh=>?_⟩
   ·rcases aY.1 j with rfl | j
    ·have n:=(h1 h).1
     cases w:last.all (λz=>lt z y) with
     | false=>rfl
     | true=>exact absurd (by simp [d,w,n]) p
    ·exact (h1 h).2 y j d
   ·obtain ⟨s,a2,a3,a4,a5⟩:=v h
    refine ⟨s,a2,?_,?_,a5⟩
    ·rcases a3 with a3 | a3
     ·exact .inl (by simp [a3])
     ·exact .inr a3
    ·intro y j d i
     rcases aY.1 j with rfl | j
     ·cases q:lt y (vr R lt last xs ok b).2 with
      | false=>rfl
      | true=>
       cases ok with
       | false=>exact absurd (by simp [d,i]) p
       | true=>
        have G:lt y b=false:=by
         cases J:lt y b with
         | false=>rfl
         | true=>exact absurd (by simp [d,i,J]) p
        have u:=hb rfl
        rcases H.total y b d u.1 with r | r | r
        ·rw [G] at r; cases r
        ·subst r; rw [a5 rfl] at q; cases q
        ·have:=H.trans b y _ u.1 d s r q
         simp only [a5 rfl] at this
         cases this
     ·exact a4 y j d i
theorem Bi (H:Cx (λa b=>lt a b=true) (λx=>R x=true)) {l:List α} (i:∀x∈l,R x=true) (h:l.Pairwise (λa b=>lt a b=true)):l.Nodup:=by
 refine h.imp_of_mem (λ{a b} ha hb d e=>?_)
 subst e
 exact H.irrefl a (i a ha) d
theorem qT:∀{l m:List α},l.Nodup→(∀x∈l,x∈m)→l.length≤m.length
 | [],_,_,_=>by simp
 | x::l,m,n,i=>by
  obtain ⟨A,B,rfl⟩:=List.append_of_mem (i x (by simp))
  have d:=eT.1 n
  have:=qT (l:=l) (m:=A++B) d.2 (λy j=>by
   have:=i y (gF _ j)
   simp only [aV,aY] at this ⊢
   rcases this with h | h | h
   ·exact .inl h
   ·subst h; exact absurd j d.1
   ·exact .inr h)
  simp at this ⊢; omega
theorem FV (H:Cx (λa b=>lt a b=true) (λx=>R x=true)) {w:Nat} (hw:w≤1000) (d:α) (l:List α) (Q:l.length≤1000000000):∀(n:Nat) (out:List α),l.length < n+out.length→out.Pairwise (λa b=>lt a b=true)→(∀x∈out,x∈l∧R x=true)→
  (∀x∈l,R x=true→x∈out∨out.getLast?.all (λy=>lt y x)=true)→∃s,Hr w R lt d l n out=some s∧yl (λa b=>lt a b=true) (λx=>R x=true) l s
 | 0,out,T,hp,hm,J=>by
  exfalso
  have:=qT (Bi H (λx i=>(hm x i).2) hp) (λx i=>(hm x i).1)
  omega
 | n+1,out,T,hp,hm,J=>by
  rw [Hr]
  obtain ⟨h1,O⟩:=Gi H out.getLast? l false d (λh=>by cases h)
  have hlen:=qT (Bi H (λx i=>(hm x i).2) hp) (λx i=>(hm x i).1)
  cases M:(vr R lt out.getLast? l false d).1 with
  | false=>
   rw [cE (by simp)]
   refine ⟨out,rfl,hp,λx=>⟨hm x,λi=>?_⟩⟩
   rcases J x i.1 i.2 with h | h
   ·exact h
   ·rw [(h1 M).2 x i.1 i.2] at h; cases h
  | true=>
   rw [cI (by simp)]
   obtain ⟨G,a2,a3,a4,_⟩:=O M
   generalize (vr R lt out.getLast? l false d).2=b at *
   have I:b∈l:=by rcases a3 with h | ⟨h,_⟩; exact h; cases h
   have v:∀y∈out,lt y b=true:=by
    intro y j
    obtain ⟨A,z,rfl⟩:∃A z,out=A++[z]:=by
     rcases dO out with h | ⟨A,z,h⟩
     ·subst h; cases j
     ·exact ⟨A,z,by rw [h]; simp⟩
    simp at a2
    rcases aV.1 j with j | j
    ·have L:lt y z=true:=(dG.1 hp).2.2 y j z (by simp)
     exact H.trans y z b (hm y (by simp [j])).2 (hm z (by simp)).2 G L a2
    ·simp at j; subst j; exact a2
   have E:(out++[b]).Pairwise (λa b=>lt a b=true):=dG.2 ⟨hp,by simp,λx i y j=>by simp at j; subst j; exact v x i⟩
   have r:∀x∈out++[b],x∈l∧R x=true:=λx i=>by
    rcases aV.1 i with i | i
    ·exact hm x i
    ·simp at i; subst i; exact ⟨I,G⟩
   have q:=qT (Bi H (λx i=>(r x i).2) E) (λx i=>(r x i).1)
   simp at q
   rw [qg (by simp only [aJ,bD]; have:(out.length+(0+1))*w≤1000000000*1000:=Nat.mul_le_mul (by omega) hw; omega) (by simp; omega)]
   simp only [aA]
   refine FV H hw d l Q n (out++[b]) (by simp; omega) E r (λx i p=>?_)
   rcases J x i p with h | h
   ·exact .inl (by simp [h])
   ·have P:=a4 x i p h
    rcases H.total x b p G with u | u | u
    ·rw [P] at u; cases u
    ·subst u; exact .inl (by simp)
    ·exact .inr (by simp [u])
end
theorem Ly {α:Type} (A:List α) (x:α) (d:A.length < 4611686018427387904):lM (A++[x]) (wi0 .i64 (((A++[x]).length:Int)-1))=some x:=by
 rw [mi (by simp; try omega) (by simp; try omega)]
 rw [mD A x [] _ (by simp; try omega)]
theorem HH (out:List kC) (q:out.length < 4611686018427387904):∀(l:List kC) (ok:Bool) (b:kC),tq out l ok b=some (vr nW yI out.getLast? l ok b)
 | [],ok,b=>rfl
 | x::xs,ok,b=>by
  rw [tq,vr]
  have cmp:∀a b,∃c,uj a b=some c∧decide (c < 0)=yI a b:=λa b=>by
   obtain ⟨c,h1,n⟩:=FW a b
   exact ⟨c,h1,by rw [cZ,←n]; simp⟩
  rw [Cj,HH out q xs true x,HH out q xs ok b]
  obtain ⟨c,h1,n⟩:=cmp x b
  rcases dO out with h | ⟨A,z,h⟩
  ·subst h
   simp only [h1,aA,n,bD,Option.all,List.getLast?_nil]
   generalize yI x b=p
   cases nW x <;> cases ok <;> cases p <;> simp
  ·have j:out=A++[z]:=by rw [h]; simp
   obtain ⟨E,v,w⟩:=cmp z x
   have d:out.getLast? =some z:=by rw [j]; simp
   have i:lM out (wi0 .i64 ((out.length:Int)-1))=some z:=by rw [j]; exact Ly A z (by rw [j] at q; simp at q; omega)
   have r:((out.length:Int)==0)=false:=by rw [j]; simp; omega
   rw [d]
   simp only [r,i,v,h1,aA,n,w,Option.all]
   rcases fC (yI x b) with hp | hp <;> rcases fC (yI z x) with s | s <;> rcases fC (nW x) with u | u <;> cases ok <;> simp [hp,s,u]
theorem HP (out:List kz) (n:out.length < 4611686018427387904):∀(l:List kz) (ok:Bool) (b:kz),te out l ok b=some (vr mu wh out.getLast? l ok b)
 | [],ok,b=>rfl
 | x::xs,ok,b=>by
  rw [te,vr]
  rw [zm,HP out n xs true x,HP out n xs ok b]
  rcases dO out with h | ⟨A,z,h⟩
  ·subst h
   simp only [zL,aA,bD,Option.all,List.getLast?_nil]
   generalize wh x b=p
   cases mu x <;> cases ok <;> cases p <;> simp
  ·have j:out=A++[z]:=by rw [h]; simp
   have d:out.getLast? =some z:=by rw [j]; simp
   have i:lM out (wi0 .i64 ((out.length:Int)-1))=some z:=by rw [j]; exact Ly A z (by rw [j] at n; simp at n; omega)
   have q:((out.length:Int)==0)=false:=by rw [j]; simp; omega
   rw [d]
   simp only [q,i,zL,aA,Option.all]
   rcases fC (wh x b) with hp | hp <;> rcases fC (wh z x) with r | r <;> rcases fC (mu x) with s | s <;> cases ok <;> simp [hp,r,s]
theorem QM (a:List kC):∀(n:Nat) (out s:List kC),Hr 136 nW yI (⟨0,⟨zS,zS⟩,zS,⟨zS,zS⟩,⟨zS,zS⟩,zS⟩:kC) a n out=some s→s.length < 4611686018427387904→uP a n out=some s∧out.length≤s.length
 | 0,out,s,h,_=>by cases h
 | n+1,out,s,h,p=>by
  rw [Hr] at h
  rw [uP]
  have key:out.length≤s.length→tq out a false (⟨0,⟨zS,zS⟩,zS,⟨zS,zS⟩,⟨zS,zS⟩,zS⟩:kC)=_:=λr=>HH out (by omega) a false _
  split at h
  ·rename_i h1
   cases h
   rw [key (aQ _)]
   simp only [aA]
   rw [cE h1]
   exact ⟨rfl,aQ _⟩
  ·rename_i h1
   obtain ⟨o,d,i⟩:=bind_some h
   have j:=QM a n o s i p
   have q:out.length+1=o.length:=by
    unfold oB at d; split at d
    ·cases d; simp
    ·cases d
   rw [key (by omega)]
   simp only [aA]
   rw [cI h1,d]
   exact ⟨j.1,by omega⟩
theorem Q4 (a:List kz):∀(n:Nat) (out s:List kz),Hr 32 mu wh (⟨zS,zS⟩:kz) a n out=some s→s.length < 4611686018427387904→uQ a n out=some s∧out.length≤s.length
 | 0,out,s,h,_=>by cases h
 | n+1,out,s,h,p=>by
  rw [Hr] at h
  rw [uQ]
  have key:out.length≤s.length→te out a false (⟨zS,zS⟩:kz)=_:=λr=>HP out (by omega) a false _
  split at h
  ·rename_i h1
   cases h
   rw [key (aQ _)]
   simp only [aA]
   rw [cE h1]
   exact ⟨rfl,aQ _⟩
  ·rename_i h1
   obtain ⟨o,d,i⟩:=bind_some h
   have j:=Q4 a n o s i p
   have q:out.length+1=o.length:=by
    unfold oB at d; split at d
    ·cases d; simp
    ·cases d
   rw [key (by omega)]
   simp only [aA]
   rw [cI h1,d]
   exact ⟨j.1,by omega⟩
abbrev Cw (l s:List kz):=yl (λa b=>wh a b=true) (λx=>mu x=true) l s
abbrev vH (l s:List kC):=yl (λa b=>yI a b=true) (λx=>nW x=true) l s
theorem FY {α:Type} {lt:α→α→Bool} {R:α→Bool} (H:Cx (λa b=>lt a b=true) (λx=>R x=true)) {l s:List α} (h:yl (λa b=>lt a b=true) (λx=>R x=true) l s):s.length≤l.length :=
 qT (Bi H (λx d=>((h.2 x).1 d).2) h.1) (λx d=>((h.2 x).1 d).1)
theorem RN (l:List kC) (i:l.length≤1000000000):∃s,DQ l=some s∧vH l s:=by
 obtain ⟨s,h1,d⟩:=FV Ev (w:=136) (by omega) (⟨0,⟨zS,zS⟩,zS,⟨zS,zS⟩,⟨zS,zS⟩,zS⟩:kC) l i li [] (by rw [AX]; omega) (by simp) (by simp) (λx _ _=>.inr rfl)
 exact ⟨s,(QM l li [] s h1 (by have:=FY Ev d; omega)).1,d⟩
theorem Rc (l:List kz) (i:l.length≤1000000000):∃s,DJ l=some s∧Cw l s:=by
 obtain ⟨s,h1,d⟩:=FV (Bb (λx=>mu x=true)) (w:=32) (by omega) (⟨zS,zS⟩:kz) l i li [] (by rw [AX]; omega) (by simp) (by simp) (λx _ _=>.inr rfl)
 exact ⟨s,(Q4 l li [] s h1 (by have:=FY (Bb _) d; omega)).1,d⟩
def zC:kC:=⟨0,⟨zS,zS⟩,zS,⟨zS,zS⟩,⟨zS,zS⟩,zS⟩
theorem MU (f:kC→Option Bool):∀(n:Nat) (l:List kC) (i j:Int),pn f n l i j=EV f zC n l i j
 | 0,_,_,_=>rfl
 | n+1,l,i,j=>by
  rw [pn,EV]
  simp only [MU f n]
  rfl
theorem Nl (f:kC→Option Bool):∀(l:List kC) (i:Nat),qo f l i=zQ f l i
 | [],_=>rfl
 | x::l,i=>by rw [qo,zQ]; simp only [Nl f l]
theorem PU (f:kC→Option Bool) (l:List kC):sx l f=IZ f zC l:=by
 unfold sx IZ sR
 simp only [Nl,MU]
theorem KZ (i:Int):∀(n:Nat) (l:List kC) (k j:Int),pR i n l k j=CM lL i n l k j
 | 0,_,_,_=>rfl
 | n+1,l,k,j=>by
  rw [pR,CM]
  simp only [KZ i n]
theorem Kv (l:List kC):∀(n:Nat) (i:Int),pW l n i=Dw lL zC l n i
 | 0,_=>rfl
 | n+1,i=>by
  rw [pW,Dw]
  simp only [Kv l n,KZ]
  rfl
theorem Qy (l:List kC):uf l=KN lL zC l:=by
 unfold uf KN
 simp only [Kv]
theorem SI {l:List kC} (d:l.length≤1000000000):sZ l=some l:=by
 unfold sZ
 rw [qg (by simp; omega) (by simp; omega)]
 simp
theorem T9 (l:List kC) (i:l.length≤1000000000):∃s,zW l=some s∧vH l s:=by
 unfold zW
 rw [SI i]
 simp only [aA]
 rw [PU,KE _ (λx=>!nW x) zC l (by omega) (λx _=>by simp [yU,Ai])]
 simp only [aA,fZ]
 have p:(l.filter λx=>nW x).length≤l.length:=eL _ _
 obtain ⟨s,h1,n,d⟩:=Mg (eq:=lL) (lt:=λa b=>yI a b=true) (P:=λx=>nW x=true) (cf:=λx=>oS x.1 x.2) (l:=l.filter λx=>nW x) (λx y=>qC) Ev (λx j=>(cQ.1 j).2) (by omega) (λx y _ _=>BF x y)
 rw [h1]
 simp only [aA]
 rw [Qy,LF _ _ _ (by omega)]
 refine ⟨_,rfl,d.1,λx=>?_⟩
 rw [d.2]
 simp
def F8 {κ:Type} (beq:κ→κ→Bool) (ks:List κ) (k:κ):Bool:=ks.any λx=>beq k x
def ins {κ:Type} (beq:κ→κ→Bool) (ks:List κ) (k:κ):List κ:=if F8 beq ks k then ks else ks++[k]
section
variable {κ:Type} {beq:κ→κ→Bool}
theorem QD (hb:∀{x y},beq x y=true↔x=y) (ks:List κ) (k:κ):F8 beq ks k=true↔k∈ks:=by
 simp [F8,List.any_eq_true,hb]
end
theorem yl.congr {α:Type} {lt:α→α→Prop} {P:α→Prop} {l m s:List α} (h:yl lt P l s) (hm:∀x,x∈l↔x∈m):yl lt P m s:=⟨h.1,λx=>by rw [h.2,hm]⟩
def zb (c:kC):Nat:=c.Head.kA.size+c.Head.Word.size+c.mC.size+c.B.kA.size+c.B.Word.size+c.C.kA.size+c.C.Word.size+c.mA.size
section
variable {κ γ:Type} {beq:κ→κ→Bool}
theorem OB (p:κ×γ) (l:List (κ×γ)) (k:κ):qE beq (p::l) k=if beq k p.1=true then some p.2 else qE beq l k:=by
 unfold qE
 rw [gY]
 cases beq k p.1 <;> simp
end
theorem MZ (c:kC):∀(l:List kC) (i:Nat),∃z,rr c l i=some z∧(z≥0↔c∈l)
 | [],i=>⟨-1,rfl,by simp⟩
 | x::l,i=>by
  rw [rr]
  by_cases h:lL c x=true
  ·rw [cE h]
   exact ⟨_,rfl,by simp [qC.1 h]⟩
  ·rw [cI h]
   obtain ⟨z,e,j⟩:=MZ c l (i+1)
   refine ⟨z,e,?_⟩
   rw [j,aY]
   exact ⟨.inr,λd=>d.resolve_left (λe=>h (qC.2 e))⟩
theorem P3 (c:kC) (l:List kC):∃b,vJ l c=some b∧(b=true↔c∈l):=by
 obtain ⟨z,e,d⟩:=MZ c l 0
 refine ⟨decide (z≥0),?_,by simpa using d⟩
 unfold vJ tN xl
 rw [e]
 rfl
def qA:kz:=⟨⟨#[97]⟩,⟨#[114]⟩⟩
def qB:kz:=⟨⟨#[98]⟩,⟨#[115]⟩⟩
def qd:ByteArray:=⟨#[100]⟩
def j1:kC:=⟨2,qA,zS,qB,⟨zS,zS⟩,zS⟩
def j2:kC:=⟨1,qB,qd,⟨zS,zS⟩,⟨zS,zS⟩,zS⟩
def up (w:ByteArray) (g:ByteArray→Nat):ByteArray→Nat:=λx=>if lQ w x=true then g x+1 else g x
instance Uq:DecidableEq kz:=λa b=>decidable_of_iff (lq a b=true) ny
def B8 (l:List Int):Prop:=∀x∈l,0≤x∧x < 256
def N4:List ByteArray→List Key→Int
 | _,[]=>0
 | seen,k::l=>if qf k.mC=false then 30 else if k.Key.length < 1∨32 < k.Key.length then 21 else if F8 lQ seen k.mC=true then 41 else N4 (seen++[k.mC]) l
def PZ (l:List Key):List (ByteArray×List Int):=l.map λk=>(k.mC,k.Key)
def PW (l:List Key) (o:ByteArray):Option (List Int):=qE lQ (PZ l) o
theorem Sc {l:List Int} (h:l.length≤1000000):vB l=some l:=by
 unfold vB
 rw [HQ (by simpa using h)]; rfl
theorem M6:∀(l:List Key) (seen:List ByteArray),N4 seen l=0→∀k∈l,1≤k.Key.length∧k.Key.length≤32
 | [],_,_,_,hk=>by cases hk
 | x::l,seen,h,k,hk=>by
  unfold N4 at h
  split at h
  ·cases h
  split at h
  ·cases h
  split at h
  ·cases h
  rcases aY.1 hk with rfl | hk
  ·omega
  ·exact M6 l _ h k hk
theorem HG:∀(l:List Key) (o:ByteArray) (b:List Int),PW l o=some b→∃k∈l,k.Key=b
 | [],o,b,h=>by cases h
 | x::l,o,b,h=>by
  unfold PW at h
  rw [show PZ (x::l)=(x.mC,x.Key)::PZ l from rfl,OB] at h
  split at h
  ·cases h; exact ⟨x,by simp,rfl⟩
  ·obtain ⟨k,hk,e⟩:=HG l o b h
   exact ⟨k,by simp [hk],e⟩
def K8 (l:List Key):Prop:=∀k∈l,B8 k.Key
structure Mk (ks:List Key) (c:kC) (k:List Int):Prop where
 ok:N4 [] ks=0
 rt:nW c=true
 lk:PW ks c.Head.kA=some k
theorem Mk.len {ks:List Key} {c:kC} {k:List Int} (h:Mk ks c k):1≤k.length∧k.length≤32:=by
 obtain ⟨q,d,rfl⟩:=HG _ _ _ h.lk
 exact M6 ks [] h.ok q d
theorem Mk.b8 {ks:List Key} {c:kC} {k:List Int} (h:Mk ks c k) (hk:K8 ks):B8 k:=by
 obtain ⟨q,d,rfl⟩:=HG _ _ _ h.lk
 exact hk q d
theorem Mk.unique {ks:List Key} {c:kC} {k k':List Int} (h:Mk ks c k) (d:Mk ks c k'):k=k':=by
 have:=h.lk; rw [d.lk] at this; cases this; rfl
mutual
def Cl:Formula→List Int
 | ⟨o,k,r,ks⟩=>o::(if o=1 then tP r else (if o=4 then [k] else [])++((ks.length:Int)::bytesFL ks))
def bytesFL:List Formula→List Int
 | []=>[]
 | k::ks=>Cl k++bytesFL ks
end
theorem Oq (f:Formula):Cl f=f.Op::(if f.Op=1 then tP f.kz else (if f.Op=4 then [f.K] else [])++((f.Kids.length:Int)::bytesFL f.Kids)):=by cases f; rw [Cl]
theorem Dt {f:Formula} (h:vl f=true):f.Kids.length≤8∧wellL f.Kids=true∧((f.Op=1∧mu f.kz=true∧f.Kids=[]∧f.K=0)∨((f.Op=2∨f.Op=3)∧f.kz=vd∧f.K=0)∨(f.Op=4∧f.kz=vd∧0≤f.K∧f.K≤(f.Kids.length:Int)∧1≤f.Kids.length)):=by
 rw [HL] at h
 simp only [bQ,cX] at h
 obtain ⟨⟨h1,d⟩,i⟩:=h
 refine ⟨d,i,?_⟩
 unfold EX at h1
 split at h1
 ·rename_i c
  simp only [bQ,cX] at h1
  exact .inl ⟨c,h1.1.1,aI h1.1.2,h1.2⟩
 ·split at h1
  ·rename_i c
   simp only [bQ,cX,ny] at h1
   exact .inr (.inl ⟨c,h1.1,h1.2⟩)
  ·simp only [bQ,cX,ny] at h1
   exact .inr (.inr ⟨h1.1.1.1.1,h1.1.1.1.2,h1.1.1.2,h1.1.2,h1.2⟩)
theorem Sa:∀(n:Nat) (f:Formula),qc f≤n→vl f=true→∀l:List Int,l.length+40*ma f≤8000→rk n l f=some (l++Cl f)∧(Cl f).length≤40*ma f:=by
 intro n
 induction n with
 | zero=>intro f h; rw [pa] at h; omega
 | succ n ih=>
  intro f A hw l w
  rw [pa] at A
  have E:=rl f
  obtain ⟨h1,v,s⟩:=Dt hw
  rw [rk]
  unfold wG
  have j:0≤f.Op∧f.Op < 128:=by rcases s with h | h | h <;> omega
  rw [zu j.1 j.2 (by omega),aA,Oq]
  have key:∀(ks:List Formula),(∀k∈ks,k∈f.Kids)→wellL ks=true→∀l:List Int,l.length+40*nodesL ks≤8000→rV (rk n) ks l=some (l++bytesFL ks)∧(bytesFL ks).length≤40*nodesL ks:=by
   intro ks
   induction ks with
   | nil=>intro _ _ l _; rw [rV,bytesFL]; simp
   | cons k ks u=>
    intro hk d l w
    rw [wellL,bQ] at d
    rw [nodesL] at w
    obtain ⟨q,I⟩:=ih k (by have:=uT (hk k (by simp)); omega) d.1 l (by omega)
    obtain ⟨i,r⟩:=u (λz G=>hk z (by simp [G])) d.2 (l++Cl k) (by simp; omega)
    rw [rV,q,aA,i,bytesFL,nodesL]
    exact ⟨by simp,by simp; omega⟩
  have hlen:0≤(f.Kids.length:Int)∧(f.Kids.length:Int) < 128:=by omega
  by_cases c1:f.Op=1
  ·have x:mu f.kz=true:=by rcases s with h | h | h; exact h.2.1; omega; omega
   have:=qP x
   simp only [c1,cK,aS]
   rw [LA x (by simp; omega),aA]
   exact ⟨by simp,by simp; omega⟩
  ·have q:(f.Op==1)=false:=by simpa using c1
   simp only [q,aB,aN,c1]
   by_cases p:f.Op=4
   ·have hk:0≤f.K∧f.K < 128:=by rcases s with h | h | h <;> omega
    simp only [p,cK,aS]
    rw [zu hk.1 hk.2 (by simp; omega)]
    simp only [aA]
    rw [zu hlen.1 hlen.2 (by simp; omega)]
    simp only [aA]
    obtain ⟨i,r⟩:=key f.Kids (λk hk=>hk) v (l++[4]++[f.K]++[(f.Kids.length:Int)]) (by simp; omega)
    rw [i]
    exact ⟨by simp,by simp; omega⟩
   ·have r:(f.Op==4)=false:=by simpa using p
    simp only [r,aB,aN,p,aA]
    rw [zu hlen.1 hlen.2 (by simp; omega)]
    simp only [aA]
    obtain ⟨i,J⟩:=key f.Kids (λk hk=>hk) v (l++[f.Op]++[(f.Kids.length:Int)]) (by simp; omega)
    rw [i]
    exact ⟨by simp,by simp; omega⟩
def Hf (f:Formula):List Int:=if rh f then Cl f else []
abbrev Gd (f:Formula):Prop:=ma f≤50000000
theorem EW {f:Formula} (h:rh f=true):ma f≤64∧qc f≤6∧vl f=true:=by
 unfold rh at h
 simp only [bQ,cX] at h
 exact ⟨h.1.1,h.1.2,h.2⟩
theorem R0 (f:Formula) (j:Gd f) (l:List Int) (q:l.length≤5000):xt l f=some (rh f,l++Hf f)∧(Hf f).length≤2560:=by
 unfold xt Hf
 rw [A6 f j,aA]
 cases h:rh f
 ·simp
 ·obtain ⟨h1,p,i⟩:=EW h
  obtain ⟨d,n⟩:=Sa li f (by rw [mJ]; omega) i l (by omega)
  simp only [cY,aB,aN,d,aA,aS]
  exact ⟨trivial,by omega⟩
theorem IJ (f:Formula) (i:Gd f):uD f=some (Hf f):=by
 unfold uD
 obtain ⟨d,j⟩:=R0 f i [] (by simp)
 rw [d,aA,si]
 unfold uZ
 simp only [bM]
 rw [Sc (by omega)]
 rfl
def Nd (f g:Formula):Int:=zq (Hf f) (Hf g)
theorem Oc (f g:Formula) (d:Gd f) (i:Gd g):uw f g=some (Nd f g):=by
 unfold uw xx
 rw [IJ f d,IJ g i]
 rfl
theorem Ej (f g:Formula):pU Nd f g=Op.bytesLess (wz (Hf f)) (wz (Hf g)):=by
 rw [cZ]
 have h:pU Nd f g=true↔Nd f g < 0:=by unfold pU; exact decide_eq_true_iff
 exact h.trans (GB _ _)
theorem Up:SWO (pU Nd) where
 Kj x:=by rw [Ej,Bq]
 tr x y z h1 d:=by rw [Ej] at *; exact zi _ _ _ h1 d
 H5 x y z h:=by
  rw [Ej] at h
  rw [Ej,Ej]
  rcases Cc (wz (Hf x)) (wz (Hf y)) with h1 | h1 | h1
  ·exact .inl h1
  ·rw [h1] at h; exact .inr h
  ·exact .inr (zi _ _ _ h1 h)
def DD (l:List Formula):List Formula:=yz (pU Nd) l
theorem J9 (l:List Formula) (d:∀x∈l,Gd x) (i:l.length≤300000):wi l=some (DD l):=by
 unfold wi tL
 rw [qg (by simp; omega) (by simp; omega)]
 simp only [aA,bM,si]
 exact Nv Up (λx y j n=>Oc x y j n) l d i
theorem Ot {α:Type} (lt:α→α→Bool) (l:List α) (k:α):(DN lt l k).Perm (l++[k]):=by
 unfold DN
 refine List.perm_middle.trans ((List.Perm.cons _ ?_).trans (gv k l).symm)
 have:=List.filter_append_perm (λx=>!lt k x) l
 simpa using this
theorem CR {α:Type} (lt:α→α→Bool) (l:List α):(yz lt l).Perm l:=by
 suffices H:∀(l a:List α),(l.foldl (DN lt) a).Perm (a++l) by have:=H l []; rwa [bM] at this
 intro l
 induction l with
 | nil=>intro a; simp
 | cons k l ih=>
  intro a
  rw [gW]
  refine (ih _).trans ?_
  have:=(Ot lt a k).append_right l
  simpa using this
theorem Ge (l:List Formula):(DD l).Perm l:=CR _ l
noncomputable def xy (a b:Formula):Bool:=@decide (a=b) (Classical.propDecidable _)
theorem Mz {a b:Formula}:xy a b=true↔a=b:=by unfold xy; simp
theorem Gw (a b:Formula) (h:Gd a):oP li a b=some (xy a b):=by
 have:=AY a
 obtain ⟨x,e,d⟩:=Rr li a (by rw [mJ]; omega) b
 rw [e]; congr 1
 rw [cZ,d,Mz]
def TX:Formula:=⟨0,0,⟨zS,zS⟩,[]⟩
theorem PY (f1:Formula×Formula→Option Bool) (i:Int):∀(n:Nat) (l:List Formula) (k j:Int),(∀x∈l,∀y∈l,f1 (x,y)=some (xy x y))→ol i f1 n l k j=CM xy i n l k j
 | 0,l,k,j,_=>by rw [ol,CM]
 | n+1,l,k,j,h=>by
  rw [ol,CM]
  split
  ·cases p:lM (l.drop (Int.toNat i)) j with
   | none=>rfl
   | some x=>
    cases q:lM (l.drop (Int.toNat i)) (wi0 .i64 (j-1)) with
    | none=>rfl
    | some y=>
     have d:x∈l:=List.mem_of_mem_drop (cR (kY p))
     have r:y∈l:=List.mem_of_mem_drop (cR (kY q))
     simp only [aA,h x d y r]
     cases xy x y
     ·simp only [dY,aS]
      cases s:lM l k with
      | none=>rfl
      | some z=>
       simp only [aA]
       refine PY f1 i n _ _ _ (λa ha b hb=>?_)
       have m:∀a∈l.set (Int.toNat k) x,a∈l:=λa ha=>by
        rcases List.mem_or_eq_of_mem_set ha with ha | rfl
        ·exact ha
        ·exact d
       exact h a (m a ha) b (m b hb)
     ·simp only [cY,aB,aN,aA]
      exact PY f1 i n _ _ _ h
  ·rfl
theorem SN (f1:Formula×Formula→Option Bool) (l:List Formula) (h:∀x∈l,∀y∈l,f1 (x,y)=some (xy x y)):∀(n:Nat) (i:Int),og l f1 n i=Dw xy TX l n i
 | 0,i=>by rw [og,Dw]
 | n+1,i=>by
  rw [og,Dw]
  split
  ·cases d:lM l i with
   | none=>rfl
   | some x=>
    cases j:lM l (wi0 .i64 (i-1)) with
    | none=>rfl
    | some y=>
     have p:x∈l:=cR (kY d)
     have q:y∈l:=cR (kY j)
     simp only [aA,h x p y q]
     rw [PY f1 i li l i 1 h,SN f1 l h n]
     rfl
  ·rfl
theorem NS (l:List Formula) (h:∀x∈l,Gd x) (i:l.length≤300000):re l (λx=>oP li x.1 x.2)=some (dd xy l):=by
 rw [←LF xy TX l (by omega)]
 unfold re KN
 rw [SN _ l (λx d y _=>Gw x y (h x d))]
def qH (op:Int) (f:Formula):Bool:=decide (f.Op=op)&&f.Kids.isEmpty
theorem HM (f:Formula) (op:Int):uM f op=some (qH op f):=by
 unfold uM qH
 rw [si]
 by_cases h:f.Op=op
 ·simp only [h,cK,aS,bJ,iH]
  congr 1
  cases hk:f.Kids with
  | nil=>rfl
  | cons a l=>simp; omega
 ·have e:(f.Op==op)=false:=by simpa using h
  simp [e,h]
def vi (op:Int):List Formula→List Formula
 | []=>[]
 | k::ks=>(if k.Op=op then k.Kids else [k])++vi op ks
theorem EP (op:Int):∀ks:List Formula,nodesL (vi op ks)≤nodesL ks
 | []=>aQ _
 | k::ks=>by
  have ih:=EP op ks
  have e:∀a b:List Formula,nodesL (a++b)=nodesL a+nodesL b:=by
   intro a b
   induction a with
   | nil=>rw [bM,nodesL]; omega
   | cons x a d=>rw [bY,nodesL,nodesL,d]; omega
  have:=rl k
  rw [vi,e,nodesL]
  split
  ·omega
  ·rw [nodesL,nodesL]; omega
theorem I2 (op:Int):∀(ks acc:List Formula),acc.length+nodesL ks≤100000000→rO op ks acc=some (acc++vi op ks)
 | [],acc,_=>by rw [rO,vi,bB]
 | k::ks,acc,h=>by
  rw [nodesL] at h
  have h1:=rl k
  have d:=zp k.Kids
  rw [rO,vi]
  by_cases c:k.Op=op
  ·simp only [c,cK,aS]
   rw [qg (by omega) (by omega),aA,I2 op ks _ (by simp; omega),aW]
  ·have e:(k.Op==op)=false:=by simpa using c
   simp only [e,aB,aN,c]
   rw [qg (by simp; omega) (by simp; omega),aA,I2 op ks _ (by simp; omega),aW]
noncomputable def vY (op:Int) (ks:List Formula):Formula :=
 if (vi op ks).any (qH (5-op)) then ⟨5-op,0,vd,[]⟩ else
  match dd xy (DD (vi op ks)) with
  | [x]=>x
  | r=>⟨op,0,vd,r⟩
theorem SX {α:Type} (eq:α→α→Bool) (l:List α):(dd eq l).length≤l.length:=by
 cases l with
 | nil=>exact aQ _
 | cons x l=>
  have:∀(l:List α) (x:α),(ri eq x l).length≤l.length:=by
   intro l
   induction l with
   | nil=>intro x; exact aQ _
   | cons y l ih=>intro x; rw [ri]; have:=ih y; have:=ih x; split <;> simp <;> omega
  have:=this l x
  rw [dd,aJ,aJ]; omega
theorem Gb (s:mc) (op:Int) (n:op=2∨op=3) (ks:List Formula) (h:nodesL ks≤64):pT s op ks=some (vY op ks,s):=by
 have h1:=EP op ks
 have p:=zp (vi op ks)
 have i:∀x∈vi op ks,Gd x:=λx d=>by have:=xD d; unfold Gd; omega
 have hw:wi0 .i64 (5-op)=5-op:=mi (by omega) (by omega)
 unfold pT BC vY
 rw [I2 op ks [] (by simp; omega),aA,bM,hw,G8 _ (qH (5-op)) _ (λx _=>by unfold sd; rw [HM,si]),aA]
 cases q:(vi op ks).any (qH (5-op))
 ·simp only [aB,aN]
  have hp:=Ge (vi op ks)
  have v:=hp.length_eq
  rw [J9 _ i (by omega),aA,NS _ (λx d=>i x (hp.mem_iff.1 d)) (by omega),aA]
  have u:=SX xy (DD (vi op ks))
  have j:¬(((dd xy (DD (vi op ks))).length:Int) > 64):=by omega
  simp only [j,bL,aB,aN,aA]
  generalize dd xy (DD (vi op ks))=r
  match r with
  | []=>rfl
  | [x]=>rfl
  | x::y::r=>
   have:(((x::y::r).length:Int)==1)=false:=by simp; omega
   simp only [this,aB,aN]
   rfl
 ·rfl
noncomputable def zo (k:Int) (ks:List Formula):Formula :=
 let n:=k-((ks.filter (qH 2)).length:Int)
 let l:=ks.filter λx=>!qH 2 x&&!qH 3 x
 if n≤0 then ⟨2,0,vd,[]⟩ else if n > (l.length:Int) then ⟨3,0,vd,[]⟩ else if n=(l.length:Int) then vY 2 l else if n=1 then vY 3 l else ⟨4,n,vd,DD l⟩
theorem CG (p:Formula→Bool):∀ks:List Formula,nodesL (ks.filter p)≤nodesL ks
 | []=>aQ _
 | k::ks=>by
  have:=CG p ks
  rw [fH]
  split
  ·rw [nodesL,nodesL]; omega
  ·rw [nodesL]; omega
theorem BN (s:mc):∀(ks acc:List Formula) (k:Int),-1000≤k-(ks.length:Int)→k≤1000→acc.length+ks.length≤1000→nodesL (acc++ks.filter λx=>!qH 2 x&&!qH 3 x)≤64→
  nY s ks k acc=some (let n:=k-((ks.filter (qH 2)).length:Int); let l:=acc++ks.filter λx=>!qH 2 x&&!qH 3 x; if n≤0 then ⟨2,0,vd,[]⟩ else if n > (l.length:Int) then ⟨3,0,vd,[]⟩ else if n=(l.length:Int) then vY 2 l else if n=1 then vY 3 l else ⟨4,n,vd,DD l⟩,s)
 | [],acc,k,h1,p,q,d=>by
  simp only [kh,bB,bD] at d ⊢
  rw [nY]
  simp only [Int.ofNat_zero,Int.sub_zero,Aa,AS,aA,Int.natCast_zero]
  have w:=zp acc
  by_cases c1:k≤0
  ·simp only [c1,bJ,aS]; rfl
  ·simp only [c1,bL,aB,aN]
   by_cases c2:k > (acc.length:Int)
   ·simp only [c2,bJ,aS]; rfl
   ·simp only [c2,bL,aB,aN]
    by_cases i:k=(acc.length:Int)
    ·simp only [←i,cK,aS]
     rw [Gb s 2 (.inl rfl) acc d,aA]
    ·have r:(k==(acc.length:Int))=false:=by simpa using i
     simp only [r,aB,aN,i]
     by_cases j:k=1
     ·simp only [j,cK,aS]
      rw [Gb s 3 (.inr rfl) acc d,aA]
     ·have u:(k==1)=false:=by simpa using j
      simp only [u,aB,aN,j]
      rw [J9 acc (λx v=>by have:=xD v; unfold Gd; omega) (by omega)]
      rfl
 | x::ks,acc,k,h1,p,q,d=>by
  simp only [aJ] at h1 q
  rw [nY,HM,aA,HM,aA]
  rw [fH,fH] at *
  cases c2:qH 2 x
  ·cases i:qH 3 x
   ·simp only [c2,i,dY,Bool.and_self,aB,aN,aS] at d ⊢
    rw [qg (by simp; omega) (by simp; omega),aA,BN s ks _ k (by omega) p (by simp; omega) (by rw [aW]; exact d)]
    simp only [aW,bY,bM]
   ·simp only [c2,i,dY,cY,Bool.and_false,aB,aN] at d ⊢
    rw [BN s ks _ k (by omega) p (by omega) d]
  ·simp only [c2,cY,Bool.false_and,aB,aN,aS] at d ⊢
   rw [mi (by omega) (by omega),BN s ks _ (k-1) (by omega) (by omega) (by omega) d]
   simp only [aJ]
   have e:k-1-((ks.filter (qH 2)).length:Int)=k-(((ks.filter (qH 2)).length+1:Nat):Int):=by omega
   rw [e]
theorem N0 (s:mc) (k:Int) (hk:0≤k∧k≤1000) (ks:List Formula) (h:nodesL ks≤64):sf s k ks=some (zo k ks,s):=by
 have:=zp ks
 have:=CG (λx=>!qH 2 x&&!qH 3 x) ks
 unfold sf zo
 rw [BN s ks [] k (by omega) (by omega) (by simp; omega) (by simpa using by omega)]
 rfl
mutual
noncomputable def wu:Formula→Formula
 | ⟨o,k,r,ks⟩=>if o=1 then ⟨o,k,r,ks⟩ else if o=4 then zo k (shapeL ks) else vY o (shapeL ks)
noncomputable def shapeL:List Formula→List Formula
 | []=>[]
 | k::ks=>wu k::shapeL ks
end
theorem JD (f:Formula):wu f=if f.Op=1 then f else if f.Op=4 then zo f.K (shapeL f.Kids) else vY f.Op (shapeL f.Kids):=by cases f; rw [wu]
theorem He {a b:List Formula} (h:a.Perm b):nodesL a=nodesL b:=by
 induction h with
 | nil=>rfl
 | cons x _ ih=>rw [nodesL,nodesL,ih]
 | swap x y l=>rw [nodesL,nodesL,nodesL,nodesL]; omega
 | trans _ _ h1 d=>rw [h1,d]
theorem E4 (eq:Formula→Formula→Bool):∀(l:List Formula) (x:Formula),nodesL (ri eq x l)≤nodesL l
 | [],x=>aQ _
 | y::l,x=>by
  have h1:=E4 eq l y
  have d:=E4 eq l x
  rw [ri]
  split
  ·rw [nodesL]; omega
  ·rw [nodesL,nodesL]; omega
theorem PF (eq:Formula→Formula→Bool) (l:List Formula):nodesL (dd eq l)≤nodesL l:=by
 cases l with
 | nil=>exact aQ _
 | cons x l=>have:=E4 eq l x; rw [dd,nodesL,nodesL]; omega
theorem CD (op:Int) (ks:List Formula):ma (vY op ks)≤1+nodesL ks:=by
 unfold vY
 split
 ·rw [ma,nodesL]; omega
 ·have h1:=PF xy (DD (vi op ks))
  have d:=He (Ge (vi op ks))
  have i:=EP op ks
  generalize dd xy (DD (vi op ks))=r at *
  split
  ·rename_i x
   rw [nodesL,nodesL] at h1; omega
  ·rw [ma]; omega
theorem JX (k:Int) (ks:List Formula):ma (zo k ks)≤1+nodesL ks:=by
 have h:=CG (λx=>!qH 2 x&&!qH 3 x) ks
 unfold zo
 simp only
 generalize ks.filter (λx=>!qH 2 x&&!qH 3 x)=l at *
 generalize k-((ks.filter (qH 2)).length:Int)=n
 split
 ·rw [ma,nodesL]; omega
 ·split
  ·rw [ma,nodesL]; omega
  ·split
   ·have:=CD 2 l; omega
   ·split
    ·have:=CD 3 l; omega
    ·have:=He (Ge l); rw [ma]; omega
theorem DP:∀f:Formula,ma (wu f)≤ma f:=by
 refine Px λf ih=>?_
 have h:∀ks:List Formula,(∀k∈ks,ma (wu k)≤ma k)→nodesL (shapeL ks)≤nodesL ks:=by
  intro ks
  induction ks with
  | nil=>intro _; rw [shapeL]; exact aQ _
  | cons k ks d=>
   intro h
   have:=d (λx i=>h x (by simp [i]))
   have:=h k (by simp)
   rw [shapeL,nodesL,nodesL]; omega
 have h:=h f.Kids ih
 rw [JD,rl f]
 split
 ·rw [rl]; omega
 ·split
  ·have:=JX f.K (shapeL f.Kids); omega
  ·have:=CD f.Op (shapeL f.Kids); omega
theorem Ks (ks:List Formula):nodesL (shapeL ks)≤nodesL ks:=by
 induction ks with
 | nil=>rw [shapeL]; exact aQ _
 | cons k ks ih=>have:=DP k; rw [shapeL,nodesL,nodesL]; omega
theorem Qg:∀(n:Nat) (f:Formula),qc f≤n→ma f≤64→vl f=true→∀s:mc,oW n s f=some (wu f,s):=by
 intro n
 induction n with
 | zero=>intro f h; rw [pa] at h; omega
 | succ n ih=>
  intro f A I hw s
  rw [pa] at A
  have E:=rl f
  obtain ⟨h1,x,u⟩:=Dt hw
  rw [oW]
  unfold tG
  rw [JD]
  by_cases c1:f.Op=1
  ·simp only [c1,cK,aS]
  ·have v:(f.Op==1)=false:=by simpa using c1
   simp only [v,aB,aN,c1]
   have key:∀(ks acc:List Formula),(∀k∈ks,k∈f.Kids)→wellL ks=true→nodesL (acc++shapeL ks)≤64→nodesL ks≤64→pw (oW n) f ks acc s=some (if f.Op=4 then zo f.K (acc++shapeL ks) else vY f.Op (acc++shapeL ks),s):=by
    intro ks
    induction ks with
    | nil=>
     intro acc _ _ j _
     rw [shapeL,bB] at *
     rw [pw]
     by_cases p:f.Op=4
     ·simp only [p,cK,aS]
      rw [N0 s f.K (by rcases u with h | h | h <;> omega) acc j,aA]
     ·have w:(f.Op==4)=false:=by simpa using p
      simp only [w,aB,aN,p]
      rw [Gb s f.Op (by rcases u with h | h | h <;> omega) acc j,aA]
    | cons k ks r=>
     intro acc hk d j q
     rw [wellL,bQ] at d
     rw [nodesL] at q
     rw [shapeL] at j
     have i:=zp (acc++wu k::shapeL ks)
     simp only [aC,aJ] at i
     rw [pw,ih k (by have:=uT (hk k (by simp)); omega) (by omega) d.1 s,aA,qg (by simp; omega) (by simp; omega),aA,
      r (acc++[wu k]) (λz G=>hk z (by simp [G])) d.2 (by rw [aW]; exact j) (by omega),shapeL]
     simp only [aW,bY,bM]
   have:=Ks f.Kids
   have:=key f.Kids [] (λk hk=>hk) x (by simpa using by omega) (by omega)
   simpa using this
def M0:Formula:=⟨0,0,vd,[]⟩
noncomputable def FD (f:Formula):Formula×Int:=if rh f then (if rh (wu f) then (wu f,0) else (M0,12)) else (M0,11)
theorem Mv (f:Formula) (h:Gd f):yO f=some (FD f):=by
 unfold yO FD
 rw [A6 f h,aA]
 cases i:rh f
 ·rfl
 ·obtain ⟨h1,j,d⟩:=EW i
  have n:=DP f
  simp only [cY,aB,aN,aS]
  rw [Qg li f (by rw [mJ]; omega) h1 d,aA,A6 (wu f) (by omega)]
  have e:(((⟨0⟩:mc).e) != 0)=false:=rfl
  simp only [e,aB,aN,aA]
  cases rh (wu f) <;> rfl
theorem Jv {f:Formula}:ma (FD f).1≤64:=by
 unfold FD
 cases h:rh f
 ·exact by simp only [aB,aN,M0]; rw [ma,nodesL]; omega
 ·obtain ⟨h1,d,i⟩:=EW h
  have:=DP f
  simp only [aS]
  split
  ·show ma (wu f)≤64; omega
  ·rw [M0,ma,nodesL]; omega
theorem RM (f g:Formula) (d:ma f≤10000000) (i:ma g≤10000000):yV f g=some (FD ⟨2,0,vd,[f,g]⟩):=by
 unfold yV
 have:=Mv ⟨2,0,vd,[f,g]⟩ (by show ma _≤_; rw [ma,nodesL,nodesL,nodesL]; omega)
 rw [show (⟨2,0,(⟨zS,zS⟩:kz),[f,g]⟩:Formula)=⟨2,0,vd,[f,g]⟩ from rfl,this]
 rfl
mutual
def UG (v:kz→Bool):Formula→Bool
 | ⟨o,k,r,ks⟩=>if o=1 then v r else if o=2 then decide (evN v ks=ks.length) else if o=3 then decide (0 < evN v ks) else decide (k≤(evN v ks:Int))
def evN (v:kz→Bool):List Formula→Nat
 | []=>0
 | k::ks=>(if UG v k then 1 else 0)+evN v ks
end
def S8 (l:List Signed):Prop:=∀s∈l,B8 s.Tag
theorem PV (b:List kC) (x:kC):tN b x=some (F8 lL b x):=by
 obtain ⟨q,e,h⟩:=P3 x b
 unfold vJ at e
 rw [si] at e
 rw [e,show q=F8 lL b x from by rw [cZ,h,QD qC]]
structure PB (p:lZ):Prop where
 Iu:p.kM.length≤2000000
 FO:p.kU.length≤2000000
 rel:∀x∈p.kM,ma x.kE≤10000000
 NR:∀a∈p.kU,ma a.kE≤10000000
 TU:∀a∈p.kU,a.lN.length≤2000000
theorem HE (f:lh→Option Bool):∀(l:List lh) (i:Nat),nw f l i=zQ f l i
 | [],i=>by rw [nw]; rfl
 | x::l,i=>by
  rw [nw,zQ]
  cases f x with
  | none=>rfl
  | some b=>
   simp only [aA]
   rw [HE f l (i+1)]
theorem Hs (f:mn→Option Bool):∀(l:List mn) (i:Nat),ob f l i=zQ f l i
 | [],i=>by rw [ob]; rfl
 | x::l,i=>by
  rw [ob,zQ]
  cases f x with
  | none=>rfl
  | some b=>
   simp only [aA]
   rw [Hs f l (i+1)]
theorem Lt {α:Type} (f:α→Option Bool) (p:α→Bool) (l:List α) (h:∀x∈l,f x=some (p x)):((zQ f l 0).bind λr1=>some (decide (r1≥0)))=some (l.any p):=by
 rcases Cu f p l 0 h with ⟨e,h1⟩ | ⟨A,x,B,rfl,h1,d,e⟩
 ·rw [e,aA]
  have:l.any p=false:=by rw [List.any_eq_false]; intro x i; rw [h1 x i]; simp
  rw [this]; rfl
 ·rw [e,aA]
  have:(A++x::B).any p=true:=by simp [d]
  rw [this]
  congr 1
theorem N2 (f:lh→Option Bool) (p:lh→Bool) (l:List lh) (h:∀x∈l,f x=some (p x)):qN l f=some (l.any p):=by
 unfold qN oV
 rw [HE]; exact Lt f p l h
theorem ND (f:mn→Option Bool) (p:mn→Bool) (l:List mn) (h:∀x∈l,f x=some (p x)):sh l f=some (l.any p):=by
 unfold sh py
 rw [Hs]; exact Lt f p l h
def GA (p:lZ) (c:kC):Option lh:=p.kM.find? λx=>lL x.Signed.kC c
theorem RW (p:lZ) (c:kC):∃z,zP p c=some (match GA p c with | some x=>(x,true) | none=>(z,false)):=by
 unfold zP oV GA
 rw [HE]
 rcases Cu (λx=>xr x c) (λx=>lL x.Signed.kC c) p.kM 0 (λx _=>rfl) with ⟨e,h1⟩ | ⟨A,x,B,hp,h1,i,e⟩
 ·rw [e,aA,jy.2 (λx d=>by rw [h1 x d]; simp)]
  exact ⟨_,rfl⟩
 ·rw [e,aA,hp,List.find?_append,jy.2 (λx d=>by rw [h1 x d]; simp),gY,i]
  have:¬(((0+A.length:Nat):Int) < 0):=by omega
  simp only [this,bL,aB,aN]
  rw [mD A x B _ (by omega)]
  exact ⟨x,rfl⟩
def SZ:mn:=⟨⟨zS,zS⟩,⟨0,0,⟨zS,zS⟩,[]⟩,[]⟩
theorem Kn (f:mn→Option Bool):∀(n:Nat) (l:List mn) (i j:Int),pv f n l i j=EV f SZ n l i j
 | 0,_,_,_=>rfl
 | n+1,l,i,j=>by
  rw [pv,EV]
  simp only [Kn f n]
  rfl
def Ie (p:lZ) (c:kC):List mn:=p.kU.filter λa=>F8 lL a.lN c
theorem Qj (p:lZ) (hp:PB p) (c:kC):yZ p c=some (Ie p c):=by
 have:=hp.FO
 unfold yZ vG Ie
 rw [qg (by simp; omega) (by simp; omega)]
 simp only [aA,bM,si]
 have:sS p.kU (λx=>tH x c)=IZ (λx=>tH x c) SZ p.kU:=by
  unfold sS IZ py
  simp only [Hs,Kn]
 rw [this,KE _ (λa=>!F8 lL a.lN c) SZ _ (by omega) (λa _=>by unfold tH vJ; rw [si,PV]; rfl)]
 simp only [fZ]
noncomputable def zc:Formula×Int→List Formula→Formula×Int
 | t,[]=>t
 | t,g::l=>if t.2=0 then zc (FD ⟨2,0,vd,[t.1,g]⟩) l else t
theorem Mn:∀(l:List Formula) (e o k:Int) (r:kz) (ks:List Formula),(∀g∈l,ma g≤10000000)→ma ⟨o,k,r,ks⟩≤64→
  uK l e o k r ks=some ((zc (⟨o,k,r,ks⟩,e) l).2,(zc (⟨o,k,r,ks⟩,e) l).1.Op,(zc (⟨o,k,r,ks⟩,e) l).1.K,(zc (⟨o,k,r,ks⟩,e) l).1.kz,(zc (⟨o,k,r,ks⟩,e) l).1.Kids)
 | [],e,o,k,r,ks,_,_=>by rw [uK,zc]
 | g::l,e,o,k,r,ks,h,u=>by
  rw [uK,zc]
  by_cases c:e=0
  ·have d:(e != 0)=false:=by simp [c]
   simp only [d,aB,aN,c,aS]
   rw [RM _ g (by omega) (h g (by simp)),aA]
   have j:=Jv (f:=⟨2,0,vd,[⟨o,k,r,ks⟩,g]⟩)
   generalize FD ⟨2,0,vd,[⟨o,k,r,ks⟩,g]⟩=q at *
   obtain ⟨⟨p,k',s,i⟩,e'⟩:=q
   exact Mn l e' p k' s i (λz n=>h z (by simp [n])) j
  ·have d:(e != 0)=true:=by simp [c]
   simp only [d,aS,c,aN]
noncomputable def Qk (g:Formula) (l:List Formula):Formula×Int:=if (zc (FD g) l).2=0 then zc (FD g) l else (M0,(zc (FD g) l).2)
theorem RG (g:Formula) (l:List Formula) (u:ma g≤10000000) (n:∀x∈l,ma x≤10000000):xf (g::l)=some (Qk g l):=by
 unfold xf Qk
 have i:lM (g::l) 0=some g:=mD [] g l 0 rfl
 have d:wy (decide (0≤1)&&decide ((1:Int)≤((g::l).length:Int)))=some ():=by
  rw [aJ]
  have:(1:Int)≤((l.length+1:Nat):Int):=by omega
  simp [wy]; omega
 have p:=Jv (f:=g)
 rw [i,aA,Mv g (by unfold Gd; omega),aA,d,aA]
 generalize FD g=q at *
 obtain ⟨⟨o,k,r,ks⟩,e⟩:=q
 have j:(g::l).drop (Int.toNat 1)=l:=rfl
 rw [j,Mn l e o k r ks n p,aA]
 generalize zc (⟨o,k,r,ks⟩,e) l=t
 obtain ⟨⟨v,k',w,s⟩,e'⟩:=t
 by_cases c:e'=0
 ·subst c; rfl
 ·have d:(e' != 0)=true:=by simp [c]
  simp only [d,aS,c,aN]; rfl
noncomputable def Ep (p:lZ) (c:kC):Formula×Int:=match GA p c with | none=>(M0,42) | some x=>Qk x.kE ((Ie p c).map (·.kE))
theorem O2:∀(l:List mn) (acc:List Formula),acc.length+l.length≤3000000→vv l acc=xf (acc++l.map (·.kE))
 | [],acc,_=>by
  rw [vv,eU,bB]
  cases xf acc <;> rfl
 | a::l,acc,h=>by
  rw [aJ] at h
  rw [vv,qg (by simp; omega) (by simp; omega),aA,O2 l _ (by simp; omega)]
  simp
theorem Qh {p:lZ} {c:kC} {x:lh} (h:GA p c=some x):x∈p.kM∧x.Signed.kC=c:=by
 unfold GA at h
 have h1:=List.mem_of_find?_eq_some h
 have d:=List.find?_some h
 exact ⟨h1,qC.1 d⟩
theorem SP (p:lZ) (hp:PB p) (c:kC):Au p c=some (Ep p c):=by
 unfold Au Ep
 obtain ⟨z,e⟩:=RW p c
 rw [e,aA]
 cases h:GA p c with
 | none=>rfl
 | some x=>
  simp only [cY,aB,aN]
  have i:=Qh h
  have j:(Ie p c).length≤p.kU.length:=eL _ _
  have:=hp.FO
  rw [Qj p hp c,aA,O2 _ _ (by simp; omega)]
  exact RG x.kE _ (hp.rel x i.1) (λg d=>by
   obtain ⟨a,ha,rfl⟩:=bE.1 d
   exact hp.NR a (cQ.1 ha).1)
theorem JL:∀(l m A:List kC),l.length=m.length→∃b,rs (A++m) l A.length=some b∧(b=true↔l=m)
 | [],m,A,i=>by
  obtain rfl:=aI i.symm
  exact ⟨true,rfl,by simp⟩
 | x::l,[],A,i=>by simp at i
 | x::l,y::m,A,i=>by
  have i1:lM (A++y::m) (A.length:Int)=some y:=mD _ _ _ _ rfl
  rw [rs,i1,aA]
  cases hb:lL x y with
  | false=>
   refine ⟨false,rfl,?_⟩
   have:x≠y:=λd=>by have:=qC.2 d; rw [this] at hb; cases hb
   simp [this]
  | true=>
   have d:=qC.1 hb
   obtain ⟨b,j,q⟩:=JL l m (A++[y]) (by simpa using i)
   simp only [cY,aB,aN]
   have n:A++y::m=(A++[y])++m:=by simp
   have p:A.length+1=(A++[y]).length:=by simp
   rw [n,p,j]
   exact ⟨b,rfl,by rw [q]; simp [d]⟩
theorem Lv (l m:List kC):∃b,pD l m=some b∧(b=true↔l=m):=by
 unfold pD
 by_cases h:l.length=m.length
 ·have:((l.length:Int) != (m.length:Int))=false:=by simp [h]
  simp only [this,aB,aN]
  exact JL l m [] h
 ·have:((l.length:Int) != (m.length:Int))=true:=by simp; omega
  simp only [this,aS]
  exact ⟨false,rfl,by simp; intro hk; rw [hk] at h; exact h rfl⟩
theorem Jh (l:List kC) (n:l.length≤1000000000):∃b,wc l=some b∧(b=true↔vH l l):=by
 obtain ⟨s,e,h⟩:=T9 l n
 obtain ⟨b,i,j⟩:=Lv s l
 unfold wc
 rw [e,aA,i]
 refine ⟨b,rfl,j.trans ⟨λd=>?_,λd=>yl.unique Ev h d⟩⟩
 rw [d] at h; exact h
def SC (l:List lh):Prop:=(∀x∈l,x.Signed.Tag.length=8∧rh x.kE=true)∧vH (l.map (·.Signed.kC)) (l.map (·.Signed.kC))
theorem JA:∀(l:List lh) (acc:List kC),acc.length+l.length≤1000000000→(∀x∈l,ma x.kE≤10000000)→
  ∃b,tf l acc=some b∧(b=true↔(∀x∈l,x.Signed.Tag.length=8∧rh x.kE=true)∧vH (acc++l.map (·.Signed.kC)) (acc++l.map (·.Signed.kC)))
 | [],acc,h,_=>by
  obtain ⟨b,e,hb⟩:=Jh acc (by omega)
  rw [tf,e]
  exact ⟨b,rfl,by simpa using hb⟩
 | x::l,acc,h,i=>by
  rw [aJ] at h
  have n:=i x (by simp)
  rw [tf,A6 _ (by omega)]
  simp only [aA]
  by_cases c1:x.Signed.Tag.length=8
  ·have d:((x.Signed.Tag.length:Int) != 8)=false:=by simp [c1]
   simp only [d,aB,aN,aA]
   cases c2:rh x.kE
   ·refine ⟨false,rfl,?_⟩
    constructor
    ·intro h; cases h
    ·rintro ⟨h1,_⟩
     have:=(h1 x (by simp)).2
     rw [c2] at this; cases this
   ·simp only [cY,aB,aN]
    obtain ⟨b,e,hb⟩:=JA l (acc++[x.Signed.kC]) (by simp; omega) (λz j=>i z (by simp [j]))
    rw [qg (by simp; omega) (by simp; omega),aA,e]
    refine ⟨b,rfl,hb.trans ?_⟩
    simp only [aW,bY,bM,bA,ij]
    simp only [c1,c2,true_and]
  ·have d:((x.Signed.Tag.length:Int) != 8)=true:=by simp; omega
   simp only [d,aS,aA]
   refine ⟨false,rfl,?_⟩
   constructor
   ·intro h; cases h
   ·rintro ⟨h1,_⟩
    exact absurd (h1 x (by simp)).1 c1
def CF:Option kz→List mn→Prop
 | _,[]=>True
 | q,a::l=>(∀z,q=some z→wh z a.kz=true)∧CF (some a.kz) l
def TQ (l:List mn):Prop:=(∀a∈l,mu a.kz=true∧rh a.kE=true∧vH a.lN a.lN)∧CF none l
theorem Rk (A:List mn) (a:mn) (l:List mn) (p:A.length+1+l.length≤1000000000):∃b,(((if (decide ((A.length:Int) > 0)) then ((lM (A++a::l) (wi0 .i64 ((A.length:Int)-1))).bind λj=>((oR j.kz a.kz).bind λd=>some (decide (d≥0)))) else some false):Option Bool).bind λi=>some i)=some b∧(b=false↔∀z,A.getLast?.map (·.kz)=some z→wh z a.kz=true):=by
 rw [si]
 rcases dO A with rfl | ⟨B,y,rfl⟩
 ·exact ⟨false,rfl,by simp⟩
 ·have h1:((B++[y]).length:Int) > 0:=by simp
  simp only [eK] at *
  simp only [h1,bJ,aS]
  have hw:wi0 .i64 (((B++[y]).length:Int)-1)=(B.length:Int):=by rw [mi (by simp) (by simp at *; omega)]; simp
  rw [hw,aW]
  rw [show B++([y]++a::l)=B++y::(a::l) from rfl,mD B y (a::l) _ rfl,aA]
  obtain ⟨c,e,h⟩:=yA y.kz a.kz
  rw [e,aA]
  refine ⟨_,rfl,?_⟩
  simp only [List.getLast?_append,List.getLast?_singleton,Option.some_or,gC,iN]
  rw [gO]
  constructor
  ·rintro n z rfl; exact h.1 (by omega)
  ·intro n; have:=h.2 (n _ rfl); omega
theorem LH (all:List mn):∀(l A:List mn),all=A++l→all.length≤1000000000→(∀a∈l,ma a.kE≤10000000∧a.lN.length≤2000000)→
  ∃b,um all l A.length=some b∧(b=true↔(∀a∈l,mu a.kz=true∧rh a.kE=true∧vH a.lN a.lN)∧CF (A.getLast?.map (·.kz)) l)
 | [],A,_,_,_=>⟨true,by rw [um],by simp [CF]⟩
 | a::l,A,d,j,s=>by
  have ha:=s a (by simp)
  have hlen:A.length+1+l.length≤1000000000:=by rw [d] at j; simp at j; omega
  obtain ⟨u,i,r⟩:=Rk A a l hlen
  rw [←d] at i
  obtain ⟨v,w,h1⟩:=Jh a.lN (by omega)
  rw [um,xo,A6 _ (by omega),w]
  simp only [aA] at i ⊢
  rw [i]
  rw [CF]
  simp only [ij]
  cases c1:mu a.kz
  ·exact ⟨false,by simp,by simp⟩
  ·cases c2:rh a.kE
   ·exact ⟨false,by simp,by simp⟩
   ·cases v with
    | false=>
     refine ⟨false,by simp,?_⟩
     have:¬vH a.lN a.lN:=λh=>by have:=h1.2 h; cases this
     simp [this]
    | true=>
     have x:=h1.1 rfl
     cases u with
     | true=>
      refine ⟨false,by simp,?_⟩
      constructor
      ·intro h; cases h
      ·rintro ⟨_,h,_⟩
       have:=r.2 h; cases this
     | false=>
      have n:=r.1 rfl
      obtain ⟨b,e,hb⟩:=LH all l (A++[a]) (by simp [d]) j (λz n=>s z (by simp [n]))
      rw [aC,hY] at e
      refine ⟨b,by simpa using e,hb.trans ?_⟩
      simp only [List.getLast?_append,List.getLast?_singleton,Option.some_or,gC,x,true_and]
      exact ⟨λ⟨p,q⟩=>⟨p,n,q⟩,λ⟨p,_,q⟩=>⟨p,q⟩⟩
def GG (p:lZ):Bool:=decide (256 < p.kM.length)||decide (8 < p.kU.length)||p.kU.any λa=>decide (32 < a.lN.length)
theorem Rx (p:lZ):Ap p=some (GG p):=by
 unfold Ap GG
 rw [ND _ (λa=>decide (32 < a.lN.length)) _ (λa _=>by unfold xm; congr 1; rw [cZ,cX,cX]; omega)]
 by_cases c1:256 < p.kM.length
 ·have:((p.kM.length:Int) > 256):=by omega
  simp [c1,this]
 ·have:¬((p.kM.length:Int) > 256):=by omega
  by_cases c2:8 < p.kU.length
  ·have:((p.kU.length:Int) > 8):=by omega
   simp [c1,c2, *]
  ·have:¬((p.kU.length:Int) > 8):=by omega
   simp [c1,c2, *]
theorem OH (p:lZ) (hp:PB p):xZ p=some (p.kM.all λx=>decide ((Ep p x.Signed.kC).2=0)):=by
 unfold xZ
 rw [N2 _ (λx=>!decide ((Ep p x.Signed.kC).2=0)) _ (λx _=>by
  unfold vS
  rw [SP p hp,aA]
  rfl),aA,List.all_eq_not_any_not]
structure zD (p:lZ):Prop where
 name:qf p.Name=true
 QC:GG p=false
 Iu:SC p.kM
 FO:TQ p.kU
 guards:∀x∈p.kM,(Ep p x.Signed.kC).2=0
theorem Ds (p:lZ) (hp:PB p):∃e,wR p=some e∧(e=0↔zD p):=by
 have z:=hp.Iu
 have w:=hp.FO
 obtain ⟨n,u,h1⟩:=JA p.kM [] (by simp; omega) hp.rel
 obtain ⟨q,v,s⟩:=LH p.kU p.kU [] rfl (by omega) (λa ha=>⟨hp.NR a ha,hp.TU a ha⟩)
 have d:BA p=some n:=u
 have i:B0 p.kU=some q:=v
 unfold wR
 rw [xw,aA,Rx,d,i,OH p hp]
 simp only [aA]
 cases c1:qf p.Name
 ·exact ⟨30,rfl,by simp; intro h; have:=h.name; rw [c1] at this; cases this⟩
 ·cases c2:GG p
  ·cases n with
   | false=>exact ⟨11,rfl,by simp; intro h; have:=h1.2 h.Iu; cases this⟩
   | true=>
    cases q with
    | false=>exact ⟨11,rfl,by simp; intro h; have:=s.2 h.FO; cases this⟩
    | true=>
     cases r:p.kM.all λx=>decide ((Ep p x.Signed.kC).2=0)
     ·refine ⟨11,rfl,iff_of_false (by decide) (λh=>?_)⟩
      obtain ⟨x,j,hb⟩:=List.all_eq_false.1 r
      simp [h.guards x j] at hb
     ·exact ⟨0,rfl,by simp; exact ⟨c1,c2,h1.1 rfl,s.1 rfl,λx j=>by simpa using iv.1 r x j⟩⟩
  ·exact ⟨12,rfl,by simp; intro h; have:=h.QC; rw [c2] at this; cases this⟩
theorem Hm:∀(l:List mn) (z:kz),CF (some z) l→∀a∈l,wh z a.kz=true
 | [],z,_,a,ha=>by cases ha
 | x::l,z,h,a,ha=>by
  rcases aY.1 ha with rfl | ha
  ·exact h.1 z rfl
  ·exact (Bb λ_=>True).trans _ _ _ trivial trivial trivial (h.1 z rfl) (Hm l x.kz h.2 a ha)
structure PG (p:lZ):Prop extends PB p where
 Us:∀x∈p.kM,zb x.Signed.kC≤1000000000
 UC:∀a∈p.kU,∀c∈a.lN,zb c≤1000000000
def gX:kz:=⟨⟨#[120]⟩,⟨#[121]⟩⟩
def gc:kC:=⟨1,gX,⟨#[109,101]⟩,⟨zS,zS⟩,⟨zS,zS⟩,zS⟩
structure PP (p:nA):Prop where
 o:PG p.kA
 c:PG p.Client
 lo:p.kA.kM.length≤600000
 lc:p.Client.kM.length≤600000
 f:ma p.Formula≤10000000
def Ui:ByteArray:=⟨#[99,108,105]⟩
def sY:kz:=⟨⟨#[120]⟩,⟨#[121]⟩⟩
def sc:kC:=⟨1,sY,Ui,⟨zS,zS⟩,⟨zS,zS⟩,zS⟩
theorem SS:∀(n:Nat) (f:Formula),qc f≤n→Gd f→sJ n f=some (ma f:Int):=by
 intro n
 induction n with
 | zero=>intro f h; rw [pa] at h; omega
 | succ n ih=>
  intro f j p
  rw [pa] at j
  have d:=rl f
  unfold Gd at p
  rw [sJ]
  unfold xM
  have key:∀(ks:List Formula) (x:Nat),(∀k∈ks,k∈f.Kids)→x+nodesL ks≤50000000→tz (sJ n) ks (x:Int)=some ((x+nodesL ks:Nat):Int):=by
   intro ks
   induction ks with
   | nil=>intro x _ _; rw [tz,nodesL]; rfl
   | cons k ks i=>
    intro x hk q
    rw [nodesL] at q
    rw [tz,ih k (by have:=uT (hk k (by simp)); omega) (by have:=xD (hk k (by simp)); unfold Gd; omega),aA]
    have w:wi0 .i64 ((x:Int)+(ma k:Int))=((x+ma k:Nat):Int):=by rw [mi (by omega) (by omega)]; omega
    rw [w,i _ (λz r=>hk z (by simp [r])) (by omega),nodesL]
    congr 2; omega
  have:=key f.Kids 1 (λk hk=>hk) (by omega)
  rw [d]
  exact this
theorem TR:∀(n:Nat) (f:Formula),qc f≤n→Gd f→tR n f=some (qc f:Int):=by
 intro n
 induction n with
 | zero=>intro f h; rw [pa] at h; omega
 | succ n ih=>
  intro f j p
  rw [pa] at j ⊢
  have q:=rl f
  have hle:=AY f
  rw [pa] at hle
  unfold Gd at p
  rw [tR]
  unfold yy
  have key:∀(ks:List Formula) (x:Nat),(∀k∈ks,k∈f.Kids)→max x (deepL ks)≤50000000→uc (tR n) ks (x:Int)=some ((max x (deepL ks)+1:Nat):Int):=by
   intro ks
   induction ks with
   | nil=>
    intro x _ d
    rw [deepL] at d
    rw [uc,deepL,mi (by omega) (by omega)]
    congr 1; omega
   | cons k ks i=>
    intro x hk d
    rw [deepL] at d
    rw [uc,ih k (by have:=uT (hk k (by simp)); omega) (by have:=xD (hk k (by simp)); unfold Gd; omega),aA]
    have w:(if (qc k:Int) > (x:Int) then (qc k:Int) else (x:Int))=((max x (qc k):Nat):Int):=by split <;> omega
    rw [w,i _ (λz r=>hk z (by simp [r])) (by omega),deepL]
    congr 2; omega
  have:=key f.Kids 0 (λk hk=>hk) (by omega)
  rw [Nat.zero_max] at this
  exact this
theorem Tm:∀(n:Nat) (f:Formula),qc f≤n→tZ n f=some (vl f):=by
 intro n
 induction n with
 | zero=>intro f h; rw [pa] at h; omega
 | succ n ih=>
  intro f h
  rw [pa] at h
  have key:∀ks:List Formula,(∀k∈ks,k∈f.Kids)→ul (tZ n) ks=some (wellL ks):=by
   intro ks
   induction ks with
   | nil=>intro _; rw [ul,wellL]
   | cons k ks s=>
    intro hk
    rw [ul,ih k (by have:=uT (hk k (by simp)); omega),aA,s (λz v=>hk z (by simp [v])),wellL]
    cases vl k <;> rfl
  have hk:=key f.Kids (λk hk=>hk)
  rw [tZ]
  unfold yt
  rw [hk,HL,zm]
  unfold EX
  simp only [aA]
  by_cases c1:f.Op=1
  ·simp only [c1,cK,aS]
   cases w:mu f.kz
   ·simp
   ·by_cases d:f.Kids.length=0
    ·have e:f.Kids=[]:=aI d
     by_cases r:f.K=0 <;> simp [e,r,wellL]
    ·have:((f.Kids.length:Int)==0)=false:=by rw [beq_eq_false_iff_ne]; omega
     simp [this,d]
  ·have u:(f.Op==1)=false:=by simpa using c1
   simp only [u,aB,aN,c1]
   by_cases j:f.Op=2∨f.Op=3
   ·have p:¬f.Op < 1:=by omega
    have a2:¬f.Op > 4:=by omega
    have a3:f.Op < 4:=by omega
    have a4:(f.Op==4)=false:=by rw [beq_eq_false_iff_ne]; omega
    simp only [p,a2,a3,a4,j,bL,bJ,aB,aN,aS,aA]
    cases hb:lq f.kz ⟨zS,zS⟩
    ·simp [vd,hb]
    ·by_cases d:f.Kids.length≤8
     ·have i:¬((f.Kids.length:Int) > 8):=by omega
      by_cases r:f.K=0 <;> simp [vd,hb,d,i,r]
     ·have i:((f.Kids.length:Int) > 8):=by omega
      simp [vd,hb,d,i]
   ·by_cases q:f.Op=4
    ·have p:¬f.Op < 1:=by omega
     have a2:¬f.Op > 4:=by omega
     have a3:¬f.Op < 4:=by omega
     simp only [p,a2,a3,j,bL,aB,aN,aA]
     simp only [q,cK,aS,bJ,iH]
     cases hb:lq f.kz ⟨zS,zS⟩
     ·simp [vd,hb]
     ·by_cases d:f.Kids.length≤8
      ·have i:¬((f.Kids.length:Int) > 8):=by omega
       by_cases d1:1≤f.Kids.length
       ·have g1:¬((f.Kids.length:Int) < 1):=by omega
        by_cases d2:0≤f.K
        ·have g2:¬f.K < 0:=by omega
         by_cases d3:f.K≤(f.Kids.length:Int)
         ·have g3:¬f.K > (f.Kids.length:Int):=by omega
          simp [vd,hb,d,i,d1,g1,d2,g2,d3,g3]
         ·have g3:f.K > (f.Kids.length:Int):=by omega
          simp [vd,hb,d,i,d1,g1,d2,g2,d3,g3]
        ·have g2:f.K < 0:=by omega
         simp [vd,hb,d,i,d1,g1,d2,g2]
       ·have g1:((f.Kids.length:Int) < 1):=by omega
        simp [vd,hb,d,i,d1,g1]
      ·have i:((f.Kids.length:Int) > 8):=by omega
       simp [vd,hb,d,i]
    ·have a:f.Op < 1∨f.Op > 4:=by omega
     rcases a with a | a
     ·simp [a,j,q]
     ·have:¬f.Op < 1:=by omega
      simp [a,this,j,q]
theorem Tf (f:Formula) (h:Gd f):wN f=some (rh f):=by
 have i:=AY f
 have d:=h
 unfold Gd at d
 unfold wN rh
 rw [SS li f (by rw [mJ]; omega) h,TR li f (by rw [mJ]; omega) h,Tm li f (by rw [mJ]; omega)]
 simp only [aA]
 by_cases c1:ma f≤64
 ·have d1:((ma f:Int)≤64):=by omega
  by_cases c2:qc f≤6
  ·have d2:((qc f:Int)≤6):=by omega
   simp [c1,c2,d1,d2]
  ·have d2:¬((qc f:Int)≤6):=by omega
   simp [c1,c2,d1,d2]
 ·have d1:¬((ma f:Int)≤64):=by omega
  simp [c1,d1]
theorem Tt:∀(n:Nat) (f:Formula),qc f≤n→∀g,∃b,pj n f g=some b∧(b=true↔f=g):=by
 intro n
 induction n with
 | zero=>intro f h; rw [pa] at h; omega
 | succ n ih=>
  intro f h g
  rw [pa] at h
  have key:∀(l m A:List Formula),(∀x∈l,x∈f.Kids)→g.Kids=A++m→l.length=m.length→∃b,uh g (pj n) l A.length=some b∧(b=true↔l=m):=by
   intro l
   induction l with
   | nil=>
    intro m A _ _ d
    obtain rfl:=aI d.symm
    exact ⟨true,by rw [uh],by simp⟩
   | cons x l s=>
    intro m A r v d
    match m,d with
    | y::m,d=>
     obtain ⟨b,e,hb⟩:=ih x (by have:=uT (r x (by simp)); omega) y
     rw [uh,v,mD A y m _ rfl,aA,e,aA]
     cases b with
     | false=>
      refine ⟨false,rfl,?_⟩
      have:x≠y:=λj=>by have:=hb.2 j; simp at this
      simp [this]
     | true=>
      have j:=hb.1 rfl
      obtain ⟨b,u,i⟩:=s m (A++[y]) (λz w=>r z (by simp [w])) (by rw [v]; simp) (by simpa using d)
      rw [aC,hY] at u
      simp only [cY,aB,aN]
      rw [u]
      exact ⟨b,rfl,by rw [i]; simp [j]⟩
  rw [pj]
  unfold yw
  by_cases h1:f.Op=g.Op
  ·by_cases i:f.K=g.K
   ·by_cases p:f.kz=g.kz
    ·have q:lq f.kz g.kz=true:=ny.2 p
     by_cases d:f.Kids.length=g.Kids.length
     ·obtain ⟨b,e,hb⟩:=key f.Kids g.Kids [] (λx r=>r) rfl d
      rw [bD] at e
      refine ⟨b,?_,hb.trans ⟨λhk=>Formula.ext' h1 i p hk,λhk=>by rw [hk]⟩⟩
      simp [h1,i,q,d,e]
     ·refine ⟨false,?_,by simp; intro hk; rw [hk] at d; exact d rfl⟩
      have:((f.Kids.length:Int) != (g.Kids.length:Int))=true:=by simp; omega
      simp [h1,i,q,this]
    ·have q:lq f.kz g.kz=false:=by rw [←Bool.not_eq_true,ny]; exact p
     exact ⟨false,by simp [h1,i,q],by simp; intro hk; rw [hk] at p; exact p rfl⟩
   ·exact ⟨false,by simp [h1,i],by simp; intro hk; rw [hk] at i; exact i rfl⟩
  ·exact ⟨false,by simp [h1],by simp; intro hk; rw [hk] at h1; exact h1 rfl⟩
theorem Hu (a b:Formula) (h:Gd a):pj li a b=some (xy a b):=by
 have:=AY a
 unfold Gd at h
 obtain ⟨x,e,d⟩:=Tt li a (by rw [mJ]; omega) b
 rw [e]; congr 1
 rw [cZ,d,Mz]
section
variable {α:Type} {lt:α→α→Bool}
def JH (lt:α→α→Bool) (l:List α):Prop:=l.Pairwise λx y=>lt y x=false
theorem Jl (h:SWO lt) (k:α):∀{l:List α},JH lt l→∃A B,l=A++B∧(∀x∈A,lt k x=false)∧(∀x∈B,lt k x=true)
 | [],_=>⟨[],[],rfl,by simp,by simp⟩
 | x::l,p=>by
  obtain ⟨h1,i⟩:=bU.1 p
  cases e:lt k x with
  | true=>
   refine ⟨[],x::l,rfl,by simp,λy d=>?_⟩
   rcases aY.1 d with rfl | d
   ·exact e
   ·rcases h.H5 _ y _ e with q | q
    ·exact q
    ·rw [h1 y d] at q; cases q
  | false=>
   obtain ⟨A,B,rfl,j,n⟩:=Jl h k i
   exact ⟨x::A,B,rfl,λy d=>by
    rcases aY.1 d with rfl | d
    ·exact e
    ·exact j y d,n⟩
theorem N8 {k:α} {A B:List α} (i:∀x∈A,lt k x=false) (j:∀x∈B,lt k x=true):DN lt (A++B) k=A++k::B:=by
 unfold DN
 rw [jv,jv]
 rw [iD.2 (λx d=>by rw [i x d]; rfl),List.filter_eq_nil_iff.2 (λx d=>by rw [j x d]; simp),List.filter_eq_nil_iff.2 (λx d=>by rw [i x d]; simp),iD.2 (λx d=>j x d)]
 simp
theorem RL (h:SWO lt) {k:α} {A B:List α} (d:JH lt (A++B)) (i:∀x∈A,lt k x=false) (j:∀x∈B,lt k x=true):JH lt (A++k::B):=by
 unfold JH at *
 rw [dG] at *
 refine ⟨d.1,bU.2 ⟨λx n=>h.asym (j x n),d.2.1⟩,λa ha b hb=>?_⟩
 rcases aY.1 hb with rfl | hb
 ·exact i a ha
 ·exact d.2.2 a ha b hb
theorem PI (h:SWO lt) (l:List α):JH lt (yz lt l):=by
 suffices H:∀(l a:List α),JH lt a→JH lt (l.foldl (DN lt) a) from H l [] List.Pairwise.nil
 intro l
 induction l with
 | nil=>intro a ha; exact ha
 | cons k l ih=>
  intro a ha
  rw [gW]
  obtain ⟨A,B,rfl,d,i⟩:=Jl h k ha
  rw [N8 d i]
  exact ih _ (RL h ha d i)
variable {eq:α→α→Bool}
end
theorem LN:∀(l m A:List kC),l.length=m.length→∃b,ui (A++m) l A.length=some b∧(b=true↔l=m)
 | [],m,A,i=>by
  obtain rfl:=aI i.symm
  exact ⟨true,by rw [ui],by simp⟩
 | x::l,[],A,i=>by simp at i
 | x::l,y::m,A,i=>by
  have i1:lM (A++y::m) (A.length:Int)=some y:=mD _ _ _ _ rfl
  rw [ui,i1,aA]
  cases hb:lL x y with
  | false=>
   refine ⟨false,by simp [hb],?_⟩
   have:x≠y:=λd=>by have:=qC.2 d; rw [this] at hb; cases hb
   simp [this]
  | true=>
   have d:=qC.1 hb
   obtain ⟨b,j,q⟩:=LN l m (A++[y]) (by simpa using i)
   have n:A++y::m=(A++[y])++m:=by simp
   have p:A.length+1=(A++[y]).length:=by simp
   simp only [cY,aB,aN]
   rw [n,p,j]
   exact ⟨b,rfl,by rw [q]; simp [d]⟩
theorem TF (l m:List kC):∃b,vX l m=some b∧(b=true↔l=m):=by
 unfold vX
 by_cases h:l.length=m.length
 ·have:((l.length:Int) != (m.length:Int))=false:=by simp [h]
  simp only [this,aB,aN]
  exact LN l m [] h
 ·have:((l.length:Int) != (m.length:Int))=true:=by simp; omega
  simp only [this,aS]
  exact ⟨false,rfl,by simp; intro hk; rw [hk] at h; exact h rfl⟩
mutual
def AA:Formula→Nat
 | ⟨_,_,r,ks⟩=>1+r.kA.size+r.Word.size+szFL ks
def szFL:List Formula→Nat
 | []=>0
 | k::ks=>AA k+szFL ks
end
theorem Ll (f:Formula):AA f=1+f.kz.kA.size+f.kz.Word.size+szFL f.Kids:=by cases f; rw [AA]
theorem Dj:∀f:Formula,ma f≤AA f:=by
 refine Px λf ih=>?_
 have:∀ks:List Formula,(∀k∈ks,ma k≤AA k)→nodesL ks≤szFL ks:=by
  intro ks
  induction ks with
  | nil=>intro _; rw [nodesL]; omega
  | cons k ks d=>
   intro h
   have:=d (λx i=>h x (by simp [i]))
   have:=h k (by simp)
   rw [nodesL,szFL]; omega
 have:=this f.Kids ih
 rw [rl,Ll]; omega
def zj:List kC→Nat
 | []=>0
 | c::l=>20+zb c+zj l
theorem g5:∀(l:List kC) (n:Int),0≤n→n+(zj l:Int)≤4000000000000000000→tj l n=some (n+(zj l:Int))
 | [],n,_,_=>by rw [tj,zj]; simp
 | c::l,n,d,hb=>by
  have e:zb c=c.Head.kA.size+c.Head.Word.size+c.mC.size+c.B.kA.size+c.B.Word.size+c.C.kA.size+c.C.Word.size+c.mA.size:=rfl
  rw [zj] at hb
  rw [tj]
  rw [mi (x:=20+(c.Head.kA.size:Int)) (by omega) (by omega),mi (x:=20+(c.Head.kA.size:Int)+(c.Head.Word.size:Int)) (by omega) (by omega),mi (x:=20+(c.Head.kA.size:Int)+(c.Head.Word.size:Int)+(c.mC.size:Int)) (by omega) (by omega),mi (x:=20+(c.Head.kA.size:Int)+(c.Head.Word.size:Int)+(c.mC.size:Int)+(c.B.kA.size:Int)) (by omega) (by omega),mi (x:=20+(c.Head.kA.size:Int)+(c.Head.Word.size:Int)+(c.mC.size:Int)+(c.B.kA.size:Int)+(c.B.Word.size:Int)) (by omega) (by omega),mi (x:=20+(c.Head.kA.size:Int)+(c.Head.Word.size:Int)+(c.mC.size:Int)+(c.B.kA.size:Int)+(c.B.Word.size:Int)+(c.C.kA.size:Int)) (by omega) (by omega),mi (x:=20+(c.Head.kA.size:Int)+(c.Head.Word.size:Int)+(c.mC.size:Int)+(c.B.kA.size:Int)+(c.B.Word.size:Int)+(c.C.kA.size:Int)+(c.C.Word.size:Int)) (by omega) (by omega),mi (x:=20+(c.Head.kA.size:Int)+(c.Head.Word.size:Int)+(c.mC.size:Int)+(c.B.kA.size:Int)+(c.B.Word.size:Int)+(c.C.kA.size:Int)+(c.C.Word.size:Int)+(c.mA.size:Int)) (by omega) (by omega),mi (by omega) (by omega)]
  rw [g5 l _ (by omega) (by omega),zj]
  congr 1; omega
theorem UE:∀(n:Nat) (l:List Formula),deepL l < n→szFL l≤1000000000000→∃r:Int,qu n l=some r∧0≤r∧r≤(szFL l:Int):=by
 intro n
 induction n with
 | zero=>intro l h; omega
 | succ n ih=>
  intro l h p
  rw [qu]
  unfold xC
  have key:∀(l:List Formula) (x:Int),deepL l < n+1→0≤x→x+(szFL l:Int)≤1000000000000→∃r:Int,tu (qu n) l x=some r∧0≤r∧r≤x+(szFL l:Int):=by
   intro l
   induction l with
   | nil=>intro x _ q _; exact ⟨x,by rw [tu],q,by rw [szFL]; simp⟩
   | cons k l j=>
    intro x h q p
    rw [deepL] at h
    rw [szFL] at p
    have hk:=Ll k
    have:=pa k
    obtain ⟨r,e,h1,s⟩:=ih k.Kids (by omega) (by omega)
    rw [tu,e,aA]
    have w:0≤Int.tdiv ((k.kz.kA.size:Int)+(k.kz.Word.size:Int)) 16∧Int.tdiv ((k.kz.kA.size:Int)+(k.kz.Word.size:Int)) 16≤(k.kz.kA.size:Int)+(k.kz.Word.size:Int):=by
     rw [Int.tdiv_eq_ediv_of_nonneg (by omega)]
     omega
    rw [mi (x:=(k.kz.kA.size:Int)+(k.kz.Word.size:Int)) (by omega) (by omega)]
    generalize Int.tdiv ((k.kz.kA.size:Int)+(k.kz.Word.size:Int)) 16=d at *
    rw [mi (x:=d) (by omega) (by omega),mi (x:=1+d) (by omega) (by omega),mi (x:=1+d+r) (by omega) (by omega),mi (x:=x+(1+d+r)) (by omega) (by omega)]
    obtain ⟨v,e',i,u⟩:=j (x+(1+d+r)) (by omega) (by omega) (by omega)
    exact ⟨v,e',i,by rw [szFL]; omega⟩
  obtain ⟨r,e,h1,s⟩:=key l 0 h (by omega) (by omega)
  exact ⟨r,e,h1,by omega⟩
theorem IW (f:Formula) (h:AA f≤50000000):∃r:Int,qu li [f]=some r∧0≤r∧r≤(AA f:Int):=by
 have h1:=Dj f
 have d:=AY f
 obtain ⟨r,e,a,b⟩:=UE li [f] (by rw [deepL,deepL,mJ]; omega) (by rw [szFL,szFL]; omega)
 refine ⟨r,e,a,?_⟩
 rw [szFL,szFL] at b; omega
theorem g6 (s:Signed) (h:zb s.kC+s.Tag.length≤1000000000):vA [] [s]=some (20+(zb s.kC:Int)+(s.Tag.length:Int)):=by
 unfold vA
 rw [rK,tw]
 have:=g5 [s.kC] 0 (by omega) (by rw [zj,zj]; omega)
 rw [show wP [s.kC]=_ from this,aA,tw,zj,zj]
 rw [mi (x:=0+((20+zb s.kC+0:Nat):Int)+(s.Tag.length:Int)) (by omega) (by omega),mi (by omega) (by omega)]
 simp only [aA]
 congr 1; omega
def DA:List lh→Nat
 | []=>0
 | x::l=>20+zb x.Signed.kC+x.Signed.Tag.length+20*AA x.kE+DA l
def B6:List mn→Nat
 | []=>0
 | a::l=>a.kz.kA.size+a.kz.Word.size+20*AA a.kE+zj a.lN+B6 l
def Jn (p:lZ):Nat:=p.Name.size+DA p.kM+B6 p.kU
theorem Pj:∀(l:List mn) (x:Int),0≤x→x+(B6 l:Int)≤1000000000→∃r:Int,tC l x=some r∧x≤r∧r≤x+(B6 l:Int)
 | [],x,_,_=>⟨x,by rw [tC],by omega,by rw [B6]; omega⟩
 | a::l,x,n,h=>by
  rw [B6] at h
  obtain ⟨r,e,h1,p⟩:=IW a.kE (by omega)
  have d:=g5 a.lN 0 (by omega) (by omega)
  rw [tC,e,aA,show wP a.lN=_ from d,aA]
  rw [mi (x:=(a.kz.kA.size:Int)+(a.kz.Word.size:Int)) (by omega) (by omega),mi (x:=20*r) (by omega) (by omega),mi (x:=(a.kz.kA.size:Int)+(a.kz.Word.size:Int)+20*r) (by omega) (by omega),mi (x:=(a.kz.kA.size:Int)+(a.kz.Word.size:Int)+20*r+(0+(zj a.lN:Int))) (by omega) (by omega),mi (by omega) (by omega)]
  obtain ⟨i,e',j,a2⟩:=Pj l (x+((a.kz.kA.size:Int)+(a.kz.Word.size:Int)+20*r+(0+(zj a.lN:Int)))) (by omega) (by omega)
  exact ⟨i,e',by omega,by rw [B6]; omega⟩
theorem TY (p:lZ) (i:Jn p≤1000000000):∃r:Int,xc p=some r∧20*(p.kM.length:Int)≤r∧r≤(Jn p:Int):=by
 unfold Jn at i
 have key:∀(l:List lh) (x:Int),0≤x→x+(DA l:Int)+(B6 p.kU:Int)≤1000000000→∃r:Int,tm p l x=some r∧x+20*(l.length:Int)≤r∧r≤x+(DA l:Int)+(B6 p.kU:Int):=by
  intro l
  induction l with
  | nil=>
   intro x d h
   rw [DA] at h
   obtain ⟨r,e,a,b⟩:=Pj p.kU x d (by omega)
   exact ⟨r,by rw [tm,e]; rfl,by simp; omega,by rw [DA]; omega⟩
  | cons y l ih=>
   intro x d h
   rw [DA] at h
   obtain ⟨r,e,h1,n⟩:=IW y.kE (by omega)
   rw [tm,g6 y.Signed (by omega)]
   simp only [aA]
   rw [e,aA]
   rw [mi (x:=20*r) (by omega) (by omega),mi (x:=20+(zb y.Signed.kC:Int)+(y.Signed.Tag.length:Int)+20*r) (by omega) (by omega),mi (by omega) (by omega)]
   obtain ⟨j,e',a,b⟩:=ih (x+(20+(zb y.Signed.kC:Int)+(y.Signed.Tag.length:Int)+20*r)) (by omega) (by omega)
   exact ⟨j,e',by rw [aJ]; omega,by rw [DA]; omega⟩
 obtain ⟨r,e,a,b⟩:=key p.kM (p.Name.size:Int) (by omega) (by omega)
 unfold xc
 exact ⟨r,e,by omega,by unfold Jn; omega⟩
def B7:List Key→Nat
 | []=>0
 | k::l=>10+k.mC.size+k.Key.length+B7 l
theorem T0:∀(ks:List Key) (x:Int),0≤x→x+(B7 ks:Int)≤2000000000→rK [] ks x=some (x+(B7 ks:Int))
 | [],x,_,_=>by rw [rK,tw,B7]; simp
 | k::ks,x,d,h=>by
  rw [B7] at h
  rw [rK,mi (x:=10+(k.mC.size:Int)) (by omega) (by omega),mi (x:=10+(k.mC.size:Int)+(k.Key.length:Int)) (by omega) (by omega),mi (by omega) (by omega),T0 ks _ (by omega) (by omega),B7]
  congr 1; omega
structure PQ (p:nA):Prop extends PP p where
 go:Jn p.kA≤1000000000
 gc:Jn p.Client≤1000000000
 fs:AA p.Formula≤50000000
 ks:B7 p.Keys≤1000000000
def TT (l:List lh) (i:Int):Prop:=0≤i∧i < l.length
instance (l:List lh) (i:Int):Decidable (TT l i):=by unfold TT; infer_instance
theorem bb {α β γ:Type} (x:Option α) (f:α→Option β) (g:β→Option γ):(x.bind λa=>(f a).bind g)=(x.bind f).bind g:=by cases x <;> rfl
theorem RZ (p:nA) (hp:PQ p):∃r:Int,xd p=some r∧20*(p.kA.kM.length:Int)+20*(p.Client.kM.length:Int)≤r∧r≤10000000000:=by
 have j:=hp.go
 have i:=hp.gc
 have z:=hp.ks
 have d:=hp.fs
 obtain ⟨r1,s,A,E⟩:=TY p.kA j
 obtain ⟨n,u,a2,G⟩:=TY p.Client i
 obtain ⟨q,v,a3,I⟩:=IW p.Formula d
 have w:=T0 p.Keys 0 (by omega) (by omega)
 unfold xd
 rw [s,aA,u,aA]
 simp only [aA]
 rw [v,aA,show vA p.Keys []=_ from w,aA]
 rw [mi (x:=r1+n) (by omega) (by omega),mi (x:=20*q) (by omega) (by omega),mi (x:=r1+n+20*q) (by omega) (by omega),mi (by omega) (by omega)]
 exact ⟨_,rfl,by omega,by omega⟩
section
variable {c:ky→ky→Int} {G:ky→Prop} {f:ky×ky→Option Int}
abbrev mL (c:ky→ky→Int) (x y:ky):Bool:=decide (c x y < 0)
abbrev uN (f:ky×ky→Option Int) (c:ky→ky→Int) (G:ky→Prop):Prop:=∀x y,G x→G y→f (x,y)=some (c x y)
theorem QK (J:uN f c G) (pre:List ky) (x:ky) (M:G x):∀(k:Nat) (P S:List ky) (n:Nat) (j a:Int),P.length=k→k < n→(∀y∈P,G y)→(pre++(P++x::S)).length≤1000000→j=((pre.length+P.length:Nat):Int)→a=(pre.length:Int)→
  ∃P1 P2,P=P1++P2∧nm a f n (pre++(P++x::S)) j=some (pre++(P1++x::(P2++S)))∧(∀P' z,P1=P'++[z]→mL c x z=false)∧(∀y P',P2=y::P'→mL c x y=true):=by
 intro k
 induction k with
 | zero=>
  intro P S n j a hk L i s q ha
  obtain rfl:=aI hk
  obtain ⟨n,rfl⟩:=aF (by omega:n≠0)
  refine ⟨[],[],rfl,?_,by simp,by simp⟩
  rw [nm]
  have:¬(j > a):=by rw [q,ha]; simp
  simp [this]
 | succ k ih=>
  intro P S n j a hk L i s q ha
  rcases dO P with rfl | ⟨P',z,rfl⟩
  ·simp at hk
  simp only [eK,aC,aJ,bD] at hk q s i ⊢
  obtain ⟨n,rfl⟩:=aF (by omega:n≠0)
  have r:j > a:=by omega
  have u:pre++(P'++[z]++x::S)=(pre++P')++z::x::S:=by simp
  have hw:wi0 .i64 (j-1)=((pre.length+P'.length:Nat):Int):=by rw [mi (by omega) (by omega)]; omega
  have i1:lM ((pre++P')++z::x::S) j=some x:=by
   rw [show (pre++P')++z::x::S=(pre++P'++[z])++x::S by simp]
   exact mD _ _ _ _ (by simp; omega)
  have i2:lM ((pre++P')++z::x::S) ((pre.length+P'.length:Nat):Int)=some z:=mD _ _ _ _ (by simp)
  have R:G z:=i z (by simp)
  have I:∀y∈P',G y:=λy O=>i y (by simp [O])
  have U:j.toNat=pre.length+P'.length+1:=by omega
  rw [nm,u]
  simp only [r,bJ,aS,i1,hw,i2,aA,J x z M R]
  by_cases p:c x z < 0
  ·simp only [p,bJ,aS]
   have s1:((pre++P')++z::x::S).set j.toNat z=(pre++P')++z::z::S:=by
    have:=Bv (pre++P'++[z]) S x z j.toNat (by simp; omega)
    simpa only [aW,eH,bY,bM] using this
   have s2:((pre++P')++z::z::S).set (pre.length+P'.length) x=(pre++P')++x::z::S:=by
    exact Bv (pre++P') (z::S) z x _ (by simp)
   have i3:lM ((pre++P')++z::z::S) ((pre.length+P'.length:Nat):Int)=some z:=mD _ _ _ _ (by simp)
   rw [s1,i3,aA,dC,s2]
   have v:(pre++P')++x::z::S=pre++(P'++x::(z::S)):=by simp
   obtain ⟨P1,P2,h1,w,A,E⟩:=ih P' (z::S) n ((pre.length+P'.length:Nat):Int) a (by omega) (by omega) I (by simp; omega) rfl ha
   rw [v,w]
   refine ⟨P1,P2++[z],by rw [h1]; simp,by simp,A,?_⟩
   intro y Q d
   cases P2 with
   | nil=>
    simp only [bM,aK] at d
    rw [←d.1]; simp [mL,p]
   | cons T P2=>
    simp only [bY,aK] at d
    rw [←d.1]; exact E T P2 rfl
  ·simp only [p,bL,aB,aN]
   refine ⟨P'++[z],[],by simp,by simp,?_,by simp⟩
   intro Q y d
   have:=jS d rfl
   simp only [aK,cU] at this
   rw [←this.2]; simp [mL,p]
theorem Jy (h:SWO (mL c)) (P:uN f c G) (pre post:List ky) (a b:Int) (ha:a=(pre.length:Int)):∀(S t:List (ky×Nat)) (n:Nat) (i:Int),
  S.length < n→oe (mL c) t→(∀x∈t,∀y∈S,x.2 < y.2)→S.Pairwise (λx y=>x.2 < y.2)→(∀x∈t++S,G x.1)→(pre++(t.map (·.1)++(S.map (·.1)++post))).length≤1000000→
  i=((pre.length+t.length:Nat):Int)→b=((pre.length+t.length+S.length:Nat):Int)→
  ∃u,mY b a f n (pre++(t.map (·.1)++(S.map (·.1)++post))) i=some (pre++(u.map (·.1)++post))∧oe (mL c) u∧u.Perm (t++S)
 | [],t,n,i,L,M,h1,O,E,J,Q,hb=>by
  obtain ⟨n,rfl⟩:=aF (by simp at L; omega:n≠0)
  rw [mY]
  simp only [bD] at hb
  have:¬(i < b):=by omega
  simp only [this,bL,aB,aN]
  exact ⟨t,by simp,M,by simp⟩
 | s::S,t,n,i,L,M,h1,O,E,J,Q,hb=>by
  simp only [aJ] at L hb
  obtain ⟨n,rfl⟩:=aF (by omega:n≠0)
  rw [mY]
  have I:i < b:=by omega
  simp only [I,bJ,aS]
  have r:=J
  simp only [aC,bW,aJ] at r
  obtain ⟨P1,P2,U,W,Y,Z⟩:=QK P pre s.1 (E s (by simp)) (t.map (·.1)).length (t.map (·.1)) (S.map (·.1)++post) li i a rfl (by rw [mJ]; simp; omega)
   (λy w=>by obtain ⟨p,hp,rfl⟩:=bE.1 w; exact E p (by simp [hp])) (by simpa using J) (by simp; omega) ha
  simp only [bA,bY]
  rw [W,aA]
  obtain ⟨t1,t2,rfl,R,T⟩:=iR.1 U
  have hlen:t1.length+t2.length=(t1++t2).length:=by simp
  have hw:wi0 .i64 (i+1)=((pre.length+(t1++s::t2).length:Nat):Int):=by rw [mi (by omega) (by omega)]; simp at Q ⊢; omega
  rw [hw]
  have v:oe (mL c) (t1++s::t2):=AN h M
   (λA' z b B' q A=>by
    simp only [aK] at A
    rw [←A.1]
    refine .inr ⟨Y (A'.map (·.1)) z.1 (by rw [←R,q]; simp),h1 z (by rw [q]; simp) s (by simp)⟩)
   (λA' z b B' q A=>by
    have hz:z=s:=by
     cases A' with
     | nil=>simpa using q.symm
     | cons _ A'=>simp at q
    rw [hz]
    exact .inl (Z b.1 (B'.map (·.1)) (by rw [←T,A]; simp)))
  have j:=bU.1 O
  have e5:pre++(P1++s.1::(P2++(S.map (·.1)++post)))=pre++((t1++s::t2).map (·.1)++(S.map (·.1)++post)):=by rw [←R,←T]; simp
  rw [e5]
  obtain ⟨u,u1,u2,u3⟩:=Jy h P pre post a b ha S (t1++s::t2) n _ (by omega) v
   (λx d y w=>by
    rcases aV.1 d with d | d
    ·exact h1 x (by simp [d]) y (by simp [w])
    ·rcases aY.1 d with rfl | d
     ·exact j.1 y w
     ·exact h1 x (by simp [d]) y (by simp [w]))
   j.2 (λx d=>E x (by
    simp only [aV,aY] at d ⊢
    rcases d with (d | d | d) | d
    ·exact .inl (.inl d)
    ·exact .inr (.inl d)
    ·exact .inl (.inr d)
    ·exact .inr (.inr d))) (by simp at r ⊢; omega) rfl (by simp at hb ⊢; omega)
  refine ⟨u,u1,u2,u3.trans ?_⟩
  simp only [aW,bY]
  exact dB t1 (List.perm_middle.symm)
theorem Hk (h:SWO (mL c)) (v:uN f c G) (pre post:List ky) (S:List (ky×Nat)) (a b:Int) (q:S.Pairwise (λx y=>x.2 < y.2)) (r:∀x∈S,G x.1) (p:(pre++(S.map (·.1)++post)).length≤1000000) (ha:a=(pre.length:Int)) (hb:b=((pre.length+S.length:Nat):Int)) :
  ∃u,oQ (pre++(S.map (·.1)++post)) a b f=some (pre++(u.map (·.1)++post))∧oe (mL c) u∧u.Perm S:=by
 unfold oQ
 have i:=p
 simp only [aC,bW] at i
 cases S with
 | nil=>
  refine ⟨[],?_,.nil,.nil⟩
  obtain ⟨n,w⟩:=aF (by rw [mJ]; omega:li≠0)
  rw [w,mY]
  have:¬(wi0 .i64 (a+1) < b):=by rw [mi (by omega) (by omega)]; simp at hb; omega
  simp [this]
 | cons s S=>
  simp only [aJ] at hb i
  have d:=bU.1 q
  obtain ⟨u,A,E,I⟩:=Jy h v pre post a b ha S [s] li (wi0 .i64 (a+1)) (by rw [mJ]; omega) (fV _ _) (λx j y z=>by simp at j; rw [j]; exact d.1 y z) d.2
   (λx j=>r x (by simpa using j)) (by simp at p ⊢; omega) (by rw [mi (by omega) (by omega)]; simp; omega) (by simp; omega)
  exact ⟨u,by simpa using A,E,by simpa using I⟩
end
section
variable {c:ky→ky→Int} {G:ky→Prop} {f:ky×ky→Option Int}
theorem NV (p m q:List ky) (a b N:Int):∀(k:Nat) (X1 X2 Y1 Y2:List ky) (n:Nat) (i:Int),X2.length=k→Y2.length=k→X1.length=Y1.length→k < n→(p++(Y1++(X2++(m++(X1++(Y2++q)))))).length≤1000000→
  i=(X1.length:Int)→N=((X1.length+k:Nat):Int)→a=(p.length:Int)→b=((p.length+X1.length+k+m.length:Nat):Int)→
  nH N b a n (p++(Y1++(X2++(m++(X1++(Y2++q)))))) i=some (p++((Y1++Y2)++(m++((X1++X2)++q)))):=by
 intro k
 induction k with
 | zero=>
  intro X1 X2 Y1 Y2 n i h1 d z E u A s ha hb
  obtain rfl:=aI h1
  obtain rfl:=aI d
  obtain ⟨n,rfl⟩:=aF (by omega:n≠0)
  rw [nH]
  have:¬(i < N):=by omega
  simp [this]
 | succ k ih=>
  intro X1 X2 Y1 Y2 n i h1 d z E u A s ha hb
  cases X2 with
  | nil=>simp at h1
  | cons x X2=>
  cases Y2 with
  | nil=>simp at d
  | cons y Y2=>
  simp only [aJ,Nat.add_right_cancel_iff] at h1 d
  obtain ⟨n,rfl⟩:=aF (by omega:n≠0)
  have r:=u
  simp only [aC,aJ] at r
  have j:i < N:=by omega
  have G:wi0 .i64 (b+i)=(((p++Y1).length+1+(X2++(m++X1)).length:Nat):Int):=mH _ (by simp; omega) (by simp; omega)
  have I:wi0 .i64 (a+i)=((p++Y1).length:Int):=mH _ (by simp; omega) (by simp; omega)
  have J:wi0 .i64 (i+1)=((X1++[x]).length:Int):=mH _ (by simp; omega) (by simp; omega)
  have v:p++(Y1++(x::X2++(m++(X1++(y::Y2++q)))))=(p++Y1)++x::((X2++(m++X1))++y::(Y2++q)):=by simp
  have i1:lM ((p++Y1)++x::((X2++(m++X1))++y::(Y2++q))) (((p++Y1).length+1+(X2++(m++X1)).length:Nat):Int)=some y:=by
   have:=mD ((p++Y1)++x::(X2++(m++X1))) y (Y2++q) (((p++Y1).length+1+(X2++(m++X1)).length:Nat):Int) (by simp; omega)
   simpa using this
  have i2:lM ((p++Y1)++x::((X2++(m++X1))++y::(Y2++q))) ((p++Y1).length:Int)=some x:=mD _ _ _ _ rfl
  rw [nH,v]
  simp only [j,bJ,aS,G,I,i1,i2,aA,dC,J]
  have i3:lM (((p++Y1)++x::((X2++(m++X1))++y::(Y2++q))).set (p++Y1).length y) (((p++Y1).length+1+(X2++(m++X1)).length:Nat):Int)=some y:=by
   rw [BR]
   have:=mD ((p++Y1)++y::(X2++(m++X1))) y (Y2++q) (((p++Y1).length+1+(X2++(m++X1)).length:Nat):Int) (by simp; omega)
   simpa using this
  rw [i3,aA,B5]
  have w:(p++Y1)++y::((X2++(m++X1))++x::(Y2++q))=p++((Y1++[y])++(X2++(m++((X1++[x])++(Y2++q))))):=by simp
  rw [w,ih (X1++[x]) X2 (Y1++[y]) Y2 n _ h1 d (by simp; omega) (by omega) (by simp; omega) rfl (by rw [s]; simp; omega) ha (by rw [hb]; simp; omega)]
  simp
theorem FR (p m q X Y:List ky) (a b N:Int) (h:X.length=Y.length) (i:(p++(X++(m++(Y++q)))).length≤1000000) (j:N=(X.length:Int)) (ha:a=(p.length:Int)) (hb:b=((p.length+X.length+m.length:Nat):Int)) :
  oN (p++(X++(m++(Y++q)))) a b N f=some (p++(Y++(m++(X++q)))):=by
 unfold oN
 have d:=i
 simp only [aC] at d
 have:=NV p m q a b N X.length [] X [] Y li 0 rfl h.symm rfl (by rw [mJ]; omega) (by simpa using i) rfl (by simpa using j) ha (by rw [hb]; simp)
 simpa using this
theorem OP (M:Int):∀(k:Nat) (A B p q:List ky) (n:Nat) (i j:Int),A.length+B.length≤k→0 < A.length→0 < B.length→k < n→(p++(A++(B++q))).length≤1000000→i=(A.length:Int)→j=(B.length:Int)→M=((p.length+A.length:Nat):Int)→
  om M f n (p++(A++(B++q))) i j=some (p++(B++(A++q))):=by
 intro k
 induction k with
 | zero=>intro A B p q n i j h h1 E; omega
 | succ k ih=>
  intro A B p q n i j h h1 E T J r w G
  obtain ⟨n,rfl⟩:=aF (by omega:n≠0)
  have d:=J
  simp only [aC] at d
  rw [om]
  by_cases he:A.length=B.length
  ·have:(i != j)=false:=by rw [r,w,he]; simp
   simp only [this,aB,aN]
   have u:wi0 .i64 (M-i)=(p.length:Int):=mH _ (by omega) (by omega)
   have:=FR (f:=f) p [] q A B (p.length:Int) M i he (by simpa using J) r rfl (by rw [G]; simp)
   simp only [bM] at this
   rw [u,this]; rfl
  ·have x:(i != j)=true:=by rw [r,w]; simp; omega
   simp only [x,aS]
   by_cases I:i > j
   ·simp only [I,bJ,aS]
    obtain ⟨X,Y,rfl,R⟩:=rj (l:=A) (n:=B.length) (by omega)
    simp only [aC] at r h G d
    have u:wi0 .i64 (M-i)=(p.length:Int):=mH _ (by omega) (by omega)
    have s:=FR (f:=f) p Y q X B (p.length:Int) M j (by omega) (by simp; omega) (by omega) rfl (by omega)
    have v:p++(X++Y++(B++q))=p++(X++(Y++(B++q))):=by simp
    have z:wi0 .i64 (i-j)=(Y.length:Int):=mH _ (by omega) (by omega)
    rw [v,u,s,aA,z]
    have L:p++(B++(Y++(X++q)))=(p++B)++(Y++(X++q)):=by simp
    rw [L,ih Y X (p++B) q n _ j (by omega) (by omega) (by omega) (by omega) (by simp; omega) rfl (by omega) (by simp; omega)]
    simp
   ·simp only [I,bL,aB,aN]
    obtain ⟨Z,V,rfl,O⟩:=rj (l:=B) (n:=B.length-A.length) (by omega)
    simp only [aC] at w h d O E he
    have u:wi0 .i64 (M-i)=(p.length:Int):=mH _ (by omega) (by omega)
    have P:wi0 .i64 (M+j)=((p.length+A.length+(Z.length+V.length):Nat):Int):=mH _ (by omega) (by omega)
    have Q:wi0 .i64 (((p.length+A.length+(Z.length+V.length):Nat):Int)-i)=((p.length+A.length+Z.length:Nat):Int):=mH _ (by omega) (by omega)
    have s:=FR (f:=f) p Z q A V (p.length:Int) ((p.length+A.length+Z.length:Nat):Int) i (by omega) (by simp; omega) r rfl rfl
    have v:p++(A++(Z++V++q))=p++(A++(Z++(V++q))):=by simp
    have z:wi0 .i64 (j-i)=(Z.length:Int):=mH _ (by omega) (by omega)
    rw [v,u,P,Q,s,aA,z]
    rw [show p++(V++(Z++(A++q)))=p++(V++(Z++(A++q))) from rfl,ih V Z p (A++q) n i _ (by omega) (by omega) (by omega) (by omega) (by simp; omega) (by omega) rfl (by omega)]
    simp
theorem RF (A B p q:List ky) (a m b:Int) (h1:0 < A.length) (j:0 < B.length) (i:(p++(A++(B++q))).length≤1000000) (ha:a=(p.length:Int)) (hm:m=((p.length+A.length:Nat):Int)) (hb:b=((p.length+A.length+B.length:Nat):Int)) :
  oI (p++(A++(B++q))) a m b f=some (p++(B++(A++q))):=by
 unfold oI
 have d:=i
 simp only [aC] at d
 rw [mH A.length (by omega) (by omega),mH B.length (by omega) (by omega)]
 exact OP m (A.length+B.length) A B p q li _ _ (aQ _) h1 j (by rw [mJ]; omega) i rfl rfl hm
end
section
variable {c:ky→ky→Int} {G:ky→Prop} {f:ky×ky→Option Int}
abbrev zz (a0:List ky) (f:ky×ky→Option Int) (p q:Int) (b:Bool):Prop:=∃x y r,lM a0 p=some x∧lM a0 q=some y∧f (x,y)=some r∧decide (r < 0)=b
theorem RD (a0:List ky) (z:Int) (q:Nat→Bool) (lo p:Nat) (Q:p≤1000000) (G:∀h,lo≤h→h < p→zz a0 f (h:Int) z (q h)):∀(d n i j:Nat),j-i≤d→d < n→lo≤i→i≤j→j≤p→(i=lo∨q (i-1)=true)→(j=p∨q j=false)→
  ∃t T,lo≤t∧t≤p∧(t=lo∨q (t-1)=true)∧(t=p∨q t=false)∧mN a0 z f n (i:Int) (j:Int)=mN a0 z f (T+1) (t:Int) (t:Int):=by
 intro d
 induction d with
 | zero=>
  intro n i j h1 R s O u v w
  obtain ⟨n,rfl⟩:=aF (by omega:n≠0)
  obtain rfl:i=j:=by omega
  exact ⟨i,n,s,u,v,w,rfl⟩
 | succ d ih=>
  intro n i j h1 R s O u v w
  obtain ⟨n,rfl⟩:=aF (by omega:n≠0)
  by_cases A:i=j
  ·subst A; exact ⟨i,n,s,u,v,w,rfl⟩
  have P:=xh (i+j) (x:=(i:Int)+(j:Int)) (by omega) (by omega)
  obtain ⟨x,y,r,I,J,L,M⟩:=G ((i+j) / 2) (by omega) (by omega)
  rw [mN]
  have E:((i:Int) < (j:Int)):=by omega
  simp only [E,bJ,aS,P,I,J,L,M,aA]
  cases hp:q ((i+j) / 2)
  ·simp only [aB,aN]
   exact ih n i ((i+j) / 2) (by omega) (by omega) s (by omega) (by omega) v (.inr hp)
  ·simp only [aS]
   rw [mH ((i+j) / 2+1) (by omega) (by omega)]
   exact ih n ((i+j) / 2+1) j (by omega) (by omega) (by omega) (by omega) u (.inr (by simpa using hp)) w
theorem RX (a0:List ky) (a2:Int) (q:Nat→Bool) (lo p:Nat) (P:p≤1000000) (E:∀h,lo≤h→h < p→zz a0 f a2 (h:Int) (!q h)):∀(d n i j:Nat),j-i≤d→d < n→lo≤i→i≤j→j≤p→(i=lo∨q (i-1)=true)→(j=p∨q j=false)→
  ∃t R,lo≤t∧t≤p∧(t=lo∨q (t-1)=true)∧(t=p∨q t=false)∧mO a0 a2 f n (i:Int) (j:Int)=mO a0 a2 f (R+1) (t:Int) (t:Int):=by
 intro d
 induction d with
 | zero=>
  intro n i j h1 Q s M u v w
  obtain ⟨n,rfl⟩:=aF (by omega:n≠0)
  obtain rfl:i=j:=by omega
  exact ⟨i,n,s,u,v,w,rfl⟩
 | succ d ih=>
  intro n i j h1 Q s M u v w
  obtain ⟨n,rfl⟩:=aF (by omega:n≠0)
  by_cases z:i=j
  ·subst z; exact ⟨i,n,s,u,v,w,rfl⟩
  have O:=xh (i+j) (x:=(i:Int)+(j:Int)) (by omega) (by omega)
  obtain ⟨x,y,r,G,I,J,L⟩:=E ((i+j) / 2) (by omega) (by omega)
  rw [mO]
  have A:((i:Int) < (j:Int)):=by omega
  simp only [A,bJ,aS,O,G,I,J,L,aA,fZ]
  cases hp:q ((i+j) / 2)
  ·simp only [aB,aN]
   exact ih n i ((i+j) / 2) (by omega) (by omega) s (by omega) (by omega) v (.inr hp)
  ·simp only [aS]
   rw [mH ((i+j) / 2+1) (by omega) (by omega)]
   exact ih n ((i+j) / 2+1) j (by omega) (by omega) (by omega) (by omega) u (.inr (by simpa using hp)) w
theorem MS (x:ky):∀(P Q R:List ky) (n:Nat) (k i:Int),P.length < n→(Q++x::(P++R)).length≤1000000→k=(Q.length:Int)→i=((Q.length+P.length+1:Nat):Int)→nJ i n (Q++x::(P++R)) k=some (Q++(P++x::R))
 | [],Q,R,n,k,i,j,p,hk,d=>by
  obtain ⟨n,rfl⟩:=aF (by simp at j; omega:n≠0)
  simp only [aC,aJ,bD] at p d
  rw [nJ,mH Q.length (by omega) (by omega)]
  have:¬(k < (Q.length:Int)):=by omega
  simp [this]
 | y::P,Q,R,n,k,i,j,p,hk,d=>by
  obtain ⟨n,rfl⟩:=aF (by simp at j; omega:n≠0)
  simp only [aC,aJ] at p d j
  have r:Q++x::(y::P++R)=Q++x::([]++y::(P++R)):=rfl
  have s:wi0 .i64 (k+1)=((Q.length+1+([]:List ky).length:Nat):Int):=mH _ (by simp; omega) (by simp; omega)
  have i1:lM (Q++x::([]++y::(P++R))) ((Q.length+1+([]:List ky).length:Nat):Int)=some y:=by
   have:=mD (Q++[x]) y (P++R) ((Q.length+1+([]:List ky).length:Nat):Int) (by simp)
   simpa using this
  have i2:lM (Q++x::([]++y::(P++R))) k=some x:=mD _ _ _ _ hk
  rw [nJ,mH (Q.length+P.length+1) (by omega) (by omega),r]
  have q:k < ((Q.length+P.length+1:Nat):Int):=by omega
  have kn:k.toNat=Q.length:=by omega
  simp only [q,bJ,aS,s,i1,i2,aA,kn]
  have i3:lM ((Q++x::([]++y::(P++R))).set Q.length y) ((Q.length+1+([]:List ky).length:Nat):Int)=some y:=by
   rw [BR]
   have:=mD (Q++[y]) y (P++R) ((Q.length+1+([]:List ky).length:Nat):Int) (by simp)
   simpa using this
  rw [i3,aA,dC,B5]
  have:=MS x P (Q++[y]) R n ((Q.length+1+([]:List ky).length:Nat):Int) i (by omega) (by simp; omega) (by simp) (by rw [d]; simp; omega)
  simpa using this
theorem RY (x:ky):∀(k:Nat) (S Q R:List ky) (n:Nat) (j i:Int),S.length=k→k < n→(Q++(S++x::R)).length≤1000000→j=((Q.length+S.length:Nat):Int)→i=(Q.length:Int)→nO i n (Q++(S++x::R)) j=some (Q++x::(S++R)):=by
 intro k
 induction k with
 | zero=>
  intro S Q R n j i hk v s d r
  obtain ⟨n,rfl⟩:=aF (by omega:n≠0)
  obtain rfl:=aI hk
  rw [nO]
  simp only [bD,jT] at d
  have:¬(j > i):=by omega
  simp [this]
 | succ k ih=>
  intro S Q R n j i hk v s d r
  obtain ⟨n,rfl⟩:=aF (by omega:n≠0)
  rcases dO S with rfl | ⟨S,z,rfl⟩
  ·simp at hk
  simp only [eK,aC,aJ,bD] at hk d s ⊢
  have u:Q++(S++[z]++x::R)=(Q++S)++z::([]++x::R):=by simp
  have A:wi0 .i64 (j-1)=((Q++S).length:Int):=mH _ (by simp; omega) (by simp; omega)
  have p:j=(((Q++S).length+1+([]:List ky).length:Nat):Int):=by rw [d]; simp; omega
  have i1:lM ((Q++S)++z::([]++x::R)) j=some x:=by
   have:=mD (Q++S++[z]) x R j (by rw [p]; simp; omega)
   simpa using this
  have i2:lM ((Q++S)++z::([]++x::R)) ((Q++S).length:Int)=some z:=mD _ _ _ _ rfl
  rw [nO,u]
  have q:j > i:=by omega
  have w:j.toNat=(Q++S).length+1+([]:List ky).length:=by omega
  simp only [q,bJ,aS,A,i1,i2,aA,w]
  have i3:lM (((Q++S)++z::([]++x::R)).set ((Q++S).length+1+([]:List ky).length) z) ((Q++S).length:Int)=some z:=by
   have:((Q++S)++z::([]++x::R)).set ((Q++S).length+1+([]:List ky).length) z=(Q++S)++z::(z::R):=by
    have:=Bv (Q++S++[z]) R x z ((Q++S).length+1+([]:List ky).length) (by simp; omega)
    simpa using this
   rw [this]; exact mD _ _ _ _ rfl
  rw [i3,aA,dC,Jf]
  have:=ih S Q (z::R) n ((Q++S).length:Int) i (by omega) (by omega) (by simp; omega) (by simp) r
  simpa using this
end
section
variable {c:ky→ky→Int} {G:ky→Prop} {f:ky×ky→Option Int}
theorem MD (a0:List ky) (v a3 a2:Int) (rec:List ky→Int→Int→Int→((ky×ky)→Option Int)→Option (List ky)) (mid m p:Nat) (w:v+a3=((2*mid:Nat):Int)∨v+a3=((2*mid+1:Nat):Int)) (hm:a2=(m:Int)) (hp:p+1=mid+m) (u:Nat→Bool) (lo q:Nat) (W:q≤1000000) (Z:mid≤1000000) (Y:mid+m≤2000000) (hle:q≤p+1) (M:∀h,lo≤h→h < q→zz a0 f ((p-h:Nat):Int) (h:Int) (!u h)):∀(d n i j:Nat),j-i≤d→d < n→lo≤i→i≤j→j≤q→(i=lo∨u (i-1)=true)→(j=q∨u j=false)→
  ∃t n',lo≤t∧t≤q∧(t=lo∨u (t-1)=true)∧(t=q∨u t=false)∧mr a0 v a3 a2 f rec n (i:Int) (j:Int)=mr a0 v a3 a2 f rec (n'+1) (t:Int) (t:Int):=by
 have s:wi0 .i64 (Int.fdiv (IntKind.u64.wrap (wi0 .i64 (v+a3))) (2 ^ min (Int.toNat 1) (IntKind.bits .u64)))=(mid:Int):=by
  rcases w with h | h
  ·rw [xh _ h (by omega),show 2*mid / 2=mid by omega]
  ·rw [xh _ h (by omega),show (2*mid+1) / 2=mid by omega]
 intro d
 induction d with
 | zero=>
  intro n i j h1 hn A T E G I
  obtain ⟨n,rfl⟩:=aF (by omega:n≠0)
  obtain rfl:i=j:=by omega
  exact ⟨i,n,A,E,G,I,rfl⟩
 | succ d ih=>
  intro n i j h1 hn A T E G I
  obtain ⟨n,rfl⟩:=aF (by omega:n≠0)
  by_cases J:i=j
  ·subst J; exact ⟨i,n,A,E,G,I,rfl⟩
  have U:=xh (i+j) (x:=(i:Int)+(j:Int)) (by omega) (by omega)
  obtain ⟨x,y,r,O,P,Q,R⟩:=M ((i+j) / 2) (by omega) (by omega)
  have w1:wi0 .i64 ((mid:Int)+a2)=((mid+m:Nat):Int):=mH _ (by omega) (by omega)
  have w2:wi0 .i64 (((mid+m:Nat):Int)-1)=(p:Int):=mH _ (by omega) (by omega)
  have w3:wi0 .i64 ((p:Int)-(((i+j) / 2:Nat):Int))=((p-(i+j) / 2:Nat):Int):=mH _ (by omega) (by omega)
  rw [mr]
  have L:((i:Int) < (j:Int)):=by omega
  simp only [L,bJ,aS,U,s,w1,w2,w3,O,P,Q,R,aA,fZ]
  cases z:u ((i+j) / 2)
  ·simp only [aB,aN]
   exact ih n i ((i+j) / 2) (by omega) (by omega) A (by omega) (by omega) G (.inr z)
  ·simp only [aS]
   rw [mH ((i+j) / 2+1) (by omega) (by omega)]
   exact ih n ((i+j) / 2+1) j (by omega) (by omega) (by omega) (by omega) E (.inr (by simpa using z)) I
theorem Oe (a0:List ky) (i a3 a2:Int) (rec:List ky→Int→Int→Int→((ky×ky)→Option Int)→Option (List ky)) (mid m t n:Nat) (j:i+a3=((2*mid:Nat):Int)∨i+a3=((2*mid+1:Nat):Int)) (hm:a2=(m:Int)) (z:mid≤1000000) (w:mid+m≤2000000) (J:t≤mid+m) :
  mr a0 i a3 a2 f rec (n+1) (t:Int) (t:Int) =
   ((if t < m∧m < mid+m-t then oI a0 (t:Int) a2 ((mid+m-t:Nat):Int) f else some a0).bind λl=>((if i < (t:Int)∧t < mid then rec l i (t:Int) (mid:Int) f else some l).bind λl=>if mid < mid+m-t∧((mid+m-t:Nat):Int) < a3 then rec l (mid:Int) ((mid+m-t:Nat):Int) a3 f else some l)):=by
 have d:wi0 .i64 (Int.fdiv (IntKind.u64.wrap (wi0 .i64 (i+a3))) (2 ^ min (Int.toNat 1) (IntKind.bits .u64)))=(mid:Int):=by
  rcases j with h | h
  ·rw [xh _ h (by omega),show 2*mid / 2=mid by omega]
  ·rw [xh _ h (by omega),show (2*mid+1) / 2=mid by omega]
 have G:wi0 .i64 ((mid:Int)+a2)=((mid+m:Nat):Int):=mH _ (by omega) (by omega)
 have I:wi0 .i64 (((mid+m:Nat):Int)-(t:Int))=((mid+m-t:Nat):Int):=mH _ (by omega) (by omega)
 rw [mr]
 simp only [iI,bL,aB,aN,d,G,I,si]
 subst hm
 have r:((t:Int) < (m:Int))=(t < m):=by simp
 have s:((m:Int) < ((mid+m-t:Nat):Int))=(m < mid+m-t):=by rw [gU]; omega
 have u:((t:Int) < (mid:Int))=(t < mid):=by simp
 have v:((mid:Int) < ((mid+m-t:Nat):Int))=(mid < mid+m-t):=by rw [gU]; omega
 simp only [r,s,u,v]
 have key:∀(p q:Prop) [Decidable p] [Decidable q] (A B:Option (List ky)),((if decide p=true then some (decide q) else some false:Option Bool).bind λx=>if x=true then A else B)=if p∧q then A else B:=by
  intro p q _ _ A B
  by_cases hp:p <;> by_cases E:q <;> simp [hp,E]
 simp only [key]
theorem EB (p A q:List ky) (h:Nat) (i:p.length≤h) (h1:h < p.length+A.length):∃x,A[h-p.length]? =some x∧lM (p++(A++q)) (h:Int)=some x:=by
 obtain ⟨x,d⟩:∃x,A[h-p.length]? =some x:=⟨_,dE (by omega)⟩
 refine ⟨x,d,?_⟩
 rw [DW,fJ i,gB (by omega),d]
end
section
variable {c:ky→ky→Int} {G:ky→Prop} {f:ky×ky→Option Int}
theorem uJ {A:List (ky×Nat)} {i:Nat} {z:ky×Nat} (h:A[i]? =some z):(A.map (·.1))[i]? =some z.1:=by simp [h]
theorem Ow (h:SWO (mL c)) (T:uN f c G) (x:ky×Nat) (B:List (ky×Nat)) (pre post:List ky) (a m b:Int) (M:oe (mL c) B) (Y:∀y∈B,x.2 < y.2) (A:∀y∈x::B,G y.1) (U:(pre++x.1::(B.map (·.1)++post)).length≤400000) (ha:a=(pre.length:Int)) (hm:m=((pre.length+1:Nat):Int)) (hb:b=((pre.length+1+B.length:Nat):Int)) :
  ∃u,mN (pre++x.1::(B.map (·.1)++post)) a f li m b=some (pre++(u.map (·.1)++post))∧oe (mL c) u∧u.Perm (x::B):=by
 have s:=U
 simp only [aC,aJ,bW] at s
 let i:Nat→Bool:=λk=>match (B.map (·.1))[k-(pre.length+1)]? with | some y=>mL c y x.1 | none=>false
 have p:∀k,pre.length+1≤k→k < pre.length+1+B.length→zz (pre++x.1::(B.map (·.1)++post)) f (k:Int) a (i k):=by
  intro k h1 h2
  obtain ⟨y,v,E⟩:=EB (pre++[x.1]) (B.map (·.1)) post k (by simp; omega) (by simp; omega)
  have I:lM (pre++x.1::(B.map (·.1)++post)) (k:Int)=some y:=by simpa using E
  have J:lM (pre++x.1::(B.map (·.1)++post)) a=some x.1:=mD _ _ _ _ ha
  have Z:G y:=by
   obtain ⟨q,W,rfl⟩:=bE.1 (cR v)
   exact A q (by simp [W])
  refine ⟨y,x.1,_,I,J,T y x.1 Z (A x (by simp)),?_⟩
  simp only [aC,aJ,bD] at v
  simp only [i,v]
 obtain ⟨t,n',t1,t2,t3,t4,e⟩:=RD (f:=f) _ a i (pre.length+1) (pre.length+1+B.length) (by omega) p B.length li (pre.length+1) (pre.length+1+B.length) (by omega) (by rw [mJ]; omega) (aQ _) (by omega) (aQ _) (.inl rfl) (.inl rfl)
 rw [hm,hb,e,mN]
 simp only [iI,bL,aB,aN,si]
 obtain ⟨P,S,rfl,O⟩:=rj (l:=B) (n:=t-(pre.length+1)) (by omega)
 simp only [aC] at s t2 t4
 have L:pre++x.1::((P++S).map (·.1)++post)=pre++x.1::(P.map (·.1)++(S.map (·.1)++post)):=by simp
 rw [L,MS x.1 (P.map (·.1)) pre (S.map (·.1)++post) li a (t:Int) (by rw [mJ]; simp; omega) (by simp; omega) ha (by simp; omega)]
 refine ⟨P++x::S,by simp,AN h M ?_ ?_,gp⟩
 ·intro A' z w B' j d
  simp only [aK] at d
  rw [←d.1]
  have Q:0 < P.length:=by rw [j]; simp
  have hp:i (t-1)=true:=by
   rcases t3 with t3 | t3
   ·omega
   ·exact t3
  have r:=uJ (xR S j)
  rw [show P.length-1=t-1-(pre.length+1) by omega] at r
  simp only [i,r] at hp
  exact .inl hp
 ·intro A' z w B' j d
  have hz:z=x:=by
   cases A' with
   | nil=>simpa using j.symm
   | cons _ A'=>simp at j
  rw [hz]
  have R:0 < S.length:=by rw [d]; simp
  have hp:i t=false:=by
   rcases t4 with t4 | t4
   ·omega
   ·exact t4
  have r:=uJ (xF P d)
  rw [O] at r
  simp only [i,r] at hp
  exact .inr ⟨hp,Y w (by rw [d]; simp)⟩
theorem OV (h:SWO (mL c)) (T:uN f c G) (y:ky×Nat) (A:List (ky×Nat)) (pre post:List ky) (a m:Int) (M:oe (mL c) A) (Y:∀x∈A,x.2 < y.2) (w:∀x∈y::A,G x.1) (U:(pre++(A.map (·.1)++y.1::post)).length≤400000) (ha:a=(pre.length:Int)) (hm:m=((pre.length+A.length:Nat):Int)) :
  ∃u,mO (pre++(A.map (·.1)++y.1::post)) m f li a m=some (pre++(u.map (·.1)++post))∧oe (mL c) u∧u.Perm (A++[y]):=by
 have s:=U
 simp only [aC,aJ,bW] at s
 let j:Nat→Bool:=λk=>match (A.map (·.1))[k-pre.length]? with | some x=>!mL c y.1 x | none=>false
 have p:∀k,pre.length≤k→k < pre.length+A.length→zz (pre++(A.map (·.1)++y.1::post)) f m (k:Int) (!j k):=by
  intro k h1 h2
  obtain ⟨x,v,I⟩:=EB pre (A.map (·.1)) (y.1::post) k h1 (by simp; omega)
  have J:lM (pre++(A.map (·.1)++y.1::post)) m=some y.1:=by
   have:=mD (pre++A.map (·.1)) y.1 post m (by rw [hm]; simp)
   simpa using this
  have Z:G x:=by
   obtain ⟨q,W,rfl⟩:=bE.1 (cR v)
   exact w q (by simp [W])
  refine ⟨y.1,x,_,J,I,T y.1 x (w y (by simp)) Z,?_⟩
  simp only [j,v,fZ]
 obtain ⟨t,n',t1,t2,t3,t4,e⟩:=RX (f:=f) _ m j pre.length (pre.length+A.length) (by omega) p A.length li pre.length (pre.length+A.length) (by omega) (by rw [mJ]; omega) (aQ _) (by omega) (aQ _) (.inl rfl) (.inl rfl)
 rw [←hm,←ha] at e
 rw [e,mO]
 simp only [iI,bL,aB,aN,si]
 obtain ⟨P,S,rfl,O⟩:=rj (l:=A) (n:=t-pre.length) (by omega)
 simp only [aC] at s t2 t4 hm
 have L:pre++((P++S).map (·.1)++y.1::post)=(pre++P.map (·.1))++(S.map (·.1)++y.1::post):=by simp
 rw [L,RY y.1 S.length (S.map (·.1)) (pre++P.map (·.1)) post li m (t:Int) (by simp) (by rw [mJ]; omega) (by simp; omega) (by rw [hm]; simp; omega) (by simp; omega)]
 refine ⟨P++y::S,by simp,AN h M ?_ ?_,List.perm_middle.trans (gv y (P++S)).symm⟩
 ·intro A' z E B' d i
  simp only [aK] at i
  rw [←i.1]
  have Q:0 < P.length:=by rw [d]; simp
  have hp:j (t-1)=true:=by
   rcases t3 with t3 | t3
   ·omega
   ·exact t3
  have r:=uJ (xR S d)
  rw [show P.length-1=t-1-pre.length by omega] at r
  simp only [j,r,fU] at hp
  exact .inr ⟨hp,Y z (by rw [d]; simp)⟩
 ·intro A' z E B' d i
  have hz:z=y:=by
   cases A' with
   | nil=>simpa using d.symm
   | cons _ A'=>simp at d
  rw [hz]
  have R:0 < S.length:=by rw [i]; simp
  have hp:j t=false:=by
   rcases t4 with t4 | t4
   ·omega
   ·exact t4
  have r:=uJ (xF P i)
  rw [O] at r
  simp only [j,r,iK] at hp
  exact .inl hp
def Gx (c:ky→ky→Int) (A B:List ky) (d i p q:Nat):Bool:=match A[q-d]?,B[p-q-i]? with | some x,some y=>!mL c y x | _,_=>false
theorem Gl {A B:List ky} {d i p q:Nat} {x y:ky} (h1:A[q-d]? =some x) (j:B[p-q-i]? =some y):Gx c A B d i p q=!mL c y x:=by simp only [Gx,h1,j]
theorem Qa (w:uN f c G) (A B:List (ky×Nat)) (pre post:List ky) (d p:Nat) (E:d=pre.length+A.length) (r:∀x∈A++B,G x.1) (q:Nat) (L:pre.length≤q) (M:q < d) (O:d≤p-q) (P:p-q < d+B.length) :
  zz (pre++(A.map (·.1)++(B.map (·.1)++post))) f ((p-q:Nat):Int) (q:Int) (!Gx c (A.map (·.1)) (B.map (·.1)) pre.length d p q):=by
 obtain ⟨x,n,s⟩:=EB pre (A.map (·.1)) (B.map (·.1)++post) q L (by simp; omega)
 obtain ⟨y,i,u⟩:=EB (pre++A.map (·.1)) (B.map (·.1)) post (p-q) (by simp; omega) (by simp; omega)
 have I:G x:=by
  obtain ⟨z,j,rfl⟩:=bE.1 (cR n)
  exact r z (by simp [j])
 have J:G y:=by
  obtain ⟨z,j,rfl⟩:=bE.1 (cR i)
  exact r z (by simp [j])
 have v:lM (pre++(A.map (·.1)++(B.map (·.1)++post))) ((p-q:Nat):Int)=some y:=by simpa using u
 refine ⟨y,x,_,v,s,w y x J I,?_⟩
 rw [show p-q-(pre++A.map (·.1)).length=p-q-d by simp; omega] at i
 rw [Gl n i,fZ]
abbrev RB (c:ky→ky→Int) (G:ky→Prop) (f:ky×ky→Option Int) (rec:List ky→Int→Int→Int→((ky×ky)→Option Int)→Option (List ky)) (k:Nat):Prop :=
 ∀(A B:List (ky×Nat)) (pre post:List ky) (a m b:Int),A.length+B.length≤k→0 < A.length→0 < B.length→oe (mL c) A→oe (mL c) B→
  (∀x∈A,∀y∈B,x.2 < y.2)→(∀x∈A++B,G x.1)→(pre++(A.map (·.1)++(B.map (·.1)++post))).length≤400000→a=(pre.length:Int)→m=((pre.length+A.length:Nat):Int)→b=((pre.length+A.length+B.length:Nat):Int)→
  ∃u,rec (pre++(A.map (·.1)++(B.map (·.1)++post))) a m b f=some (pre++(u.map (·.1)++post))∧oe (mL c) u∧u.Perm (A++B)
theorem NY (h:SWO (mL c)) {rec:List ky→Int→Int→Int→((ky×ky)→Option Int)→Option (List ky)} {k:Nat} (ih:RB c G f rec k) (A1 A2 B1 B2:List (ky×Nat)) (pre post:List ky) (a m b:Int) (mid d t:Nat) (Q:d=pre.length+(A1.length+A2.length)) (T:mid=(pre.length+(d+(B1.length+B2.length))) / 2) (O:A1.length=t-pre.length) (P:B1.length=mid-t) (U:pre.length≤t) (W:t≤mid) (Y:t≤d) (hk:A1.length+A2.length+(B1.length+B2.length)≤k+1) (R:2≤A1.length+A2.length+(B1.length+B2.length)) (q:oe (mL c) (A1++A2)) (r:oe (mL c) (B1++B2)) (M:∀x∈A1++A2,∀y∈B1++B2,x.2 < y.2) (L:∀x∈(A1++A2)++(B1++B2),G x.1) (hl:pre.length+(A1.length+A2.length+(B1.length+B2.length+post.length))≤400000) (ha:a=(pre.length:Int)) (hm:m=(d:Int)) (hb:b=((d+(B1.length+B2.length):Nat):Int)) (Z:Lk (mL c) A1 B2) (l2:Lk (mL c) B1 A2) :
  ∃u,((if t < d∧d < mid+d-t then oI (pre++((A1++A2).map (·.1)++((B1++B2).map (·.1)++post))) (t:Int) m ((mid+d-t:Nat):Int) f else some (pre++((A1++A2).map (·.1)++((B1++B2).map (·.1)++post)))).bind λl=>
   ((if a < (t:Int)∧t < mid then rec l a (t:Int) (mid:Int) f else some l).bind λl=>if mid < mid+d-t∧((mid+d-t:Nat):Int) < b then rec l (mid:Int) ((mid+d-t:Nat):Int) b f else some l))=some (pre++(u.map (·.1)++post))∧oe (mL c) u∧u.Perm ((A1++A2)++(B1++B2)):=by
 have r1:(if t < d∧d < mid+d-t then oI (pre++((A1++A2).map (·.1)++((B1++B2).map (·.1)++post))) (t:Int) m ((mid+d-t:Nat):Int) f else some (pre++((A1++A2).map (·.1)++((B1++B2).map (·.1)++post)))) =
   some (pre++(A1.map (·.1)++(B1.map (·.1)++(A2.map (·.1)++(B2.map (·.1)++post))))):=by
  by_cases j:t < d∧d < mid+d-t
  ·rw [cE j]
   have:=RF (f:=f) (A2.map (·.1)) (B1.map (·.1)) (pre++A1.map (·.1)) (B2.map (·.1)++post) (t:Int) m ((mid+d-t:Nat):Int) (by simp; omega) (by simp; omega) (by simp; omega) (by simp; omega) (by simp; omega) (by simp; omega)
   simpa using this
  ·rw [cI j]
   have:A2=[]∨B1=[]:=by
    by_cases h1:A2.length=0
    ·exact .inl (aI h1)
    ·exact .inr (aI (by omega))
   rcases this with rfl | rfl <;> simp
 rw [r1,aA]
 have r2:∃C1,(if a < (t:Int)∧t < mid then rec (pre++(A1.map (·.1)++(B1.map (·.1)++(A2.map (·.1)++(B2.map (·.1)++post))))) a (t:Int) (mid:Int) f else some (pre++(A1.map (·.1)++(B1.map (·.1)++(A2.map (·.1)++(B2.map (·.1)++post)))))) =
   some (pre++(C1.map (·.1)++(A2.map (·.1)++(B2.map (·.1)++post))))∧oe (mL c) C1∧C1.Perm (A1++B1):=by
  by_cases j:a < (t:Int)∧t < mid
  ·rw [cE j]
   exact ih A1 B1 pre (A2.map (·.1)++(B2.map (·.1)++post)) a t mid (by omega) (by omega) (by omega) q.left r.left (λx i y E=>M x (by simp [i]) y (by simp [E])) (λx i=>L x (by simp at i ⊢; rcases i with i | i <;> simp [i]))
    (by simp; omega) ha (by omega) (by omega)
  ·rw [cI j]
   refine ⟨A1++B1,by simp,Ez h q.left r.left (λA' x y B' I J=>?_),.refl _⟩
   have g1:0 < A1.length:=by rw [I]; simp
   have g2:0 < B1.length:=by rw [J]; simp
   omega
 obtain ⟨C1,s,w,n⟩:=r2
 have v:=n.length_eq
 simp only [aC] at v
 rw [s,aA]
 have r3:∃C2,(if mid < mid+d-t∧((mid+d-t:Nat):Int) < b then rec (pre++(C1.map (·.1)++(A2.map (·.1)++(B2.map (·.1)++post)))) (mid:Int) ((mid+d-t:Nat):Int) b f else some (pre++(C1.map (·.1)++(A2.map (·.1)++(B2.map (·.1)++post))))) =
   some ((pre++C1.map (·.1))++(C2.map (·.1)++post))∧oe (mL c) C2∧C2.Perm (A2++B2):=by
  by_cases j:mid < mid+d-t∧((mid+d-t:Nat):Int) < b
  ·rw [cE j]
   have:=ih A2 B2 (pre++C1.map (·.1)) post mid ((mid+d-t:Nat):Int) b (by omega) (by omega) (by omega) q.right r.right (λx i y E=>M x (by simp [i]) y (by simp [E])) (λx i=>L x (by simp at i ⊢; rcases i with i | i <;> simp [i]))
    (by simp; omega) (by simp; omega) (by simp; omega) (by simp; omega)
   simpa using this
  ·rw [cI j]
   refine ⟨A2++B2,by simp,Ez h q.right r.right (λA' x y B' I J=>?_),.refl _⟩
   have g1:0 < A2.length:=by rw [I]; simp
   have g2:0 < B2.length:=by rw [J]; simp
   omega
 obtain ⟨C2,z,A,p⟩:=r3
 rw [z]
 exact ⟨C1++C2,by simp,Na h q r Z l2 n p w A,Kf n p⟩
theorem KI (F:Nat) (R:1000000 < F) (L:List ky) (rec:List ky→Int→Int→Int→((ky×ky)→Option Int)→Option (List ky)) (pl i j mid d p:Nat) (a b m:Int) (w:Nat→Bool) (G:0 < i) (I:0 < j) (O:pl+(i+j)≤400000) (M:mid=(pl+(pl+i+j)) / 2) (J:d=pl+i) (hp:p+1=mid+d) (u:a+b=((2*mid:Nat):Int)∨a+b=((2*mid+1:Nat):Int)) (ha:a=(pl:Int)) (s:m=(d:Int)) (hb:b=((pl+i+j:Nat):Int)) (n:∀q,pl≤q→q < d→d≤p-q→p-q < d+j→zz L f ((p-q:Nat):Int) (q:Int) (!w q)) :
  ∃t v lo z:Nat,(lo=pl∧z=d∧d≤mid∨lo+(pl+i+j)=mid+d∧z=mid∧mid < d)∧lo≤t∧t≤z∧(t=lo∨w (t-1)=true)∧(t=z∨w t=false)∧
    ((if decide (m > (mid:Int)) then some (wi0 .i64 (((mid+d:Nat):Int)-b),(mid:Int)) else some (a,m):Option (Int×Int)).bind λx=>mr L a b m f rec F x.1 x.2) =
     mr L a b m f rec (v+1) (t:Int) (t:Int):=by
 by_cases E:mid < d
 ·obtain ⟨lo,A⟩:∃lo:Nat,lo+(pl+i+j)=mid+d:=⟨mid+d-(pl+i+j),by omega⟩
  obtain ⟨t,v,t1,t2,t3,t4,e⟩:=MD (f:=f) L a b m rec mid d p u s hp w lo mid (by omega) (by omega) (by omega) (by omega) (λq P Q=>n q (by omega) (by omega) (by omega) (by omega))
   (mid-lo) F lo mid (aQ _) (by omega) (aQ _) (by omega) (aQ _) (.inl rfl) (.inl rfl)
  refine ⟨t,v,lo,mid,.inr ⟨A,rfl,E⟩,t1,t2,t3,t4,?_⟩
  have r:m > (mid:Int):=by omega
  simp only [r,bJ,aS,aA]
  rw [mH lo (by omega) (by omega),e]
 ·obtain ⟨t,v,t1,t2,t3,t4,e⟩:=MD (f:=f) L a b m rec mid d p u s hp w pl d (by omega) (by omega) (by omega) (by omega) (λq P Q=>n q (by omega) (by omega) (by omega) (by omega))
   (d-pl) F pl d (aQ _) (by omega) (aQ _) (by omega) (aQ _) (.inl rfl) (.inl rfl)
  refine ⟨t,v,pl,d,.inl ⟨rfl,rfl,by omega⟩,t1,t2,t3,t4,?_⟩
  have r:¬(m > (mid:Int)):=by omega
  simp only [r,bL,aB,aN,aA]
  rw [←e,←ha,←s]
set_option maxHeartbeats 2000000 in
theorem Qv (h:SWO (mL c)) (hf:uN f c G):∀(k:Nat) (A B:List (ky×Nat)) (pre post:List ky) (n:Nat) (a m b:Int),A.length+B.length≤k→0 < A.length→0 < B.length→k < n→oe (mL c) A→oe (mL c) B→
  (∀x∈A,∀y∈B,x.2 < y.2)→(∀x∈A++B,G x.1)→(pre++(A.map (·.1)++(B.map (·.1)++post))).length≤400000→a=(pre.length:Int)→m=((pre.length+A.length:Nat):Int)→b=((pre.length+A.length+B.length:Nat):Int)→
  ∃u,nh n (pre++(A.map (·.1)++(B.map (·.1)++post))) a m b f=some (pre++(u.map (·.1)++post))∧oe (mL c) u∧u.Perm (A++B):=by
 intro k
 induction k with
 | zero=>intro A B pre post n a m b h0 h1 h2; omega
 | succ k ih=>
  intro A B pre post n a m b h0 h1 h2 hn hA hB W U hl ha hm hb
  obtain ⟨n,rfl⟩:=aF (by omega:n≠0)
  have Q:=hl
  simp only [aC,bW] at Q
  rw [nh]
  unfold rc
  by_cases c1:A.length=1
  ·obtain ⟨x,rfl⟩:=gV.1 c1
   have:(wi0 .i64 (m-a)==1)=true:=by rw [mH 1 (by simp at hm; omega) (by omega)]; rfl
   simp only [this,aS]
   obtain ⟨u,u1,u2,u3⟩:=Ow h hf x B pre post a m b hB (λy hy=>W x (by simp) y hy) (λy hy=>U y (by simpa using hy)) (by simpa using hl) ha (by simpa using hm) (by simpa using hb)
   exact ⟨u,by simpa using u1,u2,by simpa using u3⟩
  have n1:(wi0 .i64 (m-a)==1)=false:=by rw [mH A.length (by omega) (by omega)]; simp; omega
  simp only [n1,aB,aN]
  by_cases c2:B.length=1
  ·obtain ⟨y,rfl⟩:=gV.1 c2
   have:(wi0 .i64 (b-m)==1)=true:=by rw [mH 1 (by simp at hb; omega) (by omega)]; rfl
   simp only [this,aS]
   obtain ⟨u,u1,u2,u3⟩:=OV h hf y A pre post a m hA (λx Y=>W x Y y (by simp)) (λx Y=>U x (by simp at Y ⊢; exact Y.symm)) (by simpa using hl) ha hm
   exact ⟨u,by simpa using u1,u2,u3⟩
  have n2:(wi0 .i64 (b-m)==1)=false:=by rw [mH B.length (by omega) (by omega)]; simp; omega
  simp only [n2,aB,aN]
  obtain ⟨F,hF,a1⟩:∃F,F=li∧1000000 < F:=⟨li,rfl,by rw [mJ]; omega⟩
  rw [←hF]
  obtain ⟨mid,J⟩:∃mid:Nat,mid=(pre.length+(pre.length+A.length+B.length)) / 2:=⟨_,rfl⟩
  obtain ⟨d,r⟩:∃d:Nat,d=pre.length+A.length:=⟨_,rfl⟩
  obtain ⟨p,hp⟩:∃p:Nat,p+1=mid+d:=⟨mid+d-1,by omega⟩
  have E:a+b=((2*mid:Nat):Int)∨a+b=((2*mid+1:Nat):Int):=by omega
  have L:wi0 .i64 (Int.fdiv (IntKind.u64.wrap (wi0 .i64 (a+b))) (2 ^ min (Int.toNat 1) (IntKind.bits .u64)))=(mid:Int):=by
   rcases E with h | h
   ·rw [xh _ h (by omega),show 2*mid / 2=mid by omega]
   ·rw [xh _ h (by omega),show (2*mid+1) / 2=mid by omega]
  have I:m=(d:Int):=by omega
  have w1:wi0 .i64 ((mid:Int)+m)=((mid+d:Nat):Int):=mH _ (by omega) (by omega)
  obtain ⟨M,s⟩:∃M:Nat→Bool,M=Gx c (A.map (·.1)) (B.map (·.1)) pre.length d p:=⟨_,rfl⟩
  have P:∀q,pre.length≤q→q < d→d≤p-q→p-q < d+B.length→zz (pre++(A.map (·.1)++(B.map (·.1)++post))) f ((p-q:Nat):Int) (q:Int) (!M q):=λq i j q3 q4=>by rw [s]; exact Qa hf A B pre post d p r U q i j q3 q4
  obtain ⟨t,n',lo,hi,a6,t1,t2,t3,t4,e⟩:=KI (f:=f) F a1 (pre++(A.map (·.1)++(B.map (·.1)++post))) (nh n) pre.length A.length B.length mid d p a b m M (by omega) (by omega) (by omega) J r hp E ha I hb P
  simp only [L,w1]
  rw [e,Oe (f:=f) _ a b m _ mid d t n' E I (by omega) (by omega) (by omega)]
  obtain ⟨A1,A2,rfl,O⟩:=rj (l:=A) (n:=t-pre.length) (by omega)
  obtain ⟨B1,B2,rfl,Z⟩:=rj (l:=B) (n:=mid-t) (by omega)
  simp only [aC] at h0 h1 h2 Q t1 t2 t3 t4 a6 hm hb r J
  have R:∀q x y,((A1++A2).map (·.1))[q-pre.length]? =some x→((B1++B2).map (·.1))[p-q-d]? =some y→M q=!mL c y x:=λq x y v w=>by rw [s]; exact Gl v w
  have l1:Lk (mL c) A1 B2:=by
   intro A' z b' B' i j
   have g1:0 < A1.length:=by rw [i]; simp
   have g2:0 < B2.length:=by rw [j]; simp
   have T:M (t-1)=true:=by
    rcases t3 with t3 | t3
    ·omega
    ·exact t3
   have v:=uJ (xR A2 i)
   have w:=uJ (xF B1 j)
   rw [show A1.length-1=t-1-pre.length by omega] at v
   rw [show B1.length=p-(t-1)-d by omega] at w
   rw [R _ _ _ v w,fU] at T
   exact .inr ⟨T,W z (by rw [i]; simp) b' (by rw [j]; simp)⟩
  have l2:Lk (mL c) B1 A2:=by
   intro A' z b' B' i j
   have g1:0 < B1.length:=by rw [i]; simp
   have g2:0 < A2.length:=by rw [j]; simp
   have T:M t=false:=by
    rcases t4 with t4 | t4
    ·omega
    ·exact t4
   have v:=uJ (xR B2 i)
   have w:=uJ (xF A1 j)
   rw [show B1.length-1=p-t-d by omega] at v
   rw [O] at w
   rw [R _ _ _ w v,iK] at T
   exact .inl T
  exact NY h (λA B pre post a m b i j q3=>ih A B pre post n a m b i j q3 (by omega)) A1 A2 B1 B2 pre post a m b mid d t r (by rw [J]; congr 1; omega) O Z (by omega) (by omega) (by omega) (by omega) (by omega) hA hB W U (by omega) ha I (by rw [hb]; congr 1; omega) l1 l2
end
end Go.Proofs.YtjjjihkifgdhgaaGreatDoor
