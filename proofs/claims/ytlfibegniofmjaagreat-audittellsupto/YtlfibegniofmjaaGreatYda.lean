/- a part of a proof of AuditTells -/
import Derived.Test.YtlfibegniofmjaaGreatAV3Ma
import Derived.Test.YtlfibegniofmjaaGreatRtVa
set_option linter.all false
namespace Go.Proofs.YtlfibegniofmjaaGreat
open Go.IntKind renaming wrap → wi0
open Go.RowKit
section
variable {α:Type}
structure SWO (lt:α→α→Bool):Prop where
 Yq:∀x,lt x x=false
 tr:∀x y z,lt x y=true→lt y z=true→lt x z=true
 U9:∀x y z,lt x z=true→lt x y=true∨lt y z=true
variable {lt:α→α→Bool}
theorem SWO.asym (h:SWO lt) {x y:α} (a:lt x y=true):lt y x=false:=by
 cases e:lt y x
 ·rfl
 ·have:=h.tr _ _ _ a e; rw [h.Yq] at this; cases this
def tl (lt:α→α→Bool) (p q:α×Nat):Prop:=lt p.1 q.1=true∨(lt q.1 p.1=false∧p.2 < q.2)
theorem IB (h:SWO lt) {p q r:α×Nat} (a:tl lt p q) (b:tl lt q r):tl lt p r:=by
 unfold tl at *
 rcases a with a | ⟨a,a2⟩ <;> rcases b with b | ⟨b,d⟩
 ·exact .inl (h.tr _ _ _ a b)
 ·rcases h.U9 _ r.1 _ a with c | c
  ·exact .inl c
  ·rw [b] at c; cases c
 ·rcases h.U9 _ p.1 _ b with c | c
  ·rw [a] at c; cases c
  ·exact .inl c
 ·refine .inr ⟨?_,eR⟩
  cases e:lt r.1 p.1
  ·rfl
  ·rcases h.U9 _ q.1 _ e with c | c
   ·rw [b] at c; cases c
   ·rw [a] at c; cases c
theorem Zc (h:SWO lt) {p q:α×Nat} (a:tl lt p q) (b:tl lt q p):False:=by
 have c:=IB h a b
 rcases c with c | ⟨_,c⟩
 ·rw [h.Yq] at c; cases c
 ·omega
abbrev sf (lt:α→α→Bool) (t:List (α×Nat)):Prop:=t.Pairwise (tl lt)
theorem Nu (h:SWO lt):∀{t u:List (α×Nat)},sf lt t→sf lt u→t.Perm u→t=u
 | [],u,_,_,hp=>by rw [List.nil_perm] at hp; exact hp.symm
 | p::t,[],_,_,hp=>by simp at hp
 | p::t,q::u,h1,c,hp=>by
  have e:p=q:=by
   rcases aS.1 (hp.mem_iff.1 (.head _)) with e | d
   ·exact e
   ·rcases aS.1 (hp.mem_iff.2 (.head _)) with e | a
    ·exact e.symm
    ·exact (Zc h ((cW.1 h1).1 _ a) ((cW.1 c).1 _ d)).elim
  subst e
  rw [Nu h (cW.1 h1).2 (cW.1 c).2 (List.Perm.cons_inv hp)]
def GZ (lt:α→α→Bool) (l:List α) (k:α):List α:=l.filter (λx=>!lt k x)++k::l.filter (λx=>lt k x)
def RH (lt:α→α→Bool) (l:List α):List α:=l.foldl (GZ lt) []
def L6 (lt:α→α→Bool) (t:List (α×Nat)) (k:α×Nat):List (α×Nat):=t.filter (λx=>!lt k.1 x.1)++k::t.filter (λx=>lt k.1 x.1)
theorem Xy (t:List (α×Nat)) (k:α×Nat):(L6 lt t k).map (·.1)=GZ lt (t.map (·.1)) k.1:=by
 simp [L6,GZ,List.filter_map,gk]
theorem WN (t:List (α×Nat)) (k:α×Nat):(L6 lt t k).Perm (t++[k]):=by
 unfold L6
 refine List.perm_middle.trans ?_
 refine (List.Perm.cons _ ?_).trans (gr k t).symm
 have:=List.filter_append_perm (λx:α×Nat=>!lt k.1 x.1) t
 simpa using this
theorem Yi (h:SWO lt) {t:List (α×Nat)} {k:α×Nat} (i:sf lt t) (hk:∀x∈t,x.2 < k.2):sf lt (L6 lt t k):=by
 unfold L6 sf
 rw [dz,cW]
 refine ⟨i.filter _,⟨λx c=>?_,i.filter _⟩,λx c y d=>?_⟩
 ·exact .inl (dV.1 c).2
 ·obtain ⟨h1,g⟩:=dV.1 c
  simp only [gn,] at g
  have a:tl lt x k:=.inr ⟨g,hk x h1⟩
  rcases aS.1 d with rfl | d
  ·exact a
  ·exact IB h a (.inl (dV.1 d).2)
theorem abE (h:SWO lt) (l:List α):∃t,sf lt t∧t.Perm l.zipIdx∧t.map (·.1)=RH lt l:=by
 suffices H:∀(l r:List α) (t:List (α×Nat)),sf lt t→t.Perm r.zipIdx→∃u,sf lt u∧u.Perm (r++l).zipIdx∧u.map (·.1)=l.foldl (GZ lt) (t.map (·.1)) by
  obtain ⟨u,h1,c,g⟩:=H l [] [] .nil fb
  exact ⟨u,h1,by simpa using c,g⟩
 intro l
 induction l with
 | nil=>intro r t h1 c; exact ⟨t,h1,by simpa using c,Z⟩
 | cons k l ih=>
  intro r t h1 c
  obtain ⟨u,d,a2,a3⟩:=ih (r++[k]) (L6 lt t (k,r.length)) (Yi h h1 (λx i=>by
   obtain ⟨a,b⟩:=x
   have:=List.snd_lt_of_mem_zipIdx (c.mem_iff.1 i)
   simpa using this)) ((WN t _).trans (by rw [List.zipIdx_append]; simpa using c.append_right _))
  refine ⟨u,d,by simpa using a2,?_⟩
  rw [a3,Xy]
  rfl
theorem ZM (h:SWO lt) {l:List α} {t:List (α×Nat)} (h1:sf lt t) (c:t.Perm l.zipIdx):t.map (·.1)=RH lt l:=by
 obtain ⟨u,a,a2,a3⟩:=abE h l
 rw [←a3,Nu h h1 a (c.trans a2.symm)]
end
section
variable {α:Type} {lt:α→α→Bool}
abbrev Lk (lt:α→α→Bool) (A B:List (α×Nat)):Prop:=∀A' a b B',A=A'++[a]→B=b::B'→tl lt a b
theorem Fk (h:SWO lt) {A B:List (α×Nat)} (j:sf lt A) (k:sf lt B) (l:Lk lt A B):∀a∈A,∀b∈B,tl lt a b:=by
 intro a ha b c
 rcases dt A with rfl | ⟨A',z,rfl⟩
 ·cases ha
 cases B with
 | nil=>cases c
 | cons y B'=>
  have h1:tl lt z y:=l A' z y B' fb Z
  have d:a=z∨tl lt a z:=by
   simp only [dR,aX,aY] at ha
   rcases ha with ha | ha
   ·refine .inr ?_
    simp only [dR,sf,dz] at j
    exact j.2.2 a ha z fb
   ·exact .inl ha
  have g:b=y∨tl lt y b:=by
   rcases aS.1 c with c | c
   ·exact .inl c
   ·exact .inr ((cW.1 k).1 b c)
  have i:tl lt a y:=by
   rcases d with rfl | d
   ·exact h1
   ·exact IB h d h1
  rcases g with rfl | g
  ·exact i
  ·exact IB h i g
theorem Qm (h:SWO lt) {A B:List (α×Nat)} (a:sf lt A) (c:sf lt B) (l:Lk lt A B):sf lt (A++B) :=
 dz.2 ⟨a,c,Fk h a c l⟩
theorem sf.left {A B:List (α×Nat)} (h:sf lt (A++B)):sf lt A:=(dz.1 h).1
theorem sf.right {A B:List (α×Nat)} (h:sf lt (A++B)):sf lt B:=(dz.1 h).2.1
theorem sf.two {A B:List (α×Nat)} (h:sf lt (A++B)):∀a∈A,∀b∈B,tl lt a b:=(dz.1 h).2.2
theorem Og (h:SWO lt) {A B:List (α×Nat)} {x:α×Nat} (d:sf lt (A++B)) (i:Lk lt A [x]) (j:Lk lt [x] B):sf lt (A++x::B):=by
 have h1:=Fk h d.left (gW _ x) i
 have g:=Fk h (gW _ x) d.right j
 refine dz.2 ⟨d.left,cW.2 ⟨λb c=>g x fb b c,d.right⟩,λa ha b c=>?_⟩
 rcases aS.1 c with rfl | c
 ·exact h1 a ha _ fb
 ·exact d.two a ha b c
theorem ZT (h:SWO lt) {A1 A2 B1 B2 C1 C2:List (α×Nat)} (d:sf lt (A1++A2)) (g:sf lt (B1++B2)) (j:Lk lt A1 B2) (k:Lk lt B1 A2) (n:C1.Perm (A1++B1)) (o:C2.Perm (A2++B2)) (h1:sf lt C1) (i:sf lt C2):sf lt (C1++C2):=by
 have x1:=Fk h d.left g.right j
 have x2:=Fk h g.left d.right k
 refine dz.2 ⟨h1,i,λa ha b c=>?_⟩
 rcases aX.1 (n.mem_iff.1 ha) with ha | ha <;> rcases aX.1 (o.mem_iff.1 c) with c | c
 ·exact d.two a ha b c
 ·exact x1 a ha b c
 ·exact x2 a ha b c
 ·exact g.two a ha b c
end
section
variable {α:Type}
theorem KF (p q:List α) (x y:α):(p++x::q).set p.length y=p++y::q:=by simp
theorem RQ (p q:List α) (x y:α) (n:Nat) (h:n=p.length):(p++x::q).set n y=p++y::q:=by subst h; simp
theorem LR (p m q:List α) (x y:α):((p++x::(m++y::q)).set p.length y).set (p.length+1+m.length) x=p++y::(m++x::q):=by
 rw [KF]
 have:p++y::(m++y::q)=(p++y::m)++y::q:=by simp
 rw [this,show p.length+1+m.length=(p++y::m).length by simp; omega,KF]
 simp
theorem U6 (p m q:List α) (x y:α):((p++x::(m++y::q)).set (p.length+1+m.length) x).set p.length y=p++y::(m++x::q):=by
 rw [List.set_comm _ _ eR,LR]
theorem Bw {l:List α} {n:Nat} (h:n≤l.length):∃a b,l=a++b∧a.length=n:=⟨l.take n,l.drop n,(gi n l).symm,by simp [h]⟩
end
theorem I8 {c x:Bool}:(if c=true then some x else some false:Option Bool)=some (c&&x):=by cases c <;> rfl
theorem orS {c x:Bool}:(if c=true then some true else some x:Option Bool)=some (c||x):=by cases c <;> rfl
theorem vn {α:Type} (x:Option α):(x.bind λy=>some y)=x:=by cases x <;> rfl
theorem mr {x:Int} (a:-9223372036854775808≤x) (h1:x≤9223372036854775807):wi0 .i64 x=x:=IntWalk.i64_in _ eR
theorem ov {α:Type} (A:List α) (x:α) (B:List α) (i:Int) (h:i=(A.length:Int)):mT (A++x::B) i=some x:=by
 subst h; rw [Ge]; simp
theorem nV:lP=18446744073709551615+1:=by rw [sP]
def GP {α:Type} (f1:α→Option Bool) (z:α):Nat→List α→Int→Int→Option (List α)
 | 0,_,_,_=>none
 | n+1,l,i,j=>if decide (j < (l.length:Int)) then
   ((mT l j).bind λx=>(f1 x).bind λr=>if (!r) then (mT l i).bind λ_=>some (l.set (Int.toNat i) x,wi0 .i64 (i+1)) else some (l,i):Option (List α×Int)).bind λ(l',a)=>GP f1 z n l' a (wi0 .i64 (j+1))
  else (rr (decide (0≤i)&&decide (i≤(l.length:Int)))).bind λ_=>(rr (decide (0≤i)&&decide (i≤((rf l (Int.toNat i) z).length:Int)))).bind λ_=>some ((rf l (Int.toNat i) z).take (Int.toNat i))
theorem Gt {a b:Int} (c:0≤a) (h1:a≤b):rr (decide (0≤a)&&decide (a≤b))=some ():=by simp [rr,c,h1]
theorem Q9 {α:Type} (f1:α→Option Bool) (p:α→Bool) (z:α):∀(rest out mid:List α) (n:Nat),rest.length < n→(out++mid++rest).length < 4611686018427387904→mid≠[]→(∀x∈rest,f1 x=some (p x))→
  GP f1 z n (out++mid++rest) (out.length:Int) ((out.length+mid.length:Nat):Int)=some (out++rest.filter λx=>!p x)
 | [],out,mid,0,h,_,_,_=>by simp at h
 | [],out,mid,n+1,_,c,hm,_=>by
  rw [GP,aN fb]
  have h1:out.length≤(out++mid++[]).length:=by simp
  rw [Gt eR eR]
  simp only [aA]
  rw [Gt eR (by rw [AX _ _ _ (by simpa using h1)]; omega)]
  simp only [aA,dZ]
  rw [LI _ _ _ h1]
  simp
 | x::rest,out,mid,0,h,_,_,_=>by simp at h
 | x::rest,out,mid,n+1,h,c,hm,d=>by
  have hlen:(out++mid++x::rest).length=out.length+mid.length+rest.length+1:=by simp; omega
  rw [hlen] at c
  rw [GP,aP (by rw [hlen]; simp; omega)]
  rw [ov (out++mid) x rest _ fb]
  simp only [aA,d x fb]
  rw [mr (x:=((out.length+mid.length:Nat):Int)+1) eR eR]
  have ih:=Q9 f1 p z rest
  cases hp:p x with
  | true=>
   simp only [bR,aB,aH,aA]
   have:=ih out (mid++[x]) n (by simp at h; omega) fo fb (λy g=>d y (by simp [g]))
   simp only [aQ,cH,bN,aF,aM,bZ] at this ⊢
   rw [show ((out.length+mid.length:Nat):Int)+1=((out.length+(mid.length+(0+1)):Nat):Int) by omega,this]
   simp [hp]
  | false=>
   obtain ⟨m,a,rfl⟩:∃m a,mid=m::a:=by cases mid with
    | nil=>exact absurd Z hm
    | cons m a=>exact ⟨m,a,Z⟩
   simp only [cX,aJ]
   rw [aQ out (m::a) (x::rest),cH]
   rw [ov out m (a++x::rest) _ Z]
   simp only [aA]
   rw [mr (x:=(out.length:Int)+1) eR (by simp at c; omega)]
   have:=ih (out++[x]) (a++[x]) n (by simp at h; omega) (by simp at c ⊢; omega) fb (λy g=>d y (by simp [g]))
   simp only [aQ,cH,bN,aF,aM,bZ] at this
   have i:(out++m::(a++x::rest)).set (Int.toNat (out.length:Int)) x=out++x::(a++x::rest):=by
    rw [dZ,List.set_append_right _ _ (aZ _)]; simp
   rw [i]
   simp only [aM] at c ⊢
   rw [show (out.length:Int)+1=((out.length+(0+1):Nat):Int) by omega,show ((out.length+(a.length+1):Nat):Int)+1=((out.length+(0+1)+(a.length+(0+1)):Nat):Int) by omega,this]
   simp [hp]
def Df {α:Type} (f1:α→Option Bool):List α→Nat→Option Int
 | [],_=>some (-1)
 | x::xs,i=>(f1 x).bind λr=>if r then some (i:Int) else Df f1 xs (i+1)
theorem IQ {α:Type} (f1:α→Option Bool) (p:α→Bool):∀(l:List α) (i:Nat),(∀x∈l,f1 x=some (p x))→
  (Df f1 l i=some (-1)∧∀x∈l,p x=false)∨∃A x B,l=A++x::B∧(∀y∈A,p y=false)∧p x=true∧Df f1 l i=some ((i+A.length:Nat):Int)
 | [],i,_=>.inl ⟨Z,fb⟩
 | x::l,i,h=>by
  rw [Df,h x fb]
  simp only [aA]
  cases hp:p x with
  | true=>exact .inr ⟨[],x,l,Z,fb,hp,fb⟩
  | false=>
   simp only [aB,aH]
   rcases IQ f1 p l (i+1) (λy a=>h y (by simp [a])) with ⟨h1,c⟩ | ⟨A,y,B,rfl,h1,c,g⟩
   ·exact .inl ⟨h1,by intro y a; rcases aS.1 a with rfl | a; exact hp; exact c y a⟩
   ·refine .inr ⟨x::A,y,B,Z,?_,c,?_⟩
    ·intro z d; rcases aS.1 d with rfl | d
     ·exact hp
     ·exact h1 z d
    ·rw [g]; simp; omega
def JY {α:Type} (f1:α→Option Bool) (z:α) (l:List α):Option (List α) :=
 (Df f1 l 0).bind λa=>if (a==(-1)) then some l else GP f1 z lP l a (wi0 .i64 (a+1))
theorem L7 {α:Type} (f1:α→Option Bool) (p:α→Bool) (z:α) (l:List α) (d:l.length < 4611686018427387904) (h:∀x∈l,f1 x=some (p x)):JY f1 z l=some (l.filter λx=>!p x):=by
 unfold JY
 rcases IQ f1 p l 0 h with ⟨h1,c⟩ | ⟨A,x,B,rfl,h1,c,g⟩
 ·rw [h1]
  simp only [aA,aO,aJ]
  rw [gI.2 (λy a=>by simp [c y a])]
 ·rw [g]
  simp only [aA,fa]
  rw [aN fb,mr eR (by simp at d; omega)]
  have:=Q9 f1 p z B A [x] lP (by rw [sP]; simp at d; omega) (by simpa using d) fb (λy a=>h y (by simp [a]))
  simp only [aQ,cH,bN,aM,bZ] at this
  rw [show (A.length:Int)+1=((A.length+(0+1):Nat):Int) by omega,this]
  have i:A.filter (λx=>!p x)=A:=gI.2 (λy a=>by simp [h1 y a])
  rw [fV,i]
  simp [c]
def oT {α:Type} (eq:α→α→Bool):α→List α→List α
 | _,[]=>[]
 | p,y::ys=>if eq y p then oT eq y ys else y::oT eq y ys
def dd {α:Type} (eq:α→α→Bool):List α→List α
 | []=>[]
 | x::xs=>x::oT eq x xs
def ER {α:Type} (eq:α→α→Bool) (i:Int):Nat→List α→Int→Int→Option (List α×Int)
 | 0,_,_,_=>none
 | n+1,l,k,j=>if decide (j < ((l.length-Int.toNat i:Nat):Int)) then
   ((mT (l.drop (Int.toNat i)) j).bind λx=>(mT (l.drop (Int.toNat i)) (wi0 .i64 (j-1))).bind λy=>if !(eq x y) then (mT (l.drop (Int.toNat i)) j).bind λz=>(mT l k).bind λ_=>some (l.set (Int.toNat k) z,wi0 .i64 (k+1)) else some (l,k):Option (List α×Int)).bind λ(l',k')=>ER eq i n l' k' (wi0 .i64 (j+1))
  else some (l,k)
def Fz {α:Type} (eq:α→α→Bool) (z:α) (l:List α):Nat→Int→Option (List α)
 | 0,_=>none
 | n+1,i=>if decide (i < (l.length:Int)) then (mT l i).bind λx=>(mT l (wi0 .i64 (i-1))).bind λy=>if eq x y then
    (rr (decide (0≤i)&&decide (i≤(l.length:Int)))).bind λ_=>(ER eq i lP l i 1).bind λ(l',k)=>(rr (decide (0≤k)&&decide (k≤(l'.length:Int)))).bind λ_=>(rr (decide (0≤k)&&decide (k≤((rf l' (Int.toNat k) z).length:Int)))).bind λ_=>some ((rf l' (Int.toNat k) z).take (Int.toNat k))
   else Fz eq z l n (wi0 .i64 (i+1))
  else some l
def Mc {α:Type} (eq:α→α→Bool) (z:α) (l:List α):Option (List α):=if decide ((l.length:Int) < 2) then some l else Fz eq z l lP 1
theorem Qd {α:Type} (l:List α) (i:Nat) (j:Int) (a:0≤j):mT (l.drop i) j=mT l ((i:Int)+j):=by
 obtain ⟨m,rfl⟩:∃m:Nat,j=m:=⟨j.toNat,eR⟩
 rw [show (i:Int)+(m:Int)=((i+m:Nat):Int) by omega,Ge,Ge,ev]
theorem MC {α:Type} (eq:α→α→Bool) (i:Nat):∀(rest out mid:List α) (p:α) (n:Nat),rest.length < n→(out++(mid++[p])++rest).length < 4611686018427387904→1≤i→i≤out.length→
  ∃l',ER eq (i:Int) n (out++(mid++[p])++rest) (out.length:Int) ((out.length+mid.length+1-i:Nat):Int)=some (l',((out++oT eq p rest).length:Int))∧l'.take (out++oT eq p rest).length=out++oT eq p rest∧(out++oT eq p rest).length≤l'.length
 | [],out,mid,p,0,h,_,_,_=>by simp at h
 | [],out,mid,p,n+1,h,k,h1,j=>by
  rw [ER,aN fo]
  exact ⟨out++(mid++[p])++[],by simp [oT],by simp [oT],by simp [oT]⟩
 | x::rest,out,mid,p,0,h,_,_,_=>by simp at h
 | x::rest,out,mid,p,n+1,h,k,h1,j=>by
  have hlen:(out++(mid++[p])++x::rest).length=out.length+mid.length+rest.length+2:=by simp; omega
  rw [hlen] at k
  rw [ER,aP (by rw [hlen]; simp; omega)]
  rw [dZ,Qd _ _ _ eR,ov (out++(mid++[p])) x rest _ fo]
  simp only [aA]
  rw [mr (x:=((out.length+mid.length+1-i:Nat):Int)-1) eR eR,Qd _ _ _ eR]
  rw [show out++(mid++[p])++x::rest=(out++mid)++p::(x::rest) by simp]
  rw [ov (out++mid) p (x::rest) _ fo]
  simp only [aA]
  rw [mr (x:=((out.length+mid.length+1-i:Nat):Int)+1) eR eR]
  cases hp:eq x p with
  | true=>
   simp only [bR,aB,aH,aA]
   obtain ⟨l',c,d,g⟩:=MC eq i rest out (mid++[p]) x n (by simp at h; omega) fo h1 j
   refine ⟨l',?_,by rw [oT,hp]; exact d,by rw [oT,hp]; exact g⟩
   rw [oT,hp,aP Z,←c]
   congr 1
   ·simp
   ·simp; omega
  | false=>
   simp only [cX,aJ]
   obtain ⟨m,a,hm⟩:∃m a,mid++[p]=m::a:=by cases mid with
    | nil=>exact ⟨p,[],Z⟩
    | cons m a=>exact ⟨m,a++[p],Z⟩
   have q:a.length=mid.length:=by have:=bI List.length hm; simp at this; omega
   rw [show (out++mid)++p::(x::rest)=out++m::(a++x::rest) by rw [←cH,←hm]; simp]
   rw [ov out m (a++x::rest) _ Z]
   simp only [aA]
   rw [mr (x:=(out.length:Int)+1) eR eR]
   have s:(out++m::(a++x::rest)).set (Int.toNat (out.length:Int)) x=(out++[x])++(a++[x])++rest:=by
    rw [dZ,List.set_append_right _ _ (aZ _)]; simp
   rw [s]
   obtain ⟨l',c,d,g⟩:=MC eq i rest (out++[x]) a x n (by simp at h; omega) fo h1 fo
   refine ⟨l',?_,?_,?_⟩
   ·rw [oT,hp,aN fs]
    have o:((out++x::oT eq x rest).length:Int)=((out++[x]++oT eq x rest).length:Int):=by simp
    rw [o,←c]
    congr 1
    ·simp
    ·simp; omega
   ·rw [oT,hp,aN fs]; simpa using d
   ·rw [oT,hp,aN fs]; simpa using g
theorem RJ {α:Type} (eq:α→α→Bool) (z:α):∀(rest pre:List α) (p:α) (n:Nat),rest.length < n→(pre++p::rest).length < 4611686018427387904→
  Fz eq z (pre++p::rest) n ((pre.length+1:Nat):Int)=some (pre++p::oT eq p rest)
 | [],pre,p,0,h,_=>by simp at h
 | [],pre,p,n+1,h,i=>by rw [Fz,aN fb]; simp [oT]
 | x::rest,pre,p,0,h,_=>by simp at h
 | x::rest,pre,p,n+1,h,i=>by
  have hlen:(pre++p::x::rest).length=pre.length+rest.length+2:=by simp; omega
  rw [hlen] at i
  rw [Fz,aP (by rw [hlen]; simp; omega)]
  rw [show pre++p::x::rest=(pre++[p])++x::rest by simp,ov (pre++[p]) x rest _ fb]
  simp only [aA]
  rw [mr (x:=((pre.length+1:Nat):Int)-1) eR eR]
  rw [show (pre++[p])++x::rest=pre++p::(x::rest) by simp,ov pre p (x::rest) _ eR]
  simp only [aA]
  cases hp:eq x p with
  | true=>
   simp only [aJ]
   rw [Gt eR (by rw [hlen]; omega)]
   simp only [aA]
   obtain ⟨l',a,g,d⟩:=MC eq (pre.length+1) rest (pre++[p]) [] x lP (by rw [sP]; omega) fo eR fb
   simp only [aQ,cH,bN,aF,aM,bZ] at a g d
   rw [show (pre.length+(0+1)+0+1-(pre.length+1):Nat)=1 by omega] at a
   rw [show ((pre.length+1:Nat):Int)=((pre.length+(0+1):Nat):Int) by omega] at *
   have c:ER eq ((pre.length+(0+1):Nat):Int) lP (pre++p::x::rest) ((pre.length+(0+1):Nat):Int) 1=_:=a
   rw [c]
   simp only [aA]
   rw [Gt eR eR]
   simp only [aA,dZ]
   rw [Gt eR (by rw [AX _ _ _ d]; omega)]
   simp only [aA]
   rw [LI _ _ _ d,g,oT,hp]
   simp
  | false=>
   simp only [aB,aH]
   rw [mr (x:=((pre.length+1:Nat):Int)+1) eR eR]
   have:=RJ eq z rest (pre++[p]) x n (by simp at h; omega) fo
   simp only [aQ,cH,bN,aF,aM,bZ] at this
   rw [show ((pre.length+1:Nat):Int)+1=((pre.length+(0+1)+1:Nat):Int) by omega,this,oT,hp]
   simp
theorem MA {α:Type} (eq:α→α→Bool) (z:α) (l:List α) (a:l.length < 4611686018427387904):Mc eq z l=some (dd eq l):=by
 unfold Mc
 cases l with
 | nil=>rfl
 | cons x xs=>
  cases xs with
  | nil=>simp [dd,oT]
  | cons y ys=>
   rw [aN fo]
   have:=RJ eq z (y::ys) [] x lP (by rw [sP]; simp at a ⊢; omega) (by simpa using a)
   simpa [dd] using this
structure FL {α:Type} (lt:α→α→Prop) (P:α→Prop):Prop where
 irrefl:∀x,P x→¬lt x x
 trans:∀x y z,P x→P y→P z→lt x y→lt y z→lt x z
 total:∀x y,P x→P y→lt x y∨x=y∨lt y x
def zU {α:Type} (lt:α→α→Prop) (P:α→Prop) (l out:List α):Prop:=out.Pairwise lt∧∀x,x∈out↔x∈l∧P x
theorem zU.unique {α:Type} {lt:α→α→Prop} {P:α→Prop} (H:FL lt P):∀{l a b:List α},zU lt P l a→zU lt P l b→a=b:=by
 have key:∀a b:List α,(∀x∈a,P x)→a.Pairwise lt→b.Pairwise lt→(∀x,x∈a↔x∈b)→a=b:=by
  intro a
  induction a with
  | nil=>intro b _ _ _ hm; cases b with
   | nil=>rfl
   | cons y ys=>exact absurd ((hm y).2 fb) fb
  | cons x xs ih=>
   intro b n ha j hm
   cases b with
   | nil=>exact absurd ((hm x).1 fb) fb
   | cons y ys=>
    have o:P y:=n y ((hm y).2 fb)
    have c:P x:=n x fb
    have d:=cW.1 ha
    have g:=cW.1 j
    have p:x=y:=by
     rcases aS.1 ((hm x).1 fb) with h | h
     ·exact h
     ·rcases aS.1 ((hm y).2 fb) with k | k
      ·exact k.symm
      ·exact absurd (H.trans x y x c o c (d.1 y k) (g.1 x h)) (H.irrefl x c)
    subst p
    congr 1
    refine ih ys (λz i=>n z (by simp [i])) d.2 g.2 (λz=>?_)
    constructor
    ·intro i
     rcases aS.1 ((hm z).1 (by simp [i])) with h | h
     ·subst h; exact absurd (d.1 z i) (H.irrefl z c)
     ·exact h
    ·intro i
     rcases aS.1 ((hm z).2 (by simp [i])) with h | h
     ·subst h; exact absurd (g.1 z i) (H.irrefl z c)
     ·exact h
 intro l a b ha j
 exact key a b (λx q=>((ha.2 x).1 q).2) ha.1 j.1 (λx=>(ha.2 x).trans (j.2 x).symm)
theorem IK {α:Type} {eq:α→α→Bool} (he:∀x y,eq x y=true↔x=y):∀(l:List α) (p x:α),x∈p::oT eq p l↔x∈p::l
 | [],p,x=>by simp [oT]
 | y::l,p,x=>by
  rw [oT]
  split
  ·rename_i h
   have:=(he y p).1 h
   subst this
   rw [IK he l y x]; simp
  ·have:=IK he l y x
   simp only [aS] at this ⊢
   rw [this]
theorem QO {α:Type} {eq:α→α→Bool} (he:∀x y,eq x y=true↔x=y) (l:List α) (x:α):x∈dd eq l↔x∈l:=by
 cases l with
 | nil=>simp [dd]
 | cons y l=>exact IK he l y x
theorem HE {α:Type} {eq:α→α→Bool} {lt:α→α→Prop} {P:α→Prop} (he:∀x y,eq x y=true↔x=y) (H:FL lt P):∀(l:List α) (p:α),(∀x∈p::l,P x)→(p::l).Pairwise (λa b=>¬lt b a)→(p::oT eq p l).Pairwise lt
 | [],p,_,_=>by simp [oT]
 | y::l,p,c,o=>by
  have h1:=cW.1 o
  rw [oT]
  split
  ·rename_i h
   have:=(he y p).1 h
   subst this
   exact HE he H l y (λx i=>c x (ew _ i)) h1.2
  ·rename_i h
   have ih:=HE he H l y (λx i=>c x (ew _ i)) h1.2
   refine cW.2 ⟨λz n=>?_,ih⟩
   have g:lt p y:=by
    rcases H.total p y (c p fb) (c y fb) with d | d | d
    ·exact d
    ·exact absurd ((he y p).2 d.symm) h
    ·exact absurd d (h1.1 y fb)
   rcases aS.1 n with rfl | j
   ·exact g
   ·have k:z∈y::l:=(IK he l y z).1 n
    exact H.trans p y z (c p fb) (c y fb) (c z (ew _ k)) g ((cW.1 ih).1 z j)
theorem U3 {α:Type} {eq:α→α→Bool} {lt:α→α→Prop} {P:α→Prop} (he:∀x y,eq x y=true↔x=y) (H:FL lt P) (l:List α) (c:∀x∈l,P x) (d:l.Pairwise λa b=>¬lt b a):(dd eq l).Pairwise lt:=by
 cases l with
 | nil=>simp [dd]
 | cons y l=>exact HE he H l y c d
theorem Pp {α:Type} {le:α→α→Bool} {P:α→Prop} (i:∀a b c,P a→P b→P c→le a b=true→le b c=true→le a c=true) (h:∀a b,P a→P b→(le a b||le b a)=true) (l:List α) (d:∀x∈l,P x) :
  (l.mergeSort le).Pairwise (λa b=>le a b=true):=by
 have e:l=(l.attachWith P d).map Subtype.val:=by simp
 have hm:((l.attachWith P d).mergeSort λa b=>le a.1 b.1).map Subtype.val=l.mergeSort le:=by
  conv=>rhs; rw [e]
  exact jd (λa _ b _=>rfl)
 rw [←hm,gl]
 exact gV (le:=λ(a b:{x // P x})=>le a.1 b.1) (λa b c h1 g=>i a.1 b.1 c.1 a.2 b.2 c.2 h1 g) (λa b=>h a.1 b.1 a.2 b.2) _
theorem HT {α:Type} {eq:α→α→Bool} {lt:α→α→Prop} {P:α→Prop} {cf:α×α→Option Int} {l:List α} (he:∀x y,eq x y=true↔x=y) (H:FL lt P) (g:∀x∈l,P x) (G:l.length < 4611686018427387904) (A:∀x y,P x→P y→∃c,cf (x,y)=some c∧(c < 0↔lt x y)):∃s,CS cf l=some s∧s.length=l.length∧zU lt P l (dd eq s):=by
 have j:∀x y,P x→P y→(xF cf x y=true↔lt x y):=λx y i o=>by
  obtain ⟨c,h1,n⟩:=A x y i o
  unfold xF
  rw [h1]
  simpa using n
 have d:∀x y,P x→P y→(xF cf x y=false↔¬lt x y):=λx y i o=>by
  rw [←j x y i o]; simp
 have ok:GL cf l:=by
  refine ⟨λx i y o=>?_,λx i=>?_,λx i y o z v h1 n=>?_,λx i y o h1 n=>?_,G⟩
  ·obtain ⟨c,h1,_⟩:=A x y (g x i) (g y o); exact ⟨c,h1⟩
  ·exact (d x x (g x i) (g x i)).2 (H.irrefl x (g x i))
  ·rw [j _ _ (g x i) (g y o)] at h1
   rw [j _ _ (g y o) (g z v)] at n
   rw [j _ _ (g x i) (g z v)]
   exact H.trans x y z (g x i) (g y o) (g z v) h1 n
  ·rw [d _ _ (g x i) (g y o)] at h1
   rw [d _ _ (g y o) (g x i)] at n
   rcases H.total x y (g x i) (g y o) with h | h | h
   ·exact absurd h h1
   ·exact h
   ·exact absurd h n
 refine ⟨_,Yf ok,by simp [vx],?_,?_⟩
 ·have k:∀x,x∈vx cf l↔x∈l:=λx=>by simp [vx]
  refine U3 he H _ (λx i=>g x ((k x).1 i)) ?_
  have:=Pp (le:=λx y=>!xF cf y x) (P:=P) (λa b c ha p q h1 n=>?_) (λa b ha p=>?_) l g
  ·refine (this.imp_of_mem ?_:_)
   intro a b ha p h
   have t:a∈l:=(k a).1 ha
   have u:b∈l:=(k b).1 p
   simp at h
   exact (d b a (g b u) (g a t)).1 h
  ·simp at h1 n ⊢
   rw [d _ _ p ha] at h1
   rw [d _ _ q p] at n
   rw [d _ _ q ha]
   intro w
   rcases H.total a b ha p with h | h | h
   ·exact n (H.trans c a b q ha p w h)
   ·subst h; exact n w
   ·exact h1 h
  ·simp only [fX,gn]
   rw [d _ _ p ha,d _ _ ha p]
   by_cases h:lt b a
   ·right; intro n; exact H.irrefl a ha (H.trans a b a ha p ha n h)
   ·exact .inl h
 ·intro x
  rw [QO he]
  constructor
  ·intro i
   have:x∈l:=by simpa [vx] using i
   exact ⟨this,g x this⟩
  ·intro i; simpa [vx] using i.1
theorem As:∀a:List UInt8,Op.bytesLess a a=false
 | []=>rfl
 | x::a=>by simp [Op.bytesLess,As a]
theorem RE (x y:UInt8):x < y∨x=y∨y < x:=by
 rcases Nat.lt_trichotomy x.toNat y.toNat with h | h | h
 ·exact .inl h
 ·exact .inr (.inl (UInt8.toNat_inj.1 h))
 ·exact .inr (.inr h)
theorem De:∀a b c:List UInt8,Op.bytesLess a b=true→Op.bytesLess b c=true→Op.bytesLess a c=true
 | [],[],c,h1,_=>by simp [Op.bytesLess] at h1
 | _::_,[],c,h1,_=>by simp [Op.bytesLess] at h1
 | a,_::_,[],_,d=>by simp [Op.bytesLess] at d
 | [],b::bs,c::cs,_,_=>rfl
 | a::ax,b::bs,c::cs,h1,d=>by
  simp only [Op.bytesLess,fX,cP,bL,gP] at h1 d ⊢
  rcases h1 with h1 | ⟨rfl,h1⟩
  ·rcases d with d | ⟨rfl,d⟩
   ·exact .inl (UInt8.lt_trans h1 d)
   ·exact .inl h1
  ·rcases d with d | ⟨rfl,d⟩
   ·exact .inl d
   ·exact .inr ⟨Z,De ax bs cs h1 d⟩
theorem GG:∀a b:List UInt8,Op.bytesLess a b=true∨a=b∨Op.bytesLess b a=true
 | [],[]=>.inr (.inl Z)
 | [],_::_=>.inl Z
 | _::_,[]=>.inr (.inr Z)
 | a::ax,b::bs=>by
  simp only [Op.bytesLess,fX,cP,bL,gP,cA]
  rcases RE a b with h | h | h
  ·exact .inl (.inl h)
  ·subst h
   rcases GG ax bs with h | h | h
   ·exact .inl (.inr ⟨Z,h⟩)
   ·exact .inr (.inl ⟨Z,h⟩)
   ·exact .inr (.inr (.inr ⟨Z,h⟩))
  ·exact .inr (.inr (.inl h))
theorem Ih:∀a b:List UInt8,(Lib.compareBytes a b < 0↔Op.bytesLess a b=true)
 | [],[]=>by simp [Lib.compareBytes,Op.bytesLess]
 | [],_::_=>by simp [Lib.compareBytes,Op.bytesLess]
 | _::_,[]=>by simp [Lib.compareBytes,Op.bytesLess]
 | a::ax,b::bs=>by
  simp only [Lib.compareBytes,Op.bytesLess,fX,cP,bL,gP]
  by_cases h:a < b
  ·simp [h]
  ·by_cases d:b < a
   ·have:a≠b:=by rintro rfl; exact h d
    simp [h,d,this]
   ·have:a=b:=by rcases RE a b with c | c | c; exact absurd c h; exact c; exact absurd c d
    subst this
    simp [h,Ih ax bs]
theorem Mz:∀a b:List UInt8,(Lib.compareBytes a b=0↔a=b)
 | [],[]=>by simp [Lib.compareBytes]
 | [],_::_=>by simp [Lib.compareBytes]
 | _::_,[]=>by simp [Lib.compareBytes]
 | a::ax,b::bs=>by
  simp only [Lib.compareBytes,cA]
  by_cases h:a < b
  ·simp only [h,aJ]
   constructor
   ·intro h; cases h
   ·rintro ⟨rfl,_⟩; exact absurd h fb
  ·by_cases d:b < a
   ·simp only [h,d,aJ,aH]
    constructor
    ·intro h; cases h
    ·rintro ⟨rfl,_⟩; exact absurd d fb
   ·have:a=b:=by rcases RE a b with c | c | c; exact absurd c h; exact c; exact absurd c d
    subst this
    simp [h,Mz ax bs]
theorem Dq (a b:ByteArray):uJ a b=Op.bytesLess a.data.toList b.data.toList:=by unfold uJ; rw [fK,fK]
theorem Bv {a b:ByteArray} (h:a.data.toList=b.data.toList):a=b:=jR (Array.toList_inj.1 h)
theorem yi (a:ByteArray):uJ a a=false:=by rw [Dq,As]
theorem Fu {a b c:ByteArray} (h1:uJ a b=true) (d:uJ b c=true):uJ a c=true:=by rw [Dq] at *; exact De _ _ _ h1 d
theorem Fe (a b:ByteArray):uJ a b=true∨a=b∨uJ b a=true:=by
 rw [Dq,Dq]
 rcases GG a.data.toList b.data.toList with h | h | h
 ·exact .inl h
 ·exact .inr (.inl (Bv h))
 ·exact .inr (.inr h)
theorem O5 {a b:ByteArray} (h:uJ a b=true):uJ b a=false:=by
 cases c:uJ b a with
 | false=>rfl
 | true=>have:=Fu h c; rw [yi] at this; cases this
theorem YP (P:ByteArray→Prop):FL (λa b=>uJ a b=true) P :=
 ⟨λx _ h=>(by rw [yi] at h; cases h),λx y z _ _ _=>Fu,λx y _ _=>Fe x y⟩
def GU (b:UInt8):Bool:=decide (97≤b.toNat)&&decide (b.toNat≤122)
def Io (b:UInt8):Bool:=GU b||(decide (48≤b.toNat)&&decide (b.toNat≤57))||decide (b.toNat=45)
def oM (s:ByteArray):Bool:=decide (1≤s.size)&&decide (s.size≤16)&&(match s.data.toList with | []=>false | b::_=>GU b)&&s.data.toList.all Io
theorem rA {s:ByteArray} (h:oM s=true):1≤s.size∧s.size≤16:=by
 simp only [oM,bL,cP] at h
 exact h.1.1
theorem T8:∀n:Nat,n < 256→decide (B7 (⟨#[97,98,99,100,101,102,103,104,105,106,107,108,109,110,111,112,113,114,115,116,117,118,119,120,121,122]⟩:ByteArray) (n:Int)≥0)=GU (UInt8.ofNat n):=by decide +kernel
theorem Yd:∀n:Nat,n < 256→decide (B7 (⟨#[97,98,99,100,101,102,103,104,105,106,107,108,109,110,111,112,113,114,115,116,117,118,119,120,121,122,48,49,50,51,52,53,54,55,56,57,45]⟩:ByteArray) (n:Int) < 0)=!Io (UInt8.ofNat n):=by decide +kernel
theorem yq (s:ByteArray):s.size=s.data.toList.length:=by rw [dS]; rfl
theorem Ls {s:ByteArray} (h:s.size≤16):Ef s=some (wL s):=by
 unfold Ef; rw [aP (by unfold maxLen; omega)]
theorem QK:∀l:List UInt8,Ah (l.map λb=>(b.toNat:Int))=some (l.all Io)
 | []=>rfl
 | b::l=>by
  rw [bY,Ah]
  simp only [wM,sy,aA]
  have a:=Yd b.toNat (jt b)
  rw [a]
  simp only [jN,fp]
  cases Io b with
  | true=>simp [QK l]
  | false=>simp
theorem O2 {s:ByteArray} {b:UInt8} {l:List UInt8} (h:s.data.toList=b::l):Dk s 0=some b:=by
 unfold Dk
 rw [aP (jz 0)]
 have a:s.data[0]? =some b:=by rw [←dQ,h]; rfl
 show s[0]? =some b
 rw [←a]
 rfl
theorem wk (s:ByteArray):tJ s=some (oM s):=by
 unfold tJ
 simp only [I8,aA,vn]
 by_cases h1:1≤s.size
 ·by_cases a:s.size≤16
  ·rw [aP fo]
   obtain ⟨b,l,c⟩:∃b l,s.data.toList=b::l:=by
    cases h:s.data.toList with
    | nil=>rw [yq,h] at h1; simp at h1
    | cons b l=>exact ⟨b,l,Z⟩
   rw [O2 c]
   simp only [aA,wM,sy]
   rw [T8 b.toNat (jt b)]
   simp only [jN,oM,h1,a,c,cD,eP]
   cases GU b with
   | false=>simp
   | true=>
    simp only [aJ,HB,Ls a,aA,wL]
    rw [QK,c]
    simp
  ·rw [aN fo]
   simp [oM,a]
 ·rw [aN fo]
  simp [oM,h1]
theorem N1 {s:ByteArray} {A B:List UInt8} {b:UInt8} (h:s.data.toList=A++b::B) (i:Int) (hi:i=(A.length:Int)):Dk s i=some b:=by
 subst hi
 unfold Dk
 rw [aP eR,dZ]
 have a:s.data[A.length]? =some b:=by rw [←dQ,h]; simp
 show s[A.length]? =some b
 rw [←a]
 rfl
theorem Ka (s:ByteArray) (w:s.size≤16):∀(B A:List UInt8) (n:Nat),s.data.toList=A++B→B.length < n→uR s n (A.length:Int)=some (B.all Io)
  | [],A,0,_,h=>by simp at h
  | [],A,n+1,h,_=>by
    have:s.size=A.length:=by rw [yq,h]; simp
    rw [uR,aN (by rw [this]; simp)]
    rfl
  | b::B,A,0,_,h=>by simp at h
  | b::B,A,n+1,h,v=>by
    have k:s.size=A.length+B.length+1:=by rw [yq,h]; simp; omega
    rw [uR,aP (by rw [k]; simp; omega)]
    rw [N1 h _ Z]
    simp only [aA]
    rw [mr (x:=(A.length:Int)+1) eR eR]
    have ih:=Ka s w B (A++[b]) n (by rw [h]; simp) (by simp at v; omega)
    rw [show ((A++[b]).length:Int)=(A.length:Int)+1 by simp] at ih
    simp only [fp]
    have j:∀n:Nat,n < 256→Io (UInt8.ofNat n)=!((decide (n < 97)||decide (n > 122))&&(decide (n < 48)||decide (n > 57))&&decide (n≠45)):=by decide +kernel
    have o:=j b.toNat (jt b)
    simp only [jN] at o
    rw [o]
    by_cases h1:b.toNat < 97 <;> by_cases p:b.toNat > 122 <;> by_cases q:b.toNat < 48 <;> by_cases t:b.toNat > 57 <;> by_cases u:b.toNat=45 <;>
      first
      | omega
      | (have a:((b.toNat:Int) < 97)=(b.toNat < 97):=by rw [gu]; omega
         have c:((b.toNat:Int) > 122)=(b.toNat > 122):=by rw [gu]; omega
         have d:((b.toNat:Int) < 48)=(b.toNat < 48):=by rw [gu]; omega
         have g:((b.toNat:Int) > 57)=(b.toNat > 57):=by rw [gu]; omega
         have i:((b.toNat:Int) != 45)=!decide (b.toNat=45):=by rw [cC]; simp; omega
         simp [h1,p,q,t,u,a,c,d,g,i,ih])
theorem wA (a:ByteArray):mx a a=true:=mU.2 Z
theorem ZV:zS.size=0:=rfl
theorem YK {s:ByteArray}:s=zS↔s.size=0:=by
 constructor
 ·rintro rfl; rfl
 ·intro h; exact Bv (by rw [yq] at h; rw [dX.1 h]; rfl)
theorem yH (s:ByteArray):tQ s=some (oM s):=by
 unfold tQ
 simp only [orS,aA,vn]
 by_cases g:s.size=0
 ·have:s=zS:=YK.2 g
  subst this
  rw [wA]
  rfl
 ·have o:mx s zS=false:=by
   cases h:mx s zS with
   | false=>rfl
   | true=>exact absurd (YK.1 (mU.1 h)) g
  rw [o]
  simp only [Bool.false_or]
  by_cases i:s.size≤16
  ·rw [aN fo]
   obtain ⟨b,l,k⟩:∃b l,s.data.toList=b::l:=by
    cases h:s.data.toList with
    | nil=>rw [yq,h] at g; simp at g
    | cons b l=>exact ⟨b,l,Z⟩
   rw [O2 k]
   simp only [aA,orS]
   have n:=Ka s i s.data.toList [] lP Z (by rw [sP,←yq]; omega)
   simp only [bZ] at n
   rw [show (0:Int)=((0:Nat):Int) from rfl] at *
   rw [n]
   have j:((b.toNat:Int) < 97)=(b.toNat < 97):=by rw [gu]; omega
   have d:((b.toNat:Int) > 122)=(b.toNat > 122):=by rw [gu]; omega
   have h1:1≤s.size:=by omega
   simp only [oM,h1,i,k,GU,cD,eP,j,d]
   by_cases a:b.toNat < 97
   ·simp [a,show ¬97≤b.toNat by omega]
   ·by_cases c:b.toNat > 122
    ·simp [a,c,show ¬b.toNat≤122 by omega]
    ·simp [a,c,show 97≤b.toNat by omega,show b.toNat≤122 by omega]
  ·rw [aP fo]
   simp [oM,i]
def nk (r:kL):Bool:=oM r.kO&&oM r.Word
theorem Bo (r:kL):tK r=some (nk r):=by
 unfold tK nk
 simp only [wk,aA]
 cases oM r.kO <;> simp
theorem Dh (r:kL):wz r=some (nk r):=by
 unfold wz nk
 simp only [yH,aA]
 cases oM r.kO <;> simp
def Cz (a b:kL):Bool:=uJ a.kO b.kO||(mx a.kO b.kO&&uJ a.Word b.Word)
theorem Bm (a b:kL):yD a b=some (Cz a b):=by
 unfold yD Cz
 cases uJ a.kO b.kO <;> cases mx a.kO b.kO <;> simp
theorem S5 {a b:ByteArray} (h:a≠b):mx a b=false:=by
 cases c:mx a b with
 | false=>rfl
 | true=>exact absurd (mU.1 c) h
theorem Gg {a b:kL}:Cz a b=true↔uJ a.kO b.kO=true∨(a.kO=b.kO∧uJ a.Word b.Word=true):=by
 simp [Cz,mU]
theorem M6 (P:kL→Prop):FL (λa b=>Cz a b=true) P:=by
 refine ⟨λx _ h=>?_,λx y z _ _ _ h1 c=>?_,λx y _ _=>?_⟩
 ·rw [Gg] at h
  simp [yi] at h
 ·rw [Gg] at *
  rcases h1 with h1 | ⟨g,h1⟩
  ·rcases c with c | ⟨d,c⟩
   ·exact .inl (Fu h1 c)
   ·exact .inl (by rw [←d]; exact h1)
  ·rcases c with c | ⟨d,c⟩
   ·exact .inl (by rw [g]; exact c)
   ·exact .inr ⟨g.trans d,Fu h1 c⟩
 ·simp only [Gg]
  rcases Fe x.kO y.kO with h | h | h
  ·exact .inl (.inl h)
  ·rcases Fe x.Word y.Word with c | c | c
   ·exact .inl (.inr ⟨h,c⟩)
   ·refine .inr (.inl ?_)
    cases x; cases y; simp at h c; simp [h,c]
   ·exact .inr (.inr (.inr ⟨h.symm,c⟩))
  ·exact .inr (.inr (.inl h))
theorem Cl (a b:kL):∃c,tY a b=some c∧(c < 0↔Cz a b=true):=by
 unfold tY
 simp only [uf,pL,aA,zX,xJ]
 have h1:∀a b:ByteArray,(tz a b < 0↔uJ a b=true):=λa b=>by rw [Dq]; exact Ih _ _
 have g:∀a b:ByteArray,(tz a b=0↔a=b):=λa b=>by
  unfold tz; rw [Mz]; exact ⟨Bv,λh=>by rw [h]⟩
 by_cases e:tz a.kO b.kO=0
 ·rw [aN (by simp [e])]
  have e':=(g _ _).1 e
  by_cases d:tz a.Word b.Word=0
  ·rw [aN (by simp [d])]
   refine ⟨0,Z,?_⟩
   rw [Gg,e',(g _ _).1 d]
   simp [yi]
  ·rw [aP (by simp [d])]
   refine ⟨_,Z,?_⟩
   rw [Gg,e',h1]
   simp [yi]
 ·rw [aP (by simp [e])]
  refine ⟨_,Z,?_⟩
  rw [Gg,h1]
  have:a.kO≠b.kO:=λh=>e ((g _ _).2 h)
  simp [this]
def zR:kL:=⟨zS,zS⟩
theorem JR (a b:ByteArray):mx a b=mx b a:=by rw [cC,mU,mU]; exact eq_comm
theorem Ku (a b:kL):lJ a b=lJ b a:=by rw [cC,lO,lO]; exact eq_comm
theorem Am (a:kL):lJ a a=true:=lO.2 Z
def mQ (c:kK):Bool:=nk c.Head&&(
 if c.Kind==1 then oM c.lV&&lJ zR c.B&&lJ zR c.C&&mx zS c.lW
 else if c.Kind==2 then nk c.B&&mx zS c.lV&&lJ zR c.C&&mx zS c.lW
 else if c.Kind==3 then nk c.B&&mx c.B.kO c.Head.kO&&oM c.lW&&mx zS c.lV&&lJ zR c.C
 else if c.Kind==4 then nk c.B&&nk c.C&&Cz c.B c.C&&mx zS c.lV&&mx zS c.lW
 else false)
theorem uw (c:kK):sJ c=some (mQ c):=by
 unfold sJ mQ
 simp only [Bo,wk,aA]
 obtain ⟨k,hk,a⟩:=Cl c.B c.C
 rw [hk]
 have d:decide (k < 0)=Cz c.B c.C:=by rw [cC,←a]; simp
 simp only [aA,d]
 by_cases h1:c.Kind=1
 ·cases nk c.Head <;> cases oM c.lV <;> simp [h1,nE,Am,wA,zR,iw]
 ·by_cases g:c.Kind=2
  ·cases nk c.Head <;> cases nk c.B <;> simp [g,nE,Am,wA,zR,iw]
  ·by_cases h:c.Kind=3
   ·cases nk c.Head <;> cases nk c.B <;> cases mx c.B.kO c.Head.kO <;> cases oM c.lW <;> simp [h,nE,Am,wA,zR,iw]
   ·by_cases i:c.Kind=4
    ·cases nk c.Head <;> cases nk c.B <;> cases nk c.C <;> cases Cz c.B c.C <;> simp [i,nE,Am,wA,zR,iw]
    ·simp [h1,g,h,i]
theorem wY (c:kK):uL c=some (mQ c):=by
 unfold uL mQ
 simp only [Dh,yH,Bm,aA]
 rw [show (⟨zS,zS⟩:kL)=zR from rfl,Ku c.B zR,Ku c.C zR,JR c.lW zS,JR c.lV zS]
 by_cases h1:c.Kind=1
 ·cases nk c.Head <;> cases oM c.lV <;> cases lJ zR c.B <;> cases lJ zR c.C <;> simp [h1]
 ·by_cases a:c.Kind=2
  ·cases nk c.Head <;> cases nk c.B <;> cases mx zS c.lV <;> cases lJ zR c.C <;> simp [a]
  ·by_cases d:c.Kind=3
   ·cases nk c.Head <;> cases nk c.B <;> cases mx zS c.lV <;> cases lJ zR c.C <;> cases mx c.B.kO c.Head.kO <;> simp [d]
   ·by_cases g:c.Kind=4
    ·cases nk c.Head <;> cases nk c.B <;> cases mx zS c.lV <;> cases mx zS c.lW <;> cases nk c.C <;> simp [g]
    ·cases nk c.Head <;> cases nk c.B <;> cases mx zS c.lV <;> simp [h1,a,d,g]
theorem nL {α:Type} {b:Nat} {l m:List α} (h:(l.length+m.length)*b≤140737488355328) (a:l.length+m.length≤9223372036854775807):nF b l m=some (l++m):=by
 unfold nF; rw [aP ⟨h,by unfold maxLen; omega⟩]
theorem HU {l m:List Int} (h:l.length+m.length≤1000000):nF 1 l m=some (l++m):=nL eR eR
def AI (s:ByteArray):List Int:=(s.size:Int)::wL s
def uO (r:kL):List Int:=AI r.kO++AI r.Word
def CX (c:kK):List Int:=if c.Kind=1 then AI c.lV else if c.Kind=2 then uO c.B else if c.Kind=3 then uO c.B++AI c.lW else uO c.B++uO c.C
def tj (c:kK):List Int:=c.Kind::(uO c.Head++CX c)
theorem xy (s:ByteArray):(AI s).length=s.size+1:=by simp [AI,tP]
theorem pa {r:kL} (h:nk r=true):(uO r).length≤34:=by
 simp only [nk,bL] at h
 have h1:=rA h.1
 have a:=rA h.2
 simp [uO,xy]; omega
theorem Dv {l:List Int} {n:Int} (a:0≤n) (h1:n < 128) (c:l.length≤100000):nD l n=some (true,l++[n]):=by
 have hw:IntKind.u8.wrap n=n:=by
  obtain ⟨k,rfl⟩:∃k:Nat,n=k:=⟨n.toNat,eR⟩
  have:∀k:Nat,k < 128→IntKind.u8.wrap (k:Int)=(k:Int):=by decide +kernel
  exact this k eR
 unfold nD
 rw [aN fo,nV,pE,aN fo,hw,HU fo]
 rfl
theorem KW {l:List Int} {s:ByteArray} (h:oM s=true) (a:l.length≤10000):yI l s=some (true,l++AI s):=by
 have h1:=rA h
 unfold yI
 simp only [wk,aA,h,aJ,Ls h1.2]
 unfold wu
 rw [aN (by rw [tP]; simp; omega)]
 rw [tP,Dv eR eR eR]
 simp only [aA]
 rw [HU (by simp [tP]; omega)]
 simp [AI]
theorem RO {l:List Int} {r:kL} (h:nk r=true) (c:l.length≤9000):uC l r=some (true,l++uO r):=by
 have a:=h
 simp only [nk,bL] at h
 have h1:=rA h.1
 unfold uC
 simp only [Bo,aA,a,aJ]
 rw [KW h.1 eR]
 simp only [aA,aJ]
 rw [KW h.2 (by simp [xy]; omega)]
 simp [uO]
theorem Il {l:List Int} {r:kL} (h:nk r=true) (a:l.length≤1000):uC l r=some (true,l++uO r):=RO h eR
theorem EZ {c:kK} (h:mQ c=true):nk c.Head=true:=by
 simp only [mQ,bL] at h; exact h.1
theorem rT {c:kK} (h:mQ c=true) :
  (c.Kind=1∧oM c.lV=true∧c.B=zR∧c.C=zR∧c.lW=zS)∨
  (c.Kind=2∧nk c.B=true∧c.lV=zS∧c.C=zR∧c.lW=zS)∨
  (c.Kind=3∧nk c.B=true∧oM c.lW=true∧c.B.kO=c.Head.kO∧c.lV=zS∧c.C=zR)∨
  (c.Kind=4∧nk c.B=true∧nk c.C=true∧Cz c.B c.C=true∧c.lV=zS∧c.lW=zS):=by
 simp only [mQ,bL] at h
 obtain ⟨_,h⟩:=h
 split at h
 ·rename_i h1
  simp only [bL,lO,mU] at h
  exact .inl ⟨by simpa using h1,h.1.1.1,h.1.1.2.symm,h.1.2.symm,h.2.symm⟩
 ·split at h
  ·rename_i h1
   simp only [bL,lO,mU] at h
   exact .inr (.inl ⟨by simpa using h1,h.1.1.1,h.1.1.2.symm,h.1.2.symm,h.2.symm⟩)
  ·split at h
   ·rename_i h1
    simp only [bL,lO,mU] at h
    exact .inr (.inr (.inl ⟨by simpa using h1,h.1.1.1.1,h.1.1.2,h.1.1.1.2,h.1.2.symm,h.2.symm⟩))
   ·split at h
    ·rename_i h1
     simp only [bL,lO,mU] at h
     exact .inr (.inr (.inr ⟨by simpa using h1,h.1.1.1.1,h.1.1.1.2,h.1.1.2,h.1.2.symm,h.2.symm⟩))
    ·cases h
theorem DT (c:kK):wg c=some (if mQ c then tj c else []):=by
 unfold wg
 rw [uw]
 simp only [aA]
 cases h:mQ c with
 | false=>simp
 | true=>
  have i:=EZ h
  have j:=pa i
  simp only [bR,aB,aH,aJ]
  have hk:0≤c.Kind∧c.Kind < 128:=by rcases rT h with h | h | h | h <;> omega
  rw [Dv hk.1 hk.2 fb]
  simp only [aA]
  rw [Il i fb]
  simp only [aA,rC,rO]
  rcases rT h with ⟨k,h1,_⟩ | ⟨k,h1,_⟩ | ⟨k,h1,a,_⟩ | ⟨k,h1,a,_⟩
  ·have d:=rA h1
   simp only [k,aO,aJ,KW h1 (show (([]++[(1:Int)])++uO c.Head).length≤10000 by simp; omega),aA]
   rw [HU (by simp [xy]; omega)]
   simp [tj,CX,k]
  ·have d:=pa h1
   simp only [k,show ((2:Int)==1)=false from rfl,aB,aO,aJ,aH,Il h1 (show (([]++[(2:Int)])++uO c.Head).length≤1000 by simp; omega),aA]
   rw [HU fo]
   simp [tj,CX,k]
  ·have d:=pa h1
   have g:=rA a
   simp only [k,show ((3:Int)==1)=false from rfl,show ((3:Int)==2)=false from rfl,aB,aO,aJ,aH,Il h1 (show (([]++[(3:Int)])++uO c.Head).length≤1000 by simp; omega),aA]
   rw [KW a fo]
   simp only [aA]
   rw [HU (by simp [xy]; omega)]
   simp [tj,CX,k]
  ·have d:=pa h1
   have g:=pa a
   simp only [k,show ((4:Int)==1)=false from rfl,show ((4:Int)==2)=false from rfl,show ((4:Int)==3)=false from rfl,aB,aO,aJ,aH,Il h1 (show (([]++[(4:Int)])++uO c.Head).length≤1000 by simp; omega),aA]
   rw [Il a fo]
   simp only [aA]
   rw [HU fo]
   simp [tj,CX,k]
def mH (l:List Int):ByteArray:=⟨(xO l).toArray⟩
theorem sW (l:List Int):(mH l).data.toList=xO l:=rfl
theorem NJ:∀(l:List Int) (r:ByteArray),(l.foldl (λr n=>r.push (UInt8.ofNat n.toNat)) r).data.toList=r.data.toList++xO l
 | [],r=>by simp [xO]
 | x::l,r=>by
  rw [fA,NJ l]
  show ((r.data.push _).toList)++_=_
  simp [xO]
theorem uy (l:List Int):su l=mH l:=Bv (by unfold su; rw [NJ]; rfl)
theorem vc (l:List Int):(mH l).size=l.length:=by rw [yq,sW]; simp [xO]
theorem Uq (a b:List Int):xO (a++b)=xO a++xO b:=by simp [xO]
theorem pN (a b:List Int) (h:a.length+b.length≤1000000):xV (mH a) (mH b)=some (mH (a++b)):=by
 unfold xV
 rw [aN]
 ·congr 1
  refine Bv ?_
  rw [sW,Uq,←sW a,←sW b]
  exact ByteArray.toList_data_append▸rfl
 ·rw [vc,vc]
  show ¬(_ > (9223372036854775807:Int))
  omega
theorem I7 (s:ByteArray):mH (wL s)=s:=Bv (by rw [sW]; simp [xO,wL,gk])
theorem Dz {n:Int} (a:0≤n) (h1:n < 128):ra n=some (mH [n]):=by
 have hw:IntKind.u8.wrap n=n:=by
  obtain ⟨k,rfl⟩:∃k:Nat,n=k:=⟨n.toNat,eR⟩
  have:∀k:Nat,k < 128→IntKind.u8.wrap (k:Int)=(k:Int):=by decide +kernel
  exact this k eR
 unfold ra
 rw [nV,sU,aN fo,hw,uy,show zS=mH [] from rfl,pN _ _ fb]
 rfl
theorem KV {s:ByteArray} (h:oM s=true):tN s=some (mH (AI s)):=by
 have h1:=rA h
 unfold tN
 rw [Dz eR eR]
 simp only [aA]
 have:=pN [(s.size:Int)] (wL s) (by rw [tP]; simp; omega)
 rw [I7] at this
 rw [this]
 simp [AI]
theorem Gm {r:kL} (h:nk r=true):xY r=some (mH (uO r)):=by
 simp only [nk,bL] at h
 have h1:=rA h.1
 have a:=rA h.2
 unfold xY
 rw [KV h.1,KV h.2]
 simp only [aA]
 rw [pN _ _ (by simp [xy]; omega)]
 rfl
theorem Dg (c:kK):yZ c=some (mH (if mQ c then tj c else [])):=by
 unfold yZ
 rw [wY]
 simp only [aA]
 cases h:mQ c with
 | false=>rfl
 | true=>
  have i:=EZ h
  have j:=pa i
  simp only [bR,aB,aH,aJ]
  have hk:0≤c.Kind∧c.Kind < 128:=by rcases rT h with h | h | h | h <;> omega
  unfold yY
  rw [Dz hk.1 hk.2,Gm i]
  simp only [aA]
  rw [pN _ _ fo]
  simp only [aA]
  rcases rT h with ⟨k,h1,_⟩ | ⟨k,h1,_⟩ | ⟨k,h1,a,_⟩ | ⟨k,h1,a,_⟩
  ·have d:=rA h1
   simp only [k,aO,aJ,KV h1,aA]
   rw [pN _ _ (by simp [xy]; omega)]
   simp [tj,CX,k]
  ·have d:=pa h1
   simp only [k,show ((2:Int)==1)=false from rfl,show ((2:Int)==3)=false from rfl,show ((2:Int)==4)=false from rfl,aB,aH,Gm h1,aA]
   rw [pN _ _ fo]
   simp [tj,CX,k]
  ·have d:=pa h1
   have g:=rA a
   simp only [k,show ((3:Int)==1)=false from rfl,show ((3:Int)==4)=false from rfl,aB,aO,aJ,aH,Gm h1,aA]
   rw [pN _ _ fo]
   simp only [aA,KV a]
   rw [pN _ _ (by simp [xy]; omega)]
   simp [tj,CX,k]
  ·have d:=pa h1
   have g:=pa a
   simp only [k,show ((4:Int)==1)=false from rfl,show ((4:Int)==3)=false from rfl,aB,aO,aJ,aH,Gm h1,aA]
   rw [pN _ _ fo]
   simp only [aA,Gm a]
   rw [pN _ _ fo]
   simp [tj,CX,k]
def QI (c:kK):List UInt8:=xO (if mQ c then tj c else [])
def Hm (a b:kK):Bool:=Op.bytesLess (QI a) (QI b)
theorem Cj (a b:kK):∃c,vk a b=some c∧(c < 0↔Hm a b=true):=by
 unfold vk
 rw [DT,DT]
 exact ⟨_,Z,Ih _ _⟩
theorem Fj (a b:kK):∃c,uu a b=some c∧(c < 0↔Hm a b=true):=by
 unfold uu
 rw [Dg,Dg]
 simp only [aA]
 have h:uJ (mH (if mQ a then tj a else [])) (mH (if mQ b then tj b else []))=Hm a b:=by rw [Dq]; rfl
 rw [h]
 cases Hm a b with
 | true=>exact ⟨_,Z,fs⟩
 | false=>
  simp only [aB,aH,Bool.false_or]
  cases d:mx (mH (if mQ a then tj a else [])) (mH (if mQ b then tj b else [])) with
  | true=>exact ⟨0,fb,fs⟩
  | false=>exact ⟨1,fb,fs⟩
theorem aba {a b:Int} (ha:0≤a∧a < 256) (c:0≤b∧b < 256) (h:a.toNat.toUInt8=b.toNat.toUInt8):a=b:=by
 have:=bI UInt8.toNat h
 simp only [ju,Nat.toUInt8] at this
 simp at this
 omega
theorem Ox:∀{a b:List Int},(∀x∈a,0≤x∧x < 256)→(∀x∈b,0≤x∧x < 256)→xO a=xO b→a=b
 | [],[],_,_,_=>rfl
 | [],_::_,_,_,h=>by simp [xO] at h
 | _::_,[],_,_,h=>by simp [xO] at h
 | x::a,y::b,ha,d,h=>by
  simp only [xO,bY,cA] at h
  rw [aba (ha x fb) (d y fb) h.1,Ox (λz c=>ha z (by simp [c])) (λz c=>d z (by simp [c])) h.2]
theorem EY {s:ByteArray} (h:oM s=true):∀x∈AI s,0≤x∧x < 256:=by
 have h1:=rA h
 intro x a
 rcases aS.1 a with rfl | a
 ·omega
 ·simp only [wL,bW] at a
  obtain ⟨b,_,rfl⟩:=a
  have:=jt b
  omega
theorem Cp {r:kL} (h:nk r=true):∀x∈uO r,0≤x∧x < 256:=by
 simp only [nk,bL] at h
 intro x a
 rcases aX.1 a with a | a
 ·exact EY h.1 x a
 ·exact EY h.2 x a
theorem HC {c:kK} (h:mQ c=true):∀x∈tj c,0≤x∧x < 256:=by
 intro x a
 rcases aS.1 a with rfl | a
 ·rcases rT h with h | h | h | h <;> omega
 ·rcases aX.1 a with a | a
  ·exact Cp (EZ h) x a
  ·unfold CX at a
   rcases rT h with ⟨k,h1,_⟩ | ⟨k,h1,_⟩ | ⟨k,h1,d,_⟩ | ⟨k,h1,d,_⟩
   ·rw [aP k] at a; exact EY h1 x a
   ·rw [aN eR,aP k] at a; exact Cp h1 x a
   ·rw [aN eR,aN eR,aP k] at a
    rcases aX.1 a with a | a
    ·exact Cp h1 x a
    ·exact EY d x a
   ·rw [aN eR,aN eR,aN eR] at a
    rcases aX.1 a with a | a
    ·exact Cp h1 x a
    ·exact Cp d x a
theorem UR {s t:ByteArray} (h:wL s=wL t):s=t:=by rw [←I7 s,h,I7]
theorem Hg {s t:ByteArray} {X Y:List Int} (h:AI s++X=AI t++Y):s=t∧X=Y:=by
 simp only [AI,cH,cA] at h
 obtain ⟨h1,a⟩:=h
 have c:(wL s).length=(wL t).length:=by rw [tP,tP]; omega
 have:=List.append_inj a c
 exact ⟨UR this.1,this.2⟩
theorem Fc {a b:kL} {X Y:List Int} (h:uO a++X=uO b++Y):a=b∧X=Y:=by
 simp only [uO,aQ] at h
 obtain ⟨h1,d⟩:=Hg h
 obtain ⟨c,g⟩:=Hg d
 exact ⟨by cases a; cases b; simp at h1 c; simp [h1,c],g⟩
theorem Vy {a b:kK} (ha:mQ a=true) (q:mQ b=true) (h:tj a=tj b):a=b:=by
 simp only [tj,cA] at h
 obtain ⟨hk,o⟩:=h
 obtain ⟨n,h⟩:=Fc o
 clear o
 have j:∀{X Y:List Int},X=Y→X++[]=Y++[]:=λh=>by rw [h]
 unfold CX at h
 obtain ⟨y,p,A,v,w,t⟩:=a
 obtain ⟨z,s,G,bb,x,u⟩:=b
 simp only at hk n h
 subst hk n
 rcases rT ha with ⟨k,h1,d,g,c⟩ | ⟨k,h1,d,g,c⟩ | ⟨k,h1,d,g,c,i⟩ | ⟨k,h1,d,g,c,i⟩ <;>
 rcases rT q with ⟨k',g1,g2,g3,g4⟩ | ⟨k',g1,g2,g3,g4⟩ | ⟨k',g1,g2,g3,g4,g5⟩ | ⟨k',g1,g2,g3,g4,g5⟩ <;> simp only at k k' d g c g2 g3 g4 <;> (try omega)
 ·rw [aP k,aP k] at h
  simp [Hg (j h),d,g,c,g2,g3,g4]
 ·rw [aN eR,aP k,aN eR,aP k] at h
  simp [Fc (j h),d,g,c,g2,g3,g4]
 ·rw [aN eR,aN eR,aP k,aN eR,aN eR,aP k] at h
  obtain ⟨q1,q2⟩:=Fc h
  simp only at i g5
  simp [q1,Hg (j q2),c,i,g4,g5]
 ·rw [aN eR,aN eR,aN eR,aN eR,aN eR,aN eR] at h
  obtain ⟨q1,q2⟩:=Fc h
  simp only at i g5
  simp [q1,Fc (j q2),c,i,g4,g5]
theorem Iv:FL (λa b=>Hm a b=true) (λc=>mQ c=true):=by
 refine ⟨λx _ h=>?_,λx y z _ _ _ h1 i=>De _ _ _ h1 i,λx y d g=>?_⟩
 ·unfold Hm at h; rw [As] at h; cases h
 ·rcases GG (QI x) (QI y) with h | h | h
  ·exact .inl h
  ·refine .inr (.inl (Vy d g ?_))
   unfold QI at h
   rw [aP d,aP g] at h
   exact Ox (HC d) (HC g) h
  ·exact .inr (.inr h)
section
variable {c:Formula→Formula→Int} {G:Formula→Prop} {f:Formula×Formula→Option Int}
theorem UB (x:Formula):(⟨x.Op,x.K,x.kL,x.Kids⟩:Formula)=x:=by cases x; rfl
abbrev pI (c:Formula→Formula→Int) (x y:Formula):Bool:=decide (c x y < 0)
abbrev H7 (f:Formula×Formula→Option Int) (c:Formula→Formula→Int) (G:Formula→Prop):Prop:=∀x y,G x→G y→f (x,y)=some (c x y)
theorem aco (A:H7 f c G) (pre:List Formula) (x:Formula) (J:G x):∀(k:Nat) (P S:List Formula) (n:Nat) (j a:Int),P.length=k→k < n→(∀y∈P,G y)→(pre++(P++x::S)).length≤1000000→j=((pre.length+P.length:Nat):Int)→a=(pre.length:Int)→
  ∃P1 P2,P=P1++P2∧nx a f n (pre++(P++x::S)) j=some (pre++(P1++x::(P2++S)))∧(∀P' z,P1=P'++[z]→pI c x z=false)∧(∀y P',P2=y::P'→pI c x y=true):=by
 intro k
 induction k with
 | zero=>
  intro P S n j a hk I g p i ha
  obtain rfl:=bF hk
  obtain ⟨n,rfl⟩:=aW (by omega:n≠0)
  refine ⟨[],[],Z,?_,fb,fb⟩
  rw [nx]
  have:¬(j > a):=by rw [i,ha]; simp
  simp [this]
 | succ k ih=>
  intro P S n j a hk I g p i ha
  rcases dt P with rfl | ⟨P',z,rfl⟩
  ·simp at hk
  simp only [dR,aF,aM,bZ] at hk i p g ⊢
  obtain ⟨n,rfl⟩:=aW (by omega:n≠0)
  have o:j > a:=by omega
  have q:pre++(P'++[z]++x::S)=(pre++P')++z::x::S:=by simp
  have hw:wi0 .i64 (j-1)=((pre.length+P'.length:Nat):Int):=by rw [mr eR eR]; omega
  have i1:mT ((pre++P')++z::x::S) j=some x:=by
   rw [show (pre++P')++z::x::S=(pre++P'++[z])++x::S by simp]
   exact ov _ _ _ _ fo
  have i2:mT ((pre++P')++z::x::S) ((pre.length+P'.length:Nat):Int)=some z:=ov _ _ _ _ fb
  have M:G z:=g z fb
  have w:∀y∈P',G y:=λy L=>g y (by simp [L])
  have R:j.toNat=pre.length+P'.length+1:=by omega
  rw [nx,q]
  simp only [o,cD,aJ,i1,hw,i2,aA,A x z J M]
  by_cases h:c x z < 0
  ·simp only [h,cD,aJ]
   have s1:((pre++P')++z::x::S).set j.toNat z=(pre++P')++z::z::S:=by
    have:=RQ (pre++P'++[z]) S x z j.toNat fo
    simpa only [aQ,iz,cH,bN] using this
   have s2:((pre++P')++z::z::S).set (pre.length+P'.length) x=(pre++P')++x::z::S:=by
    exact RQ (pre++P') (z::S) z x _ fb
   have i3:mT ((pre++P')++z::z::S) ((pre.length+P'.length:Nat):Int)=some z:=ov _ _ _ _ fb
   rw [s1,i3,aA,dZ,UB,s2]
   have s:(pre++P')++x::z::S=pre++(P'++x::(z::S)):=by simp
   obtain ⟨P1,P2,h1,t,u,v⟩:=ih P' (z::S) n ((pre.length+P'.length:Nat):Int) a eR eR w fo Z ha
   rw [s,t]
   refine ⟨P1,P2++[z],by rw [h1]; simp,fb,u,?_⟩
   intro y Q d
   cases P2 with
   | nil=>
    simp only [bN,cA] at d
    rw [←d.1]; simp [pI,h]
   | cons O P2=>
    simp only [cH,cA] at d
    rw [←d.1]; exact v O P2 Z
  ·simp only [h,cE,aB,aH]
   refine ⟨P'++[z],[],fb,fb,?_,fb⟩
   intro Q y d
   have:=List.append_inj' d Z
   simp only [cA,eT] at this
   rw [←this.2]; simp [pI,h]
theorem Yr (h:SWO (pI c)) (P:H7 f c G) (pre post:List Formula) (a b:Int) (ha:a=(pre.length:Int)):∀(S t:List (Formula×Nat)) (n:Nat) (i:Int),
  S.length < n→sf (pI c) t→(∀x∈t,∀y∈S,x.2 < y.2)→S.Pairwise (λx y=>x.2 < y.2)→(∀x∈t++S,G x.1)→(pre++(t.map (·.1)++(S.map (·.1)++post))).length≤1000000→
  i=((pre.length+t.length:Nat):Int)→b=((pre.length+t.length+S.length:Nat):Int)→
  ∃u,nl b a f n (pre++(t.map (·.1)++(S.map (·.1)++post))) i=some (pre++(u.map (·.1)++post))∧sf (pI c) u∧u.Perm (t++S)
 | [],t,n,i,L,M,h1,O,w,J,hi,A=>by
  obtain ⟨n,rfl⟩:=aW (by simp at L; omega:n≠0)
  rw [nl]
  simp only [bZ] at A
  have:¬(i < b):=by omega
  simp only [this,cE,aB,aH]
  exact ⟨t,fb,M,fb⟩
 | s::S,t,n,i,L,M,h1,O,w,J,hi,A=>by
  simp only [aM] at L A
  obtain ⟨n,rfl⟩:=aW (by omega:n≠0)
  rw [nl]
  have I:i < b:=by omega
  simp only [I,cD,aJ]
  have k:=J
  simp only [aF,dw,aM] at k
  obtain ⟨P1,P2,Q,R,T,U⟩:=aco P pre s.1 (w s fb) (t.map (·.1)).length (t.map (·.1)) (S.map (·.1)++post) lP i a Z (by rw [nV]; simp; omega)
   (λy q=>by obtain ⟨p,hp,rfl⟩:=bW.1 q; exact w p (by simp [hp])) (by simpa using J) fo ha
  simp only [bY,cH]
  rw [R,aA]
  obtain ⟨t1,t2,rfl,q1,q2⟩:=List.map_eq_append_iff.1 Q
  have hlen:t1.length+t2.length=(t1++t2).length:=by simp
  have hw:wi0 .i64 (i+1)=((pre.length+(t1++s::t2).length:Nat):Int):=by rw [mr eR eR]; simp at hi ⊢; omega
  rw [hw]
  have o:sf (pI c) (t1++s::t2):=Og h M
   (λA' z b B' j v=>by
    simp only [cA] at v
    rw [←v.1]
    refine .inr ⟨T (A'.map (·.1)) z.1 (by rw [←q1,j]; simp),h1 z (by rw [j]; simp) s fb⟩)
   (λA' z b B' j v=>by
    have Y:z=s:=by
     cases A' with
     | nil=>simpa using j.symm
     | cons _ A'=>simp at j
    rw [Y]
    exact .inl (U b.1 (B'.map (·.1)) (by rw [←q2,v]; simp)))
  have g:=cW.1 O
  have W:pre++(P1++s.1::(P2++(S.map (·.1)++post)))=pre++((t1++s::t2).map (·.1)++(S.map (·.1)++post)):=by rw [←q1,←q2]; simp
  rw [W]
  obtain ⟨u,u1,u2,u3⟩:=Yr h P pre post a b ha S (t1++s::t2) n _ eR o
   (λx d y q=>by
    rcases aX.1 d with d | d
    ·exact h1 x (by simp [d]) y (by simp [q])
    ·rcases aS.1 d with rfl | d
     ·exact g.1 y q
     ·exact h1 x (by simp [d]) y (by simp [q]))
   g.2 (λx d=>w x (by
    simp only [aX,aS] at d ⊢
    rcases d with (d | d | d) | d
    ·exact .inl (.inl d)
    ·exact .inr (.inl d)
    ·exact .inl (.inr d)
    ·exact .inr (.inr d))) (by simp at k ⊢; omega) Z (by simp at A ⊢; omega)
  refine ⟨u,u1,u2,u3.trans ?_⟩
  simp only [aQ,cH]
  exact cQ t1 List.perm_middle.symm
theorem Tz (h:SWO (pI c)) (q:H7 f c G) (pre post:List Formula) (S:List (Formula×Nat)) (a b:Int) (o:S.Pairwise λx y=>x.2 < y.2) (p:∀x∈S,G x.1) (k:(pre++(S.map (·.1)++post)).length≤1000000) (ha:a=(pre.length:Int)) (j:b=((pre.length+S.length:Nat):Int)) :
  ∃u,oX (pre++(S.map (·.1)++post)) a b f=some (pre++(u.map (·.1)++post))∧sf (pI c) u∧u.Perm S:=by
 unfold oX
 have g:=k
 simp only [aF,dw] at g
 cases S with
 | nil=>
  refine ⟨[],?_,.nil,.nil⟩
  obtain ⟨n,t⟩:=aW (by rw [nV]; omega:lP≠0)
  rw [t,nl]
  have:¬(wi0 .i64 (a+1) < b):=by rw [mr eR eR]; simp at j; omega
  simp [this]
 | cons s S=>
  simp only [aM] at j g
  have d:=cW.1 o
  obtain ⟨u,w,z,A⟩:=Yr h q pre post a b ha S [s] lP (wi0 .i64 (a+1)) (by rw [nV]; omega) (gW _ _) (λx i y v=>by simp at i; rw [i]; exact d.1 y v) d.2
   (λx i=>p x (by simpa using i)) (by simp at k ⊢; omega) (by rw [mr eR eR]; simp; omega) fo
  exact ⟨u,by simpa using w,z,by simpa using A⟩
end
section
variable {c:Formula→Formula→Int} {G:Formula→Prop} {f:Formula×Formula→Option Int}
theorem pH {x:Int} (n:Nat) (h:x=(n:Int)) (a:n≤4000000):wi0 .i64 x=(n:Int):=by rw [h,mr eR eR]
theorem abc (p m q:List Formula) (a b N:Int):∀(k:Nat) (X1 X2 Y1 Y2:List Formula) (n:Nat) (i:Int),X2.length=k→Y2.length=k→X1.length=Y1.length→k < n→(p++(Y1++(X2++(m++(X1++(Y2++q)))))).length≤1000000→
  i=(X1.length:Int)→N=((X1.length+k:Nat):Int)→a=(p.length:Int)→b=((p.length+X1.length+k+m.length:Nat):Int)→
  nP N b a n (p++(Y1++(X2++(m++(X1++(Y2++q)))))) i=some (p++((Y1++Y2)++(m++((X1++X2)++q)))):=by
 intro k
 induction k with
 | zero=>
  intro X1 X2 Y1 Y2 n i h1 c u v o hi h ha j
  obtain rfl:=bF h1
  obtain rfl:=bF c
  obtain ⟨n,rfl⟩:=aW (by omega:n≠0)
  rw [nP]
  have:¬(i < N):=by omega
  simp [this]
 | succ k ih=>
  intro X1 X2 Y1 Y2 n i h1 c u v o hi h ha j
  cases X2 with
  | nil=>simp at h1
  | cons x X2=>
  cases Y2 with
  | nil=>simp at c
  | cons y Y2=>
  simp only [aM,Nat.add_right_cancel_iff] at h1 c
  obtain ⟨n,rfl⟩:=aW (by omega:n≠0)
  have g:=o
  simp only [aF,aM] at g
  have d:i < N:=by omega
  have w:wi0 .i64 (b+i)=(((p++Y1).length+1+(X2++(m++X1)).length:Nat):Int):=pH _ fo fo
  have z:wi0 .i64 (a+i)=((p++Y1).length:Int):=pH _ fo fo
  have A:wi0 .i64 (i+1)=((X1++[x]).length:Int):=pH _ fo fo
  have s:p++(Y1++(x::X2++(m++(X1++(y::Y2++q)))))=(p++Y1)++x::((X2++(m++X1))++y::(Y2++q)):=by simp
  have i1:mT ((p++Y1)++x::((X2++(m++X1))++y::(Y2++q))) (((p++Y1).length+1+(X2++(m++X1)).length:Nat):Int)=some y:=by
   have:=ov ((p++Y1)++x::(X2++(m++X1))) y (Y2++q) (((p++Y1).length+1+(X2++(m++X1)).length:Nat):Int) fo
   simpa using this
  have i2:mT ((p++Y1)++x::((X2++(m++X1))++y::(Y2++q))) ((p++Y1).length:Int)=some x:=ov _ _ _ _ Z
  rw [nP,s]
  simp only [d,cD,aJ,w,z,i1,i2,aA,dZ,A]
  have i3:mT (((p++Y1)++x::((X2++(m++X1))++y::(Y2++q))).set (p++Y1).length y) (((p++Y1).length+1+(X2++(m++X1)).length:Nat):Int)=some y:=by
   rw [KF]
   have:=ov ((p++Y1)++y::(X2++(m++X1))) y (Y2++q) (((p++Y1).length+1+(X2++(m++X1)).length:Nat):Int) fo
   simpa using this
  rw [i3,aA,UB,LR]
  have t:(p++Y1)++y::((X2++(m++X1))++x::(Y2++q))=p++((Y1++[y])++(X2++(m++((X1++[x])++(Y2++q))))):=by simp
  rw [t,ih (X1++[x]) X2 (Y1++[y]) Y2 n _ h1 c fo eR fo Z (by rw [h]; simp; omega) ha (by rw [j]; simp; omega)]
  simp
theorem TV (p m q X Y:List Formula) (a b N:Int) (h:X.length=Y.length) (d:(p++(X++(m++(Y++q)))).length≤1000000) (g:N=(X.length:Int)) (ha:a=(p.length:Int)) (i:b=((p.length+X.length+m.length:Nat):Int)) :
  oS (p++(X++(m++(Y++q)))) a b N f=some (p++(Y++(m++(X++q)))):=by
 unfold oS
 have c:=d
 simp only [aF] at c
 have:=abc p m q a b N X.length [] X [] Y lP 0 Z h.symm Z (by rw [nV]; omega) (by simpa using d) Z (by simpa using g) ha (by rw [i]; simp)
 simpa using this
theorem abt (M:Int):∀(k:Nat) (A B p q:List Formula) (n:Nat) (i j:Int),A.length+B.length≤k→0 < A.length→0 < B.length→k < n→(p++(A++(B++q))).length≤1000000→i=(A.length:Int)→j=(B.length:Int)→M=((p.length+A.length:Nat):Int)→
  ot M f n (p++(A++(B++q))) i j=some (p++(B++(A++q))):=by
 intro k
 induction k with
 | zero=>intro A B p q n i j h h1 v; omega
 | succ k ih=>
  intro A B p q n i j h h1 v O y hi o w
  obtain ⟨n,rfl⟩:=aW (by omega:n≠0)
  have c:=y
  simp only [aF] at c
  rw [ot]
  by_cases he:A.length=B.length
  ·have:(i != j)=false:=by rw [hi,o,he]; simp
   simp only [this,aB,aH]
   have d:wi0 .i64 (M-i)=(p.length:Int):=pH _ eR eR
   have:=TV (f:=f) p [] q A B (p.length:Int) M i he (by simpa using y) hi Z (by rw [w]; simp)
   simp only [bN] at this
   rw [d,this]; rfl
  ·have t:(i != j)=true:=by rw [hi,o]; simp; omega
   simp only [t,aJ]
   by_cases x:i > j
   ·simp only [x,cD,aJ]
    obtain ⟨X,Y,rfl,L⟩:=Bw (l:=A) (n:=B.length) eR
    simp only [aF] at hi h w c
    have d:wi0 .i64 (M-i)=(p.length:Int):=pH _ eR eR
    have s:=TV (f:=f) p Y q X B (p.length:Int) M j eR fo eR Z eR
    have g:p++(X++Y++(B++q))=p++(X++(Y++(B++q))):=by simp
    have u:wi0 .i64 (i-j)=(Y.length:Int):=pH _ eR eR
    rw [g,d,s,aA,u]
    have z:p++(B++(Y++(X++q)))=(p++B)++(Y++(X++q)):=by simp
    rw [z,ih Y X (p++B) q n _ j eR eR eR eR fo Z eR fo]
    simp
   ·simp only [x,cE,aB,aH]
    obtain ⟨a,V,rfl,G⟩:=Bw (l:=B) (n:=B.length-A.length) eR
    simp only [aF] at o h c G v he
    have d:wi0 .i64 (M-i)=(p.length:Int):=pH _ eR eR
    have I:wi0 .i64 (M+j)=((p.length+A.length+(a.length+V.length):Nat):Int):=pH _ eR eR
    have J:wi0 .i64 (((p.length+A.length+(a.length+V.length):Nat):Int)-i)=((p.length+A.length+a.length:Nat):Int):=pH _ eR eR
    have s:=TV (f:=f) p a q A V (p.length:Int) ((p.length+A.length+a.length:Nat):Int) i eR fo hi Z Z
    have g:p++(A++(a++V++q))=p++(A++(a++(V++q))):=by simp
    have u:wi0 .i64 (j-i)=(a.length:Int):=pH _ eR eR
    rw [g,d,I,J,s,aA,u]
    rw [show p++(V++(a++(A++q)))=p++(V++(a++(A++q))) from rfl,ih V a p (A++q) n i _ eR eR eR eR fo eR Z eR]
    simp
theorem rot (A B p q:List Formula) (a m b:Int) (h1:0 < A.length) (g:0 < B.length) (d:(p++(A++(B++q))).length≤1000000) (ha:a=(p.length:Int)) (hm:m=((p.length+A.length:Nat):Int)) (h:b=((p.length+A.length+B.length:Nat):Int)) :
  oO (p++(A++(B++q))) a m b f=some (p++(B++(A++q))):=by
 unfold oO
 have c:=d
 simp only [aF] at c
 rw [pH A.length eR eR,pH B.length eR eR]
 exact abt m (A.length+B.length) A B p q lP _ _ (aZ _) h1 g (by rw [nV]; omega) d Z Z hm
end
section
variable {c:Formula→Formula→Int} {G:Formula→Prop} {f:Formula×Formula→Option Int}
theorem Iw {x:Int} (n:Nat) (h:x=(n:Int)) (c:n≤4000000):wi0 .i64 (Int.fdiv (IntKind.u64.wrap (wi0 .i64 x)) (2 ^ min (Int.toNat 1) (IntKind.bits .u64)))=((n / 2:Nat):Int):=by
 rw [pH n h c]
 have a:IntKind.u64.wrap (n:Int)=(n:Int):=by
  simp only [IntKind.wrap,IntKind.signed,IntKind.bits]
  simp
  omega
 rw [a,show (2 ^ min (Int.toNat 1) (IntKind.bits .u64):Int)=2 from by decide,gv _ fs,mr eR eR]
 omega
abbrev Ask (a0:List Formula) (f:Formula×Formula→Option Int) (p q:Int) (b:Bool):Prop:=∃x y r,mT a0 p=some x∧mT a0 q=some y∧f (x,y)=some r∧decide (r < 0)=b
theorem bs1 (a0:List Formula) (p:Int) (a:Nat→Bool) (lo hi:Nat) (J:hi≤1000000) (u:∀h,lo≤h→h < hi→Ask a0 f (h:Int) p (a h)):∀(d n i j:Nat),j-i≤d→d < n→lo≤i→i≤j→j≤hi→(i=lo∨a (i-1)=true)→(j=hi∨a j=false)→
  ∃t M,lo≤t∧t≤hi∧(t=lo∨a (t-1)=true)∧(t=hi∨a t=false)∧mZ a0 p f n (i:Int) (j:Int)=mZ a0 p f (M+1) (t:Int) (t:Int):=by
 intro d
 induction d with
 | zero=>
  intro n i j h1 L c G g k o
  obtain ⟨n,rfl⟩:=aW (by omega:n≠0)
  obtain rfl:i=j:=by omega
  exact ⟨i,n,c,g,k,o,Z⟩
 | succ d ih=>
  intro n i j h1 L c G g k o
  obtain ⟨n,rfl⟩:=aW (by omega:n≠0)
  by_cases q:i=j
  ·subst q; exact ⟨i,n,c,g,k,o,Z⟩
  have I:=Iw (i+j) (x:=(i:Int)+(j:Int)) eR eR
  obtain ⟨x,y,r,v,w,z,A⟩:=u ((i+j) / 2) eR eR
  rw [mZ]
  have s:((i:Int) < (j:Int)):=by omega
  simp only [s,cD,aJ,I,v,w,z,A,aA]
  cases hp:a ((i+j) / 2)
  ·simp only [aB,aH]
   exact ih n i ((i+j) / 2) eR eR c eR eR k (.inr hp)
  ·simp only [aJ]
   rw [pH ((i+j) / 2+1) eR eR]
   exact ih n ((i+j) / 2+1) j eR eR eR eR g (.inr (by simpa using hp)) o
theorem bs3 (a0:List Formula) (a2:Int) (a:Nat→Bool) (lo hi:Nat) (I:hi≤1000000) (s:∀h,lo≤h→h < hi→Ask a0 f a2 (h:Int) (!a h)):∀(d n i j:Nat),j-i≤d→d < n→lo≤i→i≤j→j≤hi→(i=lo∨a (i-1)=true)→(j=hi∨a j=false)→
  ∃t L,lo≤t∧t≤hi∧(t=lo∨a (t-1)=true)∧(t=hi∨a t=false)∧na a0 a2 f n (i:Int) (j:Int)=na a0 a2 f (L+1) (t:Int) (t:Int):=by
 intro d
 induction d with
 | zero=>
  intro n i j h1 J c A g k o
  obtain ⟨n,rfl⟩:=aW (by omega:n≠0)
  obtain rfl:i=j:=by omega
  exact ⟨i,n,c,g,k,o,Z⟩
 | succ d ih=>
  intro n i j h1 J c A g k o
  obtain ⟨n,rfl⟩:=aW (by omega:n≠0)
  by_cases p:i=j
  ·subst p; exact ⟨i,n,c,g,k,o,Z⟩
  have G:=Iw (i+j) (x:=(i:Int)+(j:Int)) eR eR
  obtain ⟨x,y,r,u,v,w,z⟩:=s ((i+j) / 2) eR eR
  rw [na]
  have q:((i:Int) < (j:Int)):=by omega
  simp only [q,cD,aJ,G,u,v,w,z,aA,gE]
  cases hp:a ((i+j) / 2)
  ·simp only [aB,aH]
   exact ih n i ((i+j) / 2) eR eR c eR eR k (.inr hp)
  ·simp only [aJ]
   rw [pH ((i+j) / 2+1) eR eR]
   exact ih n ((i+j) / 2+1) j eR eR eR eR g (.inr (by simpa using hp)) o
theorem mv2 (x:Formula):∀(P Q R:List Formula) (n:Nat) (k i:Int),P.length < n→(Q++x::(P++R)).length≤1000000→k=(Q.length:Int)→i=((Q.length+P.length+1:Nat):Int)→nX i n (Q++x::(P++R)) k=some (Q++(P++x::R))
 | [],Q,R,n,k,i,a,c,hk,hi=>by
  obtain ⟨n,rfl⟩:=aW (by simp at a; omega:n≠0)
  simp only [aF,aM,bZ] at c hi
  rw [nX,pH Q.length eR eR]
  have:¬(k < (Q.length:Int)):=by omega
  simp [this]
 | y::P,Q,R,n,k,i,a,c,hk,hi=>by
  obtain ⟨n,rfl⟩:=aW (by simp at a; omega:n≠0)
  simp only [aF,aM] at c hi a
  have g:Q++x::(y::P++R)=Q++x::([]++y::(P++R)):=rfl
  have h:wi0 .i64 (k+1)=((Q.length+1+([]:List Formula).length:Nat):Int):=pH _ fo fo
  have i1:mT (Q++x::([]++y::(P++R))) ((Q.length+1+([]:List Formula).length:Nat):Int)=some y:=by
   have:=ov (Q++[x]) y (P++R) ((Q.length+1+([]:List Formula).length:Nat):Int) fb
   simpa using this
  have i2:mT (Q++x::([]++y::(P++R))) k=some x:=ov _ _ _ _ hk
  rw [nX,pH (Q.length+P.length+1) eR eR,g]
  have d:k < ((Q.length+P.length+1:Nat):Int):=by omega
  have kn:k.toNat=Q.length:=by omega
  simp only [d,cD,aJ,h,i1,i2,aA,kn]
  have i3:mT ((Q++x::([]++y::(P++R))).set Q.length y) ((Q.length+1+([]:List Formula).length:Nat):Int)=some y:=by
   rw [KF]
   have:=ov (Q++[y]) y (P++R) ((Q.length+1+([]:List Formula).length:Nat):Int) fb
   simpa using this
  rw [i3,aA,dZ,UB,LR]
  have:=mv2 x P (Q++[y]) R n ((Q.length+1+([]:List Formula).length:Nat):Int) i eR fo fb (by rw [hi]; simp; omega)
  simpa using this
theorem mv4 (x:Formula):∀(k:Nat) (S Q R:List Formula) (n:Nat) (j i:Int),S.length=k→k < n→(Q++(S++x::R)).length≤1000000→j=((Q.length+S.length:Nat):Int)→i=(Q.length:Int)→nW i n (Q++(S++x::R)) j=some (Q++x::(S++R)):=by
 intro k
 induction k with
 | zero=>
  intro S Q R n j i hk o g a hi
  obtain ⟨n,rfl⟩:=aW (by omega:n≠0)
  obtain rfl:=bF hk
  rw [nW]
  simp only [bZ,gZ] at a
  have:¬(j > i):=by omega
  simp [this]
 | succ k ih=>
  intro S Q R n j i hk o g a hi
  obtain ⟨n,rfl⟩:=aW (by omega:n≠0)
  rcases dt S with rfl | ⟨S,z,rfl⟩
  ·simp at hk
  simp only [dR,aF,aM,bZ] at hk a g ⊢
  have h:Q++(S++[z]++x::R)=(Q++S)++z::([]++x::R):=by simp
  have q:wi0 .i64 (j-1)=((Q++S).length:Int):=pH _ fo fo
  have c:j=(((Q++S).length+1+([]:List Formula).length:Nat):Int):=by rw [a]; simp; omega
  have i1:mT ((Q++S)++z::([]++x::R)) j=some x:=by
   have:=ov (Q++S++[z]) x R j (by rw [c]; simp; omega)
   simpa using this
  have i2:mT ((Q++S)++z::([]++x::R)) ((Q++S).length:Int)=some z:=ov _ _ _ _ Z
  rw [nW,h]
  have d:j > i:=by omega
  have p:j.toNat=(Q++S).length+1+([]:List Formula).length:=by omega
  simp only [d,cD,aJ,q,i1,i2,aA,p]
  have i3:mT (((Q++S)++z::([]++x::R)).set ((Q++S).length+1+([]:List Formula).length) z) ((Q++S).length:Int)=some z:=by
   have:((Q++S)++z::([]++x::R)).set ((Q++S).length+1+([]:List Formula).length) z=(Q++S)++z::(z::R):=by
    have:=RQ (Q++S++[z]) R x z ((Q++S).length+1+([]:List Formula).length) fo
    simpa using this
   rw [this]; exact ov _ _ _ _ Z
  rw [i3,aA,dZ,UB,U6]
  have:=ih S Q (z::R) n ((Q++S).length:Int) i eR eR fo fb hi
  simpa using this
end
section
variable {c:Formula→Formula→Int} {G:Formula→Prop} {f:Formula×Formula→Option Int}
theorem bs5 (a0:List Formula) (g a3 a2:Int) (rec:List Formula→Int→Int→Int→((Formula×Formula)→Option Int)→Option (List Formula)) (mid m p:Nat) (k:g+a3=((2*mid:Nat):Int)∨g+a3=((2*mid+1:Nat):Int)) (hm:a2=(m:Int)) (hp:p+1=mid+m) (c:Nat→Bool) (lo hi:Nat) (P:hi≤1000000) (R:mid≤1000000) (Q:mid+m≤2000000) (hle:hi≤p+1) (A:∀h,lo≤h→h < hi→Ask a0 f ((p-h:Nat):Int) (h:Int) (!c h)):∀(d n i j:Nat),j-i≤d→d < n→lo≤i→i≤j→j≤hi→(i=lo∨c (i-1)=true)→(j=hi∨c j=false)→
  ∃t U,lo≤t∧t≤hi∧(t=lo∨c (t-1)=true)∧(t=hi∨c t=false)∧mI a0 g a3 a2 f rec n (i:Int) (j:Int)=mI a0 g a3 a2 f rec (U+1) (t:Int) (t:Int):=by
 have a:wi0 .i64 (Int.fdiv (IntKind.u64.wrap (wi0 .i64 (g+a3))) (2 ^ min (Int.toNat 1) (IntKind.bits .u64)))=(mid:Int):=by
  rcases k with h | h
  ·rw [Iw _ h eR,show 2*mid / 2=mid by omega]
  ·rw [Iw _ h eR,show (2*mid+1) / 2=mid by omega]
 intro d
 induction d with
 | zero=>
  intro n i j h1 T q M s u v
  obtain ⟨n,rfl⟩:=aW (by omega:n≠0)
  obtain rfl:i=j:=by omega
  exact ⟨i,n,q,s,u,v,Z⟩
 | succ d ih=>
  intro n i j h1 T q M s u v
  obtain ⟨n,rfl⟩:=aW (by omega:n≠0)
  by_cases w:i=j
  ·subst w; exact ⟨i,n,q,s,u,v,Z⟩
  have O:=Iw (i+j) (x:=(i:Int)+(j:Int)) eR eR
  obtain ⟨x,y,r,G,I,J,L⟩:=A ((i+j) / 2) eR eR
  have W:wi0 .i64 ((mid:Int)+a2)=((mid+m:Nat):Int):=pH _ eR eR
  have Y:wi0 .i64 (((mid+m:Nat):Int)-1)=(p:Int):=pH _ eR eR
  have w3:wi0 .i64 ((p:Int)-(((i+j) / 2:Nat):Int))=((p-(i+j) / 2:Nat):Int):=pH _ eR eR
  rw [mI]
  have z:((i:Int) < (j:Int)):=by omega
  simp only [z,cD,aJ,O,a,W,Y,w3,G,I,J,L,aA,gE]
  cases o:c ((i+j) / 2)
  ·simp only [aB,aH]
   exact ih n i ((i+j) / 2) eR eR q eR eR u (.inr o)
  ·simp only [aJ]
   rw [pH ((i+j) / 2+1) eR eR]
   exact ih n ((i+j) / 2+1) j eR eR eR eR s (.inr (by simpa using o)) v
theorem aa4 (a0:List Formula) (c a3 a2:Int) (rec:List Formula→Int→Int→Int→((Formula×Formula)→Option Int)→Option (List Formula)) (mid m t n:Nat) (d:c+a3=((2*mid:Nat):Int)∨c+a3=((2*mid+1:Nat):Int)) (hm:a2=(m:Int)) (s:mid≤1000000) (o:mid+m≤2000000) (y:t≤mid+m) :
  mI a0 c a3 a2 f rec (n+1) (t:Int) (t:Int) =
   ((if t < m∧m < mid+m-t then oO a0 (t:Int) a2 ((mid+m-t:Nat):Int) f else some a0).bind λl=>((if c < (t:Int)∧t < mid then rec l c (t:Int) (mid:Int) f else some l).bind λl=>if mid < mid+m-t∧((mid+m-t:Nat):Int) < a3 then rec l (mid:Int) ((mid+m-t:Nat):Int) a3 f else some l)):=by
 have a:wi0 .i64 (Int.fdiv (IntKind.u64.wrap (wi0 .i64 (c+a3))) (2 ^ min (Int.toNat 1) (IntKind.bits .u64)))=(mid:Int):=by
  rcases d with h | h
  ·rw [Iw _ h eR,show 2*mid / 2=mid by omega]
  ·rw [Iw _ h eR,show (2*mid+1) / 2=mid by omega]
 have v:wi0 .i64 ((mid:Int)+a2)=((mid+m:Nat):Int):=pH _ eR eR
 have w:wi0 .i64 (((mid+m:Nat):Int)-(t:Int))=((mid+m-t:Nat):Int):=pH _ eR eR
 rw [mI]
 simp only [Int.lt_irrefl,cE,aB,aH,a,v,w,vn]
 subst hm
 have g:((t:Int) < (m:Int))=(t < m):=by simp
 have i:((m:Int) < ((mid+m-t:Nat):Int))=(m < mid+m-t):=by rw [gu]; omega
 have j:((t:Int) < (mid:Int))=(t < mid):=by simp
 have k:((mid:Int) < ((mid+m-t:Nat):Int))=(mid < mid+m-t):=by rw [gu]; omega
 simp only [g,i,j,k]
 have key:∀(p q:Prop) [Decidable p] [Decidable q] (A B:Option (List Formula)),((if decide p=true then some (decide q) else some false:Option Bool).bind λx=>if x=true then A else B)=if p∧q then A else B:=by
  intro p q _ _ A B
  by_cases hp:p <;> by_cases u:q <;> simp [hp,u]
 simp only [key]
theorem UM (p A q:List Formula) (h:Nat) (c:p.length≤h) (h1:h < p.length+A.length):∃x,A[h-p.length]? =some x∧mT (p++(A++q)) (h:Int)=some x:=by
 obtain ⟨x,a⟩:∃x,A[h-p.length]? =some x:=⟨_,dD eR⟩
 refine ⟨x,a,?_⟩
 rw [Ge,ft c,gF eR,a]
end
section
variable {c:Formula→Formula→Int} {G:Formula→Prop} {f:Formula×Formula→Option Int}
theorem I0 {α:Type} {P A':List α} {z:α} (S:List α) (h:P=A'++[z]):(P++S)[P.length-1]? =some z:=by subst h; simp
theorem ID {α:Type} {S B':List α} {z:α} (P:List α) (h:S=z::B'):(P++S)[P.length]? =some z:=by subst h; simp
theorem Dp {A:List (Formula×Nat)} {i:Nat} {z:Formula×Nat} (h:A[i]? =some z):(A.map (·.1))[i]? =some z.1:=by simp [h]
theorem abR (h:SWO (pI c)) (U:H7 f c G) (x:Formula×Nat) (B:List (Formula×Nat)) (pre post:List Formula) (a m b:Int) (M:sf (pI c) B) (ht:∀y∈B,x.2 < y.2) (w:∀y∈x::B,G y.1) (W:(pre++x.1::(B.map (·.1)++post)).length≤400000) (ha:a=(pre.length:Int)) (hm:m=((pre.length+1:Nat):Int)) (T:b=((pre.length+1+B.length:Nat):Int)) :
  ∃u,mZ (pre++x.1::(B.map (·.1)++post)) a f lP m b=some (pre++(u.map (·.1)++post))∧sf (pI c) u∧u.Perm (x::B):=by
 have p:=W
 simp only [aF,aM,dw] at p
 let g:Nat→Bool:=λk=>match (B.map (·.1))[k-(pre.length+1)]? with | some y=>pI c y x.1 | none=>false
 have j:∀k,pre.length+1≤k→k < pre.length+1+B.length→Ask (pre++x.1::(B.map (·.1)++post)) f (k:Int) a (g k):=by
  intro k h1 h2
  obtain ⟨y,s,A⟩:=UM (pre++[x.1]) (B.map (·.1)) post k fo fo
  have I:mT (pre++x.1::(B.map (·.1)++post)) (k:Int)=some y:=by simpa using A
  have J:mT (pre++x.1::(B.map (·.1)++post)) a=some x.1:=ov _ _ _ _ ha
  have hy:G y:=by
   obtain ⟨q,Y,rfl⟩:=bW.1 (dE s)
   exact w q (by simp [Y])
  refine ⟨y,x.1,_,I,J,U y x.1 hy (w x fb),?_⟩
  simp only [aF,aM,bZ] at s
  simp only [g,s]
 obtain ⟨t,n',t1,t2,t3,t4,e⟩:=bs1 (f:=f) _ a g (pre.length+1) (pre.length+1+B.length) eR j B.length lP (pre.length+1) (pre.length+1+B.length) eR (by rw [nV]; omega) (aZ _) eR (aZ _) (.inl Z) (.inl Z)
 rw [hm,T,e,mZ]
 simp only [Int.lt_irrefl,cE,aB,aH,vn]
 obtain ⟨P,S,rfl,O⟩:=Bw (l:=B) (n:=t-(pre.length+1)) eR
 simp only [aF] at p t2 t4
 have L:pre++x.1::((P++S).map (·.1)++post)=pre++x.1::(P.map (·.1)++(S.map (·.1)++post)):=by simp
 rw [L,mv2 x.1 (P.map (·.1)) pre (S.map (·.1)++post) lP a (t:Int) (by rw [nV]; simp; omega) fo ha fo]
 refine ⟨P++x::S,fb,Og h M ?_ ?_,fL⟩
 ·intro A' z v B' i d
  simp only [cA] at d
  rw [←d.1]
  have Q:0 < P.length:=by rw [i]; simp
  have hp:g (t-1)=true:=by
   rcases t3 with t3 | t3
   ·omega
   ·exact t3
  have o:=Dp (I0 S i)
  rw [show P.length-1=t-1-(pre.length+1) by omega] at o
  simp only [g,o] at hp
  exact .inl hp
 ·intro A' z v B' i d
  have hz:z=x:=by
   cases A' with
   | nil=>simpa using i.symm
   | cons _ A'=>simp at i
  rw [hz]
  have R:0 < S.length:=by rw [d]; simp
  have hp:g t=false:=by
   rcases t4 with t4 | t4
   ·omega
   ·exact t4
  have o:=Dp (ID P d)
  rw [O] at o
  simp only [g,o] at hp
  exact .inr ⟨hp,ht v (by rw [d]; simp)⟩
theorem ab1 (h:SWO (pI c)) (T:H7 f c G) (y:Formula×Nat) (A:List (Formula×Nat)) (pre post:List Formula) (a m:Int) (M:sf (pI c) A) (Y:∀x∈A,x.2 < y.2) (v:∀x∈y::A,G x.1) (U:(pre++(A.map (·.1)++y.1::post)).length≤400000) (ha:a=(pre.length:Int)) (hm:m=((pre.length+A.length:Nat):Int)) :
  ∃u,na (pre++(A.map (·.1)++y.1::post)) m f lP a m=some (pre++(u.map (·.1)++post))∧sf (pI c) u∧u.Perm (A++[y]):=by
 have p:=U
 simp only [aF,aM,dw] at p
 let i:Nat→Bool:=λk=>match (A.map (·.1))[k-pre.length]? with | some x=>!pI c y.1 x | none=>false
 have j:∀k,pre.length≤k→k < pre.length+A.length→Ask (pre++(A.map (·.1)++y.1::post)) f m (k:Int) (!i k):=by
  intro k h1 h2
  obtain ⟨x,s,I⟩:=UM pre (A.map (·.1)) (y.1::post) k h1 fo
  have J:mT (pre++(A.map (·.1)++y.1::post)) m=some y.1:=by
   have:=ov (pre++A.map (·.1)) y.1 post m (by rw [hm]; simp)
   simpa using this
  have hx:G x:=by
   obtain ⟨q,W,rfl⟩:=bW.1 (dE s)
   exact v q (by simp [W])
  refine ⟨y.1,x,_,J,I,T y.1 x (v y fb) hx,?_⟩
  simp only [i,s,gE]
 obtain ⟨t,n',t1,t2,t3,t4,e⟩:=bs3 (f:=f) _ m i pre.length (pre.length+A.length) eR j A.length lP pre.length (pre.length+A.length) eR (by rw [nV]; omega) (aZ _) eR (aZ _) (.inl Z) (.inl Z)
 rw [←hm,←ha] at e
 rw [e,na]
 simp only [Int.lt_irrefl,cE,aB,aH,vn]
 obtain ⟨P,S,rfl,O⟩:=Bw (l:=A) (n:=t-pre.length) eR
 simp only [aF] at p t2 t4 hm
 have L:pre++((P++S).map (·.1)++y.1::post)=(pre++P.map (·.1))++(S.map (·.1)++y.1::post):=by simp
 rw [L,mv4 y.1 S.length (S.map (·.1)) (pre++P.map (·.1)) post lP m (t:Int) fb (by rw [nV]; omega) fo (by rw [hm]; simp; omega) fo]
 refine ⟨P++y::S,fb,Og h M ?_ ?_,List.perm_middle.trans (gr y (P++S)).symm⟩
 ·intro A' z w B' d g
  simp only [cA] at g
  rw [←g.1]
  have Q:0 < P.length:=by rw [d]; simp
  have hp:i (t-1)=true:=by
   rcases t3 with t3 | t3
   ·omega
   ·exact t3
  have o:=Dp (I0 S d)
  rw [show P.length-1=t-1-pre.length by omega] at o
  simp only [i,o,gn] at hp
  exact .inr ⟨hp,Y z (by rw [d]; simp)⟩
 ·intro A' z w B' d g
  have hz:z=y:=by
   cases A' with
   | nil=>simpa using d.symm
   | cons _ A'=>simp at d
  rw [hz]
  have R:0 < S.length:=by rw [g]; simp
  have hp:i t=false:=by
   rcases t4 with t4 | t4
   ·omega
   ·exact t4
  have o:=Dp (ID P g)
  rw [O] at o
  simp only [i,o,Bool.not_eq_false'] at hp
  exact .inl hp
theorem WV {α:Type} {A1 A2 B1 B2 C1 C2:List α} (a:C1.Perm (A1++B1)) (c:C2.Perm (A2++B2)):(C1++C2).Perm ((A1++A2)++(B1++B2)):=by
 refine (a.append c).trans ?_
 simp only [aQ]
 refine cQ A1 ?_
 exact gm B1 A2 B2
def YO (c:Formula→Formula→Int) (A B:List Formula) (a d p q:Nat):Bool:=match A[q-a]?,B[p-q-d]? with | some x,some y=>!pI c y x | _,_=>false
theorem Qg {A B:List Formula} {a d p q:Nat} {x y:Formula} (h1:A[q-a]? =some x) (g:B[p-q-d]? =some y):YO c A B a d p q=!pI c y x:=by simp only [YO,h1,g]
theorem acr (o:H7 f c G) (A B:List (Formula×Nat)) (pre post:List Formula) (a p:Nat) (s:a=pre.length+A.length) (i:∀x∈A++B,G x.1) (q:Nat) (q1:pre.length≤q) (q2:q < a) (q3:a≤p-q) (q4:p-q < a+B.length) :
  Ask (pre++(A.map (·.1)++(B.map (·.1)++post))) f ((p-q:Nat):Int) (q:Int) (!YO c (A.map (·.1)) (B.map (·.1)) pre.length a p q):=by
 obtain ⟨x,h,j⟩:=UM pre (A.map (·.1)) (B.map (·.1)++post) q q1 fo
 obtain ⟨y,d,k⟩:=UM (pre++A.map (·.1)) (B.map (·.1)) post (p-q) fo fo
 have t:G x:=by
  obtain ⟨z,g,rfl⟩:=bW.1 (dE h)
  exact i z (by simp [g])
 have u:G y:=by
  obtain ⟨z,g,rfl⟩:=bW.1 (dE d)
  exact i z (by simp [g])
 have n:mT (pre++(A.map (·.1)++(B.map (·.1)++post))) ((p-q:Nat):Int)=some y:=by simpa using k
 refine ⟨y,x,_,n,j,o y x u t,?_⟩
 rw [show p-q-(pre++A.map (·.1)).length=p-q-a by simp; omega] at d
 rw [Qg h d,gE]
abbrev Mer (c:Formula→Formula→Int) (G:Formula→Prop) (f:Formula×Formula→Option Int) (rec:List Formula→Int→Int→Int→((Formula×Formula)→Option Int)→Option (List Formula)) (k:Nat):Prop :=
 ∀(A B:List (Formula×Nat)) (pre post:List Formula) (a m b:Int),A.length+B.length≤k→0 < A.length→0 < B.length→sf (pI c) A→sf (pI c) B→
  (∀x∈A,∀y∈B,x.2 < y.2)→(∀x∈A++B,G x.1)→(pre++(A.map (·.1)++(B.map (·.1)++post))).length≤400000→a=(pre.length:Int)→m=((pre.length+A.length:Nat):Int)→b=((pre.length+A.length+B.length:Nat):Int)→
  ∃u,rec (pre++(A.map (·.1)++(B.map (·.1)++post))) a m b f=some (pre++(u.map (·.1)++post))∧sf (pI c) u∧u.Perm (A++B)
theorem aaW (h:SWO (pI c)) {rec:List Formula→Int→Int→Int→((Formula×Formula)→Option Int)→Option (List Formula)} {k:Nat} (ih:Mer c G f rec k) (A1 A2 B1 B2:List (Formula×Nat)) (pre post:List Formula) (a m b:Int) (mid d t:Nat) (O:d=pre.length+(A1.length+A2.length)) (Q:mid=(pre.length+(d+(B1.length+B2.length))) / 2) (L:A1.length=t-pre.length) (M:B1.length=mid-t) (R:pre.length≤t) (T:t≤mid) (U:t≤d) (hk:A1.length+A2.length+(B1.length+B2.length)≤k+1) (P:2≤A1.length+A2.length+(B1.length+B2.length)) (o:sf (pI c) (A1++A2)) (p:sf (pI c) (B1++B2)) (J:∀x∈A1++A2,∀y∈B1++B2,x.2 < y.2) (I:∀x∈(A1++A2)++(B1++B2),G x.1) (hl:pre.length+(A1.length+A2.length+(B1.length+B2.length+post.length))≤400000) (ha:a=(pre.length:Int)) (hm:m=(d:Int)) (hb:b=((d+(B1.length+B2.length):Nat):Int)) (W:Lk (pI c) A1 B2) (Y:Lk (pI c) B1 A2) :
  ∃u,((if t < d∧d < mid+d-t then oO (pre++((A1++A2).map (·.1)++((B1++B2).map (·.1)++post))) (t:Int) m ((mid+d-t:Nat):Int) f else some (pre++((A1++A2).map (·.1)++((B1++B2).map (·.1)++post)))).bind λl=>
   ((if a < (t:Int)∧t < mid then rec l a (t:Int) (mid:Int) f else some l).bind λl=>if mid < mid+d-t∧((mid+d-t:Nat):Int) < b then rec l (mid:Int) ((mid+d-t:Nat):Int) b f else some l))=some (pre++(u.map (·.1)++post))∧sf (pI c) u∧u.Perm ((A1++A2)++(B1++B2)):=by
 have r1:(if t < d∧d < mid+d-t then oO (pre++((A1++A2).map (·.1)++((B1++B2).map (·.1)++post))) (t:Int) m ((mid+d-t:Nat):Int) f else some (pre++((A1++A2).map (·.1)++((B1++B2).map (·.1)++post)))) =
   some (pre++(A1.map (·.1)++(B1.map (·.1)++(A2.map (·.1)++(B2.map (·.1)++post))))):=by
  by_cases i:t < d∧d < mid+d-t
  ·rw [aP i]
   have:=rot (f:=f) (A2.map (·.1)) (B1.map (·.1)) (pre++A1.map (·.1)) (B2.map (·.1)++post) (t:Int) m ((mid+d-t:Nat):Int) fo fo fo fo fo fo
   simpa using this
  ·rw [aN i]
   have:A2=[]∨B1=[]:=by
    by_cases h1:A2.length=0
    ·exact .inl (bF h1)
    ·exact .inr (bF eR)
   rcases this with rfl | rfl <;> simp
 rw [r1,aA]
 have r2:∃C1,(if a < (t:Int)∧t < mid then rec (pre++(A1.map (·.1)++(B1.map (·.1)++(A2.map (·.1)++(B2.map (·.1)++post))))) a (t:Int) (mid:Int) f else some (pre++(A1.map (·.1)++(B1.map (·.1)++(A2.map (·.1)++(B2.map (·.1)++post)))))) =
   some (pre++(C1.map (·.1)++(A2.map (·.1)++(B2.map (·.1)++post))))∧sf (pI c) C1∧C1.Perm (A1++B1):=by
  by_cases i:a < (t:Int)∧t < mid
  ·rw [aP i]
   exact ih A1 B1 pre (A2.map (·.1)++(B2.map (·.1)++post)) a t mid eR eR eR o.left p.left (λx g y A=>J x (by simp [g]) y (by simp [A])) (λx g=>I x (by simp at g ⊢; rcases g with g | g <;> simp [g]))
    fo ha eR eR
  ·rw [aN i]
   refine ⟨A1++B1,fb,Qm h o.left p.left λA' x y B' q1 q2=>?_,.refl _⟩
   have g1:0 < A1.length:=by rw [q1]; simp
   have g2:0 < B1.length:=by rw [q2]; simp
   omega
 obtain ⟨C1,q,v,j⟩:=r2
 have s:=j.length_eq
 simp only [aF] at s
 rw [q,aA]
 have r3:∃C2,(if mid < mid+d-t∧((mid+d-t:Nat):Int) < b then rec (pre++(C1.map (·.1)++(A2.map (·.1)++(B2.map (·.1)++post)))) (mid:Int) ((mid+d-t:Nat):Int) b f else some (pre++(C1.map (·.1)++(A2.map (·.1)++(B2.map (·.1)++post))))) =
   some ((pre++C1.map (·.1))++(C2.map (·.1)++post))∧sf (pI c) C2∧C2.Perm (A2++B2):=by
  by_cases i:mid < mid+d-t∧((mid+d-t:Nat):Int) < b
  ·rw [aP i]
   have:=ih A2 B2 (pre++C1.map (·.1)) post mid ((mid+d-t:Nat):Int) b eR eR eR o.right p.right (λx g y A=>J x (by simp [g]) y (by simp [A])) (λx g=>I x (by simp at g ⊢; rcases g with g | g <;> simp [g]))
    fo fo fo fo
   simpa using this
  ·rw [aN i]
   refine ⟨A2++B2,fb,Qm h o.right p.right λA' x y B' q1 q2=>?_,.refl _⟩
   have g1:0 < A2.length:=by rw [q1]; simp
   have g2:0 < B2.length:=by rw [q2]; simp
   omega
 obtain ⟨C2,w,z,n⟩:=r3
 rw [w]
 exact ⟨C1++C2,fb,ZT h o p W Y j n v z,WV j n⟩
theorem Xp (F:Nat) (G:1000000 < F) (L:List Formula) (rec:List Formula→Int→Int→Int→((Formula×Formula)→Option Int)→Option (List Formula)) (pl d g mid c p:Nat) (a b m:Int) (o:Nat→Bool) (v:0 < d) (w:0 < g) (A:pl+(d+g)≤400000) (z:mid=(pl+(pl+d+g)) / 2) (y:c=pl+d) (hp:p+1=mid+c) (k:a+b=((2*mid:Nat):Int)∨a+b=((2*mid+1:Nat):Int)) (ha:a=(pl:Int)) (j:m=(c:Int)) (I:b=((pl+d+g:Nat):Int)) (h:∀q,pl≤q→q < c→c≤p-q→p-q < c+g→Ask L f ((p-q:Nat):Int) (q:Int) (!o q)) :
  ∃t n lo hi:Nat,(lo=pl∧hi=c∧c≤mid∨lo+(pl+d+g)=mid+c∧hi=mid∧mid < c)∧lo≤t∧t≤hi∧(t=lo∨o (t-1)=true)∧(t=hi∨o t=false)∧
    ((if decide (m > (mid:Int)) then some (wi0 .i64 (((mid+c:Nat):Int)-b),(mid:Int)) else some (a,m):Option (Int×Int)).bind λx=>mI L a b m f rec F x.1 x.2) =
     mI L a b m f rec (n+1) (t:Int) (t:Int):=by
 by_cases u:mid < c
 ·obtain ⟨lo,s⟩:∃lo:Nat,lo+(pl+d+g)=mid+c:=⟨mid+c-(pl+d+g),eR⟩
  obtain ⟨t,n,t1,t2,t3,t4,e⟩:=bs5 (f:=f) L a b m rec mid c p k j hp o lo mid eR eR eR eR (λq q1 q2=>h q eR eR eR eR)
   (mid-lo) F lo mid (aZ _) eR (aZ _) eR (aZ _) (.inl Z) (.inl Z)
  refine ⟨t,n,lo,mid,.inr ⟨s,Z,u⟩,t1,t2,t3,t4,?_⟩
  have i:m > (mid:Int):=by omega
  simp only [i,cD,aJ,aA]
  rw [pH lo eR eR,e]
 ·obtain ⟨t,n,t1,t2,t3,t4,e⟩:=bs5 (f:=f) L a b m rec mid c p k j hp o pl c eR eR eR eR (λq q1 q2=>h q eR eR eR eR)
   (c-pl) F pl c (aZ _) eR (aZ _) eR (aZ _) (.inl Z) (.inl Z)
  refine ⟨t,n,pl,c,.inl ⟨Z,Z,eR⟩,t1,t2,t3,t4,?_⟩
  have i:¬(m > (mid:Int)):=by omega
  simp only [i,cE,aB,aH,aA]
  rw [←e,←ha,←j]
set_option maxHeartbeats 2000000 in
theorem acx (h:SWO (pI c)) (hf:H7 f c G):∀(k:Nat) (A B:List (Formula×Nat)) (pre post:List Formula) (n:Nat) (a m b:Int),A.length+B.length≤k→0 < A.length→0 < B.length→k < n→sf (pI c) A→sf (pI c) B→
  (∀x∈A,∀y∈B,x.2 < y.2)→(∀x∈A++B,G x.1)→(pre++(A.map (·.1)++(B.map (·.1)++post))).length≤400000→a=(pre.length:Int)→m=((pre.length+A.length:Nat):Int)→b=((pre.length+A.length+B.length:Nat):Int)→
  ∃u,nn n (pre++(A.map (·.1)++(B.map (·.1)++post))) a m b f=some (pre++(u.map (·.1)++post))∧sf (pI c) u∧u.Perm (A++B):=by
 intro k
 induction k with
 | zero=>intro A B pre post n a m b h0 h1 h2; omega
 | succ k ih=>
  intro A B pre post n a m b h0 h1 h2 hn hA hB U T hl ha hm O
  obtain ⟨n,rfl⟩:=aW (by omega:n≠0)
  have P:=hl
  simp only [aF,dw] at P
  rw [nn]
  unfold tf
  by_cases c1:A.length=1
  ·obtain ⟨x,rfl⟩:=List.length_eq_one_iff.1 c1
   have:(wi0 .i64 (m-a)==1)=true:=by rw [pH 1 (by simp at hm; omega) eR]; rfl
   simp only [this,aJ]
   obtain ⟨u,u1,u2,u3⟩:=abR h hf x B pre post a m b hB (λy hy=>U x fb y hy) (λy hy=>T y (by simpa using hy)) (by simpa using hl) ha (by simpa using hm) (by simpa using O)
   exact ⟨u,by simpa using u1,u2,by simpa using u3⟩
  have n1:(wi0 .i64 (m-a)==1)=false:=by rw [pH A.length eR eR]; simp; omega
  simp only [n1,aB,aH]
  by_cases c2:B.length=1
  ·obtain ⟨y,rfl⟩:=List.length_eq_one_iff.1 c2
   have:(wi0 .i64 (b-m)==1)=true:=by rw [pH 1 (by simp at O; omega) eR]; rfl
   simp only [this,aJ]
   obtain ⟨u,u1,u2,u3⟩:=ab1 h hf y A pre post a m hA (λx W=>U x W y fb) (λx W=>T x (by simp at W ⊢; exact W.symm)) (by simpa using hl) ha hm
   exact ⟨u,by simpa using u1,u2,u3⟩
  have n2:(wi0 .i64 (b-m)==1)=false:=by rw [pH B.length eR eR]; simp; omega
  simp only [n2,aB,aH]
  obtain ⟨F,hF,a1⟩:∃F,F=lP∧1000000 < F:=⟨lP,Z,by rw [nV]; omega⟩
  rw [←hF]
  obtain ⟨mid,w⟩:∃mid:Nat,mid=(pre.length+(pre.length+A.length+B.length)) / 2:=⟨_,Z⟩
  obtain ⟨d,g⟩:∃d:Nat,d=pre.length+A.length:=⟨_,Z⟩
  obtain ⟨p,hp⟩:∃p:Nat,p+1=mid+d:=⟨mid+d-1,eR⟩
  have s:a+b=((2*mid:Nat):Int)∨a+b=((2*mid+1:Nat):Int):=by omega
  have I:wi0 .i64 (Int.fdiv (IntKind.u64.wrap (wi0 .i64 (a+b))) (2 ^ min (Int.toNat 1) (IntKind.bits .u64)))=(mid:Int):=by
   rcases s with h | h
   ·rw [Iw _ h eR,show 2*mid / 2=mid by omega]
   ·rw [Iw _ h eR,show (2*mid+1) / 2=mid by omega]
  have v:m=(d:Int):=by omega
  have w1:wi0 .i64 ((mid:Int)+m)=((mid+d:Nat):Int):=pH _ eR eR
  obtain ⟨J,i⟩:∃J:Nat→Bool,J=YO c (A.map (·.1)) (B.map (·.1)) pre.length d p:=⟨_,Z⟩
  have M:∀q,pre.length≤q→q < d→d≤p-q→p-q < d+B.length→Ask (pre++(A.map (·.1)++(B.map (·.1)++post))) f ((p-q:Nat):Int) (q:Int) (!J q):=λq q1 q2 q3 q4=>by rw [i]; exact acr hf A B pre post d p g T q q1 q2 q3 q4
  obtain ⟨t,n',lo,hi,a6,t1,t2,t3,t4,e⟩:=Xp (f:=f) F a1 (pre++(A.map (·.1)++(B.map (·.1)++post))) (nn n) pre.length A.length B.length mid d p a b m J eR eR eR w g hp s ha v O M
  simp only [I,w1]
  rw [e,aa4 (f:=f) _ a b m _ mid d t n' s v eR eR eR]
  obtain ⟨A1,A2,rfl,L⟩:=Bw (l:=A) (n:=t-pre.length) eR
  obtain ⟨B1,B2,rfl,Y⟩:=Bw (l:=B) (n:=mid-t) eR
  simp only [aF] at h0 h1 h2 P t1 t2 t3 t4 a6 hm O g w
  have Q:∀q x y,((A1++A2).map (·.1))[q-pre.length]? =some x→((B1++B2).map (·.1))[p-q-d]? =some y→J q=!pI c y x:=λq x y j o=>by rw [i]; exact Qg j o
  have l1:Lk (pI c) A1 B2:=by
   intro A' z b' B' q1 q2
   have g1:0 < A1.length:=by rw [q1]; simp
   have g2:0 < B2.length:=by rw [q2]; simp
   have R:J (t-1)=true:=by
    rcases t3 with t3 | t3
    ·omega
    ·exact t3
   have j:=Dp (I0 A2 q1)
   have o:=Dp (ID B1 q2)
   rw [show A1.length-1=t-1-pre.length by omega] at j
   rw [show B1.length=p-(t-1)-d by omega] at o
   rw [Q _ _ _ j o,gn] at R
   exact .inr ⟨R,U z (by rw [q1]; simp) b' (by rw [q2]; simp)⟩
  have l2:Lk (pI c) B1 A2:=by
   intro A' z b' B' q1 q2
   have g1:0 < B1.length:=by rw [q1]; simp
   have g2:0 < A2.length:=by rw [q2]; simp
   have R:J t=false:=by
    rcases t4 with t4 | t4
    ·omega
    ·exact t4
   have j:=Dp (I0 B2 q1)
   have o:=Dp (ID A1 q2)
   rw [show B1.length-1=p-t-d by omega] at j
   rw [L] at o
   rw [Q _ _ _ o j,Bool.not_eq_false'] at R
   exact .inl R
  exact aaW h (λA B pre post a m b q1 q2 q3=>ih A B pre post n a m b q1 q2 q3 eR) A1 A2 B1 B2 pre post a m b mid d t g (by rw [w]; congr 1; omega) L Y eR eR eR eR eR hA hB U T eR ha v (by rw [O]; congr 1; omega) l1 l2
end
section
variable {c:Formula→Formula→Int} {G:Formula→Prop} {f:Formula×Formula→Option Int}
def Cf (c:Formula→Formula→Int):Nat→List (List (Formula×Nat))→Prop
 | _,[]=>True
 | o,A::bs=>sf (pI c) A∧(∀x∈A,o≤x.2∧x.2 < o+A.length)∧Cf c (o+A.length) bs
def WB (s:Nat):List (List (Formula×Nat))→Prop
 | []=>True
 | A::bs=>A.length≤s∧(bs≠[]→A.length=s)∧WB s bs
theorem Cf.append:∀{ds bs:List (List (Formula×Nat))} {o:Nat},Cf c o (ds++bs)↔Cf c o ds∧Cf c (o+ds.flatten.length) bs
 | [],bs,o=>by simp [Cf]
 | A::ds,bs,o=>by
  simp only [cH,Cf,Cf.append (ds:=ds),bX,aF,and_assoc,eL]
def fm (bs:List (List (Formula×Nat))):List Formula:=bs.flatten.map (·.1)
theorem O6 (a b:List (List (Formula×Nat))):fm (a++b)=fm a++fm b:=by simp [fm]
theorem Tj (A:List (Formula×Nat)) (b:List (List (Formula×Nat))):fm (A::b)=A.map (·.1)++fm b:=by simp [fm]
theorem wy (a:List (List (Formula×Nat))):(fm a).length=a.flatten.length:=by unfold fm; rw [dw]
theorem WE (ds:List (List (Formula×Nat))) (C:List (Formula×Nat)):(ds++[C]).flatten.length=ds.flatten.length+C.length:=by rw [dx,aF]; simp only [bX,dL,bP]
theorem aaO (C:List (Formula×Nat)) (bs:List (List (Formula×Nat))):fm ([C]++bs)=C.map (·.1)++fm bs:=by simp [fm]
theorem K7 {R:List Formula} {o:Nat} {x:Formula×Nat} (h:x∈R.zipIdx o):x.1∈R:=List.fst_mem_of_mem_zipIdx h
theorem WB.two {s:Nat} {A:List (Formula×Nat)} {bs:List (List (Formula×Nat))} (g:0 < s) (h:WB s (A::bs)) (d:s < (A::bs).flatten.length):A.length=s∧∃B a,bs=B::a∧(B.length=s∨a=[])∧B.length≤s∧WB s a:=by
 cases bs with
 | nil=>simp at d; have:=h.1; omega
 | cons B a=>
  refine ⟨h.2.1 fb,B,a,Z,?_,h.2.2.1,h.2.2.2.2⟩
  by_cases c:a=[]
  ·exact .inr c
  ·exact .inl (h.2.2.2.1 c)
theorem Ry (h:SWO (pI c)) (u:H7 f c G) {ds bs:List (List (Formula×Nat))} {A B:List (Formula×Nat)} (hO:Cf c 0 (ds++A::B::bs)) (s:∀x∈(ds++A::B::bs).flatten,G x.1) (i:(fm (ds++A::B::bs)).length≤400000) (p:0 < A.length) (q:0 < B.length) (a m b:Int) (ha:a=(ds.flatten.length:Int)) (hm:m=((ds.flatten.length+A.length:Nat):Int)) (t:b=((ds.flatten.length+A.length+B.length:Nat):Int)) :
  ∃C,nn lP (fm (ds++A::B::bs)) a m b f=some (fm ((ds++[C])++bs))∧Cf c 0 ((ds++[C])++bs)∧C.Perm (A++B):=by
 obtain ⟨h1,o⟩:=Cf.append.1 hO
 obtain ⟨z,k,I,n,v⟩:=o
 have e:fm (ds++A::B::bs)=fm ds++(A.map (·.1)++(B.map (·.1)++fm bs)):=by rw [O6,Tj,Tj]
 rw [e] at i ⊢
 have j:=i
 simp only [aF,dw,wy] at j
 obtain ⟨C,q1,q2,q3⟩:=acx h u (A.length+B.length) A B (fm ds) (fm bs) lP a m b (aZ _) p q (by rw [nV]; omega) z I (λx d y w=>by have:=(k x d).2; have:=(n y w).1; omega)
  (λx d=>s x (by
   rw [dx,bX,bX,aX,aX,aX]
   rcases aX.1 d with d | d
   ·exact .inr (.inl d)
   ·exact .inr (.inr (.inl d)))) i (by rw [ha,wy]) (by rw [hm,wy]) (by rw [t,wy])
 have g:=q3.length_eq
 simp only [aF] at g
 refine ⟨C,by rw [q1,aQ,O6,aaO],?_,q3⟩
 ·rw [aQ,Cf.append]
  refine ⟨h1,q2,λx d=>?_,?_⟩
  ·rcases aX.1 (q3.mem_iff.1 d) with d | d
   ·have:=k x d; omega
   ·have:=n x d; omega
  ·rw [g,←eL]; exact v
theorem Qx {ds bs:List (List (Formula×Nat))} {A B C:List (Formula×Nat)} (h:C.Perm (A++B)):((ds++[C])++bs).flatten.Perm (ds++A::B::bs).flatten:=by
 simp only [dx,bX,dL,bP,aQ]
 refine cQ _ ?_
 rw [←aQ]
 exact h.append_right _
theorem Zg (h:SWO (pI c)) (R:H7 f c G) (s:Nat) (U:0 < s) (W:s≤1000000) (N:Nat) (hN:N≤400000):∀(k:Nat) (bs ds:List (List (Formula×Nat))) (n:Nat) (a b:Int),bs.length≤k→k < n→Cf c 0 (ds++bs)→(∀x∈(ds++bs).flatten,G x.1)→(ds++bs).flatten.length=N→WB s bs→(∀A∈ds,A.length=2*s)→
  a=(ds.flatten.length:Int)→b=((ds.flatten.length+2*s:Nat):Int)→
  ∃es r,oq (N:Int) (s:Int) f n (fm (ds++bs)) a b=some (fm (es++r),(es.flatten.length:Int))∧Cf c 0 (es++r)∧(es++r).flatten.Perm (ds++bs).flatten∧WB s r∧r.flatten.length < 2*s∧(∀A∈es,A.length=2*s):=by
 intro k
 induction k with
 | zero=>
  intro bs ds n a b hk T hO t j u o ha P
  obtain ⟨n,rfl⟩:=aW (by omega:n≠0)
  obtain rfl:=bF (Nat.le_zero.1 hk)
  simp only [bP] at j
  rw [oq]
  have:¬(b≤(N:Int)):=by omega
  simp only [this,cE,aB,aH]
  exact ⟨ds,[],by rw [ha],hO,.refl _,trivial,by simp only [dL,bZ]; omega,o⟩
 | succ k ih=>
  intro bs ds n a b hk T hO t j u o ha P
  obtain ⟨n,rfl⟩:=aW (by omega:n≠0)
  rw [oq]
  by_cases hle:b≤(N:Int)
  ·simp only [hle,cD,aJ]
   have d:=j
   rw [dx,aF] at d
   cases bs with
   | nil=>simp only [dL,bZ] at d; omega
   | cons A bs=>
    obtain ⟨hA,B,i,rfl,p,M,v⟩:=WB.two U u eR
    have O:B.length=s:=by
     rcases p with p | rfl
     ·exact p
     ·simp only [bX,dL,bP,aF] at d; omega
    have w1:wi0 .i64 (a+(s:Int))=((ds.flatten.length+A.length:Nat):Int):=pH _ eR eR
    obtain ⟨C,q1,q2,q3⟩:=Ry h R hO t (by rw [wy]; omega) eR eR a _ b ha w1 eR
    rw [q1,aA]
    have q:=q3.length_eq
    simp only [aF] at q
    have w2:wi0 .i64 (2*(s:Int))=((2*s:Nat):Int):=pH _ eR eR
    have Q:(ds++[C]).flatten.length=ds.flatten.length+2*s:=by rw [WE]; omega
    have w3:wi0 .i64 (b+((2*s:Nat):Int))=(((ds++[C]).flatten.length+2*s:Nat):Int):=pH _ eR eR
    have hp:=Qx (ds:=ds) (bs:=i) q3
    rw [w2,w3]
    obtain ⟨es,r,w,y,z,I,J,L⟩:=ih i (ds++[C]) n b _ (by simp at hk; omega) eR q2 (λx Y=>t x (hp.mem_iff.1 Y)) (by rw [hp.length_eq,j]) v (λX g=>by
     rcases aX.1 g with g | g
     ·exact o X g
     ·simp at g; rw [g]; omega) (by rw [Q]; omega) Z
    exact ⟨es,r,w,y,z.trans hp,I,J,L⟩
  ·simp only [hle,cE,aB,aH]
   refine ⟨ds,bs,by rw [ha],hO,.refl _,u,?_,o⟩
   rw [dx,aF] at j
   omega
theorem WB.Nn {t:Nat}:∀{es:List (List (Formula×Nat))} {C:List (Formula×Nat)},(∀A∈es,A.length=t)→C.length≤t→WB t (es++[C])
 | [],C,_,a=>⟨a,λh=>absurd Z h,trivial⟩
 | E::es,C,h,a=>⟨by rw [h E fb]; omega,λ_=>h E fb,WB.Nn (λA c=>h A (by simp [c])) a⟩
theorem U2 {s:Nat} {r:List (List (Formula×Nat))} {o:Nat} (d:WB s r) (g:r.flatten.length≤s) (hO:Cf c o r):sf (pI c) r.flatten∧∀x∈r.flatten,o≤x.2∧x.2 < o+r.flatten.length:=by
 cases r with
 | nil=>exact ⟨.nil,λx h=>by cases h⟩
 | cons A r=>
  have:r.flatten=[]:=by
   by_cases a:r=[]
   ·rw [a]; rfl
   ·have:=d.2.1 a
    rw [bX,aF] at g
    exact bF eR
  rw [bX,this,bP]
  exact ⟨hO.1,hO.2.1⟩
theorem XM (h:SWO (pI c)) (hf:H7 f c G) (N:Nat) (hN:N≤400000):∀(k s:Nat) (bs:List (List (Formula×Nat))) (n:Nat),N-s≤k→k < n→0 < s→s≤1000000→Cf c 0 bs→(∀x∈bs.flatten,G x.1)→bs.flatten.length=N→WB s bs→
  ∃u,nG (N:Int) f n (fm bs) (s:Int)=some (u.map (·.1))∧sf (pI c) u∧u.Perm bs.flatten:=by
 intro k
 induction k with
 | zero=>
  intro s bs n hk hn M q hO p j d
  obtain ⟨n,rfl⟩:=aW (by omega:n≠0)
  rw [nG]
  have:¬((s:Int) < (N:Int)):=by omega
  simp only [this,cE,aB,aH]
  refine ⟨bs.flatten,Z,?_,.refl _⟩
  cases bs with
  | nil=>exact .nil
  | cons A bs=>
   have:bs.flatten=[]:=by
    by_cases g:bs=[]
    ·rw [g]; rfl
    ·have:=d.2.1 g
     rw [bX,aF] at j
     exact bF eR
   rw [bX,this,bP]
   exact hO.1
 | succ k ih=>
  intro s bs n hk hn M q hO p j d
  by_cases a8:s < N
  ·obtain ⟨n,rfl⟩:=aW (by omega:n≠0)
   rw [nG]
   have:((s:Int) < (N:Int)):=by omega
   simp only [this,cD,aJ]
   have w1:wi0 .i64 (2*(s:Int))=((2*s:Nat):Int):=pH _ eR eR
   have w0:wi0 .i64 ((s:Int)*2)=((2*s:Nat):Int):=pH _ eR eR
   have a7:bs.length≤2000000:=by
    have:∀{bs:List (List (Formula×Nat))},WB s bs→bs.length≤bs.flatten.length+1:=by
     intro bs
     induction bs with
     | nil=>intro _; simp
     | cons A bs O=>
      intro d
      by_cases g:bs=[]
      ·subst g; simp
      ·have:=d.2.1 g
       have:=O d.2.2
       simp only [aM,bX,aF]
       omega
    have:=this d
    omega
   obtain ⟨es,r,R,T,a,U,W,Y⟩:=Zg h hf s M q N hN bs.length bs [] lP 0 ((2*s:Nat):Int) (aZ _) (by rw [nV]; omega) (by simpa using hO) (by simpa using p) (by simpa using j) d fb Z fb
   simp only [bN] at R a
   rw [w1,R,aA,w0]
   have o:=a.length_eq
   rw [j,dx,aF] at o
   have w2:wi0 .i64 ((es.flatten.length:Int)+(s:Int))=((es.flatten.length+s:Nat):Int):=pH _ eR eR
   simp only [w2]
   by_cases hm:es.flatten.length+s < N
   ·have:(((es.flatten.length+s:Nat):Int) < (N:Int)):=by omega
    simp only [this,cD,aJ,vn]
    cases r with
    | nil=>simp only [dL,bZ] at o; omega
    | cons A r=>
     obtain ⟨hA,B,r',rfl,v,a1,a6⟩:=WB.two M U eR
     have L:r'=[]:=by
      rcases v with v | v
      ·by_cases hr:r'=[]
       ·exact hr
       ·simp only [bX,aF] at W; omega
      ·exact v
     subst L
     simp only [bX,dL,bP,aF] at o W
     obtain ⟨C,q1,q2,q3⟩:=Ry h hf T (λx t=>p x (a.mem_iff.1 t)) (by rw [wy,a.length_eq]; omega) eR eR (es.flatten.length:Int) ((es.flatten.length+s:Nat):Int) (N:Int) Z eR eR
     rw [q1,aA]
     have y:=q3.length_eq
     simp only [aF] at y
     have hp:=(Qx (ds:=es) (bs:=[]) q3).trans a
     simp only [bP] at q2 hp ⊢
     obtain ⟨u,P,Q,w⟩:=ih (2*s) (es++[C]) n eR eR eR eR q2 (λx t=>p x (hp.mem_iff.1 t)) (by rw [hp.length_eq,j]) (WB.Nn Y eR)
     exact ⟨u,P,Q,w.trans hp⟩
   ·have:¬(((es.flatten.length+s:Nat):Int) < (N:Int)):=by omega
    simp only [this,cE,aB,aH,aA]
    obtain ⟨z,I⟩:=Cf.append.1 T
    obtain ⟨b1,b2⟩:=U2 U eR I
    have J:fm (es++r)=fm (es++[r.flatten]):=by simp [fm]
    have i:(es++[r.flatten]).flatten=(es++r).flatten:=by simp
    rw [J]
    obtain ⟨u,P,Q,w⟩:=ih (2*s) (es++[r.flatten]) n eR eR eR eR (Cf.append.2 ⟨z,b1,b2,trivial⟩) (λx t=>p x (a.mem_iff.1 (by rw [←i]; exact t))) (by rw [i,a.length_eq,j]) (WB.Nn Y eR)
    exact ⟨u,P,Q,by rw [i] at w; exact w.trans a⟩
  ·obtain ⟨n,rfl⟩:=aW (by omega:n≠0)
   rw [nG]
   have:¬((s:Int) < (N:Int)):=by omega
   simp only [this,cE,aB,aH]
   refine ⟨bs.flatten,Z,?_,.refl _⟩
   cases bs with
   | nil=>exact .nil
   | cons A bs=>
    have:bs.flatten=[]:=by
     by_cases g:bs=[]
     ·rw [g]; rfl
     ·have:=d.2.1 g
      rw [bX,aF] at j
      exact bF eR
    rw [bX,this,bP]
    exact hO.1
theorem On:∀(l:List Formula) (o:Nat),(l.zipIdx o).Pairwise (λx y=>x.2 < y.2)
 | [],o=>by simp
 | x::l,o=>by
  rw [jY,cW]
  refine ⟨λy c=>?_,On l (o+1)⟩
  obtain ⟨a,b⟩:=y
  have:=List.le_snd_of_mem_zipIdx c
  simp only at this ⊢; omega
theorem SU (l:List Formula) (o:Nat):∀x∈l.zipIdx o,o≤x.2∧x.2 < o+l.length:=by
 rintro ⟨a,b⟩ c
 have h1:=List.le_snd_of_mem_zipIdx c
 have d:=List.snd_lt_add_of_mem_zipIdx c
 simp only at h1 d ⊢; omega
theorem Vl (h:SWO (pI c)) (k:H7 f c G) (N:Nat) (w:N≤300000) (R:List Formula) (ds:List (List (Formula×Nat))) (n:Nat) (a b:Int) (I:0 < n) (hO:Cf c 0 ds) (p:∀A∈ds,A.length=20) (q:∀x∈ds.flatten,G x.1) (j:∀x∈R,G x) (z:ds.flatten.length+R.length=N) (s:R.length < 20) (ha:a=(ds.flatten.length:Int)) (y:b=((ds.flatten.length+20:Nat):Int)) :
  ∃u,nH (N:Int) f n (fm ds++R) a b=some (u.map (·.1))∧sf (pI c) u∧u.Perm (ds.flatten++R.zipIdx ds.flatten.length):=by
 obtain ⟨n,rfl⟩:=aW (by omega:n≠0)
 rw [nH]
 have hle:¬(b≤(N:Int)):=by omega
 simp only [hle,cE,aB,aH,vn]
 obtain ⟨u,o,t,g⟩:=Tz h k (fm ds) [] (R.zipIdx ds.flatten.length) a (N:Int) (On _ _) (λx d=>j x.1 (K7 d)) (by simp only [aF,wy,dw,eX,bZ]; omega) (by rw [wy]; exact ha) (by rw [wy,eX]; omega)
 rw [List.zipIdx_map_fst,bP,bP] at o
 have i:=g.length_eq
 rw [eX] at i
 have e:fm ds++u.map (·.1)=fm (ds++[u]):=by simp [fm]
 have hp:(ds++[u]).flatten.Perm (ds.flatten++R.zipIdx ds.flatten.length):=by
  rw [dx]
  refine cQ _ ?_
  simpa using g
 rw [o,aA,e]
 obtain ⟨v,v1,v2,v3⟩:=XM h k N eR N 20 (ds++[u]) lP eR (by rw [nV]; omega) eR eR (Cf.append.2 ⟨hO,t,λx d=>by have:=SU R ds.flatten.length x (g.mem_iff.1 d); omega,trivial⟩) (λx d=>by
  rw [dx,aX] at d
  rcases d with d | d
  ·exact q x d
  ·simp only [bX,dL,bP] at d
   exact j x.1 (K7 (g.mem_iff.1 d))) (by rw [hp.length_eq,aF,eX]; omega) (WB.Nn p eR)
 exact ⟨v,v1,v2,v3.trans hp⟩
theorem X3 (h:SWO (pI c)) (y:H7 f c G) (N:Nat) (J:N≤300000):∀(k:Nat) (R:List Formula) (ds:List (List (Formula×Nat))) (n:Nat) (a b:Int),R.length≤k→k < n→Cf c 0 ds→(∀A∈ds,A.length=20)→(∀x∈ds.flatten,G x.1)→(∀x∈R,G x)→ds.flatten.length+R.length=N→
  a=(ds.flatten.length:Int)→b=((ds.flatten.length+20:Nat):Int)→
  ∃u,nH (N:Int) f n (fm ds++R) a b=some (u.map (·.1))∧sf (pI c) u∧u.Perm (ds.flatten++R.zipIdx ds.flatten.length):=by
 intro k
 induction k with
 | zero=>
  intro R ds n a b hk L hO p q j s ha w
  obtain rfl:=bF (Nat.le_zero.1 hk)
  exact Vl h y N J [] ds n a b L hO p q j s fb ha w
 | succ k ih=>
  intro R ds n a b hk L hO p q j s ha w
  by_cases I:R.length < 20
  ·exact Vl h y N J R ds n a b eR hO p q j s I ha w
  obtain ⟨n,rfl⟩:=aW (by omega:n≠0)
  obtain ⟨R1,R2,rfl,o⟩:=Bw (l:=R) (n:=20) eR
  rw [aF] at s hk
  rw [nH]
  have hle:b≤(N:Int):=by omega
  simp only [hle,cD,aJ]
  obtain ⟨u,M,O,t⟩:=Tz h y (fm ds) R2 (R1.zipIdx ds.flatten.length) a b (On _ _) (λx d=>j x.1 (by simp [K7 d])) (by simp only [aF,wy,dw,eX,bZ]; omega) (by rw [wy]; exact ha) (by rw [wy,eX]; omega)
  rw [List.zipIdx_map_fst] at M
  rw [M,aA]
  have g:=t.length_eq
  rw [eX,o] at g
  have z:(ds++[u]).flatten.length=ds.flatten.length+20:=by rw [WE,g]
  have P:wi0 .i64 (b+20)=(((ds++[u]).flatten.length+20:Nat):Int):=pH _ eR eR
  have e:fm ds++(u.map (·.1)++R2)=fm (ds++[u])++R2:=by simp [fm]
  rw [e,P]
  obtain ⟨v,v1,v2,v3⟩:=ih R2 (ds++[u]) n b _ eR eR (Cf.append.2 ⟨hO,O,λx d=>by have:=SU R1 ds.flatten.length x (t.mem_iff.1 d); omega,trivial⟩) (λA i=>by
   rcases aX.1 i with i | i
   ·exact p A i
   ·simp at i; rw [i]; exact g) (λx d=>by
   rw [dx,aX] at d
   rcases d with d | d
   ·exact q x d
   ·simp only [bX,dL,bP] at d
    exact j x.1 (by simp [K7 (t.mem_iff.1 d)])) (λx d=>j x (by simp [d])) eR eR Z
  refine ⟨v,v1,v2,v3.trans ?_⟩
  rw [z,dx,List.zipIdx_append,o,aQ]
  refine cQ _ ?_
  simp only [bX,dL,bP]
  exact t.append_right _
theorem T4 (h:SWO (pI c)) (i:H7 f c G) (l:List Formula) (g:∀x∈l,G x) (j:l.length≤300000):sL l f=some (RH (pI c) l):=by
 unfold sL vZ
 obtain ⟨u,a,k,d⟩:=X3 h i l.length j l.length l [] lP 0 20 (aZ _) (by rw [nV]; omega) trivial fb fb g fb Z Z
 simp only [fm,dL,gA,bN,bZ] at a d
 rw [a,aA,ZM h k d]
end
theorem TW {P:Formula→Prop} (h:∀f,(∀k∈f.Kids,P k)→P f):∀f,P f:=by
 intro f
 refine Formula.rec (motive_1:=P) (motive_2:=λc=>∀k∈c,P k) ?_ ?_ ?_ f
 ·intro o k r c ih; exact h _ ih
 ·intro k hk; cases hk
 ·intro k c h1 d x a
  rcases aS.1 a with rfl | a
  ·exact h1
  ·exact d x a
mutual
def mo:Formula→Nat
 | ⟨_,_,_,ks⟩=>1+nodesL ks
def nodesL:List Formula→Nat
 | []=>0
 | k::ks=>mo k+nodesL ks
end
mutual
def rn:Formula→Nat
 | ⟨_,_,_,ks⟩=>deepL ks+1
def deepL:List Formula→Nat
 | []=>0
 | k::ks=>max (rn k) (deepL ks)
end
theorem rL (f:Formula):mo f=1+nodesL f.Kids:=by cases f; rw [mo]
theorem oK (f:Formula):rn f=deepL f.Kids+1:=by cases f; rw [rn]
theorem yo:∀{a:List Formula} {k:Formula},k∈a→mo k≤nodesL a
 | x::a,k,h=>by
  rw [nodesL]
  rcases aS.1 h with rfl | h
  ·omega
  ·have:=yo h; omega
theorem vz:∀{a:List Formula} {k:Formula},k∈a→rn k≤deepL a
 | x::a,k,h=>by
  rw [deepL]
  rcases aS.1 h with rfl | h
  ·omega
  ·have:=vz h; omega
theorem B5:∀f:Formula,rn f≤mo f:=by
 refine TW λf ih=>?_
 rw [oK,rL]
 have:∀a:List Formula,(∀k∈a,rn k≤mo k)→deepL a≤nodesL a:=by
  intro a
  induction a with
  | nil=>intro _; rw [deepL]; omega
  | cons k a c=>
   intro h
   have:=c (λx d=>h x (by simp [d]))
   have:=h k fb
   rw [deepL,nodesL]; omega
 have:=this f.Kids ih
 omega
theorem ul:∀a:List Formula,a.length≤nodesL a
 | []=>by rw [nodesL]; simp
 | k::a=>by have:=ul a; have:=rL k; rw [nodesL,aM]; omega
theorem UY (a:Nat) (hm:a≤4096) (rec:Formula→Int→Option (Int×Int)):∀(c:List Formula),(∀k∈c,∀q:Nat,q≤4096→∃n d:Nat,rec k (q:Int)=some ((n:Int),(d:Int))∧1≤n∧n≤mo k∧d≤mo k∧(mo k≤q→n=mo k∧d=rn k)∧(q < mo k→q < n))→∀x y:Nat,x+nodesL c≤100000000→
  ∃n d:Nat,tM (a:Int) rec c (x:Int) (y:Int)=some ((n:Int),(d:Int))∧x≤n∧n≤x+nodesL c∧d≤max y (nodesL c)∧(x+nodesL c≤a→n=x+nodesL c∧d=max y (deepL c))∧(a < x+nodesL c→a < n)
 | [],_,x,y,_=>by
  rw [tM,nodesL,deepL]
  exact ⟨x,y,Z,eR,eR,eR,λ_=>⟨eR,eR⟩,λh=>by omega⟩
 | k::c,i,x,y,s=>by
  rw [nodesL] at s ⊢
  rw [tM,deepL]
  by_cases j:(x:Int) > (a:Int)
  ·simp only [j,cD,aJ]
   exact ⟨x,y,Z,eR,eR,eR,λ_=>by omega,λh=>by omega⟩
  ·simp only [j,cE,aB,aH]
   have u:wi0 .i64 ((a:Int)-(x:Int))=((a-x:Nat):Int):=by rw [mr eR eR]; omega
   obtain ⟨m,d,e,h1,A,G,g,p⟩:=i k fb (a-x) eR
   rw [u,e,aA]
   have v:wi0 .i64 ((x:Int)+(m:Int))=((x+m:Nat):Int):=by rw [mr eR eR]; omega
   have w:(if (d:Int) > (y:Int) then (d:Int) else (y:Int))=((max y d:Nat):Int):=by split <;> omega
   simp only [v,w]
   obtain ⟨n,o,e',g1,g2,g3,g4,g5⟩:=UY a hm rec c (λz t=>i z (by simp [t])) (x+m) (max y d) eR
   refine ⟨n,o,e',eR,eR,eR,λh=>?_,λh=>?_⟩
   ·obtain ⟨rfl,rfl⟩:=g eR
    obtain ⟨rfl,rfl⟩:=g4 eR
    exact ⟨eR,eR⟩
   ·by_cases hk:a-x < mo k
    ·have:=p hk; omega
    ·obtain ⟨rfl,_⟩:=g eR
     exact g5 eR
theorem X7:∀(n:Nat) (f:Formula),rn f≤n→mo f≤50000000→∀q:Nat,q≤4096→∃m d:Nat,sd n f (q:Int)=some ((m:Int),(d:Int))∧1≤m∧m≤mo f∧d≤mo f∧(mo f≤q→m=mo f∧d=rn f)∧(q < mo f→q < m):=by
 intro n
 induction n with
 | zero=>intro f h; rw [oK] at h; omega
 | succ n ih=>
  intro f i t q a
  rw [oK] at i
  have j:=rL f
  rw [sd]
  unfold AA
  obtain ⟨m,d,e,h1,p,s,c,g⟩:=UY q a (sd n) f.Kids (λk hk q a=>ih k (by have:=vz hk; omega) (by have:=yo hk; omega) q a) 1 0 eR
  have e':tM (q:Int) (sd n) f.Kids 1 0=some ((m:Int),(d:Int)):=e
  rw [e',aA]
  have o:wi0 .i64 ((d:Int)+1)=((d+1:Nat):Int):=by rw [mr eR eR]; omega
  simp only [o]
  refine ⟨m,d+1,Z,h1,eR,eR,λh=>?_,λh=>g eR⟩
  obtain ⟨rfl,rfl⟩:=c eR
  rw [oK]
  exact ⟨eR,eR⟩
theorem ZC (f:Formula) (g:mo f≤50000000):BY f=some (if mo f≤4096 then ((mo f:Int),(rn f:Int)) else (0,0)):=by
 unfold BY
 have:=B5 f
 obtain ⟨m,d,e,h1,i,j,a,c⟩:=X7 lP f (by rw [nV]; omega) g 4096 (aZ _)
 have e':sd lP f 4096=some ((m:Int),(d:Int)):=e
 rw [e',aA]
 by_cases h:mo f≤4096
 ·obtain ⟨rfl,rfl⟩:=a h
  have:¬((mo f:Int) > 4096):=by omega
  simp [this,h]
 ·have:=c eR
  have:((m:Int) > 4096):=by omega
  simp [this,h]
def uG:kL:=⟨zS,zS⟩
def IY (f:Formula):Bool:=if f.Op=1 then nk f.kL&&decide (f.Kids.length=0)&&decide (f.K=0) else if f.Op=2∨f.Op=3 then lJ f.kL uG&&decide (f.K=0) else decide (f.Op=4)&&lJ f.kL uG&&decide (0≤f.K)&&decide (f.K≤(f.Kids.length:Int))&&decide (1≤f.Kids.length)
theorem ZU (f:Formula):BW f=some (IY f):=by
 unfold BW IY
 simp only [Bo,aA,vn]
 by_cases h1:f.Op=1
 ·simp only [h1,aO,aJ]
  cases p:nk f.kL
  ·simp
  ·by_cases j:f.Kids.length=0
   ·have:f.Kids=[]:=bF j
    by_cases hk:f.K=0 <;> simp [this,hk]
   ·have:((f.Kids.length:Int)==0)=false:=by simp; intro h; exact j (by simp [h])
    simp only [aJ,aA,this,aB,aH,j,cE,Bool.and_false,gw]
 ·have n:(f.Op==1)=false:=by simpa using h1
  simp only [n,aB,aH,h1]
  by_cases c:f.Op=2∨f.Op=3
  ·have g:(if f.Op==2 then some (f.Op==2) else some (f.Op==3))=some true:=by
    rcases c with h | h <;> simp [h]
   simp only [g,aA,aJ,c]
   cases d:lJ f.kL ⟨zS,zS⟩ <;> by_cases hk:f.K=0 <;> simp [uG,d,hk]
  ·have g:(if f.Op==2 then some (f.Op==2) else some (f.Op==3))=some false:=by
    have a:f.Op≠2:=λh=>c (.inl h)
    have b:f.Op≠3:=λh=>c (.inr h)
    simp [a,b]
   simp only [g,aA,aB,aH,c]
   by_cases i:f.Op=4
   ·simp only [i,aO,aJ,aA,cD,eP]
    cases d:lJ f.kL ⟨zS,zS⟩
    ·simp [uG,d]
    ·by_cases c1:0≤f.K <;> by_cases c2:f.K≤(f.Kids.length:Int) <;> by_cases k:1≤f.Kids.length <;> simp [uG,d,c1,c2,k] <;> omega
   ·have o:(f.Op==4)=false:=by simpa using i
    simp [o,i]
mutual
def yk:Formula→Bool
 | ⟨o,n,r,ks⟩=>IY ⟨o,n,r,ks⟩&&decide (ks.length≤8)&&wellL ks
def wellL:List Formula→Bool
 | []=>true
 | k::ks=>yk k&&wellL ks
end
theorem Mr (f:Formula):yk f=(IY f&&decide (f.Kids.length≤8)&&wellL f.Kids):=by cases f; rw [yk]
theorem Ki:∀a:List Formula,wellL a=a.all yk
 | []=>rfl
 | k::a=>by rw [wellL,Ki a]; rfl
theorem Q2 (f:Formula→Option Bool):∀(l:List Formula) (i:Nat),px f l i=Df f l i
 | [],i=>by rw [px]; rfl
 | x::l,i=>by
  rw [px,Df]
  cases f x with
  | none=>rfl
  | some b=>
   simp only [aA]
   rw [Q2 f l (i+1)]
theorem Lp (f:Formula→Option Bool) (p:Formula→Bool) (l:List Formula) (h:∀x∈l,f x=some (p x)):rI l f=some (l.any p):=by
 unfold rI xU
 rw [Q2]
 rcases IQ f p l 0 h with ⟨e,h1⟩ | ⟨A,x,B,rfl,h1,a,e⟩
 ·rw [e,aA]
  have:l.any p=false:=by rw [List.any_eq_false]; intro x c; rw [h1 x c]; simp
  rw [this]; rfl
 ·rw [e,aA]
  have:(A++x::B).any p=true:=by simp [a]
  rw [this]
  congr 1
theorem Xk:∀(n:Nat) (f:Formula),rn f≤n→wi n f=some (yk f):=by
 intro n
 induction n with
 | zero=>intro f h; rw [oK] at h; omega
 | succ n ih=>
  intro f h
  rw [oK] at h
  rw [wi]
  unfold AF
  rw [ZU,aA,Mr,Lp _ (λk=>!yk k) f.Kids (λk hk=>by unfold By; rw [ih k (by have:=vz hk; omega)]; rfl)]
  rw [Ki]
  have e:(!(f.Kids.any λk=>!yk k))=f.Kids.all yk:=by rw [List.all_eq_not_any_not]
  cases IY f
  ·rfl
  ·by_cases a:f.Kids.length≤8
   ·have:((f.Kids.length:Int)≤8):=by omega
    simp [a,this,e]
   ·have:¬((f.Kids.length:Int)≤8):=by omega
    simp [a,this]
def si (f:Formula):Bool:=decide (mo f≤64)&&decide (rn f≤6)&&yk f
theorem Jb (f:Formula) (c:mo f≤50000000):wh f=some (si f):=by
 unfold wh si
 have d:=B5 f
 rw [ZC f c,aA,Xk lP f (by rw [nV]; omega)]
 have h1:=rL f
 by_cases h:mo f≤4096
 ·simp only [h,aJ]
  have a:((mo f:Int)≥1):=by omega
  simp only [a,cD,aJ,aA,vn]
  by_cases c1:mo f≤64 <;> by_cases c2:rn f≤6
  ·have d1:((mo f:Int)≤64):=by omega
   have d2:((rn f:Int)≤6):=by omega
   simp [c1,c2,d1,d2]
  ·have d1:((mo f:Int)≤64):=by omega
   have d2:¬((rn f:Int)≤6):=by omega
   simp [c1,c2,d1,d2]
  ·have d1:¬((mo f:Int)≤64):=by omega
   simp [c1,d1]
  ·have d1:¬((mo f:Int)≤64):=by omega
   simp [c1,d1]
 ·simp only [h,aH]
  have:¬mo f≤64:=by omega
  simp [this]
theorem Formula.ext' {a b:Formula} (h1:a.Op=b.Op) (c:a.K=b.K) (d:a.kL=b.kL) (g:a.Kids=b.Kids):a=b:=by
 cases a; cases b; simp only at h1 c d g; subst h1 c d g; rfl
theorem Wz (g:Formula×Formula→Option Bool):∀(l m:List Formula),l.length=m.length→(∀x∈l,∀y,∃b,g (x,y)=some b∧(b=true↔x=y))→∀(A:List Formula),
  ∃b,mY (A++m) g l A.length=some b∧(b=true↔l=m)
 | [],m,c,_,A=>by
  obtain rfl:=bF c.symm
  exact ⟨true,Z,fb⟩
 | x::l,[],c,_,A=>by simp at c
 | x::l,y::m,c,d,A=>by
  rw [mY]
  obtain ⟨b,e,h⟩:=d x fb y
  have i1:mT (A++y::m) (A.length:Int)=some y:=ov _ _ _ _ Z
  rw [i1,aA,e,aA]
  cases b with
  | false=>
   refine ⟨false,Z,?_⟩
   have:x≠y:=λa=>by have:=h.2 a; simp at this
   simp [this]
  | true=>
   have a:=h.1 Z
   obtain ⟨b,i,n⟩:=Wz g l m (by simpa using c) (λz o=>d z (by simp [o])) (A++[y])
   simp only [bR,aB,aH]
   have j:A++y::m=(A++[y])++m:=by simp
   have k:A.length+1=(A++[y]).length:=by simp
   rw [j,k,i]
   exact ⟨b,Z,by rw [n]; simp [a]⟩
theorem Ze:∀(n:Nat) (f:Formula),rn f≤n→∀g,∃b,sN n f g=some b∧(b=true↔f=g):=by
 intro n
 induction n with
 | zero=>intro f h; rw [oK] at h; omega
 | succ n ih=>
  intro f h g
  rw [oK] at h
  rw [sN]
  unfold Be
  by_cases h1:f.Op=g.Op
  ·by_cases a:f.K=g.K
   ·by_cases c:f.kL=g.kL
    ·have i:lJ f.kL g.kL=true:=lO.2 c
     simp only [h1,a,i,aO,aJ,aA]
     unfold oI
     by_cases d:f.Kids.length=g.Kids.length
     ·have:((f.Kids.length:Int) != (g.Kids.length:Int))=false:=by simp [d]
      simp only [this,aB,aH]
      obtain ⟨b,e,o⟩:=Wz (λx=>sN n x.1 x.2) f.Kids g.Kids d (λx p y=>ih x (by have:=vz p; omega) y) []
      simp only [bN,bZ] at e
      rw [e]
      refine ⟨b,fb,o.trans ⟨λhk=>Formula.ext' h1 a c hk,λhk=>by rw [hk]⟩⟩
     ·have:((f.Kids.length:Int) != (g.Kids.length:Int))=true:=by simp; omega
      simp only [this,aJ]
      exact ⟨false,Z,by simp; intro hk; rw [hk] at d; exact d Z⟩
    ·have i:lJ f.kL g.kL=false:=by rw [←fQ,lO]; exact c
     simp only [h1,a,i,aO,aJ,aA,aB,aH]
     exact ⟨false,Z,by simp; intro hk; rw [hk] at c; exact c Z⟩
   ·have k:(f.K==g.K)=false:=by simpa using a
    simp only [h1,k,aO,aJ,aA,aB,aH]
    exact ⟨false,Z,by simp; intro hk; rw [hk] at a; exact a Z⟩
  ·have j:(f.Op==g.Op)=false:=by simpa using h1
   simp only [j,aA,aB,aH]
   exact ⟨false,Z,by simp; intro hk; rw [hk] at h1; exact h1 Z⟩
def vr {α:Type} (R:α→Bool) (lt:α→α→Bool) (last:Option α):List α→Bool→α→Bool×α
 | [],ok,b=>(ok,b)
 | x::xs,ok,b=>if R x&&last.all (λy=>lt y x)&&(!ok||lt x b) then vr R lt last xs true x else vr R lt last xs ok b
def DF {α:Type} (w:Nat) (R:α→Bool) (lt:α→α→Bool) (d:α) (l:List α):Nat→List α→Option (List α)
 | 0,_=>none
 | n+1,out=>if !(vr R lt out.getLast? l false d).1 then some out else (nF w out [(vr R lt out.getLast? l false d).2]).bind λo=>DF w R lt d l n o
section
variable {α:Type} {R:α→Bool} {lt:α→α→Bool}
theorem Kz (H:FL (λa b=>lt a b=true) λx=>R x=true) (last:Option α):∀(l:List α) (ok:Bool) (b:α),(ok=true→R b=true∧last.all (λy=>lt y b)=true)→
  ((vr R lt last l ok b).1=false→ok=false∧∀x∈l,R x=true→last.all (λy=>lt y x)=false)∧
  ((vr R lt last l ok b).1=true→R (vr R lt last l ok b).2=true∧last.all (λy=>lt y (vr R lt last l ok b).2)=true∧((vr R lt last l ok b).2∈l∨(ok=true∧(vr R lt last l ok b).2=b))∧
   (∀x∈l,R x=true→last.all (λy=>lt y x)=true→lt x (vr R lt last l ok b).2=false)∧(ok=true→lt b (vr R lt last l ok b).2=false))
 | [],ok,b,j=>by
  simp only [vr]
  exact ⟨λh=>⟨h,fb⟩,λh=>⟨(j h).1,(j h).2,.inr ⟨h,trivial⟩,fb,λ_=>by
   cases n:lt b b with
   | false=>rfl
   | true=>exact absurd n (H.irrefl b (j h).1)⟩⟩
 | x::xs,ok,b,j=>by
  rw [vr]
  by_cases k:(R x&&last.all (λy=>lt y x)&&(!ok||lt x b))=true
  ·rw [aP k]
   simp only [bL,fX,gn] at k
   obtain ⟨⟨A,t⟩,u⟩:=k
   obtain ⟨h1,s⟩:=Kz H last xs true x (λ_=>⟨A,t⟩)
   refine ⟨λh=>?_,λh=>?_⟩
   ·cases (h1 h).1
   ·obtain ⟨p,a2,a3,a4,a5⟩:=s h
    refine ⟨p,a2,?_,?_,?_⟩
    ·rcases a3 with a3 | ⟨_,a3⟩
     ·exact .inl (by simp [a3])
     ·exact .inl (by rw [a3]; simp)
    ·intro y g c d
     rcases aS.1 g with rfl | g
     ·exact a5 Z
     ·exact a4 y g c d
    ·intro i
     cases n:lt b (vr R lt last xs true x).2 with
     | false=>rfl
     | true=>
      have v:lt x b=true:=by rcases u with h | h; rw [i] at h; cases h; exact h
      have:=H.trans x b _ A (j i).1 p v n
      simp only [a5 Z] at this
      cases this
  ·rw [aN k]
   obtain ⟨h1,s⟩:=Kz H last xs ok b j
   refine ⟨λh=>⟨(h1 h).1,λy g c=>?_⟩,λh=>?_⟩
   ·rcases aS.1 g with rfl | g
    ·have i:=(h1 h).1
     cases t:last.all (λz=>lt z y) with
     | false=>rfl
     | true=>exact absurd (by simp [c,t,i]) k
    ·exact (h1 h).2 y g c
   ·obtain ⟨p,a2,a3,a4,a5⟩:=s h
    refine ⟨p,a2,?_,?_,a5⟩
    ·rcases a3 with a3 | a3
     ·exact .inl (by simp [a3])
     ·exact .inr a3
    ·intro y g c d
     rcases aS.1 g with rfl | g
     ·cases n:lt y (vr R lt last xs ok b).2 with
      | false=>rfl
      | true=>
       cases ok with
       | false=>exact absurd (by simp [c,d]) k
       | true=>
        have w:lt y b=false:=by
         cases G:lt y b with
         | false=>rfl
         | true=>exact absurd (by simp [c,d,G]) k
        have q:=j Z
        rcases H.total y b c q.1 with o | o | o
        ·rw [w] at o; cases o
        ·subst o; rw [a5 Z] at n; cases n
        ·have:=H.trans b y _ q.1 c p o n
         simp only [a5 Z] at this
         cases this
     ·exact a4 y g c d
theorem zI (H:FL (λa b=>lt a b=true) λx=>R x=true) {l:List α} (d:∀x∈l,R x=true) (h:l.Pairwise λa b=>lt a b=true):l.Nodup:=by
 refine h.imp_of_mem (λ{a b} ha g c e=>?_)
 subst e
 exact H.irrefl a (d a ha) c
theorem oE:∀{l m:List α},l.Nodup→(∀x∈l,x∈m)→l.length≤m.length
 | [],_,_,_=>by simp
 | x::l,m,g,c=>by
  obtain ⟨A,B,rfl⟩:=List.append_of_mem (c x fb)
  have a:=ey.1 g
  have:=oE (l:=l) (m:=A++B) a.2 (λy d=>by
   have:=c y (ew _ d)
   simp only [aX,aS] at this ⊢
   rcases this with h | h | h
   ·exact .inl h
   ·subst h; exact absurd d a.1
   ·exact .inr h)
  simp at this ⊢; omega
theorem Fi (H:FL (λa b=>lt a b=true) λx=>R x=true) {w:Nat} (hw:w≤1000) (d:α) (l:List α) (M:l.length≤1000000000):∀(n:Nat) (out:List α),l.length < n+out.length→out.Pairwise (λa b=>lt a b=true)→(∀x∈out,x∈l∧R x=true)→
  (∀x∈l,R x=true→x∈out∨out.getLast?.all (λy=>lt y x)=true)→∃s,DF w R lt d l n out=some s∧zU (λa b=>lt a b=true) (λx=>R x=true) l s
 | 0,out,O,hp,hm,v=>by
  exfalso
  have:=oE (zI H (λx c=>(hm x c).2) hp) (λx c=>(hm x c).1)
  omega
 | n+1,out,O,hp,hm,v=>by
  rw [DF]
  obtain ⟨h1,J⟩:=Kz H out.getLast? l false d (λh=>by cases h)
  have hlen:=oE (zI H (λx c=>(hm x c).2) hp) (λx c=>(hm x c).1)
  cases I:(vr R lt out.getLast? l false d).1 with
  | false=>
   rw [aP fb]
   refine ⟨out,Z,hp,λx=>⟨hm x,λc=>?_⟩⟩
   rcases v x c.1 c.2 with h | h
   ·exact h
   ·rw [(h1 I).2 x c.1 c.2] at h; cases h
  | true=>
   rw [aN fb]
   obtain ⟨t,a2,a3,a4,_⟩:=J I
   generalize (vr R lt out.getLast? l false d).2=b at *
   have u:b∈l:=by rcases a3 with h | ⟨h,_⟩; exact h; cases h
   have p:∀y∈out,lt y b=true:=by
    intro y g
    obtain ⟨A,z,rfl⟩:∃A z,out=A++[z]:=by
     rcases dt out with h | ⟨A,z,h⟩
     ·subst h; cases g
     ·exact ⟨A,z,by rw [h]; simp⟩
    simp at a2
    rcases aX.1 g with g | g
    ·have G:lt y z=true:=(dz.1 hp).2.2 y g z fb
     exact H.trans y z b (hm y (by simp [g])).2 (hm z fb).2 t G a2
    ·simp at g; subst g; exact a2
   have q:(out++[b]).Pairwise (λa b=>lt a b=true):=dz.2 ⟨hp,fb,λx c y g=>by simp at g; subst g; exact p x c⟩
   have k:∀x∈out++[b],x∈l∧R x=true:=λx c=>by
    rcases aX.1 c with c | c
    ·exact hm x c
    ·simp at c; subst c; exact ⟨u,t⟩
   have j:=oE (zI H (λx c=>(k x c).2) q) (λx c=>(k x c).1)
   simp at j
   rw [nL (by simp only [aM,bZ]; have:(out.length+(0+1))*w≤1000000000*1000:=jv eR hw; omega) fo]
   simp only [aA]
   refine Fi H hw d l M n (out++[b]) fo q k (λx c i=>?_)
   rcases v x c i with h | h
   ·exact .inl (by simp [h])
   ·have L:=a4 x c i h
    rcases H.total x b i t with o | o | o
    ·rw [L] at o; cases o
    ·subst o; exact .inl fb
    ·exact .inr (by simp [o])
end
theorem I3 {α:Type} (A:List α) (x:α) (a:A.length < 4611686018427387904):mT (A++[x]) (wi0 .i64 (((A++[x]).length:Int)-1))=some x:=by
 rw [mr (by simp; try omega) (by simp; try omega)]
 rw [ov A x [] _ (by simp; try omega)]
theorem Mn (out:List kK) (k:out.length < 4611686018427387904):∀(l:List kK) (ok:Bool) (b:kK),wZ out l ok b=some (vr mQ Hm out.getLast? l ok b)
 | [],ok,b=>rfl
 | x::xs,ok,b=>by
  rw [wZ,vr]
  have cmp:∀a b,∃c,uu a b=some c∧decide (c < 0)=Hm a b:=λa b=>by
   obtain ⟨c,h1,j⟩:=Fj a b
   exact ⟨c,h1,by rw [cC,←j]; simp⟩
  rw [wY,Mn out k xs true x,Mn out k xs ok b]
  obtain ⟨c,h1,j⟩:=cmp x b
  rcases dt out with h | ⟨A,z,h⟩
  ·subst h
   simp only [h1,aA,j,bZ,Option.all,jO]
   generalize Hm x b=p
   cases mQ x <;> cases ok <;> cases p <;> simp
  ·have i:out=A++[z]:=by rw [h]; simp
   obtain ⟨u,s,t⟩:=cmp z x
   have d:out.getLast? =some z:=by rw [i]; simp
   have g:mT out (wi0 .i64 ((out.length:Int)-1))=some z:=by rw [i]; exact I3 A z (by rw [i] at k; simp at k; omega)
   have n:((out.length:Int)==0)=false:=by rw [i]; simp; omega
   rw [d]
   simp only [n,g,s,h1,aA,j,t,Option.all]
   rcases dG (Hm x b) with hp | hp <;> rcases dG (Hm z x) with o | o <;> rcases dG (mQ x) with q | q <;> cases ok <;> simp [hp,o,q]
theorem My (out:List kL) (g:out.length < 4611686018427387904):∀(l:List kL) (ok:Bool) (b:kL),wQ out l ok b=some (vr nk Cz out.getLast? l ok b)
 | [],ok,b=>rfl
 | x::xs,ok,b=>by
  rw [wQ,vr]
  rw [Dh,My out g xs true x,My out g xs ok b]
  rcases dt out with h | ⟨A,z,h⟩
  ·subst h
   simp only [Bm,aA,bZ,Option.all,jO]
   generalize Cz x b=p
   cases nk x <;> cases ok <;> cases p <;> simp
  ·have d:out=A++[z]:=by rw [h]; simp
   have a:out.getLast? =some z:=by rw [d]; simp
   have c:mT out (wi0 .i64 ((out.length:Int)-1))=some z:=by rw [d]; exact I3 A z (by rw [d] at g; simp at g; omega)
   have i:((out.length:Int)==0)=false:=by rw [d]; simp; omega
   rw [a]
   simp only [i,c,Bm,aA,Option.all]
   rcases dG (Cz x b) with hp | hp <;> rcases dG (Cz z x) with j | j <;> rcases dG (nk x) with k | k <;> cases ok <;> simp [hp,j,k]
theorem gtS (a b:ByteArray):(!(uJ a b||mx a b))=uJ b a:=by
 rcases Fe a b with h | h | h
 ·simp [h,O5 h]
 ·subst h; simp [wA,yi]
 ·have c:=O5 h
  have d:mx a b=false:=S5 (by rintro rfl; rw [yi] at h; cases h)
  simp [h,c,d]
theorem Vi {s:ByteArray} (h:oM s=true):mx s zS=false:=S5 (λe=>by have:=rA h; rw [e,ZV] at this; omega)
theorem Me (out:List ByteArray) (k:out.length < 4611686018427387904):∀(l:List ByteArray) (b:ByteArray),
  ∃n,xd out l b=some n∧(vr oM uJ out.getLast? l (!mx b zS) b)=(!mx n zS,n)
 | [],b=>⟨b,Z,Z⟩
 | x::xs,b=>by
  rw [xd,vr]
  obtain ⟨w,u,c⟩:=Me out k xs x
  obtain ⟨y,v,i⟩:=Me out k xs b
  rw [yH,u,v]
  by_cases g:oM x=true
  ·rw [Vi g] at c
   simp only [cX] at c
   rcases dt out with h | ⟨A,z,h⟩
   ·subst h
    simp only [aA,bZ,Option.all,jO,g] at *
    rw [c,i]
    generalize uJ x b=p
    generalize mx b zS=q
    cases p <;> cases q <;> simp
   ·have j:out=A++[z]:=by rw [h]; simp
    have a:out.getLast? =some z:=by rw [j]; simp
    have d:mT out (wi0 .i64 ((out.length:Int)-1))=some z:=by rw [j]; exact I3 A z (by rw [j] at k; simp at k; omega)
    have o:((out.length:Int)==0)=false:=by rw [j]; simp; omega
    rw [a] at c i ⊢
    simp only [o,d,aA,Option.all,gtS,g]
    rw [c,i]
    rcases dG (uJ x b) with hp | hp <;> rcases dG (uJ z x) with s | s <;> rcases dG (mx b zS) with t | t <;> simp [hp,s,t]
  ·simp only [fQ] at g
   rw [g,i]
   simp
theorem Yo (a:List kK):∀(n:Nat) (out s:List kK),DF 136 mQ Hm (⟨0,⟨zS,zS⟩,zS,⟨zS,zS⟩,⟨zS,zS⟩,zS⟩:kK) a n out=some s→s.length < 4611686018427387904→yv a n out=some s∧out.length≤s.length
 | 0,out,s,h,_=>by cases h
 | n+1,out,s,h,i=>by
  rw [DF] at h
  rw [yv]
  have key:out.length≤s.length→wZ out a false (⟨0,⟨zS,zS⟩,zS,⟨zS,zS⟩,⟨zS,zS⟩,zS⟩:kK)=_:=λk=>Mn out eR a false _
  split at h
  ·rename_i h1
   cases h
   rw [key (aZ _)]
   simp only [aA]
   rw [aP h1]
   exact ⟨Z,aZ _⟩
  ·rename_i h1
   obtain ⟨o,c,d⟩:=bind_some h
   have g:=Yo a n o s d i
   have j:out.length+1=o.length:=by
    unfold nF at c; split at c
    ·cases c; simp
    ·cases c
   rw [key eR]
   simp only [aA]
   rw [aN h1,c]
   exact ⟨g.1,eR⟩
theorem YL (a:List kL):∀(n:Nat) (out s:List kL),DF 32 nk Cz (⟨zS,zS⟩:kL) a n out=some s→s.length < 4611686018427387904→yw a n out=some s∧out.length≤s.length
 | 0,out,s,h,_=>by cases h
 | n+1,out,s,h,i=>by
  rw [DF] at h
  rw [yw]
  have key:out.length≤s.length→wQ out a false (⟨zS,zS⟩:kL)=_:=λk=>My out eR a false _
  split at h
  ·rename_i h1
   cases h
   rw [key (aZ _)]
   simp only [aA]
   rw [aP h1]
   exact ⟨Z,aZ _⟩
  ·rename_i h1
   obtain ⟨o,c,d⟩:=bind_some h
   have g:=YL a n o s d i
   have j:out.length+1=o.length:=by
    unfold nF at c; split at c
    ·cases c; simp
    ·cases c
   rw [key eR]
   simp only [aA]
   rw [aN h1,c]
   exact ⟨g.1,eR⟩
theorem YT (a:List ByteArray):∀(n:Nat) (out s:List ByteArray),DF 16 oM uJ zS a n out=some s→s.length < 4611686018427387904→yx a n out=some s∧out.length≤s.length
 | 0,out,s,h,_=>by cases h
 | n+1,out,s,h,k=>by
  rw [DF] at h
  rw [yx]
  have key:out.length≤s.length→∃d,xd out a zS=some d∧vr oM uJ out.getLast? a false zS=(!mx d zS,d):=λq=>by
   have:=Me out eR a zS
   rw [wA] at this
   exact this
  split at h
  ·rename_i h1
   cases h
   obtain ⟨d,g,k2⟩:=key (aZ _)
   rw [g]
   rw [k2] at h1
   simp only [aA]
   rw [aP (by simpa using h1)]
   exact ⟨Z,aZ _⟩
  ·rename_i h1
   obtain ⟨o,c,i⟩:=bind_some h
   have j:=YT a n o s i k
   have p:out.length+1=o.length:=by
    unfold nF at c; split at c
    ·cases c; simp
    ·cases c
   obtain ⟨d,g,k2⟩:=key eR
   rw [g]
   rw [k2] at h1 c
   simp only [aA]
   rw [aN (by simpa using h1),c]
   exact ⟨j.1,eR⟩
abbrev aab (l s:List ByteArray):=zU (λa b=>uJ a b=true) (λx=>oM x=true) l s
abbrev V7 (l s:List kL):=zU (λa b=>Cz a b=true) (λx=>nk x=true) l s
abbrev Rr (l s:List kK):=zU (λa b=>Hm a b=true) (λx=>mQ x=true) l s
theorem D1 {α:Type} {lt:α→α→Bool} {R:α→Bool} (H:FL (λa b=>lt a b=true) λx=>R x=true) {l s:List α} (h:zU (λa b=>lt a b=true) (λx=>R x=true) l s):s.length≤l.length :=
 oE (zI H (λx c=>((h.2 x).1 c).2) h.1) (λx c=>((h.2 x).1 c).1)
theorem Tw (l:List kK) (c:l.length≤1000000000):∃s,zK l=some s∧Rr l s:=by
 obtain ⟨s,h1,a⟩:=Fi Iv (w:=136) eR (⟨0,⟨zS,zS⟩,zS,⟨zS,zS⟩,⟨zS,zS⟩,zS⟩:kK) l c lP [] (by rw [sP]; omega) fb fb (λx _ _=>.inr Z)
 exact ⟨s,(Yo l lP [] s h1 (by have:=D1 Iv a; omega)).1,a⟩
theorem Y0 (l:List kL) (c:l.length≤1000000000):∃s,E3 l=some s∧V7 l s:=by
 obtain ⟨s,h1,a⟩:=Fi (M6 λx=>nk x=true) (w:=32) eR (⟨zS,zS⟩:kL) l c lP [] (by rw [sP]; omega) fb fb (λx _ _=>.inr Z)
 exact ⟨s,(YL l lP [] s h1 (by have:=D1 (M6 _) a; omega)).1,a⟩
theorem Zd (l:List ByteArray) (c:l.length≤1000000000):∃s,EU l=some s∧aab l s:=by
 obtain ⟨s,h1,a⟩:=Fi (YP λx=>oM x=true) (w:=16) eR zS l c lP [] (by rw [sP]; omega) fb fb (λx _ _=>.inr Z)
 exact ⟨s,(YT l lP [] s h1 (by have:=D1 (YP _) a; omega)).1,a⟩
def zC:kK:=⟨0,⟨zS,zS⟩,zS,⟨zS,zS⟩,⟨zS,zS⟩,zS⟩
theorem Tq (f:kK→Option Bool):∀(n:Nat) (l:List kK) (i j:Int),pO f n l i j=GP f zC n l i j
 | 0,_,_,_=>rfl
 | n+1,l,i,j=>by
  rw [pO,GP]
  simp only [Tq f n]
  rfl
theorem TQ (f:kK→Option Bool):∀(l:List kK) (i:Nat),sF f l i=Df f l i
 | [],_=>rfl
 | x::l,i=>by rw [sF,Df]; simp only [TQ f l]
theorem XA (f:kK→Option Bool) (l:List kK):vU l f=JY f zC l:=by
 unfold vU JY yS
 simp only [TQ,Tq]
theorem Rh (i:Int):∀(n:Nat) (l:List kK) (k j:Int),rV i n l k j=ER nE i n l k j
 | 0,_,_,_=>rfl
 | n+1,l,k,j=>by
  rw [rV,ER]
  simp only [Rh i n]
theorem Qt (l:List kK):∀(n:Nat) (i:Int),sc l n i=Fz nE zC l n i
 | 0,_=>rfl
 | n+1,i=>by
  rw [sc,Fz]
  simp only [Qt l n,Rh]
  rfl
theorem Ya (l:List kK):xL l=Mc nE zC l:=by
 unfold xL Mc
 simp only [Qt]
theorem Tu (f:kL→Option Bool):∀(n:Nat) (l:List kL) (i j:Int),pP f n l i j=GP f zR n l i j
 | 0,_,_,_=>rfl
 | n+1,l,i,j=>by
  rw [pP,GP]
  simp only [Tu f n]
  rfl
theorem Tk (f:kL→Option Bool):∀(l:List kL) (i:Nat),sH f l i=Df f l i
 | [],_=>rfl
 | x::l,i=>by rw [sH,Df]; simp only [Tk f l]
theorem X6 (f:kL→Option Bool) (l:List kL):vy l f=JY f zR l:=by
 unfold vy JY yT
 simp only [Tk,Tu]
theorem RF (i:Int):∀(n:Nat) (l:List kL) (k j:Int),rU i n l k j=ER lJ i n l k j
 | 0,_,_,_=>rfl
 | n+1,l,k,j=>by
  rw [rU,ER]
  simp only [RF i n]
theorem Qp (l:List kL):∀(n:Nat) (i:Int),sb l n i=Fz lJ zR l n i
 | 0,_=>rfl
 | n+1,i=>by
  rw [sb,Fz]
  simp only [Qp l n,RF]
  rfl
theorem XJ (l:List kL):xS l=Mc lJ zR l:=by
 unfold xS Mc
 simp only [Qp]
theorem aaV {l:List kK} (a:l.length≤1000000000):wJ l=some l:=by
 unfold wJ
 rw [nL fo fo]
 simp
theorem abk {l:List kL} (a:l.length≤1000000000):wH l=some l:=by
 unfold wH
 rw [nL fo fo]
 simp
theorem acb (l:List kK) (d:l.length≤1000000000):∃s,zm l=some s∧Rr l s:=by
 unfold zm
 rw [aaV d]
 simp only [aA]
 rw [XA,L7 _ (λx=>!mQ x) zC l eR (λx _=>by simp [FF,uw])]
 simp only [aA,gE]
 have i:(l.filter λx=>mQ x).length≤l.length:=gj _ _
 obtain ⟨s,h1,h,c⟩:=HT (eq:=nE) (lt:=λa b=>Hm a b=true) (P:=λx=>mQ x=true) (cf:=λx=>vk x.1 x.2) (l:=l.filter λx=>mQ x) (λx y=>xo) Iv (λx g=>(dV.1 g).2) eR (λx y _ _=>Cj x y)
 rw [h1]
 simp only [aA]
 rw [Ya,MA _ _ _ eR]
 refine ⟨_,Z,c.1,λx=>?_⟩
 rw [c.2]
 simp
theorem aaN (l:List kL) (d:l.length≤1000000000):∃s,F7 l=some s∧V7 l s:=by
 unfold F7
 rw [abk d]
 simp only [aA]
 rw [X6,L7 _ (λx=>!nk x) zR l eR (λx _=>by simp [FM,Bo])]
 simp only [aA,gE]
 have i:(l.filter λx=>nk x).length≤l.length:=gj _ _
 obtain ⟨s,h1,h,c⟩:=HT (eq:=lJ) (lt:=λa b=>Cz a b=true) (P:=λx=>nk x=true) (cf:=λx=>tY x.1 x.2) (l:=l.filter λx=>nk x) (λx y=>lO) (M6 _) (λx g=>(dV.1 g).2) eR (λx y _ _=>Cl x y)
 rw [h1]
 simp only [aA]
 rw [XJ,MA _ _ _ eR]
 refine ⟨_,Z,c.1,λx=>?_⟩
 rw [c.2]
 simp
theorem Pn (b:List kK):∀(A l:List kK),zq (A++l) l A.length=some true
 | A,[]=>rfl
 | A,x::l=>by
  rw [zq,ov A x l _ Z]
  simp only [aA]
  rw [xo.2 Z]
  simp only [bR,aB,aH]
  have:=Pn b (A++[x]) l
  simpa using this
theorem abY (l:List kK):BC l l=some true:=by
 unfold BC
 rw [aN fb]
 exact Pn [] [] l
theorem Pk:∀(A l:List kL),uo (A++l) l A.length=some true
 | A,[]=>rfl
 | A,x::l=>by
  rw [uo,ov A x l _ Z]
  simp only [aA]
  rw [lO.2 Z]
  simp only [bR,aB,aH]
  have:=Pk (A++[x]) l
  simpa using this
theorem abv (l:List kL):yM l l=some true:=by
 unfold yM
 rw [aN fb]
 exact Pk [] l
def tt {κ:Type} (a:List κ):List (κ×Bool):=a.map λk=>(k,true)
def uX {κ:Type} (beq:κ→κ→Bool) (a:List κ) (k:κ):Bool:=a.any λx=>beq k x
def ins {κ:Type} (beq:κ→κ→Bool) (a:List κ) (k:κ):List κ:=if uX beq a k then a else a++[k]
section
variable {κ:Type} {beq:κ→κ→Bool}
theorem BL (c:∀{x y},beq x y=true↔x=y) (a:List κ) (k:κ):uX beq a k=true↔k∈a:=by
 simp [uX,eJ,c]
theorem VR (a:List κ):(tt a).length=a.length:=by simp [tt]
theorem WU (a:List κ) (k:κ):B4 beq (tt a) k false=uX beq a k:=by
 unfold B4 mO uX tt
 induction a with
 | nil=>rfl
 | cons x xs ih=>
  simp only [bY,fB,gd]
  cases h:beq k x with
  | true=>simp
  | false=>simpa using ih
theorem Zv (n:∀{x y},beq x y=true↔x=y) (a:List κ) (k:κ):rW beq (tt a) k true=tt (ins beq a k):=by
 unfold rW ins
 have o:(tt a).findIdx? (λp=>beq k p.1)=a.findIdx? (λx=>beq k x):=by
  unfold tt; rw [gY]; rfl
 rw [o]
 cases h:a.findIdx? (λx=>beq k x) with
 | none=>
  rw [gG] at h
  rw [aN]
  ·simp [tt]
  ·intro d
   unfold uX at d
   rw [eJ] at d
   obtain ⟨x,q,c⟩:=d
   rw [h x q] at c
   cases c
 | some i=>
  rw [eK] at h
  obtain ⟨hi,h1,_⟩:=h
  have e:=n.1 h1
  rw [aP]
  ·simp only [tt]
   apply eZ
   intro j
   rw [fE]
   split
   ·rename_i g
    subst g
    simp [hi,e]
   ·rfl
  ·unfold uX
   exact eJ.2 ⟨a[i],List.getElem_mem hi,h1⟩
end
section
variable {all:List kK} {wants:List kL} {T:List kL} {W:List ByteArray} {R:List kK}
def sn (c:kK):List kL:=if c.Kind=1 then [] else if c.Kind=4 then [c.B,c.C] else [c.B]
end
theorem SR (x:kK):∀l:List kK,E4 l x=some (uX nE l x)
 | []=>rfl
 | y::l=>by
  have ih:=SR x l
  unfold E4 at ih ⊢
  rw [BT,ih]
  have:nE y x=nE x y:=by rw [cC,xo,xo]; exact eq_comm
  rw [this]
  simp only [uX,gd]
  cases nE x y <;> simp
theorem aaa {c:kK} (h:mQ c=true):DU c=some (c.Head::sn c):=by
 unfold DU
 rw [uw,h]
 simp only [aA,bR,aB,aH]
 have a:c.Kind=1∨c.Kind=2∨c.Kind=3∨c.Kind=4:=by rcases rT h with h | h | h | h <;> simp [h.1]
 rcases a with k | k | k | k
 ·simp [k,sn]
 ·rw [aP (by simp [k]),nL fb fb]
  simp [k,sn]
 ·rw [aP (by simp [k]),nL fb fb]
  simp [k,sn]
 ·rw [aP (by simp [k]),nL fb fb]
  simp only [aA]
  rw [aP (by simp [k]),nL fb fb]
  simp [k,sn]
theorem zU.congr {α:Type} {lt:α→α→Prop} {P:α→Prop} {l m s:List α} (h:zU lt P l s) (hm:∀x,x∈l↔x∈m):zU lt P m s:=⟨h.1,λx=>by rw [h.2,hm]⟩
theorem ZB {κ:Type} (a:List κ):(tt a).map (·.1)=a:=by simp [tt,gk]
theorem Q3:∀(l:List kK) (n:Int),0≤n→n≤4000000000000000000→(∀c∈l,c.Head.kO.size+c.Head.Word.size+c.lV.size+c.B.kO.size+c.B.Word.size+c.C.kO.size+c.C.Word.size+c.lW.size≤1000000000)→n+l.length*1000000020≤4000000000000000000→
  ∃r,tD l n=some r∧n+20*l.length≤r
 | [],n,_,_,_,_=>⟨n,Z,fb⟩
 | c::l,n,o,h1,a,i=>by
  have h:=a c fb
  simp only [aM] at i ⊢
  rw [tD]
  rw [mr (x:=20+(c.Head.kO.size:Int)) eR eR,mr (x:=20+(c.Head.kO.size:Int)+(c.Head.Word.size:Int)) eR eR,mr (x:=20+(c.Head.kO.size:Int)+(c.Head.Word.size:Int)+(c.lV.size:Int)) eR eR,mr (x:=20+(c.Head.kO.size:Int)+(c.Head.Word.size:Int)+(c.lV.size:Int)+(c.B.kO.size:Int)) eR eR,mr (x:=20+(c.Head.kO.size:Int)+(c.Head.Word.size:Int)+(c.lV.size:Int)+(c.B.kO.size:Int)+(c.B.Word.size:Int)) eR eR,mr (x:=20+(c.Head.kO.size:Int)+(c.Head.Word.size:Int)+(c.lV.size:Int)+(c.B.kO.size:Int)+(c.B.Word.size:Int)+(c.C.kO.size:Int)) eR eR,mr (x:=20+(c.Head.kO.size:Int)+(c.Head.Word.size:Int)+(c.lV.size:Int)+(c.B.kO.size:Int)+(c.B.Word.size:Int)+(c.C.kO.size:Int)+(c.C.Word.size:Int)) eR eR,mr (x:=20+(c.Head.kO.size:Int)+(c.Head.Word.size:Int)+(c.lV.size:Int)+(c.B.kO.size:Int)+(c.B.Word.size:Int)+(c.C.kO.size:Int)+(c.C.Word.size:Int)+(c.lW.size:Int)) eR eR,mr eR eR]
  obtain ⟨r,g,k⟩:=Q3 l (n+(20+(c.Head.kO.size:Int)+(c.Head.Word.size:Int)+(c.lV.size:Int)+(c.B.kO.size:Int)+(c.B.Word.size:Int)+(c.C.kO.size:Int)+(c.C.Word.size:Int)+(c.lW.size:Int))) eR eR (λd j=>a d (by simp [j])) eR
  exact ⟨r,g,eR⟩
def AH (c:kK):Nat:=c.Head.kO.size+c.Head.Word.size+c.lV.size+c.B.kO.size+c.B.Word.size+c.C.kO.size+c.C.Word.size+c.lW.size
theorem QE (l:List kK) (d:l.length≤100000000) (a:∀c∈l,AH c≤1000000000):∃r,AR l=some r:=by
 obtain ⟨r,h,_⟩:=Q3 l 0 eR eR a eR
 exact ⟨r,h⟩
section
variable {κ γ:Type} {beq:κ→κ→Bool}
theorem vG (a:∀{x y},beq x y=true↔x=y) {A B:List (κ×γ)} {k:κ} {x:γ} (c:∀p∈A,p.1≠k):mO beq (A++(k,x)::B) k=some x:=by
 unfold mO
 rw [jP]
 have:A.find? (λp=>beq k p.1)=none:=gS.2 (λp hp h=>c p hp (a.1 h).symm)
 rw [this]
 simp [a.2 (rfl:k=k)]
theorem Af (a:∀{x y},beq x y=true↔x=y) {l:List (κ×γ)} {k:κ} (h:∀p∈l,p.1≠k):mO beq l k=none:=by
 unfold mO
 rw [gS.2 λp hp c=>h p hp (a.1 c).symm]
 rfl
theorem BZ (a:∀{x y},beq x y=true↔x=y) {A B:List (κ×γ)} {k:κ} {x y:γ} (c:∀p∈A,p.1≠k):rW beq (A++(k,x)::B) k y=A++(k,y)::B:=by
 have h1:(A++(k,x)::B).findIdx? (λp=>beq k p.1)=some A.length:=by
  rw [iF,gG.2 (λp hp=>by
   cases h:beq k p.1 with
   | false=>rfl
   | true=>exact absurd (a.1 h).symm (c p hp))]
  simp [fw,a.2 (rfl:k=k)]
 rw [wc h1]
 simp
theorem Gn (a:∀{x y},beq x y=true↔x=y) {l:List (κ×γ)} {k:κ} {y:γ} (h:∀p∈l,p.1≠k):rW beq l k y=l++[(k,y)]:=by
 refine Ar (gG.2 λp hp=>?_) y
 cases c:beq k p.1 with
 | false=>rfl
 | true=>exact absurd (a.1 c).symm (h p hp)
theorem zl (k:κ):∀(l:List (κ×γ)),(∀p∈l,p.1≠k)∨∃A x B,l=A++(k,x)::B∧∀p∈A,p.1≠k
 | []=>.inl (λ_ h=>by cases h)
 | p::l=>by
  by_cases hp:p.1=k
  ·exact .inr ⟨[],p.2,l,by rw [←hp]; rfl,λ_ h=>by cases h⟩
  ·rcases zl k l with h | ⟨A,x,B,rfl,h⟩
   ·exact .inl (λq a=>by rcases aS.1 a with rfl | a; exact hp; exact h q a)
   ·exact .inr ⟨p::A,x,B,Z,λq a=>by rcases aS.1 a with rfl | a; exact hp; exact h q a⟩
theorem Mm (a:∀{x y},beq x y=true↔x=y) (A B:List (κ×γ)) (k:κ):mO beq (A++B) k=(mO beq A k).or (mO beq B k):=by
 unfold mO
 rw [jP]
 cases A.find? (λp=>beq k p.1) <;> rfl
theorem Dt (p:κ×γ) (l:List (κ×γ)) (k:κ):mO beq (p::l) k=if beq k p.1=true then some p.2 else mO beq l k:=by
 unfold mO
 rw [fB]
 cases beq k p.1 <;> simp
theorem J3 (a:∀{x y},beq x y=true↔x=y) (l:List (κ×γ)) (k k2:κ) (y:γ):mO beq (rW beq l k y) k2=if beq k2 k=true then some y else mO beq l k2:=by
 rcases zl k l with h | ⟨A,x,B,rfl,h⟩
 ·rw [Gn a h,Mm a,Dt]
  by_cases hk:beq k2 k=true
  ·have:=a.1 hk
   subst this
   rw [aP hk,aP hk,Af a h]; rfl
  ·rw [aN hk,aN hk]
   show (mO beq l k2).or none=_
   cases mO beq l k2 <;> rfl
 ·rw [BZ a h,Mm a,Dt,Mm a,Dt]
  by_cases hk:beq k2 k=true
  ·have:=a.1 hk
   subst this
   rw [aP hk,aP hk,Af a h]; rfl
  ·rw [aN hk,aN hk,aN hk]
end
abbrev tb:=List (kL×List ByteArray)
def mm (T:tb):List (kL×List (ByteArray×Bool)):=T.map λp=>(p.1,tt p.2)
def wX (T:tb) (r:kL):List ByteArray:=(mO lJ T r).getD []
def FS (T:tb):List lx:=T.flatMap λp=>p.2.map λw=>(⟨p.1,w⟩:lx)
def J9 (T:tb) (r:kL) (w:ByteArray):tb:=rW lJ T r (wX T r++[w])
theorem Jt (A B:tb):mm (A++B)=mm A++mm B:=by simp [mm]
theorem EB {A:tb} {r:kL} (h:∀p∈A,p.1≠r):∀p∈mm A,p.1≠r:=by
 intro p hp
 simp only [mm,bW] at hp
 obtain ⟨q,a,rfl⟩:=hp
 exact h q a
theorem Zj (T:tb) (r:kL):mO lJ (mm T) r=(mO lJ T r).map tt:=by
 rcases zl r T with h | ⟨A,x,B,rfl,h⟩
 ·rw [Af lO h,Af lO (EB h)]; rfl
 ·rw [vG lO h,Jt]
  exact vG lO (EB h)
theorem TM (T:tb) (r:kL):(mO lJ (mm T) r).getD []=tt (wX T r):=by
 rw [Zj,wX]; cases mO lJ T r <;> rfl
theorem Nx (T:tb) (r:kL) (w:ByteArray):(FS (J9 T r w)).Perm (FS T++[(⟨r,w⟩:lx)]):=by
 unfold J9 wX
 rcases zl r T with h | ⟨A,x,B,rfl,h⟩
 ·rw [Gn lO h,Af lO h]
  simp [FS]
 ·rw [BZ lO h,vG lO h]
  simp only [FS,gJ,iy,iB,cV,bY,gA,aQ]
  refine cQ _ (cQ _ ?_)
  exact eB
theorem XF {T:tb} (hk:(T.map (·.1)).Nodup) (r:kL) (w:ByteArray):((J9 T r w).map (·.1)).Nodup:=by
 unfold J9
 rcases zl r T with h | ⟨A,x,B,rfl,h⟩
 ·rw [Gn lO h]
  simp only [cV,bY,gA]
  refine cL.2 ⟨hk,fb,λa ha b c e=>?_⟩
  simp at c; subst c; subst e
  obtain ⟨p,hp,e⟩:=bW.1 ha
  exact h p hp e
 ·rw [BZ lO h]
  simpa using hk
theorem G1 {T:tb} (hk:(T.map (·.1)).Nodup) (f:lx):f∈FS T↔f.lV∈wX T f.kL:=by
 simp only [FS,kd,bW]
 constructor
 ·rintro ⟨p,hp,w,hw,rfl⟩
  obtain ⟨A,B,rfl⟩:=List.append_of_mem hp
  have a:∀q∈A,q.1≠p.1:=λq d e=>by
   rw [cV,bY] at hk
   exact (cL.1 hk).2.2 q.1 (bW.2 ⟨q,d,Z⟩) p.1 fb e
  rw [wX,show p=(p.1,p.2) from rfl,vG lO a]
  exact hw
 ·intro h
  unfold wX at h
  rcases zl f.kL T with c | ⟨A,x,B,rfl,a⟩
  ·rw [Af lO c] at h; cases h
  ·rw [vG lO a] at h
   exact ⟨(f.kL,x),fb,f.lV,h,Z⟩
theorem Sk {T:tb} (h:(FS T).Nodup) (r:kL):(wX T r).Nodup:=by
 unfold wX
 rcases zl r T with c | ⟨A,x,B,rfl,a⟩
 ·rw [Af lO c]; simp
 ·rw [vG lO a]
  simp only [FS,gJ,iy] at h
  have h1:=(cL.1 (cL.1 h).2.1).1
  simp only [List.Nodup,gl] at h1
  exact h1.imp (λh e=>h (by rw [e]))
inductive sX (C:List kK):lx→Prop
 | mem c:c∈C→c.Kind=1→sX C ⟨c.Head,c.lV⟩
 | inc (c w):c∈C→c.Kind=2→sX C ⟨c.B,w⟩→sX C ⟨c.Head,w⟩
 | MV (c b w):c∈C→c.Kind=3→sX C ⟨c.B,b⟩→sX C ⟨⟨b,c.lW⟩,w⟩→sX C ⟨c.Head,w⟩
 | both (c w):c∈C→c.Kind=4→sX C ⟨c.B,w⟩→sX C ⟨c.C,w⟩→sX C ⟨c.Head,w⟩
theorem sX.mono {C C':List kK} (h:∀c∈C,c∈C') {f:lx} (i:sX C f):sX C' f:=by
 induction i with
 | mem c a hk=>exact .mem c (h c a) hk
 | inc c w a hk _ ih=>exact .inc c w (h c a) hk ih
 | MV c b w a hk _ _ d g=>exact .MV c b w (h c a) hk d g
 | both c w a hk _ _ d g=>exact .both c w (h c a) hk d g
def LC (C:List kK):List lx:=(C.map (·.Head)).flatMap λr=>(C.map (·.lV)).map λw=>(⟨r,w⟩:lx)
theorem IV (C:List kK):(LC C).length=C.length*C.length:=by
 unfold LC
 have:∀l:List kL,(l.flatMap λr=>(C.map (·.lV)).map λw=>(⟨r,w⟩:lx)).length=l.length*C.length:=λl=>by
  induction l with
  | nil=>simp
  | cons x l ih=>simp only [iy,aF,ih,dw,aM,dn]; omega
 rw [this,dw]
theorem ZZ {C:List kK} {r:kL} {w:ByteArray}:(⟨r,w⟩:lx)∈LC C↔(∃c∈C,c.Head=r)∧∃c∈C,c.lV=w:=by
 unfold LC
 simp only [kd,bW,lx.mk.injEq]
 constructor
 ·rintro ⟨h,⟨c,g,rfl⟩,i,⟨d,a,rfl⟩,rfl,rfl⟩; exact ⟨⟨c,g,Z⟩,d,a,Z⟩
 ·rintro ⟨⟨c,g,rfl⟩,d,a,rfl⟩; exact ⟨_,⟨c,g,Z⟩,_,⟨d,a,Z⟩,Z,Z⟩
theorem sX.SG {C:List kK} {f:lx} (h:sX C f):∃c∈C,c.Kind=1∧c.lV=f.lV:=by
 induction h with
 | mem c g hk=>exact ⟨c,g,hk,Z⟩
 | inc c w g hk _ ih=>exact ih
 | MV c b w g hk _ _ a d=>exact d
 | both c w g hk _ _ a d=>exact a
theorem sX.head {C:List kK} {f:lx} (h:sX C f):∃c∈C,c.Head=f.kL:=by
 cases h with
 | mem c a hk=>exact ⟨c,a,Z⟩
 | inc c w a hk _=>exact ⟨c,a,Z⟩
 | MV c b w a hk _ _=>exact ⟨c,a,Z⟩
 | both c w a hk _ _=>exact ⟨c,a,Z⟩
theorem sX.LC {C:List kK} {f:lx} (h:sX C f):f∈LC C:=by
 obtain ⟨c,a,_,hw⟩:=h.SG
 exact ZZ.2 ⟨h.head,c,a,hw⟩
structure uY (C:List kK) (T:tb) (td:List lx) (n:Int):Prop where
 keys:(T.map (·.1)).Nodup
 nd:(FS T).Nodup
 SK:td.Nodup
 sub:∀f∈td,f∈FS T
 num:n=(FS T).length
 Cd:∀f∈FS T,sX C f
theorem uY.len {C:List kK} {T:tb} {c:List lx} {n:Int} (h:uY C T c n):(FS T).length≤C.length*C.length:=by
 rw [←IV]; exact oE h.nd (λf a=>(h.Cd f a).LC)
theorem uY.abb {C:List kK} {T:tb} {a:List lx} {n:Int} (h:uY C T a n):a.length≤(FS T).length:=oE h.SK h.sub
theorem uY.mono {C C':List kK} {T:tb} {a:List lx} {n:Int} (h:uY C T a n) (d:∀c∈C,c∈C'):uY C' T a n:=⟨h.keys,h.nd,h.SK,h.sub,h.num,λf g=>(h.Cd f g).mono d⟩
structure Fl (T:tb) (td:List lx) (T':tb) (td':List lx):Prop where
 oh:∀f∈FS T,f∈FS T'
 todo:∀f∈td,f∈td'
 new:∀f∈FS T',f∈FS T∨f∈td'
 fresh:∀f∈td',f∈td∨f∉FS T
theorem Fl.refl (T:tb) (a:List lx):Fl T a T a:=⟨λ_ h=>h,λ_ h=>h,λ_ h=>.inl h,λ_ h=>.inl h⟩
theorem Fl.trans {T T' T'':tb} {i g a:List lx} (h:Fl T i T' g) (k:Fl T' g T'' a):Fl T i T'' a :=
 ⟨λf c=>k.oh f (h.oh f c),λf c=>k.todo f (h.todo f c),λf c=>by
  rcases k.new f c with h1 | h1
  ·rcases h.new f h1 with d | d
   ·exact .inl d
   ·exact .inr (k.todo f d)
  ·exact .inr h1,λf c=>by
  rcases k.fresh f c with h1 | h1
  ·exact h.fresh f h1
  ·exact .inr (λd=>h1 (h.oh f d))⟩
theorem NY {α:Type} (p:α→Bool):∀l:List α,(l.filter p).length+(l.filter λx=>!p x).length=l.length
 | []=>rfl
 | x::l=>by
  have:=NY p l
  cases h:p x <;> simp [h] <;> omega
theorem uY.LA {C C':List kK} {T T':tb} {d c:List lx} {n p:Int} (i:uY C' T' c p) (g:uY C T d n) (x:Fl T d T' c):c.length+(FS T).length≤d.length+(FS T').length:=by
 classical
 have h1:(c.filter λf=>decide (f∈FS T)).length≤d.length:=oE (i.SK.filter _) (λf j=>by
  have:=dV.1 j
  rcases x.fresh f this.1 with h | h
  ·exact h
  ·exact absurd (by simpa using this.2) h)
 have k:(FS T++c.filter λf=>!decide (f∈FS T)).length≤(FS T').length:=oE (cL.2 ⟨g.nd,i.SK.filter _,λa ha b o e=>by
  subst e
  have:=(dV.1 o).2
  simp [ha] at this⟩) (λf j=>by
  rcases aX.1 j with h | h
  ·exact x.oh f h
  ·exact i.sub f (dV.1 h).1)
 have q:(c.filter λf=>decide (f∈FS T)).length+(c.filter λf=>!decide (f∈FS T)).length=c.length:=by
  exact NY (λf=>decide (f∈FS T)) c
 rw [aF] at k
 omega
def HJ (C:List kK) (T:tb) (g:List lx) (c:Option (List (kL×List (ByteArray×Bool))×List lx×Int)) (Q:tb→Prop):Prop :=
 ∃T' a d,c=some (mm T',a,d)∧uY C T' a d∧Fl T g T' a∧Q T'
theorem HJ.mono {C:List kK} {T:tb} {g:List lx} {a:Option (List (kL×List (ByteArray×Bool))×List lx×Int)} {Q Q':tb→Prop} (h:HJ C T g a Q) (k:∀T',(∀f∈FS T,f∈FS T')→Q T'→Q' T'):HJ C T g a Q':=by
 obtain ⟨T',c,n,h1,i,d,j⟩:=h
 exact ⟨T',c,n,h1,i,d,k T' d.oh j⟩
def vJ (C:List kK):Prop:=C.length≤1000000
theorem vJ.sq {C:List kK} (h:vJ C):C.length*C.length≤1000000000000:=jv h h
theorem yh {T:tb} (hk:(T.map (·.1)).Nodup) (r:kL) (w:ByteArray):B4 mx ((mO lJ (mm T) r).getD []) w false=true↔(⟨r,w⟩:lx)∈FS T:=by
 rw [TM,WU,BL mU,G1 hk]
theorem Ic {C:List kK} (y:vJ C) {T:tb} {j:List lx} {n:Int} (h:uY C T j n) (cs:List kK) (M:List (kL×List kK)) (ws:List (ByteArray×List kK)) {r:kL} {w:ByteArray} (z:sX C ⟨r,w⟩) :
  HJ C T j (rh (mm T) cs M ws j n r w) (λT'=>(⟨r,w⟩:lx)∈FS T'):=by
 unfold rh
 have I:=y.sq
 have O:=h.len
 have J:=h.abb
 by_cases d:(⟨r,w⟩:lx)∈FS T
 ·rw [aP ((yh h.keys r w).2 d)]
  exact ⟨T,j,n,Z,h,Fl.refl _ _,d⟩
 ·rw [aN λt=>d ((yh h.keys r w).1 t)]
  have G:uY C (J9 T r w) (j++[⟨r,w⟩]) (n+1):=by
   have hp:=Nx T r w
   refine ⟨XF h.keys r w,hp.nodup_iff.2 (cL.2 ⟨h.nd,fb,λa ha b p e=>?_⟩),cL.2 ⟨h.SK,fb,λa ha b p e=>?_⟩,λf c=>hp.mem_iff.2 ?_,?_,λf c=>?_⟩
   ·simp at p; subst p; subst e; exact d ha
   ·simp at p; subst p; subst e; exact d (h.sub _ ha)
   ·rcases aX.1 c with c | c
    ·exact cN _ (h.sub f c)
    ·exact dI _ c
   ·rw [hp.length_eq,h.num]; simp
   ·rcases aX.1 (hp.mem_iff.1 c) with c | c
    ·exact h.Cd f c
    ·simp at c; subst c; exact z
  have u:((if (mO lJ (mm T) r).isNone=true then (Ja lJ (mm T) r []).bind λl=>some l else some (mm T)):Option _).bind (λl=>L8 lJ mx l r w true)=some (mm (J9 T r w)):=by
   unfold J9 wX
   rcases zl r T with i | ⟨A,x,B,rfl,s⟩
   ·have q:=Af lO (EB i)
    rw [q,Af lO i,Gn lO i,Jt]
    simp only [jc,aJ,Ja,q,aA]
    rw [Gn lO (EB i)]
    unfold L8
    rw [vG lO (EB i)]
    simp only [eU]
    rw [BZ lO (EB i)]
    rfl
   ·have k:=EB s
    have v:mO lJ (mm (A++(r,x)::B)) r=some (tt x):=by rw [Jt]; exact vG lO k
    rw [v,vG lO s,BZ lO s]
    simp only [Option.isNone_some,aB,aH,aA,L8,v,eU,iB]
    have L:w∉x:=λhw=>d (by
     rw [G1 h.keys,wX,vG lO s]; exact hw)
    rw [Zv mU]
    rw [show ins mx x w=x++[w] from by unfold ins; rw [aN λt=>L ((BL mU x w).1 t)]]
    rw [Jt,show mm ((r,x)::B)=(r,tt x)::mm B from rfl,BZ lO k,Jt]
    rfl
  refine ⟨J9 T r w,j++[⟨r,w⟩],n+1,?_,G,⟨λf c=>(Nx T r w).mem_iff.2 (cN _ c),λf c=>cN _ c,λf c=>?_,λf c=>?_⟩,(Nx T r w).mem_iff.2 fb⟩
  ·have g:=u
   generalize ((if (mO lJ (mm T) r).isNone=true then (Ja lJ (mm T) r []).bind λl=>some l else some (mm T)):Option _)=o at g
   cases o with
   | none=>cases g
   | some l=>
    simp only [aA] at g ⊢
    rw [g]
    simp only [aA]
    rw [nL fo fo]
    simp only [aA]
    rw [mr (by rw [h.num]; omega) (by rw [h.num]; omega)]
  ·rcases aX.1 ((Nx T r w).mem_iff.1 c) with h1 | h1
   ·exact .inl h1
   ·exact .inr (dI _ h1)
  ·rcases aX.1 c with h1 | h1
   ·exact .inl h1
   ·simp at h1; subst h1; exact .inr d
theorem EW (l:List ByteArray) (x:ByteArray):x∈Ai l↔x∈l:=by unfold Ai; simp
def xx (C:List kK):Prop:=∀c∈C,mQ c=true
theorem V5 {c:kK} (h:mQ c=true) (hk:c.Kind=1):c.lV.size≤16:=by
 rcases rT h with h | h | h | h
 ·exact (rA h.2.1).2
 ·exact absurd (hk.symm.trans h.1) fs
 ·exact absurd (hk.symm.trans h.1) fs
 ·exact absurd (hk.symm.trans h.1) fs
theorem W0 {T:tb} (r:kL) (hk:(T.map (·.1)).Nodup):(wX T r).length≤(FS T).length:=by
 unfold wX
 rcases zl r T with c | ⟨A,x,B,rfl,a⟩
 ·rw [Af lO c]; simp
 ·rw [vG lO a]
  simp only [FS,gJ,iy,aF,dw,iB]
  omega
theorem NE {C:List kK} (a:vJ C) (d:xx C) {T:tb} {j:List lx} {n:Int} (h:uY C T j n) (cs:List kK) (k:List (kL×List kK)) (ws:List (ByteArray×List kK)) (q:List lx) (z:Int) (r:kL) :
  vj (mm T) cs k ws q z r=some (Ai (wX T r)):=by
 unfold vj sK
 rw [TM]
 simp only [aA,vn]
 have t:=W0 r h.keys
 have o:=h.len
 have s:=a.sq
 unfold MO
 rw [ZB,aP]
 refine ⟨Sk h.nd r,λp hp=>?_,by rw [VR]; omega⟩
 simp only [tt,bW] at hp
 obtain ⟨w,hw,rfl⟩:=hp
 have i:=h.Cd ⟨r,w⟩ ((G1 h.keys ⟨r,w⟩).2 hw)
 obtain ⟨c,g,hk,e⟩:=i.SG
 have:=V5 (d c g) hk
 simp only at e ⊢
 rw [←e]
 unfold maxLen
 omega
theorem U8 {C:List kK} (i:vJ C) (cs:List kK) (g:List (kL×List kK)) (ws:List (ByteArray×List kK)) (head:kL):∀(l:List ByteArray) {T:tb} {a:List lx} {n:Int},uY C T a n→(∀w∈l,sX C ⟨head,w⟩)→
  HJ C T a (uA cs g ws head l (mm T) a n) (λT'=>∀w∈l,(⟨head,w⟩:lx)∈FS T')
 | [],T,a,n,h,_=>⟨T,a,n,Z,h,Fl.refl _ _,λ_ hw=>by cases hw⟩
 | w::l,T,a,n,h,j=>by
  rw [uA]
  obtain ⟨T1,q,s,k,g1,x1,q1⟩:=Ic i h cs g ws (j w fb)
  rw [k]
  simp only [aA]
  obtain ⟨T2,d,p,o,g2,x2,q2⟩:=U8 i cs g ws head l g1 (λw hw=>j w (by simp [hw]))
  refine ⟨T2,d,p,o,g2,x1.trans x2,λv c=>?_⟩
  rcases aS.1 c with rfl | c
  ·exact x2.oh _ q1
  ·exact q2 v c
theorem aaf {C:List kK} (c:vJ C) (g:xx C) {T:tb} {a:List lx} {n:Int} (h:uY C T a n) (cs:List kK) (d:List (kL×List kK)) (ws:List (ByteArray×List kK)) (r head:kL) (i:∀w,(⟨r,w⟩:lx)∈FS T→sX C ⟨head,w⟩) :
  HJ C T a (yQ (mm T) cs d ws a n r head) (λT'=>∀w,(⟨r,w⟩:lx)∈FS T→(⟨head,w⟩:lx)∈FS T'):=by
 unfold yQ
 rw [NE c g h]
 simp only [aA]
 refine (U8 c cs d ws head _ h λw hw=>i w ((G1 h.keys ⟨r,w⟩).2 ((EW _ _).1 hw))).mono (λT' _ j w hw=>j w ((EW _ _).2 ((G1 h.keys ⟨r,w⟩).1 hw)))
def KE (c:kK) (f:lx) (T T':tb):Prop :=
 (c.Kind=2→f.kL=c.B→(⟨c.Head,f.lV⟩:lx)∈FS T')∧
 (c.Kind=3→f.kL=c.B→∀w,(⟨⟨f.lV,c.lW⟩,w⟩:lx)∈FS T→(⟨c.Head,w⟩:lx)∈FS T')∧
 (c.Kind=4→(⟨c.B,f.lV⟩:lx)∈FS T→(⟨c.C,f.lV⟩:lx)∈FS T→(⟨c.Head,f.lV⟩:lx)∈FS T')
theorem KE.mono {c:kK} {f:lx} {T T' T0 T1:tb} (h:KE c f T T') (g:∀f∈FS T0,f∈FS T) (h1:∀f∈FS T',f∈FS T1):KE c f T0 T1 :=
 ⟨λa b=>h1 _ (h.1 a b),λa b w hw=>h1 _ (h.2.1 a b w (g _ hw)),λa b d=>h1 _ (h.2.2 a (g _ b) (g _ d))⟩
theorem YU (x:Option (List (kL×List (ByteArray×Bool))×List lx×Int)):(x.bind λr=>some (r.1,r.2.1,r.2.2))=x:=by cases x <;> rfl
theorem Vb {C:List kK} (s:vJ C) (A:xx C) {T:tb} {j:List lx} {n:Int} (h:uY C T j n) (cs:List kK) (p:List (kL×List kK)) (ws:List (ByteArray×List kK)) {c:kK} (t:c∈C) {f:lx} (v:f∈FS T) (z:f.kL∈sn c) :
  HJ C T j (wI (mm T) cs p ws j n c f) (KE c f T):=by
 unfold wI
 simp only [YU,I8]
 by_cases a:c.Kind=2
 ·have q:f.kL=c.B:=by simpa [sn,a] using z
  rw [aP (by simp [a])]
  have u:sX C ⟨c.Head,f.lV⟩:=.inc c f.lV t a (by rw [←q]; exact h.Cd f v)
  refine (Ic s h cs p ws u).mono (λT' _ i=>⟨λ_ _=>i,λk=>absurd (a.symm.trans k) fs,λk=>absurd (a.symm.trans k) fs⟩)
 rw [aN (by simp [a])]
 by_cases d:c.Kind=3
 ·have q:f.kL=c.B:=by simpa [sn,d] using z
  rw [aP (by simp [d])]
  refine (aaf s A h cs p ws ⟨f.lV,c.lW⟩ c.Head λw hw=>.MV c f.lV w t d (by rw [←q]; exact h.Cd f v) (h.Cd _ hw)).mono (λT' _ i=>⟨λk=>absurd k a,λ_ _ w hw=>i w hw,λk=>absurd (d.symm.trans k) fs⟩)
 rw [aN (by simp [d])]
 by_cases o:c.Kind=4
 ·rw [aP (by simp [o])]
  simp only [aA]
  by_cases g:(⟨c.B,f.lV⟩:lx)∈FS T∧(⟨c.C,f.lV⟩:lx)∈FS T
  ·rw [aP (by rw [bL,yh h.keys,yh h.keys]; exact g)]
   have u:sX C ⟨c.Head,f.lV⟩:=.both c f.lV t o (h.Cd _ g.1) (h.Cd _ g.2)
   exact (Ic s h cs p ws u).mono (λT' _ i=>⟨λk=>absurd k a,λk=>absurd k d,λ_ _ _=>i⟩)
  ·rw [aN (by rw [bL,yh h.keys,yh h.keys]; exact g)]
   exact ⟨T,j,n,Z,h,Fl.refl _ _,λk=>absurd k a,λk=>absurd k d,λ_ x y=>absurd ⟨x,y⟩ g⟩
 ·rw [aN (by simp [o])]
  exact ⟨T,j,n,Z,h,Fl.refl _ _,λk=>absurd k a,λk=>absurd k d,λk=>absurd k o⟩
theorem Qv {C:List kK} (j:vJ C) (k:xx C) (cs:List kK) (i:List (kL×List kK)) (ws:List (ByteArray×List kK)) {c:kK} (o:c∈C) (p:c.B∈sn c):∀(l:List ByteArray) {T:tb} {a:List lx} {n:Int},uY C T a n→(∀w∈l,(⟨c.B,w⟩:lx)∈FS T)→
  HJ C T a (tq cs i ws c l (mm T) a n) (λT'=>∀w∈l,KE c ⟨c.B,w⟩ T T')
 | [],T,a,n,h,_=>⟨T,a,n,Z,h,Fl.refl _ _,λ_ hw=>by cases hw⟩
 | w::l,T,a,n,h,hm=>by
  rw [tq]
  obtain ⟨T1,u,x,q,g1,x1,q1⟩:=Vb j k h cs i ws o (f:=⟨c.B,w⟩) (hm w fb) p
  rw [q]
  simp only [aA]
  obtain ⟨T2,g,t,s,g2,x2,q2⟩:=Qv j k cs i ws o p l g1 (λw hw=>x1.oh _ (hm w (by simp [hw])))
  refine ⟨T2,g,t,s,g2,x1.trans x2,λv d=>?_⟩
  rcases aS.1 d with rfl | d
  ·exact q1.mono (λ_ h=>h) x2.oh
  ·exact (q2 v d).mono x1.oh (λ_ h=>h)
def Li (c:kK) (T:tb) (a:List lx):Prop :=
 (c.Kind=1→(⟨c.Head,c.lV⟩:lx)∈FS T)∧
 (c.Kind=2→∀w,(⟨c.B,w⟩:lx)∈FS T→(⟨c.B,w⟩:lx)∉a→(⟨c.Head,w⟩:lx)∈FS T)∧
 (c.Kind=3→∀b w,(⟨c.B,b⟩:lx)∈FS T→(⟨c.B,b⟩:lx)∉a→(⟨⟨b,c.lW⟩,w⟩:lx)∈FS T→(⟨⟨b,c.lW⟩,w⟩:lx)∉a→(⟨c.Head,w⟩:lx)∈FS T)∧
 (c.Kind=4→∀w,(⟨c.B,w⟩:lx)∈FS T→(⟨c.B,w⟩:lx)∉a→(⟨c.C,w⟩:lx)∈FS T→(⟨c.C,w⟩:lx)∉a→(⟨c.Head,w⟩:lx)∈FS T)
theorem Li.ext {c:kK} {T T':tb} {i d:List lx} (h:Li c T i) (x:Fl T i T' d):Li c T' d:=by
 have oh:∀f,f∈FS T'→f∉d→f∈FS T∧f∉i:=λf o j=>by
  rcases x.new f o with h1 | h1
  ·exact ⟨h1,λn=>j (x.todo f n)⟩
  ·exact absurd h1 j
 refine ⟨λk=>x.oh _ (h.1 k),λk w a b=>?_,λk b w g a2 a3 a4=>?_,λk w g a2 a3 a4=>?_⟩
 ·exact x.oh _ (h.2.1 k w (oh _ a b).1 (oh _ a b).2)
 ·exact x.oh _ (h.2.2.1 k b w (oh _ g a2).1 (oh _ g a2).2 (oh _ a3 a4).1 (oh _ a3 a4).2)
 ·exact x.oh _ (h.2.2.2 k w (oh _ g a2).1 (oh _ g a2).2 (oh _ a3 a4).1 (oh _ a3 a4).2)
theorem Yk {C:List kK} (o:vJ C) (t:xx C) {T:tb} {p:List lx} {n:Int} (h:uY C T p n) (cs:List kK) (s:List (kL×List kK)) (ws:List (ByteArray×List kK)) {c:kK} (u:c∈C) :
  ∃T' d i,xK (mm T) cs s ws p n c=some (mm T',d,i)∧uY C T' d i∧Fl T p T' d∧Li c T' d:=by
 unfold xK
 simp only [YU]
 by_cases h1:c.Kind=1
 ·rw [aP (by simp [h1])]
  obtain ⟨T',d,i,e,g,x,q⟩:=Ic o h cs s ws (sX.mem c u h1)
  exact ⟨T',d,i,e,g,x,λ_=>q,λk=>absurd (h1.symm.trans k) fs,λk=>absurd (h1.symm.trans k) fs,λk=>absurd (h1.symm.trans k) fs⟩
 ·rw [aN (by simp [h1]),NE o t h]
  simp only [aA]
  have z:c.B∈sn c:=by unfold sn; rw [aN h1]; split <;> simp
  obtain ⟨T',d,i,e,g,x,q⟩:=Qv o t cs s ws u z (Ai (wX T c.B)) h (λw hw=>(G1 h.keys ⟨c.B,w⟩).2 ((EW _ _).1 hw))
  have oh:∀f,f∈FS T'→f∉d→f∈FS T:=λf v y=>by
   rcases x.new f v with h1 | h1
   ·exact h1
   ·exact absurd h1 y
  have qq:∀w,(⟨c.B,w⟩:lx)∈FS T→KE c ⟨c.B,w⟩ T T':=λw hw=>q w ((EW _ _).2 ((G1 h.keys ⟨c.B,w⟩).1 hw))
  refine ⟨T',d,i,e,g,x,λk=>absurd k h1,λk w a b=>?_,λk b w j a2 a3 a4=>?_,λk w j a2 a3 a4=>?_⟩
  ·exact (qq w (oh _ a b)).1 k Z
  ·exact (qq b (oh _ j a2)).2.1 k Z w (oh _ a3 a4)
  ·exact (qq w (oh _ j a2)).2.2 k (oh _ j a2) (oh _ a3 a4)
structure JZ (C:List kK) (us:List (kL×List kK)) (ws:List (ByteArray×List kK)):Prop where
 Xh:∀r c,c∈(mO lJ us r).getD []↔c∈C∧r∈sn c
 word:∀w c,c∈(mO mx ws w).getD []↔c∈C∧c.Kind=3∧c.lW=w
 aaS:∀r,((mO lJ us r).getD []).length≤2*C.length
 aaY:∀w,((mO mx ws w).getD []).length≤C.length
theorem OQ {C:List kK} (j:vJ C) (k:xx C) (cs:List kK) (i:List (kL×List kK)) (ws:List (ByteArray×List kK)) {f:lx}:∀(l:List kK) {T:tb} {a:List lx} {n:Int},uY C T a n→f∈FS T→(∀c∈l,c∈C∧f.kL∈sn c)→
  HJ C T a (sZ cs i ws f l (mm T) a n) (λT'=>∀c∈l,KE c f T T')
 | [],T,a,n,h,_,_=>⟨T,a,n,Z,h,Fl.refl _ _,λ_ hw=>by cases hw⟩
 | c::l,T,a,n,h,o,hm=>by
  rw [sZ]
  obtain ⟨T1,u,w,p,g1,x1,q1⟩:=Vb j k h cs i ws (hm c fb).1 o (hm c fb).2
  rw [p]
  simp only [aA]
  obtain ⟨T2,g,t,q,g2,x2,q2⟩:=OQ j k cs i ws l g1 (x1.oh _ o) (λc s=>hm c (by simp [s]))
  refine ⟨T2,g,t,q,g2,x1.trans x2,λv d=>?_⟩
  rcases aS.1 d with rfl | d
  ·exact q1.mono (λ_ h=>h) x2.oh
  ·exact (q2 v d).mono x1.oh (λ_ h=>h)
theorem JB {C:List kK} (p:vJ C) (w:xx C) (cs:List kK) (k:List (kL×List kK)) (ws:List (ByteArray×List kK)) {f:lx}:∀(l:List kK) {T:tb} {i:List lx} {n:Int},uY C T i n→f∈FS T→(∀c∈l,c∈C∧c.Kind=3∧c.lW=f.kL.Word)→
  HJ C T i (rD f cs k ws l (mm T) i n) (λT'=>∀c∈l,(⟨c.B,f.kL.kO⟩:lx)∈FS T→(⟨c.Head,f.lV⟩:lx)∈FS T')
 | [],T,i,n,h,_,_=>⟨T,i,n,Z,h,Fl.refl _ _,λ_ hw=>by cases hw⟩
 | c::l,T,i,n,h,s,hm=>by
  rw [rD]
  have hk:=hm c fb
  by_cases j:(⟨c.B,f.kL.kO⟩:lx)∈FS T
  ·rw [aP ((yh h.keys _ _).2 j)]
   have t:f=⟨⟨f.kL.kO,c.lW⟩,f.lV⟩:=by rw [hk.2.2]
   have y:sX C ⟨c.Head,f.lV⟩:=.MV c f.kL.kO f.lV hk.1 hk.2.1 (h.Cd _ j) (by rw [←t]; exact h.Cd f s)
   obtain ⟨T1,A,G,x,g1,x1,q1⟩:=Ic p h cs k ws y
   rw [x]
   simp only [aA]
   obtain ⟨T2,g,u,o,g2,x2,q2⟩:=JB p w cs k ws l g1 (x1.oh _ s) (λc q=>hm c (by simp [q]))
   refine ⟨T2,g,u,o,g2,x1.trans x2,λv d a=>?_⟩
   rcases aS.1 d with rfl | d
   ·exact x2.oh _ q1
   ·exact q2 v d (x1.oh _ a)
  ·rw [aN λz=>j ((yh h.keys _ _).1 z)]
   obtain ⟨T2,g,u,o,g2,x2,q2⟩:=JB p w cs k ws l h s (λc q=>hm c (by simp [q]))
   refine ⟨T2,g,u,o,g2,x2,λv d a=>?_⟩
   rcases aS.1 d with rfl | d
   ·exact absurd a j
   ·exact q2 v d a
theorem Pe {C:List kK} (J:vJ C) (L:xx C) {cs:List kK} {G:List (kL×List kK)} {ws:List (ByteArray×List kK)} (v:JZ C G ws):∀(m:Nat) {T:tb} {o:List lx} {n:Int},uY C T o n→(∀c∈C,Li c T o)→C.length*C.length+o.length < m+(FS T).length→
  ∃T' P,pz cs G ws m (mm T) o n=some (mm T',[],P)∧uY C T' [] P∧(∀c∈C,Li c T' [])∧(∀f∈FS T,f∈FS T')
 | 0,T,o,n,h,_,hm=>by have:=h.len; omega
 | m+1,T,[],n,h,q,hm=>by
  rw [pz]
  exact ⟨T,n,Z,h,q,λ_ h=>h⟩
 | m+1,T,f::o,n,h,q,hm=>by
  rw [pz]
  rw [aP fb]
  have O:f∈FS T:=h.sub f fb
  have Y:=ey.1 h.SK
  simp only [mT,jz,aJ,Int.toNat_zero,gU,aA]
  rw [show rr (decide ((0:Nat)≤1)&&decide ((1:Int)≤((f::o).length:Int)))=some () by simp [rr]; omega]
  simp only [aA,show Int.toNat 1=1 from rfl,List.drop_one,List.tail_cons]
  have M:uY C T o n:=⟨h.keys,h.nd,Y.2,λg z=>h.sub g (by simp [z]),h.num,h.Cd⟩
  obtain ⟨T1,a6,n1,R,g1,x1,q1⟩:=OQ J L cs G ws ((mO lJ G f.kL).getD []) M O (λc i=>(v.Xh _ c).1 i)
  rw [R]
  simp only [aA]
  obtain ⟨T2,s,n2,U,g2,x2,q2⟩:=JB J L cs G ws ((mO mx ws f.kL.Word).getD []) g1 (x1.oh _ O) (λc i=>(v.word _ c).1 i)
  rw [U]
  simp only [aA]
  have x:=x1.trans x2
  have oh:∀g,g∈FS T2→g∉s→g∈FS T∧(g=f∨g∉f::o):=λg z A=>by
   rcases x.new g z with h1 | h1
   ·refine ⟨h1,?_⟩
    by_cases he:g=f
    ·exact .inl he
    ·exact .inr (λu=>by
      rcases aS.1 u with u | u
      ·exact he u
      ·exact A (x.todo g u))
   ·exact absurd h1 A
  have d1:∀c∈C,f.kL∈sn c→KE c f T T2:=λc i hr=>(q1 c ((v.Xh _ c).2 ⟨i,hr⟩)).mono (λ_ h=>h) x2.oh
  have y:∀c∈C,Li c T2 s:=λc i=>by
   have k:=q c i
   refine ⟨λhk=>x.oh _ (k.1 hk),λhk w a b=>?_,λhk b w I a2 a3 a4=>?_,λhk w I a2 a3 a4=>?_⟩
   ·obtain ⟨p,d⟩:=oh _ a b
    rcases d with d | d
    ·subst d; exact (d1 c i (by simp [sn,hk])).1 hk Z
    ·exact x.oh _ (k.2.1 hk w p d)
   ·obtain ⟨p,d⟩:=oh _ I a2
    obtain ⟨t,j⟩:=oh _ a3 a4
    rcases d with d | d
    ·subst d; exact (d1 c i (by simp [sn,hk])).2.1 hk Z w t
    ·rcases j with j | j
     ·subst j
      exact q2 c ((v.word _ c).2 ⟨i,hk,Z⟩) (x1.oh _ p)
     ·exact x.oh _ (k.2.2.1 hk b w p d t j)
   ·obtain ⟨p,d⟩:=oh _ I a2
    obtain ⟨t,j⟩:=oh _ a3 a4
    rcases d with d | d
    ·subst d; exact (d1 c i (by simp [sn,hk])).2.2 hk p t
    ·rcases j with j | j
     ·subst j; exact (d1 c i (by simp [sn,hk])).2.2 hk p t
     ·exact x.oh _ (k.2.2.2 hk w p d t j)
  have hlen:s.length+(FS T).length≤o.length+(FS T2).length:=by
   exact g2.LA M x
  obtain ⟨T3,n3,W,g3,Q,o3⟩:=Pe J L v m g2 y (by simp only [aM] at hm; omega)
  exact ⟨T3,n3,W,g3,Q,λg z=>o3 g (x.oh g z)⟩
theorem Tx (c:kK):∀(l:List kK) (i:Nat),∃z,uz c l i=some z∧(z≥0↔c∈l)
 | [],i=>⟨-1,Z,fb⟩
 | x::l,i=>by
  rw [uz]
  by_cases h:nE c x=true
  ·rw [aP h]
   exact ⟨_,Z,by simp [xo.1 h]⟩
  ·rw [aN h]
   obtain ⟨z,e,d⟩:=Tx c l (i+1)
   refine ⟨z,e,?_⟩
   rw [d,aS]
   exact ⟨.inr,λa=>a.resolve_left λe=>h (xo.2 e)⟩
theorem Rk (c:kK) (l:List kK):∃b,AM l c=some b∧(b=true↔c∈l):=by
 obtain ⟨z,e,a⟩:=Tx c l 0
 refine ⟨decide (z≥0),?_,by simpa using a⟩
 unfold AM xn Bh
 rw [e]
 rfl
theorem SS (c:kK) (ws:List (ByteArray×List kK)) (C:List kK) (hw:∀w,((mO mx ws w).getD []).length≤2000000):∀(k:List kL) (a:List (kL×List kK)),(∀r,((mO lJ a r).getD []).length+k.length≤4000000)→
  ∃i j,sr c ws C k a=some (C,i,j)∧(∀r x,x∈(mO lJ i r).getD []↔x∈(mO lJ a r).getD []∨(x=c∧r∈k))∧
   (∀w x,x∈(mO mx j w).getD []↔x∈(mO mx ws w).getD []∨(x=c∧c.Kind=3∧w=c.lW))∧(∀r,((mO lJ i r).getD []).length≤((mO lJ a r).getD []).length+k.length)∧
   (∀w,((mO mx j w).getD []).length≤((mO mx ws w).getD []).length+1)
 | [],a,_=>by
  rw [sr]
  by_cases n:c.Kind=3
  ·rw [aP (by simp [n])]
   have h:=hw c.lW
   rw [nL fo fo]
   simp only [aA]
   refine ⟨a,_,Z,fb,λw x=>?_,fb,λw=>?_⟩
   ·rw [J3 mU]
    by_cases hk:mx w c.lW=true
    ·rw [aP hk,mU.1 hk]; simp [n]
    ·rw [aN hk]
     have:w≠c.lW:=λe=>hk (mU.2 e)
     simp [this]
   ·rw [J3 mU]
    by_cases hk:mx w c.lW=true
    ·rw [aP hk,mU.1 hk]; simp
    ·rw [aN hk]; exact jw _
  ·rw [aN (by simp [n])]
   exact ⟨a,ws,Z,fb,by simp [n],fb,fb⟩
 | d::k,a,o=>by
  rw [sr]
  have h:=o d
  simp only [aM] at h
  rw [nL fo fo]
  simp only [aA]
  have g:∀r,(mO lJ (rW lJ a d (((mO lJ a d).getD [])++[c])) r).getD []=if lJ r d=true then ((mO lJ a d).getD [])++[c] else (mO lJ a r).getD []:=λr=>by
   rw [J3 lO]; by_cases hk:lJ r d=true
   ·rw [aP hk,aP hk]; rfl
   ·rw [aN hk,aN hk]
  obtain ⟨i,j,e,p,a2,a3,a4⟩:=SS c ws C hw k (rW lJ a d (((mO lJ a d).getD [])++[c])) (λr=>by
   rw [g r]
   have q:=o r
   simp only [aM] at q
   by_cases hk:lJ r d=true
   ·rw [aP hk]; simp; omega
   ·rw [aN hk]; omega)
  refine ⟨i,j,e,λr x=>?_,a2,λr=>?_,a4⟩
  ·rw [p,g]
   by_cases hk:lJ r d=true
   ·rw [aP hk,lO.1 hk]
    simp only [aX,aS,du,fx]
    constructor
    ·rintro ((h | h) | h)
     ·exact .inl h
     ·exact .inr ⟨h,.inl trivial⟩
     ·exact .inr ⟨h.1,.inr h.2⟩
    ·rintro (h | h)
     ·exact .inl (.inl h)
     ·exact .inl (.inr h.1)
   ·rw [aN hk]
    have:r≠d:=λe=>hk (lO.2 e)
    simp [this]
  ·have:=a3 r
   rw [g r] at this
   by_cases hk:lJ r d=true
   ·rw [aP hk] at this; rw [lO.1 hk] at this ⊢; simp at this ⊢; omega
   ·rw [aN hk] at this; simp; omega
theorem Zt {C:List kK} {k:List (kL×List kK)} {ws:List (ByteArray×List kK)} (j:JZ C k ws) (t:C.length+1≤1000000) {c:kK} (p:mQ c=true) (i:List (kL×List (ByteArray×Bool))) (s:List lx) (n:Int) :
  ∃a d,ym i C k ws s n c=some (C++[c],a,d)∧JZ (C++[c]) a d:=by
 unfold ym
 rw [nL fo fo]
 simp only [aA,aaa p]
 rw [show rr (decide ((0:Nat)≤1)&&decide ((1:Int)≤((c.Head::sn c).length:Int)))=some () by simp [rr]; omega]
 simp only [aA,show Int.toNat 1=1 from rfl,List.drop_one,List.tail_cons]
 have q:(sn c).length≤2:=by unfold sn; split; simp; split <;> simp
 obtain ⟨a,d,e,o,a2,a3,a4⟩:=SS c ws (C++[c]) (λw=>by have:=j.aaY w; omega) (sn c) k (λr=>by have:=j.aaS r; omega)
 refine ⟨a,d,e,λr x=>?_,λw x=>?_,λr=>?_,λw=>?_⟩
 ·rw [o,j.Xh,aX,aY]
  constructor
  ·rintro (h | h)
   ·exact ⟨.inl h.1,h.2⟩
   ·exact ⟨.inr h.1,by rw [h.1]; exact h.2⟩
  ·rintro ⟨h | h,g⟩
   ·exact .inl ⟨h,g⟩
   ·exact .inr ⟨h,by rw [←h]; exact g⟩
 ·rw [a2,j.word,aX,aY]
  constructor
  ·rintro (h | h)
   ·exact ⟨.inl h.1,h.2⟩
   ·exact ⟨.inr h.1,by rw [h.1]; exact ⟨h.2.1,h.2.2.symm⟩⟩
  ·rintro ⟨h | h,g⟩
   ·exact .inl ⟨h,g⟩
   ·subst h; exact .inr ⟨Z,g.1,g.2.symm⟩
 ·have:=a3 r; have:=j.aaS r; simp; omega
 ·have:=a4 w; have:=j.aaY w; simp; omega
structure MS (C:List kK) (T:tb) (us:List (kL×List kK)) (ws:List (ByteArray×List kK)) (n:Int):Prop where
 Jw:uY C T [] n
 cl:∀c∈C,Li c T []
 aci:JZ C us ws
 right:xx C
theorem MS.all {C:List kK} {T:tb} {j:List (kL×List kK)} {ws:List (ByteArray×List kK)} {n:Int} (h:MS C T j ws n) (f:lx):f∈FS T↔sX C f:=by
 refine ⟨h.Jw.Cd f,λi=>?_⟩
 induction i with
 | mem c a hk=>exact (h.cl c a).1 hk
 | inc c w a hk _ ih=>exact (h.cl c a).2.1 hk w ih fb
 | MV c b w a hk _ _ d g=>exact (h.cl c a).2.2.1 hk b w d fb g fb
 | both c w a hk _ _ d g=>exact (h.cl c a).2.2.2 hk w d fb g fb
theorem QP (q:Int) (z:0≤q∧q≤1000000000000):∀(l:List kK) {C:List kK} {T:tb} {p:List lx} {A:List (kL×List kK)} {ws:List (ByteArray×List kK)} {n:Int},uY C T p n→(∀c∈C,Li c T p)→JZ C A ws→xx C→C.length+l.length≤1000000→
  ∃C' T' a d j,ru q l (mm T) C A ws p n=some (j-q,mm T',C',a,d,[],j)∧MS C' T' a d j∧(∀c,c∈C'↔c∈C∨(c∈l∧mQ c=true))∧C'.length≤C.length+l.length∧(∀f∈FS T,f∈FS T')
 | [],C,T,p,A,ws,n,g,i,u,s,P=>by
  rw [ru]
  have hC:vJ C:=by unfold vJ; simp at P; omega
  have a7:=hC.sq
  have hlen:=g.len
  have a8:=g.abb
  obtain ⟨T',j,e,J,c',o⟩:=Pe hC s u (cs:=C) lP g i (by rw [sP]; omega)
  unfold zz
  rw [e]
  simp only [aA]
  have Q:=J.len
  have a6:=J.num
  rw [mr eR eR]
  exact ⟨C,T',A,ws,j,Z,⟨J,c',u,s⟩,fb,fb,o⟩
 | x::l,C,T,p,A,ws,n,g,i,u,s,P=>by
  rw [ru,uw]
  simp only [aM] at P
  obtain ⟨b,hb,v⟩:=Rk x C
  simp only [aA,hb,I8]
  by_cases k:mQ x=true∧x∉C
  ·have M:b=false:=by cases b with | false=>rfl | true=>exact absurd (v.1 Z) k.2
   rw [k.1,M]
   simp only [cX,jW,aJ]
   obtain ⟨W,Y,e1,U1⟩:=Zt u eR k.1 (mm T) p n
   rw [e1]
   simp only [aA]
   have L:vJ (C++[x]):=by unfold vJ; simp; omega
   have t:xx (C++[x]):=λc w=>by
    rcases aX.1 w with h | h
    ·exact s c h
    ·simp at h; subst h; exact k.1
   have g1:uY (C++[x]) T p n:=g.mono (λc w=>cN _ w)
   obtain ⟨T2,U,n2,e2,g2,x2,c2⟩:=Yk L t g1 (C++[x]) W Y (c:=x) fb
   rw [e2]
   simp only [aA]
   have y:∀c∈C++[x],Li c T2 U:=λc w=>by
    rcases aX.1 w with h | h
    ·exact (i c h).ext x2
    ·simp at h; subst h; exact c2
   obtain ⟨C',T',a,d,j,e,m,I,a2,a3⟩:=QP q z l g2 y U1 t fo
   refine ⟨C',T',a,d,j,e,m,λc=>?_,by simp at a2 ⊢; omega,λf O=>a3 f (x2.oh f O)⟩
   rw [I]
   simp only [aX,aS,du,fx]
   constructor
   ·rintro ((h | h) | h)
    ·exact .inl h
    ·subst h; exact .inr ⟨.inl Z,k.1⟩
    ·exact .inr ⟨.inr h.1,h.2⟩
   ·rintro (h | ⟨h | h,G⟩)
    ·exact .inl (.inl h)
    ·exact .inl (.inr h)
    ·exact .inr ⟨h,G⟩
  ·have O:(mQ x&&!b)=false:=by
    cases hr:mQ x with
    | false=>rfl
    | true=>
     have:x∈C:=gH λR=>k ⟨hr,R⟩
     rw [v.2 this]; rfl
   rw [O]
   simp only [aB,aH]
   obtain ⟨C',T',a,d,j,e,m,I,a2,a3⟩:=QP q z l g i u s eR
   refine ⟨C',T',a,d,j,e,m,λc=>?_,fo,a3⟩
   rw [I,aS]
   constructor
   ·rintro (h | h)
    ·exact .inl h
    ·exact .inr ⟨.inr h.1,h.2⟩
   ·rintro (h | ⟨h | h,G⟩)
    ·exact .inl h
    ·subst h
     exact .inl (gH λR=>k ⟨G,R⟩)
    ·exact .inr ⟨h,G⟩
theorem Z4 {C:List kK} {T:tb} {i:List (kL×List kK)} {ws:List (ByteArray×List kK)} {n:Int} (h:MS C T i ws n) (l:List kK) (k:C.length+l.length≤1000000) :
  ∃C' T' a d g,yP (mm T) C i ws [] n l=some (g-n,mm T',C',a,d,[],g)∧MS C' T' a d g∧(∀c,c∈C'↔c∈C∨(c∈l∧mQ c=true))∧C'.length≤C.length+l.length∧(∀f∈FS T,f∈FS T'):=by
 have j:vJ C:=by unfold vJ; omega
 have h1:=h.Jw.len
 have o:=j.sq
 have p:=h.Jw.num
 exact QP n ⟨eR,eR⟩ l h.Jw h.cl h.aci h.right k
theorem JZ.zero:JZ [] [] []:=⟨λr c=>by simp [mO],λw c=>by simp [mO],λr=>by simp [mO],λw=>by simp [mO]⟩
theorem uY.zero:uY [] [] [] 0:=⟨fb,by simp [FS],fb,fb,by simp [FS],by simp [FS]⟩
theorem MS.zero:MS [] [] [] [] 0:=⟨uY.zero,λc a=>(by cases a),JZ.zero,λc a=>(by cases a)⟩
theorem Yz (l:List kK) (i:l.length≤1000000):∃C T g ws n,AB l=some (mm T,C,g,ws,[],n)∧MS C T g ws n∧(∀c,c∈C↔c∈l∧mQ c=true)∧C.length≤l.length:=by
 unfold AB
 obtain ⟨C',T',a,d,j,e,m,h,a2,a3⟩:=Z4 MS.zero l (by simpa using i)
 rw [show yP [] [] [] [] [] 0 l=_ from e]
 exact ⟨C',T',a,d,j,Z,m,by simpa using h,by simpa using a2⟩
theorem sX.congr {C C':List kK} (h:∀c,c∈C↔c∈C') (f:lx):sX C f↔sX C' f:=⟨λd=>d.mono λc a=>(h c).1 a,λd=>d.mono λc a=>(h c).2 a⟩
def En (a b:lx):Bool:=Cz a.kL b.kL||(lJ a.kL b.kL&&uJ a.lV b.lV)
theorem Gc {a b:lx}:En a b=true↔Cz a.kL b.kL=true∨(a.kL=b.kL∧uJ a.lV b.lV=true):=by simp [En,lO]
def I4 (_:lx):Bool:=true
theorem NA:FL (λa b=>En a b=true) (λx=>I4 x=true):=by
 have H:=M6 (λ_=>True)
 refine ⟨λx _=>?_,λx y z _ _ _ h1 c=>?_,λx y _ _=>?_⟩
 ·rw [Gc]
  rintro (h | ⟨_,h⟩)
  ·exact H.irrefl _ trivial h
  ·rw [yi] at h; cases h
 ·rw [Gc] at *
  rcases h1 with h1 | ⟨g,h1⟩
  ·rcases c with c | ⟨d,c⟩
   ·exact .inl (H.trans _ _ _ trivial trivial trivial h1 c)
   ·exact .inl (by rw [←d]; exact h1)
  ·rcases c with c | ⟨d,c⟩
   ·exact .inl (by rw [g]; exact c)
   ·exact .inr ⟨g.trans d,Fu h1 c⟩
 ·simp only [Gc]
  rcases H.total x.kL y.kL trivial trivial with h | h | h
  ·exact .inl (.inl h)
  ·rcases Fe x.lV y.lV with c | c | c
   ·exact .inl (.inr ⟨h,c⟩)
   ·refine .inr (.inl ?_)
    cases x; cases y; simp at h c; simp [h,c]
   ·exact .inr (.inr (.inr ⟨h.symm,c⟩))
  ·exact .inr (.inr (.inl h))
theorem ND (a b:ByteArray):tz a b=0↔a=b:=by unfold tz; rw [Mz]; exact ⟨Bv,λh=>by rw [h]⟩
theorem abq (a b:ByteArray):tz a b < 0↔uJ a b=true:=by rw [Dq]; exact Ih _ _
theorem WC (a b:kL):∃c,tY a b=some c∧(c < 0↔Cz a b=true)∧(c=0↔a=b):=by
 obtain ⟨c,e,h⟩:=Cl a b
 refine ⟨c,e,h,?_⟩
 unfold tY at e
 simp only [uf,pL,aA,zX,xJ,vn] at e
 by_cases d:tz a.kO b.kO=0
 ·rw [aN (by simp [d])] at e
  have h1:=(ND _ _).1 d
  by_cases g:tz a.Word b.Word=0
  ·rw [aN (by simp [g])] at e
   have i:=(ND _ _).1 g
   cases e
   refine ⟨λ_=>?_,λ_=>rfl⟩
   cases a; cases b; simp at h1 i; simp [h1,i]
  ·rw [aP (by simp [g])] at e
   cases e
   exact ⟨λk=>absurd k g,λk=>by rw [k] at g; exact absurd ((ND _ _).2 Z) g⟩
 ·rw [aP (by simp [d])] at e
  cases e
  exact ⟨λk=>absurd k d,λk=>by rw [k] at d; exact absurd ((ND _ _).2 Z) d⟩
theorem Xf (a b:lx):∃c,uF a b=some c∧(c < 0↔En a b=true):=by
 unfold uF
 obtain ⟨c,e,h1,i⟩:=WC a.kL b.kL
 rw [e]
 simp only [uf,pL,aA,zX,xJ,vn]
 by_cases g:c=0
 ·rw [aN (by simp [g])]
  have n:=i.1 g
  have d:¬Cz a.kL b.kL=true:=λj=>by have:=h1.2 j; omega
  by_cases h:tz a.lV b.lV=0
  ·rw [aN (by simp [h])]
   refine ⟨0,Z,?_⟩
   rw [Gc]
   simp [d,(ND _ _).1 h,yi]
  ·rw [aP (by simp [h])]
   refine ⟨_,Z,?_⟩
   rw [Gc,abq]
   exact ⟨λk=>.inr ⟨n,k⟩,λk=>k.elim (λk=>absurd k d) (·.2)⟩
 ·rw [aP (by simp [g])]
  refine ⟨c,Z,?_⟩
  rw [Gc,h1]
  have:a.kL≠b.kL:=λk=>g (i.2 k)
  simp [this]
theorem TJ {α:Type} {eq:α→α→Bool} (he:∀x y,eq x y=true↔x=y):∀(l:List α) (p:α),(p::l).Nodup→oT eq p l=l
 | [],p,_=>rfl
 | y::l,p,h=>by
  have h1:=ey.1 h
  rw [oT,aN λe=>h1.1 (by rw [←(he _ _).1 e]; simp),TJ he l y h1.2]
theorem abT {α:Type} {eq:α→α→Bool} (he:∀x y,eq x y=true↔x=y):∀l:List α,l.Nodup→dd eq l=l
 | [],_=>rfl
 | x::l,h=>by rw [dd,TJ he l x h]
def Gr (P:lx→Prop) (s:List lx):Prop:=s.Pairwise (λa b=>En a b=true)∧∀f,f∈s↔P f
theorem Gr.unique {P:lx→Prop} {s t:List lx} (h:Gr P s) (k:Gr P t):s=t :=
 zU.unique (l:=s) NA ⟨h.1,λx=>⟨λa=>⟨a,Z⟩,λa=>a.1⟩⟩ ⟨k.1,λx=>by rw [k.2,h.2]; exact ⟨λa=>⟨a,Z⟩,λa=>a.1⟩⟩
theorem M4 {l:List lx} (d:l.Nodup) (j:l.length≤1000000000000):∃s,CS (λ(x:lx×lx)=>uF x.1 x.2) l=some s∧Gr (λf=>f∈l) s:=by
 obtain ⟨s,h1,i,c⟩:=HT (eq:=Gi) (lt:=λa b=>En a b=true) (P:=λx=>I4 x=true) (cf:=λ(x:lx×lx)=>uF x.1 x.2) (l:=l) (λx y=>Co) NA (λ_ _=>rfl) eR (λx y _ _=>Xf x y)
 have g:s.Nodup:=by
  have:=(NM h1).2
  rw [this]
  unfold vx
  exact (iU l _).nodup_iff.2 d
 rw [abT (λx y=>Co) s g] at c
 exact ⟨s,h1,c.1,λf=>by rw [c.2]; exact ⟨λh=>h.1,λh=>⟨h,Z⟩⟩⟩
theorem Z3 (T:tb):(mm T).flatMap (λp=>p.2.map λq=>(λ(a:kL) (b:ByteArray)=>(⟨a,b⟩:lx)) p.1 q.1)=FS T:=by
 unfold mm FS tt
 rw [List.flatMap_map]
 congr 1
 funext p
 simp [gk]
theorem Yc {C:List kK} (j:vJ C) {T:tb} {q:List (kL×List kK)} {ws:List (ByteArray×List kK)} {n:Int} (h:MS C T q ws n) (cs:List kK) (u:List (kL×List kK)) (w:List (ByteArray×List kK)) (p:List lx) (z:Int) :
  ∃s,Bg (mm T) cs u w p z=some s∧Gr (sX C) s:=by
 have k:=j.sq
 have hlen:=h.Jw.len
 obtain ⟨s,t,i⟩:=M4 h.Jw.nd eR
 have g:Gr (sX C) s:=⟨i.1,λf=>(i.2 f).trans (h.all f)⟩
 refine ⟨s,?_,g⟩
 unfold Bg Wp
 rw [Z3]
 rw [aP ⟨eR,by unfold maxLen; omega⟩]
 simp only [aA,vn]
 refine MF (λo c=>?_)
 obtain ⟨v,d,a⟩:=M4 (c.nodup_iff.2 h.Jw.nd) (by rw [c.length_eq]; omega)
 rw [d]
 congr 1
 exact Gr.unique ⟨a.1,λf=>(a.2 f).trans (c.mem_iff.trans (h.all f))⟩ g
theorem Ym (r:kL) (w:ByteArray):∀l:List lx,∃b,AP r w l=some b∧(b=true↔(⟨r,w⟩:lx)∈l)
 | []=>⟨false,Z,fb⟩
 | x::l=>by
  rw [AP]
  simp only [I8,aA]
  obtain ⟨b,e,d⟩:=Ym r w l
  by_cases h:(lJ x.kL r&&mx x.lV w)=true
  ·rw [aP h]
   have a:x=⟨r,w⟩:=by
    rw [bL,lO,mU] at h
    cases x; simp at h; simp [h]
   exact ⟨true,Z,by simp [a]⟩
  ·rw [aN h]
   refine ⟨b,e,?_⟩
   rw [d,aS]
   refine ⟨.inr,λc=>c.resolve_left λe=>h ?_⟩
   rw [←e]; simp [Am,wA]
theorem Er (l:List lx) (r:kL) (w:ByteArray):∃b,zn l r w=some b∧(b=true↔(⟨r,w⟩:lx)∈l):=Ym r w l
def BR (l:List lx) (c:kK) (names:List ByteArray) (w:ByteArray):Prop :=
 (c.Kind=1∧c.lV=w)∨(c.Kind=2∧(⟨c.B,w⟩:lx)∈l)∨(c.Kind=4∧(⟨c.B,w⟩:lx)∈l∧(⟨c.C,w⟩:lx)∈l)∨
 (c.Kind≠1∧c.Kind≠2∧c.Kind≠4∧∃b∈names,(⟨c.B,b⟩:lx)∈l∧(⟨⟨b,c.lW⟩,w⟩:lx)∈l)
theorem MI (l:List lx) (c:kK) (w:ByteArray):∀names:List ByteArray,∃b,zj l c w names=some b∧(b=true↔∃b∈names,(⟨c.B,b⟩:lx)∈l∧(⟨⟨b,c.lW⟩,w⟩:lx)∈l)
 | []=>⟨false,Z,fb⟩
 | x::names=>by
  rw [zj]
  obtain ⟨g,j,h1⟩:=Er l c.B x
  obtain ⟨i,k,d⟩:=Er l ⟨x,c.lW⟩ w
  obtain ⟨b,e,n⟩:=MI l c w names
  rw [j,k,e]
  simp only [aA,I8]
  by_cases h:(g&&i)=true
  ·rw [aP h]
   rw [bL,h1,d] at h
   exact ⟨true,Z,by simp [h]⟩
  ·rw [aN h]
   rw [bL,h1,d] at h
   refine ⟨b,Z,?_⟩
   rw [n]
   constructor
   ·rintro ⟨y,a,q⟩; exact ⟨y,by simp [a],q⟩
   ·rintro ⟨y,a,q⟩
    rcases aS.1 a with rfl | a
    ·exact absurd q h
    ·exact ⟨y,a,q⟩
theorem Zh (l:List lx) (c:kK) (names:List ByteArray) (w:ByteArray):∃b,D6 l c names w=some b∧(b=true↔BR l c names w):=by
 unfold D6 BR
 simp only [vn]
 by_cases h1:c.Kind=1
 ·rw [aP (by simp [h1])]; exact ⟨_,Z,by simp [h1,mU]⟩
 rw [aN (by simp [h1])]
 by_cases a:c.Kind=2
 ·rw [aP (by simp [a])]
  obtain ⟨b,e,g⟩:=Er l c.B w
  exact ⟨b,e,by simp [a,g]⟩
 rw [aN (by simp [a])]
 by_cases d:c.Kind=4
 ·rw [aP (by simp [d])]
  obtain ⟨n,j,h⟩:=Er l c.B w
  obtain ⟨o,k,i⟩:=Er l c.C w
  rw [j,k]
  simp only [aA,I8]
  exact ⟨_,Z,by simp [d,h,i]⟩
 rw [aN (by simp [d])]
 obtain ⟨b,e,g⟩:=MI l c w names
 exact ⟨b,e,by rw [g]; simp [h1,a,d]⟩
theorem BR.Cd {C:List kK} {l:List lx} (a:∀f∈l,sX C f) {c:kK} (d:c∈C) (hk:c.Kind=1∨c.Kind=2∨c.Kind=3∨c.Kind=4) {names:List ByteArray} {w:ByteArray} (h:BR l c names w):sX C ⟨c.Head,w⟩:=by
 rcases h with ⟨k,rfl⟩ | ⟨k,h⟩ | ⟨k,h1,g⟩ | ⟨i,k2,j,b,_,h1,g⟩
 ·exact .mem c d k
 ·exact .inc c w d k (a _ h)
 ·exact .both c w d k (a _ h1) (a _ g)
 ·exact .MV c b w d eR (a _ h1) (a _ g)
theorem UJ {c:kK} (h:mQ c=true):c.Kind=1∨c.Kind=2∨c.Kind=3∨c.Kind=4:=by rcases rT h with h | h | h | h <;> simp [h.1]
structure JN (C:List kK) (out:List lx):Prop where
 nd:out.Nodup
 Cd:∀f∈out,sX C f
theorem JN.len {C:List kK} {out:List lx} (h:JN C out):out.length≤C.length*C.length:=by
 rw [←IV]; exact oE h.nd (λf a=>(h.Cd f a).LC)
theorem Mv {C:List kK} (t:vJ C) (u:xx C) {c:kK} (n:c∈C) (names:List ByteArray):∀(l:List ByteArray) (out:List lx) (i:Bool),JN C out→
  ∃g d,zf c names l out i=some (g,d)∧JN C g∧(d=true→i=true∨out.length < g.length)∧(d=false→i=false∧g=out∧∀w∈l,BR out c names w→(⟨c.Head,w⟩:lx)∈out)∧out.length≤g.length
 | [],out,i,h=>⟨out,i,Z,h,.inl,λh=>⟨h,Z,λ_ hw=>by cases hw⟩,aZ _⟩
 | w::l,out,i,h=>by
  rw [zf]
  obtain ⟨z,J,h1⟩:=Er out c.Head w
  obtain ⟨I,L,A⟩:=Zh out c names w
  rw [J,L]
  simp only [aA,I8]
  by_cases j:(!z&&I)=true
  ·rw [aP j]
   rw [bL] at j
   have x:(⟨c.Head,w⟩:lx)∉out:=λO=>by have:=h1.2 O; rw [this] at j; exact absurd j.1 fs
   have Q:=h.len
   have P:=t.sq
   rw [nL fo fo]
   simp only [aA]
   have M:JN C (out++[⟨c.Head,w⟩]):=⟨cL.2 ⟨h.nd,fb,λa ha b j e=>by simp at j; subst j; subst e; exact x ha⟩,λf k=>by
    rcases aX.1 k with k | k
    ·exact h.Cd f k
    ·simp at k; subst k; exact (A.1 j.2).Cd h.Cd n (UJ (u c n))⟩
   obtain ⟨g,d,e,o,a2,a3,a4⟩:=Mv t u n names l _ true M
   simp at a4
   exact ⟨g,d,e,o,λ_=>.inr eR,λk=>(by cases (a3 k).1),eR⟩
  ·rw [aN j]
   obtain ⟨g,d,e,o,a2,a3,a4⟩:=Mv t u n names l out i h
   refine ⟨g,d,e,o,a2,λk=>?_,a4⟩
   obtain ⟨p,q,s⟩:=a3 k
   refine ⟨p,q,λv y G=>?_⟩
   rcases aS.1 y with rfl | y
   ·refine gH λx=>j ?_
    rw [bL,A.2 G]
    cases z with
    | false=>exact ⟨Z,Z⟩
    | true=>exact absurd (h1.1 Z) x
   ·exact s v y G
theorem Qu {C:List kK} (o:vJ C) (p:xx C) (names:List ByteArray):∀(l:List kK) (out:List lx) (a:Bool),(∀c∈l,c∈C)→JN C out→
  ∃g i,A6 names l out a=some (g,i)∧JN C g∧(i=true→a=true∨out.length < g.length)∧(i=false→a=false∧g=out∧∀c∈l,∀w∈names,BR out c names w→(⟨c.Head,w⟩:lx)∈out)∧out.length≤g.length
 | [],out,a,_,h=>⟨out,a,Z,h,.inl,λh=>⟨h,Z,λ_ hw=>by cases hw⟩,aZ _⟩
 | c::l,out,a,q,h=>by
  rw [A6]
  obtain ⟨z,c1,x,s,a2,a3,a4⟩:=Mv o p (q c fb) names names out a h
  rw [x]
  simp only [aA]
  obtain ⟨A,c2,y,t,u,v,L⟩:=Qu o p names l z c1 (λd j=>q d (by simp [j])) s
  refine ⟨A,c2,y,t,λk=>?_,λk=>?_,eR⟩
  ·rcases u k with h1 | h1
   ·rcases a2 h1 with n | n
    ·exact .inl n
    ·exact .inr eR
   ·exact .inr eR
  ·obtain ⟨G,I,J⟩:=v k
   obtain ⟨q1,q2,q3⟩:=a3 G
   subst q2
   refine ⟨q1,I,λd j=>?_⟩
   rcases aS.1 j with rfl | j
   ·exact q3
   ·exact J d j
def zF:lx:=⟨⟨zS,zS⟩,zS⟩
theorem Qs (a b:lx):yy a b=some (En a b):=by
 unfold yy En
 simp only [Bm,aA,I8,orS]
def aad (a:List lx) (c:Int) (p:Bool×lx):Prop:=(p.1=false∧c=-1)∨(p.1=true∧0≤c∧mT a c=some p.2)
theorem Hd (out a:List lx) (i:out.length < 4611686018427387904):∀(rest A:List lx) (c:Int) (p:Bool×lx),a=A++rest→aad a c p→
  ∃d,sS out a rest A.length c=some d∧aad a d (vr I4 En out.getLast? rest p.1 p.2)
 | [],A,c,p,ha,j=>⟨c,Z,j⟩
 | x::rest,A,c,p,ha,j=>by
  rw [sS,vr]
  simp only [I4,eP]
  have h1:((if ((out.length:Int)==0)=true then some true else (mT out (wi0 .i64 ((out.length:Int)-1))).bind λy=>(yy y x).bind λr=>some r):Option Bool)=some (out.getLast?.all λy=>En y x):=by
   rcases dt out with h | ⟨B,z,h⟩
   ·subst h; rfl
   ·subst h
    rw [aN fo]
    rw [dR] at i ⊢
    rw [I3 B z (by simp at i; omega)]
    simp [Qs]
  have q:((if decide (c < 0)=true then some true else (mT a c).bind λy=>(yy x y).bind λr=>some r):Option Bool)=some (!p.1||En x p.2):=by
   rcases j with ⟨k,n⟩ | ⟨k,n,o⟩
   ·rw [aP (by simp [n]),k]; rfl
   ·rw [aN (by simpa using n),o,k]
    simp [Qs]
  rw [h1]
  simp only [aA]
  rw [q]
  simp only [aA,I8]
  have s:mT a (A.length:Int)=some x:=by rw [ha]; exact ov A x rest _ Z
  by_cases g:((out.getLast?.all λy=>En y x)&&(!p.1||En x p.2))=true
  ·rw [aP g,aP g]
   have:=Hd out a i rest (A++[x]) (A.length:Int) (true,x) (by rw [ha]; simp) (.inr ⟨Z,fb,s⟩)
   simpa using this
  ·rw [aN g,aN g]
   have:=Hd out a i rest (A++[x]) c p (by rw [ha]; simp) j
   simpa using this
theorem Lr {out a:List lx} (d:out.length < 4611686018427387904) (h:(vr I4 En out.getLast? a false zF).1=false):∀LA:List lx,sQ a LA out=some out
 | []=>rfl
 | x::LA=>by
  rw [sQ]
  obtain ⟨b,e,i⟩:=Hd out a d a [] (-1) (false,zF) Z (.inl ⟨Z,Z⟩)
  rw [show sS out a a 0 (-1)=some b from e]
  simp only [aA]
  rcases i with ⟨_,g⟩ | ⟨c,_⟩
  ·rw [aN (by simp [g])]; exact Lr d h LA
  ·rw [h] at c; cases c
theorem OV (a:List lx):∀(LA:List lx) (out s:List lx),DF 48 I4 En zF a (LA.length+1) out=some s→s.length < 4611686018427387904→sQ a LA out=some s∧out.length≤s.length
 | [],out,s,h,i=>by
  rw [DF] at h
  cases hp:(vr I4 En out.getLast? a false zF).1 with
  | false=>
   rw [hp] at h
   simp only [cX,aJ] at h
   cases h
   exact ⟨Z,aZ _⟩
  | true=>
   rw [hp] at h
   simp only [bR,aB,aH] at h
   obtain ⟨o,c,h⟩:=bind_some h
   replace h:DF 48 I4 En zF a 0 o=some s:=h
   rw [DF] at h
   cases h
 | x::LA,out,s,h,i=>by
  rw [DF] at h
  cases hp:(vr I4 En out.getLast? a false zF).1 with
  | false=>
   rw [hp] at h
   simp only [cX,aJ] at h
   cases h
   exact ⟨Lr i hp _,aZ _⟩
  | true=>
   rw [hp] at h
   simp only [bR,aB,aH] at h
   obtain ⟨o,c,h⟩:=bind_some h
   have g:=c
   unfold nF at c
   split at c
   case isFalse=>cases c
   cases c
   obtain ⟨p,k2⟩:=OV a LA _ s h i
   simp at k2
   rw [sQ]
   obtain ⟨b,e,n⟩:=Hd out a eR a [] (-1) (false,zF) Z (.inl ⟨Z,Z⟩)
   rw [show sS out a a 0 (-1)=some b from e]
   simp only [aA]
   rcases n with ⟨d,_⟩ | ⟨d,j,k⟩
   ·rw [hp] at d; cases d
   ·rw [aP (by simpa using j),k]
    simp only [aA]
    rw [g]
    exact ⟨p,eR⟩
theorem Wy (l:List lx) (d:l.length≤1000000000):∃s,EH l=some s∧Gr (λf=>f∈l) s:=by
 obtain ⟨s,h1,a⟩:=Fi NA (w:=48) eR zF l d (l.length+1) [] fb fb (λx c=>by cases c) (λx _ _=>.inr Z)
 have hlen:s.length≤l.length:=oE (zI NA (λ_ _=>rfl) a.1) (λx c=>((a.2 x).1 c).1)
 exact ⟨s,(OV l l [] s h1 eR).1,a.1,λf=>by rw [a.2]; exact ⟨λh=>h.1,λh=>⟨h,Z⟩⟩⟩
theorem RR:∀(l:List kK) (acc:List ByteArray),acc.length+4*l.length≤1000000000→xh l acc=EU (acc++l.flatMap λc=>[c.lV,c.Head.kO,c.B.kO,c.C.kO])
 | [],acc,_=>by rw [xh]; simp [vn]
 | c::l,acc,h=>by
  rw [xh]
  simp only [aM] at h
  rw [nL fo fo]
  simp only [aA]
  rw [RR l _ fo]
  simp
def SM (C:List kK):Prop:=C.length≤30000
theorem SM.small {C:List kK} (h:SM C):vJ C:=by unfold SM at h; unfold vJ; omega
theorem SM.sq {C:List kK} (h:SM C):C.length*C.length≤900000000:=jv h h
theorem Xb {C:List kK} (d:SM C) (i:xx C):∃names,CF C=some names∧∀c∈C,c.Kind=1→c.lV∈names:=by
 have g:C.length≤30000:=d
 unfold CF
 rw [RR C [] fo]
 obtain ⟨s,e,j⟩:=Zd ([]++C.flatMap λc=>[c.lV,c.Head.kO,c.B.kO,c.C.kO]) (by
  have:∀l:List kK,(l.flatMap λc=>[c.lV,c.Head.kO,c.B.kO,c.C.kO]).length=4*l.length:=λl=>by
   induction l with
   | nil=>rfl
   | cons x l ih=>simp [ih]; omega
  rw [bN,this]; omega)
 refine ⟨s,e,λc a hk=>(j.2 _).2 ⟨?_,?_⟩⟩
 ·rw [bN]; exact kd.2 ⟨c,a,fb⟩
 ·rcases rT (i c a) with h | h | h | h
  ·exact h.2.1
  ·exact absurd (hk.symm.trans h.1) fs
  ·exact absurd (hk.symm.trans h.1) fs
  ·exact absurd (hk.symm.trans h.1) fs
theorem TZ {C:List kK} (p:xx C) {names:List ByteArray} (n:∀c∈C,c.Kind=1→c.lV∈names) {out:List lx} (h:∀c∈C,∀w∈names,BR out c names w→(⟨c.Head,w⟩:lx)∈out) {f:lx} (k:sX C f):f∈out:=by
 have hw:∀f,sX C f→f.lV∈names:=λf k=>by
  obtain ⟨c,a,hk,e⟩:=k.SG
  rw [←e]; exact n c a hk
 induction k with
 | mem c a hk=>exact h c a _ (n c a hk) (.inl ⟨hk,Z⟩)
 | inc c w a hk o ih=>exact h c a w (hw _ o) (.inr (.inl ⟨hk,ih⟩))
 | MV c b w a hk d j g i=>exact h c a w (hw _ j) (.inr (.inr (.inr ⟨eR,eR,eR,b,hw _ d,g,i⟩)))
 | both c w a hk d j g i=>exact h c a w (hw _ d) (.inr (.inr (.inl ⟨hk,g,i⟩)))
theorem Rq {C:List kK} (a:SM C) (d:xx C) {names:List ByteArray} (i:∀c∈C,c.Kind=1→c.lV∈names):∀(m:Nat) (out:List lx),JN C out→C.length*C.length < m+out.length→
  ∃s,zb names C m out=some s∧Gr (sX C) s
 | 0,out,h,hm=>by have:=h.len; omega
 | m+1,out,h,hm=>by
  rw [zb]
  obtain ⟨o,c,e,j,a2,a3,a4⟩:=Qu a.small d names C out false (λ_ h=>h) h
  rw [e]
  simp only [aA,vn]
  cases c with
  | false=>
   simp only [cX,aJ]
   obtain ⟨_,k,n⟩:=a3 Z
   subst k
   have t:=h.len
   have q:=a.sq
   obtain ⟨s,p,g⟩:=Wy o eR
   exact ⟨s,p,g.1,λf=>(g.2 f).trans ⟨h.Cd f,TZ d i n⟩⟩
  | true=>
   simp only [bR,aB,aH]
   rcases a2 Z with h1 | h1
   ·cases h1
   ·exact Rq a d i m o j eR
theorem ZH (l:List kK) (q:l.length≤30000):∃C s,BQ l=some s∧Gr (sX C) s∧∀c,c∈C↔c∈l∧mQ c=true:=by
 unfold BQ
 obtain ⟨C,e,d⟩:=Tw l eR
 have hlen:=D1 Iv d
 have a:SM C:=by unfold SM; omega
 have g:xx C:=λc k=>((d.2 c).1 k).2
 obtain ⟨names,h,o⟩:=Xb a g
 rw [e]
 simp only [aA]
 rw [h]
 simp only [aA]
 have p:=a.sq
 obtain ⟨s,i,j⟩:=Rq a g o lP [] ⟨fb,λf n=>by cases n⟩ (by rw [sP]; simp; omega)
 exact ⟨C,s,i,j,d.2⟩
theorem HD (w:ByteArray):∀(l:List lx) (acc:List kL),acc.length+l.length≤1000000000→uT w l acc=some (acc++(l.filter λf=>mx f.lV w).map (·.kL))
 | [],acc,_=>by rw [uT]; simp
 | x::l,acc,h=>by
  rw [uT]
  simp only [aM] at h
  by_cases a:mx x.lV w=true
  ·rw [aP a,nL fo fo]
   simp only [aA]
   rw [HD w l _ fo]
   simp [a]
  ·rw [aN a,HD w l acc eR]
   simp [a]
theorem Y7 {P:lx→Prop} {s t:List lx} (h:Gr P s) (c:∀f,P f→f∈t):s.length≤t.length:=oE (zI NA (λ_ _=>rfl) h.1) (λf a=>c f ((h.2 f).1 a))
theorem ZA {C:List kK} {s:List lx} (h:Gr (sX C) s) (a:SM C):s.length≤900000000:=by
 have:=Y7 h (t:=LC C) (λf c=>c.LC)
 rw [IV] at this
 have:=a.sq
 omega
theorem aar {C:List kK} {T:tb} {c:List (kL×List kK)} {ws:List (ByteArray×List kK)} {n:Int} (h:MS C T c ws n) (cs:List kK) (u:List (kL×List kK)) (w:List (ByteArray×List kK)) (a:List lx) (z:Int) (r:kL) (SG:ByteArray) :
  ∃b,tF (mm T) cs u w a z r SG=some b∧(b=true↔sX C ⟨r,SG⟩) :=
 ⟨_,Z,by rw [yh h.Jw.keys,h.all]⟩
def qA:kL:=⟨⟨#[97]⟩,⟨#[114]⟩⟩
def qB:kL:=⟨⟨#[98]⟩,⟨#[115]⟩⟩
def qd:ByteArray:=⟨#[100]⟩
def j1:kK:=⟨2,qA,zS,qB,⟨zS,zS⟩,zS⟩
def j2:kK:=⟨1,qB,qd,⟨zS,zS⟩,⟨zS,zS⟩,zS⟩
theorem Uj {a b:kL} (h:a≠b):lJ a b=false:=by
 cases c:lJ a b with
 | false=>rfl
 | true=>exact absurd (lO.1 c) h
theorem BR.own {l:List lx} {c:kK} {names:List ByteArray} {w:ByteArray} (h:BR l c names w):BR l c (l.map (·.lV)) w:=by
 rcases h with h | h | h | ⟨q1,q2,q3,b,_,q5,q6⟩
 ·exact .inl h
 ·exact .inr (.inl h)
 ·exact .inr (.inr (.inl h))
 ·exact .inr (.inr (.inr ⟨q1,q2,q3,b,bW.2 ⟨_,q5,Z⟩,q5,q6⟩))
theorem BR.subset {a b:List lx} {c:kK} {names:List ByteArray} {w:ByteArray} (h:BR a c names w) (d:∀f∈a,f∈b):BR b c names w:=by
 rcases h with h | h | h | ⟨q1,q2,q3,g,q4,q5,q6⟩
 ·exact .inl h
 ·exact .inr (.inl ⟨h.1,d _ h.2⟩)
 ·exact .inr (.inr (.inl ⟨h.1,d _ h.2.1,d _ h.2.2⟩))
 ·exact .inr (.inr (.inr ⟨q1,q2,q3,g,q4,d _ q5,d _ q6⟩))
def up (w:ByteArray) (g:ByteArray→Nat):ByteArray→Nat:=λx=>if mx w x=true then g x+1 else g x
theorem aac (F:List lx) (w:ByteArray) (a:F.length≤1000000000):AO F w=some ((F.filter λf=>mx f.lV w).map (·.kL)):=by
 unfold AO
 rw [HD w F [] fo]
 simp
def tot {α:Type} (a:List (List α)):Nat:=(a.map List.length).sum
instance acG:DecidableEq kL:=λa b=>decidable_of_iff (lJ a b=true) lO
theorem J1 (b:List kL):∀(l m A:List kL),A++m=b→l.length=m.length→uo b l A.length=some (decide (l=m))∧sO b l A.length=some (decide (l=m))
 | [],[],A,_,_=>⟨by rw [uo]; rfl,by rw [sO]; rfl⟩
 | x::l,y::m,A,h,d=>by
  have e:mT b (A.length:Int)=some y:=by rw [←h]; exact ov A y m _ Z
  obtain ⟨c,a2⟩:=J1 b l m (A++[y]) (by simpa using h) (by simpa using d)
  rw [aF] at c a2
  rw [uo,sO,e]
  simp only [aA]
  by_cases a:x=y
  ·subst a
   rw [Am]
   simp only [bR,aB,aH]
   exact ⟨by rw [show A.length+1=A.length+[x].length from rfl,c]; simp,by rw [show A.length+1=A.length+[x].length from rfl,a2]; simp⟩
  ·rw [Uj a]
   simp [a]
theorem Wl (a b:List kL):yM a b=some (decide (a=b)):=by
 unfold yM
 by_cases h:a.length=b.length
 ·rw [aN (by simp [h])]
  exact (J1 b a b [] Z h).1
 ·rw [aP fo]
  simp; intro e; exact h (by rw [e])
theorem F2 (a b:List kL):wK a b=some (decide (a=b)):=by
 unfold wK
 by_cases h:a.length=b.length
 ·rw [aN (by simp [h])]
  exact (J1 b a b [] Z h).2
 ·rw [aP fo]
  simp; intro e; exact h (by rw [e])
def QS (F:List lx) (w:ByteArray):List kL:=(F.filter λf=>mx f.lV w).map (·.kL)
structure Fac (l:List kK) (F:List lx):Prop where
 len:l.length≤30000
 C:∃C:List kK,Gr (sX C) F∧(∀c,c∈C↔c∈l∧mQ c=true)∧SM C
 ref:BQ l=some F
theorem aax (l:List kK) (h:l.length≤30000):∃F,Fac l F:=by
 obtain ⟨C,F,e,h1,i⟩:=ZH l h
 obtain ⟨C1,T,k,ws,n,j,m1,a,g⟩:=Yz l eR
 have d:∀c,c∈C↔c∈C1:=λc=>by rw [i,a]
 exact ⟨F,h,⟨C1,⟨h1.1,λf=>(h1.2 f).trans (sX.congr d f)⟩,a,by unfold SM; omega⟩,e⟩
theorem Fac.acq {l:List kK} {F:List lx} (h:Fac l F):F.length≤900000000:=by
 obtain ⟨C,h1,c,a⟩:=h.C
 exact ZA h1 a
def qa:ByteArray:=⟨#[97]⟩
def B8 (l:List Int):Prop:=∀x∈l,0≤x∧x < 256
theorem B8.Lz {a b:List Int} (ha:B8 a) (c:B8 b):B8 (a++b):=λx d=>(aX.1 d).elim (ha x) (c x)
theorem H3 {a b:List Int} (ha:B8 a) (c:B8 b):mH a=mH b↔a=b :=
 ⟨λh=>Ox ha c (by rw [←sW,←sW,h]),λh=>by rw [h]⟩
theorem ML {l:List Int} (h:B8 l):wL (mH l)=l:=by
 unfold wL
 rw [sW]
 unfold xO
 rw [eY]
 conv=>rhs; rw [←List.map_id l]
 apply iT
 intro x c
 have:=h x c
 simp only [Function.comp,id]
 have a:x.toNat.toUInt8.toNat=x.toNat:=by rw [Nat.toUInt8_eq,ju]; omega
 rw [a]; omega
theorem US {l:List Int} (h:B8 l) (a:l.length≤1000000):Ef (mH l)=some l:=by
 unfold Ef
 rw [ML h,vc,aP (by simp only [maxLen]; omega)]
def Ru (h x:Int):Int:=IntKind.u64.wrap ((IntKind.u64.wrap (BitVec.ofInt (IntKind.bits .u64) h ^^^ BitVec.ofInt (IntKind.bits .u64) (IntKind.u64.wrap x)).toNat)*1099511628211)
def Bd (l:List Int):Int:=l.foldl Ru 14695981039346656037
theorem Zi (n:Int):0≤IntKind.u64.wrap n∧IntKind.u64.wrap n < 18446744073709551616:=by
 simp only [IntKind.wrap,IntKind.bits,IntKind.signed]; constructor
 ·simp; omega
 ·simp; omega
theorem IG (l:List Int):0≤Bd l∧Bd l < 18446744073709551616:=by
 have:∀(l:List Int) (h:Int),(0≤h∧h < 18446744073709551616)→0≤l.foldl Ru h∧l.foldl Ru h < 18446744073709551616:=by
  intro l
  induction l with
  | nil=>intro h a; exact a
  | cons x l ih=>intro h a; exact ih _ (Zi _)
 exact this l _ eR
theorem U4:∀(l:List Int) (h:Int),BG l h=some (l.foldl Ru h)
 | [],h=>rfl
 | x::l,h=>by rw [BG,U4 l]; rfl
theorem Vr:∀(a:List (List Int)) (h:Int),BI a h=some (a.flatten.foldl Ru h)
 | [],h=>rfl
 | l::a,h=>by rw [BI,U4,aA,Vr a,bX,List.foldl_append]
theorem Vw (a:List (List Int)):Hf a=some (Bd a.flatten):=Vr a _
theorem Pm (s:ByteArray) (c:s.size≤10000000):∀(B A:List UInt8) (h:Int) (n:Nat),s.data.toList=A++B→B.length < n→xe s n h (A.length:Int)=some ((B.map λb=>(b.toNat:Int)).foldl Ru h)
 | [],A,h,n+1,e,_=>by
  have:s.size=A.length:=by rw [yq,e]; simp
  rw [xe,aN (by simp [this])]; rfl
 | b::B,A,h,n+1,e,a=>by
  have d:s.size=A.length+(B.length+1):=by rw [yq,e]; simp
  rw [xe,aP fo,N1 e _ Z,aA,mr eR eR]
  have:=Pm s c B (A++[b]) (Ru h (b.toNat:Int)) n (by rw [e]; simp) (by simp only [aM] at a; omega)
  simp only [aF,aM,bZ,fa] at this
  rw [bY,fA,←this]
  rfl
theorem U5 {l:List Int} (h:B8 l) (a:l.length≤1000000):CC (mH l)=some (Bd l):=by
 unfold CC
 have:=Pm (mH l) (by rw [vc]; omega) (mH l).data.toList [] 14695981039346656037 lP Z (by rw [←yq,vc,sP]; omega)
 rw [show ((mH l).data.toList.map λb=>(b.toNat:Int))=l from ML h] at this
 exact this
def Eo (H:Int):List Int:=[H / 72057594037927936 % 256,H / 281474976710656 % 256,H / 1099511627776 % 256,H / 4294967296 % 256,H / 16777216 % 256,H / 65536 % 256,H / 256 % 256,H % 256]
theorem XR (H:Int):B8 (Eo H):=by
 intro x a
 simp only [Eo,aS,du,fx] at a
 rcases a with rfl | rfl | rfl | rfl | rfl | rfl | rfl | rfl <;> omega
theorem TF (H:Int) (hH:0≤H∧H < 18446744073709551616):((GY 1 (0:Int) 8).bind λl=>uK H l 0 l)=some (Eo H):=by
 have c:GY 1 (0:Int) 8=some [0,0,0,0,0,0,0,0]:=by unfold GY; rw [aP (by simp [maxLen])]; rfl
 rw [c,aA]
 have h:∀n:Nat,n≤7→wi0 .i64 (8*wi0 .i64 (7-(n:Int)))=8*(7-(n:Int)):=λn k=>by
  rw [mr (x:=7-(n:Int)) eR eR,mr eR eR]
 have step:∀(x:Int) (xs l:List Int) (i:Nat) (d:Int),i≤7→l.length=8→IntKind.u8.wrap (Int.fdiv H (2 ^ min (Int.toNat (8*(7-(i:Int)))) (IntKind.bits .u64)))=d→uK H (x::xs) i l=uK H xs (i+1) (l.set i d):=by
  intro x xs l i d hi j g
  rw [uK,h i hi,g]
  have:rr (decide (0≤8*(7-(i:Int))))=some ():=by simp [rr]; omega
  rw [this,aA]
  have:mT l (i:Int)=some l[i]:=by unfold mT; rw [aP eR]; simp
  rw [this,aA]
  rfl
 have a:∀n:Int,IntKind.u8.wrap n=n % 256:=λn=>by rw [kw]
 have fd:∀m:Int,0 < m→Int.fdiv H m=H / m:=λm hm=>gv _ eR
 rw [step _ _ _ 0 (H / 72057594037927936 % 256) eR Z (by rw [a,fd _ fs]; rfl)]
 rw [step _ _ _ 1 (H / 281474976710656 % 256) eR Z (by rw [a,fd _ fs]; rfl)]
 rw [step _ _ _ 2 (H / 1099511627776 % 256) eR Z (by rw [a,fd _ fs]; rfl)]
 rw [step _ _ _ 3 (H / 4294967296 % 256) eR Z (by rw [a,fd _ fs]; rfl)]
 rw [step _ _ _ 4 (H / 16777216 % 256) eR Z (by rw [a,fd _ fs]; rfl)]
 rw [step _ _ _ 5 (H / 65536 % 256) eR Z (by rw [a,fd _ fs]; rfl)]
 rw [step _ _ _ 6 (H / 256 % 256) eR Z (by rw [a,fd _ fs]; rfl)]
 rw [step _ _ _ 7 (H % 256) eR Z (by rw [a,fd _ fs]; simp)]
 rfl
theorem Vv (H:Int) (hH:0≤H∧H < 18446744073709551616):rj lP H zS 0=some (mH (Eo H)):=by
 have q:∀n:Int,0≤n→IntKind.u8.wrap (Int.tmod n 256)=n % 256:=λn o=>by
  rw [kw,gx o]; omega
 have step:∀(n:Nat) (x:Int) (l:List Int) (i:Nat),i < 8→0≤x∧x < 18446744073709551616→l.length≤100→rj (n+1) x (mH l) (i:Int)=rj n (x / 256) (mH (x % 256::l)) ((i+1:Nat):Int):=by
  intro n x l i hi a s
  rw [rj,aP fo,q x a.1,uy,pN _ _ fo,aA,Int.tdiv_eq_ediv_of_nonneg a.1,IntWalk.u64_in _ eR,mr eR eR]
  rfl
 have p:zS=mH []:=Bv Z
 rw [sP,p]
 rw [show (18446744073709551616:Nat)=18446744073709551607+9 from rfl]
 rw [show (0:Int)=((0:Nat):Int) from rfl,step _ _ _ 0 eR hH fb,step _ _ _ 1 eR eR fb,step _ _ _ 2 eR eR fb,step _ _ _ 3 eR eR fb,step _ _ _ 4 eR eR fb,step _ _ _ 5 eR eR fb,step _ _ _ 6 eR eR fb,step _ _ _ 7 eR eR fb]
 rw [rj,aN fb]
 have c:H / 256 / 256=H / 65536:=by omega
 have d:H / 65536 / 256=H / 16777216:=by omega
 have g:H / 16777216 / 256=H / 4294967296:=by omega
 have h:H / 4294967296 / 256=H / 1099511627776:=by omega
 have j:H / 1099511627776 / 256=H / 281474976710656:=by omega
 have k:H / 281474976710656 / 256=H / 72057594037927936:=by omega
 rw [c,d,g,h,j,k]
 rfl
def I2 (k b:List Int):List Int:=Eo (Bd ((k.length:Int)::(k++(b++k))))
theorem YG (k b:List Int):B8 (I2 k b):=XR _
theorem ZX {k:List Int} (b:List Int) (h:1≤k.length∧k.length≤32):D7 k b=some (I2 k b):=by
 have a:zy k=some true:=by
  unfold zy
  rw [gy (show (k.length:Int)≥1 by omega),gy (show (k.length:Int)≤32 by omega)]; rfl
 unfold D7
 rw [a]
 simp only [aA,bR,aB,aH]
 rw [Vw]
 simp only [aA]
 rw [TF _ (IG _),show IntKind.u8.wrap (k.length:Int)=(k.length:Int) from gf _ eR]
 simp [I2]
theorem ZE {k b:List Int} (hk:B8 k) (c:B8 b) (h:1≤k.length∧k.length≤32) (g:b.length≤10000):DI (mH k) (mH b)=some (mH (I2 k b)):=by
 unfold DI
 rw [uy,vc,show IntKind.u8.wrap (k.length:Int)=(k.length:Int) from gf _ eR,pN _ _ (by simp only [aM,bZ]; omega)]
 simp only [aA]
 rw [pN _ _ fo]
 simp only [aA]
 rw [pN _ _ fo]
 simp only [aA]
 have a:B8 ([(k.length:Int)]++k++b++k):=((B8.Lz (λx d=>by rw [aY] at d; omega) hk).Lz c).Lz hk
 rw [U5 a fo,aA,Vv _ (IG _)]
 simp [I2]
def Bf:List ByteArray→List Key→Int
 | _,[]=>0
 | seen,k::l=>if oM k.lV=false then 30 else if k.Key.length < 1∨32 < k.Key.length then 21 else if uX mx seen k.lV=true then 41 else Bf (seen++[k.lV]) l
def vu (l:List Key):List (ByteArray×List Int):=l.map λk=>(k.lV,k.Key)
def HO (l:List Key) (o:ByteArray):Option (List Int):=mO mx (vu l) o
theorem Ye (a b:List Key):vu (a++b)=vu a++vu b:=by simp [vu]
theorem Xm (acc:List Key) (w:ByteArray):(mO mx (vu acc) w).isSome=uX mx (acc.map (·.lV)) w:=by
 induction acc with
 | nil=>rfl
 | cons k l ih=>
  rw [show vu (k::l)=(k.lV,k.Key)::vu l from rfl,Dt]
  simp only [bY,uX,gd] at ih ⊢
  cases h:mx w k.lV <;> simp [ih]
theorem H4 {l:List Int} (h:l.length≤1000000):rO l=some l:=by
 unfold rO
 rw [HU (by simpa using h)]; rfl
theorem ace (k:Key):(if decide ((k.Key.length:Int) < 1)=true then some true else some (decide ((k.Key.length:Int) > 32)):Option Bool)=some (decide (k.Key.length < 1∨32 < k.Key.length)):=by
 rw [Bool.decide_or]
 by_cases h:k.Key.length < 1
 ·rw [aP fo,gy h,Bool.true_or]
 ·rw [aN fo,decide_eq_false h,Bool.false_or]
  congr 1; apply decide_eq_decide.2; omega
theorem M2:∀(l acc:List Key),ze l (vu acc)=some (if Bf (acc.map (·.lV)) l=0 then (some (⟨vu (acc++l)⟩:mN),0) else (none,Bf (acc.map (·.lV)) l))
 | [],acc=>by rw [ze]; simp [Bf]
 | k::l,acc=>by
  rw [ze,wk,aA]
  unfold Bf
  cases g:oM k.lV
  ·simp
  ·simp only [bR,aB,aH]
   rw [ace,aA]
   by_cases hk:k.Key.length < 1∨32 < k.Key.length
   ·simp only [hk,cD,aJ]
    rw [aN fb,aN fs]
   ·simp only [hk,cE,aB,aH]
    rw [Xm]
    cases a:uX mx (acc.map (·.lV)) k.lV
    ·simp only [aB,aH]
     rw [H4 eR,aA]
     have c:∀p∈vu acc,p.1≠k.lV:=by
      intro p hp e
      obtain ⟨q,d,rfl⟩:=bW.1 hp
      have:=(BL mU (acc.map (·.lV)) k.lV).2 (bW.2 ⟨q,d,e⟩)
      rw [this] at a; cases a
     unfold Ja
     rw [Af mU c,Gn mU c]
     simp only [jc,aJ,aA]
     have:=M2 l (acc++[k])
     rw [Ye] at this
     rw [show vu acc++[(k.lV,k.Key)]=vu acc++vu [k] from rfl,this]
     simp
    ·simp
theorem Y5 (l:List Key):FY l=some (if Bf [] l=0 then (some (⟨vu l⟩:mN),0) else (none,Bf [] l)):=M2 l []
theorem TB:∀(l:List Key) (seen:List ByteArray),Bf seen l=0→∀k∈l,1≤k.Key.length∧k.Key.length≤32
 | [],_,_,_,hk=>by cases hk
 | x::l,seen,h,k,hk=>by
  unfold Bf at h
  split at h
  ·cases h
  split at h
  ·cases h
  split at h
  ·cases h
  rcases aS.1 hk with rfl | hk
  ·omega
  ·exact TB l _ h k hk
theorem Mi:∀(l:List Key) (o:ByteArray) (b:List Int),HO l o=some b→∃k∈l,k.Key=b
 | [],o,b,h=>by cases h
 | x::l,o,b,h=>by
  unfold HO at h
  rw [show vu (x::l)=(x.lV,x.Key)::vu l from rfl,Dt] at h
  split at h
  ·cases h; exact ⟨x,fb,Z⟩
  ·obtain ⟨k,hk,e⟩:=Mi l o b h
   exact ⟨k,by simp [hk],e⟩
theorem Wk (x:Key) (l:List Key) (o:ByteArray):HO (x::l) o=if mx x.lV o=true then some x.Key else HO l o:=by
 unfold HO
 rw [show vu (x::l)=(x.lV,x.Key)::vu l from rfl,Dt,JR]
def K8 (l:List Key):Prop:=∀k∈l,B8 k.Key
def zSg:Signed:=⟨(⟨0,(⟨zS,zS⟩:kL),zS,(⟨zS,zS⟩:kL),(⟨zS,zS⟩:kL),zS⟩:kK),[]⟩
theorem Vm {c:kK} (h:mQ c=true):(tj c).length≤200:=by
 unfold tj CX
 rw [aM,aF]
 have i:=pa (EZ h)
 have a:∀s,oM s=true→(AI s).length≤17:=λs d=>by rw [xy]; have:=rA d; omega
 rcases rT h with g | g | g | g <;> simp only [g.1,aJ,aH,Int.reduceEq]
 ·have:=a c.lV (by simp_all); omega
 ·have:(uO c.B).length≤34:=pa (by simp_all)
  omega
 ·have:(uO c.B).length≤34:=pa (by simp_all)
  have:=a c.lW (by simp_all)
  rw [aF]; omega
 ·have:(uO c.B).length≤34:=pa (by simp_all)
  have:(uO c.C).length≤34:=pa (by simp_all)
  rw [aF]; omega
theorem cBy (c:kK) (h:mQ c=true):wg c=some (tj c):=by rw [DT,aP h]
theorem rB (c:kK) (h:mQ c=true):yY c=some (mH (tj c)):=by
 have:=Dg c
 unfold yZ at this
 rw [wY,h] at this
 simp only [aA,bR,aB,aH,aJ] at this
 rw [←this]; cases yY c <;> rfl
structure Mk (ks:List Key) (c:kK) (k:List Int):Prop where
 ok:Bf [] ks=0
 rt:mQ c=true
 lk:HO ks c.Head.kO=some k
theorem Mk.len {a:List Key} {c:kK} {k:List Int} (h:Mk a c k):1≤k.length∧k.length≤32:=by
 obtain ⟨q,d,rfl⟩:=Mi _ _ _ h.lk
 exact TB a [] h.ok q d
theorem Mk.b8 {a:List Key} {c:kK} {k:List Int} (h:Mk a c k) (hk:K8 a):B8 k:=by
 obtain ⟨q,d,rfl⟩:=Mi _ _ _ h.lk
 exact hk q d
theorem Mk.unique {a:List Key} {c:kK} {k k':List Int} (h:Mk a c k) (d:Mk a c k'):k=k':=by
 have:=h.lk; rw [d.lk] at this; cases this; rfl
theorem aa6 {a b:List Int} (ha:B8 a) (c:B8 b):mx (su a) (su b)=decide (a=b):=by
 rw [cC,mU,uy,uy,H3 ha c]; simp
def WD (a:List Key) (s:Signed):Prop:=∃k,Mk a s.kK k∧s.Tag=I2 k (tj s.kK)
theorem kof (a:List Key) (c:kK):xw (some ⟨vu a⟩) c=some (if mQ c=true then (match HO a c.Head.kO with | some k=>(k,(0:Int)) | none=>([],21)) else ([],11)):=by
 unfold xw
 rw [aN fb,uw]
 simp only [aA]
 cases d:mQ c
 ·rfl
 simp only [bR,aB,aH,aJ]
 unfold HO
 cases mO mx (vu a) c.Head.kO <;> rfl
theorem Ts (c:kK):∀l:List Key,zW c l=some (match HO l c.Head.kO with | some k=>(mH k,0) | none=>(zS,21))
 | []=>rfl
 | x::l=>by
  rw [zW,Wk,Ts c l,uy]
  split <;> rfl
theorem Yb (a:List Key) (hk:K8 a) (j:Bf [] a=0) (s:Signed) (g:B8 s.Tag):∃e,xP (some ⟨vu a⟩) s=some e∧CG a s=some e∧(e=0↔WD a s):=by
 unfold xP CG HR
 rw [kof,wY,Ts]
 simp only [aA]
 cases c:mQ s.kK
 ·exact ⟨11,Z,Z,by simp; rintro ⟨k,h,_⟩; have:=h.rt; rw [c] at this; cases this⟩
 simp only [aJ,bR,aB,aH,aA]
 cases d:HO a s.kK.Head.kO with
 | none=>exact ⟨21,Z,Z,by simp; rintro ⟨k,h,_⟩; have:=h.lk; rw [d] at this; cases this⟩
 | some k=>
  have hm:Mk a s.kK k:=⟨j,c,d⟩
  have:=Vm c
  have o:F6 k (tj s.kK) s.Tag=some (decide (I2 k (tj s.kK)=s.Tag)):=by
   unfold F6
   have n:zy k=some true:=by
    unfold zy
    have:=hm.len
    rw [gy (show (k.length:Int)≥1 by omega),gy (show (k.length:Int)≤32 by omega)]; rfl
   rw [n]
   simp only [aA,aJ,ZX _ hm.len,pY]
   rw [aa6 (YG _ _) g]
  simp only [cBy _ c,rB _ c,aA,o,ZE (hm.b8 hk) (HC c) hm.len (show (tj s.kK).length≤10000 by omega)]
  rw [←uy (I2 k _),aa6 (YG _ _) g]
  by_cases he:I2 k (tj s.kK)=s.Tag
  ·refine ⟨0,?_,?_,by simp; exact ⟨k,hm,he.symm⟩⟩ <;> simp [he]
  ·refine ⟨20,?_,?_,?_⟩
   ·simp [he]
   ·simp [he]
   ·simp; rintro ⟨k',i,e⟩; exact he (by rw [e,hm.unique i])
mutual
def DZ:Formula→List Int
 | ⟨o,k,r,ks⟩=>o::(if o=1 then uO r else (if o=4 then [k] else [])++((ks.length:Int)::bytesFL ks))
def bytesFL:List Formula→List Int
 | []=>[]
 | k::ks=>DZ k++bytesFL ks
end
theorem ON (f:Formula):DZ f=f.Op::(if f.Op=1 then uO f.kL else (if f.Op=4 then [f.K] else [])++((f.Kids.length:Int)::bytesFL f.Kids)):=by cases f; rw [DZ]
theorem Cm {f:Formula} (h:yk f=true):f.Kids.length≤8∧wellL f.Kids=true∧((f.Op=1∧nk f.kL=true∧f.Kids=[]∧f.K=0)∨((f.Op=2∨f.Op=3)∧f.kL=uG∧f.K=0)∨(f.Op=4∧f.kL=uG∧0≤f.K∧f.K≤(f.Kids.length:Int)∧1≤f.Kids.length)):=by
 rw [Mr] at h
 simp only [bL,cP] at h
 obtain ⟨⟨h1,a⟩,d⟩:=h
 refine ⟨a,d,?_⟩
 unfold IY at h1
 split at h1
 ·rename_i c
  simp only [bL,cP] at h1
  exact .inl ⟨c,h1.1.1,bF h1.1.2,h1.2⟩
 ·split at h1
  ·rename_i c
   simp only [bL,cP,lO] at h1
   exact .inr (.inl ⟨c,h1.1,h1.2⟩)
  ·simp only [bL,cP,lO] at h1
   exact .inr (.inr ⟨h1.1.1.1.1,h1.1.1.1.2,h1.1.1.2,h1.1.2,h1.2⟩)
theorem Vf:∀(n:Nat) (f:Formula),rn f≤n→yk f=true→∀l:List Int,l.length+40*mo f≤8000→ur n l f=some (l++DZ f)∧(DZ f).length≤40*mo f:=by
 intro n
 induction n with
 | zero=>intro f h; rw [oK] at h; omega
 | succ n ih=>
  intro f v hw l t
  rw [oK] at v
  have w:=rL f
  obtain ⟨h1,s,p⟩:=Cm hw
  rw [ur]
  unfold AL
  have g:0≤f.Op∧f.Op < 128:=by rcases p with h | h | h <;> omega
  rw [Dv g.1 g.2 eR,aA,ON]
  have key:∀(a:List Formula),(∀k∈a,k∈f.Kids)→wellL a=true→∀l:List Int,l.length+40*nodesL a≤8000→vd (ur n) a l=some (l++bytesFL a)∧(bytesFL a).length≤40*nodesL a:=by
   intro a
   induction a with
   | nil=>intro _ _ l _; rw [vd,bytesFL]; simp
   | cons k a q=>
    intro hk c l t
    rw [wellL,bL] at c
    rw [nodesL] at t
    obtain ⟨j,y⟩:=ih k (by have:=vz (hk k fb); omega) c.1 l eR
    obtain ⟨d,o⟩:=q (λz x=>hk z (by simp [x])) c.2 (l++DZ k) fo
    rw [vd,j,aA,d,bytesFL,nodesL]
    exact ⟨fb,fo⟩
  have hlen:0≤(f.Kids.length:Int)∧(f.Kids.length:Int) < 128:=by omega
  by_cases c1:f.Op=1
  ·have u:nk f.kL=true:=by rcases p with h | h | h; exact h.2.1; omega; omega
   have:=pa u
   simp only [c1,aO,aJ]
   rw [RO u fo,aA]
   exact ⟨fb,fo⟩
  ·have j:(f.Op==1)=false:=by simpa using c1
   simp only [j,aB,aH,c1]
   by_cases i:f.Op=4
   ·have hk:0≤f.K∧f.K < 128:=by rcases p with h | h | h <;> omega
    simp only [i,aO,aJ]
    rw [Dv hk.1 hk.2 fo]
    simp only [aA]
    rw [Dv hlen.1 hlen.2 fo]
    simp only [aA]
    obtain ⟨d,o⟩:=key f.Kids (λk hk=>hk) s (l++[4]++[f.K]++[(f.Kids.length:Int)]) fo
    rw [d]
    exact ⟨fb,fo⟩
   ·have o:(f.Op==4)=false:=by simpa using i
    simp only [o,aB,aH,i,aA]
    rw [Dv hlen.1 hlen.2 fo]
    simp only [aA]
    obtain ⟨d,A⟩:=key f.Kids (λk hk=>hk) s (l++[f.Op]++[(f.Kids.length:Int)]) fo
    rw [d]
    exact ⟨fb,fo⟩
def Dx (f:Formula):List Int:=if si f then DZ f else []
abbrev Gd (f:Formula):Prop:=mo f≤50000000
theorem EI {f:Formula} (h:si f=true):mo f≤64∧rn f≤6∧yk f=true:=by
 unfold si at h
 simp only [bL,cP] at h
 exact ⟨h.1.1,h.1.2,h.2⟩
theorem Z8 (f:Formula) (d:Gd f) (l:List Int) (j:l.length≤5000):Bq l f=some (si f,l++Dx f)∧(Dx f).length≤2560:=by
 unfold Bq Dx
 rw [Jb f d,aA]
 cases h:si f
 ·simp
 ·obtain ⟨h1,i,c⟩:=EI h
  obtain ⟨a,g⟩:=Vf lP f (by rw [nV]; omega) c l eR
  simp only [bR,aB,aH,a,aA,aJ]
  exact ⟨trivial,eR⟩
theorem NR (f:Formula) (c:Gd f):ye f=some (Dx f):=by
 unfold ye
 obtain ⟨a,d⟩:=Z8 f c [] fb
 rw [a,aA,vn]
 unfold rC
 simp only [bN]
 rw [H4 eR]
 rfl
def G2 (f g:Formula):Int:=Dn (Dx f) (Dx g)
theorem UO (f g:Formula) (a:Gd f) (c:Gd g):zP f g=some (G2 f g):=by
 unfold zP Bt
 rw [NR f a,NR g c]
 rfl
theorem Gl (f g:Formula):pI G2 f g=Op.bytesLess (xO (Dx f)) (xO (Dx g)):=by
 rw [cC]
 have h:pI G2 f g=true↔G2 f g < 0:=by unfold pI; exact fW
 exact h.trans (Ih _ _)
theorem OL:SWO (pI G2) where
 Yq x:=by rw [Gl,As]
 tr x y z h1 a:=by rw [Gl] at *; exact De _ _ _ h1 a
 U9 x y z h:=by
  rw [Gl] at h
  rw [Gl,Gl]
  rcases GG (xO (Dx x)) (xO (Dx y)) with h1 | h1 | h1
  ·exact .inl h1
  ·rw [h1] at h; exact .inr h
  ·exact .inr (De _ _ _ h1 h)
def Ad (l:List Formula):List Formula:=RH (pI G2) l
theorem P5 (l:List Formula) (a:∀x∈l,Gd x) (c:l.length≤300000):Aj l=some (Ad l):=by
 unfold Aj xm
 rw [nL fo fo]
 simp only [aA,bN,vn]
 exact T4 OL (λx y d g=>UO x y d g) l a c
theorem UZ {α:Type} (lt:α→α→Bool) (l:List α) (k:α):(GZ lt l k).Perm (l++[k]):=by
 unfold GZ
 refine List.perm_middle.trans ((List.Perm.cons _ ?_).trans (gr k l).symm)
 have:=List.filter_append_perm (λx=>!lt k x) l
 simpa using this
theorem U0 {α:Type} (lt:α→α→Bool) (l:List α):(RH lt l).Perm l:=by
 suffices H:∀(l a:List α),(l.foldl (GZ lt) a).Perm (a++l) by have:=H l []; rwa [bN] at this
 intro l
 induction l with
 | nil=>intro a; simp
 | cons k l ih=>
  intro a
  rw [fA]
  refine (ih _).trans ?_
  have:=(UZ lt a k).append_right l
  simpa using this
theorem DA (l:List Formula):(Ad l).Perm l:=U0 _ l
noncomputable def uQ (a b:Formula):Bool:=@decide (a=b) (Classical.propDecidable _)
theorem Gh {a b:Formula}:uQ a b=true↔a=b:=by unfold uQ; simp
theorem Zm (a b:Formula) (h:Gd a):sN lP a b=some (uQ a b):=by
 have:=B5 a
 obtain ⟨x,e,c⟩:=Ze lP a (by rw [nV]; omega) b
 rw [e]; congr 1
 rw [cC,c,Gh]
def zF0:Formula:=⟨0,0,⟨zS,zS⟩,[]⟩
theorem XD (f1:Formula×Formula→Option Bool) (i:Int):∀(n:Nat) (l:List Formula) (k j:Int),(∀x∈l,∀y∈l,f1 (x,y)=some (uQ x y))→oJ i f1 n l k j=ER uQ i n l k j
 | 0,l,k,j,_=>by rw [oJ,ER]
 | n+1,l,k,j,h=>by
  rw [oJ,ER]
  split
  ·cases d:mT (l.drop (Int.toNat i)) j with
   | none=>rfl
   | some x=>
    cases g:mT (l.drop (Int.toNat i)) (wi0 .i64 (j-1)) with
    | none=>rfl
    | some y=>
     have c:x∈l:=iL (dE (lK d))
     have p:y∈l:=iL (dE (lK g))
     simp only [aA,h x c y p]
     cases uQ x y
     ·simp only [cX,aJ]
      cases q:mT l k with
      | none=>rfl
      | some z=>
       simp only [aA]
       refine XD f1 i n _ _ _ (λa ha b o=>?_)
       have m:∀a∈l.set (Int.toNat k) x,a∈l:=λa ha=>by
        rcases List.mem_or_eq_of_mem_set ha with ha | rfl
        ·exact ha
        ·exact c
       exact h a (m a ha) b (m b o)
     ·simp only [bR,aB,aH,aA]
      exact XD f1 i n _ _ _ h
  ·rfl
theorem aaX (f1:Formula×Formula→Option Bool) (l:List Formula) (h:∀x∈l,∀y∈l,f1 (x,y)=some (uQ x y)):∀(n:Nat) (i:Int),oH l f1 n i=Fz uQ zF0 l n i
 | 0,i=>by rw [oH,Fz]
 | n+1,i=>by
  rw [oH,Fz]
  split
  ·cases a:mT l i with
   | none=>rfl
   | some x=>
    cases c:mT l (wi0 .i64 (i-1)) with
    | none=>rfl
    | some y=>
     have d:x∈l:=dE (lK a)
     have g:y∈l:=dE (lK c)
     simp only [aA,h x d y g]
     rw [XD f1 i lP l i 1 h,aaX f1 l h n]
     rfl
  ·rfl
theorem Uw (l:List Formula) (h:∀x∈l,Gd x) (c:l.length≤300000):tZ l (λx=>sN lP x.1 x.2)=some (dd uQ l):=by
 rw [←MA uQ zF0 l eR]
 unfold tZ Mc
 rw [aaX _ l λx a y _=>Zm x y (h x a)]
def nj (op:Int) (f:Formula):Bool:=decide (f.Op=op)&&f.Kids.isEmpty
theorem IZ (f:Formula) (op:Int):yt f op=some (nj op f):=by
 unfold yt nj
 rw [vn]
 by_cases h:f.Op=op
 ·simp only [h,aO,aJ,cD,eP]
  congr 1
  cases hk:f.Kids with
  | nil=>rfl
  | cons a l=>simp; omega
 ·have e:(f.Op==op)=false:=by simpa using h
  simp [e,h]
def rN (op:Int):List Formula→List Formula
 | []=>[]
 | k::a=>(if k.Op=op then k.Kids else [k])++rN op a
theorem IL (op:Int):∀c:List Formula,nodesL (rN op c)≤nodesL c
 | []=>aZ _
 | k::c=>by
  have ih:=IL op c
  have e:∀a b:List Formula,nodesL (a++b)=nodesL a+nodesL b:=by
   intro a b
   induction a with
   | nil=>rw [bN,nodesL]; omega
   | cons x a d=>rw [cH,nodesL,nodesL,d]; omega
  have:=rL k
  rw [rN,e,nodesL]
  split
  ·omega
  ·rw [nodesL,nodesL]; omega
theorem Oh (op:Int):∀(a acc:List Formula),acc.length+nodesL a≤100000000→uZ op a acc=some (acc++rN op a)
 | [],acc,_=>by rw [uZ,rN,bP]
 | k::a,acc,h=>by
  rw [nodesL] at h
  have h1:=rL k
  have d:=ul k.Kids
  rw [uZ,rN]
  by_cases c:k.Op=op
  ·simp only [c,aO,aJ]
   rw [nL eR eR,aA,Oh op a _ fo,aQ]
  ·have e:(k.Op==op)=false:=by simpa using c
   simp only [e,aB,aH,c]
   rw [nL fo fo,aA,Oh op a _ fo,aQ]
noncomputable def tX (op:Int) (a:List Formula):Formula :=
 if (rN op a).any (nj (5-op)) then ⟨5-op,0,uG,[]⟩ else
  match dd uQ (Ad (rN op a)) with
  | [x]=>x
  | r=>⟨op,0,uG,r⟩
theorem RI {α:Type} (eq:α→α→Bool) (l:List α):(dd eq l).length≤l.length:=by
 cases l with
 | nil=>exact aZ _
 | cons x l=>
  have:∀(l:List α) (x:α),(oT eq x l).length≤l.length:=by
   intro l
   induction l with
   | nil=>intro x; exact aZ _
   | cons y l ih=>intro x; rw [oT]; have:=ih y; have:=ih x; split <;> simp <;> omega
  have:=this l x
  rw [dd,aM,aM]; omega
theorem Kg (s:mE) (op:Int) (i:op=2∨op=3) (a:List Formula) (h:nodesL a≤64):rX s op a=some (tX op a,s):=by
 have h1:=IL op a
 have j:=ul (rN op a)
 have d:∀x∈rN op a,Gd x:=λx c=>by have:=yo c; unfold Gd; omega
 have hw:wi0 .i64 (5-op)=5-op:=mr eR eR
 unfold rX FN tX
 rw [Oh op a [] fo,aA,bN,hw,Lp _ (nj (5-op)) _ (λx _=>by unfold yg; rw [IZ,vn]),aA]
 cases k:(rN op a).any (nj (5-op))
 ·simp only [aB,aH]
  have hp:=DA (rN op a)
  have o:=hp.length_eq
  rw [P5 _ d eR,aA,Uw _ (λx c=>d x (hp.mem_iff.1 c)) eR,aA]
  have n:=RI uQ (Ad (rN op a))
  have g:¬(((dd uQ (Ad (rN op a))).length:Int) > 64):=by omega
  simp only [g,cE,aB,aH,aA]
  generalize dd uQ (Ad (rN op a))=r
  match r with
  | []=>rfl
  | [x]=>rfl
  | x::y::r=>
   have:(((x::y::r).length:Int)==1)=false:=by simp; omega
   simp only [this,aB,aH]
   rfl
 ·rfl
noncomputable def ya (k:Int) (a:List Formula):Formula :=
 let n:=k-((a.filter (nj 2)).length:Int)
 let l:=a.filter λx=>!nj 2 x&&!nj 3 x
 if n≤0 then ⟨2,0,uG,[]⟩ else if n > (l.length:Int) then ⟨3,0,uG,[]⟩ else if n=(l.length:Int) then tX 2 l else if n=1 then tX 3 l else ⟨4,n,uG,Ad l⟩
theorem Ed (p:Formula→Bool):∀a:List Formula,nodesL (a.filter p)≤nodesL a
 | []=>aZ _
 | k::a=>by
  have:=Ed p a
  rw [dv]
  split
  ·rw [nodesL,nodesL]; omega
  ·rw [nodesL]; omega
theorem F8 (s:mE):∀(a acc:List Formula) (k:Int),-1000≤k-(a.length:Int)→k≤1000→acc.length+a.length≤1000→nodesL (acc++a.filter λx=>!nj 2 x&&!nj 3 x)≤64→
  oD s a k acc=some (let n:=k-((a.filter (nj 2)).length:Int); let l:=acc++a.filter λx=>!nj 2 x&&!nj 3 x; if n≤0 then ⟨2,0,uG,[]⟩ else if n > (l.length:Int) then ⟨3,0,uG,[]⟩ else if n=(l.length:Int) then tX 2 l else if n=1 then tX 3 l else ⟨4,n,uG,Ad l⟩,s)
 | [],acc,k,h1,h,i,c=>by
  simp only [List.filter_nil,bP,bZ] at c ⊢
  rw [oD]
  simp only [Int.ofNat_zero,Int.sub_zero,D0,EE,aA,Int.natCast_zero]
  have q:=ul acc
  by_cases c1:k≤0
  ·simp only [c1,cD,aJ]; rfl
  ·simp only [c1,cE,aB,aH]
   by_cases c2:k > (acc.length:Int)
   ·simp only [c2,cD,aJ]; rfl
   ·simp only [c2,cE,aB,aH]
    by_cases d:k=(acc.length:Int)
    ·simp only [←d,aO,aJ]
     rw [Kg s 2 (.inl Z) acc c,aA]
    ·have j:(k==(acc.length:Int))=false:=by simpa using d
     simp only [j,aB,aH,d]
     by_cases g:k=1
     ·simp only [g,aO,aJ]
      rw [Kg s 3 (.inr Z) acc c,aA]
     ·have o:(k==1)=false:=by simpa using g
      simp only [o,aB,aH,g]
      rw [P5 acc (λx p=>by have:=yo p; unfold Gd; omega) eR]
      rfl
 | x::a,acc,k,h1,h,i,c=>by
  simp only [aM] at h1 i
  rw [oD,IZ,aA,IZ,aA]
  rw [dv,dv] at *
  cases c2:nj 2 x
  ·cases d:nj 3 x
   ·simp only [c2,d,cX,jW,aB,aH,aJ] at c ⊢
    rw [nL fo fo,aA,F8 s a _ k eR h fo (by rw [aQ]; exact c)]
    simp only [aQ,cH,bN]
   ·simp only [c2,d,cX,bR,Bool.and_false,aB,aH] at c ⊢
    rw [F8 s a _ k eR h eR c]
  ·simp only [c2,bR,gw,aB,aH,aJ] at c ⊢
   rw [mr eR eR,F8 s a _ (k-1) eR eR eR c]
   simp only [aM]
   have e:k-1-((a.filter (nj 2)).length:Int)=k-(((a.filter (nj 2)).length+1:Nat):Int):=by omega
   rw [e]
theorem UC (s:mE) (k:Int) (hk:0≤k∧k≤1000) (a:List Formula) (h:nodesL a≤64):vm s k a=some (ya k a,s):=by
 have:=ul a
 have:=Ed (λx=>!nj 2 x&&!nj 3 x) a
 unfold vm ya
 rw [F8 s a [] k eR eR fo (by simpa using by omega)]
 rfl
mutual
noncomputable def uI:Formula→Formula
 | ⟨o,k,r,ks⟩=>if o=1 then ⟨o,k,r,ks⟩ else if o=4 then ya k (shapeL ks) else tX o (shapeL ks)
noncomputable def shapeL:List Formula→List Formula
 | []=>[]
 | k::ks=>uI k::shapeL ks
end
theorem Hu (f:Formula):uI f=if f.Op=1 then f else if f.Op=4 then ya f.K (shapeL f.Kids) else tX f.Op (shapeL f.Kids):=by cases f; rw [uI]
theorem Lu {a b:List Formula} (h:a.Perm b):nodesL a=nodesL b:=by
 induction h with
 | nil=>rfl
 | cons x _ ih=>rw [nodesL,nodesL,ih]
 | swap x y l=>rw [nodesL,nodesL,nodesL,nodesL]; omega
 | trans _ _ h1 c=>rw [h1,c]
theorem I9 (eq:Formula→Formula→Bool):∀(l:List Formula) (x:Formula),nodesL (oT eq x l)≤nodesL l
 | [],x=>aZ _
 | y::l,x=>by
  have h1:=I9 eq l y
  have a:=I9 eq l x
  rw [oT]
  split
  ·rw [nodesL]; omega
  ·rw [nodesL,nodesL]; omega
theorem Xj (eq:Formula→Formula→Bool) (l:List Formula):nodesL (dd eq l)≤nodesL l:=by
 cases l with
 | nil=>exact aZ _
 | cons x l=>have:=I9 eq l x; rw [dd,nodesL,nodesL]; omega
theorem GV (op:Int) (a:List Formula):mo (tX op a)≤1+nodesL a:=by
 unfold tX
 split
 ·rw [mo,nodesL]; omega
 ·have h1:=Xj uQ (Ad (rN op a))
  have c:=Lu (DA (rN op a))
  have d:=IL op a
  generalize dd uQ (Ad (rN op a))=r at *
  split
  ·rename_i x
   rw [nodesL,nodesL] at h1; omega
  ·rw [mo]; omega
theorem PR (k:Int) (a:List Formula):mo (ya k a)≤1+nodesL a:=by
 have h:=Ed (λx=>!nj 2 x&&!nj 3 x) a
 unfold ya
 simp only
 generalize a.filter (λx=>!nj 2 x&&!nj 3 x)=l at *
 generalize k-((a.filter (nj 2)).length:Int)=n
 split
 ·rw [mo,nodesL]; omega
 ·split
  ·rw [mo,nodesL]; omega
  ·split
   ·have:=GV 2 l; omega
   ·split
    ·have:=GV 3 l; omega
    ·have:=Lu (DA l); rw [mo]; omega
theorem E7:∀f:Formula,mo (uI f)≤mo f:=by
 refine TW λf ih=>?_
 have h:∀a:List Formula,(∀k∈a,mo (uI k)≤mo k)→nodesL (shapeL a)≤nodesL a:=by
  intro a
  induction a with
  | nil=>intro _; rw [shapeL]; exact aZ _
  | cons k a c=>
   intro h
   have:=c (λx d=>h x (by simp [d]))
   have:=h k fb
   rw [shapeL,nodesL,nodesL]; omega
 have h:=h f.Kids ih
 rw [Hu,rL f]
 split
 ·rw [rL]; omega
 ·split
  ·have:=PR f.K (shapeL f.Kids); omega
  ·have:=GV f.Op (shapeL f.Kids); omega
theorem JA (a:List Formula):nodesL (shapeL a)≤nodesL a:=by
 induction a with
 | nil=>rw [shapeL]; exact aZ _
 | cons k a ih=>have:=E7 k; rw [shapeL,nodesL,nodesL]; omega
theorem XS:∀(n:Nat) (f:Formula),rn f≤n→mo f≤64→yk f=true→∀s:mE,pp n s f=some (uI f,s):=by
 intro n
 induction n with
 | zero=>intro f h; rw [oK] at h; omega
 | succ n ih=>
  intro f v y hw s
  rw [oK] at v
  have w:=rL f
  obtain ⟨h1,u,p⟩:=Cm hw
  rw [pp]
  unfold xg
  rw [Hu]
  by_cases c1:f.Op=1
  ·simp only [c1,aO,aJ]
  ·have q:(f.Op==1)=false:=by simpa using c1
   simp only [q,aB,aH,c1]
   have key:∀(a acc:List Formula),(∀k∈a,k∈f.Kids)→wellL a=true→nodesL (acc++shapeL a)≤64→nodesL a≤64→pX (pp n) f a acc s=some (if f.Op=4 then ya f.K (acc++shapeL a) else tX f.Op (acc++shapeL a),s):=by
    intro a
    induction a with
    | nil=>
     intro acc _ _ g _
     rw [shapeL,bP] at *
     rw [pX]
     by_cases i:f.Op=4
     ·simp only [i,aO,aJ]
      rw [UC s f.K (by rcases p with h | h | h <;> omega) acc g,aA]
     ·have t:(f.Op==4)=false:=by simpa using i
      simp only [t,aB,aH,i]
      rw [Kg s f.Op (by rcases p with h | h | h <;> omega) acc g,aA]
    | cons k a o=>
     intro acc hk c g j
     rw [wellL,bL] at c
     rw [nodesL] at j
     rw [shapeL] at g
     have d:=ul (acc++uI k::shapeL a)
     simp only [aF,aM] at d
     rw [pX,ih k (by have:=vz (hk k fb); omega) eR c.1 s,aA,nL fo fo,aA,
      o (acc++[uI k]) (λz x=>hk z (by simp [x])) c.2 (by rw [aQ]; exact g) eR,shapeL]
     simp only [aQ,cH,bN]
   have:=JA f.Kids
   have:=key f.Kids [] (λk hk=>hk) u (by simpa using by omega) eR
   simpa using this
def NF:Formula:=⟨0,0,uG,[]⟩
noncomputable def Dm (f:Formula):Formula×Int:=if si f then if si (uI f) then (uI f,0) else (NF,12) else (NF,11)
theorem SQ (f:Formula) (h:Gd f):CB f=some (Dm f):=by
 unfold CB Dm
 rw [Jb f h,aA]
 cases c:si f
 ·rfl
 ·obtain ⟨h1,d,a⟩:=EI c
  have g:=E7 f
  simp only [bR,aB,aH,aJ]
  rw [XS lP f (by rw [nV]; omega) h1 a,aA,Jb (uI f) eR]
  have e:(((⟨0⟩:mE).e) != 0)=false:=rfl
  simp only [e,aB,aH,aA]
  cases si (uI f) <;> rfl
theorem Dw {f:Formula}:mo (Dm f).1≤64:=by
 unfold Dm
 cases h:si f
 ·exact by simp only [aB,aH,NF]; rw [mo,nodesL]; omega
 ·obtain ⟨h1,a,c⟩:=EI h
  have:=E7 f
  simp only [aJ]
  split
  ·show mo (uI f)≤64; omega
  ·rw [NF,mo,nodesL]; omega
theorem ZK (f g:Formula) (a:mo f≤10000000) (c:mo g≤10000000):CL f g=some (Dm ⟨2,0,uG,[f,g]⟩):=by
 unfold CL
 have:=SQ ⟨2,0,uG,[f,g]⟩ (by show mo _≤_; rw [mo,nodesL,nodesL,nodesL]; omega)
 rw [show (⟨2,0,(⟨zS,zS⟩:kL),[f,g]⟩:Formula)=⟨2,0,uG,[f,g]⟩ from rfl,this]
 rfl
mutual
def wB (v:kL→Bool):Formula→Bool
 | ⟨o,k,r,ks⟩=>if o=1 then v r else if o=2 then decide (evN v ks=ks.length) else if o=3 then decide (0 < evN v ks) else decide (k≤(evN v ks:Int))
def evN (v:kL→Bool):List Formula→Nat
 | []=>0
 | k::ks=>(if wB v k then 1 else 0)+evN v ks
end
theorem Fp (v:kL→Bool) (f:Formula):wB v f=if f.Op=1 then v f.kL else if f.Op=2 then decide (evN v f.Kids=f.Kids.length) else if f.Op=3 then decide (0 < evN v f.Kids) else decide (f.K≤(evN v f.Kids:Int)):=by cases f; rw [wB]
theorem Rf (v:kL→Bool):∀a:List Formula,evN v a≤a.length
 | []=>by rw [evN]; exact aZ _
 | k::a=>by have:=Rf v a; rw [evN,aM]; split <;> omega
theorem N2 (v:kL→Bool):∀a:List Formula,evN v a=a.length↔∀k∈a,wB v k=true
 | []=>by rw [evN]; simp
 | k::a=>by
  have h1:=Rf v a
  have c:=N2 v a
  rw [evN,aM]
  simp only [iH,←c]
  cases wB v k <;> simp <;> omega
theorem N4 (v:kL→Bool):∀a:List Formula,0 < evN v a↔∃k∈a,wB v k=true
 | []=>by rw [evN]; simp
 | k::a=>by
  have c:=N4 v a
  rw [evN]
  simp only [aS,exists_eq_or_imp,←c]
  cases wB v k <;> simp <;> omega
theorem Ny (v:kL→Bool) (a:List Formula):evN v a=(a.filter (wB v)).length:=by
 induction a with
 | nil=>rw [evN]; rfl
 | cons k a ih=>rw [evN,ih,dv]; cases wB v k <;> simp <;> omega
theorem X5 (v:kL→Bool) {a b:List Formula} (h:a.Perm b):evN v a=evN v b:=by
 rw [Ny,Ny]; exact (h.filter _).length_eq
theorem JG (v:kL→Bool) (f1:kL→Option Bool) (rec:Formula→(kL→Option Bool)→Option Bool) (f:Formula):∀(a:List Formula) (x:Nat),(∀k∈a,rec k f1=some (wB v k))→x+a.length≤100000000→
  tL rec f1 f a (x:Int)=some (if f.Op=2 then decide (x+evN v a=f.Kids.length) else if f.Op=3 then decide (0 < x+evN v a) else decide (f.K≤((x+evN v a:Nat):Int)))
 | [],x,_,_=>by
  rw [tL,evN,gZ]
  by_cases c2:f.Op=2
  ·simp only [c2,aO,aJ]
   congr 1
   rw [cC,gP,cP]; omega
  ·have d:(f.Op==2)=false:=by simpa using c2
   simp only [d,aB,aH,c2]
   by_cases c:f.Op=3
   ·simp only [c,aO,aJ]
    congr 1
    rw [cC,cP,cP]; omega
   ·have i:(f.Op==3)=false:=by simpa using c
    simp only [i,aB,aH,c]
 | k::a,x,h,j=>by
  rw [aM] at j
  rw [tL,h k fb,aA,evN]
  cases wB v k
  ·simp only [aB,aH]
   rw [JG v f1 rec f a x (λz g=>h z (by simp [g])) eR,fa]
  ·simp only [aJ]
   have e:wi0 .i64 ((x:Int)+1)=((x+1:Nat):Int):=by rw [mr eR eR]; omega
   rw [e,JG v f1 rec f a (x+1) (λz g=>h z (by simp [g])) eR]
   have d:x+1+evN v a=x+(1+evN v a):=by omega
   rw [d]
theorem Vp (v:kL→Bool) (f1:kL→Option Bool) (i:∀r,f1 r=some (v r)):∀(n:Nat) (f:Formula),rn f≤n→Gd f→uv n f f1=some (wB v f):=by
 intro n
 induction n with
 | zero=>intro f h; rw [oK] at h; omega
 | succ n ih=>
  intro f c d
  rw [oK] at c
  have g:=rL f
  have j:=ul f.Kids
  unfold Gd at d
  rw [uv]
  unfold AE
  rw [Fp]
  by_cases c1:f.Op=1
  ·simp only [c1,aO,aJ,i,aA]
  ·have a:(f.Op==1)=false:=by simpa using c1
   simp only [a,aB,aH,c1]
   have:=JG v f1 (uv n) f f.Kids 0 (λk hk=>ih k (by have:=vz hk; omega) (by have:=yo hk; unfold Gd; omega)) eR
   simpa using this
def MN (v:kL→Bool) (f:Formula):Bool:=si f&&wB v f
theorem Z1 (v:kL→Bool) (f1:kL→Option Bool) (a:∀r,f1 r=some (v r)) (f:Formula) (h:Gd f):yu f f1=some (MN v f):=by
 unfold yu MN
 rw [Jb f h,aA]
 have:=B5 f
 cases si f
 ·rfl
 ·unfold Gd at h
  simp only [aJ,Vp v f1 a lP f (by rw [nV]; omega) h,aA,eP]
theorem Nc (op:Int) (f:Formula):nj op f=true↔f.Op=op∧f.Kids=[]:=by
 unfold nj; simp
theorem OS (v:kL→Bool) {f:Formula} (h:nj 2 f=true):wB v f=true:=by
 obtain ⟨h1,a⟩:=(Nc 2 f).1 h
 rw [Fp,h1,a,evN]; rfl
theorem O0 (v:kL→Bool) {f:Formula} (h:nj 3 f=true):wB v f=false:=by
 obtain ⟨h1,a⟩:=(Nc 3 f).1 h
 rw [Fp,h1,a,evN]; rfl
def yO (v:kL→Bool) (a:List Formula):Bool:=a.all (wB v)
def zr (v:kL→Bool) (a:List Formula):Bool:=a.any (wB v)
theorem SO (v:kL→Bool) (k:Int) (r:kL) (a:List Formula):wB v ⟨2,k,r,a⟩=yO v a:=by
 rw [Fp,cC]; simp [yO,N2]
theorem Ws (v:kL→Bool) (k:Int) (r:kL) (a:List Formula):wB v ⟨3,k,r,a⟩=zr v a:=by
 rw [Fp,cC]; simp [zr,N4]
theorem Qq (v:kL→Bool):∀a:List Formula,yO v (rN 2 a)=yO v a
 | []=>rfl
 | k::a=>by
  have ih:=Qq v a
  unfold yO at ih ⊢
  rw [rN,List.all_append,ih,fp]
  congr 1
  split
  ·rename_i h
   obtain ⟨o,n,r,l⟩:=k
   simp only at h; subst h
   exact (SO v n r l).symm
  ·simp
theorem Qf (v:kL→Bool):∀a:List Formula,zr v (rN 3 a)=zr v a
 | []=>rfl
 | k::a=>by
  have ih:=Qf v a
  unfold zr at ih ⊢
  rw [rN,List.any_append,ih,gd]
  congr 1
  split
  ·rename_i h
   obtain ⟨o,n,r,l⟩:=k
   simp only at h; subst h
   exact (Ws v n r l).symm
  ·simp
theorem VF (l:List Formula) (x:Formula):x∈dd uQ (Ad l)↔x∈l:=by
 rw [QO λ_ _=>Gh,(DA l).mem_iff]
theorem V8 {v:kL→Bool} {a b:List Formula} (h:∀x,x∈a↔x∈b):yO v a=yO v b:=by
 unfold yO; rw [cC,fq,fq]
 exact ⟨λq x c=>q x ((h x).2 c),λq x c=>q x ((h x).1 c)⟩
theorem VS {v:kL→Bool} {a b:List Formula} (h:∀x,x∈a↔x∈b):zr v a=zr v b:=by
 unfold zr; rw [cC,eJ,eJ]
 exact ⟨λ⟨x,c,q⟩=>⟨x,(h x).1 c,q⟩,λ⟨x,c,q⟩=>⟨x,(h x).2 c,q⟩⟩
theorem NH (v:kL→Bool) (a:List Formula):wB v (tX 2 a)=yO v a:=by
 rw [←Qq]
 unfold tX
 split
 ·rename_i h
  rw [show (5-2:Int)=3 from rfl,Ws]
  obtain ⟨x,c,he⟩:=eJ.1 h
  have:yO v (rN 2 a)=false:=by
   unfold yO; rw [List.all_eq_false]; exact ⟨x,c,by rw [O0 v he]; simp⟩
  rw [this]; rfl
 ·rw [←V8 (VF (rN 2 a))]
  generalize dd uQ (Ad (rN 2 a))=r
  split
  ·simp [yO]
  ·exact SO v 0 uG r
theorem No (v:kL→Bool) (a:List Formula):wB v (tX 3 a)=zr v a:=by
 rw [←Qf]
 unfold tX
 split
 ·rename_i h
  rw [show (5-3:Int)=2 from rfl,SO]
  obtain ⟨x,c,he⟩:=eJ.1 h
  have:zr v (rN 3 a)=true:=by
   unfold zr; rw [eJ]; exact ⟨x,c,OS v he⟩
  rw [this]; rfl
 ·rw [←VS (VF (rN 3 a))]
  generalize dd uQ (Ad (rN 3 a))=r
  split
  ·simp [zr]
  ·exact Ws v 0 uG r
theorem O9 (v:kL→Bool):∀a:List Formula,evN v a=(a.filter (nj 2)).length+evN v (a.filter λx=>!nj 2 x&&!nj 3 x)
 | []=>rfl
 | k::a=>by
  have ih:=O9 v a
  rw [evN,dv,dv,ih]
  cases c:nj 2 k
  ·cases d:nj 3 k
   ·simp only [cX,jW,aB,aH,aJ]
    rw [evN]; omega
   ·rw [O0 v d]; simp
  ·rw [OS v c]; simp; omega
theorem UG (v:kL→Bool) (k:Int) (a:List Formula):wB v (ya k a)=decide (k≤(evN v a:Int)):=by
 have d:=O9 v a
 unfold ya
 simp only
 generalize c:a.filter (λx=>!nj 2 x&&!nj 3 x)=l at *
 generalize (a.filter (nj 2)).length=m at *
 have hle:=Rf v l
 have ha:=N2 v l
 have hp:=N4 v l
 split
 ·rw [SO]; simp [yO]; omega
 ·split
  ·rw [Ws]; simp [zr]; omega
  ·split
   ·rw [NH,cC,cP]
    unfold yO
    rw [fq,←ha]; omega
   ·split
    ·rw [No,cC,cP]
     unfold zr
     rw [eJ,←hp]; omega
    ·rw [Fp]
     simp only [X5 v (DA l)]
     have:¬((4:Int)=1):=by omega
     have:¬((4:Int)=2):=by omega
     have:¬((4:Int)=3):=by omega
     simp only [*,aH]
     rw [cC,cP,cP]; omega
theorem Xq (v:kL→Bool):∀f:Formula,yk f=true→wB v (uI f)=wB v f:=by
 refine TW λf ih hw=>?_
 obtain ⟨h1,i,j⟩:=Cm hw
 rw [Ki,fq] at i
 have key:∀d:List Formula,(∀k∈d,wB v (uI k)=wB v k)→evN v (shapeL d)=evN v d∧yO v (shapeL d)=yO v d∧zr v (shapeL d)=zr v d:=by
  intro d
  induction d with
  | nil=>intro _; rw [shapeL]; exact ⟨Z,Z,Z⟩
  | cons k d g=>
   intro hk
   obtain ⟨a,b,c⟩:=g (λx p=>hk x (by simp [p]))
   have h:=hk k fb
   unfold yO zr at *
   rw [shapeL,evN,evN,a,h,fp,fp,gd,gd,b,c,h]
   exact ⟨Z,Z,Z⟩
 obtain ⟨a,b,c⟩:=key f.Kids (λk hk=>ih k hk (i k hk))
 obtain ⟨o,n,r,l⟩:=f
 simp only at *
 rw [Hu]
 simp only
 rcases j with h | h | h
 ·simp only [h.1,aJ]
 ·rcases h.1 with h | h
  ·subst h
   rw [SO]
   exact (NH v _).trans b
  ·subst h
   rw [Ws]
   exact (No v _).trans c
 ·obtain ⟨h,_⟩:=h
  subst h
  rw [Fp v ⟨4,n,r,l⟩]
  exact (UG v n _).trans (by rw [a]; rfl)
theorem Vd {f g:Formula} (h:Dm f=(g,0)):si f=true∧si g=true∧∀v,wB v g=wB v f:=by
 unfold Dm at h
 cases a:si f
 ·rw [a] at h; simp at h
 ·rw [a] at h
  simp only [aJ] at h
  cases c:si (uI f)
  ·rw [c] at h; simp at h
  ·rw [c] at h
   simp only [aJ,Prod.mk.injEq] at h
   obtain ⟨rfl,_⟩:=h
   exact ⟨Z,c,λv=>Xq v f (EI a).2.2⟩
def S8 (l:List Signed):Prop:=∀s∈l,B8 s.Tag
theorem NT:∀(l:List Signed) (x:Int),(∀s∈l,AH s.kK≤1000000000)→∃r,uV l x=some r
 | [],x,_=>⟨x,Z⟩
 | s::l,x,h=>by
  rw [uV]
  obtain ⟨r,e⟩:=QE [s.kK] fb (λc a=>by rw [aY] at a; rw [a]; exact h s fb)
  rw [e,aA]
  exact NT l _ (λs d=>h s (by simp [d]))
theorem MX (l:List Signed) (h:∀s∈l,AH s.kK≤1000000000):∀(a:List Key) (x:Int),∃r,uW l a x=some r
 | [],x=>by
  rw [uW]
  obtain ⟨r,e⟩:=NT l x h
  rw [e]; exact ⟨r,Z⟩
 | k::a,x=>by rw [uW]; exact MX l h a _
theorem Zo (a:List Key) (l:List Signed) (h:∀s∈l,AH s.kK≤1000000000):∃r,A8 a l=some r:=MX l h a 0
theorem XB (b:List kK) (x:kK):xn b x=some (uX nE b x):=by
 obtain ⟨q,e,h⟩:=Rk x b
 unfold AM at e
 rw [vn] at e
 rw [e,show q=uX nE b x from by rw [cC,h,BL xo]]
structure aan (l:List kK) (F:List lx):Prop where
 len:F.length≤900000000
 ref:BQ l=some F
 mdl:∃m,AB l=some m∧Bg m.1 m.2.1 m.2.2.1 m.2.2.2.1 m.2.2.2.2.1 m.2.2.2.2.2=some F∧∀r w,tF m.1 m.2.1 m.2.2.1 m.2.2.2.1 m.2.2.2.2.1 m.2.2.2.2.2 r w=some (uX Gi F ⟨r,w⟩)
 Cd:∀C:List kK,(∀c,c∈C↔c∈l∧mQ c=true)→Gr (sX C) F
theorem abh (l:List kK) (x:l.length≤30000):∃F,aan l F:=by
 obtain ⟨F,h⟩:=aax l x
 refine ⟨F,h.acq,h.ref,?_,λC t=>?_⟩
 ·obtain ⟨C,h1,d,s⟩:=h.C
  obtain ⟨C1,T,o,ws,n,p,m1,g,j⟩:=Yz l eR
  have a:∀c,c∈C1↔c∈C:=λc=>by rw [d,g]
  have k:Gr (sX C1) F:=⟨h1.1,λf=>(h1.2 f).trans (sX.congr a f).symm⟩
  have u:SM C1:=by unfold SM; omega
  refine ⟨_,p,?_,λr w=>?_⟩
  ·obtain ⟨F1,q,i⟩:=Yc u.small m1 C1 o ws [] n
   rw [←i.unique k]; exact q
  ·obtain ⟨b,e,v⟩:=aar m1 C1 o ws [] n r w
   rw [e,show b=uX Gi F ⟨r,w⟩ from by rw [cC,v,BL Co,k.2]]
 ·obtain ⟨C',h1,d,s⟩:=h.C
  have a:∀c,c∈C'↔c∈C:=λc=>by rw [d,t]
  exact ⟨h1.1,λf=>(h1.2 f).trans (sX.congr a f)⟩
end Go.Proofs.YtlfibegniofmjaaGreat
