/- a part of a proof of ChangeLoses -/
import Derived.Test.YtjjjihkifgdhgaaGreatDoorDC8Mo
import Derived.Test.YtjjjihkifgdhgaaGreatDoorRtVo
set_option linter.all false
namespace Go.Proofs.YtjjjihkifgdhgaaGreatDoor
open Go.IntKind renaming wrap → wi0
open Go.RowKit
section
variable {α:Type}
structure SWO (lt:α→α→Bool):Prop where
 NB:∀x,lt x x=false
 tr:∀x y z,lt x y=true→lt y z=true→lt x z=true
 Ls:∀x y z,lt x z=true→lt x y=true∨lt y z=true
variable {lt:α→α→Bool}
theorem SWO.asym (h:SWO lt) {x y:α} (a:lt x y=true):lt y x=false:=by
 cases e:lt y x
 ·rfl
 ·have:=h.tr _ _ _ a e; rw [h.NB] at this; cases this
def tl (lt:α→α→Bool) (p q:α×Nat):Prop:=lt p.1 q.1=true∨(lt q.1 p.1=false∧p.2 < q.2)
theorem Hv (h:SWO lt) {p q r:α×Nat} (a:tl lt p q) (b:tl lt q r):tl lt p r:=by
 unfold tl at *
 rcases a with a | ⟨a,a2⟩ <;> rcases b with b | ⟨b,d⟩
 ·exact .inl (h.tr _ _ _ a b)
 ·rcases h.Ls _ r.1 _ a with c | c
  ·exact .inl c
  ·rw [b] at c; cases c
 ·rcases h.Ls _ p.1 _ b with c | c
  ·rw [a] at c; cases c
  ·exact .inl c
 ·refine .inr ⟨?_,by omega⟩
  cases e:lt r.1 p.1
  ·rfl
  ·rcases h.Ls _ q.1 _ e with c | c
   ·rw [b] at c; cases c
   ·rw [a] at c; cases c
theorem XW (h:SWO lt) {p q:α×Nat} (a:tl lt p q) (b:tl lt q p):False:=by
 have c:=Hv h a b
 rcases c with c | ⟨_,c⟩
 ·rw [h.NB] at c; cases c
 ·omega
abbrev oy (lt:α→α→Bool) (t:List (α×Nat)):Prop:=t.Pairwise (tl lt)
theorem Mm (h:SWO lt):∀{t u:List (α×Nat)},oy lt t→oy lt u→t.Perm u→t=u
 | [],u,_,_,hp=>by rw [List.nil_perm] at hp; exact hp.symm
 | p::t,[],_,_,hp=>by simp at hp
 | p::t,q::u,h1,i,hp=>by
  have e:p=q:=by
   rcases aP.1 (hp.mem_iff.1 (.head _)) with e | j
   ·exact e
   ·rcases aP.1 (hp.mem_iff.2 (.head _)) with e | d
    ·exact e.symm
    ·exact (XW h ((bY.1 h1).1 _ d) ((bY.1 i).1 _ j)).elim
  subst e
  rw [Mm h (bY.1 h1).2 (bY.1 i).2 (List.Perm.cons_inv hp)]
def EB (lt:α→α→Bool) (l:List α) (k:α):List α:=l.filter (λx=>!lt k x)++k::l.filter (λx=>lt k x)
def Bj (lt:α→α→Bool) (l:List α):List α:=l.foldl (EB lt) []
def Kz (lt:α→α→Bool) (t:List (α×Nat)) (k:α×Nat):List (α×Nat):=t.filter (λx=>!lt k.1 x.1)++k::t.filter (λx=>lt k.1 x.1)
theorem VU (t:List (α×Nat)) (k:α×Nat):(Kz lt t k).map (·.1)=EB lt (t.map (·.1)) k.1:=by
 simp [Kz,EB,List.filter_map,gl]
theorem Vh (t:List (α×Nat)) (k:α×Nat):(Kz lt t k).Perm (t++[k]):=by
 unfold Kz
 refine List.perm_middle.trans ?_
 refine (List.Perm.cons _ ?_).trans (fp k t).symm
 have:=List.filter_append_perm (λx:α×Nat=>!lt k.1 x.1) t
 simpa using this
theorem WU (h:SWO lt) {t:List (α×Nat)} {k:α×Nat} (p:oy lt t) (hk:∀x∈t,x.2 < k.2):oy lt (Kz lt t k):=by
 unfold Kz oy
 rw [dB,bY]
 refine ⟨p.filter _,⟨λx i=>?_,p.filter _⟩,λx i y j=>?_⟩
 ·exact .inl (bU.1 i).2
 ·obtain ⟨h1,n⟩:=bU.1 i
  simp only [eW,] at n
  have d:tl lt x k:=.inr ⟨n,hk x h1⟩
  rcases aP.1 j with rfl | j
  ·exact d
  ·exact Hv h d (.inl (bU.1 j).2)
theorem aan (h:SWO lt) (l:List α):∃t,oy lt t∧t.Perm l.zipIdx∧t.map (·.1)=Bj lt l:=by
 suffices H:∀(l r:List α) (t:List (α×Nat)),oy lt t→t.Perm r.zipIdx→∃u,oy lt u∧u.Perm (r++l).zipIdx∧u.map (·.1)=l.foldl (EB lt) (t.map (·.1)) by
  obtain ⟨u,h1,d,j⟩:=H l [] [] .nil (by simp)
  exact ⟨u,h1,by simpa using d,j⟩
 intro l
 induction l with
 | nil=>intro r t h1 d; exact ⟨t,h1,by simpa using d,rfl⟩
 | cons k l ih=>
  intro r t h1 d
  obtain ⟨u,i,a2,a3⟩:=ih (r++[k]) (Kz lt t (k,r.length)) (WU h h1 (λx n=>by
   obtain ⟨a,b⟩:=x
   have:=List.snd_lt_of_mem_zipIdx (d.mem_iff.1 n)
   simpa using this)) ((Vh t _).trans (by rw [jm]; simpa using d.append_right _))
  refine ⟨u,i,by simpa using a2,?_⟩
  rw [a3,VU]
  rfl
theorem Nj (h:SWO lt) {l:List α} {t:List (α×Nat)} (h1:oy lt t) (i:t.Perm l.zipIdx):t.map (·.1)=Bj lt l:=by
 obtain ⟨u,d,a2,a3⟩:=aan h l
 rw [←a3,Mm h h1 d (i.trans a2.symm)]
end
section
variable {α:Type} {lt:α→α→Bool}
abbrev Lk (lt:α→α→Bool) (A B:List (α×Nat)):Prop:=∀A' a b B',A=A'++[a]→B=b::B'→tl lt a b
theorem Ed (h:SWO lt) {A B:List (α×Nat)} (n:oy lt A) (p:oy lt B) (l:Lk lt A B):∀a∈A,∀b∈B,tl lt a b:=by
 intro a ha b hb
 rcases cV A with rfl | ⟨A',z,rfl⟩
 ·cases ha
 cases B with
 | nil=>cases hb
 | cons y B'=>
  have h1:tl lt z y:=l A' z y B' (by simp) rfl
  have d:a=z∨tl lt a z:=by
   simp only [dt,aO,bO] at ha
   rcases ha with ha | ha
   ·refine .inr ?_
    simp only [dt,oy,dB] at n
    exact n.2.2 a ha z (by simp)
   ·exact .inl ha
  have i:b=y∨tl lt y b:=by
   rcases aP.1 hb with hb | hb
   ·exact .inl hb
   ·exact .inr ((bY.1 p).1 b hb)
  have j:tl lt a y:=by
   rcases d with rfl | d
   ·exact h1
   ·exact Hv h d h1
  rcases i with rfl | i
  ·exact j
  ·exact Hv h j i
theorem Hq (h:SWO lt) {A B:List (α×Nat)} (d:oy lt A) (i:oy lt B) (l:Lk lt A B):oy lt (A++B) :=
 dB.2 ⟨d,i,Ed h d i l⟩
theorem oy.left {A B:List (α×Nat)} (h:oy lt (A++B)):oy lt A:=(dB.1 h).1
theorem oy.right {A B:List (α×Nat)} (h:oy lt (A++B)):oy lt B:=(dB.1 h).2.1
theorem oy.two {A B:List (α×Nat)} (h:oy lt (A++B)):∀a∈A,∀b∈B,tl lt a b:=(dB.1 h).2.2
theorem DA (h:SWO lt) {A B:List (α×Nat)} {x:α×Nat} (d:oy lt (A++B)) (j:Lk lt A [x]) (n:Lk lt [x] B):oy lt (A++x::B):=by
 have h1:=Ed h d.left (eX _ x) j
 have i:=Ed h (eX _ x) d.right n
 refine dB.2 ⟨d.left,bY.2 ⟨λb hb=>i x (by simp) b hb,d.right⟩,λa ha b hb=>?_⟩
 rcases aP.1 hb with rfl | hb
 ·exact h1 a ha _ (by simp)
 ·exact d.two a ha b hb
theorem Sd (h:SWO lt) {A1 A2 B1 B2 C1 C2:List (α×Nat)} (d:oy lt (A1++A2)) (i:oy lt (B1++B2)) (n:Lk lt A1 B2) (p:Lk lt B1 A2) (u:C1.Perm (A1++B1)) (v:C2.Perm (A2++B2)) (h1:oy lt C1) (j:oy lt C2):oy lt (C1++C2):=by
 have x1:=Ed h d.left i.right n
 have x2:=Ed h i.left d.right p
 refine dB.2 ⟨h1,j,λa ha b hb=>?_⟩
 rcases aO.1 (u.mem_iff.1 ha) with ha | ha <;> rcases aO.1 (v.mem_iff.1 hb) with hb | hb
 ·exact d.two a ha b hb
 ·exact x1 a ha b hb
 ·exact x2 a ha b hb
 ·exact i.two a ha b hb
end
section
variable {α:Type}
theorem EZ (p q:List α) (x y:α):(p++x::q).set p.length y=p++y::q:=by simp
theorem El (p q:List α) (x y:α) (n:Nat) (h:n=p.length):(p++x::q).set n y=p++y::q:=by subst h; simp
theorem Fm (p m q:List α) (x y:α):((p++x::(m++y::q)).set p.length y).set (p.length+1+m.length) x=p++y::(m++x::q):=by
 rw [EZ]
 have:p++y::(m++y::q)=(p++y::m)++y::q:=by simp
 rw [this,show p.length+1+m.length=(p++y::m).length by simp; omega,EZ]
 simp
theorem ND (p m q:List α) (x y:α):((p++x::(m++y::q)).set (p.length+1+m.length) x).set p.length y=p++y::(m++x::q):=by
 rw [List.set_comm _ _ (by omega),Fm]
theorem sN {l:List α} {n:Nat} (h:n≤l.length):∃a b,l=a++b∧a.length=n:=⟨l.take n,l.drop n,(iD n l).symm,by simp [h]⟩
end
theorem GR {c x:Bool}:(if c=true then some x else some false:Option Bool)=some (c&&x):=by cases c <;> rfl
theorem UC {c x:Bool}:(if c=true then some true else some x:Option Bool)=some (c||x):=by cases c <;> rfl
theorem pI {α:Type} (x:Option α):(x.bind λy=>some y)=x:=by cases x <;> rfl
theorem mc {x:Int} (d:-9223372036854775808≤x) (h1:x≤9223372036854775807):wi0 .i64 x=x:=IntWalk.i64_in _ (by omega)
theorem mz {α:Type} (A:List α) (x:α) (B:List α) (i:Int) (h:i=(A.length:Int)):lD (A++x::B) i=some x:=by
 subst h; rw [GZ]; simp
theorem my:kY=18446744073709551615+1:=by rw [zy]
def HJ {α:Type} (f1:α→Option Bool) (z:α):Nat→List α→Int→Int→Option (List α)
 | 0,_,_,_=>none
 | n+1,l,i,j=>if decide (j < (l.length:Int)) then
   ((lD l j).bind λx=>(f1 x).bind λr=>if (!r) then (lD l i).bind λ_=>some (l.set (Int.toNat i) x,wi0 .i64 (i+1)) else some (l,i):Option (List α×Int)).bind λ(p,d)=>HJ f1 z n p d (wi0 .i64 (j+1))
  else (vB (decide (0≤i)&&decide (i≤(l.length:Int)))).bind λ_=>(vB (decide (0≤i)&&decide (i≤((rj l (Int.toNat i) z).length:Int)))).bind λ_=>some ((rj l (Int.toNat i) z).take (Int.toNat i))
theorem Ir {a b:Int} (d:0≤a) (h1:a≤b):vB (decide (0≤a)&&decide (a≤b))=some ():=by simp [vB,d,h1]
theorem PK {α:Type} (f1:α→Option Bool) (p:α→Bool) (z:α):∀(rest out mid:List α) (n:Nat),rest.length < n→(out++mid++rest).length < 4611686018427387904→mid≠[]→(∀x∈rest,f1 x=some (p x))→
  HJ f1 z n (out++mid++rest) (out.length:Int) ((out.length+mid.length:Nat):Int)=some (out++rest.filter λx=>!p x)
 | [],out,mid,0,h,_,_,_=>by simp at h
 | [],out,mid,n+1,_,i,hm,_=>by
  rw [HJ,bG (by simp)]
  have h1:out.length≤(out++mid++[]).length:=by simp
  rw [Ir (by omega) (by omega)]
  simp only [aA]
  rw [Ir (by omega) (by rw [zl _ _ _ (by simpa using h1)]; omega)]
  simp only [aA,dq]
  rw [Kn _ _ _ h1]
  simp
 | x::rest,out,mid,0,h,_,_,_=>by simp at h
 | x::rest,out,mid,n+1,h,i,hm,j=>by
  have hlen:(out++mid++x::rest).length=out.length+mid.length+rest.length+1:=by simp; omega
  rw [hlen] at i
  rw [HJ,bD (by rw [hlen]; simp; omega)]
  rw [mz (out++mid) x rest _ (by simp)]
  simp only [aA,j x (by simp)]
  rw [mc (x:=((out.length+mid.length:Nat):Int)+1) (by omega) (by omega)]
  have ih:=PK f1 p z rest
  cases hp:p x with
  | true=>
   simp only [cI,aB,aI,aA]
   have:=ih out (mid++[x]) n (by simp at h; omega) (by simp; omega) (by simp) (λy u=>j y (by simp [u]))
   simp only [aM,bM,aW,aC,aG,aZ] at this ⊢
   rw [show ((out.length+mid.length:Nat):Int)+1=((out.length+(mid.length+(0+1)):Nat):Int) by omega,this]
   simp [hp]
  | false=>
   obtain ⟨m,d,rfl⟩:∃m d,mid=m::d:=by cases mid with
    | nil=>exact absurd rfl hm
    | cons m d=>exact ⟨m,d,rfl⟩
   simp only [cR,aK]
   rw [aM out (m::d) (x::rest),bM]
   rw [mz out m (d++x::rest) _ rfl]
   simp only [aA]
   rw [mc (x:=(out.length:Int)+1) (by omega) (by simp at i; omega)]
   have:=ih (out++[x]) (d++[x]) n (by simp at h; omega) (by simp at i ⊢; omega) (by simp) (λy u=>j y (by simp [u]))
   simp only [aM,bM,aW,aC,aG,aZ] at this
   have v:(out++m::(d++x::rest)).set (Int.toNat (out.length:Int)) x=out++x::(d++x::rest):=by
    rw [dq,List.set_append_right _ _ (aR _)]; simp
   rw [v]
   simp only [aG] at i ⊢
   rw [show (out.length:Int)+1=((out.length+(0+1):Nat):Int) by omega,show ((out.length+(d.length+1):Nat):Int)+1=((out.length+(0+1)+(d.length+(0+1)):Nat):Int) by omega,this]
   simp [hp]
def CH {α:Type} (f1:α→Option Bool):List α→Nat→Option Int
 | [],_=>some (-1)
 | x::xs,i=>(f1 x).bind λr=>if r then some (i:Int) else CH f1 xs (i+1)
theorem FD {α:Type} (f1:α→Option Bool) (p:α→Bool):∀(l:List α) (i:Nat),(∀x∈l,f1 x=some (p x))→
  (CH f1 l i=some (-1)∧∀x∈l,p x=false)∨∃A x B,l=A++x::B∧(∀y∈A,p y=false)∧p x=true∧CH f1 l i=some ((i+A.length:Nat):Int)
 | [],i,_=>.inl ⟨rfl,by simp⟩
 | x::l,i,h=>by
  rw [CH,h x (by simp)]
  simp only [aA]
  cases hp:p x with
  | true=>exact .inr ⟨[],x,l,rfl,by simp,hp,by simp⟩
  | false=>
   simp only [aB,aI]
   rcases FD f1 p l (i+1) (λy d=>h y (by simp [d])) with ⟨h1,j⟩ | ⟨A,y,B,rfl,h1,j,u⟩
   ·exact .inl ⟨h1,by intro y d; rcases aP.1 d with rfl | d; exact hp; exact j y d⟩
   ·refine .inr ⟨x::A,y,B,rfl,?_,j,?_⟩
    ·intro z n; rcases aP.1 n with rfl | n
     ·exact hp
     ·exact h1 z n
    ·rw [u]; simp; omega
def M6 {α:Type} (f1:α→Option Bool) (z:α) (l:List α):Option (List α) :=
 (CH f1 l 0).bind λr1=>if (r1==(-1)) then some l else HJ f1 z kY l r1 (wi0 .i64 (r1+1))
theorem Pg {α:Type} (f1:α→Option Bool) (p:α→Bool) (z:α) (l:List α) (j:l.length < 4611686018427387904) (h:∀x∈l,f1 x=some (p x)):M6 f1 z l=some (l.filter λx=>!p x):=by
 unfold M6
 rcases FD f1 p l 0 h with ⟨h1,i⟩ | ⟨A,x,B,rfl,h1,i,n⟩
 ·rw [h1]
  simp only [aA,bP,aK]
  rw [gJ.2 (λy d=>by simp [i y d])]
 ·rw [n]
  simp only [aA,eO]
  rw [bG (by simp),mc (by omega) (by simp at j; omega)]
  have:=PK f1 p z B A [x] kY (by rw [zy]; simp at j; omega) (by simpa using j) (by simp) (λy d=>h y (by simp [d]))
  simp only [aM,bM,aW,aG,aZ] at this
  rw [show (A.length:Int)+1=((A.length+(0+1):Nat):Int) by omega,this]
  have u:A.filter (λx=>!p x)=A:=gJ.2 (λy d=>by simp [h1 y d])
  rw [jo,u]
  simp [i]
def oX {α:Type} (eq:α→α→Bool):α→List α→List α
 | _,[]=>[]
 | p,y::ys=>if eq y p then oX eq y ys else y::oX eq y ys
def dd {α:Type} (eq:α→α→Bool):List α→List α
 | []=>[]
 | x::xs=>x::oX eq x xs
def FV {α:Type} (eq:α→α→Bool) (i:Int):Nat→List α→Int→Int→Option (List α×Int)
 | 0,_,_,_=>none
 | n+1,l,k,j=>if decide (j < ((l.length-Int.toNat i:Nat):Int)) then
   ((lD (l.drop (Int.toNat i)) j).bind λx=>(lD (l.drop (Int.toNat i)) (wi0 .i64 (j-1))).bind λy=>if !(eq x y) then (lD (l.drop (Int.toNat i)) j).bind λz=>(lD l k).bind λ_=>some (l.set (Int.toNat k) z,wi0 .i64 (k+1)) else some (l,k):Option (List α×Int)).bind λ(d,k')=>FV eq i n d k' (wi0 .i64 (j+1))
  else some (l,k)
def Gy {α:Type} (eq:α→α→Bool) (z:α) (l:List α):Nat→Int→Option (List α)
 | 0,_=>none
 | n+1,i=>if decide (i < (l.length:Int)) then (lD l i).bind λx=>(lD l (wi0 .i64 (i-1))).bind λy=>if eq x y then
    (vB (decide (0≤i)&&decide (i≤(l.length:Int)))).bind λ_=>(FV eq i kY l i 1).bind λ(d,k)=>(vB (decide (0≤k)&&decide (k≤(d.length:Int)))).bind λ_=>(vB (decide (0≤k)&&decide (k≤((rj d (Int.toNat k) z).length:Int)))).bind λ_=>some ((rj d (Int.toNat k) z).take (Int.toNat k))
   else Gy eq z l n (wi0 .i64 (i+1))
  else some l
def Pv {α:Type} (eq:α→α→Bool) (z:α) (l:List α):Option (List α):=if decide ((l.length:Int) < 2) then some l else Gy eq z l kY 1
theorem OJ {α:Type} (l:List α) (i:Nat) (j:Int) (d:0≤j):lD (l.drop i) j=lD l ((i:Int)+j):=by
 obtain ⟨m,rfl⟩:∃m:Nat,j=m:=⟨j.toNat,by omega⟩
 rw [show (i:Int)+(m:Int)=((i+m:Nat):Int) by omega,GZ,GZ,ek]
theorem Lb {α:Type} (eq:α→α→Bool) (i:Nat):∀(rest out mid:List α) (p:α) (n:Nat),rest.length < n→(out++(mid++[p])++rest).length < 4611686018427387904→1≤i→i≤out.length→
  ∃j,FV eq (i:Int) n (out++(mid++[p])++rest) (out.length:Int) ((out.length+mid.length+1-i:Nat):Int)=some (j,((out++oX eq p rest).length:Int))∧j.take (out++oX eq p rest).length=out++oX eq p rest∧(out++oX eq p rest).length≤j.length
 | [],out,mid,p,0,h,_,_,_=>by simp at h
 | [],out,mid,p,n+1,h,A,h1,z=>by
  rw [FV,bG (by simp; omega)]
  exact ⟨out++(mid++[p])++[],by simp [oX],by simp [oX],by simp [oX]⟩
 | x::rest,out,mid,p,0,h,_,_,_=>by simp at h
 | x::rest,out,mid,p,n+1,h,A,h1,z=>by
  have hlen:(out++(mid++[p])++x::rest).length=out.length+mid.length+rest.length+2:=by simp; omega
  rw [hlen] at A
  rw [FV,bD (by rw [hlen]; simp; omega)]
  rw [dq,OJ _ _ _ (by omega),mz (out++(mid++[p])) x rest _ (by simp; omega)]
  simp only [aA]
  rw [mc (x:=((out.length+mid.length+1-i:Nat):Int)-1) (by omega) (by omega),OJ _ _ _ (by omega)]
  rw [show out++(mid++[p])++x::rest=(out++mid)++p::(x::rest) by simp]
  rw [mz (out++mid) p (x::rest) _ (by simp; omega)]
  simp only [aA]
  rw [mc (x:=((out.length+mid.length+1-i:Nat):Int)+1) (by omega) (by omega)]
  cases hp:eq x p with
  | true=>
   simp only [cI,aB,aI,aA]
   obtain ⟨j,u,v,w⟩:=Lb eq i rest out (mid++[p]) x n (by simp at h; omega) (by simp; omega) h1 z
   refine ⟨j,?_,by rw [oX,hp]; exact v,by rw [oX,hp]; exact w⟩
   rw [oX,hp,bD rfl,←u]
   congr 1
   ·simp
   ·simp; omega
  | false=>
   simp only [cR,aK]
   obtain ⟨m,d,hm⟩:∃m d,mid++[p]=m::d:=by cases mid with
    | nil=>exact ⟨p,[],rfl⟩
    | cons m d=>exact ⟨m,d++[p],rfl⟩
   have G:d.length=mid.length:=by have:=bA List.length hm; simp at this; omega
   rw [show (out++mid)++p::(x::rest)=out++m::(d++x::rest) by rw [←bM,←hm]; simp]
   rw [mz out m (d++x::rest) _ rfl]
   simp only [aA]
   rw [mc (x:=(out.length:Int)+1) (by omega) (by omega)]
   have I:(out++m::(d++x::rest)).set (Int.toNat (out.length:Int)) x=(out++[x])++(d++[x])++rest:=by
    rw [dq,List.set_append_right _ _ (aR _)]; simp
   rw [I]
   obtain ⟨j,u,v,w⟩:=Lb eq i rest (out++[x]) d x n (by simp at h; omega) (by simp; omega) h1 (by simp; omega)
   refine ⟨j,?_,?_,?_⟩
   ·rw [oX,hp,bG (by decide)]
    have E:((out++x::oX eq x rest).length:Int)=((out++[x]++oX eq x rest).length:Int):=by simp
    rw [E,←u]
    congr 1
    ·simp
    ·simp; omega
   ·rw [oX,hp,bG (by decide)]; simpa using v
   ·rw [oX,hp,bG (by decide)]; simpa using w
theorem Qk {α:Type} (eq:α→α→Bool) (z:α):∀(rest pre:List α) (p:α) (n:Nat),rest.length < n→(pre++p::rest).length < 4611686018427387904→
  Gy eq z (pre++p::rest) n ((pre.length+1:Nat):Int)=some (pre++p::oX eq p rest)
 | [],pre,p,0,h,_=>by simp at h
 | [],pre,p,n+1,h,v=>by rw [Gy,bG (by simp)]; simp [oX]
 | x::rest,pre,p,0,h,_=>by simp at h
 | x::rest,pre,p,n+1,h,v=>by
  have hlen:(pre++p::x::rest).length=pre.length+rest.length+2:=by simp; omega
  rw [hlen] at v
  rw [Gy,bD (by rw [hlen]; simp; omega)]
  rw [show pre++p::x::rest=(pre++[p])++x::rest by simp,mz (pre++[p]) x rest _ (by simp)]
  simp only [aA]
  rw [mc (x:=((pre.length+1:Nat):Int)-1) (by omega) (by omega)]
  rw [show (pre++[p])++x::rest=pre++p::(x::rest) by simp,mz pre p (x::rest) _ (by omega)]
  simp only [aA]
  cases hp:eq x p with
  | true=>
   simp only [aK]
   rw [Ir (by omega) (by rw [hlen]; omega)]
   simp only [aA]
   obtain ⟨w,d,u,j⟩:=Lb eq (pre.length+1) rest (pre++[p]) [] x kY (by rw [zy]; omega) (by simp; omega) (by omega) (by simp)
   simp only [aM,bM,aW,aC,aG,aZ] at d u j
   rw [show (pre.length+(0+1)+0+1-(pre.length+1):Nat)=1 by omega] at d
   rw [show ((pre.length+1:Nat):Int)=((pre.length+(0+1):Nat):Int) by omega] at *
   have i:FV eq ((pre.length+(0+1):Nat):Int) kY (pre++p::x::rest) ((pre.length+(0+1):Nat):Int) 1=_:=d
   rw [i]
   simp only [aA]
   rw [Ir (by omega) (by omega)]
   simp only [aA,dq]
   rw [Ir (by omega) (by rw [zl _ _ _ j]; omega)]
   simp only [aA]
   rw [Kn _ _ _ j,u,oX,hp]
   simp
  | false=>
   simp only [aB,aI]
   rw [mc (x:=((pre.length+1:Nat):Int)+1) (by omega) (by omega)]
   have:=Qk eq z rest (pre++[p]) x n (by simp at h; omega) (by simp; omega)
   simp only [aM,bM,aW,aC,aG,aZ] at this
   rw [show ((pre.length+1:Nat):Int)+1=((pre.length+(0+1)+1:Nat):Int) by omega,this,oX,hp]
   simp
theorem Qu {α:Type} (eq:α→α→Bool) (z:α) (l:List α) (d:l.length < 4611686018427387904):Pv eq z l=some (dd eq l):=by
 unfold Pv
 cases l with
 | nil=>rfl
 | cons x xs=>
  cases xs with
  | nil=>simp [dd,oX]
  | cons y ys=>
   rw [bG (by simp; omega)]
   have:=Qk eq z (y::ys) [] x kY (by rw [zy]; simp at d ⊢; omega) (by simpa using d)
   simpa [dd] using this
structure DH {α:Type} (lt:α→α→Prop) (P:α→Prop):Prop where
 irrefl:∀x,P x→¬lt x x
 trans:∀x y z,P x→P y→P z→lt x y→lt y z→lt x z
 total:∀x y,P x→P y→lt x y∨x=y∨lt y x
def wz {α:Type} (lt:α→α→Prop) (P:α→Prop) (l out:List α):Prop:=out.Pairwise lt∧∀x,x∈out↔x∈l∧P x
theorem wz.unique {α:Type} {lt:α→α→Prop} {P:α→Prop} (H:DH lt P):∀{l a b:List α},wz lt P l a→wz lt P l b→a=b:=by
 have key:∀a b:List α,(∀x∈a,P x)→a.Pairwise lt→b.Pairwise lt→(∀x,x∈a↔x∈b)→a=b:=by
  intro a
  induction a with
  | nil=>intro b _ _ _ hm; cases b with
   | nil=>rfl
   | cons y ys=>exact absurd ((hm y).2 (by simp)) (by simp)
  | cons x xs ih=>
   intro b u ha hb hm
   cases b with
   | nil=>exact absurd ((hm x).1 (by simp)) (by simp)
   | cons y ys=>
    have v:P y:=u y ((hm y).2 (by simp))
    have d:P x:=u x (by simp)
    have i:=bY.1 ha
    have j:=bY.1 hb
    have w:x=y:=by
     rcases aP.1 ((hm x).1 (by simp)) with h | h
     ·exact h
     ·rcases aP.1 ((hm y).2 (by simp)) with p | p
      ·exact p.symm
      ·exact absurd (H.trans x y x d v d (i.1 y p) (j.1 x h)) (H.irrefl x d)
    subst w
    congr 1
    refine ih ys (λz n=>u z (by simp [n])) i.2 j.2 (λz=>?_)
    constructor
    ·intro n
     rcases aP.1 ((hm z).1 (by simp [n])) with h | h
     ·subst h; exact absurd (i.1 z n) (H.irrefl z d)
     ·exact h
    ·intro n
     rcases aP.1 ((hm z).2 (by simp [n])) with h | h
     ·subst h; exact absurd (j.1 z n) (H.irrefl z d)
     ·exact h
 intro l a b ha hb
 exact key a b (λx A=>((ha.2 x).1 A).2) ha.1 hb.1 (λx=>(ha.2 x).trans (hb.2 x).symm)
theorem HC {α:Type} {eq:α→α→Bool} (he:∀x y,eq x y=true↔x=y):∀(l:List α) (p x:α),x∈p::oX eq p l↔x∈p::l
 | [],p,x=>by simp [oX]
 | y::l,p,x=>by
  rw [oX]
  split
  ·rename_i h
   have:=(he y p).1 h
   subst this
   rw [HC he l y x]; simp
  ·have:=HC he l y x
   simp only [aP] at this ⊢
   rw [this]
theorem Pn {α:Type} {eq:α→α→Bool} (he:∀x y,eq x y=true↔x=y) (l:List α) (x:α):x∈dd eq l↔x∈l:=by
 cases l with
 | nil=>simp [dd]
 | cons y l=>exact HC he l y x
theorem Gz {α:Type} {eq:α→α→Bool} {lt:α→α→Prop} {P:α→Prop} (he:∀x y,eq x y=true↔x=y) (H:DH lt P):∀(l:List α) (p:α),(∀x∈p::l,P x)→(p::l).Pairwise (λa b=>¬lt b a)→(p::oX eq p l).Pairwise lt
 | [],p,_,_=>by simp [oX]
 | y::l,p,d,A=>by
  have h1:=bY.1 A
  rw [oX]
  split
  ·rename_i h
   have:=(he y p).1 h
   subst this
   exact Gz he H l y (λx n=>d x (fC _ n)) h1.2
  ·rename_i h
   have ih:=Gz he H l y (λx n=>d x (fC _ n)) h1.2
   refine bY.2 ⟨λz w=>?_,ih⟩
   have j:lt p y:=by
    rcases H.total p y (d p (by simp)) (d y (by simp)) with i | i | i
    ·exact i
    ·exact absurd ((he y p).2 i.symm) h
    ·exact absurd i (h1.1 y (by simp))
   rcases aP.1 w with rfl | u
   ·exact j
   ·have v:z∈y::l:=(HC he l y z).1 w
    exact H.trans p y z (d p (by simp)) (d y (by simp)) (d z (fC _ v)) j ((bY.1 ih).1 z u)
theorem TS {α:Type} {eq:α→α→Bool} {lt:α→α→Prop} {P:α→Prop} (he:∀x y,eq x y=true↔x=y) (H:DH lt P) (l:List α) (d:∀x∈l,P x) (i:l.Pairwise (λa b=>¬lt b a)):(dd eq l).Pairwise lt:=by
 cases l with
 | nil=>simp [dd]
 | cons y l=>exact Gz he H l y d i
theorem Oc {α:Type} {le:α→α→Bool} {P:α→Prop} (n:∀a b c,P a→P b→P c→le a b=true→le b c=true→le a c=true) (j:∀a b,P a→P b→(le a b||le b a)=true) (l:List α) (d:∀x∈l,P x) :
  (l.mergeSort le).Pairwise (λa b=>le a b=true):=by
 have e:l=(l.attachWith P d).map Subtype.val:=by simp
 have hm:((l.attachWith P d).mergeSort λa b=>le a.1 b.1).map Subtype.val=l.mergeSort le:=by
  conv=>rhs; rw [e]
  exact jg (λa _ b _=>rfl)
 rw [←hm,eV]
 exact gZ (le:=λ(a b:{x // P x})=>le a.1 b.1) (λa b c h1 i=>n a.1 b.1 c.1 a.2 b.2 c.2 h1 i) (λa b=>j a.1 b.1 a.2 b.2) _
theorem Kj {α:Type} {eq:α→α→Bool} {lt:α→α→Prop} {P:α→Prop} {cf:α×α→Option Int} {l:List α} (he:∀x y,eq x y=true↔x=y) (H:DH lt P) (i:∀x∈l,P x) (L:l.length < 4611686018427387904) (J:∀x y,P x→P y→∃c,cf (x,y)=some c∧(c < 0↔lt x y)):∃s,DZ cf l=some s∧s.length=l.length∧wz lt P l (dd eq s):=by
 have n:∀x y,P x→P y→(vI cf x y=true↔lt x y):=λx y j v=>by
  obtain ⟨c,h1,u⟩:=J x y j v
  unfold vI
  rw [h1]
  simpa using u
 have d:∀x y,P x→P y→(vI cf x y=false↔¬lt x y):=λx y j v=>by
  rw [←n x y j v]; simp
 have ok:Fv cf l:=by
  refine ⟨λx j y v=>?_,λx j=>?_,λx j y v z G h1 u=>?_,λx j y v h1 u=>?_,L⟩
  ·obtain ⟨c,h1,_⟩:=J x y (i x j) (i y v); exact ⟨c,h1⟩
  ·exact (d x x (i x j) (i x j)).2 (H.irrefl x (i x j))
  ·rw [n _ _ (i x j) (i y v)] at h1
   rw [n _ _ (i y v) (i z G)] at u
   rw [n _ _ (i x j) (i z G)]
   exact H.trans x y z (i x j) (i y v) (i z G) h1 u
  ·rw [d _ _ (i x j) (i y v)] at h1
   rw [d _ _ (i y v) (i x j)] at u
   rcases H.total x y (i x j) (i y v) with h | h | h
   ·exact absurd h h1
   ·exact h
   ·exact absurd h u
 refine ⟨_,WO ok,by simp [ud],?_,?_⟩
 ·have p:∀x,x∈ud cf l↔x∈l:=λx=>by simp [ud]
  refine TS he H _ (λx j=>i x ((p x).1 j)) ?_
  have:=Oc (le:=λx y=>!vI cf y x) (P:=P) (λa b c ha hb w h1 u=>?_) (λa b ha hb=>?_) l i
  ·refine (this.imp_of_mem ?_:_)
   intro a b ha hb h
   have A:a∈l:=(p a).1 ha
   have E:b∈l:=(p b).1 hb
   simp at h
   exact (d b a (i b E) (i a A)).1 h
  ·simp at h1 u ⊢
   rw [d _ _ hb ha] at h1
   rw [d _ _ w hb] at u
   rw [d _ _ w ha]
   intro I
   rcases H.total a b ha hb with h | h | h
   ·exact u (H.trans c a b w ha hb I h)
   ·subst h; exact u I
   ·exact h1 h
  ·simp only [fw,eW]
   rw [d _ _ hb ha,d _ _ ha hb]
   by_cases h:lt b a
   ·right; intro u; exact H.irrefl a ha (H.trans a b a ha hb ha u h)
   ·exact .inl h
 ·intro x
  rw [Pn he]
  constructor
  ·intro j
   have:x∈l:=by simpa [ud] using j
   exact ⟨this,i x this⟩
  ·intro j; simpa [ud] using j.1
theorem xO:∀a:List UInt8,Op.bytesLess a a=false
 | []=>rfl
 | x::a=>by simp [Op.bytesLess,xO a]
theorem Qh (x y:UInt8):x < y∨x=y∨y < x:=by
 rcases Nat.lt_trichotomy x.toNat y.toNat with h | h | h
 ·exact .inl h
 ·exact .inr (.inl (UInt8.toNat_inj.1 h))
 ·exact .inr (.inr h)
theorem yU:∀a b c:List UInt8,Op.bytesLess a b=true→Op.bytesLess b c=true→Op.bytesLess a c=true
 | [],[],c,h1,_=>by simp [Op.bytesLess] at h1
 | _::_,[],c,h1,_=>by simp [Op.bytesLess] at h1
 | a,_::_,[],_,d=>by simp [Op.bytesLess] at d
 | [],b::bs,c::cs,_,_=>rfl
 | a::ax,b::bs,c::cs,h1,d=>by
  simp only [Op.bytesLess,fw,bH,bn,fF] at h1 d ⊢
  rcases h1 with h1 | ⟨rfl,h1⟩
  ·rcases d with d | ⟨rfl,d⟩
   ·exact .inl (UInt8.lt_trans h1 d)
   ·exact .inl h1
  ·rcases d with d | ⟨rfl,d⟩
   ·exact .inl d
   ·exact .inr ⟨rfl,yU ax bs cs h1 d⟩
theorem Dx:∀a b:List UInt8,Op.bytesLess a b=true∨a=b∨Op.bytesLess b a=true
 | [],[]=>.inr (.inl rfl)
 | [],_::_=>.inl rfl
 | _::_,[]=>.inr (.inr rfl)
 | a::ax,b::bs=>by
  simp only [Op.bytesLess,fw,bH,bn,fF,aY]
  rcases Qh a b with h | h | h
  ·exact .inl (.inl h)
  ·subst h
   rcases Dx ax bs with h | h | h
   ·exact .inl (.inr ⟨rfl,h⟩)
   ·exact .inr (.inl ⟨rfl,h⟩)
   ·exact .inr (.inr (.inr ⟨rfl,h⟩))
  ·exact .inr (.inr (.inl h))
theorem Hb:∀a b:List UInt8,(Lib.compareBytes a b < 0↔Op.bytesLess a b=true)
 | [],[]=>by simp [Lib.compareBytes,Op.bytesLess]
 | [],_::_=>by simp [Lib.compareBytes,Op.bytesLess]
 | _::_,[]=>by simp [Lib.compareBytes,Op.bytesLess]
 | a::ax,b::bs=>by
  simp only [Lib.compareBytes,Op.bytesLess,fw,bH,bn,fF]
  by_cases h:a < b
  ·simp [h]
  ·by_cases i:b < a
   ·have:a≠b:=by rintro rfl; exact h i
    simp [h,i,this]
   ·have:a=b:=by rcases Qh a b with d | d | d; exact absurd d h; exact d; exact absurd d i
    subst this
    simp [h,Hb ax bs]
theorem KY:∀a b:List UInt8,(Lib.compareBytes a b=0↔a=b)
 | [],[]=>by simp [Lib.compareBytes]
 | [],_::_=>by simp [Lib.compareBytes]
 | _::_,[]=>by simp [Lib.compareBytes]
 | a::ax,b::bs=>by
  simp only [Lib.compareBytes,aY]
  by_cases h:a < b
  ·simp only [h,aK]
   constructor
   ·intro h; cases h
   ·rintro ⟨rfl,_⟩; exact absurd h (by simp)
  ·by_cases i:b < a
   ·simp only [h,i,aK,aI]
    constructor
    ·intro h; cases h
    ·rintro ⟨rfl,_⟩; exact absurd i (by simp)
   ·have:a=b:=by rcases Qh a b with d | d | d; exact absurd d h; exact d; exact absurd d i
    subst this
    simp [h,KY ax bs]
theorem Cg (a b:ByteArray):tE a b=Op.bytesLess a.data.toList b.data.toList:=by unfold tE; rw [fI,fI]
theorem yr {a b:ByteArray} (h:a.data.toList=b.data.toList):a=b:=gK (Array.toList_inj.1 h)
theorem wv (a:ByteArray):tE a a=false:=by rw [Cg,xO]
theorem Ek {a b c:ByteArray} (h1:tE a b=true) (d:tE b c=true):tE a c=true:=by rw [Cg] at *; exact yU _ _ _ h1 d
theorem D9 (a b:ByteArray):tE a b=true∨a=b∨tE b a=true:=by
 rw [Cg,Cg]
 rcases Dx a.data.toList b.data.toList with h | h | h
 ·exact .inl h
 ·exact .inr (.inl (yr h))
 ·exact .inr (.inr h)
theorem NU {a b:ByteArray} (h:tE a b=true):tE b a=false:=by
 cases d:tE b a with
 | false=>rfl
 | true=>have:=Ek h d; rw [wv] at this; cases this
theorem Xx (P:ByteArray→Prop):DH (λa b=>tE a b=true) P :=
 ⟨λx _ h=>(by rw [wv] at h; cases h),λx y z _ _ _=>Ek,λx y _ _=>D9 x y⟩
def DJ (b:UInt8):Bool:=decide (97≤b.toNat)&&decide (b.toNat≤122)
def FM (b:UInt8):Bool:=DJ b||(decide (48≤b.toNat)&&decide (b.toNat≤57))||decide (b.toNat=45)
def po (s:ByteArray):Bool:=decide (1≤s.size)&&decide (s.size≤16)&&(match s.data.toList with | []=>false | b::_=>DJ b)&&s.data.toList.all FM
theorem oT {s:ByteArray} (h:po s=true):1≤s.size∧s.size≤16:=by
 simp only [po,bn,bH] at h
 exact h.1.1
theorem SF:∀n:Nat,n < 256→decide (Ba (⟨#[97,98,99,100,101,102,103,104,105,106,107,108,109,110,111,112,113,114,115,116,117,118,119,120,121,122]⟩:ByteArray) (n:Int)≥0)=DJ (UInt8.ofNat n):=by decide +kernel
theorem WK:∀n:Nat,n < 256→decide (Ba (⟨#[97,98,99,100,101,102,103,104,105,106,107,108,109,110,111,112,113,114,115,116,117,118,119,120,121,122,48,49,50,51,52,53,54,55,56,57,45]⟩:ByteArray) (n:Int) < 0)=!FM (UInt8.ofNat n):=by decide +kernel
theorem AA (s:ByteArray):s.size=s.data.toList.length:=by rw [dF]; rfl
theorem J4 {s:ByteArray} (h:s.size≤16):Hk s=some (nq s):=by
 unfold Hk; rw [bD (by unfold maxLen; omega)]
theorem Ph:∀l:List UInt8,yE (l.map λb=>(b.toNat:Int))=some (l.all FM)
 | []=>rfl
 | b::l=>by
  rw [aU,yE]
  simp only [uM,rc,aA]
  have hb:=WK b.toNat (jq b)
  rw [hb]
  simp only [jB,gO]
  cases FM b with
  | true=>simp [Ph l]
  | false=>simp
theorem NT {s:ByteArray} {b:UInt8} {l:List UInt8} (h:s.data.toList=b::l):ED s 0=some b:=by
 unfold ED
 rw [bD (Int.le_refl 0)]
 have d:s.data[0]? =some b:=by rw [←ee,h]; rfl
 show s[0]? =some b
 rw [←d]
 rfl
theorem zY (s:ByteArray):uw s=some (po s):=by
 unfold uw
 simp only [GR,aA,pI]
 by_cases h1:1≤s.size
 ·by_cases d:s.size≤16
  ·rw [bD (by simp; omega)]
   obtain ⟨b,l,i⟩:∃b l,s.data.toList=b::l:=by
    cases h:s.data.toList with
    | nil=>rw [AA,h] at h1; simp at h1
    | cons b l=>exact ⟨b,l,rfl⟩
   rw [NT i]
   simp only [aA,uM,rc]
   rw [SF b.toNat (jq b)]
   simp only [jB,po,h1,d,i,bB,dZ]
   cases DJ b with
   | false=>simp
   | true=>
    simp only [aK,Gw,J4 d,aA,nq]
    rw [Ph,i]
    simp
  ·rw [bG (by simp; omega)]
   simp [po,d]
 ·rw [bG (by simp; omega)]
  simp [po,h1]
theorem XJ {s:ByteArray} {A B:List UInt8} {b:UInt8} (h:s.data.toList=A++b::B) (i:Int) (j:i=(A.length:Int)):ED s i=some b:=by
 subst j
 unfold ED
 rw [bD (by omega),dq]
 have d:s.data[A.length]? =some b:=by rw [←ee,h]; simp
 show s[A.length]? =some b
 rw [←d]
 rfl
theorem I2 (s:ByteArray) (L:s.size≤16):∀(B A:List UInt8) (n:Nat),s.data.toList=A++B→B.length < n→wO s n (A.length:Int)=some (B.all FM)
  | [],A,0,_,h=>by simp at h
  | [],A,n+1,h,_=>by
    have:s.size=A.length:=by rw [AA,h]; simp
    rw [wO,bG (by rw [this]; simp)]
    rfl
  | b::B,A,0,_,h=>by simp at h
  | b::B,A,n+1,h,J=>by
    have w:s.size=A.length+B.length+1:=by rw [AA,h]; simp; omega
    rw [wO,bD (by rw [w]; simp; omega)]
    rw [XJ h _ rfl]
    simp only [aA]
    rw [mc (x:=(A.length:Int)+1) (by omega) (by omega)]
    have ih:=I2 s L B (A++[b]) n (by rw [h]; simp) (by simp at J; omega)
    rw [show ((A++[b]).length:Int)=(A.length:Int)+1 by simp] at ih
    simp only [gO]
    have v:∀n:Nat,n < 256→FM (UInt8.ofNat n)=!((decide (n < 97)||decide (n > 122))&&(decide (n < 48)||decide (n > 57))&&decide (n≠45)):=by decide +kernel
    have hb:=v b.toNat (jq b)
    simp only [jB] at hb
    rw [hb]
    by_cases h1:b.toNat < 97 <;> by_cases z:b.toNat > 122 <;> by_cases E:b.toNat < 48 <;> by_cases G:b.toNat > 57 <;> by_cases I:b.toNat=45 <;>
      first
      | omega
      | (have d:((b.toNat:Int) < 97)=(b.toNat < 97):=by rw [fV]; omega
         have i:((b.toNat:Int) > 122)=(b.toNat > 122):=by rw [fV]; omega
         have j:((b.toNat:Int) < 48)=(b.toNat < 48):=by rw [fV]; omega
         have p:((b.toNat:Int) > 57)=(b.toNat > 57):=by rw [fV]; omega
         have u:((b.toNat:Int) != 45)=!decide (b.toNat=45):=by rw [bK]; simp; omega
         simp [h1,z,E,G,I,d,i,j,p,u,ih])
theorem qV (a:ByteArray):lz a a=true:=nE.2 rfl
theorem YG:zS.size=0:=rfl
theorem Xp {s:ByteArray}:s=zS↔s.size=0:=by
 constructor
 ·rintro rfl; rfl
 ·intro h; exact yr (by rw [AA] at h; rw [ez.1 h]; rfl)
theorem B4 (s:ByteArray):vW s=some (po s):=by
 unfold vW
 simp only [UC,aA,pI]
 by_cases i:s.size=0
 ·have:s=zS:=Xp.2 i
  subst this
  rw [qV]
  rfl
 ·have hb:lz s zS=false:=by
   cases h:lz s zS with
   | false=>rfl
   | true=>exact absurd (Xp.1 (nE.1 h)) i
  rw [hb]
  simp only [Bool.false_or]
  by_cases j:s.size≤16
  ·rw [bG (by simp; omega)]
   obtain ⟨b,l,p⟩:∃b l,s.data.toList=b::l:=by
    cases h:s.data.toList with
    | nil=>rw [AA,h] at i; simp at i
    | cons b l=>exact ⟨b,l,rfl⟩
   rw [NT p]
   simp only [aA,UC]
   have u:=I2 s j s.data.toList [] kY rfl (by rw [zy,←AA]; omega)
   simp only [aZ] at u
   rw [show (0:Int)=((0:Nat):Int) from rfl] at *
   rw [u]
   have n:((b.toNat:Int) < 97)=(b.toNat < 97):=by rw [fV]; omega
   have d:((b.toNat:Int) > 122)=(b.toNat > 122):=by rw [fV]; omega
   have h1:1≤s.size:=by omega
   simp only [po,h1,j,p,DJ,bB,dZ,n,d]
   by_cases a:b.toNat < 97
   ·simp [a,show ¬97≤b.toNat by omega]
   ·by_cases c:b.toNat > 122
    ·simp [a,c,show ¬b.toNat≤122 by omega]
    ·simp [a,c,show 97≤b.toNat by omega,show b.toNat≤122 by omega]
  ·rw [bD (by simp; omega)]
   simp [po,j]
def mw (r:ku):Bool:=po r.kw&&po r.Word
theorem zQ (r:ku):rZ r=some (mw r):=by
 unfold rZ mw
 simp only [zY,aA]
 cases po r.kw <;> simp
theorem B5 (r:ku):vX r=some (mw r):=by
 unfold vX mw
 simp only [B4,aA]
 cases po r.kw <;> simp
def wY (a b:ku):Bool:=tE a.kw b.kw||(lz a.kw b.kw&&tE a.Word b.Word)
theorem zO (a b:ku):yy a b=some (wY a b):=by
 unfold yy wY
 cases tE a.kw b.kw <;> cases lz a.kw b.kw <;> simp
theorem RB {a b:ByteArray} (h:a≠b):lz a b=false:=by
 cases d:lz a b with
 | false=>rfl
 | true=>exact absurd (nE.1 d) h
theorem E3 {a b:ku}:wY a b=true↔tE a.kw b.kw=true∨(a.kw=b.kw∧tE a.Word b.Word=true):=by
 simp [wY,nE]
theorem CK (P:ku→Prop):DH (λa b=>wY a b=true) P:=by
 refine ⟨λx _ h=>?_,λx y z _ _ _ h1 d=>?_,λx y _ _=>?_⟩
 ·rw [E3] at h
  simp [wv] at h
 ·rw [E3] at *
  rcases h1 with h1 | ⟨j,h1⟩
  ·rcases d with d | ⟨i,d⟩
   ·exact .inl (Ek h1 d)
   ·exact .inl (by rw [←i]; exact h1)
  ·rcases d with d | ⟨i,d⟩
   ·exact .inl (by rw [j]; exact d)
   ·exact .inr ⟨j.trans i,Ek h1 d⟩
 ·simp only [E3]
  rcases D9 x.kw y.kw with h | h | h
  ·exact .inl (.inl h)
  ·rcases D9 x.Word y.Word with d | d | d
   ·exact .inl (.inr ⟨h,d⟩)
   ·refine .inr (.inl ?_)
    cases x; cases y; simp at h d; simp [h,d]
   ·exact .inr (.inr (.inr ⟨h.symm,d⟩))
  ·exact .inr (.inr (.inl h))
theorem yn (a b:ku):∃c,ov a b=some c∧(c < 0↔wY a b=true):=by
 unfold ov
 simp only [sK,pV,aA,yv,vK]
 have h1:∀a b:ByteArray,(rX a b < 0↔tE a b=true):=λa b=>by rw [Cg]; exact Hb _ _
 have i:∀a b:ByteArray,(rX a b=0↔a=b):=λa b=>by
  unfold rX; rw [KY]; exact ⟨yr,λh=>by rw [h]⟩
 by_cases e:rX a.kw b.kw=0
 ·rw [bG (by simp [e])]
  have e':=(i _ _).1 e
  by_cases d:rX a.Word b.Word=0
  ·rw [bG (by simp [d])]
   refine ⟨0,rfl,?_⟩
   rw [E3,e',(i _ _).1 d]
   simp [wv]
  ·rw [bD (by simp [d])]
   refine ⟨_,rfl,?_⟩
   rw [E3,e',h1]
   simp [wv]
 ·rw [bD (by simp [e])]
  refine ⟨_,rfl,?_⟩
  rw [E3,h1]
  have:a.kw≠b.kw:=λh=>e ((i _ _).2 h)
  simp [this]
def zR:ku:=⟨zS,zS⟩
theorem NN (a b:ByteArray):lz a b=lz b a:=by rw [bK,nE,nE]; exact eq_comm
theorem Jg (a b:ku):kR a b=kR b a:=by rw [bK,lj,lj]; exact eq_comm
theorem Aq (a:ku):kR a a=true:=lj.2 rfl
def mM (c:kv):Bool:=mw c.Head&&(
 if c.Kind==1 then po c.lO&&kR zR c.B&&kR zR c.C&&lz zS c.mg
 else if c.Kind==2 then mw c.B&&lz zS c.lO&&kR zR c.C&&lz zS c.mg
 else if c.Kind==3 then mw c.B&&lz c.B.kw c.Head.kw&&po c.mg&&lz zS c.lO&&kR zR c.C
 else if c.Kind==4 then mw c.B&&mw c.C&&wY c.B c.C&&lz zS c.lO&&lz zS c.mg
 else false)
theorem xT (c:kv):vE c=some (mM c):=by
 unfold vE mM
 simp only [zQ,zY,aA]
 obtain ⟨k,hk,d⟩:=yn c.B c.C
 rw [hk]
 have i:decide (k < 0)=wY c.B c.C:=by rw [bK,←d]; simp
 simp only [aA,i]
 by_cases h1:c.Kind=1
 ·cases mw c.Head <;> cases po c.lO <;> simp [h1,ll,Aq,qV,zR,iw]
 ·by_cases j:c.Kind=2
  ·cases mw c.Head <;> cases mw c.B <;> simp [j,ll,Aq,qV,zR,iw]
  ·by_cases n:c.Kind=3
   ·cases mw c.Head <;> cases mw c.B <;> cases lz c.B.kw c.Head.kw <;> cases po c.mg <;> simp [n,ll,Aq,qV,zR,iw]
   ·by_cases p:c.Kind=4
    ·cases mw c.Head <;> cases mw c.B <;> cases mw c.C <;> cases wY c.B c.C <;> simp [p,ll,Aq,qV,zR,iw]
    ·simp [h1,j,n,p]
theorem Fy (c:kv):BT c=some (mM c):=by
 unfold BT mM
 simp only [B5,B4,zO,aA]
 rw [show (⟨zS,zS⟩:ku)=zR from rfl,Jg c.B zR,Jg c.C zR,NN c.mg zS,NN c.lO zS]
 by_cases h1:c.Kind=1
 ·cases mw c.Head <;> cases po c.lO <;> cases kR zR c.B <;> cases kR zR c.C <;> simp [h1]
 ·by_cases d:c.Kind=2
  ·cases mw c.Head <;> cases mw c.B <;> cases lz zS c.lO <;> cases kR zR c.C <;> simp [d]
  ·by_cases i:c.Kind=3
   ·cases mw c.Head <;> cases mw c.B <;> cases lz zS c.lO <;> cases kR zR c.C <;> cases lz c.B.kw c.Head.kw <;> simp [i]
   ·by_cases j:c.Kind=4
    ·cases mw c.Head <;> cases mw c.B <;> cases lz zS c.lO <;> cases lz zS c.mg <;> cases mw c.C <;> simp [j]
    ·cases mw c.Head <;> cases mw c.B <;> cases lz zS c.lO <;> simp [h1,d,i,j]
theorem ns {α:Type} {b:Nat} {l m:List α} (h:(l.length+m.length)*b≤140737488355328) (d:l.length+m.length≤9223372036854775807):nm b l m=some (l++m):=by
 unfold nm; rw [bD ⟨h,by unfold maxLen; omega⟩]
theorem KZ {l m:List Int} (h:l.length+m.length≤1000000):nm 1 l m=some (l++m):=ns (by omega) (by omega)
def zV (s:ByteArray):List Int:=(s.size:Int)::nq s
def vr (r:ku):List Int:=zV r.kw++zV r.Word
def Dc (c:kv):List Int:=if c.Kind=1 then zV c.lO else if c.Kind=2 then vr c.B else if c.Kind=3 then vr c.B++zV c.mg else vr c.B++vr c.C
def wx (c:kv):List Int:=c.Kind::(vr c.Head++Dc c)
theorem wR (s:ByteArray):(zV s).length=s.size+1:=by simp [zV,ot]
theorem rh {r:ku} (h:mw r=true):(vr r).length≤34:=by
 simp only [mw,bn] at h
 have h1:=oT h.1
 have d:=oT h.2
 simp [vr,wR]; omega
theorem Ci {l:List Int} {n:Int} (d:0≤n) (h1:n < 128) (i:l.length≤100000):qv l n=some (true,l++[n]):=by
 have hw:IntKind.u8.wrap n=n:=by
  obtain ⟨k,rfl⟩:∃k:Nat,n=k:=⟨n.toNat,by omega⟩
  have:∀k:Nat,k < 128→IntKind.u8.wrap (k:Int)=(k:Int):=by decide +kernel
  exact this k (by omega)
 unfold qv
 rw [bG (by simp; omega),my,tg,bG (by simp; omega),hw,KZ (by simp; omega)]
 rfl
theorem JH {l:List Int} {s:ByteArray} (h:po s=true) (d:l.length≤10000):xa l s=some (true,l++zV s):=by
 have h1:=oT h
 unfold xa
 simp only [zY,aA,h,aK,J4 h1.2]
 unfold Bl
 rw [bG (by rw [ot]; simp; omega)]
 rw [ot,Ci (by omega) (by omega) (by omega)]
 simp only [aA]
 rw [KZ (by simp [ot]; omega)]
 simp [zV]
theorem Qn {l:List Int} {r:ku} (h:mw r=true) (i:l.length≤9000):th l r=some (true,l++vr r):=by
 have d:=h
 simp only [mw,bn] at h
 have h1:=oT h.1
 unfold th
 simp only [zQ,aA,d,aK]
 rw [JH h.1 (by omega)]
 simp only [aA,aK]
 rw [JH h.2 (by simp [wR]; omega)]
 simp [vr]
theorem Hf {l:List Int} {r:ku} (h:mw r=true) (d:l.length≤1000):th l r=some (true,l++vr r):=Qn h (by omega)
theorem Bs {c:kv} (h:mM c=true):mw c.Head=true:=by
 simp only [mM,bn] at h; exact h.1
theorem qh {c:kv} (h:mM c=true) :
  (c.Kind=1∧po c.lO=true∧c.B=zR∧c.C=zR∧c.mg=zS)∨
  (c.Kind=2∧mw c.B=true∧c.lO=zS∧c.C=zR∧c.mg=zS)∨
  (c.Kind=3∧mw c.B=true∧po c.mg=true∧c.B.kw=c.Head.kw∧c.lO=zS∧c.C=zR)∨
  (c.Kind=4∧mw c.B=true∧mw c.C=true∧wY c.B c.C=true∧c.lO=zS∧c.mg=zS):=by
 simp only [mM,bn] at h
 obtain ⟨_,h⟩:=h
 split at h
 ·rename_i h1
  simp only [bn,lj,nE] at h
  exact .inl ⟨by simpa using h1,h.1.1.1,h.1.1.2.symm,h.1.2.symm,h.2.symm⟩
 ·split at h
  ·rename_i h1
   simp only [bn,lj,nE] at h
   exact .inr (.inl ⟨by simpa using h1,h.1.1.1,h.1.1.2.symm,h.1.2.symm,h.2.symm⟩)
  ·split at h
   ·rename_i h1
    simp only [bn,lj,nE] at h
    exact .inr (.inr (.inl ⟨by simpa using h1,h.1.1.1.1,h.1.1.2,h.1.1.1.2,h.1.2.symm,h.2.symm⟩))
   ·split at h
    ·rename_i h1
     simp only [bn,lj,nE] at h
     exact .inr (.inr (.inr ⟨by simpa using h1,h.1.1.1.1,h.1.1.1.2,h.1.1.2,h.1.2.symm,h.2.symm⟩))
    ·cases h
theorem Ge (c:kv):An c=some (if mM c then wx c else []):=by
 unfold An
 rw [xT]
 simp only [aA]
 cases h:mM c with
 | false=>simp
 | true=>
  have n:=Bs h
  have p:=rh n
  simp only [cI,aB,aI,aK]
  have hk:0≤c.Kind∧c.Kind < 128:=by rcases qh h with h | h | h | h <;> omega
  rw [Ci hk.1 hk.2 (by simp)]
  simp only [aA]
  rw [Hf n (by simp)]
  simp only [aA,wZ,xF]
  rcases qh h with ⟨k,h1,_⟩ | ⟨k,h1,_⟩ | ⟨k,h1,d,_⟩ | ⟨k,h1,d,_⟩
  ·have i:=oT h1
   simp only [k,bP,aK,JH h1 (show (([]++[(1:Int)])++vr c.Head).length≤10000 by simp; omega),aA]
   rw [KZ (by simp [wR]; omega)]
   simp [wx,Dc,k]
  ·have i:=rh h1
   simp only [k,show ((2:Int)==1)=false from rfl,aB,bP,aK,aI,Hf h1 (show (([]++[(2:Int)])++vr c.Head).length≤1000 by simp; omega),aA]
   rw [KZ (by simp; omega)]
   simp [wx,Dc,k]
  ·have i:=rh h1
   have j:=oT d
   simp only [k,show ((3:Int)==1)=false from rfl,show ((3:Int)==2)=false from rfl,aB,bP,aK,aI,Hf h1 (show (([]++[(3:Int)])++vr c.Head).length≤1000 by simp; omega),aA]
   rw [JH d (by simp; omega)]
   simp only [aA]
   rw [KZ (by simp [wR]; omega)]
   simp [wx,Dc,k]
  ·have i:=rh h1
   have j:=rh d
   simp only [k,show ((4:Int)==1)=false from rfl,show ((4:Int)==2)=false from rfl,show ((4:Int)==3)=false from rfl,aB,bP,aK,aI,Hf h1 (show (([]++[(4:Int)])++vr c.Head).length≤1000 by simp; omega),aA]
   rw [Hf d (by simp; omega)]
   simp only [aA]
   rw [KZ (by simp; omega)]
   simp [wx,Dc,k]
def zM (l:List Int):ByteArray:=⟨(xt l).toArray⟩
theorem yf (l:List Int):(zM l).data.toList=xt l:=rfl
theorem My:∀(l:List Int) (r:ByteArray),(l.foldl (λr n=>r.push (UInt8.ofNat n.toNat)) r).data.toList=r.data.toList++xt l
 | [],r=>by simp [xt]
 | x::l,r=>by
  rw [eY,My l]
  show ((r.data.push _).toList)++_=_
  simp [xt]
theorem Rh (l:List Int):uF l=zM l:=yr (by unfold uF; rw [My]; rfl)
theorem Le (l:List Int):(zM l).size=l.length:=by rw [AA,yf]; simp [xt]
theorem Tc (a b:List Int):xt (a++b)=xt a++xt b:=by simp [xt]
theorem uQ (a b:List Int) (h:a.length+b.length≤1000000):mf (zM a) (zM b)=some (zM (a++b)):=by
 unfold mf
 rw [bG]
 ·congr 1
  refine yr ?_
  rw [yf,Tc,←yf a,←yf b]
  exact ByteArray.toList_data_append▸rfl
 ·rw [Le,Le]
  show ¬(_ > (9223372036854775807:Int))
  omega
theorem HW (s:ByteArray):zM (nq s)=s:=yr (by rw [yf]; simp [xt,nq,gl])
theorem Co {n:Int} (d:0≤n) (h1:n < 128):vi n=some (zM [n]):=by
 have hw:IntKind.u8.wrap n=n:=by
  obtain ⟨k,rfl⟩:∃k:Nat,n=k:=⟨n.toNat,by omega⟩
  have:∀k:Nat,k < 128→IntKind.u8.wrap (k:Int)=(k:Int):=by decide +kernel
  exact this k (by omega)
 unfold vi
 rw [my,Bk,bG (by simp; omega),hw,Rh,show zS=zM [] from rfl,uQ _ _ (by simp)]
 rfl
theorem JF {s:ByteArray} (h:po s=true):yN s=some (zM (zV s)):=by
 have h1:=oT h
 unfold yN
 rw [Co (by omega) (by omega)]
 simp only [aA]
 have:=uQ [(s.size:Int)] (nq s) (by rw [ot]; simp; omega)
 rw [HW] at this
 rw [this]
 simp [zV]
theorem E9 {r:ku} (h:mw r=true):xC r=some (zM (vr r)):=by
 simp only [mw,bn] at h
 have h1:=oT h.1
 have d:=oT h.2
 unfold xC
 rw [JF h.1,JF h.2]
 simp only [aA]
 rw [uQ _ _ (by simp [wR]; omega)]
 rfl
theorem Fw (c:kv):BI c=some (zM (if mM c then wx c else [])):=by
 unfold BI
 rw [Fy]
 simp only [aA]
 cases h:mM c with
 | false=>rfl
 | true=>
  have n:=Bs h
  have p:=rh n
  simp only [cI,aB,aI,aK]
  have hk:0≤c.Kind∧c.Kind < 128:=by rcases qh h with h | h | h | h <;> omega
  unfold H5
  rw [Co hk.1 hk.2,E9 n]
  simp only [aA]
  rw [uQ _ _ (by simp; omega)]
  simp only [aA]
  rcases qh h with ⟨k,h1,_⟩ | ⟨k,h1,_⟩ | ⟨k,h1,d,_⟩ | ⟨k,h1,d,_⟩
  ·have i:=oT h1
   simp only [k,bP,aK,JF h1,aA]
   rw [uQ _ _ (by simp [wR]; omega)]
   simp [wx,Dc,k]
  ·have i:=rh h1
   simp only [k,show ((2:Int)==1)=false from rfl,show ((2:Int)==3)=false from rfl,show ((2:Int)==4)=false from rfl,aB,aI,E9 h1,aA]
   rw [uQ _ _ (by simp; omega)]
   simp [wx,Dc,k]
  ·have i:=rh h1
   have j:=oT d
   simp only [k,show ((3:Int)==1)=false from rfl,show ((3:Int)==4)=false from rfl,aB,bP,aK,aI,E9 h1,aA]
   rw [uQ _ _ (by simp; omega)]
   simp only [aA,JF d]
   rw [uQ _ _ (by simp [wR]; omega)]
   simp [wx,Dc,k]
  ·have i:=rh h1
   have j:=rh d
   simp only [k,show ((4:Int)==1)=false from rfl,show ((4:Int)==3)=false from rfl,aB,bP,aK,aI,E9 h1,aA]
   rw [uQ _ _ (by simp; omega)]
   simp only [aA,E9 d]
   rw [uQ _ _ (by simp; omega)]
   simp [wx,Dc,k]
def Ft (c:kv):List UInt8:=xt (if mM c then wx c else [])
def Be (a b:kv):Bool:=Op.bytesLess (Ft a) (Ft b)
theorem EJ (a b:kv):∃c,px a b=some c∧(c < 0↔Be a b=true):=by
 unfold px
 rw [Ge,Ge]
 exact ⟨_,rfl,Hb _ _⟩
theorem IT (a b:kv):∃c,xR a b=some c∧(c < 0↔Be a b=true):=by
 unfold xR
 rw [Fw,Fw]
 simp only [aA]
 have h:tE (zM (if mM a then wx a else [])) (zM (if mM b then wx b else []))=Be a b:=by rw [Cg]; rfl
 rw [h]
 cases Be a b with
 | true=>exact ⟨_,rfl,by decide⟩
 | false=>
  simp only [aB,aI,Bool.false_or]
  cases d:lz (zM (if mM a then wx a else [])) (zM (if mM b then wx b else [])) with
  | true=>exact ⟨0,by simp,by decide⟩
  | false=>exact ⟨1,by simp,by decide⟩
theorem Z1 {a b:Int} (ha:0≤a∧a < 256) (hb:0≤b∧b < 256) (h:a.toNat.toUInt8=b.toNat.toUInt8):a=b:=by
 have:=bA UInt8.toNat h
 simp only [UInt8.toNat_ofNat',Nat.toUInt8] at this
 simp at this
 omega
theorem RW:∀{a b:List Int},(∀x∈a,0≤x∧x < 256)→(∀x∈b,0≤x∧x < 256)→xt a=xt b→a=b
 | [],[],_,_,_=>rfl
 | [],_::_,_,_,h=>by simp [xt] at h
 | _::_,[],_,_,h=>by simp [xt] at h
 | x::a,y::b,ha,hb,h=>by
  simp only [xt,aU,aY] at h
  rw [Z1 (ha x (by simp)) (hb y (by simp)) h.1,RW (λz d=>ha z (by simp [d])) (λz d=>hb z (by simp [d])) h.2]
theorem DU {s:ByteArray} (h:po s=true):∀x∈zV s,0≤x∧x < 256:=by
 have h1:=oT h
 intro x d
 rcases aP.1 d with rfl | d
 ·omega
 ·simp only [nq,aS] at d
  obtain ⟨b,_,rfl⟩:=d
  have:=jq b
  omega
theorem Bp {r:ku} (h:mw r=true):∀x∈vr r,0≤x∧x < 256:=by
 simp only [mw,bn] at h
 intro x d
 rcases aO.1 d with d | d
 ·exact DU h.1 x d
 ·exact DU h.2 x d
theorem JW {c:kv} (h:mM c=true):∀x∈wx c,0≤x∧x < 256:=by
 intro x d
 rcases aP.1 d with rfl | d
 ·rcases qh h with h | h | h | h <;> omega
 ·rcases aO.1 d with d | d
  ·exact Bp (Bs h) x d
  ·unfold Dc at d
   rcases qh h with ⟨k,h1,_⟩ | ⟨k,h1,_⟩ | ⟨k,h1,i,_⟩ | ⟨k,h1,i,_⟩
   ·rw [bD k] at d; exact DU h1 x d
   ·rw [bG (by omega),bD k] at d; exact Bp h1 x d
   ·rw [bG (by omega),bG (by omega),bD k] at d
    rcases aO.1 d with d | d
    ·exact Bp h1 x d
    ·exact DU i x d
   ·rw [bG (by omega),bG (by omega),bG (by omega)] at d
    rcases aO.1 d with d | d
    ·exact Bp h1 x d
    ·exact Bp i x d
theorem TG {s t:ByteArray} (h:nq s=nq t):s=t:=by rw [←HW s,h,HW]
theorem Gb {s t:ByteArray} {X Y:List Int} (h:zV s++X=zV t++Y):s=t∧X=Y:=by
 simp only [zV,bM,aY] at h
 obtain ⟨h1,d⟩:=h
 have i:(nq s).length=(nq t).length:=by rw [ot,ot]; omega
 have:=List.append_inj d i
 exact ⟨TG this.1,this.2⟩
theorem D7 {a b:ku} {X Y:List Int} (h:vr a++X=vr b++Y):a=b∧X=Y:=by
 simp only [vr,aM] at h
 obtain ⟨h1,i⟩:=Gb h
 obtain ⟨d,j⟩:=Gb i
 exact ⟨by cases a; cases b; simp at h1 d; simp [h1,d],j⟩
theorem Uh {a b:kv} (ha:mM a=true) (hb:mM b=true) (h:wx a=wx b):a=b:=by
 simp only [wx,aY] at h
 obtain ⟨hk,x⟩:=h
 obtain ⟨w,h⟩:=D7 x
 clear x
 have p:∀{X Y:List Int},X=Y→X++[]=Y++[]:=λh=>by rw [h]
 unfold Dc at h
 obtain ⟨M,z,P,I,J,E⟩:=a
 obtain ⟨O,A,Q,bb,L,G⟩:=b
 simp only at hk w h
 subst hk w
 rcases qh ha with ⟨k,h1,i,j,d⟩ | ⟨k,h1,i,j,d⟩ | ⟨k,h1,i,j,d,n⟩ | ⟨k,h1,i,j,d,n⟩ <;>
 rcases qh hb with ⟨k',g1,g2,g3,g4⟩ | ⟨k',g1,g2,g3,g4⟩ | ⟨k',g1,g2,g3,g4,g5⟩ | ⟨k',g1,g2,g3,g4,g5⟩ <;> simp only at k k' i j d g2 g3 g4 <;> (try omega)
 ·rw [bD k,bD k] at h
  simp [Gb (p h),i,j,d,g2,g3,g4]
 ·rw [bG (by omega),bD k,bG (by omega),bD k] at h
  simp [D7 (p h),i,j,d,g2,g3,g4]
 ·rw [bG (by omega),bG (by omega),bD k,bG (by omega),bG (by omega),bD k] at h
  obtain ⟨u,v⟩:=D7 h
  simp only at n g5
  simp [u,Gb (p v),d,n,g4,g5]
 ·rw [bG (by omega),bG (by omega),bG (by omega),bG (by omega),bG (by omega),bG (by omega)] at h
  obtain ⟨u,v⟩:=D7 h
  simp only at n g5
  simp [u,D7 (p v),d,n,g4,g5]
theorem zL:DH (λa b=>Be a b=true) (λc=>mM c=true):=by
 refine ⟨λx _ h=>?_,λx y z _ _ _ h1 j=>yU _ _ _ h1 j,λx y d i=>?_⟩
 ·unfold Be at h; rw [xO] at h; cases h
 ·rcases Dx (Ft x) (Ft y) with h | h | h
  ·exact .inl h
  ·refine .inr (.inl (Uh d i ?_))
   unfold Ft at h
   rw [bD d,bD i] at h
   exact RW (JW d) (JW i) h
  ·exact .inr (.inr h)
section
variable {c:Formula→Formula→Int} {G:Formula→Prop} {f:Formula×Formula→Option Int}
theorem To (x:Formula):(⟨x.Op,x.K,x.ku,x.Kids⟩:Formula)=x:=by cases x; rfl
abbrev pQ (c:Formula→Formula→Int) (x y:Formula):Bool:=decide (c x y < 0)
abbrev G2 (f:Formula×Formula→Option Int) (c:Formula→Formula→Int) (G:Formula→Prop):Prop:=∀x y,G x→G y→f (x,y)=some (c x y)
theorem aaV (O:G2 f c G) (pre:List Formula) (x:Formula) (T:G x):∀(k:Nat) (P S:List Formula) (n:Nat) (j a:Int),P.length=k→k < n→(∀y∈P,G y)→(pre++(P++x::S)).length≤1000000→j=((pre.length+P.length:Nat):Int)→a=(pre.length:Int)→
  ∃P1 P2,P=P1++P2∧nw a f n (pre++(P++x::S)) j=some (pre++(P1++x::(P2++S)))∧(∀P' z,P1=P'++[z]→pQ c x z=false)∧(∀y P',P2=y::P'→pQ c x y=true):=by
 intro k
 induction k with
 | zero=>
  intro P S n j a hk R i w u ha
  obtain rfl:=aJ hk
  obtain ⟨n,rfl⟩:=aF (by omega:n≠0)
  refine ⟨[],[],rfl,?_,by simp,by simp⟩
  rw [nw]
  have:¬(j > a):=by rw [u,ha]; simp
  simp [this]
 | succ k ih=>
  intro P S n j a hk R i w u ha
  rcases cV P with rfl | ⟨P',z,rfl⟩
  ·simp at hk
  simp only [dt,aC,aG,aZ] at hk u w i ⊢
  obtain ⟨n,rfl⟩:=aF (by omega:n≠0)
  have v:j > a:=by omega
  have A:pre++(P'++[z]++x::S)=(pre++P')++z::x::S:=by simp
  have hw:wi0 .i64 (j-1)=((pre.length+P'.length:Nat):Int):=by rw [mc (by omega) (by omega)]; omega
  have i1:lD ((pre++P')++z::x::S) j=some x:=by
   rw [show (pre++P')++z::x::S=(pre++P'++[z])++x::S by simp]
   exact mz _ _ _ _ (by simp; omega)
  have i2:lD ((pre++P')++z::x::S) ((pre.length+P'.length:Nat):Int)=some z:=mz _ _ _ _ (by simp)
  have W:G z:=i z (by simp)
  have M:∀y∈P',G y:=λy U=>i y (by simp [U])
  have Z:j.toNat=pre.length+P'.length+1:=by omega
  rw [nw,A]
  simp only [v,bB,aK,i1,hw,i2,aA,O x z T W]
  by_cases p:c x z < 0
  ·simp only [p,bB,aK]
   have s1:((pre++P')++z::x::S).set j.toNat z=(pre++P')++z::z::S:=by
    have:=El (pre++P'++[z]) S x z j.toNat (by simp; omega)
    simpa only [aM,dM,bM,aW] using this
   have s2:((pre++P')++z::z::S).set (pre.length+P'.length) x=(pre++P')++x::z::S:=by
    exact El (pre++P') (z::S) z x _ (by simp)
   have i3:lD ((pre++P')++z::z::S) ((pre.length+P'.length:Nat):Int)=some z:=mz _ _ _ _ (by simp)
   rw [s1,i3,aA,dq,To,s2]
   have E:(pre++P')++x::z::S=pre++(P'++x::(z::S)):=by simp
   obtain ⟨P1,P2,h1,I,J,L⟩:=ih P' (z::S) n ((pre.length+P'.length:Nat):Int) a (by omega) (by omega) M (by simp; omega) rfl ha
   rw [E,I]
   refine ⟨P1,P2++[z],by rw [h1]; simp,by simp,J,?_⟩
   intro y Q d
   cases P2 with
   | nil=>
    simp only [aW,aY] at d
    rw [←d.1]; simp [pQ,p]
   | cons Y P2=>
    simp only [bM,aY] at d
    rw [←d.1]; exact L Y P2 rfl
  ·simp only [p,bN,aB,aI]
   refine ⟨P'++[z],[],by simp,by simp,?_,by simp⟩
   intro Q y d
   have:=jM d rfl
   simp only [aY,dL] at this
   rw [←this.2]; simp [pQ,p]
theorem Xb (h:SWO (pQ c)) (R:G2 f c G) (pre post:List Formula) (a b:Int) (ha:a=(pre.length:Int)):∀(S t:List (Formula×Nat)) (n:Nat) (i:Int),
  S.length < n→oy (pQ c) t→(∀x∈t,∀y∈S,x.2 < y.2)→S.Pairwise (λx y=>x.2 < y.2)→(∀x∈t++S,G x.1)→(pre++(t.map (·.1)++(S.map (·.1)++post))).length≤1000000→
  i=((pre.length+t.length:Nat):Int)→b=((pre.length+t.length+S.length:Nat):Int)→
  ∃u,mU b a f n (pre++(t.map (·.1)++(S.map (·.1)++post))) i=some (pre++(u.map (·.1)++post))∧oy (pQ c) u∧u.Perm (t++S)
 | [],t,n,i,O,P,h1,Q,J,M,T,hb=>by
  obtain ⟨n,rfl⟩:=aF (by simp at O; omega:n≠0)
  rw [mU]
  simp only [aZ] at hb
  have:¬(i < b):=by omega
  simp only [this,bN,aB,aI]
  exact ⟨t,by simp,P,by simp⟩
 | s::S,t,n,i,O,P,h1,Q,J,M,T,hb=>by
  simp only [aG] at O hb
  obtain ⟨n,rfl⟩:=aF (by omega:n≠0)
  rw [mU]
  have L:i < b:=by omega
  simp only [L,bB,aK]
  have w:=M
  simp only [aC,bT,aG] at w
  obtain ⟨P1,P2,Y,Z,e3,e4⟩:=aaV R pre s.1 (J s (by simp)) (t.map (·.1)).length (t.map (·.1)) (S.map (·.1)++post) kY i a rfl (by rw [my]; simp; omega)
   (λy E=>by obtain ⟨p,hp,rfl⟩:=aS.1 E; exact J p (by simp [hp])) (by simpa using M) (by simp; omega) ha
  simp only [aU,bM]
  rw [Z,aA]
  obtain ⟨t1,t2,rfl,U,W⟩:=iy.1 Y
  have hlen:t1.length+t2.length=(t1++t2).length:=by simp
  have hw:wi0 .i64 (i+1)=((pre.length+(t1++s::t2).length:Nat):Int):=by rw [mc (by omega) (by omega)]; simp at T ⊢; omega
  rw [hw]
  have A:oy (pQ c) (t1++s::t2):=DA h P
   (λA' z b B' v I=>by
    simp only [aY] at I
    rw [←I.1]
    refine .inr ⟨e3 (A'.map (·.1)) z.1 (by rw [←U,v]; simp),h1 z (by rw [v]; simp) s (by simp)⟩)
   (λA' z b B' v I=>by
    have hz:z=s:=by
     cases A' with
     | nil=>simpa using v.symm
     | cons _ A'=>simp at v
    rw [hz]
    exact .inl (e4 b.1 (B'.map (·.1)) (by rw [←W,I]; simp)))
  have j:=bY.1 Q
  have e5:pre++(P1++s.1::(P2++(S.map (·.1)++post)))=pre++((t1++s::t2).map (·.1)++(S.map (·.1)++post)):=by rw [←U,←W]; simp
  rw [e5]
  obtain ⟨u,u1,u2,u3⟩:=Xb h R pre post a b ha S (t1++s::t2) n _ (by omega) A
   (λx d y E=>by
    rcases aO.1 d with d | d
    ·exact h1 x (by simp [d]) y (by simp [E])
    ·rcases aP.1 d with rfl | d
     ·exact j.1 y E
     ·exact h1 x (by simp [d]) y (by simp [E]))
   j.2 (λx d=>J x (by
    simp only [aO,aP] at d ⊢
    rcases d with (d | d | d) | d
    ·exact .inl (.inl d)
    ·exact .inr (.inl d)
    ·exact .inl (.inr d)
    ·exact .inr (.inr d))) (by simp at w ⊢; omega) rfl (by simp at hb ⊢; omega)
  refine ⟨u,u1,u2,u3.trans ?_⟩
  simp only [aM,bM]
  exact bX t1 (List.perm_middle.symm)
theorem R3 (h:SWO (pQ c)) (z:G2 f c G) (pre post:List Formula) (S:List (Formula×Nat)) (a b:Int) (v:S.Pairwise (λx y=>x.2 < y.2)) (w:∀x∈S,G x.1) (p:(pre++(S.map (·.1)++post)).length≤1000000) (ha:a=(pre.length:Int)) (hb:b=((pre.length+S.length:Nat):Int)) :
  ∃u,pa (pre++(S.map (·.1)++post)) a b f=some (pre++(u.map (·.1)++post))∧oy (pQ c) u∧u.Perm S:=by
 unfold pa
 have i:=p
 simp only [aC,bT] at i
 cases S with
 | nil=>
  refine ⟨[],?_,.nil,.nil⟩
  obtain ⟨n,A⟩:=aF (by rw [my]; omega:kY≠0)
  rw [A,mU]
  have:¬(wi0 .i64 (a+1) < b):=by rw [mc (by omega) (by omega)]; simp at hb; omega
  simp [this]
 | cons s S=>
  simp only [aG] at hb i
  have d:=bY.1 v
  obtain ⟨u,I,J,L⟩:=Xb h z pre post a b ha S [s] kY (wi0 .i64 (a+1)) (by rw [my]; omega) (eX _ _) (λx j y E=>by simp at j; rw [j]; exact d.1 y E) d.2
   (λx j=>w x (by simpa using j)) (by simp at p ⊢; omega) (by rw [mc (by omega) (by omega)]; simp; omega) (by simp; omega)
  exact ⟨u,by simpa using I,J,by simpa using L⟩
end
section
variable {c:Formula→Formula→Int} {G:Formula→Prop} {f:Formula×Formula→Option Int}
theorem mI {x:Int} (n:Nat) (h:x=(n:Int)) (d:n≤4000000):wi0 .i64 x=(n:Int):=by rw [h,mc (by omega) (by omega)]
theorem Z3 (p m q:List Formula) (a b N:Int):∀(k:Nat) (X1 X2 Y1 Y2:List Formula) (n:Nat) (i:Int),X2.length=k→Y2.length=k→X1.length=Y1.length→k < n→(p++(Y1++(X2++(m++(X1++(Y2++q)))))).length≤1000000→
  i=(X1.length:Int)→N=((X1.length+k:Nat):Int)→a=(p.length:Int)→b=((p.length+X1.length+k+m.length:Nat):Int)→
  nO N b a n (p++(Y1++(X2++(m++(X1++(Y2++q)))))) i=some (p++((Y1++Y2)++(m++((X1++X2)++q)))):=by
 intro k
 induction k with
 | zero=>
  intro X1 X2 Y1 Y2 n i h1 d E I w G v ha hb
  obtain rfl:=aJ h1
  obtain rfl:=aJ d
  obtain ⟨n,rfl⟩:=aF (by omega:n≠0)
  rw [nO]
  have:¬(i < N):=by omega
  simp [this]
 | succ k ih=>
  intro X1 X2 Y1 Y2 n i h1 d E I w G v ha hb
  cases X2 with
  | nil=>simp at h1
  | cons x X2=>
  cases Y2 with
  | nil=>simp at d
  | cons y Y2=>
  simp only [aG,Nat.add_right_cancel_iff] at h1 d
  obtain ⟨n,rfl⟩:=aF (by omega:n≠0)
  have u:=w
  simp only [aC,aG] at u
  have j:i < N:=by omega
  have J:wi0 .i64 (b+i)=(((p++Y1).length+1+(X2++(m++X1)).length:Nat):Int):=mI _ (by simp; omega) (by simp; omega)
  have L:wi0 .i64 (a+i)=((p++Y1).length:Int):=mI _ (by simp; omega) (by simp; omega)
  have M:wi0 .i64 (i+1)=((X1++[x]).length:Int):=mI _ (by simp; omega) (by simp; omega)
  have z:p++(Y1++(x::X2++(m++(X1++(y::Y2++q)))))=(p++Y1)++x::((X2++(m++X1))++y::(Y2++q)):=by simp
  have i1:lD ((p++Y1)++x::((X2++(m++X1))++y::(Y2++q))) (((p++Y1).length+1+(X2++(m++X1)).length:Nat):Int)=some y:=by
   have:=mz ((p++Y1)++x::(X2++(m++X1))) y (Y2++q) (((p++Y1).length+1+(X2++(m++X1)).length:Nat):Int) (by simp; omega)
   simpa using this
  have i2:lD ((p++Y1)++x::((X2++(m++X1))++y::(Y2++q))) ((p++Y1).length:Int)=some x:=mz _ _ _ _ rfl
  rw [nO,z]
  simp only [j,bB,aK,J,L,i1,i2,aA,dq,M]
  have i3:lD (((p++Y1)++x::((X2++(m++X1))++y::(Y2++q))).set (p++Y1).length y) (((p++Y1).length+1+(X2++(m++X1)).length:Nat):Int)=some y:=by
   rw [EZ]
   have:=mz ((p++Y1)++y::(X2++(m++X1))) y (Y2++q) (((p++Y1).length+1+(X2++(m++X1)).length:Nat):Int) (by simp; omega)
   simpa using this
  rw [i3,aA,To,Fm]
  have A:(p++Y1)++y::((X2++(m++X1))++x::(Y2++q))=p++((Y1++[y])++(X2++(m++((X1++[x])++(Y2++q))))):=by simp
  rw [A,ih (X1++[x]) X2 (Y1++[y]) Y2 n _ h1 d (by simp; omega) (by omega) (by simp; omega) rfl (by rw [v]; simp; omega) ha (by rw [hb]; simp; omega)]
  simp
theorem Sv (p m q X Y:List Formula) (a b N:Int) (h:X.length=Y.length) (i:(p++(X++(m++(Y++q)))).length≤1000000) (j:N=(X.length:Int)) (ha:a=(p.length:Int)) (hb:b=((p.length+X.length+m.length:Nat):Int)) :
  oS (p++(X++(m++(Y++q)))) a b N f=some (p++(Y++(m++(X++q)))):=by
 unfold oS
 have d:=i
 simp only [aC] at d
 have:=Z3 p m q a b N X.length [] X [] Y kY 0 rfl h.symm rfl (by rw [my]; omega) (by simpa using i) rfl (by simpa using j) ha (by rw [hb]; simp)
 simpa using this
theorem aag (M:Int):∀(k:Nat) (A B p q:List Formula) (n:Nat) (i j:Int),A.length+B.length≤k→0 < A.length→0 < B.length→k < n→(p++(A++(B++q))).length≤1000000→i=(A.length:Int)→j=(B.length:Int)→M=((p.length+A.length:Nat):Int)→
  oh M f n (p++(A++(B++q))) i j=some (p++(B++(A++q))):=by
 intro k
 induction k with
 | zero=>intro A B p q n i j h h1 G; omega
 | succ k ih=>
  intro A B p q n i j h h1 G U L u x I
  obtain ⟨n,rfl⟩:=aF (by omega:n≠0)
  have d:=L
  simp only [aC] at d
  rw [oh]
  by_cases he:A.length=B.length
  ·have:(i != j)=false:=by rw [u,x,he]; simp
   simp only [this,aB,aI]
   have v:wi0 .i64 (M-i)=(p.length:Int):=mI _ (by omega) (by omega)
   have:=Sv (f:=f) p [] q A B (p.length:Int) M i he (by simpa using L) u rfl (by rw [I]; simp)
   simp only [aW] at this
   rw [v,this]; rfl
  ·have z:(i != j)=true:=by rw [u,x]; simp; omega
   simp only [z,aK]
   by_cases J:i > j
   ·simp only [J,bB,aK]
    obtain ⟨X,Y,rfl,T⟩:=sN (l:=A) (n:=B.length) (by omega)
    simp only [aC] at u h I d
    have v:wi0 .i64 (M-i)=(p.length:Int):=mI _ (by omega) (by omega)
    have s:=Sv (f:=f) p Y q X B (p.length:Int) M j (by omega) (by simp; omega) (by omega) rfl (by omega)
    have w:p++(X++Y++(B++q))=p++(X++(Y++(B++q))):=by simp
    have E:wi0 .i64 (i-j)=(Y.length:Int):=mI _ (by omega) (by omega)
    rw [w,v,s,aA,E]
    have O:p++(B++(Y++(X++q)))=(p++B)++(Y++(X++q)):=by simp
    rw [O,ih Y X (p++B) q n _ j (by omega) (by omega) (by omega) (by omega) (by simp; omega) rfl (by omega) (by simp; omega)]
    simp
   ·simp only [J,bN,aB,aI]
    obtain ⟨Z,V,rfl,P⟩:=sN (l:=B) (n:=B.length-A.length) (by omega)
    simp only [aC] at x h d P G he
    have v:wi0 .i64 (M-i)=(p.length:Int):=mI _ (by omega) (by omega)
    have Q:wi0 .i64 (M+j)=((p.length+A.length+(Z.length+V.length):Nat):Int):=mI _ (by omega) (by omega)
    have R:wi0 .i64 (((p.length+A.length+(Z.length+V.length):Nat):Int)-i)=((p.length+A.length+Z.length:Nat):Int):=mI _ (by omega) (by omega)
    have s:=Sv (f:=f) p Z q A V (p.length:Int) ((p.length+A.length+Z.length:Nat):Int) i (by omega) (by simp; omega) u rfl rfl
    have w:p++(A++(Z++V++q))=p++(A++(Z++(V++q))):=by simp
    have E:wi0 .i64 (j-i)=(Z.length:Int):=mI _ (by omega) (by omega)
    rw [w,v,Q,R,s,aA,E]
    rw [show p++(V++(Z++(A++q)))=p++(V++(Z++(A++q))) from rfl,ih V Z p (A++q) n i _ (by omega) (by omega) (by omega) (by omega) (by simp; omega) (by omega) rfl (by omega)]
    simp
theorem rot (A B p q:List Formula) (a m b:Int) (h1:0 < A.length) (j:0 < B.length) (i:(p++(A++(B++q))).length≤1000000) (ha:a=(p.length:Int)) (hm:m=((p.length+A.length:Nat):Int)) (hb:b=((p.length+A.length+B.length:Nat):Int)) :
  oI (p++(A++(B++q))) a m b f=some (p++(B++(A++q))):=by
 unfold oI
 have d:=i
 simp only [aC] at d
 rw [mI A.length (by omega) (by omega),mI B.length (by omega) (by omega)]
 exact aag m (A.length+B.length) A B p q kY _ _ (aR _) h1 j (by rw [my]; omega) i rfl rfl hm
end
section
variable {c:Formula→Formula→Int} {G:Formula→Prop} {f:Formula×Formula→Option Int}
theorem zD {x:Int} (n:Nat) (h:x=(n:Int)) (i:n≤4000000):wi0 .i64 (Int.fdiv (IntKind.u64.wrap (wi0 .i64 x)) (2 ^ min (Int.toNat 1) (IntKind.bits .u64)))=((n / 2:Nat):Int):=by
 rw [mI n h i]
 have d:IntKind.u64.wrap (n:Int)=(n:Int):=by
  simp only [IntKind.wrap,IntKind.signed,IntKind.bits]
  simp
  omega
 rw [d,show (2 ^ min (Int.toNat 1) (IntKind.bits .u64):Int)=2 from by decide,Int.fdiv_eq_ediv_of_nonneg _ (by decide),mc (by omega) (by omega)]
 omega
abbrev Ask (a0:List Formula) (f:Formula×Formula→Option Int) (p q:Int) (b:Bool):Prop:=∃x y r,lD a0 p=some x∧lD a0 q=some y∧f (x,y)=some r∧decide (r < 0)=b
theorem bs1 (a0:List Formula) (E:Int) (u:Nat→Bool) (lo p:Nat) (T:p≤1000000) (J:∀h,lo≤h→h < p→Ask a0 f (h:Int) E (u h)):∀(d n i j:Nat),j-i≤d→d < n→lo≤i→i≤j→j≤p→(i=lo∨u (i-1)=true)→(j=p∨u j=false)→
  ∃t W,lo≤t∧t≤p∧(t=lo∨u (t-1)=true)∧(t=p∨u t=false)∧mG a0 E f n (i:Int) (j:Int)=mG a0 E f (W+1) (t:Int) (t:Int):=by
 intro d
 induction d with
 | zero=>
  intro n i j h1 U v Q w z A
  obtain ⟨n,rfl⟩:=aF (by omega:n≠0)
  obtain rfl:i=j:=by omega
  exact ⟨i,n,v,w,z,A,rfl⟩
 | succ d ih=>
  intro n i j h1 U v Q w z A
  obtain ⟨n,rfl⟩:=aF (by omega:n≠0)
  by_cases G:i=j
  ·subst G; exact ⟨i,n,v,w,z,A,rfl⟩
  have R:=zD (i+j) (x:=(i:Int)+(j:Int)) (by omega) (by omega)
  obtain ⟨x,y,r,L,M,O,P⟩:=J ((i+j) / 2) (by omega) (by omega)
  rw [mG]
  have I:((i:Int) < (j:Int)):=by omega
  simp only [I,bB,aK,R,L,M,O,P,aA]
  cases hp:u ((i+j) / 2)
  ·simp only [aB,aI]
   exact ih n i ((i+j) / 2) (by omega) (by omega) v (by omega) (by omega) z (.inr hp)
  ·simp only [aK]
   rw [mI ((i+j) / 2+1) (by omega) (by omega)]
   exact ih n ((i+j) / 2+1) j (by omega) (by omega) (by omega) (by omega) w (.inr (by simpa using hp)) A
theorem bs3 (a0:List Formula) (a2:Int) (u:Nat→Bool) (lo p:Nat) (R:p≤1000000) (I:∀h,lo≤h→h < p→Ask a0 f a2 (h:Int) (!u h)):∀(d n i j:Nat),j-i≤d→d < n→lo≤i→i≤j→j≤p→(i=lo∨u (i-1)=true)→(j=p∨u j=false)→
  ∃t U,lo≤t∧t≤p∧(t=lo∨u (t-1)=true)∧(t=p∨u t=false)∧mH a0 a2 f n (i:Int) (j:Int)=mH a0 a2 f (U+1) (t:Int) (t:Int):=by
 intro d
 induction d with
 | zero=>
  intro n i j h1 T v P w z A
  obtain ⟨n,rfl⟩:=aF (by omega:n≠0)
  obtain rfl:i=j:=by omega
  exact ⟨i,n,v,w,z,A,rfl⟩
 | succ d ih=>
  intro n i j h1 T v P w z A
  obtain ⟨n,rfl⟩:=aF (by omega:n≠0)
  by_cases E:i=j
  ·subst E; exact ⟨i,n,v,w,z,A,rfl⟩
  have Q:=zD (i+j) (x:=(i:Int)+(j:Int)) (by omega) (by omega)
  obtain ⟨x,y,r,J,L,M,O⟩:=I ((i+j) / 2) (by omega) (by omega)
  rw [mH]
  have G:((i:Int) < (j:Int)):=by omega
  simp only [G,bB,aK,Q,J,L,M,O,aA,fe]
  cases hp:u ((i+j) / 2)
  ·simp only [aB,aI]
   exact ih n i ((i+j) / 2) (by omega) (by omega) v (by omega) (by omega) z (.inr hp)
  ·simp only [aK]
   rw [mI ((i+j) / 2+1) (by omega) (by omega)]
   exact ih n ((i+j) / 2+1) j (by omega) (by omega) (by omega) (by omega) w (.inr (by simpa using hp)) A
theorem mv2 (x:Formula):∀(P Q R:List Formula) (n:Nat) (k i:Int),P.length < n→(Q++x::(P++R)).length≤1000000→k=(Q.length:Int)→i=((Q.length+P.length+1:Nat):Int)→nT i n (Q++x::(P++R)) k=some (Q++(P++x::R))
 | [],Q,R,n,k,i,j,p,hk,d=>by
  obtain ⟨n,rfl⟩:=aF (by simp at j; omega:n≠0)
  simp only [aC,aG,aZ] at p d
  rw [nT,mI Q.length (by omega) (by omega)]
  have:¬(k < (Q.length:Int)):=by omega
  simp [this]
 | y::P,Q,R,n,k,i,j,p,hk,d=>by
  obtain ⟨n,rfl⟩:=aF (by simp at j; omega:n≠0)
  simp only [aC,aG] at p d j
  have v:Q++x::(y::P++R)=Q++x::([]++y::(P++R)):=rfl
  have w:wi0 .i64 (k+1)=((Q.length+1+([]:List Formula).length:Nat):Int):=mI _ (by simp; omega) (by simp; omega)
  have i1:lD (Q++x::([]++y::(P++R))) ((Q.length+1+([]:List Formula).length:Nat):Int)=some y:=by
   have:=mz (Q++[x]) y (P++R) ((Q.length+1+([]:List Formula).length:Nat):Int) (by simp)
   simpa using this
  have i2:lD (Q++x::([]++y::(P++R))) k=some x:=mz _ _ _ _ hk
  rw [nT,mI (Q.length+P.length+1) (by omega) (by omega),v]
  have u:k < ((Q.length+P.length+1:Nat):Int):=by omega
  have kn:k.toNat=Q.length:=by omega
  simp only [u,bB,aK,w,i1,i2,aA,kn]
  have i3:lD ((Q++x::([]++y::(P++R))).set Q.length y) ((Q.length+1+([]:List Formula).length:Nat):Int)=some y:=by
   rw [EZ]
   have:=mz (Q++[y]) y (P++R) ((Q.length+1+([]:List Formula).length:Nat):Int) (by simp)
   simpa using this
  rw [i3,aA,dq,To,Fm]
  have:=mv2 x P (Q++[y]) R n ((Q.length+1+([]:List Formula).length:Nat):Int) i (by omega) (by simp; omega) (by simp) (by rw [d]; simp; omega)
  simpa using this
theorem mv4 (x:Formula):∀(k:Nat) (S Q R:List Formula) (n:Nat) (j i:Int),S.length=k→k < n→(Q++(S++x::R)).length≤1000000→j=((Q.length+S.length:Nat):Int)→i=(Q.length:Int)→nQ i n (Q++(S++x::R)) j=some (Q++x::(S++R)):=by
 intro k
 induction k with
 | zero=>
  intro S Q R n j i hk E w d v
  obtain ⟨n,rfl⟩:=aF (by omega:n≠0)
  obtain rfl:=aJ hk
  rw [nQ]
  simp only [aZ,fD] at d
  have:¬(j > i):=by omega
  simp [this]
 | succ k ih=>
  intro S Q R n j i hk E w d v
  obtain ⟨n,rfl⟩:=aF (by omega:n≠0)
  rcases cV S with rfl | ⟨S,z,rfl⟩
  ·simp at hk
  simp only [dt,aC,aG,aZ] at hk d w ⊢
  have A:Q++(S++[z]++x::R)=(Q++S)++z::([]++x::R):=by simp
  have I:wi0 .i64 (j-1)=((Q++S).length:Int):=mI _ (by simp; omega) (by simp; omega)
  have p:j=(((Q++S).length+1+([]:List Formula).length:Nat):Int):=by rw [d]; simp; omega
  have i1:lD ((Q++S)++z::([]++x::R)) j=some x:=by
   have:=mz (Q++S++[z]) x R j (by rw [p]; simp; omega)
   simpa using this
  have i2:lD ((Q++S)++z::([]++x::R)) ((Q++S).length:Int)=some z:=mz _ _ _ _ rfl
  rw [nQ,A]
  have u:j > i:=by omega
  have G:j.toNat=(Q++S).length+1+([]:List Formula).length:=by omega
  simp only [u,bB,aK,I,i1,i2,aA,G]
  have i3:lD (((Q++S)++z::([]++x::R)).set ((Q++S).length+1+([]:List Formula).length) z) ((Q++S).length:Int)=some z:=by
   have:((Q++S)++z::([]++x::R)).set ((Q++S).length+1+([]:List Formula).length) z=(Q++S)++z::(z::R):=by
    have:=El (Q++S++[z]) R x z ((Q++S).length+1+([]:List Formula).length) (by simp; omega)
    simpa using this
   rw [this]; exact mz _ _ _ _ rfl
  rw [i3,aA,dq,To,ND]
  have:=ih S Q (z::R) n ((Q++S).length:Int) i (by omega) (by omega) (by simp; omega) (by simp) v
  simpa using this
end
section
variable {c:Formula→Formula→Int} {G:Formula→Prop} {f:Formula×Formula→Option Int}
theorem bs5 (a0:List Formula) (z a3 a2:Int) (rec:List Formula→Int→Int→Int→((Formula×Formula)→Option Int)→Option (List Formula)) (mid m p:Nat) (A:z+a3=((2*mid:Nat):Int)∨z+a3=((2*mid+1:Nat):Int)) (hm:a2=(m:Int)) (hp:p+1=mid+m) (w:Nat→Bool) (lo u:Nat) (Z:u≤1000000) (a7:mid≤1000000) (a6:mid+m≤2000000) (hle:u≤p+1) (P:∀h,lo≤h→h < u→Ask a0 f ((p-h:Nat):Int) (h:Int) (!w h)):∀(d n i j:Nat),j-i≤d→d < n→lo≤i→i≤j→j≤u→(i=lo∨w (i-1)=true)→(j=u∨w j=false)→
  ∃t n',lo≤t∧t≤u∧(t=lo∨w (t-1)=true)∧(t=u∨w t=false)∧mu a0 z a3 a2 f rec n (i:Int) (j:Int)=mu a0 z a3 a2 f rec (n'+1) (t:Int) (t:Int):=by
 have v:wi0 .i64 (Int.fdiv (IntKind.u64.wrap (wi0 .i64 (z+a3))) (2 ^ min (Int.toNat 1) (IntKind.bits .u64)))=(mid:Int):=by
  rcases A with h | h
  ·rw [zD _ h (by omega),show 2*mid / 2=mid by omega]
  ·rw [zD _ h (by omega),show (2*mid+1) / 2=mid by omega]
 intro d
 induction d with
 | zero=>
  intro n i j h1 hn G W I J L
  obtain ⟨n,rfl⟩:=aF (by omega:n≠0)
  obtain rfl:i=j:=by omega
  exact ⟨i,n,G,I,J,L,rfl⟩
 | succ d ih=>
  intro n i j h1 hn G W I J L
  obtain ⟨n,rfl⟩:=aF (by omega:n≠0)
  by_cases M:i=j
  ·subst M; exact ⟨i,n,G,I,J,L,rfl⟩
  have Y:=zD (i+j) (x:=(i:Int)+(j:Int)) (by omega) (by omega)
  obtain ⟨x,y,r,Q,R,T,U⟩:=P ((i+j) / 2) (by omega) (by omega)
  have w1:wi0 .i64 ((mid:Int)+a2)=((mid+m:Nat):Int):=mI _ (by omega) (by omega)
  have w2:wi0 .i64 (((mid+m:Nat):Int)-1)=(p:Int):=mI _ (by omega) (by omega)
  have w3:wi0 .i64 ((p:Int)-(((i+j) / 2:Nat):Int))=((p-(i+j) / 2:Nat):Int):=mI _ (by omega) (by omega)
  rw [mu]
  have O:((i:Int) < (j:Int)):=by omega
  simp only [O,bB,aK,Y,v,w1,w2,w3,Q,R,T,U,aA,fe]
  cases E:w ((i+j) / 2)
  ·simp only [aB,aI]
   exact ih n i ((i+j) / 2) (by omega) (by omega) G (by omega) (by omega) J (.inr E)
  ·simp only [aK]
   rw [mI ((i+j) / 2+1) (by omega) (by omega)]
   exact ih n ((i+j) / 2+1) j (by omega) (by omega) (by omega) (by omega) I (.inr (by simpa using E)) L
theorem ZW (a0:List Formula) (i a3 a2:Int) (rec:List Formula→Int→Int→Int→((Formula×Formula)→Option Int)→Option (List Formula)) (mid m t n:Nat) (j:i+a3=((2*mid:Nat):Int)∨i+a3=((2*mid+1:Nat):Int)) (hm:a2=(m:Int)) (G:mid≤1000000) (E:mid+m≤2000000) (M:t≤mid+m) :
  mu a0 i a3 a2 f rec (n+1) (t:Int) (t:Int) =
   ((if t < m∧m < mid+m-t then oI a0 (t:Int) a2 ((mid+m-t:Nat):Int) f else some a0).bind λl=>((if i < (t:Int)∧t < mid then rec l i (t:Int) (mid:Int) f else some l).bind λl=>if mid < mid+m-t∧((mid+m-t:Nat):Int) < a3 then rec l (mid:Int) ((mid+m-t:Nat):Int) a3 f else some l)):=by
 have d:wi0 .i64 (Int.fdiv (IntKind.u64.wrap (wi0 .i64 (i+a3))) (2 ^ min (Int.toNat 1) (IntKind.bits .u64)))=(mid:Int):=by
  rcases j with h | h
  ·rw [zD _ h (by omega),show 2*mid / 2=mid by omega]
  ·rw [zD _ h (by omega),show (2*mid+1) / 2=mid by omega]
 have J:wi0 .i64 ((mid:Int)+a2)=((mid+m:Nat):Int):=mI _ (by omega) (by omega)
 have L:wi0 .i64 (((mid+m:Nat):Int)-(t:Int))=((mid+m-t:Nat):Int):=mI _ (by omega) (by omega)
 rw [mu]
 simp only [gP,bN,aB,aI,d,J,L,pI]
 subst hm
 have u:((t:Int) < (m:Int))=(t < m):=by simp
 have v:((m:Int) < ((mid+m-t:Nat):Int))=(m < mid+m-t):=by rw [fV]; omega
 have w:((t:Int) < (mid:Int))=(t < mid):=by simp
 have z:((mid:Int) < ((mid+m-t:Nat):Int))=(mid < mid+m-t):=by rw [fV]; omega
 simp only [u,v,w,z]
 have key:∀(p q:Prop) [Decidable p] [Decidable q] (A B:Option (List Formula)),((if decide p=true then some (decide q) else some false:Option Bool).bind λx=>if x=true then A else B)=if p∧q then A else B:=by
  intro p q _ _ A B
  by_cases hp:p <;> by_cases I:q <;> simp [hp,I]
 simp only [key]
theorem TB (p A q:List Formula) (h:Nat) (i:p.length≤h) (h1:h < p.length+A.length):∃x,A[h-p.length]? =some x∧lD (p++(A++q)) (h:Int)=some x:=by
 obtain ⟨x,d⟩:∃x,A[h-p.length]? =some x:=⟨_,dy (by omega)⟩
 refine ⟨x,d,?_⟩
 rw [GZ,eE i,ft (by omega),d]
end
section
variable {c:Formula→Formula→Int} {G:Formula→Prop} {f:Formula×Formula→Option Int}
theorem Ar {α:Type} {P A':List α} {z:α} (S:List α) (h:P=A'++[z]):(P++S)[P.length-1]? =some z:=by subst h; simp
theorem Ah {α:Type} {S B':List α} {z:α} (P:List α) (h:S=z::B'):(P++S)[P.length]? =some z:=by subst h; simp
theorem Cf {A:List (Formula×Nat)} {i:Nat} {z:Formula×Nat} (h:A[i]? =some z):(A.map (·.1))[i]? =some z.1:=by simp [h]
theorem aaw (h:SWO (pQ c)) (W:G2 f c G) (x:Formula×Nat) (B:List (Formula×Nat)) (pre post:List Formula) (a m b:Int) (Q:oy (pQ c) B) (ht:∀y∈B,x.2 < y.2) (I:∀y∈x::B,G y.1) (Y:(pre++x.1::(B.map (·.1)++post)).length≤400000) (ha:a=(pre.length:Int)) (hm:m=((pre.length+1:Nat):Int)) (hb:b=((pre.length+1+B.length:Nat):Int)) :
  ∃u,mG (pre++x.1::(B.map (·.1)++post)) a f kY m b=some (pre++(u.map (·.1)++post))∧oy (pQ c) u∧u.Perm (x::B):=by
 have w:=Y
 simp only [aC,aG,bT] at w
 let i:Nat→Bool:=λk=>match (B.map (·.1))[k-(pre.length+1)]? with | some y=>pQ c y x.1 | none=>false
 have p:∀k,pre.length+1≤k→k < pre.length+1+B.length→Ask (pre++x.1::(B.map (·.1)++post)) f (k:Int) a (i k):=by
  intro k h1 h2
  obtain ⟨y,A,J⟩:=TB (pre++[x.1]) (B.map (·.1)) post k (by simp; omega) (by simp; omega)
  have L:lD (pre++x.1::(B.map (·.1)++post)) (k:Int)=some y:=by simpa using J
  have M:lD (pre++x.1::(B.map (·.1)++post)) a=some x.1:=mz _ _ _ _ ha
  have hy:G y:=by
   obtain ⟨q,Z,rfl⟩:=aS.1 (cX A)
   exact I q (by simp [Z])
  refine ⟨y,x.1,_,L,M,W y x.1 hy (I x (by simp)),?_⟩
  simp only [aC,aG,aZ] at A
  simp only [i,A]
 obtain ⟨t,n',t1,t2,t3,t4,e⟩:=bs1 (f:=f) _ a i (pre.length+1) (pre.length+1+B.length) (by omega) p B.length kY (pre.length+1) (pre.length+1+B.length) (by omega) (by rw [my]; omega) (aR _) (by omega) (aR _) (.inl rfl) (.inl rfl)
 rw [hm,hb,e,mG]
 simp only [gP,bN,aB,aI,pI]
 obtain ⟨P,S,rfl,R⟩:=sN (l:=B) (n:=t-(pre.length+1)) (by omega)
 simp only [aC] at w t2 t4
 have O:pre++x.1::((P++S).map (·.1)++post)=pre++x.1::(P.map (·.1)++(S.map (·.1)++post)):=by simp
 rw [O,mv2 x.1 (P.map (·.1)) pre (S.map (·.1)++post) kY a (t:Int) (by rw [my]; simp; omega) (by simp; omega) ha (by simp; omega)]
 refine ⟨P++x::S,by simp,DA h Q ?_ ?_,fi⟩
 ·intro A' z E B' j d
  simp only [aY] at d
  rw [←d.1]
  have T:0 < P.length:=by rw [j]; simp
  have hp:i (t-1)=true:=by
   rcases t3 with t3 | t3
   ·omega
   ·exact t3
  have v:=Cf (Ar S j)
  rw [show P.length-1=t-1-(pre.length+1) by omega] at v
  simp only [i,v] at hp
  exact .inl hp
 ·intro A' z E B' j d
  have hz:z=x:=by
   cases A' with
   | nil=>simpa using j.symm
   | cons _ A'=>simp at j
  rw [hz]
  have U:0 < S.length:=by rw [d]; simp
  have hp:i t=false:=by
   rcases t4 with t4 | t4
   ·omega
   ·exact t4
  have v:=Cf (Ah P d)
  rw [R] at v
  simp only [i,v] at hp
  exact .inr ⟨hp,ht E (by rw [d]; simp)⟩
theorem aaH (h:SWO (pQ c)) (W:G2 f c G) (y:Formula×Nat) (A:List (Formula×Nat)) (pre post:List Formula) (a m:Int) (Q:oy (pQ c) A) (ht:∀x∈A,x.2 < y.2) (I:∀x∈y::A,G x.1) (Y:(pre++(A.map (·.1)++y.1::post)).length≤400000) (ha:a=(pre.length:Int)) (hm:m=((pre.length+A.length:Nat):Int)) :
  ∃u,mH (pre++(A.map (·.1)++y.1::post)) m f kY a m=some (pre++(u.map (·.1)++post))∧oy (pQ c) u∧u.Perm (A++[y]):=by
 have w:=Y
 simp only [aC,aG,bT] at w
 let j:Nat→Bool:=λk=>match (A.map (·.1))[k-pre.length]? with | some x=>!pQ c y.1 x | none=>false
 have p:∀k,pre.length≤k→k < pre.length+A.length→Ask (pre++(A.map (·.1)++y.1::post)) f m (k:Int) (!j k):=by
  intro k h1 h2
  obtain ⟨x,E,L⟩:=TB pre (A.map (·.1)) (y.1::post) k h1 (by simp; omega)
  have M:lD (pre++(A.map (·.1)++y.1::post)) m=some y.1:=by
   have:=mz (pre++A.map (·.1)) y.1 post m (by rw [hm]; simp)
   simpa using this
  have hx:G x:=by
   obtain ⟨q,Z,rfl⟩:=aS.1 (cX E)
   exact I q (by simp [Z])
  refine ⟨y.1,x,_,M,L,W y.1 x (I y (by simp)) hx,?_⟩
  simp only [j,E,fe]
 obtain ⟨t,n',t1,t2,t3,t4,e⟩:=bs3 (f:=f) _ m j pre.length (pre.length+A.length) (by omega) p A.length kY pre.length (pre.length+A.length) (by omega) (by rw [my]; omega) (aR _) (by omega) (aR _) (.inl rfl) (.inl rfl)
 rw [←hm,←ha] at e
 rw [e,mH]
 simp only [gP,bN,aB,aI,pI]
 obtain ⟨P,S,rfl,R⟩:=sN (l:=A) (n:=t-pre.length) (by omega)
 simp only [aC] at w t2 t4 hm
 have O:pre++((P++S).map (·.1)++y.1::post)=(pre++P.map (·.1))++(S.map (·.1)++y.1::post):=by simp
 rw [O,mv4 y.1 S.length (S.map (·.1)) (pre++P.map (·.1)) post kY m (t:Int) (by simp) (by rw [my]; omega) (by simp; omega) (by rw [hm]; simp; omega) (by simp; omega)]
 refine ⟨P++y::S,by simp,DA h Q ?_ ?_,List.perm_middle.trans (fp y (P++S)).symm⟩
 ·intro A' z J B' d i
  simp only [aY] at i
  rw [←i.1]
  have T:0 < P.length:=by rw [d]; simp
  have hp:j (t-1)=true:=by
   rcases t3 with t3 | t3
   ·omega
   ·exact t3
  have v:=Cf (Ar S d)
  rw [show P.length-1=t-1-pre.length by omega] at v
  simp only [j,v,eW] at hp
  exact .inr ⟨hp,ht z (by rw [d]; simp)⟩
 ·intro A' z J B' d i
  have hz:z=y:=by
   cases A' with
   | nil=>simpa using d.symm
   | cons _ A'=>simp at d
  rw [hz]
  have U:0 < S.length:=by rw [i]; simp
  have hp:j t=false:=by
   rcases t4 with t4 | t4
   ·omega
   ·exact t4
  have v:=Cf (Ah P i)
  rw [R] at v
  simp only [j,v,gW] at hp
  exact .inl hp
theorem ON {α:Type} {A1 A2 B1 B2 C1 C2:List α} (d:C1.Perm (A1++B1)) (i:C2.Perm (A2++B2)):(C1++C2).Perm ((A1++A2)++(B1++B2)):=by
 refine (d.append i).trans ?_
 simp only [aM]
 refine bX A1 ?_
 exact gn B1 A2 B2
def Xw (c:Formula→Formula→Int) (A B:List Formula) (d i p q:Nat):Bool:=match A[q-d]?,B[p-q-i]? with | some x,some y=>!pQ c y x | _,_=>false
theorem OM {A B:List Formula} {d i p q:Nat} {x y:Formula} (h1:A[q-d]? =some x) (j:B[p-q-i]? =some y):Xw c A B d i p q=!pQ c y x:=by simp only [Xw,h1,j]
theorem aaY (I:G2 f c G) (A B:List (Formula×Nat)) (pre post:List Formula) (d p:Nat) (J:d=pre.length+A.length) (u:∀x∈A++B,G x.1) (q:Nat) (O:pre.length≤q) (P:q < d) (Q:d≤p-q) (R:p-q < d+B.length) :
  Ask (pre++(A.map (·.1)++(B.map (·.1)++post))) f ((p-q:Nat):Int) (q:Int) (!Xw c (A.map (·.1)) (B.map (·.1)) pre.length d p q):=by
 obtain ⟨x,n,v⟩:=TB pre (A.map (·.1)) (B.map (·.1)++post) q O (by simp; omega)
 obtain ⟨y,i,w⟩:=TB (pre++A.map (·.1)) (B.map (·.1)) post (p-q) (by simp; omega) (by simp; omega)
 have L:G x:=by
  obtain ⟨z,j,rfl⟩:=aS.1 (cX n)
  exact u z (by simp [j])
 have M:G y:=by
  obtain ⟨z,j,rfl⟩:=aS.1 (cX i)
  exact u z (by simp [j])
 have E:lD (pre++(A.map (·.1)++(B.map (·.1)++post))) ((p-q:Nat):Int)=some y:=by simpa using w
 refine ⟨y,x,_,E,v,I y x M L,?_⟩
 rw [show p-q-(pre++A.map (·.1)).length=p-q-d by simp; omega] at i
 rw [OM n i,fe]
abbrev Mer (c:Formula→Formula→Int) (G:Formula→Prop) (f:Formula×Formula→Option Int) (rec:List Formula→Int→Int→Int→((Formula×Formula)→Option Int)→Option (List Formula)) (k:Nat):Prop :=
 ∀(A B:List (Formula×Nat)) (pre post:List Formula) (a m b:Int),A.length+B.length≤k→0 < A.length→0 < B.length→oy (pQ c) A→oy (pQ c) B→
  (∀x∈A,∀y∈B,x.2 < y.2)→(∀x∈A++B,G x.1)→(pre++(A.map (·.1)++(B.map (·.1)++post))).length≤400000→a=(pre.length:Int)→m=((pre.length+A.length:Nat):Int)→b=((pre.length+A.length+B.length:Nat):Int)→
  ∃u,rec (pre++(A.map (·.1)++(B.map (·.1)++post))) a m b f=some (pre++(u.map (·.1)++post))∧oy (pQ c) u∧u.Perm (A++B)
theorem ZK (h:SWO (pQ c)) {rec:List Formula→Int→Int→Int→((Formula×Formula)→Option Int)→Option (List Formula)} {k:Nat} (ih:Mer c G f rec k) (A1 A2 B1 B2:List (Formula×Nat)) (pre post:List Formula) (a m b:Int) (mid d t:Nat) (U:d=pre.length+(A1.length+A2.length)) (Y:mid=(pre.length+(d+(B1.length+B2.length))) / 2) (R:A1.length=t-pre.length) (T:B1.length=mid-t) (Z:pre.length≤t) (a1:t≤mid) (a6:t≤d) (hk:A1.length+A2.length+(B1.length+B2.length)≤k+1) (W:2≤A1.length+A2.length+(B1.length+B2.length)) (v:oy (pQ c) (A1++A2)) (w:oy (pQ c) (B1++B2)) (Q:∀x∈A1++A2,∀y∈B1++B2,x.2 < y.2) (P:∀x∈(A1++A2)++(B1++B2),G x.1) (hl:pre.length+(A1.length+A2.length+(B1.length+B2.length+post.length))≤400000) (ha:a=(pre.length:Int)) (hm:m=(d:Int)) (hb:b=((d+(B1.length+B2.length):Nat):Int)) (l1:Lk (pQ c) A1 B2) (l2:Lk (pQ c) B1 A2) :
  ∃u,((if t < d∧d < mid+d-t then oI (pre++((A1++A2).map (·.1)++((B1++B2).map (·.1)++post))) (t:Int) m ((mid+d-t:Nat):Int) f else some (pre++((A1++A2).map (·.1)++((B1++B2).map (·.1)++post)))).bind λl=>
   ((if a < (t:Int)∧t < mid then rec l a (t:Int) (mid:Int) f else some l).bind λl=>if mid < mid+d-t∧((mid+d-t:Nat):Int) < b then rec l (mid:Int) ((mid+d-t:Nat):Int) b f else some l))=some (pre++(u.map (·.1)++post))∧oy (pQ c) u∧u.Perm ((A1++A2)++(B1++B2)):=by
 have r1:(if t < d∧d < mid+d-t then oI (pre++((A1++A2).map (·.1)++((B1++B2).map (·.1)++post))) (t:Int) m ((mid+d-t:Nat):Int) f else some (pre++((A1++A2).map (·.1)++((B1++B2).map (·.1)++post)))) =
   some (pre++(A1.map (·.1)++(B1.map (·.1)++(A2.map (·.1)++(B2.map (·.1)++post))))):=by
  by_cases j:t < d∧d < mid+d-t
  ·rw [bD j]
   have:=rot (f:=f) (A2.map (·.1)) (B1.map (·.1)) (pre++A1.map (·.1)) (B2.map (·.1)++post) (t:Int) m ((mid+d-t:Nat):Int) (by simp; omega) (by simp; omega) (by simp; omega) (by simp; omega) (by simp; omega) (by simp; omega)
   simpa using this
  ·rw [bG j]
   have:A2=[]∨B1=[]:=by
    by_cases h1:A2.length=0
    ·exact .inl (aJ h1)
    ·exact .inr (aJ (by omega))
   rcases this with rfl | rfl <;> simp
 rw [r1,aA]
 have r2:∃C1,(if a < (t:Int)∧t < mid then rec (pre++(A1.map (·.1)++(B1.map (·.1)++(A2.map (·.1)++(B2.map (·.1)++post))))) a (t:Int) (mid:Int) f else some (pre++(A1.map (·.1)++(B1.map (·.1)++(A2.map (·.1)++(B2.map (·.1)++post)))))) =
   some (pre++(C1.map (·.1)++(A2.map (·.1)++(B2.map (·.1)++post))))∧oy (pQ c) C1∧C1.Perm (A1++B1):=by
  by_cases j:a < (t:Int)∧t < mid
  ·rw [bD j]
   exact ih A1 B1 pre (A2.map (·.1)++(B2.map (·.1)++post)) a t mid (by omega) (by omega) (by omega) v.left w.left (λx i y L=>Q x (by simp [i]) y (by simp [L])) (λx i=>P x (by simp at i ⊢; rcases i with i | i <;> simp [i]))
    (by simp; omega) ha (by omega) (by omega)
  ·rw [bG j]
   refine ⟨A1++B1,by simp,Hq h v.left w.left (λA' x y B' M O=>?_),.refl _⟩
   have g1:0 < A1.length:=by rw [M]; simp
   have g2:0 < B1.length:=by rw [O]; simp
   omega
 obtain ⟨C1,z,E,n⟩:=r2
 have A:=n.length_eq
 simp only [aC] at A
 rw [z,aA]
 have r3:∃C2,(if mid < mid+d-t∧((mid+d-t:Nat):Int) < b then rec (pre++(C1.map (·.1)++(A2.map (·.1)++(B2.map (·.1)++post)))) (mid:Int) ((mid+d-t:Nat):Int) b f else some (pre++(C1.map (·.1)++(A2.map (·.1)++(B2.map (·.1)++post))))) =
   some ((pre++C1.map (·.1))++(C2.map (·.1)++post))∧oy (pQ c) C2∧C2.Perm (A2++B2):=by
  by_cases j:mid < mid+d-t∧((mid+d-t:Nat):Int) < b
  ·rw [bD j]
   have:=ih A2 B2 (pre++C1.map (·.1)) post mid ((mid+d-t:Nat):Int) b (by omega) (by omega) (by omega) v.right w.right (λx i y L=>Q x (by simp [i]) y (by simp [L])) (λx i=>P x (by simp at i ⊢; rcases i with i | i <;> simp [i]))
    (by simp; omega) (by simp; omega) (by simp; omega) (by simp; omega)
   simpa using this
  ·rw [bG j]
   refine ⟨A2++B2,by simp,Hq h v.right w.right (λA' x y B' M O=>?_),.refl _⟩
   have g1:0 < A2.length:=by rw [M]; simp
   have g2:0 < B2.length:=by rw [O]; simp
   omega
 obtain ⟨C2,I,J,p⟩:=r3
 rw [I]
 exact ⟨C1++C2,by simp,Sd h v w l1 l2 n p E J,ON n p⟩
theorem VK (F:Nat) (U:1000000 < F) (L:List Formula) (rec:List Formula→Int→Int→Int→((Formula×Formula)→Option Int)→Option (List Formula)) (pl i j mid d p:Nat) (a b m:Int) (A:Nat→Bool) (J:0 < i) (M:0 < j) (Q:pl+(i+j)≤400000) (P:mid=(pl+(pl+i+j)) / 2) (O:d=pl+i) (hp:p+1=mid+d) (w:a+b=((2*mid:Nat):Int)∨a+b=((2*mid+1:Nat):Int)) (ha:a=(pl:Int)) (v:m=(d:Int)) (hb:b=((pl+i+j:Nat):Int)) (n:∀q,pl≤q→q < d→d≤p-q→p-q < d+j→Ask L f ((p-q:Nat):Int) (q:Int) (!A q)) :
  ∃t z lo E:Nat,(lo=pl∧E=d∧d≤mid∨lo+(pl+i+j)=mid+d∧E=mid∧mid < d)∧lo≤t∧t≤E∧(t=lo∨A (t-1)=true)∧(t=E∨A t=false)∧
    ((if decide (m > (mid:Int)) then some (wi0 .i64 (((mid+d:Nat):Int)-b),(mid:Int)) else some (a,m):Option (Int×Int)).bind λx=>mu L a b m f rec F x.1 x.2) =
     mu L a b m f rec (z+1) (t:Int) (t:Int):=by
 by_cases I:mid < d
 ·obtain ⟨lo,G⟩:∃lo:Nat,lo+(pl+i+j)=mid+d:=⟨mid+d-(pl+i+j),by omega⟩
  obtain ⟨t,z,t1,t2,t3,t4,e⟩:=bs5 (f:=f) L a b m rec mid d p w v hp A lo mid (by omega) (by omega) (by omega) (by omega) (λq R T=>n q (by omega) (by omega) (by omega) (by omega))
   (mid-lo) F lo mid (aR _) (by omega) (aR _) (by omega) (aR _) (.inl rfl) (.inl rfl)
  refine ⟨t,z,lo,mid,.inr ⟨G,rfl,I⟩,t1,t2,t3,t4,?_⟩
  have u:m > (mid:Int):=by omega
  simp only [u,bB,aK,aA]
  rw [mI lo (by omega) (by omega),e]
 ·obtain ⟨t,z,t1,t2,t3,t4,e⟩:=bs5 (f:=f) L a b m rec mid d p w v hp A pl d (by omega) (by omega) (by omega) (by omega) (λq R T=>n q (by omega) (by omega) (by omega) (by omega))
   (d-pl) F pl d (aR _) (by omega) (aR _) (by omega) (aR _) (.inl rfl) (.inl rfl)
  refine ⟨t,z,pl,d,.inl ⟨rfl,rfl,by omega⟩,t1,t2,t3,t4,?_⟩
  have u:¬(m > (mid:Int)):=by omega
  simp only [u,bN,aB,aI,aA]
  rw [←e,←ha,←v]
set_option maxHeartbeats 2000000 in
theorem aa1 (h:SWO (pQ c)) (hf:G2 f c G):∀(k:Nat) (A B:List (Formula×Nat)) (pre post:List Formula) (n:Nat) (a m b:Int),A.length+B.length≤k→0 < A.length→0 < B.length→k < n→oy (pQ c) A→oy (pQ c) B→
  (∀x∈A,∀y∈B,x.2 < y.2)→(∀x∈A++B,G x.1)→(pre++(A.map (·.1)++(B.map (·.1)++post))).length≤400000→a=(pre.length:Int)→m=((pre.length+A.length:Nat):Int)→b=((pre.length+A.length+B.length:Nat):Int)→
  ∃u,mW n (pre++(A.map (·.1)++(B.map (·.1)++post))) a m b f=some (pre++(u.map (·.1)++post))∧oy (pQ c) u∧u.Perm (A++B):=by
 intro k
 induction k with
 | zero=>intro A B pre post n a m b h0 h1 h2; omega
 | succ k ih=>
  intro A B pre post n a m b h0 h1 h2 hn hA hB Z Y hl ha hm hb
  obtain ⟨n,rfl⟩:=aF (by omega:n≠0)
  have T:=hl
  simp only [aC,bT] at T
  rw [mW]
  unfold rM
  by_cases c1:A.length=1
  ·obtain ⟨x,rfl⟩:=fW.1 c1
   have:(wi0 .i64 (m-a)==1)=true:=by rw [mI 1 (by simp at hm; omega) (by omega)]; rfl
   simp only [this,aK]
   obtain ⟨u,u1,u2,u3⟩:=aaw h hf x B pre post a m b hB (λy hy=>Z x (by simp) y hy) (λy hy=>Y y (by simpa using hy)) (by simpa using hl) ha (by simpa using hm) (by simpa using hb)
   exact ⟨u,by simpa using u1,u2,by simpa using u3⟩
  have n1:(wi0 .i64 (m-a)==1)=false:=by rw [mI A.length (by omega) (by omega)]; simp; omega
  simp only [n1,aB,aI]
  by_cases c2:B.length=1
  ·obtain ⟨y,rfl⟩:=fW.1 c2
   have:(wi0 .i64 (b-m)==1)=true:=by rw [mI 1 (by simp at hb; omega) (by omega)]; rfl
   simp only [this,aK]
   obtain ⟨u,u1,u2,u3⟩:=aaH h hf y A pre post a m hA (λx hx=>Z x hx y (by simp)) (λx hx=>Y x (by simp at hx ⊢; exact hx.symm)) (by simpa using hl) ha hm
   exact ⟨u,by simpa using u1,u2,u3⟩
  have n2:(wi0 .i64 (b-m)==1)=false:=by rw [mI B.length (by omega) (by omega)]; simp; omega
  simp only [n2,aB,aI]
  obtain ⟨F,hF,a6⟩:∃F,F=kY∧1000000 < F:=⟨kY,rfl,by rw [my]; omega⟩
  rw [←hF]
  obtain ⟨mid,M⟩:∃mid:Nat,mid=(pre.length+(pre.length+A.length+B.length)) / 2:=⟨_,rfl⟩
  obtain ⟨d,v⟩:∃d:Nat,d=pre.length+A.length:=⟨_,rfl⟩
  obtain ⟨p,hp⟩:∃p:Nat,p+1=mid+d:=⟨mid+d-1,by omega⟩
  have J:a+b=((2*mid:Nat):Int)∨a+b=((2*mid+1:Nat):Int):=by omega
  have O:wi0 .i64 (Int.fdiv (IntKind.u64.wrap (wi0 .i64 (a+b))) (2 ^ min (Int.toNat 1) (IntKind.bits .u64)))=(mid:Int):=by
   rcases J with h | h
   ·rw [zD _ h (by omega),show 2*mid / 2=mid by omega]
   ·rw [zD _ h (by omega),show (2*mid+1) / 2=mid by omega]
  have L:m=(d:Int):=by omega
  have w1:wi0 .i64 ((mid:Int)+m)=((mid+d:Nat):Int):=mI _ (by omega) (by omega)
  obtain ⟨P,w⟩:∃P:Nat→Bool,P=Xw c (A.map (·.1)) (B.map (·.1)) pre.length d p:=⟨_,rfl⟩
  have R:∀q,pre.length≤q→q < d→d≤p-q→p-q < d+B.length→Ask (pre++(A.map (·.1)++(B.map (·.1)++post))) f ((p-q:Nat):Int) (q:Int) (!P q):=λq i j q3 q4=>by rw [w]; exact aaY hf A B pre post d p v Y q i j q3 q4
  obtain ⟨t,n',lo,hi,a7,t1,t2,t3,t4,e⟩:=VK (f:=f) F a6 (pre++(A.map (·.1)++(B.map (·.1)++post))) (mW n) pre.length A.length B.length mid d p a b m P (by omega) (by omega) (by omega) M v hp J ha L hb R
  simp only [O,w1]
  rw [e,ZW (f:=f) _ a b m _ mid d t n' J L (by omega) (by omega) (by omega)]
  obtain ⟨A1,A2,rfl,Q⟩:=sN (l:=A) (n:=t-pre.length) (by omega)
  obtain ⟨B1,B2,rfl,a1⟩:=sN (l:=B) (n:=mid-t) (by omega)
  simp only [aC] at h0 h1 h2 T t1 t2 t3 t4 a7 hm hb v M
  have U:∀q x y,((A1++A2).map (·.1))[q-pre.length]? =some x→((B1++B2).map (·.1))[p-q-d]? =some y→P q=!pQ c y x:=λq x y E I=>by rw [w]; exact OM E I
  have l1:Lk (pQ c) A1 B2:=by
   intro A' z b' B' i j
   have g1:0 < A1.length:=by rw [i]; simp
   have g2:0 < B2.length:=by rw [j]; simp
   have W:P (t-1)=true:=by
    rcases t3 with t3 | t3
    ·omega
    ·exact t3
   have E:=Cf (Ar A2 i)
   have I:=Cf (Ah B1 j)
   rw [show A1.length-1=t-1-pre.length by omega] at E
   rw [show B1.length=p-(t-1)-d by omega] at I
   rw [U _ _ _ E I,eW] at W
   exact .inr ⟨W,Z z (by rw [i]; simp) b' (by rw [j]; simp)⟩
  have l2:Lk (pQ c) B1 A2:=by
   intro A' z b' B' i j
   have g1:0 < B1.length:=by rw [i]; simp
   have g2:0 < A2.length:=by rw [j]; simp
   have W:P t=false:=by
    rcases t4 with t4 | t4
    ·omega
    ·exact t4
   have E:=Cf (Ar B2 i)
   have I:=Cf (Ah A1 j)
   rw [show B1.length-1=p-t-d by omega] at E
   rw [Q] at I
   rw [U _ _ _ I E,gW] at W
   exact .inl W
  exact ZK h (λA B pre post a m b i j q3=>ih A B pre post n a m b i j q3 (by omega)) A1 A2 B1 B2 pre post a m b mid d t v (by rw [M]; congr 1; omega) Q a1 (by omega) (by omega) (by omega) (by omega) (by omega) hA hB Z Y (by omega) ha L (by rw [hb]; congr 1; omega) l1 l2
end
section
variable {c:Formula→Formula→Int} {G:Formula→Prop} {f:Formula×Formula→Option Int}
def Bf (c:Formula→Formula→Int):Nat→List (List (Formula×Nat))→Prop
 | _,[]=>True
 | o,A::bs=>oy (pQ c) A∧(∀x∈A,o≤x.2∧x.2 < o+A.length)∧Bf c (o+A.length) bs
def WB (s:Nat):List (List (Formula×Nat))→Prop
 | []=>True
 | A::bs=>A.length≤s∧(bs≠[]→A.length=s)∧WB s bs
theorem Bf.append:∀{ds bs:List (List (Formula×Nat))} {o:Nat},Bf c o (ds++bs)↔Bf c o ds∧Bf c (o+ds.flatten.length) bs
 | [],bs,o=>by simp [Bf]
 | A::ds,bs,o=>by
  simp only [bM,Bf,Bf.append (ds:=ds),aV,aC,and_assoc,ew]
def fm (bs:List (List (Formula×Nat))):List Formula:=bs.flatten.map (·.1)
theorem NW (a b:List (List (Formula×Nat))):fm (a++b)=fm a++fm b:=by simp [fm]
theorem RL (A:List (Formula×Nat)) (b:List (List (Formula×Nat))):fm (A::b)=A.map (·.1)++fm b:=by simp [fm]
theorem uB (a:List (List (Formula×Nat))):(fm a).length=a.flatten.length:=by unfold fm; rw [bT]
theorem U7 (ds:List (List (Formula×Nat))) (C:List (Formula×Nat)):(ds++[C]).flatten.length=ds.flatten.length+C.length:=by rw [bW,aC]; simp only [aV,cK,aT]
theorem ZB (C:List (Formula×Nat)) (bs:List (List (Formula×Nat))):fm ([C]++bs)=C.map (·.1)++fm bs:=by simp [fm]
theorem JJ {R:List Formula} {o:Nat} {x:Formula×Nat} (h:x∈R.zipIdx o):x.1∈R:=gq h
theorem WB.two {s:Nat} {A:List (Formula×Nat)} {bs:List (List (Formula×Nat))} (j:0 < s) (h:WB s (A::bs)) (i:s < (A::bs).flatten.length):A.length=s∧∃B d,bs=B::d∧(B.length=s∨d=[])∧B.length≤s∧WB s d:=by
 cases bs with
 | nil=>simp at i; have:=h.1; omega
 | cons B d=>
  refine ⟨h.2.1 (by simp),B,d,rfl,?_,h.2.2.1,h.2.2.2.2⟩
  by_cases hb:d=[]
  ·exact .inr hb
  ·exact .inl (h.2.2.2.1 hb)
theorem Qc (h:SWO (pQ c)) (J:G2 f c G) {ds bs:List (List (Formula×Nat))} {A B:List (Formula×Nat)} (hO:Bf c 0 (ds++A::B::bs)) (I:∀x∈(ds++A::B::bs).flatten,G x.1) (j:(fm (ds++A::B::bs)).length≤400000) (z:0 < A.length) (E:0 < B.length) (a m b:Int) (ha:a=(ds.flatten.length:Int)) (hm:m=((ds.flatten.length+A.length:Nat):Int)) (hb:b=((ds.flatten.length+A.length+B.length:Nat):Int)) :
  ∃C,mW kY (fm (ds++A::B::bs)) a m b f=some (fm ((ds++[C])++bs))∧Bf c 0 ((ds++[C])++bs)∧C.Perm (A++B):=by
 obtain ⟨h1,w⟩:=Bf.append.1 hO
 obtain ⟨Q,u,R,v,L⟩:=w
 have e:fm (ds++A::B::bs)=fm ds++(A.map (·.1)++(B.map (·.1)++fm bs)):=by rw [NW,RL,RL]
 rw [e] at j ⊢
 have n:=j
 simp only [aC,bT,uB] at n
 obtain ⟨C,O,P,p⟩:=aa1 h J (A.length+B.length) A B (fm ds) (fm bs) kY a m b (aR _) z E (by rw [my]; omega) Q R (λx d y M=>by have:=(u x d).2; have:=(v y M).1; omega)
  (λx d=>I x (by
   rw [bW,aV,aV,aO,aO,aO]
   rcases aO.1 d with d | d
   ·exact .inr (.inl d)
   ·exact .inr (.inr (.inl d)))) j (by rw [ha,uB]) (by rw [hm,uB]) (by rw [hb,uB])
 have i:=p.length_eq
 simp only [aC] at i
 refine ⟨C,by rw [O,aM,NW,ZB],?_,p⟩
 ·rw [aM,Bf.append]
  refine ⟨h1,P,λx d=>?_,?_⟩
  ·rcases aO.1 (p.mem_iff.1 d) with d | d
   ·have:=u x d; omega
   ·have:=v x d; omega
  ·rw [i,←ew]; exact L
theorem O8 {ds bs:List (List (Formula×Nat))} {A B C:List (Formula×Nat)} (h:C.Perm (A++B)):((ds++[C])++bs).flatten.Perm (ds++A::B::bs).flatten:=by
 simp only [bW,aV,cK,aT,aM]
 refine bX _ ?_
 rw [←aM]
 exact h.append_right _
theorem XZ (h:SWO (pQ c)) (Y:G2 f c G) (s:Nat) (hs:0 < s) (a1:s≤1000000) (N:Nat) (hN:N≤400000):∀(k:Nat) (bs ds:List (List (Formula×Nat))) (n:Nat) (a b:Int),bs.length≤k→k < n→Bf c 0 (ds++bs)→(∀x∈(ds++bs).flatten,G x.1)→(ds++bs).flatten.length=N→WB s bs→(∀A∈ds,A.length=2*s)→
  a=(ds.flatten.length:Int)→b=((ds.flatten.length+2*s:Nat):Int)→
  ∃es r,ob (N:Int) (s:Int) f n (fm (ds++bs)) a b=some (fm (es++r),(es.flatten.length:Int))∧Bf c 0 (es++r)∧(es++r).flatten.Perm (ds++bs).flatten∧WB s r∧r.flatten.length < 2*s∧(∀A∈es,A.length=2*s):=by
 intro k
 induction k with
 | zero=>
  intro bs ds n a b hk Z hO z p E u ha hb
  obtain ⟨n,rfl⟩:=aF (by omega:n≠0)
  obtain rfl:=aJ (kk.1 hk)
  simp only [aT] at p
  rw [ob]
  have:¬(b≤(N:Int)):=by omega
  simp only [this,bN,aB,aI]
  exact ⟨ds,[],by rw [ha],hO,.refl _,trivial,by simp only [cK,aZ]; omega,u⟩
 | succ k ih=>
  intro bs ds n a b hk Z hO z p E u ha hb
  obtain ⟨n,rfl⟩:=aF (by omega:n≠0)
  rw [ob]
  by_cases hle:b≤(N:Int)
  ·simp only [hle,bB,aK]
   have d:=p
   rw [bW,aC] at d
   cases bs with
   | nil=>simp only [cK,aZ] at d; omega
   | cons A bs=>
    obtain ⟨hA,B,j,rfl,v,T,I⟩:=WB.two hs E (by omega)
    have U:B.length=s:=by
     rcases v with v | rfl
     ·exact v
     ·simp only [aV,cK,aT,aC] at d; omega
    have w1:wi0 .i64 (a+(s:Int))=((ds.flatten.length+A.length:Nat):Int):=mI _ (by omega) (by omega)
    obtain ⟨C,q1,q2,J⟩:=Qc h Y hO z (by rw [uB]; omega) (by omega) (by omega) a _ b ha w1 (by omega)
    rw [q1,aA]
    have w:=J.length_eq
    simp only [aC] at w
    have w2:wi0 .i64 (2*(s:Int))=((2*s:Nat):Int):=mI _ (by omega) (by omega)
    have W:(ds++[C]).flatten.length=ds.flatten.length+2*s:=by rw [U7]; omega
    have w3:wi0 .i64 (b+((2*s:Nat):Int))=(((ds++[C]).flatten.length+2*s:Nat):Int):=mI _ (by omega) (by omega)
    have hp:=O8 (ds:=ds) (bs:=j) J
    rw [w2,w3]
    obtain ⟨es,r,L,M,O,P,Q,R⟩:=ih j (ds++[C]) n b _ (by simp at hk; omega) (by omega) q2 (λx hx=>z x (hp.mem_iff.1 hx)) (by rw [hp.length_eq,p]) I (λX i=>by
     rcases aO.1 i with i | i
     ·exact u X i
     ·simp at i; rw [i]; omega) (by rw [W]; omega) rfl
    exact ⟨es,r,L,M,O.trans hp,P,Q,R⟩
  ·simp only [hle,bN,aB,aI]
   refine ⟨ds,bs,by rw [ha],hO,.refl _,E,?_,u⟩
   rw [bW,aC] at p
   omega
theorem WB.CU {t:Nat}:∀{es:List (List (Formula×Nat))} {C:List (Formula×Nat)},(∀A∈es,A.length=t)→C.length≤t→WB t (es++[C])
 | [],C,_,d=>⟨d,λh=>absurd rfl h,trivial⟩
 | E::es,C,h,d=>⟨by rw [h E (by simp)]; omega,λ_=>h E (by simp),WB.CU (λA i=>h A (by simp [i])) d⟩
theorem TQ {s:Nat} {r:List (List (Formula×Nat))} {o:Nat} (d:WB s r) (i:r.flatten.length≤s) (hO:Bf c o r):oy (pQ c) r.flatten∧∀x∈r.flatten,o≤x.2∧x.2 < o+r.flatten.length:=by
 cases r with
 | nil=>exact ⟨.nil,λx j=>by cases j⟩
 | cons A r=>
  have:r.flatten=[]:=by
   by_cases hb:r=[]
   ·rw [hb]; rfl
   ·have:=d.2.1 hb
    rw [aV,aC] at i
    exact aJ (by omega)
  rw [aV,this,aT]
  exact ⟨hO.1,hO.2.1⟩
theorem V6 (h:SWO (pQ c)) (hf:G2 f c G) (N:Nat) (hN:N≤400000):∀(k s:Nat) (bs:List (List (Formula×Nat))) (n:Nat),N-s≤k→k < n→0 < s→s≤1000000→Bf c 0 bs→(∀x∈bs.flatten,G x.1)→bs.flatten.length=N→WB s bs→
  ∃u,nI (N:Int) f n (fm bs) (s:Int)=some (u.map (·.1))∧oy (pQ c) u∧u.Perm bs.flatten:=by
 intro k
 induction k with
 | zero=>
  intro s bs n hk hn R z hO w p i
  obtain ⟨n,rfl⟩:=aF (by omega:n≠0)
  rw [nI]
  have:¬((s:Int) < (N:Int)):=by omega
  simp only [this,bN,aB,aI]
  refine ⟨bs.flatten,rfl,?_,.refl _⟩
  cases bs with
  | nil=>exact .nil
  | cons A bs=>
   have:bs.flatten=[]:=by
    by_cases hb:bs=[]
    ·rw [hb]; rfl
    ·have:=i.2.1 hb
     rw [aV,aC] at p
     exact aJ (by omega)
   rw [aV,this,aT]
   exact hO.1
 | succ k ih=>
  intro s bs n hk hn R z hO w p i
  by_cases a8:s < N
  ·obtain ⟨n,rfl⟩:=aF (by omega:n≠0)
   rw [nI]
   have:((s:Int) < (N:Int)):=by omega
   simp only [this,bB,aK]
   have w1:wi0 .i64 (2*(s:Int))=((2*s:Nat):Int):=mI _ (by omega) (by omega)
   have w0:wi0 .i64 ((s:Int)*2)=((2*s:Nat):Int):=mI _ (by omega) (by omega)
   have a7:bs.length≤2000000:=by
    have:∀{bs:List (List (Formula×Nat))},WB s bs→bs.length≤bs.flatten.length+1:=by
     intro bs
     induction bs with
     | nil=>intro _; simp
     | cons A bs T=>
      intro i
      by_cases hb:bs=[]
      ·subst hb; simp
      ·have:=i.2.1 hb
       have:=T i.2.2
       simp only [aG,aV,aC]
       omega
    have:=this i
    omega
   obtain ⟨es,r,Y,Z,d,e4,e5,e6⟩:=XZ h hf s R z N hN bs.length bs [] kY 0 ((2*s:Nat):Int) (aR _) (by rw [my]; omega) (by simpa using hO) (by simpa using w) (by simpa using p) i (by simp) rfl (by simp)
   simp only [aW] at Y d
   rw [w1,Y,aA,w0]
   have v:=d.length_eq
   rw [p,bW,aC] at v
   have w2:wi0 .i64 ((es.flatten.length:Int)+(s:Int))=((es.flatten.length+s:Nat):Int):=mI _ (by omega) (by omega)
   simp only [w2]
   by_cases hm:es.flatten.length+s < N
   ·have:(((es.flatten.length+s:Nat):Int) < (N:Int)):=by omega
    simp only [this,bB,aK,pI]
    cases r with
    | nil=>simp only [cK,aZ] at v; omega
    | cons A r=>
     obtain ⟨hA,B,r',rfl,I,a1,a6⟩:=WB.two R e4 (by omega)
     have Q:r'=[]:=by
      rcases I with I | I
      ·by_cases hr:r'=[]
       ·exact hr
       ·simp only [aV,aC] at e5; omega
      ·exact I
     subst Q
     simp only [aV,cK,aT,aC] at v e5
     obtain ⟨C,q1,q2,q3⟩:=Qc h hf Z (λx E=>w x (d.mem_iff.1 E)) (by rw [uB,d.length_eq]; omega) (by omega) (by omega) (es.flatten.length:Int) ((es.flatten.length+s:Nat):Int) (N:Int) rfl (by omega) (by omega)
     rw [q1,aA]
     have L:=q3.length_eq
     simp only [aC] at L
     have hp:=(O8 (ds:=es) (bs:=[]) q3).trans d
     simp only [aT] at q2 hp ⊢
     obtain ⟨u,U,W,J⟩:=ih (2*s) (es++[C]) n (by omega) (by omega) (by omega) (by omega) q2 (λx E=>w x (hp.mem_iff.1 E)) (by rw [hp.length_eq,p]) (WB.CU e6 (by omega))
     exact ⟨u,U,W,J.trans hp⟩
   ·have:¬(((es.flatten.length+s:Nat):Int) < (N:Int)):=by omega
    simp only [this,bN,aB,aI,aA]
    obtain ⟨M,O⟩:=Bf.append.1 Z
    obtain ⟨b1,b2⟩:=TQ e4 (by omega) O
    have P:fm (es++r)=fm (es++[r.flatten]):=by simp [fm]
    have j:(es++[r.flatten]).flatten=(es++r).flatten:=by simp
    rw [P]
    obtain ⟨u,U,W,J⟩:=ih (2*s) (es++[r.flatten]) n (by omega) (by omega) (by omega) (by omega) (Bf.append.2 ⟨M,b1,b2,trivial⟩) (λx E=>w x (d.mem_iff.1 (by rw [←j]; exact E))) (by rw [j,d.length_eq,p]) (WB.CU e6 (by omega))
    exact ⟨u,U,W,by rw [j] at J; exact J.trans d⟩
  ·obtain ⟨n,rfl⟩:=aF (by omega:n≠0)
   rw [nI]
   have:¬((s:Int) < (N:Int)):=by omega
   simp only [this,bN,aB,aI]
   refine ⟨bs.flatten,rfl,?_,.refl _⟩
   cases bs with
   | nil=>exact .nil
   | cons A bs=>
    have:bs.flatten=[]:=by
     by_cases hb:bs=[]
     ·rw [hb]; rfl
     ·have:=i.2.1 hb
      rw [aV,aC] at p
      exact aJ (by omega)
    rw [aV,this,aT]
    exact hO.1
theorem Nc:∀(l:List Formula) (o:Nat),(l.zipIdx o).Pairwise (λx y=>x.2 < y.2)
 | [],o=>by simp
 | x::l,o=>by
  rw [gv,bY]
  refine ⟨λy d=>?_,Nc l (o+1)⟩
  obtain ⟨a,b⟩:=y
  have:=eK d
  simp only at this ⊢; omega
theorem Ro (l:List Formula) (o:Nat):∀x∈l.zipIdx o,o≤x.2∧x.2 < o+l.length:=by
 rintro ⟨a,b⟩ d
 have h1:=eK d
 have i:=iO d
 simp only at h1 i ⊢; omega
theorem Uc (h:SWO (pQ c)) (w:G2 f c G) (N:Nat) (M:N≤300000) (R:List Formula) (ds:List (List (Formula×Nat))) (n:Nat) (a b:Int) (P:0 < n) (hO:Bf c 0 ds) (E:∀A∈ds,A.length=20) (I:∀x∈ds.flatten,G x.1) (p:∀x∈R,G x) (O:ds.flatten.length+R.length=N) (J:R.length < 20) (ha:a=(ds.flatten.length:Int)) (hb:b=((ds.flatten.length+20:Nat):Int)) :
  ∃u,nJ (N:Int) f n (fm ds++R) a b=some (u.map (·.1))∧oy (pQ c) u∧u.Perm (ds.flatten++R.zipIdx ds.flatten.length):=by
 obtain ⟨n,rfl⟩:=aF (by omega:n≠0)
 rw [nJ]
 have hle:¬(b≤(N:Int)):=by omega
 simp only [hle,bN,aB,aI,pI]
 obtain ⟨u,z,L,i⟩:=R3 h w (fm ds) [] (R.zipIdx ds.flatten.length) a (N:Int) (Nc _ _) (λx d=>p x.1 (JJ d)) (by simp only [aC,uB,bT,dw,aZ]; omega) (by rw [uB]; exact ha) (by rw [uB,dw]; omega)
 rw [fK,aT,aT] at z
 have j:=i.length_eq
 rw [dw] at j
 have e:fm ds++u.map (·.1)=fm (ds++[u]):=by simp [fm]
 have hp:(ds++[u]).flatten.Perm (ds.flatten++R.zipIdx ds.flatten.length):=by
  rw [bW]
  refine bX _ ?_
  simpa using i
 rw [z,aA,e]
 obtain ⟨v,v1,v2,v3⟩:=V6 h w N (by omega) N 20 (ds++[u]) kY (by omega) (by rw [my]; omega) (by omega) (by omega) (Bf.append.2 ⟨hO,L,λx d=>by have:=Ro R ds.flatten.length x (i.mem_iff.1 d); omega,trivial⟩) (λx d=>by
  rw [bW,aO] at d
  rcases d with d | d
  ·exact I x d
  ·simp only [aV,cK,aT] at d
   exact p x.1 (JJ (i.mem_iff.1 d))) (by rw [hp.length_eq,aC,dw]; omega) (WB.CU E (by omega))
 exact ⟨v,v1,v2,v3.trans hp⟩
theorem Ww (h:SWO (pQ c)) (L:G2 f c G) (N:Nat) (P:N≤300000):∀(k:Nat) (R:List Formula) (ds:List (List (Formula×Nat))) (n:Nat) (a b:Int),R.length≤k→k < n→Bf c 0 ds→(∀A∈ds,A.length=20)→(∀x∈ds.flatten,G x.1)→(∀x∈R,G x)→ds.flatten.length+R.length=N→
  a=(ds.flatten.length:Int)→b=((ds.flatten.length+20:Nat):Int)→
  ∃u,nJ (N:Int) f n (fm ds++R) a b=some (u.map (·.1))∧oy (pQ c) u∧u.Perm (ds.flatten++R.zipIdx ds.flatten.length):=by
 intro k
 induction k with
 | zero=>
  intro R ds n a b hk Q hO z E p I ha hb
  obtain rfl:=aJ (kk.1 hk)
  exact Uc h L N P [] ds n a b Q hO z E p I (by simp) ha hb
 | succ k ih=>
  intro R ds n a b hk Q hO z E p I ha hb
  by_cases O:R.length < 20
  ·exact Uc h L N P R ds n a b (by omega) hO z E p I O ha hb
  obtain ⟨n,rfl⟩:=aF (by omega:n≠0)
  obtain ⟨R1,R2,rfl,w⟩:=sN (l:=R) (n:=20) (by omega)
  rw [aC] at I hk
  rw [nJ]
  have hle:b≤(N:Int):=by omega
  simp only [hle,bB,aK]
  obtain ⟨u,T,U,J⟩:=R3 h L (fm ds) R2 (R1.zipIdx ds.flatten.length) a b (Nc _ _) (λx d=>p x.1 (by simp [JJ d])) (by simp only [aC,uB,bT,dw,aZ]; omega) (by rw [uB]; exact ha) (by rw [uB,dw]; omega)
  rw [fK] at T
  rw [T,aA]
  have i:=J.length_eq
  rw [dw,w] at i
  have M:(ds++[u]).flatten.length=ds.flatten.length+20:=by rw [U7,i]
  have W:wi0 .i64 (b+20)=(((ds++[u]).flatten.length+20:Nat):Int):=mI _ (by omega) (by omega)
  have e:fm ds++(u.map (·.1)++R2)=fm (ds++[u])++R2:=by simp [fm]
  rw [e,W]
  obtain ⟨v,v1,v2,v3⟩:=ih R2 (ds++[u]) n b _ (by omega) (by omega) (Bf.append.2 ⟨hO,U,λx d=>by have:=Ro R1 ds.flatten.length x (J.mem_iff.1 d); omega,trivial⟩) (λA j=>by
   rcases aO.1 j with j | j
   ·exact z A j
   ·simp at j; rw [j]; exact i) (λx d=>by
   rw [bW,aO] at d
   rcases d with d | d
   ·exact E x d
   ·simp only [aV,cK,aT] at d
    exact p x.1 (by simp [JJ (J.mem_iff.1 d)])) (λx d=>p x (by simp [d])) (by omega) (by omega) rfl
  refine ⟨v,v1,v2,v3.trans ?_⟩
  rw [M,bW,jm,w,aM]
  refine bX _ ?_
  simp only [aV,cK,aT]
  exact J.append_right _
theorem Sz (h:SWO (pQ c)) (n:G2 f c G) (l:List Formula) (j:∀x∈l,G x) (p:l.length≤300000):rq l f=some (Bj (pQ c) l):=by
 unfold rq uq
 obtain ⟨u,d,v,i⟩:=Ww h n l.length p l.length l [] kY 0 20 (aR _) (by rw [my]; omega) trivial (by simp) (by simp) j (by simp) rfl rfl
 simp only [fm,cK,dN,aW,aZ] at d i
 rw [d,aA,Nj h v i]
end
theorem OR {P:Formula→Prop} (h:∀f,(∀k∈f.Kids,P k)→P f):∀f,P f:=by
 intro f
 refine Formula.rec (motive_1:=P) (motive_2:=λks=>∀k∈ks,P k) ?_ ?_ ?_ f
 ·intro o k r ks ih; exact h _ ih
 ·intro k hk; cases hk
 ·intro k ks h1 i x d
  rcases aP.1 d with rfl | d
  ·exact h1
  ·exact i x d
mutual
def lQ:Formula→Nat
 | ⟨_,_,_,ks⟩=>1+nodesL ks
def nodesL:List Formula→Nat
 | []=>0
 | k::ks=>lQ k+nodesL ks
end
mutual
def pW:Formula→Nat
 | ⟨_,_,_,ks⟩=>deepL ks+1
def deepL:List Formula→Nat
 | []=>0
 | k::ks=>max (pW k) (deepL ks)
end
theorem qj (f:Formula):lQ f=1+nodesL f.Kids:=by cases f; rw [lQ]
theorem od (f:Formula):pW f=deepL f.Kids+1:=by cases f; rw [pW]
theorem vx:∀{ks:List Formula} {k:Formula},k∈ks→lQ k≤nodesL ks
 | x::ks,k,h=>by
  rw [nodesL]
  rcases aP.1 h with rfl | h
  ·omega
  ·have:=vx h; omega
theorem tF:∀{ks:List Formula} {k:Formula},k∈ks→pW k≤deepL ks
 | x::ks,k,h=>by
  rw [deepL]
  rcases aP.1 h with rfl | h
  ·omega
  ·have:=tF h; omega
theorem zB:∀f:Formula,pW f≤lQ f:=by
 refine OR λf ih=>?_
 rw [od,qj]
 have:∀ks:List Formula,(∀k∈ks,pW k≤lQ k)→deepL ks≤nodesL ks:=by
  intro ks
  induction ks with
  | nil=>intro _; rw [deepL]; omega
  | cons k ks d=>
   intro h
   have:=d (λx i=>h x (by simp [i]))
   have:=h k (by simp)
   rw [deepL,nodesL]; omega
 have:=this f.Kids ih
 omega
theorem sO:∀ks:List Formula,ks.length≤nodesL ks
 | []=>by rw [nodesL]; simp
 | k::ks=>by have:=sO ks; have:=qj k; rw [nodesL,aG]; omega
theorem TO (i:Nat) (hm:i≤4096) (rec:Formula→Int→Option (Int×Int)):∀(ks:List Formula),(∀k∈ks,∀q:Nat,q≤4096→∃n d:Nat,rec k (q:Int)=some ((n:Int),(d:Int))∧1≤n∧n≤lQ k∧d≤lQ k∧(lQ k≤q→n=lQ k∧d=pW k)∧(q < lQ k→q < n))→∀x y:Nat,x+nodesL ks≤100000000→
  ∃n d:Nat,sf (i:Int) rec ks (x:Int) (y:Int)=some ((n:Int),(d:Int))∧x≤n∧n≤x+nodesL ks∧d≤max y (nodesL ks)∧(x+nodesL ks≤i→n=x+nodesL ks∧d=max y (deepL ks))∧(i < x+nodesL ks→i < n)
 | [],_,x,y,_=>by
  rw [sf,nodesL,deepL]
  exact ⟨x,y,rfl,by omega,by omega,by omega,λ_=>⟨by omega,by omega⟩,λh=>by omega⟩
 | k::ks,p,x,y,hb=>by
  rw [nodesL] at hb ⊢
  rw [sf,deepL]
  by_cases u:(x:Int) > (i:Int)
  ·simp only [u,bB,aK]
   exact ⟨x,y,rfl,by omega,by omega,by omega,λ_=>by omega,λh=>by omega⟩
  ·simp only [u,bN,aB,aI]
   have E:wi0 .i64 ((i:Int)-(x:Int))=((i-x:Nat):Int):=by rw [mc (by omega) (by omega)]; omega
   obtain ⟨m,d,e,h1,J,L,j,w⟩:=p k (by simp) (i-x) (by omega)
   rw [E,e,aA]
   have G:wi0 .i64 ((x:Int)+(m:Int))=((x+m:Nat):Int):=by rw [mc (by omega) (by omega)]; omega
   have I:(if (d:Int) > (y:Int) then (d:Int) else (y:Int))=((max y d:Nat):Int):=by split <;> omega
   simp only [G,I]
   obtain ⟨n,v,e',g1,g2,g3,g4,g5⟩:=TO i hm rec ks (λz A=>p z (by simp [A])) (x+m) (max y d) (by omega)
   refine ⟨n,v,e',by omega,by omega,by omega,λh=>?_,λh=>?_⟩
   ·obtain ⟨rfl,rfl⟩:=j (by omega)
    obtain ⟨rfl,rfl⟩:=g4 (by omega)
    exact ⟨by omega,by omega⟩
   ·by_cases hk:i-x < lQ k
    ·have:=w hk; omega
    ·obtain ⟨rfl,_⟩:=j (by omega)
     exact g5 (by omega)
theorem WE:∀(n:Nat) (f:Formula),pW f≤n→lQ f≤50000000→∀q:Nat,q≤4096→∃m d:Nat,qN n f (q:Int)=some ((m:Int),(d:Int))∧1≤m∧m≤lQ f∧d≤lQ f∧(lQ f≤q→m=lQ f∧d=pW f)∧(q < lQ f→q < m):=by
 intro n
 induction n with
 | zero=>intro f h; rw [od] at h; omega
 | succ n ih=>
  intro f u A q i
  rw [od] at u
  have v:=qj f
  rw [qN]
  unfold yT
  obtain ⟨m,d,e,h1,x,z,j,p⟩:=TO q i (qN n) f.Kids (λk hk q i=>ih k (by have:=tF hk; omega) (by have:=vx hk; omega) q i) 1 0 (by omega)
  have e':sf (q:Int) (qN n) f.Kids 1 0=some ((m:Int),(d:Int)):=e
  rw [e',aA]
  have w:wi0 .i64 ((d:Int)+1)=((d+1:Nat):Int):=by rw [mc (by omega) (by omega)]; omega
  simp only [w]
  refine ⟨m,d+1,rfl,h1,by omega,by omega,λh=>?_,λh=>p (by omega)⟩
  obtain ⟨rfl,rfl⟩:=j (by omega)
  rw [od]
  exact ⟨by omega,by omega⟩
theorem Yp (f:Formula) (n:lQ f≤50000000):AU f=some (if lQ f≤4096 then ((lQ f:Int),(pW f:Int)) else (0,0)):=by
 unfold AU
 have:=zB f
 obtain ⟨m,d,e,h1,p,u,i,j⟩:=WE kY f (by rw [my]; omega) n 4096 (aR _)
 have e':qN kY f 4096=some ((m:Int),(d:Int)):=e
 rw [e',aA]
 by_cases h:lQ f≤4096
 ·obtain ⟨rfl,rfl⟩:=i h
  have:¬((lQ f:Int) > 4096):=by omega
  simp [this,h]
 ·have:=j (by omega)
  have:((m:Int) > 4096):=by omega
  simp [this,h]
def tk:ku:=⟨zS,zS⟩
def HN (f:Formula):Bool:=if f.Op=1 then mw f.ku&&decide (f.Kids.length=0)&&decide (f.K=0) else if f.Op=2∨f.Op=3 then kR f.ku tk&&decide (f.K=0) else decide (f.Op=4)&&kR f.ku tk&&decide (0≤f.K)&&decide (f.K≤(f.Kids.length:Int))&&decide (1≤f.Kids.length)
theorem YE (f:Formula):AP f=some (HN f):=by
 unfold AP HN
 simp only [zQ,aA,pI]
 by_cases h1:f.Op=1
 ·simp only [h1,bP,aK]
  cases w:mw f.ku
  ·simp
  ·by_cases n:f.Kids.length=0
   ·have:f.Kids=[]:=aJ n
    by_cases hk:f.K=0 <;> simp [this,hk]
   ·have:((f.Kids.length:Int)==0)=false:=by simp; intro h; exact n (by simp [h])
    simp only [aK,aA,this,aB,aI,n,bN,jr,gr]
 ·have u:(f.Op==1)=false:=by simpa using h1
  simp only [u,aB,aI,h1]
  by_cases d:f.Op=2∨f.Op=3
  ·have i:(if f.Op==2 then some (f.Op==2) else some (f.Op==3))=some true:=by
    rcases d with h | h <;> simp [h]
   simp only [i,aA,aK,d]
   cases hb:kR f.ku ⟨zS,zS⟩ <;> by_cases hk:f.K=0 <;> simp [tk,hb,hk]
  ·have i:(if f.Op==2 then some (f.Op==2) else some (f.Op==3))=some false:=by
    have a:f.Op≠2:=λh=>d (.inl h)
    have b:f.Op≠3:=λh=>d (.inr h)
    simp [a,b]
   simp only [i,aA,aB,aI,d]
   by_cases j:f.Op=4
   ·simp only [j,bP,aK,aA,bB,dZ]
    cases hb:kR f.ku ⟨zS,zS⟩
    ·simp [tk,hb]
    ·by_cases c1:0≤f.K <;> by_cases c2:f.K≤(f.Kids.length:Int) <;> by_cases p:1≤f.Kids.length <;> simp [tk,hb,c1,c2,p] <;> omega
   ·have v:(f.Op==4)=false:=by simpa using j
    simp [v,j]
mutual
def uH:Formula→Bool
 | ⟨o,n,r,ks⟩=>HN ⟨o,n,r,ks⟩&&decide (ks.length≤8)&&wellL ks
def wellL:List Formula→Bool
 | []=>true
 | k::ks=>uH k&&wellL ks
end
theorem KR (f:Formula):uH f=(HN f&&decide (f.Kids.length≤8)&&wellL f.Kids):=by cases f; rw [uH]
theorem Jc:∀ks:List Formula,wellL ks=ks.all uH
 | []=>rfl
 | k::ks=>by rw [wellL,Jc ks]; rfl
theorem PI (f:Formula→Option Bool):∀(l:List Formula) (i:Nat),pB f l i=CH f l i
 | [],i=>by rw [pB]; rfl
 | x::l,i=>by
  rw [pB,CH]
  cases f x with
  | none=>rfl
  | some b=>
   simp only [aA]
   rw [PI f l (i+1)]
theorem J1 (f:Formula→Option Bool) (p:Formula→Bool) (l:List Formula) (h:∀x∈l,f x=some (p x)):qt l f=some (l.any p):=by
 unfold qt vV
 rw [PI]
 rcases FD f p l 0 h with ⟨e,h1⟩ | ⟨A,x,B,rfl,h1,d,e⟩
 ·rw [e,aA]
  have:l.any p=false:=by rw [List.any_eq_false]; intro x i; rw [h1 x i]; simp
  rw [this]; rfl
 ·rw [e,aA]
  have:(A++x::B).any p=true:=by simp [d]
  rw [this]
  congr 1
theorem VH:∀(n:Nat) (f:Formula),pW f≤n→ux n f=some (uH f):=by
 intro n
 induction n with
 | zero=>intro f h; rw [od] at h; omega
 | succ n ih=>
  intro f h
  rw [od] at h
  rw [ux]
  unfold yX
  rw [YE,aA,KR,J1 _ (λk=>!uH k) f.Kids (λk hk=>by unfold xH; rw [ih k (by have:=tF hk; omega)]; rfl)]
  rw [Jc]
  have e:(!(f.Kids.any λk=>!uH k))=f.Kids.all uH:=by rw [ic]
  cases HN f
  ·rfl
  ·by_cases d:f.Kids.length≤8
   ·have:((f.Kids.length:Int)≤8):=by omega
    simp [d,this,e]
   ·have:¬((f.Kids.length:Int)≤8):=by omega
    simp [d,this]
def pk (f:Formula):Bool:=decide (lQ f≤64)&&decide (pW f≤6)&&uH f
theorem Ca (f:Formula) (d:lQ f≤50000000):qS f=some (pk f):=by
 unfold qS pk
 have i:=zB f
 rw [Yp f d,aA,VH kY f (by rw [my]; omega)]
 have h1:=qj f
 by_cases h:lQ f≤4096
 ·simp only [h,aK]
  have a:((lQ f:Int)≥1):=by omega
  simp only [a,bB,aK,aA,pI]
  by_cases c1:lQ f≤64 <;> by_cases c2:pW f≤6
  ·have d1:((lQ f:Int)≤64):=by omega
   have d2:((pW f:Int)≤6):=by omega
   simp [c1,c2,d1,d2]
  ·have d1:((lQ f:Int)≤64):=by omega
   have d2:¬((pW f:Int)≤6):=by omega
   simp [c1,c2,d1,d2]
  ·have d1:¬((lQ f:Int)≤64):=by omega
   simp [c1,d1]
  ·have d1:¬((lQ f:Int)≤64):=by omega
   simp [c1,d1]
 ·simp only [h,aI]
  have:¬lQ f≤64:=by omega
  simp [this]
theorem Formula.ext' {a b:Formula} (h1:a.Op=b.Op) (d:a.K=b.K) (i:a.ku=b.ku) (j:a.Kids=b.Kids):a=b:=by
 cases a; cases b; simp only at h1 d i j; subst h1 d i j; rfl
theorem U2 (g:Formula×Formula→Option Bool):∀(l m:List Formula),l.length=m.length→(∀x∈l,∀y,∃b,g (x,y)=some b∧(b=true↔x=y))→∀(A:List Formula),
  ∃b,mF (A++m) g l A.length=some b∧(b=true↔l=m)
 | [],m,i,_,A=>by
  obtain rfl:=aJ i.symm
  exact ⟨true,rfl,by simp⟩
 | x::l,[],i,_,A=>by simp at i
 | x::l,y::m,i,j,A=>by
  rw [mF]
  obtain ⟨b,e,h⟩:=j x (by simp) y
  have i1:lD (A++y::m) (A.length:Int)=some y:=mz _ _ _ _ rfl
  rw [i1,aA,e,aA]
  cases b with
  | false=>
   refine ⟨false,rfl,?_⟩
   have:x≠y:=λd=>by have:=h.2 d; simp at this
   simp [this]
  | true=>
   have d:=h.1 rfl
   obtain ⟨b,n,v⟩:=U2 g l m (by simpa using i) (λz w=>j z (by simp [w])) (A++[y])
   simp only [cI,aB,aI]
   have p:A++y::m=(A++[y])++m:=by simp
   have u:A.length+1=(A++[y]).length:=by simp
   rw [p,u,n]
   exact ⟨b,rfl,by rw [v]; simp [d]⟩
theorem XY:∀(n:Nat) (f:Formula),pW f≤n→∀g,∃b,pu n f g=some b∧(b=true↔f=g):=by
 intro n
 induction n with
 | zero=>intro f h; rw [od] at h; omega
 | succ n ih=>
  intro f h g
  rw [od] at h
  rw [pu]
  unfold zI
  by_cases h1:f.Op=g.Op
  ·by_cases d:f.K=g.K
   ·by_cases i:f.ku=g.ku
    ·have p:kR f.ku g.ku=true:=lj.2 i
     simp only [h1,d,p,bP,aK,aA]
     unfold oA
     by_cases j:f.Kids.length=g.Kids.length
     ·have:((f.Kids.length:Int) != (g.Kids.length:Int))=false:=by simp [j]
      simp only [this,aB,aI]
      obtain ⟨b,e,hb⟩:=U2 (λx=>pu n x.1 x.2) f.Kids g.Kids j (λx w y=>ih x (by have:=tF w; omega) y) []
      simp only [aW,aZ] at e
      rw [e]
      refine ⟨b,by simp,hb.trans ⟨λhk=>Formula.ext' h1 d i hk,λhk=>by rw [hk]⟩⟩
     ·have:((f.Kids.length:Int) != (g.Kids.length:Int))=true:=by simp; omega
      simp only [this,aK]
      exact ⟨false,rfl,by simp; intro hk; rw [hk] at j; exact j rfl⟩
    ·have p:kR f.ku g.ku=false:=by rw [←gG,lj]; exact i
     simp only [h1,d,p,bP,aK,aA,aB,aI]
     exact ⟨false,rfl,by simp; intro hk; rw [hk] at i; exact i rfl⟩
   ·have v:(f.K==g.K)=false:=by simpa using d
    simp only [h1,v,bP,aK,aA,aB,aI]
    exact ⟨false,rfl,by simp; intro hk; rw [hk] at d; exact d rfl⟩
  ·have u:(f.Op==g.Op)=false:=by simpa using h1
   simp only [u,aA,aB,aI]
   exact ⟨false,rfl,by simp; intro hk; rw [hk] at h1; exact h1 rfl⟩
def tZ {α:Type} (R:α→Bool) (lt:α→α→Bool) (last:Option α):List α→Bool→α→Bool×α
 | [],ok,b=>(ok,b)
 | x::xs,ok,b=>if R x&&last.all (λy=>lt y x)&&(!ok||lt x b) then tZ R lt last xs true x else tZ R lt last xs ok b
def Cy {α:Type} (w:Nat) (R:α→Bool) (lt:α→α→Bool) (d:α) (l:List α):Nat→List α→Option (List α)
 | 0,_=>none
 | n+1,out=>if !(tZ R lt out.getLast? l false d).1 then some out else (nm w out [(tZ R lt out.getLast? l false d).2]).bind λo=>Cy w R lt d l n o
section
variable {α:Type} {R:α→Bool} {lt:α→α→Bool}
theorem Ji (H:DH (λa b=>lt a b=true) (λx=>R x=true)) (last:Option α):∀(l:List α) (ok:Bool) (b:α),(ok=true→R b=true∧last.all (λy=>lt y b)=true)→
  ((tZ R lt last l ok b).1=false→ok=false∧∀x∈l,R x=true→last.all (λy=>lt y x)=false)∧
  ((tZ R lt last l ok b).1=true→R (tZ R lt last l ok b).2=true∧last.all (λy=>lt y (tZ R lt last l ok b).2)=true∧((tZ R lt last l ok b).2∈l∨(ok=true∧(tZ R lt last l ok b).2=b))∧
   (∀x∈l,R x=true→last.all (λy=>lt y x)=true→lt x (tZ R lt last l ok b).2=false)∧(ok=true→lt b (tZ R lt last l ok b).2=false))
 | [],ok,b,hb=>by
  simp only [tZ]
  exact ⟨λh=>⟨h,by simp⟩,λh=>⟨(hb h).1,(hb h).2,.inr ⟨h,trivial⟩,by simp,λ_=>by
   cases u:lt b b with
   | false=>rfl
   | true=>exact absurd u (H.irrefl b (hb h).1)⟩⟩
 | x::xs,ok,b,hb=>by
  rw [tZ]
  by_cases p:(R x&&last.all (λy=>lt y x)&&(!ok||lt x b))=true
  ·rw [bD p]
   simp only [bn,fw,eW] at p
   obtain ⟨⟨M,G⟩,I⟩:=p
   obtain ⟨h1,E⟩:=Ji H last xs true x (λ_=>⟨M,G⟩)
   refine ⟨λh=>?_,λh=>?_⟩
   ·cases (h1 h).1
   ·obtain ⟨w,a2,a3,a4,a5⟩:=E h
    refine ⟨w,a2,?_,?_,?_⟩
    ·rcases a3 with a3 | ⟨_,a3⟩
     ·exact .inl (by simp [a3])
     ·exact .inl (by rw [a3]; simp)
    ·intro y j d i
     rcases aP.1 j with rfl | j
     ·exact a5 rfl
     ·exact a4 y j d i
    ·intro n
     cases u:lt b (tZ R lt last xs true x).2 with
     | false=>rfl
     | true=>
      have J:lt x b=true:=by rcases I with h | h; rw [n] at h; cases h; exact h
      have:=H.trans x b _ M (hb n).1 w J u
      simp only [a5 rfl] at this
      cases this
  ·rw [bG p]
   obtain ⟨h1,E⟩:=Ji H last xs ok b hb
   refine ⟨λh=>⟨(h1 h).1,λy j d=>?_⟩,λh=>?_⟩
   ·rcases aP.1 j with rfl | j
    ·have n:=(h1 h).1
     cases G:last.all (λz=>lt z y) with
     | false=>rfl
     | true=>exact absurd (by simp [d,G,n]) p
    ·exact (h1 h).2 y j d
   ·obtain ⟨w,a2,a3,a4,a5⟩:=E h
    refine ⟨w,a2,?_,?_,a5⟩
    ·rcases a3 with a3 | a3
     ·exact .inl (by simp [a3])
     ·exact .inr a3
    ·intro y j d i
     rcases aP.1 j with rfl | j
     ·cases u:lt y (tZ R lt last xs ok b).2 with
      | false=>rfl
      | true=>
       cases ok with
       | false=>exact absurd (by simp [d,i]) p
       | true=>
        have L:lt y b=false:=by
         cases O:lt y b with
         | false=>rfl
         | true=>exact absurd (by simp [d,i,O]) p
        have A:=hb rfl
        rcases H.total y b d A.1 with v | v | v
        ·rw [L] at v; cases v
        ·subst v; rw [a5 rfl] at u; cases u
        ·have:=H.trans b y _ A.1 d w v u
         simp only [a5 rfl] at this
         cases this
     ·exact a4 y j d i
theorem yg (H:DH (λa b=>lt a b=true) (λx=>R x=true)) {l:List α} (i:∀x∈l,R x=true) (h:l.Pairwise (λa b=>lt a b=true)):l.Nodup:=by
 refine h.imp_of_mem (λ{a b} ha hb d e=>?_)
 subst e
 exact H.irrefl a (i a ha) d
theorem nD:∀{l m:List α},l.Nodup→(∀x∈l,x∈m)→l.length≤m.length
 | [],_,_,_=>by simp
 | x::l,m,n,i=>by
  obtain ⟨A,B,rfl⟩:=List.append_of_mem (i x (by simp))
  have d:=dO.1 n
  have:=nD (l:=l) (m:=A++B) d.2 (λy j=>by
   have:=i y (fC _ j)
   simp only [aO,aP] at this ⊢
   rcases this with h | h | h
   ·exact .inl h
   ·subst h; exact absurd j d.1
   ·exact .inr h)
  simp at this ⊢; omega
theorem Eb (H:DH (λa b=>lt a b=true) (λx=>R x=true)) {w:Nat} (hw:w≤1000) (d:α) (l:List α) (U:l.length≤1000000000):∀(n:Nat) (out:List α),l.length < n+out.length→out.Pairwise (λa b=>lt a b=true)→(∀x∈out,x∈l∧R x=true)→
  (∀x∈l,R x=true→x∈out∨out.getLast?.all (λy=>lt y x)=true)→∃s,Cy w R lt d l n out=some s∧wz (λa b=>lt a b=true) (λx=>R x=true) l s
 | 0,out,W,hp,hm,M=>by
  exfalso
  have:=nD (yg H (λx i=>(hm x i).2) hp) (λx i=>(hm x i).1)
  omega
 | n+1,out,W,hp,hm,M=>by
  rw [Cy]
  obtain ⟨h1,Q⟩:=Ji H out.getLast? l false d (λh=>by cases h)
  have hlen:=nD (yg H (λx i=>(hm x i).2) hp) (λx i=>(hm x i).1)
  cases P:(tZ R lt out.getLast? l false d).1 with
  | false=>
   rw [bD (by simp)]
   refine ⟨out,rfl,hp,λx=>⟨hm x,λi=>?_⟩⟩
   rcases M x i.1 i.2 with h | h
   ·exact h
   ·rw [(h1 P).2 x i.1 i.2] at h; cases h
  | true=>
   rw [bG (by simp)]
   obtain ⟨J,a2,a3,a4,_⟩:=Q P
   generalize (tZ R lt out.getLast? l false d).2=b at *
   have L:b∈l:=by rcases a3 with h | ⟨h,_⟩; exact h; cases h
   have G:∀y∈out,lt y b=true:=by
    intro y j
    obtain ⟨A,z,rfl⟩:∃A z,out=A++[z]:=by
     rcases cV out with h | ⟨A,z,h⟩
     ·subst h; cases j
     ·exact ⟨A,z,by rw [h]; simp⟩
    simp at a2
    rcases aO.1 j with j | j
    ·have O:lt y z=true:=(dB.1 hp).2.2 y j z (by simp)
     exact H.trans y z b (hm y (by simp [j])).2 (hm z (by simp)).2 J O a2
    ·simp at j; subst j; exact a2
   have I:(out++[b]).Pairwise (λa b=>lt a b=true):=dB.2 ⟨hp,by simp,λx i y j=>by simp at j; subst j; exact G x i⟩
   have v:∀x∈out++[b],x∈l∧R x=true:=λx i=>by
    rcases aO.1 i with i | i
    ·exact hm x i
    ·simp at i; subst i; exact ⟨L,J⟩
   have u:=nD (yg H (λx i=>(v x i).2) I) (λx i=>(v x i).1)
   simp at u
   rw [ns (by simp only [aG,aZ]; have:(out.length+(0+1))*w≤1000000000*1000:=Nat.mul_le_mul (by omega) hw; omega) (by simp; omega)]
   simp only [aA]
   refine Eb H hw d l U n (out++[b]) (by simp; omega) I v (λx i p=>?_)
   rcases M x i p with h | h
   ·exact .inl (by simp [h])
   ·have T:=a4 x i p h
    rcases H.total x b p J with E | E | E
    ·rw [T] at E; cases E
    ·subst E; exact .inl (by simp)
    ·exact .inr (by simp [E])
end
theorem HR {α:Type} (A:List α) (x:α) (d:A.length < 4611686018427387904):lD (A++[x]) (wi0 .i64 (((A++[x]).length:Int)-1))=some x:=by
 rw [mc (by simp; try omega) (by simp; try omega)]
 rw [mz A x [] _ (by simp; try omega)]
theorem KN (out:List kv) (u:out.length < 4611686018427387904):∀(l:List kv) (ok:Bool) (b:kv),wJ out l ok b=some (tZ mM Be out.getLast? l ok b)
 | [],ok,b=>rfl
 | x::xs,ok,b=>by
  rw [wJ,tZ]
  have cmp:∀a b,∃c,xR a b=some c∧decide (c < 0)=Be a b:=λa b=>by
   obtain ⟨c,h1,n⟩:=IT a b
   exact ⟨c,h1,by rw [bK,←n]; simp⟩
  rw [Fy,KN out u xs true x,KN out u xs ok b]
  obtain ⟨c,h1,n⟩:=cmp x b
  rcases cV out with h | ⟨A,z,h⟩
  ·subst h
   simp only [h1,aA,n,aZ,Option.all,jC]
   generalize Be x b=p
   cases mM x <;> cases ok <;> cases p <;> simp
  ·have j:out=A++[z]:=by rw [h]; simp
   obtain ⟨J,G,I⟩:=cmp z x
   have d:out.getLast? =some z:=by rw [j]; simp
   have i:lD out (wi0 .i64 ((out.length:Int)-1))=some z:=by rw [j]; exact HR A z (by rw [j] at u; simp at u; omega)
   have v:((out.length:Int)==0)=false:=by rw [j]; simp; omega
   rw [d]
   simp only [v,i,G,h1,aA,n,I,Option.all]
   rcases dH (Be x b) with hp | hp <;> rcases dH (Be z x) with w | w <;> rcases dH (mM x) with E | E <;> cases ok <;> simp [hp,w,E]
theorem KX (out:List ku) (n:out.length < 4611686018427387904):∀(l:List ku) (ok:Bool) (b:ku),wF out l ok b=some (tZ mw wY out.getLast? l ok b)
 | [],ok,b=>rfl
 | x::xs,ok,b=>by
  rw [wF,tZ]
  rw [B5,KX out n xs true x,KX out n xs ok b]
  rcases cV out with h | ⟨A,z,h⟩
  ·subst h
   simp only [zO,aA,aZ,Option.all,jC]
   generalize wY x b=p
   cases mw x <;> cases ok <;> cases p <;> simp
  ·have j:out=A++[z]:=by rw [h]; simp
   have d:out.getLast? =some z:=by rw [j]; simp
   have i:lD out (wi0 .i64 ((out.length:Int)-1))=some z:=by rw [j]; exact HR A z (by rw [j] at n; simp at n; omega)
   have u:((out.length:Int)==0)=false:=by rw [j]; simp; omega
   rw [d]
   simp only [u,i,zO,aA,Option.all]
   rcases dH (wY x b) with hp | hp <;> rcases dH (wY z x) with v | v <;> rcases dH (mw x) with w | w <;> cases ok <;> simp [hp,v,w]
theorem gtS (a b:ByteArray):(!(tE a b||lz a b))=tE b a:=by
 rcases D9 a b with h | h | h
 ·simp [h,NU h]
 ·subst h; simp [qV,wv]
 ·have d:=NU h
  have i:lz a b=false:=RB (by rintro rfl; rw [wv] at h; cases h)
  simp [h,d,i]
theorem T7 {s:ByteArray} (h:po s=true):lz s zS=false:=RB (λe=>by have:=oT h; rw [e,YG] at this; omega)
theorem KF (out:List ByteArray) (w:out.length < 4611686018427387904):∀(l:List ByteArray) (b:ByteArray),
  ∃E,wM out l b=some E∧(tZ po tE out.getLast? l (!lz b zS) b)=(!lz E zS,E)
 | [],b=>⟨b,rfl,rfl⟩
 | x::xs,b=>by
  rw [wM,tZ]
  obtain ⟨O,L,i⟩:=KF out w xs x
  obtain ⟨P,M,u⟩:=KF out w xs b
  rw [B4,L,M]
  by_cases n:po x=true
  ·rw [T7 n] at i
   simp only [cR] at i
   rcases cV out with h | ⟨A,z,h⟩
   ·subst h
    simp only [aA,aZ,Option.all,jC,n] at *
    rw [i,u]
    generalize tE x b=p
    generalize lz b zS=q
    cases p <;> cases q <;> simp
   ·have v:out=A++[z]:=by rw [h]; simp
    have d:out.getLast? =some z:=by rw [v]; simp
    have j:lD out (wi0 .i64 ((out.length:Int)-1))=some z:=by rw [v]; exact HR A z (by rw [v] at w; simp at w; omega)
    have G:((out.length:Int)==0)=false:=by rw [v]; simp; omega
    rw [d] at i u ⊢
    simp only [G,j,aA,Option.all,gtS,n]
    rw [i,u]
    rcases dH (tE x b) with hp | hp <;> rcases dH (tE z x) with I | I <;> rcases dH (lz b zS) with J | J <;> simp [hp,I,J]
  ·simp only [gG] at n
   rw [n,u]
   simp
theorem Xa (a:List kv):∀(n:Nat) (out s:List kv),Cy 136 mM Be (⟨0,⟨zS,zS⟩,zS,⟨zS,zS⟩,⟨zS,zS⟩,zS⟩:kv) a n out=some s→s.length < 4611686018427387904→AX a n out=some s∧out.length≤s.length
 | 0,out,s,h,_=>by cases h
 | n+1,out,s,h,p=>by
  rw [Cy] at h
  rw [AX]
  have key:out.length≤s.length→wJ out a false (⟨0,⟨zS,zS⟩,zS,⟨zS,zS⟩,⟨zS,zS⟩,zS⟩:kv)=_:=λv=>KN out (by omega) a false _
  split at h
  ·rename_i h1
   cases h
   rw [key (aR _)]
   simp only [aA]
   rw [bD h1]
   exact ⟨rfl,aR _⟩
  ·rename_i h1
   obtain ⟨o,d,i⟩:=bind_some h
   have j:=Xa a n o s i p
   have u:out.length+1=o.length:=by
    unfold nm at d; split at d
    ·cases d; simp
    ·cases d
   rw [key (by omega)]
   simp only [aA]
   rw [bG h1,d]
   exact ⟨j.1,by omega⟩
theorem Xt (a:List ku):∀(n:Nat) (out s:List ku),Cy 32 mw wY (⟨zS,zS⟩:ku) a n out=some s→s.length < 4611686018427387904→A0 a n out=some s∧out.length≤s.length
 | 0,out,s,h,_=>by cases h
 | n+1,out,s,h,p=>by
  rw [Cy] at h
  rw [A0]
  have key:out.length≤s.length→wF out a false (⟨zS,zS⟩:ku)=_:=λv=>KX out (by omega) a false _
  split at h
  ·rename_i h1
   cases h
   rw [key (aR _)]
   simp only [aA]
   rw [bD h1]
   exact ⟨rfl,aR _⟩
  ·rename_i h1
   obtain ⟨o,d,i⟩:=bind_some h
   have j:=Xt a n o s i p
   have u:out.length+1=o.length:=by
    unfold nm at d; split at d
    ·cases d; simp
    ·cases d
   rw [key (by omega)]
   simp only [aA]
   rw [bG h1,d]
   exact ⟨j.1,by omega⟩
theorem Xy (a:List ByteArray):∀(n:Nat) (out s:List ByteArray),Cy 16 po tE zS a n out=some s→s.length < 4611686018427387904→A8 a n out=some s∧out.length≤s.length
 | 0,out,s,h,_=>by cases h
 | n+1,out,s,h,w=>by
  rw [Cy] at h
  rw [A8]
  have key:out.length≤s.length→∃i,wM out a zS=some i∧tZ po tE out.getLast? a false zS=(!lz i zS,i):=λz=>by
   have:=KF out (by omega) a zS
   rw [qV] at this
   exact this
  split at h
  ·rename_i h1
   cases h
   obtain ⟨i,j,p⟩:=key (aR _)
   rw [j]
   rw [p] at h1
   simp only [aA]
   rw [bD (by simpa using h1)]
   exact ⟨rfl,aR _⟩
  ·rename_i h1
   obtain ⟨o,d,u⟩:=bind_some h
   have v:=Xy a n o s u w
   have x:out.length+1=o.length:=by
    unfold nm at d; split at d
    ·cases d; simp
    ·cases d
   obtain ⟨i,j,p⟩:=key (by omega)
   rw [j]
   rw [p] at h1 d
   simp only [aA]
   rw [bG (by simpa using h1),d]
   exact ⟨v.1,by omega⟩
abbrev YW (l s:List ByteArray):=wz (λa b=>tE a b=true) (λx=>po x=true) l s
abbrev FG (l s:List ku):=wz (λa b=>wY a b=true) (λx=>mw x=true) l s
abbrev rJ (l s:List kv):=wz (λa b=>Be a b=true) (λx=>mM x=true) l s
theorem CR {α:Type} {lt:α→α→Bool} {R:α→Bool} (H:DH (λa b=>lt a b=true) (λx=>R x=true)) {l s:List α} (h:wz (λa b=>lt a b=true) (λx=>R x=true) l s):s.length≤l.length :=
 nD (yg H (λx d=>((h.2 x).1 d).2) h.1) (λx d=>((h.2 x).1 d).1)
theorem Nk (l:List kv) (i:l.length≤1000000000):∃s,BB l=some s∧rJ l s:=by
 obtain ⟨s,h1,d⟩:=Eb zL (w:=136) (by omega) (⟨0,⟨zS,zS⟩,zS,⟨zS,zS⟩,⟨zS,zS⟩,zS⟩:kv) l i kY [] (by rw [zy]; omega) (by simp) (by simp) (λx _ _=>.inr rfl)
 exact ⟨s,(Xa l kY [] s h1 (by have:=CR zL d; omega)).1,d⟩
theorem XG (l:List ku) (i:l.length≤1000000000):∃s,J9 l=some s∧FG l s:=by
 obtain ⟨s,h1,d⟩:=Eb (CK (λx=>mw x=true)) (w:=32) (by omega) (⟨zS,zS⟩:ku) l i kY [] (by rw [zy]; omega) (by simp) (by simp) (λx _ _=>.inr rfl)
 exact ⟨s,(Xt l kY [] s h1 (by have:=CR (CK _) d; omega)).1,d⟩
theorem XX (l:List ByteArray) (i:l.length≤1000000000):∃s,GA l=some s∧YW l s:=by
 obtain ⟨s,h1,d⟩:=Eb (Xx (λx=>po x=true)) (w:=16) (by omega) zS l i kY [] (by rw [zy]; omega) (by simp) (by simp) (λx _ _=>.inr rfl)
 exact ⟨s,(Xy l kY [] s h1 (by have:=CR (Xx _) d; omega)).1,d⟩
def zC:kv:=⟨0,⟨zS,zS⟩,zS,⟨zS,zS⟩,⟨zS,zS⟩,zS⟩
theorem RS (f:kv→Option Bool):∀(n:Nat) (l:List kv) (i j:Int),pX f n l i j=HJ f zC n l i j
 | 0,_,_,_=>rfl
 | n+1,l,i,j=>by
  rw [pX,HJ]
  simp only [RS f n]
  rfl
theorem Nu (f:kv→Option Bool):∀(l:List kv) (i:Nat),ri f l i=CH f l i
 | [],_=>rfl
 | x::l,i=>by rw [ri,CH]; simp only [Nu f l]
theorem VV (f:kv→Option Bool) (l:List kv):ul l f=M6 f zC l:=by
 unfold ul M6 sF
 simp only [Nu,RS]
theorem PR (i:Int):∀(n:Nat) (l:List kv) (k j:Int),qJ i n l k j=FV ll i n l k j
 | 0,_,_,_=>rfl
 | n+1,l,k,j=>by
  rw [qJ,FV]
  simp only [PR i n]
theorem O4 (l:List kv):∀(n:Nat) (i:Int),qM l n i=Gy ll zC l n i
 | 0,_=>rfl
 | n+1,i=>by
  rw [qM,Gy]
  simp only [O4 l n,PR]
  rfl
theorem WI (l:List kv):vO l=Pv ll zC l:=by
 unfold vO Pv
 simp only [O4]
theorem ZH {l:List kv} (d:l.length≤1000000000):uL l=some l:=by
 unfold uL
 rw [ns (by simp; omega) (by simp; omega)]
 simp
theorem Vr (l:List kv) (i:l.length≤1000000000):∃s,AQ l=some s∧rJ l s:=by
 unfold AQ
 rw [ZH i]
 simp only [aA]
 rw [VV,Pg _ (λx=>!mM x) zC l (by omega) (λx _=>by simp [BK,xT])]
 simp only [aA,fe]
 have p:(l.filter λx=>mM x).length≤l.length:=dE _ _
 obtain ⟨s,h1,n,d⟩:=Kj (eq:=ll) (lt:=λa b=>Be a b=true) (P:=λx=>mM x=true) (cf:=λx=>px x.1 x.2) (l:=l.filter λx=>mM x) (λx y=>om) zL (λx j=>(bU.1 j).2) (by omega) (λx y _ _=>EJ x y)
 rw [h1]
 simp only [aA]
 rw [WI,Qu _ _ _ (by omega)]
 refine ⟨_,rfl,d.1,λx=>?_⟩
 rw [d.2]
 simp
def tt {κ:Type} (ks:List κ):List (κ×Bool):=ks.map λk=>(k,true)
def rk {κ:Type} (beq:κ→κ→Bool) (ks:List κ) (k:κ):Bool:=ks.any λx=>beq k x
def ins {κ:Type} (beq:κ→κ→Bool) (ks:List κ) (k:κ):List κ:=if rk beq ks k then ks else ks++[k]
section
variable {κ:Type} {beq:κ→κ→Bool}
theorem wg (hb:∀{x y},beq x y=true↔x=y) (ks:List κ) (k:κ):rk beq ks k=true↔k∈ks:=by
 simp [rk,eB,hb]
theorem Uq (ks:List κ):(tt ks).length=ks.length:=by simp [tt]
theorem Vl (ks:List κ) (k:κ):D0 beq (tt ks) k false=rk beq ks k:=by
 unfold D0 mJ rk tt
 induction ks with
 | nil=>rfl
 | cons x xs ih=>
  simp only [aU,eZ,gQ]
  cases h:beq k x with
  | true=>simp
  | false=>simpa using ih
theorem Yg (hb:∀{x y},beq x y=true↔x=y) (ks:List κ) (k:κ):qK beq (tt ks) k true=tt (ins beq ks k):=by
 unfold qK ins
 have w:(tt ks).findIdx? (λp=>beq k p.1)=ks.findIdx? (λx=>beq k x):=by
  unfold tt; rw [ij]; rfl
 rw [w]
 cases h:ks.findIdx? (λx=>beq k x) with
 | none=>
  rw [gH] at h
  rw [bG]
  ·simp [tt]
  ·intro n
   unfold rk at n
   rw [eB] at n
   obtain ⟨x,z,d⟩:=n
   rw [h x z] at d
   cases d
 | some i=>
  rw [eC] at h
  obtain ⟨v,h1,_⟩:=h
  have e:=hb.1 h1
  rw [bD]
  ·simp only [tt]
   apply eT
   intro j
   rw [fB]
   split
   ·rename_i u
    subst u
    simp [v,e]
   ·rfl
  ·unfold rk
   exact eB.2 ⟨ks[i],List.getElem_mem v,h1⟩
end
section
variable {all:List kv} {wants:List ku} {T:List ku} {W:List ByteArray} {R:List kv}
def qW (c:kv):List ku:=if c.Kind=1 then [] else if c.Kind=4 then [c.B,c.C] else [c.B]
end
theorem MW (x:kv):∀l:List kv,DX l x=some (rk ll l x)
 | []=>rfl
 | y::l=>by
  have ih:=MW x l
  unfold DX at ih ⊢
  rw [Dw,ih]
  have:ll y x=ll x y:=by rw [bK,om,om]; exact eq_comm
  rw [this]
  simp only [rk,gQ]
  cases ll x y <;> simp
theorem YV {c:kv} (h:mM c=true):CM c=some (c.Head::qW c):=by
 unfold CM
 rw [xT,h]
 simp only [aA,cI,aB,aI]
 have d:c.Kind=1∨c.Kind=2∨c.Kind=3∨c.Kind=4:=by rcases qh h with h | h | h | h <;> simp [h.1]
 rcases d with k | k | k | k
 ·simp [k,qW]
 ·rw [bD (by simp [k]),ns (by simp) (by simp)]
  simp [k,qW]
 ·rw [bD (by simp [k]),ns (by simp) (by simp)]
  simp [k,qW]
 ·rw [bD (by simp [k]),ns (by simp) (by simp)]
  simp only [aA]
  rw [bD (by simp [k]),ns (by simp) (by simp)]
  simp [k,qW]
theorem wz.congr {α:Type} {lt:α→α→Prop} {P:α→Prop} {l m s:List α} (h:wz lt P l s) (hm:∀x,x∈l↔x∈m):wz lt P m s:=⟨h.1,λx=>by rw [h.2,hm]⟩
theorem Yn {κ:Type} (ks:List κ):(tt ks).map (·.1)=ks:=by simp [tt,gl]
def BS (c:kv):Nat:=c.Head.kw.size+c.Head.Word.size+c.lO.size+c.B.kw.size+c.B.Word.size+c.C.kw.size+c.C.Word.size+c.mg.size
section
variable {κ γ:Type} {beq:κ→κ→Bool}
theorem uj (hb:∀{x y},beq x y=true↔x=y) {A B:List (κ×γ)} {k:κ} {x:γ} (d:∀p∈A,p.1≠k):mJ beq (A++(k,x)::B) k=some x:=by
 unfold mJ
 rw [jD]
 have:A.find? (λp=>beq k p.1)=none:=fX.2 (λp hp h=>d p hp (hb.1 h).symm)
 rw [this]
 simp [hb.2 (rfl:k=k)]
theorem zw (hb:∀{x y},beq x y=true↔x=y) {l:List (κ×γ)} {k:κ} (h:∀p∈l,p.1≠k):mJ beq l k=none:=by
 unfold mJ
 rw [fX.2 (λp hp d=>h p hp (hb.1 d).symm)]
 rfl
theorem AV (hb:∀{x y},beq x y=true↔x=y) {A B:List (κ×γ)} {k:κ} {x y:γ} (d:∀p∈A,p.1≠k):qK beq (A++(k,x)::B) k y=A++(k,y)::B:=by
 have h1:(A++(k,x)::B).findIdx? (λp=>beq k p.1)=some A.length:=by
  rw [iJ,gH.2 (λp hp=>by
   cases h:beq k p.1 with
   | false=>rfl
   | true=>exact absurd (hb.1 h).symm (d p hp))]
  simp [fk,hb.2 (rfl:k=k)]
 rw [uv h1]
 simp
theorem Hn (hb:∀{x y},beq x y=true↔x=y) {l:List (κ×γ)} {k:κ} {y:γ} (h:∀p∈l,p.1≠k):qK beq l k y=l++[(k,y)]:=by
 refine yQ (gH.2 (λp hp=>?_)) y
 cases d:beq k p.1 with
 | false=>rfl
 | true=>exact absurd (hb.1 d).symm (h p hp)
theorem xK (k:κ):∀(l:List (κ×γ)),(∀p∈l,p.1≠k)∨∃A x B,l=A++(k,x)::B∧∀p∈A,p.1≠k
 | []=>.inl (λ_ h=>by cases h)
 | p::l=>by
  by_cases hp:p.1=k
  ·exact .inr ⟨[],p.2,l,by rw [←hp]; rfl,λ_ h=>by cases h⟩
  ·rcases xK k l with h | ⟨A,x,B,rfl,h⟩
   ·exact .inl (λq d=>by rcases aP.1 d with rfl | d; exact hp; exact h q d)
   ·exact .inr ⟨p::A,x,B,rfl,λq d=>by rcases aP.1 d with rfl | d; exact hp; exact h q d⟩
theorem KM (hb:∀{x y},beq x y=true↔x=y) (A B:List (κ×γ)) (k:κ):mJ beq (A++B) k=(mJ beq A k).or (mJ beq B k):=by
 unfold mJ
 rw [jD]
 cases A.find? (λp=>beq k p.1) <;> rfl
theorem F9 (p:κ×γ) (l:List (κ×γ)) (k:κ):mJ beq (p::l) k=if beq k p.1=true then some p.2 else mJ beq l k:=by
 unfold mJ
 rw [eZ]
 cases beq k p.1 <;> simp
theorem IX (hb:∀{x y},beq x y=true↔x=y) (l:List (κ×γ)) (k d:κ) (y:γ):mJ beq (qK beq l k y) d=if beq d k=true then some y else mJ beq l d:=by
 rcases xK k l with h | ⟨A,x,B,rfl,h⟩
 ·rw [Hn hb h,KM hb,F9]
  by_cases hk:beq d k=true
  ·have:=hb.1 hk
   subst this
   rw [bD hk,bD hk,zw hb h]; rfl
  ·rw [bG hk,bG hk]
   show (mJ beq l d).or none=_
   cases mJ beq l d <;> rfl
 ·rw [AV hb h,KM hb,F9,KM hb,F9]
  by_cases hk:beq d k=true
  ·have:=hb.1 hk
   subst this
   rw [bD hk,bD hk,zw hb h]; rfl
  ·rw [bG hk,bG hk,bG hk]
end
abbrev rL:=List (ku×List ByteArray)
def mm (T:rL):List (ku×List (ByteArray×Bool)):=T.map λp=>(p.1,tt p.2)
def uY (T:rL) (r:ku):List ByteArray:=(mJ kR T r).getD []
def FS (T:rL):List kV:=T.flatMap λp=>p.2.map λw=>(⟨p.1,w⟩:kV)
def I1 (T:rL) (r:ku) (w:ByteArray):rL:=qK kR T r (uY T r++[w])
theorem Iu (A B:rL):mm (A++B)=mm A++mm B:=by simp [mm]
theorem Dz {A:rL} {r:ku} (h:∀p∈A,p.1≠r):∀p∈mm A,p.1≠r:=by
 intro p hp
 simp only [mm,aS] at hp
 obtain ⟨q,d,rfl⟩:=hp
 exact h q d
theorem X3 (T:rL) (r:ku):mJ kR (mm T) r=(mJ kR T r).map tt:=by
 rcases xK r T with h | ⟨A,x,B,rfl,h⟩
 ·rw [zw lj h,zw lj (Dz h)]; rfl
 ·rw [uj lj h,Iu]
  exact uj lj (Dz h)
theorem Sh (T:rL) (r:ku):(mJ kR (mm T) r).getD []=tt (uY T r):=by
 rw [X3,uY]; cases mJ kR T r <;> rfl
theorem Mn (T:rL) (r:ku) (w:ByteArray):(FS (I1 T r w)).Perm (FS T++[(⟨r,w⟩:kV)]):=by
 unfold I1 uY
 rcases xK r T with h | ⟨A,x,B,rfl,h⟩
 ·rw [Hn lj h,zw lj h]
  simp [FS]
 ·rw [AV lj h,uj lj h]
  simp only [FS,iW,iz,iE,cL,aU,dN,aM]
  refine bX _ (bX _ ?_)
  exact eL
theorem VZ {T:rL} (hk:(T.map (·.1)).Nodup) (r:ku) (w:ByteArray):((I1 T r w).map (·.1)).Nodup:=by
 unfold I1
 rcases xK r T with h | ⟨A,x,B,rfl,h⟩
 ·rw [Hn lj h]
  simp only [cL,aU,dN]
  refine cD.2 ⟨hk,by simp,λa ha b hb e=>?_⟩
  simp at hb; subst hb; subst e
  obtain ⟨p,hp,e⟩:=aS.1 ha
  exact h p hp e
 ·rw [AV lj h]
  simpa using hk
theorem FR {T:rL} (hk:(T.map (·.1)).Nodup) (f:kV):f∈FS T↔f.lO∈uY T f.ku:=by
 simp only [FS,jN,aS]
 constructor
 ·rintro ⟨p,hp,w,hw,rfl⟩
  obtain ⟨A,B,rfl⟩:=List.append_of_mem hp
  have d:∀q∈A,q.1≠p.1:=λq j e=>by
   rw [cL,aU] at hk
   exact (cD.1 hk).2.2 q.1 (aS.2 ⟨q,j,rfl⟩) p.1 (by simp) e
  rw [uY,show p=(p.1,p.2) from rfl,uj lj d]
  exact hw
 ·intro h
  unfold uY at h
  rcases xK f.ku T with i | ⟨A,x,B,rfl,d⟩
  ·rw [zw lj i] at h; cases h
  ·rw [uj lj d] at h
   exact ⟨(f.ku,x),by simp,f.lO,h,rfl⟩
theorem QK {T:rL} (h:(FS T).Nodup) (r:ku):(uY T r).Nodup:=by
 unfold uY
 rcases xK r T with i | ⟨A,x,B,rfl,d⟩
 ·rw [zw lj i]; simp
 ·rw [uj lj d]
  simp only [FS,iW,iz] at h
  have h1:=(cD.1 (cD.1 h).2.1).1
  simp only [List.Nodup,eV] at h1
  exact h1.imp (λh e=>h (by rw [e]))
inductive rB (C:List kv):kV→Prop
 | mem (c):c∈C→c.Kind=1→rB C ⟨c.Head,c.lO⟩
 | inc (c w):c∈C→c.Kind=2→rB C ⟨c.B,w⟩→rB C ⟨c.Head,w⟩
 | Lv (c b w):c∈C→c.Kind=3→rB C ⟨c.B,b⟩→rB C ⟨⟨b,c.mg⟩,w⟩→rB C ⟨c.Head,w⟩
 | both (c w):c∈C→c.Kind=4→rB C ⟨c.B,w⟩→rB C ⟨c.C,w⟩→rB C ⟨c.Head,w⟩
theorem rB.mono {C C':List kv} (h:∀c∈C,c∈C') {f:kV} (n:rB C f):rB C' f:=by
 induction n with
 | mem c d hk=>exact .mem c (h c d) hk
 | inc c w d hk _ ih=>exact .inc c w (h c d) hk ih
 | Lv c b w d hk _ _ i j=>exact .Lv c b w (h c d) hk i j
 | both c w d hk _ _ i j=>exact .both c w (h c d) hk i j
def Kf (C:List kv):List kV:=(C.map (·.Head)).flatMap λr=>(C.map (·.lO)).map λw=>(⟨r,w⟩:kV)
theorem HM (C:List kv):(Kf C).length=C.length*C.length:=by
 unfold Kf
 have:∀l:List ku,(l.flatMap λr=>(C.map (·.lO)).map λw=>(⟨r,w⟩:kV)).length=l.length*C.length:=λl=>by
  induction l with
  | nil=>simp
  | cons x l ih=>simp only [iz,aC,ih,bT,aG,du]; omega
 rw [this,bT]
theorem YJ {C:List kv} {r:ku} {w:ByteArray}:(⟨r,w⟩:kV)∈Kf C↔(∃c∈C,c.Head=r)∧∃c∈C,c.lO=w:=by
 unfold Kf
 simp only [jN,aS,kV.mk.injEq]
 constructor
 ·rintro ⟨n,⟨c,j,rfl⟩,p,⟨i,d,rfl⟩,rfl,rfl⟩; exact ⟨⟨c,j,rfl⟩,i,d,rfl⟩
 ·rintro ⟨⟨c,j,rfl⟩,i,d,rfl⟩; exact ⟨_,⟨c,j,rfl⟩,_,⟨i,d,rfl⟩,rfl,rfl⟩
theorem rB.Q0 {C:List kv} {f:kV} (h:rB C f):∃c∈C,c.Kind=1∧c.lO=f.lO:=by
 induction h with
 | mem c j hk=>exact ⟨c,j,hk,rfl⟩
 | inc c w j hk _ ih=>exact ih
 | Lv c b w j hk _ _ d i=>exact i
 | both c w j hk _ _ d i=>exact d
theorem rB.head {C:List kv} {f:kV} (h:rB C f):∃c∈C,c.Head=f.ku:=by
 cases h with
 | mem c d hk=>exact ⟨c,d,rfl⟩
 | inc c w d hk _=>exact ⟨c,d,rfl⟩
 | Lv c b w d hk _ _=>exact ⟨c,d,rfl⟩
 | both c w d hk _ _=>exact ⟨c,d,rfl⟩
theorem rB.Kf {C:List kv} {f:kV} (h:rB C f):f∈Kf C:=by
 obtain ⟨c,d,_,hw⟩:=h.Q0
 exact YJ.2 ⟨h.head,c,d,hw⟩
structure tK (C:List kv) (T:rL) (td:List kV) (n:Int):Prop where
 keys:(T.map (·.1)).Nodup
 nd:(FS T).Nodup
 Q6:td.Nodup
 sub:∀f∈td,f∈FS T
 num:n=(FS T).length
 Bd:∀f∈FS T,rB C f
theorem tK.len {C:List kv} {T:rL} {i:List kV} {n:Int} (h:tK C T i n):(FS T).length≤C.length*C.length:=by
 rw [←HM]; exact nD h.nd (λf d=>(h.Bd f d).Kf)
theorem tK.Z2 {C:List kv} {T:rL} {d:List kV} {n:Int} (h:tK C T d n):d.length≤(FS T).length:=nD h.Q6 h.sub
theorem tK.mono {C C':List kv} {T:rL} {d:List kV} {n:Int} (h:tK C T d n) (i:∀c∈C,c∈C'):tK C' T d n:=⟨h.keys,h.nd,h.Q6,h.sub,h.num,λf j=>(h.Bd f j).mono i⟩
structure Ef (T:rL) (td:List kV) (T':rL) (td':List kV):Prop where
 nL:∀f∈FS T,f∈FS T'
 todo:∀f∈td,f∈td'
 new:∀f∈FS T',f∈FS T∨f∈td'
 fresh:∀f∈td',f∈td∨f∉FS T
theorem Ef.refl (T:rL) (d:List kV):Ef T d T d:=⟨λ_ h=>h,λ_ h=>h,λ_ h=>.inl h,λ_ h=>.inl h⟩
theorem Ef.trans {T T' T'':rL} {p n d:List kV} (h:Ef T p T' n) (k:Ef T' n T'' d):Ef T p T'' d :=
 ⟨λf i=>k.nL f (h.nL f i),λf i=>k.todo f (h.todo f i),λf i=>by
  rcases k.new f i with h1 | h1
  ·rcases h.new f h1 with j | j
   ·exact .inl j
   ·exact .inr (k.todo f j)
  ·exact .inr h1,λf i=>by
  rcases k.fresh f i with h1 | h1
  ·exact h.fresh f h1
  ·exact .inr (λj=>h1 (h.nL f j))⟩
theorem MJ {α:Type} (p:α→Bool):∀l:List α,(l.filter p).length+(l.filter λx=>!p x).length=l.length
 | []=>rfl
 | x::l=>by
  have:=MJ p l
  cases h:p x <;> simp [h] <;> omega
theorem tK.Kc {C C':List kv} {T T':rL} {i d:List kV} {n v:Int} (j:tK C' T' d v) (g:tK C T i n) (x:Ef T i T' d):d.length+(FS T).length≤i.length+(FS T').length:=by
 classical
 have h1:(d.filter λf=>decide (f∈FS T)).length≤i.length:=nD (j.Q6.filter _) (λf p=>by
  have:=bU.1 p
  rcases x.fresh f this.1 with h | h
  ·exact h
  ·exact absurd (by simpa using this.2) h)
 have u:(FS T++d.filter λf=>!decide (f∈FS T)).length≤(FS T').length:=nD (cD.2 ⟨g.nd,j.Q6.filter _,λa ha b hb e=>by
  subst e
  have:=(bU.1 hb).2
  simp [ha] at this⟩) (λf p=>by
  rcases aO.1 p with h | h
  ·exact x.nL f h
  ·exact j.sub f (bU.1 h).1)
 have w:(d.filter λf=>decide (f∈FS T)).length+(d.filter λf=>!decide (f∈FS T)).length=d.length:=by
  exact MJ (λf=>decide (f∈FS T)) d
 rw [aC] at u
 omega
def GH (C:List kv) (T:rL) (n:List kV) (i:Option (List (ku×List (ByteArray×Bool))×List kV×Int)) (Q:rL→Prop):Prop :=
 ∃T' d j,i=some (mm T',d,j)∧tK C T' d j∧Ef T n T' d∧Q T'
theorem GH.mono {C:List kv} {T:rL} {n:List kV} {d:Option (List (ku×List (ByteArray×Bool))×List kV×Int)} {Q Q':rL→Prop} (h:GH C T n d Q) (v:∀T',(∀f∈FS T,f∈FS T')→Q T'→Q' T'):GH C T n d Q':=by
 obtain ⟨T',i,w,h1,p,j,u⟩:=h
 exact ⟨T',i,w,h1,p,j,v T' j.nL u⟩
def uk (C:List kv):Prop:=C.length≤1000000
theorem uk.sq {C:List kv} (h:uk C):C.length*C.length≤1000000000000:=Nat.mul_le_mul h h
theorem wu {T:rL} (hk:(T.map (·.1)).Nodup) (r:ku) (w:ByteArray):D0 lz ((mJ kR (mm T) r).getD []) w false=true↔(⟨r,w⟩:kV)∈FS T:=by
 rw [Sh,Vl,wg nE,FR hk]
theorem G9 {C:List kv} (L:uk C) {T:rL} {u:List kV} {n:Int} (h:tK C T u n) (cs:List kv) (U:List (ku×List kv)) (ws:List (ByteArray×List kv)) {r:ku} {w:ByteArray} (M:rB C ⟨r,w⟩) :
  GH C T u (qi (mm T) cs U ws u n r w) (λT'=>(⟨r,w⟩:kV)∈FS T'):=by
 unfold qi
 have P:=L.sq
 have W:=h.len
 have Q:=h.Z2
 by_cases i:(⟨r,w⟩:kV)∈FS T
 ·rw [bD ((wu h.keys r w).2 i)]
  exact ⟨T,u,n,rfl,h,Ef.refl _ _,i⟩
 ·rw [bG (λG=>i ((wu h.keys r w).1 G))]
  have O:tK C (I1 T r w) (u++[⟨r,w⟩]) (n+1):=by
   have hp:=Mn T r w
   refine ⟨VZ h.keys r w,(hp.nodup_iff).2 (cD.2 ⟨h.nd,by simp,λa ha b hb e=>?_⟩),cD.2 ⟨h.Q6,by simp,λa ha b hb e=>?_⟩,λf d=>hp.mem_iff.2 ?_,?_,λf d=>?_⟩
   ·simp at hb; subst hb; subst e; exact i ha
   ·simp at hb; subst hb; subst e; exact i (h.sub _ ha)
   ·rcases aO.1 d with d | d
    ·exact cQ _ (h.sub f d)
    ·exact ev _ d
   ·rw [hp.length_eq,h.num]; simp
   ·rcases aO.1 (hp.mem_iff.1 d) with d | d
    ·exact h.Bd f d
    ·simp at d; subst d; exact M
  have I:((if (mJ kR (mm T) r).isNone=true then ((La kR (mm T) r []).bind λl=>some l) else some (mm T)):Option _).bind (λl=>(KB kR lz l r w true))=some (mm (I1 T r w)):=by
   unfold I1 uY
   rcases xK r T with p | ⟨A,x,B,rfl,E⟩
   ·have z:=zw lj (Dz p)
    rw [z,zw lj p,Hn lj p,Iu]
    simp only [gU,aK,La,z,aA]
    rw [Hn lj (Dz p)]
    unfold KB
    rw [uj lj (Dz p)]
    simp only [ep]
    rw [AV lj (Dz p)]
    rfl
   ·have v:=Dz E
    have J:mJ kR (mm (A++(r,x)::B)) r=some (tt x):=by rw [Iu]; exact uj lj v
    rw [J,uj lj E,AV lj E]
    simp only [js,aB,aI,aA,KB,J,ep,iE]
    have R:w∉x:=λhw=>i (by
     rw [FR h.keys,uY,uj lj E]; exact hw)
    rw [Yg nE]
    rw [show ins lz x w=x++[w] from by unfold ins; rw [bG (λG=>R ((wg nE x w).1 G))]]
    rw [Iu,show mm ((r,x)::B)=(r,tt x)::mm B from rfl,AV lj v,Iu]
    rfl
  refine ⟨I1 T r w,u++[⟨r,w⟩],n+1,?_,O,⟨λf d=>(Mn T r w).mem_iff.2 (cQ _ d),λf d=>cQ _ d,λf d=>?_,λf d=>?_⟩,(Mn T r w).mem_iff.2 (by simp)⟩
  ·have j:=I
   generalize ((if (mJ kR (mm T) r).isNone=true then ((La kR (mm T) r []).bind λl=>some l) else some (mm T)):Option _)=o at j
   cases o with
   | none=>cases j
   | some l=>
    simp only [aA] at j ⊢
    rw [j]
    simp only [aA]
    rw [ns (by simp; omega) (by simp; omega)]
    simp only [aA]
    rw [mc (by rw [h.num]; omega) (by rw [h.num]; omega)]
  ·rcases aO.1 ((Mn T r w).mem_iff.1 d) with h1 | h1
   ·exact .inl h1
   ·exact .inr (ev _ h1)
  ·rcases aO.1 d with h1 | h1
   ·exact .inl h1
   ·simp at h1; subst h1; exact .inr i
theorem DT (l:List ByteArray) (x:ByteArray):x∈yF l↔x∈l:=by unfold yF; simp
def vw (C:List kv):Prop:=∀c∈C,mM c=true
theorem UG {c:kv} (h:mM c=true) (hk:c.Kind=1):c.lO.size≤16:=by
 rcases qh h with h | h | h | h
 ·exact (oT h.2.1).2
 ·exact absurd (hk.symm.trans h.1) (by decide)
 ·exact absurd (hk.symm.trans h.1) (by decide)
 ·exact absurd (hk.symm.trans h.1) (by decide)
theorem Vq {T:rL} (r:ku) (hk:(T.map (·.1)).Nodup):(uY T r).length≤(FS T).length:=by
 unfold uY
 rcases xK r T with i | ⟨A,x,B,rfl,d⟩
 ·rw [zw lj i]; simp
 ·rw [uj lj d]
  simp only [FS,iW,iz,aC,bT,iE]
  omega
theorem Mu {C:List kv} (d:uk C) (i:vw C) {T:rL} {v:List kV} {n:Int} (h:tK C T v n) (cs:List kv) (x:List (ku×List kv)) (ws:List (ByteArray×List kv)) (q:List kV) (z:Int) (r:ku) :
  tT (mm T) cs x ws q z r=some (yF (uY T r)):=by
 unfold tT rl
 rw [Sh]
 simp only [aA,pI]
 have G:=Vq r h.keys
 have A:=h.len
 have E:=d.sq
 unfold Lp
 rw [Yn,bD]
 refine ⟨QK h.nd r,λp hp=>?_,by rw [Uq]; omega⟩
 simp only [tt,aS] at hp
 obtain ⟨w,hw,rfl⟩:=hp
 have u:=h.Bd ⟨r,w⟩ ((FR h.keys ⟨r,w⟩).2 hw)
 obtain ⟨c,j,hk,e⟩:=u.Q0
 have:=UG (i c j) hk
 simp only at e ⊢
 rw [←e]
 unfold maxLen
 omega
theorem TW {C:List kv} (u:uk C) (cs:List kv) (p:List (ku×List kv)) (ws:List (ByteArray×List kv)) (head:ku):∀(l:List ByteArray) {T:rL} {d:List kV} {n:Int},tK C T d n→(∀w∈l,rB C ⟨head,w⟩)→
  GH C T d (te cs p ws head l (mm T) d n) (λT'=>∀w∈l,(⟨head,w⟩:kV)∈FS T')
 | [],T,d,n,h,_=>⟨T,d,n,rfl,h,Ef.refl _ _,λ_ hw=>by cases hw⟩
 | w::l,T,d,n,h,x=>by
  rw [te]
  obtain ⟨T1,J,L,z,g1,x1,G⟩:=G9 u h cs p ws (x w (by simp))
  rw [z]
  simp only [aA]
  obtain ⟨T2,j,E,A,g2,x2,I⟩:=TW u cs p ws head l g1 (λw hw=>x w (by simp [hw]))
  refine ⟨T2,j,E,A,g2,x1.trans x2,λv i=>?_⟩
  rcases aP.1 i with rfl | i
  ·exact x2.nL _ G
  ·exact I v i
theorem Y8 {C:List kv} (i:uk C) (p:vw C) {T:rL} {d:List kV} {n:Int} (h:tK C T d n) (cs:List kv) (j:List (ku×List kv)) (ws:List (ByteArray×List kv)) (r head:ku) (u:∀w,(⟨r,w⟩:kV)∈FS T→rB C ⟨head,w⟩) :
  GH C T d (xl (mm T) cs j ws d n r head) (λT'=>∀w,(⟨r,w⟩:kV)∈FS T→(⟨head,w⟩:kV)∈FS T'):=by
 unfold xl
 rw [Mu i p h]
 simp only [aA]
 refine (TW i cs j ws head _ h (λw hw=>u w ((FR h.keys ⟨r,w⟩).2 ((DT _ _).1 hw)))).mono (λT' _ v w hw=>v w ((DT _ _).2 ((FR h.keys ⟨r,w⟩).1 hw)))
def Jn (c:kv) (f:kV) (T T':rL):Prop :=
 (c.Kind=2→f.ku=c.B→(⟨c.Head,f.lO⟩:kV)∈FS T')∧
 (c.Kind=3→f.ku=c.B→∀w,(⟨⟨f.lO,c.mg⟩,w⟩:kV)∈FS T→(⟨c.Head,w⟩:kV)∈FS T')∧
 (c.Kind=4→(⟨c.B,f.lO⟩:kV)∈FS T→(⟨c.C,f.lO⟩:kV)∈FS T→(⟨c.Head,f.lO⟩:kV)∈FS T')
theorem Jn.mono {c:kv} {f:kV} {T T' T0 T1:rL} (h:Jn c f T T') (i:∀f∈FS T0,f∈FS T) (h1:∀f∈FS T',f∈FS T1):Jn c f T0 T1 :=
 ⟨λa b=>h1 _ (h.1 a b),λa b w hw=>h1 _ (h.2.1 a b w (i _ hw)),λa b d=>h1 _ (h.2.2 a (i _ b) (i _ d))⟩
theorem XA (x:Option (List (ku×List (ByteArray×Bool))×List kV×Int)):(x.bind λr=>some (r.1,r.2.1,r.2.2))=x:=by cases x <;> rfl
theorem TZ {C:List kv} (A:uk C) (L:vw C) {T:rL} {p:List kV} {n:Int} (h:tK C T p n) (cs:List kv) (v:List (ku×List kv)) (ws:List (ByteArray×List kv)) {c:kv} (E:c∈C) {f:kV} (I:f∈FS T) (J:f.ku∈qW c) :
  GH C T p (uJ (mm T) cs v ws p n c f) (Jn c f T):=by
 unfold uJ
 simp only [XA,GR]
 by_cases d:c.Kind=2
 ·have z:f.ku=c.B:=by simpa [qW,d] using J
  rw [bD (by simp [d])]
  have G:rB C ⟨c.Head,f.lO⟩:=.inc c f.lO E d (by rw [←z]; exact h.Bd f I)
  refine (G9 A h cs v ws G).mono (λT' _ j=>⟨λ_ _=>j,λk=>absurd (d.symm.trans k) (by decide),λk=>absurd (d.symm.trans k) (by decide)⟩)
 rw [bG (by simp [d])]
 by_cases i:c.Kind=3
 ·have z:f.ku=c.B:=by simpa [qW,i] using J
  rw [bD (by simp [i])]
  refine (Y8 A L h cs v ws ⟨f.lO,c.mg⟩ c.Head (λw hw=>.Lv c f.lO w E i (by rw [←z]; exact h.Bd f I) (h.Bd _ hw))).mono (λT' _ j=>⟨λk=>absurd k d,λ_ _ w hw=>j w hw,λk=>absurd (i.symm.trans k) (by decide)⟩)
 rw [bG (by simp [i])]
 by_cases u:c.Kind=4
 ·rw [bD (by simp [u])]
  simp only [aA]
  by_cases hb:(⟨c.B,f.lO⟩:kV)∈FS T∧(⟨c.C,f.lO⟩:kV)∈FS T
  ·rw [bD (by rw [bn,wu h.keys,wu h.keys]; exact hb)]
   have G:rB C ⟨c.Head,f.lO⟩:=.both c f.lO E u (h.Bd _ hb.1) (h.Bd _ hb.2)
   exact (G9 A h cs v ws G).mono (λT' _ j=>⟨λk=>absurd k d,λk=>absurd k i,λ_ _ _=>j⟩)
  ·rw [bG (by rw [bn,wu h.keys,wu h.keys]; exact hb)]
   exact ⟨T,p,n,rfl,h,Ef.refl _ _,λk=>absurd k d,λk=>absurd k i,λ_ x y=>absurd ⟨x,y⟩ hb⟩
 ·rw [bG (by simp [u])]
  exact ⟨T,p,n,rfl,h,Ef.refl _ _,λk=>absurd k d,λk=>absurd k i,λk=>absurd k u⟩
theorem O6 {C:List kv} (u:uk C) (x:vw C) (cs:List kv) (p:List (ku×List kv)) (ws:List (ByteArray×List kv)) {c:kv} (z:c∈C) (A:c.B∈qW c):∀(l:List ByteArray) {T:rL} {d:List kV} {n:Int},tK C T d n→(∀w∈l,(⟨c.B,w⟩:kV)∈FS T)→
  GH C T d (rW cs p ws c l (mm T) d n) (λT'=>∀w∈l,Jn c ⟨c.B,w⟩ T T')
 | [],T,d,n,h,_=>⟨T,d,n,rfl,h,Ef.refl _ _,λ_ hw=>by cases hw⟩
 | w::l,T,d,n,h,hm=>by
  rw [rW]
  obtain ⟨T1,M,O,E,g1,x1,J⟩:=TZ u x h cs p ws z (f:=⟨c.B,w⟩) (hm w (by simp)) A
  rw [E]
  simp only [aA]
  obtain ⟨T2,j,I,G,g2,x2,L⟩:=O6 u x cs p ws z A l g1 (λw hw=>x1.nL _ (hm w (by simp [hw])))
  refine ⟨T2,j,I,G,g2,x1.trans x2,λv i=>?_⟩
  rcases aP.1 i with rfl | i
  ·exact J.mono (λ_ h=>h) x2.nL
  ·exact (L v i).mono x1.nL (λ_ h=>h)
def JX (c:kv) (T:rL) (d:List kV):Prop :=
 (c.Kind=1→(⟨c.Head,c.lO⟩:kV)∈FS T)∧
 (c.Kind=2→∀w,(⟨c.B,w⟩:kV)∈FS T→(⟨c.B,w⟩:kV)∉d→(⟨c.Head,w⟩:kV)∈FS T)∧
 (c.Kind=3→∀b w,(⟨c.B,b⟩:kV)∈FS T→(⟨c.B,b⟩:kV)∉d→(⟨⟨b,c.mg⟩,w⟩:kV)∈FS T→(⟨⟨b,c.mg⟩,w⟩:kV)∉d→(⟨c.Head,w⟩:kV)∈FS T)∧
 (c.Kind=4→∀w,(⟨c.B,w⟩:kV)∈FS T→(⟨c.B,w⟩:kV)∉d→(⟨c.C,w⟩:kV)∈FS T→(⟨c.C,w⟩:kV)∉d→(⟨c.Head,w⟩:kV)∈FS T)
theorem JX.ext {c:kv} {T T':rL} {j d:List kV} (h:JX c T j) (x:Ef T j T' d):JX c T' d:=by
 have nL:∀f,f∈FS T'→f∉d→f∈FS T∧f∉j:=λf u n=>by
  rcases x.new f u with h1 | h1
  ·exact ⟨h1,λp=>n (x.todo f p)⟩
  ·exact absurd h1 n
 refine ⟨λk=>x.nL _ (h.1 k),λk w a b=>?_,λk b w i a2 a3 a4=>?_,λk w i a2 a3 a4=>?_⟩
 ·exact x.nL _ (h.2.1 k w (nL _ a b).1 (nL _ a b).2)
 ·exact x.nL _ (h.2.2.1 k b w (nL _ i a2).1 (nL _ i a2).2 (nL _ a3 a4).1 (nL _ a3 a4).2)
 ·exact x.nL _ (h.2.2.2 k w (nL _ i a2).1 (nL _ i a2).2 (nL _ a3 a4).1 (nL _ a3 a4).2)
theorem WX {C:List kv} (p:uk C) (A:vw C) {T:rL} {v:List kV} {n:Int} (h:tK C T v n) (cs:List kv) (z:List (ku×List kv)) (ws:List (ByteArray×List kv)) {c:kv} (E:c∈C) :
  ∃T' d i,vM (mm T) cs z ws v n c=some (mm T',d,i)∧tK C T' d i∧Ef T v T' d∧JX c T' d:=by
 unfold vM
 simp only [XA]
 by_cases h1:c.Kind=1
 ·rw [bD (by simp [h1])]
  obtain ⟨T',d,i,e,g,x,q⟩:=G9 p h cs z ws (rB.mem c E h1)
  exact ⟨T',d,i,e,g,x,λ_=>q,λk=>absurd (h1.symm.trans k) (by decide),λk=>absurd (h1.symm.trans k) (by decide),λk=>absurd (h1.symm.trans k) (by decide)⟩
 ·rw [bG (by simp [h1]),Mu p A h]
  simp only [aA]
  have J:c.B∈qW c:=by unfold qW; rw [bG h1]; split <;> simp
  obtain ⟨T',d,i,e,g,x,q⟩:=O6 p A cs z ws E J (yF (uY T c.B)) h (λw hw=>(FR h.keys ⟨c.B,w⟩).2 ((DT _ _).1 hw))
  have nL:∀f,f∈FS T'→f∉d→f∈FS T:=λf G I=>by
   rcases x.new f G with h1 | h1
   ·exact h1
   ·exact absurd h1 I
  have u:∀w,(⟨c.B,w⟩:kV)∈FS T→Jn c ⟨c.B,w⟩ T T':=λw hw=>q w ((DT _ _).2 ((FR h.keys ⟨c.B,w⟩).1 hw))
  refine ⟨T',d,i,e,g,x,λk=>absurd k h1,λk w a b=>?_,λk b w j a2 a3 a4=>?_,λk w j a2 a3 a4=>?_⟩
  ·exact (u w (nL _ a b)).1 k rfl
  ·exact (u b (nL _ j a2)).2.1 k rfl w (nL _ a3 a4)
  ·exact (u w (nL _ j a2)).2.2 k (nL _ j a2) (nL _ a3 a4)
structure IS (C:List kv) (us:List (ku×List kv)) (ws:List (ByteArray×List kv)):Prop where
 VC:∀r c,c∈(mJ kR us r).getD []↔c∈C∧r∈qW c
 word:∀w c,c∈(mJ lz ws w).getD []↔c∈C∧c.Kind=3∧c.mg=w
 ZE:∀r,((mJ kR us r).getD []).length≤2*C.length
 ZO:∀w,((mJ lz ws w).getD []).length≤C.length
theorem NA {C:List kv} (u:uk C) (w:vw C) (cs:List kv) (p:List (ku×List kv)) (ws:List (ByteArray×List kv)) {f:kV}:∀(l:List kv) {T:rL} {d:List kV} {n:Int},tK C T d n→f∈FS T→(∀c∈l,c∈C∧f.ku∈qW c)→
  GH C T d (rG cs p ws f l (mm T) d n) (λT'=>∀c∈l,Jn c f T T')
 | [],T,d,n,h,_,_=>⟨T,d,n,rfl,h,Ef.refl _ _,λ_ hw=>by cases hw⟩
 | c::l,T,d,n,h,x,hm=>by
  rw [rG]
  obtain ⟨T1,L,M,z,g1,x1,I⟩:=TZ u w h cs p ws (hm c (by simp)).1 x (hm c (by simp)).2
  rw [z]
  simp only [aA]
  obtain ⟨T2,j,G,A,g2,x2,J⟩:=NA u w cs p ws l g1 (x1.nL _ x) (λc E=>hm c (by simp [E]))
  refine ⟨T2,j,G,A,g2,x1.trans x2,λv i=>?_⟩
  rcases aP.1 i with rfl | i
  ·exact I.mono (λ_ h=>h) x2.nL
  ·exact (J v i).mono x1.nL (λ_ h=>h)
theorem IC {C:List kv} (x:uk C) (J:vw C) (cs:List kv) (u:List (ku×List kv)) (ws:List (ByteArray×List kv)) {f:kV}:∀(l:List kv) {T:rL} {p:List kV} {n:Int},tK C T p n→f∈FS T→(∀c∈l,c∈C∧c.Kind=3∧c.mg=f.ku.Word)→
  GH C T p (qo f cs u ws l (mm T) p n) (λT'=>∀c∈l,(⟨c.B,f.ku.kw⟩:kV)∈FS T→(⟨c.Head,f.lO⟩:kV)∈FS T')
 | [],T,p,n,h,_,_=>⟨T,p,n,rfl,h,Ef.refl _ _,λ_ hw=>by cases hw⟩
 | c::l,T,p,n,h,A,hm=>by
  rw [qo]
  have hk:=hm c (by simp)
  by_cases hb:(⟨c.B,f.ku.kw⟩:kV)∈FS T
  ·rw [bD ((wu h.keys _ _).2 hb)]
   have E:f=⟨⟨f.ku.kw,c.mg⟩,f.lO⟩:=by rw [hk.2.2]
   have M:rB C ⟨c.Head,f.lO⟩:=.Lv c f.ku.kw f.lO hk.1 hk.2.1 (h.Bd _ hb) (by rw [←E]; exact h.Bd f A)
   obtain ⟨T1,Q,R,L,g1,x1,P⟩:=G9 x h cs u ws M
   rw [L]
   simp only [aA]
   obtain ⟨T2,j,G,w,g2,x2,I⟩:=IC x J cs u ws l g1 (x1.nL _ A) (λc z=>hm c (by simp [z]))
   refine ⟨T2,j,G,w,g2,x1.trans x2,λv i d=>?_⟩
   rcases aP.1 i with rfl | i
   ·exact x2.nL _ P
   ·exact I v i (x1.nL _ d)
  ·rw [bG (λO=>hb ((wu h.keys _ _).1 O))]
   obtain ⟨T2,j,G,w,g2,x2,I⟩:=IC x J cs u ws l h A (λc z=>hm c (by simp [z]))
   refine ⟨T2,j,G,w,g2,x2,λv i d=>?_⟩
   rcases aP.1 i with rfl | i
   ·exact absurd d hb
   ·exact I v i d
theorem N1 {C:List kv} (P:uk C) (Q:vw C) {cs:List kv} {M:List (ku×List kv)} {ws:List (ByteArray×List kv)} (G:IS C M ws):∀(m:Nat) {T:rL} {p:List kV} {n:Int},tK C T p n→(∀c∈C,JX c T p)→C.length*C.length+p.length < m+(FS T).length→
  ∃T' W,pF cs M ws m (mm T) p n=some (mm T',[],W)∧tK C T' [] W∧(∀c∈C,JX c T' [])∧(∀f∈FS T,f∈FS T')
 | 0,T,p,n,h,_,hm=>by have:=h.len; omega
 | m+1,T,[],n,h,v,hm=>by
  rw [pF]
  exact ⟨T,n,rfl,h,v,λ_ h=>h⟩
 | m+1,T,f::p,n,h,v,hm=>by
  rw [pF]
  rw [bD (by simp)]
  have U:f∈FS T:=h.sub f (by simp)
  have hn:=(dO.1 h.Q6)
  simp only [lD,Int.le_refl,aK,Int.toNat_zero,gY,aA]
  rw [show vB (decide ((0:Nat)≤1)&&decide ((1:Int)≤((f::p).length:Int)))=some () by simp [vB]; omega]
  simp only [aA,show Int.toNat 1=1 from rfl,List.drop_one,List.tail_cons]
  have R:tK C T p n:=⟨h.keys,h.nd,hn.2,λg J=>h.sub g (by simp [J]),h.num,h.Bd⟩
  obtain ⟨T1,a6,n1,Z,g1,x1,q1⟩:=NA P Q cs M ws ((mJ kR M f.ku).getD []) R U (λc i=>(G.VC _ c).1 i)
  rw [Z]
  simp only [aA]
  obtain ⟨T2,z,n2,e2,g2,x2,q2⟩:=IC P Q cs M ws ((mJ lz ws f.ku.Word).getD []) g1 (x1.nL _ U) (λc i=>(G.word _ c).1 i)
  rw [e2]
  simp only [aA]
  have x:=x1.trans x2
  have nL:∀g,g∈FS T2→g∉z→g∈FS T∧(g=f∨g∉f::p):=λg J L=>by
   rcases x.new g J with h1 | h1
   ·refine ⟨h1,?_⟩
    by_cases he:g=f
    ·exact .inl he
    ·exact .inr (λE=>by
      rcases aP.1 E with E | E
      ·exact he E
      ·exact L (x.todo g E))
   ·exact absurd h1 L
  have d1:∀c∈C,f.ku∈qW c→Jn c f T T2:=λc i hr=>(q1 c ((G.VC _ c).2 ⟨i,hr⟩)).mono (λ_ h=>h) x2.nL
  have I:∀c∈C,JX c T2 z:=λc i=>by
   have k:=v c i
   refine ⟨λhk=>x.nL _ (k.1 hk),λhk w a b=>?_,λhk b w O a2 a3 a4=>?_,λhk w O a2 a3 a4=>?_⟩
   ·obtain ⟨u,d⟩:=nL _ a b
    rcases d with d | d
    ·subst d; exact (d1 c i (by simp [qW,hk])).1 hk rfl
    ·exact x.nL _ (k.2.1 hk w u d)
   ·obtain ⟨u,d⟩:=nL _ O a2
    obtain ⟨A,j⟩:=nL _ a3 a4
    rcases d with d | d
    ·subst d; exact (d1 c i (by simp [qW,hk])).2.1 hk rfl w A
    ·rcases j with j | j
     ·subst j
      exact q2 c ((G.word _ c).2 ⟨i,hk,rfl⟩) (x1.nL _ u)
     ·exact x.nL _ (k.2.2.1 hk b w u d A j)
   ·obtain ⟨u,d⟩:=nL _ O a2
    obtain ⟨A,j⟩:=nL _ a3 a4
    rcases d with d | d
    ·subst d; exact (d1 c i (by simp [qW,hk])).2.2 hk u A
    ·rcases j with j | j
     ·subst j; exact (d1 c i (by simp [qW,hk])).2.2 hk u A
     ·exact x.nL _ (k.2.2.2 hk w u d A j)
  have hlen:z.length+(FS T).length≤p.length+(FS T2).length:=by
   exact g2.Kc R x
  obtain ⟨T3,n3,e3,g3,Y,o3⟩:=N1 P Q G m g2 I (by simp only [aG] at hm; omega)
  exact ⟨T3,n3,e3,g3,Y,λg J=>o3 g (x.nL g J)⟩
theorem RZ (c:kv):∀(l:List kv) (i:Nat),∃z,ta c l i=some z∧(z≥0↔c∈l)
 | [],i=>⟨-1,rfl,by simp⟩
 | x::l,i=>by
  rw [ta]
  by_cases h:ll c x=true
  ·rw [bD h]
   exact ⟨_,rfl,by simp [om.1 h]⟩
  ·rw [bG h]
   obtain ⟨z,e,j⟩:=RZ c l (i+1)
   refine ⟨z,e,?_⟩
   rw [j,aP]
   exact ⟨.inr,λd=>d.resolve_left (λe=>h (om.2 e))⟩
theorem PY (c:kv) (l:List kv):∃b,wA l c=some b∧(b=true↔c∈l):=by
 obtain ⟨z,e,d⟩:=RZ c l 0
 refine ⟨decide (z≥0),?_,by simpa using d⟩
 unfold wA vo zK
 rw [e]
 rfl
theorem Rj (c:kv) (ws:List (ByteArray×List kv)) (C:List kv) (hw:∀w,((mJ lz ws w).getD []).length≤2000000):∀(p:List ku) (d:List (ku×List kv)),(∀r,((mJ kR d r).getD []).length+p.length≤4000000)→
  ∃j n,qY c ws C p d=some (C,j,n)∧(∀r x,x∈(mJ kR j r).getD []↔x∈(mJ kR d r).getD []∨(x=c∧r∈p))∧
   (∀w x,x∈(mJ lz n w).getD []↔x∈(mJ lz ws w).getD []∨(x=c∧c.Kind=3∧w=c.mg))∧(∀r,((mJ kR j r).getD []).length≤((mJ kR d r).getD []).length+p.length)∧
   (∀w,((mJ lz n w).getD []).length≤((mJ lz ws w).getD []).length+1)
 | [],d,_=>by
  rw [qY]
  by_cases u:c.Kind=3
  ·rw [bD (by simp [u])]
   have h:=hw c.mg
   rw [ns (by simp; omega) (by simp; omega)]
   simp only [aA]
   refine ⟨d,_,rfl,by simp,λw x=>?_,by simp,λw=>?_⟩
   ·rw [IX nE]
    by_cases hk:lz w c.mg=true
    ·rw [bD hk,nE.1 hk]; simp [u]
    ·rw [bG hk]
     have:w≠c.mg:=λe=>hk (nE.2 e)
     simp [this]
   ·rw [IX nE]
    by_cases hk:lz w c.mg=true
    ·rw [bD hk,nE.1 hk]; simp
    ·rw [bG hk]; exact jt _
  ·rw [bG (by simp [u])]
   exact ⟨d,ws,rfl,by simp,by simp [u],by simp,by simp⟩
 | r0::p,d,v=>by
  rw [qY]
  have h:=v r0
  simp only [aG] at h
  rw [ns (by simp; omega) (by simp; omega)]
  simp only [aA]
  have i:∀r,(mJ kR (qK kR d r0 (((mJ kR d r0).getD [])++[c])) r).getD []=if kR r r0=true then ((mJ kR d r0).getD [])++[c] else (mJ kR d r).getD []:=λr=>by
   rw [IX lj]; by_cases hk:kR r r0=true
   ·rw [bD hk,bD hk]; rfl
   ·rw [bG hk,bG hk]
  obtain ⟨j,n,e,z,a2,a3,a4⟩:=Rj c ws C hw p (qK kR d r0 (((mJ kR d r0).getD [])++[c])) (λr=>by
   rw [i r]
   have A:=v r
   simp only [aG] at A
   by_cases hk:kR r r0=true
   ·rw [bD hk]; simp; omega
   ·rw [bG hk]; omega)
  refine ⟨j,n,e,λr x=>?_,a2,λr=>?_,a4⟩
  ·rw [z,i]
   by_cases hk:kR r r0=true
   ·rw [bD hk,lj.1 hk]
    simp only [aO,aP,dv,fl]
    constructor
    ·rintro ((h | h) | h)
     ·exact .inl h
     ·exact .inr ⟨h,.inl trivial⟩
     ·exact .inr ⟨h.1,.inr h.2⟩
    ·rintro (h | h)
     ·exact .inl (.inl h)
     ·exact .inl (.inr h.1)
   ·rw [bG hk]
    have:r≠r0:=λe=>hk (lj.2 e)
    simp [this]
  ·have:=a3 r
   rw [i r] at this
   by_cases hk:kR r r0=true
   ·rw [bD hk] at this; rw [lj.1 hk] at this ⊢; simp at this ⊢; omega
   ·rw [bG hk] at this; simp; omega
theorem Yc {C:List kv} {v:List (ku×List kv)} {ws:List (ByteArray×List kv)} (u:IS C v ws) (I:C.length+1≤1000000) {c:kv} (A:mM c=true) (i:List (ku×List (ByteArray×Bool))) (G:List kV) (n:Int) :
  ∃d j,wy i C v ws G n c=some (C++[c],d,j)∧IS (C++[c]) d j:=by
 unfold wy
 rw [ns (by simp; omega) (by simp; omega)]
 simp only [aA,YV A]
 rw [show vB (decide ((0:Nat)≤1)&&decide ((1:Int)≤((c.Head::qW c).length:Int)))=some () by simp [vB]; omega]
 simp only [aA,show Int.toNat 1=1 from rfl,List.drop_one,List.tail_cons]
 have E:(qW c).length≤2:=by unfold qW; split; simp; split <;> simp
 obtain ⟨d,j,e,z,a2,a3,a4⟩:=Rj c ws (C++[c]) (λw=>by have:=u.ZO w; omega) (qW c) v (λr=>by have:=u.ZE r; omega)
 refine ⟨d,j,e,λr x=>?_,λw x=>?_,λr=>?_,λw=>?_⟩
 ·rw [z,u.VC,aO,bO]
  constructor
  ·rintro (h | h)
   ·exact ⟨.inl h.1,h.2⟩
   ·exact ⟨.inr h.1,by rw [h.1]; exact h.2⟩
  ·rintro ⟨h | h,p⟩
   ·exact .inl ⟨h,p⟩
   ·exact .inr ⟨h,by rw [←h]; exact p⟩
 ·rw [a2,u.word,aO,bO]
  constructor
  ·rintro (h | h)
   ·exact ⟨.inl h.1,h.2⟩
   ·exact ⟨.inr h.1,by rw [h.1]; exact ⟨h.2.1,h.2.2.symm⟩⟩
  ·rintro ⟨h | h,p⟩
   ·exact .inl ⟨h,p⟩
   ·subst h; exact .inr ⟨rfl,p.1,p.2.symm⟩
 ·have:=a3 r; have:=u.ZE r; simp; omega
 ·have:=a4 w; have:=u.ZO w; simp; omega
structure MS (C:List kv) (T:rL) (us:List (ku×List kv)) (ws:List (ByteArray×List kv)) (n:Int):Prop where
 Ix:tK C T [] n
 cl:∀c∈C,JX c T []
 aaQ:IS C us ws
 right:vw C
theorem MS.all {C:List kv} {T:rL} {u:List (ku×List kv)} {ws:List (ByteArray×List kv)} {n:Int} (h:MS C T u ws n) (f:kV):f∈FS T↔rB C f:=by
 refine ⟨h.Ix.Bd f,λp=>?_⟩
 induction p with
 | mem c d hk=>exact (h.cl c d).1 hk
 | inc c w d hk _ ih=>exact (h.cl c d).2.1 hk w ih (by simp)
 | Lv c b w d hk _ _ i j=>exact (h.cl c d).2.2.1 hk b w i (by simp) j (by simp)
 | both c w d hk _ _ i j=>exact (h.cl c d).2.2.2 hk w i (by simp) j (by simp)
theorem Pp (w:Int) (L:0≤w∧w≤1000000000000):∀(l:List kv) {C:List kv} {T:rL} {v:List kV} {M:List (ku×List kv)} {ws:List (ByteArray×List kv)} {n:Int},tK C T v n→(∀c∈C,JX c T v)→IS C M ws→vw C→C.length+l.length≤1000000→
  ∃C' T' d i p,qm w l (mm T) C M ws v n=some (p-w,mm T',C',d,i,[],p)∧MS C' T' d i p∧(∀c,c∈C'↔c∈C∨(c∈l∧mM c=true))∧C'.length≤C.length+l.length∧(∀f∈FS T,f∈FS T')
 | [],C,T,v,M,ws,n,g,j,E,z,Y=>by
  rw [qm]
  have hC:uk C:=by unfold uk; simp at Y; omega
  have ab:=hC.sq
  have hlen:=g.len
  have ad:=g.Z2
  obtain ⟨T',p,e,Q,c',o⟩:=N1 hC z E (cs:=C) kY g j (by rw [zy]; omega)
  unfold yc
  rw [e]
  simp only [aA]
  have Z:=Q.len
  have aa:=Q.num
  rw [mc (by omega) (by omega)]
  exact ⟨C,T',M,ws,p,rfl,⟨Q,c',E,z⟩,by simp,by simp,o⟩
 | x::l,C,T,v,M,ws,n,g,j,E,z,Y=>by
  rw [qm,xT]
  simp only [aG] at Y
  obtain ⟨b,hb,G⟩:=PY x C
  simp only [aA,hb,GR]
  by_cases u:mM x=true∧x∉C
  ·have U:b=false:=by cases b with | false=>rfl | true=>exact absurd (G.1 rfl) u.2
   rw [u.1,U]
   simp only [cR,gS,aK]
   obtain ⟨a7,a8,e1,U1⟩:=Yc E (by omega) u.1 (mm T) v n
   rw [e1]
   simp only [aA]
   have R:uk (C++[x]):=by unfold uk; simp; omega
   have A:vw (C++[x]):=λc I=>by
    rcases aO.1 I with h | h
    ·exact z c h
    ·simp at h; subst h; exact u.1
   have g1:tK (C++[x]) T v n:=g.mono (λc I=>cQ _ I)
   obtain ⟨T2,a6,n2,e2,g2,x2,c2⟩:=WX R A g1 (C++[x]) a7 a8 (c:=x) (by simp)
   rw [e2]
   simp only [aA]
   have J:∀c∈C++[x],JX c T2 a6:=λc I=>by
    rcases aO.1 I with h | h
    ·exact (j c h).ext x2
    ·simp at h; subst h; exact c2
   obtain ⟨C',T',d,i,p,e,m,P,a2,a3⟩:=Pp w L l g2 J U1 A (by simp; omega)
   refine ⟨C',T',d,i,p,e,m,λc=>?_,by simp at a2 ⊢; omega,λf W=>a3 f (x2.nL f W)⟩
   rw [P]
   simp only [aO,aP,dv,fl]
   constructor
   ·rintro ((h | h) | h)
    ·exact .inl h
    ·subst h; exact .inr ⟨.inl rfl,u.1⟩
    ·exact .inr ⟨.inr h.1,h.2⟩
   ·rintro (h | ⟨h | h,O⟩)
    ·exact .inl (.inl h)
    ·exact .inl (.inr h)
    ·exact .inr ⟨h,O⟩
  ·have W:(mM x&&!b)=false:=by
    cases hr:mM x with
    | false=>rfl
    | true=>
     have:x∈C:=fu λhn=>u ⟨hr,hn⟩
     rw [G.2 this]; rfl
   rw [W]
   simp only [aB,aI]
   obtain ⟨C',T',d,i,p,e,m,P,a2,a3⟩:=Pp w L l g j E z (by omega)
   refine ⟨C',T',d,i,p,e,m,λc=>?_,by simp; omega,a3⟩
   rw [P,aP]
   constructor
   ·rintro (h | h)
    ·exact .inl h
    ·exact .inr ⟨.inr h.1,h.2⟩
   ·rintro (h | ⟨h | h,O⟩)
    ·exact .inl h
    ·subst h
     exact .inl (fu λhn=>u ⟨O,hn⟩)
    ·exact .inr ⟨h,O⟩
theorem YO {C:List kv} {T:rL} {p:List (ku×List kv)} {ws:List (ByteArray×List kv)} {n:Int} (h:MS C T p ws n) (l:List kv) (v:C.length+l.length≤1000000) :
  ∃C' T' d i j,xj (mm T) C p ws [] n l=some (j-n,mm T',C',d,i,[],j)∧MS C' T' d i j∧(∀c,c∈C'↔c∈C∨(c∈l∧mM c=true))∧C'.length≤C.length+l.length∧(∀f∈FS T,f∈FS T'):=by
 have u:uk C:=by unfold uk; omega
 have h1:=h.Ix.len
 have w:=u.sq
 have x:=h.Ix.num
 exact Pp n ⟨by omega,by omega⟩ l h.Ix h.cl h.aaQ h.right v
theorem IS.zero:IS [] [] []:=⟨λr c=>by simp [mJ],λw c=>by simp [mJ],λr=>by simp [mJ],λw=>by simp [mJ]⟩
theorem tK.zero:tK [] [] [] 0:=⟨by simp,by simp [FS],by simp,by simp,by simp [FS],by simp [FS]⟩
theorem MS.zero:MS [] [] [] [] 0:=⟨tK.zero,λc d=>(by cases d),IS.zero,λc d=>(by cases d)⟩
theorem SO (l:List kv) (u:l.length≤1000000):∃C T j ws n,AI l=some (mm T,C,j,ws,[],n)∧MS C T j ws n∧(∀c,c∈C↔c∈l∧mM c=true)∧C.length≤l.length:=by
 unfold AI
 obtain ⟨C',T',d,i,v,e,m,p,a2,a3⟩:=YO MS.zero l (by simpa using u)
 rw [show xj [] [] [] [] [] 0 l=_ from e]
 exact ⟨C',T',d,i,v,rfl,m,by simpa using p,by simpa using a2⟩
theorem rB.congr {C C':List kv} (h:∀c,c∈C↔c∈C') (f:kV):rB C f↔rB C' f:=⟨λd=>d.mono (λc i=>(h c).1 i),λd=>d.mono (λc i=>(h c).2 i)⟩
def Dh (a b:kV):Bool:=wY a.ku b.ku||(kR a.ku b.ku&&tE a.lO b.lO)
theorem E1 {a b:kV}:Dh a b=true↔wY a.ku b.ku=true∨(a.ku=b.ku∧tE a.lO b.lO=true):=by simp [Dh,lj]
def HS (_:kV):Bool:=true
theorem Mp:DH (λa b=>Dh a b=true) (λx=>HS x=true):=by
 have H:=CK (λ_=>True)
 refine ⟨λx _=>?_,λx y z _ _ _ h1 d=>?_,λx y _ _=>?_⟩
 ·rw [E1]
  rintro (h | ⟨_,h⟩)
  ·exact H.irrefl _ trivial h
  ·rw [wv] at h; cases h
 ·rw [E1] at *
  rcases h1 with h1 | ⟨j,h1⟩
  ·rcases d with d | ⟨i,d⟩
   ·exact .inl (H.trans _ _ _ trivial trivial trivial h1 d)
   ·exact .inl (by rw [←i]; exact h1)
  ·rcases d with d | ⟨i,d⟩
   ·exact .inl (by rw [j]; exact d)
   ·exact .inr ⟨j.trans i,Ek h1 d⟩
 ·simp only [E1]
  rcases H.total x.ku y.ku trivial trivial with h | h | h
  ·exact .inl (.inl h)
  ·rcases D9 x.lO y.lO with d | d | d
   ·exact .inl (.inr ⟨h,d⟩)
   ·refine .inr (.inl ?_)
    cases x; cases y; simp at h d; simp [h,d]
   ·exact .inr (.inr (.inr ⟨h.symm,d⟩))
  ·exact .inr (.inr (.inl h))
theorem Mr (a b:ByteArray):rX a b=0↔a=b:=by unfold rX; rw [KY]; exact ⟨yr,λh=>by rw [h]⟩
theorem aae (a b:ByteArray):rX a b < 0↔tE a b=true:=by rw [Cg]; exact Hb _ _
theorem U4 (a b:ku):∃c,ov a b=some c∧(c < 0↔wY a b=true)∧(c=0↔a=b):=by
 obtain ⟨c,e,h⟩:=yn a b
 refine ⟨c,e,h,?_⟩
 unfold ov at e
 simp only [sK,pV,aA,yv,vK,pI] at e
 by_cases d:rX a.kw b.kw=0
 ·rw [bG (by simp [d])] at e
  have h1:=(Mr _ _).1 d
  by_cases i:rX a.Word b.Word=0
  ·rw [bG (by simp [i])] at e
   have j:=(Mr _ _).1 i
   cases e
   refine ⟨λ_=>?_,λ_=>rfl⟩
   cases a; cases b; simp at h1 j; simp [h1,j]
  ·rw [bD (by simp [i])] at e
   cases e
   exact ⟨λk=>absurd k i,λk=>by rw [k] at i; exact absurd ((Mr _ _).2 rfl) i⟩
 ·rw [bD (by simp [d])] at e
  cases e
  exact ⟨λk=>absurd k d,λk=>by rw [k] at d; exact absurd ((Mr _ _).2 rfl) d⟩
theorem Vy (a b:kV):∃c,tj a b=some c∧(c < 0↔Dh a b=true):=by
 unfold tj
 obtain ⟨c,e,h1,n⟩:=U4 a.ku b.ku
 rw [e]
 simp only [sK,pV,aA,yv,vK,pI]
 by_cases i:c=0
 ·rw [bG (by simp [i])]
  have u:=n.1 i
  have d:¬wY a.ku b.ku=true:=λp=>by have:=h1.2 p; omega
  by_cases j:rX a.lO b.lO=0
  ·rw [bG (by simp [j])]
   refine ⟨0,rfl,?_⟩
   rw [E1]
   simp [d,(Mr _ _).1 j,wv]
  ·rw [bD (by simp [j])]
   refine ⟨_,rfl,?_⟩
   rw [E1,aae]
   exact ⟨λk=>.inr ⟨u,k⟩,λk=>k.elim (λk=>absurd k d) (·.2)⟩
 ·rw [bD (by simp [i])]
  refine ⟨c,rfl,?_⟩
  rw [E1,h1]
  have:a.ku≠b.ku:=λk=>i (n.2 k)
  simp [this]
theorem Sf {α:Type} {eq:α→α→Bool} (he:∀x y,eq x y=true↔x=y):∀(l:List α) (p:α),(p::l).Nodup→oX eq p l=l
 | [],p,_=>rfl
 | y::l,p,h=>by
  have h1:=dO.1 h
  rw [oX,bG (λe=>h1.1 (by rw [←(he _ _).1 e]; simp)),Sf he l y h1.2]
theorem aay {α:Type} {eq:α→α→Bool} (he:∀x y,eq x y=true↔x=y):∀l:List α,l.Nodup→dd eq l=l
 | [],_=>rfl
 | x::l,h=>by rw [dd,Sf he l x h]
def Fe (P:kV→Prop) (s:List kV):Prop:=s.Pairwise (λa b=>Dh a b=true)∧∀f,f∈s↔P f
theorem Fe.unique {P:kV→Prop} {s t:List kV} (h:Fe P s) (k:Fe P t):s=t :=
 wz.unique (l:=s) Mp ⟨h.1,λx=>⟨λd=>⟨d,rfl⟩,λd=>d.1⟩⟩ ⟨k.1,λx=>by rw [k.2,h.2]; exact ⟨λd=>⟨d,rfl⟩,λd=>d.1⟩⟩
theorem LB {l:List kV} (i:l.Nodup) (p:l.length≤1000000000000):∃s,DZ (λ(x:kV×kV)=>tj x.1 x.2) l=some s∧Fe (λf=>f∈l) s:=by
 obtain ⟨s,h1,n,d⟩:=Kj (eq:=E6) (lt:=λa b=>Dh a b=true) (P:=λx=>HS x=true) (cf:=λ(x:kV×kV)=>tj x.1 x.2) (l:=l) (λx y=>Bn) Mp (λ_ _=>rfl) (by omega) (λx y _ _=>Vy x y)
 have j:s.Nodup:=by
  have:=(MD h1).2
  rw [this]
  unfold ud
  exact (iV l _).nodup_iff.2 i
 rw [aay (λx y=>Bn) s j] at d
 exact ⟨s,h1,d.1,λf=>by rw [d.2]; exact ⟨λh=>h.1,λh=>⟨h,rfl⟩⟩⟩
theorem YN (T:rL):(mm T).flatMap (λp=>p.2.map (λq=>(λ(a:ku) (b:ByteArray)=>(⟨a,b⟩:kV)) p.1 q.1))=FS T:=by
 unfold mm FS tt
 rw [List.flatMap_map]
 congr 1
 funext p
 simp [gl]
theorem WJ {C:List kv} (x:uk C) {T:rL} {G:List (ku×List kv)} {ws:List (ByteArray×List kv)} {n:Int} (h:MS C T G ws n) (cs:List kv) (u:List (ku×List kv)) (w:List (ByteArray×List kv)) (E:List kV) (z:Int) :
  ∃s,zJ (mm T) cs u w E z=some s∧Fe (rB C) s:=by
 have A:=x.sq
 have hlen:=h.Ix.len
 obtain ⟨s,I,v⟩:=LB h.Ix.nd (by omega)
 have p:Fe (rB C) s:=⟨v.1,λf=>(v.2 f).trans (h.all f)⟩
 refine ⟨s,?_,p⟩
 unfold zJ UN
 rw [YN]
 rw [bD ⟨by omega,by unfold maxLen; omega⟩]
 simp only [aA,pI]
 refine Lg (λo i=>?_)
 obtain ⟨J,j,d⟩:=LB ((i.nodup_iff).2 h.Ix.nd) (by rw [i.length_eq]; omega)
 rw [j]
 congr 1
 exact Fe.unique ⟨d.1,λf=>(d.2 f).trans (i.mem_iff.trans (h.all f))⟩ p
theorem WY (r:ku) (w:ByteArray):∀l:List kV,∃b,BF r w l=some b∧(b=true↔(⟨r,w⟩:kV)∈l)
 | []=>⟨false,rfl,by simp⟩
 | x::l=>by
  rw [BF]
  simp only [GR,aA]
  obtain ⟨b,e,hb⟩:=WY r w l
  by_cases h:(kR x.ku r&&lz x.lO w)=true
  ·rw [bD h]
   have d:x=⟨r,w⟩:=by
    rw [bn,lj,nE] at h
    cases x; simp at h; simp [h]
   exact ⟨true,rfl,by simp [d]⟩
  ·rw [bG h]
   refine ⟨b,e,?_⟩
   rw [hb,aP]
   refine ⟨.inr,λi=>i.resolve_left (λe=>h ?_)⟩
   rw [←e]; simp [Aq,qV]
theorem Dm (l:List kV) (r:ku) (w:ByteArray):∃b,yY l r w=some b∧(b=true↔(⟨r,w⟩:kV)∈l):=WY r w l
def AK (l:List kV) (c:kv) (names:List ByteArray) (w:ByteArray):Prop :=
 (c.Kind=1∧c.lO=w)∨(c.Kind=2∧(⟨c.B,w⟩:kV)∈l)∨(c.Kind=4∧(⟨c.B,w⟩:kV)∈l∧(⟨c.C,w⟩:kV)∈l)∨
 (c.Kind≠1∧c.Kind≠2∧c.Kind≠4∧∃b∈names,(⟨c.B,b⟩:kV)∈l∧(⟨⟨b,c.mg⟩,w⟩:kV)∈l)
theorem Ll (l:List kV) (c:kv) (w:ByteArray):∀names:List ByteArray,∃b,zP l c w names=some b∧(b=true↔∃b∈names,(⟨c.B,b⟩:kV)∈l∧(⟨⟨b,c.mg⟩,w⟩:kV)∈l)
 | []=>⟨false,rfl,by simp⟩
 | x::names=>by
  rw [zP]
  obtain ⟨j,p,h1⟩:=Dm l c.B x
  obtain ⟨n,u,i⟩:=Dm l ⟨x,c.mg⟩ w
  obtain ⟨b,e,hb⟩:=Ll l c w names
  rw [p,u,e]
  simp only [aA,GR]
  by_cases h:(j&&n)=true
  ·rw [bD h]
   rw [bn,h1,i] at h
   exact ⟨true,rfl,by simp [h]⟩
  ·rw [bG h]
   rw [bn,h1,i] at h
   refine ⟨b,rfl,?_⟩
   rw [hb]
   constructor
   ·rintro ⟨y,d,q⟩; exact ⟨y,by simp [d],q⟩
   ·rintro ⟨y,d,q⟩
    rcases aP.1 d with rfl | d
    ·exact absurd q h
    ·exact ⟨y,d,q⟩
theorem X0 (l:List kV) (c:kv) (names:List ByteArray) (w:ByteArray):∃b,FE l c names w=some b∧(b=true↔AK l c names w):=by
 unfold FE AK
 simp only [pI]
 by_cases h1:c.Kind=1
 ·rw [bD (by simp [h1])]; exact ⟨_,rfl,by simp [h1,nE]⟩
 rw [bG (by simp [h1])]
 by_cases d:c.Kind=2
 ·rw [bD (by simp [d])]
  obtain ⟨b,e,hb⟩:=Dm l c.B w
  exact ⟨b,e,by simp [d,hb]⟩
 rw [bG (by simp [d])]
 by_cases i:c.Kind=4
 ·rw [bD (by simp [i])]
  obtain ⟨v,p,j⟩:=Dm l c.B w
  obtain ⟨x,u,n⟩:=Dm l c.C w
  rw [p,u]
  simp only [aA,GR]
  exact ⟨_,rfl,by simp [i,j,n]⟩
 rw [bG (by simp [i])]
 obtain ⟨b,e,hb⟩:=Ll l c w names
 exact ⟨b,e,by rw [hb]; simp [h1,d,i]⟩
theorem AK.Bd {C:List kv} {l:List kV} (d:∀f∈l,rB C f) {c:kv} (i:c∈C) (hk:c.Kind=1∨c.Kind=2∨c.Kind=3∨c.Kind=4) {names:List ByteArray} {w:ByteArray} (h:AK l c names w):rB C ⟨c.Head,w⟩:=by
 rcases h with ⟨k,rfl⟩ | ⟨k,h⟩ | ⟨k,h1,j⟩ | ⟨n,p,u,b,_,h1,j⟩
 ·exact .mem c i k
 ·exact .inc c w i k (d _ h)
 ·exact .both c w i k (d _ h1) (d _ j)
 ·exact .Lv c b w i (by omega) (d _ h1) (d _ j)
theorem TA {c:kv} (h:mM c=true):c.Kind=1∨c.Kind=2∨c.Kind=3∨c.Kind=4:=by rcases qh h with h | h | h | h <;> simp [h.1]
structure IN (C:List kv) (out:List kV):Prop where
 nd:out.Nodup
 Bd:∀f∈out,rB C f
theorem IN.len {C:List kv} {out:List kV} (h:IN C out):out.length≤C.length*C.length:=by
 rw [←HM]; exact nD h.nd (λf d=>(h.Bd f d).Kf)
theorem KS {C:List kv} (E:uk C) (G:vw C) {c:kv} (p:c∈C) (names:List ByteArray):∀(l:List ByteArray) (out:List kV) (j:Bool),IN C out→
  ∃i d,zq c names l out j=some (i,d)∧IN C i∧(d=true→j=true∨out.length < i.length)∧(d=false→j=false∧i=out∧∀w∈l,AK out c names w→(⟨c.Head,w⟩:kV)∈out)∧out.length≤i.length
 | [],out,j,h=>⟨out,j,rfl,h,.inl,λh=>⟨h,rfl,λ_ hw=>by cases hw⟩,aR _⟩
 | w::l,out,j,h=>by
  rw [zq]
  obtain ⟨L,Q,h1⟩:=Dm out c.Head w
  obtain ⟨P,R,M⟩:=X0 out c names w
  rw [Q,R]
  simp only [aA,GR]
  by_cases hb:(!L&&P)=true
  ·rw [bD hb]
   rw [bn] at hb
   have I:(⟨c.Head,w⟩:kV)∉out:=λU=>by have:=h1.2 U; rw [this] at hb; exact absurd hb.1 (by decide)
   have Y:=h.len
   have W:=E.sq
   rw [ns (by simp; omega) (by simp; omega)]
   simp only [aA]
   have T:IN C (out++[⟨c.Head,w⟩]):=⟨cD.2 ⟨h.nd,by simp,λa ha b hb e=>by simp at hb; subst hb; subst e; exact I ha⟩,λf n=>by
    rcases aO.1 n with n | n
    ·exact h.Bd f n
    ·simp at n; subst n; exact (M.1 hb.2).Bd h.Bd p (TA (G c p))⟩
   obtain ⟨i,d,e,u,a2,a3,a4⟩:=KS E G p names l _ true T
   simp at a4
   exact ⟨i,d,e,u,λ_=>.inr (by omega),λn=>(by cases (a3 n).1),by omega⟩
  ·rw [bG hb]
   obtain ⟨i,d,e,u,a2,a3,a4⟩:=KS E G p names l out j h
   refine ⟨i,d,e,u,a2,λn=>?_,a4⟩
   obtain ⟨x,z,A⟩:=a3 n
   refine ⟨x,z,λv J O=>?_⟩
   rcases aP.1 J with rfl | J
   ·refine fu λI=>hb ?_
    rw [bn,M.2 O]
    cases L with
    | false=>exact ⟨rfl,rfl⟩
    | true=>exact absurd (h1.1 rfl) I
   ·exact A v J O
theorem O5 {C:List kv} (x:uk C) (z:vw C) (names:List ByteArray):∀(l:List kv) (out:List kV) (i:Bool),(∀c∈l,c∈C)→IN C out→
  ∃j n,BV names l out i=some (j,n)∧IN C j∧(n=true→i=true∨out.length < j.length)∧(n=false→i=false∧j=out∧∀c∈l,∀w∈names,AK out c names w→(⟨c.Head,w⟩:kV)∈out)∧out.length≤j.length
 | [],out,i,_,h=>⟨out,i,rfl,h,.inl,λh=>⟨h,rfl,λ_ hw=>by cases hw⟩,aR _⟩
 | c::l,out,i,A,h=>by
  rw [BV]
  obtain ⟨O,c1,L,E,a2,a3,a4⟩:=KS x z (A c (by simp)) names names out i h
  rw [L]
  simp only [aA]
  obtain ⟨P,c2,M,G,I,J,Z⟩:=O5 x z names l O c1 (λd p=>A d (by simp [p])) E
  refine ⟨P,c2,M,G,λu=>?_,λu=>?_,by omega⟩
  ·rcases I u with h1 | h1
   ·rcases a2 h1 with v | v
    ·exact .inl v
    ·exact .inr (by omega)
   ·exact .inr (by omega)
  ·obtain ⟨Q,R,T⟩:=J u
   obtain ⟨U,W,Y⟩:=a3 Q
   subst W
   refine ⟨U,R,λd p=>?_⟩
   rcases aP.1 p with rfl | p
   ·exact Y
   ·exact T d p
def zF:kV:=⟨⟨zS,zS⟩,zS⟩
theorem O2 (a b:kV):yp a b=some (Dh a b):=by
 unfold yp Dh
 simp only [zO,aA,GR,UC]
def Y4 (a:List kV) (d:Int) (p:Bool×kV):Prop:=(p.1=false∧d=-1)∨(p.1=true∧0≤d∧lD a d=some p.2)
theorem F8 (out a:List kV) (n:out.length < 4611686018427387904):∀(rest A:List kV) (d:Int) (p:Bool×kV),a=A++rest→Y4 a d p→
  ∃i,sL out a rest A.length d=some i∧Y4 a i (tZ HS Dh out.getLast? rest p.1 p.2)
 | [],A,d,p,ha,u=>⟨d,rfl,u⟩
 | x::rest,A,d,p,ha,u=>by
  rw [sL,tZ]
  simp only [HS,dZ]
  have h1:((if ((out.length:Int)==0)=true then some true else (lD out (wi0 .i64 ((out.length:Int)-1))).bind λy=>(yp y x).bind λr=>some r):Option Bool)=some (out.getLast?.all λy=>Dh y x):=by
   rcases cV out with h | ⟨B,z,h⟩
   ·subst h; rfl
   ·subst h
    rw [bG (by simp; omega)]
    rw [dt] at n ⊢
    rw [HR B z (by simp at n; omega)]
    simp [O2]
  have G:((if decide (d < 0)=true then some true else (lD a d).bind λy=>(yp x y).bind λr=>some r):Option Bool)=some (!p.1||Dh x p.2):=by
   rcases u with ⟨v,w⟩ | ⟨v,w,E⟩
   ·rw [bD (by simp [w]),v]; rfl
   ·rw [bG (by simpa using w),E,v]
    simp [O2]
  rw [h1]
  simp only [aA]
  rw [G]
  simp only [aA,GR]
  have I:lD a (A.length:Int)=some x:=by rw [ha]; exact mz A x rest _ rfl
  by_cases j:((out.getLast?.all λy=>Dh y x)&&(!p.1||Dh x p.2))=true
  ·rw [bD j,bD j]
   have:=F8 out a n rest (A++[x]) (A.length:Int) (true,x) (by rw [ha]; simp) (.inr ⟨rfl,by simp,I⟩)
   simpa using this
  ·rw [bG j,bG j]
   have:=F8 out a n rest (A++[x]) d p (by rw [ha]; simp) u
   simpa using this
theorem J3 {out a:List kV} (i:out.length < 4611686018427387904) (h:(tZ HS Dh out.getLast? a false zF).1=false):∀Kc:List kV,sH a Kc out=some out
 | []=>rfl
 | x::Kc=>by
  rw [sH]
  obtain ⟨b,e,n⟩:=F8 out a i a [] (-1) (false,zF) rfl (.inl ⟨rfl,rfl⟩)
  rw [show sL out a a 0 (-1)=some b from e]
  simp only [aA]
  rcases n with ⟨_,j⟩ | ⟨d,_⟩
  ·rw [bG (by simp [j])]; exact J3 i h Kc
  ·rw [h] at d; cases d
theorem NH (a:List kV):∀(Kc:List kV) (out s:List kV),Cy 48 HS Dh zF a (Kc.length+1) out=some s→s.length < 4611686018427387904→sH a Kc out=some s∧out.length≤s.length
 | [],out,s,h,n=>by
  rw [Cy] at h
  cases hp:(tZ HS Dh out.getLast? a false zF).1 with
  | false=>
   rw [hp] at h
   simp only [cR,aK] at h
   cases h
   exact ⟨rfl,aR _⟩
  | true=>
   rw [hp] at h
   simp only [cI,aB,aI] at h
   obtain ⟨o,d,h⟩:=bind_some h
   replace h:Cy 48 HS Dh zF a 0 o=some s:=h
   rw [Cy] at h
   cases h
 | x::Kc,out,s,h,n=>by
  rw [Cy] at h
  cases hp:(tZ HS Dh out.getLast? a false zF).1 with
  | false=>
   rw [hp] at h
   simp only [cR,aK] at h
   cases h
   exact ⟨J3 n hp _,aR _⟩
  | true=>
   rw [hp] at h
   simp only [cI,aB,aI] at h
   obtain ⟨o,d,h⟩:=bind_some h
   have j:=d
   unfold nm at d
   split at d
   case isFalse=>cases d
   cases d
   obtain ⟨w,z⟩:=NH a Kc _ s h n
   simp at z
   rw [sH]
   obtain ⟨b,e,v⟩:=F8 out a (by omega) a [] (-1) (false,zF) rfl (.inl ⟨rfl,rfl⟩)
   rw [show sL out a a 0 (-1)=some b from e]
   simp only [aA]
   rcases v with ⟨i,_⟩ | ⟨i,p,u⟩
   ·rw [hp] at i; cases i
   ·rw [bD (by simpa using p),u]
    simp only [aA]
    rw [j]
    exact ⟨w,by omega⟩
theorem U0 (l:List kV) (j:l.length≤1000000000):∃s,Hd l=some s∧Fe (λf=>f∈l) s:=by
 obtain ⟨s,h1,d⟩:=Eb Mp (w:=48) (by omega) zF l j (l.length+1) [] (by simp) (by simp) (λx i=>by cases i) (λx _ _=>.inr rfl)
 have hlen:s.length≤l.length:=nD (yg Mp (λ_ _=>rfl) d.1) (λx i=>((d.2 x).1 i).1)
 exact ⟨s,(NH l l [] s h1 (by omega)).1,d.1,λf=>by rw [d.2]; exact ⟨λh=>h.1,λh=>⟨h,rfl⟩⟩⟩
theorem Qp:∀(l:List kv) (acc:List ByteArray),acc.length+4*l.length≤1000000000→xe l acc=GA (acc++l.flatMap λc=>[c.lO,c.Head.kw,c.B.kw,c.C.kw])
 | [],acc,_=>by rw [xe]; simp [pI]
 | c::l,acc,h=>by
  rw [xe]
  simp only [aG] at h
  rw [ns (by simp; omega) (by simp; omega)]
  simp only [aA]
  rw [Qp l _ (by simp; omega)]
  simp
def SM (C:List kv):Prop:=C.length≤30000
theorem SM.small {C:List kv} (h:SM C):uk C:=by unfold SM at h; unfold uk; omega
theorem SM.sq {C:List kv} (h:SM C):C.length*C.length≤900000000:=Nat.mul_le_mul h h
theorem Vs {C:List kv} (i:SM C) (n:vw C):∃names,En C=some names∧∀c∈C,c.Kind=1→c.lO∈names:=by
 have j:C.length≤30000:=i
 unfold En
 rw [Qp C [] (by simp; omega)]
 obtain ⟨s,e,p⟩:=XX ([]++C.flatMap λc=>[c.lO,c.Head.kw,c.B.kw,c.C.kw]) (by
  have:∀l:List kv,(l.flatMap λc=>[c.lO,c.Head.kw,c.B.kw,c.C.kw]).length=4*l.length:=λl=>by
   induction l with
   | nil=>rfl
   | cons x l ih=>simp [ih]; omega
  rw [aW,this]; omega)
 refine ⟨s,e,λc d hk=>(p.2 _).2 ⟨?_,?_⟩⟩
 ·rw [aW]; exact jN.2 ⟨c,d,by simp⟩
 ·rcases qh (n c d) with h | h | h | h
  ·exact h.2.1
  ·exact absurd (hk.symm.trans h.1) (by decide)
  ·exact absurd (hk.symm.trans h.1) (by decide)
  ·exact absurd (hk.symm.trans h.1) (by decide)
theorem Sy {C:List kv} (z:vw C) {names:List ByteArray} (v:∀c∈C,c.Kind=1→c.lO∈names) {out:List kV} (h:∀c∈C,∀w∈names,AK out c names w→(⟨c.Head,w⟩:kV)∈out) {f:kV} (u:rB C f):f∈out:=by
 have hw:∀f,rB C f→f.lO∈names:=λf u=>by
  obtain ⟨c,d,hk,e⟩:=u.Q0
  rw [←e]; exact v c d hk
 induction u with
 | mem c d hk=>exact h c d _ (v c d hk) (.inl ⟨hk,rfl⟩)
 | inc c w d hk x ih=>exact h c d w (hw _ x) (.inr (.inl ⟨hk,ih⟩))
 | Lv c b w d hk i p j n=>exact h c d w (hw _ p) (.inr (.inr (.inr ⟨by omega,by omega,by omega,b,hw _ i,j,n⟩)))
 | both c w d hk i p j n=>exact h c d w (hw _ i) (.inr (.inr (.inl ⟨hk,j,n⟩)))
theorem PZ {C:List kv} (d:SM C) (i:vw C) {names:List ByteArray} (n:∀c∈C,c.Kind=1→c.lO∈names):∀(m:Nat) (out:List kV),IN C out→C.length*C.length < m+out.length→
  ∃s,BN names C m out=some s∧Fe (rB C) s
 | 0,out,h,hm=>by have:=h.len; omega
 | m+1,out,h,hm=>by
  rw [BN]
  obtain ⟨o,c,e,p,a2,a3,a4⟩:=O5 d.small i names C out false (λ_ h=>h) h
  rw [e]
  simp only [aA,pI]
  cases c with
  | false=>
   simp only [cR,aK]
   obtain ⟨_,u,v⟩:=a3 rfl
   subst u
   have z:=h.len
   have x:=d.sq
   obtain ⟨s,w,j⟩:=U0 o (by omega)
   exact ⟨s,w,j.1,λf=>(j.2 f).trans ⟨h.Bd f,Sy i n v⟩⟩
  | true=>
   simp only [cI,aB,aI]
   rcases a2 rfl with h1 | h1
   ·cases h1
   ·exact PZ d i n m o p (by omega)
theorem Ys (l:List kv) (A:l.length≤30000):∃C s,AF l=some s∧Fe (rB C) s∧∀c,c∈C↔c∈l∧mM c=true:=by
 unfold AF
 obtain ⟨C,e,i⟩:=Nk l (by omega)
 have hlen:=CR zL i
 have d:SM C:=by unfold SM; omega
 have j:vw C:=λc v=>((i.2 c).1 v).2
 obtain ⟨names,n,x⟩:=Vs d j
 rw [e]
 simp only [aA]
 rw [n]
 simp only [aA]
 have z:=d.sq
 obtain ⟨s,p,u⟩:=PZ d j x kY [] ⟨by simp,λf w=>by cases w⟩ (by rw [zy]; simp; omega)
 exact ⟨C,s,p,u,i.2⟩
theorem Gx (w:ByteArray):∀(l:List kV) (acc:List ku),acc.length+l.length≤1000000000→uU w l acc=some (acc++(l.filter λf=>lz f.lO w).map (·.ku))
 | [],acc,_=>by rw [uU]; simp
 | x::l,acc,h=>by
  rw [uU]
  simp only [aG] at h
  by_cases d:lz x.lO w=true
  ·rw [bD d,ns (by simp; omega) (by simp; omega)]
   simp only [aA]
   rw [Gx w l _ (by simp; omega)]
   simp [d]
  ·rw [bG d,Gx w l acc (by omega)]
   simp [d]
theorem XT {P:kV→Prop} {s t:List kV} (h:Fe P s) (i:∀f,P f→f∈t):s.length≤t.length:=nD (yg Mp (λ_ _=>rfl) h.1) (λf d=>i f ((h.2 f).1 d))
theorem Ym {C:List kv} {s:List kV} (h:Fe (rB C) s) (d:SM C):s.length≤900000000:=by
 have:=XT h (t:=Kf C) (λf i=>i.Kf)
 rw [HM] at this
 have:=d.sq
 omega
theorem Um {C:List kv} {T:rL} {i:List (ku×List kv)} {ws:List (ByteArray×List kv)} {n:Int} (h:MS C T i ws n) (cs:List kv) (u:List (ku×List kv)) (w:List (ByteArray×List kv)) (d:List kV) (z:Int) (r:ku) (Q0:ByteArray) :
  ∃b,wV (mm T) cs u w d z r Q0=some b∧(b=true↔rB C ⟨r,Q0⟩) :=
 ⟨_,rfl,by rw [wu h.Ix.keys,h.all]⟩
def qA:ku:=⟨⟨#[97]⟩,⟨#[114]⟩⟩
def qB:ku:=⟨⟨#[98]⟩,⟨#[115]⟩⟩
def qd:ByteArray:=⟨#[100]⟩
def j1:kv:=⟨2,qA,zS,qB,⟨zS,zS⟩,zS⟩
def j2:kv:=⟨1,qB,qd,⟨zS,zS⟩,⟨zS,zS⟩,zS⟩
theorem AK.own {l:List kV} {c:kv} {names:List ByteArray} {w:ByteArray} (h:AK l c names w):AK l c (l.map (·.lO)) w:=by
 rcases h with h | h | h | ⟨i,j,n,b,_,d,p⟩
 ·exact .inl h
 ·exact .inr (.inl h)
 ·exact .inr (.inr (.inl h))
 ·exact .inr (.inr (.inr ⟨i,j,n,b,aS.2 ⟨_,d,rfl⟩,d,p⟩))
theorem AK.subset {a b:List kV} {c:kv} {names:List ByteArray} {w:ByteArray} (h:AK a c names w) (d:∀f∈a,f∈b):AK b c names w:=by
 rcases h with h | h | h | ⟨j,n,p,i,u,v,x⟩
 ·exact .inl h
 ·exact .inr (.inl ⟨h.1,d _ h.2⟩)
 ·exact .inr (.inr (.inl ⟨h.1,d _ h.2.1,d _ h.2.2⟩))
 ·exact .inr (.inr (.inr ⟨j,n,p,i,u,d _ v,d _ x⟩))
def up (w:ByteArray) (g:ByteArray→Nat):ByteArray→Nat:=λx=>if lz w x=true then g x+1 else g x
theorem TX (F:List kV) (w:ByteArray) (d:F.length≤1000000000):xw F w=some ((F.filter λf=>lz f.lO w).map (·.ku)):=by
 unfold xw
 rw [Gx w F [] (by simp; omega)]
 simp
def tot {α:Type} (d:List (List α)):Nat:=(d.map List.length).sum
instance aa9:DecidableEq ku:=λa b=>decidable_of_iff (kR a b=true) lj
def LX (F:List kV) (w:ByteArray):List ku:=(F.filter λf=>lz f.lO w).map (·.ku)
structure Zi (l:List kv) (F:List kV):Prop where
 len:l.length≤30000
 C:∃C:List kv,Fe (rB C) F∧(∀c,c∈C↔c∈l∧mM c=true)∧SM C
 ref:AF l=some F
theorem Zn (l:List kv) (p:l.length≤30000):∃F,Zi l F:=by
 obtain ⟨C,F,e,h1,u⟩:=Ys l p
 obtain ⟨C1,T,w,ws,n,v,m1,d,j⟩:=SO l (by omega)
 have i:∀c,c∈C↔c∈C1:=λc=>by rw [u,d]
 exact ⟨F,p,⟨C1,⟨h1.1,λf=>(h1.2 f).trans (rB.congr i f)⟩,d,by unfold SM; omega⟩,e⟩
theorem Zi.aaX {l:List kv} {F:List kV} (h:Zi l F):F.length≤900000000:=by
 obtain ⟨C,h1,i,d⟩:=h.C
 exact Ym h1 d
def B8 (l:List Int):Prop:=∀x∈l,0≤x∧x < 256
theorem B8.FH {a b:List Int} (ha:B8 a) (hb:B8 b):B8 (a++b):=λx d=>(aO.1 d).elim (ha x) (hb x)
def Tu:List ByteArray→List Key→Int
 | _,[]=>0
 | seen,k::l=>if po k.lO=false then 30 else if k.Key.length < 1∨32 < k.Key.length then 21 else if rk lz seen k.lO=true then 41 else Tu (seen++[k.lO]) l
def V0 (l:List Key):List (ByteArray×List Int):=l.map λk=>(k.lO,k.Key)
def VW (l:List Key) (o:ByteArray):Option (List Int):=mJ lz (V0 l) o
theorem Y7 {l:List Int} (h:l.length≤1000000):xF l=some l:=by
 unfold xF
 rw [KZ (by simpa using h)]; rfl
theorem R7:∀(l:List Key) (seen:List ByteArray),Tu seen l=0→∀k∈l,1≤k.Key.length∧k.Key.length≤32
 | [],_,_,_,hk=>by cases hk
 | x::l,seen,h,k,hk=>by
  unfold Tu at h
  split at h
  ·cases h
  split at h
  ·cases h
  split at h
  ·cases h
  rcases aP.1 hk with rfl | hk
  ·omega
  ·exact R7 l _ h k hk
theorem KL:∀(l:List Key) (o:ByteArray) (b:List Int),VW l o=some b→∃k∈l,k.Key=b
 | [],o,b,h=>by cases h
 | x::l,o,b,h=>by
  unfold VW at h
  rw [show V0 (x::l)=(x.lO,x.Key)::V0 l from rfl,F9] at h
  split at h
  ·cases h; exact ⟨x,by simp,rfl⟩
  ·obtain ⟨k,hk,e⟩:=KL l o b h
   exact ⟨k,by simp [hk],e⟩
def K8 (l:List Key):Prop:=∀k∈l,B8 k.Key
structure Mk (ks:List Key) (c:kv) (k:List Int):Prop where
 ok:Tu [] ks=0
 rt:mM c=true
 lk:VW ks c.Head.kw=some k
theorem Mk.len {ks:List Key} {c:kv} {k:List Int} (h:Mk ks c k):1≤k.length∧k.length≤32:=by
 obtain ⟨q,d,rfl⟩:=KL _ _ _ h.lk
 exact R7 ks [] h.ok q d
theorem Mk.b8 {ks:List Key} {c:kv} {k:List Int} (h:Mk ks c k) (hk:K8 ks):B8 k:=by
 obtain ⟨q,d,rfl⟩:=KL _ _ _ h.lk
 exact hk q d
theorem Mk.unique {ks:List Key} {c:kv} {k k':List Int} (h:Mk ks c k) (d:Mk ks c k'):k=k':=by
 have:=h.lk; rw [d.lk] at this; cases this; rfl
mutual
def CP:Formula→List Int
 | ⟨o,k,r,ks⟩=>o::(if o=1 then vr r else (if o=4 then [k] else [])++((ks.length:Int)::bytesFL ks))
def bytesFL:List Formula→List Int
 | []=>[]
 | k::ks=>CP k++bytesFL ks
end
theorem Nx (f:Formula):CP f=f.Op::(if f.Op=1 then vr f.ku else (if f.Op=4 then [f.K] else [])++((f.Kids.length:Int)::bytesFL f.Kids)):=by cases f; rw [CP]
theorem zr {f:Formula} (h:uH f=true):f.Kids.length≤8∧wellL f.Kids=true∧((f.Op=1∧mw f.ku=true∧f.Kids=[]∧f.K=0)∨((f.Op=2∨f.Op=3)∧f.ku=tk∧f.K=0)∨(f.Op=4∧f.ku=tk∧0≤f.K∧f.K≤(f.Kids.length:Int)∧1≤f.Kids.length)):=by
 rw [KR] at h
 simp only [bn,bH] at h
 obtain ⟨⟨h1,d⟩,i⟩:=h
 refine ⟨d,i,?_⟩
 unfold HN at h1
 split at h1
 ·rename_i c
  simp only [bn,bH] at h1
  exact .inl ⟨c,h1.1.1,aJ h1.1.2,h1.2⟩
 ·split at h1
  ·rename_i c
   simp only [bn,bH,lj] at h1
   exact .inr (.inl ⟨c,h1.1,h1.2⟩)
  ·simp only [bn,bH,lj] at h1
   exact .inr (.inr ⟨h1.1.1.1.1,h1.1.1.1.2,h1.1.1.2,h1.1.2,h1.2⟩)
theorem T6:∀(n:Nat) (f:Formula),pW f≤n→uH f=true→∀l:List Int,l.length+40*lQ f≤8000→sQ n l f=some (l++CP f)∧(CP f).length≤40*lQ f:=by
 intro n
 induction n with
 | zero=>intro f h; rw [od] at h; omega
 | succ n ih=>
  intro f I hw l E
  rw [od] at I
  have J:=qj f
  obtain ⟨h1,A,w⟩:=zr hw
  rw [sQ]
  unfold zb
  have j:0≤f.Op∧f.Op < 128:=by rcases w with h | h | h <;> omega
  rw [Ci j.1 j.2 (by omega),aA,Nx]
  have key:∀(ks:List Formula),(∀k∈ks,k∈f.Kids)→wellL ks=true→∀l:List Int,l.length+40*nodesL ks≤8000→tN (sQ n) ks l=some (l++bytesFL ks)∧(bytesFL ks).length≤40*nodesL ks:=by
   intro ks
   induction ks with
   | nil=>intro _ _ l _; rw [tN,bytesFL]; simp
   | cons k ks x=>
    intro hk d l E
    rw [wellL,bn] at d
    rw [nodesL] at E
    obtain ⟨u,M⟩:=ih k (by have:=tF (hk k (by simp)); omega) d.1 l (by omega)
    obtain ⟨i,v⟩:=x (λz L=>hk z (by simp [L])) d.2 (l++CP k) (by simp; omega)
    rw [tN,u,aA,i,bytesFL,nodesL]
    exact ⟨by simp,by simp; omega⟩
  have hlen:0≤(f.Kids.length:Int)∧(f.Kids.length:Int) < 128:=by omega
  by_cases c1:f.Op=1
  ·have G:mw f.ku=true:=by rcases w with h | h | h; exact h.2.1; omega; omega
   have:=rh G
   simp only [c1,bP,aK]
   rw [Qn G (by simp; omega),aA]
   exact ⟨by simp,by simp; omega⟩
  ·have u:(f.Op==1)=false:=by simpa using c1
   simp only [u,aB,aI,c1]
   by_cases p:f.Op=4
   ·have hk:0≤f.K∧f.K < 128:=by rcases w with h | h | h <;> omega
    simp only [p,bP,aK]
    rw [Ci hk.1 hk.2 (by simp; omega)]
    simp only [aA]
    rw [Ci hlen.1 hlen.2 (by simp; omega)]
    simp only [aA]
    obtain ⟨i,v⟩:=key f.Kids (λk hk=>hk) A (l++[4]++[f.K]++[(f.Kids.length:Int)]) (by simp; omega)
    rw [i]
    exact ⟨by simp,by simp; omega⟩
   ·have v:(f.Op==4)=false:=by simpa using p
    simp only [v,aB,aI,p,aA]
    rw [Ci hlen.1 hlen.2 (by simp; omega)]
    simp only [aA]
    obtain ⟨i,O⟩:=key f.Kids (λk hk=>hk) A (l++[f.Op]++[(f.Kids.length:Int)]) (by simp; omega)
    rw [i]
    exact ⟨by simp,by simp; omega⟩
def Ck (f:Formula):List Int:=if pk f then CP f else []
abbrev Gd (f:Formula):Prop:=lQ f≤50000000
theorem B6 {f:Formula} (h:pk f=true):lQ f≤64∧pW f≤6∧uH f=true:=by
 unfold pk at h
 simp only [bn,bH] at h
 exact ⟨h.1.1,h.1.2,h.2⟩
theorem YT (f:Formula) (j:Gd f) (l:List Int) (u:l.length≤5000):zU l f=some (pk f,l++Ck f)∧(Ck f).length≤2560:=by
 unfold zU Ck
 rw [Ca f j,aA]
 cases h:pk f
 ·simp
 ·obtain ⟨h1,p,i⟩:=B6 h
  obtain ⟨d,n⟩:=T6 kY f (by rw [my]; omega) i l (by omega)
  simp only [cI,aB,aI,d,aA,aK]
  exact ⟨trivial,by omega⟩
theorem MG (f:Formula) (i:Gd f):wm f=some (Ck f):=by
 unfold wm
 obtain ⟨d,j⟩:=YT f i [] (by simp)
 rw [d,aA,pI]
 unfold wZ
 simp only [aW]
 rw [Y7 (by omega)]
 rfl
def FT (f g:Formula):Int:=Ce (Ck f) (Ck g)
theorem TD (f g:Formula) (d:Gd f) (i:Gd g):wi f g=some (FT f g):=by
 unfold wi zZ
 rw [MG f d,MG g i]
 rfl
theorem E8 (f g:Formula):pQ FT f g=Op.bytesLess (xt (Ck f)) (xt (Ck g)):=by
 rw [bK]
 have h:pQ FT f g=true↔FT f g < 0:=by unfold pQ; exact decide_eq_true_iff
 exact h.trans (Hb _ _)
theorem Nv:SWO (pQ FT) where
 NB x:=by rw [E8,xO]
 tr x y z h1 d:=by rw [E8] at *; exact yU _ _ _ h1 d
 Ls x y z h:=by
  rw [E8] at h
  rw [E8,E8]
  rcases Dx (xt (Ck x)) (xt (Ck y)) with h1 | h1 | h1
  ·exact .inl h1
  ·rw [h1] at h; exact .inr h
  ·exact .inr (yU _ _ _ h1 h)
def yx (l:List Formula):List Formula:=Bj (pQ FT) l
theorem OF (l:List Formula) (d:∀x∈l,Gd x) (i:l.length≤300000):yI l=some (yx l):=by
 unfold yI vm
 rw [ns (by simp; omega) (by simp; omega)]
 simp only [aA,aW,pI]
 exact Sz Nv (λx y j n=>TD x y j n) l d i
theorem TP {α:Type} (lt:α→α→Bool) (l:List α) (k:α):(EB lt l k).Perm (l++[k]):=by
 unfold EB
 refine List.perm_middle.trans ((List.Perm.cons _ ?_).trans (fp k l).symm)
 have:=List.filter_append_perm (λx=>!lt k x) l
 simpa using this
theorem FZ {α:Type} (lt:α→α→Bool) (l:List α):(Bj lt l).Perm l:=by
 suffices H:∀(l a:List α),(l.foldl (EB lt) a).Perm (a++l) by have:=H l []; rwa [aW] at this
 intro l
 induction l with
 | nil=>intro a; simp
 | cons k l ih=>
  intro a
  rw [eY]
  refine (ih _).trans ?_
  have:=(TP lt a k).append_right l
  simpa using this
theorem Cp (l:List Formula):(yx l).Perm l:=FZ _ l
noncomputable def rD (a b:Formula):Bool:=@decide (a=b) (Classical.propDecidable _)
theorem AM {a b:Formula}:rD a b=true↔a=b:=by unfold rD; simp
theorem Ju (a b:Formula) (h:Gd a):pu kY a b=some (rD a b):=by
 have:=zB a
 obtain ⟨x,e,d⟩:=XY kY a (by rw [my]; omega) b
 rw [e]; congr 1
 rw [bK,d,AM]
def zF0:Formula:=⟨0,0,⟨zS,zS⟩,[]⟩
theorem VX (f1:Formula×Formula→Option Bool) (i:Int):∀(n:Nat) (l:List Formula) (k j:Int),(∀x∈l,∀y∈l,f1 (x,y)=some (rD x y))→oB i f1 n l k j=FV rD i n l k j
 | 0,l,k,j,_=>by rw [oB,FV]
 | n+1,l,k,j,h=>by
  rw [oB,FV]
  split
  ·cases p:lD (l.drop (Int.toNat i)) j with
   | none=>rfl
   | some x=>
    cases u:lD (l.drop (Int.toNat i)) (wi0 .i64 (j-1)) with
    | none=>rfl
    | some y=>
     have d:x∈l:=List.mem_of_mem_drop (cX (kO p))
     have v:y∈l:=List.mem_of_mem_drop (cX (kO u))
     simp only [aA,h x d y v]
     cases rD x y
     ·simp only [cR,aK]
      cases w:lD l k with
      | none=>rfl
      | some z=>
       simp only [aA]
       refine VX f1 i n _ _ _ (λa ha b hb=>?_)
       have m:∀a∈l.set (Int.toNat k) x,a∈l:=λa ha=>by
        rcases List.mem_or_eq_of_mem_set ha with ha | rfl
        ·exact ha
        ·exact d
       exact h a (m a ha) b (m b hb)
     ·simp only [cI,aB,aI,aA]
      exact VX f1 i n _ _ _ h
  ·rfl
theorem ZM (f1:Formula×Formula→Option Bool) (l:List Formula) (h:∀x∈l,∀y∈l,f1 (x,y)=some (rD x y)):∀(n:Nat) (i:Int),oz l f1 n i=Gy rD zF0 l n i
 | 0,i=>by rw [oz,Gy]
 | n+1,i=>by
  rw [oz,Gy]
  split
  ·cases d:lD l i with
   | none=>rfl
   | some x=>
    cases j:lD l (wi0 .i64 (i-1)) with
    | none=>rfl
    | some y=>
     have p:x∈l:=cX (kO d)
     have u:y∈l:=cX (kO j)
     simp only [aA,h x p y u]
     rw [VX f1 i kY l i 1 h,ZM f1 l h n]
     rfl
  ·rfl
theorem Tf (l:List Formula) (h:∀x∈l,Gd x) (i:l.length≤300000):sC l (λx=>pu kY x.1 x.2)=some (dd rD l):=by
 rw [←Qu rD zF0 l (by omega)]
 unfold sC Pv
 rw [ZM _ l (λx d y _=>Ju x y (h x d))]
def mP (op:Int) (f:Formula):Bool:=decide (f.Op=op)&&f.Kids.isEmpty
theorem HO (f:Formula) (op:Int):wK f op=some (mP op f):=by
 unfold wK mP
 rw [pI]
 by_cases h:f.Op=op
 ·simp only [h,bP,aK,bB,dZ]
  congr 1
  cases hk:f.Kids with
  | nil=>rfl
  | cons a l=>simp; omega
 ·have e:(f.Op==op)=false:=by simpa using h
  simp [e,h]
def qx (op:Int):List Formula→List Formula
 | []=>[]
 | k::ks=>(if k.Op=op then k.Kids else [k])++qx op ks
theorem HD (op:Int):∀ks:List Formula,nodesL (qx op ks)≤nodesL ks
 | []=>aR _
 | k::ks=>by
  have ih:=HD op ks
  have e:∀a b:List Formula,nodesL (a++b)=nodesL a+nodesL b:=by
   intro a b
   induction a with
   | nil=>rw [aW,nodesL]; omega
   | cons x a d=>rw [bM,nodesL,nodesL,d]; omega
  have:=qj k
  rw [qx,e,nodesL]
  split
  ·omega
  ·rw [nodesL,nodesL]; omega
theorem Na (op:Int):∀(ks acc:List Formula),acc.length+nodesL ks≤100000000→tM op ks acc=some (acc++qx op ks)
 | [],acc,_=>by rw [tM,qx,aT]
 | k::ks,acc,h=>by
  rw [nodesL] at h
  have h1:=qj k
  have d:=sO k.Kids
  rw [tM,qx]
  by_cases c:k.Op=op
  ·simp only [c,bP,aK]
   rw [ns (by omega) (by omega),aA,Na op ks _ (by simp; omega),aM]
  ·have e:(k.Op==op)=false:=by simpa using c
   simp only [e,aB,aI,c]
   rw [ns (by simp; omega) (by simp; omega),aA,Na op ks _ (by simp; omega),aM]
noncomputable def sv (op:Int) (ks:List Formula):Formula :=
 if (qx op ks).any (mP (5-op)) then ⟨5-op,0,tk,[]⟩ else
  match dd rD (yx (qx op ks)) with
  | [x]=>x
  | r=>⟨op,0,tk,r⟩
theorem Qj {α:Type} (eq:α→α→Bool) (l:List α):(dd eq l).length≤l.length:=by
 cases l with
 | nil=>exact aR _
 | cons x l=>
  have:∀(l:List α) (x:α),(oX eq x l).length≤l.length:=by
   intro l
   induction l with
   | nil=>intro x; exact aR _
   | cons y l ih=>intro x; rw [oX]; have:=ih y; have:=ih x; split <;> simp <;> omega
  have:=this l x
  rw [dd,aG,aG]; omega
theorem Ja (s:mj) (op:Int) (n:op=2∨op=3) (ks:List Formula) (h:nodesL ks≤64):qL s op ks=some (sv op ks,s):=by
 have h1:=HD op ks
 have p:=sO (qx op ks)
 have i:∀x∈qx op ks,Gd x:=λx d=>by have:=vx d; unfold Gd; omega
 have hw:wi0 .i64 (5-op)=5-op:=mc (by omega) (by omega)
 unfold qL Ez sv
 rw [Na op ks [] (by simp; omega),aA,aW,hw,J1 _ (mP (5-op)) _ (λx _=>by unfold tU; rw [HO,pI]),aA]
 cases u:(qx op ks).any (mP (5-op))
 ·simp only [aB,aI]
  have hp:=Cp (qx op ks)
  have w:=hp.length_eq
  rw [OF _ i (by omega),aA,Tf _ (λx d=>i x (hp.mem_iff.1 d)) (by omega),aA]
  have v:=Qj rD (yx (qx op ks))
  have j:¬(((dd rD (yx (qx op ks))).length:Int) > 64):=by omega
  simp only [j,bN,aB,aI,aA]
  generalize dd rD (yx (qx op ks))=r
  match r with
  | []=>rfl
  | [x]=>rfl
  | x::y::r=>
   have:(((x::y::r).length:Int)==1)=false:=by simp; omega
   simp only [this,aB,aI]
   rfl
 ·rfl
noncomputable def we (k:Int) (ks:List Formula):Formula :=
 let n:=k-((ks.filter (mP 2)).length:Int)
 let l:=ks.filter λx=>!mP 2 x&&!mP 3 x
 if n≤0 then ⟨2,0,tk,[]⟩ else if n > (l.length:Int) then ⟨3,0,tk,[]⟩ else if n=(l.length:Int) then sv 2 l else if n=1 then sv 3 l else ⟨4,n,tk,yx l⟩
theorem CZ (p:Formula→Bool):∀ks:List Formula,nodesL (ks.filter p)≤nodesL ks
 | []=>aR _
 | k::ks=>by
  have:=CZ p ks
  rw [cZ]
  split
  ·rw [nodesL,nodesL]; omega
  ·rw [nodesL]; omega
theorem EX (s:mj):∀(ks acc:List Formula) (k:Int),-1000≤k-(ks.length:Int)→k≤1000→acc.length+ks.length≤1000→nodesL (acc++ks.filter λx=>!mP 2 x&&!mP 3 x)≤64→
  ow s ks k acc=some (let n:=k-((ks.filter (mP 2)).length:Int); let l:=acc++ks.filter λx=>!mP 2 x&&!mP 3 x; if n≤0 then ⟨2,0,tk,[]⟩ else if n > (l.length:Int) then ⟨3,0,tk,[]⟩ else if n=(l.length:Int) then sv 2 l else if n=1 then sv 3 l else ⟨4,n,tk,yx l⟩,s)
 | [],acc,k,h1,p,u,d=>by
  simp only [gd,aT,aZ] at d ⊢
  rw [ow]
  simp only [Int.ofNat_zero,Int.sub_zero,CQ,DG,aA,Int.natCast_zero]
  have A:=sO acc
  by_cases c1:k≤0
  ·simp only [c1,bB,aK]; rfl
  ·simp only [c1,bN,aB,aI]
   by_cases c2:k > (acc.length:Int)
   ·simp only [c2,bB,aK]; rfl
   ·simp only [c2,bN,aB,aI]
    by_cases i:k=(acc.length:Int)
    ·simp only [←i,bP,aK]
     rw [Ja s 2 (.inl rfl) acc d,aA]
    ·have v:(k==(acc.length:Int))=false:=by simpa using i
     simp only [v,aB,aI,i]
     by_cases j:k=1
     ·simp only [j,bP,aK]
      rw [Ja s 3 (.inr rfl) acc d,aA]
     ·have w:(k==1)=false:=by simpa using j
      simp only [w,aB,aI,j]
      rw [OF acc (λx z=>by have:=vx z; unfold Gd; omega) (by omega)]
      rfl
 | x::ks,acc,k,h1,p,u,d=>by
  simp only [aG] at h1 u
  rw [ow,HO,aA,HO,aA]
  rw [cZ,cZ] at *
  cases c2:mP 2 x
  ·cases i:mP 3 x
   ·simp only [c2,i,cR,gS,aB,aI,aK] at d ⊢
    rw [ns (by simp; omega) (by simp; omega),aA,EX s ks _ k (by omega) p (by simp; omega) (by rw [aM]; exact d)]
    simp only [aM,bM,aW]
   ·simp only [c2,i,cR,cI,jr,aB,aI] at d ⊢
    rw [EX s ks _ k (by omega) p (by omega) d]
  ·simp only [c2,cI,gr,aB,aI,aK] at d ⊢
   rw [mc (by omega) (by omega),EX s ks _ (k-1) (by omega) (by omega) (by omega) d]
   simp only [aG]
   have e:k-1-((ks.filter (mP 2)).length:Int)=k-(((ks.filter (mP 2)).length+1:Nat):Int):=by omega
   rw [e]
theorem Tp (s:mj) (k:Int) (hk:0≤k∧k≤1000) (ks:List Formula) (h:nodesL ks≤64):tV s k ks=some (we k ks,s):=by
 have:=sO ks
 have:=CZ (λx=>!mP 2 x&&!mP 3 x) ks
 unfold tV we
 rw [EX s ks [] k (by omega) (by omega) (by simp; omega) (by simpa using by omega)]
 rfl
mutual
noncomputable def tp:Formula→Formula
 | ⟨o,k,r,ks⟩=>if o=1 then ⟨o,k,r,ks⟩ else if o=4 then we k (shapeL ks) else sv o (shapeL ks)
noncomputable def shapeL:List Formula→List Formula
 | []=>[]
 | k::ks=>tp k::shapeL ks
end
theorem Gr (f:Formula):tp f=if f.Op=1 then f else if f.Op=4 then we f.K (shapeL f.Kids) else sv f.Op (shapeL f.Kids):=by cases f; rw [tp]
theorem J7 {a b:List Formula} (h:a.Perm b):nodesL a=nodesL b:=by
 induction h with
 | nil=>rfl
 | cons x _ ih=>rw [nodesL,nodesL,ih]
 | swap x y l=>rw [nodesL,nodesL,nodesL,nodesL]; omega
 | trans _ _ h1 d=>rw [h1,d]
theorem HY (eq:Formula→Formula→Bool):∀(l:List Formula) (x:Formula),nodesL (oX eq x l)≤nodesL l
 | [],x=>aR _
 | y::l,x=>by
  have h1:=HY eq l y
  have d:=HY eq l x
  rw [oX]
  split
  ·rw [nodesL]; omega
  ·rw [nodesL,nodesL]; omega
theorem VG (eq:Formula→Formula→Bool) (l:List Formula):nodesL (dd eq l)≤nodesL l:=by
 cases l with
 | nil=>exact aR _
 | cons x l=>have:=HY eq l x; rw [dd,nodesL,nodesL]; omega
theorem FK (op:Int) (ks:List Formula):lQ (sv op ks)≤1+nodesL ks:=by
 unfold sv
 split
 ·rw [lQ,nodesL]; omega
 ·have h1:=VG rD (yx (qx op ks))
  have d:=J7 (Cp (qx op ks))
  have i:=HD op ks
  generalize dd rD (yx (qx op ks))=r at *
  split
  ·rename_i x
   rw [nodesL,nodesL] at h1; omega
  ·rw [lQ]; omega
theorem Oo (k:Int) (ks:List Formula):lQ (we k ks)≤1+nodesL ks:=by
 have h:=CZ (λx=>!mP 2 x&&!mP 3 x) ks
 unfold we
 simp only
 generalize ks.filter (λx=>!mP 2 x&&!mP 3 x)=l at *
 generalize k-((ks.filter (mP 2)).length:Int)=n
 split
 ·rw [lQ,nodesL]; omega
 ·split
  ·rw [lQ,nodesL]; omega
  ·split
   ·have:=FK 2 l; omega
   ·split
    ·have:=FK 3 l; omega
    ·have:=J7 (Cp l); rw [lQ]; omega
theorem D2:∀f:Formula,lQ (tp f)≤lQ f:=by
 refine OR λf ih=>?_
 have h:∀ks:List Formula,(∀k∈ks,lQ (tp k)≤lQ k)→nodesL (shapeL ks)≤nodesL ks:=by
  intro ks
  induction ks with
  | nil=>intro _; rw [shapeL]; exact aR _
  | cons k ks d=>
   intro h
   have:=d (λx i=>h x (by simp [i]))
   have:=h k (by simp)
   rw [shapeL,nodesL,nodesL]; omega
 have h:=h f.Kids ih
 rw [Gr,qj f]
 split
 ·rw [qj]; omega
 ·split
  ·have:=Oo f.K (shapeL f.Kids); omega
  ·have:=FK f.Op (shapeL f.Kids); omega
theorem IB (ks:List Formula):nodesL (shapeL ks)≤nodesL ks:=by
 induction ks with
 | nil=>rw [shapeL]; exact aR _
 | cons k ks ih=>have:=D2 k; rw [shapeL,nodesL,nodesL]; omega
theorem Wk:∀(n:Nat) (f:Formula),pW f≤n→lQ f≤64→uH f=true→∀s:mj,pA n s f=some (tp f,s):=by
 intro n
 induction n with
 | zero=>intro f h; rw [od] at h; omega
 | succ n ih=>
  intro f G L hw s
  rw [od] at G
  have I:=qj f
  obtain ⟨h1,E,w⟩:=zr hw
  rw [pA]
  unfold vg
  rw [Gr]
  by_cases c1:f.Op=1
  ·simp only [c1,bP,aK]
  ·have x:(f.Op==1)=false:=by simpa using c1
   simp only [x,aB,aI,c1]
   have key:∀(ks acc:List Formula),(∀k∈ks,k∈f.Kids)→wellL ks=true→nodesL (acc++shapeL ks)≤64→nodesL ks≤64→qg (pA n) f ks acc s=some (if f.Op=4 then we f.K (acc++shapeL ks) else sv f.Op (acc++shapeL ks),s):=by
    intro ks
    induction ks with
    | nil=>
     intro acc _ _ j _
     rw [shapeL,aT] at *
     rw [qg]
     by_cases p:f.Op=4
     ·simp only [p,bP,aK]
      rw [Tp s f.K (by rcases w with h | h | h <;> omega) acc j,aA]
     ·have A:(f.Op==4)=false:=by simpa using p
      simp only [A,aB,aI,p]
      rw [Ja s f.Op (by rcases w with h | h | h <;> omega) acc j,aA]
    | cons k ks v=>
     intro acc hk d j u
     rw [wellL,bn] at d
     rw [nodesL] at u
     rw [shapeL] at j
     have i:=sO (acc++tp k::shapeL ks)
     simp only [aC,aG] at i
     rw [qg,ih k (by have:=tF (hk k (by simp)); omega) (by omega) d.1 s,aA,ns (by simp; omega) (by simp; omega),aA,
      v (acc++[tp k]) (λz J=>hk z (by simp [J])) d.2 (by rw [aM]; exact j) (by omega),shapeL]
     simp only [aM,bM,aW]
   have:=IB f.Kids
   have:=key f.Kids [] (λk hk=>hk) E (by simpa using by omega) (by omega)
   simpa using this
def Kg:Formula:=⟨0,0,tk,[]⟩
noncomputable def Cd (f:Formula):Formula×Int:=if pk f then (if pk (tp f) then (tp f,0) else (Kg,12)) else (Kg,11)
theorem Rf (f:Formula) (h:Gd f):BA f=some (Cd f):=by
 unfold BA Cd
 rw [Ca f h,aA]
 cases i:pk f
 ·rfl
 ·obtain ⟨h1,j,d⟩:=B6 i
  have n:=D2 f
  simp only [cI,aB,aI,aK]
  rw [Wk kY f (by rw [my]; omega) h1 d,aA,Ca (tp f) (by omega)]
  have e:(((⟨0⟩:mj).e) != 0)=false:=rfl
  simp only [e,aB,aI,aA]
  cases pk (tp f) <;> rfl
theorem Cj {f:Formula}:lQ (Cd f).1≤64:=by
 unfold Cd
 cases h:pk f
 ·exact by simp only [aB,aI,Kg]; rw [lQ,nodesL]; omega
 ·obtain ⟨h1,d,i⟩:=B6 h
  have:=D2 f
  simp only [aK]
  split
  ·show lQ (tp f)≤64; omega
  ·rw [Kg,lQ,nodesL]; omega
theorem Yt (f g:Formula) (d:lQ f≤10000000) (i:lQ g≤10000000):BL f g=some (Cd ⟨2,0,tk,[f,g]⟩):=by
 unfold BL
 have:=Rf ⟨2,0,tk,[f,g]⟩ (by show lQ _≤_; rw [lQ,nodesL,nodesL,nodesL]; omega)
 rw [show (⟨2,0,(⟨zS,zS⟩:ku),[f,g]⟩:Formula)=⟨2,0,tk,[f,g]⟩ from rfl,this]
 rfl
mutual
def tq (v:ku→Bool):Formula→Bool
 | ⟨o,k,r,ks⟩=>if o=1 then v r else if o=2 then decide (evN v ks=ks.length) else if o=3 then decide (0 < evN v ks) else decide (k≤(evN v ks:Int))
def evN (v:ku→Bool):List Formula→Nat
 | []=>0
 | k::ks=>(if tq v k then 1 else 0)+evN v ks
end
theorem Bx (v:ku→Bool) (f:Formula):tq v f=if f.Op=1 then v f.ku else if f.Op=2 then decide (evN v f.Kids=f.Kids.length) else if f.Op=3 then decide (0 < evN v f.Kids) else decide (f.K≤(evN v f.Kids:Int)):=by cases f; rw [tq]
theorem L6 (v:ku→Bool):∀ks:List Formula,evN v ks≤ks.length
 | []=>by rw [evN]; exact aR _
 | k::ks=>by have:=L6 v ks; rw [evN,aG]; split <;> omega
theorem MN (v:ku→Bool):∀ks:List Formula,evN v ks=ks.length↔∀k∈ks,tq v k=true
 | []=>by rw [evN]; simp
 | k::ks=>by
  have h1:=L6 v ks
  have d:=MN v ks
  rw [evN,aG]
  simp only [fE,←d]
  cases tq v k <;> simp <;> omega
theorem MP (v:ku→Bool):∀ks:List Formula,0 < evN v ks↔∃k∈ks,tq v k=true
 | []=>by rw [evN]; simp
 | k::ks=>by
  have d:=MP v ks
  rw [evN]
  simp only [aP,exists_eq_or_imp,←d]
  cases tq v k <;> simp <;> omega
theorem Mo (v:ku→Bool) (ks:List Formula):evN v ks=(ks.filter (tq v)).length:=by
 induction ks with
 | nil=>rw [evN]; rfl
 | cons k ks ih=>rw [evN,ih,cZ]; cases tq v k <;> simp <;> omega
theorem WC (v:ku→Bool) {a b:List Formula} (h:a.Perm b):evN v a=evN v b:=by
 rw [Mo,Mo]; exact (h.filter _).length_eq
theorem RR {v w:ku→Bool} (h:∀r,v r=true→w r=true):∀f:Formula,tq v f=true→tq w f=true:=by
 refine OR λf ih=>?_
 have key:evN v f.Kids≤evN w f.Kids:=by
  have:∀ks:List Formula,(∀k∈ks,tq v k=true→tq w k=true)→evN v ks≤evN w ks:=by
   intro ks
   induction ks with
   | nil=>intro _; rw [evN,evN]; exact aR _
   | cons k ks d=>
    intro hk
    have h1:=d (λx n=>hk x (by simp [n]))
    have i:=hk k (by simp)
    rw [evN,evN]
    cases j:tq v k
    ·simp; omega
    ·rw [i j]; simp; omega
  exact this _ ih
 have hle:=L6 w f.Kids
 rw [Bx,Bx]
 split
 ·exact h _
 ·split
  ·simp only [bH]; omega
  ·split
   ·simp only [bH]; omega
   ·simp only [bH]; omega
theorem IF (v:ku→Bool) (f1:ku→Option Bool) (rec:Formula→(ku→Option Bool)→Option Bool) (f:Formula):∀(ks:List Formula) (x:Nat),(∀k∈ks,rec k f1=some (tq v k))→x+ks.length≤100000000→
  sd rec f1 f ks (x:Int)=some (if f.Op=2 then decide (x+evN v ks=f.Kids.length) else if f.Op=3 then decide (0 < x+evN v ks) else decide (f.K≤((x+evN v ks:Nat):Int)))
 | [],x,_,_=>by
  rw [sd,evN,fD]
  by_cases c2:f.Op=2
  ·simp only [c2,bP,aK]
   congr 1
   rw [bK,fF,bH]; omega
  ·have i:(f.Op==2)=false:=by simpa using c2
   simp only [i,aB,aI,c2]
   by_cases d:f.Op=3
   ·simp only [d,bP,aK]
    congr 1
    rw [bK,bH,bH]; omega
   ·have n:(f.Op==3)=false:=by simpa using d
    simp only [n,aB,aI,d]
 | k::ks,x,h,p=>by
  rw [aG] at p
  rw [sd,h k (by simp),aA,evN]
  cases tq v k
  ·simp only [aB,aI]
   rw [IF v f1 rec f ks x (λz j=>h z (by simp [j])) (by omega),eO]
  ·simp only [aK]
   have e:wi0 .i64 ((x:Int)+1)=((x+1:Nat):Int):=by rw [mc (by omega) (by omega)]; omega
   rw [e,IF v f1 rec f ks (x+1) (λz j=>h z (by simp [j])) (by omega)]
   have i:x+1+evN v ks=x+(1+evN v ks):=by omega
   rw [i]
theorem Ue (v:ku→Bool) (f1:ku→Option Bool) (u:∀r,f1 r=some (v r)):∀(n:Nat) (f:Formula),pW f≤n→Gd f→sS n f f1=some (tq v f):=by
 intro n
 induction n with
 | zero=>intro f h; rw [od] at h; omega
 | succ n ih=>
  intro f i j
  rw [od] at i
  have p:=qj f
  have w:=sO f.Kids
  unfold Gd at j
  rw [sS]
  unfold yV
  rw [Bx]
  by_cases c1:f.Op=1
  ·simp only [c1,bP,aK,u,aA]
  ·have d:(f.Op==1)=false:=by simpa using c1
   simp only [d,aB,aI,c1]
   have:=IF v f1 (sS n) f f.Kids 0 (λk hk=>ih k (by have:=tF hk; omega) (by have:=vx hk; unfold Gd; omega)) (by omega)
   simpa using this
def xg (v:ku→Bool) (f:Formula):Bool:=pk f&&tq v f
theorem Sj (v:ku→Bool) (f1:ku→Option Bool) (d:∀r,f1 r=some (v r)) (f:Formula) (h:Gd f):yH f f1=some (xg v f):=by
 unfold yH xg
 rw [Ca f h,aA]
 have:=zB f
 cases pk f
 ·rfl
 ·unfold Gd at h
  simp only [aK,Ue v f1 d kY f (by rw [my]; omega) h,aA,dZ]
theorem LQ (op:Int) (f:Formula):mP op f=true↔f.Op=op∧f.Kids=[]:=by
 unfold mP; simp
theorem NC (v:ku→Bool) {f:Formula} (h:mP 2 f=true):tq v f=true:=by
 obtain ⟨h1,d⟩:=(LQ 2 f).1 h
 rw [Bx,h1,d,evN]; rfl
theorem NQ (v:ku→Bool) {f:Formula} (h:mP 3 f=true):tq v f=false:=by
 obtain ⟨h1,d⟩:=(LQ 3 f).1 h
 rw [Bx,h1,d,evN]; rfl
def xi (v:ku→Bool) (ks:List Formula):Bool:=ks.all (tq v)
def xQ (v:ku→Bool) (ks:List Formula):Bool:=ks.any (tq v)
theorem Rc (v:ku→Bool) (k:Int) (r:ku) (ks:List Formula):tq v ⟨2,k,r,ks⟩=xi v ks:=by
 rw [Bx,bK]; simp [xi,MN]
theorem UR (v:ku→Bool) (k:Int) (r:ku) (ks:List Formula):tq v ⟨3,k,r,ks⟩=xQ v ks:=by
 rw [Bx,bK]; simp [xQ,MP]
theorem OZ (v:ku→Bool):∀ks:List Formula,xi v (qx 2 ks)=xi v ks
 | []=>rfl
 | k::ks=>by
  have ih:=OZ v ks
  unfold xi at ih ⊢
  rw [qx,List.all_append,ih,gO]
  congr 1
  split
  ·rename_i h
   obtain ⟨o,n,r,l⟩:=k
   simp only at h; subst h
   exact (Rc v n r l).symm
  ·simp
theorem OK (v:ku→Bool):∀ks:List Formula,xQ v (qx 3 ks)=xQ v ks
 | []=>rfl
 | k::ks=>by
  have ih:=OK v ks
  unfold xQ at ih ⊢
  rw [qx,List.any_append,ih,gQ]
  congr 1
  split
  ·rename_i h
   obtain ⟨o,n,r,l⟩:=k
   simp only at h; subst h
   exact (UR v n r l).symm
  ·simp
theorem Ui (l:List Formula) (x:Formula):x∈dd rD (yx l)↔x∈l:=by
 rw [Pn (λ_ _=>AM),(Cp l).mem_iff]
theorem UI {v:ku→Bool} {a b:List Formula} (h:∀x,x∈a↔x∈b):xi v a=xi v b:=by
 unfold xi; rw [bK,dP,dP]
 exact ⟨λq x d=>q x ((h x).2 d),λq x d=>q x ((h x).1 d)⟩
theorem Ur {v:ku→Bool} {a b:List Formula} (h:∀x,x∈a↔x∈b):xQ v a=xQ v b:=by
 unfold xQ; rw [bK,eB,eB]
 exact ⟨λ⟨x,d,q⟩=>⟨x,(h x).1 d,q⟩,λ⟨x,d,q⟩=>⟨x,(h x).2 d,q⟩⟩
theorem Mv (v:ku→Bool) (ks:List Formula):tq v (sv 2 ks)=xi v ks:=by
 rw [←OZ]
 unfold sv
 split
 ·rename_i h
  rw [show (5-2:Int)=3 from rfl,UR]
  obtain ⟨x,d,he⟩:=eB.1 h
  have:xi v (qx 2 ks)=false:=by
   unfold xi; rw [List.all_eq_false]; exact ⟨x,d,by rw [NQ v he]; simp⟩
  rw [this]; rfl
 ·rw [←UI (Ui (qx 2 ks))]
  generalize dd rD (yx (qx 2 ks))=r
  split
  ·simp [xi]
  ·exact Rc v 0 tk r
theorem Me (v:ku→Bool) (ks:List Formula):tq v (sv 3 ks)=xQ v ks:=by
 rw [←OK]
 unfold sv
 split
 ·rename_i h
  rw [show (5-3:Int)=2 from rfl,Rc]
  obtain ⟨x,d,he⟩:=eB.1 h
  have:xQ v (qx 3 ks)=true:=by
   unfold xQ; rw [eB]; exact ⟨x,d,NC v he⟩
  rw [this]; rfl
 ·rw [←Ur (Ui (qx 3 ks))]
  generalize dd rD (yx (qx 3 ks))=r
  split
  ·simp [xQ]
  ·exact UR v 0 tk r
theorem NZ (v:ku→Bool):∀ks:List Formula,evN v ks=(ks.filter (mP 2)).length+evN v (ks.filter λx=>!mP 2 x&&!mP 3 x)
 | []=>rfl
 | k::ks=>by
  have ih:=NZ v ks
  rw [evN,cZ,cZ,ih]
  cases d:mP 2 k
  ·cases i:mP 3 k
   ·simp only [cR,gS,aB,aI,aK]
    rw [evN]; omega
   ·rw [NQ v i]; simp
  ·rw [NC v d]; simp; omega
theorem Tx (v:ku→Bool) (k:Int) (ks:List Formula):tq v (we k ks)=decide (k≤(evN v ks:Int)):=by
 have i:=NZ v ks
 unfold we
 simp only
 generalize d:ks.filter (λx=>!mP 2 x&&!mP 3 x)=l at *
 generalize (ks.filter (mP 2)).length=m at *
 have hle:=L6 v l
 have ha:=MN v l
 have hp:=MP v l
 split
 ·rw [Rc]; simp [xi]; omega
 ·split
  ·rw [UR]; simp [xQ]; omega
  ·split
   ·rw [Mv,bK,bH]
    unfold xi
    rw [dP,←ha]; omega
   ·split
    ·rw [Me,bK,bH]
     unfold xQ
     rw [eB,←hp]; omega
    ·rw [Bx]
     simp only [WC v (Cp l)]
     have:¬((4:Int)=1):=by omega
     have:¬((4:Int)=2):=by omega
     have:¬((4:Int)=3):=by omega
     simp only [*,aI]
     rw [bK,bH,bH]; omega
theorem VN (v:ku→Bool):∀f:Formula,uH f=true→tq v (tp f)=tq v f:=by
 refine OR λf ih hw=>?_
 obtain ⟨h1,i,j⟩:=zr hw
 rw [Jc,dP] at i
 have key:∀ks:List Formula,(∀k∈ks,tq v (tp k)=tq v k)→evN v (shapeL ks)=evN v ks∧xi v (shapeL ks)=xi v ks∧xQ v (shapeL ks)=xQ v ks:=by
  intro ks
  induction ks with
  | nil=>intro _; rw [shapeL]; exact ⟨rfl,rfl,rfl⟩
  | cons k ks d=>
   intro hk
   obtain ⟨a,b,c⟩:=d (λx p=>hk x (by simp [p]))
   have h:=hk k (by simp)
   unfold xi xQ at *
   rw [shapeL,evN,evN,a,h,gO,gO,gQ,gQ,b,c,h]
   exact ⟨rfl,rfl,rfl⟩
 obtain ⟨a,b,c⟩:=key f.Kids (λk hk=>ih k hk (i k hk))
 obtain ⟨o,n,r,l⟩:=f
 simp only at *
 rw [Gr]
 simp only
 rcases j with h | h | h
 ·simp only [h.1,aK]
 ·rcases h.1 with h | h
  ·subst h
   rw [Rc]
   exact (Mv v _).trans b
  ·subst h
   rw [UR]
   exact (Me v _).trans c
 ·obtain ⟨h,_⟩:=h
  subst h
  rw [Bx v ⟨4,n,r,l⟩]
  exact (Tx v n _).trans (by rw [a]; rfl)
theorem T5 {f g:Formula} (h:Cd f=(g,0)):pk f=true∧pk g=true∧∀v,tq v g=tq v f:=by
 unfold Cd at h
 cases d:pk f
 ·rw [d] at h; simp at h
 ·rw [d] at h
  simp only [aK] at h
  cases i:pk (tp f)
  ·rw [i] at h; simp at h
  ·rw [i] at h
   simp only [aK,Prod.mk.injEq] at h
   obtain ⟨rfl,_⟩:=h
   exact ⟨rfl,i,λv=>VN v f (B6 d).2.2⟩
def S8 (l:List Signed):Prop:=∀s∈l,B8 s.Tag
theorem PH (b:List kv) (x:kv):vo b x=some (rk ll b x):=by
 obtain ⟨q,e,h⟩:=PY x b
 unfold wA at e
 rw [pI] at e
 rw [e,show q=rk ll b x from by rw [bK,h,wg om]]
structure SR (l:List kv) (F:List kV):Prop where
 len:F.length≤900000000
 ref:AF l=some F
 mdl:∃m,AI l=some m∧zJ m.1 m.2.1 m.2.2.1 m.2.2.2.1 m.2.2.2.2.1 m.2.2.2.2.2=some F∧∀r w,wV m.1 m.2.1 m.2.2.1 m.2.2.2.1 m.2.2.2.2.1 m.2.2.2.2.2 r w=some (rk E6 F ⟨r,w⟩)
 Bd:∀C:List kv,(∀c,c∈C↔c∈l∧mM c=true)→Fe (rB C) F
theorem Z9 (l:List kv) (J:l.length≤30000):∃F,SR l F:=by
 obtain ⟨F,h⟩:=Zn l J
 refine ⟨F,h.aaX,h.ref,?_,λC G=>?_⟩
 ·obtain ⟨C,h1,i,E⟩:=h.C
  obtain ⟨C1,T,x,ws,n,z,m1,j,u⟩:=SO l (by omega)
  have d:∀c,c∈C1↔c∈C:=λc=>by rw [i,j]
  have v:Fe (rB C1) F:=⟨h1.1,λf=>(h1.2 f).trans (rB.congr d f).symm⟩
  have I:SM C1:=by unfold SM; omega
  refine ⟨_,z,?_,λr w=>?_⟩
  ·obtain ⟨F1,A,p⟩:=WJ I.small m1 C1 x ws [] n
   rw [←p.unique v]; exact A
  ·obtain ⟨b,e,hb⟩:=Um m1 C1 x ws [] n r w
   rw [e,show b=rk E6 F ⟨r,w⟩ from by rw [bK,hb,wg Bn,v.2]]
 ·obtain ⟨C',h1,i,E⟩:=h.C
  have d:∀c,c∈C'↔c∈C:=λc=>by rw [i,G]
  exact ⟨h1.1,λf=>(h1.2 f).trans (rB.congr d f)⟩
structure PB (p:lB):Prop where
 BR:p.kE.length≤2000000
 Er:p.kQ.length≤2000000
 rel:∀x∈p.kE,lQ x.ky≤10000000
 HH:∀a∈p.kQ,lQ a.ky≤10000000
 Q9:∀a∈p.kQ,a.lT.length≤2000000
theorem KH (f:kU→Option Bool):∀(l:List kU) (i:Nat),nM f l i=CH f l i
 | [],i=>by rw [nM]; rfl
 | x::l,i=>by
  rw [nM,CH]
  cases f x with
  | none=>rfl
  | some b=>
   simp only [aA]
   rw [KH f l (i+1)]
theorem Ks (f:mr→Option Bool):∀(l:List mr) (i:Nat),ox f l i=CH f l i
 | [],i=>by rw [ox]; rfl
 | x::l,i=>by
  rw [ox,CH]
  cases f x with
  | none=>rfl
  | some b=>
   simp only [aA]
   rw [Ks f l (i+1)]
theorem KT {α:Type} (f:α→Option Bool) (p:α→Bool) (l:List α) (h:∀x∈l,f x=some (p x)):((CH f l 0).bind λr1=>some (decide (r1≥0)))=some (l.any p):=by
 rcases FD f p l 0 h with ⟨e,h1⟩ | ⟨A,x,B,rfl,h1,d,e⟩
 ·rw [e,aA]
  have:l.any p=false:=by rw [List.any_eq_false]; intro x i; rw [h1 x i]; simp
  rw [this]; rfl
 ·rw [e,aA]
  have:(A++x::B).any p=true:=by simp [d]
  rw [this]
  congr 1
theorem Ts (f:kU→Option Bool) (p:kU→Bool) (l:List kU) (h:∀x∈l,f x=some (p x)):rO l f=some (l.any p):=by
 unfold rO py
 rw [KH]; exact KT f p l h
theorem SI (f:mr→Option Bool) (p:mr→Bool) (l:List mr) (h:∀x∈l,f x=some (p x)):tW l f=some (l.any p):=by
 unfold tW qn
 rw [Ks]; exact KT f p l h
def DW (p:lB) (c:kv):Option kU:=p.kE.find? λx=>ll x.Signed.kv c
theorem YK (p:lB) (c:kv):∃z,CG p c=some (match DW p c with | some x=>(x,true) | none=>(z,false)):=by
 unfold CG py DW
 rw [KH]
 rcases FD (λx=>zT x c) (λx=>ll x.Signed.kv c) p.kE 0 (λx _=>rfl) with ⟨e,h1⟩ | ⟨A,x,B,hp,h1,i,e⟩
 ·rw [e,aA,fX.2 (λx d=>by rw [h1 x d]; simp)]
  exact ⟨_,rfl⟩
 ·rw [e,aA,hp,jD,fX.2 (λx d=>by rw [h1 x d]; simp),eZ,i]
  have:¬(((0+A.length:Nat):Int) < 0):=by omega
  simp only [this,bN,aB,aI]
  rw [mz A x B _ (by omega)]
  exact ⟨x,rfl⟩
def ZY:mr:=⟨⟨zS,zS⟩,⟨0,0,⟨zS,zS⟩,[]⟩,[]⟩
theorem OU (f:mr→Option Bool):∀(n:Nat) (l:List mr) (i j:Int),qf f n l i j=HJ f ZY n l i j
 | 0,_,_,_=>rfl
 | n+1,l,i,j=>by
  rw [qf,HJ]
  simp only [OU f n]
  rfl
def zh (p:lB) (c:kv):List mr:=p.kQ.filter λa=>rk ll a.lT c
theorem Wp (p:lB) (hp:PB p) (c:kv):BP p c=some (zh p c):=by
 have:=hp.Er
 unfold BP xM zh
 rw [ns (by simp; omega) (by simp; omega)]
 simp only [aA,aW,pI]
 have:uI p.kQ (λx=>vh x c)=M6 (λx=>vh x c) ZY p.kQ:=by
  unfold uI M6 qn
  simp only [Ks,OU]
 rw [this,Pg _ (λa=>!rk ll a.lT c) ZY _ (by omega) (λa _=>by unfold vh wA; rw [pI,PH]; rfl)]
 simp only [fe]
noncomputable def sE:Formula×Int→List Formula→Formula×Int
 | t,[]=>t
 | t,g::l=>if t.2=0 then sE (Cd ⟨2,0,tk,[t.1,g]⟩) l else t
theorem QZ:∀(l:List Formula) (e o k:Int) (r:ku) (ks:List Formula),(∀g∈l,lQ g≤10000000)→lQ ⟨o,k,r,ks⟩≤64→
  wG l e o k r ks=some ((sE (⟨o,k,r,ks⟩,e) l).2,(sE (⟨o,k,r,ks⟩,e) l).1.Op,(sE (⟨o,k,r,ks⟩,e) l).1.K,(sE (⟨o,k,r,ks⟩,e) l).1.ku,(sE (⟨o,k,r,ks⟩,e) l).1.Kids)
 | [],e,o,k,r,ks,_,_=>by rw [wG,sE]
 | g::l,e,o,k,r,ks,h,v=>by
  rw [wG,sE]
  by_cases c:e=0
  ·have d:(e != 0)=false:=by simp [c]
   simp only [d,aB,aI,c,aK]
   rw [Yt _ g (by omega) (h g (by simp)),aA]
   have j:=Cj (f:=⟨2,0,tk,[⟨o,k,r,ks⟩,g]⟩)
   generalize Cd ⟨2,0,tk,[⟨o,k,r,ks⟩,g]⟩=q at *
   obtain ⟨⟨p,k',u,i⟩,e'⟩:=q
   exact QZ l e' p k' u i (λz n=>h z (by simp [n])) j
  ·have d:(e != 0)=true:=by simp [c]
   simp only [d,aK,c,aI]
noncomputable def Je (g:Formula) (l:List Formula):Formula×Int:=if (sE (Cd g) l).2=0 then sE (Cd g) l else (Kg,(sE (Cd g) l).2)
theorem Yk (g:Formula) (l:List Formula) (v:lQ g≤10000000) (n:∀x∈l,lQ x≤10000000):zu (g::l)=some (Je g l):=by
 unfold zu Je
 have i:lD (g::l) 0=some g:=mz [] g l 0 rfl
 have d:vB (decide (0≤1)&&decide ((1:Int)≤((g::l).length:Int)))=some ():=by
  rw [aG]
  have:(1:Int)≤((l.length+1:Nat):Int):=by omega
  simp [vB]; omega
 have p:=Cj (f:=g)
 rw [i,aA,Rf g (by unfold Gd; omega),aA,d,aA]
 generalize Cd g=q at *
 obtain ⟨⟨o,k,r,ks⟩,e⟩:=q
 have j:(g::l).drop (Int.toNat 1)=l:=rfl
 rw [j,QZ l e o k r ks n p,aA]
 generalize sE (⟨o,k,r,ks⟩,e) l=t
 obtain ⟨⟨w,k',z,u⟩,e'⟩:=t
 by_cases c:e'=0
 ·subst c; rfl
 ·have d:(e' != 0)=true:=by simp [c]
  simp only [d,aK,c,aI]; rfl
noncomputable def qk (p:lB) (c:kv):Formula×Int:=match DW p c with | none=>(Kg,42) | some x=>Je x.ky ((zh p c).map (·.ky))
theorem UQ:∀(l:List mr) (acc:List Formula),acc.length+l.length≤3000000→xz l acc=zu (acc++l.map (·.ky))
 | [],acc,_=>by
  rw [xz,dN,aT]
  cases zu acc <;> rfl
 | a::l,acc,h=>by
  rw [aG] at h
  rw [xz,ns (by simp; omega) (by simp; omega),aA,UQ l _ (by simp; omega)]
  simp
theorem Wl {p:lB} {c:kv} {x:kU} (h:DW p c=some x):x∈p.kE∧x.Signed.kv=c:=by
 unfold DW at h
 have h1:=List.mem_of_find?_eq_some h
 have d:=List.find?_some h
 exact ⟨h1,om.1 d⟩
theorem UP (p:lB) (hp:PB p) (c:kv):Da p c=some (qk p c):=by
 unfold Da qk
 obtain ⟨z,e⟩:=YK p c
 rw [e,aA]
 cases h:DW p c with
 | none=>rfl
 | some x=>
  simp only [cI,aB,aI]
  have i:=Wl h
  have j:(zh p c).length≤p.kQ.length:=dE _ _
  have:=hp.Er
  rw [Wp p hp c,aA,UQ _ _ (by simp; omega)]
  exact Yk x.ky _ (hp.rel x i.1) (λg d=>by
   obtain ⟨a,ha,rfl⟩:=aS.1 d
   exact hp.HH a (bU.1 ha).1)
theorem Nw (p:lB) (c:kv):lQ (qk p c).1≤64:=by
 have d:lQ Kg≤64:=by rw [Kg,lQ,nodesL]; omega
 have i:∀(l:List Formula) (t:Formula×Int),lQ t.1≤64→lQ (sE t l).1≤64:=by
  intro l
  induction l with
  | nil=>intro t h; exact h
  | cons g l ih=>
   intro t h
   rw [sE]
   split
   ·exact ih _ Cj
   ·exact h
 unfold qk
 split
 ·exact d
 ·unfold Je
  split
  ·exact i _ _ Cj
  ·exact d
theorem PT:∀(l:List Formula) (f:Formula) (e:Int),(sE (f,e) l).2=0→e=0∧(pk f=true→pk (sE (f,e) l).1=true∧∀v,tq v (sE (f,e) l).1=(tq v f&&l.all (tq v)))
 | [],f,e,h=>by rw [sE] at *; exact ⟨h,λp=>⟨p,λv=>by simp⟩⟩
 | g::l,f,e,h=>by
  rw [sE] at *
  by_cases c:e=0
  ·simp only [c,aK] at h ⊢
   cases d:Cd ⟨2,0,tk,[f,g]⟩ with
   | mk q e'=>
    rw [d] at h
    obtain ⟨h1,n⟩:=PT l q e' h
    subst h1
    obtain ⟨u,a2,a3⟩:=T5 d
    obtain ⟨i,j⟩:=n a2
    refine ⟨trivial,λ_=>⟨i,λv=>?_⟩⟩
    rw [j v,a3 v,Rc]
    simp [xi,iw]
  ·simp only [c,aI] at h
theorem Ua {p:lB} {c:kv} (h:(qk p c).2=0):pk (qk p c).1=true∧∃x,DW p c=some x∧∀v,tq v (qk p c).1=(tq v x.ky&&(zh p c).all λa=>tq v a.ky):=by
 unfold qk at *
 cases j:DW p c with
 | none=>rw [j] at h; simp at h
 | some x=>
  rw [j] at h
  simp only at h ⊢
  unfold Je at *
  by_cases d:(sE (Cd x.ky) ((zh p c).map (·.ky))).2=0
  ·simp only [d,aK] at h ⊢
   cases i:Cd x.ky with
   | mk q e=>
    rw [i] at d
    obtain ⟨h1,w⟩:=PT _ q e d
    subst h1
    obtain ⟨z,a2,a3⟩:=T5 i
    obtain ⟨n,u⟩:=w a2
    refine ⟨n,x,rfl,λv=>?_⟩
    rw [u v,a3 v,List.all_map]
    rfl
  ·simp only [d,aI] at h
def vF (F:List kV) (peer:ByteArray) (r:ku):Bool:=rk E6 F ⟨r,peer⟩
theorem X8 {l:List kv} {F:List kV} (h:SR l F) (peer:ByteArray):∃m,yC l peer=some m∧∀r,sT r m.1 m.2.1 m.2.2.1 m.2.2.2.1 m.2.2.2.2.1 m.2.2.2.2.2.1 m.2.2.2.2.2.2=some (vF F peer r):=by
 obtain ⟨m,e,_,d⟩:=h.mdl
 unfold yC
 rw [e,aA]
 refine ⟨_,rfl,λr=>?_⟩
 unfold sT
 rw [pI]
 exact d r peer
noncomputable def D1 (p:lB) (v:ku→Bool) (x:kU):Bool:=decide ((qk p x.Signed.kv).2=0)&&xg v (qk p x.Signed.kv).1
theorem GX (p:lB) (hp:PB p) (v:ku→Bool) (m) (d:∀r,sT r m.1 m.2.1 m.2.2.1 m.2.2.2.1 m.2.2.2.2.1 m.2.2.2.2.2.1 m.2.2.2.2.2.2=some (v r)):∀(l:List kU) (acc:List kv),acc.length+l.length≤1000000000→
  uo p m l acc=AQ (acc++(l.filter (D1 p v)).map (·.Signed.kv))
 | [],acc,_=>by
  rw [uo,gd,dN,aT,pI]
 | x::l,acc,h=>by
  rw [aG] at h
  have i:=Nw p x.Signed.kv
  rw [uo,UP p hp,aA,Sj v _ d _ (by unfold Gd; omega),cZ]
  unfold D1
  by_cases c:(qk p x.Signed.kv).2=0
  ·simp only [c,bP,aK,bB,dZ,aA]
   cases j:xg v (qk p x.Signed.kv).1
   ·simp only [aB,aI]
    exact GX p hp v m d l acc (by omega)
   ·simp only [aK]
    rw [ns (by simp; omega) (by simp; omega),aA,GX p hp v m d l _ (by simp; omega)]
    simp only [aU,aM,bM,aW]
    rfl
  ·have e:((qk p x.Signed.kv).2==0)=false:=by simpa using c
   simp only [e,aB,aI,c,bN,gr,aA]
   exact GX p hp v m d l acc (by omega)
theorem XU (p:lB) (hp:PB p) {l:List kv} {F:List kV} (h:SR l F) (peer:ByteArray):∃s,vy p l peer=some s∧rJ ((p.kE.filter (D1 p (vF F peer))).map (·.Signed.kv)) s:=by
 obtain ⟨m,e,d⟩:=X8 h peer
 have:=hp.BR
 unfold vy
 rw [e,aA,GX p hp _ m d p.kE [] (by simp; omega),aW]
 have h1:(p.kE.filter (D1 p (vF F peer))).length≤p.kE.length:=dE _ _
 exact Vr _ (by simp; omega)
theorem N9:∀(l m A:List kv),l.length=m.length→∃b,tf (A++m) l A.length=some b∧(b=true↔l=m)
 | [],m,A,i=>by
  obtain rfl:=aJ i.symm
  exact ⟨true,rfl,by simp⟩
 | x::l,[],A,i=>by simp at i
 | x::l,y::m,A,i=>by
  have i1:lD (A++y::m) (A.length:Int)=some y:=mz _ _ _ _ rfl
  rw [tf,i1,aA]
  cases hb:ll x y with
  | false=>
   refine ⟨false,rfl,?_⟩
   have:x≠y:=λd=>by have:=om.2 d; rw [this] at hb; cases hb
   simp [this]
  | true=>
   have d:=om.1 hb
   obtain ⟨b,j,u⟩:=N9 l m (A++[y]) (by simpa using i)
   simp only [cI,aB,aI]
   have n:A++y::m=(A++[y])++m:=by simp
   have p:A.length+1=(A++[y]).length:=by simp
   rw [n,p,j]
   exact ⟨b,rfl,by rw [u]; simp [d]⟩
theorem Hh (l m:List kv):∃b,qw l m=some b∧(b=true↔l=m):=by
 unfold qw
 by_cases h:l.length=m.length
 ·have:((l.length:Int) != (m.length:Int))=false:=by simp [h]
  simp only [this,aB,aI]
  exact N9 l m [] h
 ·have:((l.length:Int) != (m.length:Int))=true:=by simp; omega
  simp only [this,aK]
  exact ⟨false,rfl,by simp; intro hk; rw [hk] at h; exact h rfl⟩
theorem NF (l:List kv) (n:l.length≤1000000000):∃b,yD l=some b∧(b=true↔rJ l l):=by
 obtain ⟨s,e,h⟩:=Vr l n
 obtain ⟨b,i,j⟩:=Hh s l
 unfold yD
 rw [e,aA,i]
 refine ⟨b,rfl,j.trans ⟨λd=>?_,λd=>wz.unique zL h d⟩⟩
 rw [d] at h; exact h
def Zz (l:List kU):Prop:=(∀x∈l,x.Signed.Tag.length=8∧pk x.ky=true)∧rJ (l.map (·.Signed.kv)) (l.map (·.Signed.kv))
theorem N0:∀(l:List kU) (acc:List kv),acc.length+l.length≤1000000000→(∀x∈l,lQ x.ky≤10000000)→
  ∃b,uN l acc=some b∧(b=true↔(∀x∈l,x.Signed.Tag.length=8∧pk x.ky=true)∧rJ (acc++l.map (·.Signed.kv)) (acc++l.map (·.Signed.kv)))
 | [],acc,h,_=>by
  obtain ⟨b,e,hb⟩:=NF acc (by omega)
  rw [uN,e]
  exact ⟨b,rfl,by simpa using hb⟩
 | x::l,acc,h,i=>by
  rw [aG] at h
  have n:=i x (by simp)
  rw [uN,Ca _ (by omega)]
  simp only [aA]
  by_cases c1:x.Signed.Tag.length=8
  ·have d:((x.Signed.Tag.length:Int) != 8)=false:=by simp [c1]
   simp only [d,aB,aI,aA]
   cases c2:pk x.ky
   ·refine ⟨false,rfl,?_⟩
    constructor
    ·intro h; cases h
    ·rintro ⟨h1,_⟩
     have:=(h1 x (by simp)).2
     rw [c2] at this; cases this
   ·simp only [cI,aB,aI]
    obtain ⟨b,e,hb⟩:=N0 l (acc++[x.Signed.kv]) (by simp; omega) (λz j=>i z (by simp [j]))
    rw [ns (by simp; omega) (by simp; omega),aA,e]
    refine ⟨b,rfl,hb.trans ?_⟩
    simp only [aM,bM,aW,aU,fE]
    simp only [c1,c2,true_and]
  ·have d:((x.Signed.Tag.length:Int) != 8)=true:=by simp; omega
   simp only [d,aK,aA]
   refine ⟨false,rfl,?_⟩
   constructor
   ·intro h; cases h
   ·rintro ⟨h1,_⟩
    exact absurd (h1 x (by simp)).1 c1
def FO:Option ku→List mr→Prop
 | _,[]=>True
 | q,a::l=>(∀z,q=some z→wY z a.ku=true)∧FO (some a.ku) l
def aaI (l:List mr):Prop:=(∀a∈l,mw a.ku=true∧pk a.ky=true∧rJ a.lT a.lT)∧FO none l
theorem XV (A:List mr) (a:mr) (l:List mr) (p:A.length+1+l.length≤1000000000):∃b,(((if (decide ((A.length:Int) > 0)) then ((lD (A++a::l) (wi0 .i64 ((A.length:Int)-1))).bind λj=>((ov j.ku a.ku).bind λd=>some (decide (d≥0)))) else some false):Option Bool).bind λi=>some i)=some b∧(b=false↔∀z,A.getLast?.map (·.ku)=some z→wY z a.ku=true):=by
 rw [pI]
 rcases cV A with rfl | ⟨B,y,rfl⟩
 ·exact ⟨false,rfl,by simp⟩
 ·have h1:((B++[y]).length:Int) > 0:=by simp
  simp only [dt] at *
  simp only [h1,bB,aK]
  have hw:wi0 .i64 (((B++[y]).length:Int)-1)=(B.length:Int):=by rw [mc (by simp) (by simp at *; omega)]; simp
  rw [hw,aM]
  rw [show B++([y]++a::l)=B++y::(a::l) from rfl,mz B y (a::l) _ rfl,aA]
  obtain ⟨c,e,h⟩:=yn y.ku a.ku
  rw [e,aA]
  refine ⟨_,rfl,?_⟩
  simp only [gu,ie,Option.some_or,ep,gm]
  rw [fM]
  constructor
  ·rintro n z rfl; exact h.1 (by omega)
  ·intro n; have:=h.2 (n _ rfl); omega
theorem Qv (all:List mr):∀(l A:List mr),all=A++l→all.length≤1000000000→(∀a∈l,lQ a.ky≤10000000∧a.lT.length≤2000000)→
  ∃b,vS all l A.length=some b∧(b=true↔(∀a∈l,mw a.ku=true∧pk a.ky=true∧rJ a.lT a.lT)∧FO (A.getLast?.map (·.ku)) l)
 | [],A,_,_,_=>⟨true,by rw [vS],by simp [FO]⟩
 | a::l,A,d,j,v=>by
  have ha:=v a (by simp)
  have hlen:A.length+1+l.length≤1000000000:=by rw [d] at j; simp at j; omega
  obtain ⟨w,i,u⟩:=XV A a l hlen
  rw [←d] at i
  obtain ⟨x,E,h1⟩:=NF a.lT (by omega)
  rw [vS,zQ,Ca _ (by omega),E]
  simp only [aA] at i ⊢
  rw [i]
  rw [FO]
  simp only [fE]
  cases c1:mw a.ku
  ·exact ⟨false,by simp,by simp⟩
  ·cases c2:pk a.ky
   ·exact ⟨false,by simp,by simp⟩
   ·cases x with
    | false=>
     refine ⟨false,by simp,?_⟩
     have:¬rJ a.lT a.lT:=λh=>by have:=h1.2 h; cases this
     simp [this]
    | true=>
     have G:=h1.1 rfl
     cases w with
     | true=>
      refine ⟨false,by simp,?_⟩
      constructor
      ·intro h; cases h
      ·rintro ⟨_,h,_⟩
       have:=u.2 h; cases this
     | false=>
      have n:=u.1 rfl
      obtain ⟨b,e,hb⟩:=Qv all l (A++[a]) (by simp [d]) j (λz n=>v z (by simp [n]))
      rw [aC,gk] at e
      refine ⟨b,by simpa using e,hb.trans ?_⟩
      simp only [gu,ie,Option.some_or,ep,G,true_and]
      exact ⟨λ⟨p,q⟩=>⟨p,n,q⟩,λ⟨p,_,q⟩=>⟨p,q⟩⟩
def JC (p:lB):Bool:=decide (256 < p.kE.length)||decide (8 < p.kQ.length)||p.kQ.any λa=>decide (32 < a.lT.length)
theorem X5 (p:lB):CX p=some (JC p):=by
 unfold CX JC
 rw [SI _ (λa=>decide (32 < a.lT.length)) _ (λa _=>by unfold zN; congr 1; rw [bK,bH,bH]; omega)]
 by_cases c1:256 < p.kE.length
 ·have:((p.kE.length:Int) > 256):=by omega
  simp [c1,this]
 ·have:¬((p.kE.length:Int) > 256):=by omega
  by_cases c2:8 < p.kQ.length
  ·have:((p.kQ.length:Int) > 8):=by omega
   simp [c1,c2, *]
  ·have:¬((p.kQ.length:Int) > 8):=by omega
   simp [c1,c2, *]
theorem Uj (p:lB) (hp:PB p):AH p=some (p.kE.all λx=>decide ((qk p x.Signed.kv).2=0)):=by
 unfold AH
 rw [Ts _ (λx=>!decide ((qk p x.Signed.kv).2=0)) _ (λx _=>by
  unfold ym
  rw [UP p hp,aA]
  rfl),aA,ic]
structure Fk (p:lB):Prop where
 name:po p.Name=true
 WM:JC p=false
 BR:Zz p.kE
 Er:aaI p.kQ
 guards:∀x∈p.kE,(qk p x.Signed.kv).2=0
theorem N2 (p:lB) (hp:PB p):∃e,zi p=some e∧(e=0↔Fk p):=by
 have G:=hp.BR
 have E:=hp.Er
 obtain ⟨n,z,h1⟩:=N0 p.kE [] (by simp; omega) hp.rel
 obtain ⟨u,A,w⟩:=Qv p.kQ p.kQ [] rfl (by omega) (λa ha=>⟨hp.HH a ha,hp.Q9 a ha⟩)
 have d:Ev p=some n:=z
 have i:Ff p.kQ=some u:=A
 unfold zi
 rw [zY,aA,X5,d,i,Uj p hp]
 simp only [aA]
 cases c1:po p.Name
 ·exact ⟨30,rfl,by simp; intro h; have:=h.name; rw [c1] at this; cases this⟩
 ·cases c2:JC p
  ·cases n with
   | false=>exact ⟨11,rfl,by simp; intro h; have:=h1.2 h.BR; cases this⟩
   | true=>
    cases u with
    | false=>exact ⟨11,rfl,by simp; intro h; have:=w.2 h.Er; cases this⟩
    | true=>
     cases v:p.kE.all λx=>decide ((qk p x.Signed.kv).2=0)
     ·refine ⟨11,rfl,iff_of_false (by decide) (λh=>?_)⟩
      obtain ⟨x,j,hb⟩:=List.all_eq_false.1 v
      simp [h.guards x j] at hb
     ·exact ⟨0,rfl,by simp; exact ⟨c1,c2,h1.1 rfl,w.1 rfl,λx j=>by simpa using dP.1 v x j⟩⟩
  ·exact ⟨12,rfl,by simp; intro h; have:=h.WM; rw [c2] at this; cases this⟩
theorem Kl:∀(l:List mr) (z:ku),FO (some z) l→∀a∈l,wY z a.ku=true
 | [],z,_,a,ha=>by cases ha
 | x::l,z,h,a,ha=>by
  rcases aP.1 ha with rfl | ha
  ·exact h.1 z rfl
  ·exact (CK λ_=>True).trans _ _ _ trivial trivial trivial (h.1 z rfl) (Kl l x.ku h.2 a ha)
structure PG (p:lB):Prop extends PB p where
 csz:∀x∈p.kE,BS x.Signed.kv≤1000000000
 asz:∀a∈p.kQ,∀c∈a.lT,BS c≤1000000000
def gX:ku:=⟨⟨#[120]⟩,⟨#[121]⟩⟩
def gc:kv:=⟨1,gX,⟨#[109,101]⟩,⟨zS,zS⟩,⟨zS,zS⟩,zS⟩
end Go.Proofs.YtjjjihkifgdhgaaGreatDoor
