/- a part of a proof of AuditTells -/
import Derived.Test.YtlfibegniofmjaaGreatRtVa
import Derived.Lib.ItoaNum
import Derived.Lib.Join
import Derived.Lib.IndexMore
import Derived.Lib.Split
import Derived.Lib.LastIndexLaws
import Derived.Lib.Atoi
import Derived.Recover
import Derived.LaidEqlPtr
import Derived.RangeFuncRecord
import Derived.Lib.AppendStr
import Derived.Lib.Builder
import Derived.Lib.UnsafeStr
import Derived.Shelf.SlSortCmp.NoneTotal
import Derived.Shelf.SortM.Plain
import Derived.Shelf.SortM.SortNone
import Derived.Shelf.SlIter.Sorted
import Derived.Shelf.SlIter.Nil
import Derived.Test.YtlfibegniofmjaaGreatProg
import Derived.KernelRfl
set_option linter.all false
namespace Go.Proofs.YtlfibegniofmjaaGreat
open Go.IntKind renaming wrap → wi0
open Go.RowKit
variable [M:Md]
section
variable {dd:Bool}
def G4 {α:Type} (R:sV α):mc→List Value→α→Prop:=λμ vs x=>∃ys,vs=[.agg ys.toArray]∧R μ ys x
def zH {α β:Type} (R:sV α) (S:sV β):mc→List Value→α×β→Prop:=λμ vs x=>∃ys zs,vs=[.agg ys.toArray,.agg zs.toArray]∧R μ ys x.1∧S μ zs x.2
theorem G4.mk {α:Type} {R:sV α} {k:Nat} {μ μ':mc} {ys:List Value} {x:α} (a:Deep R k) (h:R μ ys x) (c:lm μ μ'):G4 R μ' [.agg ys.toArray] x:=⟨ys,Z,a.mono _ _ _ _ c h⟩
theorem zH.mk {α β:Type} {R:sV α} {S:sV β} {k m:Nat} {μ μ':mc} {ys zs:List Value} {x:α} {y:β} (d:Deep R k) (g:Deep S m) (h:R μ ys x) (c:S μ zs y) (a:lm μ μ'):zH R S μ' [.agg ys.toArray,.agg zs.toArray] (x,y) :=
 ⟨ys,zs,Z,d.mono _ _ _ _ a h,g.mono _ _ _ _ a c⟩
def Ce {α β:Type} (P:Program) (fv:Value) (μ:mc) (a:mc→List Value→α→Prop) (c:β→Value) (pm:α→Option β):Prop :=
 ∃f first caps,fv= .func (.func f) first caps∧(∀args w,(callFunc f args).run P w= .ok (.enter f args) w)∧∀W x vs r,lm μ (hp W)→a (hp W) vs x→pm x=some r→lF false P f (first.toList++(vs++caps.toList)) W (c r)
theorem Ce.form {α β:Type} {P:Program} {fv:Value} {μ:mc} {c:mc→List Value→α→Prop} {d:β→Value} {pm:α→Option β} (h:Ce P fv μ c d pm):∃f a b,fv= .func f a b:=let ⟨f,a,b,h,_⟩:=h; ⟨_,a,b,h⟩
end
section
variable {P:Program} {W:World} {E:mD} {d:Option Nat} {ty:TypeId} {pos:String} {af:Array Edge} {g:tC} {F:Nat→Prop} {w:World} {μ μ0:mc} {L:LO}
theorem Ce.mono {α β:Type} {fv:Value} {a:mc→List Value→α→Prop} {c:β→Value} {pm:α→Option β} (h:Ce P fv μ a c pm) (i:lm μ μ0):Ce P fv μ0 a c pm:=by
 obtain ⟨f,first,caps,h1,d,g⟩:=h
 exact ⟨f,first,caps,h1,d,λW x vs r h=>g W x vs r (i.trans h)⟩
theorem CM {α β:Type} {K:Value→World→Prop} {fv:Value} {j:mc→List Value→α→Prop} {k:β→Value} {pm:α→Option β} {c:Operand} {ax:Array Operand} {ats:Array TypeId} (x:α) {vs:List Value} {r:β} (a:ST false F w W μ L) (t:Ce P fv μ0 j k pm) (v:lm μ0 μ) (s:j (hp W) vs x) (u:lf E c=fv) (ha:ax.map (lf E)++(#[]:Array Value)=vs.toArray) (hm:pm x=some r) (h:∀W',ST false F w W' μ L→K (k r) W'):pq P E ⟨d,.call ⟨.value c,ax,ats⟩,ty,pos,af,g⟩ W K:=by
 obtain ⟨f,first,caps,rfl,n,o⟩:=t
 have i:ax.map (lf E)=vs.toArray:=by simpa using ha
 refine .inr (.inr ⟨f,(first.toList++(vs++caps.toList)).toArray,?_,cZ (o W x vs r (v.trans a.lb) s hm) λ_ _ ⟨p,q⟩=>⟨_,p,h _ (a.PZ q)⟩⟩)
 show (do let d ←resolve (lf E) ⟨.value c,ax,ats⟩ ty; invoke d.target d.args:Sem Next).run P W=_
 simp only [resolve,u,Deferred.ofValue,cK,dC,bQ,invoke,i,n]
 congr 2
 simp
end
section
variable {dd:Bool}
variable {β:Type} {Rl:sV β} {k:Nat} {μ:mc} {v:Value} {l:List β} {e:TypeId} {B:LO}
variable {F:Nat→Prop} {w W:World} {L:LO}
variable {P:Program} {E:mD} {d:Option Nat} {ty:TypeId} {pos:String} {af:Array Edge} {g:tC}
theorem QH {α:Type} {enc:α→List Value} (hk:∀x,(enc x).length=k) (c:0 < k) (hi:∀x y,enc x=enc y→x=y):∀{l m:List α},(l.map enc).flatten=(m.map enc).flatten→l=m
 | [],[],_=>rfl
 | [],b::m,h=>by
  have:=bI List.length h
  simp only [gA,dL,bZ,bY,bX,aF,hk] at this
  omega
 | a::l,[],h=>by
  have:=bI List.length h
  simp only [gA,dL,bZ,bY,bX,aF,hk] at this
  omega
 | a::l,b::m,h=>by
  simp only [bY,bX] at h
  obtain ⟨h1,d⟩:=List.append_inj h (by rw [hk,hk])
  rw [hi _ _ h1,QH hk c hi d]
theorem acE (x y:BU k) (h:Ay x=Ay y):x=y:=Subtype.ext h
theorem lQ.pre {v1:Value} {cl a:List (BU k)} (g:0 < k) (h:lQ e Ay k v cl B) (h1:lQ e Ay k v1 a B) (d:a.length≤cl.length):a=cl.take a.length:=by
 rcases h with ⟨rfl,rfl,rfl⟩ | ⟨s,cap,c,rfl,rfl,q1,q2,q3,q4⟩
 ·simp at d; simp [d]
 ·rcases h1 with ⟨_,_,h⟩ | ⟨g1,i,j,rfl,n,q,a2,a3,a4⟩
  ·cases h
  ·cases n
   refine QH Et g acE ?_
   rw [←a4]
   have hle:a.length*k≤cl.length*k:=dp _ d
   have:c.toList.take (a.length*k)=(c.toList.take (cl.length*k)).take (a.length*k):=by rw [gX,ej hle]
   rw [this,q4]
   have o:(cl.map Ay).flatten=((cl.take a.length).map Ay).flatten++((cl.drop a.length).map Ay).flatten:=by rw [←dx,←cV,gi]
   have p:((cl.take a.length).map Ay).flatten.length=a.length*k:=by rw [uD Et,dA,ej d]
   rw [o,←p,List.take_left]
theorem ua.replicate {α β:Type} {Q:α→β→Prop} {a:α} {b:β} (h:Q a b):∀n,ua Q (List.replicate n a) (List.replicate n b)
 | 0=>.nil
 | n+1=>.cons h (ua.replicate h n)
theorem ua.acD {α β:Type} {Q:α→β→Prop} {l:List α} {m:List β} (h:ua Q l m) {a:α} {b:β} (c:Q a b) (i:Nat):ua Q (rf l i a) (rf m i b):=by
 unfold rf
 rw [h.length]
 exact (h.take i).append (ua.replicate c _)
theorem II {t e':TypeId} {x ih:Operand} {u:IntKind} {i:Int} (q:P.underlying t=some (.slice e')) (he:∀w,(sizeOf e').run P w= .ok k w) (s:lf E x=v) (hi:lf E ih= .int u i) (h:mn e Rl k μ v l B) (j:0≤i) (p:i≤l.length) :
  ∃a,mn e Rl k μ a (l.take i.toNat) B∧∀W,nf P E ⟨d,.slice t x none (some ih) none,ty,pos,af,g⟩ W a W:=by
 obtain ⟨cl,h1,c⟩:=h
 obtain ⟨a,n,o⟩:=Ff (d:=d) (ty:=ty) (pos:=pos) (af:=af) (g:=g) q he s hi h1 Et j (by rw [c.length]; exact p)
 exact ⟨a,⟨_,n,c.take _⟩,o⟩
theorem GJ {t e':TypeId} {x a:Operand} {q:IntKind} {i:Int} (o:P.underlying t=some (.slice e')) (he:∀w,(sizeOf e').run P w= .ok k w) (p:lf E x=v) (hi:lf E a= .int q i) (h:mn e Rl k μ v l B) (c:0≤i) (n:i≤l.length) :
  ∃u,F9 k v i.toNat u∧∀W,nf P E ⟨d,.slice t x (some a) none none,ty,pos,af,g⟩ W u W:=by
 obtain ⟨cl,h1,j⟩:=h
 exact zA o he p hi h1 c (by rw [j.length]; exact n)
theorem Ub {t e':TypeId} {x:Operand} {u:Value} {i:Nat} (c:P.underlying t=some (.slice e')) (j:lf E x=u) (hu:F9 k v i u) (h:mn e Rl k μ v l B):nf P E ⟨d,.call ⟨.builtin .len,#[x],#[t]⟩,ty,pos,af,g⟩ W (.int .i64 ((l.length-i:Nat):Int)) W:=by
 obtain ⟨cl,h1,a⟩:=h
 rw [←a.length]
 exact JH c j hu h1
theorem GR {t e':TypeId} {x n:Operand} {M:IntKind} {i:Int} {x0:β} {u:Value} {o:Nat} {A:List Value→Prop} (G:∀{ys},Rl μ ys x0→A ys) (J:P.underlying t=some (.slice e')) (he:∀w,(sizeOf e').run P w= .ok k w) (L:lf E x=u) (hi:lf E n= .int M i) (h:mn e Rl k μ v l B) (hu:F9 k v o u) (q:0≤i) (z:(l.drop o)[i.toNat]? =some x0) :
  ∃p,(∃ys,A ys∧At (FK B) p ys∧Gq B k p (o+i.toNat))∧∀W,nf P E ⟨d,.indexAddr t x n,ty,pos,af,g⟩ W p W:=by
 obtain ⟨cl,h1,s⟩:=h
 obtain ⟨c,j,I⟩:=(s.drop o).get z
 obtain ⟨p,a,y⟩:=zL (d:=d) (ty:=ty) (pos:=pos) (af:=af) (g:=g) J he L hi h1 hu q j
 exact ⟨p,⟨c.1,G I,a.at h1 Et (BH j),a⟩,y⟩
theorem Js {K:Value→World→Prop} {z:β} {zs:List Value} {Y:LO} {t e':TypeId} {x:Operand} {u j:Value} {i:Nat} (p:Deep Rl k) (c:ST dd F w W μ (B++Y)) (h:mn e Rl k μ v l B) (a:Rl μ zs z) (y:P.underlying t=some (.slice e')) (G:∀w,(zeroValue e').run P w= .ok j w) (hu:F9 k v i u) (s:j.cells=zs.toArray) (A:lf E x=u) (q:∀W' R',ST dd F w W' μ (R'++Y)→mn e Rl k μ v (rf l i z) R'→K (.tuple #[]) W'):pq P E ⟨d,.call ⟨.builtin .clear,#[x],#[t]⟩,ty,pos,af,g⟩ W K:=by
 obtain ⟨cl,h1,o⟩:=h
 exact CE (p.cell a) c h1 Et Xv y G hu s A (λW' R' n a2=>q W' R' n ⟨_,a2,o.acD a i⟩)
end
section
variable {P:Program} {W:World} {E:mD} {d:Option Nat} {ty:TypeId} {pos:String} {af:Array Edge} {g:tC}
theorem WJ {tx tv:TypeId} {x y:Operand} {fv:Value} {s u:Array TypeId} {bb:Bool} (i:P.underlying tx=some (.func s u bb)) (h:∃f a b,fv= .func f a b) (j:lf E x=fv) (k:lf E y= .nilFunc) :
  nf P E ⟨d,.binOp .neq tx x y tv,ty,pos,af,g⟩ W (.bool true) W:=by
 obtain ⟨f,a,b,rfl⟩:=h
 show (do let r ←(do eqGuard .neq tx x y (lf E x) (lf E y); binOp .neq tx (lf E x) (lf E y)); pure (.value r):Sem Next).run P W=_
 rw [j,k]
 have c:=Gw 9999 i f a b W
 simp [eqGuard,binOp,Op.equal,show Op.maxDepth=9999+1 from rfl,c]
end
end Go.Proofs.YtlfibegniofmjaaGreat
namespace Go.Proofs.YtlfibegniofmjaaGreat
open Go.IntKind renaming wrap → wi0
open Go.RowKit
variable [M:Md]
theorem bS {α β:Type} {m:Option α} {f:α→Option β} {r:β} {G:Prop} (h:m.bind f=some r) (k:∀x,m=some x→f x=some r→G):G :=
 let ⟨x,a,b⟩:=bind_some h
 k x a b
theorem sj {α:Type} {a b:α} (h:some a=some b):a=b:=Option.some.inj h
theorem bC {α:Type} {b:Bool} {x y r:α} {G:Prop} (h:(if b=true then x else y)=r) (a:b=true→x=r→G) (k2:b=false→y=r→G):G:=by
 rcases UT b with e | e
 ·exact a e (aaF e h)
 ·exact k2 e (aaJ e h)
theorem cB {a b:Bool} (h:a=b):Value.bool a=Value.bool b:=bI Value.bool h
theorem nb {a b:Nat} (h:Nat.ble a b=true:=by exact rfl):a≤b:=Nat.le_of_ble_eq_true h
def bmL:Nat→Nat→List Bool
 | 0,_=>[]
 | n+1,m=>(m % 2==1)::bmL n (m / 2)
def bm (n m:Nat):Array Bool:=(bmL n m).toArray
section
variable {P:Program} {n:Nat} {Q:pJ} {E:mD} {W:World}
theorem CI {α:Type} {co:Operand} {b:Bool} {x y:Code} {A B r:α} (hm:(if b=true then A else B)=r) (a:lf E co= .bool b) (d:b=true→A=r→CW P n x Q E W) (c:b=false→B=r→CW P n y Q E W):CW P n (.cond co x y) Q E W :=
 Ux a (λe=>d e (aaF e hm)) (λe=>c e (aaJ e hm))
theorem CJ {c ρ:Type} {m:Option c} {k:c→Option ρ} {r:ρ} {x:Code} {K:mD→World→Prop} (hm:m.bind k=some r) (I:c→mD→World→Prop) (h1:∀s,m=some s→CW P n x (tT (I s) Q) E W) (d:∀s E W,I s E W→k s=some r→K E W):CW P n x (tT K Q) E W :=
 let ⟨s,a,b⟩:=bind_some hm
 Wo (I s) (h1 s a) (λE W h=>d s E W h b)
theorem Hs {d ρ c:Type} {m:Option (c ⊕ d)} {k:c ⊕ d→Option ρ} {r:ρ} {x:Code} {K:mD→World→Prop} (hm:m.bind k=some r) (I:d→mD→World→Prop) (h1:∀s,m=some s→k s=some r→CW P n x (tT (λE W=>∃t,s= .inr t∧I t E W) Q) E W) (g:∀s E W,I s E W→k (.inr s)=some r→K E W):CW P n x (tT K Q) E W :=
 let ⟨s,a,b⟩:=bind_some hm
 Wo (λE W=>∃t,s= .inr t∧I t E W) (h1 s a b) (λE W ⟨t,e,h⟩=>g t E W h (by subst e; exact b))
theorem LJ {c ρ:Type} {m:Option c} {k:c→Option ρ} {r:ρ} {ops:Array Oper} {rest:List Oper} (hm:m.bind k=some r) (I:c→mD→World→Prop) (j:Nat) (d:∀s E W,I s E W→k s=some r→LW P n ops Q (rest.drop j) E W) (h1:∀s,m=some s→(∀E W,I s E W→LW P n ops Q (rest.drop j) E W)→LW P n ops Q rest E W):LW P n ops Q rest E W :=
 let ⟨s,a,b⟩:=bind_some hm
 h1 s a (λE W h=>d s E W h b)
theorem PJ {c ρ:Type} {m:Option c} {k:c→Option ρ} {r:ρ} {ops:Array Oper} {S:Array Bool→World→Prop} {fuel:Nat} {listed:Array Bool} (hm:m.bind k=some r) (I:c→mD→World→Prop) (l':Array Bool) (d:Nat) (g:∀s E W,I s E W→k s=some r→PX P n ops Q S d l' E W) (h1:∀s,m=some s→(∀E W,I s E W→PX P n ops Q S d l' E W)→PX P n ops Q S fuel listed E W):PX P n ops Q S fuel listed E W :=
 let ⟨s,a,b⟩:=bind_some hm
 h1 s a (λE W h=>g s E W h b)
theorem cF (n:Nat) {f:FuncId} {fn:Func} {c:Code} {args:List Value} {w:World} {R:Ending→World→Prop} (a:P.funcs[f]? =some fn) (d:fn.body=some c) (h:@CW DG P n c (Ab P fn R) (Bi args) w) (i:fn.ntmps=n:=by exact rfl) (g:args.length≤n:=by exact nb):Calls P f args.toArray w R:=Cx a d i g h
end
section
variable {dd:Bool} {P:Program} {fn:Func} {E:mD} {W w:World} {μ:mc} {L:LO}
theorem rP {t:Tmp} {v:Value} (a:ST dd lN w W μ L) (c:fn.results=#[.tmp t]:=by exact rfl) (d:E t=v:=by exact rfl):Ab P fn (λe W'=>e= .returned v∧Ex dd w W') .ret E W:=ma c d ⟨Z,a.ex⟩
end
theorem ST.Rj {dd:Bool} {F:Nat→Prop} {w W:World} {μ:mc} {x:Nat×Obj} {L:LO} (h:ST dd F w W μ (x::L)):ST dd F w W μ ([x]++L):=h
theorem ST.aaH {dd:Bool} {F:Nat→Prop} {w W:World} {μ:mc} {L:LO} (h:ST dd F w W μ L):ST dd F w W μ ([]++L):=h
theorem aL {E:mD} {ax:Array Operand} {l:List Value} (h:ax.toList.map (lf E)=l):ax.map (lf E)++(#[]:Array Value)=l.toArray:=by subst h; apply Array.ext'; simp
section
variable {dd:Bool}
variable {P:Program} {E:mD} {W:World} {d:Option Nat} {ty:TypeId} {pos:String} {af:Array Edge} {g:tC}
 {F:Nat→Prop} {w:World} {μ:mc} {L:LO}
variable {f:FuncId} {fv:Operand} {ax:Array Operand} {ats:Array TypeId} {args:List Value} {v:Value} {K:Value→World→Prop}
theorem Eg (a:ST dd F w W μ L) (he:∀args w,(callFunc f args).run P w= .ok (.enter f args) w) (c:lF dd P f args W v) (h:∀W',ST dd F w W' μ L→K v W') (i:lf E fv= .func (.func f) #[] #[]:=by exact rfl) (ha:ax.toList.map (lf E)=args:=by exact rfl):pq P E ⟨d,.call ⟨.value fv,ax,ats⟩,ty,pos,af,g⟩ W K:=KN a i he (aL ha) c h
theorem rM {α:Type} {e:TypeId} {enc:α→List Value} {k:Nat} {l:List α} {Y:LO} (a:ST dd F w W μ Y) (he:∀args w,(callFunc f args).run P w= .ok (.enter f args) w) (c:mM dd P f args W e enc k l) (h:∀W' v μ' R,ST dd F w W' μ' (R++Y)→lm μ μ'→Lo F w μ μ'→lQ e enc k v l R→K v W') (i:lf E fv= .func (.func f) #[] #[]:=by exact rfl) (ha:ax.toList.map (lf E)=args:=by exact rfl):pq P E ⟨d,.call ⟨.value fv,ax,ats⟩,ty,pos,af,g⟩ W K:=TS _ a i he (aL ha) c h
theorem Tg {K':Value→LO→World→Prop} {L0 L2:LO} (i:ST dd F w W μ L) (j:L.Perm (L0++L2)) (he:∀args w,(callFunc f args).run P w= .ok (.enter f args) w) (k:IR L0 W→(L0.map (·.1)).Nodup→lm μ (wN W L0)→(∀b o,(b,o)∈L2→wN W L0 b=some o)→mX dd P f args W L0 K') (h:∀W' v μ' L1,ST dd F w W' μ' (L1++L2)→lm μ μ'→Lo F w μ μ'→(∀b,W.heap.size≤b→∀o,wN W' L1 b=some o→μ' b=some o)→K' v L1 W'→K v W') (n:lf E fv= .func (.func f) #[] #[]:=by exact rfl) (ha:ax.toList.map (lf E)=args:=by exact rfl):pq P E ⟨d,.call ⟨.value fv,ax,ats⟩,ty,pos,af,g⟩ W K :=
 Zr L0 L2 i j n he (aL ha) (λa b c d=>by have:=k a b c d; simpa using this) h
theorem We {K':Value→LO→mc→Prop} {L0 L2:LO} (i:ST dd F w W μ L) (j:L.Perm (L0++L2)) (he:∀args w,(callFunc f args).run P w= .ok (.enter f args) w) (k:IR L0 W→(L0.map (·.1)).Nodup→lm μ (wN W L0)→(∀b o,(b,o)∈L2→wN W L0 b=some o)→mq dd P f args W μ L0 K') (h:∀W' v μ' L1,ST dd F w W' μ' (L1++L2)→lm μ μ'→Lo F w μ μ'→K' v L1 μ'→K v W') (n:lf E fv= .func (.func f) #[] #[]:=by exact rfl) (ha:ax.toList.map (lf E)=args:=by exact rfl):pq P E ⟨d,.call ⟨.value fv,ax,ats⟩,ty,pos,af,g⟩ W K :=
 MB L0 L2 i j n he (aL ha) (λa b c d=>by have:=k a b c d; simpa using this) h
end
section
variable {E:mD} {x1 x2 x3 x4 x5 x6 x7 x8:Operand} {v1 v2 v3 v4 v5 v6 v7 v8:Value}
theorem la1 (h1:lf E x1=v1):[x1].map (lf E)=[v1]:=by rw [←h1]; rfl
end
end Go.Proofs.YtlfibegniofmjaaGreat
namespace Go.Proofs.YtlfibegniofmjaaGreat
open Go.IntKind renaming wrap → wi0
open Go.RowKit
def IxF (R:LO) (k:Nat) (p:Value) (i a:Nat):Prop:=∃g o,R=[(g,o)]∧p= .pointer (some ⟨g,i*k+a,none⟩)
theorem Gq.f {R:LO} {k:Nat} {p:Value} {i:Nat} (h:Gq R k p i):IxF R k p i 0:=h
section
variable {P:Program} {E:mD} {W:World} {d:Option Nat} {ty:TypeId} {pos:String} {af:Array Edge} {g:tC}
 {dd:Bool} {F:Nat→Prop} {w:World} {μ:mc} {L:LO} {α:Type} {e':TypeId} {enc:α→List Value} {k:Nat} {v:Value} {l:List α} {R:LO}
theorem lQ.put (h:lQ e' enc k v l R) (hk:∀x,(enc x).length=k) {p:Value} {i:Nat} (hp:Gq R k p i) {x0:α} (u:l[i]? =some x0) (x1:α) :
  ∃g a,R=[(g,.cells a e' (0,0))]∧p= .pointer (some ⟨g,i*k,none⟩)∧i*k+k≤a.size∧(∀j y,(enc x0)[j]? =some y→a[i*k+j]? =some y)∧
   lQ e' enc k v (l.set i x1) [(g,.cells (a.toList.take (i*k)++enc x1++a.toList.drop (i*k+k)).toArray e' (0,0))]:=by
 have o:i < l.length:=(bT.1 u).1
 obtain ⟨s,a,cap,rfl,rfl,t,A,n,G,rfl,I⟩:=Gu h hk hp u
 have hle:i*k+k≤cap*k:=by
  have:(i+1)*k≤cap*k:=dp _ eR
  rwa [dn,kx] at this
 have c:i*k+k≤l.length*k:=by
  have:(i+1)*k≤l.length*k:=dp _ eR
  rwa [dn,kx] at this
 have hlen:l.length*k≤cap*k:=dp _ t
 refine ⟨s,a,Z,Z,by rw [n]; exact hle,I,.inr ⟨s,cap,_,fb,Z,by simpa using t,A,?_,?_⟩⟩
 ·show ((a.toList.take (i*k)++(enc x1)++a.toList.drop (i*k+k)).toArray).size=_
  have d:a.toList.length=cap*k:=by simpa using n
  rw [dY,aF,aF,dA,fM,hk,d,ej eR]; omega
 ·rw [iO,LQ hk l i x1 o,←G]
  have w:(a.toList.take (l.length*k)).take (i*k)=a.toList.take (i*k):=by rw [gX]; congr 1; omega
  have z:(a.toList.take (l.length*k)).drop (i*k+k)=(a.toList.drop (i*k+k)).take (l.length*k-(i*k+k)):=by rw [jb]
  rw [w,z]
  show List.take (l.length*k) (a.toList.take (i*k)++enc x1++a.toList.drop (i*k+k))=_
  have d:a.toList.length=cap*k:=by simpa using n
  have q:(a.toList.take (i*k)++enc x1).length=i*k+k:=by rw [aF,dA,hk,d,ej eR]
  rw [fN,dM (by rw [q]; exact c),q]
end
variable [M:Md]
theorem oc {v:Value} (h:v.cells.toList.all Value.oneCell'=true:=by exact rfl):∀u∈v.cells.toList,u.oneCell'=true:=fq.1 h
theorem dc {p:Prop} [Decidable p] (h:p:=by decide):p:=h
theorem kr {p:Prop} (h:p:=by kernel_rfl):p:=h
theorem br {α:Sort _} {a b:α} (h:a=b:=by rfl):a=b:=h
abbrev Ob (c:Array Value) (t:TypeId):Obj:=.cells c t (0,0)
abbrev Ol (c:List Value) (t:TypeId):Obj:=.cells c.toArray t (0,0)
theorem ng {P:Program} {t e:TypeId} {m k:Nat} {z:Value} {qs:Array (Nat×Value)} {cs:Array Value} (i:P.underlying t=some (.slice e)) (g:∀w,(sizeOf e).run P w= .ok k w) (n:∀w,(zeroValue e).run P w= .ok z w) (hm:m*k≤16777216:=by decide) (d:qs.toList=(qs.toList.map (·.2)).zipIdx.map (λp=>(p.2,p.1)):=by exact rfl) (j:(qs.toList.map (·.2)).all (λv=>v.cells.size==k)=true:=by exact rfl) (c:(qs.toList.map (·.2)).length=m:=by exact rfl) (a:((qs.toList.map (·.2)).flatMap λv=>v.cells.toList).toArray=cs:=by exact rfl) (W:World) :
  (Instr.buildSlice t m qs).run P W= .ok (.slice (some ⟨W.heap.size,0,none⟩) m m) (W.alloc (.cells cs e (0,0))) :=
 EP _ i g n hm d (λv h=>eq_of_beq (fq.1 j v h)) c a W
section
variable {dd:Bool} {P:Program} {fn:Func} {E:mD} {W w:World} {μ:mc} {L L0:LO}
theorem rQ {α:Type} {f:α→Value} {a r:α} {t:Tmp} (hm:some a=some r) (c:ST dd lN w W μ L) (d:fn.results=#[.tmp t]:=by exact rfl) (g:E t=f a:=by exact rfl):Ab P fn (λe W'=>e= .returned (f r)∧Ex dd w W') .ret E W:=by
 obtain rfl:=sj hm; exact ma d g ⟨Z,c.ex⟩
theorem cG (n:Nat) {f:FuncId} {c:Code} {args:List Value} {v:Value} (a:P.funcs[f]? =some fn) (d:fn.body=some c) (h:ST dd lN w w (hp w) []→@CW DG P n c (Ab P fn λe j=>e= .returned v∧Ex dd w j) (Bi args) w) (i:fn.ntmps=n:=by exact rfl) (g:args.length≤n:=by exact nb):lF dd P f args w v:=Cx a d i g (h (ST.start w))
theorem yd {K:Value→LO→World→Prop} (n:Nat) {f:FuncId} {c:Code} {args:List Value} (a:P.funcs[f]? =some fn) (g:fn.body=some c) (h:ST dd lN w w (hp w) []→@CW DG P n c (Ab P fn λe d=>∃v L1,e= .returned v∧wm dd [] L1 w d∧K v L1 d) (Bi args) w) (j:fn.ntmps=n:=by exact rfl) (i:args.length≤n:=by exact nb):mX dd P f args w [] K:=Cx a g j i (h (ST.start w))
theorem Bl {K:Value→LO→World→Prop} (g:nN μ L0 w) (n:Nat) {f:FuncId} {c:Code} {args:List Value} (a:P.funcs[f]? =some fn) (i:fn.body=some c) (h:ST dd (keys L0) w w μ L0→@CW DG P n c (Ab P fn λe d=>∃v L1,e= .returned v∧wm dd L0 L1 w d∧K v L1 d) (Bi args) w) (k:fn.ntmps=n:=by exact rfl) (j:args.length≤n:=by exact nb):mX dd P f args w L0 K:=Cx a i k j (h (ST.yJ g))
theorem ve {K:Value→LO→mc→Prop} (g:nN μ L0 w) (n:Nat) {f:FuncId} {c:Code} {args:List Value} (a:P.funcs[f]? =some fn) (i:fn.body=some c) (h:ST dd (keys L0) w w μ L0→@CW DG P n c (Ab P fn λe d=>∃v L1 μ1,e= .returned v∧wm dd L0 L1 w d∧lm μ μ1∧Lo (keys L0) w μ μ1∧lm μ1 (wN d L1)∧K v L1 μ1) (Bi args) w) (k:fn.ntmps=n:=by exact rfl) (j:args.length≤n:=by exact nb):mq dd P f args w μ L0 K:=Cx a i k j (h (ST.yJ g))
end
section
variable {dd:Bool}
variable {P:Program} {E:mD} {W:World} {d:Option Nat} {ty:TypeId} {pos:String} {af:Array Edge} {g:tC}
 {F:Nat→Prop} {w:World} {μ:mc} {L:LO}
variable {f:FuncId} {fv:Operand} {ax:Array Operand} {ats:Array TypeId} {args:List Value} {v:Value} {K:Value→World→Prop}
theorem eM {K':Value→LO→World→Prop} {L0 L2:LO} (i:ST dd F w W μ L) (j:L.Perm (L0++L2)) (he:∀args w,(callFunc f args).run P w= .ok (.enter f args) w) (k:nN (wN W L0) L0 W→lm μ (wN W L0)→mX dd P f args W L0 K') (h:∀W' v μ' L1,ST dd F w W' μ' (L1++L2)→lm μ μ'→Lo F w μ μ'→(∀b,W.heap.size≤b→∀o,wN W' L1 b=some o→μ' b=some o)→K' v L1 W'→K v W') (n:lf E fv= .func (.func f) #[] #[]:=by exact rfl) (ha:ax.toList.map (lf E)=args:=by exact rfl):pq P E ⟨d,.call ⟨.value fv,ax,ats⟩,ty,pos,af,g⟩ W K :=
 Tg i j he (λa b c _=>k ⟨a,b,lm.refl _⟩ c) h n ha
theorem eD {K':Value→LO→mc→Prop} {L0 L2:LO} (i:ST dd F w W μ L) (j:L.Perm (L0++L2)) (he:∀args w,(callFunc f args).run P w= .ok (.enter f args) w) (k:nN μ L0 W→mq dd P f args W μ L0 K') (h:∀W' v μ' L1,ST dd F w W' μ' (L1++L2)→lm μ μ'→Lo F w μ μ'→K' v L1 μ'→K v W') (n:lf E fv= .func (.func f) #[] #[]:=by exact rfl) (ha:ax.toList.map (lf E)=args:=by exact rfl):pq P E ⟨d,.call ⟨.value fv,ax,ats⟩,ty,pos,af,g⟩ W K :=
 We i j he (λa b c _=>k ⟨a,b,c⟩) h n ha
end
def VX (op:BinOp):Value→Value→Option Value
 | .int k a,.int k' b=>if k=k' then PV k op a b else none
 | _,_=>none
def aaI (i:Nat):Value→Option Value
 | .tuple vs=>vs[i]?
 | _=>none
def P4:Value→Bool
 | .pointer (some ⟨_,_,none⟩)=>true
 | _=>false
def aat (o:Nat):Value→Value
 | .pointer (some ⟨b,k,none⟩)=>.pointer (some ⟨b,k+o,none⟩)
 | v=>v
theorem OZ {v:Value} (h:P4 v=true):∃b k,v= .pointer (some ⟨b,k,none⟩):=by
 unfold P4 at h; split at h
 ·exact ⟨_,_,Z⟩
 ·cases h
section
variable {P:Program} {n:Nat} {Q:pJ} {E:mD} {W:World} {ops:Array Oper} {rest:List Oper}
 {d j t:Nat} {want b:Bool} {v:Value} {ins:Go.Op} {ty:TypeId} {pos:String} {af:Array Edge} {A:Value→Prop} {x y:Operand}
theorem Wm (h:LW P n ops Q rest (oy E d (lf E x)) W) (a:d < n:=by decide):LW P n ops Q (⟨some d,.move x,ty,pos,af,none⟩::rest) E W:=V (kT Z) h a
theorem Wa (h:LW P n ops Q rest (oy E d (lf E x)) W) (a:d < n:=by decide):LW P n ops Q (⟨some d,.assign x,ty,pos,af,none⟩::rest) E W:=V (nz Z) h a
theorem Wh (c:lf E x=v) (h:LW P n ops Q rest (oy E d v) W) (a:d < n:=by decide):LW P n ops Q (⟨some d,.move x,ty,pos,af,none⟩::rest) E W:=V (kT c) h a
theorem Wg (c:lf E x=v) (h:LW P n ops Q rest (oy E d v) W) (a:d < n:=by decide):LW P n ops Q (⟨some d,.assign x,ty,pos,af,none⟩::rest) E W:=V (nz c) h a
theorem Wx {i:Nat} (a:aaI i (lf E x)=some v) (h:LW P n ops Q rest (oy E d v) W) (c:d < n:=by decide):LW P n ops Q (⟨some d,.extract x i,ty,pos,af,none⟩::rest) E W:=by
 unfold aaI at a; split at a
 ·rename_i vs e; exact V (xA e a) h c
 ·cases a
theorem Wi {op:BinOp} {tx tv:TypeId} (c:VX op (lf E x) (lf E y)=some v) (h:LW P n ops Q rest (oy E d v) W) (j:d < n:=by decide):LW P n ops Q (⟨some d,.binOp op tx x y tv,ty,pos,af,none⟩::rest) E W:=by
 unfold VX at c; split at c
 ·rename_i k a k' b g i
  split at c
  ·rename_i e; subst e; exact V (lI g i c) h j
  ·cases c
 ·cases c
theorem Wf {t:TypeId} {f off:Nat} (a:mP P t f off) (h:LW P n ops Q rest (oy E d (aat off (lf E x))) W) (hp:P4 (lf E x)=true:=by exact rfl) (c:d < n:=by decide):LW P n ops Q (⟨some d,.fieldAddr t x f,ty,pos,af,none⟩::rest) E W:=by
 obtain ⟨b,k,e⟩:=OZ hp
 refine V (kU a e) ?_ c
 rw [e] at h; exact h
theorem Wn (h:LW P n ops Q rest (oy E d (lf E x)) W) (hp:P4 (lf E x)=true:=by exact rfl) (a:d < n:=by decide):LW P n ops Q (⟨some d,.nilCheck x,ty,pos,af,none⟩::rest) E W:=by
 obtain ⟨b,k,e⟩:=OZ hp
 refine V (mK e) ?_ a
 rw [e] at h; exact h
theorem un (h:b=!want) (k:LW P n ops Q rest (oy E d undef) W) (c:(ops[j]?).bind (·.dst)=some t:=by exact rfl) (a:E t= .bool b:=by exact rfl) (i:t < n:=by decide) (g:d < n:=by decide) :
  LW P n ops Q (⟨some d,ins,ty,pos,af,some (j,want)⟩::rest) E W:=Vn c (by rw [a,h]) k i g
theorem ug (h:b=want) (i:nf P E ⟨some d,ins,ty,pos,af,some (j,want)⟩ W v W) (k:LW P n ops Q rest (oy E d v) W) (c:(ops[j]?).bind (·.dst)=some t:=by exact rfl) (a:E t= .bool b:=by exact rfl) (o:t < n:=by decide) (g:d < n:=by decide) :
  LW P n ops Q (⟨some d,ins,ty,pos,af,some (j,want)⟩::rest) E W:=Vg c (by rw [a,h]) i k o g
theorem sh (h:b=want) (k:pq P E ⟨some d,ins,ty,pos,af,some (j,want)⟩ W λv W'=>LW P n ops Q rest (oy E d v) W') (c:(ops[j]?).bind (·.dst)=some t:=by exact rfl) (a:E t= .bool b:=by exact rfl) (i:t < n:=by decide) (g:d < n:=by decide) :
  LW P n ops Q (⟨some d,ins,ty,pos,af,some (j,want)⟩::rest) E W:=RN c (by rw [a,h]) k i g
theorem ugQ (h:b=want) (i:∃p,A p∧∀W,nf P E ⟨some d,ins,ty,pos,af,some (j,want)⟩ W p W) (k:∀p,A p→LW P n ops Q rest (oy E d p) W) (c:(ops[j]?).bind (·.dst)=some t:=by exact rfl) (a:E t= .bool b:=by exact rfl) (o:t < n:=by decide) (g:d < n:=by decide) :
  LW P n ops Q (⟨some d,ins,ty,pos,af,some (j,want)⟩::rest) E W:=VgQ c (by rw [a,h]) i k o g
section
variable {dd:Bool} {F:Nat→Prop} {w:World} {μ:mc} {L:LO} {T:TypeId} {a off:Nat} {cs:Array Value} {fr:Nat×Nat}
theorem VA {t:TypeId} (c:ST dd F w W μ L) (i:(a,Obj.cells cs T fr)∈L) (ys:List Value) (g:∀w,(isAgg t).run P w= .ok true w) (j:∀w,(sizeOf t).run P w= .ok ys.length w) (h:LW P n ops Q rest (oy E d (.agg ys.toArray)) W) (o:lf E x= .pointer (some ⟨a,off,none⟩):=by exact rfl) (p:(cs.toList.drop off).take ys.length=ys:=by exact rfl) (k:d < n:=by decide):LW P n ops Q (⟨some d,.load t x,ty,pos,af,none⟩::rest) E W:=V (kP o (kV c.has i ys p g j)) h k
theorem VB {t:TypeId} (c:ST dd F w W μ L) (i:(a,Obj.cells cs T fr)∈L) (k:lf E x= .pointer (some ⟨a,off,none⟩)) (o:cs[off]? =some v) (g:∀w,(isAgg t).run P w= .ok false w) (h:LW P n ops Q rest (oy E d v) W) (j:d < n:=by decide):LW P n ops Q (⟨some d,.load t x,ty,pos,af,none⟩::rest) E W:=V (kP k (kZ c.has i o g)) h j
end
section
variable {K:mD→World→Prop} {Q':pJ} {c:Code} {id id2:Nat} {l:List Oper} {z:Code}
theorem sg (h:LW P n l.toArray (tT (λE W=>CW P n c Q E W) Q) l E W):CW P n (.seq (.region id l.toArray false) c) Q E W:=kY (kX h)
theorem ln (h:K E W):LW P n ops (tT K Q) [] E W:=lC (kW h)
theorem lr (h:LW P n l.toArray (tT (λE W=>CW P n c Q E W) Q) l E W):LW P n ops (tT (λE W=>CW P n (.seq (.region id l.toArray false) c) Q E W) Q') [] E W:=lC (kW (kY (kX h)))
theorem lS (h:LW P n l.toArray (tT (λE W=>CW P n c (tT (λE W=>CW P n z Q E W) Q) E W) (tT (λE W=>CW P n z Q E W) Q)) l E W):LW P n ops (tT (λE W=>CW P n (.seq (.seq (.region id l.toArray false) c) z) Q E W) Q') [] E W:=lC (kW (kY (kY (kX h))))
theorem bg (h:LW P n l.toArray (tT (λE W=>CW P n c (yA id2 Q) E W) (yA id2 Q)) l E W):CW P n (.block id2 (.seq (.region id l.toArray false) c)) Q E W:=mA (kY (kX h))
theorem kg (h:LW P n l.toArray (tT (λE W=>CW P n c Q E W) Q) l E W):CW P n .skip (tT (λE W=>CW P n (.seq (.region id l.toArray false) c) Q E W) Q') E W:=lU (kW (kY (kX h)))
theorem kS (h:LW P n l.toArray (tT (λE W=>CW P n c (tT (λE W=>CW P n z Q E W) Q) E W) (tT (λE W=>CW P n z Q E W) Q)) l E W):CW P n .skip (tT (λE W=>CW P n (.seq (.seq (.region id l.toArray false) c) z) Q E W) Q') E W:=lU (kW (kY (kY (kX h))))
theorem lt (h:Q .ret E W):LW P n ops (tT (λE W=>CW P n .ret Q E W) Q') [] E W:=lC (kW (lB h))
theorem kn (h:K E W):CW P n .skip (tT K Q) E W:=lU (kW h)
end
end
theorem uP.Yu {α:Type} {dd:Bool} {w W:World} {μ:mc} {L R:LO} {e:TypeId} {enc:α→List Value} {k:Nat} {v:Value} {l:List α} (h:uP e enc k v l R) (c:ST dd lN w W μ L) (i:∀p,p∈R→p∈L):Fr w.heap.size v:=by
 rcases h with ⟨rfl,rfl,rfl⟩ | ⟨g,off,cap,a,rfl,rfl,h1,j,n,o⟩
 ·exact Fr.nil _
 ·intro b d
  simp [Value.ownBlock] at d
  subst d
  rcases (c.box g (.cells a e (0,0)) (i _ (aY.2 Z))).2.2 with h | h
  ·exact h
  ·exact h.elim
theorem Pa.mono {α β:Type} {P:Program} {fv:Value} {μ μ0:mc} {a:α→List Value} {c:β→Value} {pm:α→Option β} (h:Pa P fv μ a c pm) (i:lm μ μ0):Pa P fv μ0 a c pm:=by
 obtain ⟨f,caps,h1,d,g⟩:=h
 exact ⟨f,caps,h1,d,λW x r h=>g W x r (i.trans h)⟩
theorem Pa.form {α β:Type} {P:Program} {fv:Value} {μ:mc} {c:α→List Value} {d:β→Value} {pm:α→Option β} (h:Pa P fv μ c d pm):∃f a b,fv= .func f a b:=let ⟨f,b,h,_⟩:=h; ⟨_,_,b,h⟩
def DL {S:Type} (rd:S→List Int):Int ⊕ S→Int
 | .inl x=>x
 | .inr r=>if (rd r).length > 0 then 13 else 0
def OK {T S:Type}:(Int×T) ⊕ S→Int ⊕ S
 | .inl x=>.inl x.1
 | .inr r=>.inr r
noncomputable def Jj (s:ByteArray) (lo hi:Int):Option ByteArray:=if 0≤lo∧lo≤hi∧hi≤s.size then some (s.extract lo.toNat hi.toNat) else none
theorem QF {s r:ByteArray} {lo hi:Int} (h:Jj s lo hi=some r):(0≤lo∧lo≤hi∧hi≤s.size)∧r=s.extract lo.toNat hi.toNat:=by
 unfold Jj at h
 split at h
 ·cases h; exact ⟨‹_›,Z⟩
 ·cases h
section
variable {P:Program} {E:mD} {W:World} {d:Option Nat} {ty:TypeId} {pos:String} {af:Array Edge} {g:tC} {t:TypeId} {x lo hi:Operand} {k k':IntKind} {i j:Int} {s r:ByteArray}
theorem Pd (j:P.underlying t=some .string) (n:lf E x= .string s) (c:lf E lo= .int k i) (h:Jj s i s.size=some r):nf P E ⟨d,.slice t x (some lo) none none,ty,pos,af,g⟩ W (.string r) W:=by
 obtain ⟨⟨h1,a,o⟩,rfl⟩:=QF h
 show (do pure (.value (←Instr.sliceAt t (lf E x) (some (lf E lo)) none none)):Sem Next).run P W=_
 rw [n,c]
 simp [Instr.sliceAt,Instr.slice,bA j,Instr.sliceBounds,Instr.sliceBound,asIntOf,h1,a]
theorem VM (n:P.underlying t=some .string) (o:lf E x= .string s) (i:lf E hi= .int k j) (h:Jj s 0 j=some r):nf P E ⟨d,.slice t x none (some hi) none,ty,pos,af,g⟩ W (.string r) W:=by
 obtain ⟨⟨h1,a,c⟩,rfl⟩:=QF h
 show (do pure (.value (←Instr.sliceAt t (lf E x) none (some (lf E hi)) none)):Sem Next).run P W=_
 rw [o,i]
 simp [Instr.sliceAt,Instr.slice,bA n,Instr.sliceBounds,Instr.sliceBound,asIntOf,a,c]
end
theorem mJ {P:Program} {n:Nat} {Q:pJ} {E:mD} {W:World} {g o r2 r6 p d:Nat} {t1 t2 t3 t4 t5 t6 t7:TypeId} {T U Y:String} {f1 f2 f3:Array Edge} {body:Code} {α:Type} {l:List α} (a c:Nat) (J:Nat→List α→mD→World→Prop) (I:l.length≤9223372036854775807) (G:J 0 l E W) (round:∀i x y E W,l[i]? =some x→(E a= .int .i64 (i:Nat)∧E c= .int .i64 (l.length:Nat))∧J i (x::y) E W→
   CW P n body (yA o (tT (λE' W'=>E' a= .int .i64 (i:Nat)∧E' c= .int .i64 (l.length:Nat)∧J (i+1) y (oy (oy E' d (.int .i64 ((i+1:Nat):Int))) a (.int .i64 ((i+1:Nat):Int))) W') (yA g Q))) (oy E p (.bool true)) W) (done:∀E W,(E a= .int .i64 (l.length:Nat)∧E c= .int .i64 (l.length:Nat))∧J l.length [] E W→Q .normal (oy E p (.bool false)) W) (hi:E a= .int .i64 (0:Nat):=by rfl) (he:E c= .int .i64 (l.length:Nat):=by rfl) (L:p < n:=by decide) (O:d < n:=by decide) (u:a < n:=by decide) (h1:Nat.beq c d=false:=by exact rfl) (w:Nat.beq c a=false:=by exact rfl) :
  CW P n (.block g (.loop (.seq (.region r2 #[⟨some p,.binOp .lss t1 (.tmp a) (.tmp c) t2,t3,T,f1,none⟩] false)
   (.seq (.cond (.tmp p) .skip (.exit g)) (.seq (.block o body)
    (.region r6 #[⟨some d,.binOp .add t4 (.tmp a) (.const (.int .i64 1)) t5,t6,U,f2,none⟩,⟨some a,.move (.tmp d),t7,Y,f3,none⟩] false)))))) Q E W:=by
 refine Xe (λi E W=>(E a= .int .i64 (i:Nat)∧E c= .int .i64 (l.length:Nat))∧J i (l.drop i) E W) l.length I ⟨⟨hi,he⟩,G⟩ L O u (λ_ _ _ h=>h.1) ?_ ?_
 ·rintro i E W t ⟨q,k⟩
  obtain ⟨x,xs,M,R,v⟩:=Vx t
  rw [M] at k
  have z:c≠d:=λe=>by subst e; rw [Nat.beq_refl] at h1; cases h1
  have A:c≠a:=λe=>by subst e; rw [Nat.beq_refl] at w; cases w
  have key:∀E' W',(E' a= .int .i64 (i:Nat)∧E' c= .int .i64 (l.length:Nat)∧J (i+1) xs (oy (oy E' d (.int .i64 ((i+1:Nat):Int))) a (.int .i64 ((i+1:Nat):Int))) W')→
    (E' a= .int .i64 (i:Nat)∧((oy (oy E' d (.int .i64 ((i+1:Nat):Int))) a (.int .i64 ((i+1:Nat):Int)) a= .int .i64 ((i+1:Nat):Int)∧oy (oy E' d (.int .i64 ((i+1:Nat):Int))) a (.int .i64 ((i+1:Nat):Int)) c= .int .i64 (l.length:Nat))∧J (i+1) (l.drop (i+1)) (oy (oy E' d (.int .i64 ((i+1:Nat):Int))) a (.int .i64 ((i+1:Nat):Int))) W')):=λE' W' ⟨q1,q2,q3⟩=>by
   refine ⟨q1,⟨by simp [oy],by simp [oy,z,A,q2]⟩,?_⟩
   rw [v]; exact q3
  refine mA (KK (round i x xs E W R ⟨q,k⟩) λe E' W' h=>?_)
  cases e with
  | normal=>exact key E' W' h
  | exit j=>
   unfold yA at h ⊢
   simp only at h ⊢
   split at h
   ·rename_i s; rw [aP s]; exact key E' W' h
   ·rename_i s; rw [aN s]; exact h
  | _=>exact h
 ·rintro E W ⟨q,k⟩
  rw [List.drop_length] at k
  exact done E W ⟨q,k⟩
end Go.Proofs.YtlfibegniofmjaaGreat
namespace Go.Proofs.YtlfibegniofmjaaGreat
open Go.IntKind renaming wrap → wi0
open Go.RowKit
theorem abe {P:Program} {o:Oper} {a:Act} {w:World} {K:Act→World→Prop} {Q:pJ} {n:Nat} (h:o.wp P a w K (lift n Q)):o.wpIn DG.F 0 P a w K (lift n Q):=by
 refine ⟨λ_ _=>trivial,?_⟩
 rw [show Oper.semAt DG.F.round a.eval o=execOp a.eval o from rfl]
 unfold Oper.wp at h
 cases i:(execOp a.eval o).run P w with
 | ok x g=>
  rw [i] at h
  cases x with
  | value v=>exact h
  | skip=>exact h
  | defer d=>exact h
  | enter f args=>exact KQ (cZ h λe j he=>by cases e with
   | returned v=>exact he
   | panicked c=>exact he
   | outgrown=>exact he)
  | row r args=>exact ⟨λe=>(nomatch (show (none:Option Nat).isSome=true from e)),λc cs _=>by
    obtain ⟨v,g,r,s⟩:=h c cs
    exact ⟨v,g,r,(stepsIn_wide (P:=P)).2 s⟩⟩
  | _=>exact h.elim
 | halt z g=>
  rw [i] at h
  cases z with
  | panic v=>exact h
  | _=>exact h.elim
def Un (P:Program) (fn:Func) (R:Ending→World→Prop):pJ
 | .normal,E,W | .ret,E,W=>∃v,(∀tmps:Array Value,(∀t,tmps.getD t undef=E t)→(results fn tmps).run P W= .ok v W)∧R (.returned v) W
 | .panic c,_,W=>R (.panicked c) W
 | _,_,_=>False
theorem xG {P:Program} {fn:Func} {R:Ending→World→Prop} {E:mD} {W:World} (h:Ab P fn R .ret E W):Un P fn R .ret E W:=h
theorem tu {P:Program} {f:FuncId} {fn:Func} {c:Code} {args:List Value} {w:World} {R:Ending→World→Prop} {n:Nat} (q:P.funcs[f]? =some fn) (p:fn.body=some c) (s:fn.ntmps=n) (ha:args.length≤n) (h:CW P n c (Un P fn R) (Bi args) w):Calls P f args.toArray w R:=by
 refine calls_of_wp q p ?_
 have j:Ag n { tmps:=args.toArray++Array.replicate (fn.ntmps-args.toArray.size) undef,defers:=[] } (Bi args):=by
  refine ⟨fo,Z,λt=>?_⟩
  simp only [Bi,dB,gq,gh,gK,dY,fz]
  by_cases o:t < args.length
  ·rw [aP o]
  ·rw [aN o,eV eR]
   split <;> simp
 refine jy ((kD (n:=0)).1 (h _ j)) (λe a u g=>?_)
 cases e with
 | normal=>
  obtain ⟨E,d,v,k,i⟩:=g
  exact ⟨d.2.1,v,k _ d.2.2,i⟩
 | ret=>
  obtain ⟨E,d,v,k,i⟩:=g
  exact ⟨d.2.1,v,k _ d.2.2,i⟩
 | exit id=>obtain ⟨E,d,h⟩:=g; exact h.elim
 | goto l=>obtain ⟨E,d,h⟩:=g; exact h.elim
 | panic c=>exact g
 | outgrown=>exact g.elim
def Qi (P:Program) (E:mD) (o:Oper) (W:World) (X:List PanicEntry→World→Prop):Prop :=
 (∃v W',(execOp (lf E) o).run P W= .halt (.panic v) W'∧X [{ v:=v,recovered:=false }] W')∨
 (∃f args,(execOp (lf E) o).run P W= .ok (.enter f args) W∧Calls P f args W λe a=>∃c,e= .panicked c∧X c a)
theorem Qi.wp {P:Program} {n:Nat} {E:mD} {o:Oper} {W:World} {X:List PanicEntry→World→Prop} (h:Qi P E o W X) {a:Act} (ha:Ag n a E) {K:Exit→Act→World→Prop} {J:Act→World→Prop} (hk:∀c w,X c w→K (.panic c) a w):o.wp P a W J K:=by
 unfold Oper.wp
 rw [ha.eval]
 rcases h with ⟨v,W',h1,d⟩ | ⟨f,args,h1,d⟩
 ·rw [h1]; exact hk _ _ d
 ·rw [h1,fD]
  refine cZ d ?_
  rintro e i ⟨c,rfl,g⟩
  exact hk _ _ g
section
variable {P:Program} {n:Nat} {Q:pJ} {E:mD} {W:World} {ops:Array Oper} {rest:List Oper} {S:Array Bool→World→Prop} {fuel:Nat} {listed:Array Bool}
theorem sI {o:Oper} (hw:rk n ops E o) (h:Qi P E o W λc w=>Q (.panic c) E0 w):LW P n ops Q (o::rest) E W:=λa ha=>by
 unfold wpListIn
 rw [aP (hw.of ha)]
 exact abe (h.wp ha λc w d=>⟨ha.2.1,d⟩)
theorem aam {o:Oper} (i:Nat) (hi:ops[i]? =some o) (d:Region.ready .any ops listed=[i]) (hw:rk n ops E o) (h:Qi P E o W λc w=>Q (.panic c) E0 w):PX P n ops Q S (fuel+1) listed E W:=λq a ha=>by
 refine ⟨λk=>(by rw [k] at d; cases d),λj g=>?_⟩
 rw [d] at g
 obtain rfl:=aY.1 g
 unfold wpOp
 simp only [hi]
 rw [aP (hw.of ha)]
 refine .inl ?_
 exact h.wp ha (λc w p=>⟨ha.2.1,p⟩)
end
def nw {R:Type} (dd:Bool) (w:World) (μ0:mc) (L0:LO) (s:Int ⊕ R) (K:R→Value→LO→mc→Prop) (X:Int→List PanicEntry→LO→mc→Prop):Ending→World→Prop:=λe a=>
 match s with
 | .inl x=>∃c L1 μ1,e= .panicked c∧wm dd L0 L1 w a∧lm μ0 μ1∧Lo (keys L0) w μ0 μ1∧lm μ1 (wN a L1)∧X x c L1 μ1
 | .inr r=>∃v L1 μ1,e= .returned v∧wm dd L0 L1 w a∧lm μ0 μ1∧Lo (keys L0) w μ0 μ1∧lm μ1 (wN a L1)∧K r v L1 μ1
def zo (dd:Bool) (P:Program) (f:FuncId) (args:List Value) (w:World) (μ0:mc) (L0:LO) (X:List PanicEntry→LO→mc→Prop):Prop :=
 Calls P f args.toArray w λe a=>∃c L1 μ1,e= .panicked c∧wm dd L0 L1 w a∧lm μ0 μ1∧Lo (keys L0) w μ0 μ1∧lm μ1 (wN a L1)∧X c L1 μ1
def me {R:Type} (dd:Bool) (P:Program) (f:FuncId) (args:List Value) (w:World) (μ0:mc) (L0:LO) (s:Int ⊕ R) (K:R→Value→LO→mc→Prop) (X:Int→List PanicEntry→LO→mc→Prop):Prop :=
 Calls P f args.toArray w (nw dd w μ0 L0 s K X)
theorem me.r {R:Type} {dd:Bool} {P:Program} {f:FuncId} {args:List Value} {w:World} {μ0:mc} {L0:LO} {r:R} {K:R→Value→LO→mc→Prop} {X:Int→List PanicEntry→LO→mc→Prop} (h:me dd P f args w μ0 L0 (.inr r) K X):mq dd P f args w μ0 L0 (K r):=h
theorem me.l {R:Type} {dd:Bool} {P:Program} {f:FuncId} {args:List Value} {w:World} {μ0:mc} {L0:LO} {x:Int} {K:R→Value→LO→mc→Prop} {X:Int→List PanicEntry→LO→mc→Prop} (h:me dd P f args w μ0 L0 (.inl x:Int ⊕ R) K X):zo dd P f args w μ0 L0 (X x):=h
theorem nO {K:mD→World→Prop} {Q:pJ} {c:List PanicEntry} {E:mD} {W:World} (h:Q (.panic c) E W):tT K Q (.panic c) E W:=h
theorem xp {id:Nat} {Q:pJ} {c:List PanicEntry} {E:mD} {W:World} (h:Q (.panic c) E W):yA id Q (.panic c) E W:=h
theorem pu {P:Program} {fn:Func} {R:Ending→World→Prop} {c:List PanicEntry} {E:mD} {W:World} (h:R (.panicked c) W):Un P fn R (.panic c) E W:=h
section
variable {P:Program} {W:World} {E:mD} {d:Option Nat} {ty:TypeId} {pos:String} {af:Array Edge} {g:tC} {F:Nat→Prop} {w:World} {μ:mc} {L:LO} {dd:Bool}
theorem oL {X:List PanicEntry→World→Prop} {X':List PanicEntry→LO→mc→Prop} {f:FuncId} {fv:Operand} {ax:Array Operand} {ats:Array TypeId} {caps:Array Value} {args:List Value} (L0 L2:LO) (a:ST dd F w W μ L) (i:L.Perm (L0++L2)) (z:lf E fv= .func (.func f) #[] caps) (he:∀args w,(callFunc f args).run P w= .ok (.enter f args) w) (ha:ax.map (lf E)++(#[]:Array Value)=args.toArray) (y:IR L0 W→(L0.map (·.1)).Nodup→lm μ (wN W L0)→(∀b o,(b,o)∈L2→wN W L0 b=some o)→zo dd P f (args++caps.toList) W μ L0 X') (h:∀W' c μ' L1,ST dd F w W' μ' (L1++L2)→lm μ μ'→Lo F w μ μ'→X' c L1 μ'→X c W'):Qi P E ⟨d,.call ⟨.value fv,ax,ats⟩,ty,pos,af,g⟩ W X:=by
 have j:ax.map (lf E)=args.toArray:=by simpa using ha
 refine .inr ⟨f,(args++caps.toList).toArray,O7 z he (by rw [j]; simp),cZ (y (a.held i) (a.Xo i) (a.XZ i) (a.OD i)) (λ_ W' ⟨v,L1,μ1,h1,n,p,k,s,t⟩=>⟨v,h1,h W' v μ1 L1 ((a.perm i).Yl n k s) p (λb x u=>k b (eu x a.size) (λ⟨o,A⟩=>by
  rcases ((a.perm i).box b o (cN _ A)).2.2 with q | q
  ·omega
  ·exact u q)) t⟩)⟩
end
section
variable {P:Program} {W:World} {E:mD} {d:Option Nat} {ty:TypeId} {pos:String} {af:Array Edge} {g:tC}
def zN (t:TypeId) (b:Nat) (x:Int):Value:=.iface t (.agg #[.pointer (some ⟨b,0,none⟩),.int .i64 x])
theorem Zu {t:TypeId} {x:Operand} {v:Value} {u:TypeDesc} (a:P.underlying t=some u) (hu:∀q,u≠.interface q) (c:lf E x=v):nf P E ⟨d,.makeInterface t x,ty,pos,af,g⟩ W (.iface t v) W:=by
 show (do let r ←Instr.makeInterface t (lf E x); pure (.value r):Sem Next).run P W=_
 rw [c]
 unfold Instr.makeInterface
 simp only [cK,bA a,bQ]
 cases u <;> simp_all
theorem Y6 {X:List PanicEntry→World→Prop} {x:Operand} {t:TypeId} {v:Value} (a:lf E x= .iface t v) (h:X [{ v:=.iface t v,recovered:=false }] W):Qi P E ⟨d,.panic x,ty,pos,af,g⟩ W X:=by
 refine .inl ⟨.iface t v,W,?_,h⟩
 show (do let r ←Instr.panic (lf E x); pure (.value r):Sem Next).run P W=_
 rw [a]
 simp [Instr.panic]
end
theorem nw.li {R:Type} {dd:Bool} {w:World} {μ0:mc} {L0:LO} {x:Int} {K:R→Value→LO→mc→Prop} {X:Int→List PanicEntry→LO→mc→Prop} {e:Ending} {a:World} (h:∃c L1 μ1,e= .panicked c∧wm dd L0 L1 w a∧lm μ0 μ1∧Lo (keys L0) w μ0 μ1∧lm μ1 (wN a L1)∧X x c L1 μ1):nw dd w μ0 L0 (.inl x:Int ⊕ R) K X e a:=h
theorem nw.ri {R:Type} {dd:Bool} {w:World} {μ0:mc} {L0:LO} {r:R} {K:R→Value→LO→mc→Prop} {X:Int→List PanicEntry→LO→mc→Prop} {e:Ending} {a:World} (h:∃v L1 μ1,e= .returned v∧wm dd L0 L1 w a∧lm μ0 μ1∧Lo (keys L0) w μ0 μ1∧lm μ1 (wN a L1)∧K r v L1 μ1):nw dd w μ0 L0 (.inr r:Int ⊕ R) K X e a:=h
theorem KY {P:Program} {fn:Func} {R:Ending→World→Prop} {E:mD} {W:World} (h:Ab P fn R .normal E W):Un P fn R .normal E W:=h
theorem zo.mF {dd:Bool} {P:Program} {f:FuncId} {args:List Value} {w:World} {μ0:mc} {L0:LO} {X:List PanicEntry→LO→mc→Prop} (h:zo true P f args w μ0 L0 X):zo dd P f args w μ0 L0 X :=
 cZ h λ_ _ ⟨v,L1,μ1,h1,a,c⟩=>⟨v,L1,μ1,h1,a.mF,c⟩
def Hx (D:List Deferred) (n:Nat) (a:Act) (E:mD):Prop:=a.tmps.size=n∧a.defers=D∧∀t,a.tmps.getD t undef=E t
section
variable {D:List Deferred} {n:Nat} {a:Act} {E:mD}
theorem Hx.eval (h:Hx D n a E):a.eval=lf E:=by
 funext x
 cases x with
 | tmp t=>exact h.2.2 t
 | const v=>rfl
 | global g=>rfl
 | func f=>rfl
theorem Hx.put (h:Hx D n a E) {d:Nat} (i:d < n) (v:Value):Hx D n (a.put (some d) v) (oy E d v):=by
 refine ⟨by simp [Act.put,h.1],h.2.1,λt=>?_⟩
 have g:=h.2.2 t
 simp only [Act.put,oy]
 by_cases c:t=d
 ·subst c
  simp [h.1,i]
 ·have:¬d=t:=λe=>c e.symm
  rw [aN c,←g]
  simp [dB,this]
theorem Hx.zD (h:Hx D n a E) (v:Value):Hx D n (a.put none v) E:=h
theorem Hx.yield (h:Hx D n a E) {ops:Array Oper} {j t:Nat} {b:Bool} (d:(ops[j]?).bind (·.dst)=some t) (i:t < n) (k:E t= .bool b):yielded ops a.tmps j=some b:=by
 have c:=h.2.2 t
 have g:a.tmps[t]? =some (E t):=by
  rw [←c]
  simp [dB,h.1,i]
 simp [yielded,d,g,k]
end
def UU (D:List Deferred) (n:Nat) (Q:pJ):Exit→Act→World→Prop
 | .panic c,a,w=>a.defers=D∧a.tmps.size=n∧Q (.panic c) (λt=>a.tmps.getD t undef) w
 | .outgrown,_,_=>False
 | e,a,w=>∃E,Hx D n a E∧Q e E w
def Jf (D:List Deferred) (P:Program) (n:Nat) (c:Code) (Q:pJ) (E:mD) (W:World):Prop:=∀a,Hx D n a E→c.wp P (UU D n Q) a W
def GI (D:List Deferred) (P:Program) (n:Nat) (ops:Array Oper) (Q:pJ) (l:List Oper) (E:mD) (W:World):Prop:=∀a,Hx D n a E→wpList P ops (UU D n Q) l a W
section
variable {D:List Deferred} {P:Program} {n:Nat} {Q:pJ} {E:mD} {W:World} {c x y:Code} {ops:Array Oper} {rest:List Oper} {o:Oper}
theorem Gf (h:Jf D P n x (tT (λE W=>Jf D P n y Q E W) Q) E W):Jf D P n (.seq x y) Q E W:=λa ha=>
 wp_seq (jy (h a ha) (λe d i h=>by
  cases e with
  | normal=>obtain ⟨E',c,g⟩:=h; exact g d c
  | _=>exact h))
theorem XG (h:Q .normal E W):Jf D P n .skip Q E W:=λ_ ha=>wp_skip ⟨E,ha,h⟩
theorem Tv (h:Q .ret E W):Jf D P n .ret Q E W:=λ_ ha=>wp_ret ⟨E,ha,h⟩
theorem WM {co:Operand} {b:Bool} (c:lf E co= .bool b) (g:b=true→Jf D P n x Q E W) (d:b=false→Jf D P n y Q E W):Jf D P n (.cond co x y) Q E W:=λa ha=>by
 refine wp_cond_split (t:=b) (by rw [ha.eval]; exact c) (λh=>g h a ha) (λh=>d h a ha)
theorem R5 {co:Operand} (a:lf E co= .bool true) (h:Jf D P n x Q E W):Jf D P n (.cond co x y) Q E W:=WM a (λ_=>h) (λh=>by cases h)
theorem Ek {id:Nat} {l:List Oper} (h:GI D P n l.toArray Q l E W):Jf D P n (.region id l.toArray false) Q E W:=λa ha=>wp_region_lit (h a ha)
theorem H6 (h:Q .normal E W):GI D P n ops Q [] E W:=λ_ ha=>wpList_nil ⟨E,ha,h⟩
theorem rk.Re {a:Act} (h:rk n ops E o) (ha:Hx D n a E):Region.wanted o (yielded ops a.tmps)=true:=by
 rcases h with h | ⟨j,want,t,d,g,i,c⟩
 ·simp [Region.wanted,h]
 ·simp [Region.wanted,d,ha.yield g i c]
theorem SL {d:Nat} {v:Value} {W':World} (hw:rk n ops E o) (c:o.dst=some d) (g:d < n) (i:(execOp (lf E) o).run P W= .ok (.value v) W') (h:GI D P n ops Q rest (oy E d v) W'):GI D P n ops Q (o::rest) E W:=λa ha=>by
 unfold wpList
 rw [aP (hw.Re ha)]
 refine .inl ?_
 unfold Oper.wp
 rw [ha.eval,i,fC,c]
 exact h _ (ha.put g v)
theorem Vo {W':World} (hw:rk n ops E o) (c:o.dst=none) (d:(execOp (lf E) o).run P W= .ok .skip W') (h:GI D P n ops Q rest E W'):GI D P n ops Q (o::rest) E W:=λa ha=>by
 unfold wpList
 rw [aP (hw.Re ha)]
 refine .inl ?_
 unfold Oper.wp
 rw [ha.eval,d,ie,c]
 exact h _ (ha.zD _)
theorem Vq {f:FuncId} {args:Array Value} {d:Nat} (hw:rk n ops E o) (g:o.dst=some d) (j:d < n) (k:(execOp (lf E) o).run P W= .ok (.enter f args) W) (h:Calls P f args W λe c=>∃v,e= .returned v∧GI D P n ops Q rest (oy E d v) c):GI D P n ops Q (o::rest) E W:=λa ha=>by
 unfold wpList
 rw [aP (hw.Re ha)]
 refine .inl ?_
 unfold Oper.wp
 rw [ha.eval,k,fD]
 refine h.mono ?_
 rintro e c ⟨v,rfl,i⟩
 simp only [g]
 exact i _ (ha.put j v)
theorem ab6 {o:Oper} {dd:Nat} (hw:rk n ops E o) (d:o.dst=some dd) (g:dd < n) (h:pq P E o W λv W'=>GI D P n ops Q rest (oy E dd v) W'):GI D P n ops Q (o::rest) E W:=by
 rcases h with ⟨v,W',h1,c⟩ | ⟨W',h1,c⟩ | ⟨f,args,h1,c⟩
 ·exact SL hw d g h1 c
 ·intro a ha
  unfold wpList
  rw [aP (hw.Re ha)]
  refine .inl ?_
  unfold Oper.wp
  rw [ha.eval,h1,ie,d]
  exact c _ (ha.put g _)
 ·exact Vq hw d g h1 c
theorem Wt {o:Oper} (hw:rk n ops E o) (d:o.dst=none) (h:pq P E o W λ_ W'=>GI D P n ops Q rest E W'):GI D P n ops Q (o::rest) E W:=by
 rcases h with ⟨v,W',h1,c⟩ | ⟨W',h1,c⟩ | ⟨f,args,h1,c⟩
 ·intro a ha
  unfold wpList
  rw [aP (hw.Re ha)]
  refine .inl ?_
  unfold Oper.wp
  rw [ha.eval,h1,fC,d]
  exact c _ (ha.zD _)
 ·exact Vo hw d h1 c
 ·intro a ha
  unfold wpList
  rw [aP (hw.Re ha)]
  refine .inl ?_
  unfold Oper.wp
  rw [ha.eval,h1,fD]
  refine cZ c ?_
  rintro e i ⟨v,rfl,g⟩
  simp only [d]
  exact g _ (ha.zD _)
theorem E5 {dd:Nat} {v:Value} (hw:rk n ops E o) (a:o.dst=some dd) (c:dd < n) (d:nf P E o W v W) (h:GI D P n ops Q rest (oy E dd v) W):GI D P n ops Q (o::rest) E W:=SL hw a c d h
theorem abZ (hw:rk n ops E o) (h:Qi P E o W λc w=>∀E',(∀t,E' t=E t)→Q (.panic c) E' w):GI D P n ops Q (o::rest) E W:=λa ha=>by
 unfold wpList
 rw [aP (hw.Re ha)]
 refine .inl ?_
 unfold Oper.wp
 rw [ha.eval]
 rcases h with ⟨v,W',h1,d⟩ | ⟨f,args,h1,d⟩
 ·rw [h1]; exact ⟨ha.2.1,ha.1,d _ ha.2.2⟩
 ·rw [h1,fD]
  refine cZ d ?_
  rintro e i ⟨c,rfl,g⟩
  exact ⟨ha.2.1,ha.1,g _ ha.2.2⟩
end
section
variable {P:Program} {n:Nat} {E:mD} {W:World} {c y:Code} {a:Act} {cs:List Frame} {Q:Exit→Act→List Frame→World→Prop}
theorem abj (h:CW P n c (λe E W=>e= .normal∧∀a,Ag n a E→y.wpS P Q a cs W) E W) (ha:Ag n a E):(Code.seq c y).wpS P Q a cs W :=
 wpS_seq (wpS_of_wp (jy ((kD (n:=0)).1 (h a ha)) (λe g j h=>by
  cases e with
  | normal=>obtain ⟨E',d,_,i⟩:=h; exact i g d
  | panic c=>exact absurd h.2.1 fb
  | outgrown=>exact h.elim
  | _=>obtain ⟨E',d,h1,_⟩:=h; cases h1)))
theorem SZ {fn:Func} {g:Frame} {ds:List Frame} {R:Ending→FrameMode→World→Prop} {u:FrameMode} (j:fn.results=#[]) (h:CW P n c (λe E W=>(e= .normal∨e= .ret)∧R (.returned (.tuple #[])) u W) E W) (ha:Ag n a E):c.wpS P (bodyPostS P fn g ds R) a ({ g with mode:=u }::ds) W :=
 wpS_of_wp (jy ((kD (n:=0)).1 (h a ha)) (λe k o h=>by
  cases e with
  | normal=>obtain ⟨E',d,_,i⟩:=h; exact ⟨d.2.1,u,Z,.tuple #[],results_none j _ _ _,i⟩
  | ret=>obtain ⟨E',d,_,i⟩:=h; exact ⟨d.2.1,u,Z,.tuple #[],results_none j _ _ _,i⟩
  | panic c=>rcases h.2.1 with h | h <;> cases h
  | outgrown=>exact h.elim
  | _=>obtain ⟨E',d,h1,_⟩:=h; rcases h1 with h | h <;> cases h))
theorem Ly {id d d2:Nat} {c g:Oper} {cs':List Frame} {v:Value} (p:d < n) (o:d2 < n) (h1:c.guard=none) (q:g.guard=none) (j:c.dst=some d) (k:g.dst=some d2) (t:∀a:Act,(execOp a.eval c).run P W= .ok .recover W) (hm:∀E:Nat→Value,E d=v→nf P E g W v W) (i:recoverD cs=some (v,cs')∨recoverD cs=none∧v= .nilIface∧cs'=cs) (ha:Ag n a E) (h:∀a,Ag n a (oy (oy E d v) d2 v)→Q .normal a cs' W):(Code.region id #[c,g] false).wpS P Q a cs W:=by
 refine wpS_region ?_
 have s:List.range (#[c,g]:Array Oper).size=[0,1]:=rfl
 rw [s]
 have key:∀a:Act,Ag n a (oy E d v)→wpOpsS P #[c,g] Q [1] a cs' W:=λa ha=>by
  unfold wpOpsS
  simp only [show (#[c,g]:Array Oper)[1]? =some g from rfl]
  rw [aP (by simp [Region.wanted,q])]
  have:=hm (oy E d v) (by simp [oy])
  unfold nf at this
  rw [ha.eval,this]
  simp only [fC,k]
  unfold wpOpsS
  exact h _ (ha.put o v)
 unfold wpOpsS
 simp only [show (#[c,g]:Array Oper)[0]? =some c from rfl]
 rw [aP (by simp [Region.wanted,h1]),t]
 simp only
 rcases i with i | ⟨i,rfl,rfl⟩
 ·rw [i]
  simp only [j]
  exact key _ (ha.put p v)
 ·rw [i]
  simp only [j]
  exact key _ (ha.put p _)
theorem Q1 {args:List Value} {fn:Func} {n:Nat} (c:fn.ntmps=n) (h:args.length≤n):Ag n { tmps:=args.toArray++Array.replicate (fn.ntmps-args.toArray.size) undef,defers:=[] } (Bi args):=by
 refine ⟨fo,Z,λt=>?_⟩
 simp only [Bi,dB,gq,gh,gK,dY,fz]
 by_cases a:t < args.length
 ·rw [aP a]
 ·rw [aN a,eV eR]
  split <;> simp
end
section
variable {P:Program} {E:mD} {W:World} {d:Option Nat} {x y:Operand} {tx tv ty:TypeId} {pos:String} {af:Array Edge} {g:tC} {ms:List (String×TypeId)}
theorem Oq {t tx:TypeId} {q} {v:Value} (dd:Nat) (a:P.underlying tx=some (.interface q)) (W:World):(Op.equalIn (dd+1) tx (.iface t v) .nilIface).run P W= .ok false W:=by
 simp [Op.equalIn,bA a]
theorem NO {tx:TypeId} {q} (dd:Nat) (a:P.underlying tx=some (.interface q)) (W:World):(Op.equalIn (dd+1) tx .nilIface .nilIface).run P W= .ok true W:=by
 simp [Op.equalIn,bA a]
theorem Mb {tx e:TypeId} {k:Nat} {p:Addr} (dd:Nat) (c:P.underlying tx=some (.pointer e)) (a:∀w,(sizeOf e).run P w= .ok (k+1) w) (W:World):(Op.equalIn (dd+1) tx (.pointer (some p)) (.pointer (some p))).run P W= .ok true W:=by
 simp [Op.equalIn,bA c,a W,run_sameAddr_same]
theorem Z9 {q} {t:TypeId} {v:Value} (c:P.underlying tx=some (.interface q)) (h:lf E x= .iface t v) (i:lf E y= .nilIface):nf P E ⟨d,.binOp .eql tx x y tv,ty,pos,af,g⟩ W (.bool false) W:=by
 show (do let r ←(do eqGuard .eql tx x y (lf E x) (lf E y); binOp .eql tx (lf E x) (lf E y)); pure (.value r):Sem Next).run P W=_
 rw [h,i]
 have a:=Oq (t:=t) (v:=v) 9999 c W
 simp [eqGuard,binOp,Op.equal,Op.maxDepth,a]
theorem ZI {q} {v:Value} (c:P.underlying tx=some (.interface q)) (h:lf E x= .nilIface) (i:lf E (.const v)= .nilIface):nf P E ⟨d,.binOp .eql tx x (.const v) tv,ty,pos,af,g⟩ W (.bool true) W:=by
 show (do let r ←(do eqGuard .eql tx x (.const v) (lf E x) (lf E (.const v)); binOp .eql tx (lf E x) (lf E (.const v))); pure (.value r):Sem Next).run P W=_
 rw [h,i]
 have a:=NO 9999 c W
 simp [eqGuard,binOp,Op.equal,Op.maxDepth,a]
theorem Si {e:TypeId} {k:Nat} {p:Addr} (h:P.underlying tx=some (.pointer e)) (c:∀w,(sizeOf e).run P w= .ok (k+1) w) (i:lf E x= .pointer (some p)) (j:lf E y= .pointer (some p)):nf P E ⟨d,.binOp .neq tx x y tv,ty,pos,af,g⟩ W (.bool false) W:=by
 show (do let r ←(do eqGuard .neq tx x y (lf E x) (lf E y); binOp .neq tx (lf E x) (lf E y)); pure (.value r):Sem Next).run P W=_
 rw [i,j]
 have a:=Mb (p:=p) 9999 h c W
 simp [eqGuard,binOp,Op.equal,Op.maxDepth,a]
theorem Ul {t:TypeId} {v:Value} {u:TypeDesc} (a:P.underlying t=some u) (hu:∀q,u≠.interface q) (c:lf E x= .iface t v):nf P E ⟨d,.typeAssert x tx t true,ty,pos,af,g⟩ W (.tuple #[v,.bool true]) W:=by
 show (do let r ←Instr.typeAssert (lf E x) tx t true; pure (.value r):Sem Next).run P W=_
 rw [c]
 unfold Instr.typeAssert
 simp only [cK,bA a,bQ]
 cases u <;> simp_all
end
def YF (n:Nat) (Q:List Deferred→pJ) (e:Exit) (a:Act) (w:World):Prop:=∃D,UU D n (Q D) e a w
def Te (P:Program) (n:Nat) (c:Code) (Q:List Deferred→pJ) (E:mD) (W:World):Prop:=∀a,Ag n a E→c.wp P (YF n Q) a W
def Yv (P:Program) (n:Nat) (ops:Array Oper) (Q:List Deferred→pJ) (l:List Oper) (E:mD) (W:World):Prop:=∀a,Ag n a E→wpList P ops (YF n Q) l a W
def abu (P:Program) (fn:Func) (R:Ending→World→Prop) (D:List Deferred):pJ
 | .normal,E,W | .ret,E,W=>∀tmps:Array Value,(∀t,tmps.getD t undef=E t)→Leaves P fn tmps R D .returning W
 | .panic c,E,W=>∀tmps:Array Value,(∀t,tmps.getD t undef=E t)→Leaves P fn tmps R D (.panicking c) W
 | _,_,_=>False
section
variable {P:Program} {n:Nat} {Q:List Deferred→pJ} {E:mD} {W:World} {c x y:Code} {ops:Array Oper} {rest:List Oper} {o:Oper}
theorem Td (h:CW P n x (λe E W=>e= .normal∧Te P n y Q E W) E W):Te P n (.seq x y) Q E W:=λa ha=>
 wp_seq (jy ((kD (n:=0)).1 (h a ha)) (λe g j h=>by
  cases e with
  | normal=>obtain ⟨E',d,_,i⟩:=h; exact i g d
  | panic c=>exact absurd h.2.1 fb
  | outgrown=>exact h.elim
  | _=>obtain ⟨E',d,h1,_⟩:=h; cases h1))
theorem abd (h:Te P n x (λD=>tT (λE W=>Jf D P n y (Q D) E W) (Q D)) E W):Te P n (.seq x y) Q E W:=λa ha=>
 wp_seq (jy (h a ha) (λe d i ⟨D,h⟩=>by
  cases e with
  | normal=>obtain ⟨E',c,g⟩:=h; exact jy (g d c) (λe a w h=>⟨D,h⟩)
  | _=>exact ⟨D,h⟩))
theorem Uo {id:Nat} {l:List Oper} (h:Yv P n l.toArray Q l E W):Te P n (.region id l.toArray false) Q E W:=λa ha=>wp_region_lit (h a ha)
theorem ab2 {dd:Nat} {v:Value} (hw:rk n ops E o) (d:o.dst=some dd) (g:dd < n) (c:nf P E o W v W) (h:Yv P n ops Q rest (oy E dd v) W):Yv P n ops Q (o::rest) E W:=λa ha=>by
 unfold wpList
 rw [aP (hw.of ha)]
 refine .inl ?_
 unfold Oper.wp
 unfold nf at c
 rw [ha.eval,c,fC,d]
 exact h _ (ha.put g v)
theorem Va {d:Deferred} (hw:rk n ops E o) (c:o.dst=none) (g:(execOp (lf E) o).run P W= .ok (.defer d) W) (h:Q [d] .normal E W):Yv P n ops Q [o] E W:=λa ha=>by
 unfold wpList
 rw [aP (hw.of ha)]
 refine .inl ?_
 unfold Oper.wp
 rw [ha.eval,g,Oper.upon_defer,c]
 exact wpList_nil ⟨[d],E,⟨ha.1,by simp [Act.put,show a.defers=[] from ha.2.1],ha.2.2⟩,h⟩
theorem RP {f:FuncId} {fn:Func} {c:Code} {args:List Value} {w:World} {R:Ending→World→Prop} (j:P.funcs[f]? =some fn) (i:fn.body=some c) (k:fn.ntmps=n) (ha:args.length≤n) (h:Te P n c (λD=>abu P fn R D) (Bi args) w):Calls P f args.toArray w R:=by
 refine calls_of_wp_defers j i (jy (h _ (Q1 k ha)) λe a o ⟨D,g⟩=>?_)
 cases e with
 | normal=>obtain ⟨E,d,h⟩:=g; show Leaves _ _ _ _ a.defers _ _; rw [d.2.1]; exact h _ d.2.2
 | ret=>obtain ⟨E,d,h⟩:=g; show Leaves _ _ _ _ a.defers _ _; rw [d.2.1]; exact h _ d.2.2
 | exit id=>obtain ⟨E,d,h⟩:=g; exact h.elim
 | goto l=>obtain ⟨E,d,h⟩:=g; exact h.elim
 | panic c=>show Leaves _ _ _ _ a.defers _ _; rw [g.1]; exact g.2.2 _ (λ_=>rfl)
 | outgrown=>exact g.elim
theorem VL {d:Option Nat} {ty:TypeId} {pos:String} {af:Array Edge} {g:tC} {f:FuncId} {fv:Operand} {ax:Array Operand} {ats:Array TypeId} {caps:Array Value} {args:List Value} (c:lf E fv= .func (.func f) #[] caps) (ha:ax.map (lf E)++(#[]:Array Value)=args.toArray):(execOp (lf E) ⟨d,.defer ⟨.value fv,ax,ats⟩,ty,pos,af,g⟩).run P W= .ok (.defer ⟨.fn (.func f) caps,args.toArray⟩) W:=by
 show (do pure (.defer (←resolve (lf E) ⟨.value fv,ax,ats⟩ ty)):Sem Next).run P W=_
 have a:ax.map (lf E)=args.toArray:=by simpa using ha
 simp [resolve,Deferred.ofValue,c,a]
theorem Qw {fn:Func} {R:Ending→World→Prop} {k:FuncId} {ax:Array Value} {u:FrameMode} {X:World→Prop} (hu:u≠.run) (he:∀args w,(callFunc k args).run P w= .ok (.enter k args) w) (c:CallsD P k ax u W λe a W'=>e= .returned (.tuple #[])∧settle a= .returning∧X W') (h:∀W',X W'→Ab P fn R .ret E W') (tmps:Array Value) (i:∀t,tmps.getD t undef=E t):Leaves P fn tmps R [⟨.fn (.func k) #[],ax⟩] u W :=
 leaves_cons hu (by simp [invoke,he]) (CallsD.mono c (by
  rintro e a W' ⟨rfl,g,n⟩
  obtain ⟨v,j,d⟩:=h W' n
  show Leaves _ _ _ _ [] (settle a) _
  rw [g]
  exact ⟨v,j _ i,d⟩))
end
theorem vg.form {κ γ:Type} {kenc:κ→Value} {Q:Value→γ→LO→Prop} {μ:mc} {v:Value} {l:List (κ×γ)} (h:vg kenc Q μ v l):∃m,v= .map m:=by
 obtain ⟨a,R,h,_⟩:=h
 obtain ⟨m,rfl⟩:=h.form
 exact ⟨_,Z⟩
def YR (dd:Bool) (w:World) (μ0:mc) (L0:LO) (K:Value→LO→mc→Prop):Ending→World→Prop:=λe a=>∃v L1 μ1,e= .returned v∧wm dd L0 L1 w a∧lm μ0 μ1∧Lo (keys L0) w μ0 μ1∧lm μ1 (wN a L1)∧K v L1 μ1
theorem V1 {dd:Bool} {P:Program} {f:FuncId} {args:List Value} {w:World} {μ0:mc} {L0:LO} {K:Value→LO→mc→Prop} (h:Calls P f args.toArray w (YR dd w μ0 L0 K)):mq dd P f args w μ0 L0 K:=h
theorem mq.mono {dd:Bool} {P:Program} {f:FuncId} {args:List Value} {w:World} {μ0:mc} {L0:LO} {K K':Value→LO→mc→Prop} (h:mq dd P f args w μ0 L0 K) (hk:∀v L1 μ1,lm μ0 μ1→K v L1 μ1→K' v L1 μ1):mq dd P f args w μ0 L0 K' :=
 cZ h λ_ _ ⟨v,L1,μ1,h1,c,a,d,g,i⟩=>⟨v,L1,μ1,h1,c,a,d,g,hk _ _ _ a i⟩
theorem me.mono {R:Type} {dd:Bool} {P:Program} {f:FuncId} {args:List Value} {w:World} {μ0:mc} {L0:LO} {s:Int ⊕ R} {K K':R→Value→LO→mc→Prop} {X X':Int→List PanicEntry→LO→mc→Prop} (h:me dd P f args w μ0 L0 s K X) (hk:∀r v L1 μ1,K r v L1 μ1→K' r v L1 μ1) (k:∀x c L1 μ1,X x c L1 μ1→X' x c L1 μ1):me dd P f args w μ0 L0 s K' X' :=
 cZ h λe n h=>by
  cases s with
  | inl x=>obtain ⟨v,L1,μ1,h1,a,d,g,i,j⟩:=h; exact ⟨v,L1,μ1,h1,a,d,g,i,k _ _ _ _ j⟩
  | inr r=>obtain ⟨v,L1,μ1,h1,a,d,g,i,j⟩:=h; exact ⟨v,L1,μ1,h1,a,d,g,i,hk _ _ _ _ j⟩
def YH {S:Type} (K:S→LO→mc→Prop) (X:Int→LO→mc→Prop):Int ⊕ S→LO→mc→Prop
 | .inl x=>X x
 | .inr r=>K r
section
variable {dd:Bool} {F:Nat→Prop} {w W:World} {μ:mc} {L:LO} {l:Nat}
theorem F4 {w:World} {b:Nat} {o:Obj} (h:b≠l):(w.putObj l o).heap[b]? =w.heap[b]?:=World.putObj_heap_other h
theorem ST.frame (h:ST dd F w W μ L) (o:Obj) (j:l < w.heap.size) (i:¬F l) (hm:μ l=none):ST dd F (w.putObj l o) (W.putObj l o) μ L:=by
 refine ⟨h.os,h.tape,h.output,h.drawn,by simpa using h.size,λb c k=>?_,λb x c=>?_,λb x c=>?_,h.nd⟩
 ·by_cases a:b=l
  ·subst a
   rw [World.putObj_heap_same (by have:=h.size; omega),World.putObj_heap_same j]
  ·rw [F4 a,F4 a]
   exact h.oh b (by simpa using c) k
 ·have a:b≠l:=λe=>by rw [e,hm] at c; cases c
  rw [F4 a]; exact h.mem b x c
 ·obtain ⟨h1,g,d⟩:=h.box b x c
  have a:b≠l:=λe=>by
   subst e
   rcases d with d | d
   ·omega
   ·exact i d
  rw [F4 a]
  exact ⟨h1,g,by simpa using d⟩
end
section
variable {P:Program} {fn:Func} {R:Ending→World→Prop} {E:mD} {W:World}
theorem VG {c:Tmp} {t0:TypeId} {a0:Addr} {v0:Value} {d:Tmp} {t1:TypeId} {a:Addr} {v1:Value} {g:Tmp} {t2:TypeId} {a2:Addr} {v2:Value} {i:Tmp} {v3:Value} (o:fn.results=#[.cell c t0,.cell d t1,.cell g t2,.tmp i]) (j:E c= .pointer (some a0)) (q:(Instr.loadAt t0 (.pointer (some a0))).run P W= .ok v0 W) (h1:E d= .pointer (some a)) (s:(Instr.loadAt t1 (.pointer (some a))).run P W= .ok v1 W) (k:E g= .pointer (some a2)) (t:(Instr.loadAt t2 (.pointer (some a2))).run P W= .ok v2 W) (n:E i=v3) (h:R (.returned (.tuple #[v0,v1,v2,v3])) W):Ab P fn R .ret E W :=
 ⟨.tuple #[v0,v1,v2,v3],λtmps p=>by
  have q0:(loadVar t0 a0).run P W= .ok v0 W:=by simpa [Instr.loadAt,Instr.sureAddr] using q
  have q1:(loadVar t1 a).run P W= .ok v1 W:=by simpa [Instr.loadAt,Instr.sureAddr] using s
  have q2:(loadVar t2 a2).run P W= .ok v2 W:=by simpa [Instr.loadAt,Instr.sureAddr] using t
  simp [results,o,p,asAddr,j,q0,h1,q1,k,q2,n],h⟩
end
theorem we.form {β:Type} {Rl:sV β} {μ:mc} {v:Value} {x:Option β} (h:we Rl μ v x):∃p,v= .pointer p:=by
 rcases h with ⟨rfl,_⟩ | ⟨y,ys,_,⟨b,off,cs,T,fr,rfl,_⟩,_⟩
 ·exact ⟨_,Z⟩
 ·exact ⟨_,Z⟩
abbrev vP (b:Nat):Value:=.pointer (some ⟨b,0,none⟩)
abbrev vI (n:Int):Value:=.int .i64 n
abbrev vS (s:ByteArray):Value:=.string s
abbrev vB (b:Bool):Value:=.bool b
abbrev vN:Value:=.slice none 0 0
abbrev vA (l:List Value):Value:=.agg l.toArray
abbrev vT (l:List Value):Value:=.tuple l.toArray
abbrev oC (a:Array Value) (t:TypeId):Obj:=.cells a t (0,0)
section
variable {P:Program} {n:Nat} {Q:pJ} {E:mD} {W:World} {ops:Array Oper} {fuel:Nat} {listed:Array Bool} {μ:mc} {A B:LO}
variable {d i:Nat} {v:Value} {ins:Go.Op} {ty:TypeId} {pos:String} {af:Array Edge} {C:Value→Prop}
theorem nZ (k:Nat) (hi:ops[k]? =some ⟨some d,ins,ty,pos,af,none⟩) (a:oe μ A W) (c:oe μ B W) (j:∀{W},nf P E ⟨some d,ins,ty,pos,af,none⟩ W v W) (h:PX P n ops Q (λl W=>oe μ A W∧(l.getD i true=false→oe μ B W)) fuel (listed.setIfInBounds k true) (oy E d v) W) (hk:Fq ops listed k=true:=by kernel_rfl) (g:d < n:=by decide) (hm:Nat.beq k i=false:=by exact rfl):PX P n ops Q (λl W=>oe μ A W∧(l.getD i true=false→oe μ B W)) (fuel+1) listed E W :=
 Es k hi hk (.inl Z) Z g (λ_ _ h=>⟨h.1,xI hm h.2⟩) ⟨a,λ_=>c⟩ (λ_ _ _ _=>j) h
theorem LB (k:Nat) (hi:ops[k]? =some ⟨some d,ins,ty,pos,af,none⟩) (a:oe μ A W) (c:oe μ B W) (j:∀{W},oe μ A W→nf P E ⟨some d,ins,ty,pos,af,none⟩ W v W) (h:PX P n ops Q (λl W=>oe μ A W∧(l.getD i true=false→oe μ B W)) fuel (listed.setIfInBounds k true) (oy E d v) W) (hk:Fq ops listed k=true:=by kernel_rfl) (g:d < n:=by decide) (hm:Nat.beq k i=false:=by exact rfl):PX P n ops Q (λl W=>oe μ A W∧(l.getD i true=false→oe μ B W)) (fuel+1) listed E W :=
 Es k hi hk (.inl Z) Z g (λ_ _ h=>⟨h.1,xI hm h.2⟩) ⟨a,λ_=>c⟩ (λ_ _ _ h=>j h.1) h
theorem Fo (k:Nat) (hi:ops[k]? =some ⟨some d,ins,ty,pos,af,none⟩) (a:oe μ A W) (c:oe μ B W) (o:∀{W},oe μ B W→nf P E ⟨some d,ins,ty,pos,af,none⟩ W v W) (h:PX P n ops Q (λl W=>oe μ A W∧(l.getD i true=false→oe μ B W)) fuel (listed.setIfInBounds k true) (oy E d v) W) (hk:Fq ops listed k=true:=by kernel_rfl) (j:d < n:=by decide) (hm:Nat.beq k i=false:=by exact rfl) (g:J2 ops i [k]=true:=by kernel_rfl):PX P n ops Q (λl W=>oe μ A W∧(l.getD i true=false→oe μ B W)) (fuel+1) listed E W :=
 Es k hi hk (.inl Z) Z j (λ_ _ h=>⟨h.1,xI hm h.2⟩) ⟨a,λ_=>c⟩ (λ_ _ hp h=>o (h.2 (hp.YM i [k] g Z))) h
end
section
variable [M:Md]
variable {P:Program} {E:mD} {W:World} {d:Option Nat} {ty:TypeId} {pos:String} {af:Array Edge} {g:tC} {F:Nat→Prop} {w:World} {μ:mc} {dd:Bool}
theorem FA {K:Value→World→Prop} {B:LO} {t:TypeId} {x y:Operand} {b:Nat} {cs:Array Value} {T:TypeId} (cs':Array Value) (a:ST dd F w W μ ((b,.cells cs T (0,0))::B)) (c:∀w,(sizeOf t).run P w= .ok cs'.size w) (h:∀W',ST dd F w W' μ ((b,.cells cs' T (0,0))::B)→K undef W') (k:lf E x= .pointer (some ⟨b,0,none⟩):=by rfl) (n:lf E y= .agg cs':=by rfl) (h1:∀u∈cs'.toList,u.oneCell'=true:=by exact oc (v:=.agg _)) (j:0+cs'.size≤cs.size:=by exact nb) (i:(cs.toList.take 0++cs'.toList++cs.toList.drop (0+cs'.size)).toArray=cs':=by rfl):pq P E ⟨d,.store t x y,ty,pos,af,g⟩ W K :=
 lz (.agg cs') cs' a k n c h1 j i h
end
end Go.Proofs.YtlfibegniofmjaaGreat
namespace Go.Proofs.YtlfibegniofmjaaGreat
open Go.IntKind renaming wrap → wi0
open Go.Sort Go.Proofs Go.Shelf
theorem Mq {g b:Nat} {o:Obj}:keys [(g,o)] b↔b=g:=by
 constructor
 ·rintro ⟨a,h⟩
  simp at h
  exact h.1
 ·rintro rfl; exact ⟨o,fb⟩
theorem HG (w:World) (g m:Nat) (f:Array Value→Array Value) (os:Array Obj) (b:Nat) (c:b < w.heap.size) :
  (Go.Sort.grow (mapBlock (Go.Sort.ahead w m) g f) os).heap[b]? =if g=b then w.heap[b]?.map (onCells f) else w.heap[b]?:=by
 have a:b < (mapBlock (Go.Sort.ahead w m) g f).heap.size:=by simp only [mapBlock,Go.Sort.ahead,Array.size_modify]; exact c
 rw [heap_grow_old _ _ a]
 simp only [mapBlock,Go.Sort.ahead,dP]
theorem R9 {w:World} {g m:Nat} {f:Array Value→Array Value} {os:Array Obj} {cs:Array Value} {T:TypeId} {fr:Nat×Nat} (c:w.heap[g]? =some (.cells cs T fr)) :
  wm true [(g,.cells cs T fr)] [(g,.cells (f cs) T fr)] w (Go.Sort.grow (mapBlock (Go.Sort.ahead w m) g f) os):=by
 have a:g < w.heap.size:=(dW.1 c).1
 refine ⟨⟨Z,Z,Z,?_,?_,λb d i=>?_⟩,λb o h=>?_,fb⟩
 ·refine yR.of ?_
  show w.drawn≤w.drawn+m
  omega
 ·show w.heap.size≤(w.heap.modify g (onCells f)++os).size
  simp
 ·rw [HG _ _ _ _ _ _ d,aN λh=>i (Mq.2 h.symm)]
 ·simp only [aS,du,fx,Prod.mk.injEq] at h
  obtain ⟨rfl,rfl⟩:=h
  refine ⟨?_,.inr (Mq.2 Z)⟩
  rw [HG _ _ _ _ _ _ a,aP Z,c]
  rfl
theorem T5 {w W:World} (h:Ex true w W):∃q os,W=Go.Sort.grow (w.drewN q) os:=by
 refine ⟨W.drawn-w.drawn,W.heap.extract w.heap.size W.heap.size,?_⟩
 have g:W.heap=w.heap++W.heap.extract w.heap.size W.heap.size:=by
  apply Array.ext_getElem?
  intro i
  rw [gh]
  split
  ·rename_i hi; exact h.oh i hi
  ·rename_i hi
   rw [Array.getElem?_extract]
   have k:=h.size
   split
   ·rw [show w.heap.size+(i-w.heap.size)=i by omega]
   ·exact Array.getElem?_eq_none eR
 obtain ⟨h1,n,o,p,s⟩:=W
 have a:=h.os; have c:=h.tape; have d:=h.output; have j:=h.drawn Z
 simp only at a c d j g
 unfold Go.Sort.grow World.drewN
 simp only [World.mk.injEq]
 exact ⟨g,c,eR,a,d⟩
theorem SX {α:Type} [Inhabited α] {enc:α→List Value} {k:Nat} (hk:∀x,(enc x).length=k) (l:List α) (j:Nat) (a:j < l.length*k) :
  (l.map enc).flatten[j]? =some ((flatK enc k l.toArray)[j]!):=by
 have g:0 < k:=by
  cases k with
  | zero=>simp at a
  | succ n=>omega
 have h1:j / k < l.length:=(iA g).2 a
 rw [get_flatK _ _ _ _ (by simpa using a)]
 have h:l.toArray[j / k]! =l[j / k]:=by
  rw [getElem!_pos l.toArray (j / k) (by simpa using h1)]; simp
 rw [h]
 have c:j % k < (enc l[j / k]).length:=by rw [hk]; exact Nat.mod_lt _ g
 have d:=AK hk l (j / k) l[j / k] (dD h1) (j % k) ((enc l[j / k])[j % k]) (dD c)
 rw [Nat.div_add_mod' j k] at d
 rw [d,getElem!_pos (enc l[j / k]) (j % k) c]
theorem PE {α:Type} [Inhabited α] {enc:α→List Value} {k:Nat} (hk:∀x,(enc x).length=k) {w:World} {g:Nat} {cs:Array Value} {T:TypeId} (c:w.heap[g]? =some (.cells cs T (0,0))) (l:List α)
  (h:cs.toList.take (l.length*k)=(l.map enc).flatten):HoldsK enc k w g 0 l.toArray:=by
 intro j d
 have a:j < l.length*k:=by simpa using d
 have h1:=SX hk l j a
 rw [←h,fu,aP a] at h1
 refine ⟨?_,?_⟩
 ·simp only [World.cell?,c,fa]
  simpa using h1
 ·simp [World.frozen?,c]
theorem Su {α:Type} [Inhabited α] {enc:α→List Value} {k:Nat} (hk:∀x,(enc x).length=k) {cs:Array Value} (l:List α) (c:l.length*k≤cs.size) :
  (putCells id 0 (flatK enc k l.toArray) cs).toList.take (l.length*k)=(l.map enc).flatten:=by
 apply eZ
 intro j
 rw [fu]
 split
 ·rename_i a
  rw [SX hk l j a]
  simp only [putCells,dQ,Array.getElem?_mapIdx,size_flatK,dY]
  rw [Array.getElem?_eq_getElem eR]
  simp [a]
 ·rename_i a
  rw [eV (by rw [uD hk]; omega)]
theorem PU (enc:Value→Value) (o:Nat) (d c:Array Value):(putCells enc o d c).size=c.size:=by simp [putCells]
section
variable {α:Type} {P:Program} {ρ:Ren}
theorem aaT {l:List α} {cf:α×α→Option Int} (h:GL cf l):SWO (ltOf λ(x y:{x // x∈l})=>(cf (x.1,y.1)).getD 0)∧
  (∀x y:{x // x∈l},ltOf (λ(x y:{x // x∈l})=>(cf (x.1,y.1)).getD 0) x y=xF cf x.1 y.1):=by
 have e:∀x y:{x // x∈l},ltOf (λ(x y:{x // x∈l})=>(cf (x.1,y.1)).getD 0) x y=xF cf x.1 y.1:=λx y=>by
  obtain ⟨c,i⟩:=h.is x.1 x.2 y.1 y.2
  simp [ltOf,xF,i]
 refine ⟨⟨λx=>?_,λx y z=>?_,λx y z=>?_⟩,e⟩
 ·rw [e]; exact h.irrefl _ x.2
 ·rw [e,e,e]; exact h.trans _ x.2 _ y.2 _ z.2
 ·rw [e,e,e]
  intro h1 d
  cases a:xF cf x.1 z.1 with
  | false=>rfl
  | true=>
   cases g:xF cf y.1 x.1 with
   | true=>
    have:=h.trans _ y.2 _ x.2 _ z.2 g a
    rw [d] at this; cases this
   | false=>
    have:=h.total _ x.2 _ y.2 h1 g
    rw [this,d] at a; cases a
theorem LL (L:SlLaysF0.n6 P ρ) (k:Nat) (aE:∀w,(isAgg (ρ.t 24)).run P w= .ok true w) (zE:∀w,(Go.sizeOf (ρ.t 24)).run P w= .ok k w) {e:TypeId} (enc:α→List Value) (hk:∀x,(enc x).length=k) (h1:∀x,∀u∈enc x,u.oneCell'=true) {v fv:Value} {l r:List α} {R:LO} {cf:α×α→Option Int} {w:World} {μ0:mc} (hH:IR (R++[]) w) (A:lm μ0 (wN w (R++[]))) (hr:lQ e enc k v l R) (hc:Pa P fv μ0 (λ(x:α×α)=>[.agg (enc x.1).toArray,.agg (enc x.2).toArray]) (λ(r:Int)=> .int .i64 r) cf) (hm:CS cf l=some r) :
  mX true P (ρ.f 6) [v,fv] w (R++[]) (λu L1 _=>∃(S:LO),u=(.tuple #[])∧L1=(S++[])∧lQ e enc k v r S):=by
 obtain ⟨ok,rfl⟩:=NM hm
 rw [bP] at hH A ⊢
 rcases eW l.length with h0 | i
 ·have hl:l=[]:=bF h0
  subst hl
  have hs:vx cf ([]:List α)=[]:=by simp [vx]
  rw [hs]
  obtain ⟨p,c,rfl⟩:∃p c,v= .slice p 0 c:=by
   rcases hr with ⟨rfl,_,_⟩ | ⟨g,cap,j,rfl,_⟩
   ·exact ⟨_,_,Z⟩
   ·exact ⟨_,_,Z⟩
  refine cZ (AnyF.slices_SortFunc_none L p c fv w) λx w' ⟨hx,hw⟩=>?_
  subst hx hw
  refine ⟨_,R,Z,⟨⟨Z,Z,Z,yR.of (aZ _),aZ _,λ_ _ _=>rfl⟩,λb o h=>⟨hH b o h,.inr ⟨o,h⟩⟩,?_⟩,R,Z,(bP R).symm,hr⟩
  rcases hr with ⟨_,_,rfl⟩ | ⟨g,cap,j,_,rfl,_⟩ <;> simp
 ·rcases hr with ⟨_,rfl,_⟩ | ⟨g,cap,j,rfl,rfl,a8,a7,O,ae⟩
  ·simp at i
  have hg:w.heap[g]? =some (.cells j e (0,0)):=hH g _ fb
  have aa:g < w.heap.size:=(dW.1 hg).1
  haveI:Inhabited {x // x∈l}:=⟨⟨l[0],List.getElem_mem i⟩⟩
  obtain ⟨gg,caps,rfl,Q,q⟩:=hc
  obtain ⟨hO,T⟩:=aaT ok
  have G:l.attach.toArray.size=l.length:=by simp
  have ab:l.attach.map (λx=>enc x.1)=l.map enc:=by
   rw [show (λx:{x // x∈l}=>enc x.1)=enc∘Subtype.val from rfl,←eY,List.attach_map_subtype_val]
  have a1:HoldsK (λx:{x // x∈l}=>enc x.1) k w g 0 l.attach.toArray:=PE (λx=>hk x.1) hg l.attach (by rw [ab,List.length_attach,ae])
  have M:CmpLays P gg caps (λx:{x // x∈l}=>enc x.1) k (λx y=>(cf (x.1,y.1)).getD 0) g 0 l.attach.toArray.size w:=by
   intro m os dk ag x y
   obtain ⟨c,J⟩:=ok.is x.1 x.2 y.1 y.2
   have Y:lm μ0 (hp (sortWorldK (λx:{x // x∈l}=>enc x.1) k w g 0 m dk os)):=λb o hb=>by
    have z:=A b o hb
    unfold wN at z
    split at z
    ·cases z
    ·rename_i hn
     have a6:b < w.heap.size:=(dW.1 z).1
     show (Go.Sort.grow (mapBlock (Go.Sort.ahead w m) g _) os).heap[b]? =_
     rw [HG _ _ _ _ _ _ a6,aN λh=>hn (Mq.2 h.symm)]
     exact z
   have h3:=q (sortWorldK (λx:{x // x∈l}=>enc x.1) k w g 0 m dk os) (x.1,y.1) c Y J
   have ea:([Value.agg (enc x.1).toArray,Value.agg (enc y.1).toArray]++caps.toList).toArray=#[Value.agg (enc x.1).toArray,Value.agg (enc y.1).toArray]++caps:=by
    apply Array.ext'; simp
   rw [←ea]
   exact cZ h3 λu W' hu=>⟨by rw [hu.1]; show _=Ending.returned (.int .i64 ((cf (x.1,y.1)).getD 0)); rw [J]; rfl,T5 hu.2⟩
  have hT:∀x y:{x // x∈l},ltOf (λ(x y:{x // x∈l})=>(cf (x.1,y.1)).getD 0) x y=false→ltOf (λ(x y:{x // x∈l})=>(cf (x.1,y.1)).getD 0) y x=false→x=y:=λx y a b=>by
   rw [T] at a b
   exact Subtype.ext (ok.total _ x.2 _ y.2 a b)
  have d:=AnyQ.slices_SortFunc_total L k aE zE (λx:{x // x∈l}=>enc x.1) (λx=>hk x.1) (λx=>h1 x.1) (λx y=>(cf (x.1,y.1)).getD 0) hO gg caps g 0 cap l.attach.toArray w Q M a1 aa (by rw [G]; exact ok.short) hT
  rw [G] at d
  refine cZ d λu w' ⟨hu,n,os,hw⟩=>?_
  subst hu
  generalize hs:l.attach.toArray.toList.mergeSort (λx y=>!ltOf (λ(x y:{x // x∈l})=>(cf (x.1,y.1)).getD 0) y x)=s at hw
  have ad:s.map Subtype.val=vx cf l:=by
   rw [←hs,jd (s:=λx y=>!xF cf y x) (λa _ b _=>by rw [T])]
   simp [vx]
  have W:s.length=l.length:=by rw [←hs,List.length_mergeSort]; simp
  have U:(vx cf l).length=l.length:=by simp [vx,List.length_mergeSort]
  have I:=R9 (w:=w) (m:=n) (f:=putCells id 0 (flatK (λx:{x // x∈l}=>enc x.1) k s.toArray)) (os:=os) hg
  have af:w'=Go.Sort.grow (mapBlock (Go.Sort.ahead w n) g (putCells id 0 (flatK (λx:{x // x∈l}=>enc x.1) k s.toArray))) os:=hw
  rw [←af] at I
  refine ⟨_,_,Z,I,_,Z,(bP _).symm,.inr ⟨g,cap,_,by rw [U],Z,eR,a7,by rw [PU,O],?_⟩⟩
  rw [U,←W,Su (λx=>hk x.1) s (by rw [W,O]; exact dp k a8),←ad,eY]
  rfl
end
theorem J5 (b:ByteArray):b.toList=b.data.toList:=by rw [fK]
theorem Z5 (l:List ByteArray):(l.map yj).flatten=l.map Value.string:=by
 induction l with
 | nil=>rfl
 | cons x l ih=>simp only [bY,bX,ih]; rfl
theorem WX (l:List ByteArray):(Ai l).map (λb=>b.data.toList)=(l.map λb=>b.data.toList).mergeSort (λx y=>decide (x≤y)):=by
 unfold Ai
 refine jd λa _ b _=>?_
 unfold uJ
 rw [bytesLess_eq,J5,J5]
 by_cases h:a.data.toList≤b.data.toList
 ·have c:¬b.data.toList < a.data.toList:=List.not_lt.2 h
  simp [h,c]
 ·have c:b.data.toList < a.data.toList:=by
   cases Decidable.em (b.data.toList < a.data.toList) with
   | inl d=>exact d
   | inr d=>exact absurd (List.not_lt.1 d) h
  simp [h,c]
end Go.Proofs.YtlfibegniofmjaaGreat
namespace Go.Proofs.YtlfibegniofmjaaGreat
open Go.IntKind renaming wrap → wi0
open Go.WideElems Go.WideShapes Go.Sort Go.Proofs Go.Shelf
theorem Sh {β:Type} {vf:β→Value} {P:Program} {kt:TypeId} (A:P.underlying kt=some .string) {l:List (ByteArray×β)} {es:Array MapEntry} {clock:Nat} (h:zO Value.string vf l es clock) (y:(l.map (·.1)).Nodup) (z:∀p∈l,p.1.size≤maxLen) (w:l.length≤maxLen) {W:World} {b:Nat} (u:W.heap[b]? =some (.map es clock)):∃D:DataW Unit,W.ownsMap P kt (λ_=>some (.lit (.bool true),[])) b es.size D∧(strKeys D).Perm (l.map λp=>p.1.data.toList)∧Maps.size D=l.length:=by
 have c:=h.keys
 have n:∀x∈es.toList,∃s:ByteArray,x.key= .string s∧s.size≤maxLen:=λx i=>by
  have h1:x.key∈es.toList.map (·.key):=bW.2 ⟨x,i,Z⟩
  rw [c] at h1
  obtain ⟨s,g,j⟩:=bW.1 h1
  obtain ⟨p,q,t⟩:=bW.1 g
  exact ⟨s,j.symm,by rw [←t]; exact z p q⟩
 have d:∀x∈es.toList,∃s:ByteArray,x.key= .string s∧Go.WideElems.rd (H:=Unit) P kt (λ_=>some (.lit (.bool true),[])) x=some (.string s.data.toList,.lit (.bool true)):=λx i=>by
  obtain ⟨s,h1,g⟩:=n x i
  refine ⟨s,h1,?_⟩
  simp [Go.WideElems.rd,keyOf,A,mapKey,h1,g]
 refine ⟨_,⟨es,clock,u,⟨by rw [h.length]; exact w,⟨h.lt,?_,?_⟩,λx i=>?_⟩,aZ _,Z⟩,?_,?_⟩
 ·have:=h.born
  rw [List.Nodup,gl]
  exact this.imp (λ{a b} h=>by omega)
 ·rw [c]
  rw [List.Nodup,gl]
  exact y.imp (λ{a b} k e=>k (by injection e))
 ·obtain ⟨s,_,g⟩:=d x i
  exact ⟨_,g⟩
 ·have h1:=(sorted_perm (es.toList.map (Go.WideElems.rg (H:=Unit) P kt λ_=>some (.lit (.bool true),[])))).map (λp=>strOf p.1)
  refine List.Perm.trans h1 ?_
  have e:(es.toList.map (Go.WideElems.rg (H:=Unit) P kt λ_=>some (.lit (.bool true),[]))).map (λp=>strOf p.1)=l.map (λp=>p.1.data.toList):=by
   have o:(es.toList.map (Go.WideElems.rg (H:=Unit) P kt λ_=>some (.lit (.bool true),[]))).map (λp=>strOf p.1)=(es.toList.map (·.key)).map (λv=>match v with | .string s=>s.data.toList | _=>[]):=by
    rw [eY,eY]
    refine iT λx i=>?_
    obtain ⟨s,g,j⟩:=d x i
    simp [Go.WideElems.rg,j,g,strOf]
   rw [o,c,eY,eY]
   rfl
  rw [e]
 ·have h1:=(sorted_perm (es.toList.map (Go.WideElems.rg (H:=Unit) P kt λ_=>some (.lit (.bool true),[])))).length_eq
  show (List.foldr DataW.insert [] _).length=_
  rw [h1,dw,←h.length]
  simp
theorem PM {l:List ByteArray} {g:List (List UInt8)} (h:g.Perm (l.map λb=>b.data.toList)):g.mergeSort (λx y=>decide (x≤y))=(Ai l).map (λb=>b.data.toList):=by
 rw [WX]
 have le:∀a b c:List UInt8,decide (a≤b)=true→decide (b≤c)=true→decide (a≤c)=true:=λa b c h1 d=>by
  simp only [cP] at *
  exact List.le_trans h1 d
 have tot:∀a b:List UInt8,(decide (a≤b)||decide (b≤a))=true:=λa b=>by
  simp only [fX,cP]
  exact List.le_total a b
 refine List.Perm.eq_of_pairwise (le:=λa b=>decide (a≤b)=true) (λa b _ _ h1 d=>List.le_antisymm (by simpa using h1) (by simpa using d)) (gV le tot _) (gV le tot _) ?_
 exact (iU _ _).trans (h.trans (iU _ _).symm)
section
variable {P:Program} {ρk ρt ρm:Ren}
theorem R7 (LK:SlLaysZ.n7 P ρk) (LT:SlLaysZ.n6 P ρt) (LM:SlLaysM.n6 P ρm) (h9:ρt.f 9=ρm.f 6) (hK:P.underlying (ρk.t 26)=some .string) (eg:∀args w,(callFunc (ρk.f 10) args).run P w= .ok (.enter (ρk.f 10) args) w) (es:∀args w,(callFunc (ρt.f 9) args).run P w= .ok (.enter (ρt.f 9) args) w) {β:Type} {vf:β→Value} {l:List (ByteArray×β)} {b:Nat} {mv:Value} {t:TypeId} {W:World} {r:List ByteArray} (u:W.heap[b]? =some (.cells #[mv] t (0,0))) (hm:zT Value.string vf (hp W) mv l) (hk:MO l=some r) :
  mM false P (ρt.f 6) [.func (.func (ρk.f 10)) #[] #[.pointer (some ⟨b,0,none⟩)]] W (ρt.t 26) yj 1 r:=by
 unfold MO at hk
 split at hk
 case isFalse=>cases hk
 rename_i hc
 obtain ⟨U,Y,a1⟩:=hc
 cases hk
 have i:b < W.heap.size:=(dW.1 u).1
 have c:W.cell? ⟨b,0,none⟩=some mv:=by simp [World.cell?,u]
 have q:AnyZ.SortsIn P ρt Fence.wide 4 :=
  ⟨λO off cap d W hH hblk s=>ke.2 (by rw [h9]; exact AnyM.slices_Sort_string LM O off cap d W hH hblk s),λp cap W=>ke.2 (by rw [h9]; exact AnyM.slices_Sort_string_none LM p cap W)⟩
 have L:SeqGives Fence.wide 2 P (ρk.f 10) #[.pointer (some ⟨b,0,none⟩)] encStr (λd=>d.Perm ((l.map (·.1)).map λb=>b.data.toList)) l.length W:=by
  rcases hm with ⟨rfl,rfl⟩ | ⟨m,es,clock,rfl,a8,A⟩
  ·have:=AnyZ.keys_gives_nil (ρ:=ρk) { LK with } Fence.wide 2 trivial Z b W i c
   intro l' J W' R Q T M
   refine CallsIn.mono (this l' J W' R Q T M) ?_
   rintro e w' ⟨hv,d,rfl,hj⟩
   exact ⟨hv,[],bJ _,hj⟩
  ·obtain ⟨D,G,n,s⟩:=Sh hK A U Y (by unfold maxLen; omega) a8
   have:=AnyZ.keys_gives (ρ:=ρk) { LK with } Fence.wide 2 trivial Z eR b m es.size D W i c G
   intro l' J W' R Q T M
   refine CallsIn.mono (this l' J W' R Q (by rw [s]; exact T) M) ?_
   rintro e w' ⟨hv,d,hp,hj⟩
   refine ⟨hv,d,?_,hj⟩
   rw [eY]
   exact hp.trans n
 have cS:=AnyZ.sorted_in LT Fence.wide 5 trivial trivial trivial trivial Z eR q es (ρk.f 10) #[.pointer (some ⟨b,0,none⟩)] trivial eg _ l.length (by unfold maxLen; omega) a1 W L
 refine cZ (ke.1 cS) ?_
 rintro e w' ⟨v,d,rfl,hS,I,ab,a⟩
 have hs:=PM hS
 have hlen:d.length=(Ai (l.map (·.1))).length:=by
  have:=bI List.length hs
  simpa using this
 have k:(d.mergeSort λx y=>decide (x≤y)).map encStr=((Ai (l.map (·.1))).map yj).flatten:=by
  rw [hs,Z5,eY]
  refine iT (λx _=>?_)
  simp only [Function.comp,encStr]
 rcases I.2 with ⟨rfl,M⟩ | ⟨g,cap,z,rfl,j,hg,ad,a6,a7,aa⟩
 ·have:Ai (l.map (·.1))=[]:=bF eR
  rw [this]
  exact ⟨_,[],Z,wm.PY ⟨a.os,a.tape,a.output,λh=>(by cases h),a.size,λb u=>a.block b u⟩ (λ_ _ h=>by cases h) fb,lQ.nil _ _ _⟩
 ·refine ⟨_,[(g,.cells z (ρt.t 26) (0,0))],Z,wm.PY ⟨a.os,a.tape,a.output,λh=>(by cases h),a.size,λb u=>a.block b u⟩ (λb o h=>by simp at h; obtain ⟨rfl,rfl⟩:=h; exact ⟨hg,j⟩) fb,.inr ⟨g,cap,z,by rw [hlen],Z,eR,a6,a7,?_⟩⟩
  rw [←hlen,aa,k]
end
end Go.Proofs.YtlfibegniofmjaaGreat
namespace Go.Proofs.YtlfibegniofmjaaGreat
open Go.IntKind renaming wrap → wi0
def fO:=@Tryz.underlying9
def fY:=@Tryz.zeroValue9
def gB:=@Tryz.underlying0
def gM:=@Tryz.zeroValue0
def ig:=@Tryz.sizeOf9
def iC:=@Tryz.underlying4
def iG:=@Tryz.isAgg9
def iP:=@Tryz.zeroValue4
def iW:=@Tryz.sizeOf0
def je:=@Tryz.underlying189
def jf:=@Tryz.underlying230
def jg:=@Tryz.underlying231
def jh:=@Tryz.underlying235
def ji:=@Tryz.underlying238
def jj:=@Tryz.underlying135
def jk:=@Tryz.underlying258
def jl:=@Tryz.underlying262
def jm:=@Tryz.underlying278
def jo:=@Tryz.underlying252
def jq:=@Tryz.underlying172
def jA:=@Tryz.isAgg0
def jB:=@Tryz.zeroValue189
def jC:=@Tryz.zeroValue230
def jD:=@Tryz.zeroValue231
def jE:=@Tryz.zeroValue235
def jF:=@Tryz.zeroValue238
def jG:=@Tryz.zeroValue135
def jH:=@Tryz.zeroValue258
def jI:=@Tryz.zeroValue262
def jJ:=@Tryz.zeroValue278
def jK:=@Tryz.zeroValue252
def jL:=@Tryz.zeroValue172
def jZ:=@Tryz.underlying3
def kc:=@Tryz.underlying5
def ki:=@Tryz.sizeOf4
def ku:=@Tryz.zeroValue3
def kv:=@Tryz.zeroValue5
def kz:=@Tryz.isAgg4
def V9:Go.Shelf.Ren:=⟨fun | 6=>166 | 15=>121 | 14=>196 | 28=>160 | 29=>161 | 20=>212 | 21=>213 | 22=>214 | 23=>215 | 24=>216 | 25=>217 | 26=>218 | 27=>219 | 46=>228 | 47=>191 | 48=>192 | 49=>229 | 50=>230 | 57=>242 | n=>n,fun | 22=>67 | 24=>53 | 25=>186 | 3=>3 | 39=>189 | 0=>0 | 53=>238 | 55=>135 | 4=>4 | 46=>231 | 45=>230 | 50=>235 | 5=>5 | 9=>9 | 66=>258 | 70=>262 | 76=>278 | 77=>252 | n=>n,fun | n=>n⟩
theorem Z7:Go.Proofs.SlLaysF0.n6 Tryz.prog V9:={
 mixed:=by kernel_rfl,
 f6:=⟨Tryz.f166.name,fs,Tryz.func166.trans (bI some (by kernel_rfl))⟩,
 f14:=⟨Tryz.f196.name,fs,Tryz.func196.trans (bI some (by kernel_rfl))⟩,
 f15:=Tryz.func121.trans (bI some (by kernel_rfl)),
 f20:=⟨Tryz.f212.name,fs,Tryz.func212.trans (bI some (by kernel_rfl))⟩,
 f21:=⟨Tryz.f213.name,fs,Tryz.func213.trans (bI some (by kernel_rfl))⟩,
 f22:=⟨Tryz.f214.name,fs,Tryz.func214.trans (bI some (by kernel_rfl))⟩,
 f23:=⟨Tryz.f215.name,fs,Tryz.func215.trans (bI some (by kernel_rfl))⟩,
 f24:=⟨Tryz.f216.name,fs,Tryz.func216.trans (bI some (by kernel_rfl))⟩,
 f25:=⟨Tryz.f217.name,fs,Tryz.func217.trans (bI some (by kernel_rfl))⟩,
 f26:=⟨Tryz.f218.name,fs,Tryz.func218.trans (bI some (by kernel_rfl))⟩,
 f27:=⟨Tryz.f219.name,fs,Tryz.func219.trans (bI some (by kernel_rfl))⟩,
 f28:=Tryz.func160.trans (bI some (by kernel_rfl)),
 f29:=Tryz.func161.trans (bI some (by kernel_rfl)),
 f46:=⟨Tryz.f228.name,fs,Tryz.func228.trans (bI some (by kernel_rfl))⟩,
 f47:=Tryz.func191.trans (bI some (by kernel_rfl)),
 f48:=Tryz.func192.trans (bI some (by kernel_rfl)),
 f49:=⟨Tryz.f229.name,fs,Tryz.func229.trans (bI some (by kernel_rfl))⟩,
 f50:=⟨Tryz.f230.name,fs,Tryz.func230.trans (bI some (by kernel_rfl))⟩,
 f57:=⟨Tryz.f242.name,fs,Tryz.func242.trans (bI some (by kernel_rfl))⟩,
 t0:=gB,
 a0:=jA,
 z0:=iW,
 v0:=gM,
 t3:=jZ,
 a3:=Tryz.isAgg3,
 z3:=Tryz.sizeOf3,
 v3:=ku,
 t4:=iC,
 a4:=kz,
 z4:=ki,
 v4:=iP,
 t5:=kc,
 a5:=Tryz.isAgg5,
 z5:=Tryz.sizeOf5,
 v5:=kv,
 t9:=fO,
 a9:=iG,
 z9:=ig,
 v9:=fY,
 t22:=Tryz.underlying67,
 a22:=Tryz.isAgg67,
 z22:=Tryz.sizeOf67,
 v22:=Tryz.zeroValue67,
 t25:=Tryz.underlying186,
 a25:=Tryz.isAgg186,
 z25:=Tryz.sizeOf186,
 v25:=Tryz.zeroValue186,
 t39:=je,
 a39:=Tryz.isAgg189,
 z39:=Tryz.sizeOf189,
 v39:=jB,
 t45:=jf,
 a45:=Tryz.isAgg230,
 z45:=Tryz.sizeOf230,
 v45:=jC,
 t46:=jg,
 a46:=Tryz.isAgg231,
 z46:=Tryz.sizeOf231,
 v46:=jD,
 t50:=jh,
 a50:=Tryz.isAgg235,
 z50:=Tryz.sizeOf235,
 v50:=jE,
 t53:=ji,
 a53:=Tryz.isAgg238,
 z53:=Tryz.sizeOf238,
 v53:=jF,
 t55:=jj,
 a55:=Tryz.isAgg135,
 z55:=Tryz.sizeOf135,
 v55:=jG,
 t66:=jk,
 a66:=Tryz.isAgg258,
 z66:=Tryz.sizeOf258,
 v66:=jH,
 t70:=jl,
 a70:=Tryz.isAgg262,
 z70:=Tryz.sizeOf262,
 v70:=jI,
 t76:=jm,
 a76:=Tryz.isAgg278,
 z76:=Tryz.sizeOf278,
 v76:=jJ,
 t77:=jo,
 a77:=Tryz.isAgg252,
 z77:=Tryz.sizeOf252,
 v77:=jK}
def YI:Go.Shelf.Ren:=⟨fun | 6=>64 | 15=>121 | 14=>120 | 28=>160 | 29=>161 | 20=>152 | 21=>153 | 22=>154 | 23=>155 | 24=>156 | 25=>157 | 26=>158 | 27=>159 | 46=>190 | 47=>191 | 48=>192 | 49=>193 | 50=>194 | 57=>211 | n=>n,fun | 22=>43 | 24=>55 | 25=>131 | 3=>3 | 39=>189 | 0=>0 | 53=>238 | 55=>135 | 4=>4 | 46=>231 | 45=>230 | 50=>235 | 5=>5 | 9=>9 | 66=>258 | 70=>262 | 76=>278 | 77=>252 | n=>n,fun | n=>n⟩
theorem abQ:Go.Proofs.SlLaysF0.n6 Tryz.prog YI:={
 mixed:=by kernel_rfl,
 f6:=⟨Tryz.f64.name,fs,Tryz.func64.trans (bI some (by kernel_rfl))⟩,
 f14:=⟨Tryz.f120.name,fs,Tryz.func120.trans (bI some (by kernel_rfl))⟩,
 f15:=Tryz.func121.trans (bI some (by kernel_rfl)),
 f20:=⟨Tryz.f152.name,fs,Tryz.func152.trans (bI some (by kernel_rfl))⟩,
 f21:=⟨Tryz.f153.name,fs,Tryz.func153.trans (bI some (by kernel_rfl))⟩,
 f22:=⟨Tryz.f154.name,fs,Tryz.func154.trans (bI some (by kernel_rfl))⟩,
 f23:=⟨Tryz.f155.name,fs,Tryz.func155.trans (bI some (by kernel_rfl))⟩,
 f24:=⟨Tryz.f156.name,fs,Tryz.func156.trans (bI some (by kernel_rfl))⟩,
 f25:=⟨Tryz.f157.name,fs,Tryz.func157.trans (bI some (by kernel_rfl))⟩,
 f26:=⟨Tryz.f158.name,fs,Tryz.func158.trans (bI some (by kernel_rfl))⟩,
 f27:=⟨Tryz.f159.name,fs,Tryz.func159.trans (bI some (by kernel_rfl))⟩,
 f28:=Tryz.func160.trans (bI some (by kernel_rfl)),
 f29:=Tryz.func161.trans (bI some (by kernel_rfl)),
 f46:=⟨Tryz.f190.name,fs,Tryz.func190.trans (bI some (by kernel_rfl))⟩,
 f47:=Tryz.func191.trans (bI some (by kernel_rfl)),
 f48:=Tryz.func192.trans (bI some (by kernel_rfl)),
 f49:=⟨Tryz.f193.name,fs,Tryz.func193.trans (bI some (by kernel_rfl))⟩,
 f50:=⟨Tryz.f194.name,fs,Tryz.func194.trans (bI some (by kernel_rfl))⟩,
 f57:=⟨Tryz.f211.name,fs,Tryz.func211.trans (bI some (by kernel_rfl))⟩,
 t0:=gB,
 a0:=jA,
 z0:=iW,
 v0:=gM,
 t3:=jZ,
 a3:=Tryz.isAgg3,
 z3:=Tryz.sizeOf3,
 v3:=ku,
 t4:=iC,
 a4:=kz,
 z4:=ki,
 v4:=iP,
 t5:=kc,
 a5:=Tryz.isAgg5,
 z5:=Tryz.sizeOf5,
 v5:=kv,
 t9:=fO,
 a9:=iG,
 z9:=ig,
 v9:=fY,
 t22:=Tryz.underlying43,
 a22:=Tryz.isAgg43,
 z22:=Tryz.sizeOf43,
 v22:=Tryz.zeroValue43,
 t25:=Tryz.underlying131,
 a25:=Tryz.isAgg131,
 z25:=Tryz.sizeOf131,
 v25:=Tryz.zeroValue131,
 t39:=je,
 a39:=Tryz.isAgg189,
 z39:=Tryz.sizeOf189,
 v39:=jB,
 t45:=jf,
 a45:=Tryz.isAgg230,
 z45:=Tryz.sizeOf230,
 v45:=jC,
 t46:=jg,
 a46:=Tryz.isAgg231,
 z46:=Tryz.sizeOf231,
 v46:=jD,
 t50:=jh,
 a50:=Tryz.isAgg235,
 z50:=Tryz.sizeOf235,
 v50:=jE,
 t53:=ji,
 a53:=Tryz.isAgg238,
 z53:=Tryz.sizeOf238,
 v53:=jF,
 t55:=jj,
 a55:=Tryz.isAgg135,
 z55:=Tryz.sizeOf135,
 v55:=jG,
 t66:=jk,
 a66:=Tryz.isAgg258,
 z66:=Tryz.sizeOf258,
 v66:=jH,
 t70:=jl,
 a70:=Tryz.isAgg262,
 z70:=Tryz.sizeOf262,
 v70:=jI,
 t76:=jm,
 a76:=Tryz.isAgg278,
 z76:=Tryz.sizeOf278,
 v76:=jJ,
 t77:=jo,
 a77:=Tryz.isAgg252,
 z77:=Tryz.sizeOf252,
 v77:=jK}
def aa2:Go.Shelf.Ren:=⟨fun | 6=>232 | 8=>121 | 9=>244 | 19=>160 | 20=>161 | 21=>249 | 22=>250 | 23=>251 | 24=>252 | 25=>253 | 26=>254 | 27=>255 | 28=>256 | 29=>257 | 36=>260 | 31=>191 | 32=>192 | 37=>261 | 38=>262 | 39=>263 | 41=>267 | n=>n,fun | 27=>172 | 29=>9 | 3=>3 | 32=>189 | 26=>172 | 0=>0 | 44=>238 | 46=>135 | 4=>4 | 36=>231 | 35=>230 | 41=>235 | 5=>5 | 9=>9 | 53=>258 | 57=>262 | 63=>278 | 64=>252 | n=>n,fun | n=>n⟩
theorem aau:Go.Proofs.SlLaysM.n6 Tryz.prog aa2:={
 mixed:=by kernel_rfl,
 f6:=⟨Tryz.f232.name,fs,Tryz.func232.trans (bI some (by kernel_rfl))⟩,
 f8:=Tryz.func121.trans (bI some (by kernel_rfl)),
 f9:=⟨Tryz.f244.name,fs,Tryz.func244.trans (bI some (by kernel_rfl))⟩,
 f19:=Tryz.func160.trans (bI some (by kernel_rfl)),
 f20:=Tryz.func161.trans (bI some (by kernel_rfl)),
 f21:=⟨Tryz.f249.name,fs,Tryz.func249.trans (bI some (by kernel_rfl))⟩,
 f22:=⟨Tryz.f250.name,fs,Tryz.func250.trans (bI some (by kernel_rfl))⟩,
 f23:=⟨Tryz.f251.name,fs,Tryz.func251.trans (bI some (by kernel_rfl))⟩,
 f24:=⟨Tryz.f252.name,fs,Tryz.func252.trans (bI some (by kernel_rfl))⟩,
 f25:=⟨Tryz.f253.name,fs,Tryz.func253.trans (bI some (by kernel_rfl))⟩,
 f26:=⟨Tryz.f254.name,fs,Tryz.func254.trans (bI some (by kernel_rfl))⟩,
 f27:=⟨Tryz.f255.name,fs,Tryz.func255.trans (bI some (by kernel_rfl))⟩,
 f28:=⟨Tryz.f256.name,fs,Tryz.func256.trans (bI some (by kernel_rfl))⟩,
 f29:=⟨Tryz.f257.name,fs,Tryz.func257.trans (bI some (by kernel_rfl))⟩,
 f31:=Tryz.func191.trans (bI some (by kernel_rfl)),
 f32:=Tryz.func192.trans (bI some (by kernel_rfl)),
 f36:=⟨Tryz.f260.name,fs,Tryz.func260.trans (bI some (by kernel_rfl))⟩,
 f37:=⟨Tryz.f261.name,fs,Tryz.func261.trans (bI some (by kernel_rfl))⟩,
 f38:=⟨Tryz.f262.name,fs,Tryz.func262.trans (bI some (by kernel_rfl))⟩,
 f39:=⟨Tryz.f263.name,fs,Tryz.func263.trans (bI some (by kernel_rfl))⟩,
 f41:=⟨Tryz.f267.name,fs,Tryz.func267.trans (bI some (by kernel_rfl))⟩,
 t0:=gB,
 a0:=jA,
 z0:=iW,
 v0:=gM,
 t3:=jZ,
 a3:=Tryz.isAgg3,
 z3:=Tryz.sizeOf3,
 v3:=ku,
 t4:=iC,
 a4:=kz,
 z4:=ki,
 v4:=iP,
 t5:=kc,
 a5:=Tryz.isAgg5,
 z5:=Tryz.sizeOf5,
 v5:=kv,
 t9:=fO,
 a9:=iG,
 z9:=ig,
 v9:=fY,
 t26:=jq,
 a26:=Tryz.isAgg172,
 z26:=Tryz.sizeOf172,
 v26:=jL,
 t27:=jq,
 a27:=Tryz.isAgg172,
 z27:=Tryz.sizeOf172,
 v27:=jL,
 t29:=fO,
 a29:=iG,
 z29:=ig,
 v29:=fY,
 t32:=je,
 a32:=Tryz.isAgg189,
 z32:=Tryz.sizeOf189,
 v32:=jB,
 t35:=jf,
 a35:=Tryz.isAgg230,
 z35:=Tryz.sizeOf230,
 v35:=jC,
 t36:=jg,
 a36:=Tryz.isAgg231,
 z36:=Tryz.sizeOf231,
 v36:=jD,
 t41:=jh,
 a41:=Tryz.isAgg235,
 z41:=Tryz.sizeOf235,
 v41:=jE,
 t44:=ji,
 a44:=Tryz.isAgg238,
 z44:=Tryz.sizeOf238,
 v44:=jF,
 t46:=jj,
 a46:=Tryz.isAgg135,
 z46:=Tryz.sizeOf135,
 v46:=jG,
 t53:=jk,
 a53:=Tryz.isAgg258,
 z53:=Tryz.sizeOf258,
 v53:=jH,
 t57:=jl,
 a57:=Tryz.isAgg262,
 z57:=Tryz.sizeOf262,
 v57:=jI,
 t63:=jm,
 a63:=Tryz.isAgg278,
 z63:=Tryz.sizeOf278,
 v63:=jJ,
 t64:=jo,
 a64:=Tryz.isAgg252,
 z64:=Tryz.sizeOf252,
 v64:=jK}
def ZW:Go.Shelf.Ren:=⟨fun | 7=>222 | 10=>233 | n=>n,fun | 23=>219 | 26=>9 | 3=>4 | 28=>288 | 0=>0 | 27=>287 | 33=>76 | 4=>4 | n=>n,fun | n=>n⟩
theorem ZO:Go.Proofs.SlLaysZ.n7 Tryz.prog ZW:={
 mixed:=by kernel_rfl,
 f7:=⟨Tryz.f222.name,fs,Tryz.func222.trans (bI some (by kernel_rfl))⟩,
 f10:=⟨Tryz.f233.name,fs,Tryz.func233.trans (bI some (by kernel_rfl))⟩,
 t0:=gB,
 a0:=jA,
 z0:=iW,
 v0:=gM,
 t4:=iC,
 a4:=kz,
 z4:=ki,
 v4:=iP,
 t23:=Tryz.underlying219,
 a23:=Tryz.isAgg219,
 z23:=Tryz.sizeOf219,
 v23:=Tryz.zeroValue219,
 t26:=fO,
 a26:=iG,
 z26:=ig,
 v26:=fY,
 t27:=Tryz.underlying287,
 a27:=Tryz.isAgg287,
 z27:=Tryz.sizeOf287,
 v27:=Tryz.zeroValue287,
 t28:=Tryz.underlying288,
 a28:=Tryz.isAgg288,
 z28:=Tryz.sizeOf288,
 v28:=Tryz.zeroValue288,
 t33:=Tryz.underlying76,
 a33:=Tryz.isAgg76,
 z33:=Tryz.sizeOf76,
 v33:=Tryz.zeroValue76}
def ZJ:Go.Shelf.Ren:=⟨fun | 6=>221 | 8=>231 | 9=>232 | 11=>243 | 13=>121 | 12=>244 | 23=>160 | 24=>161 | 14=>249 | 15=>250 | 16=>251 | 17=>252 | 18=>253 | 19=>254 | 20=>255 | 21=>256 | 22=>257 | 25=>260 | 26=>191 | 27=>192 | 28=>261 | 29=>262 | 30=>263 | 31=>267 | n=>n,fun | 26=>9 | 28=>288 | 24=>172 | 0=>0 | 3=>3 | 37=>189 | 48=>238 | 50=>135 | 4=>4 | 40=>231 | 39=>230 | 45=>235 | 5=>5 | 9=>9 | 51=>258 | 55=>262 | 57=>278 | 58=>252 | 33=>76 | n=>n,fun | n=>n⟩
theorem Zw:Go.Proofs.SlLaysZ.n6 Tryz.prog ZJ:={
 mixed:=by kernel_rfl,
 f6:=⟨Tryz.f221.name,fs,Tryz.func221.trans (bI some (by kernel_rfl))⟩,
 f8:=⟨Tryz.f231.name,fs,Tryz.func231.trans (bI some (by kernel_rfl))⟩,
 f11:=⟨Tryz.f243.name,fs,Tryz.func243.trans (bI some (by kernel_rfl))⟩,
 t0:=gB,
 a0:=jA,
 z0:=iW,
 v0:=gM,
 t24:=jq,
 a24:=Tryz.isAgg172,
 z24:=Tryz.sizeOf172,
 v24:=jL,
 t26:=fO,
 a26:=iG,
 z26:=ig,
 v26:=fY,
 t28:=Tryz.underlying288,
 a28:=Tryz.isAgg288,
 z28:=Tryz.sizeOf288,
 v28:=Tryz.zeroValue288,
 i26:=by kernel_rfl}
end Go.Proofs.YtlfibegniofmjaaGreat
namespace Go.Proofs.YtlfibegniofmjaaGreat
open Go.IntKind renaming wrap → wi0
open Go.RowKit
set_option maxRecDepth 10000
noncomputable section
structure kL where
 kO:ByteArray
 Word:ByteArray
def kR (x:kL):List Value:=[.string x.kO,.string x.Word]
def lJ (x y:kL):Bool:=(mx x.kO y.kO)&&((mx x.Word y.Word)&&true)
theorem lO {x y:kL}:lJ x y=true↔x=y:=by
 cases x; cases y; simp [lJ,mU]
theorem ox (x:kL):(kR x).length=2:=rfl
theorem oQ (x:kL):∀u∈kR x,u.oneCell'=true:=by
 intro u hu
 simp only [kR,aS,du,fx] at hu
 rcases hu with rfl | rfl <;> rfl
structure kK where
 Kind:Int
 Head:kL
 lV:ByteArray
 B:kL
 C:kL
 lW:ByteArray
def kQ (x:kK):List Value:=[.int .i64 x.Kind,.string x.Head.kO,.string x.Head.Word,.string x.lV,.string x.B.kO,.string x.B.Word,.string x.C.kO,.string x.C.Word,.string x.lW]
def nE (x y:kK):Bool:=(x.Kind==y.Kind)&&((lJ x.Head y.Head)&&((mx x.lV y.lV)&&((lJ x.B y.B)&&((lJ x.C y.C)&&((mx x.lW y.lW)&&true)))))
theorem xo {x y:kK}:nE x y=true↔x=y:=by
 cases x; cases y; simp [nE,mU,lO]
theorem mL (x:kK):(kQ x).length=9:=rfl
theorem ow (x:kK):∀u∈kQ x,u.oneCell'=true:=by
 intro u hu
 simp only [kQ,aS,du,fx] at hu
 rcases hu with rfl | rfl | rfl | rfl | rfl | rfl | rfl | rfl | rfl <;> rfl
structure lx where
 kL:kL
 lV:ByteArray
def mw (x:lx):List Value:=[.string x.kL.kO,.string x.kL.Word,.string x.lV]
def Gi (x y:lx):Bool:=(lJ x.kL y.kL)&&((mx x.lV y.lV)&&true)
theorem Co {x y:lx}:Gi x y=true↔x=y:=by
 cases x; cases y; simp [Gi,mU,lO]
theorem wq (x:lx):(mw x).length=3:=rfl
theorem Ey (x:lx):∀u∈mw x,u.oneCell'=true:=by
 intro u hu
 simp only [mw,aS,du,fx] at hu
 rcases hu with rfl | rfl | rfl <;> rfl
structure Y8 where
 at0:Int
 at1:Int
structure mE where
 e:Int
def np (x:mE):List Value:=[.int .i64 x.e]
structure nc where
 X8:Bool
def ol (x:nc):List Value:=[.bool x.X8]
structure Key where
 lV:ByteArray
 Key:List Int
structure Signed where
 kK:kK
 Tag:List Int
structure mN where
 m:List (ByteArray×(List Int))
structure Formula where
 Op:Int
 K:Int
 kL:kL
 Kids:List Formula
structure nM where
 Signed:Signed
 la:Formula
structure sT where
 kL:kL
 la:Formula
 pf:List kK
structure mW where
 Name:ByteArray
 nK:List nM
 pv:List sT
structure RA where
 kO:mW
 Client:mW
 Formula:Formula
 oN:Int
 YS:Y8
 Tm:Int
 Yw:Int
 Vk:Int
 Keys:List Key
structure pd where
 Kind:Int
 oN:Int
 E:Int
 Name:ByteArray
 nU:List kL
 mC:List Signed
def sy (a0:ByteArray) (a:Int):Option Int :=
 some (B7 a0 a)
def wM (a0:ByteArray) (a:Int):Option Int :=
 ((sy a0 a).bind λc=>some c)
def Ah :List Int→Option Bool
 | []=>some true
 | d::a=>(wM (⟨#[97,98,99,100,101,102,103,104,105,106,107,108,109,110,111,112,113,114,115,116,117,118,119,120,121,122,48,49,50,51,52,53,54,55,56,57,45]⟩:ByteArray) d).bind λc=>(if (decide (c < 0)) then some false else Ah a)
def HB (a0:ByteArray):Option Bool :=
 ((Ef a0).bind λa=>Ah a)
def tJ (a0:ByteArray):Option Bool :=
 ((if (decide ((a0.size:Int)≥1)) then some (decide ((a0.size:Int)≤16)) else some false).bind λx2=>(if x2 then (Dk a0 0).bind λa=>((wM (⟨#[97,98,99,100,101,102,103,104,105,106,107,108,109,110,111,112,113,114,115,116,117,118,119,120,121,122]⟩:ByteArray) (a.toNat:Int)).bind λd=>some (decide (d≥0))) else some false).bind λg=>(if g then (HB a0).bind λc=>some c else some false).bind λh=>some h)
def rO (a0:List Int):Option (List Int) :=
 ((nF 1 ([]) a0).bind λa=>some a)
def ze :List Key→(List (ByteArray×(List Int)))→Option ((Option mN)×Int)
 | [],c=>some ((some (⟨c⟩:mN)),0)
 | a::d,c=>(tJ a.lV).bind λh=>(if (!h) then some (none,30) else (if (decide ((a.Key.length:Int) < 1)) then some true else some (decide ((a.Key.length:Int) > 32))).bind λj=>(if j then some (none,21) else if (mO mx c a.lV).isSome then some (none,41) else (rO a.Key).bind λi=>(Ja mx c a.lV i).bind λg=>ze d g))
def FY (a0:List Key):Option ((Option mN)×Int) :=
 ze a0 ([])
def tK (a0:kL):Option Bool :=
 ((tJ a0.kO).bind λd=>(if d then (tJ a0.Word).bind λa=>some a else some false).bind λc=>some c)
def pL (a0 a:ByteArray):Option Int :=
 some (tz a0 a)
def uf (a0 a:ByteArray):Option Int :=
 ((pL a0 a).bind λc=>some c)
def xJ :List Int→Option Int
 | []=>some 0
 | a::c=>(if (a != 0) then some a else xJ c)
def zX (a0:List Int):Option Int :=
 xJ a0
def tY (a0 g:kL):Option Int :=
 ((uf a0.kO g.kO).bind λa=>(uf a0.Word g.Word).bind λc=>(zX ([a,c])).bind λd=>some d)
def sJ (a0:kK):Option Bool :=
 ((tK a0.Head).bind λA=>(((if (a0.Kind==1) then (if A then (tJ a0.lV).bind λc=>some c else some false).bind λq=>some (Sum.inr (q,(⟨a0.Kind,a0.Head,a0.lV,(⟨zS,zS⟩:kL),(⟨zS,zS⟩:kL),zS⟩:kK))) else if (a0.Kind==2) then (if A then (tK a0.B).bind λd=>some d else some false).bind λt=>some (Sum.inr (t,(⟨a0.Kind,a0.Head,zS,a0.B,(⟨zS,zS⟩:kL),zS⟩:kK))) else if (a0.Kind==3) then (if A then (tK a0.B).bind λh=>some h else some false).bind λu=>((if u then some (mx a0.B.kO a0.Head.kO) else some false).bind λv=>(if v then (tJ a0.lW).bind λg=>some g else some false).bind λw=>some (Sum.inr (w,(⟨a0.Kind,a0.Head,zS,a0.B,(⟨zS,zS⟩:kL),a0.lW⟩:kK)))) else if (a0.Kind==4) then (if A then (tK a0.B).bind λk=>some k else some false).bind λx=>((if x then (tK a0.C).bind λj=>some j else some false).bind λy=>(if y then (tY a0.B a0.C).bind λi=>some (decide (i < 0)) else some false).bind λz=>some (Sum.inr (z,(⟨a0.Kind,a0.Head,zS,a0.B,a0.C,zS⟩:kK)))) else some (Sum.inl false)):Option (Bool ⊕ (Bool×kK))).bind λs=>match s with | .inl a=>some a | .inr (n,o)=>(if n then some (nE o a0) else some false).bind λp=>some p))
def xw (a0:Option mN) (c:kK):Option ((List Int)×Int) :=
 (if a0.isNone then some ([],1) else (sJ c).bind λd=>(if (!d) then some ([],11) else a0.bind λa=>(if (!((mO mx a.m c.Head.kO).isSome)) then some ([],21) else some (((mO mx a.m c.Head.kO).getD []),0))))
def pE :Nat→Int→(List Int)→Option (Bool×(List Int))
 | 0,_,_=>none
 | h+1,a,d=>(if (decide (a≥128)) then (nF 1 d ([IntKind.u8.wrap (BitVec.ofInt (IntKind.bits .u8) (IntKind.u8.wrap a) ||| BitVec.ofInt (IntKind.bits .u8) 128).toNat])).bind λg=>(pE h (Int.fdiv a (2 ^ min (Int.toNat 7) (IntKind.bits .i64))) g) else (nF 1 d ([IntKind.u8.wrap a])).bind λc=>some (true,c))
def nD (a:List Int) (c:Int):Option (Bool×(List Int)) :=
 (if (decide (c < 0)) then some (false,a) else pE lP c a)
def wu (a c:List Int):Option (Bool×(List Int)) :=
 (if (decide ((c.length:Int) > 2048)) then some (false,a) else (nD a (c.length:Int)).bind λg=>(nF 1 g.2 c).bind λd=>some (true,d))
def yI (a:List Int) (i:ByteArray):Option (Bool×(List Int)) :=
 ((tJ i).bind λj=>((if j then (Ef i).bind λg=>((wu a g).bind λc=>some (c.1,c.2)) else some (false,a)):Option (Bool×(List Int))).bind λ(h,d)=>some (h,d))
def uC (a:List Int) (h:kL):Option (Bool×(List Int)) :=
 ((tK h).bind λn=>((if n then (yI a h.kO).bind λg=>some (g.1,g.2) else some (false,a)):Option (Bool×(List Int))).bind λ(j,c)=>((if j then (yI c h.Word).bind λd=>some (d.1,d.2) else some (false,c)):Option (Bool×(List Int))).bind λ(k,i)=>some (k,i))
def rC (a:List Int):Option (List Int) :=
 ((rO a).bind λc=>some c)
def wg (a0:kK):Option (List Int) :=
 ((sJ a0).bind λo=>(if (!o) then some [] else (nD ([]) a0.Kind).bind λp=>(uC p.2 a0.Head).bind λa=>((if (a0.Kind==1) then (yI a.2 a0.lV).bind λg=>some g.2 else if (a0.Kind==2) then (uC a.2 a0.B).bind λh=>some h.2 else if (a0.Kind==3) then (uC a.2 a0.B).bind λi=>((yI i.2 a0.lW).bind λj=>some j.2) else if (a0.Kind==4) then (uC a.2 a0.B).bind λk=>((uC k.2 a0.C).bind λn=>some n.2) else some a.2):Option (List Int)).bind λc=>(rC c).bind λd=>some d))
def zy (a0:List Int):Option Bool :=
 ((if (decide ((a0.length:Int)≥1)) then some (decide ((a0.length:Int)≤32)) else some false).bind λx2=>some x2)
def BG :List Int→Int→Option Int
 | [],a=>some a
 | d::c,a=>BG c (IntKind.u64.wrap ((IntKind.u64.wrap (BitVec.ofInt (IntKind.bits .u64) a ^^^ BitVec.ofInt (IntKind.bits .u64) (IntKind.u64.wrap d)).toNat)*1099511628211))
def BI :List (List Int)→Int→Option Int
 | [],a=>some a
 | d::c,a=>(BG d a).bind λg=>BI c g
def Hf (a0:List (List Int)):Option Int :=
 BI a0 14695981039346656037
def uK (c:Int):List Int→Nat→(List Int)→Option (List Int)
 | [],_,a=>some a
 | h::d,i68,a=>(rr (decide (0≤(wi0 .i64 (8*(wi0 .i64 (7-(i68:Int)))))))).bind λ_=>(mT a (i68:Int)).bind λg=>uK c d (i68+1) (a.set (Int.toNat (i68:Int)) (IntKind.u8.wrap (Int.fdiv c (2 ^ min (Int.toNat (wi0 .i64 (8*(wi0 .i64 (7-(i68:Int)))))) (IntKind.bits .u64)))))
def D7 (a0 d:List Int):Option (List Int) :=
 ((zy a0).bind λg=>(if (!g) then some [] else (Hf ([[IntKind.u8.wrap (a0.length:Int)],a0,d,a0])).bind λc=>(GY 1 0 8).bind λa=>uK c a 0 a))
def Ec (a0:Option mN) (a:kK):Option (Signed×Int) :=
 ((xw a0 a).bind λg=>(if (g.2 != 0) then none else (wg a).bind λc=>(D7 g.1 c).bind λd=>some ((⟨a,d⟩:Signed),0)))
def pY (a0 a:List Int):Option Bool :=
 some (mx (su a0) (su a))
def F6 (a0 g a2:List Int):Option Bool :=
 ((zy a0).bind λh=>(if h then (D7 a0 g).bind λa=>((pY a a2).bind λc=>some c) else some false).bind λd=>some d)
def xP (a0:Option mN) (g:Signed):Option Int :=
 ((xw a0 g.kK).bind λh=>(if (h.2==0) then (wg g.kK).bind λa=>((F6 h.1 a g.Tag).bind λc=>some (!c)) else some false).bind λd=>(if d then some 20 else some h.2))
def wJ (a0:List kK):Option (List kK) :=
 ((nF 136 ([]) a0).bind λa=>some a)
def sF (f1:kK→Option Bool):List kK→Nat→Option Int
 | [],_=>some (-1)
 | d::a,i35=>(f1 d).bind λc=>(if c then some (i35:Int) else sF f1 a (i35+1))
def yS (a0:List kK) (f1:kK→Option Bool):Option Int :=
 sF f1 a0 0
def pO (f1:kK→Option Bool):Nat→(List kK)→Int→Int→Option (List kK)
 | 0,_,_,_=>none
 | n321+1,c,a,d=>(if (decide (d < (c.length:Int))) then (((mT c d).bind λg=>(f1 g).bind λi=>(if (!i) then (mT c a).bind λk=>some ((c.set (Int.toNat a) g),wi0 .i64 (a+1)) else some (c,a))):Option ((List kK)×Int)).bind λ(h,j)=>(pO f1 n321 h j (wi0 .i64 (d+1))) else (rr (decide (0≤a)&&decide (a≤(c.length:Int)))).bind λ_=>(rr (decide (0≤a)&&decide (a≤((rf c (Int.toNat a) (⟨0,(⟨zS,zS⟩:kL),zS,(⟨zS,zS⟩:kL),(⟨zS,zS⟩:kL),zS⟩:kK)).length:Int)))).bind λ_=>some ((rf c (Int.toNat a) (⟨0,(⟨zS,zS⟩:kL),zS,(⟨zS,zS⟩:kL),(⟨zS,zS⟩:kL),zS⟩:kK)).take (Int.toNat a)))
def vU (a0:List kK) (f1:kK→Option Bool):Option (List kK) :=
 ((yS a0 f1).bind λa=>(if (a==(-1)) then some a0 else pO f1 lP a0 a (wi0 .i64 (a+1))))
def FF (a0:kK):Option Bool :=
 ((sJ a0).bind λa=>some (!a))
def Bt (a0 a:List Int):Option Int :=
 some (Dn a0 a)
def vk (a0 g:kK):Option Int :=
 ((wg a0).bind λa=>(wg g).bind λc=>(Bt a c).bind λd=>some d)
def rV (c:Int):Nat→(List kK)→Int→Int→Option ((List kK)×Int)
 | 0,_,_,_=>none
 | i+1,a,d,g=>(if (decide (g < ((a.length-(Int.toNat c):Nat):Int))) then (((mT (a.drop (Int.toNat c)) g).bind λk=>(mT (a.drop (Int.toNat c)) (wi0 .i64 (g-1))).bind λn=>(if (!(nE k n)) then (mT (a.drop (Int.toNat c)) g).bind λo=>((mT a d).bind λp=>some ((a.set (Int.toNat d) o),wi0 .i64 (d+1))) else some (a,d))):Option ((List kK)×Int)).bind λ(h,j)=>(rV c i h j (wi0 .i64 (g+1))) else some (a,d))
def sc (a0:List kK):Nat→Int→Option (List kK)
 | 0,_=>none
 | g+1,a=>(if (decide (a < (a0.length:Int))) then (mT a0 a).bind λh=>((mT a0 (wi0 .i64 (a-1))).bind λi=>(if (nE h i) then (rr (decide (0≤a)&&decide (a≤(a0.length:Int)))).bind λ_=>((rV a lP a0 a 1).bind λ(d,c)=>(rr (decide (0≤c)&&decide (c≤(d.length:Int)))).bind λ_=>(rr (decide (0≤c)&&decide (c≤((rf d (Int.toNat c) (⟨0,(⟨zS,zS⟩:kL),zS,(⟨zS,zS⟩:kL),(⟨zS,zS⟩:kL),zS⟩:kK)).length:Int)))).bind λ_=>some ((rf d (Int.toNat c) (⟨0,(⟨zS,zS⟩:kL),zS,(⟨zS,zS⟩:kL),(⟨zS,zS⟩:kL),zS⟩:kK)).take (Int.toNat c))) else sc a0 g (wi0 .i64 (a+1)))) else some a0)
def xL (a0:List kK):Option (List kK) :=
 (if (decide ((a0.length:Int) < 2)) then some a0 else sc a0 lP 1)
def zm (a0:List kK):Option (List kK) :=
 ((wJ a0).bind λg=>(vU g λ(x:kK)=>FF x).bind λa=>(CS (λ(x:(kK×kK))=>vk x.1 x.2) a).bind λc=>(xL c).bind λd=>some d)
def pT (a0:Option mN):List Signed→(List kK)→Option (List kK)
 | [],a=>(zm a).bind λh=>some h
 | i::c,a=>(xP a0 i).bind λg=>(if (g==0) then (nF 136 a ([i.kK])).bind λd=>(pT a0 c d) else pT a0 c a)
def vY (a0:Option mN) (a:List Signed):Option (List kK) :=
 pT a0 a ([])
def uz (d:kK):List kK→Nat→Option Int
 | [],_=>some (-1)
 | c::a,i46=>(if (nE d c) then some (i46:Int) else uz d a (i46+1))
def Bh (a0:List kK) (a:kK):Option Int :=
 uz a a0 0
def xn (a0:List kK) (a:kK):Option Bool :=
 ((Bh a0 a).bind λc=>some (decide (c≥0)))
def AM (a0:List kK) (a:kK):Option Bool :=
 ((xn a0 a).bind λc=>some c)
def DU (a0:kK):Option (List kL) :=
 ((sJ a0).bind λh=>(if (!h) then some [] else ((if (a0.Kind != 1) then (nF 32 ([a0.Head]) ([a0.B])).bind λg=>some g else some ([a0.Head])):Option (List kL)).bind λa=>((if (a0.Kind==4) then (nF 32 a ([a0.C])).bind λd=>some d else some a):Option (List kL)).bind λc=>some c))
def sr (i:kK) (a:List (ByteArray×(List kK))) (g:List kK):List kL→(List (kL×(List kK)))→Option ((List kK)×(List (kL×(List kK)))×(List (ByteArray×(List kK))))
 | [],c=>(if (i.Kind==3) then (nF 136 ((mO mx a i.lW).getD []) ([i])).bind λk=>some (g,c,rW mx a i.lW k) else some (g,c,a))
 | d::h,c=>(nF 136 ((mO lJ c d).getD []) ([i])).bind λj=>sr i a g h (rW lJ c d j)
def ym (i:List (kL×(List (ByteArray×Bool)))) (a:List kK) (d:List (kL×(List kK))) (c:List (ByteArray×(List kK))) (g:List lx) (n:Int) (j:kK):Option ((List kK)×(List (kL×(List kK)))×(List (ByteArray×(List kK)))) :=
 ((nF 136 a ([j])).bind λk=>(DU j).bind λh=>(rr (decide (0≤1)&&decide (1≤(h.length:Int)))).bind λ_=>sr j c k (h.drop (Int.toNat 1)) d)
def rh (a:List (kL×(List (ByteArray×Bool)))) (g:List kK) (i:List (kL×(List kK))) (h:List (ByteArray×(List kK))) (c:List lx) (d:Int) (j:kL) (a2:ByteArray):Option ((List (kL×(List (ByteArray×Bool))))×(List lx)×Int) :=
 (if (B4 mx ((mO lJ a j).getD []) a2 false) then some (a,c,d) else ((if (mO lJ a j).isNone then (Ja lJ a j ([])).bind λk=>some k else some a):Option (List (kL×(List (ByteArray×Bool))))).bind λn=>(L8 lJ mx n j a2 true).bind λo=>(nF 48 c ([(⟨j,a2⟩:lx)])).bind λp=>some (o,p,wi0 .i64 (d+1)))
def sK (a0:List (ByteArray×Bool)):Option Unit :=
 some ()
def vj (a:List (kL×(List (ByteArray×Bool)))) (c:List kK) (h:List (kL×(List kK))) (d:List (ByteArray×(List kK))) (g:List lx) (j:Int) (k:kL):Option (List ByteArray) :=
 ((sK ((mO lJ a k).getD [])).bind λn=>(MO ((mO lJ a k).getD [])).bind λi=>some i)
def uA (a:List kK) (d:List (kL×(List kK))) (c:List (ByteArray×(List kK))) (a2:kL):List ByteArray→(List (kL×(List (ByteArray×Bool))))→(List lx)→Int→Option ((List (kL×(List (ByteArray×Bool))))×(List lx)×Int)
 | [],g,h,j=>some (g,h,j)
 | n::k,g,h,j=>(rh g a d c h j a2 n).bind λi=>uA a d c a2 k i.1 i.2.1 i.2.2
def yQ (h:List (kL×(List (ByteArray×Bool)))) (a:List kK) (g:List (kL×(List kK))) (c:List (ByteArray×(List kK))) (d:List lx) (i:Int) (j a2:kL):Option ((List (kL×(List (ByteArray×Bool))))×(List lx)×Int) :=
 ((vj h a g c d i j).bind λk=>uA a g c a2 k h d i)
def wI (a:List (kL×(List (ByteArray×Bool)))) (d:List kK) (h:List (kL×(List kK))) (g:List (ByteArray×(List kK))) (c:List lx) (i:Int) (j:kK) (a2:lx):Option ((List (kL×(List (ByteArray×Bool))))×(List lx)×Int) :=
 (if (j.Kind==2) then (rh a d h g c i j.Head a2.lV).bind λo=>some (o.1,o.2.1,o.2.2) else if (j.Kind==3) then (yQ a d h g c i (⟨a2.lV,j.lW⟩:kL) j.Head).bind λk=>some (k.1,k.2.1,k.2.2) else if (j.Kind==4) then (if (B4 mx ((mO lJ a j.B).getD []) a2.lV false) then some (B4 mx ((mO lJ a j.C).getD []) a2.lV false) else some false).bind λp=>(if p then (rh a d h g c i j.Head a2.lV).bind λn=>some (n.1,n.2.1,n.2.2) else some (a,c,i)) else some (a,c,i))
def tq (a:List kK) (d:List (kL×(List kK))) (c:List (ByteArray×(List kK))) (o:kK):List ByteArray→(List (kL×(List (ByteArray×Bool))))→(List lx)→Int→Option ((List (kL×(List (ByteArray×Bool))))×(List lx)×Int)
 | [],g,h,j=>some (g,h,j)
 | n::k,g,h,j=>(wI g a d c h j o (⟨o.B,n⟩:lx)).bind λi=>tq a d c o k i.1 i.2.1 i.2.2
def xK (h:List (kL×(List (ByteArray×Bool)))) (a:List kK) (g:List (kL×(List kK))) (c:List (ByteArray×(List kK))) (d:List lx) (i:Int) (j:kK):Option ((List (kL×(List (ByteArray×Bool))))×(List lx)×Int) :=
 (if (j.Kind==1) then (rh h a g c d i j.Head j.lV).bind λn=>some (n.1,n.2.1,n.2.2) else (vj h a g c d i j.B).bind λk=>tq a g c j k h d i)
def rD (i:lx) (a:List kK) (d:List (kL×(List kK))) (c:List (ByteArray×(List kK))):List kK→(List (kL×(List (ByteArray×Bool))))→(List lx)→Int→Option ((List (kL×(List (ByteArray×Bool))))×(List lx)×Int)
 | [],g,h,j=>some (g,h,j)
 | o::n,g,h,j=>(if (B4 mx ((mO lJ g o.B).getD []) i.kL.kO false) then (rh g a d c h j o.Head i.lV).bind λk=>(rD i a d c n k.1 k.2.1 k.2.2) else rD i a d c n g h j)
def sZ (a:List kK) (d:List (kL×(List kK))) (c:List (ByteArray×(List kK))) (k:lx):List kK→(List (kL×(List (ByteArray×Bool))))→(List lx)→Int→Option ((List (kL×(List (ByteArray×Bool))))×(List lx)×Int)
 | [],g,h,j=>some (g,h,j)
 | o::n,g,h,j=>(wI g a d c h j o k).bind λi=>sZ a d c k n i.1 i.2.1 i.2.2
def pz (d:List kK) (c:List (kL×(List kK))) (a:List (ByteArray×(List kK))):Nat→(List (kL×(List (ByteArray×Bool))))→(List lx)→Int→Option ((List (kL×(List (ByteArray×Bool))))×(List lx)×Int)
 | 0,_,_,_=>none
 | q+1,i,g,j=>(if (decide ((g.length:Int) > 0)) then (mT g 0).bind λh=>((rr (decide (0≤1)&&decide (1≤(g.length:Int)))).bind λ_=>(sZ d c a h ((mO lJ c h.kL).getD []) i (g.drop (Int.toNat 1)) j).bind λ(k,n,s)=>(rD h d c a ((mO mx a h.kL.Word).getD []) k n s).bind λ(o,p,t)=>pz d c a q o p t) else some (i,g,j))
def zz (h:List (kL×(List (ByteArray×Bool)))) (a:List kK) (g:List (kL×(List kK))) (c:List (ByteArray×(List kK))) (d:List lx) (i:Int):Option ((List (kL×(List (ByteArray×Bool))))×(List lx)×Int) :=
 pz a g c lP h d i
def ru (o:Int):List kK→(List (kL×(List (ByteArray×Bool))))→(List kK)→(List (kL×(List kK)))→(List (ByteArray×(List kK)))→(List lx)→Int→Option (Int×(List (kL×(List (ByteArray×Bool))))×(List kK)×(List (kL×(List kK)))×(List (ByteArray×(List kK)))×(List lx)×Int)
 | [],d,a,g,h,i,j=>(zz d a g h i j).bind λk=>some ((wi0 .i64 (k.2.2-o)),k.1,a,g,h,k.2.1,k.2.2)
 | n::q,d,a,g,h,i,j=>(sJ n).bind λs=>(if s then (AM a n).bind λt=>some (!t) else some false).bind λu=>(if u then (ym d a g h i j n).bind λc=>((xK d c.1 c.2.1 c.2.2 i j n).bind λp=>ru o q p.1 c.1 c.2.1 c.2.2 p.2.1 p.2.2) else ru o q d a g h i j)
def yP (h:List (kL×(List (ByteArray×Bool)))) (a:List kK) (g:List (kL×(List kK))) (c:List (ByteArray×(List kK))) (d:List lx) (i:Int) (j:List kK):Option (Int×(List (kL×(List (ByteArray×Bool))))×(List kK)×(List (kL×(List kK)))×(List (ByteArray×(List kK)))×(List lx)×Int) :=
 ru i j h a g c d i
def AB (a0:List kK):Option ((List (kL×(List (ByteArray×Bool))))×(List kK)×(List (kL×(List kK)))×(List (ByteArray×(List kK)))×(List lx)×Int) :=
 ((yP ([]) ([]) ([]) ([]) ([]) 0 a0).bind λa=>some (a.2.1,a.2.2.1,a.2.2.2.1,a.2.2.2.2.1,a.2.2.2.2.2.1,a.2.2.2.2.2.2))
def uF (a0 g:lx):Option Int :=
 ((tY a0.kL g.kL).bind λa=>(uf a0.lV g.lV).bind λc=>(zX ([a,c])).bind λd=>some d)
def Bg (c:List (kL×(List (ByteArray×Bool)))) (d:List kK) (i:List (kL×(List kK))) (g:List (ByteArray×(List kK))) (h:List lx) (k:Int):Option (List lx) :=
 ((Wp 48 (λ(a:kL) (b:ByteArray)=>(⟨a,b⟩:lx)) c).bind λn=>Kd n λj=>(CS (λ(x:(lx×lx))=>uF x.1 x.2) j).bind λo=>some o)
def tF (a:List (kL×(List (ByteArray×Bool)))) (c:List kK) (h:List (kL×(List kK))) (d:List (ByteArray×(List kK))) (g:List lx) (i:Int) (j:kL) (a2:ByteArray):Option Bool :=
 some (B4 mx ((mO lJ a j).getD []) a2 false)
def tD :List kK→Int→Option Int
 | [],c=>some c
 | a::d,c=>tD d (wi0 .i64 (c+(wi0 .i64 ((wi0 .i64 ((wi0 .i64 ((wi0 .i64 ((wi0 .i64 ((wi0 .i64 ((wi0 .i64 ((wi0 .i64 (20+(a.Head.kO.size:Int)))+(a.Head.Word.size:Int)))+(a.lV.size:Int)))+(a.B.kO.size:Int)))+(a.B.Word.size:Int)))+(a.C.kO.size:Int)))+(a.C.Word.size:Int)))+(a.lW.size:Int)))))
def AR (a0:List kK):Option Int :=
 tD a0 0
def uV :List Signed→Int→Option Int
 | [],a=>some a
 | c::d,a=>(AR ([c.kK])).bind λg=>uV d (wi0 .i64 (a+(wi0 .i64 (g+(c.Tag.length:Int)))))
def uW (h:List Signed):List Key→Int→Option Int
 | [],a=>(uV h a).bind λc=>some c
 | d::g,a=>uW h g (wi0 .i64 (a+(wi0 .i64 ((wi0 .i64 (10+(d.lV.size:Int)))+(d.Key.length:Int)))))
def A8 (a0:List Key) (a:List Signed):Option Int :=
 uW a a0 0
def uR (a0:ByteArray):Nat→Int→Option Bool
 | 0,_=>none
 | d+1,c=>(if (decide (c < (a0.size:Int))) then (Dk a0 c).bind λa=>((if (decide ((a.toNat:Int) < 97)) then some true else some (decide ((a.toNat:Int) > 122))).bind λg=>(if g then (if (decide ((a.toNat:Int) < 48)) then some true else some (decide ((a.toNat:Int) > 57))).bind λj=>some j else some false).bind λh=>(if h then some ((a.toNat:Int) != 45) else some false).bind λi=>(if i then some false else uR a0 d (wi0 .i64 (c+1)))) else some true)
def tQ (a0:ByteArray):Option Bool :=
 ((if (mx a0 zS) then some true else some (decide ((a0.size:Int) > 16))).bind λx2=>(if x2 then some true else (Dk a0 0).bind λc=>some (decide ((c.toNat:Int) < 97))).bind λd=>(if d then some true else (Dk a0 0).bind λa=>some (decide ((a.toNat:Int) > 122))).bind λg=>(if g then some false else uR a0 lP 0))
def wz (a0:kL):Option Bool :=
 ((tQ a0.kO).bind λd=>(if d then (tQ a0.Word).bind λa=>some a else some false).bind λc=>some c)
def yD (a0 a:kL):Option Bool :=
 ((if (uJ a0.kO a.kO) then some true else (if (mx a0.kO a.kO) then some (uJ a0.Word a.Word) else some false).bind λd=>some d).bind λc=>some c)
def uL (a0:kK):Option Bool :=
 ((wz a0.Head).bind λv=>(if (!v) then some false else if (a0.Kind==1) then (tQ a0.lV).bind λi=>((if i then some (lJ a0.B (⟨zS,zS⟩:kL)) else some false).bind λk=>(if k then some (lJ a0.C (⟨zS,zS⟩:kL)) else some false).bind λn=>(if n then some (mx a0.lW zS) else some false).bind λo=>some o) else (if (!(mx a0.lV zS)) then some true else (wz a0.B).bind λd=>some (!d)).bind λp=>(if p then some false else if (a0.Kind==2) then (if (lJ a0.C (⟨zS,zS⟩:kL)) then some (mx a0.lW zS) else some false).bind λq=>some q else if (a0.Kind==3) then (if (lJ a0.C (⟨zS,zS⟩:kL)) then some (mx a0.B.kO a0.Head.kO) else some false).bind λs=>((if s then (tQ a0.lW).bind λj=>some j else some false).bind λt=>some t) else (if (a0.Kind==4) then some (mx a0.lW zS) else some false).bind λu=>(if u then (wz a0.C).bind λc=>some c else some false).bind λg=>(if g then (yD a0.B a0.C).bind λa=>some a else some false).bind λh=>some h)))
def sU :Nat→Int→ByteArray→Option ByteArray
 | 0,_,_=>none
 | n45+1,a,c=>(if (decide (a≥128)) then (xV c (su ([IntKind.u8.wrap (wi0 .i64 (128+(Int.tmod a 128)))]))).bind λd=>(sU n45 (wi0 .i64 (Int.tdiv a 128)) d) else (xV c (su ([IntKind.u8.wrap a]))).bind λg=>some g)
def ra (a0:Int):Option ByteArray :=
 sU lP a0 zS
def tN (a0:ByteArray):Option ByteArray :=
 ((ra (a0.size:Int)).bind λa=>(xV a a0).bind λc=>some c)
def xY (a0:kL):Option ByteArray :=
 ((tN a0.kO).bind λa=>(tN a0.Word).bind λc=>(xV a c).bind λd=>some d)
def yY (a0:kK):Option ByteArray :=
 ((ra a0.Kind).bind λg=>(xY a0.Head).bind λh=>(xV g h).bind λa=>(if (a0.Kind==1) then (tN a0.lV).bind λi=>((xV a i).bind λo=>some o) else (xY a0.B).bind λj=>(xV a j).bind λc=>((if (a0.Kind==3) then (tN a0.lW).bind λn=>((xV c n).bind λq=>some q) else some c):Option ByteArray).bind λd=>((if (a0.Kind==4) then (xY a0.C).bind λk=>((xV d k).bind λp=>some p) else some d):Option ByteArray).bind λs=>some s))
def xe (a0:ByteArray):Nat→Int→Int→Option Int
 | 0,_,_=>none
 | n38+1,c,a=>(if (decide (a < (a0.size:Int))) then (Dk a0 a).bind λd=>(xe a0 n38 (IntKind.u64.wrap ((IntKind.u64.wrap (BitVec.ofInt (IntKind.bits .u64) c ^^^ BitVec.ofInt (IntKind.bits .u64) (IntKind.u64.wrap (d.toNat:Int))).toNat)*1099511628211)) (wi0 .i64 (a+1))) else some c)
def CC (a0:ByteArray):Option Int :=
 xe a0 lP 14695981039346656037 0
def rj :Nat→Int→ByteArray→Int→Option ByteArray
 | 0,_,_,_=>none
 | g+1,a,c,d=>(if (decide (d < 8)) then (xV (su ([IntKind.u8.wrap (Int.tmod a 256)])) c).bind λh=>(rj g (IntKind.u64.wrap (Int.tdiv a 256)) h (wi0 .i64 (d+1))) else some c)
def DI (a0 a:ByteArray):Option ByteArray :=
 ((xV (su ([IntKind.u8.wrap (a0.size:Int)])) a0).bind λd=>(xV d a).bind λg=>(xV g a0).bind λh=>(CC h).bind λc=>rj lP c zS 0)
def zW (d:kK):List Key→Option (ByteArray×Int)
 | []=>some (zS,21)
 | a::c=>(if (mx a.lV d.Head.kO) then some ((su a.Key),0) else zW d c)
def HR (a0:List Key) (a:kK):Option (ByteArray×Int) :=
 ((uL a).bind λc=>(if (!c) then some (zS,11) else zW a a0))
def CG (a0:List Key) (a:Signed):Option Int :=
 ((HR a0 a.kK).bind λc=>(if (c.2==0) then (yY a.kK).bind λd=>((DI c.1 d).bind λg=>some (!(mx g (su a.Tag)))) else some false).bind λh=>(if h then some 20 else some c.2))
def yZ (a0:kK):Option ByteArray :=
 ((uL a0).bind λa=>(if (!a) then some zS else (yY a0).bind λc=>some c))
def uu (a0 d:kK):Option Int :=
 ((yZ a0).bind λa=>(yZ d).bind λc=>(if (uJ a c) then some (-1) else if (!(uJ a c||mx a c)) then some 1 else some 0))
def wZ (a:List kK):List kK→Bool→kK→Option (Bool×kK)
 | [],d,g=>some (d,g)
 | c::h,d,g=>(uL c).bind λi=>(if i then (if ((a.length:Int)==0) then some true else (mT a (wi0 .i64 ((a.length:Int)-1))).bind λs=>(uu s c).bind λk=>some (decide (k < 0))).bind λq=>some q else some false).bind λn=>(if n then (if (!d) then some true else (uu c g).bind λj=>some (decide (j < 0))).bind λp=>some p else some false).bind λo=>(if o then wZ a h true c else wZ a h d g)
def yv (a0:List kK):Nat→(List kK)→Option (List kK)
 | 0,_=>none
 | d+1,a=>(wZ a a0 false (⟨0,(⟨zS,zS⟩:kL),zS,(⟨zS,zS⟩:kL),(⟨zS,zS⟩:kL),zS⟩:kK)).bind λ(g,h)=>(if (!g) then some a else (nF 136 a ([h])).bind λc=>yv a0 d c)
def zK (a0:List kK):Option (List kK) :=
 yv a0 lP ([])
def vL (a0:List Key):List Signed→(List kK)→Option (List kK)
 | [],a=>(zK a).bind λh=>some h
 | i::c,a=>(CG a0 i).bind λg=>(if (g==0) then (nF 136 a ([i.kK])).bind λd=>(vL a0 c d) else vL a0 c a)
def GA (a0:List Key) (a:List Signed):Option (List kK) :=
 vL a0 a ([])
def zq (g:List kK):List kK→Nat→Option Bool
 | [],_=>some true
 | d::c,i90=>(mT g (i90:Int)).bind λa=>(if (!(nE d a)) then some false else zq g c (i90+1))
def BC (a0 a:List kK):Option Bool :=
 (if ((a0.length:Int) != (a.length:Int)) then some false else zq a a0 0)
def BT (d:kK):List kK→Option Bool
 | []=>some false
 | c::a=>(if (nE c d) then some true else BT d a)
def E4 (a0:List kK) (a:kK):Option Bool :=
 BT a a0
def xd (a:List ByteArray):List ByteArray→ByteArray→Option ByteArray
 | [],d=>some d
 | c::g,d=>(tQ c).bind λi=>(if i then (if ((a.length:Int)==0) then some true else (mT a (wi0 .i64 ((a.length:Int)-1))).bind λh=>some (!(uJ c h||mx c h))).bind λo=>some o else some false).bind λj=>(if j then (if (mx d zS) then some true else some (uJ c d)).bind λn=>some n else some false).bind λk=>(if k then xd a g c else xd a g d)
def yx (a0:List ByteArray):Nat→(List ByteArray)→Option (List ByteArray)
 | 0,_=>none
 | g+1,a=>(xd a a0 zS).bind λc=>(if (mx c zS) then some a else (nF 16 a ([c])).bind λd=>yx a0 g d)
def EU (a0:List ByteArray):Option (List ByteArray) :=
 yx a0 lP ([])
def xh :List kK→(List ByteArray)→Option (List ByteArray)
 | [],c=>(EU c).bind λg=>some g
 | a::h,c=>(nF 16 c ([a.lV,a.Head.kO,a.B.kO,a.C.kO])).bind λd=>xh h d
def CF (a0:List kK):Option (List ByteArray) :=
 xh a0 ([])
def AP (g:kL) (a2:ByteArray):List lx→Option Bool
 | []=>some false
 | c::d=>(if (lJ c.kL g) then some (mx c.lV a2) else some false).bind λa=>(if a then some true else AP g a2 d)
def zn (a0:List lx) (a:kL) (a2:ByteArray):Option Bool :=
 AP a a2 a0
def zj (a0:List lx) (i:kK) (a3:ByteArray):List ByteArray→Option Bool
 | []=>some false
 | a::c=>(zn a0 i.B a).bind λd=>(if d then (zn a0 (⟨a,i.lW⟩:kL) a3).bind λg=>some g else some false).bind λh=>(if h then some true else zj a0 i a3 c)
def D6 (a0:List lx) (a:kK) (a2:List ByteArray) (a3:ByteArray):Option Bool :=
 (if (a.Kind==1) then some (mx a.lV a3) else if (a.Kind==2) then (zn a0 a.B a3).bind λg=>some g else if (a.Kind==4) then (zn a0 a.B a3).bind λh=>((if h then (zn a0 a.C a3).bind λc=>some c else some false).bind λd=>some d) else zj a0 a a3 a2)
def yy (a0 a:lx):Option Bool :=
 ((yD a0.kL a.kL).bind λg=>(if g then some true else (if (lJ a0.kL a.kL) then some (uJ a0.lV a.lV) else some false).bind λd=>some d).bind λc=>some c)
def sS (c a0:List lx):List lx→Nat→Int→Option Int
 | [],_,a=>some a
 | h::g,d,a=>(if ((c.length:Int)==0) then some true else (mT c (wi0 .i64 ((c.length:Int)-1))).bind λq=>(yy q h).bind λj=>some j).bind λk=>(if k then (if (decide (a < 0)) then some true else (mT a0 a).bind λp=>(yy h p).bind λi=>some i).bind λo=>some o else some false).bind λn=>(if n then sS c a0 g (d+1) (d:Int) else sS c a0 g (d+1) a)
def sQ (a0:List lx):List lx→(List lx)→Option (List lx)
 | [],a=>some a
 | i::d,a=>(sS a a0 a0 0 (-1)).bind λc=>(if (decide (c≥0)) then (mT a0 c).bind λh=>((nF 48 a ([h])).bind λg=>sQ a0 d g) else sQ a0 d a)
def EH (a0:List lx):Option (List lx) :=
 sQ a0 a0 ([])
def zf (c:kK) (o:List ByteArray):List ByteArray→(List lx)→Bool→Option ((List lx)×Bool)
 | [],a,g=>some (a,g)
 | d::h,a,g=>(zn a c.Head d).bind λj=>(if (!j) then (D6 a c o d).bind λk=>some k else some false).bind λn=>(if n then (nF 48 a ([(⟨c.Head,d⟩:lx)])).bind λi=>(zf c o h i true) else zf c o h a g)
def A6 (j:List ByteArray):List kK→(List lx)→Bool→Option ((List lx)×Bool)
 | [],a,c=>some (a,c)
 | h::d,a,c=>(zf h j j a c).bind λ(g,i)=>A6 j d g i
def zb (i:List ByteArray) (j:List kK):Nat→(List lx)→Option (List lx)
 | 0,_=>none
 | c+1,h=>(A6 i j h false).bind λ(a,g)=>(if (!g) then (EH a).bind λd=>some d else zb i j c a)
def BQ (a0:List kK):Option (List lx) :=
 ((zK a0).bind λc=>(CF c).bind λa=>zb a c lP ([]))
def Q0 (a0:List kK) (c:ByteArray):Option ((List (kL×(List (ByteArray×Bool))))×(List kK)×(List (kL×(List kK)))×(List (ByteArray×(List kK)))×(List lx)×Int×ByteArray) :=
 ((AB a0).bind λa=>some (a.1,a.2.1,a.2.2.1,a.2.2.2.1,a.2.2.2.2.1,a.2.2.2.2.2,c))
def pw (f1:nM→Option Bool):List nM→Nat→Option Int
 | [],_=>some (-1)
 | d::a,i47=>(f1 d).bind λc=>(if c then some (i47:Int) else pw f1 a (i47+1))
def xZ (a0:List nM) (f1:nM→Option Bool):Option Int :=
 pw f1 a0 0
def D5 (a0:nM) (a:kK):Option Bool :=
 some (nE a0.Signed.kK a)
def DS (a0:mW) (d:kK):Option (nM×Bool) :=
 ((xZ a0.nK λ(x:nM)=>D5 x d).bind λa=>(if (decide (a < 0)) then some ((⟨(⟨(⟨0,(⟨zS,zS⟩:kL),zS,(⟨zS,zS⟩:kL),(⟨zS,zS⟩:kL),zS⟩:kK),[]⟩:Signed),(⟨0,0,(⟨zS,zS⟩:kL),[]⟩:Formula)⟩:nM),false) else (mT a0.nK a).bind λc=>some (c,true)))
def zp (a0:List sT):Option (List sT) :=
 ((nF 128 ([]) a0).bind λa=>some a)
def rE (f1:sT→Option Bool):List sT→Nat→Option Int
 | [],_=>some (-1)
 | d::a,i47=>(f1 d).bind λc=>(if c then some (i47:Int) else rE f1 a (i47+1))
def zJ (a0:List sT) (f1:sT→Option Bool):Option Int :=
 rE f1 a0 0
def pW (f1:sT→Option Bool):Nat→(List sT)→Int→Int→Option (List sT)
 | 0,_,_,_=>none
 | i+1,c,a,d=>(if (decide (d < (c.length:Int))) then (((mT c d).bind λg=>(f1 g).bind λj=>(if (!j) then (mT c a).bind λn=>some ((c.set (Int.toNat a) g),wi0 .i64 (a+1)) else some (c,a))):Option ((List sT)×Int)).bind λ(h,k)=>(pW f1 i h k (wi0 .i64 (d+1))) else (rr (decide (0≤a)&&decide (a≤(c.length:Int)))).bind λ_=>(rr (decide (0≤a)&&decide (a≤((rf c (Int.toNat a) (⟨(⟨zS,zS⟩:kL),(⟨0,0,(⟨zS,zS⟩:kL),[]⟩:Formula),[]⟩:sT)).length:Int)))).bind λ_=>some ((rf c (Int.toNat a) (⟨(⟨zS,zS⟩:kL),(⟨0,0,(⟨zS,zS⟩:kL),[]⟩:Formula),[]⟩:sT)).take (Int.toNat a)))
def wG (a0:List sT) (f1:sT→Option Bool):Option (List sT) :=
 ((zJ a0 f1).bind λa=>(if (a==(-1)) then some a0 else pW f1 lP a0 a (wi0 .i64 (a+1))))
def yL (a0:sT) (a:kK):Option Bool :=
 ((AM a0.pf a).bind λc=>some (!c))
def CQ (a0:mW) (c:kK):Option (List sT) :=
 ((zp a0.pv).bind λd=>(wG d λ(x:sT)=>yL x c).bind λa=>some a)
def tM (h:Int) (rec:Formula→Int→Option (Int×Int)):List Formula→Int→Int→Option (Int×Int)
 | [],a,d=>some (a,d)
 | i::g,a,d=>(if (decide (a > h)) then some (a,d) else (rec i (wi0 .i64 (h-a))).bind λc=>tM h rec g (wi0 .i64 (a+c.1)) (if c.2 > d then c.2 else d))
def AA (rec:Formula→Int→Option (Int×Int)) (a0:Formula) (d:Int):Option (Int×Int) :=
 ((tM d rec a0.Kids 1 0).bind λ(a,c)=>some (a,wi0 .i64 (c+1)))
def sd:Nat→Formula→Int→Option (Int×Int)
 | 0=>λ_ _=>none
 | n+1=>AA (sd n)
def BY (a0:Formula):Option (Int×Int) :=
 ((sd lP a0 4096).bind λa=>(if (decide (a.1 > 4096)) then some (0,0) else some (a.1,a.2)))
def BW (a0:Formula):Option Bool :=
 (if (a0.Op==1) then (tK a0.kL).bind λg=>((if g then some ((a0.Kids.length:Int)==0) else some false).bind λh=>(if h then some (a0.K==0) else some false).bind λi=>some i) else (if (a0.Op==2) then some (a0.Op==2) else some (a0.Op==3)).bind λj=>(if j then (if (lJ a0.kL (⟨zS,zS⟩:kL)) then some (a0.K==0) else some false).bind λk=>some k else (if (a0.Op==4) then some (lJ a0.kL (⟨zS,zS⟩:kL)) else some false).bind λn=>(if n then some (decide (a0.K≥0)) else some false).bind λa=>(if a then some (decide (a0.K≤(a0.Kids.length:Int))) else some false).bind λc=>(if c then some (decide ((a0.Kids.length:Int)≥1)) else some false).bind λd=>some d))
def px (f1:Formula→Option Bool):List Formula→Nat→Option Int
 | [],_=>some (-1)
 | d::a,i41=>(f1 d).bind λc=>(if c then some (i41:Int) else px f1 a (i41+1))
def xU (a0:List Formula) (f1:Formula→Option Bool):Option Int :=
 px f1 a0 0
def rI (a0:List Formula) (f1:Formula→Option Bool):Option Bool :=
 ((xU a0 f1).bind λa=>some (decide (a≥0)))
def By (rec:Formula→Option Bool) (a0:Formula):Option Bool :=
 ((rec a0).bind λa=>some (!a))
def AF (rec:Formula→Option Bool) (a0:Formula):Option Bool :=
 ((BW a0).bind λd=>(if d then some (decide ((a0.Kids.length:Int)≤8)) else some false).bind λg=>(if g then (rI a0.Kids λ(x:Formula)=>By rec x).bind λa=>some (!a) else some false).bind λc=>some c)
def wi:Nat→Formula→Option Bool
 | 0=>λ_=>none
 | n+1=>AF (wi n)
def wh (a0:Formula):Option Bool :=
 ((BY a0).bind λc=>(if (decide (c.1≥1)) then some (decide (c.1≤64)) else some false).bind λh=>(if h then some (decide (c.2≤6)) else some false).bind λd=>(if d then (wi lP a0).bind λa=>some a else some false).bind λg=>some g)
def yt (a0:Formula) (a:Int):Option Bool :=
 ((if (a0.Op==a) then some ((a0.Kids.length:Int)==0) else some false).bind λx6=>some x6)
def D0 :Option Formula :=
 some (⟨2,0,(⟨zS,zS⟩:kL),[]⟩:Formula)
def EE :Option Formula :=
 some (⟨3,0,(⟨zS,zS⟩:kL),[]⟩:Formula)
def uZ (a0:Int):List Formula→(List Formula)→Option (List Formula)
 | [],a=>some a
 | c::d,a=>(if (c.Op==a0) then (nF 72 a c.Kids).bind λg=>(uZ a0 d g) else (nF 72 a ([c])).bind λh=>uZ a0 d h)
def FN (a0:Int) (a:List Formula):Option (List Formula) :=
 uZ a0 a ([])
def yg (a0:Formula) (a:Int):Option Bool :=
 ((yt a0 a).bind λc=>some c)
def xm (a0:List Formula):Option (List Formula) :=
 ((nF 72 ([]) a0).bind λa=>some a)
def nx (q:Int) (f3:(Formula×Formula)→Option Int):Nat→(List Formula)→Int→Option (List Formula)
 | 0,_,_=>none
 | h+1,c,a=>(if (decide (a > q)) then (mT c a).bind λk=>((mT c (wi0 .i64 (a-1))).bind λn=>(f3 (k,n)).bind λi=>some (decide (i < 0))) else some false).bind λj=>(if j then (mT c (wi0 .i64 (a-1))).bind λg=>((mT c a).bind λd=>(mT c a).bind λo=>(mT (c.set (Int.toNat a) g) (wi0 .i64 (a-1))).bind λp=>nx q f3 h ((c.set (Int.toNat a) g).set (Int.toNat (wi0 .i64 (a-1))) (⟨d.Op,d.K,d.kL,d.Kids⟩:Formula)) (wi0 .i64 (a-1))) else some c)
def nl (a2 h:Int) (f3:(Formula×Formula)→Option Int):Nat→(List Formula)→Int→Option (List Formula)
 | 0,_,_=>none
 | g+1,c,a=>(if (decide (a < a2)) then (nx h f3 lP c a).bind λd=>(nl a2 h f3 g d (wi0 .i64 (a+1))) else some c)
def oX (a0:List Formula) (a a2:Int) (f3:(Formula×Formula)→Option Int):Option (List Formula) :=
 nl a2 a f3 lP a0 (wi0 .i64 (a+1))
def nP (a3 a2 h:Int):Nat→(List Formula)→Int→Option (List Formula)
 | 0,_,_=>none
 | i+1,c,a=>(if (decide (a < a3)) then (mT c (wi0 .i64 (a2+a))).bind λg=>((mT c (wi0 .i64 (h+a))).bind λd=>(mT c (wi0 .i64 (h+a))).bind λj=>(mT (c.set (Int.toNat (wi0 .i64 (h+a))) g) (wi0 .i64 (a2+a))).bind λk=>nP a3 a2 h i ((c.set (Int.toNat (wi0 .i64 (h+a))) g).set (Int.toNat (wi0 .i64 (a2+a))) (⟨d.Op,d.K,d.kL,d.Kids⟩:Formula)) (wi0 .i64 (a+1))) else some c)
def oS (a0:List Formula) (a a2 a3:Int) (f4:(Formula×Formula)→Option Int):Option (List Formula) :=
 nP a3 a2 a lP a0 0
def ot (a2:Int) (f4:(Formula×Formula)→Option Int):Nat→(List Formula)→Int→Int→Option (List Formula)
 | 0,_,_,_=>none
 | n185+1,d,a,c=>(if (a != c) then if (decide (a > c)) then (oS d (wi0 .i64 (a2-a)) a2 c f4).bind λg=>(ot a2 f4 n185 g (wi0 .i64 (a-c)) c) else ((oS d (wi0 .i64 (a2-a)) (wi0 .i64 ((wi0 .i64 (a2+c))-a)) a f4).bind λh=>ot a2 f4 n185 h a (wi0 .i64 (c-a))) else (oS d (wi0 .i64 (a2-a)) a2 a f4).bind λi=>some i)
def oO (a0:List Formula) (a a2 a3:Int) (f4:(Formula×Formula)→Option Int):Option (List Formula) :=
 ot a2 f4 lP a0 (wi0 .i64 (a2-a)) (wi0 .i64 (a3-a2))
def nX (h:Int):Nat→(List Formula)→Int→Option (List Formula)
 | 0,_,_=>none
 | i+1,c,a=>(if (decide (a < (wi0 .i64 (h-1)))) then (mT c (wi0 .i64 (a+1))).bind λg=>((mT c a).bind λd=>(mT c a).bind λj=>(mT (c.set (Int.toNat a) g) (wi0 .i64 (a+1))).bind λk=>nX h i ((c.set (Int.toNat a) g).set (Int.toNat (wi0 .i64 (a+1))) (⟨d.Op,d.K,d.kL,d.Kids⟩:Formula)) (wi0 .i64 (a+1))) else some c)
def mZ (a0:List Formula) (j:Int) (f4:(Formula×Formula)→Option Int):Nat→Int→Int→Option (List Formula)
 | 0,_,_=>none
 | n325+1,a,c=>(if (decide (a < c)) then (mT a0 (wi0 .i64 (Int.fdiv (IntKind.u64.wrap (wi0 .i64 (a+c))) (2 ^ min (Int.toNat 1) (IntKind.bits .u64))))).bind λh=>((mT a0 j).bind λi=>(f4 (h,i)).bind λg=>(if (decide (g < 0)) then mZ a0 j f4 n325 (wi0 .i64 ((wi0 .i64 (Int.fdiv (IntKind.u64.wrap (wi0 .i64 (a+c))) (2 ^ min (Int.toNat 1) (IntKind.bits .u64))))+1)) c else mZ a0 j f4 n325 a (wi0 .i64 (Int.fdiv (IntKind.u64.wrap (wi0 .i64 (a+c))) (2 ^ min (Int.toNat 1) (IntKind.bits .u64)))))) else (nX a lP a0 j).bind λd=>some d)
def nW (g:Int):Nat→(List Formula)→Int→Option (List Formula)
 | 0,_,_=>none
 | i+1,c,a=>(if (decide (a > g)) then (mT c (wi0 .i64 (a-1))).bind λh=>((mT c a).bind λd=>(mT c a).bind λj=>(mT (c.set (Int.toNat a) h) (wi0 .i64 (a-1))).bind λk=>nW g i ((c.set (Int.toNat a) h).set (Int.toNat (wi0 .i64 (a-1))) (⟨d.Op,d.K,d.kL,d.Kids⟩:Formula)) (wi0 .i64 (a-1))) else some c)
def na (a0:List Formula) (a2:Int) (f4:(Formula×Formula)→Option Int):Nat→Int→Int→Option (List Formula)
 | 0,_,_=>none
 | d+1,a,c=>(if (decide (a < c)) then (mT a0 a2).bind λi=>((mT a0 (wi0 .i64 (Int.fdiv (IntKind.u64.wrap (wi0 .i64 (a+c))) (2 ^ min (Int.toNat 1) (IntKind.bits .u64))))).bind λj=>(f4 (i,j)).bind λh=>(if (!(decide (h < 0))) then na a0 a2 f4 d (wi0 .i64 ((wi0 .i64 (Int.fdiv (IntKind.u64.wrap (wi0 .i64 (a+c))) (2 ^ min (Int.toNat 1) (IntKind.bits .u64))))+1)) c else na a0 a2 f4 d a (wi0 .i64 (Int.fdiv (IntKind.u64.wrap (wi0 .i64 (a+c))) (2 ^ min (Int.toNat 1) (IntKind.bits .u64)))))) else (nW a lP a0 a2).bind λg=>some g)
def mI (a0:List Formula) (d a3 a2:Int) (f4:(Formula×Formula)→Option Int) (rec:(List Formula)→Int→Int→Int→((Formula×Formula)→Option Int)→Option (List Formula)):Nat→Int→Int→Option (List Formula)
 | 0,_,_=>none
 | i+1,a,c=>(if (decide (a < c)) then (mT a0 (wi0 .i64 ((wi0 .i64 ((wi0 .i64 ((wi0 .i64 (Int.fdiv (IntKind.u64.wrap (wi0 .i64 (d+a3))) (2 ^ min (Int.toNat 1) (IntKind.bits .u64))))+a2))-1))-(wi0 .i64 (Int.fdiv (IntKind.u64.wrap (wi0 .i64 (a+c))) (2 ^ min (Int.toNat 1) (IntKind.bits .u64))))))).bind λp=>((mT a0 (wi0 .i64 (Int.fdiv (IntKind.u64.wrap (wi0 .i64 (a+c))) (2 ^ min (Int.toNat 1) (IntKind.bits .u64))))).bind λq=>(f4 (p,q)).bind λj=>(if (!(decide (j < 0))) then mI a0 d a3 a2 f4 rec i (wi0 .i64 ((wi0 .i64 (Int.fdiv (IntKind.u64.wrap (wi0 .i64 (a+c))) (2 ^ min (Int.toNat 1) (IntKind.bits .u64))))+1)) c else mI a0 d a3 a2 f4 rec i a (wi0 .i64 (Int.fdiv (IntKind.u64.wrap (wi0 .i64 (a+c))) (2 ^ min (Int.toNat 1) (IntKind.bits .u64)))))) else (((if (decide (a < a2)) then some (decide (a2 < (wi0 .i64 ((wi0 .i64 ((wi0 .i64 (Int.fdiv (IntKind.u64.wrap (wi0 .i64 (d+a3))) (2 ^ min (Int.toNat 1) (IntKind.bits .u64))))+a2))-a)))) else some false).bind λu=>(if u then (oO a0 a a2 (wi0 .i64 ((wi0 .i64 ((wi0 .i64 (Int.fdiv (IntKind.u64.wrap (wi0 .i64 (d+a3))) (2 ^ min (Int.toNat 1) (IntKind.bits .u64))))+a2))-a)) f4).bind λo=>some o else some a0)):Option (List Formula)).bind λg=>(((if (decide (d < a)) then some (decide (a < (wi0 .i64 (Int.fdiv (IntKind.u64.wrap (wi0 .i64 (d+a3))) (2 ^ min (Int.toNat 1) (IntKind.bits .u64)))))) else some false).bind λt=>(if t then (rec g d a (wi0 .i64 (Int.fdiv (IntKind.u64.wrap (wi0 .i64 (d+a3))) (2 ^ min (Int.toNat 1) (IntKind.bits .u64)))) f4).bind λn=>some n else some g)):Option (List Formula)).bind λh=>(if (decide ((wi0 .i64 (Int.fdiv (IntKind.u64.wrap (wi0 .i64 (d+a3))) (2 ^ min (Int.toNat 1) (IntKind.bits .u64)))) < (wi0 .i64 ((wi0 .i64 ((wi0 .i64 (Int.fdiv (IntKind.u64.wrap (wi0 .i64 (d+a3))) (2 ^ min (Int.toNat 1) (IntKind.bits .u64))))+a2))-a)))) then some (decide ((wi0 .i64 ((wi0 .i64 ((wi0 .i64 (Int.fdiv (IntKind.u64.wrap (wi0 .i64 (d+a3))) (2 ^ min (Int.toNat 1) (IntKind.bits .u64))))+a2))-a)) < a3)) else some false).bind λs=>(if s then (rec h (wi0 .i64 (Int.fdiv (IntKind.u64.wrap (wi0 .i64 (d+a3))) (2 ^ min (Int.toNat 1) (IntKind.bits .u64)))) (wi0 .i64 ((wi0 .i64 ((wi0 .i64 (Int.fdiv (IntKind.u64.wrap (wi0 .i64 (d+a3))) (2 ^ min (Int.toNat 1) (IntKind.bits .u64))))+a2))-a)) a3 f4).bind λk=>some k else some h))
def tf (rec:(List Formula)→Int→Int→Int→((Formula×Formula)→Option Int)→Option (List Formula)) (a0:List Formula) (a a2 a3:Int) (f4:(Formula×Formula)→Option Int):Option (List Formula) :=
 (if ((wi0 .i64 (a2-a))==1) then mZ a0 a f4 lP a2 a3 else if ((wi0 .i64 (a3-a2))==1) then na a0 a2 f4 lP a a2 else ((if (decide (a2 > (wi0 .i64 (Int.fdiv (IntKind.u64.wrap (wi0 .i64 (a+a3))) (2 ^ min (Int.toNat 1) (IntKind.bits .u64)))))) then some ((wi0 .i64 ((wi0 .i64 ((wi0 .i64 (Int.fdiv (IntKind.u64.wrap (wi0 .i64 (a+a3))) (2 ^ min (Int.toNat 1) (IntKind.bits .u64))))+a2))-a3)),wi0 .i64 (Int.fdiv (IntKind.u64.wrap (wi0 .i64 (a+a3))) (2 ^ min (Int.toNat 1) (IntKind.bits .u64)))) else some (a,a2)):Option (Int×Int)).bind λ(c,d)=>mI a0 a a3 a2 f4 rec lP c d)
def nn:Nat→(List Formula)→Int→Int→Int→((Formula×Formula)→Option Int)→Option (List Formula)
 | 0=>λ_ _ _ _ _=>none
 | n+1=>tf (nn n)
def oq (j c:Int) (f2:(Formula×Formula)→Option Int):Nat→(List Formula)→Int→Int→Option ((List Formula)×Int)
 | 0,_,_,_=>none
 | h+1,g,d,a=>(if (decide (a≤j)) then (nn lP g d (wi0 .i64 (d+c)) a f2).bind λi=>(oq j c f2 h i a (wi0 .i64 (a+(wi0 .i64 (2*c))))) else some (g,d))
def nG (k:Int) (f2:(Formula×Formula)→Option Int):Nat→(List Formula)→Int→Option (List Formula)
 | 0,_,_=>none
 | i+1,d,a=>(if (decide (a < k)) then (oq k a f2 lP d 0 (wi0 .i64 (2*a))).bind λ(g,c)=>(((if (decide ((wi0 .i64 (c+a)) < k)) then (nn lP g c (wi0 .i64 (c+a)) k f2).bind λj=>some j else some g):Option (List Formula)).bind λh=>nG k f2 i h (wi0 .i64 (a*2))) else some d)
def nH (j:Int) (f2:(Formula×Formula)→Option Int):Nat→(List Formula)→Int→Int→Option (List Formula)
 | 0,_,_,_=>none
 | n123+1,d,i,a=>(if (decide (a≤j)) then (oX d i a f2).bind λg=>(nH j f2 n123 g a (wi0 .i64 (a+20))) else (oX d i j f2).bind λh=>(nG j f2 lP h 20).bind λc=>some c)
def vZ (a0:List Formula) (a:Int) (f2:(Formula×Formula)→Option Int):Option (List Formula) :=
 nH a f2 lP a0 0 20
def sL (a0:List Formula) (f1:(Formula×Formula)→Option Int):Option (List Formula) :=
 ((vZ a0 (a0.length:Int) f1).bind λa=>some a)
def vd (rec:(List Int)→Formula→Option (List Int)):List Formula→(List Int)→Option (List Int)
 | [],a=>some a
 | g::c,a=>(rec a g).bind λd=>vd rec c d
def AL (rec:(List Int)→Formula→Option (List Int)) (c:List Int) (a:Formula):Option (List Int) :=
 ((nD c a.Op).bind λi=>(if (a.Op==1) then (uC i.2 a.kL).bind λh=>some h.2 else ((if (a.Op==4) then (nD i.2 a.K).bind λd=>some d.2 else some i.2):Option (List Int)).bind λg=>(nD g (a.Kids.length:Int)).bind λj=>vd rec a.Kids j.2))
def ur:Nat→(List Int)→Formula→Option (List Int)
 | 0=>λ_ _=>none
 | n+1=>AL (ur n)
def Bq (a:List Int) (c:Formula):Option (Bool×(List Int)) :=
 ((wh c).bind λd=>(if (!d) then some (false,a) else (ur lP a c).bind λg=>some (true,g)))
def ye (a0:Formula):Option (List Int) :=
 ((Bq ([]) a0).bind λc=>(rC c.2).bind λa=>some a)
def zP (a0 g:Formula):Option Int :=
 ((ye a0).bind λa=>(ye g).bind λc=>(Bt a c).bind λd=>some d)
def Aj (a0:List Formula):Option (List Formula) :=
 ((xm a0).bind λc=>(sL c λ(x:(Formula×Formula))=>zP x.1 x.2).bind λa=>some a)
def oJ (c:Int) (f1:(Formula×Formula)→Option Bool):Nat→(List Formula)→Int→Int→Option ((List Formula)×Int)
 | 0,_,_,_=>none
 | i+1,a,d,g=>(if (decide (g < ((a.length-(Int.toNat c):Nat):Int))) then (((mT (a.drop (Int.toNat c)) g).bind λn=>(mT (a.drop (Int.toNat c)) (wi0 .i64 (g-1))).bind λo=>(f1 (n,o)).bind λj=>(if (!j) then (mT (a.drop (Int.toNat c)) g).bind λp=>((mT a d).bind λq=>some ((a.set (Int.toNat d) p),wi0 .i64 (d+1))) else some (a,d))):Option ((List Formula)×Int)).bind λ(h,k)=>(oJ c f1 i h k (wi0 .i64 (g+1))) else some (a,d))
def oH (a0:List Formula) (f1:(Formula×Formula)→Option Bool):Nat→Int→Option (List Formula)
 | 0,_=>none
 | g+1,a=>(if (decide (a < (a0.length:Int))) then (mT a0 a).bind λi=>((mT a0 (wi0 .i64 (a-1))).bind λj=>(f1 (i,j)).bind λh=>(if h then (rr (decide (0≤a)&&decide (a≤(a0.length:Int)))).bind λ_=>((oJ a f1 lP a0 a 1).bind λ(d,c)=>(rr (decide (0≤c)&&decide (c≤(d.length:Int)))).bind λ_=>(rr (decide (0≤c)&&decide (c≤((rf d (Int.toNat c) (⟨0,0,(⟨zS,zS⟩:kL),[]⟩:Formula)).length:Int)))).bind λ_=>some ((rf d (Int.toNat c) (⟨0,0,(⟨zS,zS⟩:kL),[]⟩:Formula)).take (Int.toNat c))) else oH a0 f1 g (wi0 .i64 (a+1)))) else some a0)
def tZ (a0:List Formula) (f1:(Formula×Formula)→Option Bool):Option (List Formula) :=
 (if (decide ((a0.length:Int) < 2)) then some a0 else oH a0 f1 lP 1)
def mY (h:List Formula) (f2:(Formula×Formula)→Option Bool):List Formula→Nat→Option Bool
 | [],_=>some true
 | g::d,i95=>(mT h (i95:Int)).bind λc=>(f2 (g,c)).bind λa=>(if (!a) then some false else mY h f2 d (i95+1))
def oI (a0 a:List Formula) (f2:(Formula×Formula)→Option Bool):Option Bool :=
 (if ((a0.length:Int) != (a.length:Int)) then some false else mY a f2 a0 0)
def Be (rec:Formula→Formula→Option Bool) (a0 a:Formula):Option Bool :=
 ((if (a0.Op==a.Op) then some (a0.K==a.K) else some false).bind λd=>(if d then some (lJ a0.kL a.kL) else some false).bind λg=>(if g then (oI a0.Kids a.Kids λ(x:(Formula×Formula))=>rec x.1 x.2).bind λc=>some c else some false).bind λh=>some h)
def sN:Nat→Formula→Formula→Option Bool
 | 0=>λ_ _=>none
 | n+1=>Be (sN n)
def rX (a0:mE) (d:Int) (a2:List Formula):Option (Formula×mE) :=
 ((FN d a2).bind λj=>(rI j λ(x:Formula)=>yg x (wi0 .i64 (5-d))).bind λg=>(if g then some ((⟨wi0 .i64 (5-d),0,(⟨zS,zS⟩:kL),[]⟩:Formula),a0) else (Aj j).bind λh=>(tZ h λ(x:(Formula×Formula))=>sN lP x.1 x.2).bind λa=>((if (decide ((a.length:Int) > 64)) then some (⟨12⟩:mE) else some a0):Option mE).bind λc=>(if ((a.length:Int)==1) then (mT a 0).bind λi=>some (i,c) else some ((⟨d,0,(⟨zS,zS⟩:kL),a⟩:Formula),c))))
def oD (a0:mE):List Formula→Int→(List Formula)→Option (Formula×mE)
 | [],c,a=>(if (decide (c≤0)) then D0.bind λo=>some (o,a0) else if (decide (c > (a.length:Int))) then EE.bind λp=>some (p,a0) else if (c==(a.length:Int)) then (rX a0 2 a).bind λh=>some (h.1,h.2) else if (c==1) then (rX a0 3 a).bind λi=>some (i.1,i.2) else (Aj a).bind λq=>some ((⟨4,c,(⟨zS,zS⟩:kL),q⟩:Formula),a0))
 | g::d,c,a=>(yt g 2).bind λk=>(if k then oD a0 d (wi0 .i64 (c-1)) a else (yt g 3).bind λn=>(if (!n) then (nF 72 a ([g])).bind λj=>(oD a0 d c j) else oD a0 d c a))
def vm (a0:mE) (a:Int) (a2:List Formula):Option (Formula×mE) :=
 oD a0 a2 a ([])
def pX (rec:mE→Formula→Option (Formula×mE)) (n:Formula):List Formula→(List Formula)→mE→Option (Formula×mE)
 | [],a,c=>(if (n.Op==4) then (vm c n.K a).bind λg=>some (g.1,g.2) else (rX c n.Op a).bind λh=>some (h.1,h.2))
 | k::i,a,c=>(rec c k).bind λd=>(nF 72 a ([d.1])).bind λj=>pX rec n i j d.2
def xg (rec:mE→Formula→Option (Formula×mE)) (a0:mE) (a:Formula):Option (Formula×mE) :=
 (if (a.Op==1) then some (a,a0) else pX rec a a.Kids ([]) a0)
def pp:Nat→mE→Formula→Option (Formula×mE)
 | 0=>λ_ _=>none
 | n+1=>xg (pp n)
def CB (a0:Formula):Option (Formula×Int) :=
 ((wh a0).bind λg=>(if (!g) then some ((⟨0,0,(⟨zS,zS⟩:kL),[]⟩:Formula),11) else (pp lP (⟨0⟩:mE) a0).bind λa=>(if (a.2.e != 0) then some true else (wh a.1).bind λc=>some (!c)).bind λd=>(if d then some ((⟨0,0,(⟨zS,zS⟩:kL),[]⟩:Formula),12) else some (a.1,0))))
def CL (a0 c:Formula):Option (Formula×Int) :=
 ((CB (⟨2,0,(⟨zS,zS⟩:kL),[a0,c]⟩:Formula)).bind λa=>some (a.1,a.2))
def yr :List Formula→Int→Int→Int→kL→(List Formula)→Option (Int×Int×Int×kL×(List Formula))
 | [],d,g,h,i,c=>some (d,g,h,i,c)
 | k::j,d,g,h,i,c=>(if (d != 0) then some (d,g,h,i,c) else (CL (⟨g,h,i,c⟩:Formula) k).bind λa=>yr j a.2 a.1.Op a.1.K a.1.kL a.1.Kids)
def Bb (a0:List Formula):Option (Formula×Int) :=
 ((mT a0 0).bind λx6=>(CB x6).bind λa=>(rr (decide (0≤1)&&decide (1≤(a0.length:Int)))).bind λ_=>(yr (a0.drop (Int.toNat 1)) a.2 a.1.Op a.1.K a.1.kL a.1.Kids).bind λ(c,g,h,i,d)=>(if (c != 0) then some ((⟨0,0,(⟨zS,zS⟩:kL),[]⟩:Formula),c) else some ((⟨g,h,i,d⟩:Formula),0)))
def za :List sT→(List Formula)→Option (Formula×Int)
 | [],a=>(Bb a).bind λc=>some (c.1,c.2)
 | h::d,a=>(nF 72 a ([h.la])).bind λg=>za d g
def Eh (a0:mW) (d:kK):Option (Formula×Int) :=
 ((DS a0 d).bind λa=>(if (!a.2) then some ((⟨0,0,(⟨zS,zS⟩:kL),[]⟩:Formula),42) else (CQ a0 d).bind λc=>za c ([a.1.la])))
def tL (rec:Formula→(kL→Option Bool)→Option Bool) (f1:kL→Option Bool) (a0:Formula):List Formula→Int→Option Bool
 | [],a=>(if (a0.Op==2) then some (a==(a0.Kids.length:Int)) else if (a0.Op==3) then some (decide (a > 0)) else some (decide (a≥a0.K)))
 | g::c,a=>(rec g f1).bind λd=>(if d then tL rec f1 a0 c (wi0 .i64 (a+1)) else tL rec f1 a0 c a)
def AE (rec:Formula→(kL→Option Bool)→Option Bool) (a0:Formula) (f1:kL→Option Bool):Option Bool :=
 (if (a0.Op==1) then (f1 a0.kL).bind λa=>some a else tL rec f1 a0 a0.Kids 0)
def uv:Nat→Formula→(kL→Option Bool)→Option Bool
 | 0=>λ_ _=>none
 | n+1=>AE (uv n)
def yu (a0:Formula) (f1:kL→Option Bool):Option Bool :=
 ((wh a0).bind λd=>(if d then (uv lP a0 f1).bind λa=>some a else some false).bind λc=>some c)
def Nv (a0:kL) (h:List (kL×(List (ByteArray×Bool)))) (a:List kK) (g:List (kL×(List kK))) (c:List (ByteArray×(List kK))) (d:List lx) (i:Int) (c1:ByteArray):Option Bool :=
 ((tF h a g c d i a0 c1).bind λj=>some j)
def D3 (a0:mW) (d:((List (kL×(List (ByteArray×Bool))))×(List kK)×(List (kL×(List kK)))×(List (ByteArray×(List kK)))×(List lx)×Int×ByteArray)):List nM→(List kK)→Option (List kK)
 | [],a=>(zm a).bind λj=>some j
 | g::c,a=>(Eh a0 g.Signed.kK).bind λr417=>(if (r417.2==0) then (yu r417.1 λ(x:kL)=>Nv x d.1 d.2.1 d.2.2.1 d.2.2.2.1 d.2.2.2.2.1 d.2.2.2.2.2.1 d.2.2.2.2.2.2).bind λi=>some i else some false).bind λk=>(if k then (nF 136 a ([g.Signed.kK])).bind λh=>(D3 a0 d c h) else D3 a0 d c a)
def JQ (a0:mW) (a:List kK) (a2:ByteArray):Option (List kK) :=
 ((Q0 a a2).bind λc=>D3 a0 c a0.nK ([]))
def H2 (a0 k:mW):Nat→(List kK)→(List kK)→Int→Option ((List kK)×(List kK)×Int)
 | 0,_,_,_=>none
 | i+1,a,c,h=>(JQ a0 c k.Name).bind λd=>(JQ k a a0.Name).bind λg=>(if ((d.length:Int)==(a.length:Int)) then some ((g.length:Int)==(c.length:Int)) else some false).bind λj=>(if j then some (a,c,h) else H2 a0 k i d g (wi0 .i64 (h+1)))
def Sg (a0 a:mW):Option ((List kK)×(List kK)×Int) :=
 H2 a0 a lP ([]) ([]) 0
def yG (rec:(List Formula)→Option Int):List Formula→Int→Option Int
 | [],c=>some c
 | a::g,c=>(rec a.Kids).bind λd=>yG rec g (wi0 .i64 (c+(wi0 .i64 ((wi0 .i64 (1+(wi0 .i64 (Int.tdiv (wi0 .i64 ((a.kL.kO.size:Int)+(a.kL.Word.size:Int))) 16))))+d))))
def Bx (rec:(List Formula)→Option Int) (a0:List Formula):Option Int :=
 yG rec a0 0
def uN:Nat→(List Formula)→Option Int
 | 0=>λ_=>none
 | n+1=>Bx (uN n)
def xc :List sT→Int→Option Int
 | [],c=>some c
 | a::d,c=>(uN lP ([a.la])).bind λg=>(AR a.pf).bind λh=>xc d (wi0 .i64 (c+(wi0 .i64 ((wi0 .i64 ((wi0 .i64 ((a.kL.kO.size:Int)+(a.kL.Word.size:Int)))+(wi0 .i64 (20*g))))+h))))
def wU (a0:mW):List nM→Int→Option Int
 | [],a=>(xc a0.pv a).bind λd=>some d
 | c::g,a=>(((A8 ([]) ([c.Signed])).bind λj=>some (j,[c.la])):Option (Int×(List Formula))).bind λ(k,h)=>(uN lP h).bind λi=>wU a0 g (wi0 .i64 (a+(wi0 .i64 (k+(wi0 .i64 (20*i))))))
def FO (a0:mW):Option Int :=
 wU a0 a0.nK (a0.Name.size:Int)
def uT (h:ByteArray):List lx→(List kL)→Option (List kL)
 | [],a=>some a
 | g::c,a=>(if (mx g.lV h) then (nF 32 a ([g.kL])).bind λd=>(uT h c d) else uT h c a)
def AO (a0:List lx) (a:ByteArray):Option (List kL) :=
 uT a a0 ([])
def xb (rec:Formula→Option Int):List Formula→Int→Option Int
 | [],a=>some a
 | g::d,a=>(rec g).bind λc=>xb rec d (wi0 .i64 (a+c))
def BF (rec:Formula→Option Int) (a0:Formula):Option Int :=
 xb rec a0.Kids 1
def wv:Nat→Formula→Option Int
 | 0=>λ_=>none
 | n+1=>BF (wv n)
def xH (rec:Formula→Option Int):List Formula→Int→Option Int
 | [],a=>some (wi0 .i64 (a+1))
 | g::d,a=>(rec g).bind λc=>xH rec d (if c > a then c else a)
def Ck (rec:Formula→Option Int) (a0:Formula):Option Int :=
 xH rec a0.Kids 0
def xr:Nat→Formula→Option Int
 | 0=>λ_=>none
 | n+1=>Ck (xr n)
def xQ (rec:Formula→Option Bool):List Formula→Option Bool
 | []=>some true
 | d::a=>(rec d).bind λc=>(if (!c) then some false else xQ rec a)
def Cg (rec:Formula→Option Bool) (a0:Formula):Option Bool :=
 (if (a0.Op==1) then (wz a0.kL).bind λp=>((if p then some ((a0.Kids.length:Int)==0) else some false).bind λh=>(if h then some (a0.K==0) else some false).bind λi=>some i) else (if (decide (a0.Op < 1)) then some true else some (decide (a0.Op > 4))).bind λj=>(if j then some true else some (!(lJ a0.kL (⟨zS,zS⟩:kL)))).bind λk=>(if k then some true else some (decide ((a0.Kids.length:Int) > 8))).bind λn=>(if n then some false else (if (decide (a0.Op < 4)) then some (a0.K != 0) else some false).bind λo=>(if o then some true else (if (a0.Op==4) then (if (decide ((a0.Kids.length:Int) < 1)) then some true else some (decide (a0.K < 0))).bind λd=>((if d then some true else some (decide (a0.K > (a0.Kids.length:Int)))).bind λg=>some g) else some false).bind λc=>some c).bind λa=>(if a then some false else xQ rec a0.Kids)))
def xD:Nat→Formula→Option Bool
 | 0=>λ_=>none
 | n+1=>Cg (xD n)
def wx (a0:Formula):Option Bool :=
 ((wv lP a0).bind λh=>(if (decide (h≤64)) then (xr lP a0).bind λc=>some (decide (c≤6)) else some false).bind λd=>(if d then (xD lP a0).bind λa=>some a else some false).bind λg=>some g)
def Ap (a0:Formula) (a:Int):Option Bool :=
 ((if (a0.Op==a) then some ((a0.Kids.length:Int)==0) else some false).bind λx6=>some x6)
def xf (rec:Formula→Option ByteArray):List Formula→ByteArray→Option ByteArray
 | [],a=>some a
 | h::g,a=>(rec h).bind λc=>(xV a c).bind λd=>xf rec g d
def BE (rec:Formula→Option ByteArray) (a0:Formula):Option ByteArray :=
 ((ra a0.Op).bind λg=>(if (a0.Op==1) then (xY a0.kL).bind λk=>((xV g k).bind λh=>some h) else ((if (a0.Op==4) then (ra a0.K).bind λa=>((xV g a).bind λc=>some c) else some g):Option ByteArray).bind λj=>(ra (a0.Kids.length:Int)).bind λd=>(xV j d).bind λi=>xf rec a0.Kids i))
def tS:Nat→Formula→Option ByteArray
 | 0=>λ_=>none
 | n+1=>BE (tS n)
def Bn (a0 j:Formula):Option Int :=
 ((((wx a0).bind λh=>(if h then (tS lP a0).bind λi=>some i else some zS)):Option ByteArray).bind λa=>(((wx j).bind λd=>(if d then (tS lP j).bind λg=>some g else some zS)):Option ByteArray).bind λc=>(if (uJ a c) then some (-1) else if (!(uJ a c||mx a c)) then some 1 else some 0))
def xN (h:Formula) (rec:Formula→Formula→Option Bool):List Formula→Nat→Option Bool
 | [],_=>some true
 | d::a,i182=>(mT h.Kids (i182:Int)).bind λg=>(rec d g).bind λc=>(if (!c) then some false else xN h rec a (i182+1))
def Ch (rec:Formula→Formula→Option Bool) (a0 a:Formula):Option Bool :=
 ((if (a0.Op != a.Op) then some true else some (a0.K != a.K)).bind λc=>(if c then some true else some (!(lJ a0.kL a.kL))).bind λd=>(if d then some true else some ((a0.Kids.length:Int) != (a.Kids.length:Int))).bind λg=>(if g then some false else xN a rec a0.Kids 0))
def vR:Nat→Formula→Formula→Option Bool
 | 0=>λ_ _=>none
 | n+1=>Ch (vR n)
def ui (c:List Formula) (d:Formula):Nat→Int→Option Int
 | 0,_=>none
 | g+1,a=>(if (decide (a > 0)) then (mT c (wi0 .i64 (a-1))).bind λj=>((Bn j d).bind λh=>some (decide (h > 0))) else some false).bind λi=>(if i then ui c d g (wi0 .i64 (a-1)) else some a)
def oA (q:Bool):List Formula→(List Formula)→Option (List Formula)
 | [],a=>some a
 | d::g,a=>(ui a d lP (a.length:Int)).bind λc=>(if q then some (decide (c > 0)) else some false).bind λn=>(if n then (mT a (wi0 .i64 (c-1))).bind λp=>((vR lP p d).bind λk=>some k) else some false).bind λo=>(if o then oA q g a else (rr (decide (0≤c)&&decide (c≤(a.length:Int)))).bind λ_=>(nF 72 ([]) (a.take (Int.toNat c))).bind λh=>(nF 72 h ([d])).bind λi=>(rr (decide (0≤c)&&decide (c≤(a.length:Int)))).bind λ_=>(nF 72 i (a.drop (Int.toNat c))).bind λj=>oA q g j)
def Aa (a0:List Formula) (a:Bool):Option (List Formula) :=
 oA a a0 ([])
def tw (g:Int) (a0:nc):List Formula→Option ((Formula×nc) ⊕ Unit)
 | []=>some (Sum.inr ())
 | d::a=>(Ap d (wi0 .i64 (5-g))).bind λc=>(if c then some (Sum.inl ((⟨wi0 .i64 (5-g),0,(⟨zS,zS⟩:kL),[]⟩:Formula),a0)) else tw g a0 a)
def pb (i:Int) (a0:nc):List Formula→(List Formula)→Option (Formula×nc)
 | [],a=>((tw i a0 a).bind λs=>match s with | .inl n=>some n | .inr _=>(Aa a true).bind λc=>(if a0.X8 then some true else some (decide ((c.length:Int) > 64))).bind λh=>(if ((c.length:Int)==1) then (mT c 0).bind λp=>some (p,(⟨h⟩:nc)) else some ((⟨i,0,(⟨zS,zS⟩:kL),c⟩:Formula),(⟨h⟩:nc))))
 | d::g,a=>(if (d.Op==i) then (nF 72 a d.Kids).bind λj=>(pb i a0 g j) else (Ap d (wi0 .i64 (5-i))).bind λo=>(if o then some ((⟨wi0 .i64 (5-i),0,(⟨zS,zS⟩:kL),[]⟩:Formula),a0) else (nF 72 a ([d])).bind λk=>pb i a0 g k))
def th (a0:nc) (a:Int) (a2:List Formula):Option (Formula×nc) :=
 pb a a0 a2 ([])
def oV :List Formula→Int→(List Formula)→Option (Int×(List Formula))
 | [],c,a=>some (c,a)
 | g::d,c,a=>(Ap g 2).bind λi=>(if i then oV d (wi0 .i64 (c-1)) a else (Ap g 3).bind λj=>(if (!j) then (nF 72 a ([g])).bind λh=>(oV d c h) else oV d c a))
def pA (rec:nc→Formula→Option (Formula×nc)) (s:Formula):List Formula→(List Formula)→nc→Option (Formula×nc)
 | [],g,a=>(if (decide (s.Op < 4)) then (th a s.Op g).bind λi=>some (i.1,i.2) else (oV g s.K ([])).bind λ(d,c)=>(if (decide (d≤0)) then some ((⟨2,0,(⟨zS,zS⟩:kL),[]⟩:Formula),a) else if (decide (d > (c.length:Int))) then some ((⟨3,0,(⟨zS,zS⟩:kL),[]⟩:Formula),a) else if (d==(c.length:Int)) then (th a 2 c).bind λj=>some (j.1,j.2) else if (d==1) then (th a 3 c).bind λk=>some (k.1,k.2) else (Aa c false).bind λp=>some ((⟨4,d,(⟨zS,zS⟩:kL),p⟩:Formula),a)))
 | q::n,g,a=>(rec a q).bind λh=>(nF 72 g ([h.1])).bind λo=>pA rec s n o h.2
def xt (rec:nc→Formula→Option (Formula×nc)) (a0:nc) (a:Formula):Option (Formula×nc) :=
 (if (a.Op==1) then some (a,a0) else pA rec a a.Kids ([]) a0)
def oZ:Nat→nc→Formula→Option (Formula×nc)
 | 0=>λ_ _=>none
 | n+1=>xt (oZ n)
def DN (a0:Formula):Option (Formula×Int) :=
 ((wx a0).bind λg=>(if (!g) then some ((⟨0,0,(⟨zS,zS⟩:kL),[]⟩:Formula),11) else (oZ lP (⟨false⟩:nc) a0).bind λa=>(if a.2.X8 then some true else (wx a.1).bind λc=>some (!c)).bind λd=>(if d then some ((⟨0,0,(⟨zS,zS⟩:kL),[]⟩:Formula),12) else some (a.1,0))))
def xT (p:kK):List sT→Int→Int→Int→kL→(List Formula)→Option (Int×Int×Int×kL×(List Formula))
 | [],d,g,h,i,c=>some (d,g,h,i,c)
 | k::j,d,g,h,i,c=>(if (d==0) then (E4 k.pf p).bind λn=>some n else some false).bind λo=>(if o then (DN (⟨2,0,(⟨zS,zS⟩:kL),[(⟨g,h,i,c⟩:Formula),k.la]⟩:Formula)).bind λa=>(xT p j a.2 a.1.Op a.1.K a.1.kL a.1.Kids) else xT p j d g h i c)
def AY (n:kK) (a0:mW):List nM→Option (Formula×Int)
 | []=>some ((⟨0,0,(⟨zS,zS⟩:kL),[]⟩:Formula),42)
 | c::g=>(if (!(nE c.Signed.kK n)) then AY n a0 g else (DN c.la).bind λa=>(xT n a0.pv a.2 a.1.Op a.1.K a.1.kL a.1.Kids).bind λ(d,i,j,k,h)=>(if (d != 0) then some ((⟨0,0,(⟨zS,zS⟩:kL),[]⟩:Formula),d) else some ((⟨i,j,k,h⟩:Formula),0)))
def Gb (a0:mW) (a:kK):Option (Formula×Int) :=
 AY a a0 a0.nK
def BS (d:kL):List kL→Option Bool
 | []=>some false
 | c::a=>(if (lJ c d) then some true else BS d a)
def EX (a0:List kL) (a:kL):Option Bool :=
 BS a a0
def wj (rec:Formula→(List kL)→Option Bool) (g:List kL) (a0:Formula):List Formula→Int→Option Bool
 | [],a=>(if (a0.Op==2) then some (a==(a0.Kids.length:Int)) else if (a0.Op==3) then some (decide (a > 0)) else some (decide (a≥a0.K)))
 | h::c,a=>(rec h g).bind λd=>(if d then wj rec g a0 c (wi0 .i64 (a+1)) else wj rec g a0 c a)
def Ci (rec:Formula→(List kL)→Option Bool) (a0:Formula) (a:List kL):Option Bool :=
 (if (a0.Op==1) then (EX a a0.kL).bind λc=>some c else wj rec a a0 a0.Kids 0)
def xv:Nat→Formula→(List kL)→Option Bool
 | 0=>λ_ _=>none
 | n+1=>Ci (xv n)
def Pq (a0 d:mW):Option ((List kK)×(List (kL×(List (ByteArray×Bool))))×(List kK)×(List (kL×(List kK)))×(List (ByteArray×(List kK)))×(List lx)×Int×ByteArray) :=
 ((Sg a0 d).bind λc=>(AB c.2.1).bind λa=>some (c.2.1,a.1,a.2.1,a.2.2.1,a.2.2.2.1,a.2.2.2.2.1,a.2.2.2.2.2,d.Name))
def Mg (a0:kL) (h:List (kL×(List (ByteArray×Bool)))) (a:List kK) (g:List (kL×(List kK))) (c:List (ByteArray×(List kK))) (d:List lx) (j:Int) (i:ByteArray) (k:List nM) (n:List sT):Option Bool :=
 ((tF h a g c d j a0 i).bind λo=>some o)
def NG (a0 c:mW) (a2:Formula):Option Bool :=
 ((Pq a0 c).bind λa=>(yu a2 λ(x:kL)=>Mg x a.2.1 a.2.2.1 a.2.2.2.1 a.2.2.2.2.1 a.2.2.2.2.2.1 a.2.2.2.2.2.2.1 a.2.2.2.2.2.2.2 c.nK c.pv).bind λd=>some d)
def wH (a0:List kL):Option (List kL) :=
 ((nF 32 ([]) a0).bind λa=>some a)
def sH (f1:kL→Option Bool):List kL→Nat→Option Int
 | [],_=>some (-1)
 | d::a,i35=>(f1 d).bind λc=>(if c then some (i35:Int) else sH f1 a (i35+1))
def yT (a0:List kL) (f1:kL→Option Bool):Option Int :=
 sH f1 a0 0
def pP (f1:kL→Option Bool):Nat→(List kL)→Int→Int→Option (List kL)
 | 0,_,_,_=>none
 | n321+1,c,a,d=>(if (decide (d < (c.length:Int))) then (((mT c d).bind λg=>(f1 g).bind λi=>(if (!i) then (mT c a).bind λk=>some ((c.set (Int.toNat a) g),wi0 .i64 (a+1)) else some (c,a))):Option ((List kL)×Int)).bind λ(h,j)=>(pP f1 n321 h j (wi0 .i64 (d+1))) else (rr (decide (0≤a)&&decide (a≤(c.length:Int)))).bind λ_=>(rr (decide (0≤a)&&decide (a≤((rf c (Int.toNat a) (⟨zS,zS⟩:kL)).length:Int)))).bind λ_=>some ((rf c (Int.toNat a) (⟨zS,zS⟩:kL)).take (Int.toNat a)))
def vy (a0:List kL) (f1:kL→Option Bool):Option (List kL) :=
 ((yT a0 f1).bind λa=>(if (a==(-1)) then some a0 else pP f1 lP a0 a (wi0 .i64 (a+1))))
def FM (a0:kL):Option Bool :=
 ((tK a0).bind λa=>some (!a))
def rU (c:Int):Nat→(List kL)→Int→Int→Option ((List kL)×Int)
 | 0,_,_,_=>none
 | i+1,a,d,g=>(if (decide (g < ((a.length-(Int.toNat c):Nat):Int))) then (((mT (a.drop (Int.toNat c)) g).bind λk=>(mT (a.drop (Int.toNat c)) (wi0 .i64 (g-1))).bind λn=>(if (!(lJ k n)) then (mT (a.drop (Int.toNat c)) g).bind λo=>((mT a d).bind λp=>some ((a.set (Int.toNat d) o),wi0 .i64 (d+1))) else some (a,d))):Option ((List kL)×Int)).bind λ(h,j)=>(rU c i h j (wi0 .i64 (g+1))) else some (a,d))
def sb (a0:List kL):Nat→Int→Option (List kL)
 | 0,_=>none
 | g+1,a=>(if (decide (a < (a0.length:Int))) then (mT a0 a).bind λh=>((mT a0 (wi0 .i64 (a-1))).bind λi=>(if (lJ h i) then (rr (decide (0≤a)&&decide (a≤(a0.length:Int)))).bind λ_=>((rU a lP a0 a 1).bind λ(d,c)=>(rr (decide (0≤c)&&decide (c≤(d.length:Int)))).bind λ_=>(rr (decide (0≤c)&&decide (c≤((rf d (Int.toNat c) (⟨zS,zS⟩:kL)).length:Int)))).bind λ_=>some ((rf d (Int.toNat c) (⟨zS,zS⟩:kL)).take (Int.toNat c))) else sb a0 g (wi0 .i64 (a+1)))) else some a0)
def xS (a0:List kL):Option (List kL) :=
 (if (decide ((a0.length:Int) < 2)) then some a0 else sb a0 lP 1)
def F7 (a0:List kL):Option (List kL) :=
 ((wH a0).bind λg=>(vy g λ(x:kL)=>FM x).bind λa=>(CS (λ(x:(kL×kL))=>tY x.1 x.2) a).bind λc=>(xS c).bind λd=>some d)
def sO (g:List kL):List kL→Nat→Option Bool
 | [],_=>some true
 | d::c,i90=>(mT g (i90:Int)).bind λa=>(if (!(lJ d a)) then some false else sO g c (i90+1))
def wK (a0 a:List kL):Option Bool :=
 (if ((a0.length:Int) != (a.length:Int)) then some false else sO a a0 0)
def Ax (a0:pd):Option pd :=
 (((if (a0.Kind==1) then some (a0.oN,0,a0.Name,[],[]) else if (a0.Kind==2) then some (0,0,zS,a0.nU,a0.mC) else if (a0.Kind==5) then some (0,a0.E,zS,[],[]) else some (0,0,zS,[],[])):Option (Int×Int×ByteArray×(List kL)×(List Signed))).bind λ(d,g,h,a,c)=>some (⟨a0.Kind,d,g,h,a,c⟩:pd))
def mf (h:List Signed) (f2:(Signed×Signed)→Option Bool):List Signed→Nat→Option Bool
 | [],_=>some true
 | g::d,i95=>(mT h (i95:Int)).bind λc=>(f2 (g,c)).bind λa=>(if (!a) then some false else mf h f2 d (i95+1))
def mV (a0 a:List Signed) (f2:(Signed×Signed)→Option Bool):Option Bool :=
 (if ((a0.length:Int) != (a.length:Int)) then some false else mf a f2 a0 0)
def sx (a0 d:Signed):Option Bool :=
 ((if (nE a0.kK d.kK) then (pY a0.Tag d.Tag).bind λa=>some a else some false).bind λc=>some c)
def Ca (a0 a:pd):Option Bool :=
 ((if (a0.Kind==a.Kind) then some (a0.oN==a.oN) else some false).bind λg=>(if g then some (a0.E==a.E) else some false).bind λh=>(if h then some (mx a0.Name a.Name) else some false).bind λi=>(if i then (wK a0.nU a.nU).bind λd=>some d else some false).bind λj=>(if j then (mV a0.mC a.mC λ(x:(Signed×Signed))=>sx x.1 x.2).bind λc=>some c else some false).bind λk=>some k)
def Cq (a0:List kL):Option Bool :=
 ((if (decide ((a0.length:Int)≤16)) then (F7 a0).bind λa=>((wK a a0).bind λc=>some c) else some false).bind λd=>some d)
def rR (a0:List Signed):List Signed→Nat→Option Bool
 | [],_=>some (decide ((a0.length:Int)≤8))
 | c::d,a=>(sJ c.kK).bind λg=>(if (!g) then some true else some ((c.Tag.length:Int) != 8)).bind λi=>(if i then some true else (if (decide ((a:Int) > 0)) then (mT a0 (wi0 .i64 ((a:Int)-1))).bind λn=>((vk n.kK c.kK).bind λh=>some (decide (h≥0))) else some false).bind λk=>some k).bind λj=>(if j then some false else rR a0 d (a+1))
def E8 (a0:List Signed):Option Bool :=
 rR a0 a0 0
def pB (a0:pd):Option Bool :=
 ((Ax a0).bind λh=>(Ca h a0).bind λi=>(if (!i) then some false else if (a0.Kind==1) then (tJ a0.Name).bind λj=>((if j then (if (a0.oN==1) then some true else some (a0.oN==2)).bind λo=>some o else some false).bind λn=>some n) else if (a0.Kind==2) then (Cq a0.nU).bind λk=>((if k then (E8 a0.mC).bind λa=>some a else some false).bind λc=>some c) else if (a0.Kind==5) then (if (decide (a0.E≥1)) then some (decide (a0.E≤99)) else some false).bind λd=>some d else (if (a0.Kind==3) then some true else some (a0.Kind==4)).bind λg=>some g))
def wQ (a:List kL):List kL→Bool→kL→Option (Bool×kL)
 | [],d,g=>some (d,g)
 | c::h,d,g=>(wz c).bind λi=>(if i then (if ((a.length:Int)==0) then some true else (mT a (wi0 .i64 ((a.length:Int)-1))).bind λs=>(yD s c).bind λk=>some k).bind λq=>some q else some false).bind λn=>(if n then (if (!d) then some true else (yD c g).bind λj=>some j).bind λp=>some p else some false).bind λo=>(if o then wQ a h true c else wQ a h d g)
def yw (a0:List kL):Nat→(List kL)→Option (List kL)
 | 0,_=>none
 | d+1,a=>(wQ a a0 false (⟨zS,zS⟩:kL)).bind λ(g,h)=>(if (!g) then some a else (nF 32 a ([h])).bind λc=>yw a0 d c)
def E3 (a0:List kL):Option (List kL) :=
 yw a0 lP ([])
def uo (g:List kL):List kL→Nat→Option Bool
 | [],_=>some true
 | d::c,i90=>(mT g (i90:Int)).bind λa=>(if (!(lJ d a)) then some false else uo g c (i90+1))
def yM (a0 a:List kL):Option Bool :=
 (if ((a0.length:Int) != (a.length:Int)) then some false else uo a a0 0)
structure lL where
 b:List Int
 over:Bool
def GX (a c:List Int):Option (Bool×(List Int)) :=
 ((nF 1 a c).bind λd=>some (true,d))
def JF (a:List Int) (g:Signed):Option (Bool×(List Int)) :=
 ((sJ g.kK).bind λk=>(if (!k) then some true else some ((g.Tag.length:Int) != 8)).bind λn=>(if n then some (false,a) else (wg g.kK).bind λi=>(GX a i).bind λc=>((if c.1 then (wu c.2 g.Tag).bind λd=>some (d.1,d.2) else some (false,c.2)):Option (Bool×(List Int))).bind λ(j,h)=>some (j,h)))
def yf (c:List Int) (a:Bool):Option Bool :=
 some a
def nm (a0:lL) (a:Int):Option (Int ⊕ Unit) :=
 ((if (!a0.over) then some (a != 0) else some false).bind λx2=>(if x2 then some (Sum.inl a) else some (Sum.inr ())))
def yl (a0:lL) (q:Int):Option (Int ⊕ (Int×lL)) :=
 (((if (q==9) then ((nm a0 11).bind λn=>match n with | .inl h=>some (Sum.inl (Sum.inl h)) | .inr v=>some (Sum.inr ())) else some (Sum.inr ())):Option ((Int ⊕ (Int×lL)) ⊕ Unit)).bind λs=>match s with | .inl i=>some i | .inr _=>(((if ((a0.b.length:Int)==0) then ((nm a0 10).bind λk=>match k with | .inl d=>some (Sum.inl (Sum.inl d)) | .inr u=>some (Sum.inr ())) else some (Sum.inr ())):Option ((Int ⊕ (Int×lL)) ⊕ Unit)).bind λs=>match s with | .inl g=>some g | .inr _=>(mT a0.b 0).bind λp=>(rr (decide (0≤1)&&decide (1≤(a0.b.length:Int)))).bind λ_=>((((if (p==0) then some (decide (q > 0)) else some false).bind λo=>(if o then ((nm (⟨a0.b.drop (Int.toNat 1),a0.over⟩:lL) 11).bind λj=>match j with | .inl a=>some (Sum.inl (Sum.inl a)) | .inr t=>some (Sum.inr ())) else some (Sum.inr ()))):Option ((Int ⊕ (Int×lL)) ⊕ Unit)).bind λs=>match s with | .inl c=>some c | .inr _=>some (Sum.inr (p,(⟨a0.b.drop (Int.toNat 1),a0.over⟩:lL))))))
def py (p:Int):Nat→Int→Int→(List Int)→Bool→Option (Int ⊕ (Int×lL))
 | 0,_,_,_,_=>none
 | n161+1,d,c,g,o=>((yl (⟨g,o⟩:lL) c).bind λn=>match n with | .inl h=>some (Sum.inl h) | .inr a=>(rr (decide (0≤(wi0 .i64 (7*c))))).bind λ_=>(if (decide (a.1 < 128)) then (((if (decide ((wi0 .i64 (BitVec.ofInt (IntKind.bits .i64) d ||| BitVec.ofInt (IntKind.bits .i64) (wi0 .i64 ((wi0 .i64 (IntKind.u8.wrap (BitVec.ofInt (IntKind.bits .u8) a.1 &&& BitVec.ofInt (IntKind.bits .u8) 127).toNat))*2 ^ min (Int.toNat (wi0 .i64 (7*c))) (IntKind.bits .i64)))).toNat) > p)) then ((nm a.2 12).bind λk=>match k with | .inl i=>some (Sum.inl (Sum.inl i)) | .inr q=>some (Sum.inr ())) else some (Sum.inr ())):Option ((Int ⊕ (Int×lL)) ⊕ Unit)).bind λs=>match s with | .inl j=>some j | .inr _=>some (Sum.inr ((wi0 .i64 (BitVec.ofInt (IntKind.bits .i64) d ||| BitVec.ofInt (IntKind.bits .i64) (wi0 .i64 ((wi0 .i64 (IntKind.u8.wrap (BitVec.ofInt (IntKind.bits .u8) a.1 &&& BitVec.ofInt (IntKind.bits .u8) 127).toNat))*2 ^ min (Int.toNat (wi0 .i64 (7*c))) (IntKind.bits .i64)))).toNat),a.2))) else py p n161 (wi0 .i64 (BitVec.ofInt (IntKind.bits .i64) d ||| BitVec.ofInt (IntKind.bits .i64) (wi0 .i64 ((wi0 .i64 (IntKind.u8.wrap (BitVec.ofInt (IntKind.bits .u8) a.1 &&& BitVec.ofInt (IntKind.bits .u8) 127).toNat))*2 ^ min (Int.toNat (wi0 .i64 (7*c))) (IntKind.bits .i64)))).toNat) (wi0 .i64 (c+1)) a.2.b a.2.over))
def om (a0:lL) (a:Int):Option (Int ⊕ (Int×lL)) :=
 ((yf a0.b a0.over).bind λc=>(if c then some (Sum.inr (0,a0)) else py a lP 0 0 a0.b a0.over))
def sC (a0:lL) (p:Int):Option (Int ⊕ ((List Int)×lL)) :=
 ((yf a0.b a0.over).bind λq=>(if q then some (Sum.inr ([],a0)) else ((om a0 9223372036854775807).bind λj=>match j with | .inl k=>some (Sum.inl k) | .inr a=>(((if (decide (a.1 > p)) then ((nm a.2 12).bind λh=>match h with | .inl c=>some (Sum.inl (Sum.inl c)) | .inr t=>some (Sum.inr ())) else if (decide (a.1 > (a.2.b.length:Int))) then ((nm a.2 10).bind λi=>match i with | .inl d=>some (Sum.inl (Sum.inl d)) | .inr o=>some (Sum.inr ())) else some (Sum.inr ())):Option ((Int ⊕ ((List Int)×lL)) ⊕ Unit)).bind λs=>match s with | .inl g=>some g | .inr _=>(rr (decide (0≤a.1)&&decide (a.1≤(a.2.b.length:Int)))).bind λ_=>(rO (a.2.b.take (Int.toNat a.1))).bind λn=>(rr (decide (0≤a.1)&&decide (a.1≤(a.2.b.length:Int)))).bind λ_=>some (Sum.inr (n,(⟨a.2.b.drop (Int.toNat a.1),a.2.over⟩:lL)))))))
def xz (a0:lL):Option (Int ⊕ (ByteArray×lL)) :=
 ((sC a0 16).bind λi=>match i with | .inl c=>some (Sum.inl c) | .inr a=>(tJ (su a.1)).bind λg=>(if (!g) then ((nm a.2 30).bind λh=>match h with | .inl d=>some (Sum.inl d) | .inr j=>some (Sum.inr (zS,a.2))) else some (Sum.inr ((su a.1),a.2))))
def vW (a0:lL):Option (Int ⊕ (kL×lL)) :=
 ((xz a0).bind λh=>match h with | .inl c=>some (Sum.inl c) | .inr i=>((xz i.2).bind λg=>match g with | .inl d=>some (Sum.inl d) | .inr a=>some (Sum.inr ((⟨i.1,a.1⟩:kL),a.2))))
def Ea (a0:lL):Option (Int ⊕ (kK×lL)) :=
 ((om a0 9223372036854775807).bind λW=>match W with | .inl a1=>some (Sum.inl a1) | .inr c=>((((if (decide (c.1 < 1)) then some true else some (decide (c.1 > 4))).bind λY=>(if Y then ((nm c.2 11).bind λU=>match U with | .inl A=>some (Sum.inl (Sum.inl A)) | .inr a8=>some (Sum.inr ())) else some (Sum.inr ()))):Option ((Int ⊕ (kK×lL)) ⊕ Unit)).bind λs=>match s with | .inl G=>some G | .inr _=>((vW c.2).bind λT=>match T with | .inl a6=>some (Sum.inl a6) | .inr a=>(((if (c.1==1) then ((xz a.2).bind λL=>match L with | .inl t=>some (Sum.inl (Sum.inl t)) | .inr g=>some (Sum.inr ((⟨c.1,a.1,g.1,(⟨zS,zS⟩:kL),(⟨zS,zS⟩:kL),zS⟩:kK),g.2.b,g.2.over))) else if (c.1==2) then ((vW a.2).bind λM=>match M with | .inl u=>some (Sum.inl (Sum.inl u)) | .inr h=>some (Sum.inr ((⟨c.1,a.1,zS,h.1,(⟨zS,zS⟩:kL),zS⟩:kK),h.2.b,h.2.over))) else if (c.1==3) then ((vW a.2).bind λP=>match P with | .inl v=>some (Sum.inl (Sum.inl v)) | .inr n=>((xz n.2).bind λO=>match O with | .inl w=>some (Sum.inl (Sum.inl w)) | .inr i=>some (Sum.inr ((⟨c.1,a.1,zS,n.1,(⟨zS,zS⟩:kL),i.1⟩:kK),i.2.b,i.2.over)))) else if (c.1==4) then ((vW a.2).bind λR=>match R with | .inl x=>some (Sum.inl (Sum.inl x)) | .inr o=>((vW o.2).bind λQ=>match Q with | .inl y=>some (Sum.inl (Sum.inl y)) | .inr j=>some (Sum.inr ((⟨c.1,a.1,zS,o.1,j.1,zS⟩:kK),j.2.b,j.2.over)))) else some (Sum.inr ((⟨c.1,a.1,zS,(⟨zS,zS⟩:kL),(⟨zS,zS⟩:kL),zS⟩:kK),a.2.b,a.2.over))):Option ((Int ⊕ (kK×lL)) ⊕ (kK×(List Int)×Bool))).bind λs=>match s with | .inl z=>some z | .inr (p,d,k)=>(sJ p).bind λI=>(if (!I) then ((nm (⟨d,k⟩:lL) 11).bind λJ=>match J with | .inl q=>some (Sum.inl q) | .inr a7=>some (Sum.inr ((⟨0,(⟨zS,zS⟩:kL),zS,(⟨zS,zS⟩:kL),(⟨zS,zS⟩:kL),zS⟩:kK),(⟨d,k⟩:lL)))) else some (Sum.inr (p,(⟨d,k⟩:lL))))))))
def Eb (a0:lL):Option (Int ⊕ (Signed×lL)) :=
 ((Ea a0).bind λj=>match j with | .inl c=>some (Sum.inl c) | .inr k=>((sC k.2 8).bind λi=>match i with | .inl d=>some (Sum.inl d) | .inr a=>(if ((a.1.length:Int) != 8) then ((nm a.2 11).bind λh=>match h with | .inl g=>some (Sum.inl g) | .inr n=>some (Sum.inr ((⟨(⟨0,(⟨zS,zS⟩:kL),zS,(⟨zS,zS⟩:kL),(⟨zS,zS⟩:kL),zS⟩:kK),[]⟩:Signed),a.2))) else some (Sum.inr ((⟨k.1,a.1⟩:Signed),a.2)))))
structure lj where
 S:ByteArray
 E:Int
def lH (x:lj):List Value:=[.string x.S,.int .i64 x.E]
def FD (a0:Signed):Option Bool :=
 ((uL a0.kK).bind λa=>(if a then some ((a0.Tag.length:Int)==8) else some false).bind λc=>some c)
def pK (k:Int):Nat→Int→Int→Int→lj→Option (Int×lj)
 | 0,_,_,_,_=>none
 | n173+1,h,d,i,a=>(if (i==9) then some (0,(⟨a.S,11⟩:lj)) else if (mx a.S zS) then some (0,(⟨a.S,10⟩:lj)) else (Dk a.S 0).bind λc=>(Jj a.S 1 (a.S.size:Int)).bind λg=>(if ((wi0 .i64 (c.toNat:Int))==0) then some (decide (i > 0)) else some false).bind λj=>(if j then some (0,(⟨g,11⟩:lj)) else if (decide ((wi0 .i64 (c.toNat:Int)) < 128)) then if (decide ((wi0 .i64 (h+(wi0 .i64 ((Int.tmod (wi0 .i64 (c.toNat:Int)) 128)*d)))) > k)) then some (0,(⟨g,12⟩:lj)) else some ((wi0 .i64 (h+(wi0 .i64 ((Int.tmod (wi0 .i64 (c.toNat:Int)) 128)*d)))),(⟨g,a.E⟩:lj)) else pK k n173 (wi0 .i64 (h+(wi0 .i64 ((Int.tmod (wi0 .i64 (c.toNat:Int)) 128)*d)))) (wi0 .i64 (d*128)) (wi0 .i64 (i+1)) (⟨g,a.E⟩:lj)))
def mj (a0:lj) (a:Int):Option (Int×lj) :=
 (if (a0.E != 0) then some (0,a0) else pK a lP 0 1 0 a0)
def nS (a0:lj) (g:Int):Option (ByteArray×lj) :=
 ((mj a0 9223372036854775807).bind λa=>(if (a.2.E != 0) then some (zS,a.2) else if (decide (a.1 > g)) then some (zS,(⟨a.2.S,12⟩:lj)) else if (decide (a.1 > (a.2.S.size:Int))) then some (zS,(⟨a.2.S,10⟩:lj)) else (Jj a.2.S 0 a.1).bind λc=>(Jj a.2.S a.1 (a.2.S.size:Int)).bind λd=>some (c,(⟨d,a.2.E⟩:lj))))
def oY (a0:lj):Option (ByteArray×lj) :=
 ((nS a0 16).bind λc=>(((if (c.2.E==0) then (tQ c.1).bind λd=>some (!d) else some false).bind λg=>(if g then some (⟨c.2.S,30⟩:lj) else some c.2)):Option lj).bind λa=>(if (a.E != 0) then some (zS,a) else some (c.1,a)))
def oR (a0:lj):Option (kL×lj) :=
 ((oY a0).bind λc=>(oY c.2).bind λa=>(if (a.2.E != 0) then some ((⟨zS,zS⟩:kL),a.2) else some ((⟨c.1,a.1⟩:kL),a.2)))
def AQ (a0:lj):Option (kK×lj) :=
 ((mj a0 9223372036854775807).bind λc=>(((if (c.2.E==0) then (if (decide (c.1 < 1)) then some true else some (decide (c.1 > 4))).bind λv=>some v else some false).bind λu=>(if u then some (⟨c.2.S,11⟩:lj) else some c.2)):Option lj).bind λw=>(oR w).bind λd=>((if (c.1==1) then (oY d.2).bind λj=>some ((⟨c.1,d.1,j.1,(⟨zS,zS⟩:kL),(⟨zS,zS⟩:kL),zS⟩:kK),j.2) else (if (c.1==2) then some (c.1==2) else if (c.1==3) then some (c.1==3) else some (c.1==4)).bind λt=>(if t then (oR d.2).bind λg=>(((if (c.1==3) then (oY g.2).bind λn=>some ((⟨c.1,d.1,zS,g.1,(⟨zS,zS⟩:kL),n.1⟩:kK),n.2) else some ((⟨c.1,d.1,zS,g.1,(⟨zS,zS⟩:kL),zS⟩:kK),g.2)):Option (kK×lj)).bind λ(a,p)=>(if (a.Kind==4) then (oR p).bind λk=>some ((⟨a.Kind,a.Head,a.lV,a.B,k.1,a.lW⟩:kK),k.2) else some (a,p))) else some ((⟨c.1,d.1,zS,(⟨zS,zS⟩:kL),(⟨zS,zS⟩:kL),zS⟩:kK),d.2))):Option (kK×lj)).bind λ(o,h)=>(((if (h.E==0) then (uL o).bind λq=>some (!q) else some false).bind λs=>(if s then some (⟨h.S,11⟩:lj) else some h)):Option lj).bind λi=>(if (i.E != 0) then some ((⟨0,(⟨zS,zS⟩:kL),zS,(⟨zS,zS⟩:kL),(⟨zS,zS⟩:kL),zS⟩:kK),i) else some (o,i)))
def AS (a0:lj):Option (Signed×lj) :=
 ((AQ a0).bind λh=>(nS h.2 8).bind λa=>(((if (a.2.E==0) then some ((a.1.size:Int) != 8) else some false).bind λg=>(if g then some (⟨a.2.S,11⟩:lj) else some a.2)):Option lj).bind λc=>(if (c.E != 0) then some ((⟨(⟨0,(⟨zS,zS⟩:kL),zS,(⟨zS,zS⟩:kL),(⟨zS,zS⟩:kL),zS⟩:kK),[]⟩:Signed),c) else (Ef a.1).bind λd=>some ((⟨h.1,d⟩:Signed),c)))
def sw (a0:lj):Option Int :=
 ((if (a0.E==0) then some (!(mx a0.S zS)) else some false).bind λx8=>(if x8 then some 13 else some a0.E))
structure Yp where
 key:kK
 text:ByteArray
 sign:ByteArray
structure YQ where
 key:kL
 text:ByteArray
 sign:ByteArray
structure nJ where
 Out:Bool
 B:List Int
def Ez :List Signed→(List Int)→Option (List Int)
 | [],a=>some a
 | g::c,a=>(JF a g).bind λd=>Ez c d.2
def Ew (h:pd):List kL→(List Int)→Option (List Int)
 | [],a=>(nD a (h.mC.length:Int)).bind λd=>(Ez h.mC d.2).bind λc=>some c
 | i::g,a=>none
def Lj (c:List Int) (a:pd):Option (Bool×(List Int)) :=
 ((pB a).bind λi=>(if (!i) then none else (nD c a.Kind).bind λh=>((if (a.Kind==1) then none else if (a.Kind==2) then (nD h.2 (a.nU.length:Int)).bind λg=>Ew a a.nU g.2 else none):Option (List Int)).bind λd=>some (true,d)))
def Lv (a0:pd):Option (List Int) :=
 ((Lj ([]) a0).bind λc=>(rC c.2).bind λa=>some a)
def EF (a0:Int):Option (List Int) :=
 ((nD ([]) a0).bind λc=>(rC c.2).bind λa=>some a)
def zZ (c:Int):List Int→Nat→(List Int)→Option (List Int)
 | [],_,a=>some a
 | h::d,i71,a=>(rr (decide (0≤(wi0 .i64 (8*(wi0 .i64 (7-(i71:Int)))))))).bind λ_=>(mT a (i71:Int)).bind λg=>zZ c d (i71+1) (a.set (Int.toNat (i71:Int)) (IntKind.u8.wrap (Int.fdiv c (2 ^ min (Int.toNat (wi0 .i64 (8*(wi0 .i64 (7-(i71:Int)))))) (IntKind.bits .u64)))))
def Cu (a0:Int) (d:List Int):Option (List Int) :=
 ((EF a0).bind λg=>(Hf ([g,d])).bind λc=>(GY 1 0 8).bind λa=>zZ c a 0 a)
def KB (a0:Int) (a:List Int):Option (List Int) :=
 ((if (decide (a0 < 1)) then some true else some (decide (a0 > 1099511627776))).bind λx2=>(if x2 then some true else some (decide ((a.length:Int) > 2048))).bind λj=>(if j then some [] else (nD ([]) a0).bind λc=>(wu c.2 a).bind λd=>(Cu a0 a).bind λg=>(wu d.2 g).bind λh=>(rC h.2).bind λi=>some i))
def Km (a0:Int) (d:pd):Option (List Int) :=
 ((pB d).bind λg=>(if (!g) then none else (Lv d).bind λa=>(KB a0 a).bind λc=>some c))
def BJ (a0:lL) (s:Int) (c1 c2:List Int):Option ((Int×(Int×(List Int)×(List Int))) ⊕ (lL×Int×(List Int)×(List Int))) :=
 ((om a0 1099511627776).bind λp=>match p with | .inl g=>some (Sum.inl (g,(s,c1,c2))) | .inr d=>((sC d.2 2048).bind λo=>match o with | .inl h=>some (Sum.inl (h,(d.1,c1,c2))) | .inr c=>((sC c.2 8).bind λn=>match n with | .inl i=>some (Sum.inl (i,(d.1,c.1,c2))) | .inr a=>(if ((a.1.length:Int) != 8) then some true else some (d.1==0)).bind λq=>(if q then ((nm a.2 11).bind λk=>match k with | .inl j=>some (Sum.inl (j,(d.1,c.1,a.1))) | .inr t=>some (Sum.inr (a.2,d.1,c.1,a.1))) else some (Sum.inr (a.2,d.1,c.1,a.1))))))
def yV (a0:List Int) (a:Int) (c1 c2:List Int):Option (Int×Int×(List Int)×(List Int)) :=
 ((rO a0).bind λl=>(BJ (⟨l,false⟩:lL) a c1 c2).bind λs=>some ((DL (λr=>(r.1).b) (OK s)),(match s with | .inl l=>l.2.1 | .inr r=>r.2.1),(match s with | .inl l=>l.2.2.1 | .inr r=>r.2.2.1),(match s with | .inl l=>l.2.2.2 | .inr r=>r.2.2.2)))
def yW (a0:List Int):Option (Int×(List Int)×(List Int)×Int) :=
 ((yV a0 0 ([]) ([])).bind λa=>some (a.2.1,a.2.2.1,a.2.2.2,a.1))
def wW (g:(Int×lL)):Nat→Int→(List Signed)→(List Int)→Bool→Option (((Int ⊕ (pd×lL)) ⊕ (Int×Int×ByteArray×(List kL)×(List Signed)×(List Int)×Bool)) ⊕ ((List Signed)×(List Int)×Bool))
 | 0,_,_,_,_=>none
 | k+1,h,c,d,i=>(if (decide (h < g.1)) then ((Eb (⟨d,i⟩:lL)).bind λo=>match o with | .inl n=>some (Sum.inl (Sum.inl (Sum.inl n))) | .inr a=>(nF 160 c ([a.1])).bind λj=>wW g k (wi0 .i64 (h+1)) j a.2.b a.2.over) else some (Sum.inr (c,d,i)))
def wT (h:(Int×lL)):Nat→Int→(List kL)→(List Int)→Bool→Option ((Int ⊕ (pd×lL)) ⊕ (Int×Int×ByteArray×(List kL)×(List Signed)×(List Int)×Bool))
 | 0,_,_,_,_=>none
 | p+1,i,d,g,j=>(if (decide (i < h.1)) then ((vW (⟨g,j⟩:lL)).bind λv=>match v with | .inl q=>some (Sum.inl (Sum.inl q)) | .inr a=>(nF 32 d ([a.1])).bind λk=>wT h p (wi0 .i64 (i+1)) k a.2.b a.2.over) else ((om (⟨g,j⟩:lL) 8).bind λw=>match w with | .inl t=>some (Sum.inl (Sum.inl t)) | .inr c=>((wW c lP 0 ([]) c.2.b c.2.over).bind λs=>match s with | .inl u=>some u | .inr (n,o,x)=>some (Sum.inr (0,0,zS,d,n,o,x)))))
def E6 (a0:lL):Option (Int ⊕ (pd×lL)) :=
 ((om a0 9223372036854775807).bind λM=>match M with | .inl O=>some (Sum.inl O) | .inr q=>(((if (q.1==1) then ((xz q.2).bind λI=>match I with | .inl u=>some (Sum.inl (Sum.inl u)) | .inr k=>((om k.2 2).bind λG=>match G with | .inl v=>some (Sum.inl (Sum.inl v)) | .inr c=>some (Sum.inr (c.1,0,k.1,[],[],c.2.b,c.2.over)))) else if (q.1==2) then ((om q.2 16).bind λJ=>match J with | .inl w=>some (Sum.inl (Sum.inl w)) | .inr d=>wT d lP 0 ([]) d.2.b d.2.over) else if (q.1==5) then ((om q.2 99).bind λL=>match L with | .inl x=>some (Sum.inl (Sum.inl x)) | .inr g=>some (Sum.inr (0,g.1,zS,[],[],g.2.b,g.2.over))) else some (Sum.inr (0,0,zS,[],[],q.2.b,q.2.over))):Option ((Int ⊕ (pd×lL)) ⊕ (Int×Int×ByteArray×(List kL)×(List Signed)×(List Int)×Bool))).bind λs=>match s with | .inl y=>some y | .inr (n,o,p,i,j,a,h)=>(pB (⟨q.1,n,o,p,i,j⟩:pd)).bind λz=>(if (!z) then ((nm (⟨a,h⟩:lL) 11).bind λA=>match A with | .inl t=>some (Sum.inl t) | .inr P=>some (Sum.inr ((⟨0,0,0,zS,[],[]⟩:pd),(⟨a,h⟩:lL)))) else some (Sum.inr ((⟨q.1,n,o,p,i,j⟩:pd),(⟨a,h⟩:lL))))))
def DM (a0:lL) (g:pd):Option (Int ⊕ (lL×pd)) :=
 ((E6 a0).bind λc=>match c with | .inl a=>some (Sum.inl a) | .inr d=>some (Sum.inr (d.2,d.1)))
def AJ (a0:List Int) (a:pd):Option (Int×pd) :=
 ((rO a0).bind λl=>(DM (⟨l,false⟩:lL) a).bind λs=>some ((DL (λr=>(r.1).b) s),(match s with | .inl _=>a | .inr r=>r.2)))
def FW (a0:List Int):Option (pd×Int) :=
 ((AJ a0 (⟨0,0,0,zS,[],[]⟩:pd)).bind λa=>(if (a.1 != 0) then some ((⟨0,0,0,zS,[],[]⟩:pd),a.1) else some (a.2,0)))
def Ac (a0:List Int):Option (Int×pd×Int) :=
 (if (decide ((a0.length:Int) > 4096)) then some (0,(⟨0,0,0,zS,[],[]⟩:pd),12) else (yW a0).bind λa=>(((if (a.2.2.2==0) then (Cu a.1 a.2.1).bind λd=>((pY a.2.2.1 d).bind λg=>some (!g)) else some false).bind λh=>(if h then some 20 else some a.2.2.2)):Option Int).bind λi=>(if (i != 0) then some (0,(⟨0,0,0,zS,[],[]⟩:pd),i) else (FW a.2.1).bind λc=>(if (c.2 != 0) then some (0,(⟨0,0,0,zS,[],[]⟩:pd),c.2) else some (a.1,c.1,0))))
structure pg where
 At:Int
 VP:Int
def nA (x:pg):List Value:=[.int .i64 x.At,.int .i64 x.VP]
def AD (x y:pg):Bool:=(x.At==y.At)&&((x.VP==y.VP)&&true)
theorem Ou {x y:pg}:AD x y=true↔x=y:=by
 cases x; cases y; simp [AD,mU]
theorem Az (x:pg):∀u∈nA x,u.oneCell'=true:=by
 intro u hu
 simp only [nA,aS,du,fx] at hu
 rcases hu with rfl | rfl <;> rfl
def zd (a0:nJ):Option (List Signed) :=
 ((Ac a0.B).bind λa=>(if (a.2.2 != 0) then some [] else some a.2.1.mC))
def wF (g:Signed):List nM→Option Bool
 | []=>some false
 | c::d=>(if (nE c.Signed.kK g.kK) then (pY c.Signed.Tag g.Tag).bind λa=>some a else wF g d)
def yn (g:mW) (h:ByteArray) (i:Option mN) (c:List kK) (a:Int) (d:List Int) (j:Signed):Option Bool :=
 wF j g.nK
def um (a0:kL) (i:List (kL×(List (ByteArray×Bool)))) (a:List kK) (g:List (kL×(List kK))) (c:List (ByteArray×(List kK))) (d:List lx) (k:Int) (q:mW) (h:ByteArray) (p:Option mN) (n:List kK) (j:Int) (o:List Int):Option Bool :=
 ((tF i a g c d k a0 h).bind λs=>some s)
def pQ (j:mW) (c:((List (kL×(List (ByteArray×Bool))))×(List kK)×(List (kL×(List kK)))×(List (ByteArray×(List kK)))×(List lx)×Int)) (i:ByteArray) (k:Option mN) (g:List kK) (a:Int) (h:List Int):List Signed→Option (Int ⊕ Unit)
 | []=>some (Sum.inr ())
 | w::v=>(((Eh j w.kK).bind λd=>some (d.1.Op,d.1.K,d.1.kL,d.1.Kids,d.2,0,0,(⟨zS,zS⟩:kL),[])):Option (Int×Int×kL×(List Formula)×Int×Int×Int×kL×(List Formula))).bind λ(p,q,s,n,t,z,A,G,y)=>(if (t != 0) then some true else (yu (⟨p,q,s,n⟩:Formula) λ(x:kL)=>um x c.1 c.2.1 c.2.2.1 c.2.2.2.1 c.2.2.2.2.1 c.2.2.2.2.2 j i k g a h).bind λo=>some (!o)).bind λu=>(if u then some (Sum.inl 44) else pQ j c i k g a h v)
def pS (i:mW) (g:ByteArray) (h:Option mN) (c:List kK) (a:Int) (d:List Int) (q:List Signed):List Signed→Option Int
 | []=>(AB c).bind λn=>((pQ i n g h c a d q).bind λs=>match s with | .inl j=>some j | .inr _=>some 0)
 | p::o=>(yn i g h c a d p).bind λk=>(if (!k) then some 42 else pS i g h c a d q o)
def vQ (i:mW) (g:ByteArray) (h:Option mN) (c:List kK) (a:Int) (d:List Int) (j:List Signed):Option Int :=
 pS i g h c a d j j
def xM (j:mW) (g:ByteArray) (i:Option mN) (d:List kK) (a:Int) (c k:List Int):Option (Int×Int×(List Int)) :=
 ((Ac k).bind λh=>(if (h.2.2 != 0) then some (11,a,c) else if (decide (h.1 < a)) then some (43,a,c) else (if (h.1==a) then (pY k c).bind λo=>some (!o) else some false).bind λp=>(if p then some (41,a,c) else (vQ j g i d h.1 k h.2.1.mC).bind λn=>some (n,h.1,k))))
def tI (a2:Option mN) (a0:mW) (p:ByteArray) (a3:List nJ):List nJ→Nat→(List kK)→Int→(List Int)→Option pg
 | [],_,a,i,g=>some (⟨(a3.length:Int),0⟩:pg)
 | h::j,d,a,i,g=>(if (!h.Out) then (zd h).bind λn=>((vY a2 n).bind λo=>(nF 136 a o).bind λk=>tI a2 a0 p a3 j (d+1) k i g) else (xM a0 p a2 a i g h.B).bind λc=>(if (c.1 != 0) then some (⟨(d:Int),c.1⟩:pg) else tI a2 a0 p a3 j (d+1) a c.2.1 c.2.2))
def zc (a0:mW) (a:ByteArray) (a2:Option mN) (a3:List nJ):Option pg :=
 (if a2.isNone then some (⟨0,1⟩:pg) else tI a2 a0 a a3 a3 0 ([]) 0 ([]))
def tG :List nJ→(List Int)→Option (List Int)
 | [],a=>some a
 | d::c,a=>(if d.Out then (Ac d.B).bind λh=>((nF 8 a ([h.1])).bind λg=>tG c g) else tG c a)
def Bs (a0:List nJ):Option (List Int) :=
 tG a0 ([])
def vM (a0:Option mN):List nJ→(List Signed)→Option (List kK)
 | [],a=>(vY a0 a).bind λi=>some i
 | d::c,a=>(if (!d.Out) then (zd d).bind λh=>((nF 160 a h).bind λg=>vM a0 c g) else vM a0 c a)
def DD (a0:Option mN) (a:List nJ):Option (List kK) :=
 vM a0 a ([])
def xR :List Signed→(List kK)→Option (List kK)
 | [],a=>some a
 | g::c,a=>(nF 136 a ([g.kK])).bind λd=>xR c d
def vC :List nJ→(List kK)→Option (List kK)
 | [],a=>(zm a).bind λi=>some i
 | d::c,a=>(if d.Out then (zd d).bind λh=>((xR h a).bind λg=>vC c g) else vC c a)
def DX (a0:List nJ):Option (List kK) :=
 vC a0 ([])
def CR :Option Bool :=
 ((FY ([(⟨(⟨#[120]⟩:ByteArray),[107]⟩:Key)])).bind λd=>(Ec d.1 (⟨1,(⟨(⟨#[120]⟩:ByteArray),(⟨#[121]⟩:ByteArray)⟩:kL),(⟨#[109,101]⟩:ByteArray),(⟨zS,zS⟩:kL),(⟨zS,zS⟩:kL),zS⟩:kK)).bind λc=>(Km 3 (⟨2,0,0,zS,[],[c.1]⟩:pd)).bind λa=>(zc (⟨(⟨#[109,101]⟩:ByteArray),[(⟨c.1,(⟨3,0,(⟨zS,zS⟩:kL),[]⟩:Formula)⟩:nM)],[]⟩:mW) (⟨#[121,111,117]⟩:ByteArray) d.1 ([(⟨false,a⟩:nJ),(⟨true,a⟩:nJ)])).bind λu=>(zc (⟨(⟨#[109,101]⟩:ByteArray),[(⟨c.1,(⟨3,0,(⟨zS,zS⟩:kL),[]⟩:Formula)⟩:nM)],[]⟩:mW) (⟨#[121,111,117]⟩:ByteArray) d.1 ([(⟨false,a⟩:nJ)])).bind λv=>(Bs ([(⟨true,a⟩:nJ),(⟨false,a⟩:nJ)])).bind λj=>(if (c.2==0) then some (AD u (⟨1,44⟩:pg)) else some false).bind λw=>(if w then some (AD v (⟨1,0⟩:pg)) else some false).bind λk=>(if k then some ((j.length:Int)==1) else some false).bind λn=>(if n then (mT j 0).bind λt=>some (t==3) else some false).bind λo=>(if o then (DD d.1 ([(⟨false,a⟩:nJ)])).bind λi=>some ((i.length:Int)==1) else some false).bind λp=>(if p then (DX ([(⟨false,a⟩:nJ)])).bind λh=>some ((h.length:Int)==0) else some false).bind λq=>(if q then (zc (⟨(⟨#[109,101]⟩:ByteArray),[(⟨c.1,(⟨3,0,(⟨zS,zS⟩:kL),[]⟩:Formula)⟩:nM)],[]⟩:mW) (⟨#[121,111,117]⟩:ByteArray) none ([])).bind λg=>some (g.VP==1) else some false).bind λs=>some s)
def wR :List nJ→Int→Option Bool
 | [],a=>some (decide (a > 8000))
 | d::c,a=>wR c (wi0 .i64 (a+(wi0 .i64 (20+(d.B.length:Int)))))
def CO (a0:List nJ):Option Bool :=
 wR a0 0
def wV :Nat→Int→ByteArray→Int→Option ByteArray
 | 0,_,_,_=>none
 | n52+1,a,c,d=>(if (decide (d < 8)) then (xV (su ([IntKind.u8.wrap (Int.tmod a 256)])) c).bind λg=>(wV n52 (IntKind.u64.wrap (Int.tdiv a 256)) g (wi0 .i64 (d+1))) else some c)
def CK (a0:Int):Option ByteArray :=
 wV lP a0 zS 0
def DQ (a0:Int) (i:ByteArray):Option ByteArray :=
 ((ra a0).bind λj=>(tN i).bind λk=>(xV j k).bind λo=>(ra a0).bind λn=>(xV n i).bind λg=>(CC g).bind λa=>(CK a).bind λc=>(tN c).bind λd=>(xV o d).bind λh=>some h)
def sv (a0:pd):List Signed→Nat→Option Bool
 | [],_=>some true
 | c::d,a=>(FD c).bind λg=>(if (!g) then some true else (if (decide ((a:Int) > 0)) then (mT a0.mC (wi0 .i64 ((a:Int)-1))).bind λk=>((uu k.kK c.kK).bind λh=>some (decide (h≥0))) else some false).bind λj=>some j).bind λi=>(if i then some false else sv a0 d (a+1))
def pZ (a0:pd):Option Bool :=
 ((if (decide (a0.Kind < 1)) then some true else some (decide (a0.Kind > 5))).bind λx8=>(if x8 then some false else (if (a0.Kind != 1) then (if (!(mx a0.Name zS)) then some true else some (a0.oN != 0)).bind λh=>some h else some false).bind λn=>(if n then some true else (if (a0.Kind != 2) then some (decide ((wi0 .i64 ((a0.nU.length:Int)+(a0.mC.length:Int))) > 0)) else some false).bind λg=>some g).bind λo=>(if o then some true else (if (a0.Kind != 5) then some (a0.E != 0) else some false).bind λd=>some d).bind λp=>(if p then some false else if (a0.Kind==1) then (tQ a0.Name).bind λk=>((if k then some (decide (a0.oN≥1)) else some false).bind λq=>(if q then some (decide (a0.oN≤2)) else some false).bind λs=>some s) else if (a0.Kind==5) then (if (decide (a0.E≥1)) then some (decide (a0.E≤99)) else some false).bind λt=>some t else (if (decide ((a0.nU.length:Int) > 16)) then some true else some (decide ((a0.mC.length:Int) > 8))).bind λi=>(if i then some true else (E3 a0.nU).bind λa=>(yM a a0.nU).bind λc=>some (!c)).bind λj=>(if j then some false else sv a0 a0.mC 0))))
def rc (d:(Int×lj)):Nat→Int→(List Signed)→lj→Option ((List Signed)×lj)
 | 0,_,_,_=>none
 | j+1,h,c,a=>(if (decide (h < d.1)) then some (a.E==0) else some false).bind λk=>(if k then (AS a).bind λg=>((nF 160 c ([g.1])).bind λi=>rc d j (wi0 .i64 (h+1)) i g.2) else some (c,a))
def rp (d:(Int×lj)):Nat→Int→(List kL)→lj→Option ((List kL)×(List Signed)×lj)
 | 0,_,_,_=>none
 | n+1,i,c,a=>(if (decide (i < d.1)) then some (a.E==0) else some false).bind λo=>(if o then (oR a).bind λg=>((nF 32 c ([g.1])).bind λj=>rp d n (wi0 .i64 (i+1)) j g.2) else (mj a 8).bind λh=>(rc h lP 0 ([]) h.2).bind λ(k,p)=>some (c,k,p))
def DJ (a0:ByteArray):Option (pd×Int) :=
 ((mj (⟨a0,0⟩:lj) 9223372036854775807).bind λp=>(((if (p.2.E==0) then some (p.1==1) else some false).bind λw=>(if w then (oY p.2).bind λk=>((mj k.2 2).bind λn=>some (n.1,k.1,n.2)) else some (0,zS,p.2))):Option (Int×ByteArray×lj)).bind λ(y,z,x)=>(((if (x.E==0) then some (p.1==2) else some false).bind λv=>(if v then (mj x 16).bind λj=>rp j lP 0 ([]) j.2 else some (([]),[],x))):Option ((List kL)×(List Signed)×lj)).bind λ(d,g,a)=>(((if (a.E==0) then some (p.1==5) else some false).bind λu=>(if u then (mj a 99).bind λi=>some (i.1,i.2) else some (0,a))):Option (Int×lj)).bind λ(o,c)=>(((if (c.E==0) then (pZ (⟨p.1,y,o,z,d,g⟩:pd)).bind λq=>some (!q) else some false).bind λt=>(if t then some (⟨c.S,11⟩:lj) else some c)):Option lj).bind λs=>(sw s).bind λh=>(if (h != 0) then some ((⟨0,0,0,zS,[],[]⟩:pd),h) else some ((⟨p.1,y,o,z,d,g⟩:pd),0)))
def vE (a0:ByteArray):Option (Int×pd×Int) :=
 (if (decide ((a0.size:Int) > 4096)) then some (0,(⟨0,0,0,zS,[],[]⟩:pd),12) else (mj (⟨a0,0⟩:lj) 1099511627776).bind λo=>(nS o.2 2048).bind λg=>(nS g.2 8).bind λc=>(((if (c.2.E==0) then (if ((c.1.size:Int) != 8) then some true else some (o.1==0)).bind λn=>some n else some false).bind λk=>(if k then some (⟨c.2.S,11⟩:lj) else some c.2)):Option lj).bind λp=>(sw p).bind λi=>(((if (i==0) then (DQ o.1 g.1).bind λh=>some (!(mx a0 h)) else some false).bind λj=>(if j then some 20 else some i)):Option Int).bind λd=>(if (d != 0) then some (0,(⟨0,0,0,zS,[],[]⟩:pd),d) else (DJ g.1).bind λa=>(if (a.2 != 0) then some (0,(⟨0,0,0,zS,[],[]⟩:pd),a.2) else some (o.1,a.1,0))))
def tE :List nJ→(List Int)→Option (List Int)
 | [],a=>some a
 | d::c,a=>(vE (su d.B)).bind λh=>(if d.Out then (nF 8 a ([h.1])).bind λg=>(tE c g) else tE c a)
def Ej (a0:List nJ):Option (List Int) :=
 tE a0 ([])
def Bp (d:kK):List nM→Option (Signed×Bool)
 | []=>some ((⟨(⟨0,(⟨zS,zS⟩:kL),zS,(⟨zS,zS⟩:kL),(⟨zS,zS⟩:kL),zS⟩:kK),[]⟩:Signed),false)
 | a::c=>(if (nE a.Signed.kK d) then some (a.Signed,true) else Bp d c)
def D4 (a0:mW) (a:kK):Option (Signed×Bool) :=
 Bp a a0.nK
def vO (a0:List Key):List nJ→(List kK)→Option (List kK)
 | [],a=>(zK a).bind λi=>some i
 | g::c,a=>(vE (su g.B)).bind λd=>(if (!g.Out) then some (d.2.2==0) else some false).bind λj=>(if j then (GA a0 d.2.1.mC).bind λr408=>((nF 136 a r408).bind λh=>vO a0 c h) else vO a0 c a)
def BD (a0:List Key) (a:List nJ):Option (List kK) :=
 vO a0 a ([])
def wP (a0:mW) (a:List kL):List Signed→Option (Int ⊕ Unit)
 | []=>some (Sum.inr ())
 | h::d=>(Gb a0 h.kK).bind λc=>(if (c.2 != 0) then some true else (xv lP c.1 a).bind λg=>some (!g)).bind λi=>(if i then some (Sum.inl 44) else wP a0 a d)
def wS (a0:mW):List Signed→Option (Int ⊕ Unit)
 | []=>some (Sum.inr ())
 | c::g=>(D4 a0 c.kK).bind λa=>(if (!a.2) then some true else some (!(mx (su a.1.Tag) (su c.Tag)))).bind λd=>(if d then some (Sum.inl 42) else wS a0 g)
def tH (j:(Int×pd×Int)) (a4:ByteArray) (a0:mW) (a2:List Key) (a3:List nJ) (u:ByteArray):List nJ→Int→ByteArray→Option Int
 | [],a,d=>(if (decide (j.1 < a)) then some 43 else (if (j.1==a) then some (!(mx a4 d)) else some false).bind λt=>(if t then some 41 else ((wS a0 j.2.1.mC).bind λs=>match s with | .inl i=>some i | .inr _=>(BD a2 a3).bind λn=>(BQ n).bind λo=>(AO o u).bind λp=>((wP a0 p j.2.1.mC).bind λs=>match s with | .inl k=>some k | .inr _=>some 0))))
 | c::g,a,d=>(vE (su c.B)).bind λh=>(if c.Out then some (decide (h.1≥a)) else some false).bind λq=>(if q then tH j a4 a0 a2 a3 u g h.1 (su c.B) else tH j a4 a0 a2 a3 u g a d)
def CU (a0:mW) (c:ByteArray) (a2:List Key) (a3:List nJ) (a4:ByteArray):Option Int :=
 ((vE a4).bind λa=>(if (a.2.2 != 0) then some 11 else tH a a4 a0 a2 a3 c a3 0 zS))
def tm (a3:List nJ) (a0:mW) (g:ByteArray) (a2:List Key):List nJ→Nat→Option pg
 | [],_=>some (⟨(a3.length:Int),0⟩:pg)
 | d::a,i123=>(if (!d.Out) then tm a3 a0 g a2 a (i123+1) else (rr (decide (0≤(i123:Int))&&decide ((i123:Int)≤(a3.length:Int)))).bind λ_=>(CU a0 g a2 (a3.take (Int.toNat (i123:Int))) (su d.B)).bind λc=>(if (c != 0) then some (⟨(i123:Int),c⟩:pg) else tm a3 a0 g a2 a (i123+1)))
def FE (a0:mW) (a:ByteArray) (a2:List Key) (a3:List nJ):Option pg :=
 tm a3 a0 a a2 a3 0
def vX :List Signed→(List kK)→Option (List kK)
 | [],a=>some a
 | g::c,a=>(nF 136 a ([g.kK])).bind λd=>vX c d
def wo :List nJ→(List kK)→Option (List kK)
 | [],a=>(zK a).bind λi=>some i
 | g::d,a=>(vE (su g.B)).bind λc=>(if g.Out then some (c.2.2==0) else some false).bind λj=>(if j then (vX c.2.1.mC a).bind λh=>(wo d h) else wo d a)
def GD (a0:List nJ):Option (List kK) :=
 wo a0 ([])
def sa (n:List Int) (a0:mW) (a:((Option mN)×Int)) (a2:List nJ) (v:List Key):List Int→Nat→Option Bool
 | [],_=>(zc a0 (⟨#[98,111,98]⟩:ByteArray) a.1 a2).bind λd=>(FE a0 (⟨#[98,111,98]⟩:ByteArray) v a2).bind λg=>(if (AD d g) then (DD a.1 a2).bind λk=>((BD v a2).bind λo=>(BC k o).bind λp=>some p) else some false).bind λt=>(if t then (DX a2).bind λh=>((GD a2).bind λi=>(BC h i).bind λj=>some j) else some false).bind λu=>some u
 | q::c,i164=>(mT n (i164:Int)).bind λs=>(if (q != s) then some false else sa n a0 a a2 v c (i164+1))
def zt (a0:mW) (k:List Key) (a2:List nJ):Option Bool :=
 (CR.bind λn=>(if (!n) then some false else (FY k).bind λa=>(FO a0).bind λh=>(if (decide (h > 4000)) then some true else (CO a2).bind λg=>some g).bind λi=>(if i then some true else some (a.2 != 0)).bind λj=>(if j then some true else (Bs a2).bind λc=>(Ej a2).bind λd=>(if ((c.length:Int) != (d.length:Int)) then some false else sa d a0 a a2 k c 0))))
end
end Go.Proofs.YtlfibegniofmjaaGreat
