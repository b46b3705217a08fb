/- a part of a proof of ChangeLoses -/
import Derived.Test.YtjjjihkifgdhgaaGreatDoorRtVo
import Derived.Lib.ItoaNum
import Derived.Lib.Join
import Derived.Recover
import Derived.LaidEqlPtr
import Derived.RangeFuncRecord
import Derived.Lib.AppendStr
import Derived.Lib.Builder
import Derived.Lib.UnsafeStr
import Derived.Shelf.SlSortCmp.NoneTotal
import Derived.Shelf.SortM.Plain
import Derived.Shelf.SortM.SortNone
import Derived.Shelf.SlIter.Sorted
import Derived.Shelf.SlIter.Nil
import Derived.Shelf.Strconv.Itoa3
import Derived.Shelf.Strings.OnBuilder
import Derived.Test.YtjjjihkifgdhgaaGreatDoorProg
import Derived.KernelRfl
set_option linter.all false
namespace Go.Proofs.YtjjjihkifgdhgaaGreatDoor
open Go.IntKind renaming wrap → wi0
open Go.RowKit
variable [M:Md]
section
variable {dd:Bool}
def re {α:Type} (R:tu α):lE→List Value→α→Prop:=λμ vs x=>∃ys,vs=[.agg ys.toArray]∧R μ ys x
def vY {α β:Type} (R:tu α) (S:tu β):lE→List Value→α×β→Prop:=λμ vs x=>∃ys zs,vs=[.agg ys.toArray,.agg zs.toArray]∧R μ ys x.1∧S μ zs x.2
theorem re.mk {α:Type} {R:tu α} {k:Nat} {μ μ':lE} {ys:List Value} {x:α} (d:Deep R k) (h:R μ ys x) (i:lx μ μ'):re R μ' [.agg ys.toArray] x:=⟨ys,rfl,d.mono _ _ _ _ i h⟩
theorem vY.mk {α β:Type} {R:tu α} {S:tu β} {k m:Nat} {μ μ':lE} {ys zs:List Value} {x:α} {y:β} (j:Deep R k) (n:Deep S m) (h:R μ ys x) (i:S μ zs y) (d:lx μ μ'):vY R S μ' [.agg ys.toArray,.agg zs.toArray] (x,y) :=
 ⟨ys,zs,rfl,j.mono _ _ _ _ d h,n.mono _ _ _ _ d i⟩
def vL {α β:Type} (P:Program) (fv:Value) (μ:lE) (d:lE→List Value→α→Prop) (i:β→Value) (pm:α→Option β):Prop :=
 ∃f first caps,fv= .func (.func f) first caps∧(∀args w,(callFunc f args).run P w= .ok (.enter f args) w)∧∀W x vs r,lx μ (hp W)→d (hp W) vs x→pm x=some r→lC false P f (first.toList++(vs++caps.toList)) W (i r)
theorem vL.form {α β:Type} {P:Program} {fv:Value} {μ:lE} {d:lE→List Value→α→Prop} {i:β→Value} {pm:α→Option β} (h:vL P fv μ d i pm):∃f a b,fv= .func f a b:=let ⟨f,a,b,h,_⟩:=h; ⟨_,a,b,h⟩
end
section
variable {P:Program} {W:World} {E:Nat→Value} {d:Option Nat} {ty:TypeId} {pos:String} {af:Array Edge} {g:Option (Nat×Bool)} {F:Nat→Prop} {w:World} {μ μ0:lE} {L:List (Nat×Obj)}
theorem vL.mono {α β:Type} {fv:Value} {d:lE→List Value→α→Prop} {i:β→Value} {pm:α→Option β} (h:vL P fv μ d i pm) (p:lx μ μ0):vL P fv μ0 d i pm:=by
 obtain ⟨f,first,caps,h1,j,n⟩:=h
 exact ⟨f,first,caps,h1,j,λW x vs r h=>n W x vs r (p.trans h)⟩
theorem qQ {α β:Type} {K:Value→World→Prop} {fv:Value} {p:lE→List Value→α→Prop} {u:β→Value} {pm:α→Option β} {j:Operand} {ax:Array Operand} {ats:Array TypeId} (x:α) {vs:List Value} {r:β} (i:ST false F w W μ L) (J:vL P fv μ0 p u pm) (O:lx μ0 μ) (I:p (hp W) vs x) (M:kP E j=fv) (ha:ax.map (kP E)++(#[]:Array Value)=vs.toArray) (hm:pm x=some r) (h:∀W',ST false F w W' μ L→K (u r) W'):pb P E ⟨d,.call ⟨.value j,ax,ats⟩,ty,pos,af,g⟩ W K:=by
 obtain ⟨f,first,caps,rfl,v,z⟩:=J
 have n:ax.map (kP E)=vs.toArray:=by simpa using ha
 refine .inr (.inr ⟨f,(first.toList++(vs++caps.toList)).toArray,?_,dA (z W x vs r (O.trans i.kC) I hm) (λ_ _ ⟨A,G⟩=>⟨_,A,h _ (i.LH G)⟩)⟩)
 show (do let d ←resolve (kP E) ⟨.value j,ax,ats⟩ ty; invoke d.target d.args:Sem Next).run P W=_
 simp only [resolve,M,Deferred.ofValue,cJ,dG,bV,invoke,n,v]
 congr 2
 simp
end
section
variable {dd:Bool}
variable {β:Type} {Rl:tu β} {k:Nat} {μ:lE} {v:Value} {l:List β} {e:TypeId} {B:List (Nat×Obj)}
variable {F:Nat→Prop} {w W:World} {L:List (Nat×Obj)}
variable {P:Program} {E:Nat→Value} {d:Option Nat} {ty:TypeId} {pos:String} {af:Array Edge} {g:Option (Nat×Bool)}
theorem Pe {α:Type} {enc:α→List Value} (hk:∀x,(enc x).length=k) (d:0 < k) (i:∀x y,enc x=enc y→x=y):∀{l m:List α},(l.map enc).flatten=(m.map enc).flatten→l=m
 | [],[],_=>rfl
 | [],b::m,h=>by
  have:=bA List.length h
  simp only [dN,cK,aZ,aU,aV,aC,hk] at this
  omega
 | a::l,[],h=>by
  have:=bA List.length h
  simp only [dN,cK,aZ,aU,aV,aC,hk] at this
  omega
 | a::l,b::m,h=>by
  simp only [aU,aV] at h
  obtain ⟨h1,j⟩:=List.append_inj h (by rw [hk,hk])
  rw [i _ _ h1,Pe hk d i j]
theorem aa7 (x y:AN k) (h:yS x=yS y):x=y:=Subtype.ext h
theorem lh.pre {v1:Value} {cl d:List (AN k)} (n:0 < k) (h:lh e yS k v cl B) (h1:lh e yS k v1 d B) (j:d.length≤cl.length):d=cl.take d.length:=by
 rcases h with ⟨rfl,rfl,rfl⟩ | ⟨G,cap,i,rfl,rfl,I,J,L,A⟩
 ·simp at j; simp [j]
 ·rcases h1 with ⟨_,_,h⟩ | ⟨g1,p,u,rfl,w,E,a2,a3,a4⟩
  ·cases h
  ·cases w
   refine Pe Dp n aa7 ?_
   rw [←a4]
   have hle:d.length*k≤cl.length*k:=dr _ j
   have:i.toList.take (d.length*k)=(i.toList.take (cl.length*k)).take (d.length*k):=by rw [ig,dY hle]
   rw [this,A]
   have x:(cl.map yS).flatten=((cl.take d.length).map yS).flatten++((cl.drop d.length).map yS).flatten:=by rw [←bW,←cL,iD]
   have z:((cl.take d.length).map yS).flatten.length=d.length*k:=by rw [sn Dp,dI,dY j]
   rw [x,←z,jf]
theorem sD.replicate {α β:Type} {Q:α→β→Prop} {a:α} {b:β} (h:Q a b):∀n,sD Q (List.replicate n a) (List.replicate n b)
 | 0=>.nil
 | n+1=>.cons h (sD.replicate h n)
theorem sD.aa6 {α β:Type} {Q:α→β→Prop} {l:List α} {m:List β} (h:sD Q l m) {a:α} {b:β} (d:Q a b) (i:Nat):sD Q (rj l i a) (rj m i b):=by
 unfold rj
 rw [h.length]
 exact (h.take i).append (sD.replicate d _)
theorem LF {t e':TypeId} {x ih:Operand} {L:IntKind} {i:Int} (I:P.underlying t=some (.slice e')) (he:∀w,(sizeOf e').run P w= .ok k w) (J:kP E x=v) (A:kP E ih= .int L i) (h:mn e Rl k μ v l B) (p:0≤i) (G:i≤l.length) :
  ∃j,mn e Rl k μ j (l.take i.toNat) B∧∀W,nF P E ⟨d,.slice t x none (some ih) none,ty,pos,af,g⟩ W j W:=by
 obtain ⟨cl,h1,n⟩:=h
 obtain ⟨j,u,z⟩:=IK (d:=d) (ty:=ty) (pos:=pos) (af:=af) (g:=g) I he J A h1 Dp p (by rw [n.length]; exact G)
 exact ⟨j,⟨_,u,n.take _⟩,z⟩
theorem Fu {t e':TypeId} {x j:Operand} {J:IntKind} {i:Int} (G:P.underlying t=some (.slice e')) (he:∀w,(sizeOf e').run P w= .ok k w) (I:kP E x=v) (z:kP E j= .int J i) (h:mn e Rl k μ v l B) (n:0≤i) (A:i≤l.length) :
  ∃u,EY k v i.toNat u∧∀W,nF P E ⟨d,.slice t x (some j) none none,ty,pos,af,g⟩ W u W:=by
 obtain ⟨cl,h1,p⟩:=h
 exact DV G he I z h1 n (by rw [p.length]; exact A)
theorem SH {t e':TypeId} {x:Operand} {u:Value} {i:Nat} (n:P.underlying t=some (.slice e')) (p:kP E x=u) (hu:EY k v i u) (h:mn e Rl k μ v l B):nF P E ⟨d,.call ⟨.builtin .len,#[x],#[t]⟩,ty,pos,af,g⟩ W (.int .i64 ((l.length-i:Nat):Int)) W:=by
 obtain ⟨cl,h1,j⟩:=h
 rw [←j.length]
 exact NI n p hu h1
theorem FI {t e':TypeId} {x z:Operand} {U:IntKind} {i:Int} {x0:β} {u:Value} {o:Nat} {A:List Value→Prop} (O:∀{ys},Rl μ ys x0→A ys) (R:P.underlying t=some (.slice e')) (he:∀w,(sizeOf e').run P w= .ok k w) (T:kP E x=u) (L:kP E z= .int U i) (h:mn e Rl k μ v l B) (hu:EY k v o u) (G:0≤i) (M:(l.drop o)[i.toNat]? =some x0) :
  ∃p,(∃ys,A ys∧At (GN B) p ys∧Fc B k p (o+i.toNat))∧∀W,nF P E ⟨d,.indexAddr t x z,ty,pos,af,g⟩ W p W:=by
 obtain ⟨cl,h1,I⟩:=h
 obtain ⟨c,n,Q⟩:=(I.drop o).get M
 obtain ⟨p,j,J⟩:=D3 (d:=d) (ty:=ty) (pos:=pos) (af:=af) (g:=g) R he T L h1 hu G n
 exact ⟨p,⟨c.1,O Q,j.at h1 Dp (FL n),j⟩,J⟩
theorem Is {K:Value→World→Prop} {z:β} {zs:List Value} {Y:List (Nat×Obj)} {t e':TypeId} {x:Operand} {u p:Value} {i:Nat} (I:Deep Rl k) (n:ST dd F w W μ (B++Y)) (h:mn e Rl k μ v l B) (j:Rl μ zs z) (M:P.underlying t=some (.slice e')) (Q:∀w,(zeroValue e').run P w= .ok p w) (hu:EY k v i u) (L:p.cells=zs.toArray) (O:kP E x=u) (J:∀W' R',ST dd F w W' μ (R'++Y)→mn e Rl k μ v (rj l i z) R'→K (.tuple #[]) W'):pb P E ⟨d,.call ⟨.builtin .clear,#[x],#[t]⟩,ty,pos,af,g⟩ W K:=by
 obtain ⟨cl,h1,G⟩:=h
 exact GU (I.cell j) n h1 Dp VR M Q hu L O (λW' R' A a2=>J W' R' A ⟨_,a2,G.aa6 j i⟩)
end
section
variable {P:Program} {W:World} {E:Nat→Value} {d:Option Nat} {ty:TypeId} {pos:String} {af:Array Edge} {g:Option (Nat×Bool)}
theorem Vc {tx tv:TypeId} {x y:Operand} {fv:Value} {s u:Array TypeId} {bb:Bool} (j:P.underlying tx=some (.func s u bb)) (h:∃f a b,fv= .func f a b) (n:kP E x=fv) (p:kP E y= .nilFunc) :
  nF P E ⟨d,.binOp .neq tx x y tv,ty,pos,af,g⟩ W (.bool true) W:=by
 obtain ⟨f,a,b,rfl⟩:=h
 show (do let r ←(do eqGuard .neq tx x y (kP E x) (kP E y); binOp .neq tx (kP E x) (kP E y)); pure (.value r):Sem Next).run P W=_
 rw [n,p]
 have i:=Kt 9999 j f a b W
 simp [eqGuard,binOp,Op.equal,show Op.maxDepth=9999+1 from rfl,i]
end
end Go.Proofs.YtjjjihkifgdhgaaGreatDoor
namespace Go.Proofs.YtjjjihkifgdhgaaGreatDoor
open Go.IntKind renaming wrap → wi0
open Go.RowKit
variable [M:Md]
theorem bS {α β:Type} {m:Option α} {f:α→Option β} {r:β} {G:Prop} (h:m.bind f=some r) (k:∀x,m=some x→f x=some r→G):G :=
 let ⟨x,a,b⟩:=bind_some h
 k x a b
theorem sj {α:Type} {a b:α} (h:some a=some b):a=b:=fZ h
theorem bC {α:Type} {b:Bool} {x y r:α} {G:Prop} (h:(if b=true then x else y)=r) (d:b=true→x=r→G) (i:b=false→y=r→G):G:=by
 rcases TI b with e | e
 ·exact d e (Zs e h)
 ·exact i e (Zv e h)
theorem cB {a b:Bool} (h:a=b):Value.bool a=Value.bool b:=bA Value.bool h
theorem nb {a b:Nat} (h:Nat.ble a b=true:=by exact rfl):a≤b:=Nat.le_of_ble_eq_true h
def bmL:Nat→Nat→List Bool
 | 0,_=>[]
 | n+1,m=>(m % 2==1)::bmL n (m / 2)
def bm (n m:Nat):Array Bool:=(bmL n m).toArray
section
variable {P:Program} {n:Nat} {Q:tH} {E:Nat→Value} {W:World}
theorem CI {α:Type} {co:Operand} {b:Bool} {x y:Code} {A B r:α} (hm:(if b=true then A else B)=r) (d:kP E co= .bool b) (j:b=true→A=r→CW P n x Q E W) (i:b=false→B=r→CW P n y Q E W):CW P n (.cond co x y) Q E W :=
 Tg d (λe=>j e (Zs e hm)) (λe=>i e (Zv e hm))
theorem CJ {d ρ:Type} {m:Option d} {k:d→Option ρ} {r:ρ} {x:Code} {K:(Nat→Value)→World→Prop} (hm:m.bind k=some r) (I:d→(Nat→Value)→World→Prop) (h1:∀s,m=some s→CW P n x (tX (I s) Q) E W) (i:∀s E W,I s E W→k s=some r→K E W):CW P n x (tX K Q) E W :=
 let ⟨s,a,b⟩:=bind_some hm
 UM (I s) (h1 s a) (λE W h=>i s E W h b)
theorem CJs {i ρ d:Type} {m:Option (d ⊕ i)} {k:d ⊕ i→Option ρ} {r:ρ} {x:Code} {K:(Nat→Value)→World→Prop} (hm:m.bind k=some r) (I:i→(Nat→Value)→World→Prop) (h1:∀s,m=some s→k s=some r→CW P n x (tX (λE W=>∃t,s= .inr t∧I t E W) Q) E W) (j:∀s E W,I s E W→k (.inr s)=some r→K E W):CW P n x (tX K Q) E W :=
 let ⟨s,a,b⟩:=bind_some hm
 UM (λE W=>∃t,s= .inr t∧I t E W) (h1 s a b) (λE W ⟨t,e,h⟩=>j t E W h (by subst e; exact b))
theorem LJ {d ρ:Type} {m:Option d} {k:d→Option ρ} {r:ρ} {ops:Array Oper} {rest:List Oper} (hm:m.bind k=some r) (I:d→(Nat→Value)→World→Prop) (j:Nat) (i:∀s E W,I s E W→k s=some r→LW P n ops Q (rest.drop j) E W) (h1:∀s,m=some s→(∀E W,I s E W→LW P n ops Q (rest.drop j) E W)→LW P n ops Q rest E W):LW P n ops Q rest E W :=
 let ⟨s,a,b⟩:=bind_some hm
 h1 s a (λE W h=>i s E W h b)
theorem PJ {d ρ:Type} {m:Option d} {k:d→Option ρ} {r:ρ} {ops:Array Oper} {S:Array Bool→World→Prop} {fuel:Nat} {listed:Array Bool} (hm:m.bind k=some r) (I:d→(Nat→Value)→World→Prop) (j:Array Bool) (i:Nat) (p:∀s E W,I s E W→k s=some r→PX P n ops Q S i j E W) (h1:∀s,m=some s→(∀E W,I s E W→PX P n ops Q S i j E W)→PX P n ops Q S fuel listed E W):PX P n ops Q S fuel listed E W :=
 let ⟨s,a,b⟩:=bind_some hm
 h1 s a (λE W h=>p s E W h b)
theorem cF (n:Nat) {f:FuncId} {fn:Func} {c:Code} {args:List Value} {w:World} {R:Ending→World→Prop} (d:P.funcs[f]? =some fn) (hb:fn.body=some c) (h:@CW Fl P n c (Bh P fn R) (F0 args) w) (j:fn.ntmps=n:=by exact rfl) (i:args.length≤n:=by exact nb):Calls P f args.toArray w R:=Bu d hb j i h
end
section
variable {dd:Bool} {P:Program} {fn:Func} {E:Nat→Value} {W w:World} {μ:lE} {L:List (Nat×Obj)}
theorem rP {t:Tmp} {v:Value} (d:ST dd mN w W μ L) (i:fn.results=#[.tmp t]:=by exact rfl) (j:E t=v:=by exact rfl):Bh P fn (λe W'=>e= .returned v∧Ex dd w W') .ret E W:=nC i j ⟨rfl,d.ex⟩
end
theorem ST.I3 {dd:Bool} {F:Nat→Prop} {w W:World} {μ:lE} {x:Nat×Obj} {L:List (Nat×Obj)} (h:ST dd F w W μ (x::L)):ST dd F w W μ ([x]++L):=h
theorem ST.Zt {dd:Bool} {F:Nat→Prop} {w W:World} {μ:lE} {L:List (Nat×Obj)} (h:ST dd F w W μ L):ST dd F w W μ ([]++L):=h
theorem aL {E:Nat→Value} {ax:Array Operand} {l:List Value} (h:ax.toList.map (kP E)=l):ax.map (kP E)++(#[]:Array Value)=l.toArray:=by subst h; apply Array.ext'; simp
section
variable {dd:Bool}
variable {P:Program} {E:Nat→Value} {W:World} {d:Option Nat} {ty:TypeId} {pos:String} {af:Array Edge} {g:Option (Nat×Bool)}
 {F:Nat→Prop} {w:World} {μ:lE} {L:List (Nat×Obj)}
variable {f:FuncId} {fv:Operand} {ax:Array Operand} {ats:Array TypeId} {args:List Value} {v:Value} {K:Value→World→Prop}
theorem Eg (i:ST dd F w W μ L) (he:∀args w,(callFunc f args).run P w= .ok (.enter f args) w) (j:lC dd P f args W v) (h:∀W',ST dd F w W' μ L→K v W') (n:kP E fv= .func (.func f) #[] #[]:=by exact rfl) (ha:ax.toList.map (kP E)=args:=by exact rfl):pb P E ⟨d,.call ⟨.value fv,ax,ats⟩,ty,pos,af,g⟩ W K:=Jw i n he (aL ha) j h
theorem Ct {α:Type} {e:TypeId} {enc:α→List Value} {k:Nat} {l:List α} {Y:List (Nat×Obj)} (i:ST dd F w W μ Y) (he:∀args w,(callFunc f args).run P w= .ok (.enter f args) w) (j:pH dd P f args W e enc k l) (h:∀W' v μ' R,ST dd F w W' μ' (R++Y)→lx μ μ'→Lo F w μ μ'→lh e enc k v l R→K v W') (n:kP E fv= .func (.func f) #[] #[]:=by exact rfl) (ha:ax.toList.map (kP E)=args:=by exact rfl):pb P E ⟨d,.call ⟨.value fv,ax,ats⟩,ty,pos,af,g⟩ W K:=Sp _ i n he (aL ha) j h
theorem Df {K':Value→List (Nat×Obj)→World→Prop} {L0 L2:List (Nat×Obj)} (i:ST dd F w W μ L) (j:L.Perm (L0++L2)) (he:∀args w,(callFunc f args).run P w= .ok (.enter f args) w) (n:I4 L0 W→(L0.map (·.1)).Nodup→lx μ (ya W L0)→(∀b o,(b,o)∈L2→ya W L0 b=some o)→mi dd P f args W L0 K') (h:∀W' v μ' L1,ST dd F w W' μ' (L1++L2)→lx μ μ'→Lo F w μ μ'→(∀b,W.heap.size≤b→∀o,ya W' L1 b=some o→μ' b=some o)→K' v L1 W'→K v W') (p:kP E fv= .func (.func f) #[] #[]:=by exact rfl) (ha:ax.toList.map (kP E)=args:=by exact rfl):pb P E ⟨d,.call ⟨.value fv,ax,ats⟩,ty,pos,af,g⟩ W K :=
 Yb L0 L2 i j p he (aL ha) (λa b c d=>by have:=n a b c d; simpa using this) h
theorem EgD {K':Value→List (Nat×Obj)→lE→Prop} {L0 L2:List (Nat×Obj)} (i:ST dd F w W μ L) (j:L.Perm (L0++L2)) (he:∀args w,(callFunc f args).run P w= .ok (.enter f args) w) (n:I4 L0 W→(L0.map (·.1)).Nodup→lx μ (ya W L0)→(∀b o,(b,o)∈L2→ya W L0 b=some o)→ol dd P f args W μ L0 K') (h:∀W' v μ' L1,ST dd F w W' μ' (L1++L2)→lx μ μ'→Lo F w μ μ'→K' v L1 μ'→K v W') (p:kP E fv= .func (.func f) #[] #[]:=by exact rfl) (ha:ax.toList.map (kP E)=args:=by exact rfl):pb P E ⟨d,.call ⟨.value fv,ax,ats⟩,ty,pos,af,g⟩ W K :=
 WL L0 L2 i j p he (aL ha) (λa b c d=>by have:=n a b c d; simpa using this) h
end
section
variable {E:Nat→Value} {x1 x2 x3 x4 x5 x6 x7 x8:Operand} {v1 v2 v3 v4 v5 v6 v7 v8:Value}
theorem XD (h1:kP E x1=v1):[x1].map (kP E)=[v1]:=by rw [←h1]; rfl
theorem Zr (h1:kP E x1=v1) (d:kP E x2=v2):[x1,x2].map (kP E)=[v1,v2]:=by rw [←h1,←d]; rfl
end
theorem EU {P:Program} {E:Nat→Value} {W:World} {d:Option Nat} {ty:TypeId} {pos:String} {af:Array Edge} {g:Option (Nat×Bool)} {t e m k b o:Nat} {x j:Operand} {A:IntKind} {i:Int} (v:P.underlying t=some (.array m e)) (he:∀w,(sizeOf e).run P w= .ok k w) (z:kP E x= .pointer (some ⟨b,o,none⟩)) (p:kP E j= .int A i) (n:0≤i) (u:i < (m:Int)):nF P E ⟨d,.indexAddr t x j,ty,pos,af,g⟩ W (.pointer (some ⟨b,o+i.toNat*k,none⟩)) W:=by
 show (do pure (.value (←Instr.indexAt t (kP E x) (kP E j))):Sem Next).run P W=_
 rw [z,p]
 have hb:0≤i∧i < (m:Int):=⟨n,u⟩
 simp [Instr.indexAt,asIntOf,bI v,he W,hb,Instr.sureAddr,dQ]
end Go.Proofs.YtjjjihkifgdhgaaGreatDoor
namespace Go.Proofs.YtjjjihkifgdhgaaGreatDoor
open Go.IntKind renaming wrap → wi0
open Go.RowKit
def IxF (R:List (Nat×Obj)) (k:Nat) (p:Value) (i d:Nat):Prop:=∃g o,R=[(g,o)]∧p= .pointer (some ⟨g,i*k+d,none⟩)
theorem Fc.f {R:List (Nat×Obj)} {k:Nat} {p:Value} {i:Nat} (h:Fc R k p i):IxF R k p i 0:=h
section
variable {P:Program} {E:Nat→Value} {W:World} {d:Option Nat} {ty:TypeId} {pos:String} {af:Array Edge} {g:Option (Nat×Bool)}
 {dd:Bool} {F:Nat→Prop} {w:World} {μ:lE} {L:List (Nat×Obj)} {α:Type} {e':TypeId} {enc:α→List Value} {k:Nat} {v:Value} {l:List α} {R:List (Nat×Obj)}
theorem lh.put (h:lh e' enc k v l R) (hk:∀x,(enc x).length=k) {p:Value} {i:Nat} (hp:Fc R k p i) {x0:α} (I:l[i]? =some x0) (x1:α) :
  ∃g d,R=[(g,.cells d e' (0,0))]∧p= .pointer (some ⟨g,i*k,none⟩)∧i*k+k≤d.size∧(∀j y,(enc x0)[j]? =some y→d[i*k+j]? =some y)∧
   lh e' enc k v (l.set i x1) [(g,.cells (d.toList.take (i*k)++enc x1++d.toList.drop (i*k+k)).toArray e' (0,0))]:=by
 have z:i < l.length:=(bQ.1 I).1
 obtain ⟨E,d,cap,rfl,rfl,G,M,w,O,rfl,P⟩:=Fh h hk hp I
 have hle:i*k+k≤cap*k:=by
  have:(i+1)*k≤cap*k:=dr _ (by omega)
  rwa [du,jY] at this
 have n:i*k+k≤l.length*k:=by
  have:(i+1)*k≤l.length*k:=dr _ (by omega)
  rwa [du,jY] at this
 have hlen:l.length*k≤cap*k:=dr _ G
 refine ⟨E,d,rfl,rfl,by rw [w]; exact hle,P,.inr ⟨E,cap,_,by simp,rfl,by simpa using G,M,?_,?_⟩⟩
 ·show ((d.toList.take (i*k)++(enc x1)++d.toList.drop (i*k+k)).toArray).size=_
  have u:d.toList.length=cap*k:=by simpa using w
  rw [dV,aC,aC,dI,gw,hk,u,dY (by omega)]; omega
 ·rw [iQ,Kq hk l i x1 z,←O]
  have J:(d.toList.take (l.length*k)).take (i*k)=d.toList.take (i*k):=by rw [ig]; congr 1; omega
  have L:(d.toList.take (l.length*k)).drop (i*k+k)=(d.toList.drop (i*k+k)).take (l.length*k-(i*k+k)):=by rw [je]
  rw [J,L]
  show List.take (l.length*k) (d.toList.take (i*k)++enc x1++d.toList.drop (i*k+k))=_
  have u:d.toList.length=cap*k:=by simpa using w
  have A:(d.toList.take (i*k)++enc x1).length=i*k+k:=by rw [aC,dI,hk,u,dY (by omega)]
  rw [fL,dX (by rw [A]; exact n),A]
end
variable [M:Md]
theorem oc {v:Value} (h:v.cells.toList.all Value.oneCell'=true:=by exact rfl):∀u∈v.cells.toList,u.oneCell'=true:=dP.1 h
theorem dc {p:Prop} [Decidable p] (h:p:=by decide):p:=h
theorem kr {p:Prop} (h:p:=by kernel_rfl):p:=h
theorem br {α:Sort _} {a b:α} (h:a=b:=by rfl):a=b:=h
abbrev LO:=List (Nat×Obj)
abbrev Ob (c:Array Value) (t:TypeId):Obj:=.cells c t (0,0)
abbrev Ol (c:List Value) (t:TypeId):Obj:=.cells c.toArray t (0,0)
theorem oE {P:Program} {t e:TypeId} {m k:Nat} {z:Value} {d:Array (Nat×Value)} {cs:Array Value} (x:P.underlying t=some (.slice e)) (u:∀w,(sizeOf e).run P w= .ok k w) (E:∀w,(zeroValue e).run P w= .ok z w) (hm:m*k≤16777216:=by decide) (n:d.toList=(d.toList.map (·.2)).zipIdx.map (λp=>(p.2,p.1)):=by exact rfl) (A:(d.toList.map (·.2)).all (λv=>v.cells.size==k)=true:=by exact rfl) (j:(d.toList.map (·.2)).length=m:=by exact rfl) (i:((d.toList.map (·.2)).flatMap (λv=>v.cells.toList)).toArray=cs:=by exact rfl) (W:World) :
  (Instr.buildSlice t m d).run P W= .ok (.slice (some ⟨W.heap.size,0,none⟩) m m) (W.alloc (.cells cs e (0,0))) :=
 Fb _ x u E hm n (λv h=>eq_of_beq (dP.1 A v h)) j i W
section
variable {dd:Bool} {P:Program} {fn:Func} {E:Nat→Value} {W w:World} {μ:lE} {L L0:List (Nat×Obj)}
theorem rQ {α:Type} {f:α→Value} {a r:α} {t:Tmp} (hm:some a=some r) (d:ST dd mN w W μ L) (i:fn.results=#[.tmp t]:=by exact rfl) (j:E t=f a:=by exact rfl):Bh P fn (λe W'=>e= .returned (f r)∧Ex dd w W') .ret E W:=by
 obtain rfl:=sj hm; exact nC i j ⟨rfl,d.ex⟩
theorem cG (n:Nat) {f:FuncId} {c:Code} {args:List Value} {v:Value} (d:P.funcs[f]? =some fn) (hb:fn.body=some c) (h:ST dd mN w w (hp w) []→@CW Fl P n c (Bh P fn (λe p=>e= .returned v∧Ex dd w p)) (F0 args) w) (j:fn.ntmps=n:=by exact rfl) (i:args.length≤n:=by exact nb):lC dd P f args w v:=Bu d hb j i (h (ST.start w))
theorem Dg {K:Value→List (Nat×Obj)→World→Prop} (n:Nat) {f:FuncId} {c:Code} {args:List Value} (d:P.funcs[f]? =some fn) (hb:fn.body=some c) (h:ST dd mN w w (hp w) []→@CW Fl P n c (Bh P fn (λe i=>∃v L1,e= .returned v∧xv dd [] L1 w i∧K v L1 i)) (F0 args) w) (p:fn.ntmps=n:=by exact rfl) (j:args.length≤n:=by exact nb):mi dd P f args w [] K:=Bu d hb p j (h (ST.start w))
theorem xq {K:Value→List (Nat×Obj)→World→Prop} (j:pn μ L0 w) (n:Nat) {f:FuncId} {c:Code} {args:List Value} (d:P.funcs[f]? =some fn) (hb:fn.body=some c) (h:ST dd (keys L0) w w μ L0→@CW Fl P n c (Bh P fn (λe i=>∃v L1,e= .returned v∧xv dd L0 L1 w i∧K v L1 i)) (F0 args) w) (u:fn.ntmps=n:=by exact rfl) (p:args.length≤n:=by exact nb):mi dd P f args w L0 K:=Bu d hb u p (h (ST.MC j))
theorem Ak {K:Value→List (Nat×Obj)→lE→Prop} (j:pn μ L0 w) (n:Nat) {f:FuncId} {c:Code} {args:List Value} (d:P.funcs[f]? =some fn) (hb:fn.body=some c) (h:ST dd (keys L0) w w μ L0→@CW Fl P n c (Bh P fn (λe i=>∃v L1 μ1,e= .returned v∧xv dd L0 L1 w i∧lx μ μ1∧Lo (keys L0) w μ μ1∧lx μ1 (ya i L1)∧K v L1 μ1)) (F0 args) w) (u:fn.ntmps=n:=by exact rfl) (p:args.length≤n:=by exact nb):ol dd P f args w μ L0 K:=Bu d hb u p (h (ST.MC j))
end
section
variable {dd:Bool}
variable {P:Program} {E:Nat→Value} {W:World} {d:Option Nat} {ty:TypeId} {pos:String} {af:Array Edge} {g:Option (Nat×Bool)}
 {F:Nat→Prop} {w:World} {μ:lE} {L:List (Nat×Obj)}
variable {f:FuncId} {fv:Operand} {ax:Array Operand} {ats:Array TypeId} {args:List Value} {v:Value} {K:Value→World→Prop}
theorem eM {K':Value→List (Nat×Obj)→World→Prop} {L0 L2:List (Nat×Obj)} (i:ST dd F w W μ L) (j:L.Perm (L0++L2)) (he:∀args w,(callFunc f args).run P w= .ok (.enter f args) w) (n:pn (ya W L0) L0 W→lx μ (ya W L0)→mi dd P f args W L0 K') (h:∀W' v μ' L1,ST dd F w W' μ' (L1++L2)→lx μ μ'→Lo F w μ μ'→(∀b,W.heap.size≤b→∀o,ya W' L1 b=some o→μ' b=some o)→K' v L1 W'→K v W') (p:kP E fv= .func (.func f) #[] #[]:=by exact rfl) (ha:ax.toList.map (kP E)=args:=by exact rfl):pb P E ⟨d,.call ⟨.value fv,ax,ats⟩,ty,pos,af,g⟩ W K :=
 Df i j he (λa b c _=>n ⟨a,b,lx.refl _⟩ c) h p ha
theorem eD {K':Value→List (Nat×Obj)→lE→Prop} {L0 L2:List (Nat×Obj)} (i:ST dd F w W μ L) (j:L.Perm (L0++L2)) (he:∀args w,(callFunc f args).run P w= .ok (.enter f args) w) (n:pn μ L0 W→ol dd P f args W μ L0 K') (h:∀W' v μ' L1,ST dd F w W' μ' (L1++L2)→lx μ μ'→Lo F w μ μ'→K' v L1 μ'→K v W') (p:kP E fv= .func (.func f) #[] #[]:=by exact rfl) (ha:ax.toList.map (kP E)=args:=by exact rfl):pb P E ⟨d,.call ⟨.value fv,ax,ats⟩,ty,pos,af,g⟩ W K :=
 EgD i j he (λa b c _=>n ⟨a,b,c⟩) h p ha
end
def Ux (op:BinOp):Value→Value→Option Value
 | .int k a,.int k' b=>if k=k' then Ox k op a b else none
 | _,_=>none
def Zu (i:Nat):Value→Option Value
 | .tuple vs=>vs[i]?
 | _=>none
def OE:Value→Bool
 | .pointer (some ⟨_,_,none⟩)=>true
 | _=>false
def Zl (o:Nat):Value→Value
 | .pointer (some ⟨b,k,none⟩)=>.pointer (some ⟨b,k+o,none⟩)
 | v=>v
theorem NP {v:Value} (h:OE v=true):∃b k,v= .pointer (some ⟨b,k,none⟩):=by
 unfold OE at h; split at h
 ·exact ⟨_,_,rfl⟩
 ·cases h
section
variable {P:Program} {n:Nat} {Q:tH} {E:Nat→Value} {W:World} {ops:Array Oper} {rest:List Oper}
 {d j t:Nat} {want b:Bool} {v:Value} {ins:Go.Op} {ty:TypeId} {pos:String} {af:Array Edge} {A:Value→Prop} {x y:Operand}
theorem Wm (h:LW P n ops Q rest (qu E d (kP E x)) W) (i:d < n:=by decide):LW P n ops Q (⟨some d,.move x,ty,pos,af,none⟩::rest) E W:=V (kD rfl) h i
theorem Wa (h:LW P n ops Q rest (qu E d (kP E x)) W) (i:d < n:=by decide):LW P n ops Q (⟨some d,.assign x,ty,pos,af,none⟩::rest) E W:=V (oe rfl) h i
theorem Wh (j:kP E x=v) (h:LW P n ops Q rest (qu E d v) W) (i:d < n:=by decide):LW P n ops Q (⟨some d,.move x,ty,pos,af,none⟩::rest) E W:=V (kD j) h i
theorem Wg (j:kP E x=v) (h:LW P n ops Q rest (qu E d v) W) (i:d < n:=by decide):LW P n ops Q (⟨some d,.assign x,ty,pos,af,none⟩::rest) E W:=V (oe j) h i
theorem Wx {i:Nat} (j:Zu i (kP E x)=some v) (h:LW P n ops Q rest (qu E d v) W) (p:d < n:=by decide):LW P n ops Q (⟨some d,.extract x i,ty,pos,af,none⟩::rest) E W:=by
 unfold Zu at j; split at j
 ·rename_i vs e; exact V (Ei e j) h p
 ·cases j
theorem Wi {op:BinOp} {tx tv:TypeId} (i:Ux op (kP E x) (kP E y)=some v) (h:LW P n ops Q rest (qu E d v) W) (u:d < n:=by decide):LW P n ops Q (⟨some d,.binOp op tx x y tv,ty,pos,af,none⟩::rest) E W:=by
 unfold Ux at i; split at i
 ·rename_i k a k' b j p
  split at i
  ·rename_i e; subst e; exact V (lY j p i) h u
  ·cases i
 ·cases i
theorem Wf {t:TypeId} {f off:Nat} (i:mE P t f off) (h:LW P n ops Q rest (qu E d (Zl off (kP E x))) W) (hp:OE (kP E x)=true:=by exact rfl) (j:d < n:=by decide):LW P n ops Q (⟨some d,.fieldAddr t x f,ty,pos,af,none⟩::rest) E W:=by
 obtain ⟨b,k,e⟩:=NP hp
 refine V (kN i e) ?_ j
 rw [e] at h; exact h
theorem Wn (h:LW P n ops Q rest (qu E d (kP E x)) W) (hp:OE (kP E x)=true:=by exact rfl) (i:d < n:=by decide):LW P n ops Q (⟨some d,.nilCheck x,ty,pos,af,none⟩::rest) E W:=by
 obtain ⟨b,k,e⟩:=NP hp
 refine V (oV e) ?_ i
 rw [e] at h; exact h
theorem un (h:b=!want) (k:LW P n ops Q rest (qu E d undef) W) (p:(ops[j]?).bind (·.dst)=some t:=by exact rfl) (i:E t= .bool b:=by exact rfl) (v:t < n:=by decide) (u:d < n:=by decide) :
  LW P n ops Q (⟨some d,ins,ty,pos,af,some (j,want)⟩::rest) E W:=Vn p (by rw [i,h]) k v u
theorem ug (h:b=want) (w:nF P E ⟨some d,ins,ty,pos,af,some (j,want)⟩ W v W) (k:LW P n ops Q rest (qu E d v) W) (p:(ops[j]?).bind (·.dst)=some t:=by exact rfl) (i:E t= .bool b:=by exact rfl) (x:t < n:=by decide) (u:d < n:=by decide) :
  LW P n ops Q (⟨some d,ins,ty,pos,af,some (j,want)⟩::rest) E W:=Vg p (by rw [i,h]) w k x u
theorem ue (h:b=want) (k:pb P E ⟨some d,ins,ty,pos,af,some (j,want)⟩ W λv W'=>LW P n ops Q rest (qu E d v) W') (p:(ops[j]?).bind (·.dst)=some t:=by exact rfl) (i:E t= .bool b:=by exact rfl) (w:t < n:=by decide) (u:d < n:=by decide) :
  LW P n ops Q (⟨some d,ins,ty,pos,af,some (j,want)⟩::rest) E W:=UZ p (by rw [i,h]) k w u
theorem ugQ (h:b=want) (w:∃p,A p∧∀W,nF P E ⟨some d,ins,ty,pos,af,some (j,want)⟩ W p W) (k:∀p,A p→LW P n ops Q rest (qu E d p) W) (u:(ops[j]?).bind (·.dst)=some t:=by exact rfl) (i:E t= .bool b:=by exact rfl) (x:t < n:=by decide) (v:d < n:=by decide) :
  LW P n ops Q (⟨some d,ins,ty,pos,af,some (j,want)⟩::rest) E W:=VgQ u (by rw [i,h]) w k x v
section
variable {dd:Bool} {F:Nat→Prop} {w:World} {μ:lE} {L:List (Nat×Obj)} {T:TypeId} {a off:Nat} {cs:Array Value} {fr:Nat×Nat}
theorem VA {t:TypeId} (i:ST dd F w W μ L) (p:(a,Obj.cells cs T fr)∈L) (ys:List Value) (j:∀w,(isAgg t).run P w= .ok true w) (u:∀w,(sizeOf t).run P w= .ok ys.length w) (h:LW P n ops Q rest (qu E d (.agg ys.toArray)) W) (z:kP E x= .pointer (some ⟨a,off,none⟩):=by exact rfl) (A:(cs.toList.drop off).take ys.length=ys:=by exact rfl) (v:d < n:=by decide):LW P n ops Q (⟨some d,.load t x,ty,pos,af,none⟩::rest) E W:=V (kB z (kI i.has p ys A j u)) h v
theorem VB {t:TypeId} (i:ST dd F w W μ L) (p:(a,Obj.cells cs T fr)∈L) (z:kP E x= .pointer (some ⟨a,off,none⟩)) (A:cs[off]? =some v) (j:∀w,(isAgg t).run P w= .ok false w) (h:LW P n ops Q rest (qu E d v) W) (u:d < n:=by decide):LW P n ops Q (⟨some d,.load t x,ty,pos,af,none⟩::rest) E W:=V (kB z (lg i.has p A j)) h u
end
section
variable {K:(Nat→Value)→World→Prop} {Q':tH} {c:Code} {id id2:Nat} {l:List Oper} {z:Code}
theorem sg (h:LW P n l.toArray (tX (λE W=>CW P n c Q E W) Q) l E W):CW P n (.seq (.region id l.toArray false) c) Q E W:=kM (kK h)
theorem ln (h:K E W):LW P n ops (tX K Q) [] E W:=lu (kL h)
theorem lr (h:LW P n l.toArray (tX (λE W=>CW P n c Q E W) Q) l E W):LW P n ops (tX (λE W=>CW P n (.seq (.region id l.toArray false) c) Q E W) Q') [] E W:=lu (kL (kM (kK h)))
theorem lS (h:LW P n l.toArray (tX (λE W=>CW P n c (tX (λE W=>CW P n z Q E W) Q) E W) (tX (λE W=>CW P n z Q E W) Q)) l E W):LW P n ops (tX (λE W=>CW P n (.seq (.seq (.region id l.toArray false) c) z) Q E W) Q') [] E W:=lu (kL (kM (kM (kK h))))
theorem bg (h:LW P n l.toArray (tX (λE W=>CW P n c (Ai id2 Q) E W) (Ai id2 Q)) l E W):CW P n (.block id2 (.seq (.region id l.toArray false) c)) Q E W:=ma (kM (kK h))
theorem kg (h:LW P n l.toArray (tX (λE W=>CW P n c Q E W) Q) l E W):CW P n .skip (tX (λE W=>CW P n (.seq (.region id l.toArray false) c) Q E W) Q') E W:=nf (kL (kM (kK h)))
theorem kS (h:LW P n l.toArray (tX (λE W=>CW P n c (tX (λE W=>CW P n z Q E W) Q) E W) (tX (λE W=>CW P n z Q E W) Q)) l E W):CW P n .skip (tX (λE W=>CW P n (.seq (.seq (.region id l.toArray false) c) z) Q E W) Q') E W:=nf (kL (kM (kM (kK h))))
theorem lt (h:Q .ret E W):LW P n ops (tX (λE W=>CW P n .ret Q E W) Q') [] E W:=lu (kL (lJ h))
theorem kn (h:K E W):CW P n .skip (tX K Q) E W:=nf (kL h)
end
end
theorem sP.Xc {α:Type} {dd:Bool} {w W:World} {μ:lE} {L R:List (Nat×Obj)} {e:TypeId} {enc:α→List Value} {k:Nat} {v:Value} {l:List α} (h:sP e enc k v l R) (i:ST dd mN w W μ L) (j:∀p,p∈R→p∈L):Fr w.heap.size v:=by
 rcases h with ⟨rfl,rfl,rfl⟩ | ⟨g,off,cap,d,rfl,rfl,h1,n,u,x⟩
 ·exact Fr.nil _
 ·intro b hb
  simp [Value.ownBlock] at hb
  subst hb
  rcases (i.box g (.cells d e (0,0)) (j _ (bO.2 rfl))).2.2 with h | h
  ·exact h
  ·exact h.elim
theorem PU.mono {α β:Type} {P:Program} {fv:Value} {μ μ0:lE} {d:α→List Value} {i:β→Value} {pm:α→Option β} (h:PU P fv μ d i pm) (p:lx μ μ0):PU P fv μ0 d i pm:=by
 obtain ⟨f,caps,h1,j,n⟩:=h
 exact ⟨f,caps,h1,j,λW x r h=>n W x r (p.trans h)⟩
theorem PU.form {α β:Type} {P:Program} {fv:Value} {μ:lE} {d:α→List Value} {i:β→Value} {pm:α→Option β} (h:PU P fv μ d i pm):∃f a b,fv= .func f a b:=let ⟨f,b,h,_⟩:=h; ⟨_,_,b,h⟩
def FX (l s:ByteArray):Option ByteArray:=if l.size+s.size≤140737488355328 then some (l++s) else none
def VL (l:ByteArray):Option ByteArray:=some l
def nk (n:Int):ByteArray:=⟨(Go.Lib.itoa n).toArray⟩
def ur (n:Int):Option ByteArray:=if -9223372036854775808≤n∧n≤9223372036854775807 then some (nk n) else none
def Li (xs:List ByteArray) (sep:ByteArray):ByteArray:=⟨(Go.Lib.join (xs.map (·.data.toList)) sep.data.toList).toArray⟩
def Jo (xs:List ByteArray) (sep:ByteArray):Option ByteArray:=if (Li xs sep).size≤140737488355328∧xs.length≤140737488355328 then some (Li xs sep) else none
def ID (s:ByteArray):Option (List Int):=if (nq s).all (λx=>decide (x < 128)) then some (nq s) else none
end Go.Proofs.YtjjjihkifgdhgaaGreatDoor
namespace Go.Proofs.YtjjjihkifgdhgaaGreatDoor
open Go.IntKind renaming wrap → wi0
open Go.RowKit
section
variable {P:Program} {E:Nat→Value} {W:World} {d:Option Nat} {x y:Operand} {tx tv ty:TypeId} {pos:String} {af:Array Edge} {g:Option (Nat×Bool)} {ms:List (String×TypeId)}
theorem KD {tx e:TypeId} {k:Nat} {p:Addr} (dd:Nat) (i:P.underlying tx=some (.pointer e)) (d:∀w,(sizeOf e).run P w= .ok (k+1) w) (W:World):(Op.equalIn (dd+1) tx (.pointer (some p)) (.pointer (some p))).run P W= .ok true W:=by
 simp [Op.equalIn,bI i,d W,run_sameAddr_same]
theorem QJ {e:TypeId} {k:Nat} {p:Addr} (n:P.underlying tx=some (.pointer e)) (j:∀w,(sizeOf e).run P w= .ok (k+1) w) (u:kP E x= .pointer (some p)) (v:kP E y= .pointer (some p)):nF P E ⟨d,.binOp .neq tx x y tv,ty,pos,af,g⟩ W (.bool false) W:=by
 show (do let r ←(do eqGuard .neq tx x y (kP E x) (kP E y); binOp .neq tx (kP E x) (kP E y)); pure (.value r):Sem Next).run P W=_
 rw [u,v]
 have i:=KD (p:=p) 9999 n j W
 simp [eqGuard,binOp,Op.equal,Op.maxDepth,i]
end
theorem tR.form {κ γ:Type} {kenc:κ→Value} {Q:Value→γ→List (Nat×Obj)→Prop} {μ:lE} {v:Value} {l:List (κ×γ)} (h:tR kenc Q μ v l):∃m,v= .map m:=by
 obtain ⟨d,R,h,_⟩:=h
 obtain ⟨m,rfl⟩:=h.form
 exact ⟨_,rfl⟩
theorem ol.mono {dd:Bool} {P:Program} {f:FuncId} {args:List Value} {w:World} {μ0:lE} {L0:List (Nat×Obj)} {K K':Value→List (Nat×Obj)→lE→Prop} (h:ol dd P f args w μ0 L0 K) (hk:∀v L1 μ1,lx μ0 μ1→K v L1 μ1→K' v L1 μ1):ol dd P f args w μ0 L0 K' :=
 dA h λ_ _ ⟨v,L1,μ1,h1,i,d,j,n,p⟩=>⟨v,L1,μ1,h1,i,d,j,n,hk _ _ _ d p⟩
section
variable {dd:Bool} {F:Nat→Prop} {w W:World} {μ:lE} {L:List (Nat×Obj)} {l:Nat}
theorem EV {w:World} {b:Nat} {o:Obj} (h:b≠l):(w.putObj l o).heap[b]? =w.heap[b]?:=World.putObj_heap_other h
theorem ST.frame (h:ST dd F w W μ L) (o:Obj) (p:l < w.heap.size) (n:¬F l) (hm:μ l=none):ST dd F (w.putObj l o) (W.putObj l o) μ L:=by
 refine ⟨h.os,h.tape,h.output,h.drawn,by simpa using h.size,λb hb u=>?_,λb x hb=>?_,λb x hb=>?_,h.nd⟩
 ·by_cases d:b=l
  ·subst d
   rw [World.putObj_heap_same (by have:=h.size; omega),World.putObj_heap_same p]
  ·rw [EV d,EV d]
   exact h.nL b (by simpa using hb) u
 ·have d:b≠l:=λe=>by rw [e,hm] at hb; cases hb
  rw [EV d]; exact h.mem b x hb
 ·obtain ⟨h1,j,i⟩:=h.box b x hb
  have d:b≠l:=λe=>by
   subst e
   rcases i with i | i
   ·omega
   ·exact n i
  rw [EV d]
  exact ⟨h1,j,by simpa using i⟩
end
theorem Iy (s:ByteArray):Go.Lib.strCells s=((nq s).map (mh .u8)).flatten:=by
 unfold Go.Lib.strCells nq
 induction s.data.toList with
 | nil=>rfl
 | cons b l ih=>simp only [aU,aV,ih]; rfl
theorem KE (k:IntKind) (l:List Int):((l.map (mh k)).flatten).length=l.length:=by
 rw [sn (k:=1) (λ_=>rfl),jv]
section
variable {P:Program} {dd:Bool} {F:Nat→Prop} {w W:World} {μ:lE} {R:List (Nat×Obj)} {E:Nat→Value} {d:Option Nat} {ty:TypeId} {pos:String} {af:Array Edge} {g:Option (Nat×Bool)}
theorem QS {K:Value→World→Prop} {e t u:TypeId} {v:Value} {l r:List Int} {str:ByteArray} (X:List (Nat×Obj)) {Y:List (Nat×Obj)} {x y:Operand} {i:TypeInfo} (z:ST dd F w W μ (X++(R++Y))) (ht:P.underlying t=some (.slice e)) (hu:P.underlying u=some .string) (hi:P.info? e=some i) (hz:i.zero=some (.int .u8 0)) (O:i.size=1) (U:i.bytes=1) (hx:kP E x=v) (hy:kP E y= .string str) (hR:lh e (mh .u8) 1 v l R) (hb:nm 1 l (nq str)=some r) (h:∀W' v' R',ST dd F w W' μ (X++(R'++Y))→lh e (mh .u8) 1 v' r R'→(v= .slice none 0 0→str.size=0→v'= .slice none 0 0)→K v' W'):pb P E ⟨d,.call ⟨.builtin .append,#[x,y],#[t,u]⟩,ty,pos,af,g⟩ W K:=by
 unfold nm at hb
 split at hb
 case isFalse=>cases hb
 rename_i T
 cases hb
 rw [ot,jv] at T
 obtain ⟨a1,Q⟩:=T
 have hM:maxLen=9223372036854775807:=by unfold maxLen; rfl
 have I:∀(V:Value) (W':World),(Builtin.append_ #[t,u] ty #[v,.string str]).run P W= .ok V W'→(execOp (kP E) ⟨d,.call ⟨.builtin .append,#[x,y],#[t,u]⟩,ty,pos,af,g⟩).run P W= .ok (.value V) W':=by
  intro V W' hV
  show (do let d ←resolve (kP E) ⟨.builtin .append,#[x,y],#[t,u]⟩ ty; invoke d.target d.args:Sem Next).run P W=_
  simp [resolve,invoke,builtin,hx,hy,hV]
 have A:((l++nq str).map (mh .u8)).flatten=(l.map (mh .u8)).flatten++Go.Lib.strCells str:=by rw [cL,bW,Iy]
 have n:(l++nq str).length=l.length+str.size:=by rw [aC,ot]
 have ad:(Value.int IntKind.u8 0).cells.size=1:=rfl
 have fresh:∀(nL:Nat) (L':List (Nat×Obj)),¬(v= .slice none 0 0∧str.size=0)→ST dd F w W μ L'→L'.Perm (X++Y)→(Builtin.append_ #[t,u] ty #[v,.string str]).run P W= .ok (.slice (some ⟨W.heap.size,0,none⟩) (l.length+str.size) (grownCap W (l.length+str.size) nL e))
    (W.drew.alloc (.cells (((l.map (mh .u8)).flatten++Go.Lib.strCells str).toArray++Builtin.zeroCells (Value.int .u8 0).cells (grownCap W (l.length+str.size) nL e-(l.length+str.size))) e))→
   pb P E ⟨d,.call ⟨.builtin .append,#[x,y],#[t,u]⟩,ty,pos,af,g⟩ W K:=by
  intro nL L' hv M hp L
  have a8:=grownCap_ge W (l.length+str.size) nL e
  have a7:grownCap W (l.length+str.size) nL e≤maxLen:=jd W (l.length+str.size) nL e Q
  have hlen:((l.map (mh .u8)).flatten++Go.Lib.strCells str).length=l.length+str.size:=by rw [aC,KE,ir]
  generalize Z:((l.map (mh .u8)).flatten++Go.Lib.strCells str).toArray++Builtin.zeroCells (Value.int .u8 0).cells (grownCap W (l.length+str.size) nL e-(l.length+str.size))=cs at L
  refine .inl ⟨_,_,I _ _ L,h _ _ [(W.heap.size,.cells cs e)] ?_ (.inr ⟨W.heap.size,_,cs,by rw [n],rfl,by rw [n]; exact a8,a7,?_,?_⟩) λq1 q2=>absurd ⟨q1,q2⟩ hv⟩
  ·exact ((M.perm hp).drew.alloc _).perm (List.perm_middle.symm)
  ·subst Z
   simp only [Array.size_append,dV,size_zeroCells,ad,hlen]
   omega
  ·subst Z
   rw [n,A,jv,←hlen]
   simp only [Array.toList_append]
   exact jf
 rcases hR with ⟨rfl,rfl,rfl⟩ | ⟨J,cap,p,rfl,rfl,q1,q2,q3,q4⟩
 ·rcases eo str.size with M | M
  ·have hf:=Go.Lib.run_firstCells_string (P:=P) W 1 str
   have a6:nq str=[]:=aJ (by rw [ot]; exact M)
   refine .inl ⟨.slice none 0 0,W,I _ _ ?_,h W _ [] z (.inl ⟨rfl,by rw [a6]; rfl,rfl⟩) λ_ _=>rfl⟩
   simp [Builtin.append_,bI ht,bI hu,sizeOf,typeInfo,hi,O,Builtin.lenOf,M]
   rw [M] at hf
   simp [hf]
  ·have L:=run_append_nil_string (P:=P) W t u ty e i (.int .u8 0) ht hu hi hz str M (by simp at Q; omega) (by rw [U]; simp at a1; omega)
   refine fresh 0 _ (λq=>by omega) z (.refl _) ?_
   have e1:(str.data.map λb=>Value.int .u8 b.toNat)=(Go.Lib.strCells str).toArray:=by
    apply Array.ext'
    simp [Go.Lib.strCells]
   rw [e1] at L
   simpa using L
 ·have hg:=(z.box J (.cells p e (0,0)) (by simp)).1
  by_cases G:l.length+str.size≤cap
  ·have L:=Go.Lib.run_append_room_string (P:=P) W t u ty e i ht hu hi O J l.length cap p hg str G (by omega)
   refine .inl ⟨_,_,I _ _ L,h _ _ [(J,_)] (ST.put z ⟨rfl,rfl,rfl,aR _,by simp⟩ (λk hk=>setRow_other W J k _ hk) (setRow_heap W J p _ e _ hg)) (.inr ⟨J,cap,_,by rw [n],rfl,by rw [n]; exact G,q2,?_,?_⟩) λq=>by cases q⟩
   ·simp only [dV,aC,dI,gw,dF,ir]
    omega
   ·have ab:p.toList.take l.length=(l.map (mh .u8)).flatten:=by simpa using q4
    rw [n,A,jv,ab,show l.length+str.size=((l.map (mh .u8)).flatten++Go.Lib.strCells str).length by rw [aC,KE,ir]]
    simp only [aM]
    rw [←aM]
    exact jf
  ·have holds:∀j u,((l.map (mh .u8)).flatten)[j]? =some u→W.cell? ((⟨J,0,none⟩:Addr).add j)=some u:=by
    intro j u hj
    rw [dQ,fA W J (0+j) p e (0,0) hg,eO]
    rw [←q4] at hj
    have aa:=(bQ.1 hj).1
    rw [dI] at aa
    rw [dS (by omega)] at hj
    simpa using hj
   have L:=Go.Lib.run_append_grow_string (P:=P) W t u ty e i (.int .u8 0) ht hu hi hz ⟨J,0,none⟩ l.length cap ((l.map (mh .u8)).flatten) (by rw [KE,O,jv]) holds str (by omega) (by omega) (by rw [U]; exact growslice_fits (by omega) (by omega))
   refine fresh cap (X++Y) (λq=>by cases q.1) (z.sublist (by simp)) (.refl _) ?_
   simpa using L
theorem Vb {s t:TypeId} {x:Operand} {v i:Value} (j:kP E x=v) (h:(convert s t v).run P W= .ok i W):nF P E ⟨d,.convert s t x,ty,pos,af,g⟩ W i W:=by
 show (do pure (.value (←convert s t (kP E x))):Sem Next).run P W=_
 rw [j]
 simp only [cJ,h,bV,dG]
theorem Kw {b:Nat} {cs:Array Value} {T:TypeId} {fr:Nat×Nat} {W:World} (h:W.heap[b]? =some (.cells cs T fr)):W.shape? b=some (T,cs.size):=by simp [World.shape?,h]
def MY (T e:TypeId) (v:Value) (l:ByteArray) (R:List (Nat×Obj)):Prop :=
 ∃b a u S,v= .pointer (some ⟨b,0,none⟩)∧(a= .pointer none∨a= .pointer (some ⟨b,0,none⟩))∧R=(b,.cells #[a,u] T (0,0))::S∧lh e (mh .u8) 1 u (nq l) S∧(l.size=0→u= .slice none 0 0)
theorem Tl (l s:ByteArray):nq (l++s)=nq l++nq s:=by
 simp [nq,ByteArray.data_append]
theorem Vx {l s r:ByteArray} (h:FX l s=some r):nm 1 (nq l) (nq s)=some (nq r):=by
 unfold FX at h
 split at h
 case isFalse=>cases h
 rename_i hb
 cases h
 unfold nm
 rw [ot,ot,Tl,bD ⟨by omega,by unfold maxLen; omega⟩]
theorem Wc {l s r:ByteArray} (h:FX l s=some r) (d:r.size=0):l.size=0∧s.size=0:=by
 unfold FX at h
 split at h
 case isFalse=>cases h
 cases h
 rw [aD] at d
 omega
theorem GF (w:World) (g n k:Nat) (hk:k≠g):(w.freeze ⟨g,0,none⟩ n).heap[k]? =w.heap[k]?:=by
 unfold World.freeze
 split
 ·rfl
 ·simp [ed,Ne.symm hk]
theorem US {L:List (Nat×Obj)} {g n:Nat} {o:Obj} (d:ST dd F w W μ ((g,o)::L)):ST dd F w (W.freeze ⟨g,0,none⟩ n) μ L:=by
 have h1:=d.sublist (List.sublist_cons_self _ _)
 have v:=d.box g o (.head _)
 have j:∀b q,(b,q)∈L→b≠g:=λb q hb e=>by
  subst e
  have:=d.nd
  simp only [aU,dO] at this
  exact this.1 (aS.2 ⟨_,hb,rfl⟩)
 have p:(W.freeze ⟨g,0,none⟩ n).heap.size=W.heap.size:=by unfold World.freeze; split <;> simp
 have i:(W.freeze ⟨g,0,none⟩ n).os=W.os∧(W.freeze ⟨g,0,none⟩ n).tape=W.tape∧(W.freeze ⟨g,0,none⟩ n).output=W.output∧(W.freeze ⟨g,0,none⟩ n).drawn=W.drawn:=by unfold World.freeze; split <;> exact ⟨rfl,rfl,rfl,rfl⟩
 refine ⟨i.1.trans h1.os,i.2.1.trans h1.tape,i.2.2.1.trans h1.output,by rw [i.2.2.2]; exact h1.drawn,by rw [p]; exact h1.size,λb hb u=>?_,λb q hb=>?_,λb q hb=>?_,h1.nd⟩
 ·rw [GF _ _ _ _ (λe=>by subst e; rcases v.2.2 with h | h; omega; exact u h)]; exact h1.nL b hb u
 ·rw [GF _ _ _ _ (λe=>by subst e; rw [v.2.1] at hb; cases hb)]; exact h1.mem b q hb
 ·rw [GF _ _ _ _ (j b q hb)]; exact h1.box b q hb
theorem Wu {x:Operand} {u:Value} {ats:Array TypeId} {q:Option Addr} (j:kP E x=u) (h:∃a n c,u= .slice a n c∧(a=none∨c≠0)∧q=a):nF P E ⟨d,.call ⟨.builtin .unsafeSliceData,#[x],ats⟩,ty,pos,af,g⟩ W (.pointer q) W:=by
 obtain ⟨a,n,c,rfl,h1,rfl⟩:=h
 show (do let d ←resolve (kP E) ⟨.builtin .unsafeSliceData,#[x],ats⟩ ty; invoke d.target d.args:Sem Next).run P W=_
 have i:(Builtin.unsafeSliceData_ ats ty #[.slice q n c]).run P W= .ok (.pointer q) W:=by
  rcases q with _ | a
  ·exact Go.Lib.run_unsafeSliceData_nil (P:=P) W _ _ _ _
  ·exact Go.Lib.run_unsafeSliceData_row (P:=P) W _ _ _ _ _ (h1.resolve_left (by simp))
 simp [resolve,invoke,builtin,j,i]
theorem Lj {K:Value→World→Prop} {L:List (Nat×Obj)} {t e:TypeId} (i:ST dd F w W μ L) (j:∀w,(zeroValue t).run P w= .ok (.agg #[.pointer none,.slice none 0 0]) w) (h:∀W' v R,ST dd F w W' μ (R++L)→MY t e v ⟨#[]⟩ R→K v W'):pb P E ⟨d,.alloc t,ty,pos,af,g⟩ W K :=
 ml i j λW' b i=>h W' _ [(b,_)] i ⟨b,_,_,[],rfl,.inl rfl,rfl,.inl ⟨rfl,rfl,rfl⟩,λ_=>rfl⟩
theorem SX {l:ByteArray} (h:nq l=[]):l=⟨#[]⟩:=by
 have:l.data.toList=[]:=by simpa [nq] using h
 exact gK (by simpa using this)
theorem QI {K:Value→World→Prop} {L S:List (Nat×Obj)} {x y:Operand} {v it e:TypeId} {q:Option Addr} {l:ByteArray} {n c:Nat} (p:ST dd F w W μ (S++L)) (hp:P.underlying v=some (.pointer e)) (hc:P.cellsOf e=1) (hx:kP E x= .pointer q) (hy:kP E y= .int .i64 (n:Nat)) (Y:lh e (mh .u8) 1 (.slice q n c) (nq l) S) (h:∀W',ST dd F w W' μ L→K (.string l) W'):pb P E ⟨d,.call ⟨.builtin .unsafeString,#[x,y],#[v,it]⟩,ty,pos,af,g⟩ W K:=by
 have u:∀(V:Value) (W':World),(Builtin.unsafeString_ #[v,it] ty #[.pointer q,.int .i64 (n:Nat)]).run P W= .ok V W'→(execOp (kP E) ⟨d,.call ⟨.builtin .unsafeString,#[x,y],#[v,it]⟩,ty,pos,af,g⟩).run P W= .ok (.value V) W':=by
  intro V W' Z
  show (do let d ←resolve (kP E) ⟨.builtin .unsafeString,#[x,y],#[v,it]⟩ ty; invoke d.target d.args:Sem Next).run P W=_
  simp [resolve,invoke,builtin,hx,hy,Z]
 have none:nq l=[]→n=0→∀O:ST dd F w W μ L,pb P E ⟨d,.call ⟨.builtin .unsafeString,#[x,y],#[v,it]⟩,ty,pos,af,g⟩ W K:=by
  intro h1 G O
  subst G
  rw [SX h1] at h
  exact .inl ⟨_,_,u _ _ (Go.Lib.run_unsafeString_none (P:=P) W v it ty q),h W O⟩
 rcases Y with ⟨h1,G,rfl⟩ | ⟨z,cap,i,h1,rfl,q1,q2,q3,q4⟩
 ·cases h1
  exact none G rfl p
 ·cases h1
  by_cases A:nq l=[]
  ·exact none A (by rw [A]; rfl) (p.sublist (by simp))
  ·have J:l.data.toList≠[]:=by simpa [nq] using A
   have I:(nq l).length=l.data.toList.length:=by simp [nq]
   have Q:=(p.box z (.cells i e (0,0)) (by simp)).1
   have T:=Go.Lib.run_unsafeString_row (P:=P) W v it ty e hp hc z i.size (Kw Q) l.data.toList J (by omega) (by unfold maxLen at q2; omega) (λj x R=>by
    rw [dQ,fA W z (0+j) i e (0,0) Q,eO]
    have a1:=(bQ.1 R).1
    have M:(i.toList.take ((nq l).length*1))[j]? =some (.int .u8 x.toNat):=by
     rw [q4,←Iy]
     simp only [Go.Lib.strCells,eU,R]
     rfl
    rw [dS (by omega)] at M
    simpa using M)
   rw [←I] at T
   refine .inl ⟨_,_,u _ _ T,?_⟩
   have U:(⟨l.data.toList.toArray⟩:ByteArray)=l:=gK (by simp)
   rw [U]
   exact h _ (US p)
end
def Cx (P:Program) (μ:lE):Prop:=∃g T fr,P.globalNamed "internal/strconv.uint64pow10"=some g∧μ g=some (.cells (Go.Lib.pow10Tab.map λz=>Value.int .u64 z).toArray T fr)
theorem Cx.mono {P:Program} {μ μ':lE} (h:Cx P μ) (i:lx μ μ'):Cx P μ':=by
 obtain ⟨g,T,fr,h1,d⟩:=h
 exact ⟨g,T,fr,h1,i _ _ d⟩
def JE (v:Value) (left:List Int) (R:List (Nat×Obj)):Prop :=
 ∃(it:Nat) (s:ByteArray) (pos:Nat),v= .pointer (some ⟨it,0,none⟩)∧R=[(it,.stringIter s pos)]∧left=(nq s).drop pos∧∀x∈left,x < 128
section
variable {dd:Bool}
variable {P:Program} {W:World} {E:Nat→Value} {d:Option Nat} {ty:TypeId} {ps:String} {af:Array Edge} {g:Option (Nat×Bool)} {F:Nat→Prop} {w:World} {μ:lE} {L R:List (Nat×Obj)} {v:Value} {left:List Int}
theorem WR {p:Value→World→Prop} {t:TypeId} {x:Operand} {s:ByteArray} {l:List Int} (z:P.underlying t=some .string) (j:ST dd F w W μ L) (n:kP E x= .string s) (i:ID s=some l) (u:∀W' v R,ST dd F w W' μ (R++L)→JE v l R→p v W'):pb P E ⟨d,.range t x,ty,ps,af,g⟩ W p:=by
 unfold ID at i
 split at i
 ·rename_i ha
  cases i
  refine .inl ⟨_,_,?_,u (W.alloc (.stringIter s 0)) (.pointer (some ⟨W.heap.size,0,none⟩)) [(W.heap.size,_)] (j.alloc _) ⟨_,s,0,rfl,rfl,rfl,λx n=>?_⟩⟩
  ·show (do pure (.value (←Instr.range t (kP E x))):Sem Next).run P W=_
   rw [n]; simp [Instr.range,bI z]
  ·simpa using dP.1 ha x n
 ·cases i
theorem Yu {J:Value→World→Prop} (X:List (Nat×Obj)) {Y:List (Nat×Obj)} {x:Operand} (u:ST dd F w W μ (X++(R++Y))) (h:JE v left R) (O:kP E x=v) (G:left=[]→J (.tuple #[.bool false]) W) (n:∀W' R' p j (i:Nat),left=p::j→ST dd F w W' μ (X++(R'++Y))→JE v j R'→J (.tuple #[.bool true,.int .i64 i,.int .i32 p]) W') :
  pb P E ⟨d,.next x true,ty,ps,af,g⟩ W J:=by
 have T:∀Q W',(Instr.next v true ty).run P W= .ok Q W'→(execOp (kP E) ⟨d,.next x true,ty,ps,af,g⟩).run P W= .ok (.value Q) W':=by
  intro Q W' hv
  show (do pure (.value (←Instr.next (kP E x) true ty)):Sem Next).run P W=_
  rw [O]; simp [hv]
 obtain ⟨it,s,pos,rfl,rfl,I,ha⟩:=h
 have hb:=(u.box it (.stringIter s pos) (by simp)).1
 have hlen:s.data.toList.length=s.size:=by rw [dF]; rfl
 by_cases hp:pos < s.size
 ·have L:(nq s).drop pos=((s.data.toList[pos]'(by omega)).toNat:Int)::(nq s).drop (pos+1):=by
   have h1:pos < (nq s).length:=by rw [ot]; exact hp
   rw [List.drop_eq_getElem_cons h1]
   congr 1
   simp [nq]
  have M:(s.data.toList[pos]'(by omega)).toNat < 128:=by
   have:=ha ((s.data.toList[pos]'(by omega)).toNat:Int) (by rw [I,L]; exact List.mem_cons_self)
   omega
  have Z:s.get! pos=s.data.toList[pos]'(by omega):=by
   have U:pos < s.data.size:=hp
   show s.data[pos]! =_
   rw [jP s.data pos U]; simp
  have z:Utf8.decode s pos=((s.data.toList[pos]'(by omega)).toNat,1):=by
   unfold Utf8.decode
   simp only [fD,Z]
   rw [bD M]
  refine .inl ⟨_,_,T _ _ ?_,n (ChangeMaps.setBlock W it (.stringIter s (pos+1))) [(it,_)] _ ((nq s).drop (pos+1)) pos (I.trans L) (ST.setBlock (A:=X) u _) ⟨it,s,pos+1,rfl,rfl,rfl,λx O=>ha x (by rw [I,L]; simp [O])⟩⟩
  simp only [Instr.next,getObj,setObj,cJ,Sem.run,hb,Result.andThen,hp,aK,z]
  simp [goInt,ChangeMaps.setBlock,hb,Sem.run,cJ,Result.andThen]
 ·refine .inl ⟨.tuple #[.bool false],W,T _ _ ?_,G ?_⟩
  ·simp only [Instr.next,getObj,cJ,Sem.run,hb,Result.andThen,hp,aI]
   rfl
  ·rw [I]; exact List.drop_eq_nil_of_le (by rw [ot]; omega)
theorem Yd {z:Value→World→Prop} {Y:List (Nat×Obj)} {x:Operand} (A:ST dd F w W μ (R++Y)) (h:JE v left R) (G:kP E x=v) (u:left=[]→z (.tuple #[.bool false]) W) (n:∀W' R' p j (i:Nat),left=p::j→ST dd F w W' μ (R'++Y)→JE v j R'→z (.tuple #[.bool true,.int .i64 i,.int .i32 p]) W') :
  pb P E ⟨d,.next x true,ty,ps,af,g⟩ W z:=Yu [] A h G u n
end
end Go.Proofs.YtjjjihkifgdhgaaGreatDoor
namespace Go.Proofs.YtjjjihkifgdhgaaGreatDoor
open Go.IntKind renaming wrap → wi0
open Go.Sort Go.Proofs Go.Shelf
theorem KQ {g b:Nat} {o:Obj}:keys [(g,o)] b↔b=g:=by
 constructor
 ·rintro ⟨d,h⟩
  simp at h
  exact h.1
 ·rintro rfl; exact ⟨o,by simp⟩
theorem GB (w:World) (g m:Nat) (f:Array Value→Array Value) (os:Array Obj) (b:Nat) (hb:b < w.heap.size) :
  (Go.Sort.grow (mapBlock (Go.Sort.ahead w m) g f) os).heap[b]? =if g=b then w.heap[b]?.map (onCells f) else w.heap[b]?:=by
 have d:b < (mapBlock (Go.Sort.ahead w m) g f).heap.size:=by simp only [mapBlock,Go.Sort.ahead,Array.size_modify]; exact hb
 rw [heap_grow_old _ _ d]
 simp only [mapBlock,Go.Sort.ahead,ed]
theorem QC {w:World} {g m:Nat} {f:Array Value→Array Value} {os:Array Obj} {cs:Array Value} {T:TypeId} {fr:Nat×Nat} (i:w.heap[g]? =some (.cells cs T fr)) :
  xv true [(g,.cells cs T fr)] [(g,.cells (f cs) T fr)] w (Go.Sort.grow (mapBlock (Go.Sort.ahead w m) g f) os):=by
 have d:g < w.heap.size:=(dK.1 i).1
 refine ⟨⟨rfl,rfl,rfl,?_,?_,λb hb j=>?_⟩,λb o h=>?_,by simp⟩
 ·refine wQ.of ?_
  show w.drawn≤w.drawn+m
  omega
 ·show w.heap.size≤(w.heap.modify g (onCells f)++os).size
  simp
 ·rw [GB _ _ _ _ _ _ hb,bG λh=>j (KQ.2 h.symm)]
 ·simp only [aP,dv,fl,Prod.mk.injEq] at h
  obtain ⟨rfl,rfl⟩:=h
  refine ⟨?_,.inr (KQ.2 rfl)⟩
  rw [GB _ _ _ _ _ _ d,bD rfl,i]
  rfl
theorem SB {w W:World} (h:Ex true w W):∃q os,W=Go.Sort.grow (w.drewN q) os:=by
 refine ⟨W.drawn-w.drawn,W.heap.extract w.heap.size W.heap.size,?_⟩
 have p:W.heap=w.heap++W.heap.extract w.heap.size W.heap.size:=by
  apply Array.ext_getElem?
  intro i
  rw [Array.getElem?_append]
  split
  ·rename_i u; exact h.nL i u
  ·rename_i u
   rw [Array.getElem?_extract]
   have x:=h.size
   split
   ·rw [show w.heap.size+(i-w.heap.size)=i by omega]
   ·exact Array.getElem?_eq_none (by omega)
 obtain ⟨h1,z,A,E,G⟩:=W
 have d:=h.os; have j:=h.tape; have n:=h.output; have v:=h.drawn rfl
 simp only at d j n v p
 unfold Go.Sort.grow World.drewN
 simp only [World.mk.injEq]
 exact ⟨p,j,by omega,d,n⟩
theorem Ru {α:Type} [Inhabited α] {enc:α→List Value} {k:Nat} (hk:∀x,(enc x).length=k) (l:List α) (j:Nat) (d:j < l.length*k) :
  (l.map enc).flatten[j]? =some ((flatK enc k l.toArray)[j]!):=by
 have u:0 < k:=by
  cases k with
  | zero=>simp at d
  | succ n=>omega
 have h1:j / k < l.length:=(iC u).2 d
 rw [get_flatK _ _ _ _ (by simpa using d)]
 have v:l.toArray[j / k]! =l[j / k]:=by
  rw [jP l.toArray (j / k) (by simpa using h1)]; simp
 rw [v]
 have i:j % k < (enc l[j / k]).length:=by rw [hk]; exact Nat.mod_lt _ u
 have p:=As hk l (j / k) l[j / k] (dy h1) (j % k) ((enc l[j / k])[j % k]) (dy i)
 rw [Nat.div_add_mod' j k] at p
 rw [p,jP (enc l[j / k]) (j % k) i]
theorem Og {α:Type} [Inhabited α] {enc:α→List Value} {k:Nat} (hk:∀x,(enc x).length=k) {w:World} {g:Nat} {cs:Array Value} {T:TypeId} (i:w.heap[g]? =some (.cells cs T (0,0))) (l:List α)
  (p:cs.toList.take (l.length*k)=(l.map enc).flatten):HoldsK enc k w g 0 l.toArray:=by
 intro j n
 have d:j < l.length*k:=by simpa using n
 have h1:=Ru hk l j d
 rw [←p,fP,bD d] at h1
 refine ⟨?_,?_⟩
 ·simp only [World.cell?,i,eO]
  simpa using h1
 ·simp [World.frozen?,i]
theorem QN {α:Type} [Inhabited α] {enc:α→List Value} {k:Nat} (hk:∀x,(enc x).length=k) {cs:Array Value} (l:List α) (i:l.length*k≤cs.size) :
  (putCells id 0 (flatK enc k l.toArray) cs).toList.take (l.length*k)=(l.map enc).flatten:=by
 apply eT
 intro j
 rw [fP]
 split
 ·rename_i d
  rw [Ru hk l j d]
  simp only [putCells,ee,Array.getElem?_mapIdx,size_flatK,dV]
  rw [Array.getElem?_eq_getElem (by omega)]
  simp [d]
 ·rename_i d
  rw [fq (by rw [sn hk]; omega)]
theorem Ow (enc:Value→Value) (o:Nat) (d c:Array Value):(putCells enc o d c).size=c.size:=by simp [putCells]
section
variable {α:Type} {P:Program} {ρ:Ren}
theorem ZF {l:List α} {cf:α×α→Option Int} (h:Fv cf l):SWO (ltOf λ(x y:{x // x∈l})=>(cf (x.1,y.1)).getD 0)∧
  (∀x y:{x // x∈l},ltOf (λ(x y:{x // x∈l})=>(cf (x.1,y.1)).getD 0) x y=vI cf x.1 y.1):=by
 have e:∀x y:{x // x∈l},ltOf (λ(x y:{x // x∈l})=>(cf (x.1,y.1)).getD 0) x y=vI cf x.1 y.1:=λx y=>by
  obtain ⟨c,n⟩:=h.is x.1 x.2 y.1 y.2
  simp [ltOf,vI,n]
 refine ⟨⟨λx=>?_,λx y z=>?_,λx y z=>?_⟩,e⟩
 ·rw [e]; exact h.irrefl _ x.2
 ·rw [e,e,e]; exact h.trans _ x.2 _ y.2 _ z.2
 ·rw [e,e,e]
  intro h1 i
  cases d:vI cf x.1 z.1 with
  | false=>rfl
  | true=>
   cases j:vI cf y.1 x.1 with
   | true=>
    have:=h.trans _ y.2 _ x.2 _ z.2 j d
    rw [i] at this; cases this
   | false=>
    have:=h.total _ x.2 _ y.2 h1 j
    rw [this,i] at d; cases d
theorem QY (L:SlLaysF0.n6 P ρ) (k:Nat) (aE:∀w,(isAgg (ρ.t 24)).run P w= .ok true w) (zE:∀w,(Go.sizeOf (ρ.t 24)).run P w= .ok k w) {e:TypeId} (enc:α→List Value) (hk:∀x,(enc x).length=k) (h1:∀x,∀u∈enc x,u.oneCell'=true) {v fv:Value} {l r:List α} {R:List (Nat×Obj)} {cf:α×α→Option Int} {w:World} {μ0:lE} (hH:I4 (R++[]) w) (E:lx μ0 (ya w (R++[]))) (Z:lh e enc k v l R) (hc:PU P fv μ0 (λ(x:α×α)=>[(.agg (enc x.1).toArray),(.agg (enc x.2).toArray)]) (λ(r:Int)=>(.int .i64 r)) cf) (hm:DZ cf l=some r) :
  mi true P (ρ.f 6) [v,fv] w (R++[]) (λu L1 _=>∃(S:List (Nat×Obj)),u=(.tuple #[])∧L1=(S++[])∧lh e enc k v r S):=by
 obtain ⟨ok,rfl⟩:=MD hm
 rw [aT] at hH E ⊢
 rcases eo l.length with h0 | i
 ·have hl:l=[]:=aJ h0
  subst hl
  have hs:ud cf ([]:List α)=[]:=by simp [ud]
  rw [hs]
  obtain ⟨p,c,rfl⟩:∃p c,v= .slice p 0 c:=by
   rcases Z with ⟨rfl,_,_⟩ | ⟨g,cap,j,rfl,_⟩
   ·exact ⟨_,_,rfl⟩
   ·exact ⟨_,_,rfl⟩
  refine dA (AnyF.slices_SortFunc_none L p c fv w) λx w' ⟨hx,hw⟩=>?_
  subst hx hw
  refine ⟨_,R,rfl,⟨⟨rfl,rfl,rfl,wQ.of (aR _),aR _,λ_ _ _=>rfl⟩,λb o h=>⟨hH b o h,.inr ⟨o,h⟩⟩,?_⟩,R,rfl,(aT R).symm,Z⟩
  rcases Z with ⟨_,_,rfl⟩ | ⟨g,cap,j,_,rfl,_⟩ <;> simp
 ·rcases Z with ⟨_,rfl,_⟩ | ⟨g,cap,j,rfl,rfl,a8,a7,O,ae⟩
  ·simp at i
  have hg:w.heap[g]? =some (.cells j e (0,0)):=hH g _ (by simp)
  have aa:g < w.heap.size:=(dK.1 hg).1
  haveI:Inhabited {x // x∈l}:=⟨⟨l[0],List.getElem_mem i⟩⟩
  obtain ⟨gg,caps,rfl,Q,z⟩:=hc
  obtain ⟨hO,T⟩:=ZF ok
  have G:l.attach.toArray.size=l.length:=by simp
  have ab:l.attach.map (λx=>enc x.1)=l.map enc:=by
   rw [show (λx:{x // x∈l}=>enc x.1)=enc∘Subtype.val from rfl,←ef,List.attach_map_subtype_val]
  have a1:HoldsK (λx:{x // x∈l}=>enc x.1) k w g 0 l.attach.toArray:=Og (λx=>hk x.1) hg l.attach (by rw [ab,List.length_attach,ae])
  have M:CmpLays P gg caps (λx:{x // x∈l}=>enc x.1) k (λx y=>(cf (x.1,y.1)).getD 0) g 0 l.attach.toArray.size w:=by
   intro m os dk ag x y
   obtain ⟨c,J⟩:=ok.is x.1 x.2 y.1 y.2
   have Y:lx μ0 (hp (sortWorldK (λx:{x // x∈l}=>enc x.1) k w g 0 m dk os)):=λb o hb=>by
    have A:=E b o hb
    unfold ya at A
    split at A
    ·cases A
    ·rename_i hn
     have a6:b < w.heap.size:=(dK.1 A).1
     show (Go.Sort.grow (mapBlock (Go.Sort.ahead w m) g _) os).heap[b]? =_
     rw [GB _ _ _ _ _ _ a6,bG λh=>hn (KQ.2 h.symm)]
     exact A
   have h3:=z (sortWorldK (λx:{x // x∈l}=>enc x.1) k w g 0 m dk os) (x.1,y.1) c Y J
   have ea:([Value.agg (enc x.1).toArray,Value.agg (enc y.1).toArray]++caps.toList).toArray=#[Value.agg (enc x.1).toArray,Value.agg (enc y.1).toArray]++caps:=by
    apply Array.ext'; simp
   rw [←ea]
   exact dA h3 λu W' hu=>⟨by rw [hu.1]; show _=Ending.returned (.int .i64 ((cf (x.1,y.1)).getD 0)); rw [J]; rfl,SB hu.2⟩
  have hT:∀x y:{x // x∈l},ltOf (λ(x y:{x // x∈l})=>(cf (x.1,y.1)).getD 0) x y=false→ltOf (λ(x y:{x // x∈l})=>(cf (x.1,y.1)).getD 0) y x=false→x=y:=λx y a b=>by
   rw [T] at a b
   exact Subtype.ext (ok.total _ x.2 _ y.2 a b)
  have d:=AnyQ.slices_SortFunc_total L k aE zE (λx:{x // x∈l}=>enc x.1) (λx=>hk x.1) (λx=>h1 x.1) (λx y=>(cf (x.1,y.1)).getD 0) hO gg caps g 0 cap l.attach.toArray w Q M a1 aa (by rw [G]; exact ok.short) hT
  rw [G] at d
  refine dA d λu w' ⟨hu,n,os,hw⟩=>?_
  subst hu
  generalize hs:l.attach.toArray.toList.mergeSort (λx y=>!ltOf (λ(x y:{x // x∈l})=>(cf (x.1,y.1)).getD 0) y x)=s at hw
  have ad:s.map Subtype.val=ud cf l:=by
   rw [←hs,jg (s:=λx y=>!vI cf y x) (λa _ b _=>by rw [T])]
   simp [ud]
  have W:s.length=l.length:=by rw [←hs,List.length_mergeSort]; simp
  have U:(ud cf l).length=l.length:=by simp [ud,List.length_mergeSort]
  have I:=QC (w:=w) (m:=n) (f:=putCells id 0 (flatK (λx:{x // x∈l}=>enc x.1) k s.toArray)) (os:=os) hg
  have af:w'=Go.Sort.grow (mapBlock (Go.Sort.ahead w n) g (putCells id 0 (flatK (λx:{x // x∈l}=>enc x.1) k s.toArray))) os:=hw
  rw [←af] at I
  refine ⟨_,_,rfl,I,_,rfl,(aT _).symm,.inr ⟨g,cap,_,by rw [U],rfl,by omega,a7,by rw [Ow,O],?_⟩⟩
  rw [U,←W,QN (λx=>hk x.1) s (by rw [W,O]; exact dr k a8),←ad,ef]
  rfl
end
theorem IZ (b:ByteArray):b.toList=b.data.toList:=by rw [fI]
theorem YP (l:List ByteArray):(l.map BJ).flatten=l.map Value.string:=by
 induction l with
 | nil=>rfl
 | cons x l ih=>simp only [aU,aV,ih]; rfl
theorem Vp (l:List ByteArray):(yF l).map (λb=>b.data.toList)=(l.map (λb=>b.data.toList)).mergeSort (λx y=>decide (x≤y)):=by
 unfold yF
 refine jg λa _ b _=>?_
 unfold tE
 rw [bytesLess_eq,IZ,IZ]
 by_cases h:a.data.toList≤b.data.toList
 ·have d:¬b.data.toList < a.data.toList:=List.not_lt.2 h
  simp [h,d]
 ·have d:b.data.toList < a.data.toList:=by
   cases Decidable.em (b.data.toList < a.data.toList) with
   | inl i=>exact i
   | inr i=>exact absurd (List.not_lt.1 i) h
  simp [h,d]
end Go.Proofs.YtjjjihkifgdhgaaGreatDoor
namespace Go.Proofs.YtjjjihkifgdhgaaGreatDoor
open Go.IntKind renaming wrap → wi0
open Go.WideElems Go.WideShapes Go.Sort Go.Proofs Go.Shelf
theorem QG {β:Type} {vf:β→Value} {P:Program} {kt:TypeId} (M:P.underlying kt=some .string) {l:List (ByteArray×β)} {es:Array MapEntry} {clock:Nat} (h:yk Value.string vf l es clock) (J:(l.map (·.1)).Nodup) (L:∀p∈l,p.1.size≤maxLen) (I:l.length≤maxLen) {W:World} {b:Nat} (hb:W.heap[b]? =some (.map es clock)):∃D:DataW Unit,W.ownsMap P kt (λ_=>some (.lit (.bool true),[])) b es.size D∧(strKeys D).Perm (l.map (λp=>p.1.data.toList))∧Maps.size D=l.length:=by
 have d:=h.keys
 have z:∀x∈es.toList,∃s:ByteArray,x.key= .string s∧s.size≤maxLen:=λx n=>by
  have h1:x.key∈es.toList.map (·.key):=aS.2 ⟨x,n,rfl⟩
  rw [d] at h1
  obtain ⟨s,j,u⟩:=aS.1 h1
  obtain ⟨p,E,G⟩:=aS.1 j
  exact ⟨s,u.symm,by rw [←G]; exact L p E⟩
 have i:∀x∈es.toList,∃s:ByteArray,x.key= .string s∧Go.WideElems.rd (H:=Unit) P kt (λ_=>some (.lit (.bool true),[])) x=some (.string s.data.toList,.lit (.bool true)):=λx n=>by
  obtain ⟨s,h1,j⟩:=z x n
  refine ⟨s,h1,?_⟩
  simp [Go.WideElems.rd,keyOf,M,mapKey,h1,j]
 refine ⟨_,⟨es,clock,hb,⟨by rw [h.length]; exact I,⟨h.lt,?_,?_⟩,λx n=>?_⟩,aR _,rfl⟩,?_,?_⟩
 ·have:=h.born
  rw [List.Nodup,eV]
  exact this.imp (λ{a b} h=>by omega)
 ·rw [d]
  rw [List.Nodup,eV]
  exact J.imp (λ{a b} w e=>w (by injection e))
 ·obtain ⟨s,_,j⟩:=i x n
  exact ⟨_,j⟩
 ·have h1:=(sorted_perm (es.toList.map (Go.WideElems.rg (H:=Unit) P kt (λ_=>some (.lit (.bool true),[]))))).map (λp=>strOf p.1)
  refine List.Perm.trans h1 ?_
  have e:(es.toList.map (Go.WideElems.rg (H:=Unit) P kt (λ_=>some (.lit (.bool true),[])))).map (λp=>strOf p.1)=l.map (λp=>p.1.data.toList):=by
   have A:(es.toList.map (Go.WideElems.rg (H:=Unit) P kt (λ_=>some (.lit (.bool true),[])))).map (λp=>strOf p.1)=(es.toList.map (·.key)).map (λv=>match v with | .string s=>s.data.toList | _=>[]):=by
    rw [ef,ef]
    refine iU λx n=>?_
    obtain ⟨s,j,u⟩:=i x n
    simp [Go.WideElems.rg,u,j,strOf]
   rw [A,d,ef,ef]
   rfl
  rw [e]
 ·have h1:=(sorted_perm (es.toList.map (Go.WideElems.rg (H:=Unit) P kt (λ_=>some (.lit (.bool true),[]))))).length_eq
  show (List.foldr DataW.insert [] _).length=_
  rw [h1,bT,←h.length]
  simp
theorem Oj {l:List ByteArray} {i:List (List UInt8)} (h:i.Perm (l.map λb=>b.data.toList)):i.mergeSort (λx y=>decide (x≤y))=(yF l).map (λb=>b.data.toList):=by
 rw [Vp]
 have le:∀a b c:List UInt8,decide (a≤b)=true→decide (b≤c)=true→decide (a≤c)=true:=λa b c h1 d=>by
  simp only [bH] at *
  exact List.le_trans h1 d
 have tot:∀a b:List UInt8,(decide (a≤b)||decide (b≤a))=true:=λa b=>by
  simp only [fw,bH]
  exact List.le_total a b
 refine List.Perm.eq_of_pairwise (le:=λa b=>decide (a≤b)=true) (λa b _ _ h1 d=>List.le_antisymm (by simpa using h1) (by simpa using d)) (gZ le tot _) (gZ le tot _) ?_
 exact (iV _ _).trans (h.trans (iV _ _).symm)
section
variable {P:Program} {ρk ρt ρm:Ren}
theorem QB (LK:SlLaysZ.n7 P ρk) (LT:SlLaysZ.n6 P ρt) (LM:SlLaysM.n6 P ρm) (h9:ρt.f 9=ρm.f 6) (hK:P.underlying (ρk.t 26)=some .string) (eg:∀args w,(callFunc (ρk.f 10) args).run P w= .ok (.enter (ρk.f 10) args) w) (es:∀args w,(callFunc (ρt.f 9) args).run P w= .ok (.enter (ρt.f 9) args) w) {β:Type} {vf:β→Value} {l:List (ByteArray×β)} {b:Nat} {mv:Value} {t:TypeId} {W:World} {r:List ByteArray} (hb:W.heap[b]? =some (.cells #[mv] t (0,0))) (hm:zW Value.string vf (hp W) mv l) (hk:Lp l=some r) :
  pH false P (ρt.f 6) [.func (.func (ρk.f 10)) #[] #[.pointer (some ⟨b,0,none⟩)]] W (ρt.t 26) BJ 1 r:=by
 unfold Lp at hk
 split at hk
 case isFalse=>cases hk
 rename_i hc
 obtain ⟨a1,a6,a7⟩:=hc
 cases hk
 have n:b < W.heap.size:=(dK.1 hb).1
 have i:W.cell? ⟨b,0,none⟩=some mv:=by simp [World.cell?,hb]
 have E:AnyZ.SortsIn P ρt Fence.wide 4 :=
  ⟨λT off cap j W hH hblk G=>jO.2 (by rw [h9]; exact AnyM.slices_Sort_string LM T off cap j W hH hblk G),λp cap W=>jO.2 (by rw [h9]; exact AnyM.slices_Sort_string_none LM p cap W)⟩
 have Q:SeqGives Fence.wide 2 P (ρk.f 10) #[.pointer (some ⟨b,0,none⟩)] encStr (λj=>j.Perm ((l.map (·.1)).map λb=>b.data.toList)) l.length W:=by
  rcases hm with ⟨rfl,rfl⟩ | ⟨m,es,clock,rfl,ab,L⟩
  ·have:=AnyZ.keys_gives_nil (ρ:=ρk) { LK with } Fence.wide 2 trivial rfl b W n i
   intro l' J W' Y U Z R
   refine CallsIn.mono (this l' J W' Y U Z R) ?_
   rintro e w' ⟨hv,j,rfl,hj⟩
   exact ⟨hv,[],cM _,hj⟩
  ·obtain ⟨D,M,A,G⟩:=QG hK L a1 a6 (by unfold maxLen; omega) ab
   have:=AnyZ.keys_gives (ρ:=ρk) { LK with } Fence.wide 2 trivial rfl (by omega) b m es.size D W n i M
   intro l' J W' Y U Z R
   refine CallsIn.mono (this l' J W' Y U (by rw [G]; exact Z) R) ?_
   rintro e w' ⟨hv,j,hp,hj⟩
   refine ⟨hv,j,?_,hj⟩
   rw [ef]
   exact hp.trans A
 have cS:=AnyZ.sorted_in LT Fence.wide 5 trivial trivial trivial trivial rfl (by omega) E es (ρk.f 10) #[.pointer (some ⟨b,0,none⟩)] trivial eg _ l.length (by unfold maxLen; omega) a7 W Q
 refine dA (jO.1 cS) ?_
 rintro e w' ⟨v,j,rfl,hS,O,ae,d⟩
 have hs:=Oj hS
 have hlen:j.length=(yF (l.map (·.1))).length:=by
  have:=bA List.length hs
  simpa using this
 have z:(j.mergeSort (λx y=>decide (x≤y))).map encStr=((yF (l.map (·.1))).map BJ).flatten:=by
  rw [hs,YP,ef]
  refine iU (λx _=>?_)
  simp only [Function.comp,encStr]
 rcases O.2 with ⟨rfl,R⟩ | ⟨g,cap,I,rfl,u,hg,af,a8,aa,ad⟩
 ·have:yF (l.map (·.1))=[]:=aJ (by omega)
  rw [this]
  exact ⟨_,[],rfl,xv.OA ⟨d.os,d.tape,d.output,λh=>(by cases h),d.size,λb hb=>d.block b hb⟩ (λ_ _ h=>by cases h) (by simp),lh.nil _ _ _⟩
 ·refine ⟨_,[(g,.cells I (ρt.t 26) (0,0))],rfl,xv.OA ⟨d.os,d.tape,d.output,λh=>(by cases h),d.size,λb hb=>d.block b hb⟩ (λb o h=>by simp at h; obtain ⟨rfl,rfl⟩:=h; exact ⟨hg,u⟩) (by simp),.inr ⟨g,cap,I,by rw [hlen],rfl,by omega,a8,aa,?_⟩⟩
  rw [←hlen,ad,z]
end
end Go.Proofs.YtjjjihkifgdhgaaGreatDoor
namespace Go.Proofs.YtjjjihkifgdhgaaGreatDoor
open Go.IntKind renaming wrap → wi0
open Go.RowKit
theorem TE {P:Program} {ρ:Go.Shelf.Ren} (L:Go.Proofs.LaysM.n171 P ρ) {f:FuncId} (p:ρ.f 171=f) {n:Int} {r:ByteArray} {w:World} (u:Cx P (hp w)) (hm:ur n=some r):lC true P f [.int .i64 n] w (.string r):=by
 unfold ur at hm
 split at hm
 case isFalse=>cases hm
 rename_i h
 cases hm
 subst p
 obtain ⟨g,T,fr,h1,i⟩:=u
 have d:Go.Lib.TabIs P w "internal/strconv.uint64pow10" .u64 Go.Lib.pow10Tab:=by
  unfold Go.Lib.TabIs World.var?
  have j:w.heap[g]? =_:=i
  rw [h1]
  simp [j]
 refine dA (Go.Proofs.Any.strconv_Itoa L n h.1 h.2 w d) λe W v=>?_
 obtain ⟨rfl,k,os,rfl⟩:=v
 refine ⟨rfl,rfl,rfl,rfl,wQ.of ?_,?_,λb hb=>?_⟩
 ·simp [Go.Sort.grow,World.drewN]
 ·simp [Go.Sort.grow,World.drewN]
 ·simp only [Go.Sort.grow,World.drewN]
  rw [Array.getElem?_append_left hb]
theorem SC {P:Program} {ρ:Go.Shelf.Ren} (L:Go.Proofs.Lays.n156 P ρ) (X:Go.Proofs.Builder.Extra P ρ) {f:FuncId} (J:ρ.f 156=f) {v:Value} {xs:List ByteArray} {sep r:ByteArray} {w:World} (h:Sl (Pl BJ) 1 (hp w) v xs) (hm:Jo xs sep=some r):lC false P f [v,.string sep] w (.string r):=by
 unfold Jo at hm
 split at hm
 case isFalse=>cases hm
 rename_i hb
 cases hm
 subst J
 obtain ⟨A,c,rfl,h1,M,u⟩:=h
 have i:∀{W:World},Below w.heap.size w W→Ex false w W:=λb=>⟨b.os,b.tape,b.output,λe=>(by cases e),b.size,b.block⟩
 rcases eo xs.length with n | n
 ·have:xs=[]:=aJ n
  subst this
  exact dA (Go.Proofs.Any.strings_Join_none L X A c sep w) λe W d=>by
   obtain ⟨rfl,rfl⟩:=d
   exact ⟨rfl,Ex.refl _⟩
 ·obtain ⟨b,o,cs,T,fr,rfl,z,E⟩:=u n
  have hw:w.heap[b]? =some (.cells cs T fr):=z
  exact dA (Go.Proofs.Any.strings_Join L X b o c xs sep w (λj x d=>by
    obtain ⟨ys,O,G,I⟩:=E j x d
    cases G
    rw [fA w b (o+j) cs T fr hw]
    have:=I 0 (.string x) rfl
    simpa using this) (dK.1 hw).1 hb.2 h1 hb.1) λe W d=>by
   obtain ⟨rfl,p⟩:=d
   exact ⟨rfl,i p⟩
end Go.Proofs.YtjjjihkifgdhgaaGreatDoor
namespace Go.Proofs.YtjjjihkifgdhgaaGreatDoor
open Go.IntKind renaming wrap → wi0
def fj:=@Tryz.underlying9
def fz:=@Tryz.zeroValue9
def fN:=@Tryz.underlying0
def gb:=@Tryz.zeroValue0
def gx:=@Tryz.underlying4
def gy:=@Tryz.sizeOf9
def gT:=@Tryz.zeroValue4
def gV:=@Tryz.underlying152
def ib:=@Tryz.isAgg9
def iu:=@Tryz.sizeOf0
def iv:=@Tryz.zeroValue152
def iF:=@Tryz.underlying3
def iG:=@Tryz.underlying5
def iK:=@Tryz.isAgg0
def iR:=@Tryz.zeroValue3
def iS:=@Tryz.zeroValue5
def iY:=@Tryz.sizeOf4
def jh:=@Tryz.underlying271
def ji:=@Tryz.underlying332
def jj:=@Tryz.underlying272
def jk:=@Tryz.sizeOf152
def jw:=@Tryz.isAgg4
def jx:=@Tryz.zeroValue271
def jy:=@Tryz.zeroValue332
def jz:=@Tryz.zeroValue272
def jF:=@Tryz.isAgg152
def jQ:=@Tryz.sizeOf3
def jR:=@Tryz.sizeOf5
def kc:=@Tryz.isAgg3
def kd:=@Tryz.isAgg5
def UW:Go.Shelf.Ren:=⟨fun | 6=>198 | 15=>260 | 14=>259 | 28=>319 | 29=>307 | 20=>311 | 21=>312 | 22=>313 | 23=>314 | 24=>315 | 25=>316 | 26=>317 | 27=>318 | 46=>356 | 47=>357 | 48=>358 | 49=>359 | 50=>360 | 57=>377 | n=>n,fun | 22=>45 | 24=>52 | 25=>138 | 3=>3 | 39=>271 | 0=>0 | 53=>332 | 55=>272 | 4=>4 | 46=>336 | 45=>335 | 50=>340 | 5=>5 | 9=>9 | 66=>371 | 70=>375 | 76=>392 | 77=>248 | n=>n,fun | n=>n⟩
theorem Z7:Go.Proofs.SlLaysF0.n6 Tryz.prog UW:={
 mixed:=by kernel_rfl,
 f6:=⟨Tryz.f198.name,by decide,Tryz.func198.trans (bA some (by kernel_rfl))⟩,
 f14:=⟨Tryz.f259.name,by decide,Tryz.func259.trans (bA some (by kernel_rfl))⟩,
 f15:=Tryz.func260.trans (bA some (by kernel_rfl)),
 f20:=⟨Tryz.f311.name,by decide,Tryz.func311.trans (bA some (by kernel_rfl))⟩,
 f21:=⟨Tryz.f312.name,by decide,Tryz.func312.trans (bA some (by kernel_rfl))⟩,
 f22:=⟨Tryz.f313.name,by decide,Tryz.func313.trans (bA some (by kernel_rfl))⟩,
 f23:=⟨Tryz.f314.name,by decide,Tryz.func314.trans (bA some (by kernel_rfl))⟩,
 f24:=⟨Tryz.f315.name,by decide,Tryz.func315.trans (bA some (by kernel_rfl))⟩,
 f25:=⟨Tryz.f316.name,by decide,Tryz.func316.trans (bA some (by kernel_rfl))⟩,
 f26:=⟨Tryz.f317.name,by decide,Tryz.func317.trans (bA some (by kernel_rfl))⟩,
 f27:=⟨Tryz.f318.name,by decide,Tryz.func318.trans (bA some (by kernel_rfl))⟩,
 f28:=Tryz.func319.trans (bA some (by kernel_rfl)),
 f29:=Tryz.func307.trans (bA some (by kernel_rfl)),
 f46:=⟨Tryz.f356.name,by decide,Tryz.func356.trans (bA some (by kernel_rfl))⟩,
 f47:=Tryz.func357.trans (bA some (by kernel_rfl)),
 f48:=Tryz.func358.trans (bA some (by kernel_rfl)),
 f49:=⟨Tryz.f359.name,by decide,Tryz.func359.trans (bA some (by kernel_rfl))⟩,
 f50:=⟨Tryz.f360.name,by decide,Tryz.func360.trans (bA some (by kernel_rfl))⟩,
 f57:=⟨Tryz.f377.name,by decide,Tryz.func377.trans (bA some (by kernel_rfl))⟩,
 t0:=fN,
 a0:=iK,
 z0:=iu,
 v0:=gb,
 t3:=iF,
 a3:=kc,
 z3:=jQ,
 v3:=iR,
 t4:=gx,
 a4:=jw,
 z4:=iY,
 v4:=gT,
 t5:=iG,
 a5:=kd,
 z5:=jR,
 v5:=iS,
 t9:=fj,
 a9:=ib,
 z9:=gy,
 v9:=fz,
 t22:=Tryz.underlying45,
 a22:=Tryz.isAgg45,
 z22:=Tryz.sizeOf45,
 v22:=Tryz.zeroValue45,
 t25:=Tryz.underlying138,
 a25:=Tryz.isAgg138,
 z25:=Tryz.sizeOf138,
 v25:=Tryz.zeroValue138,
 t39:=jh,
 a39:=Tryz.isAgg271,
 z39:=Tryz.sizeOf271,
 v39:=jx,
 t45:=Tryz.underlying335,
 a45:=Tryz.isAgg335,
 z45:=Tryz.sizeOf335,
 v45:=Tryz.zeroValue335,
 t46:=Tryz.underlying336,
 a46:=Tryz.isAgg336,
 z46:=Tryz.sizeOf336,
 v46:=Tryz.zeroValue336,
 t50:=Tryz.underlying340,
 a50:=Tryz.isAgg340,
 z50:=Tryz.sizeOf340,
 v50:=Tryz.zeroValue340,
 t53:=ji,
 a53:=Tryz.isAgg332,
 z53:=Tryz.sizeOf332,
 v53:=jy,
 t55:=jj,
 a55:=Tryz.isAgg272,
 z55:=Tryz.sizeOf272,
 v55:=jz,
 t66:=Tryz.underlying371,
 a66:=Tryz.isAgg371,
 z66:=Tryz.sizeOf371,
 v66:=Tryz.zeroValue371,
 t70:=Tryz.underlying375,
 a70:=Tryz.isAgg375,
 z70:=Tryz.sizeOf375,
 v70:=Tryz.zeroValue375,
 t76:=Tryz.underlying392,
 a76:=Tryz.isAgg392,
 z76:=Tryz.sizeOf392,
 v76:=Tryz.zeroValue392,
 t77:=Tryz.underlying248,
 a77:=Tryz.isAgg248,
 z77:=Tryz.sizeOf248,
 v77:=Tryz.zeroValue248}
def Y0:Go.Shelf.Ren:=⟨fun | 6=>379 | 8=>260 | 9=>387 | 19=>319 | 20=>307 | 21=>391 | 22=>392 | 23=>393 | 24=>394 | 25=>395 | 26=>396 | 27=>397 | 28=>398 | 29=>399 | 36=>401 | 31=>357 | 32=>358 | 37=>402 | 38=>403 | 39=>404 | 41=>405 | n=>n,fun | 27=>152 | 29=>9 | 3=>3 | 32=>271 | 26=>152 | 0=>0 | 44=>332 | 46=>272 | 4=>4 | 36=>336 | 35=>335 | 41=>340 | 5=>5 | 9=>9 | 53=>371 | 57=>375 | 63=>392 | 64=>248 | n=>n,fun | n=>n⟩
theorem Ze:Go.Proofs.SlLaysM.n6 Tryz.prog Y0:={
 mixed:=by kernel_rfl,
 f6:=⟨Tryz.f379.name,by decide,Tryz.func379.trans (bA some (by kernel_rfl))⟩,
 f8:=Tryz.func260.trans (bA some (by kernel_rfl)),
 f9:=⟨Tryz.f387.name,by decide,Tryz.func387.trans (bA some (by kernel_rfl))⟩,
 f19:=Tryz.func319.trans (bA some (by kernel_rfl)),
 f20:=Tryz.func307.trans (bA some (by kernel_rfl)),
 f21:=⟨Tryz.f391.name,by decide,Tryz.func391.trans (bA some (by kernel_rfl))⟩,
 f22:=⟨Tryz.f392.name,by decide,Tryz.func392.trans (bA some (by kernel_rfl))⟩,
 f23:=⟨Tryz.f393.name,by decide,Tryz.func393.trans (bA some (by kernel_rfl))⟩,
 f24:=⟨Tryz.f394.name,by decide,Tryz.func394.trans (bA some (by kernel_rfl))⟩,
 f25:=⟨Tryz.f395.name,by decide,Tryz.func395.trans (bA some (by kernel_rfl))⟩,
 f26:=⟨Tryz.f396.name,by decide,Tryz.func396.trans (bA some (by kernel_rfl))⟩,
 f27:=⟨Tryz.f397.name,by decide,Tryz.func397.trans (bA some (by kernel_rfl))⟩,
 f28:=⟨Tryz.f398.name,by decide,Tryz.func398.trans (bA some (by kernel_rfl))⟩,
 f29:=⟨Tryz.f399.name,by decide,Tryz.func399.trans (bA some (by kernel_rfl))⟩,
 f31:=Tryz.func357.trans (bA some (by kernel_rfl)),
 f32:=Tryz.func358.trans (bA some (by kernel_rfl)),
 f36:=⟨Tryz.f401.name,by decide,Tryz.func401.trans (bA some (by kernel_rfl))⟩,
 f37:=⟨Tryz.f402.name,by decide,Tryz.func402.trans (bA some (by kernel_rfl))⟩,
 f38:=⟨Tryz.f403.name,by decide,Tryz.func403.trans (bA some (by kernel_rfl))⟩,
 f39:=⟨Tryz.f404.name,by decide,Tryz.func404.trans (bA some (by kernel_rfl))⟩,
 f41:=⟨Tryz.f405.name,by decide,Tryz.func405.trans (bA some (by kernel_rfl))⟩,
 t0:=fN,
 a0:=iK,
 z0:=iu,
 v0:=gb,
 t3:=iF,
 a3:=kc,
 z3:=jQ,
 v3:=iR,
 t4:=gx,
 a4:=jw,
 z4:=iY,
 v4:=gT,
 t5:=iG,
 a5:=kd,
 z5:=jR,
 v5:=iS,
 t9:=fj,
 a9:=ib,
 z9:=gy,
 v9:=fz,
 t26:=gV,
 a26:=jF,
 z26:=jk,
 v26:=iv,
 t27:=gV,
 a27:=jF,
 z27:=jk,
 v27:=iv,
 t29:=fj,
 a29:=ib,
 z29:=gy,
 v29:=fz,
 t32:=jh,
 a32:=Tryz.isAgg271,
 z32:=Tryz.sizeOf271,
 v32:=jx,
 t35:=Tryz.underlying335,
 a35:=Tryz.isAgg335,
 z35:=Tryz.sizeOf335,
 v35:=Tryz.zeroValue335,
 t36:=Tryz.underlying336,
 a36:=Tryz.isAgg336,
 z36:=Tryz.sizeOf336,
 v36:=Tryz.zeroValue336,
 t41:=Tryz.underlying340,
 a41:=Tryz.isAgg340,
 z41:=Tryz.sizeOf340,
 v41:=Tryz.zeroValue340,
 t44:=ji,
 a44:=Tryz.isAgg332,
 z44:=Tryz.sizeOf332,
 v44:=jy,
 t46:=jj,
 a46:=Tryz.isAgg272,
 z46:=Tryz.sizeOf272,
 v46:=jz,
 t53:=Tryz.underlying371,
 a53:=Tryz.isAgg371,
 z53:=Tryz.sizeOf371,
 v53:=Tryz.zeroValue371,
 t57:=Tryz.underlying375,
 a57:=Tryz.isAgg375,
 z57:=Tryz.sizeOf375,
 v57:=Tryz.zeroValue375,
 t63:=Tryz.underlying392,
 a63:=Tryz.isAgg392,
 z63:=Tryz.sizeOf392,
 v63:=Tryz.zeroValue392,
 t64:=Tryz.underlying248,
 a64:=Tryz.isAgg248,
 z64:=Tryz.sizeOf248,
 v64:=Tryz.zeroValue248}
def X6:Go.Shelf.Ren:=⟨fun | 7=>362 | 10=>380 | n=>n,fun | 23=>247 | 26=>9 | 3=>4 | 28=>379 | 0=>0 | 27=>378 | 33=>148 | 4=>4 | n=>n,fun | n=>n⟩
theorem YD:Go.Proofs.SlLaysZ.n7 Tryz.prog X6:={
 mixed:=by kernel_rfl,
 f7:=⟨Tryz.f362.name,by decide,Tryz.func362.trans (bA some (by kernel_rfl))⟩,
 f10:=⟨Tryz.f380.name,by decide,Tryz.func380.trans (bA some (by kernel_rfl))⟩,
 t0:=fN,
 a0:=iK,
 z0:=iu,
 v0:=gb,
 t4:=gx,
 a4:=jw,
 z4:=iY,
 v4:=gT,
 t23:=Tryz.underlying247,
 a23:=Tryz.isAgg247,
 z23:=Tryz.sizeOf247,
 v23:=Tryz.zeroValue247,
 t26:=fj,
 a26:=ib,
 z26:=gy,
 v26:=fz,
 t27:=Tryz.underlying378,
 a27:=Tryz.isAgg378,
 z27:=Tryz.sizeOf378,
 v27:=Tryz.zeroValue378,
 t28:=Tryz.underlying379,
 a28:=Tryz.isAgg379,
 z28:=Tryz.sizeOf379,
 v28:=Tryz.zeroValue379,
 t33:=Tryz.underlying148,
 a33:=Tryz.isAgg148,
 z33:=Tryz.sizeOf148,
 v33:=Tryz.zeroValue148}
def XP:Go.Shelf.Ren:=⟨fun | 6=>361 | 8=>378 | 9=>379 | 11=>386 | 13=>260 | 12=>387 | 23=>319 | 24=>307 | 14=>391 | 15=>392 | 16=>393 | 17=>394 | 18=>395 | 19=>396 | 20=>397 | 21=>398 | 22=>399 | 25=>401 | 26=>357 | 27=>358 | 28=>402 | 29=>403 | 30=>404 | 31=>405 | n=>n,fun | 26=>9 | 28=>379 | 24=>152 | 0=>0 | 3=>3 | 37=>271 | 48=>332 | 50=>272 | 4=>4 | 40=>336 | 39=>335 | 45=>340 | 5=>5 | 9=>9 | 51=>371 | 55=>375 | 57=>392 | 58=>248 | 33=>148 | n=>n,fun | n=>n⟩
theorem XS:Go.Proofs.SlLaysZ.n6 Tryz.prog XP:={
 mixed:=by kernel_rfl,
 f6:=⟨Tryz.f361.name,by decide,Tryz.func361.trans (bA some (by kernel_rfl))⟩,
 f8:=⟨Tryz.f378.name,by decide,Tryz.func378.trans (bA some (by kernel_rfl))⟩,
 f11:=⟨Tryz.f386.name,by decide,Tryz.func386.trans (bA some (by kernel_rfl))⟩,
 t0:=fN,
 a0:=iK,
 z0:=iu,
 v0:=gb,
 t24:=gV,
 a24:=jF,
 z24:=jk,
 v24:=iv,
 t26:=fj,
 a26:=ib,
 z26:=gy,
 v26:=fz,
 t28:=Tryz.underlying379,
 a28:=Tryz.isAgg379,
 z28:=Tryz.sizeOf379,
 v28:=Tryz.zeroValue379,
 i26:=by kernel_rfl}
def ZQ:Go.Shelf.Ren:=⟨fun | 171=>50 | 243=>122 | 246=>190 | 283=>250 | 284=>251 | 285=>252 | 286=>253 | 129=>307 | 317=>306 | 318=>308 | 319=>309 | 320=>310 | 337=>354 | 338=>355 | n=>n,fun | 3=>3 | 9=>9 | 2=>2 | 4=>4 | 171=>291 | 0=>0 | 53=>272 | 37=>53 | 5=>5 | 173=>294 | 212=>331 | 51=>332 | 20=>20 | 213=>333 | 46=>271 | 232=>390 | 233=>391 | n=>n,fun | 17=>3 | 18=>4 | 19=>5 | n=>n⟩
theorem Zc:Go.Proofs.LaysM.n171 Tryz.prog ZQ:={
 mixed:=by kernel_rfl,
 f129:=Tryz.func307.trans (bA some (by kernel_rfl)),
 f171:=Tryz.func50.trans (bA some (by kernel_rfl)),
 f243:=Tryz.func122.trans (bA some (by kernel_rfl)),
 f246:=Tryz.func190.trans (bA some (by kernel_rfl)),
 f283:=Tryz.func250.trans (bA some (by kernel_rfl)),
 f284:=Tryz.func251.trans (bA some (by kernel_rfl)),
 f285:=Tryz.func252.trans (bA some (by kernel_rfl)),
 f286:=Tryz.func253.trans (bA some (by kernel_rfl)),
 f317:=Tryz.func306.trans (bA some (by kernel_rfl)),
 f318:=Tryz.func308.trans (bA some (by kernel_rfl)),
 f319:=Tryz.func309.trans (bA some (by kernel_rfl)),
 f320:=Tryz.func310.trans (bA some (by kernel_rfl)),
 f337:=Tryz.func354.trans (bA some (by kernel_rfl)),
 f338:=Tryz.func355.trans (bA some (by kernel_rfl)),
 t0:=fN,
 a0:=iK,
 z0:=iu,
 v0:=gb,
 t2:=Tryz.underlying2,
 a2:=Tryz.isAgg2,
 z2:=Tryz.sizeOf2,
 v2:=Tryz.zeroValue2,
 t3:=iF,
 a3:=kc,
 z3:=jQ,
 v3:=iR,
 t4:=gx,
 a4:=jw,
 z4:=iY,
 v4:=gT,
 t5:=iG,
 a5:=kd,
 z5:=jR,
 v5:=iS,
 t9:=fj,
 a9:=ib,
 z9:=gy,
 v9:=fz,
 t20:=Tryz.underlying20,
 a20:=Tryz.isAgg20,
 z20:=Tryz.sizeOf20,
 v20:=Tryz.zeroValue20,
 t37:=Tryz.underlying53,
 a37:=Tryz.isAgg53,
 z37:=Tryz.sizeOf53,
 v37:=Tryz.zeroValue53,
 t46:=jh,
 a46:=Tryz.isAgg271,
 z46:=Tryz.sizeOf271,
 v46:=jx,
 t51:=ji,
 a51:=Tryz.isAgg332,
 z51:=Tryz.sizeOf332,
 v51:=jy,
 t53:=jj,
 a53:=Tryz.isAgg272,
 z53:=Tryz.sizeOf272,
 v53:=jz,
 t171:=Tryz.underlying291,
 a171:=Tryz.isAgg291,
 z171:=Tryz.sizeOf291,
 v171:=Tryz.zeroValue291,
 t173:=Tryz.underlying294,
 a173:=Tryz.isAgg294,
 z173:=Tryz.sizeOf294,
 v173:=Tryz.zeroValue294,
 t212:=Tryz.underlying331,
 a212:=Tryz.isAgg331,
 z212:=Tryz.sizeOf331,
 v212:=Tryz.zeroValue331,
 t213:=Tryz.underlying333,
 a213:=Tryz.isAgg333,
 z213:=Tryz.sizeOf333,
 t232:=Tryz.underlying390,
 a232:=Tryz.isAgg390,
 z232:=Tryz.sizeOf390,
 v232:=Tryz.zeroValue390,
 t233:=Tryz.underlying391,
 a233:=Tryz.isAgg391,
 z233:=Tryz.sizeOf391,
 v233:=Tryz.zeroValue391,
 g17:=by kernel_rfl,
 g18:=by kernel_rfl,
 g19:=by kernel_rfl,
 i0:=by kernel_rfl,
 i2:=by kernel_rfl,
 i3:=by kernel_rfl,
 i4:=by kernel_rfl,
 i5:=by kernel_rfl,
 i9:=by kernel_rfl,
 i20:=by kernel_rfl,
 i37:=by kernel_rfl,
 i46:=by kernel_rfl,
 i51:=by kernel_rfl,
 i53:=by kernel_rfl,
 i171:=by kernel_rfl,
 i173:=by kernel_rfl,
 i212:=by kernel_rfl,
 i232:=by kernel_rfl,
 i233:=by kernel_rfl,
 m17:=by kernel_rfl,
 m18:=by kernel_rfl,
 m19:=by kernel_rfl}
def Sk:Go.Shelf.Ren:=⟨fun | 156=>209 | 165=>268 | 166=>49 | 169=>51 | 240=>121 | 241=>325 | 276=>189 | 277=>364 | n=>n,fun | 31=>152 | 9=>9 | 3=>3 | 4=>4 | 0=>0 | 20=>20 | 72=>93 | 76=>96 | 70=>91 | 37=>53 | 75=>95 | 127=>179 | 164=>233 | 5=>5 | 80=>99 | n=>n,fun | n=>n⟩
theorem YB:Go.Proofs.Lays.n156 Tryz.prog Sk:={
 mixed:=by kernel_rfl,
 f156:=Tryz.func209.trans (bA some (by kernel_rfl)),
 f165:=Tryz.func268.trans (bA some (by kernel_rfl)),
 f166:=Tryz.func49.trans (bA some (by kernel_rfl)),
 f169:=Tryz.func51.trans (bA some (by kernel_rfl)),
 f240:=Tryz.func121.trans (bA some (by kernel_rfl)),
 f241:=Tryz.func325.trans (bA some (by kernel_rfl)),
 f276:=Tryz.func189.trans (bA some (by kernel_rfl)),
 f277:=Tryz.func364.trans (bA some (by kernel_rfl)),
 t0:=fN,
 a0:=iK,
 z0:=iu,
 v0:=gb,
 t3:=iF,
 a3:=kc,
 z3:=jQ,
 v3:=iR,
 t4:=gx,
 a4:=jw,
 z4:=iY,
 v4:=gT,
 t9:=fj,
 a9:=ib,
 z9:=gy,
 v9:=fz,
 t20:=Tryz.underlying20,
 a20:=Tryz.isAgg20,
 z20:=Tryz.sizeOf20,
 v20:=Tryz.zeroValue20,
 t31:=gV,
 a31:=jF,
 z31:=jk,
 v31:=iv,
 t37:=Tryz.underlying53,
 a37:=Tryz.isAgg53,
 z37:=Tryz.sizeOf53,
 v37:=Tryz.zeroValue53,
 t70:=Tryz.underlying91,
 a70:=Tryz.isAgg91,
 z70:=Tryz.sizeOf91,
 v70:=Tryz.zeroValue91,
 t72:=Tryz.underlying93,
 a72:=Tryz.isAgg93,
 z72:=Tryz.sizeOf93,
 v72:=Tryz.zeroValue93,
 t75:=Tryz.underlying95,
 a75:=Tryz.isAgg95,
 z75:=Tryz.sizeOf95,
 v75:=Tryz.zeroValue95,
 t76:=Tryz.underlying96,
 a76:=Tryz.isAgg96,
 z76:=Tryz.sizeOf96,
 v76:=Tryz.zeroValue96,
 t127:=Tryz.underlying179,
 a127:=Tryz.isAgg179,
 z127:=Tryz.sizeOf179,
 v127:=Tryz.zeroValue179,
 t164:=Tryz.underlying233,
 a164:=Tryz.isAgg233,
 z164:=Tryz.sizeOf233,
 v164:=Tryz.zeroValue233}
theorem aa8:Go.Proofs.Builder.Extra Tryz.prog Sk:={
 sizeBuilder:=by kernel_rfl,
 liesBuilder:=by kernel_rfl,
 t5:=iG,
 a5:=kd,
 z5:=jR,
 v5:=iS,
 infoByte:=by kernel_rfl,
 cellsByte:=by kernel_rfl,
 sizeByte:=by kernel_rfl,
 neB5:=by decide}
end Go.Proofs.YtjjjihkifgdhgaaGreatDoor
namespace Go.Proofs.YtjjjihkifgdhgaaGreatDoor
open Go.IntKind renaming wrap → wi0
open Go.RowKit
set_option maxRecDepth 10000
noncomputable section
structure ku where
 kw:ByteArray
 Word:ByteArray
def kJ (x:ku):List Value:=[.string x.kw,.string x.Word]
def kR (x y:ku):Bool:=(lz x.kw y.kw)&&((lz x.Word y.Word)&&true)
theorem lj {x y:ku}:kR x y=true↔x=y:=by
 cases x; cases y; simp [kR,nE]
theorem Hc (x:ku):(kJ x).length=2:=rfl
theorem AZ (x:ku):∀u∈kJ x,u.oneCell'=true:=by
 intro u hu
 simp only [kJ,aP,dv,fl] at hu
 rcases hu with rfl | rfl <;> rfl
structure kv where
 Kind:Int
 Head:ku
 lO:ByteArray
 B:ku
 C:ku
 mg:ByteArray
def kF (x:kv):List Value:=[.int .i64 x.Kind,.string x.Head.kw,.string x.Head.Word,.string x.lO,.string x.B.kw,.string x.B.Word,.string x.C.kw,.string x.C.Word,.string x.mg]
def ll (x y:kv):Bool:=(x.Kind==y.Kind)&&((kR x.Head y.Head)&&((lz x.lO y.lO)&&((kR x.B y.B)&&((kR x.C y.C)&&((lz x.mg y.mg)&&true)))))
theorem om {x y:kv}:ll x y=true↔x=y:=by
 cases x; cases y; simp [ll,nE,lj]
theorem mR (x:kv):(kF x).length=9:=rfl
theorem su (x:kv):∀u∈kF x,u.oneCell'=true:=by
 intro u hu
 simp only [kF,aP,dv,fl] at hu
 rcases hu with rfl | rfl | rfl | rfl | rfl | rfl | rfl | rfl | rfl <;> rfl
structure kV where
 ku:ku
 lO:ByteArray
def nB (x:kV):List Value:=[.string x.ku.kw,.string x.ku.Word,.string x.lO]
def E6 (x y:kV):Bool:=(kR x.ku y.ku)&&((lz x.lO y.lO)&&true)
theorem Bn {x y:kV}:E6 x y=true↔x=y:=by
 cases x; cases y; simp [E6,nE,lj]
theorem Cl (x:kV):(nB x).length=3:=rfl
theorem Rg (x:kV):∀u∈nB x,u.oneCell'=true:=by
 intro u hu
 simp only [nB,aP,dv,fl] at hu
 rcases hu with rfl | rfl | rfl <;> rfl
structure uP where
 pJ:Int
 pw:Int
def Mx (x:uP):List Value:=[.int .i64 x.pJ,.int .i64 x.pw]
def EQ (x y:uP):Bool:=(x.pJ==y.pJ)&&((x.pw==y.pw)&&true)
structure mj where
 e:Int
def mZ (x:mj):List Value:=[.int .i64 x.e]
structure oU where
 Z4:Bool
structure Key where
 lO:ByteArray
 Key:List Int
structure Signed where
 kv:kv
 Tag:List Int
structure Formula where
 Op:Int
 K:Int
 ku:ku
 Kids:List Formula
structure kU where
 Signed:Signed
 ky:Formula
structure mr where
 ku:ku
 ky:Formula
 lT:List kv
structure lB where
 Name:ByteArray
 kE:List kU
 kQ:List mr
structure mY where
 kw:lB
 Client:lB
 Formula:Formula
 pj:Int
 lP:uP
 mO:Int
 nZ:Int
 ny:Int
 Keys:List Key
def rc (a0:ByteArray) (d:Int):Option Int :=
 some (Ba a0 d)
def uM (a0:ByteArray) (d:Int):Option Int :=
 ((rc a0 d).bind λr1=>some r1)
def yE :List Int→Option Bool
 | []=>some true
 | j::d=>((uM (⟨#[97,98,99,100,101,102,103,104,105,106,107,108,109,110,111,112,113,114,115,116,117,118,119,120,121,122,48,49,50,51,52,53,54,55,56,57,45]⟩:ByteArray) j).bind λi=>(if (decide (i < 0)) then some false else (yE d)))
def Gw (a0:ByteArray):Option Bool :=
 ((Hk a0).bind λd=>yE d)
def uw (a0:ByteArray):Option Bool :=
 ((if (decide ((a0.size:Int)≥1)) then some (decide ((a0.size:Int)≤16)) else some false).bind λx2=>((if x2 then ((ED a0 0).bind λd=>((uM (⟨#[97,98,99,100,101,102,103,104,105,106,107,108,109,110,111,112,113,114,115,116,117,118,119,120,121,122]⟩:ByteArray) (d.toNat:Int)).bind λj=>some (decide (j≥0)))) else some false).bind λn=>((if n then ((Gw a0).bind λi=>some i) else some false).bind λp=>some p)))
def xF (a0:List Int):Option (List Int) :=
 ((nm 1 ([]) a0).bind λd=>some d)
def rZ (a0:ku):Option Bool :=
 ((uw a0.kw).bind λj=>((if j then ((uw a0.Word).bind λd=>some d) else some false).bind λi=>some i))
def pV (a0 d:ByteArray):Option Int :=
 some (rX a0 d)
def sK (a0 d:ByteArray):Option Int :=
 ((pV a0 d).bind λr1=>some r1)
def vK :List Int→Option Int
 | []=>some 0
 | d::i=>(if (d != 0) then some d else (vK i))
def yv (a0:List Int):Option Int :=
 vK a0
def ov (a0 n:ku):Option Int :=
 ((sK a0.kw n.kw).bind λd=>((sK a0.Word n.Word).bind λi=>((yv ([d,i])).bind λj=>some j)))
def vE (a0:kv):Option Bool :=
 ((rZ a0.Head).bind λQ=>(((if (a0.Kind==1) then ((if Q then ((uw a0.lO).bind λi=>some i) else some false).bind λE=>some (Sum.inr (E,(⟨a0.Kind,a0.Head,a0.lO,(⟨zS,zS⟩:ku),(⟨zS,zS⟩:ku),zS⟩:kv)))) else (if (a0.Kind==2) then ((if Q then ((rZ a0.B).bind λj=>some j) else some false).bind λG=>some (Sum.inr (G,(⟨a0.Kind,a0.Head,zS,a0.B,(⟨zS,zS⟩:ku),zS⟩:kv)))) else (if (a0.Kind==3) then ((if Q then ((rZ a0.B).bind λp=>some p) else some false).bind λI=>((if I then some (lz a0.B.kw a0.Head.kw) else some false).bind λJ=>((if J then ((uw a0.mg).bind λn=>some n) else some false).bind λL=>some (Sum.inr (L,(⟨a0.Kind,a0.Head,zS,a0.B,(⟨zS,zS⟩:ku),a0.mg⟩:kv)))))) else (if (a0.Kind==4) then ((if Q then ((rZ a0.B).bind λw=>some w) else some false).bind λM=>((if M then ((rZ a0.C).bind λv=>some v) else some false).bind λO=>((if O then ((ov a0.B a0.C).bind λu=>some (decide (u < 0))) else some false).bind λP=>some (Sum.inr (P,(⟨a0.Kind,a0.Head,zS,a0.B,a0.C,zS⟩:kv)))))) else some (Sum.inl false))))):Option (Bool ⊕ (Bool×kv))).bind λs=>match s with | .inl d=>some d | .inr (x,z)=>((if x then some (ll z a0) else some false).bind λA=>some A)))
def tg :Nat→Int→(List Int)→Option (Bool×(List Int))
 | 0,_,_=>none
 | p+1,d,j=>(if (decide (d≥128)) then ((nm 1 j ([(IntKind.u8.wrap (BitVec.ofInt (IntKind.bits .u8) (IntKind.u8.wrap d) ||| BitVec.ofInt (IntKind.bits .u8) 128).toNat)])).bind λn=>(tg p (Int.fdiv d (2 ^ min (Int.toNat 7) (IntKind.bits .i64))) n)) else ((nm 1 j ([(IntKind.u8.wrap d)])).bind λi=>some (true,i)))
def qv (d:List Int) (i:Int):Option (Bool×(List Int)) :=
 (if (decide (i < 0)) then some (false,d) else tg kY i d)
def Bl (d i:List Int):Option (Bool×(List Int)) :=
 (if (decide ((i.length:Int) > 2048)) then some (false,d) else ((qv d (i.length:Int)).bind λn=>((nm 1 n.2 i).bind λj=>some (true,j))))
def xa (d:List Int) (u:ByteArray):Option (Bool×(List Int)) :=
 ((uw u).bind λr1=>(((if r1 then ((Hk u).bind λn=>((Bl d n).bind λi=>some (i.1,i.2))) else some (false,d)):Option (Bool×(List Int))).bind λ(p,j)=>some (p,j)))
def th (d:List Int) (p:ku):Option (Bool×(List Int)) :=
 ((rZ p).bind λx=>(((if x then ((xa d p.kw).bind λn=>some (n.1,n.2)) else some (false,d)):Option (Bool×(List Int))).bind λ(v,i)=>(((if v then ((xa i p.Word).bind λj=>some (j.1,j.2)) else some (false,i)):Option (Bool×(List Int))).bind λ(w,u)=>some (w,u))))
def wZ (d:List Int):Option (List Int) :=
 ((xF d).bind λi=>some i)
def An (a0:kv):Option (List Int) :=
 ((vE a0).bind λz=>(if (!z) then some [] else ((qv ([]) a0.Kind).bind λA=>((th A.2 a0.Head).bind λd=>(((if (a0.Kind==1) then ((xa d.2 a0.lO).bind λn=>some n.2) else (if (a0.Kind==2) then ((th d.2 a0.B).bind λp=>some p.2) else (if (a0.Kind==3) then ((th d.2 a0.B).bind λu=>((xa u.2 a0.mg).bind λv=>some v.2)) else (if (a0.Kind==4) then ((th d.2 a0.B).bind λw=>((th w.2 a0.C).bind λx=>some x.2)) else some d.2)))):Option (List Int)).bind λi=>((wZ i).bind λj=>some j))))))
def zn (a0 d:List Int):Option Bool :=
 some (lz (uF a0) (uF d))
def uL (a0:List kv):Option (List kv) :=
 ((nm 136 ([]) a0).bind λd=>some d)
def ri (f1:kv→Option Bool):List kv→Nat→Option Int
 | [],_=>some (-1)
 | j::d,i35=>((f1 j).bind λi=>(if i then some (i35:Int) else (ri f1 d (i35+1))))
def sF (a0:List kv) (f1:kv→Option Bool):Option Int :=
 ri f1 a0 0
def pX (f1:kv→Option Bool):Nat→(List kv)→Int→Int→Option (List kv)
 | 0,_,_,_=>none
 | n321+1,i,d,j=>(if (decide (j < (i.length:Int))) then ((((lD i j).bind λn=>((f1 n).bind λu=>(if (!u) then ((lD i d).bind λw=>some ((i.set (Int.toNat d) n),(wi0 .i64 (d+1)))) else some (i,d)))):Option ((List kv)×Int)).bind λ(p,v)=>(pX f1 n321 p v (wi0 .i64 (j+1)))) else ((vB (decide (0≤d)&&decide (d≤(i.length:Int)))).bind λ_=>((vB (decide (0≤d)&&decide (d≤((rj i (Int.toNat d) (⟨0,(⟨zS,zS⟩:ku),zS,(⟨zS,zS⟩:ku),(⟨zS,zS⟩:ku),zS⟩:kv)).length:Int)))).bind λ_=>some ((rj i (Int.toNat d) (⟨0,(⟨zS,zS⟩:ku),zS,(⟨zS,zS⟩:ku),(⟨zS,zS⟩:ku),zS⟩:kv)).take (Int.toNat d)))))
def ul (a0:List kv) (f1:kv→Option Bool):Option (List kv) :=
 ((sF a0 f1).bind λr1=>(if (r1==(-1)) then some a0 else pX f1 kY a0 r1 (wi0 .i64 (r1+1))))
def BK (a0:kv):Option Bool :=
 ((vE a0).bind λd=>some (!d))
def zZ (a0 d:List Int):Option Int :=
 some (Ce a0 d)
def px (a0 n:kv):Option Int :=
 ((An a0).bind λd=>((An n).bind λi=>((zZ d i).bind λj=>some j)))
def qJ (i:Int):Nat→(List kv)→Int→Int→Option ((List kv)×Int)
 | 0,_,_,_=>none
 | u+1,d,j,n=>(if (decide (n < ((d.length-(Int.toNat i):Nat):Int))) then ((((lD (d.drop (Int.toNat i)) n).bind λw=>((lD (d.drop (Int.toNat i)) (wi0 .i64 (n-1))).bind λx=>(if (!(ll w x)) then ((lD (d.drop (Int.toNat i)) n).bind λz=>((lD d j).bind λA=>some ((d.set (Int.toNat j) z),(wi0 .i64 (j+1))))) else some (d,j)))):Option ((List kv)×Int)).bind λ(p,v)=>(qJ i u p v (wi0 .i64 (n+1)))) else some (d,j))
def qM (a0:List kv):Nat→Int→Option (List kv)
 | 0,_=>none
 | n+1,d=>(if (decide (d < (a0.length:Int))) then ((lD a0 d).bind λp=>((lD a0 (wi0 .i64 (d-1))).bind λu=>(if (ll p u) then ((vB (decide (0≤d)&&decide (d≤(a0.length:Int)))).bind λ_=>((qJ d kY a0 d 1).bind λ(j,i)=>((vB (decide (0≤i)&&decide (i≤(j.length:Int)))).bind λ_=>((vB (decide (0≤i)&&decide (i≤((rj j (Int.toNat i) (⟨0,(⟨zS,zS⟩:ku),zS,(⟨zS,zS⟩:ku),(⟨zS,zS⟩:ku),zS⟩:kv)).length:Int)))).bind λ_=>some ((rj j (Int.toNat i) (⟨0,(⟨zS,zS⟩:ku),zS,(⟨zS,zS⟩:ku),(⟨zS,zS⟩:ku),zS⟩:kv)).take (Int.toNat i)))))) else (qM a0 n (wi0 .i64 (d+1)))))) else some a0)
def vO (a0:List kv):Option (List kv) :=
 (if (decide ((a0.length:Int) < 2)) then some a0 else qM a0 kY 1)
def AQ (a0:List kv):Option (List kv) :=
 ((uL a0).bind λr1=>((ul r1 (λ(x:kv)=>BK x)).bind λd=>((DZ (λ(x:(kv×kv))=>px x.1 x.2) d).bind λi=>((vO i).bind λj=>some j))))
def ta (j:kv):List kv→Nat→Option Int
 | [],_=>some (-1)
 | i::d,i46=>(if (ll j i) then some (i46:Int) else (ta j d (i46+1)))
def zK (a0:List kv) (d:kv):Option Int :=
 ta d a0 0
def vo (a0:List kv) (d:kv):Option Bool :=
 ((zK a0 d).bind λi=>some (decide (i≥0)))
def wA (a0:List kv) (d:kv):Option Bool :=
 ((vo a0 d).bind λi=>some i)
def CM (a0:kv):Option (List ku) :=
 ((vE a0).bind λp=>(if (!p) then some [] else (((if (a0.Kind != 1) then ((nm 32 ([a0.Head]) ([a0.B])).bind λn=>some n) else some ([a0.Head])):Option (List ku)).bind λd=>(((if (a0.Kind==4) then ((nm 32 d ([a0.C])).bind λj=>some j) else some d):Option (List ku)).bind λi=>some i))))
def qY (u:kv) (d:List (ByteArray×(List kv))) (n:List kv):List ku→(List (ku×(List kv)))→Option ((List kv)×(List (ku×(List kv)))×(List (ByteArray×(List kv))))
 | [],i=>(if (u.Kind==3) then ((nm 136 ((mJ lz d u.mg).getD []) ([u])).bind λw=>some (n,i,(qK lz d u.mg w))) else some (n,i,d))
 | j::p,i=>((nm 136 ((mJ kR i j).getD []) ([u])).bind λv=>(qY u d n p (qK kR i j v)))
def wy (u:List (ku×(List (ByteArray×Bool)))) (d:List kv) (j:List (ku×(List kv))) (i:List (ByteArray×(List kv))) (n:List kV) (x:Int) (v:kv):Option ((List kv)×(List (ku×(List kv)))×(List (ByteArray×(List kv)))) :=
 ((nm 136 d ([v])).bind λw=>((CM v).bind λp=>((vB (decide (0≤1)&&decide (1≤(p.length:Int)))).bind λ_=>qY v i w (p.drop (Int.toNat 1)) j)))
def qi (d:List (ku×(List (ByteArray×Bool)))) (n:List kv) (u:List (ku×(List kv))) (p:List (ByteArray×(List kv))) (i:List kV) (j:Int) (v:ku) (a2:ByteArray):Option ((List (ku×(List (ByteArray×Bool))))×(List kV)×Int) :=
 (if (D0 lz ((mJ kR d v).getD []) a2 false) then some (d,i,j) else (((if (mJ kR d v).isNone then ((La kR d v ([])).bind λw=>some w) else some d):Option (List (ku×(List (ByteArray×Bool))))).bind λx=>((KB kR lz x v a2 true).bind λz=>((nm 48 i ([(⟨v,a2⟩:kV)])).bind λA=>some (z,A,(wi0 .i64 (j+1)))))))
def rl (a0:List (ByteArray×Bool)):Option Unit :=
 some ()
def tT (d:List (ku×(List (ByteArray×Bool)))) (i:List kv) (p:List (ku×(List kv))) (j:List (ByteArray×(List kv))) (n:List kV) (v:Int) (w:ku):Option (List ByteArray) :=
 ((rl ((mJ kR d w).getD [])).bind λx=>((Lp ((mJ kR d w).getD [])).bind λu=>some u))
def te (d:List kv) (j:List (ku×(List kv))) (i:List (ByteArray×(List kv))) (a2:ku):List ByteArray→(List (ku×(List (ByteArray×Bool))))→(List kV)→Int→Option ((List (ku×(List (ByteArray×Bool))))×(List kV)×Int)
 | [],n,p,v=>some (n,p,v)
 | x::w,n,p,v=>((qi n d j i p v a2 x).bind λu=>(te d j i a2 w u.1 u.2.1 u.2.2))
def xl (p:List (ku×(List (ByteArray×Bool)))) (d:List kv) (n:List (ku×(List kv))) (i:List (ByteArray×(List kv))) (j:List kV) (u:Int) (v a2:ku):Option ((List (ku×(List (ByteArray×Bool))))×(List kV)×Int) :=
 ((tT p d n i j u v).bind λw=>te d n i a2 w p j u)
def uJ (d:List (ku×(List (ByteArray×Bool)))) (j:List kv) (p:List (ku×(List kv))) (n:List (ByteArray×(List kv))) (i:List kV) (u:Int) (v:kv) (a2:kV):Option ((List (ku×(List (ByteArray×Bool))))×(List kV)×Int) :=
 (if (v.Kind==2) then ((qi d j p n i u v.Head a2.lO).bind λz=>some (z.1,z.2.1,z.2.2)) else (if (v.Kind==3) then ((xl d j p n i u (⟨a2.lO,v.mg⟩:ku) v.Head).bind λw=>some (w.1,w.2.1,w.2.2)) else (if (v.Kind==4) then ((if (D0 lz ((mJ kR d v.B).getD []) a2.lO false) then some (D0 lz ((mJ kR d v.C).getD []) a2.lO false) else some false).bind λA=>(if A then ((qi d j p n i u v.Head a2.lO).bind λx=>some (x.1,x.2.1,x.2.2)) else some (d,i,u))) else some (d,i,u))))
def rW (d:List kv) (j:List (ku×(List kv))) (i:List (ByteArray×(List kv))) (z:kv):List ByteArray→(List (ku×(List (ByteArray×Bool))))→(List kV)→Int→Option ((List (ku×(List (ByteArray×Bool))))×(List kV)×Int)
 | [],n,p,v=>some (n,p,v)
 | x::w,n,p,v=>((uJ n d j i p v z (⟨z.B,x⟩:kV)).bind λu=>(rW d j i z w u.1 u.2.1 u.2.2))
def vM (p:List (ku×(List (ByteArray×Bool)))) (d:List kv) (n:List (ku×(List kv))) (i:List (ByteArray×(List kv))) (j:List kV) (u:Int) (v:kv):Option ((List (ku×(List (ByteArray×Bool))))×(List kV)×Int) :=
 (if (v.Kind==1) then ((qi p d n i j u v.Head v.lO).bind λx=>some (x.1,x.2.1,x.2.2)) else ((tT p d n i j u v.B).bind λw=>rW d n i v w p j u))
def qo (u:kV) (d:List kv) (j:List (ku×(List kv))) (i:List (ByteArray×(List kv))):List kv→(List (ku×(List (ByteArray×Bool))))→(List kV)→Int→Option ((List (ku×(List (ByteArray×Bool))))×(List kV)×Int)
 | [],n,p,v=>some (n,p,v)
 | z::x,n,p,v=>(if (D0 lz ((mJ kR n z.B).getD []) u.ku.kw false) then ((qi n d j i p v z.Head u.lO).bind λw=>(qo u d j i x w.1 w.2.1 w.2.2)) else (qo u d j i x n p v))
def rG (d:List kv) (j:List (ku×(List kv))) (i:List (ByteArray×(List kv))) (w:kV):List kv→(List (ku×(List (ByteArray×Bool))))→(List kV)→Int→Option ((List (ku×(List (ByteArray×Bool))))×(List kV)×Int)
 | [],n,p,v=>some (n,p,v)
 | z::x,n,p,v=>((uJ n d j i p v z w).bind λu=>(rG d j i w x u.1 u.2.1 u.2.2))
def pF (j:List kv) (i:List (ku×(List kv))) (d:List (ByteArray×(List kv))):Nat→(List (ku×(List (ByteArray×Bool))))→(List kV)→Int→Option ((List (ku×(List (ByteArray×Bool))))×(List kV)×Int)
 | 0,_,_,_=>none
 | E+1,u,n,v=>(if (decide ((n.length:Int) > 0)) then ((lD n 0).bind λp=>((vB (decide (0≤1)&&decide (1≤(n.length:Int)))).bind λ_=>((rG j i d p ((mJ kR i p.ku).getD []) u (n.drop (Int.toNat 1)) v).bind λ(w,x,G)=>((qo p j i d ((mJ lz d p.ku.Word).getD []) w x G).bind λ(z,A,I)=>(pF j i d E z A I))))) else some (u,n,v))
def yc (p:List (ku×(List (ByteArray×Bool)))) (d:List kv) (n:List (ku×(List kv))) (i:List (ByteArray×(List kv))) (j:List kV) (u:Int):Option ((List (ku×(List (ByteArray×Bool))))×(List kV)×Int) :=
 pF d n i kY p j u
def qm (z:Int):List kv→(List (ku×(List (ByteArray×Bool))))→(List kv)→(List (ku×(List kv)))→(List (ByteArray×(List kv)))→(List kV)→Int→Option (Int×(List (ku×(List (ByteArray×Bool))))×(List kv)×(List (ku×(List kv)))×(List (ByteArray×(List kv)))×(List kV)×Int)
 | [],j,d,n,p,u,v=>((yc j d n p u v).bind λw=>some ((wi0 .i64 (w.2.2-z)),w.1,d,n,p,w.2.1,w.2.2))
 | x::E,j,d,n,p,u,v=>((vE x).bind λG=>((if G then ((wA d x).bind λI=>some (!I)) else some false).bind λJ=>(if J then ((wy j d n p u v x).bind λi=>((vM j i.1 i.2.1 i.2.2 u v x).bind λA=>(qm z E A.1 i.1 i.2.1 i.2.2 A.2.1 A.2.2))) else (qm z E j d n p u v))))
def xj (p:List (ku×(List (ByteArray×Bool)))) (d:List kv) (n:List (ku×(List kv))) (i:List (ByteArray×(List kv))) (j:List kV) (u:Int) (v:List kv):Option (Int×(List (ku×(List (ByteArray×Bool))))×(List kv)×(List (ku×(List kv)))×(List (ByteArray×(List kv)))×(List kV)×Int) :=
 qm u v p d n i j u
def AI (a0:List kv):Option ((List (ku×(List (ByteArray×Bool))))×(List kv)×(List (ku×(List kv)))×(List (ByteArray×(List kv)))×(List kV)×Int) :=
 ((xj ([]) ([]) ([]) ([]) ([]) 0 a0).bind λd=>some (d.2.1,d.2.2.1,d.2.2.2.1,d.2.2.2.2.1,d.2.2.2.2.2.1,d.2.2.2.2.2.2))
def tj (a0 n:kV):Option Int :=
 ((ov a0.ku n.ku).bind λd=>((sK a0.lO n.lO).bind λi=>((yv ([d,i])).bind λj=>some j)))
def zJ (d:List (ku×(List (ByteArray×Bool)))) (i:List kv) (p:List (ku×(List kv))) (j:List (ByteArray×(List kv))) (n:List kV) (v:Int):Option (List kV) :=
 ((UN 48 (λ(a:ku) (b:ByteArray)=>(⟨a,b⟩:kV)) d).bind λfs=>I5 fs (λu=>((DZ (λ(x:(kV×kV))=>tj x.1 x.2) u).bind λw=>some w)))
def wV (d:List (ku×(List (ByteArray×Bool)))) (i:List kv) (p:List (ku×(List kv))) (j:List (ByteArray×(List kv))) (n:List kV) (u:Int) (v:ku) (a2:ByteArray):Option Bool :=
 some (D0 lz ((mJ kR d v).getD []) a2 false)
def uT :List kv→Int→Option Int
 | [],i=>some i
 | d::j,i=>(uT j (wi0 .i64 (i+(wi0 .i64 ((wi0 .i64 ((wi0 .i64 ((wi0 .i64 ((wi0 .i64 ((wi0 .i64 ((wi0 .i64 ((wi0 .i64 (20+(d.Head.kw.size:Int)))+(d.Head.Word.size:Int)))+(d.lO.size:Int)))+(d.B.kw.size:Int)))+(d.B.Word.size:Int)))+(d.C.kw.size:Int)))+(d.C.Word.size:Int)))+(d.mg.size:Int))))))
def zf (a0:List kv):Option Int :=
 uT a0 0
def vc :List Signed→Int→Option Int
 | [],d=>some d
 | i::j,d=>((zf ([i.kv])).bind λn=>(vc j (wi0 .i64 (d+(wi0 .i64 (n+(i.Tag.length:Int)))))))
def tJ (p:List Signed):List Key→Int→Option Int
 | [],d=>((vc p d).bind λi=>some i)
 | j::n,d=>(tJ p n (wi0 .i64 (d+(wi0 .i64 ((wi0 .i64 (10+(j.lO.size:Int)))+(j.Key.length:Int))))))
def xE (a0:List Key) (d:List Signed):Option Int :=
 tJ d a0 0
def wO (a0:ByteArray):Nat→Int→Option Bool
 | 0,_=>none
 | j+1,i=>(if (decide (i < (a0.size:Int))) then ((ED a0 i).bind λd=>((if (decide ((d.toNat:Int) < 97)) then some true else some (decide ((d.toNat:Int) > 122))).bind λn=>((if n then ((if (decide ((d.toNat:Int) < 48)) then some true else some (decide ((d.toNat:Int) > 57))).bind λv=>some v) else some false).bind λp=>((if p then some ((d.toNat:Int) != 45) else some false).bind λu=>(if u then some false else (wO a0 j (wi0 .i64 (i+1)))))))) else some true)
def vW (a0:ByteArray):Option Bool :=
 ((if (lz a0 zS) then some true else some (decide ((a0.size:Int) > 16))).bind λx2=>((if x2 then some true else ((ED a0 0).bind λi=>some (decide ((i.toNat:Int) < 97)))).bind λj=>((if j then some true else ((ED a0 0).bind λd=>some (decide ((d.toNat:Int) > 122)))).bind λn=>(if n then some false else wO a0 kY 0))))
def vX (a0:ku):Option Bool :=
 ((vW a0.kw).bind λj=>((if j then ((vW a0.Word).bind λd=>some d) else some false).bind λi=>some i))
def yy (a0 d:ku):Option Bool :=
 ((if (tE a0.kw d.kw) then some true else ((if (lz a0.kw d.kw) then some (tE a0.Word d.Word) else some false).bind λj=>some j)).bind λi=>some i)
def BT (a0:kv):Option Bool :=
 ((vX a0.Head).bind λL=>(if (!L) then some false else (if (a0.Kind==1) then ((vW a0.lO).bind λu=>((if u then some (kR a0.B (⟨zS,zS⟩:ku)) else some false).bind λw=>((if w then some (kR a0.C (⟨zS,zS⟩:ku)) else some false).bind λx=>((if x then some (lz a0.mg zS) else some false).bind λz=>some z)))) else ((if (!(lz a0.lO zS)) then some true else ((vX a0.B).bind λj=>some (!j))).bind λA=>(if A then some false else (if (a0.Kind==2) then ((if (kR a0.C (⟨zS,zS⟩:ku)) then some (lz a0.mg zS) else some false).bind λE=>some E) else (if (a0.Kind==3) then ((if (kR a0.C (⟨zS,zS⟩:ku)) then some (lz a0.B.kw a0.Head.kw) else some false).bind λG=>((if G then ((vW a0.mg).bind λv=>some v) else some false).bind λI=>some I)) else ((if (a0.Kind==4) then some (lz a0.mg zS) else some false).bind λJ=>((if J then ((vX a0.C).bind λi=>some i) else some false).bind λn=>((if n then ((yy a0.B a0.C).bind λd=>some d) else some false).bind λp=>some p))))))))))
def Bk :Nat→Int→ByteArray→Option ByteArray
 | 0,_,_=>none
 | n45+1,d,i=>(if (decide (d≥128)) then ((mf i (uF ([(IntKind.u8.wrap (wi0 .i64 (128+(Int.tmod d 128))))]))).bind λj=>(Bk n45 (wi0 .i64 (Int.tdiv d 128)) j)) else ((mf i (uF ([(IntKind.u8.wrap d)]))).bind λn=>some n))
def vi (a0:Int):Option ByteArray :=
 Bk kY a0 zS
def yN (a0:ByteArray):Option ByteArray :=
 ((vi (a0.size:Int)).bind λr1=>((mf r1 a0).bind λd=>some d))
def xC (a0:ku):Option ByteArray :=
 ((yN a0.kw).bind λd=>((yN a0.Word).bind λi=>((mf d i).bind λj=>some j)))
def H5 (a0:kv):Option ByteArray :=
 ((vi a0.Kind).bind λn=>((xC a0.Head).bind λp=>((mf n p).bind λd=>(if (a0.Kind==1) then ((yN a0.lO).bind λu=>((mf d u).bind λz=>some z)) else ((xC a0.B).bind λv=>((mf d v).bind λi=>(((if (a0.Kind==3) then ((yN a0.mg).bind λx=>((mf i x).bind λE=>some E)) else some i):Option ByteArray).bind λj=>(((if (a0.Kind==4) then ((xC a0.C).bind λw=>((mf j w).bind λA=>some A)) else some j):Option ByteArray).bind λG=>some G))))))))
def BI (a0:kv):Option ByteArray :=
 ((BT a0).bind λd=>(if (!d) then some zS else ((H5 a0).bind λi=>some i)))
def xR (a0 j:kv):Option Int :=
 ((BI a0).bind λd=>((BI j).bind λi=>(if (tE d i) then some (-1) else (if (!(tE d i||lz d i)) then some 1 else some 0))))
def wJ (d:List kv):List kv→Bool→kv→Option (Bool×kv)
 | [],j,n=>some (j,n)
 | i::p,j,n=>((BT i).bind λu=>((if u then ((if ((d.length:Int)==0) then some true else ((lD d (wi0 .i64 ((d.length:Int)-1))).bind λG=>((xR G i).bind λw=>some (decide (w < 0))))).bind λE=>some E) else some false).bind λx=>((if x then ((if (!j) then some true else ((xR i n).bind λv=>some (decide (v < 0)))).bind λA=>some A) else some false).bind λz=>(if z then (wJ d p true i) else (wJ d p j n)))))
def AX (a0:List kv):Nat→(List kv)→Option (List kv)
 | 0,_=>none
 | j+1,d=>((wJ d a0 false (⟨0,(⟨zS,zS⟩:ku),zS,(⟨zS,zS⟩:ku),(⟨zS,zS⟩:ku),zS⟩:kv)).bind λ(n,p)=>(if (!n) then some d else ((nm 136 d ([p])).bind λi=>(AX a0 j i))))
def BB (a0:List kv):Option (List kv) :=
 AX a0 kY ([])
def xP (n:List kv):List kv→Nat→Option Bool
 | [],_=>some true
 | j::i,i90=>((lD n (i90:Int)).bind λd=>(if (!(ll j d)) then some false else (xP n i (i90+1))))
def vz (a0 d:List kv):Option Bool :=
 (if ((a0.length:Int) != (d.length:Int)) then some false else xP d a0 0)
def Dw (j:kv):List kv→Option Bool
 | []=>some false
 | i::d=>(if (ll i j) then some true else (Dw j d))
def DX (a0:List kv) (d:kv):Option Bool :=
 Dw d a0
def wM (d:List ByteArray):List ByteArray→ByteArray→Option ByteArray
 | [],j=>some j
 | i::n,j=>((vW i).bind λu=>((if u then ((if ((d.length:Int)==0) then some true else ((lD d (wi0 .i64 ((d.length:Int)-1))).bind λp=>some (!(tE i p||lz i p)))).bind λz=>some z) else some false).bind λv=>((if v then ((if (lz j zS) then some true else some (tE i j)).bind λx=>some x) else some false).bind λw=>(if w then (wM d n i) else (wM d n j)))))
def A8 (a0:List ByteArray):Nat→(List ByteArray)→Option (List ByteArray)
 | 0,_=>none
 | n+1,d=>((wM d a0 zS).bind λi=>(if (lz i zS) then some d else ((nm 16 d ([i])).bind λj=>(A8 a0 n j))))
def GA (a0:List ByteArray):Option (List ByteArray) :=
 A8 a0 kY ([])
def xe :List kv→(List ByteArray)→Option (List ByteArray)
 | [],i=>((GA i).bind λn=>some n)
 | d::p,i=>((nm 16 i ([d.lO,d.Head.kw,d.B.kw,d.C.kw])).bind λj=>(xe p j))
def En (a0:List kv):Option (List ByteArray) :=
 xe a0 ([])
def BF (n:ku) (a2:ByteArray):List kV→Option Bool
 | []=>some false
 | i::j=>((if (kR i.ku n) then some (lz i.lO a2) else some false).bind λd=>(if d then some true else (BF n a2 j)))
def yY (a0:List kV) (d:ku) (a2:ByteArray):Option Bool :=
 BF d a2 a0
def zP (a0:List kV) (u:kv) (a3:ByteArray):List ByteArray→Option Bool
 | []=>some false
 | d::i=>((yY a0 u.B d).bind λj=>((if j then ((yY a0 (⟨d,u.mg⟩:ku) a3).bind λn=>some n) else some false).bind λp=>(if p then some true else (zP a0 u a3 i))))
def FE (a0:List kV) (d:kv) (a2:List ByteArray) (a3:ByteArray):Option Bool :=
 (if (d.Kind==1) then some (lz d.lO a3) else (if (d.Kind==2) then ((yY a0 d.B a3).bind λn=>some n) else (if (d.Kind==4) then ((yY a0 d.B a3).bind λp=>((if p then ((yY a0 d.C a3).bind λi=>some i) else some false).bind λj=>some j)) else zP a0 d a3 a2)))
def yp (a0 d:kV):Option Bool :=
 ((yy a0.ku d.ku).bind λn=>((if n then some true else ((if (kR a0.ku d.ku) then some (tE a0.lO d.lO) else some false).bind λj=>some j)).bind λi=>some i))
def sL (i a0:List kV):List kV→Nat→Int→Option Int
 | [],_,d=>some d
 | p::n,j,d=>((if ((i.length:Int)==0) then some true else ((lD i (wi0 .i64 ((i.length:Int)-1))).bind λE=>((yp E p).bind λv=>some v))).bind λw=>((if w then ((if (decide (d < 0)) then some true else ((lD a0 d).bind λA=>((yp p A).bind λu=>some u))).bind λz=>some z) else some false).bind λx=>(if x then (sL i a0 n (j+1) (j:Int)) else (sL i a0 n (j+1) d))))
def sH (a0:List kV):List kV→(List kV)→Option (List kV)
 | [],d=>some d
 | u::j,d=>((sL d a0 a0 0 (-1)).bind λi=>(if (decide (i≥0)) then ((lD a0 i).bind λp=>((nm 48 d ([p])).bind λn=>(sH a0 j n))) else (sH a0 j d)))
def Hd (a0:List kV):Option (List kV) :=
 sH a0 a0 ([])
def zq (i:kv) (z:List ByteArray):List ByteArray→(List kV)→Bool→Option ((List kV)×Bool)
 | [],d,n=>some (d,n)
 | j::p,d,n=>((yY d i.Head j).bind λv=>((if (!v) then ((FE d i z j).bind λw=>some w) else some false).bind λx=>(if x then ((nm 48 d ([(⟨i.Head,j⟩:kV)])).bind λu=>(zq i z p u true)) else (zq i z p d n))))
def BV (v:List ByteArray):List kv→(List kV)→Bool→Option ((List kV)×Bool)
 | [],d,i=>some (d,i)
 | p::j,d,i=>((zq p v v d i).bind λ(n,u)=>(BV v j n u))
def BN (u:List ByteArray) (r1:List kv):Nat→(List kV)→Option (List kV)
 | 0,_=>none
 | i+1,p=>((BV u r1 p false).bind λ(d,n)=>(if (!n) then ((Hd d).bind λj=>some j) else (BN u r1 i d)))
def AF (a0:List kv):Option (List kV) :=
 ((BB a0).bind λr1=>((En r1).bind λd=>BN d r1 kY ([])))
def yC (a0:List kv) (i:ByteArray):Option ((List (ku×(List (ByteArray×Bool))))×(List kv)×(List (ku×(List kv)))×(List (ByteArray×(List kv)))×(List kV)×Int×ByteArray) :=
 ((AI a0).bind λd=>some (d.1,d.2.1,d.2.2.1,d.2.2.2.1,d.2.2.2.2.1,d.2.2.2.2.2,i))
def nM (f1:kU→Option Bool):List kU→Nat→Option Int
 | [],_=>some (-1)
 | j::d,i47=>((f1 j).bind λi=>(if i then some (i47:Int) else (nM f1 d (i47+1))))
def py (a0:List kU) (f1:kU→Option Bool):Option Int :=
 nM f1 a0 0
def zT (a0:kU) (d:kv):Option Bool :=
 some (ll a0.Signed.kv d)
def CG (a0:lB) (j:kv):Option (kU×Bool) :=
 ((py a0.kE (λ(x:kU)=>zT x j)).bind λd=>(if (decide (d < 0)) then some ((⟨(⟨(⟨0,(⟨zS,zS⟩:ku),zS,(⟨zS,zS⟩:ku),(⟨zS,zS⟩:ku),zS⟩:kv),[]⟩:Signed),(⟨0,0,(⟨zS,zS⟩:ku),[]⟩:Formula)⟩:kU),false) else ((lD a0.kE d).bind λi=>some (i,true))))
def xM (a0:List mr):Option (List mr) :=
 ((nm 128 ([]) a0).bind λd=>some d)
def ox (f1:mr→Option Bool):List mr→Nat→Option Int
 | [],_=>some (-1)
 | j::d,i47=>((f1 j).bind λi=>(if i then some (i47:Int) else (ox f1 d (i47+1))))
def qn (a0:List mr) (f1:mr→Option Bool):Option Int :=
 ox f1 a0 0
def qf (f1:mr→Option Bool):Nat→(List mr)→Int→Int→Option (List mr)
 | 0,_,_,_=>none
 | u+1,i,d,j=>(if (decide (j < (i.length:Int))) then ((((lD i j).bind λn=>((f1 n).bind λv=>(if (!v) then ((lD i d).bind λx=>some ((i.set (Int.toNat d) n),(wi0 .i64 (d+1)))) else some (i,d)))):Option ((List mr)×Int)).bind λ(p,w)=>(qf f1 u p w (wi0 .i64 (j+1)))) else ((vB (decide (0≤d)&&decide (d≤(i.length:Int)))).bind λ_=>((vB (decide (0≤d)&&decide (d≤((rj i (Int.toNat d) (⟨(⟨zS,zS⟩:ku),(⟨0,0,(⟨zS,zS⟩:ku),[]⟩:Formula),[]⟩:mr)).length:Int)))).bind λ_=>some ((rj i (Int.toNat d) (⟨(⟨zS,zS⟩:ku),(⟨0,0,(⟨zS,zS⟩:ku),[]⟩:Formula),[]⟩:mr)).take (Int.toNat d)))))
def uI (a0:List mr) (f1:mr→Option Bool):Option (List mr) :=
 ((qn a0 f1).bind λr1=>(if (r1==(-1)) then some a0 else qf f1 kY a0 r1 (wi0 .i64 (r1+1))))
def vh (a0:mr) (d:kv):Option Bool :=
 ((wA a0.lT d).bind λi=>some (!i))
def BP (a0:lB) (i:kv):Option (List mr) :=
 ((xM a0.kQ).bind λj=>((uI j (λ(x:mr)=>vh x i)).bind λd=>some d))
def sf (p:Int) (rec:Formula→Int→Option (Int×Int)):List Formula→Int→Int→Option (Int×Int)
 | [],d,j=>some (d,j)
 | u::n,d,j=>(if (decide (d > p)) then some (d,j) else ((rec u (wi0 .i64 (p-d))).bind λi=>(sf p rec n (wi0 .i64 (d+i.1)) (if i.2 > j then i.2 else j))))
def yT (rec:Formula→Int→Option (Int×Int)) (a0:Formula) (j:Int):Option (Int×Int) :=
 ((sf j rec a0.Kids 1 0).bind λ(d,i)=>some (d,(wi0 .i64 (i+1))))
def qN:Nat→Formula→Int→Option (Int×Int)
 | 0=>λ_ _=>none
 | n+1=>yT (qN n)
def AU (a0:Formula):Option (Int×Int) :=
 ((qN kY a0 4096).bind λd=>(if (decide (d.1 > 4096)) then some (0,0) else some (d.1,d.2)))
def AP (a0:Formula):Option Bool :=
 (if (a0.Op==1) then ((rZ a0.ku).bind λn=>((if n then some ((a0.Kids.length:Int)==0) else some false).bind λp=>((if p then some (a0.K==0) else some false).bind λu=>some u))) else ((if (a0.Op==2) then some (a0.Op==2) else some (a0.Op==3)).bind λv=>(if v then ((if (kR a0.ku (⟨zS,zS⟩:ku)) then some (a0.K==0) else some false).bind λw=>some w) else ((if (a0.Op==4) then some (kR a0.ku (⟨zS,zS⟩:ku)) else some false).bind λx=>((if x then some (decide (a0.K≥0)) else some false).bind λd=>((if d then some (decide (a0.K≤(a0.Kids.length:Int))) else some false).bind λi=>((if i then some (decide ((a0.Kids.length:Int)≥1)) else some false).bind λj=>some j)))))))
def pB (f1:Formula→Option Bool):List Formula→Nat→Option Int
 | [],_=>some (-1)
 | j::d,i41=>((f1 j).bind λi=>(if i then some (i41:Int) else (pB f1 d (i41+1))))
def vV (a0:List Formula) (f1:Formula→Option Bool):Option Int :=
 pB f1 a0 0
def qt (a0:List Formula) (f1:Formula→Option Bool):Option Bool :=
 ((vV a0 f1).bind λr1=>some (decide (r1≥0)))
def xH (rec:Formula→Option Bool) (a0:Formula):Option Bool :=
 ((rec a0).bind λd=>some (!d))
def yX (rec:Formula→Option Bool) (a0:Formula):Option Bool :=
 ((AP a0).bind λj=>((if j then some (decide ((a0.Kids.length:Int)≤8)) else some false).bind λn=>((if n then ((qt a0.Kids (λ(x:Formula)=>xH rec x)).bind λd=>some (!d)) else some false).bind λi=>some i)))
def ux:Nat→Formula→Option Bool
 | 0=>λ_=>none
 | n+1=>yX (ux n)
def qS (a0:Formula):Option Bool :=
 ((AU a0).bind λi=>((if (decide (i.1≥1)) then some (decide (i.1≤64)) else some false).bind λp=>((if p then some (decide (i.2≤6)) else some false).bind λj=>((if j then ((ux kY a0).bind λd=>some d) else some false).bind λn=>some n))))
def wK (a0:Formula) (d:Int):Option Bool :=
 ((if (a0.Op==d) then some ((a0.Kids.length:Int)==0) else some false).bind λx6=>some x6)
def CQ :Option Formula :=
 some (⟨2,0,(⟨zS,zS⟩:ku),[]⟩:Formula)
def DG :Option Formula :=
 some (⟨3,0,(⟨zS,zS⟩:ku),[]⟩:Formula)
def tM (a0:Int):List Formula→(List Formula)→Option (List Formula)
 | [],d=>some d
 | i::j,d=>(if (i.Op==a0) then ((nm 72 d i.Kids).bind λn=>(tM a0 j n)) else ((nm 72 d ([i])).bind λp=>(tM a0 j p)))
def Ez (a0:Int) (d:List Formula):Option (List Formula) :=
 tM a0 d ([])
def tU (a0:Formula) (d:Int):Option Bool :=
 ((wK a0 d).bind λi=>some i)
def vm (a0:List Formula):Option (List Formula) :=
 ((nm 72 ([]) a0).bind λd=>some d)
def nw (E:Int) (f3:(Formula×Formula)→Option Int):Nat→(List Formula)→Int→Option (List Formula)
 | 0,_,_=>none
 | p+1,i,d=>((if (decide (d > E)) then ((lD i d).bind λw=>((lD i (wi0 .i64 (d-1))).bind λx=>((f3 (w,x)).bind λu=>some (decide (u < 0))))) else some false).bind λv=>(if v then ((lD i (wi0 .i64 (d-1))).bind λn=>((lD i d).bind λj=>((lD i d).bind λz=>((lD (i.set (Int.toNat d) n) (wi0 .i64 (d-1))).bind λA=>(nw E f3 p ((i.set (Int.toNat d) n).set (Int.toNat (wi0 .i64 (d-1))) (⟨j.Op,j.K,j.ku,j.Kids⟩:Formula)) (wi0 .i64 (d-1))))))) else some i))
def mU (a2 p:Int) (f3:(Formula×Formula)→Option Int):Nat→(List Formula)→Int→Option (List Formula)
 | 0,_,_=>none
 | n+1,i,d=>(if (decide (d < a2)) then ((nw p f3 kY i d).bind λj=>(mU a2 p f3 n j (wi0 .i64 (d+1)))) else some i)
def pa (a0:List Formula) (d a2:Int) (f3:(Formula×Formula)→Option Int):Option (List Formula) :=
 mU a2 d f3 kY a0 (wi0 .i64 (d+1))
def nO (a3 a2 p:Int):Nat→(List Formula)→Int→Option (List Formula)
 | 0,_,_=>none
 | u+1,i,d=>(if (decide (d < a3)) then ((lD i (wi0 .i64 (a2+d))).bind λn=>((lD i (wi0 .i64 (p+d))).bind λj=>((lD i (wi0 .i64 (p+d))).bind λv=>((lD (i.set (Int.toNat (wi0 .i64 (p+d))) n) (wi0 .i64 (a2+d))).bind λw=>(nO a3 a2 p u ((i.set (Int.toNat (wi0 .i64 (p+d))) n).set (Int.toNat (wi0 .i64 (a2+d))) (⟨j.Op,j.K,j.ku,j.Kids⟩:Formula)) (wi0 .i64 (d+1))))))) else some i)
def oS (a0:List Formula) (d a2 a3:Int) (f4:(Formula×Formula)→Option Int):Option (List Formula) :=
 nO a3 a2 d kY a0 0
def oh (a2:Int) (f4:(Formula×Formula)→Option Int):Nat→(List Formula)→Int→Int→Option (List Formula)
 | 0,_,_,_=>none
 | n185+1,j,d,i=>(if (d != i) then (if (decide (d > i)) then ((oS j (wi0 .i64 (a2-d)) a2 i f4).bind λn=>(oh a2 f4 n185 n (wi0 .i64 (d-i)) i)) else ((oS j (wi0 .i64 (a2-d)) (wi0 .i64 ((wi0 .i64 (a2+i))-d)) d f4).bind λp=>(oh a2 f4 n185 p d (wi0 .i64 (i-d))))) else ((oS j (wi0 .i64 (a2-d)) a2 d f4).bind λu=>some u))
def oI (a0:List Formula) (d a2 a3:Int) (f4:(Formula×Formula)→Option Int):Option (List Formula) :=
 oh a2 f4 kY a0 (wi0 .i64 (a2-d)) (wi0 .i64 (a3-a2))
def nT (p:Int):Nat→(List Formula)→Int→Option (List Formula)
 | 0,_,_=>none
 | u+1,i,d=>(if (decide (d < (wi0 .i64 (p-1)))) then ((lD i (wi0 .i64 (d+1))).bind λn=>((lD i d).bind λj=>((lD i d).bind λv=>((lD (i.set (Int.toNat d) n) (wi0 .i64 (d+1))).bind λw=>(nT p u ((i.set (Int.toNat d) n).set (Int.toNat (wi0 .i64 (d+1))) (⟨j.Op,j.K,j.ku,j.Kids⟩:Formula)) (wi0 .i64 (d+1))))))) else some i)
def mG (a0:List Formula) (v:Int) (f4:(Formula×Formula)→Option Int):Nat→Int→Int→Option (List Formula)
 | 0,_,_=>none
 | n325+1,d,i=>(if (decide (d < i)) then ((lD a0 (wi0 .i64 (Int.fdiv (IntKind.u64.wrap (wi0 .i64 (d+i))) (2 ^ min (Int.toNat 1) (IntKind.bits .u64))))).bind λp=>((lD a0 v).bind λu=>((f4 (p,u)).bind λn=>(if (decide (n < 0)) then (mG a0 v f4 n325 (wi0 .i64 ((wi0 .i64 (Int.fdiv (IntKind.u64.wrap (wi0 .i64 (d+i))) (2 ^ min (Int.toNat 1) (IntKind.bits .u64))))+1)) i) else (mG a0 v f4 n325 d (wi0 .i64 (Int.fdiv (IntKind.u64.wrap (wi0 .i64 (d+i))) (2 ^ min (Int.toNat 1) (IntKind.bits .u64))))))))) else ((nT d kY a0 v).bind λj=>some j))
def nQ (n:Int):Nat→(List Formula)→Int→Option (List Formula)
 | 0,_,_=>none
 | u+1,i,d=>(if (decide (d > n)) then ((lD i (wi0 .i64 (d-1))).bind λp=>((lD i d).bind λj=>((lD i d).bind λv=>((lD (i.set (Int.toNat d) p) (wi0 .i64 (d-1))).bind λw=>(nQ n u ((i.set (Int.toNat d) p).set (Int.toNat (wi0 .i64 (d-1))) (⟨j.Op,j.K,j.ku,j.Kids⟩:Formula)) (wi0 .i64 (d-1))))))) else some i)
def mH (a0:List Formula) (a2:Int) (f4:(Formula×Formula)→Option Int):Nat→Int→Int→Option (List Formula)
 | 0,_,_=>none
 | j+1,d,i=>(if (decide (d < i)) then ((lD a0 a2).bind λu=>((lD a0 (wi0 .i64 (Int.fdiv (IntKind.u64.wrap (wi0 .i64 (d+i))) (2 ^ min (Int.toNat 1) (IntKind.bits .u64))))).bind λv=>((f4 (u,v)).bind λp=>(if (!(decide (p < 0))) then (mH a0 a2 f4 j (wi0 .i64 ((wi0 .i64 (Int.fdiv (IntKind.u64.wrap (wi0 .i64 (d+i))) (2 ^ min (Int.toNat 1) (IntKind.bits .u64))))+1)) i) else (mH a0 a2 f4 j d (wi0 .i64 (Int.fdiv (IntKind.u64.wrap (wi0 .i64 (d+i))) (2 ^ min (Int.toNat 1) (IntKind.bits .u64))))))))) else ((nQ d kY a0 a2).bind λn=>some n))
def mu (a0:List Formula) (j a3 a2:Int) (f4:(Formula×Formula)→Option Int) (rec:(List Formula)→Int→Int→Int→((Formula×Formula)→Option Int)→Option (List Formula)):Nat→Int→Int→Option (List Formula)
 | 0,_,_=>none
 | u+1,d,i=>(if (decide (d < i)) then ((lD a0 (wi0 .i64 ((wi0 .i64 ((wi0 .i64 ((wi0 .i64 (Int.fdiv (IntKind.u64.wrap (wi0 .i64 (j+a3))) (2 ^ min (Int.toNat 1) (IntKind.bits .u64))))+a2))-1))-(wi0 .i64 (Int.fdiv (IntKind.u64.wrap (wi0 .i64 (d+i))) (2 ^ min (Int.toNat 1) (IntKind.bits .u64))))))).bind λA=>((lD a0 (wi0 .i64 (Int.fdiv (IntKind.u64.wrap (wi0 .i64 (d+i))) (2 ^ min (Int.toNat 1) (IntKind.bits .u64))))).bind λE=>((f4 (A,E)).bind λv=>(if (!(decide (v < 0))) then (mu a0 j a3 a2 f4 rec u (wi0 .i64 ((wi0 .i64 (Int.fdiv (IntKind.u64.wrap (wi0 .i64 (d+i))) (2 ^ min (Int.toNat 1) (IntKind.bits .u64))))+1)) i) else (mu a0 j a3 a2 f4 rec u d (wi0 .i64 (Int.fdiv (IntKind.u64.wrap (wi0 .i64 (d+i))) (2 ^ min (Int.toNat 1) (IntKind.bits .u64))))))))) else ((((if (decide (d < a2)) then some (decide (a2 < (wi0 .i64 ((wi0 .i64 ((wi0 .i64 (Int.fdiv (IntKind.u64.wrap (wi0 .i64 (j+a3))) (2 ^ min (Int.toNat 1) (IntKind.bits .u64))))+a2))-d)))) else some false).bind λJ=>(if J then ((oI a0 d a2 (wi0 .i64 ((wi0 .i64 ((wi0 .i64 (Int.fdiv (IntKind.u64.wrap (wi0 .i64 (j+a3))) (2 ^ min (Int.toNat 1) (IntKind.bits .u64))))+a2))-d)) f4).bind λz=>some z) else some a0)):Option (List Formula)).bind λn=>((((if (decide (j < d)) then some (decide (d < (wi0 .i64 (Int.fdiv (IntKind.u64.wrap (wi0 .i64 (j+a3))) (2 ^ min (Int.toNat 1) (IntKind.bits .u64)))))) else some false).bind λI=>(if I then ((rec n j d (wi0 .i64 (Int.fdiv (IntKind.u64.wrap (wi0 .i64 (j+a3))) (2 ^ min (Int.toNat 1) (IntKind.bits .u64)))) f4).bind λx=>some x) else some n)):Option (List Formula)).bind λp=>((if (decide ((wi0 .i64 (Int.fdiv (IntKind.u64.wrap (wi0 .i64 (j+a3))) (2 ^ min (Int.toNat 1) (IntKind.bits .u64)))) < (wi0 .i64 ((wi0 .i64 ((wi0 .i64 (Int.fdiv (IntKind.u64.wrap (wi0 .i64 (j+a3))) (2 ^ min (Int.toNat 1) (IntKind.bits .u64))))+a2))-d)))) then some (decide ((wi0 .i64 ((wi0 .i64 ((wi0 .i64 (Int.fdiv (IntKind.u64.wrap (wi0 .i64 (j+a3))) (2 ^ min (Int.toNat 1) (IntKind.bits .u64))))+a2))-d)) < a3)) else some false).bind λG=>(if G then ((rec p (wi0 .i64 (Int.fdiv (IntKind.u64.wrap (wi0 .i64 (j+a3))) (2 ^ min (Int.toNat 1) (IntKind.bits .u64)))) (wi0 .i64 ((wi0 .i64 ((wi0 .i64 (Int.fdiv (IntKind.u64.wrap (wi0 .i64 (j+a3))) (2 ^ min (Int.toNat 1) (IntKind.bits .u64))))+a2))-d)) a3 f4).bind λw=>some w) else some p)))))
def rM (rec:(List Formula)→Int→Int→Int→((Formula×Formula)→Option Int)→Option (List Formula)) (a0:List Formula) (d a2 a3:Int) (f4:(Formula×Formula)→Option Int):Option (List Formula) :=
 (if ((wi0 .i64 (a2-d))==1) then mG a0 d f4 kY a2 a3 else (if ((wi0 .i64 (a3-a2))==1) then mH a0 a2 f4 kY d a2 else (((if (decide (a2 > (wi0 .i64 (Int.fdiv (IntKind.u64.wrap (wi0 .i64 (d+a3))) (2 ^ min (Int.toNat 1) (IntKind.bits .u64)))))) then some ((wi0 .i64 ((wi0 .i64 ((wi0 .i64 (Int.fdiv (IntKind.u64.wrap (wi0 .i64 (d+a3))) (2 ^ min (Int.toNat 1) (IntKind.bits .u64))))+a2))-a3)),(wi0 .i64 (Int.fdiv (IntKind.u64.wrap (wi0 .i64 (d+a3))) (2 ^ min (Int.toNat 1) (IntKind.bits .u64))))) else some (d,a2)):Option (Int×Int)).bind λ(i,j)=>mu a0 d a3 a2 f4 rec kY i j)))
def mW:Nat→(List Formula)→Int→Int→Int→((Formula×Formula)→Option Int)→Option (List Formula)
 | 0=>λ_ _ _ _ _=>none
 | n+1=>rM (mW n)
def ob (v i:Int) (f2:(Formula×Formula)→Option Int):Nat→(List Formula)→Int→Int→Option ((List Formula)×Int)
 | 0,_,_,_=>none
 | p+1,n,j,d=>(if (decide (d≤v)) then ((mW kY n j (wi0 .i64 (j+i)) d f2).bind λu=>(ob v i f2 p u d (wi0 .i64 (d+(wi0 .i64 (2*i)))))) else some (n,j))
def nI (w:Int) (f2:(Formula×Formula)→Option Int):Nat→(List Formula)→Int→Option (List Formula)
 | 0,_,_=>none
 | u+1,j,d=>(if (decide (d < w)) then ((ob w d f2 kY j 0 (wi0 .i64 (2*d))).bind λ(n,i)=>(((if (decide ((wi0 .i64 (i+d)) < w)) then ((mW kY n i (wi0 .i64 (i+d)) w f2).bind λv=>some v) else some n):Option (List Formula)).bind λp=>(nI w f2 u p (wi0 .i64 (d*2))))) else some j)
def nJ (v:Int) (f2:(Formula×Formula)→Option Int):Nat→(List Formula)→Int→Int→Option (List Formula)
 | 0,_,_,_=>none
 | n123+1,j,u,d=>(if (decide (d≤v)) then ((pa j u d f2).bind λn=>(nJ v f2 n123 n d (wi0 .i64 (d+20)))) else ((pa j u v f2).bind λp=>((nI v f2 kY p 20).bind λi=>some i)))
def uq (a0:List Formula) (d:Int) (f2:(Formula×Formula)→Option Int):Option (List Formula) :=
 nJ d f2 kY a0 0 20
def rq (a0:List Formula) (f1:(Formula×Formula)→Option Int):Option (List Formula) :=
 ((uq a0 (a0.length:Int) f1).bind λr1=>some r1)
def tN (rec:(List Int)→Formula→Option (List Int)):List Formula→(List Int)→Option (List Int)
 | [],d=>some d
 | n::i,d=>((rec d n).bind λj=>(tN rec i j))
def zb (rec:(List Int)→Formula→Option (List Int)) (i:List Int) (d:Formula):Option (List Int) :=
 ((qv i d.Op).bind λu=>(if (d.Op==1) then ((th u.2 d.ku).bind λp=>some p.2) else (((if (d.Op==4) then ((qv u.2 d.K).bind λj=>some j.2) else some u.2):Option (List Int)).bind λn=>((qv n (d.Kids.length:Int)).bind λv=>tN rec d.Kids v.2))))
def sQ:Nat→(List Int)→Formula→Option (List Int)
 | 0=>λ_ _=>none
 | n+1=>zb (sQ n)
def zU (d:List Int) (i:Formula):Option (Bool×(List Int)) :=
 ((qS i).bind λj=>(if (!j) then some (false,d) else ((sQ kY d i).bind λn=>some (true,n))))
def wm (a0:Formula):Option (List Int) :=
 ((zU ([]) a0).bind λi=>((wZ i.2).bind λd=>some d))
def wi (a0 n:Formula):Option Int :=
 ((wm a0).bind λd=>((wm n).bind λi=>((zZ d i).bind λj=>some j)))
def yI (a0:List Formula):Option (List Formula) :=
 ((vm a0).bind λr1=>((rq r1 (λ(x:(Formula×Formula))=>wi x.1 x.2)).bind λd=>some d))
def oB (i:Int) (f1:(Formula×Formula)→Option Bool):Nat→(List Formula)→Int→Int→Option ((List Formula)×Int)
 | 0,_,_,_=>none
 | u+1,d,j,n=>(if (decide (n < ((d.length-(Int.toNat i):Nat):Int))) then ((((lD (d.drop (Int.toNat i)) n).bind λx=>((lD (d.drop (Int.toNat i)) (wi0 .i64 (n-1))).bind λz=>((f1 (x,z)).bind λv=>(if (!v) then ((lD (d.drop (Int.toNat i)) n).bind λA=>((lD d j).bind λE=>some ((d.set (Int.toNat j) A),(wi0 .i64 (j+1))))) else some (d,j))))):Option ((List Formula)×Int)).bind λ(p,w)=>(oB i f1 u p w (wi0 .i64 (n+1)))) else some (d,j))
def oz (a0:List Formula) (f1:(Formula×Formula)→Option Bool):Nat→Int→Option (List Formula)
 | 0,_=>none
 | n+1,d=>(if (decide (d < (a0.length:Int))) then ((lD a0 d).bind λu=>((lD a0 (wi0 .i64 (d-1))).bind λv=>((f1 (u,v)).bind λp=>(if p then ((vB (decide (0≤d)&&decide (d≤(a0.length:Int)))).bind λ_=>((oB d f1 kY a0 d 1).bind λ(j,i)=>((vB (decide (0≤i)&&decide (i≤(j.length:Int)))).bind λ_=>((vB (decide (0≤i)&&decide (i≤((rj j (Int.toNat i) (⟨0,0,(⟨zS,zS⟩:ku),[]⟩:Formula)).length:Int)))).bind λ_=>some ((rj j (Int.toNat i) (⟨0,0,(⟨zS,zS⟩:ku),[]⟩:Formula)).take (Int.toNat i)))))) else (oz a0 f1 n (wi0 .i64 (d+1))))))) else some a0)
def sC (a0:List Formula) (f1:(Formula×Formula)→Option Bool):Option (List Formula) :=
 (if (decide ((a0.length:Int) < 2)) then some a0 else oz a0 f1 kY 1)
def mF (p:List Formula) (f2:(Formula×Formula)→Option Bool):List Formula→Nat→Option Bool
 | [],_=>some true
 | n::j,i95=>((lD p (i95:Int)).bind λi=>((f2 (n,i)).bind λd=>(if (!d) then some false else (mF p f2 j (i95+1)))))
def oA (a0 d:List Formula) (f2:(Formula×Formula)→Option Bool):Option Bool :=
 (if ((a0.length:Int) != (d.length:Int)) then some false else mF d f2 a0 0)
def zI (rec:Formula→Formula→Option Bool) (a0 d:Formula):Option Bool :=
 ((if (a0.Op==d.Op) then some (a0.K==d.K) else some false).bind λj=>((if j then some (kR a0.ku d.ku) else some false).bind λn=>((if n then ((oA a0.Kids d.Kids (λ(x:(Formula×Formula))=>rec x.1 x.2)).bind λi=>some i) else some false).bind λp=>some p)))
def pu:Nat→Formula→Formula→Option Bool
 | 0=>λ_ _=>none
 | n+1=>zI (pu n)
def qL (a0:mj) (j:Int) (a2:List Formula):Option (Formula×mj) :=
 ((Ez j a2).bind λv=>((qt v (λ(x:Formula)=>tU x (wi0 .i64 (5-j)))).bind λn=>(if n then some ((⟨(wi0 .i64 (5-j)),0,(⟨zS,zS⟩:ku),[]⟩:Formula),a0) else ((yI v).bind λp=>((sC p (λ(x:(Formula×Formula))=>pu kY x.1 x.2)).bind λd=>(((if (decide ((d.length:Int) > 64)) then some (⟨12⟩:mj) else some a0):Option mj).bind λi=>(if ((d.length:Int)==1) then ((lD d 0).bind λu=>some (u,i)) else some ((⟨j,0,(⟨zS,zS⟩:ku),d⟩:Formula),i))))))))
def ow (a0:mj):List Formula→Int→(List Formula)→Option (Formula×mj)
 | [],i,d=>(if (decide (i≤0)) then (CQ.bind λz=>some (z,a0)) else (if (decide (i > (d.length:Int))) then (DG.bind λA=>some (A,a0)) else (if (i==(d.length:Int)) then ((qL a0 2 d).bind λp=>some (p.1,p.2)) else (if (i==1) then ((qL a0 3 d).bind λu=>some (u.1,u.2)) else ((yI d).bind λE=>some ((⟨4,i,(⟨zS,zS⟩:ku),E⟩:Formula),a0))))))
 | n::j,i,d=>((wK n 2).bind λw=>(if w then (ow a0 j (wi0 .i64 (i-1)) d) else ((wK n 3).bind λx=>(if (!x) then ((nm 72 d ([n])).bind λv=>(ow a0 j i v)) else (ow a0 j i d)))))
def tV (a0:mj) (d:Int) (a2:List Formula):Option (Formula×mj) :=
 ow a0 a2 d ([])
def qg (rec:mj→Formula→Option (Formula×mj)) (x:Formula):List Formula→(List Formula)→mj→Option (Formula×mj)
 | [],d,i=>(if (x.Op==4) then ((tV i x.K d).bind λn=>some (n.1,n.2)) else ((qL i x.Op d).bind λp=>some (p.1,p.2)))
 | w::u,d,i=>((rec i w).bind λj=>((nm 72 d ([j.1])).bind λv=>(qg rec x u v j.2)))
def vg (rec:mj→Formula→Option (Formula×mj)) (a0:mj) (d:Formula):Option (Formula×mj) :=
 (if (d.Op==1) then some (d,a0) else qg rec d d.Kids ([]) a0)
def pA:Nat→mj→Formula→Option (Formula×mj)
 | 0=>λ_ _=>none
 | n+1=>vg (pA n)
def BA (a0:Formula):Option (Formula×Int) :=
 ((qS a0).bind λn=>(if (!n) then some ((⟨0,0,(⟨zS,zS⟩:ku),[]⟩:Formula),11) else ((pA kY (⟨0⟩:mj) a0).bind λd=>((if (d.2.e != 0) then some true else ((qS d.1).bind λi=>some (!i))).bind λj=>(if j then some ((⟨0,0,(⟨zS,zS⟩:ku),[]⟩:Formula),12) else some (d.1,0))))))
def BL (a0 i:Formula):Option (Formula×Int) :=
 ((BA (⟨2,0,(⟨zS,zS⟩:ku),[a0,i]⟩:Formula)).bind λd=>some (d.1,d.2))
def wG :List Formula→Int→Int→Int→ku→(List Formula)→Option (Int×Int×Int×ku×(List Formula))
 | [],j,n,p,u,i=>some (j,n,p,u,i)
 | w::v,j,n,p,u,i=>(if (j != 0) then some (j,n,p,u,i) else ((BL (⟨n,p,u,i⟩:Formula) w).bind λd=>(wG v d.2 ((d.1).Op) ((d.1).K) ((d.1).ku) ((d.1).Kids))))
def zu (a0:List Formula):Option (Formula×Int) :=
 ((lD a0 0).bind λx6=>((BA x6).bind λd=>((vB (decide (0≤1)&&decide (1≤(a0.length:Int)))).bind λ_=>((wG (a0.drop (Int.toNat 1)) d.2 ((d.1).Op) ((d.1).K) ((d.1).ku) ((d.1).Kids)).bind λ(i,n,p,u,j)=>(if (i != 0) then some ((⟨0,0,(⟨zS,zS⟩:ku),[]⟩:Formula),i) else some ((⟨n,p,u,j⟩:Formula),0))))))
def xz :List mr→(List Formula)→Option (Formula×Int)
 | [],d=>((zu d).bind λi=>some (i.1,i.2))
 | p::j,d=>((nm 72 d ([p.ky])).bind λn=>(xz j n))
def Da (a0:lB) (j:kv):Option (Formula×Int) :=
 ((CG a0 j).bind λd=>(if (!d.2) then some ((⟨0,0,(⟨zS,zS⟩:ku),[]⟩:Formula),42) else ((BP a0 j).bind λi=>xz i ([(d.1).ky]))))
def sd (rec:Formula→(ku→Option Bool)→Option Bool) (f1:ku→Option Bool) (a0:Formula):List Formula→Int→Option Bool
 | [],d=>(if (a0.Op==2) then some (d==(a0.Kids.length:Int)) else (if (a0.Op==3) then some (decide (d > 0)) else some (decide (d≥a0.K))))
 | n::i,d=>((rec n f1).bind λj=>(if j then (sd rec f1 a0 i (wi0 .i64 (d+1))) else (sd rec f1 a0 i d)))
def yV (rec:Formula→(ku→Option Bool)→Option Bool) (a0:Formula) (f1:ku→Option Bool):Option Bool :=
 (if (a0.Op==1) then ((f1 a0.ku).bind λd=>some d) else sd rec f1 a0 a0.Kids 0)
def sS:Nat→Formula→(ku→Option Bool)→Option Bool
 | 0=>λ_ _=>none
 | n+1=>yV (sS n)
def yH (a0:Formula) (f1:ku→Option Bool):Option Bool :=
 ((qS a0).bind λj=>((if j then ((sS kY a0 f1).bind λd=>some d) else some false).bind λi=>some i))
def sT (a0:ku) (p:List (ku×(List (ByteArray×Bool)))) (d:List kv) (n:List (ku×(List kv))) (i:List (ByteArray×(List kv))) (j:List kV) (u:Int) (c1:ByteArray):Option Bool :=
 ((wV p d n i j u a0 c1).bind λv=>some v)
def uo (a0:lB) (j:((List (ku×(List (ByteArray×Bool))))×(List kv)×(List (ku×(List kv)))×(List (ByteArray×(List kv)))×(List kV)×Int×ByteArray)):List kU→(List kv)→Option (List kv)
 | [],d=>((AQ d).bind λv=>some v)
 | n::i,d=>((Da a0 n.Signed.kv).bind λr417=>((if (r417.2==0) then ((yH r417.1 (λ(x:ku)=>sT x j.1 j.2.1 j.2.2.1 j.2.2.2.1 j.2.2.2.2.1 j.2.2.2.2.2.1 j.2.2.2.2.2.2)).bind λu=>some u) else some false).bind λw=>(if w then ((nm 136 d ([n.Signed.kv])).bind λp=>(uo a0 j i p)) else (uo a0 j i d))))
def vy (a0:lB) (d:List kv) (a2:ByteArray):Option (List kv) :=
 ((yC d a2).bind λi=>uo a0 i a0.kE ([]))
def sr (a0 w:lB):Nat→(List kv)→(List kv)→Int→Option ((List kv)×(List kv)×Int)
 | 0,_,_,_=>none
 | u+1,d,i,p=>((vy a0 i w.Name).bind λj=>((vy w d a0.Name).bind λn=>((if ((j.length:Int)==(d.length:Int)) then some ((n.length:Int)==(i.length:Int)) else some false).bind λv=>(if v then some (d,i,p) else (sr a0 w u j n (wi0 .i64 (p+1)))))))
def zt (a0 d:lB):Option ((List kv)×(List kv)×Int) :=
 sr a0 d kY ([]) ([]) 0
def uZ (rec:(List Formula)→Option Int):List Formula→Int→Option Int
 | [],i=>some i
 | d::n,i=>((rec d.Kids).bind λj=>(uZ rec n (wi0 .i64 (i+(wi0 .i64 ((wi0 .i64 (1+(wi0 .i64 (Int.tdiv (wi0 .i64 ((d.ku.kw.size:Int)+(d.ku.Word.size:Int))) 16))))+j))))))
def Af (rec:(List Formula)→Option Int) (a0:List Formula):Option Int :=
 uZ rec a0 0
def rn:Nat→(List Formula)→Option Int
 | 0=>λ_=>none
 | n+1=>Af (rn n)
def vd :List mr→Int→Option Int
 | [],i=>some i
 | d::j,i=>((rn kY ([d.ky])).bind λn=>((zf d.lT).bind λp=>(vd j (wi0 .i64 (i+(wi0 .i64 ((wi0 .i64 ((wi0 .i64 ((d.ku.kw.size:Int)+(d.ku.Word.size:Int)))+(wi0 .i64 (20*n))))+p)))))))
def uW (a0:lB):List kU→Int→Option Int
 | [],d=>((vd a0.kQ d).bind λj=>some j)
 | i::n,d=>((((xE ([]) ([i.Signed])).bind λv=>some (v,([i.ky]))):Option (Int×(List Formula))).bind λ(w,p)=>((rn kY p).bind λu=>(uW a0 n (wi0 .i64 (d+(wi0 .i64 (w+(wi0 .i64 (20*u)))))))))
def zp (a0:lB):Option Int :=
 uW a0 a0.kE (a0.Name.size:Int)
def BW (a0:mY):Option Int :=
 ((((zp a0.kw).bind λn=>((zp a0.Client).bind λp=>some ((wi0 .i64 (n+p)),([a0.Formula])))):Option (Int×(List Formula))).bind λ(u,d)=>((rn kY d).bind λi=>((xE a0.Keys ([])).bind λj=>some (wi0 .i64 ((wi0 .i64 (u+(wi0 .i64 (20*i))))+j)))))
def uU (p:ByteArray):List kV→(List ku)→Option (List ku)
 | [],d=>some d
 | n::i,d=>(if (lz n.lO p) then ((nm 32 d ([n.ku])).bind λj=>(uU p i j)) else (uU p i d))
def xw (a0:List kV) (d:ByteArray):Option (List ku) :=
 uU d a0 ([])
def wW (rec:Formula→Option Int):List Formula→Int→Option Int
 | [],d=>some d
 | n::j,d=>((rec n).bind λi=>(wW rec j (wi0 .i64 (d+i))))
def Eh (rec:Formula→Option Int) (a0:Formula):Option Int :=
 wW rec a0.Kids 1
def zd:Nat→Formula→Option Int
 | 0=>λ_=>none
 | n+1=>Eh (zd n)
def xI (rec:Formula→Option Int):List Formula→Int→Option Int
 | [],d=>some (wi0 .i64 (d+1))
 | n::j,d=>((rec n).bind λi=>(xI rec j (if i > d then i else d)))
def EK (rec:Formula→Option Int) (a0:Formula):Option Int :=
 xI rec a0.Kids 0
def Ac:Nat→Formula→Option Int
 | 0=>λ_=>none
 | n+1=>EK (Ac n)
def xY (rec:Formula→Option Bool):List Formula→Option Bool
 | []=>some true
 | j::d=>((rec j).bind λi=>(if (!i) then some false else (xY rec d)))
def EF (rec:Formula→Option Bool) (a0:Formula):Option Bool :=
 (if (a0.Op==1) then ((vX a0.ku).bind λA=>((if A then some ((a0.Kids.length:Int)==0) else some false).bind λp=>((if p then some (a0.K==0) else some false).bind λu=>some u))) else ((if (decide (a0.Op < 1)) then some true else some (decide (a0.Op > 4))).bind λv=>((if v then some true else some (!(kR a0.ku (⟨zS,zS⟩:ku)))).bind λw=>((if w then some true else some (decide ((a0.Kids.length:Int) > 8))).bind λx=>(if x then some false else ((if (decide (a0.Op < 4)) then some (a0.K != 0) else some false).bind λz=>((if z then some true else ((if (a0.Op==4) then ((if (decide ((a0.Kids.length:Int) < 1)) then some true else some (decide (a0.K < 0))).bind λj=>((if j then some true else some (decide (a0.K > (a0.Kids.length:Int)))).bind λn=>some n)) else some false).bind λi=>some i)).bind λd=>(if d then some false else xY rec a0.Kids))))))))
def Ax:Nat→Formula→Option Bool
 | 0=>λ_=>none
 | n+1=>EF (Ax n)
def si (a0:Formula):Option Bool :=
 ((zd kY a0).bind λp=>((if (decide (p≤64)) then ((Ac kY a0).bind λi=>some (decide (i≤6))) else some false).bind λj=>((if j then ((Ax kY a0).bind λd=>some d) else some false).bind λn=>some n)))
def Az (a0:Formula) (d:Int):Option Bool :=
 ((if (a0.Op==d) then some ((a0.Kids.length:Int)==0) else some false).bind λx6=>some x6)
def xb (rec:Formula→Option ByteArray):List Formula→ByteArray→Option ByteArray
 | [],d=>some d
 | p::n,d=>((rec p).bind λi=>((mf d i).bind λj=>(xb rec n j)))
def Ea (rec:Formula→Option ByteArray) (a0:Formula):Option ByteArray :=
 ((vi a0.Op).bind λn=>(if (a0.Op==1) then ((xC a0.ku).bind λw=>((mf n w).bind λp=>some p)) else (((if (a0.Op==4) then ((vi a0.K).bind λd=>((mf n d).bind λi=>some i)) else some n):Option ByteArray).bind λv=>((vi (a0.Kids.length:Int)).bind λj=>((mf v j).bind λu=>xb rec a0.Kids u)))))
def vZ:Nat→Formula→Option ByteArray
 | 0=>λ_=>none
 | n+1=>Ea (vZ n)
def CE (a0 v:Formula):Option Int :=
 ((((si a0).bind λp=>(if p then ((vZ kY a0).bind λu=>some u) else some zS)):Option ByteArray).bind λd=>((((si v).bind λj=>(if j then ((vZ kY v).bind λn=>some n) else some zS)):Option ByteArray).bind λi=>(if (tE d i) then some (-1) else (if (!(tE d i||lz d i)) then some 1 else some 0))))
def xN (p:Formula) (rec:Formula→Formula→Option Bool):List Formula→Nat→Option Bool
 | [],_=>some true
 | j::d,i182=>((lD p.Kids (i182:Int)).bind λn=>((rec j n).bind λi=>(if (!i) then some false else (xN p rec d (i182+1)))))
def EG (rec:Formula→Formula→Option Bool) (a0 d:Formula):Option Bool :=
 ((if (a0.Op != d.Op) then some true else some (a0.K != d.K)).bind λi=>((if i then some true else some (!(kR a0.ku d.ku))).bind λj=>((if j then some true else some ((a0.Kids.length:Int) != (d.Kids.length:Int))).bind λn=>(if n then some false else xN d rec a0.Kids 0))))
def qI:Nat→Formula→Formula→Option Bool
 | 0=>λ_ _=>none
 | n+1=>EG (qI n)
def wq (i:List Formula) (j:Formula):Nat→Int→Option Int
 | 0,_=>none
 | n+1,d=>((if (decide (d > 0)) then ((lD i (wi0 .i64 (d-1))).bind λv=>((CE v j).bind λp=>some (decide (p > 0)))) else some false).bind λu=>(if u then (wq i j n (wi0 .i64 (d-1))) else some d))
def oL (E:Bool):List Formula→(List Formula)→Option (List Formula)
 | [],d=>some d
 | j::n,d=>((wq d j kY (d.length:Int)).bind λi=>((if E then some (decide (i > 0)) else some false).bind λx=>((if x then ((lD d (wi0 .i64 (i-1))).bind λA=>((qI kY A j).bind λw=>some w)) else some false).bind λz=>(if z then (oL E n d) else ((vB (decide (0≤i)&&decide (i≤(d.length:Int)))).bind λ_=>((nm 72 ([]) (d.take (Int.toNat i))).bind λp=>((nm 72 p ([j])).bind λu=>((vB (decide (0≤i)&&decide (i≤(d.length:Int)))).bind λ_=>((nm 72 u (d.drop (Int.toNat i))).bind λv=>(oL E n v))))))))))
def AJ (a0:List Formula) (d:Bool):Option (List Formula) :=
 oL d a0 ([])
def ui (n:Int) (a0:oU):List Formula→Option ((Formula×oU) ⊕ Unit)
 | []=>some (Sum.inr ())
 | j::d=>((Az j (wi0 .i64 (5-n))).bind λi=>(if i then some (Sum.inl ((⟨(wi0 .i64 (5-n)),0,(⟨zS,zS⟩:ku),[]⟩:Formula),a0)) else (ui n a0 d)))
def pS (u:Int) (a0:oU):List Formula→(List Formula)→Option (Formula×oU)
 | [],d=>((ui u a0 d).bind λs=>match s with | .inl x=>some x | .inr _=>((AJ d true).bind λi=>((if a0.Z4 then some true else some (decide ((i.length:Int) > 64))).bind λp=>(if ((i.length:Int)==1) then ((lD i 0).bind λA=>some (A,(⟨p⟩:oU))) else some ((⟨u,0,(⟨zS,zS⟩:ku),i⟩:Formula),(⟨p⟩:oU))))))
 | j::n,d=>(if (j.Op==u) then ((nm 72 d j.Kids).bind λv=>(pS u a0 n v)) else ((Az j (wi0 .i64 (5-u))).bind λz=>(if z then some ((⟨(wi0 .i64 (5-u)),0,(⟨zS,zS⟩:ku),[]⟩:Formula),a0) else ((nm 72 d ([j])).bind λw=>(pS u a0 n w)))))
def tS (a0:oU) (d:Int) (a2:List Formula):Option (Formula×oU) :=
 pS d a0 a2 ([])
def pG :List Formula→Int→(List Formula)→Option (Int×(List Formula))
 | [],i,d=>some (i,d)
 | n::j,i,d=>((Az n 2).bind λu=>(if u then (pG j (wi0 .i64 (i-1)) d) else ((Az n 3).bind λv=>(if (!v) then ((nm 72 d ([n])).bind λp=>(pG j i p)) else (pG j i d)))))
def qp (rec:oU→Formula→Option (Formula×oU)) (G:Formula):List Formula→(List Formula)→oU→Option (Formula×oU)
 | [],n,d=>(if (decide (G.Op < 4)) then ((tS d G.Op n).bind λu=>some (u.1,u.2)) else ((pG n G.K ([])).bind λ(j,i)=>(if (decide (j≤0)) then some ((⟨2,0,(⟨zS,zS⟩:ku),[]⟩:Formula),d) else (if (decide (j > (i.length:Int))) then some ((⟨3,0,(⟨zS,zS⟩:ku),[]⟩:Formula),d) else (if (j==(i.length:Int)) then ((tS d 2 i).bind λv=>some (v.1,v.2)) else (if (j==1) then ((tS d 3 i).bind λw=>some (w.1,w.2)) else ((AJ i false).bind λA=>some ((⟨4,j,(⟨zS,zS⟩:ku),A⟩:Formula),d))))))))
 | E::x,n,d=>((rec d E).bind λp=>((nm 72 n ([p.1])).bind λz=>(qp rec G x z p.2)))
def yP (rec:oU→Formula→Option (Formula×oU)) (a0:oU) (d:Formula):Option (Formula×oU) :=
 (if (d.Op==1) then some (d,a0) else qp rec d d.Kids ([]) a0)
def rz:Nat→oU→Formula→Option (Formula×oU)
 | 0=>λ_ _=>none
 | n+1=>yP (rz n)
def EP (a0:Formula):Option (Formula×Int) :=
 ((si a0).bind λn=>(if (!n) then some ((⟨0,0,(⟨zS,zS⟩:ku),[]⟩:Formula),11) else ((rz kY (⟨false⟩:oU) a0).bind λd=>((if d.2.Z4 then some true else ((si d.1).bind λi=>some (!i))).bind λj=>(if j then some ((⟨0,0,(⟨zS,zS⟩:ku),[]⟩:Formula),12) else some (d.1,0))))))
def xy (A:kv):List mr→Int→Int→Int→ku→(List Formula)→Option (Int×Int×Int×ku×(List Formula))
 | [],j,n,p,u,i=>some (j,n,p,u,i)
 | w::v,j,n,p,u,i=>((if (j==0) then ((DX w.lT A).bind λx=>some x) else some false).bind λz=>(if z then ((EP (⟨2,0,(⟨zS,zS⟩:ku),[(⟨n,p,u,i⟩:Formula),w.ky]⟩:Formula)).bind λd=>(xy A v d.2 ((d.1).Op) ((d.1).K) ((d.1).ku) ((d.1).Kids))) else (xy A v j n p u i)))
def BU (x:kv) (a0:lB):List kU→Option (Formula×Int)
 | []=>some ((⟨0,0,(⟨zS,zS⟩:ku),[]⟩:Formula),42)
 | i::n=>(if (!(ll i.Signed.kv x)) then (BU x a0 n) else ((EP i.ky).bind λd=>((xy x a0.kQ d.2 ((d.1).Op) ((d.1).K) ((d.1).ku) ((d.1).Kids)).bind λ(j,u,v,w,p)=>(if (j != 0) then some ((⟨0,0,(⟨zS,zS⟩:ku),[]⟩:Formula),j) else some ((⟨u,v,w,p⟩:Formula),0)))))
def HX (a0:lB) (d:kv):Option (Formula×Int) :=
 BU d a0 a0.kE
def Dv (j:ku):List ku→Option Bool
 | []=>some false
 | i::d=>(if (kR i j) then some true else (Dv j d))
def GG (a0:List ku) (d:ku):Option Bool :=
 Dv d a0
def vR (rec:Formula→(List ku)→Option Bool) (n:List ku) (a0:Formula):List Formula→Int→Option Bool
 | [],d=>(if (a0.Op==2) then some (d==(a0.Kids.length:Int)) else (if (a0.Op==3) then some (decide (d > 0)) else some (decide (d≥a0.K))))
 | p::i,d=>((rec p n).bind λj=>(if j then (vR rec n a0 i (wi0 .i64 (d+1))) else (vR rec n a0 i d)))
def EI (rec:Formula→(List ku)→Option Bool) (a0:Formula) (d:List ku):Option Bool :=
 (if (a0.Op==1) then ((GG d a0.ku).bind λi=>some i) else vR rec d a0 a0.Kids 0)
def yu:Nat→Formula→(List ku)→Option Bool
 | 0=>λ_ _=>none
 | n+1=>EI (yu n)
def vQ (a0:lB) (p:List ku):List kU→(List kv)→Option (List kv)
 | [],d=>((BB d).bind λw=>some w)
 | n::i,d=>((HX a0 n.Signed.kv).bind λj=>((if (j.2==0) then ((yu kY j.1 p).bind λv=>some v) else some false).bind λx=>(if x then ((nm 136 d ([n.Signed.kv])).bind λu=>(vQ a0 p i u)) else (vQ a0 p i d))))
def CY (a0:lB) (i:List kv) (a2:ByteArray):Option (List kv) :=
 ((AF i).bind λj=>((xw j a2).bind λd=>vQ a0 d a0.kE ([])))
def zo (a0 x:lB):Nat→(List kv)→(List kv)→Int→Option ((List kv)×(List kv)×Int)
 | 0,_,_,_=>none
 | n296+1,d,i,p=>((CY a0 i x.Name).bind λj=>((CY x d a0.Name).bind λn=>((vz j d).bind λu=>((if u then ((vz n i).bind λv=>some v) else some false).bind λw=>(if w then some (d,i,p) else (zo a0 x n296 j n (wi0 .i64 (p+1))))))))
def Cw (a0 d:lB):Option ((List kv)×(List kv)×Int) :=
 zo a0 d kY ([]) ([]) 0
def Eo (a0 j:lB):Option ((List kv)×(List (ku×(List (ByteArray×Bool))))×(List kv)×(List (ku×(List kv)))×(List (ByteArray×(List kv)))×(List kV)×Int×ByteArray) :=
 ((zt a0 j).bind λi=>((AI i.2.1).bind λd=>some (i.2.1,d.1,d.2.1,d.2.2.1,d.2.2.2.1,d.2.2.2.2.1,d.2.2.2.2.2,j.Name)))
def za (a0:ku) (p:List (ku×(List (ByteArray×Bool)))) (d:List kv) (n:List (ku×(List kv))) (i:List (ByteArray×(List kv))) (j:List kV) (v:Int) (u:ByteArray) (w:List kU) (x:List mr):Option Bool :=
 ((wV p d n i j v a0 u).bind λz=>some z)
def xU (a0 i:lB) (a2:Formula):Option Bool :=
 ((Eo a0 i).bind λd=>((yH a2 (λ(x:ku)=>za x d.2.1 d.2.2.1 d.2.2.2.1 d.2.2.2.2.1 d.2.2.2.2.2.1 d.2.2.2.2.2.2.1 d.2.2.2.2.2.2.2 i.kE i.kQ)).bind λj=>some j))
def H4 (a0 n:lB):Option (List ku) :=
 ((Cw a0 n).bind λd=>((AF d.2.1).bind λi=>((xw i n.Name).bind λj=>some j)))
def yw (a0 p:lB) (a2:Formula):Option Bool :=
 ((si a2).bind λn=>((if n then ((H4 a0 p).bind λd=>((yu kY a2 d).bind λi=>some i)) else some false).bind λj=>some j))
def tW (a0:List mr) (f1:mr→Option Bool):Option Bool :=
 ((qn a0 f1).bind λr1=>some (decide (r1≥0)))
def zN (a0:mr):Option Bool :=
 some (decide ((a0.lT.length:Int) > 32))
def CX (a0:lB):Option Bool :=
 ((if (decide ((a0.kE.length:Int) > 256)) then some true else some (decide ((a0.kQ.length:Int) > 8))).bind λx8=>((if x8 then some true else ((tW a0.kQ (λ(x:mr)=>zN x)).bind λd=>some d)).bind λi=>some i))
def tf (n:List kv):List kv→Nat→Option Bool
 | [],_=>some true
 | j::i,i90=>((lD n (i90:Int)).bind λd=>(if (!(ll j d)) then some false else (tf n i (i90+1))))
def qw (a0 d:List kv):Option Bool :=
 (if ((a0.length:Int) != (d.length:Int)) then some false else tf d a0 0)
def yD (a0:List kv):Option Bool :=
 ((AQ a0).bind λr1=>((qw r1 a0).bind λd=>some d))
def uN :List kU→(List kv)→Option Bool
 | [],d=>((yD d).bind λu=>some u)
 | i::j,d=>((if ((i.Signed.Tag.length:Int) != 8) then some true else ((qS i.ky).bind λp=>some (!p))).bind λv=>(if v then some false else ((nm 136 d ([i.Signed.kv])).bind λn=>(uN j n))))
def Ev (a0:lB):Option Bool :=
 uN a0.kE ([])
def vS (a0:List mr):List mr→Nat→Option Bool
 | [],_=>some true
 | d::j,i=>((rZ d.ku).bind λn=>((if (!n) then some true else ((qS d.ky).bind λv=>some (!v))).bind λw=>((if w then some true else ((yD d.lT).bind λu=>some (!u))).bind λx=>((if x then some true else ((if (decide ((i:Int) > 0)) then ((lD a0 (wi0 .i64 ((i:Int)-1))).bind λE=>((ov E.ku d.ku).bind λp=>some (decide (p≥0)))) else some false).bind λA=>some A)).bind λz=>(if z then some false else (vS a0 j (i+1)))))))
def Ff (a0:List mr):Option Bool :=
 vS a0 a0 0
def rO (a0:List kU) (f1:kU→Option Bool):Option Bool :=
 ((py a0 f1).bind λr1=>some (decide (r1≥0)))
def ym (a0:kU) (j:ByteArray) (d:List kU) (i:List mr):Option Bool :=
 ((Da (⟨j,d,i⟩:lB) a0.Signed.kv).bind λn=>some (n.2 != 0))
def AH (a0:lB):Option Bool :=
 ((rO a0.kE (λ(x:kU)=>ym x a0.Name a0.kE a0.kQ)).bind λd=>some (!d))
def zi (a0:lB):Option Int :=
 ((uw a0.Name).bind λv=>(if (!v) then some 30 else ((CX a0).bind λd=>(if d then some 12 else ((Ev a0).bind λi=>((if (!i) then some true else ((Ff a0.kQ).bind λn=>some (!n))).bind λp=>((if p then some true else ((AH a0).bind λj=>some (!j))).bind λu=>(if u then some 11 else some 0))))))))
def tC (a0:List kv) (f1:kv→Option Bool):Option Bool :=
 ((sF a0 f1).bind λr1=>some (decide (r1≥0)))
def wF (d:List ku):List ku→Bool→ku→Option (Bool×ku)
 | [],j,n=>some (j,n)
 | i::p,j,n=>((vX i).bind λu=>((if u then ((if ((d.length:Int)==0) then some true else ((lD d (wi0 .i64 ((d.length:Int)-1))).bind λG=>((yy G i).bind λw=>some w))).bind λE=>some E) else some false).bind λx=>((if x then ((if (!j) then some true else ((yy i n).bind λv=>some v)).bind λA=>some A) else some false).bind λz=>(if z then (wF d p true i) else (wF d p j n)))))
def A0 (a0:List ku):Nat→(List ku)→Option (List ku)
 | 0,_=>none
 | j+1,d=>((wF d a0 false (⟨zS,zS⟩:ku)).bind λ(n,p)=>(if (!n) then some d else ((nm 32 d ([p])).bind λi=>(A0 a0 j i))))
def J9 (a0:List ku):Option (List ku) :=
 A0 a0 kY ([])
structure mK where
 pJ:ByteArray
 pw:ByteArray
def ou (x:mK):List Value:=[.string x.pJ,.string x.pw]
def zc (x y:mK):Bool:=(lz x.pJ y.pJ)&&((lz x.pw y.pw)&&true)
theorem FF (x:mK):(ou x).length=2:=rfl
theorem Ku (x:mK):∀u∈ou x,u.oneCell'=true:=by
 intro u hu
 simp only [ou,aP,dv,fl] at hu
 rcases hu with rfl | rfl <;> rfl
structure kq where
 key:kv
 text:ByteArray
 sign:ByteArray
def kH (x:kq):List Value:=[.int .i64 x.key.Kind,.string x.key.Head.kw,.string x.key.Head.Word,.string x.key.lO,.string x.key.B.kw,.string x.key.B.Word,.string x.key.C.kw,.string x.key.C.Word,.string x.key.mg,.string x.text,.string x.sign]
theorem lW (x:kq):(kH x).length=11:=rfl
theorem oQ (x:kq):∀u∈kH x,u.oneCell'=true:=by
 intro u hu
 simp only [kH,aP,dv,fl] at hu
 rcases hu with rfl | rfl | rfl | rfl | rfl | rfl | rfl | rfl | rfl | rfl | rfl <;> rfl
structure kx where
 key:ku
 text:ByteArray
 sign:ByteArray
def kG (x:kx):List Value:=[.string x.key.kw,.string x.key.Word,.string x.text,.string x.sign]
theorem lV (x:kx):(kG x).length=4:=rfl
theorem oR (x:kx):∀u∈kG x,u.oneCell'=true:=by
 intro u hu
 simp only [kG,aP,dv,fl] at hu
 rcases hu with rfl | rfl | rfl | rfl <;> rfl
def sU (a0:kU) (d:kU→Option kv) (c1:kv):Option Bool :=
 ((d a0).bind λi=>some (ll i c1))
def se (a0:List kU) (i:kv) (d:kU→Option kv):Option Int :=
 ((py a0 (λ(x:kU)=>sU x d i)).bind λj=>some j)
def pT (f2:kU→Option kv) (a0:List kU) (f4:kU→Option ByteArray):List kU→(List kq)→Option (List kq)
 | [],d=>some d
 | i::j,d=>((f2 i).bind λp=>((se a0 p f2).bind λu=>(if (decide (u < 0)) then ((f2 i).bind λv=>((f4 i).bind λw=>((nm 168 d ([(⟨v,w,(⟨#[43]⟩:ByteArray)⟩:kq)])).bind λn=>(pT f2 a0 f4 j n)))) else (pT f2 a0 f4 j d))))
def oJ (f2:kU→Option kv) (u:List kU) (f4:kU→Option ByteArray) (f3:(kU×kU)→Option Bool) (a0:List kU):List kU→(List kq)→Option (List kq)
 | [],i=>((pT f2 a0 f4 u i).bind λp=>some p)
 | d::j,i=>((f2 d).bind λx=>((se u x f2).bind λn=>(if (decide (n < 0)) then ((f2 d).bind λz=>((f4 d).bind λA=>((nm 168 i ([(⟨z,A,(⟨#[45]⟩:ByteArray)⟩:kq)])).bind λv=>(oJ f2 u f4 f3 a0 j v)))) else ((lD u n).bind λJ=>((f3 (d,J)).bind λE=>(if (!E) then ((f2 d).bind λG=>((f4 d).bind λI=>((nm 168 i ([(⟨G,I,(⟨#[42]⟩:ByteArray)⟩:kq)])).bind λw=>(oJ f2 u f4 f3 a0 j w)))) else (oJ f2 u f4 f3 a0 j i)))))))
def tP (a0 d:List kU) (f2:kU→Option kv) (f3:(kU×kU)→Option Bool) (f4:kU→Option ByteArray):Option (List kq) :=
 oJ f2 d f4 f3 a0 a0 ([])
def pe (a0:kU):Option kv :=
 some a0.Signed.kv
def qC (a0 n:kU):Option Bool :=
 ((zn a0.Signed.Tag n.Signed.Tag).bind λd=>((if d then ((pu kY a0.ky n.ky).bind λi=>some i) else some false).bind λj=>some j))
def sZ (a0:ku):Option ByteArray :=
 ((mf a0.kw (⟨#[46]⟩:ByteArray)).bind λd=>((mf d a0.Word).bind λi=>some i))
def GS (a0:kv):Option ByteArray :=
 (if (a0.Kind==1) then some a0.lO else (if (a0.Kind==2) then ((sZ a0.B).bind λw=>some w) else (if (a0.Kind==3) then ((sZ a0.B).bind λd=>((mf d (⟨#[46]⟩:ByteArray)).bind λn=>((mf n a0.mg).bind λp=>some p))) else ((sZ a0.B).bind λi=>((mf i (⟨#[32,38,32]⟩:ByteArray)).bind λu=>((sZ a0.C).bind λj=>((mf u j).bind λv=>some v)))))))
def DY (a0:kv):Option ByteArray :=
 ((vE a0).bind λp=>(if (!p) then some zS else ((sZ a0.Head).bind λd=>((mf d (⟨#[32,60,45,32]⟩:ByteArray)).bind λj=>((GS a0).bind λi=>((mf j i).bind λn=>some n))))))
def pY (a0:kU):Option ByteArray :=
 ((DY a0.Signed.kv).bind λd=>some d)
def sR (a0:mr) (d:mr→Option ku) (c1:ku):Option Bool :=
 ((d a0).bind λi=>some (kR i c1))
def sh (a0:List mr) (i:ku) (d:mr→Option ku):Option Int :=
 ((qn a0 (λ(x:mr)=>sR x d i)).bind λj=>some j)
def pU (f2:mr→Option ku) (a0:List mr) (f4:mr→Option ByteArray):List mr→(List kx)→Option (List kx)
 | [],d=>some d
 | i::j,d=>((f2 i).bind λp=>((sh a0 p f2).bind λu=>(if (decide (u < 0)) then ((f2 i).bind λv=>((f4 i).bind λw=>((nm 64 d ([(⟨v,w,(⟨#[43]⟩:ByteArray)⟩:kx)])).bind λn=>(pU f2 a0 f4 j n)))) else (pU f2 a0 f4 j d))))
def oK (f2:mr→Option ku) (u:List mr) (f4:mr→Option ByteArray) (f3:(mr×mr)→Option Bool) (a0:List mr):List mr→(List kx)→Option (List kx)
 | [],i=>((pU f2 a0 f4 u i).bind λp=>some p)
 | d::j,i=>((f2 d).bind λx=>((sh u x f2).bind λn=>(if (decide (n < 0)) then ((f2 d).bind λz=>((f4 d).bind λA=>((nm 64 i ([(⟨z,A,(⟨#[45]⟩:ByteArray)⟩:kx)])).bind λv=>(oK f2 u f4 f3 a0 j v)))) else ((lD u n).bind λJ=>((f3 (d,J)).bind λE=>(if (!E) then ((f2 d).bind λG=>((f4 d).bind λI=>((nm 64 i ([(⟨G,I,(⟨#[42]⟩:ByteArray)⟩:kx)])).bind λw=>(oK f2 u f4 f3 a0 j w)))) else (oK f2 u f4 f3 a0 j i)))))))
def tO (a0 d:List mr) (f2:mr→Option ku) (f3:(mr×mr)→Option Bool) (f4:mr→Option ByteArray):Option (List kx) :=
 oK f2 d f4 f3 a0 a0 ([])
def pd (a0:mr):Option ku :=
 some a0.ku
def qy (a0 n:mr):Option Bool :=
 ((pu kY a0.ky n.ky).bind λd=>((if d then ((qw a0.lT n.lT).bind λi=>some i) else some false).bind λj=>some j))
def pZ (a0:mr):Option ByteArray :=
 ((sZ a0.ku).bind λi=>((mf (⟨#[97,99,107,32]⟩:ByteArray) i).bind λd=>some d))
def nH (E:Int) (f3:(kq×kq)→Option Int):Nat→(List kq)→Int→Option (List kq)
 | 0,_,_=>none
 | n+1,i,d=>((if (decide (d > E)) then ((lD i d).bind λw=>((lD i (wi0 .i64 (d-1))).bind λx=>((f3 (w,x)).bind λp=>some (decide (p < 0))))) else some false).bind λu=>(if u then ((lD i (wi0 .i64 (d-1))).bind λj=>((lD i d).bind λv=>((lD i d).bind λz=>((lD (i.set (Int.toNat d) j) (wi0 .i64 (d-1))).bind λA=>(nH E f3 n ((i.set (Int.toNat d) j).set (Int.toNat (wi0 .i64 (d-1))) v) (wi0 .i64 (d-1))))))) else some i))
def ni (a2 p:Int) (f3:(kq×kq)→Option Int):Nat→(List kq)→Int→Option (List kq)
 | 0,_,_=>none
 | n+1,i,d=>(if (decide (d < a2)) then ((nH p f3 kY i d).bind λj=>(ni a2 p f3 n j (wi0 .i64 (d+1)))) else some i)
def pv (a0:List kq) (d a2:Int) (f3:(kq×kq)→Option Int):Option (List kq) :=
 ni a2 d f3 kY a0 (wi0 .i64 (d+1))
def nX (a3 a2 n:Int):Nat→(List kq)→Int→Option (List kq)
 | 0,_,_=>none
 | p+1,i,d=>(if (decide (d < a3)) then ((lD i (wi0 .i64 (a2+d))).bind λj=>((lD i (wi0 .i64 (n+d))).bind λu=>((lD i (wi0 .i64 (n+d))).bind λv=>((lD (i.set (Int.toNat (wi0 .i64 (n+d))) j) (wi0 .i64 (a2+d))).bind λw=>(nX a3 a2 n p ((i.set (Int.toNat (wi0 .i64 (n+d))) j).set (Int.toNat (wi0 .i64 (a2+d))) u) (wi0 .i64 (d+1))))))) else some i)
def pg (a0:List kq) (d a2 a3:Int) (f4:(kq×kq)→Option Int):Option (List kq) :=
 nX a3 a2 d kY a0 0
def oC (a2:Int) (f4:(kq×kq)→Option Int):Nat→(List kq)→Int→Int→Option (List kq)
 | 0,_,_,_=>none
 | n182+1,j,d,i=>(if (d != i) then (if (decide (d > i)) then ((pg j (wi0 .i64 (a2-d)) a2 i f4).bind λn=>(oC a2 f4 n182 n (wi0 .i64 (d-i)) i)) else ((pg j (wi0 .i64 (a2-d)) (wi0 .i64 ((wi0 .i64 (a2+i))-d)) d f4).bind λp=>(oC a2 f4 n182 p d (wi0 .i64 (i-d))))) else ((pg j (wi0 .i64 (a2-d)) a2 d f4).bind λu=>some u))
def oZ (a0:List kq) (d a2 a3:Int) (f4:(kq×kq)→Option Int):Option (List kq) :=
 oC a2 f4 kY a0 (wi0 .i64 (a2-d)) (wi0 .i64 (a3-a2))
def oa (j:Int):Nat→(List kq)→Int→Option (List kq)
 | 0,_,_=>none
 | p+1,i,d=>(if (decide (d < (wi0 .i64 (j-1)))) then ((lD i (wi0 .i64 (d+1))).bind λn=>((lD i d).bind λu=>((lD i d).bind λv=>((lD (i.set (Int.toNat d) n) (wi0 .i64 (d+1))).bind λw=>(oa j p ((i.set (Int.toNat d) n).set (Int.toNat (wi0 .i64 (d+1))) u) (wi0 .i64 (d+1))))))) else some i)
def mS (a0:List kq) (v:Int) (f4:(kq×kq)→Option Int):Nat→Int→Int→Option (List kq)
 | 0,_,_=>none
 | n235+1,d,i=>(if (decide (d < i)) then ((lD a0 (wi0 .i64 (Int.fdiv (IntKind.u64.wrap (wi0 .i64 (d+i))) (2 ^ min (Int.toNat 1) (IntKind.bits .u64))))).bind λp=>((lD a0 v).bind λu=>((f4 (p,u)).bind λn=>(if (decide (n < 0)) then (mS a0 v f4 n235 (wi0 .i64 ((wi0 .i64 (Int.fdiv (IntKind.u64.wrap (wi0 .i64 (d+i))) (2 ^ min (Int.toNat 1) (IntKind.bits .u64))))+1)) i) else (mS a0 v f4 n235 d (wi0 .i64 (Int.fdiv (IntKind.u64.wrap (wi0 .i64 (d+i))) (2 ^ min (Int.toNat 1) (IntKind.bits .u64))))))))) else ((oa d kY a0 v).bind λj=>some j))
def oq (n:Int):Nat→(List kq)→Int→Option (List kq)
 | 0,_,_=>none
 | p+1,i,d=>(if (decide (d > n)) then ((lD i (wi0 .i64 (d-1))).bind λj=>((lD i d).bind λu=>((lD i d).bind λv=>((lD (i.set (Int.toNat d) j) (wi0 .i64 (d-1))).bind λw=>(oq n p ((i.set (Int.toNat d) j).set (Int.toNat (wi0 .i64 (d-1))) u) (wi0 .i64 (d-1))))))) else some i)
def mT (a0:List kq) (a2:Int) (f4:(kq×kq)→Option Int):Nat→Int→Int→Option (List kq)
 | 0,_,_=>none
 | j+1,d,i=>(if (decide (d < i)) then ((lD a0 a2).bind λu=>((lD a0 (wi0 .i64 (Int.fdiv (IntKind.u64.wrap (wi0 .i64 (d+i))) (2 ^ min (Int.toNat 1) (IntKind.bits .u64))))).bind λv=>((f4 (u,v)).bind λp=>(if (!(decide (p < 0))) then (mT a0 a2 f4 j (wi0 .i64 ((wi0 .i64 (Int.fdiv (IntKind.u64.wrap (wi0 .i64 (d+i))) (2 ^ min (Int.toNat 1) (IntKind.bits .u64))))+1)) i) else (mT a0 a2 f4 j d (wi0 .i64 (Int.fdiv (IntKind.u64.wrap (wi0 .i64 (d+i))) (2 ^ min (Int.toNat 1) (IntKind.bits .u64))))))))) else ((oq d kY a0 a2).bind λn=>some n))
def mx (a0:List kq) (j a3 a2:Int) (f4:(kq×kq)→Option Int) (rec:(List kq)→Int→Int→Int→((kq×kq)→Option Int)→Option (List kq)):Nat→Int→Int→Option (List kq)
 | 0,_,_=>none
 | u+1,d,i=>(if (decide (d < i)) then ((lD a0 (wi0 .i64 ((wi0 .i64 ((wi0 .i64 ((wi0 .i64 (Int.fdiv (IntKind.u64.wrap (wi0 .i64 (j+a3))) (2 ^ min (Int.toNat 1) (IntKind.bits .u64))))+a2))-1))-(wi0 .i64 (Int.fdiv (IntKind.u64.wrap (wi0 .i64 (d+i))) (2 ^ min (Int.toNat 1) (IntKind.bits .u64))))))).bind λA=>((lD a0 (wi0 .i64 (Int.fdiv (IntKind.u64.wrap (wi0 .i64 (d+i))) (2 ^ min (Int.toNat 1) (IntKind.bits .u64))))).bind λE=>((f4 (A,E)).bind λv=>(if (!(decide (v < 0))) then (mx a0 j a3 a2 f4 rec u (wi0 .i64 ((wi0 .i64 (Int.fdiv (IntKind.u64.wrap (wi0 .i64 (d+i))) (2 ^ min (Int.toNat 1) (IntKind.bits .u64))))+1)) i) else (mx a0 j a3 a2 f4 rec u d (wi0 .i64 (Int.fdiv (IntKind.u64.wrap (wi0 .i64 (d+i))) (2 ^ min (Int.toNat 1) (IntKind.bits .u64))))))))) else ((((if (decide (d < a2)) then some (decide (a2 < (wi0 .i64 ((wi0 .i64 ((wi0 .i64 (Int.fdiv (IntKind.u64.wrap (wi0 .i64 (j+a3))) (2 ^ min (Int.toNat 1) (IntKind.bits .u64))))+a2))-d)))) else some false).bind λJ=>(if J then ((oZ a0 d a2 (wi0 .i64 ((wi0 .i64 ((wi0 .i64 (Int.fdiv (IntKind.u64.wrap (wi0 .i64 (j+a3))) (2 ^ min (Int.toNat 1) (IntKind.bits .u64))))+a2))-d)) f4).bind λz=>some z) else some a0)):Option (List kq)).bind λn=>((((if (decide (j < d)) then some (decide (d < (wi0 .i64 (Int.fdiv (IntKind.u64.wrap (wi0 .i64 (j+a3))) (2 ^ min (Int.toNat 1) (IntKind.bits .u64)))))) else some false).bind λI=>(if I then ((rec n j d (wi0 .i64 (Int.fdiv (IntKind.u64.wrap (wi0 .i64 (j+a3))) (2 ^ min (Int.toNat 1) (IntKind.bits .u64)))) f4).bind λx=>some x) else some n)):Option (List kq)).bind λp=>((if (decide ((wi0 .i64 (Int.fdiv (IntKind.u64.wrap (wi0 .i64 (j+a3))) (2 ^ min (Int.toNat 1) (IntKind.bits .u64)))) < (wi0 .i64 ((wi0 .i64 ((wi0 .i64 (Int.fdiv (IntKind.u64.wrap (wi0 .i64 (j+a3))) (2 ^ min (Int.toNat 1) (IntKind.bits .u64))))+a2))-d)))) then some (decide ((wi0 .i64 ((wi0 .i64 ((wi0 .i64 (Int.fdiv (IntKind.u64.wrap (wi0 .i64 (j+a3))) (2 ^ min (Int.toNat 1) (IntKind.bits .u64))))+a2))-d)) < a3)) else some false).bind λG=>(if G then ((rec p (wi0 .i64 (Int.fdiv (IntKind.u64.wrap (wi0 .i64 (j+a3))) (2 ^ min (Int.toNat 1) (IntKind.bits .u64)))) (wi0 .i64 ((wi0 .i64 ((wi0 .i64 (Int.fdiv (IntKind.u64.wrap (wi0 .i64 (j+a3))) (2 ^ min (Int.toNat 1) (IntKind.bits .u64))))+a2))-d)) a3 f4).bind λw=>some w) else some p)))))
def sw (rec:(List kq)→Int→Int→Int→((kq×kq)→Option Int)→Option (List kq)) (a0:List kq) (d a2 a3:Int) (f4:(kq×kq)→Option Int):Option (List kq) :=
 (if ((wi0 .i64 (a2-d))==1) then mS a0 d f4 kY a2 a3 else (if ((wi0 .i64 (a3-a2))==1) then mT a0 a2 f4 kY d a2 else (((if (decide (a2 > (wi0 .i64 (Int.fdiv (IntKind.u64.wrap (wi0 .i64 (d+a3))) (2 ^ min (Int.toNat 1) (IntKind.bits .u64)))))) then some ((wi0 .i64 ((wi0 .i64 ((wi0 .i64 (Int.fdiv (IntKind.u64.wrap (wi0 .i64 (d+a3))) (2 ^ min (Int.toNat 1) (IntKind.bits .u64))))+a2))-a3)),(wi0 .i64 (Int.fdiv (IntKind.u64.wrap (wi0 .i64 (d+a3))) (2 ^ min (Int.toNat 1) (IntKind.bits .u64))))) else some (d,a2)):Option (Int×Int)).bind λ(i,j)=>mx a0 d a3 a2 f4 rec kY i j)))
def np:Nat→(List kq)→Int→Int→Int→((kq×kq)→Option Int)→Option (List kq)
 | 0=>λ_ _ _ _ _=>none
 | n+1=>sw (np n)
def oD (v n:Int) (f2:(kq×kq)→Option Int):Nat→(List kq)→Int→Int→Option ((List kq)×Int)
 | 0,_,_,_=>none
 | p+1,j,i,d=>(if (decide (d≤v)) then ((np kY j i (wi0 .i64 (i+n)) d f2).bind λu=>(oD v n f2 p u d (wi0 .i64 (d+(wi0 .i64 (2*n)))))) else some (j,i))
def nU (w:Int) (f2:(kq×kq)→Option Int):Nat→(List kq)→Int→Option (List kq)
 | 0,_,_=>none
 | u+1,n,d=>(if (decide (d < w)) then ((oD w d f2 kY n 0 (wi0 .i64 (2*d))).bind λ(j,i)=>(((if (decide ((wi0 .i64 (i+d)) < w)) then ((np kY j i (wi0 .i64 (i+d)) w f2).bind λv=>some v) else some j):Option (List kq)).bind λp=>(nU w f2 u p (wi0 .i64 (d*2))))) else some n)
def nW (v:Int) (f2:(kq×kq)→Option Int):Nat→(List kq)→Int→Int→Option (List kq)
 | 0,_,_,_=>none
 | n120+1,j,u,d=>(if (decide (d≤v)) then ((pv j u d f2).bind λn=>(nW v f2 n120 n d (wi0 .i64 (d+20)))) else ((pv j u v f2).bind λp=>((nU v f2 kY p 20).bind λi=>some i)))
def uO (a0:List kq) (d:Int) (f2:(kq×kq)→Option Int):Option (List kq) :=
 nW d f2 kY a0 0 20
def oN (a0:List kq) (f1:(kq×kq)→Option Int):Option (List kq) :=
 ((uO a0 (a0.length:Int) f1).bind λr1=>some r1)
def vq (a0 i:kq) (d:(kv×kv)→Option Int):Option Int :=
 ((d (a0.key,i.key)).bind λj=>some j)
def ru (x:List kq):List kq→ByteArray→Option (ByteArray×(List kq))
 | [],d=>((VL d).bind λp=>some (p,x))
 | i::j,d=>((mf i.sign (⟨#[32]⟩:ByteArray)).bind λu=>((mf u i.text).bind λv=>((mf v (⟨#[10]⟩:ByteArray)).bind λw=>((FX d w).bind λn=>(ru x j n)))))
def xf (a0:List kq) (f1:(kv×kv)→Option Int):Option (ByteArray×(List kq)) :=
 ((oN a0 (λ(x:(kq×kq))=>vq x.1 x.2 f1)).bind λd=>ru d d zS)
def nG (E:Int) (f3:(kx×kx)→Option Int):Nat→(List kx)→Int→Option (List kx)
 | 0,_,_=>none
 | n+1,i,d=>((if (decide (d > E)) then ((lD i d).bind λw=>((lD i (wi0 .i64 (d-1))).bind λx=>((f3 (w,x)).bind λp=>some (decide (p < 0))))) else some false).bind λu=>(if u then ((lD i (wi0 .i64 (d-1))).bind λj=>((lD i d).bind λv=>((lD i d).bind λz=>((lD (i.set (Int.toNat d) j) (wi0 .i64 (d-1))).bind λA=>(nG E f3 n ((i.set (Int.toNat d) j).set (Int.toNat (wi0 .i64 (d-1))) v) (wi0 .i64 (d-1))))))) else some i))
def nh (a2 p:Int) (f3:(kx×kx)→Option Int):Nat→(List kx)→Int→Option (List kx)
 | 0,_,_=>none
 | n+1,i,d=>(if (decide (d < a2)) then ((nG p f3 kY i d).bind λj=>(nh a2 p f3 n j (wi0 .i64 (d+1)))) else some i)
def pq (a0:List kx) (d a2:Int) (f3:(kx×kx)→Option Int):Option (List kx) :=
 nh a2 d f3 kY a0 (wi0 .i64 (d+1))
def qz (a3 a2 n:Int):Nat→(List kx)→Int→Option (List kx)
 | 0,_,_=>none
 | p+1,i,d=>(if (decide (d < a3)) then ((lD i (wi0 .i64 (a2+d))).bind λj=>((lD i (wi0 .i64 (n+d))).bind λu=>((lD i (wi0 .i64 (n+d))).bind λv=>((lD (i.set (Int.toNat (wi0 .i64 (n+d))) j) (wi0 .i64 (a2+d))).bind λw=>(qz a3 a2 n p ((i.set (Int.toNat (wi0 .i64 (n+d))) j).set (Int.toNat (wi0 .i64 (a2+d))) u) (wi0 .i64 (d+1))))))) else some i)
def rp (a0:List kx) (d a2 a3:Int) (f4:(kx×kx)→Option Int):Option (List kx) :=
 qz a3 a2 d kY a0 0
def qa (a2:Int) (f4:(kx×kx)→Option Int):Nat→(List kx)→Int→Int→Option (List kx)
 | 0,_,_,_=>none
 | n182+1,j,d,i=>(if (d != i) then (if (decide (d > i)) then ((rp j (wi0 .i64 (a2-d)) a2 i f4).bind λn=>(qa a2 f4 n182 n (wi0 .i64 (d-i)) i)) else ((rp j (wi0 .i64 (a2-d)) (wi0 .i64 ((wi0 .i64 (a2+i))-d)) d f4).bind λp=>(qa a2 f4 n182 p d (wi0 .i64 (i-d))))) else ((rp j (wi0 .i64 (a2-d)) a2 d f4).bind λu=>some u))
def yz (a0:List kx) (d a2 a3:Int) (f4:(kx×kx)→Option Int):Option (List kx) :=
 qa a2 f4 kY a0 (wi0 .i64 (a2-d)) (wi0 .i64 (a3-a2))
def qO (j:Int):Nat→(List kx)→Int→Option (List kx)
 | 0,_,_=>none
 | p+1,i,d=>(if (decide (d < (wi0 .i64 (j-1)))) then ((lD i (wi0 .i64 (d+1))).bind λn=>((lD i d).bind λu=>((lD i d).bind λv=>((lD (i.set (Int.toNat d) n) (wi0 .i64 (d+1))).bind λw=>(qO j p ((i.set (Int.toNat d) n).set (Int.toNat (wi0 .i64 (d+1))) u) (wi0 .i64 (d+1))))))) else some i)
def pN (a0:List kx) (v:Int) (f4:(kx×kx)→Option Int):Nat→Int→Int→Option (List kx)
 | 0,_,_=>none
 | n235+1,d,i=>(if (decide (d < i)) then ((lD a0 (wi0 .i64 (Int.fdiv (IntKind.u64.wrap (wi0 .i64 (d+i))) (2 ^ min (Int.toNat 1) (IntKind.bits .u64))))).bind λp=>((lD a0 v).bind λu=>((f4 (p,u)).bind λn=>(if (decide (n < 0)) then (pN a0 v f4 n235 (wi0 .i64 ((wi0 .i64 (Int.fdiv (IntKind.u64.wrap (wi0 .i64 (d+i))) (2 ^ min (Int.toNat 1) (IntKind.bits .u64))))+1)) i) else (pN a0 v f4 n235 d (wi0 .i64 (Int.fdiv (IntKind.u64.wrap (wi0 .i64 (d+i))) (2 ^ min (Int.toNat 1) (IntKind.bits .u64))))))))) else ((qO d kY a0 v).bind λj=>some j))
def qP (n:Int):Nat→(List kx)→Int→Option (List kx)
 | 0,_,_=>none
 | p+1,i,d=>(if (decide (d > n)) then ((lD i (wi0 .i64 (d-1))).bind λj=>((lD i d).bind λu=>((lD i d).bind λv=>((lD (i.set (Int.toNat d) j) (wi0 .i64 (d-1))).bind λw=>(qP n p ((i.set (Int.toNat d) j).set (Int.toNat (wi0 .i64 (d-1))) u) (wi0 .i64 (d-1))))))) else some i)
def pK (a0:List kx) (a2:Int) (f4:(kx×kx)→Option Int):Nat→Int→Int→Option (List kx)
 | 0,_,_=>none
 | j+1,d,i=>(if (decide (d < i)) then ((lD a0 a2).bind λu=>((lD a0 (wi0 .i64 (Int.fdiv (IntKind.u64.wrap (wi0 .i64 (d+i))) (2 ^ min (Int.toNat 1) (IntKind.bits .u64))))).bind λv=>((f4 (u,v)).bind λp=>(if (!(decide (p < 0))) then (pK a0 a2 f4 j (wi0 .i64 ((wi0 .i64 (Int.fdiv (IntKind.u64.wrap (wi0 .i64 (d+i))) (2 ^ min (Int.toNat 1) (IntKind.bits .u64))))+1)) i) else (pK a0 a2 f4 j d (wi0 .i64 (Int.fdiv (IntKind.u64.wrap (wi0 .i64 (d+i))) (2 ^ min (Int.toNat 1) (IntKind.bits .u64))))))))) else ((qP d kY a0 a2).bind λn=>some n))
def pM (a0:List kx) (j a3 a2:Int) (f4:(kx×kx)→Option Int) (rec:(List kx)→Int→Int→Int→((kx×kx)→Option Int)→Option (List kx)):Nat→Int→Int→Option (List kx)
 | 0,_,_=>none
 | u+1,d,i=>(if (decide (d < i)) then ((lD a0 (wi0 .i64 ((wi0 .i64 ((wi0 .i64 ((wi0 .i64 (Int.fdiv (IntKind.u64.wrap (wi0 .i64 (j+a3))) (2 ^ min (Int.toNat 1) (IntKind.bits .u64))))+a2))-1))-(wi0 .i64 (Int.fdiv (IntKind.u64.wrap (wi0 .i64 (d+i))) (2 ^ min (Int.toNat 1) (IntKind.bits .u64))))))).bind λA=>((lD a0 (wi0 .i64 (Int.fdiv (IntKind.u64.wrap (wi0 .i64 (d+i))) (2 ^ min (Int.toNat 1) (IntKind.bits .u64))))).bind λE=>((f4 (A,E)).bind λv=>(if (!(decide (v < 0))) then (pM a0 j a3 a2 f4 rec u (wi0 .i64 ((wi0 .i64 (Int.fdiv (IntKind.u64.wrap (wi0 .i64 (d+i))) (2 ^ min (Int.toNat 1) (IntKind.bits .u64))))+1)) i) else (pM a0 j a3 a2 f4 rec u d (wi0 .i64 (Int.fdiv (IntKind.u64.wrap (wi0 .i64 (d+i))) (2 ^ min (Int.toNat 1) (IntKind.bits .u64))))))))) else ((((if (decide (d < a2)) then some (decide (a2 < (wi0 .i64 ((wi0 .i64 ((wi0 .i64 (Int.fdiv (IntKind.u64.wrap (wi0 .i64 (j+a3))) (2 ^ min (Int.toNat 1) (IntKind.bits .u64))))+a2))-d)))) else some false).bind λJ=>(if J then ((yz a0 d a2 (wi0 .i64 ((wi0 .i64 ((wi0 .i64 (Int.fdiv (IntKind.u64.wrap (wi0 .i64 (j+a3))) (2 ^ min (Int.toNat 1) (IntKind.bits .u64))))+a2))-d)) f4).bind λz=>some z) else some a0)):Option (List kx)).bind λn=>((((if (decide (j < d)) then some (decide (d < (wi0 .i64 (Int.fdiv (IntKind.u64.wrap (wi0 .i64 (j+a3))) (2 ^ min (Int.toNat 1) (IntKind.bits .u64)))))) else some false).bind λI=>(if I then ((rec n j d (wi0 .i64 (Int.fdiv (IntKind.u64.wrap (wi0 .i64 (j+a3))) (2 ^ min (Int.toNat 1) (IntKind.bits .u64)))) f4).bind λx=>some x) else some n)):Option (List kx)).bind λp=>((if (decide ((wi0 .i64 (Int.fdiv (IntKind.u64.wrap (wi0 .i64 (j+a3))) (2 ^ min (Int.toNat 1) (IntKind.bits .u64)))) < (wi0 .i64 ((wi0 .i64 ((wi0 .i64 (Int.fdiv (IntKind.u64.wrap (wi0 .i64 (j+a3))) (2 ^ min (Int.toNat 1) (IntKind.bits .u64))))+a2))-d)))) then some (decide ((wi0 .i64 ((wi0 .i64 ((wi0 .i64 (Int.fdiv (IntKind.u64.wrap (wi0 .i64 (j+a3))) (2 ^ min (Int.toNat 1) (IntKind.bits .u64))))+a2))-d)) < a3)) else some false).bind λG=>(if G then ((rec p (wi0 .i64 (Int.fdiv (IntKind.u64.wrap (wi0 .i64 (j+a3))) (2 ^ min (Int.toNat 1) (IntKind.bits .u64)))) (wi0 .i64 ((wi0 .i64 ((wi0 .i64 (Int.fdiv (IntKind.u64.wrap (wi0 .i64 (j+a3))) (2 ^ min (Int.toNat 1) (IntKind.bits .u64))))+a2))-d)) a3 f4).bind λw=>some w) else some p)))))
def vJ (rec:(List kx)→Int→Int→Int→((kx×kx)→Option Int)→Option (List kx)) (a0:List kx) (d a2 a3:Int) (f4:(kx×kx)→Option Int):Option (List kx) :=
 (if ((wi0 .i64 (a2-d))==1) then pN a0 d f4 kY a2 a3 else (if ((wi0 .i64 (a3-a2))==1) then pK a0 a2 f4 kY d a2 else (((if (decide (a2 > (wi0 .i64 (Int.fdiv (IntKind.u64.wrap (wi0 .i64 (d+a3))) (2 ^ min (Int.toNat 1) (IntKind.bits .u64)))))) then some ((wi0 .i64 ((wi0 .i64 ((wi0 .i64 (Int.fdiv (IntKind.u64.wrap (wi0 .i64 (d+a3))) (2 ^ min (Int.toNat 1) (IntKind.bits .u64))))+a2))-a3)),(wi0 .i64 (Int.fdiv (IntKind.u64.wrap (wi0 .i64 (d+a3))) (2 ^ min (Int.toNat 1) (IntKind.bits .u64))))) else some (d,a2)):Option (Int×Int)).bind λ(i,j)=>pM a0 d a3 a2 f4 rec kY i j)))
def pp:Nat→(List kx)→Int→Int→Int→((kx×kx)→Option Int)→Option (List kx)
 | 0=>λ_ _ _ _ _=>none
 | n+1=>vJ (pp n)
def rr (v n:Int) (f2:(kx×kx)→Option Int):Nat→(List kx)→Int→Int→Option ((List kx)×Int)
 | 0,_,_,_=>none
 | p+1,j,i,d=>(if (decide (d≤v)) then ((pp kY j i (wi0 .i64 (i+n)) d f2).bind λu=>(rr v n f2 p u d (wi0 .i64 (d+(wi0 .i64 (2*n)))))) else some (j,i))
def ph (w:Int) (f2:(kx×kx)→Option Int):Nat→(List kx)→Int→Option (List kx)
 | 0,_,_=>none
 | u+1,n,d=>(if (decide (d < w)) then ((rr w d f2 kY n 0 (wi0 .i64 (2*d))).bind λ(j,i)=>(((if (decide ((wi0 .i64 (i+d)) < w)) then ((pp kY j i (wi0 .i64 (i+d)) w f2).bind λv=>some v) else some j):Option (List kx)).bind λp=>(ph w f2 u p (wi0 .i64 (d*2))))) else some n)
def qc (v:Int) (f2:(kx×kx)→Option Int):Nat→(List kx)→Int→Int→Option (List kx)
 | 0,_,_,_=>none
 | n120+1,j,u,d=>(if (decide (d≤v)) then ((pq j u d f2).bind λn=>(qc v f2 n120 n d (wi0 .i64 (d+20)))) else ((pq j u v f2).bind λp=>((ph v f2 kY p 20).bind λi=>some i)))
def uV (a0:List kx) (d:Int) (f2:(kx×kx)→Option Int):Option (List kx) :=
 qc d f2 kY a0 0 20
def oO (a0:List kx) (f1:(kx×kx)→Option Int):Option (List kx) :=
 ((uV a0 (a0.length:Int) f1).bind λr1=>some r1)
def vn (a0 i:kx) (d:(ku×ku)→Option Int):Option Int :=
 ((d (a0.key,i.key)).bind λj=>some j)
def pL (x:List kx):List kx→ByteArray→Option (ByteArray×(List kx))
 | [],d=>((VL d).bind λp=>some (p,x))
 | i::j,d=>((mf i.sign (⟨#[32]⟩:ByteArray)).bind λu=>((mf u i.text).bind λv=>((mf v (⟨#[10]⟩:ByteArray)).bind λw=>((FX d w).bind λn=>(pL x j n)))))
def xk (a0:List kx) (f1:(ku×ku)→Option Int):Option (ByteArray×(List kx)) :=
 ((oO a0 (λ(x:(kx×kx))=>vn x.1 x.2 f1)).bind λd=>pL d d zS)
def qe (a0 u:lB):Option ByteArray :=
 ((tP a0.kE u.kE (λ(x:kU)=>pe x) (λ(x:(kU×kU))=>qC x.1 x.2) (λ(x:kU)=>pY x)).bind λd=>((tO a0.kQ u.kQ (λ(x:mr)=>pd x) (λ(x:(mr×mr))=>qy x.1 x.2) (λ(x:mr)=>pZ x)).bind λi=>((xf d (λ(x:(kv×kv))=>px x.1 x.2)).bind λj=>((xk i (λ(x:(ku×ku))=>ov x.1 x.2)).bind λn=>((mf j.1 n.1).bind λp=>some p)))))
def ze (a0:ByteArray) (v a2:lB):Option ByteArray :=
 ((qe v a2).bind λd=>((if (lz d zS) then some (lz v.Name a2.Name) else some false).bind λu=>(if u then some zS else ((mf a0 (⟨#[32]⟩:ByteArray)).bind λi=>((mf i a2.Name).bind λj=>((mf j (⟨#[10]⟩:ByteArray)).bind λn=>((mf n d).bind λp=>some p)))))))
def uy (rec:Formula→Option ByteArray) (z:ByteArray):List Formula→(List ByteArray)→Option ByteArray
 | [],d=>((mf z (⟨#[40]⟩:ByteArray)).bind λu=>((Jo d (⟨#[44,32]⟩:ByteArray)).bind λp=>((mf u p).bind λv=>((mf v (⟨#[41]⟩:ByteArray)).bind λw=>some w))))
 | x::i,d=>((rec x).bind λn=>((nm 16 d ([n])).bind λj=>(uy rec z i j)))
def Bg (rec:Formula→Option ByteArray) (a0:Formula):Option ByteArray :=
 (((if (a0.Op==1) then ((sZ a0.ku).bind λi=>some (Sum.inl i)) else (if (a0.Op==2) then some (Sum.inr (⟨#[97,108,108]⟩:ByteArray)) else (if (a0.Op==3) then some (Sum.inr (⟨#[115,111,109,101]⟩:ByteArray)) else ((ur a0.K).bind λj=>((mf (⟨#[97,116,32]⟩:ByteArray) j).bind λn=>some (Sum.inr n)))))):Option (ByteArray ⊕ ByteArray)).bind λs=>match s with | .inl d=>some d | .inr p=>uy rec p a0.Kids ([]))
def qG:Nat→Formula→Option ByteArray
 | 0=>λ_=>none
 | n+1=>Bg (qG n)
def CB (a0:Formula):Option ByteArray :=
 ((qS a0).bind λd=>(if (!d) then some zS else ((qG kY a0).bind λi=>some i)))
def wN (a0:mY):Option (List mK) :=
 ((ur a0.pj).bind λd=>((ur a0.lP.pJ).bind λi=>((mf i (⟨#[32]⟩:ByteArray)).bind λv=>((ur a0.lP.pw).bind λj=>((mf v j).bind λw=>((ur a0.mO).bind λn=>((ur a0.nZ).bind λp=>((ur a0.ny).bind λu=>some [(⟨(⟨#[112,108,97,110]⟩:ByteArray),d⟩:mK),(⟨(⟨#[114,111,111,109,115]⟩:ByteArray),w⟩:mK),(⟨(⟨#[116,105,109,101,111,117,116]⟩:ByteArray),n⟩:mK),(⟨(⟨#[116,114,105,101,115]⟩:ByteArray),p⟩:mK),(⟨(⟨#[98,117,100,103,101,116]⟩:ByteArray),u⟩:mK)]))))))))
def ng (p:List Key) (f2:(Key×Key)→Option Bool):List Key→Nat→Option Bool
 | [],_=>some true
 | n::j,i95=>((lD p (i95:Int)).bind λi=>((f2 (n,i)).bind λd=>(if (!d) then some false else (ng p f2 j (i95+1)))))
def oW (a0 d:List Key) (f2:(Key×Key)→Option Bool):Option Bool :=
 (if ((a0.length:Int) != (d.length:Int)) then some false else ng d f2 a0 0)
def tL (a0 j:Key):Option Bool :=
 ((if (lz a0.lO j.lO) then ((zn a0.Key j.Key).bind λd=>some d) else some false).bind λi=>some i)
def qZ (n:List mK) (a0 M:mY):List mK→Nat→ByteArray→Option ByteArray
 | [],_,d=>((((oW a0.Keys M.Keys (λ(x:(Key×Key))=>tL x.1 x.2)).bind λp=>(if (!p) then ((ur (M.Keys.length:Int)).bind λu=>((mf (⟨#[107,101,121,115,32]⟩:ByteArray) u).bind λE=>((mf E (⟨#[10]⟩:ByteArray)).bind λG=>((mf d G).bind λI=>some I)))) else some d)):Option ByteArray).bind λL=>some L)
 | i::j,i201,d=>((lD n (i201:Int)).bind λJ=>(if (!(zc i J)) then ((mf i.pJ (⟨#[32]⟩:ByteArray)).bind λv=>((mf v i.pw).bind λw=>((mf w (⟨#[10]⟩:ByteArray)).bind λz=>((mf d z).bind λA=>(qZ n a0 M j (i201+1) A))))) else (qZ n a0 M j (i201+1) d)))
def xA (a0 d:mY):Option ByteArray :=
 ((ze (⟨#[111,119,110,101,114]⟩:ByteArray) a0.kw d.kw).bind λw=>((ze (⟨#[99,108,105,101,110,116]⟩:ByteArray) a0.Client d.Client).bind λx=>((mf w x).bind λv=>((((pu kY a0.Formula d.Formula).bind λi=>(if (!i) then ((CB d.Formula).bind λj=>((mf (⟨#[103,114,97,110,116,115,32]⟩:ByteArray) j).bind λn=>((mf n (⟨#[10]⟩:ByteArray)).bind λp=>((mf v p).bind λu=>some u)))) else some v)):Option ByteArray).bind λE=>((wN a0).bind λz=>((wN d).bind λA=>qZ z a0 d A 0 E))))))
def uE (a0:mY):Option ((List kv)×(List kv)×Bool) :=
 ((zt a0.kw a0.Client).bind λd=>((xU a0.kw a0.Client a0.Formula).bind λi=>some (d.1,d.2.1,i)))
def wH (a0 v:mY):Option Bool :=
 ((uE a0).bind λd=>((uE v).bind λi=>((if (d.2.2 != i.2.2) then some true else ((qw d.1 i.1).bind λn=>some (!n))).bind λp=>((if p then some true else ((qw d.2.1 i.2.1).bind λj=>some (!j))).bind λu=>some u))))
def xJ (a0:kv) (d:List kv):Option Bool :=
 ((wA d a0).bind λi=>some (!i))
def xG (a0 d:List kv):Option Bool :=
 ((tC a0 (λ(x:kv)=>xJ x d)).bind λi=>some (!i))
def qU (a0 w:mY):Option Bool :=
 ((uE a0).bind λd=>((uE w).bind λi=>((xG i.1 d.1).bind λn=>((if n then ((xG i.2.1 d.2.1).bind λj=>some j) else some false).bind λp=>((if p then ((if d.2.2 then some true else some (!i.2.2)).bind λv=>some v) else some false).bind λu=>some u)))))
def BH :Option Bool :=
 ((Ql 1 0 8).bind λd=>((xA (⟨(⟨(⟨#[115,104,111,112]⟩:ByteArray),[],[]⟩:lB),(⟨(⟨#[97,110,110]⟩:ByteArray),[],[]⟩:lB),(⟨1,0,(⟨(⟨#[103,111,118]⟩:ByteArray),(⟨#[105,100]⟩:ByteArray)⟩:ku),[]⟩:Formula),0,(⟨0,0⟩:uP),0,0,0,[]⟩:mY) (⟨(⟨(⟨#[115,104,111,112]⟩:ByteArray),[],[]⟩:lB),(⟨(⟨#[97,110,110]⟩:ByteArray),[(⟨(⟨(⟨1,(⟨(⟨#[103,111,118]⟩:ByteArray),(⟨#[105,100]⟩:ByteArray)⟩:ku),(⟨#[97,110,110]⟩:ByteArray),(⟨zS,zS⟩:ku),(⟨zS,zS⟩:ku),zS⟩:kv),d⟩:Signed),(⟨2,0,(⟨zS,zS⟩:ku),[]⟩:Formula)⟩:kU)],[]⟩:lB),(⟨1,0,(⟨(⟨#[103,111,118]⟩:ByteArray),(⟨#[105,100]⟩:ByteArray)⟩:ku),[]⟩:Formula),0,(⟨0,0⟩:uP),0,0,0,[]⟩:mY)).bind λw=>((if (lz w (⟨#[99,108,105,101,110,116,32,97,110,110,10,43,32,103,111,118,46,105,100,32,60,45,32,97,110,110,10]⟩:ByteArray)) then ((qe (⟨(⟨#[97,110,110]⟩:ByteArray),[],[]⟩:lB) (⟨(⟨#[97,110,110]⟩:ByteArray),[],[]⟩:lB)).bind λu=>some (lz u zS)) else some false).bind λx=>((if x then ((wH (⟨(⟨(⟨#[115,104,111,112]⟩:ByteArray),[],[]⟩:lB),(⟨(⟨#[97,110,110]⟩:ByteArray),[],[]⟩:lB),(⟨1,0,(⟨(⟨#[103,111,118]⟩:ByteArray),(⟨#[105,100]⟩:ByteArray)⟩:ku),[]⟩:Formula),0,(⟨0,0⟩:uP),0,0,0,[]⟩:mY) (⟨(⟨(⟨#[115,104,111,112]⟩:ByteArray),[],[]⟩:lB),(⟨(⟨#[97,110,110]⟩:ByteArray),[(⟨(⟨(⟨1,(⟨(⟨#[103,111,118]⟩:ByteArray),(⟨#[105,100]⟩:ByteArray)⟩:ku),(⟨#[97,110,110]⟩:ByteArray),(⟨zS,zS⟩:ku),(⟨zS,zS⟩:ku),zS⟩:kv),d⟩:Signed),(⟨2,0,(⟨zS,zS⟩:ku),[]⟩:Formula)⟩:kU)],[]⟩:lB),(⟨1,0,(⟨(⟨#[103,111,118]⟩:ByteArray),(⟨#[105,100]⟩:ByteArray)⟩:ku),[]⟩:Formula),0,(⟨0,0⟩:uP),0,0,0,[]⟩:mY)).bind λp=>some p) else some false).bind λz=>((if z then ((wH (⟨(⟨(⟨#[115,104,111,112]⟩:ByteArray),[],[]⟩:lB),(⟨(⟨#[97,110,110]⟩:ByteArray),[],[]⟩:lB),(⟨1,0,(⟨(⟨#[103,111,118]⟩:ByteArray),(⟨#[105,100]⟩:ByteArray)⟩:ku),[]⟩:Formula),0,(⟨0,0⟩:uP),0,0,0,[]⟩:mY) (⟨(⟨(⟨#[115,104,111,112]⟩:ByteArray),[],[]⟩:lB),(⟨(⟨#[97,110,110]⟩:ByteArray),[],[]⟩:lB),(⟨1,0,(⟨(⟨#[103,111,118]⟩:ByteArray),(⟨#[105,100]⟩:ByteArray)⟩:ku),[]⟩:Formula),0,(⟨0,0⟩:uP),0,0,0,[]⟩:mY)).bind λn=>some (!n)) else some false).bind λA=>((if A then ((qU (⟨(⟨(⟨#[115,104,111,112]⟩:ByteArray),[],[]⟩:lB),(⟨(⟨#[97,110,110]⟩:ByteArray),[(⟨(⟨(⟨1,(⟨(⟨#[103,111,118]⟩:ByteArray),(⟨#[105,100]⟩:ByteArray)⟩:ku),(⟨#[97,110,110]⟩:ByteArray),(⟨zS,zS⟩:ku),(⟨zS,zS⟩:ku),zS⟩:kv),d⟩:Signed),(⟨2,0,(⟨zS,zS⟩:ku),[]⟩:Formula)⟩:kU)],[]⟩:lB),(⟨1,0,(⟨(⟨#[103,111,118]⟩:ByteArray),(⟨#[105,100]⟩:ByteArray)⟩:ku),[]⟩:Formula),0,(⟨0,0⟩:uP),0,0,0,[]⟩:mY) (⟨(⟨(⟨#[115,104,111,112]⟩:ByteArray),[],[]⟩:lB),(⟨(⟨#[97,110,110]⟩:ByteArray),[],[]⟩:lB),(⟨1,0,(⟨(⟨#[103,111,118]⟩:ByteArray),(⟨#[105,100]⟩:ByteArray)⟩:ku),[]⟩:Formula),0,(⟨0,0⟩:uP),0,0,0,[]⟩:mY)).bind λj=>some j) else some false).bind λE=>((if E then ((qU (⟨(⟨(⟨#[115,104,111,112]⟩:ByteArray),[],[]⟩:lB),(⟨(⟨#[97,110,110]⟩:ByteArray),[],[]⟩:lB),(⟨1,0,(⟨(⟨#[103,111,118]⟩:ByteArray),(⟨#[105,100]⟩:ByteArray)⟩:ku),[]⟩:Formula),0,(⟨0,0⟩:uP),0,0,0,[]⟩:mY) (⟨(⟨(⟨#[115,104,111,112]⟩:ByteArray),[],[]⟩:lB),(⟨(⟨#[97,110,110]⟩:ByteArray),[(⟨(⟨(⟨1,(⟨(⟨#[103,111,118]⟩:ByteArray),(⟨#[105,100]⟩:ByteArray)⟩:ku),(⟨#[97,110,110]⟩:ByteArray),(⟨zS,zS⟩:ku),(⟨zS,zS⟩:ku),zS⟩:kv),d⟩:Signed),(⟨2,0,(⟨zS,zS⟩:ku),[]⟩:Formula)⟩:kU)],[]⟩:lB),(⟨1,0,(⟨(⟨#[103,111,118]⟩:ByteArray),(⟨#[105,100]⟩:ByteArray)⟩:ku),[]⟩:Formula),0,(⟨0,0⟩:uP),0,0,0,[]⟩:mY)).bind λi=>some (!i)) else some false).bind λv=>some v)))))))
def yl (n:List kv):List kv→Option Bool
 | []=>some true
 | j::d=>((DX n j).bind λi=>(if (!i) then some false else (yl n d)))
def AT (a0 d:List kv):Option Bool :=
 yl d a0
def EE (a0 d:mY):Option Bool :=
 ((Cw a0.kw a0.Client).bind λn=>((Cw d.kw d.Client).bind λp=>((yw d.kw d.Client d.Formula).bind λu=>((if u then ((yw a0.kw a0.Client a0.Formula).bind λj=>some (!j)) else some false).bind λw=>((AT p.1 n.1).bind λv=>((if v then ((AT p.2.1 n.2.1).bind λi=>some i) else some false).bind λx=>((if x then some (!w) else some false).bind λz=>some z)))))))
def wX :List mY→Option Bool
 | []=>some true
 | d::i=>((zi d.kw).bind λj=>((if (j != 0) then some true else ((zi d.Client).bind λn=>some (n != 0))).bind λp=>(if p then some false else (wX i))))
def BE (a0:List mY):Option Bool :=
 wX a0
def xS (j:kv):List kU→Nat→Option Int
 | [],_=>some (-1)
 | i::d,i61=>(if (ll i.Signed.kv j) then some (i61:Int) else (xS j d (i61+1)))
def FN (a0:List kU) (d:kv):Option Int :=
 xS d a0 0
def CD (a0 d:Int) (a2:Bool):Option ByteArray :=
 (if (decide (a0 < 0)) then some (⟨#[43,32]⟩:ByteArray) else (if (decide (d < 0)) then some (⟨#[45,32]⟩:ByteArray) else (if (!a2) then some (⟨#[42,32]⟩:ByteArray) else some zS)))
def wU (a0:ku):Option ByteArray :=
 ((mf a0.kw (⟨#[46]⟩:ByteArray)).bind λd=>((mf d a0.Word).bind λi=>some i))
def Fq (a0:kv):Option ByteArray :=
 ((wU a0.Head).bind λA=>((mf A (⟨#[32,60,45,32]⟩:ByteArray)).bind λz=>(if (a0.Kind==1) then ((mf z a0.lO).bind λE=>some E) else ((wU a0.B).bind λj=>((mf z j).bind λd=>(((if (a0.Kind==3) then ((mf (⟨#[46]⟩:ByteArray) a0.mg).bind λv=>((mf d v).bind λw=>some w)) else some d):Option ByteArray).bind λi=>(((if (a0.Kind==4) then ((wU a0.C).bind λn=>((mf (⟨#[32,38,32]⟩:ByteArray) n).bind λp=>((mf i p).bind λu=>some u))) else some i):Option ByteArray).bind λx=>some x)))))))
def xd (j:ku):List mr→Nat→Option Int
 | [],_=>some (-1)
 | i::d,i61=>(if (kR i.ku j) then some (i61:Int) else (xd j d (i61+1)))
def EC (a0:List mr) (d:ku):Option Int :=
 xd d a0 0
def ve (a0 T:lB):List ku→ByteArray→Option ByteArray
 | [],n=>some n
 | j::p,n=>((EC a0.kQ j).bind λd=>((EC T.kQ j).bind λi=>((if (decide (d≥0)) then some (decide (i≥0)) else some false).bind λJ=>((if J then ((lD a0.kQ d).bind λQ=>((lD T.kQ i).bind λR=>((qI kY Q.ky R.ky).bind λw=>some w))) else some false).bind λL=>((if L then ((lD a0.kQ d).bind λO=>((lD T.kQ i).bind λP=>((vz O.lT P.lT).bind λv=>some v))) else some false).bind λM=>((CD d i M).bind λu=>(if (!(lz u zS)) then ((mf u (⟨#[97,99,107,32]⟩:ByteArray)).bind λx=>((mf x j.kw).bind λz=>((mf z (⟨#[46]⟩:ByteArray)).bind λA=>((mf A j.Word).bind λE=>((mf E (⟨#[10]⟩:ByteArray)).bind λG=>((mf n G).bind λI=>(ve a0 T p I))))))) else (ve a0 T p n))))))))
def wS :List mr→(List ku)→Option (List ku)
 | [],d=>some d
 | n::i,d=>((nm 32 d ([n.ku])).bind λj=>(wS i j))
def uX (a0 P:lB):List kv→ByteArray→Option ByteArray
 | [],j=>some j
 | n::p,j=>((FN a0.kE n).bind λd=>((FN P.kE n).bind λi=>((if (decide (d≥0)) then some (decide (i≥0)) else some false).bind λE=>((if E then ((lD a0.kE d).bind λM=>((lD P.kE i).bind λO=>some (lz (uF M.Signed.Tag) (uF O.Signed.Tag)))) else some false).bind λG=>((if G then ((lD a0.kE d).bind λJ=>((lD P.kE i).bind λL=>((qI kY J.ky L.ky).bind λw=>some w))) else some false).bind λI=>((CD d i I).bind λu=>(if (!(lz u zS)) then ((Fq n).bind λv=>((mf u v).bind λx=>((mf x (⟨#[10]⟩:ByteArray)).bind λz=>((mf j z).bind λA=>(uX a0 P p A))))) else (uX a0 P p j))))))))
def uS (a0 E:lB):List kU→(List kv)→Option ByteArray
 | [],d=>((BB d).bind λz=>((uX a0 E z zS).bind λu=>((nm 128 ([]) a0.kQ).bind λi=>((nm 128 i E.kQ).bind λj=>((wS j ([])).bind λn=>((J9 n).bind λp=>((ve a0 E p u).bind λv=>some v)))))))
 | A::w,d=>((nm 136 d ([A.Signed.kv])).bind λx=>(uS a0 E w x))
def wc (a0 j:lB):Option ByteArray :=
 ((nm 232 ([]) a0.kE).bind λd=>((nm 232 d j.kE).bind λi=>uS a0 j i ([])))
def rI (rec:Formula→Option ByteArray):List Formula→Nat→ByteArray→Option ByteArray
 | [],_,d=>((mf d (⟨#[41]⟩:ByteArray)).bind λu=>some u)
 | v::i,i139,d=>(((if (decide ((i139:Int) > 0)) then ((mf d (⟨#[44,32]⟩:ByteArray)).bind λp=>some p) else some d):Option ByteArray).bind λw=>((rec v).bind λj=>((mf w j).bind λn=>(rI rec i (i139+1) n))))
def EH (rec:Formula→Option ByteArray) (a0:Formula):Option ByteArray :=
 (if (a0.Op==1) then ((mf a0.ku.kw (⟨#[46]⟩:ByteArray)).bind λp=>((mf p a0.ku.Word).bind λu=>some u)) else (((if (a0.Op==3) then some (⟨#[115,111,109,101,40]⟩:ByteArray) else some (⟨#[97,108,108,40]⟩:ByteArray)):Option ByteArray).bind λj=>(((if (a0.Op==4) then ((mf (⟨#[97,116,32]⟩:ByteArray) (uF ([(IntKind.u8.wrap (wi0 .i64 (48+a0.K)))]))).bind λd=>((mf d (⟨#[40]⟩:ByteArray)).bind λi=>some i)) else some j):Option ByteArray).bind λn=>rI rec a0.Kids 0 n)))
def vt:Nat→Formula→Option ByteArray
 | 0=>λ_=>none
 | n+1=>EH (vt n)
def oH (J:mY) (n:ByteArray):List Key→Nat→Bool→Option ByteArray
 | [],_,i=>(((if (!i) then ((ur (J.Keys.length:Int)).bind λu=>((mf (⟨#[107,101,121,115,32]⟩:ByteArray) u).bind λv=>((mf v (⟨#[10]⟩:ByteArray)).bind λw=>((mf n w).bind λx=>some x)))) else some n):Option ByteArray).bind λI=>some I)
 | j::p,d,i=>((if i then ((lD J.Keys (d:Int)).bind λG=>some (lz j.lO G.lO)) else some false).bind λz=>((if z then ((lD J.Keys (d:Int)).bind λE=>some (lz (uF j.Key) (uF E.Key))) else some false).bind λA=>(oH J n p (d+1) A)))
def IR (a0 d:mY):Option ByteArray :=
 ((((wc a0.kw d.kw).bind λj=>((if (!(lz j zS)) then some true else some (!(lz a0.kw.Name d.kw.Name))).bind λaw=>(if aw then ((mf (⟨#[111,119,110,101,114,32]⟩:ByteArray) d.kw.Name).bind λao=>((mf ao (⟨#[10]⟩:ByteArray)).bind λap=>((mf ap j).bind λaq=>((mf zS aq).bind λar=>some ar)))) else some zS))):Option ByteArray).bind λaz=>((((wc a0.Client d.Client).bind λi=>((if (!(lz i zS)) then some true else some (!(lz a0.Client.Name d.Client.Name))).bind λav=>(if av then ((mf (⟨#[99,108,105,101,110,116,32]⟩:ByteArray) d.Client.Name).bind λaj=>((mf aj (⟨#[10]⟩:ByteArray)).bind λak=>((mf ak i).bind λal=>((mf az al).bind λan=>some an)))) else some az))):Option ByteArray).bind λaE=>((((qI kY a0.Formula d.Formula).bind λJ=>(if (!J) then ((((si d.Formula).bind λL=>(if L then ((vt kY d.Formula).bind λM=>some M) else some zS)):Option ByteArray).bind λau=>((mf (⟨#[103,114,97,110,116,115,32]⟩:ByteArray) au).bind λag=>((mf ag (⟨#[10]⟩:ByteArray)).bind λah=>((mf aE ah).bind λai=>some ai)))) else some aE)):Option ByteArray).bind λn=>(((if (a0.pj != d.pj) then ((ur d.pj).bind λI=>((mf (⟨#[112,108,97,110,32]⟩:ByteArray) I).bind λad=>((mf ad (⟨#[10]⟩:ByteArray)).bind λae=>((mf n ae).bind λaf=>some af)))) else some n):Option ByteArray).bind λp=>(((if (!(EQ a0.lP d.lP)) then ((ur d.lP.pJ).bind λE=>((mf (⟨#[114,111,111,109,115,32]⟩:ByteArray) E).bind λa6=>((mf a6 (⟨#[32]⟩:ByteArray)).bind λa7=>((ur d.lP.pw).bind λG=>((mf a7 G).bind λa8=>((mf a8 (⟨#[10]⟩:ByteArray)).bind λaa=>((mf p aa).bind λab=>some ab))))))) else some p):Option ByteArray).bind λu=>(((if (a0.mO != d.mO) then ((ur d.mO).bind λA=>((mf (⟨#[116,105,109,101,111,117,116,32]⟩:ByteArray) A).bind λW=>((mf W (⟨#[10]⟩:ByteArray)).bind λY=>((mf u Y).bind λZ=>some Z)))) else some u):Option ByteArray).bind λv=>(((if (a0.nZ != d.nZ) then ((ur d.nZ).bind λz=>((mf (⟨#[116,114,105,101,115,32]⟩:ByteArray) z).bind λR=>((mf R (⟨#[10]⟩:ByteArray)).bind λT=>((mf v T).bind λU=>some U)))) else some v):Option ByteArray).bind λw=>(((if (a0.ny != d.ny) then ((ur d.ny).bind λx=>((mf (⟨#[98,117,100,103,101,116,32]⟩:ByteArray) x).bind λO=>((mf O (⟨#[10]⟩:ByteArray)).bind λP=>((mf w P).bind λQ=>some Q)))) else some w):Option ByteArray).bind λay=>oH d ay a0.Keys 0 ((a0.Keys.length:Int)==(d.Keys.length:Int))))))))))
def ry :List Int→Int→Option Int
 | [],d=>some d
 | j::i,d=>((if (j==10) then some (wi0 .i64 (d+1)) else some d):Option Int).bind λd=>ry i d
def nr (u:List Bool) (a0:mY):List kU→Nat→Int→(List kU)→(List kU)→Option Bool
 | [],_,j,d,i=>((qe a0.kw (⟨a0.kw.Name,d,a0.kw.kQ⟩:lB)).bind λz=>((qe a0.Client (⟨a0.Client.Name,i,a0.Client.kQ⟩:lB)).bind λA=>((mf z A).bind λL=>((ID L).bind λx=>((ry x 0).bind λP=>((xA a0 a0).bind λE=>((if (lz E zS) then ((wH a0 a0).bind λJ=>some (!J)) else some false).bind λQ=>((if Q then ((qU a0 a0).bind λI=>some I) else some false).bind λR=>((if R then ((qU a0 (⟨(⟨a0.kw.Name,d,a0.kw.kQ⟩:lB),(⟨a0.Client.Name,i,a0.Client.kQ⟩:lB),a0.Formula,a0.pj,a0.lP,a0.mO,a0.nZ,a0.ny,a0.Keys⟩:mY)).bind λG=>some G) else some false).bind λT=>((if T then some (P==j) else some false).bind λU=>some U))))))))))
 | p::n,i320,j,d,i=>((if (decide ((i320:Int) < (u.length:Int))) then ((lD u (i320:Int)).bind λO=>some O) else some false).bind λM=>(if M then (nr u a0 n (i320+1) (wi0 .i64 (j+1)) d i) else (if (decide ((i320:Int) < (a0.kw.kE.length:Int))) then ((nm 232 d ([p])).bind λv=>(nr u a0 n (i320+1) j v i)) else ((nm 232 i ([p])).bind λw=>(nr u a0 n (i320+1) j d w)))))
def xm (a0:mY) (v:List Bool):Option Bool :=
 (BH.bind λn=>(if (!n) then some false else ((BW a0).bind λp=>((if (decide (p > 6000)) then some true else ((BE ([a0])).bind λd=>some (!d))).bind λu=>(if u then some true else ((nm 232 ([]) a0.kw.kE).bind λi=>((nm 232 i a0.Client.kE).bind λj=>nr v a0 j 0 0 ([]) ([]))))))))
end
end Go.Proofs.YtjjjihkifgdhgaaGreatDoor
