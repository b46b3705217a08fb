/- a part of a proof of TraceBack -/
import Derived.Test.YtjjjihkifgdhgaaGreatDoorRtZkp
import Derived.Lib.AppendStr
import Derived.Lib.Builder
import Derived.Lib.UnsafeStr
import Derived.Shelf.SlSortCmp.NoneTotal
import Derived.Shelf.Strconv.Itoa3
import Derived.Shelf.Strings.OnBuilder
import Derived.Shelf.Strings.Cut
import Derived.Shelf.Strings.Split
import Derived.Shelf.Strings.LastIndexAll
import Derived.Shelf.Strconv.Atoi
import Derived.Shelf.SortM.Plain
import Derived.Shelf.SortM.SortNone
import Derived.Shelf.SlIter.Sorted
import Derived.Shelf.SlIter.Nil
import Derived.Test.YtjjjihkifgdhgaaGreatDoorProg
import Derived.KernelRfl
set_option linter.all false
namespace Go.Proofs.YtjjjihkifgdhgaaGreatDoor
open Go.IntKind renaming wrap → wi0
open Go.RowKit
theorem vw (s:ByteArray):Go.Lib.strCells s=((iA s).map (fW .u8)).flatten:=by
 unfold Go.Lib.strCells iA
 induction s.data.toList with
 | nil=>rfl
 | cons b l ih=>simp only [aY,bU,ih]; rfl
theorem xd (k:IntKind) (l:List Int):((l.map (fW k)).flatten).length=l.length:=by
 rw [mo (k:=1) (λ_=>rfl),fp]
section
variable {P:Program} {dd:Bool} {F:Nat→Prop} {w W:World} {μ:gm} {R:List (Nat×Obj)} {E:Nat→Value} {d:Option Nat} {ty:TypeId} {pos:String} {af:Array Edge} {g:Option (Nat×Bool)}
theorem Bf {K:Value→World→Prop} {e t u:TypeId} {v:Value} {l r:List Int} {str:ByteArray} (X:List (Nat×Obj)) {Y:List (Nat×Obj)} {x y:Operand} {i:TypeInfo} (n:ST dd F w W μ (X++(R++Y))) (U:P.underlying t=some (.slice e)) (hu:P.underlying u=some .string) (hi:P.info? e=some i) (hz:i.zero=some (.int .u8 0)) (I:i.size=1) (M:i.bytes=1) (hx:fT E x=v) (hy:fT E y= .string str) (hR:gB e (fW .u8) 1 v l R) (Q:ja 1 l (iA str)=some r) (h:∀W' v' R',ST dd F w W' μ (X++(R'++Y))→gB e (fW .u8) 1 v' r R'→(v= .slice none 0 0→str.size=0→v'= .slice none 0 0)→K v' W'):jt P E ⟨d,.call ⟨.builtin .append,#[x,y],#[t,u]⟩,ty,pos,af,g⟩ W K:=by
 unfold ja at Q
 split at Q
 case isFalse=>cases Q
 rename_i L
 cases Q
 rw [iG,fp] at L
 obtain ⟨Z,J⟩:=L
 have hM:maxLen=9223372036854775807:=by unfold maxLen; rfl
 have s:∀(V:Value) (W':World),(Builtin.append_ #[t,u] ty #[v,.string str]).run P W= .ok V W'→(execOp (fT E) ⟨d,.call ⟨.builtin .append,#[x,y],#[t,u]⟩,ty,pos,af,g⟩).run P W= .ok (.value V) W':=by
  intro V W' hV
  show (do let d ←resolve (fT E) ⟨.builtin .append,#[x,y],#[t,u]⟩ ty; invoke d.target d.args:Sem Next).run P W=_
  simp [resolve,invoke,builtin,hx,hy,hV]
 have o:((l++iA str).map (fW .u8)).flatten=(l.map (fW .u8)).flatten++Go.Lib.strCells str:=by rw [bB,eQ,vw]
 have a:(l++iA str).length=l.length+str.size:=by rw [az,iG]
 have ab:(Value.int IntKind.u8 0).cells.size=1:=rfl
 have fresh:∀(ki:Nat) (L':List (Nat×Obj)),¬(v= .slice none 0 0∧str.size=0)→ST dd F w W μ L'→L'.Perm (X++Y)→(Builtin.append_ #[t,u] ty #[v,.string str]).run P W= .ok (.slice (some ⟨W.heap.size,0,none⟩) (l.length+str.size) (grownCap W (l.length+str.size) ki e))
    (W.drew.alloc (.cells (((l.map (fW .u8)).flatten++Go.Lib.strCells str).toArray++Builtin.zeroCells (Value.int .u8 0).cells (grownCap W (l.length+str.size) ki e-(l.length+str.size))) e))→
   jt P E ⟨d,.call ⟨.builtin .append,#[x,y],#[t,u]⟩,ty,pos,af,g⟩ W K:=by
  intro ki L' hv G hp A
  have a7:=grownCap_ge W (l.length+str.size) ki e
  have a6:grownCap W (l.length+str.size) ki e≤maxLen:=grownCap_le_maxLen W (l.length+str.size) ki e J
  have hlen:((l.map (fW .u8)).flatten++Go.Lib.strCells str).length=l.length+str.size:=by rw [az,xd,ej]
  generalize O:((l.map (fW .u8)).flatten++Go.Lib.strCells str).toArray++Builtin.zeroCells (Value.int .u8 0).cells (grownCap W (l.length+str.size) ki e-(l.length+str.size))=cs at A
  refine .inl ⟨_,_,s _ _ A,h _ _ [(W.heap.size,.cells cs e)] ?_ (.inr ⟨W.heap.size,_,cs,by rw [a],rfl,by rw [a]; exact a7,a6,?_,?_⟩) λq1 q2=>absurd ⟨q1,q2⟩ hv⟩
  ·exact ((G.perm hp).drew.alloc _).perm (List.perm_middle.symm)
  ·subst O
   simp only [Array.size_append,bV,size_zeroCells,ab,hlen]
   omega
  ·subst O
   rw [a,o,fp,←hlen]
   simp only [Array.toList_append]
   exact ei
 rcases hR with ⟨rfl,rfl,rfl⟩ | ⟨z,cap,c,rfl,rfl,q1,q2,q3,q4⟩
 ·rcases cy str.size with G | G
  ·have hf:=Go.Lib.run_firstCells_string (P:=P) W 1 str
   have a1:iA str=[]:=cq (by rw [iG]; exact G)
   refine .inl ⟨.slice none 0 0,W,s _ _ ?_,h W _ [] n (.inl ⟨rfl,by rw [a1]; rfl,rfl⟩) λ_ _=>rfl⟩
   simp [Builtin.append_,aN U,aN hu,sizeOf,typeInfo,hi,I,Builtin.lenOf,G]
   rw [G] at hf
   simp [hf]
  ·have A:=run_append_nil_string (P:=P) W t u ty e i (.int .u8 0) U hu hi hz str G (by simp at J; omega) (by rw [M]; simp at Z; omega)
   refine fresh 0 _ (λq=>by omega) n (.refl _) ?_
   have e1:(str.data.map λb=>Value.int .u8 b.toNat)=(Go.Lib.strCells str).toArray:=by
    apply Array.ext'
    simp [Go.Lib.strCells]
   rw [e1] at A
   simpa using A
 ·have hg:=(n.box z (.cells c e (0,0)) (by simp)).1
  by_cases p:l.length+str.size≤cap
  ·have A:=Go.Lib.run_append_room_string (P:=P) W t u ty e i U hu hi I z l.length cap c hg str p (by omega)
   refine .inl ⟨_,_,s _ _ A,h _ _ [(z,_)] (ST.put n ⟨rfl,rfl,rfl,bl _,by simp⟩ (λk hk=>setRow_other W z k _ hk) (setRow_heap W z c _ e _ hg)) (.inr ⟨z,cap,_,by rw [a],rfl,by rw [a]; exact p,q2,?_,?_⟩) λq=>by cases q⟩
   ·simp only [bV,az,bI,dv,bP,ej]
    omega
   ·have aa:c.toList.take l.length=(l.map (fW .u8)).flatten:=by simpa using q4
    rw [a,o,fp,aa,show l.length+str.size=((l.map (fW .u8)).flatten++Go.Lib.strCells str).length by rw [az,xd,ej]]
    simp only [aH]
    rw [←aH]
    exact ei
  ·have holds:∀j u,((l.map (fW .u8)).flatten)[j]? =some u→W.cell? ((⟨z,0,none⟩:Addr).add j)=some u:=by
    intro j u T
    rw [cu,dL W z (0+j) c e (0,0) hg,dT]
    rw [←q4] at T
    have a8:=(aR.1 T).1
    rw [bI] at a8
    rw [ct (by omega)] at T
    simpa using T
   have A:=Go.Lib.run_append_grow_string (P:=P) W t u ty e i (.int .u8 0) U hu hi hz ⟨z,0,none⟩ l.length cap ((l.map (fW .u8)).flatten) (by rw [xd,I,fp]) holds str (by omega) (by omega) (by rw [M]; exact growslice_fits (by omega) (by omega))
   refine fresh cap (X++Y) (λq=>by cases q.1) (n.sublist (by simp)) (.refl _) ?_
   simpa using A
theorem EF {s t:TypeId} {x:Operand} {v a:Value} (c:fT E x=v) (h:(convert s t v).run P W= .ok a W):gP P E ⟨d,.convert s t x,ty,pos,af,g⟩ W a W:=by
 show (do pure (.value (←convert s t (fT E x))):Sem Next).run P W=_
 rw [c]
 simp only [bE,h,bn,cv]
theorem wS {b:Nat} {cs:Array Value} {T:TypeId} {fr:Nat×Nat} {W:World} (h:W.heap[b]? =some (.cells cs T fr)):W.shape? b=some (T,cs.size):=by simp [World.shape?,h]
def Av (T e:TypeId) (v:Value) (l:ByteArray) (R:List (Nat×Obj)):Prop :=
 ∃b a u S,v= .pointer (some ⟨b,0,none⟩)∧(a= .pointer none∨a= .pointer (some ⟨b,0,none⟩))∧R=(b,.cells #[a,u] T (0,0))::S∧gB e (fW .u8) 1 u (iA l) S∧(l.size=0→u= .slice none 0 0)
theorem CD (l s:ByteArray):iA (l++s)=iA l++iA s:=by
 simp [iA,ByteArray.data_append]
theorem Ff {l s r:ByteArray} (h:vR l s=some r):ja 1 (iA l) (iA s)=some (iA r):=by
 unfold vR at h
 split at h
 case isFalse=>cases h
 rename_i a
 cases h
 unfold ja
 rw [iG,iG,CD,aJ ⟨by omega,by unfold maxLen; omega⟩]
theorem Fa {l s r:ByteArray} (h:vR l s=some r) (a:r.size=0):l.size=0∧s.size=0:=by
 unfold vR at h
 split at h
 case isFalse=>cases h
 cases h
 rw [aA] at a
 omega
theorem tg (w:World) (g n k:Nat) (hk:k≠g):(w.freeze ⟨g,0,none⟩ n).heap[k]? =w.heap[k]?:=by
 unfold World.freeze
 split
 ·rfl
 ·simp [ew,Ne.symm hk]
theorem Ec {L:List (Nat×Obj)} {g n:Nat} {o:Obj} (c:ST dd F w W μ ((g,o)::L)):ST dd F w (W.freeze ⟨g,0,none⟩ n) μ L:=by
 have h1:=c.sublist (List.sublist_cons_self _ _)
 have p:=c.box g o (.head _)
 have i:∀b q,(b,q)∈L→b≠g:=λb q a e=>by
  subst e
  have:=c.nd
  simp only [aY,cE] at this
  exact this.1 (bt.2 ⟨_,a,rfl⟩)
 have j:(W.freeze ⟨g,0,none⟩ n).heap.size=W.heap.size:=by unfold World.freeze; split <;> simp
 have d:(W.freeze ⟨g,0,none⟩ n).os=W.os∧(W.freeze ⟨g,0,none⟩ n).tape=W.tape∧(W.freeze ⟨g,0,none⟩ n).output=W.output∧(W.freeze ⟨g,0,none⟩ n).drawn=W.drawn:=by unfold World.freeze; split <;> exact ⟨rfl,rfl,rfl,rfl⟩
 refine ⟨d.1.trans h1.os,d.2.1.trans h1.tape,d.2.2.1.trans h1.output,by rw [d.2.2.2]; exact h1.drawn,by rw [j]; exact h1.size,λb a k=>?_,λb q a=>?_,λb q a=>?_,h1.nd⟩
 ·rw [tg _ _ _ _ (λe=>by subst e; rcases p.2.2 with h | h; omega; exact k h)]; exact h1.ki b a k
 ·rw [tg _ _ _ _ (λe=>by subst e; rw [p.2.1] at a; cases a)]; exact h1.mem b q a
 ·rw [tg _ _ _ _ (i b q a)]; exact h1.box b q a
theorem Fo {x:Operand} {u:Value} {ats:Array TypeId} {q:Option Addr} (j:fT E x=u) (h:∃a n c,u= .slice a n c∧(a=none∨c≠0)∧q=a):gP P E ⟨d,.call ⟨.builtin .unsafeSliceData,#[x],ats⟩,ty,pos,af,g⟩ W (.pointer q) W:=by
 obtain ⟨a,n,c,rfl,h1,rfl⟩:=h
 show (do let d ←resolve (fT E) ⟨.builtin .unsafeSliceData,#[x],ats⟩ ty; invoke d.target d.args:Sem Next).run P W=_
 have i:(Builtin.unsafeSliceData_ ats ty #[.slice q n c]).run P W= .ok (.pointer q) W:=by
  rcases q with _ | a
  ·exact Go.Lib.run_unsafeSliceData_nil (P:=P) W _ _ _ _
  ·exact Go.Lib.run_unsafeSliceData_row (P:=P) W _ _ _ _ _ (h1.resolve_left (by simp))
 simp [resolve,invoke,builtin,j,i]
theorem Cz {K:Value→World→Prop} {L:List (Nat×Obj)} {t e:TypeId} (a:ST dd F w W μ L) (c:∀w,(zeroValue t).run P w= .ok (.agg #[.pointer none,.slice none 0 0]) w) (h:∀W' v R,ST dd F w W' μ (R++L)→Av t e v ⟨#[]⟩ R→K v W'):jt P E ⟨d,.alloc t,ty,pos,af,g⟩ W K :=
 gy a c λW' b a=>h W' _ [(b,_)] a ⟨b,_,_,[],rfl,.inl rfl,rfl,.inl ⟨rfl,rfl,rfl⟩,λ_=>rfl⟩
theorem Dp {l:ByteArray} (h:iA l=[]):l=⟨#[]⟩:=by
 have:l.data.toList=[]:=by simpa [iA] using h
 exact eE (by simpa using this)
theorem Bu {K:Value→World→Prop} {L S:List (Nat×Obj)} {x y:Operand} {o it e:TypeId} {q:Option Addr} {l:ByteArray} {n c:Nat} (i:ST dd F w W μ (S++L)) (hp:P.underlying o=some (.pointer e)) (T:P.cellsOf e=1) (Y:fT E x= .pointer q) (Z:fT E y= .int .i64 (n:Nat)) (Q:gB e (fW .u8) 1 (.slice q n c) (iA l) S) (h:∀W',ST dd F w W' μ L→K (.string l) W'):jt P E ⟨d,.call ⟨.builtin .unsafeString,#[x,y],#[o,it]⟩,ty,pos,af,g⟩ W K:=by
 have k:∀(V:Value) (W':World),(Builtin.unsafeString_ #[o,it] ty #[.pointer q,.int .i64 (n:Nat)]).run P W= .ok V W'→(execOp (fT E) ⟨d,.call ⟨.builtin .unsafeString,#[x,y],#[o,it]⟩,ty,pos,af,g⟩).run P W= .ok (.value V) W':=by
  intro V W' R
  show (do let d ←resolve (fT E) ⟨.builtin .unsafeString,#[x,y],#[o,it]⟩ ty; invoke d.target d.args:Sem Next).run P W=_
  simp [resolve,invoke,builtin,Y,Z,R]
 have none:iA l=[]→n=0→∀G:ST dd F w W μ L,jt P E ⟨d,.call ⟨.builtin .unsafeString,#[x,y],#[o,it]⟩,ty,pos,af,g⟩ W K:=by
  intro h1 u G
  subst u
  rw [Dp h1] at h
  exact .inl ⟨_,_,k _ _ (Go.Lib.run_unsafeString_none (P:=P) W o it ty q),h W G⟩
 rcases Q with ⟨h1,u,rfl⟩ | ⟨p,cap,a,h1,rfl,q1,q2,q3,q4⟩
 ·cases h1
  exact none u rfl i
 ·cases h1
  by_cases s:iA l=[]
  ·exact none s (by rw [s]; rfl) (i.sublist (by simp))
  ·have z:l.data.toList≠[]:=by simpa [iA] using s
   have v:(iA l).length=l.data.toList.length:=by simp [iA]
   have I:=(i.box p (.cells a e (0,0)) (by simp)).1
   have M:=Go.Lib.run_unsafeString_row (P:=P) W o it ty e hp T p a.size (wS I) l.data.toList z (by omega) (by unfold maxLen at q2; omega) (λj x J=>by
    rw [cu,dL W p (0+j) a e (0,0) I,dT]
    have U:=(aR.1 J).1
    have A:(a.toList.take ((iA l).length*1))[j]? =some (.int .u8 x.toNat):=by
     rw [q4,←vw]
     simp only [Go.Lib.strCells,List.getElem?_map,J]
     rfl
    rw [ct (by omega)] at A
    simpa using A)
   rw [←v] at M
   refine .inl ⟨_,_,k _ _ M,?_⟩
   have O:(⟨l.data.toList.toArray⟩:ByteArray)=l:=eE (by simp)
   rw [O]
   exact h _ (Ec i)
end
def xV (P:Program) (μ:gm):Prop:=∃g T fr,P.globalNamed "internal/strconv.uint64pow10"=some g∧μ g=some (.cells (Go.Lib.pow10Tab.map λz=>Value.int .u64 z).toArray T fr)
theorem xV.mono {P:Program} {μ μ':gm} (h:xV P μ) (c:gf μ μ'):xV P μ':=by
 obtain ⟨g,T,fr,h1,a⟩:=h
 exact ⟨g,T,fr,h1,c _ _ a⟩
section
variable {P:Program} {fn:Func} {R:Ending→World→Prop} {E:Nat→Value} {W:World}
theorem Ez {c:Tmp} {t0:TypeId} {a0:Addr} {v0:Value} {d:Tmp} {t1:TypeId} {a:Addr} {v1:Value} {g:Tmp} {t2:TypeId} {a2:Addr} {v2:Value} {i:Tmp} {v3:Value} (o:fn.results=#[.cell c t0,.cell d t1,.cell g t2,.tmp i]) (j:E c= .pointer (some a0)) (q:(Instr.loadAt t0 (.pointer (some a0))).run P W= .ok v0 W) (h1:E d= .pointer (some a)) (s:(Instr.loadAt t1 (.pointer (some a))).run P W= .ok v1 W) (k:E g= .pointer (some a2)) (u:(Instr.loadAt t2 (.pointer (some a2))).run P W= .ok v2 W) (n:E i=v3) (h:R (.returned (.tuple #[v0,v1,v2,v3])) W):nI P fn R .ret E W :=
 ⟨.tuple #[v0,v1,v2,v3],λtmps p=>by
  have v:(loadVar t0 a0).run P W= .ok v0 W:=by simpa [Instr.loadAt,Instr.sureAddr] using q
  have w:(loadVar t1 a).run P W= .ok v1 W:=by simpa [Instr.loadAt,Instr.sureAddr] using s
  have x:(loadVar t2 a2).run P W= .ok v2 W:=by simpa [Instr.loadAt,Instr.sureAddr] using u
  simp [results,o,p,asAddr,j,v,h1,w,k,x,n],h⟩
end
def yh (P:Program) (μ:gm):Prop:=∃g m cs T fr,P.globalNamed "internal/bytealg.MaxLen"=some g∧μ g=some (.cells cs T fr)∧cs[0]? =some (.int .i64 m)
structure ny (P:Program) (μ:gm):Prop where
 t:xV P μ
 m:yh P μ
theorem ny.mono {P:Program} {μ μ':gm} (h:ny P μ) (a:gf μ μ'):ny P μ':=by
 obtain ⟨h1,g,m,cs,T,fr,c,d,i⟩:=h
 exact ⟨h1.mono a,g,m,cs,T,fr,c,a _ _ d,i⟩
end Go.Proofs.YtjjjihkifgdhgaaGreatDoor
namespace Go.Proofs.YtjjjihkifgdhgaaGreatDoor
open Go.IntKind renaming wrap → wi0
open Go.Sort Go.Proofs Go.Shelf
theorem wU {g b:Nat} {o:Obj}:gL [(g,o)] b↔b=g:=by
 constructor
 ·rintro ⟨a,h⟩
  simp at h
  exact h.1
 ·rintro rfl; exact ⟨o,by simp⟩
theorem te (w:World) (g m:Nat) (f:Array Value→Array Value) (os:Array Obj) (b:Nat) (c:b < w.heap.size) :
  (Go.Sort.grow (mapBlock (Go.Sort.ahead w m) g f) os).heap[b]? =if g=b then w.heap[b]?.map (onCells f) else w.heap[b]?:=by
 have a:b < (mapBlock (Go.Sort.ahead w m) g f).heap.size:=by simp only [mapBlock,Go.Sort.ahead,Array.size_modify]; exact c
 rw [heap_grow_old _ _ a]
 simp only [mapBlock,Go.Sort.ahead,ew]
theorem Bh {w:World} {g m:Nat} {f:Array Value→Array Value} {os:Array Obj} {cs:Array Value} {T:TypeId} {fr:Nat×Nat} (c:w.heap[g]? =some (.cells cs T fr)) :
  ma true [(g,.cells cs T fr)] [(g,.cells (f cs) T fr)] w (Go.Sort.grow (mapBlock (Go.Sort.ahead w m) g f) os):=by
 have a:g < w.heap.size:=(ch.1 c).1
 refine ⟨⟨rfl,rfl,rfl,?_,?_,λb d i=>?_⟩,λb o h=>?_,by simp⟩
 ·refine mb.of ?_
  show w.drawn≤w.drawn+m
  omega
 ·show w.heap.size≤(w.heap.modify g (onCells f)++os).size
  simp
 ·rw [te _ _ _ _ _ _ d,aK λh=>i (wU.2 h.symm)]
 ·simp only [aS,dh,fA,Prod.mk.injEq] at h
  obtain ⟨rfl,rfl⟩:=h
  refine ⟨?_,.inr (wU.2 rfl)⟩
  rw [te _ _ _ _ _ _ a,aJ rfl,c]
  rfl
theorem CM {w W:World} (h:Ex true w W):∃q os,W=Go.Sort.grow (w.drewN q) os:=by
 refine ⟨W.drawn-w.drawn,W.heap.extract w.heap.size W.heap.size,?_⟩
 have g:W.heap=w.heap++W.heap.extract w.heap.size W.heap.size:=by
  apply Array.ext_getElem?
  intro i
  rw [dJ]
  split
  ·rename_i hi; exact h.ki i hi
  ·rename_i hi
   rw [Array.getElem?_extract]
   have k:=h.size
   split
   ·rw [show w.heap.size+(i-w.heap.size)=i by omega]
   ·exact Array.getElem?_eq_none (by omega)
 obtain ⟨h1,n,o,p,s⟩:=W
 have a:=h.os; have c:=h.tape; have d:=h.output; have j:=h.drawn rfl
 simp only at a c d j g
 unfold Go.Sort.grow World.drewN
 simp only [World.mk.injEq]
 exact ⟨g,c,by omega,a,d⟩
theorem Cc {α:Type} [Inhabited α] {enc:α→List Value} {k:Nat} (hk:∀x,(enc x).length=k) (l:List α) (j:Nat) (a:j < l.length*k) :
  (l.map enc).flatten[j]? =some ((flatK enc k l.toArray)[j]!):=by
 have g:0 < k:=by
  cases k with
  | zero=>simp at a
  | succ n=>omega
 have h1:j / k < l.length:=(ey g).2 a
 rw [get_flatK _ _ _ _ (by simpa using a)]
 have h:l.toArray[j / k]! =l[j / k]:=by
  rw [getElem!_pos l.toArray (j / k) (by simpa using h1)]; simp
 rw [h]
 have c:j % k < (enc l[j / k]).length:=by rw [hk]; exact Nat.mod_lt _ g
 have d:=pR hk l (j / k) l[j / k] (bN h1) (j % k) ((enc l[j / k])[j % k]) (bN c)
 rw [Nat.div_add_mod' j k] at d
 rw [d,getElem!_pos (enc l[j / k]) (j % k) c]
theorem zu {α:Type} [Inhabited α] {enc:α→List Value} {k:Nat} (hk:∀x,(enc x).length=k) {w:World} {g:Nat} {cs:Array Value} {T:TypeId} (c:w.heap[g]? =some (.cells cs T (0,0))) (l:List α)
  (h:cs.toList.take (l.length*k)=(l.map enc).flatten):HoldsK enc k w g 0 l.toArray:=by
 intro j d
 have a:j < l.length*k:=by simpa using d
 have h1:=Cc hk l j a
 rw [←h,di,aJ a] at h1
 refine ⟨?_,?_⟩
 ·simp only [World.cell?,c,dT]
  simpa using h1
 ·simp [World.frozen?,c]
theorem BB {α:Type} [Inhabited α] {enc:α→List Value} {k:Nat} (hk:∀x,(enc x).length=k) {cs:Array Value} (l:List α) (c:l.length*k≤cs.size) :
  (putCells id 0 (flatK enc k l.toArray) cs).toList.take (l.length*k)=(l.map enc).flatten:=by
 apply fl
 intro j
 rw [di]
 split
 ·rename_i a
  rw [Cc hk l j a]
  simp only [putCells,ez,Array.getElem?_mapIdx,size_flatK,bV]
  rw [Array.getElem?_eq_getElem (by omega)]
  simp [a]
 ·rename_i a
  rw [cJ (by rw [mo hk]; omega)]
theorem zy (enc:Value→Value) (o:Nat) (d c:Array Value):(putCells enc o d c).size=c.size:=by simp [putCells]
section
variable {α:Type} {P:Program} {ρ:Ren}
theorem Hf {l:List α} {cf:α×α→Option Int} (h:so cf l):SWO (ltOf λ(x y:{x // x∈l})=>(cf (x.1,y.1)).getD 0)∧
  (∀x y:{x // x∈l},ltOf (λ(x y:{x // x∈l})=>(cf (x.1,y.1)).getD 0) x y=lJ cf x.1 y.1):=by
 have e:∀x y:{x // x∈l},ltOf (λ(x y:{x // x∈l})=>(cf (x.1,y.1)).getD 0) x y=lJ cf x.1 y.1:=λx y=>by
  obtain ⟨c,i⟩:=h.is x.1 x.2 y.1 y.2
  simp [ltOf,lJ,i]
 refine ⟨⟨λx=>?_,λx y z=>?_,λx y z=>?_⟩,e⟩
 ·rw [e]; exact h.irrefl _ x.2
 ·rw [e,e,e]; exact h.trans _ x.2 _ y.2 _ z.2
 ·rw [e,e,e]
  intro h1 d
  cases a:lJ cf x.1 z.1 with
  | false=>rfl
  | true=>
   cases g:lJ cf y.1 x.1 with
   | true=>
    have:=h.trans _ y.2 _ x.2 _ z.2 g a
    rw [d] at this; cases this
   | false=>
    have:=h.total _ x.2 _ y.2 h1 g
    rw [this,d] at a; cases a
theorem BC (L:SlLaysF0.n6 P ρ) (k:Nat) (aE:∀w,(isAgg (ρ.t 24)).run P w= .ok true w) (zE:∀w,(Go.sizeOf (ρ.t 24)).run P w= .ok k w) {e:TypeId} (enc:α→List Value) (hk:∀x,(enc x).length=k) (h1:∀x,∀u∈enc x,u.oneCell'=true) {v fv:Value} {l r:List α} {R:List (Nat×Obj)} {cf:α×α→Option Int} {w:World} {μ0:gm} (hH:um (R++[]) w) (A:gf μ0 (lf w (R++[]))) (Z:gB e enc k v l R) (hc:Ab P fv μ0 (λ(x:α×α)=>[(.agg (enc x.1).toArray),(.agg (enc x.2).toArray)]) (λ(r:Int)=>(.int .i64 r)) cf) (hm:rR cf l=some r) :
  iu true P (ρ.f 6) [v,fv] w (R++[]) (λu L1 _=>∃(S:List (Nat×Obj)),u=(.tuple #[])∧L1=(S++[])∧gB e enc k v r S):=by
 obtain ⟨ok,rfl⟩:=Dk hm
 rw [bQ] at hH A ⊢
 rcases cy l.length with h0 | i
 ·have hl:l=[]:=cq h0
  subst hl
  have hs:kX cf ([]:List α)=[]:=by simp [kX]
  rw [hs]
  obtain ⟨p,c,rfl⟩:∃p c,v= .slice p 0 c:=by
   rcases Z with ⟨rfl,_,_⟩ | ⟨g,cap,j,rfl,_⟩
   ·exact ⟨_,_,rfl⟩
   ·exact ⟨_,_,rfl⟩
  refine bk (AnyF.slices_SortFunc_none L p c fv w) λx w' ⟨hx,hw⟩=>?_
  subst hx hw
  refine ⟨_,R,rfl,⟨⟨rfl,rfl,rfl,mb.of (bl _),bl _,λ_ _ _=>rfl⟩,λb o h=>⟨hH b o h,.inr ⟨o,h⟩⟩,?_⟩,R,rfl,(bQ R).symm,Z⟩
  rcases Z with ⟨_,_,rfl⟩ | ⟨g,cap,j,_,rfl,_⟩ <;> simp
 ·rcases Z with ⟨_,rfl,_⟩ | ⟨g,cap,j,rfl,rfl,a8,a7,O,ae⟩
  ·simp at i
  have hg:w.heap[g]? =some (.cells j e (0,0)):=hH g _ (by simp)
  have aa:g < w.heap.size:=(ch.1 hg).1
  haveI:Inhabited {x // x∈l}:=⟨⟨l[0],List.getElem_mem i⟩⟩
  obtain ⟨gg,caps,rfl,Q,q⟩:=hc
  obtain ⟨hO,T⟩:=Hf ok
  have G:l.attach.toArray.size=l.length:=by simp
  have ab:l.attach.map (λx=>enc x.1)=l.map enc:=by
   rw [show (λx:{x // x∈l}=>enc x.1)=enc∘Subtype.val from rfl,←eU,List.attach_map_subtype_val]
  have a1:HoldsK (λx:{x // x∈l}=>enc x.1) k w g 0 l.attach.toArray:=zu (λx=>hk x.1) hg l.attach (by rw [ab,List.length_attach,ae])
  have M:CmpLays P gg caps (λx:{x // x∈l}=>enc x.1) k (λx y=>(cf (x.1,y.1)).getD 0) g 0 l.attach.toArray.size w:=by
   intro m os dk ag x y
   obtain ⟨c,J⟩:=ok.is x.1 x.2 y.1 y.2
   have Y:gf μ0 (hp (sortWorldK (λx:{x // x∈l}=>enc x.1) k w g 0 m dk os)):=λb o hb=>by
    have z:=A b o hb
    unfold lf at z
    split at z
    ·cases z
    ·rename_i hn
     have a6:b < w.heap.size:=(ch.1 z).1
     show (Go.Sort.grow (mapBlock (Go.Sort.ahead w m) g _) os).heap[b]? =_
     rw [te _ _ _ _ _ _ a6,aK λh=>hn (wU.2 h.symm)]
     exact z
   have h3:=q (sortWorldK (λx:{x // x∈l}=>enc x.1) k w g 0 m dk os) (x.1,y.1) c Y J
   have ea:([Value.agg (enc x.1).toArray,Value.agg (enc y.1).toArray]++caps.toList).toArray=#[Value.agg (enc x.1).toArray,Value.agg (enc y.1).toArray]++caps:=by
    apply Array.ext'; simp
   rw [←ea]
   exact bk h3 λu W' hu=>⟨by rw [hu.1]; show _=Ending.returned (.int .i64 ((cf (x.1,y.1)).getD 0)); rw [J]; rfl,CM hu.2⟩
  have hT:∀x y:{x // x∈l},ltOf (λ(x y:{x // x∈l})=>(cf (x.1,y.1)).getD 0) x y=false→ltOf (λ(x y:{x // x∈l})=>(cf (x.1,y.1)).getD 0) y x=false→x=y:=λx y a b=>by
   rw [T] at a b
   exact Subtype.ext (ok.total _ x.2 _ y.2 a b)
  have d:=AnyQ.slices_SortFunc_total L k aE zE (λx:{x // x∈l}=>enc x.1) (λx=>hk x.1) (λx=>h1 x.1) (λx y=>(cf (x.1,y.1)).getD 0) hO gg caps g 0 cap l.attach.toArray w Q M a1 aa (by rw [G]; exact ok.short) hT
  rw [G] at d
  refine bk d λu w' ⟨hu,n,os,hw⟩=>?_
  subst hu
  generalize hs:l.attach.toArray.toList.mergeSort (λx y=>!ltOf (λ(x y:{x // x∈l})=>(cf (x.1,y.1)).getD 0) y x)=s at hw
  have ad:s.map Subtype.val=kX cf l:=by
   rw [←hs,List.map_mergeSort (s:=λx y=>!lJ cf y x) (λa _ b _=>by rw [T])]
   simp [kX]
  have W:s.length=l.length:=by rw [←hs,List.length_mergeSort]; simp
  have U:(kX cf l).length=l.length:=by simp [kX,List.length_mergeSort]
  have I:=Bh (w:=w) (m:=n) (f:=putCells id 0 (flatK (λx:{x // x∈l}=>enc x.1) k s.toArray)) (os:=os) hg
  have af:w'=Go.Sort.grow (mapBlock (Go.Sort.ahead w n) g (putCells id 0 (flatK (λx:{x // x∈l}=>enc x.1) k s.toArray))) os:=hw
  rw [←af] at I
  refine ⟨_,_,rfl,I,_,rfl,(bQ _).symm,.inr ⟨g,cap,_,by rw [U],rfl,by omega,a7,by rw [zy,O],?_⟩⟩
  rw [U,←W,BB (λx=>hk x.1) s (by rw [W,O]; exact bJ k a8),←ad,eU]
  rfl
end
end Go.Proofs.YtjjjihkifgdhgaaGreatDoor
namespace Go.Proofs.YtjjjihkifgdhgaaGreatDoor
open Go.IntKind renaming wrap → wi0
open Go.RowKit
theorem Dg {P:Program} {ρ:Go.Shelf.Ren} (L:Go.Proofs.LaysM.n171 P ρ) {f:FuncId} (j:ρ.f 171=f) {n:Int} {r:ByteArray} {w:World} (o:xV P (hp w)) (hm:vS n=some r):gz true P f [.int .i64 n] w (.string r):=by
 unfold vS at hm
 split at hm
 case isFalse=>cases hm
 rename_i h
 cases hm
 subst j
 obtain ⟨g,T,fr,h1,c⟩:=o
 have a:Go.Lib.TabIs P w "internal/strconv.uint64pow10" .u64 Go.Lib.pow10Tab:=by
  unfold Go.Lib.TabIs World.var?
  have d:w.heap[g]? =_:=c
  rw [h1]
  simp [d]
 refine bk (Go.Proofs.Any.strconv_Itoa L n h.1 h.2 w a) λe W p=>?_
 obtain ⟨rfl,k,os,rfl⟩:=p
 refine ⟨rfl,rfl,rfl,rfl,mb.of ?_,?_,λb i=>?_⟩
 ·simp [Go.Sort.grow,World.drewN]
 ·simp [Go.Sort.grow,World.drewN]
 ·simp only [Go.Sort.grow,World.drewN]
  rw [Array.getElem?_append_left i]
theorem CQ {P:Program} {ρ:Go.Shelf.Ren} (L:Go.Proofs.Lays.n156 P ρ) (X:Go.Proofs.Builder.Extra P ρ) {f:FuncId} (y:ρ.f 156=f) {v:Value} {xs:List ByteArray} {sep r:ByteArray} {w:World} (h:Sl (Pl lN) 1 (hp w) v xs) (hm:xh xs sep=some r):gz false P f [v,.string sep] w (.string r):=by
 unfold xh at hm
 split at hm
 case isFalse=>cases hm
 rename_i k
 cases hm
 subst y
 obtain ⟨A,c,rfl,h1,z,n⟩:=h
 have d:∀{W:World},Below w.heap.size w W→Ex false w W:=λb=>⟨b.os,b.tape,b.output,λe=>(by cases e),b.size,b.block⟩
 rcases cy xs.length with g | g
 ·have:xs=[]:=cq g
  subst this
  exact bk (Go.Proofs.Any.strings_Join_none L X A c sep w) λe W a=>by
   obtain ⟨rfl,rfl⟩:=a
   exact ⟨rfl,Ex.refl _⟩
 ·obtain ⟨b,o,cs,T,fr,rfl,p,q⟩:=n g
  have hw:w.heap[b]? =some (.cells cs T fr):=p
  exact bk (Go.Proofs.Any.strings_Join L X b o c xs sep w (λj x a=>by
    obtain ⟨ys,G,s,u⟩:=q j x a
    cases s
    rw [dL w b (o+j) cs T fr hw]
    have:=u 0 (.string x) rfl
    simpa using this) (ch.1 hw).1 k.2 h1 k.1) λe W a=>by
   obtain ⟨rfl,i⟩:=a
   exact ⟨rfl,d i⟩
theorem xZ {P:Program} {g:Nat} {w:World} (h:P.globalNamed "internal/bytealg.MaxLen"=some g) (i:yh P (hp w)):∃m,w.cell? ⟨g,0,none⟩=some (.int .i64 m):=by
 obtain ⟨j,m,cs,T,fr,h1,a,d⟩:=i
 rw [h] at h1
 cases h1
 have c:w.heap[g]? =_:=a
 exact ⟨m,by simp [World.cell?,c,d]⟩
theorem DC {P:Program} {ρ:Go.Shelf.Ren} (L:Go.Proofs.Lays.n145 P ρ) (d:P.globalNamed "internal/bytealg.MaxLen"=some (ρ.g 1)) {f:FuncId} (c:ρ.f 145=f) {s sep:ByteArray} {r:ByteArray×ByteArray×Bool} {w:World} (i:yh P (hp w)) (hm:mm s sep=some r) :
  gz true P f [.string s,.string sep] w (.tuple #[.string r.1,.string r.2.1,.bool r.2.2]):=by
 unfold mm at hm
 split at hm
 case isFalse=>cases hm
 rename_i h
 cases hm
 subst c
 obtain ⟨m,a⟩:=xZ d i
 refine bk (Go.Proofs.Any.strings_Cut L s sep m w h a) λe W j=>?_
 obtain ⟨rfl,n,rfl⟩:=j
 refine ⟨rfl,rfl,rfl,rfl,mb.of ?_,?_,λb k=>?_⟩
 ·simp [World.drewN]
 ·simp [World.drewN]
 ·simp only [World.drewN]
theorem Df {P:Program} {ρ:Go.Shelf.Ren} (L:Go.Proofs.Lays.n148 P ρ) {f:FuncId} (a:ρ.f 148=f) {s sub:ByteArray} {r:Int} {w:World} (hm:re s sub=some r):gz true P f [.string s,.string sub] w (.int .i64 r):=by
 unfold re at hm
 split at hm
 case isFalse=>cases hm
 rename_i h
 cases hm
 subst a
 refine bk (Go.Proofs.Any.strings_LastIndex L s sub h w) λe W c=>?_
 obtain ⟨rfl,rfl⟩:=c
 exact ⟨rfl,Ex.refl _⟩
theorem CB {P:Program} {ρ:Go.Shelf.Ren} (L:Go.Proofs.Lays.n172 P ρ) {f:FuncId} (c:ρ.f 172=f) {s:ByteArray} {r:Int} {w:World} (hm:uu s=some r):gz true P f [.string s] w (.tuple #[.int .i64 r,.nilIface]):=by
 unfold uu at hm
 split at hm
 case isFalse=>cases hm
 rename_i h
 subst c
 refine bk (Go.Proofs.Any.strconv_Atoi L s r h hm w) λe W d=>?_
 obtain ⟨rfl,t,rfl⟩:=d
 refine ⟨rfl,rfl,rfl,rfl,mb.of ?_,?_,λb a=>?_⟩
 ·unfold Go.Lib.bytesWorld World.freeze; split <;> exact fi _
 ·rw [Go.Lib.bytesWorld_size]; omega
 ·exact Go.Lib.bytesWorld_at_old w _ t b a
theorem Bi {P:Program} {ρ:Go.Shelf.Ren} (L:Go.Proofs.Lays.n138 P ρ) (d:P.globalNamed "internal/bytealg.MaxLen"=some (ρ.g 1)) {f:FuncId} (c:ρ.f 138=f) {s sub:ByteArray} {r:Int} {w:World} (i:yh P (hp w)) (hm:sv s sub=some r):gz true P f [.string s,.string sub] w (.int .i64 r):=by
 unfold sv at hm
 split at hm
 case isFalse=>cases hm
 rename_i h
 cases hm
 subst c
 obtain ⟨m,a⟩:=xZ d i
 refine bk (Go.Proofs.Any.strings_Count_any L s sub m w h.1 a h.2) λe W j=>?_
 obtain ⟨rfl,rfl⟩:=j
 exact ⟨rfl,Ex.refl _⟩
theorem Bn {P:Program} {ρ:Go.Shelf.Ren} (L:Go.Proofs.Lays.n146 P ρ) (d:(P.info? (ρ.t 9)).map (λi=>(i.zero,i.size,i.bytes))=some (some (.string ByteArray.empty),1,16)) (p:P.globalNamed "internal/bytealg.MaxLen"=some (ρ.g 1)) {f:FuncId} (n:ρ.f 146=f) {s sep:ByteArray} {r:List ByteArray} {w:World} (q:yh P (hp w)) (hm:se s sep=some r) :
  iF true P f [.string s,.string sep] w (ρ.t 9) lN 1 r:=by
 unfold se at hm
 split at hm
 case isFalse=>cases hm
 rename_i h
 cases hm
 subst n
 obtain ⟨m,k⟩:=xZ p q
 refine bk (Go.Proofs.Any.strings_Split L d s sep m w h.1 k h.2) λe W u=>?_
 obtain ⟨rfl,rfl⟩:=u
 have a:=Go.Lib.splitB_all sep h.2 0 (Go.Lib.countB s sep) s rfl
 have hle:=Go.Lib.countB_le sep h.2 s.size s (bl _)
 have c:∀l:List ByteArray,(l.map lN).flatten=l.map Value.string:=λl=>by
  induction l with
  | nil=>rfl
  | cons x l ih=>rw [aY,bU,ih]; rfl
 refine ⟨_,[(w.heap.size,.cells ((Go.Lib.splitB sep 0 (Go.Lib.countB s sep) s).map Value.string).toArray (ρ.t 9) (0,0))],rfl,ma.FY (Ex.alloc w _) (λb o j=>?_) (by simp),.inr ⟨w.heap.size,Go.Lib.countB s sep+1,_,by rw [a],rfl,by rw [a]; exact bl _,by unfold maxLen; omega,by simp [a],?_⟩⟩
 ·simp at j; obtain ⟨rfl,rfl⟩:=j
  exact ⟨by show (w.heap.push _)[w.heap.size]? =_; simp,bl _⟩
 ·rw [c,cC (by simp [a])]
end Go.Proofs.YtjjjihkifgdhgaaGreatDoor
namespace Go.Proofs.YtjjjihkifgdhgaaGreatDoor
open Go.IntKind renaming wrap → wi0
def cN:=@Tryz.underlying3
def cO:=@Tryz.underlying4
def cP:=@Tryz.underlying5
def cQ:=@Tryz.underlying9
def cR:=@Tryz.underlying271
def cS:=@Tryz.underlying332
def cX:=@Tryz.zeroValue271
def cY:=@Tryz.zeroValue332
def da:=@Tryz.zeroValue3
def db:=@Tryz.zeroValue4
def de:=@Tryz.zeroValue5
def df:=@Tryz.zeroValue9
def dw:=@Tryz.underlying0
def dx:=@Tryz.sizeOf271
def dy:=@Tryz.sizeOf332
def dz:=@Tryz.sizeOf3
def dA:=@Tryz.sizeOf4
def dB:=@Tryz.sizeOf5
def dC:=@Tryz.sizeOf9
def dF:=@Tryz.zeroValue0
def dG:=@Tryz.isAgg271
def dH:=@Tryz.isAgg332
def dP:=@Tryz.isAgg3
def dQ:=@Tryz.isAgg4
def dR:=@Tryz.isAgg5
def dS:=@Tryz.isAgg9
def ec:=@Tryz.underlying364
def ek:=@Tryz.sizeOf0
def en:=@Tryz.zeroValue364
def eJ:=@Tryz.isAgg0
def fa:=@Tryz.underlying272
def fc:=@Tryz.sizeOf364
def fq:=@Tryz.zeroValue272
def ft:=@Tryz.underlying20
def fu:=@Tryz.underlying53
def fy:=@Tryz.isAgg364
def fB:=@Tryz.zeroValue20
def fC:=@Tryz.zeroValue53
def D4:Go.Shelf.Ren:=⟨fun | 6=>224 | 15=>260 | 14=>284 | 28=>319 | 29=>307 | 20=>337 | 21=>338 | 22=>339 | 23=>340 | 24=>341 | 25=>342 | 26=>343 | 27=>344 | 46=>368 | 47=>357 | 48=>358 | 49=>369 | 50=>370 | 57=>381 | n=>n,fun | 22=>65 | 24=>27 | 25=>140 | 3=>3 | 39=>271 | 0=>0 | 53=>332 | 55=>272 | 4=>4 | 46=>336 | 45=>335 | 50=>340 | 5=>5 | 9=>9 | 66=>371 | 70=>375 | 76=>392 | 77=>248 | n=>n,fun | n=>n⟩
theorem G5:Go.Proofs.SlLaysF0.n6 Tryz.prog D4:={
 mixed:=by kernel_rfl,
 f6:=⟨Tryz.f224.name,by decide,Tryz.func224.trans (aC some (by kernel_rfl))⟩,
 f14:=⟨Tryz.f284.name,by decide,Tryz.func284.trans (aC some (by kernel_rfl))⟩,
 f15:=Tryz.func260.trans (aC some (by kernel_rfl)),
 f20:=⟨Tryz.f337.name,by decide,Tryz.func337.trans (aC some (by kernel_rfl))⟩,
 f21:=⟨Tryz.f338.name,by decide,Tryz.func338.trans (aC some (by kernel_rfl))⟩,
 f22:=⟨Tryz.f339.name,by decide,Tryz.func339.trans (aC some (by kernel_rfl))⟩,
 f23:=⟨Tryz.f340.name,by decide,Tryz.func340.trans (aC some (by kernel_rfl))⟩,
 f24:=⟨Tryz.f341.name,by decide,Tryz.func341.trans (aC some (by kernel_rfl))⟩,
 f25:=⟨Tryz.f342.name,by decide,Tryz.func342.trans (aC some (by kernel_rfl))⟩,
 f26:=⟨Tryz.f343.name,by decide,Tryz.func343.trans (aC some (by kernel_rfl))⟩,
 f27:=⟨Tryz.f344.name,by decide,Tryz.func344.trans (aC some (by kernel_rfl))⟩,
 f28:=Tryz.func319.trans (aC some (by kernel_rfl)),
 f29:=Tryz.func307.trans (aC some (by kernel_rfl)),
 f46:=⟨Tryz.f368.name,by decide,Tryz.func368.trans (aC some (by kernel_rfl))⟩,
 f47:=Tryz.func357.trans (aC some (by kernel_rfl)),
 f48:=Tryz.func358.trans (aC some (by kernel_rfl)),
 f49:=⟨Tryz.f369.name,by decide,Tryz.func369.trans (aC some (by kernel_rfl))⟩,
 f50:=⟨Tryz.f370.name,by decide,Tryz.func370.trans (aC some (by kernel_rfl))⟩,
 f57:=⟨Tryz.f381.name,by decide,Tryz.func381.trans (aC some (by kernel_rfl))⟩,
 t0:=dw,
 a0:=eJ,
 z0:=ek,
 v0:=dF,
 t3:=cN,
 a3:=dP,
 z3:=dz,
 v3:=da,
 t4:=cO,
 a4:=dQ,
 z4:=dA,
 v4:=db,
 t5:=cP,
 a5:=dR,
 z5:=dB,
 v5:=de,
 t9:=cQ,
 a9:=dS,
 z9:=dC,
 v9:=df,
 t22:=Tryz.underlying65,
 a22:=Tryz.isAgg65,
 z22:=Tryz.sizeOf65,
 v22:=Tryz.zeroValue65,
 t25:=Tryz.underlying140,
 a25:=Tryz.isAgg140,
 z25:=Tryz.sizeOf140,
 v25:=Tryz.zeroValue140,
 t39:=cR,
 a39:=dG,
 z39:=dx,
 v39:=cX,
 t45:=Tryz.underlying335,
 a45:=Tryz.isAgg335,
 z45:=Tryz.sizeOf335,
 v45:=Tryz.zeroValue335,
 t46:=Tryz.underlying336,
 a46:=Tryz.isAgg336,
 z46:=Tryz.sizeOf336,
 v46:=Tryz.zeroValue336,
 t50:=Tryz.underlying340,
 a50:=Tryz.isAgg340,
 z50:=Tryz.sizeOf340,
 v50:=Tryz.zeroValue340,
 t53:=cS,
 a53:=dH,
 z53:=dy,
 v53:=cY,
 t55:=fa,
 a55:=Tryz.isAgg272,
 z55:=Tryz.sizeOf272,
 v55:=fq,
 t66:=Tryz.underlying371,
 a66:=Tryz.isAgg371,
 z66:=Tryz.sizeOf371,
 v66:=Tryz.zeroValue371,
 t70:=Tryz.underlying375,
 a70:=Tryz.isAgg375,
 z70:=Tryz.sizeOf375,
 v70:=Tryz.zeroValue375,
 t76:=Tryz.underlying392,
 a76:=Tryz.isAgg392,
 z76:=Tryz.sizeOf392,
 v76:=Tryz.zeroValue392,
 t77:=Tryz.underlying248,
 a77:=Tryz.isAgg248,
 z77:=Tryz.sizeOf248,
 v77:=Tryz.zeroValue248}
def Hs:Go.Shelf.Ren:=⟨fun | 171=>50 | 243=>122 | 246=>190 | 283=>250 | 284=>251 | 285=>252 | 286=>253 | 129=>307 | 317=>306 | 318=>308 | 319=>309 | 320=>310 | 337=>354 | 338=>355 | n=>n,fun | 3=>3 | 9=>9 | 2=>2 | 4=>4 | 171=>291 | 0=>0 | 53=>272 | 37=>53 | 5=>5 | 173=>294 | 212=>331 | 51=>332 | 20=>20 | 213=>333 | 46=>271 | 232=>390 | 233=>391 | n=>n,fun | 17=>3 | 18=>4 | 19=>5 | n=>n⟩
theorem Hw:Go.Proofs.LaysM.n171 Tryz.prog Hs:={
 mixed:=by kernel_rfl,
 f129:=Tryz.func307.trans (aC some (by kernel_rfl)),
 f171:=Tryz.func50.trans (aC some (by kernel_rfl)),
 f243:=Tryz.func122.trans (aC some (by kernel_rfl)),
 f246:=Tryz.func190.trans (aC some (by kernel_rfl)),
 f283:=Tryz.func250.trans (aC some (by kernel_rfl)),
 f284:=Tryz.func251.trans (aC some (by kernel_rfl)),
 f285:=Tryz.func252.trans (aC some (by kernel_rfl)),
 f286:=Tryz.func253.trans (aC some (by kernel_rfl)),
 f317:=Tryz.func306.trans (aC some (by kernel_rfl)),
 f318:=Tryz.func308.trans (aC some (by kernel_rfl)),
 f319:=Tryz.func309.trans (aC some (by kernel_rfl)),
 f320:=Tryz.func310.trans (aC some (by kernel_rfl)),
 f337:=Tryz.func354.trans (aC some (by kernel_rfl)),
 f338:=Tryz.func355.trans (aC some (by kernel_rfl)),
 t0:=dw,
 a0:=eJ,
 z0:=ek,
 v0:=dF,
 t2:=Tryz.underlying2,
 a2:=Tryz.isAgg2,
 z2:=Tryz.sizeOf2,
 v2:=Tryz.zeroValue2,
 t3:=cN,
 a3:=dP,
 z3:=dz,
 v3:=da,
 t4:=cO,
 a4:=dQ,
 z4:=dA,
 v4:=db,
 t5:=cP,
 a5:=dR,
 z5:=dB,
 v5:=de,
 t9:=cQ,
 a9:=dS,
 z9:=dC,
 v9:=df,
 t20:=ft,
 a20:=Tryz.isAgg20,
 z20:=Tryz.sizeOf20,
 v20:=fB,
 t37:=fu,
 a37:=Tryz.isAgg53,
 z37:=Tryz.sizeOf53,
 v37:=fC,
 t46:=cR,
 a46:=dG,
 z46:=dx,
 v46:=cX,
 t51:=cS,
 a51:=dH,
 z51:=dy,
 v51:=cY,
 t53:=fa,
 a53:=Tryz.isAgg272,
 z53:=Tryz.sizeOf272,
 v53:=fq,
 t171:=Tryz.underlying291,
 a171:=Tryz.isAgg291,
 z171:=Tryz.sizeOf291,
 v171:=Tryz.zeroValue291,
 t173:=Tryz.underlying294,
 a173:=Tryz.isAgg294,
 z173:=Tryz.sizeOf294,
 v173:=Tryz.zeroValue294,
 t212:=Tryz.underlying331,
 a212:=Tryz.isAgg331,
 z212:=Tryz.sizeOf331,
 v212:=Tryz.zeroValue331,
 t213:=Tryz.underlying333,
 a213:=Tryz.isAgg333,
 z213:=Tryz.sizeOf333,
 t232:=Tryz.underlying390,
 a232:=Tryz.isAgg390,
 z232:=Tryz.sizeOf390,
 v232:=Tryz.zeroValue390,
 t233:=Tryz.underlying391,
 a233:=Tryz.isAgg391,
 z233:=Tryz.sizeOf391,
 v233:=Tryz.zeroValue391,
 g17:=by kernel_rfl,
 g18:=by kernel_rfl,
 g19:=by kernel_rfl,
 i0:=by kernel_rfl,
 i2:=by kernel_rfl,
 i3:=by kernel_rfl,
 i4:=by kernel_rfl,
 i5:=by kernel_rfl,
 i9:=by kernel_rfl,
 i20:=by kernel_rfl,
 i37:=by kernel_rfl,
 i46:=by kernel_rfl,
 i51:=by kernel_rfl,
 i53:=by kernel_rfl,
 i171:=by kernel_rfl,
 i173:=by kernel_rfl,
 i212:=by kernel_rfl,
 i232:=by kernel_rfl,
 i233:=by kernel_rfl,
 m17:=by kernel_rfl,
 m18:=by kernel_rfl,
 m19:=by kernel_rfl}
def Cq:Go.Shelf.Ren:=⟨fun | 156=>209 | 165=>268 | 166=>49 | 169=>51 | 240=>121 | 241=>325 | 276=>189 | 277=>364 | n=>n,fun | 31=>152 | 9=>9 | 3=>3 | 4=>4 | 0=>0 | 20=>20 | 72=>93 | 76=>96 | 70=>91 | 37=>53 | 75=>95 | 127=>179 | 164=>233 | 5=>5 | 80=>99 | n=>n,fun | n=>n⟩
theorem GD:Go.Proofs.Lays.n156 Tryz.prog Cq:={
 mixed:=by kernel_rfl,
 f156:=Tryz.func209.trans (aC some (by kernel_rfl)),
 f165:=Tryz.func268.trans (aC some (by kernel_rfl)),
 f166:=Tryz.func49.trans (aC some (by kernel_rfl)),
 f169:=Tryz.func51.trans (aC some (by kernel_rfl)),
 f240:=Tryz.func121.trans (aC some (by kernel_rfl)),
 f241:=Tryz.func325.trans (aC some (by kernel_rfl)),
 f276:=Tryz.func189.trans (aC some (by kernel_rfl)),
 f277:=Tryz.func364.trans (aC some (by kernel_rfl)),
 t0:=dw,
 a0:=eJ,
 z0:=ek,
 v0:=dF,
 t3:=cN,
 a3:=dP,
 z3:=dz,
 v3:=da,
 t4:=cO,
 a4:=dQ,
 z4:=dA,
 v4:=db,
 t9:=cQ,
 a9:=dS,
 z9:=dC,
 v9:=df,
 t20:=ft,
 a20:=Tryz.isAgg20,
 z20:=Tryz.sizeOf20,
 v20:=fB,
 t31:=Tryz.underlying152,
 a31:=Tryz.isAgg152,
 z31:=Tryz.sizeOf152,
 v31:=Tryz.zeroValue152,
 t37:=fu,
 a37:=Tryz.isAgg53,
 z37:=Tryz.sizeOf53,
 v37:=fC,
 t70:=Tryz.underlying91,
 a70:=Tryz.isAgg91,
 z70:=Tryz.sizeOf91,
 v70:=Tryz.zeroValue91,
 t72:=Tryz.underlying93,
 a72:=Tryz.isAgg93,
 z72:=Tryz.sizeOf93,
 v72:=Tryz.zeroValue93,
 t75:=Tryz.underlying95,
 a75:=Tryz.isAgg95,
 z75:=Tryz.sizeOf95,
 v75:=Tryz.zeroValue95,
 t76:=Tryz.underlying96,
 a76:=Tryz.isAgg96,
 z76:=Tryz.sizeOf96,
 v76:=Tryz.zeroValue96,
 t127:=Tryz.underlying179,
 a127:=Tryz.isAgg179,
 z127:=Tryz.sizeOf179,
 v127:=Tryz.zeroValue179,
 t164:=Tryz.underlying233,
 a164:=Tryz.isAgg233,
 z164:=Tryz.sizeOf233,
 v164:=Tryz.zeroValue233}
theorem IX:Go.Proofs.Builder.Extra Tryz.prog Cq:={
 sizeBuilder:=by kernel_rfl,
 liesBuilder:=by kernel_rfl,
 t5:=cP,
 a5:=dR,
 z5:=dB,
 v5:=de,
 infoByte:=by kernel_rfl,
 cellsByte:=by kernel_rfl,
 sizeByte:=by kernel_rfl,
 neB5:=by decide}
def B4:Go.Shelf.Ren:=⟨fun | 145=>105 | 220=>175 | 219=>236 | 217=>220 | 225=>291 | 224=>292 | 267=>293 | 266=>282 | 314=>348 | n=>n,fun | 9=>9 | 4=>4 | 59=>161 | 3=>3 | 5=>5 | 46=>271 | 146=>364 | 51=>332 | n=>n,fun | 1=>0 | n=>n⟩
theorem GH:Go.Proofs.Lays.n145 Tryz.prog B4:={
 mixed:=by kernel_rfl,
 f145:=Tryz.func105.trans (aC some (by kernel_rfl)),
 f217:=Tryz.func220.trans (aC some (by kernel_rfl)),
 f219:=Tryz.func236.trans (aC some (by kernel_rfl)),
 f220:=Tryz.func175.trans (aC some (by kernel_rfl)),
 f224:=Tryz.func292.trans (aC some (by kernel_rfl)),
 f225:=Tryz.func291.trans (aC some (by kernel_rfl)),
 f266:=Tryz.func282.trans (aC some (by kernel_rfl)),
 f267:=Tryz.func293.trans (aC some (by kernel_rfl)),
 f314:=Tryz.func348.trans (aC some (by kernel_rfl)),
 t3:=cN,
 a3:=dP,
 z3:=dz,
 v3:=da,
 t4:=cO,
 a4:=dQ,
 z4:=dA,
 v4:=db,
 t5:=cP,
 a5:=dR,
 z5:=dB,
 v5:=de,
 t9:=cQ,
 a9:=dS,
 z9:=dC,
 v9:=df,
 t46:=cR,
 a46:=dG,
 z46:=dx,
 v46:=cX,
 t51:=cS,
 a51:=dH,
 z51:=dy,
 v51:=cY,
 t59:=Tryz.underlying161,
 a59:=Tryz.isAgg161,
 z59:=Tryz.sizeOf161,
 v59:=Tryz.zeroValue161,
 t146:=ec,
 a146:=fy,
 z146:=fc,
 v146:=en,
 g1:=by kernel_rfl}
def BR:Go.Shelf.Ren:=⟨fun | 146=>286 | 221=>345 | 268=>371 | 138=>347 | 143=>372 | 195=>373 | 197=>382 | 218=>374 | 219=>236 | 260=>388 | 217=>220 | 225=>291 | 224=>292 | 267=>293 | 266=>282 | 314=>348 | n=>n,fun | 9=>9 | 31=>152 | 3=>3 | 4=>4 | 0=>0 | 105=>396 | 21=>21 | 5=>5 | 46=>271 | 119=>409 | 139=>412 | 138=>411 | 146=>364 | 51=>332 | n=>n,fun | 1=>0 | 3=>6 | 4=>7 | n=>n⟩
theorem GL:Go.Proofs.Lays.n146 Tryz.prog BR:={
 mixed:=by kernel_rfl,
 f138:=Tryz.func347.trans (aC some (by kernel_rfl)),
 f143:=Tryz.func372.trans (aC some (by kernel_rfl)),
 f146:=Tryz.func286.trans (aC some (by kernel_rfl)),
 f195:=Tryz.func373.trans (aC some (by kernel_rfl)),
 f197:=Tryz.func382.trans (aC some (by kernel_rfl)),
 f217:=Tryz.func220.trans (aC some (by kernel_rfl)),
 f218:=Tryz.func374.trans (aC some (by kernel_rfl)),
 f219:=Tryz.func236.trans (aC some (by kernel_rfl)),
 f221:=Tryz.func345.trans (aC some (by kernel_rfl)),
 f224:=Tryz.func292.trans (aC some (by kernel_rfl)),
 f225:=Tryz.func291.trans (aC some (by kernel_rfl)),
 f260:=Tryz.func388.trans (aC some (by kernel_rfl)),
 f266:=Tryz.func282.trans (aC some (by kernel_rfl)),
 f267:=Tryz.func293.trans (aC some (by kernel_rfl)),
 f268:=Tryz.func371.trans (aC some (by kernel_rfl)),
 f314:=Tryz.func348.trans (aC some (by kernel_rfl)),
 t0:=dw,
 a0:=eJ,
 z0:=ek,
 v0:=dF,
 t3:=cN,
 a3:=dP,
 z3:=dz,
 v3:=da,
 t4:=cO,
 a4:=dQ,
 z4:=dA,
 v4:=db,
 t5:=cP,
 a5:=dR,
 z5:=dB,
 v5:=de,
 t9:=cQ,
 a9:=dS,
 z9:=dC,
 v9:=df,
 t21:=Tryz.underlying21,
 a21:=Tryz.isAgg21,
 z21:=Tryz.sizeOf21,
 v21:=Tryz.zeroValue21,
 t31:=Tryz.underlying152,
 a31:=Tryz.isAgg152,
 z31:=Tryz.sizeOf152,
 v31:=Tryz.zeroValue152,
 t46:=cR,
 a46:=dG,
 z46:=dx,
 v46:=cX,
 t51:=cS,
 a51:=dH,
 z51:=dy,
 v51:=cY,
 t105:=Tryz.underlying396,
 a105:=Tryz.isAgg396,
 z105:=Tryz.sizeOf396,
 v105:=Tryz.zeroValue396,
 t119:=Tryz.underlying409,
 a119:=Tryz.isAgg409,
 z119:=Tryz.sizeOf409,
 t138:=Tryz.underlying411,
 a138:=Tryz.isAgg411,
 z138:=Tryz.sizeOf411,
 v138:=Tryz.zeroValue411,
 t139:=Tryz.underlying412,
 a139:=Tryz.isAgg412,
 z139:=Tryz.sizeOf412,
 v139:=Tryz.zeroValue412,
 t146:=ec,
 a146:=fy,
 z146:=fc,
 v146:=en,
 g1:=by kernel_rfl,
 g3:=by kernel_rfl,
 g4:=by kernel_rfl}
def Cg:Go.Shelf.Ren:=⟨fun | 138=>347 | 195=>373 | 218=>374 | 143=>372 | 219=>236 | 217=>220 | 225=>291 | 224=>292 | 267=>293 | 266=>282 | 314=>348 | n=>n,fun | 9=>9 | 3=>3 | 4=>4 | 5=>5 | 0=>0 | 46=>271 | 146=>364 | 51=>332 | n=>n,fun | 1=>0 | n=>n⟩
theorem GN:Go.Proofs.Lays.n138 Tryz.prog Cg:={
 mixed:=by kernel_rfl,
 f138:=Tryz.func347.trans (aC some (by kernel_rfl)),
 f143:=Tryz.func372.trans (aC some (by kernel_rfl)),
 f195:=Tryz.func373.trans (aC some (by kernel_rfl)),
 f217:=Tryz.func220.trans (aC some (by kernel_rfl)),
 f218:=Tryz.func374.trans (aC some (by kernel_rfl)),
 f219:=Tryz.func236.trans (aC some (by kernel_rfl)),
 f224:=Tryz.func292.trans (aC some (by kernel_rfl)),
 f225:=Tryz.func291.trans (aC some (by kernel_rfl)),
 f266:=Tryz.func282.trans (aC some (by kernel_rfl)),
 f267:=Tryz.func293.trans (aC some (by kernel_rfl)),
 f314:=Tryz.func348.trans (aC some (by kernel_rfl)),
 t0:=dw,
 a0:=eJ,
 z0:=ek,
 v0:=dF,
 t3:=cN,
 a3:=dP,
 z3:=dz,
 v3:=da,
 t4:=cO,
 a4:=dQ,
 z4:=dA,
 v4:=db,
 t5:=cP,
 a5:=dR,
 z5:=dB,
 v5:=de,
 t9:=cQ,
 a9:=dS,
 z9:=dC,
 v9:=df,
 t46:=cR,
 a46:=dG,
 z46:=dx,
 v46:=cX,
 t51:=cS,
 a51:=dH,
 z51:=dy,
 v51:=cY,
 t146:=ec,
 a146:=fy,
 z146:=fc,
 v146:=en,
 g1:=by kernel_rfl}
def GC:Go.Shelf.Ren:=⟨fun | 148=>229 | 222=>287 | 223=>288 | 269=>346 | n=>n,fun | 9=>9 | 3=>3 | 4=>4 | 5=>5 | 146=>364 | 51=>332 | 46=>271 | n=>n,fun | n=>n⟩
theorem Gs:Go.Proofs.Lays.n148 Tryz.prog GC:={
 mixed:=by kernel_rfl,
 f148:=Tryz.func229.trans (aC some (by kernel_rfl)),
 f222:=Tryz.func287.trans (aC some (by kernel_rfl)),
 f223:=Tryz.func288.trans (aC some (by kernel_rfl)),
 f269:=Tryz.func346.trans (aC some (by kernel_rfl)),
 t3:=cN,
 a3:=dP,
 z3:=dz,
 v3:=da,
 t4:=cO,
 a4:=dQ,
 z4:=dA,
 v4:=db,
 t5:=cP,
 a5:=dR,
 z5:=dB,
 v5:=de,
 t9:=cQ,
 a9:=dS,
 z9:=dC,
 v9:=df,
 t46:=cR,
 a46:=dG,
 z46:=dx,
 v46:=cX,
 t51:=cS,
 a51:=dH,
 z51:=dy,
 v51:=cY,
 t146:=ec,
 a146:=fy,
 z146:=fc,
 v146:=en}
def Gf:Go.Shelf.Ren:=⟨fun | 172=>106 | 244=>176 | 245=>177 | 247=>237 | 279=>238 | 280=>239 | 281=>240 | 282=>241 | 287=>294 | 316=>295 | 171=>50 | 205=>296 | 321=>349 | 322=>350 | 243=>122 | 246=>190 | 283=>250 | 284=>251 | 285=>252 | 286=>253 | 129=>307 | 317=>306 | 318=>308 | 319=>309 | 320=>310 | 337=>354 | 338=>355 | n=>n,fun | 9=>9 | 3=>3 | 75=>95 | 76=>96 | 4=>4 | 5=>5 | 167=>277 | 37=>53 | 0=>0 | 85=>278 | 2=>2 | 168=>280 | 53=>272 | 175=>319 | 46=>271 | 210=>323 | 127=>179 | 145=>369 | 143=>367 | 21=>21 | 171=>291 | 173=>294 | 212=>331 | 51=>332 | 20=>20 | 213=>333 | 232=>390 | 233=>391 | 80=>99 | n=>n,fun | 15=>1 | 16=>2 | 17=>3 | 18=>4 | 19=>5 | n=>n⟩
theorem GO:Go.Proofs.Lays.n172 Tryz.prog Gf:={
 mixed:=by kernel_rfl,
 f129:=Tryz.func307.trans (aC some (by kernel_rfl)),
 f171:=Tryz.func50.trans (aC some (by kernel_rfl)),
 f172:=Tryz.func106.trans (aC some (by kernel_rfl)),
 f205:=Tryz.func296.trans (aC some (by kernel_rfl)),
 f243:=Tryz.func122.trans (aC some (by kernel_rfl)),
 f244:=Tryz.func176.trans (aC some (by kernel_rfl)),
 f245:=Tryz.func177.trans (aC some (by kernel_rfl)),
 f246:=Tryz.func190.trans (aC some (by kernel_rfl)),
 f247:=Tryz.func237.trans (aC some (by kernel_rfl)),
 f279:=Tryz.func238.trans (aC some (by kernel_rfl)),
 f280:=Tryz.func239.trans (aC some (by kernel_rfl)),
 f281:=Tryz.func240.trans (aC some (by kernel_rfl)),
 f282:=Tryz.func241.trans (aC some (by kernel_rfl)),
 f283:=Tryz.func250.trans (aC some (by kernel_rfl)),
 f284:=Tryz.func251.trans (aC some (by kernel_rfl)),
 f285:=Tryz.func252.trans (aC some (by kernel_rfl)),
 f286:=Tryz.func253.trans (aC some (by kernel_rfl)),
 f287:=Tryz.func294.trans (aC some (by kernel_rfl)),
 f316:=Tryz.func295.trans (aC some (by kernel_rfl)),
 f317:=Tryz.func306.trans (aC some (by kernel_rfl)),
 f318:=Tryz.func308.trans (aC some (by kernel_rfl)),
 f319:=Tryz.func309.trans (aC some (by kernel_rfl)),
 f320:=Tryz.func310.trans (aC some (by kernel_rfl)),
 f321:=Tryz.func349.trans (aC some (by kernel_rfl)),
 f322:=Tryz.func350.trans (aC some (by kernel_rfl)),
 f337:=Tryz.func354.trans (aC some (by kernel_rfl)),
 f338:=Tryz.func355.trans (aC some (by kernel_rfl)),
 t0:=dw,
 a0:=eJ,
 z0:=ek,
 v0:=dF,
 t2:=Tryz.underlying2,
 a2:=Tryz.isAgg2,
 z2:=Tryz.sizeOf2,
 v2:=Tryz.zeroValue2,
 t3:=cN,
 a3:=dP,
 z3:=dz,
 v3:=da,
 t4:=cO,
 a4:=dQ,
 z4:=dA,
 v4:=db,
 t5:=cP,
 a5:=dR,
 z5:=dB,
 v5:=de,
 t9:=cQ,
 a9:=dS,
 z9:=dC,
 v9:=df,
 t20:=ft,
 a20:=Tryz.isAgg20,
 z20:=Tryz.sizeOf20,
 v20:=fB,
 t21:=Tryz.underlying21,
 a21:=Tryz.isAgg21,
 z21:=Tryz.sizeOf21,
 v21:=Tryz.zeroValue21,
 t37:=fu,
 a37:=Tryz.isAgg53,
 z37:=Tryz.sizeOf53,
 v37:=fC,
 t46:=cR,
 a46:=dG,
 z46:=dx,
 v46:=cX,
 t51:=cS,
 a51:=dH,
 z51:=dy,
 v51:=cY,
 t53:=fa,
 a53:=Tryz.isAgg272,
 z53:=Tryz.sizeOf272,
 v53:=fq,
 t75:=Tryz.underlying95,
 a75:=Tryz.isAgg95,
 z75:=Tryz.sizeOf95,
 v75:=Tryz.zeroValue95,
 t76:=Tryz.underlying96,
 a76:=Tryz.isAgg96,
 z76:=Tryz.sizeOf96,
 v76:=Tryz.zeroValue96,
 t85:=Tryz.underlying278,
 a85:=Tryz.isAgg278,
 z85:=Tryz.sizeOf278,
 v85:=Tryz.zeroValue278,
 t127:=Tryz.underlying179,
 a127:=Tryz.isAgg179,
 z127:=Tryz.sizeOf179,
 v127:=Tryz.zeroValue179,
 t143:=Tryz.underlying367,
 a143:=Tryz.isAgg367,
 z143:=Tryz.sizeOf367,
 v143:=Tryz.zeroValue367,
 t145:=Tryz.underlying369,
 a145:=Tryz.isAgg369,
 z145:=Tryz.sizeOf369,
 v145:=Tryz.zeroValue369,
 t167:=Tryz.underlying277,
 a167:=Tryz.isAgg277,
 z167:=Tryz.sizeOf277,
 v167:=Tryz.zeroValue277,
 t168:=Tryz.underlying280,
 a168:=Tryz.isAgg280,
 z168:=Tryz.sizeOf280,
 v168:=Tryz.zeroValue280,
 t171:=Tryz.underlying291,
 a171:=Tryz.isAgg291,
 z171:=Tryz.sizeOf291,
 v171:=Tryz.zeroValue291,
 t173:=Tryz.underlying294,
 a173:=Tryz.isAgg294,
 z173:=Tryz.sizeOf294,
 v173:=Tryz.zeroValue294,
 t175:=Tryz.underlying319,
 a175:=Tryz.isAgg319,
 z175:=Tryz.sizeOf319,
 v175:=Tryz.zeroValue319,
 t210:=Tryz.underlying323,
 a210:=Tryz.isAgg323,
 z210:=Tryz.sizeOf323,
 v210:=Tryz.zeroValue323,
 t212:=Tryz.underlying331,
 a212:=Tryz.isAgg331,
 z212:=Tryz.sizeOf331,
 v212:=Tryz.zeroValue331,
 t213:=Tryz.underlying333,
 a213:=Tryz.isAgg333,
 z213:=Tryz.sizeOf333,
 t232:=Tryz.underlying390,
 a232:=Tryz.isAgg390,
 z232:=Tryz.sizeOf390,
 v232:=Tryz.zeroValue390,
 t233:=Tryz.underlying391,
 a233:=Tryz.isAgg391,
 z233:=Tryz.sizeOf391,
 v233:=Tryz.zeroValue391,
 g15:=by kernel_rfl,
 g16:=by kernel_rfl,
 g17:=by kernel_rfl,
 g18:=by kernel_rfl,
 g19:=by kernel_rfl}
theorem H8:Tryz.prog.globalNamed "internal/bytealg.MaxLen"=some (B4.g 1):=by kernel_rfl
theorem Iw:Tryz.prog.globalNamed "internal/bytealg.MaxLen"=some (BR.g 1):=by kernel_rfl
theorem Il:Tryz.prog.globalNamed "internal/bytealg.MaxLen"=some (Cg.g 1):=by kernel_rfl
end Go.Proofs.YtjjjihkifgdhgaaGreatDoor
namespace Go.Proofs.YtjjjihkifgdhgaaGreatDoor
open Go.IntKind renaming wrap → wi0
open Go.RowKit
set_option maxRecDepth 10000
noncomputable section
structure fQ where
 fX:ByteArray
 Word:ByteArray
def fS (x:fQ):List Value:=[.string x.fX,.string x.Word]
def gW (x y:fQ):Bool:=(gS x.fX y.fX)&&((gS x.Word y.Word)&&true)
theorem lC {x y:fQ}:gW x y=true↔x=y:=by
 cases x; cases y; simp [gW,kd]
theorem jl (x:fQ):(fS x).length=2:=rfl
theorem iH (x:fQ):∀u∈fS x,u.oneCell'=true:=by
 intro u hu
 simp only [fS,aS,dh,fA] at hu
 rcases hu with rfl | rfl <;> rfl
structure fP where
 Kind:Int
 Head:fQ
 ir:ByteArray
 B:fQ
 C:fQ
 gT:ByteArray
def gb (x:fP):List Value:=[.int .i64 x.Kind,.string x.Head.fX,.string x.Head.Word,.string x.ir,.string x.B.fX,.string x.B.Word,.string x.C.fX,.string x.C.Word,.string x.gT]
def lQ (x y:fP):Bool:=(x.Kind==y.Kind)&&((gW x.Head y.Head)&&((gS x.ir y.ir)&&((gW x.B y.B)&&((gW x.C y.C)&&((gS x.gT y.gT)&&true)))))
theorem Bw {x y:fP}:lQ x y=true↔x=y:=by
 cases x; cases y; simp [lQ,kd,lC]
theorem GR (x:fP):(gb x).length=9:=rfl
theorem lp (x:fP):∀u∈gb x,u.oneCell'=true:=by
 intro u hu
 simp only [gb,aS,dh,fA] at hu
 rcases hu with rfl | rfl | rfl | rfl | rfl | rfl | rfl | rfl | rfl <;> rfl
structure jD where
 fQ:fQ
 ir:ByteArray
structure Gp where
 Ju:Int
 Jt:Int
structure iw where
 e:Int
structure Key where
 ir:ByteArray
 Key:List Int
structure Signed where
 fP:fP
 Tag:List Int
structure Formula where
 Op:Int
 K:Int
 fQ:fQ
 Kids:List Formula
structure kk where
 Signed:Signed
 pc:Formula
structure oF where
 fQ:fQ
 pc:Formula
 qR:List fP
structure nX where
 Name:ByteArray
 qY:List kk
 uv:List oF
structure Ay where
 fX:nX
 Client:nX
 Formula:Formula
 gY:Int
 F8:Gp
 BP:Int
 F0:Int
 Ed:Int
 Keys:List Key
structure ie where
 Kind:Int
 gY:Int
 E:Int
 Name:ByteArray
 gA:List fQ
 gv:List Signed
def iS (a0:ByteArray) (a:Int):Option Int :=
 some (ni a0 a)
def ji (a0:ByteArray) (a:Int):Option Int :=
 ((iS a0 a).bind λc=>some c)
def nA :List Int→Option Bool
 | []=>some true
 | d::a=>((ji (⟨#[97,98,99,100,101,102,103,104,105,106,107,108,109,110,111,112,113,114,115,116,117,118,119,120,121,122,48,49,50,51,52,53,54,55,56,57,45]⟩:ByteArray) d).bind λc=>(if (decide (c < 0)) then some false else (nA a)))
def ta (a0:ByteArray):Option Bool :=
 ((tS a0).bind λa=>nA a)
def kl (a0:ByteArray):Option Bool :=
 ((if (decide ((a0.size:Int)≥1)) then some (decide ((a0.size:Int)≤16)) else some false).bind λx2=>((if x2 then ((pu a0 0).bind λa=>((ji (⟨#[97,98,99,100,101,102,103,104,105,106,107,108,109,110,111,112,113,114,115,116,117,118,119,120,121,122]⟩:ByteArray) (a.toNat:Int)).bind λd=>some (decide (d≥0)))) else some false).bind λg=>((if g then ((ta a0).bind λc=>some c) else some false).bind λh=>some h)))
def jF (a0:List Int):Option (List Int) :=
 ((ja 1 ([]) a0).bind λa=>some a)
def jB (a0:fQ):Option Bool :=
 ((kl a0.fX).bind λd=>((if d then ((kl a0.Word).bind λa=>some a) else some false).bind λc=>some c))
def kx (a0 a:ByteArray):Option Int :=
 some (nc a0 a)
def nv (a0 a:ByteArray):Option Int :=
 ((kx a0 a).bind λc=>some c)
def oJ :List Int→Option Int
 | []=>some 0
 | a::c=>(if (a != 0) then some a else (oJ c))
def sf (a0:List Int):Option Int :=
 oJ a0
def lj (a0 g:fQ):Option Int :=
 ((nv a0.fX g.fX).bind λa=>((nv a0.Word g.Word).bind λc=>((sf ([a,c])).bind λd=>some d)))
def jC (a0:fP):Option Bool :=
 ((jB a0.Head).bind λG=>(((if (a0.Kind==1) then ((if G then ((kl a0.ir).bind λc=>some c) else some false).bind λq=>some (Sum.inr (q,(⟨a0.Kind,a0.Head,a0.ir,(⟨zS,zS⟩:fQ),(⟨zS,zS⟩:fQ),zS⟩:fP)))) else (if (a0.Kind==2) then ((if G then ((jB a0.B).bind λd=>some d) else some false).bind λu=>some (Sum.inr (u,(⟨a0.Kind,a0.Head,zS,a0.B,(⟨zS,zS⟩:fQ),zS⟩:fP)))) else (if (a0.Kind==3) then ((if G then ((jB a0.B).bind λh=>some h) else some false).bind λv=>((if v then some (gS a0.B.fX a0.Head.fX) else some false).bind λw=>((if w then ((kl a0.gT).bind λg=>some g) else some false).bind λx=>some (Sum.inr (x,(⟨a0.Kind,a0.Head,zS,a0.B,(⟨zS,zS⟩:fQ),a0.gT⟩:fP)))))) else (if (a0.Kind==4) then ((if G then ((jB a0.B).bind λk=>some k) else some false).bind λy=>((if y then ((jB a0.C).bind λj=>some j) else some false).bind λz=>((if z then ((lj a0.B a0.C).bind λi=>some (decide (i < 0))) else some false).bind λA=>some (Sum.inr (A,(⟨a0.Kind,a0.Head,zS,a0.B,a0.C,zS⟩:fP)))))) else some (Sum.inl false))))):Option (Bool ⊕ (Bool×fP))).bind λs=>match s with | .inl a=>some a | .inr (n,o)=>((if n then some (lQ o a0) else some false).bind λp=>some p)))
def iO :Nat→Int→(List Int)→Option (Bool×(List Int))
 | 0,_,_=>none
 | h+1,a,d=>(if (decide (a≥128)) then ((ja 1 d ([(IntKind.u8.wrap (BitVec.ofInt (IntKind.bits .u8) (IntKind.u8.wrap a) ||| BitVec.ofInt (IntKind.bits .u8) 128).toNat)])).bind λg=>(iO h (Int.fdiv a (2 ^ min (Int.toNat 7) (IntKind.bits .i64))) g)) else ((ja 1 d ([(IntKind.u8.wrap a)])).bind λc=>some (true,c)))
def gI (a:List Int) (c:Int):Option (Bool×(List Int)) :=
 (if (decide (c < 0)) then some (false,a) else iO iq c a)
def jk (a c:List Int):Option (Bool×(List Int)) :=
 (if (decide ((c.length:Int) > 2048)) then some (false,a) else ((gI a (c.length:Int)).bind λg=>((ja 1 g.2 c).bind λd=>some (true,d))))
def lE (a:List Int) (i:ByteArray):Option (Bool×(List Int)) :=
 ((kl i).bind λj=>(((if j then ((tS i).bind λg=>((jk a g).bind λc=>some (c.1,c.2))) else some (false,a)):Option (Bool×(List Int))).bind λ(h,d)=>some (h,d)))
def jN (a:List Int) (h:fQ):Option (Bool×(List Int)) :=
 ((jB h).bind λn=>(((if n then ((lE a h.fX).bind λg=>some (g.1,g.2)) else some (false,a)):Option (Bool×(List Int))).bind λ(j,c)=>(((if j then ((lE c h.Word).bind λd=>some (d.1,d.2)) else some (false,c)):Option (Bool×(List Int))).bind λ(k,i)=>some (k,i))))
def jv (a:List Int):Option (List Int) :=
 ((jF a).bind λc=>some c)
def mE (a0:fP):Option (List Int) :=
 ((jC a0).bind λo=>(if (!o) then some [] else ((gI ([]) a0.Kind).bind λp=>((jN p.2 a0.Head).bind λa=>(((if (a0.Kind==1) then ((lE a.2 a0.ir).bind λg=>some g.2) else (if (a0.Kind==2) then ((jN a.2 a0.B).bind λh=>some h.2) else (if (a0.Kind==3) then ((jN a.2 a0.B).bind λi=>((lE i.2 a0.gT).bind λj=>some j.2)) else (if (a0.Kind==4) then ((jN a.2 a0.B).bind λk=>((jN k.2 a0.C).bind λn=>some n.2)) else some a.2)))):Option (List Int)).bind λc=>((jv c).bind λd=>some d))))))
def oR :List Int→Int→Option Int
 | [],a=>some a
 | d::c,a=>(oR c (IntKind.u64.wrap ((IntKind.u64.wrap (BitVec.ofInt (IntKind.bits .u64) a ^^^ BitVec.ofInt (IntKind.bits .u64) (IntKind.u64.wrap d)).toNat)*1099511628211)))
def oV :List (List Int)→Int→Option Int
 | [],a=>some a
 | d::c,a=>((oR d a).bind λg=>(oV c g))
def vD (a0:List (List Int)):Option Int :=
 oV a0 14695981039346656037
def lU (c:Int):List Int→Nat→(List Int)→Option (List Int)
 | [],_,a=>some a
 | h::d,i68,a=>((kh (decide (0≤(wi0 .i64 (8*(wi0 .i64 (7-(i68:Int)))))))).bind λ_=>((im a (i68:Int)).bind λg=>(lU c d (i68+1) (a.set (Int.toNat (i68:Int)) (IntKind.u8.wrap (Int.fdiv c (2 ^ min (Int.toNat (wi0 .i64 (8*(wi0 .i64 (7-(i68:Int)))))) (IntKind.bits .u64))))))))
def mV (a0 a:List Int):Option Bool :=
 some (gS (nR a0) (nR a))
def vk (a0:List fP):Option (List fP) :=
 ((ja 136 ([]) a0).bind λa=>some a)
def ol (f1:fP→Option Bool):List fP→Nat→Option Int
 | [],_=>some (-1)
 | d::a,i35=>((f1 d).bind λc=>(if c then some (i35:Int) else (ol f1 a (i35+1))))
def sD (a0:List fP) (f1:fP→Option Bool):Option Int :=
 ol f1 a0 0
def nP (f1:fP→Option Bool):Nat→(List fP)→Int→Int→Option (List fP)
 | 0,_,_,_=>none
 | n321+1,c,a,d=>(if (decide (d < (c.length:Int))) then ((((im c d).bind λg=>((f1 g).bind λi=>(if (!i) then ((im c a).bind λk=>some ((c.set (Int.toNat a) g),(wi0 .i64 (a+1)))) else some (c,a)))):Option ((List fP)×Int)).bind λ(h,j)=>(nP f1 n321 h j (wi0 .i64 (d+1)))) else ((kh (decide (0≤a)&&decide (a≤(c.length:Int)))).bind λ_=>((kh (decide (0≤a)&&decide (a≤((jE c (Int.toNat a) (⟨0,(⟨zS,zS⟩:fQ),zS,(⟨zS,zS⟩:fQ),(⟨zS,zS⟩:fQ),zS⟩:fP)).length:Int)))).bind λ_=>some ((jE c (Int.toNat a) (⟨0,(⟨zS,zS⟩:fQ),zS,(⟨zS,zS⟩:fQ),(⟨zS,zS⟩:fQ),zS⟩:fP)).take (Int.toNat a)))))
def sq (a0:List fP) (f1:fP→Option Bool):Option (List fP) :=
 ((sD a0 f1).bind λa=>(if (a==(-1)) then some a0 else nP f1 iq a0 a (wi0 .i64 (a+1))))
def zt (a0:fP):Option Bool :=
 ((jC a0).bind λa=>some (!a))
def qC (a0 a:List Int):Option Int :=
 some (pW a0 a)
def my (a0 g:fP):Option Int :=
 ((mE a0).bind λa=>((mE g).bind λc=>((qC a c).bind λd=>some d)))
def oX (c:Int):Nat→(List fP)→Int→Int→Option ((List fP)×Int)
 | 0,_,_,_=>none
 | i+1,a,d,g=>(if (decide (g < ((a.length-(Int.toNat c):Nat):Int))) then ((((im (a.drop (Int.toNat c)) g).bind λk=>((im (a.drop (Int.toNat c)) (wi0 .i64 (g-1))).bind λn=>(if (!(lQ k n)) then ((im (a.drop (Int.toNat c)) g).bind λo=>((im a d).bind λp=>some ((a.set (Int.toNat d) o),(wi0 .i64 (d+1))))) else some (a,d)))):Option ((List fP)×Int)).bind λ(h,j)=>(oX c i h j (wi0 .i64 (g+1)))) else some (a,d))
def oZ (a0:List fP):Nat→Int→Option (List fP)
 | 0,_=>none
 | g+1,a=>(if (decide (a < (a0.length:Int))) then ((im a0 a).bind λh=>((im a0 (wi0 .i64 (a-1))).bind λi=>(if (lQ h i) then ((kh (decide (0≤a)&&decide (a≤(a0.length:Int)))).bind λ_=>((oX a iq a0 a 1).bind λ(d,c)=>((kh (decide (0≤c)&&decide (c≤(d.length:Int)))).bind λ_=>((kh (decide (0≤c)&&decide (c≤((jE d (Int.toNat c) (⟨0,(⟨zS,zS⟩:fQ),zS,(⟨zS,zS⟩:fQ),(⟨zS,zS⟩:fQ),zS⟩:fP)).length:Int)))).bind λ_=>some ((jE d (Int.toNat c) (⟨0,(⟨zS,zS⟩:fQ),zS,(⟨zS,zS⟩:fQ),(⟨zS,zS⟩:fQ),zS⟩:fP)).take (Int.toNat c)))))) else (oZ a0 g (wi0 .i64 (a+1)))))) else some a0)
def ud (a0:List fP):Option (List fP) :=
 (if (decide ((a0.length:Int) < 2)) then some a0 else oZ a0 iq 1)
def Dq (a0:List fP):Option (List fP) :=
 ((vk a0).bind λg=>((sq g (λ(x:fP)=>zt x)).bind λa=>((rR (λ(x:(fP×fP))=>my x.1 x.2) a).bind λc=>((ud c).bind λd=>some d))))
def pv (d:fP):List fP→Nat→Option Int
 | [],_=>some (-1)
 | c::a,i46=>(if (lQ d c) then some (i46:Int) else (pv d a (i46+1)))
def vn (a0:List fP) (a:fP):Option Int :=
 pv a a0 0
def tf (a0:List fP) (a:fP):Option Bool :=
 ((vn a0 a).bind λc=>some (decide (c≥0)))
def xK (a0:List fP) (a:fP):Option Bool :=
 ((tf a0 a).bind λc=>some c)
def AJ (a0:fP):Option (List fQ) :=
 ((jC a0).bind λh=>(if (!h) then some [] else (((if (a0.Kind != 1) then ((ja 32 ([a0.Head]) ([a0.B])).bind λg=>some g) else some ([a0.Head])):Option (List fQ)).bind λa=>(((if (a0.Kind==4) then ((ja 32 a ([a0.C])).bind λd=>some d) else some a):Option (List fQ)).bind λc=>some c))))
def po (i:fP) (a:List (ByteArray×(List fP))) (g:List fP):List fQ→(List (fQ×(List fP)))→Option ((List fP)×(List (fQ×(List fP)))×(List (ByteArray×(List fP))))
 | [],c=>(if (i.Kind==3) then ((ja 136 ((nQ gS a i.gT).getD []) ([i])).bind λk=>some (g,c,(zN gS a i.gT k))) else some (g,c,a))
 | d::h,c=>((ja 136 ((nQ gW c d).getD []) ([i])).bind λj=>(po i a g h (zN gW c d j)))
def uC (i:List (fQ×(List (ByteArray×Bool)))) (a:List fP) (d:List (fQ×(List fP))) (c:List (ByteArray×(List fP))) (g:List jD) (n:Int) (j:fP):Option ((List fP)×(List (fQ×(List fP)))×(List (ByteArray×(List fP)))) :=
 ((ja 136 a ([j])).bind λk=>((AJ j).bind λh=>((kh (decide (0≤1)&&decide (1≤(h.length:Int)))).bind λ_=>po j c k (h.drop (Int.toNat 1)) d)))
def kQ (a:List (fQ×(List (ByteArray×Bool)))) (g:List fP) (i:List (fQ×(List fP))) (h:List (ByteArray×(List fP))) (c:List jD) (d:Int) (j:fQ) (a2:ByteArray):Option ((List (fQ×(List (ByteArray×Bool))))×(List jD)×Int) :=
 (if (xu gS ((nQ gW a j).getD []) a2 false) then some (a,c,d) else (((if (nQ gW a j).isNone then ((I1 gW a j ([])).bind λk=>some k) else some a):Option (List (fQ×(List (ByteArray×Bool))))).bind λn=>((IU gW gS n j a2 true).bind λo=>((ja 48 c ([(⟨j,a2⟩:jD)])).bind λp=>some (o,p,(wi0 .i64 (d+1)))))))
def ou (a0:List (ByteArray×Bool)):Option Unit :=
 some ()
def pY (a:List (fQ×(List (ByteArray×Bool)))) (c:List fP) (h:List (fQ×(List fP))) (d:List (ByteArray×(List fP))) (g:List jD) (j:Int) (k:fQ):Option (List ByteArray) :=
 ((ou ((nQ gW a k).getD [])).bind λn=>((H9 ((nQ gW a k).getD [])).bind λi=>some i))
def pA (a:List fP) (d:List (fQ×(List fP))) (c:List (ByteArray×(List fP))) (a2:fQ):List ByteArray→(List (fQ×(List (ByteArray×Bool))))→(List jD)→Int→Option ((List (fQ×(List (ByteArray×Bool))))×(List jD)×Int)
 | [],g,h,j=>some (g,h,j)
 | n::k,g,h,j=>((kQ g a d c h j a2 n).bind λi=>(pA a d c a2 k i.1 i.2.1 i.2.2))
def vq (h:List (fQ×(List (ByteArray×Bool)))) (a:List fP) (g:List (fQ×(List fP))) (c:List (ByteArray×(List fP))) (d:List jD) (i:Int) (j a2:fQ):Option ((List (fQ×(List (ByteArray×Bool))))×(List jD)×Int) :=
 ((pY h a g c d i j).bind λk=>pA a g c a2 k h d i)
def qI (a:List (fQ×(List (ByteArray×Bool)))) (d:List fP) (h:List (fQ×(List fP))) (g:List (ByteArray×(List fP))) (c:List jD) (i:Int) (j:fP) (a2:jD):Option ((List (fQ×(List (ByteArray×Bool))))×(List jD)×Int) :=
 (if (j.Kind==2) then ((kQ a d h g c i j.Head a2.ir).bind λo=>some (o.1,o.2.1,o.2.2)) else (if (j.Kind==3) then ((vq a d h g c i (⟨a2.ir,j.gT⟩:fQ) j.Head).bind λk=>some (k.1,k.2.1,k.2.2)) else (if (j.Kind==4) then ((if (xu gS ((nQ gW a j.B).getD []) a2.ir false) then some (xu gS ((nQ gW a j.C).getD []) a2.ir false) else some false).bind λp=>(if p then ((kQ a d h g c i j.Head a2.ir).bind λn=>some (n.1,n.2.1,n.2.2)) else some (a,c,i))) else some (a,c,i))))
def oO (a:List fP) (d:List (fQ×(List fP))) (c:List (ByteArray×(List fP))) (o:fP):List ByteArray→(List (fQ×(List (ByteArray×Bool))))→(List jD)→Int→Option ((List (fQ×(List (ByteArray×Bool))))×(List jD)×Int)
 | [],g,h,j=>some (g,h,j)
 | n::k,g,h,j=>((qI g a d c h j o (⟨o.B,n⟩:jD)).bind λi=>(oO a d c o k i.1 i.2.1 i.2.2))
def uc (h:List (fQ×(List (ByteArray×Bool)))) (a:List fP) (g:List (fQ×(List fP))) (c:List (ByteArray×(List fP))) (d:List jD) (i:Int) (j:fP):Option ((List (fQ×(List (ByteArray×Bool))))×(List jD)×Int) :=
 (if (j.Kind==1) then ((kQ h a g c d i j.Head j.ir).bind λn=>some (n.1,n.2.1,n.2.2)) else ((pY h a g c d i j.B).bind λk=>oO a g c j k h d i))
def ml (i:jD) (a:List fP) (d:List (fQ×(List fP))) (c:List (ByteArray×(List fP))):List fP→(List (fQ×(List (ByteArray×Bool))))→(List jD)→Int→Option ((List (fQ×(List (ByteArray×Bool))))×(List jD)×Int)
 | [],g,h,j=>some (g,h,j)
 | o::n,g,h,j=>(if (xu gS ((nQ gW g o.B).getD []) i.fQ.fX false) then ((kQ g a d c h j o.Head i.ir).bind λk=>(ml i a d c n k.1 k.2.1 k.2.2)) else (ml i a d c n g h j))
def oI (a:List fP) (d:List (fQ×(List fP))) (c:List (ByteArray×(List fP))) (k:jD):List fP→(List (fQ×(List (ByteArray×Bool))))→(List jD)→Int→Option ((List (fQ×(List (ByteArray×Bool))))×(List jD)×Int)
 | [],g,h,j=>some (g,h,j)
 | o::n,g,h,j=>((qI g a d c h j o k).bind λi=>(oI a d c k n i.1 i.2.1 i.2.2))
def oB (d:List fP) (c:List (fQ×(List fP))) (a:List (ByteArray×(List fP))):Nat→(List (fQ×(List (ByteArray×Bool))))→(List jD)→Int→Option ((List (fQ×(List (ByteArray×Bool))))×(List jD)×Int)
 | 0,_,_,_=>none
 | q+1,i,g,j=>(if (decide ((g.length:Int) > 0)) then ((im g 0).bind λh=>((kh (decide (0≤1)&&decide (1≤(g.length:Int)))).bind λ_=>((oI d c a h ((nQ gW c h.fQ).getD []) i (g.drop (Int.toNat 1)) j).bind λ(k,n,s)=>((ml h d c a ((nQ gS a h.fQ.Word).getD []) k n s).bind λ(o,p,u)=>(oB d c a q o p u))))) else some (i,g,j))
def td (h:List (fQ×(List (ByteArray×Bool)))) (a:List fP) (g:List (fQ×(List fP))) (c:List (ByteArray×(List fP))) (d:List jD) (i:Int):Option ((List (fQ×(List (ByteArray×Bool))))×(List jD)×Int) :=
 oB a g c iq h d i
def nk (o:Int):List fP→(List (fQ×(List (ByteArray×Bool))))→(List fP)→(List (fQ×(List fP)))→(List (ByteArray×(List fP)))→(List jD)→Int→Option (Int×(List (fQ×(List (ByteArray×Bool))))×(List fP)×(List (fQ×(List fP)))×(List (ByteArray×(List fP)))×(List jD)×Int)
 | [],d,a,g,h,i,j=>((td d a g h i j).bind λk=>some ((wi0 .i64 (k.2.2-o)),k.1,a,g,h,k.2.1,k.2.2))
 | n::q,d,a,g,h,i,j=>((jC n).bind λs=>((if s then ((xK a n).bind λu=>some (!u)) else some false).bind λv=>(if v then ((uC d a g h i j n).bind λc=>((uc d c.1 c.2.1 c.2.2 i j n).bind λp=>(nk o q p.1 c.1 c.2.1 c.2.2 p.2.1 p.2.2))) else (nk o q d a g h i j))))
def vp (h:List (fQ×(List (ByteArray×Bool)))) (a:List fP) (g:List (fQ×(List fP))) (c:List (ByteArray×(List fP))) (d:List jD) (i:Int) (j:List fP):Option (Int×(List (fQ×(List (ByteArray×Bool))))×(List fP)×(List (fQ×(List fP)))×(List (ByteArray×(List fP)))×(List jD)×Int) :=
 nk i j h a g c d i
def xv (a0:List fP):Option ((List (fQ×(List (ByteArray×Bool))))×(List fP)×(List (fQ×(List fP)))×(List (ByteArray×(List fP)))×(List jD)×Int) :=
 ((vp ([]) ([]) ([]) ([]) ([]) 0 a0).bind λa=>some (a.2.1,a.2.2.1,a.2.2.2.1,a.2.2.2.2.1,a.2.2.2.2.2.1,a.2.2.2.2.2.2))
def sx (a:List (fQ×(List (ByteArray×Bool)))) (c:List fP) (h:List (fQ×(List fP))) (d:List (ByteArray×(List fP))) (g:List jD) (i:Int) (j:fQ) (a2:ByteArray):Option Bool :=
 some (xu gS ((nQ gW a j).getD []) a2 false)
def jR :List fP→Int→Option Int
 | [],c=>some c
 | a::d,c=>(jR d (wi0 .i64 (c+(wi0 .i64 ((wi0 .i64 ((wi0 .i64 ((wi0 .i64 ((wi0 .i64 ((wi0 .i64 ((wi0 .i64 ((wi0 .i64 (20+(a.Head.fX.size:Int)))+(a.Head.Word.size:Int)))+(a.ir.size:Int)))+(a.B.fX.size:Int)))+(a.B.Word.size:Int)))+(a.C.fX.size:Int)))+(a.C.Word.size:Int)))+(a.gT.size:Int))))))
def mU (a0:List fP):Option Int :=
 jR a0 0
def ky :List Signed→Int→Option Int
 | [],a=>some a
 | c::d,a=>((mU ([c.fP])).bind λg=>(ky d (wi0 .i64 (a+(wi0 .i64 (g+(c.Tag.length:Int)))))))
def mD (h:List Signed):List Key→Int→Option Int
 | [],a=>((ky h a).bind λc=>some c)
 | d::g,a=>(mD h g (wi0 .i64 (a+(wi0 .i64 ((wi0 .i64 (10+(d.ir.size:Int)))+(d.Key.length:Int))))))
def lZ (a0:List Key) (a:List Signed):Option Int :=
 mD a a0 0
def Bb (a0:List fP) (c:ByteArray):Option ((List (fQ×(List (ByteArray×Bool))))×(List fP)×(List (fQ×(List fP)))×(List (ByteArray×(List fP)))×(List jD)×Int×ByteArray) :=
 ((xv a0).bind λa=>some (a.1,a.2.1,a.2.2.1,a.2.2.2.1,a.2.2.2.2.1,a.2.2.2.2.2,c))
def ns (f1:kk→Option Bool):List kk→Nat→Option Int
 | [],_=>some (-1)
 | d::a,i47=>((f1 d).bind λc=>(if c then some (i47:Int) else (ns f1 a (i47+1))))
def rE (a0:List kk) (f1:kk→Option Bool):Option Int :=
 ns f1 a0 0
def xi (a0:kk) (a:fP):Option Bool :=
 some (lQ a0.Signed.fP a)
def AB (a0:nX) (d:fP):Option (kk×Bool) :=
 ((rE a0.qY (λ(x:kk)=>xi x d)).bind λa=>(if (decide (a < 0)) then some ((⟨(⟨(⟨0,(⟨zS,zS⟩:fQ),zS,(⟨zS,zS⟩:fQ),(⟨zS,zS⟩:fQ),zS⟩:fP),[]⟩:Signed),(⟨0,0,(⟨zS,zS⟩:fQ),[]⟩:Formula)⟩:kk),false) else ((im a0.qY a).bind λc=>some (c,true))))
def vr (a0:List oF):Option (List oF) :=
 ((ja 128 ([]) a0).bind λa=>some a)
def oD (f1:oF→Option Bool):List oF→Nat→Option Int
 | [],_=>some (-1)
 | d::a,i47=>((f1 d).bind λc=>(if c then some (i47:Int) else (oD f1 a (i47+1))))
def th (a0:List oF) (f1:oF→Option Bool):Option Int :=
 oD f1 a0 0
def og (f1:oF→Option Bool):Nat→(List oF)→Int→Int→Option (List oF)
 | 0,_,_,_=>none
 | i+1,c,a,d=>(if (decide (d < (c.length:Int))) then ((((im c d).bind λg=>((f1 g).bind λj=>(if (!j) then ((im c a).bind λn=>some ((c.set (Int.toNat a) g),(wi0 .i64 (a+1)))) else some (c,a)))):Option ((List oF)×Int)).bind λ(h,k)=>(og f1 i h k (wi0 .i64 (d+1)))) else ((kh (decide (0≤a)&&decide (a≤(c.length:Int)))).bind λ_=>((kh (decide (0≤a)&&decide (a≤((jE c (Int.toNat a) (⟨(⟨zS,zS⟩:fQ),(⟨0,0,(⟨zS,zS⟩:fQ),[]⟩:Formula),[]⟩:oF)).length:Int)))).bind λ_=>some ((jE c (Int.toNat a) (⟨(⟨zS,zS⟩:fQ),(⟨0,0,(⟨zS,zS⟩:fQ),[]⟩:Formula),[]⟩:oF)).take (Int.toNat a)))))
def sE (a0:List oF) (f1:oF→Option Bool):Option (List oF) :=
 ((th a0 f1).bind λa=>(if (a==(-1)) then some a0 else og f1 iq a0 a (wi0 .i64 (a+1))))
def xa (a0:oF) (a:fP):Option Bool :=
 ((xK a0.qR a).bind λc=>some (!c))
def zi (a0:nX) (c:fP):Option (List oF) :=
 ((vr a0.uv).bind λd=>((sE d (λ(x:oF)=>xa x c)).bind λa=>some a))
def ru (h:Int) (rec:Formula→Int→Option (Int×Int)):List Formula→Int→Int→Option (Int×Int)
 | [],a,d=>some (a,d)
 | i::g,a,d=>(if (decide (a > h)) then some (a,d) else ((rec i (wi0 .i64 (h-a))).bind λc=>(ru h rec g (wi0 .i64 (a+c.1)) (if c.2 > d then c.2 else d))))
def ur (rec:Formula→Int→Option (Int×Int)) (a0:Formula) (d:Int):Option (Int×Int) :=
 ((ru d rec a0.Kids 1 0).bind λ(a,c)=>some (a,(wi0 .i64 (c+1))))
def sI:Nat→Formula→Int→Option (Int×Int)
 | 0=>λ_ _=>none
 | n+1=>ur (sI n)
def xU (a0:Formula):Option (Int×Int) :=
 ((sI iq a0 4096).bind λa=>(if (decide (a.1 > 4096)) then some (0,0) else some (a.1,a.2)))
def yx (a0:Formula):Option Bool :=
 (if (a0.Op==1) then ((jB a0.fQ).bind λg=>((if g then some ((a0.Kids.length:Int)==0) else some false).bind λh=>((if h then some (a0.K==0) else some false).bind λi=>some i))) else ((if (a0.Op==2) then some (a0.Op==2) else some (a0.Op==3)).bind λj=>(if j then ((if (gW a0.fQ (⟨zS,zS⟩:fQ)) then some (a0.K==0) else some false).bind λk=>some k) else ((if (a0.Op==4) then some (gW a0.fQ (⟨zS,zS⟩:fQ)) else some false).bind λn=>((if n then some (decide (a0.K≥0)) else some false).bind λa=>((if a then some (decide (a0.K≤(a0.Kids.length:Int))) else some false).bind λc=>((if c then some (decide ((a0.Kids.length:Int)≥1)) else some false).bind λd=>some d)))))))
def nt (f1:Formula→Option Bool):List Formula→Nat→Option Int
 | [],_=>some (-1)
 | d::a,i41=>((f1 d).bind λc=>(if c then some (i41:Int) else (nt f1 a (i41+1))))
def rF (a0:List Formula) (f1:Formula→Option Bool):Option Int :=
 nt f1 a0 0
def nr (a0:List Formula) (f1:Formula→Option Bool):Option Bool :=
 ((rF a0 f1).bind λa=>some (decide (a≥0)))
def vz (rec:Formula→Option Bool) (a0:Formula):Option Bool :=
 ((rec a0).bind λa=>some (!a))
def uM (rec:Formula→Option Bool) (a0:Formula):Option Bool :=
 ((yx a0).bind λd=>((if d then some (decide ((a0.Kids.length:Int)≤8)) else some false).bind λg=>((if g then ((nr a0.Kids (λ(x:Formula)=>vz rec x)).bind λa=>some (!a)) else some false).bind λc=>some c)))
def sP:Nat→Formula→Option Bool
 | 0=>λ_=>none
 | n+1=>uM (sP n)
def oH (a0:Formula):Option Bool :=
 ((xU a0).bind λc=>((if (decide (c.1≥1)) then some (decide (c.1≤64)) else some false).bind λh=>((if h then some (decide (c.2≤6)) else some false).bind λd=>((if d then ((sP iq a0).bind λa=>some a) else some false).bind λg=>some g))))
def qK (a0:Formula) (a:Int):Option Bool :=
 ((if (a0.Op==a) then some ((a0.Kids.length:Int)==0) else some false).bind λx6=>some x6)
def xN :Option Formula :=
 some (⟨2,0,(⟨zS,zS⟩:fQ),[]⟩:Formula)
def xP :Option Formula :=
 some (⟨3,0,(⟨zS,zS⟩:fQ),[]⟩:Formula)
def pV (a0:Int):List Formula→(List Formula)→Option (List Formula)
 | [],a=>some a
 | c::d,a=>(if (c.Op==a0) then ((ja 72 a c.Kids).bind λg=>(pV a0 d g)) else ((ja 72 a ([c])).bind λh=>(pV a0 d h)))
def zr (a0:Int) (a:List Formula):Option (List Formula) :=
 pV a0 a ([])
def rS (a0:Formula) (a:Int):Option Bool :=
 ((qK a0 a).bind λc=>some c)
def tu (a0:List Formula):Option (List Formula) :=
 ((ja 72 ([]) a0).bind λa=>some a)
def kM (q:Int) (f3:(Formula×Formula)→Option Int):Nat→(List Formula)→Int→Option (List Formula)
 | 0,_,_=>none
 | h+1,c,a=>((if (decide (a > q)) then ((im c a).bind λk=>((im c (wi0 .i64 (a-1))).bind λn=>((f3 (k,n)).bind λi=>some (decide (i < 0))))) else some false).bind λj=>(if j then ((im c (wi0 .i64 (a-1))).bind λg=>((im c a).bind λd=>((im c a).bind λo=>((im (c.set (Int.toNat a) g) (wi0 .i64 (a-1))).bind λp=>(kM q f3 h ((c.set (Int.toNat a) g).set (Int.toNat (wi0 .i64 (a-1))) (⟨d.Op,d.K,d.fQ,d.Kids⟩:Formula)) (wi0 .i64 (a-1))))))) else some c))
def kL (a2 h:Int) (f3:(Formula×Formula)→Option Int):Nat→(List Formula)→Int→Option (List Formula)
 | 0,_,_=>none
 | g+1,c,a=>(if (decide (a < a2)) then ((kM h f3 iq c a).bind λd=>(kL a2 h f3 g d (wi0 .i64 (a+1)))) else some c)
def lv (a0:List Formula) (a a2:Int) (f3:(Formula×Formula)→Option Int):Option (List Formula) :=
 kL a2 a f3 iq a0 (wi0 .i64 (a+1))
def lG (a3 a2 h:Int):Nat→(List Formula)→Int→Option (List Formula)
 | 0,_,_=>none
 | i+1,c,a=>(if (decide (a < a3)) then ((im c (wi0 .i64 (a2+a))).bind λg=>((im c (wi0 .i64 (h+a))).bind λd=>((im c (wi0 .i64 (h+a))).bind λj=>((im (c.set (Int.toNat (wi0 .i64 (h+a))) g) (wi0 .i64 (a2+a))).bind λk=>(lG a3 a2 h i ((c.set (Int.toNat (wi0 .i64 (h+a))) g).set (Int.toNat (wi0 .i64 (a2+a))) (⟨d.Op,d.K,d.fQ,d.Kids⟩:Formula)) (wi0 .i64 (a+1))))))) else some c)
def km (a0:List Formula) (a a2 a3:Int) (f4:(Formula×Formula)→Option Int):Option (List Formula) :=
 lG a3 a2 a iq a0 0
def ko (a2:Int) (f4:(Formula×Formula)→Option Int):Nat→(List Formula)→Int→Int→Option (List Formula)
 | 0,_,_,_=>none
 | n185+1,d,a,c=>(if (a != c) then (if (decide (a > c)) then ((km d (wi0 .i64 (a2-a)) a2 c f4).bind λg=>(ko a2 f4 n185 g (wi0 .i64 (a-c)) c)) else ((km d (wi0 .i64 (a2-a)) (wi0 .i64 ((wi0 .i64 (a2+c))-a)) a f4).bind λh=>(ko a2 f4 n185 h a (wi0 .i64 (c-a))))) else ((km d (wi0 .i64 (a2-a)) a2 a f4).bind λi=>some i))
def qn (a0:List Formula) (a a2 a3:Int) (f4:(Formula×Formula)→Option Int):Option (List Formula) :=
 ko a2 f4 iq a0 (wi0 .i64 (a2-a)) (wi0 .i64 (a3-a2))
def lR (h:Int):Nat→(List Formula)→Int→Option (List Formula)
 | 0,_,_=>none
 | i+1,c,a=>(if (decide (a < (wi0 .i64 (h-1)))) then ((im c (wi0 .i64 (a+1))).bind λg=>((im c a).bind λd=>((im c a).bind λj=>((im (c.set (Int.toNat a) g) (wi0 .i64 (a+1))).bind λk=>(lR h i ((c.set (Int.toNat a) g).set (Int.toNat (wi0 .i64 (a+1))) (⟨d.Op,d.K,d.fQ,d.Kids⟩:Formula)) (wi0 .i64 (a+1))))))) else some c)
def jY (a0:List Formula) (j:Int) (f4:(Formula×Formula)→Option Int):Nat→Int→Int→Option (List Formula)
 | 0,_,_=>none
 | n325+1,a,c=>(if (decide (a < c)) then ((im a0 (wi0 .i64 (Int.fdiv (IntKind.u64.wrap (wi0 .i64 (a+c))) (2 ^ min (Int.toNat 1) (IntKind.bits .u64))))).bind λh=>((im a0 j).bind λi=>((f4 (h,i)).bind λg=>(if (decide (g < 0)) then (jY a0 j f4 n325 (wi0 .i64 ((wi0 .i64 (Int.fdiv (IntKind.u64.wrap (wi0 .i64 (a+c))) (2 ^ min (Int.toNat 1) (IntKind.bits .u64))))+1)) c) else (jY a0 j f4 n325 a (wi0 .i64 (Int.fdiv (IntKind.u64.wrap (wi0 .i64 (a+c))) (2 ^ min (Int.toNat 1) (IntKind.bits .u64))))))))) else ((lR a iq a0 j).bind λd=>some d))
def lO (g:Int):Nat→(List Formula)→Int→Option (List Formula)
 | 0,_,_=>none
 | i+1,c,a=>(if (decide (a > g)) then ((im c (wi0 .i64 (a-1))).bind λh=>((im c a).bind λd=>((im c a).bind λj=>((im (c.set (Int.toNat a) h) (wi0 .i64 (a-1))).bind λk=>(lO g i ((c.set (Int.toNat a) h).set (Int.toNat (wi0 .i64 (a-1))) (⟨d.Op,d.K,d.fQ,d.Kids⟩:Formula)) (wi0 .i64 (a-1))))))) else some c)
def jZ (a0:List Formula) (a2:Int) (f4:(Formula×Formula)→Option Int):Nat→Int→Int→Option (List Formula)
 | 0,_,_=>none
 | d+1,a,c=>(if (decide (a < c)) then ((im a0 a2).bind λi=>((im a0 (wi0 .i64 (Int.fdiv (IntKind.u64.wrap (wi0 .i64 (a+c))) (2 ^ min (Int.toNat 1) (IntKind.bits .u64))))).bind λj=>((f4 (i,j)).bind λh=>(if (!(decide (h < 0))) then (jZ a0 a2 f4 d (wi0 .i64 ((wi0 .i64 (Int.fdiv (IntKind.u64.wrap (wi0 .i64 (a+c))) (2 ^ min (Int.toNat 1) (IntKind.bits .u64))))+1)) c) else (jZ a0 a2 f4 d a (wi0 .i64 (Int.fdiv (IntKind.u64.wrap (wi0 .i64 (a+c))) (2 ^ min (Int.toNat 1) (IntKind.bits .u64))))))))) else ((lO a iq a0 a2).bind λg=>some g))
def ka (a0:List Formula) (d a3 a2:Int) (f4:(Formula×Formula)→Option Int) (rec:(List Formula)→Int→Int→Int→((Formula×Formula)→Option Int)→Option (List Formula)):Nat→Int→Int→Option (List Formula)
 | 0,_,_=>none
 | i+1,a,c=>(if (decide (a < c)) then ((im a0 (wi0 .i64 ((wi0 .i64 ((wi0 .i64 ((wi0 .i64 (Int.fdiv (IntKind.u64.wrap (wi0 .i64 (d+a3))) (2 ^ min (Int.toNat 1) (IntKind.bits .u64))))+a2))-1))-(wi0 .i64 (Int.fdiv (IntKind.u64.wrap (wi0 .i64 (a+c))) (2 ^ min (Int.toNat 1) (IntKind.bits .u64))))))).bind λp=>((im a0 (wi0 .i64 (Int.fdiv (IntKind.u64.wrap (wi0 .i64 (a+c))) (2 ^ min (Int.toNat 1) (IntKind.bits .u64))))).bind λq=>((f4 (p,q)).bind λj=>(if (!(decide (j < 0))) then (ka a0 d a3 a2 f4 rec i (wi0 .i64 ((wi0 .i64 (Int.fdiv (IntKind.u64.wrap (wi0 .i64 (a+c))) (2 ^ min (Int.toNat 1) (IntKind.bits .u64))))+1)) c) else (ka a0 d a3 a2 f4 rec i a (wi0 .i64 (Int.fdiv (IntKind.u64.wrap (wi0 .i64 (a+c))) (2 ^ min (Int.toNat 1) (IntKind.bits .u64))))))))) else ((((if (decide (a < a2)) then some (decide (a2 < (wi0 .i64 ((wi0 .i64 ((wi0 .i64 (Int.fdiv (IntKind.u64.wrap (wi0 .i64 (d+a3))) (2 ^ min (Int.toNat 1) (IntKind.bits .u64))))+a2))-a)))) else some false).bind λv=>(if v then ((qn a0 a a2 (wi0 .i64 ((wi0 .i64 ((wi0 .i64 (Int.fdiv (IntKind.u64.wrap (wi0 .i64 (d+a3))) (2 ^ min (Int.toNat 1) (IntKind.bits .u64))))+a2))-a)) f4).bind λo=>some o) else some a0)):Option (List Formula)).bind λg=>((((if (decide (d < a)) then some (decide (a < (wi0 .i64 (Int.fdiv (IntKind.u64.wrap (wi0 .i64 (d+a3))) (2 ^ min (Int.toNat 1) (IntKind.bits .u64)))))) else some false).bind λu=>(if u then ((rec g d a (wi0 .i64 (Int.fdiv (IntKind.u64.wrap (wi0 .i64 (d+a3))) (2 ^ min (Int.toNat 1) (IntKind.bits .u64)))) f4).bind λn=>some n) else some g)):Option (List Formula)).bind λh=>((if (decide ((wi0 .i64 (Int.fdiv (IntKind.u64.wrap (wi0 .i64 (d+a3))) (2 ^ min (Int.toNat 1) (IntKind.bits .u64)))) < (wi0 .i64 ((wi0 .i64 ((wi0 .i64 (Int.fdiv (IntKind.u64.wrap (wi0 .i64 (d+a3))) (2 ^ min (Int.toNat 1) (IntKind.bits .u64))))+a2))-a)))) then some (decide ((wi0 .i64 ((wi0 .i64 ((wi0 .i64 (Int.fdiv (IntKind.u64.wrap (wi0 .i64 (d+a3))) (2 ^ min (Int.toNat 1) (IntKind.bits .u64))))+a2))-a)) < a3)) else some false).bind λs=>(if s then ((rec h (wi0 .i64 (Int.fdiv (IntKind.u64.wrap (wi0 .i64 (d+a3))) (2 ^ min (Int.toNat 1) (IntKind.bits .u64)))) (wi0 .i64 ((wi0 .i64 ((wi0 .i64 (Int.fdiv (IntKind.u64.wrap (wi0 .i64 (d+a3))) (2 ^ min (Int.toNat 1) (IntKind.bits .u64))))+a2))-a)) a3 f4).bind λk=>some k) else some h)))))
def oK (rec:(List Formula)→Int→Int→Int→((Formula×Formula)→Option Int)→Option (List Formula)) (a0:List Formula) (a a2 a3:Int) (f4:(Formula×Formula)→Option Int):Option (List Formula) :=
 (if ((wi0 .i64 (a2-a))==1) then jY a0 a f4 iq a2 a3 else (if ((wi0 .i64 (a3-a2))==1) then jZ a0 a2 f4 iq a a2 else (((if (decide (a2 > (wi0 .i64 (Int.fdiv (IntKind.u64.wrap (wi0 .i64 (a+a3))) (2 ^ min (Int.toNat 1) (IntKind.bits .u64)))))) then some ((wi0 .i64 ((wi0 .i64 ((wi0 .i64 (Int.fdiv (IntKind.u64.wrap (wi0 .i64 (a+a3))) (2 ^ min (Int.toNat 1) (IntKind.bits .u64))))+a2))-a3)),(wi0 .i64 (Int.fdiv (IntKind.u64.wrap (wi0 .i64 (a+a3))) (2 ^ min (Int.toNat 1) (IntKind.bits .u64))))) else some (a,a2)):Option (Int×Int)).bind λ(c,d)=>ka a0 a a3 a2 f4 rec iq c d)))
def kv:Nat→(List Formula)→Int→Int→Int→((Formula×Formula)→Option Int)→Option (List Formula)
 | 0=>λ_ _ _ _ _=>none
 | n+1=>oK (kv n)
def mr (j c:Int) (f2:(Formula×Formula)→Option Int):Nat→(List Formula)→Int→Int→Option ((List Formula)×Int)
 | 0,_,_,_=>none
 | h+1,g,d,a=>(if (decide (a≤j)) then ((kv iq g d (wi0 .i64 (d+c)) a f2).bind λi=>(mr j c f2 h i a (wi0 .i64 (a+(wi0 .i64 (2*c)))))) else some (g,d))
def mq (k:Int) (f2:(Formula×Formula)→Option Int):Nat→(List Formula)→Int→Option (List Formula)
 | 0,_,_=>none
 | i+1,d,a=>(if (decide (a < k)) then ((mr k a f2 iq d 0 (wi0 .i64 (2*a))).bind λ(g,c)=>(((if (decide ((wi0 .i64 (c+a)) < k)) then ((kv iq g c (wi0 .i64 (c+a)) k f2).bind λj=>some j) else some g):Option (List Formula)).bind λh=>(mq k f2 i h (wi0 .i64 (a*2))))) else some d)
def mn (j:Int) (f2:(Formula×Formula)→Option Int):Nat→(List Formula)→Int→Int→Option (List Formula)
 | 0,_,_,_=>none
 | n123+1,d,i,a=>(if (decide (a≤j)) then ((lv d i a f2).bind λg=>(mn j f2 n123 g a (wi0 .i64 (a+20)))) else ((lv d i j f2).bind λh=>((mq j f2 iq h 20).bind λc=>some c)))
def qi (a0:List Formula) (a:Int) (f2:(Formula×Formula)→Option Int):Option (List Formula) :=
 mn a f2 iq a0 0 20
def qb (a0:List Formula) (f1:(Formula×Formula)→Option Int):Option (List Formula) :=
 ((qi a0 (a0.length:Int) f1).bind λa=>some a)
def rk (rec:(List Int)→Formula→Option (List Int)):List Formula→(List Int)→Option (List Int)
 | [],a=>some a
 | g::c,a=>((rec a g).bind λd=>(rk rec c d))
def uA (rec:(List Int)→Formula→Option (List Int)) (c:List Int) (a:Formula):Option (List Int) :=
 ((gI c a.Op).bind λi=>(if (a.Op==1) then ((jN i.2 a.fQ).bind λh=>some h.2) else (((if (a.Op==4) then ((gI i.2 a.K).bind λd=>some d.2) else some i.2):Option (List Int)).bind λg=>((gI g (a.Kids.length:Int)).bind λj=>rk rec a.Kids j.2))))
def sR:Nat→(List Int)→Formula→Option (List Int)
 | 0=>λ_ _=>none
 | n+1=>uA (sR n)
def xn (a:List Int) (c:Formula):Option (Bool×(List Int)) :=
 ((oH c).bind λd=>(if (!d) then some (false,a) else ((sR iq a c).bind λg=>some (true,g))))
def rI (a0:Formula):Option (List Int) :=
 ((xn ([]) a0).bind λc=>((jv c.2).bind λa=>some a))
def wh (a0 g:Formula):Option Int :=
 ((rI a0).bind λa=>((rI g).bind λc=>((qC a c).bind λd=>some d)))
def tE (a0:List Formula):Option (List Formula) :=
 ((tu a0).bind λc=>((qb c (λ(x:(Formula×Formula))=>wh x.1 x.2)).bind λa=>some a))
def mP (c:Int) (f1:(Formula×Formula)→Option Bool):Nat→(List Formula)→Int→Int→Option ((List Formula)×Int)
 | 0,_,_,_=>none
 | i+1,a,d,g=>(if (decide (g < ((a.length-(Int.toNat c):Nat):Int))) then ((((im (a.drop (Int.toNat c)) g).bind λn=>((im (a.drop (Int.toNat c)) (wi0 .i64 (g-1))).bind λo=>((f1 (n,o)).bind λj=>(if (!j) then ((im (a.drop (Int.toNat c)) g).bind λp=>((im a d).bind λq=>some ((a.set (Int.toNat d) p),(wi0 .i64 (d+1))))) else some (a,d))))):Option ((List Formula)×Int)).bind λ(h,k)=>(mP c f1 i h k (wi0 .i64 (g+1)))) else some (a,d))
def mO (a0:List Formula) (f1:(Formula×Formula)→Option Bool):Nat→Int→Option (List Formula)
 | 0,_=>none
 | g+1,a=>(if (decide (a < (a0.length:Int))) then ((im a0 a).bind λi=>((im a0 (wi0 .i64 (a-1))).bind λj=>((f1 (i,j)).bind λh=>(if h then ((kh (decide (0≤a)&&decide (a≤(a0.length:Int)))).bind λ_=>((mP a f1 iq a0 a 1).bind λ(d,c)=>((kh (decide (0≤c)&&decide (c≤(d.length:Int)))).bind λ_=>((kh (decide (0≤c)&&decide (c≤((jE d (Int.toNat c) (⟨0,0,(⟨zS,zS⟩:fQ),[]⟩:Formula)).length:Int)))).bind λ_=>some ((jE d (Int.toNat c) (⟨0,0,(⟨zS,zS⟩:fQ),[]⟩:Formula)).take (Int.toNat c)))))) else (mO a0 f1 g (wi0 .i64 (a+1))))))) else some a0)
def qO (a0:List Formula) (f1:(Formula×Formula)→Option Bool):Option (List Formula) :=
 (if (decide ((a0.length:Int) < 2)) then some a0 else mO a0 f1 iq 1)
def iP (h:List Formula) (f2:(Formula×Formula)→Option Bool):List Formula→Nat→Option Bool
 | [],_=>some true
 | g::d,i95=>((im h (i95:Int)).bind λc=>((f2 (g,c)).bind λa=>(if (!a) then some false else (iP h f2 d (i95+1)))))
def kE (a0 a:List Formula) (f2:(Formula×Formula)→Option Bool):Option Bool :=
 (if ((a0.length:Int) != (a.length:Int)) then some false else iP a f2 a0 0)
def vl (rec:Formula→Formula→Option Bool) (a0 a:Formula):Option Bool :=
 ((if (a0.Op==a.Op) then some (a0.K==a.K) else some false).bind λd=>((if d then some (gW a0.fQ a.fQ) else some false).bind λg=>((if g then ((kE a0.Kids a.Kids (λ(x:(Formula×Formula))=>rec x.1 x.2)).bind λc=>some c) else some false).bind λh=>some h)))
def tN:Nat→Formula→Formula→Option Bool
 | 0=>λ_ _=>none
 | n+1=>vl (tN n)
def mC (a0:iw) (d:Int) (a2:List Formula):Option (Formula×iw) :=
 ((zr d a2).bind λj=>((nr j (λ(x:Formula)=>rS x (wi0 .i64 (5-d)))).bind λg=>(if g then some ((⟨(wi0 .i64 (5-d)),0,(⟨zS,zS⟩:fQ),[]⟩:Formula),a0) else ((tE j).bind λh=>((qO h (λ(x:(Formula×Formula))=>tN iq x.1 x.2)).bind λa=>(((if (decide ((a.length:Int) > 64)) then some (⟨12⟩:iw) else some a0):Option iw).bind λc=>(if ((a.length:Int)==1) then ((im a 0).bind λi=>some (i,c)) else some ((⟨d,0,(⟨zS,zS⟩:fQ),a⟩:Formula),c))))))))
def jW (a0:iw):List Formula→Int→(List Formula)→Option (Formula×iw)
 | [],c,a=>(if (decide (c≤0)) then (xN.bind λo=>some (o,a0)) else (if (decide (c > (a.length:Int))) then (xP.bind λp=>some (p,a0)) else (if (c==(a.length:Int)) then ((mC a0 2 a).bind λh=>some (h.1,h.2)) else (if (c==1) then ((mC a0 3 a).bind λi=>some (i.1,i.2)) else ((tE a).bind λq=>some ((⟨4,c,(⟨zS,zS⟩:fQ),q⟩:Formula),a0))))))
 | g::d,c,a=>((qK g 2).bind λk=>(if k then (jW a0 d (wi0 .i64 (c-1)) a) else ((qK g 3).bind λn=>(if (!n) then ((ja 72 a ([g])).bind λj=>(jW a0 d c j)) else (jW a0 d c a)))))
def rM (a0:iw) (a:Int) (a2:List Formula):Option (Formula×iw) :=
 jW a0 a2 a ([])
def ow (rec:iw→Formula→Option (Formula×iw)) (n:Formula):List Formula→(List Formula)→iw→Option (Formula×iw)
 | [],a,c=>(if (n.Op==4) then ((rM c n.K a).bind λg=>some (g.1,g.2)) else ((mC c n.Op a).bind λh=>some (h.1,h.2)))
 | k::i,a,c=>((rec c k).bind λd=>((ja 72 a ([d.1])).bind λj=>(ow rec n i j d.2)))
def qU (rec:iw→Formula→Option (Formula×iw)) (a0:iw) (a:Formula):Option (Formula×iw) :=
 (if (a.Op==1) then some (a,a0) else ow rec a a.Kids ([]) a0)
def pq:Nat→iw→Formula→Option (Formula×iw)
 | 0=>λ_ _=>none
 | n+1=>qU (pq n)
def wA (a0:Formula):Option (Formula×Int) :=
 ((oH a0).bind λg=>(if (!g) then some ((⟨0,0,(⟨zS,zS⟩:fQ),[]⟩:Formula),11) else ((pq iq (⟨0⟩:iw) a0).bind λa=>((if (a.2.e != 0) then some true else ((oH a.1).bind λc=>some (!c))).bind λd=>(if d then some ((⟨0,0,(⟨zS,zS⟩:fQ),[]⟩:Formula),12) else some (a.1,0))))))
def zw (a0 c:Formula):Option (Formula×Int) :=
 ((wA (⟨2,0,(⟨zS,zS⟩:fQ),[a0,c]⟩:Formula)).bind λa=>some (a.1,a.2))
def tD :List Formula→Int→Int→Int→fQ→(List Formula)→Option (Int×Int×Int×fQ×(List Formula))
 | [],d,g,h,i,c=>some (d,g,h,i,c)
 | k::j,d,g,h,i,c=>(if (d != 0) then some (d,g,h,i,c) else ((zw (⟨g,h,i,c⟩:Formula) k).bind λa=>(tD j a.2 ((a.1).Op) ((a.1).K) ((a.1).fQ) ((a.1).Kids))))
def Bs (a0:List Formula):Option (Formula×Int) :=
 ((im a0 0).bind λx6=>((wA x6).bind λa=>((kh (decide (0≤1)&&decide (1≤(a0.length:Int)))).bind λ_=>((tD (a0.drop (Int.toNat 1)) a.2 ((a.1).Op) ((a.1).K) ((a.1).fQ) ((a.1).Kids)).bind λ(c,g,h,i,d)=>(if (c != 0) then some ((⟨0,0,(⟨zS,zS⟩:fQ),[]⟩:Formula),c) else some ((⟨g,h,i,d⟩:Formula),0))))))
def vh :List oF→(List Formula)→Option (Formula×Int)
 | [],a=>((Bs a).bind λc=>some (c.1,c.2))
 | h::d,a=>((ja 72 a ([h.pc])).bind λg=>(vh d g))
def Di (a0:nX) (d:fP):Option (Formula×Int) :=
 ((AB a0 d).bind λa=>(if (!a.2) then some ((⟨0,0,(⟨zS,zS⟩:fQ),[]⟩:Formula),42) else ((zi a0 d).bind λc=>vh c ([(a.1).pc]))))
def oP (rec:Formula→(fQ→Option Bool)→Option Bool) (f1:fQ→Option Bool) (a0:Formula):List Formula→Int→Option Bool
 | [],a=>(if (a0.Op==2) then some (a==(a0.Kids.length:Int)) else (if (a0.Op==3) then some (decide (a > 0)) else some (decide (a≥a0.K))))
 | g::c,a=>((rec g f1).bind λd=>(if d then (oP rec f1 a0 c (wi0 .i64 (a+1))) else (oP rec f1 a0 c a)))
def uF (rec:Formula→(fQ→Option Bool)→Option Bool) (a0:Formula) (f1:fQ→Option Bool):Option Bool :=
 (if (a0.Op==1) then ((f1 a0.fQ).bind λa=>some a) else oP rec f1 a0 a0.Kids 0)
def sM:Nat→Formula→(fQ→Option Bool)→Option Bool
 | 0=>λ_ _=>none
 | n+1=>uF (sM n)
def tC (a0:Formula) (f1:fQ→Option Bool):Option Bool :=
 ((oH a0).bind λd=>((if d then ((sM iq a0 f1).bind λa=>some a) else some false).bind λc=>some c))
def xt (a0:fQ) (h:List (fQ×(List (ByteArray×Bool)))) (a:List fP) (g:List (fQ×(List fP))) (c:List (ByteArray×(List fP))) (d:List jD) (i:Int) (c1:ByteArray):Option Bool :=
 ((sx h a g c d i a0 c1).bind λj=>some j)
def qc (a0:nX) (d:((List (fQ×(List (ByteArray×Bool))))×(List fP)×(List (fQ×(List fP)))×(List (ByteArray×(List fP)))×(List jD)×Int×ByteArray)):List kk→(List fP)→Option (List fP)
 | [],a=>((Dq a).bind λj=>some j)
 | g::c,a=>((Di a0 g.Signed.fP).bind λr417=>((if (r417.2==0) then ((tC r417.1 (λ(x:fQ)=>xt x d.1 d.2.1 d.2.2.1 d.2.2.2.1 d.2.2.2.2.1 d.2.2.2.2.2.1 d.2.2.2.2.2.2)).bind λi=>some i) else some false).bind λk=>(if k then ((ja 136 a ([g.Signed.fP])).bind λh=>(qc a0 d c h)) else (qc a0 d c a))))
def vH (a0:nX) (a:List fP) (a2:ByteArray):Option (List fP) :=
 ((Bb a a2).bind λc=>qc a0 c a0.qY ([]))
def tG (a0 k:nX):Nat→(List fP)→(List fP)→Int→Option ((List fP)×(List fP)×Int)
 | 0,_,_,_=>none
 | i+1,a,c,h=>((vH a0 c k.Name).bind λd=>((vH k a a0.Name).bind λg=>((if ((d.length:Int)==(a.length:Int)) then some ((g.length:Int)==(c.length:Int)) else some false).bind λj=>(if j then some (a,c,h) else (tG a0 k i d g (wi0 .i64 (h+1)))))))
def Bq (a0 a:nX):Option ((List fP)×(List fP)×Int) :=
 tG a0 a iq ([]) ([]) 0
def mK (rec:(List Formula)→Option Int):List Formula→Int→Option Int
 | [],c=>some c
 | a::g,c=>((rec a.Kids).bind λd=>(mK rec g (wi0 .i64 (c+(wi0 .i64 ((wi0 .i64 (1+(wi0 .i64 (Int.tdiv (wi0 .i64 ((a.fQ.fX.size:Int)+(a.fQ.Word.size:Int))) 16))))+d))))))
def rp (rec:(List Formula)→Option Int) (a0:List Formula):Option Int :=
 mK rec a0 0
def lY:Nat→(List Formula)→Option Int
 | 0=>λ_=>none
 | n+1=>rp (lY n)
def mz :List oF→Int→Option Int
 | [],c=>some c
 | a::d,c=>((lY iq ([a.pc])).bind λg=>((mU a.qR).bind λh=>(mz d (wi0 .i64 (c+(wi0 .i64 ((wi0 .i64 ((wi0 .i64 ((a.fQ.fX.size:Int)+(a.fQ.Word.size:Int)))+(wi0 .i64 (20*g))))+h)))))))
def mI (a0:nX):List kk→Int→Option Int
 | [],a=>((mz a0.uv a).bind λd=>some d)
 | c::g,a=>((((lZ ([]) ([c.Signed])).bind λj=>some (j,([c.pc]))):Option (Int×(List Formula))).bind λ(k,h)=>((lY iq h).bind λi=>(mI a0 g (wi0 .i64 (a+(wi0 .i64 (k+(wi0 .i64 (20*i)))))))))
def vg (a0:nX):Option Int :=
 mI a0 a0.qY (a0.Name.size:Int)
def zm (a0 d:nX):Option ((List fP)×(List (fQ×(List (ByteArray×Bool))))×(List fP)×(List (fQ×(List fP)))×(List (ByteArray×(List fP)))×(List jD)×Int×ByteArray) :=
 ((Bq a0 d).bind λc=>((xv c.2.1).bind λa=>some (c.2.1,a.1,a.2.1,a.2.2.1,a.2.2.2.1,a.2.2.2.2.1,a.2.2.2.2.2,d.Name)))
def wM (a0:fQ) (h:List (fQ×(List (ByteArray×Bool)))) (a:List fP) (g:List (fQ×(List fP))) (c:List (ByteArray×(List fP))) (d:List jD) (j:Int) (i:ByteArray) (k:List kk) (n:List oF):Option Bool :=
 ((sx h a g c d j a0 i).bind λo=>some o)
def xx (a0 c:nX) (a2:Formula):Option Bool :=
 ((zm a0 c).bind λa=>((tC a2 (λ(x:fQ)=>wM x a.2.1 a.2.2.1 a.2.2.2.1 a.2.2.2.2.1 a.2.2.2.2.2.1 a.2.2.2.2.2.2.1 a.2.2.2.2.2.2.2 c.qY c.uv)).bind λd=>some d))
def kZ (a0:List fQ):Option (List fQ) :=
 ((ja 32 ([]) a0).bind λa=>some a)
def jz (f1:fQ→Option Bool):List fQ→Nat→Option Int
 | [],_=>some (-1)
 | d::a,i35=>((f1 d).bind λc=>(if c then some (i35:Int) else (jz f1 a (i35+1))))
def mQ (a0:List fQ) (f1:fQ→Option Bool):Option Int :=
 jz f1 a0 0
def iW (f1:fQ→Option Bool):Nat→(List fQ)→Int→Int→Option (List fQ)
 | 0,_,_,_=>none
 | n321+1,c,a,d=>(if (decide (d < (c.length:Int))) then ((((im c d).bind λg=>((f1 g).bind λi=>(if (!i) then ((im c a).bind λk=>some ((c.set (Int.toNat a) g),(wi0 .i64 (a+1)))) else some (c,a)))):Option ((List fQ)×Int)).bind λ(h,j)=>(iW f1 n321 h j (wi0 .i64 (d+1)))) else ((kh (decide (0≤a)&&decide (a≤(c.length:Int)))).bind λ_=>((kh (decide (0≤a)&&decide (a≤((jE c (Int.toNat a) (⟨zS,zS⟩:fQ)).length:Int)))).bind λ_=>some ((jE c (Int.toNat a) (⟨zS,zS⟩:fQ)).take (Int.toNat a)))))
def kJ (a0:List fQ) (f1:fQ→Option Bool):Option (List fQ) :=
 ((mQ a0 f1).bind λa=>(if (a==(-1)) then some a0 else iW f1 iq a0 a (wi0 .i64 (a+1))))
def pK (a0:fQ):Option Bool :=
 ((jB a0).bind λa=>some (!a))
def jo (c:Int):Nat→(List fQ)→Int→Int→Option ((List fQ)×Int)
 | 0,_,_,_=>none
 | i+1,a,d,g=>(if (decide (g < ((a.length-(Int.toNat c):Nat):Int))) then ((((im (a.drop (Int.toNat c)) g).bind λk=>((im (a.drop (Int.toNat c)) (wi0 .i64 (g-1))).bind λn=>(if (!(gW k n)) then ((im (a.drop (Int.toNat c)) g).bind λo=>((im a d).bind λp=>some ((a.set (Int.toNat d) o),(wi0 .i64 (d+1))))) else some (a,d)))):Option ((List fQ)×Int)).bind λ(h,j)=>(jo c i h j (wi0 .i64 (g+1)))) else some (a,d))
def jq (a0:List fQ):Nat→Int→Option (List fQ)
 | 0,_=>none
 | g+1,a=>(if (decide (a < (a0.length:Int))) then ((im a0 a).bind λh=>((im a0 (wi0 .i64 (a-1))).bind λi=>(if (gW h i) then ((kh (decide (0≤a)&&decide (a≤(a0.length:Int)))).bind λ_=>((jo a iq a0 a 1).bind λ(d,c)=>((kh (decide (0≤c)&&decide (c≤(d.length:Int)))).bind λ_=>((kh (decide (0≤c)&&decide (c≤((jE d (Int.toNat c) (⟨zS,zS⟩:fQ)).length:Int)))).bind λ_=>some ((jE d (Int.toNat c) (⟨zS,zS⟩:fQ)).take (Int.toNat c)))))) else (jq a0 g (wi0 .i64 (a+1)))))) else some a0)
def lP (a0:List fQ):Option (List fQ) :=
 (if (decide ((a0.length:Int) < 2)) then some a0 else jq a0 iq 1)
def rU (a0:List fQ):Option (List fQ) :=
 ((kZ a0).bind λg=>((kJ g (λ(x:fQ)=>pK x)).bind λa=>((rR (λ(x:(fQ×fQ))=>lj x.1 x.2) a).bind λc=>((lP c).bind λd=>some d))))
def jH (g:List fQ):List fQ→Nat→Option Bool
 | [],_=>some true
 | d::c,i90=>((im g (i90:Int)).bind λa=>(if (!(gW d a)) then some false else (jH g c (i90+1))))
def kY (a0 a:List fQ):Option Bool :=
 (if ((a0.length:Int) != (a.length:Int)) then some false else jH a a0 0)
def uh (a0:ie):Option ie :=
 (((if (a0.Kind==1) then some (a0.gY,0,a0.Name,([]),([])) else (if (a0.Kind==2) then some (0,0,zS,a0.gA,a0.gv) else (if (a0.Kind==5) then some (0,a0.E,zS,([]),([])) else some (0,0,zS,([]),([]))))):Option (Int×Int×ByteArray×(List fQ)×(List Signed))).bind λ(d,g,h,a,c)=>some (⟨a0.Kind,d,g,h,a,c⟩:ie))
def gi (h:List Signed) (f2:(Signed×Signed)→Option Bool):List Signed→Nat→Option Bool
 | [],_=>some true
 | g::d,i95=>((im h (i95:Int)).bind λc=>((f2 (g,c)).bind λa=>(if (!a) then some false else (gi h f2 d (i95+1)))))
def gD (a0 a:List Signed) (f2:(Signed×Signed)→Option Bool):Option Bool :=
 (if ((a0.length:Int) != (a.length:Int)) then some false else gi a f2 a0 0)
def jO (a0 d:Signed):Option Bool :=
 ((if (lQ a0.fP d.fP) then ((mV a0.Tag d.Tag).bind λa=>some a) else some false).bind λc=>some c)
def oa (a0 a:ie):Option Bool :=
 ((if (a0.Kind==a.Kind) then some (a0.gY==a.gY) else some false).bind λg=>((if g then some (a0.E==a.E) else some false).bind λh=>((if h then some (gS a0.Name a.Name) else some false).bind λi=>((if i then ((kY a0.gA a.gA).bind λd=>some d) else some false).bind λj=>((if j then ((gD a0.gv a.gv (λ(x:(Signed×Signed))=>jO x.1 x.2)).bind λc=>some c) else some false).bind λk=>some k)))))
def rc (a0:List fQ):Option Bool :=
 ((if (decide ((a0.length:Int)≤16)) then ((rU a0).bind λa=>((kY a a0).bind λc=>some c)) else some false).bind λd=>some d)
def mv (a0:List Signed):List Signed→Nat→Option Bool
 | [],_=>some (decide ((a0.length:Int)≤8))
 | c::d,a=>((jC c.fP).bind λg=>((if (!g) then some true else some ((c.Tag.length:Int) != 8)).bind λi=>((if i then some true else ((if (decide ((a:Int) > 0)) then ((im a0 (wi0 .i64 ((a:Int)-1))).bind λn=>((my n.fP c.fP).bind λh=>some (decide (h≥0)))) else some false).bind λk=>some k)).bind λj=>(if j then some false else (mv a0 d (a+1))))))
def tw (a0:List Signed):Option Bool :=
 mv a0 a0 0
def js (a0:ie):Option Bool :=
 ((uh a0).bind λh=>((oa h a0).bind λi=>(if (!i) then some false else (if (a0.Kind==1) then ((kl a0.Name).bind λj=>((if j then ((if (a0.gY==1) then some true else some (a0.gY==2)).bind λo=>some o) else some false).bind λn=>some n)) else (if (a0.Kind==2) then ((rc a0.gA).bind λk=>((if k then ((tw a0.gv).bind λa=>some a) else some false).bind λc=>some c)) else (if (a0.Kind==5) then ((if (decide (a0.E≥1)) then some (decide (a0.E≤99)) else some false).bind λd=>some d) else ((if (a0.Kind==3) then some true else some (a0.Kind==4)).bind λg=>some g)))))))
def oE (g:List fQ):List fQ→Nat→Option Bool
 | [],_=>some true
 | d::c,i90=>((im g (i90:Int)).bind λa=>(if (!(gW d a)) then some false else (oE g c (i90+1))))
structure fV where
 b:List Int
 over:Bool
def pS (a c:List Int):Option (Bool×(List Int)) :=
 ((ja 1 a c).bind λd=>some (true,d))
def qq (a:List Int) (g:Signed):Option (Bool×(List Int)) :=
 ((jC g.fP).bind λk=>((if (!k) then some true else some ((g.Tag.length:Int) != 8)).bind λn=>(if n then some (false,a) else ((mE g.fP).bind λi=>((pS a i).bind λc=>(((if c.1 then ((jk c.2 g.Tag).bind λd=>some (d.1,d.2)) else some (false,c.2)):Option (Bool×(List Int))).bind λ(j,h)=>some (j,h)))))))
def mc (c:List Int) (a:Bool):Option Bool :=
 some a
def gM (a0:fV) (a:Int):Option (Int ⊕ Unit) :=
 ((if (!a0.over) then some (a != 0) else some false).bind λx2=>(if x2 then some (Sum.inl a) else some (Sum.inr ())))
def mi (a0:fV) (q:Int):Option (Int ⊕ (Int×fV)) :=
 (((if (q==9) then ((gM a0 11).bind λn=>match n with | .inl h=>some (Sum.inl (Sum.inl h)) | .inr w=>some (Sum.inr ())) else some (Sum.inr ())):Option ((Int ⊕ (Int×fV)) ⊕ Unit)).bind λs=>match s with | .inl i=>some i | .inr _=>(((if ((a0.b.length:Int)==0) then ((gM a0 10).bind λk=>match k with | .inl d=>some (Sum.inl (Sum.inl d)) | .inr v=>some (Sum.inr ())) else some (Sum.inr ())):Option ((Int ⊕ (Int×fV)) ⊕ Unit)).bind λs=>match s with | .inl g=>some g | .inr _=>((im a0.b 0).bind λp=>((kh (decide (0≤1)&&decide (1≤(a0.b.length:Int)))).bind λ_=>((((if (p==0) then some (decide (q > 0)) else some false).bind λo=>(if o then ((gM (⟨(a0.b.drop (Int.toNat 1)),a0.over⟩:fV) 11).bind λj=>match j with | .inl a=>some (Sum.inl (Sum.inl a)) | .inr u=>some (Sum.inr ())) else some (Sum.inr ()))):Option ((Int ⊕ (Int×fV)) ⊕ Unit)).bind λs=>match s with | .inl c=>some c | .inr _=>some (Sum.inr (p,(⟨(a0.b.drop (Int.toNat 1)),a0.over⟩:fV))))))))
def iN (p:Int):Nat→Int→Int→(List Int)→Bool→Option (Int ⊕ (Int×fV))
 | 0,_,_,_,_=>none
 | n161+1,d,c,g,o=>((mi (⟨g,o⟩:fV) c).bind λn=>match n with | .inl h=>some (Sum.inl h) | .inr a=>((kh (decide (0≤(wi0 .i64 (7*c))))).bind λ_=>(if (decide (a.1 < 128)) then (((if (decide ((wi0 .i64 (BitVec.ofInt (IntKind.bits .i64) d ||| BitVec.ofInt (IntKind.bits .i64) (wi0 .i64 ((wi0 .i64 (IntKind.u8.wrap (BitVec.ofInt (IntKind.bits .u8) a.1 &&& BitVec.ofInt (IntKind.bits .u8) 127).toNat))*2 ^ min (Int.toNat (wi0 .i64 (7*c))) (IntKind.bits .i64)))).toNat) > p)) then ((gM a.2 12).bind λk=>match k with | .inl i=>some (Sum.inl (Sum.inl i)) | .inr q=>some (Sum.inr ())) else some (Sum.inr ())):Option ((Int ⊕ (Int×fV)) ⊕ Unit)).bind λs=>match s with | .inl j=>some j | .inr _=>some (Sum.inr ((wi0 .i64 (BitVec.ofInt (IntKind.bits .i64) d ||| BitVec.ofInt (IntKind.bits .i64) (wi0 .i64 ((wi0 .i64 (IntKind.u8.wrap (BitVec.ofInt (IntKind.bits .u8) a.1 &&& BitVec.ofInt (IntKind.bits .u8) 127).toNat))*2 ^ min (Int.toNat (wi0 .i64 (7*c))) (IntKind.bits .i64)))).toNat),a.2))) else (iN p n161 (wi0 .i64 (BitVec.ofInt (IntKind.bits .i64) d ||| BitVec.ofInt (IntKind.bits .i64) (wi0 .i64 ((wi0 .i64 (IntKind.u8.wrap (BitVec.ofInt (IntKind.bits .u8) a.1 &&& BitVec.ofInt (IntKind.bits .u8) 127).toNat))*2 ^ min (Int.toNat (wi0 .i64 (7*c))) (IntKind.bits .i64)))).toNat) (wi0 .i64 (c+1)) ((a.2).b) ((a.2).over)))))
def ij (a0:fV) (a:Int):Option (Int ⊕ (Int×fV)) :=
 ((mc a0.b a0.over).bind λc=>(if c then some (Sum.inr (0,a0)) else iN a iq 0 0 a0.b a0.over))
def jw (a0:fV) (p:Int):Option (Int ⊕ ((List Int)×fV)) :=
 ((mc a0.b a0.over).bind λq=>(if q then some (Sum.inr ([],a0)) else ((ij a0 9223372036854775807).bind λj=>match j with | .inl k=>some (Sum.inl k) | .inr a=>(((if (decide (a.1 > p)) then ((gM a.2 12).bind λh=>match h with | .inl c=>some (Sum.inl (Sum.inl c)) | .inr u=>some (Sum.inr ())) else (if (decide (a.1 > (((a.2).b).length:Int))) then ((gM a.2 10).bind λi=>match i with | .inl d=>some (Sum.inl (Sum.inl d)) | .inr o=>some (Sum.inr ())) else some (Sum.inr ()))):Option ((Int ⊕ ((List Int)×fV)) ⊕ Unit)).bind λs=>match s with | .inl g=>some g | .inr _=>((kh (decide (0≤a.1)&&decide (a.1≤(((a.2).b).length:Int)))).bind λ_=>((jF (((a.2).b).take (Int.toNat a.1))).bind λn=>((kh (decide (0≤a.1)&&decide (a.1≤(((a.2).b).length:Int)))).bind λ_=>some (Sum.inr (n,(⟨(((a.2).b).drop (Int.toNat a.1)),(a.2).over⟩:fV))))))))))
def lI (a0:fV):Option (Int ⊕ (ByteArray×fV)) :=
 ((jw a0 16).bind λi=>match i with | .inl c=>some (Sum.inl c) | .inr a=>((kl (nR a.1)).bind λg=>(if (!g) then ((gM a.2 30).bind λh=>match h with | .inl d=>some (Sum.inl d) | .inr j=>some (Sum.inr (zS,a.2))) else some (Sum.inr ((nR a.1),a.2)))))
def kP (a0:fV):Option (Int ⊕ (fQ×fV)) :=
 ((lI a0).bind λh=>match h with | .inl c=>some (Sum.inl c) | .inr i=>((lI i.2).bind λg=>match g with | .inl d=>some (Sum.inl d) | .inr a=>some (Sum.inr ((⟨i.1,a.1⟩:fQ),a.2))))
def qv (a0:fV):Option (Int ⊕ (fP×fV)) :=
 ((ij a0 9223372036854775807).bind λY=>match Y with | .inl a1=>some (Sum.inl a1) | .inr c=>((((if (decide (c.1 < 1)) then some true else some (decide (c.1 > 4))).bind λZ=>(if Z then ((gM c.2 11).bind λW=>match W with | .inl G=>some (Sum.inl (Sum.inl G)) | .inr a8=>some (Sum.inr ())) else some (Sum.inr ()))):Option ((Int ⊕ (fP×fV)) ⊕ Unit)).bind λs=>match s with | .inl I=>some I | .inr _=>((kP c.2).bind λU=>match U with | .inl a6=>some (Sum.inl a6) | .inr a=>(((if (c.1==1) then ((lI a.2).bind λM=>match M with | .inl u=>some (Sum.inl (Sum.inl u)) | .inr g=>some (Sum.inr ((⟨c.1,a.1,g.1,(⟨zS,zS⟩:fQ),(⟨zS,zS⟩:fQ),zS⟩:fP),((g.2).b),((g.2).over)))) else (if (c.1==2) then ((kP a.2).bind λO=>match O with | .inl v=>some (Sum.inl (Sum.inl v)) | .inr h=>some (Sum.inr ((⟨c.1,a.1,zS,h.1,(⟨zS,zS⟩:fQ),zS⟩:fP),((h.2).b),((h.2).over)))) else (if (c.1==3) then ((kP a.2).bind λQ=>match Q with | .inl w=>some (Sum.inl (Sum.inl w)) | .inr n=>((lI n.2).bind λP=>match P with | .inl x=>some (Sum.inl (Sum.inl x)) | .inr i=>some (Sum.inr ((⟨c.1,a.1,zS,n.1,(⟨zS,zS⟩:fQ),i.1⟩:fP),((i.2).b),((i.2).over))))) else (if (c.1==4) then ((kP a.2).bind λT=>match T with | .inl y=>some (Sum.inl (Sum.inl y)) | .inr o=>((kP o.2).bind λR=>match R with | .inl z=>some (Sum.inl (Sum.inl z)) | .inr j=>some (Sum.inr ((⟨c.1,a.1,zS,o.1,j.1,zS⟩:fP),((j.2).b),((j.2).over))))) else some (Sum.inr ((⟨c.1,a.1,zS,(⟨zS,zS⟩:fQ),(⟨zS,zS⟩:fQ),zS⟩:fP),((a.2).b),((a.2).over))))))):Option ((Int ⊕ (fP×fV)) ⊕ (fP×(List Int)×Bool))).bind λs=>match s with | .inl A=>some A | .inr (p,d,k)=>((jC p).bind λJ=>(if (!J) then ((gM (⟨d,k⟩:fV) 11).bind λL=>match L with | .inl q=>some (Sum.inl q) | .inr a7=>some (Sum.inr ((⟨0,(⟨zS,zS⟩:fQ),zS,(⟨zS,zS⟩:fQ),(⟨zS,zS⟩:fQ),zS⟩:fP),(⟨d,k⟩:fV)))) else some (Sum.inr (p,(⟨d,k⟩:fV)))))))))
def qw (a0:fV):Option (Int ⊕ (Signed×fV)) :=
 ((qv a0).bind λj=>match j with | .inl c=>some (Sum.inl c) | .inr k=>((jw k.2 8).bind λi=>match i with | .inl d=>some (Sum.inl d) | .inr a=>(if ((a.1.length:Int) != 8) then ((gM a.2 11).bind λh=>match h with | .inl g=>some (Sum.inl g) | .inr n=>some (Sum.inr ((⟨(⟨0,(⟨zS,zS⟩:fQ),zS,(⟨zS,zS⟩:fQ),(⟨zS,zS⟩:fQ),zS⟩:fP),[]⟩:Signed),a.2))) else some (Sum.inr ((⟨k.1,a.1⟩:Signed),a.2)))))
structure FT where
 key:fP
 text:ByteArray
 sign:ByteArray
structure F6 where
 key:fQ
 text:ByteArray
 sign:ByteArray
def kI (a0:fQ):Option ByteArray :=
 ((jT a0.fX (⟨#[46]⟩:ByteArray)).bind λa=>((jT a a0.Word).bind λc=>some c))
def tp (a0:fP):Option ByteArray :=
 (if (a0.Kind==1) then some a0.ir else (if (a0.Kind==2) then ((kI a0.B).bind λk=>some k) else (if (a0.Kind==3) then ((kI a0.B).bind λa=>((jT a (⟨#[46]⟩:ByteArray)).bind λg=>((jT g a0.gT).bind λh=>some h))) else ((kI a0.B).bind λc=>((jT c (⟨#[32,38,32]⟩:ByteArray)).bind λi=>((kI a0.C).bind λd=>((jT i d).bind λj=>some j)))))))
def px (a0:fP):Option ByteArray :=
 ((jC a0).bind λh=>(if (!h) then some zS else ((kI a0.Head).bind λa=>((jT a (⟨#[32,60,45,32]⟩:ByteArray)).bind λd=>((tp a0).bind λc=>((jT d c).bind λg=>some g))))))
def nL (a0:fQ):Option ByteArray :=
 ((jT a0.fX (⟨#[46]⟩:ByteArray)).bind λa=>((jT a a0.Word).bind λc=>some c))
def vy (a0:fP):Option ByteArray :=
 ((nL a0.Head).bind λp=>((jT p (⟨#[32,60,45,32]⟩:ByteArray)).bind λo=>(if (a0.Kind==1) then ((jT o a0.ir).bind λq=>some q) else ((nL a0.B).bind λd=>((jT o d).bind λa=>(((if (a0.Kind==3) then ((jT (⟨#[46]⟩:ByteArray) a0.gT).bind λj=>((jT a j).bind λk=>some k)) else some a):Option ByteArray).bind λc=>(((if (a0.Kind==4) then ((nL a0.C).bind λg=>((jT (⟨#[32,38,32]⟩:ByteArray) g).bind λh=>((jT c h).bind λi=>some i))) else some c):Option ByteArray).bind λn=>some n)))))))
structure rH where
 Out:Bool
 B:List Int
def oh :Option (List ByteArray) :=
 some [zS,(⟨#[101,97,103,101,114]⟩:ByteArray),(⟨#[116,104,114,105,102,116,121]⟩:ByteArray)]
def mB (d:ByteArray):List ByteArray→Nat→Option Int
 | [],_=>some (-1)
 | c::a,i26=>(if (gS d c) then some (i26:Int) else (mB d a (i26+1)))
def nB (a0:List ByteArray) (a:ByteArray):Option Int :=
 mB a a0 0
def iT (a0 a:ByteArray):Option Bool :=
 ((if (decide ((a0.size:Int)≥(a.size:Int))) then ((nO a0 0 (a.size:Int)).bind λc=>some (gS c a)) else some false).bind λx4=>some x4)
def kp (a0 a:ByteArray):Option ByteArray :=
 ((iT a0 a).bind λc=>(if c then ((nO a0 (a.size:Int) (a0.size:Int)).bind λx5=>some x5) else some a0))
def mg (a0 a:ByteArray):Option ByteArray :=
 ((kp a0 a).bind λc=>some c)
def lT (a0 a:ByteArray):Option (List ByteArray) :=
 (if (gS a0 (⟨#[110,111,110,101]⟩:ByteArray)) then some [] else ((se a0 a).bind λc=>some c))
def jU (a0:ByteArray):Option (fQ×Bool) :=
 ((mm a0 (⟨#[46]⟩:ByteArray)).bind λa=>((jB (⟨a.1,a.2.1⟩:fQ)).bind λc=>(if (!c) then some ((⟨zS,zS⟩:fQ),false) else some ((⟨a.1,a.2.1⟩:fQ),true))))
def sX (a0:fQ) (a:ByteArray):Option fP :=
 ((mm a (⟨#[32,38,32]⟩:ByteArray)).bind λj=>((jU j.1).bind λo=>((jU j.2.1).bind λd=>((re a (⟨#[46]⟩:ByteArray)).bind λc=>(if j.2.2 then some (⟨4,a0,zS,o.1,d.1,zS⟩:fP) else ((sv a (⟨#[46]⟩:ByteArray)).bind λg=>(if (g==0) then some (⟨1,a0,a,(⟨zS,zS⟩:fQ),(⟨zS,zS⟩:fQ),zS⟩:fP) else ((sv a (⟨#[46]⟩:ByteArray)).bind λh=>(if (h==1) then some (⟨2,a0,zS,o.1,(⟨zS,zS⟩:fQ),zS⟩:fP) else ((nO a 0 c).bind λk=>((jU k).bind λi=>((nO a (wi0 .i64 (c+1)) (a.size:Int)).bind λn=>some (⟨3,a0,zS,i.1,(⟨zS,zS⟩:fQ),n⟩:fP)))))))))))))
def qt (a0:ByteArray):Option (fP×Bool) :=
 ((mm a0 (⟨#[32,60,45,32]⟩:ByteArray)).bind λd=>((jU d.1).bind λh=>((if (!d.2.2) then some true else some (!h.2)).bind λg=>(if g then some ((⟨0,(⟨zS,zS⟩:fQ),zS,(⟨zS,zS⟩:fQ),(⟨zS,zS⟩:fQ),zS⟩:fP),false) else ((sX h.1 d.2.1).bind λa=>((px a).bind λc=>(if (!(gS c a0)) then some ((⟨0,(⟨zS,zS⟩:fQ),zS,(⟨zS,zS⟩:fQ),(⟨zS,zS⟩:fQ),zS⟩:fP),false) else some (a,true))))))))
def kw :Nat→ByteArray→(List Int)→Option (List Int)
 | 0,_,_=>none
 | n307+1,a,c=>(if (decide ((a.size:Int)≥2)) then ((pu a 0).bind λh=>((pu a 1).bind λi=>((ji (⟨#[48,49,50,51,52,53,54,55,56,57,97,98,99,100,101,102]⟩:ByteArray) (h.toNat:Int)).bind λd=>((ji (⟨#[48,49,50,51,52,53,54,55,56,57,97,98,99,100,101,102]⟩:ByteArray) (i.toNat:Int)).bind λg=>((if (decide (d < 0)) then some true else some (decide (g < 0))).bind λk=>(if k then some [] else ((ja 1 c ([(IntKind.u8.wrap (wi0 .i64 ((wi0 .i64 (16*d))+g)))])).bind λj=>((nO a 2 (a.size:Int)).bind λn=>(kw n307 n j))))))))) else some c)
def rD (a0:ByteArray):Option (List Int) :=
 kw iq a0 ([])
def kT :List ByteArray→(List Signed)→Option (List Signed)
 | [],c=>some c
 | a::g,c=>((re a (⟨#[32]⟩:ByteArray)).bind λd=>((nO a 0 (if 0 > d then 0 else d)).bind λk=>((qt k).bind λi=>((nO a (wi0 .i64 (d+1)) (a.size:Int)).bind λn=>((rD n).bind λj=>((ja 160 c ([(⟨i.1,j⟩:Signed)])).bind λh=>(kT g h)))))))
def ke (k:(ByteArray×ByteArray×Bool)):List ByteArray→(List fQ)→Option ie
 | [],a=>((lT k.2.1 (⟨#[59,32]⟩:ByteArray)).bind λi=>((kT i ([])).bind λg=>some (⟨2,0,0,zS,a,g⟩:ie)))
 | j::c,a=>((jU j).bind λh=>((ja 32 a ([h.1])).bind λd=>(ke k c d)))
def ph (a0:ByteArray):Option ie :=
 ((mg a0 (⟨#[119,97,110,116,115,32]⟩:ByteArray)).bind λd=>((mm d (⟨#[32,115,104,111,119,115,32]⟩:ByteArray)).bind λc=>((lT c.1 (⟨#[44,32]⟩:ByteArray)).bind λa=>ke c a ([]))))
def ku (a0:ByteArray):Option ie :=
 ((mm a0 (⟨#[32]⟩:ByteArray)).bind λa=>(if (gS a.1 (⟨#[104,101,108,108,111]⟩:ByteArray)) then ((mm a.2.1 (⟨#[32]⟩:ByteArray)).bind λi=>(oh.bind λc=>((nB c i.2.1).bind λd=>some (⟨1,d,0,i.1,[],[]⟩:ie)))) else (if (gS a.1 (⟨#[116,117,114,110]⟩:ByteArray)) then ((ph a.2.1).bind λg=>some g) else (if (gS a.1 (⟨#[103,114,97,110,116]⟩:ByteArray)) then some (⟨3,0,0,zS,[],[]⟩:ie) else (if (gS a.1 (⟨#[102,97,105,108]⟩:ByteArray)) then some (⟨4,0,0,zS,[],[]⟩:ie) else ((uu a.2.1).bind λh=>some (⟨5,0,h,zS,[],[]⟩:ie)))))))
def mw :List Int→(List Int)→Option ByteArray
 | [],a=>some (nR a)
 | c::d,a=>((pu (⟨#[48,49,50,51,52,53,54,55,56,57,97,98,99,100,101,102]⟩:ByteArray) (Int.fdiv c (2 ^ min (Int.toNat 4) (IntKind.bits .u8)))).bind λg=>((pu (⟨#[48,49,50,51,52,53,54,55,56,57,97,98,99,100,101,102]⟩:ByteArray) (IntKind.u8.wrap (BitVec.ofInt (IntKind.bits .u8) c &&& BitVec.ofInt (IntKind.bits .u8) 15).toNat)).bind λh=>((ja 1 a ([(g.toNat:Int),(h.toNat:Int)])).bind λi=>(mw d i))))
def sZ (a0:List Int):Option ByteArray :=
 mw a0 ([])
def nM (a0:List ByteArray) (a:ByteArray):Option ByteArray :=
 (if ((a0.length:Int)==0) then some (⟨#[110,111,110,101]⟩:ByteArray) else ((xh a0 a).bind λc=>some c))
def lL :List Signed→(List ByteArray)→Option (List ByteArray)
 | [],a=>some a
 | c::d,a=>((px c.fP).bind λh=>((jT h (⟨#[32]⟩:ByteArray)).bind λj=>((sZ c.Tag).bind λi=>((jT j i).bind λk=>((ja 16 a ([k])).bind λg=>(lL d g))))))
def kO (a0:ie):List fQ→(List ByteArray)→Option ByteArray
 | [],a=>((lL a0.gv ([])).bind λd=>((nM a (⟨#[44,32]⟩:ByteArray)).bind λh=>((jT (⟨#[116,117,114,110,32,119,97,110,116,115,32]⟩:ByteArray) h).bind λj=>((jT j (⟨#[32,115,104,111,119,115,32]⟩:ByteArray)).bind λk=>((nM d (⟨#[59,32]⟩:ByteArray)).bind λi=>((jT k i).bind λn=>some n))))))
 | p::o,a=>((kI p).bind λg=>((ja 16 a ([g])).bind λc=>(kO a0 o c)))
def qz (a0:ie):Option ByteArray :=
 kO a0 a0.gA ([])
def jV (a0:ie):Option ByteArray :=
 ((js a0).bind λn=>(if (!n) then some zS else (if (a0.Kind==1) then ((jT (⟨#[104,101,108,108,111,32]⟩:ByteArray) a0.Name).bind λg=>((jT g (⟨#[32]⟩:ByteArray)).bind λh=>(oh.bind λa=>((im a a0.gY).bind λk=>((jT h k).bind λi=>some i))))) else (if (a0.Kind==2) then ((qz a0).bind λc=>some c) else (if (a0.Kind==3) then some (⟨#[103,114,97,110,116]⟩:ByteArray) else (if (a0.Kind==4) then some (⟨#[102,97,105,108]⟩:ByteArray) else ((vS a0.E).bind λd=>((jT (⟨#[97,98,111,114,116,32]⟩:ByteArray) d).bind λj=>some j))))))))
def lX (a0:ByteArray):Option (ie×Bool) :=
 ((ku a0).bind λd=>((if (gS a0 zS) then some true else ((jV d).bind λa=>some (!(gS a a0)))).bind λc=>(if c then some ((⟨0,0,0,zS,[],[]⟩:ie),false) else some (d,true))))
def la (a0 a:ByteArray):Option Bool :=
 ((iT a0 a).bind λc=>some c)
def mx :List Signed→(List Int)→Option (List Int)
 | [],a=>some a
 | g::c,a=>((qq a g).bind λd=>(mx c d.2))
def lm (j:ie):List fQ→(List Int)→Option (List Int)
 | [],a=>((gI a (j.gv.length:Int)).bind λh=>((mx j.gv h.2).bind λd=>some d))
 | i::c,a=>((jN a i).bind λg=>(lm j c g.2))
def nl (d:List Int) (a:ie):Option (Bool×(List Int)) :=
 ((js a).bind λn=>(if (!n) then some (false,d) else ((gI d a.Kind).bind λc=>(((if (a.Kind==1) then ((lE c.2 a.Name).bind λh=>((gI h.2 a.gY).bind λi=>some i.2)) else (if (a.Kind==2) then ((gI c.2 (a.gA.length:Int)).bind λj=>lm a a.gA j.2) else (if (a.Kind==5) then ((gI c.2 a.E).bind λk=>some k.2) else some c.2))):Option (List Int)).bind λg=>some (true,g)))))
def lx (a0:ie):Option (List Int) :=
 ((nl ([]) a0).bind λc=>((jv c.2).bind λa=>some a))
def qM (a0:Int):Option (List Int) :=
 ((gI ([]) a0).bind λc=>((jv c.2).bind λa=>some a))
def nF (c:Int):List Int→Nat→(List Int)→Option (List Int)
 | [],_,a=>some a
 | h::d,i71,a=>((kh (decide (0≤(wi0 .i64 (8*(wi0 .i64 (7-(i71:Int)))))))).bind λ_=>((im a (i71:Int)).bind λg=>(nF c d (i71+1) (a.set (Int.toNat (i71:Int)) (IntKind.u8.wrap (Int.fdiv c (2 ^ min (Int.toNat (wi0 .i64 (8*(wi0 .i64 (7-(i71:Int)))))) (IntKind.bits .u64))))))))
def pF (a0:Int) (d:List Int):Option (List Int) :=
 ((qM a0).bind λg=>((vD ([g,d])).bind λc=>((tO 1 0 8).bind λa=>nF c a 0 a)))
def sr (a0:Int) (a:List Int):Option (List Int) :=
 ((if (decide (a0 < 1)) then some true else some (decide (a0 > 1099511627776))).bind λx2=>((if x2 then some true else some (decide ((a.length:Int) > 2048))).bind λj=>(if j then some [] else ((gI ([]) a0).bind λc=>((jk c.2 a).bind λd=>((pF a0 a).bind λg=>((jk d.2 g).bind λh=>((jv h.2).bind λi=>some i))))))))
def mG (a0:Int) (d:ie):Option (List Int) :=
 ((js d).bind λg=>(if (!g) then some [] else ((lx d).bind λa=>((sr a0 a).bind λc=>some c))))
def sc (a0:Bool):Option ByteArray :=
 (if a0 then some (⟨#[62,32]⟩:ByteArray) else some (⟨#[60,32]⟩:ByteArray))
def oW (a0:fV) (u:Int) (c1 c2:List Int):Option (Int ⊕ (fV×Int×(List Int)×(List Int))) :=
 ((ij a0 1099511627776).bind λk=>match k with | .inl g=>some (Sum.inl g) | .inr d=>((jw d.2 2048).bind λj=>match j with | .inl o=>none | .inr c=>((jw c.2 8).bind λi=>match i with | .inl p=>none | .inr a=>((if ((a.1.length:Int) != 8) then some true else some (d.1==0)).bind λn=>(if n then ((gM a.2 11).bind λh=>match h with | .inl q=>none | .inr s=>some (Sum.inr (a.2,d.1,c.1,a.1))) else some (Sum.inr (a.2,d.1,c.1,a.1)))))))
def mR (a0:List Int) (a:Int) (c1 c2:List Int):Option (Int×Int×(List Int)×(List Int)) :=
 ((jF a0).bind λl=>((oW (⟨l,false⟩:fV) a c1 c2).bind λs=>some ((xk (λr=>(r.1).b) s),(match s with | .inl _=>a | .inr r=>r.2.1),(match s with | .inl _=>c1 | .inr r=>r.2.2.1),(match s with | .inl _=>c2 | .inr r=>r.2.2.2))))
def pJ (a0:List Int):Option (Int×(List Int)×(List Int)×Int) :=
 ((mR a0 0 ([]) ([])).bind λa=>some (a.2.1,a.2.2.1,a.2.2.2,a.1))
def lq (g:(Int×fV)):Nat→Int→(List Signed)→(List Int)→Bool→Option (((Int ⊕ (ie×fV)) ⊕ (Int×Int×ByteArray×(List fQ)×(List Signed)×(List Int)×Bool)) ⊕ ((List Signed)×(List Int)×Bool))
 | 0,_,_,_,_=>none
 | k+1,h,c,d,i=>(if (decide (h < g.1)) then ((qw (⟨d,i⟩:fV)).bind λo=>match o with | .inl n=>some (Sum.inl (Sum.inl (Sum.inl n))) | .inr a=>((ja 160 c ([a.1])).bind λj=>(lq g k (wi0 .i64 (h+1)) j ((a.2).b) ((a.2).over)))) else some (Sum.inr (c,d,i)))
def kB (h:(Int×fV)):Nat→Int→(List fQ)→(List Int)→Bool→Option ((Int ⊕ (ie×fV)) ⊕ (Int×Int×ByteArray×(List fQ)×(List Signed)×(List Int)×Bool))
 | 0,_,_,_,_=>none
 | p+1,i,d,g,j=>(if (decide (i < h.1)) then ((kP (⟨g,j⟩:fV)).bind λw=>match w with | .inl q=>some (Sum.inl (Sum.inl q)) | .inr a=>((ja 32 d ([a.1])).bind λk=>(kB h p (wi0 .i64 (i+1)) k ((a.2).b) ((a.2).over)))) else ((ij (⟨g,j⟩:fV) 8).bind λx=>match x with | .inl u=>some (Sum.inl (Sum.inl u)) | .inr c=>((lq c iq 0 ([]) ((c.2).b) ((c.2).over)).bind λs=>match s with | .inl v=>some v | .inr (n,o,y)=>some (Sum.inr (0,0,zS,d,n,o,y)))))
def ly (a0:fV):Option (Int ⊕ (ie×fV)) :=
 ((ij a0 9223372036854775807).bind λO=>match O with | .inl P=>some (Sum.inl P) | .inr q=>(((if (q.1==1) then ((lI q.2).bind λJ=>match J with | .inl v=>some (Sum.inl (Sum.inl v)) | .inr k=>((ij k.2 2).bind λI=>match I with | .inl w=>some (Sum.inl (Sum.inl w)) | .inr c=>some (Sum.inr (c.1,0,k.1,([]),([]),((c.2).b),((c.2).over))))) else (if (q.1==2) then ((ij q.2 16).bind λL=>match L with | .inl x=>some (Sum.inl (Sum.inl x)) | .inr d=>kB d iq 0 ([]) ((d.2).b) ((d.2).over)) else (if (q.1==5) then ((ij q.2 99).bind λM=>match M with | .inl y=>some (Sum.inl (Sum.inl y)) | .inr g=>some (Sum.inr (0,g.1,zS,([]),([]),((g.2).b),((g.2).over)))) else some (Sum.inr (0,0,zS,([]),([]),((q.2).b),((q.2).over)))))):Option ((Int ⊕ (ie×fV)) ⊕ (Int×Int×ByteArray×(List fQ)×(List Signed)×(List Int)×Bool))).bind λs=>match s with | .inl z=>some z | .inr (n,o,p,i,j,a,h)=>((js (⟨q.1,n,o,p,i,j⟩:ie)).bind λA=>(if (!A) then ((gM (⟨a,h⟩:fV) 11).bind λG=>match G with | .inl u=>some (Sum.inl u) | .inr Q=>some (Sum.inr ((⟨0,0,0,zS,[],[]⟩:ie),(⟨a,h⟩:fV)))) else some (Sum.inr ((⟨q.1,n,o,p,i,j⟩:ie),(⟨a,h⟩:fV)))))))
def qp (a0:fV) (g:ie):Option (Int ⊕ (fV×ie)) :=
 ((ly a0).bind λc=>match c with | .inl a=>some (Sum.inl a) | .inr d=>some (Sum.inr (d.2,d.1)))
def nV (a0:List Int) (a:ie):Option (Int×ie) :=
 ((jF a0).bind λl=>((qp (⟨l,false⟩:fV) a).bind λs=>some ((xk (λr=>(r.1).b) s),(match s with | .inl _=>a | .inr r=>r.2))))
def ql (a0:List Int):Option (ie×Int) :=
 ((nV a0 (⟨0,0,0,zS,[],[]⟩:ie)).bind λa=>(if (a.1 != 0) then some ((⟨0,0,0,zS,[],[]⟩:ie),a.1) else some (a.2,0)))
def nK (a0:List Int):Option (Int×ie×Int) :=
 (if (decide ((a0.length:Int) > 4096)) then some (0,(⟨0,0,0,zS,[],[]⟩:ie),12) else ((pJ a0).bind λa=>((((if (a.2.2.2==0) then ((pF a.1 a.2.1).bind λd=>((mV a.2.2.1 d).bind λg=>some (!g))) else some false).bind λh=>(if h then some 20 else some a.2.2.2)):Option Int).bind λi=>(if (i != 0) then some (0,(⟨0,0,0,zS,[],[]⟩:ie),i) else ((ql a.2.1).bind λc=>(if (c.2 != 0) then some (0,(⟨0,0,0,zS,[],[]⟩:ie),c.2) else some (a.1,c.1,0)))))))
def ot (a0:List Int):Option ByteArray :=
 ((nK a0).bind λa=>(if (a.2.2 != 0) then some (⟨#[63]⟩:ByteArray) else ((vS a.1).bind λc=>((jT c (⟨#[58,32]⟩:ByteArray)).bind λg=>((jV a.2.1).bind λd=>((jT g d).bind λh=>some h))))))
def mX :List rH→ByteArray→Option ByteArray
 | [],a=>((HF a).bind λi=>some i)
 | c::d,a=>((sc c.Out).bind λg=>((ot c.B).bind λr505=>((jT g r505).bind λj=>((jT j (⟨#[10]⟩:ByteArray)).bind λk=>((vR a k).bind λh=>(mX d h))))))
def nE (a0:List rH):Option ByteArray :=
 mX a0 zS
def od (a0:ByteArray):Option (rH×Bool) :=
 ((nO a0 (if 2 < (a0.size:Int) then 2 else (a0.size:Int)) (a0.size:Int)).bind λx3=>((mm x3 (⟨#[58,32]⟩:ByteArray)).bind λq=>((uu q.1).bind λu=>((lX q.2.1).bind λg=>((((la a0 (⟨#[62]⟩:ByteArray)).bind λi=>((mG u g.1).bind λj=>some (i,j,false,([])))):Option (Bool×(List Int)×Bool×(List Int))).bind λ(c,a,s,p)=>((if (!g.2) then some true else some ((a.length:Int)==0)).bind λn=>(((if n then some (true,a) else ((nE ([(⟨c,a⟩:rH)])).bind λh=>((jT a0 (⟨#[10]⟩:ByteArray)).bind λk=>some ((!(gS h k)),a)))):Option (Bool×(List Int))).bind λ(o,d)=>(if o then some ((⟨false,[]⟩:rH),false) else some ((⟨c,d⟩:rH),true)))))))))
def pL :Option Bool :=
 ((lX (⟨#[104,101,108,108,111,32,97,110,110,32,101,97,103,101,114]⟩:ByteArray)).bind λc=>((lX (⟨#[104,101,108,108,111,32,97,110,110]⟩:ByteArray)).bind λw=>((od (⟨#[62,32,49,58,32,104,101,108,108,111,32,97,110,110,32,101,97,103,101,114]⟩:ByteArray)).bind λa=>((if c.2 then some (!w.2) else some false).bind λj=>((if j then some (((c.1).Kind)==1) else some false).bind λk=>((if k then some (((c.1).gY)==1) else some false).bind λn=>((if n then ((jV c.1).bind λi=>some (gS i (⟨#[104,101,108,108,111,32,97,110,110,32,101,97,103,101,114]⟩:ByteArray))) else some false).bind λo=>((if o then some a.2 else some false).bind λp=>((if p then some ((a.1).Out) else some false).bind λq=>((if q then ((mG 1 c.1).bind λh=>some (gS (nR ((a.1).B)) (nR h))) else some false).bind λs=>((if s then ((nE ([a.1])).bind λg=>some (gS g (⟨#[62,32,49,58,32,104,101,108,108,111,32,97,110,110,32,101,97,103,101,114,10]⟩:ByteArray))) else some false).bind λu=>((if u then ((ot ([])).bind λd=>some (gS d (⟨#[63]⟩:ByteArray))) else some false).bind λv=>some v))))))))))))
def mF :List fQ→Int→Option Int
 | [],a=>some a
 | c::d,a=>(mF d (wi0 .i64 (a+(wi0 .i64 ((wi0 .i64 (5+(c.fX.size:Int)))+(c.Word.size:Int))))))
def pM (a0:ie):Option Int :=
 ((lZ ([]) a0.gv).bind λa=>mF a0.gA (wi0 .i64 ((a0.Name.size:Int)+a)))
def nw (a0:ie) (u:Int) (a2:Bool):Option Bool :=
 (pL.bind λv=>(if (!v) then some false else ((pM a0).bind λn=>((if (decide (n > 3000)) then some true else ((js a0).bind λg=>some (!g))).bind λp=>(if p then some true else ((jV a0).bind λo=>((lX o).bind λh=>((if (!h.2) then some true else ((oa h.1 a0).bind λd=>some (!d))).bind λq=>(if q then some false else ((mG (wi0 .i64 ((wi0 .i64 u)+1)) a0).bind λi=>((nE ([(⟨a2,i⟩:rH)])).bind λa=>(if ((a.size:Int)==0) then some false else ((nO a 0 (wi0 .i64 ((a.size:Int)-1))).bind λs=>((od s).bind λc=>((if c.2 then some (((c.1).Out)==a2) else some false).bind λj=>((if j then some (gS (nR ((c.1).B)) (nR i)) else some false).bind λk=>some k))))))))))))))))
end
end Go.Proofs.YtjjjihkifgdhgaaGreatDoor
