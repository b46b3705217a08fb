/- a part of a proof of ChangeTells -/
import Derived.Test.YtjjjihkifgdhgaaGreatDoorRtYn
import Derived.Lib.ItoaNum
import Derived.Lib.Join
import Derived.Recover
import Derived.LaidEqlPtr
import Derived.RangeFuncRecord
import Derived.Lib.AppendStr
import Derived.Lib.Builder
import Derived.Lib.UnsafeStr
import Derived.Shelf.SlSortCmp.NoneTotal
import Derived.Shelf.Strconv.Itoa3
import Derived.Shelf.Strings.OnBuilder
import Derived.Shelf.SortM.Plain
import Derived.Shelf.SortM.SortNone
import Derived.Shelf.SlIter.Sorted
import Derived.Shelf.SlIter.Nil
import Derived.Test.YtjjjihkifgdhgaaGreatDoorProg
import Derived.KernelRfl
set_option linter.all false
namespace Go.Proofs.YtjjjihkifgdhgaaGreatDoor
open Go.IntKind renaming wrap → wi0
open Go.RowKit
variable [M:Md]
theorem oc {v:Value} (h:v.cells.toList.all Value.oneCell'=true:=by exact rfl):∀u∈v.cells.toList,u.oneCell'=true:=iv.1 h
theorem dc {p:Prop} [Decidable p] (h:p:=by decide):p:=h
theorem kr {p:Prop} (h:p:=by kernel_rfl):p:=h
theorem br {α:Sort _} {a b:α} (h:a=b:=by rfl):a=b:=h
abbrev LO:=List (Nat×Obj)
abbrev Ob (c:Array Value) (t:TypeId):Obj:=.cells c t (0,0)
abbrev Ol (c:List Value) (t:TypeId):Obj:=.cells c.toArray t (0,0)
theorem oa {P:Program} {t e:TypeId} {m k:Nat} {z:Value} {d:Array (Nat×Value)} {cs:Array Value} (r:P.underlying t=some (.slice e)) (q:∀w,(sizeOf e).run P w= .ok k w) (u:∀w,(zeroValue e).run P w= .ok z w) (hm:m*k≤16777216:=by decide) (n:d.toList=(d.toList.map (·.2)).zipIdx.map (λp=>(p.2,p.1)):=by exact rfl) (s:(d.toList.map (·.2)).all (λv=>v.cells.size==k)=true:=by exact rfl) (j:(d.toList.map (·.2)).length=m:=by exact rfl) (i:((d.toList.map (·.2)).flatMap (λv=>v.cells.toList)).toArray=cs:=by exact rfl) (W:World) :
  (Instr.buildSlice t m d).run P W= .ok (.slice (some ⟨W.heap.size,0,none⟩) m m) (W.alloc (.cells cs e (0,0))) :=
 A0 _ r q u hm n (λv h=>eq_of_beq (iv.1 s v h)) j i W
section
variable {dd:Bool} {P:Program} {fn:Func} {E:Nat→Value} {W w:World} {μ:lF} {L L0:List (Nat×Obj)}
theorem rQ {α:Type} {f:α→Value} {a r:α} {t:Tmp} (hm:some a=some r) (d:ST dd lD w W μ L) (i:fn.results=#[.tmp t]:=by exact rfl) (j:E t=f a:=by exact rfl):yv P fn (λe W'=>e= .returned (f r)∧Ex dd w W') .ret E W:=by
 obtain rfl:=sj hm; exact nq i j ⟨rfl,d.ex⟩
theorem cG (n:Nat) {f:FuncId} {c:Code} {args:List Value} {v:Value} (d:P.funcs[f]? =some fn) (hb:fn.body=some c) (h:ST dd lD w w (hp w) []→@CW B4 P n c (yv P fn (λe p=>e= .returned v∧Ex dd w p)) (CS args) w) (j:fn.ntmps=n:=by exact rfl) (i:args.length≤n:=by exact nb):la dd P f args w v:=yJ d hb j i (h (ST.start w))
theorem Az {K:Value→List (Nat×Obj)→World→Prop} (n:Nat) {f:FuncId} {c:Code} {args:List Value} (d:P.funcs[f]? =some fn) (hb:fn.body=some c) (h:ST dd lD w w (hp w) []→@CW B4 P n c (yv P fn (λe i=>∃v L1,e= .returned v∧wv dd [] L1 w i∧K v L1 i)) (CS args) w) (p:fn.ntmps=n:=by exact rfl) (j:args.length≤n:=by exact nb):mz dd P f args w [] K:=yJ d hb p j (h (ST.start w))
theorem wM {K:Value→List (Nat×Obj)→World→Prop} (j:pe μ L0 w) (n:Nat) {f:FuncId} {c:Code} {args:List Value} (d:P.funcs[f]? =some fn) (hb:fn.body=some c) (h:ST dd (keys L0) w w μ L0→@CW B4 P n c (yv P fn (λe i=>∃v L1,e= .returned v∧wv dd L0 L1 w i∧K v L1 i)) (CS args) w) (q:fn.ntmps=n:=by exact rfl) (p:args.length≤n:=by exact nb):mz dd P f args w L0 K:=yJ d hb q p (h (ST.IG j))
theorem xH {K:Value→List (Nat×Obj)→lF→Prop} (j:pe μ L0 w) (n:Nat) {f:FuncId} {c:Code} {args:List Value} (d:P.funcs[f]? =some fn) (hb:fn.body=some c) (h:ST dd (keys L0) w w μ L0→@CW B4 P n c (yv P fn (λe i=>∃v L1 μ1,e= .returned v∧wv dd L0 L1 w i∧lz μ μ1∧Lo (keys L0) w μ μ1∧lz μ1 (vL i L1)∧K v L1 μ1)) (CS args) w) (q:fn.ntmps=n:=by exact rfl) (p:args.length≤n:=by exact nb):nN dd P f args w μ L0 K:=yJ d hb q p (h (ST.IG j))
end
section
variable {dd:Bool}
variable {P:Program} {E:Nat→Value} {W:World} {d:Option Nat} {ty:TypeId} {pos:String} {af:Array Edge} {g:Option (Nat×Bool)}
 {F:Nat→Prop} {w:World} {μ:lF} {L:List (Nat×Obj)}
variable {f:FuncId} {fv:Operand} {ax:Array Operand} {ats:Array TypeId} {args:List Value} {v:Value} {K:Value→World→Prop}
theorem eM {K':Value→List (Nat×Obj)→World→Prop} {L0 L2:List (Nat×Obj)} (i:ST dd F w W μ L) (j:L.Perm (L0++L2)) (he:∀args w,(callFunc f args).run P w= .ok (.enter f args) w) (n:pe (vL W L0) L0 W→lz μ (vL W L0)→mz dd P f args W L0 K') (h:∀W' v μ' L1,ST dd F w W' μ' (L1++L2)→lz μ μ'→Lo F w μ μ'→(∀b,W.heap.size≤b→∀o,vL W' L1 b=some o→μ' b=some o)→K' v L1 W'→K v W') (p:kW E fv= .func (.func f) #[] #[]:=by exact rfl) (ha:ax.toList.map (kW E)=args:=by exact rfl):pf P E ⟨d,.call ⟨.value fv,ax,ats⟩,ty,pos,af,g⟩ W K :=
 Bn i j he (λa b c _=>n ⟨a,b,lz.refl _⟩ c) h p ha
theorem eD {K':Value→List (Nat×Obj)→lF→Prop} {L0 L2:List (Nat×Obj)} (i:ST dd F w W μ L) (j:L.Perm (L0++L2)) (he:∀args w,(callFunc f args).run P w= .ok (.enter f args) w) (n:pe μ L0 W→nN dd P f args W μ L0 K') (h:∀W' v μ' L1,ST dd F w W' μ' (L1++L2)→lz μ μ'→Lo F w μ μ'→K' v L1 μ'→K v W') (p:kW E fv= .func (.func f) #[] #[]:=by exact rfl) (ha:ax.toList.map (kW E)=args:=by exact rfl):pf P E ⟨d,.call ⟨.value fv,ax,ats⟩,ty,pos,af,g⟩ W K :=
 Uz i j he (λa b c _=>n ⟨a,b,c⟩) h p ha
end
def OQ (op:BinOp):Value→Value→Option Value
 | .int k a,.int k' b=>if k=k' then J3 k op a b else none
 | _,_=>none
def Sx (i:Nat):Value→Option Value
 | .tuple vs=>vs[i]?
 | _=>none
def J8:Value→Bool
 | .pointer (some ⟨_,_,none⟩)=>true
 | _=>false
def Sp (o:Nat):Value→Value
 | .pointer (some ⟨b,k,none⟩)=>.pointer (some ⟨b,k+o,none⟩)
 | v=>v
theorem Jr {v:Value} (h:J8 v=true):∃b k,v= .pointer (some ⟨b,k,none⟩):=by
 unfold J8 at h; split at h
 ·exact ⟨_,_,rfl⟩
 ·cases h
section
variable {P:Program} {n:Nat} {Q:rJ} {E:Nat→Value} {W:World} {ops:Array Oper} {rest:List Oper}
 {d j t:Nat} {want b:Bool} {v:Value} {ins:Go.Op} {ty:TypeId} {pos:String} {af:Array Edge} {A:Value→Prop} {x y:Operand}
theorem Wm (h:LW P n ops Q rest (qa E d (kW E x)) W) (i:d < n:=by decide):LW P n ops Q (⟨some d,.move x,ty,pos,af,none⟩::rest) E W:=V (kH rfl) h i
theorem Wa (h:LW P n ops Q rest (qa E d (kW E x)) W) (i:d < n:=by decide):LW P n ops Q (⟨some d,.assign x,ty,pos,af,none⟩::rest) E W:=V (mU rfl) h i
theorem Wh (j:kW E x=v) (h:LW P n ops Q rest (qa E d v) W) (i:d < n:=by decide):LW P n ops Q (⟨some d,.move x,ty,pos,af,none⟩::rest) E W:=V (kH j) h i
theorem Wg (j:kW E x=v) (h:LW P n ops Q rest (qa E d v) W) (i:d < n:=by decide):LW P n ops Q (⟨some d,.assign x,ty,pos,af,none⟩::rest) E W:=V (mU j) h i
theorem Wx {i:Nat} (j:Sx i (kW E x)=some v) (h:LW P n ops Q rest (qa E d v) W) (p:d < n:=by decide):LW P n ops Q (⟨some d,.extract x i,ty,pos,af,none⟩::rest) E W:=by
 unfold Sx at j; split at j
 ·rename_i vs e; exact V (OY e j) h p
 ·cases j
theorem Wi {op:BinOp} {tx tv:TypeId} (i:OQ op (kW E x) (kW E y)=some v) (h:LW P n ops Q rest (qa E d v) W) (q:d < n:=by decide):LW P n ops Q (⟨some d,.binOp op tx x y tv,ty,pos,af,none⟩::rest) E W:=by
 unfold OQ at i; split at i
 ·rename_i k a k' b j p
  split at i
  ·rename_i e; subst e; exact V (lE j p i) h q
  ·cases i
 ·cases i
theorem Wf {t:TypeId} {f off:Nat} (i:mF P t f off) (h:LW P n ops Q rest (qa E d (Sp off (kW E x))) W) (hp:J8 (kW E x)=true:=by exact rfl) (j:d < n:=by decide):LW P n ops Q (⟨some d,.fieldAddr t x f,ty,pos,af,none⟩::rest) E W:=by
 obtain ⟨b,k,e⟩:=Jr hp
 refine V (kJ i e) ?_ j
 rw [e] at h; exact h
theorem Wn (h:LW P n ops Q rest (qa E d (kW E x)) W) (hp:J8 (kW E x)=true:=by exact rfl) (i:d < n:=by decide):LW P n ops Q (⟨some d,.nilCheck x,ty,pos,af,none⟩::rest) E W:=by
 obtain ⟨b,k,e⟩:=Jr hp
 refine V (ql e) ?_ i
 rw [e] at h; exact h
theorem un (h:b=!want) (k:LW P n ops Q rest (qa E d undef) W) (p:(ops[j]?).bind (·.dst)=some t:=by exact rfl) (i:E t= .bool b:=by exact rfl) (r:t < n:=by decide) (q:d < n:=by decide) :
  LW P n ops Q (⟨some d,ins,ty,pos,af,some (j,want)⟩::rest) E W:=Vn p (by rw [i,h]) k r q
theorem ug (h:b=want) (r:nt P E ⟨some d,ins,ty,pos,af,some (j,want)⟩ W v W) (k:LW P n ops Q rest (qa E d v) W) (p:(ops[j]?).bind (·.dst)=some t:=by exact rfl) (i:E t= .bool b:=by exact rfl) (s:t < n:=by decide) (q:d < n:=by decide) :
  LW P n ops Q (⟨some d,ins,ty,pos,af,some (j,want)⟩::rest) E W:=Vg p (by rw [i,h]) r k s q
theorem rU (h:b=want) (k:pf P E ⟨some d,ins,ty,pos,af,some (j,want)⟩ W λv W'=>LW P n ops Q rest (qa E d v) W') (p:(ops[j]?).bind (·.dst)=some t:=by exact rfl) (i:E t= .bool b:=by exact rfl) (r:t < n:=by decide) (q:d < n:=by decide) :
  LW P n ops Q (⟨some d,ins,ty,pos,af,some (j,want)⟩::rest) E W:=Pa p (by rw [i,h]) k r q
section
variable {dd:Bool} {F:Nat→Prop} {w:World} {μ:lF} {L:List (Nat×Obj)} {T:TypeId} {a off:Nat} {cs:Array Value} {fr:Nat×Nat}
theorem VA {t:TypeId} (i:ST dd F w W μ L) (p:(a,Obj.cells cs T fr)∈L) (ys:List Value) (j:∀w,(isAgg t).run P w= .ok true w) (q:∀w,(sizeOf t).run P w= .ok ys.length w) (h:LW P n ops Q rest (qa E d (.agg ys.toArray)) W) (s:kW E x= .pointer (some ⟨a,off,none⟩):=by exact rfl) (u:(cs.toList.drop off).take ys.length=ys:=by exact rfl) (r:d < n:=by decide):LW P n ops Q (⟨some d,.load t x,ty,pos,af,none⟩::rest) E W:=V (kF s (kL i.has p ys u j q)) h r
theorem VB {t:TypeId} (i:ST dd F w W μ L) (p:(a,Obj.cells cs T fr)∈L) (r:kW E x= .pointer (some ⟨a,off,none⟩)) (s:cs[off]? =some v) (j:∀w,(isAgg t).run P w= .ok false w) (h:LW P n ops Q rest (qa E d v) W) (q:d < n:=by decide):LW P n ops Q (⟨some d,.load t x,ty,pos,af,none⟩::rest) E W:=V (kF r (kV i.has p s j)) h q
end
section
variable {K:(Nat→Value)→World→Prop} {Q':rJ} {c:Code} {id id2:Nat} {l:List Oper} {z:Code}
theorem sg (h:LW P n l.toArray (sn (λE W=>CW P n c Q E W) Q) l E W):CW P n (.seq (.region id l.toArray false) c) Q E W:=kQ (kR h)
theorem ln (h:K E W):LW P n ops (sn K Q) [] E W:=lu (kP h)
theorem lr (h:LW P n l.toArray (sn (λE W=>CW P n c Q E W) Q) l E W):LW P n ops (sn (λE W=>CW P n (.seq (.region id l.toArray false) c) Q E W) Q') [] E W:=lu (kP (kQ (kR h)))
theorem lS (h:LW P n l.toArray (sn (λE W=>CW P n c (sn (λE W=>CW P n z Q E W) Q) E W) (sn (λE W=>CW P n z Q E W) Q)) l E W):LW P n ops (sn (λE W=>CW P n (.seq (.seq (.region id l.toArray false) c) z) Q E W) Q') [] E W:=lu (kP (kQ (kQ (kR h))))
theorem bg (h:LW P n l.toArray (sn (λE W=>CW P n c (xG id2 Q) E W) (xG id2 Q)) l E W):CW P n (.block id2 (.seq (.region id l.toArray false) c)) Q E W:=me (kQ (kR h))
theorem kg (h:LW P n l.toArray (sn (λE W=>CW P n c Q E W) Q) l E W):CW P n .skip (sn (λE W=>CW P n (.seq (.region id l.toArray false) c) Q E W) Q') E W:=mM (kP (kQ (kR h)))
theorem kS (h:LW P n l.toArray (sn (λE W=>CW P n c (sn (λE W=>CW P n z Q E W) Q) E W) (sn (λE W=>CW P n z Q E W) Q)) l E W):CW P n .skip (sn (λE W=>CW P n (.seq (.seq (.region id l.toArray false) c) z) Q E W) Q') E W:=mM (kP (kQ (kQ (kR h))))
theorem lt (h:Q .ret E W):LW P n ops (sn (λE W=>CW P n .ret Q E W) Q') [] E W:=lu (kP (lB h))
theorem kn (h:K E W):CW P n .skip (sn K Q) E W:=mM (kP h)
end
end
theorem sL.QO {α:Type} {dd:Bool} {w W:World} {μ:lF} {L R:List (Nat×Obj)} {e:TypeId} {enc:α→List Value} {k:Nat} {v:Value} {l:List α} (h:sL e enc k v l R) (i:ST dd lD w W μ L) (j:∀p,p∈R→p∈L):Fr w.heap.size v:=by
 rcases h with ⟨rfl,rfl,rfl⟩ | ⟨g,off,cap,d,rfl,rfl,h1,n,q,r⟩
 ·exact Fr.nil _
 ·intro b hb
  simp [Value.ownBlock] at hb
  subst hb
  rcases (i.box g (.cells d e (0,0)) (j _ (bH.2 rfl))).2.2 with h | h
  ·exact h
  ·exact h.elim
theorem Lb.mono {α β:Type} {P:Program} {fv:Value} {μ μ0:lF} {d:α→List Value} {i:β→Value} {pm:α→Option β} (h:Lb P fv μ d i pm) (p:lz μ μ0):Lb P fv μ0 d i pm:=by
 obtain ⟨f,caps,h1,j,n⟩:=h
 exact ⟨f,caps,h1,j,λW x r h=>n W x r (p.trans h)⟩
theorem Lb.form {α β:Type} {P:Program} {fv:Value} {μ:lF} {d:α→List Value} {i:β→Value} {pm:α→Option β} (h:Lb P fv μ d i pm):∃f a b,fv= .func f a b:=let ⟨f,b,h,_⟩:=h; ⟨_,_,b,h⟩
def CO (l s:ByteArray):Option ByteArray:=if l.size+s.size≤140737488355328 then some (l++s) else none
def PM (l:ByteArray):Option ByteArray:=some l
def mZ (n:Int):ByteArray:=⟨(Go.Lib.itoa n).toArray⟩
def sC (n:Int):Option ByteArray:=if -9223372036854775808≤n∧n≤9223372036854775807 then some (mZ n) else none
def HU (xs:List ByteArray) (sep:ByteArray):ByteArray:=⟨(Go.Lib.join (xs.map (·.data.toList)) sep.data.toList).toArray⟩
def Gp (xs:List ByteArray) (sep:ByteArray):Option ByteArray:=if (HU xs sep).size≤140737488355328∧xs.length≤140737488355328 then some (HU xs sep) else none
end Go.Proofs.YtjjjihkifgdhgaaGreatDoor
namespace Go.Proofs.YtjjjihkifgdhgaaGreatDoor
open Go.IntKind renaming wrap → wi0
open Go.RowKit
section
variable {P:Program} {E:Nat→Value} {W:World} {d:Option Nat} {x y:Operand} {tx tv ty:TypeId} {pos:String} {af:Array Edge} {g:Option (Nat×Bool)} {ms:List (String×TypeId)}
theorem HC {tx e:TypeId} {k:Nat} {p:Addr} (dd:Nat) (i:P.underlying tx=some (.pointer e)) (d:∀w,(sizeOf e).run P w= .ok (k+1) w) (W:World):(Op.equalIn (dd+1) tx (.pointer (some p)) (.pointer (some p))).run P W= .ok true W:=by
 simp [Op.equalIn,bF i,d W,run_sameAddr_same]
theorem LY {e:TypeId} {k:Nat} {p:Addr} (n:P.underlying tx=some (.pointer e)) (j:∀w,(sizeOf e).run P w= .ok (k+1) w) (q:kW E x= .pointer (some p)) (s:kW E y= .pointer (some p)):nt P E ⟨d,.binOp .neq tx x y tv,ty,pos,af,g⟩ W (.bool false) W:=by
 show (do let r ←(do eqGuard .neq tx x y (kW E x) (kW E y); binOp .neq tx (kW E x) (kW E y)); pure (.value r):Sem Next).run P W=_
 rw [q,s]
 have i:=HC (p:=p) 9999 n j W
 simp [eqGuard,binOp,Op.equal,Op.maxDepth,i]
end
theorem tU.form {κ γ:Type} {kenc:κ→Value} {Q:Value→γ→List (Nat×Obj)→Prop} {μ:lF} {v:Value} {l:List (κ×γ)} (h:tU kenc Q μ v l):∃m,v= .map m:=by
 obtain ⟨d,R,h,_⟩:=h
 obtain ⟨m,rfl⟩:=h.form
 exact ⟨_,rfl⟩
theorem nN.mono {dd:Bool} {P:Program} {f:FuncId} {args:List Value} {w:World} {μ0:lF} {L0:List (Nat×Obj)} {K K':Value→List (Nat×Obj)→lF→Prop} (h:nN dd P f args w μ0 L0 K) (hk:∀v L1 μ1,lz μ0 μ1→K v L1 μ1→K' v L1 μ1):nN dd P f args w μ0 L0 K' :=
 dI h λ_ _ ⟨v,L1,μ1,h1,i,d,j,n,p⟩=>⟨v,L1,μ1,h1,i,d,j,n,hk _ _ _ d p⟩
section
variable {dd:Bool} {F:Nat→Prop} {w W:World} {μ:lF} {L:List (Nat×Obj)} {l:Nat}
theorem BL {w:World} {b:Nat} {o:Obj} (h:b≠l):(w.putObj l o).heap[b]? =w.heap[b]?:=World.putObj_heap_other h
theorem ST.frame (h:ST dd F w W μ L) (o:Obj) (p:l < w.heap.size) (n:¬F l) (hm:μ l=none):ST dd F (w.putObj l o) (W.putObj l o) μ L:=by
 refine ⟨h.os,h.tape,h.output,h.drawn,by simpa using h.size,λb hb q=>?_,λb x hb=>?_,λb x hb=>?_,h.nd⟩
 ·by_cases d:b=l
  ·subst d
   rw [World.putObj_heap_same (by have:=h.size; omega),World.putObj_heap_same p]
  ·rw [BL d,BL d]
   exact h.rA b (by simpa using hb) q
 ·have d:b≠l:=λe=>by rw [e,hm] at hb; cases hb
  rw [BL d]; exact h.mem b x hb
 ·obtain ⟨h1,j,i⟩:=h.box b x hb
  have d:b≠l:=λe=>by
   subst e
   rcases i with i | i
   ·omega
   ·exact n i
  rw [BL d]
  exact ⟨h1,j,by simpa using i⟩
end
theorem FE (s:ByteArray):Go.Lib.strCells s=((nQ s).map (lP .u8)).flatten:=by
 unfold Go.Lib.strCells nQ
 induction s.data.toList with
 | nil=>rfl
 | cons b l ih=>simp only [bA,aU,ih]; rfl
theorem HD (k:IntKind) (l:List Int):((l.map (lP k)).flatten).length=l.length:=by
 rw [qX (k:=1) (λ_=>rfl),jC]
section
variable {P:Program} {dd:Bool} {F:Nat→Prop} {w W:World} {μ:lF} {R:List (Nat×Obj)} {E:Nat→Value} {d:Option Nat} {ty:TypeId} {pos:String} {af:Array Edge} {g:Option (Nat×Bool)}
theorem L8 {K:Value→World→Prop} {e t u:TypeId} {v:Value} {l r:List Int} {str:ByteArray} (X:List (Nat×Obj)) {Y:List (Nat×Obj)} {x y:Operand} {i:TypeInfo} (s:ST dd F w W μ (X++(R++Y))) (ht:P.underlying t=some (.slice e)) (hu:P.underlying u=some .string) (Z:P.info? e=some i) (hz:i.zero=some (.int .u8 0)) (M:i.size=1) (T:i.bytes=1) (hx:kW E x=v) (hy:kW E y= .string str) (hR:lm e (lP .u8) 1 v l R) (hb:oB 1 l (nQ str)=some r) (h:∀W' v' R',ST dd F w W' μ (X++(R'++Y))→lm e (lP .u8) 1 v' r R'→(v= .slice none 0 0→str.size=0→v'= .slice none 0 0)→K v' W'):pf P E ⟨d,.call ⟨.builtin .append,#[x,y],#[t,u]⟩,ty,pos,af,g⟩ W K:=by
 unfold oB at hb
 split at hb
 case isFalse=>cases hb
 rename_i Q
 cases hb
 rw [oK,jC] at Q
 obtain ⟨a1,O⟩:=Q
 have hM:maxLen=9223372036854775807:=by unfold maxLen; rfl
 have G:∀(V:Value) (W':World),(Builtin.append_ #[t,u] ty #[v,.string str]).run P W= .ok V W'→(execOp (kW E) ⟨d,.call ⟨.builtin .append,#[x,y],#[t,u]⟩,ty,pos,af,g⟩).run P W= .ok (.value V) W':=by
  intro V W' hV
  show (do let d ←resolve (kW E) ⟨.builtin .append,#[x,y],#[t,u]⟩ ty; invoke d.target d.args:Sem Next).run P W=_
  simp [resolve,invoke,builtin,hx,hy,hV]
 have z:((l++nQ str).map (lP .u8)).flatten=(l.map (lP .u8)).flatten++Go.Lib.strCells str:=by rw [cP,bP,FE]
 have n:(l++nQ str).length=l.length+str.size:=by rw [aC,oK]
 have ad:(Value.int IntKind.u8 0).cells.size=1:=rfl
 have fresh:∀(rA:Nat) (L':List (Nat×Obj)),¬(v= .slice none 0 0∧str.size=0)→ST dd F w W μ L'→L'.Perm (X++Y)→(Builtin.append_ #[t,u] ty #[v,.string str]).run P W= .ok (.slice (some ⟨W.heap.size,0,none⟩) (l.length+str.size) (grownCap W (l.length+str.size) rA e))
    (W.drew.alloc (.cells (((l.map (lP .u8)).flatten++Go.Lib.strCells str).toArray++Builtin.zeroCells (Value.int .u8 0).cells (grownCap W (l.length+str.size) rA e-(l.length+str.size))) e))→
   pf P E ⟨d,.call ⟨.builtin .append,#[x,y],#[t,u]⟩,ty,pos,af,g⟩ W K:=by
  intro rA L' hv L hp J
  have a8:=grownCap_ge W (l.length+str.size) rA e
  have a7:grownCap W (l.length+str.size) rA e≤maxLen:=jm W (l.length+str.size) rA e O
  have hlen:((l.map (lP .u8)).flatten++Go.Lib.strCells str).length=l.length+str.size:=by rw [aC,HD,iO]
  generalize U:((l.map (lP .u8)).flatten++Go.Lib.strCells str).toArray++Builtin.zeroCells (Value.int .u8 0).cells (grownCap W (l.length+str.size) rA e-(l.length+str.size))=cs at J
  refine .inl ⟨_,_,G _ _ J,h _ _ [(W.heap.size,.cells cs e)] ?_ (.inr ⟨W.heap.size,_,cs,by rw [n],rfl,by rw [n]; exact a8,a7,?_,?_⟩) λq1 q2=>absurd ⟨q1,q2⟩ hv⟩
  ·exact ((L.perm hp).drew.alloc _).perm (List.perm_middle.symm)
  ·subst U
   simp only [Array.size_append,dZ,size_zeroCells,ad,hlen]
   omega
  ·subst U
   rw [n,z,jC,←hlen]
   simp only [Array.toList_append]
   exact List.take_left
 rcases hR with ⟨rfl,rfl,rfl⟩ | ⟨I,cap,p,rfl,rfl,q1,q2,q3,q4⟩
 ·rcases eQ str.size with L | L
  ·have hf:=Go.Lib.run_firstCells_string (P:=P) W 1 str
   have a6:nQ str=[]:=aI (by rw [oK]; exact L)
   refine .inl ⟨.slice none 0 0,W,G _ _ ?_,h W _ [] s (.inl ⟨rfl,by rw [a6]; rfl,rfl⟩) λ_ _=>rfl⟩
   simp [Builtin.append_,bF ht,bF hu,sizeOf,typeInfo,Z,M,Builtin.lenOf,L]
   rw [L] at hf
   simp [hf]
  ·have J:=run_append_nil_string (P:=P) W t u ty e i (.int .u8 0) ht hu Z hz str L (by simp at O; omega) (by rw [T]; simp at a1; omega)
   refine fresh 0 _ (λq=>by omega) s (.refl _) ?_
   have e1:(str.data.map λb=>Value.int .u8 b.toNat)=(Go.Lib.strCells str).toArray:=by
    apply Array.ext'
    simp [Go.Lib.strCells]
   rw [e1] at J
   simpa using J
 ·have hg:=(s.box I (.cells p e (0,0)) (by simp)).1
  by_cases A:l.length+str.size≤cap
  ·have J:=Go.Lib.run_append_room_string (P:=P) W t u ty e i ht hu Z M I l.length cap p hg str A (by omega)
   refine .inl ⟨_,_,G _ _ J,h _ _ [(I,_)] (ST.put s ⟨rfl,rfl,rfl,aQ _,by simp⟩ (λk hk=>setRow_other W I k _ hk) (setRow_heap W I p _ e _ hg)) (.inr ⟨I,cap,_,by rw [n],rfl,by rw [n]; exact A,q2,?_,?_⟩) λq=>by cases q⟩
   ·simp only [dZ,aC,dL,iu,dP,iO]
    omega
   ·have ab:p.toList.take l.length=(l.map (lP .u8)).flatten:=by simpa using q4
    rw [n,z,jC,ab,show l.length+str.size=((l.map (lP .u8)).flatten++Go.Lib.strCells str).length by rw [aC,HD,iO]]
    simp only [aW]
    rw [←aW]
    exact List.take_left
  ·have holds:∀j u,((l.map (lP .u8)).flatten)[j]? =some u→W.cell? ((⟨I,0,none⟩:Addr).add j)=some u:=by
    intro j u hj
    rw [dR,gD W I (0+j) p e (0,0) hg,gG]
    rw [←q4] at hj
    have aa:=(bK.1 hj).1
    rw [dL] at aa
    rw [dW (by omega)] at hj
    simpa using hj
   have J:=Go.Lib.run_append_grow_string (P:=P) W t u ty e i (.int .u8 0) ht hu Z hz ⟨I,0,none⟩ l.length cap ((l.map (lP .u8)).flatten) (by rw [HD,M,jC]) holds str (by omega) (by omega) (by rw [T]; exact growslice_fits (by omega) (by omega))
   refine fresh cap (X++Y) (λq=>by cases q.1) (s.sublist (by simp)) (.refl _) ?_
   simpa using J
theorem Pk {s t:TypeId} {x:Operand} {v i:Value} (j:kW E x=v) (h:(convert s t v).run P W= .ok i W):nt P E ⟨d,.convert s t x,ty,pos,af,g⟩ W i W:=by
 show (do pure (.value (←convert s t (kW E x))):Sem Next).run P W=_
 rw [j]
 simp only [cL,h,bR,dS]
theorem Hy {b:Nat} {cs:Array Value} {T:TypeId} {fr:Nat×Nat} {W:World} (h:W.heap[b]? =some (.cells cs T fr)):W.shape? b=some (T,cs.size):=by simp [World.shape?,h]
def IS (T e:TypeId) (v:Value) (l:ByteArray) (R:List (Nat×Obj)):Prop :=
 ∃b a u S,v= .pointer (some ⟨b,0,none⟩)∧(a= .pointer none∨a= .pointer (some ⟨b,0,none⟩))∧R=(b,.cells #[a,u] T (0,0))::S∧lm e (lP .u8) 1 u (nQ l) S∧(l.size=0→u= .slice none 0 0)
theorem NX (l s:ByteArray):nQ (l++s)=nQ l++nQ s:=by
 simp [nQ,ByteArray.data_append]
theorem PC {l s r:ByteArray} (h:CO l s=some r):oB 1 (nQ l) (nQ s)=some (nQ r):=by
 unfold CO at h
 split at h
 case isFalse=>cases h
 rename_i hb
 cases h
 unfold oB
 rw [oK,oK,NX,cE ⟨by omega,by unfold maxLen; omega⟩]
theorem Qc {l s r:ByteArray} (h:CO l s=some r) (d:r.size=0):l.size=0∧s.size=0:=by
 unfold CO at h
 split at h
 case isFalse=>cases h
 cases h
 rw [aD] at d
 omega
theorem DB (w:World) (g n k:Nat) (hk:k≠g):(w.freeze ⟨g,0,none⟩ n).heap[k]? =w.heap[k]?:=by
 unfold World.freeze
 split
 ·rfl
 ·simp [gx,Ne.symm hk]
theorem O4 {L:List (Nat×Obj)} {g n:Nat} {o:Obj} (d:ST dd F w W μ ((g,o)::L)):ST dd F w (W.freeze ⟨g,0,none⟩ n) μ L:=by
 have h1:=d.sublist (List.sublist_cons_self _ _)
 have s:=d.box g o (.head _)
 have j:∀b q,(b,q)∈L→b≠g:=λb q hb e=>by
  subst e
  have:=d.nd
  simp only [bA,eT] at this
  exact this.1 (bE.2 ⟨_,hb,rfl⟩)
 have p:(W.freeze ⟨g,0,none⟩ n).heap.size=W.heap.size:=by unfold World.freeze; split <;> simp
 have i:(W.freeze ⟨g,0,none⟩ n).os=W.os∧(W.freeze ⟨g,0,none⟩ n).tape=W.tape∧(W.freeze ⟨g,0,none⟩ n).output=W.output∧(W.freeze ⟨g,0,none⟩ n).drawn=W.drawn:=by unfold World.freeze; split <;> exact ⟨rfl,rfl,rfl,rfl⟩
 refine ⟨i.1.trans h1.os,i.2.1.trans h1.tape,i.2.2.1.trans h1.output,by rw [i.2.2.2]; exact h1.drawn,by rw [p]; exact h1.size,λb hb r=>?_,λb q hb=>?_,λb q hb=>?_,h1.nd⟩
 ·rw [DB _ _ _ _ (λe=>by subst e; rcases s.2.2 with h | h; omega; exact r h)]; exact h1.rA b hb r
 ·rw [DB _ _ _ _ (λe=>by subst e; rw [s.2.1] at hb; cases hb)]; exact h1.mem b q hb
 ·rw [DB _ _ _ _ (j b q hb)]; exact h1.box b q hb
theorem Qo {x:Operand} {u:Value} {ats:Array TypeId} {q:Option Addr} (j:kW E x=u) (h:∃a n c,u= .slice a n c∧(a=none∨c≠0)∧q=a):nt P E ⟨d,.call ⟨.builtin .unsafeSliceData,#[x],ats⟩,ty,pos,af,g⟩ W (.pointer q) W:=by
 obtain ⟨a,n,c,rfl,h1,rfl⟩:=h
 show (do let d ←resolve (kW E) ⟨.builtin .unsafeSliceData,#[x],ats⟩ ty; invoke d.target d.args:Sem Next).run P W=_
 have i:(Builtin.unsafeSliceData_ ats ty #[.slice q n c]).run P W= .ok (.pointer q) W:=by
  rcases q with _ | a
  ·exact Go.Lib.run_unsafeSliceData_nil (P:=P) W _ _ _ _
  ·exact Go.Lib.run_unsafeSliceData_row (P:=P) W _ _ _ _ _ (h1.resolve_left (by simp))
 simp [resolve,invoke,builtin,j,i]
theorem HV {K:Value→World→Prop} {L:List (Nat×Obj)} {t e:TypeId} (i:ST dd F w W μ L) (j:∀w,(zeroValue t).run P w= .ok (.agg #[.pointer none,.slice none 0 0]) w) (h:∀W' v R,ST dd F w W' μ (R++L)→IS t e v ⟨#[]⟩ R→K v W'):pf P E ⟨d,.alloc t,ty,pos,af,g⟩ W K :=
 lT i j λW' b i=>h W' _ [(b,_)] i ⟨b,_,_,[],rfl,.inl rfl,rfl,.inl ⟨rfl,rfl,rfl⟩,λ_=>rfl⟩
theorem NL {l:ByteArray} (h:nQ l=[]):l=⟨#[]⟩:=by
 have:l.data.toList=[]:=by simpa [nQ] using h
 exact iE (by simpa using this)
theorem LX {K:Value→World→Prop} {L S:List (Nat×Obj)} {x y:Operand} {s it e:TypeId} {q:Option Addr} {l:ByteArray} {n c:Nat} (p:ST dd F w W μ (S++L)) (hp:P.underlying s=some (.pointer e)) (Y:P.cellsOf e=1) (hx:kW E x= .pointer q) (hy:kW E y= .int .i64 (n:Nat)) (T:lm e (lP .u8) 1 (.slice q n c) (nQ l) S) (h:∀W',ST dd F w W' μ L→K (.string l) W'):pf P E ⟨d,.call ⟨.builtin .unsafeString,#[x,y],#[s,it]⟩,ty,pos,af,g⟩ W K:=by
 have r:∀(V:Value) (W':World),(Builtin.unsafeString_ #[s,it] ty #[.pointer q,.int .i64 (n:Nat)]).run P W= .ok V W'→(execOp (kW E) ⟨d,.call ⟨.builtin .unsafeString,#[x,y],#[s,it]⟩,ty,pos,af,g⟩).run P W= .ok (.value V) W':=by
  intro V W' U
  show (do let d ←resolve (kW E) ⟨.builtin .unsafeString,#[x,y],#[s,it]⟩ ty; invoke d.target d.args:Sem Next).run P W=_
  simp [resolve,invoke,builtin,hx,hy,U]
 have none:nQ l=[]→n=0→∀J:ST dd F w W μ L,pf P E ⟨d,.call ⟨.builtin .unsafeString,#[x,y],#[s,it]⟩,ty,pos,af,g⟩ W K:=by
  intro h1 z J
  subst z
  rw [NL h1] at h
  exact .inl ⟨_,_,r _ _ (Go.Lib.run_unsafeString_none (P:=P) W s it ty q),h W J⟩
 rcases T with ⟨h1,z,rfl⟩ | ⟨u,cap,i,h1,rfl,q1,q2,q3,q4⟩
 ·cases h1
  exact none z rfl p
 ·cases h1
  by_cases v:nQ l=[]
  ·exact none v (by rw [v]; rfl) (p.sublist (by simp))
  ·have G:l.data.toList≠[]:=by simpa [nQ] using v
   have A:(nQ l).length=l.data.toList.length:=by simp [nQ]
   have M:=(p.box u (.cells i e (0,0)) (by simp)).1
   have Q:=Go.Lib.run_unsafeString_row (P:=P) W s it ty e hp Y u i.size (Hy M) l.data.toList G (by omega) (by unfold maxLen at q2; omega) (λj x O=>by
    rw [dR,gD W u (0+j) i e (0,0) M,gG]
    have Z:=(bK.1 O).1
    have I:(i.toList.take ((nQ l).length*1))[j]? =some (.int .u8 x.toNat):=by
     rw [q4,←FE]
     simp only [Go.Lib.strCells,fS,O]
     rfl
    rw [dW (by omega)] at I
    simpa using I)
   rw [←A] at Q
   refine .inl ⟨_,_,r _ _ Q,?_⟩
   have R:(⟨l.data.toList.toArray⟩:ByteArray)=l:=iE (by simp)
   rw [R]
   exact h _ (O4 p)
end
def zf (P:Program) (μ:lF):Prop:=∃g T fr,P.globalNamed "internal/strconv.uint64pow10"=some g∧μ g=some (.cells (Go.Lib.pow10Tab.map λz=>Value.int .u64 z).toArray T fr)
theorem zf.mono {P:Program} {μ μ':lF} (h:zf P μ) (i:lz μ μ'):zf P μ':=by
 obtain ⟨g,T,fr,h1,d⟩:=h
 exact ⟨g,T,fr,h1,i _ _ d⟩
end Go.Proofs.YtjjjihkifgdhgaaGreatDoor
namespace Go.Proofs.YtjjjihkifgdhgaaGreatDoor
open Go.IntKind renaming wrap → wi0
open Go.Sort Go.Proofs Go.Shelf
theorem HK {g b:Nat} {o:Obj}:keys [(g,o)] b↔b=g:=by
 constructor
 ·rintro ⟨d,h⟩
  simp at h
  exact h.1
 ·rintro rfl; exact ⟨o,by simp⟩
theorem Dy (w:World) (g m:Nat) (f:Array Value→Array Value) (os:Array Obj) (b:Nat) (hb:b < w.heap.size) :
  (Go.Sort.grow (mapBlock (Go.Sort.ahead w m) g f) os).heap[b]? =if g=b then w.heap[b]?.map (onCells f) else w.heap[b]?:=by
 have d:b < (mapBlock (Go.Sort.ahead w m) g f).heap.size:=by simp only [mapBlock,Go.Sort.ahead,Array.size_modify]; exact hb
 rw [heap_grow_old _ _ d]
 simp only [mapBlock,Go.Sort.ahead,gx]
theorem LQ {w:World} {g m:Nat} {f:Array Value→Array Value} {os:Array Obj} {cs:Array Value} {T:TypeId} {fr:Nat×Nat} (i:w.heap[g]? =some (.cells cs T fr)) :
  wv true [(g,.cells cs T fr)] [(g,.cells (f cs) T fr)] w (Go.Sort.grow (mapBlock (Go.Sort.ahead w m) g f) os):=by
 have d:g < w.heap.size:=(eO.1 i).1
 refine ⟨⟨rfl,rfl,rfl,?_,?_,λb hb j=>?_⟩,λb o h=>?_,by simp⟩
 ·refine uU.of ?_
  show w.drawn≤w.drawn+m
  omega
 ·show w.heap.size≤(w.heap.modify g (onCells f)++os).size
  simp
 ·rw [Dy _ _ _ _ _ _ hb,cI λh=>j (HK.2 h.symm)]
 ·simp only [aY,dM,gP,Prod.mk.injEq] at h
  obtain ⟨rfl,rfl⟩:=h
  refine ⟨?_,.inr (HK.2 rfl)⟩
  rw [Dy _ _ _ _ _ _ d,cE rfl,i]
  rfl
theorem Nw {w W:World} (h:Ex true w W):∃q os,W=Go.Sort.grow (w.drewN q) os:=by
 refine ⟨W.drawn-w.drawn,W.heap.extract w.heap.size W.heap.size,?_⟩
 have p:W.heap=w.heap++W.heap.extract w.heap.size W.heap.size:=by
  apply Array.ext_getElem?
  intro i
  rw [Array.getElem?_append]
  split
  ·rename_i r; exact h.rA i r
  ·rename_i r
   rw [Array.getElem?_extract]
   have u:=h.size
   split
   ·rw [show w.heap.size+(i-w.heap.size)=i by omega]
   ·exact Array.getElem?_eq_none (by omega)
 obtain ⟨h1,v,x,z,A⟩:=W
 have d:=h.os; have j:=h.tape; have n:=h.output; have s:=h.drawn rfl
 simp only at d j n s p
 unfold Go.Sort.grow World.drewN
 simp only [World.mk.injEq]
 exact ⟨p,j,by omega,d,n⟩
theorem MC {α:Type} [Inhabited α] {enc:α→List Value} {k:Nat} (hk:∀x,(enc x).length=k) (l:List α) (j:Nat) (d:j < l.length*k) :
  (l.map enc).flatten[j]? =some ((flatK enc k l.toArray)[j]!):=by
 have q:0 < k:=by
  cases k with
  | zero=>simp at d
  | succ n=>omega
 have h1:j / k < l.length:=(iX q).2 d
 rw [get_flatK _ _ _ _ (by simpa using d)]
 have r:l.toArray[j / k]! =l[j / k]:=by
  rw [getElem!_pos l.toArray (j / k) (by simpa using h1)]; simp
 rw [r]
 have i:j % k < (enc l[j / k]).length:=by rw [hk]; exact Nat.mod_lt _ q
 have p:=xS hk l (j / k) l[j / k] (dE h1) (j % k) ((enc l[j / k])[j % k]) (dE i)
 rw [Nat.div_add_mod' j k] at p
 rw [p,getElem!_pos (enc l[j / k]) (j % k) i]
theorem JR {α:Type} [Inhabited α] {enc:α→List Value} {k:Nat} (hk:∀x,(enc x).length=k) {w:World} {g:Nat} {cs:Array Value} {T:TypeId} (i:w.heap[g]? =some (.cells cs T (0,0))) (l:List α)
  (p:cs.toList.take (l.length*k)=(l.map enc).flatten):HoldsK enc k w g 0 l.toArray:=by
 intro j n
 have d:j < l.length*k:=by simpa using n
 have h1:=MC hk l j d
 rw [←p,gQ,cE d] at h1
 refine ⟨?_,?_⟩
 ·simp only [World.cell?,i,gG]
  simpa using h1
 ·simp [World.frozen?,i]
theorem L5 {α:Type} [Inhabited α] {enc:α→List Value} {k:Nat} (hk:∀x,(enc x).length=k) {cs:Array Value} (l:List α) (i:l.length*k≤cs.size) :
  (putCells id 0 (flatK enc k l.toArray) cs).toList.take (l.length*k)=(l.map enc).flatten:=by
 apply gE
 intro j
 rw [gQ]
 split
 ·rename_i d
  rw [MC hk l j d]
  simp only [putCells,eJ,Array.getElem?_mapIdx,size_flatK,dZ]
  rw [Array.getElem?_eq_getElem (by omega)]
  simp [d]
 ·rename_i d
  rw [hU (by rw [qX hk]; omega)]
theorem J2 (enc:Value→Value) (o:Nat) (d c:Array Value):(putCells enc o d c).size=c.size:=by simp [putCells]
section
variable {α:Type} {P:Program} {ρ:Ren}
theorem SG {l:List α} {cf:α×α→Option Int} (h:Cg cf l):SWO (ltOf λ(x y:{x // x∈l})=>(cf (x.1,y.1)).getD 0)∧
  (∀x y:{x // x∈l},ltOf (λ(x y:{x // x∈l})=>(cf (x.1,y.1)).getD 0) x y=ub cf x.1 y.1):=by
 have e:∀x y:{x // x∈l},ltOf (λ(x y:{x // x∈l})=>(cf (x.1,y.1)).getD 0) x y=ub cf x.1 y.1:=λx y=>by
  obtain ⟨c,n⟩:=h.is x.1 x.2 y.1 y.2
  simp [ltOf,ub,n]
 refine ⟨⟨λx=>?_,λx y z=>?_,λx y z=>?_⟩,e⟩
 ·rw [e]; exact h.irrefl _ x.2
 ·rw [e,e,e]; exact h.trans _ x.2 _ y.2 _ z.2
 ·rw [e,e,e]
  intro h1 i
  cases d:ub cf x.1 z.1 with
  | false=>rfl
  | true=>
   cases j:ub cf y.1 x.1 with
   | true=>
    have:=h.trans _ y.2 _ x.2 _ z.2 j d
    rw [i] at this; cases this
   | false=>
    have:=h.total _ x.2 _ y.2 h1 j
    rw [this,i] at d; cases d
theorem Mm (L:SlLaysF0.n6 P ρ) (k:Nat) (aE:∀w,(isAgg (ρ.t 24)).run P w= .ok true w) (zE:∀w,(Go.sizeOf (ρ.t 24)).run P w= .ok k w) {e:TypeId} (enc:α→List Value) (hk:∀x,(enc x).length=k) (h1:∀x,∀u∈enc x,u.oneCell'=true) {v fv:Value} {l r:List α} {R:List (Nat×Obj)} {cf:α×α→Option Int} {w:World} {μ0:lF} (hH:F5 (R++[]) w) (A:lz μ0 (vL w (R++[]))) (Y:lm e enc k v l R) (hc:Lb P fv μ0 (λ(x:α×α)=>[(.agg (enc x.1).toArray),(.agg (enc x.2).toArray)]) (λ(r:Int)=>(.int .i64 r)) cf) (hm:Dn cf l=some r) :
  mz true P (ρ.f 6) [v,fv] w (R++[]) (λu L1 _=>∃(S:List (Nat×Obj)),u=(.tuple #[])∧L1=(S++[])∧lm e enc k v r S):=by
 obtain ⟨ok,rfl⟩:=Of hm
 rw [bB] at hH A ⊢
 rcases eQ l.length with h0 | i
 ·have hl:l=[]:=aI h0
  subst hl
  have Z:sT cf ([]:List α)=[]:=by simp [sT]
  rw [Z]
  obtain ⟨p,c,rfl⟩:∃p c,v= .slice p 0 c:=by
   rcases Y with ⟨rfl,_,_⟩ | ⟨g,cap,j,rfl,_⟩
   ·exact ⟨_,_,rfl⟩
   ·exact ⟨_,_,rfl⟩
  refine dI (AnyF.slices_SortFunc_none L p c fv w) λx w' ⟨hx,hw⟩=>?_
  subst hx hw
  refine ⟨_,R,rfl,⟨⟨rfl,rfl,rfl,uU.of (aQ _),aQ _,λ_ _ _=>rfl⟩,λb o h=>⟨hH b o h,.inr ⟨o,h⟩⟩,?_⟩,R,rfl,(bB R).symm,Y⟩
  rcases Y with ⟨_,_,rfl⟩ | ⟨g,cap,j,_,rfl,_⟩ <;> simp
 ·rcases Y with ⟨_,rfl,_⟩ | ⟨g,cap,j,rfl,rfl,a8,a7,M,ae⟩
  ·simp at i
  have hg:w.heap[g]? =some (.cells j e (0,0)):=hH g _ (by simp)
  have aa:g < w.heap.size:=(eO.1 hg).1
  haveI:Inhabited {x // x∈l}:=⟨⟨l[0],List.getElem_mem i⟩⟩
  obtain ⟨gg,caps,rfl,O,q⟩:=hc
  obtain ⟨hO,Q⟩:=SG ok
  have E:l.attach.toArray.size=l.length:=by simp
  have ab:l.attach.map (λx=>enc x.1)=l.map enc:=by
   rw [show (λx:{x // x∈l}=>enc x.1)=enc∘Subtype.val from rfl,←gH,List.attach_map_subtype_val]
  have a1:HoldsK (λx:{x // x∈l}=>enc x.1) k w g 0 l.attach.toArray:=JR (λx=>hk x.1) hg l.attach (by rw [ab,List.length_attach,ae])
  have J:CmpLays P gg caps (λx:{x // x∈l}=>enc x.1) k (λx y=>(cf (x.1,y.1)).getD 0) g 0 l.attach.toArray.size w:=by
   intro m os dk ag x y
   obtain ⟨c,I⟩:=ok.is x.1 x.2 y.1 y.2
   have W:lz μ0 (hp (sortWorldK (λx:{x // x∈l}=>enc x.1) k w g 0 m dk os)):=λb o hb=>by
    have z:=A b o hb
    unfold vL at z
    split at z
    ·cases z
    ·rename_i hn
     have a6:b < w.heap.size:=(eO.1 z).1
     show (Go.Sort.grow (mapBlock (Go.Sort.ahead w m) g _) os).heap[b]? =_
     rw [Dy _ _ _ _ _ _ a6,cI λh=>hn (HK.2 h.symm)]
     exact z
   have h3:=q (sortWorldK (λx:{x // x∈l}=>enc x.1) k w g 0 m dk os) (x.1,y.1) c W I
   have ea:([Value.agg (enc x.1).toArray,Value.agg (enc y.1).toArray]++caps.toList).toArray=#[Value.agg (enc x.1).toArray,Value.agg (enc y.1).toArray]++caps:=by
    apply Array.ext'; simp
   rw [←ea]
   exact dI h3 λu W' hu=>⟨by rw [hu.1]; show _=Ending.returned (.int .i64 ((cf (x.1,y.1)).getD 0)); rw [I]; rfl,Nw hu.2⟩
  have hT:∀x y:{x // x∈l},ltOf (λ(x y:{x // x∈l})=>(cf (x.1,y.1)).getD 0) x y=false→ltOf (λ(x y:{x // x∈l})=>(cf (x.1,y.1)).getD 0) y x=false→x=y:=λx y a b=>by
   rw [Q] at a b
   exact Subtype.ext (ok.total _ x.2 _ y.2 a b)
  have d:=AnyQ.slices_SortFunc_total L k aE zE (λx:{x // x∈l}=>enc x.1) (λx=>hk x.1) (λx=>h1 x.1) (λx y=>(cf (x.1,y.1)).getD 0) hO gg caps g 0 cap l.attach.toArray w O J a1 aa (by rw [E]; exact ok.short) hT
  rw [E] at d
  refine dI d λu w' ⟨hu,n,os,hw⟩=>?_
  subst hu
  generalize Z:l.attach.toArray.toList.mergeSort (λx y=>!ltOf (λ(x y:{x // x∈l})=>(cf (x.1,y.1)).getD 0) y x)=s at hw
  have ad:s.map Subtype.val=sT cf l:=by
   rw [←Z,List.map_mergeSort (s:=λx y=>!ub cf y x) (λa _ b _=>by rw [Q])]
   simp [sT]
  have U:s.length=l.length:=by rw [←Z,List.length_mergeSort]; simp
  have T:(sT cf l).length=l.length:=by simp [sT,List.length_mergeSort]
  have G:=LQ (w:=w) (m:=n) (f:=putCells id 0 (flatK (λx:{x // x∈l}=>enc x.1) k s.toArray)) (os:=os) hg
  have af:w'=Go.Sort.grow (mapBlock (Go.Sort.ahead w n) g (putCells id 0 (flatK (λx:{x // x∈l}=>enc x.1) k s.toArray))) os:=hw
  rw [←af] at G
  refine ⟨_,_,rfl,G,_,rfl,(bB _).symm,.inr ⟨g,cap,_,by rw [T],rfl,by omega,a7,by rw [J2,M],?_⟩⟩
  rw [T,←U,L5 (λx=>hk x.1) s (by rw [U,M]; exact dA k a8),←ad,gH]
  rfl
end
end Go.Proofs.YtjjjihkifgdhgaaGreatDoor
namespace Go.Proofs.YtjjjihkifgdhgaaGreatDoor
open Go.IntKind renaming wrap → wi0
open Go.RowKit
theorem Od {P:Program} {ρ:Go.Shelf.Ren} (L:Go.Proofs.LaysM.n171 P ρ) {f:FuncId} (p:ρ.f 171=f) {n:Int} {r:ByteArray} {w:World} (q:zf P (hp w)) (hm:sC n=some r):la true P f [.int .i64 n] w (.string r):=by
 unfold sC at hm
 split at hm
 case isFalse=>cases hm
 rename_i h
 cases hm
 subst p
 obtain ⟨g,T,fr,h1,i⟩:=q
 have d:Go.Lib.TabIs P w "internal/strconv.uint64pow10" .u64 Go.Lib.pow10Tab:=by
  unfold Go.Lib.TabIs World.var?
  have j:w.heap[g]? =_:=i
  rw [h1]
  simp [j]
 refine dI (Go.Proofs.Any.strconv_Itoa L n h.1 h.2 w d) λe W s=>?_
 obtain ⟨rfl,k,os,rfl⟩:=s
 refine ⟨rfl,rfl,rfl,rfl,uU.of ?_,?_,λb hb=>?_⟩
 ·simp [Go.Sort.grow,World.drewN]
 ·simp [Go.Sort.grow,World.drewN]
 ·simp only [Go.Sort.grow,World.drewN]
  rw [Array.getElem?_append_left hb]
theorem Nx {P:Program} {ρ:Go.Shelf.Ren} (L:Go.Proofs.Lays.n156 P ρ) (X:Go.Proofs.Builder.Extra P ρ) {f:FuncId} (G:ρ.f 156=f) {v:Value} {xs:List ByteArray} {sep r:ByteArray} {w:World} (h:Sl (Pl EJ) 1 (hp w) v xs) (hm:Gp xs sep=some r):la false P f [v,.string sep] w (.string r):=by
 unfold Gp at hm
 split at hm
 case isFalse=>cases hm
 rename_i hb
 cases hm
 subst G
 obtain ⟨A,c,rfl,h1,I,q⟩:=h
 have i:∀{W:World},Below w.heap.size w W→Ex false w W:=λb=>⟨b.os,b.tape,b.output,λe=>(by cases e),b.size,b.block⟩
 rcases eQ xs.length with n | n
 ·have:xs=[]:=aI n
  subst this
  exact dI (Go.Proofs.Any.strings_Join_none L X A c sep w) λe W d=>by
   obtain ⟨rfl,rfl⟩:=d
   exact ⟨rfl,Ex.refl _⟩
 ·obtain ⟨b,o,cs,T,fr,rfl,s,u⟩:=q n
  have hw:w.heap[b]? =some (.cells cs T fr):=s
  exact dI (Go.Proofs.Any.strings_Join L X b o c xs sep w (λj x d=>by
    obtain ⟨ys,J,z,E⟩:=u j x d
    cases z
    rw [gD w b (o+j) cs T fr hw]
    have:=E 0 (.string x) rfl
    simpa using this) (eO.1 hw).1 hb.2 h1 hb.1) λe W d=>by
   obtain ⟨rfl,p⟩:=d
   exact ⟨rfl,i p⟩
end Go.Proofs.YtjjjihkifgdhgaaGreatDoor
namespace Go.Proofs.YtjjjihkifgdhgaaGreatDoor
open Go.IntKind renaming wrap → wi0
def jM:=@Tryz.underlying0
def jN:=@Tryz.underlying3
def jO:=@Tryz.underlying4
def jP:=@Tryz.underlying5
def jQ:=@Tryz.underlying9
def jZ:=@Tryz.zeroValue0
def kc:=@Tryz.zeroValue3
def kd:=@Tryz.zeroValue4
def ke:=@Tryz.zeroValue5
def kf:=@Tryz.zeroValue9
def O7:Go.Shelf.Ren:=⟨fun | 6=>198 | 15=>260 | 14=>259 | 28=>319 | 29=>307 | 20=>311 | 21=>312 | 22=>313 | 23=>314 | 24=>315 | 25=>316 | 26=>317 | 27=>318 | 46=>356 | 47=>357 | 48=>358 | 49=>359 | 50=>360 | 57=>377 | n=>n,fun | 22=>45 | 24=>52 | 25=>138 | 3=>3 | 39=>271 | 0=>0 | 53=>332 | 55=>272 | 4=>4 | 46=>336 | 45=>335 | 50=>340 | 5=>5 | 9=>9 | 66=>371 | 70=>375 | 76=>392 | 77=>248 | n=>n,fun | n=>n⟩
theorem Th:Go.Proofs.SlLaysF0.n6 Tryz.prog O7:={
 mixed:=by kernel_rfl,
 f6:=⟨Tryz.f198.name,by decide,Tryz.func198.trans (bO some (by kernel_rfl))⟩,
 f14:=⟨Tryz.f259.name,by decide,Tryz.func259.trans (bO some (by kernel_rfl))⟩,
 f15:=Tryz.func260.trans (bO some (by kernel_rfl)),
 f20:=⟨Tryz.f311.name,by decide,Tryz.func311.trans (bO some (by kernel_rfl))⟩,
 f21:=⟨Tryz.f312.name,by decide,Tryz.func312.trans (bO some (by kernel_rfl))⟩,
 f22:=⟨Tryz.f313.name,by decide,Tryz.func313.trans (bO some (by kernel_rfl))⟩,
 f23:=⟨Tryz.f314.name,by decide,Tryz.func314.trans (bO some (by kernel_rfl))⟩,
 f24:=⟨Tryz.f315.name,by decide,Tryz.func315.trans (bO some (by kernel_rfl))⟩,
 f25:=⟨Tryz.f316.name,by decide,Tryz.func316.trans (bO some (by kernel_rfl))⟩,
 f26:=⟨Tryz.f317.name,by decide,Tryz.func317.trans (bO some (by kernel_rfl))⟩,
 f27:=⟨Tryz.f318.name,by decide,Tryz.func318.trans (bO some (by kernel_rfl))⟩,
 f28:=Tryz.func319.trans (bO some (by kernel_rfl)),
 f29:=Tryz.func307.trans (bO some (by kernel_rfl)),
 f46:=⟨Tryz.f356.name,by decide,Tryz.func356.trans (bO some (by kernel_rfl))⟩,
 f47:=Tryz.func357.trans (bO some (by kernel_rfl)),
 f48:=Tryz.func358.trans (bO some (by kernel_rfl)),
 f49:=⟨Tryz.f359.name,by decide,Tryz.func359.trans (bO some (by kernel_rfl))⟩,
 f50:=⟨Tryz.f360.name,by decide,Tryz.func360.trans (bO some (by kernel_rfl))⟩,
 f57:=⟨Tryz.f377.name,by decide,Tryz.func377.trans (bO some (by kernel_rfl))⟩,
 t0:=jM,
 a0:=Tryz.isAgg0,
 z0:=Tryz.sizeOf0,
 v0:=jZ,
 t3:=jN,
 a3:=Tryz.isAgg3,
 z3:=Tryz.sizeOf3,
 v3:=kc,
 t4:=jO,
 a4:=Tryz.isAgg4,
 z4:=Tryz.sizeOf4,
 v4:=kd,
 t5:=jP,
 a5:=Tryz.isAgg5,
 z5:=Tryz.sizeOf5,
 v5:=ke,
 t9:=jQ,
 a9:=Tryz.isAgg9,
 z9:=Tryz.sizeOf9,
 v9:=kf,
 t22:=Tryz.underlying45,
 a22:=Tryz.isAgg45,
 z22:=Tryz.sizeOf45,
 v22:=Tryz.zeroValue45,
 t25:=Tryz.underlying138,
 a25:=Tryz.isAgg138,
 z25:=Tryz.sizeOf138,
 v25:=Tryz.zeroValue138,
 t39:=Tryz.underlying271,
 a39:=Tryz.isAgg271,
 z39:=Tryz.sizeOf271,
 v39:=Tryz.zeroValue271,
 t45:=Tryz.underlying335,
 a45:=Tryz.isAgg335,
 z45:=Tryz.sizeOf335,
 v45:=Tryz.zeroValue335,
 t46:=Tryz.underlying336,
 a46:=Tryz.isAgg336,
 z46:=Tryz.sizeOf336,
 v46:=Tryz.zeroValue336,
 t50:=Tryz.underlying340,
 a50:=Tryz.isAgg340,
 z50:=Tryz.sizeOf340,
 v50:=Tryz.zeroValue340,
 t53:=Tryz.underlying332,
 a53:=Tryz.isAgg332,
 z53:=Tryz.sizeOf332,
 v53:=Tryz.zeroValue332,
 t55:=Tryz.underlying272,
 a55:=Tryz.isAgg272,
 z55:=Tryz.sizeOf272,
 v55:=Tryz.zeroValue272,
 t66:=Tryz.underlying371,
 a66:=Tryz.isAgg371,
 z66:=Tryz.sizeOf371,
 v66:=Tryz.zeroValue371,
 t70:=Tryz.underlying375,
 a70:=Tryz.isAgg375,
 z70:=Tryz.sizeOf375,
 v70:=Tryz.zeroValue375,
 t76:=Tryz.underlying392,
 a76:=Tryz.isAgg392,
 z76:=Tryz.sizeOf392,
 v76:=Tryz.zeroValue392,
 t77:=Tryz.underlying248,
 a77:=Tryz.isAgg248,
 z77:=Tryz.sizeOf248,
 v77:=Tryz.zeroValue248}
def SR:Go.Shelf.Ren:=⟨fun | 171=>50 | 243=>122 | 246=>190 | 283=>250 | 284=>251 | 285=>252 | 286=>253 | 129=>307 | 317=>306 | 318=>308 | 319=>309 | 320=>310 | 337=>354 | 338=>355 | n=>n,fun | 3=>3 | 9=>9 | 2=>2 | 4=>4 | 171=>291 | 0=>0 | 53=>272 | 37=>53 | 5=>5 | 173=>294 | 212=>331 | 51=>332 | 20=>20 | 213=>333 | 46=>271 | 232=>390 | 233=>391 | n=>n,fun | 17=>3 | 18=>4 | 19=>5 | n=>n⟩
theorem Sf:Go.Proofs.LaysM.n171 Tryz.prog SR:={
 mixed:=by kernel_rfl,
 f129:=Tryz.func307.trans (bO some (by kernel_rfl)),
 f171:=Tryz.func50.trans (bO some (by kernel_rfl)),
 f243:=Tryz.func122.trans (bO some (by kernel_rfl)),
 f246:=Tryz.func190.trans (bO some (by kernel_rfl)),
 f283:=Tryz.func250.trans (bO some (by kernel_rfl)),
 f284:=Tryz.func251.trans (bO some (by kernel_rfl)),
 f285:=Tryz.func252.trans (bO some (by kernel_rfl)),
 f286:=Tryz.func253.trans (bO some (by kernel_rfl)),
 f317:=Tryz.func306.trans (bO some (by kernel_rfl)),
 f318:=Tryz.func308.trans (bO some (by kernel_rfl)),
 f319:=Tryz.func309.trans (bO some (by kernel_rfl)),
 f320:=Tryz.func310.trans (bO some (by kernel_rfl)),
 f337:=Tryz.func354.trans (bO some (by kernel_rfl)),
 f338:=Tryz.func355.trans (bO some (by kernel_rfl)),
 t0:=jM,
 a0:=Tryz.isAgg0,
 z0:=Tryz.sizeOf0,
 v0:=jZ,
 t2:=Tryz.underlying2,
 a2:=Tryz.isAgg2,
 z2:=Tryz.sizeOf2,
 v2:=Tryz.zeroValue2,
 t3:=jN,
 a3:=Tryz.isAgg3,
 z3:=Tryz.sizeOf3,
 v3:=kc,
 t4:=jO,
 a4:=Tryz.isAgg4,
 z4:=Tryz.sizeOf4,
 v4:=kd,
 t5:=jP,
 a5:=Tryz.isAgg5,
 z5:=Tryz.sizeOf5,
 v5:=ke,
 t9:=jQ,
 a9:=Tryz.isAgg9,
 z9:=Tryz.sizeOf9,
 v9:=kf,
 t20:=Tryz.underlying20,
 a20:=Tryz.isAgg20,
 z20:=Tryz.sizeOf20,
 v20:=Tryz.zeroValue20,
 t37:=Tryz.underlying53,
 a37:=Tryz.isAgg53,
 z37:=Tryz.sizeOf53,
 v37:=Tryz.zeroValue53,
 t46:=Tryz.underlying271,
 a46:=Tryz.isAgg271,
 z46:=Tryz.sizeOf271,
 v46:=Tryz.zeroValue271,
 t51:=Tryz.underlying332,
 a51:=Tryz.isAgg332,
 z51:=Tryz.sizeOf332,
 v51:=Tryz.zeroValue332,
 t53:=Tryz.underlying272,
 a53:=Tryz.isAgg272,
 z53:=Tryz.sizeOf272,
 v53:=Tryz.zeroValue272,
 t171:=Tryz.underlying291,
 a171:=Tryz.isAgg291,
 z171:=Tryz.sizeOf291,
 v171:=Tryz.zeroValue291,
 t173:=Tryz.underlying294,
 a173:=Tryz.isAgg294,
 z173:=Tryz.sizeOf294,
 v173:=Tryz.zeroValue294,
 t212:=Tryz.underlying331,
 a212:=Tryz.isAgg331,
 z212:=Tryz.sizeOf331,
 v212:=Tryz.zeroValue331,
 t213:=Tryz.underlying333,
 a213:=Tryz.isAgg333,
 z213:=Tryz.sizeOf333,
 t232:=Tryz.underlying390,
 a232:=Tryz.isAgg390,
 z232:=Tryz.sizeOf390,
 v232:=Tryz.zeroValue390,
 t233:=Tryz.underlying391,
 a233:=Tryz.isAgg391,
 z233:=Tryz.sizeOf391,
 v233:=Tryz.zeroValue391,
 g17:=by kernel_rfl,
 g18:=by kernel_rfl,
 g19:=by kernel_rfl,
 i0:=by kernel_rfl,
 i2:=by kernel_rfl,
 i3:=by kernel_rfl,
 i4:=by kernel_rfl,
 i5:=by kernel_rfl,
 i9:=by kernel_rfl,
 i20:=by kernel_rfl,
 i37:=by kernel_rfl,
 i46:=by kernel_rfl,
 i51:=by kernel_rfl,
 i53:=by kernel_rfl,
 i171:=by kernel_rfl,
 i173:=by kernel_rfl,
 i212:=by kernel_rfl,
 i232:=by kernel_rfl,
 i233:=by kernel_rfl,
 m17:=by kernel_rfl,
 m18:=by kernel_rfl,
 m19:=by kernel_rfl}
def Nn:Go.Shelf.Ren:=⟨fun | 156=>209 | 165=>268 | 166=>49 | 169=>51 | 240=>121 | 241=>325 | 276=>189 | 277=>364 | n=>n,fun | 31=>152 | 9=>9 | 3=>3 | 4=>4 | 0=>0 | 20=>20 | 72=>93 | 76=>96 | 70=>91 | 37=>53 | 75=>95 | 127=>179 | 164=>233 | 5=>5 | 80=>99 | n=>n,fun | n=>n⟩
theorem RS:Go.Proofs.Lays.n156 Tryz.prog Nn:={
 mixed:=by kernel_rfl,
 f156:=Tryz.func209.trans (bO some (by kernel_rfl)),
 f165:=Tryz.func268.trans (bO some (by kernel_rfl)),
 f166:=Tryz.func49.trans (bO some (by kernel_rfl)),
 f169:=Tryz.func51.trans (bO some (by kernel_rfl)),
 f240:=Tryz.func121.trans (bO some (by kernel_rfl)),
 f241:=Tryz.func325.trans (bO some (by kernel_rfl)),
 f276:=Tryz.func189.trans (bO some (by kernel_rfl)),
 f277:=Tryz.func364.trans (bO some (by kernel_rfl)),
 t0:=jM,
 a0:=Tryz.isAgg0,
 z0:=Tryz.sizeOf0,
 v0:=jZ,
 t3:=jN,
 a3:=Tryz.isAgg3,
 z3:=Tryz.sizeOf3,
 v3:=kc,
 t4:=jO,
 a4:=Tryz.isAgg4,
 z4:=Tryz.sizeOf4,
 v4:=kd,
 t9:=jQ,
 a9:=Tryz.isAgg9,
 z9:=Tryz.sizeOf9,
 v9:=kf,
 t20:=Tryz.underlying20,
 a20:=Tryz.isAgg20,
 z20:=Tryz.sizeOf20,
 v20:=Tryz.zeroValue20,
 t31:=Tryz.underlying152,
 a31:=Tryz.isAgg152,
 z31:=Tryz.sizeOf152,
 v31:=Tryz.zeroValue152,
 t37:=Tryz.underlying53,
 a37:=Tryz.isAgg53,
 z37:=Tryz.sizeOf53,
 v37:=Tryz.zeroValue53,
 t70:=Tryz.underlying91,
 a70:=Tryz.isAgg91,
 z70:=Tryz.sizeOf91,
 v70:=Tryz.zeroValue91,
 t72:=Tryz.underlying93,
 a72:=Tryz.isAgg93,
 z72:=Tryz.sizeOf93,
 v72:=Tryz.zeroValue93,
 t75:=Tryz.underlying95,
 a75:=Tryz.isAgg95,
 z75:=Tryz.sizeOf95,
 v75:=Tryz.zeroValue95,
 t76:=Tryz.underlying96,
 a76:=Tryz.isAgg96,
 z76:=Tryz.sizeOf96,
 v76:=Tryz.zeroValue96,
 t127:=Tryz.underlying179,
 a127:=Tryz.isAgg179,
 z127:=Tryz.sizeOf179,
 v127:=Tryz.zeroValue179,
 t164:=Tryz.underlying233,
 a164:=Tryz.isAgg233,
 z164:=Tryz.sizeOf233,
 v164:=Tryz.zeroValue233}
theorem Un:Go.Proofs.Builder.Extra Tryz.prog Nn:={
 sizeBuilder:=by kernel_rfl,
 liesBuilder:=by kernel_rfl,
 t5:=jP,
 a5:=Tryz.isAgg5,
 z5:=Tryz.sizeOf5,
 v5:=ke,
 infoByte:=by kernel_rfl,
 cellsByte:=by kernel_rfl,
 sizeByte:=by kernel_rfl,
 neB5:=by decide}
end Go.Proofs.YtjjjihkifgdhgaaGreatDoor
namespace Go.Proofs.YtjjjihkifgdhgaaGreatDoor
open Go.IntKind renaming wrap → wi0
open Go.RowKit
set_option maxRecDepth 10000
noncomputable section
structure kz where
 kA:ByteArray
 Word:ByteArray
def kN (x:kz):List Value:=[.string x.kA,.string x.Word]
def lq (x y:kz):Bool:=(lQ x.kA y.kA)&&((lQ x.Word y.Word)&&true)
theorem ny {x y:kz}:lq x y=true↔x=y:=by
 cases x; cases y; simp [lq,qk]
theorem zx (x:kz):(kN x).length=2:=rfl
theorem wo (x:kz):∀u∈kN x,u.oneCell'=true:=by
 intro u hu
 simp only [kN,aY,dM,gP] at hu
 rcases hu with rfl | rfl <;> rfl
structure kC where
 Kind:Int
 Head:kz
 mC:ByteArray
 B:kz
 C:kz
 mA:ByteArray
def kI (x:kC):List Value:=[.int .i64 x.Kind,.string x.Head.kA,.string x.Head.Word,.string x.mC,.string x.B.kA,.string x.B.Word,.string x.C.kA,.string x.C.Word,.string x.mA]
def lL (x y:kC):Bool:=(x.Kind==y.Kind)&&((lq x.Head y.Head)&&((lQ x.mC y.mC)&&((lq x.B y.B)&&((lq x.C y.C)&&((lQ x.mA y.mA)&&true)))))
theorem qC {x y:kC}:lL x y=true↔x=y:=by
 cases x; cases y; simp [lL,qk,ny]
theorem mQ (x:kC):(kI x).length=9:=rfl
theorem qM (x:kC):∀u∈kI x,u.oneCell'=true:=by
 intro u hu
 simp only [kI,aY,dM,gP] at hu
 rcases hu with rfl | rfl | rfl | rfl | rfl | rfl | rfl | rfl | rfl <;> rfl
structure pd where
 kz:kz
 mC:ByteArray
def oD (x:pd):List Value:=[.string x.kz.kA,.string x.kz.Word,.string x.mC]
theorem BX (x:pd):(oD x).length=3:=rfl
theorem Mw (x:pd):∀u∈oD x,u.oneCell'=true:=by
 intro u hu
 simp only [oD,aY,dM,gP] at hu
 rcases hu with rfl | rfl | rfl <;> rfl
structure sH where
 oH:Int
 ow:Int
def wH (x:sH):List Value:=[.int .i64 x.oH,.int .i64 x.ow]
def zM (x y:sH):Bool:=(x.oH==y.oH)&&((x.ow==y.ow)&&true)
structure mc where
 e:Int
def mT (x:mc):List Value:=[.int .i64 x.e]
structure Key where
 mC:ByteArray
 Key:List Int
structure Signed where
 kC:kC
 Tag:List Int
structure Formula where
 Op:Int
 K:Int
 kz:kz
 Kids:List Formula
structure lh where
 Signed:Signed
 kE:Formula
structure mn where
 kz:kz
 kE:Formula
 lN:List kC
structure lZ where
 Name:ByteArray
 kM:List lh
 kU:List mn
structure nA where
 kA:lZ
 Client:lZ
 Formula:Formula
 oA:Int
 lA:sH
 my:Int
 nz:Int
 mW:Int
 Keys:List Key
def qj (a0:ByteArray) (d:Int):Option Int :=
 some (yn a0 d)
def td (a0:ByteArray) (d:Int):Option Int :=
 ((qj a0 d).bind λr1=>some r1)
def we :List Int→Option Bool
 | []=>some true
 | j::d=>((td (⟨#[97,98,99,100,101,102,103,104,105,106,107,108,109,110,111,112,113,114,115,116,117,118,119,120,121,122,48,49,50,51,52,53,54,55,56,57,45]⟩:ByteArray) j).bind λi=>(if (decide (i < 0)) then some false else (we d)))
def Dv (a0:ByteArray):Option Bool :=
 ((Er a0).bind λd=>we d)
def sD (a0:ByteArray):Option Bool :=
 ((if (decide ((a0.size:Int)≥1)) then some (decide ((a0.size:Int)≤16)) else some false).bind λx2=>((if x2 then ((BD a0 0).bind λd=>((td (⟨#[97,98,99,100,101,102,103,104,105,106,107,108,109,110,111,112,113,114,115,116,117,118,119,120,121,122]⟩:ByteArray) (d.toNat:Int)).bind λj=>some (decide (j≥0)))) else some false).bind λn=>((if n then ((Dv a0).bind λi=>some i) else some false).bind λp=>some p)))
def vB (a0:List Int):Option (List Int) :=
 ((oB 1 ([]) a0).bind λd=>some d)
def qS (a0:kz):Option Bool :=
 ((sD a0.kA).bind λj=>((if j then ((sD a0.Word).bind λd=>some d) else some false).bind λi=>some i))
def rM (a0 d:ByteArray):Option Int :=
 some (vD a0 d)
def vR (a0 d:ByteArray):Option Int :=
 ((rM a0 d).bind λr1=>some r1)
def xp :List Int→Option Int
 | []=>some 0
 | d::i=>(if (d != 0) then some d else (xp i))
def B9 (a0:List Int):Option Int :=
 xp a0
def oR (a0 n:kz):Option Int :=
 ((vR a0.kA n.kA).bind λd=>((vR a0.Word n.Word).bind λi=>((B9 ([d,i])).bind λj=>some j)))
def tW (a0:kC):Option Bool :=
 ((qS a0.Head).bind λO=>(((if (a0.Kind==1) then ((if O then ((sD a0.mC).bind λi=>some i) else some false).bind λz=>some (Sum.inr (z,(⟨a0.Kind,a0.Head,a0.mC,(⟨zS,zS⟩:kz),(⟨zS,zS⟩:kz),zS⟩:kC)))) else (if (a0.Kind==2) then ((if O then ((qS a0.B).bind λj=>some j) else some false).bind λA=>some (Sum.inr (A,(⟨a0.Kind,a0.Head,zS,a0.B,(⟨zS,zS⟩:kz),zS⟩:kC)))) else (if (a0.Kind==3) then ((if O then ((qS a0.B).bind λp=>some p) else some false).bind λE=>((if E then some (lQ a0.B.kA a0.Head.kA) else some false).bind λG=>((if G then ((sD a0.mA).bind λn=>some n) else some false).bind λI=>some (Sum.inr (I,(⟨a0.Kind,a0.Head,zS,a0.B,(⟨zS,zS⟩:kz),a0.mA⟩:kC)))))) else (if (a0.Kind==4) then ((if O then ((qS a0.B).bind λu=>some u) else some false).bind λJ=>((if J then ((qS a0.C).bind λr=>some r) else some false).bind λL=>((if L then ((oR a0.B a0.C).bind λq=>some (decide (q < 0))) else some false).bind λM=>some (Sum.inr (M,(⟨a0.Kind,a0.Head,zS,a0.B,a0.C,zS⟩:kC)))))) else some (Sum.inl false))))):Option (Bool ⊕ (Bool×kC))).bind λs=>match s with | .inl d=>some d | .inr (v,w)=>((if v then some (lL w a0) else some false).bind λx=>some x)))
def ru :Nat→Int→(List Int)→Option (Bool×(List Int))
 | 0,_,_=>none
 | p+1,d,j=>(if (decide (d≥128)) then ((oB 1 j ([(IntKind.u8.wrap (BitVec.ofInt (IntKind.bits .u8) (IntKind.u8.wrap d) ||| BitVec.ofInt (IntKind.bits .u8) 128).toNat)])).bind λn=>(ru p (Int.fdiv d (2 ^ min (Int.toNat 7) (IntKind.bits .i64))) n)) else ((oB 1 j ([(IntKind.u8.wrap d)])).bind λi=>some (true,i)))
def pC (d:List Int) (i:Int):Option (Bool×(List Int)) :=
 (if (decide (i < 0)) then some (false,d) else ru li i d)
def yB (d i:List Int):Option (Bool×(List Int)) :=
 (if (decide ((i.length:Int) > 2048)) then some (false,d) else ((pC d (i.length:Int)).bind λn=>((oB 1 n.2 i).bind λj=>some (true,j))))
def vc (d:List Int) (q:ByteArray):Option (Bool×(List Int)) :=
 ((sD q).bind λr1=>(((if r1 then ((Er q).bind λn=>((yB d n).bind λi=>some (i.1,i.2))) else some (false,d)):Option (Bool×(List Int))).bind λ(p,j)=>some (p,j)))
def ry (d:List Int) (p:kz):Option (Bool×(List Int)) :=
 ((qS p).bind λu=>(((if u then ((vc d p.kA).bind λn=>some (n.1,n.2)) else some (false,d)):Option (Bool×(List Int))).bind λ(r,i)=>(((if r then ((vc i p.Word).bind λj=>some (j.1,j.2)) else some (false,i)):Option (Bool×(List Int))).bind λ(s,q)=>some (s,q))))
def uZ (d:List Int):Option (List Int) :=
 ((vB d).bind λi=>some i)
def xO (a0:kC):Option (List Int) :=
 ((tW a0).bind λv=>(if (!v) then some [] else ((pC ([]) a0.Kind).bind λw=>((ry w.2 a0.Head).bind λd=>(((if (a0.Kind==1) then ((vc d.2 a0.mC).bind λn=>some n.2) else (if (a0.Kind==2) then ((ry d.2 a0.B).bind λp=>some p.2) else (if (a0.Kind==3) then ((ry d.2 a0.B).bind λq=>((vc q.2 a0.mA).bind λr=>some r.2)) else (if (a0.Kind==4) then ((ry d.2 a0.B).bind λs=>((ry s.2 a0.C).bind λu=>some u.2)) else some d.2)))):Option (List Int)).bind λi=>((uZ i).bind λj=>some j))))))
def xa (a0 d:List Int):Option Bool :=
 some (lQ (sP a0) (sP d))
def sZ (a0:List kC):Option (List kC) :=
 ((oB 136 ([]) a0).bind λd=>some d)
def qo (f1:kC→Option Bool):List kC→Nat→Option Int
 | [],_=>some (-1)
 | j::d,i35=>((f1 j).bind λi=>(if i then some (i35:Int) else (qo f1 d (i35+1))))
def sR (a0:List kC) (f1:kC→Option Bool):Option Int :=
 qo f1 a0 0
def pn (f1:kC→Option Bool):Nat→(List kC)→Int→Int→Option (List kC)
 | 0,_,_,_=>none
 | n321+1,i,d,j=>(if (decide (j < (i.length:Int))) then ((((lM i j).bind λn=>((f1 n).bind λq=>(if (!q) then ((lM i d).bind λs=>some ((i.set (Int.toNat d) n),(wi0 .i64 (d+1)))) else some (i,d)))):Option ((List kC)×Int)).bind λ(p,r)=>(pn f1 n321 p r (wi0 .i64 (j+1)))) else ((wy (decide (0≤d)&&decide (d≤(i.length:Int)))).bind λ_=>((wy (decide (0≤d)&&decide (d≤((qp i (Int.toNat d) (⟨0,(⟨zS,zS⟩:kz),zS,(⟨zS,zS⟩:kz),(⟨zS,zS⟩:kz),zS⟩:kC)).length:Int)))).bind λ_=>some ((qp i (Int.toNat d) (⟨0,(⟨zS,zS⟩:kz),zS,(⟨zS,zS⟩:kz),(⟨zS,zS⟩:kz),zS⟩:kC)).take (Int.toNat d)))))
def sx (a0:List kC) (f1:kC→Option Bool):Option (List kC) :=
 ((sR a0 f1).bind λr1=>(if (r1==(-1)) then some a0 else pn f1 li a0 r1 (wi0 .i64 (r1+1))))
def yU (a0:kC):Option Bool :=
 ((tW a0).bind λd=>some (!d))
def xx (a0 d:List Int):Option Int :=
 some (zq a0 d)
def oS (a0 n:kC):Option Int :=
 ((xO a0).bind λd=>((xO n).bind λi=>((xx d i).bind λj=>some j)))
def pR (i:Int):Nat→(List kC)→Int→Int→Option ((List kC)×Int)
 | 0,_,_,_=>none
 | q+1,d,j,n=>(if (decide (n < ((d.length-(Int.toNat i):Nat):Int))) then ((((lM (d.drop (Int.toNat i)) n).bind λs=>((lM (d.drop (Int.toNat i)) (wi0 .i64 (n-1))).bind λu=>(if (!(lL s u)) then ((lM (d.drop (Int.toNat i)) n).bind λv=>((lM d j).bind λw=>some ((d.set (Int.toNat j) v),(wi0 .i64 (j+1))))) else some (d,j)))):Option ((List kC)×Int)).bind λ(p,r)=>(pR i q p r (wi0 .i64 (n+1)))) else some (d,j))
def pW (a0:List kC):Nat→Int→Option (List kC)
 | 0,_=>none
 | n+1,d=>(if (decide (d < (a0.length:Int))) then ((lM a0 d).bind λp=>((lM a0 (wi0 .i64 (d-1))).bind λq=>(if (lL p q) then ((wy (decide (0≤d)&&decide (d≤(a0.length:Int)))).bind λ_=>((pR d li a0 d 1).bind λ(j,i)=>((wy (decide (0≤i)&&decide (i≤(j.length:Int)))).bind λ_=>((wy (decide (0≤i)&&decide (i≤((qp j (Int.toNat i) (⟨0,(⟨zS,zS⟩:kz),zS,(⟨zS,zS⟩:kz),(⟨zS,zS⟩:kz),zS⟩:kC)).length:Int)))).bind λ_=>some ((qp j (Int.toNat i) (⟨0,(⟨zS,zS⟩:kz),zS,(⟨zS,zS⟩:kz),(⟨zS,zS⟩:kz),zS⟩:kC)).take (Int.toNat i)))))) else (pW a0 n (wi0 .i64 (d+1)))))) else some a0)
def uf (a0:List kC):Option (List kC) :=
 (if (decide ((a0.length:Int) < 2)) then some a0 else pW a0 li 1)
def zW (a0:List kC):Option (List kC) :=
 ((sZ a0).bind λr1=>((sx r1 (λ(x:kC)=>yU x)).bind λd=>((Dn (λ(x:(kC×kC))=>oS x.1 x.2) d).bind λi=>((uf i).bind λj=>some j))))
def rr (j:kC):List kC→Nat→Option Int
 | [],_=>some (-1)
 | i::d,i46=>(if (lL j i) then some (i46:Int) else (rr j d (i46+1)))
def xl (a0:List kC) (d:kC):Option Int :=
 rr d a0 0
def tN (a0:List kC) (d:kC):Option Bool :=
 ((xl a0 d).bind λi=>some (decide (i≥0)))
def vJ (a0:List kC) (d:kC):Option Bool :=
 ((tN a0 d).bind λi=>some i)
def FP (a0:kC):Option (List kz) :=
 ((tW a0).bind λj=>(if (!j) then none else (((if (a0.Kind != 1) then none else some ([a0.Head])):Option (List kz)).bind λd=>(((if (a0.Kind==4) then none else some d):Option (List kz)).bind λi=>some i))))
def vt (q:kC) (d:List (ByteArray×(List kC))) (j:List kC):List kz→(List (kz×(List kC)))→Option ((List kC)×(List (kz×(List kC)))×(List (ByteArray×(List kC))))
 | [],i=>(if (q.Kind==3) then none else some (j,i,d))
 | p::n,i=>none
def An (q:List (kz×(List (ByteArray×Bool)))) (d:List kC) (j:List (kz×(List kC))) (i:List (ByteArray×(List kC))) (n:List pd) (u:Int) (r:kC):Option ((List kC)×(List (kz×(List kC)))×(List (ByteArray×(List kC)))) :=
 ((oB 136 d ([r])).bind λs=>((FP r).bind λp=>((wy (decide (0≤1)&&decide (1≤(p.length:Int)))).bind λ_=>vt r i s (p.drop (Int.toNat 1)) j)))
def zZ (d:List (kz×(List (ByteArray×Bool)))) (j:List kC) (q:List (kz×(List kC))) (n:List (ByteArray×(List kC))) (i:List pd) (p:Int) (r:kz) (a2:ByteArray):Option ((List (kz×(List (ByteArray×Bool))))×(List pd)×Int) :=
 (if (J7 lQ ((qE lq d r).getD []) a2 false) then none else (((if (qE lq d r).isNone then ((Oi lq d r ([])).bind λs=>some s) else some d):Option (List (kz×(List (ByteArray×Bool))))).bind λu=>((NK lq lQ u r a2 true).bind λv=>((oB 48 i ([(⟨r,a2⟩:pd)])).bind λw=>some (v,w,(wi0 .i64 (p+1)))))))
def zw (p:List (kz×(List (ByteArray×Bool)))) (d:List kC) (n:List (kz×(List kC))) (i:List (ByteArray×(List kC))) (j:List pd) (q:Int) (r:kC):Option ((List (kz×(List (ByteArray×Bool))))×(List pd)×Int) :=
 (if (r.Kind==1) then ((zZ p d n i j q r.Head r.mC).bind λs=>some (s.1,s.2.1,s.2.2)) else none)
def uF (s:pd) (n:List kC) (q:List (kz×(List kC))) (p:List (ByteArray×(List kC))):List kC→(List (kz×(List (ByteArray×Bool))))→(List pd)→Int→Option ((List (kz×(List (ByteArray×Bool))))×(List pd)×Int)
 | [],d,i,j=>some (d,i,j)
 | u::r,d,i,j=>none
def uG (n:List kC) (q:List (kz×(List kC))) (p:List (ByteArray×(List kC))) (s:pd):List kC→(List (kz×(List (ByteArray×Bool))))→(List pd)→Int→Option ((List (kz×(List (ByteArray×Bool))))×(List pd)×Int)
 | [],d,i,j=>some (d,i,j)
 | u::r,d,i,j=>none
def se (j:List kC) (i:List (kz×(List kC))) (d:List (ByteArray×(List kC))):Nat→(List (kz×(List (ByteArray×Bool))))→(List pd)→Int→Option ((List (kz×(List (ByteArray×Bool))))×(List pd)×Int)
 | 0,_,_,_=>none
 | x+1,q,n,r=>(if (decide ((n.length:Int) > 0)) then ((lM n 0).bind λp=>((wy (decide (0≤1)&&decide (1≤(n.length:Int)))).bind λ_=>((uG j i d p ((qE lq i p.kz).getD []) q (n.drop (Int.toNat 1)) r).bind λ(s,u,z)=>((uF p j i d ((qE lQ d p.kz.Word).getD []) s u z).bind λ(v,w,A)=>(se j i d x v w A))))) else some (q,n,r))
def yG (p:List (kz×(List (ByteArray×Bool)))) (d:List kC) (n:List (kz×(List kC))) (i:List (ByteArray×(List kC))) (j:List pd) (q:Int):Option ((List (kz×(List (ByteArray×Bool))))×(List pd)×Int) :=
 se d n i li p j q
def tK (v:Int):List kC→(List (kz×(List (ByteArray×Bool))))→(List kC)→(List (kz×(List kC)))→(List (ByteArray×(List kC)))→(List pd)→Int→Option (Int×(List (kz×(List (ByteArray×Bool))))×(List kC)×(List (kz×(List kC)))×(List (ByteArray×(List kC)))×(List pd)×Int)
 | [],j,d,n,p,q,r=>((yG j d n p q r).bind λs=>some ((wi0 .i64 (s.2.2-v)),s.1,d,n,p,s.2.1,s.2.2))
 | u::x,j,d,n,p,q,r=>((tW u).bind λz=>((if z then ((vJ d u).bind λA=>some (!A)) else some false).bind λE=>(if E then ((An j d n p q r u).bind λi=>((zw j i.1 i.2.1 i.2.2 q r u).bind λw=>(tK v x w.1 i.1 i.2.1 i.2.2 w.2.1 w.2.2))) else (tK v x j d n p q r))))
def AD (p:List (kz×(List (ByteArray×Bool)))) (d:List kC) (n:List (kz×(List kC))) (i:List (ByteArray×(List kC))) (j:List pd) (q:Int) (r:List kC):Option (Int×(List (kz×(List (ByteArray×Bool))))×(List kC)×(List (kz×(List kC)))×(List (ByteArray×(List kC)))×(List pd)×Int) :=
 tK q r p d n i j q
def EF (a0:List kC):Option ((List (kz×(List (ByteArray×Bool))))×(List kC)×(List (kz×(List kC)))×(List (ByteArray×(List kC)))×(List pd)×Int) :=
 ((AD ([]) ([]) ([]) ([]) ([]) 0 a0).bind λd=>some (d.2.1,d.2.2.1,d.2.2.2.1,d.2.2.2.2.1,d.2.2.2.2.2.1,d.2.2.2.2.2.2))
def Ck (d:List (kz×(List (ByteArray×Bool)))) (i:List kC) (p:List (kz×(List kC))) (j:List (ByteArray×(List kC))) (n:List pd) (q:Int) (r:kz) (a2:ByteArray):Option Bool :=
 some (J7 lQ ((qE lq d r).getD []) a2 false)
def tj :List kC→Int→Option Int
 | [],i=>some i
 | d::j,i=>(tj j (wi0 .i64 (i+(wi0 .i64 ((wi0 .i64 ((wi0 .i64 ((wi0 .i64 ((wi0 .i64 ((wi0 .i64 ((wi0 .i64 ((wi0 .i64 (20+(d.Head.kA.size:Int)))+(d.Head.Word.size:Int)))+(d.mC.size:Int)))+(d.B.kA.size:Int)))+(d.B.Word.size:Int)))+(d.C.kA.size:Int)))+(d.C.Word.size:Int)))+(d.mA.size:Int))))))
def wP (a0:List kC):Option Int :=
 tj a0 0
def tw :List Signed→Int→Option Int
 | [],d=>some d
 | i::j,d=>((wP ([i.kC])).bind λn=>(tw j (wi0 .i64 (d+(wi0 .i64 (n+(i.Tag.length:Int)))))))
def rK (p:List Signed):List Key→Int→Option Int
 | [],d=>((tw p d).bind λi=>some i)
 | j::n,d=>(rK p n (wi0 .i64 (d+(wi0 .i64 ((wi0 .i64 (10+(j.mC.size:Int)))+(j.Key.length:Int))))))
def vA (a0:List Key) (d:List Signed):Option Int :=
 rK d a0 0
def rE (a0:ByteArray):Nat→Int→Option Bool
 | 0,_=>none
 | j+1,i=>(if (decide (i < (a0.size:Int))) then ((BD a0 i).bind λd=>((if (decide ((d.toNat:Int) < 97)) then some true else some (decide ((d.toNat:Int) > 122))).bind λn=>((if n then ((if (decide ((d.toNat:Int) < 48)) then some true else some (decide ((d.toNat:Int) > 57))).bind λr=>some r) else some false).bind λp=>((if p then some ((d.toNat:Int) != 45) else some false).bind λq=>(if q then some false else (rE a0 j (wi0 .i64 (i+1)))))))) else some true)
def us (a0:ByteArray):Option Bool :=
 ((if (lQ a0 zS) then some true else some (decide ((a0.size:Int) > 16))).bind λx2=>((if x2 then some true else ((BD a0 0).bind λi=>some (decide ((i.toNat:Int) < 97)))).bind λj=>((if j then some true else ((BD a0 0).bind λd=>some (decide ((d.toNat:Int) > 122)))).bind λn=>(if n then some false else rE a0 li 0))))
def sN (a0:kz):Option Bool :=
 ((us a0.kA).bind λj=>((if j then ((us a0.Word).bind λd=>some d) else some false).bind λi=>some i))
def vZ (a0 d:kz):Option Bool :=
 ((if (zy a0.kA d.kA) then some true else ((if (lQ a0.kA d.kA) then some (zy a0.Word d.Word) else some false).bind λj=>some j)).bind λi=>some i)
def wZ (a0:kC):Option Bool :=
 ((sN a0.Head).bind λG=>(if (!G) then some false else (if (a0.Kind==1) then ((us a0.mC).bind λq=>((if q then some (lq a0.B (⟨zS,zS⟩:kz)) else some false).bind λs=>((if s then some (lq a0.C (⟨zS,zS⟩:kz)) else some false).bind λu=>((if u then some (lQ a0.mA zS) else some false).bind λv=>some v)))) else ((if (!(lQ a0.mC zS)) then some true else ((sN a0.B).bind λj=>some (!j))).bind λw=>(if w then some false else (if (a0.Kind==2) then ((if (lq a0.C (⟨zS,zS⟩:kz)) then some (lQ a0.mA zS) else some false).bind λx=>some x) else (if (a0.Kind==3) then ((if (lq a0.C (⟨zS,zS⟩:kz)) then some (lQ a0.B.kA a0.Head.kA) else some false).bind λz=>((if z then ((us a0.mA).bind λr=>some r) else some false).bind λA=>some A)) else ((if (a0.Kind==4) then some (lQ a0.mA zS) else some false).bind λE=>((if E then ((sN a0.C).bind λi=>some i) else some false).bind λn=>((if n then ((vZ a0.B a0.C).bind λd=>some d) else some false).bind λp=>some p))))))))))
def uE :Nat→Int→ByteArray→Option ByteArray
 | 0,_,_=>none
 | n45+1,d,i=>(if (decide (d≥128)) then ((lY i (sP ([(IntKind.u8.wrap (wi0 .i64 (128+(Int.tmod d 128))))]))).bind λj=>(uE n45 (wi0 .i64 (Int.tdiv d 128)) j)) else ((lY i (sP ([(IntKind.u8.wrap d)]))).bind λn=>some n))
def wx (a0:Int):Option ByteArray :=
 uE li a0 zS
def ve (a0:ByteArray):Option ByteArray :=
 ((wx (a0.size:Int)).bind λr1=>((lY r1 a0).bind λd=>some d))
def vy (a0:kz):Option ByteArray :=
 ((ve a0.kA).bind λd=>((ve a0.Word).bind λi=>((lY d i).bind λj=>some j)))
def Bx (a0:kC):Option ByteArray :=
 ((wx a0.Kind).bind λn=>((vy a0.Head).bind λp=>((lY n p).bind λd=>(if (a0.Kind==1) then ((ve a0.mC).bind λq=>((lY d q).bind λv=>some v)) else ((vy a0.B).bind λr=>((lY d r).bind λi=>(((if (a0.Kind==3) then ((ve a0.mA).bind λu=>((lY i u).bind λx=>some x)) else some i):Option ByteArray).bind λj=>(((if (a0.Kind==4) then ((vy a0.C).bind λs=>((lY j s).bind λw=>some w)) else some j):Option ByteArray).bind λz=>some z))))))))
def wO (a0:kC):Option ByteArray :=
 ((wZ a0).bind λd=>(if (!d) then some zS else ((Bx a0).bind λi=>some i)))
def uj (a0 j:kC):Option Int :=
 ((wO a0).bind λd=>((wO j).bind λi=>(if (zy d i) then some (-1) else (if (!(zy d i||lQ d i)) then some 1 else some 0))))
def tq (d:List kC):List kC→Bool→kC→Option (Bool×kC)
 | [],j,n=>some (j,n)
 | i::p,j,n=>((wZ i).bind λq=>((if q then ((if ((d.length:Int)==0) then some true else ((lM d (wi0 .i64 ((d.length:Int)-1))).bind λz=>((uj z i).bind λs=>some (decide (s < 0))))).bind λx=>some x) else some false).bind λu=>((if u then ((if (!j) then some true else ((uj i n).bind λr=>some (decide (r < 0)))).bind λw=>some w) else some false).bind λv=>(if v then (tq d p true i) else (tq d p j n)))))
def uP (a0:List kC):Nat→(List kC)→Option (List kC)
 | 0,_=>none
 | j+1,d=>((tq d a0 false (⟨0,(⟨zS,zS⟩:kz),zS,(⟨zS,zS⟩:kz),(⟨zS,zS⟩:kz),zS⟩:kC)).bind λ(n,p)=>(if (!n) then some d else ((oB 136 d ([p])).bind λi=>(uP a0 j i))))
def DQ (a0:List kC):Option (List kC) :=
 uP a0 li ([])
def ui (n:List kC):List kC→Nat→Option Bool
 | [],_=>some true
 | j::i,i90=>((lM n (i90:Int)).bind λd=>(if (!(lL j d)) then some false else (ui n i (i90+1))))
def vX (a0 d:List kC):Option Bool :=
 (if ((a0.length:Int) != (d.length:Int)) then some false else ui d a0 0)
def F0 (a0:List kC) (i:ByteArray):Option ((List (kz×(List (ByteArray×Bool))))×(List kC)×(List (kz×(List kC)))×(List (ByteArray×(List kC)))×(List pd)×Int×ByteArray) :=
 ((EF a0).bind λd=>some (d.1,d.2.1,d.2.2.1,d.2.2.2.1,d.2.2.2.2.1,d.2.2.2.2.2,i))
def nw (f1:lh→Option Bool):List lh→Nat→Option Int
 | [],_=>some (-1)
 | j::d,i47=>((f1 j).bind λi=>(if i then some (i47:Int) else (nw f1 d (i47+1))))
def oV (a0:List lh) (f1:lh→Option Bool):Option Int :=
 nw f1 a0 0
def xr (a0:lh) (d:kC):Option Bool :=
 some (lL a0.Signed.kC d)
def zP (a0:lZ) (j:kC):Option (lh×Bool) :=
 ((oV a0.kM (λ(x:lh)=>xr x j)).bind λd=>(if (decide (d < 0)) then some ((⟨(⟨(⟨0,(⟨zS,zS⟩:kz),zS,(⟨zS,zS⟩:kz),(⟨zS,zS⟩:kz),zS⟩:kC),[]⟩:Signed),(⟨0,0,(⟨zS,zS⟩:kz),[]⟩:Formula)⟩:lh),false) else ((lM a0.kM d).bind λi=>some (i,true))))
def vG (a0:List mn):Option (List mn) :=
 ((oB 128 ([]) a0).bind λd=>some d)
def ob (f1:mn→Option Bool):List mn→Nat→Option Int
 | [],_=>some (-1)
 | j::d,i47=>((f1 j).bind λi=>(if i then some (i47:Int) else (ob f1 d (i47+1))))
def py (a0:List mn) (f1:mn→Option Bool):Option Int :=
 ob f1 a0 0
def pv (f1:mn→Option Bool):Nat→(List mn)→Int→Int→Option (List mn)
 | 0,_,_,_=>none
 | q+1,i,d,j=>(if (decide (j < (i.length:Int))) then ((((lM i j).bind λn=>((f1 n).bind λr=>(if (!r) then ((lM i d).bind λu=>some ((i.set (Int.toNat d) n),(wi0 .i64 (d+1)))) else some (i,d)))):Option ((List mn)×Int)).bind λ(p,s)=>(pv f1 q p s (wi0 .i64 (j+1)))) else ((wy (decide (0≤d)&&decide (d≤(i.length:Int)))).bind λ_=>((wy (decide (0≤d)&&decide (d≤((qp i (Int.toNat d) (⟨(⟨zS,zS⟩:kz),(⟨0,0,(⟨zS,zS⟩:kz),[]⟩:Formula),[]⟩:mn)).length:Int)))).bind λ_=>some ((qp i (Int.toNat d) (⟨(⟨zS,zS⟩:kz),(⟨0,0,(⟨zS,zS⟩:kz),[]⟩:Formula),[]⟩:mn)).take (Int.toNat d)))))
def sS (a0:List mn) (f1:mn→Option Bool):Option (List mn) :=
 ((py a0 f1).bind λr1=>(if (r1==(-1)) then some a0 else pv f1 li a0 r1 (wi0 .i64 (r1+1))))
def tH (a0:mn) (d:kC):Option Bool :=
 ((vJ a0.lN d).bind λi=>some (!i))
def yZ (a0:lZ) (i:kC):Option (List mn) :=
 ((vG a0.kU).bind λj=>((sS j (λ(x:mn)=>tH x i)).bind λd=>some d))
def qV (p:Int) (rec:Formula→Int→Option (Int×Int)):List Formula→Int→Int→Option (Int×Int)
 | [],d,j=>some (d,j)
 | q::n,d,j=>(if (decide (d > p)) then some (d,j) else ((rec q (wi0 .i64 (p-d))).bind λi=>(qV p rec n (wi0 .i64 (d+i.1)) (if i.2 > j then i.2 else j))))
def wC (rec:Formula→Int→Option (Int×Int)) (a0:Formula) (j:Int):Option (Int×Int) :=
 ((qV j rec a0.Kids 1 0).bind λ(d,i)=>some (d,(wi0 .i64 (i+1))))
def pX:Nat→Formula→Int→Option (Int×Int)
 | 0=>λ_ _=>none
 | n+1=>wC (pX n)
def yh (a0:Formula):Option (Int×Int) :=
 ((pX li a0 4096).bind λd=>(if (decide (d.1 > 4096)) then some (0,0) else some (d.1,d.2)))
def ye (a0:Formula):Option Bool :=
 (if (a0.Op==1) then ((qS a0.kz).bind λn=>((if n then some ((a0.Kids.length:Int)==0) else some false).bind λp=>((if p then some (a0.K==0) else some false).bind λq=>some q))) else ((if (a0.Op==2) then some (a0.Op==2) else some (a0.Op==3)).bind λr=>(if r then ((if (lq a0.kz (⟨zS,zS⟩:kz)) then some (a0.K==0) else some false).bind λs=>some s) else ((if (a0.Op==4) then some (lq a0.kz (⟨zS,zS⟩:kz)) else some false).bind λu=>((if u then some (decide (a0.K≥0)) else some false).bind λd=>((if d then some (decide (a0.K≤(a0.Kids.length:Int))) else some false).bind λi=>((if i then some (decide ((a0.Kids.length:Int)≥1)) else some false).bind λj=>some j)))))))
def oY (f1:Formula→Option Bool):List Formula→Nat→Option Int
 | [],_=>some (-1)
 | j::d,i41=>((f1 j).bind λi=>(if i then some (i41:Int) else (oY f1 d (i41+1))))
def ur (a0:List Formula) (f1:Formula→Option Bool):Option Int :=
 oY f1 a0 0
def pA (a0:List Formula) (f1:Formula→Option Bool):Option Bool :=
 ((ur a0 f1).bind λr1=>some (decide (r1≥0)))
def vC (rec:Formula→Option Bool) (a0:Formula):Option Bool :=
 ((rec a0).bind λd=>some (!d))
def wF (rec:Formula→Option Bool) (a0:Formula):Option Bool :=
 ((ye a0).bind λj=>((if j then some (decide ((a0.Kids.length:Int)≤8)) else some false).bind λn=>((if n then ((pA a0.Kids (λ(x:Formula)=>vC rec x)).bind λd=>some (!d)) else some false).bind λi=>some i)))
def sE:Nat→Formula→Option Bool
 | 0=>λ_=>none
 | n+1=>wF (sE n)
def qb (a0:Formula):Option Bool :=
 ((yh a0).bind λi=>((if (decide (i.1≥1)) then some (decide (i.1≤64)) else some false).bind λp=>((if p then some (decide (i.2≤6)) else some false).bind λj=>((if j then ((sE li a0).bind λd=>some d) else some false).bind λn=>some n))))
def uM (a0:Formula) (d:Int):Option Bool :=
 ((if (a0.Op==d) then some ((a0.Kids.length:Int)==0) else some false).bind λx6=>some x6)
def Aa :Option Formula :=
 some (⟨2,0,(⟨zS,zS⟩:kz),[]⟩:Formula)
def AS :Option Formula :=
 some (⟨3,0,(⟨zS,zS⟩:kz),[]⟩:Formula)
def rO (a0:Int):List Formula→(List Formula)→Option (List Formula)
 | [],d=>some d
 | i::j,d=>(if (i.Op==a0) then ((oB 72 d i.Kids).bind λn=>(rO a0 j n)) else ((oB 72 d ([i])).bind λp=>(rO a0 j p)))
def BC (a0:Int) (d:List Formula):Option (List Formula) :=
 rO a0 d ([])
def sd (a0:Formula) (d:Int):Option Bool :=
 ((uM a0 d).bind λi=>some i)
def tL (a0:List Formula):Option (List Formula) :=
 ((oB 72 ([]) a0).bind λd=>some d)
def nj (x:Int) (f3:(Formula×Formula)→Option Int):Nat→(List Formula)→Int→Option (List Formula)
 | 0,_,_=>none
 | p+1,i,d=>((if (decide (d > x)) then ((lM i d).bind λs=>((lM i (wi0 .i64 (d-1))).bind λu=>((f3 (s,u)).bind λq=>some (decide (q < 0))))) else some false).bind λr=>(if r then ((lM i (wi0 .i64 (d-1))).bind λn=>((lM i d).bind λj=>((lM i d).bind λv=>((lM (i.set (Int.toNat d) n) (wi0 .i64 (d-1))).bind λw=>(nj x f3 p ((i.set (Int.toNat d) n).set (Int.toNat (wi0 .i64 (d-1))) (⟨j.Op,j.K,j.kz,j.Kids⟩:Formula)) (wi0 .i64 (d-1))))))) else some i))
def mP (a2 p:Int) (f3:(Formula×Formula)→Option Int):Nat→(List Formula)→Int→Option (List Formula)
 | 0,_,_=>none
 | n+1,i,d=>(if (decide (d < a2)) then ((nj p f3 li i d).bind λj=>(mP a2 p f3 n j (wi0 .i64 (d+1)))) else some i)
def oJ (a0:List Formula) (d a2:Int) (f3:(Formula×Formula)→Option Int):Option (List Formula) :=
 mP a2 d f3 li a0 (wi0 .i64 (d+1))
def nx (a3 a2 p:Int):Nat→(List Formula)→Int→Option (List Formula)
 | 0,_,_=>none
 | q+1,i,d=>(if (decide (d < a3)) then ((lM i (wi0 .i64 (a2+d))).bind λn=>((lM i (wi0 .i64 (p+d))).bind λj=>((lM i (wi0 .i64 (p+d))).bind λr=>((lM (i.set (Int.toNat (wi0 .i64 (p+d))) n) (wi0 .i64 (a2+d))).bind λs=>(nx a3 a2 p q ((i.set (Int.toNat (wi0 .i64 (p+d))) n).set (Int.toNat (wi0 .i64 (a2+d))) (⟨j.Op,j.K,j.kz,j.Kids⟩:Formula)) (wi0 .i64 (d+1))))))) else some i)
def oC (a0:List Formula) (d a2 a3:Int) (f4:(Formula×Formula)→Option Int):Option (List Formula) :=
 nx a3 a2 d li a0 0
def nM (a2:Int) (f4:(Formula×Formula)→Option Int):Nat→(List Formula)→Int→Int→Option (List Formula)
 | 0,_,_,_=>none
 | n185+1,j,d,i=>(if (d != i) then (if (decide (d > i)) then ((oC j (wi0 .i64 (a2-d)) a2 i f4).bind λn=>(nM a2 f4 n185 n (wi0 .i64 (d-i)) i)) else ((oC j (wi0 .i64 (a2-d)) (wi0 .i64 ((wi0 .i64 (a2+i))-d)) d f4).bind λp=>(nM a2 f4 n185 p d (wi0 .i64 (i-d))))) else ((oC j (wi0 .i64 (a2-d)) a2 d f4).bind λq=>some q))
def ot (a0:List Formula) (d a2 a3:Int) (f4:(Formula×Formula)→Option Int):Option (List Formula) :=
 nM a2 f4 li a0 (wi0 .i64 (a2-d)) (wi0 .i64 (a3-a2))
def nE (p:Int):Nat→(List Formula)→Int→Option (List Formula)
 | 0,_,_=>none
 | q+1,i,d=>(if (decide (d < (wi0 .i64 (p-1)))) then ((lM i (wi0 .i64 (d+1))).bind λn=>((lM i d).bind λj=>((lM i d).bind λr=>((lM (i.set (Int.toNat d) n) (wi0 .i64 (d+1))).bind λs=>(nE p q ((i.set (Int.toNat d) n).set (Int.toNat (wi0 .i64 (d+1))) (⟨j.Op,j.K,j.kz,j.Kids⟩:Formula)) (wi0 .i64 (d+1))))))) else some i)
def mE (a0:List Formula) (r:Int) (f4:(Formula×Formula)→Option Int):Nat→Int→Int→Option (List Formula)
 | 0,_,_=>none
 | n325+1,d,i=>(if (decide (d < i)) then ((lM a0 (wi0 .i64 (Int.fdiv (IntKind.u64.wrap (wi0 .i64 (d+i))) (2 ^ min (Int.toNat 1) (IntKind.bits .u64))))).bind λp=>((lM a0 r).bind λq=>((f4 (p,q)).bind λn=>(if (decide (n < 0)) then (mE a0 r f4 n325 (wi0 .i64 ((wi0 .i64 (Int.fdiv (IntKind.u64.wrap (wi0 .i64 (d+i))) (2 ^ min (Int.toNat 1) (IntKind.bits .u64))))+1)) i) else (mE a0 r f4 n325 d (wi0 .i64 (Int.fdiv (IntKind.u64.wrap (wi0 .i64 (d+i))) (2 ^ min (Int.toNat 1) (IntKind.bits .u64))))))))) else ((nE d li a0 r).bind λj=>some j))
def nD (n:Int):Nat→(List Formula)→Int→Option (List Formula)
 | 0,_,_=>none
 | q+1,i,d=>(if (decide (d > n)) then ((lM i (wi0 .i64 (d-1))).bind λp=>((lM i d).bind λj=>((lM i d).bind λr=>((lM (i.set (Int.toNat d) p) (wi0 .i64 (d-1))).bind λs=>(nD n q ((i.set (Int.toNat d) p).set (Int.toNat (wi0 .i64 (d-1))) (⟨j.Op,j.K,j.kz,j.Kids⟩:Formula)) (wi0 .i64 (d-1))))))) else some i)
def mG (a0:List Formula) (a2:Int) (f4:(Formula×Formula)→Option Int):Nat→Int→Int→Option (List Formula)
 | 0,_,_=>none
 | j+1,d,i=>(if (decide (d < i)) then ((lM a0 a2).bind λq=>((lM a0 (wi0 .i64 (Int.fdiv (IntKind.u64.wrap (wi0 .i64 (d+i))) (2 ^ min (Int.toNat 1) (IntKind.bits .u64))))).bind λr=>((f4 (q,r)).bind λp=>(if (!(decide (p < 0))) then (mG a0 a2 f4 j (wi0 .i64 ((wi0 .i64 (Int.fdiv (IntKind.u64.wrap (wi0 .i64 (d+i))) (2 ^ min (Int.toNat 1) (IntKind.bits .u64))))+1)) i) else (mG a0 a2 f4 j d (wi0 .i64 (Int.fdiv (IntKind.u64.wrap (wi0 .i64 (d+i))) (2 ^ min (Int.toNat 1) (IntKind.bits .u64))))))))) else ((nD d li a0 a2).bind λn=>some n))
def mg (a0:List Formula) (j a3 a2:Int) (f4:(Formula×Formula)→Option Int) (rec:(List Formula)→Int→Int→Int→((Formula×Formula)→Option Int)→Option (List Formula)):Nat→Int→Int→Option (List Formula)
 | 0,_,_=>none
 | q+1,d,i=>(if (decide (d < i)) then ((lM a0 (wi0 .i64 ((wi0 .i64 ((wi0 .i64 ((wi0 .i64 (Int.fdiv (IntKind.u64.wrap (wi0 .i64 (j+a3))) (2 ^ min (Int.toNat 1) (IntKind.bits .u64))))+a2))-1))-(wi0 .i64 (Int.fdiv (IntKind.u64.wrap (wi0 .i64 (d+i))) (2 ^ min (Int.toNat 1) (IntKind.bits .u64))))))).bind λw=>((lM a0 (wi0 .i64 (Int.fdiv (IntKind.u64.wrap (wi0 .i64 (d+i))) (2 ^ min (Int.toNat 1) (IntKind.bits .u64))))).bind λx=>((f4 (w,x)).bind λr=>(if (!(decide (r < 0))) then (mg a0 j a3 a2 f4 rec q (wi0 .i64 ((wi0 .i64 (Int.fdiv (IntKind.u64.wrap (wi0 .i64 (d+i))) (2 ^ min (Int.toNat 1) (IntKind.bits .u64))))+1)) i) else (mg a0 j a3 a2 f4 rec q d (wi0 .i64 (Int.fdiv (IntKind.u64.wrap (wi0 .i64 (d+i))) (2 ^ min (Int.toNat 1) (IntKind.bits .u64))))))))) else ((((if (decide (d < a2)) then some (decide (a2 < (wi0 .i64 ((wi0 .i64 ((wi0 .i64 (Int.fdiv (IntKind.u64.wrap (wi0 .i64 (j+a3))) (2 ^ min (Int.toNat 1) (IntKind.bits .u64))))+a2))-d)))) else some false).bind λE=>(if E then ((ot a0 d a2 (wi0 .i64 ((wi0 .i64 ((wi0 .i64 (Int.fdiv (IntKind.u64.wrap (wi0 .i64 (j+a3))) (2 ^ min (Int.toNat 1) (IntKind.bits .u64))))+a2))-d)) f4).bind λv=>some v) else some a0)):Option (List Formula)).bind λn=>((((if (decide (j < d)) then some (decide (d < (wi0 .i64 (Int.fdiv (IntKind.u64.wrap (wi0 .i64 (j+a3))) (2 ^ min (Int.toNat 1) (IntKind.bits .u64)))))) else some false).bind λA=>(if A then ((rec n j d (wi0 .i64 (Int.fdiv (IntKind.u64.wrap (wi0 .i64 (j+a3))) (2 ^ min (Int.toNat 1) (IntKind.bits .u64)))) f4).bind λu=>some u) else some n)):Option (List Formula)).bind λp=>((if (decide ((wi0 .i64 (Int.fdiv (IntKind.u64.wrap (wi0 .i64 (j+a3))) (2 ^ min (Int.toNat 1) (IntKind.bits .u64)))) < (wi0 .i64 ((wi0 .i64 ((wi0 .i64 (Int.fdiv (IntKind.u64.wrap (wi0 .i64 (j+a3))) (2 ^ min (Int.toNat 1) (IntKind.bits .u64))))+a2))-d)))) then some (decide ((wi0 .i64 ((wi0 .i64 ((wi0 .i64 (Int.fdiv (IntKind.u64.wrap (wi0 .i64 (j+a3))) (2 ^ min (Int.toNat 1) (IntKind.bits .u64))))+a2))-d)) < a3)) else some false).bind λz=>(if z then ((rec p (wi0 .i64 (Int.fdiv (IntKind.u64.wrap (wi0 .i64 (j+a3))) (2 ^ min (Int.toNat 1) (IntKind.bits .u64)))) (wi0 .i64 ((wi0 .i64 ((wi0 .i64 (Int.fdiv (IntKind.u64.wrap (wi0 .i64 (j+a3))) (2 ^ min (Int.toNat 1) (IntKind.bits .u64))))+a2))-d)) a3 f4).bind λs=>some s) else some p)))))
def qL (rec:(List Formula)→Int→Int→Int→((Formula×Formula)→Option Int)→Option (List Formula)) (a0:List Formula) (d a2 a3:Int) (f4:(Formula×Formula)→Option Int):Option (List Formula) :=
 (if ((wi0 .i64 (a2-d))==1) then mE a0 d f4 li a2 a3 else (if ((wi0 .i64 (a3-a2))==1) then mG a0 a2 f4 li d a2 else (((if (decide (a2 > (wi0 .i64 (Int.fdiv (IntKind.u64.wrap (wi0 .i64 (d+a3))) (2 ^ min (Int.toNat 1) (IntKind.bits .u64)))))) then some ((wi0 .i64 ((wi0 .i64 ((wi0 .i64 (Int.fdiv (IntKind.u64.wrap (wi0 .i64 (d+a3))) (2 ^ min (Int.toNat 1) (IntKind.bits .u64))))+a2))-a3)),(wi0 .i64 (Int.fdiv (IntKind.u64.wrap (wi0 .i64 (d+a3))) (2 ^ min (Int.toNat 1) (IntKind.bits .u64))))) else some (d,a2)):Option (Int×Int)).bind λ(i,j)=>mg a0 d a3 a2 f4 rec li i j)))
def mR:Nat→(List Formula)→Int→Int→Int→((Formula×Formula)→Option Int)→Option (List Formula)
 | 0=>λ_ _ _ _ _=>none
 | n+1=>qL (mR n)
def nK (r i:Int) (f2:(Formula×Formula)→Option Int):Nat→(List Formula)→Int→Int→Option ((List Formula)×Int)
 | 0,_,_,_=>none
 | p+1,n,j,d=>(if (decide (d≤r)) then ((mR li n j (wi0 .i64 (j+i)) d f2).bind λq=>(nK r i f2 p q d (wi0 .i64 (d+(wi0 .i64 (2*i)))))) else some (n,j))
def nr (s:Int) (f2:(Formula×Formula)→Option Int):Nat→(List Formula)→Int→Option (List Formula)
 | 0,_,_=>none
 | q+1,j,d=>(if (decide (d < s)) then ((nK s d f2 li j 0 (wi0 .i64 (2*d))).bind λ(n,i)=>(((if (decide ((wi0 .i64 (i+d)) < s)) then ((mR li n i (wi0 .i64 (i+d)) s f2).bind λr=>some r) else some n):Option (List Formula)).bind λp=>(nr s f2 q p (wi0 .i64 (d*2))))) else some j)
def ns (r:Int) (f2:(Formula×Formula)→Option Int):Nat→(List Formula)→Int→Int→Option (List Formula)
 | 0,_,_,_=>none
 | n123+1,j,q,d=>(if (decide (d≤r)) then ((oJ j q d f2).bind λn=>(ns r f2 n123 n d (wi0 .i64 (d+20)))) else ((oJ j q r f2).bind λp=>((nr r f2 li p 20).bind λi=>some i)))
def sy (a0:List Formula) (d:Int) (f2:(Formula×Formula)→Option Int):Option (List Formula) :=
 ns d f2 li a0 0 20
def qv (a0:List Formula) (f1:(Formula×Formula)→Option Int):Option (List Formula) :=
 ((sy a0 (a0.length:Int) f1).bind λr1=>some r1)
def rV (rec:(List Int)→Formula→Option (List Int)):List Formula→(List Int)→Option (List Int)
 | [],d=>some d
 | n::i,d=>((rec d n).bind λj=>(rV rec i j))
def wG (rec:(List Int)→Formula→Option (List Int)) (i:List Int) (d:Formula):Option (List Int) :=
 ((pC i d.Op).bind λq=>(if (d.Op==1) then ((ry q.2 d.kz).bind λp=>some p.2) else (((if (d.Op==4) then ((pC q.2 d.K).bind λj=>some j.2) else some q.2):Option (List Int)).bind λn=>((pC n (d.Kids.length:Int)).bind λr=>rV rec d.Kids r.2))))
def rk:Nat→(List Int)→Formula→Option (List Int)
 | 0=>λ_ _=>none
 | n+1=>wG (rk n)
def xt (d:List Int) (i:Formula):Option (Bool×(List Int)) :=
 ((qb i).bind λj=>(if (!j) then some (false,d) else ((rk li d i).bind λn=>some (true,n))))
def uD (a0:Formula):Option (List Int) :=
 ((xt ([]) a0).bind λi=>((uZ i.2).bind λd=>some d))
def uw (a0 n:Formula):Option Int :=
 ((uD a0).bind λd=>((uD n).bind λi=>((xx d i).bind λj=>some j)))
def wi (a0:List Formula):Option (List Formula) :=
 ((tL a0).bind λr1=>((qv r1 (λ(x:(Formula×Formula))=>uw x.1 x.2)).bind λd=>some d))
def ol (i:Int) (f1:(Formula×Formula)→Option Bool):Nat→(List Formula)→Int→Int→Option ((List Formula)×Int)
 | 0,_,_,_=>none
 | q+1,d,j,n=>(if (decide (n < ((d.length-(Int.toNat i):Nat):Int))) then ((((lM (d.drop (Int.toNat i)) n).bind λu=>((lM (d.drop (Int.toNat i)) (wi0 .i64 (n-1))).bind λv=>((f1 (u,v)).bind λr=>(if (!r) then ((lM (d.drop (Int.toNat i)) n).bind λw=>((lM d j).bind λx=>some ((d.set (Int.toNat j) w),(wi0 .i64 (j+1))))) else some (d,j))))):Option ((List Formula)×Int)).bind λ(p,s)=>(ol i f1 q p s (wi0 .i64 (n+1)))) else some (d,j))
def og (a0:List Formula) (f1:(Formula×Formula)→Option Bool):Nat→Int→Option (List Formula)
 | 0,_=>none
 | n+1,d=>(if (decide (d < (a0.length:Int))) then ((lM a0 d).bind λq=>((lM a0 (wi0 .i64 (d-1))).bind λr=>((f1 (q,r)).bind λp=>(if p then ((wy (decide (0≤d)&&decide (d≤(a0.length:Int)))).bind λ_=>((ol d f1 li a0 d 1).bind λ(j,i)=>((wy (decide (0≤i)&&decide (i≤(j.length:Int)))).bind λ_=>((wy (decide (0≤i)&&decide (i≤((qp j (Int.toNat i) (⟨0,0,(⟨zS,zS⟩:kz),[]⟩:Formula)).length:Int)))).bind λ_=>some ((qp j (Int.toNat i) (⟨0,0,(⟨zS,zS⟩:kz),[]⟩:Formula)).take (Int.toNat i)))))) else (og a0 f1 n (wi0 .i64 (d+1))))))) else some a0)
def re (a0:List Formula) (f1:(Formula×Formula)→Option Bool):Option (List Formula) :=
 (if (decide ((a0.length:Int) < 2)) then some a0 else og a0 f1 li 1)
def mB (p:List Formula) (f2:(Formula×Formula)→Option Bool):List Formula→Nat→Option Bool
 | [],_=>some true
 | n::j,i95=>((lM p (i95:Int)).bind λi=>((f2 (n,i)).bind λd=>(if (!d) then some false else (mB p f2 j (i95+1)))))
def oh (a0 d:List Formula) (f2:(Formula×Formula)→Option Bool):Option Bool :=
 (if ((a0.length:Int) != (d.length:Int)) then some false else mB d f2 a0 0)
def xk (rec:Formula→Formula→Option Bool) (a0 d:Formula):Option Bool :=
 ((if (a0.Op==d.Op) then some (a0.K==d.K) else some false).bind λj=>((if j then some (lq a0.kz d.kz) else some false).bind λn=>((if n then ((oh a0.Kids d.Kids (λ(x:(Formula×Formula))=>rec x.1 x.2)).bind λi=>some i) else some false).bind λp=>some p)))
def oP:Nat→Formula→Formula→Option Bool
 | 0=>λ_ _=>none
 | n+1=>xk (oP n)
def pT (a0:mc) (j:Int) (a2:List Formula):Option (Formula×mc) :=
 ((BC j a2).bind λr=>((pA r (λ(x:Formula)=>sd x (wi0 .i64 (5-j)))).bind λn=>(if n then some ((⟨(wi0 .i64 (5-j)),0,(⟨zS,zS⟩:kz),[]⟩:Formula),a0) else ((wi r).bind λp=>((re p (λ(x:(Formula×Formula))=>oP li x.1 x.2)).bind λd=>(((if (decide ((d.length:Int) > 64)) then some (⟨12⟩:mc) else some a0):Option mc).bind λi=>(if ((d.length:Int)==1) then ((lM d 0).bind λq=>some (q,i)) else some ((⟨j,0,(⟨zS,zS⟩:kz),d⟩:Formula),i))))))))
def nY (a0:mc):List Formula→Int→(List Formula)→Option (Formula×mc)
 | [],i,d=>(if (decide (i≤0)) then (Aa.bind λv=>some (v,a0)) else (if (decide (i > (d.length:Int))) then (AS.bind λw=>some (w,a0)) else (if (i==(d.length:Int)) then ((pT a0 2 d).bind λp=>some (p.1,p.2)) else (if (i==1) then ((pT a0 3 d).bind λq=>some (q.1,q.2)) else ((wi d).bind λx=>some ((⟨4,i,(⟨zS,zS⟩:kz),x⟩:Formula),a0))))))
 | n::j,i,d=>((uM n 2).bind λs=>(if s then (nY a0 j (wi0 .i64 (i-1)) d) else ((uM n 3).bind λu=>(if (!u) then ((oB 72 d ([n])).bind λr=>(nY a0 j i r)) else (nY a0 j i d)))))
def sf (a0:mc) (d:Int) (a2:List Formula):Option (Formula×mc) :=
 nY a0 a2 d ([])
def pw (rec:mc→Formula→Option (Formula×mc)) (u:Formula):List Formula→(List Formula)→mc→Option (Formula×mc)
 | [],d,i=>(if (u.Op==4) then ((sf i u.K d).bind λn=>some (n.1,n.2)) else ((pT i u.Op d).bind λp=>some (p.1,p.2)))
 | s::q,d,i=>((rec i s).bind λj=>((oB 72 d ([j.1])).bind λr=>(pw rec u q r j.2)))
def tG (rec:mc→Formula→Option (Formula×mc)) (a0:mc) (d:Formula):Option (Formula×mc) :=
 (if (d.Op==1) then some (d,a0) else pw rec d d.Kids ([]) a0)
def oW:Nat→mc→Formula→Option (Formula×mc)
 | 0=>λ_ _=>none
 | n+1=>tG (oW n)
def yO (a0:Formula):Option (Formula×Int) :=
 ((qb a0).bind λn=>(if (!n) then some ((⟨0,0,(⟨zS,zS⟩:kz),[]⟩:Formula),11) else ((oW li (⟨0⟩:mc) a0).bind λd=>((if (d.2.e != 0) then some true else ((qb d.1).bind λi=>some (!i))).bind λj=>(if j then some ((⟨0,0,(⟨zS,zS⟩:kz),[]⟩:Formula),12) else some (d.1,0))))))
def yV (a0 i:Formula):Option (Formula×Int) :=
 ((yO (⟨2,0,(⟨zS,zS⟩:kz),[a0,i]⟩:Formula)).bind λd=>some (d.1,d.2))
def uK :List Formula→Int→Int→Int→kz→(List Formula)→Option (Int×Int×Int×kz×(List Formula))
 | [],j,n,p,q,i=>some (j,n,p,q,i)
 | s::r,j,n,p,q,i=>(if (j != 0) then some (j,n,p,q,i) else ((yV (⟨n,p,q,i⟩:Formula) s).bind λd=>(uK r d.2 ((d.1).Op) ((d.1).K) ((d.1).kz) ((d.1).Kids))))
def xf (a0:List Formula):Option (Formula×Int) :=
 ((lM a0 0).bind λx6=>((yO x6).bind λd=>((wy (decide (0≤1)&&decide (1≤(a0.length:Int)))).bind λ_=>((uK (a0.drop (Int.toNat 1)) d.2 ((d.1).Op) ((d.1).K) ((d.1).kz) ((d.1).Kids)).bind λ(i,n,p,q,j)=>(if (i != 0) then some ((⟨0,0,(⟨zS,zS⟩:kz),[]⟩:Formula),i) else some ((⟨n,p,q,j⟩:Formula),0))))))
def vv :List mn→(List Formula)→Option (Formula×Int)
 | [],d=>((xf d).bind λi=>some (i.1,i.2))
 | p::j,d=>((oB 72 d ([p.kE])).bind λn=>(vv j n))
def Au (a0:lZ) (j:kC):Option (Formula×Int) :=
 ((zP a0 j).bind λd=>(if (!d.2) then some ((⟨0,0,(⟨zS,zS⟩:kz),[]⟩:Formula),42) else ((yZ a0 j).bind λi=>vv i ([(d.1).kE]))))
def xQ (rec:Formula→(kz→Option Bool)→Option Bool) (f1:kz→Option Bool) (a0:Formula):List Formula→Int→Option Bool
 | [],d=>(if (a0.Op==2) then some (d==(a0.Kids.length:Int)) else none)
 | j::i,d=>none
def zV (rec:Formula→(kz→Option Bool)→Option Bool) (a0:Formula) (f1:kz→Option Bool):Option Bool :=
 (if (a0.Op==1) then ((f1 a0.kz).bind λd=>some d) else xQ rec f1 a0 a0.Kids 0)
def vI:Nat→Formula→(kz→Option Bool)→Option Bool
 | 0=>λ_ _=>none
 | n+1=>zV (vI n)
def AU (a0:Formula) (f1:kz→Option Bool):Option Bool :=
 ((qb a0).bind λj=>((if j then ((vI li a0 f1).bind λd=>some d) else some false).bind λi=>some i))
def Aj (a0:kz) (p:List (kz×(List (ByteArray×Bool)))) (d:List kC) (n:List (kz×(List kC))) (i:List (ByteArray×(List kC))) (j:List pd) (q:Int) (c1:ByteArray):Option Bool:=none
def xq (a0:lZ) (j:((List (kz×(List (ByteArray×Bool))))×(List kC)×(List (kz×(List kC)))×(List (ByteArray×(List kC)))×(List pd)×Int×ByteArray)):List lh→(List kC)→Option (List kC)
 | [],d=>((zW d).bind λr=>some r)
 | n::i,d=>((Au a0 n.Signed.kC).bind λr417=>((if (r417.2==0) then ((AU r417.1 (λ(x:kz)=>Aj x j.1 j.2.1 j.2.2.1 j.2.2.2.1 j.2.2.2.2.1 j.2.2.2.2.2.1 j.2.2.2.2.2.2)).bind λq=>some q) else some false).bind λs=>(if s then ((oB 136 d ([n.Signed.kC])).bind λp=>(xq a0 j i p)) else (xq a0 j i d))))
def Cd (a0:lZ) (d:List kC) (a2:ByteArray):Option (List kC) :=
 ((F0 d a2).bind λi=>xq a0 i a0.kM ([]))
def xY (a0 s:lZ):Nat→(List kC)→(List kC)→Int→Option ((List kC)×(List kC)×Int)
 | 0,_,_,_=>none
 | q+1,d,i,p=>((Cd a0 i s.Name).bind λj=>((Cd s d a0.Name).bind λn=>((if ((j.length:Int)==(d.length:Int)) then some ((n.length:Int)==(i.length:Int)) else some false).bind λr=>(if r then some (d,i,p) else (xY a0 s q j n (wi0 .i64 (p+1)))))))
def DC (a0 d:lZ):Option ((List kC)×(List kC)×Int) :=
 xY a0 d li ([]) ([]) 0
def tu (rec:(List Formula)→Option Int):List Formula→Int→Option Int
 | [],i=>some i
 | d::n,i=>((rec d.Kids).bind λj=>(tu rec n (wi0 .i64 (i+(wi0 .i64 ((wi0 .i64 (1+(wi0 .i64 (Int.tdiv (wi0 .i64 ((d.kz.kA.size:Int)+(d.kz.Word.size:Int))) 16))))+j))))))
def xC (rec:(List Formula)→Option Int) (a0:List Formula):Option Int :=
 tu rec a0 0
def qu:Nat→(List Formula)→Option Int
 | 0=>λ_=>none
 | n+1=>xC (qu n)
def tC :List mn→Int→Option Int
 | [],i=>some i
 | d::j,i=>((qu li ([d.kE])).bind λn=>((wP d.lN).bind λp=>(tC j (wi0 .i64 (i+(wi0 .i64 ((wi0 .i64 ((wi0 .i64 ((d.kz.kA.size:Int)+(d.kz.Word.size:Int)))+(wi0 .i64 (20*n))))+p)))))))
def tm (a0:lZ):List lh→Int→Option Int
 | [],d=>((tC a0.kU d).bind λj=>some j)
 | i::n,d=>((((vA ([]) ([i.Signed])).bind λr=>some (r,([i.kE]))):Option (Int×(List Formula))).bind λ(s,p)=>((qu li p).bind λq=>(tm a0 n (wi0 .i64 (d+(wi0 .i64 (s+(wi0 .i64 (20*q)))))))))
def xc (a0:lZ):Option Int :=
 tm a0 a0.kM (a0.Name.size:Int)
def xd (a0:nA):Option Int :=
 ((((xc a0.kA).bind λn=>((xc a0.Client).bind λp=>some ((wi0 .i64 (n+p)),([a0.Formula])))):Option (Int×(List Formula))).bind λ(q,d)=>((qu li d).bind λi=>((vA a0.Keys ([])).bind λj=>some (wi0 .i64 ((wi0 .i64 (q+(wi0 .i64 (20*i))))+j)))))
def tz (rec:Formula→Option Int):List Formula→Int→Option Int
 | [],d=>some d
 | n::j,d=>((rec n).bind λi=>(tz rec j (wi0 .i64 (d+i))))
def xM (rec:Formula→Option Int) (a0:Formula):Option Int :=
 tz rec a0.Kids 1
def sJ:Nat→Formula→Option Int
 | 0=>λ_=>none
 | n+1=>xM (sJ n)
def uc (rec:Formula→Option Int):List Formula→Int→Option Int
 | [],d=>some (wi0 .i64 (d+1))
 | n::j,d=>((rec n).bind λi=>(uc rec j (if i > d then i else d)))
def yy (rec:Formula→Option Int) (a0:Formula):Option Int :=
 uc rec a0.Kids 0
def tR:Nat→Formula→Option Int
 | 0=>λ_=>none
 | n+1=>yy (tR n)
def ul (rec:Formula→Option Bool):List Formula→Option Bool
 | []=>some true
 | j::d=>((rec j).bind λi=>(if (!i) then some false else (ul rec d)))
def yt (rec:Formula→Option Bool) (a0:Formula):Option Bool :=
 (if (a0.Op==1) then ((sN a0.kz).bind λw=>((if w then some ((a0.Kids.length:Int)==0) else some false).bind λp=>((if p then some (a0.K==0) else some false).bind λq=>some q))) else ((if (decide (a0.Op < 1)) then some true else some (decide (a0.Op > 4))).bind λr=>((if r then some true else some (!(lq a0.kz (⟨zS,zS⟩:kz)))).bind λs=>((if s then some true else some (decide ((a0.Kids.length:Int) > 8))).bind λu=>(if u then some false else ((if (decide (a0.Op < 4)) then some (a0.K != 0) else some false).bind λv=>((if v then some true else ((if (a0.Op==4) then ((if (decide ((a0.Kids.length:Int) < 1)) then some true else some (decide (a0.K < 0))).bind λj=>((if j then some true else some (decide (a0.K > (a0.Kids.length:Int)))).bind λn=>some n)) else some false).bind λi=>some i)).bind λd=>(if d then some false else ul rec a0.Kids))))))))
def tZ:Nat→Formula→Option Bool
 | 0=>λ_=>none
 | n+1=>yt (tZ n)
def wN (a0:Formula):Option Bool :=
 ((sJ li a0).bind λp=>((if (decide (p≤64)) then ((tR li a0).bind λi=>some (decide (i≤6))) else some false).bind λj=>((if j then ((tZ li a0).bind λd=>some d) else some false).bind λn=>some n)))
def uh (p:Formula) (rec:Formula→Formula→Option Bool):List Formula→Nat→Option Bool
 | [],_=>some true
 | j::d,i182=>((lM p.Kids (i182:Int)).bind λn=>((rec j n).bind λi=>(if (!i) then some false else (uh p rec d (i182+1)))))
def yw (rec:Formula→Formula→Option Bool) (a0 d:Formula):Option Bool :=
 ((if (a0.Op != d.Op) then some true else some (a0.K != d.K)).bind λi=>((if i then some true else some (!(lq a0.kz d.kz))).bind λj=>((if j then some true else some ((a0.Kids.length:Int) != (d.Kids.length:Int))).bind λn=>(if n then some false else uh d rec a0.Kids 0))))
def pj:Nat→Formula→Formula→Option Bool
 | 0=>λ_ _=>none
 | n+1=>yw (pj n)
def E8 (a0 j:lZ):Option ((List kC)×(List (kz×(List (ByteArray×Bool))))×(List kC)×(List (kz×(List kC)))×(List (ByteArray×(List kC)))×(List pd)×Int×ByteArray) :=
 ((DC a0 j).bind λi=>((EF i.2.1).bind λd=>some (i.2.1,d.1,d.2.1,d.2.2.1,d.2.2.2.1,d.2.2.2.2.1,d.2.2.2.2.2,j.Name)))
def zl (a0:kz) (p:List (kz×(List (ByteArray×Bool)))) (d:List kC) (n:List (kz×(List kC))) (i:List (ByteArray×(List kC))) (j:List pd) (r:Int) (q:ByteArray) (s:List lh) (u:List mn):Option Bool :=
 ((Ck p d n i j r a0 q).bind λv=>some v)
def Dp (a0 i:lZ) (a2:Formula):Option Bool :=
 ((E8 a0 i).bind λd=>((AU a2 (λ(x:kz)=>zl x d.2.1 d.2.2.1 d.2.2.2.1 d.2.2.2.2.1 d.2.2.2.2.2.1 d.2.2.2.2.2.2.1 d.2.2.2.2.2.2.2 i.kM i.kU)).bind λj=>some j))
def sh (a0:List mn) (f1:mn→Option Bool):Option Bool :=
 ((py a0 f1).bind λr1=>some (decide (r1≥0)))
def xm (a0:mn):Option Bool :=
 some (decide ((a0.lN.length:Int) > 32))
def Ap (a0:lZ):Option Bool :=
 ((if (decide ((a0.kM.length:Int) > 256)) then some true else some (decide ((a0.kU.length:Int) > 8))).bind λx8=>((if x8 then some true else ((sh a0.kU (λ(x:mn)=>xm x)).bind λd=>some d)).bind λi=>some i))
def rs (n:List kC):List kC→Nat→Option Bool
 | [],_=>some true
 | j::i,i90=>((lM n (i90:Int)).bind λd=>(if (!(lL j d)) then some false else (rs n i (i90+1))))
def pD (a0 d:List kC):Option Bool :=
 (if ((a0.length:Int) != (d.length:Int)) then some false else rs d a0 0)
def wc (a0:List kC):Option Bool :=
 ((zW a0).bind λr1=>((pD r1 a0).bind λd=>some d))
def tf :List lh→(List kC)→Option Bool
 | [],d=>((wc d).bind λq=>some q)
 | i::j,d=>((if ((i.Signed.Tag.length:Int) != 8) then some true else ((qb i.kE).bind λp=>some (!p))).bind λr=>(if r then some false else ((oB 136 d ([i.Signed.kC])).bind λn=>(tf j n))))
def BA (a0:lZ):Option Bool :=
 tf a0.kM ([])
def um (a0:List mn):List mn→Nat→Option Bool
 | [],_=>some true
 | d::j,i=>((qS d.kz).bind λn=>((if (!n) then some true else ((qb d.kE).bind λr=>some (!r))).bind λs=>((if s then some true else ((wc d.lN).bind λq=>some (!q))).bind λu=>((if u then some true else ((if (decide ((i:Int) > 0)) then ((lM a0 (wi0 .i64 ((i:Int)-1))).bind λx=>((oR x.kz d.kz).bind λp=>some (decide (p≥0)))) else some false).bind λw=>some w)).bind λv=>(if v then some false else (um a0 j (i+1)))))))
def B0 (a0:List mn):Option Bool :=
 um a0 a0 0
def qN (a0:List lh) (f1:lh→Option Bool):Option Bool :=
 ((oV a0 f1).bind λr1=>some (decide (r1≥0)))
def vS (a0:lh) (j:ByteArray) (d:List lh) (i:List mn):Option Bool :=
 ((Au (⟨j,d,i⟩:lZ) a0.Signed.kC).bind λn=>some (n.2 != 0))
def xZ (a0:lZ):Option Bool :=
 ((qN a0.kM (λ(x:lh)=>vS x a0.Name a0.kM a0.kU)).bind λd=>some (!d))
def wR (a0:lZ):Option Int :=
 ((sD a0.Name).bind λr=>(if (!r) then some 30 else ((Ap a0).bind λd=>(if d then some 12 else ((BA a0).bind λi=>((if (!i) then some true else ((B0 a0.kU).bind λn=>some (!n))).bind λp=>((if p then some true else ((xZ a0).bind λj=>some (!j))).bind λq=>(if q then some 11 else some 0))))))))
def wX (a0:List kC) (f1:kC→Option Bool):Option Bool :=
 ((sR a0 f1).bind λr1=>some (decide (r1≥0)))
def te (d:List kz):List kz→Bool→kz→Option (Bool×kz)
 | [],j,n=>some (j,n)
 | i::p,j,n=>((sN i).bind λq=>((if q then ((if ((d.length:Int)==0) then some true else ((lM d (wi0 .i64 ((d.length:Int)-1))).bind λz=>((vZ z i).bind λs=>some s))).bind λx=>some x) else some false).bind λu=>((if u then ((if (!j) then some true else ((vZ i n).bind λr=>some r)).bind λw=>some w) else some false).bind λv=>(if v then (te d p true i) else (te d p j n)))))
def uQ (a0:List kz):Nat→(List kz)→Option (List kz)
 | 0,_=>none
 | j+1,d=>((te d a0 false (⟨zS,zS⟩:kz)).bind λ(n,p)=>(if (!n) then some d else ((oB 32 d ([p])).bind λi=>(uQ a0 j i))))
def DJ (a0:List kz):Option (List kz) :=
 uQ a0 li ([])
structure mI where
 oH:ByteArray
 ow:ByteArray
def nT (x:mI):List Value:=[.string x.oH,.string x.ow]
def wK (x y:mI):Bool:=(lQ x.oH y.oH)&&((lQ x.ow y.ow)&&true)
theorem Cv (x:mI):(nT x).length=2:=rfl
theorem Hv (x:mI):∀u∈nT x,u.oneCell'=true:=by
 intro u hu
 simp only [nT,aY,dM,gP] at hu
 rcases hu with rfl | rfl <;> rfl
structure ky where
 key:kC
 text:ByteArray
 sign:ByteArray
def kO (x:ky):List Value:=[.int .i64 x.key.Kind,.string x.key.Head.kA,.string x.key.Head.Word,.string x.key.mC,.string x.key.B.kA,.string x.key.B.Word,.string x.key.C.kA,.string x.key.C.Word,.string x.key.mA,.string x.text,.string x.sign]
theorem lK (x:ky):(kO x).length=11:=rfl
theorem oz (x:ky):∀u∈kO x,u.oneCell'=true:=by
 intro u hu
 simp only [kO,aY,dM,gP] at hu
 rcases hu with rfl | rfl | rfl | rfl | rfl | rfl | rfl | rfl | rfl | rfl | rfl <;> rfl
structure kK where
 key:kz
 text:ByteArray
 sign:ByteArray
def ll (x:kK):List Value:=[.string x.key.kA,.string x.key.Word,.string x.text,.string x.sign]
theorem nX (x:kK):(ll x).length=4:=rfl
theorem sa (x:kK):∀u∈ll x,u.oneCell'=true:=by
 intro u hu
 simp only [ll,aY,dM,gP] at hu
 rcases hu with rfl | rfl | rfl | rfl <;> rfl
def rp (a0:lh) (d:lh→Option kC) (c1:kC):Option Bool :=
 ((d a0).bind λi=>some (lL i c1))
def qU (a0:List lh) (i:kC) (d:lh→Option kC):Option Int :=
 ((oV a0 (λ(x:lh)=>rp x d i)).bind λj=>some j)
def pg (f2:lh→Option kC) (a0:List lh) (f4:lh→Option ByteArray):List lh→(List ky)→Option (List ky)
 | [],d=>some d
 | i::j,d=>((f2 i).bind λp=>((qU a0 p f2).bind λq=>(if (decide (q < 0)) then ((f2 i).bind λr=>((f4 i).bind λs=>((oB 168 d ([(⟨r,s,(⟨#[43]⟩:ByteArray)⟩:ky)])).bind λn=>(pg f2 a0 f4 j n)))) else (pg f2 a0 f4 j d))))
def ou (f2:lh→Option kC) (q:List lh) (f4:lh→Option ByteArray) (f3:(lh×lh)→Option Bool) (a0:List lh):List lh→(List ky)→Option (List ky)
 | [],i=>((pg f2 a0 f4 q i).bind λp=>some p)
 | d::j,i=>((f2 d).bind λu=>((qU q u f2).bind λn=>(if (decide (n < 0)) then ((f2 d).bind λv=>((f4 d).bind λw=>((oB 168 i ([(⟨v,w,(⟨#[45]⟩:ByteArray)⟩:ky)])).bind λr=>(ou f2 q f4 f3 a0 j r)))) else ((lM q n).bind λE=>((f3 (d,E)).bind λx=>(if (!x) then ((f2 d).bind λz=>((f4 d).bind λA=>((oB 168 i ([(⟨z,A,(⟨#[42]⟩:ByteArray)⟩:ky)])).bind λs=>(ou f2 q f4 f3 a0 j s)))) else (ou f2 q f4 f3 a0 j i)))))))
def rX (a0 d:List lh) (f2:lh→Option kC) (f3:(lh×lh)→Option Bool) (f4:lh→Option ByteArray):Option (List ky) :=
 ou f2 d f4 f3 a0 a0 ([])
def oM (a0:lh):Option kC :=
 some a0.Signed.kC
def pG (a0 n:lh):Option Bool :=
 ((xa a0.Signed.Tag n.Signed.Tag).bind λd=>((if d then ((oP li a0.kE n.kE).bind λi=>some i) else some false).bind λj=>some j))
def rq (a0:kz):Option ByteArray :=
 ((lY a0.kA (⟨#[46]⟩:ByteArray)).bind λd=>((lY d a0.Word).bind λi=>some i))
def DS (a0:kC):Option ByteArray :=
 (if (a0.Kind==1) then some a0.mC else (if (a0.Kind==2) then ((rq a0.B).bind λs=>some s) else (if (a0.Kind==3) then ((rq a0.B).bind λd=>((lY d (⟨#[46]⟩:ByteArray)).bind λn=>((lY n a0.mA).bind λp=>some p))) else ((rq a0.B).bind λi=>((lY i (⟨#[32,38,32]⟩:ByteArray)).bind λq=>((rq a0.C).bind λj=>((lY q j).bind λr=>some r)))))))
def Bh (a0:kC):Option ByteArray :=
 ((tW a0).bind λp=>(if (!p) then some zS else ((rq a0.Head).bind λd=>((lY d (⟨#[32,60,45,32]⟩:ByteArray)).bind λj=>((DS a0).bind λi=>((lY j i).bind λn=>some n))))))
def po (a0:lh):Option ByteArray :=
 ((Bh a0.Signed.kC).bind λd=>some d)
def rn (a0:mn) (d:mn→Option kz) (c1:kz):Option Bool :=
 ((d a0).bind λi=>some (lq i c1))
def qW (a0:List mn) (i:kz) (d:mn→Option kz):Option Int :=
 ((py a0 (λ(x:mn)=>rn x d i)).bind λj=>some j)
def ph (f2:mn→Option kz) (a0:List mn) (f4:mn→Option ByteArray):List mn→(List kK)→Option (List kK)
 | [],d=>some d
 | i::j,d=>((f2 i).bind λp=>((qW a0 p f2).bind λq=>(if (decide (q < 0)) then ((f2 i).bind λr=>((f4 i).bind λs=>((oB 64 d ([(⟨r,s,(⟨#[43]⟩:ByteArray)⟩:kK)])).bind λn=>(ph f2 a0 f4 j n)))) else (ph f2 a0 f4 j d))))
def ov (f2:mn→Option kz) (q:List mn) (f4:mn→Option ByteArray) (f3:(mn×mn)→Option Bool) (a0:List mn):List mn→(List kK)→Option (List kK)
 | [],i=>((ph f2 a0 f4 q i).bind λp=>some p)
 | d::j,i=>((f2 d).bind λu=>((qW q u f2).bind λn=>(if (decide (n < 0)) then ((f2 d).bind λv=>((f4 d).bind λw=>((oB 64 i ([(⟨v,w,(⟨#[45]⟩:ByteArray)⟩:kK)])).bind λr=>(ov f2 q f4 f3 a0 j r)))) else ((lM q n).bind λE=>((f3 (d,E)).bind λx=>(if (!x) then ((f2 d).bind λz=>((f4 d).bind λA=>((oB 64 i ([(⟨z,A,(⟨#[42]⟩:ByteArray)⟩:kK)])).bind λs=>(ov f2 q f4 f3 a0 j s)))) else (ov f2 q f4 f3 a0 j i)))))))
def rW (a0 d:List mn) (f2:mn→Option kz) (f3:(mn×mn)→Option Bool) (f4:mn→Option ByteArray):Option (List kK) :=
 ov f2 d f4 f3 a0 a0 ([])
def oL (a0:mn):Option kz :=
 some a0.kz
def pF (a0 n:mn):Option Bool :=
 ((oP li a0.kE n.kE).bind λd=>((if d then ((pD a0.lN n.lN).bind λi=>some i) else some false).bind λj=>some j))
def pp (a0:mn):Option ByteArray :=
 ((rq a0.kz).bind λi=>((lY (⟨#[97,99,107,32]⟩:ByteArray) i).bind λd=>some d))
def nm (x:Int) (f3:(ky×ky)→Option Int):Nat→(List ky)→Int→Option (List ky)
 | 0,_,_=>none
 | n+1,i,d=>((if (decide (d > x)) then ((lM i d).bind λs=>((lM i (wi0 .i64 (d-1))).bind λu=>((f3 (s,u)).bind λp=>some (decide (p < 0))))) else some false).bind λq=>(if q then ((lM i (wi0 .i64 (d-1))).bind λj=>((lM i d).bind λr=>((lM i d).bind λv=>((lM (i.set (Int.toNat d) j) (wi0 .i64 (d-1))).bind λw=>(nm x f3 n ((i.set (Int.toNat d) j).set (Int.toNat (wi0 .i64 (d-1))) r) (wi0 .i64 (d-1))))))) else some i))
def mY (a2 p:Int) (f3:(ky×ky)→Option Int):Nat→(List ky)→Int→Option (List ky)
 | 0,_,_=>none
 | n+1,i,d=>(if (decide (d < a2)) then ((nm p f3 li i d).bind λj=>(mY a2 p f3 n j (wi0 .i64 (d+1)))) else some i)
def oQ (a0:List ky) (d a2:Int) (f3:(ky×ky)→Option Int):Option (List ky) :=
 mY a2 d f3 li a0 (wi0 .i64 (d+1))
def nH (a3 a2 n:Int):Nat→(List ky)→Int→Option (List ky)
 | 0,_,_=>none
 | p+1,i,d=>(if (decide (d < a3)) then ((lM i (wi0 .i64 (a2+d))).bind λj=>((lM i (wi0 .i64 (n+d))).bind λq=>((lM i (wi0 .i64 (n+d))).bind λr=>((lM (i.set (Int.toNat (wi0 .i64 (n+d))) j) (wi0 .i64 (a2+d))).bind λs=>(nH a3 a2 n p ((i.set (Int.toNat (wi0 .i64 (n+d))) j).set (Int.toNat (wi0 .i64 (a2+d))) q) (wi0 .i64 (d+1))))))) else some i)
def oN (a0:List ky) (d a2 a3:Int) (f4:(ky×ky)→Option Int):Option (List ky) :=
 nH a3 a2 d li a0 0
def om (a2:Int) (f4:(ky×ky)→Option Int):Nat→(List ky)→Int→Int→Option (List ky)
 | 0,_,_,_=>none
 | n182+1,j,d,i=>(if (d != i) then (if (decide (d > i)) then ((oN j (wi0 .i64 (a2-d)) a2 i f4).bind λn=>(om a2 f4 n182 n (wi0 .i64 (d-i)) i)) else ((oN j (wi0 .i64 (a2-d)) (wi0 .i64 ((wi0 .i64 (a2+i))-d)) d f4).bind λp=>(om a2 f4 n182 p d (wi0 .i64 (i-d))))) else ((oN j (wi0 .i64 (a2-d)) a2 d f4).bind λq=>some q))
def oI (a0:List ky) (d a2 a3:Int) (f4:(ky×ky)→Option Int):Option (List ky) :=
 om a2 f4 li a0 (wi0 .i64 (a2-d)) (wi0 .i64 (a3-a2))
def nJ (j:Int):Nat→(List ky)→Int→Option (List ky)
 | 0,_,_=>none
 | p+1,i,d=>(if (decide (d < (wi0 .i64 (j-1)))) then ((lM i (wi0 .i64 (d+1))).bind λn=>((lM i d).bind λq=>((lM i d).bind λr=>((lM (i.set (Int.toNat d) n) (wi0 .i64 (d+1))).bind λs=>(nJ j p ((i.set (Int.toNat d) n).set (Int.toNat (wi0 .i64 (d+1))) q) (wi0 .i64 (d+1))))))) else some i)
def mN (a0:List ky) (r:Int) (f4:(ky×ky)→Option Int):Nat→Int→Int→Option (List ky)
 | 0,_,_=>none
 | n235+1,d,i=>(if (decide (d < i)) then ((lM a0 (wi0 .i64 (Int.fdiv (IntKind.u64.wrap (wi0 .i64 (d+i))) (2 ^ min (Int.toNat 1) (IntKind.bits .u64))))).bind λp=>((lM a0 r).bind λq=>((f4 (p,q)).bind λn=>(if (decide (n < 0)) then (mN a0 r f4 n235 (wi0 .i64 ((wi0 .i64 (Int.fdiv (IntKind.u64.wrap (wi0 .i64 (d+i))) (2 ^ min (Int.toNat 1) (IntKind.bits .u64))))+1)) i) else (mN a0 r f4 n235 d (wi0 .i64 (Int.fdiv (IntKind.u64.wrap (wi0 .i64 (d+i))) (2 ^ min (Int.toNat 1) (IntKind.bits .u64))))))))) else ((nJ d li a0 r).bind λj=>some j))
def nO (n:Int):Nat→(List ky)→Int→Option (List ky)
 | 0,_,_=>none
 | p+1,i,d=>(if (decide (d > n)) then ((lM i (wi0 .i64 (d-1))).bind λj=>((lM i d).bind λq=>((lM i d).bind λr=>((lM (i.set (Int.toNat d) j) (wi0 .i64 (d-1))).bind λs=>(nO n p ((i.set (Int.toNat d) j).set (Int.toNat (wi0 .i64 (d-1))) q) (wi0 .i64 (d-1))))))) else some i)
def mO (a0:List ky) (a2:Int) (f4:(ky×ky)→Option Int):Nat→Int→Int→Option (List ky)
 | 0,_,_=>none
 | j+1,d,i=>(if (decide (d < i)) then ((lM a0 a2).bind λq=>((lM a0 (wi0 .i64 (Int.fdiv (IntKind.u64.wrap (wi0 .i64 (d+i))) (2 ^ min (Int.toNat 1) (IntKind.bits .u64))))).bind λr=>((f4 (q,r)).bind λp=>(if (!(decide (p < 0))) then (mO a0 a2 f4 j (wi0 .i64 ((wi0 .i64 (Int.fdiv (IntKind.u64.wrap (wi0 .i64 (d+i))) (2 ^ min (Int.toNat 1) (IntKind.bits .u64))))+1)) i) else (mO a0 a2 f4 j d (wi0 .i64 (Int.fdiv (IntKind.u64.wrap (wi0 .i64 (d+i))) (2 ^ min (Int.toNat 1) (IntKind.bits .u64))))))))) else ((nO d li a0 a2).bind λn=>some n))
def mr (a0:List ky) (j a3 a2:Int) (f4:(ky×ky)→Option Int) (rec:(List ky)→Int→Int→Int→((ky×ky)→Option Int)→Option (List ky)):Nat→Int→Int→Option (List ky)
 | 0,_,_=>none
 | q+1,d,i=>(if (decide (d < i)) then ((lM a0 (wi0 .i64 ((wi0 .i64 ((wi0 .i64 ((wi0 .i64 (Int.fdiv (IntKind.u64.wrap (wi0 .i64 (j+a3))) (2 ^ min (Int.toNat 1) (IntKind.bits .u64))))+a2))-1))-(wi0 .i64 (Int.fdiv (IntKind.u64.wrap (wi0 .i64 (d+i))) (2 ^ min (Int.toNat 1) (IntKind.bits .u64))))))).bind λw=>((lM a0 (wi0 .i64 (Int.fdiv (IntKind.u64.wrap (wi0 .i64 (d+i))) (2 ^ min (Int.toNat 1) (IntKind.bits .u64))))).bind λx=>((f4 (w,x)).bind λr=>(if (!(decide (r < 0))) then (mr a0 j a3 a2 f4 rec q (wi0 .i64 ((wi0 .i64 (Int.fdiv (IntKind.u64.wrap (wi0 .i64 (d+i))) (2 ^ min (Int.toNat 1) (IntKind.bits .u64))))+1)) i) else (mr a0 j a3 a2 f4 rec q d (wi0 .i64 (Int.fdiv (IntKind.u64.wrap (wi0 .i64 (d+i))) (2 ^ min (Int.toNat 1) (IntKind.bits .u64))))))))) else ((((if (decide (d < a2)) then some (decide (a2 < (wi0 .i64 ((wi0 .i64 ((wi0 .i64 (Int.fdiv (IntKind.u64.wrap (wi0 .i64 (j+a3))) (2 ^ min (Int.toNat 1) (IntKind.bits .u64))))+a2))-d)))) else some false).bind λE=>(if E then ((oI a0 d a2 (wi0 .i64 ((wi0 .i64 ((wi0 .i64 (Int.fdiv (IntKind.u64.wrap (wi0 .i64 (j+a3))) (2 ^ min (Int.toNat 1) (IntKind.bits .u64))))+a2))-d)) f4).bind λv=>some v) else some a0)):Option (List ky)).bind λn=>((((if (decide (j < d)) then some (decide (d < (wi0 .i64 (Int.fdiv (IntKind.u64.wrap (wi0 .i64 (j+a3))) (2 ^ min (Int.toNat 1) (IntKind.bits .u64)))))) else some false).bind λA=>(if A then ((rec n j d (wi0 .i64 (Int.fdiv (IntKind.u64.wrap (wi0 .i64 (j+a3))) (2 ^ min (Int.toNat 1) (IntKind.bits .u64)))) f4).bind λu=>some u) else some n)):Option (List ky)).bind λp=>((if (decide ((wi0 .i64 (Int.fdiv (IntKind.u64.wrap (wi0 .i64 (j+a3))) (2 ^ min (Int.toNat 1) (IntKind.bits .u64)))) < (wi0 .i64 ((wi0 .i64 ((wi0 .i64 (Int.fdiv (IntKind.u64.wrap (wi0 .i64 (j+a3))) (2 ^ min (Int.toNat 1) (IntKind.bits .u64))))+a2))-d)))) then some (decide ((wi0 .i64 ((wi0 .i64 ((wi0 .i64 (Int.fdiv (IntKind.u64.wrap (wi0 .i64 (j+a3))) (2 ^ min (Int.toNat 1) (IntKind.bits .u64))))+a2))-d)) < a3)) else some false).bind λz=>(if z then ((rec p (wi0 .i64 (Int.fdiv (IntKind.u64.wrap (wi0 .i64 (j+a3))) (2 ^ min (Int.toNat 1) (IntKind.bits .u64)))) (wi0 .i64 ((wi0 .i64 ((wi0 .i64 (Int.fdiv (IntKind.u64.wrap (wi0 .i64 (j+a3))) (2 ^ min (Int.toNat 1) (IntKind.bits .u64))))+a2))-d)) a3 f4).bind λs=>some s) else some p)))))
def rc (rec:(List ky)→Int→Int→Int→((ky×ky)→Option Int)→Option (List ky)) (a0:List ky) (d a2 a3:Int) (f4:(ky×ky)→Option Int):Option (List ky) :=
 (if ((wi0 .i64 (a2-d))==1) then mN a0 d f4 li a2 a3 else (if ((wi0 .i64 (a3-a2))==1) then mO a0 a2 f4 li d a2 else (((if (decide (a2 > (wi0 .i64 (Int.fdiv (IntKind.u64.wrap (wi0 .i64 (d+a3))) (2 ^ min (Int.toNat 1) (IntKind.bits .u64)))))) then some ((wi0 .i64 ((wi0 .i64 ((wi0 .i64 (Int.fdiv (IntKind.u64.wrap (wi0 .i64 (d+a3))) (2 ^ min (Int.toNat 1) (IntKind.bits .u64))))+a2))-a3)),(wi0 .i64 (Int.fdiv (IntKind.u64.wrap (wi0 .i64 (d+a3))) (2 ^ min (Int.toNat 1) (IntKind.bits .u64))))) else some (d,a2)):Option (Int×Int)).bind λ(i,j)=>mr a0 d a3 a2 f4 rec li i j)))
def nh:Nat→(List ky)→Int→Int→Int→((ky×ky)→Option Int)→Option (List ky)
 | 0=>λ_ _ _ _ _=>none
 | n+1=>rc (nh n)
def oq (r n:Int) (f2:(ky×ky)→Option Int):Nat→(List ky)→Int→Int→Option ((List ky)×Int)
 | 0,_,_,_=>none
 | p+1,j,i,d=>(if (decide (d≤r)) then ((nh li j i (wi0 .i64 (i+n)) d f2).bind λq=>(oq r n f2 p q d (wi0 .i64 (d+(wi0 .i64 (2*n)))))) else some (j,i))
def nF (s:Int) (f2:(ky×ky)→Option Int):Nat→(List ky)→Int→Option (List ky)
 | 0,_,_=>none
 | q+1,n,d=>(if (decide (d < s)) then ((oq s d f2 li n 0 (wi0 .i64 (2*d))).bind λ(j,i)=>(((if (decide ((wi0 .i64 (i+d)) < s)) then ((nh li j i (wi0 .i64 (i+d)) s f2).bind λr=>some r) else some j):Option (List ky)).bind λp=>(nF s f2 q p (wi0 .i64 (d*2))))) else some n)
def nG (r:Int) (f2:(ky×ky)→Option Int):Nat→(List ky)→Int→Int→Option (List ky)
 | 0,_,_,_=>none
 | n120+1,j,q,d=>(if (decide (d≤r)) then ((oQ j q d f2).bind λn=>(nG r f2 n120 n d (wi0 .i64 (d+20)))) else ((oQ j q r f2).bind λp=>((nF r f2 li p 20).bind λi=>some i)))
def tg (a0:List ky) (d:Int) (f2:(ky×ky)→Option Int):Option (List ky) :=
 nG d f2 li a0 0 20
def ox (a0:List ky) (f1:(ky×ky)→Option Int):Option (List ky) :=
 ((tg a0 (a0.length:Int) f1).bind λr1=>some r1)
def tO (a0 i:ky) (d:(kC×kC)→Option Int):Option Int :=
 ((d (a0.key,i.key)).bind λj=>some j)
def qy (u:List ky):List ky→ByteArray→Option (ByteArray×(List ky))
 | [],d=>((PM d).bind λp=>some (p,u))
 | i::j,d=>((lY i.sign (⟨#[32]⟩:ByteArray)).bind λq=>((lY q i.text).bind λr=>((lY r (⟨#[10]⟩:ByteArray)).bind λs=>((CO d s).bind λn=>(qy u j n)))))
def vh (a0:List ky) (f1:(kC×kC)→Option Int):Option (ByteArray×(List ky)) :=
 ((ox a0 (λ(x:(ky×ky))=>tO x.1 x.2 f1)).bind λd=>qy d d zS)
def nl (x:Int) (f3:(kK×kK)→Option Int):Nat→(List kK)→Int→Option (List kK)
 | 0,_,_=>none
 | n+1,i,d=>((if (decide (d > x)) then ((lM i d).bind λs=>((lM i (wi0 .i64 (d-1))).bind λu=>((f3 (s,u)).bind λp=>some (decide (p < 0))))) else some false).bind λq=>(if q then ((lM i (wi0 .i64 (d-1))).bind λj=>((lM i d).bind λr=>((lM i d).bind λv=>((lM (i.set (Int.toNat d) j) (wi0 .i64 (d-1))).bind λw=>(nl x f3 n ((i.set (Int.toNat d) j).set (Int.toNat (wi0 .i64 (d-1))) r) (wi0 .i64 (d-1))))))) else some i))
def mX (a2 p:Int) (f3:(kK×kK)→Option Int):Nat→(List kK)→Int→Option (List kK)
 | 0,_,_=>none
 | n+1,i,d=>(if (decide (d < a2)) then ((nl p f3 li i d).bind λj=>(mX a2 p f3 n j (wi0 .i64 (d+1)))) else some i)
def pz (a0:List kK) (d a2:Int) (f3:(kK×kK)→Option Int):Option (List kK) :=
 mX a2 d f3 li a0 (wi0 .i64 (d+1))
def pq (n:Int) (f2:(kK×kK)→Option Int):Nat→(List kK)→Int→Option (List kK)
 | 0,_,_=>none
 | j+1,d,i=>(if (decide (i < n)) then none else some d)
def qw (j:Int) (f2:(kK×kK)→Option Int):Nat→(List kK)→Int→Int→Option (List kK)
 | 0,_,_,_=>none
 | n120+1,n,p,q=>(if (decide (q≤j)) then none else ((pz n p j f2).bind λi=>((pq j f2 li i 20).bind λd=>some d)))
def tk (a0:List kK) (d:Int) (f2:(kK×kK)→Option Int):Option (List kK) :=
 qw d f2 li a0 0 20
def oy (a0:List kK) (f1:(kK×kK)→Option Int):Option (List kK) :=
 ((tk a0 (a0.length:Int) f1).bind λr1=>some r1)
def tM (a0 i:kK) (d:(kz×kz)→Option Int):Option Int :=
 ((d (a0.key,i.key)).bind λj=>some j)
def pb (u:List kK):List kK→ByteArray→Option (ByteArray×(List kK))
 | [],d=>((PM d).bind λp=>some (p,u))
 | i::j,d=>((lY i.sign (⟨#[32]⟩:ByteArray)).bind λq=>((lY q i.text).bind λr=>((lY r (⟨#[10]⟩:ByteArray)).bind λs=>((CO d s).bind λn=>(pb u j n)))))
def vm (a0:List kK) (f1:(kz×kz)→Option Int):Option (ByteArray×(List kK)) :=
 ((oy a0 (λ(x:(kK×kK))=>tM x.1 x.2 f1)).bind λd=>pb d d zS)
def pQ (a0 q:lZ):Option ByteArray :=
 ((rX a0.kM q.kM (λ(x:lh)=>oM x) (λ(x:(lh×lh))=>pG x.1 x.2) (λ(x:lh)=>po x)).bind λd=>((rW a0.kU q.kU (λ(x:mn)=>oL x) (λ(x:(mn×mn))=>pF x.1 x.2) (λ(x:mn)=>pp x)).bind λi=>((vh d (λ(x:(kC×kC))=>oS x.1 x.2)).bind λj=>((vm i (λ(x:(kz×kz))=>oR x.1 x.2)).bind λn=>((lY j.1 n.1).bind λp=>some p)))))
def wL (a0:ByteArray) (r a2:lZ):Option ByteArray :=
 ((pQ r a2).bind λd=>((if (lQ d zS) then some (lQ r.Name a2.Name) else some false).bind λq=>(if q then some zS else ((lY a0 (⟨#[32]⟩:ByteArray)).bind λi=>((lY i a2.Name).bind λj=>((lY j (⟨#[10]⟩:ByteArray)).bind λn=>((lY n d).bind λp=>some p)))))))
def sF (rec:Formula→Option ByteArray) (v:ByteArray):List Formula→(List ByteArray)→Option ByteArray
 | [],d=>((lY v (⟨#[40]⟩:ByteArray)).bind λq=>((Gp d (⟨#[44,32]⟩:ByteArray)).bind λp=>((lY q p).bind λr=>((lY r (⟨#[41]⟩:ByteArray)).bind λs=>some s))))
 | u::i,d=>((rec u).bind λn=>((oB 16 d ([n])).bind λj=>(sF rec v i j)))
def yu (rec:Formula→Option ByteArray) (a0:Formula):Option ByteArray :=
 (((if (a0.Op==1) then ((rq a0.kz).bind λi=>some (Sum.inl i)) else (if (a0.Op==2) then some (Sum.inr (⟨#[97,108,108]⟩:ByteArray)) else (if (a0.Op==3) then some (Sum.inr (⟨#[115,111,109,101]⟩:ByteArray)) else ((sC a0.K).bind λj=>((lY (⟨#[97,116,32]⟩:ByteArray) j).bind λn=>some (Sum.inr n)))))):Option (ByteArray ⊕ ByteArray)).bind λs=>match s with | .inl d=>some d | .inr p=>sF rec p a0.Kids ([]))
def pN:Nat→Formula→Option ByteArray
 | 0=>λ_=>none
 | n+1=>yu (pN n)
def zI (a0:Formula):Option ByteArray :=
 ((qb a0).bind λd=>(if (!d) then some zS else ((pN li a0).bind λi=>some i)))
def uS (a0:nA):Option (List mI) :=
 ((sC a0.oA).bind λd=>((sC a0.lA.oH).bind λi=>((lY i (⟨#[32]⟩:ByteArray)).bind λr=>((sC a0.lA.ow).bind λj=>((lY r j).bind λs=>((sC a0.my).bind λn=>((sC a0.nz).bind λp=>((sC a0.mW).bind λq=>some [(⟨(⟨#[112,108,97,110]⟩:ByteArray),d⟩:mI),(⟨(⟨#[114,111,111,109,115]⟩:ByteArray),s⟩:mI),(⟨(⟨#[116,105,109,101,111,117,116]⟩:ByteArray),n⟩:mI),(⟨(⟨#[116,114,105,101,115]⟩:ByteArray),p⟩:mI),(⟨(⟨#[98,117,100,103,101,116]⟩:ByteArray),q⟩:mI)]))))))))
def mV (p:List Key) (f2:(Key×Key)→Option Bool):List Key→Nat→Option Bool
 | [],_=>some true
 | n::j,i95=>((lM p (i95:Int)).bind λi=>((f2 (n,i)).bind λd=>(if (!d) then some false else (mV p f2 j (i95+1)))))
def oE (a0 d:List Key) (f2:(Key×Key)→Option Bool):Option Bool :=
 (if ((a0.length:Int) != (d.length:Int)) then some false else mV d f2 a0 0)
def rN (a0 j:Key):Option Bool :=
 ((if (lQ a0.mC j.mC) then ((xa a0.Key j.Key).bind λd=>some d) else some false).bind λi=>some i)
def qi (n:List mI) (a0 I:nA):List mI→Nat→ByteArray→Option ByteArray
 | [],_,d=>((((oE a0.Keys I.Keys (λ(x:(Key×Key))=>rN x.1 x.2)).bind λp=>(if (!p) then ((sC (I.Keys.length:Int)).bind λq=>((lY (⟨#[107,101,121,115,32]⟩:ByteArray) q).bind λw=>((lY w (⟨#[10]⟩:ByteArray)).bind λz=>((lY d z).bind λA=>some A)))) else some d)):Option ByteArray).bind λG=>some G)
 | i::j,i201,d=>((lM n (i201:Int)).bind λE=>(if (!(wK i E)) then ((lY i.oH (⟨#[32]⟩:ByteArray)).bind λr=>((lY r i.ow).bind λs=>((lY s (⟨#[10]⟩:ByteArray)).bind λu=>((lY d u).bind λv=>(qi n a0 I j (i201+1) v))))) else (qi n a0 I j (i201+1) d)))
def wS (a0 d:nA):Option ByteArray :=
 ((wL (⟨#[111,119,110,101,114]⟩:ByteArray) a0.kA d.kA).bind λs=>((wL (⟨#[99,108,105,101,110,116]⟩:ByteArray) a0.Client d.Client).bind λu=>((lY s u).bind λr=>((((oP li a0.Formula d.Formula).bind λi=>(if (!i) then ((zI d.Formula).bind λj=>((lY (⟨#[103,114,97,110,116,115,32]⟩:ByteArray) j).bind λn=>((lY n (⟨#[10]⟩:ByteArray)).bind λp=>((lY r p).bind λq=>some q)))) else some r)):Option ByteArray).bind λx=>((uS a0).bind λv=>((uS d).bind λw=>qi v a0 d w 0 x))))))
def xb (a0:nA):Option ((List kC)×(List kC)×Bool) :=
 ((DC a0.kA a0.Client).bind λd=>((Dp a0.kA a0.Client a0.Formula).bind λi=>some (d.1,d.2.1,i)))
def AM (a0 r:nA):Option Bool :=
 ((xb a0).bind λd=>((xb r).bind λi=>((if (d.2.2 != i.2.2) then some true else ((pD d.1 i.1).bind λn=>some (!n))).bind λp=>((if p then some true else ((pD d.2.1 i.2.1).bind λj=>some (!j))).bind λq=>some q))))
def xI (a0:kC) (d:List kC):Option Bool :=
 ((vJ d a0).bind λi=>some (!i))
def zH (a0 d:List kC):Option Bool :=
 ((wX a0 (λ(x:kC)=>xI x d)).bind λi=>some (!i))
def xK (a0 s:nA):Option Bool :=
 ((xb a0).bind λd=>((xb s).bind λi=>((zH i.1 d.1).bind λn=>((if n then ((zH i.2.1 d.2.1).bind λj=>some j) else some false).bind λp=>((if p then ((if d.2.2 then some true else some (!i.2.2)).bind λr=>some r) else some false).bind λq=>some q)))))
def yT :Option Bool :=
 ((Lx 1 0 8).bind λd=>((wS (⟨(⟨(⟨#[115,104,111,112]⟩:ByteArray),[],[]⟩:lZ),(⟨(⟨#[97,110,110]⟩:ByteArray),[],[]⟩:lZ),(⟨1,0,(⟨(⟨#[103,111,118]⟩:ByteArray),(⟨#[105,100]⟩:ByteArray)⟩:kz),[]⟩:Formula),0,(⟨0,0⟩:sH),0,0,0,[]⟩:nA) (⟨(⟨(⟨#[115,104,111,112]⟩:ByteArray),[],[]⟩:lZ),(⟨(⟨#[97,110,110]⟩:ByteArray),[(⟨(⟨(⟨1,(⟨(⟨#[103,111,118]⟩:ByteArray),(⟨#[105,100]⟩:ByteArray)⟩:kz),(⟨#[97,110,110]⟩:ByteArray),(⟨zS,zS⟩:kz),(⟨zS,zS⟩:kz),zS⟩:kC),d⟩:Signed),(⟨2,0,(⟨zS,zS⟩:kz),[]⟩:Formula)⟩:lh)],[]⟩:lZ),(⟨1,0,(⟨(⟨#[103,111,118]⟩:ByteArray),(⟨#[105,100]⟩:ByteArray)⟩:kz),[]⟩:Formula),0,(⟨0,0⟩:sH),0,0,0,[]⟩:nA)).bind λs=>((if (lQ s (⟨#[99,108,105,101,110,116,32,97,110,110,10,43,32,103,111,118,46,105,100,32,60,45,32,97,110,110,10]⟩:ByteArray)) then ((pQ (⟨(⟨#[97,110,110]⟩:ByteArray),[],[]⟩:lZ) (⟨(⟨#[97,110,110]⟩:ByteArray),[],[]⟩:lZ)).bind λq=>some (lQ q zS)) else some false).bind λu=>((if u then ((AM (⟨(⟨(⟨#[115,104,111,112]⟩:ByteArray),[],[]⟩:lZ),(⟨(⟨#[97,110,110]⟩:ByteArray),[],[]⟩:lZ),(⟨1,0,(⟨(⟨#[103,111,118]⟩:ByteArray),(⟨#[105,100]⟩:ByteArray)⟩:kz),[]⟩:Formula),0,(⟨0,0⟩:sH),0,0,0,[]⟩:nA) (⟨(⟨(⟨#[115,104,111,112]⟩:ByteArray),[],[]⟩:lZ),(⟨(⟨#[97,110,110]⟩:ByteArray),[(⟨(⟨(⟨1,(⟨(⟨#[103,111,118]⟩:ByteArray),(⟨#[105,100]⟩:ByteArray)⟩:kz),(⟨#[97,110,110]⟩:ByteArray),(⟨zS,zS⟩:kz),(⟨zS,zS⟩:kz),zS⟩:kC),d⟩:Signed),(⟨2,0,(⟨zS,zS⟩:kz),[]⟩:Formula)⟩:lh)],[]⟩:lZ),(⟨1,0,(⟨(⟨#[103,111,118]⟩:ByteArray),(⟨#[105,100]⟩:ByteArray)⟩:kz),[]⟩:Formula),0,(⟨0,0⟩:sH),0,0,0,[]⟩:nA)).bind λp=>some p) else some false).bind λv=>((if v then ((AM (⟨(⟨(⟨#[115,104,111,112]⟩:ByteArray),[],[]⟩:lZ),(⟨(⟨#[97,110,110]⟩:ByteArray),[],[]⟩:lZ),(⟨1,0,(⟨(⟨#[103,111,118]⟩:ByteArray),(⟨#[105,100]⟩:ByteArray)⟩:kz),[]⟩:Formula),0,(⟨0,0⟩:sH),0,0,0,[]⟩:nA) (⟨(⟨(⟨#[115,104,111,112]⟩:ByteArray),[],[]⟩:lZ),(⟨(⟨#[97,110,110]⟩:ByteArray),[],[]⟩:lZ),(⟨1,0,(⟨(⟨#[103,111,118]⟩:ByteArray),(⟨#[105,100]⟩:ByteArray)⟩:kz),[]⟩:Formula),0,(⟨0,0⟩:sH),0,0,0,[]⟩:nA)).bind λn=>some (!n)) else some false).bind λw=>((if w then ((xK (⟨(⟨(⟨#[115,104,111,112]⟩:ByteArray),[],[]⟩:lZ),(⟨(⟨#[97,110,110]⟩:ByteArray),[(⟨(⟨(⟨1,(⟨(⟨#[103,111,118]⟩:ByteArray),(⟨#[105,100]⟩:ByteArray)⟩:kz),(⟨#[97,110,110]⟩:ByteArray),(⟨zS,zS⟩:kz),(⟨zS,zS⟩:kz),zS⟩:kC),d⟩:Signed),(⟨2,0,(⟨zS,zS⟩:kz),[]⟩:Formula)⟩:lh)],[]⟩:lZ),(⟨1,0,(⟨(⟨#[103,111,118]⟩:ByteArray),(⟨#[105,100]⟩:ByteArray)⟩:kz),[]⟩:Formula),0,(⟨0,0⟩:sH),0,0,0,[]⟩:nA) (⟨(⟨(⟨#[115,104,111,112]⟩:ByteArray),[],[]⟩:lZ),(⟨(⟨#[97,110,110]⟩:ByteArray),[],[]⟩:lZ),(⟨1,0,(⟨(⟨#[103,111,118]⟩:ByteArray),(⟨#[105,100]⟩:ByteArray)⟩:kz),[]⟩:Formula),0,(⟨0,0⟩:sH),0,0,0,[]⟩:nA)).bind λj=>some j) else some false).bind λx=>((if x then ((xK (⟨(⟨(⟨#[115,104,111,112]⟩:ByteArray),[],[]⟩:lZ),(⟨(⟨#[97,110,110]⟩:ByteArray),[],[]⟩:lZ),(⟨1,0,(⟨(⟨#[103,111,118]⟩:ByteArray),(⟨#[105,100]⟩:ByteArray)⟩:kz),[]⟩:Formula),0,(⟨0,0⟩:sH),0,0,0,[]⟩:nA) (⟨(⟨(⟨#[115,104,111,112]⟩:ByteArray),[],[]⟩:lZ),(⟨(⟨#[97,110,110]⟩:ByteArray),[(⟨(⟨(⟨1,(⟨(⟨#[103,111,118]⟩:ByteArray),(⟨#[105,100]⟩:ByteArray)⟩:kz),(⟨#[97,110,110]⟩:ByteArray),(⟨zS,zS⟩:kz),(⟨zS,zS⟩:kz),zS⟩:kC),d⟩:Signed),(⟨2,0,(⟨zS,zS⟩:kz),[]⟩:Formula)⟩:lh)],[]⟩:lZ),(⟨1,0,(⟨(⟨#[103,111,118]⟩:ByteArray),(⟨#[105,100]⟩:ByteArray)⟩:kz),[]⟩:Formula),0,(⟨0,0⟩:sH),0,0,0,[]⟩:nA)).bind λi=>some (!i)) else some false).bind λr=>some r)))))))
def tD :List nA→Option Bool
 | []=>some true
 | d::i=>((wR d.kA).bind λj=>((if (j != 0) then some true else ((wR d.Client).bind λn=>some (n != 0))).bind λp=>(if p then some false else (tD i))))
def yR (a0:List nA):Option Bool :=
 tD a0
def uk (j:kC):List lh→Nat→Option Int
 | [],_=>some (-1)
 | i::d,i61=>(if (lL i.Signed.kC j) then some (i61:Int) else (uk j d (i61+1)))
def Ao (a0:List lh) (d:kC):Option Int :=
 uk d a0 0
def xE (a0 d:Int) (a2:Bool):Option ByteArray :=
 (if (decide (a0 < 0)) then some (⟨#[43,32]⟩:ByteArray) else (if (decide (d < 0)) then some (⟨#[45,32]⟩:ByteArray) else (if (!a2) then some (⟨#[42,32]⟩:ByteArray) else some zS)))
def tV (a0:kz):Option ByteArray :=
 ((lY a0.kA (⟨#[46]⟩:ByteArray)).bind λd=>((lY d a0.Word).bind λi=>some i))
def zK (a0:kC):Option ByteArray :=
 ((tV a0.Head).bind λw=>((lY w (⟨#[32,60,45,32]⟩:ByteArray)).bind λv=>(if (a0.Kind==1) then ((lY v a0.mC).bind λx=>some x) else ((tV a0.B).bind λj=>((lY v j).bind λd=>(((if (a0.Kind==3) then ((lY (⟨#[46]⟩:ByteArray) a0.mA).bind λr=>((lY d r).bind λs=>some s)) else some d):Option ByteArray).bind λi=>(((if (a0.Kind==4) then ((tV a0.C).bind λn=>((lY (⟨#[32,38,32]⟩:ByteArray) n).bind λp=>((lY i p).bind λq=>some q))) else some i):Option ByteArray).bind λu=>some u)))))))
def tF (j:kz):List mn→Nat→Option Int
 | [],_=>some (-1)
 | i::d,i61=>(if (lq i.kz j) then some (i61:Int) else (tF j d (i61+1)))
def zd (a0:List mn) (d:kz):Option Int :=
 tF d a0 0
def rL (a0 P:lZ):List kz→ByteArray→Option ByteArray
 | [],n=>some n
 | j::p,n=>((zd a0.kU j).bind λd=>((zd P.kU j).bind λi=>((if (decide (d≥0)) then some (decide (i≥0)) else some false).bind λE=>((if E then ((lM a0.kU d).bind λM=>((lM P.kU i).bind λO=>((pj li M.kE O.kE).bind λs=>some s))) else some false).bind λG=>((if G then ((lM a0.kU d).bind λJ=>((lM P.kU i).bind λL=>((vX J.lN L.lN).bind λr=>some r))) else some false).bind λI=>((xE d i I).bind λq=>(if (!(lQ q zS)) then ((lY q (⟨#[97,99,107,32]⟩:ByteArray)).bind λu=>((lY u j.kA).bind λv=>((lY v (⟨#[46]⟩:ByteArray)).bind λw=>((lY w j.Word).bind λx=>((lY x (⟨#[10]⟩:ByteArray)).bind λz=>((lY n z).bind λA=>(rL a0 P p A))))))) else (rL a0 P p n))))))))
def tp :List mn→(List kz)→Option (List kz)
 | [],d=>some d
 | n::i,d=>((oB 32 d ([n.kz])).bind λj=>(tp i j))
def rH (a0 L:lZ):List kC→ByteArray→Option ByteArray
 | [],j=>some j
 | n::p,j=>((Ao a0.kM n).bind λd=>((Ao L.kM n).bind λi=>((if (decide (d≥0)) then some (decide (i≥0)) else some false).bind λx=>((if x then ((lM a0.kM d).bind λI=>((lM L.kM i).bind λJ=>some (lQ (sP I.Signed.Tag) (sP J.Signed.Tag)))) else some false).bind λz=>((if z then ((lM a0.kM d).bind λE=>((lM L.kM i).bind λG=>((pj li E.kE G.kE).bind λs=>some s))) else some false).bind λA=>((xE d i A).bind λq=>(if (!(lQ q zS)) then ((zK n).bind λr=>((lY q r).bind λu=>((lY u (⟨#[10]⟩:ByteArray)).bind λv=>((lY j v).bind λw=>(rH a0 L p w))))) else (rH a0 L p j))))))))
def rG (a0 x:lZ):List lh→(List kC)→Option ByteArray
 | [],d=>((DQ d).bind λv=>((rH a0 x v zS).bind λq=>((oB 128 ([]) a0.kU).bind λi=>((oB 128 i x.kU).bind λj=>((tp j ([])).bind λn=>((DJ n).bind λp=>((rL a0 x p q).bind λr=>some r)))))))
 | w::s,d=>((oB 136 d ([w.Signed.kC])).bind λu=>(rG a0 x s u))
def qY (a0 j:lZ):Option ByteArray :=
 ((oB 232 ([]) a0.kM).bind λd=>((oB 232 d j.kM).bind λi=>rG a0 j i ([])))
def pZ (rec:Formula→Option ByteArray):List Formula→Nat→ByteArray→Option ByteArray
 | [],_,d=>((lY d (⟨#[41]⟩:ByteArray)).bind λq=>some q)
 | r::i,i139,d=>(((if (decide ((i139:Int) > 0)) then ((lY d (⟨#[44,32]⟩:ByteArray)).bind λp=>some p) else some d):Option ByteArray).bind λs=>((rec r).bind λj=>((lY s j).bind λn=>(pZ rec i (i139+1) n))))
def yx (rec:Formula→Option ByteArray) (a0:Formula):Option ByteArray :=
 (if (a0.Op==1) then ((lY a0.kz.kA (⟨#[46]⟩:ByteArray)).bind λp=>((lY p a0.kz.Word).bind λq=>some q)) else (((if (a0.Op==3) then some (⟨#[115,111,109,101,40]⟩:ByteArray) else some (⟨#[97,108,108,40]⟩:ByteArray)):Option ByteArray).bind λj=>(((if (a0.Op==4) then ((lY (⟨#[97,116,32]⟩:ByteArray) (sP ([(IntKind.u8.wrap (wi0 .i64 (48+a0.K)))]))).bind λd=>((lY d (⟨#[40]⟩:ByteArray)).bind λi=>some i)) else some j):Option ByteArray).bind λn=>pZ rec a0.Kids 0 n)))
def qO:Nat→Formula→Option ByteArray
 | 0=>λ_=>none
 | n+1=>yx (qO n)
def nV (E:nA) (n:ByteArray):List Key→Nat→Bool→Option ByteArray
 | [],_,i=>(((if (!i) then ((sC (E.Keys.length:Int)).bind λq=>((lY (⟨#[107,101,121,115,32]⟩:ByteArray) q).bind λr=>((lY r (⟨#[10]⟩:ByteArray)).bind λs=>((lY n s).bind λu=>some u)))) else some n):Option ByteArray).bind λA=>some A)
 | j::p,d,i=>((if i then ((lM E.Keys (d:Int)).bind λz=>some (lQ j.mC z.mC)) else some false).bind λv=>((if v then ((lM E.Keys (d:Int)).bind λx=>some (lQ (sP j.Key) (sP x.Key))) else some false).bind λw=>(nV E n p (d+1) w)))
def zY (a0 d:nA):Option ByteArray :=
 ((((qY a0.kA d.kA).bind λj=>((if (!(lQ j zS)) then some true else some (!(lQ a0.kA.Name d.kA.Name))).bind λar=>(if ar then ((lY (⟨#[111,119,110,101,114,32]⟩:ByteArray) d.kA.Name).bind λak=>((lY ak (⟨#[10]⟩:ByteArray)).bind λal=>((lY al j).bind λan=>((lY zS an).bind λao=>some ao)))) else some zS))):Option ByteArray).bind λav=>((((qY a0.Client d.Client).bind λi=>((if (!(lQ i zS)) then some true else some (!(lQ a0.Client.Name d.Client.Name))).bind λaq=>(if aq then ((lY (⟨#[99,108,105,101,110,116,32]⟩:ByteArray) d.Client.Name).bind λag=>((lY ag (⟨#[10]⟩:ByteArray)).bind λah=>((lY ah i).bind λai=>((lY av ai).bind λaj=>some aj)))) else some av))):Option ByteArray).bind λaw=>((((pj li a0.Formula d.Formula).bind λE=>(if (!E) then ((((wN d.Formula).bind λG=>(if G then ((qO li d.Formula).bind λI=>some I) else some zS)):Option ByteArray).bind λap=>((lY (⟨#[103,114,97,110,116,115,32]⟩:ByteArray) ap).bind λad=>((lY ad (⟨#[10]⟩:ByteArray)).bind λae=>((lY aw ae).bind λaf=>some af)))) else some aw)):Option ByteArray).bind λn=>(((if (a0.oA != d.oA) then ((sC d.oA).bind λA=>((lY (⟨#[112,108,97,110,32]⟩:ByteArray) A).bind λa8=>((lY a8 (⟨#[10]⟩:ByteArray)).bind λaa=>((lY n aa).bind λab=>some ab)))) else some n):Option ByteArray).bind λp=>(((if (!(zM a0.lA d.lA)) then ((sC d.lA.oH).bind λx=>((lY (⟨#[114,111,111,109,115,32]⟩:ByteArray) x).bind λW=>((lY W (⟨#[32]⟩:ByteArray)).bind λY=>((sC d.lA.ow).bind λz=>((lY Y z).bind λZ=>((lY Z (⟨#[10]⟩:ByteArray)).bind λa6=>((lY p a6).bind λa7=>some a7))))))) else some p):Option ByteArray).bind λq=>(((if (a0.my != d.my) then ((sC d.my).bind λw=>((lY (⟨#[116,105,109,101,111,117,116,32]⟩:ByteArray) w).bind λR=>((lY R (⟨#[10]⟩:ByteArray)).bind λT=>((lY q T).bind λU=>some U)))) else some q):Option ByteArray).bind λr=>(((if (a0.nz != d.nz) then ((sC d.nz).bind λv=>((lY (⟨#[116,114,105,101,115,32]⟩:ByteArray) v).bind λO=>((lY O (⟨#[10]⟩:ByteArray)).bind λP=>((lY r P).bind λQ=>some Q)))) else some r):Option ByteArray).bind λs=>(((if (a0.mW != d.mW) then ((sC d.mW).bind λu=>((lY (⟨#[98,117,100,103,101,116,32]⟩:ByteArray) u).bind λJ=>((lY J (⟨#[10]⟩:ByteArray)).bind λL=>((lY s L).bind λM=>some M)))) else some s):Option ByteArray).bind λau=>nV d au a0.Keys 0 ((a0.Keys.length:Int)==(d.Keys.length:Int))))))))))
def vj (a0 d:nA):Option Bool :=
 (yT.bind λw=>(if (!w) then some false else ((xd a0).bind λx=>((xd d).bind λz=>((if (decide ((wi0 .i64 (x+z)) > 10000)) then some true else ((yR ([a0,d])).bind λs=>some (!s))).bind λA=>(if A then some true else ((wS a0 d).bind λi=>((zY a0 d).bind λj=>((if (lQ i j) then ((pQ a0.Client d.Client).bind λq=>((qY a0.Client d.Client).bind λr=>some (lQ q r))) else some false).bind λu=>((if u then ((pQ a0.kA d.kA).bind λn=>((qY a0.kA d.kA).bind λp=>some (lQ n p))) else some false).bind λv=>some v))))))))))
end
end Go.Proofs.YtjjjihkifgdhgaaGreatDoor
