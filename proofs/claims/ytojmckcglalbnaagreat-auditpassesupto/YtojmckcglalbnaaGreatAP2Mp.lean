/- a part of a proof of AuditPasses -/
import Derived.Test.YtojmckcglalbnaaGreatRtUp
import Derived.Laws.IdiomStrings
import Derived.Laws.MakeOwn
import Derived.Lib.ItoaNum
import Derived.Lib.Join
import Derived.Lib.IndexMore
import Derived.Lib.Split
import Derived.Lib.LastIndexLaws
import Derived.Lib.Atoi
import Derived.Recover
import Derived.LaidEqlPtr
import Derived.RangeFuncRecord
import Derived.Lib.AppendStr
import Derived.Lib.Builder
import Derived.Lib.UnsafeStr
import Derived.Shelf.SlSortCmp.NoneTotal
import Derived.Shelf.SortM.Plain
import Derived.Shelf.SortM.SortNone
import Derived.Shelf.SlIter.Sorted
import Derived.Shelf.SlIter.Nil
import Derived.Test.YtojmckcglalbnaaGreatProg
import Derived.KernelRfl
set_option linter.all false
namespace Go.Proofs.YtojmckcglalbnaaGreat
open Go.IntKind renaming wrap → wi0
open Go.RowKit
section
variable {P:Program} {E:nn} {W:World} {d:Option Nat} {ty:TypeId} {pos:String} {af:Array Edge} {g:tX}
 {dd:Bool} {F:Nat→Prop} {w:World} {μ:mO} {L:LO}
theorem ME {t e:TypeId} {C:Array Value} {b n c:Nat} (g:P.underlying t=some (.slice e)) (he:P.underlying e=some (.int .u8)) (d:W.heap[b]? =some (.cells C e (0,0))) :
  (convert t t (.slice (some ⟨b,0,none⟩) n c)).run P W= .ok (.slice (some ⟨b,0,none⟩) n c) (W.freeze ⟨b,C.size,none⟩ 1):=by
 have a:W.shape? b=some (e,C.size):=by
  unfold World.shape?
  rw [d]
 simp [convert,aS g,aS he,markStringish,a]
theorem QT {K:Value→World→Prop} {t e:TypeId} {x:Operand} {b m:Nat} {cs:Array Value} {l:List Int} (a:ST dd F w W μ ((b,.cells cs e (0,0))::L)) (J:P.underlying t=some (.slice e)) (he:P.underlying e=some (.int .u8)) (u:lF E x= .slice (some ⟨b,0,none⟩) m m) (z:cs.toList=(l.map (lJ .u8)).flatten) (hm:l.length=m) (v:m≤maxLen) (h:∀W' μ',ST dd F w W' μ' L→lM μ μ'→Lo F w μ μ'→Sl (Pl (lJ .u8)) 1 μ' (.slice (some ⟨b,0,none⟩) m m) l→K (.slice (some ⟨b,0,none⟩) m m) W'):py P E ⟨d,.convert t t x,ty,pos,af,g⟩ W K:=by
 subst hm
 have s:=(a.box b _ (by simp:(b,Obj.cells cs e (0,0))∈(b,Obj.cells cs e (0,0))::L)).1
 have I:=sb s
 have q:(W.freeze ⟨b,cs.size,none⟩ 1).heap[b]? =some (.cells cs e (cs.size,cs.size+1)):=by
  unfold World.freeze
  rw [aH tc]
  simp only [dJ,aR]
  rw [s]
  rfl
 have h1:ST dd F w (W.freeze ⟨b,cs.size,none⟩ 1) μ ([]++(b,.cells cs e (cs.size,cs.size+1))::L):=by
  refine ST.put (A:=[]) (o:=.cells cs e (0,0)) a ⟨?_,?_,?_,?_,?_⟩ (λk hk=>?_) q
  all_goals (unfold World.freeze; rw [aH tc])
  ·exact aY _
  ·simp
  ·simp only [dJ]
   rw [aH λe=>hk e.symm]
 refine .inl ⟨_,_,?_,h _ _ (ST.LH (A:=[]) h1) (ST.Ln (A:=[]) h1) (ST.Sg (A:=[]) h1) ?_⟩
 ·show (do pure (.value (←convert t t (lF E x))):Sem Next).run P W=_
  rw [u]
  simp only [cD,ME J he s,bN,dx]
 ·refine ⟨_,_,Z,aY _,v,λ_=>⟨b,0,cs,e,_,Z,aO Z,λi x u=>⟨_,Z,Z,λj y M=>?_⟩⟩⟩
  have:=Bg (enc:=lJ .u8) (k:=1) (λ_=>rfl) l i x u j y M
  rw [←z] at this
  simpa using this
def Hn {α:Type} (a:Nat) (z:α) (n:Int):Option (List α):=if 0≤n∧(a:Int)*n≤140737488355328∧n≤(maxLen:Int) then some (List.replicate n.toNat z) else none
theorem Pc {α:Type} {enc:α→List Value} {k:Nat} (hk:∀x,(enc x).length=k) (a:0 < k) (z:α) (n:Nat):(madeCells (enc z).toArray (n*k)).toList=((List.replicate n z).map enc).flatten:=by
 apply List.ext_getElem
 ·rw [vu hk,dF,size_madeCells]; simp
 ·intro i h1 j
  rw [dF,size_madeCells] at h1
  have q:i / k < n:=by rw [iz a]; exact h1
  have g:i % k < (enc z).length:=by rw [hk]; exact Nat.mod_lt _ a
  have d:=Bg hk (List.replicate n z) (i / k) z (by rw [List.getElem?_replicate,aO q]) (i % k) _ (dt g)
  rw [show i / k*k+i % k=i by rw [je]; exact Nat.div_add_mod i k] at d
  rw [dt j] at d
  have h:=gQ d
  rw [h]
  simp only [madeCells,Array.getElem_toList,Array.getElem_map,Array.getElem_range,dG,hk]
  rw [getElem!_pos _ _ (by simpa using g)]
  simp
theorem Mc {K:Value→World→Prop} {α:Type} {e t:TypeId} {enc:α→List Value} {k a:Nat} {j:Value} {n:Int} {s:IntKind} {z:α} {r:List α} {x y:Operand} {i:TypeInfo} (u:ST dd F w W μ L) (hk:∀x,(enc x).length=k) (J:0 < k) (ht:P.underlying t=some (.slice e)) (hi:P.info? e=some i) (hz:i.zero=some j) (M:i.size=k) (I:i.bytes=a) (hc:j.cells=(enc z).toArray) (hx:lF E x= .int s n) (hy:lF E y= .int s n) (q:Hn a z n=some r) (h:∀W' O R',ST dd F w W' μ (R'++L)→mg e enc k O r R'→K O W'):py P E ⟨d,.makeSlice t x y,ty,pos,af,g⟩ W K:=by
 unfold Hn at q
 split at q
 case isFalse=>cases q
 rename_i v
 cases q
 obtain ⟨Q,h1,U⟩:=v
 subst M; subst I
 have Y:n.toNat≤maxLen:=by omega
 have hr:=run_make (P:=P) W t e i j ht hi hz s s n n Q (iL _) rs (by simp only [maxLen] at U; omega)
 refine .inl ⟨.slice (some ⟨W.heap.size,0,none⟩) n.toNat n.toNat,W.alloc (.cells (madeCells j.cells (n.toNat*i.size)) e),?_,h _ _ [(W.heap.size,.cells (madeCells j.cells (n.toNat*i.size)) e)] (u.alloc _) ?_⟩
 ·show (do pure (.value (←Instr.makeSlice t (lF E x) (lF E y))):Sem Next).run P W=_
  rw [hx,hy]
  simp only [cD,hr,bN,dx]
 ·exact mg.lit (by rw [iA]) Y (by rw [hc]; exact Pc hk J z _) (by rw [size_madeCells])
end
section
variable {P:Program} {E:nn} {W:World} {d:Option Nat} {ty:TypeId} {pos:String} {af:Array Edge} {g:tX}
theorem XX {op:BinOp} {tx tv:TypeId} {x y:Operand} {k:IntKind} {a b:Int} {v:Value} (i:lF E x= .int k a) (j:lF E y= .int k b) (h:(match op with | .and=>some (BitVec.ofInt k.bits a &&& BitVec.ofInt k.bits b) | .or=>some (BitVec.ofInt k.bits a ||| BitVec.ofInt k.bits b) | .xor=>some (BitVec.ofInt k.bits a ^^^ BitVec.ofInt k.bits b) | _=>none).map (λ(c:BitVec k.bits)=>Value.int k (k.wrap c.toNat))=some v) :
  nE P E ⟨d,.binOp op tx x y tv,ty,pos,af,g⟩ W v W:=by
 show (do let r ←(do eqGuard op tx x y (lF E x) (lF E y); binOp op tx (lF E x) (lF E y)); pure (.value r):Sem Next).run P W=_
 rw [i,j]
 cases op <;> simp at h <;> subst h <;> simp [eqGuard,binOp,Op.intBits]
theorem ab3 {tx tv:TypeId} {x y:Operand} {k k':IntKind} {a b:Int} (h:lF E x= .int k a) (i:lF E y= .int k' b) (j:0≤b) :
  nE P E ⟨d,.binOp .shl tx x y tv,ty,pos,af,g⟩ W (.int k (k.wrap (a*2 ^ min b.toNat k.bits))) W:=by
 show (do let r ←(do eqGuard .shl tx x y (lF E x) (lF E y); binOp .shl tx (lF E x) (lF E y)); pure (.value r):Sem Next).run P W=_
 rw [h,i]
 simp [eqGuard,binOp,Op.shift,show ¬b < 0 by omega]
end
theorem sQ.BS {κ γ:Type} {kenc:κ→Value} {Q:Value→γ→LO→Prop} {μ:mO} {v:Value} {l:List (κ×γ)} (h:sQ kenc Q μ v l):v.oneCell'=true:=by
 obtain ⟨a,R,h,_⟩:=h
 obtain ⟨m,rfl⟩:=h.form
 rfl
theorem uR.BS {κ β:Type} {kenc:κ→Value} {vf:β→Value} {μ:mO} {v:Value} {l:List (κ×β)} (h:uR kenc vf μ v l):v.oneCell'=true:=by
 obtain ⟨m,rfl⟩:=h.form
 rfl
section
variable {β:Type} {Rl:tu β} {k:Nat} {μ μ':mO} {v:Value} {x:Option β}
def pV (Rl:tu β) (μ:mO) (v:Value) (x:Option β):Prop:=(v= .pointer none∧x=none)∨∃y ys,x=some y∧At μ v ys∧Rl μ ys y
theorem pV.nil:pV Rl μ (.pointer none) none:=.inl ⟨Z,Z⟩
theorem pV.some {y:β} {ys:List Value} (h:At μ v ys) (a:Rl μ ys y):pV Rl μ v (some y):=.inr ⟨y,ys,Z,h,a⟩
theorem pV.mono (i:Deep Rl k) (h:pV Rl μ v x) (a:lM μ μ'):pV Rl μ' v x:=by
 rcases h with h | ⟨y,ys,h1,d,g⟩
 ·exact .inl h
 ·exact .inr ⟨y,ys,h1,d.mono a,i.mono _ _ _ _ a g⟩
theorem pV.BS (h:pV Rl μ v x):v.oneCell'=true:=by
 rcases h with ⟨rfl,_⟩ | ⟨y,ys,_,⟨b,off,cs,T,fr,rfl,_⟩,_⟩ <;> rfl
variable {P:Program} {E:nn} {W:World} {d:Option Nat} {ty:TypeId} {pos:String} {af:Array Edge} {g:tX}
theorem Gs {tx tv e:TypeId} {a b:Operand} (i:P.underlying tx=some (.pointer e)) (h:pV Rl μ v x) (j:lF E a=v) (k:lF E b= .pointer none) :
  nE P E ⟨d,.binOp .eql tx a b tv,ty,pos,af,g⟩ W (.bool x.isNone) W:=by
 rcases h with ⟨rfl,rfl⟩ | ⟨y,ys,rfl,⟨q,off,cs,T,fr,rfl,_⟩,_⟩
 ·exact ox (a:=none) i j k
 ·exact ox (a:=Option.some _) i j k
theorem Qn {a:Operand} {y:β} {A:List Value→Prop} (q:∀{ys},Rl μ ys y→A ys) (h:pV Rl μ v x) (j:x=Option.some y) (s:lF E a=v) :
  ∃p,(∃ys,A ys∧At μ p ys)∧∀W,nE P E ⟨d,.nilCheck a,ty,pos,af,g⟩ W p W:=by
 rcases h with ⟨_,rfl⟩ | ⟨z,ys,rfl,i,k⟩
 ·cases j
 ·cases j
  refine ⟨v,⟨ys,q k,i⟩,λW=>?_⟩
  obtain ⟨t,off,cs,T,fr,rfl,_⟩:=i
  exact lX s
end
variable [M:Md]
section
variable {dd:Bool}
def Fh {α:Type} (R:tu α):mO→List Value→α→Prop:=λμ vs x=>∃ys,vs=[.agg ys.toArray]∧R μ ys x
def An {α β:Type} (R:tu α) (S:tu β):mO→List Value→α×β→Prop:=λμ vs x=>∃ys zs,vs=[.agg ys.toArray,.agg zs.toArray]∧R μ ys x.1∧S μ zs x.2
theorem Fh.mk {α:Type} {R:tu α} {k:Nat} {μ μ':mO} {ys:List Value} {x:α} (a:Deep R k) (h:R μ ys x) (d:lM μ μ'):Fh R μ' [.agg ys.toArray] x:=⟨ys,Z,a.mono _ _ _ _ d h⟩
theorem An.mk {α β:Type} {R:tu α} {S:tu β} {k m:Nat} {μ μ':mO} {ys zs:List Value} {x:α} {y:β} (g:Deep R k) (i:Deep S m) (h:R μ ys x) (d:S μ zs y) (a:lM μ μ'):An R S μ' [.agg ys.toArray,.agg zs.toArray] (x,y) :=
 ⟨ys,zs,Z,g.mono _ _ _ _ a h,i.mono _ _ _ _ a d⟩
def Uk {α:Type} (R:tu α):mO→List Value→α→Prop:=λμ vs x=>∃y,vs=[y]∧R μ [y] x
theorem Uk.mk {α:Type} {R:tu α} {k:Nat} {μ μ':mO} {y:Value} {x:α} (a:Deep R k) (h:R μ [y] x) (d:lM μ μ'):Uk R μ' [y] x:=⟨y,Z,a.mono _ _ _ _ d h⟩
def AQ {α β:Type} (P:Program) (fv:Value) (μ:mO) (a:mO→List Value→α→Prop) (d:β→Value) (pm:α→Option β):Prop :=
 ∃f first caps,fv= .func (.func f) first caps∧(∀args w,(callFunc f args).run P w= .ok (.enter f args) w)∧∀W x vs r,lM μ (hp W)→a (hp W) vs x→pm x=some r→mo false P f (first.toList++(vs++caps.toList)) W (d r)
theorem AQ.form {α β:Type} {P:Program} {fv:Value} {μ:mO} {d:mO→List Value→α→Prop} {g:β→Value} {pm:α→Option β} (h:AQ P fv μ d g pm):∃f a b,fv= .func f a b:=let ⟨f,a,b,h,_⟩:=h; ⟨_,a,b,h⟩
end
section
variable {P:Program} {W:World} {E:nn} {d:Option Nat} {ty:TypeId} {pos:String} {af:Array Edge} {g:tX} {F:Nat→Prop} {w:World} {μ μ0:mO} {L:LO}
theorem AQ.mono {α β:Type} {fv:Value} {a:mO→List Value→α→Prop} {d:β→Value} {pm:α→Option β} (h:AQ P fv μ a d pm) (j:lM μ μ0):AQ P fv μ0 a d pm:=by
 obtain ⟨f,first,caps,h1,g,i⟩:=h
 exact ⟨f,first,caps,h1,g,λW x vs r h=>i W x vs r (j.trans h)⟩
theorem BR {α β:Type} {K:Value→World→Prop} {fv:Value} {k:mO→List Value→α→Prop} {q:β→Value} {pm:α→Option β} {i:Operand} {ax:Array Operand} {ats:Array TypeId} (x:α) {vs:List Value} {r:β} (a:ST false F w W μ L) (z:AQ P fv μ0 k q pm) (J:lM μ0 μ) (y:k (hp W) vs x) (I:lF E i=fv) (ha:ax.map (lF E)++(#[]:Array Value)=vs.toArray) (hm:pm x=some r) (h:∀W',ST false F w W' μ L→K (q r) W'):py P E ⟨d,.call ⟨.value i,ax,ats⟩,ty,pos,af,g⟩ W K:=by
 obtain ⟨f,first,caps,rfl,s,t⟩:=z
 have j:ax.map (lF E)=vs.toArray:=by simpa using ha
 refine .inr (.inr ⟨f,(first.toList++(vs++caps.toList)).toArray,?_,dl (t W x vs r (J.trans a.ns) y hm) λ_ _ ⟨u,v⟩=>⟨_,u,h _ (a.NN v)⟩⟩)
 show (do let d ←resolve (lF E) ⟨.value i,ax,ats⟩ ty; invoke d.target d.args:Sem Next).run P W=_
 simp only [resolve,I,Deferred.ofValue,cD,dx,bN,invoke,j,s]
 congr 2
 simp
end
section
variable {dd:Bool}
variable {β:Type} {Rl:tu β} {k:Nat} {μ:mO} {v:Value} {l:List β} {e:TypeId} {B:LO}
variable {F:Nat→Prop} {w W:World} {L:LO}
variable {P:Program} {E:nn} {d:Option Nat} {ty:TypeId} {pos:String} {af:Array Edge} {g:tX}
theorem Rr {α:Type} {enc:α→List Value} (hk:∀x,(enc x).length=k) (d:0 < k) (g:∀x y,enc x=enc y→x=y):∀{l m:List α},(l.map enc).flatten=(m.map enc).flatten→l=m
 | [],[],_=>rfl
 | [],b::m,h=>by
  have:=bA List.length h
  simp only [ga,List.flatten_nil,cM,bQ,dX,aC,hk] at this
  omega
 | a::l,[],h=>by
  have:=bA List.length h
  simp only [ga,List.flatten_nil,cM,bQ,dX,aC,hk] at this
  omega
 | a::l,b::m,h=>by
  simp only [bQ,dX] at h
  obtain ⟨h1,i⟩:=List.append_inj h (by rw [hk,hk])
  rw [g _ _ h1,Rr hk d g i]
theorem adn (x y:CF k) (h:AU x=AU y):x=y:=Subtype.ext h
theorem mg.pre {v1:Value} {cl a:List (CF k)} (i:0 < k) (h:mg e AU k v cl B) (h1:mg e AU k v1 a B) (g:a.length≤cl.length):a=cl.take a.length:=by
 rcases h with ⟨rfl,rfl,rfl⟩ | ⟨y,cap,d,rfl,rfl,q1,q2,q3,q4⟩
 ·simp at g; simp [g]
 ·rcases h1 with ⟨_,_,h⟩ | ⟨g1,j,q,rfl,s,x,a2,a3,a4⟩
  ·cases h
  ·cases s
   refine Rr Ej i adn ?_
   rw [←a4]
   have hle:a.length*k≤cl.length*k:=dp _ g
   have:d.toList.take (a.length*k)=(d.toList.take (cl.length*k)).take (a.length*k):=by rw [gY,dS hle]
   rw [this,q4]
   have t:(cl.map AU).flatten=((cl.take a.length).map AU).flatten++((cl.drop a.length).map AU).flatten:=by rw [←iY,←cL,gw]
   have u:((cl.take a.length).map AU).flatten.length=a.length*k:=by rw [vu Ej,cU,dS g]
   rw [t,←u,List.take_left]
theorem uQ.replicate {α β:Type} {Q:α→β→Prop} {a:α} {b:β} (h:Q a b):∀n,uQ Q (List.replicate n a) (List.replicate n b)
 | 0=>.nil
 | n+1=>.cons h (uQ.replicate h n)
theorem uQ.adm {α β:Type} {Q:α→β→Prop} {l:List α} {m:List β} (h:uQ Q l m) {a:α} {b:β} (d:Q a b) (i:Nat):uQ Q (rr l i a) (rr m i b):=by
 unfold rr
 rw [h.length]
 exact (h.take i).append (uQ.replicate d _)
theorem Jp {t e':TypeId} {x ih:Operand} {M:IntKind} {i:Int} (I:P.underlying t=some (.slice e')) (he:∀w,(sizeOf e').run P w= .ok k w) (J:lF E x=v) (y:lF E ih= .int M i) (h:mX e Rl k μ v l B) (q:0≤i) (z:i≤l.length) :
  ∃a,mX e Rl k μ a (l.take i.toNat) B∧∀W,nE P E ⟨d,.slice t x none (some ih) none,ty,pos,af,g⟩ W a W:=by
 obtain ⟨cl,h1,j⟩:=h
 obtain ⟨a,s,u⟩:=yK (d:=d) (ty:=ty) (pos:=pos) (af:=af) (g:=g) I he J y h1 Ej q (by rw [j.length]; exact z)
 exact ⟨a,⟨_,s,j.take _⟩,u⟩
theorem Ew {t e':TypeId} {x a:Operand} {J:IntKind} {i:Int} (z:P.underlying t=some (.slice e')) (he:∀w,(sizeOf e').run P w= .ok k w) (I:lF E x=v) (s:lF E a= .int J i) (h:mX e Rl k μ v l B) (j:0≤i) (y:i≤l.length) :
  ∃u,GB k v i.toNat u∧∀W,nE P E ⟨d,.slice t x (some a) none none,ty,pos,af,g⟩ W u W:=by
 obtain ⟨cl,h1,q⟩:=h
 exact Ak z he I s h1 j (by rw [q.length]; exact y)
theorem UI {t e':TypeId} {x:Operand} {u:Value} {i:Nat} (j:P.underlying t=some (.slice e')) (q:lF E x=u) (hu:GB k v i u) (h:mX e Rl k μ v l B):nE P E ⟨d,.call ⟨.builtin .len,#[x],#[t]⟩,ty,pos,af,g⟩ W (.int .i64 ((l.length-i:Nat):Int)) W:=by
 obtain ⟨cl,h1,a⟩:=h
 rw [←a.length]
 exact Kq j q hu h1
theorem Hh {t e':TypeId} {x q:Operand} {Y:IntKind} {i:Int} {x0:β} {u:Value} {o:Nat} {A:List Value→Prop} (M:∀{ys},Rl μ ys x0→A ys) (Q:P.underlying t=some (.slice e')) (he:∀w,(sizeOf e').run P w= .ok k w) (U:lF E x=u) (I:lF E q= .int Y i) (h:mX e Rl k μ v l B) (hu:GB k v o u) (s:0≤i) (J:(l.drop o)[i.toNat]? =some x0) :
  ∃p,(∃ys,A ys∧At (Fa B) p ys∧Gh B k p (o+i.toNat))∧∀W,nE P E ⟨d,.indexAddr t x q,ty,pos,af,g⟩ W p W:=by
 obtain ⟨cl,h1,y⟩:=h
 obtain ⟨c,j,O⟩:=(y.drop o).get J
 obtain ⟨p,a,z⟩:=Ap (d:=d) (ty:=ty) (pos:=pos) (af:=af) (g:=g) Q he U I h1 hu s j
 exact ⟨p,⟨c.1,M O,a.at h1 Ej (Cl j),a⟩,z⟩
theorem GQ {K:Value→World→Prop} {z:β} {zs:List Value} {Y:LO} {t e':TypeId} {x:Operand} {u q:Value} {i:Nat} (I:Deep Rl k) (j:ST dd F w W μ (B++Y)) (h:mX e Rl k μ v l B) (a:Rl μ zs z) (O:P.underlying t=some (.slice e')) (U:∀w,(zeroValue e').run P w= .ok q w) (hu:GB k v i u) (M:q.cells=zs.toArray) (Q:lF E x=u) (J:∀W' R',ST dd F w W' μ (R'++Y)→mX e Rl k μ v (rr l i z) R'→K (.tuple #[]) W'):py P E ⟨d,.call ⟨.builtin .clear,#[x],#[t]⟩,ty,pos,af,g⟩ W K:=by
 obtain ⟨cl,h1,y⟩:=h
 exact DA (I.cell a) j h1 Ej UY O U hu M Q (λW' R' s a2=>J W' R' s ⟨_,a2,y.adm a i⟩)
end
section
variable {P:Program} {W:World} {E:nn} {d:Option Nat} {ty:TypeId} {pos:String} {af:Array Edge} {g:tX}
theorem XU {tx tv:TypeId} {x y:Operand} {fv:Value} {s u:Array TypeId} {bb:Bool} (j:P.underlying tx=some (.func s u bb)) (h:∃f a b,fv= .func f a b) (k:lF E x=fv) (q:lF E y= .nilFunc) :
  nE P E ⟨d,.binOp .neq tx x y tv,ty,pos,af,g⟩ W (.bool true) W:=by
 obtain ⟨f,a,b,rfl⟩:=h
 show (do let r ←(do eqGuard .neq tx x y (lF E x) (lF E y); binOp .neq tx (lF E x) (lF E y)); pure (.value r):Sem Next).run P W=_
 rw [k,q]
 have i:=GU 9999 j f a b W
 simp [eqGuard,binOp,Op.equal,show Op.maxDepth=9999+1 from rfl,i]
end
end Go.Proofs.YtojmckcglalbnaaGreat
namespace Go.Proofs.YtojmckcglalbnaaGreat
open Go.IntKind renaming wrap → wi0
open Go.RowKit
variable [M:Md]
theorem bS {α β:Type} {m:Option α} {f:α→Option β} {r:β} {G:Prop} (h:m.bind f=some r) (k:∀x,m=some x→f x=some r→G):G :=
 let ⟨x,a,b⟩:=bind_some h
 k x a b
theorem sj {α:Type} {a b:α} (h:some a=some b):a=b:=gQ h
theorem bC {α:Type} {b:Bool} {x y r:α} {G:Prop} (h:(if b=true then x else y)=r) (a:b=true→x=r→G) (k2:b=false→y=r→G):G:=by
 rcases VI b with e | e
 ·exact a e (abf e h)
 ·exact k2 e (abj e h)
theorem cB {a b:Bool} (h:a=b):Value.bool a=Value.bool b:=bA Value.bool h
theorem nb {a b:Nat} (h:Nat.ble a b=true:=by exact rfl):a≤b:=Nat.le_of_ble_eq_true h
def bmL:Nat→Nat→List Bool
 | 0,_=>[]
 | n+1,m=>(m % 2==1)::bmL n (m / 2)
def bm (n m:Nat):Array Bool:=(bmL n m).toArray
section
variable {P:Program} {n:Nat} {Q:rc} {E:nn} {W:World}
theorem CI {α:Type} {co:Operand} {b:Bool} {x y:Code} {A B r:α} (hm:(if b=true then A else B)=r) (a:lF E co= .bool b) (g:b=true→A=r→CW P n x Q E W) (d:b=false→B=r→CW P n y Q E W):CW P n (.cond co x y) Q E W :=
 Va a (λe=>g e (abf e hm)) (λe=>d e (abj e hm))
theorem CJ {d ρ:Type} {m:Option d} {k:d→Option ρ} {r:ρ} {x:Code} {K:nn→World→Prop} (hm:m.bind k=some r) (I:d→nn→World→Prop) (h1:∀s,m=some s→CW P n x (uL (I s) Q) E W) (g:∀s E W,I s E W→k s=some r→K E W):CW P n x (uL K Q) E W :=
 let ⟨s,a,b⟩:=bind_some hm
 Xs (I s) (h1 s a) (λE W h=>g s E W h b)
theorem IW {g ρ d:Type} {m:Option (d ⊕ g)} {k:d ⊕ g→Option ρ} {r:ρ} {x:Code} {K:nn→World→Prop} (hm:m.bind k=some r) (I:g→nn→World→Prop) (h1:∀s,m=some s→k s=some r→CW P n x (uL (λE W=>∃t,s= .inr t∧I t E W) Q) E W) (i:∀s E W,I s E W→k (.inr s)=some r→K E W):CW P n x (uL K Q) E W :=
 let ⟨s,a,b⟩:=bind_some hm
 Xs (λE W=>∃t,s= .inr t∧I t E W) (h1 s a b) (λE W ⟨t,e,h⟩=>i t E W h (by subst e; exact b))
theorem LJ {d ρ:Type} {m:Option d} {k:d→Option ρ} {r:ρ} {ops:Array Oper} {rest:List Oper} (hm:m.bind k=some r) (I:d→nn→World→Prop) (j:Nat) (g:∀s E W,I s E W→k s=some r→LW P n ops Q (rest.drop j) E W) (h1:∀s,m=some s→(∀E W,I s E W→LW P n ops Q (rest.drop j) E W)→LW P n ops Q rest E W):LW P n ops Q rest E W :=
 let ⟨s,a,b⟩:=bind_some hm
 h1 s a (λE W h=>g s E W h b)
theorem PJ {d ρ:Type} {m:Option d} {k:d→Option ρ} {r:ρ} {ops:Array Oper} {S:Array Bool→World→Prop} {fuel:Nat} {listed:Array Bool} (hm:m.bind k=some r) (I:d→nn→World→Prop) (i:Array Bool) (g:Nat) (j:∀s E W,I s E W→k s=some r→PX P n ops Q S g i E W) (h1:∀s,m=some s→(∀E W,I s E W→PX P n ops Q S g i E W)→PX P n ops Q S fuel listed E W):PX P n ops Q S fuel listed E W :=
 let ⟨s,a,b⟩:=bind_some hm
 h1 s a (λE W h=>j s E W h b)
end
section
variable {dd:Bool} {P:Program} {fn:Func} {E:nn} {W w:World} {μ:mO} {L:LO}
theorem rP {t:Tmp} {v:Value} (a:ST dd nf w W μ L) (d:fn.results=#[.tmp t]:=by exact rfl) (g:E t=v:=by exact rfl):A2 P fn (λe W'=>e= .returned v∧Ex dd w W') .ret E W:=ma d g ⟨Z,a.ex⟩
end
theorem ST.JA {dd:Bool} {F:Nat→Prop} {w W:World} {μ:mO} {x:Nat×Obj} {L:LO} (h:ST dd F w W μ (x::L)):ST dd F w W μ ([x]++L):=h
theorem ST.abh {dd:Bool} {F:Nat→Prop} {w W:World} {μ:mO} {L:LO} (h:ST dd F w W μ L):ST dd F w W μ ([]++L):=h
theorem aL {E:nn} {ax:Array Operand} {l:List Value} (h:ax.toList.map (lF E)=l):ax.map (lF E)++(#[]:Array Value)=l.toArray:=by subst h; apply Array.ext'; simp
section
variable {dd:Bool}
variable {P:Program} {E:nn} {W:World} {d:Option Nat} {ty:TypeId} {pos:String} {af:Array Edge} {g:tX}
 {F:Nat→Prop} {w:World} {μ:mO} {L:LO}
variable {f:FuncId} {fv:Operand} {ax:Array Operand} {ats:Array TypeId} {args:List Value} {v:Value} {K:Value→World→Prop}
theorem Eg (a:ST dd F w W μ L) (he:∀args w,(callFunc f args).run P w= .ok (.enter f args) w) (i:mo dd P f args W v) (h:∀W',ST dd F w W' μ L→K v W') (j:lF E fv= .func (.func f) #[] #[]:=by exact rfl) (ha:ax.toList.map (lF E)=args:=by exact rfl):py P E ⟨d,.call ⟨.value fv,ax,ats⟩,ty,pos,af,g⟩ W K:=OM a j he (aL ha) i h
theorem oG {α:Type} {e:TypeId} {enc:α→List Value} {k:Nat} {l:List α} {Y:LO} (a:ST dd F w W μ Y) (he:∀args w,(callFunc f args).run P w= .ok (.enter f args) w) (i:na dd P f args W e enc k l) (h:∀W' v μ' R,ST dd F w W' μ' (R++Y)→lM μ μ'→Lo F w μ μ'→mg e enc k v l R→K v W') (j:lF E fv= .func (.func f) #[] #[]:=by exact rfl) (ha:ax.toList.map (lF E)=args:=by exact rfl):py P E ⟨d,.call ⟨.value fv,ax,ats⟩,ty,pos,af,g⟩ W K:=Np _ a j he (aL ha) i h
theorem Gi {K':Value→LO→World→Prop} {L0 L2:LO} (i:ST dd F w W μ L) (j:L.Perm (L0++L2)) (he:∀args w,(callFunc f args).run P w= .ok (.enter f args) w) (k:JB L0 W→(L0.map (·.1)).Nodup→lM μ (wZ W L0)→(∀b o,(b,o)∈L2→wZ W L0 b=some o)→nt dd P f args W L0 K') (h:∀W' v μ' L1,ST dd F w W' μ' (L1++L2)→lM μ μ'→Lo F w μ μ'→(∀b,W.heap.size≤b→∀o,wZ W' L1 b=some o→μ' b=some o)→K' v L1 W'→K v W') (q:lF E fv= .func (.func f) #[] #[]:=by exact rfl) (ha:ax.toList.map (lF E)=args:=by exact rfl):py P E ⟨d,.call ⟨.value fv,ax,ats⟩,ty,pos,af,g⟩ W K :=
 Z2 L0 L2 i j q he (aL ha) (λa b c d=>by have:=k a b c d; simpa using this) h
theorem Ub {K':Value→LO→mO→Prop} {L0 L2:LO} (i:ST dd F w W μ L) (j:L.Perm (L0++L2)) (he:∀args w,(callFunc f args).run P w= .ok (.enter f args) w) (k:JB L0 W→(L0.map (·.1)).Nodup→lM μ (wZ W L0)→(∀b o,(b,o)∈L2→wZ W L0 b=some o)→my dd P f args W μ L0 K') (h:∀W' v μ' L1,ST dd F w W' μ' (L1++L2)→lM μ μ'→Lo F w μ μ'→K' v L1 μ'→K v W') (q:lF E fv= .func (.func f) #[] #[]:=by exact rfl) (ha:ax.toList.map (lF E)=args:=by exact rfl):py P E ⟨d,.call ⟨.value fv,ax,ats⟩,ty,pos,af,g⟩ W K :=
 D0 L0 L2 i j q he (aL ha) (λa b c d=>by have:=k a b c d; simpa using this) h
end
section
variable {E:nn} {x1 x2 x3 x4 x5 x6 x7 x8:Operand} {v1 v2 v3 v4 v5 v6 v7 v8:Value}
theorem la1 (h1:lF E x1=v1):[x1].map (lF E)=[v1]:=by rw [←h1]; rfl
theorem la2 (h1:lF E x1=v1) (a:lF E x2=v2):[x1,x2].map (lF E)=[v1,v2]:=by rw [←h1,←a]; rfl
end
end Go.Proofs.YtojmckcglalbnaaGreat
namespace Go.Proofs.YtojmckcglalbnaaGreat
open Go.IntKind renaming wrap → wi0
open Go.RowKit
def IxF (R:LO) (k:Nat) (p:Value) (i a:Nat):Prop:=∃g o,R=[(g,o)]∧p= .pointer (some ⟨g,i*k+a,none⟩)
theorem Gh.f {R:LO} {k:Nat} {p:Value} {i:Nat} (h:Gh R k p i):IxF R k p i 0:=h
section
variable {P:Program} {E:nn} {W:World} {d:Option Nat} {ty:TypeId} {pos:String} {af:Array Edge} {g:tX}
 {dd:Bool} {F:Nat→Prop} {w:World} {μ:mO} {L:LO} {α:Type} {e':TypeId} {enc:α→List Value} {k:Nat} {v:Value} {l:List α} {R:LO}
theorem mg.put (h:mg e' enc k v l R) (hk:∀x,(enc x).length=k) {p:Value} {i:Nat} (hp:Gh R k p i) {x0:α} (I:l[i]? =some x0) (x1:α) :
  ∃g a,R=[(g,.cells a e' (0,0))]∧p= .pointer (some ⟨g,i*k,none⟩)∧i*k+k≤a.size∧(∀j y,(enc x0)[j]? =some y→a[i*k+j]? =some y)∧
   mg e' enc k v (l.set i x1) [(g,.cells (a.toList.take (i*k)++enc x1++a.toList.drop (i*k+k)).toArray e' (0,0))]:=by
 have s:i < l.length:=(bP.1 I).1
 obtain ⟨u,a,cap,rfl,rfl,z,O,q,P,rfl,Q⟩:=GS h hk hp I
 have hle:i*k+k≤cap*k:=by
  have:(i+1)*k≤cap*k:=dp _ rs
  rwa [cZ,kR] at this
 have d:i*k+k≤l.length*k:=by
  have:(i+1)*k≤l.length*k:=dp _ rs
  rwa [cZ,kR] at this
 have hlen:l.length*k≤cap*k:=dp _ z
 refine ⟨u,a,Z,Z,by rw [q]; exact hle,Q,.inr ⟨u,cap,_,rv,Z,by simpa using z,O,?_,?_⟩⟩
 ·show ((a.toList.take (i*k)++(enc x1)++a.toList.drop (i*k+k)).toArray).size=_
  have e0:a.toList.length=cap*k:=by simpa using q
  rw [dG,aC,aC,cU,fS,hk,e0,dS rs]; omega
 ·rw [iU,MC hk l i x1 s,←P]
  have J:(a.toList.take (l.length*k)).take (i*k)=a.toList.take (i*k):=by rw [gY]; congr 1; omega
  have M:(a.toList.take (l.length*k)).drop (i*k+k)=(a.toList.drop (i*k+k)).take (l.length*k-(i*k+k)):=by rw [jr]
  rw [J,M]
  show List.take (l.length*k) (a.toList.take (i*k)++enc x1++a.toList.drop (i*k+k))=_
  have e0:a.toList.length=cap*k:=by simpa using q
  have t:(a.toList.take (i*k)++enc x1).length=i*k+k:=by rw [aC,cU,hk,e0,dS rs]
  rw [fT,dy (by rw [t]; exact d),t]
end
variable [M:Md]
theorem oc {v:Value} (h:v.cells.toList.all Value.oneCell'=true:=by exact rfl):∀u∈v.cells.toList,u.oneCell'=true:=fV.1 h
theorem dc {p:Prop} [Decidable p] (h:p:=by decide):p:=h
theorem kr {p:Prop} (h:p:=by kernel_rfl):p:=h
theorem br {α:Sort _} {a b:α} (h:a=b:=by rfl):a=b:=h
abbrev Ob (c:Array Value) (t:TypeId):Obj:=.cells c t (0,0)
abbrev Ol (c:List Value) (t:TypeId):Obj:=.cells c.toArray t (0,0)
theorem nU {P:Program} {t e:TypeId} {m k:Nat} {z:Value} {qs:Array (Nat×Value)} {cs:Array Value} (j:P.underlying t=some (.slice e)) (i:∀w,(sizeOf e).run P w= .ok k w) (s:∀w,(zeroValue e).run P w= .ok z w) (hm:m*k≤16777216:=by decide) (g:qs.toList=(qs.toList.map (·.2)).zipIdx.map (λp=>(p.2,p.1)):=by exact rfl) (q:(qs.toList.map (·.2)).all (λv=>v.cells.size==k)=true:=by exact rfl) (d:(qs.toList.map (·.2)).length=m:=by exact rfl) (a:((qs.toList.map (·.2)).flatMap λv=>v.cells.toList).toArray=cs:=by exact rfl) (W:World) :
  (Instr.buildSlice t m qs).run P W= .ok (.slice (some ⟨W.heap.size,0,none⟩) m m) (W.alloc (.cells cs e (0,0))) :=
 Eb _ j i s hm g (λv h=>eq_of_beq (fV.1 q v h)) d a W
section
variable {dd:Bool} {P:Program} {fn:Func} {E:nn} {W w:World} {μ:mO} {L L0:LO}
theorem rQ {α:Type} {f:α→Value} {a r:α} {t:Tmp} (hm:some a=some r) (d:ST dd nf w W μ L) (g:fn.results=#[.tmp t]:=by exact rfl) (h:E t=f a:=by exact rfl):A2 P fn (λe W'=>e= .returned (f r)∧Ex dd w W') .ret E W:=by
 obtain rfl:=sj hm; exact ma g h ⟨Z,d.ex⟩
theorem cG (n:Nat) {f:FuncId} {c:Code} {args:List Value} {v:Value} (a:P.funcs[f]? =some fn) (d:fn.body=some c) (h:ST dd nf w w (hp w) []→@CW FL P n c (A2 P fn λe j=>e= .returned v∧Ex dd w j) (Cy args) w) (i:fn.ntmps=n:=by exact rfl) (g:args.length≤n:=by exact nb):mo dd P f args w v:=Fv a d i g (h (ST.start w))
theorem vr {K:Value→LO→World→Prop} (n:Nat) {f:FuncId} {c:Code} {args:List Value} (a:P.funcs[f]? =some fn) (g:fn.body=some c) (h:ST dd nf w w (hp w) []→@CW FL P n c (A2 P fn λe d=>∃v L1,e= .returned v∧wP dd [] L1 w d∧K v L1 d) (Cy args) w) (j:fn.ntmps=n:=by exact rfl) (i:args.length≤n:=by exact nb):nt dd P f args w [] K:=Fv a g j i (h (ST.start w))
theorem B6 {K:Value→LO→World→Prop} (g:oa μ L0 w) (n:Nat) {f:FuncId} {c:Code} {args:List Value} (a:P.funcs[f]? =some fn) (i:fn.body=some c) (h:ST dd (keys L0) w w μ L0→@CW FL P n c (A2 P fn λe d=>∃v L1,e= .returned v∧wP dd L0 L1 w d∧K v L1 d) (Cy args) w) (k:fn.ntmps=n:=by exact rfl) (j:args.length≤n:=by exact nb):nt dd P f args w L0 K:=Fv a i k j (h (ST.zZ g))
theorem rG {K:Value→LO→mO→Prop} (g:oa μ L0 w) (n:Nat) {f:FuncId} {c:Code} {args:List Value} (a:P.funcs[f]? =some fn) (i:fn.body=some c) (h:ST dd (keys L0) w w μ L0→@CW FL P n c (A2 P fn λe d=>∃v L1 μ1,e= .returned v∧wP dd L0 L1 w d∧lM μ μ1∧Lo (keys L0) w μ μ1∧lM μ1 (wZ d L1)∧K v L1 μ1) (Cy args) w) (k:fn.ntmps=n:=by exact rfl) (j:args.length≤n:=by exact nb):my dd P f args w μ L0 K:=Fv a i k j (h (ST.zZ g))
end
section
variable {dd:Bool}
variable {P:Program} {E:nn} {W:World} {d:Option Nat} {ty:TypeId} {pos:String} {af:Array Edge} {g:tX}
 {F:Nat→Prop} {w:World} {μ:mO} {L:LO}
variable {f:FuncId} {fv:Operand} {ax:Array Operand} {ats:Array TypeId} {args:List Value} {v:Value} {K:Value→World→Prop}
theorem eM {K':Value→LO→World→Prop} {L0 L2:LO} (i:ST dd F w W μ L) (j:L.Perm (L0++L2)) (he:∀args w,(callFunc f args).run P w= .ok (.enter f args) w) (k:oa (wZ W L0) L0 W→lM μ (wZ W L0)→nt dd P f args W L0 K') (h:∀W' v μ' L1,ST dd F w W' μ' (L1++L2)→lM μ μ'→Lo F w μ μ'→(∀b,W.heap.size≤b→∀o,wZ W' L1 b=some o→μ' b=some o)→K' v L1 W'→K v W') (q:lF E fv= .func (.func f) #[] #[]:=by exact rfl) (ha:ax.toList.map (lF E)=args:=by exact rfl):py P E ⟨d,.call ⟨.value fv,ax,ats⟩,ty,pos,af,g⟩ W K :=
 Gi i j he (λa b c _=>k ⟨a,b,lM.refl _⟩ c) h q ha
theorem eD {K':Value→LO→mO→Prop} {L0 L2:LO} (i:ST dd F w W μ L) (j:L.Perm (L0++L2)) (he:∀args w,(callFunc f args).run P w= .ok (.enter f args) w) (k:oa μ L0 W→my dd P f args W μ L0 K') (h:∀W' v μ' L1,ST dd F w W' μ' (L1++L2)→lM μ μ'→Lo F w μ μ'→K' v L1 μ'→K v W') (q:lF E fv= .func (.func f) #[] #[]:=by exact rfl) (ha:ax.toList.map (lF E)=args:=by exact rfl):py P E ⟨d,.call ⟨.value fv,ax,ats⟩,ty,pos,af,g⟩ W K :=
 Ub i j he (λa b c _=>k ⟨a,b,c⟩) h q ha
end
def WX (op:BinOp):Value→Value→Option Value
 | .int k a,.int k' b=>if k=k' then QG k op a b else none
 | _,_=>none
def abi (i:Nat):Value→Option Value
 | .tuple vs=>vs[i]?
 | _=>none
def QM:Value→Bool
 | .pointer (some ⟨_,_,none⟩)=>true
 | _=>false
def aa8 (o:Nat):Value→Value
 | .pointer (some ⟨b,k,none⟩)=>.pointer (some ⟨b,k+o,none⟩)
 | v=>v
theorem PH {v:Value} (h:QM v=true):∃b k,v= .pointer (some ⟨b,k,none⟩):=by
 unfold QM at h; split at h
 ·exact ⟨_,_,Z⟩
 ·cases h
section
variable {P:Program} {n:Nat} {Q:rc} {E:nn} {W:World} {ops:Array Oper} {rest:List Oper}
 {d j t:Nat} {want b:Bool} {v:Value} {ins:Go.Op} {ty:TypeId} {pos:String} {af:Array Edge} {A:Value→Prop} {x y:Operand}
theorem Wm (h:LW P n ops Q rest (oT E d (lF E x)) W) (a:d < n:=by decide):LW P n ops Q (⟨some d,.move x,ty,pos,af,none⟩::rest) E W:=V (lz Z) h a
theorem Wa (h:LW P n ops Q rest (oT E d (lF E x)) W) (a:d < n:=by decide):LW P n ops Q (⟨some d,.assign x,ty,pos,af,none⟩::rest) E W:=V (nB Z) h a
theorem Wh (g:lF E x=v) (h:LW P n ops Q rest (oT E d v) W) (a:d < n:=by decide):LW P n ops Q (⟨some d,.move x,ty,pos,af,none⟩::rest) E W:=V (lz g) h a
theorem Wg (g:lF E x=v) (h:LW P n ops Q rest (oT E d v) W) (a:d < n:=by decide):LW P n ops Q (⟨some d,.assign x,ty,pos,af,none⟩::rest) E W:=V (nB g) h a
theorem Wx {i:Nat} (a:abi i (lF E x)=some v) (h:LW P n ops Q rest (oT E d v) W) (g:d < n:=by decide):LW P n ops Q (⟨some d,.extract x i,ty,pos,af,none⟩::rest) E W:=by
 unfold abi at a; split at a
 ·rename_i vs e; exact V (pA e a) h g
 ·cases a
theorem Wi {op:BinOp} {tx tv:TypeId} (g:WX op (lF E x) (lF E y)=some v) (h:LW P n ops Q rest (oT E d v) W) (q:d < n:=by decide):LW P n ops Q (⟨some d,.binOp op tx x y tv,ty,pos,af,none⟩::rest) E W:=by
 unfold WX at g; split at g
 ·rename_i k a k' b i j
  split at g
  ·rename_i e; subst e; exact V (mL i j g) h q
  ·cases g
 ·cases g
theorem Wf {t:TypeId} {f off:Nat} (a:mC P t f off) (h:LW P n ops Q rest (oT E d (aa8 off (lF E x))) W) (hp:QM (lF E x)=true:=by exact rfl) (g:d < n:=by decide):LW P n ops Q (⟨some d,.fieldAddr t x f,ty,pos,af,none⟩::rest) E W:=by
 obtain ⟨b,k,e⟩:=PH hp
 refine V (ly a e) ?_ g
 rw [e] at h; exact h
theorem Wn (h:LW P n ops Q rest (oT E d (lF E x)) W) (hp:QM (lF E x)=true:=by exact rfl) (a:d < n:=by decide):LW P n ops Q (⟨some d,.nilCheck x,ty,pos,af,none⟩::rest) E W:=by
 obtain ⟨b,k,e⟩:=PH hp
 refine V (lX e) ?_ a
 rw [e] at h; exact h
theorem un (h:b=!want) (k:LW P n ops Q rest (oT E d undef) W) (g:(ops[j]?).bind (·.dst)=some t:=by exact rfl) (a:E t= .bool b:=by exact rfl) (q:t < n:=by decide) (i:d < n:=by decide) :
  LW P n ops Q (⟨some d,ins,ty,pos,af,some (j,want)⟩::rest) E W:=Vn g (by rw [a,h]) k q i
theorem ug (h:b=want) (q:nE P E ⟨some d,ins,ty,pos,af,some (j,want)⟩ W v W) (k:LW P n ops Q rest (oT E d v) W) (g:(ops[j]?).bind (·.dst)=some t:=by exact rfl) (a:E t= .bool b:=by exact rfl) (s:t < n:=by decide) (i:d < n:=by decide) :
  LW P n ops Q (⟨some d,ins,ty,pos,af,some (j,want)⟩::rest) E W:=Vg g (by rw [a,h]) q k s i
theorem tw (h:b=want) (k:py P E ⟨some d,ins,ty,pos,af,some (j,want)⟩ W λv W'=>LW P n ops Q rest (oT E d v) W') (g:(ops[j]?).bind (·.dst)=some t:=by exact rfl) (a:E t= .bool b:=by exact rfl) (q:t < n:=by decide) (i:d < n:=by decide) :
  LW P n ops Q (⟨some d,ins,ty,pos,af,some (j,want)⟩::rest) E W:=Sk g (by rw [a,h]) k q i
theorem ugQ (h:b=want) (q:∃p,A p∧∀W,nE P E ⟨some d,ins,ty,pos,af,some (j,want)⟩ W p W) (k:∀p,A p→LW P n ops Q rest (oT E d p) W) (g:(ops[j]?).bind (·.dst)=some t:=by exact rfl) (a:E t= .bool b:=by exact rfl) (s:t < n:=by decide) (i:d < n:=by decide) :
  LW P n ops Q (⟨some d,ins,ty,pos,af,some (j,want)⟩::rest) E W:=VgQ g (by rw [a,h]) q k s i
section
variable {dd:Bool} {F:Nat→Prop} {w:World} {μ:mO} {L:LO} {T:TypeId} {a off:Nat} {cs:Array Value} {fr:Nat×Nat}
theorem VA {t:TypeId} (g:ST dd F w W μ L) (j:(a,Obj.cells cs T fr)∈L) (ys:List Value) (i:∀w,(isAgg t).run P w= .ok true w) (k:∀w,(sizeOf t).run P w= .ok ys.length w) (h:LW P n ops Q rest (oT E d (.agg ys.toArray)) W) (s:lF E x= .pointer (some ⟨a,off,none⟩):=by exact rfl) (u:(cs.toList.drop off).take ys.length=ys:=by exact rfl) (q:d < n:=by decide):LW P n ops Q (⟨some d,.load t x,ty,pos,af,none⟩::rest) E W:=V (lq s (lC g.has j ys u i k)) h q
theorem VB {t:TypeId} (g:ST dd F w W μ L) (j:(a,Obj.cells cs T fr)∈L) (q:lF E x= .pointer (some ⟨a,off,none⟩)) (s:cs[off]? =some v) (i:∀w,(isAgg t).run P w= .ok false w) (h:LW P n ops Q rest (oT E d v) W) (k:d < n:=by decide):LW P n ops Q (⟨some d,.load t x,ty,pos,af,none⟩::rest) E W:=V (lq q (lA g.has j s i)) h k
end
section
variable {K:nn→World→Prop} {Q':rc} {c:Code} {id id2:Nat} {l:List Oper} {z:Code}
theorem sg (h:LW P n l.toArray (uL (λE W=>CW P n c Q E W) Q) l E W):CW P n (.seq (.region id l.toArray false) c) Q E W:=lH (lI h)
theorem ln (h:K E W):LW P n ops (uL K Q) [] E W:=mh (lE h)
theorem lr (h:LW P n l.toArray (uL (λE W=>CW P n c Q E W) Q) l E W):LW P n ops (uL (λE W=>CW P n (.seq (.region id l.toArray false) c) Q E W) Q') [] E W:=mh (lE (lH (lI h)))
theorem lS (h:LW P n l.toArray (uL (λE W=>CW P n c (uL (λE W=>CW P n z Q E W) Q) E W) (uL (λE W=>CW P n z Q E W) Q)) l E W):LW P n ops (uL (λE W=>CW P n (.seq (.seq (.region id l.toArray false) c) z) Q E W) Q') [] E W:=mh (lE (lH (lH (lI h))))
theorem bg (h:LW P n l.toArray (uL (λE W=>CW P n c (yT id2 Q) E W) (yT id2 Q)) l E W):CW P n (.block id2 (.seq (.region id l.toArray false) c)) Q E W:=nO (lH (lI h))
theorem kg (h:LW P n l.toArray (uL (λE W=>CW P n c Q E W) Q) l E W):CW P n .skip (uL (λE W=>CW P n (.seq (.region id l.toArray false) c) Q E W) Q') E W:=mU (lE (lH (lI h)))
theorem kS (h:LW P n l.toArray (uL (λE W=>CW P n c (uL (λE W=>CW P n z Q E W) Q) E W) (uL (λE W=>CW P n z Q E W) Q)) l E W):CW P n .skip (uL (λE W=>CW P n (.seq (.seq (.region id l.toArray false) c) z) Q E W) Q') E W:=mU (lE (lH (lH (lI h))))
theorem lt (h:Q .ret E W):LW P n ops (uL (λE W=>CW P n .ret Q E W) Q') [] E W:=mh (lE (lO h))
theorem kn (h:K E W):CW P n .skip (uL K Q) E W:=mU (lE h)
end
end
theorem ST.acg {α:Type} {dd:Bool} {F:Nat→Prop} {w W:World} {μ:mO} {R Y:LO} {e':TypeId} {enc:α→List Value} {k:Nat} {v:Value} {l:List α} (g:ST dd F w W μ (R++Y)) (h:uW e' enc k v l R) (hk:∀x,(enc x).length=k):∃μ',ST dd F w W μ' Y∧lM μ μ'∧Lo F w μ μ'∧Sl (Pl enc) k μ' v l:=by
 obtain ⟨μ',i,a2,a3,a4⟩:=ST.zH g
 refine ⟨μ',i,a2,a3,(h.G6 hk).mono (Pl.mono _) λb o a=>?_⟩
 unfold Fa at a
 cases d:List.find? (λp=>p.1==b) R with
 | none=>rw [d] at a; cases a
 | some q=>
  rw [d] at a
  have h1:=fD d
  have j:=iV d
  obtain rfl:q.2=o:=by simpa using a
  obtain rfl:q.1=b:=by simpa using j
  exact a4 _ _ h1
theorem uW.Wb {α:Type} {dd:Bool} {w W:World} {μ:mO} {L R:LO} {e:TypeId} {enc:α→List Value} {k:Nat} {v:Value} {l:List α} (h:uW e enc k v l R) (d:ST dd nf w W μ L) (j:∀p,p∈R→p∈L):Fr w.heap.size v:=by
 rcases h with ⟨rfl,rfl,rfl⟩ | ⟨g,off,cap,a,rfl,rfl,h1,q,s,t⟩
 ·exact Fr.nil _
 ·intro b i
  simp [Value.ownBlock] at i
  subst i
  rcases (d.box g (.cells a e (0,0)) (j _ (aV.2 Z))).2.2 with h | h
  ·exact h
  ·exact h.elim
theorem PV.mono {α β:Type} {P:Program} {fv:Value} {μ μ0:mO} {a:α→List Value} {d:β→Value} {pm:α→Option β} (h:PV P fv μ a d pm) (j:lM μ μ0):PV P fv μ0 a d pm:=by
 obtain ⟨f,caps,h1,g,i⟩:=h
 exact ⟨f,caps,h1,g,λW x r h=>i W x r (j.trans h)⟩
theorem PV.form {α β:Type} {P:Program} {fv:Value} {μ:mO} {d:α→List Value} {g:β→Value} {pm:α→Option β} (h:PV P fv μ d g pm):∃f a b,fv= .func f a b:=let ⟨f,b,h,_⟩:=h; ⟨_,_,b,h⟩
def El {S:Type} (rd:S→List Int):Int ⊕ S→Int
 | .inl x=>x
 | .inr r=>if (rd r).length > 0 then 13 else 0
def Vo {α β:Type} (o:Option α) (a:Option β) (f:α→Option β):Option β:=match o with
 | none=>a
 | some x=>f x
theorem aaU {α β:Type} {o:Option α} {a r:Option β} {f:α→Option β} (h:Vo o a f=r):(o=none∧a=r)∨∃x,o=some x∧f x=r:=by
 cases o with
 | none=>exact .inl ⟨Z,h⟩
 | some x=>exact .inr ⟨x,Z,h⟩
def Ps {T S:Type}:(Int×T) ⊕ S→Int ⊕ S
 | .inl x=>.inl x.1
 | .inr r=>.inr r
theorem nM {P:Program} {n:Nat} {Q:rc} {E:nn} {W:World} {d k r2 r6 q ts:Nat} {t1 t2 t3 t4 t5 t6 t7:TypeId} {p1 p2 p3:String} {f1 f2 f3:Array Edge} {body:Code} {α:Type} {l:List α} (ti a:Nat) (J:Nat→List α→nn→World→Prop) (Y:l.length≤9223372036854775807) (U:J 0 l E W) (round:∀i x I E W,l[i]? =some x→(E ti= .int .i64 (i:Nat)∧E a= .int .i64 (l.length:Nat))∧J i (x::I) E W→
   CW P n body (yT k (uL (λE' W'=>E' ti= .int .i64 (i:Nat)∧E' a= .int .i64 (l.length:Nat)∧J (i+1) I (oT (oT E' ts (.int .i64 ((i+1:Nat):Int))) ti (.int .i64 ((i+1:Nat):Int))) W') (yT d Q))) (oT E q (.bool true)) W) (done:∀E W,(E ti= .int .i64 (l.length:Nat)∧E a= .int .i64 (l.length:Nat))∧J l.length [] E W→Q .normal (oT E q (.bool false)) W) (hi:E ti= .int .i64 (0:Nat):=by rfl) (he:E a= .int .i64 (l.length:Nat):=by rfl) (hc:q < n:=by decide) (hs:ts < n:=by decide) (v:ti < n:=by decide) (h1:Nat.beq a ts=false:=by exact rfl) (z:Nat.beq a ti=false:=by exact rfl) :
  CW P n (.block d (.loop (.seq (.region r2 #[⟨some q,.binOp .lss t1 (.tmp ti) (.tmp a) t2,t3,p1,f1,none⟩] false)
   (.seq (.cond (.tmp q) .skip (.exit d)) (.seq (.block k body)
    (.region r6 #[⟨some ts,.binOp .add t4 (.tmp ti) (.const (.int .i64 1)) t5,t6,p2,f2,none⟩,⟨some ti,.move (.tmp ts),t7,p3,f3,none⟩] false)))))) Q E W:=by
 refine Yh (λi E W=>(E ti= .int .i64 (i:Nat)∧E a= .int .i64 (l.length:Nat))∧J i (l.drop i) E W) l.length Y ⟨⟨hi,he⟩,U⟩ hc hs v (λ_ _ _ h=>h.1) ?_ ?_
 ·rintro i E W u ⟨s,g⟩
  obtain ⟨x,xs,hd,hx,y⟩:=Wu u
  rw [hd] at g
  have M:a≠ts:=λe=>by subst e; rw [Nat.beq_refl] at h1; cases h1
  have O:a≠ti:=λe=>by subst e; rw [Nat.beq_refl] at z; cases z
  have key:∀E' W',(E' ti= .int .i64 (i:Nat)∧E' a= .int .i64 (l.length:Nat)∧J (i+1) xs (oT (oT E' ts (.int .i64 ((i+1:Nat):Int))) ti (.int .i64 ((i+1:Nat):Int))) W')→
    (E' ti= .int .i64 (i:Nat)∧((oT (oT E' ts (.int .i64 ((i+1:Nat):Int))) ti (.int .i64 ((i+1:Nat):Int)) ti= .int .i64 ((i+1:Nat):Int)∧oT (oT E' ts (.int .i64 ((i+1:Nat):Int))) ti (.int .i64 ((i+1:Nat):Int)) a= .int .i64 (l.length:Nat))∧J (i+1) (l.drop (i+1)) (oT (oT E' ts (.int .i64 ((i+1:Nat):Int))) ti (.int .i64 ((i+1:Nat):Int))) W')):=λE' W' ⟨q1,q2,q3⟩=>by
   refine ⟨q1,⟨by simp [oT],by simp [oT,M,O,q2]⟩,?_⟩
   rw [y]; exact q3
  refine nO (Lt (round i x xs E W hx ⟨s,g⟩) λe E' W' h=>?_)
  cases e with
  | normal=>exact key E' W' h
  | exit j=>
   unfold yT at h ⊢
   simp only at h ⊢
   split at h
   ·rename_i t; rw [aO t]; exact key E' W' h
   ·rename_i t; rw [aH t]; exact h
  | _=>exact h
 ·rintro E W ⟨s,g⟩
  rw [List.drop_length] at g
  exact done E W ⟨s,g⟩
end Go.Proofs.YtojmckcglalbnaaGreat
namespace Go.Proofs.YtojmckcglalbnaaGreat
open Go.IntKind renaming wrap → wi0
open Go.RowKit
theorem abV {P:Program} {o:Oper} {a:Act} {w:World} {K:Act→World→Prop} {Q:rc} {n:Nat} (h:o.wp P a w K (lift n Q)):o.wpIn FL.F 0 P a w K (lift n Q):=by
 refine ⟨λ_ _=>trivial,?_⟩
 rw [show Oper.semAt FL.F.round a.eval o=execOp a.eval o from rfl]
 unfold Oper.wp at h
 cases i:(execOp a.eval o).run P w with
 | ok x g=>
  rw [i] at h
  cases x with
  | value v=>exact h
  | skip=>exact h
  | defer d=>exact h
  | enter f args=>exact LF (dl h λe j he=>by cases e with
   | returned v=>exact he
   | panicked c=>exact he
   | outgrown=>exact he)
  | row r args=>exact ⟨λe=>(nomatch (show (none:Option Nat).isSome=true from e)),λc cs _=>by
    obtain ⟨v,g,r,s⟩:=h c cs
    exact ⟨v,g,r,(stepsIn_wide (P:=P)).2 s⟩⟩
  | _=>exact h.elim
 | halt z g=>
  rw [i] at h
  cases z with
  | panic v=>exact h
  | _=>exact h.elim
def U3 (P:Program) (fn:Func) (R:Ending→World→Prop):rc
 | .normal,E,W | .ret,E,W=>∃v,(∀tmps:Array Value,(∀t,tmps.getD t undef=E t)→(results fn tmps).run P W= .ok v W)∧R (.returned v) W
 | .panic c,_,W=>R (.panicked c) W
 | _,_,_=>False
theorem xX {P:Program} {fn:Func} {R:Ending→World→Prop} {E:nn} {W:World} (h:A2 P fn R .ret E W):U3 P fn R .ret E W:=h
theorem uv {P:Program} {f:FuncId} {fn:Func} {c:Code} {args:List Value} {w:World} {R:Ending→World→Prop} {n:Nat} (u:P.funcs[f]? =some fn) (s:fn.body=some c) (x:fn.ntmps=n) (ha:args.length≤n) (h:CW P n c (U3 P fn R) (Cy args) w):Calls P f args.toArray w R:=by
 refine calls_of_wp u s ?_
 have j:Ag n { tmps:=args.toArray++Array.replicate (fn.ntmps-args.toArray.size) undef,defers:=[] } (Cy args):=by
  refine ⟨ss,Z,λt=>?_⟩
  simp only [Cy,dw,gB,gv,gP,dG,fA]
  by_cases q:t < args.length
  ·rw [aO q]
  ·rw [aH q,eW rs]
   split <;> simp
 refine jO ((kX (n:=0)).1 (h _ j)) (λe a y g=>?_)
 cases e with
 | normal=>
  obtain ⟨E,d,v,k,i⟩:=g
  exact ⟨d.2.1,v,k _ d.2.2,i⟩
 | ret=>
  obtain ⟨E,d,v,k,i⟩:=g
  exact ⟨d.2.1,v,k _ d.2.2,i⟩
 | exit id=>obtain ⟨E,d,h⟩:=g; exact h.elim
 | goto l=>obtain ⟨E,d,h⟩:=g; exact h.elim
 | panic c=>exact g
 | outgrown=>exact g.elim
def QX (P:Program) (E:nn) (o:Oper) (W:World) (X:List PanicEntry→World→Prop):Prop :=
 (∃v W',(execOp (lF E) o).run P W= .halt (.panic v) W'∧X [{ v:=v,recovered:=false }] W')∨
 (∃f args,(execOp (lF E) o).run P W= .ok (.enter f args) W∧Calls P f args W λe a=>∃c,e= .panicked c∧X c a)
theorem QX.wp {P:Program} {n:Nat} {E:nn} {o:Oper} {W:World} {X:List PanicEntry→World→Prop} (h:QX P E o W X) {a:Act} (ha:Ag n a E) {K:Exit→Act→World→Prop} {J:Act→World→Prop} (hk:∀c w,X c w→K (.panic c) a w):o.wp P a W J K:=by
 unfold Oper.wp
 rw [ha.eval]
 rcases h with ⟨v,W',h1,d⟩ | ⟨f,args,h1,d⟩
 ·rw [h1]; exact hk _ _ d
 ·rw [h1,fF]
  refine dl d ?_
  rintro e i ⟨c,rfl,g⟩
  exact hk _ _ g
section
variable {P:Program} {n:Nat} {Q:rc} {E:nn} {W:World} {ops:Array Oper} {rest:List Oper} {S:Array Bool→World→Prop} {fuel:Nat} {listed:Array Bool}
theorem tG {o:Oper} (hw:lL n ops E o) (h:QX P E o W λc w=>Q (.panic c) E0 w):LW P n ops Q (o::rest) E W:=λa ha=>by
 unfold wpListIn
 rw [aO (hw.of ha)]
 exact abV (h.wp ha λc w d=>⟨ha.2.1,d⟩)
theorem aa0 {o:Oper} (i:Nat) (q:ops[i]? =some o) (d:Region.ready .any ops listed=[i]) (hw:lL n ops E o) (h:QX P E o W λc w=>Q (.panic c) E0 w):PX P n ops Q S (fuel+1) listed E W:=λt a ha=>by
 refine ⟨λk=>(by rw [k] at d; cases d),λj g=>?_⟩
 rw [d] at g
 obtain rfl:=aV.1 g
 unfold wpOp
 simp only [q]
 rw [aO (hw.of ha)]
 refine .inl ?_
 exact h.wp ha (λc w s=>⟨ha.2.1,s⟩)
end
def og {R:Type} (dd:Bool) (w:World) (μ0:mO) (L0:LO) (s:Int ⊕ R) (K:R→Value→LO→mO→Prop) (X:Int→List PanicEntry→LO→mO→Prop):Ending→World→Prop:=λe a=>
 match s with
 | .inl x=>∃c L1 μ1,e= .panicked c∧wP dd L0 L1 w a∧lM μ0 μ1∧Lo (keys L0) w μ0 μ1∧lM μ1 (wZ a L1)∧X x c L1 μ1
 | .inr r=>∃v L1 μ1,e= .returned v∧wP dd L0 L1 w a∧lM μ0 μ1∧Lo (keys L0) w μ0 μ1∧lM μ1 (wZ a L1)∧K r v L1 μ1
def zO (dd:Bool) (P:Program) (f:FuncId) (args:List Value) (w:World) (μ0:mO) (L0:LO) (X:List PanicEntry→LO→mO→Prop):Prop :=
 Calls P f args.toArray w λe a=>∃c L1 μ1,e= .panicked c∧wP dd L0 L1 w a∧lM μ0 μ1∧Lo (keys L0) w μ0 μ1∧lM μ1 (wZ a L1)∧X c L1 μ1
def mS {R:Type} (dd:Bool) (P:Program) (f:FuncId) (args:List Value) (w:World) (μ0:mO) (L0:LO) (s:Int ⊕ R) (K:R→Value→LO→mO→Prop) (X:Int→List PanicEntry→LO→mO→Prop):Prop :=
 Calls P f args.toArray w (og dd w μ0 L0 s K X)
theorem mS.r {R:Type} {dd:Bool} {P:Program} {f:FuncId} {args:List Value} {w:World} {μ0:mO} {L0:LO} {r:R} {K:R→Value→LO→mO→Prop} {X:Int→List PanicEntry→LO→mO→Prop} (h:mS dd P f args w μ0 L0 (.inr r) K X):my dd P f args w μ0 L0 (K r):=h
theorem mS.l {R:Type} {dd:Bool} {P:Program} {f:FuncId} {args:List Value} {w:World} {μ0:mO} {L0:LO} {x:Int} {K:R→Value→LO→mO→Prop} {X:Int→List PanicEntry→LO→mO→Prop} (h:mS dd P f args w μ0 L0 (.inl x:Int ⊕ R) K X):zO dd P f args w μ0 L0 (X x):=h
theorem oA {K:nn→World→Prop} {Q:rc} {c:List PanicEntry} {E:nn} {W:World} (h:Q (.panic c) E W):uL K Q (.panic c) E W:=h
theorem xI {id:Nat} {Q:rc} {c:List PanicEntry} {E:nn} {W:World} (h:Q (.panic c) E W):yT id Q (.panic c) E W:=h
theorem pN {P:Program} {fn:Func} {R:Ending→World→Prop} {c:List PanicEntry} {E:nn} {W:World} (h:R (.panicked c) W):U3 P fn R (.panic c) E W:=h
section
variable {P:Program} {W:World} {E:nn} {d:Option Nat} {ty:TypeId} {pos:String} {af:Array Edge} {g:tX} {F:Nat→Prop} {w:World} {μ:mO} {L:LO} {dd:Bool}
theorem pe {X:List PanicEntry→World→Prop} {X':List PanicEntry→LO→mO→Prop} {f:FuncId} {fv:Operand} {ax:Array Operand} {ats:Array TypeId} {caps:Array Value} {args:List Value} (L0 L2:LO) (a:ST dd F w W μ L) (i:L.Perm (L0++L2)) (J:lF E fv= .func (.func f) #[] caps) (he:∀args w,(callFunc f args).run P w= .ok (.enter f args) w) (ha:ax.map (lF E)++(#[]:Array Value)=args.toArray) (I:JB L0 W→(L0.map (·.1)).Nodup→lM μ (wZ W L0)→(∀b o,(b,o)∈L2→wZ W L0 b=some o)→zO dd P f (args++caps.toList) W μ L0 X') (h:∀W' c μ' L1,ST dd F w W' μ' (L1++L2)→lM μ μ'→Lo F w μ μ'→X' c L1 μ'→X c W'):QX P E ⟨d,.call ⟨.value fv,ax,ats⟩,ty,pos,af,g⟩ W X:=by
 have j:ax.map (lF E)=args.toArray:=by simpa using ha
 refine .inr ⟨f,(args++caps.toList).toArray,PM J he (by rw [j]; simp),dl (I (a.held i) (a.Ym i) (a.YL i) (a.Pd i)) (λ_ W' ⟨v,L1,μ1,h1,s,t,k,u,x⟩=>⟨v,h1,h W' v μ1 L1 ((a.perm i).Y6 s k u) t (λb z y=>k b (ee z a.size) (λ⟨o,M⟩=>by
  rcases ((a.perm i).box b o (bY _ M)).2.2 with q | q
  ·omega
  ·exact y q)) x⟩)⟩
end
section
variable {P:Program} {W:World} {E:nn} {d:Option Nat} {ty:TypeId} {pos:String} {af:Array Edge} {g:tX}
def Ar (t:TypeId) (b:Nat) (x:Int):Value:=.iface t (.agg #[.pointer (some ⟨b,0,none⟩),.int .i64 x])
theorem Z5 {t:TypeId} {x:Operand} {v:Value} {u:TypeDesc} (a:P.underlying t=some u) (hu:∀q,u≠.interface q) (h:lF E x=v):nE P E ⟨d,.makeInterface t x,ty,pos,af,g⟩ W (.iface t v) W:=by
 show (do let r ←Instr.makeInterface t (lF E x); pure (.value r):Sem Next).run P W=_
 rw [h]
 unfold Instr.makeInterface
 simp only [cD,aS a,bN]
 cases u <;> simp_all
theorem ZJ {X:List PanicEntry→World→Prop} {x:Operand} {t:TypeId} {v:Value} (a:lF E x= .iface t v) (h:X [{ v:=.iface t v,recovered:=false }] W):QX P E ⟨d,.panic x,ty,pos,af,g⟩ W X:=by
 refine .inl ⟨.iface t v,W,?_,h⟩
 show (do let r ←Instr.panic (lF E x); pure (.value r):Sem Next).run P W=_
 rw [a]
 simp [Instr.panic]
end
theorem og.li {R:Type} {dd:Bool} {w:World} {μ0:mO} {L0:LO} {x:Int} {K:R→Value→LO→mO→Prop} {X:Int→List PanicEntry→LO→mO→Prop} {e:Ending} {a:World} (h:∃c L1 μ1,e= .panicked c∧wP dd L0 L1 w a∧lM μ0 μ1∧Lo (keys L0) w μ0 μ1∧lM μ1 (wZ a L1)∧X x c L1 μ1):og dd w μ0 L0 (.inl x:Int ⊕ R) K X e a:=h
theorem og.ri {R:Type} {dd:Bool} {w:World} {μ0:mO} {L0:LO} {r:R} {K:R→Value→LO→mO→Prop} {X:Int→List PanicEntry→LO→mO→Prop} {e:Ending} {a:World} (h:∃v L1 μ1,e= .returned v∧wP dd L0 L1 w a∧lM μ0 μ1∧Lo (keys L0) w μ0 μ1∧lM μ1 (wZ a L1)∧K r v L1 μ1):og dd w μ0 L0 (.inr r:Int ⊕ R) K X e a:=h
theorem LR {P:Program} {fn:Func} {R:Ending→World→Prop} {E:nn} {W:World} (h:A2 P fn R .normal E W):U3 P fn R .normal E W:=h
theorem zO.mN {dd:Bool} {P:Program} {f:FuncId} {args:List Value} {w:World} {μ0:mO} {L0:LO} {X:List PanicEntry→LO→mO→Prop} (h:zO true P f args w μ0 L0 X):zO dd P f args w μ0 L0 X :=
 dl h λ_ _ ⟨v,L1,μ1,h1,a,d⟩=>⟨v,L1,μ1,h1,a.mN,d⟩
def HX (D:List Deferred) (n:Nat) (a:Act) (E:nn):Prop:=a.tmps.size=n∧a.defers=D∧∀t,a.tmps.getD t undef=E t
section
variable {D:List Deferred} {n:Nat} {a:Act} {E:nn}
theorem HX.eval (h:HX D n a E):a.eval=lF E:=by
 funext x
 cases x with
 | tmp t=>exact h.2.2 t
 | const v=>rfl
 | global g=>rfl
 | func f=>rfl
theorem HX.put (h:HX D n a E) {d:Nat} (hd:d < n) (v:Value):HX D n (a.put (some d) v) (oT E d v):=by
 refine ⟨by simp [Act.put,h.1],h.2.1,λt=>?_⟩
 have i:=h.2.2 t
 simp only [Act.put,oT]
 by_cases g:t=d
 ·subst g
  simp [h.1,hd]
 ·have:¬d=t:=λe=>g e.symm
  rw [aH g,←i]
  simp [dw,this]
theorem HX.Al (h:HX D n a E) (v:Value):HX D n (a.put none v) E:=h
theorem HX.yield (h:HX D n a E) {ops:Array Oper} {j t:Nat} {b:Bool} (g:(ops[j]?).bind (·.dst)=some t) (k:t < n) (q:E t= .bool b):yielded ops a.tmps j=some b:=by
 have d:=h.2.2 t
 have i:a.tmps[t]? =some (E t):=by
  rw [←d]
  simp [dw,h.1,k]
 simp [yielded,g,i,q]
end
def VJ (D:List Deferred) (n:Nat) (Q:rc):Exit→Act→World→Prop
 | .panic c,a,w=>a.defers=D∧a.tmps.size=n∧Q (.panic c) (λt=>a.tmps.getD t undef) w
 | .outgrown,_,_=>False
 | e,a,w=>∃E,HX D n a E∧Q e E w
def JZ (D:List Deferred) (P:Program) (n:Nat) (c:Code) (Q:rc) (E:nn) (W:World):Prop:=∀a,HX D n a E→c.wp P (VJ D n Q) a W
def G3 (D:List Deferred) (P:Program) (n:Nat) (ops:Array Oper) (Q:rc) (l:List Oper) (E:nn) (W:World):Prop:=∀a,HX D n a E→wpList P ops (VJ D n Q) l a W
section
variable {D:List Deferred} {P:Program} {n:Nat} {Q:rc} {E:nn} {W:World} {c x y:Code} {ops:Array Oper} {rest:List Oper} {o:Oper}
theorem GG (h:JZ D P n x (uL (λE W=>JZ D P n y Q E W) Q) E W):JZ D P n (.seq x y) Q E W:=λa ha=>
 wp_seq (jO (h a ha) (λe g j h=>by
  cases e with
  | normal=>obtain ⟨E',d,i⟩:=h; exact i g d
  | _=>exact h))
theorem Yu (h:Q .normal E W):JZ D P n .skip Q E W:=λ_ ha=>wp_skip ⟨E,ha,h⟩
theorem Ud (h:Q .ret E W):JZ D P n .ret Q E W:=λ_ ha=>wp_ret ⟨E,ha,h⟩
theorem XW {co:Operand} {b:Bool} (d:lF E co= .bool b) (i:b=true→JZ D P n x Q E W) (g:b=false→JZ D P n y Q E W):JZ D P n (.cond co x y) Q E W:=λa ha=>by
 refine wp_cond_split (t:=b) (by rw [ha.eval]; exact d) (λh=>i h a ha) (λh=>g h a ha)
theorem SE {co:Operand} (a:lF E co= .bool true) (h:JZ D P n x Q E W):JZ D P n (.cond co x y) Q E W:=XW a (λ_=>h) (λh=>by cases h)
theorem EU {id:Nat} {l:List Oper} (h:G3 D P n l.toArray Q l E W):JZ D P n (.region id l.toArray false) Q E W:=λa ha=>wp_region_lit (h a ha)
theorem IA (h:Q .normal E W):G3 D P n ops Q [] E W:=λ_ ha=>wpList_nil ⟨E,ha,h⟩
theorem lL.RO {a:Act} (h:lL n ops E o) (ha:HX D n a E):Region.wanted o (yielded ops a.tmps)=true:=by
 rcases h with h | ⟨j,want,t,g,i,k,d⟩
 ·simp [Region.wanted,h]
 ·simp [Region.wanted,g,ha.yield i k d]
theorem Ts {d:Nat} {v:Value} {W':World} (hw:lL n ops E o) (hd:o.dst=some d) (g:d < n) (i:(execOp (lF E) o).run P W= .ok (.value v) W') (h:G3 D P n ops Q rest (oT E d v) W'):G3 D P n ops Q (o::rest) E W:=λa ha=>by
 unfold wpList
 rw [aO (hw.RO ha)]
 refine .inl ?_
 unfold Oper.wp
 rw [ha.eval,i,fE,hd]
 exact h _ (ha.put g v)
theorem Wk {W':World} (hw:lL n ops E o) (hd:o.dst=none) (d:(execOp (lF E) o).run P W= .ok .skip W') (h:G3 D P n ops Q rest E W'):G3 D P n ops Q (o::rest) E W:=λa ha=>by
 unfold wpList
 rw [aO (hw.RO ha)]
 refine .inl ?_
 unfold Oper.wp
 rw [ha.eval,d,ib,hd]
 exact h _ (ha.Al _)
theorem Wp {f:FuncId} {args:Array Value} {d:Nat} (hw:lL n ops E o) (hd:o.dst=some d) (j:d < n) (k:(execOp (lF E) o).run P W= .ok (.enter f args) W) (h:Calls P f args W λe g=>∃v,e= .returned v∧G3 D P n ops Q rest (oT E d v) g):G3 D P n ops Q (o::rest) E W:=λa ha=>by
 unfold wpList
 rw [aO (hw.RO ha)]
 refine .inl ?_
 unfold Oper.wp
 rw [ha.eval,k,fF]
 refine h.mono ?_
 rintro e g ⟨v,rfl,i⟩
 simp only [hd]
 exact i _ (ha.put j v)
theorem acW {o:Oper} {dd:Nat} (hw:lL n ops E o) (hd:o.dst=some dd) (g:dd < n) (h:py P E o W λv W'=>G3 D P n ops Q rest (oT E dd v) W'):G3 D P n ops Q (o::rest) E W:=by
 rcases h with ⟨v,W',h1,d⟩ | ⟨W',h1,d⟩ | ⟨f,args,h1,d⟩
 ·exact Ts hw hd g h1 d
 ·intro a ha
  unfold wpList
  rw [aO (hw.RO ha)]
  refine .inl ?_
  unfold Oper.wp
  rw [ha.eval,h1,ib,hd]
  exact d _ (ha.put g _)
 ·exact Wp hw hd g h1 d
theorem XD {o:Oper} (hw:lL n ops E o) (hd:o.dst=none) (h:py P E o W λ_ W'=>G3 D P n ops Q rest E W'):G3 D P n ops Q (o::rest) E W:=by
 rcases h with ⟨v,W',h1,d⟩ | ⟨W',h1,d⟩ | ⟨f,args,h1,d⟩
 ·intro a ha
  unfold wpList
  rw [aO (hw.RO ha)]
  refine .inl ?_
  unfold Oper.wp
  rw [ha.eval,h1,fE,hd]
  exact d _ (ha.Al _)
 ·exact Wk hw hd h1 d
 ·intro a ha
  unfold wpList
  rw [aO (hw.RO ha)]
  refine .inl ?_
  unfold Oper.wp
  rw [ha.eval,h1,fF]
  refine dl d ?_
  rintro e i ⟨v,rfl,g⟩
  simp only [hd]
  exact g _ (ha.Al _)
theorem Fx {dd:Nat} {v:Value} (hw:lL n ops E o) (hd:o.dst=some dd) (a:dd < n) (d:nE P E o W v W) (h:G3 D P n ops Q rest (oT E dd v) W):G3 D P n ops Q (o::rest) E W:=Ts hw hd a d h
theorem acN (hw:lL n ops E o) (h:QX P E o W λc w=>∀E',(∀t,E' t=E t)→Q (.panic c) E' w):G3 D P n ops Q (o::rest) E W:=λa ha=>by
 unfold wpList
 rw [aO (hw.RO ha)]
 refine .inl ?_
 unfold Oper.wp
 rw [ha.eval]
 rcases h with ⟨v,W',h1,d⟩ | ⟨f,args,h1,d⟩
 ·rw [h1]; exact ⟨ha.2.1,ha.1,d _ ha.2.2⟩
 ·rw [h1,fF]
  refine dl d ?_
  rintro e i ⟨c,rfl,g⟩
  exact ⟨ha.2.1,ha.1,g _ ha.2.2⟩
end
section
variable {P:Program} {n:Nat} {E:nn} {W:World} {c y:Code} {a:Act} {cs:List Frame} {Q:Exit→Act→List Frame→World→Prop}
theorem ab0 (h:CW P n c (λe E W=>e= .normal∧∀a,Ag n a E→y.wpS P Q a cs W) E W) (ha:Ag n a E):(Code.seq c y).wpS P Q a cs W :=
 wpS_seq (wpS_of_wp (jO ((kX (n:=0)).1 (h a ha)) (λe g j h=>by
  cases e with
  | normal=>obtain ⟨E',d,_,i⟩:=h; exact i g d
  | panic c=>exact absurd h.2.1 rv
  | outgrown=>exact h.elim
  | _=>obtain ⟨E',d,h1,_⟩:=h; cases h1)))
theorem TH {fn:Func} {g:Frame} {j:List Frame} {R:Ending→FrameMode→World→Prop} {u:FrameMode} (k:fn.results=#[]) (h:CW P n c (λe E W=>(e= .normal∨e= .ret)∧R (.returned (.tuple #[])) u W) E W) (ha:Ag n a E):c.wpS P (bodyPostS P fn g j R) a ({ g with mode:=u }::j) W :=
 wpS_of_wp (jO ((kX (n:=0)).1 (h a ha)) (λe q s h=>by
  cases e with
  | normal=>obtain ⟨E',d,_,i⟩:=h; exact ⟨d.2.1,u,Z,.tuple #[],results_none k _ _ _,i⟩
  | ret=>obtain ⟨E',d,_,i⟩:=h; exact ⟨d.2.1,u,Z,.tuple #[],results_none k _ _ _,i⟩
  | panic c=>rcases h.2.1 with h | h <;> cases h
  | outgrown=>exact h.elim
  | _=>obtain ⟨E',d,h1,_⟩:=h; rcases h1 with h | h <;> cases h))
theorem Mq {id d d2:Nat} {g i:Oper} {cs':List Frame} {v:Value} (t:d < n) (s:d2 < n) (h1:g.guard=none) (u:i.guard=none) (k:g.dst=some d) (q:i.dst=some d2) (y:∀a:Act,(execOp a.eval g).run P W= .ok .recover W) (hm:∀E:Nat→Value,E d=v→nE P E i W v W) (j:recoverD cs=some (v,cs')∨recoverD cs=none∧v= .nilIface∧cs'=cs) (ha:Ag n a E) (h:∀a,Ag n a (oT (oT E d v) d2 v)→Q .normal a cs' W):(Code.region id #[g,i] false).wpS P Q a cs W:=by
 refine wpS_region ?_
 have x:List.range (#[g,i]:Array Oper).size=[0,1]:=rfl
 rw [x]
 have key:∀a:Act,Ag n a (oT E d v)→wpOpsS P #[g,i] Q [1] a cs' W:=λa ha=>by
  unfold wpOpsS
  simp only [show (#[g,i]:Array Oper)[1]? =some i from rfl]
  rw [aO (by simp [Region.wanted,u])]
  have:=hm (oT E d v) (by simp [oT])
  unfold nE at this
  rw [ha.eval,this]
  simp only [fE,q]
  unfold wpOpsS
  exact h _ (ha.put s v)
 unfold wpOpsS
 simp only [show (#[g,i]:Array Oper)[0]? =some g from rfl]
 rw [aO (by simp [Region.wanted,h1]),y]
 simp only
 rcases j with j | ⟨j,rfl,rfl⟩
 ·rw [j]
  simp only [k]
  exact key _ (ha.put t v)
 ·rw [j]
  simp only [k]
  exact key _ (ha.put t _)
theorem RG {args:List Value} {fn:Func} {n:Nat} (d:fn.ntmps=n) (h:args.length≤n):Ag n { tmps:=args.toArray++Array.replicate (fn.ntmps-args.toArray.size) undef,defers:=[] } (Cy args):=by
 refine ⟨ss,Z,λt=>?_⟩
 simp only [Cy,dw,gB,gv,gP,dG,fA]
 by_cases a:t < args.length
 ·rw [aO a]
 ·rw [aH a,eW rs]
  split <;> simp
end
section
variable {P:Program} {E:nn} {W:World} {d:Option Nat} {x y:Operand} {tx tv ty:TypeId} {pos:String} {af:Array Edge} {g:tX} {ms:List (String×TypeId)}
theorem OZ {t tx:TypeId} {q} {v:Value} (dd:Nat) (a:P.underlying tx=some (.interface q)) (W:World):(Op.equalIn (dd+1) tx (.iface t v) .nilIface).run P W= .ok false W:=by
 simp [Op.equalIn,aS a]
theorem Oc {tx:TypeId} {q} (dd:Nat) (a:P.underlying tx=some (.interface q)) (W:World):(Op.equalIn (dd+1) tx .nilIface .nilIface).run P W= .ok true W:=by
 simp [Op.equalIn,aS a]
theorem MV {tx e:TypeId} {k:Nat} {p:Addr} (dd:Nat) (d:P.underlying tx=some (.pointer e)) (a:∀w,(sizeOf e).run P w= .ok (k+1) w) (W:World):(Op.equalIn (dd+1) tx (.pointer (some p)) (.pointer (some p))).run P W= .ok true W:=by
 simp [Op.equalIn,aS d,a W,run_sameAddr_same]
theorem aaI {q} {t:TypeId} {v:Value} (h:P.underlying tx=some (.interface q)) (i:lF E x= .iface t v) (j:lF E y= .nilIface):nE P E ⟨d,.binOp .eql tx x y tv,ty,pos,af,g⟩ W (.bool false) W:=by
 show (do let r ←(do eqGuard .eql tx x y (lF E x) (lF E y); binOp .eql tx (lF E x) (lF E y)); pure (.value r):Sem Next).run P W=_
 rw [i,j]
 have a:=OZ (t:=t) (v:=v) 9999 h W
 simp [eqGuard,binOp,Op.equal,Op.maxDepth,a]
theorem aai {q} {v:Value} (h:P.underlying tx=some (.interface q)) (i:lF E x= .nilIface) (j:lF E (.const v)= .nilIface):nE P E ⟨d,.binOp .eql tx x (.const v) tv,ty,pos,af,g⟩ W (.bool true) W:=by
 show (do let r ←(do eqGuard .eql tx x (.const v) (lF E x) (lF E (.const v)); binOp .eql tx (lF E x) (lF E (.const v))); pure (.value r):Sem Next).run P W=_
 rw [i,j]
 have a:=Oc 9999 h W
 simp [eqGuard,binOp,Op.equal,Op.maxDepth,a]
theorem SO {e:TypeId} {k:Nat} {p:Addr} (i:P.underlying tx=some (.pointer e)) (h:∀w,(sizeOf e).run P w= .ok (k+1) w) (j:lF E x= .pointer (some p)) (q:lF E y= .pointer (some p)):nE P E ⟨d,.binOp .neq tx x y tv,ty,pos,af,g⟩ W (.bool false) W:=by
 show (do let r ←(do eqGuard .neq tx x y (lF E x) (lF E y); binOp .neq tx (lF E x) (lF E y)); pure (.value r):Sem Next).run P W=_
 rw [j,q]
 have a:=MV (p:=p) 9999 i h W
 simp [eqGuard,binOp,Op.equal,Op.maxDepth,a]
theorem UW {t:TypeId} {v:Value} {u:TypeDesc} (a:P.underlying t=some u) (hu:∀q,u≠.interface q) (h:lF E x= .iface t v):nE P E ⟨d,.typeAssert x tx t true,ty,pos,af,g⟩ W (.tuple #[v,.bool true]) W:=by
 show (do let r ←Instr.typeAssert (lF E x) tx t true; pure (.value r):Sem Next).run P W=_
 rw [h]
 unfold Instr.typeAssert
 simp only [cD,aS a,bN]
 cases u <;> simp_all
end
def Zl (n:Nat) (Q:List Deferred→rc) (e:Exit) (a:Act) (w:World):Prop:=∃D,VJ D n (Q D) e a w
def TQ (P:Program) (n:Nat) (c:Code) (Q:List Deferred→rc) (E:nn) (W:World):Prop:=∀a,Ag n a E→c.wp P (Zl n Q) a W
def Za (P:Program) (n:Nat) (ops:Array Oper) (Q:List Deferred→rc) (l:List Oper) (E:nn) (W:World):Prop:=∀a,Ag n a E→wpList P ops (Zl n Q) l a W
def ab9 (P:Program) (fn:Func) (R:Ending→World→Prop) (D:List Deferred):rc
 | .normal,E,W | .ret,E,W=>∀tmps:Array Value,(∀t,tmps.getD t undef=E t)→Leaves P fn tmps R D .returning W
 | .panic c,E,W=>∀tmps:Array Value,(∀t,tmps.getD t undef=E t)→Leaves P fn tmps R D (.panicking c) W
 | _,_,_=>False
section
variable {P:Program} {n:Nat} {Q:List Deferred→rc} {E:nn} {W:World} {c x y:Code} {ops:Array Oper} {rest:List Oper} {o:Oper}
theorem TO (h:CW P n x (λe E W=>e= .normal∧TQ P n y Q E W) E W):TQ P n (.seq x y) Q E W:=λa ha=>
 wp_seq (jO ((kX (n:=0)).1 (h a ha)) (λe g j h=>by
  cases e with
  | normal=>obtain ⟨E',d,_,i⟩:=h; exact i g d
  | panic c=>exact absurd h.2.1 rv
  | outgrown=>exact h.elim
  | _=>obtain ⟨E',d,h1,_⟩:=h; cases h1))
theorem abU (h:TQ P n x (λD=>uL (λE W=>JZ D P n y (Q D) E W) (Q D)) E W):TQ P n (.seq x y) Q E W:=λa ha=>
 wp_seq (jO (h a ha) (λe g j ⟨D,h⟩=>by
  cases e with
  | normal=>obtain ⟨E',d,i⟩:=h; exact jO (i g d) (λe a w h=>⟨D,h⟩)
  | _=>exact ⟨D,h⟩))
theorem U4 {id:Nat} {l:List Oper} (h:Za P n l.toArray Q l E W):TQ P n (.region id l.toArray false) Q E W:=λa ha=>wp_region_lit (h a ha)
theorem acR {dd:Nat} {v:Value} (hw:lL n ops E o) (hd:o.dst=some dd) (g:dd < n) (d:nE P E o W v W) (h:Za P n ops Q rest (oT E dd v) W):Za P n ops Q (o::rest) E W:=λa ha=>by
 unfold wpList
 rw [aO (hw.of ha)]
 refine .inl ?_
 unfold Oper.wp
 unfold nE at d
 rw [ha.eval,d,fE,hd]
 exact h _ (ha.put g v)
theorem V2 {d:Deferred} (hw:lL n ops E o) (hd:o.dst=none) (g:(execOp (lF E) o).run P W= .ok (.defer d) W) (h:Q [d] .normal E W):Za P n ops Q [o] E W:=λa ha=>by
 unfold wpList
 rw [aO (hw.of ha)]
 refine .inl ?_
 unfold Oper.wp
 rw [ha.eval,g,Oper.upon_defer,hd]
 exact wpList_nil ⟨[d],E,⟨ha.1,by simp [Act.put,show a.defers=[] from ha.2.1],ha.2.2⟩,h⟩
theorem Sp {f:FuncId} {fn:Func} {c:Code} {args:List Value} {w:World} {R:Ending→World→Prop} (j:P.funcs[f]? =some fn) (i:fn.body=some c) (k:fn.ntmps=n) (ha:args.length≤n) (h:TQ P n c (λD=>ab9 P fn R D) (Cy args) w):Calls P f args.toArray w R:=by
 refine calls_of_wp_defers j i (jO (h _ (RG k ha)) λe a q ⟨D,g⟩=>?_)
 cases e with
 | normal=>obtain ⟨E,d,h⟩:=g; show Leaves _ _ _ _ a.defers _ _; rw [d.2.1]; exact h _ d.2.2
 | ret=>obtain ⟨E,d,h⟩:=g; show Leaves _ _ _ _ a.defers _ _; rw [d.2.1]; exact h _ d.2.2
 | exit id=>obtain ⟨E,d,h⟩:=g; exact h.elim
 | goto l=>obtain ⟨E,d,h⟩:=g; exact h.elim
 | panic c=>show Leaves _ _ _ _ a.defers _ _; rw [g.1]; exact g.2.2 _ (λ_=>rfl)
 | outgrown=>exact g.elim
theorem WK {d:Option Nat} {ty:TypeId} {pos:String} {af:Array Edge} {g:tX} {f:FuncId} {fv:Operand} {ax:Array Operand} {ats:Array TypeId} {caps:Array Value} {args:List Value} (h:lF E fv= .func (.func f) #[] caps) (ha:ax.map (lF E)++(#[]:Array Value)=args.toArray):(execOp (lF E) ⟨d,.defer ⟨.value fv,ax,ats⟩,ty,pos,af,g⟩).run P W= .ok (.defer ⟨.fn (.func f) caps,args.toArray⟩) W:=by
 show (do pure (.defer (←resolve (lF E) ⟨.value fv,ax,ats⟩ ty)):Sem Next).run P W=_
 have a:ax.map (lF E)=args.toArray:=by simpa using ha
 simp [resolve,Deferred.ofValue,h,a]
theorem Q9 {fn:Func} {R:Ending→World→Prop} {k:FuncId} {ax:Array Value} {u:FrameMode} {X:World→Prop} (hu:u≠.run) (he:∀args w,(callFunc k args).run P w= .ok (.enter k args) w) (d:CallsD P k ax u W λe a W'=>e= .returned (.tuple #[])∧settle a= .returning∧X W') (h:∀W',X W'→A2 P fn R .ret E W') (tmps:Array Value) (j:∀t,tmps.getD t undef=E t):Leaves P fn tmps R [⟨.fn (.func k) #[],ax⟩] u W :=
 leaves_cons hu (by simp [invoke,he]) (CallsD.mono d (by
  rintro e a W' ⟨rfl,i,s⟩
  obtain ⟨v,q,g⟩:=h W' s
  show Leaves _ _ _ _ [] (settle a) _
  rw [i]
  exact ⟨v,q _ j,g⟩))
end
theorem sQ.form {κ γ:Type} {kenc:κ→Value} {Q:Value→γ→LO→Prop} {μ:mO} {v:Value} {l:List (κ×γ)} (h:sQ kenc Q μ v l):∃m,v= .map m:=by
 obtain ⟨a,R,h,_⟩:=h
 obtain ⟨m,rfl⟩:=h.form
 exact ⟨_,Z⟩
def Zv (dd:Bool) (w:World) (μ0:mO) (L0:LO) (K:Value→LO→mO→Prop):Ending→World→Prop:=λe a=>∃v L1 μ1,e= .returned v∧wP dd L0 L1 w a∧lM μ0 μ1∧Lo (keys L0) w μ0 μ1∧lM μ1 (wZ a L1)∧K v L1 μ1
theorem Xc {dd:Bool} {P:Program} {f:FuncId} {args:List Value} {w:World} {μ0:mO} {L0:LO} {K:Value→LO→mO→Prop} (h:Calls P f args.toArray w (Zv dd w μ0 L0 K)):my dd P f args w μ0 L0 K:=h
theorem my.mono {dd:Bool} {P:Program} {f:FuncId} {args:List Value} {w:World} {μ0:mO} {L0:LO} {K K':Value→LO→mO→Prop} (h:my dd P f args w μ0 L0 K) (hk:∀v L1 μ1,lM μ0 μ1→K v L1 μ1→K' v L1 μ1):my dd P f args w μ0 L0 K' :=
 dl h λ_ _ ⟨v,L1,μ1,h1,d,a,g,i,j⟩=>⟨v,L1,μ1,h1,d,a,g,i,hk _ _ _ a j⟩
theorem mS.mono {R:Type} {dd:Bool} {P:Program} {f:FuncId} {args:List Value} {w:World} {μ0:mO} {L0:LO} {s:Int ⊕ R} {K K':R→Value→LO→mO→Prop} {X X':Int→List PanicEntry→LO→mO→Prop} (h:mS dd P f args w μ0 L0 s K X) (hk:∀r v L1 μ1,K r v L1 μ1→K' r v L1 μ1) (k:∀x c L1 μ1,X x c L1 μ1→X' x c L1 μ1):mS dd P f args w μ0 L0 s K' X' :=
 dl h λe q h=>by
  cases s with
  | inl x=>obtain ⟨v,L1,μ1,h1,a,d,g,i,j⟩:=h; exact ⟨v,L1,μ1,h1,a,d,g,i,k _ _ _ _ j⟩
  | inr r=>obtain ⟨v,L1,μ1,h1,a,d,g,i,j⟩:=h; exact ⟨v,L1,μ1,h1,a,d,g,i,hk _ _ _ _ j⟩
def Zn {S:Type} (K:S→LO→mO→Prop) (X:Int→LO→mO→Prop):Int ⊕ S→LO→mO→Prop
 | .inl x=>X x
 | .inr r=>K r
section
variable {dd:Bool} {F:Nat→Prop} {w W:World} {μ:mO} {L:LO} {l:Nat}
theorem Gx {w:World} {b:Nat} {o:Obj} (h:b≠l):(w.putObj l o).heap[b]? =w.heap[b]?:=World.putObj_heap_other h
theorem ST.frame (h:ST dd F w W μ L) (o:Obj) (k:l < w.heap.size) (j:¬F l) (hm:μ l=none):ST dd F (w.putObj l o) (W.putObj l o) μ L:=by
 refine ⟨h.os,h.tape,h.output,h.drawn,by simpa using h.size,λb d q=>?_,λb x d=>?_,λb x d=>?_,h.nd⟩
 ·by_cases a:b=l
  ·subst a
   rw [World.putObj_heap_same (by have:=h.size; omega),World.putObj_heap_same k]
  ·rw [Gx a,Gx a]
   exact h.oJ b (by simpa using d) q
 ·have a:b≠l:=λe=>by rw [e,hm] at d; cases d
  rw [Gx a]; exact h.mem b x d
 ·obtain ⟨h1,i,g⟩:=h.box b x d
  have a:b≠l:=λe=>by
   subst e
   rcases g with g | g
   ·omega
   ·exact j g
  rw [Gx a]
  exact ⟨h1,i,by simpa using g⟩
end
section
variable {P:Program} {fn:Func} {R:Ending→World→Prop} {E:nn} {W:World}
theorem Wz {d:Tmp} {t0:TypeId} {a0:Addr} {v0:Value} {g:Tmp} {t1:TypeId} {a:Addr} {v1:Value} {i:Tmp} {t2:TypeId} {a2:Addr} {v2:Value} {j:Tmp} {v3:Value} (t:fn.results=#[.cell d t0,.cell g t1,.cell i t2,.tmp j]) (k:E d= .pointer (some a0)) (v:(Instr.loadAt t0 (.pointer (some a0))).run P W= .ok v0 W) (h1:E g= .pointer (some a)) (x:(Instr.loadAt t1 (.pointer (some a))).run P W= .ok v1 W) (q:E i= .pointer (some a2)) (y:(Instr.loadAt t2 (.pointer (some a2))).run P W= .ok v2 W) (s:E j=v3) (h:R (.returned (.tuple #[v0,v1,v2,v3])) W):A2 P fn R .ret E W :=
 ⟨.tuple #[v0,v1,v2,v3],λtmps u=>by
  have q0:(loadVar t0 a0).run P W= .ok v0 W:=by simpa [Instr.loadAt,Instr.sureAddr] using v
  have q1:(loadVar t1 a).run P W= .ok v1 W:=by simpa [Instr.loadAt,Instr.sureAddr] using x
  have q2:(loadVar t2 a2).run P W= .ok v2 W:=by simpa [Instr.loadAt,Instr.sureAddr] using y
  simp [results,t,u,asAddr,k,q0,h1,q1,q,q2,s],h⟩
end
theorem pV.form {β:Type} {Rl:tu β} {μ:mO} {v:Value} {x:Option β} (h:pV Rl μ v x):∃p,v= .pointer p:=by
 rcases h with ⟨rfl,_⟩ | ⟨y,ys,_,⟨b,off,cs,T,fr,rfl,_⟩,_⟩
 ·exact ⟨_,Z⟩
 ·exact ⟨_,Z⟩
abbrev vP (b:Nat):Value:=.pointer (some ⟨b,0,none⟩)
abbrev vI (n:Int):Value:=.int .i64 n
abbrev vS (s:ByteArray):Value:=.string s
abbrev vB (b:Bool):Value:=.bool b
abbrev vN:Value:=.slice none 0 0
abbrev vA (l:List Value):Value:=.agg l.toArray
abbrev vT (l:List Value):Value:=.tuple l.toArray
abbrev oC (a:Array Value) (t:TypeId):Obj:=.cells a t (0,0)
section
variable {P:Program} {n:Nat} {Q:rc} {E:nn} {W:World} {ops:Array Oper} {fuel:Nat} {listed:Array Bool} {μ:mO} {A B:LO}
variable {d i:Nat} {v:Value} {ins:Go.Op} {ty:TypeId} {pos:String} {af:Array Edge} {C:Value→Prop}
theorem nu (k:Nat) (j:ops[k]? =some ⟨some d,ins,ty,pos,af,none⟩) (a:oR μ A W) (g:oR μ B W) (s:∀{W},nE P E ⟨some d,ins,ty,pos,af,none⟩ W v W) (h:PX P n ops Q (λl W=>oR μ A W∧(l.getD i true=false→oR μ B W)) fuel (listed.setIfInBounds k true) (oT E d v) W) (hk:FZ ops listed k=true:=by kernel_rfl) (q:d < n:=by decide) (hm:Nat.beq k i=false:=by exact rfl):PX P n ops Q (λl W=>oR μ A W∧(l.getD i true=false→oR μ B W)) (fuel+1) listed E W :=
 xh k j hk (.inl Z) Z q (λ_ _ h=>⟨h.1,uk hm h.2⟩) ⟨a,λ_=>g⟩ (λ_ _ _ _=>s) h
theorem IS (k:Nat) (j:ops[k]? =some ⟨some d,ins,ty,pos,af,none⟩) (a:oR μ A W) (g:oR μ B W) (s:∀{W},oR μ A W→nE P E ⟨some d,ins,ty,pos,af,none⟩ W v W) (h:PX P n ops Q (λl W=>oR μ A W∧(l.getD i true=false→oR μ B W)) fuel (listed.setIfInBounds k true) (oT E d v) W) (hk:FZ ops listed k=true:=by kernel_rfl) (q:d < n:=by decide) (hm:Nat.beq k i=false:=by exact rfl):PX P n ops Q (λl W=>oR μ A W∧(l.getD i true=false→oR μ B W)) (fuel+1) listed E W :=
 xh k j hk (.inl Z) Z q (λ_ _ h=>⟨h.1,uk hm h.2⟩) ⟨a,λ_=>g⟩ (λ_ _ _ h=>s h.1) h
theorem BU (k:Nat) (q:ops[k]? =some ⟨some d,ins,ty,pos,af,none⟩) (a:oR μ A W) (g:oR μ B W) (t:∀{W},oR μ B W→nE P E ⟨some d,ins,ty,pos,af,none⟩ W v W) (h:PX P n ops Q (λl W=>oR μ A W∧(l.getD i true=false→oR μ B W)) fuel (listed.setIfInBounds k true) (oT E d v) W) (hk:FZ ops listed k=true:=by kernel_rfl) (s:d < n:=by decide) (hm:Nat.beq k i=false:=by exact rfl) (j:KE ops i [k]=true:=by kernel_rfl):PX P n ops Q (λl W=>oR μ A W∧(l.getD i true=false→oR μ B W)) (fuel+1) listed E W :=
 xh k q hk (.inl Z) Z s (λ_ _ h=>⟨h.1,uk hm h.2⟩) ⟨a,λ_=>g⟩ (λ_ _ hp h=>t (h.2 (hp.Sa i [k] j Z))) h
end
section
variable [M:Md]
variable {P:Program} {E:nn} {W:World} {d:Option Nat} {ty:TypeId} {pos:String} {af:Array Edge} {g:tX} {F:Nat→Prop} {w:World} {μ:mO} {dd:Bool}
theorem FA {K:Value→World→Prop} {B:LO} {t:TypeId} {x y:Operand} {b:Nat} {cs:Array Value} {T:TypeId} (cs':Array Value) (a:ST dd F w W μ ((b,.cells cs T (0,0))::B)) (i:∀w,(sizeOf t).run P w= .ok cs'.size w) (h:∀W',ST dd F w W' μ ((b,.cells cs' T (0,0))::B)→K undef W') (q:lF E x= .pointer (some ⟨b,0,none⟩):=by rfl) (s:lF E y= .agg cs':=by rfl) (h1:∀u∈cs'.toList,u.oneCell'=true:=by exact oc (v:=.agg _)) (k:0+cs'.size≤cs.size:=by exact nb) (j:(cs.toList.take 0++cs'.toList++cs.toList.drop (0+cs'.size)).toArray=cs':=by rfl):py P E ⟨d,.store t x y,ty,pos,af,g⟩ W K :=
 lZ (.agg cs') cs' a q s i h1 k j h
end
end Go.Proofs.YtojmckcglalbnaaGreat
namespace Go.Proofs.YtojmckcglalbnaaGreat
open Go.IntKind renaming wrap → wi0
open Go.Sort Go.Proofs Go.Shelf
theorem M6 {g b:Nat} {o:Obj}:keys [(g,o)] b↔b=g:=by
 constructor
 ·rintro ⟨a,h⟩
  simp at h
  exact h.1
 ·rintro rfl; exact ⟨o,rv⟩
theorem H6 (w:World) (g m:Nat) (f:Array Value→Array Value) (os:Array Obj) (b:Nat) (d:b < w.heap.size) :
  (Go.Sort.grow (mapBlock (Go.Sort.ahead w m) g f) os).heap[b]? =if g=b then w.heap[b]?.map (onCells f) else w.heap[b]?:=by
 have a:b < (mapBlock (Go.Sort.ahead w m) g f).heap.size:=by simp only [mapBlock,Go.Sort.ahead,Array.size_modify]; exact d
 rw [heap_grow_old _ _ a]
 simp only [mapBlock,Go.Sort.ahead,dJ]
theorem SI {w:World} {g m:Nat} {f:Array Value→Array Value} {os:Array Obj} {cs:Array Value} {T:TypeId} {fr:Nat×Nat} (d:w.heap[g]? =some (.cells cs T fr)) :
  wP true [(g,.cells cs T fr)] [(g,.cells (f cs) T fr)] w (Go.Sort.grow (mapBlock (Go.Sort.ahead w m) g f) os):=by
 have a:g < w.heap.size:=(dM.1 d).1
 refine ⟨⟨Z,Z,Z,?_,?_,λb i j=>?_⟩,λb o h=>?_,rv⟩
 ·refine yU.of ?_
  show w.drawn≤w.drawn+m
  omega
 ·show w.heap.size≤(w.heap.modify g (onCells f)++os).size
  simp
 ·rw [H6 _ _ _ _ _ _ i,aH λh=>j (M6.2 h.symm)]
 ·simp only [aW,cV,fc,Prod.mk.injEq] at h
  obtain ⟨rfl,rfl⟩:=h
  refine ⟨?_,.inr (M6.2 Z)⟩
  rw [H6 _ _ _ _ _ _ a,aO Z,d]
  rfl
theorem UC {w W:World} (h:Ex true w W):∃q os,W=Go.Sort.grow (w.drewN q) os:=by
 refine ⟨W.drawn-w.drawn,W.heap.extract w.heap.size W.heap.size,?_⟩
 have j:W.heap=w.heap++W.heap.extract w.heap.size W.heap.size:=by
  apply Array.ext_getElem?
  intro i
  rw [gv]
  split
  ·rename_i k; exact h.oJ i k
  ·rename_i k
   rw [Array.getElem?_extract]
   have t:=h.size
   split
   ·rw [show w.heap.size+(i-w.heap.size)=i by omega]
   ·exact Array.getElem?_eq_none rs
 obtain ⟨h1,u,v,x,y⟩:=W
 have a:=h.os; have d:=h.tape; have g:=h.output; have s:=h.drawn Z
 simp only at a d g s j
 unfold Go.Sort.grow World.drewN
 simp only [World.mk.injEq]
 exact ⟨j,d,rs,a,g⟩
theorem TF {α:Type} [Inhabited α] {enc:α→List Value} {k:Nat} (hk:∀x,(enc x).length=k) (l:List α) (j:Nat) (a:j < l.length*k) :
  (l.map enc).flatten[j]? =some ((flatK enc k l.toArray)[j]!):=by
 have h:0 < k:=by
  cases k with
  | zero=>simp at a
  | succ n=>omega
 have h1:j / k < l.length:=(iz h).2 a
 rw [get_flatK _ _ _ _ (by simpa using a)]
 have i:l.toArray[j / k]! =l[j / k]:=by
  rw [getElem!_pos l.toArray (j / k) (by simpa using h1)]; simp
 rw [i]
 have d:j % k < (enc l[j / k]).length:=by rw [hk]; exact Nat.mod_lt _ h
 have g:=Bg hk l (j / k) l[j / k] (dt h1) (j % k) ((enc l[j / k])[j % k]) (dt d)
 rw [Nat.div_add_mod' j k] at g
 rw [g,getElem!_pos (enc l[j / k]) (j % k) d]
theorem Qs {α:Type} [Inhabited α] {enc:α→List Value} {k:Nat} (hk:∀x,(enc x).length=k) {w:World} {g:Nat} {cs:Array Value} {T:TypeId} (d:w.heap[g]? =some (.cells cs T (0,0))) (l:List α)
  (i:cs.toList.take (l.length*k)=(l.map enc).flatten):HoldsK enc k w g 0 l.toArray:=by
 intro j h
 have a:j < l.length*k:=by simpa using h
 have h1:=TF hk l j a
 rw [←i,fu,aO a] at h1
 refine ⟨?_,?_⟩
 ·simp only [World.cell?,d,fJ]
  simpa using h1
 ·simp [World.frozen?,d]
theorem SY {α:Type} [Inhabited α] {enc:α→List Value} {k:Nat} (hk:∀x,(enc x).length=k) {cs:Array Value} (l:List α) (d:l.length*k≤cs.size) :
  (putCells id 0 (flatK enc k l.toArray) cs).toList.take (l.length*k)=(l.map enc).flatten:=by
 apply eZ
 intro j
 rw [fu]
 split
 ·rename_i a
  rw [TF hk l j a]
  simp only [putCells,dU,Array.getElem?_mapIdx,size_flatK,dG]
  rw [Array.getElem?_eq_getElem rs]
  simp [a]
 ·rename_i a
  rw [eW (by rw [vu hk]; omega)]
theorem QF (enc:Value→Value) (o:Nat) (d c:Array Value):(putCells enc o d c).size=c.size:=by simp [putCells]
section
variable {α:Type} {P:Program} {ρ:Ren}
theorem aby {l:List α} {cf:α×α→Option Int} (h:G5 cf l):SWO (ltOf λ(x y:{x // x∈l})=>(cf (x.1,y.1)).getD 0)∧
  (∀x y:{x // x∈l},ltOf (λ(x y:{x // x∈l})=>(cf (x.1,y.1)).getD 0) x y=xW cf x.1 y.1):=by
 have e:∀x y:{x // x∈l},ltOf (λ(x y:{x // x∈l})=>(cf (x.1,y.1)).getD 0) x y=xW cf x.1 y.1:=λx y=>by
  obtain ⟨c,i⟩:=h.is x.1 x.2 y.1 y.2
  simp [ltOf,xW,i]
 refine ⟨⟨λx=>?_,λx y z=>?_,λx y z=>?_⟩,e⟩
 ·rw [e]; exact h.irrefl _ x.2
 ·rw [e,e,e]; exact h.trans _ x.2 _ y.2 _ z.2
 ·rw [e,e,e]
  intro h1 d
  cases a:xW cf x.1 z.1 with
  | false=>rfl
  | true=>
   cases g:xW cf y.1 x.1 with
   | true=>
    have:=h.trans _ y.2 _ x.2 _ z.2 g a
    rw [d] at this; cases this
   | false=>
    have:=h.total _ x.2 _ y.2 h1 g
    rw [this,d] at a; cases a
theorem MA (L:SlLaysF0.n6 P ρ) (k:Nat) (aE:∀w,(isAgg (ρ.t 24)).run P w= .ok true w) (zE:∀w,(Go.sizeOf (ρ.t 24)).run P w= .ok k w) {e:TypeId} (enc:α→List Value) (hk:∀x,(enc x).length=k) (h1:∀x,∀u∈enc x,u.oneCell'=true) {v fv:Value} {l r:List α} {R:LO} {cf:α×α→Option Int} {w:World} {μ0:mO} (hH:JB (R++[]) w) (I:lM μ0 (wZ w (R++[]))) (hr:mg e enc k v l R) (hc:PV P fv μ0 (λ(x:α×α)=>[.agg (enc x.1).toArray,.agg (enc x.2).toArray]) (λ(r:Int)=> .int .i64 r) cf) (hm:Fy cf l=some r) :
  nt true P (ρ.f 6) [v,fv] w (R++[]) (λu L1 _=>∃(S:LO),u=(.tuple #[])∧L1=(S++[])∧mg e enc k v r S):=by
 obtain ⟨ok,rfl⟩:=VF hm
 rw [cN] at hH I ⊢
 rcases eX l.length with h0 | i
 ·have hl:l=[]:=bZ h0
  subst hl
  have hs:xe cf ([]:List α)=[]:=by simp [xe]
  rw [hs]
  obtain ⟨p,c,rfl⟩:∃p c,v= .slice p 0 c:=by
   rcases hr with ⟨rfl,_,_⟩ | ⟨g,cap,j,rfl,_⟩
   ·exact ⟨_,_,Z⟩
   ·exact ⟨_,_,Z⟩
  refine dl (AnyF.slices_SortFunc_none L p c fv w) λx w' ⟨hx,hw⟩=>?_
  subst hx hw
  refine ⟨_,R,Z,⟨⟨Z,Z,Z,yU.of (aY _),aY _,λ_ _ _=>rfl⟩,λb o h=>⟨hH b o h,.inr ⟨o,h⟩⟩,?_⟩,R,Z,(cN R).symm,hr⟩
  rcases hr with ⟨_,_,rfl⟩ | ⟨g,cap,j,_,rfl,_⟩ <;> simp
 ·rcases hr with ⟨_,rfl,_⟩ | ⟨g,cap,j,rfl,rfl,ad,ab,U,ah⟩
  ·simp at i
  have hg:w.heap[g]? =some (.cells j e (0,0)):=hH g _ rv
  have ae:g < w.heap.size:=(dM.1 hg).1
  haveI:Inhabited {x // x∈l}:=⟨⟨l[0],iD i⟩⟩
  obtain ⟨gg,caps,rfl,W,q⟩:=hc
  obtain ⟨hO,Y⟩:=aby ok
  have J:l.attach.toArray.size=l.length:=by simp
  have af:l.attach.map (λx=>enc x.1)=l.map enc:=by
   rw [show (λx:{x // x∈l}=>enc x.1)=enc∘Subtype.val from rfl,←eY,List.attach_map_subtype_val]
  have a8:HoldsK (λx:{x // x∈l}=>enc x.1) k w g 0 l.attach.toArray:=Qs (λx=>hk x.1) hg l.attach (by rw [af,List.length_attach,ah])
  have Q:CmpLays P gg caps (λx:{x // x∈l}=>enc x.1) k (λx y=>(cf (x.1,y.1)).getD 0) g 0 l.attach.toArray.size w:=by
   intro m os dk aj x y
   obtain ⟨c,O⟩:=ok.is x.1 x.2 y.1 y.2
   have a7:lM μ0 (hp (sortWorldK (λx:{x // x∈l}=>enc x.1) k w g 0 m dk os)):=λb o hb=>by
    have z:=I b o hb
    unfold wZ at z
    split at z
    ·cases z
    ·rename_i hn
     have aa:b < w.heap.size:=(dM.1 z).1
     show (Go.Sort.grow (mapBlock (Go.Sort.ahead w m) g _) os).heap[b]? =_
     rw [H6 _ _ _ _ _ _ aa,aH λh=>hn (M6.2 h.symm)]
     exact z
   have h3:=q (sortWorldK (λx:{x // x∈l}=>enc x.1) k w g 0 m dk os) (x.1,y.1) c a7 O
   have ea:([Value.agg (enc x.1).toArray,Value.agg (enc y.1).toArray]++caps.toList).toArray=#[Value.agg (enc x.1).toArray,Value.agg (enc y.1).toArray]++caps:=by
    apply Array.ext'; simp
   rw [←ea]
   exact dl h3 λu W' hu=>⟨by rw [hu.1]; show _=Ending.returned (.int .i64 ((cf (x.1,y.1)).getD 0)); rw [O]; rfl,UC hu.2⟩
  have hT:∀x y:{x // x∈l},ltOf (λ(x y:{x // x∈l})=>(cf (x.1,y.1)).getD 0) x y=false→ltOf (λ(x y:{x // x∈l})=>(cf (x.1,y.1)).getD 0) y x=false→x=y:=λx y a b=>by
   rw [Y] at a b
   exact Subtype.ext (ok.total _ x.2 _ y.2 a b)
  have d:=AnyQ.slices_SortFunc_total L k aE zE (λx:{x // x∈l}=>enc x.1) (λx=>hk x.1) (λx=>h1 x.1) (λx y=>(cf (x.1,y.1)).getD 0) hO gg caps g 0 cap l.attach.toArray w W Q a8 ae (by rw [J]; exact ok.short) hT
  rw [J] at d
  refine dl d λu w' ⟨hu,n,os,hw⟩=>?_
  subst hu
  generalize hs:l.attach.toArray.toList.mergeSort (λx y=>!ltOf (λ(x y:{x // x∈l})=>(cf (x.1,y.1)).getD 0) y x)=s at hw
  have ag:s.map Subtype.val=xe cf l:=by
   rw [←hs,jv (s:=λx y=>!xW cf y x) (λa _ b _=>by rw [Y])]
   simp [xe]
  have a6:s.length=l.length:=by rw [←hs,List.length_mergeSort]; simp
  have a1:(xe cf l).length=l.length:=by simp [xe,List.length_mergeSort]
  have M:=SI (w:=w) (m:=n) (f:=putCells id 0 (flatK (λx:{x // x∈l}=>enc x.1) k s.toArray)) (os:=os) hg
  have ai:w'=Go.Sort.grow (mapBlock (Go.Sort.ahead w n) g (putCells id 0 (flatK (λx:{x // x∈l}=>enc x.1) k s.toArray))) os:=hw
  rw [←ai] at M
  refine ⟨_,_,Z,M,_,Z,(cN _).symm,.inr ⟨g,cap,_,by rw [a1],Z,rs,ab,by rw [QF,U],?_⟩⟩
  rw [a1,←a6,SY (λx=>hk x.1) s (by rw [a6,U]; exact dp k ad),←ag,eY]
  rfl
end
theorem KH (b:ByteArray):b.toList=b.data.toList:=by rw [fQ]
theorem aaF (l:List ByteArray):(l.map Jn).flatten=l.map Value.string:=by
 induction l with
 | nil=>rfl
 | cons x l ih=>simp only [bQ,dX,ih]; rfl
theorem X7 (l:List ByteArray):(AK l).map (λb=>b.data.toList)=(l.map λb=>b.data.toList).mergeSort (λx y=>decide (x≤y)):=by
 unfold AK
 refine jv λa _ b _=>?_
 unfold Hp
 rw [bytesLess_eq,KH,KH]
 by_cases h:a.data.toList≤b.data.toList
 ·have d:¬b.data.toList < a.data.toList:=List.not_lt.2 h
  simp [h,d]
 ·have d:b.data.toList < a.data.toList:=by
   cases Decidable.em (b.data.toList < a.data.toList) with
   | inl g=>exact g
   | inr g=>exact absurd (List.not_lt.1 g) h
  simp [h,d]
end Go.Proofs.YtojmckcglalbnaaGreat
namespace Go.Proofs.YtojmckcglalbnaaGreat
open Go.IntKind renaming wrap → wi0
open Go.WideElems Go.WideShapes Go.Sort Go.Proofs Go.Shelf
theorem SN {β:Type} {vf:β→Value} {P:Program} {kt:TypeId} (Q:P.underlying kt=some .string) {l:List (ByteArray×β)} {es:Array MapEntry} {clock:Nat} (h:As Value.string vf l es clock) (M:(l.map (·.1)).Nodup) (O:∀p∈l,p.1.size≤maxLen) (J:l.length≤maxLen) {W:World} {b:Nat} (I:W.heap[b]? =some (.map es clock)):∃D:DataW Unit,W.ownsMap P kt (λ_=>some (.lit (.bool true),[])) b es.size D∧(strKeys D).Perm (l.map λp=>p.1.data.toList)∧Maps.size D=l.length:=by
 have d:=h.keys
 have t:∀x∈es.toList,∃s:ByteArray,x.key= .string s∧s.size≤maxLen:=λx j=>by
  have h1:x.key∈es.toList.map (·.key):=bT.2 ⟨x,j,Z⟩
  rw [d] at h1
  obtain ⟨s,i,k⟩:=bT.1 h1
  obtain ⟨p,y,z⟩:=bT.1 i
  exact ⟨s,k.symm,by rw [←z]; exact O p y⟩
 have g:∀x∈es.toList,∃s:ByteArray,x.key= .string s∧Go.WideElems.rd (H:=Unit) P kt (λ_=>some (.lit (.bool true),[])) x=some (.string s.data.toList,.lit (.bool true)):=λx j=>by
  obtain ⟨s,h1,i⟩:=t x j
  refine ⟨s,h1,?_⟩
  simp [Go.WideElems.rd,keyOf,Q,mapKey,h1,i]
 refine ⟨_,⟨es,clock,I,⟨by rw [h.length]; exact J,⟨h.lt,?_,?_⟩,λx j=>?_⟩,aY _,Z⟩,?_,?_⟩
 ·have:=h.born
  rw [List.Nodup,fI]
  exact this.imp (λ{a b} h=>by omega)
 ·rw [d]
  rw [List.Nodup,fI]
  exact M.imp (λ{a b} q e=>q (by injection e))
 ·obtain ⟨s,_,i⟩:=g x j
  exact ⟨_,i⟩
 ·have h1:=(sorted_perm (es.toList.map (Go.WideElems.rg (H:=Unit) P kt λ_=>some (.lit (.bool true),[])))).map (λp=>strOf p.1)
  refine List.Perm.trans h1 ?_
  have e:(es.toList.map (Go.WideElems.rg (H:=Unit) P kt λ_=>some (.lit (.bool true),[]))).map (λp=>strOf p.1)=l.map (λp=>p.1.data.toList):=by
   have u:(es.toList.map (Go.WideElems.rg (H:=Unit) P kt λ_=>some (.lit (.bool true),[]))).map (λp=>strOf p.1)=(es.toList.map (·.key)).map (λv=>match v with | .string s=>s.data.toList | _=>[]):=by
    rw [eY,eY]
    refine ja λx j=>?_
    obtain ⟨s,i,k⟩:=g x j
    simp [Go.WideElems.rg,k,i,strOf]
   rw [u,d,eY,eY]
   rfl
  rw [e]
 ·have h1:=(sorted_perm (es.toList.map (Go.WideElems.rg (H:=Unit) P kt λ_=>some (.lit (.bool true),[])))).length_eq
  show (List.foldr DataW.insert [] _).length=_
  rw [h1,eB,←h.length]
  simp
theorem Qx {l:List ByteArray} {g:List (List UInt8)} (h:g.Perm (l.map λb=>b.data.toList)):g.mergeSort (λx y=>decide (x≤y))=(AK l).map (λb=>b.data.toList):=by
 rw [X7]
 have le:∀a b c:List UInt8,decide (a≤b)=true→decide (b≤c)=true→decide (a≤c)=true:=λa b c h1 d=>by
  simp only [bV] at *
  exact List.le_trans h1 d
 have tot:∀a b:List UInt8,(decide (a≤b)||decide (b≤a))=true:=λa b=>by
  simp only [gS,bV]
  exact List.le_total a b
 refine List.Perm.eq_of_pairwise (le:=λa b=>decide (a≤b)=true) (λa b _ _ h1 d=>List.le_antisymm (by simpa using h1) (by simpa using d)) (gW le tot _) (gW le tot _) ?_
 exact (List.mergeSort_perm _ _).trans (h.trans (List.mergeSort_perm _ _).symm)
section
variable {P:Program} {ρk ρt ρm:Ren}
theorem SF (LK:SlLaysZ.n7 P ρk) (LT:SlLaysZ.n6 P ρt) (LM:SlLaysM.n6 P ρm) (h9:ρt.f 9=ρm.f 6) (hK:P.underlying (ρk.t 26)=some .string) (eg:∀args w,(callFunc (ρk.f 10) args).run P w= .ok (.enter (ρk.f 10) args) w) (es:∀args w,(callFunc (ρt.f 9) args).run P w= .ok (.enter (ρt.f 9) args) w) {β:Type} {vf:β→Value} {l:List (ByteArray×β)} {b:Nat} {mv:Value} {t:TypeId} {W:World} {r:List ByteArray} (I:W.heap[b]? =some (.cells #[mv] t (0,0))) (hm:uR Value.string vf (hp W) mv l) (hk:Nw l=some r) :
  na false P (ρt.f 6) [.func (.func (ρk.f 10)) #[] #[.pointer (some ⟨b,0,none⟩)]] W (ρt.t 26) Jn 1 r:=by
 unfold Nw at hk
 split at hk
 case isFalse=>cases hk
 rename_i hc
 obtain ⟨a6,a7,a8⟩:=hc
 cases hk
 have j:b < W.heap.size:=(dM.1 I).1
 have d:W.cell? ⟨b,0,none⟩=some mv:=by simp [World.cell?,I]
 have u:AnyZ.SortsIn P ρt Fence.wide 4 :=
  ⟨λa1 off cap i W hH hblk z=>kE.2 (by rw [h9]; exact AnyM.slices_Sort_string LM a1 off cap i W hH hblk z),λp cap W=>kE.2 (by rw [h9]; exact AnyM.slices_Sort_string_none LM p cap W)⟩
 have Y:SeqGives Fence.wide 2 P (ρk.f 10) #[.pointer (some ⟨b,0,none⟩)] encStr (λi=>i.Perm ((l.map (·.1)).map λb=>b.data.toList)) l.length W:=by
  rcases hm with ⟨rfl,rfl⟩ | ⟨m,es,clock,rfl,ad,O⟩
  ·have:=AnyZ.keys_gives_nil (ρ:=ρk) { LK with } Fence.wide 2 trivial Z b W j d
   intro l' J W' hW hJ hY h0
   refine CallsIn.mono (this l' J W' hW hJ hY h0) ?_
   rintro e w' ⟨hv,i,rfl,hj⟩
   exact ⟨hv,[],aT _,hj⟩
  ·obtain ⟨D,Q,s,z⟩:=SN hK O a6 a7 (by unfold maxLen; omega) ad
   have:=AnyZ.keys_gives (ρ:=ρk) { LK with } Fence.wide 2 trivial Z rs b m es.size D W j d Q
   intro l' J W' hW hJ hY h0
   refine CallsIn.mono (this l' J W' hW hJ (by rw [z]; exact hY) h0) ?_
   rintro e w' ⟨hv,i,hp,hj⟩
   refine ⟨hv,i,?_,hj⟩
   rw [eY]
   exact hp.trans s
 have cS:=AnyZ.sorted_in LT Fence.wide 5 trivial trivial trivial trivial Z rs u es (ρk.f 10) #[.pointer (some ⟨b,0,none⟩)] trivial eg _ l.length (by unfold maxLen; omega) a8 W Y
 refine dl (kE.1 cS) ?_
 rintro e w' ⟨v,i,rfl,hS,U,af,a⟩
 have hs:=Qx hS
 have hlen:i.length=(AK (l.map (·.1))).length:=by
  have:=bA List.length hs
  simpa using this
 have q:(i.mergeSort λx y=>decide (x≤y)).map encStr=((AK (l.map (·.1))).map Jn).flatten:=by
  rw [hs,aaF,eY]
  refine ja (λx _=>?_)
  simp only [Function.comp,encStr]
 rcases U.2 with ⟨rfl,h0⟩ | ⟨g,cap,M,rfl,k,hg,ag,aa,ab,ae⟩
 ·have:AK (l.map (·.1))=[]:=bZ rs
  rw [this]
  exact ⟨_,[],Z,wP.QI ⟨a.os,a.tape,a.output,λh=>(by cases h),a.size,λb I=>a.block b I⟩ (λ_ _ h=>by cases h) rv,mg.nil _ _ _⟩
 ·refine ⟨_,[(g,.cells M (ρt.t 26) (0,0))],Z,wP.QI ⟨a.os,a.tape,a.output,λh=>(by cases h),a.size,λb I=>a.block b I⟩ (λb o h=>by simp at h; obtain ⟨rfl,rfl⟩:=h; exact ⟨hg,k⟩) rv,.inr ⟨g,cap,M,by rw [hlen],Z,rs,aa,ab,?_⟩⟩
  rw [←hlen,ae,q]
end
end Go.Proofs.YtojmckcglalbnaaGreat
namespace Go.Proofs.YtojmckcglalbnaaGreat
open Go.IntKind renaming wrap → wi0
def fW:=@Tryz.underlying9
def gk:=@Tryz.zeroValue9
def gG:=@Tryz.underlying0
def gT:=@Tryz.zeroValue0
def ic:=@Tryz.sizeOf9
def iE:=@Tryz.underlying4
def iM:=@Tryz.isAgg9
def iX:=@Tryz.zeroValue4
def jf:=@Tryz.sizeOf0
def jw:=@Tryz.underlying198
def jx:=@Tryz.underlying249
def jy:=@Tryz.underlying250
def jz:=@Tryz.underlying254
def jA:=@Tryz.underlying257
def jB:=@Tryz.underlying153
def jC:=@Tryz.underlying275
def jD:=@Tryz.underlying279
def jE:=@Tryz.underlying301
def jF:=@Tryz.underlying136
def jG:=@Tryz.underlying292
def jQ:=@Tryz.isAgg0
def jR:=@Tryz.zeroValue198
def jS:=@Tryz.zeroValue249
def jT:=@Tryz.zeroValue250
def jU:=@Tryz.zeroValue254
def jV:=@Tryz.zeroValue257
def jW:=@Tryz.zeroValue153
def jX:=@Tryz.zeroValue275
def jY:=@Tryz.zeroValue279
def jZ:=@Tryz.zeroValue301
def kc:=@Tryz.zeroValue136
def kd:=@Tryz.zeroValue292
def kx:=@Tryz.underlying3
def ky:=@Tryz.underlying5
def kH:=@Tryz.sizeOf4
def kP:=@Tryz.zeroValue3
def kQ:=@Tryz.zeroValue5
def kU:=@Tryz.isAgg4
def ZB:Go.Shelf.Ren:=⟨fun | 6=>94 | 15=>136 | 14=>135 | 28=>177 | 29=>178 | 20=>169 | 21=>170 | 22=>171 | 23=>172 | 24=>173 | 25=>174 | 26=>175 | 27=>176 | 46=>201 | 47=>202 | 48=>203 | 49=>204 | 50=>205 | 57=>229 | n=>n,fun | 22=>26 | 24=>69 | 25=>172 | 3=>3 | 39=>198 | 0=>0 | 53=>257 | 55=>153 | 4=>4 | 46=>250 | 45=>249 | 50=>254 | 5=>5 | 9=>9 | 66=>275 | 70=>279 | 76=>301 | 77=>136 | n=>n,fun | n=>n⟩
theorem acj:Go.Proofs.SlLaysF0.n6 Tryz.prog ZB:={
 mixed:=by kernel_rfl,
 f6:=⟨Tryz.f94.name,tc,Tryz.func94.trans (bA some (by kernel_rfl))⟩,
 f14:=⟨Tryz.f135.name,tc,Tryz.func135.trans (bA some (by kernel_rfl))⟩,
 f15:=Tryz.func136.trans (bA some (by kernel_rfl)),
 f20:=⟨Tryz.f169.name,tc,Tryz.func169.trans (bA some (by kernel_rfl))⟩,
 f21:=⟨Tryz.f170.name,tc,Tryz.func170.trans (bA some (by kernel_rfl))⟩,
 f22:=⟨Tryz.f171.name,tc,Tryz.func171.trans (bA some (by kernel_rfl))⟩,
 f23:=⟨Tryz.f172.name,tc,Tryz.func172.trans (bA some (by kernel_rfl))⟩,
 f24:=⟨Tryz.f173.name,tc,Tryz.func173.trans (bA some (by kernel_rfl))⟩,
 f25:=⟨Tryz.f174.name,tc,Tryz.func174.trans (bA some (by kernel_rfl))⟩,
 f26:=⟨Tryz.f175.name,tc,Tryz.func175.trans (bA some (by kernel_rfl))⟩,
 f27:=⟨Tryz.f176.name,tc,Tryz.func176.trans (bA some (by kernel_rfl))⟩,
 f28:=Tryz.func177.trans (bA some (by kernel_rfl)),
 f29:=Tryz.func178.trans (bA some (by kernel_rfl)),
 f46:=⟨Tryz.f201.name,tc,Tryz.func201.trans (bA some (by kernel_rfl))⟩,
 f47:=Tryz.func202.trans (bA some (by kernel_rfl)),
 f48:=Tryz.func203.trans (bA some (by kernel_rfl)),
 f49:=⟨Tryz.f204.name,tc,Tryz.func204.trans (bA some (by kernel_rfl))⟩,
 f50:=⟨Tryz.f205.name,tc,Tryz.func205.trans (bA some (by kernel_rfl))⟩,
 f57:=⟨Tryz.f229.name,tc,Tryz.func229.trans (bA some (by kernel_rfl))⟩,
 t0:=gG,
 a0:=jQ,
 z0:=jf,
 v0:=gT,
 t3:=kx,
 a3:=Tryz.isAgg3,
 z3:=Tryz.sizeOf3,
 v3:=kP,
 t4:=iE,
 a4:=kU,
 z4:=kH,
 v4:=iX,
 t5:=ky,
 a5:=Tryz.isAgg5,
 z5:=Tryz.sizeOf5,
 v5:=kQ,
 t9:=fW,
 a9:=iM,
 z9:=ic,
 v9:=gk,
 t22:=Tryz.underlying26,
 a22:=Tryz.isAgg26,
 z22:=Tryz.sizeOf26,
 v22:=Tryz.zeroValue26,
 t25:=Tryz.underlying172,
 a25:=Tryz.isAgg172,
 z25:=Tryz.sizeOf172,
 v25:=Tryz.zeroValue172,
 t39:=jw,
 a39:=Tryz.isAgg198,
 z39:=Tryz.sizeOf198,
 v39:=jR,
 t45:=jx,
 a45:=Tryz.isAgg249,
 z45:=Tryz.sizeOf249,
 v45:=jS,
 t46:=jy,
 a46:=Tryz.isAgg250,
 z46:=Tryz.sizeOf250,
 v46:=jT,
 t50:=jz,
 a50:=Tryz.isAgg254,
 z50:=Tryz.sizeOf254,
 v50:=jU,
 t53:=jA,
 a53:=Tryz.isAgg257,
 z53:=Tryz.sizeOf257,
 v53:=jV,
 t55:=jB,
 a55:=Tryz.isAgg153,
 z55:=Tryz.sizeOf153,
 v55:=jW,
 t66:=jC,
 a66:=Tryz.isAgg275,
 z66:=Tryz.sizeOf275,
 v66:=jX,
 t70:=jD,
 a70:=Tryz.isAgg279,
 z70:=Tryz.sizeOf279,
 v70:=jY,
 t76:=jE,
 a76:=Tryz.isAgg301,
 z76:=Tryz.sizeOf301,
 v76:=jZ,
 t77:=jF,
 a77:=Tryz.isAgg136,
 z77:=Tryz.sizeOf136,
 v77:=kc}
def XY:Go.Shelf.Ren:=⟨fun | 6=>146 | 15=>136 | 14=>183 | 28=>177 | 29=>178 | 20=>206 | 21=>207 | 22=>208 | 23=>209 | 24=>210 | 25=>211 | 26=>212 | 27=>213 | 46=>230 | 47=>202 | 48=>203 | 49=>231 | 50=>232 | 57=>248 | n=>n,fun | 22=>27 | 24=>33 | 25=>197 | 3=>3 | 39=>198 | 0=>0 | 53=>257 | 55=>153 | 4=>4 | 46=>250 | 45=>249 | 50=>254 | 5=>5 | 9=>9 | 66=>275 | 70=>279 | 76=>301 | 77=>136 | n=>n,fun | n=>n⟩
theorem abT:Go.Proofs.SlLaysF0.n6 Tryz.prog XY:={
 mixed:=by kernel_rfl,
 f6:=⟨Tryz.f146.name,tc,Tryz.func146.trans (bA some (by kernel_rfl))⟩,
 f14:=⟨Tryz.f183.name,tc,Tryz.func183.trans (bA some (by kernel_rfl))⟩,
 f15:=Tryz.func136.trans (bA some (by kernel_rfl)),
 f20:=⟨Tryz.f206.name,tc,Tryz.func206.trans (bA some (by kernel_rfl))⟩,
 f21:=⟨Tryz.f207.name,tc,Tryz.func207.trans (bA some (by kernel_rfl))⟩,
 f22:=⟨Tryz.f208.name,tc,Tryz.func208.trans (bA some (by kernel_rfl))⟩,
 f23:=⟨Tryz.f209.name,tc,Tryz.func209.trans (bA some (by kernel_rfl))⟩,
 f24:=⟨Tryz.f210.name,tc,Tryz.func210.trans (bA some (by kernel_rfl))⟩,
 f25:=⟨Tryz.f211.name,tc,Tryz.func211.trans (bA some (by kernel_rfl))⟩,
 f26:=⟨Tryz.f212.name,tc,Tryz.func212.trans (bA some (by kernel_rfl))⟩,
 f27:=⟨Tryz.f213.name,tc,Tryz.func213.trans (bA some (by kernel_rfl))⟩,
 f28:=Tryz.func177.trans (bA some (by kernel_rfl)),
 f29:=Tryz.func178.trans (bA some (by kernel_rfl)),
 f46:=⟨Tryz.f230.name,tc,Tryz.func230.trans (bA some (by kernel_rfl))⟩,
 f47:=Tryz.func202.trans (bA some (by kernel_rfl)),
 f48:=Tryz.func203.trans (bA some (by kernel_rfl)),
 f49:=⟨Tryz.f231.name,tc,Tryz.func231.trans (bA some (by kernel_rfl))⟩,
 f50:=⟨Tryz.f232.name,tc,Tryz.func232.trans (bA some (by kernel_rfl))⟩,
 f57:=⟨Tryz.f248.name,tc,Tryz.func248.trans (bA some (by kernel_rfl))⟩,
 t0:=gG,
 a0:=jQ,
 z0:=jf,
 v0:=gT,
 t3:=kx,
 a3:=Tryz.isAgg3,
 z3:=Tryz.sizeOf3,
 v3:=kP,
 t4:=iE,
 a4:=kU,
 z4:=kH,
 v4:=iX,
 t5:=ky,
 a5:=Tryz.isAgg5,
 z5:=Tryz.sizeOf5,
 v5:=kQ,
 t9:=fW,
 a9:=iM,
 z9:=ic,
 v9:=gk,
 t22:=Tryz.underlying27,
 a22:=Tryz.isAgg27,
 z22:=Tryz.sizeOf27,
 v22:=Tryz.zeroValue27,
 t25:=Tryz.underlying197,
 a25:=Tryz.isAgg197,
 z25:=Tryz.sizeOf197,
 v25:=Tryz.zeroValue197,
 t39:=jw,
 a39:=Tryz.isAgg198,
 z39:=Tryz.sizeOf198,
 v39:=jR,
 t45:=jx,
 a45:=Tryz.isAgg249,
 z45:=Tryz.sizeOf249,
 v45:=jS,
 t46:=jy,
 a46:=Tryz.isAgg250,
 z46:=Tryz.sizeOf250,
 v46:=jT,
 t50:=jz,
 a50:=Tryz.isAgg254,
 z50:=Tryz.sizeOf254,
 v50:=jU,
 t53:=jA,
 a53:=Tryz.isAgg257,
 z53:=Tryz.sizeOf257,
 v53:=jV,
 t55:=jB,
 a55:=Tryz.isAgg153,
 z55:=Tryz.sizeOf153,
 v55:=jW,
 t66:=jC,
 a66:=Tryz.isAgg275,
 z66:=Tryz.sizeOf275,
 v66:=jX,
 t70:=jD,
 a70:=Tryz.isAgg279,
 z70:=Tryz.sizeOf279,
 v70:=jY,
 t76:=jE,
 a76:=Tryz.isAgg301,
 z76:=Tryz.sizeOf301,
 v76:=jZ,
 t77:=jF,
 a77:=Tryz.isAgg136,
 z77:=Tryz.sizeOf136,
 v77:=kc}
def abM:Go.Shelf.Ren:=⟨fun | 6=>256 | 8=>136 | 9=>271 | 19=>177 | 20=>178 | 21=>276 | 22=>277 | 23=>278 | 24=>279 | 25=>280 | 26=>281 | 27=>282 | 28=>283 | 29=>284 | 36=>287 | 31=>202 | 32=>203 | 37=>288 | 38=>289 | 39=>290 | 41=>294 | n=>n,fun | 27=>292 | 29=>9 | 3=>3 | 32=>198 | 26=>292 | 0=>0 | 44=>257 | 46=>153 | 4=>4 | 36=>250 | 35=>249 | 41=>254 | 5=>5 | 9=>9 | 53=>275 | 57=>279 | 63=>301 | 64=>136 | n=>n,fun | n=>n⟩
theorem aaN:Go.Proofs.SlLaysM.n6 Tryz.prog abM:={
 mixed:=by kernel_rfl,
 f6:=⟨Tryz.f256.name,tc,Tryz.func256.trans (bA some (by kernel_rfl))⟩,
 f8:=Tryz.func136.trans (bA some (by kernel_rfl)),
 f9:=⟨Tryz.f271.name,tc,Tryz.func271.trans (bA some (by kernel_rfl))⟩,
 f19:=Tryz.func177.trans (bA some (by kernel_rfl)),
 f20:=Tryz.func178.trans (bA some (by kernel_rfl)),
 f21:=⟨Tryz.f276.name,tc,Tryz.func276.trans (bA some (by kernel_rfl))⟩,
 f22:=⟨Tryz.f277.name,tc,Tryz.func277.trans (bA some (by kernel_rfl))⟩,
 f23:=⟨Tryz.f278.name,tc,Tryz.func278.trans (bA some (by kernel_rfl))⟩,
 f24:=⟨Tryz.f279.name,tc,Tryz.func279.trans (bA some (by kernel_rfl))⟩,
 f25:=⟨Tryz.f280.name,tc,Tryz.func280.trans (bA some (by kernel_rfl))⟩,
 f26:=⟨Tryz.f281.name,tc,Tryz.func281.trans (bA some (by kernel_rfl))⟩,
 f27:=⟨Tryz.f282.name,tc,Tryz.func282.trans (bA some (by kernel_rfl))⟩,
 f28:=⟨Tryz.f283.name,tc,Tryz.func283.trans (bA some (by kernel_rfl))⟩,
 f29:=⟨Tryz.f284.name,tc,Tryz.func284.trans (bA some (by kernel_rfl))⟩,
 f31:=Tryz.func202.trans (bA some (by kernel_rfl)),
 f32:=Tryz.func203.trans (bA some (by kernel_rfl)),
 f36:=⟨Tryz.f287.name,tc,Tryz.func287.trans (bA some (by kernel_rfl))⟩,
 f37:=⟨Tryz.f288.name,tc,Tryz.func288.trans (bA some (by kernel_rfl))⟩,
 f38:=⟨Tryz.f289.name,tc,Tryz.func289.trans (bA some (by kernel_rfl))⟩,
 f39:=⟨Tryz.f290.name,tc,Tryz.func290.trans (bA some (by kernel_rfl))⟩,
 f41:=⟨Tryz.f294.name,tc,Tryz.func294.trans (bA some (by kernel_rfl))⟩,
 t0:=gG,
 a0:=jQ,
 z0:=jf,
 v0:=gT,
 t3:=kx,
 a3:=Tryz.isAgg3,
 z3:=Tryz.sizeOf3,
 v3:=kP,
 t4:=iE,
 a4:=kU,
 z4:=kH,
 v4:=iX,
 t5:=ky,
 a5:=Tryz.isAgg5,
 z5:=Tryz.sizeOf5,
 v5:=kQ,
 t9:=fW,
 a9:=iM,
 z9:=ic,
 v9:=gk,
 t26:=jG,
 a26:=Tryz.isAgg292,
 z26:=Tryz.sizeOf292,
 v26:=kd,
 t27:=jG,
 a27:=Tryz.isAgg292,
 z27:=Tryz.sizeOf292,
 v27:=kd,
 t29:=fW,
 a29:=iM,
 z29:=ic,
 v29:=gk,
 t32:=jw,
 a32:=Tryz.isAgg198,
 z32:=Tryz.sizeOf198,
 v32:=jR,
 t35:=jx,
 a35:=Tryz.isAgg249,
 z35:=Tryz.sizeOf249,
 v35:=jS,
 t36:=jy,
 a36:=Tryz.isAgg250,
 z36:=Tryz.sizeOf250,
 v36:=jT,
 t41:=jz,
 a41:=Tryz.isAgg254,
 z41:=Tryz.sizeOf254,
 v41:=jU,
 t44:=jA,
 a44:=Tryz.isAgg257,
 z44:=Tryz.sizeOf257,
 v44:=jV,
 t46:=jB,
 a46:=Tryz.isAgg153,
 z46:=Tryz.sizeOf153,
 v46:=jW,
 t53:=jC,
 a53:=Tryz.isAgg275,
 z53:=Tryz.sizeOf275,
 v53:=jX,
 t57:=jD,
 a57:=Tryz.isAgg279,
 z57:=Tryz.sizeOf279,
 v57:=jY,
 t63:=jE,
 a63:=Tryz.isAgg301,
 z63:=Tryz.sizeOf301,
 v63:=jZ,
 t64:=jF,
 a64:=Tryz.isAgg136,
 z64:=Tryz.sizeOf136,
 v64:=kc}
def ZD:Go.Shelf.Ren:=⟨fun | 7=>244 | 10=>257 | n=>n,fun | 23=>235 | 26=>9 | 3=>4 | 28=>316 | 0=>0 | 27=>315 | 33=>88 | 4=>4 | n=>n,fun | n=>n⟩
theorem Z4:Go.Proofs.SlLaysZ.n7 Tryz.prog ZD:={
 mixed:=by kernel_rfl,
 f7:=⟨Tryz.f244.name,tc,Tryz.func244.trans (bA some (by kernel_rfl))⟩,
 f10:=⟨Tryz.f257.name,tc,Tryz.func257.trans (bA some (by kernel_rfl))⟩,
 t0:=gG,
 a0:=jQ,
 z0:=jf,
 v0:=gT,
 t4:=iE,
 a4:=kU,
 z4:=kH,
 v4:=iX,
 t23:=Tryz.underlying235,
 a23:=Tryz.isAgg235,
 z23:=Tryz.sizeOf235,
 v23:=Tryz.zeroValue235,
 t26:=fW,
 a26:=iM,
 z26:=ic,
 v26:=gk,
 t27:=Tryz.underlying315,
 a27:=Tryz.isAgg315,
 z27:=Tryz.sizeOf315,
 v27:=Tryz.zeroValue315,
 t28:=Tryz.underlying316,
 a28:=Tryz.isAgg316,
 z28:=Tryz.sizeOf316,
 v28:=Tryz.zeroValue316,
 t33:=Tryz.underlying88,
 a33:=Tryz.isAgg88,
 z33:=Tryz.sizeOf88,
 v33:=Tryz.zeroValue88}
def aag:Go.Shelf.Ren:=⟨fun | 6=>243 | 8=>255 | 9=>256 | 11=>270 | 13=>136 | 12=>271 | 23=>177 | 24=>178 | 14=>276 | 15=>277 | 16=>278 | 17=>279 | 18=>280 | 19=>281 | 20=>282 | 21=>283 | 22=>284 | 25=>287 | 26=>202 | 27=>203 | 28=>288 | 29=>289 | 30=>290 | 31=>294 | n=>n,fun | 26=>9 | 28=>316 | 24=>292 | 0=>0 | 3=>3 | 37=>198 | 48=>257 | 50=>153 | 4=>4 | 40=>250 | 39=>249 | 45=>254 | 5=>5 | 9=>9 | 51=>275 | 55=>279 | 57=>301 | 58=>136 | 33=>88 | n=>n,fun | n=>n⟩
theorem aaf:Go.Proofs.SlLaysZ.n6 Tryz.prog aag:={
 mixed:=by kernel_rfl,
 f6:=⟨Tryz.f243.name,tc,Tryz.func243.trans (bA some (by kernel_rfl))⟩,
 f8:=⟨Tryz.f255.name,tc,Tryz.func255.trans (bA some (by kernel_rfl))⟩,
 f11:=⟨Tryz.f270.name,tc,Tryz.func270.trans (bA some (by kernel_rfl))⟩,
 t0:=gG,
 a0:=jQ,
 z0:=jf,
 v0:=gT,
 t24:=jG,
 a24:=Tryz.isAgg292,
 z24:=Tryz.sizeOf292,
 v24:=kd,
 t26:=fW,
 a26:=iM,
 z26:=ic,
 v26:=gk,
 t28:=Tryz.underlying316,
 a28:=Tryz.isAgg316,
 z28:=Tryz.sizeOf316,
 v28:=Tryz.zeroValue316,
 i26:=by kernel_rfl}
end Go.Proofs.YtojmckcglalbnaaGreat
namespace Go.Proofs.YtojmckcglalbnaaGreat
open Go.IntKind renaming wrap → wi0
open Go.RowKit
set_option maxRecDepth 10000
noncomputable section
structure lh where
 lu:ByteArray
 Word:ByteArray
def lp (x:lh):List Value:=[.string x.lu,.string x.Word]
def mq (x y:lh):Bool:=(ob x.lu y.lu)&&((ob x.Word y.Word)&&true)
theorem mw {x y:lh}:mq x y=true↔x=y:=by
 cases x; cases y; simp [mq,oq]
theorem nC (x:lh):(lp x).length=2:=rfl
theorem pt (x:lh):∀u∈lp x,u.oneCell'=true:=by
 intro u hu
 simp only [lp,aW,cV,fc] at hu
 rcases hu with rfl | rfl <;> rfl
structure lg where
 Kind:Int
 Head:lh
 nj:ByteArray
 B:lh
 C:lh
 mV:ByteArray
def lj (x:lg):List Value:=[.int .i64 x.Kind,.string x.Head.lu,.string x.Head.Word,.string x.nj,.string x.B.lu,.string x.B.Word,.string x.C.lu,.string x.C.Word,.string x.mV]
def ni (x y:lg):Bool:=(x.Kind==y.Kind)&&((mq x.Head y.Head)&&((ob x.nj y.nj)&&((mq x.B y.B)&&((mq x.C y.C)&&((ob x.mV y.mV)&&true)))))
theorem pH {x y:lg}:ni x y=true↔x=y:=by
 cases x; cases y; simp [ni,oq,mw]
theorem mY (x:lg):(lj x).length=9:=rfl
theorem pf (x:lg):∀u∈lj x,u.oneCell'=true:=by
 intro u hu
 simp only [lj,aW,cV,fc] at hu
 rcases hu with rfl | rfl | rfl | rfl | rfl | rfl | rfl | rfl | rfl <;> rfl
structure mT where
 lh:lh
 nj:ByteArray
def ot (x:mT):List Value:=[.string x.lh.lu,.string x.lh.Word,.string x.nj]
theorem AJ (x:mT):(ot x).length=3:=rfl
theorem Tx (x:mT):∀u∈ot x,u.oneCell'=true:=by
 intro u hu
 simp only [ot,aW,cV,fc] at hu
 rcases hu with rfl | rfl | rfl <;> rfl
structure ZL where
 at0:Int
 at1:Int
structure nq where
 e:Int
def nW (x:nq):List Value:=[.int .i64 x.e]
structure Key where
 nj:ByteArray
 Key:List Int
structure Signed where
 lg:lg
 Tag:List Int
structure mc where
 m:List (ByteArray×(List Int))
structure Formula where
 Op:Int
 K:Int
 lh:lh
 Kids:List Formula
structure np where
 Signed:Signed
 lB:Formula
structure oe where
 lh:lh
 lB:Formula
 nP:List lg
structure lm where
 Name:ByteArray
 lK:List np
 mi:List oe
structure Io where
 lu:lm
 Client:lm
 Formula:Formula
 ny:Int
 Zw:ZL
 re:Int
 wc:Int
 vp:Int
 Keys:List Key
structure mD where
 lm:lm
 mI:ByteArray
 Room:Int
 lD:List lg
 Shown:List lg
 lL:List lh
 me:List lh
structure ow where
 Kind:Int
 ny:Int
 E:Int
 Name:ByteArray
 nX:List lh
 nm:List Signed
def tj (a0:ByteArray) (a:Int):Option Int :=
 some (CU a0 a)
def xg (a0:ByteArray) (a:Int):Option Int :=
 ((tj a0 a).bind λd=>some d)
def AI :List Int→Option Bool
 | []=>some true
 | g::a=>(xg (⟨#[97,98,99,100,101,102,103,104,105,106,107,108,109,110,111,112,113,114,115,116,117,118,119,120,121,122,48,49,50,51,52,53,54,55,56,57,45]⟩:ByteArray) g).bind λd=>(if (decide (d < 0)) then some false else AI a)
def H0 (a0:ByteArray):Option Bool :=
 ((I0 a0).bind λa=>AI a)
def sG (a0:ByteArray):Option Bool :=
 ((if (decide ((a0.size:Int)≥1)) then some (decide ((a0.size:Int)≤16)) else some false).bind λx2=>(if x2 then (Nh a0 0).bind λa=>((xg (⟨#[97,98,99,100,101,102,103,104,105,106,107,108,109,110,111,112,113,114,115,116,117,118,119,120,121,122]⟩:ByteArray) (a.toNat:Int)).bind λg=>some (decide (g≥0))) else some false).bind λh=>(if h then (H0 a0).bind λd=>some d else some false).bind λi=>some i)
def rO (a0:List Int):Option (List Int) :=
 ((oY 1 ([]) a0).bind λa=>some a)
def zB :List Key→(List (ByteArray×(List Int)))→Option ((Option mc)×Int)
 | [],d=>some ((some (⟨d⟩:mc)),0)
 | a::g,d=>(sG a.nj).bind λi=>(if (!i) then some (none,30) else (if (decide ((a.Key.length:Int) < 1)) then some true else some (decide ((a.Key.length:Int) > 32))).bind λk=>(if k then some (none,21) else if (nv ob d a.nj).isSome then some (none,41) else (rO a.Key).bind λj=>(JT ob d a.nj j).bind λh=>zB g h))
def Gr (a0:List Key):Option ((Option mc)×Int) :=
 zB a0 ([])
def tF (a0:lh):Option Bool :=
 ((sG a0.lu).bind λg=>(if g then (sG a0.Word).bind λa=>some a else some false).bind λd=>some d)
def vJ (a0 a:ByteArray):Option Int :=
 some (zI a0 a)
def Au (a0 a:ByteArray):Option Int :=
 ((vJ a0 a).bind λd=>some d)
def BT :List Int→Option Int
 | []=>some 0
 | a::d=>(if (a != 0) then some a else BT d)
def GY (a0:List Int):Option Int :=
 BT a0
def vV (a0 h:lh):Option Int :=
 ((Au a0.lu h.lu).bind λa=>(Au a0.Word h.Word).bind λd=>(GY ([a,d])).bind λg=>some g)
def tH (a0:lg):Option Bool :=
 ((tF a0.Head).bind λQ=>(((if (a0.Kind==1) then (if Q then (sG a0.nj).bind λd=>some d else some false).bind λx=>some (Sum.inr (x,(⟨a0.Kind,a0.Head,a0.nj,(⟨zS,zS⟩:lh),(⟨zS,zS⟩:lh),zS⟩:lg))) else if (a0.Kind==2) then (if Q then (tF a0.B).bind λg=>some g else some false).bind λy=>some (Sum.inr (y,(⟨a0.Kind,a0.Head,zS,a0.B,(⟨zS,zS⟩:lh),zS⟩:lg))) else if (a0.Kind==3) then (if Q then (tF a0.B).bind λi=>some i else some false).bind λz=>((if z then some (ob a0.B.lu a0.Head.lu) else some false).bind λI=>(if I then (sG a0.mV).bind λh=>some h else some false).bind λJ=>some (Sum.inr (J,(⟨a0.Kind,a0.Head,zS,a0.B,(⟨zS,zS⟩:lh),a0.mV⟩:lg)))) else if (a0.Kind==4) then (if Q then (tF a0.B).bind λq=>some q else some false).bind λM=>((if M then (tF a0.C).bind λk=>some k else some false).bind λO=>(if O then (vV a0.B a0.C).bind λj=>some (decide (j < 0)) else some false).bind λP=>some (Sum.inr (P,(⟨a0.Kind,a0.Head,zS,a0.B,a0.C,zS⟩:lg)))) else some (Sum.inl false)):Option (Bool ⊕ (Bool×lg))).bind λs=>match s with | .inl a=>some a | .inr (t,u)=>(if t then some (ni u a0) else some false).bind λv=>some v))
def xL (a0:Option mc) (d:lg):Option ((List Int)×Int) :=
 (if a0.isNone then some ([],1) else (tH d).bind λg=>(if (!g) then some ([],11) else a0.bind λa=>(if (!((nv ob a.m d.Head.lu).isSome)) then some ([],21) else some (((nv ob a.m d.Head.lu).getD []),0))))
def oO :Nat→Int→(List Int)→Option (Bool×(List Int))
 | 0,_,_=>none
 | i+1,a,g=>(if (decide (a≥128)) then (oY 1 g ([IntKind.u8.wrap (BitVec.ofInt (IntKind.bits .u8) (IntKind.u8.wrap a) ||| BitVec.ofInt (IntKind.bits .u8) 128).toNat])).bind λh=>(oO i (Int.fdiv a (2 ^ min (Int.toNat 7) (IntKind.bits .i64))) h) else (oY 1 g ([IntKind.u8.wrap a])).bind λd=>some (true,d))
def nL (a:List Int) (d:Int):Option (Bool×(List Int)) :=
 (if (decide (d < 0)) then some (false,a) else oO mZ d a)
def sw (a d:List Int):Option (Bool×(List Int)) :=
 (if (decide ((d.length:Int) > 2048)) then some (false,a) else (nL a (d.length:Int)).bind λh=>(oY 1 h.2 d).bind λg=>some (true,g))
def xP (a:List Int) (j:ByteArray):Option (Bool×(List Int)) :=
 ((sG j).bind λk=>((if k then (I0 j).bind λh=>((sw a h).bind λd=>some (d.1,d.2)) else some (false,a)):Option (Bool×(List Int))).bind λ(i,g)=>some (i,g))
def uA (a:List Int) (i:lh):Option (Bool×(List Int)) :=
 ((tF i).bind λs=>((if s then (xP a i.lu).bind λh=>some (h.1,h.2) else some (false,a)):Option (Bool×(List Int))).bind λ(k,d)=>((if k then (xP d i.Word).bind λg=>some (g.1,g.2) else some (false,d)):Option (Bool×(List Int))).bind λ(q,j)=>some (q,j))
def si (a:List Int):Option (List Int) :=
 ((rO a).bind λd=>some d)
def wJ (a0:lg):Option (List Int) :=
 ((tH a0).bind λt=>(if (!t) then some [] else (nL ([]) a0.Kind).bind λu=>(uA u.2 a0.Head).bind λa=>((if (a0.Kind==1) then (xP a.2 a0.nj).bind λh=>some h.2 else if (a0.Kind==2) then (uA a.2 a0.B).bind λi=>some i.2 else if (a0.Kind==3) then (uA a.2 a0.B).bind λj=>((xP j.2 a0.mV).bind λk=>some k.2) else if (a0.Kind==4) then (uA a.2 a0.B).bind λq=>((uA q.2 a0.C).bind λs=>some s.2) else some a.2):Option (List Int)).bind λd=>(si d).bind λg=>some g))
def Ae (a0:List Int):Option Bool :=
 ((if (decide ((a0.length:Int)≥1)) then some (decide ((a0.length:Int)≤32)) else some false).bind λx2=>some x2)
def Cj :List Int→Int→Option Int
 | [],a=>some a
 | g::d,a=>Cj d (IntKind.u64.wrap ((IntKind.u64.wrap (BitVec.ofInt (IntKind.bits .u64) a ^^^ BitVec.ofInt (IntKind.bits .u64) (IntKind.u64.wrap g)).toNat)*1099511628211))
def Co :List (List Int)→Int→Option Int
 | [],a=>some a
 | g::d,a=>(Cj g a).bind λh=>Co d h
def HB (a0:List (List Int)):Option Int :=
 Co a0 14695981039346656037
def vz (d:Int):List Int→Nat→(List Int)→Option (List Int)
 | [],_,a=>some a
 | i::g,i68,a=>(rj (decide (0≤(wi0 .i64 (8*(wi0 .i64 (7-(i68:Int)))))))).bind λ_=>(nY a (i68:Int)).bind λh=>vz d g (i68+1) (a.set (Int.toNat (i68:Int)) (IntKind.u8.wrap (Int.fdiv d (2 ^ min (Int.toNat (wi0 .i64 (8*(wi0 .i64 (7-(i68:Int)))))) (IntKind.bits .u64)))))
def EC (a0 g:List Int):Option (List Int) :=
 ((Ae a0).bind λh=>(if (!h) then some [] else (HB ([[IntKind.u8.wrap (a0.length:Int)],a0,g,a0])).bind λd=>(Hn 1 0 8).bind λa=>vz d a 0 a))
def EM (a0:Option mc) (a:lg):Option (Signed×Int) :=
 ((xL a0 a).bind λd=>(if (d.2 != 0) then some ((⟨(⟨0,(⟨zS,zS⟩:lh),zS,(⟨zS,zS⟩:lh),(⟨zS,zS⟩:lh),zS⟩:lg),[]⟩:Signed),d.2) else (wJ a).bind λg=>(EC d.1 g).bind λh=>some ((⟨a,h⟩:Signed),0)))
def rk (a0 a:List Int):Option Bool :=
 some (ob (BC a0) (BC a))
def Gz (a0 h a2:List Int):Option Bool :=
 ((Ae a0).bind λi=>(if i then (EC a0 h).bind λa=>((rk a a2).bind λd=>some d) else some false).bind λg=>some g)
def ul (a0:Option mc) (h:Signed):Option Int :=
 ((xL a0 h.lg).bind λi=>(if (i.2==0) then (wJ h.lg).bind λa=>((Gz i.1 a h.Tag).bind λd=>some (!d)) else some false).bind λg=>(if g then some 20 else some i.2))
def rA (a0:List lg):Option (List lg) :=
 ((oY 136 ([]) a0).bind λa=>some a)
def tA (f1:lg→Option Bool):List lg→Nat→Option Int
 | [],_=>some (-1)
 | g::a,i35=>(f1 g).bind λd=>(if d then some (i35:Int) else tA f1 a (i35+1))
def uU (a0:List lg) (f1:lg→Option Bool):Option Int :=
 tA f1 a0 0
def rB (f1:lg→Option Bool):Nat→(List lg)→Int→Int→Option (List lg)
 | 0,_,_,_=>none
 | n321+1,d,a,g=>(if (decide (g < (d.length:Int))) then (((nY d g).bind λh=>(f1 h).bind λj=>(if (!j) then (nY d a).bind λq=>some ((d.set (Int.toNat a) h),wi0 .i64 (a+1)) else some (d,a))):Option ((List lg)×Int)).bind λ(i,k)=>(rB f1 n321 i k (wi0 .i64 (g+1))) else (rj (decide (0≤a)&&decide (a≤(d.length:Int)))).bind λ_=>(rj (decide (0≤a)&&decide (a≤((rr d (Int.toNat a) (⟨0,(⟨zS,zS⟩:lh),zS,(⟨zS,zS⟩:lh),(⟨zS,zS⟩:lh),zS⟩:lg)).length:Int)))).bind λ_=>some ((rr d (Int.toNat a) (⟨0,(⟨zS,zS⟩:lh),zS,(⟨zS,zS⟩:lh),(⟨zS,zS⟩:lh),zS⟩:lg)).take (Int.toNat a)))
def ry (a0:List lg) (f1:lg→Option Bool):Option (List lg) :=
 ((uU a0 f1).bind λa=>(if (a==(-1)) then some a0 else rB f1 mZ a0 a (wi0 .i64 (a+1))))
def F8 (a0:lg):Option Bool :=
 ((tH a0).bind λa=>some (!a))
def BY (a0 a:List Int):Option Int :=
 some (D4 a0 a)
def vY (a0 h:lg):Option Int :=
 ((wJ a0).bind λa=>(wJ h).bind λd=>(BY a d).bind λg=>some g)
def sE (d:Int):Nat→(List lg)→Int→Int→Option ((List lg)×Int)
 | 0,_,_,_=>none
 | j+1,a,g,h=>(if (decide (h < ((a.length-(Int.toNat d):Nat):Int))) then (((nY (a.drop (Int.toNat d)) h).bind λq=>(nY (a.drop (Int.toNat d)) (wi0 .i64 (h-1))).bind λs=>(if (!(ni q s)) then (nY (a.drop (Int.toNat d)) h).bind λt=>((nY a g).bind λu=>some ((a.set (Int.toNat g) t),wi0 .i64 (g+1))) else some (a,g))):Option ((List lg)×Int)).bind λ(i,k)=>(sE d j i k (wi0 .i64 (h+1))) else some (a,g))
def sI (a0:List lg):Nat→Int→Option (List lg)
 | 0,_=>none
 | h+1,a=>(if (decide (a < (a0.length:Int))) then (nY a0 a).bind λi=>((nY a0 (wi0 .i64 (a-1))).bind λj=>(if (ni i j) then (rj (decide (0≤a)&&decide (a≤(a0.length:Int)))).bind λ_=>((sE a mZ a0 a 1).bind λ(g,d)=>(rj (decide (0≤d)&&decide (d≤(g.length:Int)))).bind λ_=>(rj (decide (0≤d)&&decide (d≤((rr g (Int.toNat d) (⟨0,(⟨zS,zS⟩:lh),zS,(⟨zS,zS⟩:lh),(⟨zS,zS⟩:lh),zS⟩:lg)).length:Int)))).bind λ_=>some ((rr g (Int.toNat d) (⟨0,(⟨zS,zS⟩:lh),zS,(⟨zS,zS⟩:lh),(⟨zS,zS⟩:lh),zS⟩:lg)).take (Int.toNat d))) else sI a0 h (wi0 .i64 (a+1)))) else some a0)
def yd (a0:List lg):Option (List lg) :=
 (if (decide ((a0.length:Int) < 2)) then some a0 else sI a0 mZ 1)
def pD (a0:List lg):Option (List lg) :=
 ((rA a0).bind λh=>(ry h λ(x:lg)=>F8 x).bind λa=>(Fy (λ(x:(lg×lg))=>vY x.1 x.2) a).bind λd=>(yd d).bind λg=>some g)
def rJ (a0:Option mc):List Signed→(List lg)→Option (List lg)
 | [],a=>(pD a).bind λi=>some i
 | j::d,a=>(ul a0 j).bind λh=>(if (h==0) then (oY 136 a ([j.lg])).bind λg=>(rJ a0 d g) else rJ a0 d a)
def yB (a0:Option mc) (a:List Signed):Option (List lg) :=
 rJ a0 a ([])
def vl (g:lg):List lg→Nat→Option Int
 | [],_=>some (-1)
 | d::a,i46=>(if (ni g d) then some (i46:Int) else vl g a (i46+1))
def BJ (a0:List lg) (a:lg):Option Int :=
 vl a a0 0
def xE (a0:List lg) (a:lg):Option Bool :=
 ((BJ a0 a).bind λd=>some (decide (d≥0)))
def tq (a0:List lg) (a:lg):Option Bool :=
 ((xE a0 a).bind λd=>some d)
def Cd (a0:lg):Option (List lh) :=
 ((tH a0).bind λi=>(if (!i) then some [] else ((if (a0.Kind != 1) then (oY 32 ([a0.Head]) ([a0.B])).bind λh=>some h else some ([a0.Head])):Option (List lh)).bind λa=>((if (a0.Kind==4) then (oY 32 a ([a0.C])).bind λg=>some g else some a):Option (List lh)).bind λd=>some d))
def tb (j:lg) (a:List (ByteArray×(List lg))) (h:List lg):List lh→(List (lh×(List lg)))→Option ((List lg)×(List (lh×(List lg)))×(List (ByteArray×(List lg))))
 | [],d=>(if (j.Kind==3) then (oY 136 ((nv ob a j.mV).getD []) ([j])).bind λq=>some (h,d,pO ob a j.mV q) else some (h,d,a))
 | g::i,d=>(oY 136 ((nv mq d g).getD []) ([j])).bind λk=>tb j a h i (pO mq d g k)
def yG (j:List (lh×(List (ByteArray×Bool)))) (a:List lg) (g:List (lh×(List lg))) (d:List (ByteArray×(List lg))) (h:List mT) (s:Int) (k:lg):Option ((List lg)×(List (lh×(List lg)))×(List (ByteArray×(List lg)))) :=
 ((oY 136 a ([k])).bind λq=>(Cd k).bind λi=>(rj (decide (0≤1)&&decide (1≤(i.length:Int)))).bind λ_=>tb k d q (i.drop (Int.toNat 1)) g)
def rX (a:List (lh×(List (ByteArray×Bool)))) (h:List lg) (j:List (lh×(List lg))) (i:List (ByteArray×(List lg))) (d:List mT) (g:Int) (k:lh) (a2:ByteArray):Option ((List (lh×(List (ByteArray×Bool))))×(List mT)×Int) :=
 (if (zW ob ((nv mq a k).getD []) a2 false) then some (a,d,g) else ((if (nv mq a k).isNone then (JT mq a k ([])).bind λq=>some q else some a):Option (List (lh×(List (ByteArray×Bool))))).bind λs=>(MU mq ob s k a2 true).bind λt=>(oY 48 d ([(⟨k,a2⟩:mT)])).bind λu=>some (t,u,wi0 .i64 (g+1)))
def tI (a0:List (ByteArray×Bool)):Option Unit :=
 some ()
def vX (a:List (lh×(List (ByteArray×Bool)))) (d:List lg) (i:List (lh×(List lg))) (g:List (ByteArray×(List lg))) (h:List mT) (k:Int) (q:lh):Option (List ByteArray) :=
 ((tI ((nv mq a q).getD [])).bind λs=>(Nw ((nv mq a q).getD [])).bind λj=>some j)
def vm (a:List lg) (g:List (lh×(List lg))) (d:List (ByteArray×(List lg))) (a2:lh):List ByteArray→(List (lh×(List (ByteArray×Bool))))→(List mT)→Int→Option ((List (lh×(List (ByteArray×Bool))))×(List mT)×Int)
 | [],h,i,k=>some (h,i,k)
 | s::q,h,i,k=>(rX h a g d i k a2 s).bind λj=>vm a g d a2 q j.1 j.2.1 j.2.2
def zn (i:List (lh×(List (ByteArray×Bool)))) (a:List lg) (h:List (lh×(List lg))) (d:List (ByteArray×(List lg))) (g:List mT) (j:Int) (k a2:lh):Option ((List (lh×(List (ByteArray×Bool))))×(List mT)×Int) :=
 ((vX i a h d g j k).bind λq=>vm a h d a2 q i g j)
def xf (a:List (lh×(List (ByteArray×Bool)))) (g:List lg) (i:List (lh×(List lg))) (h:List (ByteArray×(List lg))) (d:List mT) (j:Int) (k:lg) (a2:mT):Option ((List (lh×(List (ByteArray×Bool))))×(List mT)×Int) :=
 (if (k.Kind==2) then (rX a g i h d j k.Head a2.nj).bind λt=>some (t.1,t.2.1,t.2.2) else if (k.Kind==3) then (zn a g i h d j (⟨a2.nj,k.mV⟩:lh) k.Head).bind λq=>some (q.1,q.2.1,q.2.2) else if (k.Kind==4) then (if (zW ob ((nv mq a k.B).getD []) a2.nj false) then some (zW ob ((nv mq a k.C).getD []) a2.nj false) else some false).bind λu=>(if u then (rX a g i h d j k.Head a2.nj).bind λs=>some (s.1,s.2.1,s.2.2) else some (a,d,j)) else some (a,d,j))
def uu (a:List lg) (g:List (lh×(List lg))) (d:List (ByteArray×(List lg))) (t:lg):List ByteArray→(List (lh×(List (ByteArray×Bool))))→(List mT)→Int→Option ((List (lh×(List (ByteArray×Bool))))×(List mT)×Int)
 | [],h,i,k=>some (h,i,k)
 | s::q,h,i,k=>(xf h a g d i k t (⟨t.B,s⟩:mT)).bind λj=>uu a g d t q j.1 j.2.1 j.2.2
def ya (i:List (lh×(List (ByteArray×Bool)))) (a:List lg) (h:List (lh×(List lg))) (d:List (ByteArray×(List lg))) (g:List mT) (j:Int) (k:lg):Option ((List (lh×(List (ByteArray×Bool))))×(List mT)×Int) :=
 (if (k.Kind==1) then (rX i a h d g j k.Head k.nj).bind λs=>some (s.1,s.2.1,s.2.2) else (vX i a h d g j k.B).bind λq=>uu a h d k q i g j)
def sk (j:mT) (a:List lg) (g:List (lh×(List lg))) (d:List (ByteArray×(List lg))):List lg→(List (lh×(List (ByteArray×Bool))))→(List mT)→Int→Option ((List (lh×(List (ByteArray×Bool))))×(List mT)×Int)
 | [],h,i,k=>some (h,i,k)
 | t::s,h,i,k=>(if (zW ob ((nv mq h t.B).getD []) j.lh.lu false) then (rX h a g d i k t.Head j.nj).bind λq=>(sk j a g d s q.1 q.2.1 q.2.2) else sk j a g d s h i k)
def tZ (a:List lg) (g:List (lh×(List lg))) (d:List (ByteArray×(List lg))) (q:mT):List lg→(List (lh×(List (ByteArray×Bool))))→(List mT)→Int→Option ((List (lh×(List (ByteArray×Bool))))×(List mT)×Int)
 | [],h,i,k=>some (h,i,k)
 | t::s,h,i,k=>(xf h a g d i k t q).bind λj=>tZ a g d q s j.1 j.2.1 j.2.2
def pU (g:List lg) (d:List (lh×(List lg))) (a:List (ByteArray×(List lg))):Nat→(List (lh×(List (ByteArray×Bool))))→(List mT)→Int→Option ((List (lh×(List (ByteArray×Bool))))×(List mT)×Int)
 | 0,_,_,_=>none
 | v+1,j,h,k=>(if (decide ((h.length:Int) > 0)) then (nY h 0).bind λi=>((rj (decide (0≤1)&&decide (1≤(h.length:Int)))).bind λ_=>(tZ g d a i ((nv mq d i.lh).getD []) j (h.drop (Int.toNat 1)) k).bind λ(q,s,x)=>(sk i g d a ((nv ob a i.lh.Word).getD []) q s x).bind λ(t,u,y)=>pU g d a v t u y) else some (j,h,k))
def Ah (i:List (lh×(List (ByteArray×Bool)))) (a:List lg) (h:List (lh×(List lg))) (d:List (ByteArray×(List lg))) (g:List mT) (j:Int):Option ((List (lh×(List (ByteArray×Bool))))×(List mT)×Int) :=
 pU a h d mZ i g j
def sd (t:Int):List lg→(List (lh×(List (ByteArray×Bool))))→(List lg)→(List (lh×(List lg)))→(List (ByteArray×(List lg)))→(List mT)→Int→Option (Int×(List (lh×(List (ByteArray×Bool))))×(List lg)×(List (lh×(List lg)))×(List (ByteArray×(List lg)))×(List mT)×Int)
 | [],g,a,h,i,j,k=>(Ah g a h i j k).bind λq=>some ((wi0 .i64 (q.2.2-t)),q.1,a,h,i,q.2.1,q.2.2)
 | s::v,g,a,h,i,j,k=>(tH s).bind λx=>(if x then (tq a s).bind λy=>some (!y) else some false).bind λz=>(if z then (yG g a h i j k s).bind λd=>((ya g d.1 d.2.1 d.2.2 j k s).bind λu=>sd t v u.1 d.1 d.2.1 d.2.2 u.2.1 u.2.2) else sd t v g a h i j k)
def zl (i:List (lh×(List (ByteArray×Bool)))) (a:List lg) (h:List (lh×(List lg))) (d:List (ByteArray×(List lg))) (g:List mT) (j:Int) (k:List lg):Option (Int×(List (lh×(List (ByteArray×Bool))))×(List lg)×(List (lh×(List lg)))×(List (ByteArray×(List lg)))×(List mT)×Int) :=
 sd j k i a h d g j
def zJ (a0:List lg):Option ((List (lh×(List (ByteArray×Bool))))×(List lg)×(List (lh×(List lg)))×(List (ByteArray×(List lg)))×(List mT)×Int) :=
 ((zl ([]) ([]) ([]) ([]) ([]) 0 a0).bind λa=>some (a.2.1,a.2.2.1,a.2.2.2.1,a.2.2.2.2.1,a.2.2.2.2.2.1,a.2.2.2.2.2.2))
def ux (a:List (lh×(List (ByteArray×Bool)))) (d:List lg) (i:List (lh×(List lg))) (g:List (ByteArray×(List lg))) (h:List mT) (j:Int) (k:lh) (a2:ByteArray):Option Bool :=
 some (zW ob ((nv mq a k).getD []) a2 false)
def xk :List lg→Int→Option Int
 | [],d=>some d
 | a::g,d=>xk g (wi0 .i64 (d+(wi0 .i64 ((wi0 .i64 ((wi0 .i64 ((wi0 .i64 ((wi0 .i64 ((wi0 .i64 ((wi0 .i64 ((wi0 .i64 (20+(a.Head.lu.size:Int)))+(a.Head.Word.size:Int)))+(a.nj.size:Int)))+(a.B.lu.size:Int)))+(a.B.Word.size:Int)))+(a.C.lu.size:Int)))+(a.C.Word.size:Int)))+(a.mV.size:Int)))))
def tB (a0:List lg):Option Int :=
 xk a0 0
def xq :List Signed→Int→Option Int
 | [],a=>some a
 | d::g,a=>(tB ([d.lg])).bind λh=>xq g (wi0 .i64 (a+(wi0 .i64 (h+(d.Tag.length:Int)))))
def vG (i:List Signed):List Key→Int→Option Int
 | [],a=>(xq i a).bind λd=>some d
 | g::h,a=>vG i h (wi0 .i64 (a+(wi0 .i64 ((wi0 .i64 (10+(g.nj.size:Int)))+(g.Key.length:Int)))))
def wY (a0:List Key) (a:List Signed):Option Int :=
 vG a a0 0
def EA (a0:List lg) (d:ByteArray):Option ((List (lh×(List (ByteArray×Bool))))×(List lg)×(List (lh×(List lg)))×(List (ByteArray×(List lg)))×(List mT)×Int×ByteArray) :=
 ((zJ a0).bind λa=>some (a.1,a.2.1,a.2.2.1,a.2.2.2.1,a.2.2.2.2.1,a.2.2.2.2.2,d))
def pR (f1:np→Option Bool):List np→Nat→Option Int
 | [],_=>some (-1)
 | g::a,i47=>(f1 g).bind λd=>(if d then some (i47:Int) else pR f1 a (i47+1))
def tK (a0:List np) (f1:np→Option Bool):Option Int :=
 pR f1 a0 0
def EB (a0:np) (a:lg):Option Bool :=
 some (ni a0.Signed.lg a)
def Es (a0:lm) (g:lg):Option (np×Bool) :=
 ((tK a0.lK λ(x:np)=>EB x g).bind λa=>(if (decide (a < 0)) then some ((⟨(⟨(⟨0,(⟨zS,zS⟩:lh),zS,(⟨zS,zS⟩:lh),(⟨zS,zS⟩:lh),zS⟩:lg),[]⟩:Signed),(⟨0,0,(⟨zS,zS⟩:lh),[]⟩:Formula)⟩:np),false) else (nY a0.lK a).bind λd=>some (d,true)))
def sU (a0:List oe):Option (List oe) :=
 ((oY 128 ([]) a0).bind λa=>some a)
def sn (f1:oe→Option Bool):List oe→Nat→Option Int
 | [],_=>some (-1)
 | g::a,i47=>(f1 g).bind λd=>(if d then some (i47:Int) else sn f1 a (i47+1))
def tS (a0:List oe) (f1:oe→Option Bool):Option Int :=
 sn f1 a0 0
def rM (f1:oe→Option Bool):Nat→(List oe)→Int→Int→Option (List oe)
 | 0,_,_,_=>none
 | j+1,d,a,g=>(if (decide (g < (d.length:Int))) then (((nY d g).bind λh=>(f1 h).bind λk=>(if (!k) then (nY d a).bind λs=>some ((d.set (Int.toNat a) h),wi0 .i64 (a+1)) else some (d,a))):Option ((List oe)×Int)).bind λ(i,q)=>(rM f1 j i q (wi0 .i64 (g+1))) else (rj (decide (0≤a)&&decide (a≤(d.length:Int)))).bind λ_=>(rj (decide (0≤a)&&decide (a≤((rr d (Int.toNat a) (⟨(⟨zS,zS⟩:lh),(⟨0,0,(⟨zS,zS⟩:lh),[]⟩:Formula),[]⟩:oe)).length:Int)))).bind λ_=>some ((rr d (Int.toNat a) (⟨(⟨zS,zS⟩:lh),(⟨0,0,(⟨zS,zS⟩:lh),[]⟩:Formula),[]⟩:oe)).take (Int.toNat a)))
def pu (a0:List oe) (f1:oe→Option Bool):Option (List oe) :=
 ((tS a0 f1).bind λa=>(if (a==(-1)) then some a0 else rM f1 mZ a0 a (wi0 .i64 (a+1))))
def zf (a0:oe) (a:lg):Option Bool :=
 ((tq a0.nP a).bind λd=>some (!d))
def DI (a0:lm) (d:lg):Option (List oe) :=
 ((sU a0.mi).bind λg=>(pu g λ(x:oe)=>zf x d).bind λa=>some a)
def uD (i:Int) (rec:Formula→Int→Option (Int×Int)):List Formula→Int→Int→Option (Int×Int)
 | [],a,g=>some (a,g)
 | j::h,a,g=>(if (decide (a > i)) then some (a,g) else (rec j (wi0 .i64 (i-a))).bind λd=>uD i rec h (wi0 .i64 (a+d.1)) (if d.2 > g then d.2 else g))
def AZ (rec:Formula→Int→Option (Int×Int)) (a0:Formula) (g:Int):Option (Int×Int) :=
 ((uD g rec a0.Kids 1 0).bind λ(a,d)=>some (a,wi0 .i64 (d+1)))
def sK:Nat→Formula→Int→Option (Int×Int)
 | 0=>λ_ _=>none
 | n+1=>AZ (sK n)
def CL (a0:Formula):Option (Int×Int) :=
 ((sK mZ a0 4096).bind λa=>(if (decide (a.1 > 4096)) then some (0,0) else some (a.1,a.2)))
def CG (a0:Formula):Option Bool :=
 (if (a0.Op==1) then (tF a0.lh).bind λh=>((if h then some ((a0.Kids.length:Int)==0) else some false).bind λi=>(if i then some (a0.K==0) else some false).bind λj=>some j) else (if (a0.Op==2) then some (a0.Op==2) else some (a0.Op==3)).bind λk=>(if k then (if (mq a0.lh (⟨zS,zS⟩:lh)) then some (a0.K==0) else some false).bind λq=>some q else (if (a0.Op==4) then some (mq a0.lh (⟨zS,zS⟩:lh)) else some false).bind λs=>(if s then some (decide (a0.K≥0)) else some false).bind λa=>(if a then some (decide (a0.K≤(a0.Kids.length:Int))) else some false).bind λd=>(if d then some (decide ((a0.Kids.length:Int)≥1)) else some false).bind λg=>some g))
def pS (f1:Formula→Option Bool):List Formula→Nat→Option Int
 | [],_=>some (-1)
 | g::a,i41=>(f1 g).bind λd=>(if d then some (i41:Int) else pS f1 a (i41+1))
def yo (a0:List Formula) (f1:Formula→Option Bool):Option Int :=
 pS f1 a0 0
def so (a0:List Formula) (f1:Formula→Option Bool):Option Bool :=
 ((yo a0 f1).bind λa=>some (decide (a≥0)))
def B7 (rec:Formula→Option Bool) (a0:Formula):Option Bool :=
 ((rec a0).bind λa=>some (!a))
def Bc (rec:Formula→Option Bool) (a0:Formula):Option Bool :=
 ((CG a0).bind λg=>(if g then some (decide ((a0.Kids.length:Int)≤8)) else some false).bind λh=>(if h then (so a0.Kids λ(x:Formula)=>B7 rec x).bind λa=>some (!a) else some false).bind λd=>some d)
def wM:Nat→Formula→Option Bool
 | 0=>λ_=>none
 | n+1=>Bc (wM n)
def sM (a0:Formula):Option Bool :=
 ((CL a0).bind λd=>(if (decide (d.1≥1)) then some (decide (d.1≤64)) else some false).bind λi=>(if i then some (decide (d.2≤6)) else some false).bind λg=>(if g then (wM mZ a0).bind λa=>some a else some false).bind λh=>some h)
def yO (a0:Formula) (a:Int):Option Bool :=
 ((if (a0.Op==a) then some ((a0.Kids.length:Int)==0) else some false).bind λx6=>some x6)
def Ey :Option Formula :=
 some (⟨2,0,(⟨zS,zS⟩:lh),[]⟩:Formula)
def E8 :Option Formula :=
 some (⟨3,0,(⟨zS,zS⟩:lh),[]⟩:Formula)
def vL (a0:Int):List Formula→(List Formula)→Option (List Formula)
 | [],a=>some a
 | d::g,a=>(if (d.Op==a0) then (oY 72 a d.Kids).bind λh=>(vL a0 g h) else (oY 72 a ([d])).bind λi=>vL a0 g i)
def Gf (a0:Int) (a:List Formula):Option (List Formula) :=
 vL a0 a ([])
def yz (a0:Formula) (a:Int):Option Bool :=
 ((yO a0 a).bind λd=>some d)
def xC (a0:List Formula):Option (List Formula) :=
 ((oY 72 ([]) a0).bind λa=>some a)
def nR (v:Int) (f3:(Formula×Formula)→Option Int):Nat→(List Formula)→Int→Option (List Formula)
 | 0,_,_=>none
 | i+1,d,a=>(if (decide (a > v)) then (nY d a).bind λq=>((nY d (wi0 .i64 (a-1))).bind λs=>(f3 (q,s)).bind λj=>some (decide (j < 0))) else some false).bind λk=>(if k then (nY d (wi0 .i64 (a-1))).bind λh=>((nY d a).bind λg=>(nY d a).bind λt=>(nY (d.set (Int.toNat a) h) (wi0 .i64 (a-1))).bind λu=>nR v f3 i ((d.set (Int.toNat a) h).set (Int.toNat (wi0 .i64 (a-1))) (⟨g.Op,g.K,g.lh,g.Kids⟩:Formula)) (wi0 .i64 (a-1))) else some d)
def oh (a2 i:Int) (f3:(Formula×Formula)→Option Int):Nat→(List Formula)→Int→Option (List Formula)
 | 0,_,_=>none
 | h+1,d,a=>(if (decide (a < a2)) then (nR i f3 mZ d a).bind λg=>(oh a2 i f3 h g (wi0 .i64 (a+1))) else some d)
def pv (a0:List Formula) (a a2:Int) (f3:(Formula×Formula)→Option Int):Option (List Formula) :=
 oh a2 a f3 mZ a0 (wi0 .i64 (a+1))
def oB (a3 a2 i:Int):Nat→(List Formula)→Int→Option (List Formula)
 | 0,_,_=>none
 | j+1,d,a=>(if (decide (a < a3)) then (nY d (wi0 .i64 (a2+a))).bind λh=>((nY d (wi0 .i64 (i+a))).bind λg=>(nY d (wi0 .i64 (i+a))).bind λk=>(nY (d.set (Int.toNat (wi0 .i64 (i+a))) h) (wi0 .i64 (a2+a))).bind λq=>oB a3 a2 i j ((d.set (Int.toNat (wi0 .i64 (i+a))) h).set (Int.toNat (wi0 .i64 (a2+a))) (⟨g.Op,g.K,g.lh,g.Kids⟩:Formula)) (wi0 .i64 (a+1))) else some d)
def pq (a0:List Formula) (a a2 a3:Int) (f4:(Formula×Formula)→Option Int):Option (List Formula) :=
 oB a3 a2 a mZ a0 0
def oQ (a2:Int) (f4:(Formula×Formula)→Option Int):Nat→(List Formula)→Int→Int→Option (List Formula)
 | 0,_,_,_=>none
 | n185+1,g,a,d=>(if (a != d) then if (decide (a > d)) then (pq g (wi0 .i64 (a2-a)) a2 d f4).bind λh=>(oQ a2 f4 n185 h (wi0 .i64 (a-d)) d) else ((pq g (wi0 .i64 (a2-a)) (wi0 .i64 ((wi0 .i64 (a2+d))-a)) a f4).bind λi=>oQ a2 f4 n185 i a (wi0 .i64 (d-a))) else (pq g (wi0 .i64 (a2-a)) a2 a f4).bind λj=>some j)
def pB (a0:List Formula) (a a2 a3:Int) (f4:(Formula×Formula)→Option Int):Option (List Formula) :=
 oQ a2 f4 mZ a0 (wi0 .i64 (a2-a)) (wi0 .i64 (a3-a2))
def oF (i:Int):Nat→(List Formula)→Int→Option (List Formula)
 | 0,_,_=>none
 | j+1,d,a=>(if (decide (a < (wi0 .i64 (i-1)))) then (nY d (wi0 .i64 (a+1))).bind λh=>((nY d a).bind λg=>(nY d a).bind λk=>(nY (d.set (Int.toNat a) h) (wi0 .i64 (a+1))).bind λq=>oF i j ((d.set (Int.toNat a) h).set (Int.toNat (wi0 .i64 (a+1))) (⟨g.Op,g.K,g.lh,g.Kids⟩:Formula)) (wi0 .i64 (a+1))) else some d)
def nF (a0:List Formula) (k:Int) (f4:(Formula×Formula)→Option Int):Nat→Int→Int→Option (List Formula)
 | 0,_,_=>none
 | n325+1,a,d=>(if (decide (a < d)) then (nY a0 (wi0 .i64 (Int.fdiv (IntKind.u64.wrap (wi0 .i64 (a+d))) (2 ^ min (Int.toNat 1) (IntKind.bits .u64))))).bind λi=>((nY a0 k).bind λj=>(f4 (i,j)).bind λh=>(if (decide (h < 0)) then nF a0 k f4 n325 (wi0 .i64 ((wi0 .i64 (Int.fdiv (IntKind.u64.wrap (wi0 .i64 (a+d))) (2 ^ min (Int.toNat 1) (IntKind.bits .u64))))+1)) d else nF a0 k f4 n325 a (wi0 .i64 (Int.fdiv (IntKind.u64.wrap (wi0 .i64 (a+d))) (2 ^ min (Int.toNat 1) (IntKind.bits .u64)))))) else (oF a mZ a0 k).bind λg=>some g)
def oE (h:Int):Nat→(List Formula)→Int→Option (List Formula)
 | 0,_,_=>none
 | j+1,d,a=>(if (decide (a > h)) then (nY d (wi0 .i64 (a-1))).bind λi=>((nY d a).bind λg=>(nY d a).bind λk=>(nY (d.set (Int.toNat a) i) (wi0 .i64 (a-1))).bind λq=>oE h j ((d.set (Int.toNat a) i).set (Int.toNat (wi0 .i64 (a-1))) (⟨g.Op,g.K,g.lh,g.Kids⟩:Formula)) (wi0 .i64 (a-1))) else some d)
def nG (a0:List Formula) (a2:Int) (f4:(Formula×Formula)→Option Int):Nat→Int→Int→Option (List Formula)
 | 0,_,_=>none
 | g+1,a,d=>(if (decide (a < d)) then (nY a0 a2).bind λj=>((nY a0 (wi0 .i64 (Int.fdiv (IntKind.u64.wrap (wi0 .i64 (a+d))) (2 ^ min (Int.toNat 1) (IntKind.bits .u64))))).bind λk=>(f4 (j,k)).bind λi=>(if (!(decide (i < 0))) then nG a0 a2 f4 g (wi0 .i64 ((wi0 .i64 (Int.fdiv (IntKind.u64.wrap (wi0 .i64 (a+d))) (2 ^ min (Int.toNat 1) (IntKind.bits .u64))))+1)) d else nG a0 a2 f4 g a (wi0 .i64 (Int.fdiv (IntKind.u64.wrap (wi0 .i64 (a+d))) (2 ^ min (Int.toNat 1) (IntKind.bits .u64)))))) else (oE a mZ a0 a2).bind λh=>some h)
def nr (a0:List Formula) (g a3 a2:Int) (f4:(Formula×Formula)→Option Int) (rec:(List Formula)→Int→Int→Int→((Formula×Formula)→Option Int)→Option (List Formula)):Nat→Int→Int→Option (List Formula)
 | 0,_,_=>none
 | j+1,a,d=>(if (decide (a < d)) then (nY a0 (wi0 .i64 ((wi0 .i64 ((wi0 .i64 ((wi0 .i64 (Int.fdiv (IntKind.u64.wrap (wi0 .i64 (g+a3))) (2 ^ min (Int.toNat 1) (IntKind.bits .u64))))+a2))-1))-(wi0 .i64 (Int.fdiv (IntKind.u64.wrap (wi0 .i64 (a+d))) (2 ^ min (Int.toNat 1) (IntKind.bits .u64))))))).bind λu=>((nY a0 (wi0 .i64 (Int.fdiv (IntKind.u64.wrap (wi0 .i64 (a+d))) (2 ^ min (Int.toNat 1) (IntKind.bits .u64))))).bind λv=>(f4 (u,v)).bind λk=>(if (!(decide (k < 0))) then nr a0 g a3 a2 f4 rec j (wi0 .i64 ((wi0 .i64 (Int.fdiv (IntKind.u64.wrap (wi0 .i64 (a+d))) (2 ^ min (Int.toNat 1) (IntKind.bits .u64))))+1)) d else nr a0 g a3 a2 f4 rec j a (wi0 .i64 (Int.fdiv (IntKind.u64.wrap (wi0 .i64 (a+d))) (2 ^ min (Int.toNat 1) (IntKind.bits .u64)))))) else (((if (decide (a < a2)) then some (decide (a2 < (wi0 .i64 ((wi0 .i64 ((wi0 .i64 (Int.fdiv (IntKind.u64.wrap (wi0 .i64 (g+a3))) (2 ^ min (Int.toNat 1) (IntKind.bits .u64))))+a2))-a)))) else some false).bind λz=>(if z then (pB a0 a a2 (wi0 .i64 ((wi0 .i64 ((wi0 .i64 (Int.fdiv (IntKind.u64.wrap (wi0 .i64 (g+a3))) (2 ^ min (Int.toNat 1) (IntKind.bits .u64))))+a2))-a)) f4).bind λt=>some t else some a0)):Option (List Formula)).bind λh=>(((if (decide (g < a)) then some (decide (a < (wi0 .i64 (Int.fdiv (IntKind.u64.wrap (wi0 .i64 (g+a3))) (2 ^ min (Int.toNat 1) (IntKind.bits .u64)))))) else some false).bind λy=>(if y then (rec h g a (wi0 .i64 (Int.fdiv (IntKind.u64.wrap (wi0 .i64 (g+a3))) (2 ^ min (Int.toNat 1) (IntKind.bits .u64)))) f4).bind λs=>some s else some h)):Option (List Formula)).bind λi=>(if (decide ((wi0 .i64 (Int.fdiv (IntKind.u64.wrap (wi0 .i64 (g+a3))) (2 ^ min (Int.toNat 1) (IntKind.bits .u64)))) < (wi0 .i64 ((wi0 .i64 ((wi0 .i64 (Int.fdiv (IntKind.u64.wrap (wi0 .i64 (g+a3))) (2 ^ min (Int.toNat 1) (IntKind.bits .u64))))+a2))-a)))) then some (decide ((wi0 .i64 ((wi0 .i64 ((wi0 .i64 (Int.fdiv (IntKind.u64.wrap (wi0 .i64 (g+a3))) (2 ^ min (Int.toNat 1) (IntKind.bits .u64))))+a2))-a)) < a3)) else some false).bind λx=>(if x then (rec i (wi0 .i64 (Int.fdiv (IntKind.u64.wrap (wi0 .i64 (g+a3))) (2 ^ min (Int.toNat 1) (IntKind.bits .u64)))) (wi0 .i64 ((wi0 .i64 ((wi0 .i64 (Int.fdiv (IntKind.u64.wrap (wi0 .i64 (g+a3))) (2 ^ min (Int.toNat 1) (IntKind.bits .u64))))+a2))-a)) a3 f4).bind λq=>some q else some i))
def ui (rec:(List Formula)→Int→Int→Int→((Formula×Formula)→Option Int)→Option (List Formula)) (a0:List Formula) (a a2 a3:Int) (f4:(Formula×Formula)→Option Int):Option (List Formula) :=
 (if ((wi0 .i64 (a2-a))==1) then nF a0 a f4 mZ a2 a3 else if ((wi0 .i64 (a3-a2))==1) then nG a0 a2 f4 mZ a a2 else ((if (decide (a2 > (wi0 .i64 (Int.fdiv (IntKind.u64.wrap (wi0 .i64 (a+a3))) (2 ^ min (Int.toNat 1) (IntKind.bits .u64)))))) then some ((wi0 .i64 ((wi0 .i64 ((wi0 .i64 (Int.fdiv (IntKind.u64.wrap (wi0 .i64 (a+a3))) (2 ^ min (Int.toNat 1) (IntKind.bits .u64))))+a2))-a3)),wi0 .i64 (Int.fdiv (IntKind.u64.wrap (wi0 .i64 (a+a3))) (2 ^ min (Int.toNat 1) (IntKind.bits .u64)))) else some (a,a2)):Option (Int×Int)).bind λ(d,g)=>nr a0 a a3 a2 f4 rec mZ d g)
def nJ:Nat→(List Formula)→Int→Int→Int→((Formula×Formula)→Option Int)→Option (List Formula)
 | 0=>λ_ _ _ _ _=>none
 | n+1=>ui (nJ n)
def oN (k d:Int) (f2:(Formula×Formula)→Option Int):Nat→(List Formula)→Int→Int→Option ((List Formula)×Int)
 | 0,_,_,_=>none
 | i+1,h,g,a=>(if (decide (a≤k)) then (nJ mZ h g (wi0 .i64 (g+d)) a f2).bind λj=>(oN k d f2 i j a (wi0 .i64 (a+(wi0 .i64 (2*d))))) else some (h,g))
def oM (q:Int) (f2:(Formula×Formula)→Option Int):Nat→(List Formula)→Int→Option (List Formula)
 | 0,_,_=>none
 | j+1,g,a=>(if (decide (a < q)) then (oN q a f2 mZ g 0 (wi0 .i64 (2*a))).bind λ(h,d)=>(((if (decide ((wi0 .i64 (d+a)) < q)) then (nJ mZ h d (wi0 .i64 (d+a)) q f2).bind λk=>some k else some h):Option (List Formula)).bind λi=>oM q f2 j i (wi0 .i64 (a*2))) else some g)
def oP (k:Int) (f2:(Formula×Formula)→Option Int):Nat→(List Formula)→Int→Int→Option (List Formula)
 | 0,_,_,_=>none
 | n123+1,g,j,a=>(if (decide (a≤k)) then (pv g j a f2).bind λh=>(oP k f2 n123 h a (wi0 .i64 (a+20))) else (pv g j k f2).bind λi=>(oM k f2 mZ i 20).bind λd=>some d)
def wH (a0:List Formula) (a:Int) (f2:(Formula×Formula)→Option Int):Option (List Formula) :=
 oP a f2 mZ a0 0 20
def tM (a0:List Formula) (f1:(Formula×Formula)→Option Int):Option (List Formula) :=
 ((wH a0 (a0.length:Int) f1).bind λa=>some a)
def vO (rec:(List Int)→Formula→Option (List Int)):List Formula→(List Int)→Option (List Int)
 | [],a=>some a
 | h::d,a=>(rec a h).bind λg=>vO rec d g
def Bh (rec:(List Int)→Formula→Option (List Int)) (d:List Int) (a:Formula):Option (List Int) :=
 ((nL d a.Op).bind λj=>(if (a.Op==1) then (uA j.2 a.lh).bind λi=>some i.2 else ((if (a.Op==4) then (nL j.2 a.K).bind λg=>some g.2 else some j.2):Option (List Int)).bind λh=>(nL h (a.Kids.length:Int)).bind λk=>vO rec a.Kids k.2))
def ve:Nat→(List Int)→Formula→Option (List Int)
 | 0=>λ_ _=>none
 | n+1=>Bh (ve n)
def BV (a:List Int) (d:Formula):Option (Bool×(List Int)) :=
 ((sM d).bind λg=>(if (!g) then some (false,a) else (ve mZ a d).bind λh=>some (true,h)))
def yt (a0:Formula):Option (List Int) :=
 ((BV ([]) a0).bind λd=>(si d.2).bind λa=>some a)
def Av (a0 h:Formula):Option Int :=
 ((yt a0).bind λa=>(yt h).bind λd=>(BY a d).bind λg=>some g)
def vW (a0:List Formula):Option (List Formula) :=
 ((xC a0).bind λd=>(tM d λ(x:(Formula×Formula))=>Av x.1 x.2).bind λa=>some a)
def pc (d:Int) (f1:(Formula×Formula)→Option Bool):Nat→(List Formula)→Int→Int→Option ((List Formula)×Int)
 | 0,_,_,_=>none
 | j+1,a,g,h=>(if (decide (h < ((a.length-(Int.toNat d):Nat):Int))) then (((nY (a.drop (Int.toNat d)) h).bind λs=>(nY (a.drop (Int.toNat d)) (wi0 .i64 (h-1))).bind λt=>(f1 (s,t)).bind λk=>(if (!k) then (nY (a.drop (Int.toNat d)) h).bind λu=>((nY a g).bind λv=>some ((a.set (Int.toNat g) u),wi0 .i64 (g+1))) else some (a,g))):Option ((List Formula)×Int)).bind λ(i,q)=>(pc d f1 j i q (wi0 .i64 (h+1))) else some (a,g))
def oZ (a0:List Formula) (f1:(Formula×Formula)→Option Bool):Nat→Int→Option (List Formula)
 | 0,_=>none
 | h+1,a=>(if (decide (a < (a0.length:Int))) then (nY a0 a).bind λj=>((nY a0 (wi0 .i64 (a-1))).bind λk=>(f1 (j,k)).bind λi=>(if i then (rj (decide (0≤a)&&decide (a≤(a0.length:Int)))).bind λ_=>((pc a f1 mZ a0 a 1).bind λ(g,d)=>(rj (decide (0≤d)&&decide (d≤(g.length:Int)))).bind λ_=>(rj (decide (0≤d)&&decide (d≤((rr g (Int.toNat d) (⟨0,0,(⟨zS,zS⟩:lh),[]⟩:Formula)).length:Int)))).bind λ_=>some ((rr g (Int.toNat d) (⟨0,0,(⟨zS,zS⟩:lh),[]⟩:Formula)).take (Int.toNat d))) else oZ a0 f1 h (wi0 .i64 (a+1)))) else some a0)
def uP (a0:List Formula) (f1:(Formula×Formula)→Option Bool):Option (List Formula) :=
 (if (decide ((a0.length:Int) < 2)) then some a0 else oZ a0 f1 mZ 1)
def nD (i:List Formula) (f2:(Formula×Formula)→Option Bool):List Formula→Nat→Option Bool
 | [],_=>some true
 | h::g,i95=>(nY i (i95:Int)).bind λd=>(f2 (h,d)).bind λa=>(if (!a) then some false else nD i f2 g (i95+1))
def pa (a0 a:List Formula) (f2:(Formula×Formula)→Option Bool):Option Bool :=
 (if ((a0.length:Int) != (a.length:Int)) then some false else nD a f2 a0 0)
def BF (rec:Formula→Formula→Option Bool) (a0 a:Formula):Option Bool :=
 ((if (a0.Op==a.Op) then some (a0.K==a.K) else some false).bind λg=>(if g then some (mq a0.lh a.lh) else some false).bind λh=>(if h then (pa a0.Kids a.Kids λ(x:(Formula×Formula))=>rec x.1 x.2).bind λd=>some d else some false).bind λi=>some i)
def tO:Nat→Formula→Formula→Option Bool
 | 0=>λ_ _=>none
 | n+1=>BF (tO n)
def sF (a0:nq) (g:Int) (a2:List Formula):Option (Formula×nq) :=
 ((Gf g a2).bind λk=>(so k λ(x:Formula)=>yz x (wi0 .i64 (5-g))).bind λh=>(if h then some ((⟨wi0 .i64 (5-g),0,(⟨zS,zS⟩:lh),[]⟩:Formula),a0) else (vW k).bind λi=>(uP i λ(x:(Formula×Formula))=>tO mZ x.1 x.2).bind λa=>((if (decide ((a.length:Int) > 64)) then some (⟨12⟩:nq) else some a0):Option nq).bind λd=>(if ((a.length:Int)==1) then (nY a 0).bind λj=>some (j,d) else some ((⟨g,0,(⟨zS,zS⟩:lh),a⟩:Formula),d))))
def oX (a0:nq):List Formula→Int→(List Formula)→Option (Formula×nq)
 | [],d,a=>(if (decide (d≤0)) then Ey.bind λt=>some (t,a0) else if (decide (d > (a.length:Int))) then E8.bind λu=>some (u,a0) else if (d==(a.length:Int)) then (sF a0 2 a).bind λi=>some (i.1,i.2) else if (d==1) then (sF a0 3 a).bind λj=>some (j.1,j.2) else (vW a).bind λv=>some ((⟨4,d,(⟨zS,zS⟩:lh),v⟩:Formula),a0))
 | h::g,d,a=>(yO h 2).bind λq=>(if q then oX a0 g (wi0 .i64 (d-1)) a else (yO h 3).bind λs=>(if (!s) then (oY 72 a ([h])).bind λk=>(oX a0 g d k) else oX a0 g d a))
def we (a0:nq) (a:Int) (a2:List Formula):Option (Formula×nq) :=
 oX a0 a2 a ([])
def rN (rec:nq→Formula→Option (Formula×nq)) (s:Formula):List Formula→(List Formula)→nq→Option (Formula×nq)
 | [],a,d=>(if (s.Op==4) then (we d s.K a).bind λh=>some (h.1,h.2) else (sF d s.Op a).bind λi=>some (i.1,i.2))
 | q::j,a,d=>(rec d q).bind λg=>(oY 72 a ([g.1])).bind λk=>rN rec s j k g.2
def xw (rec:nq→Formula→Option (Formula×nq)) (a0:nq) (a:Formula):Option (Formula×nq) :=
 (if (a.Op==1) then some (a,a0) else rN rec a a.Kids ([]) a0)
def pK:Nat→nq→Formula→Option (Formula×nq)
 | 0=>λ_ _=>none
 | n+1=>xw (pK n)
def Dw (a0:Formula):Option (Formula×Int) :=
 ((sM a0).bind λh=>(if (!h) then some ((⟨0,0,(⟨zS,zS⟩:lh),[]⟩:Formula),11) else (pK mZ (⟨0⟩:nq) a0).bind λa=>(if (a.2.e != 0) then some true else (sM a.1).bind λd=>some (!d)).bind λg=>(if g then some ((⟨0,0,(⟨zS,zS⟩:lh),[]⟩:Formula),12) else some (a.1,0))))
def DF (a0 d:Formula):Option (Formula×Int) :=
 ((Dw (⟨2,0,(⟨zS,zS⟩:lh),[a0,d]⟩:Formula)).bind λa=>some (a.1,a.2))
def yM :List Formula→Int→Int→Int→lh→(List Formula)→Option (Int×Int×Int×lh×(List Formula))
 | [],g,h,i,j,d=>some (g,h,i,j,d)
 | q::k,g,h,i,j,d=>(if (g != 0) then some (g,h,i,j,d) else (DF (⟨h,i,j,d⟩:Formula) q).bind λa=>yM k a.2 a.1.Op a.1.K a.1.lh a.1.Kids)
def BA (a0:List Formula):Option (Formula×Int) :=
 ((nY a0 0).bind λx6=>(Dw x6).bind λa=>(rj (decide (0≤1)&&decide (1≤(a0.length:Int)))).bind λ_=>(yM (a0.drop (Int.toNat 1)) a.2 a.1.Op a.1.K a.1.lh a.1.Kids).bind λ(d,h,i,j,g)=>(if (d != 0) then some ((⟨0,0,(⟨zS,zS⟩:lh),[]⟩:Formula),d) else some ((⟨h,i,j,g⟩:Formula),0)))
def zx :List oe→(List Formula)→Option (Formula×Int)
 | [],a=>(BA a).bind λd=>some (d.1,d.2)
 | i::g,a=>(oY 72 a ([i.lB])).bind λh=>zx g h
def zX (a0:lm) (g:lg):Option (Formula×Int) :=
 ((Es a0 g).bind λa=>(if (!a.2) then some ((⟨0,0,(⟨zS,zS⟩:lh),[]⟩:Formula),42) else (DI a0 g).bind λd=>zx d ([a.1.lB])))
def uC (rec:Formula→(lh→Option Bool)→Option Bool) (f1:lh→Option Bool) (a0:Formula):List Formula→Int→Option Bool
 | [],a=>(if (a0.Op==2) then some (a==(a0.Kids.length:Int)) else if (a0.Op==3) then some (decide (a > 0)) else some (decide (a≥a0.K)))
 | h::d,a=>(rec h f1).bind λg=>(if g then uC rec f1 a0 d (wi0 .i64 (a+1)) else uC rec f1 a0 d a)
def A8 (rec:Formula→(lh→Option Bool)→Option Bool) (a0:Formula) (f1:lh→Option Bool):Option Bool :=
 (if (a0.Op==1) then (f1 a0.lh).bind λa=>some a else uC rec f1 a0 a0.Kids 0)
def vh:Nat→Formula→(lh→Option Bool)→Option Bool
 | 0=>λ_ _=>none
 | n+1=>A8 (vh n)
def tR (a0:Formula) (f1:lh→Option Bool):Option Bool :=
 ((sM a0).bind λg=>(if g then (vh mZ a0 f1).bind λa=>some a else some false).bind λd=>some d)
def zV (a0:lh) (i:List (lh×(List (ByteArray×Bool)))) (a:List lg) (h:List (lh×(List lg))) (d:List (ByteArray×(List lg))) (g:List mT) (j:Int) (c1:ByteArray):Option Bool :=
 ((ux i a h d g j a0 c1).bind λk=>some k)
def wG (a0:lm) (g:((List (lh×(List (ByteArray×Bool))))×(List lg)×(List (lh×(List lg)))×(List (ByteArray×(List lg)))×(List mT)×Int×ByteArray)):List np→(List lg)→Option (List lg)
 | [],a=>(pD a).bind λk=>some k
 | h::d,a=>(zX a0 h.Signed.lg).bind λr417=>(if (r417.2==0) then (tR r417.1 λ(x:lh)=>zV x g.1 g.2.1 g.2.2.1 g.2.2.2.1 g.2.2.2.2.1 g.2.2.2.2.2.1 g.2.2.2.2.2.2).bind λj=>some j else some false).bind λq=>(if q then (oY 136 a ([h.Signed.lg])).bind λi=>(wG a0 g d i) else wG a0 g d a)
def wA (a0:lm) (a:List lg) (a2:ByteArray):Option (List lg) :=
 ((EA a a2).bind λd=>wG a0 d a0.lK ([]))
def Ix (a0 q:lm):Nat→(List lg)→(List lg)→Int→Option ((List lg)×(List lg)×Int)
 | 0,_,_,_=>none
 | j+1,a,d,i=>(wA a0 d q.Name).bind λg=>(wA q a a0.Name).bind λh=>(if ((g.length:Int)==(a.length:Int)) then some ((h.length:Int)==(d.length:Int)) else some false).bind λk=>(if k then some (a,d,i) else Ix a0 q j g h (wi0 .i64 (i+1)))
def SM (a0 a:lm):Option ((List lg)×(List lg)×Int) :=
 Ix a0 a mZ ([]) ([]) 0
def xp (rec:(List Formula)→Option Int):List Formula→Int→Option Int
 | [],d=>some d
 | a::h,d=>(rec a.Kids).bind λg=>xp rec h (wi0 .i64 (d+(wi0 .i64 ((wi0 .i64 (1+(wi0 .i64 (Int.tdiv (wi0 .i64 ((a.lh.lu.size:Int)+(a.lh.Word.size:Int))) 16))))+g))))
def B4 (rec:(List Formula)→Option Int) (a0:List Formula):Option Int :=
 xp rec a0 0
def sy:Nat→(List Formula)→Option Int
 | 0=>λ_=>none
 | n+1=>B4 (sy n)
def xr :List oe→Int→Option Int
 | [],d=>some d
 | a::g,d=>(sy mZ ([a.lB])).bind λh=>(tB a.nP).bind λi=>xr g (wi0 .i64 (d+(wi0 .i64 ((wi0 .i64 ((wi0 .i64 ((a.lh.lu.size:Int)+(a.lh.Word.size:Int)))+(wi0 .i64 (20*h))))+i))))
def xm (a0:lm):List np→Int→Option Int
 | [],a=>(xr a0.mi a).bind λg=>some g
 | d::h,a=>(((wY ([]) ([d.Signed])).bind λk=>some (k,[d.lB])):Option (Int×(List Formula))).bind λ(q,i)=>(sy mZ i).bind λj=>xm a0 h (wi0 .i64 (a+(wi0 .i64 (q+(wi0 .i64 (20*j))))))
def zD (a0:lm):Option Int :=
 xm a0 a0.lK (a0.Name.size:Int)
def J3 (a0:Io):Option Int :=
 ((((zD a0.lu).bind λh=>(zD a0.Client).bind λi=>some ((wi0 .i64 (h+i)),[a0.Formula])):Option (Int×(List Formula))).bind λ(j,a)=>(sy mZ a).bind λd=>(wY a0.Keys ([])).bind λg=>some (wi0 .i64 ((wi0 .i64 (j+(wi0 .i64 (20*d))))+g)))
def Qk (a0 g:lm):Option ((List lg)×(List (lh×(List (ByteArray×Bool))))×(List lg)×(List (lh×(List lg)))×(List (ByteArray×(List lg)))×(List mT)×Int×ByteArray) :=
 ((SM a0 g).bind λd=>(zJ d.2.1).bind λa=>some (d.2.1,a.1,a.2.1,a.2.2.1,a.2.2.2.1,a.2.2.2.2.1,a.2.2.2.2.2,g.Name))
def M0 (a0:lh) (i:List (lh×(List (ByteArray×Bool)))) (a:List lg) (h:List (lh×(List lg))) (d:List (ByteArray×(List lg))) (g:List mT) (k:Int) (j:ByteArray) (q:List np) (s:List oe):Option Bool :=
 ((ux i a h d g k a0 j).bind λt=>some t)
def N4 (a0 d:lm) (a2:Formula):Option Bool :=
 ((Qk a0 d).bind λa=>(tR a2 λ(x:lh)=>M0 x a.2.1 a.2.2.1 a.2.2.2.1 a.2.2.2.2.1 a.2.2.2.2.2.1 a.2.2.2.2.2.2.1 a.2.2.2.2.2.2.2 d.lK d.mi).bind λg=>some g)
def wi (a0:List oe) (f1:oe→Option Bool):Option Bool :=
 ((tS a0 f1).bind λa=>some (decide (a≥0)))
def Eo (a0:oe):Option Bool :=
 some (decide ((a0.nP.length:Int) > 32))
def EN (a0:lm):Option Bool :=
 ((if (decide ((a0.lK.length:Int) > 256)) then some true else some (decide ((a0.mi.length:Int) > 8))).bind λx8=>(if x8 then some true else (wi a0.mi λ(x:oe)=>Eo x).bind λa=>some a).bind λd=>some d)
def vn (h:List lg):List lg→Nat→Option Bool
 | [],_=>some true
 | g::d,i90=>(nY h (i90:Int)).bind λa=>(if (!(ni g a)) then some false else vn h d (i90+1))
def tV (a0 a:List lg):Option Bool :=
 (if ((a0.length:Int) != (a.length:Int)) then some false else vn a a0 0)
def AG (a0:List lg):Option Bool :=
 ((pD a0).bind λd=>(tV d a0).bind λa=>some a)
def xi :List np→(List lg)→Option Bool
 | [],a=>(AG a).bind λj=>some j
 | d::g,a=>(if ((d.Signed.Tag.length:Int) != 8) then some true else (sM d.lB).bind λi=>some (!i)).bind λk=>(if k then some false else (oY 136 a ([d.Signed.lg])).bind λh=>xi g h)
def Gc (a0:lm):Option Bool :=
 xi a0.lK ([])
def yj (a0:List oe):List oe→Nat→Option Bool
 | [],_=>some true
 | a::g,d=>(tF a.lh).bind λh=>(if (!h) then some true else (sM a.lB).bind λk=>some (!k)).bind λq=>(if q then some true else (AG a.nP).bind λj=>some (!j)).bind λs=>(if s then some true else (if (decide ((d:Int) > 0)) then (nY a0 (wi0 .i64 ((d:Int)-1))).bind λv=>((vV v.lh a.lh).bind λi=>some (decide (i≥0))) else some false).bind λu=>some u).bind λt=>(if t then some false else yj a0 g (d+1))
def GR (a0:List oe):Option Bool :=
 yj a0 a0 0
def um (a0:List np) (f1:np→Option Bool):Option Bool :=
 ((tK a0 f1).bind λa=>some (decide (a≥0)))
def Dh (a0:np) (g:ByteArray) (a:List np) (d:List oe):Option Bool :=
 ((zX (⟨g,a,d⟩:lm) a0.Signed.lg).bind λh=>some (h.2 != 0))
def CC (a0:lm):Option Bool :=
 ((um a0.lK λ(x:np)=>Dh x a0.Name a0.lK a0.mi).bind λa=>some (!a))
def DE (a0:lm):Option Int :=
 ((sG a0.Name).bind λk=>(if (!k) then some 30 else (EN a0).bind λa=>(if a then some 12 else (Gc a0).bind λd=>(if (!d) then some true else (GR a0.mi).bind λh=>some (!h)).bind λi=>(if i then some true else (CC a0).bind λg=>some (!g)).bind λj=>(if j then some 11 else some 0))))
def E4 (a0:lg) (h:ByteArray) (d:List np) (g:List oe) (q:ByteArray) (s:Int) (i a:List lg) (j k:List lh):Option Bool :=
 ((tq a a0).bind λt=>some t)
def BB (a0:mD):Option (List lg) :=
 ((wA a0.lm a0.lD a0.mI).bind λa=>(ry a λ(x:lg)=>E4 x a0.lm.Name a0.lm.lK a0.lm.mi a0.mI a0.Room a0.lD a0.Shown a0.lL a0.me).bind λd=>some d)
def zw (a0:mD):Option (List lg) :=
 ((BB a0).bind λa=>(rj (decide (0≤(if 8 < (a.length:Int) then 8 else (a.length:Int)))&&decide ((if 8 < (a.length:Int) then 8 else (a.length:Int))≤(a.length:Int)))).bind λ_=>some (a.take (Int.toNat (if 8 < (a.length:Int) then 8 else (a.length:Int)))))
def Kn (a0:mD):Option Bool :=
 ((zw a0).bind λa=>some ((a.length:Int)==0))
def yQ (g:lg):List np→Option (Signed×Bool)
 | []=>some ((⟨(⟨0,(⟨zS,zS⟩:lh),zS,(⟨zS,zS⟩:lh),(⟨zS,zS⟩:lh),zS⟩:lg),[]⟩:Signed),false)
 | a::d=>(if (ni a.Signed.lg g) then some (a.Signed,true) else yQ g d)
def Dx (a0:lm) (a:lg):Option (Signed×Bool) :=
 yQ a a0.lK
def AR (a0:mD):Option ((List (lh×(List (ByteArray×Bool))))×(List lg)×(List (lh×(List lg)))×(List (ByteArray×(List lg)))×(List mT)×Int×ByteArray×ByteArray×Int) :=
 ((zJ a0.lD).bind λa=>some (a.1,a.2.1,a.2.2.1,a.2.2.2.1,a.2.2.2.2.1,a.2.2.2.2.2,a0.lm.Name,a0.mI,a0.Room))
def xT (a0:lh) (j:List (lh×(List (ByteArray×Bool)))) (a:List lg) (h:List (lh×(List lg))) (d:List (ByteArray×(List lg))) (g:List mT) (u:Int) (q:ByteArray) (i:List np) (k:List oe) (s:ByteArray) (z:Int) (t y:List lg) (v x:List lh):Option Bool :=
 ((ux j a h d g u a0 s).bind λI=>some I)
def EL (a0:mD) (i:lg):Option Bool :=
 ((zX a0.lm i).bind λd=>(if (d.2==0) then (AR a0).bind λa=>((tR d.1 λ(x:lh)=>xT x a.1 a.2.1 a.2.2.1 a.2.2.2.1 a.2.2.2.2.1 a.2.2.2.2.2.1 a.2.2.2.2.2.2.1 a0.lm.lK a0.lm.mi a.2.2.2.2.2.2.2.1 a.2.2.2.2.2.2.2.2 a0.lD a0.Shown a0.lL a0.me).bind λg=>some g) else some false).bind λh=>some h)
def wS (a0:mD):List lg→Option (Int ⊕ Unit)
 | []=>some (Sum.inr ())
 | g::a=>(EL a0 g).bind λd=>(if (!d) then some (Sum.inl 44) else wS a0 a)
def wT (a0:mD) (i:List lg):List lg→Option Int
 | []=>((wS a0 i).bind λs=>match s with | .inl d=>some d | .inr _=>some 0)
 | h::a=>(Dx a0.lm h).bind λg=>(if (!g.2) then some 42 else wT a0 i a)
def E6 (a0:mD) (a:List lg):Option Int :=
 (if (decide ((a.length:Int) > 8)) then some 12 else wT a0 a a)
def zk (a0:List Int):Option (List Int) :=
 ((oY 1 ([]) a0).bind λa=>some a)
def xA (d:Int):Option (List lg) :=
 (if (decide (d < 0)) then none else ((if (decide ((wi0 .i64 (d-(wi0 .i64 (0-0)))) > 0)) then (JP 136 (⟨0,(⟨zS,zS⟩:lh),zS,(⟨zS,zS⟩:lh),(⟨zS,zS⟩:lh),zS⟩:lg) (wi0 .i64 (d-(wi0 .i64 (0-0))))).bind λa=>((rj (decide (0≤0)&&decide (0≤(a.length:Int)))).bind λ_=>some (a.take (Int.toNat 0))) else some ([])):Option (List lg)).bind λg=>some g)
def sX :List (List lg)→(List lg)→Option (List lg)
 | [],a=>some a
 | h::d,a=>(oY 136 a h).bind λg=>sX d g
def tf (a0:List (List lg)):List (List lg)→Int→Option (List lg)
 | [],a=>(xA a).bind λi=>(sX a0 i).bind λd=>some d
 | g::h,a=>(if (decide ((wi0 .i64 (a+(g.length:Int))) < 0)) then none else tf a0 h (wi0 .i64 (a+(g.length:Int))))
def wE (a0:List (List lg)):Option (List lg) :=
 tf a0 a0 0
def vj (a0:mD) (y:List lg):List lg→(List Signed)→Option ((List Signed)×Int×mD)
 | [],a=>(wE ([a0.Shown,y])).bind λj=>(pD j).bind λk=>some (a,0,(⟨(⟨a0.lm.Name,a0.lm.lK,a0.lm.mi⟩:lm),a0.mI,a0.Room,a0.lD,k,a0.lL,a0.me⟩:mD))
 | t::s,a=>(((Dx a0.lm t).bind λd=>some (d.1.lg,d.1.Tag,d.2,(⟨0,(⟨zS,zS⟩:lh),zS,(⟨zS,zS⟩:lh),(⟨zS,zS⟩:lh),zS⟩:lg),[])):Option (lg×(List Int)×Bool×lg×(List Int))).bind λ(q,g,v,x,u)=>(zk g).bind λi=>(oY 160 a ([(⟨q,i⟩:Signed)])).bind λh=>vj a0 y s h
def zd (a0:mD) (a:List lg):Option ((List Signed)×Int×mD) :=
 ((E6 a0 a).bind λd=>(if (d != 0) then some ([],d,a0) else (pD a).bind λg=>vj a0 a g ([])))
def CM (a0:mD):Option (ow×Int×mD) :=
 ((zw a0).bind λd=>(zd (⟨(⟨a0.lm.Name,a0.lm.lK,a0.lm.mi⟩:lm),a0.mI,a0.Room,a0.lD,a0.Shown,a0.lL,a0.me⟩:mD) d).bind λa=>(if (a.2.1 != 0) then some ((⟨0,0,0,zS,[],[]⟩:ow),a.2.1,a.2.2) else some ((⟨2,0,0,zS,[],a.1⟩:ow),0,a.2.2)))
def yL (a0:ow):Option Bool :=
 ((if (a0.Kind==2) then some ((wi0 .i64 ((a0.nX.length:Int)+(a0.nm.length:Int)))==0) else some false).bind λx8=>some x8)
def xt :List lh→Int→Option Int
 | [],a=>some a
 | d::g,a=>xt g (wi0 .i64 (a+(wi0 .i64 ((wi0 .i64 (5+(d.lu.size:Int)))+(d.Word.size:Int)))))
def zz (a0:mD):Option Int :=
 ((zD a0.lm).bind λg=>(tB a0.lD).bind λh=>(tB a0.Shown).bind λi=>(oY 32 ([]) a0.lL).bind λa=>(oY 32 a a0.me).bind λd=>xt d (wi0 .i64 ((wi0 .i64 ((wi0 .i64 (g+(a0.mI.size:Int)))+h))+i)))
def tU (a0:List lh):Option (List lh) :=
 ((oY 32 ([]) a0).bind λa=>some a)
def tE (f1:lh→Option Bool):List lh→Nat→Option Int
 | [],_=>some (-1)
 | g::a,i35=>(f1 g).bind λd=>(if d then some (i35:Int) else tE f1 a (i35+1))
def zp (a0:List lh) (f1:lh→Option Bool):Option Int :=
 tE f1 a0 0
def rC (f1:lh→Option Bool):Nat→(List lh)→Int→Int→Option (List lh)
 | 0,_,_,_=>none
 | n321+1,d,a,g=>(if (decide (g < (d.length:Int))) then (((nY d g).bind λh=>(f1 h).bind λj=>(if (!j) then (nY d a).bind λq=>some ((d.set (Int.toNat a) h),wi0 .i64 (a+1)) else some (d,a))):Option ((List lh)×Int)).bind λ(i,k)=>(rC f1 n321 i k (wi0 .i64 (g+1))) else (rj (decide (0≤a)&&decide (a≤(d.length:Int)))).bind λ_=>(rj (decide (0≤a)&&decide (a≤((rr d (Int.toNat a) (⟨zS,zS⟩:lh)).length:Int)))).bind λ_=>some ((rr d (Int.toNat a) (⟨zS,zS⟩:lh)).take (Int.toNat a)))
def uo (a0:List lh) (f1:lh→Option Bool):Option (List lh) :=
 ((zp a0 f1).bind λa=>(if (a==(-1)) then some a0 else rC f1 mZ a0 a (wi0 .i64 (a+1))))
def Ge (a0:lh):Option Bool :=
 ((tF a0).bind λa=>some (!a))
def sA (d:Int):Nat→(List lh)→Int→Int→Option ((List lh)×Int)
 | 0,_,_,_=>none
 | j+1,a,g,h=>(if (decide (h < ((a.length-(Int.toNat d):Nat):Int))) then (((nY (a.drop (Int.toNat d)) h).bind λq=>(nY (a.drop (Int.toNat d)) (wi0 .i64 (h-1))).bind λs=>(if (!(mq q s)) then (nY (a.drop (Int.toNat d)) h).bind λt=>((nY a g).bind λu=>some ((a.set (Int.toNat g) t),wi0 .i64 (g+1))) else some (a,g))):Option ((List lh)×Int)).bind λ(i,k)=>(sA d j i k (wi0 .i64 (h+1))) else some (a,g))
def sH (a0:List lh):Nat→Int→Option (List lh)
 | 0,_=>none
 | h+1,a=>(if (decide (a < (a0.length:Int))) then (nY a0 a).bind λi=>((nY a0 (wi0 .i64 (a-1))).bind λj=>(if (mq i j) then (rj (decide (0≤a)&&decide (a≤(a0.length:Int)))).bind λ_=>((sA a mZ a0 a 1).bind λ(g,d)=>(rj (decide (0≤d)&&decide (d≤(g.length:Int)))).bind λ_=>(rj (decide (0≤d)&&decide (d≤((rr g (Int.toNat d) (⟨zS,zS⟩:lh)).length:Int)))).bind λ_=>some ((rr g (Int.toNat d) (⟨zS,zS⟩:lh)).take (Int.toNat d))) else sH a0 h (wi0 .i64 (a+1)))) else some a0)
def yi (a0:List lh):Option (List lh) :=
 (if (decide ((a0.length:Int) < 2)) then some a0 else sH a0 mZ 1)
def ue (a0:List lh):Option (List lh) :=
 ((tU a0).bind λh=>(uo h λ(x:lh)=>Ge x).bind λa=>(Fy (λ(x:(lh×lh))=>vV x.1 x.2) a).bind λd=>(yi d).bind λg=>some g)
def tQ (h:List lh):List lh→Nat→Option Bool
 | [],_=>some true
 | g::d,i90=>(nY h (i90:Int)).bind λa=>(if (!(mq g a)) then some false else tQ h d (i90+1))
def sv (a0 a:List lh):Option Bool :=
 (if ((a0.length:Int) != (a.length:Int)) then some false else tQ a a0 0)
def Ft (a0:mD):Option Bool :=
 ((pD a0.lD).bind λa=>(tV a a0.lD).bind λd=>(if d then (pD a0.Shown).bind λk=>((tV k a0.Shown).bind λq=>some q) else some false).bind λs=>(if s then (ue a0.lL).bind λi=>((sv i a0.lL).bind λj=>some j) else some false).bind λt=>(if t then (ue a0.me).bind λg=>((sv g a0.me).bind λh=>some h) else some false).bind λu=>some u)
def vy (a0:List lg) (f1:lg→Option Bool):Option Bool :=
 ((uU a0 f1).bind λa=>some (decide (a≥0)))
def BZ (a0:lg) (g:ByteArray) (a:List np) (d:List oe) (q:ByteArray) (s:Int) (h k:List lg) (i j:List lh):Option Bool :=
 ((Dx (⟨g,a,d⟩:lm) a0).bind λt=>some (!t.2))
def EQ (a0:mD):Option Bool :=
 ((DE a0.lm).bind λa=>(if (a != 0) then some true else (sG a0.mI).bind λh=>some (!h)).bind λi=>(if i then some true else some (decide (a0.Room < 0))).bind λj=>(if j then some true else some (decide (a0.Room > 256))).bind λk=>(if k then some true else (Ft a0).bind λg=>some (!g)).bind λq=>(if q then some false else (vy a0.Shown λ(x:lg)=>BZ x a0.lm.Name a0.lm.lK a0.lm.mi a0.mI a0.Room a0.lD a0.Shown a0.lL a0.me).bind λd=>some (!d)))
def AT (a0:ow):Option ow :=
 (((if (a0.Kind==1) then some (a0.ny,0,a0.Name,[],[]) else if (a0.Kind==2) then some (0,0,zS,a0.nX,a0.nm) else if (a0.Kind==5) then some (0,a0.E,zS,[],[]) else some (0,0,zS,[],[])):Option (Int×Int×ByteArray×(List lh)×(List Signed))).bind λ(g,h,i,a,d)=>some (⟨a0.Kind,g,h,i,a,d⟩:ow))
def ml (i:List Signed) (f2:(Signed×Signed)→Option Bool):List Signed→Nat→Option Bool
 | [],_=>some true
 | h::g,i95=>(nY i (i95:Int)).bind λd=>(f2 (h,d)).bind λa=>(if (!a) then some false else ml i f2 g (i95+1))
def nc (a0 a:List Signed) (f2:(Signed×Signed)→Option Bool):Option Bool :=
 (if ((a0.length:Int) != (a.length:Int)) then some false else ml a f2 a0 0)
def rn (a0 g:Signed):Option Bool :=
 ((if (ni a0.lg g.lg) then (rk a0.Tag g.Tag).bind λa=>some a else some false).bind λd=>some d)
def Ab (a0 a:ow):Option Bool :=
 ((if (a0.Kind==a.Kind) then some (a0.ny==a.ny) else some false).bind λh=>(if h then some (a0.E==a.E) else some false).bind λi=>(if i then some (ob a0.Name a.Name) else some false).bind λj=>(if j then (sv a0.nX a.nX).bind λg=>some g else some false).bind λk=>(if k then (nc a0.nm a.nm λ(x:(Signed×Signed))=>rn x.1 x.2).bind λd=>some d else some false).bind λq=>some q)
def Bz (a0:List lh):Option Bool :=
 ((if (decide ((a0.length:Int)≤16)) then (ue a0).bind λa=>((sv a a0).bind λd=>some d) else some false).bind λg=>some g)
def uM (a0:List Signed):List Signed→Nat→Option Bool
 | [],_=>some (decide ((a0.length:Int)≤8))
 | d::g,a=>(tH d.lg).bind λh=>(if (!h) then some true else some ((d.Tag.length:Int) != 8)).bind λj=>(if j then some true else (if (decide ((a:Int) > 0)) then (nY a0 (wi0 .i64 ((a:Int)-1))).bind λs=>((vY s.lg d.lg).bind λi=>some (decide (i≥0))) else some false).bind λq=>some q).bind λk=>(if k then some false else uM a0 g (a+1))
def FF (a0:List Signed):Option Bool :=
 uM a0 a0 0
def oD (a0:ow):Option Bool :=
 ((AT a0).bind λi=>(Ab i a0).bind λj=>(if (!j) then some false else if (a0.Kind==1) then (sG a0.Name).bind λk=>((if k then (if (a0.ny==1) then some true else some (a0.ny==2)).bind λt=>some t else some false).bind λs=>some s) else if (a0.Kind==2) then (Bz a0.nX).bind λq=>((if q then (FF a0.nm).bind λa=>some a else some false).bind λd=>some d) else if (a0.Kind==5) then (if (decide (a0.E≥1)) then some (decide (a0.E≤99)) else some false).bind λg=>some g else (if (a0.Kind==3) then some true else some (a0.Kind==4)).bind λh=>some h))
def BL (h:List lh):List lh→Nat→Option Bool
 | [],_=>some true
 | g::d,i90=>(nY h (i90:Int)).bind λa=>(if (!(mq g a)) then some false else BL h d (i90+1))
def BH (h:List lg) (a:List (lh×Bool)) (d:List (ByteArray×Bool)) (g:List (lg×Bool)) (j:lg):Option Bool :=
 ((if (zW mq a j.Head false) then some true else some (zW ob d j.Head.Word false)).bind λi=>some i)
def ta (h:lg) (d:List (ByteArray×Bool)) (a:List (lg×Bool)):List lh→(List (lh×Bool))→Option ((List (lh×Bool))×(List (ByteArray×Bool))×(List (lg×Bool)))
 | [],g=>(if (h.Kind==3) then some (g,pO ob d h.mV true,pO ni a h true) else some (g,d,pO ni a h true))
 | j::i,g=>ta h d a i (pO mq g j true)
def yC (h:List lg) (d:List (lh×Bool)) (g:List (ByteArray×Bool)) (a:List (lg×Bool)) (i:lg):Option ((List (lh×Bool))×(List (ByteArray×Bool))×(List (lg×Bool))) :=
 ((Cd i).bind λj=>(rj (decide (0≤1)&&decide (1≤(j.length:Int)))).bind λ_=>ta i g a (j.drop (Int.toNat 1)) d)
def rL (d:List lg):List lg→(List (lh×Bool))→(List (ByteArray×Bool))→(List (lg×Bool))→Option ((List (lh×Bool))×(List (ByteArray×Bool))×(List (lg×Bool)))
 | [],g,h,a=>some (g,h,a)
 | j::k,g,h,a=>(if (!(zW ni a j false)) then (BH d g h a j).bind λq=>some q else some false).bind λs=>(if s then (yC d g h a j).bind λi=>(rL d k i.1 i.2.1 i.2.2) else rL d k g h a)
def tg (a:List lg):Nat→Int→(List (lh×Bool))→(List (ByteArray×Bool))→(List (lg×Bool))→Option ((List (lh×Bool))×(List (ByteArray×Bool))×(List (lg×Bool)))
 | 0,_,_,_,_=>none
 | q+1,s,g,h,d=>(if (decide (s < (d.length:Int))) then (rL a a g h d).bind λ(i,j,k)=>(tg a q (d.length:Int) i j k) else some (g,h,d))
def rK (g:List lg) (d:List (ByteArray×Bool)) (a:List (lg×Bool)):List lh→(List (lh×Bool))→Option (Int×(List (lh×Bool))×(List (ByteArray×Bool))×(List (lg×Bool)))
 | [],k=>(tg g mZ (-1) k d a).bind λ(i,j,h)=>some ((wi0 .i64 ((h.length:Int)-(a.length:Int))),i,j,h)
 | s::q,k=>rK g d a q (pO mq k s true)
def wK (h:List lg) (d:List (lh×Bool)) (g:List (ByteArray×Bool)) (a:List (lg×Bool)) (i:List lh):Option (Int×(List (lh×Bool))×(List (ByteArray×Bool))×(List (lg×Bool))) :=
 ((ue i).bind λj=>rK h g a j d)
def Fw (a0:List lg) (g:List lh):Option ((List lg)×(List (lh×Bool))×(List (ByteArray×Bool))×(List (lg×Bool))) :=
 ((pD a0).bind λd=>(wK d ([]) ([]) ([]) g).bind λa=>some (d,a.2.1,a.2.2.1,a.2.2.2))
def yy (a0:lg) (h:List lg) (d:List (lh×Bool)) (g:List (ByteArray×Bool)) (a:List (lg×Bool)):Option Bool :=
 some (!(zW ni a a0 false))
def xF (g:List lg) (d:List (lh×Bool)) (h:List (ByteArray×Bool)) (a:List (lg×Bool)):Option (List lg) :=
 ((rA g).bind λj=>(ry j λ(x:lg)=>yy x g d h a).bind λi=>some i)
def uB (x:Option mc) (a0:mD):List Signed→Int→(List lg)→Option (Int×Int×mD)
 | [],d,a=>some (d,0,(⟨a0.lm,a0.mI,a0.Room,a,a0.Shown,a0.lL,a0.me⟩:mD))
 | g::h,d,a=>(ul x g).bind λq=>(if (q != 0) then some true else (tq a g.lg).bind λu=>some u).bind λv=>(if v then uB x a0 h d a else if (decide ((a.length:Int)≥a0.Room)) then some (d,40,(⟨a0.lm,a0.mI,a0.Room,a,a0.Shown,a0.lL,a0.me⟩:mD)) else (((rA a).bind λt=>some (t,[g.lg])):Option ((List lg)×(List lg))).bind λ(i,j)=>(oY 136 i j).bind λk=>(pD k).bind λs=>uB x a0 h (wi0 .i64 (d+1)) s)
def DD (a0:mD) (a:Option mc) (a2:List Signed):Option (Int×Int×mD) :=
 (if a.isNone then some (0,1,a0) else uB a a0 a2 0 a0.lD)
def Cq (a0:oe) (a:lh→Option Bool):Option Bool :=
 ((tR a0.lB a).bind λd=>some d)
def zY (a0:mD):Option (List oe) :=
 ((AR a0).bind λa=>(sU a0.lm.mi).bind λd=>(pu d λ(x:oe)=>Cq x λ(x:lh)=>xT x a.1 a.2.1 a.2.2.1 a.2.2.2.1 a.2.2.2.2.1 a.2.2.2.2.2.1 a.2.2.2.2.2.2.1 a0.lm.lK a0.lm.mi a.2.2.2.2.2.2.2.1 a.2.2.2.2.2.2.2.2 a0.lD a0.Shown a0.lL a0.me).bind λg=>some g)
def Cw (a0:oe) (a:lg):Option Bool :=
 ((tq a0.nP a).bind λd=>some (!d))
def yf (a0:List oe) (d:lg):Option (List oe) :=
 ((sU a0).bind λg=>(pu g λ(x:oe)=>Cw x d).bind λa=>some a)
def xn :List oe→(List lg)→Option (List lg)
 | [],a=>some a
 | h::d,a=>(oY 136 a h.nP).bind λg=>xn d g
def vK (g:List oe):List np→(List lg)→Option (List lg)
 | [],a=>(xn g a).bind λj=>(pD j).bind λq=>some q
 | h::d,a=>(yf g h.Signed.lg).bind λk=>(if ((k.length:Int)==0) then (oY 136 a ([h.Signed.lg])).bind λi=>(vK g d i) else vK g d a)
def Bn (a0:mD):Option (List lg) :=
 ((zY a0).bind λa=>vK a a0.lm.lK ([]))
def xv (a0:mD):Option (List lg) :=
 ((Bn a0).bind λg=>(Fw g a0.lL).bind λa=>(xF a.1 a.2.1 a.2.2.1 a.2.2.2).bind λd=>some d)
def vQ (rec:Formula→Option (List lh)):List Formula→(List lh)→Option (List lh)
 | [],a=>some a
 | i::d,a=>(rec i).bind λh=>(oY 32 a h).bind λg=>vQ rec d g
def AV (rec:Formula→Option (List lh)) (a0:Formula):Option (List lh) :=
 (if (a0.Op==1) then some [a0.lh] else vQ rec a0.Kids ([]))
def wx:Nat→Formula→Option (List lh)
 | 0=>λ_=>none
 | n+1=>AV (wx n)
def yh (a0:Formula):Option (List lh) :=
 ((wx mZ a0).bind λd=>(ue d).bind λa=>some a)
def wU (u:List oe) (a2:lg) (a0:mD):List oe→(List lh)→Option (List lh)
 | [],a=>(yf u a2).bind λj=>(if (decide ((j.length:Int) > 0)) then some true else (EL a0 a2).bind λq=>some q).bind λt=>(if t then some a else (zX a0.lm a2).bind λd=>(if (d.2 != 0) then some [] else (yh d.1).bind λk=>some k))
 | s::g,a=>(yh s.lB).bind λi=>(oY 32 a i).bind λh=>wU u a2 a0 g h
def CH (a0:mD) (d:List oe) (a2:lg):Option (List lh) :=
 ((yf d a2).bind λa=>wU d a2 a0 a ([]))
def wR (a0:mD) (h:List oe):List lg→(List lh)→Option (List lh)
 | [],a=>(ue a).bind λj=>some j
 | k::d,a=>(CH a0 h k).bind λi=>(oY 32 a i).bind λg=>wR a0 h d g
def Ay (a0:mD):Option (List lh) :=
 ((zY a0).bind λa=>(xv a0).bind λd=>wR a0 a d ([]))
def xG (d:Int):Option (List lh) :=
 (if (decide (d < 0)) then none else ((if (decide ((wi0 .i64 (d-(wi0 .i64 (0-0)))) > 0)) then (JP 32 (⟨zS,zS⟩:lh) (wi0 .i64 (d-(wi0 .i64 (0-0))))).bind λa=>((rj (decide (0≤0)&&decide (0≤(a.length:Int)))).bind λ_=>some (a.take (Int.toNat 0))) else some ([])):Option (List lh)).bind λg=>some g)
def sY :List (List lh)→(List lh)→Option (List lh)
 | [],a=>some a
 | h::d,a=>(oY 32 a h).bind λg=>sY d g
def te (a0:List (List lh)):List (List lh)→Int→Option (List lh)
 | [],a=>(xG a).bind λi=>(sY a0 i).bind λd=>some d
 | g::h,a=>(if (decide ((wi0 .i64 (a+(g.length:Int))) < 0)) then none else te a0 h (wi0 .i64 (a+(g.length:Int))))
def uS (a0:List (List lh)):Option (List lh) :=
 te a0 a0 0
def vt (g:lh):List lh→Nat→Option Int
 | [],_=>some (-1)
 | d::a,i46=>(if (mq g d) then some (i46:Int) else vt g a (i46+1))
def BD (a0:List lh) (a:lh):Option Int :=
 vt a a0 0
def Ai (a0:List lh) (a:lh):Option Bool :=
 ((BD a0 a).bind λd=>some (decide (d≥0)))
def GC (a0:List lh) (a:lh):Option Bool :=
 ((Ai a0 a).bind λd=>some d)
def DS (a0:lh) (h:ByteArray) (d:List np) (g:List oe) (q:ByteArray) (s:Int) (i k:List lg) (j a:List lh):Option Bool :=
 ((GC a a0).bind λt=>some t)
def Bv (a0:mD) (i:List lh):Option (List lh) :=
 ((Ay a0).bind λd=>(uS ([d,i])).bind λg=>(ue g).bind λh=>(uo h λ(x:lh)=>DS x a0.lm.Name a0.lm.lK a0.lm.mi a0.mI a0.Room a0.lD a0.Shown a0.lL a0.me).bind λa=>(rj (decide (0≤(if 16 < (a.length:Int) then 16 else (a.length:Int)))&&decide ((if 16 < (a.length:Int) then 16 else (a.length:Int))≤(a.length:Int)))).bind λ_=>some (a.take (Int.toNat (if 16 < (a.length:Int) then 16 else (a.length:Int)))))
def Dk (a0:lg) (a:List lg):Option Bool :=
 ((tq a a0).bind λd=>some (!d))
def Az (a0:mD):Option (List lg) :=
 ((xv a0).bind λd=>(BB a0).bind λg=>(ry g λ(x:lg)=>Dk x d).bind λa=>(rj (decide (0≤(if 8 < (a.length:Int) then 8 else (a.length:Int)))&&decide ((if 8 < (a.length:Int) then 8 else (a.length:Int))≤(a.length:Int)))).bind λ_=>some (a.take (Int.toNat (if 8 < (a.length:Int) then 8 else (a.length:Int)))))
def BW (a0:mD) (d:List lh):Option mD :=
 ((uS ([a0.lL,d])).bind λg=>(ue g).bind λa=>some (⟨a0.lm,a0.mI,a0.Room,a0.lD,a0.Shown,a,a0.me⟩:mD))
def xV (a0:mD) (j:List lh):Option (ow×Int×mD) :=
 ((Bv a0 j).bind λi=>(Az a0).bind λd=>(zd (⟨(⟨a0.lm.Name,a0.lm.lK,a0.lm.mi⟩:lm),a0.mI,a0.Room,a0.lD,a0.Shown,a0.lL,a0.me⟩:mD) d).bind λa=>(if (a.2.1 != 0) then some ((⟨0,0,0,zS,[],[]⟩:ow),a.2.1,a.2.2) else (uS ([a.2.2.me,i])).bind λg=>(ue g).bind λh=>some ((⟨2,0,0,zS,i,a.1⟩:ow),0,(⟨(⟨a.2.2.lm.Name,a.2.2.lm.lK,a.2.2.lm.mi⟩:lm),a.2.2.mI,a.2.2.Room,a.2.2.lD,a.2.2.Shown,a.2.2.lL,h⟩:mD))))
structure mf where
 b:List Int
 over:Bool
def DW (a d:List Int):Option (Bool×(List Int)) :=
 ((oY 1 a d).bind λg=>some (true,g))
def Ep (a:List Int) (h:Signed):Option (Bool×(List Int)) :=
 ((tH h.lg).bind λq=>(if (!q) then some true else some ((h.Tag.length:Int) != 8)).bind λs=>(if s then some (false,a) else (wJ h.lg).bind λj=>(DW a j).bind λd=>((if d.1 then (sw d.2 h.Tag).bind λg=>some (g.1,g.2) else some (false,d.2)):Option (Bool×(List Int))).bind λ(k,i)=>some (k,i)))
def yu (d:List Int) (a:Bool):Option Bool :=
 some a
def nS (a0:mf) (a:Int):Option (Int ⊕ Unit) :=
 ((if (!a0.over) then some (a != 0) else some false).bind λx2=>(if x2 then some (Sum.inl a) else some (Sum.inr ())))
def yD (a0:mf) (x:Int):Option (Int ⊕ (Int×mf)) :=
 (((if (x==9) then ((nS a0 11).bind λt=>match t with | .inl i=>some (Sum.inl (Sum.inl i)) | .inr I=>some (Sum.inr ())) else some (Sum.inr ())):Option ((Int ⊕ (Int×mf)) ⊕ Unit)).bind λs=>match s with | .inl j=>some j | .inr _=>(((if ((a0.b.length:Int)==0) then ((nS a0 10).bind λq=>match q with | .inl g=>some (Sum.inl (Sum.inl g)) | .inr z=>some (Sum.inr ())) else some (Sum.inr ())):Option ((Int ⊕ (Int×mf)) ⊕ Unit)).bind λs=>match s with | .inl h=>some h | .inr _=>(nY a0.b 0).bind λv=>(rj (decide (0≤1)&&decide (1≤(a0.b.length:Int)))).bind λ_=>((((if (v==0) then some (decide (x > 0)) else some false).bind λu=>(if u then ((nS (⟨a0.b.drop (Int.toNat 1),a0.over⟩:mf) 11).bind λk=>match k with | .inl a=>some (Sum.inl (Sum.inl a)) | .inr y=>some (Sum.inr ())) else some (Sum.inr ()))):Option ((Int ⊕ (Int×mf)) ⊕ Unit)).bind λs=>match s with | .inl d=>some d | .inr _=>some (Sum.inr (v,(⟨a0.b.drop (Int.toNat 1),a0.over⟩:mf))))))
def pT (v:Int):Nat→Int→Int→(List Int)→Bool→Option (Int ⊕ (Int×mf))
 | 0,_,_,_,_=>none
 | n161+1,g,d,h,u=>((yD (⟨h,u⟩:mf) d).bind λt=>match t with | .inl i=>some (Sum.inl i) | .inr a=>(rj (decide (0≤(wi0 .i64 (7*d))))).bind λ_=>(if (decide (a.1 < 128)) then (((if (decide ((wi0 .i64 (BitVec.ofInt (IntKind.bits .i64) g ||| BitVec.ofInt (IntKind.bits .i64) (wi0 .i64 ((wi0 .i64 (IntKind.u8.wrap (BitVec.ofInt (IntKind.bits .u8) a.1 &&& BitVec.ofInt (IntKind.bits .u8) 127).toNat))*2 ^ min (Int.toNat (wi0 .i64 (7*d))) (IntKind.bits .i64)))).toNat) > v)) then ((nS a.2 12).bind λq=>match q with | .inl j=>some (Sum.inl (Sum.inl j)) | .inr x=>some (Sum.inr ())) else some (Sum.inr ())):Option ((Int ⊕ (Int×mf)) ⊕ Unit)).bind λs=>match s with | .inl k=>some k | .inr _=>some (Sum.inr ((wi0 .i64 (BitVec.ofInt (IntKind.bits .i64) g ||| BitVec.ofInt (IntKind.bits .i64) (wi0 .i64 ((wi0 .i64 (IntKind.u8.wrap (BitVec.ofInt (IntKind.bits .u8) a.1 &&& BitVec.ofInt (IntKind.bits .u8) 127).toNat))*2 ^ min (Int.toNat (wi0 .i64 (7*d))) (IntKind.bits .i64)))).toNat),a.2))) else pT v n161 (wi0 .i64 (BitVec.ofInt (IntKind.bits .i64) g ||| BitVec.ofInt (IntKind.bits .i64) (wi0 .i64 ((wi0 .i64 (IntKind.u8.wrap (BitVec.ofInt (IntKind.bits .u8) a.1 &&& BitVec.ofInt (IntKind.bits .u8) 127).toNat))*2 ^ min (Int.toNat (wi0 .i64 (7*d))) (IntKind.bits .i64)))).toNat) (wi0 .i64 (d+1)) a.2.b a.2.over))
def oK (a0:mf) (a:Int):Option (Int ⊕ (Int×mf)) :=
 ((yu a0.b a0.over).bind λd=>(if d then some (Sum.inr (0,a0)) else pT a mZ 0 0 a0.b a0.over))
def tp (a0:mf) (v:Int):Option (Int ⊕ ((List Int)×mf)) :=
 ((yu a0.b a0.over).bind λx=>(if x then some (Sum.inr ([],a0)) else ((oK a0 9223372036854775807).bind λk=>match k with | .inl q=>some (Sum.inl q) | .inr a=>(((if (decide (a.1 > v)) then ((nS a.2 12).bind λi=>match i with | .inl d=>some (Sum.inl (Sum.inl d)) | .inr y=>some (Sum.inr ())) else if (decide (a.1 > (a.2.b.length:Int))) then ((nS a.2 10).bind λj=>match j with | .inl g=>some (Sum.inl (Sum.inl g)) | .inr u=>some (Sum.inr ())) else some (Sum.inr ())):Option ((Int ⊕ ((List Int)×mf)) ⊕ Unit)).bind λs=>match s with | .inl h=>some h | .inr _=>(rj (decide (0≤a.1)&&decide (a.1≤(a.2.b.length:Int)))).bind λ_=>(rO (a.2.b.take (Int.toNat a.1))).bind λt=>(rj (decide (0≤a.1)&&decide (a.1≤(a.2.b.length:Int)))).bind λ_=>some (Sum.inr (t,(⟨a.2.b.drop (Int.toNat a.1),a.2.over⟩:mf)))))))
def xN (a0:mf):Option (Int ⊕ (ByteArray×mf)) :=
 ((tp a0 16).bind λj=>match j with | .inl d=>some (Sum.inl d) | .inr a=>(sG (BC a.1)).bind λh=>(if (!h) then ((nS a.2 30).bind λi=>match i with | .inl g=>some (Sum.inl g) | .inr k=>some (Sum.inr (zS,a.2))) else some (Sum.inr ((BC a.1),a.2))))
def wF (a0:mf):Option (Int ⊕ (lh×mf)) :=
 ((xN a0).bind λi=>match i with | .inl d=>some (Sum.inl d) | .inr j=>((xN j.2).bind λh=>match h with | .inl g=>some (Sum.inl g) | .inr a=>some (Sum.inr ((⟨j.1,a.1⟩:lh),a.2))))
def EJ (a0:mf):Option (Int ⊕ (lg×mf)) :=
 ((oK a0 9223372036854775807).bind λaf=>match af with | .inl ah=>some (Sum.inl ah) | .inr d=>((((if (decide (d.1 < 1)) then some true else some (decide (d.1 > 4))).bind λag=>(if ag then ((nS d.2 11).bind λae=>match ae with | .inl Q=>some (Sum.inl (Sum.inl Q)) | .inr an=>some (Sum.inr ())) else some (Sum.inr ()))):Option ((Int ⊕ (lg×mf)) ⊕ Unit)).bind λs=>match s with | .inl U=>some U | .inr _=>((wF d.2).bind λad=>match ad with | .inl ai=>some (Sum.inl ai) | .inr a=>(((if (d.1==1) then ((xN a.2).bind λa1=>match a1 with | .inl y=>some (Sum.inl (Sum.inl y)) | .inr h=>some (Sum.inr ((⟨d.1,a.1,h.1,(⟨zS,zS⟩:lh),(⟨zS,zS⟩:lh),zS⟩:lg),h.2.b,h.2.over))) else if (d.1==2) then ((wF a.2).bind λa6=>match a6 with | .inl z=>some (Sum.inl (Sum.inl z)) | .inr i=>some (Sum.inr ((⟨d.1,a.1,zS,i.1,(⟨zS,zS⟩:lh),zS⟩:lg),i.2.b,i.2.over))) else if (d.1==3) then ((wF a.2).bind λa8=>match a8 with | .inl I=>some (Sum.inl (Sum.inl I)) | .inr t=>((xN t.2).bind λa7=>match a7 with | .inl J=>some (Sum.inl (Sum.inl J)) | .inr j=>some (Sum.inr ((⟨d.1,a.1,zS,t.1,(⟨zS,zS⟩:lh),j.1⟩:lg),j.2.b,j.2.over)))) else if (d.1==4) then ((wF a.2).bind λab=>match ab with | .inl M=>some (Sum.inl (Sum.inl M)) | .inr u=>((wF u.2).bind λaa=>match aa with | .inl O=>some (Sum.inl (Sum.inl O)) | .inr k=>some (Sum.inr ((⟨d.1,a.1,zS,u.1,k.1,zS⟩:lg),k.2.b,k.2.over)))) else some (Sum.inr ((⟨d.1,a.1,zS,(⟨zS,zS⟩:lh),(⟨zS,zS⟩:lh),zS⟩:lg),a.2.b,a.2.over))):Option ((Int ⊕ (lg×mf)) ⊕ (lg×(List Int)×Bool))).bind λs=>match s with | .inl P=>some P | .inr (v,g,q)=>(tH v).bind λW=>(if (!W) then ((nS (⟨g,q⟩:mf) 11).bind λY=>match Y with | .inl x=>some (Sum.inl x) | .inr aj=>some (Sum.inr ((⟨0,(⟨zS,zS⟩:lh),zS,(⟨zS,zS⟩:lh),(⟨zS,zS⟩:lh),zS⟩:lg),(⟨g,q⟩:mf)))) else some (Sum.inr (v,(⟨g,q⟩:mf))))))))
def EK (a0:mf):Option (Int ⊕ (Signed×mf)) :=
 ((EJ a0).bind λk=>match k with | .inl d=>some (Sum.inl d) | .inr q=>((tp q.2 8).bind λj=>match j with | .inl g=>some (Sum.inl g) | .inr a=>(if ((a.1.length:Int) != 8) then ((nS a.2 11).bind λi=>match i with | .inl h=>some (Sum.inl h) | .inr s=>some (Sum.inr ((⟨(⟨0,(⟨zS,zS⟩:lh),zS,(⟨zS,zS⟩:lh),(⟨zS,zS⟩:lh),zS⟩:lg),[]⟩:Signed),a.2))) else some (Sum.inr ((⟨q.1,a.1⟩:Signed),a.2)))))
structure Y8 where
 key:lg
 text:ByteArray
 sign:ByteArray
structure Zt where
 key:lh
 text:ByteArray
 sign:ByteArray
structure tT where
 Out:Bool
 B:List Int
def yN :List Signed→(List Int)→Option (List Int)
 | [],a=>some a
 | h::d,a=>(Ep a h).bind λg=>yN d g.2
def xj (k:ow):List lh→(List Int)→Option (List Int)
 | [],a=>(nL a (k.nm.length:Int)).bind λi=>(yN k.nm i.2).bind λg=>some g
 | j::d,a=>(uA a j).bind λh=>xj k d h.2
def Af (g:List Int) (a:ow):Option (Bool×(List Int)) :=
 ((oD a).bind λs=>(if (!s) then some (false,g) else (nL g a.Kind).bind λd=>((if (a.Kind==1) then (xP d.2 a.Name).bind λi=>((nL i.2 a.ny).bind λj=>some j.2) else if (a.Kind==2) then (nL d.2 (a.nX.length:Int)).bind λk=>xj a a.nX k.2 else if (a.Kind==5) then (nL d.2 a.E).bind λq=>some q.2 else some d.2):Option (List Int)).bind λh=>some (true,h)))
def xD (a0:ow):Option (List Int) :=
 ((Af ([]) a0).bind λd=>(si d.2).bind λa=>some a)
def E9 (a0:Int):Option (List Int) :=
 ((nL ([]) a0).bind λd=>(si d.2).bind λa=>some a)
def AA (d:Int):List Int→Nat→(List Int)→Option (List Int)
 | [],_,a=>some a
 | i::g,i71,a=>(rj (decide (0≤(wi0 .i64 (8*(wi0 .i64 (7-(i71:Int)))))))).bind λ_=>(nY a (i71:Int)).bind λh=>AA d g (i71+1) (a.set (Int.toNat (i71:Int)) (IntKind.u8.wrap (Int.fdiv d (2 ^ min (Int.toNat (wi0 .i64 (8*(wi0 .i64 (7-(i71:Int)))))) (IntKind.bits .u64)))))
def Dq (a0:Int) (g:List Int):Option (List Int) :=
 ((E9 a0).bind λh=>(HB ([h,g])).bind λd=>(Hn 1 0 8).bind λa=>AA d a 0 a)
def Hq (a0:Int) (a:List Int):Option (List Int) :=
 ((if (decide (a0 < 1)) then some true else some (decide (a0 > 1099511627776))).bind λx2=>(if x2 then some true else some (decide ((a.length:Int) > 2048))).bind λk=>(if k then some [] else (nL ([]) a0).bind λd=>(sw d.2 a).bind λg=>(Dq a0 a).bind λh=>(sw g.2 h).bind λi=>(si i.2).bind λj=>some j))
def Ci (a0:Int) (g:ow):Option (List Int) :=
 ((oD g).bind λh=>(if (!h) then some [] else (xD g).bind λa=>(Hq a0 a).bind λd=>some d))
def Cp (a0:mf) (x:Int) (c1 c2:List Int):Option ((Int×(Int×(List Int)×(List Int))) ⊕ (mf×Int×(List Int)×(List Int))) :=
 ((oK a0 1099511627776).bind λu=>match u with | .inl h=>some (Sum.inl (h,(x,c1,c2))) | .inr g=>((tp g.2 2048).bind λt=>match t with | .inl i=>some (Sum.inl (i,(g.1,c1,c2))) | .inr d=>((tp d.2 8).bind λs=>match s with | .inl j=>some (Sum.inl (j,(g.1,d.1,c2))) | .inr a=>(if ((a.1.length:Int) != 8) then some true else some (g.1==0)).bind λv=>(if v then ((nS a.2 11).bind λq=>match q with | .inl k=>some (Sum.inl (k,(g.1,d.1,a.1))) | .inr y=>some (Sum.inr (a.2,g.1,d.1,a.1))) else some (Sum.inr (a.2,g.1,d.1,a.1))))))
def zt (a0:List Int) (a:Int) (c1 c2:List Int):Option (Int×Int×(List Int)×(List Int)) :=
 ((rO a0).bind λl=>(Cp (⟨l,false⟩:mf) a c1 c2).bind λs=>some ((El (λr=>(r.1).b) (Ps s)),(match s with | .inl l=>l.2.1 | .inr r=>r.2.1),(match s with | .inl l=>l.2.2.1 | .inr r=>r.2.2.1),(match s with | .inl l=>l.2.2.2 | .inr r=>r.2.2.2)))
def zu (a0:List Int):Option (Int×(List Int)×(List Int)×Int) :=
 ((zt a0 0 ([]) ([])).bind λa=>some (a.2.1,a.2.2.1,a.2.2.2,a.1))
def tP (h:(Int×mf)):Nat→Int→(List Signed)→(List Int)→Bool→Option (((Int ⊕ (ow×mf)) ⊕ (Int×Int×ByteArray×(List lh)×(List Signed)×(List Int)×Bool)) ⊕ ((List Signed)×(List Int)×Bool))
 | 0,_,_,_,_=>none
 | q+1,i,d,g,j=>(if (decide (i < h.1)) then ((EK (⟨g,j⟩:mf)).bind λt=>match t with | .inl s=>some (Sum.inl (Sum.inl (Sum.inl s))) | .inr a=>(oY 160 d ([a.1])).bind λk=>tP h q (wi0 .i64 (i+1)) k a.2.b a.2.over) else some (Sum.inr (d,g,j)))
def sC (i:(Int×mf)):Nat→Int→(List lh)→(List Int)→Bool→Option ((Int ⊕ (ow×mf)) ⊕ (Int×Int×ByteArray×(List lh)×(List Signed)×(List Int)×Bool))
 | 0,_,_,_,_=>none
 | v+1,j,g,h,k=>(if (decide (j < i.1)) then ((wF (⟨h,k⟩:mf)).bind λI=>match I with | .inl x=>some (Sum.inl (Sum.inl x)) | .inr a=>(oY 32 g ([a.1])).bind λq=>sC i v (wi0 .i64 (j+1)) q a.2.b a.2.over) else ((oK (⟨h,k⟩:mf) 8).bind λJ=>match J with | .inl y=>some (Sum.inl (Sum.inl y)) | .inr d=>((tP d mZ 0 ([]) d.2.b d.2.over).bind λs=>match s with | .inl z=>some z | .inr (t,u,M)=>some (Sum.inr (0,0,zS,g,t,u,M)))))
def vv (a0:mf):Option (Int ⊕ (ow×mf)) :=
 ((oK a0 9223372036854775807).bind λa6=>match a6 with | .inl a7=>some (Sum.inl a7) | .inr x=>(((if (x.1==1) then ((xN x.2).bind λW=>match W with | .inl z=>some (Sum.inl (Sum.inl z)) | .inr q=>((oK q.2 2).bind λU=>match U with | .inl I=>some (Sum.inl (Sum.inl I)) | .inr d=>some (Sum.inr (d.1,0,q.1,[],[],d.2.b,d.2.over)))) else if (x.1==2) then ((oK x.2 16).bind λY=>match Y with | .inl J=>some (Sum.inl (Sum.inl J)) | .inr g=>sC g mZ 0 ([]) g.2.b g.2.over) else if (x.1==5) then ((oK x.2 99).bind λa1=>match a1 with | .inl M=>some (Sum.inl (Sum.inl M)) | .inr h=>some (Sum.inr (0,h.1,zS,[],[],h.2.b,h.2.over))) else some (Sum.inr (0,0,zS,[],[],x.2.b,x.2.over))):Option ((Int ⊕ (ow×mf)) ⊕ (Int×Int×ByteArray×(List lh)×(List Signed)×(List Int)×Bool))).bind λs=>match s with | .inl O=>some O | .inr (t,u,v,j,k,a,i)=>(oD (⟨x.1,t,u,v,j,k⟩:ow)).bind λP=>(if (!P) then ((nS (⟨a,i⟩:mf) 11).bind λQ=>match Q with | .inl y=>some (Sum.inl y) | .inr a8=>some (Sum.inr ((⟨0,0,0,zS,[],[]⟩:ow),(⟨a,i⟩:mf)))) else some (Sum.inr ((⟨x.1,t,u,v,j,k⟩:ow),(⟨a,i⟩:mf))))))
def BN (a0:mf) (h:ow):Option (Int ⊕ (mf×ow)) :=
 ((vv a0).bind λd=>match d with | .inl a=>some (Sum.inl a) | .inr g=>some (Sum.inr (g.2,g.1)))
def yE (a0:List Int) (a:ow):Option (Int×ow) :=
 ((rO a0).bind λl=>(BN (⟨l,false⟩:mf) a).bind λs=>some ((El (λr=>(r.1).b) s),(match s with | .inl _=>a | .inr r=>r.2)))
def Cz (a0:List Int):Option (ow×Int) :=
 ((yE a0 (⟨0,0,0,zS,[],[]⟩:ow)).bind λa=>(if (a.1 != 0) then some ((⟨0,0,0,zS,[],[]⟩:ow),a.1) else some (a.2,0)))
def yX (a0:List Int):Option (Int×ow×Int) :=
 (if (decide ((a0.length:Int) > 4096)) then some (0,(⟨0,0,0,zS,[],[]⟩:ow),12) else (zu a0).bind λa=>(((if (a.2.2.2==0) then (Dq a.1 a.2.1).bind λg=>((rk a.2.2.1 g).bind λh=>some (!h)) else some false).bind λi=>(if i then some 20 else some a.2.2.2)):Option Int).bind λj=>(if (j != 0) then some (0,(⟨0,0,0,zS,[],[]⟩:ow),j) else (Cz a.2.1).bind λd=>(if (d.2 != 0) then some (0,(⟨0,0,0,zS,[],[]⟩:ow),d.2) else some (a.1,d.1,0))))
structure sB where
 At:Int
 WR:Int
def pk (x:sB):List Value:=[.int .i64 x.At,.int .i64 x.WR]
def Eu (x y:sB):Bool:=(x.At==y.At)&&((x.WR==y.WR)&&true)
theorem Em (x:sB):∀u∈pk x,u.oneCell'=true:=by
 intro u hu
 simp only [pk,aW,cV,fc] at hu
 rcases hu with rfl | rfl <;> rfl
def wX (a0:tT):Option (List Signed) :=
 ((yX a0.B).bind λa=>(if (a.2.2 != 0) then some [] else some a.2.1.nm))
def xc (h:Signed):List np→Option Bool
 | []=>some false
 | d::g=>(if (ni d.Signed.lg h.lg) then (rk d.Signed.Tag h.Tag).bind λa=>some a else xc h g)
def yH (h:lm) (i:ByteArray) (j:Option mc) (d:List lg) (a:Int) (g:List Int) (k:Signed):Option Bool :=
 xc k h.lK
def vc (a0:lh) (j:List (lh×(List (ByteArray×Bool)))) (a:List lg) (h:List (lh×(List lg))) (d:List (ByteArray×(List lg))) (g:List mT) (q:Int) (v:lm) (i:ByteArray) (u:Option mc) (s:List lg) (k:Int) (t:List Int):Option Bool :=
 ((ux j a h d g q a0 i).bind λx=>some x)
def rD (k:lm) (d:((List (lh×(List (ByteArray×Bool))))×(List lg)×(List (lh×(List lg)))×(List (ByteArray×(List lg)))×(List mT)×Int)) (j:ByteArray) (q:Option mc) (h:List lg) (a:Int) (i:List Int):List Signed→Option (Int ⊕ Unit)
 | []=>some (Sum.inr ())
 | M::J=>(((zX k M.lg).bind λg=>some (g.1.Op,g.1.K,g.1.lh,g.1.Kids,g.2,0,0,(⟨zS,zS⟩:lh),[])):Option (Int×Int×lh×(List Formula)×Int×Int×Int×lh×(List Formula))).bind λ(u,v,y,s,z,P,Q,U,O)=>(if (z != 0) then some true else (tR (⟨u,v,y,s⟩:Formula) λ(x:lh)=>vc x d.1 d.2.1 d.2.2.1 d.2.2.2.1 d.2.2.2.2.1 d.2.2.2.2.2 k j q h a i).bind λt=>some (!t)).bind λI=>(if I then some (Sum.inl 44) else rD k d j q h a i J)
def rE (j:lm) (h:ByteArray) (i:Option mc) (d:List lg) (a:Int) (g:List Int) (x:List Signed):List Signed→Option Int
 | []=>(zJ d).bind λt=>((rD j t h i d a g x).bind λs=>match s with | .inl k=>some k | .inr _=>some 0)
 | v::u=>(yH j h i d a g v).bind λq=>(if (!q) then some 42 else rE j h i d a g x u)
def wC (j:lm) (h:ByteArray) (i:Option mc) (d:List lg) (a:Int) (g:List Int) (k:List Signed):Option Int :=
 rE j h i d a g k k
def vU (k:lm) (h:ByteArray) (j:Option mc) (g:List lg) (a:Int) (d q:List Int):Option (Int×Int×(List Int)) :=
 ((yX q).bind λi=>(if (i.2.2 != 0) then some (11,a,d) else if (decide (i.1 < a)) then some (43,a,d) else (if (i.1==a) then (rk q d).bind λt=>some (!t) else some false).bind λu=>(if u then some (41,a,d) else (wC k h j g i.1 q i.2.1.nm).bind λs=>some (s,i.1,q))))
def uz (a2:Option mc) (a0:lm) (u:ByteArray) (a3:List tT):List tT→Nat→(List lg)→Int→(List Int)→Option sB
 | [],_,a,j,h=>some (⟨(a3.length:Int),0⟩:sB)
 | i::k,g,a,j,h=>(if (!i.Out) then (wX i).bind λs=>((yB a2 s).bind λt=>(oY 136 a t).bind λq=>uz a2 a0 u a3 k (g+1) q j h) else (vU a0 u a2 a j h i.B).bind λd=>(if (d.1 != 0) then some (⟨(g:Int),d.1⟩:sB) else uz a2 a0 u a3 k (g+1) a d.2.1 d.2.2))
def zA (a0:lm) (a:ByteArray) (a2:Option mc) (a3:List tT):Option sB :=
 (if a2.isNone then some (⟨0,1⟩:sB) else uz a2 a0 a a3 a3 0 ([]) 0 ([]))
def zN :List tT→(List Int)→Option (List Int)
 | [],a=>some a
 | g::d,a=>(if g.Out then (yX g.B).bind λi=>((oY 8 a ([i.1])).bind λh=>zN d h) else zN d a)
def HW (a0:List tT):Option (List Int) :=
 zN a0 ([])
def BQ (a0:Option mc):List tT→(List Signed)→Option (List lg)
 | [],a=>(yB a0 a).bind λj=>some j
 | g::d,a=>(if (!g.Out) then (wX g).bind λi=>((oY 160 a i).bind λh=>BQ a0 d h) else BQ a0 d a)
def Kf (a0:Option mc) (a:List tT):Option (List lg) :=
 BQ a0 a ([])
def ET :List Signed→(List lg)→Option (List lg)
 | [],a=>some a
 | h::d,a=>(oY 136 a ([h.lg])).bind λg=>ET d g
def BM :List tT→(List lg)→Option (List lg)
 | [],a=>(pD a).bind λj=>some j
 | g::d,a=>(if g.Out then (wX g).bind λi=>((ET i a).bind λh=>BM d h) else BM d a)
def KB (a0:List tT):Option (List lg) :=
 BM a0 ([])
def DJ :Option Bool :=
 ((Gr ([(⟨(⟨#[120]⟩:ByteArray),[107]⟩:Key)])).bind λg=>(EM g.1 (⟨1,(⟨(⟨#[120]⟩:ByteArray),(⟨#[121]⟩:ByteArray)⟩:lh),(⟨#[109,101]⟩:ByteArray),(⟨zS,zS⟩:lh),(⟨zS,zS⟩:lh),zS⟩:lg)).bind λd=>(Ci 3 (⟨2,0,0,zS,[],[d.1]⟩:ow)).bind λa=>(zA (⟨(⟨#[109,101]⟩:ByteArray),[(⟨d.1,(⟨3,0,(⟨zS,zS⟩:lh),[]⟩:Formula)⟩:np)],[]⟩:lm) (⟨#[121,111,117]⟩:ByteArray) g.1 ([(⟨false,a⟩:tT),(⟨true,a⟩:tT)])).bind λz=>(zA (⟨(⟨#[109,101]⟩:ByteArray),[(⟨d.1,(⟨3,0,(⟨zS,zS⟩:lh),[]⟩:Formula)⟩:np)],[]⟩:lm) (⟨#[121,111,117]⟩:ByteArray) g.1 ([(⟨false,a⟩:tT)])).bind λI=>(HW ([(⟨true,a⟩:tT),(⟨false,a⟩:tT)])).bind λk=>(if (d.2==0) then some (Eu z (⟨1,44⟩:sB)) else some false).bind λJ=>(if J then some (Eu I (⟨1,0⟩:sB)) else some false).bind λq=>(if q then some ((k.length:Int)==1) else some false).bind λs=>(if s then (nY k 0).bind λy=>some (y==3) else some false).bind λt=>(if t then (Kf g.1 ([(⟨false,a⟩:tT)])).bind λj=>some ((j.length:Int)==1) else some false).bind λu=>(if u then (KB ([(⟨false,a⟩:tT)])).bind λi=>some ((i.length:Int)==0) else some false).bind λv=>(if v then (zA (⟨(⟨#[109,101]⟩:ByteArray),[(⟨d.1,(⟨3,0,(⟨zS,zS⟩:lh),[]⟩:Formula)⟩:np)],[]⟩:lm) (⟨#[121,111,117]⟩:ByteArray) none ([])).bind λh=>some (h.WR==1) else some false).bind λx=>some x)
structure pj where
 lu:Bool
 ny:Int
 Room:Int
 re:Int
 wc:Int
 vp:Int
def yp (x:pj):List Value:=[.bool x.lu,.int .i64 x.ny,.int .i64 x.Room,.int .i64 x.re,.int .i64 x.wc,.int .i64 x.vp]
structure HU where
 S:mD
 T:pj
 F:Formula
 G:List Key
structure Ff where
 word:Bool
 closed:Bool
 next:Int
 timeout:Int
 Je:Int
 left:Int
 UK:Int
 last:List Int
 Xq:Int
def wV (a0 a a2:Int):Option Bool :=
 ((if (decide (a0≥a)) then some (decide (a0≤a2)) else some false).bind λx2=>some x2)
def Hr (a0:pj):Option Bool :=
 ((wV a0.ny 1 2).bind λs=>(if s then (wV a0.Room 0 256).bind λh=>some h else some false).bind λi=>(if i then (wV a0.re 1 1000).bind λg=>some g else some false).bind λj=>(if j then (wV a0.wc 0 100).bind λd=>some d else some false).bind λk=>(if k then (wV a0.vp 0 1073741824).bind λa=>some a else some false).bind λq=>some q)
def KT (a0:Bool) (a a2:Int):Option ((Option Ff)×Int) :=
 ((if (decide (a < 1)) then some true else some (decide (a > 1000))).bind λx2=>(if x2 then some true else some (decide (a2 < 0))).bind λd=>(if d then some true else some (decide (a2 > 100))).bind λg=>(if g then some (none,2) else some ((some (⟨a0,false,1,a,a2,0,0,[],0⟩:Ff)),0)))
def Bf (a0:mD):Option mD :=
 ((rA a0.lD).bind λg=>(rA a0.Shown).bind λh=>(tU a0.lL).bind λa=>(tU a0.me).bind λd=>some (⟨a0.lm,a0.mI,a0.Room,g,h,a,d⟩:mD))
def F5 (a0:mD) (a:pj) (a2:Formula) (a3:Option mc):Option ((Option (mD×pj×Formula×(Option mc)×Ff×Int×Int×Bool×Int×Int))×Int) :=
 (if a3.isNone then some (none,1) else (EQ a0).bind λk=>(if (!k) then some true else (Hr a).bind λh=>some (!h)).bind λq=>(if q then some true else some (a.Room != a0.Room)).bind λs=>(if s then some true else (if a.lu then (sM a2).bind λg=>some (!g) else some false).bind λj=>some j).bind λt=>(if t then some (none,2) else (KT (!a.lu) a.re a.wc).bind λi=>Vo i.1 none λu=>(Bf a0).bind λd=>some ((some (d,a,a2,a3,u,0,0,false,0,0)),i.2)))
def xY (q g:Bool) (k d i j h:Int) (a:List Int) (s:Int):Option (List Int) :=
 ((rO a).bind λt=>some t)
def wQ (d i:Bool) (a q h k g:Int) (j:List Int) (s:Int) (x:ow):Option ((List Int)×Int×Bool×Int×Int×Int×(List Int)) :=
 ((if (!d) then some true else some i).bind λx8=>(if x8 then some ([],43,d,a,k,g,j) else (oD x).bind λu=>(if (!u) then some ([],11,d,a,k,g,j) else if (decide (a > 1099511627776)) then some ([],12,d,a,k,g,j) else (Ci a x).bind λt=>(xY false i (wi0 .i64 (a+1)) q h h 0 t s).bind λv=>some (v,0,false,wi0 .i64 (a+1),h,0,t))))
def pY (f1:(List Int)→Option Bool):List (List Int)→Nat→Option Int
 | [],_=>some (-1)
 | g::a,i41=>(f1 g).bind λd=>(if d then some (i41:Int) else pY f1 a (i41+1))
def wN (a0:List (List Int)) (f1:(List Int)→Option Bool):Option Int :=
 pY f1 a0 0
def pQ (f1:(List Int)→Option Bool):Nat→(List (List Int))→Int→Int→Option (List (List Int))
 | 0,_,_,_=>none
 | j+1,d,a,g=>(if (decide (g < (d.length:Int))) then (((nY d g).bind λh=>(f1 h).bind λk=>(if (!k) then (nY d a).bind λs=>some ((d.set (Int.toNat a) h),wi0 .i64 (a+1)) else some (d,a))):Option ((List (List Int))×Int)).bind λ(i,q)=>(pQ f1 j i q (wi0 .i64 (g+1))) else (rj (decide (0≤a)&&decide (a≤(d.length:Int)))).bind λ_=>(rj (decide (0≤a)&&decide (a≤((rr d (Int.toNat a) []).length:Int)))).bind λ_=>some ((rr d (Int.toNat a) []).take (Int.toNat a)))
def tL (a0:List (List Int)) (f1:(List Int)→Option Bool):Option (List (List Int)) :=
 ((wN a0 f1).bind λa=>(if (a==(-1)) then some a0 else pQ f1 mZ a0 a (wi0 .i64 (a+1))))
def vx (a0:List Int):Option Bool :=
 some ((a0.length:Int)==0)
def pW (I:mD) (y:pj) (M:Formula) (O:Option mc) (s d:Bool) (q a h k g:Int) (j:List Int) (t v J:Int) (u:Bool) (z i:Int) (Q:List (List Int)):Option ((List (List Int))×Int) :=
 ((tL Q λ(x:List Int)=>vx x).bind λP=>some (P,wi0 .i64 (i+(P.length:Int))))
def oy (I:mD) (x:pj) (M:Formula) (O:Option mc) (t d:Bool) (s a g q i:Int) (k:List Int) (h v J:Int) (u:Bool) (y z:Int) (Q:ow):Option ((List (List Int))×Bool×Int×Int×Int×(List Int)×Int) :=
 ((wQ t d s a g q i k h Q).bind λj=>(pW I x M O j.2.2.1 d j.2.2.2.1 a g j.2.2.2.2.1 j.2.2.2.2.2.1 j.2.2.2.2.2.2 h v J u y z ([j.1])).bind λP=>some (P.1,j.2.2.1,j.2.2.2.1,j.2.2.2.2.1,j.2.2.2.2.2.1,j.2.2.2.2.2.2,P.2))
def vZ (x:mD) (t:pj) (M:Formula) (O:Option mc) (i k:Bool) (h j q g a:Int) (d:List Int) (s u J:Int) (z:Bool) (I v:Int):Option ((List (List Int))×Bool×Int×Int×Int×(List Int)×Int) :=
 ((if t.lu then some true else (xY i k h j q g a d s).bind λP=>some (decide ((P.length:Int) > 0))).bind λQ=>(if Q then some true else some (u != 0)).bind λU=>(if U then some ([],i,h,g,a,d,v) else (oy x t M O i k h j q g a d s u J z I v (⟨1,t.ny,0,x.lm.Name,[],[]⟩:ow)).bind λy=>some (y.1,y.2.1,y.2.2.1,y.2.2.2.1,y.2.2.2.2.1,y.2.2.2.2.2.1,y.2.2.2.2.2.2)))
def D1 (d h:Bool) (a i k s j:Int) (q:List Int) (g:Int) (x:List Int):Option (ow×Int×Bool×Int×Int) :=
 ((yX x).bind λt=>(if (t.2.2 != 0) then some ((⟨0,0,0,zS,[],[]⟩:ow),0,d,a,g) else (if (t.1==a) then some (!d) else some false).bind λu=>(if u then some (!h) else some false).bind λv=>(if v then some (t.2.1,1,true,wi0 .i64 (a+1),t.1) else if (t.1==g) then some ((⟨0,0,0,zS,[],[]⟩:ow),2,d,a,g) else some ((⟨0,0,0,zS,[],[]⟩:ow),0,d,a,g))))
def xK (q h:Bool) (k g j a i:Int) (d:List Int) (s:Int):Option ((List Int)×Bool×Int×Int) :=
 ((if ((d.length:Int)==0) then some true else some (decide (a≤0))).bind λx2=>(if x2 then some ([],false,a,i) else (xY q h k g j (wi0 .i64 (a-1)) 0 d s).bind λt=>some (t,true,wi0 .i64 (a-1),0)))
def BP (a g:Bool) (q d i k h:Int) (j:List Int) (s:Int):Option Bool :=
 some a
def FW (q d:Bool) (k a h j g:Int) (i:List Int) (s:Int):Option Bool :=
 some true
def pL (z:mD) (v:pj) (J:Formula) (M:Option mc) (q d:Bool) (k a h j g:Int) (i:List Int) (s u I:Int) (t:Bool) (x y O a2:Int):Option (Bool×Int×Int) :=
 ((FW q d k a h j g i s).bind λP=>some (P,O,a2))
def nA (z:mD) (v:pj) (M:Formula) (O:Option mc) (q d:Bool) (k a h j g:Int) (i:List Int) (s u J:Int) (t:Bool) (x y a1:Int):Option ((List (List Int))×Bool×Bool×Int×Int×Int×(List Int)×Int×Int×Int) :=
 ((((BP q d k a h j g i s).bind λaa=>(if aa then (oy z v M O q d k a h j g i s u J t x y (⟨5,0,a1,zS,[],[]⟩:ow)).bind λI=>some (I.1,I.2.2.2.2.2.2,I.2.1,I.2.2.1,I.2.2.2.1,I.2.2.2.2.1,I.2.2.2.2.2.1) else some (([]),y,q,k,j,g,i))):Option ((List (List Int))×Int×Bool×Int×Int×Int×(List Int))).bind λ(a8,U,W,Y,a6,a7,Q)=>(pL z v M O W d Y a h a6 a7 Q s u J t x U 3 a1).bind λP=>some (a8,W,P.1,Y,a6,a7,Q,P.2.1,P.2.2,U))
def uG (a:mD) (d:pj) (J:Formula) (U:Option mc) (v h:Bool) (u g j t i:Int) (s:List Int) (x z Q:Int) (y:Bool) (I M:Int):Option (ow×Int×mD) :=
 (if (d.ny==1) then (CM a).bind λP=>some (P.1,P.2.1,P.2.2) else if d.lu then (yh J).bind λO=>((xV (⟨(⟨a.lm.Name,a.lm.lK,a.lm.mi⟩:lm),a.mI,a.Room,a.lD,a.Shown,a.lL,a.me⟩:mD) O).bind λk=>some (k.1,k.2.1,k.2.2)) else (xV a ([])).bind λq=>some (q.1,q.2.1,q.2.2))
def tJ (a:mD) (z:pj) (k:Formula) (Y:Option mc) (v g:Bool) (u h i t q:Int) (s:List Int) (j y W:Int) (I:Bool) (J P:Int) (a1:Bool):Option ((List (List Int))×mD×Bool×Bool×Int×Int×Int×(List Int)×Int×Int×Int) :=
 ((if z.lu then (AR a).bind λU=>((tR k λ(x:lh)=>xT x U.1 U.2.1 U.2.2.1 U.2.2.2.1 U.2.2.2.2.1 U.2.2.2.2.2.1 U.2.2.2.2.2.2.1 a.lm.lK a.lm.mi U.2.2.2.2.2.2.2.1 U.2.2.2.2.2.2.2.2 a.lD a.Shown a.lL a.me).bind λab=>some ab) else some false).bind λad=>(if ad then (oy a z k Y v g u h i t q s j y W I J P (⟨3,0,0,zS,[],[]⟩:ow)).bind λM=>((pL (⟨(⟨a.lm.Name,a.lm.lK,a.lm.mi⟩:lm),a.mI,a.Room,a.lD,a.Shown,a.lL,a.me⟩:mD) z (⟨k.Op,k.K,k.lh,k.Kids⟩:Formula) Y M.2.1 g M.2.2.1 h i M.2.2.2.1 M.2.2.2.2.1 M.2.2.2.2.2.1 j y W I J M.2.2.2.2.2.2 1 0).bind λa7=>some (M.1,(⟨(⟨a.lm.Name,a.lm.lK,a.lm.mi⟩:lm),a.mI,a.Room,a.lD,a.Shown,a.lL,a.me⟩:mD),M.2.1,a7.1,M.2.2.1,M.2.2.2.1,M.2.2.2.2.1,M.2.2.2.2.2.1,a7.2.1,a7.2.2,M.2.2.2.2.2.2)) else (uG a z k Y v g u h i t q s j y W I J P).bind λd=>(if (d.2.1 != 0) then (nA d.2.2 z (⟨k.Op,k.K,k.lh,k.Kids⟩:Formula) Y v g u h i t q s j y W I J P d.2.1).bind λQ=>some (Q.1,(⟨(⟨d.2.2.lm.Name,d.2.2.lm.lK,d.2.2.lm.mi⟩:lm),d.2.2.mI,d.2.2.Room,d.2.2.lD,d.2.2.Shown,d.2.2.lL,d.2.2.me⟩:mD),Q.2.1,Q.2.2.1,Q.2.2.2.1,Q.2.2.2.2.1,Q.2.2.2.2.2.1,Q.2.2.2.2.2.2.1,Q.2.2.2.2.2.2.2.1,Q.2.2.2.2.2.2.2.2.1,Q.2.2.2.2.2.2.2.2.2) else (if a1 then (yL d.1).bind λaa=>some aa else some false).bind λae=>(if ae then (oy d.2.2 z (⟨k.Op,k.K,k.lh,k.Kids⟩:Formula) Y v g u h i t q s j y W I J P (⟨4,0,0,zS,[],[]⟩:ow)).bind λO=>((pL (⟨(⟨d.2.2.lm.Name,d.2.2.lm.lK,d.2.2.lm.mi⟩:lm),d.2.2.mI,d.2.2.Room,d.2.2.lD,d.2.2.Shown,d.2.2.lL,d.2.2.me⟩:mD) z (⟨k.Op,k.K,k.lh,k.Kids⟩:Formula) Y O.2.1 g O.2.2.1 h i O.2.2.2.1 O.2.2.2.2.1 O.2.2.2.2.2.1 j y W I J O.2.2.2.2.2.2 2 0).bind λa8=>some (O.1,(⟨(⟨d.2.2.lm.Name,d.2.2.lm.lK,d.2.2.lm.mi⟩:lm),d.2.2.mI,d.2.2.Room,d.2.2.lD,d.2.2.Shown,d.2.2.lL,d.2.2.me⟩:mD),O.2.1,a8.1,O.2.2.1,O.2.2.2.1,O.2.2.2.2.1,O.2.2.2.2.2.1,a8.2.1,a8.2.2,O.2.2.2.2.2.2)) else (oy d.2.2 z (⟨k.Op,k.K,k.lh,k.Kids⟩:Formula) Y v g u h i t q s j y W I J P d.1).bind λa6=>some (a6.1,(⟨(⟨d.2.2.lm.Name,d.2.2.lm.lK,d.2.2.lm.mi⟩:lm),d.2.2.mI,d.2.2.Room,d.2.2.lD,d.2.2.Shown,d.2.2.lL,d.2.2.me⟩:mD),a6.2.1,g,a6.2.2.1,a6.2.2.2.1,a6.2.2.2.2.1,a6.2.2.2.2.2.1,y,W,a6.2.2.2.2.2.2)))))
def wh (a:mD) (k:pj) (O:Formula) (P:Option mc) (u g:Bool) (t d i s h:Int) (q:List Int) (v z M:Int) (x:Bool) (I J:Int) (Y:ow):Option ((List (List Int))×mD×Bool×Bool×Int×Int×Int×(List Int)×Int×Int×Bool×Int) :=
 ((if (!k.lu) then some true else some x).bind λQ=>(if Q then some true else some (!(ob Y.Name a.mI))).bind λU=>(if U then some true else some (Y.ny != k.ny)).bind λW=>(if W then (nA a k O P u g t d i s h q v z M x I J 2).bind λy=>some (y.1,(⟨(⟨a.lm.Name,a.lm.lK,a.lm.mi⟩:lm),a.mI,a.Room,a.lD,a.Shown,a.lL,a.me⟩:mD),y.2.1,y.2.2.1,y.2.2.2.1,y.2.2.2.2.1,y.2.2.2.2.2.1,y.2.2.2.2.2.2.1,y.2.2.2.2.2.2.2.1,y.2.2.2.2.2.2.2.2.1,x,y.2.2.2.2.2.2.2.2.2) else (tJ a k O P u g t d i s h q v z M true I J false).bind λj=>some (j.1,j.2.1,j.2.2.1,j.2.2.2.1,j.2.2.2.2.1,j.2.2.2.2.2.1,j.2.2.2.2.2.2.1,j.2.2.2.2.2.2.2.1,j.2.2.2.2.2.2.2.2.1,j.2.2.2.2.2.2.2.2.2.1,true,j.2.2.2.2.2.2.2.2.2.2)))
def wj (a:mD) (u:pj) (z:Formula) (U:Option mc) (t g:Bool) (s d i q h:Int) (k:List Int) (v J W:Int) (y:Bool) (M O:Int) (a1:ow):Option ((List (List Int))×mD×Bool×Bool×Int×Int×Int×(List Int)×Int×Int×Int) :=
 ((if u.lu then some (!y) else some false).bind λx8=>(if x8 then (nA a u z U t g s d i q h k v J W y M O 43).bind λP=>some (P.1,(⟨(⟨a.lm.Name,a.lm.lK,a.lm.mi⟩:lm),a.mI,a.Room,a.lD,a.Shown,a.lL,a.me⟩:mD),P.2.1,P.2.2.1,P.2.2.2.1,P.2.2.2.2.1,P.2.2.2.2.2.1,P.2.2.2.2.2.2.1,P.2.2.2.2.2.2.2.1,P.2.2.2.2.2.2.2.2.1,P.2.2.2.2.2.2.2.2.2) else (DD a U a1.nm).bind λj=>(if (j.2.1 != 0) then (nA j.2.2 u (⟨z.Op,z.K,z.lh,z.Kids⟩:Formula) U t g s d i q h k v J W y M O j.2.1).bind λQ=>some (Q.1,(⟨(⟨j.2.2.lm.Name,j.2.2.lm.lK,j.2.2.lm.mi⟩:lm),j.2.2.mI,j.2.2.Room,j.2.2.lD,j.2.2.Shown,j.2.2.lL,j.2.2.me⟩:mD),Q.2.1,Q.2.2.1,Q.2.2.2.1,Q.2.2.2.2.1,Q.2.2.2.2.2.1,Q.2.2.2.2.2.2.1,Q.2.2.2.2.2.2.2.1,Q.2.2.2.2.2.2.2.2.1,Q.2.2.2.2.2.2.2.2.2) else ((if (u.ny==2) then (BW j.2.2 a1.nX).bind λI=>some (I.lm.Name,I.lm.lK,I.lm.mi,I.mI,I.Room,I.lD,I.Shown,I.lL,I.me) else some (j.2.2.lm.Name,j.2.2.lm.lK,j.2.2.lm.mi,j.2.2.mI,j.2.2.Room,j.2.2.lD,j.2.2.Shown,j.2.2.lL,j.2.2.me)):Option (ByteArray×(List np)×(List oe)×ByteArray×Int×(List lg)×(List lg)×(List lh)×(List lh))).bind λ(ae,Y,a6,af,ag,a7,a8,aa,ab)=>(yL a1).bind λad=>(tJ (⟨(⟨ae,Y,a6⟩:lm),af,ag,a7,a8,aa,ab⟩:mD) u (⟨z.Op,z.K,z.lh,z.Kids⟩:Formula) U t g s d i q h k v J W y M O ad).bind λx=>some (x.1,x.2.1,x.2.2.1,x.2.2.2.1,x.2.2.2.2.1,x.2.2.2.2.2.1,x.2.2.2.2.2.2.1,x.2.2.2.2.2.2.2.1,x.2.2.2.2.2.2.2.2.1,x.2.2.2.2.2.2.2.2.2.1,x.2.2.2.2.2.2.2.2.2.2))))
def uF (J:mD) (v:pj) (O:Formula) (P:Option mc) (j k:Bool) (i d q h a:Int) (g:List Int) (t z M:Int) (u:Bool) (I y:Int) (a1:ow):Option ((List (List Int))×Bool×Bool×Int×Int×Int×(List Int)×Int×Int×Int) :=
 ((((if v.lu then (if (a1.Kind==3) then some true else some (!u)).bind λa6=>some a6 else some false).bind λY=>(if Y then (nA J v O P j k i d q h a g t z M u I y 43).bind λx=>some (Sum.inl (x.1,x.2.1,x.2.2.1,x.2.2.2.1,x.2.2.2.2.1,x.2.2.2.2.2.1,x.2.2.2.2.2.2.1,x.2.2.2.2.2.2.2.1,x.2.2.2.2.2.2.2.2.1,x.2.2.2.2.2.2.2.2.2)) else if (a1.Kind==3) then (pL J v O P j k i d q h a g t z M u I y 1 0).bind λQ=>some (Sum.inr (Q.2.1,Q.2.2,Q.1)) else (pL J v O P j k i d q h a g t z M u I y 2 0).bind λU=>some (Sum.inr (U.2.1,U.2.2,U.1)))):Option (((List (List Int))×Bool×Bool×Int×Int×Int×(List Int)×Int×Int×Int) ⊕ (Int×Int×Bool))).bind λs=>match s with | .inl W=>some W | .inr (a7,a8,aa)=>some ([],j,aa,i,h,a,g,a7,a8,y))
def xd (a:mD) (u:pj) (Q:Formula) (U:Option mc) (z d:Bool) (y i k j h:Int) (g:List Int) (J s M:Int) (q:Bool) (v t:Int) (a1:List Int):Option ((List (List Int))×mD×Bool×Bool×Int×Int×Int×(List Int)×Int×Int×Int×Bool×Int) :=
 (if (s==3) then some ([],a,z,d,y,j,h,g,J,s,M,q,t) else (D1 z d y i k j h g J a1).bind λx=>(if (x.2.1==2) then (xK x.2.2.1 d x.2.2.2.1 i k j h g x.2.2.2.2).bind λY=>((pW a u Q U x.2.2.1 d x.2.2.2.1 i k Y.2.2.1 Y.2.2.2 g x.2.2.2.2 s M q v t ([Y.1])).bind λa6=>some (a6.1,(⟨(⟨a.lm.Name,a.lm.lK,a.lm.mi⟩:lm),a.mI,a.Room,a.lD,a.Shown,a.lL,a.me⟩:mD),x.2.2.1,d,x.2.2.2.1,Y.2.2.1,Y.2.2.2,g,x.2.2.2.2,s,M,q,a6.2)) else if (x.2.1==0) then some ([],a,x.2.2.1,d,x.2.2.2.1,j,h,g,x.2.2.2.2,s,M,q,t) else if (x.1.Kind==1) then (wh a u Q U x.2.2.1 d x.2.2.2.1 i k j h g x.2.2.2.2 s M q v t x.1).bind λO=>some (O.1,O.2.1,O.2.2.1,O.2.2.2.1,O.2.2.2.2.1,O.2.2.2.2.2.1,O.2.2.2.2.2.2.1,O.2.2.2.2.2.2.2.1,x.2.2.2.2,O.2.2.2.2.2.2.2.2.1,O.2.2.2.2.2.2.2.2.2.1,O.2.2.2.2.2.2.2.2.2.2.1,O.2.2.2.2.2.2.2.2.2.2.2) else if (x.1.Kind==2) then (wj a u Q U x.2.2.1 d x.2.2.2.1 i k j h g x.2.2.2.2 s M q v t x.1).bind λP=>some (P.1,P.2.1,P.2.2.1,P.2.2.2.1,P.2.2.2.2.1,P.2.2.2.2.2.1,P.2.2.2.2.2.2.1,P.2.2.2.2.2.2.2.1,x.2.2.2.2,P.2.2.2.2.2.2.2.2.1,P.2.2.2.2.2.2.2.2.2.1,q,P.2.2.2.2.2.2.2.2.2.2) else if (x.1.Kind==5) then (pL a u Q U x.2.2.1 d x.2.2.2.1 i k j h g x.2.2.2.2 s M q v t 3 x.1.E).bind λW=>some ([],(⟨(⟨a.lm.Name,a.lm.lK,a.lm.mi⟩:lm),a.mI,a.Room,a.lD,a.Shown,a.lL,a.me⟩:mD),x.2.2.1,W.1,x.2.2.2.1,j,h,g,x.2.2.2.2,W.2.1,W.2.2,q,t) else (uF a u Q U x.2.2.1 d x.2.2.2.1 i k j h g x.2.2.2.2 s M q v t x.1).bind λI=>some (I.1,(⟨(⟨a.lm.Name,a.lm.lK,a.lm.mi⟩:lm),a.mI,a.Room,a.lD,a.Shown,a.lL,a.me⟩:mD),I.2.1,I.2.2.1,I.2.2.2.1,I.2.2.2.2.1,I.2.2.2.2.2.1,I.2.2.2.2.2.2.1,x.2.2.2.2,I.2.2.2.2.2.2.2.1,I.2.2.2.2.2.2.2.2.1,q,I.2.2.2.2.2.2.2.2.2)))
def DL (a0:HU):Option Int :=
 ((((zz a0.S).bind λa=>some (a,[a0.F])):Option (Int×(List Formula))).bind λ(i,d)=>(sy mZ d).bind λg=>(wY a0.G ([])).bind λh=>some (wi0 .i64 ((wi0 .i64 (i+(wi0 .i64 (20*g))))+h)))
def De (j g:Bool) (s a k h d:Int) (i:List Int) (t:Int):Option ((List Int)×Int×Int×Int) :=
 ((if g then some true else some j).bind λx2=>(if x2 then some true else some ((i.length:Int)==0)).bind λx8=>(if x8 then some ([],0,h,d) else if (decide ((if a < (wi0 .i64 (d+1)) then a else wi0 .i64 (d+1)) < a)) then some ([],0,h,(if a < (wi0 .i64 (d+1)) then a else wi0 .i64 (d+1))) else (xK j g s a k h (if a < (wi0 .i64 (d+1)) then a else wi0 .i64 (d+1)) i t).bind λq=>(if (!q.2.1) then some ([],60,q.2.2.1,q.2.2.2) else some (q.1,0,q.2.2.1,q.2.2.2))))
def wu (z:mD) (v:pj) (O:Formula) (P:Option mc) (h a:Bool) (g i k u t:Int) (d:List Int) (q s M:Int) (y:Bool) (j x:Int):Option ((List (List Int))×Bool×Bool×Int×Int×Int×(List Int)×Int×Int×Int×Int) :=
 (if (s != 0) then some ([],h,a,g,u,t,d,s,M,j,x) else if (decide ((wi0 .i64 (j+1)) > v.vp)) then (nA z v O P h a g i k u t d q s M y (wi0 .i64 (j+1)) x 60).bind λQ=>some (Q.1,Q.2.1,Q.2.2.1,Q.2.2.2.1,Q.2.2.2.2.1,Q.2.2.2.2.2.1,Q.2.2.2.2.2.2.1,Q.2.2.2.2.2.2.2.1,Q.2.2.2.2.2.2.2.2.1,wi0 .i64 (j+1),Q.2.2.2.2.2.2.2.2.2) else (De h a g i k u t d q).bind λJ=>(if (J.2.1 != 0) then (nA z v O P h a g i k J.2.2.1 J.2.2.2 d q s M y (wi0 .i64 (j+1)) x J.2.1).bind λI=>some (I.1,I.2.1,I.2.2.1,I.2.2.2.1,I.2.2.2.2.1,I.2.2.2.2.2.1,I.2.2.2.2.2.2.1,I.2.2.2.2.2.2.2.1,I.2.2.2.2.2.2.2.2.1,wi0 .i64 (j+1),I.2.2.2.2.2.2.2.2.2) else (pW z v O P h a g i k J.2.2.1 J.2.2.2 d q s M y (wi0 .i64 (j+1)) x ([J.1])).bind λU=>some (U.1,h,a,g,J.2.2.1,J.2.2.2,d,s,M,wi0 .i64 (j+1),U.2)))
structure HN where
 Pt:Bool
 B:List Int
structure yJ where
 A:HU
 B:HU
 R:lh
 L:List HN
def rF :List (List Int)→(List tT)→Option (List tT)
 | [],a=>some a
 | h::g,a=>(oY 32 a ([(⟨true,h⟩:tT)])).bind λd=>rF g d
def ru (a0:List (List Int)) (a:List tT):Option (List tT) :=
 rF a0 a
def sc (g:(mD×pj×Formula×(Option mc)×Ff×Int×Int×Bool×Int×Int)) (a0:yJ) (ae:((Option mc)×Int)):List HN→(List tT)→ByteArray→(List np)→(List oe)→ByteArray→Int→(List lg)→(List lg)→(List lh)→(List lh)→Int→Int→Bool→Int→Int→Bool→Bool→Int→Int→Int→(List Int)→Int→Option Bool
 | [],h,v,i,j,x,y,k,q,s,t,O,P,z,I,Q,U,W,Y,a1,a6,M,J=>(zA a0.A.S.lm a0.A.S.mI ae.1 h).bind λad=>some (Eu ad (⟨(h.length:Int),0⟩:sB))
 | u::a7,h,v,i,j,x,y,k,q,s,t,O,P,z,I,Q,U,W,Y,a1,a6,M,J=>(if (decide ((u.B.length:Int) > 1500)) then some true else if u.Pt then (wu (⟨(⟨v,i,j⟩:lm),x,y,k,q,s,t⟩:mD) g.2.1 (⟨g.2.2.1.Op,g.2.2.1.K,g.2.2.1.lh,g.2.2.1.Kids⟩:Formula) g.2.2.2.1 U W Y g.2.2.2.2.1.timeout g.2.2.2.2.1.Je a1 a6 M J O P z I Q).bind λd=>((ru d.1 h).bind λaa=>sc g a0 ae a7 aa v i j x y k q s t d.2.2.2.2.2.2.2.1 d.2.2.2.2.2.2.2.2.1 z d.2.2.2.2.2.2.2.2.2.1 d.2.2.2.2.2.2.2.2.2.2 d.2.1 d.2.2.1 d.2.2.2.1 d.2.2.2.2.1 d.2.2.2.2.2.1 d.2.2.2.2.2.2.1 J) else (oY 32 h ([(⟨false,u.B⟩:tT)])).bind λa8=>(xd (⟨(⟨v,i,j⟩:lm),x,y,k,q,s,t⟩:mD) g.2.1 (⟨g.2.2.1.Op,g.2.2.1.K,g.2.2.1.lh,g.2.2.1.Kids⟩:Formula) g.2.2.2.1 U W Y g.2.2.2.2.1.timeout g.2.2.2.2.1.Je a1 a6 M J O P z I Q u.B).bind λa=>(ru a.1 a8).bind λab=>sc g a0 ae a7 ab a.2.1.lm.Name a.2.1.lm.lK a.2.1.lm.mi a.2.1.mI a.2.1.Room a.2.1.lD a.2.1.Shown a.2.1.lL a.2.1.me a.2.2.2.2.2.2.2.2.2.1 a.2.2.2.2.2.2.2.2.2.2.1 a.2.2.2.2.2.2.2.2.2.2.2.1 I a.2.2.2.2.2.2.2.2.2.2.2.2 a.2.2.1 a.2.2.2.1 a.2.2.2.2.1 a.2.2.2.2.2.1 a.2.2.2.2.2.2.1 a.2.2.2.2.2.2.2.1 a.2.2.2.2.2.2.2.2.1)
def zo (a0:yJ):Option Bool :=
 (DJ.bind λj=>(if (!j) then some false else (Gr a0.A.G).bind λg=>(DL a0.A).bind λk=>(if (decide (k > 6000)) then some true else some (decide ((a0.L.length:Int) > 25))).bind λq=>(if q then some true else some (g.2 != 0)).bind λs=>(if s then some true else some (decide ((a0.A.S.lD.length:Int) > 0))).bind λt=>(if t then some true else (F5 a0.A.S a0.A.T a0.A.F g.1).bind λh=>Vo h.1 (if (h.2 != 0) then some true else none) λa=>(if (h.2 != 0) then some false else (vZ a.1 a.2.1 a.2.2.1 a.2.2.2.1 a.2.2.2.2.1.word a.2.2.2.2.1.closed a.2.2.2.2.1.next a.2.2.2.2.1.timeout a.2.2.2.2.1.Je a.2.2.2.2.1.left a.2.2.2.2.1.UK a.2.2.2.2.1.last a.2.2.2.2.1.Xq a.2.2.2.2.2.1 a.2.2.2.2.2.2.1 a.2.2.2.2.2.2.2.1 a.2.2.2.2.2.2.2.2.1 a.2.2.2.2.2.2.2.2.2).bind λd=>(ru d.1 ([])).bind λi=>sc a a0 g a0.L i a.1.lm.Name a.1.lm.lK a.1.lm.mi a.1.mI a.1.Room a.1.lD a.1.Shown a.1.lL a.1.me a.2.2.2.2.2.1 a.2.2.2.2.2.2.1 a.2.2.2.2.2.2.2.1 a.2.2.2.2.2.2.2.2.1 d.2.2.2.2.2.2 d.2.1 a.2.2.2.2.1.closed d.2.2.1 d.2.2.2.1 d.2.2.2.2.1 d.2.2.2.2.2.1 a.2.2.2.2.1.Xq))))
end
end Go.Proofs.YtojmckcglalbnaaGreat
