/- a part of a proof of ChangeTells -/
import Derived.WalkKit
import Derived.WalkLawsBesides
import Derived.TacticsIn
import Derived.OrdersIn
import Derived.ControlIn
import Derived.Maps.AppendAt
import Derived.OrdersHeld
import Derived.Laws.IdiomStrings
import Derived.Maps.RangeRun
import Derived.Lib.BytesEntry
import Derived.Lib.Bytealg
import Derived.Laws.Externs
import Derived.ChangeKeysEq
import Derived.Deep.AppendSrc
import Derived.Laws.MakeOwn
set_option linter.all false
namespace Go.Proofs.YtjjjihkifgdhgaaGreatDoor
open Go.RowKit
def aA:=@Option.bind_some
def aB:=@Bool.false_eq_true
def aC:=@List.length_append
def aD:=@ByteArray.size_append
def aF:=@Nat.exists_eq_succ_of_ne_zero
def aI:=@List.eq_nil_of_length_eq_zero
def aJ:=@List.length_cons
def aK:=@List.cons.injEq
def aM:=@Int.natCast_nonneg
def aN:=@if_false
def aO:=@List.drop_length
def aQ:=@Nat.le_refl
def aS:=@if_true
def aT:=@Nat.lt_succ_self
def aU:=@List.flatten_cons
def aV:=@List.mem_append
def aW:=@List.append_assoc
def aY:=@List.mem_cons
def bA:=@List.map_cons
def bB:=@List.append_nil
def bD:=@List.length_nil
def bE:=@List.mem_map
def bF:=@run_underlying
def bH:=@List.mem_singleton
def bJ:=@decide_true
def bK:=@List.getElem?_eq_some_iff
def bL:=@decide_false
def bM:=@List.nil_append
def bO:=@congrArg
def bP:=@List.flatten_append
def bQ:=@Bool.and_eq_true
def bR:=@Result.andThen_ok
def bU:=@List.pairwise_cons
def bW:=@List.length_map
def bY:=@List.cons_append
def cE:=@if_pos
def cI:=@if_neg
def cJ:=@List.flatten_nil
def cK:=@beq_self_eq_true
def cL:=@Sem.run_bind
def cM:=@List.Perm.refl
def cP:=@List.map_append
def cQ:=@List.mem_filter
def cR:=@List.mem_of_getElem?
def cU:=@and_true
def cW:=@List.nodup_append
def cX:=@decide_eq_true_eq
def cY:=@Bool.not_true
def cZ:=@Bool.eq_iff_iff
def dA:=@Nat.mul_le_mul_right
def dB:=@List.Perm.append_left
def dC:=@Int.toNat_natCast
def dD:=@List.length_zipIdx
def dE:=@List.getElem?_eq_getElem
def dF:=@Nat.add_mul
def dG:=@List.pairwise_append
def dI:=@Calls.mono
def dK:=@List.mem_append_left
def dL:=@List.length_take
def dM:=@List.not_mem_nil
def dN:=@DataW.trod_struct
def dO:=@List.eq_nil_or_concat
def dP:=@Array.length_toList
def dR:=@Addr.add_lit
def dS:=@Sem.run_pure
def dV:=@ByteArray.append_assoc
def dW:=@List.getElem?_take_of_lt
def dY:=@Bool.not_false
def dZ:=@List.size_toArray
def eB:=@Nat.zero_le
def eC:=@Nat.le_trans
def eE:=@List.take_of_length_le
def eG:=@Nat.min_eq_left
def eH:=@List.singleton_append
def eJ:=@Array.getElem?_toList
def eK:=@List.concat_eq_append
def eL:=@List.length_filter_le
def eO:=@Array.getElem?_eq_some_iff
def eP:=@List.getElem?_drop
def eQ:=@Nat.eq_zero_or_pos
def eT:=@List.nodup_cons
def eU:=@List.map_nil
def eY:=@Option.isNone_iff_eq_none
def fA:=@Nat.add_assoc
def fC:=@Bool.eq_false_or_eq_true
def fE:=@Nat.lt_of_lt_of_le
def fF:=@List.length_eq_zero_iff
def fH:=@List.filter_cons
def fJ:=@List.getElem?_append_right
def fM:=@List.le_snd_of_mem_zipIdx
def fS:=@List.getElem?_map
def fU:=@Bool.not_eq_true'
def fV:=@List.pairwise_singleton
def fX:=@Array.getD_eq_getD_getElem?
def fZ:=@Bool.not_not
def gp:=@List.perm_middle
def gv:=@List.perm_append_singleton
def gx:=@Array.getElem?_modify
def gA:=@List.mem_append_right
def gB:=@List.getElem?_append_left
def gC:=@Option.map_some
def gD:=@cell_of_row
def gE:=@List.ext_getElem?
def gF:=@List.mem_cons_of_mem
def gG:=@Nat.zero_add
def gH:=@List.map_map
def gK:=@List.sum_cons
def gM:=@List.zipIdx_map_fst
def gN:=@List.take_append
def gO:=@decide_eq_false_iff_not
def gP:=@or_false
def gQ:=@List.getElem?_take
def gU:=@eq_iff_iff
def gV:=@List.length_eq_one_iff
def gW:=@List.foldl_cons
def gY:=@List.find?_cons
def gZ:=@Option.some.inj
def hU:=@List.getElem?_eq_none
def hY:=@List.length_singleton
def ib:=@List.getElem?_set
def ic:=@List.perm_append_comm_assoc
def ig:=@List.getElem?_append
def ij:=@List.forall_mem_cons
def iq:=@List.fst_mem_of_mem_zipIdx
def ir:=@List.zipIdx_cons
def iu:=@List.length_drop
def iv:=@List.all_eq_true
def iB:=@ByteArray.toList_eq
def iC:=@run_callFunc_extern
def iD:=@List.filter_eq_self
def iE:=@ByteArray.ext
def iH:=@Bool.true_and
def iI:=@Int.lt_irrefl
def iJ:=@Bool.or_eq_true
def iK:=@Bool.not_eq_false'
def iL:=@List.take_take
def iM:=@List.pairwise_map
def iN:=@Option.some.injEq
def iO:=@Go.Lib.strCells_length
def iR:=@List.map_eq_append_iff
def iW:=@List.getElem?_toArray
def iX:=@Nat.div_lt_iff_lt_mul
def iY:=@List.take_append_drop
def jc:=@List.cons.inj
def jd:=@List.snd_lt_add_of_mem_zipIdx
def je:=@List.length_set
def jf:=@List.Perm.nodup_iff
def jg:=@List.take_length_add_append
def jl:=@run_loadCells_list
def jm:=@grownCap_le_maxLen
def jo:=@List.drop_take
def jq:=@List.findIdx?_cons
def jr:=@Option.isNone_none
def ju:=@List.zipIdx_append
def jv:=@List.filter_append
def jw:=@UInt8.toNat_lt
def jx:=@Bool.and_assoc
def jy:=@List.find?_eq_none
def jz:=@run_storeCells_at
def jA:=@Function.comp_def
def jB:=@List.findIdx?_map
def jC:=@Nat.mul_one
def jE:=@UInt8.ofNat_toNat
def jF:=@List.map_id
def jG:=@of_decide_eq_true
def jL:=@List.mem_flatten
def jS:=@List.append_inj'
def jT:=@Nat.add_zero
def jX:=@Oper.upon_value
def jY:=@Oper.upon_enter
def kh:=@List.filter_nil
def ki:=@Nat.le_succ
def kj:=@Nat.one_mul
def kk:=@getD_set_ne
def kp:=@Nat.le_zero
def kq:=@wpIn_mono
def ku:=@mem_ready
class Md where
 ro:Option Nat
 D:List Deferred
instance B4:Md:=⟨none,[]⟩
theorem AI {ro:Option Nat} {P:Program} {ρ:Operand→Value} {o:Oper} {W W':World} {x:Next} (h:(execOp ρ o).run P W= .ok x W') (n:∀d,x≠.defer d):(Oper.semAt ro ρ o).run P W= .ok x W':=by
 cases ro with
 | none=>exact h
 | some l=>
  rw [Oper.semAt_eq]
  ·exact h
  ·intro c j
   have e:(execOp ρ o)=(resolve ρ c o.type >>= λd=>pure (Next.defer d)):=by
    unfold execOp; rw [j]
   rw [e,cL] at h
   cases i:(resolve ρ c o.type).run P W with
   | ok d w=>rw [i,bR] at h; cases h; exact n d rfl
   | halt z w=>rw [i] at h; cases h
def Md.F (M:Md):Fence:={ Fence.wide with round:=M.ro }
theorem OI {M:Md} {n:Nat} {P:Program} {f:FuncId} {args:Array Value} {w:World} {R:Ending→World→Prop}:CallsIn M.F n P f args w R↔Calls P f args w R:=callsIn_wide
theorem I6 {M:Md} {n:Nat} {P:Program} {f:FuncId} {args:Array Value} {w:World} {R:Ending→World→Prop} (h:Calls P f args w R):(M.F.depth.isSome=true→1≤n)∧CallsIn M.F (n-1) P f args w R :=
 ⟨λe=>(nomatch (show (none:Option Nat).isSome=true from e)),OI.2 h⟩
variable [M:Md]
def qa (E:Nat→Value) (d:Nat) (v:Value):Nat→Value:=λt=>if t=d then v else E t
def kW (E:Nat→Value):Operand→Value
 | .tmp t=>E t
 | .const v=>v
 | .global g=>.pointer (some ⟨g,0,none⟩)
 | .func f=>.func (.func f) #[] #[]
def Ag (n:Nat) (a:Act) (E:Nat→Value):Prop:=a.tmps.size=n∧a.defers=M.D∧∀t,a.tmps.getD t undef=E t
section
variable {n:Nat} {a:Act} {E:Nat→Value}
theorem Ag.eval (h:Ag n a E):a.eval=kW E:=by
 funext x
 cases x with
 | tmp t=>exact h.2.2 t
 | const v=>rfl
 | global g=>rfl
 | func f=>rfl
theorem Ag.put (h:Ag n a E) {d:Nat} (p:d < n) (v:Value):Ag n (a.put (some d) v) (qa E d v):=by
 refine ⟨by simp [Act.put,h.1],h.2.1,λt=>?_⟩
 have j:=h.2.2 t
 simp only [Act.put,qa]
 by_cases i:t=d
 ·subst i
  simp [h.1,p]
 ·have:¬d=t:=λe=>i e.symm
  rw [cI i,←j]
  simp [fX,this]
theorem Ag.AR (h:Ag n a E) (v:Value):Ag n (a.put none v) E:=h
theorem Ag.yield (h:Ag n a E) {ops:Array Oper} {j t:Nat} {b:Bool} (i:(ops[j]?).bind (·.dst)=some t) (q:t < n) (r:E t= .bool b):yielded ops a.tmps j=some b:=by
 have d:=h.2.2 t
 have p:a.tmps[t]? =some (E t):=by
  rw [←d]
  simp [fX,h.1,q]
 simp [yielded,i,p,r]
end
abbrev rJ:=Exit→(Nat→Value)→World→Prop
def E0:Nat→Value:=λ_=>undef
def lift (n:Nat) (Q:rJ):Exit→Act→World→Prop
 | .panic c,a,w=>a.defers=M.D∧Q (.panic c) E0 w
 | .outgrown,_,_=>False
 | e,a,w=>∃E,Ag n a E∧Q e E w
theorem KB {n:Nat} {Q:rJ} {c:List PanicEntry} {a:Act} {d:Option Nat} {v:Value} {w:World} (h:lift n Q (.panic c) (a.put d v) w):lift n Q (.panic c) a w:=by
 cases d <;> exact h
def CW (P:Program) (n:Nat) (c:Code) (Q:rJ) (E:Nat→Value) (W:World):Prop:=∀a,Ag n a E→c.wpIn M.F 0 P (lift n Q) a W
def LW (P:Program) (n:Nat) (ops:Array Oper) (Q:rJ) (l:List Oper) (E:Nat→Value) (W:World):Prop:=∀a,Ag n a E→wpListIn M.F 0 P ops (lift n Q) l a W
def sn (K:(Nat→Value)→World→Prop) (Q:rJ):rJ
 | .normal,E,W=>K E W
 | e,E,W=>Q e E W
def xG (id:Nat) (Q:rJ):rJ
 | .exit j,E,W=>if j=id then Q .normal E W else Q (.exit j) E W
 | e,E,W=>Q e E W
section
variable {P:Program} {n:Nat} {Q:rJ} {E:Nat→Value} {W:World} {c x y:Code} {ops:Array Oper} {rest:List Oper} {o:Oper}
theorem IR {Q':rJ} (h:CW P n c Q E W) (j:∀e E W,Q e E W→Q' e E W):CW P n c Q' E W:=λa ha=>
 kq (h a ha) (λe _ _ h=>by
  cases e with
  | panic c=>exact ⟨h.1,j _ _ _ h.2⟩
  | outgrown=>exact h
  | _=>obtain ⟨E',d,i⟩:=h; exact ⟨E',d,j _ _ _ i⟩)
theorem kQ (h:CW P n x (sn (λE W=>CW P n y Q E W) Q) E W):CW P n (.seq x y) Q E W:=λa ha=>
 wpIn_seq (kq (h a ha) (λe i p h=>by
  cases e with
  | normal=>obtain ⟨E',d,j⟩:=h; exact j i d
  | _=>exact h))
theorem mM (h:Q .normal E W):CW P n .skip Q E W:=λ_ ha=>wpIn_skip ⟨E,ha,h⟩
theorem lB (h:Q .ret E W):CW P n .ret Q E W:=λ_ ha=>wpIn_ret ⟨E,ha,h⟩
theorem nu {id:Nat} (h:Q (.exit id) E W):CW P n (.exit id) Q E W:=λ_ ha=>wpIn_exit ⟨E,ha,h⟩
theorem me {id:Nat} (h:CW P n c (xG id Q) E W):CW P n (.block id c) Q E W:=λa ha=>
 wpIn_block (kq (h a ha) (λe q r h=>by
  cases e with
  | exit j=>
   obtain ⟨E',d,i⟩:=h
   simp only [Exit.inBlock]
   simp only [xG] at i
   split at i
   ·rename_i p; rw [cE p]; exact ⟨E',d,i⟩
   ·rename_i p; rw [cI p]; exact ⟨E',d,i⟩
  | _=>exact h))
theorem NT {co:Operand} {b:Bool} (d:kW E co= .bool b) (j:b=true→CW P n x Q E W) (i:b=false→CW P n y Q E W):CW P n (.cond co x y) Q E W:=λa ha=>by
 refine wpIn_cond_split (t:=b) (by rw [ha.eval]; exact d) (λh=>j h a ha) (λh=>i h a ha)
theorem xX {co:Operand} (d:kW E co= .bool true) (h:CW P n x Q E W):CW P n (.cond co x y) Q E W:=NT d (λ_=>h) (λh=>by cases h)
theorem tJ {co:Operand} (d:kW E co= .bool false) (h:CW P n y Q E W):CW P n (.cond co x y) Q E W:=NT d (λh=>by cases h) (λ_=>h)
theorem kR {id:Nat} {l:List Oper} (h:LW P n l.toArray Q l E W):CW P n (.region id l.toArray false) Q E W:=λa ha=>wpIn_region_lit (h a ha)
theorem lu (h:Q .normal E W):LW P n ops Q [] E W:=λ_ ha=>wpListIn_nil ⟨E,ha,h⟩
theorem IF {P:Program} {F:Fence} {n:Nat} {c:Code} {Q:Exit→Act→World→Prop} {a:Act} {w:World} (I:Nat→Act→World→Prop) (m:Nat) (q:I m a w) (round:∀m a w,I m a w→c.wpIn F n P (Exit.then (λr s=>∃j,j < m∧I j r s) Q) a w):(Code.loop c).wpIn F n P Q a w:=by
 classical
 let J:Act→World→Prop:=λa w=>∃m,I m a w
 have least:∀a w,J a w→∃m,I m a w∧∀k,I k a w→m≤k:=λa w ⟨m,hm⟩=>by
  induction m using Nat.strongRecOn with
  | _ m ih=>
   by_cases h:∃k,k < m∧I k a w
   ·obtain ⟨k,hk,d⟩:=h; exact ih k hk d
   ·exact ⟨m,hm,λk d=>Nat.le_of_not_lt λi=>h ⟨k,i,d⟩⟩
 let μ:Act→World→Nat:=λa w=>if h:J a w then Classical.choose (least a w h) else 0
 have p:∀a w (h:J a w),I (μ a w) a w∧∀k,I k a w→μ a w≤k:=λa w h=>by
  have e:μ a w=Classical.choose (least a w h):=dif_pos h
  rw [e]; exact Classical.choose_spec (least a w h)
 refine wpIn_loop J μ ⟨m,q⟩ λa w u=>kq (round _ a w (p a w u).1) λe r s h=>?_
 cases e with
 | normal=>obtain ⟨j,i,d⟩:=h; exact ⟨⟨j,d⟩,Nat.lt_of_le_of_lt ((p r s ⟨j,d⟩).2 j d) i⟩
 | _=>exact h
theorem nn (I:Nat→(Nat→Value)→World→Prop) (m:Nat) (d:I m E W) (round:∀m E W,I m E W→CW P n c (sn (λE' W'=>∃i,i < m∧I i E' W') Q) E W):CW P n (.loop c) Q E W:=λa ha=>
 IF (λm a w=>∃E,Ag n a E∧I m E w) m ⟨E,ha,d⟩ (λm a w ⟨E,ha,r⟩=>
  kq (round m E w r a ha) (λe s u h=>by
   cases e with
   | normal=>obtain ⟨E',p,i,q,j⟩:=h; exact ⟨i,q,E',p,j⟩
   | _=>exact h))
def uz (n:Nat) (ops:Array Oper) (E:Nat→Value) (o:Oper):Prop :=
 o.guard=none∨∃j want t,o.guard=some (j,want)∧(ops[j]?).bind (·.dst)=some t∧t < n∧E t= .bool want
theorem uz.of {a:Act} (h:uz n ops E o) (ha:Ag n a E):Region.wanted o (yielded ops a.tmps)=true:=by
 rcases h with h | ⟨j,want,t,i,p,q,d⟩
 ·simp [Region.wanted,h]
 ·simp [Region.wanted,i,ha.yield p q d]
theorem OU {d:Nat} {v:Value} {W':World} (hw:uz n ops E o) (i:o.dst=some d) (j:d < n) (p:(execOp (kW E) o).run P W= .ok (.value v) W') (h:LW P n ops Q rest (qa E d v) W'):LW P n ops Q (o::rest) E W:=λa ha=>by
 unfold wpListIn
 rw [cE (hw.of ha)]
 unfold Oper.wpIn
 refine ⟨λ_ _=>trivial,?_⟩
 rw [ha.eval,AI p (by simp),Oper.uponIn_value,i]
 exact h _ (ha.put j v)
theorem PN {W':World} (hw:uz n ops E o) (d:o.dst=none) (i:(execOp (kW E) o).run P W= .ok .skip W') (h:LW P n ops Q rest E W'):LW P n ops Q (o::rest) E W:=λa ha=>by
 unfold wpListIn
 rw [cE (hw.of ha)]
 unfold Oper.wpIn
 refine ⟨λ_ _=>trivial,?_⟩
 rw [ha.eval,AI i (by simp),Oper.uponIn_skip,d]
 exact h _ (ha.AR _)
theorem Qp {f:FuncId} {args:Array Value} {d:Nat} (hw:uz n ops E o) (j:o.dst=some d) (q:d < n) (r:(execOp (kW E) o).run P W= .ok (.enter f args) W) (h:Calls P f args W λe i=>∃v,e= .returned v∧LW P n ops Q rest (qa E d v) i):LW P n ops Q (o::rest) E W:=λa ha=>by
 unfold wpListIn
 rw [cE (hw.of ha)]
 unfold Oper.wpIn
 refine ⟨λ_ _=>trivial,?_⟩
 rw [ha.eval,AI r (by simp),Oper.uponIn_enter]
 refine I6 (dI h ?_)
 rintro e i ⟨v,rfl,p⟩
 simp only [j]
 exact p _ (ha.put q v)
theorem Tu {d j t:Nat} {want:Bool} (p:o.dst=some d) (s:d < n) (q:o.guard=some (j,want)) (r:(ops[j]?).bind (·.dst)=some t) (u:t < n) (i:E t= .bool (!want)) (h:LW P n ops Q rest (qa E d undef) W):LW P n ops Q (o::rest) E W:=λa ha=>by
 unfold wpListIn
 have v:=ha.yield r u i
 rw [cI (by simp [Region.wanted,q,v])]
 rw [p]
 exact ⟨λ_ _=>trivial,h _ (ha.put s _)⟩
end
end Go.Proofs.YtjjjihkifgdhgaaGreatDoor
namespace Go.Proofs.YtjjjihkifgdhgaaGreatDoor
open Go.RowKit
variable {dd:Bool}
abbrev lF:=Nat→Option Obj
def hp (W:World):lF:=λb=>W.heap[b]?
def uU (dd:Bool) (a b:Nat):Prop:=dd=true→a≤b
theorem uU.of {dd:Bool} {a b:Nat} (h:a≤b):uU dd a b:=λ_=>h
theorem uU.trans {dd:Bool} {a b c:Nat} (h:uU dd a b) (k:uU dd b c):uU dd a c:=λe=>eC (h e) (k e)
structure Ex (dd:Bool) (w W:World):Prop where
 os:W.os=w.os
 tape:W.tape=w.tape
 output:W.output=w.output
 drawn:uU dd w.drawn W.drawn
 size:w.heap.size≤W.heap.size
 rA:∀b,b < w.heap.size→W.heap[b]? =w.heap[b]?
theorem Ex.refl (w:World):Ex dd w w:=⟨rfl,rfl,rfl,uU.of (aQ _),aQ _,λ_ _=>rfl⟩
theorem Ex.trans {a b c:World} (h:Ex dd a b) (k:Ex dd b c):Ex dd a c :=
 ⟨k.os.trans h.os,k.tape.trans h.tape,k.output.trans h.output,uU.trans h.drawn k.drawn,eC h.size k.size,λi d=>(k.rA i (fE d h.size)).trans (h.rA i d)⟩
theorem Ex.drew (w:World):Ex dd w w.drew:=⟨rfl,rfl,rfl,uU.of (ki _),aQ _,λ_ _=>rfl⟩
theorem Ex.alloc (w:World) (o:Obj):Ex dd w (w.alloc o):=⟨rfl,rfl,rfl,uU.of (aQ _),by show w.heap.size≤(w.heap.push o).size; simp,λk hk=>Below.heap_alloc w o k hk⟩
theorem Ex.mK {w W:World} (h:Ex true w W):Ex dd w W:=⟨h.os,h.tape,h.output,uU.of (h.drawn rfl),h.size,h.rA⟩
def lz (μ μ':lF):Prop:=∀b o,μ b=some o→μ' b=some o
theorem lz.refl (μ:lF):lz μ μ:=λ_ _ h=>h
theorem lz.trans {a b c:lF} (h:lz a b) (k:lz b c):lz a c:=λx o d=>k x o (h x o d)
structure ST (dd:Bool) (F:Nat→Prop) (w W:World) (μ:lF) (L:List (Nat×Obj)):Prop where
 os:W.os=w.os
 tape:W.tape=w.tape
 output:W.output=w.output
 drawn:uU dd w.drawn W.drawn
 size:w.heap.size≤W.heap.size
 rA:∀b,b < w.heap.size→¬F b→W.heap[b]? =w.heap[b]?
 mem:∀b o,μ b=some o→W.heap[b]? =some o
 box:∀b o,(b,o)∈L→W.heap[b]? =some o∧μ b=none∧(w.heap.size≤b∨F b)
 nd:(L.map (·.1)).Nodup
def lD:Nat→Prop:=λ_=>False
theorem ST.start (w:World):ST dd lD w w (hp w) [] :=
 ⟨rfl,rfl,rfl,uU.of (aQ _),aQ _,λ_ _ _=>rfl,λ_ _ h=>h,λ_ _ h=>(by cases h),by simp⟩
section
variable {F:Nat→Prop} {w W W':World} {μ μ':lF} {L L':List (Nat×Obj)}
theorem ST.ex (h:ST dd lD w W μ L):Ex dd w W:=⟨h.os,h.tape,h.output,h.drawn,h.size,λb hb=>h.rA b hb (λx=>x)⟩
theorem QI (W:World) (o:Obj):(W.alloc o).heap[W.heap.size]? =some o:=heap_alloc_new W o
theorem pH {W:World} {b:Nat} {o:Obj} (h:W.heap[b]? =some o):b < W.heap.size:=(eO.1 h).1
theorem ST.drew (h:ST dd F w W μ L):ST dd F w W.drew μ L :=
 ⟨h.os,h.tape,h.output,uU.trans h.drawn (uU.of (ki _)),h.size,h.rA,h.mem,h.box,h.nd⟩
theorem ST.HX (h:ST dd F w W μ L) {b:Nat} {o:Obj} (hb:(b,o)∈L):b < W.heap.size:=pH (h.box b o hb).1
theorem ST.alloc (h:ST dd F w W μ L) (o:Obj):ST dd F w (W.alloc o) μ ((W.heap.size,o)::L):=by
 refine ⟨h.os,h.tape,h.output,h.drawn,eC h.size (Ex.alloc (dd:=true) W o).size,λb hb n=>?_,λb d hb=>?_,λb d hb=>?_,?_⟩
 ·rw [(Ex.alloc (dd:=true) W o).rA b (fE hb h.size)]; exact h.rA b hb n
 ·have:=h.mem b d hb
  rw [(Ex.alloc (dd:=true) W o).rA b (pH this)]; exact this
 ·rcases aY.1 hb with e | hb
  ·cases e
   refine ⟨QI W o,?_,.inl h.size⟩
   cases hm:μ W.heap.size with
   | none=>rfl
   | some x=>have:=pH (h.mem _ _ hm); omega
  ·obtain ⟨h1,i,j⟩:=h.box b d hb
   exact ⟨by rw [(Ex.alloc (dd:=true) W o).rA b (pH h1)]; exact h1,i,j⟩
 ·simp only [bA,eT]
  refine ⟨λhm=>?_,h.nd⟩
  obtain ⟨⟨b,d⟩,hb,e⟩:=bE.1 hm
  have:=h.HX hb
  simp at e
  omega
theorem ST.put {A B:List (Nat×Obj)} {b:Nat} {o s:Obj} (h:ST dd F w W μ (A++(b,o)::B)) (G:W'.os=W.os∧W'.tape=W.tape∧W'.output=W.output∧W.drawn≤W'.drawn∧W'.heap.size=W.heap.size) (j:∀k,k≠b→W'.heap[k]? =W.heap[k]?) (hb:W'.heap[b]? =some s):ST dd F w W' μ (A++(b,s)::B):=by
 obtain ⟨h1,u,v,z,E⟩:=G
 have i:=h.box b o (by simp)
 have d:=h.nd
 simp only [cP,bA] at d
 have n:∀x o,(x,o)∈A→x≠b:=λx o q e=>by
  subst e
  have:=(cW.1 d).2.2 x (bE.2 ⟨_,q,rfl⟩) x (by simp)
  exact this rfl
 have p:∀x o,(x,o)∈B→x≠b:=λx o q e=>by
  subst e
  have:=(eT.1 (cW.1 d).2.1).1
  exact this (bE.2 ⟨_,q,rfl⟩)
 refine ⟨h1.trans h.os,u.trans h.tape,v.trans h.output,uU.trans h.drawn (uU.of z),by rw [E]; exact h.size,λk hk r=>?_,λk x hk=>?_,λk x hk=>?_,by simpa using d⟩
 ·rw [j k (λe=>by subst e; rcases i.2.2 with h | h; omega; exact r h)]
  exact h.rA k hk r
 ·rw [j k (λe=>by subst e; rw [i.2.1] at hk; cases hk)]
  exact h.mem k x hk
 ·rcases aV.1 hk with hk | hk
  ·rw [j k (n k x hk)]; exact h.box k x (by simp [hk])
  ·rcases aY.1 hk with e | hk
   ·cases e; exact ⟨hb,i.2⟩
   ·rw [j k (p k x hk)]; exact h.box k x (by simp [hk])
def Lo (F:Nat→Prop) (w:World) (μ μ':lF):Prop:=∀b,b < w.heap.size→¬F b→μ' b=μ b
theorem Lo.refl {F:Nat→Prop} {w:World} {μ:lF}:Lo F w μ μ:=λ_ _ _=>rfl
theorem Lo.trans {F:Nat→Prop} {w:World} {a b c:lF} (h:Lo F w a b) (k:Lo F w b c):Lo F w a c:=λx i d=>(k x i d).trans (h x i d)
def grow (μ:lF) (W W':World):lF:=λb=>if b < W.heap.size then μ b else W'.heap[b]?
theorem ST.Gt (h:ST dd F w W μ L) {b:Nat} {o:Obj} (hb:μ b=some o):b < W.heap.size:=pH (h.mem b o hb)
theorem ST.call (h:ST dd F w W μ L) (d:Ex dd W W'):ST dd F w W' (grow μ W W') L:=by
 refine ⟨d.os.trans h.os,d.tape.trans h.tape,d.output.trans h.output,uU.trans h.drawn d.drawn,eC h.size d.size,λb hb p=>?_,λb o hb=>?_,λb o hb=>?_,h.nd⟩
 ·rw [d.rA b (fE hb h.size)]; exact h.rA b hb p
 ·unfold grow at hb
  split at hb
  ·rename_i i; rw [d.rA b i]; exact h.mem b o hb
  ·exact hb
 ·obtain ⟨h1,j,n⟩:=h.box b o hb
  exact ⟨by rw [d.rA b (pH h1)]; exact h1,by unfold grow; rw [cE (pH h1)]; exact j,n⟩
theorem ST.Pw (h:ST dd F w W μ L) (W':World):lz μ (grow μ W W'):=λb o hb=>by
 unfold grow; rw [cE (h.Gt hb)]; exact hb
theorem ST.mK (h:ST dd F w W μ' L) (d:lz μ μ'):ST dd F w W μ L :=
 ⟨h.os,h.tape,h.output,h.drawn,h.size,h.rA,λb o hb=>h.mem b o (d b o hb),λb o hb=>by
  obtain ⟨h1,i,j⟩:=h.box b o hb
  refine ⟨h1,?_,j⟩
  cases hm:μ b with
  | none=>rfl
  | some x=>(have:=d b x hm; rw [i] at this; cases this),h.nd⟩
theorem ST.Ij (h:ST dd F w W μ L) (d:Ex dd W W'):ST dd F w W' μ L:=(h.call d).mK (h.Pw W')
theorem ST.kG (h:ST dd F w W μ L):lz μ (hp W):=h.mem
def MO (μ:lF) (b:Nat) (o:Obj):lF:=λk=>if k=b then some o else μ k
theorem ST.I8 {A B:List (Nat×Obj)} {b:Nat} {o:Obj} (h:ST dd F w W μ (A++(b,o)::B)):ST dd F w W (MO μ b o) (A++B):=by
 have j:=h.box b o (by simp)
 have d:=h.nd
 simp only [cP,bA] at d
 have p:∀x y,(x,y)∈A++B→x≠b:=λx y i e=>by
  subst e
  rcases aV.1 i with i | i
  ·exact (cW.1 d).2.2 x (bE.2 ⟨_,i,rfl⟩) x (by simp) rfl
  ·exact (eT.1 (cW.1 d).2.1).1 (bE.2 ⟨_,i,rfl⟩)
 refine ⟨h.os,h.tape,h.output,h.drawn,h.size,h.rA,λk x hk=>?_,λk x hk=>?_,?_⟩
 ·unfold MO at hk
  split at hk
  ·rename_i e; cases hk; rw [e]; exact j.1
  ·exact h.mem k x hk
 ·have n:(k,x)∈A++(b,o)::B:=by
   rcases aV.1 hk with h | h <;> simp [h]
  obtain ⟨h1,q,r⟩:=h.box k x n
  exact ⟨h1,by unfold MO; rw [cI (p k x hk)]; exact q,r⟩
 ·have:(A++B).Sublist (A++(b,o)::B):=List.Sublist.append (List.Sublist.refl A) (List.sublist_cons_self _ _)
  exact List.Nodup.sublist (this.map _) h.nd
theorem ST.IQ {A B:List (Nat×Obj)} {b:Nat} {o:Obj} (h:ST dd F w W μ (A++(b,o)::B)):lz μ (MO μ b o):=λk x hk=>by
 unfold MO
 split
 ·rename_i e; subst e; rw [(h.box k o (by simp)).2.1] at hk; cases hk
 ·exact hk
theorem ST.O6 {A B:List (Nat×Obj)} {b:Nat} {o:Obj} (h:ST dd F w W μ (A++(b,o)::B)):Lo F w μ (MO μ b o):=λk hk i=>by
 refine cI (λe=>?_)
 subst e
 rcases (h.box k o (by simp)).2.2 with d | d
 ·omega
 ·exact i d
theorem ST.drop {A B:List (Nat×Obj)} {p:Nat×Obj} (h:ST dd F w W μ (A++p::B)):ST dd F w W μ (A++B) :=
 (h.I8 (b:=p.1) (o:=p.2)).mK h.IQ
end
abbrev rB (α:Type):=lF→List Value→α→Prop
def Sl {α:Type} (R:rB α) (k:Nat) (μ:lF) (v:Value) (l:List α):Prop :=
 ∃A c,v= .slice A l.length c∧l.length≤c∧c≤maxLen∧(0 < l.length→∃b off cs T fr,A=some ⟨b,off,none⟩∧μ b=some (.cells cs T fr)∧
  ∀i x,l[i]? =some x→∃ys,ys.length=k∧R μ ys x∧∀j y,ys[j]? =some y→cs[off+i*k+j]? =some y)
def At (μ:lF) (v:Value) (ys:List Value):Prop :=
 ∃b off cs T fr,v= .pointer (some ⟨b,off,none⟩)∧μ b=some (.cells cs T fr)∧∀j y,ys[j]? =some y→cs[off+j]? =some y
def Fr (B:Nat) (v:Value):Prop:=∀b,v.ownBlock=some b→B≤b
def J4 {α:Type} (R:rB α):Prop:=∀μ μ' ys x,lz μ μ'→R μ ys x→R μ' ys x
def Pl {α:Type} (enc:α→List Value):rB α:=λ_ ys x=>ys=enc x
theorem Pl.mono {α:Type} (enc:α→List Value):J4 (Pl enc):=λ_ _ _ _ _ h=>h
theorem Sl.mono {α:Type} {R:rB α} (E:J4 R) {k:Nat} {μ μ':lF} {v:Value} {l:List α} (h:Sl R k μ v l) (j:lz μ μ'):Sl R k μ' v l:=by
 obtain ⟨A,c,h1,n,p,q⟩:=h
 refine ⟨A,c,h1,n,p,λG=>?_⟩
 obtain ⟨b,off,cs,T,fr,r,s,u⟩:=q G
 exact ⟨b,off,cs,T,fr,r,j _ _ s,λi x I=>let ⟨ys,w,z,d⟩:=u i x I; ⟨ys,w,E _ _ _ _ j z,d⟩⟩
theorem At.mono {μ μ':lF} {v:Value} {ys:List Value} (h:At μ v ys) (j:lz μ μ'):At μ' v ys:=by
 obtain ⟨b,off,cs,T,fr,h1,d,i⟩:=h
 exact ⟨b,off,cs,T,fr,h1,j _ _ d,i⟩
theorem Sl.len {α:Type} {R:rB α} {k:Nat} {μ:lF} {v:Value} {l:List α} (h:Sl R k μ v l):l.length≤9223372036854775807:=by
 obtain ⟨A,c,h1,i,d,j⟩:=h
 unfold maxLen at d
 omega
theorem Sl.nil {α:Type} (R:rB α) (k:Nat) (μ:lF):Sl R k μ (.slice none 0 0) []:=⟨none,0,rfl,aQ _,by decide,λh=>absurd h (by simp)⟩
theorem Fr.mono {B B':Nat} {v:Value} (h:Fr B v) (d:B'≤B):Fr B' v:=λb hb=>eC d (h b hb)
theorem Fr.nil (B:Nat):Fr B (.slice none 0 0):=λb hb=>by simp [Value.ownBlock] at hb
end Go.Proofs.YtjjjihkifgdhgaaGreatDoor
namespace Go.Proofs.YtjjjihkifgdhgaaGreatDoor
open Go.RowKit
variable [M:Md]
variable {dd:Bool}
section
variable {P:Program} {n:Nat} {Q:rJ} {E:Nat→Value} {W:World} {ops:Array Oper} {rest:List Oper}
 {d:Option Nat} {ty:TypeId} {pos:String} {af:Array Edge} {g:Option (Nat×Bool)}
 {F:Nat→Prop} {w:World} {μ:lF} {L:List (Nat×Obj)}
def nt (P:Program) (E:Nat→Value) (o:Oper) (W:World) (v:Value) (W':World):Prop:=(execOp (kW E) o).run P W= .ok (.value v) W'
theorem I3 {o:Oper} {dd:Nat} {v:Value} (hw:uz n ops E o) (d:o.dst=some dd) (i:dd < n) (j:nt P E o W v W) (h:LW P n ops Q rest (qa E dd v) W):LW P n ops Q (o::rest) E W:=OU hw d i j h
theorem kH {x:Operand} {v:Value} (i:kW E x=v):nt P E ⟨d,.move x,ty,pos,af,g⟩ W v W:=by rw [←i]; rfl
theorem mU {x:Operand} {v:Value} (i:kW E x=v):nt P E ⟨d,.assign x,ty,pos,af,g⟩ W v W:=by rw [←i]; rfl
theorem lb {c x y:Operand} {v:Value} (i:kW E c= .bool true) (j:kW E x=v):nt P E ⟨d,.pick c x y,ty,pos,af,g⟩ W v W:=by
 show (do pure (.value (if ←asBool (kW E c) then kW E x else kW E y)):Sem Next).run P W=_
 rw [i,←j]; simp [asBool]
theorem lf {c x y:Operand} {v:Value} (i:kW E c= .bool false) (j:kW E y=v):nt P E ⟨d,.pick c x y,ty,pos,af,g⟩ W v W:=by
 show (do pure (.value (if ←asBool (kW E c) then kW E x else kW E y)):Sem Next).run P W=_
 rw [i,←j]; simp [asBool]
theorem OY {x:Operand} {i:Nat} {vs:Array Value} {v:Value} (n:kW E x= .tuple vs) (j:vs[i]? =some v):nt P E ⟨d,.extract x i,ty,pos,af,g⟩ W v W:=by
 show (do pure (.value (←Instr.extract (kW E x) i)):Sem Next).run P W=_
 rw [n]; simp [Instr.extract,j]
theorem nv {u:TypeId} {x:Operand} {b:Bool} (i:kW E x= .bool b):nt P E ⟨d,.unOp .not u x,ty,pos,af,g⟩ W (.bool !b) W:=by
 show (do pure (.value (←Op.unary .not (kW E x))):Sem Next).run P W=_
 rw [i]; simp [Op.unary]
theorem NB {fn:Fn} {first caps:Array Operand} {v:Value} (i:.func fn (first.map (kW E)) (caps.map (kW E))=v):nt P E ⟨d,.makeFunc fn first caps,ty,pos,af,g⟩ W v W:=by
 show (do pure (.value (←Instr.makeFunc fn (first.map (kW E)) (caps.map (kW E)))):Sem Next).run P W=_
 rw [←i]; simp [Instr.makeFunc]
def J3 (k:IntKind) (op:BinOp) (a b:Int):Option Value :=
 match op with
 | .eql=>some (.bool (a==b))
 | .neq=>some (.bool (a != b))
 | .lss=>some (.bool (decide (a < b)))
 | .leq=>some (.bool (decide (a≤b)))
 | .gtr=>some (.bool (decide (a > b)))
 | .geq=>some (.bool (decide (a≥b)))
 | .add=>some (.int k (k.wrap (a+b)))
 | .sub=>some (.int k (k.wrap (a-b)))
 | .mul=>some (.int k (k.wrap (a*b)))
 | _=>none
theorem lE {op:BinOp} {tx tv:TypeId} {x y:Operand} {k:IntKind} {a b:Int} {v:Value} (j:kW E x= .int k a) (n:kW E y= .int k b) (i:J3 k op a b=some v) :
  nt P E ⟨d,.binOp op tx x y tv,ty,pos,af,g⟩ W v W:=by
 show (do let r ←(do eqGuard op tx x y (kW E x) (kW E y); binOp op tx (kW E x) (kW E y)); pure (.value r):Sem Next).run P W=_
 rw [j,n]
 cases op <;> simp [J3] at i <;> subst i <;> simp [eqGuard,binOp,Op.intCmp,Op.intArith]
def Q9 (op:BinOp) (a b:ByteArray):Option Value :=
 match op with
 | .eql=>some (.bool (a.toList==b.toList))
 | .neq=>some (.bool !(a.toList==b.toList))
 | .lss=>some (.bool (Op.bytesLess a.toList b.toList))
 | .leq=>some (.bool (Op.bytesLess a.toList b.toList||a.toList==b.toList))
 | .gtr=>some (.bool !(Op.bytesLess a.toList b.toList||a.toList==b.toList))
 | .geq=>some (.bool !(Op.bytesLess a.toList b.toList))
 | _=>none
def lY (a b:ByteArray):Option ByteArray:=if ((a.size+b.size:Nat):Int) > IntKind.i64.max then none else some (a++b)
theorem qe {op:BinOp} {tx tv:TypeId} {x y:Operand} {a b:ByteArray} {v:Value} (j:kW E x= .string a) (n:kW E y= .string b) (i:Q9 op a b=some v) :
  nt P E ⟨d,.binOp op tx x y tv,ty,pos,af,g⟩ W v W:=by
 show (do let r ←(do eqGuard op tx x y (kW E x) (kW E y); binOp op tx (kW E x) (kW E y)); pure (.value r):Sem Next).run P W=_
 rw [j,n]
 cases op <;> simp [Q9] at i <;> subst i <;> simp [eqGuard,binOp,Op.stringOp]
theorem lU {tx tv:TypeId} {x y:Operand} {a b r:ByteArray} (j:kW E x= .string a) (n:kW E y= .string b) (i:lY a b=some r) :
  nt P E ⟨d,.binOp .add tx x y tv,ty,pos,af,g⟩ W (.string r) W:=by
 show (do let r ←(do eqGuard .add tx x y (kW E x) (kW E y); binOp .add tx (kW E x) (kW E y)); pure (.value r):Sem Next).run P W=_
 rw [j,n]
 simp only [lY] at i
 split at i
 ·cases i
 ·rename_i hle; cases i; simp [eqGuard,binOp,Op.stringOp]; simpa using hle
theorem Qx {op:BinOp} {tx tv:TypeId} {x y:Operand} {a b:Bool} (j:P.underlying tx=some .bool) (n:kW E x= .bool a) (p:kW E y= .bool b) (i:op= .neq) :
  nt P E ⟨d,.binOp op tx x y tv,ty,pos,af,g⟩ W (.bool (a != b)) W:=by
 subst i
 show (do let r ←(do eqGuard .neq tx x y (kW E x) (kW E y); binOp .neq tx (kW E x) (kW E y)); pure (.value r):Sem Next).run P W=_
 rw [n,p]
 simp [eqGuard,binOp,Op.equal,Op.maxDepth,run_equalIn_bool' W 9999 tx a b j,bne]
theorem wD {tx tv:TypeId} {x y:Operand} {a b:Array Value} {r:Bool} (n:kW E x= .agg a) (p:kW E y= .agg b) (i:∀W,(eqGuard .eql tx x y (.agg a) (.agg b)).run P W= .ok () W) (j:∀W,(binOp .eql tx (.agg a) (.agg b)).run P W= .ok (.bool r) W):nt P E ⟨d,.binOp .eql tx x y tv,ty,pos,af,g⟩ W (.bool r) W:=by
 show (do let r ←(do eqGuard .eql tx x y (kW E x) (kW E y); binOp .eql tx (kW E x) (kW E y)); pure (.value r):Sem Next).run P W=_
 rw [n,p]; simp [i W,j W]
theorem E1 {tx tv:TypeId} {x y:Operand} {a b:Array Value} {r:Bool} (n:kW E x= .agg a) (p:kW E y= .agg b) (i:∀W,(eqGuard .neq tx x y (.agg a) (.agg b)).run P W= .ok () W) (j:∀W,(binOp .neq tx (.agg a) (.agg b)).run P W= .ok (.bool r) W):nt P E ⟨d,.binOp .neq tx x y tv,ty,pos,af,g⟩ W (.bool r) W:=by
 show (do let r ←(do eqGuard .neq tx x y (kW E x) (kW E y); binOp .neq tx (kW E x) (kW E y)); pure (.value r):Sem Next).run P W=_
 rw [n,p]; simp [i W,j W]
theorem CX {t e:TypeId} (dd:Nat) (d:P.underlying t=some (.pointer e)) (a:Option Addr) (W:World):(Op.equalIn (dd+1) t (.pointer a) (.pointer none)).run P W= .ok a.isNone W:=by
 cases a <;> simp [Op.equalIn,bF d]
theorem wI {tx tv e:TypeId} {x y:Operand} {a:Option Addr} (j:P.underlying tx=some (.pointer e)) (n:kW E x= .pointer a) (p:kW E y= .pointer none) :
  nt P E ⟨d,.binOp .eql tx x y tv,ty,pos,af,g⟩ W (.bool a.isNone) W:=by
 show (do let r ←(do eqGuard .eql tx x y (kW E x) (kW E y); binOp .eql tx (kW E x) (kW E y)); pure (.value r):Sem Next).run P W=_
 rw [n,p]
 have i:=CX 9999 j a W
 simp [eqGuard,binOp,Op.equal,show Op.maxDepth=9999+1 from rfl,i]
theorem EZ {tx tv e:TypeId} {x y:Operand} {a:Option Addr} (j:P.underlying tx=some (.pointer e)) (n:kW E x= .pointer a) (p:kW E y= .pointer none) :
  nt P E ⟨d,.binOp .neq tx x y tv,ty,pos,af,g⟩ W (.bool !a.isNone) W:=by
 show (do let r ←(do eqGuard .neq tx x y (kW E x) (kW E y); binOp .neq tx (kW E x) (kW E y)); pure (.value r):Sem Next).run P W=_
 rw [n,p]
 have i:=CX 9999 j a W
 simp [eqGuard,binOp,Op.equal,show Op.maxDepth=9999+1 from rfl,i]
theorem pL {x:Operand} {t:TypeId} {s:ByteArray} (i:P.underlying t=some .string) (j:kW E x= .string s):nt P E ⟨d,.call ⟨.builtin .len,#[x],#[t]⟩,ty,pos,af,g⟩ W (.int .i64 s.size) W:=by
 show (do let d ←resolve (kW E) ⟨.builtin .len,#[x],#[t]⟩ ty; invoke d.target d.args:Sem Next).run P W=_
 simp [resolve,invoke,builtin,Builtin.len_,bF i,j,goInt]
theorem Es {x:Operand} {t e:TypeId} {A:Option Addr} {l c:Nat} (i:P.underlying t=some (.slice e)) (j:kW E x= .slice A l c):nt P E ⟨d,.call ⟨.builtin .len,#[x],#[t]⟩,ty,pos,af,g⟩ W (.int .i64 l) W:=by
 show (do let d ←resolve (kW E) ⟨.builtin .len,#[x],#[t]⟩ ty; invoke d.target d.args:Sem Next).run P W=_
 simp [resolve,invoke,builtin,Builtin.len_,bF i,j,goInt]
theorem mx {α:Type} {R:rB α} {k:Nat} {m:lF} {x:Operand} {t e:TypeId} {v:Value} {l:List α} (j:P.underlying t=some (.slice e)) (n:kW E x=v) (i:Sl R k m v l):nt P E ⟨d,.call ⟨.builtin .len,#[x],#[t]⟩,ty,pos,af,g⟩ W (.int .i64 l.length) W:=by
 obtain ⟨A,c,rfl,_⟩:=i
 exact Es j n
theorem BQ {t:TypeId} {x j:Operand} {v:IntKind} {s:ByteArray} {i:Int} {c:UInt8} (r:P.underlying t=some .string) (u:kW E x= .string s) (p:kW E j= .int v i) (n:0≤i) (q:s[i.toNat]? =some c) :
  nt P E ⟨d,.index t x j,ty,pos,af,g⟩ W (.int .u8 c.toNat) W:=by
 show (do pure (.value (←Instr.index t (kW E x) (kW E j))):Sem Next).run P W=_
 rw [u,p]
 simp [Instr.index,asIntOf,bF r,n,q]
def mF (P:Program) (t:TypeId) (f off:Nat):Prop:=∀b o w,(Instr.fieldAt t (.pointer (some ⟨b,o,none⟩)) f).run P w= .ok (.pointer (some ⟨b,o+off,none⟩)) w
theorem kJ {t:TypeId} {x:Operand} {f off b o:Nat} (i:mF P t f off) (j:kW E x= .pointer (some ⟨b,o,none⟩)):nt P E ⟨d,.fieldAddr t x f,ty,pos,af,g⟩ W (.pointer (some ⟨b,o+off,none⟩)) W:=by
 show (do pure (.value (←Instr.fieldAt t (kW E x) f)):Sem Next).run P W=_
 rw [j]; simp [i b o W]
theorem pE {t:TypeId} {x:Operand} {f off:Nat} {v:Value} {ys:List Value} (zs:List Value) (q:mF P t f off) (u:kW E x=v) (s:At μ v ys) (w:(ys.drop off).take zs.length=zs) :
  ∃n,At μ n zs∧∀W,nt P E ⟨d,.fieldAddr t x f,ty,pos,af,g⟩ W n W:=by
 obtain ⟨b,o,cs,T,fr,rfl,h1,p⟩:=s
 refine ⟨_,⟨b,o+off,cs,T,fr,rfl,h1,λj y i=>?_⟩,λW=>kJ q u⟩
 have r:j < zs.length:=(bK.1 i).1
 have:=p (off+j) y (by
  rw [←w,dW r,eP] at i
  exact i)
 rw [fA]
 exact this
theorem ql {x:Operand} {a:Addr} (i:kW E x= .pointer (some a)):nt P E ⟨d,.nilCheck x,ty,pos,af,g⟩ W (.pointer (some a)) W:=by
 unfold nt execOp
 simp [i]
theorem MW {α:Type} {R:rB α} {k:Nat} {t e:TypeId} {x q:Operand} {Z:IntKind} {v:Value} {i:Int} {l:List α} {x0:α} (Q:P.underlying t=some (.slice e)) (he:∀w,(sizeOf e).run P w= .ok k w) (U:kW E x=v) (L:kW E q= .int Z i) (O:Sl R k μ v l) (s:0≤i) (r:l[i.toNat]? =some x0) :
  ∃p ys,ys.length=k∧R μ ys x0∧At μ p ys∧∀W,nt P E ⟨d,.indexAddr t x q,ty,pos,af,g⟩ W p W:=by
 obtain ⟨A,c,rfl,h2,h3,u⟩:=O
 have M:i.toNat < l.length:=(bK.1 r).1
 obtain ⟨b,off,cs,T,fr,rfl,z,G⟩:=u (by omega)
 obtain ⟨ys,I,J,n⟩:=G i.toNat x0 r
 refine ⟨.pointer (some ⟨b,off+i.toNat*k,none⟩),ys,I,J,⟨b,off+i.toNat*k,cs,T,fr,rfl,z,λj y Y=>n j y Y⟩,λW=>?_⟩
 show (do pure (.value (←Instr.indexAt t (kW E x) (kW E q))):Sem Next).run P W=_
 rw [U,L]
 have hb:0≤i∧i < (l.length:Int):=⟨s,by omega⟩
 simp [Instr.indexAt,asIntOf,bF Q,he W,hb,dR]
theorem th {α:Type} {enc:α→List Value} {k:Nat} {t e:TypeId} {x j:Operand} {J:IntKind} {v:Value} {i:Int} {l:List α} {x0:α} (G:P.underlying t=some (.slice e)) (he:∀w,(sizeOf e).run P w= .ok k w) (I:kW E x=v) (u:kW E j= .int J i) (A:Sl (Pl enc) k μ v l) (n:0≤i) (z:l[i.toNat]? =some x0) :
  ∃p,At μ p (enc x0)∧∀W,nt P E ⟨d,.indexAddr t x j,ty,pos,af,g⟩ W p W:=by
 obtain ⟨p,ys,h1,q,r,s⟩:=MW (d:=d) (ty:=ty) (pos:=pos) (af:=af) (g:=g) G he I u A n z
 cases q
 exact ⟨p,r,s⟩
theorem JQ (P:Program) {W:World} {b off:Nat} {cs:Array Value} {T:TypeId} {fr:Nat×Nat} (hb:W.heap[b]? =some (.cells cs T fr)) (ys:List Value) (i:∀j y,ys[j]? =some y→cs[off+j]? =some y) :
  (loadCells ⟨b,off,none⟩ ys.length).run P W= .ok ys.toArray W :=
 jl W ⟨b,off,none⟩ ys (λj v d=>by rw [dR,gD W b (off+j) cs T fr hb]; exact i j v d)
theorem DO {W:World} {t:TypeId} {b off:Nat} {cs:Array Value} {T:TypeId} {fr:Nat×Nat} (d:∀w,(isAgg t).run P w= .ok true w) (ys:List Value) (i:∀w,(sizeOf t).run P w= .ok ys.length w) (hb:W.heap[b]? =some (.cells cs T fr)) (n:∀j y,ys[j]? =some y→cs[off+j]? =some y):(Instr.loadAt t (.pointer (some ⟨b,off,none⟩))).run P W= .ok (.agg ys.toArray) W:=by
 simp [Instr.loadAt,Instr.sureAddr,loadVar,d W,i W,JQ P hb ys n]
theorem Hc {W:World} {t:TypeId} {b off:Nat} {cs:Array Value} {T:TypeId} {fr:Nat×Nat} (d:∀w,(isAgg t).run P w= .ok false w) {y:Value} (hb:W.heap[b]? =some (.cells cs T fr)) (j:cs[off]? =some y):(Instr.loadAt t (.pointer (some ⟨b,off,none⟩))).run P W= .ok y W:=by
 have i:W.cell? ⟨b,off,none⟩=some y:=by rw [gD W b off cs T fr hb]; exact j
 simp [Instr.loadAt,Instr.sureAddr,loadVar,d W,load,Sem.run,i]
theorem kF {t:TypeId} {x:Operand} {a v:Value} (j:kW E x=a) (i:(Instr.loadAt t a).run P W= .ok v W):nt P E ⟨d,.load t x,ty,pos,af,g⟩ W v W:=by
 show (do pure (.value (←Instr.loadAt t (kW E x))):Sem Next).run P W=_
 rw [j]; simp [i]
def pB (μ:lF) (A:List (Nat×Obj)) (W:World):Prop:=(∀b o,μ b=some o→W.heap[b]? =some o)∧∀b o,(b,o)∈A→W.heap[b]? =some o
theorem ST.has (h:ST dd F w W μ L):pB μ L W:=⟨h.mem,λb o hb=>(h.box b o hb).1⟩
theorem pB.sub {μ':lF} {A A':List (Nat×Obj)} (h:pB μ A W) (i:lz μ' μ) (d:∀p,p∈A'→p∈A):pB μ' A' W:=⟨λb o hb=>h.1 b o (i b o hb),λb o hb=>h.2 b o (d _ hb)⟩
theorem lx {A:List (Nat×Obj)} (hH:pB μ A W) {t:TypeId} {p:Value} {ys:List Value} (hp:At μ p ys) (i:∀w,(isAgg t).run P w= .ok true w) (j:∀w,(sizeOf t).run P w= .ok ys.length w) :
  (Instr.loadAt t p).run P W= .ok (.agg ys.toArray) W:=by
 obtain ⟨b,off,cs,T,fr,rfl,h1,d⟩:=hp
 exact DO i ys j (hH.1 _ _ h1) d
theorem pO {A:List (Nat×Obj)} (hH:pB μ A W) {t:TypeId} {p y:Value} (hp:At μ p [y]) (i:∀w,(isAgg t).run P w= .ok false w) :
  (Instr.loadAt t p).run P W= .ok y W:=by
 obtain ⟨b,off,cs,T,fr,rfl,h1,d⟩:=hp
 exact Hc i (hH.1 _ _ h1) (d 0 y rfl)
theorem kL {A:List (Nat×Obj)} (hH:pB μ A W) {t:TypeId} {b off:Nat} {cs:Array Value} {T:TypeId} {fr:Nat×Nat} (p:(b,Obj.cells cs T fr)∈A) (ys:List Value) (r:(cs.toList.drop off).take ys.length=ys) (n:∀w,(isAgg t).run P w= .ok true w) (q:∀w,(sizeOf t).run P w= .ok ys.length w):(Instr.loadAt t (.pointer (some ⟨b,off,none⟩))).run P W= .ok (.agg ys.toArray) W :=
 DO n ys q (hH.2 _ _ p) (λj y d=>by
  have i:j < ys.length:=(bK.1 d).1
  rw [←r,dW i,eP] at d
  simpa using d)
theorem kV {A:List (Nat×Obj)} (hH:pB μ A W) {t:TypeId} {b off:Nat} {cs:Array Value} {T:TypeId} {fr:Nat×Nat} (i:(b,Obj.cells cs T fr)∈A) {y:Value} (j:cs[off]? =some y) (d:∀w,(isAgg t).run P w= .ok false w):(Instr.loadAt t (.pointer (some ⟨b,off,none⟩))).run P W= .ok y W :=
 Hc d (hH.2 _ _ i) j
theorem nB {t:TypeId} {j:Array (Nat×Operand)} {n:Array (Nat×Value)} {v:Value} (p:j.map (λ(i,x)=>(i,kW E x))=n) (q:∀W,(Instr.build t n).run P W= .ok v W):nt P E ⟨d,.build t j,ty,pos,af,g⟩ W v W:=by
 show (do pure (.value (←Instr.build t (j.map λ(i,x)=>(i,kW E x)))):Sem Next).run P W=_
 rw [p]; simp [q W]
theorem nk {t:TypeId} {z cs:Array Value} {fs:Array Field} {d:Array (Nat×Value)} {pl:Array (Nat×Nat)} (n:∀w,(zeroValue t).run P w= .ok (.agg z) w) (j:P.underlying t=some (.struct fs)) (hp:∀w,(fs.mapM λf=>do pure (f.offset,←sizeOf f.type):Sem (Array (Nat×Nat))).run P w= .ok pl w) (i:Instr.fill (pl[·]?) z d.toList=some cs) (W:World):(Instr.build t d).run P W= .ok (.agg cs) W:=by
 simp only [Instr.build,cL,n W,bR,bF j,Value.cells]
 rw [hp W]
 simp only [bR,i,dS]
end
theorem Gf {α:Type}:∀(a:Ask α) (w:World),w.drawn≤(w.ask a).2.drawn
 | .done a,w=>by simp [World.ask]
 | .ask d range k,w=>by
  unfold World.ask
  dsimp only
  split
  ·exact Gf (k 0) w
  ·refine eC (ki w.drawn) ?_
   exact Gf _ { w with drawn:=w.drawn+1 }
theorem OO (w:World) (c:Sys):w.drawn≤(w.sys c).2.drawn:=by
 have h:=Gf (Kernel.perform c w.os) w
 unfold World.sys
 generalize w.ask (Kernel.perform c w.os)=r at *
 obtain ⟨⟨r1,d⟩,i⟩:=r
 cases r1 <;> simp at h ⊢ <;> exact h
theorem Im {p:Program} {w d:World} {a:Addr} {u:TypeId} {k:Addr} {v:Value} {b:Bool} {l:List Addr} (h:w.viewStore p a u k v b= .ok (d,l)):d.drawn=w.drawn:=by
 unfold World.viewStore at h
 simp only [bind,Except.bind,pure,Except.pure] at h
 split at h
 ·cases h
 ·split at h
  ·cases h
  ·split at h
   ·split at h
    ·cases h
    ·split at h
     ·cases h
     ·cases h; rfl
   ·cases h
theorem Jd {p:Program} {w d:World} {a:Addr} {v:Value} {b:Bool} {l:List Addr} (h:w.farStore p a v b= .ok (d,l)):d.drawn=w.drawn:=by
 unfold World.farStore at h
 split at h
 ·split at h
  ·rename_i h1; cases h; exact Im h1
  ·cases h
 ·cases h
theorem qD {α:Type} {p:Program}:∀(s:Sem α) (w d:World) (a:α),s.run p w= .ok a d→w.drawn≤d.drawn
 | .pure a,w,d,b,h=>by simp only [Sem.run] at h; cases h; exact aQ _
 | .load m a k,w,d,b,h=>by
  simp only [Sem.run] at h
  split at h
  ·exact qD _ _ _ _ h
  ·split at h
   ·exact qD _ _ _ _ h
   ·cases h
 | .store m a v k,w,d,b,h=>by
  have key:∀(r:Result α) j,r= .ok b d→(r=(match w.cell? a with
    | some _=>if w.frozen? a then .halt j w else k.run p (w.setCell a v)
    | none=>match w.farStore p a v (m==.atomic) with
     | .ok (w,_)=>k.run p w
     | .error h=>.halt h w))→w.drawn≤d.drawn:=by
   intro r j u h
   rw [u] at h
   split at h
   ·split at h
    ·cases h
    ·have:=qD k _ _ _ h.symm
     simpa [World.setCell] using this
   ·split at h
    ·rename_i h1
     have i:=qD k _ _ _ h.symm
     rw [Jd h1] at i
     exact i
    ·cases h
  cases v with
  | agg cs=>simp only [Sem.run] at h; cases h
  | tuple cs=>simp only [Sem.run] at h; cases h
  | _=>exact key _ _ h (by simp only [Sem.run]; rfl)
 | .new o k,w,d,b,h=>by simp only [Sem.run] at h; have:=qD (k _) _ _ _ h; exact this
 | .shape r k,w,d,b,h=>by simp only [Sem.run] at h; exact qD _ _ _ _ h
 | .freeze a n k,w,d,b,h=>by
  simp only [Sem.run] at h
  have:=qD k _ _ _ h
  unfold World.freeze at this
  split at this <;> exact this
 | .frozen a k,w,d,b,h=>by simp only [Sem.run] at h; exact qD _ _ _ _ h
 | .getObj r k,w,d,b,h=>by
  simp only [Sem.run] at h
  split at h <;> try (cases h; done)
  exact qD _ _ _ _ h
 | .setObj r o k,w,d,b,h=>by
  simp only [Sem.run] at h
  split at h <;> try (cases h; done)
  have:=qD k _ _ _ h
  exact this
 | .choose q k,w,d,b,h=>by
  simp only [Sem.run] at h
  split at h
  ·exact qD _ _ _ _ h
  ·exact eC (ki _) (qD _ _ _ _ h)
 | .sys c k,w,d,b,h=>by
  simp only [Sem.run] at h
  exact eC (OO w c) (qD _ _ _ _ h)
 | .program k,w,d,b,h=>by simp only [Sem.run] at h; exact qD _ _ _ _ h
 | .mark m k,w,d,b,h=>by simp only [Sem.run] at h; exact qD k _ _ _ h
 | .halt x,w,d,b,h=>by simp only [Sem.run] at h; cases h
end Go.Proofs.YtjjjihkifgdhgaaGreatDoor
namespace Go.Proofs.YtjjjihkifgdhgaaGreatDoor
open Go.RowKit
variable [M:Md]
variable {dd:Bool}
section
variable {P:Program} {n:Nat} {Q:rJ} {E:Nat→Value} {W:World} {ops:Array Oper} {rest:List Oper}
 {d:Option Nat} {ty:TypeId} {pos:String} {af:Array Edge} {g:Option (Nat×Bool)}
 {F:Nat→Prop} {w:World} {μ:lF} {L:List (Nat×Obj)}
def pf (P:Program) (E:Nat→Value) (o:Oper) (W:World) (K:Value→World→Prop):Prop :=
 (∃v W',(execOp (kW E) o).run P W= .ok (.value v) W'∧K v W')∨(∃W',(execOp (kW E) o).run P W= .ok .skip W'∧K undef W')∨
 (∃f args,(execOp (kW E) o).run P W= .ok (.enter f args) W∧Calls P f args W λe d=>∃v,e= .returned v∧K v d)
theorem pf.mono {o:Oper} {K K':Value→World→Prop} (h:pf P E o W K) (hk:∀v W',K v W'→K' v W'):pf P E o W K':=by
 rcases h with ⟨v,W',h1,d⟩ | ⟨W',h1,d⟩ | ⟨f,args,h1,d⟩
 ·exact .inl ⟨v,W',h1,hk _ _ d⟩
 ·exact .inr (.inl ⟨W',h1,hk _ _ d⟩)
 ·exact .inr (.inr ⟨f,args,h1,dI d (λ_ _ ⟨v,i,j⟩=>⟨v,i,hk _ _ j⟩)⟩)
theorem Se {o:Oper} {dd:Nat} (hw:uz n ops E o) (i:o.dst=some dd) (j:dd < n) (h:pf P E o W λv W'=>LW P n ops Q rest (qa E dd v) W'):LW P n ops Q (o::rest) E W:=by
 rcases h with ⟨v,W',h1,d⟩ | ⟨W',h1,d⟩ | ⟨f,args,h1,d⟩
 ·exact OU hw i j h1 d
 ·intro a ha
  unfold wpListIn
  rw [cE (hw.of ha)]
  unfold Oper.wpIn
  refine ⟨λ_ _=>trivial,?_⟩
  rw [ha.eval,AI h1 (by simp),Oper.uponIn_skip,i]
  exact d _ (ha.put j _)
 ·exact Qp hw i j h1 d
theorem TE {o:Oper} (hw:uz n ops E o) (i:o.dst=none) (h:pf P E o W λ_ W'=>LW P n ops Q rest E W'):LW P n ops Q (o::rest) E W:=by
 rcases h with ⟨v,W',h1,d⟩ | ⟨W',h1,d⟩ | ⟨f,args,h1,d⟩
 ·intro a ha
  unfold wpListIn
  rw [cE (hw.of ha)]
  unfold Oper.wpIn
  refine ⟨λ_ _=>trivial,?_⟩
  rw [ha.eval,AI h1 (by simp),Oper.uponIn_value,i]
  exact d _ (ha.AR _)
 ·exact PN hw i h1 d
 ·intro a ha
  unfold wpListIn
  rw [cE (hw.of ha)]
  unfold Oper.wpIn
  refine ⟨λ_ _=>trivial,?_⟩
  rw [ha.eval,AI h1 (by simp),Oper.uponIn_enter]
  refine I6 (dI d ?_)
  rintro e p ⟨v,rfl,j⟩
  simp only [i]
  exact j _ (ha.AR _)
theorem ly {K:Value→World→Prop} {t:TypeId} {x:Operand} {v:Value} (i:ST dd F w W μ L) (j:kW E x=v) (h:∀W' b,ST dd F w W' μ ((b,.cells v.cells t (0,0))::L)→K (.pointer (some ⟨b,0,none⟩)) W'):pf P E ⟨d,.box t x,ty,pos,af,g⟩ W K :=
 .inl ⟨.pointer (some ⟨W.heap.size,0,none⟩),W.alloc (.cells v.cells t (0,0)),by
   show (do pure (.value (←Instr.box t (kW E x))):Sem Next).run P W=_
   rw [j]
   simp [Instr.box,newVar,newRow,newObj,Sem.run],h _ _ (i.alloc _)⟩
theorem lT {K:Value→World→Prop} {t:TypeId} {z:Value} (i:ST dd F w W μ L) (j:∀w,(zeroValue t).run P w= .ok z w) (h:∀W' b,ST dd F w W' μ ((b,.cells z.cells t (0,0))::L)→K (.pointer (some ⟨b,0,none⟩)) W'):pf P E ⟨d,.alloc t,ty,pos,af,g⟩ W K :=
 .inl ⟨.pointer (some ⟨W.heap.size,0,none⟩),W.alloc (.cells z.cells t (0,0)),by
   show (do pure (.value (←Instr.alloc t true (.tuple #[]))):Sem Next).run P W=_
   simp [Instr.alloc,j W,newVar,newRow,newObj,Sem.run],h _ _ (i.alloc _)⟩
theorem IM {t e:TypeId} {m k:Nat} {z:Value} {n:Array (Nat×Value)} {cs:Array Value} (q:P.underlying t=some (.slice e)) (p:∀w,(sizeOf e).run P w= .ok k w) (r:∀w,(zeroValue e).run P w= .ok z w) (hm:m*k≤16777216) (d:Instr.fill (λi=>some (i*k,k)) ((Array.range (m*k)).map (λi=>(if m*k=0 then (#[]:Array Value) else z.cells)[i % (if m*k=0 then (#[]:Array Value) else z.cells).size]!)) n.toList=some cs) (W:World) :
  (Instr.buildSlice t m n).run P W= .ok (.slice (some ⟨W.heap.size,0,none⟩) m m) (W.alloc (.cells cs e (0,0))):=by
 simp only [Instr.buildSlice,cL,bF q,bR,p W]
 rw [cI (by omega)]
 by_cases j:m*k=0
 ·simp only [j,aS] at d ⊢
  simp only [cL,dS,bR,d]
  simp [newRow,newObj,Sem.run]
 ·simp only [j,aN] at d ⊢
  simp only [cL,r W,dS,bR,d]
  simp [newRow,newObj,Sem.run]
theorem lJ {K:Value→World→Prop} {t e:TypeId} {m:Nat} {n:Array (Nat×Operand)} {p:Array (Nat×Value)} {cs:Array Value} (j:ST dd F w W μ L) (q:n.map (λ(i,x)=>(i,kW E x))=p) (r:∀W,(Instr.buildSlice t m p).run P W= .ok (.slice (some ⟨W.heap.size,0,none⟩) m m) (W.alloc (.cells cs e (0,0)))) (h:∀W' b,ST dd F w W' μ ((b,.cells cs e (0,0))::L)→K (.slice (some ⟨b,0,none⟩) m m) W'):pf P E ⟨d,.buildSlice t m n,ty,pos,af,g⟩ W K :=
 .inl ⟨.slice (some ⟨W.heap.size,0,none⟩) m m,W.alloc (.cells cs e (0,0)),by
   show (do pure (.value (←Instr.buildSlice t m (n.map λ(i,x)=>(i,kW E x)))):Sem Next).run P W=_
   rw [q]
   simp [r W],h _ _ (j.alloc _)⟩
theorem ST.store {A B:List (Nat×Obj)} {b:Nat} {cs:Array Value} {t:TypeId} (i:ST dd F w W μ (A++(b,.cells cs t (0,0))::B)) (d:Array Value) :
  ST dd F w (W.setRow b d) μ (A++(b,.cells d t (0,0))::B):=by
 have hb:=(i.box b _ (by simp:(b,Obj.cells cs t (0,0))∈A++(b,.cells cs t (0,0))::B)).1
 refine i.put ⟨rfl,rfl,rfl,aQ _,by simp [World.setRow]⟩ (λk hk=>?_) (setRow_heap W b cs d t (0,0) hb)
 simp only [World.setRow,gx]
 rw [cI (λe=>hk e.symm)]
theorem DU (P:Program) {W:World} {t:TypeId} {b off:Nat} {cs:Array Value} {T:TypeId} (v:Value) (d:∀w,(sizeOf t).run P w= .ok v.cells.size w) (h1:∀u∈v.cells.toList,u.oneCell'=true) (hb:W.heap[b]? =some (.cells cs T (0,0))) (i:off+v.cells.size≤cs.size):(Instr.storeAt t (.pointer (some ⟨b,off,none⟩)) v).run P W= .ok () (W.setRow b (cs.toList.take off++v.cells.toList++cs.toList.drop (off+v.cells.size)).toArray):=by
 have:=jz (P:=P) b off T v.cells.toList 0 cs W hb (by simpa using i) h1
 simp [Instr.storeAt,Instr.sureAddr,storeVar,d W]
 simpa using this
theorem Rz {K:Value→World→Prop} (A:List (Nat×Obj)) {B:List (Nat×Obj)} {t:TypeId} {x y:Operand} (v:Value) {b off:Nat} {cs:Array Value} {T:TypeId} (i:Array Value) (j:ST dd F w W μ (A++(b,.cells cs T (0,0))::B)) (r:kW E x= .pointer (some ⟨b,off,none⟩)) (s:kW E y=v) (n:∀w,(sizeOf t).run P w= .ok v.cells.size w) (h1:∀u∈v.cells.toList,u.oneCell'=true) (q:off+v.cells.size≤cs.size) (p:(cs.toList.take off++v.cells.toList++cs.toList.drop (off+v.cells.size)).toArray=i) (h:∀W',ST dd F w W' μ (A++(b,.cells i T (0,0))::B)→K undef W'):pf P E ⟨d,.store t x y,ty,pos,af,g⟩ W K :=
 .inr (.inl ⟨W.setRow b i,by
   show (do Instr.storeAt t (kW E x) (kW E y); pure .skip:Sem Next).run P W=_
   have hb:=(j.box b _ (by simp:(b,Obj.cells cs T (0,0))∈A++(b,.cells cs T (0,0))::B)).1
   rw [r,s]
   simp only [cL,DU P v n h1 hb q,p,bR,dS],h _ (j.store i)⟩)
def la (dd:Bool) (P:Program) (f:FuncId) (args:List Value) (w:World) (v:Value):Prop:=Calls P f args.toArray w λe d=>e= .returned v∧Ex dd w d
theorem OR {f:FuncId} {fv:Operand} {ax:Array Operand} {ats:Array TypeId} {caps args:Array Value} (i:kW E fv= .func (.func f) #[] caps) (he:∀args w,(callFunc f args).run P w= .ok (.enter f args) w) (ha:ax.map (kW E)++caps=args) :
  (execOp (kW E) ⟨d,.call ⟨.value fv,ax,ats⟩,ty,pos,af,g⟩).run P W= .ok (.enter f args) W:=by
 show (do let d ←resolve (kW E) ⟨.value fv,ax,ats⟩ ty; invoke d.target d.args:Sem Next).run P W=_
 rw [←ha]
 simp only [resolve,i,Deferred.ofValue,cL,dS,bR,invoke]
 simp [he]
theorem D1 {K:Value→World→Prop} {f:FuncId} {fv:Operand} {ax:Array Operand} {ats:Array TypeId} {caps args:Array Value} (i:kW E fv= .func (.func f) #[] caps) (he:∀args w,(callFunc f args).run P w= .ok (.enter f args) w) (ha:ax.map (kW E)++caps=args) (h:Calls P f args W λe j=>∃v,e= .returned v∧K v j):pf P E ⟨d,.call ⟨.value fv,ax,ats⟩,ty,pos,af,g⟩ W K :=
 .inr (.inr ⟨f,args,OR i he ha,h⟩)
theorem Gy {K:Value→World→Prop} {f:FuncId} {fv:Operand} {ax:Array Operand} {ats:Array TypeId} {args:List Value} {v:Value} (i:ST dd F w W μ L) (p:kW E fv= .func (.func f) #[] #[]) (he:∀args w,(callFunc f args).run P w= .ok (.enter f args) w) (ha:(ax.map (kW E)++(#[]:Array Value))=args.toArray) (n:la dd P f args W v) (h:∀W',ST dd F w W' μ L→K v W'):pf P E ⟨d,.call ⟨.value fv,ax,ats⟩,ty,pos,af,g⟩ W K :=
 D1 p he ha (dI n (λ_ _ ⟨h1,j⟩=>⟨v,h1,h _ (i.Ij j)⟩))
def lm {α:Type} (e:TypeId) (enc:α→List Value) (k:Nat) (v:Value) (l:List α) (R:List (Nat×Obj)):Prop :=
 (v= .slice none 0 0∧l=[]∧R=[])∨
 ∃g cap d,v= .slice (some ⟨g,0,none⟩) l.length cap∧R=[(g,.cells d e (0,0))]∧l.length≤cap∧cap≤maxLen∧d.size=cap*k∧d.toList.take (l.length*k)=(l.map enc).flatten
theorem qX {α:Type} {enc:α→List Value} {k:Nat} (hk:∀x,(enc x).length=k):∀l:List α,(l.map enc).flatten.length=l.length*k
 | []=>by simp
 | x::l=>by simp [qX hk l,hk x,dF,Nat.add_comm]
theorem xS {α:Type} {enc:α→List Value} {k:Nat} (hk:∀x,(enc x).length=k):∀(l:List α) (i:Nat) (x:α),l[i]? =some x→∀j y,(enc x)[j]? =some y→(l.map enc).flatten[i*k+j]? =some y
 | [],i,x,h=>by cases h
 | z::l,0,x,h=>by
  simp at h; subst h
  intro j y d
  have n:j < (enc z).length:=(bK.1 d).1
  simp [ig,n]
  rw [dE n] at d
  simpa using d
 | z::l,i+1,x,h=>by
  intro j y d
  have:=xS hk l i x (by simpa using h) j y d
  simp only [bA,aU]
  rw [fJ (by rw [hk z]; have:=Nat.le_mul_of_pos_left k (Nat.succ_pos i); simp [dF] at *; omega),hk z]
  rw [show (i+1)*k+j-k=i*k+j by rw [dF]; omega]
  exact this
theorem HO {α:Type} {enc:α→List Value} {k:Nat} (hk:∀x,(enc x).length=k):∀(l:List α) (q:Nat) (y:Value),(l.map enc).flatten[q]? =some y→∃i x j,l[i]? =some x∧(enc x)[j]? =some y∧q=i*k+j
 | [],q,y,h=>by simp at h
 | z::l,q,y,h=>by
  simp only [bA,aU] at h
  by_cases n:q < k
  ·rw [gB (by rw [hk]; exact n)] at h
   exact ⟨0,z,q,rfl,h,by simp⟩
  ·rw [fJ (by rw [hk]; omega),hk] at h
   obtain ⟨i,x,j,h1,d,p⟩:=HO hk l (q-k) y h
   exact ⟨i+1,x,j,by simpa using h1,d,by rw [dF]; omega⟩
theorem lm.nil {α:Type} (e:TypeId) (enc:α→List Value) (k:Nat):lm e enc k (.slice none 0 0) [] []:=.inl ⟨rfl,rfl,rfl⟩
theorem lm.sl {α:Type} {e:TypeId} {enc:α→List Value} {k:Nat} {v:Value} {l:List α} {R:List (Nat×Obj)} {m:lF} (h:lm e enc k v l R) (hk:∀x,(enc x).length=k) (hm:∀b o,(b,o)∈R→m b=some o):Sl (Pl enc) k m v l:=by
 rcases h with ⟨rfl,rfl,rfl⟩ | ⟨g,cap,d,rfl,rfl,h1,p,u,q⟩
 ·exact Sl.nil _ _ _
 ·refine ⟨_,cap,rfl,h1,p,λ_=>⟨g,0,d,e,(0,0),rfl,hm _ _ (by simp),λi x r=>⟨enc x,hk x,rfl,λj y s=>?_⟩⟩⟩
  have:=xS hk l i x r j y s
  rw [←q] at this
  have n:i*k+j < l.length*k:=by
   have:=(bK.1 this).1
   simp at this; omega
  rw [dW n] at this
  simpa using this
theorem lm.len {α:Type} {e:TypeId} {enc:α→List Value} {k:Nat} {v:Value} {l:List α} {R:List (Nat×Obj)} (h:lm e enc k v l R):l.length≤9223372036854775807:=by
 rcases h with ⟨rfl,rfl,rfl⟩ | ⟨g,cap,d,rfl,rfl,h1,i,j,n⟩
 ·simp
 ·unfold maxLen at i; omega
theorem lm.fr {α:Type} {e:TypeId} {enc:α→List Value} {k:Nat} {v:Value} {l:List α} {R X Y:List (Nat×Obj)} (h:lm e enc k v l R) (d:ST dd lD w W μ (X++(R++Y))):Fr w.heap.size v:=by
 rcases h with ⟨rfl,rfl,rfl⟩ | ⟨g,cap,i,rfl,rfl,h1,j,n,p⟩
 ·exact Fr.nil _
 ·intro b hb
  simp [Value.ownBlock] at hb
  subst hb
  rcases (d.box g _ (by simp; exact .inr (.inl rfl))).2.2 with h | h
  ·exact h
  ·exact h.elim
theorem lm.lit {α:Type} {e:TypeId} {enc:α→List Value} {k b m:Nat} {l:List α} {cs:Array Value} (hm:l.length=m) (i:m≤maxLen) (j:cs.toList=(l.map enc).flatten) (d:cs.size=m*k):lm e enc k (.slice (some ⟨b,0,none⟩) m m) l [(b,.cells cs e (0,0))]:=by
 subst hm
 refine .inr ⟨b,_,cs,rfl,rfl,aQ _,i,d,?_⟩
 rw [←j,←d]
 exact eE (by rw [dP]; exact aQ _)
def oB {α:Type} (d:Nat) (l m:List α):Option (List α):=if (l.length+m.length)*d≤140737488355328∧l.length+m.length≤maxLen then some (l++m) else none
theorem KA {K:Value→World→Prop} {α:Type} {e t:TypeId} {enc:α→List Value} {k aa:Nat} {z v vs:Value} {l m r:List α} {R:List (Nat×Obj)} (X:List (Nat×Obj)) {Y:List (Nat×Obj)} {x y:Operand} {i:TypeInfo} (n:ST dd F w W μ (X++(R++Y))) (hk:∀x,(enc x).length=k) (b1:0 < k) (h1:∀x,∀u∈enc x,u.oneCell'=true) (ht:P.underlying t=some (.slice e)) (hi:P.info? e=some i) (hz:i.zero=some z) (b5:z.cells.size=k) (b2:i.size=k) (aE:i.bytes=aa) (hx:kW E x=v) (hy:kW E y=vs) (hR:lm e enc k v l R) (hs:Sl (Pl enc) k (hp W) vs m) (hb:oB aa l m=some r) (h:∀W' v' R',ST dd F w W' μ (X++(R'++Y))→lm e enc k v' r R'→K v' W'):pf P E ⟨d,.call ⟨.builtin .append,#[x,y],#[t,t]⟩,ty,pos,af,g⟩ W K:=by
 unfold oB at hb
 split at hb
 case isFalse=>cases hb
 rename_i ai
 cases hb
 have a8:∀(V:Value) (W':World),(Builtin.append_ #[t,t] ty #[v,vs]).run P W= .ok V W'→(execOp (kW E) ⟨d,.call ⟨.builtin .append,#[x,y],#[t,t]⟩,ty,pos,af,g⟩).run P W= .ok (.value V) W':=by
  intro V W' hV
  show (do let d ←resolve (kW E) ⟨.builtin .append,#[x,y],#[t,t]⟩ ty; invoke d.target d.args:Sem Next).run P W=_
  simp [resolve,invoke,builtin,hx,hy,hV]
 obtain ⟨A,c,rfl,b9,ba,b0⟩:=hs
 have a7:W.ownsRow 0 e k v l.length (l.map enc).flatten:=by
  refine ⟨qX hk l,?_⟩
  rcases hR with ⟨rfl,rfl,rfl⟩ | ⟨g,cap,I,rfl,rfl,h1,h2,h3,h4⟩
  ·exact .inl ⟨rfl,rfl⟩
  ·exact .inr ⟨g,cap,I,rfl,eB _,(n.box g _ (by simp)).1,h1,h2,h3,h4⟩
 have ar:m.length=0∨∃ad,A=some ad∧∀j u,(m.map enc).flatten[j]? =some u→W.cell? (ad.add j)=some u:=by
  rcases eQ m.length with M | M
  ·exact .inl M
  ·obtain ⟨b,off,cs,T,fr,rfl,h6,h7⟩:=b0 M
   refine .inr ⟨⟨b,off,none⟩,rfl,λj u hu=>?_⟩
   obtain ⟨i,x,q,h8,h9,rfl⟩:=HO hk m j u hu
   obtain ⟨ys,_,av,aw⟩:=h7 i x h8
   cases av
   rw [dR,gD W b (off+(i*k+q)) cs T fr h6,←fA]
   exact aw q u h9
 have aq:∀u∈(m.map enc).flatten,u.oneCell'=true:=by
  intro u hu
  obtain ⟨ys,b4,b3⟩:=jL.1 hu
  obtain ⟨x,_,rfl⟩:=bE.1 b4
  exact h1 x u b3
 by_cases an:m.length=0
 ·have hm:m=[]:=aI an
  subst hm
  have hr:(Builtin.append_ #[t,t] ty #[v,.slice A 0 c]).run P W= .ok v W:=by
   rcases a7.2 with ⟨rfl,M⟩ | ⟨g,cap,I,rfl,_,hg,ao,_,bc,_⟩
   ·cases A with
    | none=>simp [Builtin.append_,bF ht,sizeOf,typeInfo,hi,Builtin.lenOf,Builtin.firstCells]
    | some ad=>simp [Builtin.append_,bF ht,sizeOf,typeInfo,hi,Builtin.lenOf,Builtin.firstCells,loadCells,loadCellsFrom]
   ·cases A with
    | none=>simp [Builtin.append_,bF ht,sizeOf,typeInfo,hi,Builtin.lenOf,Builtin.firstCells,ao,storeCells]
    | some ad=>simp [Builtin.append_,bF ht,sizeOf,typeInfo,hi,Builtin.lenOf,Builtin.firstCells,loadCells,loadCellsFrom,ao,storeCells]
  exact .inl ⟨v,W,a8 _ _ (by simpa using hr),by simpa using h W v R n (by simpa using hR)⟩
 rcases ar with M | ⟨ad,rfl,Z⟩
 ·exact absurd M an
 obtain ⟨v',W',hr,ag,p,b7,L⟩:=run_append_own_at (P:=P) W 0 t ty e i z k aa ht hi hz b2 aE b5 b1 v l.length (l.map enc).flatten a7 ad m.length c (m.map enc).flatten (qX hk m) Z aq ai.2 ai.1 (eB _)
 have ab:=qD _ _ _ _ hr
 refine .inl ⟨v',W',a8 _ _ hr,?_⟩
 have hlen:(l++m).length=l.length+m.length:=by simp
 rcases ag.2 with ⟨_,M⟩ | ⟨Q,a1,a6,rfl,_,ae,b6,aj,ak,au⟩
 ·omega
 have ah:lm e enc k (.slice (some ⟨Q,0,none⟩) (l.length+m.length) a1) (l++m) [(Q,.cells a6 e (0,0))] :=
  .inr ⟨Q,a1,a6,by rw [hlen],rfl,by omega,aj,ak,by rw [hlen,au]; simp⟩
 refine h W' _ _ ?_ ah
 have ap:=n.nd
 rcases hR with ⟨rfl,rfl,rfl⟩ | ⟨g,cap,I,rfl,rfl,q1,q2,q3,q4⟩
 ·-- nil: a new block
  have U:W.heap.size≤Q:=by
   rcases L with h | h <;> simp [Value.ownBlock] at h
   omega
  have hex:Ex dd W W':=⟨p.os,p.tape,p.output,uU.of ab,p.size,λb hb=>p.block b hb (by simp [Value.ownBlock])⟩
  have h1:=n.Ij hex
  refine ⟨h1.os,h1.tape,h1.output,h1.drawn,h1.size,h1.rA,h1.mem,λb o hb=>?_,?_⟩
  ·simp only [aV,bH] at hb
   rcases hb with hb | hb | hb
   ·exact h1.box b o (by simp [hb])
   ·cases hb
    refine ⟨ae,?_,.inl (eC n.size U)⟩
    cases hm:μ Q with
    | none=>rfl
    | some x=>have:=n.Gt hm; omega
   ·exact h1.box b o (by simp [hb])
  ·simp only [bM,cP,bA,eH] at ap ⊢
   refine (jf gp).2 (eT.2 ⟨λhm=>?_,ap⟩)
   rw [←cP] at hm
   obtain ⟨⟨b,o⟩,hb,J⟩:=bE.1 hm
   have az:(b,o)∈X++([]++Y):=by simpa using hb
   have:=n.HX az
   simp at J
   omega
 ·by_cases al:Q=g
  ·subst al
   have M:ST dd F w W μ (X++(Q,Obj.cells I e (0,0))::Y):=by simpa using n
   have hold:∀b,b < W.heap.size→b≠Q→W'.heap[b]? =W.heap[b]?:=λb hb G=>p.block b hb (by simp [Value.ownBlock]; exact G)
   have s:=M.nd
   simp only [cP,bA] at s
   have G:∀b o,(b,o)∈X++Y→b≠Q:=λb o hb J=>by
    subst J
    rcases aV.1 hb with hb | hb
    ·exact (cW.1 s).2.2 b (bE.2 ⟨_,hb,rfl⟩) b (by simp) rfl
    ·exact (eT.1 (cW.1 s).2.1).1 (bE.2 ⟨_,hb,rfl⟩)
   have O:=M.box Q (Obj.cells I e (0,0)) (by simp)
   refine ⟨p.os.trans n.os,p.tape.trans n.tape,p.output.trans n.output,uU.trans n.drawn (uU.of ab),eC n.size p.size,λb hb hF=>?_,λb o hb=>?_,λb o hb=>?_,by simpa using s⟩
   ·rw [hold b (fE hb n.size) (λJ=>by subst J; rcases O.2.2 with h | h; omega; exact hF h)]
    exact n.rA b hb hF
   ·rw [hold b (n.Gt hb) (λJ=>by subst J; rw [O.2.1] at hb; cases hb)]
    exact n.mem b o hb
   ·simp only [aV,bH] at hb
    rcases hb with hb | hb | hb
    ·obtain ⟨r1,r2⟩:=n.box b o (by simp [hb])
     exact ⟨by rw [hold b (pH r1) (G b o (by simp [hb]))]; exact r1,r2⟩
    ·cases hb; exact ⟨ae,O.2⟩
    ·obtain ⟨r1,r2⟩:=n.box b o (by simp [hb])
     exact ⟨by rw [hold b (pH r1) (G b o (by simp [hb]))]; exact r1,r2⟩
  ·have U:W.heap.size≤Q:=by
    rcases L with h | h <;> simp [Value.ownBlock] at h
    ·exact absurd h al
    ·omega
   have M:ST dd F w W μ (X++(g,Obj.cells I e (0,0))::Y):=by simpa using n
   have O:=M.box g (Obj.cells I e (0,0)) (by simp)
   have s:=M.nd
   simp only [cP,bA] at s
   have G:∀b o,(b,o)∈X++Y→b≠g:=λb o hb J=>by
    subst J
    rcases aV.1 hb with hb | hb
    ·exact (cW.1 s).2.2 b (bE.2 ⟨_,hb,rfl⟩) b (by simp) rfl
    ·exact (eT.1 (cW.1 s).2.1).1 (bE.2 ⟨_,hb,rfl⟩)
   have hold:∀b,b < W.heap.size→b≠g→W'.heap[b]? =W.heap[b]?:=λb hb G=>p.block b hb (by simp [Value.ownBlock]; exact G)
   refine ⟨p.os.trans n.os,p.tape.trans n.tape,p.output.trans n.output,uU.trans n.drawn (uU.of ab),eC n.size p.size,λb hb hF=>?_,λb o hb=>?_,λb o hb=>?_,?_⟩
   ·rw [hold b (fE hb n.size) (λJ=>by subst J; rcases O.2.2 with h | h; omega; exact hF h)]
    exact n.rA b hb hF
   ·rw [hold b (n.Gt hb) (λJ=>by subst J; rw [O.2.1] at hb; cases hb)]
    exact n.mem b o hb
   ·simp only [aV,bH] at hb
    rcases hb with hb | hb | hb
    ·obtain ⟨r1,r2⟩:=n.box b o (by simp [hb])
     exact ⟨by rw [hold b (pH r1) (G b o (by simp [hb]))]; exact r1,r2⟩
    ·cases hb
     refine ⟨ae,?_,.inl (eC n.size U)⟩
     cases hm:μ Q with
     | none=>rfl
     | some x=>have:=n.Gt hm; omega
    ·obtain ⟨r1,r2⟩:=n.box b o (by simp [hb])
     exact ⟨by rw [hold b (pH r1) (G b o (by simp [hb]))]; exact r1,r2⟩
   ·have ay:(X.map (·.1)++Y.map (·.1)).Nodup:=(eT.1 ((jf gp).1 s)).2
    simp only [cP,bA,eH]
    refine (jf gp).2 (eT.2 ⟨λhm=>?_,ay⟩)
    rw [←cP] at hm
    obtain ⟨⟨b,o⟩,hb,J⟩:=bE.1 hm
    have:=n.HX (b:=b) (o:=o) (by rcases aV.1 hb with h | h <;> simp [h])
    simp at J
    omega
end
end Go.Proofs.YtjjjihkifgdhgaaGreatDoor
namespace Go.Proofs.YtjjjihkifgdhgaaGreatDoor
open Go.RowKit
variable [M:Md]
def CS (l:List Value):Nat→Value:=λt=>l.getD t undef
def yv (P:Program) (fn:Func) (R:Ending→World→Prop):rJ
 | .normal,E,W | .ret,E,W=>∃v,(∀tmps:Array Value,(∀t,tmps.getD t undef=E t)→(results fn tmps).run P W= .ok v W)∧R (.returned v) W
 | _,_,_=>False
theorem yJ {P:Program} {f:FuncId} {fn:Func} {c:Code} {args:List Value} {w:World} {R:Ending→World→Prop} {n:Nat} (s:P.funcs[f]? =some fn) (hb:fn.body=some c) (u:fn.ntmps=n) (ha:args.length≤n) (h:@CW B4 P n c (yv P fn R) (CS args) w):Calls P f args.toArray w R:=by
 refine calls_of_wp s hb ?_
 have p:@Ag B4 n { tmps:=args.toArray++Array.replicate (fn.ntmps-args.toArray.size) undef,defers:=[] } (CS args):=by
  refine ⟨by simp; omega,rfl,λt=>?_⟩
  simp only [CS,fX,List.getD_eq_getElem?_getD,Array.getElem?_append,Array.getElem?_replicate,dZ,iW]
  by_cases r:t < args.length
  ·rw [cE r]
  ·rw [cI r,hU (by omega)]
   split <;> simp
 refine wp_mono ((wpIn_wide (n:=0)).1 (h _ p)) (λe a x i=>?_)
 cases e with
 | normal=>
  obtain ⟨E,d,v,q,j⟩:=i
  exact ⟨d.2.1,v,q _ d.2.2,j⟩
 | ret=>
  obtain ⟨E,d,v,q,j⟩:=i
  exact ⟨d.2.1,v,q _ d.2.2,j⟩
 | exit id=>obtain ⟨E,d,h⟩:=i; exact h.elim
 | goto l=>obtain ⟨E,d,h⟩:=i; exact h.elim
 | panic c=>exact i.2.elim
 | outgrown=>exact i.elim
section
variable {P:Program} {fn:Func} {R:Ending→World→Prop} {E:Nat→Value} {W:World}
theorem nq {r:Tmp} {v:Value} (d:fn.results=#[.tmp r]) (j:E r=v) (h:R (.returned v) W):yv P fn R .ret E W :=
 ⟨v,λtmps i=>by rw [results_tmp d,i,j],h⟩
theorem FI {r s:Tmp} {v u:Value} (i:fn.results=#[.tmp r,.tmp s]) (j:E r=v) (hu:E s=u) (h:R (.returned (.tuple #[v,u])) W):yv P fn R .ret E W :=
 ⟨.tuple #[v,u],λtmps d=>by rw [results_tmp2 i,d,d,j,hu],h⟩
theorem px (d:fn.results=#[]) (h:R (.returned (.tuple #[])) W):yv P fn R .ret E W :=
 ⟨.tuple #[],λtmps _=>by rw [results_none d],h⟩
theorem qQ {r:Tmp} {t:TypeId} {a:Addr} {v:Value} (d:fn.results=#[.cell r t]) (n:E r= .pointer (some a)) (j:(Instr.loadAt t (.pointer (some a))).run P W= .ok v W) (h:R (.returned v) W):yv P fn R .ret E W :=
 ⟨v,λtmps i=>by
  have h1:(loadVar t a).run P W= .ok v W:=by simpa [Instr.loadAt,Instr.sureAddr] using j
  simp [results,d,i,n,asAddr,h1],h⟩
theorem qK (h:yv P fn R .ret E W):yv P fn R .normal E W:=h
end
section
variable {Q:rJ} {E:Nat→Value} {W:World} {K:(Nat→Value)→World→Prop} {id j:Nat}
theorem lI (h:Q .normal E W):xG id Q .normal E W:=h
theorem nU (h:Q .ret E W):xG id Q .ret E W:=h
theorem pM (h:Q .normal E W):xG id Q (.exit id) E W:=by simp [xG]; exact h
theorem Ta (d:(j=id)=False) (h:Q (.exit j) E W):xG id Q (.exit j) E W:=by simp only [xG,d,aN]; exact h
theorem kP (h:K E W):sn K Q .normal E W:=h
theorem lV (h:Q .ret E W):sn K Q .ret E W:=h
theorem ng (h:Q (.exit j) E W):sn K Q (.exit j) E W:=h
end
theorem OT {i N:Nat} (j:i < N) (d:N≤9223372036854775807):IntKind.i64.wrap ((i:Int)+1)=((i+1:Nat):Int):=by
 rw [IntWalk.i64_in _ (by omega)]
 omega
theorem mj {P:Program} {n:Nat} {Q:rJ} {E:Nat→Value} {W:World} {p u r2 r6 q r L x:Nat} {t1 t2 t3 t4 t5 t6 t7:TypeId} {Z p2 p3:String} {f1 f2 f3:Array Edge} {body:Code} (I:Nat→(Nat→Value)→World→Prop) (N:Nat) (T:N≤9223372036854775807) (M:I 0 E W) (U:q < n) (Y:x < n) (J:r < n) (R:∀i E W,I i E W→E r= .int .i64 (i:Nat)∧E L= .int .i64 (N:Nat)) (round:∀i E W,i < N→I i E W→CW P n (.block u body) (sn (λE' W'=>E' r= .int .i64 (i:Nat)∧I (i+1) (qa (qa E' x (.int .i64 ((i+1:Nat):Int))) r (.int .i64 ((i+1:Nat):Int))) W') (xG p Q)) (qa E q (.bool true)) W) (done:∀E W,I N E W→Q .normal (qa E q (.bool false)) W) :
  CW P n (.block p (.loop (.seq (.region r2 #[⟨some q,.binOp .lss t1 (.tmp r) (.tmp L) t2,t3,Z,f1,none⟩] false)
   (.seq (.cond (.tmp q) .skip (.exit p)) (.seq (.block u body)
    (.region r6 #[⟨some x,.binOp .add t4 (.tmp r) (.const (.int .i64 1)) t5,t6,p2,f2,none⟩,⟨some r,.move (.tmp x),t7,p3,f3,none⟩] false)))))) Q E W:=by
 refine me (nn (λm E W=>∃i,i≤N∧m=N-i∧I i E W) N ⟨0,eB _,by omega,M⟩ ?_)
 rintro m E W ⟨i,hi,rfl,d⟩
 obtain ⟨z,A⟩:=R i E W d
 refine kQ (kR (I3 (.inl rfl) rfl U (lE z A rfl) (lu ?_)))
 refine kP (kQ ?_)
 have w:qa E q (.bool (decide ((i:Int) < (N:Int)))) q= .bool (decide ((i:Int) < (N:Int))):=by simp [qa]
 by_cases s:i < N
 ·have G:decide ((i:Int) < (N:Int))=true:=by simp; omega
  rw [G] at w ⊢
  refine xX w (mM (kP (kQ ?_)))
  refine IR (round i E W s d) (λe E' W' h=>?_)
  cases e with
  | normal=>
   obtain ⟨h1,O⟩:=h
   refine kP ?_
   have hw:IntKind.i64.wrap ((i:Int)+1)=((i+1:Nat):Int):=OT s T
   refine kR (I3 (v:=.int .i64 ((i+1:Nat):Int)) (.inl rfl) rfl Y (lE (k:=.i64) (a:=(i:Int)) (b:=1) h1 rfl (by simp only [J3,hw])) ?_)
   refine I3 (v:=.int .i64 ((i+1:Nat):Int)) (.inl rfl) rfl J (kH (by simp [kW,qa])) (lu ?_)
   exact kP ⟨N-(i+1),by omega,i+1,by omega,rfl,O⟩
  | exit j=>exact h
  | goto l=>exact h
  | ret=>exact h
  | panic c=>exact h
  | outgrown=>exact h
 ·have G:decide ((i:Int) < (N:Int))=false:=by simp; omega
  rw [G] at w ⊢
  obtain rfl:i=N:=by omega
  refine tJ w (nu (ng (ng (pM ?_))))
  exact done E W d
theorem O0 {P:Program} {n:Nat} {x:Code} {Q:rJ} {K:(Nat→Value)→World→Prop} {E:Nat→Value} {W:World} (J:(Nat→Value)→World→Prop) (h:CW P n x (sn J Q) E W) (k:∀E W,J E W→K E W):CW P n x (sn K Q) E W :=
 IR h (λe E W h=>by cases e <;> first | exact k E W h | exact h)
theorem Sv {α:Type} {c:Bool} {x y r:α} (d:c=true) (h:(if c=true then x else y)=r):x=r:=by rw [cE d] at h; exact h
theorem Sy {α:Type} {c:Bool} {x y r:α} (d:c=false) (h:(if c=true then x else y)=r):y=r:=by rw [cI (by rw [d]; decide)] at h; exact h
theorem bind_some {α β:Type} {o:Option α} {f:α→Option β} {r:β} (h:o.bind f=some r):∃y,o=some y∧f y=some r:=by
 cases o with
 | none=>cases h
 | some y=>exact ⟨y,rfl,h⟩
theorem Oh (b:Bool):b=true∨b=false:=by cases b <;> simp
theorem lX {α:Type} {l:List α} {i:Nat} (h:i < l.length):∃x xs,l.drop i=x::xs∧l[i]? =some x∧l.drop (i+1)=xs:=by
 cases d:l.drop i with
 | nil=>have:=bO List.length d; simp at this; omega
 | cons x xs=>exact ⟨x,xs,rfl,by rw [←List.head?_drop,d]; rfl,by rw [←List.drop_drop,d]; rfl⟩
theorem FN {P:Program} {W:World} (d:Nat) (xs ys:Array Value):(Op.eqFields d xs ys []).run P W= .ok true W:=by simp [Op.eqFields]
theorem sO {P:Program} {W:World} {d:Nat} {xs ys:Array Value} {f:Field} {fs:List Field} {a b:Value} {r s:Bool} (i:f.name≠ "_") (ha:(part f.type xs f.offset).run P W= .ok a W) (hb:(part f.type ys f.offset).run P W= .ok b W) (he:(Op.equalIn d f.type a b).run P W= .ok r W) (h:(Op.eqFields d xs ys fs).run P W= .ok s W):(Op.eqFields d xs ys (f::fs)).run P W= .ok (r&&s) W:=by
 simp only [Op.eqFields,ne_eq,i,not_false_eq_true,aS,cL,ha,hb,he,bR]
 cases r <;> simp [h]
theorem AO {P:Program} {W:World} {t:TypeId} {k:Nat} {cs:Array Value} {off:Nat} {v:Array Value} (d:∀w,(isAgg t).run P w= .ok true w) (i:∀w,(sizeOf t).run P w= .ok k w) (j:cs.extract off (off+k)=v):(part t cs off).run P W= .ok (.agg v) W:=by
 simp [part,d W,i W,j]
theorem pV {P:Program} {W:World} {t:TypeId} {cs:Array Value} {off:Nat} {v:Value} (d:∀w,(isAgg t).run P w= .ok false w) (i:cs[off]? =some v):(part t cs off).run P W= .ok v W:=by
 simp [part,d W,i]
def lQ (a b:ByteArray):Bool:=a.toList==b.toList
theorem ML {P:Program} {t:TypeId} (i:P.underlying t=some .string) (d:Nat) (a b:ByteArray) (W:World):(Op.equalIn (d+1) t (.string a) (.string b)).run P W= .ok (lQ a b) W:=run_equalIn_string W d t a b i
theorem SB {P:Program} {t:TypeId} {k:IntKind} (i:P.underlying t=some (.int k)) (d:Nat) (a b:Int) (W:World):(Op.equalIn (d+1) t (.int k a) (.int k b)).run P W= .ok (a==b) W:=run_equalIn_int W d t k k a b i
theorem oX {P:Program} {op:BinOp} {t:TypeId} {x y:Operand} {a b:Array Value} (d:P.eqGuardType P.depth t=false) (W:World):(eqGuard op t x y (.agg a) (.agg b)).run P W= .ok () W:=by
 cases op <;> simp [eqGuard] <;> (intro h; rw [d] at h; cases h)
theorem tE {P:Program} {t:TypeId} {a b:Array Value} {r:Bool} (h:∀W,(Op.equalIn Op.maxDepth t (.agg a) (.agg b)).run P W= .ok r W) (W:World):(binOp .eql t (.agg a) (.agg b)).run P W= .ok (.bool r) W:=by
 simp [binOp,Op.equal,h W]
theorem AK {P:Program} {t:TypeId} {a b:Array Value} {r:Bool} (h:∀W,(Op.equalIn Op.maxDepth t (.agg a) (.agg b)).run P W= .ok r W) (W:World):(binOp .neq t (.agg a) (.agg b)).run P W= .ok (.bool !r) W:=by
 simp [binOp,Op.equal,h W]
end Go.Proofs.YtjjjihkifgdhgaaGreatDoor
namespace Go.Proofs.YtjjjihkifgdhgaaGreatDoor
open Go.RowKit
variable [M:Md]
variable {dd:Bool}
def lP (k:IntKind) (x:Int):List Value:=[.int k x]
def EJ (x:ByteArray):List Value:=[.string x]
theorem HS (k:IntKind) (x:Int):∀u∈lP k x,u.oneCell'=true:=by intro u hu; simp [lP] at hu; subst hu; rfl
theorem P8 (x:ByteArray):∀u∈EJ x,u.oneCell'=true:=by intro u hu; simp [EJ] at hu; subst hu; rfl
def zS:ByteArray:=⟨#[]⟩
def zy (a b:ByteArray):Bool:=Op.bytesLess a.toList b.toList
@[irreducible] def li:Nat:=18446744073709551616
theorem AX:li=18446744073709551616:=by unfold li; rfl
def lM {α:Type} (l:List α) (i:Int):Option α:=if 0≤i then l[i.toNat]? else none
theorem kZ {α:Type} {l:List α} {i:Int} {x:α} (h:lM l i=some x):0≤i:=by
 unfold lM at h; split at h
 ·assumption
 ·cases h
theorem kY {α:Type} {l:List α} {i:Int} {x:α} (h:lM l i=some x):l[i.toNat]? =some x:=by
 unfold lM at h; split at h
 ·exact h
 ·cases h
theorem DW {α:Type} (l:List α) (i:Nat):lM l (i:Int)=l[i]?:=by simp [lM]
def BD (s:ByteArray) (i:Int):Option UInt8:=if 0≤i then s[i.toNat]? else none
theorem Bg {s:ByteArray} {i:Int} {x:UInt8} (h:BD s i=some x):0≤i:=by
 unfold BD at h; split at h
 ·assumption
 ·cases h
theorem ET {s:ByteArray} {i:Int} {x:UInt8} (h:BD s i=some x):s[i.toNat]? =some x:=by
 unfold BD at h; split at h
 ·exact h
 ·cases h
section
variable {F:Nat→Prop} {w W:World} {μ:lF} {L L':List (Nat×Obj)} {α:Type} {e:TypeId} {enc:α→List Value} {k:Nat} {v:Value} {l:List α} {R:List (Nat×Obj)}
theorem ST.at_ (h:ST dd F w W μ L) {b:Nat} {o:Obj} (hb:(b,o)∈L):hp W b=some o:=(h.box b o hb).1
theorem lm.T1 (h:lm e enc k v l R) (hk:∀x,(enc x).length=k) (d:ST dd F w W μ L) (i:∀p,p∈R→p∈L):Sl (Pl enc) k (hp W) v l :=
 h.sl hk (λ_ _ hb=>d.at_ (i _ hb))
theorem lm.form (h:lm e enc k v l R):∃A c,v= .slice A l.length c:=by
 rcases h with ⟨rfl,rfl,rfl⟩ | ⟨g,cap,d,rfl,rfl,h1,i,j,n⟩
 ·exact ⟨_,_,rfl⟩
 ·exact ⟨_,_,rfl⟩
theorem Sl.form {R:rB α} (h:Sl R k μ v l):∃A c,v= .slice A l.length c:=let ⟨A,c,h,_⟩:=h; ⟨A,c,h⟩
theorem lm.QO (h:lm e enc k v l R) (i:ST dd lD w W μ L) (j:∀p,p∈R→p∈L):Fr w.heap.size v:=by
 rcases h with ⟨rfl,rfl,rfl⟩ | ⟨g,cap,d,rfl,rfl,h1,n,q,r⟩
 ·exact Fr.nil _
 ·intro b hb
  simp [Value.ownBlock] at hb
  subst hb
  rcases (i.box g (.cells d e (0,0)) (j _ (bH.2 rfl))).2.2 with h | h
  ·exact h
  ·exact h.elim
theorem Sl.lit {b m:Nat} {cs:Array Value} (hk:∀x,(enc x).length=k) (hm:l.length=m) (i:m≤maxLen) (d:cs.toList=(l.map enc).flatten) (hb:μ b=some (.cells cs e (0,0))):Sl (Pl enc) k μ (.slice (some ⟨b,0,none⟩) m m) l :=
 (lm.lit (e:=e) (b:=b) hm i d (by have:=bO List.length d; rw [qX hk,dP,hm] at this; exact this)).sl hk (λj o h=>by simp at h; obtain ⟨rfl,rfl⟩:=h; exact hb)
theorem Fr.box (h:ST dd lD w W μ L) {b m c:Nat} {o:Obj} (hb:(b,o)∈L):Fr w.heap.size (.slice (some ⟨b,0,none⟩) m c):=by
 intro i d
 simp [Value.ownBlock] at d
 subst d
 rcases (h.box b o hb).2.2 with h | h
 ·exact h
 ·exact h.elim
theorem ST.perm (h:ST dd F w W μ L) (hp:L.Perm L'):ST dd F w W μ L' :=
 ⟨h.os,h.tape,h.output,h.drawn,h.size,h.rA,h.mem,λb o hb=>h.box b o (hp.mem_iff.2 hb),(hp.map _).nodup_iff.1 h.nd⟩
theorem ST.sublist (h:ST dd F w W μ L) (d:L'.Sublist L):ST dd F w W μ L' :=
 ⟨h.os,h.tape,h.output,h.drawn,h.size,h.rA,h.mem,λb o hb=>h.box b o (d.subset hb),h.nd.sublist (d.map _)⟩
end
section
variable {E:Nat→Value} {x1 x2 x3 x4 x5 x6:Operand} {v1 v2 v3 v4 v5 v6:Value}
theorem pk (h1:kW E x1=v1):#[x1].map (kW E)++(#[]:Array Value)=[v1].toArray:=by simp [h1]
theorem qJ (h1:kW E x1=v1) (d:kW E x2=v2):#[x1,x2].map (kW E)++(#[]:Array Value)=[v1,v2].toArray:=by simp [h1,d]
end
theorem Jo:∀(v:List Value) (i off:Nat) (cells:Array Value),off+i+v.length≤cells.size→
  (v.zipIdx i).foldl (λcs (c,j)=>cs.setIfInBounds (off+j) c) cells=(cells.toList.take (off+i)++v++cells.toList.drop (off+i+v.length)).toArray
 | [],i,off,cells,h=>by simp
 | c::v,i,off,cells,h=>by
  simp only [ir,gW]
  simp only [aJ] at h
  rw [Jo v (i+1) off _ (by simp; omega)]
  have p:off+i < cells.toList.length:=by simp; omega
  congr 1
  rw [Array.toList_setIfInBounds]
  apply gE
  intro j
  have q:(cells.toList.take (off+i)).length=off+i:=by simp; omega
  by_cases h1:j < off+i
  ·simp only [ig,aC,dL,je,dP,aJ,gQ,ib,eP]
   rw [show min (off+(i+1)) cells.size=off+(i+1) by omega,show min (off+i) cells.size=off+i by omega]
   rw [cE (by omega),cE (by omega),cE (by omega),cI (by omega),cE (by omega),cE (by omega),cE (by omega)]
  ·by_cases n:j=off+i
   ·subst n
    simp [ig,gQ,ib,show off+i < off+(i+1) by omega]
    rw [cE (by omega),cE (by omega),cI (by omega),show off+i-min (off+i) cells.size=0 by omega]
    rfl
   ·simp only [ig,aC,dL,je,dP,aJ,gQ,ib,eP]
    rw [show min (off+(i+1)) cells.size=off+(i+1) by omega,show min (off+i) cells.size=off+i by omega]
    by_cases d:j < off+(i+1)+v.length
    ·rw [cE d,cI (by omega),cE (by omega),cI (by omega)]
     rw [show j-(off+i)=(j-(off+(i+1)))+1 by omega]
     simp
    ·rw [cI d,cI (by omega),cI (by omega)]
     congr 1
     omega
theorem Li {k:Nat}:∀(vs:List Value) (i:Nat) (pre rest:List Value),(∀v∈vs,v.cells.size=k)→pre.length=i*k→rest.length=vs.length*k→
  Instr.fill (λi=>some (i*k,k)) (pre++rest).toArray ((vs.zipIdx i).map (λp=>(p.2,p.1)))=some (pre++vs.flatMap (λv=>v.cells.toList)).toArray
 | [],i,pre,rest,q,hp,n=>by
  have:rest=[]:=by cases rest <;> simp at n ⊢
  simp [Instr.fill,this]
 | v::vs,i,pre,rest,q,hp,n=>by
  have d:=q v (by simp)
  have r:v.cells.zipIdx.foldl (λcs (c,j)=>cs.setIfInBounds (i*k+j) c) (pre++rest).toArray=(pre++v.cells.toList++rest.drop k).toArray:=by
   have:=Jo v.cells.toList 0 (i*k) (pre++rest).toArray (by simp [hp,n,d,dF])
   rw [←Array.toList_zipIdx,Array.foldl_toList] at this
   rw [this]
   congr 1
   simp [←hp,d]
  simp only [ir,bA,Instr.fill]
  rw [cI (by simp [d,hp,n,dF]),r]
  have:=Li vs (i+1) (pre++v.cells.toList) (rest.drop k) (λu hu=>q u (by simp [hu])) (by simp [hp,d,dF]) (by simp [n,dF])
  rw [this]
  simp
theorem PA {k m:Nat} {d cs:Array Value} {j:Array (Nat×Value)} (vs:List Value) (q:j.toList=vs.zipIdx.map (λp=>(p.2,p.1))) (s:∀v∈vs,v.cells.size=k) (hm:vs.length=m) (r:d.size=m*k) (n:(vs.flatMap (λv=>v.cells.toList)).toArray=cs):Instr.fill (λi=>some (i*k,k)) d j.toList=some cs:=by
 subst hm n
 rw [q]
 have:=Li vs 0 [] d.toList s (by simp) (by simpa using r)
 simpa using this
theorem A0 {P:Program} {t e:TypeId} {m k:Nat} {z:Value} {d:Array (Nat×Value)} {cs:Array Value} (vs:List Value) (r:P.underlying t=some (.slice e)) (q:∀w,(sizeOf e).run P w= .ok k w) (u:∀w,(zeroValue e).run P w= .ok z w) (hm:m*k≤16777216) (n:d.toList=vs.zipIdx.map (λp=>(p.2,p.1))) (s:∀v∈vs,v.cells.size=k) (j:vs.length=m) (i:(vs.flatMap (λv=>v.cells.toList)).toArray=cs) (W:World) :
  (Instr.buildSlice t m d).run P W= .ok (.slice (some ⟨W.heap.size,0,none⟩) m m) (W.alloc (.cells cs e (0,0))) :=
 IM r q u hm (PA vs n s j (by simp) i) W
theorem uC {E:Nat→Value} :(#[]:Array (Nat×Operand)).map (λ(i,x)=>(i,kW E x))=#[]:=by simp
theorem nL {E:Nat→Value} {x0:Operand} {v0:Value} {i0:Nat} (d:kW E x0=v0):(#[(i0,x0)]:Array (Nat×Operand)).map (λ(i,x)=>(i,kW E x))=#[(i0,v0)]:=by simp [d]
theorem uB {E:Nat→Value} {x0 x1:Operand} {v0 v1:Value} {i0 i1:Nat} (d:kW E x0=v0) (h1:kW E x1=v1):(#[(i0,x0),(i1,x1)]:Array (Nat×Operand)).map (λ(i,x)=>(i,kW E x))=#[(i0,v0),(i1,v1)]:=by simp [d,h1]
theorem yQ {E:Nat→Value} {x0 x1 x2:Operand} {v0 v1 v2:Value} {i0 i1 i2:Nat} (d:kW E x0=v0) (h1:kW E x1=v1) (j:kW E x2=v2):(#[(i0,x0),(i1,x1),(i2,x2)]:Array (Nat×Operand)).map (λ(i,x)=>(i,kW E x))=#[(i0,v0),(i1,v1),(i2,v2)]:=by simp [d,h1,j]
theorem SK {E:Nat→Value} {x0 x1 x2 x3 x4:Operand} {v0 v1 v2 v3 v4:Value} {i0 i1 i2 i3 i4:Nat} (d:kW E x0=v0) (h1:kW E x1=v1) (j:kW E x2=v2) (n:kW E x3=v3) (p:kW E x4=v4):(#[(i0,x0),(i1,x1),(i2,x2),(i3,x3),(i4,x4)]:Array (Nat×Operand)).map (λ(i,x)=>(i,kW E x))=#[(i0,v0),(i1,v1),(i2,v2),(i3,v3),(i4,v4)]:=by simp [d,h1,j,n,p]
theorem lW {P:Program} {t:TypeId} {f off:Nat} {fs:Array Field} {fd:Field} (n:P.underlying t=some (.struct fs)) (d:fs[f]? =some fd) {k:Nat} (j:∀w,(sizeOf fd.type).run P w= .ok k w) (hk:k≠0) (i:fd.offset=off):mF P t f off:=by
 intro b o w
 subst i
 simp [Instr.fieldAt,bF n,d,Instr.sureAddr,fieldPlace,dR,j w,hk]
theorem Ag.H3 {n:Nat} {a:Act} {E:Nat→Value} (h:Ag n a E) {ops:Array Oper} {j t:Nat} (i:(ops[j]?).bind (·.dst)=some t) (q:t < n) (r:E t=undef):yielded ops a.tmps j=none:=by
 have d:=h.2.2 t
 have p:a.tmps[t]? =some (E t):=by
  rw [←d]
  simp [fX,h.1,q]
 simp [yielded,i,p,r,undef]
theorem Sz {P:Program} {n:Nat} {Q:rJ} {E:Nat→Value} {W:World} {ops:Array Oper} {rest:List Oper} {o:Oper} {d j t:Nat} {want:Bool} (p:o.dst=some d) (s:d < n) (q:o.guard=some (j,want)) (r:(ops[j]?).bind (·.dst)=some t) (u:t < n) (i:E t=undef) (h:LW P n ops Q rest (qa E d undef) W):LW P n ops Q (o::rest) E W:=λa ha=>by
 unfold wpListIn
 have v:=ha.H3 r u i
 rw [cI (by simp [Region.wanted,q,v])]
 rw [p]
 exact ⟨λ_ _=>trivial,h _ (ha.put s _)⟩
theorem Uo {P:Program} {n:Nat} {Q:rJ} {E:Nat→Value} {W:World} {ops:Array Oper} {rest:List Oper} {A:Value→Prop} {o:Oper} {dd:Nat} (hw:uz n ops E o) (i:o.dst=some dd) (j:dd < n) (q:∃p,A p∧∀W,nt P E o W p W) (h:∀p,A p→LW P n ops Q rest (qa E dd p) W):LW P n ops Q (o::rest) E W:=by
 obtain ⟨p,h1,d⟩:=q
 exact I3 hw i j (d W) (h p h1)
end Go.Proofs.YtjjjihkifgdhgaaGreatDoor
namespace Go.Proofs.YtjjjihkifgdhgaaGreatDoor
open Go.RowKit
variable [M:Md]
variable {dd:Bool}
theorem rZ {P:Program} {n:Nat} {x:Code} {Q:rJ} {E:Nat→Value} {W:World} (h:CW P n x (sn (λE W=>Q .normal E W) Q) E W):CW P n x Q E W :=
 IR h (λe E W h=>by cases e <;> exact h)
section
variable {P:Program} {n:Nat} {Q:rJ} {E:Nat→Value} {W:World} {d:Option Nat} {ty:TypeId} {pos:String} {af:Array Edge} {g:Option (Nat×Bool)}
 {F:Nat→Prop} {w:World} {μ:lF} {L:List (Nat×Obj)}
def Q5 (k:IntKind) (op:BinOp) (a b:Int):Option Value :=
 match op with
 | .quo=>some (.int k (k.wrap (a.tdiv b)))
 | .rem=>some (.int k (a.tmod b))
 | .and=>some (.int k (k.wrap (BitVec.ofInt k.bits a &&& BitVec.ofInt k.bits b).toNat))
 | .or=>some (.int k (k.wrap (BitVec.ofInt k.bits a ||| BitVec.ofInt k.bits b).toNat))
 | _=>none
theorem J5 {op:BinOp} {tx tv:TypeId} {x y:Operand} {k:IntKind} {a b:Int} {v:Value} (n:kW E x= .int k a) (p:kW E y= .int k b) (j:b≠0) (i:Q5 k op a b=some v) :
  nt P E ⟨d,.binOp op tx x y tv,ty,pos,af,g⟩ W v W:=by
 show (do let r ←(do eqGuard op tx x y (kW E x) (kW E y); binOp op tx (kW E x) (kW E y)); pure (.value r):Sem Next).run P W=_
 rw [n,p]
 cases op <;> simp [Q5] at i <;> subst i <;> simp [eqGuard,binOp,Op.intDiv,Op.intBits,j]
theorem BO {tx tv:TypeId} {x y:Operand} {k k':IntKind} {a b:Int} (i:kW E x= .int k a) (j:kW E y= .int k' b) (n:0≤b) :
  nt P E ⟨d,.binOp .shr tx x y tv,ty,pos,af,g⟩ W (.int k (a.fdiv (2 ^ min b.toNat k.bits))) W:=by
 show (do let r ←(do eqGuard .shr tx x y (kW E x) (kW E y); binOp .shr tx (kW E x) (kW E y)); pure (.value r):Sem Next).run P W=_
 rw [i,j]
 simp [eqGuard,binOp,Op.shift,show ¬b < 0 by omega]
theorem pc {s t:TypeId} {x:Operand} {k k':IntKind} {a:Int} {u:TypeDesc} (i:P.underlying s=some u) (j:P.underlying t=some (.int k)) (n:kW E x= .int k' a) :
  nt P E ⟨d,.convert s t x,ty,pos,af,g⟩ W (.int k (k.wrap a)) W:=by
 show (do pure (.value (←convert s t (kW E x))):Sem Next).run P W=_
 rw [n]
 simp [convert,bF i,bF j,Conv.intToInt]
theorem IT {t e:TypeId} (dd:Nat) (d:P.underlying t=some (.slice e)) (A:Option Addr) (l c:Nat) (W:World):(Op.equalIn (dd+1) t (.slice A l c) (.slice none 0 0)).run P W= .ok A.isNone W:=by
 cases A <;> simp [Op.equalIn,bF d]
theorem CV {tx tv e:TypeId} {x y:Operand} {A:Option Addr} {l c:Nat} (j:P.underlying tx=some (.slice e)) (n:kW E x= .slice A l c) (p:kW E y= .slice none 0 0) :
  nt P E ⟨d,.binOp .eql tx x y tv,ty,pos,af,g⟩ W (.bool A.isNone) W:=by
 show (do let r ←(do eqGuard .eql tx x y (kW E x) (kW E y); binOp .eql tx (kW E x) (kW E y)); pure (.value r):Sem Next).run P W=_
 rw [n,p]
 have i:=IT 9999 j A l c W
 simp [eqGuard,binOp,Op.equal,show Op.maxDepth=9999+1 from rfl,i]
def nQ (s:ByteArray):List Int:=s.data.toList.map (λb=>(b.toNat:Int))
def Er (s:ByteArray):Option (List Int):=if s.size≤maxLen then some (nQ s) else none
theorem oK (s:ByteArray):(nQ s).length=s.size:=by simp only [nQ,bW,dP]; rfl
theorem N7 {s:ByteArray} {cap i:Nat} {x:Int} (h:(nQ s)[i]? =some x):(bytesRow s cap)[i]? =some (.int .u8 x):=by
 have j:i < s.size:=by have:=(bK.1 h).1; rwa [oK] at this
 have d:i < s.data.size:=j
 simp [nQ] at h
 obtain ⟨b,hb,rfl⟩:=h
 rw [bytesRow,Array.getElem?_append_left (by simpa using d)]
 simp [hb]
theorem JF {K:Value→World→Prop} {s t e:TypeId} {x:Operand} {str:ByteArray} {l:List Int} (n:ST dd F w W μ L) (z:P.underlying s=some .string) (u:P.underlying t=some (.slice e)) (he:P.underlying e=some (.int .u8)) (q:kW E x= .string str) (hb:Er str=some l) (h:∀W' v μ',ST dd F w W' μ' L→lz μ μ'→Lo F w μ μ'→Sl (Pl (lP .u8)) 1 μ' v l→Fr w.heap.size v→K v W'):pf P E ⟨d,.convert s t x,ty,pos,af,g⟩ W K:=by
 unfold Er at hb
 split at hb
 case isFalse=>cases hb
 rename_i hm
 cases hb
 have p:=run_bytes_of_string (P:=P) W s t e str z u he
 have h1:=n.drew.alloc (.cells (bytesRow str (grownCap W str.size 0 e)) e ((bytesRow str (grownCap W str.size 0 e)).size,(bytesRow str (grownCap W str.size 0 e)).size+1))
 refine .inl ⟨.slice (some ⟨W.heap.size,0,none⟩) str.size (grownCap W str.size 0 e),_,?_,h _ _ _ (ST.I8 (A:=[]) h1) (ST.IQ (A:=[]) h1) (ST.O6 (A:=[]) h1) ?_ ?_⟩
 ·show (do pure (.value (←convert s t (kW E x))):Sem Next).run P W=_
  rw [q]
  simp only [cL,p,bR,dS]
 ·refine ⟨_,grownCap W str.size 0 e,by rw [oK],by rw [oK]; exact grownCap_ge W str.size 0 e,jm W str.size 0 e hm,λ_=>⟨W.heap.size,0,bytesRow str (grownCap W str.size 0 e),e,_,rfl,cE rfl,λi x q=>⟨_,rfl,rfl,λj y r=>?_⟩⟩⟩
  cases j with
  | zero=>simp [lP] at r; subst r; simpa using N7 q
  | succ j=>simp [lP] at r
 ·intro b hb
  simp [Value.ownBlock] at hb
  subst hb
  exact n.size
def sP (l:List Int):ByteArray:=l.foldl (λr n=>r.push (UInt8.ofNat n.toNat)) ByteArray.empty
theorem uO {s t e:TypeId} {x:Operand} {v:Value} {l:List Int} (L:P.underlying s=some (.slice e)) (he:P.underlying e=some (.int .u8)) (J:P.underlying t=some .string) (O:kW E x=v) (M:Sl (Pl (lP .u8)) 1 (hp W) v l) :
  nt P E ⟨d,.convert s t x,ty,pos,af,g⟩ W (.string (sP l)) W:=by
 show (do pure (.value (←convert s t (kW E x))):Sem Next).run P W=_
 obtain ⟨A,c,rfl,Q,R,w⟩:=M
 rw [O]
 simp only [cL,run_convert_bytes_string W s t e A l.length c L he J]
 rcases eQ l.length with i | i
 ·have:l=[]:=fF.1 i
  subst this
  cases A with
  | none=>simp [Conv.bytesToString,sP]
  | some a=>
   have z:=run_bytesToString (P:=P) W a 0 c [] (by simpa using jl (P:=P) W a [] (by simp))
   simp only [bD]
   rw [z]
   simp [sP]
 ·obtain ⟨b,off,cs,T,fr,rfl,G,I⟩:=w i
  have u:=jl (P:=P) W ⟨b,off,none⟩ (l.map (Value.int .u8)) (λj v r=>by
   simp at r
   obtain ⟨x,p,rfl⟩:=r
   obtain ⟨ys,_,q,n⟩:=I j x p
   cases q
   rw [dR,gD W b (off+j) cs T fr G]
   have:=n 0 (.int .u8 x) rfl
   simpa using this)
  simp only [bW] at u
  rw [run_bytesToString W _ l.length c l u]
  simp [sP]
end
end Go.Proofs.YtjjjihkifgdhgaaGreatDoor
namespace Go.Proofs.YtjjjihkifgdhgaaGreatDoor
open Go.RowKit
variable {dd:Bool}
def keys (L:List (Nat×Obj)):Nat→Prop:=λb=>∃o,(b,o)∈L
structure Uw (dd:Bool) (F:Nat→Prop) (w W:World):Prop where
 os:W.os=w.os
 tape:W.tape=w.tape
 output:W.output=w.output
 drawn:uU dd w.drawn W.drawn
 size:w.heap.size≤W.heap.size
 rA:∀b,b < w.heap.size→¬F b→W.heap[b]? =w.heap[b]?
def F5 (L:List (Nat×Obj)) (W:World):Prop:=∀b o,(b,o)∈L→W.heap[b]? =some o
structure wv (dd:Bool) (L0 L1:List (Nat×Obj)) (w w':World):Prop where
 ex:Uw dd (keys L0) w w'
 held:∀b o,(b,o)∈L1→w'.heap[b]? =some o∧(w.heap.size≤b∨keys L0 b)
 nd:(L1.map (·.1)).Nodup
open Classical in
noncomputable def vL (w:World) (L:List (Nat×Obj)):lF:=λb=>if keys L b then none else w.heap[b]?
open Classical in
noncomputable def Dh (μ:lF) (W W':World) (L1:List (Nat×Obj)):lF:=λb=>if b < W.heap.size then μ b else if keys L1 b then none else W'.heap[b]?
section
variable {F:Nat→Prop} {w W W':World} {μ μ':lF} {L L0 L1:List (Nat×Obj)}
theorem ST.SH (d:F5 L0 w) (i:(L0.map (·.1)).Nodup):ST dd (keys L0) w w (vL w L0) L0 :=
 ⟨rfl,rfl,rfl,uU.of (aQ _),aQ _,λ_ _ _=>rfl,λb o h=>by
  unfold vL at h; split at h
  ·cases h
  ·exact h,λb o h=>⟨d b o h,by unfold vL; rw [cE ⟨o,h⟩],.inr ⟨o,h⟩⟩,i⟩
theorem Gv {A B:List (Nat×Obj)} (h:((A++B).map (·.1)).Nodup) {b:Nat} {o:Obj} (hb:(b,o)∈B):¬keys A b:=by
 rintro ⟨i,d⟩
 rw [cP] at h
 exact (cW.1 h).2.2 b (bE.2 ⟨_,d,rfl⟩) b (bE.2 ⟨_,hb,rfl⟩) rfl
theorem ST.back (h:ST dd F w W μ (L0++L)) (hb:wv dd L0 L1 W W'):ST dd F w W' (Dh μ W W' L1) (L1++L):=by
 have hk:∀b,keys L0 b→b < W.heap.size∧μ b=none∧(w.heap.size≤b∨F b):=λb ⟨o,d⟩=>by
  obtain ⟨h1,i,q⟩:=h.box b o (dK _ d)
  exact ⟨pH h1,i,q⟩
 refine ⟨hb.ex.os.trans h.os,hb.ex.tape.trans h.tape,hb.ex.output.trans h.output,uU.trans h.drawn hb.ex.drawn,eC h.size hb.ex.size,λb j r=>?_,λb o d=>?_,λb o d=>?_,?_⟩
 ·rw [hb.ex.rA b (fE j h.size) (λn=>by
   rcases (hk b n).2.2 with h | h
   ·omega
   ·exact r h)]
  exact h.rA b j r
 ·unfold Dh at d
  split at d
  ·rename_i j
   rw [hb.ex.rA b j (λn=>by rw [(hk b n).2.1] at d; cases d)]
   exact h.mem b o d
  ·split at d
   ·cases d
   ·exact d
 ·rcases aV.1 d with d | d
  ·obtain ⟨h1,i⟩:=hb.held b o d
   refine ⟨h1,?_,?_⟩
   ·unfold Dh
    split
    ·rename_i j
     rcases i with i | i
     ·omega
     ·exact (hk b i).2.1
    ·rw [cE ⟨o,d⟩]
   ·rcases i with i | i
    ·exact .inl (eC h.size i)
    ·exact (hk b i).2.2
  ·obtain ⟨h1,i,q⟩:=h.box b o (gA _ d)
   refine ⟨?_,?_,q⟩
   ·rw [hb.ex.rA b (pH h1) (Gv h.nd d)]; exact h1
   ·unfold Dh; rw [cE (pH h1)]; exact i
 ·rw [cP]
  have u:(L.map (·.1)).Nodup:=by have:=h.nd; rw [cP] at this; exact (cW.1 this).2.1
  refine cW.2 ⟨hb.nd,u,λa ha c v e=>?_⟩
  subst e
  obtain ⟨⟨b,o⟩,d,rfl⟩:=bE.1 ha
  obtain ⟨⟨s,x⟩,p,e⟩:=bE.1 v
  simp at e; subst e
  have j:=h.HX (gA _ p)
  rcases (hb.held s o d).2 with i | i
  ·omega
  ·exact Gv h.nd p i
theorem ST.Ls (h:ST dd F w W μ L) (W':World) (L1:List (Nat×Obj)):Lo F w μ (Dh μ W W' L1):=λb hb _=>cE (fE hb h.size)
theorem ST.Ji (h:ST dd F w W μ L) (W':World) (L1:List (Nat×Obj)):lz μ (Dh μ W W' L1):=λb o hb=>by
 unfold Dh; rw [cE (h.Gt hb)]; exact hb
theorem ST.ni (h:ST dd F w W μ L) (d:∀p,p∈L0→p∈L):lz μ (vL W L0):=λb o hb=>by
 unfold vL
 rw [cI]
 ·exact h.mem b o hb
 ·rintro ⟨j,i⟩
  rw [(h.box b j (d _ i)).2.1] at hb
  cases hb
theorem wv.QP (h:Ex dd w W) (d:∀b o,(b,o)∈L1→W.heap[b]? =some o∧w.heap.size≤b) (i:(L1.map (·.1)).Nodup):wv dd [] L1 w W :=
 ⟨⟨h.os,h.tape,h.output,h.drawn,h.size,λb hb _=>h.rA b hb⟩,λb o hb=>⟨(d b o hb).1,.inl (d b o hb).2⟩,i⟩
end
def mz (dd:Bool) (P:Program) (f:FuncId) (args:List Value) (w:World) (L0:List (Nat×Obj)) (K:Value→List (Nat×Obj)→World→Prop):Prop :=
 Calls P f args.toArray w λe d=>∃v L1,e= .returned v∧wv dd L0 L1 w d∧K v L1 d
def oU (dd:Bool) {α:Type} (P:Program) (f:FuncId) (args:List Value) (w:World) (e:TypeId) (enc:α→List Value) (k:Nat) (l:List α):Prop :=
 mz dd P f args w [] λv R _=>lm e enc k v l R
theorem wv.mK {L0 L1:List (Nat×Obj)} {w d:World} (h:wv true L0 L1 w d):wv dd L0 L1 w d:=⟨⟨h.ex.os,h.ex.tape,h.ex.output,uU.of (h.ex.drawn rfl),h.ex.size,h.ex.rA⟩,h.held,h.nd⟩
theorem la.mK {P:Program} {f:FuncId} {args:List Value} {w:World} {v:Value} (h:la true P f args w v):la dd P f args w v:=dI h λ_ _ h=>⟨h.1,h.2.mK⟩
theorem mz.mK {P:Program} {f:FuncId} {args:List Value} {w:World} {L0:List (Nat×Obj)} {K:Value→List (Nat×Obj)→World→Prop} (h:mz true P f args w L0 K):mz dd P f args w L0 K:=dI h λ_ _ ⟨v,L1,h1,d,i⟩=>⟨v,L1,h1,d.mK,i⟩
theorem oU.mK {α:Type} {P:Program} {f:FuncId} {args:List Value} {w:World} {e:TypeId} {enc:α→List Value} {k:Nat} {l:List α} (h:oU true P f args w e enc k l):oU dd P f args w e enc k l:=mz.mK h
section
variable {P:Program} {E:Nat→Value} {W:World} {d:Option Nat} {ty:TypeId} {pos:String} {af:Array Edge} {g:Option (Nat×Bool)}
 {F:Nat→Prop} {w:World} {μ:lF} {L:List (Nat×Obj)}
theorem P0 {K:Value→World→Prop} {K':Value→List (Nat×Obj)→World→Prop} {f:FuncId} {fv:Operand} {ax:Array Operand} {ats:Array TypeId} {caps:Array Value} {args:List Value} (L0 L2:List (Nat×Obj)) (i:ST dd F w W μ L) (j:L.Perm (L0++L2)) (r:kW E fv= .func (.func f) #[] caps) (he:∀args w,(callFunc f args).run P w= .ok (.enter f args) w) (ha:ax.map (kW E)++caps=args.toArray) (q:mz dd P f args W L0 K') (h:∀W' v μ' L1,ST dd F w W' μ' (L1++L2)→lz μ μ'→Lo F w μ μ'→K' v L1 W'→K v W'):pf P E ⟨d,.call ⟨.value fv,ax,ats⟩,ty,pos,af,g⟩ W K :=
 D1 r he ha (dI q (λ_ W' ⟨v,L1,h1,n,p⟩=>⟨v,h1,h W' v _ L1 ((i.perm j).back n) ((i.perm j).Ji W' L1) ((i.perm j).Ls W' L1) p⟩))
theorem NF {K:Value→World→Prop} {α:Type} {e:TypeId} {enc:α→List Value} {k:Nat} {l:List α} {f:FuncId} {fv:Operand} {ax:Array Operand} {ats:Array TypeId} {caps:Array Value} {args:List Value} (X Y:List (Nat×Obj)) (i:ST dd F w W μ (X++Y)) (r:kW E fv= .func (.func f) #[] caps) (he:∀args w,(callFunc f args).run P w= .ok (.enter f args) w) (ha:ax.map (kW E)++caps=args.toArray) (q:oU dd P f args W e enc k l) (h:∀W' v μ' R,ST dd F w W' μ' (X++(R++Y))→lz μ μ'→Lo F w μ μ'→lm e enc k v l R→K v W'):pf P E ⟨d,.call ⟨.value fv,ax,ats⟩,ty,pos,af,g⟩ W K :=
 P0 [] (X++Y) i (.refl _) r he ha q (λW' v μ' L1 h1 j p n=>h W' v μ' L1 (h1.perm (by rw [←aW,←aW]; exact List.perm_append_comm.append_right Y)) j p n)
end
theorem ST.sI {w W:World} {μ:lF} {L R:List (Nat×Obj)} (h:ST dd lD w W μ L) (d:∀p,p∈R→p∈L) (i:(R.map (·.1)).Nodup):wv dd [] R w W :=
 wv.QP h.ex (λb o hb=>⟨(h.box b o (d _ hb)).1,by
  rcases (h.box b o (d _ hb)).2.2 with h | h
  ·exact h
  ·exact h.elim⟩) i
theorem qm {P:Program} {E:Nat→Value} {W:World} {d:Option Nat} {ty:TypeId} {pos:String} {af:Array Edge} {g:Option (Nat×Bool)} {α:Type} {e':TypeId} {enc:α→List Value} {k:Nat} {v:Value} {l:List α} {R:List (Nat×Obj)} {x:Operand} {t e:TypeId} (i:P.underlying t=some (.slice e)) (j:kW E x=v) (h:lm e' enc k v l R):nt P E ⟨d,.call ⟨.builtin .len,#[x],#[t]⟩,ty,pos,af,g⟩ W (.int .i64 l.length) W:=by
 obtain ⟨A,c,rfl⟩:=h.form
 exact Es i j
section
variable {α:Type} {e:TypeId} {enc:α→List Value} {k:Nat} {v:Value} {l:List α} {R:List (Nat×Obj)}
theorem lm.nd (h:lm e enc k v l R):(R.map (·.1)).Nodup:=by
 rcases h with ⟨rfl,rfl,rfl⟩ | ⟨g,cap,d,rfl,rfl,_⟩ <;> simp
end
end Go.Proofs.YtjjjihkifgdhgaaGreatDoor
namespace Go.Proofs.YtjjjihkifgdhgaaGreatDoor
open Go.RowKit
variable {dd:Bool}
def CQ (R:List (Nat×Obj)) (k:Nat) (p:Value) (i:Nat):Prop:=∃g o,R=[(g,o)]∧p= .pointer (some ⟨g,i*k,none⟩)
section
variable {P:Program} {E:Nat→Value} {W:World} {d:Option Nat} {ty:TypeId} {pos:String} {af:Array Edge} {g:Option (Nat×Bool)}
 {F:Nat→Prop} {w:World} {μ:lF} {L:List (Nat×Obj)} {α:Type} {e':TypeId} {enc:α→List Value} {k:Nat} {v:Value} {l:List α} {R:List (Nat×Obj)}
theorem mh {t e:TypeId} {x n:Operand} {I:IntKind} {i:Int} {x0:α} (A:P.underlying t=some (.slice e)) (he:∀w,(sizeOf e).run P w= .ok k w) (G:kW E x=v) (u:kW E n= .int I i) (h:lm e' enc k v l R) (s:0≤i) (z:l[i.toNat]? =some x0) :
  ∃p,CQ R k p i.toNat∧∀W,nt P E ⟨d,.indexAddr t x n,ty,pos,af,g⟩ W p W:=by
 have j:i.toNat < l.length:=(bK.1 z).1
 rcases h with ⟨rfl,rfl,rfl⟩ | ⟨r,cap,q,rfl,rfl,h1,J,L,M⟩
 ·simp at j
 refine ⟨.pointer (some ⟨r,i.toNat*k,none⟩),⟨_,_,rfl,rfl⟩,λW=>?_⟩
 show (do pure (.value (←Instr.indexAt t (kW E x) (kW E n))):Sem Next).run P W=_
 rw [G,u]
 have hb:0≤i∧i < (l.length:Int):=⟨s,by omega⟩
 simp [Instr.indexAt,asIntOf,bF A,he W,hb,dR]
theorem Ew (h:lm e' enc k v l R) (hk:∀x,(enc x).length=k) {p:Value} {i:Nat} (hp:CQ R k p i) {x0:α} (s:l[i]? =some x0) :
  ∃g d cap,R=[(g,.cells d e' (0,0))]∧v= .slice (some ⟨g,0,none⟩) l.length cap∧l.length≤cap∧cap≤maxLen∧d.size=cap*k∧d.toList.take (l.length*k)=(l.map enc).flatten∧p= .pointer (some ⟨g,i*k,none⟩)∧∀j y,(enc x0)[j]? =some y→d[i*k+j]? =some y:=by
 have q:i < l.length:=(bK.1 s).1
 rcases h with ⟨rfl,rfl,rfl⟩ | ⟨w,cap,d,rfl,rfl,h1,z,A,r⟩
 ·simp at q
 obtain ⟨g2,o,u,rfl⟩:=hp
 cases u
 refine ⟨w,d,cap,rfl,rfl,h1,z,A,r,rfl,λj y E=>?_⟩
 have:=xS hk l i x0 s j y E
 rw [←r] at this
 have n:i*k+j < l.length*k:=by
  have:=(bK.1 this).1
  simp at this; omega
 rw [dW n] at this
 simpa using this
theorem nC {A:List (Nat×Obj)} (hH:pB μ A W) (n:∀q,q∈R→q∈A) (h:lm e' enc k v l R) (hk:∀x,(enc x).length=k) {p:Value} {i:Nat} (hp:CQ R k p i) {x0:α} (u:l[i]? =some x0) {t:TypeId} (r:∀w,(isAgg t).run P w= .ok true w) (s:∀w,(sizeOf t).run P w= .ok k w):(Instr.loadAt t p).run P W= .ok (.agg (enc x0).toArray) W:=by
 obtain ⟨z,d,cap,rfl,rfl,_,_,_,_,rfl,j⟩:=Ew h hk hp u
 exact DO r (enc x0) (by rw [hk]; exact s) (hH.2 _ _ (n _ (bH.2 rfl))) j
theorem Hq (hk:∀x,(enc x).length=k):∀(l:List α) (i:Nat) (y:α),i < l.length→((l.set i y).map enc).flatten=(l.map enc).flatten.take (i*k)++enc y++(l.map enc).flatten.drop (i*k+k)
 | [],i,y,h=>by simp at h
 | z::l,0,y,h=>by
  simp [hk]
 | z::l,i+1,y,h=>by
  have:=Hq hk l i y (by simpa using h)
  simp only [List.set_cons_succ,bA,aU,this]
  have h1:(i+1)*k=(enc z).length+i*k:=by rw [hk,dF]; omega
  rw [h1,jg,fA,List.drop_length_add_append]
  simp
theorem NJ {K:Value→World→Prop} (X:List (Nat×Obj)) {Y:List (Nat×Obj)} {t:TypeId} {x y:Operand} {p u:Value} {i:Nat} {x0 x1:α} (q:ST dd F w W μ (X++(R++Y))) (h:lm e' enc k v l R) (hk:∀x,(enc x).length=k) (h1:∀x,∀u∈enc x,u.oneCell'=true) (hx:kW E x=p) (hy:kW E y=u) (hu:u.cells=(enc x1).toArray) (hp:CQ R k p i) (L:l[i]? =some x0) (Z:∀w,(sizeOf t).run P w= .ok k w) (U:∀W' R',ST dd F w W' μ (X++(R'++Y))→lm e' enc k v (l.set i x1) R'→K undef W'):pf P E ⟨d,.store t x y,ty,pos,af,g⟩ W K:=by
 have G:i < l.length:=(bK.1 L).1
 obtain ⟨s,j,cap,rfl,rfl,J,Q,A,T,rfl,h6⟩:=Ew h hk hp L
 have hle:i*k+k≤cap*k:=by
  have:(i+1)*k≤cap*k:=dA _ (by omega)
  rwa [dF,kj] at this
 have r:i*k+k≤l.length*k:=by
  have:(i+1)*k≤l.length*k:=dA _ (by omega)
  rwa [dF,kj] at this
 have n:u.cells.size=k:=by rw [hu]; simp [hk]
 have hb:=(q.box s (.cells j e' (0,0)) (by simp)).1
 have hlen:l.length*k≤cap*k:=dA _ J
 refine .inr (.inl ⟨W.setRow s (j.toList.take (i*k)++(enc x1)++j.toList.drop (i*k+k)).toArray,?_,U _ [(s,.cells (j.toList.take (i*k)++(enc x1)++j.toList.drop (i*k+k)).toArray e' (0,0))] (q.store _) (.inr ⟨s,cap,_,by simp,rfl,by simpa using J,Q,?_,?_⟩)⟩)
 ·show (do Instr.storeAt t (kW E x) (kW E y); pure .skip:Sem Next).run P W=_
  rw [hx,hy]
  have:=DU P (off:=i*k) u (by rw [n]; exact Z) (by rw [hu]; simpa using h1 x1) hb (by rw [n,A]; exact hle)
  simp only [cL,this,bR,dS,n]
  rw [hu]
 ·show ((j.toList.take (i*k)++(enc x1)++j.toList.drop (i*k+k)).toArray).size=_
  have z:j.toList.length=cap*k:=by simpa using A
  rw [dZ,aC,aC,dL,iu,hk,z,eG (by omega)]; omega
 ·rw [je,Hq hk l i x1 G,←T]
  have M:(j.toList.take (l.length*k)).take (i*k)=j.toList.take (i*k):=by rw [iL]; congr 1; omega
  have O:(j.toList.take (l.length*k)).drop (i*k+k)=(j.toList.drop (i*k+k)).take (l.length*k-(i*k+k)):=by rw [jo]
  rw [M,O]
  show List.take (l.length*k) (j.toList.take (i*k)++enc x1++j.toList.drop (i*k+k))=_
  have z:j.toList.length=cap*k:=by simpa using A
  have I:(j.toList.take (i*k)++enc x1).length=i*k+k:=by rw [aC,dL,hk,z,eG (by omega)]
  rw [gN,eE (by rw [I]; exact r),I]
theorem FU (hk:∀x,(enc x).length=k):∀(l:List α) (i:Nat),i≤l.length→((l.take i).map enc).flatten=(l.map enc).flatten.take (i*k)
 | [],i,h=>by simp
 | z::l,0,h=>by simp
 | z::l,i+1,h=>by
  have:=FU hk l i (by simpa using h)
  simp only [List.take_succ_cons,bA,aU,this]
  rw [show (i+1)*k=(enc z).length+i*k by rw [hk,dF]; omega,jg]
theorem FM {t e:TypeId} {x ih:Operand} {M:IntKind} {i:Int} (r:P.underlying t=some (.slice e)) (he:∀w,(sizeOf e).run P w= .ok k w) (s:kW E x=v) (q:kW E ih= .int M i) (h:lm e' enc k v l R) (hk:∀x,(enc x).length=k) (A:0≤i) (L:i≤l.length) :
  ∃u,lm e' enc k u (l.take i.toNat) R∧∀W,nt P E ⟨d,.slice t x none (some ih) none,ty,pos,af,g⟩ W u W:=by
 have j:i.toNat≤l.length:=by omega
 rcases h with ⟨rfl,rfl,rfl⟩ | ⟨p,cap,n,rfl,rfl,h1,G,I,J⟩
 ·have:i=0:=by simp at L; omega
  subst this
  refine ⟨.slice none 0 0,.inl ⟨rfl,by simp,rfl⟩,λW=>?_⟩
  show (do pure (.value (←Instr.sliceAt t (kW E x) none (some (kW E ih)) none)):Sem Next).run P W=_
  rw [s,q]
  simp [Instr.sliceAt,Instr.slice,Instr.sliceBounds,Instr.sliceBound,asIntOf,bF r,he W]
 ·refine ⟨.slice (some ⟨p,0,none⟩) (l.take i.toNat).length cap,.inr ⟨p,cap,n,rfl,rfl,by simp; omega,G,I,?_⟩,λW=>?_⟩
  ·have z:(l.take i.toNat).length=i.toNat:=by rw [dL]; omega
   have hle:i.toNat*k≤l.length*k:=dA _ j
   rw [z,FU hk l i.toNat j,←J,iL,eG hle]
  ·show (do pure (.value (←Instr.sliceAt t (kW E x) none (some (kW E ih)) none)):Sem Next).run P W=_
   rw [s,q]
   have hb:0≤i∧i≤(cap:Int):=⟨A,by omega⟩
   simp [Instr.sliceAt,Instr.slice,Instr.sliceBounds,Instr.sliceBound,asIntOf,bF r,he W,hb,dR]
   omega
theorem Hd {u:rB α} {t e:TypeId} {x r:Operand} {ik:IntKind} {i:Int} (Z:P.underlying t=some (.slice e)) (he:∀w,(sizeOf e).run P w= .ok k w) (n:kW E x=v) (Q:kW E r= .int ik i) (h:Sl u k μ v l) (z:0≤i) (R:i≤l.length) :
  ∃s,(Sl u k μ s (l.drop i.toNat)∧∀B,Fr B v→Fr B s)∧∀W,nt P E ⟨d,.slice t x (some r) none none,ty,pos,af,g⟩ W s W:=by
 obtain ⟨A,c,rfl,h2,h3,G⟩:=h
 have U:i.toNat≤l.length:=by omega
 refine ⟨.slice (if c=i.toNat then A else A.map (·.add (i.toNat*k))) (l.drop i.toNat).length (c-i.toNat),⟨⟨_,_,rfl,by simp; omega,by omega,λhp=>?_⟩,λB O b hb=>?_⟩,λW=>?_⟩
 ·have Y:i.toNat < l.length:=by simp at hp; omega
  obtain ⟨b,off,cs,T,fr,rfl,I,J⟩:=G (by omega)
  refine ⟨b,off+i.toNat*k,cs,T,fr,?_,I,λj x n=>?_⟩
  ·rw [cI (by omega)]; simp [dR]
  ·rw [eP] at n
   obtain ⟨ys,L,M,p⟩:=J _ x n
   refine ⟨ys,L,M,λq y hy=>?_⟩
   have:=p q y hy
   rw [dF] at this
   rw [show off+i.toNat*k+j*k+q=off+(i.toNat*k+j*k)+q by omega]
   exact this
 ·refine O b ?_
  cases A with
  | none=>simp [Value.ownBlock] at hb
  | some a=>
   split at hb
   ·exact hb
   ·obtain ⟨b',o',s'⟩:=a
    cases s' <;> simp [Value.ownBlock,Addr.add] at hb ⊢ <;> split at hb <;> exact hb
 ·show (do pure (.value (←Instr.sliceAt t (kW E x) (some (kW E r)) none none)):Sem Next).run P W=_
  rw [n,Q]
  have hb:0≤i∧i≤(l.length:Int):=⟨z,R⟩
  simp [Instr.sliceAt,Instr.slice,Instr.sliceBounds,Instr.sliceBound,asIntOf,bF Z,he W,hb]
end
end Go.Proofs.YtjjjihkifgdhgaaGreatDoor
namespace Go.Proofs.YtjjjihkifgdhgaaGreatDoor
open Go.RowKit
variable {dd:Bool}
section
variable {α:Type} {e:TypeId} {enc:α→List Value} {k:Nat} {v:Value} {l:List α} {R:List (Nat×Obj)} {μ:lF}
theorem lm.one (h:lm e enc k v l R):v.oneCell'=true:=by obtain ⟨A,c,rfl⟩:=h.form; rfl
theorem Sl.one {d:rB α} (h:Sl d k μ v l):v.oneCell'=true:=by obtain ⟨A,c,rfl⟩:=h.form; rfl
theorem Sl.isNil {i:rB α} {n c:Nat} (h:Sl i k μ (.slice none n c) l):l=[]:=by
 obtain ⟨A,q,h1,r,s,j⟩:=h
 cases h1
 rcases eQ l.length with d | d
 ·exact fF.1 d
 ·obtain ⟨b,off,cs,T,fr,p,_⟩:=j d
  cases p
theorem lm.isNil {n c:Nat} (h:lm e enc k (.slice none n c) l R):l=[]:=by
 rcases h with ⟨h1,rfl,rfl⟩ | ⟨g,cap,d,h1,_⟩
 ·rfl
 ·cases h1
theorem ST.TA {w W:World} {μ:lF} {L1 L2:List (Nat×Obj)} (h:ST dd lD w W μ (L1++L2)):wv dd [] L1 w W :=
 wv.QP h.ex (λb o hb=>⟨(h.box b o (dK _ hb)).1,by
  rcases (h.box b o (dK _ hb)).2.2 with h | h
  ·exact h
  ·exact h.elim⟩) (by have:=h.nd; rw [cP] at this; exact (cW.1 this).1)
theorem ST.TD {w W:World} {μ:lF} {L0 L1 L2:List (Nat×Obj)} (h:ST dd (keys L0) w W μ (L1++L2)):wv dd L0 L1 w W :=
 ⟨⟨h.os,h.tape,h.output,h.drawn,h.size,h.rA⟩,λb o hb=>⟨(h.box b o (dK _ hb)).1,(h.box b o (dK _ hb)).2.2⟩,by have:=h.nd; rw [cP] at this; exact (cW.1 this).1⟩
end
end Go.Proofs.YtjjjihkifgdhgaaGreatDoor
namespace Go.Proofs.YtjjjihkifgdhgaaGreatDoor
open Go.RowKit
variable {dd:Bool}
def qE {κ β:Type} (beq:κ→κ→Bool) (l:List (κ×β)) (k:κ):Option β:=(l.find? (λp=>beq k p.1)).map (·.2)
def xj {κ β:Type} (beq:κ→κ→Bool) (l:List (κ×β)) (k:κ) (v:β):List (κ×β) :=
 match l.findIdx? (λp=>beq k p.1) with
 | some i=>l.set i (k,v)
 | none=>l++[(k,v)]
structure xn {κ β:Type} (kenc:κ→Value) (vf:β→Value) (l:List (κ×β)) (es:Array MapEntry) (clock:Nat):Prop where
 GM:es.toList.map (λe=>(e.key,e.val))=l.map (λp=>(kenc p.1,vf p.2))
 born:es.toList.Pairwise (λa b=>a.born < b.born)
 lt:∀e∈es.toList,e.born < clock
def nI {κ β:Type} (kenc:κ→Value) (vf:β→Value) (v:Value) (l:List (κ×β)) (R:List (Nat×Obj)):Prop :=
 ∃m es clock,v= .map (some m)∧R=[(m,.map es clock)]∧xn kenc vf l es clock
def Am {κ β:Type} (kenc:κ→Value) (vf:β→Value) (μ:lF) (v:Value) (l:List (κ×β)):Prop :=
 (v= .map none∧l=[])∨∃m es clock,v= .map (some m)∧μ m=some (.map es clock)∧xn kenc vf l es clock
theorem Am.mono {κ β:Type} {kenc:κ→Value} {vf:β→Value} {μ μ':lF} {v:Value} {l:List (κ×β)} (h:Am kenc vf μ v l) (j:lz μ μ'):Am kenc vf μ' v l:=by
 rcases h with h | ⟨m,es,clock,h1,d,i⟩
 ·exact .inl h
 ·exact .inr ⟨m,es,clock,h1,j _ _ d,i⟩
theorem nI.at {κ β:Type} {kenc:κ→Value} {vf:β→Value} {μ:lF} {v:Value} {l:List (κ×β)} {R:List (Nat×Obj)} (h:nI kenc vf v l R) (i:∀b o,(b,o)∈R→μ b=some o):Am kenc vf μ v l:=by
 obtain ⟨m,es,clock,rfl,rfl,d⟩:=h
 exact .inr ⟨m,es,clock,rfl,i _ _ (bH.2 rfl),d⟩
structure uy {κ:Type} (P:Program) (kt:TypeId) (kenc:κ→Value) (beq:κ→κ→Bool):Prop where
 check:∀b k W,(Instr.checkKey b 10000 kt (kenc k)).run P W= .ok () W
 find:∀(k:κ) (l:List κ) (es:List MapEntry),es.map (·.key)=l.map kenc→∀W,(Instr.findKey kt (kenc k) es).run P W= .ok ((l.findIdx? (λx=>beq k x)).bind λi=>(es[i]?).map λe=>(i,e.val)) W
 eq:∀k x,beq k x=true→kenc x=kenc k
 bits:∀k,Instr.sameBits 10000 (kenc k) (kenc k)=true
section
variable {P:Program} {W:World} {κ:Type} {kt:TypeId} {kenc:κ→Value} {beq:κ→κ→Bool}
theorem D4 (d:∀x y W,(Op.equal kt (kenc x) (kenc y)).run P W= .ok (beq x y) W) (k:κ):∀(l:List κ) (es:List MapEntry) (i:Nat),es.map (·.key)=l.map kenc→
  (Instr.findAsking kt (kenc k) es i).run P W= .ok ((l.findIdx? (λx=>beq k x)).bind λj=>(es[j]?).map λe=>(i+j,e.val)) W
 | [],[],i,h=>by simp [Instr.findAsking]
 | [],_::_,i,h=>by simp at h
 | _::_,[],i,h=>by simp at h
 | x::l,e::es,i,h=>by
  simp only [bA,aK] at h
  obtain ⟨h1,n⟩:=h
  simp only [Instr.findAsking,cL,h1,d,bR,jq]
  cases hb:beq k x with
  | true=>simp
  | false=>
   simp only [aB,aN]
   rw [D4 d k l es (i+1) n]
   cases l.findIdx? (λx=>beq k x) with
   | none=>rfl
   | some j=>simp [fA,Nat.add_comm 1 j]
theorem LU {kind:TypeDesc} (hk:∀a b,Instr.sameNow kind (.agg a) b=none) (a:Array Value):∀(es:List MapEntry) (i:Nat),Instr.findNow kind (.agg a) es i=if es=[] then some none else none
 | [],i=>by simp [Instr.findNow]
 | e::es,i=>by simp [Instr.findNow,hk]
theorem uy.struct {enc:κ→List Value} {fs:Array Field} (q:P.underlying kt=some (.struct fs)) (p:∀d x y W,(Op.equalIn (d+10) kt (.agg (enc x).toArray) (.agg (enc y).toArray)).run P W= .ok (beq x y) W) (n:∀b k W,(Instr.checkKey b 10000 kt (.agg (enc k).toArray)).run P W= .ok () W) (he:∀k x,beq k x=true→x=k) (hb:∀k,Instr.sameBits 10000 (.agg (enc k).toArray) (.agg (enc k).toArray)=true):uy P kt (λx=>.agg (enc x).toArray) beq where
 check:=n
 find:=λk l es h W=>by
  have i:∀x y W,(Op.equal kt (.agg (enc x).toArray) (.agg (enc y).toArray)).run P W= .ok (beq x y) W:=λx y W=>p 9990 x y W
  simp only [Instr.findKey,cL,bF q,bR]
  rw [LU (λa b=>by cases b <;> rfl)]
  by_cases j:es=[]
  ·subst j
   have:l=[]:=by simpa using h.symm
   subst this
   simp
  ·rw [cI j]
   dsimp only
   rw [show Instr.findAsking kt (.agg (enc k).toArray) es=Instr.findAsking kt (.agg (enc k).toArray) es 0 from rfl,D4 i k l es 0 h]
   simp
 eq:=λk x h=>by rw [he k x h]
 bits:=hb
theorem qk {a b:ByteArray}:lQ a b=true↔a=b:=by
 unfold lQ
 rw [iB,iB]
 constructor
 ·intro h
  have h1:a.data.toList=b.data.toList:=by simpa using h
  exact iE (Array.toList_inj.1 h1)
 ·rintro rfl
  simp
theorem FG (a b:ByteArray):(a==b)=lQ a b:=by
 rw [cZ,qk]
 constructor
 ·intro h
  have h1:(a.data==b.data)=true:=h
  exact iE (by simpa using h1)
 ·rintro rfl
  show (a.data==a.data)=true
  simp
theorem D7 (k:ByteArray):∀(l:List ByteArray) (es:List MapEntry) (i:Nat),es.map (·.key)=l.map Value.string→
  Instr.findNow .string (.string k) es i=some ((l.findIdx? (λx=>lQ k x)).bind λj=>(es[j]?).map λe=>(i+j,e.val))
 | [],[],i,h=>by simp [Instr.findNow]
 | [],_::_,i,h=>by simp at h
 | _::_,[],i,h=>by simp at h
 | x::l,e::es,i,h=>by
  simp only [bA,aK] at h
  obtain ⟨h1,d⟩:=h
  simp only [Instr.findNow,h1,Instr.sameNow,FG,jq]
  cases hb:lQ k x with
  | true=>simp
  | false=>
   simp only [aB,aN]
   rw [D7 k l es (i+1) d]
   cases l.findIdx? (λx=>lQ k x) with
   | none=>rfl
   | some j=>simp [fA,Nat.add_comm 1 j]
theorem zU (d:P.underlying kt=some .string) (n:Nat) (b:Bool) (k:ByteArray) (W:World):(Instr.checkKey b (n+1) kt (.string k)).run P W= .ok () W:=by
 simp [Instr.checkKey,bF d]
theorem uy.string (d:P.underlying kt=some .string):uy P kt Value.string lQ where
 check:=λb k W=>zU d 9999 b k W
 find:=λk l es h W=>by
  simp only [Instr.findKey,cL,bF d,bR]
  have:=D7 k l es 0 h
  rw [this]
  simp
 eq:=λk x h=>by rw [qk.1 h]
 bits:=λk=>by simp only [Instr.sameBits]; rw [FG]; exact qk.2 rfl
variable {β:Type} {vf:β→Value} {E:Nat→Value} {d:Option Nat} {ty:TypeId} {pos:String} {af:Array Edge} {g:Option (Nat×Bool)} {F:Nat→Prop} {w:World} {μ:lF} {L:List (Nat×Obj)}
theorem xn.keys {l:List (κ×β)} {es:Array MapEntry} {clock:Nat} (h:xn kenc vf l es clock):es.toList.map (·.key)=(l.map (·.1)).map kenc:=by
 have:=bO (List.map Prod.fst) h.GM
 simpa [jA] using this
theorem xn.length {l:List (κ×β)} {es:Array MapEntry} {clock:Nat} (h:xn kenc vf l es clock):es.size=l.length:=by
 have:=bO List.length h.GM
 simpa using this
theorem xn.get {l:List (κ×β)} {es:Array MapEntry} {clock:Nat} (h:xn kenc vf l es clock) (k:κ) :
  (((l.map (·.1)).findIdx? (λx=>beq k x)).bind λi=>(es.toList[i]?).map λe=>(i,e.val))=(l.findIdx? (λp=>beq k p.1)).bind λi=>(l[i]?).map λp=>(i,vf p.2):=by
 rw [jB]
 show ((l.findIdx? (λp=>beq k p.1)).bind _)=_
 congr 1
 funext i
 have:=bO (λq=>q[i]?) h.GM
 simp only [fS] at this
 cases h1:es.toList[i]? with
 | none=>rw [h1] at this; cases d:l[i]? with
  | none=>rfl
  | some p=>rw [d] at this; cases this
 | some e=>rw [h1] at this; cases d:l[i]? with
  | none=>rw [d] at this; cases this
  | some p=>rw [d] at this; simp at this; simp [this.2]
theorem zh (l:List (κ×β)) (k:κ):qE beq l k=(l.findIdx? (λp=>beq k p.1)).bind λi=>(l[i]?).map (·.2):=by
 induction l with
 | nil=>rfl
 | cons p l ih=>
  simp only [qE,gY,jq] at ih ⊢
  cases beq k p.1 with
  | true=>rfl
  | false=>
   simp only [aB,aN]
   rw [ih]
   cases l.findIdx? (λp=>beq k p.1) <;> simp
theorem Ko {t e:TypeId} {m x:Operand} {A z:Value} {l:List (κ×β)} {k:κ} (K:uy P kt kenc beq) (u:P.underlying t=some (.map kt e)) (n:∀w,(zeroValue e).run P w= .ok z w) (hm:kW E m=A) (J:kW E x=kenc k) (I:Am kenc vf (hp W) A l) :
  nt P E ⟨d,.lookup t m x false,ty,pos,af,g⟩ W (((qE beq l k).map vf).getD z) W:=by
 show (do pure (.value (←Instr.lookup t (kW E m) (kW E x) false)):Sem Next).run P W=_
 rw [hm,J]
 rcases I with ⟨rfl,rfl⟩ | ⟨v,es,clock,rfl,hb,q⟩
 ·have:=K.find k [] [] rfl W
  simp [Instr.lookup,bF u,K.check,this,n W,qE]
 ·have j:W.heap[v]? =some (.map es clock):=hb
  have G:(getObj v:Sem Obj).run P W= .ok (.map es clock) W:=by simp [getObj,Sem.run,j]
  have r:=K.find k _ _ q.keys W
  rw [q.get k] at r
  simp only [Instr.lookup,cL,bF u,bR,G,dS,K.check,r,zh]
  cases L:l.findIdx? (λp=>beq k p.1) with
  | none=>simp [n W]
  | some i=>
   cases s:l[i]? with
   | none=>simp [s,n W]
   | some p=>simp [s]
theorem yk {l:List (κ×β)} {k:κ} {i:Nat} (h:l.findIdx? (λp=>beq k p.1)=some i):∃p,l[i]? =some p∧beq k p.1=true:=by
 rw [List.findIdx?_eq_some_iff_getElem] at h
 obtain ⟨h1,d,_⟩:=h
 exact ⟨l[i],dE h1,d⟩
theorem xn.put {l:List (κ×β)} {es:Array MapEntry} {clock:Nat} (h:xn kenc vf l es clock) (k:κ) (v:β) :
  match l.findIdx? (λp=>beq k p.1) with
  | some i=>xn kenc vf (l.set i (k,v)) (es.modify i λe=>{ e with key:=kenc k,val:=vf v }) clock
  | none=>xn kenc vf (l++[(k,v)]) (es.push { key:=kenc k,val:=vf v,born:=clock }) (clock+1):=by
 cases u:l.findIdx? (λp=>beq k p.1) with
 | none=>
  refine ⟨?_,?_,?_⟩
  ·simp [h.GM]
  ·simp only [Array.toList_push,dG]
   exact ⟨h.born,by simp,λa ha b hb=>by simp at hb; subst hb; exact h.lt a ha⟩
  ·intro e he
   simp at he
   rcases he with he | rfl
   ·exact Nat.lt_succ_of_lt (h.lt e (by simpa using he))
   ·exact aT _
 | some i=>
  obtain ⟨p,hp,_⟩:=yk u
  have z:i < l.length:=(bK.1 hp).1
  have d:(es.modify i λe=>{ e with key:=kenc k,val:=vf v }).toList.map (·.born)=es.toList.map (·.born):=by
   apply gE
   intro j
   simp only [fS,eJ,gx]
   split
   ·cases es[j]? <;> simp
   ·rfl
  refine ⟨?_,?_,?_⟩
  ·apply gE
   intro j
   have r:=bO (λq=>q[j]?) h.GM
   simp only [fS,eJ] at r
   simp only [fS,eJ,gx,ib]
   by_cases n:i=j
   ·subst n
    simp only [aS]
    rw [cE z]
    cases w:es[i]? with
    | none=>rw [w,hp] at r; cases r
    | some e=>rfl
   ·rw [cI n,cI n]; exact r
  ·have:=h.born
   rw [←iM (f:=λe:MapEntry=>e.born) (R:=(· < ·))] at this ⊢
   rw [d]; exact this
  ·intro e he
   have:e.born∈es.toList.map (·.born):=by rw [←d]; exact bE.2 ⟨e,he,rfl⟩
   obtain ⟨e',s,x⟩:=bE.1 this
   rw [←x]; exact h.lt e' s
theorem HZ {W:World} {r:Nat} {es:Array MapEntry} {c:Nat} (i:W.heap[r]? =some (.map es c)) (d:Obj):(setObj r d).run P W= .ok () (ChangeMaps.setBlock W r d):=by
 simp [setObj,Sem.run,i,ChangeMaps.setBlock]
theorem ST.setBlock {A B:List (Nat×Obj)} {b:Nat} {o:Obj} (h:ST dd F w W μ (A++(b,o)::B)) (i:Obj):ST dd F w (ChangeMaps.setBlock W b i) μ (A++(b,i)::B):=by
 have hb:=(h.box b o (by simp)).1
 have d:=pH hb
 refine h.put ⟨rfl,rfl,rfl,aQ _,by simp [ChangeMaps.setBlock]⟩ (λk hk=>?_) ?_
 ·simp only [ChangeMaps.setBlock]
  rw [Array.getElem?_setIfInBounds_ne (λe=>hk e.symm)]
 ·simp only [ChangeMaps.setBlock]
  rw [Array.getElem?_setIfInBounds_self_of_lt d]
theorem Hb {L:Value→World→Prop} (X:List (Nat×Obj)) {Y R:List (Nat×Obj)} {t e:TypeId} {m x y:Operand} {J:Value} {l:List (κ×β)} {k:κ} {v:β} (K:uy P kt kenc beq) (Q:P.underlying t=some (.map kt e)) (s:ST dd F w W μ (X++(R++Y))) (h:nI kenc vf J l R) (hm:kW E m=J) (U:kW E x=kenc k) (Z:kW E y=vf v) (O:∀W' R',ST dd F w W' μ (X++(R'++Y))→nI kenc vf J (xj beq l k v) R'→L undef W'):pf P E ⟨d,.mapUpdate t m x y,ty,pos,af,g⟩ W L:=by
 obtain ⟨n,es,clock,rfl,rfl,G⟩:=h
 have hb:W.heap[n]? =some (.map es clock):=(s.box n (.map es clock) (by simp)).1
 have M:(getObj n:Sem Obj).run P W= .ok (.map es clock) W:=by simp [getObj,Sem.run,hb]
 have u:=K.find k _ _ G.keys W
 rw [G.get k] at u
 have j:=G.put (beq:=beq) k v
 have r:∀W',(Instr.mapUpdate t (.map (some n)) (kenc k) (vf v)).run P W= .ok () W'→(execOp (kW E) ⟨d,.mapUpdate t m x y,ty,pos,af,g⟩).run P W= .ok .skip W':=by
  intro W' T
  show (do Instr.mapUpdate t (kW E m) (kW E x) (kW E y); pure .skip:Sem Next).run P W=_
  rw [hm,U,Z]
  simp [T]
 cases z:l.findIdx? (λp=>beq k p.1) with
 | none=>
  rw [z] at u j
  refine .inr (.inl ⟨ChangeMaps.setBlock W n (.map (es.push { key:=kenc k,val:=vf v,born:=clock }) (clock+1)),r _ ?_,O _ [(n,_)] (s.setBlock _) ⟨n,_,_,rfl,rfl,?_⟩⟩)
  ·simp [Instr.mapUpdate,bF Q,M,K.check,u,HZ hb]
  ·rw [xj,z]; exact j
 | some i=>
  obtain ⟨p,hp,I⟩:=yk z
  rw [z] at u j
  simp only [aA,hp,gC] at u
  have A:((es[i]?).map (·.key)).getD (kenc k)=kenc k:=by
   have:=bO (λq=>q[i]?) G.keys
   simp only [fS,hp,gC,eJ] at this
   rw [this]
   simp [K.eq k p.1 I]
  refine .inr (.inl ⟨ChangeMaps.setBlock W n (.map (es.modify i λe=>{ e with key:=kenc k,val:=vf v }) clock),r _ ?_,O _ [(n,_)] (s.setBlock _) ⟨n,_,_,rfl,rfl,?_⟩⟩)
  ·simp only [Instr.mapUpdate,cL,bF Q,M,K.check,u,bR,A,Instr.keyThatStays,K.bits,aS,dS]
   exact HZ hb _
  ·rw [xj,z]; exact j
theorem Jg {j:Value→World→Prop} {t:TypeId} (kenc:κ→Value) (vf:β→Value) (i:ST dd F w W μ L) (n:∀W' v R,ST dd F w W' μ (R++L)→nI kenc vf v [] R→j v W'):pf P E ⟨d,.makeMap t none,ty,pos,af,g⟩ W j :=
 .inl ⟨.map (some W.heap.size),W.alloc (.map #[] 0),by
   show (do pure (.value (←Instr.makeMap t none)):Sem Next).run P W=_
   simp [Instr.makeMap,newObj,Sem.run],n _ _ [(W.heap.size,.map #[] 0)] (i.alloc _) ⟨_,_,_,rfl,rfl,⟨rfl,by simp,by simp⟩⟩⟩
end
end Go.Proofs.YtjjjihkifgdhgaaGreatDoor
namespace Go.Proofs.YtjjjihkifgdhgaaGreatDoor
open Go.RowKit
variable {dd:Bool}
def Lb {α β:Type} (P:Program) (fv:Value) (μ:lF) (d:α→List Value) (i:β→Value) (pm:α→Option β):Prop :=
 ∃f caps,fv= .func (.func f) #[] caps∧(∀args w,(callFunc f args).run P w= .ok (.enter f args) w)∧∀W x r,lz μ (hp W)→pm x=some r→la true P f (d x++caps.toList) W (i r)
def sQ {α β:Type} (P:Program) (fv:Value) (μ:lF) (d:α→List Value) (i:β→Value) (pm:α→Option β):Prop :=
 ∃f first caps,fv= .func (.func f) first caps∧(∀args w,(callFunc f args).run P w= .ok (.enter f args) w)∧∀W x r,lz μ (hp W)→pm x=some r→la false P f (first.toList++(d x++caps.toList)) W (i r)
theorem sQ.form {α β:Type} {P:Program} {fv:Value} {μ:lF} {d:α→List Value} {i:β→Value} {pm:α→Option β} (h:sQ P fv μ d i pm):∃f a b,fv= .func f a b:=let ⟨f,a,b,h,_⟩:=h; ⟨_,a,b,h⟩
section
variable {P:Program} {W:World} {E:Nat→Value} {d:Option Nat} {ty:TypeId} {pos:String} {af:Array Edge} {g:Option (Nat×Bool)} {F:Nat→Prop} {w:World} {μ μ0:lF} {L:List (Nat×Obj)}
theorem sQ.mono {α β:Type} {fv:Value} {d:α→List Value} {i:β→Value} {pm:α→Option β} (h:sQ P fv μ d i pm) (p:lz μ μ0):sQ P fv μ0 d i pm:=by
 obtain ⟨f,first,caps,h1,j,n⟩:=h
 exact ⟨f,first,caps,h1,j,λW x r h=>n W x r (p.trans h)⟩
theorem DR {α β:Type} {K:Value→World→Prop} {fv:Value} {j:α→List Value} {q:β→Value} {pm:α→Option β} {n:Operand} {ax:Array Operand} {ats:Array TypeId} (x:α) {r:β} (i:ST false F w W μ L) (A:sQ P fv μ0 j q pm) (I:lz μ0 μ) (G:kW E n=fv) (ha:ax.map (kW E)++(#[]:Array Value)=(j x).toArray) (hm:pm x=some r) (h:∀W',ST false F w W' μ L→K (q r) W'):pf P E ⟨d,.call ⟨.value n,ax,ats⟩,ty,pos,af,g⟩ W K:=by
 obtain ⟨f,first,caps,rfl,s,u⟩:=A
 have p:ax.map (kW E)=(j x).toArray:=by simpa using ha
 refine .inr (.inr ⟨f,(first.toList++(j x++caps.toList)).toArray,?_,dI (u W x r (I.trans i.kG) hm) (λ_ _ ⟨v,z⟩=>⟨_,v,h _ (i.Ij z)⟩)⟩)
 show (do let d ←resolve (kW E) ⟨.value n,ax,ats⟩ ty; invoke d.target d.args:Sem Next).run P W=_
 simp only [resolve,G,Deferred.ofValue,cL,dS,bR,invoke,p,s]
 congr 2
 simp
end
end Go.Proofs.YtjjjihkifgdhgaaGreatDoor
namespace Go.Proofs.YtjjjihkifgdhgaaGreatDoor
open Go.RowKit
variable {dd:Bool}
def DI (A:List (Nat×Obj)):lF:=λb=>(A.find? (λp=>p.1==b)).map (·.2)
theorem nZ {A:List (Nat×Obj)} {W:World} (h:∀b o,(b,o)∈A→W.heap[b]? =some o):∀b o,DI A b=some o→W.heap[b]? =some o:=λb o hb=>by
 unfold DI at hb
 cases d:A.find? (λp=>p.1==b) with
 | none=>rw [d] at hb; cases hb
 | some p=>
  rw [d] at hb
  cases hb
  have h1:=List.mem_of_find?_eq_some d
  have i:=List.find?_some d
  simp at i
  subst i
  exact h _ _ h1
theorem At.of {M:lF} {b:Nat} {cs:Array Value} {T:TypeId} {fr:Nat×Nat} (h:M b=some (.cells cs T fr)) (ys:List Value) (i:cs.toList=ys):At M (.pointer (some ⟨b,0,none⟩)) ys :=
 ⟨b,0,cs,T,fr,rfl,h,λj y d=>by subst i; simpa using d⟩
section
variable {F:Nat→Prop} {w W W':World} {μ μ':lF} {L L0 L1 L2:List (Nat×Obj)}
theorem ST.M3 (h:ST dd F w W μ L) (d:L.Perm (L0++L2)):∀b o,(b,o)∈L2→vL W L0 b=some o:=λb o hb=>by
 have h1:=(h.perm d).at_ (gA _ hb)
 unfold vL
 rw [cI (Gv (h.perm d).nd hb)]
 exact h1
theorem ST.held (h:ST dd F w W μ L) (d:L.Perm (L0++L2)):F5 L0 W:=λb o hb=>((h.perm d).box b o (dK _ hb)).1
theorem ST.Sh (h:ST dd F w W μ L) (d:L.Perm (L0++L2)):(L0.map (·.1)).Nodup:=by
 have:=(h.perm d).nd
 rw [cP] at this
 exact (cW.1 this).1
theorem ST.SU (h:ST dd F w W μ L) (d:L.Perm (L0++L2)):lz μ (vL W L0):=(h.perm d).ni (λ_ hp=>dK _ hp)
end
section
variable {P:Program} {E:Nat→Value} {W:World} {d:Option Nat} {ty:TypeId} {pos:String} {af:Array Edge} {g:Option (Nat×Bool)}
 {F:Nat→Prop} {w:World} {μ:lF} {L:List (Nat×Obj)}
theorem RA {K:Value→World→Prop} {K':Value→List (Nat×Obj)→World→Prop} {f:FuncId} {fv:Operand} {ax:Array Operand} {ats:Array TypeId} {caps:Array Value} {args:List Value} (L0 L2:List (Nat×Obj)) (i:ST dd F w W μ L) (j:L.Perm (L0++L2)) (s:kW E fv= .func (.func f) #[] caps) (he:∀args w,(callFunc f args).run P w= .ok (.enter f args) w) (ha:ax.map (kW E)++(#[]:Array Value)=args.toArray) (r:F5 L0 W→(L0.map (·.1)).Nodup→lz μ (vL W L0)→(∀b o,(b,o)∈L2→vL W L0 b=some o)→mz dd P f (args++caps.toList) W L0 K') (h:∀W' v μ' L1,ST dd F w W' μ' (L1++L2)→lz μ μ'→Lo F w μ μ'→(∀b,W.heap.size≤b→∀o,vL W' L1 b=some o→μ' b=some o)→K' v L1 W'→K v W'):pf P E ⟨d,.call ⟨.value fv,ax,ats⟩,ty,pos,af,g⟩ W K:=by
 have n:ax.map (kW E)=args.toArray:=by simpa using ha
 refine D1 (args:=(args++caps.toList).toArray) s he (by rw [n]; simp) (dI (r (i.held j) (i.Sh j) (i.SU j) (i.M3 j)) (λ_ W' ⟨v,L1,h1,p,q⟩=>⟨v,h1,h W' v _ L1 ((i.perm j).back p) ((i.perm j).Ji W' L1) ((i.perm j).Ls W' L1) ?_ q⟩))
 intro b hb o u
 unfold Dh
 rw [cI (by omega)]
 exact u
theorem GH {K:Value→World→Prop} {f:FuncId} {fv:Operand} {ax:Array Operand} {ats:Array TypeId} {caps:Array Value} {args:List Value} {v:Value} (i:ST dd F w W μ L) (r:kW E fv= .func (.func f) #[] caps) (he:∀args w,(callFunc f args).run P w= .ok (.enter f args) w) (ha:ax.map (kW E)++(#[]:Array Value)=args.toArray) (q:la dd P f (args++caps.toList) W v) (h:∀W',ST dd F w W' μ L→K v W'):pf P E ⟨d,.call ⟨.value fv,ax,ats⟩,ty,pos,af,g⟩ W K:=by
 have j:ax.map (kW E)=args.toArray:=by simpa using ha
 exact D1 (args:=(args++caps.toList).toArray) r he (by rw [j]; simp) (dI q (λ_ _ ⟨n,p⟩=>⟨_,n,h _ (i.Ij p)⟩))
theorem Sl.lift {α:Type} {enc:α→List Value} {k:Nat} {M μ':lF} {B:Nat} {v:Value} {l:List α} (h:Sl (Pl enc) k M v l) (s:Fr B v) (r:∀b,B≤b→∀o,M b=some o→μ' b=some o):Sl (Pl enc) k μ' v l:=by
 obtain ⟨A,c,h1,i,j,n⟩:=h
 refine ⟨A,c,h1,i,j,λu=>?_⟩
 obtain ⟨b,off,cs,T,fr,d,p,q⟩:=n u
 exact ⟨b,off,cs,T,fr,d,r b (s b (by rw [h1,d]; rfl)) _ p,q⟩
theorem Ht {t:TypeId} (dd:Nat) {s u:Array TypeId} {b:Bool} (d:P.underlying t=some (.func s u b)) (f:Fn) (a c:Array Value) (W:World):(Op.equalIn (dd+1) t (.func f a c) .nilFunc).run P W= .ok false W:=by
 simp [Op.equalIn,bF d]
end
def J7 {κ β:Type} (beq:κ→κ→Bool) (l:List (κ×β)) (k:κ) (z:β):β:=(qE beq l k).getD z
section
variable {P:Program} {W:World} {κ β:Type} {kt:TypeId} {kenc:κ→Value} {beq:κ→κ→Bool} {vf:β→Value} {E:Nat→Value} {d:Option Nat} {ty:TypeId} {pos:String} {af:Array Edge} {g:Option (Nat×Bool)} {F:Nat→Prop} {w:World} {μ:lF} {L R:List (Nat×Obj)} {v:Value} {left:List (κ×β)}
theorem Je {t e:TypeId} {m x:Operand} {i:Value} {l:List (κ×β)} {k:κ} {z:β} (K:uy P kt kenc beq) (n:P.underlying t=some (.map kt e)) (q:∀w,(zeroValue e).run P w= .ok (vf z) w) (hm:kW E m=i) (p:kW E x=kenc k) (j:Am kenc vf (hp W) i l) :
  nt P E ⟨d,.lookup t m x false,ty,pos,af,g⟩ W (vf (J7 beq l k z)) W:=by
 have:=Ko (d:=d) (ty:=ty) (pos:=pos) (af:=af) (g:=g) K n q hm p j
 rw [J7]
 cases h:qE beq l k with
 | none=>rw [h] at this; exact this
 | some y=>rw [h] at this; exact this
theorem nI.one {d:Value} {l:List (κ×β)} (h:nI kenc vf d l R):d.oneCell'=true:=by obtain ⟨m,es,clock,rfl,_⟩:=h; rfl
theorem nI.form {d:Value} {l:List (κ×β)} (h:nI kenc vf d l R):∃m,d= .map (some m):=by obtain ⟨m,es,clock,rfl,_⟩:=h; exact ⟨m,rfl⟩
theorem nI.nd {d:Value} {l:List (κ×β)} (h:nI kenc vf d l R):(R.map (·.1)).Nodup:=by obtain ⟨m,es,clock,rfl,rfl,_⟩:=h; simp
end
def qp {α:Type} (l:List α) (i:Nat) (z:α):List α:=l.take i++List.replicate (l.length-i) z
theorem wU {α:Type} (l:List α) (i:Nat) (z:α) (h:i≤l.length):(qp l i z).length=l.length:=by simp [qp]; omega
theorem Hn {α:Type} (l:List α) (i:Nat) (z:α) (h:i≤l.length):(qp l i z).take i=l.take i:=by
 simp only [qp]
 rw [gN,eE (by simp; omega)]
 simp; omega
end Go.Proofs.YtjjjihkifgdhgaaGreatDoor
namespace Go.Proofs.YtjjjihkifgdhgaaGreatDoor
open Go.RowKit
theorem JG {P:Program} {cs:Array Value} {b:Bool} {n:Nat} {W:World}:∀(l:List Field),
  (∀f∈l,f.name≠ "_"→∃v,(part f.type cs f.offset).run P W= .ok v W∧(Instr.checkKey b n f.type v).run P W= .ok () W)→
  ((forIn l PUnit.unit λf (_:PUnit)=>do
   if f.name≠ "_" then Instr.checkKey b n f.type (←part f.type cs f.offset)
   pure (ForInStep.yield PUnit.unit)):Sem PUnit).run P W= .ok PUnit.unit W
 | [],_=>by simp
 | f::l,h=>by
  have ih:=JG l (λf j=>h f (gF _ j))
  simp only [List.forIn_cons,cL]
  by_cases d:f.name≠ "_"
  ·obtain ⟨v,h1,i⟩:=h f (by simp) d
   simp only [cE d,cL,h1,bR,i,dS]
   exact ih
  ·simp only [cI d,cL,dS,bR]
   exact ih
theorem Iz {P:Program} {kt:TypeId} {fs:Array Field} {l:List Field} {cs:Array Value} {b:Bool} {n:Nat} {W:World} (i:P.underlying kt=some (.struct fs)) (d:fs.toList=l) (h:∀f∈l,f.name≠ "_"→∃v,(part f.type cs f.offset).run P W= .ok v W∧(Instr.checkKey b n f.type v).run P W= .ok () W):(Instr.checkKey b (n+1) kt (.agg cs)).run P W= .ok () W:=by
 obtain ⟨fs⟩:=fs
 subst d
 simp only [Instr.checkKey,cL,bF i,bR,List.forIn_toArray]
 have:=JG (P:=P) (cs:=cs) (b:=b) (n:=n) (W:=W) fs h
 simp only [cL] at this
 first | rw [this]; rfl | simpa using this
variable {dd:Bool}
def wy (b:Bool):Option Unit:=if b=true then some () else none
theorem Ku {b:Bool} {u:Unit} (h:wy b=some u):b=true:=by
 unfold wy at h; split at h
 ·assumption
 ·cases h
theorem ym {a c:Int} {u:Unit} (h:wy (decide (0≤a)&&decide (a≤c))=some u):0≤a:=by have:=Ku h; simp at this; exact this.1
theorem yb {a c:Int} {u:Unit} (h:wy (decide (0≤a)&&decide (a≤c))=some u):a≤c:=by have:=Ku h; simp at this; exact this.2
def BP (k:Nat) (v:Value) (i:Nat) (u:Value):Prop:=∃A n c A' d,v= .slice A n c∧u= .slice A' (n-i) d∧i≤n∧(i < n→∃b o,A=some ⟨b,o,none⟩∧A'=some ⟨b,o+i*k,none⟩)
section
variable {P:Program} {E:Nat→Value} {W:World} {d:Option Nat} {ty:TypeId} {pos:String} {af:Array Edge} {g:Option (Nat×Bool)}
 {F:Nat→Prop} {w:World} {μ:lF} {L:List (Nat×Obj)} {α:Type} {e':TypeId} {enc:α→List Value} {k:Nat} {v:Value} {l:List α} {R:List (Nat×Obj)}
theorem Be {t e:TypeId} {x j:Operand} {I:IntKind} {i:Int} (r:P.underlying t=some (.slice e)) (he:∀w,(sizeOf e).run P w= .ok k w) (s:kW E x=v) (p:kW E j= .int I i) (h:lm e' enc k v l R) (A:0≤i) (q:i≤l.length) :
  ∃u,BP k v i.toNat u∧∀W,nt P E ⟨d,.slice t x (some j) none none,ty,pos,af,g⟩ W u W:=by
 rcases h with ⟨rfl,rfl,rfl⟩ | ⟨n,cap,z,rfl,rfl,h1,J,L,M⟩
 ·have:i=0:=by simp at q; omega
  subst this
  refine ⟨.slice none 0 0,⟨none,0,0,none,0,rfl,rfl,aQ _,λh=>absurd h (by simp)⟩,λW=>?_⟩
  show (do pure (.value (←Instr.sliceAt t (kW E x) (some (kW E j)) none none)):Sem Next).run P W=_
  rw [s,p]
  simp [Instr.sliceAt,Instr.slice,Instr.sliceBounds,Instr.sliceBound,asIntOf,bF r,he W]
 ·refine ⟨.slice (some (if cap=i.toNat then ⟨n,0,none⟩ else (Addr.add ⟨n,0,none⟩ (i.toNat*k)))) (l.length-i.toNat) (cap-i.toNat),⟨_,_,_,_,_,rfl,rfl,by omega,λG=>⟨n,0,rfl,?_⟩⟩,λW=>?_⟩
  ·rw [cI (by omega)]; simp [dR]
  ·show (do pure (.value (←Instr.sliceAt t (kW E x) (some (kW E j)) none none)):Sem Next).run P W=_
   rw [s,p]
   have hb:0≤i∧i≤(l.length:Int):=⟨A,q⟩
   simp [Instr.sliceAt,Instr.slice,Instr.sliceBounds,Instr.sliceBound,asIntOf,bF r,he W,hb]
   split <;> rfl
theorem CE {i j:Nat} {x0:α} (h:(l.drop i)[j]? =some x0):l[i+j]? =some x0:=by rwa [eP] at h
theorem Jk {t e:TypeId} {x:Operand} {u:Value} {i:Nat} (q:P.underlying t=some (.slice e)) (r:kW E x=u) (hu:BP k v i u) (h:lm e' enc k v l R):nt P E ⟨d,.call ⟨.builtin .len,#[x],#[t]⟩,ty,pos,af,g⟩ W (.int .i64 ((l.length-i:Nat):Int)) W:=by
 obtain ⟨A,n,c,A',s,h1,p,z,_⟩:=hu
 subst p
 have:n=l.length:=by
  rcases h with ⟨rfl,rfl,rfl⟩ | ⟨w,cap,j,rfl,rfl,_⟩
  ·cases h1; rfl
  ·cases h1; rfl
 subst this
 exact Es q r
theorem Bj {t e:TypeId} {x r:Operand} {U:IntKind} {i:Int} {x0:α} {u:Value} {o:Nat} (Q:P.underlying t=some (.slice e)) (he:∀w,(sizeOf e).run P w= .ok k w) (T:kW E x=u) (M:kW E r= .int U i) (h:lm e' enc k v l R) (hu:BP k v o u) (J:0≤i) (O:(l.drop o)[i.toNat]? =some x0) :
  ∃p,CQ R k p (o+i.toNat)∧∀W,nt P E ⟨d,.indexAddr t x r,ty,pos,af,g⟩ W p W:=by
 have j:=CE O
 have q:o+i.toNat < l.length:=(bK.1 j).1
 rcases h with ⟨rfl,rfl,rfl⟩ | ⟨I,cap,s,rfl,rfl,h1,Z,h3,h4⟩
 ·simp at q
 obtain ⟨A,n,c,A',Y,z,rfl,h7,L⟩:=hu
 cases z
 obtain ⟨b,oo,G,rfl⟩:=L (by omega)
 cases G
 refine ⟨.pointer (some ⟨I,(o+i.toNat)*k,none⟩),⟨_,_,rfl,rfl⟩,λW=>?_⟩
 show (do pure (.value (←Instr.indexAt t (kW E x) (kW E r))):Sem Next).run P W=_
 rw [T,M]
 have hb:0≤i∧i < ((l.length-o:Nat):Int):=⟨J,by omega⟩
 simp [Instr.indexAt,asIntOf,bF Q,he W,hb,dR,dF]
theorem IV (ys:List Value) (m:Nat):(Builtin.zeroCells ys.toArray m).toList=(List.replicate m ys).flatten:=by
 unfold Builtin.zeroCells
 simp only [Array.toList_map,Array.toList_range,dZ]
 rcases eQ ys.length with d | d
 ·have:ys=[]:=fF.1 d
  subst this
  simp
 apply gE
 intro q
 by_cases j:q < m*ys.length
 ·have h1:q / ys.length < m:=(iX d).2 j
  have i:q % ys.length < ys.length:=Nat.mod_lt _ d
  have:=xS (enc:=λ_:Unit=>ys) (λ_=>rfl) (List.replicate m ()) (q / ys.length) () (by simp [h1]) (q % ys.length) ys[q % ys.length] (by simp [i])
  rw [Nat.div_add_mod' q ys.length] at this
  rw [List.map_replicate] at this
  rw [this]
  simp [j,i]
 ·rw [hU (by simp; omega),hU (by simp; omega)]
theorem Mi {K:Value→World→Prop} (z:α) (X:List (Nat×Obj)) {Y:List (Nat×Obj)} {t e:TypeId} {x:Operand} {u zv:Value} {i:Nat} (q:ST dd F w W μ (X++(R++Y))) (h:lm e' enc k v l R) (hk:∀x,(enc x).length=k) (h1:∀x,∀u∈enc x,u.oneCell'=true) (T:P.underlying t=some (.slice e)) (hz:∀w,(zeroValue e).run P w= .ok zv w) (hu:BP k v i u) (hc:zv.cells=(enc z).toArray) (hx:kW E x=u) (O:∀W' R',ST dd F w W' μ (X++(R'++Y))→lm e' enc k v (qp l i z) R'→K (.tuple #[]) W'):pf P E ⟨d,.call ⟨.builtin .clear,#[x],#[t]⟩,ty,pos,af,g⟩ W K:=by
 have p:∀(W':World),(Builtin.clear_ #[t] ty #[u]).run P W= .ok (.tuple #[]) W'→(execOp (kW E) ⟨d,.call ⟨.builtin .clear,#[x],#[t]⟩,ty,pos,af,g⟩).run P W= .ok (.value (.tuple #[])) W':=by
  intro W' hV
  show (do let d ←resolve (kW E) ⟨.builtin .clear,#[x],#[t]⟩ ty; invoke d.target d.args:Sem Next).run P W=_
  simp [resolve,invoke,builtin,hx,hV]
 obtain ⟨A,n,c,A',c',e1,rfl,I,h8⟩:=hu
 rcases h with ⟨rfl,rfl,rfl⟩ | ⟨s,cap,j,rfl,rfl,q1,q2,L,q4⟩
 ·cases e1
  refine .inl ⟨_,W,p W ?_,O W [] q (by simpa [qp] using lm.nil e' enc k)⟩
  simp only [Builtin.clear_,Nat.zero_sub]
  cases A' <;> simp [bF T]
 ·cases e1
  by_cases hi:i < l.length
  ·obtain ⟨b,o,e2,rfl⟩:=h8 hi
   cases e2
   have Z:∀m,(Builtin.zeroCells zv.cells m).toList=(List.replicate m (enc z)).flatten:=by
    intro m
    rw [hc]; exact IV _ _
   have hb:=(q.box s (.cells j e' (0,0)) (by simp)).1
   have hle:i*k+(l.length-i)*k=l.length*k:=by rw [←dF]; congr 1; omega
   have hlen:l.length*k≤c*k:=dA _ q1
   have r:((List.replicate (l.length-i) (enc z)).flatten).length=(l.length-i)*k:=by simp [hk]
   have G:∀v∈(List.replicate (l.length-i) (enc z)).flatten,v.oneCell'=true:=by
    intro v J
    obtain ⟨ys,U,J⟩:=jL.1 J
    rw [(List.mem_replicate.1 U).2] at J
    exact h1 z v J
   have hs:=jz (P:=P) s (i*k) e' ((List.replicate (l.length-i) (enc z)).flatten) 0 j W hb (by rw [r,L]; omega) G
   rw [jT,r,hle] at hs
   refine .inl ⟨_,W.setRow s (j.toList.take (i*k)++(List.replicate (l.length-i) (enc z)).flatten++j.toList.drop (l.length*k)).toArray,p _ ?_,O _ [(s,.cells (j.toList.take (i*k)++(List.replicate (l.length-i) (enc z)).flatten++j.toList.drop (l.length*k)).toArray e' (0,0))] (q.store _) (.inr ⟨s,c,_,by rw [wU _ _ _ I],rfl,by rw [wU _ _ _ I]; exact q1,q2,?_,?_⟩)⟩
   ·have hn:l.length-i=(l.length-i-1)+1:=by omega
    simp only [Builtin.clear_]
    rw [hn]
    simp only [bF T,cL,bR,iW,List.getElem?_cons_zero,hz,gG]
    rw [←hn,Z,hs]
    simp
   ·have M:j.toList.length=c*k:=by simpa using L
    rw [dZ,aC,aC,dL,iu,r,M,eG (by omega)]
    omega
   ·rw [wU _ _ _ I,qp,cP,bP,FU hk l i I,←q4,iL,eG (by omega),List.map_replicate]
    have M:j.toList.length=c*k:=by simpa using L
    have e3:(j.toList.take (i*k)++(List.replicate (l.length-i) (enc z)).flatten).length=l.length*k:=by rw [aC,dL,r,M,eG (by omega)]; omega
    show List.take (l.length*k) (j.toList.take (i*k)++(List.replicate (l.length-i) (enc z)).flatten++j.toList.drop (l.length*k))=_
    rw [gN,eE (by rw [e3]; exact aQ _),e3,Nat.sub_self]
    simp
  ·have Q:i=l.length:=by omega
   subst Q
   refine .inl ⟨_,W,p W ?_,O W _ q ?_⟩
   ·simp only [Builtin.clear_,Nat.sub_self]
    cases A' <;> simp [bF T]
   ·simp only [qp,List.take_length,Nat.sub_self,List.replicate_zero,bB]
    exact .inr ⟨s,c,j,rfl,rfl,q1,q2,L,q4⟩
end
end Go.Proofs.YtjjjihkifgdhgaaGreatDoor
namespace Go.Proofs.YtjjjihkifgdhgaaGreatDoor
open Go.RowKit
variable {dd:Bool}
section
variable {P:Program} {E:Nat→Value} {W:World} {d:Option Nat} {ty:TypeId} {pos:String} {af:Array Edge} {g:Option (Nat×Bool)}
 {F:Nat→Prop} {w:World} {μ:lF} {L:List (Nat×Obj)}
theorem J6 {K:Value→World→Prop} {f:FuncId} {fv:Operand} {ax:Array Operand} {ats:Array TypeId} {args:List Value} {v:Value} (j:kW E fv= .func (.func f) #[] #[]) (ha:ax.map (kW E)++(#[]:Array Value)=args.toArray) (n:(callFunc f args.toArray).run P W= .ok (.value v) W) (h:K v W):pf P E ⟨d,.call ⟨.value fv,ax,ats⟩,ty,pos,af,g⟩ W K:=by
 have i:ax.map (kW E)=args.toArray:=by simpa using ha
 refine .inl ⟨v,W,?_,h⟩
 show (do let d ←resolve (kW E) ⟨.value fv,ax,ats⟩ ty; invoke d.target d.args:Sem Next).run P W=_
 simp only [resolve,j,Deferred.ofValue,cL,dS,bR,invoke]
 rw [i]
 simpa using n
def yn (s:ByteArray) (c:Int):Int:=Lib.indexByte s.data.toList c.toNat.toUInt8
def vD (a b:ByteArray):Int:=Lib.compareBytes a.data.toList b.data.toList
def wz (l:List Int):List UInt8:=l.map λx=>x.toNat.toUInt8
def zq (a b:List Int):Int:=Lib.compareBytes (wz a) (wz b)
theorem IK {f:FuncId} {fn:Func} (i:P.funcs[f]? =some fn) (d:(fn.name== "runtime.NumGoroutine")=false) (hb:fn.body.isNone=true) (j:Extern.findNext fn=none) (he:Extern.find fn=some Extern.BytealgIndexByte.indexByte) (s:ByteArray) (c:Int) (w:World) :
  (callFunc f [Value.string s,.int .u8 c].toArray).run P w= .ok (.value (.int .i64 (yn s c))) w:=by
 rw [iC i d hb j he]
 rw [Lib.run_indexByteString]
 rfl
theorem Pt {f:FuncId} {fn:Func} (i:P.funcs[f]? =some fn) (d:(fn.name== "runtime.NumGoroutine")=false) (hb:fn.body.isNone=true) (j:Extern.findNext fn=none) (he:Extern.find fn=some Extern.BytealgCompare.compare) (a b:ByteArray) (w:World) :
  (callFunc f [Value.string a,.string b].toArray).run P w= .ok (.value (.int .i64 (vD a b))) w:=by
 rw [iC i d hb j he]
 rw [Lib.run_compareString]
 rfl
theorem Fm {v:Value} {l:List Int} (h:Sl (Pl (lP .u8)) 1 (hp W) v l):(Extern.Bytes.bytesOf v).run P W= .ok ⟨(wz l).toArray⟩ W:=by
 obtain ⟨A,c,rfl,u,w,p⟩:=h
 rcases eQ l.length with d | d
 ·have:l=[]:=fF.1 d
  subst this
  cases A <;> simp [Extern.Bytes.bytesOf,Extern.Bytes.loadBytes,wz] <;> rfl
 ·obtain ⟨b,off,cs,T,fr,rfl,q,r⟩:=p d
  have:=Lib.run_loadBytesX (P:=P) W l ⟨b,off,none⟩ .empty (λj x s=>by
   obtain ⟨ys,_,n,i⟩:=r j x s
   cases n
   rw [dR,gD W b (off+j) cs T fr q]
   have:=i 0 (.int .u8 x) rfl
   simpa using this)
  simp only [Extern.Bytes.bytesOf]
  rw [this]
  congr 1
  apply iE
  show (#[]:Array UInt8)++_=_
  simp [Lib.bytesOf,wz]
theorem Qn {f:FuncId} {fn:Func} (p:P.funcs[f]? =some fn) (d:(fn.name== "runtime.NumGoroutine")=false) (hb:fn.body.isNone=true) (q:Extern.findNext fn=none) (he:Extern.find fn=some Extern.BytealgCompare.compare) {i j:Value} {a b:List Int} (h1:Sl (Pl (lP .u8)) 1 (hp W) i a) (n:Sl (Pl (lP .u8)) 1 (hp W) j b) :
  (callFunc f [i,j].toArray).run P W= .ok (.value (.int .i64 (zq a b))) W:=by
 rw [iC p d hb q he]
 have:(Extern.BytealgCompare.compare [i,j].toArray).run P W= .ok (.int .i64 (zq a b)) W:=by
  change Sem.run P (do pure (goInt (Extern.BytealgCompare.cmp (←Extern.Bytes.bytesOf i) (←Extern.Bytes.bytesOf j)))) W=_
  simp only [cL,Fm h1,Fm n,dS,Result.andThen]
  rw [Lib.cmp_eq]
  rfl
 rw [this]
 rfl
theorem qz {fn:Fn} {caps:Array Operand} {cs:List Value} {v:Value} (i:caps.map (kW E)++(#[]:Array Value)=cs.toArray) (j:.func fn #[] cs.toArray=v):nt P E ⟨d,.makeFunc fn #[] caps,ty,pos,af,g⟩ W v W:=by
 have:caps.map (kW E)=cs.toArray:=by simpa using i
 exact NB (by rw [this]; simpa using j)
theorem mz.mono {f:FuncId} {args:List Value} {L0:List (Nat×Obj)} {K K':Value→List (Nat×Obj)→World→Prop} (h:mz dd P f args w L0 K) (hk:∀v L1 W',K v L1 W'→K' v L1 W'):mz dd P f args w L0 K' :=
 dI h (λ_ _ ⟨v,L1,h1,d,i⟩=>⟨v,L1,h1,d,hk _ _ _ i⟩)
end
section
variable {α:Type}
def ub (cf:α×α→Option Int) (x y:α):Bool:=match cf (x,y) with
 | some c=>decide (c < 0)
 | none=>false
structure Cg (cf:α×α→Option Int) (l:List α):Prop where
 is:∀x∈l,∀y∈l,∃c,cf (x,y)=some c
 irrefl:∀x∈l,ub cf x x=false
 trans:∀x∈l,∀y∈l,∀z∈l,ub cf x y=true→ub cf y z=true→ub cf x z=true
 total:∀x∈l,∀y∈l,ub cf x y=false→ub cf y x=false→x=y
 short:l.length < 4611686018427387904
def sT (cf:α×α→Option Int) (l:List α):List α:=l.mergeSort λx y=>!ub cf y x
open Classical in
noncomputable def Dn (cf:α×α→Option Int) (l:List α):Option (List α) :=
 match l with
 | []=>some []
 | [x]=>(cf (x,x)).bind λc=>if c < 0 then none else some [x]
 | l=>if Cg cf l then some (sT cf l) else none
theorem Nt {cf:α×α→Option Int}:Cg cf ([]:List α):=⟨λx h=>(by cases h),λx h=>(by cases h),λx h=>(by cases h),λx h=>(by cases h),by simp⟩
theorem NQ {cf:α×α→Option Int} {x:α} {c:Int} (h:cf (x,x)=some c) (i:¬c < 0):Cg cf [x] where
 is a ha b hb:=by rw [bH.1 ha,bH.1 hb]; exact ⟨c,h⟩
 irrefl a ha:=by rw [bH.1 ha]; simp [ub,h,i]
 trans a ha b hb d j h1 _:=by rw [bH.1 ha,bH.1 hb] at h1; simp [ub,h,i] at h1
 total a ha b hb _ _:=by rw [bH.1 ha,bH.1 hb]
 short:=by simp
theorem Of {cf:α×α→Option Int} {l r:List α} (h:Dn cf l=some r):Cg cf l∧r=sT cf l:=by
 unfold Dn at h
 split at h
 ·cases h; exact ⟨Nt,by simp [sT]⟩
 ·rename_i x
  cases i:cf (x,x) with
  | none=>rw [i] at h; cases h
  | some c=>
   rw [i,aA] at h
   by_cases d:c < 0
   ·rw [cE d] at h; cases h
   ·rw [cI d] at h; cases h; exact ⟨NQ i d,by simp [sT]⟩
 ·split at h
  ·rename_i j; cases h; exact ⟨j,rfl⟩
  ·cases h
theorem QF {cf:α×α→Option Int} {l:List α} (h:Cg cf l):Dn cf l=some (sT cf l):=by
 unfold Dn
 split
 ·simp [sT]
 ·rename_i x
  obtain ⟨c,i⟩:=h.is x (by simp) x (by simp)
  have d:=h.irrefl x (by simp)
  rw [i,aA]
  simp only [ub,i,gO] at d
  rw [cI d]; simp [sT]
 ·rw [cE h]
end
end Go.Proofs.YtjjjihkifgdhgaaGreatDoor
namespace Go.Proofs.YtjjjihkifgdhgaaGreatDoor
open Go.RowKit
theorem zT {P:Program} {t e:TypeId} {n k:Nat} {z cs:Array Value} {d:Array (Nat×Value)} (r:∀w,(zeroValue t).run P w= .ok (.agg z) w) (q:P.underlying t=some (.array n e)) (p:∀w,(sizeOf e).run P w= .ok k w) (j:Instr.fill (λi=>some (i*k,k)) z d.toList=some cs) (W:World):(Instr.build t d).run P W= .ok (.agg cs) W:=by
 simp only [Instr.build,cL,r W,bR,bF q,Value.cells,p W]
 simp only [j,dS]
theorem Hh {P:Program} {W:World} (d:Nat) (e:TypeId) (c:Nat) (xs ys:Array Value):(Op.eqItems d e c xs ys []).run P W= .ok true W:=by simp [Op.eqItems]
theorem Ah {P:Program} {W:World} {d:Nat} {e:TypeId} {c:Nat} {xs ys:Array Value} {i:Nat} {is:List Nat} {a b:Value} {r s:Bool} (ha:(part e xs (i*c)).run P W= .ok a W) (hb:(part e ys (i*c)).run P W= .ok b W) (he:(Op.equalIn d e a b).run P W= .ok r W) (h:(Op.eqItems d e c xs ys is).run P W= .ok s W):(Op.eqItems d e c xs ys (i::is)).run P W= .ok (r&&s) W:=by
 simp only [Op.eqItems,cL,ha,hb,he,bR]
 cases r <;> simp [h]
theorem H4 {P:Program} {W:World} {d:Nat} {t e:TypeId} {n c:Nat} {i:TypeInfo} {xs ys:Array Value} {r:Bool} (hu:P.underlying t=some (.array n e)) (p:P.info? e=some i) (j:P.cellsOf e=c) (h:(Op.eqItems d e c xs ys (List.range n)).run P W= .ok r W):(Op.equalIn (d+1) t (.agg xs) (.agg ys)).run P W= .ok r W:=by
 rw [run_equalIn_array W d xs ys hu p,j,h]
variable {dd:Bool}
def yC {κ γ:Type} (Q:Value→γ→List (Nat×Obj)→Prop):List (κ×Value)→List (κ×γ)→List (Nat×Obj)→Prop
 | [],[],R=>R=[]
 | p::d,q::l,R=>p.1=q.1∧∃R1 R2,R=R1++R2∧Q p.2 q.2 R1∧yC Q d l R2
 | _,_,_=>False
def pI {κ γ:Type} (kenc:κ→Value) (Q:Value→γ→List (Nat×Obj)→Prop) (v:Value) (j:List (κ×Value)) (l:List (κ×γ)) (R:List (Nat×Obj)):Prop :=
 ∃d i,R=d++i∧nI kenc (λx=>x) v j d∧yC Q j l i
section
variable {κ γ:Type} {Q:Value→γ→List (Nat×Obj)→Prop} {beq:κ→κ→Bool} {kenc:κ→Value}
theorem yC.keys:∀{d:List (κ×Value)} {l:List (κ×γ)} {R:List (Nat×Obj)},yC Q d l R→d.map (·.1)=l.map (·.1)
 | [],[],_,_=>rfl
 | [],_::_,_,h=>h.elim
 | _::_,[],_,h=>h.elim
 | p::d,q::l,R,h=>by
  obtain ⟨h1,R1,R2,_,_,i⟩:=h
  simp [h1,yC.keys i]
theorem yC.find {d:List (κ×Value)} {l:List (κ×γ)} {R:List (Nat×Obj)} (h:yC Q d l R) (k:κ):d.findIdx? (λp=>beq k p.1)=l.findIdx? (λp=>beq k p.1):=by
 have h1:(d.map (·.1)).findIdx? (λx=>beq k x)=(l.map (·.1)).findIdx? (λx=>beq k x):=by rw [h.keys]
 rw [jB,jB] at h1
 exact h1
theorem yC.get:∀{n:List (κ×Value)} {l:List (κ×γ)} {R:List (Nat×Obj)},yC Q n l R→∀(i:Nat) (k:κ) (x:γ),l[i]? =some (k,x)→
  ∃v A R1 B,n[i]? =some (k,v)∧R=A++(R1++B)∧Q v x R1∧∀j v2 x2 R2,Q v2 x2 R2→yC Q (n.set i (j,v2)) (l.set i (j,x2)) (A++(R2++B))
 | [],[],_,_,i,k,x,d=>by simp at d
 | [],_::_,_,h,_,_,_,_=>h.elim
 | _::_,[],_,h,_,_,_,_=>h.elim
 | p::n,q::l,R,h,0,k,x,d=>by
  obtain ⟨h1,R1,R2,rfl,r,s⟩:=h
  simp at d
  subst d
  refine ⟨p.2,[],R1,R2,by simp only [List.getElem?_cons_zero]; exact bO some (Prod.ext h1 rfl),rfl,r,λj v2 x2 R2' u=>⟨rfl,R2',R2,rfl,u,s⟩⟩
 | p::n,q::l,R,h,i+1,k,x,d=>by
  obtain ⟨h1,R1,R2,rfl,r,s⟩:=h
  simp at d
  obtain ⟨v,A,R1',B,g1,rfl,g3,g4⟩:=yC.get s i k x d
  exact ⟨v,R1++A,R1',B,by simpa using g1,by simp,g3,λj v2 x2 R2' u=>⟨h1,R1,A++(R2'++B),by simp,r,g4 j v2 x2 R2' u⟩⟩
theorem yC.push:∀{i:List (κ×Value)} {l:List (κ×γ)} {R:List (Nat×Obj)},yC Q i l R→∀(k:κ) {v:Value} {x:γ} {R1:List (Nat×Obj)},Q v x R1→yC Q (i++[(k,v)]) (l++[(k,x)]) (R++R1)
 | [],[],_,h,k,v,x,R1,d=>by
  have r:_=[]:=h
  subst r
  exact ⟨rfl,R1,[],by simp,d,rfl⟩
 | [],_::_,_,h,_,_,_,_,_=>h.elim
 | _::_,[],_,h,_,_,_,_,_=>h.elim
 | p::i,q::l,R,h,k,v,x,R1,d=>by
  obtain ⟨h1,j,n,rfl,s,u⟩:=h
  exact ⟨h1,j,n++R1,by simp,s,yC.push u k d⟩
theorem pI.found {G:Value} {q:List (κ×Value)} {l:List (κ×γ)} {R:List (Nat×Obj)} (hk:∀{x y:κ},beq x y=true→x=y) (h:pI kenc Q G q l R) {k:κ} {x:γ} (n:qE beq l k=some x) :
  ∃v A R1 B,qE beq q k=some v∧R=A++(R1++B)∧Q v x R1∧(∀x2 R2,Q v x2 R2→pI kenc Q G q (xj beq l k x2) (A++(R2++B))):=by
 obtain ⟨z,L,rfl,I,E⟩:=h
 rw [zh] at n
 cases r:l.findIdx? (λp=>beq k p.1) with
 | none=>rw [r] at n; cases n
 | some i=>
  rw [r] at n
  obtain ⟨p,hp,hb⟩:=yk r
  simp only [aA,hp,gC,iN] at n
  subst n
  have w:=hk hb
  obtain ⟨v,A,R1,B,g1,rfl,g3,g4⟩:=E.get i p.1 p.2 hp
  have s:q.findIdx? (λp=>beq k p.1)=some i:=by rw [E.find k,r]
  refine ⟨v,z++A,R1,B,by rw [zh,s]; simp [g1],by simp,g3,λx2 R2 J=>⟨z,A++(R2++B),by simp,I,?_⟩⟩
  have d:=g4 k v x2 R2 J
  have e:q.set i (k,v)=q:=by
   apply gE
   intro j
   rw [ib]
   split
   ·rename_i u
    subst u
    rw [g1,w]
    simp [(bK.1 g1).1]
   ·rfl
  rw [e] at d
  rw [xj,r]
  exact d
theorem pI.NN {r:Value} {n:List (κ×Value)} {l:List (κ×γ)} {R:List (Nat×Obj)} (h:pI kenc Q r n l R) {k:κ} (d:qE beq l k=none):qE beq n k=none:=by
 obtain ⟨s,u,rfl,v,q⟩:=h
 rw [zh] at d ⊢
 rw [q.find k]
 cases j:l.findIdx? (λp=>beq k p.1) with
 | none=>rfl
 | some i=>
  rw [j] at d
  obtain ⟨p,hp,hb⟩:=yk j
  simp [hp] at d
def ua (beq:κ→κ→Bool) (d:List (κ×Value)) (k:κ) (z:Value):Value:=(qE beq d k).getD z
variable {P:Program} {W:World} {kt:TypeId} {E:Nat→Value} {d:Option Nat} {ty:TypeId} {pos:String} {af:Array Edge} {g:Option (Nat×Bool)} {F:Nat→Prop} {w:World} {μ:lF} {L:List (Nat×Obj)}
theorem vV {t e:TypeId} {m x:Operand} {j z:Value} {i:List (κ×Value)} {l:List (κ×γ)} {R:List (Nat×Obj)} {k:κ} (K:uy P kt kenc beq) (s:P.underlying t=some (.map kt e)) (v:∀w,(zeroValue e).run P w= .ok z w) (hm:kW E m=j) (u:kW E x=kenc k) (q:pI kenc Q j i l R) (r:∀b o,(b,o)∈R→W.heap[b]? =some o):nt P E ⟨d,.lookup t m x false,ty,pos,af,g⟩ W (ua beq i k z) W:=by
 obtain ⟨A,G,rfl,n,I⟩:=q
 have p:=Ko (d:=d) (ty:=ty) (pos:=pos) (af:=af) (g:=g) K s v hm u (n.at (μ:=hp W) (λb o h=>r b o (dK _ h)))
 simpa [ua] using p
variable {κ2 β:Type} {kenc2:κ2→Value} {vf:β→Value} {beq2:κ2→κ2→Bool} {kt2:TypeId}
theorem pI.Q0 {n:Value} {i:List (κ×Value)} {l:List (κ×List (κ2×β))} {R:List (Nat×Obj)} (hk:∀{x y:κ},beq x y=true→x=y) (h:pI kenc (nI kenc2 vf) n i l R) (k:κ) {μ:lF} (j:∀b o,(b,o)∈R→μ b=some o) :
  Am kenc2 vf μ (ua beq i k (.map none)) ((qE beq l k).getD []):=by
 cases d:qE beq l k with
 | none=>rw [ua,h.NN d]; exact .inl ⟨rfl,rfl⟩
 | some x=>
  obtain ⟨v,A,R1,B,g1,rfl,g3,_⟩:=h.found hk d
  rw [ua,g1]
  exact g3.at (λb o hb=>j b o (by simp [hb]))
theorem pI.isNil {j:Value} {i:List (κ×Value)} {l:List (κ×List (κ2×β))} {R:List (Nat×Obj)} (hk:∀{x y:κ},beq x y=true→x=y) (h:pI kenc (nI kenc2 vf) j i l R) (k:κ) :
  ∃r,ua beq i k (.map none)= .map r∧r.isNone=(qE beq l k).isNone:=by
 cases d:qE beq l k with
 | none=>rw [ua,h.NN d]; exact ⟨none,rfl,rfl⟩
 | some x=>
  obtain ⟨v,A,R1,B,g1,rfl,g3,_⟩:=h.found hk d
  obtain ⟨m,es,clock,rfl,_⟩:=g3
  rw [ua,g1]
  exact ⟨_,rfl,rfl⟩
def NK {κ κ2 β:Type} (beq:κ→κ→Bool) (beq2:κ2→κ2→Bool) (l:List (κ×List (κ2×β))) (k:κ) (d:κ2) (x:β):Option (List (κ×List (κ2×β))):=(qE beq l k).map λi=>xj beq l k (xj beq2 i d x)
def Oi {κ γ:Type} (beq:κ→κ→Bool) (l:List (κ×γ)) (k:κ) (x:γ):Option (List (κ×γ)):=if (qE beq l k).isNone then some (xj beq l k x) else none
theorem Ph {s:Value→World→Prop} (X:List (Nat×Obj)) {Y R:List (Nat×Obj)} {t e:TypeId} {m x y:Operand} {I:Value} {r:List (κ×Value)} {l G:List (κ×List (κ2×β))} {k:κ} {z:κ2} {v:β} (hk:∀{x y:κ},beq x y=true→x=y) (K:uy P kt2 kenc2 beq2) (M:P.underlying t=some (.map kt2 e)) (n:ST dd F w W μ (X++(R++Y))) (h:pI kenc (nI kenc2 vf) I r l R) (hm:kW E m=ua beq r k (.map none)) (O:kW E x=kenc2 z) (Q:kW E y=vf v) (j:NK beq beq2 l k z v=some G) (L:∀W' R',ST dd F w W' μ (X++(R'++Y))→pI kenc (nI kenc2 vf) I r G R'→s undef W'):pf P E ⟨d,.mapUpdate t m x y,ty,pos,af,g⟩ W s:=by
 unfold NK at j
 cases p:qE beq l k with
 | none=>rw [p] at j; cases j
 | some T=>
  rw [p] at j
  cases j
  obtain ⟨u,A,R1,B,g1,rfl,g3,g4⟩:=h.found hk p
  have q:kW E m=u:=by rw [hm,ua,g1]; rfl
  have i:ST dd F w W μ ((X++A)++(R1++(B++Y))):=by simpa using n
  refine Hb (X++A) K M i g3 q O Q (λW' R' h1 J=>L W' (A++(R'++B)) ?_ (g4 _ _ J))
  simpa using h1
theorem Oy {J:Value→World→Prop} (X:List (Nat×Obj)) {Y R R2:List (Nat×Obj)} {t e:TypeId} {m x y:Operand} {I:Value} {G:List (κ×Value)} {l O:List (κ×γ)} {k:κ} {u:Value} {z:γ} (K:uy P kt kenc beq) (ht:P.underlying t=some (.map kt e)) (A:ST dd F w W μ (X++(R++(R2++Y)))) (h:pI kenc Q I G l R) (hm:kW E m=I) (hx:kW E x=kenc k) (hy:kW E y=u) (hq:Q u z R2) (n:Oi beq l k z=some O) (hK:∀W' R',ST dd F w W' μ (X++(R'++Y))→pI kenc Q I (xj beq G k u) O R'→J undef W'):pf P E ⟨d,.mapUpdate t m x y,ty,pos,af,g⟩ W J:=by
 unfold Oi at n
 cases s:qE beq l k with
 | some l2=>rw [s] at n; cases n
 | none=>
  rw [s] at n
  simp only [jr,aS,iN] at n
  subst n
  have hn:=h.NN s
  obtain ⟨U,v,rfl,Z,h3⟩:=h
  have r:ST dd F w W μ (X++(U++(v++(R2++Y)))):=by simpa using A
  refine Hb X K ht r Z hm hx hy (λW' R' g1 g2=>hK W' (R'++(v++R2)) (by simpa using g1) ⟨R',v++R2,rfl,g2,?_⟩)
  have L:∀{T:Type} (q:List (κ×T)) (y:T),qE beq q k=none→xj beq q k y=q++[(k,y)]:=λq y j=>by
   rw [zh] at j
   rw [xj]
   cases M:q.findIdx? (λp=>beq k p.1) with
   | none=>rfl
   | some i=>
    obtain ⟨p,hp,_⟩:=yk M
    rw [M] at j
    simp [hp] at j
  rw [L G u hn,L l z s]
  exact h3.push k hq
end
end Go.Proofs.YtjjjihkifgdhgaaGreatDoor
namespace Go.Proofs.YtjjjihkifgdhgaaGreatDoor
open Go.RowKit
variable {dd:Bool}
section
variable {κ γ:Type} {Q:Value→γ→List (Nat×Obj)→Prop} {beq:κ→κ→Bool} {kenc:κ→Value}
theorem It {d:Type} {l:List (κ×d)} {k:κ} {i:Nat} (h:l.findIdx? (λp=>beq k p.1)=some i) (x:d):xj beq l k x=l.set i (k,x):=by rw [xj,h]
theorem Jp {d:Type} {l:List (κ×d)} {k:κ} (h:l.findIdx? (λp=>beq k p.1)=none) (x:d):xj beq l k x=l++[(k,x)]:=by rw [xj,h]
theorem Jj {d:Type} {l:List (κ×d)} {k:κ} (h:l.findIdx? (λp=>beq k p.1)=none):qE beq l k=none:=by rw [zh,h]; rfl
theorem Iw {d:Type} {l:List (κ×d)} {k:κ} {i:Nat} {p:κ×d} (h:l.findIdx? (λp=>beq k p.1)=some i) (hp:l[i]? =some p):qE beq l k=some p.2:=by rw [zh,h]; simp [hp]
def TP (beq:κ→κ→Bool) (kenc:κ→Value) (Q:Value→γ→List (Nat×Obj)→Prop) (j:Value) (i:List (κ×Value)) (l:List (κ×γ)) (k:κ) (R:List (Nat×Obj)):Prop :=
 ∃d A B,R=d++(A++B)∧nI kenc (λx=>x) j i d∧∀v x R1,Q v x R1→yC Q (xj beq i k v) (xj beq l k x) (A++(R1++B))
theorem pI.open (hk:∀{x y:κ},beq x y=true→x=y) {G z:Value} {x0:γ} (s:Q z x0 []) {u:List (κ×Value)} {l:List (κ×γ)} {R:List (Nat×Obj)} (h:pI kenc Q G u l R) (k:κ) :
  ∃R' R1,R.Perm (R'++R1)∧Q (ua beq u k z) ((qE beq l k).getD x0) R1∧TP beq kenc Q G u l k R':=by
 obtain ⟨n,w,rfl,E,q⟩:=h
 have j:=q.find (beq:=beq) k
 cases d:l.findIdx? (λp=>beq k p.1) with
 | none=>
  rw [d] at j
  refine ⟨n++w,[],by simp,?_,n,w,[],by simp,E,λv x R1 r=>?_⟩
  ·rw [ua,Jj d,Jj j]; exact s
  ·rw [Jp d,Jp j]; simpa using q.push k r
 | some i=>
  rw [d] at j
  obtain ⟨p,hp,hb⟩:=yk d
  have I:=hk hb
  obtain ⟨v,A,R1,B,g1,rfl,g3,g4⟩:=q.get i p.1 p.2 hp
  refine ⟨n++(A++B),R1,?_,?_,n,A,B,rfl,E,λv2 x2 R2 r=>?_⟩
  ·rw [aW,aW]
   refine dB _ (dB _ List.perm_append_comm)
  ·rw [ua,Iw d hp,Iw j g1]; exact g3
  ·rw [It d,It j]; exact g4 k v2 x2 R2 r
variable {P:Program} {W:World} {kt:TypeId} {E:Nat→Value} {d:Option Nat} {ty:TypeId} {pos:String} {af:Array Edge} {g:Option (Nat×Bool)} {F:Nat→Prop} {w:World} {μ:lF} {L:List (Nat×Obj)}
end
end Go.Proofs.YtjjjihkifgdhgaaGreatDoor
namespace Go.Proofs.YtjjjihkifgdhgaaGreatDoor
open Go.RowKit
variable {dd:Bool}
section
variable {κ γ:Type} {Q:Value→γ→List (Nat×Obj)→Prop} {beq:κ→κ→Bool} {kenc:κ→Value}
variable {P:Program} {W:World} {kt:TypeId} {E:Nat→Value} {d:Option Nat} {ty:TypeId} {pos:String} {af:Array Edge} {g:Option (Nat×Bool)} {F:Nat→Prop} {w:World} {μ:lF} {L:List (Nat×Obj)}
theorem xn.val {j:List (κ×Value)} {es:Array MapEntry} {clock:Nat} (h:xn kenc (λx=>x) j es clock) {i:Nat} {e:MapEntry} (he:es[i]? =some e):∃p,j[i]? =some p∧e.key=kenc p.1∧e.val=p.2:=by
 have d:=bO (λq=>q[i]?) h.GM
 simp only [fS,eJ,he,gC] at d
 cases hp:j[i]? with
 | none=>rw [hp] at d; cases d
 | some p=>
  rw [hp] at d
  simp only [gC,iN,Prod.mk.injEq] at d
  exact ⟨p,rfl,d.1,d.2⟩
end
end Go.Proofs.YtjjjihkifgdhgaaGreatDoor
namespace Go.Proofs.YtjjjihkifgdhgaaGreatDoor
open Go.RowKit
variable {dd:Bool}
section
variable {κ γ:Type} {Q:Value→γ→List (Nat×Obj)→Prop} {beq:κ→κ→Bool} {kenc:κ→Value}
def nP (kenc:κ→Value) (Q:Value→γ→List (Nat×Obj)→Prop) (v:Value) (l:List (κ×γ)) (R:List (Nat×Obj)):Prop:=∃d,pI kenc Q v d l R
def tU (kenc:κ→Value) (Q:Value→γ→List (Nat×Obj)→Prop) (μ:lF) (v:Value) (l:List (κ×γ)):Prop:=∃d R,pI kenc Q v d l R∧∀b o,(b,o)∈R→μ b=some o
theorem nP.at {v:Value} {l:List (κ×γ)} {R:List (Nat×Obj)} {μ:lF} (h:nP kenc Q v l R) (d:∀b o,(b,o)∈R→μ b=some o):tU kenc Q μ v l:=let ⟨i,h⟩:=h; ⟨i,R,h,d⟩
theorem tU.mono {v:Value} {l:List (κ×γ)} {μ μ':lF} (h:tU kenc Q μ v l) (i:lz μ μ'):tU kenc Q μ' v l:=let ⟨j,R,h,d⟩:=h; ⟨j,R,h,λb o hb=>i _ _ (d b o hb)⟩
theorem pI.form {v:Value} {d:List (κ×Value)} {l:List (κ×γ)} {R:List (Nat×Obj)} (h:pI kenc Q v d l R):∃m,v= .map (some m):=let ⟨_,_,_,h,_⟩:=h; h.form
theorem pI.e {v:Value} {d:List (κ×Value)} {l:List (κ×γ)} {R:List (Nat×Obj)} (h:pI kenc Q v d l R):nP kenc Q v l R:=⟨d,h⟩
theorem nP.form {v:Value} {l:List (κ×γ)} {R:List (Nat×Obj)} (h:nP kenc Q v l R):∃m,v= .map (some m):=let ⟨_,h⟩:=h; h.form
theorem nP.new {v:Value} {R:List (Nat×Obj)} (h:nI (β:=Value) kenc (λx=>x) v [] R):nP kenc Q v [] R:=⟨[],R,[],(bB R).symm,h,rfl⟩
theorem pI.rowAt {α:Type} {e:TypeId} {enc:α→List Value} {n:Nat} {j:Value} {i:List (κ×Value)} {l:List (κ×List α)} {R:List (Nat×Obj)} (hk:∀{x y:κ},beq x y=true→x=y) (h:pI kenc (lm e enc n) j i l R) (k:κ) :
  ∃R1,lm e enc n (ua beq i k (.slice none 0 0)) ((qE beq l k).getD []) R1∧∀b o,(b,o)∈R1→(b,o)∈R:=by
 cases d:qE beq l k with
 | none=>refine ⟨[],?_,λb o h=>by cases h⟩; rw [ua,h.NN d]; exact .inl ⟨rfl,rfl,rfl⟩
 | some x=>
  obtain ⟨v,A,R1,B,g1,rfl,g3,_⟩:=h.found hk d
  refine ⟨R1,?_,λb o hb=>by simp [hb]⟩
  rw [ua,g1]; exact g3
theorem lm.Ju {α:Type} {e:TypeId} {enc:α→List Value} {k:Nat} {v:Value} {l:List α} {R:List (Nat×Obj)} (h:lm e enc k v l R) (hk:∀x,(enc x).length=k):Sl (Pl enc) k (DI R) v l:=by
 refine h.sl hk (λb o hb=>?_)
 rcases h with ⟨rfl,rfl,rfl⟩ | ⟨g,cap,d,rfl,rfl,_⟩
 ·cases hb
 ·simp at hb; obtain ⟨rfl,rfl⟩:=hb; simp [DI]
end
theorem pB.hp (W:World):pB (hp W) [] W:=⟨λ_ _ h=>h,λ_ _ h=>by cases h⟩
section
variable {P:Program} {W:World} {E:Nat→Value} {d:Option Nat} {ty:TypeId} {pos:String} {af:Array Edge} {g:Option (Nat×Bool)} {F:Nat→Prop} {w:World} {μ:lF} {L:List (Nat×Obj)}
theorem II {t k e:TypeId} (dd:Nat) (d:P.underlying t=some (.map k e)) (a:Option Nat) (W:World):(Op.equalIn (dd+1) t (.map a) (.map none)).run P W= .ok a.isNone W:=by
 cases a <;> simp [Op.equalIn,bF d]
theorem Oa {tx tv k e:TypeId} {x y:Operand} {r:Option Nat} {b:Bool} (j:P.underlying tx=some (.map k e)) (n:kW E x= .map r) (p:kW E y= .map none) (hb:r.isNone=b) :
  nt P E ⟨d,.binOp .eql tx x y tv,ty,pos,af,g⟩ W (.bool b) W:=by
 subst hb
 show (do let r ←(do eqGuard .eql tx x y (kW E x) (kW E y); binOp .eql tx (kW E x) (kW E y)); pure (.value r):Sem Next).run P W=_
 rw [n,p]
 have i:=II 9999 j r W
 simp [eqGuard,binOp,Op.equal,show Op.maxDepth=9999+1 from rfl,i]
theorem L4 {κ κ2 β:Type} {kenc:κ→Value} {kenc2:κ2→Value} {vf:β→Value} {beq:κ→κ→Bool} {tx tv kt e:TypeId} {x y:Operand} {s:Value} {i:List (κ×Value)} {l:List (κ×List (κ2×β))} {R:List (Nat×Obj)} {k:κ} (hk:∀{x y:κ},beq x y=true→x=y) (n:P.underlying tx=some (.map kt e)) (h:pI kenc (nI kenc2 vf) s i l R) (p:kW E x=ua beq i k (.map none)) (q:kW E y= .map none) :
  nt P E ⟨d,.binOp .eql tx x y tv,ty,pos,af,g⟩ W (.bool (qE beq l k).isNone) W:=by
 obtain ⟨r,h1,j⟩:=h.isNil hk k
 exact Oa n (p.trans h1) q j
theorem EA {κ γ:Type} {j:Value→World→Prop} {t:TypeId} (kenc:κ→Value) (Q:Value→γ→List (Nat×Obj)→Prop) (i:ST dd F w W μ L) (p:∀W' v R,ST dd F w W' μ (R++L)→nP kenc Q v [] R→j v W'):pf P E ⟨d,.makeMap t none,ty,pos,af,g⟩ W j :=
 Jg kenc (λx:Value=>x) i (λW' v R h1 n=>p W' v R h1 (nP.new n))
end
def sL {α:Type} (e:TypeId) (enc:α→List Value) (k:Nat) (v:Value) (l:List α) (R:List (Nat×Obj)):Prop :=
 (v= .slice none 0 0∧l=[]∧R=[])∨
 ∃g off cap d,v= .slice (some ⟨g,off,none⟩) l.length cap∧R=[(g,.cells d e (0,0))]∧l.length≤cap∧cap≤maxLen∧off+cap*k≤d.size∧(d.toList.drop off).take (l.length*k)=(l.map enc).flatten
section
variable {α:Type} {e:TypeId} {enc:α→List Value} {k:Nat} {v:Value} {l:List α} {R:List (Nat×Obj)}
theorem sL.nil (e:TypeId) (enc:α→List Value) (k:Nat):sL e enc k (.slice none 0 0) [] []:=.inl ⟨rfl,rfl,rfl⟩
theorem lm.TZ (h:lm e enc k v l R):sL e enc k v l R:=by
 rcases h with h | ⟨g,cap,d,h1,i,j,n,q,p⟩
 ·exact .inl h
 ·exact .inr ⟨g,0,cap,d,h1,i,j,n,by omega,by simpa using p⟩
theorem sL.len (h:sL e enc k v l R):l.length≤9223372036854775807:=by
 rcases h with ⟨rfl,rfl,rfl⟩ | ⟨g,off,cap,d,rfl,rfl,h1,i,_⟩
 ·simp
 ·unfold maxLen at i; omega
theorem sL.form (h:sL e enc k v l R):∃A c,v= .slice A l.length c:=by
 rcases h with ⟨rfl,rfl,rfl⟩ | ⟨g,off,cap,d,rfl,rfl,_⟩
 ·exact ⟨_,_,rfl⟩
 ·exact ⟨_,_,rfl⟩
theorem sL.Ju (h:sL e enc k v l R) (hk:∀x,(enc x).length=k):Sl (Pl enc) k (DI R) v l:=by
 rcases h with ⟨rfl,rfl,rfl⟩ | ⟨g,off,cap,d,rfl,rfl,h1,p,u,q⟩
 ·exact Sl.nil _ _ _
 ·refine ⟨_,cap,rfl,h1,p,λ_=>⟨g,off,d,e,(0,0),rfl,by simp [DI],λi x r=>⟨enc x,hk x,rfl,λj y s=>?_⟩⟩⟩
  have:=xS hk l i x r j y s
  rw [←q] at this
  have n:i*k+j < l.length*k:=by
   have:=(bK.1 this).1
   simp at this; omega
  rw [dW n,eP] at this
  simpa [fA] using this
variable {P:Program} {W:World} {E:Nat→Value} {d:Option Nat} {ty:TypeId} {pos:String} {af:Array Edge} {g:Option (Nat×Bool)} {F:Nat→Prop} {w:World} {μ:lF} {L:List (Nat×Obj)}
theorem QG {x:Operand} {t i:TypeId} (j:P.underlying t=some (.slice i)) (n:kW E x=v) (h:sL e enc k v l R):nt P E ⟨d,.call ⟨.builtin .len,#[x],#[t]⟩,ty,pos,af,g⟩ W (.int .i64 l.length) W:=by
 obtain ⟨A,c,rfl⟩:=h.form
 exact Es j n
theorem NI {t z:TypeId} {x r:Operand} {U:IntKind} {i:Int} (J:P.underlying t=some (.slice z)) (he:∀w,(sizeOf z).run P w= .ok k w) (L:kW E x=v) (G:kW E r= .int U i) (hk:∀x,(enc x).length=k) (h:sL e enc k v l R) (M:0≤i) (I:i≤l.length) :
  ∃u,sL e enc k u (l.drop i.toNat) R∧∀W,nt P E ⟨d,.slice t x (some r) none none,ty,pos,af,g⟩ W u W:=by
 rcases h with ⟨rfl,rfl,rfl⟩ | ⟨q,off,cap,n,rfl,rfl,h1,Y,Z,O⟩
 ·have:i=0:=by simp at I; omega
  subst this
  refine ⟨.slice none 0 0,by simpa using sL.nil e enc k,λW=>?_⟩
  show (do pure (.value (←Instr.sliceAt t (kW E x) (some (kW E r)) none none)):Sem Next).run P W=_
  rw [L,G]
  simp [Instr.sliceAt,Instr.slice,Instr.sliceBounds,Instr.sliceBound,asIntOf,bF J,he W]
 ·refine ⟨.slice (some (if cap=i.toNat then ⟨q,off,none⟩ else (Addr.add ⟨q,off,none⟩ (i.toNat*k)))) (l.length-i.toNat) (cap-i.toNat),.inr ?_,λW=>?_⟩
  ·have j:(l.drop i.toNat).length=l.length-i.toNat:=by simp
   have p:(l.map enc).flatten.drop (i.toNat*k)=((l.drop i.toNat).map enc).flatten:=by
    have Q:l=l.take i.toNat++l.drop i.toNat:=(iY _ _).symm
    have T:((l.take i.toNat).map enc).flatten.length=i.toNat*k:=by rw [qX hk,dL,eG (by omega)]
    conv=>lhs; rw [Q,cP,bP]
    rw [←T,List.drop_left]
   by_cases A:cap=i.toNat
   ·rw [cE A]
    have s:l.drop i.toNat=[]:=List.drop_eq_nil_of_le (by omega)
    refine ⟨q,off,cap-i.toNat,n,by rw [s]; simp; omega,rfl,by rw [s]; simp,by omega,by have:(cap-i.toNat)*k≤cap*k:=dA _ (by omega); omega,by rw [s]; simp⟩
   ·rw [cI A]
    refine ⟨q,off+i.toNat*k,cap-i.toNat,n,by rw [j,dR],rfl,by rw [j]; omega,by omega,?_,?_⟩
    ·have:i.toNat*k+(cap-i.toNat)*k=cap*k:=by rw [←dF]; congr 1; omega
     omega
    ·rw [j,←p,←O,jo,List.drop_drop,Nat.sub_mul]
  ·show (do pure (.value (←Instr.sliceAt t (kW E x) (some (kW E r)) none none)):Sem Next).run P W=_
   rw [L,G]
   have hb:0≤i∧i≤(l.length:Int):=⟨M,I⟩
   simp [Instr.sliceAt,Instr.slice,Instr.sliceBounds,Instr.sliceBound,asIntOf,bF J,he W,hb]
   split <;> rfl
theorem L6 {K:Value→World→Prop} {t:TypeId} {a6:Nat} {z vs:Value} {m r:List α} (X:List (Nat×Obj)) {Y:List (Nat×Obj)} {x y:Operand} {i:TypeInfo} (a7:ST dd F w W μ (X++(R++Y))) (hk:∀x,(enc x).length=k) (ak:0 < k) (h1:∀x,∀u∈enc x,u.oneCell'=true) (ht:P.underlying t=some (.slice e)) (hi:P.info? e=some i) (hz:i.zero=some z) (ab:z.cells.size=k) (a1:i.size=k) (a8:i.bytes=a6) (hx:kW E x=v) (hy:kW E y=vs) (hR:sL e enc k v l R) (hs:Sl (Pl enc) k (hp W) vs m) (hb:oB a6 l m=some r) (h:∀W' v' R',ST dd F w W' μ (X++(R'++Y))→sL e enc k v' r R'→K v' W'):pf P E ⟨d,.call ⟨.builtin .append,#[x,y],#[t,t]⟩,ty,pos,af,g⟩ W K:=by
 rcases hR with ⟨rfl,rfl,rfl⟩ | ⟨s,off,cap,p,rfl,rfl,h2,h3,h4,h5⟩
 ·exact KA X a7 hk ak h1 ht hi hz ab a1 a8 hx hy (lm.nil e enc k) hs hb (λW' v' R' a b=>h W' v' R' a b.TZ)
 unfold oB at hb
 split at hb
 case isFalse=>cases hb
 rename_i Z
 cases hb
 have U:∀(V:Value) (W':World),(Builtin.append_ #[t,t] ty #[.slice (some ⟨s,off,none⟩) l.length cap,vs]).run P W= .ok V W'→(execOp (kW E) ⟨d,.call ⟨.builtin .append,#[x,y],#[t,t]⟩,ty,pos,af,g⟩).run P W= .ok (.value V) W':=by
  intro V W' hV
  show (do let d ←resolve (kW E) ⟨.builtin .append,#[x,y],#[t,t]⟩ ty; invoke d.target d.args:Sem Next).run P W=_
  simp [resolve,invoke,builtin,hx,hy,hV]
 obtain ⟨A,c,rfl,ao,ap,ah⟩:=hs
 have L:ST dd F w W μ (X++(s,.cells p e (0,0))::Y):=by simpa using a7
 have hg:W.heap[s]? =some (.cells p e (0,0)):=(L.box s _ (by simp)).1
 have J:=qX hk l
 have Q:∀u∈(m.map enc).flatten,u.oneCell'=true:=by
  intro u hu
  obtain ⟨ys,an,al⟩:=jL.1 hu
  obtain ⟨x,_,rfl⟩:=bE.1 an
  exact h1 x u al
 have I:Src P i.size t (.slice A m.length c) m.length ((m.map enc).flatten) W:=by
  rw [a1]
  rcases eQ m.length with h0 | h0
  ·have hm:m=[]:=aI h0
   subst hm
   cases A with
   | none=>exact Src.ofNil W ht c
   | some ad=>exact Src.ofSlice W ht ad 0 c [] (by simp) (λj u hu=>by simp at hu) (λu hu=>by cases hu)
  ·obtain ⟨b,o,cs,T,fr,rfl,h6,h7⟩:=ah h0
   refine Src.ofSlice W ht _ _ c _ (qX hk m) (λj u hu=>?_) Q
   obtain ⟨i,x,q,h8,h9,rfl⟩:=HO hk m j u hu
   obtain ⟨ys,_,ae,ag⟩:=h7 i x h8
   cases ae
   rw [dR,gD W b (o+(i*k+q)) cs T fr h6,←fA]
   exact ag q u h9
 have n:=qX hk m
 have O:((l++m).map enc).flatten=(l.map enc).flatten++(m.map enc).flatten:=by simp
 generalize (m.map enc).flatten=fm at I Q n O
 subst a1
 have aq:l.length*i.size≤cap*i.size:=dA _ h2
 by_cases G:l.length+m.length≤cap
 ·have ar:l.length*i.size+m.length*i.size≤cap*i.size:=by rw [←dF]; exact dA _ G
  have aa:=jz (P:=P) s (off+l.length*i.size) e fm 0 p W hg (by rw [n]; omega) Q
  have M:(Builtin.append_ #[t,t] ty #[.slice (some ⟨s,off,none⟩) l.length cap,.slice A m.length c]).run P W= .ok (.slice (some ⟨s,off,none⟩) (l.length+m.length) cap) (W.setRow s (p.toList.take (off+l.length*i.size)++fm++p.toList.drop (off+l.length*i.size+fm.length)).toArray):=by
   simp [Builtin.append_,bF ht,sizeOf,typeInfo,hi,I.len,G,I.cells,dR]
   simp only [jT] at aa
   rw [aa]
   simp
  refine .inl ⟨_,_,U _ _ M,h _ _ [(s,_)] (by simpa using L.store _) (.inr ⟨s,off,cap,_,by rw [aC],rfl,by simpa using G,h3,?_,?_⟩)⟩
  ·simp only [dZ,aC,dL,iu,dP,n]
   rw [eG (by omega)]
   omega
  ·have hA:(p.toList.take (off+l.length*i.size)).length=off+l.length*i.size:=by simp; omega
   show ((p.toList.take (off+l.length*i.size)++(fm++p.toList.drop (off+l.length*i.size+fm.length))).drop off).take ((l++m).length*i.size)=_
   rw [O,List.drop_append,jo,hA,show off-(off+l.length*i.size)=0 by omega,List.drop_zero,show off+l.length*i.size-off=l.length*i.size by omega,h5]
   rw [aC,dF,gN,gN,J,n,eE (by rw [J]; omega),show l.length*i.size+m.length*i.size-l.length*i.size=m.length*i.size by omega,eE (by rw [n]; omega)]
   simp
 ·have hold:(Builtin.firstCells i.size l.length (.slice (some ⟨s,off,none⟩) l.length cap)).run P W.drew= .ok ((l.map enc).flatten).toArray W.drew:=by
   refine run_firstCells_some W.drew i.size l.length ⟨s,off,none⟩ l.length cap _ J (λj u hu=>?_)
   rw [dR]
   show W.cell? ⟨s,off+j,none⟩=some u
   rw [gD W s (off+j) p e (0,0) hg]
   rw [←h5] at hu
   have hj:j < l.length*i.size:=by have:=(bK.1 hu).1; simp at this; omega
   rw [dW hj,eP] at hu
   simpa using hu
  have hlen:(l++m).length=l.length+m.length:=aC
  have aj:=grownCap_ge W (l.length+m.length) cap e
  have ai:=jm W (l.length+m.length) cap e Z.2
  have M:=run_append_grow_src (P:=P) W t t ty e i z ht hi hz (some ⟨s,off,none⟩) l.length cap ((l.map enc).flatten) hold _ m.length _ I (by omega) (by have:=Z.2; unfold maxLen at this; omega) (growslice_fits (by omega) (by rw [a8]; exact Z.1))
  have h6:=L.drew.alloc (.cells (((l.map enc).flatten++fm).toArray++Builtin.zeroCells z.cells (grownCap W (l.length+m.length) cap e-(l.length+m.length))) e (0,0))
  have h7:=(ST.drop (A:=(W.drew.heap.size,_)::X) h6).perm (L':=X++([(W.heap.size,_)]++Y)) (by simpa using (gp (a:=(W.heap.size,_)) (l₁:=X) (l₂:=Y)).symm)
  refine .inl ⟨_,_,U _ _ M,h _ _ _ h7 (lm.TZ (.inr ⟨W.heap.size,grownCap W (l.length+m.length) cap e,_,by rw [hlen],rfl,by rw [hlen]; exact aj,ai,?_,?_⟩))⟩
  ·rw [Array.size_append,size_zeroCells,ab]
   simp only [dZ,aC,J,n]
   rw [←dF,←dF]
   congr 1
   omega
  ·rw [Array.toList_append,List.toList_toArray,hlen,O,List.take_append_of_le_length (by simp only [aC,J,n]; rw [dF]; exact aQ _),eE (by simp only [aC,J,n]; rw [dF]; exact aQ _)]
end
end Go.Proofs.YtjjjihkifgdhgaaGreatDoor
namespace Go.Proofs.YtjjjihkifgdhgaaGreatDoor
open Go.RowKit
variable [M:Md]
section
variable {P:Program} {ops:Array Oper} {Q:Exit→Act→World→Prop} {S:Array Bool→World→Prop}
def yP (ops:Array Oper) (l:Array Bool):Prop:=∀j o,ops[j]? =some o→l.getD j true=true→∀e∈o.after,Region.binds .any e=true→l.getD e.on true=true
def Is (ops:Array Oper):Nat→List Nat→Bool
 | _,[]=>true
 | j,k::r=>(match ops[j]? with | some o=>o.after.any (λe=>Region.binds .any e&&e.on==k) | none=>false)&&Is ops k r
theorem H8 {l:Array Bool} (q:yP ops l):∀(r:List Nat) (j i:Nat),Is ops j r=true→(j::r).getLast? =some i→l.getD j true=true→l.getD i true=true
 | [],j,i,_,h,d=>by simp at h; subst h; exact d
 | k::r,j,i,h,u,d=>by
  simp only [Is,bQ] at h
  obtain ⟨h1,s⟩:=h
  cases p:ops[j]? with
  | none=>rw [p] at h1; cases h1
  | some o=>
   rw [p] at h1
   simp only [Array.any_eq_true] at h1
   obtain ⟨n,v,h1⟩:=h1
   simp only [bQ,beq_iff_eq] at h1
   have:=q j o p d o.after[n] (Array.getElem_mem v) h1.1
   rw [h1.2] at this
   exact H8 q r k i s (by simpa [List.getLast?_cons_cons] using u) this
def HJ (ops:Array Oper) (i:Nat) (l:Array Bool):Prop:=yP ops l∧l.getD i true=false
theorem HJ.yL {l:Array Bool} {i:Nat} (h:HJ ops i l) (j:Nat) (r:List Nat) (d:Is ops j r=true) (p:(j::r).getLast? =some i):l.getD j true=false:=by
 cases n:l.getD j true with
 | false=>rfl
 | true=>have:=H8 h.1 r j i d p n; rw [h.2] at this; cases this
theorem yP.start (n:Nat) (h:n=ops.size):yP ops (Array.replicate n false):=by
 subst h
 intro j o p i
 have d:j < ops.size:=(eO.1 p).1
 simp [d] at i
theorem yP.set {l:Array Bool} {i:Nat} (h:yP ops l) (v:i∈Region.ready .any ops l):yP ops (l.setIfInBounds i true):=by
 intro j o u s e he hb
 have up:∀{k:Nat},l.getD k true=true→(l.setIfInBounds i true).getD k true=true:=λ{k} hk=>by
  by_cases p:i=k
  ·subst p
   by_cases r:i < l.size
   ·simp [r]
   ·simp [r]
  ·rw [kk true p]; exact hk
 by_cases n:i=j
 ·subst n
  obtain ⟨_,w,q,d⟩:=ku.1 v
  rw [u] at q
  cases q
  refine up ?_
  have:=d e he hb
  by_cases r:e.on < l.size
  ·simp [r] at this ⊢; exact this
  ·simp [r]
 ·rw [kk true n] at s
  exact up (h j o u s e he hb)
def D3 (P:Program) (ops:Array Oper) (S:Array Bool→World→Prop) (i:Nat) (o:Oper) (v:Value) (a:Act):Prop :=
 (Region.wanted o (yielded ops a.tmps)=true∧∀l w,HJ ops i l→S l w→(execOp a.eval o).run P w= .ok (.value v) w)∨
 (Region.wanted o (yielded ops a.tmps)=false∧v=undef)
theorem D3.T2 {i:Nat} {o:Oper} {v:Value} {a:Act} {l:Array Bool} (h:D3 P ops S i o v a) (hp:HJ ops i l):YieldsIf P ops (S l) o v a :=
 h.imp (λ⟨h1,d⟩=>⟨h1,λw hw=>d l w hp hw⟩) id
def Ng (P:Program) (ops:Array Oper) (Q:Exit→Act→World→Prop) (S:Array Bool→World→Prop):Nat→Array Bool→Act→World→Prop
 | 0,l,a,w=>Region.ready .any ops l=[]∧Q .normal a w
 | n+1,l,a,w=>(Region.ready .any ops l=[]→Q .normal a w)∧
  ∀i∈Region.ready .any ops l,wpOp P ops Q i (λj d=>S (l.setIfInBounds i true) d∧Ng P ops Q S n (l.setIfInBounds i true) j d) a w
theorem Mo:∀(n:Nat) (l:Array Bool) (a:Act) (w:World),Ng P ops Q S n l a w→wpAny P .any ops Q n l a w
 | 0,_,_,_,h=>h
 | n+1,_,_,_,h=>⟨h.1,λi p=>wpOp_mono (λd q j=>Mo n _ d q j.2) (h.2 i p)⟩
theorem Pg {i j:Nat} {d u:Oper} {v:Value} (E:ops[j]? =some u) (q:d.apart ops u=true) (r:∀cs b,d.op≠.select cs b) (s:∀cs b,u.op≠.select cs b) (A:∀c a w,Q (.panic c) (a.put d.dst v) w→Q (.panic c) a w) {K:Act→World→Prop} {a:Act} {w:World} (G:D3 P ops S i d v a) (h:wpOp P ops Q j K (a.put d.dst v) w) :
  wpOp P ops Q j (λn z=>D3 P ops S i d v n∧K (n.put d.dst v) z) a w:=by
 have h1:YieldsIf P ops (λw=>∃l,HJ ops i l∧S l w) d v a:=G.imp (λ⟨h1,p⟩=>⟨h1,λw ⟨l,hp,hw⟩=>p l w hp hw⟩) id
 refine wpOp_mono (λn z x=>⟨x.1.imp (λ⟨h1,p⟩=>⟨h1,λl w hp hw=>p w ⟨l,hp,hw⟩⟩) id,x.2⟩) (wpOp_putIf (S:=λw=>∃l,HJ ops i l∧S l w) E q r s A h1 h)
theorem Jz {i:Nat} {E:Oper} {v:Value} (hi:ops[i]? =some E) (x:∀(j:Nat) (o:Oper) cs b,ops[j]? =some o→o.op≠.select cs b) (hQ:∀c a w,Q (.panic c) (a.put E.dst v) w→Q (.panic c) a w) (hm:∀l w,S (l.setIfInBounds i true) w→S l w) :
  ∀(n:Nat) (l:Array Bool) (a:Act) (w:World),(∀j G,ops[j]? =some G→j≠i→l.getD j true=false→(∀e∈G.after,Region.binds .any e=true→e.on≠i)→E.apart ops G=true)→
   yP ops l→i∈Region.ready .any ops l→D3 P ops S i E v a→S (l.setIfInBounds i true) w→Ng P ops Q S n (l.setIfInBounds i true) (a.put E.dst v) w→Ng P ops Q S (n+1) l a w:=by
 intro n
 induction n with
 | zero=>
  intro l a w _ T s U I H
  refine ⟨λh=>(by rw [h] at s; cases s),λj L=>?_⟩
  by_cases d:j=i
  ·subst d
   exact (U.T2 ⟨T,(ku.1 s).1⟩).wpOp hi (hm l w I) ⟨I,H⟩
  ·have:=ready_mono L d
   rw [H.1] at this
   cases this
 | succ n ih=>
  intro l a w q T s U I H
  refine ⟨λh=>(by rw [h] at s; cases s),λj L=>?_⟩
  by_cases d:j=i
  ·subst d
   exact (U.T2 ⟨T,(ku.1 s).1⟩).wpOp hi (hm l w I) ⟨I,H⟩
  have h1:=H.2 j (ready_mono L d)
  obtain ⟨u,G,A,J⟩:=ku.1 L
  have O:∀e∈G.after,Region.binds .any e=true→e.on≠i:=λe he hb Z=>by
   have z:=J e he hb
   have h0:=(ku.1 s).1
   rw [Z] at z
   rcases Nat.lt_or_ge i l.size with W | W
   ·simp [W] at h0 z; rw [h0] at z; cases z
   ·simp [Array.getElem?_eq_none W] at z
  have z:=Pg A (q j G A d u O) (λcs b=>x i E cs b hi) (λcs b=>x j G cs b A) hQ U h1
  have r:∀k ok,ops[k]? =some ok→k≠i→(l.setIfInBounds j true).getD k true=false→(∀e∈ok.after,Region.binds .any e=true→e.on≠i)→E.apart ops ok=true:=λk ok hk a1 R a6=>by
   refine q k ok hk a1 ?_ a6
   by_cases M:j=k
   ·subst M; exact u
   ·rw [kk true M] at R; exact R
  have p:(l.setIfInBounds i true).setIfInBounds j true=(l.setIfInBounds j true).setIfInBounds i true:=Array.setIfInBounds_comm _ _ (Ne.symm d)
  refine wpOp_mono (λa' w' Y=>?_) z
  have h4:S ((l.setIfInBounds j true).setIfInBounds i true) w':=by rw [←p]; exact Y.2.1
  refine ⟨hm _ w' h4,ih (l.setIfInBounds j true) a' w' r (T.set L) (ready_mono s (Ne.symm d)) Y.1 h4 ?_⟩
  rw [←p]
  exact Y.2.2
end
theorem TN {ro:Md} {P:Program} {o:Oper} {a:Act} {w:World} {K:Act→World→Prop} {Q:Exit→Act→World→Prop} (n:∀c,o.op≠.defer c) (h:o.wp P a w K Q) (q:¬LetsOut Q):o.wpIn ro.F 0 P a w K Q:=by
 refine ⟨λ_ _=>trivial,?_⟩
 rw [Oper.semAt_eq _ _ _ n]
 unfold Oper.wp at h
 cases j:(execOp a.eval o).run P w with
 | ok x i=>
  rw [j] at h
  cases x with
  | value v=>exact h
  | skip=>exact h
  | defer d=>exact h
  | enter f args=>exact I6 (dI h λe p he=>by cases e with
   | returned v=>exact he
   | panicked c=>exact he
   | outgrown=>exact he)
  | row r args=>exact ⟨λe=>(nomatch (show (none:Option Nat).isSome=true from e)),λc cs _=>by
    obtain ⟨v,i,r,s⟩:=h c cs
    exact ⟨v,i,r,(stepsIn_wide (P:=P)).2 s⟩⟩
  | _=>exact h.elim
 | halt z i=>
  rw [j] at h
  cases z with
  | panic v=>exact h
  | _=>exact h.elim
def Nf (ops:Array Oper):Prop:=∀(i:Nat) (o:Oper),ops[i]? =some o→∀c,o.op≠.defer c
theorem EE {ro:Md} {P:Program} {ops:Array Oper} {Q:Exit→Act→World→Prop} (p:Nf ops) (j:¬LetsOut Q):∀(n:Nat) (l:Array Bool) (a:Act) (w:World),wpAny P .any ops Q n l a w→wpAnyIn ro.F 0 P .any ops Q n l a w
 | 0,_,_,_,h=>h
 | n+1,l,a,w,h=>⟨h.1,λi r=>by
  have d:=h.2 i r
  unfold wpOp at d
  unfold wpOpIn
  cases q:ops[i]? with
  | none=>rw [q] at d; exact EE p j n _ a w d
  | some o=>
   rw [q] at d
   simp only at d ⊢
   split
   ·rename_i hw
    rw [cE hw] at d
    rcases d with d | d
    ·exact Oper.wpIn_mono (λa w h=>EE p j n _ a w h) (TN (p i o q) d j)
    ·exact absurd d.2 j
   ·rename_i hw
    rw [cI hw] at d
    exact ⟨λ_ _=>trivial,EE p j n _ _ w d⟩⟩
def NE (l:List Oper):Bool:=l.all λo=>match o.op with
 | .defer _=>false
 | _=>true
theorem Ry {l:List Oper} (h:NE l=true):Nf l.toArray:=λi o d c j=>by
 have hm:o∈l:=by
  rw [iW] at d
  exact cR d
 have:=iv.1 h o hm
 rw [j] at this
 cases this
theorem SF [M:Md] {n:Nat} {Q:rJ}:¬LetsOut (lift n Q):=λ⟨_,_,h⟩=>h
def PX (P:Program) (n:Nat) (ops:Array Oper) (Q:rJ) (S:Array Bool→World→Prop) (fuel:Nat) (listed:Array Bool) (E:Nat→Value) (W:World):Prop :=
 yP ops listed→∀a,Ag n a E→Ng P ops (lift n Q) S fuel listed a W
section
variable {P:Program} {n:Nat} {Q:rJ} {E:Nat→Value} {W:World} {ops:Array Oper} {S:Array Bool→World→Prop} {fuel:Nat} {listed:Array Bool}
theorem La {id:Nat} {l:List Oper} (S:Array Bool→World→Prop) (hm:P.follows .mixedOrders=true) (h:PX P n l.toArray Q S l.length (Array.replicate l.length false) E W.drew) (d:NE l=true):CW P n (.region id l.toArray true) Q E W:=λa ha=>
 wpIn_region_any hm (EE (Ry d) SF _ _ _ _ (Mo _ _ _ _ (h (yP.start _ (by simp)) a ha)))
def Dm (ops:Array Oper) (listed:Array Bool) (i:Nat):Bool:=Region.noSelect ops&&Region.free .any ops listed i&&(Region.ready .any ops listed).contains i
theorem lG {o:Oper} {dd:Nat} {v:Value} (i:Nat) (p:ops[i]? =some o) (hk:Dm ops listed i=true) (hw:uz n ops E o) (s:o.dst=some dd) (u:dd < n) (hm:∀l w,S (l.setIfInBounds i true) w→S l w) (r:S (listed.setIfInBounds i true) W) (x:∀l W,HJ ops i l→S l W→nt P E o W v W) (h:PX P n ops Q S fuel (listed.setIfInBounds i true) (qa E dd v) W):PX P n ops Q S (fuel+1) listed E W:=λj a ha=>by
 simp only [Dm,bQ] at hk
 have q:i∈Region.ready .any ops listed:=by simpa using hk.2
 exact Jz p (Region.noSelect_spec hk.1.1) (λ_ _ _ h=>KB h) hm fuel listed a W (Region.free_spec p hk.1.2) j q (.inl ⟨hw.of ha,λl w hp d=>by rw [ha.eval]; exact x l w hp d⟩) r (by rw [s]; exact h (j.set q) _ (ha.put u v))
theorem np {A:Value→Prop} {o:Oper} {dd:Nat} (i:Nat) (r:ops[i]? =some o) (hk:Dm ops listed i=true) (hw:uz n ops E o) (q:o.dst=some dd) (s:dd < n) (hm:∀l w,S (l.setIfInBounds i true) w→S l w) (j:S (listed.setIfInBounds i true) W) (u:∃p,A p∧∀W,nt P E o W p W) (h:∀p,A p→PX P n ops Q S fuel (listed.setIfInBounds i true) (qa E dd p) W):PX P n ops Q S (fuel+1) listed E W:=by
 obtain ⟨p,h1,d⟩:=u
 exact lG i r hk hw q s hm j (λ_ W _ _=>d W) (h p h1)
theorem MT {o:Oper} {dd:Nat} (i:Nat) (j:ops[i]? =some o) (hk:Dm ops listed i=true) (hw:∀a,Ag n a E→Region.wanted o (yielded ops a.tmps)=false) (r:o.dst=some dd) (s:dd < n) (hm:∀l w,S (l.setIfInBounds i true) w→S l w) (q:S (listed.setIfInBounds i true) W) (h:PX P n ops Q S fuel (listed.setIfInBounds i true) (qa E dd undef) W):PX P n ops Q S (fuel+1) listed E W:=λd a ha=>by
 simp only [Dm,bQ] at hk
 have p:i∈Region.ready .any ops listed:=by simpa using hk.2
 exact Jz j (Region.noSelect_spec hk.1.1) (λ_ _ _ h=>KB h) hm fuel listed a W (Region.free_spec j hk.1.2) d p (.inr ⟨hw a ha,rfl⟩) q (by rw [r]; exact h (d.set p) _ (ha.put s _))
theorem TK {o:Oper} {dd j t:Nat} {want:Bool} (i:Nat) (s:ops[i]? =some o) (hk:Dm ops listed i=true) (r:o.guard=some (j,want)) (u:(ops[j]?).bind (·.dst)=some t) (x:t < n) (d:E t= .bool (!want)) (q:o.dst=some dd) (v:dd < n) (hm:∀l w,S (l.setIfInBounds i true) w→S l w) (p:S (listed.setIfInBounds i true) W) (h:PX P n ops Q S fuel (listed.setIfInBounds i true) (qa E dd undef) W):PX P n ops Q S (fuel+1) listed E W :=
 MT i s hk (λa ha=>by have z:=ha.yield u x d; simp [Region.wanted,r,z]) q v hm p h
theorem Sd {o:Oper} {dd j t:Nat} {want:Bool} (i:Nat) (s:ops[i]? =some o) (hk:Dm ops listed i=true) (r:o.guard=some (j,want)) (u:(ops[j]?).bind (·.dst)=some t) (x:t < n) (d:E t=undef) (q:o.dst=some dd) (v:dd < n) (hm:∀l w,S (l.setIfInBounds i true) w→S l w) (p:S (listed.setIfInBounds i true) W) (h:PX P n ops Q S fuel (listed.setIfInBounds i true) (qa E dd undef) W):PX P n ops Q S (fuel+1) listed E W :=
 MT i s hk (λa ha=>by have z:=ha.H3 u x d; simp [Region.wanted,r,z]) q v hm p h
theorem IY {o:Oper} {dd:Nat} (i:Nat) (A:ops[i]? =some o) (q:Region.ready .any ops listed=[i]) (hw:uz n ops E o) (s:o.dst=some dd) (u:dd < n) (h:pf P E o W λv W'=>S (listed.setIfInBounds i true) W'∧PX P n ops Q S fuel (listed.setIfInBounds i true) (qa E dd v) W'):PX P n ops Q S (fuel+1) listed E W:=λr a ha=>by
 have d:i∈Region.ready .any ops listed:=by rw [q]; simp
 refine ⟨λz=>(by rw [z] at q; cases q),λj w=>?_⟩
 rw [q] at w
 obtain rfl:=bH.1 w
 unfold wpOp
 simp only [A]
 rw [cE (hw.of ha)]
 refine .inl ?_
 unfold Oper.wp
 rw [ha.eval]
 rcases h with ⟨v,W',h1,p⟩ | ⟨W',h1,p⟩ | ⟨f,args,h1,p⟩
 ·rw [h1,jX]; exact ⟨p.1,by rw [s]; exact p.2 (r.set d) _ (ha.put u v)⟩
 ·rw [h1,Oper.upon_skip]; exact ⟨p.1,by rw [s]; exact p.2 (r.set d) _ (ha.put u _)⟩
 ·rw [h1,jY]
  refine dI p ?_
  rintro e G ⟨v,rfl,x⟩
  exact ⟨x.1,by simp only [s]; exact x.2 (r.set d) _ (ha.put u v)⟩
theorem Tx {o:Oper} (i:Nat) (z:ops[i]? =some o) (q:Region.ready .any ops listed=[i]) (hw:uz n ops E o) (s:o.dst=none) (h:pf P E o W λ_ W'=>S (listed.setIfInBounds i true) W'∧PX P n ops Q S fuel (listed.setIfInBounds i true) E W'):PX P n ops Q S (fuel+1) listed E W:=λr a ha=>by
 have d:i∈Region.ready .any ops listed:=by rw [q]; simp
 refine ⟨λx=>(by rw [x] at q; cases q),λj u=>?_⟩
 rw [q] at u
 obtain rfl:=bH.1 u
 unfold wpOp
 simp only [z]
 rw [cE (hw.of ha)]
 refine .inl ?_
 unfold Oper.wp
 rw [ha.eval]
 rcases h with ⟨v,W',h1,p⟩ | ⟨W',h1,p⟩ | ⟨f,args,h1,p⟩
 ·rw [h1,jX,s]; exact ⟨p.1,p.2 (r.set d) _ (ha.AR _)⟩
 ·rw [h1,Oper.upon_skip,s]; exact ⟨p.1,p.2 (r.set d) _ (ha.AR _)⟩
 ·rw [h1,jY]
  refine dI p ?_
  rintro e A ⟨v,rfl,w⟩
  simp only [s]
  exact ⟨w.1,w.2 (r.set d) _ (ha.AR _)⟩
theorem lH (j:Region.ready .any ops listed=[]) (h:Q .normal E W):PX P n ops Q S fuel listed E W:=λ_ a ha=>by
 cases fuel with
 | zero=>exact ⟨j,E,ha,h⟩
 | succ f=>exact ⟨λ_=>⟨E,ha,h⟩,λi d=>by rw [j] at d; cases d⟩
theorem vp {p:Prop} {b:Bool} (hb:b=true) (h:b=false):p:=by rw [hb] at h; cases h
theorem nf {d:Array Bool} (i:listed=d) (h:PX P n ops Q S fuel d E W):PX P n ops Q S fuel listed E W:=by rw [i]; exact h
theorem D8 {o x:Oper} {d z:Nat} (i j:Nat) (U:ops[i]? =some o) (Y:ops[j]? =some x) (w:Region.ready .any ops listed=[i,j]) (hw:uz n ops E o) (J:uz n ops E x) (s:o.dst=some d) (G:x.dst=some z) (u:d < n) (I:z < n) (h:pf P E o W λv W'=>S (listed.setIfInBounds i true) W'∧PX P n ops Q S fuel (listed.setIfInBounds i true) (qa E d v) W') (R:pf P E x W λv W'=>S (listed.setIfInBounds j true) W'∧PX P n ops Q S fuel (listed.setIfInBounds j true) (qa E z v) W'):PX P n ops Q S (fuel+1) listed E W:=λA a ha=>by
 have key:∀(k:Nat) (q:Oper) (e:Nat),ops[k]? =some q→k∈Region.ready .any ops listed→uz n ops E q→q.dst=some e→e < n→(pf P E q W λv W'=>S (listed.setIfInBounds k true) W'∧PX P n ops Q S fuel (listed.setIfInBounds k true) (qa E e v) W')→
   wpOp P ops (lift n Q) k (λO L=>S (listed.setIfInBounds k true) L∧Ng P ops (lift n Q) S fuel (listed.setIfInBounds k true) O L) a W:=by
  intro k q e hk p hw s u h
  unfold wpOp
  simp only [hk]
  rw [cE (hw.of ha)]
  refine .inl ?_
  unfold Oper.wp
  rw [ha.eval]
  rcases h with ⟨v,W',h1,r⟩ | ⟨W',h1,r⟩ | ⟨f,args,h1,r⟩
  ·rw [h1,jX]; exact ⟨r.1,by rw [s]; exact r.2 (A.set p) _ (ha.put u v)⟩
  ·rw [h1,Oper.upon_skip]; exact ⟨r.1,by rw [s]; exact r.2 (A.set p) _ (ha.put u _)⟩
  ·rw [h1,jY]
   refine dI r ?_
   rintro e L ⟨v,rfl,M⟩
   exact ⟨M.1,by simp only [s]; exact M.2 (A.set p) _ (ha.put u v)⟩
 refine ⟨λT=>(by rw [T] at w; cases w),λk hk=>?_⟩
 rw [w] at hk
 rcases aY.1 hk with rfl | hk
 ·exact key _ o d U (by rw [w]; simp) hw s u h
 ·obtain rfl:=bH.1 hk
  exact key _ x z Y (by rw [w]; simp) J G I R
theorem lO {l:Array Bool} {i j:Nat} {A:Prop} (d:Nat.beq i j=false) (h:(l.setIfInBounds i true).getD j true=false→A):l.getD j true=false→A:=λn=>h (by
 rw [kk true (λe=>by subst e; simp at d)]; exact n)
end
theorem CQ.at {α:Type} {e:TypeId} {enc:α→List Value} {k:Nat} {v:Value} {l:List α} {R:List (Nat×Obj)} (h:lm e enc k v l R) (hk:∀x,(enc x).length=k) {p:Value} {i:Nat} (hp:CQ R k p i) {x:α} (q:l[i]? =some x):At (DI R) p (enc x):=by
 obtain ⟨j,d,cap,rfl,rfl,_,_,_,_,rfl,n⟩:=Ew h hk hp q
 exact ⟨j,i*k,d,e,(0,0),rfl,by simp [DI],n⟩
theorem Am.form {κ β:Type} {kenc:κ→Value} {vf:β→Value} {μ:lF} {v:Value} {l:List (κ×β)} (h:Am kenc vf μ v l):∃r,v= .map r:=by
 rcases h with ⟨h,_⟩ | ⟨m,es,clock,h,_⟩
 ·exact ⟨_,h⟩
 ·exact ⟨_,h⟩
end Go.Proofs.YtjjjihkifgdhgaaGreatDoor
namespace Go.Proofs.YtjjjihkifgdhgaaGreatDoor
open Go.RowKit
variable [M:Md]
section
variable {P:Program} {n:Nat} {Q:rJ} {E:Nat→Value} {W:World} {ops:Array Oper} {rest:List Oper}
variable {dd:Bool} {α:Type} {enc:α→List Value} {k:Nat} {μ:lF} {v:Value}
variable {d:Option Nat} {ty:TypeId} {pos:String} {af:Array Edge} {g:Option (Nat×Bool)} {F:Nat→Prop} {w:World} {L:List (Nat×Obj)}
theorem O3 {x y:Operand} {ats:Array TypeId} {k:IntKind} {a b:Int} (i:kW E x= .int k a) (j:kW E y= .int k b) :
  nt P E ⟨d,.call ⟨.builtin .max,#[x,y],ats⟩,ty,pos,af,g⟩ W (.int k (if b > a then b else a)) W:=by
 show (do let d ←resolve (kW E) ⟨.builtin .max,#[x,y],ats⟩ ty; invoke d.target d.args:Sem Next).run P W=_
 simp [resolve,invoke,i,j,builtin,Builtin.max_,Builtin.max2]
end
end Go.Proofs.YtjjjihkifgdhgaaGreatDoor
namespace Go.Proofs.YtjjjihkifgdhgaaGreatDoor
open Go.RowKit
variable {dd:Bool}
section
variable {P:Program} {fn:Func} {R:Ending→World→Prop} {E:Nat→Value} {W:World}
theorem xg {r0:Tmp} {t0:TypeId} {a0:Addr} {v0:Value} {r1:Tmp} {v1:Value} (i:fn.results=#[.cell r0 t0,.tmp r1]) (d:E r0= .pointer (some a0)) (n:(Instr.loadAt t0 (.pointer (some a0))).run P W= .ok v0 W) (h1:E r1=v1) (h:R (.returned (.tuple #[v0,v1])) W):yv P fn R .ret E W :=
 ⟨.tuple #[v0,v1],λtmps j=>by
  have p:(loadVar t0 a0).run P W= .ok v0 W:=by simpa [Instr.loadAt,Instr.sureAddr] using n
  simp [results,i,j,asAddr,d,p,h1],h⟩
theorem LB {r0:Tmp} {v0:Value} {r1:Tmp} {v1:Value} {d:Tmp} {v2:Value} (n:fn.results=#[.tmp r0,.tmp r1,.tmp d]) (i:E r0=v0) (h1:E r1=v1) (j:E d=v2) (h:R (.returned (.tuple #[v0,v1,v2])) W):yv P fn R .ret E W :=
 ⟨.tuple #[v0,v1,v2],λtmps p=>by
  skip
  simp [results,n,p,asAddr,i,h1,j],h⟩
end
end Go.Proofs.YtjjjihkifgdhgaaGreatDoor
namespace Go.Proofs.YtjjjihkifgdhgaaGreatDoor
open Go.RowKit
variable [M:Md]
section
variable {x y:Nat×Obj} {A B C L R S:List (Nat×Obj)}
theorem Pz:(x::A).Perm (x::A):=.refl _
theorem Pb (h:A.Perm (x::B)):(y::A).Perm (x::y::B):=(h.cons y).trans (.swap ..)
theorem Pr (h:A.Perm (x::B)):(S++A).Perm (x::(S++B)):=(h.append_left S).trans gp
theorem Qz:(R++A).Perm (R++A):=.refl _
theorem Qb (h:A.Perm (R++B)):(y::A).Perm (R++(y::B)):=(h.cons y).trans List.perm_middle.symm
theorem Qr (h:A.Perm (R++B)):(S++A).Perm (R++(S++B)):=(h.append_left S).trans (ic S R B)
def oZ (L L':List (Nat×Obj)):Prop:=∃M,L.Perm (L'++M)
theorem Sn:oZ L []:=⟨L,.refl _⟩
theorem St:oZ L L:=⟨[],by rw [bB]⟩
theorem Sb (h:L.Perm (x::A)) (k:oZ A B):oZ L (x::B):=let ⟨M,m⟩:=k; ⟨M,h.trans (m.cons x)⟩
theorem Sr (h:L.Perm (R++A)) (k:oZ A B):oZ L (R++B):=let ⟨M,m⟩:=k; ⟨M,by rw [aW]; exact h.trans (m.append_left R)⟩
theorem Kb (k:oZ A B):oZ (x::A) (x::B):=Sb Pz k
theorem Kr (k:oZ A B):oZ (R++A) (R++B):=Sr Qz k
theorem Db (k:oZ A B):oZ (x::A) B:=let ⟨M,m⟩:=k; ⟨x::M,(m.cons x).trans List.perm_middle.symm⟩
theorem Dr (k:oZ A B):oZ (R++A) B:=let ⟨M,m⟩:=k; ⟨R++M,(m.append_left R).trans (ic R B M)⟩
theorem oZ.mem (s:oZ L A):∀p,p∈A→p∈L:=λp hp=>let ⟨M,m⟩:=s; m.mem_iff.2 (dK _ hp)
theorem ST.kB {dd:Bool} {F:Nat→Prop} {w W:World} {μ:lF} (h:ST dd F w W μ L) (s:oZ L A):ST dd F w W μ A:=let ⟨M,m⟩:=s; (h.perm m).sublist (List.sublist_append_left A M)
theorem pB.kB {μ:lF} {W:World} (h:pB μ L W) (s:oZ L A):pB μ A W:=h.sub (lz.refl _) s.mem
theorem pB.DM {μ μ':lF} {W:World} (h:pB μ L W) (d:lz μ' μ) (s:oZ L A):pB μ' A W:=h.sub d s.mem
theorem Cn:L.Perm ([]++L):=.refl _
theorem Cb (h:L.Perm (x::A)) (k:A.Perm (B++C)):L.Perm ((x::B)++C):=h.trans (k.cons x)
theorem Cr (h:L.Perm (R++A)) (k:A.Perm (B++C)):L.Perm ((R++B)++C):=by rw [aW]; exact h.trans (k.append_left R)
theorem C0 (k:L.Perm (B++C)):L.Perm (([]++B)++C):=k
theorem Cs (h:L.Perm (x::A)) (k:A.Perm (B++C)):L.Perm (([x]++B)++C):=Cb h k
theorem Tn:([]++A).Perm A:=.refl _
theorem Tb (h:(A++B).Perm C):((x::A)++B).Perm (x::C):=h.cons x
theorem Tr (h:(A++B).Perm C):((R++A)++B).Perm (R++C):=by rw [aW]; exact h.append_left R
theorem Nb (h:L.Perm (x::A)) (k:A.Perm B):L.Perm (x::B):=h.trans (k.cons x)
theorem Nr (h:L.Perm (R++A)) (k:A.Perm B):L.Perm (R++B):=h.trans (k.append_left R)
theorem Nz:L.Perm L:=.refl _
theorem Mh:x∈x::A:=.head _
theorem Mt (h:x∈A):x∈y::A:=.tail _ h
theorem Ma (h:x∈A):x∈R++A:=gA _ h
theorem Ml (h:x∈R):x∈R++A:=dK _ h
end
section
variable {dd:Bool} {F:Nat→Prop} {w W:World} {μ:lF} {L L0 L1 Y R:List (Nat×Obj)}
theorem ST.OL (h:ST dd lD w W μ L) (s:oZ L L1):wv dd [] L1 w W:=let ⟨_,m⟩:=s; (h.perm m).TA
theorem ST.od (h:ST dd (keys L0) w W μ L) (s:oZ L L1):wv dd L0 L1 w W:=let ⟨_,m⟩:=s; (h.perm m).TD
theorem ST.Km:∀{R:List (Nat×Obj)} {μ:lF},ST dd F w W μ (R++Y)→∃μ',ST dd F w W μ' Y∧lz μ μ'∧Lo F w μ μ'∧∀b o,(b,o)∈R→μ' b=some o
 | [],μ,h=>⟨μ,h,lz.refl _,Lo.refl,λ_ _ h=>by cases h⟩
 | (g,o)::R,μ,h=>by
  have d:ST dd F w W μ ([]++(g,o)::(R++Y)):=h
  obtain ⟨μ',i,a2,a3,a4⟩:=ST.Km (R:=R) (ST.I8 (A:=[]) d)
  refine ⟨μ',i,(ST.IQ (A:=[]) d).trans a2,(ST.O6 (A:=[]) d).trans a3,λb j hb=>?_⟩
  rcases aY.1 hb with hb | hb
  ·cases hb; exact a2 _ _ (cE rfl)
  ·exact a4 b j hb
theorem ST.PK {α:Type} {e':TypeId} {enc:α→List Value} {k:Nat} {v:Value} {l:List α} (d:ST dd F w W μ (R++Y)) (h:lm e' enc k v l R) (hk:∀x,(enc x).length=k):∃μ',ST dd F w W μ' Y∧lz μ μ'∧Lo F w μ μ'∧Sl (Pl enc) k μ' v l:=by
 obtain ⟨μ',i,a2,a3,a4⟩:=ST.Km d
 exact ⟨μ',i,a2,a3,h.sl hk a4⟩
section
variable {P:Program} {n:Nat} {Q:rJ} {E:Nat→Value} {V:World} {id:Nat} {l:List Oper} {A B C:List (Nat×Obj)}
theorem lC (i:pB μ A V.drew) (hm:P.follows .mixedOrders=true) (h:PX P n l.toArray Q (λ_ W=>pB μ A W) l.length (Array.replicate l.length false) E V.drew) (d:NE l=true:=by kernel_rfl):CW P n (.region id l.toArray true) Q E V:=La _ hm h d
theorem sM (i:Nat) (j:pB μ A V.drew) (h1:pB μ B V.drew) (hm:P.follows .mixedOrders=true) (h:PX P n l.toArray Q (λl W=>pB μ A W∧(l.getD i true=false→pB μ B W)) l.length (Array.replicate l.length false) E V.drew) (d:NE l=true:=by kernel_rfl):CW P n (.region id l.toArray true) Q E V:=La _ hm h d
end
structure pe (μ:lF) (L0:List (Nat×Obj)) (w:World):Prop where
 H:F5 L0 w
 N:(L0.map (·.1)).Nodup
 S:lz μ (vL w L0)
theorem ST.IG (h:pe μ L0 w):ST dd (keys L0) w w μ L0:=(ST.SH h.H h.N).mK h.S
end
section
variable {dd:Bool} {P:Program} {E:Nat→Value} {W:World} {d:Option Nat} {ty:TypeId} {pos:String} {af:Array Edge} {g:Option (Nat×Bool)} {F:Nat→Prop} {w:World} {μ:lF} {L:List (Nat×Obj)}
theorem lp {K:Value→World→Prop} {B:List (Nat×Obj)} {t:TypeId} {x y:Operand} (v:Value) {b off:Nat} {cs:Array Value} {T:TypeId} (i:Array Value) (j:ST dd F w W μ ((b,.cells cs T (0,0))::B)) (r:kW E x= .pointer (some ⟨b,off,none⟩)) (s:kW E y=v) (n:∀w,(sizeOf t).run P w= .ok v.cells.size w) (h1:∀u∈v.cells.toList,u.oneCell'=true) (q:off+v.cells.size≤cs.size) (p:(cs.toList.take off++v.cells.toList++cs.toList.drop (off+v.cells.size)).toArray=i) (h:∀W',ST dd F w W' μ ((b,.cells i T (0,0))::B)→K undef W'):pf P E ⟨d,.store t x y,ty,pos,af,g⟩ W K:=Rz [] v i j r s n h1 q p h
end
section
variable {dd:Bool}
variable {P:Program} {n:Nat} {Q:rJ} {E:Nat→Value} {W:World} {ops:Array Oper} {rest:List Oper}
 {d:Option Nat} {ty:TypeId} {pos:String} {af:Array Edge} {g:Option (Nat×Bool)}
 {F:Nat→Prop} {w:World} {μ:lF} {L:List (Nat×Obj)}
theorem pK {K:Value→World→Prop} {α:Type} {e t:TypeId} {enc:α→List Value} {k j:Nat} {z v vs:Value} {l m r:List α} {R Y:List (Nat×Obj)} {x y:Operand} {i:TypeInfo} (n:ST dd F w W μ (R++Y)) (hk:∀x,(enc x).length=k) (q:0 < k) (h1:∀x,∀u∈enc x,u.oneCell'=true) (M:P.underlying t=some (.slice e)) (J:P.info? e=some i) (T:i.zero=some z) (A:z.cells.size=k) (s:i.size=k) (p:i.bytes=j) (O:kW E x=v) (Q:kW E y=vs) (I:lm e enc k v l R) (L:Sl (Pl enc) k (hp W) vs m) (hb:oB j l m=some r) (h:∀W' G R',ST dd F w W' μ (R'++Y)→lm e enc k G r R'→K G W'):pf P E ⟨d,.call ⟨.builtin .append,#[x,y],#[t,t]⟩,ty,pos,af,g⟩ W K :=
 KA [] n hk q h1 M J T A s p O Q I L hb h
end
section
variable {dd:Bool}
variable {P:Program} {E:Nat→Value} {W:World} {d:Option Nat} {ty:TypeId} {pos:String} {af:Array Edge} {g:Option (Nat×Bool)}
 {F:Nat→Prop} {w:World} {μ:lF} {L:List (Nat×Obj)}
theorem Np {K:Value→World→Prop} {α:Type} {e:TypeId} {enc:α→List Value} {k:Nat} {l:List α} {f:FuncId} {fv:Operand} {ax:Array Operand} {ats:Array TypeId} {caps:Array Value} {args:List Value} (Y:List (Nat×Obj)) (i:ST dd F w W μ Y) (n:kW E fv= .func (.func f) #[] caps) (he:∀args w,(callFunc f args).run P w= .ok (.enter f args) w) (ha:ax.map (kW E)++caps=args.toArray) (j:oU dd P f args W e enc k l) (h:∀W' v μ' R,ST dd F w W' μ' (R++Y)→lz μ μ'→Lo F w μ μ'→lm e enc k v l R→K v W'):pf P E ⟨d,.call ⟨.value fv,ax,ats⟩,ty,pos,af,g⟩ W K :=
 NF [] Y i n he ha j h
end
section
variable {dd:Bool}
variable {P:Program} {E:Nat→Value} {W:World} {d:Option Nat} {ty:TypeId} {pos:String} {af:Array Edge} {g:Option (Nat×Bool)}
 {F:Nat→Prop} {w:World} {μ:lF} {L:List (Nat×Obj)} {α:Type} {e':TypeId} {enc:α→List Value} {k:Nat} {v:Value} {l:List α} {R:List (Nat×Obj)}
theorem qZ {K:Value→World→Prop} {Y:List (Nat×Obj)} {t:TypeId} {x y:Operand} {p u:Value} {i:Nat} {x0 x1:α} (j:ST dd F w W μ (R++Y)) (h:lm e' enc k v l R) (hk:∀x,(enc x).length=k) (h1:∀x,∀u∈enc x,u.oneCell'=true) (s:kW E x=p) (z:kW E y=u) (hu:u.cells=(enc x1).toArray) (hp:CQ R k p i) (r:l[i]? =some x0) (q:∀w,(sizeOf t).run P w= .ok k w) (n:∀W' R',ST dd F w W' μ (R'++Y)→lm e' enc k v (l.set i x1) R'→K undef W'):pf P E ⟨d,.store t x y,ty,pos,af,g⟩ W K :=
 NJ [] j h hk h1 s z hu hp r q n
end
section
variable {dd:Bool}
variable {P:Program} {E:Nat→Value} {W:World} {d:Option Nat} {ty:TypeId} {pos:String} {af:Array Edge} {g:Option (Nat×Bool)}
 {F:Nat→Prop} {w:World} {μ:lF} {L:List (Nat×Obj)} {α:Type} {e':TypeId} {enc:α→List Value} {k:Nat} {v:Value} {l:List α} {R:List (Nat×Obj)}
theorem DT {K:Value→World→Prop} (z:α) {Y:List (Nat×Obj)} {t e:TypeId} {x:Operand} {u n:Value} {i:Nat} (j:ST dd F w W μ (R++Y)) (h:lm e' enc k v l R) (hk:∀x,(enc x).length=k) (h1:∀x,∀u∈enc x,u.oneCell'=true) (r:P.underlying t=some (.slice e)) (A:∀w,(zeroValue e).run P w= .ok n w) (hu:BP k v i u) (q:n.cells=(enc z).toArray) (s:kW E x=u) (p:∀W' R',ST dd F w W' μ (R'++Y)→lm e' enc k v (qp l i z) R'→K (.tuple #[]) W'):pf P E ⟨d,.call ⟨.builtin .clear,#[x],#[t]⟩,ty,pos,af,g⟩ W K :=
 Mi z [] j h hk h1 r A hu q s p
end
section
variable {dd:Bool}
variable {κ γ:Type} {Q:Value→γ→List (Nat×Obj)→Prop} {beq:κ→κ→Bool} {kenc:κ→Value}
variable {P:Program} {W:World} {kt:TypeId} {E:Nat→Value} {d:Option Nat} {ty:TypeId} {pos:String} {af:Array Edge} {g:Option (Nat×Bool)} {F:Nat→Prop} {w:World} {μ:lF} {L:List (Nat×Obj)}
variable {κ2 β:Type} {kenc2:κ2→Value} {vf:β→Value} {beq2:κ2→κ2→Bool} {kt2:TypeId}
theorem Om {n:Value→World→Prop} {Y R:List (Nat×Obj)} {t e:TypeId} {m x y:Operand} {r:Value} {j:List (κ×Value)} {l q:List (κ×List (κ2×β))} {k:κ} {p:κ2} {v:β} (hk:∀{x y:κ},beq x y=true→x=y) (K:uy P kt2 kenc2 beq2) (z:P.underlying t=some (.map kt2 e)) (i:ST dd F w W μ (R++Y)) (h:pI kenc (nI kenc2 vf) r j l R) (hm:kW E m=ua beq j k (.map none)) (A:kW E x=kenc2 p) (G:kW E y=vf v) (u:NK beq beq2 l k p v=some q) (s:∀W' R',ST dd F w W' μ (R'++Y)→pI kenc (nI kenc2 vf) r j q R'→n undef W'):pf P E ⟨d,.mapUpdate t m x y,ty,pos,af,g⟩ W n :=
 Ph [] hk K z i h hm A G u s
end
section
variable {dd:Bool}
variable {κ γ:Type} {Q:Value→γ→List (Nat×Obj)→Prop} {beq:κ→κ→Bool} {kenc:κ→Value}
variable {P:Program} {W:World} {kt:TypeId} {E:Nat→Value} {d:Option Nat} {ty:TypeId} {pos:String} {af:Array Edge} {g:Option (Nat×Bool)} {F:Nat→Prop} {w:World} {μ:lF} {L:List (Nat×Obj)}
variable {κ2 β:Type} {kenc2:κ2→Value} {vf:β→Value} {beq2:κ2→κ2→Bool} {kt2:TypeId}
theorem Ps {n:Value→World→Prop} {Y R R2:List (Nat×Obj)} {t e:TypeId} {m x y:Operand} {j:Value} {q:List (κ×Value)} {l p:List (κ×γ)} {k:κ} {u:Value} {z:γ} (K:uy P kt kenc beq) (A:P.underlying t=some (.map kt e)) (i:ST dd F w W μ (R++(R2++Y))) (h:pI kenc Q j q l R) (hm:kW E m=j) (G:kW E x=kenc k) (I:kW E y=u) (v:Q u z R2) (s:Oi beq l k z=some p) (r:∀W' R',ST dd F w W' μ (R'++Y)→pI kenc Q j (xj beq q k u) p R'→n undef W'):pf P E ⟨d,.mapUpdate t m x y,ty,pos,af,g⟩ W n :=
 Oy [] K A i h hm G I v s r
end
section
variable {dd:Bool}
variable {α:Type} {e:TypeId} {enc:α→List Value} {k:Nat} {v:Value} {l:List α} {R:List (Nat×Obj)}
variable {P:Program} {W:World} {E:Nat→Value} {d:Option Nat} {ty:TypeId} {pos:String} {af:Array Edge} {g:Option (Nat×Bool)} {F:Nat→Prop} {w:World} {μ:lF} {L:List (Nat×Obj)}
theorem Mc {K:Value→World→Prop} {t:TypeId} {j:Nat} {z vs:Value} {m r:List α} {Y:List (Nat×Obj)} {x y:Operand} {i:TypeInfo} (n:ST dd F w W μ (R++Y)) (hk:∀x,(enc x).length=k) (q:0 < k) (h1:∀x,∀u∈enc x,u.oneCell'=true) (M:P.underlying t=some (.slice e)) (J:P.info? e=some i) (T:i.zero=some z) (A:z.cells.size=k) (s:i.size=k) (p:i.bytes=j) (O:kW E x=v) (Q:kW E y=vs) (I:sL e enc k v l R) (L:Sl (Pl enc) k (hp W) vs m) (hb:oB j l m=some r) (h:∀W' G R',ST dd F w W' μ (R'++Y)→sL e enc k G r R'→K G W'):pf P E ⟨d,.call ⟨.builtin .append,#[x,y],#[t,t]⟩,ty,pos,af,g⟩ W K :=
 L6 [] n hk q h1 M J T A s p O Q I L hb h
end
end Go.Proofs.YtjjjihkifgdhgaaGreatDoor
namespace Go.Proofs.YtjjjihkifgdhgaaGreatDoor
open Go.RowKit
variable [M:Md]
section
variable {P:Program} {n:Nat} {Q:rJ} {E:Nat→Value} {W:World} {ops:Array Oper} {rest:List Oper}
variable {d j t:Nat} {want:Bool} {v:Value} {ins:Go.Op} {ty:TypeId} {pos:String} {af:Array Edge} {A:Value→Prop}
theorem V (j:nt P E ⟨some d,ins,ty,pos,af,none⟩ W v W) (h:LW P n ops Q rest (qa E d v) W) (i:d < n:=by decide):LW P n ops Q (⟨some d,ins,ty,pos,af,none⟩::rest) E W:=I3 (.inl rfl) rfl i j h
theorem VE (h:pf P E ⟨some d,ins,ty,pos,af,none⟩ W λv W'=>LW P n ops Q rest (qa E d v) W') (i:d < n:=by decide):LW P n ops Q (⟨some d,ins,ty,pos,af,none⟩::rest) E W:=Se (.inl rfl) rfl i h
theorem VO (h:pf P E ⟨none,ins,ty,pos,af,none⟩ W λ_ W'=>LW P n ops Q rest E W'):LW P n ops Q (⟨none,ins,ty,pos,af,none⟩::rest) E W:=TE (.inl rfl) rfl h
theorem VQ (j:∃p,A p∧∀W,nt P E ⟨some d,ins,ty,pos,af,none⟩ W p W) (h:∀p,A p→LW P n ops Q rest (qa E d p) W) (i:d < n:=by decide):LW P n ops Q (⟨some d,ins,ty,pos,af,none⟩::rest) E W:=Uo (.inl rfl) rfl i j h
theorem Vg (p:(ops[j]?).bind (·.dst)=some t) (i:E t= .bool want) (r:nt P E ⟨some d,ins,ty,pos,af,some (j,want)⟩ W v W) (h:LW P n ops Q rest (qa E d v) W) (s:t < n:=by decide) (q:d < n:=by decide):LW P n ops Q (⟨some d,ins,ty,pos,af,some (j,want)⟩::rest) E W:=I3 (.inr ⟨j,want,t,rfl,p,s,i⟩) rfl q r h
theorem Pa (p:(ops[j]?).bind (·.dst)=some t) (i:E t= .bool want) (h:pf P E ⟨some d,ins,ty,pos,af,some (j,want)⟩ W λv W'=>LW P n ops Q rest (qa E d v) W') (r:t < n:=by decide) (q:d < n:=by decide):LW P n ops Q (⟨some d,ins,ty,pos,af,some (j,want)⟩::rest) E W:=Se (.inr ⟨j,want,t,rfl,p,r,i⟩) rfl q h
theorem Vn (p:(ops[j]?).bind (·.dst)=some t) (i:E t= .bool (!want)) (h:LW P n ops Q rest (qa E d undef) W) (r:t < n:=by decide) (q:d < n:=by decide):LW P n ops Q (⟨some d,ins,ty,pos,af,some (j,want)⟩::rest) E W:=Tu rfl q rfl p r i h
theorem Vu (p:(ops[j]?).bind (·.dst)=some t) (i:E t=undef) (h:LW P n ops Q rest (qa E d undef) W) (r:t < n:=by decide) (q:d < n:=by decide):LW P n ops Q (⟨some d,ins,ty,pos,af,some (j,want)⟩::rest) E W:=Sz rfl q rfl p r i h
end
section
variable {P:Program} {n:Nat} {Q:rJ} {E:Nat→Value} {W:World} {ops:Array Oper} {S:Array Bool→World→Prop} {fuel:Nat} {listed:Array Bool} {μ:lF} {B:List (Nat×Obj)}
variable {d j t:Nat} {want:Bool} {v:Value} {ins:Go.Op} {ty:TypeId} {pos:String} {af:Array Edge} {A:Value→Prop}
theorem X (i:Nat) (p:ops[i]? =some ⟨some d,ins,ty,pos,af,none⟩) (j:S (listed.setIfInBounds i true) W) (r:∀{W},nt P E ⟨some d,ins,ty,pos,af,none⟩ W v W) (h:PX P n ops Q S fuel (listed.setIfInBounds i true) (qa E d v) W) (hk:Dm ops listed i=true:=by kernel_rfl) (hm:∀l w,S (l.setIfInBounds i true) w→S l w:=by exact λ_ _ h=>h) (q:d < n:=by decide):PX P n ops Q S (fuel+1) listed E W:=lG i p hk (.inl rfl) rfl q hm j (λ_ _ _ _=>r) h
theorem XH (i:Nat) (p:ops[i]? =some ⟨some d,ins,ty,pos,af,none⟩) (j:pB μ B W) (r:∀W,pB μ B W→nt P E ⟨some d,ins,ty,pos,af,none⟩ W v W) (h:PX P n ops Q (λ_ W=>pB μ B W) fuel (listed.setIfInBounds i true) (qa E d v) W) (hk:Dm ops listed i=true:=by kernel_rfl) (q:d < n:=by decide):PX P n ops Q (λ_ W=>pB μ B W) (fuel+1) listed E W:=lG i p hk (.inl rfl) rfl q (λ_ _ h=>h) j (λ_ W _ h=>r W h) h
theorem XQ (i:Nat) (q:ops[i]? =some ⟨some d,ins,ty,pos,af,none⟩) (j:S (listed.setIfInBounds i true) W) (s:∃p,A p∧∀W,nt P E ⟨some d,ins,ty,pos,af,none⟩ W p W) (h:∀p,A p→PX P n ops Q S fuel (listed.setIfInBounds i true) (qa E d p) W) (hk:Dm ops listed i=true:=by kernel_rfl) (hm:∀l w,S (l.setIfInBounds i true) w→S l w:=by exact λ_ _ h=>h) (r:d < n:=by decide):PX P n ops Q S (fuel+1) listed E W:=np i q hk (.inl rfl) rfl r hm j s h
theorem XE (i:Nat) (j:ops[i]? =some ⟨some d,ins,ty,pos,af,none⟩) (h:pf P E ⟨some d,ins,ty,pos,af,none⟩ W λv W'=>S (listed.setIfInBounds i true) W'∧PX P n ops Q S fuel (listed.setIfInBounds i true) (qa E d v) W') (q:Region.ready .any ops listed=[i]:=by kernel_rfl) (p:d < n:=by decide):PX P n ops Q S (fuel+1) listed E W:=IY i j q (.inl rfl) rfl p h
theorem XO (i:Nat) (d:ops[i]? =some ⟨none,ins,ty,pos,af,none⟩) (h:pf P E ⟨none,ins,ty,pos,af,none⟩ W λ_ W'=>S (listed.setIfInBounds i true) W'∧PX P n ops Q S fuel (listed.setIfInBounds i true) E W') (j:Region.ready .any ops listed=[i]:=by kernel_rfl):PX P n ops Q S (fuel+1) listed E W:=Tx i d j (.inl rfl) rfl h
theorem Xg (i:Nat) (r:ops[i]? =some ⟨some d,ins,ty,pos,af,some (j,want)⟩) (s:(ops[j]?).bind (·.dst)=some t) (p:E t= .bool want) (q:S (listed.setIfInBounds i true) W) (z:∀{W},nt P E ⟨some d,ins,ty,pos,af,some (j,want)⟩ W v W) (h:PX P n ops Q S fuel (listed.setIfInBounds i true) (qa E d v) W) (hk:Dm ops listed i=true:=by kernel_rfl) (hm:∀l w,S (l.setIfInBounds i true) w→S l w:=by exact λ_ _ h=>h) (x:t < n:=by decide) (u:d < n:=by decide):PX P n ops Q S (fuel+1) listed E W:=lG i r hk (.inr ⟨j,want,t,rfl,s,x,p⟩) rfl u hm q (λ_ _ _ _=>z) h
theorem pu (i:Nat) (r:ops[i]? =some ⟨some d,ins,ty,pos,af,some (j,want)⟩) (s:(ops[j]?).bind (·.dst)=some t) (p:E t= .bool want) (q:pB μ B W) (x:∀W,pB μ B W→nt P E ⟨some d,ins,ty,pos,af,some (j,want)⟩ W v W) (h:PX P n ops Q (λ_ W=>pB μ B W) fuel (listed.setIfInBounds i true) (qa E d v) W) (hk:Dm ops listed i=true:=by kernel_rfl) (w:t < n:=by decide) (u:d < n:=by decide):PX P n ops Q (λ_ W=>pB μ B W) (fuel+1) listed E W:=lG i r hk (.inr ⟨j,want,t,rfl,s,w,p⟩) rfl u (λ_ _ h=>h) q (λ_ W _ h=>x W h) h
theorem yq (i:Nat) (q:ops[i]? =some ⟨some d,ins,ty,pos,af,some (j,want)⟩) (r:(ops[j]?).bind (·.dst)=some t) (p:E t= .bool want) (h:pf P E ⟨some d,ins,ty,pos,af,some (j,want)⟩ W λv W'=>S (listed.setIfInBounds i true) W'∧PX P n ops Q S fuel (listed.setIfInBounds i true) (qa E d v) W') (u:Region.ready .any ops listed=[i]:=by kernel_rfl) (w:t < n:=by decide) (s:d < n:=by decide):PX P n ops Q S (fuel+1) listed E W:=IY i q u (.inr ⟨j,want,t,rfl,r,w,p⟩) rfl s h
theorem Xn (i:Nat) (r:ops[i]? =some ⟨some d,ins,ty,pos,af,some (j,want)⟩) (s:(ops[j]?).bind (·.dst)=some t) (p:E t= .bool (!want)) (q:S (listed.setIfInBounds i true) W) (h:PX P n ops Q S fuel (listed.setIfInBounds i true) (qa E d undef) W) (hk:Dm ops listed i=true:=by kernel_rfl) (hm:∀l w,S (l.setIfInBounds i true) w→S l w:=by exact λ_ _ h=>h) (v:t < n:=by decide) (u:d < n:=by decide):PX P n ops Q S (fuel+1) listed E W:=TK i r hk rfl s v p rfl u hm q h
theorem Xu (i:Nat) (r:ops[i]? =some ⟨some d,ins,ty,pos,af,some (j,want)⟩) (s:(ops[j]?).bind (·.dst)=some t) (p:E t=undef) (q:S (listed.setIfInBounds i true) W) (h:PX P n ops Q S fuel (listed.setIfInBounds i true) (qa E d undef) W) (hk:Dm ops listed i=true:=by kernel_rfl) (hm:∀l w,S (l.setIfInBounds i true) w→S l w:=by exact λ_ _ h=>h) (v:t < n:=by decide) (u:d < n:=by decide):PX P n ops Q S (fuel+1) listed E W:=Sd i r hk rfl s v p rfl u hm q h
end
end Go.Proofs.YtjjjihkifgdhgaaGreatDoor
namespace Go.Proofs.YtjjjihkifgdhgaaGreatDoor
open Go.RowKit
section
variable {α β γ:Type}
inductive rf (Q:α→β→Prop):List α→List β→Prop
 | nil:rf Q [] []
 | cons {a:α} {b:β} {l:List α} {m:List β}:Q a b→rf Q l m→rf Q (a::l) (b::m)
namespace rf
variable {Q Q':α→β→Prop}
theorem length {l:List α} {m:List β} (h:rf Q l m):l.length=m.length:=by
 induction h with
 | nil=>rfl
 | cons _ _ ih=>simp [ih]
theorem imp {l:List α} {m:List β} (h:rf Q l m) (d:∀a b,Q a b→Q' a b):rf Q' l m:=by
 induction h with
 | nil=>exact .nil
 | cons h1 _ ih=>exact .cons (d _ _ h1) ih
theorem get {l:List α} {m:List β} (h:rf Q l m):∀{i:Nat} {b:β},m[i]? =some b→∃a,l[i]? =some a∧Q a b:=by
 induction h with
 | nil=>intro i b hb; simp at hb
 | cons h1 _ ih=>
  intro i b hb
  cases i with
  | zero=>simp at hb; subst hb; exact ⟨_,rfl,h1⟩
  | succ i=>simpa using ih (by simpa using hb)
theorem append {l d:List α} {m i:List β} (h:rf Q l m) (j:rf Q d i):rf Q (l++d) (m++i):=by
 induction h with
 | nil=>exact j
 | cons h1 _ ih=>exact .cons h1 ih
theorem set {l:List α} {m:List β} (h:rf Q l m) {a:α} {b:β} (j:Q a b):∀i:Nat,rf Q (l.set i a) (m.set i b):=by
 induction h with
 | nil=>intro i; exact .nil
 | cons h1 d ih=>
  intro i
  cases i with
  | zero=>exact .cons j d
  | succ i=>exact .cons h1 (ih i)
theorem take {l:List α} {m:List β} (h:rf Q l m):∀i:Nat,rf Q (l.take i) (m.take i):=by
 induction h with
 | nil=>intro i; simp; exact .nil
 | cons h1 _ ih=>
  intro i
  cases i with
  | zero=>exact .nil
  | succ i=>exact .cons h1 (ih i)
theorem drop {l:List α} {m:List β} (h:rf Q l m):∀i:Nat,rf Q (l.drop i) (m.drop i):=by
 induction h with
 | nil=>intro i; simp; exact .nil
 | cons h1 d ih=>
  intro i
  cases i with
  | zero=>exact .cons h1 d
  | succ i=>exact ih i
end rf
theorem DF {P:Nat→β→α→Prop}:∀{m:List β} (o:Nat),(∀(i:Nat) (b:β),m[i]? =some b→∃a,P (o+i) b a)→∃l:List α,l.length=m.length∧∀(i:Nat) (b:β),m[i]? =some b→∃a,l[i]? =some a∧P (o+i) b a
 | [],_,_=>⟨[],rfl,λi b h=>by simp at h⟩
 | b::m,o,h=>by
  obtain ⟨a,ha⟩:=h 0 b rfl
  obtain ⟨l,h1,j⟩:=DF (m:=m) (o+1) (λi b hb=>by
   obtain ⟨a,ha⟩:=h (i+1) b (by simpa using hb)
   exact ⟨a,by rw [show o+1+i=o+(i+1) by omega]; exact ha⟩)
  refine ⟨a::l,by simp [h1],λi c d=>?_⟩
  cases i with
  | zero=>simp at d; subst d; exact ⟨a,rfl,ha⟩
  | succ i=>
   obtain ⟨x,n,hp⟩:=j i c (by simpa using d)
   exact ⟨x,by simpa using n,by rw [show o+(i+1)=o+1+i by omega]; exact hp⟩
theorem rf.Pn {Q:α→β→Prop}:∀{l:List α} {m:List β},l.length=m.length→(∀(i:Nat) (a:α) (b:β),l[i]? =some a→m[i]? =some b→Q a b)→rf Q l m
 | [],[],_,_=>.nil
 | [],_::_,h,_=>by cases h
 | _::_,[],h,_=>by cases h
 | a::l,b::m,h,d=>.cons (d 0 a b rfl rfl) (rf.Pn (by simpa using h) (λi x y j n=>d (i+1) x y (by simpa using j) (by simpa using n)))
end
structure Deep {β:Type} (R:rB β) (k:Nat):Prop where
 mono:J4 R
 len:∀{μ ys x},R μ ys x→ys.length=k
 one:∀{μ ys x},R μ ys x→∀u∈ys,u.oneCell'=true
abbrev yc (k:Nat):={ys:List Value // ys.length=k∧∀u∈ys,u.oneCell'=true}
def wB {k:Nat} (c:yc k):List Value:=c.1
theorem AH {k:Nat} (x:yc k):(wB x).length=k:=x.2.1
theorem PO {k:Nat} (x:yc k):∀u∈wB x,u.oneCell'=true:=x.2.2
theorem Sl.wE {α:Type} {R:rB α} {k:Nat} {μ:lF} {v:Value} {l:List α} (h:Sl R k μ v l):v.oneCell'=true:=by
 obtain ⟨A,c,rfl,_⟩:=h; rfl
section
variable {β:Type} {Rl:rB β} {k:Nat} {μ μ':lF} {v:Value} {l:List β}
def Deep.cell (d:Deep Rl k) {ys:List Value} {x:β} (h:Rl μ ys x):yc k:=⟨ys,d.len h,d.one h⟩
theorem Sl.raw (I:Deep Rl k) (h:Sl Rl k μ v l):∃cl:List (yc k),Sl (Pl wB) k μ v cl∧rf (λc x=>Rl μ c.1 x) cl l:=by
 obtain ⟨A,c,rfl,h1,w,E⟩:=h
 cases l with
 | nil=>exact ⟨[],⟨A,c,rfl,h1,w,λh=>absurd h (by simp)⟩,.nil⟩
 | cons x0 l=>
  obtain ⟨b,off,cs,T,fr,rfl,hb,G⟩:=E (by simp)
  obtain ⟨cl,r,u⟩:=DF (P:=λi x (c:yc k)=>Rl μ c.1 x∧∀j y,c.1[j]? =some y→cs[off+i*k+j]? =some y) (m:=x0::l) 0 (λi x s=>by
   obtain ⟨ys,_,n,p⟩:=G i x s
   exact ⟨I.cell n,n,by rw [gG]; exact p⟩)
  refine ⟨cl,⟨_,c,by rw [r],by omega,w,λ_=>⟨b,off,cs,T,fr,rfl,hb,λi c q=>?_⟩⟩,rf.Pn r (λi c x q s=>?_)⟩
  ·have J:i < (x0::l).length:=by rw [←r]; exact (bK.1 q).1
   obtain ⟨z,d,_,p⟩:=u i _ (dE J)
   rw [q] at d; cases d
   exact ⟨c.1,c.2.1,rfl,by rw [gG] at p; exact p⟩
  ·obtain ⟨z,d,n,_⟩:=u i x s
   rw [q] at d; cases d
   exact n
theorem Sl.OF {cl:List (yc k)} (h:Sl (Pl wB) k μ v cl) (z:lz μ μ') (ha:rf (λc x=>Rl μ' c.1 x) cl l):Sl Rl k μ' v l:=by
 obtain ⟨A,c,rfl,h1,q,r⟩:=h
 have d:=ha.length
 refine ⟨A,c,by rw [d],by omega,q,λG=>?_⟩
 obtain ⟨b,off,cs,T,fr,rfl,hb,s⟩:=r (by omega)
 refine ⟨b,off,cs,T,fr,rfl,z _ _ hb,λi x E=>?_⟩
 obtain ⟨c,u,w⟩:=ha.get E
 obtain ⟨ys,j,n,p⟩:=s i c u
 cases n
 exact ⟨wB c,j,w,p⟩
def AB (Rl:rB β) (k:Nat) (μ:lF) (W:World) (v:Value) (l:List β):Prop:=∃cl:List (yc k),Sl (Pl wB) k (hp W) v cl∧rf (λc x=>Rl μ c.1 x) cl l
theorem AB.sl (i:Deep Rl k) {W:World} (h:Sl Rl k μ v l) (j:lz μ (hp W)):AB Rl k μ W v l:=by
 obtain ⟨cl,h1,d⟩:=h.raw i
 exact ⟨cl,h1.mono (Pl.mono _) j,d⟩
theorem Sl.PR {b m:Nat} {cl:List (yc k)} {cs:Array Value} {e:TypeId} (hm:cl.length=m) (d:m≤maxLen) (n:cs.toList=(cl.map wB).flatten) (hb:μ b=some (.cells cs e (0,0))):Sl (Pl wB) k μ (.slice (some ⟨b,0,none⟩) m m) cl:=by
 subst hm
 refine ⟨_,_,rfl,aQ _,d,λ_=>⟨b,0,_,_,_,rfl,hb,λi x p=>⟨wB x,AH x,rfl,λj y q=>?_⟩⟩⟩
 have:=xS AH cl i x p j y q
 rw [←n] at this
 simpa using this
inductive Ey (Rl:rB β) (k:Nat) (μ:lF):List Value→List β→Prop
 | nil:Ey Rl k μ [] []
 | cons {ys zs:List Value} {x:β} {l:List β}:Rl μ ys x→Ey Rl k μ zs l→Ey Rl k μ (ys++zs) (x::l)
theorem Ey.cells (i:Deep Rl k) {ys:List Value} (h:Ey Rl k μ ys l):∃cl:List (yc k),(cl.map wB).flatten=ys∧rf (λc x=>Rl μ c.1 x) cl l:=by
 induction h with
 | nil=>exact ⟨[],rfl,.nil⟩
 | cons h1 _ ih=>
  obtain ⟨cl,e,d⟩:=ih
  exact ⟨i.cell h1::cl,by rw [bA,aU,e]; rfl,.cons h1 d⟩
theorem AB.lit (j:Deep Rl k) {W:World} {b m:Nat} {ys:List Value} {e:TypeId} (h:Ey Rl k μ ys l) (hm:l.length=m) (n:m≤maxLen) (hb:W.heap[b]? =some (.cells ys.toArray e (0,0))):AB Rl k μ W (.slice (some ⟨b,0,none⟩) m m) l:=by
 obtain ⟨cl,i,d⟩:=h.cells j
 exact ⟨cl,Sl.PR (by rw [d.length]; exact hm) n i.symm hb,d⟩
theorem Sl.imp {R R':rB β} (h:Sl R k μ v l) (s:∀ys x,R μ ys x→R' μ ys x):Sl R' k μ v l:=by
 obtain ⟨A,c,rfl,h1,d,j⟩:=h
 refine ⟨A,c,rfl,h1,d,λu=>?_⟩
 obtain ⟨b,off,cs,T,fr,rfl,hb,n⟩:=j u
 exact ⟨b,off,cs,T,fr,rfl,hb,λi x w=>let ⟨ys,p,q,r⟩:=n i x w; ⟨ys,p,s _ _ q,r⟩⟩
theorem Gh:∀(l:List Nat) (n:Nat),n∈l→n≤l.foldr max 0
 | [],n,h=>by cases h
 | a::l,n,h=>by
  rcases aY.1 h with rfl | h
  ·exact Nat.le_max_left _ _
  ·exact eC (Gh l n h) (Nat.le_max_right _ _)
theorem Sl.TM {R:rB β} {d:Nat→rB β} (h:Sl R k μ v l) (J:∀ys x,R μ ys x→∃n,d n μ ys x) (up:∀n m ys x,n≤m→d n μ ys x→d m μ ys x):∃n,Sl (d n) k μ v l:=by
 obtain ⟨A,c,rfl,h1,w,G⟩:=h
 by_cases z:0 < l.length
 ·obtain ⟨b,off,cs,T,fr,rfl,hb,I⟩:=G z
  obtain ⟨M,O,E⟩:=DF (P:=λi x (p:Nat×List Value)=>p.2.length=k∧d p.1 μ p.2 x∧∀j y,p.2[j]? =some y→cs[off+i*k+j]? =some y) (m:=l) 0 (λi x u=>by
   obtain ⟨ys,r,s,q⟩:=I i x u
   obtain ⟨n,L⟩:=J _ _ s
   exact ⟨(n,ys),r,L,by rw [gG]; exact q⟩)
  refine ⟨(M.map (·.1)).foldr max 0,_,c,rfl,h1,w,λ_=>⟨b,off,cs,T,fr,rfl,hb,λi x u=>?_⟩⟩
  obtain ⟨p,hp,r,s,q⟩:=E i x u
  exact ⟨p.2,r,up _ _ _ _ (Gh _ _ (bE.2 ⟨p,cR hp,rfl⟩)) s,by rw [gG] at q; exact q⟩
 ·exact ⟨0,A,c,rfl,h1,w,λh=>absurd h z⟩
def ml (e:TypeId) (Rl:rB β) (k:Nat) (μ:lF) (v:Value) (l:List β) (B:List (Nat×Obj)):Prop:=∃cl:List (yc k),lm e wB k v cl B∧rf (λc x=>Rl μ c.1 x) cl l
variable {e:TypeId} {B:List (Nat×Obj)}
theorem ml.mono (i:Deep Rl k) (h:ml e Rl k μ v l B) (j:lz μ μ'):ml e Rl k μ' v l B:=by
 obtain ⟨cl,h1,d⟩:=h
 exact ⟨cl,h1,d.imp (λ_ _ h=>i.mono _ _ _ _ j h)⟩
theorem ml.nil (e:TypeId) (Rl:rB β) (k:Nat) (μ:lF):ml e Rl k μ (.slice none 0 0) [] []:=⟨[],lm.nil _ _ _,.nil⟩
theorem ml.lit (j:Deep Rl k) {b m:Nat} {ys:List Value} (h:Ey Rl k μ ys l) (hm:l.length=m) (n:m≤maxLen) (p:ys.length=m*k):ml e Rl k μ (.slice (some ⟨b,0,none⟩) m m) l [(b,.cells ys.toArray e (0,0))]:=by
 obtain ⟨cl,i,d⟩:=h.cells j
 exact ⟨cl,lm.lit (by rw [d.length]; exact hm) n i.symm (by simpa using p),d⟩
theorem ml.form (h:ml e Rl k μ v l B):∃A c,v= .slice A l.length c:=by
 obtain ⟨cl,h1,d⟩:=h
 rw [←d.length]; exact h1.form
theorem ml.len (h:ml e Rl k μ v l B):l.length≤9223372036854775807:=by
 obtain ⟨cl,h1,d⟩:=h
 rw [←d.length]; exact h1.len
theorem ml.nd (h:ml e Rl k μ v l B):(B.map (·.1)).Nodup:=let ⟨_,h1,_⟩:=h; h1.nd
theorem ml.isNil {n c:Nat} (h:ml e Rl k μ (.slice none n c) l B):l=[]:=by
 obtain ⟨cl,h1,d⟩:=h
 have:=d.length
 rw [h1.isNil] at this
 exact aI this.symm
theorem ml.sl (h:ml e Rl k μ v l B) (i:Deep Rl k) (j:lz μ μ') (hm:∀b o,(b,o)∈B→μ' b=some o):Sl Rl k μ' v l:=by
 obtain ⟨cl,h1,d⟩:=h
 exact Sl.OF (h1.sl AH hm) (lz.refl _) (d.imp (λ_ _ h=>i.mono _ _ _ _ j h))
end
section
variable {β:Type} {Rl:rB β} {k:Nat} {μ:lF} {v:Value} {l:List β} {e:TypeId} {B:List (Nat×Obj)}
variable {dd:Bool} {F:Nat→Prop} {w W:World} {L:List (Nat×Obj)}
theorem ml.T1 (h:ml e Rl k μ v l B) (i:Deep Rl k) (d:ST dd F w W μ L) (j:∀p,p∈B→p∈L):Sl Rl k (hp W) v l:=h.sl i d.kG (λ_ _ hb=>d.at_ (j _ hb))
theorem AB.row (h:ml e Rl k μ v l B) (d:ST dd F w W μ L) (j:∀p,p∈B→p∈L):AB Rl k μ W v l:=let ⟨cl,h1,i⟩:=h; ⟨cl,h1.T1 AH d j,i⟩
theorem ml.QO (h:ml e Rl k μ v l B) (d:ST dd lD w W μ L) (i:∀p,p∈B→p∈L):Fr w.heap.size v:=let ⟨_,h1,_⟩:=h; h1.QO d i
theorem ST.zX {Y:List (Nat×Obj)} (n:Deep Rl k) (d:ST dd F w W μ (B++Y)) (h:ml e Rl k μ v l B):∃μ',ST dd F w W μ' Y∧lz μ μ'∧Lo F w μ μ'∧Sl Rl k μ' v l:=by
 obtain ⟨cl,h1,j⟩:=h
 obtain ⟨μ',i,a2,a4,a3⟩:=ST.PK d h1 AH
 exact ⟨μ',i,a2,a4,Sl.OF a3 (lz.refl _) (j.imp (λ_ _ h=>n.mono _ _ _ _ a2 h))⟩
variable {P:Program} {E:Nat→Value} {d:Option Nat} {ty:TypeId} {pos:String} {af:Array Edge} {g:Option (Nat×Bool)}
theorem mo {t e':TypeId} {x j:Operand} {M:IntKind} {i:Int} {x0:β} {A:List Value→Prop} (G:∀{ys},Rl μ ys x0→A ys) (J:P.underlying t=some (.slice e')) (he:∀w,(sizeOf e').run P w= .ok k w) (L:kW E x=v) (u:kW E j= .int M i) (I:Sl Rl k μ v l) (n:0≤i) (z:l[i.toNat]? =some x0) :
  ∃p,(∃ys,A ys∧At μ p ys)∧∀W,nt P E ⟨d,.indexAddr t x j,ty,pos,af,g⟩ W p W:=by
 obtain ⟨p,ys,_,q,r,s⟩:=MW (d:=d) (ty:=ty) (pos:=pos) (af:=af) (g:=g) J he L u I n z
 exact ⟨p,⟨ys,G q,r⟩,s⟩
theorem wA {x:Operand} {t e':TypeId} (i:P.underlying t=some (.slice e')) (j:kW E x=v) (h:ml e Rl k μ v l B):nt P E ⟨d,.call ⟨.builtin .len,#[x],#[t]⟩,ty,pos,af,g⟩ W (.int .i64 l.length) W:=by
 obtain ⟨A,c,rfl⟩:=h.form
 exact Es i j
theorem mS {t e':TypeId} {x q:Operand} {O:IntKind} {i:Int} {x0:β} {A:List Value→Prop} (I:∀{ys},Rl μ ys x0→A ys) (L:P.underlying t=some (.slice e')) (he:∀w,(sizeOf e').run P w= .ok k w) (M:kW E x=v) (z:kW E q= .int O i) (h:ml e Rl k μ v l B) (r:0≤i) (G:l[i.toNat]? =some x0) :
  ∃p,(∃ys,A ys∧At (DI B) p ys∧CQ B k p i.toNat)∧∀W,nt P E ⟨d,.indexAddr t x q,ty,pos,af,g⟩ W p W:=by
 obtain ⟨cl,h1,s⟩:=h
 obtain ⟨c,n,J⟩:=s.get G
 obtain ⟨p,j,u⟩:=mh (d:=d) (ty:=ty) (pos:=pos) (af:=af) (g:=g) L he M z h1 r n
 exact ⟨p,⟨c.1,I J,j.at h1 AH n,j⟩,u⟩
theorem P9 {α n:Type} {d:Nat} {l m r:List α} {i j:List n} (h:oB d l m=some r) (h1:i.length=l.length) (p:j.length=m.length):oB d i j=some (i++j)∧r=l++m:=by
 unfold oB at h ⊢
 rw [h1,p]
 split at h
 ·rename_i q; cases h; rw [cE q]; exact ⟨rfl,rfl⟩
 ·cases h
theorem tX {K:Value→World→Prop} {t:TypeId} {j:Nat} {z vs:Value} {m r:List β} {Y:List (Nat×Obj)} {x y:Operand} {i:TypeInfo} (hD:Deep Rl k) (p:ST dd F w W μ (B++Y)) (u:0 < k) (T:P.underlying t=some (.slice e)) (Q:P.info? e=some i) (hz:i.zero=some z) (G:z.cells.size=k) (A:i.size=k) (s:i.bytes=j) (U:kW E x=v) (Z:kW E y=vs) (O:ml e Rl k μ v l B) (R:AB Rl k μ W vs m) (hb:oB j l m=some r) (h:∀W' n R',ST dd F w W' μ (R'++Y)→ml e Rl k μ n r R'→K n W'):pf P E ⟨d,.call ⟨.builtin .append,#[x,y],#[t,t]⟩,ty,pos,af,g⟩ W K:=by
 obtain ⟨cl,h1,I⟩:=O
 obtain ⟨cm,M,J⟩:=R
 obtain ⟨q,rfl⟩:=P9 hb I.length J.length
 exact pK p AH u PO T Q hz G A s U Z h1 M q (λW' n R' L a2=>h W' n R' L ⟨_,a2,I.append J⟩)
theorem ss {K:Value→World→Prop} {Y:List (Nat×Obj)} {t:TypeId} {x y:Operand} {p:Value} {i:Nat} {x0 x1:β} {ys:List Value} (s:Deep Rl k) (j:ST dd F w W μ (B++Y)) (h:ml e Rl k μ v l B) (I:kW E x=p) (J:kW E y= .agg ys.toArray) (q:Rl μ ys x1) (hp:CQ B k p i) (G:l[i]? =some x0) (z:∀w,(sizeOf t).run P w= .ok k w) (u:∀W' R',ST dd F w W' μ (R'++Y)→ml e Rl k μ v (l.set i x1) R'→K undef W'):pf P E ⟨d,.store t x y,ty,pos,af,g⟩ W K:=by
 obtain ⟨cl,h1,n⟩:=h
 obtain ⟨c,A,_⟩:=n.get G
 exact qZ (x1:=s.cell q) j h1 AH PO I J rfl hp A z (λW' R' r a2=>u W' R' r ⟨_,a2,n.set q i⟩)
end
end Go.Proofs.YtjjjihkifgdhgaaGreatDoor
namespace Go.Proofs.YtjjjihkifgdhgaaGreatDoor
open Go.RowKit
def nN (dd:Bool) (P:Program) (f:FuncId) (args:List Value) (w:World) (μ0:lF) (L0:List (Nat×Obj)) (K:Value→List (Nat×Obj)→lF→Prop):Prop :=
 Calls P f args.toArray w λe d=>∃v L1 μ1,e= .returned v∧wv dd L0 L1 w d∧lz μ0 μ1∧Lo (keys L0) w μ0 μ1∧lz μ1 (vL d L1)∧K v L1 μ1
theorem nN.mK {dd:Bool} {P:Program} {f:FuncId} {args:List Value} {w:World} {μ0:lF} {L0:List (Nat×Obj)} {K:Value→List (Nat×Obj)→lF→Prop} (h:nN true P f args w μ0 L0 K):nN dd P f args w μ0 L0 K :=
 dI h λ_ _ ⟨v,L1,μ1,h1,d,i⟩=>⟨v,L1,μ1,h1,d.mK,i⟩
section
variable {dd:Bool} {F:Nat→Prop} {w W W':World} {μ μ1:lF} {L L0 L1 L2:List (Nat×Obj)}
theorem ST.Tl (h:ST dd F w W μ (L0++L)) (hb:wv dd L0 L1 W W') (n:Lo (keys L0) W μ μ1) (j:lz μ1 (vL W' L1)):ST dd F w W' μ1 (L1++L):=by
 have h1:=h.back hb
 refine ⟨h1.os,h1.tape,h1.output,h1.drawn,h1.size,h1.rA,λb o hm=>?_,λb o d=>?_,h1.nd⟩
 ·have:=j b o hm
  unfold vL at this
  split at this
  ·cases this
  ·exact this
 ·obtain ⟨p,r,q⟩:=h1.box b o d
  refine ⟨p,?_,q⟩
  rcases aV.1 d with d | d
  ·cases hm:μ1 b with
   | none=>rfl
   | some x=>
    have:=j b x hm
    unfold vL at this
    rw [cE ⟨o,d⟩] at this
    cases this
  ·have i:=h.box b o (gA _ d)
   rw [n b (pH i.1) (Gv h.nd d)]
   exact i.2.1
variable {P:Program} {E:Nat→Value} {d:Option Nat} {ty:TypeId} {pos:String} {af:Array Edge} {g:Option (Nat×Bool)}
theorem QB {K:Value→World→Prop} {K':Value→List (Nat×Obj)→lF→Prop} {f:FuncId} {fv:Operand} {ax:Array Operand} {ats:Array TypeId} {caps:Array Value} {args:List Value} (L0 L2:List (Nat×Obj)) (i:ST dd F w W μ L) (j:L.Perm (L0++L2)) (G:kW E fv= .func (.func f) #[] caps) (he:∀args w,(callFunc f args).run P w= .ok (.enter f args) w) (ha:ax.map (kW E)++(#[]:Array Value)=args.toArray) (A:F5 L0 W→(L0.map (·.1)).Nodup→lz μ (vL W L0)→(∀b o,(b,o)∈L2→vL W L0 b=some o)→nN dd P f (args++caps.toList) W μ L0 K') (h:∀W' v μ' L1,ST dd F w W' μ' (L1++L2)→lz μ μ'→Lo F w μ μ'→K' v L1 μ'→K v W'):pf P E ⟨d,.call ⟨.value fv,ax,ats⟩,ty,pos,af,g⟩ W K:=by
 have n:ax.map (kW E)=args.toArray:=by simpa using ha
 refine D1 (args:=(args++caps.toList).toArray) G he (by rw [n]; simp) (dI (A (i.held j) (i.Sh j) (i.SU j) (i.M3 j)) (λ_ W' ⟨v,L1,μ1,h1,r,s,p,u,x⟩=>⟨v,h1,h W' v μ1 L1 ((i.perm j).Tl r p u) s (λb hb z=>p b (fE hb i.size) (λ⟨o,I⟩=>by
  rcases ((i.perm j).box b o (dK _ I)).2.2 with q | q
  ·omega
  ·exact z q)) x⟩))
end
section
variable {P:Program} {E:Nat→Value} {W:World} {d:Option Nat} {ty:TypeId} {pos:String} {af:Array Edge} {g:Option (Nat×Bool)}
 {dd:Bool} {F:Nat→Prop} {w:World} {μ:lF} {L:List (Nat×Obj)}
def Lx {α:Type} (d:Nat) (z:α) (n:Int):Option (List α):=if 0≤n∧(d:Int)*n≤140737488355328∧n≤(maxLen:Int) then some (List.replicate n.toNat z) else none
theorem Jb {α:Type} {enc:α→List Value} {k:Nat} (hk:∀x,(enc x).length=k) (d:0 < k) (z:α) (n:Nat):(madeCells (enc z).toArray (n*k)).toList=((List.replicate n z).map enc).flatten:=by
 apply List.ext_getElem
 ·rw [qX hk,dP,size_madeCells]; simp
 ·intro i h1 r
  rw [dP,size_madeCells] at h1
  have s:i / k < n:=by rw [iX d]; exact h1
  have p:i % k < (enc z).length:=by rw [hk]; exact Nat.mod_lt _ d
  have j:=xS hk (List.replicate n z) (i / k) z (by rw [List.getElem?_replicate,cE s]) (i % k) _ (dE p)
  rw [show i / k*k+i % k=i by rw [Nat.mul_comm]; exact Nat.div_add_mod i k] at j
  rw [dE r] at j
  have q:=gZ j
  rw [q]
  simp only [madeCells,Array.getElem_toList,Array.getElem_map,Array.getElem_range,dZ,hk]
  rw [getElem!_pos _ _ (by simpa using p)]
  simp
theorem LR {K:Value→World→Prop} {α:Type} {e t:TypeId} {enc:α→List Value} {k j:Nat} {p:Value} {n:Int} {q:IntKind} {z:α} {r:List α} {x y:Operand} {i:TypeInfo} (s:ST dd F w W μ L) (hk:∀x,(enc x).length=k) (A:0 < k) (U:P.underlying t=some (.slice e)) (R:P.info? e=some i) (hz:i.zero=some p) (G:i.size=k) (v:i.bytes=j) (Q:p.cells=(enc z).toArray) (Y:kW E x= .int q n) (Z:kW E y= .int q n) (hb:Lx j z n=some r) (h:∀W' I R',ST dd F w W' μ (R'++L)→lm e enc k I r R'→K I W'):pf P E ⟨d,.makeSlice t x y,ty,pos,af,g⟩ W K:=by
 unfold Lx at hb
 split at hb
 case isFalse=>cases hb
 rename_i u
 cases hb
 obtain ⟨J,h1,M⟩:=u
 subst G; subst v
 have O:n.toNat≤maxLen:=by omega
 have T:=run_make (P:=P) W t e i p U R hz q q n n J (Int.le_refl _) (by omega) (by simp only [maxLen] at M; omega)
 refine .inl ⟨.slice (some ⟨W.heap.size,0,none⟩) n.toNat n.toNat,W.alloc (.cells (madeCells p.cells (n.toNat*i.size)) e),?_,h _ _ [(W.heap.size,.cells (madeCells p.cells (n.toNat*i.size)) e)] (s.alloc _) ?_⟩
 ·show (do pure (.value (←Instr.makeSlice t (kW E x) (kW E y))):Sem Next).run P W=_
  rw [Y,Z]
  simp only [cL,T,bR,dS]
 ·exact lm.lit (by rw [List.length_replicate]) O (by rw [Q]; exact Jb hk A z _) (by rw [size_madeCells])
end
theorem tU.wE {κ γ:Type} {kenc:κ→Value} {Q:Value→γ→List (Nat×Obj)→Prop} {μ:lF} {v:Value} {l:List (κ×γ)} (h:tU kenc Q μ v l):v.oneCell'=true:=by
 obtain ⟨d,R,h,_⟩:=h
 obtain ⟨m,rfl⟩:=h.form
 rfl
theorem Am.wE {κ β:Type} {kenc:κ→Value} {vf:β→Value} {μ:lF} {v:Value} {l:List (κ×β)} (h:Am kenc vf μ v l):v.oneCell'=true:=by
 obtain ⟨m,rfl⟩:=h.form
 rfl
variable [M:Md]
section
variable {dd:Bool}
def qn {α:Type} (R:rB α):lF→List Value→α→Prop:=λμ vs x=>∃ys,vs=[.agg ys.toArray]∧R μ ys x
def uu {α β:Type} (R:rB α) (S:rB β):lF→List Value→α×β→Prop:=λμ vs x=>∃ys zs,vs=[.agg ys.toArray,.agg zs.toArray]∧R μ ys x.1∧S μ zs x.2
theorem qn.mk {α:Type} {R:rB α} {k:Nat} {μ μ':lF} {ys:List Value} {x:α} (d:Deep R k) (h:R μ ys x) (i:lz μ μ'):qn R μ' [.agg ys.toArray] x:=⟨ys,rfl,d.mono _ _ _ _ i h⟩
theorem uu.mk {α β:Type} {R:rB α} {S:rB β} {k m:Nat} {μ μ':lF} {ys zs:List Value} {x:α} {y:β} (j:Deep R k) (n:Deep S m) (h:R μ ys x) (i:S μ zs y) (d:lz μ μ'):uu R S μ' [.agg ys.toArray,.agg zs.toArray] (x,y) :=
 ⟨ys,zs,rfl,j.mono _ _ _ _ d h,n.mono _ _ _ _ d i⟩
def ud {α β:Type} (P:Program) (fv:Value) (μ:lF) (d:lF→List Value→α→Prop) (i:β→Value) (pm:α→Option β):Prop :=
 ∃f first caps,fv= .func (.func f) first caps∧(∀args w,(callFunc f args).run P w= .ok (.enter f args) w)∧∀W x vs r,lz μ (hp W)→d (hp W) vs x→pm x=some r→la false P f (first.toList++(vs++caps.toList)) W (i r)
theorem ud.form {α β:Type} {P:Program} {fv:Value} {μ:lF} {d:lF→List Value→α→Prop} {i:β→Value} {pm:α→Option β} (h:ud P fv μ d i pm):∃f a b,fv= .func f a b:=let ⟨f,a,b,h,_⟩:=h; ⟨_,a,b,h⟩
end
section
variable {P:Program} {W:World} {E:Nat→Value} {d:Option Nat} {ty:TypeId} {pos:String} {af:Array Edge} {g:Option (Nat×Bool)} {F:Nat→Prop} {w:World} {μ μ0:lF} {L:List (Nat×Obj)}
theorem ud.mono {α β:Type} {fv:Value} {d:lF→List Value→α→Prop} {i:β→Value} {pm:α→Option β} (h:ud P fv μ d i pm) (p:lz μ μ0):ud P fv μ0 d i pm:=by
 obtain ⟨f,first,caps,h1,j,n⟩:=h
 exact ⟨f,first,caps,h1,j,λW x vs r h=>n W x vs r (p.trans h)⟩
theorem pY {α β:Type} {K:Value→World→Prop} {fv:Value} {p:lF→List Value→α→Prop} {q:β→Value} {pm:α→Option β} {j:Operand} {ax:Array Operand} {ats:Array TypeId} (x:α) {vs:List Value} {r:β} (i:ST false F w W μ L) (G:ud P fv μ0 p q pm) (J:lz μ0 μ) (A:p (hp W) vs x) (I:kW E j=fv) (ha:ax.map (kW E)++(#[]:Array Value)=vs.toArray) (hm:pm x=some r) (h:∀W',ST false F w W' μ L→K (q r) W'):pf P E ⟨d,.call ⟨.value j,ax,ats⟩,ty,pos,af,g⟩ W K:=by
 obtain ⟨f,first,caps,rfl,s,u⟩:=G
 have n:ax.map (kW E)=vs.toArray:=by simpa using ha
 refine .inr (.inr ⟨f,(first.toList++(vs++caps.toList)).toArray,?_,dI (u W x vs r (J.trans i.kG) A hm) (λ_ _ ⟨v,z⟩=>⟨_,v,h _ (i.Ij z)⟩)⟩)
 show (do let d ←resolve (kW E) ⟨.value j,ax,ats⟩ ty; invoke d.target d.args:Sem Next).run P W=_
 simp only [resolve,I,Deferred.ofValue,cL,dS,bR,invoke,n,s]
 congr 2
 simp
end
section
variable {dd:Bool}
variable {β:Type} {Rl:rB β} {k:Nat} {μ:lF} {v:Value} {l:List β} {e:TypeId} {B:List (Nat×Obj)}
variable {F:Nat→Prop} {w W:World} {L:List (Nat×Obj)}
variable {P:Program} {E:Nat→Value} {d:Option Nat} {ty:TypeId} {pos:String} {af:Array Edge} {g:Option (Nat×Bool)}
theorem KC {α:Type} {enc:α→List Value} (hk:∀x,(enc x).length=k) (d:0 < k) (i:∀x y,enc x=enc y→x=y):∀{l m:List α},(l.map enc).flatten=(m.map enc).flatten→l=m
 | [],[],_=>rfl
 | [],b::m,h=>by
  have:=bO List.length h
  simp only [eU,cJ,bD,bA,aU,aC,hk] at this
  omega
 | a::l,[],h=>by
  have:=bO List.length h
  simp only [eU,cJ,bD,bA,aU,aC,hk] at this
  omega
 | a::l,b::m,h=>by
  simp only [bA,aU] at h
  obtain ⟨h1,j⟩:=List.append_inj h (by rw [hk,hk])
  rw [i _ _ h1,KC hk d i j]
theorem Um (x y:yc k) (h:wB x=wB y):x=y:=Subtype.ext h
theorem lm.pre {v1:Value} {cl d:List (yc k)} (n:0 < k) (h:lm e wB k v cl B) (h1:lm e wB k v1 d B) (j:d.length≤cl.length):d=cl.take d.length:=by
 rcases h with ⟨rfl,rfl,rfl⟩ | ⟨z,cap,i,rfl,rfl,A,E,G,w⟩
 ·simp at j; simp [j]
 ·rcases h1 with ⟨_,_,h⟩ | ⟨g1,p,q,rfl,r,x,a2,a3,a4⟩
  ·cases h
  ·cases r
   refine KC AH n Um ?_
   rw [←a4]
   have hle:d.length*k≤cl.length*k:=dA _ j
   have:i.toList.take (d.length*k)=(i.toList.take (cl.length*k)).take (d.length*k):=by rw [iL,eG hle]
   rw [this,w]
   have s:(cl.map wB).flatten=((cl.take d.length).map wB).flatten++((cl.drop d.length).map wB).flatten:=by rw [←bP,←cP,iY]
   have u:((cl.take d.length).map wB).flatten.length=d.length*k:=by rw [qX AH,dL,eG j]
   rw [s,←u,List.take_left]
theorem rf.replicate {α β:Type} {Q:α→β→Prop} {a:α} {b:β} (h:Q a b):∀n,rf Q (List.replicate n a) (List.replicate n b)
 | 0=>.nil
 | n+1=>.cons h (rf.replicate h n)
theorem rf.Ul {α β:Type} {Q:α→β→Prop} {l:List α} {m:List β} (h:rf Q l m) {a:α} {b:β} (d:Q a b) (i:Nat):rf Q (qp l i a) (qp m i b):=by
 unfold qp
 rw [h.length]
 exact (h.take i).append (rf.replicate d _)
theorem Ih {t e':TypeId} {x ih:Operand} {G:IntKind} {i:Int} (z:P.underlying t=some (.slice e')) (he:∀w,(sizeOf e').run P w= .ok k w) (A:kW E x=v) (s:kW E ih= .int G i) (h:ml e Rl k μ v l B) (p:0≤i) (u:i≤l.length) :
  ∃j,ml e Rl k μ j (l.take i.toNat) B∧∀W,nt P E ⟨d,.slice t x none (some ih) none,ty,pos,af,g⟩ W j W:=by
 obtain ⟨cl,h1,n⟩:=h
 obtain ⟨j,q,r⟩:=FM (d:=d) (ty:=ty) (pos:=pos) (af:=af) (g:=g) z he A s h1 AH p (by rw [n.length]; exact u)
 exact ⟨j,⟨_,q,n.take _⟩,r⟩
theorem Cf {t e':TypeId} {x j:Operand} {A:IntKind} {i:Int} (s:P.underlying t=some (.slice e')) (he:∀w,(sizeOf e').run P w= .ok k w) (z:kW E x=v) (q:kW E j= .int A i) (h:ml e Rl k μ v l B) (n:0≤i) (r:i≤l.length) :
  ∃u,BP k v i.toNat u∧∀W,nt P E ⟨d,.slice t x (some j) none none,ty,pos,af,g⟩ W u W:=by
 obtain ⟨cl,h1,p⟩:=h
 exact Be s he z q h1 n (by rw [p.length]; exact r)
theorem NC {t e':TypeId} {x:Operand} {u:Value} {i:Nat} (n:P.underlying t=some (.slice e')) (p:kW E x=u) (hu:BP k v i u) (h:ml e Rl k μ v l B):nt P E ⟨d,.call ⟨.builtin .len,#[x],#[t]⟩,ty,pos,af,g⟩ W (.int .i64 ((l.length-i:Nat):Int)) W:=by
 obtain ⟨cl,h1,j⟩:=h
 rw [←j.length]
 exact Jk n p hu h1
theorem Cz {t e':TypeId} {x q:Operand} {Q:IntKind} {i:Int} {x0:β} {u:Value} {o:Nat} {A:List Value→Prop} (J:∀{ys},Rl μ ys x0→A ys) (M:P.underlying t=some (.slice e')) (he:∀w,(sizeOf e').run P w= .ok k w) (O:kW E x=u) (G:kW E q= .int Q i) (h:ml e Rl k μ v l B) (hu:BP k v o u) (r:0≤i) (I:(l.drop o)[i.toNat]? =some x0) :
  ∃p,(∃ys,A ys∧At (DI B) p ys∧CQ B k p (o+i.toNat))∧∀W,nt P E ⟨d,.indexAddr t x q,ty,pos,af,g⟩ W p W:=by
 obtain ⟨cl,h1,s⟩:=h
 obtain ⟨c,n,L⟩:=(s.drop o).get I
 obtain ⟨p,j,z⟩:=Bj (d:=d) (ty:=ty) (pos:=pos) (af:=af) (g:=g) M he O G h1 hu r n
 exact ⟨p,⟨c.1,J L,j.at h1 AH (CE n),j⟩,z⟩
theorem Fz {K:Value→World→Prop} {z:β} {zs:List Value} {Y:List (Nat×Obj)} {t e':TypeId} {x:Operand} {u p:Value} {i:Nat} (s:Deep Rl k) (n:ST dd F w W μ (B++Y)) (h:ml e Rl k μ v l B) (j:Rl μ zs z) (I:P.underlying t=some (.slice e')) (L:∀w,(zeroValue e').run P w= .ok p w) (hu:BP k v i u) (G:p.cells=zs.toArray) (J:kW E x=u) (A:∀W' R',ST dd F w W' μ (R'++Y)→ml e Rl k μ v (qp l i z) R'→K (.tuple #[]) W'):pf P E ⟨d,.call ⟨.builtin .clear,#[x],#[t]⟩,ty,pos,af,g⟩ W K:=by
 obtain ⟨cl,h1,r⟩:=h
 exact DT (s.cell j) n h1 AH PO I L hu G J (λW' R' q a2=>A W' R' q ⟨_,a2,r.Ul j i⟩)
end
section
variable {P:Program} {W:World} {E:Nat→Value} {d:Option Nat} {ty:TypeId} {pos:String} {af:Array Edge} {g:Option (Nat×Bool)}
theorem Pm {tx tv:TypeId} {x y:Operand} {fv:Value} {s u:Array TypeId} {bb:Bool} (j:P.underlying tx=some (.func s u bb)) (h:∃f a b,fv= .func f a b) (n:kW E x=fv) (p:kW E y= .nilFunc) :
  nt P E ⟨d,.binOp .neq tx x y tv,ty,pos,af,g⟩ W (.bool true) W:=by
 obtain ⟨f,a,b,rfl⟩:=h
 show (do let r ←(do eqGuard .neq tx x y (kW E x) (kW E y); binOp .neq tx (kW E x) (kW E y)); pure (.value r):Sem Next).run P W=_
 rw [n,p]
 have i:=Ht 9999 j f a b W
 simp [eqGuard,binOp,Op.equal,show Op.maxDepth=9999+1 from rfl,i]
end
end Go.Proofs.YtjjjihkifgdhgaaGreatDoor
namespace Go.Proofs.YtjjjihkifgdhgaaGreatDoor
open Go.RowKit
variable [M:Md]
theorem bS {α β:Type} {m:Option α} {f:α→Option β} {r:β} {G:Prop} (h:m.bind f=some r) (k:∀x,m=some x→f x=some r→G):G :=
 let ⟨x,a,b⟩:=bind_some h
 k x a b
theorem sj {α:Type} {a b:α} (h:some a=some b):a=b:=gZ h
theorem bC {α:Type} {b:Bool} {x y r:α} {G:Prop} (h:(if b=true then x else y)=r) (d:b=true→x=r→G) (i:b=false→y=r→G):G:=by
 rcases Oh b with e | e
 ·exact d e (Sv e h)
 ·exact i e (Sy e h)
theorem cB {a b:Bool} (h:a=b):Value.bool a=Value.bool b:=bO Value.bool h
theorem nb {a b:Nat} (h:Nat.ble a b=true:=by exact rfl):a≤b:=Nat.le_of_ble_eq_true h
def T5:Nat→Nat→List Bool
 | 0,_=>[]
 | n+1,m=>(m % 2==1)::T5 n (m / 2)
def bm (n m:Nat):Array Bool:=(T5 n m).toArray
section
variable {P:Program} {n:Nat} {Q:rJ} {E:Nat→Value} {W:World}
theorem CI {α:Type} {co:Operand} {b:Bool} {x y:Code} {A B r:α} (hm:(if b=true then A else B)=r) (d:kW E co= .bool b) (j:b=true→A=r→CW P n x Q E W) (i:b=false→B=r→CW P n y Q E W):CW P n (.cond co x y) Q E W :=
 NT d (λe=>j e (Sv e hm)) (λe=>i e (Sy e hm))
theorem CJ {d ρ:Type} {m:Option d} {k:d→Option ρ} {r:ρ} {x:Code} {K:(Nat→Value)→World→Prop} (hm:m.bind k=some r) (I:d→(Nat→Value)→World→Prop) (h1:∀s,m=some s→CW P n x (sn (I s) Q) E W) (i:∀s E W,I s E W→k s=some r→K E W):CW P n x (sn K Q) E W :=
 let ⟨s,a,b⟩:=bind_some hm
 O0 (I s) (h1 s a) (λE W h=>i s E W h b)
theorem T3 {i ρ d:Type} {m:Option (d ⊕ i)} {k:d ⊕ i→Option ρ} {r:ρ} {x:Code} {K:(Nat→Value)→World→Prop} (hm:m.bind k=some r) (I:i→(Nat→Value)→World→Prop) (h1:∀s,m=some s→k s=some r→CW P n x (sn (λE W=>∃t,s= .inr t∧I t E W) Q) E W) (j:∀s E W,I s E W→k (.inr s)=some r→K E W):CW P n x (sn K Q) E W :=
 let ⟨s,a,b⟩:=bind_some hm
 O0 (λE W=>∃t,s= .inr t∧I t E W) (h1 s a b) (λE W ⟨t,e,h⟩=>j t E W h (by subst e; exact b))
theorem LJ {d ρ:Type} {m:Option d} {k:d→Option ρ} {r:ρ} {ops:Array Oper} {rest:List Oper} (hm:m.bind k=some r) (I:d→(Nat→Value)→World→Prop) (j:Nat) (i:∀s E W,I s E W→k s=some r→LW P n ops Q (rest.drop j) E W) (h1:∀s,m=some s→(∀E W,I s E W→LW P n ops Q (rest.drop j) E W)→LW P n ops Q rest E W):LW P n ops Q rest E W :=
 let ⟨s,a,b⟩:=bind_some hm
 h1 s a (λE W h=>i s E W h b)
theorem PJ {d ρ:Type} {m:Option d} {k:d→Option ρ} {r:ρ} {ops:Array Oper} {S:Array Bool→World→Prop} {fuel:Nat} {listed:Array Bool} (hm:m.bind k=some r) (I:d→(Nat→Value)→World→Prop) (j:Array Bool) (i:Nat) (p:∀s E W,I s E W→k s=some r→PX P n ops Q S i j E W) (h1:∀s,m=some s→(∀E W,I s E W→PX P n ops Q S i j E W)→PX P n ops Q S fuel listed E W):PX P n ops Q S fuel listed E W :=
 let ⟨s,a,b⟩:=bind_some hm
 h1 s a (λE W h=>p s E W h b)
theorem cF (n:Nat) {f:FuncId} {fn:Func} {c:Code} {args:List Value} {w:World} {R:Ending→World→Prop} (d:P.funcs[f]? =some fn) (hb:fn.body=some c) (h:@CW B4 P n c (yv P fn R) (CS args) w) (j:fn.ntmps=n:=by exact rfl) (i:args.length≤n:=by exact nb):Calls P f args.toArray w R:=yJ d hb j i h
end
section
variable {dd:Bool} {P:Program} {fn:Func} {E:Nat→Value} {W w:World} {μ:lF} {L:List (Nat×Obj)}
theorem rP {t:Tmp} {v:Value} (d:ST dd lD w W μ L) (i:fn.results=#[.tmp t]:=by exact rfl) (j:E t=v:=by exact rfl):yv P fn (λe W'=>e= .returned v∧Ex dd w W') .ret E W:=nq i j ⟨rfl,d.ex⟩
end
theorem ST.F4 {dd:Bool} {F:Nat→Prop} {w W:World} {μ:lF} {x:Nat×Obj} {L:List (Nat×Obj)} (h:ST dd F w W μ (x::L)):ST dd F w W μ ([x]++L):=h
theorem ST.Sw {dd:Bool} {F:Nat→Prop} {w W:World} {μ:lF} {L:List (Nat×Obj)} (h:ST dd F w W μ L):ST dd F w W μ ([]++L):=h
theorem aL {E:Nat→Value} {ax:Array Operand} {l:List Value} (h:ax.toList.map (kW E)=l):ax.map (kW E)++(#[]:Array Value)=l.toArray:=by subst h; apply Array.ext'; simp
section
variable {dd:Bool}
variable {P:Program} {E:Nat→Value} {W:World} {d:Option Nat} {ty:TypeId} {pos:String} {af:Array Edge} {g:Option (Nat×Bool)}
 {F:Nat→Prop} {w:World} {μ:lF} {L:List (Nat×Obj)}
variable {f:FuncId} {fv:Operand} {ax:Array Operand} {ats:Array TypeId} {args:List Value} {v:Value} {K:Value→World→Prop}
theorem Eg (i:ST dd F w W μ L) (he:∀args w,(callFunc f args).run P w= .ok (.enter f args) w) (j:la dd P f args W v) (h:∀W',ST dd F w W' μ L→K v W') (n:kW E fv= .func (.func f) #[] #[]:=by exact rfl) (ha:ax.toList.map (kW E)=args:=by exact rfl):pf P E ⟨d,.call ⟨.value fv,ax,ats⟩,ty,pos,af,g⟩ W K:=Gy i n he (aL ha) j h
theorem As {α:Type} {e:TypeId} {enc:α→List Value} {k:Nat} {l:List α} {Y:List (Nat×Obj)} (i:ST dd F w W μ Y) (he:∀args w,(callFunc f args).run P w= .ok (.enter f args) w) (j:oU dd P f args W e enc k l) (h:∀W' v μ' R,ST dd F w W' μ' (R++Y)→lz μ μ'→Lo F w μ μ'→lm e enc k v l R→K v W') (n:kW E fv= .func (.func f) #[] #[]:=by exact rfl) (ha:ax.toList.map (kW E)=args:=by exact rfl):pf P E ⟨d,.call ⟨.value fv,ax,ats⟩,ty,pos,af,g⟩ W K:=Np _ i n he (aL ha) j h
theorem Bn {K':Value→List (Nat×Obj)→World→Prop} {L0 L2:List (Nat×Obj)} (i:ST dd F w W μ L) (j:L.Perm (L0++L2)) (he:∀args w,(callFunc f args).run P w= .ok (.enter f args) w) (n:F5 L0 W→(L0.map (·.1)).Nodup→lz μ (vL W L0)→(∀b o,(b,o)∈L2→vL W L0 b=some o)→mz dd P f args W L0 K') (h:∀W' v μ' L1,ST dd F w W' μ' (L1++L2)→lz μ μ'→Lo F w μ μ'→(∀b,W.heap.size≤b→∀o,vL W' L1 b=some o→μ' b=some o)→K' v L1 W'→K v W') (p:kW E fv= .func (.func f) #[] #[]:=by exact rfl) (ha:ax.toList.map (kW E)=args:=by exact rfl):pf P E ⟨d,.call ⟨.value fv,ax,ats⟩,ty,pos,af,g⟩ W K :=
 RA L0 L2 i j p he (aL ha) (λa b c d=>by have:=n a b c d; simpa using this) h
theorem Uz {K':Value→List (Nat×Obj)→lF→Prop} {L0 L2:List (Nat×Obj)} (i:ST dd F w W μ L) (j:L.Perm (L0++L2)) (he:∀args w,(callFunc f args).run P w= .ok (.enter f args) w) (n:F5 L0 W→(L0.map (·.1)).Nodup→lz μ (vL W L0)→(∀b o,(b,o)∈L2→vL W L0 b=some o)→nN dd P f args W μ L0 K') (h:∀W' v μ' L1,ST dd F w W' μ' (L1++L2)→lz μ μ'→Lo F w μ μ'→K' v L1 μ'→K v W') (p:kW E fv= .func (.func f) #[] #[]:=by exact rfl) (ha:ax.toList.map (kW E)=args:=by exact rfl):pf P E ⟨d,.call ⟨.value fv,ax,ats⟩,ty,pos,af,g⟩ W K :=
 QB L0 L2 i j p he (aL ha) (λa b c d=>by have:=n a b c d; simpa using this) h
end
section
variable {E:Nat→Value} {x1 x2 x3 x4 x5 x6 x7 x8:Operand} {v1 v2 v3 v4 v5 v6 v7 v8:Value}
theorem Nk (h1:kW E x1=v1):[x1].map (kW E)=[v1]:=by rw [←h1]; rfl
theorem Su (h1:kW E x1=v1) (d:kW E x2=v2):[x1,x2].map (kW E)=[v1,v2]:=by rw [←h1,←d]; rfl
end
theorem yg {P:Program} {E:Nat→Value} {W:World} {d:Option Nat} {ty:TypeId} {pos:String} {af:Array Edge} {g:Option (Nat×Bool)} {t e m k b o:Nat} {x j:Operand} {u:IntKind} {i:Int} (r:P.underlying t=some (.array m e)) (he:∀w,(sizeOf e).run P w= .ok k w) (s:kW E x= .pointer (some ⟨b,o,none⟩)) (p:kW E j= .int u i) (n:0≤i) (q:i < (m:Int)):nt P E ⟨d,.indexAddr t x j,ty,pos,af,g⟩ W (.pointer (some ⟨b,o+i.toNat*k,none⟩)) W:=by
 show (do pure (.value (←Instr.indexAt t (kW E x) (kW E j))):Sem Next).run P W=_
 rw [s,p]
 have hb:0≤i∧i < (m:Int):=⟨n,q⟩
 simp [Instr.indexAt,asIntOf,bF r,he W,hb,Instr.sureAddr,dR]
end Go.Proofs.YtjjjihkifgdhgaaGreatDoor
namespace Go.Proofs.YtjjjihkifgdhgaaGreatDoor
open Go.RowKit
def UD (R:List (Nat×Obj)) (k:Nat) (p:Value) (i d:Nat):Prop:=∃g o,R=[(g,o)]∧p= .pointer (some ⟨g,i*k+d,none⟩)
theorem CQ.f {R:List (Nat×Obj)} {k:Nat} {p:Value} {i:Nat} (h:CQ R k p i):UD R k p i 0:=h
section
variable {P:Program} {E:Nat→Value} {W:World} {d:Option Nat} {ty:TypeId} {pos:String} {af:Array Edge} {g:Option (Nat×Bool)}
 {dd:Bool} {F:Nat→Prop} {w:World} {μ:lF} {L:List (Nat×Obj)} {α:Type} {e':TypeId} {enc:α→List Value} {k:Nat} {v:Value} {l:List α} {R:List (Nat×Obj)}
theorem lm.put (h:lm e' enc k v l R) (hk:∀x,(enc x).length=k) {p:Value} {i:Nat} (hp:CQ R k p i) {x0:α} (A:l[i]? =some x0) (x1:α) :
  ∃g d,R=[(g,.cells d e' (0,0))]∧p= .pointer (some ⟨g,i*k,none⟩)∧i*k+k≤d.size∧(∀j y,(enc x0)[j]? =some y→d[i*k+j]? =some y)∧
   lm e' enc k v (l.set i x1) [(g,.cells (d.toList.take (i*k)++enc x1++d.toList.drop (i*k+k)).toArray e' (0,0))]:=by
 have s:i < l.length:=(bK.1 A).1
 obtain ⟨w,d,cap,rfl,rfl,z,I,r,J,rfl,L⟩:=Ew h hk hp A
 have hle:i*k+k≤cap*k:=by
  have:(i+1)*k≤cap*k:=dA _ (by omega)
  rwa [dF,kj] at this
 have n:i*k+k≤l.length*k:=by
  have:(i+1)*k≤l.length*k:=dA _ (by omega)
  rwa [dF,kj] at this
 have hlen:l.length*k≤cap*k:=dA _ z
 refine ⟨w,d,rfl,rfl,by rw [r]; exact hle,L,.inr ⟨w,cap,_,by simp,rfl,by simpa using z,I,?_,?_⟩⟩
 ·show ((d.toList.take (i*k)++(enc x1)++d.toList.drop (i*k+k)).toArray).size=_
  have q:d.toList.length=cap*k:=by simpa using r
  rw [dZ,aC,aC,dL,iu,hk,q,eG (by omega)]; omega
 ·rw [je,Hq hk l i x1 s,←J]
  have E:(d.toList.take (l.length*k)).take (i*k)=d.toList.take (i*k):=by rw [iL]; congr 1; omega
  have G:(d.toList.take (l.length*k)).drop (i*k+k)=(d.toList.drop (i*k+k)).take (l.length*k-(i*k+k)):=by rw [jo]
  rw [E,G]
  show List.take (l.length*k) (d.toList.take (i*k)++enc x1++d.toList.drop (i*k+k))=_
  have q:d.toList.length=cap*k:=by simpa using r
  have u:(d.toList.take (i*k)++enc x1).length=i*k+k:=by rw [aC,dL,hk,q,eG (by omega)]
  rw [gN,eE (by rw [u]; exact n),u]
end
end Go.Proofs.YtjjjihkifgdhgaaGreatDoor
