/- a part of a proof of AuditPasses -/
import Derived.WalkKit
import Derived.WalkLawsBesides
import Derived.TacticsIn
import Derived.OrdersIn
import Derived.ControlIn
import Derived.Maps.AppendAt
import Derived.OrdersHeld
import Derived.Laws.IdiomStrings
import Derived.Maps.RangeRun
import Derived.Lib.BytesEntry
import Derived.Lib.Bytealg
import Derived.Laws.Externs
import Derived.ChangeKeysEq
import Derived.Deep.AppendSrc
set_option linter.all false
namespace Go.Proofs.YtojmckcglalbnaaGreat
theorem Z {α:Sort _} {a:α}:a=a:=rfl
theorem rs {p:Prop} (h:p:=by omega):p:=h
theorem rv {p:Prop} (h:p:=by simp):p:=h
theorem ss {p:Prop} (h:p:=by simp; omega):p:=h
theorem tc {p:Prop} (h:p:=by decide):p:=h
open Go.RowKit
def aA:=@Option.bind_some
def aB:=@Bool.false_eq_true
def aC:=@List.length_append
def aF:=@Int.natCast_nonneg
def aG:=@List.length_cons
def aH:=@if_neg
def aK:=@if_false
def aO:=@if_pos
def aP:=@List.append_assoc
def aR:=@if_true
def aS:=@run_underlying
def aT:=@List.Perm.refl
def aU:=@List.cons.injEq
def aV:=@List.mem_singleton
def aW:=@List.mem_cons
def aX:=@Nat.exists_eq_succ_of_ne_zero
def aY:=@Nat.le_refl
def bA:=@congrArg
def bB:=@beq_self_eq_true
def bE:=@List.mem_append
def bH:=@Nat.lt_succ_self
def bI:=@Bool.and_eq_true
def bL:=@List.nil_append
def bM:=@Bool.not_true
def bN:=@Result.andThen_ok
def bP:=@List.getElem?_eq_some_iff
def bQ:=@List.map_cons
def bT:=@List.mem_map
def bU:=@List.cons_append
def bV:=@decide_eq_true_eq
def bY:=@List.mem_append_left
def bZ:=@List.eq_nil_of_length_eq_zero
def cD:=@Sem.run_bind
def cE:=@List.nodup_append
def cH:=@List.Perm.append_left
def cJ:=@List.forall_mem_cons
def cK:=@decide_true
def cL:=@List.map_append
def cM:=@List.length_nil
def cN:=@List.append_nil
def cP:=@and_true
def cR:=@List.mem_filter
def cU:=@List.length_take
def cV:=@List.not_mem_nil
def cX:=@decide_false
def cY:=@List.length_filter_le
def cZ:=@Nat.add_mul
def dl:=@Calls.mono
def dm:=@DataW.trod_struct
def dp:=@Nat.mul_le_mul_right
def dr:=@List.mem_append_right
def dt:=@List.getElem?_eq_getElem
def dw:=@Array.getD_eq_getD_getElem?
def dx:=@Sem.run_pure
def dy:=@List.take_of_length_le
def dF:=@Array.length_toList
def dG:=@List.size_toArray
def dJ:=@Array.getElem?_modify
def dM:=@Array.getElem?_eq_some_iff
def dP:=@Nat.le_trans
def dR:=@List.nodup_cons
def dS:=@Nat.min_eq_left
def dU:=@Array.getElem?_toList
def dV:=@List.perm_append_comm
def dW:=@Addr.add_lit
def dX:=@List.flatten_cons
def dZ:=@Int.toNat_natCast
def ed:=@List.length_eq_zero_iff
def ee:=@Nat.lt_of_lt_of_le
def ei:=@List.getElem?_drop
def ej:=@Nat.zero_le
def ep:=@Option.map_some
def ev:=@List.getElem?_take_of_lt
def eB:=@List.length_map
def eC:=@Bool.eq_iff_iff
def eG:=@List.mem_cons_of_mem
def eH:=@List.mem_of_getElem?
def eJ:=@List.mem_of_mem_take
def eL:=@List.findIdx?_eq_some_iff_getElem
def eO:=@of_decide_eq_true
def eQ:=@bne_self_eq_false
def eV:=@List.singleton_append
def eW:=@List.getElem?_eq_none
def eX:=@Nat.eq_zero_or_pos
def eY:=@List.map_map
def eZ:=@List.ext_getElem?
def fc:=@or_false
def fg:=@Bool.not_not
def ft:=@List.perm_middle
def fu:=@List.getElem?_take
def fw:=@List.findIdx?_cons
def fy:=@Bool.not_false
def fz:=@List.find?_eq_none
def fA:=@List.getElem?_toArray
def fB:=@List.eq_nil_or_concat
def fC:=@List.concat_eq_append
def fD:=@List.mem_of_find?_eq_some
def fE:=@Oper.upon_value
def fF:=@Oper.upon_enter
def fG:=@List.getElem?_set
def fH:=@List.getElem?_map
def fI:=@List.pairwise_map
def fJ:=@Nat.zero_add
def fM:=@Nat.add_assoc
def fP:=@List.sum_cons
def fQ:=@ByteArray.toList_eq
def fS:=@List.length_drop
def fT:=@List.take_append
def fU:=@decide_eq_false_iff_not
def fV:=@List.all_eq_true
def fZ:=@List.Perm.append_right
def ga:=@List.map_nil
def gi:=@List.pairwise_cons
def gj:=@List.find?_cons
def gu:=@Bool.true_and
def gv:=@Array.getElem?_append
def gw:=@List.take_append_drop
def gy:=@List.flatMap_cons
def gz:=@List.getElem?_append
def gA:=@List.getElem?_append_right
def gB:=@List.getD_eq_getElem?_getD
def gD:=@Int.fdiv_eq_ediv_of_nonneg
def gE:=@Bool.or_eq_false_iff
def gF:=@Nat.div_lt_of_lt_mul
def gL:=@List.filter_cons
def gM:=@List.findIdx?_eq_none_iff
def gN:=@Classical.byContradiction
def gO:=@List.Perm.nodup_iff
def gP:=@Array.getElem?_replicate
def gQ:=@Option.some.inj
def gS:=@Bool.or_eq_true
def gU:=@cell_of_row
def gV:=@List.getElem?_cons_zero
def gW:=@List.pairwise_mergeSort
def gY:=@List.take_take
def gZ:=@List.findIdx?_map
def ia:=@Option.some.injEq
def ib:=@Oper.upon_skip
def iv:=@Bool.false_and
def iw:=@List.any_eq_false
def iy:=@decide_eq_true
def iz:=@Nat.div_lt_iff_lt_mul
def iA:=@List.length_replicate
def iB:=@Option.getD_some
def iC:=@beq_iff_eq
def iD:=@List.getElem_mem
def iK:=@List.findIdx?_append
def iL:=@Int.le_refl
def iQ:=@List.mem_of_mem_drop
def iS:=@List.foldl_cons
def iU:=@List.length_set
def iV:=@List.find?_some
def iY:=@List.flatten_append
def iZ:=@run_callFunc_extern
def ja:=@List.map_congr_left
def jb:=@List.flatMap_append
def jc:=@List.take_length_add_append
def jd:=@List.perm_append_comm_assoc
def je:=@Nat.mul_comm
def jo:=@run_loadCells_list
def jq:=@grownCap_le_maxLen
def jr:=@List.drop_take
def jt:=@List.map_replicate
def ju:=@Option.isNone_none
def jv:=@List.map_mergeSort
def jH:=@run_equalIn_struct
def jL:=@Bool.and_assoc
def jM:=@Nat.le_succ
def jN:=@run_storeCells_at
def jO:=@wp_mono
def jP:=@Function.comp_def
def kh:=@Bool.not_eq_true'
def ki:=@List.find?_append
def kk:=@ByteArray.ext
def ku:=@IntWalk.u8_in
def kv:=@List.mem_flatten
def kw:=@List.take_length
def kC:=@List.any_eq_true
def kD:=@List.mem_flatMap
def kE:=@callsIn_wide
def kF:=@Nat.add_comm
def kG:=@Nat.add_zero
def kO:=@Nat.pow_succ
def kR:=@Nat.one_mul
def kT:=@getD_set_ne
def kW:=@wpIn_mono
def kX:=@wpIn_wide
def kY:=@mem_ready
abbrev LO:=List (Nat×Obj)
abbrev nn:=Nat→Value
abbrev tX:=Option (Nat×Bool)
class Md where
 ro:Option Nat
 D:List Deferred
instance FL:Md:=⟨none,[]⟩
theorem E3 {ro:Option Nat} {P:Program} {ρ:Operand→Value} {o:Oper} {W W':World} {x:Next} (h:(execOp ρ o).run P W= .ok x W') (i:∀d,x≠.defer d):(Oper.semAt ro ρ o).run P W= .ok x W':=by
 cases ro with
 | none=>exact h
 | some l=>
  rw [Oper.semAt_eq]
  ·exact h
  ·intro c g
   have e:(execOp ρ o)=(resolve ρ c o.type >>= λd=>pure (Next.defer d)):=by
    unfold execOp; rw [g]
   rw [e,cD] at h
   cases a:(resolve ρ c o.type).run P W with
   | ok d w=>rw [a,bN] at h; cases h; exact i d Z
   | halt z w=>rw [a] at h; cases h
def Md.F (M:Md):Fence:={ Fence.wide with round:=M.ro }
theorem WE {M:Md} {n:Nat} {P:Program} {f:FuncId} {args:Array Value} {w:World} {R:Ending→World→Prop}:CallsIn M.F n P f args w R↔Calls P f args w R:=kE
theorem LF {M:Md} {n:Nat} {P:Program} {f:FuncId} {args:Array Value} {w:World} {R:Ending→World→Prop} (h:Calls P f args w R):(M.F.depth.isSome=true→1≤n)∧CallsIn M.F (n-1) P f args w R :=
 ⟨λe=>(nomatch (show (none:Option Nat).isSome=true from e)),WE.2 h⟩
variable [M:Md]
def oT (E:nn) (d:Nat) (v:Value):Nat→Value:=λt=>if t=d then v else E t
def lF (E:nn):Operand→Value
 | .tmp t=>E t
 | .const v=>v
 | .global g=>.pointer (some ⟨g,0,none⟩)
 | .func f=>.func (.func f) #[] #[]
def Ag (n:Nat) (a:Act) (E:nn):Prop:=a.tmps.size=n∧a.defers=M.D∧∀t,a.tmps.getD t undef=E t
section
variable {n:Nat} {a:Act} {E:nn}
theorem Ag.eval (h:Ag n a E):a.eval=lF E:=by
 funext x
 cases x with
 | tmp t=>exact h.2.2 t
 | const v=>rfl
 | global g=>rfl
 | func f=>rfl
theorem Ag.put (h:Ag n a E) {d:Nat} (hd:d < n) (v:Value):Ag n (a.put (some d) v) (oT E d v):=by
 refine ⟨by simp [Act.put,h.1],h.2.1,λt=>?_⟩
 have i:=h.2.2 t
 simp only [Act.put,oT]
 by_cases g:t=d
 ·subst g
  simp [h.1,hd]
 ·have:¬d=t:=λe=>g e.symm
  rw [aH g,←i]
  simp [dw,this]
theorem Ag.Al (h:Ag n a E) (v:Value):Ag n (a.put none v) E:=h
theorem Ag.yield (h:Ag n a E) {ops:Array Oper} {j t:Nat} {b:Bool} (g:(ops[j]?).bind (·.dst)=some t) (k:t < n) (q:E t= .bool b):yielded ops a.tmps j=some b:=by
 have d:=h.2.2 t
 have i:a.tmps[t]? =some (E t):=by
  rw [←d]
  simp [dw,h.1,k]
 simp [yielded,g,i,q]
end
abbrev rc:=Exit→nn→World→Prop
def E0:Nat→Value:=λ_=>undef
def lift (n:Nat) (Q:rc):Exit→Act→World→Prop
 | .panic c,a,w=>a.defers=M.D∧Q (.panic c) E0 w
 | .outgrown,_,_=>False
 | e,a,w=>∃E,Ag n a E∧Q e E w
theorem Rq {n:Nat} {Q:rc} {c:List PanicEntry} {a:Act} {d:Option Nat} {v:Value} {w:World} (h:lift n Q (.panic c) (a.put d v) w):lift n Q (.panic c) a w:=by
 cases d <;> exact h
def CW (P:Program) (n:Nat) (c:Code) (Q:rc) (E:nn) (W:World):Prop:=∀a,Ag n a E→c.wpIn M.F 0 P (lift n Q) a W
def LW (P:Program) (n:Nat) (ops:Array Oper) (Q:rc) (l:List Oper) (E:nn) (W:World):Prop:=∀a,Ag n a E→wpListIn M.F 0 P ops (lift n Q) l a W
def uL (K:nn→World→Prop) (Q:rc):rc
 | .normal,E,W=>K E W
 | e,E,W=>Q e E W
def yT (id:Nat) (Q:rc):rc
 | .exit j,E,W=>if j=id then Q .normal E W else Q (.exit j) E W
 | e,E,W=>Q e E W
section
variable {P:Program} {n:Nat} {Q:rc} {E:nn} {W:World} {c x y:Code} {ops:Array Oper} {rest:List Oper} {o:Oper}
theorem Lt {Q':rc} (h:CW P n c Q E W) (i:∀e E W,Q e E W→Q' e E W):CW P n c Q' E W:=λa ha=>
 kW (h a ha) (λe _ _ h=>by
  cases e with
  | panic c=>exact ⟨h.1,i _ _ _ h.2⟩
  | outgrown=>exact h
  | _=>obtain ⟨E',d,g⟩:=h; exact ⟨E',d,i _ _ _ g⟩)
theorem lH (h:CW P n x (uL (λE W=>CW P n y Q E W) Q) E W):CW P n (.seq x y) Q E W:=λa ha=>
 wpIn_seq (kW (h a ha) (λe g j h=>by
  cases e with
  | normal=>obtain ⟨E',d,i⟩:=h; exact i g d
  | _=>exact h))
theorem mU (h:Q .normal E W):CW P n .skip Q E W:=λ_ ha=>wpIn_skip ⟨E,ha,h⟩
theorem lO (h:Q .ret E W):CW P n .ret Q E W:=λ_ ha=>wpIn_ret ⟨E,ha,h⟩
theorem pg {id:Nat} (h:Q (.exit id) E W):CW P n (.exit id) Q E W:=λ_ ha=>wpIn_exit ⟨E,ha,h⟩
theorem nO {id:Nat} (h:CW P n c (yT id Q) E W):CW P n (.block id c) Q E W:=λa ha=>
 wpIn_block (kW (h a ha) (λe k q h=>by
  cases e with
  | exit j=>
   obtain ⟨E',d,g⟩:=h
   simp only [Exit.inBlock]
   simp only [yT] at g
   split at g
   ·rename_i i; rw [aO i]; exact ⟨E',d,g⟩
   ·rename_i i; rw [aH i]; exact ⟨E',d,g⟩
  | _=>exact h))
theorem Va {co:Operand} {b:Bool} (d:lF E co= .bool b) (i:b=true→CW P n x Q E W) (g:b=false→CW P n y Q E W):CW P n (.cond co x y) Q E W:=λa ha=>by
 refine wpIn_cond_split (t:=b) (by rw [ha.eval]; exact d) (λh=>i h a ha) (λh=>g h a ha)
theorem xz {co:Operand} (a:lF E co= .bool true) (h:CW P n x Q E W):CW P n (.cond co x y) Q E W:=Va a (λ_=>h) (λh=>by cases h)
theorem oV {co:Operand} (a:lF E co= .bool false) (h:CW P n y Q E W):CW P n (.cond co x y) Q E W:=Va a (λh=>by cases h) (λ_=>h)
theorem lI {id:Nat} {l:List Oper} (h:LW P n l.toArray Q l E W):CW P n (.region id l.toArray false) Q E W:=λa ha=>wpIn_region_lit (h a ha)
theorem mh (h:Q .normal E W):LW P n ops Q [] E W:=λ_ ha=>wpListIn_nil ⟨E,ha,h⟩
theorem N9 {P:Program} {F:Fence} {n:Nat} {c:Code} {Q:Exit→Act→World→Prop} {a:Act} {w:World} (I:Nat→Act→World→Prop) (m:Nat) (q:I m a w) (round:∀m a w,I m a w→c.wpIn F n P (Exit.then (λs t=>∃i,i < m∧I i s t) Q) a w):(Code.loop c).wpIn F n P Q a w:=by
 classical
 let J:Act→World→Prop:=λa w=>∃m,I m a w
 have least:∀a w,J a w→∃m,I m a w∧∀k,I k a w→m≤k:=λa w ⟨m,hm⟩=>by
  induction m using Nat.strongRecOn with
  | _ m ih=>
   by_cases h:∃k,k < m∧I k a w
   ·obtain ⟨k,hk,d⟩:=h; exact ih k hk d
   ·exact ⟨m,hm,λk d=>Nat.le_of_not_lt λg=>h ⟨k,g,d⟩⟩
 let μ:Act→World→Nat:=λa w=>if h:J a w then Classical.choose (least a w h) else 0
 have j:∀a w (h:J a w),I (μ a w) a w∧∀k,I k a w→μ a w≤k:=λa w h=>by
  have e:μ a w=Classical.choose (least a w h):=dif_pos h
  rw [e]; exact Classical.choose_spec (least a w h)
 refine wpIn_loop J μ ⟨m,q⟩ λa w u=>kW (round _ a w (j a w u).1) λe s t h=>?_
 cases e with
 | normal=>obtain ⟨i,g,d⟩:=h; exact ⟨⟨i,d⟩,Nat.lt_of_le_of_lt ((j s t ⟨i,d⟩).2 i d) g⟩
 | _=>exact h
theorem pE (I:Nat→nn→World→Prop) (m:Nat) (d:I m E W) (round:∀m E W,I m E W→CW P n c (uL (λE' W'=>∃g,g < m∧I g E' W') Q) E W):CW P n (.loop c) Q E W:=λa ha=>
 N9 (λm a w=>∃E,Ag n a E∧I m E w) m ⟨E,ha,d⟩ (λm a w ⟨E,ha,q⟩=>
  kW (round m E w q a ha) (λe s t h=>by
   cases e with
   | normal=>obtain ⟨E',j,g,k,i⟩:=h; exact ⟨g,k,E',j,i⟩
   | _=>exact h))
def lL (n:Nat) (ops:Array Oper) (E:nn) (o:Oper):Prop :=
 o.guard=none∨∃j want t,o.guard=some (j,want)∧(ops[j]?).bind (·.dst)=some t∧t < n∧E t= .bool want
theorem lL.of {a:Act} (h:lL n ops E o) (ha:Ag n a E):Region.wanted o (yielded ops a.tmps)=true:=by
 rcases h with h | ⟨j,want,t,g,i,k,d⟩
 ·simp [Region.wanted,h]
 ·simp [Region.wanted,g,ha.yield i k d]
theorem Xf {d:Nat} {v:Value} {W':World} (hw:lL n ops E o) (hd:o.dst=some d) (g:d < n) (i:(execOp (lF E) o).run P W= .ok (.value v) W') (h:LW P n ops Q rest (oT E d v) W'):LW P n ops Q (o::rest) E W:=λa ha=>by
 unfold wpListIn
 rw [aO (hw.of ha)]
 unfold Oper.wpIn
 refine ⟨λ_ _=>trivial,?_⟩
 rw [ha.eval,E3 i rv,Oper.uponIn_value,hd]
 exact h _ (ha.put g v)
theorem Yn {W':World} (hw:lL n ops E o) (hd:o.dst=none) (d:(execOp (lF E) o).run P W= .ok .skip W') (h:LW P n ops Q rest E W'):LW P n ops Q (o::rest) E W:=λa ha=>by
 unfold wpListIn
 rw [aO (hw.of ha)]
 unfold Oper.wpIn
 refine ⟨λ_ _=>trivial,?_⟩
 rw [ha.eval,E3 d rv,Oper.uponIn_skip,hd]
 exact h _ (ha.Al _)
theorem YM {f:FuncId} {args:Array Value} {d:Nat} (hw:lL n ops E o) (hd:o.dst=some d) (j:d < n) (k:(execOp (lF E) o).run P W= .ok (.enter f args) W) (h:Calls P f args W λe g=>∃v,e= .returned v∧LW P n ops Q rest (oT E d v) g):LW P n ops Q (o::rest) E W:=λa ha=>by
 unfold wpListIn
 rw [aO (hw.of ha)]
 unfold Oper.wpIn
 refine ⟨λ_ _=>trivial,?_⟩
 rw [ha.eval,E3 k rv,Oper.uponIn_enter]
 refine LF (dl h ?_)
 rintro e g ⟨v,rfl,i⟩
 simp only [hd]
 exact i _ (ha.put j v)
theorem ach {d j t:Nat} {want:Bool} (hd:o.dst=some d) (q:d < n) (i:o.guard=some (j,want)) (k:(ops[j]?).bind (·.dst)=some t) (s:t < n) (g:E t= .bool (!want)) (h:LW P n ops Q rest (oT E d undef) W):LW P n ops Q (o::rest) E W:=λa ha=>by
 unfold wpListIn
 have u:=ha.yield k s g
 rw [aH (by simp [Region.wanted,i,u])]
 rw [hd]
 exact ⟨λ_ _=>trivial,h _ (ha.put q _)⟩
end
end Go.Proofs.YtojmckcglalbnaaGreat
namespace Go.Proofs.YtojmckcglalbnaaGreat
open Go.RowKit
variable {dd:Bool}
abbrev mO:=Nat→Option Obj
def hp (W:World):mO:=λb=>W.heap[b]?
def yU (dd:Bool) (a b:Nat):Prop:=dd=true→a≤b
theorem yU.of {dd:Bool} {a b:Nat} (h:a≤b):yU dd a b:=λ_=>h
theorem yU.trans {dd:Bool} {a b c:Nat} (h:yU dd a b) (k:yU dd b c):yU dd a c:=λe=>dP (h e) (k e)
structure Ex (dd:Bool) (w W:World):Prop where
 os:W.os=w.os
 tape:W.tape=w.tape
 output:W.output=w.output
 drawn:yU dd w.drawn W.drawn
 size:w.heap.size≤W.heap.size
 oJ:∀b,b < w.heap.size→W.heap[b]? =w.heap[b]?
theorem Ex.refl (w:World):Ex dd w w:=⟨Z,Z,Z,yU.of (aY _),aY _,λ_ _=>rfl⟩
theorem Ex.trans {a b c:World} (h:Ex dd a b) (k:Ex dd b c):Ex dd a c :=
 ⟨k.os.trans h.os,k.tape.trans h.tape,k.output.trans h.output,yU.trans h.drawn k.drawn,dP h.size k.size,λi d=>(k.oJ i (ee d h.size)).trans (h.oJ i d)⟩
theorem Ex.drew (w:World):Ex dd w w.drew:=⟨Z,Z,Z,yU.of (jM _),aY _,λ_ _=>rfl⟩
theorem Ex.alloc (w:World) (o:Obj):Ex dd w (w.alloc o):=⟨Z,Z,Z,yU.of (aY _),by show w.heap.size≤(w.heap.push o).size; simp,λk hk=>Below.heap_alloc w o k hk⟩
theorem Ex.mN {w W:World} (h:Ex true w W):Ex dd w W:=⟨h.os,h.tape,h.output,yU.of (h.drawn Z),h.size,h.oJ⟩
def lM (μ μ':mO):Prop:=∀b o,μ b=some o→μ' b=some o
theorem lM.refl (μ:mO):lM μ μ:=λ_ _ h=>h
theorem lM.trans {a b c:mO} (h:lM a b) (k:lM b c):lM a c:=λx o d=>k x o (h x o d)
structure ST (dd:Bool) (F:Nat→Prop) (w W:World) (μ:mO) (L:LO):Prop where
 os:W.os=w.os
 tape:W.tape=w.tape
 output:W.output=w.output
 drawn:yU dd w.drawn W.drawn
 size:w.heap.size≤W.heap.size
 oJ:∀b,b < w.heap.size→¬F b→W.heap[b]? =w.heap[b]?
 mem:∀b o,μ b=some o→W.heap[b]? =some o
 box:∀b o,(b,o)∈L→W.heap[b]? =some o∧μ b=none∧(w.heap.size≤b∨F b)
 nd:(L.map (·.1)).Nodup
def nf:Nat→Prop:=λ_=>False
theorem ST.start (w:World):ST dd nf w w (hp w) [] :=
 ⟨Z,Z,Z,yU.of (aY _),aY _,λ_ _ _=>rfl,λ_ _ h=>h,λ_ _ h=>(by cases h),rv⟩
section
variable {F:Nat→Prop} {w W W':World} {μ μ':mO} {L L':LO}
theorem ST.ex (h:ST dd nf w W μ L):Ex dd w W:=⟨h.os,h.tape,h.output,h.drawn,h.size,λb a=>h.oJ b a λx=>x⟩
theorem Y0 (W:World) (o:Obj):(W.alloc o).heap[W.heap.size]? =some o:=heap_alloc_new W o
theorem sb {W:World} {b:Nat} {o:Obj} (h:W.heap[b]? =some o):b < W.heap.size:=(dM.1 h).1
theorem ST.drew (h:ST dd F w W μ L):ST dd F w W.drew μ L :=
 ⟨h.os,h.tape,h.output,yU.trans h.drawn (yU.of (jM _)),h.size,h.oJ,h.mem,h.box,h.nd⟩
theorem ST.Kj (h:ST dd F w W μ L) {b:Nat} {o:Obj} (a:(b,o)∈L):b < W.heap.size:=sb (h.box b o a).1
theorem ST.alloc (h:ST dd F w W μ L) (o:Obj):ST dd F w (W.alloc o) μ ((W.heap.size,o)::L):=by
 refine ⟨h.os,h.tape,h.output,h.drawn,dP h.size (Ex.alloc (dd:=true) W o).size,λb a j=>?_,λb d a=>?_,λb d a=>?_,?_⟩
 ·rw [(Ex.alloc (dd:=true) W o).oJ b (ee a h.size)]; exact h.oJ b a j
 ·have:=h.mem b d a
  rw [(Ex.alloc (dd:=true) W o).oJ b (sb this)]; exact this
 ·rcases aW.1 a with e | a
  ·cases e
   refine ⟨Y0 W o,?_,.inl h.size⟩
   cases hm:μ W.heap.size with
   | none=>rfl
   | some x=>have:=sb (h.mem _ _ hm); omega
  ·obtain ⟨h1,g,i⟩:=h.box b d a
   exact ⟨by rw [(Ex.alloc (dd:=true) W o).oJ b (sb h1)]; exact h1,g,i⟩
 ·simp only [bQ,dR]
  refine ⟨λhm=>?_,h.nd⟩
  obtain ⟨⟨b,d⟩,a,e⟩:=bT.1 hm
  have:=h.Kj a
  simp at e
  omega
theorem ST.put {A B:LO} {b:Nat} {o t:Obj} (h:ST dd F w W μ (A++(b,o)::B)) (I:W'.os=W.os∧W'.tape=W.tape∧W'.output=W.output∧W.drawn≤W'.drawn∧W'.heap.size=W.heap.size) (g:∀k,k≠b→W'.heap[k]? =W.heap[k]?) (J:W'.heap[b]? =some t):ST dd F w W' μ (A++(b,t)::B):=by
 obtain ⟨h1,u,v,y,z⟩:=I
 have d:=h.box b o rv
 have a:=h.nd
 simp only [cL,bQ] at a
 have i:∀x o,(x,o)∈A→x≠b:=λx o q e=>by
  subst e
  have:=(cE.1 a).2.2 x (bT.2 ⟨_,q,Z⟩) x rv
  exact this Z
 have j:∀x o,(x,o)∈B→x≠b:=λx o q e=>by
  subst e
  have:=(dR.1 (cE.1 a).2.1).1
  exact this (bT.2 ⟨_,q,Z⟩)
 refine ⟨h1.trans h.os,u.trans h.tape,v.trans h.output,yU.trans h.drawn (yU.of y),by rw [z]; exact h.size,λk hk s=>?_,λk x hk=>?_,λk x hk=>?_,by simpa using a⟩
 ·rw [g k (λe=>by subst e; rcases d.2.2 with h | h; omega; exact s h)]
  exact h.oJ k hk s
 ·rw [g k (λe=>by subst e; rw [d.2.1] at hk; cases hk)]
  exact h.mem k x hk
 ·rcases bE.1 hk with hk | hk
  ·rw [g k (i k x hk)]; exact h.box k x (by simp [hk])
  ·rcases aW.1 hk with e | hk
   ·cases e; exact ⟨J,d.2⟩
   ·rw [g k (j k x hk)]; exact h.box k x (by simp [hk])
def Lo (F:Nat→Prop) (w:World) (μ μ':mO):Prop:=∀b,b < w.heap.size→¬F b→μ' b=μ b
theorem Lo.refl {F:Nat→Prop} {w:World} {μ:mO}:Lo F w μ μ:=λ_ _ _=>rfl
theorem Lo.trans {F:Nat→Prop} {w:World} {a b c:mO} (h:Lo F w a b) (k:Lo F w b c):Lo F w a c:=λx g d=>(k x g d).trans (h x g d)
def grow (μ:mO) (W W':World):mO:=λb=>if b < W.heap.size then μ b else W'.heap[b]?
theorem ST.Jf (h:ST dd F w W μ L) {b:Nat} {o:Obj} (a:μ b=some o):b < W.heap.size:=sb (h.mem b o a)
theorem ST.call (h:ST dd F w W μ L) (d:Ex dd W W'):ST dd F w W' (grow μ W W') L:=by
 refine ⟨d.os.trans h.os,d.tape.trans h.tape,d.output.trans h.output,yU.trans h.drawn d.drawn,dP h.size d.size,λb a k=>?_,λb o a=>?_,λb o a=>?_,h.nd⟩
 ·rw [d.oJ b (ee a h.size)]; exact h.oJ b a k
 ·unfold grow at a
  split at a
  ·rename_i g; rw [d.oJ b g]; exact h.mem b o a
  ·exact a
 ·obtain ⟨h1,i,j⟩:=h.box b o a
  exact ⟨by rw [d.oJ b (sb h1)]; exact h1,by unfold grow; rw [aO (sb h1)]; exact i,j⟩
theorem ST.X5 (h:ST dd F w W μ L) (W':World):lM μ (grow μ W W'):=λb o a=>by
 unfold grow; rw [aO (h.Jf a)]; exact a
theorem ST.mN (h:ST dd F w W μ' L) (d:lM μ μ'):ST dd F w W μ L :=
 ⟨h.os,h.tape,h.output,h.drawn,h.size,h.oJ,λb o a=>h.mem b o (d b o a),λb o a=>by
  obtain ⟨h1,g,i⟩:=h.box b o a
  refine ⟨h1,?_,i⟩
  cases hm:μ b with
  | none=>rfl
  | some x=>(have:=d b x hm; rw [g] at this; cases this),h.nd⟩
theorem ST.NN (h:ST dd F w W μ L) (a:Ex dd W W'):ST dd F w W' μ L:=(h.call a).mN (h.X5 W')
theorem ST.ns (h:ST dd F w W μ L):lM μ (hp W):=h.mem
def TZ (μ:mO) (b:Nat) (o:Obj):mO:=λk=>if k=b then some o else μ k
theorem ST.LH {A B:LO} {b:Nat} {o:Obj} (h:ST dd F w W μ (A++(b,o)::B)):ST dd F w W (TZ μ b o) (A++B):=by
 have g:=h.box b o rv
 have a:=h.nd
 simp only [cL,bQ] at a
 have j:∀x y,(x,y)∈A++B→x≠b:=λx y d e=>by
  subst e
  rcases bE.1 d with d | d
  ·exact (cE.1 a).2.2 x (bT.2 ⟨_,d,Z⟩) x rv Z
  ·exact (dR.1 (cE.1 a).2.1).1 (bT.2 ⟨_,d,Z⟩)
 refine ⟨h.os,h.tape,h.output,h.drawn,h.size,h.oJ,λk x hk=>?_,λk x hk=>?_,?_⟩
 ·unfold TZ at hk
  split at hk
  ·rename_i e; cases hk; rw [e]; exact g.1
  ·exact h.mem k x hk
 ·have i:(k,x)∈A++(b,o)::B:=by
   rcases bE.1 hk with h | h <;> simp [h]
  obtain ⟨h1,q,s⟩:=h.box k x i
  exact ⟨h1,by unfold TZ; rw [aH (j k x hk)]; exact q,s⟩
 ·have:(A++B).Sublist (A++(b,o)::B):=List.Sublist.append (List.Sublist.refl A) (List.sublist_cons_self _ _)
  exact List.Nodup.sublist (this.map _) h.nd
theorem ST.Ln {A B:LO} {b:Nat} {o:Obj} (h:ST dd F w W μ (A++(b,o)::B)):lM μ (TZ μ b o):=λk x hk=>by
 unfold TZ
 split
 ·rename_i e; subst e; rw [(h.box k o rv).2.1] at hk; cases hk
 ·exact hk
theorem ST.Sg {A B:LO} {b:Nat} {o:Obj} (h:ST dd F w W μ (A++(b,o)::B)):Lo F w μ (TZ μ b o):=λk hk d=>by
 refine aH (λe=>?_)
 subst e
 rcases (h.box k o rv).2.2 with a | a
 ·omega
 ·exact d a
theorem ST.drop {A B:LO} {p:Nat×Obj} (h:ST dd F w W μ (A++p::B)):ST dd F w W μ (A++B) :=
 (h.LH (b:=p.1) (o:=p.2)).mN h.Ln
end
abbrev tu (α:Type):=mO→List Value→α→Prop
def Sl {α:Type} (R:tu α) (k:Nat) (μ:mO) (v:Value) (l:List α):Prop :=
 ∃A c,v= .slice A l.length c∧l.length≤c∧c≤maxLen∧(0 < l.length→∃b off cs T fr,A=some ⟨b,off,none⟩∧μ b=some (.cells cs T fr)∧
  ∀i x,l[i]? =some x→∃ys,ys.length=k∧R μ ys x∧∀j y,ys[j]? =some y→cs[off+i*k+j]? =some y)
def At (μ:mO) (v:Value) (ys:List Value):Prop :=
 ∃b off cs T fr,v= .pointer (some ⟨b,off,none⟩)∧μ b=some (.cells cs T fr)∧∀j y,ys[j]? =some y→cs[off+j]? =some y
def Fr (B:Nat) (v:Value):Prop:=∀b,v.ownBlock=some b→B≤b
def NE {α:Type} (R:tu α):Prop:=∀μ μ' ys x,lM μ μ'→R μ ys x→R μ' ys x
def Pl {α:Type} (enc:α→List Value):tu α:=λ_ ys x=>ys=enc x
theorem Pl.mono {α:Type} (enc:α→List Value):NE (Pl enc):=λ_ _ _ _ _ h=>h
theorem Sl.mono {α:Type} {R:tu α} (I:NE R) {k:Nat} {μ μ':mO} {v:Value} {l:List α} (h:Sl R k μ v l) (d:lM μ μ'):Sl R k μ' v l:=by
 obtain ⟨A,c,h1,g,j,q⟩:=h
 refine ⟨A,c,h1,g,j,λJ=>?_⟩
 obtain ⟨b,off,cs,T,fr,s,t,u⟩:=q J
 exact ⟨b,off,cs,T,fr,s,d _ _ t,λi x M=>let ⟨ys,y,z,a⟩:=u i x M; ⟨ys,y,I _ _ _ _ d z,a⟩⟩
theorem At.mono {μ μ':mO} {v:Value} {ys:List Value} (h:At μ v ys) (g:lM μ μ'):At μ' v ys:=by
 obtain ⟨b,off,cs,T,fr,h1,a,d⟩:=h
 exact ⟨b,off,cs,T,fr,h1,g _ _ a,d⟩
theorem Sl.len {α:Type} {R:tu α} {k:Nat} {μ:mO} {v:Value} {l:List α} (h:Sl R k μ v l):l.length≤9223372036854775807:=by
 obtain ⟨A,c,h1,d,a,g⟩:=h
 unfold maxLen at a
 omega
theorem Sl.nil {α:Type} (R:tu α) (k:Nat) (μ:mO):Sl R k μ (.slice none 0 0) []:=⟨none,0,Z,aY _,tc,λh=>absurd h rv⟩
theorem Fr.mono {B B':Nat} {v:Value} (h:Fr B v) (a:B'≤B):Fr B' v:=λb d=>dP a (h b d)
theorem Fr.nil (B:Nat):Fr B (.slice none 0 0):=λb a=>by simp [Value.ownBlock] at a
end Go.Proofs.YtojmckcglalbnaaGreat
namespace Go.Proofs.YtojmckcglalbnaaGreat
open Go.RowKit
variable [M:Md]
variable {dd:Bool}
section
variable {P:Program} {n:Nat} {Q:rc} {E:nn} {W:World} {ops:Array Oper} {rest:List Oper}
 {d:Option Nat} {ty:TypeId} {pos:String} {af:Array Edge} {g:tX}
 {F:Nat→Prop} {w:World} {μ:mO} {L:LO}
def nE (P:Program) (E:nn) (o:Oper) (W:World) (v:Value) (W':World):Prop:=(execOp (lF E) o).run P W= .ok (.value v) W'
theorem OR {o:Oper} {dd:Nat} {v:Value} (hw:lL n ops E o) (hd:o.dst=some dd) (a:dd < n) (d:nE P E o W v W) (h:LW P n ops Q rest (oT E dd v) W):LW P n ops Q (o::rest) E W:=Xf hw hd a d h
theorem lz {x:Operand} {v:Value} (a:lF E x=v):nE P E ⟨d,.move x,ty,pos,af,g⟩ W v W:=by rw [←a]; rfl
theorem nB {x:Operand} {v:Value} (a:lF E x=v):nE P E ⟨d,.assign x,ty,pos,af,g⟩ W v W:=by rw [←a]; rfl
theorem lQ {c x y:Operand} {v:Value} (a:lF E c= .bool true) (h:lF E x=v):nE P E ⟨d,.pick c x y,ty,pos,af,g⟩ W v W:=by
 show (do pure (.value (if ←asBool (lF E c) then lF E x else lF E y)):Sem Next).run P W=_
 rw [a,←h]; simp [asBool]
theorem lN {c x y:Operand} {v:Value} (a:lF E c= .bool false) (h:lF E y=v):nE P E ⟨d,.pick c x y,ty,pos,af,g⟩ W v W:=by
 show (do pure (.value (if ←asBool (lF E c) then lF E x else lF E y)):Sem Next).run P W=_
 rw [a,←h]; simp [asBool]
theorem pA {x:Operand} {i:Nat} {vs:Array Value} {v:Value} (h:lF E x= .tuple vs) (a:vs[i]? =some v):nE P E ⟨d,.extract x i,ty,pos,af,g⟩ W v W:=by
 show (do pure (.value (←Instr.extract (lF E x) i)):Sem Next).run P W=_
 rw [h]; simp [Instr.extract,a]
theorem nK {u:TypeId} {x:Operand} {b:Bool} (a:lF E x= .bool b):nE P E ⟨d,.unOp .not u x,ty,pos,af,g⟩ W (.bool !b) W:=by
 show (do pure (.value (←Op.unary .not (lF E x))):Sem Next).run P W=_
 rw [a]; simp [Op.unary]
theorem UH {fn:Fn} {first caps:Array Operand} {v:Value} (a:.func fn (first.map (lF E)) (caps.map (lF E))=v):nE P E ⟨d,.makeFunc fn first caps,ty,pos,af,g⟩ W v W:=by
 show (do pure (.value (←Instr.makeFunc fn (first.map (lF E)) (caps.map (lF E)))):Sem Next).run P W=_
 rw [←a]; simp [Instr.makeFunc]
def QG (k:IntKind) (op:BinOp) (a b:Int):Option Value :=
 match op with
 | .eql=>some (.bool (a==b))
 | .neq=>some (.bool (a != b))
 | .lss=>some (.bool (decide (a < b)))
 | .leq=>some (.bool (decide (a≤b)))
 | .gtr=>some (.bool (decide (a > b)))
 | .geq=>some (.bool (decide (a≥b)))
 | .add=>some (.int k (k.wrap (a+b)))
 | .sub=>some (.int k (k.wrap (a-b)))
 | .mul=>some (.int k (k.wrap (a*b)))
 | _=>none
theorem mL {op:BinOp} {tx tv:TypeId} {x y:Operand} {k:IntKind} {a b:Int} {v:Value} (i:lF E x= .int k a) (j:lF E y= .int k b) (h:QG k op a b=some v) :
  nE P E ⟨d,.binOp op tx x y tv,ty,pos,af,g⟩ W v W:=by
 show (do let r ←(do eqGuard op tx x y (lF E x) (lF E y); binOp op tx (lF E x) (lF E y)); pure (.value r):Sem Next).run P W=_
 rw [i,j]
 cases op <;> simp [QG] at h <;> subst h <;> simp [eqGuard,binOp,Op.intCmp,Op.intArith]
def Zz (op:BinOp) (a b:ByteArray):Option Value :=
 match op with
 | .eql=>some (.bool (a.toList==b.toList))
 | .neq=>some (.bool !(a.toList==b.toList))
 | .lss=>some (.bool (Op.bytesLess a.toList b.toList))
 | .leq=>some (.bool (Op.bytesLess a.toList b.toList||a.toList==b.toList))
 | .gtr=>some (.bool !(Op.bytesLess a.toList b.toList||a.toList==b.toList))
 | .geq=>some (.bool !(Op.bytesLess a.toList b.toList))
 | _=>none
theorem QO {op:BinOp} {tx tv:TypeId} {x y:Operand} {a b:ByteArray} {v:Value} (i:lF E x= .string a) (j:lF E y= .string b) (h:Zz op a b=some v) :
  nE P E ⟨d,.binOp op tx x y tv,ty,pos,af,g⟩ W v W:=by
 show (do let r ←(do eqGuard op tx x y (lF E x) (lF E y); binOp op tx (lF E x) (lF E y)); pure (.value r):Sem Next).run P W=_
 rw [i,j]
 cases op <;> simp [Zz] at h <;> subst h <;> simp [eqGuard,binOp,Op.stringOp]
theorem A4 {tx tv:TypeId} {x y:Operand} {a b:Array Value} {r:Bool} (j:lF E x= .agg a) (k:lF E y= .agg b) (h:∀W,(eqGuard .eql tx x y (.agg a) (.agg b)).run P W= .ok () W) (i:∀W,(binOp .eql tx (.agg a) (.agg b)).run P W= .ok (.bool r) W):nE P E ⟨d,.binOp .eql tx x y tv,ty,pos,af,g⟩ W (.bool r) W:=by
 show (do let r ←(do eqGuard .eql tx x y (lF E x) (lF E y); binOp .eql tx (lF E x) (lF E y)); pure (.value r):Sem Next).run P W=_
 rw [j,k]; simp [h W,i W]
theorem QP {tx tv:TypeId} {x y:Operand} {a b:Array Value} {r:Bool} (j:lF E x= .agg a) (k:lF E y= .agg b) (h:∀W,(eqGuard .neq tx x y (.agg a) (.agg b)).run P W= .ok () W) (i:∀W,(binOp .neq tx (.agg a) (.agg b)).run P W= .ok (.bool r) W):nE P E ⟨d,.binOp .neq tx x y tv,ty,pos,af,g⟩ W (.bool r) W:=by
 show (do let r ←(do eqGuard .neq tx x y (lF E x) (lF E y); binOp .neq tx (lF E x) (lF E y)); pure (.value r):Sem Next).run P W=_
 rw [j,k]; simp [h W,i W]
theorem HA {t e:TypeId} (dd:Nat) (d:P.underlying t=some (.pointer e)) (a:Option Addr) (W:World):(Op.equalIn (dd+1) t (.pointer a) (.pointer none)).run P W= .ok a.isNone W:=by
 cases a <;> simp [Op.equalIn,aS d]
theorem ox {tx tv e:TypeId} {x y:Operand} {a:Option Addr} (i:P.underlying tx=some (.pointer e)) (j:lF E x= .pointer a) (k:lF E y= .pointer none) :
  nE P E ⟨d,.binOp .eql tx x y tv,ty,pos,af,g⟩ W (.bool a.isNone) W:=by
 show (do let r ←(do eqGuard .eql tx x y (lF E x) (lF E y); binOp .eql tx (lF E x) (lF E y)); pure (.value r):Sem Next).run P W=_
 rw [j,k]
 have h:=HA 9999 i a W
 simp [eqGuard,binOp,Op.equal,show Op.maxDepth=9999+1 from rfl,h]
theorem Bj {tx tv e:TypeId} {x y:Operand} {a:Option Addr} (i:P.underlying tx=some (.pointer e)) (j:lF E x= .pointer a) (k:lF E y= .pointer none) :
  nE P E ⟨d,.binOp .neq tx x y tv,ty,pos,af,g⟩ W (.bool !a.isNone) W:=by
 show (do let r ←(do eqGuard .neq tx x y (lF E x) (lF E y); binOp .neq tx (lF E x) (lF E y)); pure (.value r):Sem Next).run P W=_
 rw [j,k]
 have h:=HA 9999 i a W
 simp [eqGuard,binOp,Op.equal,show Op.maxDepth=9999+1 from rfl,h]
theorem th {x:Operand} {t:TypeId} {s:ByteArray} (a:P.underlying t=some .string) (h:lF E x= .string s):nE P E ⟨d,.call ⟨.builtin .len,#[x],#[t]⟩,ty,pos,af,g⟩ W (.int .i64 s.size) W:=by
 show (do let d ←resolve (lF E) ⟨.builtin .len,#[x],#[t]⟩ ty; invoke d.target d.args:Sem Next).run P W=_
 simp [resolve,invoke,builtin,Builtin.len_,aS a,h,goInt]
theorem CS {x:Operand} {t e:TypeId} {A:Option Addr} {l c:Nat} (a:P.underlying t=some (.slice e)) (h:lF E x= .slice A l c):nE P E ⟨d,.call ⟨.builtin .len,#[x],#[t]⟩,ty,pos,af,g⟩ W (.int .i64 l) W:=by
 show (do let d ←resolve (lF E) ⟨.builtin .len,#[x],#[t]⟩ ty; invoke d.target d.args:Sem Next).run P W=_
 simp [resolve,invoke,builtin,Builtin.len_,aS a,h,goInt]
theorem mP {α:Type} {R:tu α} {k:Nat} {m:mO} {x:Operand} {t e:TypeId} {v:Value} {l:List α} (h:P.underlying t=some (.slice e)) (i:lF E x=v) (a:Sl R k m v l):nE P E ⟨d,.call ⟨.builtin .len,#[x],#[t]⟩,ty,pos,af,g⟩ W (.int .i64 l.length) W:=by
 obtain ⟨A,c,rfl,_⟩:=a
 exact CS h i
theorem VK {t:TypeId} {x a:Operand} {v:IntKind} {s:ByteArray} {i:Int} {c:UInt8} (q:P.underlying t=some .string) (u:lF E x= .string s) (j:lF E a= .int v i) (h:0≤i) (k:s[i.toNat]? =some c) :
  nE P E ⟨d,.index t x a,ty,pos,af,g⟩ W (.int .u8 c.toNat) W:=by
 show (do pure (.value (←Instr.index t (lF E x) (lF E a))):Sem Next).run P W=_
 rw [u,j]
 simp [Instr.index,asIntOf,aS q,h,k]
def mC (P:Program) (t:TypeId) (f off:Nat):Prop:=∀b o w,(Instr.fieldAt t (.pointer (some ⟨b,o,none⟩)) f).run P w= .ok (.pointer (some ⟨b,o+off,none⟩)) w
theorem ly {t:TypeId} {x:Operand} {f off b o:Nat} (a:mC P t f off) (h:lF E x= .pointer (some ⟨b,o,none⟩)):nE P E ⟨d,.fieldAddr t x f,ty,pos,af,g⟩ W (.pointer (some ⟨b,o+off,none⟩)) W:=by
 show (do pure (.value (←Instr.fieldAt t (lF E x) f)):Sem Next).run P W=_
 rw [h]; simp [a b o W]
theorem pM {t:TypeId} {x:Operand} {f off:Nat} {v:Value} {ys:List Value} (zs:List Value) (k:mC P t f off) (u:lF E x=v) (s:At μ v ys) (z:(ys.drop off).take zs.length=zs) :
  ∃h,At μ h zs∧∀W,nE P E ⟨d,.fieldAddr t x f,ty,pos,af,g⟩ W h W:=by
 obtain ⟨b,o,cs,T,fr,rfl,h1,i⟩:=s
 refine ⟨_,⟨b,o+off,cs,T,fr,Z,h1,λj y a=>?_⟩,λW=>ly k u⟩
 have q:j < zs.length:=(bP.1 a).1
 have:=i (off+j) y (by
  rw [←z,ev q,ei] at a
  exact a)
 rw [fM]
 exact this
theorem lX {x:Operand} {a:Addr} (h:lF E x= .pointer (some a)):nE P E ⟨d,.nilCheck x,ty,pos,af,g⟩ W (.pointer (some a)) W:=by
 unfold nE execOp
 simp [h]
theorem O5 {α:Type} {R:tu α} {k:Nat} {t e:TypeId} {x h:Operand} {ik:IntKind} {v:Value} {i:Int} {l:List α} {x0:α} (ht:P.underlying t=some (.slice e)) (he:∀w,(sizeOf e).run P w= .ok k w) (hx:lF E x=v) (Q:lF E h= .int ik i) (Y:Sl R k μ v l) (s:0≤i) (q:l[i.toNat]? =some x0) :
  ∃p ys,ys.length=k∧R μ ys x0∧At μ p ys∧∀W,nE P E ⟨d,.indexAddr t x h,ty,pos,af,g⟩ W p W:=by
 obtain ⟨A,c,rfl,h2,h3,u⟩:=Y
 have U:i.toNat < l.length:=(bP.1 q).1
 obtain ⟨b,off,cs,T,fr,rfl,z,I⟩:=u rs
 obtain ⟨ys,J,M,a⟩:=I i.toNat x0 q
 refine ⟨.pointer (some ⟨b,off+i.toNat*k,none⟩),ys,J,M,⟨b,off+i.toNat*k,cs,T,fr,Z,z,λj y hy=>a j y hy⟩,λW=>?_⟩
 show (do pure (.value (←Instr.indexAt t (lF E x) (lF E h))):Sem Next).run P W=_
 rw [hx,Q]
 have O:0≤i∧i < (l.length:Int):=⟨s,rs⟩
 simp [Instr.indexAt,asIntOf,aS ht,he W,O,dW]
theorem rp {α:Type} {enc:α→List Value} {k:Nat} {t e:TypeId} {x a:Operand} {M:IntKind} {v:Value} {i:Int} {l:List α} {x0:α} (I:P.underlying t=some (.slice e)) (he:∀w,(sizeOf e).run P w= .ok k w) (J:lF E x=v) (u:lF E a= .int M i) (z:Sl (Pl enc) k μ v l) (h:0≤i) (y:l[i.toNat]? =some x0) :
  ∃p,At μ p (enc x0)∧∀W,nE P E ⟨d,.indexAddr t x a,ty,pos,af,g⟩ W p W:=by
 obtain ⟨p,ys,h1,j,q,s⟩:=O5 (d:=d) (ty:=ty) (pos:=pos) (af:=af) (g:=g) I he J u z h y
 cases j
 exact ⟨p,q,s⟩
theorem Qq (P:Program) {W:World} {b off:Nat} {cs:Array Value} {T:TypeId} {fr:Nat×Nat} (a:W.heap[b]? =some (.cells cs T fr)) (ys:List Value) (g:∀j y,ys[j]? =some y→cs[off+j]? =some y) :
  (loadCells ⟨b,off,none⟩ ys.length).run P W= .ok ys.toArray W :=
 jo W ⟨b,off,none⟩ ys (λj v d=>by rw [dW,gU W b (off+j) cs T fr a]; exact g j v d)
theorem Iq {W:World} {t:TypeId} {b off:Nat} {cs:Array Value} {T:TypeId} {fr:Nat×Nat} (a:∀w,(isAgg t).run P w= .ok true w) (ys:List Value) (d:∀w,(sizeOf t).run P w= .ok ys.length w) (g:W.heap[b]? =some (.cells cs T fr)) (h:∀j y,ys[j]? =some y→cs[off+j]? =some y):(Instr.loadAt t (.pointer (some ⟨b,off,none⟩))).run P W= .ok (.agg ys.toArray) W:=by
 simp [Instr.loadAt,Instr.sureAddr,loadVar,a W,d W,Qq P g ys h]
theorem Ic {W:World} {t:TypeId} {b off:Nat} {cs:Array Value} {T:TypeId} {fr:Nat×Nat} (a:∀w,(isAgg t).run P w= .ok false w) {y:Value} (d:W.heap[b]? =some (.cells cs T fr)) (h:cs[off]? =some y):(Instr.loadAt t (.pointer (some ⟨b,off,none⟩))).run P W= .ok y W:=by
 have g:W.cell? ⟨b,off,none⟩=some y:=by rw [gU W b off cs T fr d]; exact h
 simp [Instr.loadAt,Instr.sureAddr,loadVar,a W,load,Sem.run,g]
theorem lq {t:TypeId} {x:Operand} {a v:Value} (i:lF E x=a) (h:(Instr.loadAt t a).run P W= .ok v W):nE P E ⟨d,.load t x,ty,pos,af,g⟩ W v W:=by
 show (do pure (.value (←Instr.loadAt t (lF E x))):Sem Next).run P W=_
 rw [i]; simp [h]
def oR (μ:mO) (A:LO) (W:World):Prop:=(∀b o,μ b=some o→W.heap[b]? =some o)∧∀b o,(b,o)∈A→W.heap[b]? =some o
theorem ST.has (h:ST dd F w W μ L):oR μ L W:=⟨h.mem,λb o a=>(h.box b o a).1⟩
theorem oR.sub {μ':mO} {A A':LO} (h:oR μ A W) (g:lM μ' μ) (d:∀p,p∈A'→p∈A):oR μ' A' W:=⟨λb o a=>h.1 b o (g b o a),λb o a=>h.2 b o (d _ a)⟩
theorem mu {A:LO} (hH:oR μ A W) {t:TypeId} {p:Value} {ys:List Value} (hp:At μ p ys) (d:∀w,(isAgg t).run P w= .ok true w) (g:∀w,(sizeOf t).run P w= .ok ys.length w) :
  (Instr.loadAt t p).run P W= .ok (.agg ys.toArray) W:=by
 obtain ⟨b,off,cs,T,fr,rfl,h1,a⟩:=hp
 exact Iq d ys g (hH.1 _ _ h1) a
theorem om {A:LO} (hH:oR μ A W) {t:TypeId} {p y:Value} (hp:At μ p [y]) (d:∀w,(isAgg t).run P w= .ok false w) :
  (Instr.loadAt t p).run P W= .ok y W:=by
 obtain ⟨b,off,cs,T,fr,rfl,h1,a⟩:=hp
 exact Ic d (hH.1 _ _ h1) (a 0 y Z)
theorem lC {A:LO} (hH:oR μ A W) {t:TypeId} {b off:Nat} {cs:Array Value} {T:TypeId} {fr:Nat×Nat} (h:(b,Obj.cells cs T fr)∈A) (ys:List Value) (k:(cs.toList.drop off).take ys.length=ys) (g:∀w,(isAgg t).run P w= .ok true w) (i:∀w,(sizeOf t).run P w= .ok ys.length w):(Instr.loadAt t (.pointer (some ⟨b,off,none⟩))).run P W= .ok (.agg ys.toArray) W :=
 Iq g ys i (hH.2 _ _ h) (λj y a=>by
  have d:j < ys.length:=(bP.1 a).1
  rw [←k,ev d,ei] at a
  simpa using a)
theorem lA {A:LO} (hH:oR μ A W) {t:TypeId} {b off:Nat} {cs:Array Value} {T:TypeId} {fr:Nat×Nat} (d:(b,Obj.cells cs T fr)∈A) {y:Value} (g:cs[off]? =some y) (a:∀w,(isAgg t).run P w= .ok false w):(Instr.loadAt t (.pointer (some ⟨b,off,none⟩))).run P W= .ok y W :=
 Ic a (hH.2 _ _ d) g
theorem mW {t:TypeId} {a:Array (Nat×Operand)} {qs:Array (Nat×Value)} {v:Value} (h:a.map (λ(i,x)=>(i,lF E x))=qs) (j:∀W,(Instr.build t qs).run P W= .ok v W):nE P E ⟨d,.build t a,ty,pos,af,g⟩ W v W:=by
 show (do pure (.value (←Instr.build t (a.map λ(i,x)=>(i,lF E x)))):Sem Next).run P W=_
 rw [h]; simp [j W]
theorem mz {t:TypeId} {z cs:Array Value} {fs:Array Field} {qs:Array (Nat×Value)} {pl:Array (Nat×Nat)} (g:∀w,(zeroValue t).run P w= .ok (.agg z) w) (d:P.underlying t=some (.struct fs)) (hp:∀w,(fs.mapM λf=>do pure (f.offset,←sizeOf f.type):Sem (Array (Nat×Nat))).run P w= .ok pl w) (a:Instr.fill (pl[·]?) z qs.toList=some cs) (W:World):(Instr.build t qs).run P W= .ok (.agg cs) W:=by
 simp only [Instr.build,cD,g W,bN,aS d,Value.cells]
 rw [hp W]
 simp only [bN,a,dx]
end
theorem KY {α:Type}:∀(a:Ask α) (w:World),w.drawn≤(w.ask a).2.drawn
 | .done a,w=>by simp [World.ask]
 | .ask d range k,w=>by
  unfold World.ask
  dsimp only
  split
  ·exact KY (k 0) w
  ·refine dP (jM w.drawn) ?_
   exact KY _ { w with drawn:=w.drawn+1 }
theorem WV (w:World) (c:Sys):w.drawn≤(w.sys c).2.drawn:=by
 have h:=KY (Kernel.perform c w.os) w
 unfold World.sys
 generalize w.ask (Kernel.perform c w.os)=r at *
 obtain ⟨⟨a,d⟩,g⟩:=r
 cases a <;> simp at h ⊢ <;> exact h
theorem NP {p:Program} {w d:World} {a:Addr} {u:TypeId} {k:Addr} {v:Value} {b:Bool} {l:List Addr} (h:w.viewStore p a u k v b= .ok (d,l)):d.drawn=w.drawn:=by
 unfold World.viewStore at h
 simp only [bind,Except.bind,pure,Except.pure] at h
 split at h
 ·cases h
 ·split at h
  ·cases h
  ·split at h
   ·split at h
    ·cases h
    ·split at h
     ·cases h
     ·cases h; rfl
   ·cases h
theorem Pj {p:Program} {w d:World} {a:Addr} {v:Value} {b:Bool} {l:List Addr} (h:w.farStore p a v b= .ok (d,l)):d.drawn=w.drawn:=by
 unfold World.farStore at h
 split at h
 ·split at h
  ·rename_i h1; cases h; exact NP h1
  ·cases h
 ·cases h
theorem sN {α:Type} {p:Program}:∀(s:Sem α) (w d:World) (a:α),s.run p w= .ok a d→w.drawn≤d.drawn
 | .pure a,w,d,b,h=>by simp only [Sem.run] at h; cases h; exact aY _
 | .load m a k,w,d,b,h=>by
  simp only [Sem.run] at h
  split at h
  ·exact sN _ _ _ _ h
  ·split at h
   ·exact sN _ _ _ _ h
   ·cases h
 | .store m a v k,w,d,b,h=>by
  have key:∀(r:Result α) i,r= .ok b d→(r=(match w.cell? a with
    | some _=>if w.frozen? a then .halt i w else k.run p (w.setCell a v)
    | none=>match w.farStore p a v (m==.atomic) with
     | .ok (w,_)=>k.run p w
     | .error h=>.halt h w))→w.drawn≤d.drawn:=by
   intro r i j h
   rw [j] at h
   split at h
   ·split at h
    ·cases h
    ·have:=sN k _ _ _ h.symm
     simpa [World.setCell] using this
   ·split at h
    ·rename_i h1
     have g:=sN k _ _ _ h.symm
     rw [Pj h1] at g
     exact g
    ·cases h
  cases v with
  | agg cs=>simp only [Sem.run] at h; cases h
  | tuple cs=>simp only [Sem.run] at h; cases h
  | _=>exact key _ _ h (by simp only [Sem.run]; rfl)
 | .new o k,w,d,b,h=>by simp only [Sem.run] at h; have:=sN (k _) _ _ _ h; exact this
 | .shape r k,w,d,b,h=>by simp only [Sem.run] at h; exact sN _ _ _ _ h
 | .freeze a n k,w,d,b,h=>by
  simp only [Sem.run] at h
  have:=sN k _ _ _ h
  unfold World.freeze at this
  split at this <;> exact this
 | .frozen a k,w,d,b,h=>by simp only [Sem.run] at h; exact sN _ _ _ _ h
 | .getObj r k,w,d,b,h=>by
  simp only [Sem.run] at h
  split at h <;> try (cases h; done)
  exact sN _ _ _ _ h
 | .setObj r o k,w,d,b,h=>by
  simp only [Sem.run] at h
  split at h <;> try (cases h; done)
  have:=sN k _ _ _ h
  exact this
 | .choose q k,w,d,b,h=>by
  simp only [Sem.run] at h
  split at h
  ·exact sN _ _ _ _ h
  ·exact dP (jM _) (sN _ _ _ _ h)
 | .sys c k,w,d,b,h=>by
  simp only [Sem.run] at h
  exact dP (WV w c) (sN _ _ _ _ h)
 | .program k,w,d,b,h=>by simp only [Sem.run] at h; exact sN _ _ _ _ h
 | .mark m k,w,d,b,h=>by simp only [Sem.run] at h; exact sN k _ _ _ h
 | .halt x,w,d,b,h=>by simp only [Sem.run] at h; cases h
end Go.Proofs.YtojmckcglalbnaaGreat
namespace Go.Proofs.YtojmckcglalbnaaGreat
open Go.RowKit
variable [M:Md]
variable {dd:Bool}
section
variable {P:Program} {n:Nat} {Q:rc} {E:nn} {W:World} {ops:Array Oper} {rest:List Oper}
 {d:Option Nat} {ty:TypeId} {pos:String} {af:Array Edge} {g:tX}
 {F:Nat→Prop} {w:World} {μ:mO} {L:LO}
def py (P:Program) (E:nn) (o:Oper) (W:World) (K:Value→World→Prop):Prop :=
 (∃v W',(execOp (lF E) o).run P W= .ok (.value v) W'∧K v W')∨(∃W',(execOp (lF E) o).run P W= .ok .skip W'∧K undef W')∨
 (∃f args,(execOp (lF E) o).run P W= .ok (.enter f args) W∧Calls P f args W λe a=>∃v,e= .returned v∧K v a)
theorem py.mono {o:Oper} {K K':Value→World→Prop} (h:py P E o W K) (hk:∀v W',K v W'→K' v W'):py P E o W K':=by
 rcases h with ⟨v,W',h1,a⟩ | ⟨W',h1,a⟩ | ⟨f,args,h1,a⟩
 ·exact .inl ⟨v,W',h1,hk _ _ a⟩
 ·exact .inr (.inl ⟨W',h1,hk _ _ a⟩)
 ·exact .inr (.inr ⟨f,args,h1,dl a λ_ _ ⟨v,d,g⟩=>⟨v,d,hk _ _ g⟩⟩)
theorem aaZ {o:Oper} {dd:Nat} (hw:lL n ops E o) (hd:o.dst=some dd) (g:dd < n) (h:py P E o W λv W'=>LW P n ops Q rest (oT E dd v) W'):LW P n ops Q (o::rest) E W:=by
 rcases h with ⟨v,W',h1,d⟩ | ⟨W',h1,d⟩ | ⟨f,args,h1,d⟩
 ·exact Xf hw hd g h1 d
 ·intro a ha
  unfold wpListIn
  rw [aO (hw.of ha)]
  unfold Oper.wpIn
  refine ⟨λ_ _=>trivial,?_⟩
  rw [ha.eval,E3 h1 rv,Oper.uponIn_skip,hd]
  exact d _ (ha.put g _)
 ·exact YM hw hd g h1 d
theorem acB {o:Oper} (hw:lL n ops E o) (hd:o.dst=none) (h:py P E o W λ_ W'=>LW P n ops Q rest E W'):LW P n ops Q (o::rest) E W:=by
 rcases h with ⟨v,W',h1,d⟩ | ⟨W',h1,d⟩ | ⟨f,args,h1,d⟩
 ·intro a ha
  unfold wpListIn
  rw [aO (hw.of ha)]
  unfold Oper.wpIn
  refine ⟨λ_ _=>trivial,?_⟩
  rw [ha.eval,E3 h1 rv,Oper.uponIn_value,hd]
  exact d _ (ha.Al _)
 ·exact Yn hw hd h1 d
 ·intro a ha
  unfold wpListIn
  rw [aO (hw.of ha)]
  unfold Oper.wpIn
  refine ⟨λ_ _=>trivial,?_⟩
  rw [ha.eval,E3 h1 rv,Oper.uponIn_enter]
  refine LF (dl d ?_)
  rintro e i ⟨v,rfl,g⟩
  simp only [hd]
  exact g _ (ha.Al _)
theorem mA {K:Value→World→Prop} {t:TypeId} {x:Operand} {v:Value} (a:ST dd F w W μ L) (i:lF E x=v) (h:∀W' b,ST dd F w W' μ ((b,.cells v.cells t (0,0))::L)→K (.pointer (some ⟨b,0,none⟩)) W'):py P E ⟨d,.box t x,ty,pos,af,g⟩ W K :=
 .inl ⟨.pointer (some ⟨W.heap.size,0,none⟩),W.alloc (.cells v.cells t (0,0)),by
   show (do pure (.value (←Instr.box t (lF E x))):Sem Next).run P W=_
   rw [i]
   simp [Instr.box,newVar,newRow,newObj,Sem.run],h _ _ (a.alloc _)⟩
theorem lY {K:Value→World→Prop} {t:TypeId} {z:Value} (a:ST dd F w W μ L) (i:∀w,(zeroValue t).run P w= .ok z w) (h:∀W' b,ST dd F w W' μ ((b,.cells z.cells t (0,0))::L)→K (.pointer (some ⟨b,0,none⟩)) W'):py P E ⟨d,.alloc t,ty,pos,af,g⟩ W K :=
 .inl ⟨.pointer (some ⟨W.heap.size,0,none⟩),W.alloc (.cells z.cells t (0,0)),by
   show (do pure (.value (←Instr.alloc t true (.tuple #[]))):Sem Next).run P W=_
   simp [Instr.alloc,i W,newVar,newRow,newObj,Sem.run],h _ _ (a.alloc _)⟩
theorem Oy {t e:TypeId} {m k:Nat} {z:Value} {qs:Array (Nat×Value)} {cs:Array Value} (h:P.underlying t=some (.slice e)) (g:∀w,(sizeOf e).run P w= .ok k w) (j:∀w,(zeroValue e).run P w= .ok z w) (hm:m*k≤16777216) (a:Instr.fill (λi=>some (i*k,k)) ((Array.range (m*k)).map λi=>(if m*k=0 then (#[]:Array Value) else z.cells)[i % (if m*k=0 then (#[]:Array Value) else z.cells).size]!) qs.toList=some cs) (W:World) :
  (Instr.buildSlice t m qs).run P W= .ok (.slice (some ⟨W.heap.size,0,none⟩) m m) (W.alloc (.cells cs e (0,0))):=by
 simp only [Instr.buildSlice,cD,aS h,bN,g W]
 rw [aH rs]
 by_cases d:m*k=0
 ·simp only [d,aR] at a ⊢
  simp only [cD,dx,bN,a]
  simp [newRow,newObj,Sem.run]
 ·simp only [d,aK] at a ⊢
  simp only [cD,j W,dx,bN,a]
  simp [newRow,newObj,Sem.run]
theorem mn {K:Value→World→Prop} {t e:TypeId} {m:Nat} {j:Array (Nat×Operand)} {qs:Array (Nat×Value)} {cs:Array Value} (a:ST dd F w W μ L) (k:j.map (λ(i,x)=>(i,lF E x))=qs) (q:∀W,(Instr.buildSlice t m qs).run P W= .ok (.slice (some ⟨W.heap.size,0,none⟩) m m) (W.alloc (.cells cs e (0,0)))) (h:∀W' b,ST dd F w W' μ ((b,.cells cs e (0,0))::L)→K (.slice (some ⟨b,0,none⟩) m m) W'):py P E ⟨d,.buildSlice t m j,ty,pos,af,g⟩ W K :=
 .inl ⟨.slice (some ⟨W.heap.size,0,none⟩) m m,W.alloc (.cells cs e (0,0)),by
   show (do pure (.value (←Instr.buildSlice t m (j.map λ(i,x)=>(i,lF E x)))):Sem Next).run P W=_
   rw [k]
   simp [q W],h _ _ (a.alloc _)⟩
theorem ST.store {A B:LO} {b:Nat} {cs:Array Value} {t:TypeId} (a:ST dd F w W μ (A++(b,.cells cs t (0,0))::B)) (cs':Array Value) :
  ST dd F w (W.setRow b cs') μ (A++(b,.cells cs' t (0,0))::B):=by
 have d:=(a.box b _ (by simp:(b,Obj.cells cs t (0,0))∈A++(b,.cells cs t (0,0))::B)).1
 refine a.put ⟨Z,Z,Z,aY _,by simp [World.setRow]⟩ (λk hk=>?_) (setRow_heap W b cs cs' t (0,0) d)
 simp only [World.setRow,dJ]
 rw [aH λe=>hk e.symm]
theorem It (P:Program) {W:World} {t:TypeId} {b off:Nat} {cs:Array Value} {T:TypeId} (v:Value) (a:∀w,(sizeOf t).run P w= .ok v.cells.size w) (h1:∀u∈v.cells.toList,u.oneCell'=true) (d:W.heap[b]? =some (.cells cs T (0,0))) (g:off+v.cells.size≤cs.size):(Instr.storeAt t (.pointer (some ⟨b,off,none⟩)) v).run P W= .ok () (W.setRow b (cs.toList.take off++v.cells.toList++cs.toList.drop (off+v.cells.size)).toArray):=by
 have:=jN (P:=P) b off T v.cells.toList 0 cs W d (by simpa using g) h1
 simp [Instr.storeAt,Instr.sureAddr,storeVar,a W]
 simpa using this
theorem GK {K:Value→World→Prop} (A:LO) {B:LO} {t:TypeId} {x y:Operand} (v:Value) {b off:Nat} {cs:Array Value} {T:TypeId} (cs':Array Value) (a:ST dd F w W μ (A++(b,.cells cs T (0,0))::B)) (s:lF E x= .pointer (some ⟨b,off,none⟩)) (z:lF E y=v) (i:∀w,(sizeOf t).run P w= .ok v.cells.size w) (h1:∀u∈v.cells.toList,u.oneCell'=true) (q:off+v.cells.size≤cs.size) (k:(cs.toList.take off++v.cells.toList++cs.toList.drop (off+v.cells.size)).toArray=cs') (h:∀W',ST dd F w W' μ (A++(b,.cells cs' T (0,0))::B)→K undef W'):py P E ⟨d,.store t x y,ty,pos,af,g⟩ W K :=
 .inr (.inl ⟨W.setRow b cs',by
   show (do Instr.storeAt t (lF E x) (lF E y); pure .skip:Sem Next).run P W=_
   have j:=(a.box b _ (by simp:(b,Obj.cells cs T (0,0))∈A++(b,.cells cs T (0,0))::B)).1
   rw [s,z]
   simp only [cD,It P v i h1 j q,k,bN,dx],h _ (a.store cs')⟩)
def mo (dd:Bool) (P:Program) (f:FuncId) (args:List Value) (w:World) (v:Value):Prop:=Calls P f args.toArray w λe a=>e= .returned v∧Ex dd w a
theorem PM {f:FuncId} {fv:Operand} {ax:Array Operand} {ats:Array TypeId} {caps args:Array Value} (a:lF E fv= .func (.func f) #[] caps) (he:∀args w,(callFunc f args).run P w= .ok (.enter f args) w) (ha:ax.map (lF E)++caps=args) :
  (execOp (lF E) ⟨d,.call ⟨.value fv,ax,ats⟩,ty,pos,af,g⟩).run P W= .ok (.enter f args) W:=by
 show (do let d ←resolve (lF E) ⟨.value fv,ax,ats⟩ ty; invoke d.target d.args:Sem Next).run P W=_
 rw [←ha]
 simp only [resolve,a,Deferred.ofValue,cD,dx,bN,invoke]
 simp [he]
theorem Lv {K:Value→World→Prop} {f:FuncId} {fv:Operand} {ax:Array Operand} {ats:Array TypeId} {caps args:Array Value} (a:lF E fv= .func (.func f) #[] caps) (he:∀args w,(callFunc f args).run P w= .ok (.enter f args) w) (ha:ax.map (lF E)++caps=args) (h:Calls P f args W λe i=>∃v,e= .returned v∧K v i):py P E ⟨d,.call ⟨.value fv,ax,ats⟩,ty,pos,af,g⟩ W K :=
 .inr (.inr ⟨f,args,PM a he ha,h⟩)
theorem OM {K:Value→World→Prop} {f:FuncId} {fv:Operand} {ax:Array Operand} {ats:Array TypeId} {args:List Value} {v:Value} (a:ST dd F w W μ L) (k:lF E fv= .func (.func f) #[] #[]) (he:∀args w,(callFunc f args).run P w= .ok (.enter f args) w) (ha:(ax.map (lF E)++(#[]:Array Value))=args.toArray) (j:mo dd P f args W v) (h:∀W',ST dd F w W' μ L→K v W'):py P E ⟨d,.call ⟨.value fv,ax,ats⟩,ty,pos,af,g⟩ W K :=
 Lv k he ha (dl j λ_ _ ⟨h1,i⟩=>⟨v,h1,h _ (a.NN i)⟩)
def mg {α:Type} (e:TypeId) (enc:α→List Value) (k:Nat) (v:Value) (l:List α) (R:LO):Prop :=
 (v= .slice none 0 0∧l=[]∧R=[])∨
 ∃g cap a,v= .slice (some ⟨g,0,none⟩) l.length cap∧R=[(g,.cells a e (0,0))]∧l.length≤cap∧cap≤maxLen∧a.size=cap*k∧a.toList.take (l.length*k)=(l.map enc).flatten
theorem vu {α:Type} {enc:α→List Value} {k:Nat} (hk:∀x,(enc x).length=k):∀l:List α,(l.map enc).flatten.length=l.length*k
 | []=>by simp
 | x::l=>by simp [vu hk l,hk x,cZ,kF]
theorem Bg {α:Type} {enc:α→List Value} {k:Nat} (hk:∀x,(enc x).length=k):∀(l:List α) (i:Nat) (x:α),l[i]? =some x→∀j y,(enc x)[j]? =some y→(l.map enc).flatten[i*k+j]? =some y
 | [],i,x,h=>by cases h
 | z::l,0,x,h=>by
  simp at h; subst h
  intro j y a
  have d:j < (enc z).length:=(bP.1 a).1
  simp [gz,d]
  rw [dt d] at a
  simpa using a
 | z::l,i+1,x,h=>by
  intro j y a
  have:=Bg hk l i x (by simpa using h) j y a
  simp only [bQ,dX]
  rw [gA (by rw [hk z]; have:=Nat.le_mul_of_pos_left k (Nat.succ_pos i); simp [cZ] at *; omega),hk z]
  rw [show (i+1)*k+j-k=i*k+j by rw [cZ]; omega]
  exact this
theorem Nc {α:Type} {enc:α→List Value} {k:Nat} (hk:∀x,(enc x).length=k):∀(l:List α) (q:Nat) (y:Value),(l.map enc).flatten[q]? =some y→∃i x j,l[i]? =some x∧(enc x)[j]? =some y∧q=i*k+j
 | [],q,y,h=>by simp at h
 | z::l,q,y,h=>by
  simp only [bQ,dX] at h
  by_cases d:q < k
  ·rw [List.getElem?_append_left (by rw [hk]; exact d)] at h
   exact ⟨0,z,q,Z,h,rv⟩
  ·rw [gA (by rw [hk]; omega),hk] at h
   obtain ⟨i,x,j,h1,a,g⟩:=Nc hk l (q-k) y h
   exact ⟨i+1,x,j,by simpa using h1,a,by rw [cZ]; omega⟩
theorem mg.nil {α:Type} (e:TypeId) (enc:α→List Value) (k:Nat):mg e enc k (.slice none 0 0) [] []:=.inl ⟨Z,Z,Z⟩
theorem mg.sl {α:Type} {e:TypeId} {enc:α→List Value} {k:Nat} {v:Value} {l:List α} {R:LO} {m:mO} (h:mg e enc k v l R) (hk:∀x,(enc x).length=k) (hm:∀b o,(b,o)∈R→m b=some o):Sl (Pl enc) k m v l:=by
 rcases h with ⟨rfl,rfl,rfl⟩ | ⟨g,cap,a,rfl,rfl,h1,q,z,s⟩
 ·exact Sl.nil _ _ _
 ·refine ⟨_,cap,Z,h1,q,λ_=>⟨g,0,a,e,(0,0),Z,hm _ _ rv,λi x t=>⟨enc x,hk x,Z,λj y u=>?_⟩⟩⟩
  have:=Bg hk l i x t j y u
  rw [←s] at this
  have d:i*k+j < l.length*k:=by
   have:=(bP.1 this).1
   simp at this; omega
  rw [ev d] at this
  simpa using this
theorem mg.len {α:Type} {e:TypeId} {enc:α→List Value} {k:Nat} {v:Value} {l:List α} {R:LO} (h:mg e enc k v l R):l.length≤9223372036854775807:=by
 rcases h with ⟨rfl,rfl,rfl⟩ | ⟨g,cap,a,rfl,rfl,h1,d,i,j⟩
 ·simp
 ·unfold maxLen at d; omega
theorem mg.fr {α:Type} {e:TypeId} {enc:α→List Value} {k:Nat} {v:Value} {l:List α} {R X Y:LO} (h:mg e enc k v l R) (a:ST dd nf w W μ (X++(R++Y))):Fr w.heap.size v:=by
 rcases h with ⟨rfl,rfl,rfl⟩ | ⟨g,cap,i,rfl,rfl,h1,j,q,s⟩
 ·exact Fr.nil _
 ·intro b d
  simp [Value.ownBlock] at d
  subst d
  rcases (a.box g _ (by simp; exact .inr (.inl Z))).2.2 with h | h
  ·exact h
  ·exact h.elim
theorem mg.lit {α:Type} {e:TypeId} {enc:α→List Value} {k b m:Nat} {l:List α} {cs:Array Value} (hm:l.length=m) (d:m≤maxLen) (g:cs.toList=(l.map enc).flatten) (a:cs.size=m*k):mg e enc k (.slice (some ⟨b,0,none⟩) m m) l [(b,.cells cs e (0,0))]:=by
 subst hm
 refine .inr ⟨b,_,cs,Z,Z,aY _,d,a,?_⟩
 rw [←g,←a]
 exact dy (by rw [dF]; exact aY _)
def oY {α:Type} (a:Nat) (l m:List α):Option (List α):=if (l.length+m.length)*a≤140737488355328∧l.length+m.length≤maxLen then some (l++m) else none
theorem Ro {K:Value→World→Prop} {α:Type} {e t:TypeId} {enc:α→List Value} {k ah:Nat} {z v vs:Value} {l m r:List α} {R:LO} (X:LO) {Y:LO} {x y:Operand} {i:TypeInfo} (I:ST dd F w W μ (X++(R++Y))) (hk:∀x,(enc x).length=k) (b7:0 < k) (h1:∀x,∀u∈enc x,u.oneCell'=true) (ht:P.underlying t=some (.slice e)) (hi:P.info? e=some i) (hz:i.zero=some z) (bd:z.cells.size=k) (b9:i.size=k) (b5:i.bytes=ah) (hx:lF E x=v) (hy:lF E y=vs) (hR:mg e enc k v l R) (hs:Sl (Pl enc) k (hp W) vs m) (s:oY ah l m=some r) (h:∀W' v' R',ST dd F w W' μ (X++(R'++Y))→mg e enc k v' r R'→K v' W'):py P E ⟨d,.call ⟨.builtin .append,#[x,y],#[t,t]⟩,ty,pos,af,g⟩ W K:=by
 unfold oY at s
 split at s
 case isFalse=>cases s
 rename_i ap
 cases s
 have ag:∀(V:Value) (W':World),(Builtin.append_ #[t,t] ty #[v,vs]).run P W= .ok V W'→(execOp (lF E) ⟨d,.call ⟨.builtin .append,#[x,y],#[t,t]⟩,ty,pos,af,g⟩).run P W= .ok (.value V) W':=by
  intro V W' hV
  show (do let d ←resolve (lF E) ⟨.builtin .append,#[x,y],#[t,t]⟩ ty; invoke d.target d.args:Sem Next).run P W=_
  simp [resolve,invoke,builtin,hx,hy,hV]
 obtain ⟨A,c,rfl,bi,bj,b6⟩:=hs
 have ae:W.ownsRow 0 e k v l.length (l.map enc).flatten:=by
  refine ⟨vu hk l,?_⟩
  rcases hR with ⟨rfl,rfl,rfl⟩ | ⟨g,cap,Q,rfl,rfl,h1,h2,h3,h4⟩
  ·exact .inl ⟨Z,Z⟩
  ·exact .inr ⟨g,cap,Q,Z,ej _,(I.box g _ rv).1,h1,h2,h3,h4⟩
 have aE:m.length=0∨∃ad,A=some ad∧∀j u,(m.map enc).flatten[j]? =some u→W.cell? (ad.add j)=some u:=by
  rcases eX m.length with h0 | h0
  ·exact .inl h0
  ·obtain ⟨b,off,cs,T,fr,rfl,h6,h7⟩:=b6 h0
   refine .inr ⟨⟨b,off,none⟩,Z,λj u hu=>?_⟩
   obtain ⟨i,x,q,h8,h9,rfl⟩:=Nc hk m j u hu
   obtain ⟨ys,_,b1,b2⟩:=h7 i x h8
   cases b1
   rw [dW,gU W b (off+(i*k+q)) cs T fr h6,←fM]
   exact b2 q u h9
 have az:∀u∈(m.map enc).flatten,u.oneCell'=true:=by
  intro u hu
  obtain ⟨ys,bc,ba⟩:=kv.1 hu
  obtain ⟨x,_,rfl⟩:=bT.1 bc
  exact h1 x u ba
 by_cases av:m.length=0
 ·have hm:m=[]:=bZ av
  subst hm
  have hr:(Builtin.append_ #[t,t] ty #[v,.slice A 0 c]).run P W= .ok v W:=by
   rcases ae.2 with ⟨rfl,h0⟩ | ⟨g,cap,Q,rfl,_,hg,aw,_,bk,_⟩
   ·cases A with
    | none=>simp [Builtin.append_,aS ht,sizeOf,typeInfo,hi,Builtin.lenOf,Builtin.firstCells]
    | some ad=>simp [Builtin.append_,aS ht,sizeOf,typeInfo,hi,Builtin.lenOf,Builtin.firstCells,loadCells,loadCellsFrom]
   ·cases A with
    | none=>simp [Builtin.append_,aS ht,sizeOf,typeInfo,hi,Builtin.lenOf,Builtin.firstCells,aw,storeCells]
    | some ad=>simp [Builtin.append_,aS ht,sizeOf,typeInfo,hi,Builtin.lenOf,Builtin.firstCells,loadCells,loadCellsFrom,aw,storeCells]
  exact .inl ⟨v,W,ag _ _ (by simpa using hr),by simpa using h W v R I (by simpa using hR)⟩
 rcases aE with h0 | ⟨ad,rfl,a8⟩
 ·exact absurd h0 av
 obtain ⟨v',W',hr,an,J,bh,a1⟩:=run_append_own_at (P:=P) W 0 t ty e i z k ah ht hi hz b9 b5 bd b7 v l.length (l.map enc).flatten ae ad m.length c (m.map enc).flatten (vu hk m) a8 az ap.2 ap.1 (ej _)
 have ai:=sN _ _ _ _ hr
 refine .inl ⟨v',W',ag _ _ hr,?_⟩
 have hlen:(l++m).length=l.length+m.length:=by simp
 rcases an.2 with ⟨_,h0⟩ | ⟨g',aa,ab,rfl,_,aj,bf,aq,ar,b0⟩
 ·omega
 have ao:mg e enc k (.slice (some ⟨g',0,none⟩) (l.length+m.length) aa) (l++m) [(g',.cells ab e (0,0))] :=
  .inr ⟨g',aa,ab,by rw [hlen],Z,rs,aq,ar,by rw [hlen,b0]; simp⟩
 refine h W' _ _ ?_ ao
 have ay:=I.nd
 rcases hR with ⟨rfl,rfl,rfl⟩ | ⟨g,cap,Q,rfl,rfl,q1,q2,q3,q4⟩
 ·-- nil: a new block
  have a7:W.heap.size≤g':=by
   rcases a1 with h | h <;> simp [Value.ownBlock] at h
   omega
  have hex:Ex dd W W':=⟨J.os,J.tape,J.output,yU.of ai,J.size,λb s=>J.block b s (by simp [Value.ownBlock])⟩
  have h1:=I.NN hex
  refine ⟨h1.os,h1.tape,h1.output,h1.drawn,h1.size,h1.oJ,h1.mem,λb o s=>?_,?_⟩
  ·simp only [bE,aV] at s
   rcases s with s | s | s
   ·exact h1.box b o (by simp [s])
   ·cases s
    refine ⟨aj,?_,.inl (dP I.size a7)⟩
    cases hm:μ g' with
    | none=>rfl
    | some x=>have:=I.Jf hm; omega
   ·exact h1.box b o (by simp [s])
  ·simp only [bL,cL,bQ,eV] at ay ⊢
   refine (gO ft).2 (dR.2 ⟨λhm=>?_,ay⟩)
   rw [←cL] at hm
   obtain ⟨⟨b,o⟩,s,U⟩:=bT.1 hm
   have b4:(b,o)∈X++([]++Y):=by simpa using s
   have:=I.Kj b4
   simp at U
   omega
 ·by_cases au:g'=g
  ·subst au
   have h0:ST dd F w W μ (X++(g',Obj.cells Q e (0,0))::Y):=by simpa using I
   have hold:∀b,b < W.heap.size→b≠g'→W'.heap[b]? =W.heap[b]?:=λb s O=>J.block b s (by simp [Value.ownBlock]; exact O)
   have M:=h0.nd
   simp only [cL,bQ] at M
   have O:∀b o,(b,o)∈X++Y→b≠g':=λb o s U=>by
    subst U
    rcases bE.1 s with s | s
    ·exact (cE.1 M).2.2 b (bT.2 ⟨_,s,Z⟩) b rv Z
    ·exact (dR.1 (cE.1 M).2.1).1 (bT.2 ⟨_,s,Z⟩)
   have a6:=h0.box g' (Obj.cells Q e (0,0)) rv
   refine ⟨J.os.trans I.os,J.tape.trans I.tape,J.output.trans I.output,yU.trans I.drawn (yU.of ai),dP I.size J.size,λb s hF=>?_,λb o s=>?_,λb o s=>?_,by simpa using M⟩
   ·rw [hold b (ee s I.size) (λU=>by subst U; rcases a6.2.2 with h | h; omega; exact hF h)]
    exact I.oJ b s hF
   ·rw [hold b (I.Jf s) (λU=>by subst U; rw [a6.2.1] at s; cases s)]
    exact I.mem b o s
   ·simp only [bE,aV] at s
    rcases s with s | s | s
    ·obtain ⟨r1,r2⟩:=I.box b o (by simp [s])
     exact ⟨by rw [hold b (sb r1) (O b o (by simp [s]))]; exact r1,r2⟩
    ·cases s; exact ⟨aj,a6.2⟩
    ·obtain ⟨r1,r2⟩:=I.box b o (by simp [s])
     exact ⟨by rw [hold b (sb r1) (O b o (by simp [s]))]; exact r1,r2⟩
  ·have a7:W.heap.size≤g':=by
    rcases a1 with h | h <;> simp [Value.ownBlock] at h
    ·exact absurd h au
    ·omega
   have h0:ST dd F w W μ (X++(g,Obj.cells Q e (0,0))::Y):=by simpa using I
   have a6:=h0.box g (Obj.cells Q e (0,0)) rv
   have M:=h0.nd
   simp only [cL,bQ] at M
   have O:∀b o,(b,o)∈X++Y→b≠g:=λb o s U=>by
    subst U
    rcases bE.1 s with s | s
    ·exact (cE.1 M).2.2 b (bT.2 ⟨_,s,Z⟩) b rv Z
    ·exact (dR.1 (cE.1 M).2.1).1 (bT.2 ⟨_,s,Z⟩)
   have hold:∀b,b < W.heap.size→b≠g→W'.heap[b]? =W.heap[b]?:=λb s O=>J.block b s (by simp [Value.ownBlock]; exact O)
   refine ⟨J.os.trans I.os,J.tape.trans I.tape,J.output.trans I.output,yU.trans I.drawn (yU.of ai),dP I.size J.size,λb s hF=>?_,λb o s=>?_,λb o s=>?_,?_⟩
   ·rw [hold b (ee s I.size) (λU=>by subst U; rcases a6.2.2 with h | h; omega; exact hF h)]
    exact I.oJ b s hF
   ·rw [hold b (I.Jf s) (λU=>by subst U; rw [a6.2.1] at s; cases s)]
    exact I.mem b o s
   ·simp only [bE,aV] at s
    rcases s with s | s | s
    ·obtain ⟨r1,r2⟩:=I.box b o (by simp [s])
     exact ⟨by rw [hold b (sb r1) (O b o (by simp [s]))]; exact r1,r2⟩
    ·cases s
     refine ⟨aj,?_,.inl (dP I.size a7)⟩
     cases hm:μ g' with
     | none=>rfl
     | some x=>have:=I.Jf hm; omega
    ·obtain ⟨r1,r2⟩:=I.box b o (by simp [s])
     exact ⟨by rw [hold b (sb r1) (O b o (by simp [s]))]; exact r1,r2⟩
   ·have b3:(X.map (·.1)++Y.map (·.1)).Nodup:=(dR.1 ((gO ft).1 M)).2
    simp only [cL,bQ,eV]
    refine (gO ft).2 (dR.2 ⟨λhm=>?_,b3⟩)
    rw [←cL] at hm
    obtain ⟨⟨b,o⟩,s,U⟩:=bT.1 hm
    have:=I.Kj (b:=b) (o:=o) (by rcases bE.1 s with h | h <;> simp [h])
    simp at U
    omega
end
end Go.Proofs.YtojmckcglalbnaaGreat
namespace Go.Proofs.YtojmckcglalbnaaGreat
open Go.RowKit
variable [M:Md]
def Cy (l:List Value):Nat→Value:=λt=>l.getD t undef
def A2 (P:Program) (fn:Func) (R:Ending→World→Prop):rc
 | .normal,E,W | .ret,E,W=>∃v,(∀tmps:Array Value,(∀t,tmps.getD t undef=E t)→(results fn tmps).run P W= .ok v W)∧R (.returned v) W
 | _,_,_=>False
theorem Fv {P:Program} {f:FuncId} {fn:Func} {c:Code} {args:List Value} {w:World} {R:Ending→World→Prop} {n:Nat} (u:P.funcs[f]? =some fn) (s:fn.body=some c) (x:fn.ntmps=n) (ha:args.length≤n) (h:@CW FL P n c (A2 P fn R) (Cy args) w):Calls P f args.toArray w R:=by
 refine calls_of_wp u s ?_
 have j:@Ag FL n { tmps:=args.toArray++Array.replicate (fn.ntmps-args.toArray.size) undef,defers:=[] } (Cy args):=by
  refine ⟨ss,Z,λt=>?_⟩
  simp only [Cy,dw,gB,gv,gP,dG,fA]
  by_cases q:t < args.length
  ·rw [aO q]
  ·rw [aH q,eW rs]
   split <;> simp
 refine jO ((kX (n:=0)).1 (h _ j)) (λe a y g=>?_)
 cases e with
 | normal=>
  obtain ⟨E,d,v,k,i⟩:=g
  exact ⟨d.2.1,v,k _ d.2.2,i⟩
 | ret=>
  obtain ⟨E,d,v,k,i⟩:=g
  exact ⟨d.2.1,v,k _ d.2.2,i⟩
 | exit id=>obtain ⟨E,d,h⟩:=g; exact h.elim
 | goto l=>obtain ⟨E,d,h⟩:=g; exact h.elim
 | panic c=>exact g.2.elim
 | outgrown=>exact g.elim
section
variable {P:Program} {fn:Func} {R:Ending→World→Prop} {E:nn} {W:World}
theorem ma {r:Tmp} {v:Value} (a:fn.results=#[.tmp r]) (g:E r=v) (h:R (.returned v) W):A2 P fn R .ret E W :=
 ⟨v,λtmps d=>by rw [results_tmp a,d,g],h⟩
theorem rq {r s:Tmp} {v u:Value} (d:fn.results=#[.tmp r,.tmp s]) (g:E r=v) (hu:E s=u) (h:R (.returned (.tuple #[v,u])) W):A2 P fn R .ret E W :=
 ⟨.tuple #[v,u],λtmps a=>by rw [results_tmp2 d,a,a,g,hu],h⟩
theorem pF (a:fn.results=#[]) (h:R (.returned (.tuple #[])) W):A2 P fn R .ret E W :=
 ⟨.tuple #[],λtmps _=>by rw [results_none a],h⟩
theorem oW {r:Tmp} {t:TypeId} {a:Addr} {v:Value} (d:fn.results=#[.cell r t]) (j:E r= .pointer (some a)) (i:(Instr.loadAt t (.pointer (some a))).run P W= .ok v W) (h:R (.returned v) W):A2 P fn R .ret E W :=
 ⟨v,λtmps g=>by
  have h1:(loadVar t a).run P W= .ok v W:=by simpa [Instr.loadAt,Instr.sureAddr] using i
  simp [results,d,g,j,asAddr,h1],h⟩
theorem rI (h:A2 P fn R .ret E W):A2 P fn R .normal E W:=h
end
section
variable {Q:rc} {E:nn} {W:World} {K:nn→World→Prop} {id j:Nat}
theorem mx (h:Q .normal E W):yT id Q .normal E W:=h
theorem nz (h:Q .ret E W):yT id Q .ret E W:=h
theorem uO (h:Q .normal E W):yT id Q (.exit id) E W:=by simp [yT]; exact h
theorem YQ (a:(j=id)=False) (h:Q (.exit j) E W):yT id Q (.exit j) E W:=by simp only [yT,a,aK]; exact h
theorem lE (h:K E W):uL K Q .normal E W:=h
theorem mj (h:Q .ret E W):uL K Q .ret E W:=h
theorem oL (h:Q (.exit j) E W):uL K Q (.exit j) E W:=h
end
theorem Xe {i N:Nat} (d:i < N) (a:N≤9223372036854775807):IntKind.i64.wrap ((i:Int)+1)=((i+1:Nat):Int):=by
 rw [IntWalk.i64_in _ rs]
 omega
theorem Yh {P:Program} {n:Nat} {Q:rc} {E:nn} {W:World} {g t r2 r6 q ti J ts:Nat} {t1 t2 t3 t4 t5 t6 t7:TypeId} {p1 p2 p3:String} {f1 f2 f3:Array Edge} {body:Code} (I:Nat→nn→World→Prop) (N:Nat) (Y:N≤9223372036854775807) (M:I 0 E W) (hc:q < n) (hs:ts < n) (z:ti < n) (U:∀i E W,I i E W→E ti= .int .i64 (i:Nat)∧E J= .int .i64 (N:Nat)) (round:∀i E W,i < N→I i E W→CW P n (.block t body) (uL (λE' W'=>E' ti= .int .i64 (i:Nat)∧I (i+1) (oT (oT E' ts (.int .i64 ((i+1:Nat):Int))) ti (.int .i64 ((i+1:Nat):Int))) W') (yT g Q)) (oT E q (.bool true)) W) (done:∀E W,I N E W→Q .normal (oT E q (.bool false)) W) :
  CW P n (.block g (.loop (.seq (.region r2 #[⟨some q,.binOp .lss t1 (.tmp ti) (.tmp J) t2,t3,p1,f1,none⟩] false)
   (.seq (.cond (.tmp q) .skip (.exit g)) (.seq (.block t body)
    (.region r6 #[⟨some ts,.binOp .add t4 (.tmp ti) (.const (.int .i64 1)) t5,t6,p2,f2,none⟩,⟨some ti,.move (.tmp ts),t7,p3,f3,none⟩] false)))))) Q E W:=by
 refine nO (pE (λm E W=>∃i,i≤N∧m=N-i∧I i E W) N ⟨0,ej _,rs,M⟩ ?_)
 rintro m E W ⟨i,hi,rfl,d⟩
 obtain ⟨x,y⟩:=U i E W d
 refine lH (lI (OR (.inl Z) Z hc (mL x y Z) (mh ?_)))
 refine lE (lH ?_)
 have u:oT E q (.bool (decide ((i:Int) < (N:Int)))) q= .bool (decide ((i:Int) < (N:Int))):=by simp [oT]
 by_cases s:i < N
 ·have hd:decide ((i:Int) < (N:Int))=true:=by simp; omega
  rw [hd] at u ⊢
  refine xz u (mU (lE (lH ?_)))
  refine Lt (round i E W s d) (λe E' W' h=>?_)
  cases e with
  | normal=>
   obtain ⟨h1,O⟩:=h
   refine lE ?_
   have hw:IntKind.i64.wrap ((i:Int)+1)=((i+1:Nat):Int):=Xe s Y
   refine lI (OR (v:=.int .i64 ((i+1:Nat):Int)) (.inl Z) Z hs (mL (k:=.i64) (a:=(i:Int)) (b:=1) h1 Z (by simp only [QG,hw])) ?_)
   refine OR (v:=.int .i64 ((i+1:Nat):Int)) (.inl Z) Z z (lz (by simp [lF,oT])) (mh ?_)
   exact lE ⟨N-(i+1),rs,i+1,rs,Z,O⟩
  | exit j=>exact h
  | goto l=>exact h
  | ret=>exact h
  | panic c=>exact h
  | outgrown=>exact h
 ·have hd:decide ((i:Int) < (N:Int))=false:=by simp; omega
  rw [hd] at u ⊢
  obtain rfl:i=N:=by omega
  refine oV u (pg (oL (oL (uO ?_))))
  exact done E W d
theorem Xs {P:Program} {n:Nat} {x:Code} {Q:rc} {K:nn→World→Prop} {E:nn} {W:World} (J:nn→World→Prop) (h:CW P n x (uL J Q) E W) (k:∀E W,J E W→K E W):CW P n x (uL K Q) E W :=
 Lt h (λe E W h=>by cases e <;> first | exact k E W h | exact h)
theorem abf {α:Type} {c:Bool} {x y r:α} (a:c=true) (h:(if c=true then x else y)=r):x=r:=by rw [aO a] at h; exact h
theorem abj {α:Type} {c:Bool} {x y r:α} (a:c=false) (h:(if c=true then x else y)=r):y=r:=by rw [aH (by rw [a]; decide)] at h; exact h
theorem bind_some {α β:Type} {o:Option α} {f:α→Option β} {r:β} (h:o.bind f=some r):∃y,o=some y∧f y=some r:=by
 cases o with
 | none=>cases h
 | some y=>exact ⟨y,Z,h⟩
theorem VI (b:Bool):b=true∨b=false:=by cases b <;> simp
theorem Wu {α:Type} {l:List α} {i:Nat} (h:i < l.length):∃x xs,l.drop i=x::xs∧l[i]? =some x∧l.drop (i+1)=xs:=by
 cases hd:l.drop i with
 | nil=>have:=bA List.length hd; simp at this; omega
 | cons x xs=>exact ⟨x,xs,Z,by rw [←List.head?_drop,hd]; rfl,by rw [←List.drop_drop,hd]; rfl⟩
theorem G0 {P:Program} {W:World} (d:Nat) (xs ys:Array Value):(Op.eqFields d xs ys []).run P W= .ok true W:=by simp [Op.eqFields]
theorem uK {P:Program} {W:World} {d:Nat} {xs ys:Array Value} {f:Field} {fs:List Field} {a b:Value} {r s:Bool} (i:f.name≠ "_") (ha:(part f.type xs f.offset).run P W= .ok a W) (g:(part f.type ys f.offset).run P W= .ok b W) (he:(Op.equalIn d f.type a b).run P W= .ok r W) (h:(Op.eqFields d xs ys fs).run P W= .ok s W):(Op.eqFields d xs ys (f::fs)).run P W= .ok (r&&s) W:=by
 simp only [Op.eqFields,ne_eq,i,not_false_eq_true,aR,cD,ha,g,he,bN]
 cases r <;> simp [h]
theorem Ba {P:Program} {W:World} {t:TypeId} {k:Nat} {cs:Array Value} {off:Nat} {v:Array Value} (a:∀w,(isAgg t).run P w= .ok true w) (d:∀w,(sizeOf t).run P w= .ok k w) (g:cs.extract off (off+k)=v):(part t cs off).run P W= .ok (.agg v) W:=by
 simp [part,a W,d W,g]
theorem pJ {P:Program} {W:World} {t:TypeId} {cs:Array Value} {off:Nat} {v:Value} (a:∀w,(isAgg t).run P w= .ok false w) (d:cs[off]? =some v):(part t cs off).run P W= .ok v W:=by
 simp [part,a W,d]
def ob (a b:ByteArray):Bool:=a.toList==b.toList
theorem Zh {P:Program} {t:TypeId} (g:P.underlying t=some .string) (d:Nat) (a b:ByteArray) (W:World):(Op.equalIn (d+1) t (.string a) (.string b)).run P W= .ok (ob a b) W:=run_equalIn_string W d t a b g
theorem eqI {P:Program} {t:TypeId} {k:IntKind} (g:P.underlying t=some (.int k)) (d:Nat) (a b:Int) (W:World):(Op.equalIn (d+1) t (.int k a) (.int k b)).run P W= .ok (a==b) W:=run_equalIn_int W d t k k a b g
theorem rY {P:Program} {op:BinOp} {t:TypeId} {x y:Operand} {a b:Array Value} (d:P.eqGuardType P.depth t=false) (W:World):(eqGuard op t x y (.agg a) (.agg b)).run P W= .ok () W:=by
 cases op <;> simp [eqGuard] <;> (intro h; rw [d] at h; cases h)
theorem xu {P:Program} {t:TypeId} {a b:Array Value} {r:Bool} (h:∀W,(Op.equalIn Op.maxDepth t (.agg a) (.agg b)).run P W= .ok r W) (W:World):(binOp .eql t (.agg a) (.agg b)).run P W= .ok (.bool r) W:=by
 simp [binOp,Op.equal,h W]
theorem Lq {P:Program} {t:TypeId} {a b:Array Value} {r:Bool} (h:∀W,(Op.equalIn Op.maxDepth t (.agg a) (.agg b)).run P W= .ok r W) (W:World):(binOp .neq t (.agg a) (.agg b)).run P W= .ok (.bool !r) W:=by
 simp [binOp,Op.equal,h W]
end Go.Proofs.YtojmckcglalbnaaGreat
namespace Go.Proofs.YtojmckcglalbnaaGreat
open Go.RowKit
variable [M:Md]
variable {dd:Bool}
def lJ (k:IntKind) (x:Int):List Value:=[.int k x]
def abl (x:Bool):List Value:=[.bool x]
def Jn (x:ByteArray):List Value:=[.string x]
theorem vM (k:IntKind) (x:Int):∀u∈lJ k x,u.oneCell'=true:=by intro u hu; simp [lJ] at hu; subst hu; rfl
theorem UO (x:Bool):∀u∈abl x,u.oneCell'=true:=by intro u hu; simp [abl] at hu; subst hu; rfl
theorem O4 (x:ByteArray):∀u∈Jn x,u.oneCell'=true:=by intro u hu; simp [Jn] at hu; subst hu; rfl
def zS:ByteArray:=⟨#[]⟩
def Hp (a b:ByteArray):Bool:=Op.bytesLess a.toList b.toList
@[irreducible] def mZ:Nat:=18446744073709551616
theorem yP:mZ=18446744073709551616:=by unfold mZ; rfl
def nY {α:Type} (l:List α) (i:Int):Option α:=if 0≤i then l[i.toNat]? else none
theorem mK {α:Type} {l:List α} {i:Int} {x:α} (h:nY l i=some x):0≤i:=by
 unfold nY at h; split at h
 ·assumption
 ·cases h
theorem mE {α:Type} {l:List α} {i:Int} {x:α} (h:nY l i=some x):l[i.toNat]? =some x:=by
 unfold nY at h; split at h
 ·exact h
 ·cases h
theorem GF {α:Type} (l:List α) (i:Nat):nY l (i:Int)=l[i]?:=by simp [nY]
def Nh (s:ByteArray) (i:Int):Option UInt8:=if 0≤i then s[i.toNat]? else none
theorem SZ {s:ByteArray} {i:Int} {x:UInt8} (h:Nh s i=some x):0≤i:=by
 unfold Nh at h; split at h
 ·assumption
 ·cases h
theorem Yw {s:ByteArray} {i:Int} {x:UInt8} (h:Nh s i=some x):s[i.toNat]? =some x:=by
 unfold Nh at h; split at h
 ·exact h
 ·cases h
section
variable {F:Nat→Prop} {w W:World} {μ:mO} {L L':LO} {α:Type} {e:TypeId} {enc:α→List Value} {k:Nat} {v:Value} {l:List α} {R:LO}
theorem ST.at_ (h:ST dd F w W μ L) {b:Nat} {o:Obj} (a:(b,o)∈L):hp W b=some o:=(h.box b o a).1
theorem mg.RR (h:mg e enc k v l R) (hk:∀x,(enc x).length=k) (a:ST dd F w W μ L) (d:∀p,p∈R→p∈L):Sl (Pl enc) k (hp W) v l :=
 h.sl hk (λ_ _ g=>a.at_ (d _ g))
theorem mg.form (h:mg e enc k v l R):∃A c,v= .slice A l.length c:=by
 rcases h with ⟨rfl,rfl,rfl⟩ | ⟨g,cap,a,rfl,rfl,h1,d,i,j⟩
 ·exact ⟨_,_,Z⟩
 ·exact ⟨_,_,Z⟩
theorem Sl.form {R:tu α} (h:Sl R k μ v l):∃A c,v= .slice A l.length c:=let ⟨A,c,h,_⟩:=h; ⟨A,c,h⟩
theorem mg.Wb (h:mg e enc k v l R) (d:ST dd nf w W μ L) (j:∀p,p∈R→p∈L):Fr w.heap.size v:=by
 rcases h with ⟨rfl,rfl,rfl⟩ | ⟨g,cap,a,rfl,rfl,h1,q,s,t⟩
 ·exact Fr.nil _
 ·intro b i
  simp [Value.ownBlock] at i
  subst i
  rcases (d.box g (.cells a e (0,0)) (j _ (aV.2 Z))).2.2 with h | h
  ·exact h
  ·exact h.elim
theorem Sl.lit {b m:Nat} {cs:Array Value} (hk:∀x,(enc x).length=k) (hm:l.length=m) (d:m≤maxLen) (a:cs.toList=(l.map enc).flatten) (g:μ b=some (.cells cs e (0,0))):Sl (Pl enc) k μ (.slice (some ⟨b,0,none⟩) m m) l :=
 (mg.lit (e:=e) (b:=b) hm d a (by have:=bA List.length a; rw [vu hk,dF,hm] at this; exact this)).sl hk (λi o h=>by simp at h; obtain ⟨rfl,rfl⟩:=h; exact g)
theorem Fr.box (h:ST dd nf w W μ L) {b m c:Nat} {o:Obj} (d:(b,o)∈L):Fr w.heap.size (.slice (some ⟨b,0,none⟩) m c):=by
 intro g a
 simp [Value.ownBlock] at a
 subst a
 rcases (h.box b o d).2.2 with h | h
 ·exact h
 ·exact h.elim
theorem ST.perm (h:ST dd F w W μ L) (hp:L.Perm L'):ST dd F w W μ L' :=
 ⟨h.os,h.tape,h.output,h.drawn,h.size,h.oJ,h.mem,λb o a=>h.box b o (hp.mem_iff.2 a),(hp.map _).nodup_iff.1 h.nd⟩
theorem ST.sublist (h:ST dd F w W μ L) (a:L'.Sublist L):ST dd F w W μ L' :=
 ⟨h.os,h.tape,h.output,h.drawn,h.size,h.oJ,h.mem,λb o d=>h.box b o (a.subset d),h.nd.sublist (a.map _)⟩
end
section
variable {E:nn} {x1 x2 x3 x4 x5 x6:Operand} {v1 v2 v3 v4 v5 v6:Value}
theorem pp (h1:lF E x1=v1):#[x1].map (lF E)++(#[]:Array Value)=[v1].toArray:=by simp [h1]
theorem px (h1:lF E x1=v1) (a:lF E x2=v2):#[x1,x2].map (lF E)++(#[]:Array Value)=[v1,v2].toArray:=by simp [h1,a]
theorem acF (h1:lF E x1=v1) (a:lF E x2=v2) (d:lF E x3=v3):#[x1,x2,x3].map (lF E)++(#[]:Array Value)=[v1,v2,v3].toArray:=by simp [h1,a,d]
end
theorem PF:∀(v:List Value) (i off:Nat) (cells:Array Value),off+i+v.length≤cells.size→
  (v.zipIdx i).foldl (λcs (c,j)=>cs.setIfInBounds (off+j) c) cells=(cells.toList.take (off+i)++v++cells.toList.drop (off+i+v.length)).toArray
 | [],i,off,cells,h=>by simp
 | c::v,i,off,cells,h=>by
  simp only [List.zipIdx_cons,iS]
  simp only [aG] at h
  rw [PF v (i+1) off _ ss]
  have g:off+i < cells.toList.length:=by simp; omega
  congr 1
  rw [Array.toList_setIfInBounds]
  apply eZ
  intro j
  have k:(cells.toList.take (off+i)).length=off+i:=by simp; omega
  by_cases h1:j < off+i
  ·simp only [gz,aC,cU,iU,dF,aG,fu,fG,ei]
   rw [show min (off+(i+1)) cells.size=off+(i+1) by omega,show min (off+i) cells.size=off+i by omega]
   rw [aO rs,aO rs,aO rs,aH rs,aO rs,aO rs,aO rs]
  ·by_cases d:j=off+i
   ·subst d
    simp [gz,fu,fG,show off+i < off+(i+1) by omega]
    rw [aO rs,aO rs,aH rs,show off+i-min (off+i) cells.size=0 by omega]
    rfl
   ·simp only [gz,aC,cU,iU,dF,aG,fu,fG,ei]
    rw [show min (off+(i+1)) cells.size=off+(i+1) by omega,show min (off+i) cells.size=off+i by omega]
    by_cases a:j < off+(i+1)+v.length
    ·rw [aO a,aH rs,aO rs,aH rs]
     rw [show j-(off+i)=(j-(off+(i+1)))+1 by omega]
     simp
    ·rw [aH a,aH rs,aH rs]
     congr 1
     omega
theorem RX {k:Nat}:∀(vs:List Value) (i:Nat) (pre rest:List Value),(∀v∈vs,v.cells.size=k)→pre.length=i*k→rest.length=vs.length*k→
  Instr.fill (λi=>some (i*k,k)) (pre++rest).toArray ((vs.zipIdx i).map λp=>(p.2,p.1))=some (pre++vs.flatMap λv=>v.cells.toList).toArray
 | [],i,pre,rest,g,hp,d=>by
  have:rest=[]:=by cases rest <;> simp at d ⊢
  simp [Instr.fill,this]
 | v::vs,i,pre,rest,g,hp,d=>by
  have a:=g v rv
  have h:v.cells.zipIdx.foldl (λcs (c,j)=>cs.setIfInBounds (i*k+j) c) (pre++rest).toArray=(pre++v.cells.toList++rest.drop k).toArray:=by
   have:=PF v.cells.toList 0 (i*k) (pre++rest).toArray (by simp [hp,d,a,cZ])
   rw [←Array.toList_zipIdx,Array.foldl_toList] at this
   rw [this]
   congr 1
   simp [←hp,a]
  simp only [List.zipIdx_cons,bQ,Instr.fill]
  rw [aH (by simp [a,hp,d,cZ]),h]
  have:=RX vs (i+1) (pre++v.cells.toList) (rest.drop k) (λu hu=>g u (by simp [hu])) (by simp [hp,a,cZ]) (by simp [d,cZ])
  rw [this]
  simp
theorem Ye {k m:Nat} {a cs:Array Value} {qs:Array (Nat×Value)} (vs:List Value) (g:qs.toList=vs.zipIdx.map λp=>(p.2,p.1)) (j:∀v∈vs,v.cells.size=k) (hm:vs.length=m) (h:a.size=m*k) (d:(vs.flatMap λv=>v.cells.toList).toArray=cs):Instr.fill (λi=>some (i*k,k)) a qs.toList=some cs:=by
 subst hm d
 rw [g]
 have:=RX vs 0 [] a.toList j rv (by simpa using h)
 simpa using this
theorem Eb {P:Program} {t e:TypeId} {m k:Nat} {z:Value} {qs:Array (Nat×Value)} {cs:Array Value} (vs:List Value) (i:P.underlying t=some (.slice e)) (h:∀w,(sizeOf e).run P w= .ok k w) (q:∀w,(zeroValue e).run P w= .ok z w) (hm:m*k≤16777216) (g:qs.toList=vs.zipIdx.map λp=>(p.2,p.1)) (j:∀v∈vs,v.cells.size=k) (d:vs.length=m) (a:(vs.flatMap λv=>v.cells.toList).toArray=cs) (W:World) :
  (Instr.buildSlice t m qs).run P W= .ok (.slice (some ⟨W.heap.size,0,none⟩) m m) (W.alloc (.cells cs e (0,0))) :=
 Oy i h q hm (Ye vs g j d rv a) W
theorem pP {E:nn} :(#[]:Array (Nat×Operand)).map (λ(i,x)=>(i,lF E x))=#[]:=by simp
theorem nw {E:nn} {x0:Operand} {v0:Value} {i0:Nat} (a:lF E x0=v0):(#[(i0,x0)]:Array (Nat×Operand)).map (λ(i,x)=>(i,lF E x))=#[(i0,v0)]:=by simp [a]
theorem pZ {E:nn} {x0 x1:Operand} {v0 v1:Value} {i0 i1:Nat} (a:lF E x0=v0) (h1:lF E x1=v1):(#[(i0,x0),(i1,x1)]:Array (Nat×Operand)).map (λ(i,x)=>(i,lF E x))=#[(i0,v0),(i1,v1)]:=by simp [a,h1]
theorem I5 {E:nn} {x0 x1 x2:Operand} {v0 v1 v2:Value} {i0 i1 i2:Nat} (a:lF E x0=v0) (h1:lF E x1=v1) (d:lF E x2=v2):(#[(i0,x0),(i1,x1),(i2,x2)]:Array (Nat×Operand)).map (λ(i,x)=>(i,lF E x))=#[(i0,v0),(i1,v1),(i2,v2)]:=by simp [a,h1,d]
theorem RL {E:nn} {x0 x1 x2 x3:Operand} {v0 v1 v2 v3:Value} {i0 i1 i2 i3:Nat} (a:lF E x0=v0) (h1:lF E x1=v1) (d:lF E x2=v2) (g:lF E x3=v3):(#[(i0,x0),(i1,x1),(i2,x2),(i3,x3)]:Array (Nat×Operand)).map (λ(i,x)=>(i,lF E x))=#[(i0,v0),(i1,v1),(i2,v2),(i3,v3)]:=by simp [a,h1,d,g]
theorem abA {E:nn} {x0 x1 x2 x3 x4:Operand} {v0 v1 v2 v3 v4:Value} {i0 i1 i2 i3 i4:Nat} (a:lF E x0=v0) (h1:lF E x1=v1) (d:lF E x2=v2) (g:lF E x3=v3) (h:lF E x4=v4):(#[(i0,x0),(i1,x1),(i2,x2),(i3,x3),(i4,x4)]:Array (Nat×Operand)).map (λ(i,x)=>(i,lF E x))=#[(i0,v0),(i1,v1),(i2,v2),(i3,v3),(i4,v4)]:=by simp [a,h1,d,g,h]
theorem lP {P:Program} {t:TypeId} {f off:Nat} {fs:Array Field} {fd:Field} (h:P.underlying t=some (.struct fs)) (a:fs[f]? =some fd) {k:Nat} (g:∀w,(sizeOf fd.type).run P w= .ok k w) (hk:k≠0) (d:fd.offset=off):mC P t f off:=by
 intro b o w
 subst d
 simp [Instr.fieldAt,aS h,a,Instr.sureAddr,fieldPlace,dW,g w,hk]
theorem Ag.NA {n:Nat} {a:Act} {E:nn} (h:Ag n a E) {ops:Array Oper} {j t:Nat} (g:(ops[j]?).bind (·.dst)=some t) (k:t < n) (q:E t=undef):yielded ops a.tmps j=none:=by
 have d:=h.2.2 t
 have i:a.tmps[t]? =some (E t):=by
  rw [←d]
  simp [dw,h.1,k]
 simp [yielded,g,i,q,undef]
theorem abk {P:Program} {n:Nat} {Q:rc} {E:nn} {W:World} {ops:Array Oper} {rest:List Oper} {o:Oper} {d j t:Nat} {want:Bool} (hd:o.dst=some d) (q:d < n) (i:o.guard=some (j,want)) (k:(ops[j]?).bind (·.dst)=some t) (s:t < n) (g:E t=undef) (h:LW P n ops Q rest (oT E d undef) W):LW P n ops Q (o::rest) E W:=λa ha=>by
 unfold wpListIn
 have u:=ha.NA k s g
 rw [aH (by simp [Region.wanted,i,u])]
 rw [hd]
 exact ⟨λ_ _=>trivial,h _ (ha.put q _)⟩
theorem ab2 {P:Program} {n:Nat} {Q:rc} {E:nn} {W:World} {ops:Array Oper} {rest:List Oper} {A:Value→Prop} {o:Oper} {dd:Nat} (hw:lL n ops E o) (hd:o.dst=some dd) (d:dd < n) (g:∃p,A p∧∀W,nE P E o W p W) (h:∀p,A p→LW P n ops Q rest (oT E dd p) W):LW P n ops Q (o::rest) E W:=by
 obtain ⟨p,h1,a⟩:=g
 exact OR hw hd d (a W) (h p h1)
end Go.Proofs.YtojmckcglalbnaaGreat
namespace Go.Proofs.YtojmckcglalbnaaGreat
open Go.RowKit
variable [M:Md]
variable {dd:Bool}
theorem xl {P:Program} {n:Nat} {x:Code} {Q:rc} {E:nn} {W:World} (h:CW P n x (uL (λE W=>Q .normal E W) Q) E W):CW P n x Q E W :=
 Lt h (λe E W h=>by cases e <;> exact h)
section
variable {P:Program} {n:Nat} {Q:rc} {E:nn} {W:World} {d:Option Nat} {ty:TypeId} {pos:String} {af:Array Edge} {g:tX}
 {F:Nat→Prop} {w:World} {μ:mO} {L:LO}
def Zs (k:IntKind) (op:BinOp) (a b:Int):Option Value :=
 match op with
 | .quo=>some (.int k (k.wrap (a.tdiv b)))
 | .rem=>some (.int k (a.tmod b))
 | .and=>some (.int k (k.wrap (BitVec.ofInt k.bits a &&& BitVec.ofInt k.bits b).toNat))
 | .or=>some (.int k (k.wrap (BitVec.ofInt k.bits a ||| BitVec.ofInt k.bits b).toNat))
 | _=>none
theorem U0 {op:BinOp} {tx tv:TypeId} {x y:Operand} {k:IntKind} {a b:Int} {v:Value} (j:lF E x= .int k a) (q:lF E y= .int k b) (i:b≠0) (h:Zs k op a b=some v) :
  nE P E ⟨d,.binOp op tx x y tv,ty,pos,af,g⟩ W v W:=by
 show (do let r ←(do eqGuard op tx x y (lF E x) (lF E y); binOp op tx (lF E x) (lF E y)); pure (.value r):Sem Next).run P W=_
 rw [j,q]
 cases op <;> simp [Zs] at h <;> subst h <;> simp [eqGuard,binOp,Op.intDiv,Op.intBits,i]
theorem JM {tx tv:TypeId} {x y:Operand} {k k':IntKind} {a b:Int} (h:lF E x= .int k a) (i:lF E y= .int k' b) (j:0≤b) :
  nE P E ⟨d,.binOp .shr tx x y tv,ty,pos,af,g⟩ W (.int k (a.fdiv (2 ^ min b.toNat k.bits))) W:=by
 show (do let r ←(do eqGuard .shr tx x y (lF E x) (lF E y); binOp .shr tx (lF E x) (lF E y)); pure (.value r):Sem Next).run P W=_
 rw [h,i]
 simp [eqGuard,binOp,Op.shift,show ¬b < 0 by omega]
theorem uI {s t:TypeId} {x:Operand} {k k':IntKind} {a:Int} {u:TypeDesc} (h:P.underlying s=some u) (i:P.underlying t=some (.int k)) (j:lF E x= .int k' a) :
  nE P E ⟨d,.convert s t x,ty,pos,af,g⟩ W (.int k (k.wrap a)) W:=by
 show (do pure (.value (←convert s t (lF E x))):Sem Next).run P W=_
 rw [j]
 simp [convert,aS h,aS i,Conv.intToInt]
theorem OH {t e:TypeId} (dd:Nat) (a:P.underlying t=some (.slice e)) (A:Option Addr) (l c:Nat) (W:World):(Op.equalIn (dd+1) t (.slice A l c) (.slice none 0 0)).run P W= .ok A.isNone W:=by
 cases A <;> simp [Op.equalIn,aS a]
theorem D5 {tx tv e:TypeId} {x y:Operand} {A:Option Addr} {l c:Nat} (h:P.underlying tx=some (.slice e)) (i:lF E x= .slice A l c) (j:lF E y= .slice none 0 0) :
  nE P E ⟨d,.binOp .eql tx x y tv,ty,pos,af,g⟩ W (.bool A.isNone) W:=by
 show (do let r ←(do eqGuard .eql tx x y (lF E x) (lF E y); binOp .eql tx (lF E x) (lF E y)); pure (.value r):Sem Next).run P W=_
 rw [i,j]
 have a:=OH 9999 h A l c W
 simp [eqGuard,binOp,Op.equal,show Op.maxDepth=9999+1 from rfl,a]
def zc (s:ByteArray):List Int:=s.data.toList.map (λb=>(b.toNat:Int))
def I0 (s:ByteArray):Option (List Int):=if s.size≤maxLen then some (zc s) else none
theorem sx (s:ByteArray):(zc s).length=s.size:=by simp only [zc,eB,dF]; rfl
theorem Vv {s:ByteArray} {cap i:Nat} {x:Int} (h:(zc s)[i]? =some x):(bytesRow s cap)[i]? =some (.int .u8 x):=by
 have g:i < s.size:=by have:=(bP.1 h).1; rwa [sx] at this
 have a:i < s.data.size:=g
 simp [zc] at h
 obtain ⟨b,d,rfl⟩:=h
 rw [bytesRow,Array.getElem?_append_left (by simpa using a)]
 simp [d]
theorem P9 {K:Value→World→Prop} {s t e:TypeId} {x:Operand} {str:ByteArray} {l:List Int} (k:ST dd F w W μ L) (I:P.underlying s=some .string) (hd:P.underlying t=some (.slice e)) (he:P.underlying e=some (.int .u8)) (u:lF E x= .string str) (a:I0 str=some l) (h:∀W' v μ',ST dd F w W' μ' L→lM μ μ'→Lo F w μ μ'→Sl (Pl (lJ .u8)) 1 μ' v l→Fr w.heap.size v→K v W'):py P E ⟨d,.convert s t x,ty,pos,af,g⟩ W K:=by
 unfold I0 at a
 split at a
 case isFalse=>cases a
 rename_i hm
 cases a
 have q:=run_bytes_of_string (P:=P) W s t e str I hd he
 have h1:=k.drew.alloc (.cells (bytesRow str (grownCap W str.size 0 e)) e ((bytesRow str (grownCap W str.size 0 e)).size,(bytesRow str (grownCap W str.size 0 e)).size+1))
 refine .inl ⟨.slice (some ⟨W.heap.size,0,none⟩) str.size (grownCap W str.size 0 e),_,?_,h _ _ _ (ST.LH (A:=[]) h1) (ST.Ln (A:=[]) h1) (ST.Sg (A:=[]) h1) ?_ ?_⟩
 ·show (do pure (.value (←convert s t (lF E x))):Sem Next).run P W=_
  rw [u]
  simp only [cD,q,bN,dx]
 ·refine ⟨_,grownCap W str.size 0 e,by rw [sx],by rw [sx]; exact grownCap_ge W str.size 0 e,jq W str.size 0 e hm,λ_=>⟨W.heap.size,0,bytesRow str (grownCap W str.size 0 e),e,_,Z,aO Z,λi x u=>⟨_,Z,Z,λj y z=>?_⟩⟩⟩
  cases j with
  | zero=>simp [lJ] at z; subst z; simpa using Vv u
  | succ j=>simp [lJ] at z
 ·intro b a
  simp [Value.ownBlock] at a
  subst a
  exact k.size
def BC (l:List Int):ByteArray:=l.foldl (λr n=>r.push (UInt8.ofNat n.toNat)) ByteArray.empty
theorem OW {s t e:TypeId} {x:Operand} {v:Value} {l:List Int} (O:P.underlying s=some (.slice e)) (he:P.underlying e=some (.int .u8)) (hd:P.underlying t=some .string) (U:lF E x=v) (Q:Sl (Pl (lJ .u8)) 1 (hp W) v l) :
  nE P E ⟨d,.convert s t x,ty,pos,af,g⟩ W (.string (BC l)) W:=by
 show (do pure (.value (←convert s t (lF E x))):Sem Next).run P W=_
 obtain ⟨A,c,rfl,Y,h3,z⟩:=Q
 rw [U]
 simp only [cD,run_convert_bytes_string W s t e A l.length c O he hd]
 rcases eX l.length with h | h
 ·have:l=[]:=ed.1 h
  subst this
  cases A with
  | none=>simp [Conv.bytesToString,BC]
  | some a=>
   have I:=run_bytesToString (P:=P) W a 0 c [] (by simpa using jo (P:=P) W a [] rv)
   simp only [cM]
   rw [I]
   simp [BC]
 ·obtain ⟨b,off,cs,T,fr,rfl,J,M⟩:=z h
  have y:=jo (P:=P) W ⟨b,off,none⟩ (l.map (Value.int .u8)) (λj v u=>by
   simp at u
   obtain ⟨x,k,rfl⟩:=u
   obtain ⟨ys,_,q,i⟩:=M j x k
   cases q
   rw [dW,gU W b (off+j) cs T fr J]
   have:=i 0 (.int .u8 x) Z
   simpa using this)
  simp only [eB] at y
  rw [run_bytesToString W _ l.length c l y]
  simp [BC]
end
end Go.Proofs.YtojmckcglalbnaaGreat
namespace Go.Proofs.YtojmckcglalbnaaGreat
open Go.RowKit
variable {dd:Bool}
def keys (L:LO):Nat→Prop:=λb=>∃o,(b,o)∈L
structure ExF (dd:Bool) (F:Nat→Prop) (w W:World):Prop where
 os:W.os=w.os
 tape:W.tape=w.tape
 output:W.output=w.output
 drawn:yU dd w.drawn W.drawn
 size:w.heap.size≤W.heap.size
 oJ:∀b,b < w.heap.size→¬F b→W.heap[b]? =w.heap[b]?
def JB (L:LO) (W:World):Prop:=∀b o,(b,o)∈L→W.heap[b]? =some o
structure wP (dd:Bool) (L0 L1:LO) (w w':World):Prop where
 ex:ExF dd (keys L0) w w'
 held:∀b o,(b,o)∈L1→w'.heap[b]? =some o∧(w.heap.size≤b∨keys L0 b)
 nd:(L1.map (·.1)).Nodup
open Classical in
noncomputable def wZ (w:World) (L:LO):mO:=λb=>if keys L b then none else w.heap[b]?
open Classical in
noncomputable def HM (μ:mO) (W W':World) (L1:LO):mO:=λb=>if b < W.heap.size then μ b else if keys L1 b then none else W'.heap[b]?
section
variable {F:Nat→Prop} {w W W':World} {μ μ':mO} {L L0 L1:LO}
theorem ST.abz (a:JB L0 w) (d:(L0.map (·.1)).Nodup):ST dd (keys L0) w w (wZ w L0) L0 :=
 ⟨Z,Z,Z,yU.of (aY _),aY _,λ_ _ _=>rfl,λb o h=>by
  unfold wZ at h; split at h
  ·cases h
  ·exact h,λb o h=>⟨a b o h,by unfold wZ; rw [aO ⟨o,h⟩],.inr ⟨o,h⟩⟩,d⟩
theorem ST.abc (h:ST dd (keys L0) w W μ L1):wP dd L0 L1 w W :=
 ⟨⟨h.os,h.tape,h.output,h.drawn,h.size,h.oJ⟩,λb o a=>⟨(h.box b o a).1,(h.box b o a).2.2⟩,h.nd⟩
theorem Lw {A B:LO} (h:((A++B).map (·.1)).Nodup) {b:Nat} {o:Obj} (a:(b,o)∈B):¬keys A b:=by
 rintro ⟨g,d⟩
 rw [cL] at h
 exact (cE.1 h).2.2 b (bT.2 ⟨_,d,Z⟩) b (bT.2 ⟨_,a,Z⟩) Z
theorem ST.back (h:ST dd F w W μ (L0++L)) (j:wP dd L0 L1 W W'):ST dd F w W' (HM μ W W' L1) (L1++L):=by
 have hk:∀b,keys L0 b→b < W.heap.size∧μ b=none∧(w.heap.size≤b∨F b):=λb ⟨o,d⟩=>by
  obtain ⟨h1,g,s⟩:=h.box b o (bY _ d)
  exact ⟨sb h1,g,s⟩
 refine ⟨j.ex.os.trans h.os,j.ex.tape.trans h.tape,j.ex.output.trans h.output,yU.trans h.drawn j.ex.drawn,dP h.size j.ex.size,λb i t=>?_,λb o d=>?_,λb o d=>?_,?_⟩
 ·rw [j.ex.oJ b (ee i h.size) (λk=>by
   rcases (hk b k).2.2 with h | h
   ·omega
   ·exact t h)]
  exact h.oJ b i t
 ·unfold HM at d
  split at d
  ·rename_i i
   rw [j.ex.oJ b i (λk=>by rw [(hk b k).2.1] at d; cases d)]
   exact h.mem b o d
  ·split at d
   ·cases d
   ·exact d
 ·rcases bE.1 d with d | d
  ·obtain ⟨h1,g⟩:=j.held b o d
   refine ⟨h1,?_,?_⟩
   ·unfold HM
    split
    ·rename_i i
     rcases g with g | g
     ·omega
     ·exact (hk b g).2.1
    ·rw [aO ⟨o,d⟩]
   ·rcases g with g | g
    ·exact .inl (dP h.size g)
    ·exact (hk b g).2.2
  ·obtain ⟨h1,g,s⟩:=h.box b o (dr _ d)
   refine ⟨?_,?_,s⟩
   ·rw [j.ex.oJ b (sb h1) (Lw h.nd d)]; exact h1
   ·unfold HM; rw [aO (sb h1)]; exact g
 ·rw [cL]
  have v:(L.map (·.1)).Nodup:=by have:=h.nd; rw [cL] at this; exact (cE.1 this).2.1
  refine cE.2 ⟨j.nd,v,λa ha c x e=>?_⟩
  subst e
  obtain ⟨⟨b,o⟩,d,rfl⟩:=bT.1 ha
  obtain ⟨⟨u,y⟩,q,e⟩:=bT.1 x
  simp at e; subst e
  have i:=h.Kj (dr _ q)
  rcases (j.held u o d).2 with g | g
  ·omega
  ·exact Lw h.nd q g
theorem ST.R7 (h:ST dd F w W μ L) (W':World) (L1:LO):Lo F w μ (HM μ W W' L1):=λb a _=>aO (ee a h.size)
theorem ST.Py (h:ST dd F w W μ L) (W':World) (L1:LO):lM μ (HM μ W W' L1):=λb o a=>by
 unfold HM; rw [aO (h.Jf a)]; exact a
theorem ST.lG (h:ST dd F w W μ L) (d:∀p,p∈L0→p∈L):lM μ (wZ W L0):=λb o a=>by
 unfold wZ
 rw [aH]
 ·exact h.mem b o a
 ·rintro ⟨i,g⟩
  rw [(h.box b i (d _ g)).2.1] at a
  cases a
theorem wP.QI (h:Ex dd w W) (d:∀b o,(b,o)∈L1→W.heap[b]? =some o∧w.heap.size≤b) (g:(L1.map (·.1)).Nodup):wP dd [] L1 w W :=
 ⟨⟨h.os,h.tape,h.output,h.drawn,h.size,λb a _=>h.oJ b a⟩,λb o a=>⟨(d b o a).1,.inl (d b o a).2⟩,g⟩
end
def nt (dd:Bool) (P:Program) (f:FuncId) (args:List Value) (w:World) (L0:LO) (K:Value→LO→World→Prop):Prop :=
 Calls P f args.toArray w λe a=>∃v L1,e= .returned v∧wP dd L0 L1 w a∧K v L1 a
def na (dd:Bool) {α:Type} (P:Program) (f:FuncId) (args:List Value) (w:World) (e:TypeId) (enc:α→List Value) (k:Nat) (l:List α):Prop :=
 nt dd P f args w [] λv R _=>mg e enc k v l R
theorem wP.mN {L0 L1:LO} {w a:World} (h:wP true L0 L1 w a):wP dd L0 L1 w a:=⟨⟨h.ex.os,h.ex.tape,h.ex.output,yU.of (h.ex.drawn Z),h.ex.size,h.ex.oJ⟩,h.held,h.nd⟩
theorem mo.mN {P:Program} {f:FuncId} {args:List Value} {w:World} {v:Value} (h:mo true P f args w v):mo dd P f args w v:=dl h λ_ _ h=>⟨h.1,h.2.mN⟩
theorem nt.mN {P:Program} {f:FuncId} {args:List Value} {w:World} {L0:LO} {K:Value→LO→World→Prop} (h:nt true P f args w L0 K):nt dd P f args w L0 K:=dl h λ_ _ ⟨v,L1,h1,a,d⟩=>⟨v,L1,h1,a.mN,d⟩
theorem na.mN {α:Type} {P:Program} {f:FuncId} {args:List Value} {w:World} {e:TypeId} {enc:α→List Value} {k:Nat} {l:List α} (h:na true P f args w e enc k l):na dd P f args w e enc k l:=nt.mN h
section
variable {P:Program} {E:nn} {W:World} {d:Option Nat} {ty:TypeId} {pos:String} {af:Array Edge} {g:tX}
 {F:Nat→Prop} {w:World} {μ:mO} {L:LO}
theorem Yy {K:Value→World→Prop} {K':Value→LO→World→Prop} {f:FuncId} {fv:Operand} {ax:Array Operand} {ats:Array TypeId} {caps:Array Value} {args:List Value} (L0 L2:LO) (a:ST dd F w W μ L) (i:L.Perm (L0++L2)) (s:lF E fv= .func (.func f) #[] caps) (he:∀args w,(callFunc f args).run P w= .ok (.enter f args) w) (ha:ax.map (lF E)++caps=args.toArray) (q:nt dd P f args W L0 K') (h:∀W' v μ' L1,ST dd F w W' μ' (L1++L2)→lM μ μ'→Lo F w μ μ'→K' v L1 W'→K v W'):py P E ⟨d,.call ⟨.value fv,ax,ats⟩,ty,pos,af,g⟩ W K :=
 Lv s he ha (dl q λ_ W' ⟨v,L1,h1,j,k⟩=>⟨v,h1,h W' v _ L1 ((a.perm i).back j) ((a.perm i).Py W' L1) ((a.perm i).R7 W' L1) k⟩)
theorem UP {K:Value→World→Prop} {α:Type} {e:TypeId} {enc:α→List Value} {k:Nat} {l:List α} {f:FuncId} {fv:Operand} {ax:Array Operand} {ats:Array TypeId} {caps:Array Value} {args:List Value} (X Y:LO) (a:ST dd F w W μ (X++Y)) (t:lF E fv= .func (.func f) #[] caps) (he:∀args w,(callFunc f args).run P w= .ok (.enter f args) w) (ha:ax.map (lF E)++caps=args.toArray) (s:na dd P f args W e enc k l) (h:∀W' v μ' R,ST dd F w W' μ' (X++(R++Y))→lM μ μ'→Lo F w μ μ'→mg e enc k v l R→K v W'):py P E ⟨d,.call ⟨.value fv,ax,ats⟩,ty,pos,af,g⟩ W K :=
 Yy [] (X++Y) a (.refl _) t he ha s (λW' v μ' L1 h1 i q j=>h W' v μ' L1 (h1.perm (by rw [←aP,←aP]; exact List.perm_append_comm.append_right Y)) i q j)
end
theorem ST.nT {w W:World} {μ:mO} {L R:LO} (h:ST dd nf w W μ L) (a:∀p,p∈R→p∈L) (g:(R.map (·.1)).Nodup):wP dd [] R w W :=
 wP.QI h.ex (λb o d=>⟨(h.box b o (a _ d)).1,by
  rcases (h.box b o (a _ d)).2.2 with h | h
  ·exact h
  ·exact h.elim⟩) g
theorem sf {P:Program} {E:nn} {W:World} {d:Option Nat} {ty:TypeId} {pos:String} {af:Array Edge} {g:tX} {α:Type} {e':TypeId} {enc:α→List Value} {k:Nat} {v:Value} {l:List α} {R:LO} {x:Operand} {t e:TypeId} (a:P.underlying t=some (.slice e)) (i:lF E x=v) (h:mg e' enc k v l R):nE P E ⟨d,.call ⟨.builtin .len,#[x],#[t]⟩,ty,pos,af,g⟩ W (.int .i64 l.length) W:=by
 obtain ⟨A,c,rfl⟩:=h.form
 exact CS a i
section
variable {α:Type} {e:TypeId} {enc:α→List Value} {k:Nat} {v:Value} {l:List α} {R:LO}
theorem mg.nd (h:mg e enc k v l R):(R.map (·.1)).Nodup:=by
 rcases h with ⟨rfl,rfl,rfl⟩ | ⟨g,cap,a,rfl,rfl,_⟩ <;> simp
end
end Go.Proofs.YtojmckcglalbnaaGreat
namespace Go.Proofs.YtojmckcglalbnaaGreat
open Go.RowKit
variable {dd:Bool}
def Gh (R:LO) (k:Nat) (p:Value) (i:Nat):Prop:=∃g o,R=[(g,o)]∧p= .pointer (some ⟨g,i*k,none⟩)
section
variable {P:Program} {E:nn} {W:World} {d:Option Nat} {ty:TypeId} {pos:String} {af:Array Edge} {g:tX}
 {F:Nat→Prop} {w:World} {μ:mO} {L:LO} {α:Type} {e':TypeId} {enc:α→List Value} {k:Nat} {v:Value} {l:List α} {R:LO}
theorem pC {t e:TypeId} {x j:Operand} {O:IntKind} {i:Int} {x0:α} (J:P.underlying t=some (.slice e)) (he:∀w,(sizeOf e).run P w= .ok k w) (M:lF E x=v) (z:lF E j= .int O i) (h:mg e' enc k v l R) (u:0≤i) (I:l[i.toNat]? =some x0) :
  ∃p,Gh R k p i.toNat∧∀W,nE P E ⟨d,.indexAddr t x j,ty,pos,af,g⟩ W p W:=by
 have a:i.toNat < l.length:=(bP.1 I).1
 rcases h with ⟨rfl,rfl,rfl⟩ | ⟨s,cap,q,rfl,rfl,h1,Q,U,Y⟩
 ·simp at a
 refine ⟨.pointer (some ⟨s,i.toNat*k,none⟩),⟨_,_,Z,Z⟩,λW=>?_⟩
 show (do pure (.value (←Instr.indexAt t (lF E x) (lF E j))):Sem Next).run P W=_
 rw [M,z]
 have y:0≤i∧i < (l.length:Int):=⟨u,rs⟩
 simp [Instr.indexAt,asIntOf,aS J,he W,y,dW]
theorem GS (h:mg e' enc k v l R) (hk:∀x,(enc x).length=k) {p:Value} {i:Nat} (hp:Gh R k p i) {x0:α} (t:l[i]? =some x0) :
  ∃g a cap,R=[(g,.cells a e' (0,0))]∧v= .slice (some ⟨g,0,none⟩) l.length cap∧l.length≤cap∧cap≤maxLen∧a.size=cap*k∧a.toList.take (l.length*k)=(l.map enc).flatten∧p= .pointer (some ⟨g,i*k,none⟩)∧∀j y,(enc x0)[j]? =some y→a[i*k+j]? =some y:=by
 have q:i < l.length:=(bP.1 t).1
 rcases h with ⟨rfl,rfl,rfl⟩ | ⟨z,cap,a,rfl,rfl,h1,I,J,s⟩
 ·simp at q
 obtain ⟨g2,o,u,rfl⟩:=hp
 cases u
 refine ⟨z,a,cap,Z,Z,h1,I,J,s,Z,λj y M=>?_⟩
 have:=Bg hk l i x0 t j y M
 rw [←s] at this
 have d:i*k+j < l.length*k:=by
  have:=(bP.1 this).1
  simp at this; omega
 rw [ev d] at this
 simpa using this
theorem uZ {A:LO} (hH:oR μ A W) (g:∀q,q∈R→q∈A) (h:mg e' enc k v l R) (hk:∀x,(enc x).length=k) {p:Value} {i:Nat} (hp:Gh R k p i) {x0:α} (u:l[i]? =some x0) {t:TypeId} (j:∀w,(isAgg t).run P w= .ok true w) (s:∀w,(sizeOf t).run P w= .ok k w):(Instr.loadAt t p).run P W= .ok (.agg (enc x0).toArray) W:=by
 obtain ⟨y,a,cap,rfl,rfl,_,_,_,_,rfl,d⟩:=GS h hk hp u
 exact Iq j (enc x0) (by rw [hk]; exact s) (hH.2 _ _ (g _ (aV.2 Z))) d
theorem MF {A:LO} (hH:oR μ A W) (g:∀q,q∈R→q∈A) (h:mg e' enc k v l R) (hk:∀x,(enc x).length=k) {p:Value} {i:Nat} (hp:Gh R k p i) {x0:α} (s:l[i]? =some x0) {t:TypeId} {y:Value} (u:enc x0=[y]) (j:∀w,(isAgg t).run P w= .ok false w):(Instr.loadAt t p).run P W= .ok y W:=by
 obtain ⟨z,a,cap,rfl,rfl,_,_,_,_,rfl,d⟩:=GS h hk hp s
 exact Ic j (hH.2 _ _ (g _ (aV.2 Z))) (d 0 y (by rw [u]; rfl))
theorem MC (hk:∀x,(enc x).length=k):∀(l:List α) (i:Nat) (y:α),i < l.length→((l.set i y).map enc).flatten=(l.map enc).flatten.take (i*k)++enc y++(l.map enc).flatten.drop (i*k+k)
 | [],i,y,h=>by simp at h
 | z::l,0,y,h=>by
  simp [hk]
 | z::l,i+1,y,h=>by
  have:=MC hk l i y (by simpa using h)
  simp only [List.set_cons_succ,bQ,dX,this]
  have h1:(i+1)*k=(enc z).length+i*k:=by rw [hk,cZ]; omega
  rw [h1,jc,fM,List.drop_length_add_append]
  simp
theorem UU {K:Value→World→Prop} (X:LO) {Y:LO} {t:TypeId} {x y:Operand} {p u:Value} {i:Nat} {x0 x1:α} (q:ST dd F w W μ (X++(R++Y))) (h:mg e' enc k v l R) (hk:∀x,(enc x).length=k) (h1:∀x,∀u∈enc x,u.oneCell'=true) (hx:lF E x=p) (hy:lF E y=u) (hu:u.cells=(enc x1).toArray) (hp:Gh R k p i) (Q:l[i]? =some x0) (hS:∀w,(sizeOf t).run P w= .ok k w) (hK:∀W' R',ST dd F w W' μ (X++(R'++Y))→mg e' enc k v (l.set i x1) R'→K undef W'):py P E ⟨d,.store t x y,ty,pos,af,g⟩ W K:=by
 have J:i < l.length:=(bP.1 Q).1
 obtain ⟨z,a,cap,rfl,rfl,O,h3,I,h5,rfl,h6⟩:=GS h hk hp Q
 have hle:i*k+k≤cap*k:=by
  have:(i+1)*k≤cap*k:=dp _ rs
  rwa [cZ,kR] at this
 have s:i*k+k≤l.length*k:=by
  have:(i+1)*k≤l.length*k:=dp _ rs
  rwa [cZ,kR] at this
 have j:u.cells.size=k:=by rw [hu]; simp [hk]
 have hb:=(q.box z (.cells a e' (0,0)) rv).1
 have hlen:l.length*k≤cap*k:=dp _ O
 refine .inr (.inl ⟨W.setRow z (a.toList.take (i*k)++(enc x1)++a.toList.drop (i*k+k)).toArray,?_,hK _ [(z,.cells (a.toList.take (i*k)++(enc x1)++a.toList.drop (i*k+k)).toArray e' (0,0))] (q.store _) (.inr ⟨z,cap,_,rv,Z,by simpa using O,h3,?_,?_⟩)⟩)
 ·show (do Instr.storeAt t (lF E x) (lF E y); pure .skip:Sem Next).run P W=_
  rw [hx,hy]
  have:=It P (off:=i*k) u (by rw [j]; exact hS) (by rw [hu]; simpa using h1 x1) hb (by rw [j,I]; exact hle)
  simp only [cD,this,bN,dx,j]
  rw [hu]
 ·show ((a.toList.take (i*k)++(enc x1)++a.toList.drop (i*k+k)).toArray).size=_
  have e0:a.toList.length=cap*k:=by simpa using I
  rw [dG,aC,aC,cU,fS,hk,e0,dS rs]; omega
 ·rw [iU,MC hk l i x1 J,←h5]
  have U:(a.toList.take (l.length*k)).take (i*k)=a.toList.take (i*k):=by rw [gY]; congr 1; omega
  have e2:(a.toList.take (l.length*k)).drop (i*k+k)=(a.toList.drop (i*k+k)).take (l.length*k-(i*k+k)):=by rw [jr]
  rw [U,e2]
  show List.take (l.length*k) (a.toList.take (i*k)++enc x1++a.toList.drop (i*k+k))=_
  have e0:a.toList.length=cap*k:=by simpa using I
  have M:(a.toList.take (i*k)++enc x1).length=i*k+k:=by rw [aC,cU,hk,e0,dS rs]
  rw [fT,dy (by rw [M]; exact s),M]
theorem Kz (hk:∀x,(enc x).length=k):∀(l:List α) (i:Nat),i≤l.length→((l.take i).map enc).flatten=(l.map enc).flatten.take (i*k)
 | [],i,h=>by simp
 | z::l,0,h=>by simp
 | z::l,i+1,h=>by
  have:=Kz hk l i (by simpa using h)
  simp only [List.take_succ_cons,bQ,dX,this]
  rw [show (i+1)*k=(enc z).length+i*k by rw [hk,cZ]; omega,jc]
theorem yK {t e:TypeId} {x ih:Operand} {Y:IntKind} {i:Int} (u:P.underlying t=some (.slice e)) (he:∀w,(sizeOf e).run P w= .ok k w) (y:lF E x=v) (s:lF E ih= .int Y i) (h:mg e' enc k v l R) (hk:∀x,(enc x).length=k) (I:0≤i) (U:i≤l.length) :
  ∃z,mg e' enc k z (l.take i.toNat) R∧∀W,nE P E ⟨d,.slice t x none (some ih) none,ty,pos,af,g⟩ W z W:=by
 have a:i.toNat≤l.length:=by omega
 rcases h with ⟨rfl,rfl,rfl⟩ | ⟨q,cap,j,rfl,rfl,h1,J,M,O⟩
 ·have:i=0:=by simp at U; omega
  subst this
  refine ⟨.slice none 0 0,.inl ⟨Z,rv,Z⟩,λW=>?_⟩
  show (do pure (.value (←Instr.sliceAt t (lF E x) none (some (lF E ih)) none)):Sem Next).run P W=_
  rw [y,s]
  simp [Instr.sliceAt,Instr.slice,Instr.sliceBounds,Instr.sliceBound,asIntOf,aS u,he W]
 ·refine ⟨.slice (some ⟨q,0,none⟩) (l.take i.toNat).length cap,.inr ⟨q,cap,j,Z,Z,ss,J,M,?_⟩,λW=>?_⟩
  ·have e0:(l.take i.toNat).length=i.toNat:=by rw [cU]; omega
   have hle:i.toNat*k≤l.length*k:=dp _ a
   rw [e0,Kz hk l i.toNat a,←O,gY,dS hle]
  ·show (do pure (.value (←Instr.sliceAt t (lF E x) none (some (lF E ih)) none)):Sem Next).run P W=_
   rw [y,s]
   have Q:0≤i∧i≤(cap:Int):=⟨I,rs⟩
   simp [Instr.sliceAt,Instr.slice,Instr.sliceBounds,Instr.sliceBound,asIntOf,aS u,he W,Q,dW]
   omega
theorem Ds {M:tu α} {t e:TypeId} {x I:Operand} {ik:IntKind} {i:Int} (ht:P.underlying t=some (.slice e)) (he:∀w,(sizeOf e).run P w= .ok k w) (u:lF E x=v) (hi:lF E I= .int ik i) (h:Sl M k μ v l) (O:0≤i) (hl:i≤l.length) :
  ∃J,(Sl M k μ J (l.drop i.toNat)∧∀B,Fr B v→Fr B J)∧∀W,nE P E ⟨d,.slice t x (some I) none none,ty,pos,af,g⟩ W J W:=by
 obtain ⟨A,c,rfl,h2,h3,Q⟩:=h
 have a1:i.toNat≤l.length:=by omega
 refine ⟨.slice (if c=i.toNat then A else A.map (·.add (i.toNat*k))) (l.drop i.toNat).length (c-i.toNat),⟨⟨_,_,Z,ss,rs,λhp=>?_⟩,λB hF b s=>?_⟩,λW=>?_⟩
 ·have a6:i.toNat < l.length:=by simp at hp; omega
  obtain ⟨b,off,cs,T,fr,rfl,U,Y⟩:=Q rs
  refine ⟨b,off+i.toNat*k,cs,T,fr,?_,U,λj x u=>?_⟩
  ·rw [aH rs]; simp [dW]
  ·rw [ei] at u
   obtain ⟨ys,h8,h9,z⟩:=Y _ x u
   refine ⟨ys,h8,h9,λq y hy=>?_⟩
   have:=z q y hy
   rw [cZ] at this
   rw [show off+i.toNat*k+j*k+q=off+(i.toNat*k+j*k)+q by omega]
   exact this
 ·refine hF b ?_
  cases A with
  | none=>simp [Value.ownBlock] at s
  | some a=>
   split at s
   ·exact s
   ·obtain ⟨b',o',s'⟩:=a
    cases s' <;> simp [Value.ownBlock,Addr.add] at s ⊢ <;> split at s <;> exact s
 ·show (do pure (.value (←Instr.sliceAt t (lF E x) (some (lF E I)) none none)):Sem Next).run P W=_
  rw [u,hi]
  have s:0≤i∧i≤(l.length:Int):=⟨O,hl⟩
  simp [Instr.sliceAt,Instr.slice,Instr.sliceBounds,Instr.sliceBound,asIntOf,aS ht,he W,s]
end
end Go.Proofs.YtojmckcglalbnaaGreat
namespace Go.Proofs.YtojmckcglalbnaaGreat
open Go.RowKit
variable {dd:Bool}
section
variable {α:Type} {e:TypeId} {enc:α→List Value} {k:Nat} {v:Value} {l:List α} {R:LO} {μ:mO}
theorem mg.one (h:mg e enc k v l R):v.oneCell'=true:=by obtain ⟨A,c,rfl⟩:=h.form; rfl
theorem Sl.one {a:tu α} (h:Sl a k μ v l):v.oneCell'=true:=by obtain ⟨A,c,rfl⟩:=h.form; rfl
theorem Sl.isNil {d:tu α} {n c:Nat} (h:Sl d k μ (.slice none n c) l):l=[]:=by
 obtain ⟨A,j,h1,q,s,g⟩:=h
 cases h1
 rcases eX l.length with a | a
 ·exact ed.1 a
 ·obtain ⟨b,off,cs,T,fr,i,_⟩:=g a
  cases i
theorem mg.isNil {n c:Nat} (h:mg e enc k (.slice none n c) l R):l=[]:=by
 rcases h with ⟨h1,rfl,rfl⟩ | ⟨g,cap,a,h1,_⟩
 ·rfl
 ·cases h1
theorem ST.acp {w W:World} {μ:mO} {L1 L2:LO} (h:ST dd nf w W μ (L1++L2)):wP dd [] L1 w W :=
 wP.QI h.ex (λb o a=>⟨(h.box b o (bY _ a)).1,by
  rcases (h.box b o (bY _ a)).2.2 with h | h
  ·exact h
  ·exact h.elim⟩) (by have:=h.nd; rw [cL] at this; exact (cE.1 this).1)
theorem ST.acz {w W:World} {μ:mO} {L0 L1 L2:LO} (h:ST dd (keys L0) w W μ (L1++L2)):wP dd L0 L1 w W :=
 ⟨⟨h.os,h.tape,h.output,h.drawn,h.size,h.oJ⟩,λb o a=>⟨(h.box b o (bY _ a)).1,(h.box b o (bY _ a)).2.2⟩,by have:=h.nd; rw [cL] at this; exact (cE.1 this).1⟩
end
end Go.Proofs.YtojmckcglalbnaaGreat
namespace Go.Proofs.YtojmckcglalbnaaGreat
open Go.RowKit
variable {dd:Bool}
def nv {κ β:Type} (beq:κ→κ→Bool) (l:List (κ×β)) (k:κ):Option β:=(l.find? λp=>beq k p.1).map (·.2)
def pO {κ β:Type} (beq:κ→κ→Bool) (l:List (κ×β)) (k:κ) (v:β):List (κ×β) :=
 match l.findIdx? (λp=>beq k p.1) with
 | some i=>l.set i (k,v)
 | none=>l++[(k,v)]
structure As {κ β:Type} (kenc:κ→Value) (vf:β→Value) (l:List (κ×β)) (es:Array MapEntry) (clock:Nat):Prop where
 LN:es.toList.map (λe=>(e.key,e.val))=l.map (λp=>(kenc p.1,vf p.2))
 born:es.toList.Pairwise (λa b=>a.born < b.born)
 lt:∀e∈es.toList,e.born < clock
def ng {κ β:Type} (kenc:κ→Value) (vf:β→Value) (v:Value) (l:List (κ×β)) (R:LO):Prop :=
 ∃m es clock,v= .map (some m)∧R=[(m,.map es clock)]∧As kenc vf l es clock
def uR {κ β:Type} (kenc:κ→Value) (vf:β→Value) (μ:mO) (v:Value) (l:List (κ×β)):Prop :=
 (v= .map none∧l=[])∨∃m es clock,v= .map (some m)∧μ m=some (.map es clock)∧As kenc vf l es clock
theorem uR.mono {κ β:Type} {kenc:κ→Value} {vf:β→Value} {μ μ':mO} {v:Value} {l:List (κ×β)} (h:uR kenc vf μ v l) (g:lM μ μ'):uR kenc vf μ' v l:=by
 rcases h with h | ⟨m,es,clock,h1,a,d⟩
 ·exact .inl h
 ·exact .inr ⟨m,es,clock,h1,g _ _ a,d⟩
theorem ng.at {κ β:Type} {kenc:κ→Value} {vf:β→Value} {μ:mO} {v:Value} {l:List (κ×β)} {R:LO} (h:ng kenc vf v l R) (d:∀b o,(b,o)∈R→μ b=some o):uR kenc vf μ v l:=by
 obtain ⟨m,es,clock,rfl,rfl,a⟩:=h
 exact .inr ⟨m,es,clock,Z,d _ _ (aV.2 Z),a⟩
structure sD {κ:Type} (P:Program) (kt:TypeId) (kenc:κ→Value) (beq:κ→κ→Bool):Prop where
 check:∀b k W,(Instr.checkKey b 10000 kt (kenc k)).run P W= .ok () W
 find:∀(k:κ) (l:List κ) (es:List MapEntry),es.map (·.key)=l.map kenc→∀W,(Instr.findKey kt (kenc k) es).run P W= .ok ((l.findIdx? λx=>beq k x).bind λi=>(es[i]?).map λe=>(i,e.val)) W
 eq:∀k x,beq k x=true→kenc x=kenc k
 bits:∀k,Instr.sameBits 10000 (kenc k) (kenc k)=true
section
variable {P:Program} {W:World} {κ:Type} {kt:TypeId} {kenc:κ→Value} {beq:κ→κ→Bool}
theorem IG (a:∀x y W,(Op.equal kt (kenc x) (kenc y)).run P W= .ok (beq x y) W) (k:κ):∀(l:List κ) (es:List MapEntry) (i:Nat),es.map (·.key)=l.map kenc→
  (Instr.findAsking kt (kenc k) es i).run P W= .ok ((l.findIdx? λx=>beq k x).bind λj=>(es[j]?).map λe=>(i+j,e.val)) W
 | [],[],i,h=>by simp [Instr.findAsking]
 | [],_::_,i,h=>by simp at h
 | _::_,[],i,h=>by simp at h
 | x::l,e::es,i,h=>by
  simp only [bQ,aU] at h
  obtain ⟨h1,d⟩:=h
  simp only [Instr.findAsking,cD,h1,a,bN,fw]
  cases g:beq k x with
  | true=>simp
  | false=>
   simp only [aB,aK]
   rw [IG a k l es (i+1) d]
   cases l.findIdx? (λx=>beq k x) with
   | none=>rfl
   | some j=>simp [fM,kF 1 j]
theorem SL {kind:TypeDesc} (hk:∀a b,Instr.sameNow kind (.agg a) b=none) (a:Array Value):∀(es:List MapEntry) (i:Nat),Instr.findNow kind (.agg a) es i=if es=[] then some none else none
 | [],i=>by simp [Instr.findNow]
 | e::es,i=>by simp [Instr.findNow,hk]
theorem sD.struct {enc:κ→List Value} {fs:Array Field} (t:P.underlying kt=some (.struct fs)) (s:∀d x y W,(Op.equalIn (d+10) kt (.agg (enc x).toArray) (.agg (enc y).toArray)).run P W= .ok (beq x y) W) (q:∀b k W,(Instr.checkKey b 10000 kt (.agg (enc k).toArray)).run P W= .ok () W) (he:∀k x,beq k x=true→x=k) (j:∀k,Instr.sameBits 10000 (.agg (enc k).toArray) (.agg (enc k).toArray)=true):sD P kt (λx=>.agg (enc x).toArray) beq where
 check:=q
 find:=λk l es h W=>by
  have g:∀x y W,(Op.equal kt (.agg (enc x).toArray) (.agg (enc y).toArray)).run P W= .ok (beq x y) W:=λx y W=>s 9990 x y W
  simp only [Instr.findKey,cD,aS t,bN]
  rw [SL (λa b=>by cases b <;> rfl)]
  by_cases i:es=[]
  ·subst i
   have:l=[]:=by simpa using h.symm
   subst this
   simp
  ·rw [aH i]
   dsimp only
   rw [show Instr.findAsking kt (.agg (enc k).toArray) es=Instr.findAsking kt (.agg (enc k).toArray) es 0 from rfl,IG g k l es 0 h]
   simp
 eq:=λk x h=>by rw [he k x h]
 bits:=j
theorem oq {a b:ByteArray}:ob a b=true↔a=b:=by
 unfold ob
 rw [fQ,fQ]
 constructor
 ·intro h
  have h1:a.data.toList=b.data.toList:=by simpa using h
  exact kk (Array.toList_inj.1 h1)
 ·rintro rfl
  simp
theorem Hx (a b:ByteArray):(a==b)=ob a b:=by
 rw [eC,oq]
 constructor
 ·intro h
  have h1:(a.data==b.data)=true:=h
  exact kk (by simpa using h1)
 ·rintro rfl
  show (a.data==a.data)=true
  simp
theorem IJ (k:ByteArray):∀(l:List ByteArray) (es:List MapEntry) (i:Nat),es.map (·.key)=l.map Value.string→
  Instr.findNow .string (.string k) es i=some ((l.findIdx? λx=>ob k x).bind λj=>(es[j]?).map λe=>(i+j,e.val))
 | [],[],i,h=>by simp [Instr.findNow]
 | [],_::_,i,h=>by simp at h
 | _::_,[],i,h=>by simp at h
 | x::l,e::es,i,h=>by
  simp only [bQ,aU] at h
  obtain ⟨h1,a⟩:=h
  simp only [Instr.findNow,h1,Instr.sameNow,Hx,fw]
  cases d:ob k x with
  | true=>simp
  | false=>
   simp only [aB,aK]
   rw [IJ k l es (i+1) a]
   cases l.findIdx? (λx=>ob k x) with
   | none=>rfl
   | some j=>simp [fM,kF 1 j]
theorem rU (a:P.underlying kt=some .string) (n:Nat) (b:Bool) (k:ByteArray) (W:World):(Instr.checkKey b (n+1) kt (.string k)).run P W= .ok () W:=by
 simp [Instr.checkKey,aS a]
theorem sD.string (a:P.underlying kt=some .string):sD P kt Value.string ob where
 check:=λb k W=>rU a 9999 b k W
 find:=λk l es h W=>by
  simp only [Instr.findKey,cD,aS a,bN]
  have:=IJ k l es 0 h
  rw [this]
  simp
 eq:=λk x h=>by rw [oq.1 h]
 bits:=λk=>by simp only [Instr.sameBits]; rw [Hx]; exact oq.2 Z
variable {β:Type} {vf:β→Value} {E:nn} {d:Option Nat} {ty:TypeId} {pos:String} {af:Array Edge} {g:tX} {F:Nat→Prop} {w:World} {μ:mO} {L:LO}
theorem As.keys {l:List (κ×β)} {es:Array MapEntry} {clock:Nat} (h:As kenc vf l es clock):es.toList.map (·.key)=(l.map (·.1)).map kenc:=by
 have:=bA (List.map Prod.fst) h.LN
 simpa [jP] using this
theorem As.length {l:List (κ×β)} {es:Array MapEntry} {clock:Nat} (h:As kenc vf l es clock):es.size=l.length:=by
 have:=bA List.length h.LN
 simpa using this
theorem As.get {l:List (κ×β)} {es:Array MapEntry} {clock:Nat} (h:As kenc vf l es clock) (k:κ) :
  (((l.map (·.1)).findIdx? λx=>beq k x).bind λi=>(es.toList[i]?).map λe=>(i,e.val))=(l.findIdx? λp=>beq k p.1).bind λi=>(l[i]?).map λp=>(i,vf p.2):=by
 rw [gZ]
 show ((l.findIdx? λp=>beq k p.1).bind _)=_
 congr 1
 funext i
 have:=bA (λq=>q[i]?) h.LN
 simp only [fH] at this
 cases h1:es.toList[i]? with
 | none=>rw [h1] at this; cases a:l[i]? with
  | none=>rfl
  | some p=>rw [a] at this; cases this
 | some e=>rw [h1] at this; cases a:l[i]? with
  | none=>rw [a] at this; cases this
  | some p=>rw [a] at this; simp at this; simp [this.2]
theorem Ad (l:List (κ×β)) (k:κ):nv beq l k=(l.findIdx? λp=>beq k p.1).bind λi=>(l[i]?).map (·.2):=by
 induction l with
 | nil=>rfl
 | cons p l ih=>
  simp only [nv,gj,fw] at ih ⊢
  cases beq k p.1 with
  | true=>rfl
  | false=>
   simp only [aB,aK]
   rw [ih]
   cases l.findIdx? (λp=>beq k p.1) <;> simp
theorem Q0 {t e:TypeId} {m x:Operand} {mv z:Value} {l:List (κ×β)} {k:κ} (K:sD P kt kenc beq) (u:P.underlying t=some (.map kt e)) (h:∀w,(zeroValue e).run P w= .ok z w) (hm:lF E m=mv) (M:lF E x=kenc k) (I:uR kenc vf (hp W) mv l) :
  nE P E ⟨d,.lookup t m x false,ty,pos,af,g⟩ W (((nv beq l k).map vf).getD z) W:=by
 show (do pure (.value (←Instr.lookup t (lF E m) (lF E x) false)):Sem Next).run P W=_
 rw [hm,M]
 rcases I with ⟨rfl,rfl⟩ | ⟨v,es,clock,rfl,J,j⟩
 ·have:=K.find k [] [] Z W
  simp [Instr.lookup,aS u,K.check,this,h W,nv]
 ·have a:W.heap[v]? =some (.map es clock):=J
  have y:(getObj v:Sem Obj).run P W= .ok (.map es clock) W:=by simp [getObj,Sem.run,a]
  have q:=K.find k _ _ j.keys W
  rw [j.get k] at q
  simp only [Instr.lookup,cD,aS u,bN,y,dx,K.check,q,Ad]
  cases O:l.findIdx? (λp=>beq k p.1) with
  | none=>simp [h W]
  | some i=>
   cases s:l[i]? with
   | none=>simp [s,h W]
   | some p=>simp [s]
theorem vC {l:List (κ×β)} {k:κ} {i:Nat} (h:l.findIdx? (λp=>beq k p.1)=some i):∃p,l[i]? =some p∧beq k p.1=true:=by
 rw [eL] at h
 obtain ⟨h1,a,_⟩:=h
 exact ⟨l[i],dt h1,a⟩
theorem As.put {l:List (κ×β)} {es:Array MapEntry} {clock:Nat} (h:As kenc vf l es clock) (k:κ) (v:β) :
  match l.findIdx? (λp=>beq k p.1) with
  | some i=>As kenc vf (l.set i (k,v)) (es.modify i λe=>{ e with key:=kenc k,val:=vf v }) clock
  | none=>As kenc vf (l++[(k,v)]) (es.push { key:=kenc k,val:=vf v,born:=clock }) (clock+1):=by
 cases x:l.findIdx? (λp=>beq k p.1) with
 | none=>
  refine ⟨?_,?_,?_⟩
  ·simp [h.LN]
  ·simp only [Array.toList_push,List.pairwise_append]
   exact ⟨h.born,rv,λa ha b u=>by simp at u; subst u; exact h.lt a ha⟩
  ·intro e he
   simp at he
   rcases he with he | rfl
   ·exact Nat.lt_succ_of_lt (h.lt e (by simpa using he))
   ·exact bH _
 | some i=>
  obtain ⟨p,hp,_⟩:=vC x
  have I:i < l.length:=(bP.1 hp).1
  have d:(es.modify i λe=>{ e with key:=kenc k,val:=vf v }).toList.map (·.born)=es.toList.map (·.born):=by
   apply eZ
   intro j
   simp only [fH,dU,dJ]
   split
   ·cases es[j]? <;> simp
   ·rfl
  refine ⟨?_,?_,?_⟩
  ·apply eZ
   intro j
   have s:=bA (λq=>q[j]?) h.LN
   simp only [fH,dU] at s
   simp only [fH,dU,dJ,fG]
   by_cases g:i=j
   ·subst g
    simp only [aR]
    rw [aO I]
    cases y:es[i]? with
    | none=>rw [y,hp] at s; cases s
    | some e=>rfl
   ·rw [aH g,aH g]; exact s
  ·have:=h.born
   rw [←fI (f:=λe:MapEntry=>e.born) (R:=(· < ·))] at this ⊢
   rw [d]; exact this
  ·intro e he
   have:e.born∈es.toList.map (·.born):=by rw [←d]; exact bT.2 ⟨e,he,Z⟩
   obtain ⟨e',t,z⟩:=bT.1 this
   rw [←z]; exact h.lt e' t
theorem Ek {W:World} {r:Nat} {es:Array MapEntry} {c:Nat} (d:W.heap[r]? =some (.map es c)) (a:Obj):(setObj r a).run P W= .ok () (ChangeMaps.setBlock W r a):=by
 simp [setObj,Sem.run,d,ChangeMaps.setBlock]
theorem ST.setBlock {A B:LO} {b:Nat} {o:Obj} (h:ST dd F w W μ (A++(b,o)::B)) (d:Obj):ST dd F w (ChangeMaps.setBlock W b d) μ (A++(b,d)::B):=by
 have g:=(h.box b o rv).1
 have a:=sb g
 refine h.put ⟨Z,Z,Z,aY _,by simp [ChangeMaps.setBlock]⟩ (λk hk=>?_) ?_
 ·simp only [ChangeMaps.setBlock]
  rw [Array.getElem?_setIfInBounds_ne λe=>hk e.symm]
 ·simp only [ChangeMaps.setBlock]
  rw [Array.getElem?_setIfInBounds_self_of_lt a]
theorem Fq {U:Value→World→Prop} (X:LO) {Y R:LO} {t e:TypeId} {m x y:Operand} {mv:Value} {l:List (κ×β)} {k:κ} {v:β} (K:sD P kt kenc beq) (ht:P.underlying t=some (.map kt e)) (u:ST dd F w W μ (X++(R++Y))) (h:ng kenc vf mv l R) (hm:lF E m=mv) (hx:lF E x=kenc k) (hy:lF E y=vf v) (hK:∀W' R',ST dd F w W' μ (X++(R'++Y))→ng kenc vf mv (pO beq l k v) R'→U undef W'):py P E ⟨d,.mapUpdate t m x y,ty,pos,af,g⟩ W U:=by
 obtain ⟨j,es,clock,rfl,rfl,M⟩:=h
 have O:W.heap[j]? =some (.map es clock):=(u.box j (.map es clock) rv).1
 have h5:(getObj j:Sem Obj).run P W= .ok (.map es clock) W:=by simp [getObj,Sem.run,O]
 have z:=K.find k _ _ M.keys W
 rw [M.get k] at z
 have a:=M.put (beq:=beq) k v
 have s:∀W',(Instr.mapUpdate t (.map (some j)) (kenc k) (vf v)).run P W= .ok () W'→(execOp (lF E) ⟨d,.mapUpdate t m x y,ty,pos,af,g⟩).run P W= .ok .skip W':=by
  intro W' hr
  show (do Instr.mapUpdate t (lF E m) (lF E x) (lF E y); pure .skip:Sem Next).run P W=_
  rw [hm,hx,hy]
  simp [hr]
 cases I:l.findIdx? (λp=>beq k p.1) with
 | none=>
  rw [I] at z a
  refine .inr (.inl ⟨ChangeMaps.setBlock W j (.map (es.push { key:=kenc k,val:=vf v,born:=clock }) (clock+1)),s _ ?_,hK _ [(j,_)] (u.setBlock _) ⟨j,_,_,Z,Z,?_⟩⟩)
  ·simp [Instr.mapUpdate,aS ht,h5,K.check,z,Ek O]
  ·rw [pO,I]; exact a
 | some i=>
  obtain ⟨p,hp,Q⟩:=vC I
  rw [I] at z a
  simp only [aA,hp,ep] at z
  have J:((es[i]?).map (·.key)).getD (kenc k)=kenc k:=by
   have:=bA (λq=>q[i]?) M.keys
   simp only [fH,hp,ep,dU] at this
   rw [this]
   simp [K.eq k p.1 Q]
  refine .inr (.inl ⟨ChangeMaps.setBlock W j (.map (es.modify i λe=>{ e with key:=kenc k,val:=vf v }) clock),s _ ?_,hK _ [(j,_)] (u.setBlock _) ⟨j,_,_,Z,Z,?_⟩⟩)
  ·simp only [Instr.mapUpdate,cD,aS ht,h5,K.check,z,bN,J,Instr.keyThatStays,K.bits,aR,dx]
   exact Ek O _
  ·rw [pO,I]; exact a
theorem I7 {t e:TypeId} {m:Operand} {mv:Value} {l:List (κ×β)} (h:P.underlying t=some (.map kt e)) (hm:lF E m=mv) (j:uR kenc vf (hp W) mv l) :
  nE P E ⟨d,.call ⟨.builtin .len,#[m],#[t]⟩,ty,pos,af,g⟩ W (.int .i64 l.length) W:=by
 show (do let d ←resolve (lF E) ⟨.builtin .len,#[m],#[t]⟩ ty; invoke d.target d.args:Sem Next).run P W=_
 rcases j with ⟨rfl,rfl⟩ | ⟨q,es,clock,rfl,k,i⟩
 ·simp [resolve,invoke,builtin,Builtin.len_,aS h,hm,goInt]
 ·have a:W.heap[q]? =some (.map es clock):=k
  simp [resolve,invoke,builtin,Builtin.len_,aS h,hm,goInt,getObj,Sem.run,a,i.length]
theorem FN {h:Value→World→Prop} {t:TypeId} (kenc:κ→Value) (vf:β→Value) (a:ST dd F w W μ L) (i:∀W' v R,ST dd F w W' μ (R++L)→ng kenc vf v [] R→h v W'):py P E ⟨d,.makeMap t none,ty,pos,af,g⟩ W h :=
 .inl ⟨.map (some W.heap.size),W.alloc (.map #[] 0),by
   show (do pure (.value (←Instr.makeMap t none)):Sem Next).run P W=_
   simp [Instr.makeMap,newObj,Sem.run],i _ _ [(W.heap.size,.map #[] 0)] (a.alloc _) ⟨_,_,_,Z,Z,⟨Z,rv,rv⟩⟩⟩
end
end Go.Proofs.YtojmckcglalbnaaGreat
namespace Go.Proofs.YtojmckcglalbnaaGreat
open Go.RowKit
variable {dd:Bool}
def PV {α β:Type} (P:Program) (fv:Value) (μ:mO) (a:α→List Value) (d:β→Value) (pm:α→Option β):Prop :=
 ∃f caps,fv= .func (.func f) #[] caps∧(∀args w,(callFunc f args).run P w= .ok (.enter f args) w)∧∀W x r,lM μ (hp W)→pm x=some r→mo true P f (a x++caps.toList) W (d r)
def Dd {α β:Type} (P:Program) (fv:Value) (μ:mO) (a:α→List Value) (d:β→Value) (pm:α→Option β):Prop :=
 ∃f first caps,fv= .func (.func f) first caps∧(∀args w,(callFunc f args).run P w= .ok (.enter f args) w)∧∀W x r,lM μ (hp W)→pm x=some r→mo false P f (first.toList++(a x++caps.toList)) W (d r)
theorem Dd.form {α β:Type} {P:Program} {fv:Value} {μ:mO} {d:α→List Value} {g:β→Value} {pm:α→Option β} (h:Dd P fv μ d g pm):∃f a b,fv= .func f a b:=let ⟨f,a,b,h,_⟩:=h; ⟨_,a,b,h⟩
section
variable {P:Program} {W:World} {E:nn} {d:Option Nat} {ty:TypeId} {pos:String} {af:Array Edge} {g:tX} {F:Nat→Prop} {w:World} {μ μ0:mO} {L:LO}
theorem Dd.mono {α β:Type} {fv:Value} {a:α→List Value} {d:β→Value} {pm:α→Option β} (h:Dd P fv μ a d pm) (j:lM μ μ0):Dd P fv μ0 a d pm:=by
 obtain ⟨f,first,caps,h1,g,i⟩:=h
 exact ⟨f,first,caps,h1,g,λW x r h=>i W x r (j.trans h)⟩
theorem Sw {α β:Type} {K:Value→World→Prop} {fv:Value} {i:α→List Value} {q:β→Value} {pm:α→Option β} {j:Operand} {ax:Array Operand} {ats:Array TypeId} (x:α) {r:β} (a:ST false F w W μ L) (y:Dd P fv μ0 i q pm) (I:lM μ0 μ) (z:lF E j=fv) (ha:ax.map (lF E)++(#[]:Array Value)=(i x).toArray) (hm:pm x=some r) (h:∀W',ST false F w W' μ L→K (q r) W'):py P E ⟨d,.call ⟨.value j,ax,ats⟩,ty,pos,af,g⟩ W K:=by
 obtain ⟨f,first,caps,rfl,s,t⟩:=y
 have k:ax.map (lF E)=(i x).toArray:=by simpa using ha
 refine .inr (.inr ⟨f,(first.toList++(i x++caps.toList)).toArray,?_,dl (t W x r (I.trans a.ns) hm) λ_ _ ⟨u,v⟩=>⟨_,u,h _ (a.NN v)⟩⟩)
 show (do let d ←resolve (lF E) ⟨.value j,ax,ats⟩ ty; invoke d.target d.args:Sem Next).run P W=_
 simp only [resolve,z,Deferred.ofValue,cD,dx,bN,invoke,k,s]
 congr 2
 simp
end
end Go.Proofs.YtojmckcglalbnaaGreat
namespace Go.Proofs.YtojmckcglalbnaaGreat
open Go.RowKit
variable {dd:Bool}
def Fa (A:LO):mO:=λb=>(A.find? λp=>p.1==b).map (·.2)
theorem oz {A:LO} {W:World} (h:∀b o,(b,o)∈A→W.heap[b]? =some o):∀b o,Fa A b=some o→W.heap[b]? =some o:=λb o a=>by
 unfold Fa at a
 cases d:A.find? (λp=>p.1==b) with
 | none=>rw [d] at a; cases a
 | some p=>
  rw [d] at a
  cases a
  have h1:=fD d
  have g:=iV d
  simp at g
  subst g
  exact h _ _ h1
theorem At.of {M:mO} {b:Nat} {cs:Array Value} {T:TypeId} {fr:Nat×Nat} (h:M b=some (.cells cs T fr)) (ys:List Value) (d:cs.toList=ys):At M (.pointer (some ⟨b,0,none⟩)) ys :=
 ⟨b,0,cs,T,fr,Z,h,λj y a=>by subst d; simpa using a⟩
section
variable {F:Nat→Prop} {w W W':World} {μ μ':mO} {L L0 L1 L2:LO}
theorem ST.Pd (h:ST dd F w W μ L) (a:L.Perm (L0++L2)):∀b o,(b,o)∈L2→wZ W L0 b=some o:=λb o d=>by
 have h1:=(h.perm a).at_ (dr _ d)
 unfold wZ
 rw [aH (Lw (h.perm a).nd d)]
 exact h1
theorem ST.held (h:ST dd F w W μ L) (a:L.Perm (L0++L2)):JB L0 W:=λb o d=>((h.perm a).box b o (bY _ d)).1
theorem ST.Ym (h:ST dd F w W μ L) (a:L.Perm (L0++L2)):(L0.map (·.1)).Nodup:=by
 have:=(h.perm a).nd
 rw [cL] at this
 exact (cE.1 this).1
theorem ST.YL (h:ST dd F w W μ L) (a:L.Perm (L0++L2)):lM μ (wZ W L0):=(h.perm a).lG (λ_ hp=>bY _ hp)
end
section
variable {P:Program} {E:nn} {W:World} {d:Option Nat} {ty:TypeId} {pos:String} {af:Array Edge} {g:tX}
 {F:Nat→Prop} {w:World} {μ:mO} {L:LO}
theorem Z2 {K:Value→World→Prop} {K':Value→LO→World→Prop} {f:FuncId} {fv:Operand} {ax:Array Operand} {ats:Array TypeId} {caps:Array Value} {args:List Value} (L0 L2:LO) (a:ST dd F w W μ L) (i:L.Perm (L0++L2)) (t:lF E fv= .func (.func f) #[] caps) (he:∀args w,(callFunc f args).run P w= .ok (.enter f args) w) (ha:ax.map (lF E)++(#[]:Array Value)=args.toArray) (s:JB L0 W→(L0.map (·.1)).Nodup→lM μ (wZ W L0)→(∀b o,(b,o)∈L2→wZ W L0 b=some o)→nt dd P f (args++caps.toList) W L0 K') (h:∀W' v μ' L1,ST dd F w W' μ' (L1++L2)→lM μ μ'→Lo F w μ μ'→(∀b,W.heap.size≤b→∀o,wZ W' L1 b=some o→μ' b=some o)→K' v L1 W'→K v W'):py P E ⟨d,.call ⟨.value fv,ax,ats⟩,ty,pos,af,g⟩ W K:=by
 have j:ax.map (lF E)=args.toArray:=by simpa using ha
 refine Lv (args:=(args++caps.toList).toArray) t he (by rw [j]; simp) (dl (s (a.held i) (a.Ym i) (a.YL i) (a.Pd i)) λ_ W' ⟨v,L1,h1,k,q⟩=>⟨v,h1,h W' v _ L1 ((a.perm i).back k) ((a.perm i).Py W' L1) ((a.perm i).R7 W' L1) ?_ q⟩)
 intro b x o u
 unfold HM
 rw [aH rs]
 exact u
theorem Sl.lift {α:Type} {enc:α→List Value} {k:Nat} {M μ':mO} {B:Nat} {v:Value} {l:List α} (h:Sl (Pl enc) k M v l) (t:Fr B v) (s:∀b,B≤b→∀o,M b=some o→μ' b=some o):Sl (Pl enc) k μ' v l:=by
 obtain ⟨A,c,h1,d,g,i⟩:=h
 refine ⟨A,c,h1,d,g,λu=>?_⟩
 obtain ⟨b,off,cs,T,fr,a,j,q⟩:=i u
 exact ⟨b,off,cs,T,fr,a,s b (t b (by rw [h1,a]; rfl)) _ j,q⟩
theorem GU {t:TypeId} (dd:Nat) {s u:Array TypeId} {b:Bool} (d:P.underlying t=some (.func s u b)) (f:Fn) (a c:Array Value) (W:World):(Op.equalIn (dd+1) t (.func f a c) .nilFunc).run P W= .ok false W:=by
 simp [Op.equalIn,aS d]
theorem SJ {tx tv:TypeId} {x y:Operand} {f:Fn} {a b:Array Value} {s u:Array TypeId} {bb:Bool} (i:P.underlying tx=some (.func s u bb)) (j:lF E x= .func f a b) (k:lF E y= .nilFunc) :
  nE P E ⟨d,.binOp .neq tx x y tv,ty,pos,af,g⟩ W (.bool true) W:=by
 show (do let r ←(do eqGuard .neq tx x y (lF E x) (lF E y); binOp .neq tx (lF E x) (lF E y)); pure (.value r):Sem Next).run P W=_
 rw [j,k]
 have h:=GU 9999 i f a b W
 simp [eqGuard,binOp,Op.equal,show Op.maxDepth=9999+1 from rfl,h]
end
def zW {κ β:Type} (beq:κ→κ→Bool) (l:List (κ×β)) (k:κ) (z:β):β:=(nv beq l k).getD z
section
variable {P:Program} {W:World} {κ β:Type} {kt:TypeId} {kenc:κ→Value} {beq:κ→κ→Bool} {vf:β→Value} {E:nn} {d:Option Nat} {ty:TypeId} {pos:String} {af:Array Edge} {g:tX} {F:Nat→Prop} {w:World} {μ:mO} {L R:LO} {v:Value} {left:List (κ×β)}
theorem zG {t e:TypeId} {m x:Operand} {mv:Value} {l:List (κ×β)} {k:κ} {z:β} (K:sD P kt kenc beq) (i:P.underlying t=some (.map kt e)) (q:∀w,(zeroValue e).run P w= .ok (vf z) w) (hm:lF E m=mv) (j:lF E x=kenc k) (a:uR kenc vf (hp W) mv l) :
  nE P E ⟨d,.lookup t m x false,ty,pos,af,g⟩ W (vf (zW beq l k z)) W:=by
 have:=Q0 (d:=d) (ty:=ty) (pos:=pos) (af:=af) (g:=g) K i q hm j a
 rw [zW]
 cases h:nv beq l k with
 | none=>rw [h] at this; exact this
 | some y=>rw [h] at this; exact this
theorem UD {t e:TypeId} {m x:Operand} {mv:Value} {l:List (κ×β)} {k:κ} {z:β} (K:sD P kt kenc beq) (u:P.underlying t=some (.map kt e)) (h:∀w,(zeroValue e).run P w= .ok (vf z) w) (hm:lF E m=mv) (M:lF E x=kenc k) (I:uR kenc vf (hp W) mv l) :
  nE P E ⟨d,.lookup t m x true,ty,pos,af,g⟩ W (.tuple #[vf (zW beq l k z),.bool (nv beq l k).isSome]) W:=by
 show (do pure (.value (←Instr.lookup t (lF E m) (lF E x) true)):Sem Next).run P W=_
 rw [hm,M]
 rcases I with ⟨rfl,rfl⟩ | ⟨v,es,clock,rfl,J,j⟩
 ·have:=K.find k [] [] Z W
  simp [Instr.lookup,aS u,K.check,this,h W,nv,zW]
 ·have a:W.heap[v]? =some (.map es clock):=J
  have y:(getObj v:Sem Obj).run P W= .ok (.map es clock) W:=by simp [getObj,Sem.run,a]
  have q:=K.find k _ _ j.keys W
  rw [j.get k] at q
  simp only [Instr.lookup,cD,aS u,bN,y,dx,K.check,q,zW,Ad]
  cases O:l.findIdx? (λp=>beq k p.1) with
  | none=>simp [h W]
  | some i=>
   cases s:l[i]? with
   | none=>simp [s,h W]
   | some p=>simp [s]
theorem ng.one {mv:Value} {l:List (κ×β)} (h:ng kenc vf mv l R):mv.oneCell'=true:=by obtain ⟨m,es,clock,rfl,_⟩:=h; rfl
theorem ng.form {mv:Value} {l:List (κ×β)} (h:ng kenc vf mv l R):∃m,mv= .map (some m):=by obtain ⟨m,es,clock,rfl,_⟩:=h; exact ⟨m,Z⟩
theorem ng.nd {mv:Value} {l:List (κ×β)} (h:ng kenc vf mv l R):(R.map (·.1)).Nodup:=by obtain ⟨m,es,clock,rfl,rfl,_⟩:=h; simp
theorem ng.JW {mv:Value} {l:List (κ×β)} (h:ng kenc vf mv l R):uR kenc vf (Fa R) mv l:=by
 obtain ⟨m,es,clock,rfl,rfl,a⟩:=h
 exact .inr ⟨m,es,clock,Z,by simp [Fa],a⟩
end
def rr {α:Type} (l:List α) (i:Nat) (z:α):List α:=l.take i++List.replicate (l.length-i) z
theorem Bs {α:Type} (l:List α) (i:Nat) (z:α) (h:i≤l.length):(rr l i z).length=l.length:=by simp [rr]; omega
theorem Mz {α:Type} (l:List α) (i:Nat) (z:α) (h:i≤l.length):(rr l i z).take i=l.take i:=by
 simp only [rr]
 rw [fT,dy ss]
 simp; omega
end Go.Proofs.YtojmckcglalbnaaGreat
namespace Go.Proofs.YtojmckcglalbnaaGreat
open Go.RowKit
theorem QW {P:Program} {kt:TypeId} {k:IntKind} (a:P.underlying kt=some (.int k)) (n:Nat) (b:Bool) (k':IntKind) (x:Int) (W:World):(Instr.checkKey b (n+1) kt (.int k' x)).run P W= .ok () W:=by
 simp [Instr.checkKey,aS a]
theorem Qa {P:Program} {cs:Array Value} {b:Bool} {n:Nat} {W:World}:∀(l:List Field),
  (∀f∈l,f.name≠ "_"→∃v,(part f.type cs f.offset).run P W= .ok v W∧(Instr.checkKey b n f.type v).run P W= .ok () W)→
  ((forIn l PUnit.unit λf (_:PUnit)=>do
   if f.name≠ "_" then Instr.checkKey b n f.type (←part f.type cs f.offset)
   pure (ForInStep.yield PUnit.unit)):Sem PUnit).run P W= .ok PUnit.unit W
 | [],_=>by simp
 | f::l,h=>by
  have ih:=Qa l (λf g=>h f (eG _ g))
  simp only [List.forIn_cons,cD]
  by_cases a:f.name≠ "_"
  ·obtain ⟨v,h1,d⟩:=h f rv a
   simp only [aO a,cD,h1,bN,d,dx]
   exact ih
  ·simp only [aH a,cD,dx,bN]
   exact ih
theorem zT {P:Program} {kt:TypeId} {fs:Array Field} {l:List Field} {cs:Array Value} {b:Bool} {n:Nat} {W:World} (d:P.underlying kt=some (.struct fs)) (a:fs.toList=l) (h:∀f∈l,f.name≠ "_"→∃v,(part f.type cs f.offset).run P W= .ok v W∧(Instr.checkKey b n f.type v).run P W= .ok () W):(Instr.checkKey b (n+1) kt (.agg cs)).run P W= .ok () W:=by
 obtain ⟨fs⟩:=fs
 subst a
 simp only [Instr.checkKey,cD,aS d,bN,List.forIn_toArray]
 have:=Qa (P:=P) (cs:=cs) (b:=b) (n:=n) (W:=W) fs h
 simp only [cD] at this
 first | rw [this]; rfl | simpa using this
variable {dd:Bool}
def rj (b:Bool):Option Unit:=if b=true then some () else none
theorem MJ {b:Bool} {u:Unit} (h:rj b=some u):b=true:=by
 unfold rj at h; split at h
 ·assumption
 ·cases h
theorem uh {a c:Int} {u:Unit} (h:rj (decide (0≤a)&&decide (a≤c))=some u):0≤a:=by have:=MJ h; simp at this; exact this.1
theorem tY {a c:Int} {u:Unit} (h:rj (decide (0≤a)&&decide (a≤c))=some u):a≤c:=by have:=MJ h; simp at this; exact this.2
def GB (k:Nat) (v:Value) (i:Nat) (u:Value):Prop:=∃A n c A' a,v= .slice A n c∧u= .slice A' (n-i) a∧i≤n∧(i < n→∃b o,A=some ⟨b,o,none⟩∧A'=some ⟨b,o+i*k,none⟩)
section
variable {P:Program} {E:nn} {W:World} {d:Option Nat} {ty:TypeId} {pos:String} {af:Array Edge} {g:tX}
 {F:Nat→Prop} {w:World} {μ:mO} {L:LO} {α:Type} {e':TypeId} {enc:α→List Value} {k:Nat} {v:Value} {l:List α} {R:LO}
theorem Ak {t e:TypeId} {x a:Operand} {Q:IntKind} {i:Int} (y:P.underlying t=some (.slice e)) (he:∀w,(sizeOf e).run P w= .ok k w) (z:lF E x=v) (q:lF E a= .int Q i) (h:mg e' enc k v l R) (J:0≤i) (s:i≤l.length) :
  ∃u,GB k v i.toNat u∧∀W,nE P E ⟨d,.slice t x (some a) none none,ty,pos,af,g⟩ W u W:=by
 rcases h with ⟨rfl,rfl,rfl⟩ | ⟨j,cap,I,rfl,rfl,h1,U,Y,h4⟩
 ·have:i=0:=by simp at s; omega
  subst this
  refine ⟨.slice none 0 0,⟨none,0,0,none,0,Z,Z,aY _,λh=>absurd h rv⟩,λW=>?_⟩
  show (do pure (.value (←Instr.sliceAt t (lF E x) (some (lF E a)) none none)):Sem Next).run P W=_
  rw [z,q]
  simp [Instr.sliceAt,Instr.slice,Instr.sliceBounds,Instr.sliceBound,asIntOf,aS y,he W]
 ·refine ⟨.slice (some (if cap=i.toNat then ⟨j,0,none⟩ else Addr.add ⟨j,0,none⟩ (i.toNat*k))) (l.length-i.toNat) (cap-i.toNat),⟨_,_,_,_,_,Z,Z,rs,λO=>⟨j,0,Z,?_⟩⟩,λW=>?_⟩
  ·rw [aH rs]; simp [dW]
  ·show (do pure (.value (←Instr.sliceAt t (lF E x) (some (lF E a)) none none)):Sem Next).run P W=_
   rw [z,q]
   have M:0≤i∧i≤(l.length:Int):=⟨J,s⟩
   simp [Instr.sliceAt,Instr.slice,Instr.sliceBounds,Instr.sliceBound,asIntOf,aS y,he W,M]
   split <;> rfl
theorem Cl {i j:Nat} {x0:α} (h:(l.drop i)[j]? =some x0):l[i+j]? =some x0:=by rwa [ei] at h
theorem Kq {t e:TypeId} {x:Operand} {u:Value} {i:Nat} (q:P.underlying t=some (.slice e)) (s:lF E x=u) (hu:GB k v i u) (h:mg e' enc k v l R):nE P E ⟨d,.call ⟨.builtin .len,#[x],#[t]⟩,ty,pos,af,g⟩ W (.int .i64 ((l.length-i:Nat):Int)) W:=by
 obtain ⟨A,n,c,A',y,h1,j,I,_⟩:=hu
 subst j
 have:n=l.length:=by
  rcases h with ⟨rfl,rfl,rfl⟩ | ⟨z,cap,a,rfl,rfl,_⟩
  ·cases h1; rfl
  ·cases h1; rfl
 subst this
 exact CS q s
theorem Ap {t e:TypeId} {x q:Operand} {ik:IntKind} {i:Int} {x0:α} {u:Value} {o:Nat} (Y:P.underlying t=some (.slice e)) (he:∀w,(sizeOf e).run P w= .ok k w) (hx:lF E x=u) (Q:lF E q= .int ik i) (h:mg e' enc k v l R) (hu:GB k v o u) (J:0≤i) (U:(l.drop o)[i.toNat]? =some x0) :
  ∃p,Gh R k p (o+i.toNat)∧∀W,nE P E ⟨d,.indexAddr t x q,ty,pos,af,g⟩ W p W:=by
 have a:=Cl U
 have j:o+i.toNat < l.length:=(bP.1 a).1
 rcases h with ⟨rfl,rfl,rfl⟩ | ⟨I,cap,s,rfl,rfl,h1,h2,h3,h4⟩
 ·simp at j
 obtain ⟨A,n,c,A',c',y,rfl,h7,M⟩:=hu
 cases y
 obtain ⟨b,oo,z,rfl⟩:=M rs
 cases z
 refine ⟨.pointer (some ⟨I,(o+i.toNat)*k,none⟩),⟨_,_,Z,Z⟩,λW=>?_⟩
 show (do pure (.value (←Instr.indexAt t (lF E x) (lF E q))):Sem Next).run P W=_
 rw [hx,Q]
 have O:0≤i∧i < ((l.length-o:Nat):Int):=⟨J,rs⟩
 simp [Instr.indexAt,asIntOf,aS Y,he W,O,dW,cZ]
theorem Vk {I:tu α} {t e:TypeId} {x ih:Operand} {ik:IntKind} {j:Int} (ht:P.underlying t=some (.slice e)) (he:∀w,(sizeOf e).run P w= .ok k w) (q:lF E x=v) (hi:lF E ih= .int ik j) (h:Sl I k μ v l) (O:0≤j) (hl:j≤l.length) :
  ∃z,(Sl I k μ z (l.take j.toNat)∧∀B,Fr B v→Fr B z)∧∀W,nE P E ⟨d,.slice t x none (some ih) none,ty,pos,af,g⟩ W z W:=by
 obtain ⟨A,c,rfl,h2,Q,U⟩:=h
 have a1:j.toNat≤l.length:=by omega
 refine ⟨.slice A (l.take j.toNat).length c,⟨⟨A,c,Z,ss,Q,λhp=>?_⟩,λB hF b s=>hF b (by cases A with | none=>simp [Value.ownBlock] at s | some a=>(obtain ⟨J,o',y⟩:=a; cases y <;> simp [Value.ownBlock] at s ⊢ <;> exact s))⟩,λW=>?_⟩
 ·have u:0 < l.length:=by simp at hp; omega
  obtain ⟨b,off,cs,T,fr,rfl,Y,h7⟩:=U u
  refine ⟨b,off,cs,T,fr,Z,Y,λi x q=>?_⟩
  rw [fu] at q
  split at q
  ·exact h7 i x q
  ·cases q
 ·show (do pure (.value (←Instr.sliceAt t (lF E x) none (some (lF E ih)) none)):Sem Next).run P W=_
  rw [q,hi]
  have s:0≤j∧j≤(c:Int):=⟨O,rs⟩
  have M:min j.toNat l.length=j.toNat:=by omega
  simp [Instr.sliceAt,Instr.slice,Instr.sliceBounds,Instr.sliceBound,asIntOf,aS ht,he W,s,M]
  intro _
  cases A with
  | none=>rfl
  | some a=>obtain ⟨J,o',y⟩:=a; cases y <;> simp [Addr.add]
theorem ID (ys:List Value) (m:Nat):(Builtin.zeroCells ys.toArray m).toList=(List.replicate m ys).flatten:=by
 unfold Builtin.zeroCells
 simp only [Array.toList_map,Array.toList_range,dG]
 rcases eX ys.length with a | a
 ·have:ys=[]:=ed.1 a
  subst this
  simp
 apply eZ
 intro q
 by_cases g:q < m*ys.length
 ·have h1:q / ys.length < m:=(iz a).2 g
  have d:q % ys.length < ys.length:=Nat.mod_lt _ a
  have:=Bg (enc:=λ_:Unit=>ys) (λ_=>rfl) (List.replicate m ()) (q / ys.length) () (by simp [h1]) (q % ys.length) ys[q % ys.length] (by simp [d])
  rw [Nat.div_add_mod' q ys.length] at this
  rw [jt] at this
  rw [this]
  simp [g,d]
 ·rw [eW ss,eW ss]
theorem Tf {K:Value→World→Prop} (z:α) (X:LO) {Y:LO} {t e:TypeId} {x:Operand} {u zv:Value} {i:Nat} (q:ST dd F w W μ (X++(R++Y))) (h:mg e' enc k v l R) (hk:∀x,(enc x).length=k) (h1:∀x,∀u∈enc x,u.oneCell'=true) (U:P.underlying t=some (.slice e)) (hz:∀w,(zeroValue e).run P w= .ok zv w) (hu:GB k v i u) (hc:zv.cells=(enc z).toArray) (hx:lF E x=u) (O:∀W' R',ST dd F w W' μ (X++(R'++Y))→mg e' enc k v (rr l i z) R'→K (.tuple #[]) W'):py P E ⟨d,.call ⟨.builtin .clear,#[x],#[t]⟩,ty,pos,af,g⟩ W K:=by
 have j:∀(W':World),(Builtin.clear_ #[t] ty #[u]).run P W= .ok (.tuple #[]) W'→(execOp (lF E) ⟨d,.call ⟨.builtin .clear,#[x],#[t]⟩,ty,pos,af,g⟩).run P W= .ok (.value (.tuple #[])) W':=by
  intro W' hV
  show (do let d ←resolve (lF E) ⟨.builtin .clear,#[x],#[t]⟩ ty; invoke d.target d.args:Sem Next).run P W=_
  simp [resolve,invoke,builtin,hx,hV]
 obtain ⟨A,n,c,A',c',e1,rfl,J,h8⟩:=hu
 rcases h with ⟨rfl,rfl,rfl⟩ | ⟨y,cap,a,rfl,rfl,q1,q2,q3,q4⟩
 ·cases e1
  refine .inl ⟨_,W,j W ?_,O W [] q (by simpa [rr] using mg.nil e' enc k)⟩
  simp only [Builtin.clear_,Nat.zero_sub]
  cases A' <;> simp [aS U]
 ·cases e1
  by_cases hi:i < l.length
  ·obtain ⟨b,o,e2,rfl⟩:=h8 hi
   cases e2
   have a6:∀m,(Builtin.zeroCells zv.cells m).toList=(List.replicate m (enc z)).flatten:=by
    intro m
    rw [hc]; exact ID _ _
   have hb:=(q.box y (.cells a e' (0,0)) rv).1
   have hle:i*k+(l.length-i)*k=l.length*k:=by rw [←cZ]; congr 1; omega
   have hlen:l.length*k≤c*k:=dp _ q1
   have s:((List.replicate (l.length-i) (enc z)).flatten).length=(l.length-i)*k:=by simp [hk]
   have I:∀v∈(List.replicate (l.length-i) (enc z)).flatten,v.oneCell'=true:=by
    intro v M
    obtain ⟨ys,a1,M⟩:=kv.1 M
    rw [(List.mem_replicate.1 a1).2] at M
    exact h1 z v M
   have hs:=jN (P:=P) y (i*k) e' ((List.replicate (l.length-i) (enc z)).flatten) 0 a W hb (by rw [s,q3]; omega) I
   rw [kG,s,hle] at hs
   refine .inl ⟨_,W.setRow y (a.toList.take (i*k)++(List.replicate (l.length-i) (enc z)).flatten++a.toList.drop (l.length*k)).toArray,j _ ?_,O _ [(y,.cells (a.toList.take (i*k)++(List.replicate (l.length-i) (enc z)).flatten++a.toList.drop (l.length*k)).toArray e' (0,0))] (q.store _) (.inr ⟨y,c,_,by rw [Bs _ _ _ J],Z,by rw [Bs _ _ _ J]; exact q1,q2,?_,?_⟩)⟩
   ·have hn:l.length-i=(l.length-i-1)+1:=by omega
    simp only [Builtin.clear_]
    rw [hn]
    simp only [aS U,cD,bN,fA,gV,hz,fJ]
    rw [←hn,a6,hs]
    simp
   ·have e0:a.toList.length=c*k:=by simpa using q3
    rw [dG,aC,aC,cU,fS,s,e0,dS rs]
    omega
   ·rw [Bs _ _ _ J,rr,cL,iY,Kz hk l i J,←q4,gY,dS rs,jt]
    have e0:a.toList.length=c*k:=by simpa using q3
    have e3:(a.toList.take (i*k)++(List.replicate (l.length-i) (enc z)).flatten).length=l.length*k:=by rw [aC,cU,s,e0,dS rs]; omega
    show List.take (l.length*k) (a.toList.take (i*k)++(List.replicate (l.length-i) (enc z)).flatten++a.toList.drop (l.length*k))=_
    rw [fT,dy (by rw [e3]; exact aY _),e3,Nat.sub_self]
    simp
  ·have Q:i=l.length:=by omega
   subst Q
   refine .inl ⟨_,W,j W ?_,O W _ q ?_⟩
   ·simp only [Builtin.clear_,Nat.sub_self]
    cases A' <;> simp [aS U]
   ·simp only [rr,kw,Nat.sub_self,List.replicate_zero,cN]
    exact .inr ⟨y,c,a,Z,Z,q1,q2,q3,q4⟩
end
end Go.Proofs.YtojmckcglalbnaaGreat
namespace Go.Proofs.YtojmckcglalbnaaGreat
open Go.RowKit
variable {dd:Bool}
section
variable {P:Program} {E:nn} {W:World} {d:Option Nat} {ty:TypeId} {pos:String} {af:Array Edge} {g:tX}
 {F:Nat→Prop} {w:World} {μ:mO} {L:LO}
theorem U8 {K:Value→World→Prop} {f:FuncId} {fv:Operand} {ax:Array Operand} {ats:Array TypeId} {args:List Value} {v:Value} (i:lF E fv= .func (.func f) #[] #[]) (ha:ax.map (lF E)++(#[]:Array Value)=args.toArray) (j:(callFunc f args.toArray).run P W= .ok (.value v) W) (h:K v W):py P E ⟨d,.call ⟨.value fv,ax,ats⟩,ty,pos,af,g⟩ W K:=by
 have a:ax.map (lF E)=args.toArray:=by simpa using ha
 refine .inl ⟨v,W,?_,h⟩
 show (do let d ←resolve (lF E) ⟨.value fv,ax,ats⟩ ty; invoke d.target d.args:Sem Next).run P W=_
 simp only [resolve,i,Deferred.ofValue,cD,dx,bN,invoke]
 rw [a]
 simpa using j
def CU (s:ByteArray) (c:Int):Int:=Lib.indexByte s.data.toList c.toNat.toUInt8
def zI (a b:ByteArray):Int:=Lib.compareBytes a.data.toList b.data.toList
def F0 (l:List Int):List UInt8:=l.map λx=>x.toNat.toUInt8
def D4 (a b:List Int):Int:=Lib.compareBytes (F0 a) (F0 b)
theorem Ot {f:FuncId} {fn:Func} (g:P.funcs[f]? =some fn) (a:(fn.name== "runtime.NumGoroutine")=false) (d:fn.body.isNone=true) (h:Extern.findNext fn=none) (he:Extern.find fn=some Extern.BytealgIndexByte.indexByte) (s:ByteArray) (c:Int) (w:World) :
  (callFunc f [Value.string s,.int .u8 c].toArray).run P w= .ok (.value (.int .i64 (CU s c))) w:=by
 rw [iZ g a d h he]
 rw [Lib.run_indexByteString]
 rfl
theorem X0 {f:FuncId} {fn:Func} (h:P.funcs[f]? =some fn) (d:(fn.name== "runtime.NumGoroutine")=false) (g:fn.body.isNone=true) (i:Extern.findNext fn=none) (he:Extern.find fn=some Extern.BytealgCompare.compare) (a b:ByteArray) (w:World) :
  (callFunc f [Value.string a,.string b].toArray).run P w= .ok (.value (.int .i64 (zI a b))) w:=by
 rw [iZ h d g i he]
 rw [Lib.run_compareString]
 rfl
theorem J5 {v:Value} {l:List Int} (h:Sl (Pl (lJ .u8)) 1 (hp W) v l):(Extern.Bytes.bytesOf v).run P W= .ok ⟨(F0 l).toArray⟩ W:=by
 obtain ⟨A,c,rfl,t,u,i⟩:=h
 rcases eX l.length with a | a
 ·have:l=[]:=ed.1 a
  subst this
  cases A <;> simp [Extern.Bytes.bytesOf,Extern.Bytes.loadBytes,F0] <;> rfl
 ·obtain ⟨b,off,cs,T,fr,rfl,k,q⟩:=i a
  have:=Lib.run_loadBytesX (P:=P) W l ⟨b,off,none⟩ .empty (λj x s=>by
   obtain ⟨ys,_,g,d⟩:=q j x s
   cases g
   rw [dW,gU W b (off+j) cs T fr k]
   have:=d 0 (.int .u8 x) Z
   simpa using this)
  simp only [Extern.Bytes.bytesOf]
  rw [this]
  congr 1
  apply kk
  show (#[]:Array UInt8)++_=_
  simp [Lib.bytesOf,F0]
theorem YJ {f:FuncId} {fn:Func} (k:P.funcs[f]? =some fn) (d:(fn.name== "runtime.NumGoroutine")=false) (j:fn.body.isNone=true) (q:Extern.findNext fn=none) (he:Extern.find fn=some Extern.BytealgCompare.compare) {g h:Value} {a b:List Int} (h1:Sl (Pl (lJ .u8)) 1 (hp W) g a) (i:Sl (Pl (lJ .u8)) 1 (hp W) h b) :
  (callFunc f [g,h].toArray).run P W= .ok (.value (.int .i64 (D4 a b))) W:=by
 rw [iZ k d j q he]
 have:(Extern.BytealgCompare.compare [g,h].toArray).run P W= .ok (.int .i64 (D4 a b)) W:=by
  change Sem.run P (do pure (goInt (Extern.BytealgCompare.cmp (←Extern.Bytes.bytesOf g) (←Extern.Bytes.bytesOf h)))) W=_
  simp only [cD,J5 h1,J5 i,dx,Result.andThen]
  rw [Lib.cmp_eq]
  rfl
 rw [this]
 rfl
theorem pG {fn:Fn} {caps:Array Operand} {cs:List Value} {v:Value} (a:caps.map (lF E)++(#[]:Array Value)=cs.toArray) (h:.func fn #[] cs.toArray=v):nE P E ⟨d,.makeFunc fn #[] caps,ty,pos,af,g⟩ W v W:=by
 have:caps.map (lF E)=cs.toArray:=by simpa using a
 exact UH (by rw [this]; simpa using h)
theorem nt.mono {f:FuncId} {args:List Value} {L0:LO} {K K':Value→LO→World→Prop} (h:nt dd P f args w L0 K) (hk:∀v L1 W',K v L1 W'→K' v L1 W'):nt dd P f args w L0 K' :=
 dl h (λ_ _ ⟨v,L1,h1,a,d⟩=>⟨v,L1,h1,a,hk _ _ _ d⟩)
end
section
variable {α:Type}
def xW (cf:α×α→Option Int) (x y:α):Bool:=match cf (x,y) with
 | some c=>decide (c < 0)
 | none=>false
structure G5 (cf:α×α→Option Int) (l:List α):Prop where
 is:∀x∈l,∀y∈l,∃c,cf (x,y)=some c
 irrefl:∀x∈l,xW cf x x=false
 trans:∀x∈l,∀y∈l,∀z∈l,xW cf x y=true→xW cf y z=true→xW cf x z=true
 total:∀x∈l,∀y∈l,xW cf x y=false→xW cf y x=false→x=y
 short:l.length < 4611686018427387904
def xe (cf:α×α→Option Int) (l:List α):List α:=l.mergeSort λx y=>!xW cf y x
open Classical in
noncomputable def Fy (cf:α×α→Option Int) (l:List α):Option (List α) :=
 match l with
 | []=>some []
 | [x]=>(cf (x,x)).bind λc=>if c < 0 then none else some [x]
 | l=>if G5 cf l then some (xe cf l) else none
theorem UA {cf:α×α→Option Int}:G5 cf ([]:List α):=⟨λx h=>(by cases h),λx h=>(by cases h),λx h=>(by cases h),λx h=>(by cases h),rv⟩
theorem U6 {cf:α×α→Option Int} {x:α} {c:Int} (h:cf (x,x)=some c) (i:¬c < 0):G5 cf [x] where
 is a ha b g:=by rw [aV.1 ha,aV.1 g]; exact ⟨c,h⟩
 irrefl a ha:=by rw [aV.1 ha]; simp [xW,h,i]
 trans a ha b g d hd h1 _:=by rw [aV.1 ha,aV.1 g] at h1; simp [xW,h,i] at h1
 total a ha b g _ _:=by rw [aV.1 ha,aV.1 g]
 short:=by simp
theorem VF {cf:α×α→Option Int} {l r:List α} (h:Fy cf l=some r):G5 cf l∧r=xe cf l:=by
 unfold Fy at h
 split at h
 ·cases h; exact ⟨UA,by simp [xe]⟩
 ·rename_i x
  cases d:cf (x,x) with
  | none=>rw [d] at h; cases h
  | some c=>
   rw [d,aA] at h
   by_cases a:c < 0
   ·rw [aO a] at h; cases h
   ·rw [aH a] at h; cases h; exact ⟨U6 d a,by simp [xe]⟩
 ·split at h
  ·rename_i g; cases h; exact ⟨g,Z⟩
  ·cases h
theorem YX {cf:α×α→Option Int} {l:List α} (h:G5 cf l):Fy cf l=some (xe cf l):=by
 unfold Fy
 split
 ·simp [xe]
 ·rename_i x
  obtain ⟨c,d⟩:=h.is x rv x rv
  have a:=h.irrefl x rv
  rw [d,aA]
  simp only [xW,d,fU] at a
  rw [aH a]; simp [xe]
 ·rw [aO h]
def AK (l:List ByteArray):List ByteArray:=l.mergeSort λx y=>!Hp y x
end
end Go.Proofs.YtojmckcglalbnaaGreat
namespace Go.Proofs.YtojmckcglalbnaaGreat
open Go.RowKit
section
variable {P:Program} {E:nn} {W:World} {d:Option Nat} {ty:TypeId} {pos:String} {af:Array Edge} {g:tX}
theorem Om {x y:Operand} {ats:Array TypeId} {k:IntKind} {a b:Int} (h:lF E x= .int k a) (i:lF E y= .int k b) :
  nE P E ⟨d,.call ⟨.builtin .min,#[x,y],ats⟩,ty,pos,af,g⟩ W (.int k (if b < a then b else a)) W:=by
 show (do let d ←resolve (lF E) ⟨.builtin .min,#[x,y],ats⟩ ty; invoke d.target d.args:Sem Next).run P W=_
 simp [resolve,invoke,h,i,builtin,Builtin.min_,Builtin.min2]
end
variable {dd:Bool}
def Cx {κ γ:Type} (Q:Value→γ→LO→Prop):List (κ×Value)→List (κ×γ)→LO→Prop
 | [],[],R=>R=[]
 | p::a,q::l,R=>p.1=q.1∧∃R1 R2,R=R1++R2∧Q p.2 q.2 R1∧Cx Q a l R2
 | _,_,_=>False
def oS {κ γ:Type} (kenc:κ→Value) (Q:Value→γ→LO→Prop) (v:Value) (g:List (κ×Value)) (l:List (κ×γ)) (R:LO):Prop :=
 ∃a d,R=a++d∧ng kenc (λx=>x) v g a∧Cx Q g l d
section
variable {κ γ:Type} {Q:Value→γ→LO→Prop} {beq:κ→κ→Bool} {kenc:κ→Value}
theorem Cx.keys:∀{a:List (κ×Value)} {l:List (κ×γ)} {R:LO},Cx Q a l R→a.map (·.1)=l.map (·.1)
 | [],[],_,_=>rfl
 | [],_::_,_,h=>h.elim
 | _::_,[],_,h=>h.elim
 | p::a,q::l,R,h=>by
  obtain ⟨h1,R1,R2,_,_,d⟩:=h
  simp [h1,Cx.keys d]
theorem Cx.find {a:List (κ×Value)} {l:List (κ×γ)} {R:LO} (h:Cx Q a l R) (k:κ):a.findIdx? (λp=>beq k p.1)=l.findIdx? (λp=>beq k p.1):=by
 have h1:(a.map (·.1)).findIdx? (λx=>beq k x)=(l.map (·.1)).findIdx? (λx=>beq k x):=by rw [h.keys]
 rw [gZ,gZ] at h1
 exact h1
theorem Cx.get:∀{d:List (κ×Value)} {l:List (κ×γ)} {R:LO},Cx Q d l R→∀(i:Nat) (k:κ) (x:γ),l[i]? =some (k,x)→
  ∃v A R1 B,d[i]? =some (k,v)∧R=A++(R1++B)∧Q v x R1∧∀k2 v2 x2 R2,Q v2 x2 R2→Cx Q (d.set i (k2,v2)) (l.set i (k2,x2)) (A++(R2++B))
 | [],[],_,_,i,k,x,a=>by simp at a
 | [],_::_,_,h,_,_,_,_=>h.elim
 | _::_,[],_,h,_,_,_,_=>h.elim
 | p::d,q::l,R,h,0,k,x,a=>by
  obtain ⟨h1,R1,R2,rfl,g,j⟩:=h
  simp at a
  subst a
  refine ⟨p.2,[],R1,R2,by simp only [gV]; exact bA some (Prod.ext h1 Z),Z,g,λk2 v2 x2 R2' s=>⟨Z,R2',R2,Z,s,j⟩⟩
 | p::d,q::l,R,h,i+1,k,x,a=>by
  obtain ⟨h1,R1,R2,rfl,g,j⟩:=h
  simp at a
  obtain ⟨v,A,R1',B,g1,rfl,g3,g4⟩:=Cx.get j i k x a
  exact ⟨v,R1++A,R1',B,by simpa using g1,rv,g3,λk2 v2 x2 R2' s=>⟨h1,R1,A++(R2'++B),rv,g,g4 k2 v2 x2 R2' s⟩⟩
theorem Cx.push:∀{d:List (κ×Value)} {l:List (κ×γ)} {R:LO},Cx Q d l R→∀(k:κ) {v:Value} {x:γ} {R1:LO},Q v x R1→Cx Q (d++[(k,v)]) (l++[(k,x)]) (R++R1)
 | [],[],_,h,k,v,x,R1,a=>by
  have j:_=[]:=h
  subst j
  exact ⟨Z,R1,[],rv,a,Z⟩
 | [],_::_,_,h,_,_,_,_,_=>h.elim
 | _::_,[],_,h,_,_,_,_,_=>h.elim
 | p::d,q::l,R,h,k,v,x,R1,a=>by
  obtain ⟨h1,g,i,rfl,s,t⟩:=h
  exact ⟨h1,g,i++R1,rv,s,Cx.push t k a⟩
theorem oS.found {mv:Value} {g:List (κ×Value)} {l:List (κ×γ)} {R:LO} (hk:∀{x y:κ},beq x y=true→x=y) (h:oS kenc Q mv g l R) {k:κ} {x:γ} (d:nv beq l k=some x) :
  ∃v A R1 B,nv beq g k=some v∧R=A++(R1++B)∧Q v x R1∧(∀x2 R2,Q v x2 R2→oS kenc Q mv g (pO beq l k x2) (A++(R2++B))):=by
 obtain ⟨z,P,rfl,J,I⟩:=h
 rw [Ad] at d
 cases q:l.findIdx? (λp=>beq k p.1) with
 | none=>rw [q] at d; cases d
 | some i=>
  rw [q] at d
  obtain ⟨p,hp,M⟩:=vC q
  simp only [aA,hp,ep,ia] at d
  subst d
  have u:=hk M
  obtain ⟨v,A,R1,B,g1,rfl,g3,g4⟩:=I.get i p.1 p.2 hp
  have s:g.findIdx? (λp=>beq k p.1)=some i:=by rw [I.find k,q]
  refine ⟨v,z++A,R1,B,by rw [Ad,s]; simp [g1],rv,g3,λx2 R2 O=>⟨z,A++(R2++B),rv,J,?_⟩⟩
  have a:=g4 k v x2 R2 O
  have e:g.set i (k,v)=g:=by
   apply eZ
   intro j
   rw [fG]
   split
   ·rename_i t
    subst t
    rw [g1,u]
    simp [(bP.1 g1).1]
   ·rfl
  rw [e] at a
  rw [pO,q]
  exact a
theorem oS.RC {mv:Value} {g:List (κ×Value)} {l:List (κ×γ)} {R:LO} (h:oS kenc Q mv g l R) {k:κ} (a:nv beq l k=none):nv beq g k=none:=by
 obtain ⟨q,s,rfl,t,j⟩:=h
 rw [Ad] at a ⊢
 rw [j.find k]
 cases d:l.findIdx? (λp=>beq k p.1) with
 | none=>rfl
 | some i=>
  rw [d] at a
  obtain ⟨p,hp,u⟩:=vC d
  simp [hp] at a
def uN (beq:κ→κ→Bool) (a:List (κ×Value)) (k:κ) (z:Value):Value:=(nv beq a k).getD z
variable {P:Program} {W:World} {kt:TypeId} {E:nn} {d:Option Nat} {ty:TypeId} {pos:String} {af:Array Edge} {g:tX} {F:Nat→Prop} {w:World} {μ:mO} {L:LO}
theorem ur {t e:TypeId} {m x:Operand} {mv z:Value} {a:List (κ×Value)} {l:List (κ×γ)} {R:LO} {k:κ} (K:sD P kt kenc beq) (u:P.underlying t=some (.map kt e)) (y:∀w,(zeroValue e).run P w= .ok z w) (hm:lF E m=mv) (v:lF E x=kenc k) (q:oS kenc Q mv a l R) (s:∀b o,(b,o)∈R→W.heap[b]? =some o):nE P E ⟨d,.lookup t m x false,ty,pos,af,g⟩ W (uN beq a k z) W:=by
 obtain ⟨I,J,rfl,i,M⟩:=q
 have j:=Q0 (d:=d) (ty:=ty) (pos:=pos) (af:=af) (g:=g) K u y hm v (i.at (μ:=hp W) λb o h=>s b o (bY _ h))
 simpa [uN] using j
variable {κ2 β:Type} {kenc2:κ2→Value} {vf:β→Value} {beq2:κ2→κ2→Bool} {kt2:TypeId}
theorem oS.JE {mv:Value} {d:List (κ×Value)} {l:List (κ×List (κ2×β))} {R:LO} (hk:∀{x y:κ},beq x y=true→x=y) (h:oS kenc (ng kenc2 vf) mv d l R) (k:κ) {μ:mO} (g:∀b o,(b,o)∈R→μ b=some o) :
  uR kenc2 vf μ (uN beq d k (.map none)) ((nv beq l k).getD []):=by
 cases a:nv beq l k with
 | none=>rw [uN,h.RC a]; exact .inl ⟨Z,Z⟩
 | some x=>
  obtain ⟨v,A,R1,B,g1,rfl,g3,_⟩:=h.found hk a
  rw [uN,g1]
  exact g3.at (λb o i=>g b o (by simp [i]))
theorem oS.isNil {mv:Value} {d:List (κ×Value)} {l:List (κ×List (κ2×β))} {R:LO} (hk:∀{x y:κ},beq x y=true→x=y) (h:oS kenc (ng kenc2 vf) mv d l R) (k:κ) :
  ∃r,uN beq d k (.map none)= .map r∧r.isNone=(nv beq l k).isNone:=by
 cases a:nv beq l k with
 | none=>rw [uN,h.RC a]; exact ⟨none,Z,Z⟩
 | some x=>
  obtain ⟨v,A,R1,B,g1,rfl,g3,_⟩:=h.found hk a
  obtain ⟨m,es,clock,rfl,_⟩:=g3
  rw [uN,g1]
  exact ⟨_,Z,Z⟩
def MU {κ κ2 β:Type} (beq:κ→κ→Bool) (beq2:κ2→κ2→Bool) (l:List (κ×List (κ2×β))) (k:κ) (k2:κ2) (x:β):Option (List (κ×List (κ2×β))):=(nv beq l k).map λa=>pO beq l k (pO beq2 a k2 x)
def JT {κ γ:Type} (beq:κ→κ→Bool) (l:List (κ×γ)) (k:κ) (x:γ):Option (List (κ×γ)):=if (nv beq l k).isNone then some (pO beq l k x) else none
theorem XS {I:Value→World→Prop} (X:LO) {Y R:LO} {t e:TypeId} {m x y:Operand} {mv:Value} {z:List (κ×Value)} {l J:List (κ×List (κ2×β))} {k:κ} {k2:κ2} {v:β} (hk:∀{x y:κ},beq x y=true→x=y) (K:sD P kt2 kenc2 beq2) (Q:P.underlying t=some (.map kt2 e)) (j:ST dd F w W μ (X++(R++Y))) (h:oS kenc (ng kenc2 vf) mv z l R) (hm:lF E m=uN beq z k (.map none)) (U:lF E x=kenc2 k2) (hy:lF E y=vf v) (i:MU beq beq2 l k k2 v=some J) (O:∀W' R',ST dd F w W' μ (X++(R'++Y))→oS kenc (ng kenc2 vf) mv z J R'→I undef W'):py P E ⟨d,.mapUpdate t m x y,ty,pos,af,g⟩ W I:=by
 unfold MU at i
 cases q:nv beq l k with
 | none=>rw [q] at i; cases i
 | some l2=>
  rw [q] at i
  cases i
  obtain ⟨u,A,R1,B,g1,rfl,g3,g4⟩:=h.found hk q
  have s:lF E m=u:=by rw [hm,uN,g1]; rfl
  have a:ST dd F w W μ ((X++A)++(R1++(B++Y))):=by simpa using j
  refine Fq (X++A) K Q a g3 s U hy (λW' R' h1 M=>O W' (A++(R'++B)) ?_ (g4 _ _ M))
  simpa using h1
theorem V4 {O:Value→World→Prop} (X:LO) {Y R R2:LO} {t e:TypeId} {m x y:Operand} {mv:Value} {M:List (κ×Value)} {l l':List (κ×γ)} {k:κ} {u:Value} {z:γ} (K:sD P kt kenc beq) (ht:P.underlying t=some (.map kt e)) (J:ST dd F w W μ (X++(R++(R2++Y)))) (h:oS kenc Q mv M l R) (hm:lF E m=mv) (hx:lF E x=kenc k) (hy:lF E y=u) (hq:Q u z R2) (j:JT beq l k z=some l') (hK:∀W' R',ST dd F w W' μ (X++(R'++Y))→oS kenc Q mv (pO beq M k u) l' R'→O undef W'):py P E ⟨d,.mapUpdate t m x y,ty,pos,af,g⟩ W O:=by
 unfold JT at j
 cases v:nv beq l k with
 | some l2=>rw [v] at j; cases j
 | none=>
  rw [v] at j
  simp only [ju,aR,ia] at j
  subst j
  have hn:=h.RC v
  obtain ⟨Rm,I,rfl,h2,h3⟩:=h
  have s:ST dd F w W μ (X++(Rm++(I++(R2++Y)))):=by simpa using J
  refine Fq X K ht s h2 hm hx hy (λW' R' g1 g2=>hK W' (R'++(I++R2)) (by simpa using g1) ⟨R',I++R2,Z,g2,?_⟩)
  have U:∀{δ:Type} (q:List (κ×δ)) (y:δ),nv beq q k=none→pO beq q k y=q++[(k,y)]:=λq y a=>by
   rw [Ad] at a
   rw [pO]
   cases hi:q.findIdx? (λp=>beq k p.1) with
   | none=>rfl
   | some i=>
    obtain ⟨p,hp,_⟩:=vC hi
    rw [hi] at a
    simp [hp] at a
  rw [U M u hn,U l z v]
  exact h3.push k hq
theorem oS.ac3 {α:Type} {e:TypeId} {enc:α→List Value} {n:Nat} (j:∀x,(enc x).length=n) {mv:Value} {d:List (κ×Value)} {l:List (κ×List α)} {R:LO} (hk:∀{x y:κ},beq x y=true→x=y) (h:oS kenc (mg e enc n) mv d l R) (k:κ) {μ:mO} (g:∀b o,(b,o)∈R→μ b=some o) :
  Sl (Pl enc) n μ (uN beq d k (.slice none 0 0)) ((nv beq l k).getD []):=by
 cases a:nv beq l k with
 | none=>rw [uN,h.RC a]; exact ⟨none,0,Z,aY _,ej _,λh=>absurd h (Nat.lt_irrefl _)⟩
 | some x=>
  obtain ⟨v,A,R1,B,g1,rfl,g3,_⟩:=h.found hk a
  rw [uN,g1]
  exact g3.sl j (λb o i=>g b o (by simp [i]))
end
end Go.Proofs.YtojmckcglalbnaaGreat
namespace Go.Proofs.YtojmckcglalbnaaGreat
open Go.RowKit
variable {dd:Bool}
section
variable {κ γ:Type} {Q:Value→γ→LO→Prop} {beq:κ→κ→Bool} {kenc:κ→Value}
theorem wI {a:Type} {l:List (κ×a)} {k:κ} {i:Nat} (h:l.findIdx? (λp=>beq k p.1)=some i) (x:a):pO beq l k x=l.set i (k,x):=by rw [pO,h]
theorem AP {a:Type} {l:List (κ×a)} {k:κ} (h:l.findIdx? (λp=>beq k p.1)=none) (x:a):pO beq l k x=l++[(k,x)]:=by rw [pO,h]
theorem Ko {a:Type} {l:List (κ×a)} {k:κ} (h:l.findIdx? (λp=>beq k p.1)=none):nv beq l k=none:=by rw [Ad,h]; rfl
theorem JD {a:Type} {l:List (κ×a)} {k:κ} {i:Nat} {p:κ×a} (h:l.findIdx? (λp=>beq k p.1)=some i) (hp:l[i]? =some p):nv beq l k=some p.2:=by rw [Ad,h]; simp [hp]
def Vw (beq:κ→κ→Bool) (kenc:κ→Value) (Q:Value→γ→LO→Prop) (mv:Value) (d:List (κ×Value)) (l:List (κ×γ)) (k:κ) (R:LO):Prop :=
 ∃a A B,R=a++(A++B)∧ng kenc (λx=>x) mv d a∧∀v x R1,Q v x R1→Cx Q (pO beq d k v) (pO beq l k x) (A++(R1++B))
theorem oS.open (hk:∀{x y:κ},beq x y=true→x=y) {mv z:Value} {x0:γ} (s:Q z x0 []) {t:List (κ×Value)} {l:List (κ×γ)} {R:LO} (h:oS kenc Q mv t l R) (k:κ) :
  ∃R' R1,R.Perm (R'++R1)∧Q (uN beq t k z) ((nv beq l k).getD x0) R1∧Vw beq kenc Q mv t l k R':=by
 obtain ⟨g,u,rfl,I,j⟩:=h
 have d:=j.find (beq:=beq) k
 cases a:l.findIdx? (λp=>beq k p.1) with
 | none=>
  rw [a] at d
  refine ⟨g++u,[],rv,?_,g,u,[],rv,I,λv x R1 q=>?_⟩
  ·rw [uN,Ko a,Ko d]; exact s
  ·rw [AP a,AP d]; simpa using j.push k q
 | some i=>
  rw [a] at d
  obtain ⟨p,hp,J⟩:=vC a
  have M:=hk J
  obtain ⟨v,A,R1,B,g1,rfl,g3,g4⟩:=j.get i p.1 p.2 hp
  refine ⟨g++(A++B),R1,?_,?_,g,A,B,Z,I,λv2 x2 R2 q=>?_⟩
  ·rw [aP,aP]
   refine cH _ (cH _ dV)
  ·rw [uN,JD a hp,JD d g1]; exact g3
  ·rw [wI a,wI d]; exact g4 k v2 x2 R2 q
variable {P:Program} {W:World} {kt:TypeId} {E:nn} {d:Option Nat} {ty:TypeId} {pos:String} {af:Array Edge} {g:tX} {F:Nat→Prop} {w:World} {μ:mO} {L:LO}
theorem abL {j:Value→World→Prop} (X:LO) {Y R R1:LO} {t e:TypeId} {m x y:Operand} {mv:Value} {q:List (κ×Value)} {l:List (κ×γ)} {k:κ} {u:Value} {z:γ} (K:sD P kt kenc beq) (O:P.underlying t=some (.map kt e)) (i:ST dd F w W μ (X++(R++(R1++Y)))) (h:Vw beq kenc Q mv q l k R) (hm:lF E m=mv) (U:lF E x=kenc k) (hy:lF E y=u) (M:Q u z R1) (J:∀W' R',ST dd F w W' μ (X++(R'++Y))→oS kenc Q mv (pO beq q k u) (pO beq l k z) R'→j undef W'):py P E ⟨d,.mapUpdate t m x y,ty,pos,af,g⟩ W j:=by
 obtain ⟨s,A,B,rfl,v,I⟩:=h
 have a:ST dd F w W μ (X++(s++(A++(B++(R1++Y))))):=by simpa using i
 refine Fq X K O a v hm U hy (λW' R' g1 g2=>J W' (R'++(A++(R1++B))) ?_ ⟨R',A++(R1++B),Z,g2,I u z R1 M⟩)
 refine g1.perm ?_
 simp only [aP]
 refine cH _ (cH _ (cH _ ?_))
 rw [←aP,←aP]
 exact fZ _ dV
def QK (beq:κ→κ→Bool) (kenc:κ→Value) (Q:Value→γ→LO→Prop) (mv:Value) (l:List (κ×γ)) (k:κ) (st:Nat) (R:LO):Prop :=
 ∃m es clock a A B i e,mv= .map (some m)∧R=(m,.map es clock)::(A++B)∧As kenc (λx=>x) a es clock∧es[i]? =some e∧e.born=st∧a.findIdx? (λp=>beq k p.1)=some i∧
  ∀v x R1,Q v x R1→Cx Q (pO beq a k v) (pO beq l k x) (A++(R1++B))
theorem Pu {h:Type} (hk:∀x:κ,beq x x=true) (g:List (κ×h)) (k:κ) (a b:h):pO beq (pO beq g k a) k b=pO beq g k b:=by
 cases d:g.findIdx? (λp=>beq k p.1) with
 | none=>
  have h1:(g++[(k,a)]).findIdx? (λp=>beq k p.1)=some g.length:=by
   rw [iK,d]
   simp [fw,hk]
  rw [AP d,AP d,wI h1]
  simp
 | some i=>
  obtain ⟨p,hp,u⟩:=vC d
  have h1:(g.set i (k,a)).findIdx? (λp=>beq k p.1)=some i:=by
   rw [eL] at d ⊢
   obtain ⟨h1,t,q⟩:=d
   refine ⟨by simpa using h1,by simp [hk],λj s=>?_⟩
   rw [List.getElem_set_ne rs]
   exact q j s
  rw [wI d,wI d,wI h1]
  simp
end
end Go.Proofs.YtojmckcglalbnaaGreat
namespace Go.Proofs.YtojmckcglalbnaaGreat
open Go.RowKit
variable {dd:Bool}
section
variable {κ γ:Type} {Q:Value→γ→LO→Prop} {beq:κ→κ→Bool} {kenc:κ→Value}
variable {P:Program} {W:World} {kt:TypeId} {E:nn} {d:Option Nat} {ty:TypeId} {pos:String} {af:Array Edge} {g:tX} {F:Nat→Prop} {w:World} {μ:mO} {L:LO}
theorem Kt {es:Array MapEntry} {i:Nat} {f d:MapEntry→MapEntry} (h:∀e,es[i]? =some e→f e=d e):es.modify i f=es.modify i d:=by
 apply Array.ext_getElem?
 intro j
 rw [dJ,dJ]
 split
 ·rename_i a
  subst a
  cases he:es[i]? with
  | none=>rfl
  | some e=>simp [h e he]
 ·rfl
theorem As.val {d:List (κ×Value)} {es:Array MapEntry} {clock:Nat} (h:As kenc (λx=>x) d es clock) {i:Nat} {e:MapEntry} (he:es[i]? =some e):∃p,d[i]? =some p∧e.key=kenc p.1∧e.val=p.2:=by
 have a:=bA (λq=>q[i]?) h.LN
 simp only [fH,dU,he,ep] at a
 cases hp:d[i]? with
 | none=>rw [hp] at a; cases a
 | some p=>
  rw [hp] at a
  simp only [ep,ia,Prod.mk.injEq] at a
  exact ⟨p,Z,a.1,a.2⟩
theorem Vc {Kk:Value→World→Prop} (X:LO) {Y R:LO} {t e:TypeId} {m x:Operand} {mv z:Value} {x0:γ} {lv:List (κ×Value)} {l:List (κ×γ)} {k:κ} (hk:∀{x y:κ},beq x y=true↔x=y) (K:sD P kt kenc beq) (ht:P.underlying t=some (.map kt e)) (hz:∀w,(zeroValue e).run P w= .ok z w) (aj:Q z x0 []) (a7:ST dd F w W μ (X++(R++Y))) (h:oS kenc Q mv lv l R) (hm:lF E m=mv) (hx:lF E x=kenc k) (hK:∀W' v st R' R1,ST dd F w W' μ (X++(R'++(R1++Y)))→Q v ((nv beq l k).getD x0) R1→QK beq kenc Q mv l k st R'→Kk (.tuple #[v,.int .i64 (st:Nat)]) W'):py P E ⟨d,.mapEntry t m x,ty,pos,af,g⟩ W Kk:=by
 obtain ⟨Rm,Rv,rfl,⟨I,es,clock,rfl,rfl,J⟩,h3⟩:=h
 have hb:W.heap[I]? =some (.map es clock):=(a7.box I (.map es clock) rv).1
 have h5:(getObj I:Sem Obj).run P W= .ok (.map es clock) W:=by simp [getObj,Sem.run,hb]
 have h6:=K.find k _ _ J.keys W
 rw [J.get k] at h6
 have U:=h3.find (beq:=beq) k
 have O:∀W' v,(Instr.mapEntry t (.map (some I)) (kenc k)).run P W= .ok v W'→(execOp (lF E) ⟨d,.mapEntry t m x,ty,pos,af,g⟩).run P W= .ok (.value v) W':=by
  intro W' v hr
  show (do pure (.value (←Instr.mapEntry t (lF E m) (lF E x))):Sem Next).run P W=_
  rw [hm,hx]
  simp [hr]
 have M:ST dd F w W μ (X++(I,.map es clock)::(Rv++Y)):=by simpa using a7
 cases s:lv.findIdx? (λp=>beq k p.1) with
 | none=>
  rw [s] at h6 U
  have a:=J.put (beq:=beq) k z
  rw [s] at a
  refine .inl ⟨_,ChangeMaps.setBlock W I (.map (es.push { key:=kenc k,val:=z,born:=clock }) (clock+1)),O _ (.tuple #[z,.int .i64 (clock:Nat)]) ?_,hK _ z clock ((I,.map (es.push { key:=kenc k,val:=z,born:=clock }) (clock+1))::(Rv++[])) [] ?_ ?_ ?_⟩
  ·simp [Instr.mapEntry,aS ht,h5,K.check,h6,Ek hb,hz _,goInt]
  ·have:=M.setBlock (.map (es.push { key:=kenc k,val:=z,born:=clock }) (clock+1))
   simpa using this
  ·rw [Ko U.symm]; exact aj
  ·refine ⟨I,_,_,lv++[(k,z)],Rv,[],es.size,{ key:=kenc k,val:=z,born:=clock },Z,Z,a,rv,Z,?_,λv x R1 hq=>?_⟩
   ·rw [iK,s]
    have ah:=J.length
    simp [fw,hk,ah]
   ·rw [←AP s,Pu λx=>hk.2 Z,AP s,AP U.symm]
    simpa using h3.push k hq
 | some i=>
  rw [s] at h6 U
  obtain ⟨p,hp,ai⟩:=vC s
  obtain ⟨q,ag,a8⟩:=vC U.symm
  have ao:=hk.1 a8
  obtain ⟨v,A,R1,B,g1,rfl,g3,g4⟩:=h3.get i q.1 q.2 ag
  have ae:p.2=v:=by rw [g1] at hp; cases hp; rfl
  have ah:=J.length
  have an:i < lv.length:=(bP.1 hp).1
  obtain ⟨en,u⟩:∃en,es[i]? =some en:=⟨es[i],Array.getElem?_eq_getElem rs⟩
  obtain ⟨p',ad,a1,a6⟩:=J.val u
  rw [hp] at ad
  cases ad
  simp only [aA,hp,ep] at h6
  have a:=J.put (beq:=beq) k v
  rw [s] at a
  have aa:((es[i]?).map (·.key)).getD (kenc k)=kenc k:=by
   rw [u]
   simp only [ep,iB,a1]
   exact K.eq k p.1 ai
  have ab:es.modify i (λe=>{ e with key:=kenc k })=es.modify i (λe=>{ e with key:=kenc k,val:=v }):=Kt λe he=>by
   rw [u] at he; cases he
   rw [←ae,←a6]
  refine .inl ⟨_,ChangeMaps.setBlock W I (.map (es.modify i λe=>{ e with key:=kenc k,val:=v }) clock),O _ (.tuple #[v,.int .i64 (en.born:Nat)]) ?_,hK _ v en.born ((I,.map (es.modify i λe=>{ e with key:=kenc k,val:=v }) clock)::(A++B)) R1 ?_ ?_ ?_⟩
  ·simp only [Instr.mapEntry,cD,aS ht,h5,K.check,h6,bN,aa,Instr.keyThatStays,K.bits,aR,dx]
   rw [Ek hb,ab]
   simp [u,goInt,ae]
  ·have:=M.setBlock (.map (es.modify i λe=>{ e with key:=kenc k,val:=v }) clock)
   refine this.perm ?_
   simp only [aP,bU]
   refine cH _ (List.Perm.cons _ (cH _ ?_))
   rw [←aP,←aP]
   exact fZ _ dV
  ·rw [JD U.symm ag]; exact g3
  ·refine ⟨I,_,_,lv.set i (k,v),A,B,i,{ en with key:=kenc k,val:=v },Z,Z,a,?_,Z,?_,λv2 x2 R2 hq=>?_⟩
   ·rw [dJ,aO Z,u]; rfl
   ·rw [eL] at s ⊢
    obtain ⟨h1,J,h3⟩:=s
    refine ⟨by simpa using h1,by simp [hk],λj hj=>?_⟩
    rw [List.getElem_set_ne rs]
    exact h3 j hj
   ·rw [←wI s,Pu λx=>hk.2 Z,wI s,wI U.symm]
    exact g4 k v2 x2 R2 hq
theorem Xd {es:Array MapEntry} (h:es.toList.Pairwise λa b=>a.born < b.born) {i:Nat} {e:MapEntry} (he:es[i]? =some e):es.findIdx? (λa=>(a.born:Int)==(e.born:Int))=some i:=by
 rw [Array.findIdx?_eq_some_iff_getElem]
 obtain ⟨g,d⟩:=dM.1 he
 refine ⟨g,by rw [d]; simp,λj k=>?_⟩
 have:=List.pairwise_iff_getElem.1 h j i (by simpa using Nat.lt_trans k g) (by simpa using g) k
 simp only [Array.getElem_toList] at this
 rw [d] at this
 simp
 omega
theorem Sx {Kk:Value→World→Prop} (X:LO) {Y R R1:LO} {t e:TypeId} {m s y:Operand} {mv u:Value} {z:γ} {l:List (κ×γ)} {k:κ} {st:Nat} (hk:∀{x y:κ},beq x y=true↔x=y) (K:sD P kt kenc beq) (J:ST dd F w W μ (X++(R++(R1++Y)))) (h:QK beq kenc Q mv l k st R) (hm:lF E m=mv) (hs:lF E s= .int .i64 (st:Nat)) (hy:lF E y=u) (hq:Q u z R1) (hK:∀W' aa R',ST dd F w W' μ (X++(R'++Y))→oS kenc Q mv aa (pO beq l k z) R'→Kk undef W'):py P E ⟨d,.entryStore t m s y,ty,pos,af,g⟩ W Kk:=by
 obtain ⟨j,es,clock,lv,A,B,i,en,rfl,rfl,h2,v,q,hi,h3⟩:=h
 have hb:W.heap[j]? =some (.map es clock):=(J.box j (.map es clock) rv).1
 have h5:(getObj j:Sem Obj).run P W= .ok (.map es clock) W:=by simp [getObj,Sem.run,hb]
 obtain ⟨p,hp,a7⟩:=vC hi
 obtain ⟨p',a6,I,a8⟩:=h2.val v
 rw [hp] at a6
 cases a6
 have a:=h2.put (beq:=beq) k u
 rw [hi] at a
 have a1:es.modify i (λe=>{ e with val:=u })=es.modify i (λe=>{ e with key:=kenc k,val:=u }):=Kt λe he=>by
  rw [v] at he; cases he
  have O:en.key=kenc k:=by rw [I]; exact K.eq k p.1 a7
  rw [←O]
 have U:=Xd h2.born v
 rw [q] at U
 have M:ST dd F w W μ (X++(j,.map es clock)::(A++(B++(R1++Y)))):=by simpa using J
 refine .inr (.inl ⟨ChangeMaps.setBlock W j (.map (es.modify i λe=>{ e with key:=kenc k,val:=u }) clock),?_,hK _ (pO beq lv k u) ((j,.map (es.modify i λe=>{ e with key:=kenc k,val:=u }) clock)::(A++(R1++B))) ?_ ⟨[(j,.map (es.modify i λe=>{ e with key:=kenc k,val:=u }) clock)],A++(R1++B),Z,⟨j,_,_,Z,Z,?_⟩,h3 u z R1 hq⟩⟩)
 ·show (do Instr.entryStore t (lF E m) (lF E s) (lF E y); pure .skip:Sem Next).run P W=_
  rw [hm,hs,hy]
  simp only [Instr.entryStore,cD,h5,bN,asInt,asIntOf,dx,U]
  rw [Ek hb,a1]
  rfl
 ·have:=M.setBlock (.map (es.modify i λe=>{ e with key:=kenc k,val:=u }) clock)
  refine this.perm ?_
  simp only [aP,bU]
  refine cH _ (List.Perm.cons _ (cH _ ?_))
  rw [←aP,←aP]
  exact fZ _ dV
 ·rw [wI hi]; exact a
end
end Go.Proofs.YtojmckcglalbnaaGreat
namespace Go.Proofs.YtojmckcglalbnaaGreat
open Go.RowKit
variable {dd:Bool}
section
variable {κ γ:Type} {Q:Value→γ→LO→Prop} {beq:κ→κ→Bool} {kenc:κ→Value}
def ol (kenc:κ→Value) (Q:Value→γ→LO→Prop) (v:Value) (l:List (κ×γ)) (R:LO):Prop:=∃a,oS kenc Q v a l R
def sQ (kenc:κ→Value) (Q:Value→γ→LO→Prop) (μ:mO) (v:Value) (l:List (κ×γ)):Prop:=∃a R,oS kenc Q v a l R∧∀b o,(b,o)∈R→μ b=some o
theorem ol.at {v:Value} {l:List (κ×γ)} {R:LO} {μ:mO} (h:ol kenc Q v l R) (a:∀b o,(b,o)∈R→μ b=some o):sQ kenc Q μ v l:=let ⟨d,h⟩:=h; ⟨d,R,h,a⟩
theorem sQ.mono {v:Value} {l:List (κ×γ)} {μ μ':mO} (h:sQ kenc Q μ v l) (g:lM μ μ'):sQ kenc Q μ' v l:=let ⟨i,R,h,a⟩:=h; ⟨i,R,h,λb o d=>g _ _ (a b o d)⟩
theorem oS.form {v:Value} {a:List (κ×Value)} {l:List (κ×γ)} {R:LO} (h:oS kenc Q v a l R):∃m,v= .map (some m):=let ⟨_,_,_,h,_⟩:=h; h.form
theorem oS.e {v:Value} {a:List (κ×Value)} {l:List (κ×γ)} {R:LO} (h:oS kenc Q v a l R):ol kenc Q v l R:=⟨a,h⟩
theorem ol.form {v:Value} {l:List (κ×γ)} {R:LO} (h:ol kenc Q v l R):∃m,v= .map (some m):=let ⟨_,h⟩:=h; h.form
theorem ol.new {v:Value} {R:LO} (h:ng (β:=Value) kenc (λx=>x) v [] R):ol kenc Q v [] R:=⟨[],R,[],(cN R).symm,h,Z⟩
theorem oS.rowAt {α:Type} {e:TypeId} {enc:α→List Value} {n:Nat} {mv:Value} {d:List (κ×Value)} {l:List (κ×List α)} {R:LO} (hk:∀{x y:κ},beq x y=true→x=y) (h:oS kenc (mg e enc n) mv d l R) (k:κ) :
  ∃R1,mg e enc n (uN beq d k (.slice none 0 0)) ((nv beq l k).getD []) R1∧∀b o,(b,o)∈R1→(b,o)∈R:=by
 cases a:nv beq l k with
 | none=>refine ⟨[],?_,λb o h=>by cases h⟩; rw [uN,h.RC a]; exact .inl ⟨Z,Z,Z⟩
 | some x=>
  obtain ⟨v,A,R1,B,g1,rfl,g3,_⟩:=h.found hk a
  refine ⟨R1,?_,λb o g=>by simp [g]⟩
  rw [uN,g1]; exact g3
theorem mg.G6 {α:Type} {e:TypeId} {enc:α→List Value} {k:Nat} {v:Value} {l:List α} {R:LO} (h:mg e enc k v l R) (hk:∀x,(enc x).length=k):Sl (Pl enc) k (Fa R) v l:=by
 refine h.sl hk (λb o a=>?_)
 rcases h with ⟨rfl,rfl,rfl⟩ | ⟨g,cap,d,rfl,rfl,_⟩
 ·cases a
 ·simp at a; obtain ⟨rfl,rfl⟩:=a; simp [Fa]
end
theorem oR.hp (W:World):oR (hp W) [] W:=⟨λ_ _ h=>h,λ_ _ h=>by cases h⟩
section
variable {P:Program} {W:World} {E:nn} {d:Option Nat} {ty:TypeId} {pos:String} {af:Array Edge} {g:tX} {F:Nat→Prop} {w:World} {μ:mO} {L:LO}
theorem Og {t k e:TypeId} (dd:Nat) (d:P.underlying t=some (.map k e)) (a:Option Nat) (W:World):(Op.equalIn (dd+1) t (.map a) (.map none)).run P W= .ok a.isNone W:=by
 cases a <;> simp [Op.equalIn,aS d]
theorem Vy {tx tv k e:TypeId} {x y:Operand} {r:Option Nat} {b:Bool} (i:P.underlying tx=some (.map k e)) (j:lF E x= .map r) (q:lF E y= .map none) (h:r.isNone=b) :
  nE P E ⟨d,.binOp .eql tx x y tv,ty,pos,af,g⟩ W (.bool b) W:=by
 subst h
 show (do let r ←(do eqGuard .eql tx x y (lF E x) (lF E y); binOp .eql tx (lF E x) (lF E y)); pure (.value r):Sem Next).run P W=_
 rw [j,q]
 have a:=Og 9999 i r W
 simp [eqGuard,binOp,Op.equal,show Op.maxDepth=9999+1 from rfl,a]
theorem SV {κ κ2 β:Type} {kenc:κ→Value} {kenc2:κ2→Value} {vf:β→Value} {beq:κ→κ→Bool} {tx tv kt e:TypeId} {x y:Operand} {mv:Value} {a:List (κ×Value)} {l:List (κ×List (κ2×β))} {R:LO} {k:κ} (hk:∀{x y:κ},beq x y=true→x=y) (j:P.underlying tx=some (.map kt e)) (h:oS kenc (ng kenc2 vf) mv a l R) (q:lF E x=uN beq a k (.map none)) (s:lF E y= .map none) :
  nE P E ⟨d,.binOp .eql tx x y tv,ty,pos,af,g⟩ W (.bool (nv beq l k).isNone) W:=by
 obtain ⟨r,h1,i⟩:=h.isNil hk k
 exact Vy j (q.trans h1) s i
theorem Gq {κ γ:Type} {h:Value→World→Prop} {t:TypeId} (kenc:κ→Value) (Q:Value→γ→LO→Prop) (a:ST dd F w W μ L) (j:∀W' v R,ST dd F w W' μ (R++L)→ol kenc Q v [] R→h v W'):py P E ⟨d,.makeMap t none,ty,pos,af,g⟩ W h :=
 FN kenc (λx:Value=>x) a (λW' v R h1 i=>j W' v R h1 (ol.new i))
end
def uW {α:Type} (e:TypeId) (enc:α→List Value) (k:Nat) (v:Value) (l:List α) (R:LO):Prop :=
 (v= .slice none 0 0∧l=[]∧R=[])∨
 ∃g off cap a,v= .slice (some ⟨g,off,none⟩) l.length cap∧R=[(g,.cells a e (0,0))]∧l.length≤cap∧cap≤maxLen∧off+cap*k≤a.size∧(a.toList.drop off).take (l.length*k)=(l.map enc).flatten
section
variable {α:Type} {e:TypeId} {enc:α→List Value} {k:Nat} {v:Value} {l:List α} {R:LO}
theorem uW.nil (e:TypeId) (enc:α→List Value) (k:Nat):uW e enc k (.slice none 0 0) [] []:=.inl ⟨Z,Z,Z⟩
theorem mg.que (h:mg e enc k v l R):uW e enc k v l R:=by
 rcases h with h | ⟨g,cap,a,h1,d,i,j,s,q⟩
 ·exact .inl h
 ·exact .inr ⟨g,0,cap,a,h1,d,i,j,rs,by simpa using q⟩
theorem uW.len (h:uW e enc k v l R):l.length≤9223372036854775807:=by
 rcases h with ⟨rfl,rfl,rfl⟩ | ⟨g,off,cap,a,rfl,rfl,h1,d,_⟩
 ·simp
 ·unfold maxLen at d; omega
theorem uW.form (h:uW e enc k v l R):∃A c,v= .slice A l.length c:=by
 rcases h with ⟨rfl,rfl,rfl⟩ | ⟨g,off,cap,a,rfl,rfl,_⟩
 ·exact ⟨_,_,Z⟩
 ·exact ⟨_,_,Z⟩
theorem uW.G6 (h:uW e enc k v l R) (hk:∀x,(enc x).length=k):Sl (Pl enc) k (Fa R) v l:=by
 rcases h with ⟨rfl,rfl,rfl⟩ | ⟨g,off,cap,a,rfl,rfl,h1,q,z,s⟩
 ·exact Sl.nil _ _ _
 ·refine ⟨_,cap,Z,h1,q,λ_=>⟨g,off,a,e,(0,0),Z,by simp [Fa],λi x t=>⟨enc x,hk x,Z,λj y u=>?_⟩⟩⟩
  have:=Bg hk l i x t j y u
  rw [←s] at this
  have d:i*k+j < l.length*k:=by
   have:=(bP.1 this).1
   simp at this; omega
  rw [ev d,ei] at this
  simpa [fM] using this
variable {P:Program} {W:World} {E:nn} {d:Option Nat} {ty:TypeId} {pos:String} {af:Array Edge} {g:tX} {F:Nat→Prop} {w:World} {μ:mO} {L:LO}
theorem YY {x:Operand} {t a:TypeId} (i:P.underlying t=some (.slice a)) (j:lF E x=v) (h:uW e enc k v l R):nE P E ⟨d,.call ⟨.builtin .len,#[x],#[t]⟩,ty,pos,af,g⟩ W (.int .i64 l.length) W:=by
 obtain ⟨A,c,rfl⟩:=h.form
 exact CS i j
theorem US {t I:TypeId} {x y:Operand} {ik:IntKind} {i:Int} (Q:P.underlying t=some (.slice I)) (he:∀w,(sizeOf I).run P w= .ok k w) (U:lF E x=v) (M:lF E y= .int ik i) (hk:∀x,(enc x).length=k) (h:uW e enc k v l R) (Y:0≤i) (O:i≤l.length) :
  ∃u,uW e enc k u (l.drop i.toNat) R∧∀W,nE P E ⟨d,.slice t x (some y) none none,ty,pos,af,g⟩ W u W:=by
 rcases h with ⟨rfl,rfl,rfl⟩ | ⟨s,off,cap,j,rfl,rfl,h1,h2,h3,h4⟩
 ·have:i=0:=by simp at O; omega
  subst this
  refine ⟨.slice none 0 0,by simpa using uW.nil e enc k,λW=>?_⟩
  show (do pure (.value (←Instr.sliceAt t (lF E x) (some (lF E y)) none none)):Sem Next).run P W=_
  rw [U,M]
  simp [Instr.sliceAt,Instr.slice,Instr.sliceBounds,Instr.sliceBound,asIntOf,aS Q,he W]
 ·refine ⟨.slice (some (if cap=i.toNat then ⟨s,off,none⟩ else Addr.add ⟨s,off,none⟩ (i.toNat*k))) (l.length-i.toNat) (cap-i.toNat),.inr ?_,λW=>?_⟩
  ·have a:(l.drop i.toNat).length=l.length-i.toNat:=by simp
   have q:(l.map enc).flatten.drop (i.toNat*k)=((l.drop i.toNat).map enc).flatten:=by
    have h5:l=l.take i.toNat++l.drop i.toNat:=(gw _ _).symm
    have h6:((l.take i.toNat).map enc).flatten.length=i.toNat*k:=by rw [vu hk,cU,dS rs]
    conv=>lhs; rw [h5,cL,iY]
    rw [←h6,List.drop_left]
   by_cases J:cap=i.toNat
   ·rw [aO J]
    have z:l.drop i.toNat=[]:=List.drop_eq_nil_of_le rs
    refine ⟨s,off,cap-i.toNat,j,by rw [z]; simp; omega,Z,by rw [z]; simp,rs,by have:(cap-i.toNat)*k≤cap*k:=dp _ rs; omega,by rw [z]; simp⟩
   ·rw [aH J]
    refine ⟨s,off+i.toNat*k,cap-i.toNat,j,by rw [a,dW],Z,by rw [a]; omega,rs,?_,?_⟩
    ·have:i.toNat*k+(cap-i.toNat)*k=cap*k:=by rw [←cZ]; congr 1; omega
     omega
    ·rw [a,←q,←h4,jr,List.drop_drop,Nat.sub_mul]
  ·show (do pure (.value (←Instr.sliceAt t (lF E x) (some (lF E y)) none none)):Sem Next).run P W=_
   rw [U,M]
   have hb:0≤i∧i≤(l.length:Int):=⟨Y,O⟩
   simp [Instr.sliceAt,Instr.slice,Instr.sliceBounds,Instr.sliceBound,asIntOf,aS Q,he W,hb]
   split <;> rfl
theorem Tc {K:Value→World→Prop} {t:TypeId} {ae:Nat} {z vs:Value} {m r:List α} (X:LO) {Y:LO} {x y:Operand} {i:TypeInfo} (ag:ST dd F w W μ (X++(R++Y))) (hk:∀x,(enc x).length=k) (au:0 < k) (h1:∀x,∀u∈enc x,u.oneCell'=true) (ht:P.underlying t=some (.slice e)) (hi:P.info? e=some i) (hz:i.zero=some z) (aj:z.cells.size=k) (ab:i.size=k) (ah:i.bytes=ae) (hx:lF E x=v) (hy:lF E y=vs) (hR:uW e enc k v l R) (hs:Sl (Pl enc) k (hp W) vs m) (hb:oY ae l m=some r) (h:∀W' v' R',ST dd F w W' μ (X++(R'++Y))→uW e enc k v' r R'→K v' W'):py P E ⟨d,.call ⟨.builtin .append,#[x,y],#[t,t]⟩,ty,pos,af,g⟩ W K:=by
 rcases hR with ⟨rfl,rfl,rfl⟩ | ⟨J,off,cap,I,rfl,rfl,h2,h3,h4,h5⟩
 ·exact Ro X ag hk au h1 ht hi hz aj ab ah hx hy (mg.nil e enc k) hs hb (λW' v' R' a b=>h W' v' R' a b.que)
 unfold oY at hb
 split at hb
 case isFalse=>cases hb
 rename_i aa
 cases hb
 have a8:∀(V:Value) (W':World),(Builtin.append_ #[t,t] ty #[.slice (some ⟨J,off,none⟩) l.length cap,vs]).run P W= .ok V W'→(execOp (lF E) ⟨d,.call ⟨.builtin .append,#[x,y],#[t,t]⟩,ty,pos,af,g⟩).run P W= .ok (.value V) W':=by
  intro V W' hV
  show (do let d ←resolve (lF E) ⟨.builtin .append,#[x,y],#[t,t]⟩ ty; invoke d.target d.args:Sem Next).run P W=_
  simp [resolve,invoke,builtin,hx,hy,hV]
 obtain ⟨A,c,rfl,ay,az,ap⟩:=hs
 have U:ST dd F w W μ (X++(J,.cells I e (0,0))::Y):=by simpa using ag
 have hg:W.heap[J]? =some (.cells I e (0,0)):=(U.box J _ rv).1
 have Q:=vu hk l
 have a7:∀u∈(m.map enc).flatten,u.oneCell'=true:=by
  intro u hu
  obtain ⟨ys,aw,av⟩:=kv.1 hu
  obtain ⟨x,_,rfl⟩:=bT.1 aw
  exact h1 x u av
 have O:Src P i.size t (.slice A m.length c) m.length ((m.map enc).flatten) W:=by
  rw [ab]
  rcases eX m.length with h0 | h0
  ·have hm:m=[]:=bZ h0
   subst hm
   cases A with
   | none=>exact Src.ofNil W ht c
   | some ad=>exact Src.ofSlice W ht ad 0 c [] rv (λj u hu=>by simp at hu) (λu hu=>by cases hu)
  ·obtain ⟨b,o,cs,T,fr,rfl,h6,h7⟩:=ap h0
   refine Src.ofSlice W ht _ _ c _ (vu hk m) (λj u hu=>?_) a7
   obtain ⟨i,x,q,h8,h9,rfl⟩:=Nc hk m j u hu
   obtain ⟨ys,_,an,ao⟩:=h7 i x h8
   cases an
   rw [dW,gU W b (o+(i*k+q)) cs T fr h6,←fM]
   exact ao q u h9
 have s:=vu hk m
 have a6:((l++m).map enc).flatten=(l.map enc).flatten++(m.map enc).flatten:=by simp
 generalize (m.map enc).flatten=fm at O a7 s a6
 subst ab
 have aE:l.length*i.size≤cap*i.size:=dp _ h2
 by_cases M:l.length+m.length≤cap
 ·have b0:l.length*i.size+m.length*i.size≤cap*i.size:=by rw [←cZ]; exact dp _ M
  have ai:=jN (P:=P) J (off+l.length*i.size) e fm 0 I W hg (by rw [s]; omega) a7
  have a1:(Builtin.append_ #[t,t] ty #[.slice (some ⟨J,off,none⟩) l.length cap,.slice A m.length c]).run P W= .ok (.slice (some ⟨J,off,none⟩) (l.length+m.length) cap) (W.setRow J (I.toList.take (off+l.length*i.size)++fm++I.toList.drop (off+l.length*i.size+fm.length)).toArray):=by
   simp [Builtin.append_,aS ht,sizeOf,typeInfo,hi,O.len,M,O.cells,dW]
   simp only [kG] at ai
   rw [ai]
   simp
  refine .inl ⟨_,_,a8 _ _ a1,h _ _ [(J,_)] (by simpa using U.store _) (.inr ⟨J,off,cap,_,by rw [aC],Z,by simpa using M,h3,?_,?_⟩)⟩
  ·simp only [dG,aC,cU,fS,dF,s]
   rw [dS rs]
   omega
  ·have hA:(I.toList.take (off+l.length*i.size)).length=off+l.length*i.size:=by simp; omega
   show ((I.toList.take (off+l.length*i.size)++(fm++I.toList.drop (off+l.length*i.size+fm.length))).drop off).take ((l++m).length*i.size)=_
   rw [a6,List.drop_append,jr,hA,show off-(off+l.length*i.size)=0 by omega,List.drop_zero,show off+l.length*i.size-off=l.length*i.size by omega,h5]
   rw [aC,cZ,fT,fT,Q,s,dy (by rw [Q]; omega),show l.length*i.size+m.length*i.size-l.length*i.size=m.length*i.size by omega,dy (by rw [s]; omega)]
   simp
 ·have hold:(Builtin.firstCells i.size l.length (.slice (some ⟨J,off,none⟩) l.length cap)).run P W.drew= .ok ((l.map enc).flatten).toArray W.drew:=by
   refine run_firstCells_some W.drew i.size l.length ⟨J,off,none⟩ l.length cap _ Q (λj u hu=>?_)
   rw [dW]
   show W.cell? ⟨J,off+j,none⟩=some u
   rw [gU W J (off+j) I e (0,0) hg]
   rw [←h5] at hu
   have hj:j < l.length*i.size:=by have:=(bP.1 hu).1; simp at this; omega
   rw [ev hj,ei] at hu
   simpa using hu
  have hlen:(l++m).length=l.length+m.length:=aC
  have ar:=grownCap_ge W (l.length+m.length) cap e
  have aq:=jq W (l.length+m.length) cap e aa.2
  have a1:=run_append_grow_src (P:=P) W t t ty e i z ht hi hz (some ⟨J,off,none⟩) l.length cap ((l.map enc).flatten) hold _ m.length _ O rs (by have:=aa.2; unfold maxLen at this; omega) (growslice_fits rs (by rw [ah]; exact aa.1))
  have h6:=U.drew.alloc (.cells (((l.map enc).flatten++fm).toArray++Builtin.zeroCells z.cells (grownCap W (l.length+m.length) cap e-(l.length+m.length))) e (0,0))
  have h7:=(ST.drop (A:=(W.drew.heap.size,_)::X) h6).perm (L':=X++([(W.heap.size,_)]++Y)) (by simpa using (ft (a:=(W.heap.size,_)) (l₁:=X) (l₂:=Y)).symm)
  refine .inl ⟨_,_,a8 _ _ a1,h _ _ _ h7 (mg.que (.inr ⟨W.heap.size,grownCap W (l.length+m.length) cap e,_,by rw [hlen],Z,by rw [hlen]; exact ar,aq,?_,?_⟩))⟩
  ·rw [Array.size_append,size_zeroCells,aj]
   simp only [dG,aC,Q,s]
   rw [←cZ,←cZ]
   congr 1
   omega
  ·rw [Array.toList_append,List.toList_toArray,hlen,a6,List.take_append_of_le_length (by simp only [aC,Q,s]; rw [cZ]; exact aY _),dy (by simp only [aC,Q,s]; rw [cZ]; exact aY _)]
end
end Go.Proofs.YtojmckcglalbnaaGreat
namespace Go.Proofs.YtojmckcglalbnaaGreat
open Go.RowKit
variable [M:Md]
section
variable {P:Program} {ops:Array Oper} {Q:Exit→Act→World→Prop} {S:Array Bool→World→Prop}
def Dy (ops:Array Oper) (l:Array Bool):Prop:=∀j o,ops[j]? =some o→l.getD j true=true→∀e∈o.after,Region.binds .any e=true→l.getD e.on true=true
def KE (ops:Array Oper):Nat→List Nat→Bool
 | _,[]=>true
 | j,k::r=>(match ops[j]? with | some o=>o.after.any (λe=>Region.binds .any e&&e.on==k) | none=>false)&&KE ops k r
theorem ND {l:Array Bool} (g:Dy ops l):∀(r:List Nat) (j i:Nat),KE ops j r=true→(j::r).getLast? =some i→l.getD j true=true→l.getD i true=true
 | [],j,i,_,h,a=>by simp at h; subst h; exact a
 | k::r,j,i,h,s,a=>by
  simp only [KE,bI] at h
  obtain ⟨h1,q⟩:=h
  cases d:ops[j]? with
  | none=>rw [d] at h1; cases h1
  | some o=>
   rw [d] at h1
   simp only [Array.any_eq_true] at h1
   obtain ⟨n,t,h1⟩:=h1
   simp only [bI,iC] at h1
   have:=g j o d a o.after[n] (Array.getElem_mem t) h1.1
   rw [h1.2] at this
   exact ND g r k i q (by simpa [List.getLast?_cons_cons] using s) this
def M5 (ops:Array Oper) (i:Nat) (l:Array Bool):Prop:=Dy ops l∧l.getD i true=false
theorem M5.Sa {l:Array Bool} {i:Nat} (h:M5 ops i l) (j:Nat) (r:List Nat) (a:KE ops j r=true) (g:(j::r).getLast? =some i):l.getD j true=false:=by
 cases d:l.getD j true with
 | false=>rfl
 | true=>have:=ND h.1 r j i a g d; rw [h.2] at this; cases this
theorem Dy.start (n:Nat) (h:n=ops.size):Dy ops (Array.replicate n false):=by
 subst h
 intro j o g d
 have a:j < ops.size:=(dM.1 g).1
 simp [a] at d
theorem Dy.set {l:Array Bool} {i:Nat} (h:Dy ops l) (x:i∈Region.ready .any ops l):Dy ops (l.setIfInBounds i true):=by
 intro j o v u e he t
 have up:∀{k:Nat},l.getD k true=true→(l.setIfInBounds i true).getD k true=true:=λ{k} hk=>by
  by_cases g:i=k
  ·subst g
   by_cases s:i < l.size
   ·simp [s]
   ·simp [s]
  ·rw [kT true g]; exact hk
 by_cases d:i=j
 ·subst d
  obtain ⟨_,y,q,a⟩:=kY.1 x
  rw [v] at q
  cases q
  refine up ?_
  have:=a e he t
  by_cases s:e.on < l.size
  ·simp [s] at this ⊢; exact this
  ·simp [s]
 ·rw [kT true d] at u
  exact up (h j o v u e he t)
def IE (P:Program) (ops:Array Oper) (S:Array Bool→World→Prop) (i:Nat) (o:Oper) (v:Value) (a:Act):Prop :=
 (Region.wanted o (yielded ops a.tmps)=true∧∀l w,M5 ops i l→S l w→(execOp a.eval o).run P w= .ok (.value v) w)∨
 (Region.wanted o (yielded ops a.tmps)=false∧v=undef)
theorem IE.if_ {i:Nat} {o:Oper} {v:Value} {a:Act} {l:Array Bool} (h:IE P ops S i o v a) (hp:M5 ops i l):YieldsIf P ops (S l) o v a :=
 h.imp (λ⟨h1,d⟩=>⟨h1,λw hw=>d l w hp hw⟩) id
def Ut (P:Program) (ops:Array Oper) (Q:Exit→Act→World→Prop) (S:Array Bool→World→Prop):Nat→Array Bool→Act→World→Prop
 | 0,l,a,w=>Region.ready .any ops l=[]∧Q .normal a w
 | n+1,l,a,w=>(Region.ready .any ops l=[]→Q .normal a w)∧
  ∀i∈Region.ready .any ops l,wpOp P ops Q i (λg d=>S (l.setIfInBounds i true) d∧Ut P ops Q S n (l.setIfInBounds i true) g d) a w
theorem Tm:∀(n:Nat) (l:Array Bool) (a:Act) (w:World),Ut P ops Q S n l a w→wpAny P .any ops Q n l a w
 | 0,_,_,_,h=>h
 | n+1,_,_,_,h=>⟨h.1,λi j=>wpOp_mono (λd k g=>Tm n _ d k g.2) (h.2 i j)⟩
theorem XP {i j:Nat} {d u:Oper} {v:Value} (I:ops[j]? =some u) (q:d.apart ops u=true) (s:∀cs b,d.op≠.select cs b) (t:∀cs b,u.op≠.select cs b) (z:∀c a w,Q (.panic c) (a.put d.dst v) w→Q (.panic c) a w) {K:Act→World→Prop} {a:Act} {w:World} (J:IE P ops S i d v a) (h:wpOp P ops Q j K (a.put d.dst v) w) :
  wpOp P ops Q j (λg y=>IE P ops S i d v g∧K (g.put d.dst v) y) a w:=by
 have h1:YieldsIf P ops (λw=>∃l,M5 ops i l∧S l w) d v a:=J.imp (λ⟨h1,k⟩=>⟨h1,λw ⟨l,hp,hw⟩=>k l w hp hw⟩) id
 refine wpOp_mono (λg y x=>⟨x.1.imp (λ⟨h1,k⟩=>⟨h1,λl w hp hw=>k w ⟨l,hp,hw⟩⟩) id,x.2⟩) (wpOp_putIf (S:=λw=>∃l,M5 ops i l∧S l w) I q s t z h1 h)
theorem PS {i:Nat} {I:Oper} {v:Value} (hi:ops[i]? =some I) (x:∀(j:Nat) (o:Oper) cs b,ops[j]? =some o→o.op≠.select cs b) (hQ:∀c a w,Q (.panic c) (a.put I.dst v) w→Q (.panic c) a w) (hm:∀l w,S (l.setIfInBounds i true) w→S l w) :
  ∀(n:Nat) (l:Array Bool) (a:Act) (w:World),(∀j J,ops[j]? =some J→j≠i→l.getD j true=false→(∀e∈J.after,Region.binds .any e=true→e.on≠i)→I.apart ops J=true)→
   Dy ops l→i∈Region.ready .any ops l→IE P ops S i I v a→S (l.setIfInBounds i true) w→Ut P ops Q S n (l.setIfInBounds i true) (a.put I.dst v) w→Ut P ops Q S (n+1) l a w:=by
 intro n
 induction n with
 | zero=>
  intro l a w _ hc t hy M H
  refine ⟨λh=>(by rw [h] at t; cases t),λj U=>?_⟩
  by_cases d:j=i
  ·subst d
   exact (hy.if_ ⟨hc,(kY.1 t).1⟩).wpOp hi (hm l w M) ⟨M,H⟩
  ·have:=ready_mono U d
   rw [H.1] at this
   cases this
 | succ n ih=>
  intro l a w q hc t hy M H
  refine ⟨λh=>(by rw [h] at t; cases t),λj U=>?_⟩
  by_cases d:j=i
  ·subst d
   exact (hy.if_ ⟨hc,(kY.1 t).1⟩).wpOp hi (hm l w M) ⟨M,H⟩
  have h1:=H.2 j (ready_mono U d)
  obtain ⟨u,J,z,O⟩:=kY.1 U
  have Y:∀e∈J.after,Region.binds .any e=true→e.on≠i:=λe he hb a6=>by
   have y:=O e he hb
   have h0:=(kY.1 t).1
   rw [a6] at y
   rcases Nat.lt_or_ge i l.size with h' | h'
   ·simp [h'] at h0 y; rw [h0] at y; cases y
   ·simp [Array.getElem?_eq_none h'] at y
  have y:=XP z (q j J z d u Y) (λcs b=>x i I cs b hi) (λcs b=>x j J cs b z) hQ hy h1
  have s:∀k ok,ops[k]? =some ok→k≠i→(l.setIfInBounds j true).getD k true=false→(∀e∈ok.after,Region.binds .any e=true→e.on≠i)→I.apart ops ok=true:=λk ok hk a7 a1 a8=>by
   refine q k ok hk a7 ?_ a8
   by_cases W:j=k
   ·subst W; exact u
   ·rw [kT true W] at a1; exact a1
  have g:(l.setIfInBounds i true).setIfInBounds j true=(l.setIfInBounds j true).setIfInBounds i true:=Array.setIfInBounds_comm _ _ (Ne.symm d)
  refine wpOp_mono (λa' w' h3=>?_) y
  have h4:S ((l.setIfInBounds j true).setIfInBounds i true) w':=by rw [←g]; exact h3.2.1
  refine ⟨hm _ w' h4,ih (l.setIfInBounds j true) a' w' s (hc.set U) (ready_mono t (Ne.symm d)) h3.1 h4 ?_⟩
  rw [←g]
  exact h3.2.2
end
theorem acQ {ro:Md} {P:Program} {o:Oper} {a:Act} {w:World} {K:Act→World→Prop} {Q:Exit→Act→World→Prop} (hd:∀c,o.op≠.defer c) (h:o.wp P a w K Q) (k:¬LetsOut Q):o.wpIn ro.F 0 P a w K Q:=by
 refine ⟨λ_ _=>trivial,?_⟩
 rw [Oper.semAt_eq _ _ _ hd]
 unfold Oper.wp at h
 cases i:(execOp a.eval o).run P w with
 | ok x g=>
  rw [i] at h
  cases x with
  | value v=>exact h
  | skip=>exact h
  | defer d=>exact h
  | enter f args=>exact LF (dl h λe j he=>by cases e with
   | returned v=>exact he
   | panicked c=>exact he
   | outgrown=>exact he)
  | row r args=>exact ⟨λe=>(nomatch (show (none:Option Nat).isSome=true from e)),λc cs _=>by
    obtain ⟨v,g,r,s⟩:=h c cs
    exact ⟨v,g,r,(stepsIn_wide (P:=P)).2 s⟩⟩
  | _=>exact h.elim
 | halt z g=>
  rw [i] at h
  cases z with
  | panic v=>exact h
  | _=>exact h.elim
def Ur (ops:Array Oper):Prop:=∀(i:Nat) (o:Oper),ops[i]? =some o→∀c,o.op≠.defer c
theorem Jk {ro:Md} {P:Program} {ops:Array Oper} {Q:Exit→Act→World→Prop} (hd:Ur ops) (g:¬LetsOut Q):∀(n:Nat) (l:Array Bool) (a:Act) (w:World),wpAny P .any ops Q n l a w→wpAnyIn ro.F 0 P .any ops Q n l a w
 | 0,_,_,_,h=>h
 | n+1,l,a,w,h=>⟨h.1,λi k=>by
  have d:=h.2 i k
  unfold wpOp at d
  unfold wpOpIn
  cases j:ops[i]? with
  | none=>rw [j] at d; exact Jk hd g n _ a w d
  | some o=>
   rw [j] at d
   simp only at d ⊢
   split
   ·rename_i hw
    rw [aO hw] at d
    rcases d with d | d
    ·exact Oper.wpIn_mono (λa w h=>Jk hd g n _ a w h) (acQ (hd i o j) d g)
    ·exact absurd d.2 g
   ·rename_i hw
    rw [aH hw] at d
    exact ⟨λ_ _=>trivial,Jk hd g n _ _ w d⟩⟩
def Ri (l:List Oper):Bool:=l.all λo=>match o.op with
 | .defer _=>false
 | _=>true
theorem Z1 {l:List Oper} (h:Ri l=true):Ur l.toArray:=λi o a c d=>by
 have hm:o∈l:=by
  rw [fA] at a
  exact eH a
 have:=fV.1 h o hm
 rw [d] at this
 cases this
theorem abu [M:Md] {n:Nat} {Q:rc}:¬LetsOut (lift n Q):=λ⟨_,_,h⟩=>h
def PX (P:Program) (n:Nat) (ops:Array Oper) (Q:rc) (S:Array Bool→World→Prop) (fuel:Nat) (listed:Array Bool) (E:nn) (W:World):Prop :=
 Dy ops listed→∀a,Ag n a E→Ut P ops (lift n Q) S fuel listed a W
section
variable {P:Program} {n:Nat} {Q:rc} {E:nn} {W:World} {ops:Array Oper} {S:Array Bool→World→Prop} {fuel:Nat} {listed:Array Bool}
theorem M2 {id:Nat} {l:List Oper} (S:Array Bool→World→Prop) (hm:P.follows .mixedOrders=true) (h:PX P n l.toArray Q S l.length (Array.replicate l.length false) E W.drew) (hd:Ri l=true):CW P n (.region id l.toArray true) Q E W:=λa ha=>
 wpIn_region_any hm (Jk (Z1 hd) abu _ _ _ _ (Tm _ _ _ _ (h (Dy.start _ rv) a ha)))
def FZ (ops:Array Oper) (listed:Array Bool) (i:Nat):Bool:=Region.noSelect ops&&Region.free .any ops listed i&&(Region.ready .any ops listed).contains i
theorem xh {o:Oper} {dd:Nat} {v:Value} (i:Nat) (j:ops[i]? =some o) (hk:FZ ops listed i=true) (hw:lL n ops E o) (hd:o.dst=some dd) (s:dd < n) (hm:∀l w,S (l.setIfInBounds i true) w→S l w) (q:S (listed.setIfInBounds i true) W) (t:∀l W,M5 ops i l→S l W→nE P E o W v W) (h:PX P n ops Q S fuel (listed.setIfInBounds i true) (oT E dd v) W):PX P n ops Q S (fuel+1) listed E W:=λg a ha=>by
 simp only [FZ,bI] at hk
 have k:i∈Region.ready .any ops listed:=by simpa using hk.2
 exact PS j (Region.noSelect_spec hk.1.1) (λ_ _ _ h=>Rq h) hm fuel listed a W (Region.free_spec j hk.1.2) g k (.inl ⟨hw.of ha,λl w hp d=>by rw [ha.eval]; exact t l w hp d⟩) q (by rw [hd]; exact h (g.set k) _ (ha.put s v))
theorem ym {A:Value→Prop} {o:Oper} {dd:Nat} (i:Nat) (g:ops[i]? =some o) (hk:FZ ops listed i=true) (hw:lL n ops E o) (hd:o.dst=some dd) (j:dd < n) (hm:∀l w,S (l.setIfInBounds i true) w→S l w) (d:S (listed.setIfInBounds i true) W) (k:∃p,A p∧∀W,nE P E o W p W) (h:∀p,A p→PX P n ops Q S fuel (listed.setIfInBounds i true) (oT E dd p) W):PX P n ops Q S (fuel+1) listed E W:=by
 obtain ⟨p,h1,a⟩:=k
 exact xh i g hk hw hd j hm d (λ_ W _ _=>a W) (h p h1)
theorem T8 {o:Oper} {dd:Nat} (i:Nat) (g:ops[i]? =some o) (hk:FZ ops listed i=true) (hw:∀a,Ag n a E→Region.wanted o (yielded ops a.tmps)=false) (hd:o.dst=some dd) (q:dd < n) (hm:∀l w,S (l.setIfInBounds i true) w→S l w) (k:S (listed.setIfInBounds i true) W) (h:PX P n ops Q S fuel (listed.setIfInBounds i true) (oT E dd undef) W):PX P n ops Q S (fuel+1) listed E W:=λd a ha=>by
 simp only [FZ,bI] at hk
 have j:i∈Region.ready .any ops listed:=by simpa using hk.2
 exact PS g (Region.noSelect_spec hk.1.1) (λ_ _ _ h=>Rq h) hm fuel listed a W (Region.free_spec g hk.1.2) d j (.inr ⟨hw a ha,Z⟩) k (by rw [hd]; exact h (d.set j) _ (ha.put q _))
theorem acJ {o:Oper} {dd j t:Nat} {want:Bool} (i:Nat) (q:ops[i]? =some o) (hk:FZ ops listed i=true) (k:o.guard=some (j,want)) (s:(ops[j]?).bind (·.dst)=some t) (v:t < n) (d:E t= .bool (!want)) (hd:o.dst=some dd) (u:dd < n) (hm:∀l w,S (l.setIfInBounds i true) w→S l w) (g:S (listed.setIfInBounds i true) W) (h:PX P n ops Q S fuel (listed.setIfInBounds i true) (oT E dd undef) W):PX P n ops Q S (fuel+1) listed E W :=
 T8 i q hk (λa ha=>by have x:=ha.yield s v d; simp [Region.wanted,k,x]) hd u hm g h
theorem aaY {o:Oper} {dd j t:Nat} {want:Bool} (i:Nat) (q:ops[i]? =some o) (hk:FZ ops listed i=true) (k:o.guard=some (j,want)) (s:(ops[j]?).bind (·.dst)=some t) (v:t < n) (d:E t=undef) (hd:o.dst=some dd) (u:dd < n) (hm:∀l w,S (l.setIfInBounds i true) w→S l w) (g:S (listed.setIfInBounds i true) W) (h:PX P n ops Q S fuel (listed.setIfInBounds i true) (oT E dd undef) W):PX P n ops Q S (fuel+1) listed E W :=
 T8 i q hk (λa ha=>by have x:=ha.NA s v d; simp [Region.wanted,k,x]) hd u hm g h
theorem aa4 {o:Oper} {dd:Nat} (i:Nat) (y:ops[i]? =some o) (k:Region.ready .any ops listed=[i]) (hw:lL n ops E o) (hd:o.dst=some dd) (s:dd < n) (h:py P E o W λv W'=>S (listed.setIfInBounds i true) W'∧PX P n ops Q S fuel (listed.setIfInBounds i true) (oT E dd v) W'):PX P n ops Q S (fuel+1) listed E W:=λq a ha=>by
 have d:i∈Region.ready .any ops listed:=by rw [k]; simp
 refine ⟨λx=>(by rw [x] at k; cases k),λj t=>?_⟩
 rw [k] at t
 obtain rfl:=aV.1 t
 unfold wpOp
 simp only [y]
 rw [aO (hw.of ha)]
 refine .inl ?_
 unfold Oper.wp
 rw [ha.eval]
 rcases h with ⟨v,W',h1,g⟩ | ⟨W',h1,g⟩ | ⟨f,args,h1,g⟩
 ·rw [h1,fE]; exact ⟨g.1,by rw [hd]; exact g.2 (q.set d) _ (ha.put s v)⟩
 ·rw [h1,ib]; exact ⟨g.1,by rw [hd]; exact g.2 (q.set d) _ (ha.put s _)⟩
 ·rw [h1,fF]
  refine dl g ?_
  rintro e z ⟨v,rfl,u⟩
  exact ⟨u.1,by simp only [hd]; exact u.2 (q.set d) _ (ha.put s v)⟩
theorem aco {o:Oper} (i:Nat) (x:ops[i]? =some o) (k:Region.ready .any ops listed=[i]) (hw:lL n ops E o) (hd:o.dst=none) (h:py P E o W λ_ W'=>S (listed.setIfInBounds i true) W'∧PX P n ops Q S fuel (listed.setIfInBounds i true) E W'):PX P n ops Q S (fuel+1) listed E W:=λq a ha=>by
 have d:i∈Region.ready .any ops listed:=by rw [k]; simp
 refine ⟨λu=>(by rw [u] at k; cases k),λj s=>?_⟩
 rw [k] at s
 obtain rfl:=aV.1 s
 unfold wpOp
 simp only [x]
 rw [aO (hw.of ha)]
 refine .inl ?_
 unfold Oper.wp
 rw [ha.eval]
 rcases h with ⟨v,W',h1,g⟩ | ⟨W',h1,g⟩ | ⟨f,args,h1,g⟩
 ·rw [h1,fE,hd]; exact ⟨g.1,g.2 (q.set d) _ (ha.Al _)⟩
 ·rw [h1,ib,hd]; exact ⟨g.1,g.2 (q.set d) _ (ha.Al _)⟩
 ·rw [h1,fF]
  refine dl g ?_
  rintro e y ⟨v,rfl,t⟩
  simp only [hd]
  exact ⟨t.1,t.2 (q.set d) _ (ha.Al _)⟩
theorem mG (g:Region.ready .any ops listed=[]) (h:Q .normal E W):PX P n ops Q S fuel listed E W:=λ_ a ha=>by
 cases fuel with
 | zero=>exact ⟨g,E,ha,h⟩
 | succ f=>exact ⟨λ_=>⟨E,ha,h⟩,λi d=>by rw [g] at d; cases d⟩
theorem tC {p:Prop} {b:Bool} (a:b=true) (h:b=false):p:=by rw [a] at h; cases h
theorem ov {a:Array Bool} (d:listed=a) (h:PX P n ops Q S fuel a E W):PX P n ops Q S fuel listed E W:=by rw [d]; exact h
theorem IL {o x:Oper} {d y:Nat} (i j:Nat) (hi:ops[i]? =some o) (hj:ops[j]? =some x) (u:Region.ready .any ops listed=[i,j]) (hw:lL n ops E o) (M:lL n ops E x) (hd:o.dst=some d) (I:x.dst=some y) (t:d < n) (J:y < n) (h:py P E o W λv W'=>S (listed.setIfInBounds i true) W'∧PX P n ops Q S fuel (listed.setIfInBounds i true) (oT E d v) W') (h':py P E x W λv W'=>S (listed.setIfInBounds j true) W'∧PX P n ops Q S fuel (listed.setIfInBounds j true) (oT E y v) W'):PX P n ops Q S (fuel+1) listed E W:=λz a ha=>by
 have key:∀(k:Nat) (q:Oper) (e:Nat),ops[k]? =some q→k∈Region.ready .any ops listed→lL n ops E q→q.dst=some e→e < n→(py P E q W λv W'=>S (listed.setIfInBounds k true) W'∧PX P n ops Q S fuel (listed.setIfInBounds k true) (oT E e v) W')→
   wpOp P ops (lift n Q) k (λY O=>S (listed.setIfInBounds k true) O∧Ut P ops (lift n Q) S fuel (listed.setIfInBounds k true) Y O) a W:=by
  intro k q e hk g hw hd t h
  unfold wpOp
  simp only [hk]
  rw [aO (hw.of ha)]
  refine .inl ?_
  unfold Oper.wp
  rw [ha.eval]
  rcases h with ⟨v,W',h1,s⟩ | ⟨W',h1,s⟩ | ⟨f,args,h1,s⟩
  ·rw [h1,fE]; exact ⟨s.1,by rw [hd]; exact s.2 (z.set g) _ (ha.put t v)⟩
  ·rw [h1,ib]; exact ⟨s.1,by rw [hd]; exact s.2 (z.set g) _ (ha.put t _)⟩
  ·rw [h1,fF]
   refine dl s ?_
   rintro e O ⟨v,rfl,U⟩
   exact ⟨U.1,by simp only [hd]; exact U.2 (z.set g) _ (ha.put t v)⟩
 refine ⟨λh0=>(by rw [h0] at u; cases u),λk hk=>?_⟩
 rw [u] at hk
 rcases aW.1 hk with rfl | hk
 ·exact key _ o d hi (by rw [u]; simp) hw hd t h
 ·obtain rfl:=aV.1 hk
  exact key _ x y hj (by rw [u]; simp) M I J h'
theorem uk {l:Array Bool} {i j:Nat} {A:Prop} (a:Nat.beq i j=false) (h:(l.setIfInBounds i true).getD j true=false→A):l.getD j true=false→A:=λd=>h (by
 rw [kT true (λe=>by subst e; simp at a)]; exact d)
end
theorem Gh.at {α:Type} {e:TypeId} {enc:α→List Value} {k:Nat} {v:Value} {l:List α} {R:LO} (h:mg e enc k v l R) (hk:∀x,(enc x).length=k) {p:Value} {i:Nat} (hp:Gh R k p i) {x:α} (j:l[i]? =some x):At (Fa R) p (enc x):=by
 obtain ⟨d,a,cap,rfl,rfl,_,_,_,_,rfl,g⟩:=GS h hk hp j
 exact ⟨d,i*k,a,e,(0,0),Z,by simp [Fa],g⟩
theorem uR.form {κ β:Type} {kenc:κ→Value} {vf:β→Value} {μ:mO} {v:Value} {l:List (κ×β)} (h:uR kenc vf μ v l):∃r,v= .map r:=by
 rcases h with ⟨h,_⟩ | ⟨m,es,clock,h,_⟩
 ·exact ⟨_,h⟩
 ·exact ⟨_,h⟩
noncomputable def Nw {β:Type} (l:List (ByteArray×β)):Option (List ByteArray) :=
 if (l.map (·.1)).Nodup∧(∀p∈l,p.1.size≤maxLen)∧l.length*16≤140737488355328 then some (AK (l.map (·.1))) else none
end Go.Proofs.YtojmckcglalbnaaGreat
namespace Go.Proofs.YtojmckcglalbnaaGreat
open Go.RowKit
variable [M:Md]
section
variable {P:Program} {n:Nat} {Q:rc} {E:nn} {W:World} {ops:Array Oper} {rest:List Oper}
variable {dd:Bool} {α:Type} {enc:α→List Value} {k:Nat} {μ:mO} {v:Value}
variable {d:Option Nat} {ty:TypeId} {pos:String} {af:Array Edge} {g:tX} {F:Nat→Prop} {w:World} {L:LO}
def wo (enc:α→List Value) (k:Nat):tu (List α):=λμ ys x=>∃v,ys=[v]∧Sl (Pl enc) k μ v x
theorem wo.mono (enc:α→List Value) (k:Nat):NE (wo enc k):=λ_ _ _ _ d ⟨v,h1,a⟩=>⟨v,h1,a.mono (Pl.mono _) d⟩
inductive Hz (enc:α→List Value) (k:Nat) (μ:mO):List Value→List (List α)→Prop
 | nil:Hz enc k μ [] []
 | cons {v:Value} {x:List α} {vs:List Value} {l:List (List α)}:Sl (Pl enc) k μ v x→Hz enc k μ vs l→Hz enc k μ (v::vs) (x::l)
theorem Hz.length {vs:List Value} {l:List (List α)} (h:Hz enc k μ vs l):vs.length=l.length:=by
 induction h with
 | nil=>rfl
 | cons _ _ ih=>simp [ih]
theorem Hz.get {vs:List Value} {l:List (List α)} (h:Hz enc k μ vs l):∀(i:Nat) (x:List α),l[i]? =some x→∃v,vs[i]? =some v∧Sl (Pl enc) k μ v x:=by
 induction h with
 | nil=>intro i x a; simp at a
 | cons h1 _ ih=>
  intro i x a
  cases i with
  | zero=>simp at a; subst a; exact ⟨_,Z,h1⟩
  | succ i=>simpa using ih i x (by simpa using a)
theorem wo.lit {b m:Nat} {vs:List Value} {e:TypeId} {l:List (List α)} (hm:l.length=m) (g:m≤maxLen) (q:μ b=some (.cells vs.toArray e (0,0))) (h:Hz enc k μ vs l):Sl (wo enc k) 1 μ (.slice (some ⟨b,0,none⟩) m m) l:=by
 subst hm
 refine ⟨_,_,Z,aY _,g,λ_=>⟨b,0,_,_,_,Z,q,λi x s=>?_⟩⟩
 obtain ⟨v,h1,d⟩:=h.get i x s
 refine ⟨[v],Z,⟨v,Z,d⟩,λj y a=>?_⟩
 cases j with
 | zero=>simp at a; subst a; simpa using h1
 | succ j=>simp at a
theorem DT {k2:Nat} {t e:TypeId} {x a:Operand} {J:IntKind} {i:Int} {l:List (List α)} {x0:List α} (z:P.underlying t=some (.slice e)) (he:∀w,(sizeOf e).run P w= .ok 1 w) (I:lF E x=v) (s:lF E a= .int J i) (y:Sl (wo enc k2) 1 μ v l) (h:0≤i) (u:l[i.toNat]? =some x0) :
  ∃p,(∃v0,At μ p [v0]∧Sl (Pl enc) k2 μ v0 x0)∧∀W,nE P E ⟨d,.indexAddr t x a,ty,pos,af,g⟩ W p W:=by
 obtain ⟨p,ys,h1,⟨v0,rfl,j⟩,k,q⟩:=O5 (d:=d) (ty:=ty) (pos:=pos) (af:=af) (g:=g) z he I s y h u
 exact ⟨p,⟨v0,k,j⟩,q⟩
theorem Jx {x:Operand} {t e:TypeId} (a:P.underlying t=some (.slice e)) (h:lF E x= .slice none 0 0):nE P E ⟨d,.call ⟨.builtin .cap,#[x],#[t]⟩,ty,pos,af,g⟩ W (.int .i64 0) W:=by
 show (do let d ←resolve (lF E) ⟨.builtin .cap,#[x],#[t]⟩ ty; invoke d.target d.args:Sem Next).run P W=_
 simp [resolve,invoke,builtin,Builtin.cap_,aS a,h,goInt]
theorem abI {x y:Operand} {ats:Array TypeId} {k:IntKind} {a b:Int} (h:lF E x= .int k a) (i:lF E y= .int k b) :
  nE P E ⟨d,.call ⟨.builtin .max,#[x,y],ats⟩,ty,pos,af,g⟩ W (.int k (if b > a then b else a)) W:=by
 show (do let d ←resolve (lF E) ⟨.builtin .max,#[x,y],ats⟩ ty; invoke d.target d.args:Sem Next).run P W=_
 simp [resolve,invoke,h,i,builtin,Builtin.max_,Builtin.max2]
theorem Oj {t e:TypeId} {x ih:Operand} {j:IntKind} (h:P.underlying t=some (.slice e)) (he:∀w,(sizeOf e).run P w= .ok k w) (i:lF E x= .slice none 0 0) (a:lF E ih= .int j 0) :
  nE P E ⟨d,.slice t x none (some ih) none,ty,pos,af,g⟩ W (.slice none 0 0) W:=by
 show (do pure (.value (←Instr.sliceAt t (lF E x) none (some (lF E ih)) none)):Sem Next).run P W=_
 rw [i,a]
 simp [Instr.sliceAt,Instr.slice,Instr.sliceBounds,Instr.sliceBound,asIntOf,aS h,he W]
theorem Xo {t:TypeId} {x:Operand} {f:Nat} {fs:Array Field} {fd:Field} {cs:Array Value} (j:P.underlying t=some (.struct fs)) (i:fs[f]? =some fd) (h:∀w,(isAgg fd.type).run P w= .ok false w) (k:lF E x= .agg cs) (a:cs.toList[fd.offset]? =some v) :
  nE P E ⟨d,.field t x f,ty,pos,af,g⟩ W v W:=by
 show (do pure (.value (←Instr.field t (lF E x) f)):Sem Next).run P W=_
 rw [k]
 rw [dU] at a
 simp [Instr.field,aS j,i,part,asAgg,h W,a]
def JP {α:Type} (a:Nat) (z:α) (n:Int):Option (List α):=if 0 < n∧n*a≤140737488355328∧n≤(maxLen:Int) then some (List.replicate n.toNat z) else none
theorem No (t ti ty e:TypeId) (i:TypeInfo) (z:Value) (J:P.underlying t=some (.slice e)) (q:P.underlying ti=some (.int .i64)) (v:P.info? e=some i) (M:i.zero=some z) (n:Nat) (s:0 < n) (I:0 < i.size) (u:n≤9223372036854775807) (g:n*i.bytes≤140737488355328) (W:World) :
  (Builtin.append_ #[t,ti] ty #[.slice none 0 0,.int .i64 (n:Int)]).run P W =
   .ok (.slice (some ⟨W.heap.size,0,none⟩) n (grownCap W n 0 e)) (W.drew.alloc (.cells (Builtin.zeroCells z.cells n++Builtin.zeroCells z.cells (grownCap W n 0 e-n)) e)):=by
 have hw:IntKind.i64.wrap (n:Int)=(n:Int):=by unfold IntKind.wrap; simp [IntKind.bits,IntKind.signed]; omega
 have h1:¬((n:Int) < 0):=by omega
 have a:¬(281474976710656 < (n:Int)*i.bytes):=by
  have:=Int.ofNat_le.2 g
  rw [Int.natCast_mul] at this
  omega
 have j:¬(n*i.size=0):=λh=>by rcases Nat.mul_eq_zero.1 h with h | h <;> omega
 have x:n≠0:=by omega
 have y:i.size≠0:=by omega
 have d:¬(9223372036854775807 < (n:Int)):=by omega
 have k:¬(281474976710656 < Builtin.nextslicecap n 0*i.bytes):=by rw [nextslicecap_zero s]; omega
 simp [Builtin.append_,aS J,aS q,sizeOf,typeInfo,zeroValue,v,M,asInt,asIntOf,hw,h1,a,x,d,k,Question.forced,run_firstCells_none,newRow,grownCap]
 exact λh=>absurd h j
theorem Q4 {K:Value→World→Prop} {α:Type} {e t ti:TypeId} {enc:α→List Value} {k u:Nat} {j:Value} {n:Int} {z:α} {r:List α} (X:LO) {Y:LO} {x y:Operand} {i:TypeInfo} (q:ST dd F w W μ (X++Y)) (hk:∀x,(enc x).length=k) (aa:0 < k) (ht:P.underlying t=some (.slice e)) (ae:P.underlying ti=some (.int .i64)) (hi:P.info? e=some i) (hz:i.zero=some j) (ad:i.size=k) (a1:i.bytes=u) (hc:j.cells=(enc z).toArray) (hx:lF E x= .slice none 0 0) (hy:lF E y= .int .i64 n) (a:JP u z n=some r) (h:∀W' v' R',ST dd F w W' μ (X++(R'++Y))→mg e enc k v' r R'→K v' W'):py P E ⟨d,.call ⟨.builtin .append,#[x,y],#[t,ti]⟩,ty,pos,af,g⟩ W K:=by
 unfold JP at a
 split at a
 case isFalse=>cases a
 rename_i U
 cases a
 obtain ⟨n,rfl⟩:∃m:Nat,n=(m:Int):=⟨n.toNat,rs⟩
 have ab:0 < n:=by omega
 subst ad; subst a1
 have hM:n≤maxLen:=by omega
 have Q:n≤9223372036854775807:=by simp only [maxLen] at hM; omega
 have O:n*i.bytes≤140737488355328:=Int.ofNat_le.1 (by rw [Int.natCast_mul]; exact U.2.1)
 have hr:=No (P:=P) t ti ty e i j ht ae hi hz n ab aa Q O W
 have I:(execOp (lF E) ⟨d,.call ⟨.builtin .append,#[x,y],#[t,ti]⟩,ty,pos,af,g⟩).run P W= .ok (.value (.slice (some ⟨W.heap.size,0,none⟩) n (grownCap W n 0 e))) (W.drew.alloc (.cells (Builtin.zeroCells j.cells n++Builtin.zeroCells j.cells (grownCap W n 0 e-n)) e)):=by
  show (do let d ←resolve (lF E) ⟨.builtin .append,#[x,y],#[t,ti]⟩ ty; invoke d.target d.args:Sem Next).run P W=_
  simp [resolve,invoke,builtin,hx,hy,hr]
 have a7:=sN _ _ _ _ hr
 refine .inl ⟨_,_,I,?_⟩
 have a8:=grownCap_ge W n 0 e
 have a6:grownCap W n 0 e≤maxLen:=jq W n 0 e hM
 have ag:∀m,(Builtin.zeroCells j.cells m).toList=(List.replicate m (enc z)).flatten:=λm=>by rw [hc,ID]
 have J:j.cells.size=i.size:=by rw [hc,dG,hk]
 have s:mg e enc i.size (.slice (some ⟨W.heap.size,0,none⟩) n (grownCap W n 0 e)) (List.replicate n z) [(W.heap.size,.cells (Builtin.zeroCells j.cells n++Builtin.zeroCells j.cells (grownCap W n 0 e-n)) e (0,0))]:=by
  refine .inr ⟨W.heap.size,grownCap W n 0 e,_,by rw [iA],Z,by simpa using a8,a6,?_,?_⟩
  ·simp only [Array.size_append,size_zeroCells,J,←cZ]
   congr 1
   omega
  ·have M:(Builtin.zeroCells j.cells n).toList.length=n*i.size:=by rw [dF,size_zeroCells,J]
   rw [iA,Array.toList_append,←M,List.take_left,ag,jt]
 refine h _ _ _ ?_ s
 have hex:Ex dd W (W.drew.alloc (.cells (Builtin.zeroCells j.cells n++Builtin.zeroCells j.cells (grownCap W n 0 e-n)) e)):=⟨Z,Z,Z,yU.of a7,rv,λb a=>heap_alloc_old W.drew _ a⟩
 have h1:=q.NN hex
 have v:=h1.nd
 refine ⟨h1.os,h1.tape,h1.output,h1.drawn,h1.size,h1.oJ,h1.mem,λb o a=>?_,?_⟩
 ·simp only [bE,aV] at a
  rcases a with a | a | a
  ·exact h1.box b o (by simp [a])
  ·cases a
   refine ⟨heap_alloc_new W.drew _,?_,.inl q.size⟩
   cases hm:μ W.heap.size with
   | none=>rfl
   | some x=>have:=q.Jf hm; omega
  ·exact h1.box b o (by simp [a])
 ·simp only [cL,bQ,ga,eV] at v ⊢
  refine (gO ft).2 (dR.2 ⟨λhm=>?_,v⟩)
  rw [←cL] at hm
  obtain ⟨⟨b,o⟩,a,M⟩:=bT.1 hm
  have:=q.Kj a
  simp at M
  omega
end
end Go.Proofs.YtojmckcglalbnaaGreat
namespace Go.Proofs.YtojmckcglalbnaaGreat
open Go.RowKit
theorem Yb {p:Prop} [Decidable p] {u:Unit} (h:rj (decide p)=some u):p:=eO (MJ h)
variable {dd:Bool}
section
variable {κ α:Type} {beq:κ→κ→Bool} {kenc:κ→Value} {t:TypeId} {enc:α→List Value}
variable {P:Program} {W:World} {kt:TypeId} {E:nn} {d:Option Nat} {ty:TypeId} {pos:String} {af:Array Edge} {g:tX} {F:Nat→Prop} {w:World} {μ:mO} {L:LO}
theorem S0 {γ g:Type} {l:List (κ×γ)} {m:List (κ×g)} {k:κ} (h:l.findIdx? (λp=>beq k p.1)=m.findIdx? λp=>beq k p.1):(nv beq l k).isSome=(nv beq m k).isSome:=by
 rw [Ad,Ad,h]
 cases a:m.findIdx? (λp=>beq k p.1) with
 | none=>rfl
 | some i=>
  obtain ⟨p,hp,_⟩:=vC a
  rw [a] at h
  obtain ⟨q,d,_⟩:=vC h
  simp [hp,d]
theorem IB {γ:Type} {Q:Value→γ→LO→Prop} {t e:TypeId} {m x:Operand} {mv z:Value} {i:List (κ×Value)} {l:List (κ×γ)} {R:LO} {k:κ} (K:sD P kt kenc beq) (v:P.underlying t=some (.map kt e)) (I:∀w,(zeroValue e).run P w= .ok z w) (hm:lF E m=mv) (y:lF E x=kenc k) (s:oS kenc Q mv i l R) (u:∀b o,(b,o)∈R→W.heap[b]? =some o):nE P E ⟨d,.lookup t m x true,ty,pos,af,g⟩ W (.tuple #[uN beq i k z,.bool (nv beq l k).isSome]) W:=by
 obtain ⟨J,M,rfl,j,q⟩:=s
 have a:=UD (d:=d) (ty:=ty) (pos:=pos) (af:=af) (g:=g) K v I hm y (j.at (μ:=hp W) λb o h=>u b o (bY _ h))
 rw [S0 (q.find k)] at a
 exact a
end
section
variable {P:Program} {fn:Func} {R:Ending→World→Prop} {E:nn} {W:World}
theorem rf {a:Tmp} {t0:TypeId} {a0:Addr} {v0:Value} {d:Tmp} {v1:Value} (i:fn.results=#[.cell a t0,.tmp d]) (g:E a= .pointer (some a0)) (k:(Instr.loadAt t0 (.pointer (some a0))).run P W= .ok v0 W) (h1:E d=v1) (h:R (.returned (.tuple #[v0,v1])) W):A2 P fn R .ret E W :=
 ⟨.tuple #[v0,v1],λtmps j=>by
  have q0:(loadVar t0 a0).run P W= .ok v0 W:=by simpa [Instr.loadAt,Instr.sureAddr] using k
  simp [results,i,j,asAddr,g,q0,h1],h⟩
theorem Jr {d:Tmp} {v0:Value} {g:Tmp} {t1:TypeId} {a:Addr} {v1:Value} {i:Tmp} {v2:Value} (q:fn.results=#[.tmp d,.cell g t1,.tmp i]) (j:E d=v0) (h1:E g= .pointer (some a)) (t:(Instr.loadAt t1 (.pointer (some a))).run P W= .ok v1 W) (k:E i=v2) (h:R (.returned (.tuple #[v0,v1,v2])) W):A2 P fn R .ret E W :=
 ⟨.tuple #[v0,v1,v2],λtmps s=>by
  have q1:(loadVar t1 a).run P W= .ok v1 W:=by simpa [Instr.loadAt,Instr.sureAddr] using t
  simp [results,q,s,asAddr,j,h1,q1,k],h⟩
end
end Go.Proofs.YtojmckcglalbnaaGreat
namespace Go.Proofs.YtojmckcglalbnaaGreat
open Go.RowKit
variable [M:Md]
section
variable {x y:Nat×Obj} {A B C L R S:LO}
theorem Pz:(x::A).Perm (x::A):=.refl _
theorem Pb (h:A.Perm (x::B)):(y::A).Perm (x::y::B):=(h.cons y).trans (.swap ..)
theorem Pr (h:A.Perm (x::B)):(S++A).Perm (x::(S++B)):=(h.append_left S).trans ft
theorem Qz:(R++A).Perm (R++A):=.refl _
theorem Qb (h:A.Perm (R++B)):(y::A).Perm (R++(y::B)):=(h.cons y).trans List.perm_middle.symm
theorem Qr (h:A.Perm (R++B)):(S++A).Perm (R++(S++B)):=(h.append_left S).trans (jd S R B)
def mJ (L L':LO):Prop:=∃M,L.Perm (L'++M)
theorem Sn:mJ L []:=⟨L,.refl _⟩
theorem St:mJ L L:=⟨[],by rw [cN]⟩
theorem Sb (h:L.Perm (x::A)) (k:mJ A B):mJ L (x::B):=let ⟨M,m⟩:=k; ⟨M,h.trans (m.cons x)⟩
theorem Sr (h:L.Perm (R++A)) (k:mJ A B):mJ L (R++B):=let ⟨M,m⟩:=k; ⟨M,by rw [aP]; exact h.trans (m.append_left R)⟩
theorem Kb (k:mJ A B):mJ (x::A) (x::B):=Sb Pz k
theorem Kr (k:mJ A B):mJ (R++A) (R++B):=Sr Qz k
theorem Db (k:mJ A B):mJ (x::A) B:=let ⟨M,m⟩:=k; ⟨x::M,(m.cons x).trans List.perm_middle.symm⟩
theorem Dr (k:mJ A B):mJ (R++A) B:=let ⟨M,m⟩:=k; ⟨R++M,(m.append_left R).trans (jd R B M)⟩
theorem mJ.mem (s:mJ L A):∀p,p∈A→p∈L:=λp hp=>let ⟨M,m⟩:=s; m.mem_iff.2 (bY _ hp)
theorem ST.ll {dd:Bool} {F:Nat→Prop} {w W:World} {μ:mO} (h:ST dd F w W μ L) (s:mJ L A:=by exact St):ST dd F w W μ A:=let ⟨M,m⟩:=s; (h.perm m).sublist (List.sublist_append_left A M)
theorem oR.ll {μ:mO} {W:World} (h:oR μ L W) (s:mJ L A):oR μ A W:=h.sub (lM.refl _) s.mem
theorem oR.nx {μ μ':mO} {W:World} (h:oR μ L W) (a:lM μ' μ) (s:mJ L A):oR μ' A W:=h.sub a s.mem
theorem Cn:L.Perm ([]++L):=.refl _
theorem Cb (h:L.Perm (x::A)) (k:A.Perm (B++C)):L.Perm ((x::B)++C):=h.trans (k.cons x)
theorem Cr (h:L.Perm (R++A)) (k:A.Perm (B++C)):L.Perm ((R++B)++C):=by rw [aP]; exact h.trans (k.append_left R)
theorem C0 (k:L.Perm (B++C)):L.Perm (([]++B)++C):=k
theorem Cs (h:L.Perm (x::A)) (k:A.Perm (B++C)):L.Perm (([x]++B)++C):=Cb h k
theorem Tn:([]++A).Perm A:=.refl _
theorem Tb (h:(A++B).Perm C):((x::A)++B).Perm (x::C):=h.cons x
theorem Tr (h:(A++B).Perm C):((R++A)++B).Perm (R++C):=by rw [aP]; exact h.append_left R
theorem Nb (h:L.Perm (x::A)) (k:A.Perm B):L.Perm (x::B):=h.trans (k.cons x)
theorem Nr (h:L.Perm (R++A)) (k:A.Perm B):L.Perm (R++B):=h.trans (k.append_left R)
theorem Nz:L.Perm L:=.refl _
theorem Opn {R' R1:LO} (hp:R.Perm (R'++R1)):(R++A).Perm (R'++(R1++A)):=by rw [←aP]; exact hp.append_right A
theorem Mh:x∈x::A:=.head _
theorem Mt (h:x∈A):x∈y::A:=.tail _ h
theorem Ma (h:x∈A):x∈R++A:=dr _ h
theorem Ml (h:x∈R):x∈R++A:=bY _ h
end
section
variable {dd:Bool} {F:Nat→Prop} {w W:World} {μ:mO} {L L0 L1 Y R:LO}
theorem ST.WU (h:ST dd nf w W μ L) (s:mJ L L1):wP dd [] L1 w W:=let ⟨_,m⟩:=s; (h.perm m).acp
theorem ST.mB (h:ST dd (keys L0) w W μ L) (s:mJ L L1):wP dd L0 L1 w W:=let ⟨_,m⟩:=s; (h.perm m).acz
theorem ST.zH:∀{R:LO} {μ:mO},ST dd F w W μ (R++Y)→∃μ',ST dd F w W μ' Y∧lM μ μ'∧Lo F w μ μ'∧∀b o,(b,o)∈R→μ' b=some o
 | [],μ,h=>⟨μ,h,lM.refl _,Lo.refl,λ_ _ h=>by cases h⟩
 | (g,o)::R,μ,h=>by
  have d:ST dd F w W μ ([]++(g,o)::(R++Y)):=h
  obtain ⟨μ',i,a2,a3,a4⟩:=ST.zH (R:=R) (ST.LH (A:=[]) d)
  refine ⟨μ',i,(ST.Ln (A:=[]) d).trans a2,(ST.Sg (A:=[]) d).trans a3,λb j a=>?_⟩
  rcases aW.1 a with a | a
  ·cases a; exact a2 _ _ (aO Z)
  ·exact a4 b j a
theorem ST.xM {α:Type} {e':TypeId} {enc:α→List Value} {k:Nat} {v:Value} {l:List α} (a:ST dd F w W μ (R++Y)) (h:mg e' enc k v l R) (hk:∀x,(enc x).length=k):∃μ',ST dd F w W μ' Y∧lM μ μ'∧Lo F w μ μ'∧Sl (Pl enc) k μ' v l:=by
 obtain ⟨μ',d,a2,a3,a4⟩:=ST.zH a
 exact ⟨μ',d,a2,a3,h.sl hk a4⟩
section
variable {P:Program} {n:Nat} {Q:rc} {E:nn} {V:World} {id:Nat} {l:List Oper} {A B C:LO}
theorem mF (a:oR μ A V.drew) (hm:P.follows .mixedOrders=true) (h:PX P n l.toArray Q (λ_ W=>oR μ A W) l.length (Array.replicate l.length false) E V.drew) (hd:Ri l=true:=by kernel_rfl):CW P n (.region id l.toArray true) Q E V:=M2 _ hm h hd
theorem rW (i:Nat) (a:oR μ A V.drew) (h1:oR μ B V.drew) (hm:P.follows .mixedOrders=true) (h:PX P n l.toArray Q (λl W=>oR μ A W∧(l.getD i true=false→oR μ B W)) l.length (Array.replicate l.length false) E V.drew) (hd:Ri l=true:=by kernel_rfl):CW P n (.region id l.toArray true) Q E V:=M2 _ hm h hd
theorem Wy {D:LO} (i j k:Nat) (a:oR μ A V.drew) (h1:oR μ B V.drew) (d:oR μ C V.drew) (g:oR μ D V.drew) (hm:P.follows .mixedOrders=true) (h:PX P n l.toArray Q (λl W=>oR μ A W∧(l.getD i true=false→oR μ B W)∧(l.getD j true=false→oR μ C W)∧(l.getD k true=false→oR μ D W)) l.length (Array.replicate l.length false) E V.drew) (hd:Ri l=true:=by kernel_rfl):CW P n (.region id l.toArray true) Q E V:=M2 _ hm h hd
end
structure oa (μ:mO) (L0:LO) (w:World):Prop where
 H:JB L0 w
 N:(L0.map (·.1)).Nodup
 S:lM μ (wZ w L0)
theorem ST.zZ (h:oa μ L0 w):ST dd (keys L0) w w μ L0:=(ST.abz h.H h.N).mN h.S
end
section
variable {dd:Bool} {P:Program} {E:nn} {W:World} {d:Option Nat} {ty:TypeId} {pos:String} {af:Array Edge} {g:tX} {F:Nat→Prop} {w:World} {μ:mO} {L:LO}
theorem lZ {K:Value→World→Prop} {B:LO} {t:TypeId} {x y:Operand} (v:Value) {b off:Nat} {cs:Array Value} {T:TypeId} (cs':Array Value) (a:ST dd F w W μ ((b,.cells cs T (0,0))::B)) (q:lF E x= .pointer (some ⟨b,off,none⟩)) (s:lF E y=v) (i:∀w,(sizeOf t).run P w= .ok v.cells.size w) (h1:∀u∈v.cells.toList,u.oneCell'=true) (k:off+v.cells.size≤cs.size) (j:(cs.toList.take off++v.cells.toList++cs.toList.drop (off+v.cells.size)).toArray=cs') (h:∀W',ST dd F w W' μ ((b,.cells cs' T (0,0))::B)→K undef W'):py P E ⟨d,.store t x y,ty,pos,af,g⟩ W K:=GK [] v cs' a q s i h1 k j h
end
section
variable {dd:Bool}
variable {P:Program} {n:Nat} {Q:rc} {E:nn} {W:World} {ops:Array Oper} {rest:List Oper}
 {d:Option Nat} {ty:TypeId} {pos:String} {af:Array Edge} {g:tX}
 {F:Nat→Prop} {w:World} {μ:mO} {L:LO}
theorem oU {K:Value→World→Prop} {α:Type} {e t:TypeId} {enc:α→List Value} {k a:Nat} {z v vs:Value} {l m r:List α} {R Y:LO} {x y:Operand} {i:TypeInfo} (j:ST dd F w W μ (R++Y)) (hk:∀x,(enc x).length=k) (s:0 < k) (h1:∀x,∀u∈enc x,u.oneCell'=true) (ht:P.underlying t=some (.slice e)) (U:P.info? e=some i) (hz:i.zero=some z) (J:z.cells.size=k) (I:i.size=k) (q:i.bytes=a) (hx:lF E x=v) (hy:lF E y=vs) (O:mg e enc k v l R) (hs:Sl (Pl enc) k (hp W) vs m) (Q:oY a l m=some r) (h:∀W' M R',ST dd F w W' μ (R'++Y)→mg e enc k M r R'→K M W'):py P E ⟨d,.call ⟨.builtin .append,#[x,y],#[t,t]⟩,ty,pos,af,g⟩ W K :=
 Ro [] j hk s h1 ht U hz J I q hx hy O hs Q h
end
section
variable {dd:Bool}
variable {P:Program} {E:nn} {W:World} {d:Option Nat} {ty:TypeId} {pos:String} {af:Array Edge} {g:tX}
 {F:Nat→Prop} {w:World} {μ:mO} {L:LO}
theorem Np {K:Value→World→Prop} {α:Type} {e:TypeId} {enc:α→List Value} {k:Nat} {l:List α} {f:FuncId} {fv:Operand} {ax:Array Operand} {ats:Array TypeId} {caps:Array Value} {args:List Value} (Y:LO) (a:ST dd F w W μ Y) (j:lF E fv= .func (.func f) #[] caps) (he:∀args w,(callFunc f args).run P w= .ok (.enter f args) w) (ha:ax.map (lF E)++caps=args.toArray) (i:na dd P f args W e enc k l) (h:∀W' v μ' R,ST dd F w W' μ' (R++Y)→lM μ μ'→Lo F w μ μ'→mg e enc k v l R→K v W'):py P E ⟨d,.call ⟨.value fv,ax,ats⟩,ty,pos,af,g⟩ W K :=
 UP [] Y a j he ha i h
end
section
variable {dd:Bool}
variable {P:Program} {E:nn} {W:World} {d:Option Nat} {ty:TypeId} {pos:String} {af:Array Edge} {g:tX}
 {F:Nat→Prop} {w:World} {μ:mO} {L:LO} {α:Type} {e':TypeId} {enc:α→List Value} {k:Nat} {v:Value} {l:List α} {R:LO}
theorem zF {K:Value→World→Prop} {Y:LO} {t:TypeId} {x y:Operand} {p u:Value} {i:Nat} {x0 x1:α} (a:ST dd F w W μ (R++Y)) (h:mg e' enc k v l R) (hk:∀x,(enc x).length=k) (h1:∀x,∀u∈enc x,u.oneCell'=true) (z:lF E x=p) (I:lF E y=u) (hu:u.cells=(enc x1).toArray) (hp:Gh R k p i) (s:l[i]? =some x0) (q:∀w,(sizeOf t).run P w= .ok k w) (j:∀W' R',ST dd F w W' μ (R'++Y)→mg e' enc k v (l.set i x1) R'→K undef W'):py P E ⟨d,.store t x y,ty,pos,af,g⟩ W K :=
 UU [] a h hk h1 z I hu hp s q j
end
section
variable {dd:Bool}
variable {P:Program} {W:World} {κ:Type} {kt:TypeId} {kenc:κ→Value} {beq:κ→κ→Bool}
variable {β:Type} {vf:β→Value} {E:nn} {d:Option Nat} {ty:TypeId} {pos:String} {af:Array Edge} {g:tX} {F:Nat→Prop} {w:World} {μ:mO} {L:LO}
theorem Fm {i:Value→World→Prop} {Y R:LO} {t e:TypeId} {m x y:Operand} {mv:Value} {l:List (κ×β)} {k:κ} {v:β} (K:sD P kt kenc beq) (q:P.underlying t=some (.map kt e)) (a:ST dd F w W μ (R++Y)) (h:ng kenc vf mv l R) (hm:lF E m=mv) (s:lF E x=kenc k) (u:lF E y=vf v) (j:∀W' R',ST dd F w W' μ (R'++Y)→ng kenc vf mv (pO beq l k v) R'→i undef W'):py P E ⟨d,.mapUpdate t m x y,ty,pos,af,g⟩ W i :=
 Fq [] K q a h hm s u j
end
section
variable {dd:Bool}
variable {P:Program} {E:nn} {W:World} {d:Option Nat} {ty:TypeId} {pos:String} {af:Array Edge} {g:tX}
 {F:Nat→Prop} {w:World} {μ:mO} {L:LO} {α:Type} {e':TypeId} {enc:α→List Value} {k:Nat} {v:Value} {l:List α} {R:LO}
theorem DA {K:Value→World→Prop} (z:α) {Y:LO} {t e:TypeId} {x:Operand} {u j:Value} {i:Nat} (a:ST dd F w W μ (R++Y)) (h:mg e' enc k v l R) (hk:∀x,(enc x).length=k) (h1:∀x,∀u∈enc x,u.oneCell'=true) (y:P.underlying t=some (.slice e)) (J:∀w,(zeroValue e).run P w= .ok j w) (hu:GB k v i u) (s:j.cells=(enc z).toArray) (I:lF E x=u) (q:∀W' R',ST dd F w W' μ (R'++Y)→mg e' enc k v (rr l i z) R'→K (.tuple #[]) W'):py P E ⟨d,.call ⟨.builtin .clear,#[x],#[t]⟩,ty,pos,af,g⟩ W K :=
 Tf z [] a h hk h1 y J hu s I q
end
section
variable {dd:Bool}
variable {κ γ:Type} {Q:Value→γ→LO→Prop} {beq:κ→κ→Bool} {kenc:κ→Value}
variable {P:Program} {W:World} {kt:TypeId} {E:nn} {d:Option Nat} {ty:TypeId} {pos:String} {af:Array Edge} {g:tX} {F:Nat→Prop} {w:World} {μ:mO} {L:LO}
variable {κ2 β:Type} {kenc2:κ2→Value} {vf:β→Value} {beq2:κ2→κ2→Bool} {kt2:TypeId}
theorem VL {j:Value→World→Prop} {Y R:LO} {t e:TypeId} {m x y:Operand} {mv:Value} {i:List (κ×Value)} {l q:List (κ×List (κ2×β))} {k:κ} {k2:κ2} {v:β} (hk:∀{x y:κ},beq x y=true→x=y) (K:sD P kt2 kenc2 beq2) (z:P.underlying t=some (.map kt2 e)) (a:ST dd F w W μ (R++Y)) (h:oS kenc (ng kenc2 vf) mv i l R) (hm:lF E m=uN beq i k (.map none)) (I:lF E x=kenc2 k2) (J:lF E y=vf v) (u:MU beq beq2 l k k2 v=some q) (s:∀W' R',ST dd F w W' μ (R'++Y)→oS kenc (ng kenc2 vf) mv i q R'→j undef W'):py P E ⟨d,.mapUpdate t m x y,ty,pos,af,g⟩ W j :=
 XS [] hk K z a h hm I J u s
end
section
variable {dd:Bool}
variable {κ γ:Type} {Q:Value→γ→LO→Prop} {beq:κ→κ→Bool} {kenc:κ→Value}
variable {P:Program} {W:World} {kt:TypeId} {E:nn} {d:Option Nat} {ty:TypeId} {pos:String} {af:Array Edge} {g:tX} {F:Nat→Prop} {w:World} {μ:mO} {L:LO}
variable {κ2 β:Type} {kenc2:κ2→Value} {vf:β→Value} {beq2:κ2→κ2→Bool} {kt2:TypeId}
theorem Qe {i:Value→World→Prop} {Y R R2:LO} {t e:TypeId} {m x y:Operand} {mv:Value} {q:List (κ×Value)} {l j:List (κ×γ)} {k:κ} {u:Value} {z:γ} (K:sD P kt kenc beq) (J:P.underlying t=some (.map kt e)) (a:ST dd F w W μ (R++(R2++Y))) (h:oS kenc Q mv q l R) (hm:lF E m=mv) (M:lF E x=kenc k) (O:lF E y=u) (I:Q u z R2) (v:JT beq l k z=some j) (s:∀W' R',ST dd F w W' μ (R'++Y)→oS kenc Q mv (pO beq q k u) j R'→i undef W'):py P E ⟨d,.mapUpdate t m x y,ty,pos,af,g⟩ W i :=
 V4 [] K J a h hm M O I v s
end
section
variable {dd:Bool}
variable {κ γ:Type} {Q:Value→γ→LO→Prop} {beq:κ→κ→Bool} {kenc:κ→Value}
variable {P:Program} {W:World} {kt:TypeId} {E:nn} {d:Option Nat} {ty:TypeId} {pos:String} {af:Array Edge} {g:tX} {F:Nat→Prop} {w:World} {μ:mO} {L:LO}
theorem aaS {i:Value→World→Prop} {Y R R1:LO} {t e:TypeId} {m x y:Operand} {mv:Value} {j:List (κ×Value)} {l:List (κ×γ)} {k:κ} {u:Value} {z:γ} (K:sD P kt kenc beq) (v:P.underlying t=some (.map kt e)) (a:ST dd F w W μ (R++(R1++Y))) (h:Vw beq kenc Q mv j l k R) (hm:lF E m=mv) (I:lF E x=kenc k) (J:lF E y=u) (s:Q u z R1) (q:∀W' R',ST dd F w W' μ (R'++Y)→oS kenc Q mv (pO beq j k u) (pO beq l k z) R'→i undef W'):py P E ⟨d,.mapUpdate t m x y,ty,pos,af,g⟩ W i :=
 abL [] K v a h hm I J s q
end
section
variable {dd:Bool}
variable {κ γ:Type} {Q:Value→γ→LO→Prop} {beq:κ→κ→Bool} {kenc:κ→Value}
variable {P:Program} {W:World} {kt:TypeId} {E:nn} {d:Option Nat} {ty:TypeId} {pos:String} {af:Array Edge} {g:tX} {F:Nat→Prop} {w:World} {μ:mO} {L:LO}
theorem UZ {j:Value→World→Prop} {Y R:LO} {t e:TypeId} {m x:Operand} {mv z:Value} {x0:γ} {J:List (κ×Value)} {l:List (κ×γ)} {k:κ} (hk:∀{x y:κ},beq x y=true↔x=y) (K:sD P kt kenc beq) (s:P.underlying t=some (.map kt e)) (I:∀w,(zeroValue e).run P w= .ok z w) (i:Q z x0 []) (a:ST dd F w W μ (R++Y)) (h:oS kenc Q mv J l R) (hm:lF E m=mv) (u:lF E x=kenc k) (q:∀W' v st R' R1,ST dd F w W' μ (R'++(R1++Y))→Q v ((nv beq l k).getD x0) R1→QK beq kenc Q mv l k st R'→j (.tuple #[v,.int .i64 (st:Nat)]) W'):py P E ⟨d,.mapEntry t m x,ty,pos,af,g⟩ W j :=
 Vc [] hk K s I i a h hm u q
end
section
variable {dd:Bool}
variable {κ γ:Type} {Q:Value→γ→LO→Prop} {beq:κ→κ→Bool} {kenc:κ→Value}
variable {P:Program} {W:World} {kt:TypeId} {E:nn} {d:Option Nat} {ty:TypeId} {pos:String} {af:Array Edge} {g:tX} {F:Nat→Prop} {w:World} {μ:mO} {L:LO}
theorem Sv {j:Value→World→Prop} {Y R R1:LO} {t e:TypeId} {m s y:Operand} {mv u:Value} {z:γ} {l:List (κ×γ)} {k:κ} {st:Nat} (hk:∀{x y:κ},beq x y=true↔x=y) (K:sD P kt kenc beq) (a:ST dd F w W μ (R++(R1++Y))) (h:QK beq kenc Q mv l k st R) (hm:lF E m=mv) (I:lF E s= .int .i64 (st:Nat)) (J:lF E y=u) (v:Q u z R1) (q:∀W' i R',ST dd F w W' μ (R'++Y)→oS kenc Q mv i (pO beq l k z) R'→j undef W'):py P E ⟨d,.entryStore t m s y,ty,pos,af,g⟩ W j :=
 Sx (e:=e) [] hk K a h hm I J v q
end
section
variable {dd:Bool}
variable {α:Type} {e:TypeId} {enc:α→List Value} {k:Nat} {v:Value} {l:List α} {R:LO}
variable {P:Program} {W:World} {E:nn} {d:Option Nat} {ty:TypeId} {pos:String} {af:Array Edge} {g:tX} {F:Nat→Prop} {w:World} {μ:mO} {L:LO}
theorem Td {K:Value→World→Prop} {t:TypeId} {a:Nat} {z vs:Value} {m r:List α} {Y:LO} {x y:Operand} {i:TypeInfo} (j:ST dd F w W μ (R++Y)) (hk:∀x,(enc x).length=k) (s:0 < k) (h1:∀x,∀u∈enc x,u.oneCell'=true) (ht:P.underlying t=some (.slice e)) (U:P.info? e=some i) (hz:i.zero=some z) (J:z.cells.size=k) (I:i.size=k) (q:i.bytes=a) (hx:lF E x=v) (hy:lF E y=vs) (O:uW e enc k v l R) (hs:Sl (Pl enc) k (hp W) vs m) (Q:oY a l m=some r) (h:∀W' M R',ST dd F w W' μ (R'++Y)→uW e enc k M r R'→K M W'):py P E ⟨d,.call ⟨.builtin .append,#[x,y],#[t,t]⟩,ty,pos,af,g⟩ W K :=
 Tc [] j hk s h1 ht U hz J I q hx hy O hs Q h
end
section
variable {P:Program} {n:Nat} {Q:rc} {E:nn} {W:World} {ops:Array Oper} {rest:List Oper}
variable {dd:Bool} {α:Type} {enc:α→List Value} {k:Nat} {μ:mO} {v:Value}
variable {d:Option Nat} {ty:TypeId} {pos:String} {af:Array Edge} {g:tX} {F:Nat→Prop} {w:World} {L:LO}
theorem Ku {K:Value→World→Prop} {α:Type} {e t ti:TypeId} {enc:α→List Value} {k a:Nat} {J:Value} {n:Int} {z:α} {r:List α} {Y:LO} {x y:Operand} {i:TypeInfo} (j:ST dd F w W μ Y) (hk:∀x,(enc x).length=k) (s:0 < k) (U:P.underlying t=some (.slice e)) (v:P.underlying ti=some (.int .i64)) (Q:P.info? e=some i) (hz:i.zero=some J) (u:i.size=k) (q:i.bytes=a) (O:J.cells=(enc z).toArray) (hx:lF E x= .slice none 0 0) (hy:lF E y= .int .i64 n) (M:JP a z n=some r) (h:∀W' I R',ST dd F w W' μ (R'++Y)→mg e enc k I r R'→K I W'):py P E ⟨d,.call ⟨.builtin .append,#[x,y],#[t,ti]⟩,ty,pos,af,g⟩ W K :=
 Q4 [] j hk s U v Q hz u q O hx hy M h
end
end Go.Proofs.YtojmckcglalbnaaGreat
namespace Go.Proofs.YtojmckcglalbnaaGreat
open Go.RowKit
variable [M:Md]
section
variable {P:Program} {n:Nat} {Q:rc} {E:nn} {W:World} {ops:Array Oper} {rest:List Oper}
variable {d j t:Nat} {want:Bool} {v:Value} {ins:Go.Op} {ty:TypeId} {pos:String} {af:Array Edge} {A:Value→Prop}
theorem V (g:nE P E ⟨some d,ins,ty,pos,af,none⟩ W v W) (h:LW P n ops Q rest (oT E d v) W) (a:d < n:=by decide):LW P n ops Q (⟨some d,ins,ty,pos,af,none⟩::rest) E W:=OR (.inl Z) Z a g h
theorem VE (h:py P E ⟨some d,ins,ty,pos,af,none⟩ W λv W'=>LW P n ops Q rest (oT E d v) W') (a:d < n:=by decide):LW P n ops Q (⟨some d,ins,ty,pos,af,none⟩::rest) E W:=aaZ (.inl Z) Z a h
theorem VO (h:py P E ⟨none,ins,ty,pos,af,none⟩ W λ_ W'=>LW P n ops Q rest E W'):LW P n ops Q (⟨none,ins,ty,pos,af,none⟩::rest) E W:=acB (.inl Z) Z h
theorem VQ (g:∃p,A p∧∀W,nE P E ⟨some d,ins,ty,pos,af,none⟩ W p W) (h:∀p,A p→LW P n ops Q rest (oT E d p) W) (a:d < n:=by decide):LW P n ops Q (⟨some d,ins,ty,pos,af,none⟩::rest) E W:=ab2 (.inl Z) Z a g h
theorem Vg (g:(ops[j]?).bind (·.dst)=some t) (a:E t= .bool want) (k:nE P E ⟨some d,ins,ty,pos,af,some (j,want)⟩ W v W) (h:LW P n ops Q rest (oT E d v) W) (q:t < n:=by decide) (i:d < n:=by decide):LW P n ops Q (⟨some d,ins,ty,pos,af,some (j,want)⟩::rest) E W:=OR (.inr ⟨j,want,t,Z,g,q,a⟩) Z i k h
theorem Sk (g:(ops[j]?).bind (·.dst)=some t) (a:E t= .bool want) (h:py P E ⟨some d,ins,ty,pos,af,some (j,want)⟩ W λv W'=>LW P n ops Q rest (oT E d v) W') (k:t < n:=by decide) (i:d < n:=by decide):LW P n ops Q (⟨some d,ins,ty,pos,af,some (j,want)⟩::rest) E W:=aaZ (.inr ⟨j,want,t,Z,g,k,a⟩) Z i h
theorem VgQ (g:(ops[j]?).bind (·.dst)=some t) (a:E t= .bool want) (k:∃p,A p∧∀W,nE P E ⟨some d,ins,ty,pos,af,some (j,want)⟩ W p W) (h:∀p,A p→LW P n ops Q rest (oT E d p) W) (q:t < n:=by decide) (i:d < n:=by decide):LW P n ops Q (⟨some d,ins,ty,pos,af,some (j,want)⟩::rest) E W:=ab2 (.inr ⟨j,want,t,Z,g,q,a⟩) Z i k h
theorem Vn (g:(ops[j]?).bind (·.dst)=some t) (a:E t= .bool (!want)) (h:LW P n ops Q rest (oT E d undef) W) (k:t < n:=by decide) (i:d < n:=by decide):LW P n ops Q (⟨some d,ins,ty,pos,af,some (j,want)⟩::rest) E W:=ach Z i Z g k a h
theorem Vu (g:(ops[j]?).bind (·.dst)=some t) (a:E t=undef) (h:LW P n ops Q rest (oT E d undef) W) (k:t < n:=by decide) (i:d < n:=by decide):LW P n ops Q (⟨some d,ins,ty,pos,af,some (j,want)⟩::rest) E W:=abk Z i Z g k a h
end
section
variable {P:Program} {n:Nat} {Q:rc} {E:nn} {W:World} {ops:Array Oper} {S:Array Bool→World→Prop} {fuel:Nat} {listed:Array Bool} {μ:mO} {B:LO}
variable {d j t:Nat} {want:Bool} {v:Value} {ins:Go.Op} {ty:TypeId} {pos:String} {af:Array Edge} {A:Value→Prop}
theorem X (i:Nat) (g:ops[i]? =some ⟨some d,ins,ty,pos,af,none⟩) (a:S (listed.setIfInBounds i true) W) (k:∀{W},nE P E ⟨some d,ins,ty,pos,af,none⟩ W v W) (h:PX P n ops Q S fuel (listed.setIfInBounds i true) (oT E d v) W) (hk:FZ ops listed i=true:=by kernel_rfl) (hm:∀l w,S (l.setIfInBounds i true) w→S l w:=by exact λ_ _ h=>h) (j:d < n:=by decide):PX P n ops Q S (fuel+1) listed E W:=xh i g hk (.inl Z) Z j hm a (λ_ _ _ _=>k) h
theorem XH (i:Nat) (g:ops[i]? =some ⟨some d,ins,ty,pos,af,none⟩) (a:oR μ B W) (k:∀W,oR μ B W→nE P E ⟨some d,ins,ty,pos,af,none⟩ W v W) (h:PX P n ops Q (λ_ W=>oR μ B W) fuel (listed.setIfInBounds i true) (oT E d v) W) (hk:FZ ops listed i=true:=by kernel_rfl) (j:d < n:=by decide):PX P n ops Q (λ_ W=>oR μ B W) (fuel+1) listed E W:=xh i g hk (.inl Z) Z j (λ_ _ h=>h) a (λ_ W _ h=>k W h) h
theorem XQ (i:Nat) (g:ops[i]? =some ⟨some d,ins,ty,pos,af,none⟩) (a:S (listed.setIfInBounds i true) W) (k:∃p,A p∧∀W,nE P E ⟨some d,ins,ty,pos,af,none⟩ W p W) (h:∀p,A p→PX P n ops Q S fuel (listed.setIfInBounds i true) (oT E d p) W) (hk:FZ ops listed i=true:=by kernel_rfl) (hm:∀l w,S (l.setIfInBounds i true) w→S l w:=by exact λ_ _ h=>h) (j:d < n:=by decide):PX P n ops Q S (fuel+1) listed E W:=ym i g hk (.inl Z) Z j hm a k h
theorem XE (i:Nat) (a:ops[i]? =some ⟨some d,ins,ty,pos,af,none⟩) (h:py P E ⟨some d,ins,ty,pos,af,none⟩ W λv W'=>S (listed.setIfInBounds i true) W'∧PX P n ops Q S fuel (listed.setIfInBounds i true) (oT E d v) W') (j:Region.ready .any ops listed=[i]:=by kernel_rfl) (g:d < n:=by decide):PX P n ops Q S (fuel+1) listed E W:=aa4 i a j (.inl Z) Z g h
theorem XO (i:Nat) (a:ops[i]? =some ⟨none,ins,ty,pos,af,none⟩) (h:py P E ⟨none,ins,ty,pos,af,none⟩ W λ_ W'=>S (listed.setIfInBounds i true) W'∧PX P n ops Q S fuel (listed.setIfInBounds i true) E W') (d:Region.ready .any ops listed=[i]:=by kernel_rfl):PX P n ops Q S (fuel+1) listed E W:=aco i a d (.inl Z) Z h
theorem Xg (i:Nat) (k:ops[i]? =some ⟨some d,ins,ty,pos,af,some (j,want)⟩) (q:(ops[j]?).bind (·.dst)=some t) (a:E t= .bool want) (g:S (listed.setIfInBounds i true) W) (x:∀{W},nE P E ⟨some d,ins,ty,pos,af,some (j,want)⟩ W v W) (h:PX P n ops Q S fuel (listed.setIfInBounds i true) (oT E d v) W) (hk:FZ ops listed i=true:=by kernel_rfl) (hm:∀l w,S (l.setIfInBounds i true) w→S l w:=by exact λ_ _ h=>h) (u:t < n:=by decide) (s:d < n:=by decide):PX P n ops Q S (fuel+1) listed E W:=xh i k hk (.inr ⟨j,want,t,Z,q,u,a⟩) Z s hm g (λ_ _ _ _=>x) h
theorem uV (i:Nat) (k:ops[i]? =some ⟨some d,ins,ty,pos,af,some (j,want)⟩) (q:(ops[j]?).bind (·.dst)=some t) (a:E t= .bool want) (g:oR μ B W) (x:∀W,oR μ B W→nE P E ⟨some d,ins,ty,pos,af,some (j,want)⟩ W v W) (h:PX P n ops Q (λ_ W=>oR μ B W) fuel (listed.setIfInBounds i true) (oT E d v) W) (hk:FZ ops listed i=true:=by kernel_rfl) (u:t < n:=by decide) (s:d < n:=by decide):PX P n ops Q (λ_ W=>oR μ B W) (fuel+1) listed E W:=xh i k hk (.inr ⟨j,want,t,Z,q,u,a⟩) Z s (λ_ _ h=>h) g (λ_ W _ h=>x W h) h
theorem CZ (i:Nat) (g:ops[i]? =some ⟨some d,ins,ty,pos,af,some (j,want)⟩) (k:(ops[j]?).bind (·.dst)=some t) (a:E t= .bool want) (h:py P E ⟨some d,ins,ty,pos,af,some (j,want)⟩ W λv W'=>S (listed.setIfInBounds i true) W'∧PX P n ops Q S fuel (listed.setIfInBounds i true) (oT E d v) W') (s:Region.ready .any ops listed=[i]:=by kernel_rfl) (u:t < n:=by decide) (q:d < n:=by decide):PX P n ops Q S (fuel+1) listed E W:=aa4 i g s (.inr ⟨j,want,t,Z,k,u,a⟩) Z q h
theorem Xn (i:Nat) (k:ops[i]? =some ⟨some d,ins,ty,pos,af,some (j,want)⟩) (q:(ops[j]?).bind (·.dst)=some t) (a:E t= .bool (!want)) (g:S (listed.setIfInBounds i true) W) (h:PX P n ops Q S fuel (listed.setIfInBounds i true) (oT E d undef) W) (hk:FZ ops listed i=true:=by kernel_rfl) (hm:∀l w,S (l.setIfInBounds i true) w→S l w:=by exact λ_ _ h=>h) (u:t < n:=by decide) (s:d < n:=by decide):PX P n ops Q S (fuel+1) listed E W:=acJ i k hk Z q u a Z s hm g h
theorem Xu (i:Nat) (k:ops[i]? =some ⟨some d,ins,ty,pos,af,some (j,want)⟩) (q:(ops[j]?).bind (·.dst)=some t) (a:E t=undef) (g:S (listed.setIfInBounds i true) W) (h:PX P n ops Q S fuel (listed.setIfInBounds i true) (oT E d undef) W) (hk:FZ ops listed i=true:=by kernel_rfl) (hm:∀l w,S (l.setIfInBounds i true) w→S l w:=by exact λ_ _ h=>h) (u:t < n:=by decide) (s:d < n:=by decide):PX P n ops Q S (fuel+1) listed E W:=aaY i k hk Z q u a Z s hm g h
end
end Go.Proofs.YtojmckcglalbnaaGreat
namespace Go.Proofs.YtojmckcglalbnaaGreat
open Go.RowKit
section
variable {α β γ:Type}
inductive uQ (Q:α→β→Prop):List α→List β→Prop
 | nil:uQ Q [] []
 | cons {a:α} {b:β} {l:List α} {m:List β}:Q a b→uQ Q l m→uQ Q (a::l) (b::m)
namespace uQ
variable {Q Q':α→β→Prop}
theorem length {l:List α} {m:List β} (h:uQ Q l m):l.length=m.length:=by
 induction h with
 | nil=>rfl
 | cons _ _ ih=>simp [ih]
theorem imp {l:List α} {m:List β} (h:uQ Q l m) (d:∀a b,Q a b→Q' a b):uQ Q' l m:=by
 induction h with
 | nil=>exact .nil
 | cons h1 _ ih=>exact .cons (d _ _ h1) ih
theorem get {l:List α} {m:List β} (h:uQ Q l m):∀{i:Nat} {b:β},m[i]? =some b→∃a,l[i]? =some a∧Q a b:=by
 induction h with
 | nil=>intro i b d; simp at d
 | cons h1 _ ih=>
  intro i b d
  cases i with
  | zero=>simp at d; subst d; exact ⟨_,Z,h1⟩
  | succ i=>simpa using ih (by simpa using d)
theorem append {l a:List α} {m d:List β} (h:uQ Q l m) (g:uQ Q a d):uQ Q (l++a) (m++d):=by
 induction h with
 | nil=>exact g
 | cons h1 _ ih=>exact .cons h1 ih
theorem set {l:List α} {m:List β} (h:uQ Q l m) {a:α} {b:β} (g:Q a b):∀i:Nat,uQ Q (l.set i a) (m.set i b):=by
 induction h with
 | nil=>intro i; exact .nil
 | cons h1 d ih=>
  intro i
  cases i with
  | zero=>exact .cons g d
  | succ i=>exact .cons h1 (ih i)
theorem take {l:List α} {m:List β} (h:uQ Q l m):∀i:Nat,uQ Q (l.take i) (m.take i):=by
 induction h with
 | nil=>intro i; simp; exact .nil
 | cons h1 _ ih=>
  intro i
  cases i with
  | zero=>exact .nil
  | succ i=>exact .cons h1 (ih i)
theorem drop {l:List α} {m:List β} (h:uQ Q l m):∀i:Nat,uQ Q (l.drop i) (m.drop i):=by
 induction h with
 | nil=>intro i; simp; exact .nil
 | cons h1 a ih=>
  intro i
  cases i with
  | zero=>exact .cons h1 a
  | succ i=>exact ih i
end uQ
theorem Ih {P:Nat→β→α→Prop}:∀{m:List β} (o:Nat),(∀(i:Nat) (b:β),m[i]? =some b→∃a,P (o+i) b a)→∃l:List α,l.length=m.length∧∀(i:Nat) (b:β),m[i]? =some b→∃a,l[i]? =some a∧P (o+i) b a
 | [],_,_=>⟨[],Z,λi b h=>by simp at h⟩
 | b::m,o,h=>by
  obtain ⟨a,ha⟩:=h 0 b Z
  obtain ⟨l,h1,g⟩:=Ih (m:=m) (o+1) (λi b j=>by
   obtain ⟨a,ha⟩:=h (i+1) b (by simpa using j)
   exact ⟨a,by rw [show o+1+i=o+(i+1) by omega]; exact ha⟩)
  refine ⟨a::l,by simp [h1],λi c d=>?_⟩
  cases i with
  | zero=>simp at d; subst d; exact ⟨a,Z,ha⟩
  | succ i=>
   obtain ⟨x,k,hp⟩:=g i c (by simpa using d)
   exact ⟨x,by simpa using k,by rw [show o+(i+1)=o+1+i by omega]; exact hp⟩
theorem uQ.XV {Q:α→β→Prop}:∀{l:List α} {m:List β},l.length=m.length→(∀(i:Nat) (a:α) (b:β),l[i]? =some a→m[i]? =some b→Q a b)→uQ Q l m
 | [],[],_,_=>.nil
 | [],_::_,h,_=>by cases h
 | _::_,[],h,_=>by cases h
 | a::l,b::m,h,d=>.cons (d 0 a b Z Z) (uQ.XV (by simpa using h) λi x y g j=>d (i+1) x y (by simpa using g) (by simpa using j))
end
structure Deep {β:Type} (R:tu β) (k:Nat):Prop where
 mono:NE R
 len:∀{μ ys x},R μ ys x→ys.length=k
 one:∀{μ ys x},R μ ys x→∀u∈ys,u.oneCell'=true
abbrev CF (k:Nat):={ys:List Value // ys.length=k∧∀u∈ys,u.oneCell'=true}
def AU {k:Nat} (c:CF k):List Value:=c.1
theorem Ej {k:Nat} (x:CF k):(AU x).length=k:=x.2.1
theorem UY {k:Nat} (x:CF k):∀u∈AU x,u.oneCell'=true:=x.2.2
theorem Sl.BS {α:Type} {R:tu α} {k:Nat} {μ:mO} {v:Value} {l:List α} (h:Sl R k μ v l):v.oneCell'=true:=by
 obtain ⟨A,c,rfl,_⟩:=h; rfl
section
variable {β:Type} {Rl:tu β} {k:Nat} {μ μ':mO} {v:Value} {l:List β}
def Deep.cell (a:Deep Rl k) {ys:List Value} {x:β} (h:Rl μ ys x):CF k:=⟨ys,a.len h,a.one h⟩
theorem Sl.raw (O:Deep Rl k) (h:Sl Rl k μ v l):∃cl:List (CF k),Sl (Pl AU) k μ v cl∧uQ (λc x=>Rl μ c.1 x) cl l:=by
 obtain ⟨A,c,rfl,h1,z,J⟩:=h
 cases l with
 | nil=>exact ⟨[],⟨A,c,Z,h1,z,λh=>absurd h rv⟩,.nil⟩
 | cons x0 l=>
  obtain ⟨b,off,cs,T,fr,rfl,Q,M⟩:=J rv
  obtain ⟨cl,s,u⟩:=Ih (P:=λi x (c:CF k)=>Rl μ c.1 x∧∀j y,c.1[j]? =some y→cs[off+i*k+j]? =some y) (m:=x0::l) 0 (λi x t=>by
   obtain ⟨ys,_,d,g⟩:=M i x t
   exact ⟨O.cell d,d,by rw [fJ]; exact g⟩)
  refine ⟨cl,⟨_,c,by rw [s],rs,z,λ_=>⟨b,off,cs,T,fr,Z,Q,λi c q=>?_⟩⟩,uQ.XV s λi c x q t=>?_⟩
  ·have U:i < (x0::l).length:=by rw [←s]; exact (bP.1 q).1
   obtain ⟨I,a,_,g⟩:=u i _ (dt U)
   rw [q] at a; cases a
   exact ⟨c.1,c.2.1,Z,by rw [fJ] at g; exact g⟩
  ·obtain ⟨I,a,d,_⟩:=u i x t
   rw [q] at a; cases a
   exact d
theorem Sl.Ws {cl:List (CF k)} (h:Sl (Pl AU) k μ v cl) (I:lM μ μ') (ha:uQ (λc x=>Rl μ' c.1 x) cl l):Sl Rl k μ' v l:=by
 obtain ⟨A,c,rfl,h1,q,s⟩:=h
 have a:=ha.length
 refine ⟨A,c,by rw [a],rs,q,λM=>?_⟩
 obtain ⟨b,off,cs,T,fr,rfl,u,t⟩:=s rs
 refine ⟨b,off,cs,T,fr,Z,I _ _ u,λi x J=>?_⟩
 obtain ⟨c,y,z⟩:=ha.get J
 obtain ⟨ys,d,g,j⟩:=t i c y
 cases g
 exact ⟨AU c,d,z,j⟩
def EI (Rl:tu β) (k:Nat) (μ:mO) (W:World) (v:Value) (l:List β):Prop:=∃cl:List (CF k),Sl (Pl AU) k (hp W) v cl∧uQ (λc x=>Rl μ c.1 x) cl l
theorem EI.sl (d:Deep Rl k) {W:World} (h:Sl Rl k μ v l) (g:lM μ (hp W)):EI Rl k μ W v l:=by
 obtain ⟨cl,h1,a⟩:=h.raw d
 exact ⟨cl,h1.mono (Pl.mono _) g,a⟩
theorem Sl.Yo {b m:Nat} {cl:List (CF k)} {cs:Array Value} {e:TypeId} (hm:cl.length=m) (a:m≤maxLen) (g:cs.toList=(cl.map AU).flatten) (d:μ b=some (.cells cs e (0,0))):Sl (Pl AU) k μ (.slice (some ⟨b,0,none⟩) m m) cl:=by
 subst hm
 refine ⟨_,_,Z,aY _,a,λ_=>⟨b,0,_,_,_,Z,d,λi x h=>⟨AU x,Ej x,Z,λj y q=>?_⟩⟩⟩
 have:=Bg Ej cl i x h j y q
 rw [←g] at this
 simpa using this
inductive Ja (Rl:tu β) (k:Nat) (μ:mO):List Value→List β→Prop
 | nil:Ja Rl k μ [] []
 | cons {ys zs:List Value} {x:β} {l:List β}:Rl μ ys x→Ja Rl k μ zs l→Ja Rl k μ (ys++zs) (x::l)
theorem Ja.cells (d:Deep Rl k) {ys:List Value} (h:Ja Rl k μ ys l):∃cl:List (CF k),(cl.map AU).flatten=ys∧uQ (λc x=>Rl μ c.1 x) cl l:=by
 induction h with
 | nil=>exact ⟨[],Z,.nil⟩
 | cons h1 _ ih=>
  obtain ⟨cl,e,a⟩:=ih
  exact ⟨d.cell h1::cl,by rw [bQ,dX,e]; rfl,.cons h1 a⟩
theorem EI.lit (g:Deep Rl k) {W:World} {b m:Nat} {ys:List Value} {e:TypeId} (h:Ja Rl k μ ys l) (hm:l.length=m) (i:m≤maxLen) (j:W.heap[b]? =some (.cells ys.toArray e (0,0))):EI Rl k μ W (.slice (some ⟨b,0,none⟩) m m) l:=by
 obtain ⟨cl,d,a⟩:=h.cells g
 exact ⟨cl,Sl.Yo (by rw [a.length]; exact hm) i d.symm j,a⟩
theorem Sl.imp {R R':tu β} (h:Sl R k μ v l) (u:∀ys x,R μ ys x→R' μ ys x):Sl R' k μ v l:=by
 obtain ⟨A,c,rfl,h1,a,d⟩:=h
 refine ⟨A,c,Z,h1,a,λy=>?_⟩
 obtain ⟨b,off,cs,T,fr,rfl,t,g⟩:=d y
 exact ⟨b,off,cs,T,fr,Z,t,λi x z=>let ⟨ys,j,q,s⟩:=g i x z; ⟨ys,j,u _ _ q,s⟩⟩
theorem Lb:∀(l:List Nat) (n:Nat),n∈l→n≤l.foldr max 0
 | [],n,h=>by cases h
 | a::l,n,h=>by
  rcases aW.1 h with rfl | h
  ·exact Nat.le_max_left _ _
  ·exact dP (Lb l n h) (Nat.le_max_right _ _)
theorem Sl.acL {R:tu β} {a:Nat→tu β} (h:Sl R k μ v l) (M:∀ys x,R μ ys x→∃n,a n μ ys x) (up:∀n m ys x,n≤m→a n μ ys x→a m μ ys x):∃n,Sl (a n) k μ v l:=by
 obtain ⟨A,c,rfl,h1,t,I⟩:=h
 by_cases u:0 < l.length
 ·obtain ⟨b,off,cs,T,fr,rfl,O,J⟩:=I u
  obtain ⟨U,W,z⟩:=Ih (P:=λi x (p:Nat×List Value)=>p.2.length=k∧a p.1 μ p.2 x∧∀j y,p.2[j]? =some y→cs[off+i*k+j]? =some y) (m:=l) 0 (λi x s=>by
   obtain ⟨ys,g,q,d⟩:=J i x s
   obtain ⟨n,Q⟩:=M _ _ q
   exact ⟨(n,ys),g,Q,by rw [fJ]; exact d⟩)
  refine ⟨(U.map (·.1)).foldr max 0,_,c,Z,h1,t,λ_=>⟨b,off,cs,T,fr,Z,O,λi x s=>?_⟩⟩
  obtain ⟨p,hp,g,q,d⟩:=z i x s
  exact ⟨p.2,g,up _ _ _ _ (Lb _ _ (bT.2 ⟨p,eH hp,Z⟩)) q,by rw [fJ] at d; exact d⟩
 ·exact ⟨0,A,c,Z,h1,t,λh=>absurd h u⟩
theorem Ii {α:Type} {enc:α→List Value} {k:Nat}:Deep (wo enc k) 1 where
 mono:=wo.mono _ _
 len:=by rintro _ _ _ ⟨v,rfl,h⟩; rfl
 one:=by rintro _ _ _ ⟨v,rfl,h⟩ u hu; rw [aV] at hu; subst hu; exact h.BS
def mX (e:TypeId) (Rl:tu β) (k:Nat) (μ:mO) (v:Value) (l:List β) (B:LO):Prop:=∃cl:List (CF k),mg e AU k v cl B∧uQ (λc x=>Rl μ c.1 x) cl l
variable {e:TypeId} {B:LO}
theorem mX.mono (d:Deep Rl k) (h:mX e Rl k μ v l B) (g:lM μ μ'):mX e Rl k μ' v l B:=by
 obtain ⟨cl,h1,a⟩:=h
 exact ⟨cl,h1,a.imp λ_ _ h=>d.mono _ _ _ _ g h⟩
theorem mX.nil (e:TypeId) (Rl:tu β) (k:Nat) (μ:mO):mX e Rl k μ (.slice none 0 0) [] []:=⟨[],mg.nil _ _ _,.nil⟩
theorem mX.lit (g:Deep Rl k) {b m:Nat} {ys:List Value} (h:Ja Rl k μ ys l) (hm:l.length=m) (i:m≤maxLen) (j:ys.length=m*k):mX e Rl k μ (.slice (some ⟨b,0,none⟩) m m) l [(b,.cells ys.toArray e (0,0))]:=by
 obtain ⟨cl,d,a⟩:=h.cells g
 exact ⟨cl,mg.lit (by rw [a.length]; exact hm) i d.symm (by simpa using j),a⟩
theorem mX.form (h:mX e Rl k μ v l B):∃A c,v= .slice A l.length c:=by
 obtain ⟨cl,h1,a⟩:=h
 rw [←a.length]; exact h1.form
theorem mX.len (h:mX e Rl k μ v l B):l.length≤9223372036854775807:=by
 obtain ⟨cl,h1,a⟩:=h
 rw [←a.length]; exact h1.len
theorem mX.nd (h:mX e Rl k μ v l B):(B.map (·.1)).Nodup:=let ⟨_,h1,_⟩:=h; h1.nd
theorem mX.isNil {n c:Nat} (h:mX e Rl k μ (.slice none n c) l B):l=[]:=by
 obtain ⟨cl,h1,a⟩:=h
 have:=a.length
 rw [h1.isNil] at this
 exact bZ this.symm
theorem mX.sl (h:mX e Rl k μ v l B) (d:Deep Rl k) (g:lM μ μ') (hm:∀b o,(b,o)∈B→μ' b=some o):Sl Rl k μ' v l:=by
 obtain ⟨cl,h1,a⟩:=h
 exact Sl.Ws (h1.sl Ej hm) (lM.refl _) (a.imp λ_ _ h=>d.mono _ _ _ _ g h)
end
section
variable {β:Type} {Rl:tu β} {k:Nat} {μ:mO} {v:Value} {l:List β} {e:TypeId} {B:LO}
variable {dd:Bool} {F:Nat→Prop} {w W:World} {L:LO}
theorem mX.RR (h:mX e Rl k μ v l B) (d:Deep Rl k) (a:ST dd F w W μ L) (g:∀p,p∈B→p∈L):Sl Rl k (hp W) v l:=h.sl d a.ns (λ_ _ i=>a.at_ (g _ i))
theorem EI.row (h:mX e Rl k μ v l B) (a:ST dd F w W μ L) (g:∀p,p∈B→p∈L):EI Rl k μ W v l:=let ⟨cl,h1,d⟩:=h; ⟨cl,h1.RR Ej a g,d⟩
theorem mX.Wb (h:mX e Rl k μ v l B) (a:ST dd nf w W μ L) (d:∀p,p∈B→p∈L):Fr w.heap.size v:=let ⟨_,h1,_⟩:=h; h1.Wb a d
theorem ST.Bb {Y:LO} (i:Deep Rl k) (a:ST dd F w W μ (B++Y)) (h:mX e Rl k μ v l B):∃μ',ST dd F w W μ' Y∧lM μ μ'∧Lo F w μ μ'∧Sl Rl k μ' v l:=by
 obtain ⟨cl,h1,g⟩:=h
 obtain ⟨μ',d,a2,a4,a3⟩:=ST.xM a h1 Ej
 exact ⟨μ',d,a2,a4,Sl.Ws a3 (lM.refl _) (g.imp λ_ _ h=>i.mono _ _ _ _ a2 h)⟩
variable {P:Program} {E:nn} {d:Option Nat} {ty:TypeId} {pos:String} {af:Array Edge} {g:tX}
theorem nI {t e':TypeId} {x a:Operand} {O:IntKind} {i:Int} {x0:β} {A:List Value→Prop} (z:∀{ys},Rl μ ys x0→A ys) (J:P.underlying t=some (.slice e')) (he:∀w,(sizeOf e').run P w= .ok k w) (M:lF E x=v) (u:lF E a= .int O i) (I:Sl Rl k μ v l) (h:0≤i) (y:l[i.toNat]? =some x0) :
  ∃p,(∃ys,A ys∧At μ p ys)∧∀W,nE P E ⟨d,.indexAddr t x a,ty,pos,af,g⟩ W p W:=by
 obtain ⟨p,ys,_,j,q,s⟩:=O5 (d:=d) (ty:=ty) (pos:=pos) (af:=af) (g:=g) J he M u I h y
 exact ⟨p,⟨ys,z j,q⟩,s⟩
theorem AS {x:Operand} {t e':TypeId} (a:P.underlying t=some (.slice e')) (i:lF E x=v) (h:mX e Rl k μ v l B):nE P E ⟨d,.call ⟨.builtin .len,#[x],#[t]⟩,ty,pos,af,g⟩ W (.int .i64 l.length) W:=by
 obtain ⟨A,c,rfl⟩:=h.form
 exact CS a i
theorem nV {t e':TypeId} {x q:Operand} {U:IntKind} {i:Int} {x0:β} {A:List Value→Prop} (J:∀{ys},Rl μ ys x0→A ys) (O:P.underlying t=some (.slice e')) (he:∀w,(sizeOf e').run P w= .ok k w) (Q:lF E x=v) (z:lF E q= .int U i) (h:mX e Rl k μ v l B) (s:0≤i) (I:l[i.toNat]? =some x0) :
  ∃p,(∃ys,A ys∧At (Fa B) p ys∧Gh B k p i.toNat)∧∀W,nE P E ⟨d,.indexAddr t x q,ty,pos,af,g⟩ W p W:=by
 obtain ⟨cl,h1,u⟩:=h
 obtain ⟨c,j,M⟩:=u.get I
 obtain ⟨p,a,y⟩:=pC (d:=d) (ty:=ty) (pos:=pos) (af:=af) (g:=g) O he Q z h1 s j
 exact ⟨p,⟨c.1,J M,a.at h1 Ej j,a⟩,y⟩
theorem YB {α i:Type} {a:Nat} {l m r:List α} {d g:List i} (h:oY a l m=some r) (h1:d.length=l.length) (j:g.length=m.length):oY a d g=some (d++g)∧r=l++m:=by
 unfold oY at h ⊢
 rw [h1,j]
 split at h
 ·rename_i k; cases h; rw [aO k]; exact ⟨Z,Z⟩
 ·cases h
theorem wW {K:Value→World→Prop} {t:TypeId} {a:Nat} {z vs:Value} {m r:List β} {Y:LO} {x y:Operand} {i:TypeInfo} (hD:Deep Rl k) (q:ST dd F w W μ (B++Y)) (I:0 < k) (ht:P.underlying t=some (.slice e)) (hi:P.info? e=some i) (hz:i.zero=some z) (M:z.cells.size=k) (J:i.size=k) (u:i.bytes=a) (hx:lF E x=v) (hy:lF E y=vs) (hR:mX e Rl k μ v l B) (hs:EI Rl k μ W vs m) (hb:oY a l m=some r) (h:∀W' j R',ST dd F w W' μ (R'++Y)→mX e Rl k μ j r R'→K j W'):py P E ⟨d,.call ⟨.builtin .append,#[x,y],#[t,t]⟩,ty,pos,af,g⟩ W K:=by
 obtain ⟨cl,h1,O⟩:=hR
 obtain ⟨cm,h3,Q⟩:=hs
 obtain ⟨s,rfl⟩:=YB hb O.length Q.length
 exact oU q Ej I UY ht hi hz M J u hx hy h1 h3 s (λW' j R' U a2=>h W' j R' U ⟨_,a2,O.append Q⟩)
theorem wq {K:Value→World→Prop} {Y:LO} {t:TypeId} {x y:Operand} {p:Value} {i:Nat} {x0 x1:β} {ys:List Value} (u:Deep Rl k) (a:ST dd F w W μ (B++Y)) (h:mX e Rl k μ v l B) (O:lF E x=p) (Q:lF E y= .agg ys.toArray) (q:Rl μ ys x1) (hp:Gh B k p i) (M:l[i]? =some x0) (I:∀w,(sizeOf t).run P w= .ok k w) (z:∀W' R',ST dd F w W' μ (R'++Y)→mX e Rl k μ v (l.set i x1) R'→K undef W'):py P E ⟨d,.store t x y,ty,pos,af,g⟩ W K:=by
 obtain ⟨cl,h1,j⟩:=h
 obtain ⟨c,J,_⟩:=j.get M
 exact zF (x1:=u.cell q) a h1 Ej UY O Q Z hp J I (λW' R' s a2=>z W' R' s ⟨_,a2,j.set q i⟩)
theorem Ta {K:Value→World→Prop} {Y:LO} {t:TypeId} {x y:Operand} {p u:Value} {i:Nat} {x0 x1:β} {ys:List Value} (z:Deep Rl k) (a:ST dd F w W μ (B++Y)) (h:mX e Rl k μ v l B) (Q:lF E x=p) (U:lF E y=u) (hu:u.cells=ys.toArray) (q:Rl μ ys x1) (hp:Gh B k p i) (O:l[i]? =some x0) (J:∀w,(sizeOf t).run P w= .ok k w) (I:∀W' R',ST dd F w W' μ (R'++Y)→mX e Rl k μ v (l.set i x1) R'→K undef W'):py P E ⟨d,.store t x y,ty,pos,af,g⟩ W K:=by
 obtain ⟨cl,h1,j⟩:=h
 obtain ⟨c,M,_⟩:=j.get O
 exact zF (x1:=z.cell q) a h1 Ej UY Q U hu hp M J (λW' R' s a2=>I W' R' s ⟨_,a2,j.set q i⟩)
end
end Go.Proofs.YtojmckcglalbnaaGreat
namespace Go.Proofs.YtojmckcglalbnaaGreat
open Go.RowKit
def my (dd:Bool) (P:Program) (f:FuncId) (args:List Value) (w:World) (μ0:mO) (L0:LO) (K:Value→LO→mO→Prop):Prop :=
 Calls P f args.toArray w λe a=>∃v L1 μ1,e= .returned v∧wP dd L0 L1 w a∧lM μ0 μ1∧Lo (keys L0) w μ0 μ1∧lM μ1 (wZ a L1)∧K v L1 μ1
theorem my.mN {dd:Bool} {P:Program} {f:FuncId} {args:List Value} {w:World} {μ0:mO} {L0:LO} {K:Value→LO→mO→Prop} (h:my true P f args w μ0 L0 K):my dd P f args w μ0 L0 K :=
 dl h λ_ _ ⟨v,L1,μ1,h1,a,d⟩=>⟨v,L1,μ1,h1,a.mN,d⟩
section
variable {dd:Bool} {F:Nat→Prop} {w W W':World} {μ μ1:mO} {L L0 L1 L2:LO}
theorem ST.Y6 (h:ST dd F w W μ (L0++L)) (i:wP dd L0 L1 W W') (j:Lo (keys L0) W μ μ1) (g:lM μ1 (wZ W' L1)):ST dd F w W' μ1 (L1++L):=by
 have h1:=h.back i
 refine ⟨h1.os,h1.tape,h1.output,h1.drawn,h1.size,h1.oJ,λb o hm=>?_,λb o a=>?_,h1.nd⟩
 ·have:=g b o hm
  unfold wZ at this
  split at this
  ·cases this
  ·exact this
 ·obtain ⟨q1,q2,q3⟩:=h1.box b o a
  refine ⟨q1,?_,q3⟩
  rcases bE.1 a with a | a
  ·cases hm:μ1 b with
   | none=>rfl
   | some x=>
    have:=g b x hm
    unfold wZ at this
    rw [aO ⟨o,a⟩] at this
    cases this
  ·have d:=h.box b o (dr _ a)
   rw [j b (sb d.1) (Lw h.nd a)]
   exact d.2.1
variable {P:Program} {E:nn} {d:Option Nat} {ty:TypeId} {pos:String} {af:Array Edge} {g:tX}
theorem D0 {K:Value→World→Prop} {K':Value→LO→mO→Prop} {f:FuncId} {fv:Operand} {ax:Array Operand} {ats:Array TypeId} {caps:Array Value} {args:List Value} (L0 L2:LO) (a:ST dd F w W μ L) (i:L.Perm (L0++L2)) (J:lF E fv= .func (.func f) #[] caps) (he:∀args w,(callFunc f args).run P w= .ok (.enter f args) w) (ha:ax.map (lF E)++(#[]:Array Value)=args.toArray) (I:JB L0 W→(L0.map (·.1)).Nodup→lM μ (wZ W L0)→(∀b o,(b,o)∈L2→wZ W L0 b=some o)→my dd P f (args++caps.toList) W μ L0 K') (h:∀W' v μ' L1,ST dd F w W' μ' (L1++L2)→lM μ μ'→Lo F w μ μ'→K' v L1 μ'→K v W'):py P E ⟨d,.call ⟨.value fv,ax,ats⟩,ty,pos,af,g⟩ W K:=by
 have j:ax.map (lF E)=args.toArray:=by simpa using ha
 refine Lv (args:=(args++caps.toList).toArray) J he (by rw [j]; simp) (dl (I (a.held i) (a.Ym i) (a.YL i) (a.Pd i)) (λ_ W' ⟨v,L1,μ1,h1,s,t,k,u,x⟩=>⟨v,h1,h W' v μ1 L1 ((a.perm i).Y6 s k u) t (λb z y=>k b (ee z a.size) (λ⟨o,M⟩=>by
  rcases ((a.perm i).box b o (bY _ M)).2.2 with q | q
  ·omega
  ·exact y q)) x⟩))
end
end Go.Proofs.YtojmckcglalbnaaGreat
