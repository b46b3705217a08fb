/- a part of a proof of ChangeLoses -/
import Derived.WalkKit
import Derived.WalkLawsBesides
import Derived.TacticsIn
import Derived.OrdersIn
import Derived.ControlIn
import Derived.Maps.AppendAt
import Derived.OrdersHeld
import Derived.Laws.IdiomStrings
import Derived.Maps.RangeRun
import Derived.Lib.BytesEntry
import Derived.Lib.Bytealg
import Derived.Laws.Externs
import Derived.ChangeKeysEq
import Derived.Deep.AppendSrc
import Derived.Laws.MakeOwn
set_option linter.all false
namespace Go.Proofs.YtjjjihkifgdhgaaGreatDoor
open Go.RowKit
def aA:=@Option.bind_some
def aB:=@Bool.false_eq_true
def aC:=@List.length_append
def aD:=@ByteArray.size_append
def aF:=@Nat.exists_eq_succ_of_ne_zero
def aG:=@List.length_cons
def aI:=@if_false
def aJ:=@List.eq_nil_of_length_eq_zero
def aK:=@if_true
def aM:=@List.append_assoc
def aO:=@List.mem_append
def aP:=@List.mem_cons
def aQ:=@Nat.lt_succ_self
def aR:=@Nat.le_refl
def aS:=@List.mem_map
def aT:=@List.append_nil
def aU:=@List.map_cons
def aV:=@List.flatten_cons
def aW:=@List.nil_append
def aX:=@Int.natCast_nonneg
def aY:=@List.cons.injEq
def aZ:=@List.length_nil
def bn:=@Bool.and_eq_true
def bo:=@List.drop_length
def bA:=@congrArg
def bB:=@decide_true
def bD:=@if_pos
def bG:=@if_neg
def bH:=@decide_eq_true_eq
def bI:=@run_underlying
def bK:=@Bool.eq_iff_iff
def bM:=@List.cons_append
def bN:=@decide_false
def bO:=@List.mem_singleton
def bP:=@beq_self_eq_true
def bQ:=@List.getElem?_eq_some_iff
def bT:=@List.length_map
def bU:=@List.mem_filter
def bV:=@Result.andThen_ok
def bW:=@List.flatten_append
def bX:=@List.Perm.append_left
def bY:=@List.pairwise_cons
def cD:=@List.nodup_append
def cI:=@Bool.not_true
def cJ:=@Sem.run_bind
def cK:=@List.flatten_nil
def cL:=@List.map_append
def cM:=@List.Perm.refl
def cQ:=@List.mem_append_left
def cR:=@Bool.not_false
def cV:=@List.eq_nil_or_concat
def cX:=@List.mem_of_getElem?
def cZ:=@List.filter_cons
def dq:=@Int.toNat_natCast
def dr:=@Nat.mul_le_mul_right
def dt:=@List.concat_eq_append
def du:=@Nat.add_mul
def dv:=@List.not_mem_nil
def dw:=@List.length_zipIdx
def dx:=@Nat.le_trans
def dy:=@List.getElem?_eq_getElem
def dA:=@Calls.mono
def dB:=@List.pairwise_append
def dE:=@List.length_filter_le
def dF:=@Array.length_toList
def dG:=@Sem.run_pure
def dH:=@Bool.eq_false_or_eq_true
def dI:=@List.length_take
def dK:=@Array.getElem?_eq_some_iff
def dL:=@and_true
def dM:=@List.singleton_append
def dN:=@List.map_nil
def dO:=@List.nodup_cons
def dP:=@List.all_eq_true
def dQ:=@Addr.add_lit
def dR:=@ByteArray.append_assoc
def dS:=@List.getElem?_take_of_lt
def dT:=@Nat.zero_le
def dV:=@List.size_toArray
def dX:=@List.take_of_length_le
def dY:=@Nat.min_eq_left
def dZ:=@Bool.true_and
def ed:=@Array.getElem?_modify
def ee:=@Array.getElem?_toList
def ef:=@List.map_map
def ei:=@DataW.trod_struct
def ek:=@List.getElem?_drop
def eo:=@Nat.eq_zero_or_pos
def ep:=@Option.map_some
def eu:=@Option.isNone_iff_eq_none
def ev:=@List.mem_append_right
def ew:=@Nat.add_assoc
def ey:=@Nat.lt_of_lt_of_le
def ez:=@List.length_eq_zero_iff
def eB:=@List.any_eq_true
def eC:=@List.findIdx?_eq_some_iff_getElem
def eE:=@List.getElem?_append_right
def eK:=@List.le_snd_of_mem_zipIdx
def eL:=@List.perm_append_comm
def eO:=@Nat.zero_add
def eT:=@List.ext_getElem?
def eU:=@List.getElem?_map
def eV:=@List.pairwise_map
def eW:=@Bool.not_eq_true'
def eX:=@List.pairwise_singleton
def eY:=@List.foldl_cons
def eZ:=@List.find?_cons
def fc:=@Array.getD_eq_getD_getElem?
def fe:=@Bool.not_not
def fi:=@List.perm_middle
def fk:=@List.findIdx?_cons
def fl:=@or_false
def fp:=@List.perm_append_singleton
def fq:=@List.getElem?_eq_none
def ft:=@List.getElem?_append_left
def fu:=@Classical.byContradiction
def fw:=@Bool.or_eq_true
def fA:=@cell_of_row
def fB:=@List.getElem?_set
def fC:=@List.mem_cons_of_mem
def fD:=@Nat.add_zero
def fE:=@List.forall_mem_cons
def fF:=@beq_iff_eq
def fH:=@List.sum_cons
def fI:=@ByteArray.toList_eq
def fK:=@List.zipIdx_map_fst
def fL:=@List.take_append
def fM:=@decide_eq_false_iff_not
def fP:=@List.getElem?_take
def fV:=@eq_iff_iff
def fW:=@List.length_eq_one_iff
def fX:=@List.find?_eq_none
def fY:=@List.filter_eq_nil_iff
def fZ:=@Option.some.inj
def gd:=@List.filter_nil
def gk:=@List.length_singleton
def gl:=@Function.comp_def
def gm:=@Option.some.injEq
def gn:=@List.perm_append_comm_assoc
def gp:=@List.getElem?_append
def gq:=@List.fst_mem_of_mem_zipIdx
def gr:=@Bool.false_and
def gu:=@List.getLast?_append
def gv:=@List.zipIdx_cons
def gw:=@List.length_drop
def gG:=@Bool.not_eq_true
def gH:=@List.findIdx?_eq_none_iff
def gI:=@run_callFunc_extern
def gJ:=@List.filter_eq_self
def gK:=@ByteArray.ext
def gO:=@List.all_cons
def gP:=@Int.lt_irrefl
def gQ:=@List.any_cons
def gS:=@Bool.and_self
def gU:=@Option.isNone_none
def gW:=@Bool.not_eq_false'
def gY:=@List.getElem?_cons_zero
def gZ:=@List.pairwise_mergeSort
def ic:=@List.all_eq_not_any_not
def ie:=@List.getLast?_singleton
def ig:=@List.take_take
def ij:=@List.findIdx?_map
def iq:=@List.Perm.append_right
def ir:=@Go.Lib.strCells_length
def iw:=@Bool.and_assoc
def iy:=@List.map_eq_append_iff
def iz:=@List.flatMap_cons
def iA:=@of_decide_eq_true
def iB:=@List.getElem?_toArray
def iC:=@Nat.div_lt_iff_lt_mul
def iD:=@List.take_append_drop
def iE:=@Option.getD_some
def iI:=@List.cons.inj
def iJ:=@List.findIdx?_append
def iO:=@List.snd_lt_add_of_mem_zipIdx
def iP:=@Bool.or_eq_false_iff
def iQ:=@List.length_set
def iT:=@List.Perm.nodup_iff
def iU:=@List.map_congr_left
def iV:=@List.mergeSort_perm
def iW:=@List.flatMap_append
def iX:=@List.take_length_add_append
def jc:=@run_loadCells_list
def jd:=@grownCap_le_maxLen
def je:=@List.drop_take
def jf:=@List.take_left
def jg:=@List.map_mergeSort
def jm:=@List.zipIdx_append
def jo:=@List.filter_append
def jq:=@UInt8.toNat_lt
def jr:=@Bool.and_false
def js:=@Option.isNone_some
def jt:=@Nat.le_succ
def ju:=@run_storeCells_at
def jv:=@Nat.mul_one
def jB:=@UInt8.ofNat_toNat
def jC:=@List.getLast?_nil
def jD:=@List.find?_append
def jE:=@List.map_id
def jJ:=@List.mem_flatten
def jM:=@List.append_inj'
def jN:=@List.mem_flatMap
def jO:=@callsIn_wide
def jP:=@getElem!_pos
def jW:=@Oper.upon_value
def jX:=@Oper.upon_enter
def jY:=@Nat.one_mul
def jZ:=@getD_set_ne
def kk:=@Nat.le_zero
def kl:=@wpIn_mono
def km:=@mem_ready
class Md where
 ro:Option Nat
 D:List Deferred
instance Fl:Md:=⟨none,[]⟩
theorem Dq {ro:Option Nat} {P:Program} {ρ:Operand→Value} {o:Oper} {W W':World} {x:Next} (h:(execOp ρ o).run P W= .ok x W') (n:∀d,x≠.defer d):(Oper.semAt ro ρ o).run P W= .ok x W':=by
 cases ro with
 | none=>exact h
 | some l=>
  rw [Oper.semAt_eq]
  ·exact h
  ·intro c j
   have e:(execOp ρ o)=(resolve ρ c o.type >>= λd=>pure (Next.defer d)):=by
    unfold execOp; rw [j]
   rw [e,cJ] at h
   cases i:(resolve ρ c o.type).run P W with
   | ok d w=>rw [i,bV] at h; cases h; exact n d rfl
   | halt z w=>rw [i] at h; cases h
def Md.F (M:Md):Fence:={ Fence.wide with round:=M.ro }
theorem Uk {M:Md} {n:Nat} {P:Program} {f:FuncId} {args:Array Value} {w:World} {R:Ending→World→Prop}:CallsIn M.F n P f args w R↔Calls P f args w R:=jO
theorem Nf {M:Md} {n:Nat} {P:Program} {f:FuncId} {args:Array Value} {w:World} {R:Ending→World→Prop} (h:Calls P f args w R):(M.F.depth.isSome=true→1≤n)∧CallsIn M.F (n-1) P f args w R :=
 ⟨λe=>(nomatch (show (none:Option Nat).isSome=true from e)),Uk.2 h⟩
variable [M:Md]
def qu (E:Nat→Value) (d:Nat) (v:Value):Nat→Value:=λt=>if t=d then v else E t
def kP (E:Nat→Value):Operand→Value
 | .tmp t=>E t
 | .const v=>v
 | .global g=>.pointer (some ⟨g,0,none⟩)
 | .func f=>.func (.func f) #[] #[]
def Ag (n:Nat) (a:Act) (E:Nat→Value):Prop:=a.tmps.size=n∧a.defers=M.D∧∀t,a.tmps.getD t undef=E t
section
variable {n:Nat} {a:Act} {E:Nat→Value}
theorem Ag.eval (h:Ag n a E):a.eval=kP E:=by
 funext x
 cases x with
 | tmp t=>exact h.2.2 t
 | const v=>rfl
 | global g=>rfl
 | func f=>rfl
theorem Ag.put (h:Ag n a E) {d:Nat} (p:d < n) (v:Value):Ag n (a.put (some d) v) (qu E d v):=by
 refine ⟨by simp [Act.put,h.1],h.2.1,λt=>?_⟩
 have j:=h.2.2 t
 simp only [Act.put,qu]
 by_cases i:t=d
 ·subst i
  simp [h.1,p]
 ·have:¬d=t:=λe=>i e.symm
  rw [bG i,←j]
  simp [fc,this]
theorem Ag.DE (h:Ag n a E) (v:Value):Ag n (a.put none v) E:=h
theorem Ag.yield (h:Ag n a E) {ops:Array Oper} {j t:Nat} {b:Bool} (i:(ops[j]?).bind (·.dst)=some t) (u:t < n) (v:E t= .bool b):yielded ops a.tmps j=some b:=by
 have d:=h.2.2 t
 have p:a.tmps[t]? =some (E t):=by
  rw [←d]
  simp [fc,h.1,u]
 simp [yielded,i,p,v]
end
abbrev tH:=Exit→(Nat→Value)→World→Prop
def E0:Nat→Value:=λ_=>undef
def lift (n:Nat) (Q:tH):Exit→Act→World→Prop
 | .panic c,a,w=>a.defers=M.D∧Q (.panic c) E0 w
 | .outgrown,_,_=>False
 | e,a,w=>∃E,Ag n a E∧Q e E w
theorem Pd {n:Nat} {Q:tH} {c:List PanicEntry} {a:Act} {d:Option Nat} {v:Value} {w:World} (h:lift n Q (.panic c) (a.put d v) w):lift n Q (.panic c) a w:=by
 cases d <;> exact h
def CW (P:Program) (n:Nat) (c:Code) (Q:tH) (E:Nat→Value) (W:World):Prop:=∀a,Ag n a E→c.wpIn M.F 0 P (lift n Q) a W
def LW (P:Program) (n:Nat) (ops:Array Oper) (Q:tH) (l:List Oper) (E:Nat→Value) (W:World):Prop:=∀a,Ag n a E→wpListIn M.F 0 P ops (lift n Q) l a W
def tX (K:(Nat→Value)→World→Prop) (Q:tH):tH
 | .normal,E,W=>K E W
 | e,E,W=>Q e E W
def Ai (id:Nat) (Q:tH):tH
 | .exit j,E,W=>if j=id then Q .normal E W else Q (.exit j) E W
 | e,E,W=>Q e E W
section
variable {P:Program} {n:Nat} {Q:tH} {E:Nat→Value} {W:World} {c x y:Code} {ops:Array Oper} {rest:List Oper} {o:Oper}
theorem MX {Q':tH} (h:CW P n c Q E W) (j:∀e E W,Q e E W→Q' e E W):CW P n c Q' E W:=λa ha=>
 kl (h a ha) (λe _ _ h=>by
  cases e with
  | panic c=>exact ⟨h.1,j _ _ _ h.2⟩
  | outgrown=>exact h
  | _=>obtain ⟨E',d,i⟩:=h; exact ⟨E',d,j _ _ _ i⟩)
theorem kM (h:CW P n x (tX (λE W=>CW P n y Q E W) Q) E W):CW P n (.seq x y) Q E W:=λa ha=>
 wpIn_seq (kl (h a ha) (λe i p h=>by
  cases e with
  | normal=>obtain ⟨E',d,j⟩:=h; exact j i d
  | _=>exact h))
theorem nf (h:Q .normal E W):CW P n .skip Q E W:=λ_ ha=>wpIn_skip ⟨E,ha,h⟩
theorem lJ (h:Q .ret E W):CW P n .ret Q E W:=λ_ ha=>wpIn_ret ⟨E,ha,h⟩
theorem mX {id:Nat} (h:Q (.exit id) E W):CW P n (.exit id) Q E W:=λ_ ha=>wpIn_exit ⟨E,ha,h⟩
theorem ma {id:Nat} (h:CW P n c (Ai id Q) E W):CW P n (.block id c) Q E W:=λa ha=>
 wpIn_block (kl (h a ha) (λe u v h=>by
  cases e with
  | exit j=>
   obtain ⟨E',d,i⟩:=h
   simp only [Exit.inBlock]
   simp only [Ai] at i
   split at i
   ·rename_i p; rw [bD p]; exact ⟨E',d,i⟩
   ·rename_i p; rw [bG p]; exact ⟨E',d,i⟩
  | _=>exact h))
theorem Tg {co:Operand} {b:Bool} (d:kP E co= .bool b) (j:b=true→CW P n x Q E W) (i:b=false→CW P n y Q E W):CW P n (.cond co x y) Q E W:=λa ha=>by
 refine wpIn_cond_split (t:=b) (by rw [ha.eval]; exact d) (λh=>j h a ha) (λh=>i h a ha)
theorem yR {co:Operand} (d:kP E co= .bool true) (h:CW P n x Q E W):CW P n (.cond co x y) Q E W:=Tg d (λ_=>h) (λh=>by cases h)
theorem sX {co:Operand} (d:kP E co= .bool false) (h:CW P n y Q E W):CW P n (.cond co x y) Q E W:=Tg d (λh=>by cases h) (λ_=>h)
theorem kK {id:Nat} {l:List Oper} (h:LW P n l.toArray Q l E W):CW P n (.region id l.toArray false) Q E W:=λa ha=>wpIn_region_lit (h a ha)
theorem lu (h:Q .normal E W):LW P n ops Q [] E W:=λ_ ha=>wpListIn_nil ⟨E,ha,h⟩
theorem MA {P:Program} {F:Fence} {n:Nat} {c:Code} {Q:Exit→Act→World→Prop} {a:Act} {w:World} (I:Nat→Act→World→Prop) (m:Nat) (u:I m a w) (round:∀m a w,I m a w→c.wpIn F n P (Exit.then (λv x=>∃j,j < m∧I j v x) Q) a w):(Code.loop c).wpIn F n P Q a w:=by
 classical
 let J:Act→World→Prop:=λa w=>∃m,I m a w
 have least:∀a w,J a w→∃m,I m a w∧∀k,I k a w→m≤k:=λa w ⟨m,hm⟩=>by
  induction m using Nat.strongRecOn with
  | _ m ih=>
   by_cases h:∃k,k < m∧I k a w
   ·obtain ⟨k,hk,d⟩:=h; exact ih k hk d
   ·exact ⟨m,hm,λk d=>Nat.le_of_not_lt λi=>h ⟨k,i,d⟩⟩
 let μ:Act→World→Nat:=λa w=>if h:J a w then Classical.choose (least a w h) else 0
 have p:∀a w (h:J a w),I (μ a w) a w∧∀k,I k a w→μ a w≤k:=λa w h=>by
  have e:μ a w=Classical.choose (least a w h):=dif_pos h
  rw [e]; exact Classical.choose_spec (least a w h)
 refine wpIn_loop J μ ⟨m,u⟩ λa w z=>kl (round _ a w (p a w z).1) λe v x h=>?_
 cases e with
 | normal=>obtain ⟨j,i,d⟩:=h; exact ⟨⟨j,d⟩,Nat.lt_of_le_of_lt ((p v x ⟨j,d⟩).2 j d) i⟩
 | _=>exact h
theorem nn (I:Nat→(Nat→Value)→World→Prop) (m:Nat) (d:I m E W) (round:∀m E W,I m E W→CW P n c (tX (λE' W'=>∃i,i < m∧I i E' W') Q) E W):CW P n (.loop c) Q E W:=λa ha=>
 MA (λm a w=>∃E,Ag n a E∧I m E w) m ⟨E,ha,d⟩ (λm a w ⟨E,ha,v⟩=>
  kl (round m E w v a ha) (λe x z h=>by
   cases e with
   | normal=>obtain ⟨E',p,i,u,j⟩:=h; exact ⟨i,u,E',p,j⟩
   | _=>exact h))
def wk (n:Nat) (ops:Array Oper) (E:Nat→Value) (o:Oper):Prop :=
 o.guard=none∨∃j want t,o.guard=some (j,want)∧(ops[j]?).bind (·.dst)=some t∧t < n∧E t= .bool want
theorem wk.of {a:Act} (h:wk n ops E o) (ha:Ag n a E):Region.wanted o (yielded ops a.tmps)=true:=by
 rcases h with h | ⟨j,want,t,i,p,u,d⟩
 ·simp [Region.wanted,h]
 ·simp [Region.wanted,i,ha.yield p u d]
theorem UE {d:Nat} {v:Value} {W':World} (hw:wk n ops E o) (i:o.dst=some d) (j:d < n) (p:(execOp (kP E) o).run P W= .ok (.value v) W') (h:LW P n ops Q rest (qu E d v) W'):LW P n ops Q (o::rest) E W:=λa ha=>by
 unfold wpListIn
 rw [bD (hw.of ha)]
 unfold Oper.wpIn
 refine ⟨λ_ _=>trivial,?_⟩
 rw [ha.eval,Dq p (by simp),Oper.uponIn_value,i]
 exact h _ (ha.put j v)
theorem VP {W':World} (hw:wk n ops E o) (d:o.dst=none) (i:(execOp (kP E) o).run P W= .ok .skip W') (h:LW P n ops Q rest E W'):LW P n ops Q (o::rest) E W:=λa ha=>by
 unfold wpListIn
 rw [bD (hw.of ha)]
 unfold Oper.wpIn
 refine ⟨λ_ _=>trivial,?_⟩
 rw [ha.eval,Dq i (by simp),Oper.uponIn_skip,d]
 exact h _ (ha.DE _)
theorem Wv {f:FuncId} {args:Array Value} {d:Nat} (hw:wk n ops E o) (j:o.dst=some d) (u:d < n) (w:(execOp (kP E) o).run P W= .ok (.enter f args) W) (h:Calls P f args W λe i=>∃v,e= .returned v∧LW P n ops Q rest (qu E d v) i):LW P n ops Q (o::rest) E W:=λa ha=>by
 unfold wpListIn
 rw [bD (hw.of ha)]
 unfold Oper.wpIn
 refine ⟨λ_ _=>trivial,?_⟩
 rw [ha.eval,Dq w (by simp),Oper.uponIn_enter]
 refine Nf (dA h ?_)
 rintro e i ⟨v,rfl,p⟩
 simp only [j]
 exact p _ (ha.put u v)
theorem aaj {d j t:Nat} {want:Bool} (p:o.dst=some d) (w:d < n) (u:o.guard=some (j,want)) (v:(ops[j]?).bind (·.dst)=some t) (x:t < n) (i:E t= .bool (!want)) (h:LW P n ops Q rest (qu E d undef) W):LW P n ops Q (o::rest) E W:=λa ha=>by
 unfold wpListIn
 have z:=ha.yield v x i
 rw [bG (by simp [Region.wanted,u,z])]
 rw [p]
 exact ⟨λ_ _=>trivial,h _ (ha.put w _)⟩
end
end Go.Proofs.YtjjjihkifgdhgaaGreatDoor
namespace Go.Proofs.YtjjjihkifgdhgaaGreatDoor
open Go.RowKit
variable {dd:Bool}
abbrev lE:=Nat→Option Obj
def hp (W:World):lE:=λb=>W.heap[b]?
def wQ (dd:Bool) (a b:Nat):Prop:=dd=true→a≤b
theorem wQ.of {dd:Bool} {a b:Nat} (h:a≤b):wQ dd a b:=λ_=>h
theorem wQ.trans {dd:Bool} {a b c:Nat} (h:wQ dd a b) (k:wQ dd b c):wQ dd a c:=λe=>dx (h e) (k e)
structure Ex (dd:Bool) (w W:World):Prop where
 os:W.os=w.os
 tape:W.tape=w.tape
 output:W.output=w.output
 drawn:wQ dd w.drawn W.drawn
 size:w.heap.size≤W.heap.size
 nL:∀b,b < w.heap.size→W.heap[b]? =w.heap[b]?
theorem Ex.refl (w:World):Ex dd w w:=⟨rfl,rfl,rfl,wQ.of (aR _),aR _,λ_ _=>rfl⟩
theorem Ex.trans {a b c:World} (h:Ex dd a b) (k:Ex dd b c):Ex dd a c :=
 ⟨k.os.trans h.os,k.tape.trans h.tape,k.output.trans h.output,wQ.trans h.drawn k.drawn,dx h.size k.size,λi d=>(k.nL i (ey d h.size)).trans (h.nL i d)⟩
theorem Ex.drew (w:World):Ex dd w w.drew:=⟨rfl,rfl,rfl,wQ.of (jt _),aR _,λ_ _=>rfl⟩
theorem Ex.alloc (w:World) (o:Obj):Ex dd w (w.alloc o):=⟨rfl,rfl,rfl,wQ.of (aR _),by show w.heap.size≤(w.heap.push o).size; simp,λk hk=>Below.heap_alloc w o k hk⟩
theorem Ex.nx {w W:World} (h:Ex true w W):Ex dd w W:=⟨h.os,h.tape,h.output,wQ.of (h.drawn rfl),h.size,h.nL⟩
def lx (μ μ':lE):Prop:=∀b o,μ b=some o→μ' b=some o
theorem lx.refl (μ:lE):lx μ μ:=λ_ _ h=>h
theorem lx.trans {a b c:lE} (h:lx a b) (k:lx b c):lx a c:=λx o d=>k x o (h x o d)
structure ST (dd:Bool) (F:Nat→Prop) (w W:World) (μ:lE) (L:List (Nat×Obj)):Prop where
 os:W.os=w.os
 tape:W.tape=w.tape
 output:W.output=w.output
 drawn:wQ dd w.drawn W.drawn
 size:w.heap.size≤W.heap.size
 nL:∀b,b < w.heap.size→¬F b→W.heap[b]? =w.heap[b]?
 mem:∀b o,μ b=some o→W.heap[b]? =some o
 box:∀b o,(b,o)∈L→W.heap[b]? =some o∧μ b=none∧(w.heap.size≤b∨F b)
 nd:(L.map (·.1)).Nodup
def mN:Nat→Prop:=λ_=>False
theorem ST.start (w:World):ST dd mN w w (hp w) [] :=
 ⟨rfl,rfl,rfl,wQ.of (aR _),aR _,λ_ _ _=>rfl,λ_ _ h=>h,λ_ _ h=>(by cases h),by simp⟩
section
variable {F:Nat→Prop} {w W W':World} {μ μ':lE} {L L':List (Nat×Obj)}
theorem ST.ex (h:ST dd mN w W μ L):Ex dd w W:=⟨h.os,h.tape,h.output,h.drawn,h.size,λb hb=>h.nL b hb (λx=>x)⟩
theorem WT (W:World) (o:Obj):(W.alloc o).heap[W.heap.size]? =some o:=heap_alloc_new W o
theorem qD {W:World} {b:Nat} {o:Obj} (h:W.heap[b]? =some o):b < W.heap.size:=(dK.1 h).1
theorem ST.drew (h:ST dd F w W μ L):ST dd F w W.drew μ L :=
 ⟨h.os,h.tape,h.output,wQ.trans h.drawn (wQ.of (jt _)),h.size,h.nL,h.mem,h.box,h.nd⟩
theorem ST.Lm (h:ST dd F w W μ L) {b:Nat} {o:Obj} (hb:(b,o)∈L):b < W.heap.size:=qD (h.box b o hb).1
theorem ST.alloc (h:ST dd F w W μ L) (o:Obj):ST dd F w (W.alloc o) μ ((W.heap.size,o)::L):=by
 refine ⟨h.os,h.tape,h.output,h.drawn,dx h.size (Ex.alloc (dd:=true) W o).size,λb hb n=>?_,λb d hb=>?_,λb d hb=>?_,?_⟩
 ·rw [(Ex.alloc (dd:=true) W o).nL b (ey hb h.size)]; exact h.nL b hb n
 ·have:=h.mem b d hb
  rw [(Ex.alloc (dd:=true) W o).nL b (qD this)]; exact this
 ·rcases aP.1 hb with e | hb
  ·cases e
   refine ⟨WT W o,?_,.inl h.size⟩
   cases hm:μ W.heap.size with
   | none=>rfl
   | some x=>have:=qD (h.mem _ _ hm); omega
  ·obtain ⟨h1,i,j⟩:=h.box b d hb
   exact ⟨by rw [(Ex.alloc (dd:=true) W o).nL b (qD h1)]; exact h1,i,j⟩
 ·simp only [aU,dO]
  refine ⟨λhm=>?_,h.nd⟩
  obtain ⟨⟨b,d⟩,hb,e⟩:=aS.1 hm
  have:=h.Lm hb
  simp at e
  omega
theorem ST.put {A B:List (Nat×Obj)} {b:Nat} {o z:Obj} (h:ST dd F w W μ (A++(b,o)::B)) (L:W'.os=W.os∧W'.tape=W.tape∧W'.output=W.output∧W.drawn≤W'.drawn∧W'.heap.size=W.heap.size) (j:∀k,k≠b→W'.heap[k]? =W.heap[k]?) (hb:W'.heap[b]? =some z):ST dd F w W' μ (A++(b,z)::B):=by
 obtain ⟨h1,E,G,I,J⟩:=L
 have i:=h.box b o (by simp)
 have d:=h.nd
 simp only [cL,aU] at d
 have n:∀x o,(x,o)∈A→x≠b:=λx o u e=>by
  subst e
  have:=(cD.1 d).2.2 x (aS.2 ⟨_,u,rfl⟩) x (by simp)
  exact this rfl
 have p:∀x o,(x,o)∈B→x≠b:=λx o u e=>by
  subst e
  have:=(dO.1 (cD.1 d).2.1).1
  exact this (aS.2 ⟨_,u,rfl⟩)
 refine ⟨h1.trans h.os,E.trans h.tape,G.trans h.output,wQ.trans h.drawn (wQ.of I),by rw [J]; exact h.size,λk hk v=>?_,λk x hk=>?_,λk x hk=>?_,by simpa using d⟩
 ·rw [j k (λe=>by subst e; rcases i.2.2 with h | h; omega; exact v h)]
  exact h.nL k hk v
 ·rw [j k (λe=>by subst e; rw [i.2.1] at hk; cases hk)]
  exact h.mem k x hk
 ·rcases aO.1 hk with hk | hk
  ·rw [j k (n k x hk)]; exact h.box k x (by simp [hk])
  ·rcases aP.1 hk with e | hk
   ·cases e; exact ⟨hb,i.2⟩
   ·rw [j k (p k x hk)]; exact h.box k x (by simp [hk])
def Lo (F:Nat→Prop) (w:World) (μ μ':lE):Prop:=∀b,b < w.heap.size→¬F b→μ' b=μ b
theorem Lo.refl {F:Nat→Prop} {w:World} {μ:lE}:Lo F w μ μ:=λ_ _ _=>rfl
theorem Lo.trans {F:Nat→Prop} {w:World} {a b c:lE} (h:Lo F w a b) (k:Lo F w b c):Lo F w a c:=λx i d=>(k x i d).trans (h x i d)
def grow (μ:lE) (W W':World):lE:=λb=>if b < W.heap.size then μ b else W'.heap[b]?
theorem ST.Jq (h:ST dd F w W μ L) {b:Nat} {o:Obj} (hb:μ b=some o):b < W.heap.size:=qD (h.mem b o hb)
theorem ST.call (h:ST dd F w W μ L) (d:Ex dd W W'):ST dd F w W' (grow μ W W') L:=by
 refine ⟨d.os.trans h.os,d.tape.trans h.tape,d.output.trans h.output,wQ.trans h.drawn d.drawn,dx h.size d.size,λb hb p=>?_,λb o hb=>?_,λb o hb=>?_,h.nd⟩
 ·rw [d.nL b (ey hb h.size)]; exact h.nL b hb p
 ·unfold grow at hb
  split at hb
  ·rename_i i; rw [d.nL b i]; exact h.mem b o hb
  ·exact hb
 ·obtain ⟨h1,j,n⟩:=h.box b o hb
  exact ⟨by rw [d.nL b (qD h1)]; exact h1,by unfold grow; rw [bD (qD h1)]; exact j,n⟩
theorem ST.Vo (h:ST dd F w W μ L) (W':World):lx μ (grow μ W W'):=λb o hb=>by
 unfold grow; rw [bD (h.Jq hb)]; exact hb
theorem ST.nx (h:ST dd F w W μ' L) (d:lx μ μ'):ST dd F w W μ L :=
 ⟨h.os,h.tape,h.output,h.drawn,h.size,h.nL,λb o hb=>h.mem b o (d b o hb),λb o hb=>by
  obtain ⟨h1,i,j⟩:=h.box b o hb
  refine ⟨h1,?_,j⟩
  cases hm:μ b with
  | none=>rfl
  | some x=>(have:=d b x hm; rw [i] at this; cases this),h.nd⟩
theorem ST.LH (h:ST dd F w W μ L) (d:Ex dd W W'):ST dd F w W' μ L:=(h.call d).nx (h.Vo W')
theorem ST.kC (h:ST dd F w W μ L):lx μ (hp W):=h.mem
def RJ (μ:lE) (b:Nat) (o:Obj):lE:=λk=>if k=b then some o else μ k
theorem ST.Ni {A B:List (Nat×Obj)} {b:Nat} {o:Obj} (h:ST dd F w W μ (A++(b,o)::B)):ST dd F w W (RJ μ b o) (A++B):=by
 have j:=h.box b o (by simp)
 have d:=h.nd
 simp only [cL,aU] at d
 have p:∀x y,(x,y)∈A++B→x≠b:=λx y i e=>by
  subst e
  rcases aO.1 i with i | i
  ·exact (cD.1 d).2.2 x (aS.2 ⟨_,i,rfl⟩) x (by simp) rfl
  ·exact (dO.1 (cD.1 d).2.1).1 (aS.2 ⟨_,i,rfl⟩)
 refine ⟨h.os,h.tape,h.output,h.drawn,h.size,h.nL,λk x hk=>?_,λk x hk=>?_,?_⟩
 ·unfold RJ at hk
  split at hk
  ·rename_i e; cases hk; rw [e]; exact j.1
  ·exact h.mem k x hk
 ·have n:(k,x)∈A++(b,o)::B:=by
   rcases aO.1 hk with h | h <;> simp [h]
  obtain ⟨h1,u,v⟩:=h.box k x n
  exact ⟨h1,by unfold RJ; rw [bG (p k x hk)]; exact u,v⟩
 ·have:(A++B).Sublist (A++(b,o)::B):=List.Sublist.append (List.Sublist.refl A) (List.sublist_cons_self _ _)
  exact List.Nodup.sublist (this.map _) h.nd
theorem ST.MU {A B:List (Nat×Obj)} {b:Nat} {o:Obj} (h:ST dd F w W μ (A++(b,o)::B)):lx μ (RJ μ b o):=λk x hk=>by
 unfold RJ
 split
 ·rename_i e; subst e; rw [(h.box k o (by simp)).2.1] at hk; cases hk
 ·exact hk
theorem ST.UU {A B:List (Nat×Obj)} {b:Nat} {o:Obj} (h:ST dd F w W μ (A++(b,o)::B)):Lo F w μ (RJ μ b o):=λk hk i=>by
 refine bG (λe=>?_)
 subst e
 rcases (h.box k o (by simp)).2.2 with d | d
 ·omega
 ·exact i d
theorem ST.drop {A B:List (Nat×Obj)} {p:Nat×Obj} (h:ST dd F w W μ (A++p::B)):ST dd F w W μ (A++B) :=
 (h.Ni (b:=p.1) (o:=p.2)).nx h.MU
end
abbrev tu (α:Type):=lE→List Value→α→Prop
def Sl {α:Type} (R:tu α) (k:Nat) (μ:lE) (v:Value) (l:List α):Prop :=
 ∃A c,v= .slice A l.length c∧l.length≤c∧c≤maxLen∧(0 < l.length→∃b off cs T fr,A=some ⟨b,off,none⟩∧μ b=some (.cells cs T fr)∧
  ∀i x,l[i]? =some x→∃ys,ys.length=k∧R μ ys x∧∀j y,ys[j]? =some y→cs[off+i*k+j]? =some y)
def At (μ:lE) (v:Value) (ys:List Value):Prop :=
 ∃b off cs T fr,v= .pointer (some ⟨b,off,none⟩)∧μ b=some (.cells cs T fr)∧∀j y,ys[j]? =some y→cs[off+j]? =some y
def Fr (B:Nat) (v:Value):Prop:=∀b,v.ownBlock=some b→B≤b
def Oz {α:Type} (R:tu α):Prop:=∀μ μ' ys x,lx μ μ'→R μ ys x→R μ' ys x
def Pl {α:Type} (enc:α→List Value):tu α:=λ_ ys x=>ys=enc x
theorem Pl.mono {α:Type} (enc:α→List Value):Oz (Pl enc):=λ_ _ _ _ _ h=>h
theorem Sl.mono {α:Type} {R:tu α} (J:Oz R) {k:Nat} {μ μ':lE} {v:Value} {l:List α} (h:Sl R k μ v l) (j:lx μ μ'):Sl R k μ' v l:=by
 obtain ⟨A,c,h1,n,p,u⟩:=h
 refine ⟨A,c,h1,n,p,λL=>?_⟩
 obtain ⟨b,off,cs,T,fr,w,z,E⟩:=u L
 exact ⟨b,off,cs,T,fr,w,j _ _ z,λi x M=>let ⟨ys,G,I,d⟩:=E i x M; ⟨ys,G,J _ _ _ _ j I,d⟩⟩
theorem At.mono {μ μ':lE} {v:Value} {ys:List Value} (h:At μ v ys) (j:lx μ μ'):At μ' v ys:=by
 obtain ⟨b,off,cs,T,fr,h1,d,i⟩:=h
 exact ⟨b,off,cs,T,fr,h1,j _ _ d,i⟩
theorem Sl.len {α:Type} {R:tu α} {k:Nat} {μ:lE} {v:Value} {l:List α} (h:Sl R k μ v l):l.length≤9223372036854775807:=by
 obtain ⟨A,c,h1,i,d,j⟩:=h
 unfold maxLen at d
 omega
theorem Sl.nil {α:Type} (R:tu α) (k:Nat) (μ:lE):Sl R k μ (.slice none 0 0) []:=⟨none,0,rfl,aR _,by decide,λh=>absurd h (by simp)⟩
theorem Fr.mono {B B':Nat} {v:Value} (h:Fr B v) (d:B'≤B):Fr B' v:=λb hb=>dx d (h b hb)
theorem Fr.nil (B:Nat):Fr B (.slice none 0 0):=λb hb=>by simp [Value.ownBlock] at hb
end Go.Proofs.YtjjjihkifgdhgaaGreatDoor
namespace Go.Proofs.YtjjjihkifgdhgaaGreatDoor
open Go.RowKit
variable [M:Md]
variable {dd:Bool}
section
variable {P:Program} {n:Nat} {Q:tH} {E:Nat→Value} {W:World} {ops:Array Oper} {rest:List Oper}
 {d:Option Nat} {ty:TypeId} {pos:String} {af:Array Edge} {g:Option (Nat×Bool)}
 {F:Nat→Prop} {w:World} {μ:lE} {L:List (Nat×Obj)}
def nF (P:Program) (E:Nat→Value) (o:Oper) (W:World) (v:Value) (W':World):Prop:=(execOp (kP E) o).run P W= .ok (.value v) W'
theorem IW {o:Oper} {dd:Nat} {v:Value} (hw:wk n ops E o) (d:o.dst=some dd) (i:dd < n) (j:nF P E o W v W) (h:LW P n ops Q rest (qu E dd v) W):LW P n ops Q (o::rest) E W:=UE hw d i j h
theorem kD {x:Operand} {v:Value} (i:kP E x=v):nF P E ⟨d,.move x,ty,pos,af,g⟩ W v W:=by rw [←i]; rfl
theorem oe {x:Operand} {v:Value} (i:kP E x=v):nF P E ⟨d,.assign x,ty,pos,af,g⟩ W v W:=by rw [←i]; rfl
theorem lK {c x y:Operand} {v:Value} (i:kP E c= .bool true) (j:kP E x=v):nF P E ⟨d,.pick c x y,ty,pos,af,g⟩ W v W:=by
 show (do pure (.value (if ←asBool (kP E c) then kP E x else kP E y)):Sem Next).run P W=_
 rw [i,←j]; simp [asBool]
theorem lN {c x y:Operand} {v:Value} (i:kP E c= .bool false) (j:kP E y=v):nF P E ⟨d,.pick c x y,ty,pos,af,g⟩ W v W:=by
 show (do pure (.value (if ←asBool (kP E c) then kP E x else kP E y)):Sem Next).run P W=_
 rw [i,←j]; simp [asBool]
theorem Ei {x:Operand} {i:Nat} {vs:Array Value} {v:Value} (n:kP E x= .tuple vs) (j:vs[i]? =some v):nF P E ⟨d,.extract x i,ty,pos,af,g⟩ W v W:=by
 show (do pure (.value (←Instr.extract (kP E x) i)):Sem Next).run P W=_
 rw [n]; simp [Instr.extract,j]
theorem oF {u:TypeId} {x:Operand} {b:Bool} (i:kP E x= .bool b):nF P E ⟨d,.unOp .not u x,ty,pos,af,g⟩ W (.bool !b) W:=by
 show (do pure (.value (←Op.unary .not (kP E x))):Sem Next).run P W=_
 rw [i]; simp [Op.unary]
theorem SG {fn:Fn} {first caps:Array Operand} {v:Value} (i:.func fn (first.map (kP E)) (caps.map (kP E))=v):nF P E ⟨d,.makeFunc fn first caps,ty,pos,af,g⟩ W v W:=by
 show (do pure (.value (←Instr.makeFunc fn (first.map (kP E)) (caps.map (kP E)))):Sem Next).run P W=_
 rw [←i]; simp [Instr.makeFunc]
def Ox (k:IntKind) (op:BinOp) (a b:Int):Option Value :=
 match op with
 | .eql=>some (.bool (a==b))
 | .neq=>some (.bool (a != b))
 | .lss=>some (.bool (decide (a < b)))
 | .leq=>some (.bool (decide (a≤b)))
 | .gtr=>some (.bool (decide (a > b)))
 | .geq=>some (.bool (decide (a≥b)))
 | .add=>some (.int k (k.wrap (a+b)))
 | .sub=>some (.int k (k.wrap (a-b)))
 | .mul=>some (.int k (k.wrap (a*b)))
 | _=>none
theorem lY {op:BinOp} {tx tv:TypeId} {x y:Operand} {k:IntKind} {a b:Int} {v:Value} (j:kP E x= .int k a) (n:kP E y= .int k b) (i:Ox k op a b=some v) :
  nF P E ⟨d,.binOp op tx x y tv,ty,pos,af,g⟩ W v W:=by
 show (do let r ←(do eqGuard op tx x y (kP E x) (kP E y); binOp op tx (kP E x) (kP E y)); pure (.value r):Sem Next).run P W=_
 rw [j,n]
 cases op <;> simp [Ox] at i <;> subst i <;> simp [eqGuard,binOp,Op.intCmp,Op.intArith]
def XF (op:BinOp) (a b:ByteArray):Option Value :=
 match op with
 | .eql=>some (.bool (a.toList==b.toList))
 | .neq=>some (.bool !(a.toList==b.toList))
 | .lss=>some (.bool (Op.bytesLess a.toList b.toList))
 | .leq=>some (.bool (Op.bytesLess a.toList b.toList||a.toList==b.toList))
 | .gtr=>some (.bool !(Op.bytesLess a.toList b.toList||a.toList==b.toList))
 | .geq=>some (.bool !(Op.bytesLess a.toList b.toList))
 | _=>none
def mf (a b:ByteArray):Option ByteArray:=if ((a.size+b.size:Nat):Int) > IntKind.i64.max then none else some (a++b)
theorem Gt {op:BinOp} {tx tv:TypeId} {x y:Operand} {a b:ByteArray} {v:Value} (j:kP E x= .string a) (n:kP E y= .string b) (i:XF op a b=some v) :
  nF P E ⟨d,.binOp op tx x y tv,ty,pos,af,g⟩ W v W:=by
 show (do let r ←(do eqGuard op tx x y (kP E x) (kP E y); binOp op tx (kP E x) (kP E y)); pure (.value r):Sem Next).run P W=_
 rw [j,n]
 cases op <;> simp [XF] at i <;> subst i <;> simp [eqGuard,binOp,Op.stringOp]
theorem pP {tx tv:TypeId} {x y:Operand} {a b r:ByteArray} (j:kP E x= .string a) (n:kP E y= .string b) (i:mf a b=some r) :
  nF P E ⟨d,.binOp .add tx x y tv,ty,pos,af,g⟩ W (.string r) W:=by
 show (do let r ←(do eqGuard .add tx x y (kP E x) (kP E y); binOp .add tx (kP E x) (kP E y)); pure (.value r):Sem Next).run P W=_
 rw [j,n]
 simp only [mf] at i
 split at i
 ·cases i
 ·rename_i hle; cases i; simp [eqGuard,binOp,Op.stringOp]; simpa using hle
theorem WG {op:BinOp} {tx tv:TypeId} {x y:Operand} {a b:Bool} (j:P.underlying tx=some .bool) (n:kP E x= .bool a) (p:kP E y= .bool b) (i:op= .neq) :
  nF P E ⟨d,.binOp op tx x y tv,ty,pos,af,g⟩ W (.bool (a != b)) W:=by
 subst i
 show (do let r ←(do eqGuard .neq tx x y (kP E x) (kP E y); binOp .neq tx (kP E x) (kP E y)); pure (.value r):Sem Next).run P W=_
 rw [n,p]
 simp [eqGuard,binOp,Op.equal,Op.maxDepth,run_equalIn_bool' W 9999 tx a b j,bne]
theorem ER {tx tv:TypeId} {x y:Operand} {a b:Array Value} {r:Bool} (n:kP E x= .agg a) (p:kP E y= .agg b) (i:∀W,(eqGuard .eql tx x y (.agg a) (.agg b)).run P W= .ok () W) (j:∀W,(binOp .eql tx (.agg a) (.agg b)).run P W= .ok (.bool r) W):nF P E ⟨d,.binOp .eql tx x y tv,ty,pos,af,g⟩ W (.bool r) W:=by
 show (do let r ←(do eqGuard .eql tx x y (kP E x) (kP E y); binOp .eql tx (kP E x) (kP E y)); pure (.value r):Sem Next).run P W=_
 rw [n,p]; simp [i W,j W]
theorem TH {tx tv:TypeId} {x y:Operand} {a b:Array Value} {r:Bool} (n:kP E x= .agg a) (p:kP E y= .agg b) (i:∀W,(eqGuard .neq tx x y (.agg a) (.agg b)).run P W= .ok () W) (j:∀W,(binOp .neq tx (.agg a) (.agg b)).run P W= .ok (.bool r) W):nF P E ⟨d,.binOp .neq tx x y tv,ty,pos,af,g⟩ W (.bool r) W:=by
 show (do let r ←(do eqGuard .neq tx x y (kP E x) (kP E y); binOp .neq tx (kP E x) (kP E y)); pure (.value r):Sem Next).run P W=_
 rw [n,p]; simp [i W,j W]
theorem Ga {t e:TypeId} (dd:Nat) (d:P.underlying t=some (.pointer e)) (a:Option Addr) (W:World):(Op.equalIn (dd+1) t (.pointer a) (.pointer none)).run P W= .ok a.isNone W:=by
 cases a <;> simp [Op.equalIn,bI d]
theorem xX {tx tv e:TypeId} {x y:Operand} {a:Option Addr} (j:P.underlying tx=some (.pointer e)) (n:kP E x= .pointer a) (p:kP E y= .pointer none) :
  nF P E ⟨d,.binOp .eql tx x y tv,ty,pos,af,g⟩ W (.bool a.isNone) W:=by
 show (do let r ←(do eqGuard .eql tx x y (kP E x) (kP E y); binOp .eql tx (kP E x) (kP E y)); pure (.value r):Sem Next).run P W=_
 rw [n,p]
 have i:=Ga 9999 j a W
 simp [eqGuard,binOp,Op.equal,show Op.maxDepth=9999+1 from rfl,i]
theorem HU {tx tv e:TypeId} {x y:Operand} {a:Option Addr} (j:P.underlying tx=some (.pointer e)) (n:kP E x= .pointer a) (p:kP E y= .pointer none) :
  nF P E ⟨d,.binOp .neq tx x y tv,ty,pos,af,g⟩ W (.bool !a.isNone) W:=by
 show (do let r ←(do eqGuard .neq tx x y (kP E x) (kP E y); binOp .neq tx (kP E x) (kP E y)); pure (.value r):Sem Next).run P W=_
 rw [n,p]
 have i:=Ga 9999 j a W
 simp [eqGuard,binOp,Op.equal,show Op.maxDepth=9999+1 from rfl,i]
theorem rU {x:Operand} {t:TypeId} {s:ByteArray} (i:P.underlying t=some .string) (j:kP E x= .string s):nF P E ⟨d,.call ⟨.builtin .len,#[x],#[t]⟩,ty,pos,af,g⟩ W (.int .i64 s.size) W:=by
 show (do let d ←resolve (kP E) ⟨.builtin .len,#[x],#[t]⟩ ty; invoke d.target d.args:Sem Next).run P W=_
 simp [resolve,invoke,builtin,Builtin.len_,bI i,j,goInt]
theorem Hl {x:Operand} {t e:TypeId} {A:Option Addr} {l c:Nat} (i:P.underlying t=some (.slice e)) (j:kP E x= .slice A l c):nF P E ⟨d,.call ⟨.builtin .len,#[x],#[t]⟩,ty,pos,af,g⟩ W (.int .i64 l) W:=by
 show (do let d ←resolve (kP E) ⟨.builtin .len,#[x],#[t]⟩ ty; invoke d.target d.args:Sem Next).run P W=_
 simp [resolve,invoke,builtin,Builtin.len_,bI i,j,goInt]
theorem nv {α:Type} {R:tu α} {k:Nat} {m:lE} {x:Operand} {t e:TypeId} {v:Value} {l:List α} (j:P.underlying t=some (.slice e)) (n:kP E x=v) (i:Sl R k m v l):nF P E ⟨d,.call ⟨.builtin .len,#[x],#[t]⟩,ty,pos,af,g⟩ W (.int .i64 l.length) W:=by
 obtain ⟨A,c,rfl,_⟩:=i
 exact Hl j n
theorem TK {t:TypeId} {x j:Operand} {z:IntKind} {s:ByteArray} {i:Int} {c:UInt8} (v:P.underlying t=some .string) (w:kP E x= .string s) (p:kP E j= .int z i) (n:0≤i) (u:s[i.toNat]? =some c) :
  nF P E ⟨d,.index t x j,ty,pos,af,g⟩ W (.int .u8 c.toNat) W:=by
 show (do pure (.value (←Instr.index t (kP E x) (kP E j))):Sem Next).run P W=_
 rw [w,p]
 simp [Instr.index,asIntOf,bI v,n,u]
def mE (P:Program) (t:TypeId) (f off:Nat):Prop:=∀b o w,(Instr.fieldAt t (.pointer (some ⟨b,o,none⟩)) f).run P w= .ok (.pointer (some ⟨b,o+off,none⟩)) w
theorem kN {t:TypeId} {x:Operand} {f off b o:Nat} (i:mE P t f off) (j:kP E x= .pointer (some ⟨b,o,none⟩)):nF P E ⟨d,.fieldAddr t x f,ty,pos,af,g⟩ W (.pointer (some ⟨b,o+off,none⟩)) W:=by
 show (do pure (.value (←Instr.fieldAt t (kP E x) f)):Sem Next).run P W=_
 rw [j]; simp [i b o W]
theorem Em {t:TypeId} {x:Operand} {f off:Nat} {v:Value} {ys:List Value} (zs:List Value) (u:mE P t f off) (A:kP E x=v) (z:At μ v ys) (G:(ys.drop off).take zs.length=zs) :
  ∃n,At μ n zs∧∀W,nF P E ⟨d,.fieldAddr t x f,ty,pos,af,g⟩ W n W:=by
 obtain ⟨b,o,cs,T,fr,rfl,h1,p⟩:=z
 refine ⟨_,⟨b,o+off,cs,T,fr,rfl,h1,λj y i=>?_⟩,λW=>kN u A⟩
 have w:j < zs.length:=(bQ.1 i).1
 have:=p (off+j) y (by
  rw [←G,dS w,ek] at i
  exact i)
 rw [ew]
 exact this
theorem oV {x:Operand} {a:Addr} (i:kP E x= .pointer (some a)):nF P E ⟨d,.nilCheck x,ty,pos,af,g⟩ W (.pointer (some a)) W:=by
 unfold nF execOp
 simp [i]
theorem RV {α:Type} {R:tu α} {k:Nat} {t e:TypeId} {x u:Operand} {ik:IntKind} {v:Value} {i:Int} {l:List α} {x0:α} (Z:P.underlying t=some (.slice e)) (he:∀w,(sizeOf e).run P w= .ok k w) (hx:kP E x=v) (Q:kP E u= .int ik i) (Y:Sl R k μ v l) (G:0≤i) (z:l[i.toNat]? =some x0) :
  ∃p ys,ys.length=k∧R μ ys x0∧At μ p ys∧∀W,nF P E ⟨d,.indexAddr t x u,ty,pos,af,g⟩ W p W:=by
 obtain ⟨A,c,rfl,h2,h3,I⟩:=Y
 have U:i.toNat < l.length:=(bQ.1 z).1
 obtain ⟨b,off,cs,T,fr,rfl,J,L⟩:=I (by omega)
 obtain ⟨ys,M,O,n⟩:=L i.toNat x0 z
 refine ⟨.pointer (some ⟨b,off+i.toNat*k,none⟩),ys,M,O,⟨b,off+i.toNat*k,cs,T,fr,rfl,J,λj y hy=>n j y hy⟩,λW=>?_⟩
 show (do pure (.value (←Instr.indexAt t (kP E x) (kP E u))):Sem Next).run P W=_
 rw [hx,Q]
 have hb:0≤i∧i < (l.length:Int):=⟨G,by omega⟩
 simp [Instr.indexAt,asIntOf,bI Z,he W,hb,dQ]
theorem uR {α:Type} {enc:α→List Value} {k:Nat} {t e:TypeId} {x j:Operand} {O:IntKind} {v:Value} {i:Int} {l:List α} {x0:α} (L:P.underlying t=some (.slice e)) (he:∀w,(sizeOf e).run P w= .ok k w) (M:kP E x=v) (G:kP E j= .int O i) (J:Sl (Pl enc) k μ v l) (n:0≤i) (I:l[i.toNat]? =some x0) :
  ∃p,At μ p (enc x0)∧∀W,nF P E ⟨d,.indexAddr t x j,ty,pos,af,g⟩ W p W:=by
 obtain ⟨p,ys,h1,u,z,A⟩:=RV (d:=d) (ty:=ty) (pos:=pos) (af:=af) (g:=g) L he M G J n I
 cases u
 exact ⟨p,z,A⟩
theorem Of (P:Program) {W:World} {b off:Nat} {cs:Array Value} {T:TypeId} {fr:Nat×Nat} (hb:W.heap[b]? =some (.cells cs T fr)) (ys:List Value) (i:∀j y,ys[j]? =some y→cs[off+j]? =some y) :
  (loadCells ⟨b,off,none⟩ ys.length).run P W= .ok ys.toArray W :=
 jc W ⟨b,off,none⟩ ys (λj v d=>by rw [dQ,fA W b (off+j) cs T fr hb]; exact i j v d)
theorem GQ {W:World} {t:TypeId} {b off:Nat} {cs:Array Value} {T:TypeId} {fr:Nat×Nat} (d:∀w,(isAgg t).run P w= .ok true w) (ys:List Value) (i:∀w,(sizeOf t).run P w= .ok ys.length w) (hb:W.heap[b]? =some (.cells cs T fr)) (n:∀j y,ys[j]? =some y→cs[off+j]? =some y):(Instr.loadAt t (.pointer (some ⟨b,off,none⟩))).run P W= .ok (.agg ys.toArray) W:=by
 simp [Instr.loadAt,Instr.sureAddr,loadVar,d W,i W,Of P hb ys n]
theorem GJ {W:World} {t:TypeId} {b off:Nat} {cs:Array Value} {T:TypeId} {fr:Nat×Nat} (d:∀w,(isAgg t).run P w= .ok false w) {y:Value} (hb:W.heap[b]? =some (.cells cs T fr)) (j:cs[off]? =some y):(Instr.loadAt t (.pointer (some ⟨b,off,none⟩))).run P W= .ok y W:=by
 have i:W.cell? ⟨b,off,none⟩=some y:=by rw [fA W b off cs T fr hb]; exact j
 simp [Instr.loadAt,Instr.sureAddr,loadVar,d W,load,Sem.run,i]
theorem kB {t:TypeId} {x:Operand} {a v:Value} (j:kP E x=a) (i:(Instr.loadAt t a).run P W= .ok v W):nF P E ⟨d,.load t x,ty,pos,af,g⟩ W v W:=by
 show (do pure (.value (←Instr.loadAt t (kP E x))):Sem Next).run P W=_
 rw [j]; simp [i]
def ql (μ:lE) (A:List (Nat×Obj)) (W:World):Prop:=(∀b o,μ b=some o→W.heap[b]? =some o)∧∀b o,(b,o)∈A→W.heap[b]? =some o
theorem ST.has (h:ST dd F w W μ L):ql μ L W:=⟨h.mem,λb o hb=>(h.box b o hb).1⟩
theorem ql.sub {μ':lE} {A A':List (Nat×Obj)} (h:ql μ A W) (i:lx μ' μ) (d:∀p,p∈A'→p∈A):ql μ' A' W:=⟨λb o hb=>h.1 b o (i b o hb),λb o hb=>h.2 b o (d _ hb)⟩
theorem lL {A:List (Nat×Obj)} (hH:ql μ A W) {t:TypeId} {p:Value} {ys:List Value} (hp:At μ p ys) (i:∀w,(isAgg t).run P w= .ok true w) (j:∀w,(sizeOf t).run P w= .ok ys.length w) :
  (Instr.loadAt t p).run P W= .ok (.agg ys.toArray) W:=by
 obtain ⟨b,off,cs,T,fr,rfl,h1,d⟩:=hp
 exact GQ i ys j (hH.1 _ _ h1) d
theorem sJ {A:List (Nat×Obj)} (hH:ql μ A W) {t:TypeId} {p y:Value} (hp:At μ p [y]) (i:∀w,(isAgg t).run P w= .ok false w) :
  (Instr.loadAt t p).run P W= .ok y W:=by
 obtain ⟨b,off,cs,T,fr,rfl,h1,d⟩:=hp
 exact GJ i (hH.1 _ _ h1) (d 0 y rfl)
theorem kI {A:List (Nat×Obj)} (hH:ql μ A W) {t:TypeId} {b off:Nat} {cs:Array Value} {T:TypeId} {fr:Nat×Nat} (p:(b,Obj.cells cs T fr)∈A) (ys:List Value) (v:(cs.toList.drop off).take ys.length=ys) (n:∀w,(isAgg t).run P w= .ok true w) (u:∀w,(sizeOf t).run P w= .ok ys.length w):(Instr.loadAt t (.pointer (some ⟨b,off,none⟩))).run P W= .ok (.agg ys.toArray) W :=
 GQ n ys u (hH.2 _ _ p) (λj y d=>by
  have i:j < ys.length:=(bQ.1 d).1
  rw [←v,dS i,ek] at d
  simpa using d)
theorem lg {A:List (Nat×Obj)} (hH:ql μ A W) {t:TypeId} {b off:Nat} {cs:Array Value} {T:TypeId} {fr:Nat×Nat} (i:(b,Obj.cells cs T fr)∈A) {y:Value} (j:cs[off]? =some y) (d:∀w,(isAgg t).run P w= .ok false w):(Instr.loadAt t (.pointer (some ⟨b,off,none⟩))).run P W= .ok y W :=
 GJ d (hH.2 _ _ i) j
theorem nP {t:TypeId} {ps:Array (Nat×Operand)} {j:Array (Nat×Value)} {v:Value} (n:ps.map (λ(i,x)=>(i,kP E x))=j) (p:∀W,(Instr.build t j).run P W= .ok v W):nF P E ⟨d,.build t ps,ty,pos,af,g⟩ W v W:=by
 show (do pure (.value (←Instr.build t (ps.map λ(i,x)=>(i,kP E x)))):Sem Next).run P W=_
 rw [n]; simp [p W]
theorem nt {t:TypeId} {z cs:Array Value} {fs:Array Field} {d:Array (Nat×Value)} {pl:Array (Nat×Nat)} (n:∀w,(zeroValue t).run P w= .ok (.agg z) w) (j:P.underlying t=some (.struct fs)) (hp:∀w,(fs.mapM λf=>do pure (f.offset,←sizeOf f.type):Sem (Array (Nat×Nat))).run P w= .ok pl w) (i:Instr.fill (pl[·]?) z d.toList=some cs) (W:World):(Instr.build t d).run P W= .ok (.agg cs) W:=by
 simp only [Instr.build,cJ,n W,bV,bI j,Value.cells]
 rw [hp W]
 simp only [bV,i,dG]
end
theorem Jf {α:Type}:∀(a:Ask α) (w:World),w.drawn≤(w.ask a).2.drawn
 | .done a,w=>by simp [World.ask]
 | .ask d range k,w=>by
  unfold World.ask
  dsimp only
  split
  ·exact Jf (k 0) w
  ·refine dx (jt w.drawn) ?_
   exact Jf _ { w with drawn:=w.drawn+1 }
theorem Uu (w:World) (c:Sys):w.drawn≤(w.sys c).2.drawn:=by
 have h:=Jf (Kernel.perform c w.os) w
 unfold World.sys
 generalize w.ask (Kernel.perform c w.os)=r at *
 obtain ⟨⟨r1,d⟩,i⟩:=r
 cases r1 <;> simp at h ⊢ <;> exact h
theorem LR {p:Program} {w d:World} {a:Addr} {u:TypeId} {k:Addr} {v:Value} {b:Bool} {l:List Addr} (h:w.viewStore p a u k v b= .ok (d,l)):d.drawn=w.drawn:=by
 unfold World.viewStore at h
 simp only [bind,Except.bind,pure,Except.pure] at h
 split at h
 ·cases h
 ·split at h
  ·cases h
  ·split at h
   ·split at h
    ·cases h
    ·split at h
     ·cases h
     ·cases h; rfl
   ·cases h
theorem Nq {p:Program} {w d:World} {a:Addr} {v:Value} {b:Bool} {l:List Addr} (h:w.farStore p a v b= .ok (d,l)):d.drawn=w.drawn:=by
 unfold World.farStore at h
 split at h
 ·split at h
  ·rename_i h1; cases h; exact LR h1
  ·cases h
 ·cases h
theorem rA {α:Type} {p:Program}:∀(s:Sem α) (w d:World) (a:α),s.run p w= .ok a d→w.drawn≤d.drawn
 | .pure a,w,d,b,h=>by simp only [Sem.run] at h; cases h; exact aR _
 | .load m a k,w,d,b,h=>by
  simp only [Sem.run] at h
  split at h
  ·exact rA _ _ _ _ h
  ·split at h
   ·exact rA _ _ _ _ h
   ·cases h
 | .store m a v k,w,d,b,h=>by
  have key:∀(r:Result α) j,r= .ok b d→(r=(match w.cell? a with
    | some _=>if w.frozen? a then .halt j w else k.run p (w.setCell a v)
    | none=>match w.farStore p a v (m==.atomic) with
     | .ok (w,_)=>k.run p w
     | .error h=>.halt h w))→w.drawn≤d.drawn:=by
   intro r j u h
   rw [u] at h
   split at h
   ·split at h
    ·cases h
    ·have:=rA k _ _ _ h.symm
     simpa [World.setCell] using this
   ·split at h
    ·rename_i h1
     have i:=rA k _ _ _ h.symm
     rw [Nq h1] at i
     exact i
    ·cases h
  cases v with
  | agg cs=>simp only [Sem.run] at h; cases h
  | tuple cs=>simp only [Sem.run] at h; cases h
  | _=>exact key _ _ h (by simp only [Sem.run]; rfl)
 | .new o k,w,d,b,h=>by simp only [Sem.run] at h; have:=rA (k _) _ _ _ h; exact this
 | .shape r k,w,d,b,h=>by simp only [Sem.run] at h; exact rA _ _ _ _ h
 | .freeze a n k,w,d,b,h=>by
  simp only [Sem.run] at h
  have:=rA k _ _ _ h
  unfold World.freeze at this
  split at this <;> exact this
 | .frozen a k,w,d,b,h=>by simp only [Sem.run] at h; exact rA _ _ _ _ h
 | .getObj r k,w,d,b,h=>by
  simp only [Sem.run] at h
  split at h <;> try (cases h; done)
  exact rA _ _ _ _ h
 | .setObj r o k,w,d,b,h=>by
  simp only [Sem.run] at h
  split at h <;> try (cases h; done)
  have:=rA k _ _ _ h
  exact this
 | .choose q k,w,d,b,h=>by
  simp only [Sem.run] at h
  split at h
  ·exact rA _ _ _ _ h
  ·exact dx (jt _) (rA _ _ _ _ h)
 | .sys c k,w,d,b,h=>by
  simp only [Sem.run] at h
  exact dx (Uu w c) (rA _ _ _ _ h)
 | .program k,w,d,b,h=>by simp only [Sem.run] at h; exact rA _ _ _ _ h
 | .mark m k,w,d,b,h=>by simp only [Sem.run] at h; exact rA k _ _ _ h
 | .halt x,w,d,b,h=>by simp only [Sem.run] at h; cases h
end Go.Proofs.YtjjjihkifgdhgaaGreatDoor
namespace Go.Proofs.YtjjjihkifgdhgaaGreatDoor
open Go.RowKit
variable [M:Md]
variable {dd:Bool}
section
variable {P:Program} {n:Nat} {Q:tH} {E:Nat→Value} {W:World} {ops:Array Oper} {rest:List Oper}
 {d:Option Nat} {ty:TypeId} {pos:String} {af:Array Edge} {g:Option (Nat×Bool)}
 {F:Nat→Prop} {w:World} {μ:lE} {L:List (Nat×Obj)}
def pb (P:Program) (E:Nat→Value) (o:Oper) (W:World) (K:Value→World→Prop):Prop :=
 (∃v W',(execOp (kP E) o).run P W= .ok (.value v) W'∧K v W')∨(∃W',(execOp (kP E) o).run P W= .ok .skip W'∧K undef W')∨
 (∃f args,(execOp (kP E) o).run P W= .ok (.enter f args) W∧Calls P f args W λe d=>∃v,e= .returned v∧K v d)
theorem pb.mono {o:Oper} {K K':Value→World→Prop} (h:pb P E o W K) (hk:∀v W',K v W'→K' v W'):pb P E o W K':=by
 rcases h with ⟨v,W',h1,d⟩ | ⟨W',h1,d⟩ | ⟨f,args,h1,d⟩
 ·exact .inl ⟨v,W',h1,hk _ _ d⟩
 ·exact .inr (.inl ⟨W',h1,hk _ _ d⟩)
 ·exact .inr (.inr ⟨f,args,h1,dA d (λ_ _ ⟨v,i,j⟩=>⟨v,i,hk _ _ j⟩)⟩)
theorem VD {o:Oper} {dd:Nat} (hw:wk n ops E o) (i:o.dst=some dd) (j:dd < n) (h:pb P E o W λv W'=>LW P n ops Q rest (qu E dd v) W'):LW P n ops Q (o::rest) E W:=by
 rcases h with ⟨v,W',h1,d⟩ | ⟨W',h1,d⟩ | ⟨f,args,h1,d⟩
 ·exact UE hw i j h1 d
 ·intro a ha
  unfold wpListIn
  rw [bD (hw.of ha)]
  unfold Oper.wpIn
  refine ⟨λ_ _=>trivial,?_⟩
  rw [ha.eval,Dq h1 (by simp),Oper.uponIn_skip,i]
  exact d _ (ha.put j _)
 ·exact Wv hw i j h1 d
theorem aav {o:Oper} (hw:wk n ops E o) (i:o.dst=none) (h:pb P E o W λ_ W'=>LW P n ops Q rest E W'):LW P n ops Q (o::rest) E W:=by
 rcases h with ⟨v,W',h1,d⟩ | ⟨W',h1,d⟩ | ⟨f,args,h1,d⟩
 ·intro a ha
  unfold wpListIn
  rw [bD (hw.of ha)]
  unfold Oper.wpIn
  refine ⟨λ_ _=>trivial,?_⟩
  rw [ha.eval,Dq h1 (by simp),Oper.uponIn_value,i]
  exact d _ (ha.DE _)
 ·exact VP hw i h1 d
 ·intro a ha
  unfold wpListIn
  rw [bD (hw.of ha)]
  unfold Oper.wpIn
  refine ⟨λ_ _=>trivial,?_⟩
  rw [ha.eval,Dq h1 (by simp),Oper.uponIn_enter]
  refine Nf (dA d ?_)
  rintro e p ⟨v,rfl,j⟩
  simp only [i]
  exact j _ (ha.DE _)
theorem lM {K:Value→World→Prop} {t:TypeId} {x:Operand} {v:Value} (i:ST dd F w W μ L) (j:kP E x=v) (h:∀W' b,ST dd F w W' μ ((b,.cells v.cells t (0,0))::L)→K (.pointer (some ⟨b,0,none⟩)) W'):pb P E ⟨d,.box t x,ty,pos,af,g⟩ W K :=
 .inl ⟨.pointer (some ⟨W.heap.size,0,none⟩),W.alloc (.cells v.cells t (0,0)),by
   show (do pure (.value (←Instr.box t (kP E x))):Sem Next).run P W=_
   rw [j]
   simp [Instr.box,newVar,newRow,newObj,Sem.run],h _ _ (i.alloc _)⟩
theorem ml {K:Value→World→Prop} {t:TypeId} {z:Value} (i:ST dd F w W μ L) (j:∀w,(zeroValue t).run P w= .ok z w) (h:∀W' b,ST dd F w W' μ ((b,.cells z.cells t (0,0))::L)→K (.pointer (some ⟨b,0,none⟩)) W'):pb P E ⟨d,.alloc t,ty,pos,af,g⟩ W K :=
 .inl ⟨.pointer (some ⟨W.heap.size,0,none⟩),W.alloc (.cells z.cells t (0,0)),by
   show (do pure (.value (←Instr.alloc t true (.tuple #[]))):Sem Next).run P W=_
   simp [Instr.alloc,j W,newVar,newRow,newObj,Sem.run],h _ _ (i.alloc _)⟩
theorem MO {t e:TypeId} {m k:Nat} {z:Value} {n:Array (Nat×Value)} {cs:Array Value} (u:P.underlying t=some (.slice e)) (p:∀w,(sizeOf e).run P w= .ok k w) (v:∀w,(zeroValue e).run P w= .ok z w) (hm:m*k≤16777216) (d:Instr.fill (λi=>some (i*k,k)) ((Array.range (m*k)).map (λi=>(if m*k=0 then (#[]:Array Value) else z.cells)[i % (if m*k=0 then (#[]:Array Value) else z.cells).size]!)) n.toList=some cs) (W:World) :
  (Instr.buildSlice t m n).run P W= .ok (.slice (some ⟨W.heap.size,0,none⟩) m m) (W.alloc (.cells cs e (0,0))):=by
 simp only [Instr.buildSlice,cJ,bI u,bV,p W]
 rw [bG (by omega)]
 by_cases j:m*k=0
 ·simp only [j,aK] at d ⊢
  simp only [cJ,dG,bV,d]
  simp [newRow,newObj,Sem.run]
 ·simp only [j,aI] at d ⊢
  simp only [cJ,v W,dG,bV,d]
  simp [newRow,newObj,Sem.run]
theorem lZ {K:Value→World→Prop} {t e:TypeId} {m:Nat} {ps:Array (Nat×Operand)} {n:Array (Nat×Value)} {cs:Array Value} (j:ST dd F w W μ L) (p:ps.map (λ(i,x)=>(i,kP E x))=n) (u:∀W,(Instr.buildSlice t m n).run P W= .ok (.slice (some ⟨W.heap.size,0,none⟩) m m) (W.alloc (.cells cs e (0,0)))) (h:∀W' b,ST dd F w W' μ ((b,.cells cs e (0,0))::L)→K (.slice (some ⟨b,0,none⟩) m m) W'):pb P E ⟨d,.buildSlice t m ps,ty,pos,af,g⟩ W K :=
 .inl ⟨.slice (some ⟨W.heap.size,0,none⟩) m m,W.alloc (.cells cs e (0,0)),by
   show (do pure (.value (←Instr.buildSlice t m (ps.map λ(i,x)=>(i,kP E x)))):Sem Next).run P W=_
   rw [p]
   simp [u W],h _ _ (j.alloc _)⟩
theorem ST.store {A B:List (Nat×Obj)} {b:Nat} {cs:Array Value} {t:TypeId} (i:ST dd F w W μ (A++(b,.cells cs t (0,0))::B)) (d:Array Value) :
  ST dd F w (W.setRow b d) μ (A++(b,.cells d t (0,0))::B):=by
 have hb:=(i.box b _ (by simp:(b,Obj.cells cs t (0,0))∈A++(b,.cells cs t (0,0))::B)).1
 refine i.put ⟨rfl,rfl,rfl,aR _,by simp [World.setRow]⟩ (λk hk=>?_) (setRow_heap W b cs d t (0,0) hb)
 simp only [World.setRow,ed]
 rw [bG (λe=>hk e.symm)]
theorem GV (P:Program) {W:World} {t:TypeId} {b off:Nat} {cs:Array Value} {T:TypeId} (v:Value) (d:∀w,(sizeOf t).run P w= .ok v.cells.size w) (h1:∀u∈v.cells.toList,u.oneCell'=true) (hb:W.heap[b]? =some (.cells cs T (0,0))) (i:off+v.cells.size≤cs.size):(Instr.storeAt t (.pointer (some ⟨b,off,none⟩)) v).run P W= .ok () (W.setRow b (cs.toList.take off++v.cells.toList++cs.toList.drop (off+v.cells.size)).toArray):=by
 have:=ju (P:=P) b off T v.cells.toList 0 cs W hb (by simpa using i) h1
 simp [Instr.storeAt,Instr.sureAddr,storeVar,d W]
 simpa using this
theorem Ya {K:Value→World→Prop} (A:List (Nat×Obj)) {B:List (Nat×Obj)} {t:TypeId} {x y:Operand} (v:Value) {b off:Nat} {cs:Array Value} {T:TypeId} (i:Array Value) (j:ST dd F w W μ (A++(b,.cells cs T (0,0))::B)) (G:kP E x= .pointer (some ⟨b,off,none⟩)) (I:kP E y=v) (n:∀w,(sizeOf t).run P w= .ok v.cells.size w) (h1:∀u∈v.cells.toList,u.oneCell'=true) (z:off+v.cells.size≤cs.size) (p:(cs.toList.take off++v.cells.toList++cs.toList.drop (off+v.cells.size)).toArray=i) (h:∀W',ST dd F w W' μ (A++(b,.cells i T (0,0))::B)→K undef W'):pb P E ⟨d,.store t x y,ty,pos,af,g⟩ W K :=
 .inr (.inl ⟨W.setRow b i,by
   show (do Instr.storeAt t (kP E x) (kP E y); pure .skip:Sem Next).run P W=_
   have hb:=(j.box b _ (by simp:(b,Obj.cells cs T (0,0))∈A++(b,.cells cs T (0,0))::B)).1
   rw [G,I]
   simp only [cJ,GV P v n h1 hb z,p,bV,dG],h _ (j.store i)⟩)
def lC (dd:Bool) (P:Program) (f:FuncId) (args:List Value) (w:World) (v:Value):Prop:=Calls P f args.toArray w λe d=>e= .returned v∧Ex dd w d
theorem Uy {f:FuncId} {fv:Operand} {ax:Array Operand} {ats:Array TypeId} {caps args:Array Value} (i:kP E fv= .func (.func f) #[] caps) (he:∀args w,(callFunc f args).run P w= .ok (.enter f args) w) (ha:ax.map (kP E)++caps=args) :
  (execOp (kP E) ⟨d,.call ⟨.value fv,ax,ats⟩,ty,pos,af,g⟩).run P W= .ok (.enter f args) W:=by
 show (do let d ←resolve (kP E) ⟨.value fv,ax,ats⟩ ty; invoke d.target d.args:Sem Next).run P W=_
 rw [←ha]
 simp only [resolve,i,Deferred.ofValue,cJ,dG,bV,invoke]
 simp [he]
theorem G4 {K:Value→World→Prop} {f:FuncId} {fv:Operand} {ax:Array Operand} {ats:Array TypeId} {caps args:Array Value} (i:kP E fv= .func (.func f) #[] caps) (he:∀args w,(callFunc f args).run P w= .ok (.enter f args) w) (ha:ax.map (kP E)++caps=args) (h:Calls P f args W λe j=>∃v,e= .returned v∧K v j):pb P E ⟨d,.call ⟨.value fv,ax,ats⟩,ty,pos,af,g⟩ W K :=
 .inr (.inr ⟨f,args,Uy i he ha,h⟩)
theorem Jw {K:Value→World→Prop} {f:FuncId} {fv:Operand} {ax:Array Operand} {ats:Array TypeId} {args:List Value} {v:Value} (i:ST dd F w W μ L) (p:kP E fv= .func (.func f) #[] #[]) (he:∀args w,(callFunc f args).run P w= .ok (.enter f args) w) (ha:(ax.map (kP E)++(#[]:Array Value))=args.toArray) (n:lC dd P f args W v) (h:∀W',ST dd F w W' μ L→K v W'):pb P E ⟨d,.call ⟨.value fv,ax,ats⟩,ty,pos,af,g⟩ W K :=
 G4 p he ha (dA n (λ_ _ ⟨h1,j⟩=>⟨v,h1,h _ (i.LH j)⟩))
def lh {α:Type} (e:TypeId) (enc:α→List Value) (k:Nat) (v:Value) (l:List α) (R:List (Nat×Obj)):Prop :=
 (v= .slice none 0 0∧l=[]∧R=[])∨
 ∃g cap d,v= .slice (some ⟨g,0,none⟩) l.length cap∧R=[(g,.cells d e (0,0))]∧l.length≤cap∧cap≤maxLen∧d.size=cap*k∧d.toList.take (l.length*k)=(l.map enc).flatten
theorem sn {α:Type} {enc:α→List Value} {k:Nat} (hk:∀x,(enc x).length=k):∀l:List α,(l.map enc).flatten.length=l.length*k
 | []=>by simp
 | x::l=>by simp [sn hk l,hk x,du,Nat.add_comm]
theorem As {α:Type} {enc:α→List Value} {k:Nat} (hk:∀x,(enc x).length=k):∀(l:List α) (i:Nat) (x:α),l[i]? =some x→∀j y,(enc x)[j]? =some y→(l.map enc).flatten[i*k+j]? =some y
 | [],i,x,h=>by cases h
 | z::l,0,x,h=>by
  simp at h; subst h
  intro j y d
  have n:j < (enc z).length:=(bQ.1 d).1
  simp [gp,n]
  rw [dy n] at d
  simpa using d
 | z::l,i+1,x,h=>by
  intro j y d
  have:=As hk l i x (by simpa using h) j y d
  simp only [aU,aV]
  rw [eE (by rw [hk z]; have:=Nat.le_mul_of_pos_left k (Nat.succ_pos i); simp [du] at *; omega),hk z]
  rw [show (i+1)*k+j-k=i*k+j by rw [du]; omega]
  exact this
theorem KV {α:Type} {enc:α→List Value} {k:Nat} (hk:∀x,(enc x).length=k):∀(l:List α) (q:Nat) (y:Value),(l.map enc).flatten[q]? =some y→∃i x j,l[i]? =some x∧(enc x)[j]? =some y∧q=i*k+j
 | [],q,y,h=>by simp at h
 | z::l,q,y,h=>by
  simp only [aU,aV] at h
  by_cases n:q < k
  ·rw [ft (by rw [hk]; exact n)] at h
   exact ⟨0,z,q,rfl,h,by simp⟩
  ·rw [eE (by rw [hk]; omega),hk] at h
   obtain ⟨i,x,j,h1,d,p⟩:=KV hk l (q-k) y h
   exact ⟨i+1,x,j,by simpa using h1,d,by rw [du]; omega⟩
theorem lh.nil {α:Type} (e:TypeId) (enc:α→List Value) (k:Nat):lh e enc k (.slice none 0 0) [] []:=.inl ⟨rfl,rfl,rfl⟩
theorem lh.sl {α:Type} {e:TypeId} {enc:α→List Value} {k:Nat} {v:Value} {l:List α} {R:List (Nat×Obj)} {m:lE} (h:lh e enc k v l R) (hk:∀x,(enc x).length=k) (hm:∀b o,(b,o)∈R→m b=some o):Sl (Pl enc) k m v l:=by
 rcases h with ⟨rfl,rfl,rfl⟩ | ⟨g,cap,d,rfl,rfl,h1,p,A,u⟩
 ·exact Sl.nil _ _ _
 ·refine ⟨_,cap,rfl,h1,p,λ_=>⟨g,0,d,e,(0,0),rfl,hm _ _ (by simp),λi x w=>⟨enc x,hk x,rfl,λj y z=>?_⟩⟩⟩
  have:=As hk l i x w j y z
  rw [←u] at this
  have n:i*k+j < l.length*k:=by
   have:=(bQ.1 this).1
   simp at this; omega
  rw [dS n] at this
  simpa using this
theorem lh.len {α:Type} {e:TypeId} {enc:α→List Value} {k:Nat} {v:Value} {l:List α} {R:List (Nat×Obj)} (h:lh e enc k v l R):l.length≤9223372036854775807:=by
 rcases h with ⟨rfl,rfl,rfl⟩ | ⟨g,cap,d,rfl,rfl,h1,i,j,n⟩
 ·simp
 ·unfold maxLen at i; omega
theorem lh.fr {α:Type} {e:TypeId} {enc:α→List Value} {k:Nat} {v:Value} {l:List α} {R X Y:List (Nat×Obj)} (h:lh e enc k v l R) (d:ST dd mN w W μ (X++(R++Y))):Fr w.heap.size v:=by
 rcases h with ⟨rfl,rfl,rfl⟩ | ⟨g,cap,i,rfl,rfl,h1,j,n,p⟩
 ·exact Fr.nil _
 ·intro b hb
  simp [Value.ownBlock] at hb
  subst hb
  rcases (d.box g _ (by simp; exact .inr (.inl rfl))).2.2 with h | h
  ·exact h
  ·exact h.elim
theorem lh.lit {α:Type} {e:TypeId} {enc:α→List Value} {k b m:Nat} {l:List α} {cs:Array Value} (hm:l.length=m) (i:m≤maxLen) (j:cs.toList=(l.map enc).flatten) (d:cs.size=m*k):lh e enc k (.slice (some ⟨b,0,none⟩) m m) l [(b,.cells cs e (0,0))]:=by
 subst hm
 refine .inr ⟨b,_,cs,rfl,rfl,aR _,i,d,?_⟩
 rw [←j,←d]
 exact dX (by rw [dF]; exact aR _)
def nm {α:Type} (d:Nat) (l m:List α):Option (List α):=if (l.length+m.length)*d≤140737488355328∧l.length+m.length≤maxLen then some (l++m) else none
theorem Pc {K:Value→World→Prop} {α:Type} {e t:TypeId} {enc:α→List Value} {k ab:Nat} {z v vs:Value} {l m r:List α} {R:List (Nat×Obj)} (X:List (Nat×Obj)) {Y:List (Nat×Obj)} {x y:Operand} {i:TypeInfo} (n:ST dd F w W μ (X++(R++Y))) (hk:∀x,(enc x).length=k) (b2:0 < k) (h1:∀x,∀u∈enc x,u.oneCell'=true) (ht:P.underlying t=some (.slice e)) (hi:P.info? e=some i) (hz:i.zero=some z) (b6:z.cells.size=k) (b3:i.size=k) (b0:i.bytes=ab) (hx:kP E x=v) (hy:kP E y=vs) (hR:lh e enc k v l R) (hs:Sl (Pl enc) k (hp W) vs m) (hb:nm ab l m=some r) (h:∀W' v' R',ST dd F w W' μ (X++(R'++Y))→lh e enc k v' r R'→K v' W'):pb P E ⟨d,.call ⟨.builtin .append,#[x,y],#[t,t]⟩,ty,pos,af,g⟩ W K:=by
 unfold nm at hb
 split at hb
 case isFalse=>cases hb
 rename_i aj
 cases hb
 have aa:∀(V:Value) (W':World),(Builtin.append_ #[t,t] ty #[v,vs]).run P W= .ok V W'→(execOp (kP E) ⟨d,.call ⟨.builtin .append,#[x,y],#[t,t]⟩,ty,pos,af,g⟩).run P W= .ok (.value V) W':=by
  intro V W' hV
  show (do let d ←resolve (kP E) ⟨.builtin .append,#[x,y],#[t,t]⟩ ty; invoke d.target d.args:Sem Next).run P W=_
  simp [resolve,invoke,builtin,hx,hy,hV]
 obtain ⟨A,c,rfl,ba,bc,b1⟩:=hs
 have a8:W.ownsRow 0 e k v l.length (l.map enc).flatten:=by
  refine ⟨sn hk l,?_⟩
  rcases hR with ⟨rfl,rfl,rfl⟩ | ⟨g,cap,J,rfl,rfl,h1,h2,h3,h4⟩
  ·exact .inl ⟨rfl,rfl⟩
  ·exact .inr ⟨g,cap,J,rfl,dT _,(n.box g _ (by simp)).1,h1,h2,h3,h4⟩
 have au:m.length=0∨∃ad,A=some ad∧∀j u,(m.map enc).flatten[j]? =some u→W.cell? (ad.add j)=some u:=by
  rcases eo m.length with O | O
  ·exact .inl O
  ·obtain ⟨b,off,cs,T,fr,rfl,h6,h7⟩:=b1 O
   refine .inr ⟨⟨b,off,none⟩,rfl,λj u hu=>?_⟩
   obtain ⟨i,x,q,h8,h9,rfl⟩:=KV hk m j u hu
   obtain ⟨ys,_,aw,ay⟩:=h7 i x h8
   cases aw
   rw [dQ,fA W b (off+(i*k+q)) cs T fr h6,←ew]
   exact ay q u h9
 have ar:∀u∈(m.map enc).flatten,u.oneCell'=true:=by
  intro u hu
  obtain ⟨ys,b5,b4⟩:=jJ.1 hu
  obtain ⟨x,_,rfl⟩:=aS.1 b5
  exact h1 x u b4
 by_cases ao:m.length=0
 ·have hm:m=[]:=aJ ao
  subst hm
  have hr:(Builtin.append_ #[t,t] ty #[v,.slice A 0 c]).run P W= .ok v W:=by
   rcases a8.2 with ⟨rfl,O⟩ | ⟨g,cap,J,rfl,_,hg,ap,_,bd,_⟩
   ·cases A with
    | none=>simp [Builtin.append_,bI ht,sizeOf,typeInfo,hi,Builtin.lenOf,Builtin.firstCells]
    | some ad=>simp [Builtin.append_,bI ht,sizeOf,typeInfo,hi,Builtin.lenOf,Builtin.firstCells,loadCells,loadCellsFrom]
   ·cases A with
    | none=>simp [Builtin.append_,bI ht,sizeOf,typeInfo,hi,Builtin.lenOf,Builtin.firstCells,ap,storeCells]
    | some ad=>simp [Builtin.append_,bI ht,sizeOf,typeInfo,hi,Builtin.lenOf,Builtin.firstCells,loadCells,loadCellsFrom,ap,storeCells]
  exact .inl ⟨v,W,aa _ _ (by simpa using hr),by simpa using h W v R n (by simpa using hR)⟩
 rcases au with O | ⟨ad,rfl,a1⟩
 ·exact absurd O ao
 obtain ⟨v',W',hr,ah,p,b9,M⟩:=run_append_own_at (P:=P) W 0 t ty e i z k ab ht hi hz b3 b0 b6 b2 v l.length (l.map enc).flatten a8 ad m.length c (m.map enc).flatten (sn hk m) a1 ar aj.2 aj.1 (dT _)
 have ae:=rA _ _ _ _ hr
 refine .inl ⟨v',W',aa _ _ hr,?_⟩
 have hlen:(l++m).length=l.length+m.length:=by simp
 rcases ah.2 with ⟨_,O⟩ | ⟨U,a6,a7,rfl,_,ag,b7,ak,al,av⟩
 ·omega
 have ai:lh e enc k (.slice (some ⟨U,0,none⟩) (l.length+m.length) a6) (l++m) [(U,.cells a7 e (0,0))] :=
  .inr ⟨U,a6,a7,by rw [hlen],rfl,by omega,ak,al,by rw [hlen,av]; simp⟩
 refine h W' _ _ ?_ ai
 have aq:=n.nd
 rcases hR with ⟨rfl,rfl,rfl⟩ | ⟨g,cap,J,rfl,rfl,q1,q2,q3,q4⟩
 ·-- nil: a new block
  have Z:W.heap.size≤U:=by
   rcases M with h | h <;> simp [Value.ownBlock] at h
   omega
  have hex:Ex dd W W':=⟨p.os,p.tape,p.output,wQ.of ae,p.size,λb hb=>p.block b hb (by simp [Value.ownBlock])⟩
  have h1:=n.LH hex
  refine ⟨h1.os,h1.tape,h1.output,h1.drawn,h1.size,h1.nL,h1.mem,λb o hb=>?_,?_⟩
  ·simp only [aO,bO] at hb
   rcases hb with hb | hb | hb
   ·exact h1.box b o (by simp [hb])
   ·cases hb
    refine ⟨ag,?_,.inl (dx n.size Z)⟩
    cases hm:μ U with
    | none=>rfl
    | some x=>have:=n.Jq hm; omega
   ·exact h1.box b o (by simp [hb])
  ·simp only [aW,cL,aU,dM] at aq ⊢
   refine (iT fi).2 (dO.2 ⟨λhm=>?_,aq⟩)
   rw [←cL] at hm
   obtain ⟨⟨b,o⟩,hb,L⟩:=aS.1 hm
   have aE:(b,o)∈X++([]++Y):=by simpa using hb
   have:=n.Lm aE
   simp at L
   omega
 ·by_cases an:U=g
  ·subst an
   have O:ST dd F w W μ (X++(U,Obj.cells J e (0,0))::Y):=by simpa using n
   have hold:∀b,b < W.heap.size→b≠U→W'.heap[b]? =W.heap[b]?:=λb hb I=>p.block b hb (by simp [Value.ownBlock]; exact I)
   have G:=O.nd
   simp only [cL,aU] at G
   have I:∀b o,(b,o)∈X++Y→b≠U:=λb o hb L=>by
    subst L
    rcases aO.1 hb with hb | hb
    ·exact (cD.1 G).2.2 b (aS.2 ⟨_,hb,rfl⟩) b (by simp) rfl
    ·exact (dO.1 (cD.1 G).2.1).1 (aS.2 ⟨_,hb,rfl⟩)
   have Q:=O.box U (Obj.cells J e (0,0)) (by simp)
   refine ⟨p.os.trans n.os,p.tape.trans n.tape,p.output.trans n.output,wQ.trans n.drawn (wQ.of ae),dx n.size p.size,λb hb hF=>?_,λb o hb=>?_,λb o hb=>?_,by simpa using G⟩
   ·rw [hold b (ey hb n.size) (λL=>by subst L; rcases Q.2.2 with h | h; omega; exact hF h)]
    exact n.nL b hb hF
   ·rw [hold b (n.Jq hb) (λL=>by subst L; rw [Q.2.1] at hb; cases hb)]
    exact n.mem b o hb
   ·simp only [aO,bO] at hb
    rcases hb with hb | hb | hb
    ·obtain ⟨r1,r2⟩:=n.box b o (by simp [hb])
     exact ⟨by rw [hold b (qD r1) (I b o (by simp [hb]))]; exact r1,r2⟩
    ·cases hb; exact ⟨ag,Q.2⟩
    ·obtain ⟨r1,r2⟩:=n.box b o (by simp [hb])
     exact ⟨by rw [hold b (qD r1) (I b o (by simp [hb]))]; exact r1,r2⟩
  ·have Z:W.heap.size≤U:=by
    rcases M with h | h <;> simp [Value.ownBlock] at h
    ·exact absurd h an
    ·omega
   have O:ST dd F w W μ (X++(g,Obj.cells J e (0,0))::Y):=by simpa using n
   have Q:=O.box g (Obj.cells J e (0,0)) (by simp)
   have G:=O.nd
   simp only [cL,aU] at G
   have I:∀b o,(b,o)∈X++Y→b≠g:=λb o hb L=>by
    subst L
    rcases aO.1 hb with hb | hb
    ·exact (cD.1 G).2.2 b (aS.2 ⟨_,hb,rfl⟩) b (by simp) rfl
    ·exact (dO.1 (cD.1 G).2.1).1 (aS.2 ⟨_,hb,rfl⟩)
   have hold:∀b,b < W.heap.size→b≠g→W'.heap[b]? =W.heap[b]?:=λb hb I=>p.block b hb (by simp [Value.ownBlock]; exact I)
   refine ⟨p.os.trans n.os,p.tape.trans n.tape,p.output.trans n.output,wQ.trans n.drawn (wQ.of ae),dx n.size p.size,λb hb hF=>?_,λb o hb=>?_,λb o hb=>?_,?_⟩
   ·rw [hold b (ey hb n.size) (λL=>by subst L; rcases Q.2.2 with h | h; omega; exact hF h)]
    exact n.nL b hb hF
   ·rw [hold b (n.Jq hb) (λL=>by subst L; rw [Q.2.1] at hb; cases hb)]
    exact n.mem b o hb
   ·simp only [aO,bO] at hb
    rcases hb with hb | hb | hb
    ·obtain ⟨r1,r2⟩:=n.box b o (by simp [hb])
     exact ⟨by rw [hold b (qD r1) (I b o (by simp [hb]))]; exact r1,r2⟩
    ·cases hb
     refine ⟨ag,?_,.inl (dx n.size Z)⟩
     cases hm:μ U with
     | none=>rfl
     | some x=>have:=n.Jq hm; omega
    ·obtain ⟨r1,r2⟩:=n.box b o (by simp [hb])
     exact ⟨by rw [hold b (qD r1) (I b o (by simp [hb]))]; exact r1,r2⟩
   ·have az:(X.map (·.1)++Y.map (·.1)).Nodup:=(dO.1 ((iT fi).1 G)).2
    simp only [cL,aU,dM]
    refine (iT fi).2 (dO.2 ⟨λhm=>?_,az⟩)
    rw [←cL] at hm
    obtain ⟨⟨b,o⟩,hb,L⟩:=aS.1 hm
    have:=n.Lm (b:=b) (o:=o) (by rcases aO.1 hb with h | h <;> simp [h])
    simp at L
    omega
end
end Go.Proofs.YtjjjihkifgdhgaaGreatDoor
namespace Go.Proofs.YtjjjihkifgdhgaaGreatDoor
open Go.RowKit
variable [M:Md]
def F0 (l:List Value):Nat→Value:=λt=>l.getD t undef
def Bh (P:Program) (fn:Func) (R:Ending→World→Prop):tH
 | .normal,E,W | .ret,E,W=>∃v,(∀tmps:Array Value,(∀t,tmps.getD t undef=E t)→(results fn tmps).run P W= .ok v W)∧R (.returned v) W
 | _,_,_=>False
theorem Bu {P:Program} {f:FuncId} {fn:Func} {c:Code} {args:List Value} {w:World} {R:Ending→World→Prop} {n:Nat} (z:P.funcs[f]? =some fn) (hb:fn.body=some c) (A:fn.ntmps=n) (ha:args.length≤n) (h:@CW Fl P n c (Bh P fn R) (F0 args) w):Calls P f args.toArray w R:=by
 refine calls_of_wp z hb ?_
 have p:@Ag Fl n { tmps:=args.toArray++Array.replicate (fn.ntmps-args.toArray.size) undef,defers:=[] } (F0 args):=by
  refine ⟨by simp; omega,rfl,λt=>?_⟩
  simp only [F0,fc,List.getD_eq_getElem?_getD,Array.getElem?_append,Array.getElem?_replicate,dV,iB]
  by_cases x:t < args.length
  ·rw [bD x]
  ·rw [bG x,fq (by omega)]
   split <;> simp
 refine wp_mono ((wpIn_wide (n:=0)).1 (h _ p)) (λe a G i=>?_)
 cases e with
 | normal=>
  obtain ⟨E,d,v,u,j⟩:=i
  exact ⟨d.2.1,v,u _ d.2.2,j⟩
 | ret=>
  obtain ⟨E,d,v,u,j⟩:=i
  exact ⟨d.2.1,v,u _ d.2.2,j⟩
 | exit id=>obtain ⟨E,d,h⟩:=i; exact h.elim
 | goto l=>obtain ⟨E,d,h⟩:=i; exact h.elim
 | panic c=>exact i.2.elim
 | outgrown=>exact i.elim
section
variable {P:Program} {fn:Func} {R:Ending→World→Prop} {E:Nat→Value} {W:World}
theorem nC {r:Tmp} {v:Value} (d:fn.results=#[.tmp r]) (j:E r=v) (h:R (.returned v) W):Bh P fn R .ret E W :=
 ⟨v,λtmps i=>by rw [results_tmp d,i,j],h⟩
theorem IG {r s:Tmp} {v u:Value} (i:fn.results=#[.tmp r,.tmp s]) (j:E r=v) (hu:E s=u) (h:R (.returned (.tuple #[v,u])) W):Bh P fn R .ret E W :=
 ⟨.tuple #[v,u],λtmps d=>by rw [results_tmp2 i,d,d,j,hu],h⟩
theorem nY (d:fn.results=#[]) (h:R (.returned (.tuple #[])) W):Bh P fn R .ret E W :=
 ⟨.tuple #[],λtmps _=>by rw [results_none d],h⟩
theorem rY {r:Tmp} {t:TypeId} {a:Addr} {v:Value} (d:fn.results=#[.cell r t]) (n:E r= .pointer (some a)) (j:(Instr.loadAt t (.pointer (some a))).run P W= .ok v W) (h:R (.returned v) W):Bh P fn R .ret E W :=
 ⟨v,λtmps i=>by
  have h1:(loadVar t a).run P W= .ok v W:=by simpa [Instr.loadAt,Instr.sureAddr] using j
  simp [results,d,i,n,asAddr,h1],h⟩
theorem pc (h:Bh P fn R .ret E W):Bh P fn R .normal E W:=h
end
section
variable {Q:tH} {E:Nat→Value} {W:World} {K:(Nat→Value)→World→Prop} {id j:Nat}
theorem lG (h:Q .normal E W):Ai id Q .normal E W:=h
theorem pO (h:Q .ret E W):Ai id Q .ret E W:=h
theorem pE (h:Q .normal E W):Ai id Q (.exit id) E W:=by simp [Ai]; exact h
theorem Z0 (d:(j=id)=False) (h:Q (.exit j) E W):Ai id Q (.exit j) E W:=by simp only [Ai,d,aI]; exact h
theorem kL (h:K E W):tX K Q .normal E W:=h
theorem mL (h:Q .ret E W):tX K Q .ret E W:=h
theorem mD (h:Q (.exit j) E W):tX K Q (.exit j) E W:=h
end
theorem UD {i N:Nat} (j:i < N) (d:N≤9223372036854775807):IntKind.i64.wrap ((i:Int)+1)=((i+1:Nat):Int):=by
 rw [IntWalk.i64_in _ (by omega)]
 omega
theorem mV {P:Program} {n:Nat} {Q:tH} {E:Nat→Value} {W:World} {p z r2 r6 u w R G:Nat} {t1 t2 t3 t4 t5 t6 t7:TypeId} {p1 p2 p3:String} {f1 f2 f3:Array Edge} {body:Code} (I:Nat→(Nat→Value)→World→Prop) (N:Nat) (Z:N≤9223372036854775807) (T:I 0 E W) (hc:u < n) (hs:G < n) (O:w < n) (Y:∀i E W,I i E W→E w= .int .i64 (i:Nat)∧E R= .int .i64 (N:Nat)) (round:∀i E W,i < N→I i E W→CW P n (.block z body) (tX (λE' W'=>E' w= .int .i64 (i:Nat)∧I (i+1) (qu (qu E' G (.int .i64 ((i+1:Nat):Int))) w (.int .i64 ((i+1:Nat):Int))) W') (Ai p Q)) (qu E u (.bool true)) W) (done:∀E W,I N E W→Q .normal (qu E u (.bool false)) W) :
  CW P n (.block p (.loop (.seq (.region r2 #[⟨some u,.binOp .lss t1 (.tmp w) (.tmp R) t2,t3,p1,f1,none⟩] false)
   (.seq (.cond (.tmp u) .skip (.exit p)) (.seq (.block z body)
    (.region r6 #[⟨some G,.binOp .add t4 (.tmp w) (.const (.int .i64 1)) t5,t6,p2,f2,none⟩,⟨some w,.move (.tmp G),t7,p3,f3,none⟩] false)))))) Q E W:=by
 refine ma (nn (λm E W=>∃i,i≤N∧m=N-i∧I i E W) N ⟨0,dT _,by omega,T⟩ ?_)
 rintro m E W ⟨i,hi,rfl,d⟩
 obtain ⟨J,L⟩:=Y i E W d
 refine kM (kK (IW (.inl rfl) rfl hc (lY J L rfl) (lu ?_)))
 refine kL (kM ?_)
 have A:qu E u (.bool (decide ((i:Int) < (N:Int)))) u= .bool (decide ((i:Int) < (N:Int))):=by simp [qu]
 by_cases x:i < N
 ·have M:decide ((i:Int) < (N:Int))=true:=by simp; omega
  rw [M] at A ⊢
  refine yR A (nf (kL (kM ?_)))
  refine MX (round i E W x d) (λe E' W' h=>?_)
  cases e with
  | normal=>
   obtain ⟨h1,U⟩:=h
   refine kL ?_
   have hw:IntKind.i64.wrap ((i:Int)+1)=((i+1:Nat):Int):=UD x Z
   refine kK (IW (v:=.int .i64 ((i+1:Nat):Int)) (.inl rfl) rfl hs (lY (k:=.i64) (a:=(i:Int)) (b:=1) h1 rfl (by simp only [Ox,hw])) ?_)
   refine IW (v:=.int .i64 ((i+1:Nat):Int)) (.inl rfl) rfl O (kD (by simp [kP,qu])) (lu ?_)
   exact kL ⟨N-(i+1),by omega,i+1,by omega,rfl,U⟩
  | exit j=>exact h
  | goto l=>exact h
  | ret=>exact h
  | panic c=>exact h
  | outgrown=>exact h
 ·have M:decide ((i:Int) < (N:Int))=false:=by simp; omega
  rw [M] at A ⊢
  obtain rfl:i=N:=by omega
  refine sX A (mX (mD (mD (pE ?_))))
  exact done E W d
theorem UM {P:Program} {n:Nat} {x:Code} {Q:tH} {K:(Nat→Value)→World→Prop} {E:Nat→Value} {W:World} (J:(Nat→Value)→World→Prop) (h:CW P n x (tX J Q) E W) (k:∀E W,J E W→K E W):CW P n x (tX K Q) E W :=
 MX h (λe E W h=>by cases e <;> first | exact k E W h | exact h)
theorem Zs {α:Type} {c:Bool} {x y r:α} (d:c=true) (h:(if c=true then x else y)=r):x=r:=by rw [bD d] at h; exact h
theorem Zv {α:Type} {c:Bool} {x y r:α} (d:c=false) (h:(if c=true then x else y)=r):y=r:=by rw [bG (by rw [d]; decide)] at h; exact h
theorem bind_some {α β:Type} {o:Option α} {f:α→Option β} {r:β} (h:o.bind f=some r):∃y,o=some y∧f y=some r:=by
 cases o with
 | none=>cases h
 | some y=>exact ⟨y,rfl,h⟩
theorem TI (b:Bool):b=true∨b=false:=by cases b <;> simp
theorem mC {α:Type} {l:List α} {i:Nat} (h:i < l.length):∃x xs,l.drop i=x::xs∧l[i]? =some x∧l.drop (i+1)=xs:=by
 cases d:l.drop i with
 | nil=>have:=bA List.length d; simp at this; omega
 | cons x xs=>exact ⟨x,xs,rfl,by rw [←List.head?_drop,d]; rfl,by rw [←List.drop_drop,d]; rfl⟩
theorem IL {P:Program} {W:World} (d:Nat) (xs ys:Array Value):(Op.eqFields d xs ys []).run P W= .ok true W:=by simp [Op.eqFields]
theorem uD {P:Program} {W:World} {d:Nat} {xs ys:Array Value} {f:Field} {fs:List Field} {a b:Value} {r s:Bool} (i:f.name≠ "_") (ha:(part f.type xs f.offset).run P W= .ok a W) (hb:(part f.type ys f.offset).run P W= .ok b W) (he:(Op.equalIn d f.type a b).run P W= .ok r W) (h:(Op.eqFields d xs ys fs).run P W= .ok s W):(Op.eqFields d xs ys (f::fs)).run P W= .ok (r&&s) W:=by
 simp only [Op.eqFields,ne_eq,i,not_false_eq_true,aK,cJ,ha,hb,he,bV]
 cases r <;> simp [h]
theorem DB {P:Program} {W:World} {t:TypeId} {k:Nat} {cs:Array Value} {off:Nat} {v:Array Value} (d:∀w,(isAgg t).run P w= .ok true w) (i:∀w,(sizeOf t).run P w= .ok k w) (j:cs.extract off (off+k)=v):(part t cs off).run P W= .ok (.agg v) W:=by
 simp [part,d W,i W,j]
theorem sM {P:Program} {W:World} {t:TypeId} {cs:Array Value} {off:Nat} {v:Value} (d:∀w,(isAgg t).run P w= .ok false w) (i:cs[off]? =some v):(part t cs off).run P W= .ok v W:=by
 simp [part,d W,i]
def lz (a b:ByteArray):Bool:=a.toList==b.toList
theorem RF {P:Program} {t:TypeId} (i:P.underlying t=some .string) (d:Nat) (a b:ByteArray) (W:World):(Op.equalIn (d+1) t (.string a) (.string b)).run P W= .ok (lz a b) W:=run_equalIn_string W d t a b i
theorem eqI {P:Program} {t:TypeId} {k:IntKind} (i:P.underlying t=some (.int k)) (d:Nat) (a b:Int) (W:World):(Op.equalIn (d+1) t (.int k a) (.int k b)).run P W= .ok (a==b) W:=run_equalIn_int W d t k k a b i
theorem uC {P:Program} {op:BinOp} {t:TypeId} {x y:Operand} {a b:Array Value} (d:P.eqGuardType P.depth t=false) (W:World):(eqGuard op t x y (.agg a) (.agg b)).run P W= .ok () W:=by
 cases op <;> simp [eqGuard] <;> (intro h; rw [d] at h; cases h)
theorem AY {P:Program} {t:TypeId} {a b:Array Value} {r:Bool} (h:∀W,(Op.equalIn Op.maxDepth t (.agg a) (.agg b)).run P W= .ok r W) (W:World):(binOp .eql t (.agg a) (.agg b)).run P W= .ok (.bool r) W:=by
 simp [binOp,Op.equal,h W]
theorem MV {P:Program} {t:TypeId} {a b:Array Value} {r:Bool} (h:∀W,(Op.equalIn Op.maxDepth t (.agg a) (.agg b)).run P W= .ok r W) (W:World):(binOp .neq t (.agg a) (.agg b)).run P W= .ok (.bool !r) W:=by
 simp [binOp,Op.equal,h W]
end Go.Proofs.YtjjjihkifgdhgaaGreatDoor
namespace Go.Proofs.YtjjjihkifgdhgaaGreatDoor
open Go.RowKit
variable [M:Md]
variable {dd:Bool}
def mh (k:IntKind) (x:Int):List Value:=[.int k x]
def Zx (x:Bool):List Value:=[.bool x]
def BJ (x:ByteArray):List Value:=[.string x]
theorem Ld (k:IntKind) (x:Int):∀u∈mh k x,u.oneCell'=true:=by intro u hu; simp [mh] at hu; subst hu; rfl
theorem V8 (x:ByteArray):∀u∈BJ x,u.oneCell'=true:=by intro u hu; simp [BJ] at hu; subst hu; rfl
def zS:ByteArray:=⟨#[]⟩
def tE (a b:ByteArray):Bool:=Op.bytesLess a.toList b.toList
@[irreducible] def kY:Nat:=18446744073709551616
theorem zy:kY=18446744073709551616:=by unfold kY; rfl
def lD {α:Type} (l:List α) (i:Int):Option α:=if 0≤i then l[i.toNat]? else none
theorem kW {α:Type} {l:List α} {i:Int} {x:α} (h:lD l i=some x):0≤i:=by
 unfold lD at h; split at h
 ·assumption
 ·cases h
theorem kO {α:Type} {l:List α} {i:Int} {x:α} (h:lD l i=some x):l[i.toNat]? =some x:=by
 unfold lD at h; split at h
 ·exact h
 ·cases h
theorem GZ {α:Type} (l:List α) (i:Nat):lD l (i:Int)=l[i]?:=by simp [lD]
def ED (s:ByteArray) (i:Int):Option UInt8:=if 0≤i then s[i.toNat]? else none
theorem QO {s:ByteArray} {i:Int} {x:UInt8} (h:ED s i=some x):0≤i:=by
 unfold ED at h; split at h
 ·assumption
 ·cases h
theorem V1 {s:ByteArray} {i:Int} {x:UInt8} (h:ED s i=some x):s[i.toNat]? =some x:=by
 unfold ED at h; split at h
 ·exact h
 ·cases h
section
variable {F:Nat→Prop} {w W:World} {μ:lE} {L L':List (Nat×Obj)} {α:Type} {e:TypeId} {enc:α→List Value} {k:Nat} {v:Value} {l:List α} {R:List (Nat×Obj)}
theorem ST.at_ (h:ST dd F w W μ L) {b:Nat} {o:Obj} (hb:(b,o)∈L):hp W b=some o:=(h.box b o hb).1
theorem lh.slM (h:lh e enc k v l R) (hk:∀x,(enc x).length=k) (d:ST dd F w W μ L) (i:∀p,p∈R→p∈L):Sl (Pl enc) k (hp W) v l :=
 h.sl hk (λ_ _ hb=>d.at_ (i _ hb))
theorem lh.form (h:lh e enc k v l R):∃A c,v= .slice A l.length c:=by
 rcases h with ⟨rfl,rfl,rfl⟩ | ⟨g,cap,d,rfl,rfl,h1,i,j,n⟩
 ·exact ⟨_,_,rfl⟩
 ·exact ⟨_,_,rfl⟩
theorem Sl.form {R:tu α} (h:Sl R k μ v l):∃A c,v= .slice A l.length c:=let ⟨A,c,h,_⟩:=h; ⟨A,c,h⟩
theorem lh.Xc (h:lh e enc k v l R) (i:ST dd mN w W μ L) (j:∀p,p∈R→p∈L):Fr w.heap.size v:=by
 rcases h with ⟨rfl,rfl,rfl⟩ | ⟨g,cap,d,rfl,rfl,h1,n,u,x⟩
 ·exact Fr.nil _
 ·intro b hb
  simp [Value.ownBlock] at hb
  subst hb
  rcases (i.box g (.cells d e (0,0)) (j _ (bO.2 rfl))).2.2 with h | h
  ·exact h
  ·exact h.elim
theorem Sl.lit {b m:Nat} {cs:Array Value} (hk:∀x,(enc x).length=k) (hm:l.length=m) (i:m≤maxLen) (d:cs.toList=(l.map enc).flatten) (hb:μ b=some (.cells cs e (0,0))):Sl (Pl enc) k μ (.slice (some ⟨b,0,none⟩) m m) l :=
 (lh.lit (e:=e) (b:=b) hm i d (by have:=bA List.length d; rw [sn hk,dF,hm] at this; exact this)).sl hk (λj o h=>by simp at h; obtain ⟨rfl,rfl⟩:=h; exact hb)
theorem Fr.box (h:ST dd mN w W μ L) {b m c:Nat} {o:Obj} (hb:(b,o)∈L):Fr w.heap.size (.slice (some ⟨b,0,none⟩) m c):=by
 intro i d
 simp [Value.ownBlock] at d
 subst d
 rcases (h.box b o hb).2.2 with h | h
 ·exact h
 ·exact h.elim
theorem ST.perm (h:ST dd F w W μ L) (hp:L.Perm L'):ST dd F w W μ L' :=
 ⟨h.os,h.tape,h.output,h.drawn,h.size,h.nL,h.mem,λb o hb=>h.box b o (hp.mem_iff.2 hb),(hp.map _).nodup_iff.1 h.nd⟩
theorem ST.sublist (h:ST dd F w W μ L) (d:L'.Sublist L):ST dd F w W μ L' :=
 ⟨h.os,h.tape,h.output,h.drawn,h.size,h.nL,h.mem,λb o hb=>h.box b o (d.subset hb),h.nd.sublist (d.map _)⟩
end
section
variable {E:Nat→Value} {x1 x2 x3 x4 x5 x6:Operand} {v1 v2 v3 v4 v5 v6:Value}
theorem pR (h1:kP E x1=v1):#[x1].map (kP E)++(#[]:Array Value)=[v1].toArray:=by simp [h1]
theorem qT (h1:kP E x1=v1) (d:kP E x2=v2):#[x1,x2].map (kP E)++(#[]:Array Value)=[v1,v2].toArray:=by simp [h1,d]
end
theorem NM:∀(v:List Value) (i off:Nat) (cells:Array Value),off+i+v.length≤cells.size→
  (v.zipIdx i).foldl (λcs (c,j)=>cs.setIfInBounds (off+j) c) cells=(cells.toList.take (off+i)++v++cells.toList.drop (off+i+v.length)).toArray
 | [],i,off,cells,h=>by simp
 | c::v,i,off,cells,h=>by
  simp only [gv,eY]
  simp only [aG] at h
  rw [NM v (i+1) off _ (by simp; omega)]
  have p:off+i < cells.toList.length:=by simp; omega
  congr 1
  rw [Array.toList_setIfInBounds]
  apply eT
  intro j
  have u:(cells.toList.take (off+i)).length=off+i:=by simp; omega
  by_cases h1:j < off+i
  ·simp only [gp,aC,dI,iQ,dF,aG,fP,fB,ek]
   rw [show min (off+(i+1)) cells.size=off+(i+1) by omega,show min (off+i) cells.size=off+i by omega]
   rw [bD (by omega),bD (by omega),bD (by omega),bG (by omega),bD (by omega),bD (by omega),bD (by omega)]
  ·by_cases n:j=off+i
   ·subst n
    simp [gp,fP,fB,show off+i < off+(i+1) by omega]
    rw [bD (by omega),bD (by omega),bG (by omega),show off+i-min (off+i) cells.size=0 by omega]
    rfl
   ·simp only [gp,aC,dI,iQ,dF,aG,fP,fB,ek]
    rw [show min (off+(i+1)) cells.size=off+(i+1) by omega,show min (off+i) cells.size=off+i by omega]
    by_cases d:j < off+(i+1)+v.length
    ·rw [bD d,bG (by omega),bD (by omega),bG (by omega)]
     rw [show j-(off+i)=(j-(off+(i+1)))+1 by omega]
     simp
    ·rw [bG d,bG (by omega),bG (by omega)]
     congr 1
     omega
theorem P6 {k:Nat}:∀(vs:List Value) (i:Nat) (pre rest:List Value),(∀v∈vs,v.cells.size=k)→pre.length=i*k→rest.length=vs.length*k→
  Instr.fill (λi=>some (i*k,k)) (pre++rest).toArray ((vs.zipIdx i).map (λp=>(p.2,p.1)))=some (pre++vs.flatMap (λv=>v.cells.toList)).toArray
 | [],i,pre,rest,w,hp,n=>by
  have:rest=[]:=by cases rest <;> simp at n ⊢
  simp [Instr.fill,this]
 | v::vs,i,pre,rest,w,hp,n=>by
  have d:=w v (by simp)
  have x:v.cells.zipIdx.foldl (λcs (c,j)=>cs.setIfInBounds (i*k+j) c) (pre++rest).toArray=(pre++v.cells.toList++rest.drop k).toArray:=by
   have:=NM v.cells.toList 0 (i*k) (pre++rest).toArray (by simp [hp,n,d,du])
   rw [←Array.toList_zipIdx,Array.foldl_toList] at this
   rw [this]
   congr 1
   simp [←hp,d]
  simp only [gv,aU,Instr.fill]
  rw [bG (by simp [d,hp,n,du]),x]
  have:=P6 vs (i+1) (pre++v.cells.toList) (rest.drop k) (λu hu=>w u (by simp [hu])) (by simp [hp,d,du]) (by simp [n,du])
  rw [this]
  simp
theorem Vv {k m:Nat} {d cs:Array Value} {j:Array (Nat×Value)} (vs:List Value) (u:j.toList=vs.zipIdx.map (λp=>(p.2,p.1))) (x:∀v∈vs,v.cells.size=k) (hm:vs.length=m) (w:d.size=m*k) (n:(vs.flatMap (λv=>v.cells.toList)).toArray=cs):Instr.fill (λi=>some (i*k,k)) d j.toList=some cs:=by
 subst hm n
 rw [u]
 have:=P6 vs 0 [] d.toList x (by simp) (by simpa using w)
 simpa using this
theorem Fb {P:Program} {t e:TypeId} {m k:Nat} {z:Value} {d:Array (Nat×Value)} {cs:Array Value} (vs:List Value) (x:P.underlying t=some (.slice e)) (u:∀w,(sizeOf e).run P w= .ok k w) (E:∀w,(zeroValue e).run P w= .ok z w) (hm:m*k≤16777216) (n:d.toList=vs.zipIdx.map (λp=>(p.2,p.1))) (A:∀v∈vs,v.cells.size=k) (j:vs.length=m) (i:(vs.flatMap (λv=>v.cells.toList)).toArray=cs) (W:World) :
  (Instr.buildSlice t m d).run P W= .ok (.slice (some ⟨W.heap.size,0,none⟩) m m) (W.alloc (.cells cs e (0,0))) :=
 MO x u E hm (Vv vs n A j (by simp) i) W
theorem xV {E:Nat→Value} :(#[]:Array (Nat×Operand)).map (λ(i,x)=>(i,kP E x))=#[]:=by simp
theorem og {E:Nat→Value} {x0:Operand} {v0:Value} {i0:Nat} (d:kP E x0=v0):(#[(i0,x0)]:Array (Nat×Operand)).map (λ(i,x)=>(i,kP E x))=#[(i0,v0)]:=by simp [d]
theorem vC {E:Nat→Value} {x0 x1:Operand} {v0 v1:Value} {i0 i1:Nat} (d:kP E x0=v0) (h1:kP E x1=v1):(#[(i0,x0),(i1,x1)]:Array (Nat×Operand)).map (λ(i,x)=>(i,kP E x))=#[(i0,v0),(i1,v1)]:=by simp [d,h1]
theorem BD {E:Nat→Value} {x0 x1 x2:Operand} {v0 v1 v2:Value} {i0 i1 i2:Nat} (d:kP E x0=v0) (h1:kP E x1=v1) (j:kP E x2=v2):(#[(i0,x0),(i1,x1),(i2,x2)]:Array (Nat×Operand)).map (λ(i,x)=>(i,kP E x))=#[(i0,v0),(i1,v1),(i2,v2)]:=by simp [d,h1,j]
theorem ZJ {E:Nat→Value} {x0 x1 x2 x3 x4:Operand} {v0 v1 v2 v3 v4:Value} {i0 i1 i2 i3 i4:Nat} (d:kP E x0=v0) (h1:kP E x1=v1) (j:kP E x2=v2) (n:kP E x3=v3) (p:kP E x4=v4):(#[(i0,x0),(i1,x1),(i2,x2),(i3,x3),(i4,x4)]:Array (Nat×Operand)).map (λ(i,x)=>(i,kP E x))=#[(i0,v0),(i1,v1),(i2,v2),(i3,v3),(i4,v4)]:=by simp [d,h1,j,n,p]
theorem me {P:Program} {t:TypeId} {f off:Nat} {fs:Array Field} {fd:Field} (n:P.underlying t=some (.struct fs)) (d:fs[f]? =some fd) {k:Nat} (j:∀w,(sizeOf fd.type).run P w= .ok k w) (hk:k≠0) (i:fd.offset=off):mE P t f off:=by
 intro b o w
 subst i
 simp [Instr.fieldAt,bI n,d,Instr.sureAddr,fieldPlace,dQ,j w,hk]
theorem Ag.Lr {n:Nat} {a:Act} {E:Nat→Value} (h:Ag n a E) {ops:Array Oper} {j t:Nat} (i:(ops[j]?).bind (·.dst)=some t) (u:t < n) (v:E t=undef):yielded ops a.tmps j=none:=by
 have d:=h.2.2 t
 have p:a.tmps[t]? =some (E t):=by
  rw [←d]
  simp [fc,h.1,u]
 simp [yielded,i,p,v,undef]
theorem Zw {P:Program} {n:Nat} {Q:tH} {E:Nat→Value} {W:World} {ops:Array Oper} {rest:List Oper} {o:Oper} {d j t:Nat} {want:Bool} (p:o.dst=some d) (w:d < n) (u:o.guard=some (j,want)) (v:(ops[j]?).bind (·.dst)=some t) (x:t < n) (i:E t=undef) (h:LW P n ops Q rest (qu E d undef) W):LW P n ops Q (o::rest) E W:=λa ha=>by
 unfold wpListIn
 have z:=ha.Lr v x i
 rw [bG (by simp [Region.wanted,u,z])]
 rw [p]
 exact ⟨λ_ _=>trivial,h _ (ha.put w _)⟩
theorem aaa {P:Program} {n:Nat} {Q:tH} {E:Nat→Value} {W:World} {ops:Array Oper} {rest:List Oper} {A:Value→Prop} {o:Oper} {dd:Nat} (hw:wk n ops E o) (i:o.dst=some dd) (j:dd < n) (u:∃p,A p∧∀W,nF P E o W p W) (h:∀p,A p→LW P n ops Q rest (qu E dd p) W):LW P n ops Q (o::rest) E W:=by
 obtain ⟨p,h1,d⟩:=u
 exact IW hw i j (d W) (h p h1)
end Go.Proofs.YtjjjihkifgdhgaaGreatDoor
namespace Go.Proofs.YtjjjihkifgdhgaaGreatDoor
open Go.RowKit
variable [M:Md]
variable {dd:Bool}
theorem sW {P:Program} {n:Nat} {x:Code} {Q:tH} {E:Nat→Value} {W:World} (h:CW P n x (tX (λE W=>Q .normal E W) Q) E W):CW P n x Q E W :=
 MX h (λe E W h=>by cases e <;> exact h)
section
variable {P:Program} {n:Nat} {Q:tH} {E:Nat→Value} {W:World} {d:Option Nat} {ty:TypeId} {pos:String} {af:Array Edge} {g:Option (Nat×Bool)}
 {F:Nat→Prop} {w:World} {μ:lE} {L:List (Nat×Obj)}
def Xv (k:IntKind) (op:BinOp) (a b:Int):Option Value :=
 match op with
 | .quo=>some (.int k (k.wrap (a.tdiv b)))
 | .rem=>some (.int k (a.tmod b))
 | .and=>some (.int k (k.wrap (BitVec.ofInt k.bits a &&& BitVec.ofInt k.bits b).toNat))
 | .or=>some (.int k (k.wrap (BitVec.ofInt k.bits a ||| BitVec.ofInt k.bits b).toNat))
 | _=>none
theorem Xm {op:BinOp} {tx tv:TypeId} {x y:Operand} {k:IntKind} {a b:Int} {v:Value} (n:kP E x= .int k a) (p:kP E y= .int k b) (j:b≠0) (i:Xv k op a b=some v) :
  nF P E ⟨d,.binOp op tx x y tv,ty,pos,af,g⟩ W v W:=by
 show (do let r ←(do eqGuard op tx x y (kP E x) (kP E y); binOp op tx (kP E x) (kP E y)); pure (.value r):Sem Next).run P W=_
 rw [n,p]
 cases op <;> simp [Xv] at i <;> subst i <;> simp [eqGuard,binOp,Op.intDiv,Op.intBits,j]
theorem A4 {tx tv:TypeId} {x y:Operand} {k k':IntKind} {a b:Int} (i:kP E x= .int k a) (j:kP E y= .int k' b) (n:0≤b) :
  nF P E ⟨d,.binOp .shr tx x y tv,ty,pos,af,g⟩ W (.int k (a.fdiv (2 ^ min b.toNat k.bits))) W:=by
 show (do let r ←(do eqGuard .shr tx x y (kP E x) (kP E y); binOp .shr tx (kP E x) (kP E y)); pure (.value r):Sem Next).run P W=_
 rw [i,j]
 simp [eqGuard,binOp,Op.shift,show ¬b < 0 by omega]
theorem oG {s t:TypeId} {x:Operand} {k k':IntKind} {a:Int} {u:TypeDesc} (i:P.underlying s=some u) (j:P.underlying t=some (.int k)) (n:kP E x= .int k' a) :
  nF P E ⟨d,.convert s t x,ty,pos,af,g⟩ W (.int k (k.wrap a)) W:=by
 show (do pure (.value (←convert s t (kP E x))):Sem Next).run P W=_
 rw [n]
 simp [convert,bI i,bI j,Conv.intToInt]
theorem MZ {t e:TypeId} (dd:Nat) (d:P.underlying t=some (.slice e)) (A:Option Addr) (l c:Nat) (W:World):(Op.equalIn (dd+1) t (.slice A l c) (.slice none 0 0)).run P W= .ok A.isNone W:=by
 cases A <;> simp [Op.equalIn,bI d]
theorem F5 {tx tv e:TypeId} {x y:Operand} {A:Option Addr} {l c:Nat} (j:P.underlying tx=some (.slice e)) (n:kP E x= .slice A l c) (p:kP E y= .slice none 0 0) :
  nF P E ⟨d,.binOp .eql tx x y tv,ty,pos,af,g⟩ W (.bool A.isNone) W:=by
 show (do let r ←(do eqGuard .eql tx x y (kP E x) (kP E y); binOp .eql tx (kP E x) (kP E y)); pure (.value r):Sem Next).run P W=_
 rw [n,p]
 have i:=MZ 9999 j A l c W
 simp [eqGuard,binOp,Op.equal,show Op.maxDepth=9999+1 from rfl,i]
def nq (s:ByteArray):List Int:=s.data.toList.map (λb=>(b.toNat:Int))
def Hk (s:ByteArray):Option (List Int):=if s.size≤maxLen then some (nq s) else none
theorem ot (s:ByteArray):(nq s).length=s.size:=by simp only [nq,bT,dF]; rfl
theorem Ty {s:ByteArray} {cap i:Nat} {x:Int} (h:(nq s)[i]? =some x):(bytesRow s cap)[i]? =some (.int .u8 x):=by
 have j:i < s.size:=by have:=(bQ.1 h).1; rwa [ot] at this
 have d:i < s.data.size:=j
 simp [nq] at h
 obtain ⟨b,hb,rfl⟩:=h
 rw [bytesRow,Array.getElem?_append_left (by simpa using d)]
 simp [hb]
theorem N3 {K:Value→World→Prop} {s t e:TypeId} {x:Operand} {str:ByteArray} {l:List Int} (n:ST dd F w W μ L) (I:P.underlying s=some .string) (G:P.underlying t=some (.slice e)) (he:P.underlying e=some (.int .u8)) (u:kP E x= .string str) (hb:Hk str=some l) (h:∀W' v μ',ST dd F w W' μ' L→lx μ μ'→Lo F w μ μ'→Sl (Pl (mh .u8)) 1 μ' v l→Fr w.heap.size v→K v W'):pb P E ⟨d,.convert s t x,ty,pos,af,g⟩ W K:=by
 unfold Hk at hb
 split at hb
 case isFalse=>cases hb
 rename_i hm
 cases hb
 have p:=run_bytes_of_string (P:=P) W s t e str I G he
 have h1:=n.drew.alloc (.cells (bytesRow str (grownCap W str.size 0 e)) e ((bytesRow str (grownCap W str.size 0 e)).size,(bytesRow str (grownCap W str.size 0 e)).size+1))
 refine .inl ⟨.slice (some ⟨W.heap.size,0,none⟩) str.size (grownCap W str.size 0 e),_,?_,h _ _ _ (ST.Ni (A:=[]) h1) (ST.MU (A:=[]) h1) (ST.UU (A:=[]) h1) ?_ ?_⟩
 ·show (do pure (.value (←convert s t (kP E x))):Sem Next).run P W=_
  rw [u]
  simp only [cJ,p,bV,dG]
 ·refine ⟨_,grownCap W str.size 0 e,by rw [ot],by rw [ot]; exact grownCap_ge W str.size 0 e,jd W str.size 0 e hm,λ_=>⟨W.heap.size,0,bytesRow str (grownCap W str.size 0 e),e,_,rfl,bD rfl,λi x u=>⟨_,rfl,rfl,λj y z=>?_⟩⟩⟩
  cases j with
  | zero=>simp [mh] at z; subst z; simpa using Ty u
  | succ j=>simp [mh] at z
 ·intro b hb
  simp [Value.ownBlock] at hb
  subst hb
  exact n.size
def uF (l:List Int):ByteArray:=l.foldl (λr n=>r.push (UInt8.ofNat n.toNat)) ByteArray.empty
theorem RO {s t e:TypeId} {x:Operand} {v:Value} {l:List Int} (O:P.underlying s=some (.slice e)) (he:P.underlying e=some (.int .u8)) (M:P.underlying t=some .string) (R:kP E x=v) (Q:Sl (Pl (mh .u8)) 1 (hp W) v l) :
  nF P E ⟨d,.convert s t x,ty,pos,af,g⟩ W (.string (uF l)) W:=by
 show (do pure (.value (←convert s t (kP E x))):Sem Next).run P W=_
 obtain ⟨A,c,rfl,U,Y,G⟩:=Q
 rw [R]
 simp only [cJ,run_convert_bytes_string W s t e A l.length c O he M]
 rcases eo l.length with i | i
 ·have:l=[]:=ez.1 i
  subst this
  cases A with
  | none=>simp [Conv.bytesToString,uF]
  | some a=>
   have I:=run_bytesToString (P:=P) W a 0 c [] (by simpa using jc (P:=P) W a [] (by simp))
   simp only [aZ]
   rw [I]
   simp [uF]
 ·obtain ⟨b,off,cs,T,fr,rfl,J,L⟩:=G i
  have z:=jc (P:=P) W ⟨b,off,none⟩ (l.map (Value.int .u8)) (λj v w=>by
   simp at w
   obtain ⟨x,p,rfl⟩:=w
   obtain ⟨ys,_,u,n⟩:=L j x p
   cases u
   rw [dQ,fA W b (off+j) cs T fr J]
   have:=n 0 (.int .u8 x) rfl
   simpa using this)
  simp only [bT] at z
  rw [run_bytesToString W _ l.length c l z]
  simp [uF]
end
end Go.Proofs.YtjjjihkifgdhgaaGreatDoor
namespace Go.Proofs.YtjjjihkifgdhgaaGreatDoor
open Go.RowKit
variable {dd:Bool}
def keys (L:List (Nat×Obj)):Nat→Prop:=λb=>∃o,(b,o)∈L
structure ExF (dd:Bool) (F:Nat→Prop) (w W:World):Prop where
 os:W.os=w.os
 tape:W.tape=w.tape
 output:W.output=w.output
 drawn:wQ dd w.drawn W.drawn
 size:w.heap.size≤W.heap.size
 nL:∀b,b < w.heap.size→¬F b→W.heap[b]? =w.heap[b]?
def I4 (L:List (Nat×Obj)) (W:World):Prop:=∀b o,(b,o)∈L→W.heap[b]? =some o
structure xv (dd:Bool) (L0 L1:List (Nat×Obj)) (w w':World):Prop where
 ex:ExF dd (keys L0) w w'
 held:∀b o,(b,o)∈L1→w'.heap[b]? =some o∧(w.heap.size≤b∨keys L0 b)
 nd:(L1.map (·.1)).Nodup
open Classical in
noncomputable def ya (w:World) (L:List (Nat×Obj)):lE:=λb=>if keys L b then none else w.heap[b]?
open Classical in
noncomputable def Gj (μ:lE) (W W':World) (L1:List (Nat×Obj)):lE:=λb=>if b < W.heap.size then μ b else if keys L1 b then none else W'.heap[b]?
section
variable {F:Nat→Prop} {w W W':World} {μ μ':lE} {L L0 L1:List (Nat×Obj)}
theorem ST.ZG (d:I4 L0 w) (i:(L0.map (·.1)).Nodup):ST dd (keys L0) w w (ya w L0) L0 :=
 ⟨rfl,rfl,rfl,wQ.of (aR _),aR _,λ_ _ _=>rfl,λb o h=>by
  unfold ya at h; split at h
  ·cases h
  ·exact h,λb o h=>⟨d b o h,by unfold ya; rw [bD ⟨o,h⟩],.inr ⟨o,h⟩⟩,i⟩
theorem Jt {A B:List (Nat×Obj)} (h:((A++B).map (·.1)).Nodup) {b:Nat} {o:Obj} (hb:(b,o)∈B):¬keys A b:=by
 rintro ⟨i,d⟩
 rw [cL] at h
 exact (cD.1 h).2.2 b (aS.2 ⟨_,d,rfl⟩) b (aS.2 ⟨_,hb,rfl⟩) rfl
theorem ST.back (h:ST dd F w W μ (L0++L)) (hb:xv dd L0 L1 W W'):ST dd F w W' (Gj μ W W' L1) (L1++L):=by
 have hk:∀b,keys L0 b→b < W.heap.size∧μ b=none∧(w.heap.size≤b∨F b):=λb ⟨o,d⟩=>by
  obtain ⟨h1,i,u⟩:=h.box b o (cQ _ d)
  exact ⟨qD h1,i,u⟩
 refine ⟨hb.ex.os.trans h.os,hb.ex.tape.trans h.tape,hb.ex.output.trans h.output,wQ.trans h.drawn hb.ex.drawn,dx h.size hb.ex.size,λb j v=>?_,λb o d=>?_,λb o d=>?_,?_⟩
 ·rw [hb.ex.nL b (ey j h.size) (λn=>by
   rcases (hk b n).2.2 with h | h
   ·omega
   ·exact v h)]
  exact h.nL b j v
 ·unfold Gj at d
  split at d
  ·rename_i j
   rw [hb.ex.nL b j (λn=>by rw [(hk b n).2.1] at d; cases d)]
   exact h.mem b o d
  ·split at d
   ·cases d
   ·exact d
 ·rcases aO.1 d with d | d
  ·obtain ⟨h1,i⟩:=hb.held b o d
   refine ⟨h1,?_,?_⟩
   ·unfold Gj
    split
    ·rename_i j
     rcases i with i | i
     ·omega
     ·exact (hk b i).2.1
    ·rw [bD ⟨o,d⟩]
   ·rcases i with i | i
    ·exact .inl (dx h.size i)
    ·exact (hk b i).2.2
  ·obtain ⟨h1,i,u⟩:=h.box b o (ev _ d)
   refine ⟨?_,?_,u⟩
   ·rw [hb.ex.nL b (qD h1) (Jt h.nd d)]; exact h1
   ·unfold Gj; rw [bD (qD h1)]; exact i
 ·rw [cL]
  have z:(L.map (·.1)).Nodup:=by have:=h.nd; rw [cL] at this; exact (cD.1 this).2.1
  refine cD.2 ⟨hb.nd,z,λa ha c A e=>?_⟩
  subst e
  obtain ⟨⟨b,o⟩,d,rfl⟩:=aS.1 ha
  obtain ⟨⟨x,E⟩,p,e⟩:=aS.1 A
  simp at e; subst e
  have j:=h.Lm (ev _ p)
  rcases (hb.held x o d).2 with i | i
  ·omega
  ·exact Jt h.nd p i
theorem ST.Qf (h:ST dd F w W μ L) (W':World) (L1:List (Nat×Obj)):Lo F w μ (Gj μ W W' L1):=λb hb _=>bD (ey hb h.size)
theorem ST.NG (h:ST dd F w W μ L) (W':World) (L1:List (Nat×Obj)):lx μ (Gj μ W W' L1):=λb o hb=>by
 unfold Gj; rw [bD (h.Jq hb)]; exact hb
theorem ST.nu (h:ST dd F w W μ L) (d:∀p,p∈L0→p∈L):lx μ (ya W L0):=λb o hb=>by
 unfold ya
 rw [bG]
 ·exact h.mem b o hb
 ·rintro ⟨j,i⟩
  rw [(h.box b j (d _ i)).2.1] at hb
  cases hb
theorem xv.OA (h:Ex dd w W) (d:∀b o,(b,o)∈L1→W.heap[b]? =some o∧w.heap.size≤b) (i:(L1.map (·.1)).Nodup):xv dd [] L1 w W :=
 ⟨⟨h.os,h.tape,h.output,h.drawn,h.size,λb hb _=>h.nL b hb⟩,λb o hb=>⟨(d b o hb).1,.inl (d b o hb).2⟩,i⟩
end
def mi (dd:Bool) (P:Program) (f:FuncId) (args:List Value) (w:World) (L0:List (Nat×Obj)) (K:Value→List (Nat×Obj)→World→Prop):Prop :=
 Calls P f args.toArray w λe d=>∃v L1,e= .returned v∧xv dd L0 L1 w d∧K v L1 d
def pH (dd:Bool) {α:Type} (P:Program) (f:FuncId) (args:List Value) (w:World) (e:TypeId) (enc:α→List Value) (k:Nat) (l:List α):Prop :=
 mi dd P f args w [] λv R _=>lh e enc k v l R
theorem xv.nx {L0 L1:List (Nat×Obj)} {w d:World} (h:xv true L0 L1 w d):xv dd L0 L1 w d:=⟨⟨h.ex.os,h.ex.tape,h.ex.output,wQ.of (h.ex.drawn rfl),h.ex.size,h.ex.nL⟩,h.held,h.nd⟩
theorem lC.nx {P:Program} {f:FuncId} {args:List Value} {w:World} {v:Value} (h:lC true P f args w v):lC dd P f args w v:=dA h λ_ _ h=>⟨h.1,h.2.nx⟩
theorem mi.nx {P:Program} {f:FuncId} {args:List Value} {w:World} {L0:List (Nat×Obj)} {K:Value→List (Nat×Obj)→World→Prop} (h:mi true P f args w L0 K):mi dd P f args w L0 K:=dA h λ_ _ ⟨v,L1,h1,d,i⟩=>⟨v,L1,h1,d.nx,i⟩
theorem pH.nx {α:Type} {P:Program} {f:FuncId} {args:List Value} {w:World} {e:TypeId} {enc:α→List Value} {k:Nat} {l:List α} (h:pH true P f args w e enc k l):pH dd P f args w e enc k l:=mi.nx h
section
variable {P:Program} {E:Nat→Value} {W:World} {d:Option Nat} {ty:TypeId} {pos:String} {af:Array Edge} {g:Option (Nat×Bool)}
 {F:Nat→Prop} {w:World} {μ:lE} {L:List (Nat×Obj)}
theorem V2 {K:Value→World→Prop} {K':Value→List (Nat×Obj)→World→Prop} {f:FuncId} {fv:Operand} {ax:Array Operand} {ats:Array TypeId} {caps:Array Value} {args:List Value} (L0 L2:List (Nat×Obj)) (i:ST dd F w W μ L) (j:L.Perm (L0++L2)) (x:kP E fv= .func (.func f) #[] caps) (he:∀args w,(callFunc f args).run P w= .ok (.enter f args) w) (ha:ax.map (kP E)++caps=args.toArray) (u:mi dd P f args W L0 K') (h:∀W' v μ' L1,ST dd F w W' μ' (L1++L2)→lx μ μ'→Lo F w μ μ'→K' v L1 W'→K v W'):pb P E ⟨d,.call ⟨.value fv,ax,ats⟩,ty,pos,af,g⟩ W K :=
 G4 x he ha (dA u (λ_ W' ⟨v,L1,h1,n,p⟩=>⟨v,h1,h W' v _ L1 ((i.perm j).back n) ((i.perm j).NG W' L1) ((i.perm j).Qf W' L1) p⟩))
theorem SL {K:Value→World→Prop} {α:Type} {e:TypeId} {enc:α→List Value} {k:Nat} {l:List α} {f:FuncId} {fv:Operand} {ax:Array Operand} {ats:Array TypeId} {caps:Array Value} {args:List Value} (X Y:List (Nat×Obj)) (i:ST dd F w W μ (X++Y)) (x:kP E fv= .func (.func f) #[] caps) (he:∀args w,(callFunc f args).run P w= .ok (.enter f args) w) (ha:ax.map (kP E)++caps=args.toArray) (u:pH dd P f args W e enc k l) (h:∀W' v μ' R,ST dd F w W' μ' (X++(R++Y))→lx μ μ'→Lo F w μ μ'→lh e enc k v l R→K v W'):pb P E ⟨d,.call ⟨.value fv,ax,ats⟩,ty,pos,af,g⟩ W K :=
 V2 [] (X++Y) i (.refl _) x he ha u (λW' v μ' L1 h1 j p n=>h W' v μ' L1 (h1.perm (by rw [←aM,←aM]; exact List.perm_append_comm.append_right Y)) j p n)
end
theorem ST.uA {w W:World} {μ:lE} {L R:List (Nat×Obj)} (h:ST dd mN w W μ L) (d:∀p,p∈R→p∈L) (i:(R.map (·.1)).Nodup):xv dd [] R w W :=
 xv.OA h.ex (λb o hb=>⟨(h.box b o (d _ hb)).1,by
  rcases (h.box b o (d _ hb)).2.2 with h | h
  ·exact h
  ·exact h.elim⟩) i
theorem tI {P:Program} {E:Nat→Value} {W:World} {d:Option Nat} {ty:TypeId} {pos:String} {af:Array Edge} {g:Option (Nat×Bool)} {α:Type} {e':TypeId} {enc:α→List Value} {k:Nat} {v:Value} {l:List α} {R:List (Nat×Obj)} {x:Operand} {t e:TypeId} (i:P.underlying t=some (.slice e)) (j:kP E x=v) (h:lh e' enc k v l R):nF P E ⟨d,.call ⟨.builtin .len,#[x],#[t]⟩,ty,pos,af,g⟩ W (.int .i64 l.length) W:=by
 obtain ⟨A,c,rfl⟩:=h.form
 exact Hl i j
section
variable {α:Type} {e:TypeId} {enc:α→List Value} {k:Nat} {v:Value} {l:List α} {R:List (Nat×Obj)}
theorem lh.nd (h:lh e enc k v l R):(R.map (·.1)).Nodup:=by
 rcases h with ⟨rfl,rfl,rfl⟩ | ⟨g,cap,d,rfl,rfl,_⟩ <;> simp
end
end Go.Proofs.YtjjjihkifgdhgaaGreatDoor
namespace Go.Proofs.YtjjjihkifgdhgaaGreatDoor
open Go.RowKit
variable {dd:Bool}
def Fc (R:List (Nat×Obj)) (k:Nat) (p:Value) (i:Nat):Prop:=∃g o,R=[(g,o)]∧p= .pointer (some ⟨g,i*k,none⟩)
section
variable {P:Program} {E:Nat→Value} {W:World} {d:Option Nat} {ty:TypeId} {pos:String} {af:Array Edge} {g:Option (Nat×Bool)}
 {F:Nat→Prop} {w:World} {μ:lE} {L:List (Nat×Obj)} {α:Type} {e':TypeId} {enc:α→List Value} {k:Nat} {v:Value} {l:List α} {R:List (Nat×Obj)}
theorem lI {t e:TypeId} {x n:Operand} {M:IntKind} {i:Int} {x0:α} (J:P.underlying t=some (.slice e)) (he:∀w,(sizeOf e).run P w= .ok k w) (L:kP E x=v) (G:kP E n= .int M i) (h:lh e' enc k v l R) (A:0≤i) (I:l[i.toNat]? =some x0) :
  ∃p,Fc R k p i.toNat∧∀W,nF P E ⟨d,.indexAddr t x n,ty,pos,af,g⟩ W p W:=by
 have j:i.toNat < l.length:=(bQ.1 I).1
 rcases h with ⟨rfl,rfl,rfl⟩ | ⟨z,cap,u,rfl,rfl,h1,O,Q,T⟩
 ·simp at j
 refine ⟨.pointer (some ⟨z,i.toNat*k,none⟩),⟨_,_,rfl,rfl⟩,λW=>?_⟩
 show (do pure (.value (←Instr.indexAt t (kP E x) (kP E n))):Sem Next).run P W=_
 rw [L,G]
 have hb:0≤i∧i < (l.length:Int):=⟨A,by omega⟩
 simp [Instr.indexAt,asIntOf,bI J,he W,hb,dQ]
theorem Fh (h:lh e' enc k v l R) (hk:∀x,(enc x).length=k) {p:Value} {i:Nat} (hp:Fc R k p i) {x0:α} (z:l[i]? =some x0) :
  ∃g d cap,R=[(g,.cells d e' (0,0))]∧v= .slice (some ⟨g,0,none⟩) l.length cap∧l.length≤cap∧cap≤maxLen∧d.size=cap*k∧d.toList.take (l.length*k)=(l.map enc).flatten∧p= .pointer (some ⟨g,i*k,none⟩)∧∀j y,(enc x0)[j]? =some y→d[i*k+j]? =some y:=by
 have u:i < l.length:=(bQ.1 z).1
 rcases h with ⟨rfl,rfl,rfl⟩ | ⟨E,cap,d,rfl,rfl,h1,G,I,w⟩
 ·simp at u
 obtain ⟨g2,o,A,rfl⟩:=hp
 cases A
 refine ⟨E,d,cap,rfl,rfl,h1,G,I,w,rfl,λj y J=>?_⟩
 have:=As hk l i x0 z j y J
 rw [←w] at this
 have n:i*k+j < l.length*k:=by
  have:=(bQ.1 this).1
  simp at this; omega
 rw [dS n] at this
 simpa using this
theorem na {A:List (Nat×Obj)} (hH:ql μ A W) (n:∀q,q∈R→q∈A) (h:lh e' enc k v l R) (hk:∀x,(enc x).length=k) {p:Value} {i:Nat} (hp:Fc R k p i) {x0:α} (E:l[i]? =some x0) {t:TypeId} (u:∀w,(isAgg t).run P w= .ok true w) (z:∀w,(sizeOf t).run P w= .ok k w):(Instr.loadAt t p).run P W= .ok (.agg (enc x0).toArray) W:=by
 obtain ⟨G,d,cap,rfl,rfl,_,_,_,_,rfl,j⟩:=Fh h hk hp E
 exact GQ u (enc x0) (by rw [hk]; exact z) (hH.2 _ _ (n _ (bO.2 rfl))) j
theorem OL {A:List (Nat×Obj)} (hH:ql μ A W) (n:∀q,q∈R→q∈A) (h:lh e' enc k v l R) (hk:∀x,(enc x).length=k) {p:Value} {i:Nat} (hp:Fc R k p i) {x0:α} (z:l[i]? =some x0) {t:TypeId} {y:Value} (E:enc x0=[y]) (u:∀w,(isAgg t).run P w= .ok false w):(Instr.loadAt t p).run P W= .ok y W:=by
 obtain ⟨G,d,cap,rfl,rfl,_,_,_,_,rfl,j⟩:=Fh h hk hp z
 exact GJ u (hH.2 _ _ (n _ (bO.2 rfl))) (j 0 y (by rw [E]; rfl))
theorem Kq (hk:∀x,(enc x).length=k):∀(l:List α) (i:Nat) (y:α),i < l.length→((l.set i y).map enc).flatten=(l.map enc).flatten.take (i*k)++enc y++(l.map enc).flatten.drop (i*k+k)
 | [],i,y,h=>by simp at h
 | z::l,0,y,h=>by
  simp [hk]
 | z::l,i+1,y,h=>by
  have:=Kq hk l i y (by simpa using h)
  simp only [List.set_cons_succ,aU,aV,this]
  have h1:(i+1)*k=(enc z).length+i*k:=by rw [hk,du]; omega
  rw [h1,iX,ew,List.drop_length_add_append]
  simp
theorem SV {K:Value→World→Prop} (X:List (Nat×Obj)) {Y:List (Nat×Obj)} {t:TypeId} {x y:Operand} {p u:Value} {i:Nat} {x0 x1:α} (z:ST dd F w W μ (X++(R++Y))) (h:lh e' enc k v l R) (hk:∀x,(enc x).length=k) (h1:∀x,∀u∈enc x,u.oneCell'=true) (hx:kP E x=p) (hy:kP E y=u) (hu:u.cells=(enc x1).toArray) (hp:Fc R k p i) (Q:l[i]? =some x0) (hS:∀w,(sizeOf t).run P w= .ok k w) (hK:∀W' R',ST dd F w W' μ (X++(R'++Y))→lh e' enc k v (l.set i x1) R'→K undef W'):pb P E ⟨d,.store t x y,ty,pos,af,g⟩ W K:=by
 have L:i < l.length:=(bQ.1 Q).1
 obtain ⟨G,j,cap,rfl,rfl,O,Z,J,h5,rfl,h6⟩:=Fh h hk hp Q
 have hle:i*k+k≤cap*k:=by
  have:(i+1)*k≤cap*k:=dr _ (by omega)
  rwa [du,jY] at this
 have A:i*k+k≤l.length*k:=by
  have:(i+1)*k≤l.length*k:=dr _ (by omega)
  rwa [du,jY] at this
 have n:u.cells.size=k:=by rw [hu]; simp [hk]
 have hb:=(z.box G (.cells j e' (0,0)) (by simp)).1
 have hlen:l.length*k≤cap*k:=dr _ O
 refine .inr (.inl ⟨W.setRow G (j.toList.take (i*k)++(enc x1)++j.toList.drop (i*k+k)).toArray,?_,hK _ [(G,.cells (j.toList.take (i*k)++(enc x1)++j.toList.drop (i*k+k)).toArray e' (0,0))] (z.store _) (.inr ⟨G,cap,_,by simp,rfl,by simpa using O,Z,?_,?_⟩)⟩)
 ·show (do Instr.storeAt t (kP E x) (kP E y); pure .skip:Sem Next).run P W=_
  rw [hx,hy]
  have:=GV P (off:=i*k) u (by rw [n]; exact hS) (by rw [hu]; simpa using h1 x1) hb (by rw [n,J]; exact hle)
  simp only [cJ,this,bV,dG,n]
  rw [hu]
 ·show ((j.toList.take (i*k)++(enc x1)++j.toList.drop (i*k+k)).toArray).size=_
  have I:j.toList.length=cap*k:=by simpa using J
  rw [dV,aC,aC,dI,gw,hk,I,dY (by omega)]; omega
 ·rw [iQ,Kq hk l i x1 L,←h5]
  have T:(j.toList.take (l.length*k)).take (i*k)=j.toList.take (i*k):=by rw [ig]; congr 1; omega
  have U:(j.toList.take (l.length*k)).drop (i*k+k)=(j.toList.drop (i*k+k)).take (l.length*k-(i*k+k)):=by rw [je]
  rw [T,U]
  show List.take (l.length*k) (j.toList.take (i*k)++enc x1++j.toList.drop (i*k+k))=_
  have I:j.toList.length=cap*k:=by simpa using J
  have M:(j.toList.take (i*k)++enc x1).length=i*k+k:=by rw [aC,dI,hk,I,dY (by omega)]
  rw [fL,dX (by rw [M]; exact A),M]
theorem IQ (hk:∀x,(enc x).length=k):∀(l:List α) (i:Nat),i≤l.length→((l.take i).map enc).flatten=(l.map enc).flatten.take (i*k)
 | [],i,h=>by simp
 | z::l,0,h=>by simp
 | z::l,i+1,h=>by
  have:=IQ hk l i (by simpa using h)
  simp only [List.take_succ_cons,aU,aV,this]
  rw [show (i+1)*k=(enc z).length+i*k by rw [hk,du]; omega,iX]
theorem IK {t e:TypeId} {x ih:Operand} {T:IntKind} {i:Int} (z:P.underlying t=some (.slice e)) (he:∀w,(sizeOf e).run P w= .ok k w) (A:kP E x=v) (u:kP E ih= .int T i) (h:lh e' enc k v l R) (hk:∀x,(enc x).length=k) (J:0≤i) (Q:i≤l.length) :
  ∃G,lh e' enc k G (l.take i.toNat) R∧∀W,nF P E ⟨d,.slice t x none (some ih) none,ty,pos,af,g⟩ W G W:=by
 have j:i.toNat≤l.length:=by omega
 rcases h with ⟨rfl,rfl,rfl⟩ | ⟨p,cap,n,rfl,rfl,h1,L,M,O⟩
 ·have:i=0:=by simp at Q; omega
  subst this
  refine ⟨.slice none 0 0,.inl ⟨rfl,by simp,rfl⟩,λW=>?_⟩
  show (do pure (.value (←Instr.sliceAt t (kP E x) none (some (kP E ih)) none)):Sem Next).run P W=_
  rw [A,u]
  simp [Instr.sliceAt,Instr.slice,Instr.sliceBounds,Instr.sliceBound,asIntOf,bI z,he W]
 ·refine ⟨.slice (some ⟨p,0,none⟩) (l.take i.toNat).length cap,.inr ⟨p,cap,n,rfl,rfl,by simp; omega,L,M,?_⟩,λW=>?_⟩
  ·have I:(l.take i.toNat).length=i.toNat:=by rw [dI]; omega
   have hle:i.toNat*k≤l.length*k:=dr _ j
   rw [I,IQ hk l i.toNat j,←O,ig,dY hle]
  ·show (do pure (.value (←Instr.sliceAt t (kP E x) none (some (kP E ih)) none)):Sem Next).run P W=_
   rw [A,u]
   have hb:0≤i∧i≤(cap:Int):=⟨J,by omega⟩
   simp [Instr.sliceAt,Instr.slice,Instr.sliceBounds,Instr.sliceBound,asIntOf,bI z,he W,hb,dQ]
   omega
theorem J6 {G:tu α} {t e:TypeId} {x u:Operand} {ik:IntKind} {i:Int} (ht:P.underlying t=some (.slice e)) (he:∀w,(sizeOf e).run P w= .ok k w) (n:kP E x=v) (U:kP E u= .int ik i) (h:Sl G k μ v l) (I:0≤i) (Y:i≤l.length) :
  ∃z,(Sl G k μ z (l.drop i.toNat)∧∀B,Fr B v→Fr B z)∧∀W,nF P E ⟨d,.slice t x (some u) none none,ty,pos,af,g⟩ W z W:=by
 obtain ⟨A,c,rfl,h2,h3,J⟩:=h
 have Z:i.toNat≤l.length:=by omega
 refine ⟨.slice (if c=i.toNat then A else A.map (·.add (i.toNat*k))) (l.drop i.toNat).length (c-i.toNat),⟨⟨_,_,rfl,by simp; omega,by omega,λhp=>?_⟩,λB R b hb=>?_⟩,λW=>?_⟩
 ·have a1:i.toNat < l.length:=by simp at hp; omega
  obtain ⟨b,off,cs,T,fr,rfl,L,M⟩:=J (by omega)
  refine ⟨b,off+i.toNat*k,cs,T,fr,?_,L,λj x n=>?_⟩
  ·rw [bG (by omega)]; simp [dQ]
  ·rw [ek] at n
   obtain ⟨ys,O,Q,p⟩:=M _ x n
   refine ⟨ys,O,Q,λq y hy=>?_⟩
   have:=p q y hy
   rw [du] at this
   rw [show off+i.toNat*k+j*k+q=off+(i.toNat*k+j*k)+q by omega]
   exact this
 ·refine R b ?_
  cases A with
  | none=>simp [Value.ownBlock] at hb
  | some a=>
   split at hb
   ·exact hb
   ·obtain ⟨b',o',s'⟩:=a
    cases s' <;> simp [Value.ownBlock,Addr.add] at hb ⊢ <;> split at hb <;> exact hb
 ·show (do pure (.value (←Instr.sliceAt t (kP E x) (some (kP E u)) none none)):Sem Next).run P W=_
  rw [n,U]
  have hb:0≤i∧i≤(l.length:Int):=⟨I,Y⟩
  simp [Instr.sliceAt,Instr.slice,Instr.sliceBounds,Instr.sliceBound,asIntOf,bI ht,he W,hb]
end
end Go.Proofs.YtjjjihkifgdhgaaGreatDoor
namespace Go.Proofs.YtjjjihkifgdhgaaGreatDoor
open Go.RowKit
variable {dd:Bool}
section
variable {α:Type} {e:TypeId} {enc:α→List Value} {k:Nat} {v:Value} {l:List α} {R:List (Nat×Obj)} {μ:lE}
theorem lh.one (h:lh e enc k v l R):v.oneCell'=true:=by obtain ⟨A,c,rfl⟩:=h.form; rfl
theorem Sl.one {d:tu α} (h:Sl d k μ v l):v.oneCell'=true:=by obtain ⟨A,c,rfl⟩:=h.form; rfl
theorem Sl.isNil {i:tu α} {n c:Nat} (h:Sl i k μ (.slice none n c) l):l=[]:=by
 obtain ⟨A,u,h1,v,w,j⟩:=h
 cases h1
 rcases eo l.length with d | d
 ·exact ez.1 d
 ·obtain ⟨b,off,cs,T,fr,p,_⟩:=j d
  cases p
theorem lh.isNil {n c:Nat} (h:lh e enc k (.slice none n c) l R):l=[]:=by
 rcases h with ⟨h1,rfl,rfl⟩ | ⟨g,cap,d,h1,_⟩
 ·rfl
 ·cases h1
theorem ST.aao {w W:World} {μ:lE} {L1 L2:List (Nat×Obj)} (h:ST dd mN w W μ (L1++L2)):xv dd [] L1 w W :=
 xv.OA h.ex (λb o hb=>⟨(h.box b o (cQ _ hb)).1,by
  rcases (h.box b o (cQ _ hb)).2.2 with h | h
  ·exact h
  ·exact h.elim⟩) (by have:=h.nd; rw [cL] at this; exact (cD.1 this).1)
theorem ST.aau {w W:World} {μ:lE} {L0 L1 L2:List (Nat×Obj)} (h:ST dd (keys L0) w W μ (L1++L2)):xv dd L0 L1 w W :=
 ⟨⟨h.os,h.tape,h.output,h.drawn,h.size,h.nL⟩,λb o hb=>⟨(h.box b o (cQ _ hb)).1,(h.box b o (cQ _ hb)).2.2⟩,by have:=h.nd; rw [cL] at this; exact (cD.1 this).1⟩
end
end Go.Proofs.YtjjjihkifgdhgaaGreatDoor
namespace Go.Proofs.YtjjjihkifgdhgaaGreatDoor
open Go.RowKit
variable {dd:Bool}
def mJ {κ β:Type} (beq:κ→κ→Bool) (l:List (κ×β)) (k:κ):Option β:=(l.find? (λp=>beq k p.1)).map (·.2)
def qK {κ β:Type} (beq:κ→κ→Bool) (l:List (κ×β)) (k:κ) (v:β):List (κ×β) :=
 match l.findIdx? (λp=>beq k p.1) with
 | some i=>l.set i (k,v)
 | none=>l++[(k,v)]
structure yk {κ β:Type} (kenc:κ→Value) (vf:β→Value) (l:List (κ×β)) (es:Array MapEntry) (clock:Nat):Prop where
 JI:es.toList.map (λe=>(e.key,e.val))=l.map (λp=>(kenc p.1,vf p.2))
 born:es.toList.Pairwise (λa b=>a.born < b.born)
 lt:∀e∈es.toList,e.born < clock
def nz {κ β:Type} (kenc:κ→Value) (vf:β→Value) (v:Value) (l:List (κ×β)) (R:List (Nat×Obj)):Prop :=
 ∃m es clock,v= .map (some m)∧R=[(m,.map es clock)]∧yk kenc vf l es clock
def zW {κ β:Type} (kenc:κ→Value) (vf:β→Value) (μ:lE) (v:Value) (l:List (κ×β)):Prop :=
 (v= .map none∧l=[])∨∃m es clock,v= .map (some m)∧μ m=some (.map es clock)∧yk kenc vf l es clock
theorem zW.mono {κ β:Type} {kenc:κ→Value} {vf:β→Value} {μ μ':lE} {v:Value} {l:List (κ×β)} (h:zW kenc vf μ v l) (j:lx μ μ'):zW kenc vf μ' v l:=by
 rcases h with h | ⟨m,es,clock,h1,d,i⟩
 ·exact .inl h
 ·exact .inr ⟨m,es,clock,h1,j _ _ d,i⟩
theorem nz.at {κ β:Type} {kenc:κ→Value} {vf:β→Value} {μ:lE} {v:Value} {l:List (κ×β)} {R:List (Nat×Obj)} (h:nz kenc vf v l R) (i:∀b o,(b,o)∈R→μ b=some o):zW kenc vf μ v l:=by
 obtain ⟨m,es,clock,rfl,rfl,d⟩:=h
 exact .inr ⟨m,es,clock,rfl,i _ _ (bO.2 rfl),d⟩
structure sG {κ:Type} (P:Program) (kt:TypeId) (kenc:κ→Value) (beq:κ→κ→Bool):Prop where
 check:∀b k W,(Instr.checkKey b 10000 kt (kenc k)).run P W= .ok () W
 find:∀(k:κ) (l:List κ) (es:List MapEntry),es.map (·.key)=l.map kenc→∀W,(Instr.findKey kt (kenc k) es).run P W= .ok ((l.findIdx? (λx=>beq k x)).bind λi=>(es[i]?).map λe=>(i,e.val)) W
 eq:∀k x,beq k x=true→kenc x=kenc k
 bits:∀k,Instr.sameBits 10000 (kenc k) (kenc k)=true
section
variable {P:Program} {W:World} {κ:Type} {kt:TypeId} {kenc:κ→Value} {beq:κ→κ→Bool}
theorem G7 (d:∀x y W,(Op.equal kt (kenc x) (kenc y)).run P W= .ok (beq x y) W) (k:κ):∀(l:List κ) (es:List MapEntry) (i:Nat),es.map (·.key)=l.map kenc→
  (Instr.findAsking kt (kenc k) es i).run P W= .ok ((l.findIdx? (λx=>beq k x)).bind λj=>(es[j]?).map λe=>(i+j,e.val)) W
 | [],[],i,h=>by simp [Instr.findAsking]
 | [],_::_,i,h=>by simp at h
 | _::_,[],i,h=>by simp at h
 | x::l,e::es,i,h=>by
  simp only [aU,aY] at h
  obtain ⟨h1,n⟩:=h
  simp only [Instr.findAsking,cJ,h1,d,bV,fk]
  cases hb:beq k x with
  | true=>simp
  | false=>
   simp only [aB,aI]
   rw [G7 d k l es (i+1) n]
   cases l.findIdx? (λx=>beq k x) with
   | none=>rfl
   | some j=>simp [ew,Nat.add_comm 1 j]
theorem QF {kind:TypeDesc} (hk:∀a b,Instr.sameNow kind (.agg a) b=none) (a:Array Value):∀(es:List MapEntry) (i:Nat),Instr.findNow kind (.agg a) es i=if es=[] then some none else none
 | [],i=>by simp [Instr.findNow]
 | e::es,i=>by simp [Instr.findNow,hk]
theorem sG.struct {enc:κ→List Value} {fs:Array Field} (u:P.underlying kt=some (.struct fs)) (p:∀d x y W,(Op.equalIn (d+10) kt (.agg (enc x).toArray) (.agg (enc y).toArray)).run P W= .ok (beq x y) W) (n:∀b k W,(Instr.checkKey b 10000 kt (.agg (enc k).toArray)).run P W= .ok () W) (he:∀k x,beq k x=true→x=k) (hb:∀k,Instr.sameBits 10000 (.agg (enc k).toArray) (.agg (enc k).toArray)=true):sG P kt (λx=>.agg (enc x).toArray) beq where
 check:=n
 find:=λk l es h W=>by
  have i:∀x y W,(Op.equal kt (.agg (enc x).toArray) (.agg (enc y).toArray)).run P W= .ok (beq x y) W:=λx y W=>p 9990 x y W
  simp only [Instr.findKey,cJ,bI u,bV]
  rw [QF (λa b=>by cases b <;> rfl)]
  by_cases j:es=[]
  ·subst j
   have:l=[]:=by simpa using h.symm
   subst this
   simp
  ·rw [bG j]
   dsimp only
   rw [show Instr.findAsking kt (.agg (enc k).toArray) es=Instr.findAsking kt (.agg (enc k).toArray) es 0 from rfl,G7 i k l es 0 h]
   simp
 eq:=λk x h=>by rw [he k x h]
 bits:=hb
theorem nE {a b:ByteArray}:lz a b=true↔a=b:=by
 unfold lz
 rw [fI,fI]
 constructor
 ·intro h
  have h1:a.data.toList=b.data.toList:=by simpa using h
  exact gK (Array.toList_inj.1 h1)
 ·rintro rfl
  simp
theorem IA (a b:ByteArray):(a==b)=lz a b:=by
 rw [bK,nE]
 constructor
 ·intro h
  have h1:(a.data==b.data)=true:=h
  exact gK (by simpa using h1)
 ·rintro rfl
  show (a.data==a.data)=true
  simp
theorem Ha (k:ByteArray):∀(l:List ByteArray) (es:List MapEntry) (i:Nat),es.map (·.key)=l.map Value.string→
  Instr.findNow .string (.string k) es i=some ((l.findIdx? (λx=>lz k x)).bind λj=>(es[j]?).map λe=>(i+j,e.val))
 | [],[],i,h=>by simp [Instr.findNow]
 | [],_::_,i,h=>by simp at h
 | _::_,[],i,h=>by simp at h
 | x::l,e::es,i,h=>by
  simp only [aU,aY] at h
  obtain ⟨h1,d⟩:=h
  simp only [Instr.findNow,h1,Instr.sameNow,IA,fk]
  cases hb:lz k x with
  | true=>simp
  | false=>
   simp only [aB,aI]
   rw [Ha k l es (i+1) d]
   cases l.findIdx? (λx=>lz k x) with
   | none=>rfl
   | some j=>simp [ew,Nat.add_comm 1 j]
theorem CN (d:P.underlying kt=some .string) (n:Nat) (b:Bool) (k:ByteArray) (W:World):(Instr.checkKey b (n+1) kt (.string k)).run P W= .ok () W:=by
 simp [Instr.checkKey,bI d]
theorem sG.string (d:P.underlying kt=some .string):sG P kt Value.string lz where
 check:=λb k W=>CN d 9999 b k W
 find:=λk l es h W=>by
  simp only [Instr.findKey,cJ,bI d,bV]
  have:=Ha k l es 0 h
  rw [this]
  simp
 eq:=λk x h=>by rw [nE.1 h]
 bits:=λk=>by simp only [Instr.sameBits]; rw [IA]; exact nE.2 rfl
variable {β:Type} {vf:β→Value} {E:Nat→Value} {d:Option Nat} {ty:TypeId} {pos:String} {af:Array Edge} {g:Option (Nat×Bool)} {F:Nat→Prop} {w:World} {μ:lE} {L:List (Nat×Obj)}
theorem yk.keys {l:List (κ×β)} {es:Array MapEntry} {clock:Nat} (h:yk kenc vf l es clock):es.toList.map (·.key)=(l.map (·.1)).map kenc:=by
 have:=bA (List.map Prod.fst) h.JI
 simpa [gl] using this
theorem yk.length {l:List (κ×β)} {es:Array MapEntry} {clock:Nat} (h:yk kenc vf l es clock):es.size=l.length:=by
 have:=bA List.length h.JI
 simpa using this
theorem yk.get {l:List (κ×β)} {es:Array MapEntry} {clock:Nat} (h:yk kenc vf l es clock) (k:κ) :
  (((l.map (·.1)).findIdx? (λx=>beq k x)).bind λi=>(es.toList[i]?).map λe=>(i,e.val))=(l.findIdx? (λp=>beq k p.1)).bind λi=>(l[i]?).map λp=>(i,vf p.2):=by
 rw [ij]
 show ((l.findIdx? (λp=>beq k p.1)).bind _)=_
 congr 1
 funext i
 have:=bA (λq=>q[i]?) h.JI
 simp only [eU] at this
 cases h1:es.toList[i]? with
 | none=>rw [h1] at this; cases d:l[i]? with
  | none=>rfl
  | some p=>rw [d] at this; cases this
 | some e=>rw [h1] at this; cases d:l[i]? with
  | none=>rw [d] at this; cases this
  | some p=>rw [d] at this; simp at this; simp [this.2]
theorem BZ (l:List (κ×β)) (k:κ):mJ beq l k=(l.findIdx? (λp=>beq k p.1)).bind λi=>(l[i]?).map (·.2):=by
 induction l with
 | nil=>rfl
 | cons p l ih=>
  simp only [mJ,eZ,fk] at ih ⊢
  cases beq k p.1 with
  | true=>rfl
  | false=>
   simp only [aB,aI]
   rw [ih]
   cases l.findIdx? (λp=>beq k p.1) <;> simp
theorem OV {t e:TypeId} {m x:Operand} {J z:Value} {l:List (κ×β)} {k:κ} (K:sG P kt kenc beq) (G:P.underlying t=some (.map kt e)) (n:∀w,(zeroValue e).run P w= .ok z w) (hm:kP E m=J) (O:kP E x=kenc k) (M:zW kenc vf (hp W) J l) :
  nF P E ⟨d,.lookup t m x false,ty,pos,af,g⟩ W (((mJ beq l k).map vf).getD z) W:=by
 show (do pure (.value (←Instr.lookup t (kP E m) (kP E x) false)):Sem Next).run P W=_
 rw [hm,O]
 rcases M with ⟨rfl,rfl⟩ | ⟨I,es,clock,rfl,hb,u⟩
 ·have:=K.find k [] [] rfl W
  simp [Instr.lookup,bI G,K.check,this,n W,mJ]
 ·have j:W.heap[I]? =some (.map es clock):=hb
  have L:(getObj I:Sem Obj).run P W= .ok (.map es clock) W:=by simp [getObj,Sem.run,j]
  have v:=K.find k _ _ u.keys W
  rw [u.get k] at v
  simp only [Instr.lookup,cJ,bI G,bV,L,dG,K.check,v,BZ]
  cases Q:l.findIdx? (λp=>beq k p.1) with
  | none=>simp [n W]
  | some i=>
   cases A:l[i]? with
   | none=>simp [A,n W]
   | some p=>simp [A]
theorem vp {l:List (κ×β)} {k:κ} {i:Nat} (h:l.findIdx? (λp=>beq k p.1)=some i):∃p,l[i]? =some p∧beq k p.1=true:=by
 rw [eC] at h
 obtain ⟨h1,d,_⟩:=h
 exact ⟨l[i],dy h1,d⟩
theorem yk.put {l:List (κ×β)} {es:Array MapEntry} {clock:Nat} (h:yk kenc vf l es clock) (k:κ) (v:β) :
  match l.findIdx? (λp=>beq k p.1) with
  | some i=>yk kenc vf (l.set i (k,v)) (es.modify i λe=>{ e with key:=kenc k,val:=vf v }) clock
  | none=>yk kenc vf (l++[(k,v)]) (es.push { key:=kenc k,val:=vf v,born:=clock }) (clock+1):=by
 cases x:l.findIdx? (λp=>beq k p.1) with
 | none=>
  refine ⟨?_,?_,?_⟩
  ·simp [h.JI]
  ·simp only [Array.toList_push,dB]
   exact ⟨h.born,by simp,λa ha b hb=>by simp at hb; subst hb; exact h.lt a ha⟩
  ·intro e he
   simp at he
   rcases he with he | rfl
   ·exact Nat.lt_succ_of_lt (h.lt e (by simpa using he))
   ·exact aQ _
 | some i=>
  obtain ⟨p,hp,_⟩:=vp x
  have E:i < l.length:=(bQ.1 hp).1
  have d:(es.modify i λe=>{ e with key:=kenc k,val:=vf v }).toList.map (·.born)=es.toList.map (·.born):=by
   apply eT
   intro j
   simp only [eU,ee,ed]
   split
   ·cases es[j]? <;> simp
   ·rfl
  refine ⟨?_,?_,?_⟩
  ·apply eT
   intro j
   have u:=bA (λq=>q[j]?) h.JI
   simp only [eU,ee] at u
   simp only [eU,ee,ed,fB]
   by_cases n:i=j
   ·subst n
    simp only [aK]
    rw [bD E]
    cases z:es[i]? with
    | none=>rw [z,hp] at u; cases u
    | some e=>rfl
   ·rw [bG n,bG n]; exact u
  ·have:=h.born
   rw [←eV (f:=λe:MapEntry=>e.born) (R:=(· < ·))] at this ⊢
   rw [d]; exact this
  ·intro e he
   have:e.born∈es.toList.map (·.born):=by rw [←d]; exact aS.2 ⟨e,he,rfl⟩
   obtain ⟨e',w,A⟩:=aS.1 this
   rw [←A]; exact h.lt e' w
theorem Cz {W:World} {r:Nat} {es:Array MapEntry} {c:Nat} (i:W.heap[r]? =some (.map es c)) (d:Obj):(setObj r d).run P W= .ok () (ChangeMaps.setBlock W r d):=by
 simp [setObj,Sem.run,i,ChangeMaps.setBlock]
theorem ST.setBlock {A B:List (Nat×Obj)} {b:Nat} {o:Obj} (h:ST dd F w W μ (A++(b,o)::B)) (i:Obj):ST dd F w (ChangeMaps.setBlock W b i) μ (A++(b,i)::B):=by
 have hb:=(h.box b o (by simp)).1
 have d:=qD hb
 refine h.put ⟨rfl,rfl,rfl,aR _,by simp [ChangeMaps.setBlock]⟩ (λk hk=>?_) ?_
 ·simp only [ChangeMaps.setBlock]
  rw [Array.getElem?_setIfInBounds_ne (λe=>hk e.symm)]
 ·simp only [ChangeMaps.setBlock]
  rw [Array.getElem?_setIfInBounds_self_of_lt d]
theorem GI {O:Value→World→Prop} (X:List (Nat×Obj)) {Y R:List (Nat×Obj)} {t e:TypeId} {m x y:Operand} {M:Value} {l:List (κ×β)} {k:κ} {v:β} (K:sG P kt kenc beq) (U:P.underlying t=some (.map kt e)) (z:ST dd F w W μ (X++(R++Y))) (h:nz kenc vf M l R) (hm:kP E m=M) (hx:kP E x=kenc k) (hy:kP E y=vf v) (T:∀W' R',ST dd F w W' μ (X++(R'++Y))→nz kenc vf M (qK beq l k v) R'→O undef W'):pb P E ⟨d,.mapUpdate t m x y,ty,pos,af,g⟩ W O:=by
 obtain ⟨n,es,clock,rfl,rfl,J⟩:=h
 have hb:W.heap[n]? =some (.map es clock):=(z.box n (.map es clock) (by simp)).1
 have Q:(getObj n:Sem Obj).run P W= .ok (.map es clock) W:=by simp [getObj,Sem.run,hb]
 have A:=K.find k _ _ J.keys W
 rw [J.get k] at A
 have j:=J.put (beq:=beq) k v
 have u:∀W',(Instr.mapUpdate t (.map (some n)) (kenc k) (vf v)).run P W= .ok () W'→(execOp (kP E) ⟨d,.mapUpdate t m x y,ty,pos,af,g⟩).run P W= .ok .skip W':=by
  intro W' Z
  show (do Instr.mapUpdate t (kP E m) (kP E x) (kP E y); pure .skip:Sem Next).run P W=_
  rw [hm,hx,hy]
  simp [Z]
 cases G:l.findIdx? (λp=>beq k p.1) with
 | none=>
  rw [G] at A j
  refine .inr (.inl ⟨ChangeMaps.setBlock W n (.map (es.push { key:=kenc k,val:=vf v,born:=clock }) (clock+1)),u _ ?_,T _ [(n,_)] (z.setBlock _) ⟨n,_,_,rfl,rfl,?_⟩⟩)
  ·simp [Instr.mapUpdate,bI U,Q,K.check,A,Cz hb]
  ·rw [qK,G]; exact j
 | some i=>
  obtain ⟨p,hp,L⟩:=vp G
  rw [G] at A j
  simp only [aA,hp,ep] at A
  have I:((es[i]?).map (·.key)).getD (kenc k)=kenc k:=by
   have:=bA (λq=>q[i]?) J.keys
   simp only [eU,hp,ep,ee] at this
   rw [this]
   simp [K.eq k p.1 L]
  refine .inr (.inl ⟨ChangeMaps.setBlock W n (.map (es.modify i λe=>{ e with key:=kenc k,val:=vf v }) clock),u _ ?_,T _ [(n,_)] (z.setBlock _) ⟨n,_,_,rfl,rfl,?_⟩⟩)
  ·simp only [Instr.mapUpdate,cJ,bI U,Q,K.check,A,bV,I,Instr.keyThatStays,K.bits,aK,dG]
   exact Cz hb _
  ·rw [qK,G]; exact j
theorem NE {j:Value→World→Prop} {t:TypeId} (kenc:κ→Value) (vf:β→Value) (i:ST dd F w W μ L) (n:∀W' v R,ST dd F w W' μ (R++L)→nz kenc vf v [] R→j v W'):pb P E ⟨d,.makeMap t none,ty,pos,af,g⟩ W j :=
 .inl ⟨.map (some W.heap.size),W.alloc (.map #[] 0),by
   show (do pure (.value (←Instr.makeMap t none)):Sem Next).run P W=_
   simp [Instr.makeMap,newObj,Sem.run],n _ _ [(W.heap.size,.map #[] 0)] (i.alloc _) ⟨_,_,_,rfl,rfl,⟨rfl,by simp,by simp⟩⟩⟩
end
end Go.Proofs.YtjjjihkifgdhgaaGreatDoor
namespace Go.Proofs.YtjjjihkifgdhgaaGreatDoor
open Go.RowKit
variable {dd:Bool}
open Classical in
noncomputable def I5 {α β:Type} (l:List α) (f:List α→Option β):Option β :=
 match l with
 | []=>f []
 | [x]=>f [x]
 | l=>if h:∃r,∀o,o.Perm l→f o=some r then some h.choose else none
theorem Lg {α β:Type} {l:List α} {f:List α→Option β} {r:β} (h:∀o,o.Perm l→f o=some r):I5 l f=some r:=by
 have d:∃r,∀o,o.Perm l→f o=some r:=⟨r,h⟩
 unfold I5
 split
 ·exact h _ (.refl _)
 ·exact h _ (.refl _)
 ·rw [dif_pos d]
  have h1:=d.choose_spec _ (.refl _)
  rw [h _ (.refl _)] at h1
  exact h1.symm
end Go.Proofs.YtjjjihkifgdhgaaGreatDoor
namespace Go.Proofs.YtjjjihkifgdhgaaGreatDoor
open Go.RowKit
variable {dd:Bool}
def PU {α β:Type} (P:Program) (fv:Value) (μ:lE) (d:α→List Value) (i:β→Value) (pm:α→Option β):Prop :=
 ∃f caps,fv= .func (.func f) #[] caps∧(∀args w,(callFunc f args).run P w= .ok (.enter f args) w)∧∀W x r,lx μ (hp W)→pm x=some r→lC true P f (d x++caps.toList) W (i r)
def sI {α β:Type} (P:Program) (fv:Value) (μ:lE) (d:α→List Value) (i:β→Value) (pm:α→Option β):Prop :=
 ∃f first caps,fv= .func (.func f) first caps∧(∀args w,(callFunc f args).run P w= .ok (.enter f args) w)∧∀W x r,lx μ (hp W)→pm x=some r→lC false P f (first.toList++(d x++caps.toList)) W (i r)
theorem sI.form {α β:Type} {P:Program} {fv:Value} {μ:lE} {d:α→List Value} {i:β→Value} {pm:α→Option β} (h:sI P fv μ d i pm):∃f a b,fv= .func f a b:=let ⟨f,a,b,h,_⟩:=h; ⟨_,a,b,h⟩
section
variable {P:Program} {W:World} {E:Nat→Value} {d:Option Nat} {ty:TypeId} {pos:String} {af:Array Edge} {g:Option (Nat×Bool)} {F:Nat→Prop} {w:World} {μ μ0:lE} {L:List (Nat×Obj)}
theorem sI.mono {α β:Type} {fv:Value} {d:α→List Value} {i:β→Value} {pm:α→Option β} (h:sI P fv μ d i pm) (p:lx μ μ0):sI P fv μ0 d i pm:=by
 obtain ⟨f,first,caps,h1,j,n⟩:=h
 exact ⟨f,first,caps,h1,j,λW x r h=>n W x r (p.trans h)⟩
theorem DL {α β:Type} {K:Value→World→Prop} {fv:Value} {j:α→List Value} {u:β→Value} {pm:α→Option β} {n:Operand} {ax:Array Operand} {ats:Array TypeId} (x:α) {r:β} (i:ST false F w W μ L) (I:sI P fv μ0 j u pm) (M:lx μ0 μ) (J:kP E n=fv) (ha:ax.map (kP E)++(#[]:Array Value)=(j x).toArray) (hm:pm x=some r) (h:∀W',ST false F w W' μ L→K (u r) W'):pb P E ⟨d,.call ⟨.value n,ax,ats⟩,ty,pos,af,g⟩ W K:=by
 obtain ⟨f,first,caps,rfl,v,z⟩:=I
 have p:ax.map (kP E)=(j x).toArray:=by simpa using ha
 refine .inr (.inr ⟨f,(first.toList++(j x++caps.toList)).toArray,?_,dA (z W x r (M.trans i.kC) hm) (λ_ _ ⟨A,G⟩=>⟨_,A,h _ (i.LH G)⟩)⟩)
 show (do let d ←resolve (kP E) ⟨.value n,ax,ats⟩ ty; invoke d.target d.args:Sem Next).run P W=_
 simp only [resolve,J,Deferred.ofValue,cJ,dG,bV,invoke,p,v]
 congr 2
 simp
end
end Go.Proofs.YtjjjihkifgdhgaaGreatDoor
namespace Go.Proofs.YtjjjihkifgdhgaaGreatDoor
open Go.RowKit
variable {dd:Bool}
def GN (A:List (Nat×Obj)):lE:=λb=>(A.find? (λp=>p.1==b)).map (·.2)
theorem nV {A:List (Nat×Obj)} {W:World} (h:∀b o,(b,o)∈A→W.heap[b]? =some o):∀b o,GN A b=some o→W.heap[b]? =some o:=λb o hb=>by
 unfold GN at hb
 cases d:A.find? (λp=>p.1==b) with
 | none=>rw [d] at hb; cases hb
 | some p=>
  rw [d] at hb
  cases hb
  have h1:=List.mem_of_find?_eq_some d
  have i:=List.find?_some d
  simp at i
  subst i
  exact h _ _ h1
theorem At.of {M:lE} {b:Nat} {cs:Array Value} {T:TypeId} {fr:Nat×Nat} (h:M b=some (.cells cs T fr)) (ys:List Value) (i:cs.toList=ys):At M (.pointer (some ⟨b,0,none⟩)) ys :=
 ⟨b,0,cs,T,fr,rfl,h,λj y d=>by subst i; simpa using d⟩
section
variable {F:Nat→Prop} {w W W':World} {μ μ':lE} {L L0 L1 L2:List (Nat×Obj)}
theorem ST.R4 (h:ST dd F w W μ L) (d:L.Perm (L0++L2)):∀b o,(b,o)∈L2→ya W L0 b=some o:=λb o hb=>by
 have h1:=(h.perm d).at_ (ev _ hb)
 unfold ya
 rw [bG (Jt (h.perm d).nd hb)]
 exact h1
theorem ST.held (h:ST dd F w W μ L) (d:L.Perm (L0++L2)):I4 L0 W:=λb o hb=>((h.perm d).box b o (cQ _ hb)).1
theorem ST.Zf (h:ST dd F w W μ L) (d:L.Perm (L0++L2)):(L0.map (·.1)).Nodup:=by
 have:=(h.perm d).nd
 rw [cL] at this
 exact (cD.1 this).1
theorem ST.ZT (h:ST dd F w W μ L) (d:L.Perm (L0++L2)):lx μ (ya W L0):=(h.perm d).nu (λ_ hp=>cQ _ hp)
end
section
variable {P:Program} {E:Nat→Value} {W:World} {d:Option Nat} {ty:TypeId} {pos:String} {af:Array Edge} {g:Option (Nat×Bool)}
 {F:Nat→Prop} {w:World} {μ:lE} {L:List (Nat×Obj)}
theorem Yb {K:Value→World→Prop} {K':Value→List (Nat×Obj)→World→Prop} {f:FuncId} {fv:Operand} {ax:Array Operand} {ats:Array TypeId} {caps:Array Value} {args:List Value} (L0 L2:List (Nat×Obj)) (i:ST dd F w W μ L) (j:L.Perm (L0++L2)) (z:kP E fv= .func (.func f) #[] caps) (he:∀args w,(callFunc f args).run P w= .ok (.enter f args) w) (ha:ax.map (kP E)++(#[]:Array Value)=args.toArray) (x:I4 L0 W→(L0.map (·.1)).Nodup→lx μ (ya W L0)→(∀b o,(b,o)∈L2→ya W L0 b=some o)→mi dd P f (args++caps.toList) W L0 K') (h:∀W' v μ' L1,ST dd F w W' μ' (L1++L2)→lx μ μ'→Lo F w μ μ'→(∀b,W.heap.size≤b→∀o,ya W' L1 b=some o→μ' b=some o)→K' v L1 W'→K v W'):pb P E ⟨d,.call ⟨.value fv,ax,ats⟩,ty,pos,af,g⟩ W K:=by
 have n:ax.map (kP E)=args.toArray:=by simpa using ha
 refine G4 (args:=(args++caps.toList).toArray) z he (by rw [n]; simp) (dA (x (i.held j) (i.Zf j) (i.ZT j) (i.R4 j)) (λ_ W' ⟨v,L1,h1,p,u⟩=>⟨v,h1,h W' v _ L1 ((i.perm j).back p) ((i.perm j).NG W' L1) ((i.perm j).Qf W' L1) ?_ u⟩))
 intro b hb o A
 unfold Gj
 rw [bG (by omega)]
 exact A
theorem JD {K:Value→World→Prop} {f:FuncId} {fv:Operand} {ax:Array Operand} {ats:Array TypeId} {caps:Array Value} {args:List Value} {v:Value} (i:ST dd F w W μ L) (x:kP E fv= .func (.func f) #[] caps) (he:∀args w,(callFunc f args).run P w= .ok (.enter f args) w) (ha:ax.map (kP E)++(#[]:Array Value)=args.toArray) (u:lC dd P f (args++caps.toList) W v) (h:∀W',ST dd F w W' μ L→K v W'):pb P E ⟨d,.call ⟨.value fv,ax,ats⟩,ty,pos,af,g⟩ W K:=by
 have j:ax.map (kP E)=args.toArray:=by simpa using ha
 exact G4 (args:=(args++caps.toList).toArray) x he (by rw [j]; simp) (dA u (λ_ _ ⟨n,p⟩=>⟨_,n,h _ (i.LH p)⟩))
theorem Sl.lift {α:Type} {enc:α→List Value} {k:Nat} {M μ':lE} {B:Nat} {v:Value} {l:List α} (h:Sl (Pl enc) k M v l) (x:Fr B v) (w:∀b,B≤b→∀o,M b=some o→μ' b=some o):Sl (Pl enc) k μ' v l:=by
 obtain ⟨A,c,h1,i,j,n⟩:=h
 refine ⟨A,c,h1,i,j,λz=>?_⟩
 obtain ⟨b,off,cs,T,fr,d,p,u⟩:=n z
 exact ⟨b,off,cs,T,fr,d,w b (x b (by rw [h1,d]; rfl)) _ p,u⟩
theorem Kt {t:TypeId} (dd:Nat) {s u:Array TypeId} {b:Bool} (d:P.underlying t=some (.func s u b)) (f:Fn) (a c:Array Value) (W:World):(Op.equalIn (dd+1) t (.func f a c) .nilFunc).run P W= .ok false W:=by
 simp [Op.equalIn,bI d]
end
def D0 {κ β:Type} (beq:κ→κ→Bool) (l:List (κ×β)) (k:κ) (z:β):β:=(mJ beq l k).getD z
section
variable {P:Program} {W:World} {κ β:Type} {kt:TypeId} {kenc:κ→Value} {beq:κ→κ→Bool} {vf:β→Value} {E:Nat→Value} {d:Option Nat} {ty:TypeId} {pos:String} {af:Array Edge} {g:Option (Nat×Bool)} {F:Nat→Prop} {w:World} {μ:lE} {L R:List (Nat×Obj)} {v:Value} {left:List (κ×β)}
theorem D6 {t e:TypeId} {m x:Operand} {i:Value} {l:List (κ×β)} {k:κ} {z:β} (K:sG P kt kenc beq) (n:P.underlying t=some (.map kt e)) (u:∀w,(zeroValue e).run P w= .ok (vf z) w) (hm:kP E m=i) (p:kP E x=kenc k) (j:zW kenc vf (hp W) i l) :
  nF P E ⟨d,.lookup t m x false,ty,pos,af,g⟩ W (vf (D0 beq l k z)) W:=by
 have:=OV (d:=d) (ty:=ty) (pos:=pos) (af:=af) (g:=g) K n u hm p j
 rw [D0]
 cases h:mJ beq l k with
 | none=>rw [h] at this; exact this
 | some y=>rw [h] at this; exact this
theorem nz.one {d:Value} {l:List (κ×β)} (h:nz kenc vf d l R):d.oneCell'=true:=by obtain ⟨m,es,clock,rfl,_⟩:=h; rfl
theorem nz.form {d:Value} {l:List (κ×β)} (h:nz kenc vf d l R):∃m,d= .map (some m):=by obtain ⟨m,es,clock,rfl,_⟩:=h; exact ⟨m,rfl⟩
theorem nz.nd {d:Value} {l:List (κ×β)} (h:nz kenc vf d l R):(R.map (·.1)).Nodup:=by obtain ⟨m,es,clock,rfl,rfl,_⟩:=h; simp
end
def rj {α:Type} (l:List α) (i:Nat) (z:α):List α:=l.take i++List.replicate (l.length-i) z
theorem zl {α:Type} (l:List α) (i:Nat) (z:α) (h:i≤l.length):(rj l i z).length=l.length:=by simp [rj]; omega
theorem Kn {α:Type} (l:List α) (i:Nat) (z:α) (h:i≤l.length):(rj l i z).take i=l.take i:=by
 simp only [rj]
 rw [fL,dX (by simp; omega)]
 simp; omega
end Go.Proofs.YtjjjihkifgdhgaaGreatDoor
namespace Go.Proofs.YtjjjihkifgdhgaaGreatDoor
open Go.RowKit
theorem N4 {P:Program} {cs:Array Value} {b:Bool} {n:Nat} {W:World}:∀(l:List Field),
  (∀f∈l,f.name≠ "_"→∃v,(part f.type cs f.offset).run P W= .ok v W∧(Instr.checkKey b n f.type v).run P W= .ok () W)→
  ((forIn l PUnit.unit λf (_:PUnit)=>do
   if f.name≠ "_" then Instr.checkKey b n f.type (←part f.type cs f.offset)
   pure (ForInStep.yield PUnit.unit)):Sem PUnit).run P W= .ok PUnit.unit W
 | [],_=>by simp
 | f::l,h=>by
  have ih:=N4 l (λf j=>h f (fC _ j))
  simp only [List.forIn_cons,cJ]
  by_cases d:f.name≠ "_"
  ·obtain ⟨v,h1,i⟩:=h f (by simp) d
   simp only [bD d,cJ,h1,bV,i,dG]
   exact ih
  ·simp only [bG d,cJ,dG,bV]
   exact ih
theorem Mi {P:Program} {kt:TypeId} {fs:Array Field} {l:List Field} {cs:Array Value} {b:Bool} {n:Nat} {W:World} (i:P.underlying kt=some (.struct fs)) (d:fs.toList=l) (h:∀f∈l,f.name≠ "_"→∃v,(part f.type cs f.offset).run P W= .ok v W∧(Instr.checkKey b n f.type v).run P W= .ok () W):(Instr.checkKey b (n+1) kt (.agg cs)).run P W= .ok () W:=by
 obtain ⟨fs⟩:=fs
 subst d
 simp only [Instr.checkKey,cJ,bI i,bV,List.forIn_toArray]
 have:=N4 (P:=P) (cs:=cs) (b:=b) (n:=n) (W:=W) fs h
 simp only [cJ] at this
 first | rw [this]; rfl | simpa using this
variable {dd:Bool}
def vB (b:Bool):Option Unit:=if b=true then some () else none
theorem O1 {b:Bool} {u:Unit} (h:vB b=some u):b=true:=by
 unfold vB at h; split at h
 ·assumption
 ·cases h
theorem A6 {a c:Int} {u:Unit} (h:vB (decide (0≤a)&&decide (a≤c))=some u):0≤a:=by have:=O1 h; simp at this; exact this.1
theorem AL {a c:Int} {u:Unit} (h:vB (decide (0≤a)&&decide (a≤c))=some u):a≤c:=by have:=O1 h; simp at this; exact this.2
def EY (k:Nat) (v:Value) (i:Nat) (u:Value):Prop:=∃A n c A' d,v= .slice A n c∧u= .slice A' (n-i) d∧i≤n∧(i < n→∃b o,A=some ⟨b,o,none⟩∧A'=some ⟨b,o+i*k,none⟩)
section
variable {P:Program} {E:Nat→Value} {W:World} {d:Option Nat} {ty:TypeId} {pos:String} {af:Array Edge} {g:Option (Nat×Bool)}
 {F:Nat→Prop} {w:World} {μ:lE} {L:List (Nat×Obj)} {α:Type} {e':TypeId} {enc:α→List Value} {k:Nat} {v:Value} {l:List α} {R:List (Nat×Obj)}
theorem DV {t e:TypeId} {x j:Operand} {M:IntKind} {i:Int} (A:P.underlying t=some (.slice e)) (he:∀w,(sizeOf e).run P w= .ok k w) (G:kP E x=v) (p:kP E j= .int M i) (h:lh e' enc k v l R) (J:0≤i) (z:i≤l.length) :
  ∃u,EY k v i.toNat u∧∀W,nF P E ⟨d,.slice t x (some j) none none,ty,pos,af,g⟩ W u W:=by
 rcases h with ⟨rfl,rfl,rfl⟩ | ⟨n,cap,I,rfl,rfl,h1,O,Q,T⟩
 ·have:i=0:=by simp at z; omega
  subst this
  refine ⟨.slice none 0 0,⟨none,0,0,none,0,rfl,rfl,aR _,λh=>absurd h (by simp)⟩,λW=>?_⟩
  show (do pure (.value (←Instr.sliceAt t (kP E x) (some (kP E j)) none none)):Sem Next).run P W=_
  rw [G,p]
  simp [Instr.sliceAt,Instr.slice,Instr.sliceBounds,Instr.sliceBound,asIntOf,bI A,he W]
 ·refine ⟨.slice (some (if cap=i.toNat then ⟨n,0,none⟩ else (Addr.add ⟨n,0,none⟩ (i.toNat*k)))) (l.length-i.toNat) (cap-i.toNat),⟨_,_,_,_,_,rfl,rfl,by omega,λL=>⟨n,0,rfl,?_⟩⟩,λW=>?_⟩
  ·rw [bG (by omega)]; simp [dQ]
  ·show (do pure (.value (←Instr.sliceAt t (kP E x) (some (kP E j)) none none)):Sem Next).run P W=_
   rw [G,p]
   have hb:0≤i∧i≤(l.length:Int):=⟨J,z⟩
   simp [Instr.sliceAt,Instr.slice,Instr.sliceBounds,Instr.sliceBound,asIntOf,bI A,he W,hb]
   split <;> rfl
theorem FL {i j:Nat} {x0:α} (h:(l.drop i)[j]? =some x0):l[i+j]? =some x0:=by rwa [ek] at h
theorem NI {t e:TypeId} {x:Operand} {u:Value} {i:Nat} (w:P.underlying t=some (.slice e)) (z:kP E x=u) (hu:EY k v i u) (h:lh e' enc k v l R):nF P E ⟨d,.call ⟨.builtin .len,#[x],#[t]⟩,ty,pos,af,g⟩ W (.int .i64 ((l.length-i:Nat):Int)) W:=by
 obtain ⟨A,n,c,A',G,h1,p,J,_⟩:=hu
 subst p
 have:n=l.length:=by
  rcases h with ⟨rfl,rfl,rfl⟩ | ⟨I,cap,j,rfl,rfl,_⟩
  ·cases h1; rfl
  ·cases h1; rfl
 subst this
 exact Hl w z
theorem D3 {t e:TypeId} {x G:Operand} {ik:IntKind} {i:Int} {x0:α} {u:Value} {o:Nat} (Y:P.underlying t=some (.slice e)) (he:∀w,(sizeOf e).run P w= .ok k w) (Z:kP E x=u) (T:kP E G= .int ik i) (h:lh e' enc k v l R) (hu:EY k v o u) (O:0≤i) (U:(l.drop o)[i.toNat]? =some x0) :
  ∃p,Fc R k p (o+i.toNat)∧∀W,nF P E ⟨d,.indexAddr t x G,ty,pos,af,g⟩ W p W:=by
 have j:=FL U
 have z:o+i.toNat < l.length:=(bQ.1 j).1
 rcases h with ⟨rfl,rfl,rfl⟩ | ⟨M,cap,I,rfl,rfl,h1,h2,h3,h4⟩
 ·simp at z
 obtain ⟨A,n,c,A',c',J,rfl,h7,Q⟩:=hu
 cases J
 obtain ⟨b,oo,L,rfl⟩:=Q (by omega)
 cases L
 refine ⟨.pointer (some ⟨M,(o+i.toNat)*k,none⟩),⟨_,_,rfl,rfl⟩,λW=>?_⟩
 show (do pure (.value (←Instr.indexAt t (kP E x) (kP E G))):Sem Next).run P W=_
 rw [Z,T]
 have hb:0≤i∧i < ((l.length-o:Nat):Int):=⟨O,by omega⟩
 simp [Instr.indexAt,asIntOf,bI Y,he W,hb,dQ,du]
theorem M2 (ys:List Value) (m:Nat):(Builtin.zeroCells ys.toArray m).toList=(List.replicate m ys).flatten:=by
 unfold Builtin.zeroCells
 simp only [Array.toList_map,Array.toList_range,dV]
 rcases eo ys.length with d | d
 ·have:ys=[]:=ez.1 d
  subst this
  simp
 apply eT
 intro q
 by_cases j:q < m*ys.length
 ·have h1:q / ys.length < m:=(iC d).2 j
  have i:q % ys.length < ys.length:=Nat.mod_lt _ d
  have:=As (enc:=λ_:Unit=>ys) (λ_=>rfl) (List.replicate m ()) (q / ys.length) () (by simp [h1]) (q % ys.length) ys[q % ys.length] (by simp [i])
  rw [Nat.div_add_mod' q ys.length] at this
  rw [List.map_replicate] at this
  rw [this]
  simp [j,i]
 ·rw [fq (by simp; omega),fq (by simp; omega)]
theorem QX {K:Value→World→Prop} (z:α) (X:List (Nat×Obj)) {Y:List (Nat×Obj)} {t e:TypeId} {x:Operand} {u zv:Value} {i:Nat} (G:ST dd F w W μ (X++(R++Y))) (h:lh e' enc k v l R) (hk:∀x,(enc x).length=k) (h1:∀x,∀u∈enc x,u.oneCell'=true) (ht:P.underlying t=some (.slice e)) (hz:∀w,(zeroValue e).run P w= .ok zv w) (hu:EY k v i u) (hc:zv.cells=(enc z).toArray) (hx:kP E x=u) (U:∀W' R',ST dd F w W' μ (X++(R'++Y))→lh e' enc k v (rj l i z) R'→K (.tuple #[]) W'):pb P E ⟨d,.call ⟨.builtin .clear,#[x],#[t]⟩,ty,pos,af,g⟩ W K:=by
 have p:∀(W':World),(Builtin.clear_ #[t] ty #[u]).run P W= .ok (.tuple #[]) W'→(execOp (kP E) ⟨d,.call ⟨.builtin .clear,#[x],#[t]⟩,ty,pos,af,g⟩).run P W= .ok (.value (.tuple #[])) W':=by
  intro W' hV
  show (do let d ←resolve (kP E) ⟨.builtin .clear,#[x],#[t]⟩ ty; invoke d.target d.args:Sem Next).run P W=_
  simp [resolve,invoke,builtin,hx,hV]
 obtain ⟨A,n,c,A',c',e1,rfl,M,h8⟩:=hu
 rcases h with ⟨rfl,rfl,rfl⟩ | ⟨J,cap,j,rfl,rfl,q1,q2,Q,q4⟩
 ·cases e1
  refine .inl ⟨_,W,p W ?_,U W [] G (by simpa [rj] using lh.nil e' enc k)⟩
  simp only [Builtin.clear_,Nat.zero_sub]
  cases A' <;> simp [bI ht]
 ·cases e1
  by_cases hi:i < l.length
  ·obtain ⟨b,o,e2,rfl⟩:=h8 hi
   cases e2
   have a6:∀m,(Builtin.zeroCells zv.cells m).toList=(List.replicate m (enc z)).flatten:=by
    intro m
    rw [hc]; exact M2 _ _
   have hb:=(G.box J (.cells j e' (0,0)) (by simp)).1
   have hle:i*k+(l.length-i)*k=l.length*k:=by rw [←du]; congr 1; omega
   have hlen:l.length*k≤c*k:=dr _ q1
   have I:((List.replicate (l.length-i) (enc z)).flatten).length=(l.length-i)*k:=by simp [hk]
   have L:∀v∈(List.replicate (l.length-i) (enc z)).flatten,v.oneCell'=true:=by
    intro v O
    obtain ⟨ys,a1,O⟩:=jJ.1 O
    rw [(List.mem_replicate.1 a1).2] at O
    exact h1 z v O
   have hs:=ju (P:=P) J (i*k) e' ((List.replicate (l.length-i) (enc z)).flatten) 0 j W hb (by rw [I,Q]; omega) L
   rw [fD,I,hle] at hs
   refine .inl ⟨_,W.setRow J (j.toList.take (i*k)++(List.replicate (l.length-i) (enc z)).flatten++j.toList.drop (l.length*k)).toArray,p _ ?_,U _ [(J,.cells (j.toList.take (i*k)++(List.replicate (l.length-i) (enc z)).flatten++j.toList.drop (l.length*k)).toArray e' (0,0))] (G.store _) (.inr ⟨J,c,_,by rw [zl _ _ _ M],rfl,by rw [zl _ _ _ M]; exact q1,q2,?_,?_⟩)⟩
   ·have hn:l.length-i=(l.length-i-1)+1:=by omega
    simp only [Builtin.clear_]
    rw [hn]
    simp only [bI ht,cJ,bV,iB,gY,hz,eO]
    rw [←hn,a6,hs]
    simp
   ·have T:j.toList.length=c*k:=by simpa using Q
    rw [dV,aC,aC,dI,gw,I,T,dY (by omega)]
    omega
   ·rw [zl _ _ _ M,rj,cL,bW,IQ hk l i M,←q4,ig,dY (by omega),List.map_replicate]
    have T:j.toList.length=c*k:=by simpa using Q
    have e3:(j.toList.take (i*k)++(List.replicate (l.length-i) (enc z)).flatten).length=l.length*k:=by rw [aC,dI,I,T,dY (by omega)]; omega
    show List.take (l.length*k) (j.toList.take (i*k)++(List.replicate (l.length-i) (enc z)).flatten++j.toList.drop (l.length*k))=_
    rw [fL,dX (by rw [e3]; exact aR _),e3,Nat.sub_self]
    simp
  ·have Z:i=l.length:=by omega
   subst Z
   refine .inl ⟨_,W,p W ?_,U W _ G ?_⟩
   ·simp only [Builtin.clear_,Nat.sub_self]
    cases A' <;> simp [bI ht]
   ·simp only [rj,List.take_length,Nat.sub_self,List.replicate_zero,aT]
    exact .inr ⟨J,c,j,rfl,rfl,q1,q2,Q,q4⟩
end
end Go.Proofs.YtjjjihkifgdhgaaGreatDoor
namespace Go.Proofs.YtjjjihkifgdhgaaGreatDoor
open Go.RowKit
variable {dd:Bool}
section
variable {P:Program} {E:Nat→Value} {W:World} {d:Option Nat} {ty:TypeId} {pos:String} {af:Array Edge} {g:Option (Nat×Bool)}
 {F:Nat→Prop} {w:World} {μ:lE} {L:List (Nat×Obj)}
theorem OD {K:Value→World→Prop} {f:FuncId} {fv:Operand} {ax:Array Operand} {ats:Array TypeId} {args:List Value} {v:Value} (j:kP E fv= .func (.func f) #[] #[]) (ha:ax.map (kP E)++(#[]:Array Value)=args.toArray) (n:(callFunc f args.toArray).run P W= .ok (.value v) W) (h:K v W):pb P E ⟨d,.call ⟨.value fv,ax,ats⟩,ty,pos,af,g⟩ W K:=by
 have i:ax.map (kP E)=args.toArray:=by simpa using ha
 refine .inl ⟨v,W,?_,h⟩
 show (do let d ←resolve (kP E) ⟨.value fv,ax,ats⟩ ty; invoke d.target d.args:Sem Next).run P W=_
 simp only [resolve,j,Deferred.ofValue,cJ,dG,bV,invoke]
 rw [i]
 simpa using n
def Ba (s:ByteArray) (c:Int):Int:=Lib.indexByte s.data.toList c.toNat.toUInt8
def rX (a b:ByteArray):Int:=Lib.compareBytes a.data.toList b.data.toList
def xt (l:List Int):List UInt8:=l.map λx=>x.toNat.toUInt8
def Ce (a b:List Int):Int:=Lib.compareBytes (xt a) (xt b)
theorem MK {f:FuncId} {fn:Func} (i:P.funcs[f]? =some fn) (d:(fn.name== "runtime.NumGoroutine")=false) (hb:fn.body.isNone=true) (j:Extern.findNext fn=none) (he:Extern.find fn=some Extern.BytealgIndexByte.indexByte) (s:ByteArray) (c:Int) (w:World) :
  (callFunc f [Value.string s,.int .u8 c].toArray).run P w= .ok (.value (.int .i64 (Ba s c))) w:=by
 rw [gI i d hb j he]
 rw [Lib.run_indexByteString]
 rfl
theorem Vk {f:FuncId} {fn:Func} (i:P.funcs[f]? =some fn) (d:(fn.name== "runtime.NumGoroutine")=false) (hb:fn.body.isNone=true) (j:Extern.findNext fn=none) (he:Extern.find fn=some Extern.BytealgCompare.compare) (a b:ByteArray) (w:World) :
  (callFunc f [Value.string a,.string b].toArray).run P w= .ok (.value (.int .i64 (rX a b))) w:=by
 rw [gI i d hb j he]
 rw [Lib.run_compareString]
 rfl
theorem Ie {v:Value} {l:List Int} (h:Sl (Pl (mh .u8)) 1 (hp W) v l):(Extern.Bytes.bytesOf v).run P W= .ok ⟨(xt l).toArray⟩ W:=by
 obtain ⟨A,c,rfl,E,G,p⟩:=h
 rcases eo l.length with d | d
 ·have:l=[]:=ez.1 d
  subst this
  cases A <;> simp [Extern.Bytes.bytesOf,Extern.Bytes.loadBytes,xt] <;> rfl
 ·obtain ⟨b,off,cs,T,fr,rfl,u,w⟩:=p d
  have:=Lib.run_loadBytesX (P:=P) W l ⟨b,off,none⟩ .empty (λj x z=>by
   obtain ⟨ys,_,n,i⟩:=w j x z
   cases n
   rw [dQ,fA W b (off+j) cs T fr u]
   have:=i 0 (.int .u8 x) rfl
   simpa using this)
  simp only [Extern.Bytes.bytesOf]
  rw [this]
  congr 1
  apply gK
  show (#[]:Array UInt8)++_=_
  simp [Lib.bytesOf,xt]
theorem Ws {f:FuncId} {fn:Func} (p:P.funcs[f]? =some fn) (d:(fn.name== "runtime.NumGoroutine")=false) (hb:fn.body.isNone=true) (u:Extern.findNext fn=none) (he:Extern.find fn=some Extern.BytealgCompare.compare) {i j:Value} {a b:List Int} (h1:Sl (Pl (mh .u8)) 1 (hp W) i a) (n:Sl (Pl (mh .u8)) 1 (hp W) j b) :
  (callFunc f [i,j].toArray).run P W= .ok (.value (.int .i64 (Ce a b))) W:=by
 rw [gI p d hb u he]
 have:(Extern.BytealgCompare.compare [i,j].toArray).run P W= .ok (.int .i64 (Ce a b)) W:=by
  change Sem.run P (do pure (goInt (Extern.BytealgCompare.cmp (←Extern.Bytes.bytesOf i) (←Extern.Bytes.bytesOf j)))) W=_
  simp only [cJ,Ie h1,Ie n,dG,Result.andThen]
  rw [Lib.cmp_eq]
  rfl
 rw [this]
 rfl
theorem qR {fn:Fn} {caps:Array Operand} {cs:List Value} {v:Value} (i:caps.map (kP E)++(#[]:Array Value)=cs.toArray) (j:.func fn #[] cs.toArray=v):nF P E ⟨d,.makeFunc fn #[] caps,ty,pos,af,g⟩ W v W:=by
 have:caps.map (kP E)=cs.toArray:=by simpa using i
 exact SG (by rw [this]; simpa using j)
theorem mi.mono {f:FuncId} {args:List Value} {L0:List (Nat×Obj)} {K K':Value→List (Nat×Obj)→World→Prop} (h:mi dd P f args w L0 K) (hk:∀v L1 W',K v L1 W'→K' v L1 W'):mi dd P f args w L0 K' :=
 dA h (λ_ _ ⟨v,L1,h1,d,i⟩=>⟨v,L1,h1,d,hk _ _ _ i⟩)
end
section
variable {α:Type}
def vI (cf:α×α→Option Int) (x y:α):Bool:=match cf (x,y) with
 | some c=>decide (c < 0)
 | none=>false
structure Fv (cf:α×α→Option Int) (l:List α):Prop where
 is:∀x∈l,∀y∈l,∃c,cf (x,y)=some c
 irrefl:∀x∈l,vI cf x x=false
 trans:∀x∈l,∀y∈l,∀z∈l,vI cf x y=true→vI cf y z=true→vI cf x z=true
 total:∀x∈l,∀y∈l,vI cf x y=false→vI cf y x=false→x=y
 short:l.length < 4611686018427387904
def ud (cf:α×α→Option Int) (l:List α):List α:=l.mergeSort λx y=>!vI cf y x
open Classical in
noncomputable def DZ (cf:α×α→Option Int) (l:List α):Option (List α) :=
 match l with
 | []=>some []
 | [x]=>(cf (x,x)).bind λc=>if c < 0 then none else some [x]
 | l=>if Fv cf l then some (ud cf l) else none
theorem Sw {cf:α×α→Option Int}:Fv cf ([]:List α):=⟨λx h=>(by cases h),λx h=>(by cases h),λx h=>(by cases h),λx h=>(by cases h),by simp⟩
theorem Td {cf:α×α→Option Int} {x:α} {c:Int} (h:cf (x,x)=some c) (i:¬c < 0):Fv cf [x] where
 is a ha b hb:=by rw [bO.1 ha,bO.1 hb]; exact ⟨c,h⟩
 irrefl a ha:=by rw [bO.1 ha]; simp [vI,h,i]
 trans a ha b hb d j h1 _:=by rw [bO.1 ha,bO.1 hb] at h1; simp [vI,h,i] at h1
 total a ha b hb _ _:=by rw [bO.1 ha,bO.1 hb]
 short:=by simp
theorem MD {cf:α×α→Option Int} {l r:List α} (h:DZ cf l=some r):Fv cf l∧r=ud cf l:=by
 unfold DZ at h
 split at h
 ·cases h; exact ⟨Sw,by simp [ud]⟩
 ·rename_i x
  cases i:cf (x,x) with
  | none=>rw [i] at h; cases h
  | some c=>
   rw [i,aA] at h
   by_cases d:c < 0
   ·rw [bD d] at h; cases h
   ·rw [bG d] at h; cases h; exact ⟨Td i d,by simp [ud]⟩
 ·split at h
  ·rename_i j; cases h; exact ⟨j,rfl⟩
  ·cases h
theorem WO {cf:α×α→Option Int} {l:List α} (h:Fv cf l):DZ cf l=some (ud cf l):=by
 unfold DZ
 split
 ·simp [ud]
 ·rename_i x
  obtain ⟨c,i⟩:=h.is x (by simp) x (by simp)
  have d:=h.irrefl x (by simp)
  rw [i,aA]
  simp only [vI,i,fM] at d
  rw [bG d]; simp [ud]
 ·rw [bD h]
def yF (l:List ByteArray):List ByteArray:=l.mergeSort λx y=>!tE y x
end
end Go.Proofs.YtjjjihkifgdhgaaGreatDoor
namespace Go.Proofs.YtjjjihkifgdhgaaGreatDoor
open Go.RowKit
theorem CL {P:Program} {t e:TypeId} {n k:Nat} {z cs:Array Value} {d:Array (Nat×Value)} (v:∀w,(zeroValue t).run P w= .ok (.agg z) w) (u:P.underlying t=some (.array n e)) (p:∀w,(sizeOf e).run P w= .ok k w) (j:Instr.fill (λi=>some (i*k,k)) z d.toList=some cs) (W:World):(Instr.build t d).run P W= .ok (.agg cs) W:=by
 simp only [Instr.build,cJ,v W,bV,bI u,Value.cells,p W]
 simp only [j,dG]
theorem QR {P:Program} {W:World} (d:Nat) (e:TypeId) (c:Nat) (xs ys:Array Value):(Op.eqItems d e c xs ys []).run P W= .ok true W:=by simp [Op.eqItems]
theorem Jd {P:Program} {W:World} {d:Nat} {e:TypeId} {c:Nat} {xs ys:Array Value} {i:Nat} {is:List Nat} {a b:Value} {r s:Bool} (ha:(part e xs (i*c)).run P W= .ok a W) (hb:(part e ys (i*c)).run P W= .ok b W) (he:(Op.equalIn d e a b).run P W= .ok r W) (h:(Op.eqItems d e c xs ys is).run P W= .ok s W):(Op.eqItems d e c xs ys (i::is)).run P W= .ok (r&&s) W:=by
 simp only [Op.eqItems,cJ,ha,hb,he,bV]
 cases r <;> simp [h]
theorem SA {P:Program} {W:World} {d:Nat} {t e:TypeId} {n c:Nat} {i:TypeInfo} {xs ys:Array Value} {r:Bool} (hu:P.underlying t=some (.array n e)) (p:P.info? e=some i) (j:P.cellsOf e=c) (h:(Op.eqItems d e c xs ys (List.range n)).run P W= .ok r W):(Op.equalIn (d+1) t (.agg xs) (.agg ys)).run P W= .ok r W:=by
 rw [run_equalIn_array W d xs ys hu p,j,h]
variable {dd:Bool}
def AB {κ γ:Type} (Q:Value→γ→List (Nat×Obj)→Prop):List (κ×Value)→List (κ×γ)→List (Nat×Obj)→Prop
 | [],[],R=>R=[]
 | p::d,q::l,R=>p.1=q.1∧∃R1 R2,R=R1++R2∧Q p.2 q.2 R1∧AB Q d l R2
 | _,_,_=>False
def oP {κ γ:Type} (kenc:κ→Value) (Q:Value→γ→List (Nat×Obj)→Prop) (v:Value) (j:List (κ×Value)) (l:List (κ×γ)) (R:List (Nat×Obj)):Prop :=
 ∃d i,R=d++i∧nz kenc (λx=>x) v j d∧AB Q j l i
section
variable {κ γ:Type} {Q:Value→γ→List (Nat×Obj)→Prop} {beq:κ→κ→Bool} {kenc:κ→Value}
theorem AB.keys:∀{d:List (κ×Value)} {l:List (κ×γ)} {R:List (Nat×Obj)},AB Q d l R→d.map (·.1)=l.map (·.1)
 | [],[],_,_=>rfl
 | [],_::_,_,h=>h.elim
 | _::_,[],_,h=>h.elim
 | p::d,q::l,R,h=>by
  obtain ⟨h1,R1,R2,_,_,i⟩:=h
  simp [h1,AB.keys i]
theorem AB.find {d:List (κ×Value)} {l:List (κ×γ)} {R:List (Nat×Obj)} (h:AB Q d l R) (k:κ):d.findIdx? (λp=>beq k p.1)=l.findIdx? (λp=>beq k p.1):=by
 have h1:(d.map (·.1)).findIdx? (λx=>beq k x)=(l.map (·.1)).findIdx? (λx=>beq k x):=by rw [h.keys]
 rw [ij,ij] at h1
 exact h1
theorem AB.get:∀{n:List (κ×Value)} {l:List (κ×γ)} {R:List (Nat×Obj)},AB Q n l R→∀(i:Nat) (k:κ) (x:γ),l[i]? =some (k,x)→
  ∃v A R1 B,n[i]? =some (k,v)∧R=A++(R1++B)∧Q v x R1∧∀j v2 x2 R2,Q v2 x2 R2→AB Q (n.set i (j,v2)) (l.set i (j,x2)) (A++(R2++B))
 | [],[],_,_,i,k,x,d=>by simp at d
 | [],_::_,_,h,_,_,_,_=>h.elim
 | _::_,[],_,h,_,_,_,_=>h.elim
 | p::n,q::l,R,h,0,k,x,d=>by
  obtain ⟨h1,R1,R2,rfl,u,w⟩:=h
  simp at d
  subst d
  refine ⟨p.2,[],R1,R2,by simp only [gY]; exact bA some (Prod.ext h1 rfl),rfl,u,λj v2 x2 R2' z=>⟨rfl,R2',R2,rfl,z,w⟩⟩
 | p::n,q::l,R,h,i+1,k,x,d=>by
  obtain ⟨h1,R1,R2,rfl,u,w⟩:=h
  simp at d
  obtain ⟨v,A,R1',B,g1,rfl,g3,g4⟩:=AB.get w i k x d
  exact ⟨v,R1++A,R1',B,by simpa using g1,by simp,g3,λj v2 x2 R2' z=>⟨h1,R1,A++(R2'++B),by simp,u,g4 j v2 x2 R2' z⟩⟩
theorem AB.push:∀{i:List (κ×Value)} {l:List (κ×γ)} {R:List (Nat×Obj)},AB Q i l R→∀(k:κ) {v:Value} {x:γ} {R1:List (Nat×Obj)},Q v x R1→AB Q (i++[(k,v)]) (l++[(k,x)]) (R++R1)
 | [],[],_,h,k,v,x,R1,d=>by
  have u:_=[]:=h
  subst u
  exact ⟨rfl,R1,[],by simp,d,rfl⟩
 | [],_::_,_,h,_,_,_,_,_=>h.elim
 | _::_,[],_,h,_,_,_,_,_=>h.elim
 | p::i,q::l,R,h,k,v,x,R1,d=>by
  obtain ⟨h1,j,n,rfl,w,z⟩:=h
  exact ⟨h1,j,n++R1,by simp,w,AB.push z k d⟩
theorem oP.found {L:Value} {u:List (κ×Value)} {l:List (κ×γ)} {R:List (Nat×Obj)} (hk:∀{x y:κ},beq x y=true→x=y) (h:oP kenc Q L u l R) {k:κ} {x:γ} (n:mJ beq l k=some x) :
  ∃v A R1 B,mJ beq u k=some v∧R=A++(R1++B)∧Q v x R1∧(∀x2 R2,Q v x2 R2→oP kenc Q L u (qK beq l k x2) (A++(R2++B))):=by
 obtain ⟨I,P,rfl,M,J⟩:=h
 rw [BZ] at n
 cases w:l.findIdx? (λp=>beq k p.1) with
 | none=>rw [w] at n; cases n
 | some i=>
  rw [w] at n
  obtain ⟨p,hp,hb⟩:=vp w
  simp only [aA,hp,ep,gm] at n
  subst n
  have G:=hk hb
  obtain ⟨v,A,R1,B,g1,rfl,g3,g4⟩:=J.get i p.1 p.2 hp
  have z:u.findIdx? (λp=>beq k p.1)=some i:=by rw [J.find k,w]
  refine ⟨v,I++A,R1,B,by rw [BZ,z]; simp [g1],by simp,g3,λx2 R2 O=>⟨I,A++(R2++B),by simp,M,?_⟩⟩
  have d:=g4 k v x2 R2 O
  have e:u.set i (k,v)=u:=by
   apply eT
   intro j
   rw [fB]
   split
   ·rename_i E
    subst E
    rw [g1,G]
    simp [(bQ.1 g1).1]
   ·rfl
  rw [e] at d
  rw [qK,w]
  exact d
theorem oP.S0 {v:Value} {n:List (κ×Value)} {l:List (κ×γ)} {R:List (Nat×Obj)} (h:oP kenc Q v n l R) {k:κ} (d:mJ beq l k=none):mJ beq n k=none:=by
 obtain ⟨w,x,rfl,z,u⟩:=h
 rw [BZ] at d ⊢
 rw [u.find k]
 cases j:l.findIdx? (λp=>beq k p.1) with
 | none=>rfl
 | some i=>
  rw [j] at d
  obtain ⟨p,hp,hb⟩:=vp j
  simp [hp] at d
def uG (beq:κ→κ→Bool) (d:List (κ×Value)) (k:κ) (z:Value):Value:=(mJ beq d k).getD z
variable {P:Program} {W:World} {kt:TypeId} {E:Nat→Value} {d:Option Nat} {ty:TypeId} {pos:String} {af:Array Edge} {g:Option (Nat×Bool)} {F:Nat→Prop} {w:World} {μ:lE} {L:List (Nat×Obj)}
theorem rV {t e:TypeId} {m x:Operand} {j z:Value} {i:List (κ×Value)} {l:List (κ×γ)} {R:List (Nat×Obj)} {k:κ} (K:sG P kt kenc beq) (A:P.underlying t=some (.map kt e)) (I:∀w,(zeroValue e).run P w= .ok z w) (hm:kP E m=j) (G:kP E x=kenc k) (u:oP kenc Q j i l R) (v:∀b o,(b,o)∈R→W.heap[b]? =some o):nF P E ⟨d,.lookup t m x false,ty,pos,af,g⟩ W (uG beq i k z) W:=by
 obtain ⟨J,L,rfl,n,M⟩:=u
 have p:=OV (d:=d) (ty:=ty) (pos:=pos) (af:=af) (g:=g) K A I hm G (n.at (μ:=hp W) (λb o h=>v b o (cQ _ h)))
 simpa [uG] using p
variable {κ2 β:Type} {kenc2:κ2→Value} {vf:β→Value} {beq2:κ2→κ2→Bool} {kt2:TypeId}
theorem oP.HL {n:Value} {i:List (κ×Value)} {l:List (κ×List (κ2×β))} {R:List (Nat×Obj)} (hk:∀{x y:κ},beq x y=true→x=y) (h:oP kenc (nz kenc2 vf) n i l R) (k:κ) {μ:lE} (j:∀b o,(b,o)∈R→μ b=some o) :
  zW kenc2 vf μ (uG beq i k (.map none)) ((mJ beq l k).getD []):=by
 cases d:mJ beq l k with
 | none=>rw [uG,h.S0 d]; exact .inl ⟨rfl,rfl⟩
 | some x=>
  obtain ⟨v,A,R1,B,g1,rfl,g3,_⟩:=h.found hk d
  rw [uG,g1]
  exact g3.at (λb o hb=>j b o (by simp [hb]))
theorem oP.isNil {j:Value} {i:List (κ×Value)} {l:List (κ×List (κ2×β))} {R:List (Nat×Obj)} (hk:∀{x y:κ},beq x y=true→x=y) (h:oP kenc (nz kenc2 vf) j i l R) (k:κ) :
  ∃r,uG beq i k (.map none)= .map r∧r.isNone=(mJ beq l k).isNone:=by
 cases d:mJ beq l k with
 | none=>rw [uG,h.S0 d]; exact ⟨none,rfl,rfl⟩
 | some x=>
  obtain ⟨v,A,R1,B,g1,rfl,g3,_⟩:=h.found hk d
  obtain ⟨m,es,clock,rfl,_⟩:=g3
  rw [uG,g1]
  exact ⟨_,rfl,rfl⟩
def KB {κ κ2 β:Type} (beq:κ→κ→Bool) (beq2:κ2→κ2→Bool) (l:List (κ×List (κ2×β))) (k:κ) (d:κ2) (x:β):Option (List (κ×List (κ2×β))):=(mJ beq l k).map λi=>qK beq l k (qK beq2 i d x)
def La {κ γ:Type} (beq:κ→κ→Bool) (l:List (κ×γ)) (k:κ) (x:γ):Option (List (κ×γ)):=if (mJ beq l k).isNone then some (qK beq l k x) else none
theorem U9 {I:Value→World→Prop} (X:List (Nat×Obj)) {Y R:List (Nat×Obj)} {t e:TypeId} {m x y:Operand} {M:Value} {G:List (κ×Value)} {l L:List (κ×List (κ2×β))} {k:κ} {J:κ2} {v:β} (hk:∀{x y:κ},beq x y=true→x=y) (K:sG P kt2 kenc2 beq2) (T:P.underlying t=some (.map kt2 e)) (n:ST dd F w W μ (X++(R++Y))) (h:oP kenc (nz kenc2 vf) M G l R) (hm:kP E m=uG beq G k (.map none)) (U:kP E x=kenc2 J) (Z:kP E y=vf v) (j:KB beq beq2 l k J v=some L) (Q:∀W' R',ST dd F w W' μ (X++(R'++Y))→oP kenc (nz kenc2 vf) M G L R'→I undef W'):pb P E ⟨d,.mapUpdate t m x y,ty,pos,af,g⟩ W I:=by
 unfold KB at j
 cases p:mJ beq l k with
 | none=>rw [p] at j; cases j
 | some l2=>
  rw [p] at j
  cases j
  obtain ⟨u,A,R1,B,g1,rfl,g3,g4⟩:=h.found hk p
  have z:kP E m=u:=by rw [hm,uG,g1]; rfl
  have i:ST dd F w W μ ((X++A)++(R1++(B++Y))):=by simpa using n
  refine GI (X++A) K T i g3 z U Z (λW' R' h1 O=>Q W' (A++(R'++B)) ?_ (g4 _ _ O))
  simpa using h1
theorem T4 {M:Value→World→Prop} (X:List (Nat×Obj)) {Y R R2:List (Nat×Obj)} {t e:TypeId} {m x y:Operand} {L:Value} {J:List (κ×Value)} {l U:List (κ×γ)} {k:κ} {u:Value} {z:γ} (K:sG P kt kenc beq) (ht:P.underlying t=some (.map kt e)) (I:ST dd F w W μ (X++(R++(R2++Y)))) (h:oP kenc Q L J l R) (hm:kP E m=L) (hx:kP E x=kenc k) (hy:kP E y=u) (hq:Q u z R2) (n:La beq l k z=some U) (hK:∀W' R',ST dd F w W' μ (X++(R'++Y))→oP kenc Q L (qK beq J k u) U R'→M undef W'):pb P E ⟨d,.mapUpdate t m x y,ty,pos,af,g⟩ W M:=by
 unfold La at n
 cases A:mJ beq l k with
 | some l2=>rw [A] at n; cases n
 | none=>
  rw [A] at n
  simp only [gU,aK,gm] at n
  subst n
  have hn:=h.S0 A
  obtain ⟨Rm,G,rfl,h2,h3⟩:=h
  have v:ST dd F w W μ (X++(Rm++(G++(R2++Y)))):=by simpa using I
  refine GI X K ht v h2 hm hx hy (λW' R' g1 g2=>hK W' (R'++(G++R2)) (by simpa using g1) ⟨R',G++R2,rfl,g2,?_⟩)
  have O:∀{Z:Type} (q:List (κ×Z)) (y:Z),mJ beq q k=none→qK beq q k y=q++[(k,y)]:=λq y j=>by
   rw [BZ] at j
   rw [qK]
   cases T:q.findIdx? (λp=>beq k p.1) with
   | none=>rfl
   | some i=>
    obtain ⟨p,hp,_⟩:=vp T
    rw [T] at j
    simp [hp] at j
  rw [O J u hn,O l z A]
  exact h3.push k hq
end
end Go.Proofs.YtjjjihkifgdhgaaGreatDoor
namespace Go.Proofs.YtjjjihkifgdhgaaGreatDoor
open Go.RowKit
variable {dd:Bool}
section
variable {κ γ:Type} {Q:Value→γ→List (Nat×Obj)→Prop} {beq:κ→κ→Bool} {kenc:κ→Value}
theorem uv {d:Type} {l:List (κ×d)} {k:κ} {i:Nat} (h:l.findIdx? (λp=>beq k p.1)=some i) (x:d):qK beq l k x=l.set i (k,x):=by rw [qK,h]
theorem yQ {d:Type} {l:List (κ×d)} {k:κ} (h:l.findIdx? (λp=>beq k p.1)=none) (x:d):qK beq l k x=l++[(k,x)]:=by rw [qK,h]
theorem IE {d:Type} {l:List (κ×d)} {k:κ} (h:l.findIdx? (λp=>beq k p.1)=none):mJ beq l k=none:=by rw [BZ,h]; rfl
theorem HK {d:Type} {l:List (κ×d)} {k:κ} {i:Nat} {p:κ×d} (h:l.findIdx? (λp=>beq k p.1)=some i) (hp:l[i]? =some p):mJ beq l k=some p.2:=by rw [BZ,h]; simp [hp]
def Tz (beq:κ→κ→Bool) (kenc:κ→Value) (Q:Value→γ→List (Nat×Obj)→Prop) (j:Value) (i:List (κ×Value)) (l:List (κ×γ)) (k:κ) (R:List (Nat×Obj)):Prop :=
 ∃d A B,R=d++(A++B)∧nz kenc (λx=>x) j i d∧∀v x R1,Q v x R1→AB Q (qK beq i k v) (qK beq l k x) (A++(R1++B))
theorem oP.open (hk:∀{x y:κ},beq x y=true→x=y) {L z:Value} {x0:γ} (E:Q z x0 []) {G:List (κ×Value)} {l:List (κ×γ)} {R:List (Nat×Obj)} (h:oP kenc Q L G l R) (k:κ) :
  ∃R' R1,R.Perm (R'++R1)∧Q (uG beq G k z) ((mJ beq l k).getD x0) R1∧Tz beq kenc Q L G l k R':=by
 obtain ⟨n,I,rfl,J,u⟩:=h
 have j:=u.find (beq:=beq) k
 cases d:l.findIdx? (λp=>beq k p.1) with
 | none=>
  rw [d] at j
  refine ⟨n++I,[],by simp,?_,n,I,[],by simp,J,λv x R1 w=>?_⟩
  ·rw [uG,IE d,IE j]; exact E
  ·rw [yQ d,yQ j]; simpa using u.push k w
 | some i=>
  rw [d] at j
  obtain ⟨p,hp,hb⟩:=vp d
  have M:=hk hb
  obtain ⟨v,A,R1,B,g1,rfl,g3,g4⟩:=u.get i p.1 p.2 hp
  refine ⟨n++(A++B),R1,?_,?_,n,A,B,rfl,J,λv2 x2 R2 w=>?_⟩
  ·rw [aM,aM]
   refine bX _ (bX _ eL)
  ·rw [uG,HK d hp,HK j g1]; exact g3
  ·rw [uv d,uv j]; exact g4 k v2 x2 R2 w
variable {P:Program} {W:World} {kt:TypeId} {E:Nat→Value} {d:Option Nat} {ty:TypeId} {pos:String} {af:Array Edge} {g:Option (Nat×Bool)} {F:Nat→Prop} {w:World} {μ:lE} {L:List (Nat×Obj)}
theorem ZX {p:Value→World→Prop} (X:List (Nat×Obj)) {Y R R1:List (Nat×Obj)} {t e:TypeId} {m x y:Operand} {n:Value} {v:List (κ×Value)} {l:List (κ×γ)} {k:κ} {u:Value} {z:γ} (K:sG P kt kenc beq) (O:P.underlying t=some (.map kt e)) (j:ST dd F w W μ (X++(R++(R1++Y)))) (h:Tz beq kenc Q n v l k R) (hm:kP E m=n) (T:kP E x=kenc k) (U:kP E y=u) (M:Q u z R1) (L:∀W' R',ST dd F w W' μ (X++(R'++Y))→oP kenc Q n (qK beq v k u) (qK beq l k z) R'→p undef W'):pb P E ⟨d,.mapUpdate t m x y,ty,pos,af,g⟩ W p:=by
 obtain ⟨G,A,B,rfl,I,J⟩:=h
 have i:ST dd F w W μ (X++(G++(A++(B++(R1++Y))))):=by simpa using j
 refine GI X K O i I hm T U (λW' R' g1 g2=>L W' (R'++(A++(R1++B))) ?_ ⟨R',A++(R1++B),rfl,g2,J u z R1 M⟩)
 refine g1.perm ?_
 simp only [aM]
 refine bX _ (bX _ (bX _ ?_))
 rw [←aM,←aM]
 exact iq _ eL
def OC (beq:κ→κ→Bool) (kenc:κ→Value) (Q:Value→γ→List (Nat×Obj)→Prop) (j:Value) (l:List (κ×γ)) (k:κ) (n:Nat) (R:List (Nat×Obj)):Prop :=
 ∃m es clock d A B i e,j= .map (some m)∧R=(m,.map es clock)::(A++B)∧yk kenc (λx=>x) d es clock∧es[i]? =some e∧e.born=n∧d.findIdx? (λp=>beq k p.1)=some i∧
  ∀v x R1,Q v x R1→AB Q (qK beq d k v) (qK beq l k x) (A++(R1++B))
theorem Ny {u:Type} (hk:∀x:κ,beq x x=true) (n:List (κ×u)) (k:κ) (a b:u):qK beq (qK beq n k a) k b=qK beq n k b:=by
 cases d:n.findIdx? (λp=>beq k p.1) with
 | none=>
  have h1:(n++[(k,a)]).findIdx? (λp=>beq k p.1)=some n.length:=by
   rw [iJ,d]
   simp [fk,hk]
  rw [yQ d,yQ d,uv h1]
  simp
 | some i=>
  obtain ⟨p,hp,hb⟩:=vp d
  have h1:(n.set i (k,a)).findIdx? (λp=>beq k p.1)=some i:=by
   rw [eC] at d ⊢
   obtain ⟨h1,z,v⟩:=d
   refine ⟨by simpa using h1,by simp [hk],λj w=>?_⟩
   rw [List.getElem_set_ne (by omega)]
   exact v j w
  rw [uv d,uv d,uv h1]
  simp
end
end Go.Proofs.YtjjjihkifgdhgaaGreatDoor
namespace Go.Proofs.YtjjjihkifgdhgaaGreatDoor
open Go.RowKit
variable {dd:Bool}
section
variable {κ γ:Type} {Q:Value→γ→List (Nat×Obj)→Prop} {beq:κ→κ→Bool} {kenc:κ→Value}
variable {P:Program} {W:World} {kt:TypeId} {E:Nat→Value} {d:Option Nat} {ty:TypeId} {pos:String} {af:Array Edge} {g:Option (Nat×Bool)} {F:Nat→Prop} {w:World} {μ:lE} {L:List (Nat×Obj)}
theorem IH {es:Array MapEntry} {i:Nat} {f n:MapEntry→MapEntry} (h:∀e,es[i]? =some e→f e=n e):es.modify i f=es.modify i n:=by
 apply Array.ext_getElem?
 intro j
 rw [ed,ed]
 split
 ·rename_i d
  subst d
  cases he:es[i]? with
  | none=>rfl
  | some e=>simp [h e he]
 ·rfl
theorem yk.val {j:List (κ×Value)} {es:Array MapEntry} {clock:Nat} (h:yk kenc (λx=>x) j es clock) {i:Nat} {e:MapEntry} (he:es[i]? =some e):∃p,j[i]? =some p∧e.key=kenc p.1∧e.val=p.2:=by
 have d:=bA (λq=>q[i]?) h.JI
 simp only [eU,ee,he,ep] at d
 cases hp:j[i]? with
 | none=>rw [hp] at d; cases d
 | some p=>
  rw [hp] at d
  simp only [ep,gm,Prod.mk.injEq] at d
  exact ⟨p,rfl,d.1,d.2⟩
theorem Tk {Kk:Value→World→Prop} (X:List (Nat×Obj)) {Y R:List (Nat×Obj)} {t e:TypeId} {m x:Operand} {mv z:Value} {x0:γ} {lv:List (κ×Value)} {l:List (κ×γ)} {k:κ} (hk:∀{x y:κ},beq x y=true↔x=y) (K:sG P kt kenc beq) (ht:P.underlying t=some (.map kt e)) (hz:∀w,(zeroValue e).run P w= .ok z w) (ah:Q z x0 []) (a1:ST dd F w W μ (X++(R++Y))) (h:oP kenc Q mv lv l R) (hm:kP E m=mv) (hx:kP E x=kenc k) (hK:∀W' v st R' R1,ST dd F w W' μ (X++(R'++(R1++Y)))→Q v ((mJ beq l k).getD x0) R1→OC beq kenc Q mv l k st R'→Kk (.tuple #[v,.int .i64 (st:Nat)]) W'):pb P E ⟨d,.mapEntry t m x,ty,pos,af,g⟩ W Kk:=by
 obtain ⟨Rm,Rv,rfl,⟨I,es,clock,rfl,rfl,J⟩,h3⟩:=h
 have hb:W.heap[I]? =some (.map es clock):=(a1.box I (.map es clock) (by simp)).1
 have h5:(getObj I:Sem Obj).run P W= .ok (.map es clock) W:=by simp [getObj,Sem.run,hb]
 have Z:=K.find k _ _ J.keys W
 rw [J.get k] at Z
 have O:=h3.find (beq:=beq) k
 have M:∀W' v,(Instr.mapEntry t (.map (some I)) (kenc k)).run P W= .ok v W'→(execOp (kP E) ⟨d,.mapEntry t m x,ty,pos,af,g⟩).run P W= .ok (.value v) W':=by
  intro W' v hr
  show (do pure (.value (←Instr.mapEntry t (kP E m) (kP E x))):Sem Next).run P W=_
  rw [hm,hx]
  simp [hr]
 have L:ST dd F w W μ (X++(I,.map es clock)::(Rv++Y)):=by simpa using a1
 cases u:lv.findIdx? (λp=>beq k p.1) with
 | none=>
  rw [u] at Z O
  have n:=J.put (beq:=beq) k z
  rw [u] at n
  refine .inl ⟨_,ChangeMaps.setBlock W I (.map (es.push { key:=kenc k,val:=z,born:=clock }) (clock+1)),M _ (.tuple #[z,.int .i64 (clock:Nat)]) ?_,hK _ z clock ((I,.map (es.push { key:=kenc k,val:=z,born:=clock }) (clock+1))::(Rv++[])) [] ?_ ?_ ?_⟩
  ·simp [Instr.mapEntry,bI ht,h5,K.check,Z,Cz hb,hz _,goInt]
  ·have:=L.setBlock (.map (es.push { key:=kenc k,val:=z,born:=clock }) (clock+1))
   simpa using this
  ·rw [IE O.symm]; exact ah
  ·refine ⟨I,_,_,lv++[(k,z)],Rv,[],es.size,{ key:=kenc k,val:=z,born:=clock },rfl,rfl,n,by simp,rfl,?_,λv x R1 hq=>?_⟩
   ·rw [iJ,u]
    have ae:=J.length
    simp [fk,hk,ae]
   ·rw [←yQ u,Ny (λx=>hk.2 rfl),yQ u,yQ O.symm]
    simpa using h3.push k hq
 | some i=>
  rw [u] at Z O
  obtain ⟨p,hp,ag⟩:=vp u
  obtain ⟨q,ad,a6⟩:=vp O.symm
  have aj:=hk.1 a6
  obtain ⟨v,A,R1,B,g1,rfl,g3,g4⟩:=h3.get i q.1 q.2 ad
  have ab:p.2=v:=by rw [g1] at hp; cases hp; rfl
  have ae:=J.length
  have ai:i < lv.length:=(bQ.1 hp).1
  obtain ⟨en,G⟩:∃en,es[i]? =some en:=⟨es[i],Array.getElem?_eq_getElem (by omega)⟩
  obtain ⟨p',aa,T,U⟩:=J.val G
  rw [hp] at aa
  cases aa
  simp only [aA,hp,ep] at Z
  have n:=J.put (beq:=beq) k v
  rw [u] at n
  have a7:((es[i]?).map (·.key)).getD (kenc k)=kenc k:=by
   rw [G]
   simp only [ep,iE,T]
   exact K.eq k p.1 ag
  have a8:es.modify i (λe=>{ e with key:=kenc k })=es.modify i (λe=>{ e with key:=kenc k,val:=v }):=IH λe he=>by
   rw [G] at he; cases he
   rw [←ab,←U]
  refine .inl ⟨_,ChangeMaps.setBlock W I (.map (es.modify i λe=>{ e with key:=kenc k,val:=v }) clock),M _ (.tuple #[v,.int .i64 (en.born:Nat)]) ?_,hK _ v en.born ((I,.map (es.modify i λe=>{ e with key:=kenc k,val:=v }) clock)::(A++B)) R1 ?_ ?_ ?_⟩
  ·simp only [Instr.mapEntry,cJ,bI ht,h5,K.check,Z,bV,a7,Instr.keyThatStays,K.bits,aK,dG]
   rw [Cz hb,a8]
   simp [G,goInt,ab]
  ·have:=L.setBlock (.map (es.modify i λe=>{ e with key:=kenc k,val:=v }) clock)
   refine this.perm ?_
   simp only [aM,bM]
   refine bX _ (List.Perm.cons _ (bX _ ?_))
   rw [←aM,←aM]
   exact iq _ eL
  ·rw [HK O.symm ad]; exact g3
  ·refine ⟨I,_,_,lv.set i (k,v),A,B,i,{ en with key:=kenc k,val:=v },rfl,rfl,n,?_,rfl,?_,λv2 x2 R2 hq=>?_⟩
   ·rw [ed,bD rfl,G]; rfl
   ·rw [eC] at u ⊢
    obtain ⟨h1,J,h3⟩:=u
    refine ⟨by simpa using h1,by simp [hk],λj hj=>?_⟩
    rw [List.getElem_set_ne (by omega)]
    exact h3 j hj
   ·rw [←uv u,Ny (λx=>hk.2 rfl),uv u,uv O.symm]
    exact g4 k v2 x2 R2 hq
theorem UB {es:Array MapEntry} (h:es.toList.Pairwise (λa b=>a.born < b.born)) {i:Nat} {e:MapEntry} (he:es[i]? =some e):es.findIdx? (λa=>(a.born:Int)==(e.born:Int))=some i:=by
 rw [Array.findIdx?_eq_some_iff_getElem]
 obtain ⟨n,d⟩:=dK.1 he
 refine ⟨n,by rw [d]; simp,λj p=>?_⟩
 have:=List.pairwise_iff_getElem.1 h j i (by simpa using Nat.lt_trans p n) (by simpa using n) p
 simp only [Array.getElem_toList] at this
 rw [d] at this
 simp
 omega
theorem Qt {Kk:Value→World→Prop} (X:List (Nat×Obj)) {Y R R1:List (Nat×Obj)} {t e:TypeId} {m s y:Operand} {mv u:Value} {z:γ} {l:List (κ×γ)} {k:κ} {st:Nat} (hk:∀{x y:κ},beq x y=true↔x=y) (K:sG P kt kenc beq) (J:ST dd F w W μ (X++(R++(R1++Y)))) (h:OC beq kenc Q mv l k st R) (hm:kP E m=mv) (hs:kP E s= .int .i64 (st:Nat)) (hy:kP E y=u) (hq:Q u z R1) (hK:∀W' a7 R',ST dd F w W' μ (X++(R'++Y))→oP kenc Q mv a7 (qK beq l k z) R'→Kk undef W'):pb P E ⟨d,.entryStore t m s y,ty,pos,af,g⟩ W Kk:=by
 obtain ⟨n,es,clock,lv,A,B,i,en,rfl,rfl,Z,G,v,hi,h3⟩:=h
 have hb:W.heap[n]? =some (.map es clock):=(J.box n (.map es clock) (by simp)).1
 have h5:(getObj n:Sem Obj).run P W= .ok (.map es clock) W:=by simp [getObj,Sem.run,hb]
 obtain ⟨p,hp,a1⟩:=vp hi
 obtain ⟨p',U,I,a6⟩:=Z.val G
 rw [hp] at U
 cases U
 have j:=Z.put (beq:=beq) k u
 rw [hi] at j
 have T:es.modify i (λe=>{ e with val:=u })=es.modify i (λe=>{ e with key:=kenc k,val:=u }):=IH λe he=>by
  rw [G] at he; cases he
  have M:en.key=kenc k:=by rw [I]; exact K.eq k p.1 a1
  rw [←M]
 have O:=UB Z.born G
 rw [v] at O
 have L:ST dd F w W μ (X++(n,.map es clock)::(A++(B++(R1++Y)))):=by simpa using J
 refine .inr (.inl ⟨ChangeMaps.setBlock W n (.map (es.modify i λe=>{ e with key:=kenc k,val:=u }) clock),?_,hK _ (qK beq lv k u) ((n,.map (es.modify i λe=>{ e with key:=kenc k,val:=u }) clock)::(A++(R1++B))) ?_ ⟨[(n,.map (es.modify i λe=>{ e with key:=kenc k,val:=u }) clock)],A++(R1++B),rfl,⟨n,_,_,rfl,rfl,?_⟩,h3 u z R1 hq⟩⟩)
 ·show (do Instr.entryStore t (kP E m) (kP E s) (kP E y); pure .skip:Sem Next).run P W=_
  rw [hm,hs,hy]
  simp only [Instr.entryStore,cJ,h5,bV,asInt,asIntOf,dG,O]
  rw [Cz hb,T]
  rfl
 ·have:=L.setBlock (.map (es.modify i λe=>{ e with key:=kenc k,val:=u }) clock)
  refine this.perm ?_
  simp only [aM,bM]
  refine bX _ (List.Perm.cons _ (bX _ ?_))
  rw [←aM,←aM]
  exact iq _ eL
 ·rw [uv hi]; exact j
end
end Go.Proofs.YtjjjihkifgdhgaaGreatDoor
namespace Go.Proofs.YtjjjihkifgdhgaaGreatDoor
open Go.RowKit
variable {dd:Bool}
section
variable {κ γ:Type} {Q:Value→γ→List (Nat×Obj)→Prop} {beq:κ→κ→Bool} {kenc:κ→Value}
def nA (kenc:κ→Value) (Q:Value→γ→List (Nat×Obj)→Prop) (v:Value) (l:List (κ×γ)) (R:List (Nat×Obj)):Prop:=∃d,oP kenc Q v d l R
def tR (kenc:κ→Value) (Q:Value→γ→List (Nat×Obj)→Prop) (μ:lE) (v:Value) (l:List (κ×γ)):Prop:=∃d R,oP kenc Q v d l R∧∀b o,(b,o)∈R→μ b=some o
theorem nA.at {v:Value} {l:List (κ×γ)} {R:List (Nat×Obj)} {μ:lE} (h:nA kenc Q v l R) (d:∀b o,(b,o)∈R→μ b=some o):tR kenc Q μ v l:=let ⟨i,h⟩:=h; ⟨i,R,h,d⟩
theorem tR.mono {v:Value} {l:List (κ×γ)} {μ μ':lE} (h:tR kenc Q μ v l) (i:lx μ μ'):tR kenc Q μ' v l:=let ⟨j,R,h,d⟩:=h; ⟨j,R,h,λb o hb=>i _ _ (d b o hb)⟩
theorem oP.form {v:Value} {d:List (κ×Value)} {l:List (κ×γ)} {R:List (Nat×Obj)} (h:oP kenc Q v d l R):∃m,v= .map (some m):=let ⟨_,_,_,h,_⟩:=h; h.form
theorem oP.e {v:Value} {d:List (κ×Value)} {l:List (κ×γ)} {R:List (Nat×Obj)} (h:oP kenc Q v d l R):nA kenc Q v l R:=⟨d,h⟩
theorem nA.form {v:Value} {l:List (κ×γ)} {R:List (Nat×Obj)} (h:nA kenc Q v l R):∃m,v= .map (some m):=let ⟨_,h⟩:=h; h.form
theorem nA.new {v:Value} {R:List (Nat×Obj)} (h:nz (β:=Value) kenc (λx=>x) v [] R):nA kenc Q v [] R:=⟨[],R,[],(aT R).symm,h,rfl⟩
theorem oP.rowAt {α:Type} {e:TypeId} {enc:α→List Value} {n:Nat} {j:Value} {i:List (κ×Value)} {l:List (κ×List α)} {R:List (Nat×Obj)} (hk:∀{x y:κ},beq x y=true→x=y) (h:oP kenc (lh e enc n) j i l R) (k:κ) :
  ∃R1,lh e enc n (uG beq i k (.slice none 0 0)) ((mJ beq l k).getD []) R1∧∀b o,(b,o)∈R1→(b,o)∈R:=by
 cases d:mJ beq l k with
 | none=>refine ⟨[],?_,λb o h=>by cases h⟩; rw [uG,h.S0 d]; exact .inl ⟨rfl,rfl,rfl⟩
 | some x=>
  obtain ⟨v,A,R1,B,g1,rfl,g3,_⟩:=h.found hk d
  refine ⟨R1,?_,λb o hb=>by simp [hb]⟩
  rw [uG,g1]; exact g3
theorem lh.H9 {α:Type} {e:TypeId} {enc:α→List Value} {k:Nat} {v:Value} {l:List α} {R:List (Nat×Obj)} (h:lh e enc k v l R) (hk:∀x,(enc x).length=k):Sl (Pl enc) k (GN R) v l:=by
 refine h.sl hk (λb o hb=>?_)
 rcases h with ⟨rfl,rfl,rfl⟩ | ⟨g,cap,d,rfl,rfl,_⟩
 ·cases hb
 ·simp at hb; obtain ⟨rfl,rfl⟩:=hb; simp [GN]
end
theorem ql.hp (W:World):ql (hp W) [] W:=⟨λ_ _ h=>h,λ_ _ h=>by cases h⟩
section
variable {P:Program} {W:World} {E:Nat→Value} {d:Option Nat} {ty:TypeId} {pos:String} {af:Array Edge} {g:Option (Nat×Bool)} {F:Nat→Prop} {w:World} {μ:lE} {L:List (Nat×Obj)}
theorem MF {t k e:TypeId} (dd:Nat) (d:P.underlying t=some (.map k e)) (a:Option Nat) (W:World):(Op.equalIn (dd+1) t (.map a) (.map none)).run P W= .ok a.isNone W:=by
 cases a <;> simp [Op.equalIn,bI d]
theorem TC {tx tv k e:TypeId} {x y:Operand} {r:Option Nat} {b:Bool} (j:P.underlying tx=some (.map k e)) (n:kP E x= .map r) (p:kP E y= .map none) (hb:r.isNone=b) :
  nF P E ⟨d,.binOp .eql tx x y tv,ty,pos,af,g⟩ W (.bool b) W:=by
 subst hb
 show (do let r ←(do eqGuard .eql tx x y (kP E x) (kP E y); binOp .eql tx (kP E x) (kP E y)); pure (.value r):Sem Next).run P W=_
 rw [n,p]
 have i:=MF 9999 j r W
 simp [eqGuard,binOp,Op.equal,show Op.maxDepth=9999+1 from rfl,i]
theorem QM {κ κ2 β:Type} {kenc:κ→Value} {kenc2:κ2→Value} {vf:β→Value} {beq:κ→κ→Bool} {tx tv kt e:TypeId} {x y:Operand} {v:Value} {i:List (κ×Value)} {l:List (κ×List (κ2×β))} {R:List (Nat×Obj)} {k:κ} (hk:∀{x y:κ},beq x y=true→x=y) (n:P.underlying tx=some (.map kt e)) (h:oP kenc (nz kenc2 vf) v i l R) (p:kP E x=uG beq i k (.map none)) (u:kP E y= .map none) :
  nF P E ⟨d,.binOp .eql tx x y tv,ty,pos,af,g⟩ W (.bool (mJ beq l k).isNone) W:=by
 obtain ⟨r,h1,j⟩:=h.isNil hk k
 exact TC n (p.trans h1) u j
theorem Hs {κ γ:Type} {j:Value→World→Prop} {t:TypeId} (kenc:κ→Value) (Q:Value→γ→List (Nat×Obj)→Prop) (i:ST dd F w W μ L) (p:∀W' v R,ST dd F w W' μ (R++L)→nA kenc Q v [] R→j v W'):pb P E ⟨d,.makeMap t none,ty,pos,af,g⟩ W j :=
 NE kenc (λx:Value=>x) i (λW' v R h1 n=>p W' v R h1 (nA.new n))
end
def sP {α:Type} (e:TypeId) (enc:α→List Value) (k:Nat) (v:Value) (l:List α) (R:List (Nat×Obj)):Prop :=
 (v= .slice none 0 0∧l=[]∧R=[])∨
 ∃g off cap d,v= .slice (some ⟨g,off,none⟩) l.length cap∧R=[(g,.cells d e (0,0))]∧l.length≤cap∧cap≤maxLen∧off+cap*k≤d.size∧(d.toList.drop off).take (l.length*k)=(l.map enc).flatten
section
variable {α:Type} {e:TypeId} {enc:α→List Value} {k:Nat} {v:Value} {l:List α} {R:List (Nat×Obj)}
theorem sP.nil (e:TypeId) (enc:α→List Value) (k:Nat):sP e enc k (.slice none 0 0) [] []:=.inl ⟨rfl,rfl,rfl⟩
theorem lh.que (h:lh e enc k v l R):sP e enc k v l R:=by
 rcases h with h | ⟨g,cap,d,h1,i,j,n,u,p⟩
 ·exact .inl h
 ·exact .inr ⟨g,0,cap,d,h1,i,j,n,by omega,by simpa using p⟩
theorem sP.len (h:sP e enc k v l R):l.length≤9223372036854775807:=by
 rcases h with ⟨rfl,rfl,rfl⟩ | ⟨g,off,cap,d,rfl,rfl,h1,i,_⟩
 ·simp
 ·unfold maxLen at i; omega
theorem sP.form (h:sP e enc k v l R):∃A c,v= .slice A l.length c:=by
 rcases h with ⟨rfl,rfl,rfl⟩ | ⟨g,off,cap,d,rfl,rfl,_⟩
 ·exact ⟨_,_,rfl⟩
 ·exact ⟨_,_,rfl⟩
theorem sP.H9 (h:sP e enc k v l R) (hk:∀x,(enc x).length=k):Sl (Pl enc) k (GN R) v l:=by
 rcases h with ⟨rfl,rfl,rfl⟩ | ⟨g,off,cap,d,rfl,rfl,h1,p,A,u⟩
 ·exact Sl.nil _ _ _
 ·refine ⟨_,cap,rfl,h1,p,λ_=>⟨g,off,d,e,(0,0),rfl,by simp [GN],λi x w=>⟨enc x,hk x,rfl,λj y z=>?_⟩⟩⟩
  have:=As hk l i x w j y z
  rw [←u] at this
  have n:i*k+j < l.length*k:=by
   have:=(bQ.1 this).1
   simp at this; omega
  rw [dS n,ek] at this
  simpa [ew] using this
variable {P:Program} {W:World} {E:Nat→Value} {d:Option Nat} {ty:TypeId} {pos:String} {af:Array Edge} {g:Option (Nat×Bool)} {F:Nat→Prop} {w:World} {μ:lE} {L:List (Nat×Obj)}
theorem WQ {x:Operand} {t i:TypeId} (j:P.underlying t=some (.slice i)) (n:kP E x=v) (h:sP e enc k v l R):nF P E ⟨d,.call ⟨.builtin .len,#[x],#[t]⟩,ty,pos,af,g⟩ W (.int .i64 l.length) W:=by
 obtain ⟨A,c,rfl⟩:=h.form
 exact Hl j n
theorem SU {t I:TypeId} {x A:Operand} {ik:IntKind} {i:Int} (O:P.underlying t=some (.slice I)) (he:∀w,(sizeOf I).run P w= .ok k w) (Q:kP E x=v) (L:kP E A= .int ik i) (hk:∀x,(enc x).length=k) (h:sP e enc k v l R) (T:0≤i) (M:i≤l.length) :
  ∃u,sP e enc k u (l.drop i.toNat) R∧∀W,nF P E ⟨d,.slice t x (some A) none none,ty,pos,af,g⟩ W u W:=by
 rcases h with ⟨rfl,rfl,rfl⟩ | ⟨z,off,cap,n,rfl,rfl,h1,h2,h3,U⟩
 ·have:i=0:=by simp at M; omega
  subst this
  refine ⟨.slice none 0 0,by simpa using sP.nil e enc k,λW=>?_⟩
  show (do pure (.value (←Instr.sliceAt t (kP E x) (some (kP E A)) none none)):Sem Next).run P W=_
  rw [Q,L]
  simp [Instr.sliceAt,Instr.slice,Instr.sliceBounds,Instr.sliceBound,asIntOf,bI O,he W]
 ·refine ⟨.slice (some (if cap=i.toNat then ⟨z,off,none⟩ else (Addr.add ⟨z,off,none⟩ (i.toNat*k)))) (l.length-i.toNat) (cap-i.toNat),.inr ?_,λW=>?_⟩
  ·have j:(l.drop i.toNat).length=l.length-i.toNat:=by simp
   have p:(l.map enc).flatten.drop (i.toNat*k)=((l.drop i.toNat).map enc).flatten:=by
    have Y:l=l.take i.toNat++l.drop i.toNat:=(iD _ _).symm
    have Z:((l.take i.toNat).map enc).flatten.length=i.toNat*k:=by rw [sn hk,dI,dY (by omega)]
    conv=>lhs; rw [Y,cL,bW]
    rw [←Z,List.drop_left]
   by_cases J:cap=i.toNat
   ·rw [bD J]
    have G:l.drop i.toNat=[]:=List.drop_eq_nil_of_le (by omega)
    refine ⟨z,off,cap-i.toNat,n,by rw [G]; simp; omega,rfl,by rw [G]; simp,by omega,by have:(cap-i.toNat)*k≤cap*k:=dr _ (by omega); omega,by rw [G]; simp⟩
   ·rw [bG J]
    refine ⟨z,off+i.toNat*k,cap-i.toNat,n,by rw [j,dQ],rfl,by rw [j]; omega,by omega,?_,?_⟩
    ·have:i.toNat*k+(cap-i.toNat)*k=cap*k:=by rw [←du]; congr 1; omega
     omega
    ·rw [j,←p,←U,je,List.drop_drop,Nat.sub_mul]
  ·show (do pure (.value (←Instr.sliceAt t (kP E x) (some (kP E A)) none none)):Sem Next).run P W=_
   rw [Q,L]
   have hb:0≤i∧i≤(l.length:Int):=⟨T,M⟩
   simp [Instr.sliceAt,Instr.slice,Instr.sliceBounds,Instr.sliceBound,asIntOf,bI O,he W,hb]
   split <;> rfl
theorem QP {K:Value→World→Prop} {t:TypeId} {a7:Nat} {z vs:Value} {m r:List α} (X:List (Nat×Obj)) {Y:List (Nat×Obj)} {x y:Operand} {i:TypeInfo} (a8:ST dd F w W μ (X++(R++Y))) (hk:∀x,(enc x).length=k) (al:0 < k) (h1:∀x,∀u∈enc x,u.oneCell'=true) (ht:P.underlying t=some (.slice e)) (hi:P.info? e=some i) (hz:i.zero=some z) (ae:z.cells.size=k) (a6:i.size=k) (aa:i.bytes=a7) (hx:kP E x=v) (hy:kP E y=vs) (hR:sP e enc k v l R) (hs:Sl (Pl enc) k (hp W) vs m) (hb:nm a7 l m=some r) (h:∀W' v' R',ST dd F w W' μ (X++(R'++Y))→sP e enc k v' r R'→K v' W'):pb P E ⟨d,.call ⟨.builtin .append,#[x,y],#[t,t]⟩,ty,pos,af,g⟩ W K:=by
 rcases hR with ⟨rfl,rfl,rfl⟩ | ⟨G,off,cap,p,rfl,rfl,h2,h3,h4,h5⟩
 ·exact Pc X a8 hk al h1 ht hi hz ae a6 aa hx hy (lh.nil e enc k) hs hb (λW' v' R' a b=>h W' v' R' a b.que)
 unfold nm at hb
 split at hb
 case isFalse=>cases hb
 rename_i a1
 cases hb
 have Z:∀(V:Value) (W':World),(Builtin.append_ #[t,t] ty #[.slice (some ⟨G,off,none⟩) l.length cap,vs]).run P W= .ok V W'→(execOp (kP E) ⟨d,.call ⟨.builtin .append,#[x,y],#[t,t]⟩,ty,pos,af,g⟩).run P W= .ok (.value V) W':=by
  intro V W' hV
  show (do let d ←resolve (kP E) ⟨.builtin .append,#[x,y],#[t,t]⟩ ty; invoke d.target d.args:Sem Next).run P W=_
  simp [resolve,invoke,builtin,hx,hy,hV]
 obtain ⟨A,c,rfl,ap,aq,ai⟩:=hs
 have M:ST dd F w W μ (X++(G,.cells p e (0,0))::Y):=by simpa using a8
 have hg:W.heap[G]? =some (.cells p e (0,0)):=(M.box G _ (by simp)).1
 have L:=sn hk l
 have U:∀u∈(m.map enc).flatten,u.oneCell'=true:=by
  intro u hu
  obtain ⟨ys,ao,an⟩:=jJ.1 hu
  obtain ⟨x,_,rfl⟩:=aS.1 ao
  exact h1 x u an
 have J:Src P i.size t (.slice A m.length c) m.length ((m.map enc).flatten) W:=by
  rw [a6]
  rcases eo m.length with h0 | h0
  ·have hm:m=[]:=aJ h0
   subst hm
   cases A with
   | none=>exact Src.ofNil W ht c
   | some ad=>exact Src.ofSlice W ht ad 0 c [] (by simp) (λj u hu=>by simp at hu) (λu hu=>by cases hu)
  ·obtain ⟨b,o,cs,T,fr,rfl,h6,h7⟩:=ai h0
   refine Src.ofSlice W ht _ _ c _ (sn hk m) (λj u hu=>?_) U
   obtain ⟨i,x,q,h8,h9,rfl⟩:=KV hk m j u hu
   obtain ⟨ys,_,ag,ah⟩:=h7 i x h8
   cases ag
   rw [dQ,fA W b (o+(i*k+q)) cs T fr h6,←ew]
   exact ah q u h9
 have n:=sn hk m
 have Q:((l++m).map enc).flatten=(l.map enc).flatten++(m.map enc).flatten:=by simp
 generalize (m.map enc).flatten=fm at J U n Q
 subst a6
 have ar:l.length*i.size≤cap*i.size:=dr _ h2
 by_cases I:l.length+m.length≤cap
 ·have au:l.length*i.size+m.length*i.size≤cap*i.size:=by rw [←du]; exact dr _ I
  have ab:=ju (P:=P) G (off+l.length*i.size) e fm 0 p W hg (by rw [n]; omega) U
  have O:(Builtin.append_ #[t,t] ty #[.slice (some ⟨G,off,none⟩) l.length cap,.slice A m.length c]).run P W= .ok (.slice (some ⟨G,off,none⟩) (l.length+m.length) cap) (W.setRow G (p.toList.take (off+l.length*i.size)++fm++p.toList.drop (off+l.length*i.size+fm.length)).toArray):=by
   simp [Builtin.append_,bI ht,sizeOf,typeInfo,hi,J.len,I,J.cells,dQ]
   simp only [fD] at ab
   rw [ab]
   simp
  refine .inl ⟨_,_,Z _ _ O,h _ _ [(G,_)] (by simpa using M.store _) (.inr ⟨G,off,cap,_,by rw [aC],rfl,by simpa using I,h3,?_,?_⟩)⟩
  ·simp only [dV,aC,dI,gw,dF,n]
   rw [dY (by omega)]
   omega
  ·have hA:(p.toList.take (off+l.length*i.size)).length=off+l.length*i.size:=by simp; omega
   show ((p.toList.take (off+l.length*i.size)++(fm++p.toList.drop (off+l.length*i.size+fm.length))).drop off).take ((l++m).length*i.size)=_
   rw [Q,List.drop_append,je,hA,show off-(off+l.length*i.size)=0 by omega,List.drop_zero,show off+l.length*i.size-off=l.length*i.size by omega,h5]
   rw [aC,du,fL,fL,L,n,dX (by rw [L]; omega),show l.length*i.size+m.length*i.size-l.length*i.size=m.length*i.size by omega,dX (by rw [n]; omega)]
   simp
 ·have hold:(Builtin.firstCells i.size l.length (.slice (some ⟨G,off,none⟩) l.length cap)).run P W.drew= .ok ((l.map enc).flatten).toArray W.drew:=by
   refine run_firstCells_some W.drew i.size l.length ⟨G,off,none⟩ l.length cap _ L (λj u hu=>?_)
   rw [dQ]
   show W.cell? ⟨G,off+j,none⟩=some u
   rw [fA W G (off+j) p e (0,0) hg]
   rw [←h5] at hu
   have hj:j < l.length*i.size:=by have:=(bQ.1 hu).1; simp at this; omega
   rw [dS hj,ek] at hu
   simpa using hu
  have hlen:(l++m).length=l.length+m.length:=aC
  have ak:=grownCap_ge W (l.length+m.length) cap e
  have aj:=jd W (l.length+m.length) cap e a1.2
  have O:=run_append_grow_src (P:=P) W t t ty e i z ht hi hz (some ⟨G,off,none⟩) l.length cap ((l.map enc).flatten) hold _ m.length _ J (by omega) (by have:=a1.2; unfold maxLen at this; omega) (growslice_fits (by omega) (by rw [aa]; exact a1.1))
  have h6:=M.drew.alloc (.cells (((l.map enc).flatten++fm).toArray++Builtin.zeroCells z.cells (grownCap W (l.length+m.length) cap e-(l.length+m.length))) e (0,0))
  have h7:=(ST.drop (A:=(W.drew.heap.size,_)::X) h6).perm (L':=X++([(W.heap.size,_)]++Y)) (by simpa using (fi (a:=(W.heap.size,_)) (l₁:=X) (l₂:=Y)).symm)
  refine .inl ⟨_,_,Z _ _ O,h _ _ _ h7 (lh.que (.inr ⟨W.heap.size,grownCap W (l.length+m.length) cap e,_,by rw [hlen],rfl,by rw [hlen]; exact ak,aj,?_,?_⟩))⟩
  ·rw [Array.size_append,size_zeroCells,ae]
   simp only [dV,aC,L,n]
   rw [←du,←du]
   congr 1
   omega
  ·rw [Array.toList_append,List.toList_toArray,hlen,Q,List.take_append_of_le_length (by simp only [aC,L,n]; rw [du]; exact aR _),dX (by simp only [aC,L,n]; rw [du]; exact aR _)]
end
end Go.Proofs.YtjjjihkifgdhgaaGreatDoor
namespace Go.Proofs.YtjjjihkifgdhgaaGreatDoor
open Go.RowKit
variable [M:Md]
section
variable {P:Program} {ops:Array Oper} {Q:Exit→Act→World→Prop} {S:Array Bool→World→Prop}
def BC (ops:Array Oper) (l:Array Bool):Prop:=∀j o,ops[j]? =some o→l.getD j true=true→∀e∈o.after,Region.binds .any e=true→l.getD e.on true=true
def L5 (ops:Array Oper):Nat→List Nat→Bool
 | _,[]=>true
 | j,k::r=>(match ops[j]? with | some o=>o.after.any (λe=>Region.binds .any e&&e.on==k) | none=>false)&&L5 ops k r
theorem Ly {l:Array Bool} (u:BC ops l):∀(r:List Nat) (j i:Nat),L5 ops j r=true→(j::r).getLast? =some i→l.getD j true=true→l.getD i true=true
 | [],j,i,_,h,d=>by simp at h; subst h; exact d
 | k::r,j,i,h,w,d=>by
  simp only [L5,bn] at h
  obtain ⟨h1,v⟩:=h
  cases p:ops[j]? with
  | none=>rw [p] at h1; cases h1
  | some o=>
   rw [p] at h1
   simp only [Array.any_eq_true] at h1
   obtain ⟨n,x,h1⟩:=h1
   simp only [bn,fF] at h1
   have:=u j o p d o.after[n] (Array.getElem_mem x) h1.1
   rw [h1.2] at this
   exact Ly u r k i v (by simpa [List.getLast?_cons_cons] using w) this
def KP (ops:Array Oper) (i:Nat) (l:Array Bool):Prop:=BC ops l∧l.getD i true=false
theorem KP.yj {l:Array Bool} {i:Nat} (h:KP ops i l) (j:Nat) (r:List Nat) (d:L5 ops j r=true) (p:(j::r).getLast? =some i):l.getD j true=false:=by
 cases n:l.getD j true with
 | false=>rfl
 | true=>have:=Ly h.1 r j i d p n; rw [h.2] at this; cases this
theorem BC.start (n:Nat) (h:n=ops.size):BC ops (Array.replicate n false):=by
 subst h
 intro j o p i
 have d:j < ops.size:=(dK.1 p).1
 simp [d] at i
theorem BC.set {l:Array Bool} {i:Nat} (h:BC ops l) (z:i∈Region.ready .any ops l):BC ops (l.setIfInBounds i true):=by
 intro j o x w e he hb
 have up:∀{k:Nat},l.getD k true=true→(l.setIfInBounds i true).getD k true=true:=λ{k} hk=>by
  by_cases p:i=k
  ·subst p
   by_cases v:i < l.size
   ·simp [v]
   ·simp [v]
  ·rw [jZ true p]; exact hk
 by_cases n:i=j
 ·subst n
  obtain ⟨_,A,u,d⟩:=km.1 z
  rw [x] at u
  cases u
  refine up ?_
  have:=d e he hb
  by_cases v:e.on < l.size
  ·simp [v] at this ⊢; exact this
  ·simp [v]
 ·rw [jZ true n] at w
  exact up (h j o x w e he hb)
def G6 (P:Program) (ops:Array Oper) (S:Array Bool→World→Prop) (i:Nat) (o:Oper) (v:Value) (a:Act):Prop :=
 (Region.wanted o (yielded ops a.tmps)=true∧∀l w,KP ops i l→S l w→(execOp a.eval o).run P w= .ok (.value v) w)∨
 (Region.wanted o (yielded ops a.tmps)=false∧v=undef)
theorem G6.if_ {i:Nat} {o:Oper} {v:Value} {a:Act} {l:Array Bool} (h:G6 P ops S i o v a) (hp:KP ops i l):YieldsIf P ops (S l) o v a :=
 h.imp (λ⟨h1,d⟩=>⟨h1,λw hw=>d l w hp hw⟩) id
def Sg (P:Program) (ops:Array Oper) (Q:Exit→Act→World→Prop) (S:Array Bool→World→Prop):Nat→Array Bool→Act→World→Prop
 | 0,l,a,w=>Region.ready .any ops l=[]∧Q .normal a w
 | n+1,l,a,w=>(Region.ready .any ops l=[]→Q .normal a w)∧
  ∀i∈Region.ready .any ops l,wpOp P ops Q i (λj d=>S (l.setIfInBounds i true) d∧Sg P ops Q S n (l.setIfInBounds i true) j d) a w
theorem Q2:∀(n:Nat) (l:Array Bool) (a:Act) (w:World),Sg P ops Q S n l a w→wpAny P .any ops Q n l a w
 | 0,_,_,_,h=>h
 | n+1,_,_,_,h=>⟨h.1,λi p=>wpOp_mono (λd u j=>Q2 n _ d u j.2) (h.2 i p)⟩
theorem U8 {i j:Nat} {d A:Oper} {v:Value} (J:ops[j]? =some A) (u:d.apart ops A=true) (x:∀cs b,d.op≠.select cs b) (z:∀cs b,A.op≠.select cs b) (I:∀c a w,Q (.panic c) (a.put d.dst v) w→Q (.panic c) a w) {K:Act→World→Prop} {a:Act} {w:World} (L:G6 P ops S i d v a) (h:wpOp P ops Q j K (a.put d.dst v) w) :
  wpOp P ops Q j (λn G=>G6 P ops S i d v n∧K (n.put d.dst v) G) a w:=by
 have h1:YieldsIf P ops (λw=>∃l,KP ops i l∧S l w) d v a:=L.imp (λ⟨h1,p⟩=>⟨h1,λw ⟨l,hp,hw⟩=>p l w hp hw⟩) id
 refine wpOp_mono (λn G E=>⟨E.1.imp (λ⟨h1,p⟩=>⟨h1,λl w hp hw=>p w ⟨l,hp,hw⟩⟩) id,E.2⟩) (wpOp_putIf (S:=λw=>∃l,KP ops i l∧S l w) J u x z I h1 h)
theorem NY {i:Nat} {J:Oper} {v:Value} (hi:ops[i]? =some J) (E:∀(j:Nat) (o:Oper) cs b,ops[j]? =some o→o.op≠.select cs b) (hQ:∀c a w,Q (.panic c) (a.put J.dst v) w→Q (.panic c) a w) (hm:∀l w,S (l.setIfInBounds i true) w→S l w) :
  ∀(n:Nat) (l:Array Bool) (a:Act) (w:World),(∀j L,ops[j]? =some L→j≠i→l.getD j true=false→(∀e∈L.after,Region.binds .any e=true→e.on≠i)→J.apart ops L=true)→
   BC ops l→i∈Region.ready .any ops l→G6 P ops S i J v a→S (l.setIfInBounds i true) w→Sg P ops Q S n (l.setIfInBounds i true) (a.put J.dst v) w→Sg P ops Q S (n+1) l a w:=by
 intro n
 induction n with
 | zero=>
  intro l a w _ Y z Z M H
  refine ⟨λh=>(by rw [h] at z; cases z),λj R=>?_⟩
  by_cases d:j=i
  ·subst d
   exact (Z.if_ ⟨Y,(km.1 z).1⟩).wpOp hi (hm l w M) ⟨M,H⟩
  ·have:=ready_mono R d
   rw [H.1] at this
   cases this
 | succ n ih=>
  intro l a w u Y z Z M H
  refine ⟨λh=>(by rw [h] at z; cases z),λj R=>?_⟩
  by_cases d:j=i
  ·subst d
   exact (Z.if_ ⟨Y,(km.1 z).1⟩).wpOp hi (hm l w M) ⟨M,H⟩
  have h1:=H.2 j (ready_mono R d)
  obtain ⟨A,L,I,O⟩:=km.1 R
  have U:∀e∈L.after,Region.binds .any e=true→e.on≠i:=λe he hb a1=>by
   have G:=O e he hb
   have h0:=(km.1 z).1
   rw [a1] at G
   rcases Nat.lt_or_ge i l.size with h' | h'
   ·simp [h'] at h0 G; rw [h0] at G; cases G
   ·simp [Array.getElem?_eq_none h'] at G
  have G:=U8 I (u j L I d A U) (λcs b=>E i J cs b hi) (λcs b=>E j L cs b I) hQ Z h1
  have x:∀k ok,ops[k]? =some ok→k≠i→(l.setIfInBounds j true).getD k true=false→(∀e∈ok.after,Region.binds .any e=true→e.on≠i)→J.apart ops ok=true:=λk ok hk a6 W a7=>by
   refine u k ok hk a6 ?_ a7
   by_cases T:j=k
   ·subst T; exact A
   ·rw [jZ true T] at W; exact W
  have p:(l.setIfInBounds i true).setIfInBounds j true=(l.setIfInBounds j true).setIfInBounds i true:=Array.setIfInBounds_comm _ _ (Ne.symm d)
  refine wpOp_mono (λa' w' h3=>?_) G
  have h4:S ((l.setIfInBounds j true).setIfInBounds i true) w':=by rw [←p]; exact h3.2.1
  refine ⟨hm _ w' h4,ih (l.setIfInBounds j true) a' w' x (Y.set R) (ready_mono z (Ne.symm d)) h3.1 h4 ?_⟩
  rw [←p]
  exact h3.2.2
end
theorem aaG {ro:Md} {P:Program} {o:Oper} {a:Act} {w:World} {K:Act→World→Prop} {Q:Exit→Act→World→Prop} (n:∀c,o.op≠.defer c) (h:o.wp P a w K Q) (u:¬LetsOut Q):o.wpIn ro.F 0 P a w K Q:=by
 refine ⟨λ_ _=>trivial,?_⟩
 rw [Oper.semAt_eq _ _ _ n]
 unfold Oper.wp at h
 cases j:(execOp a.eval o).run P w with
 | ok x i=>
  rw [j] at h
  cases x with
  | value v=>exact h
  | skip=>exact h
  | defer d=>exact h
  | enter f args=>exact Nf (dA h λe p he=>by cases e with
   | returned v=>exact he
   | panicked c=>exact he
   | outgrown=>exact he)
  | row r args=>exact ⟨λe=>(nomatch (show (none:Option Nat).isSome=true from e)),λc cs _=>by
    obtain ⟨v,i,r,s⟩:=h c cs
    exact ⟨v,i,r,(stepsIn_wide (P:=P)).2 s⟩⟩
  | _=>exact h.elim
 | halt z i=>
  rw [j] at h
  cases z with
  | panic v=>exact h
  | _=>exact h.elim
def Se (ops:Array Oper):Prop:=∀(i:Nat) (o:Oper),ops[i]? =some o→∀c,o.op≠.defer c
theorem Hx {ro:Md} {P:Program} {ops:Array Oper} {Q:Exit→Act→World→Prop} (p:Se ops) (j:¬LetsOut Q):∀(n:Nat) (l:Array Bool) (a:Act) (w:World),wpAny P .any ops Q n l a w→wpAnyIn ro.F 0 P .any ops Q n l a w
 | 0,_,_,_,h=>h
 | n+1,l,a,w,h=>⟨h.1,λi v=>by
  have d:=h.2 i v
  unfold wpOp at d
  unfold wpOpIn
  cases u:ops[i]? with
  | none=>rw [u] at d; exact Hx p j n _ a w d
  | some o=>
   rw [u] at d
   simp only at d ⊢
   split
   ·rename_i hw
    rw [bD hw] at d
    rcases d with d | d
    ·exact Oper.wpIn_mono (λa w h=>Hx p j n _ a w h) (aaG (p i o u) d j)
    ·exact absurd d.2 j
   ·rename_i hw
    rw [bG hw] at d
    exact ⟨λ_ _=>trivial,Hx p j n _ _ w d⟩⟩
def SK (l:List Oper):Bool:=l.all λo=>match o.op with
 | .defer _=>false
 | _=>true
theorem X9 {l:List Oper} (h:SK l=true):Se l.toArray:=λi o d c j=>by
 have hm:o∈l:=by
  rw [iB] at d
  exact cX d
 have:=dP.1 h o hm
 rw [j] at this
 cases this
theorem ZD [M:Md] {n:Nat} {Q:tH}:¬LetsOut (lift n Q):=λ⟨_,_,h⟩=>h
def PX (P:Program) (n:Nat) (ops:Array Oper) (Q:tH) (S:Array Bool→World→Prop) (fuel:Nat) (listed:Array Bool) (E:Nat→Value) (W:World):Prop :=
 BC ops listed→∀a,Ag n a E→Sg P ops (lift n Q) S fuel listed a W
section
variable {P:Program} {n:Nat} {Q:tH} {E:Nat→Value} {W:World} {ops:Array Oper} {S:Array Bool→World→Prop} {fuel:Nat} {listed:Array Bool}
theorem PS {id:Nat} {l:List Oper} (S:Array Bool→World→Prop) (hm:P.follows .mixedOrders=true) (h:PX P n l.toArray Q S l.length (Array.replicate l.length false) E W.drew) (d:SK l=true):CW P n (.region id l.toArray true) Q E W:=λa ha=>
 wpIn_region_any hm (Hx (X9 d) ZD _ _ _ _ (Q2 _ _ _ _ (h (BC.start _ (by simp)) a ha)))
def Gq (ops:Array Oper) (listed:Array Bool) (i:Nat):Bool:=Region.noSelect ops&&Region.free .any ops listed i&&(Region.ready .any ops listed).contains i
theorem lf {o:Oper} {dd:Nat} {v:Value} (i:Nat) (p:ops[i]? =some o) (hk:Gq ops listed i=true) (hw:wk n ops E o) (z:o.dst=some dd) (A:dd < n) (hm:∀l w,S (l.setIfInBounds i true) w→S l w) (x:S (listed.setIfInBounds i true) W) (G:∀l W,KP ops i l→S l W→nF P E o W v W) (h:PX P n ops Q S fuel (listed.setIfInBounds i true) (qu E dd v) W):PX P n ops Q S (fuel+1) listed E W:=λj a ha=>by
 simp only [Gq,bn] at hk
 have u:i∈Region.ready .any ops listed:=by simpa using hk.2
 exact NY p (Region.noSelect_spec hk.1.1) (λ_ _ _ h=>Pd h) hm fuel listed a W (Region.free_spec p hk.1.2) j u (.inl ⟨hw.of ha,λl w hp d=>by rw [ha.eval]; exact G l w hp d⟩) x (by rw [z]; exact h (j.set u) _ (ha.put A v))
theorem oM {A:Value→Prop} {o:Oper} {dd:Nat} (i:Nat) (v:ops[i]? =some o) (hk:Gq ops listed i=true) (hw:wk n ops E o) (u:o.dst=some dd) (x:dd < n) (hm:∀l w,S (l.setIfInBounds i true) w→S l w) (j:S (listed.setIfInBounds i true) W) (z:∃p,A p∧∀W,nF P E o W p W) (h:∀p,A p→PX P n ops Q S fuel (listed.setIfInBounds i true) (qu E dd p) W):PX P n ops Q S (fuel+1) listed E W:=by
 obtain ⟨p,h1,d⟩:=z
 exact lf i v hk hw u x hm j (λ_ W _ _=>d W) (h p h1)
theorem RQ {o:Oper} {dd:Nat} (i:Nat) (j:ops[i]? =some o) (hk:Gq ops listed i=true) (hw:∀a,Ag n a E→Region.wanted o (yielded ops a.tmps)=false) (v:o.dst=some dd) (x:dd < n) (hm:∀l w,S (l.setIfInBounds i true) w→S l w) (u:S (listed.setIfInBounds i true) W) (h:PX P n ops Q S fuel (listed.setIfInBounds i true) (qu E dd undef) W):PX P n ops Q S (fuel+1) listed E W:=λd a ha=>by
 simp only [Gq,bn] at hk
 have p:i∈Region.ready .any ops listed:=by simpa using hk.2
 exact NY j (Region.noSelect_spec hk.1.1) (λ_ _ _ h=>Pd h) hm fuel listed a W (Region.free_spec j hk.1.2) d p (.inr ⟨hw a ha,rfl⟩) u (by rw [v]; exact h (d.set p) _ (ha.put x _))
theorem aaD {o:Oper} {dd j t:Nat} {want:Bool} (i:Nat) (x:ops[i]? =some o) (hk:Gq ops listed i=true) (v:o.guard=some (j,want)) (z:(ops[j]?).bind (·.dst)=some t) (G:t < n) (d:E t= .bool (!want)) (u:o.dst=some dd) (A:dd < n) (hm:∀l w,S (l.setIfInBounds i true) w→S l w) (p:S (listed.setIfInBounds i true) W) (h:PX P n ops Q S fuel (listed.setIfInBounds i true) (qu E dd undef) W):PX P n ops Q S (fuel+1) listed E W :=
 RQ i x hk (λa ha=>by have I:=ha.yield z G d; simp [Region.wanted,v,I]) u A hm p h
theorem Za {o:Oper} {dd j t:Nat} {want:Bool} (i:Nat) (x:ops[i]? =some o) (hk:Gq ops listed i=true) (v:o.guard=some (j,want)) (z:(ops[j]?).bind (·.dst)=some t) (G:t < n) (d:E t=undef) (u:o.dst=some dd) (A:dd < n) (hm:∀l w,S (l.setIfInBounds i true) w→S l w) (p:S (listed.setIfInBounds i true) W) (h:PX P n ops Q S fuel (listed.setIfInBounds i true) (qu E dd undef) W):PX P n ops Q S (fuel+1) listed E W :=
 RQ i x hk (λa ha=>by have I:=ha.Lr z G d; simp [Region.wanted,v,I]) u A hm p h
theorem Zk {o:Oper} {dd:Nat} (i:Nat) (J:ops[i]? =some o) (u:Region.ready .any ops listed=[i]) (hw:wk n ops E o) (x:o.dst=some dd) (z:dd < n) (h:pb P E o W λv W'=>S (listed.setIfInBounds i true) W'∧PX P n ops Q S fuel (listed.setIfInBounds i true) (qu E dd v) W'):PX P n ops Q S (fuel+1) listed E W:=λw a ha=>by
 have d:i∈Region.ready .any ops listed:=by rw [u]; simp
 refine ⟨λI=>(by rw [I] at u; cases u),λj A=>?_⟩
 rw [u] at A
 obtain rfl:=bO.1 A
 unfold wpOp
 simp only [J]
 rw [bD (hw.of ha)]
 refine .inl ?_
 unfold Oper.wp
 rw [ha.eval]
 rcases h with ⟨v,W',h1,p⟩ | ⟨W',h1,p⟩ | ⟨f,args,h1,p⟩
 ·rw [h1,jW]; exact ⟨p.1,by rw [x]; exact p.2 (w.set d) _ (ha.put z v)⟩
 ·rw [h1,Oper.upon_skip]; exact ⟨p.1,by rw [x]; exact p.2 (w.set d) _ (ha.put z _)⟩
 ·rw [h1,jX]
  refine dA p ?_
  rintro e L ⟨v,rfl,G⟩
  exact ⟨G.1,by simp only [x]; exact G.2 (w.set d) _ (ha.put z v)⟩
theorem aam {o:Oper} (i:Nat) (I:ops[i]? =some o) (u:Region.ready .any ops listed=[i]) (hw:wk n ops E o) (x:o.dst=none) (h:pb P E o W λ_ W'=>S (listed.setIfInBounds i true) W'∧PX P n ops Q S fuel (listed.setIfInBounds i true) E W'):PX P n ops Q S (fuel+1) listed E W:=λw a ha=>by
 have d:i∈Region.ready .any ops listed:=by rw [u]; simp
 refine ⟨λG=>(by rw [G] at u; cases u),λj z=>?_⟩
 rw [u] at z
 obtain rfl:=bO.1 z
 unfold wpOp
 simp only [I]
 rw [bD (hw.of ha)]
 refine .inl ?_
 unfold Oper.wp
 rw [ha.eval]
 rcases h with ⟨v,W',h1,p⟩ | ⟨W',h1,p⟩ | ⟨f,args,h1,p⟩
 ·rw [h1,jW,x]; exact ⟨p.1,p.2 (w.set d) _ (ha.DE _)⟩
 ·rw [h1,Oper.upon_skip,x]; exact ⟨p.1,p.2 (w.set d) _ (ha.DE _)⟩
 ·rw [h1,jX]
  refine dA p ?_
  rintro e J ⟨v,rfl,A⟩
  simp only [x]
  exact ⟨A.1,A.2 (w.set d) _ (ha.DE _)⟩
theorem lX (j:Region.ready .any ops listed=[]) (h:Q .normal E W):PX P n ops Q S fuel listed E W:=λ_ a ha=>by
 cases fuel with
 | zero=>exact ⟨j,E,ha,h⟩
 | succ f=>exact ⟨λ_=>⟨E,ha,h⟩,λi d=>by rw [j] at d; cases d⟩
theorem tQ {p:Prop} {b:Bool} (hb:b=true) (h:b=false):p:=by rw [hb] at h; cases h
theorem rN {d:Array Bool} (i:listed=d) (h:PX P n ops Q S fuel d E W):PX P n ops Q S fuel listed E W:=by rw [i]; exact h
theorem LY {o A:Oper} {d G:Nat} (i j:Nat) (Z:ops[i]? =some o) (hj:ops[j]? =some A) (z:Region.ready .any ops listed=[i,j]) (hw:wk n ops E o) (M:wk n ops E A) (w:o.dst=some d) (J:A.dst=some G) (x:d < n) (L:G < n) (h:pb P E o W λv W'=>S (listed.setIfInBounds i true) W'∧PX P n ops Q S fuel (listed.setIfInBounds i true) (qu E d v) W') (U:pb P E A W λv W'=>S (listed.setIfInBounds j true) W'∧PX P n ops Q S fuel (listed.setIfInBounds j true) (qu E G v) W'):PX P n ops Q S (fuel+1) listed E W:=λI a ha=>by
 have key:∀(k:Nat) (q:Oper) (e:Nat),ops[k]? =some q→k∈Region.ready .any ops listed→wk n ops E q→q.dst=some e→e < n→(pb P E q W λv W'=>S (listed.setIfInBounds k true) W'∧PX P n ops Q S fuel (listed.setIfInBounds k true) (qu E e v) W')→
   wpOp P ops (lift n Q) k (λT O=>S (listed.setIfInBounds k true) O∧Sg P ops (lift n Q) S fuel (listed.setIfInBounds k true) T O) a W:=by
  intro k q e hk p hw w x h
  unfold wpOp
  simp only [hk]
  rw [bD (hw.of ha)]
  refine .inl ?_
  unfold Oper.wp
  rw [ha.eval]
  rcases h with ⟨v,W',h1,u⟩ | ⟨W',h1,u⟩ | ⟨f,args,h1,u⟩
  ·rw [h1,jW]; exact ⟨u.1,by rw [w]; exact u.2 (I.set p) _ (ha.put x v)⟩
  ·rw [h1,Oper.upon_skip]; exact ⟨u.1,by rw [w]; exact u.2 (I.set p) _ (ha.put x _)⟩
  ·rw [h1,jX]
   refine dA u ?_
   rintro e O ⟨v,rfl,R⟩
   exact ⟨R.1,by simp only [w]; exact R.2 (I.set p) _ (ha.put x v)⟩
 refine ⟨λY=>(by rw [Y] at z; cases z),λk hk=>?_⟩
 rw [z] at hk
 rcases aP.1 hk with rfl | hk
 ·exact key _ o d Z (by rw [z]; simp) hw w x h
 ·obtain rfl:=bO.1 hk
  exact key _ A G hj (by rw [z]; simp) M J L U
theorem lm {l:Array Bool} {i j:Nat} {A:Prop} (d:Nat.beq i j=false) (h:(l.setIfInBounds i true).getD j true=false→A):l.getD j true=false→A:=λn=>h (by
 rw [jZ true (λe=>by subst e; simp at d)]; exact n)
end
theorem Fc.at {α:Type} {e:TypeId} {enc:α→List Value} {k:Nat} {v:Value} {l:List α} {R:List (Nat×Obj)} (h:lh e enc k v l R) (hk:∀x,(enc x).length=k) {p:Value} {i:Nat} (hp:Fc R k p i) {x:α} (u:l[i]? =some x):At (GN R) p (enc x):=by
 obtain ⟨j,d,cap,rfl,rfl,_,_,_,_,rfl,n⟩:=Fh h hk hp u
 exact ⟨j,i*k,d,e,(0,0),rfl,by simp [GN],n⟩
theorem zW.form {κ β:Type} {kenc:κ→Value} {vf:β→Value} {μ:lE} {v:Value} {l:List (κ×β)} (h:zW kenc vf μ v l):∃r,v= .map r:=by
 rcases h with ⟨h,_⟩ | ⟨m,es,clock,h,_⟩
 ·exact ⟨_,h⟩
 ·exact ⟨_,h⟩
noncomputable def Lp {β:Type} (l:List (ByteArray×β)):Option (List ByteArray) :=
 if (l.map (·.1)).Nodup∧(∀p∈l,p.1.size≤maxLen)∧l.length*16≤140737488355328 then some (yF (l.map (·.1))) else none
def UN {κ κ2 β α:Type} (d:Nat) (mk:κ→κ2→α) (l:List (κ×List (κ2×β))):Option (List α) :=
 if (l.flatMap (λp=>p.2.map (λq=>mk p.1 q.1))).length*d≤140737488355328∧(l.flatMap (λp=>p.2.map (λq=>mk p.1 q.1))).length≤maxLen then some (l.flatMap (λp=>p.2.map (λq=>mk p.1 q.1))) else none
end Go.Proofs.YtjjjihkifgdhgaaGreatDoor
namespace Go.Proofs.YtjjjihkifgdhgaaGreatDoor
open Go.RowKit
variable [M:Md]
section
variable {P:Program} {n:Nat} {Q:tH} {E:Nat→Value} {W:World} {ops:Array Oper} {rest:List Oper}
variable {dd:Bool} {α:Type} {enc:α→List Value} {k:Nat} {μ:lE} {v:Value}
variable {d:Option Nat} {ty:TypeId} {pos:String} {af:Array Edge} {g:Option (Nat×Bool)} {F:Nat→Prop} {w:World} {L:List (Nat×Obj)}
theorem ZR {x y:Operand} {ats:Array TypeId} {k:IntKind} {a b:Int} (i:kP E x= .int k a) (j:kP E y= .int k b) :
  nF P E ⟨d,.call ⟨.builtin .max,#[x,y],ats⟩,ty,pos,af,g⟩ W (.int k (if b > a then b else a)) W:=by
 show (do let d ←resolve (kP E) ⟨.builtin .max,#[x,y],ats⟩ ty; invoke d.target d.args:Sem Next).run P W=_
 simp [resolve,invoke,i,j,builtin,Builtin.max_,Builtin.max2]
end
end Go.Proofs.YtjjjihkifgdhgaaGreatDoor
namespace Go.Proofs.YtjjjihkifgdhgaaGreatDoor
open Go.RowKit
variable {dd:Bool}
section
variable {P:Program} {fn:Func} {R:Ending→World→Prop} {E:Nat→Value} {W:World}
theorem zx {r0:Tmp} {t0:TypeId} {a0:Addr} {v0:Value} {r1:Tmp} {v1:Value} (i:fn.results=#[.cell r0 t0,.tmp r1]) (d:E r0= .pointer (some a0)) (n:(Instr.loadAt t0 (.pointer (some a0))).run P W= .ok v0 W) (h1:E r1=v1) (h:R (.returned (.tuple #[v0,v1])) W):Bh P fn R .ret E W :=
 ⟨.tuple #[v0,v1],λtmps j=>by
  have p:(loadVar t0 a0).run P W= .ok v0 W:=by simpa [Instr.loadAt,Instr.sureAddr] using n
  simp [results,i,j,asAddr,d,p,h1],h⟩
theorem Qo {r0:Tmp} {v0:Value} {r1:Tmp} {v1:Value} {d:Tmp} {v2:Value} (n:fn.results=#[.tmp r0,.tmp r1,.tmp d]) (i:E r0=v0) (h1:E r1=v1) (j:E d=v2) (h:R (.returned (.tuple #[v0,v1,v2])) W):Bh P fn R .ret E W :=
 ⟨.tuple #[v0,v1,v2],λtmps p=>by
  skip
  simp [results,n,p,asAddr,i,h1,j],h⟩
end
end Go.Proofs.YtjjjihkifgdhgaaGreatDoor
namespace Go.Proofs.YtjjjihkifgdhgaaGreatDoor
open Go.RowKit
variable [M:Md]
section
variable {x y:Nat×Obj} {A B C L R S:List (Nat×Obj)}
theorem Pz:(x::A).Perm (x::A):=.refl _
theorem Pb (h:A.Perm (x::B)):(y::A).Perm (x::y::B):=(h.cons y).trans (.swap ..)
theorem Pr (h:A.Perm (x::B)):(S++A).Perm (x::(S++B)):=(h.append_left S).trans fi
theorem Qz:(R++A).Perm (R++A):=.refl _
theorem Qb (h:A.Perm (R++B)):(y::A).Perm (R++(y::B)):=(h.cons y).trans List.perm_middle.symm
theorem Qr (h:A.Perm (R++B)):(S++A).Perm (R++(S++B)):=(h.append_left S).trans (gn S R B)
def pC (L L':List (Nat×Obj)):Prop:=∃M,L.Perm (L'++M)
theorem Sn:pC L []:=⟨L,.refl _⟩
theorem St:pC L L:=⟨[],by rw [aT]⟩
theorem Sb (h:L.Perm (x::A)) (k:pC A B):pC L (x::B):=let ⟨M,m⟩:=k; ⟨M,h.trans (m.cons x)⟩
theorem Sr (h:L.Perm (R++A)) (k:pC A B):pC L (R++B):=let ⟨M,m⟩:=k; ⟨M,by rw [aM]; exact h.trans (m.append_left R)⟩
theorem Kb (k:pC A B):pC (x::A) (x::B):=Sb Pz k
theorem Kr (k:pC A B):pC (R++A) (R++B):=Sr Qz k
theorem Db (k:pC A B):pC (x::A) B:=let ⟨M,m⟩:=k; ⟨x::M,(m.cons x).trans List.perm_middle.symm⟩
theorem Dr (k:pC A B):pC (R++A) B:=let ⟨M,m⟩:=k; ⟨R++M,(m.append_left R).trans (gn R B M)⟩
theorem pC.mem (s:pC L A):∀p,p∈A→p∈L:=λp hp=>let ⟨M,m⟩:=s; m.mem_iff.2 (cQ _ hp)
theorem ST.kA {dd:Bool} {F:Nat→Prop} {w W:World} {μ:lE} (h:ST dd F w W μ L) (s:pC L A):ST dd F w W μ A:=let ⟨M,m⟩:=s; (h.perm m).sublist (List.sublist_append_left A M)
theorem ql.kA {μ:lE} {W:World} (h:ql μ L W) (s:pC L A):ql μ A W:=h.sub (lx.refl _) s.mem
theorem ql.Ew {μ μ':lE} {W:World} (h:ql μ L W) (d:lx μ' μ) (s:pC L A):ql μ' A W:=h.sub d s.mem
theorem Cn:L.Perm ([]++L):=.refl _
theorem Cb (h:L.Perm (x::A)) (k:A.Perm (B++C)):L.Perm ((x::B)++C):=h.trans (k.cons x)
theorem Cr (h:L.Perm (R++A)) (k:A.Perm (B++C)):L.Perm ((R++B)++C):=by rw [aM]; exact h.trans (k.append_left R)
theorem C0 (k:L.Perm (B++C)):L.Perm (([]++B)++C):=k
theorem Cs (h:L.Perm (x::A)) (k:A.Perm (B++C)):L.Perm (([x]++B)++C):=Cb h k
theorem Tn:([]++A).Perm A:=.refl _
theorem Tb (h:(A++B).Perm C):((x::A)++B).Perm (x::C):=h.cons x
theorem Tr (h:(A++B).Perm C):((R++A)++B).Perm (R++C):=by rw [aM]; exact h.append_left R
theorem Nb (h:L.Perm (x::A)) (k:A.Perm B):L.Perm (x::B):=h.trans (k.cons x)
theorem Nr (h:L.Perm (R++A)) (k:A.Perm B):L.Perm (R++B):=h.trans (k.append_left R)
theorem Nz:L.Perm L:=.refl _
theorem Opn {R' R1:List (Nat×Obj)} (hp:R.Perm (R'++R1)):(R++A).Perm (R'++(R1++A)):=by rw [←aM]; exact hp.append_right A
theorem Mh:x∈x::A:=.head _
theorem Mt (h:x∈A):x∈y::A:=.tail _ h
theorem Ma (h:x∈A):x∈R++A:=ev _ h
theorem Ml (h:x∈R):x∈R++A:=cQ _ h
end
section
variable {dd:Bool} {F:Nat→Prop} {w W:World} {μ:lE} {L L0 L1 Y R:List (Nat×Obj)}
theorem ST.RH (h:ST dd mN w W μ L) (s:pC L L1):xv dd [] L1 w W:=let ⟨_,m⟩:=s; (h.perm m).aao
theorem ST.nK (h:ST dd (keys L0) w W μ L) (s:pC L L1):xv dd L0 L1 w W:=let ⟨_,m⟩:=s; (h.perm m).aau
theorem ST.OT:∀{R:List (Nat×Obj)} {μ:lE},ST dd F w W μ (R++Y)→∃μ',ST dd F w W μ' Y∧lx μ μ'∧Lo F w μ μ'∧∀b o,(b,o)∈R→μ' b=some o
 | [],μ,h=>⟨μ,h,lx.refl _,Lo.refl,λ_ _ h=>by cases h⟩
 | (g,o)::R,μ,h=>by
  have d:ST dd F w W μ ([]++(g,o)::(R++Y)):=h
  obtain ⟨μ',i,a2,a3,a4⟩:=ST.OT (R:=R) (ST.Ni (A:=[]) d)
  refine ⟨μ',i,(ST.MU (A:=[]) d).trans a2,(ST.UU (A:=[]) d).trans a3,λb j hb=>?_⟩
  rcases aP.1 hb with hb | hb
  ·cases hb; exact a2 _ _ (bD rfl)
  ·exact a4 b j hb
theorem ST.VJ {α:Type} {e':TypeId} {enc:α→List Value} {k:Nat} {v:Value} {l:List α} (d:ST dd F w W μ (R++Y)) (h:lh e' enc k v l R) (hk:∀x,(enc x).length=k):∃μ',ST dd F w W μ' Y∧lx μ μ'∧Lo F w μ μ'∧Sl (Pl enc) k μ' v l:=by
 obtain ⟨μ',i,a2,a3,a4⟩:=ST.OT d
 exact ⟨μ',i,a2,a3,h.sl hk a4⟩
section
variable {P:Program} {n:Nat} {Q:tH} {E:Nat→Value} {V:World} {id:Nat} {l:List Oper} {A B C:List (Nat×Obj)}
theorem lU (i:ql μ A V.drew) (hm:P.follows .mixedOrders=true) (h:PX P n l.toArray Q (λ_ W=>ql μ A W) l.length (Array.replicate l.length false) E V.drew) (d:SK l=true:=by kernel_rfl):CW P n (.region id l.toArray true) Q E V:=PS _ hm h d
theorem rC (i:Nat) (j:ql μ A V.drew) (h1:ql μ B V.drew) (hm:P.follows .mixedOrders=true) (h:PX P n l.toArray Q (λl W=>ql μ A W∧(l.getD i true=false→ql μ B W)) l.length (Array.replicate l.length false) E V.drew) (d:SK l=true:=by kernel_rfl):CW P n (.region id l.toArray true) Q E V:=PS _ hm h d
end
structure pn (μ:lE) (L0:List (Nat×Obj)) (w:World):Prop where
 H:I4 L0 w
 N:(L0.map (·.1)).Nodup
 S:lx μ (ya w L0)
theorem ST.MC (h:pn μ L0 w):ST dd (keys L0) w w μ L0:=(ST.ZG h.H h.N).nx h.S
end
section
variable {dd:Bool} {P:Program} {E:Nat→Value} {W:World} {d:Option Nat} {ty:TypeId} {pos:String} {af:Array Edge} {g:Option (Nat×Bool)} {F:Nat→Prop} {w:World} {μ:lE} {L:List (Nat×Obj)}
theorem lA {K:Value→World→Prop} {B:List (Nat×Obj)} {t:TypeId} {x y:Operand} (v:Value) {b off:Nat} {cs:Array Value} {T:TypeId} (i:Array Value) (j:ST dd F w W μ ((b,.cells cs T (0,0))::B)) (A:kP E x= .pointer (some ⟨b,off,none⟩)) (G:kP E y=v) (n:∀w,(sizeOf t).run P w= .ok v.cells.size w) (h1:∀u∈v.cells.toList,u.oneCell'=true) (z:off+v.cells.size≤cs.size) (p:(cs.toList.take off++v.cells.toList++cs.toList.drop (off+v.cells.size)).toArray=i) (h:∀W',ST dd F w W' μ ((b,.cells i T (0,0))::B)→K undef W'):pb P E ⟨d,.store t x y,ty,pos,af,g⟩ W K:=Ya [] v i j A G n h1 z p h
end
section
variable {dd:Bool}
variable {P:Program} {n:Nat} {Q:tH} {E:Nat→Value} {W:World} {ops:Array Oper} {rest:List Oper}
 {d:Option Nat} {ty:TypeId} {pos:String} {af:Array Edge} {g:Option (Nat×Bool)}
 {F:Nat→Prop} {w:World} {μ:lE} {L:List (Nat×Obj)}
theorem qF {K:Value→World→Prop} {α:Type} {e t:TypeId} {enc:α→List Value} {k j:Nat} {z v vs:Value} {l m r:List α} {R Y:List (Nat×Obj)} {x y:Operand} {i:TypeInfo} (n:ST dd F w W μ (R++Y)) (hk:∀x,(enc x).length=k) (A:0 < k) (h1:∀x,∀u∈enc x,u.oneCell'=true) (Q:P.underlying t=some (.slice e)) (M:P.info? e=some i) (Z:i.zero=some z) (I:z.cells.size=k) (G:i.size=k) (p:i.bytes=j) (T:kP E x=v) (U:kP E y=vs) (L:lh e enc k v l R) (O:Sl (Pl enc) k (hp W) vs m) (hb:nm j l m=some r) (h:∀W' J R',ST dd F w W' μ (R'++Y)→lh e enc k J r R'→K J W'):pb P E ⟨d,.call ⟨.builtin .append,#[x,y],#[t,t]⟩,ty,pos,af,g⟩ W K :=
 Pc [] n hk A h1 Q M Z I G p T U L O hb h
end
section
variable {dd:Bool}
variable {P:Program} {E:Nat→Value} {W:World} {d:Option Nat} {ty:TypeId} {pos:String} {af:Array Edge} {g:Option (Nat×Bool)}
 {F:Nat→Prop} {w:World} {μ:lE} {L:List (Nat×Obj)}
theorem Sp {K:Value→World→Prop} {α:Type} {e:TypeId} {enc:α→List Value} {k:Nat} {l:List α} {f:FuncId} {fv:Operand} {ax:Array Operand} {ats:Array TypeId} {caps:Array Value} {args:List Value} (Y:List (Nat×Obj)) (i:ST dd F w W μ Y) (n:kP E fv= .func (.func f) #[] caps) (he:∀args w,(callFunc f args).run P w= .ok (.enter f args) w) (ha:ax.map (kP E)++caps=args.toArray) (j:pH dd P f args W e enc k l) (h:∀W' v μ' R,ST dd F w W' μ' (R++Y)→lx μ μ'→Lo F w μ μ'→lh e enc k v l R→K v W'):pb P E ⟨d,.call ⟨.value fv,ax,ats⟩,ty,pos,af,g⟩ W K :=
 SL [] Y i n he ha j h
end
section
variable {dd:Bool}
variable {P:Program} {E:Nat→Value} {W:World} {d:Option Nat} {ty:TypeId} {pos:String} {af:Array Edge} {g:Option (Nat×Bool)}
 {F:Nat→Prop} {w:World} {μ:lE} {L:List (Nat×Obj)} {α:Type} {e':TypeId} {enc:α→List Value} {k:Nat} {v:Value} {l:List α} {R:List (Nat×Obj)}
theorem pD {K:Value→World→Prop} {Y:List (Nat×Obj)} {t:TypeId} {x y:Operand} {p u:Value} {i:Nat} {x0 x1:α} (j:ST dd F w W μ (R++Y)) (h:lh e' enc k v l R) (hk:∀x,(enc x).length=k) (h1:∀x,∀u∈enc x,u.oneCell'=true) (G:kP E x=p) (I:kP E y=u) (hu:u.cells=(enc x1).toArray) (hp:Fc R k p i) (A:l[i]? =some x0) (z:∀w,(sizeOf t).run P w= .ok k w) (n:∀W' R',ST dd F w W' μ (R'++Y)→lh e' enc k v (l.set i x1) R'→K undef W'):pb P E ⟨d,.store t x y,ty,pos,af,g⟩ W K :=
 SV [] j h hk h1 G I hu hp A z n
end
section
variable {dd:Bool}
variable {P:Program} {E:Nat→Value} {W:World} {d:Option Nat} {ty:TypeId} {pos:String} {af:Array Edge} {g:Option (Nat×Bool)}
 {F:Nat→Prop} {w:World} {μ:lE} {L:List (Nat×Obj)} {α:Type} {e':TypeId} {enc:α→List Value} {k:Nat} {v:Value} {l:List α} {R:List (Nat×Obj)}
theorem GU {K:Value→World→Prop} (z:α) {Y:List (Nat×Obj)} {t e:TypeId} {x:Operand} {u n:Value} {i:Nat} (j:ST dd F w W μ (R++Y)) (h:lh e' enc k v l R) (hk:∀x,(enc x).length=k) (h1:∀x,∀u∈enc x,u.oneCell'=true) (G:P.underlying t=some (.slice e)) (J:∀w,(zeroValue e).run P w= .ok n w) (hu:EY k v i u) (A:n.cells=(enc z).toArray) (I:kP E x=u) (p:∀W' R',ST dd F w W' μ (R'++Y)→lh e' enc k v (rj l i z) R'→K (.tuple #[]) W'):pb P E ⟨d,.call ⟨.builtin .clear,#[x],#[t]⟩,ty,pos,af,g⟩ W K :=
 QX z [] j h hk h1 G J hu A I p
end
section
variable {dd:Bool}
variable {κ γ:Type} {Q:Value→γ→List (Nat×Obj)→Prop} {beq:κ→κ→Bool} {kenc:κ→Value}
variable {P:Program} {W:World} {kt:TypeId} {E:Nat→Value} {d:Option Nat} {ty:TypeId} {pos:String} {af:Array Edge} {g:Option (Nat×Bool)} {F:Nat→Prop} {w:World} {μ:lE} {L:List (Nat×Obj)}
variable {κ2 β:Type} {kenc2:κ2→Value} {vf:β→Value} {beq2:κ2→κ2→Bool} {kt2:TypeId}
theorem TM {n:Value→World→Prop} {Y R:List (Nat×Obj)} {t e:TypeId} {m x y:Operand} {z:Value} {j:List (κ×Value)} {l u:List (κ×List (κ2×β))} {k:κ} {p:κ2} {v:β} (hk:∀{x y:κ},beq x y=true→x=y) (K:sG P kt2 kenc2 beq2) (I:P.underlying t=some (.map kt2 e)) (i:ST dd F w W μ (R++Y)) (h:oP kenc (nz kenc2 vf) z j l R) (hm:kP E m=uG beq j k (.map none)) (J:kP E x=kenc2 p) (L:kP E y=vf v) (G:KB beq beq2 l k p v=some u) (A:∀W' R',ST dd F w W' μ (R'++Y)→oP kenc (nz kenc2 vf) z j u R'→n undef W'):pb P E ⟨d,.mapUpdate t m x y,ty,pos,af,g⟩ W n :=
 U9 [] hk K I i h hm J L G A
end
section
variable {dd:Bool}
variable {κ γ:Type} {Q:Value→γ→List (Nat×Obj)→Prop} {beq:κ→κ→Bool} {kenc:κ→Value}
variable {P:Program} {W:World} {kt:TypeId} {E:Nat→Value} {d:Option Nat} {ty:TypeId} {pos:String} {af:Array Edge} {g:Option (Nat×Bool)} {F:Nat→Prop} {w:World} {μ:lE} {L:List (Nat×Obj)}
variable {κ2 β:Type} {kenc2:κ2→Value} {vf:β→Value} {beq2:κ2→κ2→Bool} {kt2:TypeId}
theorem Vj {n:Value→World→Prop} {Y R R2:List (Nat×Obj)} {t e:TypeId} {m x y:Operand} {j:Value} {v:List (κ×Value)} {l p:List (κ×γ)} {k:κ} {u:Value} {z:γ} (K:sG P kt kenc beq) (J:P.underlying t=some (.map kt e)) (i:ST dd F w W μ (R++(R2++Y))) (h:oP kenc Q j v l R) (hm:kP E m=j) (L:kP E x=kenc k) (M:kP E y=u) (I:Q u z R2) (G:La beq l k z=some p) (A:∀W' R',ST dd F w W' μ (R'++Y)→oP kenc Q j (qK beq v k u) p R'→n undef W'):pb P E ⟨d,.mapUpdate t m x y,ty,pos,af,g⟩ W n :=
 T4 [] K J i h hm L M I G A
end
section
variable {dd:Bool}
variable {κ γ:Type} {Q:Value→γ→List (Nat×Obj)→Prop} {beq:κ→κ→Bool} {kenc:κ→Value}
variable {P:Program} {W:World} {kt:TypeId} {E:Nat→Value} {d:Option Nat} {ty:TypeId} {pos:String} {af:Array Edge} {g:Option (Nat×Bool)} {F:Nat→Prop} {w:World} {μ:lE} {L:List (Nat×Obj)}
theorem Y5 {n:Value→World→Prop} {Y R R1:List (Nat×Obj)} {t e:TypeId} {m x y:Operand} {j:Value} {p:List (κ×Value)} {l:List (κ×γ)} {k:κ} {u:Value} {z:γ} (K:sG P kt kenc beq) (G:P.underlying t=some (.map kt e)) (i:ST dd F w W μ (R++(R1++Y))) (h:Tz beq kenc Q j p l k R) (hm:kP E m=j) (I:kP E x=kenc k) (J:kP E y=u) (A:Q u z R1) (v:∀W' R',ST dd F w W' μ (R'++Y)→oP kenc Q j (qK beq p k u) (qK beq l k z) R'→n undef W'):pb P E ⟨d,.mapUpdate t m x y,ty,pos,af,g⟩ W n :=
 ZX [] K G i h hm I J A v
end
section
variable {dd:Bool}
variable {κ γ:Type} {Q:Value→γ→List (Nat×Obj)→Prop} {beq:κ→κ→Bool} {kenc:κ→Value}
variable {P:Program} {W:World} {kt:TypeId} {E:Nat→Value} {d:Option Nat} {ty:TypeId} {pos:String} {af:Array Edge} {g:Option (Nat×Bool)} {F:Nat→Prop} {w:World} {μ:lE} {L:List (Nat×Obj)}
theorem SZ {p:Value→World→Prop} {Y R:List (Nat×Obj)} {t e:TypeId} {m x:Operand} {n z:Value} {x0:γ} {L:List (κ×Value)} {l:List (κ×γ)} {k:κ} (hk:∀{x y:κ},beq x y=true↔x=y) (K:sG P kt kenc beq) (G:P.underlying t=some (.map kt e)) (J:∀w,(zeroValue e).run P w= .ok z w) (j:Q z x0 []) (i:ST dd F w W μ (R++Y)) (h:oP kenc Q n L l R) (hm:kP E m=n) (I:kP E x=kenc k) (A:∀W' v u R' R1,ST dd F w W' μ (R'++(R1++Y))→Q v ((mJ beq l k).getD x0) R1→OC beq kenc Q n l k u R'→p (.tuple #[v,.int .i64 (u:Nat)]) W'):pb P E ⟨d,.mapEntry t m x,ty,pos,af,g⟩ W p :=
 Tk [] hk K G J j i h hm I A
end
section
variable {dd:Bool}
variable {κ γ:Type} {Q:Value→γ→List (Nat×Obj)→Prop} {beq:κ→κ→Bool} {kenc:κ→Value}
variable {P:Program} {W:World} {kt:TypeId} {E:Nat→Value} {d:Option Nat} {ty:TypeId} {pos:String} {af:Array Edge} {g:Option (Nat×Bool)} {F:Nat→Prop} {w:World} {μ:lE} {L:List (Nat×Obj)}
theorem Qs {p:Value→World→Prop} {Y R R1:List (Nat×Obj)} {t e:TypeId} {m s y:Operand} {n u:Value} {z:γ} {l:List (κ×γ)} {k:κ} {v:Nat} (hk:∀{x y:κ},beq x y=true↔x=y) (K:sG P kt kenc beq) (i:ST dd F w W μ (R++(R1++Y))) (h:OC beq kenc Q n l k v R) (hm:kP E m=n) (I:kP E s= .int .i64 (v:Nat)) (J:kP E y=u) (G:Q u z R1) (A:∀W' j R',ST dd F w W' μ (R'++Y)→oP kenc Q n j (qK beq l k z) R'→p undef W'):pb P E ⟨d,.entryStore t m s y,ty,pos,af,g⟩ W p :=
 Qt (e:=e) [] hk K i h hm I J G A
end
section
variable {dd:Bool}
variable {α:Type} {e:TypeId} {enc:α→List Value} {k:Nat} {v:Value} {l:List α} {R:List (Nat×Obj)}
variable {P:Program} {W:World} {E:Nat→Value} {d:Option Nat} {ty:TypeId} {pos:String} {af:Array Edge} {g:Option (Nat×Bool)} {F:Nat→Prop} {w:World} {μ:lE} {L:List (Nat×Obj)}
theorem QV {K:Value→World→Prop} {t:TypeId} {j:Nat} {z vs:Value} {m r:List α} {Y:List (Nat×Obj)} {x y:Operand} {i:TypeInfo} (n:ST dd F w W μ (R++Y)) (hk:∀x,(enc x).length=k) (A:0 < k) (h1:∀x,∀u∈enc x,u.oneCell'=true) (Q:P.underlying t=some (.slice e)) (M:P.info? e=some i) (Z:i.zero=some z) (I:z.cells.size=k) (G:i.size=k) (p:i.bytes=j) (T:kP E x=v) (U:kP E y=vs) (L:sP e enc k v l R) (O:Sl (Pl enc) k (hp W) vs m) (hb:nm j l m=some r) (h:∀W' J R',ST dd F w W' μ (R'++Y)→sP e enc k J r R'→K J W'):pb P E ⟨d,.call ⟨.builtin .append,#[x,y],#[t,t]⟩,ty,pos,af,g⟩ W K :=
 QP [] n hk A h1 Q M Z I G p T U L O hb h
end
end Go.Proofs.YtjjjihkifgdhgaaGreatDoor
namespace Go.Proofs.YtjjjihkifgdhgaaGreatDoor
open Go.RowKit
variable [M:Md]
section
variable {P:Program} {n:Nat} {Q:tH} {E:Nat→Value} {W:World} {ops:Array Oper} {rest:List Oper}
variable {d j t:Nat} {want:Bool} {v:Value} {ins:Go.Op} {ty:TypeId} {pos:String} {af:Array Edge} {A:Value→Prop}
theorem V (j:nF P E ⟨some d,ins,ty,pos,af,none⟩ W v W) (h:LW P n ops Q rest (qu E d v) W) (i:d < n:=by decide):LW P n ops Q (⟨some d,ins,ty,pos,af,none⟩::rest) E W:=IW (.inl rfl) rfl i j h
theorem VE (h:pb P E ⟨some d,ins,ty,pos,af,none⟩ W λv W'=>LW P n ops Q rest (qu E d v) W') (i:d < n:=by decide):LW P n ops Q (⟨some d,ins,ty,pos,af,none⟩::rest) E W:=VD (.inl rfl) rfl i h
theorem VO (h:pb P E ⟨none,ins,ty,pos,af,none⟩ W λ_ W'=>LW P n ops Q rest E W'):LW P n ops Q (⟨none,ins,ty,pos,af,none⟩::rest) E W:=aav (.inl rfl) rfl h
theorem VQ (j:∃p,A p∧∀W,nF P E ⟨some d,ins,ty,pos,af,none⟩ W p W) (h:∀p,A p→LW P n ops Q rest (qu E d p) W) (i:d < n:=by decide):LW P n ops Q (⟨some d,ins,ty,pos,af,none⟩::rest) E W:=aaa (.inl rfl) rfl i j h
theorem Vg (p:(ops[j]?).bind (·.dst)=some t) (i:E t= .bool want) (w:nF P E ⟨some d,ins,ty,pos,af,some (j,want)⟩ W v W) (h:LW P n ops Q rest (qu E d v) W) (x:t < n:=by decide) (u:d < n:=by decide):LW P n ops Q (⟨some d,ins,ty,pos,af,some (j,want)⟩::rest) E W:=IW (.inr ⟨j,want,t,rfl,p,x,i⟩) rfl u w h
theorem UZ (p:(ops[j]?).bind (·.dst)=some t) (i:E t= .bool want) (h:pb P E ⟨some d,ins,ty,pos,af,some (j,want)⟩ W λv W'=>LW P n ops Q rest (qu E d v) W') (w:t < n:=by decide) (u:d < n:=by decide):LW P n ops Q (⟨some d,ins,ty,pos,af,some (j,want)⟩::rest) E W:=VD (.inr ⟨j,want,t,rfl,p,w,i⟩) rfl u h
theorem VgQ (u:(ops[j]?).bind (·.dst)=some t) (i:E t= .bool want) (w:∃p,A p∧∀W,nF P E ⟨some d,ins,ty,pos,af,some (j,want)⟩ W p W) (h:∀p,A p→LW P n ops Q rest (qu E d p) W) (x:t < n:=by decide) (v:d < n:=by decide):LW P n ops Q (⟨some d,ins,ty,pos,af,some (j,want)⟩::rest) E W:=aaa (.inr ⟨j,want,t,rfl,u,x,i⟩) rfl v w h
theorem Vn (p:(ops[j]?).bind (·.dst)=some t) (i:E t= .bool (!want)) (h:LW P n ops Q rest (qu E d undef) W) (v:t < n:=by decide) (u:d < n:=by decide):LW P n ops Q (⟨some d,ins,ty,pos,af,some (j,want)⟩::rest) E W:=aaj rfl u rfl p v i h
theorem Vu (p:(ops[j]?).bind (·.dst)=some t) (i:E t=undef) (h:LW P n ops Q rest (qu E d undef) W) (v:t < n:=by decide) (u:d < n:=by decide):LW P n ops Q (⟨some d,ins,ty,pos,af,some (j,want)⟩::rest) E W:=Zw rfl u rfl p v i h
end
section
variable {P:Program} {n:Nat} {Q:tH} {E:Nat→Value} {W:World} {ops:Array Oper} {S:Array Bool→World→Prop} {fuel:Nat} {listed:Array Bool} {μ:lE} {B:List (Nat×Obj)}
variable {d j t:Nat} {want:Bool} {v:Value} {ins:Go.Op} {ty:TypeId} {pos:String} {af:Array Edge} {A:Value→Prop}
theorem X (i:Nat) (p:ops[i]? =some ⟨some d,ins,ty,pos,af,none⟩) (j:S (listed.setIfInBounds i true) W) (x:∀{W},nF P E ⟨some d,ins,ty,pos,af,none⟩ W v W) (h:PX P n ops Q S fuel (listed.setIfInBounds i true) (qu E d v) W) (hk:Gq ops listed i=true:=by kernel_rfl) (hm:∀l w,S (l.setIfInBounds i true) w→S l w:=by exact λ_ _ h=>h) (u:d < n:=by decide):PX P n ops Q S (fuel+1) listed E W:=lf i p hk (.inl rfl) rfl u hm j (λ_ _ _ _=>x) h
theorem XH (i:Nat) (p:ops[i]? =some ⟨some d,ins,ty,pos,af,none⟩) (j:ql μ B W) (w:∀W,ql μ B W→nF P E ⟨some d,ins,ty,pos,af,none⟩ W v W) (h:PX P n ops Q (λ_ W=>ql μ B W) fuel (listed.setIfInBounds i true) (qu E d v) W) (hk:Gq ops listed i=true:=by kernel_rfl) (u:d < n:=by decide):PX P n ops Q (λ_ W=>ql μ B W) (fuel+1) listed E W:=lf i p hk (.inl rfl) rfl u (λ_ _ h=>h) j (λ_ W _ h=>w W h) h
theorem XQ (i:Nat) (u:ops[i]? =some ⟨some d,ins,ty,pos,af,none⟩) (j:S (listed.setIfInBounds i true) W) (x:∃p,A p∧∀W,nF P E ⟨some d,ins,ty,pos,af,none⟩ W p W) (h:∀p,A p→PX P n ops Q S fuel (listed.setIfInBounds i true) (qu E d p) W) (hk:Gq ops listed i=true:=by kernel_rfl) (hm:∀l w,S (l.setIfInBounds i true) w→S l w:=by exact λ_ _ h=>h) (v:d < n:=by decide):PX P n ops Q S (fuel+1) listed E W:=oM i u hk (.inl rfl) rfl v hm j x h
theorem XE (i:Nat) (j:ops[i]? =some ⟨some d,ins,ty,pos,af,none⟩) (h:pb P E ⟨some d,ins,ty,pos,af,none⟩ W λv W'=>S (listed.setIfInBounds i true) W'∧PX P n ops Q S fuel (listed.setIfInBounds i true) (qu E d v) W') (u:Region.ready .any ops listed=[i]:=by kernel_rfl) (p:d < n:=by decide):PX P n ops Q S (fuel+1) listed E W:=Zk i j u (.inl rfl) rfl p h
theorem XO (i:Nat) (d:ops[i]? =some ⟨none,ins,ty,pos,af,none⟩) (h:pb P E ⟨none,ins,ty,pos,af,none⟩ W λ_ W'=>S (listed.setIfInBounds i true) W'∧PX P n ops Q S fuel (listed.setIfInBounds i true) E W') (j:Region.ready .any ops listed=[i]:=by kernel_rfl):PX P n ops Q S (fuel+1) listed E W:=aam i d j (.inl rfl) rfl h
theorem Xg (i:Nat) (x:ops[i]? =some ⟨some d,ins,ty,pos,af,some (j,want)⟩) (z:(ops[j]?).bind (·.dst)=some t) (p:E t= .bool want) (u:S (listed.setIfInBounds i true) W) (I:∀{W},nF P E ⟨some d,ins,ty,pos,af,some (j,want)⟩ W v W) (h:PX P n ops Q S fuel (listed.setIfInBounds i true) (qu E d v) W) (hk:Gq ops listed i=true:=by kernel_rfl) (hm:∀l w,S (l.setIfInBounds i true) w→S l w:=by exact λ_ _ h=>h) (G:t < n:=by decide) (A:d < n:=by decide):PX P n ops Q S (fuel+1) listed E W:=lf i x hk (.inr ⟨j,want,t,rfl,z,G,p⟩) rfl A hm u (λ_ _ _ _=>I) h
theorem Aj (i:Nat) (w:ops[i]? =some ⟨some d,ins,ty,pos,af,some (j,want)⟩) (x:(ops[j]?).bind (·.dst)=some t) (p:E t= .bool want) (u:ql μ B W) (G:∀W,ql μ B W→nF P E ⟨some d,ins,ty,pos,af,some (j,want)⟩ W v W) (h:PX P n ops Q (λ_ W=>ql μ B W) fuel (listed.setIfInBounds i true) (qu E d v) W) (hk:Gq ops listed i=true:=by kernel_rfl) (A:t < n:=by decide) (z:d < n:=by decide):PX P n ops Q (λ_ W=>ql μ B W) (fuel+1) listed E W:=lf i w hk (.inr ⟨j,want,t,rfl,x,A,p⟩) rfl z (λ_ _ h=>h) u (λ_ W _ h=>G W h) h
theorem Mf (i:Nat) (u:ops[i]? =some ⟨some d,ins,ty,pos,af,some (j,want)⟩) (w:(ops[j]?).bind (·.dst)=some t) (p:E t= .bool want) (h:pb P E ⟨some d,ins,ty,pos,af,some (j,want)⟩ W λv W'=>S (listed.setIfInBounds i true) W'∧PX P n ops Q S fuel (listed.setIfInBounds i true) (qu E d v) W') (z:Region.ready .any ops listed=[i]:=by kernel_rfl) (A:t < n:=by decide) (x:d < n:=by decide):PX P n ops Q S (fuel+1) listed E W:=Zk i u z (.inr ⟨j,want,t,rfl,w,A,p⟩) rfl x h
theorem Xn (i:Nat) (v:ops[i]? =some ⟨some d,ins,ty,pos,af,some (j,want)⟩) (x:(ops[j]?).bind (·.dst)=some t) (p:E t= .bool (!want)) (u:S (listed.setIfInBounds i true) W) (h:PX P n ops Q S fuel (listed.setIfInBounds i true) (qu E d undef) W) (hk:Gq ops listed i=true:=by kernel_rfl) (hm:∀l w,S (l.setIfInBounds i true) w→S l w:=by exact λ_ _ h=>h) (A:t < n:=by decide) (z:d < n:=by decide):PX P n ops Q S (fuel+1) listed E W:=aaD i v hk rfl x A p rfl z hm u h
theorem Xu (i:Nat) (v:ops[i]? =some ⟨some d,ins,ty,pos,af,some (j,want)⟩) (x:(ops[j]?).bind (·.dst)=some t) (p:E t=undef) (u:S (listed.setIfInBounds i true) W) (h:PX P n ops Q S fuel (listed.setIfInBounds i true) (qu E d undef) W) (hk:Gq ops listed i=true:=by kernel_rfl) (hm:∀l w,S (l.setIfInBounds i true) w→S l w:=by exact λ_ _ h=>h) (A:t < n:=by decide) (z:d < n:=by decide):PX P n ops Q S (fuel+1) listed E W:=Za i v hk rfl x A p rfl z hm u h
end
end Go.Proofs.YtjjjihkifgdhgaaGreatDoor
namespace Go.Proofs.YtjjjihkifgdhgaaGreatDoor
open Go.RowKit
section
variable {α β γ:Type}
inductive sD (Q:α→β→Prop):List α→List β→Prop
 | nil:sD Q [] []
 | cons {a:α} {b:β} {l:List α} {m:List β}:Q a b→sD Q l m→sD Q (a::l) (b::m)
namespace sD
variable {Q Q':α→β→Prop}
theorem length {l:List α} {m:List β} (h:sD Q l m):l.length=m.length:=by
 induction h with
 | nil=>rfl
 | cons _ _ ih=>simp [ih]
theorem imp {l:List α} {m:List β} (h:sD Q l m) (d:∀a b,Q a b→Q' a b):sD Q' l m:=by
 induction h with
 | nil=>exact .nil
 | cons h1 _ ih=>exact .cons (d _ _ h1) ih
theorem get {l:List α} {m:List β} (h:sD Q l m):∀{i:Nat} {b:β},m[i]? =some b→∃a,l[i]? =some a∧Q a b:=by
 induction h with
 | nil=>intro i b hb; simp at hb
 | cons h1 _ ih=>
  intro i b hb
  cases i with
  | zero=>simp at hb; subst hb; exact ⟨_,rfl,h1⟩
  | succ i=>simpa using ih (by simpa using hb)
theorem append {l d:List α} {m i:List β} (h:sD Q l m) (j:sD Q d i):sD Q (l++d) (m++i):=by
 induction h with
 | nil=>exact j
 | cons h1 _ ih=>exact .cons h1 ih
theorem set {l:List α} {m:List β} (h:sD Q l m) {a:α} {b:β} (j:Q a b):∀i:Nat,sD Q (l.set i a) (m.set i b):=by
 induction h with
 | nil=>intro i; exact .nil
 | cons h1 d ih=>
  intro i
  cases i with
  | zero=>exact .cons j d
  | succ i=>exact .cons h1 (ih i)
theorem take {l:List α} {m:List β} (h:sD Q l m):∀i:Nat,sD Q (l.take i) (m.take i):=by
 induction h with
 | nil=>intro i; simp; exact .nil
 | cons h1 _ ih=>
  intro i
  cases i with
  | zero=>exact .nil
  | succ i=>exact .cons h1 (ih i)
theorem drop {l:List α} {m:List β} (h:sD Q l m):∀i:Nat,sD Q (l.drop i) (m.drop i):=by
 induction h with
 | nil=>intro i; simp; exact .nil
 | cons h1 d ih=>
  intro i
  cases i with
  | zero=>exact .cons h1 d
  | succ i=>exact ih i
end sD
theorem GK {P:Nat→β→α→Prop}:∀{m:List β} (o:Nat),(∀(i:Nat) (b:β),m[i]? =some b→∃a,P (o+i) b a)→∃l:List α,l.length=m.length∧∀(i:Nat) (b:β),m[i]? =some b→∃a,l[i]? =some a∧P (o+i) b a
 | [],_,_=>⟨[],rfl,λi b h=>by simp at h⟩
 | b::m,o,h=>by
  obtain ⟨a,ha⟩:=h 0 b rfl
  obtain ⟨l,h1,j⟩:=GK (m:=m) (o+1) (λi b hb=>by
   obtain ⟨a,ha⟩:=h (i+1) b (by simpa using hb)
   exact ⟨a,by rw [show o+1+i=o+(i+1) by omega]; exact ha⟩)
  refine ⟨a::l,by simp [h1],λi c d=>?_⟩
  cases i with
  | zero=>simp at d; subst d; exact ⟨a,rfl,ha⟩
  | succ i=>
   obtain ⟨x,n,hp⟩:=j i c (by simpa using d)
   exact ⟨x,by simpa using n,by rw [show o+(i+1)=o+1+i by omega]; exact hp⟩
theorem sD.Vd {Q:α→β→Prop}:∀{l:List α} {m:List β},l.length=m.length→(∀(i:Nat) (a:α) (b:β),l[i]? =some a→m[i]? =some b→Q a b)→sD Q l m
 | [],[],_,_=>.nil
 | [],_::_,h,_=>by cases h
 | _::_,[],h,_=>by cases h
 | a::l,b::m,h,d=>.cons (d 0 a b rfl rfl) (sD.Vd (by simpa using h) (λi x y j n=>d (i+1) x y (by simpa using j) (by simpa using n)))
end
structure Deep {β:Type} (R:tu β) (k:Nat):Prop where
 mono:Oz R
 len:∀{μ ys x},R μ ys x→ys.length=k
 one:∀{μ ys x},R μ ys x→∀u∈ys,u.oneCell'=true
abbrev AN (k:Nat):={ys:List Value // ys.length=k∧∀u∈ys,u.oneCell'=true}
def yS {k:Nat} (c:AN k):List Value:=c.1
theorem Dp {k:Nat} (x:AN k):(yS x).length=k:=x.2.1
theorem VR {k:Nat} (x:AN k):∀u∈yS x,u.oneCell'=true:=x.2.2
theorem Sl.yW {α:Type} {R:tu α} {k:Nat} {μ:lE} {v:Value} {l:List α} (h:Sl R k μ v l):v.oneCell'=true:=by
 obtain ⟨A,c,rfl,_⟩:=h; rfl
section
variable {β:Type} {Rl:tu β} {k:Nat} {μ μ':lE} {v:Value} {l:List β}
def Deep.cell (d:Deep Rl k) {ys:List Value} {x:β} (h:Rl μ ys x):AN k:=⟨ys,d.len h,d.one h⟩
theorem Sl.raw (M:Deep Rl k) (h:Sl Rl k μ v l):∃cl:List (AN k),Sl (Pl yS) k μ v cl∧sD (λc x=>Rl μ c.1 x) cl l:=by
 obtain ⟨A,c,rfl,h1,G,J⟩:=h
 cases l with
 | nil=>exact ⟨[],⟨A,c,rfl,h1,G,λh=>absurd h (by simp)⟩,.nil⟩
 | cons x0 l=>
  obtain ⟨b,off,cs,T,fr,rfl,hb,L⟩:=J (by simp)
  obtain ⟨cl,w,E⟩:=GK (P:=λi x (c:AN k)=>Rl μ c.1 x∧∀j y,c.1[j]? =some y→cs[off+i*k+j]? =some y) (m:=x0::l) 0 (λi x z=>by
   obtain ⟨ys,_,n,p⟩:=L i x z
   exact ⟨M.cell n,n,by rw [eO]; exact p⟩)
  refine ⟨cl,⟨_,c,by rw [w],by omega,G,λ_=>⟨b,off,cs,T,fr,rfl,hb,λi c u=>?_⟩⟩,sD.Vd w (λi c x u z=>?_)⟩
  ·have O:i < (x0::l).length:=by rw [←w]; exact (bQ.1 u).1
   obtain ⟨I,d,_,p⟩:=E i _ (dy O)
   rw [u] at d; cases d
   exact ⟨c.1,c.2.1,rfl,by rw [eO] at p; exact p⟩
  ·obtain ⟨I,d,n,_⟩:=E i x z
   rw [u] at d; cases d
   exact n
theorem Sl.Ug {cl:List (AN k)} (h:Sl (Pl yS) k μ v cl) (I:lx μ μ') (ha:sD (λc x=>Rl μ' c.1 x) cl l):Sl Rl k μ' v l:=by
 obtain ⟨A,c,rfl,h1,u,w⟩:=h
 have d:=ha.length
 refine ⟨A,c,by rw [d],by omega,u,λL=>?_⟩
 obtain ⟨b,off,cs,T,fr,rfl,hb,z⟩:=w (by omega)
 refine ⟨b,off,cs,T,fr,rfl,I _ _ hb,λi x J=>?_⟩
 obtain ⟨c,E,G⟩:=ha.get J
 obtain ⟨ys,j,n,p⟩:=z i c E
 cases n
 exact ⟨yS c,j,G,p⟩
def Dj (Rl:tu β) (k:Nat) (μ:lE) (W:World) (v:Value) (l:List β):Prop:=∃cl:List (AN k),Sl (Pl yS) k (hp W) v cl∧sD (λc x=>Rl μ c.1 x) cl l
theorem Dj.sl (i:Deep Rl k) {W:World} (h:Sl Rl k μ v l) (j:lx μ (hp W)):Dj Rl k μ W v l:=by
 obtain ⟨cl,h1,d⟩:=h.raw i
 exact ⟨cl,h1.mono (Pl.mono _) j,d⟩
theorem Sl.VS {b m:Nat} {cl:List (AN k)} {cs:Array Value} {e:TypeId} (hm:cl.length=m) (d:m≤maxLen) (n:cs.toList=(cl.map yS).flatten) (hb:μ b=some (.cells cs e (0,0))):Sl (Pl yS) k μ (.slice (some ⟨b,0,none⟩) m m) cl:=by
 subst hm
 refine ⟨_,_,rfl,aR _,d,λ_=>⟨b,0,_,_,_,rfl,hb,λi x p=>⟨yS x,Dp x,rfl,λj y u=>?_⟩⟩⟩
 have:=As Dp cl i x p j y u
 rw [←n] at this
 simpa using this
inductive Hp (Rl:tu β) (k:Nat) (μ:lE):List Value→List β→Prop
 | nil:Hp Rl k μ [] []
 | cons {ys zs:List Value} {x:β} {l:List β}:Rl μ ys x→Hp Rl k μ zs l→Hp Rl k μ (ys++zs) (x::l)
theorem Hp.cells (i:Deep Rl k) {ys:List Value} (h:Hp Rl k μ ys l):∃cl:List (AN k),(cl.map yS).flatten=ys∧sD (λc x=>Rl μ c.1 x) cl l:=by
 induction h with
 | nil=>exact ⟨[],rfl,.nil⟩
 | cons h1 _ ih=>
  obtain ⟨cl,e,d⟩:=ih
  exact ⟨i.cell h1::cl,by rw [aU,aV,e]; rfl,.cons h1 d⟩
theorem Dj.lit (j:Deep Rl k) {W:World} {b m:Nat} {ys:List Value} {e:TypeId} (h:Hp Rl k μ ys l) (hm:l.length=m) (n:m≤maxLen) (hb:W.heap[b]? =some (.cells ys.toArray e (0,0))):Dj Rl k μ W (.slice (some ⟨b,0,none⟩) m m) l:=by
 obtain ⟨cl,i,d⟩:=h.cells j
 exact ⟨cl,Sl.VS (by rw [d.length]; exact hm) n i.symm hb,d⟩
theorem Sl.imp {R R':tu β} (h:Sl R k μ v l) (z:∀ys x,R μ ys x→R' μ ys x):Sl R' k μ v l:=by
 obtain ⟨A,c,rfl,h1,d,j⟩:=h
 refine ⟨A,c,rfl,h1,d,λE=>?_⟩
 obtain ⟨b,off,cs,T,fr,rfl,hb,n⟩:=j E
 exact ⟨b,off,cs,T,fr,rfl,hb,λi x G=>let ⟨ys,p,u,w⟩:=n i x G; ⟨ys,p,z _ _ u,w⟩⟩
theorem Jh:∀(l:List Nat) (n:Nat),n∈l→n≤l.foldr max 0
 | [],n,h=>by cases h
 | a::l,n,h=>by
  rcases aP.1 h with rfl | h
  ·exact Nat.le_max_left _ _
  ·exact dx (Jh l n h) (Nat.le_max_right _ _)
theorem Sl.aaF {R:tu β} {d:Nat→tu β} (h:Sl R k μ v l) (O:∀ys x,R μ ys x→∃n,d n μ ys x) (up:∀n m ys x,n≤m→d n μ ys x→d m μ ys x):∃n,Sl (d n) k μ v l:=by
 obtain ⟨A,c,rfl,h1,G,L⟩:=h
 by_cases I:0 < l.length
 ·obtain ⟨b,off,cs,T,fr,rfl,hb,M⟩:=L I
  obtain ⟨ps,U,J⟩:=GK (P:=λi x (p:Nat×List Value)=>p.2.length=k∧d p.1 μ p.2 x∧∀j y,p.2[j]? =some y→cs[off+i*k+j]? =some y) (m:=l) 0 (λi x E=>by
   obtain ⟨ys,w,z,u⟩:=M i x E
   obtain ⟨n,Q⟩:=O _ _ z
   exact ⟨(n,ys),w,Q,by rw [eO]; exact u⟩)
  refine ⟨(ps.map (·.1)).foldr max 0,_,c,rfl,h1,G,λ_=>⟨b,off,cs,T,fr,rfl,hb,λi x E=>?_⟩⟩
  obtain ⟨p,hp,w,z,u⟩:=J i x E
  exact ⟨p.2,w,up _ _ _ _ (Jh _ _ (aS.2 ⟨p,cX hp,rfl⟩)) z,by rw [eO] at u; exact u⟩
 ·exact ⟨0,A,c,rfl,h1,G,λh=>absurd h I⟩
def mn (e:TypeId) (Rl:tu β) (k:Nat) (μ:lE) (v:Value) (l:List β) (B:List (Nat×Obj)):Prop:=∃cl:List (AN k),lh e yS k v cl B∧sD (λc x=>Rl μ c.1 x) cl l
variable {e:TypeId} {B:List (Nat×Obj)}
theorem mn.mono (i:Deep Rl k) (h:mn e Rl k μ v l B) (j:lx μ μ'):mn e Rl k μ' v l B:=by
 obtain ⟨cl,h1,d⟩:=h
 exact ⟨cl,h1,d.imp (λ_ _ h=>i.mono _ _ _ _ j h)⟩
theorem mn.nil (e:TypeId) (Rl:tu β) (k:Nat) (μ:lE):mn e Rl k μ (.slice none 0 0) [] []:=⟨[],lh.nil _ _ _,.nil⟩
theorem mn.lit (j:Deep Rl k) {b m:Nat} {ys:List Value} (h:Hp Rl k μ ys l) (hm:l.length=m) (n:m≤maxLen) (p:ys.length=m*k):mn e Rl k μ (.slice (some ⟨b,0,none⟩) m m) l [(b,.cells ys.toArray e (0,0))]:=by
 obtain ⟨cl,i,d⟩:=h.cells j
 exact ⟨cl,lh.lit (by rw [d.length]; exact hm) n i.symm (by simpa using p),d⟩
theorem mn.form (h:mn e Rl k μ v l B):∃A c,v= .slice A l.length c:=by
 obtain ⟨cl,h1,d⟩:=h
 rw [←d.length]; exact h1.form
theorem mn.len (h:mn e Rl k μ v l B):l.length≤9223372036854775807:=by
 obtain ⟨cl,h1,d⟩:=h
 rw [←d.length]; exact h1.len
theorem mn.nd (h:mn e Rl k μ v l B):(B.map (·.1)).Nodup:=let ⟨_,h1,_⟩:=h; h1.nd
theorem mn.isNil {n c:Nat} (h:mn e Rl k μ (.slice none n c) l B):l=[]:=by
 obtain ⟨cl,h1,d⟩:=h
 have:=d.length
 rw [h1.isNil] at this
 exact aJ this.symm
theorem mn.sl (h:mn e Rl k μ v l B) (i:Deep Rl k) (j:lx μ μ') (hm:∀b o,(b,o)∈B→μ' b=some o):Sl Rl k μ' v l:=by
 obtain ⟨cl,h1,d⟩:=h
 exact Sl.Ug (h1.sl Dp hm) (lx.refl _) (d.imp (λ_ _ h=>i.mono _ _ _ _ j h))
end
section
variable {β:Type} {Rl:tu β} {k:Nat} {μ:lE} {v:Value} {l:List β} {e:TypeId} {B:List (Nat×Obj)}
variable {dd:Bool} {F:Nat→Prop} {w W:World} {L:List (Nat×Obj)}
theorem mn.slM (h:mn e Rl k μ v l B) (i:Deep Rl k) (d:ST dd F w W μ L) (j:∀p,p∈B→p∈L):Sl Rl k (hp W) v l:=h.sl i d.kC (λ_ _ hb=>d.at_ (j _ hb))
theorem Dj.row (h:mn e Rl k μ v l B) (d:ST dd F w W μ L) (j:∀p,p∈B→p∈L):Dj Rl k μ W v l:=let ⟨cl,h1,i⟩:=h; ⟨cl,h1.slM Dp d j,i⟩
theorem mn.Xc (h:mn e Rl k μ v l B) (d:ST dd mN w W μ L) (i:∀p,p∈B→p∈L):Fr w.heap.size v:=let ⟨_,h1,_⟩:=h; h1.Xc d i
theorem ST.CO {Y:List (Nat×Obj)} (n:Deep Rl k) (d:ST dd F w W μ (B++Y)) (h:mn e Rl k μ v l B):∃μ',ST dd F w W μ' Y∧lx μ μ'∧Lo F w μ μ'∧Sl Rl k μ' v l:=by
 obtain ⟨cl,h1,j⟩:=h
 obtain ⟨μ',i,a2,a4,a3⟩:=ST.VJ d h1 Dp
 exact ⟨μ',i,a2,a4,Sl.Ug a3 (lx.refl _) (j.imp (λ_ _ h=>n.mono _ _ _ _ a2 h))⟩
variable {P:Program} {E:Nat→Value} {d:Option Nat} {ty:TypeId} {pos:String} {af:Array Edge} {g:Option (Nat×Bool)}
theorem nN {t e':TypeId} {x j:Operand} {R:IntKind} {i:Int} {x0:β} {A:List Value→Prop} (L:∀{ys},Rl μ ys x0→A ys) (O:P.underlying t=some (.slice e')) (he:∀w,(sizeOf e').run P w= .ok k w) (Q:kP E x=v) (I:kP E j= .int R i) (M:Sl Rl k μ v l) (n:0≤i) (J:l[i.toNat]? =some x0) :
  ∃p,(∃ys,A ys∧At μ p ys)∧∀W,nF P E ⟨d,.indexAddr t x j,ty,pos,af,g⟩ W p W:=by
 obtain ⟨p,ys,_,u,z,G⟩:=RV (d:=d) (ty:=ty) (pos:=pos) (af:=af) (g:=g) O he Q I M n J
 exact ⟨p,⟨ys,L u,z⟩,G⟩
theorem AE {x:Operand} {t e':TypeId} (i:P.underlying t=some (.slice e')) (j:kP E x=v) (h:mn e Rl k μ v l B):nF P E ⟨d,.call ⟨.builtin .len,#[x],#[t]⟩,ty,pos,af,g⟩ W (.int .i64 l.length) W:=by
 obtain ⟨A,c,rfl⟩:=h.form
 exact Hl i j
theorem nj {t e':TypeId} {x u:Operand} {T:IntKind} {i:Int} {x0:β} {A:List Value→Prop} (M:∀{ys},Rl μ ys x0→A ys) (Q:P.underlying t=some (.slice e')) (he:∀w,(sizeOf e').run P w= .ok k w) (R:kP E x=v) (J:kP E u= .int T i) (h:mn e Rl k μ v l B) (z:0≤i) (L:l[i.toNat]? =some x0) :
  ∃p,(∃ys,A ys∧At (GN B) p ys∧Fc B k p i.toNat)∧∀W,nF P E ⟨d,.indexAddr t x u,ty,pos,af,g⟩ W p W:=by
 obtain ⟨cl,h1,G⟩:=h
 obtain ⟨c,n,O⟩:=G.get L
 obtain ⟨p,j,I⟩:=lI (d:=d) (ty:=ty) (pos:=pos) (af:=af) (g:=g) Q he R J h1 z n
 exact ⟨p,⟨c.1,M O,j.at h1 Dp n,j⟩,I⟩
theorem V9 {α n:Type} {d:Nat} {l m r:List α} {i j:List n} (h:nm d l m=some r) (h1:i.length=l.length) (p:j.length=m.length):nm d i j=some (i++j)∧r=l++m:=by
 unfold nm at h ⊢
 rw [h1,p]
 split at h
 ·rename_i u; cases h; rw [bD u]; exact ⟨rfl,rfl⟩
 ·cases h
theorem vG {K:Value→World→Prop} {t:TypeId} {j:Nat} {z vs:Value} {m r:List β} {Y:List (Nat×Obj)} {x y:Operand} {i:TypeInfo} (hD:Deep Rl k) (p:ST dd F w W μ (B++Y)) (G:0 < k) (Z:P.underlying t=some (.slice e)) (T:P.info? e=some i) (hz:i.zero=some z) (J:z.cells.size=k) (I:i.size=k) (A:i.bytes=j) (hx:kP E x=v) (hy:kP E y=vs) (R:mn e Rl k μ v l B) (U:Dj Rl k μ W vs m) (hb:nm j l m=some r) (h:∀W' n R',ST dd F w W' μ (R'++Y)→mn e Rl k μ n r R'→K n W'):pb P E ⟨d,.call ⟨.builtin .append,#[x,y],#[t,t]⟩,ty,pos,af,g⟩ W K:=by
 obtain ⟨cl,h1,L⟩:=R
 obtain ⟨cm,Q,M⟩:=U
 obtain ⟨u,rfl⟩:=V9 hb L.length M.length
 exact qF p Dp G VR Z T hz J I A hx hy h1 Q u (λW' n R' O a2=>h W' n R' O ⟨_,a2,L.append M⟩)
theorem uc {K:Value→World→Prop} {Y:List (Nat×Obj)} {t:TypeId} {x y:Operand} {p:Value} {i:Nat} {x0 x1:β} {ys:List Value} (A:Deep Rl k) (j:ST dd F w W μ (B++Y)) (h:mn e Rl k μ v l B) (M:kP E x=p) (O:kP E y= .agg ys.toArray) (u:Rl μ ys x1) (hp:Fc B k p i) (L:l[i]? =some x0) (I:∀w,(sizeOf t).run P w= .ok k w) (G:∀W' R',ST dd F w W' μ (R'++Y)→mn e Rl k μ v (l.set i x1) R'→K undef W'):pb P E ⟨d,.store t x y,ty,pos,af,g⟩ W K:=by
 obtain ⟨cl,h1,n⟩:=h
 obtain ⟨c,J,_⟩:=n.get L
 exact pD (x1:=A.cell u) j h1 Dp VR M O rfl hp J I (λW' R' z a2=>G W' R' z ⟨_,a2,n.set u i⟩)
end
end Go.Proofs.YtjjjihkifgdhgaaGreatDoor
namespace Go.Proofs.YtjjjihkifgdhgaaGreatDoor
open Go.RowKit
def ol (dd:Bool) (P:Program) (f:FuncId) (args:List Value) (w:World) (μ0:lE) (L0:List (Nat×Obj)) (K:Value→List (Nat×Obj)→lE→Prop):Prop :=
 Calls P f args.toArray w λe d=>∃v L1 μ1,e= .returned v∧xv dd L0 L1 w d∧lx μ0 μ1∧Lo (keys L0) w μ0 μ1∧lx μ1 (ya d L1)∧K v L1 μ1
theorem ol.nx {dd:Bool} {P:Program} {f:FuncId} {args:List Value} {w:World} {μ0:lE} {L0:List (Nat×Obj)} {K:Value→List (Nat×Obj)→lE→Prop} (h:ol true P f args w μ0 L0 K):ol dd P f args w μ0 L0 K :=
 dA h λ_ _ ⟨v,L1,μ1,h1,d,i⟩=>⟨v,L1,μ1,h1,d.nx,i⟩
section
variable {dd:Bool} {F:Nat→Prop} {w W W':World} {μ μ1:lE} {L L0 L1 L2:List (Nat×Obj)}
theorem ST.aab (h:ST dd F w W μ (L0++L)) (hb:xv dd L0 L1 W W') (n:Lo (keys L0) W μ μ1) (j:lx μ1 (ya W' L1)):ST dd F w W' μ1 (L1++L):=by
 have h1:=h.back hb
 refine ⟨h1.os,h1.tape,h1.output,h1.drawn,h1.size,h1.nL,λb o hm=>?_,λb o d=>?_,h1.nd⟩
 ·have:=j b o hm
  unfold ya at this
  split at this
  ·cases this
  ·exact this
 ·obtain ⟨p,v,u⟩:=h1.box b o d
  refine ⟨p,?_,u⟩
  rcases aO.1 d with d | d
  ·cases hm:μ1 b with
   | none=>rfl
   | some x=>
    have:=j b x hm
    unfold ya at this
    rw [bD ⟨o,d⟩] at this
    cases this
  ·have i:=h.box b o (ev _ d)
   rw [n b (qD i.1) (Jt h.nd d)]
   exact i.2.1
variable {P:Program} {E:Nat→Value} {d:Option Nat} {ty:TypeId} {pos:String} {af:Array Edge} {g:Option (Nat×Bool)}
theorem WL {K:Value→World→Prop} {K':Value→List (Nat×Obj)→lE→Prop} {f:FuncId} {fv:Operand} {ax:Array Operand} {ats:Array TypeId} {caps:Array Value} {args:List Value} (L0 L2:List (Nat×Obj)) (i:ST dd F w W μ L) (j:L.Perm (L0++L2)) (J:kP E fv= .func (.func f) #[] caps) (he:∀args w,(callFunc f args).run P w= .ok (.enter f args) w) (ha:ax.map (kP E)++(#[]:Array Value)=args.toArray) (I:I4 L0 W→(L0.map (·.1)).Nodup→lx μ (ya W L0)→(∀b o,(b,o)∈L2→ya W L0 b=some o)→ol dd P f (args++caps.toList) W μ L0 K') (h:∀W' v μ' L1,ST dd F w W' μ' (L1++L2)→lx μ μ'→Lo F w μ μ'→K' v L1 μ'→K v W'):pb P E ⟨d,.call ⟨.value fv,ax,ats⟩,ty,pos,af,g⟩ W K:=by
 have n:ax.map (kP E)=args.toArray:=by simpa using ha
 refine G4 (args:=(args++caps.toList).toArray) J he (by rw [n]; simp) (dA (I (i.held j) (i.Zf j) (i.ZT j) (i.R4 j)) (λ_ W' ⟨v,L1,μ1,h1,u,x,p,z,A⟩=>⟨v,h1,h W' v μ1 L1 ((i.perm j).aab u p z) x (λb hb G=>p b (ey hb i.size) (λ⟨o,M⟩=>by
  rcases ((i.perm j).box b o (cQ _ M)).2.2 with q | q
  ·omega
  ·exact G q)) A⟩))
end
section
variable {P:Program} {E:Nat→Value} {W:World} {d:Option Nat} {ty:TypeId} {pos:String} {af:Array Edge} {g:Option (Nat×Bool)}
 {dd:Bool} {F:Nat→Prop} {w:World} {μ:lE} {L:List (Nat×Obj)}
def Ql {α:Type} (d:Nat) (z:α) (n:Int):Option (List α):=if 0≤n∧(d:Int)*n≤140737488355328∧n≤(maxLen:Int) then some (List.replicate n.toNat z) else none
theorem Nl {α:Type} {enc:α→List Value} {k:Nat} (hk:∀x,(enc x).length=k) (d:0 < k) (z:α) (n:Nat):(madeCells (enc z).toArray (n*k)).toList=((List.replicate n z).map enc).flatten:=by
 apply List.ext_getElem
 ·rw [sn hk,dF,size_madeCells]; simp
 ·intro i h1 v
  rw [dF,size_madeCells] at h1
  have w:i / k < n:=by rw [iC d]; exact h1
  have p:i % k < (enc z).length:=by rw [hk]; exact Nat.mod_lt _ d
  have j:=As hk (List.replicate n z) (i / k) z (by rw [List.getElem?_replicate,bD w]) (i % k) _ (dy p)
  rw [show i / k*k+i % k=i by rw [Nat.mul_comm]; exact Nat.div_add_mod i k] at j
  rw [dy v] at j
  have u:=fZ j
  rw [u]
  simp only [madeCells,Array.getElem_toList,Array.getElem_map,Array.getElem_range,dV,hk]
  rw [jP _ _ (by simpa using p)]
  simp
theorem QD {K:Value→World→Prop} {α:Type} {e t:TypeId} {enc:α→List Value} {k j:Nat} {p:Value} {n:Int} {u:IntKind} {z:α} {r:List α} {x y:Operand} {i:TypeInfo} (v:ST dd F w W μ L) (hk:∀x,(enc x).length=k) (I:0 < k) (Z:P.underlying t=some (.slice e)) (U:P.info? e=some i) (hz:i.zero=some p) (J:i.size=k) (G:i.bytes=j) (T:p.cells=(enc z).toArray) (hx:kP E x= .int u n) (hy:kP E y= .int u n) (hb:Ql j z n=some r) (h:∀W' M R',ST dd F w W' μ (R'++L)→lh e enc k M r R'→K M W'):pb P E ⟨d,.makeSlice t x y,ty,pos,af,g⟩ W K:=by
 unfold Ql at hb
 split at hb
 case isFalse=>cases hb
 rename_i A
 cases hb
 obtain ⟨O,h1,Q⟩:=A
 subst J; subst G
 have R:n.toNat≤maxLen:=by omega
 have Y:=run_make (P:=P) W t e i p Z U hz u u n n O (Int.le_refl _) (by omega) (by simp only [maxLen] at Q; omega)
 refine .inl ⟨.slice (some ⟨W.heap.size,0,none⟩) n.toNat n.toNat,W.alloc (.cells (madeCells p.cells (n.toNat*i.size)) e),?_,h _ _ [(W.heap.size,.cells (madeCells p.cells (n.toNat*i.size)) e)] (v.alloc _) ?_⟩
 ·show (do pure (.value (←Instr.makeSlice t (kP E x) (kP E y))):Sem Next).run P W=_
  rw [hx,hy]
  simp only [cJ,Y,bV,dG]
 ·exact lh.lit (by rw [List.length_replicate]) R (by rw [T]; exact Nl hk I z _) (by rw [size_madeCells])
end
theorem tR.yW {κ γ:Type} {kenc:κ→Value} {Q:Value→γ→List (Nat×Obj)→Prop} {μ:lE} {v:Value} {l:List (κ×γ)} (h:tR kenc Q μ v l):v.oneCell'=true:=by
 obtain ⟨d,R,h,_⟩:=h
 obtain ⟨m,rfl⟩:=h.form
 rfl
theorem zW.yW {κ β:Type} {kenc:κ→Value} {vf:β→Value} {μ:lE} {v:Value} {l:List (κ×β)} (h:zW kenc vf μ v l):v.oneCell'=true:=by
 obtain ⟨m,rfl⟩:=h.form
 rfl
end Go.Proofs.YtjjjihkifgdhgaaGreatDoor
