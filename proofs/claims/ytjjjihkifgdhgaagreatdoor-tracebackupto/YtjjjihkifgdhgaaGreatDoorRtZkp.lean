/- a part of a proof of TraceBack -/
import Derived.WalkKit
import Derived.WalkLawsBesides
import Derived.TacticsIn
import Derived.OrdersIn
import Derived.ControlIn
import Derived.Maps.AppendAt
import Derived.OrdersHeld
import Derived.Laws.IdiomStrings
import Derived.Maps.RangeRun
import Derived.Lib.BytesEntry
import Derived.Lib.Bytealg
import Derived.Laws.Externs
import Derived.ChangeKeysEq
import Derived.Deep.AppendSrc
import Derived.Laws.MakeOwn
import Derived.Lib.ItoaNum
import Derived.Lib.Join
import Derived.Lib.IndexMore
import Derived.Lib.Split
import Derived.Lib.LastIndexLaws
import Derived.Lib.Atoi
import Derived.Recover
import Derived.LaidEqlPtr
import Derived.RangeFuncRecord
set_option linter.all false
namespace Go.Proofs.YtjjjihkifgdhgaaGreatDoor
open Go.RowKit
def ay:=@Option.bind_some
def az:=@List.length_append
def aA:=@ByteArray.size_append
def aB:=@Bool.false_eq_true
def aC:=@congrArg
def aF:=@List.length_cons
def aH:=@List.append_assoc
def aJ:=@if_pos
def aK:=@if_neg
def aM:=@List.mem_singleton
def aN:=@run_underlying
def aQ:=@if_false
def aR:=@List.getElem?_eq_some_iff
def aS:=@List.mem_cons
def aT:=@Bool.and_eq_true
def aU:=@List.mem_append
def aV:=@Int.natCast_nonneg
def aY:=@List.map_cons
def aZ:=@List.drop_length
def bi:=@Bool.not_true
def bk:=@Calls.mono
def bl:=@Nat.le_refl
def bn:=@Result.andThen_ok
def bp:=@beq_self_eq_true
def bt:=@List.mem_map
def bu:=@if_true
def bw:=@List.mem_append_left
def bz:=@List.nodup_append
def bA:=@List.cons_append
def bB:=@List.map_append
def bD:=@List.nil_append
def bE:=@Sem.run_bind
def bF:=@Array.getD_eq_getD_getElem?
def bI:=@List.length_take
def bJ:=@Nat.mul_le_mul_right
def bM:=@Int.toNat_natCast
def bN:=@List.getElem?_eq_getElem
def bP:=@Array.length_toList
def bQ:=@List.append_nil
def bU:=@List.flatten_cons
def bV:=@List.size_toArray
def bW:=@of_decide_eq_true
def bZ:=@Nat.add_mul
def cb:=@List.cons.injEq
def cd:=@Nat.le_trans
def cg:=@Nat.lt_of_lt_of_le
def ch:=@Array.getElem?_eq_some_iff
def cj:=@List.Perm.refl
def ck:=@List.length_nil
def cq:=@List.eq_nil_of_length_eq_zero
def ct:=@List.getElem?_take_of_lt
def cu:=@Addr.add_lit
def cv:=@Sem.run_pure
def cw:=@Nat.min_eq_left
def cy:=@Nat.eq_zero_or_pos
def cz:=@List.length_eq_zero_iff
def cA:=@List.getElem?_append_right
def cC:=@List.take_of_length_le
def cE:=@List.nodup_cons
def cH:=@List.getElem?_append_left
def cJ:=@List.getElem?_eq_none
def cK:=@List.mem_append_right
def cM:=@List.getElem?_drop
def cU:=@Nat.lt_succ_self
def cZ:=@List.length_map
def dh:=@List.not_mem_nil
def di:=@List.getElem?_take
def dl:=@List.getElem?_toArray
def dn:=@Oper.upon_value
def dp:=@Oper.upon_enter
def dq:=@List.mem_of_getElem?
def dt:=@List.mem_cons_of_mem
def dv:=@List.length_drop
def dE:=@Option.some.inj
def dJ:=@Array.getElem?_append
def dK:=@List.drop_length_add_append
def dL:=@cell_of_row
def dM:=@List.getElem?_append
def dN:=@Nat.zero_le
def dO:=@List.getD_eq_getElem?_getD
def dT:=@Nat.zero_add
def dU:=@List.all_eq_true
def dW:=@ByteArray.toList_eq
def dX:=@run_callFunc_extern
def dY:=@Array.getElem?_replicate
def dZ:=@List.foldl_cons
def ed:=@UInt8.toNat_ofNat'
def ee:=@decide_true
def ef:=@List.take_take
def eg:=@Oper.upon_skip
def ei:=@List.take_left
def ej:=@Go.Lib.strCells_length
def er:=@decide_eq_true_eq
def et:=@ByteArray.append_assoc
def eu:=@DataW.trod_struct
def ev:=@and_true
def ew:=@Array.getElem?_modify
def ey:=@Nat.div_lt_iff_lt_mul
def ez:=@Array.getElem?_toList
def eA:=@List.perm_append_comm
def eB:=@List.perm_middle
def eC:=@List.take_append
def eE:=@ByteArray.ext
def eL:=@List.length_set
def eO:=@Bool.or_eq_true
def eP:=@List.Perm.nodup_iff
def eQ:=@List.flatten_append
def eS:=@List.take_length_add_append
def eT:=@List.perm_append_comm_assoc
def eU:=@List.map_map
def eZ:=@run_loadCells_list
def fe:=@List.pairwise_cons
def fg:=@Bool.and_assoc
def fh:=@List.drop_left
def fi:=@Nat.le_succ
def fj:=@wp_mono
def fl:=@List.ext_getElem?
def fm:=@List.getElem?_set
def fp:=@Nat.mul_one
def fx:=@Nat.add_assoc
def fA:=@or_false
def fD:=@beq_iff_eq
def fH:=@decide_false
def fI:=@Nat.one_mul
def fJ:=@getD_set_ne
def fK:=@Nat.mul_add
def fL:=@wpIn_mono
def fM:=@wpIn_wide
def fN:=@mem_ready
class Md where
 ro:Option Nat
 D:List Deferred
instance qj:Md:=⟨none,[]⟩
theorem qN {ro:Option Nat} {P:Program} {ρ:Operand→Value} {o:Oper} {W W':World} {x:Next} (h:(execOp ρ o).run P W= .ok x W') (i:∀d,x≠.defer d):(Oper.semAt ro ρ o).run P W= .ok x W':=by
 cases ro with
 | none=>exact h
 | some l=>
  rw [Oper.semAt_eq]
  ·exact h
  ·intro c g
   have e:(execOp ρ o)=(resolve ρ c o.type >>= λd=>pure (Next.defer d)):=by
    unfold execOp; rw [g]
   rw [e,bE] at h
   cases a:(resolve ρ c o.type).run P W with
   | ok d w=>rw [a,bn] at h; cases h; exact i d rfl
   | halt z w=>rw [a] at h; cases h
def Md.F (M:Md):Fence:={ Fence.wide with round:=M.ro }
theorem EC {M:Md} {n:Nat} {P:Program} {f:FuncId} {args:Array Value} {w:World} {R:Ending→World→Prop}:CallsIn M.F n P f args w R↔Calls P f args w R:=callsIn_wide
theorem vT {M:Md} {n:Nat} {P:Program} {f:FuncId} {args:Array Value} {w:World} {R:Ending→World→Prop} (h:Calls P f args w R):(M.F.depth.isSome=true→1≤n)∧CallsIn M.F (n-1) P f args w R :=
 ⟨λe=>(nomatch (show (none:Option Nat).isSome=true from e)),EC.2 h⟩
variable [M:Md]
def iL (E:Nat→Value) (d:Nat) (v:Value):Nat→Value:=λt=>if t=d then v else E t
def fT (E:Nat→Value):Operand→Value
 | .tmp t=>E t
 | .const v=>v
 | .global g=>.pointer (some ⟨g,0,none⟩)
 | .func f=>.func (.func f) #[] #[]
def Ag (n:Nat) (a:Act) (E:Nat→Value):Prop:=a.tmps.size=n∧a.defers=M.D∧∀t,a.tmps.getD t undef=E t
section
variable {n:Nat} {a:Act} {E:Nat→Value}
theorem Ag.eval (h:Ag n a E):a.eval=fT E:=by
 funext x
 cases x with
 | tmp t=>exact h.2.2 t
 | const v=>rfl
 | global g=>rfl
 | func f=>rfl
theorem Ag.put (h:Ag n a E) {d:Nat} (i:d < n) (v:Value):Ag n (a.put (some d) v) (iL E d v):=by
 refine ⟨by simp [Act.put,h.1],h.2.1,λt=>?_⟩
 have g:=h.2.2 t
 simp only [Act.put,iL]
 by_cases c:t=d
 ·subst c
  simp [h.1,i]
 ·have:¬d=t:=λe=>c e.symm
  rw [aK c,←g]
  simp [bF,this]
theorem Ag.np (h:Ag n a E) (v:Value):Ag n (a.put none v) E:=h
theorem Ag.yield (h:Ag n a E) {ops:Array Oper} {j t:Nat} {b:Bool} (d:(ops[j]?).bind (·.dst)=some t) (i:t < n) (k:E t= .bool b):yielded ops a.tmps j=some b:=by
 have c:=h.2.2 t
 have g:a.tmps[t]? =some (E t):=by
  rw [←c]
  simp [bF,h.1,i]
 simp [yielded,d,g,k]
end
abbrev jc:=Exit→(Nat→Value)→World→Prop
def E0:Nat→Value:=λ_=>undef
def lift (n:Nat) (Q:jc):Exit→Act→World→Prop
 | .panic c,a,w=>a.defers=M.D∧Q (.panic c) E0 w
 | .outgrown,_,_=>False
 | e,a,w=>∃E,Ag n a E∧Q e E w
theorem AL {n:Nat} {Q:jc} {c:List PanicEntry} {a:Act} {d:Option Nat} {v:Value} {w:World} (h:lift n Q (.panic c) (a.put d v) w):lift n Q (.panic c) a w:=by
 cases d <;> exact h
def CW (P:Program) (n:Nat) (c:Code) (Q:jc) (E:Nat→Value) (W:World):Prop:=∀a,Ag n a E→c.wpIn M.F 0 P (lift n Q) a W
def LW (P:Program) (n:Nat) (ops:Array Oper) (Q:jc) (l:List Oper) (E:Nat→Value) (W:World):Prop:=∀a,Ag n a E→wpListIn M.F 0 P ops (lift n Q) l a W
def kc (K:(Nat→Value)→World→Prop) (Q:jc):jc
 | .normal,E,W=>K E W
 | e,E,W=>Q e E W
def ov (id:Nat) (Q:jc):jc
 | .exit j,E,W=>if j=id then Q .normal E W else Q (.exit j) E W
 | e,E,W=>Q e E W
section
variable {P:Program} {n:Nat} {Q:jc} {E:Nat→Value} {W:World} {c x y:Code} {ops:Array Oper} {rest:List Oper} {o:Oper}
theorem yi {Q':jc} (h:CW P n c Q E W) (i:∀e E W,Q e E W→Q' e E W):CW P n c Q' E W:=λa ha=>
 fL (h a ha) (λe _ _ h=>by
  cases e with
  | panic c=>exact ⟨h.1,i _ _ _ h.2⟩
  | outgrown=>exact h
  | _=>obtain ⟨E',d,g⟩:=h; exact ⟨E',d,i _ _ _ g⟩)
theorem gq (h:CW P n x (kc (λE W=>CW P n y Q E W) Q) E W):CW P n (.seq x y) Q E W:=λa ha=>
 wpIn_seq (fL (h a ha) (λe d i h=>by
  cases e with
  | normal=>obtain ⟨E',c,g⟩:=h; exact g d c
  | _=>exact h))
theorem iD (h:Q .normal E W):CW P n .skip Q E W:=λ_ ha=>wpIn_skip ⟨E,ha,h⟩
theorem gC (h:Q .ret E W):CW P n .ret Q E W:=λ_ ha=>wpIn_ret ⟨E,ha,h⟩
theorem pd {id:Nat} (h:Q (.exit id) E W):CW P n (.exit id) Q E W:=λ_ ha=>wpIn_exit ⟨E,ha,h⟩
theorem jS {id:Nat} (h:CW P n c (ov id Q) E W):CW P n (.block id c) Q E W:=λa ha=>
 wpIn_block (fL (h a ha) (λe k o h=>by
  cases e with
  | exit j=>
   obtain ⟨E',d,g⟩:=h
   simp only [Exit.inBlock]
   simp only [ov] at g
   split at g
   ·rename_i i; rw [aJ i]; exact ⟨E',d,g⟩
   ·rename_i i; rw [aK i]; exact ⟨E',d,g⟩
  | _=>exact h))
theorem CA {co:Operand} {b:Bool} (c:fT E co= .bool b) (g:b=true→CW P n x Q E W) (d:b=false→CW P n y Q E W):CW P n (.cond co x y) Q E W:=λa ha=>by
 refine wpIn_cond_split (t:=b) (by rw [ha.eval]; exact c) (λh=>g h a ha) (λh=>d h a ha)
theorem qf {co:Operand} (a:fT E co= .bool true) (h:CW P n x Q E W):CW P n (.cond co x y) Q E W:=CA a (λ_=>h) (λh=>by cases h)
theorem kH {co:Operand} (a:fT E co= .bool false) (h:CW P n y Q E W):CW P n (.cond co x y) Q E W:=CA a (λh=>by cases h) (λ_=>h)
theorem gn {id:Nat} {l:List Oper} (h:LW P n l.toArray Q l E W):CW P n (.region id l.toArray false) Q E W:=λa ha=>wpIn_region_lit (h a ha)
theorem gJ (h:Q .normal E W):LW P n ops Q [] E W:=λ_ ha=>wpListIn_nil ⟨E,ha,h⟩
theorem xD {P:Program} {F:Fence} {n:Nat} {c:Code} {Q:Exit→Act→World→Prop} {a:Act} {w:World} (I:Nat→Act→World→Prop) (m:Nat) (o:I m a w) (round:∀m a w,I m a w→c.wpIn F n P (Exit.then (λp q=>∃i,i < m∧I i p q) Q) a w):(Code.loop c).wpIn F n P Q a w:=by
 classical
 let J:Act→World→Prop:=λa w=>∃m,I m a w
 have least:∀a w,J a w→∃m,I m a w∧∀k,I k a w→m≤k:=λa w ⟨m,hm⟩=>by
  induction m using Nat.strongRecOn with
  | _ m ih=>
   by_cases h:∃k,k < m∧I k a w
   ·obtain ⟨k,hk,d⟩:=h; exact ih k hk d
   ·exact ⟨m,hm,λk d=>Nat.le_of_not_lt λg=>h ⟨k,g,d⟩⟩
 let μ:Act→World→Nat:=λa w=>if h:J a w then Classical.choose (least a w h) else 0
 have j:∀a w (h:J a w),I (μ a w) a w∧∀k,I k a w→μ a w≤k:=λa w h=>by
  have e:μ a w=Classical.choose (least a w h):=dif_pos h
  rw [e]; exact Classical.choose_spec (least a w h)
 refine wpIn_loop J μ ⟨m,o⟩ λa w s=>fL (round _ a w (j a w s).1) λe p q h=>?_
 cases e with
 | normal=>obtain ⟨i,g,d⟩:=h; exact ⟨⟨i,d⟩,Nat.lt_of_le_of_lt ((j p q ⟨i,d⟩).2 i d) g⟩
 | _=>exact h
theorem pj (I:Nat→(Nat→Value)→World→Prop) (m:Nat) (d:I m E W) (round:∀m E W,I m E W→CW P n c (kc (λE' W'=>∃g,g < m∧I g E' W') Q) E W):CW P n (.loop c) Q E W:=λa ha=>
 xD (λm a w=>∃E,Ag n a E∧I m E w) m ⟨E,ha,d⟩ (λm a w ⟨E,ha,o⟩=>
  fL (round m E w o a ha) (λe p q h=>by
   cases e with
   | normal=>obtain ⟨E',j,g,k,i⟩:=h; exact ⟨g,k,E',j,i⟩
   | _=>exact h))
def jd (n:Nat) (ops:Array Oper) (E:Nat→Value) (o:Oper):Prop :=
 o.guard=none∨∃j want t,o.guard=some (j,want)∧(ops[j]?).bind (·.dst)=some t∧t < n∧E t= .bool want
theorem jd.of {a:Act} (h:jd n ops E o) (ha:Ag n a E):Region.wanted o (yielded ops a.tmps)=true:=by
 rcases h with h | ⟨j,want,t,d,g,i,c⟩
 ·simp [Region.wanted,h]
 ·simp [Region.wanted,d,ha.yield g i c]
theorem DP {d:Nat} {v:Value} {W':World} (hw:jd n ops E o) (c:o.dst=some d) (g:d < n) (i:(execOp (fT E) o).run P W= .ok (.value v) W') (h:LW P n ops Q rest (iL E d v) W'):LW P n ops Q (o::rest) E W:=λa ha=>by
 unfold wpListIn
 rw [aJ (hw.of ha)]
 unfold Oper.wpIn
 refine ⟨λ_ _=>trivial,?_⟩
 rw [ha.eval,qN i (by simp),Oper.uponIn_value,c]
 exact h _ (ha.put g v)
theorem FF {W':World} (hw:jd n ops E o) (c:o.dst=none) (d:(execOp (fT E) o).run P W= .ok .skip W') (h:LW P n ops Q rest E W'):LW P n ops Q (o::rest) E W:=λa ha=>by
 unfold wpListIn
 rw [aJ (hw.of ha)]
 unfold Oper.wpIn
 refine ⟨λ_ _=>trivial,?_⟩
 rw [ha.eval,qN d (by simp),Oper.uponIn_skip,c]
 exact h _ (ha.np _)
theorem Fp {f:FuncId} {args:Array Value} {d:Nat} (hw:jd n ops E o) (g:o.dst=some d) (j:d < n) (k:(execOp (fT E) o).run P W= .ok (.enter f args) W) (h:Calls P f args W λe c=>∃v,e= .returned v∧LW P n ops Q rest (iL E d v) c):LW P n ops Q (o::rest) E W:=λa ha=>by
 unfold wpListIn
 rw [aJ (hw.of ha)]
 unfold Oper.wpIn
 refine ⟨λ_ _=>trivial,?_⟩
 rw [ha.eval,qN k (by simp),Oper.uponIn_enter]
 refine vT (bk h ?_)
 rintro e c ⟨v,rfl,i⟩
 simp only [g]
 exact i _ (ha.put j v)
theorem Ih {d j t:Nat} {want:Bool} (g:o.dst=some d) (p:d < n) (i:o.guard=some (j,want)) (k:(ops[j]?).bind (·.dst)=some t) (q:t < n) (c:E t= .bool (!want)) (h:LW P n ops Q rest (iL E d undef) W):LW P n ops Q (o::rest) E W:=λa ha=>by
 unfold wpListIn
 have s:=ha.yield k q c
 rw [aK (by simp [Region.wanted,i,s])]
 rw [g]
 exact ⟨λ_ _=>trivial,h _ (ha.put p _)⟩
end
end Go.Proofs.YtjjjihkifgdhgaaGreatDoor
namespace Go.Proofs.YtjjjihkifgdhgaaGreatDoor
open Go.RowKit
variable {dd:Bool}
abbrev gm:=Nat→Option Obj
def hp (W:World):gm:=λb=>W.heap[b]?
def mb (dd:Bool) (a b:Nat):Prop:=dd=true→a≤b
theorem mb.of {dd:Bool} {a b:Nat} (h:a≤b):mb dd a b:=λ_=>h
theorem mb.trans {dd:Bool} {a b c:Nat} (h:mb dd a b) (k:mb dd b c):mb dd a c:=λe=>cd (h e) (k e)
structure Ex (dd:Bool) (w W:World):Prop where
 os:W.os=w.os
 tape:W.tape=w.tape
 output:W.output=w.output
 drawn:mb dd w.drawn W.drawn
 size:w.heap.size≤W.heap.size
 ki:∀b,b < w.heap.size→W.heap[b]? =w.heap[b]?
theorem Ex.refl (w:World):Ex dd w w:=⟨rfl,rfl,rfl,mb.of (bl _),bl _,λ_ _=>rfl⟩
theorem Ex.trans {a b c:World} (h:Ex dd a b) (k:Ex dd b c):Ex dd a c :=
 ⟨k.os.trans h.os,k.tape.trans h.tape,k.output.trans h.output,mb.trans h.drawn k.drawn,cd h.size k.size,λi hi=>(k.ki i (cg hi h.size)).trans (h.ki i hi)⟩
theorem Ex.drew (w:World):Ex dd w w.drew:=⟨rfl,rfl,rfl,mb.of (fi _),bl _,λ_ _=>rfl⟩
theorem Ex.alloc (w:World) (o:Obj):Ex dd w (w.alloc o):=⟨rfl,rfl,rfl,mb.of (bl _),by show w.heap.size≤(w.heap.push o).size; simp,λk hk=>Below.heap_alloc w o k hk⟩
theorem Ex.gV {w W:World} (h:Ex true w W):Ex dd w W:=⟨h.os,h.tape,h.output,mb.of (h.drawn rfl),h.size,h.ki⟩
def gf (μ μ':gm):Prop:=∀b o,μ b=some o→μ' b=some o
theorem gf.refl (μ:gm):gf μ μ:=λ_ _ h=>h
theorem gf.trans {a b c:gm} (h:gf a b) (k:gf b c):gf a c:=λx o d=>k x o (h x o d)
structure ST (dd:Bool) (F:Nat→Prop) (w W:World) (μ:gm) (L:List (Nat×Obj)):Prop where
 os:W.os=w.os
 tape:W.tape=w.tape
 output:W.output=w.output
 drawn:mb dd w.drawn W.drawn
 size:w.heap.size≤W.heap.size
 ki:∀b,b < w.heap.size→¬F b→W.heap[b]? =w.heap[b]?
 mem:∀b o,μ b=some o→W.heap[b]? =some o
 box:∀b o,(b,o)∈L→W.heap[b]? =some o∧μ b=none∧(w.heap.size≤b∨F b)
 nd:(L.map (·.1)).Nodup
def iv:Nat→Prop:=λ_=>False
theorem ST.start (w:World):ST dd iv w w (hp w) [] :=
 ⟨rfl,rfl,rfl,mb.of (bl _),bl _,λ_ _ _=>rfl,λ_ _ h=>h,λ_ _ h=>(by cases h),by simp⟩
section
variable {F:Nat→Prop} {w W W':World} {μ μ':gm} {L L':List (Nat×Obj)}
theorem ST.ex (h:ST dd iv w W μ L):Ex dd w W:=⟨h.os,h.tape,h.output,h.drawn,h.size,λb a=>h.ki b a (λx=>x)⟩
theorem FM (W:World) (o:Obj):(W.alloc o).heap[W.heap.size]? =some o:=heap_alloc_new W o
theorem jx {W:World} {b:Nat} {o:Obj} (h:W.heap[b]? =some o):b < W.heap.size:=(ch.1 h).1
theorem ST.drew (h:ST dd F w W μ L):ST dd F w W.drew μ L :=
 ⟨h.os,h.tape,h.output,mb.trans h.drawn (mb.of (fi _)),h.size,h.ki,h.mem,h.box,h.nd⟩
theorem ST.xj (h:ST dd F w W μ L) {b:Nat} {o:Obj} (a:(b,o)∈L):b < W.heap.size:=jx (h.box b o a).1
theorem ST.alloc (h:ST dd F w W μ L) (o:Obj):ST dd F w (W.alloc o) μ ((W.heap.size,o)::L):=by
 refine ⟨h.os,h.tape,h.output,h.drawn,cd h.size (Ex.alloc (dd:=true) W o).size,λb a i=>?_,λb c a=>?_,λb c a=>?_,?_⟩
 ·rw [(Ex.alloc (dd:=true) W o).ki b (cg a h.size)]; exact h.ki b a i
 ·have:=h.mem b c a
  rw [(Ex.alloc (dd:=true) W o).ki b (jx this)]; exact this
 ·rcases aS.1 a with e | a
  ·cases e
   refine ⟨FM W o,?_,.inl h.size⟩
   cases hm:μ W.heap.size with
   | none=>rfl
   | some x=>have:=jx (h.mem _ _ hm); omega
  ·obtain ⟨h1,d,g⟩:=h.box b c a
   exact ⟨by rw [(Ex.alloc (dd:=true) W o).ki b (jx h1)]; exact h1,d,g⟩
 ·simp only [aY,cE]
  refine ⟨λhm=>?_,h.nd⟩
  obtain ⟨⟨b,c⟩,a,e⟩:=bt.1 hm
  have:=h.xj a
  simp at e
  omega
theorem ST.put {A B:List (Nat×Obj)} {b:Nat} {o p:Obj} (h:ST dd F w W μ (A++(b,o)::B)) (y:W'.os=W.os∧W'.tape=W.tape∧W'.output=W.output∧W.drawn≤W'.drawn∧W'.heap.size=W.heap.size) (d:∀k,k≠b→W'.heap[k]? =W.heap[k]?) (z:W'.heap[b]? =some p):ST dd F w W' μ (A++(b,p)::B):=by
 obtain ⟨h1,q,s,u,v⟩:=y
 have c:=h.box b o (by simp)
 have a:=h.nd
 simp only [bB,aY] at a
 have g:∀x o,(x,o)∈A→x≠b:=λx o j e=>by
  subst e
  have:=(bz.1 a).2.2 x (bt.2 ⟨_,j,rfl⟩) x (by simp)
  exact this rfl
 have i:∀x o,(x,o)∈B→x≠b:=λx o j e=>by
  subst e
  have:=(cE.1 (bz.1 a).2.1).1
  exact this (bt.2 ⟨_,j,rfl⟩)
 refine ⟨h1.trans h.os,q.trans h.tape,s.trans h.output,mb.trans h.drawn (mb.of u),by rw [v]; exact h.size,λk hk n=>?_,λk x hk=>?_,λk x hk=>?_,by simpa using a⟩
 ·rw [d k (λe=>by subst e; rcases c.2.2 with h | h; omega; exact n h)]
  exact h.ki k hk n
 ·rw [d k (λe=>by subst e; rw [c.2.1] at hk; cases hk)]
  exact h.mem k x hk
 ·rcases aU.1 hk with hk | hk
  ·rw [d k (g k x hk)]; exact h.box k x (by simp [hk])
  ·rcases aS.1 hk with e | hk
   ·cases e; exact ⟨z,c.2⟩
   ·rw [d k (i k x hk)]; exact h.box k x (by simp [hk])
def Lo (F:Nat→Prop) (w:World) (μ μ':gm):Prop:=∀b,b < w.heap.size→¬F b→μ' b=μ b
theorem Lo.refl {F:Nat→Prop} {w:World} {μ:gm}:Lo F w μ μ:=λ_ _ _=>rfl
theorem Lo.trans {F:Nat→Prop} {w:World} {a b c:gm} (h:Lo F w a b) (k:Lo F w b c):Lo F w a c:=λx g d=>(k x g d).trans (h x g d)
def grow (μ:gm) (W W':World):gm:=λb=>if b < W.heap.size then μ b else W'.heap[b]?
theorem ST.vU (h:ST dd F w W μ L) {b:Nat} {o:Obj} (a:μ b=some o):b < W.heap.size:=jx (h.mem b o a)
theorem ST.call (h:ST dd F w W μ L) (c:Ex dd W W'):ST dd F w W' (grow μ W W') L:=by
 refine ⟨c.os.trans h.os,c.tape.trans h.tape,c.output.trans h.output,mb.trans h.drawn c.drawn,cd h.size c.size,λb a j=>?_,λb o a=>?_,λb o a=>?_,h.nd⟩
 ·rw [c.ki b (cg a h.size)]; exact h.ki b a j
 ·unfold grow at a
  split at a
  ·rename_i d; rw [c.ki b d]; exact h.mem b o a
  ·exact a
 ·obtain ⟨h1,g,i⟩:=h.box b o a
  exact ⟨by rw [c.ki b (jx h1)]; exact h1,by unfold grow; rw [aJ (jx h1)]; exact g,i⟩
theorem ST.EZ (h:ST dd F w W μ L) (W':World):gf μ (grow μ W W'):=λb o a=>by
 unfold grow; rw [aJ (h.vU a)]; exact a
theorem ST.gV (h:ST dd F w W μ' L) (c:gf μ μ'):ST dd F w W μ L :=
 ⟨h.os,h.tape,h.output,h.drawn,h.size,h.ki,λb o a=>h.mem b o (c b o a),λb o a=>by
  obtain ⟨h1,d,g⟩:=h.box b o a
  refine ⟨h1,?_,g⟩
  cases hm:μ b with
  | none=>rfl
  | some x=>(have:=c b x hm; rw [d] at this; cases this),h.nd⟩
theorem ST.zK (h:ST dd F w W μ L) (a:Ex dd W W'):ST dd F w W' μ L:=(h.call a).gV (h.EZ W')
theorem ST.gd (h:ST dd F w W μ L):gf μ (hp W):=h.mem
def BH (μ:gm) (b:Nat) (o:Obj):gm:=λk=>if k=b then some o else μ k
theorem ST.ye {A B:List (Nat×Obj)} {b:Nat} {o:Obj} (h:ST dd F w W μ (A++(b,o)::B)):ST dd F w W (BH μ b o) (A++B):=by
 have d:=h.box b o (by simp)
 have a:=h.nd
 simp only [bB,aY] at a
 have i:∀x y,(x,y)∈A++B→x≠b:=λx y c e=>by
  subst e
  rcases aU.1 c with c | c
  ·exact (bz.1 a).2.2 x (bt.2 ⟨_,c,rfl⟩) x (by simp) rfl
  ·exact (cE.1 (bz.1 a).2.1).1 (bt.2 ⟨_,c,rfl⟩)
 refine ⟨h.os,h.tape,h.output,h.drawn,h.size,h.ki,λk x hk=>?_,λk x hk=>?_,?_⟩
 ·unfold BH at hk
  split at hk
  ·rename_i e; cases hk; rw [e]; exact d.1
  ·exact h.mem k x hk
 ·have g:(k,x)∈A++(b,o)::B:=by
   rcases aU.1 hk with h | h <;> simp [h]
  obtain ⟨h1,j,n⟩:=h.box k x g
  exact ⟨h1,by unfold BH; rw [aK (i k x hk)]; exact j,n⟩
 ·have:(A++B).Sublist (A++(b,o)::B):=List.Sublist.append (List.Sublist.refl A) (List.sublist_cons_self _ _)
  exact List.Nodup.sublist (this.map _) h.nd
theorem ST.yd {A B:List (Nat×Obj)} {b:Nat} {o:Obj} (h:ST dd F w W μ (A++(b,o)::B)):gf μ (BH μ b o):=λk x hk=>by
 unfold BH
 split
 ·rename_i e; subst e; rw [(h.box k o (by simp)).2.1] at hk; cases hk
 ·exact hk
theorem ST.Eh {A B:List (Nat×Obj)} {b:Nat} {o:Obj} (h:ST dd F w W μ (A++(b,o)::B)):Lo F w μ (BH μ b o):=λk hk c=>by
 refine aK (λe=>?_)
 subst e
 rcases (h.box k o (by simp)).2.2 with a | a
 ·omega
 ·exact c a
theorem ST.drop {A B:List (Nat×Obj)} {p:Nat×Obj} (h:ST dd F w W μ (A++p::B)):ST dd F w W μ (A++B) :=
 (h.ye (b:=p.1) (o:=p.2)).gV h.yd
end
abbrev lc (α:Type):=gm→List Value→α→Prop
def Sl {α:Type} (R:lc α) (k:Nat) (μ:gm) (v:Value) (l:List α):Prop :=
 ∃A c,v= .slice A l.length c∧l.length≤c∧c≤maxLen∧(0 < l.length→∃b off cs T fr,A=some ⟨b,off,none⟩∧μ b=some (.cells cs T fr)∧
  ∀i x,l[i]? =some x→∃ys,ys.length=k∧R μ ys x∧∀j y,ys[j]? =some y→cs[off+i*k+j]? =some y)
def At (μ:gm) (v:Value) (ys:List Value):Prop :=
 ∃b off cs T fr,v= .pointer (some ⟨b,off,none⟩)∧μ b=some (.cells cs T fr)∧∀j y,ys[j]? =some y→cs[off+j]? =some y
def Fr (B:Nat) (v:Value):Prop:=∀b,v.ownBlock=some b→B≤b
def zH {α:Type} (R:lc α):Prop:=∀μ μ' ys x,gf μ μ'→R μ ys x→R μ' ys x
def Pl {α:Type} (enc:α→List Value):lc α:=λ_ ys x=>ys=enc x
theorem Pl.mono {α:Type} (enc:α→List Value):zH (Pl enc):=λ_ _ _ _ _ h=>h
theorem Sl.mono {α:Type} {R:lc α} (w:zH R) {k:Nat} {μ μ':gm} {v:Value} {l:List α} (h:Sl R k μ v l) (d:gf μ μ'):Sl R k μ' v l:=by
 obtain ⟨A,c,h1,g,j,n⟩:=h
 refine ⟨A,c,h1,g,j,λy=>?_⟩
 obtain ⟨b,off,cs,T,fr,o,p,q⟩:=n y
 exact ⟨b,off,cs,T,fr,o,d _ _ p,λi x z=>let ⟨ys,s,u,a⟩:=q i x z; ⟨ys,s,w _ _ _ _ d u,a⟩⟩
theorem At.mono {μ μ':gm} {v:Value} {ys:List Value} (h:At μ v ys) (d:gf μ μ'):At μ' v ys:=by
 obtain ⟨b,off,cs,T,fr,h1,a,c⟩:=h
 exact ⟨b,off,cs,T,fr,h1,d _ _ a,c⟩
theorem Sl.len {α:Type} {R:lc α} {k:Nat} {μ:gm} {v:Value} {l:List α} (h:Sl R k μ v l):l.length≤9223372036854775807:=by
 obtain ⟨A,c,h1,d,a,g⟩:=h
 unfold maxLen at a
 omega
theorem Sl.nil {α:Type} (R:lc α) (k:Nat) (μ:gm):Sl R k μ (.slice none 0 0) []:=⟨none,0,rfl,bl _,by decide,λh=>absurd h (by simp)⟩
theorem Fr.mono {B B':Nat} {v:Value} (h:Fr B v) (a:B'≤B):Fr B' v:=λb c=>cd a (h b c)
theorem Fr.nil (B:Nat):Fr B (.slice none 0 0):=λb a=>by simp [Value.ownBlock] at a
end Go.Proofs.YtjjjihkifgdhgaaGreatDoor
namespace Go.Proofs.YtjjjihkifgdhgaaGreatDoor
open Go.RowKit
variable [M:Md]
variable {dd:Bool}
section
variable {P:Program} {n:Nat} {Q:jc} {E:Nat→Value} {W:World} {ops:Array Oper} {rest:List Oper}
 {d:Option Nat} {ty:TypeId} {pos:String} {af:Array Edge} {g:Option (Nat×Bool)}
 {F:Nat→Prop} {w:World} {μ:gm} {L:List (Nat×Obj)}
def gP (P:Program) (E:Nat→Value) (o:Oper) (W:World) (v:Value) (W':World):Prop:=(execOp (fT E) o).run P W= .ok (.value v) W'
theorem yD {o:Oper} {dd:Nat} {v:Value} (hw:jd n ops E o) (a:o.dst=some dd) (c:dd < n) (d:gP P E o W v W) (h:LW P n ops Q rest (iL E dd v) W):LW P n ops Q (o::rest) E W:=DP hw a c d h
theorem gl {x:Operand} {v:Value} (a:fT E x=v):gP P E ⟨d,.move x,ty,pos,af,g⟩ W v W:=by rw [←a]; rfl
theorem iM {x:Operand} {v:Value} (a:fT E x=v):gP P E ⟨d,.assign x,ty,pos,af,g⟩ W v W:=by rw [←a]; rfl
theorem gx {c x y:Operand} {v:Value} (a:fT E c= .bool true) (h:fT E x=v):gP P E ⟨d,.pick c x y,ty,pos,af,g⟩ W v W:=by
 show (do pure (.value (if ←asBool (fT E c) then fT E x else fT E y)):Sem Next).run P W=_
 rw [a,←h]; simp [asBool]
theorem gw {c x y:Operand} {v:Value} (a:fT E c= .bool false) (h:fT E y=v):gP P E ⟨d,.pick c x y,ty,pos,af,g⟩ W v W:=by
 show (do pure (.value (if ←asBool (fT E c) then fT E x else fT E y)):Sem Next).run P W=_
 rw [a,←h]; simp [asBool]
theorem D2 {x:Operand} {i:Nat} {vs:Array Value} {v:Value} (c:fT E x= .tuple vs) (a:vs[i]? =some v):gP P E ⟨d,.extract x i,ty,pos,af,g⟩ W v W:=by
 show (do pure (.value (←Instr.extract (fT E x) i)):Sem Next).run P W=_
 rw [c]; simp [Instr.extract,a]
theorem kj {u:TypeId} {x:Operand} {b:Bool} (a:fT E x= .bool b):gP P E ⟨d,.unOp .not u x,ty,pos,af,g⟩ W (.bool !b) W:=by
 show (do pure (.value (←Op.unary .not (fT E x))):Sem Next).run P W=_
 rw [a]; simp [Op.unary]
theorem CU {fn:Fn} {first caps:Array Operand} {v:Value} (a:.func fn (first.map (fT E)) (caps.map (fT E))=v):gP P E ⟨d,.makeFunc fn first caps,ty,pos,af,g⟩ W v W:=by
 show (do pure (.value (←Instr.makeFunc fn (first.map (fT E)) (caps.map (fT E)))):Sem Next).run P W=_
 rw [←a]; simp [Instr.makeFunc]
def zD (k:IntKind) (op:BinOp) (a b:Int):Option Value :=
 match op with
 | .eql=>some (.bool (a==b))
 | .neq=>some (.bool (a != b))
 | .lss=>some (.bool (decide (a < b)))
 | .leq=>some (.bool (decide (a≤b)))
 | .gtr=>some (.bool (decide (a > b)))
 | .geq=>some (.bool (decide (a≥b)))
 | .add=>some (.int k (k.wrap (a+b)))
 | .sub=>some (.int k (k.wrap (a-b)))
 | .mul=>some (.int k (k.wrap (a*b)))
 | _=>none
theorem iJ {op:BinOp} {tx tv:TypeId} {x y:Operand} {k:IntKind} {a b:Int} {v:Value} (h:fT E x= .int k a) (i:fT E y= .int k b) (c:zD k op a b=some v) :
  gP P E ⟨d,.binOp op tx x y tv,ty,pos,af,g⟩ W v W:=by
 show (do let r ←(do eqGuard op tx x y (fT E x) (fT E y); binOp op tx (fT E x) (fT E y)); pure (.value r):Sem Next).run P W=_
 rw [h,i]
 cases op <;> simp [zD] at c <;> subst c <;> simp [eqGuard,binOp,Op.intCmp,Op.intArith]
def Gd (op:BinOp) (a b:ByteArray):Option Value :=
 match op with
 | .eql=>some (.bool (a.toList==b.toList))
 | .neq=>some (.bool !(a.toList==b.toList))
 | .lss=>some (.bool (Op.bytesLess a.toList b.toList))
 | .leq=>some (.bool (Op.bytesLess a.toList b.toList||a.toList==b.toList))
 | .gtr=>some (.bool !(Op.bytesLess a.toList b.toList||a.toList==b.toList))
 | .geq=>some (.bool !(Op.bytesLess a.toList b.toList))
 | _=>none
def jT (a b:ByteArray):Option ByteArray:=if ((a.size+b.size:Nat):Int) > IntKind.i64.max then none else some (a++b)
theorem lA {op:BinOp} {tx tv:TypeId} {x y:Operand} {a b:ByteArray} {v:Value} (h:fT E x= .string a) (i:fT E y= .string b) (c:Gd op a b=some v) :
  gP P E ⟨d,.binOp op tx x y tv,ty,pos,af,g⟩ W v W:=by
 show (do let r ←(do eqGuard op tx x y (fT E x) (fT E y); binOp op tx (fT E x) (fT E y)); pure (.value r):Sem Next).run P W=_
 rw [h,i]
 cases op <;> simp [Gd] at c <;> subst c <;> simp [eqGuard,binOp,Op.stringOp]
theorem kW {tx tv:TypeId} {x y:Operand} {a b r:ByteArray} (h:fT E x= .string a) (i:fT E y= .string b) (c:jT a b=some r) :
  gP P E ⟨d,.binOp .add tx x y tv,ty,pos,af,g⟩ W (.string r) W:=by
 show (do let r ←(do eqGuard .add tx x y (fT E x) (fT E y); binOp .add tx (fT E x) (fT E y)); pure (.value r):Sem Next).run P W=_
 rw [h,i]
 simp only [jT] at c
 split at c
 ·cases c
 ·rename_i hle; cases c; simp [eqGuard,binOp,Op.stringOp]; simpa using hle
theorem GQ {op:BinOp} {tx tv:TypeId} {x y:Operand} {a b:Bool} (h:P.underlying tx=some .bool) (i:fT E x= .bool a) (j:fT E y= .bool b) (c:op= .eql) :
  gP P E ⟨d,.binOp op tx x y tv,ty,pos,af,g⟩ W (.bool (a==b)) W:=by
 subst c
 show (do let r ←(do eqGuard .eql tx x y (fT E x) (fT E y); binOp .eql tx (fT E x) (fT E y)); pure (.value r):Sem Next).run P W=_
 rw [i,j]
 simp [eqGuard,binOp,Op.equal,Op.maxDepth,run_equalIn_bool' W 9999 tx a b h]
theorem Dd {tx tv:TypeId} {x y:Operand} {a b:Array Value} {r:Bool} (i:fT E x= .agg a) (j:fT E y= .agg b) (c:∀W,(eqGuard .eql tx x y (.agg a) (.agg b)).run P W= .ok () W) (h:∀W,(binOp .eql tx (.agg a) (.agg b)).run P W= .ok (.bool r) W):gP P E ⟨d,.binOp .eql tx x y tv,ty,pos,af,g⟩ W (.bool r) W:=by
 show (do let r ←(do eqGuard .eql tx x y (fT E x) (fT E y); binOp .eql tx (fT E x) (fT E y)); pure (.value r):Sem Next).run P W=_
 rw [i,j]; simp [c W,h W]
theorem Ga {tx tv:TypeId} {x y:Operand} {a b:Array Value} {r:Bool} (i:fT E x= .agg a) (j:fT E y= .agg b) (c:∀W,(eqGuard .neq tx x y (.agg a) (.agg b)).run P W= .ok () W) (h:∀W,(binOp .neq tx (.agg a) (.agg b)).run P W= .ok (.bool r) W):gP P E ⟨d,.binOp .neq tx x y tv,ty,pos,af,g⟩ W (.bool r) W:=by
 show (do let r ←(do eqGuard .neq tx x y (fT E x) (fT E y); binOp .neq tx (fT E x) (fT E y)); pure (.value r):Sem Next).run P W=_
 rw [i,j]; simp [c W,h W]
theorem sN {t e:TypeId} (dd:Nat) (c:P.underlying t=some (.pointer e)) (a:Option Addr) (W:World):(Op.equalIn (dd+1) t (.pointer a) (.pointer none)).run P W= .ok a.isNone W:=by
 cases a <;> simp [Op.equalIn,aN c]
theorem lB {tx tv e:TypeId} {x y:Operand} {a:Option Addr} (h:P.underlying tx=some (.pointer e)) (i:fT E x= .pointer a) (j:fT E y= .pointer none) :
  gP P E ⟨d,.binOp .eql tx x y tv,ty,pos,af,g⟩ W (.bool a.isNone) W:=by
 show (do let r ←(do eqGuard .eql tx x y (fT E x) (fT E y); binOp .eql tx (fT E x) (fT E y)); pure (.value r):Sem Next).run P W=_
 rw [i,j]
 have c:=sN 9999 h a W
 simp [eqGuard,binOp,Op.equal,show Op.maxDepth=9999+1 from rfl,c]
theorem uL {tx tv e:TypeId} {x y:Operand} {a:Option Addr} (h:P.underlying tx=some (.pointer e)) (i:fT E x= .pointer a) (j:fT E y= .pointer none) :
  gP P E ⟨d,.binOp .neq tx x y tv,ty,pos,af,g⟩ W (.bool !a.isNone) W:=by
 show (do let r ←(do eqGuard .neq tx x y (fT E x) (fT E y); binOp .neq tx (fT E x) (fT E y)); pure (.value r):Sem Next).run P W=_
 rw [i,j]
 have c:=sN 9999 h a W
 simp [eqGuard,binOp,Op.equal,show Op.maxDepth=9999+1 from rfl,c]
theorem iR {x:Operand} {t:TypeId} {s:ByteArray} (a:P.underlying t=some .string) (c:fT E x= .string s):gP P E ⟨d,.call ⟨.builtin .len,#[x],#[t]⟩,ty,pos,af,g⟩ W (.int .i64 s.size) W:=by
 show (do let d ←resolve (fT E) ⟨.builtin .len,#[x],#[t]⟩ ty; invoke d.target d.args:Sem Next).run P W=_
 simp [resolve,invoke,builtin,Builtin.len_,aN a,c,goInt]
theorem yw {x:Operand} {t e:TypeId} {A:Option Addr} {l c:Nat} (a:P.underlying t=some (.slice e)) (h:fT E x= .slice A l c):gP P E ⟨d,.call ⟨.builtin .len,#[x],#[t]⟩,ty,pos,af,g⟩ W (.int .i64 l) W:=by
 show (do let d ←resolve (fT E) ⟨.builtin .len,#[x],#[t]⟩ ty; invoke d.target d.args:Sem Next).run P W=_
 simp [resolve,invoke,builtin,Builtin.len_,aN a,h,goInt]
theorem iI {α:Type} {R:lc α} {k:Nat} {m:gm} {x:Operand} {t e:TypeId} {v:Value} {l:List α} (h:P.underlying t=some (.slice e)) (i:fT E x=v) (a:Sl R k m v l):gP P E ⟨d,.call ⟨.builtin .len,#[x],#[t]⟩,ty,pos,af,g⟩ W (.int .i64 l.length) W:=by
 obtain ⟨A,c,rfl,_⟩:=a
 exact yw h i
theorem qD {t:TypeId} {x a:Operand} {o:IntKind} {s:ByteArray} {i:Int} {c:UInt8} (k:P.underlying t=some .string) (n:fT E x= .string s) (hi:fT E a= .int o i) (h:0≤i) (j:s[i.toNat]? =some c) :
  gP P E ⟨d,.index t x a,ty,pos,af,g⟩ W (.int .u8 c.toNat) W:=by
 show (do pure (.value (←Instr.index t (fT E x) (fT E a))):Sem Next).run P W=_
 rw [n,hi]
 simp [Instr.index,asIntOf,aN k,h,j]
def iE (P:Program) (t:TypeId) (f off:Nat):Prop:=∀b o w,(Instr.fieldAt t (.pointer (some ⟨b,o,none⟩)) f).run P w= .ok (.pointer (some ⟨b,o+off,none⟩)) w
theorem fZ {t:TypeId} {x:Operand} {f off b o:Nat} (a:iE P t f off) (c:fT E x= .pointer (some ⟨b,o,none⟩)):gP P E ⟨d,.fieldAddr t x f,ty,pos,af,g⟩ W (.pointer (some ⟨b,o+off,none⟩)) W:=by
 show (do pure (.value (←Instr.fieldAt t (fT E x) f)):Sem Next).run P W=_
 rw [c]; simp [a b o W]
theorem vP {t:TypeId} {x:Operand} {f off:Nat} {v:Value} {ys:List Value} (a:List Value) (k:iE P t f off) (q:fT E x=v) (p:At μ v ys) (s:(ys.drop off).take a.length=a) :
  ∃h,At μ h a∧∀W,gP P E ⟨d,.fieldAddr t x f,ty,pos,af,g⟩ W h W:=by
 obtain ⟨b,o,cs,T,fr,rfl,h1,i⟩:=p
 refine ⟨_,⟨b,o+off,cs,T,fr,rfl,h1,λj y c=>?_⟩,λW=>fZ k q⟩
 have n:j < a.length:=(aR.1 c).1
 have:=i (off+j) y (by
  rw [←s,ct n,cM] at c
  exact c)
 rw [fx]
 exact this
theorem pb {x:Operand} {a:Addr} (c:fT E x= .pointer (some a)):gP P E ⟨d,.nilCheck x,ty,pos,af,g⟩ W (.pointer (some a)) W:=by
 unfold gP execOp
 simp [c]
theorem yf {α:Type} {R:lc α} {k:Nat} {t e:TypeId} {x h:Operand} {U:IntKind} {v:Value} {i:Int} {l:List α} {x0:α} (M:P.underlying t=some (.slice e)) (he:∀w,(sizeOf e).run P w= .ok k w) (O:fT E x=v) (hi:fT E h= .int U i) (L:Sl R k μ v l) (o:0≤i) (n:l[i.toNat]? =some x0) :
  ∃p ys,ys.length=k∧R μ ys x0∧At μ p ys∧∀W,gP P E ⟨d,.indexAddr t x h,ty,pos,af,g⟩ W p W:=by
 obtain ⟨A,c,rfl,Y,Z,q⟩:=L
 have J:i.toNat < l.length:=(aR.1 n).1
 obtain ⟨b,off,cs,T,fr,rfl,s,u⟩:=q (by omega)
 obtain ⟨ys,z,G,a⟩:=u i.toNat x0 n
 refine ⟨.pointer (some ⟨b,off+i.toNat*k,none⟩),ys,z,G,⟨b,off+i.toNat*k,cs,T,fr,rfl,s,λj y Q=>a j y Q⟩,λW=>?_⟩
 show (do pure (.value (←Instr.indexAt t (fT E x) (fT E h))):Sem Next).run P W=_
 rw [O,hi]
 have I:0≤i∧i < (l.length:Int):=⟨o,by omega⟩
 simp [Instr.indexAt,asIntOf,aN M,he W,I,cu]
theorem ll {α:Type} {enc:α→List Value} {k:Nat} {t e:TypeId} {x a:Operand} {y:IntKind} {v:Value} {i:Int} {l:List α} {x0:α} (s:P.underlying t=some (.slice e)) (he:∀w,(sizeOf e).run P w= .ok k w) (u:fT E x=v) (hi:fT E a= .int y i) (q:Sl (Pl enc) k μ v l) (c:0≤i) (o:l[i.toNat]? =some x0) :
  ∃p,At μ p (enc x0)∧∀W,gP P E ⟨d,.indexAddr t x a,ty,pos,af,g⟩ W p W:=by
 obtain ⟨p,ys,h1,h,j,n⟩:=yf (d:=d) (ty:=ty) (pos:=pos) (af:=af) (g:=g) s he u hi q c o
 cases h
 exact ⟨p,j,n⟩
theorem zq (P:Program) {W:World} {b off:Nat} {cs:Array Value} {T:TypeId} {fr:Nat×Nat} (a:W.heap[b]? =some (.cells cs T fr)) (ys:List Value) (d:∀j y,ys[j]? =some y→cs[off+j]? =some y) :
  (loadCells ⟨b,off,none⟩ ys.length).run P W= .ok ys.toArray W :=
 eZ W ⟨b,off,none⟩ ys (λj v c=>by rw [cu,dL W b (off+j) cs T fr a]; exact d j v c)
theorem tk {W:World} {t:TypeId} {b off:Nat} {cs:Array Value} {T:TypeId} {fr:Nat×Nat} (a:∀w,(isAgg t).run P w= .ok true w) (ys:List Value) (c:∀w,(sizeOf t).run P w= .ok ys.length w) (d:W.heap[b]? =some (.cells cs T fr)) (g:∀j y,ys[j]? =some y→cs[off+j]? =some y):(Instr.loadAt t (.pointer (some ⟨b,off,none⟩))).run P W= .ok (.agg ys.toArray) W:=by
 simp [Instr.loadAt,Instr.sureAddr,loadVar,a W,c W,zq P d ys g]
theorem tm {W:World} {t:TypeId} {b off:Nat} {cs:Array Value} {T:TypeId} {fr:Nat×Nat} (a:∀w,(isAgg t).run P w= .ok false w) {y:Value} (c:W.heap[b]? =some (.cells cs T fr)) (g:cs[off]? =some y):(Instr.loadAt t (.pointer (some ⟨b,off,none⟩))).run P W= .ok y W:=by
 have d:W.cell? ⟨b,off,none⟩=some y:=by rw [dL W b off cs T fr c]; exact g
 simp [Instr.loadAt,Instr.sureAddr,loadVar,a W,load,Sem.run,d]
theorem fU {t:TypeId} {x:Operand} {a v:Value} (h:fT E x=a) (c:(Instr.loadAt t a).run P W= .ok v W):gP P E ⟨d,.load t x,ty,pos,af,g⟩ W v W:=by
 show (do pure (.value (←Instr.loadAt t (fT E x))):Sem Next).run P W=_
 rw [h]; simp [c]
def kG (μ:gm) (A:List (Nat×Obj)) (W:World):Prop:=(∀b o,μ b=some o→W.heap[b]? =some o)∧∀b o,(b,o)∈A→W.heap[b]? =some o
theorem ST.has (h:ST dd F w W μ L):kG μ L W:=⟨h.mem,λb o a=>(h.box b o a).1⟩
theorem kG.sub {μ':gm} {A A':List (Nat×Obj)} (h:kG μ A W) (d:gf μ' μ) (c:∀p,p∈A'→p∈A):kG μ' A' W:=⟨λb o a=>h.1 b o (d b o a),λb o a=>h.2 b o (c _ a)⟩
theorem kf {A:List (Nat×Obj)} (hH:kG μ A W) {t:TypeId} {p:Value} {ys:List Value} (hp:At μ p ys) (c:∀w,(isAgg t).run P w= .ok true w) (d:∀w,(sizeOf t).run P w= .ok ys.length w) :
  (Instr.loadAt t p).run P W= .ok (.agg ys.toArray) W:=by
 obtain ⟨b,off,cs,T,fr,rfl,h1,a⟩:=hp
 exact tk c ys d (hH.1 _ _ h1) a
theorem nT {A:List (Nat×Obj)} (hH:kG μ A W) {t:TypeId} {p y:Value} (hp:At μ p [y]) (c:∀w,(isAgg t).run P w= .ok false w) :
  (Instr.loadAt t p).run P W= .ok y W:=by
 obtain ⟨b,off,cs,T,fr,rfl,h1,a⟩:=hp
 exact tm c (hH.1 _ _ h1) (a 0 y rfl)
theorem fY {A:List (Nat×Obj)} (hH:kG μ A W) {t:TypeId} {b off:Nat} {cs:Array Value} {T:TypeId} {fr:Nat×Nat} (g:(b,Obj.cells cs T fr)∈A) (ys:List Value) (i:(cs.toList.drop off).take ys.length=ys) (d:∀w,(isAgg t).run P w= .ok true w) (h:∀w,(sizeOf t).run P w= .ok ys.length w):(Instr.loadAt t (.pointer (some ⟨b,off,none⟩))).run P W= .ok (.agg ys.toArray) W :=
 tk d ys h (hH.2 _ _ g) (λj y a=>by
  have c:j < ys.length:=(aR.1 a).1
  rw [←i,ct c,cM] at a
  simpa using a)
theorem gh {A:List (Nat×Obj)} (hH:kG μ A W) {t:TypeId} {b off:Nat} {cs:Array Value} {T:TypeId} {fr:Nat×Nat} (c:(b,Obj.cells cs T fr)∈A) {y:Value} (d:cs[off]? =some y) (a:∀w,(isAgg t).run P w= .ok false w):(Instr.loadAt t (.pointer (some ⟨b,off,none⟩))).run P W= .ok y W :=
 tm a (hH.2 _ _ c) d
theorem ia {t:TypeId} {a:Array (Nat×Operand)} {c:Array (Nat×Value)} {v:Value} (h:a.map (λ(i,x)=>(i,fT E x))=c) (j:∀W,(Instr.build t c).run P W= .ok v W):gP P E ⟨d,.build t a,ty,pos,af,g⟩ W v W:=by
 show (do pure (.value (←Instr.build t (a.map λ(i,x)=>(i,fT E x)))):Sem Next).run P W=_
 rw [h]; simp [j W]
theorem gG {t:TypeId} {z cs:Array Value} {a:Array Field} {c:Array (Nat×Value)} {pl:Array (Nat×Nat)} (h:∀w,(zeroValue t).run P w= .ok (.agg z) w) (g:P.underlying t=some (.struct a)) (hp:∀w,(a.mapM λf=>do pure (f.offset,←sizeOf f.type):Sem (Array (Nat×Nat))).run P w= .ok pl w) (d:Instr.fill (pl[·]?) z c.toList=some cs) (W:World):(Instr.build t c).run P W= .ok (.agg cs) W:=by
 simp only [Instr.build,bE,h W,bn,aN g,Value.cells]
 rw [hp W]
 simp only [bn,d,cv]
end
theorem vF {α:Type}:∀(a:Ask α) (w:World),w.drawn≤(w.ask a).2.drawn
 | .done a,w=>by simp [World.ask]
 | .ask c range k,w=>by
  unfold World.ask
  dsimp only
  split
  ·exact vF (k 0) w
  ·refine cd (fi w.drawn) ?_
   exact vF _ { w with drawn:=w.drawn+1 }
theorem EP (w:World) (c:Sys):w.drawn≤(w.sys c).2.drawn:=by
 have h:=vF (Kernel.perform c w.os) w
 unfold World.sys
 generalize w.ask (Kernel.perform c w.os)=r at *
 obtain ⟨⟨a,d⟩,g⟩:=r
 cases a <;> simp at h ⊢ <;> exact h
theorem xG {p:Program} {w c:World} {a:Addr} {u:TypeId} {k:Addr} {v:Value} {b:Bool} {l:List Addr} (h:w.viewStore p a u k v b= .ok (c,l)):c.drawn=w.drawn:=by
 unfold World.viewStore at h
 simp only [bind,Except.bind,pure,Except.pure] at h
 split at h
 ·cases h
 ·split at h
  ·cases h
  ·split at h
   ·split at h
    ·cases h
    ·split at h
     ·cases h
     ·cases h; rfl
   ·cases h
theorem yv {p:Program} {w c:World} {a:Addr} {v:Value} {b:Bool} {l:List Addr} (h:w.farStore p a v b= .ok (c,l)):c.drawn=w.drawn:=by
 unfold World.farStore at h
 split at h
 ·split at h
  ·rename_i h1; cases h; exact xG h1
  ·cases h
 ·cases h
theorem jI {α:Type} {p:Program}:∀(s:Sem α) (w d:World) (a:α),s.run p w= .ok a d→w.drawn≤d.drawn
 | .pure a,w,d,b,h=>by simp only [Sem.run] at h; cases h; exact bl _
 | .load m a k,w,d,b,h=>by
  simp only [Sem.run] at h
  split at h
  ·exact jI _ _ _ _ h
  ·split at h
   ·exact jI _ _ _ _ h
   ·cases h
 | .store m a v k,w,d,b,h=>by
  have key:∀(r:Result α) i,r= .ok b d→(r=(match w.cell? a with
    | some _=>if w.frozen? a then .halt i w else k.run p (w.setCell a v)
    | none=>match w.farStore p a v (m==.atomic) with
     | .ok (w,_)=>k.run p w
     | .error h=>.halt h w))→w.drawn≤d.drawn:=by
   intro r i j h
   rw [j] at h
   split at h
   ·split at h
    ·cases h
    ·have:=jI k _ _ _ h.symm
     simpa [World.setCell] using this
   ·split at h
    ·rename_i h1
     have g:=jI k _ _ _ h.symm
     rw [yv h1] at g
     exact g
    ·cases h
  cases v with
  | agg cs=>simp only [Sem.run] at h; cases h
  | tuple cs=>simp only [Sem.run] at h; cases h
  | _=>exact key _ _ h (by simp only [Sem.run]; rfl)
 | .new o k,w,d,b,h=>by simp only [Sem.run] at h; have:=jI (k _) _ _ _ h; exact this
 | .shape r k,w,d,b,h=>by simp only [Sem.run] at h; exact jI _ _ _ _ h
 | .freeze a n k,w,d,b,h=>by
  simp only [Sem.run] at h
  have:=jI k _ _ _ h
  unfold World.freeze at this
  split at this <;> exact this
 | .frozen a k,w,d,b,h=>by simp only [Sem.run] at h; exact jI _ _ _ _ h
 | .getObj r k,w,d,b,h=>by
  simp only [Sem.run] at h
  split at h <;> try (cases h; done)
  exact jI _ _ _ _ h
 | .setObj r o k,w,d,b,h=>by
  simp only [Sem.run] at h
  split at h <;> try (cases h; done)
  have:=jI k _ _ _ h
  exact this
 | .choose q k,w,d,b,h=>by
  simp only [Sem.run] at h
  split at h
  ·exact jI _ _ _ _ h
  ·exact cd (fi _) (jI _ _ _ _ h)
 | .sys c k,w,d,b,h=>by
  simp only [Sem.run] at h
  exact cd (EP w c) (jI _ _ _ _ h)
 | .program k,w,d,b,h=>by simp only [Sem.run] at h; exact jI _ _ _ _ h
 | .mark m k,w,d,b,h=>by simp only [Sem.run] at h; exact jI k _ _ _ h
 | .halt x,w,d,b,h=>by simp only [Sem.run] at h; cases h
end Go.Proofs.YtjjjihkifgdhgaaGreatDoor
namespace Go.Proofs.YtjjjihkifgdhgaaGreatDoor
open Go.RowKit
variable [M:Md]
variable {dd:Bool}
section
variable {P:Program} {n:Nat} {Q:jc} {E:Nat→Value} {W:World} {ops:Array Oper} {rest:List Oper}
 {d:Option Nat} {ty:TypeId} {pos:String} {af:Array Edge} {g:Option (Nat×Bool)}
 {F:Nat→Prop} {w:World} {μ:gm} {L:List (Nat×Obj)}
def jt (P:Program) (E:Nat→Value) (o:Oper) (W:World) (K:Value→World→Prop):Prop :=
 (∃v W',(execOp (fT E) o).run P W= .ok (.value v) W'∧K v W')∨(∃W',(execOp (fT E) o).run P W= .ok .skip W'∧K undef W')∨
 (∃f args,(execOp (fT E) o).run P W= .ok (.enter f args) W∧Calls P f args W λe a=>∃v,e= .returned v∧K v a)
theorem jt.mono {o:Oper} {K K':Value→World→Prop} (h:jt P E o W K) (hk:∀v W',K v W'→K' v W'):jt P E o W K':=by
 rcases h with ⟨v,W',h1,a⟩ | ⟨W',h1,a⟩ | ⟨f,args,h1,a⟩
 ·exact .inl ⟨v,W',h1,hk _ _ a⟩
 ·exact .inr (.inl ⟨W',h1,hk _ _ a⟩)
 ·exact .inr (.inr ⟨f,args,h1,bk a (λ_ _ ⟨v,c,d⟩=>⟨v,c,hk _ _ d⟩)⟩)
theorem Hp {o:Oper} {dd:Nat} (hw:jd n ops E o) (d:o.dst=some dd) (g:dd < n) (h:jt P E o W λv W'=>LW P n ops Q rest (iL E dd v) W'):LW P n ops Q (o::rest) E W:=by
 rcases h with ⟨v,W',h1,c⟩ | ⟨W',h1,c⟩ | ⟨f,args,h1,c⟩
 ·exact DP hw d g h1 c
 ·intro a ha
  unfold wpListIn
  rw [aJ (hw.of ha)]
  unfold Oper.wpIn
  refine ⟨λ_ _=>trivial,?_⟩
  rw [ha.eval,qN h1 (by simp),Oper.uponIn_skip,d]
  exact c _ (ha.put g _)
 ·exact Fp hw d g h1 c
theorem H5 {o:Oper} (hw:jd n ops E o) (d:o.dst=none) (h:jt P E o W λ_ W'=>LW P n ops Q rest E W'):LW P n ops Q (o::rest) E W:=by
 rcases h with ⟨v,W',h1,c⟩ | ⟨W',h1,c⟩ | ⟨f,args,h1,c⟩
 ·intro a ha
  unfold wpListIn
  rw [aJ (hw.of ha)]
  unfold Oper.wpIn
  refine ⟨λ_ _=>trivial,?_⟩
  rw [ha.eval,qN h1 (by simp),Oper.uponIn_value,d]
  exact c _ (ha.np _)
 ·exact FF hw d h1 c
 ·intro a ha
  unfold wpListIn
  rw [aJ (hw.of ha)]
  unfold Oper.wpIn
  refine ⟨λ_ _=>trivial,?_⟩
  rw [ha.eval,qN h1 (by simp),Oper.uponIn_enter]
  refine vT (bk c ?_)
  rintro e i ⟨v,rfl,g⟩
  simp only [d]
  exact g _ (ha.np _)
theorem jr {K:Value→World→Prop} {t:TypeId} {x:Operand} {v:Value} (a:ST dd F w W μ L) (c:fT E x=v) (h:∀W' b,ST dd F w W' μ ((b,.cells v.cells t (0,0))::L)→K (.pointer (some ⟨b,0,none⟩)) W'):jt P E ⟨d,.box t x,ty,pos,af,g⟩ W K :=
 .inl ⟨.pointer (some ⟨W.heap.size,0,none⟩),W.alloc (.cells v.cells t (0,0)),by
   show (do pure (.value (←Instr.box t (fT E x))):Sem Next).run P W=_
   rw [c]
   simp [Instr.box,newVar,newRow,newObj,Sem.run],h _ _ (a.alloc _)⟩
theorem gy {K:Value→World→Prop} {t:TypeId} {z:Value} (a:ST dd F w W μ L) (c:∀w,(zeroValue t).run P w= .ok z w) (h:∀W' b,ST dd F w W' μ ((b,.cells z.cells t (0,0))::L)→K (.pointer (some ⟨b,0,none⟩)) W'):jt P E ⟨d,.alloc t,ty,pos,af,g⟩ W K :=
 .inl ⟨.pointer (some ⟨W.heap.size,0,none⟩),W.alloc (.cells z.cells t (0,0)),by
   show (do pure (.value (←Instr.alloc t true (.tuple #[]))):Sem Next).run P W=_
   simp [Instr.alloc,c W,newVar,newRow,newObj,Sem.run],h _ _ (a.alloc _)⟩
theorem xW {t e:TypeId} {m k:Nat} {z:Value} {d:Array (Nat×Value)} {cs:Array Value} (h:P.underlying t=some (.slice e)) (g:∀w,(sizeOf e).run P w= .ok k w) (j:∀w,(zeroValue e).run P w= .ok z w) (hm:m*k≤16777216) (a:Instr.fill (λi=>some (i*k,k)) ((Array.range (m*k)).map (λi=>(if m*k=0 then (#[]:Array Value) else z.cells)[i % (if m*k=0 then (#[]:Array Value) else z.cells).size]!)) d.toList=some cs) (W:World) :
  (Instr.buildSlice t m d).run P W= .ok (.slice (some ⟨W.heap.size,0,none⟩) m m) (W.alloc (.cells cs e (0,0))):=by
 simp only [Instr.buildSlice,bE,aN h,bn,g W]
 rw [aK (by omega)]
 by_cases c:m*k=0
 ·simp only [c,bu] at a ⊢
  simp only [bE,cv,bn,a]
  simp [newRow,newObj,Sem.run]
 ·simp only [c,aQ] at a ⊢
  simp only [bE,j W,cv,bn,a]
  simp [newRow,newObj,Sem.run]
theorem iy {K:Value→World→Prop} {t e:TypeId} {m:Nat} {c:Array (Nat×Operand)} {j:Array (Nat×Value)} {cs:Array Value} (a:ST dd F w W μ L) (k:c.map (λ(i,x)=>(i,fT E x))=j) (n:∀W,(Instr.buildSlice t m j).run P W= .ok (.slice (some ⟨W.heap.size,0,none⟩) m m) (W.alloc (.cells cs e (0,0)))) (h:∀W' b,ST dd F w W' μ ((b,.cells cs e (0,0))::L)→K (.slice (some ⟨b,0,none⟩) m m) W'):jt P E ⟨d,.buildSlice t m c,ty,pos,af,g⟩ W K :=
 .inl ⟨.slice (some ⟨W.heap.size,0,none⟩) m m,W.alloc (.cells cs e (0,0)),by
   show (do pure (.value (←Instr.buildSlice t m (c.map λ(i,x)=>(i,fT E x)))):Sem Next).run P W=_
   rw [k]
   simp [n W],h _ _ (a.alloc _)⟩
theorem ST.store {A B:List (Nat×Obj)} {b:Nat} {cs:Array Value} {t:TypeId} (a:ST dd F w W μ (A++(b,.cells cs t (0,0))::B)) (cs':Array Value) :
  ST dd F w (W.setRow b cs') μ (A++(b,.cells cs' t (0,0))::B):=by
 have c:=(a.box b _ (by simp:(b,Obj.cells cs t (0,0))∈A++(b,.cells cs t (0,0))::B)).1
 refine a.put ⟨rfl,rfl,rfl,bl _,by simp [World.setRow]⟩ (λk hk=>?_) (setRow_heap W b cs cs' t (0,0) c)
 simp only [World.setRow,ew]
 rw [aK (λe=>hk e.symm)]
theorem tz (P:Program) {W:World} {t:TypeId} {b off:Nat} {cs:Array Value} {T:TypeId} (v:Value) (a:∀w,(sizeOf t).run P w= .ok v.cells.size w) (h1:∀u∈v.cells.toList,u.oneCell'=true) (c:W.heap[b]? =some (.cells cs T (0,0))) (d:off+v.cells.size≤cs.size):(Instr.storeAt t (.pointer (some ⟨b,off,none⟩)) v).run P W= .ok () (W.setRow b (cs.toList.take off++v.cells.toList++cs.toList.drop (off+v.cells.size)).toArray):=by
 have:=run_storeCells_at (P:=P) b off T v.cells.toList 0 cs W c (by simpa using d) h1
 simp [Instr.storeAt,Instr.sureAddr,storeVar,a W]
 simpa using this
theorem rY {K:Value→World→Prop} (A:List (Nat×Obj)) {B:List (Nat×Obj)} {t:TypeId} {x y:Operand} (v:Value) {b off:Nat} {cs:Array Value} {T:TypeId} (cs':Array Value) (a:ST dd F w W μ (A++(b,.cells cs T (0,0))::B)) (n:fT E x= .pointer (some ⟨b,off,none⟩)) (o:fT E y=v) (c:∀w,(sizeOf t).run P w= .ok v.cells.size w) (h1:∀u∈v.cells.toList,u.oneCell'=true) (k:off+v.cells.size≤cs.size) (j:(cs.toList.take off++v.cells.toList++cs.toList.drop (off+v.cells.size)).toArray=cs') (h:∀W',ST dd F w W' μ (A++(b,.cells cs' T (0,0))::B)→K undef W'):jt P E ⟨d,.store t x y,ty,pos,af,g⟩ W K :=
 .inr (.inl ⟨W.setRow b cs',by
   show (do Instr.storeAt t (fT E x) (fT E y); pure .skip:Sem Next).run P W=_
   have i:=(a.box b _ (by simp:(b,Obj.cells cs T (0,0))∈A++(b,.cells cs T (0,0))::B)).1
   rw [n,o]
   simp only [bE,tz P v c h1 i k,j,bn,cv],h _ (a.store cs')⟩)
def gz (dd:Bool) (P:Program) (f:FuncId) (args:List Value) (w:World) (v:Value):Prop:=Calls P f args.toArray w λe a=>e= .returned v∧Ex dd w a
theorem yE {f:FuncId} {fv:Operand} {ax:Array Operand} {ats:Array TypeId} {caps args:Array Value} (a:fT E fv= .func (.func f) #[] caps) (he:∀args w,(callFunc f args).run P w= .ok (.enter f args) w) (ha:ax.map (fT E)++caps=args) :
  (execOp (fT E) ⟨d,.call ⟨.value fv,ax,ats⟩,ty,pos,af,g⟩).run P W= .ok (.enter f args) W:=by
 show (do let d ←resolve (fT E) ⟨.value fv,ax,ats⟩ ty; invoke d.target d.args:Sem Next).run P W=_
 rw [←ha]
 simp only [resolve,a,Deferred.ofValue,bE,cv,bn,invoke]
 simp [he]
theorem vY {K:Value→World→Prop} {f:FuncId} {fv:Operand} {ax:Array Operand} {ats:Array TypeId} {caps args:Array Value} (a:fT E fv= .func (.func f) #[] caps) (he:∀args w,(callFunc f args).run P w= .ok (.enter f args) w) (ha:ax.map (fT E)++caps=args) (h:Calls P f args W λe c=>∃v,e= .returned v∧K v c):jt P E ⟨d,.call ⟨.value fv,ax,ats⟩,ty,pos,af,g⟩ W K :=
 .inr (.inr ⟨f,args,yE a he ha,h⟩)
theorem Cp {K:Value→World→Prop} {f:FuncId} {fv:Operand} {ax:Array Operand} {ats:Array TypeId} {args:List Value} {v:Value} (a:ST dd F w W μ L) (j:fT E fv= .func (.func f) #[] #[]) (he:∀args w,(callFunc f args).run P w= .ok (.enter f args) w) (ha:(ax.map (fT E)++(#[]:Array Value))=args.toArray) (i:gz dd P f args W v) (h:∀W',ST dd F w W' μ L→K v W'):jt P E ⟨d,.call ⟨.value fv,ax,ats⟩,ty,pos,af,g⟩ W K :=
 vY j he ha (bk i (λ_ _ ⟨h1,c⟩=>⟨v,h1,h _ (a.zK c)⟩))
def gB {α:Type} (e:TypeId) (enc:α→List Value) (k:Nat) (v:Value) (l:List α) (R:List (Nat×Obj)):Prop :=
 (v= .slice none 0 0∧l=[]∧R=[])∨
 ∃g cap a,v= .slice (some ⟨g,0,none⟩) l.length cap∧R=[(g,.cells a e (0,0))]∧l.length≤cap∧cap≤maxLen∧a.size=cap*k∧a.toList.take (l.length*k)=(l.map enc).flatten
theorem mo {α:Type} {enc:α→List Value} {k:Nat} (hk:∀x,(enc x).length=k):∀l:List α,(l.map enc).flatten.length=l.length*k
 | []=>by simp
 | x::l=>by simp [mo hk l,hk x,bZ,Nat.add_comm]
theorem pR {α:Type} {enc:α→List Value} {k:Nat} (hk:∀x,(enc x).length=k):∀(l:List α) (i:Nat) (x:α),l[i]? =some x→∀j y,(enc x)[j]? =some y→(l.map enc).flatten[i*k+j]? =some y
 | [],i,x,h=>by cases h
 | z::l,0,x,h=>by
  simp at h; subst h
  intro j y a
  have c:j < (enc z).length:=(aR.1 a).1
  simp [dM,c]
  rw [bN c] at a
  simpa using a
 | z::l,i+1,x,h=>by
  intro j y a
  have:=pR hk l i x (by simpa using h) j y a
  simp only [aY,bU]
  rw [cA (by rw [hk z]; have:=Nat.le_mul_of_pos_left k (Nat.succ_pos i); simp [bZ] at *; omega),hk z]
  rw [show (i+1)*k+j-k=i*k+j by rw [bZ]; omega]
  exact this
theorem AN {α:Type} {enc:α→List Value} {k:Nat} (hk:∀x,(enc x).length=k):∀(l:List α) (q:Nat) (y:Value),(l.map enc).flatten[q]? =some y→∃i x j,l[i]? =some x∧(enc x)[j]? =some y∧q=i*k+j
 | [],q,y,h=>by simp at h
 | z::l,q,y,h=>by
  simp only [aY,bU] at h
  by_cases c:q < k
  ·rw [cH (by rw [hk]; exact c)] at h
   exact ⟨0,z,q,rfl,h,by simp⟩
  ·rw [cA (by rw [hk]; omega),hk] at h
   obtain ⟨i,x,j,h1,a,d⟩:=AN hk l (q-k) y h
   exact ⟨i+1,x,j,by simpa using h1,a,by rw [bZ]; omega⟩
theorem gB.nil {α:Type} (e:TypeId) (enc:α→List Value) (k:Nat):gB e enc k (.slice none 0 0) [] []:=.inl ⟨rfl,rfl,rfl⟩
theorem gB.sl {α:Type} {e:TypeId} {enc:α→List Value} {k:Nat} {v:Value} {l:List α} {R:List (Nat×Obj)} {m:gm} (h:gB e enc k v l R) (hk:∀x,(enc x).length=k) (hm:∀b o,(b,o)∈R→m b=some o):Sl (Pl enc) k m v l:=by
 rcases h with ⟨rfl,rfl,rfl⟩ | ⟨g,cap,a,rfl,rfl,h1,d,s,n⟩
 ·exact Sl.nil _ _ _
 ·refine ⟨_,cap,rfl,h1,d,λ_=>⟨g,0,a,e,(0,0),rfl,hm _ _ (by simp),λi x p=>⟨enc x,hk x,rfl,λj y q=>?_⟩⟩⟩
  have:=pR hk l i x p j y q
  rw [←n] at this
  have c:i*k+j < l.length*k:=by
   have:=(aR.1 this).1
   simp at this; omega
  rw [ct c] at this
  simpa using this
theorem gB.len {α:Type} {e:TypeId} {enc:α→List Value} {k:Nat} {v:Value} {l:List α} {R:List (Nat×Obj)} (h:gB e enc k v l R):l.length≤9223372036854775807:=by
 rcases h with ⟨rfl,rfl,rfl⟩ | ⟨g,cap,a,rfl,rfl,h1,c,d,i⟩
 ·simp
 ·unfold maxLen at c; omega
theorem gB.fr {α:Type} {e:TypeId} {enc:α→List Value} {k:Nat} {v:Value} {l:List α} {R X Y:List (Nat×Obj)} (h:gB e enc k v l R) (a:ST dd iv w W μ (X++(R++Y))):Fr w.heap.size v:=by
 rcases h with ⟨rfl,rfl,rfl⟩ | ⟨g,cap,d,rfl,rfl,h1,i,j,n⟩
 ·exact Fr.nil _
 ·intro b c
  simp [Value.ownBlock] at c
  subst c
  rcases (a.box g _ (by simp; exact .inr (.inl rfl))).2.2 with h | h
  ·exact h
  ·exact h.elim
theorem gB.lit {α:Type} {e:TypeId} {enc:α→List Value} {k b m:Nat} {l:List α} {cs:Array Value} (hm:l.length=m) (c:m≤maxLen) (d:cs.toList=(l.map enc).flatten) (a:cs.size=m*k):gB e enc k (.slice (some ⟨b,0,none⟩) m m) l [(b,.cells cs e (0,0))]:=by
 subst hm
 refine .inr ⟨b,_,cs,rfl,rfl,bl _,c,a,?_⟩
 rw [←d,←a]
 exact cC (by rw [bP]; exact bl _)
def ja {α:Type} (a:Nat) (l m:List α):Option (List α):=if (l.length+m.length)*a≤140737488355328∧l.length+m.length≤maxLen then some (l++m) else none
theorem Fv {K:Value→World→Prop} {α:Type} {e t:TypeId} {enc:α→List Value} {k ab:Nat} {z v vs:Value} {l m r:List α} {R:List (Nat×Obj)} (X:List (Nat×Obj)) {Y:List (Nat×Obj)} {x y:Operand} {i:TypeInfo} (p:ST dd F w W μ (X++(R++Y))) (hk:∀x,(enc x).length=k) (b4:0 < k) (h1:∀x,∀u∈enc x,u.oneCell'=true) (ht:P.underlying t=some (.slice e)) (hi:P.info? e=some i) (hz:i.zero=some z) (b9:z.cells.size=k) (b5:i.size=k) (b2:i.bytes=ab) (hx:fT E x=v) (hy:fT E y=vs) (hR:gB e enc k v l R) (hs:Sl (Pl enc) k (hp W) vs m) (n:ja ab l m=some r) (h:∀W' v' R',ST dd F w W' μ (X++(R'++Y))→gB e enc k v' r R'→K v' W'):jt P E ⟨d,.call ⟨.builtin .append,#[x,y],#[t,t]⟩,ty,pos,af,g⟩ W K:=by
 unfold ja at n
 split at n
 case isFalse=>cases n
 rename_i aj
 cases n
 have aa:∀(V:Value) (W':World),(Builtin.append_ #[t,t] ty #[v,vs]).run P W= .ok V W'→(execOp (fT E) ⟨d,.call ⟨.builtin .append,#[x,y],#[t,t]⟩,ty,pos,af,g⟩).run P W= .ok (.value V) W':=by
  intro V W' hV
  show (do let d ←resolve (fT E) ⟨.builtin .append,#[x,y],#[t,t]⟩ ty; invoke d.target d.args:Sem Next).run P W=_
  simp [resolve,invoke,builtin,hx,hy,hV]
 obtain ⟨A,c,rfl,bd,bf,b3⟩:=hs
 have a8:W.ownsRow 0 e k v l.length (l.map enc).flatten:=by
  refine ⟨mo hk l,?_⟩
  rcases hR with ⟨rfl,rfl,rfl⟩ | ⟨g,cap,J,rfl,rfl,h1,h2,h3,h4⟩
  ·exact .inl ⟨rfl,rfl⟩
  ·exact .inr ⟨g,cap,J,rfl,dN _,(p.box g _ (by simp)).1,h1,h2,h3,h4⟩
 have au:m.length=0∨∃ad,A=some ad∧∀j u,(m.map enc).flatten[j]? =some u→W.cell? (ad.add j)=some u:=by
  rcases cy m.length with O | O
  ·exact .inl O
  ·obtain ⟨b,off,cs,T,fr,rfl,h6,h7⟩:=b3 O
   refine .inr ⟨⟨b,off,none⟩,rfl,λj u hu=>?_⟩
   obtain ⟨i,x,q,h8,h9,rfl⟩:=AN hk m j u hu
   obtain ⟨ys,_,aw,aE⟩:=h7 i x h8
   cases aw
   rw [cu,dL W b (off+(i*k+q)) cs T fr h6,←fx]
   exact aE q u h9
 have ar:∀u∈(m.map enc).flatten,u.oneCell'=true:=by
  intro u hu
  obtain ⟨ys,b7,b6⟩:=List.mem_flatten.1 hu
  obtain ⟨x,_,rfl⟩:=bt.1 b7
  exact h1 x u b6
 by_cases ao:m.length=0
 ·have hm:m=[]:=cq ao
  subst hm
  have hr:(Builtin.append_ #[t,t] ty #[v,.slice A 0 c]).run P W= .ok v W:=by
   rcases a8.2 with ⟨rfl,O⟩ | ⟨g,cap,J,rfl,_,hg,ap,_,bh,_⟩
   ·cases A with
    | none=>simp [Builtin.append_,aN ht,sizeOf,typeInfo,hi,Builtin.lenOf,Builtin.firstCells]
    | some ad=>simp [Builtin.append_,aN ht,sizeOf,typeInfo,hi,Builtin.lenOf,Builtin.firstCells,loadCells,loadCellsFrom]
   ·cases A with
    | none=>simp [Builtin.append_,aN ht,sizeOf,typeInfo,hi,Builtin.lenOf,Builtin.firstCells,ap,storeCells]
    | some ad=>simp [Builtin.append_,aN ht,sizeOf,typeInfo,hi,Builtin.lenOf,Builtin.firstCells,loadCells,loadCellsFrom,ap,storeCells]
  exact .inl ⟨v,W,aa _ _ (by simpa using hr),by simpa using h W v R p (by simpa using hR)⟩
 rcases au with O | ⟨ad,rfl,a1⟩
 ·exact absurd O ao
 obtain ⟨v',W',hr,ah,s,bc,M⟩:=run_append_own_at (P:=P) W 0 t ty e i z k ab ht hi hz b5 b2 b9 b4 v l.length (l.map enc).flatten a8 ad m.length c (m.map enc).flatten (mo hk m) a1 ar aj.2 aj.1 (dN _)
 have ae:=jI _ _ _ _ hr
 refine .inl ⟨v',W',aa _ _ hr,?_⟩
 have hlen:(l++m).length=l.length+m.length:=by simp
 rcases ah.2 with ⟨_,O⟩ | ⟨U,a6,a7,rfl,_,ag,ba,ak,al,av⟩
 ·omega
 have ai:gB e enc k (.slice (some ⟨U,0,none⟩) (l.length+m.length) a6) (l++m) [(U,.cells a7 e (0,0))] :=
  .inr ⟨U,a6,a7,by rw [hlen],rfl,by omega,ak,al,by rw [hlen,av]; simp⟩
 refine h W' _ _ ?_ ai
 have aq:=p.nd
 rcases hR with ⟨rfl,rfl,rfl⟩ | ⟨g,cap,J,rfl,rfl,q1,q2,q3,q4⟩
 ·-- nil: a new block
  have Z:W.heap.size≤U:=by
   rcases M with h | h <;> simp [Value.ownBlock] at h
   omega
  have hex:Ex dd W W':=⟨s.os,s.tape,s.output,mb.of ae,s.size,λb n=>s.block b n (by simp [Value.ownBlock])⟩
  have h1:=p.zK hex
  refine ⟨h1.os,h1.tape,h1.output,h1.drawn,h1.size,h1.ki,h1.mem,λb o n=>?_,?_⟩
  ·simp only [aU,aM] at n
   rcases n with n | n | n
   ·exact h1.box b o (by simp [n])
   ·cases n
    refine ⟨ag,?_,.inl (cd p.size Z)⟩
    cases hm:μ U with
    | none=>rfl
    | some x=>have:=p.vU hm; omega
   ·exact h1.box b o (by simp [n])
  ·simp only [bD,bB,aY,List.singleton_append] at aq ⊢
   refine (eP eB).2 (cE.2 ⟨λhm=>?_,aq⟩)
   rw [←bB] at hm
   obtain ⟨⟨b,o⟩,n,L⟩:=bt.1 hm
   have b1:(b,o)∈X++([]++Y):=by simpa using n
   have:=p.xj b1
   simp at L
   omega
 ·by_cases an:U=g
  ·subst an
   have O:ST dd F w W μ (X++(U,Obj.cells J e (0,0))::Y):=by simpa using p
   have hold:∀b,b < W.heap.size→b≠U→W'.heap[b]? =W.heap[b]?:=λb n I=>s.block b n (by simp [Value.ownBlock]; exact I)
   have G:=O.nd
   simp only [bB,aY] at G
   have I:∀b o,(b,o)∈X++Y→b≠U:=λb o n L=>by
    subst L
    rcases aU.1 n with n | n
    ·exact (bz.1 G).2.2 b (bt.2 ⟨_,n,rfl⟩) b (by simp) rfl
    ·exact (cE.1 (bz.1 G).2.1).1 (bt.2 ⟨_,n,rfl⟩)
   have Q:=O.box U (Obj.cells J e (0,0)) (by simp)
   refine ⟨s.os.trans p.os,s.tape.trans p.tape,s.output.trans p.output,mb.trans p.drawn (mb.of ae),cd p.size s.size,λb n hF=>?_,λb o n=>?_,λb o n=>?_,by simpa using G⟩
   ·rw [hold b (cg n p.size) (λL=>by subst L; rcases Q.2.2 with h | h; omega; exact hF h)]
    exact p.ki b n hF
   ·rw [hold b (p.vU n) (λL=>by subst L; rw [Q.2.1] at n; cases n)]
    exact p.mem b o n
   ·simp only [aU,aM] at n
    rcases n with n | n | n
    ·obtain ⟨r1,r2⟩:=p.box b o (by simp [n])
     exact ⟨by rw [hold b (jx r1) (I b o (by simp [n]))]; exact r1,r2⟩
    ·cases n; exact ⟨ag,Q.2⟩
    ·obtain ⟨r1,r2⟩:=p.box b o (by simp [n])
     exact ⟨by rw [hold b (jx r1) (I b o (by simp [n]))]; exact r1,r2⟩
  ·have Z:W.heap.size≤U:=by
    rcases M with h | h <;> simp [Value.ownBlock] at h
    ·exact absurd h an
    ·omega
   have O:ST dd F w W μ (X++(g,Obj.cells J e (0,0))::Y):=by simpa using p
   have Q:=O.box g (Obj.cells J e (0,0)) (by simp)
   have G:=O.nd
   simp only [bB,aY] at G
   have I:∀b o,(b,o)∈X++Y→b≠g:=λb o n L=>by
    subst L
    rcases aU.1 n with n | n
    ·exact (bz.1 G).2.2 b (bt.2 ⟨_,n,rfl⟩) b (by simp) rfl
    ·exact (cE.1 (bz.1 G).2.1).1 (bt.2 ⟨_,n,rfl⟩)
   have hold:∀b,b < W.heap.size→b≠g→W'.heap[b]? =W.heap[b]?:=λb n I=>s.block b n (by simp [Value.ownBlock]; exact I)
   refine ⟨s.os.trans p.os,s.tape.trans p.tape,s.output.trans p.output,mb.trans p.drawn (mb.of ae),cd p.size s.size,λb n hF=>?_,λb o n=>?_,λb o n=>?_,?_⟩
   ·rw [hold b (cg n p.size) (λL=>by subst L; rcases Q.2.2 with h | h; omega; exact hF h)]
    exact p.ki b n hF
   ·rw [hold b (p.vU n) (λL=>by subst L; rw [Q.2.1] at n; cases n)]
    exact p.mem b o n
   ·simp only [aU,aM] at n
    rcases n with n | n | n
    ·obtain ⟨r1,r2⟩:=p.box b o (by simp [n])
     exact ⟨by rw [hold b (jx r1) (I b o (by simp [n]))]; exact r1,r2⟩
    ·cases n
     refine ⟨ag,?_,.inl (cd p.size Z)⟩
     cases hm:μ U with
     | none=>rfl
     | some x=>have:=p.vU hm; omega
    ·obtain ⟨r1,r2⟩:=p.box b o (by simp [n])
     exact ⟨by rw [hold b (jx r1) (I b o (by simp [n]))]; exact r1,r2⟩
   ·have b0:(X.map (·.1)++Y.map (·.1)).Nodup:=(cE.1 ((eP eB).1 G)).2
    simp only [bB,aY,List.singleton_append]
    refine (eP eB).2 (cE.2 ⟨λhm=>?_,b0⟩)
    rw [←bB] at hm
    obtain ⟨⟨b,o⟩,n,L⟩:=bt.1 hm
    have:=p.xj (b:=b) (o:=o) (by rcases aU.1 n with h | h <;> simp [h])
    simp at L
    omega
end
end Go.Proofs.YtjjjihkifgdhgaaGreatDoor
namespace Go.Proofs.YtjjjihkifgdhgaaGreatDoor
open Go.RowKit
variable [M:Md]
def oC (l:List Value):Nat→Value:=λt=>l.getD t undef
def nI (P:Program) (fn:Func) (R:Ending→World→Prop):jc
 | .normal,E,W | .ret,E,W=>∃v,(∀tmps:Array Value,(∀t,tmps.getD t undef=E t)→(results fn tmps).run P W= .ok v W)∧R (.returned v) W
 | _,_,_=>False
theorem pI {P:Program} {f:FuncId} {fn:Func} {c:Code} {args:List Value} {w:World} {R:Ending→World→Prop} {n:Nat} (q:P.funcs[f]? =some fn) (p:fn.body=some c) (s:fn.ntmps=n) (ha:args.length≤n) (h:@CW qj P n c (nI P fn R) (oC args) w):Calls P f args.toArray w R:=by
 refine calls_of_wp q p ?_
 have j:@Ag qj n { tmps:=args.toArray++Array.replicate (fn.ntmps-args.toArray.size) undef,defers:=[] } (oC args):=by
  refine ⟨by simp; omega,rfl,λt=>?_⟩
  simp only [oC,bF,dO,dJ,dY,bV,dl]
  by_cases o:t < args.length
  ·rw [aJ o]
  ·rw [aK o,cJ (by omega)]
   split <;> simp
 refine fj ((fM (n:=0)).1 (h _ j)) (λe a u g=>?_)
 cases e with
 | normal=>
  obtain ⟨E,d,v,k,i⟩:=g
  exact ⟨d.2.1,v,k _ d.2.2,i⟩
 | ret=>
  obtain ⟨E,d,v,k,i⟩:=g
  exact ⟨d.2.1,v,k _ d.2.2,i⟩
 | exit id=>obtain ⟨E,d,h⟩:=g; exact h.elim
 | goto l=>obtain ⟨E,d,h⟩:=g; exact h.elim
 | panic c=>exact g.2.elim
 | outgrown=>exact g.elim
section
variable {P:Program} {fn:Func} {R:Ending→World→Prop} {E:Nat→Value} {W:World}
theorem gZ {r:Tmp} {v:Value} (a:fn.results=#[.tmp r]) (d:E r=v) (h:R (.returned v) W):nI P fn R .ret E W :=
 ⟨v,λtmps c=>by rw [results_tmp a,c,d],h⟩
theorem Hi {r s:Tmp} {v u:Value} (c:fn.results=#[.tmp r,.tmp s]) (d:E r=v) (hu:E s=u) (h:R (.returned (.tuple #[v,u])) W):nI P fn R .ret E W :=
 ⟨.tuple #[v,u],λtmps a=>by rw [results_tmp2 c,a,a,d,hu],h⟩
theorem tU (a:fn.results=#[]) (h:R (.returned (.tuple #[])) W):nI P fn R .ret E W :=
 ⟨.tuple #[],λtmps _=>by rw [results_none a],h⟩
theorem iX {r:Tmp} {t:TypeId} {a:Addr} {v:Value} (c:fn.results=#[.cell r t]) (i:E r= .pointer (some a)) (g:(Instr.loadAt t (.pointer (some a))).run P W= .ok v W) (h:R (.returned v) W):nI P fn R .ret E W :=
 ⟨v,λtmps d=>by
  have h1:(loadVar t a).run P W= .ok v W:=by simpa [Instr.loadAt,Instr.sureAddr] using g
  simp [results,c,d,i,asAddr,h1],h⟩
theorem ub (h:nI P fn R .ret E W):nI P fn R .normal E W:=h
end
section
variable {Q:jc} {E:Nat→Value} {W:World} {K:(Nat→Value)→World→Prop} {id j:Nat}
theorem ig (h:Q .normal E W):ov id Q .normal E W:=h
theorem jK (h:Q .ret E W):ov id Q .ret E W:=h
theorem uo (h:Q .normal E W):ov id Q (.exit id) E W:=by simp [ov]; exact h
theorem IT (a:(j=id)=False) (h:Q (.exit j) E W):ov id Q (.exit j) E W:=by simp only [ov,a,aQ]; exact h
theorem gj (h:K E W):kc K Q .normal E W:=h
theorem gN (h:Q .ret E W):kc K Q .ret E W:=h
theorem oA (h:Q (.exit j) E W):kc K Q (.exit j) E W:=h
end
theorem DM {i N:Nat} (hi:i < N) (a:N≤9223372036854775807):IntKind.i64.wrap ((i:Int)+1)=((i+1:Nat):Int):=by
 rw [IntWalk.i64_in _ (by omega)]
 omega
theorem jb {P:Program} {n:Nat} {Q:jc} {E:Nat→Value} {W:World} {g s r2 r6 o p G w:Nat} {t1 t2 t3 t4 t5 t6 t7:TypeId} {U Y Z:String} {f1 f2 f3:Array Edge} {body:Code} (I:Nat→(Nat→Value)→World→Prop) (N:Nat) (O:N≤9223372036854775807) (J:I 0 E W) (R:o < n) (T:w < n) (A:p < n) (M:∀i E W,I i E W→E p= .int .i64 (i:Nat)∧E G= .int .i64 (N:Nat)) (round:∀i E W,i < N→I i E W→CW P n (.block s body) (kc (λE' W'=>E' p= .int .i64 (i:Nat)∧I (i+1) (iL (iL E' w (.int .i64 ((i+1:Nat):Int))) p (.int .i64 ((i+1:Nat):Int))) W') (ov g Q)) (iL E o (.bool true)) W) (done:∀E W,I N E W→Q .normal (iL E o (.bool false)) W) :
  CW P n (.block g (.loop (.seq (.region r2 #[⟨some o,.binOp .lss t1 (.tmp p) (.tmp G) t2,t3,U,f1,none⟩] false)
   (.seq (.cond (.tmp o) .skip (.exit g)) (.seq (.block s body)
    (.region r6 #[⟨some w,.binOp .add t4 (.tmp p) (.const (.int .i64 1)) t5,t6,Y,f2,none⟩,⟨some p,.move (.tmp w),t7,Z,f3,none⟩] false)))))) Q E W:=by
 refine jS (pj (λm E W=>∃i,i≤N∧m=N-i∧I i E W) N ⟨0,dN _,by omega,J⟩ ?_)
 rintro m E W ⟨i,hi,rfl,d⟩
 obtain ⟨x,y⟩:=M i E W d
 refine gq (gn (yD (.inl rfl) rfl R (iJ x y rfl) (gJ ?_)))
 refine gj (gq ?_)
 have u:iL E o (.bool (decide ((i:Int) < (N:Int)))) o= .bool (decide ((i:Int) < (N:Int))):=by simp [iL]
 by_cases q:i < N
 ·have z:decide ((i:Int) < (N:Int))=true:=by simp; omega
  rw [z] at u ⊢
  refine qf u (iD (gj (gq ?_)))
  refine yi (round i E W q d) (λe E' W' h=>?_)
  cases e with
  | normal=>
   obtain ⟨h1,L⟩:=h
   refine gj ?_
   have hw:IntKind.i64.wrap ((i:Int)+1)=((i+1:Nat):Int):=DM q O
   refine gn (yD (v:=.int .i64 ((i+1:Nat):Int)) (.inl rfl) rfl T (iJ (k:=.i64) (a:=(i:Int)) (b:=1) h1 rfl (by simp only [zD,hw])) ?_)
   refine yD (v:=.int .i64 ((i+1:Nat):Int)) (.inl rfl) rfl A (gl (by simp [fT,iL])) (gJ ?_)
   exact gj ⟨N-(i+1),by omega,i+1,by omega,rfl,L⟩
  | exit j=>exact h
  | goto l=>exact h
  | ret=>exact h
  | panic c=>exact h
  | outgrown=>exact h
 ·have z:decide ((i:Int) < (N:Int))=false:=by simp; omega
  rw [z] at u ⊢
  obtain rfl:i=N:=by omega
  refine kH u (pd (oA (oA (uo ?_))))
  exact done E W d
theorem D3 {P:Program} {n:Nat} {x:Code} {Q:jc} {K:(Nat→Value)→World→Prop} {E:Nat→Value} {W:World} (J:(Nat→Value)→World→Prop) (h:CW P n x (kc J Q) E W) (k:∀E W,J E W→K E W):CW P n x (kc K Q) E W :=
 yi h (λe E W h=>by cases e <;> first | exact k E W h | exact h)
theorem GY {α:Type} {c:Bool} {x y r:α} (a:c=true) (h:(if c=true then x else y)=r):x=r:=by rw [aJ a] at h; exact h
theorem G2 {α:Type} {c:Bool} {x y r:α} (a:c=false) (h:(if c=true then x else y)=r):y=r:=by rw [aK (by rw [a]; decide)] at h; exact h
theorem bind_some {α β:Type} {o:Option α} {f:α→Option β} {r:β} (h:o.bind f=some r):∃y,o=some y∧f y=some r:=by
 cases o with
 | none=>cases h
 | some y=>exact ⟨y,rfl,h⟩
theorem Dt (b:Bool):b=true∨b=false:=by cases b <;> simp
theorem iK {α:Type} {l:List α} {i:Nat} (h:i < l.length):∃x xs,l.drop i=x::xs∧l[i]? =some x∧l.drop (i+1)=xs:=by
 cases a:l.drop i with
 | nil=>have:=aC List.length a; simp at this; omega
 | cons x xs=>exact ⟨x,xs,rfl,by rw [←List.head?_drop,a]; rfl,by rw [←List.drop_drop,a]; rfl⟩
theorem vE {P:Program} {W:World} (d:Nat) (xs ys:Array Value):(Op.eqFields d xs ys []).run P W= .ok true W:=by simp [Op.eqFields]
theorem kU {P:Program} {W:World} {d:Nat} {xs ys:Array Value} {f:Field} {c:List Field} {a b:Value} {r s:Bool} (i:f.name≠ "_") (ha:(part f.type xs f.offset).run P W= .ok a W) (g:(part f.type ys f.offset).run P W= .ok b W) (he:(Op.equalIn d f.type a b).run P W= .ok r W) (h:(Op.eqFields d xs ys c).run P W= .ok s W):(Op.eqFields d xs ys (f::c)).run P W= .ok (r&&s) W:=by
 simp only [Op.eqFields,ne_eq,i,not_false_eq_true,bu,bE,ha,g,he,bn]
 cases r <;> simp [h]
theorem qT {P:Program} {W:World} {t:TypeId} {k:Nat} {cs:Array Value} {off:Nat} {v:Array Value} (a:∀w,(isAgg t).run P w= .ok true w) (c:∀w,(sizeOf t).run P w= .ok k w) (d:cs.extract off (off+k)=v):(part t cs off).run P W= .ok (.agg v) W:=by
 simp [part,a W,c W,d]
theorem nn {P:Program} {W:World} {t:TypeId} {cs:Array Value} {off:Nat} {v:Value} (a:∀w,(isAgg t).run P w= .ok false w) (c:cs[off]? =some v):(part t cs off).run P W= .ok v W:=by
 simp [part,a W,c]
def gS (a b:ByteArray):Bool:=a.toList==b.toList
theorem Gc {P:Program} {t:TypeId} (c:P.underlying t=some .string) (d:Nat) (a b:ByteArray) (W:World):(Op.equalIn (d+1) t (.string a) (.string b)).run P W= .ok (gS a b) W:=run_equalIn_string W d t a b c
theorem I8 {P:Program} {t:TypeId} {k:IntKind} (c:P.underlying t=some (.int k)) (d:Nat) (a b:Int) (W:World):(Op.equalIn (d+1) t (.int k a) (.int k b)).run P W= .ok (a==b) W:=run_equalIn_int W d t k k a b c
theorem rf {P:Program} {op:BinOp} {t:TypeId} {x y:Operand} {a b:Array Value} (c:P.eqGuardType P.depth t=false) (W:World):(eqGuard op t x y (.agg a) (.agg b)).run P W= .ok () W:=by
 cases op <;> simp [eqGuard] <;> (intro h; rw [c] at h; cases h)
theorem yj {P:Program} {t:TypeId} {a b:Array Value} {r:Bool} (h:∀W,(Op.equalIn Op.maxDepth t (.agg a) (.agg b)).run P W= .ok r W) (W:World):(binOp .eql t (.agg a) (.agg b)).run P W= .ok (.bool r) W:=by
 simp [binOp,Op.equal,h W]
theorem BW {P:Program} {t:TypeId} {a b:Array Value} {r:Bool} (h:∀W,(Op.equalIn Op.maxDepth t (.agg a) (.agg b)).run P W= .ok r W) (W:World):(binOp .neq t (.agg a) (.agg b)).run P W= .ok (.bool !r) W:=by
 simp [binOp,Op.equal,h W]
end Go.Proofs.YtjjjihkifgdhgaaGreatDoor
namespace Go.Proofs.YtjjjihkifgdhgaaGreatDoor
open Go.RowKit
variable [M:Md]
variable {dd:Bool}
def fW (k:IntKind) (x:Int):List Value:=[.int k x]
def lN (x:ByteArray):List Value:=[.string x]
theorem qF (k:IntKind) (x:Int):∀u∈fW k x,u.oneCell'=true:=by intro u hu; simp [fW] at hu; subst hu; rfl
theorem vx (x:ByteArray):∀u∈lN x,u.oneCell'=true:=by intro u hu; simp [lN] at hu; subst hu; rfl
def zS:ByteArray:=⟨#[]⟩
def sU (a b:ByteArray):Bool:=Op.bytesLess a.toList b.toList
@[irreducible] def iq:Nat:=18446744073709551616
theorem pe:iq=18446744073709551616:=by unfold iq; rfl
def im {α:Type} (l:List α) (i:Int):Option α:=if 0≤i then l[i.toNat]? else none
theorem jL {α:Type} {l:List α} {i:Int} {x:α} (h:im l i=some x):0≤i:=by
 unfold im at h; split at h
 ·assumption
 ·cases h
theorem je {α:Type} {l:List α} {i:Int} {x:α} (h:im l i=some x):l[i.toNat]? =some x:=by
 unfold im at h; split at h
 ·exact h
 ·cases h
theorem yc {α:Type} (l:List α) (i:Nat):im l (i:Int)=l[i]?:=by simp [im]
def pu (s:ByteArray) (i:Int):Option UInt8:=if 0≤i then s[i.toNat]? else none
theorem pH {s:ByteArray} {i:Int} {x:UInt8} (h:pu s i=some x):0≤i:=by
 unfold pu at h; split at h
 ·assumption
 ·cases h
theorem sd {s:ByteArray} {i:Int} {x:UInt8} (h:pu s i=some x):s[i.toNat]? =some x:=by
 unfold pu at h; split at h
 ·exact h
 ·cases h
section
variable {F:Nat→Prop} {w W:World} {μ:gm} {L L':List (Nat×Obj)} {α:Type} {e:TypeId} {enc:α→List Value} {k:Nat} {v:Value} {l:List α} {R:List (Nat×Obj)}
theorem ST.at_ (h:ST dd F w W μ L) {b:Nat} {o:Obj} (a:(b,o)∈L):hp W b=some o:=(h.box b o a).1
theorem gB.BM (h:gB e enc k v l R) (hk:∀x,(enc x).length=k) (a:ST dd F w W μ L) (c:∀p,p∈R→p∈L):Sl (Pl enc) k (hp W) v l :=
 h.sl hk (λ_ _ d=>a.at_ (c _ d))
theorem gB.form (h:gB e enc k v l R):∃A c,v= .slice A l.length c:=by
 rcases h with ⟨rfl,rfl,rfl⟩ | ⟨g,cap,a,rfl,rfl,h1,d,i,j⟩
 ·exact ⟨_,_,rfl⟩
 ·exact ⟨_,_,rfl⟩
theorem Sl.form {R:lc α} (h:Sl R k μ v l):∃A c,v= .slice A l.length c:=let ⟨A,c,h,_⟩:=h; ⟨A,c,h⟩
theorem gB.Hj (h:gB e enc k v l R) (c:ST dd iv w W μ L) (i:∀p,p∈R→p∈L):Fr w.heap.size v:=by
 rcases h with ⟨rfl,rfl,rfl⟩ | ⟨g,cap,a,rfl,rfl,h1,j,n,o⟩
 ·exact Fr.nil _
 ·intro b d
  simp [Value.ownBlock] at d
  subst d
  rcases (c.box g (.cells a e (0,0)) (i _ (aM.2 rfl))).2.2 with h | h
  ·exact h
  ·exact h.elim
theorem Sl.lit {b m:Nat} {cs:Array Value} (hk:∀x,(enc x).length=k) (hm:l.length=m) (c:m≤maxLen) (a:cs.toList=(l.map enc).flatten) (d:μ b=some (.cells cs e (0,0))):Sl (Pl enc) k μ (.slice (some ⟨b,0,none⟩) m m) l :=
 (gB.lit (e:=e) (b:=b) hm c a (by have:=aC List.length a; rw [mo hk,bP,hm] at this; exact this)).sl hk (λg o h=>by simp at h; obtain ⟨rfl,rfl⟩:=h; exact d)
theorem Fr.box (h:ST dd iv w W μ L) {b m c:Nat} {o:Obj} (d:(b,o)∈L):Fr w.heap.size (.slice (some ⟨b,0,none⟩) m c):=by
 intro g a
 simp [Value.ownBlock] at a
 subst a
 rcases (h.box b o d).2.2 with h | h
 ·exact h
 ·exact h.elim
theorem ST.perm (h:ST dd F w W μ L) (hp:L.Perm L'):ST dd F w W μ L' :=
 ⟨h.os,h.tape,h.output,h.drawn,h.size,h.ki,h.mem,λb o a=>h.box b o (hp.mem_iff.2 a),(hp.map _).nodup_iff.1 h.nd⟩
theorem ST.sublist (h:ST dd F w W μ L) (a:L'.Sublist L):ST dd F w W μ L' :=
 ⟨h.os,h.tape,h.output,h.drawn,h.size,h.ki,h.mem,λb o c=>h.box b o (a.subset c),h.nd.sublist (a.map _)⟩
end
section
variable {E:Nat→Value} {x1 x2 x3 x4 x5 x6:Operand} {v1 v2 v3 v4 v5 v6:Value}
theorem lM (h1:fT E x1=v1):#[x1].map (fT E)++(#[]:Array Value)=[v1].toArray:=by simp [h1]
theorem jG (h1:fT E x1=v1) (a:fT E x2=v2):#[x1,x2].map (fT E)++(#[]:Array Value)=[v1,v2].toArray:=by simp [h1,a]
theorem Ic (h1:fT E x1=v1) (a:fT E x2=v2) (c:fT E x3=v3):#[x1,x2,x3].map (fT E)++(#[]:Array Value)=[v1,v2,v3].toArray:=by simp [h1,a,c]
end
theorem yW:∀(v:List Value) (i off:Nat) (cells:Array Value),off+i+v.length≤cells.size→
  (v.zipIdx i).foldl (λcs (c,j)=>cs.setIfInBounds (off+j) c) cells=(cells.toList.take (off+i)++v++cells.toList.drop (off+i+v.length)).toArray
 | [],i,off,cells,h=>by simp
 | c::v,i,off,cells,h=>by
  simp only [List.zipIdx_cons,dZ]
  simp only [aF] at h
  rw [yW v (i+1) off _ (by simp; omega)]
  have g:off+i < cells.toList.length:=by simp; omega
  congr 1
  rw [Array.toList_setIfInBounds]
  apply fl
  intro j
  have k:(cells.toList.take (off+i)).length=off+i:=by simp; omega
  by_cases h1:j < off+i
  ·simp only [dM,az,bI,eL,bP,aF,di,fm,cM]
   rw [show min (off+(i+1)) cells.size=off+(i+1) by omega,show min (off+i) cells.size=off+i by omega]
   rw [aJ (by omega),aJ (by omega),aJ (by omega),aK (by omega),aJ (by omega),aJ (by omega),aJ (by omega)]
  ·by_cases d:j=off+i
   ·subst d
    simp [dM,di,fm,show off+i < off+(i+1) by omega]
    rw [aJ (by omega),aJ (by omega),aK (by omega),show off+i-min (off+i) cells.size=0 by omega]
    rfl
   ·simp only [dM,az,bI,eL,bP,aF,di,fm,cM]
    rw [show min (off+(i+1)) cells.size=off+(i+1) by omega,show min (off+i) cells.size=off+i by omega]
    by_cases a:j < off+(i+1)+v.length
    ·rw [aJ a,aK (by omega),aJ (by omega),aK (by omega)]
     rw [show j-(off+i)=(j-(off+(i+1)))+1 by omega]
     simp
    ·rw [aK a,aK (by omega),aK (by omega)]
     congr 1
     omega
theorem Ar {k:Nat}:∀(vs:List Value) (i:Nat) (pre rest:List Value),(∀v∈vs,v.cells.size=k)→pre.length=i*k→rest.length=vs.length*k→
  Instr.fill (λi=>some (i*k,k)) (pre++rest).toArray ((vs.zipIdx i).map (λp=>(p.2,p.1)))=some (pre++vs.flatMap (λv=>v.cells.toList)).toArray
 | [],i,pre,rest,g,hp,d=>by
  have:rest=[]:=by cases rest <;> simp at d ⊢
  simp [Instr.fill,this]
 | v::vs,i,pre,rest,g,hp,d=>by
  have a:=g v (by simp)
  have h:v.cells.zipIdx.foldl (λcs (c,j)=>cs.setIfInBounds (i*k+j) c) (pre++rest).toArray=(pre++v.cells.toList++rest.drop k).toArray:=by
   have:=yW v.cells.toList 0 (i*k) (pre++rest).toArray (by simp [hp,d,a,bZ])
   rw [←Array.toList_zipIdx,Array.foldl_toList] at this
   rw [this]
   congr 1
   simp [←hp,a]
  simp only [List.zipIdx_cons,aY,Instr.fill]
  rw [aK (by simp [a,hp,d,bZ]),h]
  have:=Ar vs (i+1) (pre++v.cells.toList) (rest.drop k) (λu hu=>g u (by simp [hu])) (by simp [hp,a,bZ]) (by simp [d,bZ])
  rw [this]
  simp
theorem Fe {k m:Nat} {a cs:Array Value} {c:Array (Nat×Value)} (vs:List Value) (g:c.toList=vs.zipIdx.map (λp=>(p.2,p.1))) (j:∀v∈vs,v.cells.size=k) (hm:vs.length=m) (h:a.size=m*k) (d:(vs.flatMap (λv=>v.cells.toList)).toArray=cs):Instr.fill (λi=>some (i*k,k)) a c.toList=some cs:=by
 subst hm d
 rw [g]
 have:=Ar vs 0 [] a.toList j (by simp) (by simpa using h)
 simpa using this
theorem yB {P:Program} {t e:TypeId} {m k:Nat} {z:Value} {a:Array (Nat×Value)} {cs:Array Value} (vs:List Value) (i:P.underlying t=some (.slice e)) (h:∀w,(sizeOf e).run P w= .ok k w) (n:∀w,(zeroValue e).run P w= .ok z w) (hm:m*k≤16777216) (g:a.toList=vs.zipIdx.map (λp=>(p.2,p.1))) (j:∀v∈vs,v.cells.size=k) (d:vs.length=m) (c:(vs.flatMap (λv=>v.cells.toList)).toArray=cs) (W:World) :
  (Instr.buildSlice t m a).run P W= .ok (.slice (some ⟨W.heap.size,0,none⟩) m m) (W.alloc (.cells cs e (0,0))) :=
 xW i h n hm (Fe vs g j d (by simp) c) W
theorem lb {E:Nat→Value} :(#[]:Array (Nat×Operand)).map (λ(i,x)=>(i,fT E x))=#[]:=by simp
theorem kA {E:Nat→Value} {x0:Operand} {v0:Value} {i0:Nat} (a:fT E x0=v0):(#[(i0,x0)]:Array (Nat×Operand)).map (λ(i,x)=>(i,fT E x))=#[(i0,v0)]:=by simp [a]
theorem mY {E:Nat→Value} {x0 x1:Operand} {v0 v1:Value} {i0 i1:Nat} (a:fT E x0=v0) (h1:fT E x1=v1):(#[(i0,x0),(i1,x1)]:Array (Nat×Operand)).map (λ(i,x)=>(i,fT E x))=#[(i0,v0),(i1,v1)]:=by simp [a,h1]
theorem xM {E:Nat→Value} {x0 x1 x2:Operand} {v0 v1 v2:Value} {i0 i1 i2:Nat} (a:fT E x0=v0) (h1:fT E x1=v1) (c:fT E x2=v2):(#[(i0,x0),(i1,x1),(i2,x2)]:Array (Nat×Operand)).map (λ(i,x)=>(i,fT E x))=#[(i0,v0),(i1,v1),(i2,v2)]:=by simp [a,h1,c]
theorem DF {E:Nat→Value} {x0 x1 x2 x3:Operand} {v0 v1 v2 v3:Value} {i0 i1 i2 i3:Nat} (a:fT E x0=v0) (h1:fT E x1=v1) (c:fT E x2=v2) (d:fT E x3=v3):(#[(i0,x0),(i1,x1),(i2,x2),(i3,x3)]:Array (Nat×Operand)).map (λ(i,x)=>(i,fT E x))=#[(i0,v0),(i1,v1),(i2,v2),(i3,v3)]:=by simp [a,h1,c,d]
theorem hY {P:Program} {t:TypeId} {f off:Nat} {a:Array Field} {fd:Field} (h:P.underlying t=some (.struct a)) (c:a[f]? =some fd) {k:Nat} (g:∀w,(sizeOf fd.type).run P w= .ok k w) (hk:k≠0) (d:fd.offset=off):iE P t f off:=by
 intro b o w
 subst d
 simp [Instr.fieldAt,aN h,c,Instr.sureAddr,fieldPlace,cu,g w,hk]
theorem Ag.xm {n:Nat} {a:Act} {E:Nat→Value} (h:Ag n a E) {ops:Array Oper} {j t:Nat} (d:(ops[j]?).bind (·.dst)=some t) (i:t < n) (k:E t=undef):yielded ops a.tmps j=none:=by
 have c:=h.2.2 t
 have g:a.tmps[t]? =some (E t):=by
  rw [←c]
  simp [bF,h.1,i]
 simp [yielded,d,g,k,undef]
theorem G3 {P:Program} {n:Nat} {Q:jc} {E:Nat→Value} {W:World} {ops:Array Oper} {rest:List Oper} {o:Oper} {d j t:Nat} {want:Bool} (g:o.dst=some d) (p:d < n) (i:o.guard=some (j,want)) (k:(ops[j]?).bind (·.dst)=some t) (q:t < n) (c:E t=undef) (h:LW P n ops Q rest (iL E d undef) W):LW P n ops Q (o::rest) E W:=λa ha=>by
 unfold wpListIn
 have s:=ha.xm k q c
 rw [aK (by simp [Region.wanted,i,s])]
 rw [g]
 exact ⟨λ_ _=>trivial,h _ (ha.put p _)⟩
theorem HW {P:Program} {n:Nat} {Q:jc} {E:Nat→Value} {W:World} {ops:Array Oper} {rest:List Oper} {A:Value→Prop} {o:Oper} {dd:Nat} (hw:jd n ops E o) (c:o.dst=some dd) (d:dd < n) (g:∃p,A p∧∀W,gP P E o W p W) (h:∀p,A p→LW P n ops Q rest (iL E dd p) W):LW P n ops Q (o::rest) E W:=by
 obtain ⟨p,h1,a⟩:=g
 exact yD hw c d (a W) (h p h1)
end Go.Proofs.YtjjjihkifgdhgaaGreatDoor
namespace Go.Proofs.YtjjjihkifgdhgaaGreatDoor
open Go.RowKit
variable [M:Md]
variable {dd:Bool}
theorem yt {P:Program} {n:Nat} {x:Code} {Q:jc} {E:Nat→Value} {W:World} (h:CW P n x (kc (λE W=>Q .normal E W) Q) E W):CW P n x Q E W :=
 yi h (λe E W h=>by cases e <;> exact h)
section
variable {P:Program} {n:Nat} {Q:jc} {E:Nat→Value} {W:World} {d:Option Nat} {ty:TypeId} {pos:String} {af:Array Edge} {g:Option (Nat×Bool)}
 {F:Nat→Prop} {w:World} {μ:gm} {L:List (Nat×Obj)}
def F3 (k:IntKind) (op:BinOp) (a b:Int):Option Value :=
 match op with
 | .quo=>some (.int k (k.wrap (a.tdiv b)))
 | .rem=>some (.int k (a.tmod b))
 | .and=>some (.int k (k.wrap (BitVec.ofInt k.bits a &&& BitVec.ofInt k.bits b).toNat))
 | .or=>some (.int k (k.wrap (BitVec.ofInt k.bits a ||| BitVec.ofInt k.bits b).toNat))
 | _=>none
theorem Dx {op:BinOp} {tx tv:TypeId} {x y:Operand} {k:IntKind} {a b:Int} {v:Value} (i:fT E x= .int k a) (j:fT E y= .int k b) (h:b≠0) (c:F3 k op a b=some v) :
  gP P E ⟨d,.binOp op tx x y tv,ty,pos,af,g⟩ W v W:=by
 show (do let r ←(do eqGuard op tx x y (fT E x) (fT E y); binOp op tx (fT E x) (fT E y)); pure (.value r):Sem Next).run P W=_
 rw [i,j]
 cases op <;> simp [F3] at c <;> subst c <;> simp [eqGuard,binOp,Op.intDiv,Op.intBits,h]
theorem Dj {tx tv:TypeId} {x y:Operand} {k k':IntKind} {a b:Int} (c:fT E x= .int k a) (h:fT E y= .int k' b) (i:0≤b) :
  gP P E ⟨d,.binOp .shr tx x y tv,ty,pos,af,g⟩ W (.int k (a.fdiv (2 ^ min b.toNat k.bits))) W:=by
 show (do let r ←(do eqGuard .shr tx x y (fT E x) (fT E y); binOp .shr tx (fT E x) (fT E y)); pure (.value r):Sem Next).run P W=_
 rw [c,h]
 simp [eqGuard,binOp,Op.shift,show ¬b < 0 by omega]
theorem pa {s t:TypeId} {x:Operand} {k k':IntKind} {a:Int} {u:TypeDesc} (c:P.underlying s=some u) (h:P.underlying t=some (.int k)) (i:fT E x= .int k' a) :
  gP P E ⟨d,.convert s t x,ty,pos,af,g⟩ W (.int k (k.wrap a)) W:=by
 show (do pure (.value (←convert s t (fT E x))):Sem Next).run P W=_
 rw [i]
 simp [convert,aN c,aN h,Conv.intToInt]
theorem ym {t e:TypeId} (dd:Nat) (a:P.underlying t=some (.slice e)) (A:Option Addr) (l c:Nat) (W:World):(Op.equalIn (dd+1) t (.slice A l c) (.slice none 0 0)).run P W= .ok A.isNone W:=by
 cases A <;> simp [Op.equalIn,aN a]
theorem yL {tx tv e:TypeId} {x y:Operand} {A:Option Addr} {l c:Nat} (h:P.underlying tx=some (.slice e)) (i:fT E x= .slice A l c) (j:fT E y= .slice none 0 0) :
  gP P E ⟨d,.binOp .eql tx x y tv,ty,pos,af,g⟩ W (.bool A.isNone) W:=by
 show (do let r ←(do eqGuard .eql tx x y (fT E x) (fT E y); binOp .eql tx (fT E x) (fT E y)); pure (.value r):Sem Next).run P W=_
 rw [i,j]
 have a:=ym 9999 h A l c W
 simp [eqGuard,binOp,Op.equal,show Op.maxDepth=9999+1 from rfl,a]
def iA (s:ByteArray):List Int:=s.data.toList.map (λb=>(b.toNat:Int))
def tS (s:ByteArray):Option (List Int):=if s.size≤maxLen then some (iA s) else none
theorem iG (s:ByteArray):(iA s).length=s.size:=by simp only [iA,cZ,bP]; rfl
theorem CZ {s:ByteArray} {cap i:Nat} {x:Int} (h:(iA s)[i]? =some x):(bytesRow s cap)[i]? =some (.int .u8 x):=by
 have hi:i < s.size:=by have:=(aR.1 h).1; rwa [iG] at this
 have a:i < s.data.size:=hi
 simp [iA] at h
 obtain ⟨b,c,rfl⟩:=h
 rw [bytesRow,Array.getElem?_append_left (by simpa using a)]
 simp [c]
theorem yZ {K:Value→World→Prop} {s t e:TypeId} {x:Operand} {str:ByteArray} {l:List Int} (c:ST dd F w W μ L) (q:P.underlying s=some .string) (p:P.underlying t=some (.slice e)) (he:P.underlying e=some (.int .u8)) (n:fT E x= .string str) (a:tS str=some l) (h:∀W' v μ',ST dd F w W' μ' L→gf μ μ'→Lo F w μ μ'→Sl (Pl (fW .u8)) 1 μ' v l→Fr w.heap.size v→K v W'):jt P E ⟨d,.convert s t x,ty,pos,af,g⟩ W K:=by
 unfold tS at a
 split at a
 case isFalse=>cases a
 rename_i hm
 cases a
 have k:=run_bytes_of_string (P:=P) W s t e str q p he
 have h1:=c.drew.alloc (.cells (bytesRow str (grownCap W str.size 0 e)) e ((bytesRow str (grownCap W str.size 0 e)).size,(bytesRow str (grownCap W str.size 0 e)).size+1))
 refine .inl ⟨.slice (some ⟨W.heap.size,0,none⟩) str.size (grownCap W str.size 0 e),_,?_,h _ _ _ (ST.ye (A:=[]) h1) (ST.yd (A:=[]) h1) (ST.Eh (A:=[]) h1) ?_ ?_⟩
 ·show (do pure (.value (←convert s t (fT E x))):Sem Next).run P W=_
  rw [n]
  simp only [bE,k,bn,cv]
 ·refine ⟨_,grownCap W str.size 0 e,by rw [iG],by rw [iG]; exact grownCap_ge W str.size 0 e,grownCap_le_maxLen W str.size 0 e hm,λ_=>⟨W.heap.size,0,bytesRow str (grownCap W str.size 0 e),e,_,rfl,aJ rfl,λi x n=>⟨_,rfl,rfl,λj y o=>?_⟩⟩⟩
  cases j with
  | zero=>simp [fW] at o; subst o; simpa using CZ n
  | succ j=>simp [fW] at o
 ·intro b a
  simp [Value.ownBlock] at a
  subst a
  exact c.size
def nR (l:List Int):ByteArray:=l.foldl (λr n=>r.push (UInt8.ofNat n.toNat)) ByteArray.empty
theorem mT {s t e:TypeId} {x:Operand} {v:Value} {l:List Int} (G:P.underlying s=some (.slice e)) (he:P.underlying e=some (.int .u8)) (z:P.underlying t=some .string) (J:fT E x=v) (I:Sl (Pl (fW .u8)) 1 (hp W) v l) :
  gP P E ⟨d,.convert s t x,ty,pos,af,g⟩ W (.string (nR l)) W:=by
 show (do pure (.value (←convert s t (fT E x))):Sem Next).run P W=_
 obtain ⟨A,c,rfl,L,M,q⟩:=I
 rw [J]
 simp only [bE,run_convert_bytes_string W s t e A l.length c G he z]
 rcases cy l.length with h | h
 ·have:l=[]:=cz.1 h
  subst this
  cases A with
  | none=>simp [Conv.bytesToString,nR]
  | some a=>
   have u:=run_bytesToString (P:=P) W a 0 c [] (by simpa using eZ (P:=P) W a [] (by simp))
   simp only [ck]
   rw [u]
   simp [nR]
 ·obtain ⟨b,off,cs,T,fr,rfl,w,y⟩:=q h
  have p:=eZ (P:=P) W ⟨b,off,none⟩ (l.map (Value.int .u8)) (λj v o=>by
   simp at o
   obtain ⟨x,k,rfl⟩:=o
   obtain ⟨ys,_,n,i⟩:=y j x k
   cases n
   rw [cu,dL W b (off+j) cs T fr w]
   have:=i 0 (.int .u8 x) rfl
   simpa using this)
  simp only [cZ] at p
  rw [run_bytesToString W _ l.length c l p]
  simp [nR]
end
end Go.Proofs.YtjjjihkifgdhgaaGreatDoor
namespace Go.Proofs.YtjjjihkifgdhgaaGreatDoor
open Go.RowKit
variable {dd:Bool}
def gL (L:List (Nat×Obj)):Nat→Prop:=λb=>∃o,(b,o)∈L
structure Jk (dd:Bool) (F:Nat→Prop) (w W:World):Prop where
 os:W.os=w.os
 tape:W.tape=w.tape
 output:W.output=w.output
 drawn:mb dd w.drawn W.drawn
 size:w.heap.size≤W.heap.size
 ki:∀b,b < w.heap.size→¬F b→W.heap[b]? =w.heap[b]?
def um (L:List (Nat×Obj)) (W:World):Prop:=∀b o,(b,o)∈L→W.heap[b]? =some o
structure ma (dd:Bool) (L0 L1:List (Nat×Obj)) (w w':World):Prop where
 ex:Jk dd (gL L0) w w'
 held:∀b o,(b,o)∈L1→w'.heap[b]? =some o∧(w.heap.size≤b∨gL L0 b)
 nd:(L1.map (·.1)).Nodup
open Classical in
noncomputable def lf (w:World) (L:List (Nat×Obj)):gm:=λb=>if gL L b then none else w.heap[b]?
open Classical in
noncomputable def sF (μ:gm) (W W':World) (L1:List (Nat×Obj)):gm:=λb=>if b < W.heap.size then μ b else if gL L1 b then none else W'.heap[b]?
section
variable {F:Nat→Prop} {w W W':World} {μ μ':gm} {L L0 L1:List (Nat×Obj)}
theorem ST.Hh (a:um L0 w) (c:(L0.map (·.1)).Nodup):ST dd (gL L0) w w (lf w L0) L0 :=
 ⟨rfl,rfl,rfl,mb.of (bl _),bl _,λ_ _ _=>rfl,λb o h=>by
  unfold lf at h; split at h
  ·cases h
  ·exact h,λb o h=>⟨a b o h,by unfold lf; rw [aJ ⟨o,h⟩],.inr ⟨o,h⟩⟩,c⟩
theorem ST.GW (h:ST dd (gL L0) w W μ L1):ma dd L0 L1 w W :=
 ⟨⟨h.os,h.tape,h.output,h.drawn,h.size,h.ki⟩,λb o a=>⟨(h.box b o a).1,(h.box b o a).2.2⟩,h.nd⟩
theorem wa {A B:List (Nat×Obj)} (h:((A++B).map (·.1)).Nodup) {b:Nat} {o:Obj} (a:(b,o)∈B):¬gL A b:=by
 rintro ⟨d,c⟩
 rw [bB] at h
 exact (bz.1 h).2.2 b (bt.2 ⟨_,c,rfl⟩) b (bt.2 ⟨_,a,rfl⟩) rfl
theorem ST.back (h:ST dd F w W μ (L0++L)) (j:ma dd L0 L1 W W'):ST dd F w W' (sF μ W W' L1) (L1++L):=by
 have hk:∀b,gL L0 b→b < W.heap.size∧μ b=none∧(w.heap.size≤b∨F b):=λb ⟨o,d⟩=>by
  obtain ⟨h1,g,p⟩:=h.box b o (bw _ d)
  exact ⟨jx h1,g,p⟩
 refine ⟨j.ex.os.trans h.os,j.ex.tape.trans h.tape,j.ex.output.trans h.output,mb.trans h.drawn j.ex.drawn,cd h.size j.ex.size,λb i q=>?_,λb o d=>?_,λb o d=>?_,?_⟩
 ·rw [j.ex.ki b (cg i h.size) (λk=>by
   rcases (hk b k).2.2 with h | h
   ·omega
   ·exact q h)]
  exact h.ki b i q
 ·unfold sF at d
  split at d
  ·rename_i i
   rw [j.ex.ki b i (λk=>by rw [(hk b k).2.1] at d; cases d)]
   exact h.mem b o d
  ·split at d
   ·cases d
   ·exact d
 ·rcases aU.1 d with d | d
  ·obtain ⟨h1,g⟩:=j.held b o d
   refine ⟨h1,?_,?_⟩
   ·unfold sF
    split
    ·rename_i i
     rcases g with g | g
     ·omega
     ·exact (hk b g).2.1
    ·rw [aJ ⟨o,d⟩]
   ·rcases g with g | g
    ·exact .inl (cd h.size g)
    ·exact (hk b g).2.2
  ·obtain ⟨h1,g,p⟩:=h.box b o (cK _ d)
   refine ⟨?_,?_,p⟩
   ·rw [j.ex.ki b (jx h1) (wa h.nd d)]; exact h1
   ·unfold sF; rw [aJ (jx h1)]; exact g
 ·rw [bB]
  have u:(L.map (·.1)).Nodup:=by have:=h.nd; rw [bB] at this; exact (bz.1 this).2.1
  refine bz.2 ⟨j.nd,u,λa ha c v e=>?_⟩
  subst e
  obtain ⟨⟨b,o⟩,d,rfl⟩:=bt.1 ha
  obtain ⟨⟨s,x⟩,n,e⟩:=bt.1 v
  simp at e; subst e
  have i:=h.xj (cK _ n)
  rcases (j.held s o d).2 with g | g
  ·omega
  ·exact wa h.nd n g
theorem ST.AA (h:ST dd F w W μ L) (W':World) (L1:List (Nat×Obj)):Lo F w μ (sF μ W W' L1):=λb a _=>aJ (cg a h.size)
theorem ST.yN (h:ST dd F w W μ L) (W':World) (L1:List (Nat×Obj)):gf μ (sF μ W W' L1):=λb o a=>by
 unfold sF; rw [aJ (h.vU a)]; exact a
theorem ST.gp (h:ST dd F w W μ L) (c:∀p,p∈L0→p∈L):gf μ (lf W L0):=λb o a=>by
 unfold lf
 rw [aK]
 ·exact h.mem b o a
 ·rintro ⟨g,d⟩
  rw [(h.box b g (c _ d)).2.1] at a
  cases a
theorem ma.FY (h:Ex dd w W) (c:∀b o,(b,o)∈L1→W.heap[b]? =some o∧w.heap.size≤b) (d:(L1.map (·.1)).Nodup):ma dd [] L1 w W :=
 ⟨⟨h.os,h.tape,h.output,h.drawn,h.size,λb a _=>h.ki b a⟩,λb o a=>⟨(c b o a).1,.inl (c b o a).2⟩,d⟩
end
def iu (dd:Bool) (P:Program) (f:FuncId) (args:List Value) (w:World) (L0:List (Nat×Obj)) (K:Value→List (Nat×Obj)→World→Prop):Prop :=
 Calls P f args.toArray w λe a=>∃v L1,e= .returned v∧ma dd L0 L1 w a∧K v L1 a
def iF (dd:Bool) {α:Type} (P:Program) (f:FuncId) (args:List Value) (w:World) (e:TypeId) (enc:α→List Value) (k:Nat) (l:List α):Prop :=
 iu dd P f args w [] λv R _=>gB e enc k v l R
theorem ma.gV {L0 L1:List (Nat×Obj)} {w a:World} (h:ma true L0 L1 w a):ma dd L0 L1 w a:=⟨⟨h.ex.os,h.ex.tape,h.ex.output,mb.of (h.ex.drawn rfl),h.ex.size,h.ex.ki⟩,h.held,h.nd⟩
theorem gz.gV {P:Program} {f:FuncId} {args:List Value} {w:World} {v:Value} (h:gz true P f args w v):gz dd P f args w v:=bk h λ_ _ h=>⟨h.1,h.2.gV⟩
theorem iu.gV {P:Program} {f:FuncId} {args:List Value} {w:World} {L0:List (Nat×Obj)} {K:Value→List (Nat×Obj)→World→Prop} (h:iu true P f args w L0 K):iu dd P f args w L0 K:=bk h λ_ _ ⟨v,L1,h1,a,c⟩=>⟨v,L1,h1,a.gV,c⟩
theorem iF.gV {α:Type} {P:Program} {f:FuncId} {args:List Value} {w:World} {e:TypeId} {enc:α→List Value} {k:Nat} {l:List α} (h:iF true P f args w e enc k l):iF dd P f args w e enc k l:=iu.gV h
section
variable {P:Program} {E:Nat→Value} {W:World} {d:Option Nat} {ty:TypeId} {pos:String} {af:Array Edge} {g:Option (Nat×Bool)}
 {F:Nat→Prop} {w:World} {μ:gm} {L:List (Nat×Obj)}
theorem E1 {K:Value→World→Prop} {K':Value→List (Nat×Obj)→World→Prop} {f:FuncId} {fv:Operand} {ax:Array Operand} {ats:Array TypeId} {caps:Array Value} {args:List Value} (L0 L2:List (Nat×Obj)) (a:ST dd F w W μ L) (c:L.Perm (L0++L2)) (n:fT E fv= .func (.func f) #[] caps) (he:∀args w,(callFunc f args).run P w= .ok (.enter f args) w) (ha:ax.map (fT E)++caps=args.toArray) (k:iu dd P f args W L0 K') (h:∀W' v μ' L1,ST dd F w W' μ' (L1++L2)→gf μ μ'→Lo F w μ μ'→K' v L1 W'→K v W'):jt P E ⟨d,.call ⟨.value fv,ax,ats⟩,ty,pos,af,g⟩ W K :=
 vY n he ha (bk k (λ_ W' ⟨v,L1,h1,i,j⟩=>⟨v,h1,h W' v _ L1 ((a.perm c).back i) ((a.perm c).yN W' L1) ((a.perm c).AA W' L1) j⟩))
theorem Da {K:Value→World→Prop} {α:Type} {e:TypeId} {enc:α→List Value} {k:Nat} {l:List α} {f:FuncId} {fv:Operand} {ax:Array Operand} {ats:Array TypeId} {caps:Array Value} {args:List Value} (X Y:List (Nat×Obj)) (a:ST dd F w W μ (X++Y)) (o:fT E fv= .func (.func f) #[] caps) (he:∀args w,(callFunc f args).run P w= .ok (.enter f args) w) (ha:ax.map (fT E)++caps=args.toArray) (n:iF dd P f args W e enc k l) (h:∀W' v μ' R,ST dd F w W' μ' (X++(R++Y))→gf μ μ'→Lo F w μ μ'→gB e enc k v l R→K v W'):jt P E ⟨d,.call ⟨.value fv,ax,ats⟩,ty,pos,af,g⟩ W K :=
 E1 [] (X++Y) a (.refl _) o he ha n (λW' v μ' L1 h1 c j i=>h W' v μ' L1 (h1.perm (by rw [←aH,←aH]; exact List.perm_append_comm.append_right Y)) c j i)
end
theorem ST.jM {w W:World} {μ:gm} {L R:List (Nat×Obj)} (h:ST dd iv w W μ L) (a:∀p,p∈R→p∈L) (d:(R.map (·.1)).Nodup):ma dd [] R w W :=
 ma.FY h.ex (λb o c=>⟨(h.box b o (a _ c)).1,by
  rcases (h.box b o (a _ c)).2.2 with h | h
  ·exact h
  ·exact h.elim⟩) d
theorem oM {P:Program} {E:Nat→Value} {W:World} {d:Option Nat} {ty:TypeId} {pos:String} {af:Array Edge} {g:Option (Nat×Bool)} {α:Type} {e':TypeId} {enc:α→List Value} {k:Nat} {v:Value} {l:List α} {R:List (Nat×Obj)} {x:Operand} {t e:TypeId} (a:P.underlying t=some (.slice e)) (i:fT E x=v) (h:gB e' enc k v l R):gP P E ⟨d,.call ⟨.builtin .len,#[x],#[t]⟩,ty,pos,af,g⟩ W (.int .i64 l.length) W:=by
 obtain ⟨A,c,rfl⟩:=h.form
 exact yw a i
section
variable {α:Type} {e:TypeId} {enc:α→List Value} {k:Nat} {v:Value} {l:List α} {R:List (Nat×Obj)}
theorem gB.nd (h:gB e enc k v l R):(R.map (·.1)).Nodup:=by
 rcases h with ⟨rfl,rfl,rfl⟩ | ⟨g,cap,a,rfl,rfl,_⟩ <;> simp
end
end Go.Proofs.YtjjjihkifgdhgaaGreatDoor
namespace Go.Proofs.YtjjjihkifgdhgaaGreatDoor
open Go.RowKit
variable {dd:Bool}
def uS (R:List (Nat×Obj)) (k:Nat) (p:Value) (i:Nat):Prop:=∃g o,R=[(g,o)]∧p= .pointer (some ⟨g,i*k,none⟩)
section
variable {P:Program} {E:Nat→Value} {W:World} {d:Option Nat} {ty:TypeId} {pos:String} {af:Array Edge} {g:Option (Nat×Bool)}
 {F:Nat→Prop} {w:World} {μ:gm} {L:List (Nat×Obj)} {α:Type} {e':TypeId} {enc:α→List Value} {k:Nat} {v:Value} {l:List α} {R:List (Nat×Obj)}
theorem mj {t e:TypeId} {x c:Operand} {z:IntKind} {i:Int} {x0:α} (u:P.underlying t=some (.slice e)) (he:∀w,(sizeOf e).run P w= .ok k w) (y:fT E x=v) (hi:fT E c= .int z i) (h:gB e' enc k v l R) (o:0≤i) (s:l[i.toNat]? =some x0) :
  ∃p,uS R k p i.toNat∧∀W,gP P E ⟨d,.indexAddr t x c,ty,pos,af,g⟩ W p W:=by
 have a:i.toNat < l.length:=(aR.1 s).1
 rcases h with ⟨rfl,rfl,rfl⟩ | ⟨n,cap,j,rfl,rfl,h1,A,G,I⟩
 ·simp at a
 refine ⟨.pointer (some ⟨n,i.toNat*k,none⟩),⟨_,_,rfl,rfl⟩,λW=>?_⟩
 show (do pure (.value (←Instr.indexAt t (fT E x) (fT E c))):Sem Next).run P W=_
 rw [y,hi]
 have q:0≤i∧i < (l.length:Int):=⟨o,by omega⟩
 simp [Instr.indexAt,asIntOf,aN u,he W,q,cu]
theorem sb (h:gB e' enc k v l R) (hk:∀x,(enc x).length=k) {p:Value} {i:Nat} (hp:uS R k p i) {x0:α} (q:l[i]? =some x0) :
  ∃g a cap,R=[(g,.cells a e' (0,0))]∧v= .slice (some ⟨g,0,none⟩) l.length cap∧l.length≤cap∧cap≤maxLen∧a.size=cap*k∧a.toList.take (l.length*k)=(l.map enc).flatten∧p= .pointer (some ⟨g,i*k,none⟩)∧∀j y,(enc x0)[j]? =some y→a[i*k+j]? =some y:=by
 have d:i < l.length:=(aR.1 q).1
 rcases h with ⟨rfl,rfl,rfl⟩ | ⟨u,cap,a,rfl,rfl,h1,w,z,n⟩
 ·simp at d
 obtain ⟨g2,o,s,rfl⟩:=hp
 cases s
 refine ⟨u,a,cap,rfl,rfl,h1,w,z,n,rfl,λj y A=>?_⟩
 have:=pR hk l i x0 q j y A
 rw [←n] at this
 have c:i*k+j < l.length*k:=by
  have:=(aR.1 this).1
  simp at this; omega
 rw [ct c] at this
 simpa using this
theorem qP {A:List (Nat×Obj)} (hH:kG μ A W) (d:∀q,q∈R→q∈A) (h:gB e' enc k v l R) (hk:∀x,(enc x).length=k) {p:Value} {i:Nat} (hp:uS R k p i) {x0:α} (n:l[i]? =some x0) {t:TypeId} (g:∀w,(isAgg t).run P w= .ok true w) (j:∀w,(sizeOf t).run P w= .ok k w):(Instr.loadAt t p).run P W= .ok (.agg (enc x0).toArray) W:=by
 obtain ⟨o,a,cap,rfl,rfl,_,_,_,_,rfl,c⟩:=sb h hk hp n
 exact tk g (enc x0) (by rw [hk]; exact j) (hH.2 _ _ (d _ (aM.2 rfl))) c
theorem wK {A:List (Nat×Obj)} (hH:kG μ A W) (d:∀q,q∈R→q∈A) (h:gB e' enc k v l R) (hk:∀x,(enc x).length=k) {p:Value} {i:Nat} (hp:uS R k p i) {x0:α} (j:l[i]? =some x0) {t:TypeId} {y:Value} (n:enc x0=[y]) (g:∀w,(isAgg t).run P w= .ok false w):(Instr.loadAt t p).run P W= .ok y W:=by
 obtain ⟨o,a,cap,rfl,rfl,_,_,_,_,rfl,c⟩:=sb h hk hp j
 exact tm g (hH.2 _ _ (d _ (aM.2 rfl))) (c 0 y (by rw [n]; rfl))
theorem wI (hk:∀x,(enc x).length=k):∀(l:List α) (i:Nat) (y:α),i < l.length→((l.set i y).map enc).flatten=(l.map enc).flatten.take (i*k)++enc y++(l.map enc).flatten.drop (i*k+k)
 | [],i,y,h=>by simp at h
 | z::l,0,y,h=>by
  simp [hk]
 | z::l,i+1,y,h=>by
  have:=wI hk l i y (by simpa using h)
  simp only [List.set_cons_succ,aY,bU,this]
  have h1:(i+1)*k=(enc z).length+i*k:=by rw [hk,bZ]; omega
  rw [h1,eS,fx,dK]
  simp
theorem Dm {K:Value→World→Prop} (X:List (Nat×Obj)) {Y:List (Nat×Obj)} {t:TypeId} {x y:Operand} {p u:Value} {i:Nat} {x0 x1:α} (j:ST dd F w W μ (X++(R++Y))) (h:gB e' enc k v l R) (hk:∀x,(enc x).length=k) (h1:∀x,∀u∈enc x,u.oneCell'=true) (Z:fT E x=p) (hy:fT E y=u) (hu:u.cells=(enc x1).toArray) (hp:uS R k p i) (I:l[i]? =some x0) (T:∀w,(sizeOf t).run P w= .ok k w) (Q:∀W' R',ST dd F w W' μ (X++(R'++Y))→gB e' enc k v (l.set i x1) R'→K undef W'):jt P E ⟨d,.store t x y,ty,pos,af,g⟩ W K:=by
 have z:i < l.length:=(aR.1 I).1
 obtain ⟨o,a,cap,rfl,rfl,G,M,s,O,rfl,h6⟩:=sb h hk hp I
 have hle:i*k+k≤cap*k:=by
  have:(i+1)*k≤cap*k:=bJ _ (by omega)
  rwa [bZ,fI] at this
 have n:i*k+k≤l.length*k:=by
  have:(i+1)*k≤l.length*k:=bJ _ (by omega)
  rwa [bZ,fI] at this
 have c:u.cells.size=k:=by rw [hu]; simp [hk]
 have U:=(j.box o (.cells a e' (0,0)) (by simp)).1
 have hlen:l.length*k≤cap*k:=bJ _ G
 refine .inr (.inl ⟨W.setRow o (a.toList.take (i*k)++(enc x1)++a.toList.drop (i*k+k)).toArray,?_,Q _ [(o,.cells (a.toList.take (i*k)++(enc x1)++a.toList.drop (i*k+k)).toArray e' (0,0))] (j.store _) (.inr ⟨o,cap,_,by simp,rfl,by simpa using G,M,?_,?_⟩)⟩)
 ·show (do Instr.storeAt t (fT E x) (fT E y); pure .skip:Sem Next).run P W=_
  rw [Z,hy]
  have:=tz P (off:=i*k) u (by rw [c]; exact T) (by rw [hu]; simpa using h1 x1) U (by rw [c,s]; exact hle)
  simp only [bE,this,bn,cv,c]
  rw [hu]
 ·show ((a.toList.take (i*k)++(enc x1)++a.toList.drop (i*k+k)).toArray).size=_
  have q:a.toList.length=cap*k:=by simpa using s
  rw [bV,az,az,bI,dv,hk,q,cw (by omega)]; omega
 ·rw [eL,wI hk l i x1 z,←O]
  have J:(a.toList.take (l.length*k)).take (i*k)=a.toList.take (i*k):=by rw [ef]; congr 1; omega
  have L:(a.toList.take (l.length*k)).drop (i*k+k)=(a.toList.drop (i*k+k)).take (l.length*k-(i*k+k)):=by rw [List.drop_take]
  rw [J,L]
  show List.take (l.length*k) (a.toList.take (i*k)++enc x1++a.toList.drop (i*k+k))=_
  have q:a.toList.length=cap*k:=by simpa using s
  have A:(a.toList.take (i*k)++enc x1).length=i*k+k:=by rw [az,bI,hk,q,cw (by omega)]
  rw [eC,cC (by rw [A]; exact n),A]
theorem vK (hk:∀x,(enc x).length=k):∀(l:List α) (i:Nat),i≤l.length→((l.take i).map enc).flatten=(l.map enc).flatten.take (i*k)
 | [],i,h=>by simp
 | z::l,0,h=>by simp
 | z::l,i+1,h=>by
  have:=vK hk l i (by simpa using h)
  simp only [List.take_succ_cons,aY,bU,this]
  rw [show (i+1)*k=(enc z).length+i*k by rw [hk,bZ]; omega,eS]
theorem yT {t e:TypeId} {x ih:Operand} {I:IntKind} {i:Int} (n:P.underlying t=some (.slice e)) (he:∀w,(sizeOf e).run P w= .ok k w) (o:fT E x=v) (hi:fT E ih= .int I i) (h:gB e' enc k v l R) (hk:∀x,(enc x).length=k) (s:0≤i) (G:i≤l.length) :
  ∃p,gB e' enc k p (l.take i.toNat) R∧∀W,gP P E ⟨d,.slice t x none (some ih) none,ty,pos,af,g⟩ W p W:=by
 have a:i.toNat≤l.length:=by omega
 rcases h with ⟨rfl,rfl,rfl⟩ | ⟨j,cap,c,rfl,rfl,h1,u,y,z⟩
 ·have:i=0:=by simp at G; omega
  subst this
  refine ⟨.slice none 0 0,.inl ⟨rfl,by simp,rfl⟩,λW=>?_⟩
  show (do pure (.value (←Instr.sliceAt t (fT E x) none (some (fT E ih)) none)):Sem Next).run P W=_
  rw [o,hi]
  simp [Instr.sliceAt,Instr.slice,Instr.sliceBounds,Instr.sliceBound,asIntOf,aN n,he W]
 ·refine ⟨.slice (some ⟨j,0,none⟩) (l.take i.toNat).length cap,.inr ⟨j,cap,c,rfl,rfl,by simp; omega,u,y,?_⟩,λW=>?_⟩
  ·have q:(l.take i.toNat).length=i.toNat:=by rw [bI]; omega
   have hle:i.toNat*k≤l.length*k:=bJ _ a
   rw [q,vK hk l i.toNat a,←z,ef,cw hle]
  ·show (do pure (.value (←Instr.sliceAt t (fT E x) none (some (fT E ih)) none)):Sem Next).run P W=_
   rw [o,hi]
   have A:0≤i∧i≤(cap:Int):=⟨s,by omega⟩
   simp [Instr.sliceAt,Instr.slice,Instr.sliceBounds,Instr.sliceBound,asIntOf,aN n,he W,A,cu]
   omega
theorem wC {z:lc α} {t e:TypeId} {x s:Operand} {ik:IntKind} {i:Int} (Z:P.underlying t=some (.slice e)) (he:∀w,(sizeOf e).run P w= .ok k w) (o:fT E x=v) (hi:fT E s= .int ik i) (h:Sl z k μ v l) (G:0≤i) (R:i≤l.length) :
  ∃u,(Sl z k μ u (l.drop i.toNat)∧∀B,Fr B v→Fr B u)∧∀W,gP P E ⟨d,.slice t x (some s) none none,ty,pos,af,g⟩ W u W:=by
 obtain ⟨A,c,rfl,h2,h3,I⟩:=h
 have U:i.toNat≤l.length:=by omega
 refine ⟨.slice (if c=i.toNat then A else A.map (·.add (i.toNat*k))) (l.drop i.toNat).length (c-i.toNat),⟨⟨_,_,rfl,by simp; omega,by omega,λhp=>?_⟩,λB Q b n=>?_⟩,λW=>?_⟩
 ·have Y:i.toNat < l.length:=by simp at hp; omega
  obtain ⟨b,off,cs,T,fr,rfl,J,L⟩:=I (by omega)
  refine ⟨b,off+i.toNat*k,cs,T,fr,?_,J,λj x o=>?_⟩
  ·rw [aK (by omega)]; simp [cu]
  ·rw [cM] at o
   obtain ⟨ys,M,O,p⟩:=L _ x o
   refine ⟨ys,M,O,λq y hy=>?_⟩
   have:=p q y hy
   rw [bZ] at this
   rw [show off+i.toNat*k+j*k+q=off+(i.toNat*k+j*k)+q by omega]
   exact this
 ·refine Q b ?_
  cases A with
  | none=>simp [Value.ownBlock] at n
  | some a=>
   split at n
   ·exact n
   ·obtain ⟨b',o',s'⟩:=a
    cases s' <;> simp [Value.ownBlock,Addr.add] at n ⊢ <;> split at n <;> exact n
 ·show (do pure (.value (←Instr.sliceAt t (fT E x) (some (fT E s)) none none)):Sem Next).run P W=_
  rw [o,hi]
  have n:0≤i∧i≤(l.length:Int):=⟨G,R⟩
  simp [Instr.sliceAt,Instr.slice,Instr.sliceBounds,Instr.sliceBound,asIntOf,aN Z,he W,n]
end
end Go.Proofs.YtjjjihkifgdhgaaGreatDoor
namespace Go.Proofs.YtjjjihkifgdhgaaGreatDoor
open Go.RowKit
variable {dd:Bool}
section
variable {α:Type} {e:TypeId} {enc:α→List Value} {k:Nat} {v:Value} {l:List α} {R:List (Nat×Obj)} {μ:gm}
theorem gB.one (h:gB e enc k v l R):v.oneCell'=true:=by obtain ⟨A,c,rfl⟩:=h.form; rfl
theorem Sl.one {a:lc α} (h:Sl a k μ v l):v.oneCell'=true:=by obtain ⟨A,c,rfl⟩:=h.form; rfl
theorem Sl.isNil {d:lc α} {n c:Nat} (h:Sl d k μ (.slice none n c) l):l=[]:=by
 obtain ⟨A,j,h1,o,p,g⟩:=h
 cases h1
 rcases cy l.length with a | a
 ·exact cz.1 a
 ·obtain ⟨b,off,cs,T,fr,i,_⟩:=g a
  cases i
theorem gB.isNil {n c:Nat} (h:gB e enc k (.slice none n c) l R):l=[]:=by
 rcases h with ⟨h1,rfl,rfl⟩ | ⟨g,cap,a,h1,_⟩
 ·rfl
 ·cases h1
theorem ST.H3 {w W:World} {μ:gm} {L0 L1 L2:List (Nat×Obj)} (h:ST dd (gL L0) w W μ (L1++L2)):ma dd L0 L1 w W :=
 ⟨⟨h.os,h.tape,h.output,h.drawn,h.size,h.ki⟩,λb o a=>⟨(h.box b o (bw _ a)).1,(h.box b o (bw _ a)).2.2⟩,by have:=h.nd; rw [bB] at this; exact (bz.1 this).1⟩
end
end Go.Proofs.YtjjjihkifgdhgaaGreatDoor
namespace Go.Proofs.YtjjjihkifgdhgaaGreatDoor
open Go.RowKit
variable {dd:Bool}
def nQ {κ β:Type} (beq:κ→κ→Bool) (l:List (κ×β)) (k:κ):Option β:=(l.find? (λp=>beq k p.1)).map (·.2)
def zN {κ β:Type} (beq:κ→κ→Bool) (l:List (κ×β)) (k:κ) (v:β):List (κ×β) :=
 match l.findIdx? (λp=>beq k p.1) with
 | some i=>l.set i (k,v)
 | none=>l++[(k,v)]
section
variable {P:Program} {W:World} {κ:Type} {kt:TypeId} {kenc:κ→Value} {beq:κ→κ→Bool}
theorem kd {a b:ByteArray}:gS a b=true↔a=b:=by
 unfold gS
 rw [dW,dW]
 constructor
 ·intro h
  have h1:a.data.toList=b.data.toList:=by simpa using h
  exact eE (Array.toList_inj.1 h1)
 ·rintro rfl
  simp
variable {β:Type} {vf:β→Value} {E:Nat→Value} {d:Option Nat} {ty:TypeId} {pos:String} {af:Array Edge} {g:Option (Nat×Bool)} {F:Nat→Prop} {w:World} {μ:gm} {L:List (Nat×Obj)}
end
end Go.Proofs.YtjjjihkifgdhgaaGreatDoor
namespace Go.Proofs.YtjjjihkifgdhgaaGreatDoor
open Go.RowKit
variable {dd:Bool}
def Ab {α β:Type} (P:Program) (fv:Value) (μ:gm) (a:α→List Value) (c:β→Value) (pm:α→Option β):Prop :=
 ∃f caps,fv= .func (.func f) #[] caps∧(∀args w,(callFunc f args).run P w= .ok (.enter f args) w)∧∀W x r,gf μ (hp W)→pm x=some r→gz true P f (a x++caps.toList) W (c r)
def vu {α β:Type} (P:Program) (fv:Value) (μ:gm) (a:α→List Value) (c:β→Value) (pm:α→Option β):Prop :=
 ∃f first caps,fv= .func (.func f) first caps∧(∀args w,(callFunc f args).run P w= .ok (.enter f args) w)∧∀W x r,gf μ (hp W)→pm x=some r→gz false P f (first.toList++(a x++caps.toList)) W (c r)
theorem vu.form {α β:Type} {P:Program} {fv:Value} {μ:gm} {c:α→List Value} {d:β→Value} {pm:α→Option β} (h:vu P fv μ c d pm):∃f a b,fv= .func f a b:=let ⟨f,a,b,h,_⟩:=h; ⟨_,a,b,h⟩
section
variable {P:Program} {W:World} {E:Nat→Value} {d:Option Nat} {ty:TypeId} {pos:String} {af:Array Edge} {g:Option (Nat×Bool)} {F:Nat→Prop} {w:World} {μ μ0:gm} {L:List (Nat×Obj)}
theorem vu.mono {α β:Type} {fv:Value} {a:α→List Value} {c:β→Value} {pm:α→Option β} (h:vu P fv μ a c pm) (i:gf μ μ0):vu P fv μ0 a c pm:=by
 obtain ⟨f,first,caps,h1,d,g⟩:=h
 exact ⟨f,first,caps,h1,d,λW x r h=>g W x r (i.trans h)⟩
theorem HK {α β:Type} {K:Value→World→Prop} {fv:Value} {c:α→List Value} {k:β→Value} {pm:α→Option β} {i:Operand} {ax:Array Operand} {ats:Array TypeId} (x:α) {r:β} (a:ST false F w W μ L) (s:vu P fv μ0 c k pm) (v:gf μ0 μ) (u:fT E i=fv) (ha:ax.map (fT E)++(#[]:Array Value)=(c x).toArray) (hm:pm x=some r) (h:∀W',ST false F w W' μ L→K (k r) W'):jt P E ⟨d,.call ⟨.value i,ax,ats⟩,ty,pos,af,g⟩ W K:=by
 obtain ⟨f,first,caps,rfl,n,o⟩:=s
 have j:ax.map (fT E)=(c x).toArray:=by simpa using ha
 refine .inr (.inr ⟨f,(first.toList++(c x++caps.toList)).toArray,?_,bk (o W x r (v.trans a.gd) hm) (λ_ _ ⟨p,q⟩=>⟨_,p,h _ (a.zK q)⟩)⟩)
 show (do let d ←resolve (fT E) ⟨.value i,ax,ats⟩ ty; invoke d.target d.args:Sem Next).run P W=_
 simp only [resolve,u,Deferred.ofValue,bE,cv,bn,invoke,j,n]
 congr 2
 simp
end
end Go.Proofs.YtjjjihkifgdhgaaGreatDoor
namespace Go.Proofs.YtjjjihkifgdhgaaGreatDoor
open Go.RowKit
variable {dd:Bool}
def GZ (A:List (Nat×Obj)):gm:=λb=>(A.find? (λp=>p.1==b)).map (·.2)
theorem At.of {M:gm} {b:Nat} {cs:Array Value} {T:TypeId} {fr:Nat×Nat} (h:M b=some (.cells cs T fr)) (ys:List Value) (c:cs.toList=ys):At M (.pointer (some ⟨b,0,none⟩)) ys :=
 ⟨b,0,cs,T,fr,rfl,h,λj y a=>by subst c; simpa using a⟩
section
variable {F:Nat→Prop} {w W W':World} {μ μ':gm} {L L0 L1 L2:List (Nat×Obj)}
theorem ST.yq (h:ST dd F w W μ L) (a:L.Perm (L0++L2)):∀b o,(b,o)∈L2→lf W L0 b=some o:=λb o c=>by
 have h1:=(h.perm a).at_ (cK _ c)
 unfold lf
 rw [aK (wa (h.perm a).nd c)]
 exact h1
theorem ST.held (h:ST dd F w W μ L) (a:L.Perm (L0++L2)):um L0 W:=λb o c=>((h.perm a).box b o (bw _ c)).1
theorem ST.Fz (h:ST dd F w W μ L) (a:L.Perm (L0++L2)):(L0.map (·.1)).Nodup:=by
 have:=(h.perm a).nd
 rw [bB] at this
 exact (bz.1 this).1
theorem ST.Fm (h:ST dd F w W μ L) (a:L.Perm (L0++L2)):gf μ (lf W L0):=(h.perm a).gp (λ_ hp=>bw _ hp)
end
section
variable {P:Program} {E:Nat→Value} {W:World} {d:Option Nat} {ty:TypeId} {pos:String} {af:Array Edge} {g:Option (Nat×Bool)}
 {F:Nat→Prop} {w:World} {μ:gm} {L:List (Nat×Obj)}
theorem GM {K:Value→World→Prop} {K':Value→List (Nat×Obj)→World→Prop} {f:FuncId} {fv:Operand} {ax:Array Operand} {ats:Array TypeId} {caps:Array Value} {args:List Value} (L0 L2:List (Nat×Obj)) (a:ST dd F w W μ L) (c:L.Perm (L0++L2)) (p:fT E fv= .func (.func f) #[] caps) (he:∀args w,(callFunc f args).run P w= .ok (.enter f args) w) (ha:ax.map (fT E)++(#[]:Array Value)=args.toArray) (n:um L0 W→(L0.map (·.1)).Nodup→gf μ (lf W L0)→(∀b o,(b,o)∈L2→lf W L0 b=some o)→iu dd P f (args++caps.toList) W L0 K') (h:∀W' v μ' L1,ST dd F w W' μ' (L1++L2)→gf μ μ'→Lo F w μ μ'→(∀b,W.heap.size≤b→∀o,lf W' L1 b=some o→μ' b=some o)→K' v L1 W'→K v W'):jt P E ⟨d,.call ⟨.value fv,ax,ats⟩,ty,pos,af,g⟩ W K:=by
 have i:ax.map (fT E)=args.toArray:=by simpa using ha
 refine vY (args:=(args++caps.toList).toArray) p he (by rw [i]; simp) (bk (n (a.held c) (a.Fz c) (a.Fm c) (a.yq c)) (λ_ W' ⟨v,L1,h1,j,k⟩=>⟨v,h1,h W' v _ L1 ((a.perm c).back j) ((a.perm c).yN W' L1) ((a.perm c).AA W' L1) ?_ k⟩))
 intro b s o q
 unfold sF
 rw [aK (by omega)]
 exact q
theorem Sl.lift {α:Type} {enc:α→List Value} {k:Nat} {M μ':gm} {B:Nat} {v:Value} {l:List α} (h:Sl (Pl enc) k M v l) (q:Fr B v) (p:∀b,B≤b→∀o,M b=some o→μ' b=some o):Sl (Pl enc) k μ' v l:=by
 obtain ⟨A,c,h1,d,g,i⟩:=h
 refine ⟨A,c,h1,d,g,λs=>?_⟩
 obtain ⟨b,off,cs,T,fr,a,j,n⟩:=i s
 exact ⟨b,off,cs,T,fr,a,p b (q b (by rw [h1,a]; rfl)) _ j,n⟩
theorem wL {t:TypeId} (dd:Nat) {s u:Array TypeId} {b:Bool} (d:P.underlying t=some (.func s u b)) (f:Fn) (a c:Array Value) (W:World):(Op.equalIn (dd+1) t (.func f a c) .nilFunc).run P W= .ok false W:=by
 simp [Op.equalIn,aN d]
theorem Bk {tx tv:TypeId} {x y:Operand} {f:Fn} {a b:Array Value} {s u:Array TypeId} {bb:Bool} (h:P.underlying tx=some (.func s u bb)) (i:fT E x= .func f a b) (j:fT E y= .nilFunc) :
  gP P E ⟨d,.binOp .neq tx x y tv,ty,pos,af,g⟩ W (.bool true) W:=by
 show (do let r ←(do eqGuard .neq tx x y (fT E x) (fT E y); binOp .neq tx (fT E x) (fT E y)); pure (.value r):Sem Next).run P W=_
 rw [i,j]
 have c:=wL 9999 h f a b W
 simp [eqGuard,binOp,Op.equal,show Op.maxDepth=9999+1 from rfl,c]
end
def xu {κ β:Type} (beq:κ→κ→Bool) (l:List (κ×β)) (k:κ) (z:β):β:=(nQ beq l k).getD z
def jE {α:Type} (l:List α) (i:Nat) (z:α):List α:=l.take i++List.replicate (l.length-i) z
theorem oe {α:Type} (l:List α) (i:Nat) (z:α) (h:i≤l.length):(jE l i z).length=l.length:=by simp [jE]; omega
theorem wD {α:Type} (l:List α) (i:Nat) (z:α) (h:i≤l.length):(jE l i z).take i=l.take i:=by
 simp only [jE]
 rw [eC,cC (by simp; omega)]
 simp; omega
end Go.Proofs.YtjjjihkifgdhgaaGreatDoor
namespace Go.Proofs.YtjjjihkifgdhgaaGreatDoor
open Go.RowKit
variable {dd:Bool}
def kh (b:Bool):Option Unit:=if b=true then some () else none
theorem wR {b:Bool} {u:Unit} (h:kh b=some u):b=true:=by
 unfold kh at h; split at h
 ·assumption
 ·cases h
theorem sV {a c:Int} {u:Unit} (h:kh (decide (0≤a)&&decide (a≤c))=some u):0≤a:=by have:=wR h; simp at this; exact this.1
theorem sO {a c:Int} {u:Unit} (h:kh (decide (0≤a)&&decide (a≤c))=some u):a≤c:=by have:=wR h; simp at this; exact this.2
def xH (k:Nat) (v:Value) (i:Nat) (u:Value):Prop:=∃A n c A' a,v= .slice A n c∧u= .slice A' (n-i) a∧i≤n∧(i < n→∃b o,A=some ⟨b,o,none⟩∧A'=some ⟨b,o+i*k,none⟩)
section
variable {P:Program} {E:Nat→Value} {W:World} {d:Option Nat} {ty:TypeId} {pos:String} {af:Array Edge} {g:Option (Nat×Bool)}
 {F:Nat→Prop} {w:World} {μ:gm} {L:List (Nat×Obj)} {α:Type} {e':TypeId} {enc:α→List Value} {k:Nat} {v:Value} {l:List α} {R:List (Nat×Obj)}
theorem tj {t e:TypeId} {x a:Operand} {z:IntKind} {i:Int} (n:P.underlying t=some (.slice e)) (he:∀w,(sizeOf e).run P w= .ok k w) (o:fT E x=v) (hi:fT E a= .int z i) (h:gB e' enc k v l R) (q:0≤i) (j:i≤l.length) :
  ∃u,xH k v i.toNat u∧∀W,gP P E ⟨d,.slice t x (some a) none none,ty,pos,af,g⟩ W u W:=by
 rcases h with ⟨rfl,rfl,rfl⟩ | ⟨c,cap,p,rfl,rfl,h1,A,G,I⟩
 ·have:i=0:=by simp at j; omega
  subst this
  refine ⟨.slice none 0 0,⟨none,0,0,none,0,rfl,rfl,bl _,λh=>absurd h (by simp)⟩,λW=>?_⟩
  show (do pure (.value (←Instr.sliceAt t (fT E x) (some (fT E a)) none none)):Sem Next).run P W=_
  rw [o,hi]
  simp [Instr.sliceAt,Instr.slice,Instr.sliceBounds,Instr.sliceBound,asIntOf,aN n,he W]
 ·refine ⟨.slice (some (if cap=i.toNat then ⟨c,0,none⟩ else (Addr.add ⟨c,0,none⟩ (i.toNat*k)))) (l.length-i.toNat) (cap-i.toNat),⟨_,_,_,_,_,rfl,rfl,by omega,λy=>⟨c,0,rfl,?_⟩⟩,λW=>?_⟩
  ·rw [aK (by omega)]; simp [cu]
  ·show (do pure (.value (←Instr.sliceAt t (fT E x) (some (fT E a)) none none)):Sem Next).run P W=_
   rw [o,hi]
   have s:0≤i∧i≤(l.length:Int):=⟨q,j⟩
   simp [Instr.sliceAt,Instr.slice,Instr.sliceBounds,Instr.sliceBound,asIntOf,aN n,he W,s]
   split <;> rfl
theorem uB {i j:Nat} {x0:α} (h:(l.drop i)[j]? =some x0):l[i+j]? =some x0:=by rwa [cM] at h
theorem D1 {t e:TypeId} {x:Operand} {u:Value} {i:Nat} (o:P.underlying t=some (.slice e)) (p:fT E x=u) (hu:xH k v i u) (h:gB e' enc k v l R):gP P E ⟨d,.call ⟨.builtin .len,#[x],#[t]⟩,ty,pos,af,g⟩ W (.int .i64 ((l.length-i:Nat):Int)) W:=by
 obtain ⟨A,n,c,A',q,h1,j,w,_⟩:=hu
 subst j
 have:n=l.length:=by
  rcases h with ⟨rfl,rfl,rfl⟩ | ⟨s,cap,a,rfl,rfl,_⟩
  ·cases h1; rfl
  ·cases h1; rfl
 subst this
 exact yw o p
theorem tq {t e:TypeId} {x q:Operand} {T:IntKind} {i:Int} {x0:α} {u:Value} {o:Nat} (O:P.underlying t=some (.slice e)) (he:∀w,(sizeOf e).run P w= .ok k w) (Q:fT E x=u) (hi:fT E q= .int T i) (h:gB e' enc k v l R) (hu:xH k v o u) (I:0≤i) (M:(l.drop o)[i.toNat]? =some x0) :
  ∃p,uS R k p (o+i.toNat)∧∀W,gP P E ⟨d,.indexAddr t x q,ty,pos,af,g⟩ W p W:=by
 have a:=uB M
 have j:o+i.toNat < l.length:=(aR.1 a).1
 rcases h with ⟨rfl,rfl,rfl⟩ | ⟨G,cap,s,rfl,rfl,h1,Y,Z,h4⟩
 ·simp at j
 obtain ⟨A,n,c,A',U,y,rfl,h7,J⟩:=hu
 cases y
 obtain ⟨b,oo,z,rfl⟩:=J (by omega)
 cases z
 refine ⟨.pointer (some ⟨G,(o+i.toNat)*k,none⟩),⟨_,_,rfl,rfl⟩,λW=>?_⟩
 show (do pure (.value (←Instr.indexAt t (fT E x) (fT E q))):Sem Next).run P W=_
 rw [Q,hi]
 have L:0≤i∧i < ((l.length-o:Nat):Int):=⟨I,by omega⟩
 simp [Instr.indexAt,asIntOf,aN O,he W,L,cu,bZ]
theorem CR {u:lc α} {t e:TypeId} {x ih:Operand} {U:IntKind} {j:Int} (R:P.underlying t=some (.slice e)) (he:∀w,(sizeOf e).run P w= .ok k w) (n:fT E x=v) (hi:fT E ih= .int U j) (h:Sl u k μ v l) (G:0≤j) (hl:j≤l.length) :
  ∃s,(Sl u k μ s (l.take j.toNat)∧∀B,Fr B v→Fr B s)∧∀W,gP P E ⟨d,.slice t x none (some ih) none,ty,pos,af,g⟩ W s W:=by
 obtain ⟨A,c,rfl,Z,I,J⟩:=h
 have Q:j.toNat≤l.length:=by omega
 refine ⟨.slice A (l.take j.toNat).length c,⟨⟨A,c,rfl,by simp; omega,I,λhp=>?_⟩,λB O b o=>O b (by cases A with | none=>simp [Value.ownBlock] at o | some a=>(obtain ⟨y,Y,q⟩:=a; cases q <;> simp [Value.ownBlock] at o ⊢ <;> exact o))⟩,λW=>?_⟩
 ·have p:0 < l.length:=by simp at hp; omega
  obtain ⟨b,off,cs,T,fr,rfl,L,M⟩:=J p
  refine ⟨b,off,cs,T,fr,rfl,L,λi x n=>?_⟩
  rw [di] at n
  split at n
  ·exact M i x n
  ·cases n
 ·show (do pure (.value (←Instr.sliceAt t (fT E x) none (some (fT E ih)) none)):Sem Next).run P W=_
  rw [n,hi]
  have o:0≤j∧j≤(c:Int):=⟨G,by omega⟩
  have z:min j.toNat l.length=j.toNat:=by omega
  simp [Instr.sliceAt,Instr.slice,Instr.sliceBounds,Instr.sliceBound,asIntOf,aN R,he W,o,z]
  intro _
  cases A with
  | none=>rfl
  | some a=>obtain ⟨y,Y,q⟩:=a; cases q <;> simp [Addr.add]
theorem yr (ys:List Value) (m:Nat):(Builtin.zeroCells ys.toArray m).toList=(List.replicate m ys).flatten:=by
 unfold Builtin.zeroCells
 simp only [Array.toList_map,Array.toList_range,bV]
 rcases cy ys.length with a | a
 ·have:ys=[]:=cz.1 a
  subst this
  simp
 apply fl
 intro q
 by_cases d:q < m*ys.length
 ·have h1:q / ys.length < m:=(ey a).2 d
  have c:q % ys.length < ys.length:=Nat.mod_lt _ a
  have:=pR (enc:=λ_:Unit=>ys) (λ_=>rfl) (List.replicate m ()) (q / ys.length) () (by simp [h1]) (q % ys.length) ys[q % ys.length] (by simp [c])
  rw [Nat.div_add_mod' q ys.length] at this
  rw [List.map_replicate] at this
  rw [this]
  simp [d,c]
 ·rw [cJ (by simp; omega),cJ (by simp; omega)]
theorem By {K:Value→World→Prop} (z:α) (X:List (Nat×Obj)) {Y:List (Nat×Obj)} {t e:TypeId} {x:Operand} {u zv:Value} {i:Nat} (p:ST dd F w W μ (X++(R++Y))) (h:gB e' enc k v l R) (hk:∀x,(enc x).length=k) (h1:∀x,∀u∈enc x,u.oneCell'=true) (Q:P.underlying t=some (.slice e)) (hz:∀w,(zeroValue e).run P w= .ok zv w) (hu:xH k v i u) (hc:zv.cells=(enc z).toArray) (hx:fT E x=u) (M:∀W' R',ST dd F w W' μ (X++(R'++Y))→gB e' enc k v (jE l i z) R'→K (.tuple #[]) W'):jt P E ⟨d,.call ⟨.builtin .clear,#[x],#[t]⟩,ty,pos,af,g⟩ W K:=by
 have j:∀(W':World),(Builtin.clear_ #[t] ty #[u]).run P W= .ok (.tuple #[]) W'→(execOp (fT E) ⟨d,.call ⟨.builtin .clear,#[x],#[t]⟩,ty,pos,af,g⟩).run P W= .ok (.value (.tuple #[])) W':=by
  intro W' hV
  show (do let d ←resolve (fT E) ⟨.builtin .clear,#[x],#[t]⟩ ty; invoke d.target d.args:Sem Next).run P W=_
  simp [resolve,invoke,builtin,hx,hV]
 obtain ⟨A,n,c,A',c',e1,rfl,G,h8⟩:=hu
 rcases h with ⟨rfl,rfl,rfl⟩ | ⟨s,cap,a,rfl,rfl,Z,q2,J,q4⟩
 ·cases e1
  refine .inl ⟨_,W,j W ?_,M W [] p (by simpa [jE] using gB.nil e' enc k)⟩
  simp only [Builtin.clear_,Nat.zero_sub]
  cases A' <;> simp [aN Q]
 ·cases e1
  by_cases hi:i < l.length
  ·obtain ⟨b,o,e2,rfl⟩:=h8 hi
   cases e2
   have U:∀m,(Builtin.zeroCells zv.cells m).toList=(List.replicate m (enc z)).flatten:=by
    intro m
    rw [hc]; exact yr _ _
   have hb:=(p.box s (.cells a e' (0,0)) (by simp)).1
   have hle:i*k+(l.length-i)*k=l.length*k:=by rw [←bZ]; congr 1; omega
   have hlen:l.length*k≤c*k:=bJ _ Z
   have q:((List.replicate (l.length-i) (enc z)).flatten).length=(l.length-i)*k:=by simp [hk]
   have y:∀v∈(List.replicate (l.length-i) (enc z)).flatten,v.oneCell'=true:=by
    intro v I
    obtain ⟨ys,T,I⟩:=List.mem_flatten.1 I
    rw [(List.mem_replicate.1 T).2] at I
    exact h1 z v I
   have hs:=run_storeCells_at (P:=P) s (i*k) e' ((List.replicate (l.length-i) (enc z)).flatten) 0 a W hb (by rw [q,J]; omega) y
   rw [Nat.add_zero,q,hle] at hs
   refine .inl ⟨_,W.setRow s (a.toList.take (i*k)++(List.replicate (l.length-i) (enc z)).flatten++a.toList.drop (l.length*k)).toArray,j _ ?_,M _ [(s,.cells (a.toList.take (i*k)++(List.replicate (l.length-i) (enc z)).flatten++a.toList.drop (l.length*k)).toArray e' (0,0))] (p.store _) (.inr ⟨s,c,_,by rw [oe _ _ _ G],rfl,by rw [oe _ _ _ G]; exact Z,q2,?_,?_⟩)⟩
   ·have hn:l.length-i=(l.length-i-1)+1:=by omega
    simp only [Builtin.clear_]
    rw [hn]
    simp only [aN Q,bE,bn,dl,List.getElem?_cons_zero,hz,dT]
    rw [←hn,U,hs]
    simp
   ·have L:a.toList.length=c*k:=by simpa using J
    rw [bV,az,az,bI,dv,q,L,cw (by omega)]
    omega
   ·rw [oe _ _ _ G,jE,bB,eQ,vK hk l i G,←q4,ef,cw (by omega),List.map_replicate]
    have L:a.toList.length=c*k:=by simpa using J
    have e3:(a.toList.take (i*k)++(List.replicate (l.length-i) (enc z)).flatten).length=l.length*k:=by rw [az,bI,q,L,cw (by omega)]; omega
    show List.take (l.length*k) (a.toList.take (i*k)++(List.replicate (l.length-i) (enc z)).flatten++a.toList.drop (l.length*k))=_
    rw [eC,cC (by rw [e3]; exact bl _),e3,Nat.sub_self]
    simp
  ·have O:i=l.length:=by omega
   subst O
   refine .inl ⟨_,W,j W ?_,M W _ p ?_⟩
   ·simp only [Builtin.clear_,Nat.sub_self]
    cases A' <;> simp [aN Q]
   ·simp only [jE,List.take_length,Nat.sub_self,List.replicate_zero,bQ]
    exact .inr ⟨s,c,a,rfl,rfl,Z,q2,J,q4⟩
end
end Go.Proofs.YtjjjihkifgdhgaaGreatDoor
namespace Go.Proofs.YtjjjihkifgdhgaaGreatDoor
open Go.RowKit
variable {dd:Bool}
section
variable {P:Program} {E:Nat→Value} {W:World} {d:Option Nat} {ty:TypeId} {pos:String} {af:Array Edge} {g:Option (Nat×Bool)}
 {F:Nat→Prop} {w:World} {μ:gm} {L:List (Nat×Obj)}
theorem zB {K:Value→World→Prop} {f:FuncId} {fv:Operand} {ax:Array Operand} {ats:Array TypeId} {args:List Value} {v:Value} (c:fT E fv= .func (.func f) #[] #[]) (ha:ax.map (fT E)++(#[]:Array Value)=args.toArray) (i:(callFunc f args.toArray).run P W= .ok (.value v) W) (h:K v W):jt P E ⟨d,.call ⟨.value fv,ax,ats⟩,ty,pos,af,g⟩ W K:=by
 have a:ax.map (fT E)=args.toArray:=by simpa using ha
 refine .inl ⟨v,W,?_,h⟩
 show (do let d ←resolve (fT E) ⟨.value fv,ax,ats⟩ ty; invoke d.target d.args:Sem Next).run P W=_
 simp only [resolve,c,Deferred.ofValue,bE,cv,bn,invoke]
 rw [a]
 simpa using i
def ni (s:ByteArray) (c:Int):Int:=Lib.indexByte s.data.toList c.toNat.toUInt8
def nc (a b:ByteArray):Int:=Lib.compareBytes a.data.toList b.data.toList
def pB (l:List Int):List UInt8:=l.map λx=>x.toNat.toUInt8
def pW (a b:List Int):Int:=Lib.compareBytes (pB a) (pB b)
theorem xR {f:FuncId} {fn:Func} (g:P.funcs[f]? =some fn) (a:(fn.name== "runtime.NumGoroutine")=false) (d:fn.body.isNone=true) (h:Extern.findNext fn=none) (he:Extern.find fn=some Extern.BytealgIndexByte.indexByte) (s:ByteArray) (c:Int) (w:World) :
  (callFunc f [Value.string s,.int .u8 c].toArray).run P w= .ok (.value (.int .i64 (ni s c))) w:=by
 rw [dX g a d h he]
 rw [Lib.run_indexByteString]
 rfl
theorem ER {f:FuncId} {fn:Func} (g:P.funcs[f]? =some fn) (c:(fn.name== "runtime.NumGoroutine")=false) (d:fn.body.isNone=true) (h:Extern.findNext fn=none) (he:Extern.find fn=some Extern.BytealgCompare.compare) (a b:ByteArray) (w:World) :
  (callFunc f [Value.string a,.string b].toArray).run P w= .ok (.value (.int .i64 (nc a b))) w:=by
 rw [dX g c d h he]
 rw [Lib.run_compareString]
 rfl
theorem vj {v:Value} {l:List Int} (h:Sl (Pl (fW .u8)) 1 (hp W) v l):(Extern.Bytes.bytesOf v).run P W= .ok ⟨(pB l).toArray⟩ W:=by
 obtain ⟨A,c,rfl,p,q,i⟩:=h
 rcases cy l.length with a | a
 ·have:l=[]:=cz.1 a
  subst this
  cases A <;> simp [Extern.Bytes.bytesOf,Extern.Bytes.loadBytes,pB] <;> rfl
 ·obtain ⟨b,off,cs,T,fr,rfl,k,n⟩:=i a
  have:=Lib.run_loadBytesX (P:=P) W l ⟨b,off,none⟩ .empty (λj x o=>by
   obtain ⟨ys,_,g,d⟩:=n j x o
   cases g
   rw [cu,dL W b (off+j) cs T fr k]
   have:=d 0 (.int .u8 x) rfl
   simpa using this)
  simp only [Extern.Bytes.bytesOf]
  rw [this]
  congr 1
  apply eE
  show (#[]:Array UInt8)++_=_
  simp [Lib.bytesOf,pB]
theorem Fk {f:FuncId} {fn:Func} (j:P.funcs[f]? =some fn) (c:(fn.name== "runtime.NumGoroutine")=false) (i:fn.body.isNone=true) (k:Extern.findNext fn=none) (he:Extern.find fn=some Extern.BytealgCompare.compare) {d g:Value} {a b:List Int} (h1:Sl (Pl (fW .u8)) 1 (hp W) d a) (h:Sl (Pl (fW .u8)) 1 (hp W) g b) :
  (callFunc f [d,g].toArray).run P W= .ok (.value (.int .i64 (pW a b))) W:=by
 rw [dX j c i k he]
 have:(Extern.BytealgCompare.compare [d,g].toArray).run P W= .ok (.int .i64 (pW a b)) W:=by
  change Sem.run P (do pure (goInt (Extern.BytealgCompare.cmp (←Extern.Bytes.bytesOf d) (←Extern.Bytes.bytesOf g)))) W=_
  simp only [bE,vj h1,vj h,cv,Result.andThen]
  rw [Lib.cmp_eq]
  rfl
 rw [this]
 rfl
theorem wE {fn:Fn} {caps:Array Operand} {cs:List Value} {v:Value} (a:caps.map (fT E)++(#[]:Array Value)=cs.toArray) (c:.func fn #[] cs.toArray=v):gP P E ⟨d,.makeFunc fn #[] caps,ty,pos,af,g⟩ W v W:=by
 have:caps.map (fT E)=cs.toArray:=by simpa using a
 exact CU (by rw [this]; simpa using c)
theorem iu.mono {f:FuncId} {args:List Value} {L0:List (Nat×Obj)} {K K':Value→List (Nat×Obj)→World→Prop} (h:iu dd P f args w L0 K) (hk:∀v L1 W',K v L1 W'→K' v L1 W'):iu dd P f args w L0 K' :=
 bk h (λ_ _ ⟨v,L1,h1,a,c⟩=>⟨v,L1,h1,a,hk _ _ _ c⟩)
end
section
variable {α:Type}
def lJ (cf:α×α→Option Int) (x y:α):Bool:=match cf (x,y) with
 | some c=>decide (c < 0)
 | none=>false
structure so (cf:α×α→Option Int) (l:List α):Prop where
 is:∀x∈l,∀y∈l,∃c,cf (x,y)=some c
 irrefl:∀x∈l,lJ cf x x=false
 trans:∀x∈l,∀y∈l,∀z∈l,lJ cf x y=true→lJ cf y z=true→lJ cf x z=true
 total:∀x∈l,∀y∈l,lJ cf x y=false→lJ cf y x=false→x=y
 short:l.length < 4611686018427387904
def kX (cf:α×α→Option Int) (l:List α):List α:=l.mergeSort λx y=>!lJ cf y x
open Classical in
noncomputable def rR (cf:α×α→Option Int) (l:List α):Option (List α) :=
 match l with
 | []=>some []
 | [x]=>(cf (x,x)).bind λc=>if c < 0 then none else some [x]
 | l=>if so cf l then some (kX cf l) else none
theorem CG {cf:α×α→Option Int}:so cf ([]:List α):=⟨λx h=>(by cases h),λx h=>(by cases h),λx h=>(by cases h),λx h=>(by cases h),by simp⟩
theorem Cw {cf:α×α→Option Int} {x:α} {c:Int} (h:cf (x,x)=some c) (i:¬c < 0):so cf [x] where
 is a ha b g:=by rw [aM.1 ha,aM.1 g]; exact ⟨c,h⟩
 irrefl a ha:=by rw [aM.1 ha]; simp [lJ,h,i]
 trans a ha b g d j h1 _:=by rw [aM.1 ha,aM.1 g] at h1; simp [lJ,h,i] at h1
 total a ha b g _ _:=by rw [aM.1 ha,aM.1 g]
 short:=by simp
theorem Dk {cf:α×α→Option Int} {l r:List α} (h:rR cf l=some r):so cf l∧r=kX cf l:=by
 unfold rR at h
 split at h
 ·cases h; exact ⟨CG,by simp [kX]⟩
 ·rename_i x
  cases d:cf (x,x) with
  | none=>rw [d] at h; cases h
  | some c=>
   rw [d,ay] at h
   by_cases a:c < 0
   ·rw [aJ a] at h; cases h
   ·rw [aK a] at h; cases h; exact ⟨Cw d a,by simp [kX]⟩
 ·split at h
  ·rename_i g; cases h; exact ⟨g,rfl⟩
  ·cases h
theorem FI {cf:α×α→Option Int} {l:List α} (h:so cf l):rR cf l=some (kX cf l):=by
 unfold rR
 split
 ·simp [kX]
 ·rename_i x
  obtain ⟨c,d⟩:=h.is x (by simp) x (by simp)
  have a:=h.irrefl x (by simp)
  rw [d,ay]
  simp only [lJ,d,decide_eq_false_iff_not] at a
  rw [aK a]; simp [kX]
 ·rw [aJ h]
def Gl (l:List ByteArray):List ByteArray:=l.mergeSort λx y=>!sU y x
end
end Go.Proofs.YtjjjihkifgdhgaaGreatDoor
namespace Go.Proofs.YtjjjihkifgdhgaaGreatDoor
open Go.RowKit
section
variable {P:Program} {E:Nat→Value} {W:World} {d:Option Nat} {ty:TypeId} {pos:String} {af:Array Edge} {g:Option (Nat×Bool)}
theorem HS {x y:Operand} {ats:Array TypeId} {k:IntKind} {a b:Int} (c:fT E x= .int k a) (h:fT E y= .int k b) :
  gP P E ⟨d,.call ⟨.builtin .min,#[x,y],ats⟩,ty,pos,af,g⟩ W (.int k (if b < a then b else a)) W:=by
 show (do let d ←resolve (fT E) ⟨.builtin .min,#[x,y],ats⟩ ty; invoke d.target d.args:Sem Next).run P W=_
 simp [resolve,invoke,c,h,builtin,Builtin.min_,Builtin.min2]
end
variable {dd:Bool}
section
variable {κ γ:Type} {Q:Value→γ→List (Nat×Obj)→Prop} {beq:κ→κ→Bool} {kenc:κ→Value}
variable {P:Program} {W:World} {kt:TypeId} {E:Nat→Value} {d:Option Nat} {ty:TypeId} {pos:String} {af:Array Edge} {g:Option (Nat×Bool)} {F:Nat→Prop} {w:World} {μ:gm} {L:List (Nat×Obj)}
variable {κ2 β:Type} {kenc2:κ2→Value} {vf:β→Value} {beq2:κ2→κ2→Bool} {kt2:TypeId}
def IU {κ κ2 β:Type} (beq:κ→κ→Bool) (beq2:κ2→κ2→Bool) (l:List (κ×List (κ2×β))) (k:κ) (k2:κ2) (x:β):Option (List (κ×List (κ2×β))):=(nQ beq l k).map λa=>zN beq l k (zN beq2 a k2 x)
def I1 {κ γ:Type} (beq:κ→κ→Bool) (l:List (κ×γ)) (k:κ) (x:γ):Option (List (κ×γ)):=if (nQ beq l k).isNone then some (zN beq l k x) else none
end
end Go.Proofs.YtjjjihkifgdhgaaGreatDoor
namespace Go.Proofs.YtjjjihkifgdhgaaGreatDoor
open Go.RowKit
variable {dd:Bool}
theorem kG.hp (W:World):kG (hp W) [] W:=⟨λ_ _ h=>h,λ_ _ h=>by cases h⟩
end Go.Proofs.YtjjjihkifgdhgaaGreatDoor
namespace Go.Proofs.YtjjjihkifgdhgaaGreatDoor
open Go.RowKit
variable [M:Md]
section
variable {P:Program} {ops:Array Oper} {Q:Exit→Act→World→Prop} {S:Array Bool→World→Prop}
def pG (ops:Array Oper) (l:Array Bool):Prop:=∀j o,ops[j]? =some o→l.getD j true=true→∀e∈o.after,Region.binds .any e=true→l.getD e.on true=true
def xg (ops:Array Oper):Nat→List Nat→Bool
 | _,[]=>true
 | j,k::r=>(match ops[j]? with | some o=>o.after.any (λe=>Region.binds .any e&&e.on==k) | none=>false)&&xg ops k r
theorem xp {l:Array Bool} (d:pG ops l):∀(r:List Nat) (j i:Nat),xg ops j r=true→(j::r).getLast? =some i→l.getD j true=true→l.getD i true=true
 | [],j,i,_,h,a=>by simp at h; subst h; exact a
 | k::r,j,i,h,p,a=>by
  simp only [xg,aT] at h
  obtain ⟨h1,g⟩:=h
  cases c:ops[j]? with
  | none=>rw [c] at h1; cases h1
  | some o=>
   rw [c] at h1
   simp only [Array.any_eq_true] at h1
   obtain ⟨n,q,h1⟩:=h1
   simp only [aT,fD] at h1
   have:=d j o c a o.after[n] (Array.getElem_mem q) h1.1
   rw [h1.2] at this
   exact xp d r k i g (by simpa [List.getLast?_cons_cons] using p) this
def wT (ops:Array Oper) (i:Nat) (l:Array Bool):Prop:=pG ops l∧l.getD i true=false
theorem wT.B6 {l:Array Bool} {i:Nat} (h:wT ops i l) (j:Nat) (r:List Nat) (a:xg ops j r=true) (d:(j::r).getLast? =some i):l.getD j true=false:=by
 cases c:l.getD j true with
 | false=>rfl
 | true=>have:=xp h.1 r j i a d c; rw [h.2] at this; cases this
theorem pG.start (n:Nat) (h:n=ops.size):pG ops (Array.replicate n false):=by
 subst h
 intro j o d c
 have a:j < ops.size:=(ch.1 d).1
 simp [a] at c
theorem pG.set {l:Array Bool} {i:Nat} (h:pG ops l) (u:i∈Region.ready .any ops l):pG ops (l.setIfInBounds i true):=by
 intro j o s q e he p
 have up:∀{k:Nat},l.getD k true=true→(l.setIfInBounds i true).getD k true=true:=λ{k} hk=>by
  by_cases d:i=k
  ·subst d
   by_cases n:i < l.size
   ·simp [n]
   ·simp [n]
  ·rw [fJ true d]; exact hk
 by_cases c:i=j
 ·subst c
  obtain ⟨_,v,g,a⟩:=fN.1 u
  rw [s] at g
  cases g
  refine up ?_
  have:=a e he p
  by_cases n:e.on < l.size
  ·simp [n] at this ⊢; exact this
  ·simp [n]
 ·rw [fJ true c] at q
  exact up (h j o s q e he p)
def tQ (P:Program) (ops:Array Oper) (S:Array Bool→World→Prop) (i:Nat) (o:Oper) (v:Value) (a:Act):Prop :=
 (Region.wanted o (yielded ops a.tmps)=true∧∀l w,wT ops i l→S l w→(execOp a.eval o).run P w= .ok (.value v) w)∨
 (Region.wanted o (yielded ops a.tmps)=false∧v=undef)
theorem tQ.IE {i:Nat} {o:Oper} {v:Value} {a:Act} {l:Array Bool} (h:tQ P ops S i o v a) (hp:wT ops i l):YieldsIf P ops (S l) o v a :=
 h.imp (λ⟨h1,c⟩=>⟨h1,λw hw=>c l w hp hw⟩) id
def Cl (P:Program) (ops:Array Oper) (Q:Exit→Act→World→Prop) (S:Array Bool→World→Prop):Nat→Array Bool→Act→World→Prop
 | 0,l,a,w=>Region.ready .any ops l=[]∧Q .normal a w
 | n+1,l,a,w=>(Region.ready .any ops l=[]→Q .normal a w)∧
  ∀i∈Region.ready .any ops l,wpOp P ops Q i (λd c=>S (l.setIfInBounds i true) c∧Cl P ops Q S n (l.setIfInBounds i true) d c) a w
theorem BI:∀(n:Nat) (l:Array Bool) (a:Act) (w:World),Cl P ops Q S n l a w→wpAny P .any ops Q n l a w
 | 0,_,_,_,h=>h
 | n+1,_,_,_,h=>⟨h.1,λi hi=>wpOp_mono (λc g d=>BI n _ c g d.2) (h.2 i hi)⟩
theorem ED {i j:Nat} {d q:Oper} {v:Value} (y:ops[j]? =some q) (n:d.apart ops q=true) (o:∀cs b,d.op≠.select cs b) (p:∀cs b,q.op≠.select cs b) (x:∀c a w,Q (.panic c) (a.put d.dst v) w→Q (.panic c) a w) {K:Act→World→Prop} {a:Act} {w:World} (z:tQ P ops S i d v a) (h:wpOp P ops Q j K (a.put d.dst v) w) :
  wpOp P ops Q j (λg u=>tQ P ops S i d v g∧K (g.put d.dst v) u) a w:=by
 have h1:YieldsIf P ops (λw=>∃l,wT ops i l∧S l w) d v a:=z.imp (λ⟨h1,k⟩=>⟨h1,λw ⟨l,hp,hw⟩=>k l w hp hw⟩) id
 refine wpOp_mono (λg u s=>⟨s.1.imp (λ⟨h1,k⟩=>⟨h1,λl w hp hw=>k w ⟨l,hp,hw⟩⟩) id,s.2⟩) (wpOp_putIf (S:=λw=>∃l,wT ops i l∧S l w) y n o p x h1 h)
theorem yG {i:Nat} {A:Oper} {v:Value} (hi:ops[i]? =some A) (x:∀(j:Nat) (o:Oper) cs b,ops[j]? =some o→o.op≠.select cs b) (hQ:∀c a w,Q (.panic c) (a.put A.dst v) w→Q (.panic c) a w) (hm:∀l w,S (l.setIfInBounds i true) w→S l w) :
  ∀(n:Nat) (l:Array Bool) (a:Act) (w:World),(∀j G,ops[j]? =some G→j≠i→l.getD j true=false→(∀e∈G.after,Region.binds .any e=true→e.on≠i)→A.apart ops G=true)→
   pG ops l→i∈Region.ready .any ops l→tQ P ops S i A v a→S (l.setIfInBounds i true) w→Cl P ops Q S n (l.setIfInBounds i true) (a.put A.dst v) w→Cl P ops Q S (n+1) l a w:=by
 intro n
 induction n with
 | zero=>
  intro l a w _ T s U I H
  refine ⟨λh=>(by rw [h] at s; cases s),λj L=>?_⟩
  by_cases d:j=i
  ·subst d
   exact (U.IE ⟨T,(fN.1 s).1⟩).wpOp hi (hm l w I) ⟨I,H⟩
  ·have:=ready_mono L d
   rw [H.1] at this
   cases this
 | succ n ih=>
  intro l a w p T s U I H
  refine ⟨λh=>(by rw [h] at s; cases s),λj L=>?_⟩
  by_cases d:j=i
  ·subst d
   exact (U.IE ⟨T,(fN.1 s).1⟩).wpOp hi (hm l w I) ⟨I,H⟩
  have h1:=H.2 j (ready_mono L d)
  obtain ⟨u,G,z,J⟩:=fN.1 L
  have O:∀e∈G.after,Region.binds .any e=true→e.on≠i:=λe he hb Z=>by
   have y:=J e he hb
   have h0:=(fN.1 s).1
   rw [Z] at y
   rcases Nat.lt_or_ge i l.size with W | W
   ·simp [W] at h0 y; rw [h0] at y; cases y
   ·simp [Array.getElem?_eq_none W] at y
  have y:=ED z (p j G z d u O) (λcs b=>x i A cs b hi) (λcs b=>x j G cs b z) hQ U h1
  have q:∀k ok,ops[k]? =some ok→k≠i→(l.setIfInBounds j true).getD k true=false→(∀e∈ok.after,Region.binds .any e=true→e.on≠i)→A.apart ops ok=true:=λk ok hk a1 R a6=>by
   refine p k ok hk a1 ?_ a6
   by_cases M:j=k
   ·subst M; exact u
   ·rw [fJ true M] at R; exact R
  have g:(l.setIfInBounds i true).setIfInBounds j true=(l.setIfInBounds j true).setIfInBounds i true:=Array.setIfInBounds_comm _ _ (Ne.symm d)
  refine wpOp_mono (λa' w' Y=>?_) y
  have h4:S ((l.setIfInBounds j true).setIfInBounds i true) w':=by rw [←g]; exact Y.2.1
  refine ⟨hm _ w' h4,ih (l.setIfInBounds j true) a' w' q (T.set L) (ready_mono s (Ne.symm d)) Y.1 h4 ?_⟩
  rw [←g]
  exact Y.2.2
end
theorem Io {ro:Md} {P:Program} {o:Oper} {a:Act} {w:World} {K:Act→World→Prop} {Q:Exit→Act→World→Prop} (j:∀c,o.op≠.defer c) (h:o.wp P a w K Q) (n:¬LetsOut Q):o.wpIn ro.F 0 P a w K Q:=by
 refine ⟨λ_ _=>trivial,?_⟩
 rw [Oper.semAt_eq _ _ _ j]
 unfold Oper.wp at h
 cases i:(execOp a.eval o).run P w with
 | ok x g=>
  rw [i] at h
  cases x with
  | value v=>exact h
  | skip=>exact h
  | defer d=>exact h
  | enter f args=>exact vT (bk h λe k he=>by cases e with
   | returned v=>exact he
   | panicked c=>exact he
   | outgrown=>exact he)
  | row r args=>exact ⟨λe=>(nomatch (show (none:Option Nat).isSome=true from e)),λc cs _=>by
    obtain ⟨v,g,r,s⟩:=h c cs
    exact ⟨v,g,r,(stepsIn_wide (P:=P)).2 s⟩⟩
  | _=>exact h.elim
 | halt z g=>
  rw [i] at h
  cases z with
  | panic v=>exact h
  | _=>exact h.elim
def Cj (ops:Array Oper):Prop:=∀(i:Nat) (o:Oper),ops[i]? =some o→∀c,o.op≠.defer c
theorem uy {ro:Md} {P:Program} {ops:Array Oper} {Q:Exit→Act→World→Prop} (g:Cj ops) (d:¬LetsOut Q):∀(n:Nat) (l:Array Bool) (a:Act) (w:World),wpAny P .any ops Q n l a w→wpAnyIn ro.F 0 P .any ops Q n l a w
 | 0,_,_,_,h=>h
 | n+1,l,a,w,h=>⟨h.1,λi hi=>by
  have c:=h.2 i hi
  unfold wpOp at c
  unfold wpOpIn
  cases j:ops[i]? with
  | none=>rw [j] at c; exact uy g d n _ a w c
  | some o=>
   rw [j] at c
   simp only at c ⊢
   split
   ·rename_i hw
    rw [aJ hw] at c
    rcases c with c | c
    ·exact Oper.wpIn_mono (λa w h=>uy g d n _ a w h) (Io (g i o j) c d)
    ·exact absurd c.2 d
   ·rename_i hw
    rw [aK hw] at c
    exact ⟨λ_ _=>trivial,uy g d n _ _ w c⟩⟩
def AG (l:List Oper):Bool:=l.all λo=>match o.op with
 | .defer _=>false
 | _=>true
theorem GK {l:List Oper} (h:AG l=true):Cj l.toArray:=λi o a c d=>by
 have hm:o∈l:=by
  rw [dl] at a
  exact dq a
 have:=dU.1 h o hm
 rw [d] at this
 cases this
theorem He [M:Md] {n:Nat} {Q:jc}:¬LetsOut (lift n Q):=λ⟨_,_,h⟩=>h
def PX (P:Program) (n:Nat) (ops:Array Oper) (Q:jc) (S:Array Bool→World→Prop) (fuel:Nat) (listed:Array Bool) (E:Nat→Value) (W:World):Prop :=
 pG ops listed→∀a,Ag n a E→Cl P ops (lift n Q) S fuel listed a W
section
variable {P:Program} {n:Nat} {Q:jc} {E:Nat→Value} {W:World} {ops:Array Oper} {S:Array Bool→World→Prop} {fuel:Nat} {listed:Array Bool}
theorem wO {id:Nat} {l:List Oper} (S:Array Bool→World→Prop) (hm:P.follows .mixedOrders=true) (h:PX P n l.toArray Q S l.length (Array.replicate l.length false) E W.drew) (c:AG l=true):CW P n (.region id l.toArray true) Q E W:=λa ha=>
 wpIn_region_any hm (uy (GK c) He _ _ _ _ (BI _ _ _ _ (h (pG.start _ (by simp)) a ha)))
def sL (ops:Array Oper) (listed:Array Bool) (i:Nat):Bool:=Region.noSelect ops&&Region.free .any ops listed i&&(Region.ready .any ops listed).contains i
theorem lh {o:Oper} {dd:Nat} {v:Value} (i:Nat) (hi:ops[i]? =some o) (hk:sL ops listed i=true) (hw:jd n ops E o) (k:o.dst=some dd) (p:dd < n) (hm:∀l w,S (l.setIfInBounds i true) w→S l w) (j:S (listed.setIfInBounds i true) W) (q:∀l W,wT ops i l→S l W→gP P E o W v W) (h:PX P n ops Q S fuel (listed.setIfInBounds i true) (iL E dd v) W):PX P n ops Q S (fuel+1) listed E W:=λd a ha=>by
 simp only [sL,aT] at hk
 have g:i∈Region.ready .any ops listed:=by simpa using hk.2
 exact yG hi (Region.noSelect_spec hk.1.1) (λ_ _ _ h=>AL h) hm fuel listed a W (Region.free_spec hi hk.1.2) d g (.inl ⟨hw.of ha,λl w hp c=>by rw [ha.eval]; exact q l w hp c⟩) j (by rw [k]; exact h (d.set g) _ (ha.put p v))
theorem Fb {A:Value→Prop} {o:Oper} {dd:Nat} (i:Nat) (hi:ops[i]? =some o) (hk:sL ops listed i=true) (hw:jd n ops E o) (d:o.dst=some dd) (g:dd < n) (hm:∀l w,S (l.setIfInBounds i true) w→S l w) (c:S (listed.setIfInBounds i true) W) (j:∃p,A p∧∀W,gP P E o W p W) (h:∀p,A p→PX P n ops Q S fuel (listed.setIfInBounds i true) (iL E dd p) W):PX P n ops Q S (fuel+1) listed E W:=by
 obtain ⟨p,h1,a⟩:=j
 exact lh i hi hk hw d g hm c (λ_ W _ _=>a W) (h p h1)
theorem BS {o:Oper} {dd:Nat} (i:Nat) (hi:ops[i]? =some o) (hk:sL ops listed i=true) (hw:∀a,Ag n a E→Region.wanted o (yielded ops a.tmps)=false) (j:o.dst=some dd) (k:dd < n) (hm:∀l w,S (l.setIfInBounds i true) w→S l w) (g:S (listed.setIfInBounds i true) W) (h:PX P n ops Q S fuel (listed.setIfInBounds i true) (iL E dd undef) W):PX P n ops Q S (fuel+1) listed E W:=λc a ha=>by
 simp only [sL,aT] at hk
 have d:i∈Region.ready .any ops listed:=by simpa using hk.2
 exact yG hi (Region.noSelect_spec hk.1.1) (λ_ _ _ h=>AL h) hm fuel listed a W (Region.free_spec hi hk.1.2) c d (.inr ⟨hw a ha,rfl⟩) g (by rw [j]; exact h (c.set d) _ (ha.put k _))
theorem Ii {o:Oper} {dd j t:Nat} {want:Bool} (i:Nat) (hi:ops[i]? =some o) (hk:sL ops listed i=true) (k:o.guard=some (j,want)) (p:(ops[j]?).bind (·.dst)=some t) (s:t < n) (c:E t= .bool (!want)) (g:o.dst=some dd) (q:dd < n) (hm:∀l w,S (l.setIfInBounds i true) w→S l w) (d:S (listed.setIfInBounds i true) W) (h:PX P n ops Q S fuel (listed.setIfInBounds i true) (iL E dd undef) W):PX P n ops Q S (fuel+1) listed E W :=
 BS i hi hk (λa ha=>by have u:=ha.yield p s c; simp [Region.wanted,k,u]) g q hm d h
theorem Hn {o:Oper} {dd j t:Nat} {want:Bool} (i:Nat) (hi:ops[i]? =some o) (hk:sL ops listed i=true) (k:o.guard=some (j,want)) (p:(ops[j]?).bind (·.dst)=some t) (s:t < n) (c:E t=undef) (g:o.dst=some dd) (q:dd < n) (hm:∀l w,S (l.setIfInBounds i true) w→S l w) (d:S (listed.setIfInBounds i true) W) (h:PX P n ops Q S fuel (listed.setIfInBounds i true) (iL E dd undef) W):PX P n ops Q S (fuel+1) listed E W :=
 BS i hi hk (λa ha=>by have u:=ha.xm p s c; simp [Region.wanted,k,u]) g q hm d h
theorem AV {o:Oper} {dd:Nat} (i:Nat) (hi:ops[i]? =some o) (g:Region.ready .any ops listed=[i]) (hw:jd n ops E o) (p:o.dst=some dd) (q:dd < n) (h:jt P E o W λv W'=>S (listed.setIfInBounds i true) W'∧PX P n ops Q S fuel (listed.setIfInBounds i true) (iL E dd v) W'):PX P n ops Q S (fuel+1) listed E W:=λk a ha=>by
 have c:i∈Region.ready .any ops listed:=by rw [g]; simp
 refine ⟨λw=>(by rw [w] at g; cases g),λj s=>?_⟩
 rw [g] at s
 obtain rfl:=aM.1 s
 unfold wpOp
 simp only [hi]
 rw [aJ (hw.of ha)]
 refine .inl ?_
 unfold Oper.wp
 rw [ha.eval]
 rcases h with ⟨v,W',h1,d⟩ | ⟨W',h1,d⟩ | ⟨f,args,h1,d⟩
 ·rw [h1,dn]; exact ⟨d.1,by rw [p]; exact d.2 (k.set c) _ (ha.put q v)⟩
 ·rw [h1,eg]; exact ⟨d.1,by rw [p]; exact d.2 (k.set c) _ (ha.put q _)⟩
 ·rw [h1,dp]
  refine bk d ?_
  rintro e x ⟨v,rfl,u⟩
  exact ⟨u.1,by simp only [p]; exact u.2 (k.set c) _ (ha.put q v)⟩
theorem Iv {o:Oper} (i:Nat) (hi:ops[i]? =some o) (g:Region.ready .any ops listed=[i]) (hw:jd n ops E o) (p:o.dst=none) (h:jt P E o W λ_ W'=>S (listed.setIfInBounds i true) W'∧PX P n ops Q S fuel (listed.setIfInBounds i true) E W'):PX P n ops Q S (fuel+1) listed E W:=λk a ha=>by
 have c:i∈Region.ready .any ops listed:=by rw [g]; simp
 refine ⟨λu=>(by rw [u] at g; cases g),λj q=>?_⟩
 rw [g] at q
 obtain rfl:=aM.1 q
 unfold wpOp
 simp only [hi]
 rw [aJ (hw.of ha)]
 refine .inl ?_
 unfold Oper.wp
 rw [ha.eval]
 rcases h with ⟨v,W',h1,d⟩ | ⟨W',h1,d⟩ | ⟨f,args,h1,d⟩
 ·rw [h1,dn,p]; exact ⟨d.1,d.2 (k.set c) _ (ha.np _)⟩
 ·rw [h1,eg,p]; exact ⟨d.1,d.2 (k.set c) _ (ha.np _)⟩
 ·rw [h1,dp]
  refine bk d ?_
  rintro e w ⟨v,rfl,s⟩
  simp only [p]
  exact ⟨s.1,s.2 (k.set c) _ (ha.np _)⟩
theorem iz (c:Region.ready .any ops listed=[]) (h:Q .normal E W):PX P n ops Q S fuel listed E W:=λ_ a ha=>by
 cases fuel with
 | zero=>exact ⟨c,E,ha,h⟩
 | succ f=>exact ⟨λ_=>⟨E,ha,h⟩,λi hi=>by rw [c] at hi; cases hi⟩
theorem vi {p:Prop} {b:Bool} (a:b=true) (h:b=false):p:=by rw [a] at h; cases h
theorem jj {a:Array Bool} (c:listed=a) (h:PX P n ops Q S fuel a E W):PX P n ops Q S fuel listed E W:=by rw [c]; exact h
theorem xL {o w:Oper} {d x:Nat} (i j:Nat) (hi:ops[i]? =some o) (R:ops[j]? =some w) (u:Region.ready .any ops listed=[i,j]) (hw:jd n ops E o) (G:jd n ops E w) (p:o.dst=some d) (z:w.dst=some x) (s:d < n) (A:x < n) (h:jt P E o W λv W'=>S (listed.setIfInBounds i true) W'∧PX P n ops Q S fuel (listed.setIfInBounds i true) (iL E d v) W') (M:jt P E w W λv W'=>S (listed.setIfInBounds j true) W'∧PX P n ops Q S fuel (listed.setIfInBounds j true) (iL E x v) W'):PX P n ops Q S (fuel+1) listed E W:=λy a ha=>by
 have key:∀(k:Nat) (q:Oper) (e:Nat),ops[k]? =some q→k∈Region.ready .any ops listed→jd n ops E q→q.dst=some e→e < n→(jt P E q W λv W'=>S (listed.setIfInBounds k true) W'∧PX P n ops Q S fuel (listed.setIfInBounds k true) (iL E e v) W')→
   wpOp P ops (lift n Q) k (λL I=>S (listed.setIfInBounds k true) I∧Cl P ops (lift n Q) S fuel (listed.setIfInBounds k true) L I) a W:=by
  intro k q e hk c hw p s h
  unfold wpOp
  simp only [hk]
  rw [aJ (hw.of ha)]
  refine .inl ?_
  unfold Oper.wp
  rw [ha.eval]
  rcases h with ⟨v,W',h1,g⟩ | ⟨W',h1,g⟩ | ⟨f,args,h1,g⟩
  ·rw [h1,dn]; exact ⟨g.1,by rw [p]; exact g.2 (y.set c) _ (ha.put s v)⟩
  ·rw [h1,eg]; exact ⟨g.1,by rw [p]; exact g.2 (y.set c) _ (ha.put s _)⟩
  ·rw [h1,dp]
   refine bk g ?_
   rintro e I ⟨v,rfl,J⟩
   exact ⟨J.1,by simp only [p]; exact J.2 (y.set c) _ (ha.put s v)⟩
 refine ⟨λO=>(by rw [O] at u; cases u),λk hk=>?_⟩
 rw [u] at hk
 rcases aS.1 hk with rfl | hk
 ·exact key _ o d hi (by rw [u]; simp) hw p s h
 ·obtain rfl:=aM.1 hk
  exact key _ w x R (by rw [u]; simp) G z A M
theorem mu {l:Array Bool} {i j:Nat} {A:Prop} (a:Nat.beq i j=false) (h:(l.setIfInBounds i true).getD j true=false→A):l.getD j true=false→A:=λc=>h (by
 rw [fJ true (λe=>by subst e; simp at a)]; exact c)
end
theorem uS.at {α:Type} {e:TypeId} {enc:α→List Value} {k:Nat} {v:Value} {l:List α} {R:List (Nat×Obj)} (h:gB e enc k v l R) (hk:∀x,(enc x).length=k) {p:Value} {i:Nat} (hp:uS R k p i) {x:α} (g:l[i]? =some x):At (GZ R) p (enc x):=by
 obtain ⟨c,a,cap,rfl,rfl,_,_,_,_,rfl,d⟩:=sb h hk hp g
 exact ⟨c,i*k,a,e,(0,0),rfl,by simp [GZ],d⟩
noncomputable def H9 {β:Type} (l:List (ByteArray×β)):Option (List ByteArray) :=
 if (l.map (·.1)).Nodup∧(∀p∈l,p.1.size≤maxLen)∧l.length*16≤140737488355328 then some (Gl (l.map (·.1))) else none
end Go.Proofs.YtjjjihkifgdhgaaGreatDoor
namespace Go.Proofs.YtjjjihkifgdhgaaGreatDoor
open Go.RowKit
variable [M:Md]
section
variable {P:Program} {n:Nat} {Q:jc} {E:Nat→Value} {W:World} {ops:Array Oper} {rest:List Oper}
variable {dd:Bool} {α:Type} {enc:α→List Value} {k:Nat} {μ:gm} {v:Value}
variable {d:Option Nat} {ty:TypeId} {pos:String} {af:Array Edge} {g:Option (Nat×Bool)} {F:Nat→Prop} {w:World} {L:List (Nat×Obj)}
def A0 (enc:α→List Value) (k:Nat):lc (List α):=λμ ys x=>∃v,ys=[v]∧Sl (Pl enc) k μ v x
theorem A0.mono (enc:α→List Value) (k:Nat):zH (A0 enc k):=λ_ _ _ _ c ⟨v,h1,a⟩=>⟨v,h1,a.mono (Pl.mono _) c⟩
inductive sK (enc:α→List Value) (k:Nat) (μ:gm):List Value→List (List α)→Prop
 | nil:sK enc k μ [] []
 | cons {v:Value} {x:List α} {vs:List Value} {l:List (List α)}:Sl (Pl enc) k μ v x→sK enc k μ vs l→sK enc k μ (v::vs) (x::l)
theorem sK.length {vs:List Value} {l:List (List α)} (h:sK enc k μ vs l):vs.length=l.length:=by
 induction h with
 | nil=>rfl
 | cons _ _ ih=>simp [ih]
theorem sK.get {vs:List Value} {l:List (List α)} (h:sK enc k μ vs l):∀(i:Nat) (x:List α),l[i]? =some x→∃v,vs[i]? =some v∧Sl (Pl enc) k μ v x:=by
 induction h with
 | nil=>intro i x a; simp at a
 | cons h1 _ ih=>
  intro i x a
  cases i with
  | zero=>simp at a; subst a; exact ⟨_,rfl,h1⟩
  | succ i=>simpa using ih i x (by simpa using a)
theorem A0.lit {b m:Nat} {vs:List Value} {e:TypeId} {l:List (List α)} (hm:l.length=m) (d:m≤maxLen) (g:μ b=some (.cells vs.toArray e (0,0))) (h:sK enc k μ vs l):Sl (A0 enc k) 1 μ (.slice (some ⟨b,0,none⟩) m m) l:=by
 subst hm
 refine ⟨_,_,rfl,bl _,d,λ_=>⟨b,0,_,_,_,rfl,g,λi x n=>?_⟩⟩
 obtain ⟨v,h1,c⟩:=h.get i x n
 refine ⟨[v],rfl,⟨v,rfl,c⟩,λj y a=>?_⟩
 cases j with
 | zero=>simp at a; subst a; simpa using h1
 | succ j=>simp at a
theorem EU {k2:Nat} {t e:TypeId} {x a:Operand} {u:IntKind} {i:Int} {l:List (List α)} {x0:List α} (q:P.underlying t=some (.slice e)) (he:∀w,(sizeOf e).run P w= .ok 1 w) (s:fT E x=v) (hi:fT E a= .int u i) (o:Sl (A0 enc k2) 1 μ v l) (c:0≤i) (n:l[i.toNat]? =some x0) :
  ∃p,(∃v0,At μ p [v0]∧Sl (Pl enc) k2 μ v0 x0)∧∀W,gP P E ⟨d,.indexAddr t x a,ty,pos,af,g⟩ W p W:=by
 obtain ⟨p,ys,h1,⟨v0,rfl,h⟩,j,k⟩:=yf (d:=d) (ty:=ty) (pos:=pos) (af:=af) (g:=g) q he s hi o c n
 exact ⟨p,⟨v0,j,h⟩,k⟩
theorem Hu {x y:Operand} {ats:Array TypeId} {k:IntKind} {a b:Int} (c:fT E x= .int k a) (h:fT E y= .int k b) :
  gP P E ⟨d,.call ⟨.builtin .max,#[x,y],ats⟩,ty,pos,af,g⟩ W (.int k (if b > a then b else a)) W:=by
 show (do let d ←resolve (fT E) ⟨.builtin .max,#[x,y],ats⟩ ty; invoke d.target d.args:Sem Next).run P W=_
 simp [resolve,invoke,c,h,builtin,Builtin.max_,Builtin.max2]
end
end Go.Proofs.YtjjjihkifgdhgaaGreatDoor
namespace Go.Proofs.YtjjjihkifgdhgaaGreatDoor
open Go.RowKit
theorem G9 {p:Prop} [Decidable p] {u:Unit} (h:kh (decide p)=some u):p:=bW (wR h)
variable {dd:Bool}
section
variable {P:Program} {fn:Func} {R:Ending→World→Prop} {E:Nat→Value} {W:World}
theorem nD {a:Tmp} {t0:TypeId} {a0:Addr} {v0:Value} {c:Tmp} {v1:Value} (g:fn.results=#[.cell a t0,.tmp c]) (d:E a= .pointer (some a0)) (j:(Instr.loadAt t0 (.pointer (some a0))).run P W= .ok v0 W) (h1:E c=v1) (h:R (.returned (.tuple #[v0,v1])) W):nI P fn R .ret E W :=
 ⟨.tuple #[v0,v1],λtmps i=>by
  have k:(loadVar t0 a0).run P W= .ok v0 W:=by simpa [Instr.loadAt,Instr.sureAddr] using j
  simp [results,g,i,asAddr,d,k,h1],h⟩
theorem uK {c:Tmp} {v0:Value} {d:Tmp} {t1:TypeId} {a:Addr} {v1:Value} {g:Tmp} {v2:Value} (k:fn.results=#[.tmp c,.cell d t1,.tmp g]) (i:E c=v0) (h1:E d= .pointer (some a)) (o:(Instr.loadAt t1 (.pointer (some a))).run P W= .ok v1 W) (j:E g=v2) (h:R (.returned (.tuple #[v0,v1,v2])) W):nI P fn R .ret E W :=
 ⟨.tuple #[v0,v1,v2],λtmps n=>by
  have p:(loadVar t1 a).run P W= .ok v1 W:=by simpa [Instr.loadAt,Instr.sureAddr] using o
  simp [results,k,n,asAddr,i,h1,p,j],h⟩
end
end Go.Proofs.YtjjjihkifgdhgaaGreatDoor
namespace Go.Proofs.YtjjjihkifgdhgaaGreatDoor
open Go.RowKit
variable [M:Md]
section
variable {x y:Nat×Obj} {A B C L R S:List (Nat×Obj)}
theorem Pz:(x::A).Perm (x::A):=.refl _
theorem Pb (h:A.Perm (x::B)):(y::A).Perm (x::y::B):=(h.cons y).trans (.swap ..)
theorem Pr (h:A.Perm (x::B)):(S++A).Perm (x::(S++B)):=(h.append_left S).trans eB
theorem Qz:(R++A).Perm (R++A):=.refl _
theorem Qb (h:A.Perm (R++B)):(y::A).Perm (R++(y::B)):=(h.cons y).trans List.perm_middle.symm
theorem Qr (h:A.Perm (R++B)):(S++A).Perm (R++(S++B)):=(h.append_left S).trans (eT S R B)
def gX (L L':List (Nat×Obj)):Prop:=∃M,L.Perm (L'++M)
theorem Sn:gX L []:=⟨L,.refl _⟩
theorem St:gX L L:=⟨[],by rw [bQ]⟩
theorem Sb (h:L.Perm (x::A)) (k:gX A B):gX L (x::B):=let ⟨M,m⟩:=k; ⟨M,h.trans (m.cons x)⟩
theorem Sr (h:L.Perm (R++A)) (k:gX A B):gX L (R++B):=let ⟨M,m⟩:=k; ⟨M,by rw [aH]; exact h.trans (m.append_left R)⟩
theorem Kb (k:gX A B):gX (x::A) (x::B):=Sb Pz k
theorem Kr (k:gX A B):gX (R++A) (R++B):=Sr Qz k
theorem Db (k:gX A B):gX (x::A) B:=let ⟨M,m⟩:=k; ⟨x::M,(m.cons x).trans List.perm_middle.symm⟩
theorem Dr (k:gX A B):gX (R++A) B:=let ⟨M,m⟩:=k; ⟨R++M,(m.append_left R).trans (eT R B M)⟩
theorem gX.mem (s:gX L A):∀p,p∈A→p∈L:=λp hp=>let ⟨M,m⟩:=s; m.mem_iff.2 (bw _ hp)
theorem ST.fR {dd:Bool} {F:Nat→Prop} {w W:World} {μ:gm} (h:ST dd F w W μ L) (s:gX L A):ST dd F w W μ A:=let ⟨M,m⟩:=s; (h.perm m).sublist (List.sublist_append_left A M)
theorem kG.fR {μ:gm} {W:World} (h:kG μ L W) (s:gX L A):kG μ A W:=h.sub (gf.refl _) s.mem
theorem kG.jn {μ μ':gm} {W:World} (h:kG μ L W) (a:gf μ' μ) (s:gX L A):kG μ' A W:=h.sub a s.mem
theorem Cn:L.Perm ([]++L):=.refl _
theorem Cb (h:L.Perm (x::A)) (k:A.Perm (B++C)):L.Perm ((x::B)++C):=h.trans (k.cons x)
theorem Cr (h:L.Perm (R++A)) (k:A.Perm (B++C)):L.Perm ((R++B)++C):=by rw [aH]; exact h.trans (k.append_left R)
theorem C0 (k:L.Perm (B++C)):L.Perm (([]++B)++C):=k
theorem Cs (h:L.Perm (x::A)) (k:A.Perm (B++C)):L.Perm (([x]++B)++C):=Cb h k
theorem Tn:([]++A).Perm A:=.refl _
theorem Tb (h:(A++B).Perm C):((x::A)++B).Perm (x::C):=h.cons x
theorem Tr (h:(A++B).Perm C):((R++A)++B).Perm (R++C):=by rw [aH]; exact h.append_left R
theorem Nb (h:L.Perm (x::A)) (k:A.Perm B):L.Perm (x::B):=h.trans (k.cons x)
theorem Nr (h:L.Perm (R++A)) (k:A.Perm B):L.Perm (R++B):=h.trans (k.append_left R)
theorem Nz:L.Perm L:=.refl _
theorem Mh:x∈x::A:=.head _
theorem Mt (h:x∈A):x∈y::A:=.tail _ h
theorem Ma (h:x∈A):x∈R++A:=cK _ h
theorem Ml (h:x∈R):x∈R++A:=bw _ h
end
section
variable {dd:Bool} {F:Nat→Prop} {w W:World} {μ:gm} {L L0 L1 Y R:List (Nat×Obj)}
theorem ST.hU (h:ST dd (gL L0) w W μ L) (s:gX L L1):ma dd L0 L1 w W:=let ⟨_,m⟩:=s; (h.perm m).H3
theorem ST.DT:∀{R:List (Nat×Obj)} {μ:gm},ST dd F w W μ (R++Y)→∃μ',ST dd F w W μ' Y∧gf μ μ'∧Lo F w μ μ'∧∀b o,(b,o)∈R→μ' b=some o
 | [],μ,h=>⟨μ,h,gf.refl _,Lo.refl,λ_ _ h=>by cases h⟩
 | (g,o)::R,μ,h=>by
  have c:ST dd F w W μ ([]++(g,o)::(R++Y)):=h
  obtain ⟨μ',d,a2,a3,a4⟩:=ST.DT (R:=R) (ST.ye (A:=[]) c)
  refine ⟨μ',d,(ST.yd (A:=[]) c).trans a2,(ST.Eh (A:=[]) c).trans a3,λb i a=>?_⟩
  rcases aS.1 a with a | a
  ·cases a; exact a2 _ _ (aJ rfl)
  ·exact a4 b i a
theorem ST.uG {α:Type} {e':TypeId} {enc:α→List Value} {k:Nat} {v:Value} {l:List α} (a:ST dd F w W μ (R++Y)) (h:gB e' enc k v l R) (hk:∀x,(enc x).length=k):∃μ',ST dd F w W μ' Y∧gf μ μ'∧Lo F w μ μ'∧Sl (Pl enc) k μ' v l:=by
 obtain ⟨μ',c,a2,a3,a4⟩:=ST.DT a
 exact ⟨μ',c,a2,a3,h.sl hk a4⟩
section
variable {P:Program} {n:Nat} {Q:jc} {E:Nat→Value} {V:World} {id:Nat} {l:List Oper} {A B C:List (Nat×Obj)}
theorem ic (c:kG μ A V.drew) (hm:P.follows .mixedOrders=true) (h:PX P n l.toArray Q (λ_ W=>kG μ A W) l.length (Array.replicate l.length false) E V.drew) (a:AG l=true:=by kernel_rfl):CW P n (.region id l.toArray true) Q E V:=wO _ hm h a
theorem vN (i:Nat) (c:kG μ A V.drew) (h1:kG μ B V.drew) (hm:P.follows .mixedOrders=true) (h:PX P n l.toArray Q (λl W=>kG μ A W∧(l.getD i true=false→kG μ B W)) l.length (Array.replicate l.length false) E V.drew) (a:AG l=true:=by kernel_rfl):CW P n (.region id l.toArray true) Q E V:=wO _ hm h a
theorem Ew {D:List (Nat×Obj)} (i j k:Nat) (c:kG μ A V.drew) (h1:kG μ B V.drew) (d:kG μ C V.drew) (g:kG μ D V.drew) (hm:P.follows .mixedOrders=true) (h:PX P n l.toArray Q (λl W=>kG μ A W∧(l.getD i true=false→kG μ B W)∧(l.getD j true=false→kG μ C W)∧(l.getD k true=false→kG μ D W)) l.length (Array.replicate l.length false) E V.drew) (a:AG l=true:=by kernel_rfl):CW P n (.region id l.toArray true) Q E V:=wO _ hm h a
end
structure kz (μ:gm) (L0:List (Nat×Obj)) (w:World):Prop where
 H:um L0 w
 N:(L0.map (·.1)).Nodup
 S:gf μ (lf w L0)
theorem ST.me (h:kz μ L0 w):ST dd (gL L0) w w μ L0:=(ST.Hh h.H h.N).gV h.S
end
section
variable {dd:Bool} {P:Program} {E:Nat→Value} {W:World} {d:Option Nat} {ty:TypeId} {pos:String} {af:Array Edge} {g:Option (Nat×Bool)} {F:Nat→Prop} {w:World} {μ:gm} {L:List (Nat×Obj)}
theorem ga {K:Value→World→Prop} {B:List (Nat×Obj)} {t:TypeId} {x y:Operand} (v:Value) {b off:Nat} {cs:Array Value} {T:TypeId} (cs':Array Value) (a:ST dd F w W μ ((b,.cells cs T (0,0))::B)) (k:fT E x= .pointer (some ⟨b,off,none⟩)) (n:fT E y=v) (c:∀w,(sizeOf t).run P w= .ok v.cells.size w) (h1:∀u∈v.cells.toList,u.oneCell'=true) (j:off+v.cells.size≤cs.size) (i:(cs.toList.take off++v.cells.toList++cs.toList.drop (off+v.cells.size)).toArray=cs') (h:∀W',ST dd F w W' μ ((b,.cells cs' T (0,0))::B)→K undef W'):jt P E ⟨d,.store t x y,ty,pos,af,g⟩ W K:=rY [] v cs' a k n c h1 j i h
end
section
variable {dd:Bool}
variable {P:Program} {n:Nat} {Q:jc} {E:Nat→Value} {W:World} {ops:Array Oper} {rest:List Oper}
 {d:Option Nat} {ty:TypeId} {pos:String} {af:Array Edge} {g:Option (Nat×Bool)}
 {F:Nat→Prop} {w:World} {μ:gm} {L:List (Nat×Obj)}
theorem lg {K:Value→World→Prop} {α:Type} {e t:TypeId} {enc:α→List Value} {k a:Nat} {z v vs:Value} {l m r:List α} {R Y:List (Nat×Obj)} {x y:Operand} {i:TypeInfo} (c:ST dd F w W μ (R++Y)) (hk:∀x,(enc x).length=k) (n:0 < k) (h1:∀x,∀u∈enc x,u.oneCell'=true) (I:P.underlying t=some (.slice e)) (hi:P.info? e=some i) (M:i.zero=some z) (p:z.cells.size=k) (o:i.size=k) (j:i.bytes=a) (J:fT E x=v) (L:fT E y=vs) (s:gB e enc k v l R) (G:Sl (Pl enc) k (hp W) vs m) (A:ja a l m=some r) (h:∀W' q R',ST dd F w W' μ (R'++Y)→gB e enc k q r R'→K q W'):jt P E ⟨d,.call ⟨.builtin .append,#[x,y],#[t,t]⟩,ty,pos,af,g⟩ W K :=
 Fv [] c hk n h1 I hi M p o j J L s G A h
end
section
variable {dd:Bool}
variable {P:Program} {E:Nat→Value} {W:World} {d:Option Nat} {ty:TypeId} {pos:String} {af:Array Edge} {g:Option (Nat×Bool)}
 {F:Nat→Prop} {w:World} {μ:gm} {L:List (Nat×Obj)}
theorem ui {K:Value→World→Prop} {α:Type} {e:TypeId} {enc:α→List Value} {k:Nat} {l:List α} {f:FuncId} {fv:Operand} {ax:Array Operand} {ats:Array TypeId} {caps:Array Value} {args:List Value} (Y:List (Nat×Obj)) (a:ST dd F w W μ Y) (i:fT E fv= .func (.func f) #[] caps) (he:∀args w,(callFunc f args).run P w= .ok (.enter f args) w) (ha:ax.map (fT E)++caps=args.toArray) (c:iF dd P f args W e enc k l) (h:∀W' v μ' R,ST dd F w W' μ' (R++Y)→gf μ μ'→Lo F w μ μ'→gB e enc k v l R→K v W'):jt P E ⟨d,.call ⟨.value fv,ax,ats⟩,ty,pos,af,g⟩ W K :=
 Da [] Y a i he ha c h
end
section
variable {dd:Bool}
variable {P:Program} {E:Nat→Value} {W:World} {d:Option Nat} {ty:TypeId} {pos:String} {af:Array Edge} {g:Option (Nat×Bool)}
 {F:Nat→Prop} {w:World} {μ:gm} {L:List (Nat×Obj)} {α:Type} {e':TypeId} {enc:α→List Value} {k:Nat} {v:Value} {l:List α} {R:List (Nat×Obj)}
theorem uf {K:Value→World→Prop} {Y:List (Nat×Obj)} {t:TypeId} {x y:Operand} {p u:Value} {i:Nat} {x0 x1:α} (a:ST dd F w W μ (R++Y)) (h:gB e' enc k v l R) (hk:∀x,(enc x).length=k) (h1:∀x,∀u∈enc x,u.oneCell'=true) (o:fT E x=p) (q:fT E y=u) (hu:u.cells=(enc x1).toArray) (hp:uS R k p i) (n:l[i]? =some x0) (j:∀w,(sizeOf t).run P w= .ok k w) (c:∀W' R',ST dd F w W' μ (R'++Y)→gB e' enc k v (l.set i x1) R'→K undef W'):jt P E ⟨d,.store t x y,ty,pos,af,g⟩ W K :=
 Dm [] a h hk h1 o q hu hp n j c
end
section
variable {dd:Bool}
variable {P:Program} {E:Nat→Value} {W:World} {d:Option Nat} {ty:TypeId} {pos:String} {af:Array Edge} {g:Option (Nat×Bool)}
 {F:Nat→Prop} {w:World} {μ:gm} {L:List (Nat×Obj)} {α:Type} {e':TypeId} {enc:α→List Value} {k:Nat} {v:Value} {l:List α} {R:List (Nat×Obj)}
theorem wG {K:Value→World→Prop} (z:α) {Y:List (Nat×Obj)} {t e:TypeId} {x:Operand} {u c:Value} {i:Nat} (a:ST dd F w W μ (R++Y)) (h:gB e' enc k v l R) (hk:∀x,(enc x).length=k) (h1:∀x,∀u∈enc x,u.oneCell'=true) (o:P.underlying t=some (.slice e)) (q:∀w,(zeroValue e).run P w= .ok c w) (hu:xH k v i u) (n:c.cells=(enc z).toArray) (p:fT E x=u) (j:∀W' R',ST dd F w W' μ (R'++Y)→gB e' enc k v (jE l i z) R'→K (.tuple #[]) W'):jt P E ⟨d,.call ⟨.builtin .clear,#[x],#[t]⟩,ty,pos,af,g⟩ W K :=
 By z [] a h hk h1 o q hu n p j
end
end Go.Proofs.YtjjjihkifgdhgaaGreatDoor
namespace Go.Proofs.YtjjjihkifgdhgaaGreatDoor
open Go.RowKit
variable [M:Md]
section
variable {P:Program} {n:Nat} {Q:jc} {E:Nat→Value} {W:World} {ops:Array Oper} {rest:List Oper}
variable {d j t:Nat} {want:Bool} {v:Value} {ins:Go.Op} {ty:TypeId} {pos:String} {af:Array Edge} {A:Value→Prop}
theorem V (c:gP P E ⟨some d,ins,ty,pos,af,none⟩ W v W) (h:LW P n ops Q rest (iL E d v) W) (a:d < n:=by decide):LW P n ops Q (⟨some d,ins,ty,pos,af,none⟩::rest) E W:=yD (.inl rfl) rfl a c h
theorem VE (h:jt P E ⟨some d,ins,ty,pos,af,none⟩ W λv W'=>LW P n ops Q rest (iL E d v) W') (a:d < n:=by decide):LW P n ops Q (⟨some d,ins,ty,pos,af,none⟩::rest) E W:=Hp (.inl rfl) rfl a h
theorem VO (h:jt P E ⟨none,ins,ty,pos,af,none⟩ W λ_ W'=>LW P n ops Q rest E W'):LW P n ops Q (⟨none,ins,ty,pos,af,none⟩::rest) E W:=H5 (.inl rfl) rfl h
theorem VQ (c:∃p,A p∧∀W,gP P E ⟨some d,ins,ty,pos,af,none⟩ W p W) (h:∀p,A p→LW P n ops Q rest (iL E d p) W) (a:d < n:=by decide):LW P n ops Q (⟨some d,ins,ty,pos,af,none⟩::rest) E W:=HW (.inl rfl) rfl a c h
theorem Vg (c:(ops[j]?).bind (·.dst)=some t) (a:E t= .bool want) (i:gP P E ⟨some d,ins,ty,pos,af,some (j,want)⟩ W v W) (h:LW P n ops Q rest (iL E d v) W) (k:t < n:=by decide) (g:d < n:=by decide):LW P n ops Q (⟨some d,ins,ty,pos,af,some (j,want)⟩::rest) E W:=yD (.inr ⟨j,want,t,rfl,c,k,a⟩) rfl g i h
theorem Es (c:(ops[j]?).bind (·.dst)=some t) (a:E t= .bool want) (h:jt P E ⟨some d,ins,ty,pos,af,some (j,want)⟩ W λv W'=>LW P n ops Q rest (iL E d v) W') (i:t < n:=by decide) (g:d < n:=by decide):LW P n ops Q (⟨some d,ins,ty,pos,af,some (j,want)⟩::rest) E W:=Hp (.inr ⟨j,want,t,rfl,c,i,a⟩) rfl g h
theorem Je (c:(ops[j]?).bind (·.dst)=some t) (a:E t= .bool want) (i:∃p,A p∧∀W,gP P E ⟨some d,ins,ty,pos,af,some (j,want)⟩ W p W) (h:∀p,A p→LW P n ops Q rest (iL E d p) W) (k:t < n:=by decide) (g:d < n:=by decide):LW P n ops Q (⟨some d,ins,ty,pos,af,some (j,want)⟩::rest) E W:=HW (.inr ⟨j,want,t,rfl,c,k,a⟩) rfl g i h
theorem Vn (c:(ops[j]?).bind (·.dst)=some t) (a:E t= .bool (!want)) (h:LW P n ops Q rest (iL E d undef) W) (i:t < n:=by decide) (g:d < n:=by decide):LW P n ops Q (⟨some d,ins,ty,pos,af,some (j,want)⟩::rest) E W:=Ih rfl g rfl c i a h
theorem Vu (c:(ops[j]?).bind (·.dst)=some t) (a:E t=undef) (h:LW P n ops Q rest (iL E d undef) W) (i:t < n:=by decide) (g:d < n:=by decide):LW P n ops Q (⟨some d,ins,ty,pos,af,some (j,want)⟩::rest) E W:=G3 rfl g rfl c i a h
end
section
variable {P:Program} {n:Nat} {Q:jc} {E:Nat→Value} {W:World} {ops:Array Oper} {S:Array Bool→World→Prop} {fuel:Nat} {listed:Array Bool} {μ:gm} {B:List (Nat×Obj)}
variable {d j t:Nat} {want:Bool} {v:Value} {ins:Go.Op} {ty:TypeId} {pos:String} {af:Array Edge} {A:Value→Prop}
theorem X (i:Nat) (hi:ops[i]? =some ⟨some d,ins,ty,pos,af,none⟩) (a:S (listed.setIfInBounds i true) W) (g:∀{W},gP P E ⟨some d,ins,ty,pos,af,none⟩ W v W) (h:PX P n ops Q S fuel (listed.setIfInBounds i true) (iL E d v) W) (hk:sL ops listed i=true:=by kernel_rfl) (hm:∀l w,S (l.setIfInBounds i true) w→S l w:=by exact λ_ _ h=>h) (c:d < n:=by decide):PX P n ops Q S (fuel+1) listed E W:=lh i hi hk (.inl rfl) rfl c hm a (λ_ _ _ _=>g) h
theorem XH (i:Nat) (hi:ops[i]? =some ⟨some d,ins,ty,pos,af,none⟩) (a:kG μ B W) (g:∀W,kG μ B W→gP P E ⟨some d,ins,ty,pos,af,none⟩ W v W) (h:PX P n ops Q (λ_ W=>kG μ B W) fuel (listed.setIfInBounds i true) (iL E d v) W) (hk:sL ops listed i=true:=by kernel_rfl) (c:d < n:=by decide):PX P n ops Q (λ_ W=>kG μ B W) (fuel+1) listed E W:=lh i hi hk (.inl rfl) rfl c (λ_ _ h=>h) a (λ_ W _ h=>g W h) h
theorem XQ (i:Nat) (hi:ops[i]? =some ⟨some d,ins,ty,pos,af,none⟩) (a:S (listed.setIfInBounds i true) W) (g:∃p,A p∧∀W,gP P E ⟨some d,ins,ty,pos,af,none⟩ W p W) (h:∀p,A p→PX P n ops Q S fuel (listed.setIfInBounds i true) (iL E d p) W) (hk:sL ops listed i=true:=by kernel_rfl) (hm:∀l w,S (l.setIfInBounds i true) w→S l w:=by exact λ_ _ h=>h) (c:d < n:=by decide):PX P n ops Q S (fuel+1) listed E W:=Fb i hi hk (.inl rfl) rfl c hm a g h
theorem XE (i:Nat) (hi:ops[i]? =some ⟨some d,ins,ty,pos,af,none⟩) (h:jt P E ⟨some d,ins,ty,pos,af,none⟩ W λv W'=>S (listed.setIfInBounds i true) W'∧PX P n ops Q S fuel (listed.setIfInBounds i true) (iL E d v) W') (c:Region.ready .any ops listed=[i]:=by kernel_rfl) (a:d < n:=by decide):PX P n ops Q S (fuel+1) listed E W:=AV i hi c (.inl rfl) rfl a h
theorem XO (i:Nat) (hi:ops[i]? =some ⟨none,ins,ty,pos,af,none⟩) (h:jt P E ⟨none,ins,ty,pos,af,none⟩ W λ_ W'=>S (listed.setIfInBounds i true) W'∧PX P n ops Q S fuel (listed.setIfInBounds i true) E W') (a:Region.ready .any ops listed=[i]:=by kernel_rfl):PX P n ops Q S (fuel+1) listed E W:=Iv i hi a (.inl rfl) rfl h
theorem Xg (i:Nat) (hi:ops[i]? =some ⟨some d,ins,ty,pos,af,some (j,want)⟩) (g:(ops[j]?).bind (·.dst)=some t) (a:E t= .bool want) (c:S (listed.setIfInBounds i true) W) (p:∀{W},gP P E ⟨some d,ins,ty,pos,af,some (j,want)⟩ W v W) (h:PX P n ops Q S fuel (listed.setIfInBounds i true) (iL E d v) W) (hk:sL ops listed i=true:=by kernel_rfl) (hm:∀l w,S (l.setIfInBounds i true) w→S l w:=by exact λ_ _ h=>h) (o:t < n:=by decide) (k:d < n:=by decide):PX P n ops Q S (fuel+1) listed E W:=lh i hi hk (.inr ⟨j,want,t,rfl,g,o,a⟩) rfl k hm c (λ_ _ _ _=>p) h
theorem uW (i:Nat) (hi:ops[i]? =some ⟨some d,ins,ty,pos,af,some (j,want)⟩) (g:(ops[j]?).bind (·.dst)=some t) (a:E t= .bool want) (c:kG μ B W) (p:∀W,kG μ B W→gP P E ⟨some d,ins,ty,pos,af,some (j,want)⟩ W v W) (h:PX P n ops Q (λ_ W=>kG μ B W) fuel (listed.setIfInBounds i true) (iL E d v) W) (hk:sL ops listed i=true:=by kernel_rfl) (o:t < n:=by decide) (k:d < n:=by decide):PX P n ops Q (λ_ W=>kG μ B W) (fuel+1) listed E W:=lh i hi hk (.inr ⟨j,want,t,rfl,g,o,a⟩) rfl k (λ_ _ h=>h) c (λ_ W _ h=>p W h) h
theorem yO (i:Nat) (hi:ops[i]? =some ⟨some d,ins,ty,pos,af,some (j,want)⟩) (c:(ops[j]?).bind (·.dst)=some t) (a:E t= .bool want) (h:jt P E ⟨some d,ins,ty,pos,af,some (j,want)⟩ W λv W'=>S (listed.setIfInBounds i true) W'∧PX P n ops Q S fuel (listed.setIfInBounds i true) (iL E d v) W') (k:Region.ready .any ops listed=[i]:=by kernel_rfl) (o:t < n:=by decide) (g:d < n:=by decide):PX P n ops Q S (fuel+1) listed E W:=AV i hi k (.inr ⟨j,want,t,rfl,c,o,a⟩) rfl g h
theorem Xn (i:Nat) (hi:ops[i]? =some ⟨some d,ins,ty,pos,af,some (j,want)⟩) (g:(ops[j]?).bind (·.dst)=some t) (a:E t= .bool (!want)) (c:S (listed.setIfInBounds i true) W) (h:PX P n ops Q S fuel (listed.setIfInBounds i true) (iL E d undef) W) (hk:sL ops listed i=true:=by kernel_rfl) (hm:∀l w,S (l.setIfInBounds i true) w→S l w:=by exact λ_ _ h=>h) (o:t < n:=by decide) (k:d < n:=by decide):PX P n ops Q S (fuel+1) listed E W:=Ii i hi hk rfl g o a rfl k hm c h
theorem Xu (i:Nat) (hi:ops[i]? =some ⟨some d,ins,ty,pos,af,some (j,want)⟩) (g:(ops[j]?).bind (·.dst)=some t) (a:E t=undef) (c:S (listed.setIfInBounds i true) W) (h:PX P n ops Q S fuel (listed.setIfInBounds i true) (iL E d undef) W) (hk:sL ops listed i=true:=by kernel_rfl) (hm:∀l w,S (l.setIfInBounds i true) w→S l w:=by exact λ_ _ h=>h) (o:t < n:=by decide) (k:d < n:=by decide):PX P n ops Q S (fuel+1) listed E W:=Hn i hi hk rfl g o a rfl k hm c h
end
end Go.Proofs.YtjjjihkifgdhgaaGreatDoor
namespace Go.Proofs.YtjjjihkifgdhgaaGreatDoor
open Go.RowKit
section
variable {α β γ:Type}
inductive kD (Q:α→β→Prop):List α→List β→Prop
 | nil:kD Q [] []
 | cons {a:α} {b:β} {l:List α} {m:List β}:Q a b→kD Q l m→kD Q (a::l) (b::m)
namespace kD
variable {Q Q':α→β→Prop}
theorem length {l:List α} {m:List β} (h:kD Q l m):l.length=m.length:=by
 induction h with
 | nil=>rfl
 | cons _ _ ih=>simp [ih]
theorem imp {l:List α} {m:List β} (h:kD Q l m) (c:∀a b,Q a b→Q' a b):kD Q' l m:=by
 induction h with
 | nil=>exact .nil
 | cons h1 _ ih=>exact .cons (c _ _ h1) ih
theorem get {l:List α} {m:List β} (h:kD Q l m):∀{i:Nat} {b:β},m[i]? =some b→∃a,l[i]? =some a∧Q a b:=by
 induction h with
 | nil=>intro i b c; simp at c
 | cons h1 _ ih=>
  intro i b c
  cases i with
  | zero=>simp at c; subst c; exact ⟨_,rfl,h1⟩
  | succ i=>simpa using ih (by simpa using c)
theorem append {l a:List α} {m c:List β} (h:kD Q l m) (d:kD Q a c):kD Q (l++a) (m++c):=by
 induction h with
 | nil=>exact d
 | cons h1 _ ih=>exact .cons h1 ih
theorem set {l:List α} {m:List β} (h:kD Q l m) {a:α} {b:β} (d:Q a b):∀i:Nat,kD Q (l.set i a) (m.set i b):=by
 induction h with
 | nil=>intro i; exact .nil
 | cons h1 c ih=>
  intro i
  cases i with
  | zero=>exact .cons d c
  | succ i=>exact .cons h1 (ih i)
theorem take {l:List α} {m:List β} (h:kD Q l m):∀i:Nat,kD Q (l.take i) (m.take i):=by
 induction h with
 | nil=>intro i; simp; exact .nil
 | cons h1 _ ih=>
  intro i
  cases i with
  | zero=>exact .nil
  | succ i=>exact .cons h1 (ih i)
theorem drop {l:List α} {m:List β} (h:kD Q l m):∀i:Nat,kD Q (l.drop i) (m.drop i):=by
 induction h with
 | nil=>intro i; simp; exact .nil
 | cons h1 a ih=>
  intro i
  cases i with
  | zero=>exact .cons h1 a
  | succ i=>exact ih i
end kD
theorem wF {P:Nat→β→α→Prop}:∀{m:List β} (o:Nat),(∀(i:Nat) (b:β),m[i]? =some b→∃a,P (o+i) b a)→∃l:List α,l.length=m.length∧∀(i:Nat) (b:β),m[i]? =some b→∃a,l[i]? =some a∧P (o+i) b a
 | [],_,_=>⟨[],rfl,λi b h=>by simp at h⟩
 | b::m,o,h=>by
  obtain ⟨a,ha⟩:=h 0 b rfl
  obtain ⟨l,h1,g⟩:=wF (m:=m) (o+1) (λi b j=>by
   obtain ⟨a,ha⟩:=h (i+1) b (by simpa using j)
   exact ⟨a,by rw [show o+1+i=o+(i+1) by omega]; exact ha⟩)
  refine ⟨a::l,by simp [h1],λi c d=>?_⟩
  cases i with
  | zero=>simp at d; subst d; exact ⟨a,rfl,ha⟩
  | succ i=>
   obtain ⟨x,k,hp⟩:=g i c (by simpa using d)
   exact ⟨x,by simpa using k,by rw [show o+(i+1)=o+1+i by omega]; exact hp⟩
theorem kD.EI {Q:α→β→Prop}:∀{l:List α} {m:List β},l.length=m.length→(∀(i:Nat) (a:α) (b:β),l[i]? =some a→m[i]? =some b→Q a b)→kD Q l m
 | [],[],_,_=>.nil
 | [],_::_,h,_=>by cases h
 | _::_,[],h,_=>by cases h
 | a::l,b::m,h,c=>.cons (c 0 a b rfl rfl) (kD.EI (by simpa using h) (λi x y d g=>c (i+1) x y (by simpa using d) (by simpa using g)))
end
structure Deep {β:Type} (R:lc β) (k:Nat):Prop where
 mono:zH R
 len:∀{μ ys x},R μ ys x→ys.length=k
 one:∀{μ ys x},R μ ys x→∀u∈ys,u.oneCell'=true
abbrev pg (k:Nat):={ys:List Value // ys.length=k∧∀u∈ys,u.oneCell'=true}
def nS {k:Nat} (c:pg k):List Value:=c.1
theorem vv {k:Nat} (x:pg k):(nS x).length=k:=x.2.1
theorem IZ {k:Nat} (x:pg k):∀u∈nS x,u.oneCell'=true:=x.2.2
theorem Sl.F9 {α:Type} {R:lc α} {k:Nat} {μ:gm} {v:Value} {l:List α} (h:Sl R k μ v l):v.oneCell'=true:=by
 obtain ⟨A,c,rfl,_⟩:=h; rfl
section
variable {β:Type} {Rl:lc β} {k:Nat} {μ μ':gm} {v:Value} {l:List β}
def Deep.cell (a:Deep Rl k) {ys:List Value} {x:β} (h:Rl μ ys x):pg k:=⟨ys,a.len h,a.one h⟩
theorem Sl.raw (G:Deep Rl k) (h:Sl Rl k μ v l):∃cl:List (pg k),Sl (Pl nS) k μ v cl∧kD (λc x=>Rl μ c.1 x) cl l:=by
 obtain ⟨A,c,rfl,h1,s,w⟩:=h
 cases l with
 | nil=>exact ⟨[],⟨A,c,rfl,h1,s,λh=>absurd h (by simp)⟩,.nil⟩
 | cons x0 l=>
  obtain ⟨b,off,cs,T,fr,rfl,I,z⟩:=w (by simp)
  obtain ⟨cl,o,q⟩:=wF (P:=λi x (c:pg k)=>Rl μ c.1 x∧∀j y,c.1[j]? =some y→cs[off+i*k+j]? =some y) (m:=x0::l) 0 (λi x p=>by
   obtain ⟨ys,_,d,g⟩:=z i x p
   exact ⟨G.cell d,d,by rw [dT]; exact g⟩)
  refine ⟨cl,⟨_,c,by rw [o],by omega,s,λ_=>⟨b,off,cs,T,fr,rfl,I,λi c n=>?_⟩⟩,kD.EI o (λi c x n p=>?_)⟩
  ·have hi:i < (x0::l).length:=by rw [←o]; exact (aR.1 n).1
   obtain ⟨u,a,_,g⟩:=q i _ (bN hi)
   rw [n] at a; cases a
   exact ⟨c.1,c.2.1,rfl,by rw [dT] at g; exact g⟩
  ·obtain ⟨u,a,d,_⟩:=q i x p
   rw [n] at a; cases a
   exact d
theorem Sl.Er {cl:List (pg k)} (h:Sl (Pl nS) k μ v cl) (w:gf μ μ') (ha:kD (λc x=>Rl μ' c.1 x) cl l):Sl Rl k μ' v l:=by
 obtain ⟨A,c,rfl,h1,n,o⟩:=h
 have a:=ha.length
 refine ⟨A,c,by rw [a],by omega,n,λz=>?_⟩
 obtain ⟨b,off,cs,T,fr,rfl,q,p⟩:=o (by omega)
 refine ⟨b,off,cs,T,fr,rfl,w _ _ q,λi x y=>?_⟩
 obtain ⟨c,s,u⟩:=ha.get y
 obtain ⟨ys,d,g,j⟩:=p i c s
 cases g
 exact ⟨nS c,d,u,j⟩
def xr (Rl:lc β) (k:Nat) (μ:gm) (W:World) (v:Value) (l:List β):Prop:=∃cl:List (pg k),Sl (Pl nS) k (hp W) v cl∧kD (λc x=>Rl μ c.1 x) cl l
theorem xr.sl (c:Deep Rl k) {W:World} (h:Sl Rl k μ v l) (d:gf μ (hp W)):xr Rl k μ W v l:=by
 obtain ⟨cl,h1,a⟩:=h.raw c
 exact ⟨cl,h1.mono (Pl.mono _) d,a⟩
theorem Sl.FK {b m:Nat} {cl:List (pg k)} {cs:Array Value} {e:TypeId} (hm:cl.length=m) (a:m≤maxLen) (d:cs.toList=(cl.map nS).flatten) (c:μ b=some (.cells cs e (0,0))):Sl (Pl nS) k μ (.slice (some ⟨b,0,none⟩) m m) cl:=by
 subst hm
 refine ⟨_,_,rfl,bl _,a,λ_=>⟨b,0,_,_,_,rfl,c,λi x g=>⟨nS x,vv x,rfl,λj y h=>?_⟩⟩⟩
 have:=pR vv cl i x g j y h
 rw [←d] at this
 simpa using this
inductive uj (Rl:lc β) (k:Nat) (μ:gm):List Value→List β→Prop
 | nil:uj Rl k μ [] []
 | cons {ys zs:List Value} {x:β} {l:List β}:Rl μ ys x→uj Rl k μ zs l→uj Rl k μ (ys++zs) (x::l)
theorem uj.cells (d:Deep Rl k) {ys:List Value} (h:uj Rl k μ ys l):∃cl:List (pg k),(cl.map nS).flatten=ys∧kD (λc x=>Rl μ c.1 x) cl l:=by
 induction h with
 | nil=>exact ⟨[],rfl,.nil⟩
 | cons h1 _ ih=>
  obtain ⟨cl,e,a⟩:=ih
  exact ⟨d.cell h1::cl,by rw [aY,bU,e]; rfl,.cons h1 a⟩
theorem xr.lit (d:Deep Rl k) {W:World} {b m:Nat} {ys:List Value} {e:TypeId} (h:uj Rl k μ ys l) (hm:l.length=m) (g:m≤maxLen) (i:W.heap[b]? =some (.cells ys.toArray e (0,0))):xr Rl k μ W (.slice (some ⟨b,0,none⟩) m m) l:=by
 obtain ⟨cl,c,a⟩:=h.cells d
 exact ⟨cl,Sl.FK (by rw [a.length]; exact hm) g c.symm i,a⟩
theorem Sl.imp {R R':lc β} (h:Sl R k μ v l) (hi:∀ys x,R μ ys x→R' μ ys x):Sl R' k μ v l:=by
 obtain ⟨A,c,rfl,h1,a,d⟩:=h
 refine ⟨A,c,rfl,h1,a,λq=>?_⟩
 obtain ⟨b,off,cs,T,fr,rfl,p,g⟩:=d q
 exact ⟨b,off,cs,T,fr,rfl,p,λi x s=>let ⟨ys,j,n,o⟩:=g i x s; ⟨ys,j,hi _ _ n,o⟩⟩
def jA (e:TypeId) (Rl:lc β) (k:Nat) (μ:gm) (v:Value) (l:List β) (B:List (Nat×Obj)):Prop:=∃cl:List (pg k),gB e nS k v cl B∧kD (λc x=>Rl μ c.1 x) cl l
variable {e:TypeId} {B:List (Nat×Obj)}
theorem jA.mono (c:Deep Rl k) (h:jA e Rl k μ v l B) (d:gf μ μ'):jA e Rl k μ' v l B:=by
 obtain ⟨cl,h1,a⟩:=h
 exact ⟨cl,h1,a.imp (λ_ _ h=>c.mono _ _ _ _ d h)⟩
theorem jA.nil (e:TypeId) (Rl:lc β) (k:Nat) (μ:gm):jA e Rl k μ (.slice none 0 0) [] []:=⟨[],gB.nil _ _ _,.nil⟩
theorem jA.lit (d:Deep Rl k) {b m:Nat} {ys:List Value} (h:uj Rl k μ ys l) (hm:l.length=m) (g:m≤maxLen) (i:ys.length=m*k):jA e Rl k μ (.slice (some ⟨b,0,none⟩) m m) l [(b,.cells ys.toArray e (0,0))]:=by
 obtain ⟨cl,c,a⟩:=h.cells d
 exact ⟨cl,gB.lit (by rw [a.length]; exact hm) g c.symm (by simpa using i),a⟩
theorem jA.form (h:jA e Rl k μ v l B):∃A c,v= .slice A l.length c:=by
 obtain ⟨cl,h1,a⟩:=h
 rw [←a.length]; exact h1.form
theorem jA.len (h:jA e Rl k μ v l B):l.length≤9223372036854775807:=by
 obtain ⟨cl,h1,a⟩:=h
 rw [←a.length]; exact h1.len
theorem jA.nd (h:jA e Rl k μ v l B):(B.map (·.1)).Nodup:=let ⟨_,h1,_⟩:=h; h1.nd
theorem jA.isNil {n c:Nat} (h:jA e Rl k μ (.slice none n c) l B):l=[]:=by
 obtain ⟨cl,h1,a⟩:=h
 have:=a.length
 rw [h1.isNil] at this
 exact cq this.symm
theorem jA.sl (h:jA e Rl k μ v l B) (c:Deep Rl k) (d:gf μ μ') (hm:∀b o,(b,o)∈B→μ' b=some o):Sl Rl k μ' v l:=by
 obtain ⟨cl,h1,a⟩:=h
 exact Sl.Er (h1.sl vv hm) (gf.refl _) (a.imp (λ_ _ h=>c.mono _ _ _ _ d h))
end
section
variable {β:Type} {Rl:lc β} {k:Nat} {μ:gm} {v:Value} {l:List β} {e:TypeId} {B:List (Nat×Obj)}
variable {dd:Bool} {F:Nat→Prop} {w W:World} {L:List (Nat×Obj)}
theorem jA.BM (h:jA e Rl k μ v l B) (c:Deep Rl k) (a:ST dd F w W μ L) (d:∀p,p∈B→p∈L):Sl Rl k (hp W) v l:=h.sl c a.gd (λ_ _ g=>a.at_ (d _ g))
theorem xr.row (h:jA e Rl k μ v l B) (a:ST dd F w W μ L) (d:∀p,p∈B→p∈L):xr Rl k μ W v l:=let ⟨cl,h1,c⟩:=h; ⟨cl,h1.BM vv a d,c⟩
theorem jA.Hj (h:jA e Rl k μ v l B) (a:ST dd iv w W μ L) (c:∀p,p∈B→p∈L):Fr w.heap.size v:=let ⟨_,h1,_⟩:=h; h1.Hj a c
theorem ST.HN {Y:List (Nat×Obj)} (g:Deep Rl k) (a:ST dd F w W μ (B++Y)) (h:jA e Rl k μ v l B):∃μ',ST dd F w W μ' Y∧gf μ μ'∧Lo F w μ μ'∧Sl Rl k μ' v l:=by
 obtain ⟨cl,h1,d⟩:=h
 obtain ⟨μ',c,a2,a4,a3⟩:=ST.uG a h1 vv
 exact ⟨μ',c,a2,a4,Sl.Er a3 (gf.refl _) (d.imp (λ_ _ h=>g.mono _ _ _ _ a2 h))⟩
variable {P:Program} {E:Nat→Value} {d:Option Nat} {ty:TypeId} {pos:String} {af:Array Edge} {g:Option (Nat×Bool)}
theorem nZ {t e':TypeId} {x a:Operand} {z:IntKind} {i:Int} {x0:β} {A:List Value→Prop} (q:∀{ys},Rl μ ys x0→A ys) (u:P.underlying t=some (.slice e')) (he:∀w,(sizeOf e').run P w= .ok k w) (y:fT E x=v) (hi:fT E a= .int z i) (s:Sl Rl k μ v l) (c:0≤i) (o:l[i.toNat]? =some x0) :
  ∃p,(∃ys,A ys∧At μ p ys)∧∀W,gP P E ⟨d,.indexAddr t x a,ty,pos,af,g⟩ W p W:=by
 obtain ⟨p,ys,_,h,j,n⟩:=yf (d:=d) (ty:=ty) (pos:=pos) (af:=af) (g:=g) u he y hi s c o
 exact ⟨p,⟨ys,q h,j⟩,n⟩
theorem E6 {α g:Type} {a:Nat} {l m r:List α} {c d:List g} (h:ja a l m=some r) (h1:c.length=l.length) (i:d.length=m.length):ja a c d=some (c++d)∧r=l++m:=by
 unfold ja at h ⊢
 rw [h1,i]
 split at h
 ·rename_i j; cases h; rw [aJ j]; exact ⟨rfl,rfl⟩
 ·cases h
theorem yM {K:Value→World→Prop} {t:TypeId} {a:Nat} {z vs:Value} {m r:List β} {Y:List (Nat×Obj)} {x y:Operand} {i:TypeInfo} (Z:Deep Rl k) (j:ST dd F w W μ (B++Y)) (p:0 < k) (O:P.underlying t=some (.slice e)) (hi:P.info? e=some i) (T:i.zero=some z) (s:z.cells.size=k) (q:i.size=k) (o:i.bytes=a) (Q:fT E x=v) (R:fT E y=vs) (J:jA e Rl k μ v l B) (M:xr Rl k μ W vs m) (L:ja a l m=some r) (h:∀W' c R',ST dd F w W' μ (R'++Y)→jA e Rl k μ c r R'→K c W'):jt P E ⟨d,.call ⟨.builtin .append,#[x,y],#[t,t]⟩,ty,pos,af,g⟩ W K:=by
 obtain ⟨cl,h1,u⟩:=J
 obtain ⟨U,I,A⟩:=M
 obtain ⟨n,rfl⟩:=E6 L u.length A.length
 exact lg j vv p IZ O hi T s q o Q R h1 I n (λW' c R' G a2=>h W' c R' G ⟨_,a2,u.append A⟩)
end
end Go.Proofs.YtjjjihkifgdhgaaGreatDoor
namespace Go.Proofs.YtjjjihkifgdhgaaGreatDoor
open Go.RowKit
def iC (dd:Bool) (P:Program) (f:FuncId) (args:List Value) (w:World) (μ0:gm) (L0:List (Nat×Obj)) (K:Value→List (Nat×Obj)→gm→Prop):Prop :=
 Calls P f args.toArray w λe a=>∃v L1 μ1,e= .returned v∧ma dd L0 L1 w a∧gf μ0 μ1∧Lo (gL L0) w μ0 μ1∧gf μ1 (lf a L1)∧K v L1 μ1
theorem iC.gV {dd:Bool} {P:Program} {f:FuncId} {args:List Value} {w:World} {μ0:gm} {L0:List (Nat×Obj)} {K:Value→List (Nat×Obj)→gm→Prop} (h:iC true P f args w μ0 L0 K):iC dd P f args w μ0 L0 K :=
 bk h λ_ _ ⟨v,L1,μ1,h1,a,c⟩=>⟨v,L1,μ1,h1,a.gV,c⟩
section
variable {dd:Bool} {F:Nat→Prop} {w W W':World} {μ μ1:gm} {L L0 L1 L2:List (Nat×Obj)}
theorem ST.FN (h:ST dd F w W μ (L0++L)) (g:ma dd L0 L1 W W') (i:Lo (gL L0) W μ μ1) (d:gf μ1 (lf W' L1)):ST dd F w W' μ1 (L1++L):=by
 have h1:=h.back g
 refine ⟨h1.os,h1.tape,h1.output,h1.drawn,h1.size,h1.ki,λb o hm=>?_,λb o a=>?_,h1.nd⟩
 ·have:=d b o hm
  unfold lf at this
  split at this
  ·cases this
  ·exact this
 ·obtain ⟨j,n,k⟩:=h1.box b o a
  refine ⟨j,?_,k⟩
  rcases aU.1 a with a | a
  ·cases hm:μ1 b with
   | none=>rfl
   | some x=>
    have:=d b x hm
    unfold lf at this
    rw [aJ ⟨o,a⟩] at this
    cases this
  ·have c:=h.box b o (cK _ a)
   rw [i b (jx c.1) (wa h.nd a)]
   exact c.2.1
variable {P:Program} {E:Nat→Value} {d:Option Nat} {ty:TypeId} {pos:String} {af:Array Edge} {g:Option (Nat×Bool)}
theorem AW {K:Value→World→Prop} {K':Value→List (Nat×Obj)→gm→Prop} {f:FuncId} {fv:Operand} {ax:Array Operand} {ats:Array TypeId} {caps:Array Value} {args:List Value} (L0 L2:List (Nat×Obj)) (a:ST dd F w W μ L) (c:L.Perm (L0++L2)) (z:fT E fv= .func (.func f) #[] caps) (he:∀args w,(callFunc f args).run P w= .ok (.enter f args) w) (ha:ax.map (fT E)++(#[]:Array Value)=args.toArray) (y:um L0 W→(L0.map (·.1)).Nodup→gf μ (lf W L0)→(∀b o,(b,o)∈L2→lf W L0 b=some o)→iC dd P f (args++caps.toList) W μ L0 K') (h:∀W' v μ' L1,ST dd F w W' μ' (L1++L2)→gf μ μ'→Lo F w μ μ'→K' v L1 μ'→K v W'):jt P E ⟨d,.call ⟨.value fv,ax,ats⟩,ty,pos,af,g⟩ W K:=by
 have i:ax.map (fT E)=args.toArray:=by simpa using ha
 refine vY (args:=(args++caps.toList).toArray) z he (by rw [i]; simp) (bk (y (a.held c) (a.Fz c) (a.Fm c) (a.yq c)) (λ_ W' ⟨v,L1,μ1,h1,k,n,j,p,s⟩=>⟨v,h1,h W' v μ1 L1 ((a.perm c).FN k j p) n (λb x u=>j b (cg x a.size) (λ⟨o,A⟩=>by
  rcases ((a.perm c).box b o (bw _ A)).2.2 with q | q
  ·omega
  ·exact u q)) s⟩))
end
section
variable {P:Program} {E:Nat→Value} {W:World} {d:Option Nat} {ty:TypeId} {pos:String} {af:Array Edge} {g:Option (Nat×Bool)}
 {dd:Bool} {F:Nat→Prop} {w:World} {μ:gm} {L:List (Nat×Obj)}
def tO {α:Type} (a:Nat) (z:α) (n:Int):Option (List α):=if 0≤n∧(a:Int)*n≤140737488355328∧n≤(maxLen:Int) then some (List.replicate n.toNat z) else none
theorem yl {α:Type} {enc:α→List Value} {k:Nat} (hk:∀x,(enc x).length=k) (a:0 < k) (z:α) (n:Nat):(madeCells (enc z).toArray (n*k)).toList=((List.replicate n z).map enc).flatten:=by
 apply List.ext_getElem
 ·rw [mo hk,bP,size_madeCells]; simp
 ·intro i h1 h
  rw [bP,size_madeCells] at h1
  have j:i / k < n:=by rw [ey a]; exact h1
  have d:i % k < (enc z).length:=by rw [hk]; exact Nat.mod_lt _ a
  have c:=pR hk (List.replicate n z) (i / k) z (by rw [List.getElem?_replicate,aJ j]) (i % k) _ (bN d)
  rw [show i / k*k+i % k=i by rw [Nat.mul_comm]; exact Nat.div_add_mod i k] at c
  rw [bN h] at c
  have g:=dE c
  rw [g]
  simp only [madeCells,Array.getElem_toList,Array.getElem_map,Array.getElem_range,bV,hk]
  rw [getElem!_pos _ _ (by simpa using d)]
  simp
theorem Bj {K:Value→World→Prop} {α:Type} {e t:TypeId} {enc:α→List Value} {k a:Nat} {c:Value} {n:Int} {o:IntKind} {z:α} {r:List α} {x y:Operand} {i:TypeInfo} (p:ST dd F w W μ L) (hk:∀x,(enc x).length=k) (u:0 < k) (Q:P.underlying t=some (.slice e)) (hi:P.info? e=some i) (U:i.zero=some c) (v:i.size=k) (s:i.bytes=a) (M:c.cells=(enc z).toArray) (R:fT E x= .int o n) (T:fT E y= .int o n) (j:tO a z n=some r) (h:∀W' A R',ST dd F w W' μ (R'++L)→gB e enc k A r R'→K A W'):jt P E ⟨d,.makeSlice t x y,ty,pos,af,g⟩ W K:=by
 unfold tO at j
 split at j
 case isFalse=>cases j
 rename_i q
 cases j
 obtain ⟨G,h1,I⟩:=q
 subst v; subst s
 have J:n.toNat≤maxLen:=by omega
 have O:=run_make (P:=P) W t e i c Q hi U o o n n G (Int.le_refl _) (by omega) (by simp only [maxLen] at I; omega)
 refine .inl ⟨.slice (some ⟨W.heap.size,0,none⟩) n.toNat n.toNat,W.alloc (.cells (madeCells c.cells (n.toNat*i.size)) e),?_,h _ _ [(W.heap.size,.cells (madeCells c.cells (n.toNat*i.size)) e)] (p.alloc _) ?_⟩
 ·show (do pure (.value (←Instr.makeSlice t (fT E x) (fT E y))):Sem Next).run P W=_
  rw [R,T]
  simp only [bE,O,bn,cv]
 ·exact gB.lit (by rw [List.length_replicate]) J (by rw [M]; exact yl hk u z _) (by rw [size_madeCells])
end
section
variable {P:Program} {E:Nat→Value} {W:World} {d:Option Nat} {ty:TypeId} {pos:String} {af:Array Edge} {g:Option (Nat×Bool)}
theorem EL {op:BinOp} {tx tv:TypeId} {x y:Operand} {k:IntKind} {a b:Int} {v:Value} (i:fT E x= .int k a) (j:fT E y= .int k b) (h:(match op with | .and=>some (BitVec.ofInt k.bits a &&& BitVec.ofInt k.bits b) | .or=>some (BitVec.ofInt k.bits a ||| BitVec.ofInt k.bits b) | .xor=>some (BitVec.ofInt k.bits a ^^^ BitVec.ofInt k.bits b) | _=>none).map (λ(c:BitVec k.bits)=>Value.int k (k.wrap c.toNat))=some v) :
  gP P E ⟨d,.binOp op tx x y tv,ty,pos,af,g⟩ W v W:=by
 show (do let r ←(do eqGuard op tx x y (fT E x) (fT E y); binOp op tx (fT E x) (fT E y)); pure (.value r):Sem Next).run P W=_
 rw [i,j]
 cases op <;> simp at h <;> subst h <;> simp [eqGuard,binOp,Op.intBits]
theorem HX {tx tv:TypeId} {x y:Operand} {k k':IntKind} {a b:Int} (c:fT E x= .int k a) (h:fT E y= .int k' b) (i:0≤b) :
  gP P E ⟨d,.binOp .shl tx x y tv,ty,pos,af,g⟩ W (.int k (k.wrap (a*2 ^ min b.toNat k.bits))) W:=by
 show (do let r ←(do eqGuard .shl tx x y (fT E x) (fT E y); binOp .shl tx (fT E x) (fT E y)); pure (.value r):Sem Next).run P W=_
 rw [c,h]
 simp [eqGuard,binOp,Op.shift,show ¬b < 0 by omega]
end
variable [M:Md]
section
variable {dd:Bool}
def CK {α β:Type} (R:lc α) (S:lc β):gm→List Value→α×β→Prop:=λμ vs x=>∃ys a,vs=[.agg ys.toArray,.agg a.toArray]∧R μ ys x.1∧S μ a x.2
theorem CK.mk {α β:Type} {R:lc α} {S:lc β} {k m:Nat} {μ μ':gm} {ys a:List Value} {x:α} {y:β} (g:Deep R k) (i:Deep S m) (h:R μ ys x) (d:S μ a y) (c:gf μ μ'):CK R S μ' [.agg ys.toArray,.agg a.toArray] (x,y) :=
 ⟨ys,a,rfl,g.mono _ _ _ _ c h,i.mono _ _ _ _ c d⟩
def Ba {α β:Type} (P:Program) (fv:Value) (μ:gm) (a:gm→List Value→α→Prop) (c:β→Value) (pm:α→Option β):Prop :=
 ∃f first caps,fv= .func (.func f) first caps∧(∀args w,(callFunc f args).run P w= .ok (.enter f args) w)∧∀W x vs r,gf μ (hp W)→a (hp W) vs x→pm x=some r→gz false P f (first.toList++(vs++caps.toList)) W (c r)
theorem Ba.form {α β:Type} {P:Program} {fv:Value} {μ:gm} {c:gm→List Value→α→Prop} {d:β→Value} {pm:α→Option β} (h:Ba P fv μ c d pm):∃f a b,fv= .func f a b:=let ⟨f,a,b,h,_⟩:=h; ⟨_,a,b,h⟩
end
section
variable {P:Program} {W:World} {E:Nat→Value} {d:Option Nat} {ty:TypeId} {pos:String} {af:Array Edge} {g:Option (Nat×Bool)} {F:Nat→Prop} {w:World} {μ μ0:gm} {L:List (Nat×Obj)}
theorem Ba.mono {α β:Type} {fv:Value} {a:gm→List Value→α→Prop} {c:β→Value} {pm:α→Option β} (h:Ba P fv μ a c pm) (i:gf μ μ0):Ba P fv μ0 a c pm:=by
 obtain ⟨f,first,caps,h1,d,g⟩:=h
 exact ⟨f,first,caps,h1,d,λW x vs r h=>g W x vs r (i.trans h)⟩
theorem Iu {α β:Type} {K:Value→World→Prop} {fv:Value} {j:gm→List Value→α→Prop} {k:β→Value} {pm:α→Option β} {c:Operand} {ax:Array Operand} {ats:Array TypeId} (x:α) {vs:List Value} {r:β} (a:ST false F w W μ L) (u:Ba P fv μ0 j k pm) (y:gf μ0 μ) (s:j (hp W) vs x) (v:fT E c=fv) (ha:ax.map (fT E)++(#[]:Array Value)=vs.toArray) (hm:pm x=some r) (h:∀W',ST false F w W' μ L→K (k r) W'):jt P E ⟨d,.call ⟨.value c,ax,ats⟩,ty,pos,af,g⟩ W K:=by
 obtain ⟨f,first,caps,rfl,n,o⟩:=u
 have i:ax.map (fT E)=vs.toArray:=by simpa using ha
 refine .inr (.inr ⟨f,(first.toList++(vs++caps.toList)).toArray,?_,bk (o W x vs r (y.trans a.gd) s hm) (λ_ _ ⟨p,q⟩=>⟨_,p,h _ (a.zK q)⟩)⟩)
 show (do let d ←resolve (fT E) ⟨.value c,ax,ats⟩ ty; invoke d.target d.args:Sem Next).run P W=_
 simp only [resolve,v,Deferred.ofValue,bE,cv,bn,invoke,i,n]
 congr 2
 simp
end
section
variable {dd:Bool}
variable {β:Type} {Rl:lc β} {k:Nat} {μ:gm} {v:Value} {l:List β} {e:TypeId} {B:List (Nat×Obj)}
variable {F:Nat→Prop} {w W:World} {L:List (Nat×Obj)}
variable {P:Program} {E:Nat→Value} {d:Option Nat} {ty:TypeId} {pos:String} {af:Array Edge} {g:Option (Nat×Bool)}
theorem AM {α:Type} {enc:α→List Value} (hk:∀x,(enc x).length=k) (c:0 < k) (hi:∀x y,enc x=enc y→x=y):∀{l m:List α},(l.map enc).flatten=(m.map enc).flatten→l=m
 | [],[],_=>rfl
 | [],b::m,h=>by
  have:=aC List.length h
  simp only [List.map_nil,List.flatten_nil,ck,aY,bU,az,hk] at this
  omega
 | a::l,[],h=>by
  have:=aC List.length h
  simp only [List.map_nil,List.flatten_nil,ck,aY,bU,az,hk] at this
  omega
 | a::l,b::m,h=>by
  simp only [aY,bU] at h
  obtain ⟨h1,d⟩:=List.append_inj h (by rw [hk,hk])
  rw [hi _ _ h1,AM hk c hi d]
theorem IV (x y:pg k) (h:nS x=nS y):x=y:=Subtype.ext h
theorem gB.pre {v1:Value} {cl a:List (pg k)} (g:0 < k) (h:gB e nS k v cl B) (h1:gB e nS k v1 a B) (d:a.length≤cl.length):a=cl.take a.length:=by
 rcases h with ⟨rfl,rfl,rfl⟩ | ⟨u,cap,c,rfl,rfl,w,x,y,q⟩
 ·simp at d; simp [d]
 ·rcases h1 with ⟨_,_,h⟩ | ⟨g1,i,j,rfl,n,s,a2,a3,a4⟩
  ·cases h
  ·cases n
   refine AM vv g IV ?_
   rw [←a4]
   have hle:a.length*k≤cl.length*k:=bJ _ d
   have:c.toList.take (a.length*k)=(c.toList.take (cl.length*k)).take (a.length*k):=by rw [ef,cw hle]
   rw [this,q]
   have o:(cl.map nS).flatten=((cl.take a.length).map nS).flatten++((cl.drop a.length).map nS).flatten:=by rw [←eQ,←bB,List.take_append_drop]
   have p:((cl.take a.length).map nS).flatten.length=a.length*k:=by rw [mo vv,bI,cw d]
   rw [o,←p,ei]
theorem kD.replicate {α β:Type} {Q:α→β→Prop} {a:α} {b:β} (h:Q a b):∀n,kD Q (List.replicate n a) (List.replicate n b)
 | 0=>.nil
 | n+1=>.cons h (kD.replicate h n)
end
end Go.Proofs.YtjjjihkifgdhgaaGreatDoor
namespace Go.Proofs.YtjjjihkifgdhgaaGreatDoor
open Go.RowKit
variable [M:Md]
theorem bS {α β:Type} {m:Option α} {f:α→Option β} {r:β} {G:Prop} (h:m.bind f=some r) (k:∀x,m=some x→f x=some r→G):G :=
 let ⟨x,a,b⟩:=bind_some h
 k x a b
theorem sj {α:Type} {a b:α} (h:some a=some b):a=b:=dE h
theorem bC {α:Type} {b:Bool} {x y r:α} {G:Prop} (h:(if b=true then x else y)=r) (a:b=true→x=r→G) (k2:b=false→y=r→G):G:=by
 rcases Dt b with e | e
 ·exact a e (GY e h)
 ·exact k2 e (G2 e h)
theorem cB {a b:Bool} (h:a=b):Value.bool a=Value.bool b:=aC Value.bool h
theorem nb {a b:Nat} (h:Nat.ble a b=true:=by exact rfl):a≤b:=Nat.le_of_ble_eq_true h
def IG:Nat→Nat→List Bool
 | 0,_=>[]
 | n+1,m=>(m % 2==1)::IG n (m / 2)
def bm (n m:Nat):Array Bool:=(IG n m).toArray
section
variable {P:Program} {n:Nat} {Q:jc} {E:Nat→Value} {W:World}
theorem CI {α:Type} {co:Operand} {b:Bool} {x y:Code} {A B r:α} (hm:(if b=true then A else B)=r) (a:fT E co= .bool b) (d:b=true→A=r→CW P n x Q E W) (c:b=false→B=r→CW P n y Q E W):CW P n (.cond co x y) Q E W :=
 CA a (λe=>d e (GY e hm)) (λe=>c e (G2 e hm))
theorem CJ {c ρ:Type} {m:Option c} {k:c→Option ρ} {r:ρ} {x:Code} {K:(Nat→Value)→World→Prop} (hm:m.bind k=some r) (I:c→(Nat→Value)→World→Prop) (h1:∀s,m=some s→CW P n x (kc (I s) Q) E W) (d:∀s E W,I s E W→k s=some r→K E W):CW P n x (kc K Q) E W :=
 let ⟨s,a,b⟩:=bind_some hm
 D3 (I s) (h1 s a) (λE W h=>d s E W h b)
theorem wu {d ρ c:Type} {m:Option (c ⊕ d)} {k:c ⊕ d→Option ρ} {r:ρ} {x:Code} {K:(Nat→Value)→World→Prop} (hm:m.bind k=some r) (I:d→(Nat→Value)→World→Prop) (h1:∀s,m=some s→k s=some r→CW P n x (kc (λE W=>∃t,s= .inr t∧I t E W) Q) E W) (g:∀s E W,I s E W→k (.inr s)=some r→K E W):CW P n x (kc K Q) E W :=
 let ⟨s,a,b⟩:=bind_some hm
 D3 (λE W=>∃t,s= .inr t∧I t E W) (h1 s a b) (λE W ⟨t,e,h⟩=>g t E W h (by subst e; exact b))
theorem LJ {c ρ:Type} {m:Option c} {k:c→Option ρ} {r:ρ} {ops:Array Oper} {rest:List Oper} (hm:m.bind k=some r) (I:c→(Nat→Value)→World→Prop) (j:Nat) (d:∀s E W,I s E W→k s=some r→LW P n ops Q (rest.drop j) E W) (h1:∀s,m=some s→(∀E W,I s E W→LW P n ops Q (rest.drop j) E W)→LW P n ops Q rest E W):LW P n ops Q rest E W :=
 let ⟨s,a,b⟩:=bind_some hm
 h1 s a (λE W h=>d s E W h b)
theorem PJ {c ρ:Type} {m:Option c} {k:c→Option ρ} {r:ρ} {ops:Array Oper} {S:Array Bool→World→Prop} {fuel:Nat} {listed:Array Bool} (hm:m.bind k=some r) (I:c→(Nat→Value)→World→Prop) (g:Array Bool) (d:Nat) (i:∀s E W,I s E W→k s=some r→PX P n ops Q S d g E W) (h1:∀s,m=some s→(∀E W,I s E W→PX P n ops Q S d g E W)→PX P n ops Q S fuel listed E W):PX P n ops Q S fuel listed E W :=
 let ⟨s,a,b⟩:=bind_some hm
 h1 s a (λE W h=>i s E W h b)
theorem cF (n:Nat) {f:FuncId} {fn:Func} {c:Code} {args:List Value} {w:World} {R:Ending→World→Prop} (a:P.funcs[f]? =some fn) (d:fn.body=some c) (h:@CW qj P n c (nI P fn R) (oC args) w) (i:fn.ntmps=n:=by exact rfl) (g:args.length≤n:=by exact nb):Calls P f args.toArray w R:=pI a d i g h
end
section
variable {dd:Bool} {P:Program} {fn:Func} {E:Nat→Value} {W w:World} {μ:gm} {L:List (Nat×Obj)}
theorem rP {t:Tmp} {v:Value} (a:ST dd iv w W μ L) (c:fn.results=#[.tmp t]:=by exact rfl) (d:E t=v:=by exact rfl):nI P fn (λe W'=>e= .returned v∧Ex dd w W') .ret E W:=gZ c d ⟨rfl,a.ex⟩
end
theorem aL {E:Nat→Value} {ax:Array Operand} {l:List Value} (h:ax.toList.map (fT E)=l):ax.map (fT E)++(#[]:Array Value)=l.toArray:=by subst h; apply Array.ext'; simp
section
variable {dd:Bool}
variable {P:Program} {E:Nat→Value} {W:World} {d:Option Nat} {ty:TypeId} {pos:String} {af:Array Edge} {g:Option (Nat×Bool)}
 {F:Nat→Prop} {w:World} {μ:gm} {L:List (Nat×Obj)}
variable {f:FuncId} {fv:Operand} {ax:Array Operand} {ats:Array TypeId} {args:List Value} {v:Value} {K:Value→World→Prop}
theorem Eg (a:ST dd F w W μ L) (he:∀args w,(callFunc f args).run P w= .ok (.enter f args) w) (c:gz dd P f args W v) (h:∀W',ST dd F w W' μ L→K v W') (i:fT E fv= .func (.func f) #[] #[]:=by exact rfl) (ha:ax.toList.map (fT E)=args:=by exact rfl):jt P E ⟨d,.call ⟨.value fv,ax,ats⟩,ty,pos,af,g⟩ W K:=Cp a i he (aL ha) c h
theorem nJ {α:Type} {e:TypeId} {enc:α→List Value} {k:Nat} {l:List α} {Y:List (Nat×Obj)} (a:ST dd F w W μ Y) (he:∀args w,(callFunc f args).run P w= .ok (.enter f args) w) (c:iF dd P f args W e enc k l) (h:∀W' v μ' R,ST dd F w W' μ' (R++Y)→gf μ μ'→Lo F w μ μ'→gB e enc k v l R→K v W') (i:fT E fv= .func (.func f) #[] #[]:=by exact rfl) (ha:ax.toList.map (fT E)=args:=by exact rfl):jt P E ⟨d,.call ⟨.value fv,ax,ats⟩,ty,pos,af,g⟩ W K:=ui _ a i he (aL ha) c h
theorem HP {K':Value→List (Nat×Obj)→World→Prop} {L0 L2:List (Nat×Obj)} (i:ST dd F w W μ L) (j:L.Perm (L0++L2)) (he:∀args w,(callFunc f args).run P w= .ok (.enter f args) w) (k:um L0 W→(L0.map (·.1)).Nodup→gf μ (lf W L0)→(∀b o,(b,o)∈L2→lf W L0 b=some o)→iu dd P f args W L0 K') (h:∀W' v μ' L1,ST dd F w W' μ' (L1++L2)→gf μ μ'→Lo F w μ μ'→(∀b,W.heap.size≤b→∀o,lf W' L1 b=some o→μ' b=some o)→K' v L1 W'→K v W') (n:fT E fv= .func (.func f) #[] #[]:=by exact rfl) (ha:ax.toList.map (fT E)=args:=by exact rfl):jt P E ⟨d,.call ⟨.value fv,ax,ats⟩,ty,pos,af,g⟩ W K :=
 GM L0 L2 i j n he (aL ha) (λa b c d=>by have:=k a b c d; simpa using this) h
theorem FX {K':Value→List (Nat×Obj)→gm→Prop} {L0 L2:List (Nat×Obj)} (i:ST dd F w W μ L) (j:L.Perm (L0++L2)) (he:∀args w,(callFunc f args).run P w= .ok (.enter f args) w) (k:um L0 W→(L0.map (·.1)).Nodup→gf μ (lf W L0)→(∀b o,(b,o)∈L2→lf W L0 b=some o)→iC dd P f args W μ L0 K') (h:∀W' v μ' L1,ST dd F w W' μ' (L1++L2)→gf μ μ'→Lo F w μ μ'→K' v L1 μ'→K v W') (n:fT E fv= .func (.func f) #[] #[]:=by exact rfl) (ha:ax.toList.map (fT E)=args:=by exact rfl):jt P E ⟨d,.call ⟨.value fv,ax,ats⟩,ty,pos,af,g⟩ W K :=
 AW L0 L2 i j n he (aL ha) (λa b c d=>by have:=k a b c d; simpa using this) h
end
section
variable {E:Nat→Value} {x1 x2 x3 x4 x5 x6 x7 x8:Operand} {v1 v2 v3 v4 v5 v6 v7 v8:Value}
theorem Jp (h1:fT E x1=v1):[x1].map (fT E)=[v1]:=by rw [←h1]; rfl
theorem I6 (h1:fT E x1=v1) (a:fT E x2=v2):[x1,x2].map (fT E)=[v1,v2]:=by rw [←h1,←a]; rfl
end
end Go.Proofs.YtjjjihkifgdhgaaGreatDoor
namespace Go.Proofs.YtjjjihkifgdhgaaGreatDoor
open Go.RowKit
def Jd (R:List (Nat×Obj)) (k:Nat) (p:Value) (i a:Nat):Prop:=∃g o,R=[(g,o)]∧p= .pointer (some ⟨g,i*k+a,none⟩)
theorem uS.f {R:List (Nat×Obj)} {k:Nat} {p:Value} {i:Nat} (h:uS R k p i):Jd R k p i 0:=h
section
variable {P:Program} {E:Nat→Value} {W:World} {d:Option Nat} {ty:TypeId} {pos:String} {af:Array Edge} {g:Option (Nat×Bool)}
 {dd:Bool} {F:Nat→Prop} {w:World} {μ:gm} {L:List (Nat×Obj)} {α:Type} {e':TypeId} {enc:α→List Value} {k:Nat} {v:Value} {l:List α} {R:List (Nat×Obj)}
theorem gB.put (h:gB e' enc k v l R) (hk:∀x,(enc x).length=k) {p:Value} {i:Nat} (hp:uS R k p i) {x0:α} (w:l[i]? =some x0) (x1:α) :
  ∃g a,R=[(g,.cells a e' (0,0))]∧p= .pointer (some ⟨g,i*k,none⟩)∧i*k+k≤a.size∧(∀j y,(enc x0)[j]? =some y→a[i*k+j]? =some y)∧
   gB e' enc k v (l.set i x1) [(g,.cells (a.toList.take (i*k)++enc x1++a.toList.drop (i*k+k)).toArray e' (0,0))]:=by
 have o:i < l.length:=(aR.1 w).1
 obtain ⟨s,a,cap,rfl,rfl,u,G,n,I,rfl,J⟩:=sb h hk hp w
 have hle:i*k+k≤cap*k:=by
  have:(i+1)*k≤cap*k:=bJ _ (by omega)
  rwa [bZ,fI] at this
 have c:i*k+k≤l.length*k:=by
  have:(i+1)*k≤l.length*k:=bJ _ (by omega)
  rwa [bZ,fI] at this
 have hlen:l.length*k≤cap*k:=bJ _ u
 refine ⟨s,a,rfl,rfl,by rw [n]; exact hle,J,.inr ⟨s,cap,_,by simp,rfl,by simpa using u,G,?_,?_⟩⟩
 ·show ((a.toList.take (i*k)++(enc x1)++a.toList.drop (i*k+k)).toArray).size=_
  have d:a.toList.length=cap*k:=by simpa using n
  rw [bV,az,az,bI,dv,hk,d,cw (by omega)]; omega
 ·rw [eL,wI hk l i x1 o,←I]
  have z:(a.toList.take (l.length*k)).take (i*k)=a.toList.take (i*k):=by rw [ef]; congr 1; omega
  have A:(a.toList.take (l.length*k)).drop (i*k+k)=(a.toList.drop (i*k+k)).take (l.length*k-(i*k+k)):=by rw [List.drop_take]
  rw [z,A]
  show List.take (l.length*k) (a.toList.take (i*k)++enc x1++a.toList.drop (i*k+k))=_
  have d:a.toList.length=cap*k:=by simpa using n
  have q:(a.toList.take (i*k)++enc x1).length=i*k+k:=by rw [az,bI,hk,d,cw (by omega)]
  rw [eC,cC (by rw [q]; exact c),q]
end
variable [M:Md]
theorem oc {v:Value} (h:v.cells.toList.all Value.oneCell'=true:=by exact rfl):∀u∈v.cells.toList,u.oneCell'=true:=dU.1 h
theorem dc {p:Prop} [Decidable p] (h:p:=by decide):p:=h
theorem kr {p:Prop} (h:p:=by kernel_rfl):p:=h
theorem br {α:Sort _} {a b:α} (h:a=b:=by rfl):a=b:=h
abbrev LO:=List (Nat×Obj)
abbrev Ob (c:Array Value) (t:TypeId):Obj:=.cells c t (0,0)
abbrev Ol (c:List Value) (t:TypeId):Obj:=.cells c.toArray t (0,0)
theorem lH {P:Program} {t e:TypeId} {m k:Nat} {z:Value} {a:Array (Nat×Value)} {cs:Array Value} (j:P.underlying t=some (.slice e)) (i:∀w,(sizeOf e).run P w= .ok k w) (o:∀w,(zeroValue e).run P w= .ok z w) (hm:m*k≤16777216:=by decide) (g:a.toList=(a.toList.map (·.2)).zipIdx.map (λp=>(p.2,p.1)):=by exact rfl) (n:(a.toList.map (·.2)).all (λv=>v.cells.size==k)=true:=by exact rfl) (d:(a.toList.map (·.2)).length=m:=by exact rfl) (c:((a.toList.map (·.2)).flatMap (λv=>v.cells.toList)).toArray=cs:=by exact rfl) (W:World) :
  (Instr.buildSlice t m a).run P W= .ok (.slice (some ⟨W.heap.size,0,none⟩) m m) (W.alloc (.cells cs e (0,0))) :=
 yB _ j i o hm g (λv h=>eq_of_beq (dU.1 n v h)) d c W
section
variable {dd:Bool} {P:Program} {fn:Func} {E:Nat→Value} {W w:World} {μ:gm} {L L0:List (Nat×Obj)}
theorem rQ {α:Type} {f:α→Value} {a r:α} {t:Tmp} (hm:some a=some r) (c:ST dd iv w W μ L) (d:fn.results=#[.tmp t]:=by exact rfl) (g:E t=f a:=by exact rfl):nI P fn (λe W'=>e= .returned (f r)∧Ex dd w W') .ret E W:=by
 obtain rfl:=sj hm; exact gZ d g ⟨rfl,c.ex⟩
theorem cG (n:Nat) {f:FuncId} {c:Code} {args:List Value} {v:Value} (a:P.funcs[f]? =some fn) (d:fn.body=some c) (h:ST dd iv w w (hp w) []→@CW qj P n c (nI P fn (λe j=>e= .returned v∧Ex dd w j)) (oC args) w) (i:fn.ntmps=n:=by exact rfl) (g:args.length≤n:=by exact nb):gz dd P f args w v:=pI a d i g (h (ST.start w))
theorem ua {K:Value→List (Nat×Obj)→World→Prop} (n:Nat) {f:FuncId} {c:Code} {args:List Value} (a:P.funcs[f]? =some fn) (g:fn.body=some c) (h:ST dd iv w w (hp w) []→@CW qj P n c (nI P fn (λe d=>∃v L1,e= .returned v∧ma dd [] L1 w d∧K v L1 d)) (oC args) w) (j:fn.ntmps=n:=by exact rfl) (i:args.length≤n:=by exact nb):iu dd P f args w [] K:=pI a g j i (h (ST.start w))
theorem wo {K:Value→List (Nat×Obj)→World→Prop} (g:kz μ L0 w) (n:Nat) {f:FuncId} {c:Code} {args:List Value} (a:P.funcs[f]? =some fn) (i:fn.body=some c) (h:ST dd (gL L0) w w μ L0→@CW qj P n c (nI P fn (λe d=>∃v L1,e= .returned v∧ma dd L0 L1 w d∧K v L1 d)) (oC args) w) (k:fn.ntmps=n:=by exact rfl) (j:args.length≤n:=by exact nb):iu dd P f args w L0 K:=pI a i k j (h (ST.me g))
theorem yX {K:Value→List (Nat×Obj)→gm→Prop} (g:kz μ L0 w) (n:Nat) {f:FuncId} {c:Code} {args:List Value} (a:P.funcs[f]? =some fn) (i:fn.body=some c) (h:ST dd (gL L0) w w μ L0→@CW qj P n c (nI P fn (λe d=>∃v L1 μ1,e= .returned v∧ma dd L0 L1 w d∧gf μ μ1∧Lo (gL L0) w μ μ1∧gf μ1 (lf d L1)∧K v L1 μ1)) (oC args) w) (k:fn.ntmps=n:=by exact rfl) (j:args.length≤n:=by exact nb):iC dd P f args w μ L0 K:=pI a i k j (h (ST.me g))
end
section
variable {dd:Bool}
variable {P:Program} {E:Nat→Value} {W:World} {d:Option Nat} {ty:TypeId} {pos:String} {af:Array Edge} {g:Option (Nat×Bool)}
 {F:Nat→Prop} {w:World} {μ:gm} {L:List (Nat×Obj)}
variable {f:FuncId} {fv:Operand} {ax:Array Operand} {ats:Array TypeId} {args:List Value} {v:Value} {K:Value→World→Prop}
theorem eM {K':Value→List (Nat×Obj)→World→Prop} {L0 L2:List (Nat×Obj)} (i:ST dd F w W μ L) (j:L.Perm (L0++L2)) (he:∀args w,(callFunc f args).run P w= .ok (.enter f args) w) (k:kz (lf W L0) L0 W→gf μ (lf W L0)→iu dd P f args W L0 K') (h:∀W' v μ' L1,ST dd F w W' μ' (L1++L2)→gf μ μ'→Lo F w μ μ'→(∀b,W.heap.size≤b→∀o,lf W' L1 b=some o→μ' b=some o)→K' v L1 W'→K v W') (n:fT E fv= .func (.func f) #[] #[]:=by exact rfl) (ha:ax.toList.map (fT E)=args:=by exact rfl):jt P E ⟨d,.call ⟨.value fv,ax,ats⟩,ty,pos,af,g⟩ W K :=
 HP i j he (λa b c _=>k ⟨a,b,gf.refl _⟩ c) h n ha
theorem eD {K':Value→List (Nat×Obj)→gm→Prop} {L0 L2:List (Nat×Obj)} (i:ST dd F w W μ L) (j:L.Perm (L0++L2)) (he:∀args w,(callFunc f args).run P w= .ok (.enter f args) w) (k:kz μ L0 W→iC dd P f args W μ L0 K') (h:∀W' v μ' L1,ST dd F w W' μ' (L1++L2)→gf μ μ'→Lo F w μ μ'→K' v L1 μ'→K v W') (n:fT E fv= .func (.func f) #[] #[]:=by exact rfl) (ha:ax.toList.map (fT E)=args:=by exact rfl):jt P E ⟨d,.call ⟨.value fv,ax,ats⟩,ty,pos,af,g⟩ W K :=
 FX i j he (λa b c _=>k ⟨a,b,c⟩) h n ha
end
def DD (op:BinOp):Value→Value→Option Value
 | .int k a,.int k' b=>if k=k' then zD k op a b else none
 | _,_=>none
def G1 (i:Nat):Value→Option Value
 | .tuple vs=>vs[i]?
 | _=>none
def zJ:Value→Bool
 | .pointer (some ⟨_,_,none⟩)=>true
 | _=>false
def HO (o:Nat):Value→Value
 | .pointer (some ⟨b,k,none⟩)=>.pointer (some ⟨b,k+o,none⟩)
 | v=>v
theorem zb {v:Value} (h:zJ v=true):∃b k,v= .pointer (some ⟨b,k,none⟩):=by
 unfold zJ at h; split at h
 ·exact ⟨_,_,rfl⟩
 ·cases h
section
variable {P:Program} {n:Nat} {Q:jc} {E:Nat→Value} {W:World} {ops:Array Oper} {rest:List Oper}
 {d j t:Nat} {want b:Bool} {v:Value} {ins:Go.Op} {ty:TypeId} {pos:String} {af:Array Edge} {A:Value→Prop} {x y:Operand}
theorem Wm (h:LW P n ops Q rest (iL E d (fT E x)) W) (a:d < n:=by decide):LW P n ops Q (⟨some d,.move x,ty,pos,af,none⟩::rest) E W:=V (gl rfl) h a
theorem Wa (h:LW P n ops Q rest (iL E d (fT E x)) W) (a:d < n:=by decide):LW P n ops Q (⟨some d,.assign x,ty,pos,af,none⟩::rest) E W:=V (iM rfl) h a
theorem Wh (c:fT E x=v) (h:LW P n ops Q rest (iL E d v) W) (a:d < n:=by decide):LW P n ops Q (⟨some d,.move x,ty,pos,af,none⟩::rest) E W:=V (gl c) h a
theorem Wg (c:fT E x=v) (h:LW P n ops Q rest (iL E d v) W) (a:d < n:=by decide):LW P n ops Q (⟨some d,.assign x,ty,pos,af,none⟩::rest) E W:=V (iM c) h a
theorem Wx {i:Nat} (a:G1 i (fT E x)=some v) (h:LW P n ops Q rest (iL E d v) W) (c:d < n:=by decide):LW P n ops Q (⟨some d,.extract x i,ty,pos,af,none⟩::rest) E W:=by
 unfold G1 at a; split at a
 ·rename_i vs e; exact V (D2 e a) h c
 ·cases a
theorem Wi {op:BinOp} {tx tv:TypeId} (c:DD op (fT E x) (fT E y)=some v) (h:LW P n ops Q rest (iL E d v) W) (j:d < n:=by decide):LW P n ops Q (⟨some d,.binOp op tx x y tv,ty,pos,af,none⟩::rest) E W:=by
 unfold DD at c; split at c
 ·rename_i k a k' b g i
  split at c
  ·rename_i e; subst e; exact V (iJ g i c) h j
  ·cases c
 ·cases c
theorem Wf {t:TypeId} {f off:Nat} (a:iE P t f off) (h:LW P n ops Q rest (iL E d (HO off (fT E x))) W) (hp:zJ (fT E x)=true:=by exact rfl) (c:d < n:=by decide):LW P n ops Q (⟨some d,.fieldAddr t x f,ty,pos,af,none⟩::rest) E W:=by
 obtain ⟨b,k,e⟩:=zb hp
 refine V (fZ a e) ?_ c
 rw [e] at h; exact h
theorem Wn (h:LW P n ops Q rest (iL E d (fT E x)) W) (hp:zJ (fT E x)=true:=by exact rfl) (a:d < n:=by decide):LW P n ops Q (⟨some d,.nilCheck x,ty,pos,af,none⟩::rest) E W:=by
 obtain ⟨b,k,e⟩:=zb hp
 refine V (pb e) ?_ a
 rw [e] at h; exact h
theorem un (h:b=!want) (k:LW P n ops Q rest (iL E d undef) W) (c:(ops[j]?).bind (·.dst)=some t:=by exact rfl) (a:E t= .bool b:=by exact rfl) (i:t < n:=by decide) (g:d < n:=by decide) :
  LW P n ops Q (⟨some d,ins,ty,pos,af,some (j,want)⟩::rest) E W:=Vn c (by rw [a,h]) k i g
theorem ug (h:b=want) (i:gP P E ⟨some d,ins,ty,pos,af,some (j,want)⟩ W v W) (k:LW P n ops Q rest (iL E d v) W) (c:(ops[j]?).bind (·.dst)=some t:=by exact rfl) (a:E t= .bool b:=by exact rfl) (o:t < n:=by decide) (g:d < n:=by decide) :
  LW P n ops Q (⟨some d,ins,ty,pos,af,some (j,want)⟩::rest) E W:=Vg c (by rw [a,h]) i k o g
theorem nN (h:b=want) (k:jt P E ⟨some d,ins,ty,pos,af,some (j,want)⟩ W λv W'=>LW P n ops Q rest (iL E d v) W') (c:(ops[j]?).bind (·.dst)=some t:=by exact rfl) (a:E t= .bool b:=by exact rfl) (i:t < n:=by decide) (g:d < n:=by decide) :
  LW P n ops Q (⟨some d,ins,ty,pos,af,some (j,want)⟩::rest) E W:=Es c (by rw [a,h]) k i g
section
variable {dd:Bool} {F:Nat→Prop} {w:World} {μ:gm} {L:List (Nat×Obj)} {T:TypeId} {a off:Nat} {cs:Array Value} {fr:Nat×Nat}
theorem VA {t:TypeId} (c:ST dd F w W μ L) (i:(a,Obj.cells cs T fr)∈L) (ys:List Value) (g:∀w,(isAgg t).run P w= .ok true w) (j:∀w,(sizeOf t).run P w= .ok ys.length w) (h:LW P n ops Q rest (iL E d (.agg ys.toArray)) W) (o:fT E x= .pointer (some ⟨a,off,none⟩):=by exact rfl) (p:(cs.toList.drop off).take ys.length=ys:=by exact rfl) (k:d < n:=by decide):LW P n ops Q (⟨some d,.load t x,ty,pos,af,none⟩::rest) E W:=V (fU o (fY c.has i ys p g j)) h k
theorem VB {t:TypeId} (c:ST dd F w W μ L) (i:(a,Obj.cells cs T fr)∈L) (k:fT E x= .pointer (some ⟨a,off,none⟩)) (o:cs[off]? =some v) (g:∀w,(isAgg t).run P w= .ok false w) (h:LW P n ops Q rest (iL E d v) W) (j:d < n:=by decide):LW P n ops Q (⟨some d,.load t x,ty,pos,af,none⟩::rest) E W:=V (fU k (gh c.has i o g)) h j
end
section
variable {K:(Nat→Value)→World→Prop} {Q':jc} {c:Code} {id id2:Nat} {l:List Oper} {z:Code}
theorem sg (h:LW P n l.toArray (kc (λE W=>CW P n c Q E W) Q) l E W):CW P n (.seq (.region id l.toArray false) c) Q E W:=gq (gn h)
theorem ln (h:K E W):LW P n ops (kc K Q) [] E W:=gJ (gj h)
theorem lr (h:LW P n l.toArray (kc (λE W=>CW P n c Q E W) Q) l E W):LW P n ops (kc (λE W=>CW P n (.seq (.region id l.toArray false) c) Q E W) Q') [] E W:=gJ (gj (gq (gn h)))
theorem lS (h:LW P n l.toArray (kc (λE W=>CW P n c (kc (λE W=>CW P n z Q E W) Q) E W) (kc (λE W=>CW P n z Q E W) Q)) l E W):LW P n ops (kc (λE W=>CW P n (.seq (.seq (.region id l.toArray false) c) z) Q E W) Q') [] E W:=gJ (gj (gq (gq (gn h))))
theorem bg (h:LW P n l.toArray (kc (λE W=>CW P n c (ov id2 Q) E W) (ov id2 Q)) l E W):CW P n (.block id2 (.seq (.region id l.toArray false) c)) Q E W:=jS (gq (gn h))
theorem kg (h:LW P n l.toArray (kc (λE W=>CW P n c Q E W) Q) l E W):CW P n .skip (kc (λE W=>CW P n (.seq (.region id l.toArray false) c) Q E W) Q') E W:=iD (gj (gq (gn h)))
theorem kS (h:LW P n l.toArray (kc (λE W=>CW P n c (kc (λE W=>CW P n z Q E W) Q) E W) (kc (λE W=>CW P n z Q E W) Q)) l E W):CW P n .skip (kc (λE W=>CW P n (.seq (.seq (.region id l.toArray false) c) z) Q E W) Q') E W:=iD (gj (gq (gq (gn h))))
theorem lt (h:Q .ret E W):LW P n ops (kc (λE W=>CW P n .ret Q E W) Q') [] E W:=gJ (gj (gC h))
theorem kn (h:K E W):CW P n .skip (kc K Q) E W:=iD (gj h)
end
end
theorem Ab.mono {α β:Type} {P:Program} {fv:Value} {μ μ0:gm} {a:α→List Value} {c:β→Value} {pm:α→Option β} (h:Ab P fv μ a c pm) (i:gf μ μ0):Ab P fv μ0 a c pm:=by
 obtain ⟨f,caps,h1,d,g⟩:=h
 exact ⟨f,caps,h1,d,λW x r h=>g W x r (i.trans h)⟩
theorem Ab.form {α β:Type} {P:Program} {fv:Value} {μ:gm} {c:α→List Value} {d:β→Value} {pm:α→Option β} (h:Ab P fv μ c d pm):∃f a b,fv= .func f a b:=let ⟨f,b,h,_⟩:=h; ⟨_,_,b,h⟩
def xk {S:Type} (rd:S→List Int):Int ⊕ S→Int
 | .inl x=>x
 | .inr r=>if (rd r).length > 0 then 13 else 0
noncomputable def nO (s:ByteArray) (lo hi:Int):Option ByteArray:=if 0≤lo∧lo≤hi∧hi≤s.size then some (s.extract lo.toNat hi.toNat) else none
theorem AK {s r:ByteArray} {lo hi:Int} (h:nO s lo hi=some r):(0≤lo∧lo≤hi∧hi≤s.size)∧r=s.extract lo.toNat hi.toNat:=by
 unfold nO at h
 split at h
 ·cases h; exact ⟨‹_›,rfl⟩
 ·cases h
section
variable {P:Program} {E:Nat→Value} {W:World} {d:Option Nat} {ty:TypeId} {pos:String} {af:Array Edge} {g:Option (Nat×Bool)} {t:TypeId} {x lo hi:Operand} {k k':IntKind} {i j:Int} {s r:ByteArray}
theorem rq (j:P.underlying t=some .string) (n:fT E x= .string s) (c:fT E lo= .int k i) (h:nO s i s.size=some r):gP P E ⟨d,.slice t x (some lo) none none,ty,pos,af,g⟩ W (.string r) W:=by
 obtain ⟨⟨h1,a,o⟩,rfl⟩:=AK h
 show (do pure (.value (←Instr.sliceAt t (fT E x) (some (fT E lo)) none none)):Sem Next).run P W=_
 rw [n,c]
 simp [Instr.sliceAt,Instr.slice,aN j,Instr.sliceBounds,Instr.sliceBound,asIntOf,h1,a]
theorem sW (n:P.underlying t=some .string) (o:fT E x= .string s) (i:fT E hi= .int k j) (h:nO s 0 j=some r):gP P E ⟨d,.slice t x none (some hi) none,ty,pos,af,g⟩ W (.string r) W:=by
 obtain ⟨⟨h1,a,c⟩,rfl⟩:=AK h
 show (do pure (.value (←Instr.sliceAt t (fT E x) none (some (fT E hi)) none)):Sem Next).run P W=_
 rw [o,i]
 simp [Instr.sliceAt,Instr.slice,aN n,Instr.sliceBounds,Instr.sliceBound,asIntOf,a,c]
end
def vR (l s:ByteArray):Option ByteArray:=if l.size+s.size≤140737488355328 then some (l++s) else none
def HF (l:ByteArray):Option ByteArray:=some l
def mN (n:Int):ByteArray:=⟨(Go.Lib.itoa n).toArray⟩
def vS (n:Int):Option ByteArray:=if -9223372036854775808≤n∧n≤9223372036854775807 then some (mN n) else none
def qW (xs:List ByteArray) (sep:ByteArray):ByteArray:=⟨(Go.Lib.join (xs.map (·.data.toList)) sep.data.toList).toArray⟩
def xh (xs:List ByteArray) (sep:ByteArray):Option ByteArray:=if (qW xs sep).size≤140737488355328∧xs.length≤140737488355328 then some (qW xs sep) else none
def mm (s sep:ByteArray):Option (ByteArray×ByteArray×Bool) :=
 if s.size < 4294967281 then some (⟨(Go.Lib.cut s.data.toList sep.data.toList).1.toArray⟩,⟨(Go.Lib.cut s.data.toList sep.data.toList).2.1.toArray⟩,(Go.Lib.cut s.data.toList sep.data.toList).2.2) else none
def se (s sep:ByteArray):Option (List ByteArray):=if s.size < 4294967281∧1≤sep.size then some (Go.Lib.splitB sep 0 (Go.Lib.countB s sep) s) else none
def sv (s sub:ByteArray):Option Int:=if s.size < 4294967281∧1≤sub.size then some (Go.Lib.countB s sub:Int) else none
def re (s sub:ByteArray):Option Int:=if s.size < 4611686018427387904 then some (Go.Lib.lastIndex s.data.toList sub.data.toList) else none
def uu (s:ByteArray):Option Int:=if s.size≤18 then Go.Lib.atoi s.data.toList else none
end Go.Proofs.YtjjjihkifgdhgaaGreatDoor
namespace Go.Proofs.YtjjjihkifgdhgaaGreatDoor
open Go.RowKit
theorem HJ {P:Program} {o:Oper} {a:Act} {w:World} {K:Act→World→Prop} {Q:jc} {n:Nat} (h:o.wp P a w K (lift n Q)):o.wpIn qj.F 0 P a w K (lift n Q):=by
 refine ⟨λ_ _=>trivial,?_⟩
 rw [show Oper.semAt qj.F.round a.eval o=execOp a.eval o from rfl]
 unfold Oper.wp at h
 cases i:(execOp a.eval o).run P w with
 | ok x g=>
  rw [i] at h
  cases x with
  | value v=>exact h
  | skip=>exact h
  | defer d=>exact h
  | enter f args=>exact vT (bk h λe j he=>by cases e with
   | returned v=>exact he
   | panicked c=>exact he
   | outgrown=>exact he)
  | row r args=>exact ⟨λe=>(nomatch (show (none:Option Nat).isSome=true from e)),λc cs _=>by
    obtain ⟨v,g,r,s⟩:=h c cs
    exact ⟨v,g,r,(stepsIn_wide (P:=P)).2 s⟩⟩
  | _=>exact h.elim
 | halt z g=>
  rw [i] at h
  cases z with
  | panic v=>exact h
  | _=>exact h.elim
def Dy (P:Program) (fn:Func) (R:Ending→World→Prop):jc
 | .normal,E,W | .ret,E,W=>∃v,(∀tmps:Array Value,(∀t,tmps.getD t undef=E t)→(results fn tmps).run P W= .ok v W)∧R (.returned v) W
 | .panic c,_,W=>R (.panicked c) W
 | _,_,_=>False
theorem lK {P:Program} {fn:Func} {R:Ending→World→Prop} {E:Nat→Value} {W:World} (h:nI P fn R .ret E W):Dy P fn R .ret E W:=h
theorem jQ {P:Program} {f:FuncId} {fn:Func} {c:Code} {args:List Value} {w:World} {R:Ending→World→Prop} {n:Nat} (q:P.funcs[f]? =some fn) (p:fn.body=some c) (s:fn.ntmps=n) (ha:args.length≤n) (h:CW P n c (Dy P fn R) (oC args) w):Calls P f args.toArray w R:=by
 refine calls_of_wp q p ?_
 have j:Ag n { tmps:=args.toArray++Array.replicate (fn.ntmps-args.toArray.size) undef,defers:=[] } (oC args):=by
  refine ⟨by simp; omega,rfl,λt=>?_⟩
  simp only [oC,bF,dO,dJ,dY,bV,dl]
  by_cases o:t < args.length
  ·rw [aJ o]
  ·rw [aK o,cJ (by omega)]
   split <;> simp
 refine fj ((fM (n:=0)).1 (h _ j)) (λe a u g=>?_)
 cases e with
 | normal=>
  obtain ⟨E,d,v,k,i⟩:=g
  exact ⟨d.2.1,v,k _ d.2.2,i⟩
 | ret=>
  obtain ⟨E,d,v,k,i⟩:=g
  exact ⟨d.2.1,v,k _ d.2.2,i⟩
 | exit id=>obtain ⟨E,d,h⟩:=g; exact h.elim
 | goto l=>obtain ⟨E,d,h⟩:=g; exact h.elim
 | panic c=>exact g
 | outgrown=>exact g.elim
def zZ (P:Program) (E:Nat→Value) (o:Oper) (W:World) (X:List PanicEntry→World→Prop):Prop :=
 (∃v W',(execOp (fT E) o).run P W= .halt (.panic v) W'∧X [{ v:=v,recovered:=false }] W')∨
 (∃f args,(execOp (fT E) o).run P W= .ok (.enter f args) W∧Calls P f args W λe a=>∃c,e= .panicked c∧X c a)
theorem zZ.wp {P:Program} {n:Nat} {E:Nat→Value} {o:Oper} {W:World} {X:List PanicEntry→World→Prop} (h:zZ P E o W X) {a:Act} (ha:Ag n a E) {K:Exit→Act→World→Prop} {J:Act→World→Prop} (hk:∀c w,X c w→K (.panic c) a w):o.wp P a W J K:=by
 unfold Oper.wp
 rw [ha.eval]
 rcases h with ⟨v,W',h1,d⟩ | ⟨f,args,h1,d⟩
 ·rw [h1]; exact hk _ _ d
 ·rw [h1,dp]
  refine bk d ?_
  rintro e i ⟨c,rfl,g⟩
  exact hk _ _ g
section
variable {P:Program} {n:Nat} {Q:jc} {E:Nat→Value} {W:World} {ops:Array Oper} {rest:List Oper} {S:Array Bool→World→Prop} {fuel:Nat} {listed:Array Bool}
theorem jP {o:Oper} (hw:jd n ops E o) (h:zZ P E o W λc w=>Q (.panic c) E0 w):LW P n ops Q (o::rest) E W:=λa ha=>by
 unfold wpListIn
 rw [aJ (hw.of ha)]
 exact HJ (h.wp ha (λc w d=>⟨ha.2.1,d⟩))
theorem Hx {o:Oper} (i:Nat) (hi:ops[i]? =some o) (d:Region.ready .any ops listed=[i]) (hw:jd n ops E o) (h:zZ P E o W λc w=>Q (.panic c) E0 w):PX P n ops Q S (fuel+1) listed E W:=λq a ha=>by
 refine ⟨λk=>(by rw [k] at d; cases d),λj g=>?_⟩
 rw [d] at g
 obtain rfl:=aM.1 g
 unfold wpOp
 simp only [hi]
 rw [aJ (hw.of ha)]
 refine .inl ?_
 exact h.wp ha (λc w p=>⟨ha.2.1,p⟩)
end
def gQ {R:Type} (dd:Bool) (w:World) (μ0:gm) (L0:List (Nat×Obj)) (s:Int ⊕ R) (K:R→Value→List (Nat×Obj)→gm→Prop) (X:Int→List PanicEntry→List (Nat×Obj)→gm→Prop):Ending→World→Prop:=λe a=>
 match s with
 | .inl x=>∃c L1 μ1,e= .panicked c∧ma dd L0 L1 w a∧gf μ0 μ1∧Lo (gL L0) w μ0 μ1∧gf μ1 (lf a L1)∧X x c L1 μ1
 | .inr r=>∃v L1 μ1,e= .returned v∧ma dd L0 L1 w a∧gf μ0 μ1∧Lo (gL L0) w μ0 μ1∧gf μ1 (lf a L1)∧K r v L1 μ1
def nj (dd:Bool) (P:Program) (f:FuncId) (args:List Value) (w:World) (μ0:gm) (L0:List (Nat×Obj)) (X:List PanicEntry→List (Nat×Obj)→gm→Prop):Prop :=
 Calls P f args.toArray w λe a=>∃c L1 μ1,e= .panicked c∧ma dd L0 L1 w a∧gf μ0 μ1∧Lo (gL L0) w μ0 μ1∧gf μ1 (lf a L1)∧X c L1 μ1
def gk {R:Type} (dd:Bool) (P:Program) (f:FuncId) (args:List Value) (w:World) (μ0:gm) (L0:List (Nat×Obj)) (s:Int ⊕ R) (K:R→Value→List (Nat×Obj)→gm→Prop) (X:Int→List PanicEntry→List (Nat×Obj)→gm→Prop):Prop :=
 Calls P f args.toArray w (gQ dd w μ0 L0 s K X)
theorem gk.r {R:Type} {dd:Bool} {P:Program} {f:FuncId} {args:List Value} {w:World} {μ0:gm} {L0:List (Nat×Obj)} {r:R} {K:R→Value→List (Nat×Obj)→gm→Prop} {X:Int→List PanicEntry→List (Nat×Obj)→gm→Prop} (h:gk dd P f args w μ0 L0 (.inr r) K X):iC dd P f args w μ0 L0 (K r):=h
theorem gk.l {R:Type} {dd:Bool} {P:Program} {f:FuncId} {args:List Value} {w:World} {μ0:gm} {L0:List (Nat×Obj)} {x:Int} {K:R→Value→List (Nat×Obj)→gm→Prop} {X:Int→List PanicEntry→List (Nat×Obj)→gm→Prop} (h:gk dd P f args w μ0 L0 (.inl x:Int ⊕ R) K X):nj dd P f args w μ0 L0 (X x):=h
theorem ib {K:(Nat→Value)→World→Prop} {Q:jc} {c:List PanicEntry} {E:Nat→Value} {W:World} (h:Q (.panic c) E W):kc K Q (.panic c) E W:=h
theorem lD {id:Nat} {Q:jc} {c:List PanicEntry} {E:Nat→Value} {W:World} (h:Q (.panic c) E W):ov id Q (.panic c) E W:=h
theorem iU {P:Program} {fn:Func} {R:Ending→World→Prop} {c:List PanicEntry} {E:Nat→Value} {W:World} (h:R (.panicked c) W):Dy P fn R (.panic c) E W:=h
section
variable {P:Program} {W:World} {E:Nat→Value} {d:Option Nat} {ty:TypeId} {pos:String} {af:Array Edge} {g:Option (Nat×Bool)} {F:Nat→Prop} {w:World} {μ:gm} {L:List (Nat×Obj)} {dd:Bool}
theorem iB {X:List PanicEntry→World→Prop} {X':List PanicEntry→List (Nat×Obj)→gm→Prop} {f:FuncId} {fv:Operand} {ax:Array Operand} {ats:Array TypeId} {caps:Array Value} {args:List Value} (L0 L2:List (Nat×Obj)) (a:ST dd F w W μ L) (i:L.Perm (L0++L2)) (A:fT E fv= .func (.func f) #[] caps) (he:∀args w,(callFunc f args).run P w= .ok (.enter f args) w) (ha:ax.map (fT E)++(#[]:Array Value)=args.toArray) (z:um L0 W→(L0.map (·.1)).Nodup→gf μ (lf W L0)→(∀b o,(b,o)∈L2→lf W L0 b=some o)→nj dd P f (args++caps.toList) W μ L0 X') (h:∀W' c μ' L1,ST dd F w W' μ' (L1++L2)→gf μ μ'→Lo F w μ μ'→X' c L1 μ'→X c W'):zZ P E ⟨d,.call ⟨.value fv,ax,ats⟩,ty,pos,af,g⟩ W X:=by
 have j:ax.map (fT E)=args.toArray:=by simpa using ha
 refine .inr ⟨f,(args++caps.toList).toArray,yE A he (by rw [j]; simp),bk (z (a.held i) (a.Fz i) (a.Fm i) (a.yq i)) (λ_ W' ⟨v,L1,μ1,h1,n,p,k,s,u⟩=>⟨v,h1,h W' v μ1 L1 ((a.perm i).FN n k s) p (λb y x=>k b (cg y a.size) (λ⟨o,G⟩=>by
  rcases ((a.perm i).box b o (bw _ G)).2.2 with q | q
  ·omega
  ·exact x q)) u⟩)⟩
end
section
variable {P:Program} {W:World} {E:Nat→Value} {d:Option Nat} {ty:TypeId} {pos:String} {af:Array Edge} {g:Option (Nat×Bool)}
def nu (t:TypeId) (b:Nat) (x:Int):Value:=.iface t (.agg #[.pointer (some ⟨b,0,none⟩),.int .i64 x])
theorem GS {t:TypeId} {x:Operand} {v:Value} {u:TypeDesc} (a:P.underlying t=some u) (hu:∀q,u≠.interface q) (c:fT E x=v):gP P E ⟨d,.makeInterface t x,ty,pos,af,g⟩ W (.iface t v) W:=by
 show (do let r ←Instr.makeInterface t (fT E x); pure (.value r):Sem Next).run P W=_
 rw [c]
 unfold Instr.makeInterface
 simp only [bE,aN a,bn]
 cases u <;> simp_all
theorem Gj {X:List PanicEntry→World→Prop} {x:Operand} {t:TypeId} {v:Value} (a:fT E x= .iface t v) (h:X [{ v:=.iface t v,recovered:=false }] W):zZ P E ⟨d,.panic x,ty,pos,af,g⟩ W X:=by
 refine .inl ⟨.iface t v,W,?_,h⟩
 show (do let r ←Instr.panic (fT E x); pure (.value r):Sem Next).run P W=_
 rw [a]
 simp [Instr.panic]
end
theorem gQ.li {R:Type} {dd:Bool} {w:World} {μ0:gm} {L0:List (Nat×Obj)} {x:Int} {K:R→Value→List (Nat×Obj)→gm→Prop} {X:Int→List PanicEntry→List (Nat×Obj)→gm→Prop} {e:Ending} {a:World} (h:∃c L1 μ1,e= .panicked c∧ma dd L0 L1 w a∧gf μ0 μ1∧Lo (gL L0) w μ0 μ1∧gf μ1 (lf a L1)∧X x c L1 μ1):gQ dd w μ0 L0 (.inl x:Int ⊕ R) K X e a:=h
theorem gQ.ri {R:Type} {dd:Bool} {w:World} {μ0:gm} {L0:List (Nat×Obj)} {r:R} {K:R→Value→List (Nat×Obj)→gm→Prop} {X:Int→List PanicEntry→List (Nat×Obj)→gm→Prop} {e:Ending} {a:World} (h:∃v L1 μ1,e= .returned v∧ma dd L0 L1 w a∧gf μ0 μ1∧Lo (gL L0) w μ0 μ1∧gf μ1 (lf a L1)∧K r v L1 μ1):gQ dd w μ0 L0 (.inr r:Int ⊕ R) K X e a:=h
theorem wb {P:Program} {fn:Func} {R:Ending→World→Prop} {E:Nat→Value} {W:World} (h:nI P fn R .normal E W):Dy P fn R .normal E W:=h
theorem nj.gV {dd:Bool} {P:Program} {f:FuncId} {args:List Value} {w:World} {μ0:gm} {L0:List (Nat×Obj)} {X:List PanicEntry→List (Nat×Obj)→gm→Prop} (h:nj true P f args w μ0 L0 X):nj dd P f args w μ0 L0 X :=
 bk h λ_ _ ⟨v,L1,μ1,h1,a,c⟩=>⟨v,L1,μ1,h1,a.gV,c⟩
def sS (D:List Deferred) (n:Nat) (a:Act) (E:Nat→Value):Prop:=a.tmps.size=n∧a.defers=D∧∀t,a.tmps.getD t undef=E t
section
variable {D:List Deferred} {n:Nat} {a:Act} {E:Nat→Value}
theorem sS.eval (h:sS D n a E):a.eval=fT E:=by
 funext x
 cases x with
 | tmp t=>exact h.2.2 t
 | const v=>rfl
 | global g=>rfl
 | func f=>rfl
theorem sS.put (h:sS D n a E) {d:Nat} (i:d < n) (v:Value):sS D n (a.put (some d) v) (iL E d v):=by
 refine ⟨by simp [Act.put,h.1],h.2.1,λt=>?_⟩
 have g:=h.2.2 t
 simp only [Act.put,iL]
 by_cases c:t=d
 ·subst c
  simp [h.1,i]
 ·have:¬d=t:=λe=>c e.symm
  rw [aK c,←g]
  simp [bF,this]
theorem sS.np (h:sS D n a E) (v:Value):sS D n (a.put none v) E:=h
theorem sS.yield (h:sS D n a E) {ops:Array Oper} {j t:Nat} {b:Bool} (d:(ops[j]?).bind (·.dst)=some t) (i:t < n) (k:E t= .bool b):yielded ops a.tmps j=some b:=by
 have c:=h.2.2 t
 have g:a.tmps[t]? =some (E t):=by
  rw [←c]
  simp [bF,h.1,i]
 simp [yielded,d,g,k]
end
def Dw (D:List Deferred) (n:Nat) (Q:jc):Exit→Act→World→Prop
 | .panic c,a,w=>a.defers=D∧a.tmps.size=n∧Q (.panic c) (λt=>a.tmps.getD t undef) w
 | .outgrown,_,_=>False
 | e,a,w=>∃E,sS D n a E∧Q e E w
def uZ (D:List Deferred) (P:Program) (n:Nat) (c:Code) (Q:jc) (E:Nat→Value) (W:World):Prop:=∀a,sS D n a E→c.wp P (Dw D n Q) a W
def sn (D:List Deferred) (P:Program) (n:Nat) (ops:Array Oper) (Q:jc) (l:List Oper) (E:Nat→Value) (W:World):Prop:=∀a,sS D n a E→wpList P ops (Dw D n Q) l a W
section
variable {D:List Deferred} {P:Program} {n:Nat} {Q:jc} {E:Nat→Value} {W:World} {c x y:Code} {ops:Array Oper} {rest:List Oper} {o:Oper}
theorem rW (h:uZ D P n x (kc (λE W=>uZ D P n y Q E W) Q) E W):uZ D P n (.seq x y) Q E W:=λa ha=>
 wp_seq (fj (h a ha) (λe d i h=>by
  cases e with
  | normal=>obtain ⟨E',c,g⟩:=h; exact g d c
  | _=>exact h))
theorem EV (h:Q .normal E W):uZ D P n .skip Q E W:=λ_ ha=>wp_skip ⟨E,ha,h⟩
theorem B2 (h:Q .ret E W):uZ D P n .ret Q E W:=λ_ ha=>wp_ret ⟨E,ha,h⟩
theorem EJ {co:Operand} {b:Bool} (c:fT E co= .bool b) (g:b=true→uZ D P n x Q E W) (d:b=false→uZ D P n y Q E W):uZ D P n (.cond co x y) Q E W:=λa ha=>by
 refine wp_cond_split (t:=b) (by rw [ha.eval]; exact c) (λh=>g h a ha) (λh=>d h a ha)
theorem Bd {co:Operand} (a:fT E co= .bool true) (h:uZ D P n x Q E W):uZ D P n (.cond co x y) Q E W:=EJ a (λ_=>h) (λh=>by cases h)
theorem qG {id:Nat} {l:List Oper} (h:sn D P n l.toArray Q l E W):uZ D P n (.region id l.toArray false) Q E W:=λa ha=>wp_region_lit (h a ha)
theorem tK (h:Q .normal E W):sn D P n ops Q [] E W:=λ_ ha=>wpList_nil ⟨E,ha,h⟩
theorem jd.zV {a:Act} (h:jd n ops E o) (ha:sS D n a E):Region.wanted o (yielded ops a.tmps)=true:=by
 rcases h with h | ⟨j,want,t,d,g,i,c⟩
 ·simp [Region.wanted,h]
 ·simp [Region.wanted,d,ha.yield g i c]
theorem BN {d:Nat} {v:Value} {W':World} (hw:jd n ops E o) (c:o.dst=some d) (g:d < n) (i:(execOp (fT E) o).run P W= .ok (.value v) W') (h:sn D P n ops Q rest (iL E d v) W'):sn D P n ops Q (o::rest) E W:=λa ha=>by
 unfold wpList
 rw [aJ (hw.zV ha)]
 refine .inl ?_
 unfold Oper.wp
 rw [ha.eval,i,dn,c]
 exact h _ (ha.put g v)
theorem Ek {W':World} (hw:jd n ops E o) (c:o.dst=none) (d:(execOp (fT E) o).run P W= .ok .skip W') (h:sn D P n ops Q rest E W'):sn D P n ops Q (o::rest) E W:=λa ha=>by
 unfold wpList
 rw [aJ (hw.zV ha)]
 refine .inl ?_
 unfold Oper.wp
 rw [ha.eval,d,eg,c]
 exact h _ (ha.np _)
theorem El {f:FuncId} {args:Array Value} {d:Nat} (hw:jd n ops E o) (g:o.dst=some d) (j:d < n) (k:(execOp (fT E) o).run P W= .ok (.enter f args) W) (h:Calls P f args W λe c=>∃v,e= .returned v∧sn D P n ops Q rest (iL E d v) c):sn D P n ops Q (o::rest) E W:=λa ha=>by
 unfold wpList
 rw [aJ (hw.zV ha)]
 refine .inl ?_
 unfold Oper.wp
 rw [ha.eval,k,dp]
 refine h.mono ?_
 rintro e c ⟨v,rfl,i⟩
 simp only [g]
 exact i _ (ha.put j v)
theorem IB {o:Oper} {dd:Nat} (hw:jd n ops E o) (d:o.dst=some dd) (g:dd < n) (h:jt P E o W λv W'=>sn D P n ops Q rest (iL E dd v) W'):sn D P n ops Q (o::rest) E W:=by
 rcases h with ⟨v,W',h1,c⟩ | ⟨W',h1,c⟩ | ⟨f,args,h1,c⟩
 ·exact BN hw d g h1 c
 ·intro a ha
  unfold wpList
  rw [aJ (hw.zV ha)]
  refine .inl ?_
  unfold Oper.wp
  rw [ha.eval,h1,eg,d]
  exact c _ (ha.put g _)
 ·exact El hw d g h1 c
theorem Ei {o:Oper} (hw:jd n ops E o) (d:o.dst=none) (h:jt P E o W λ_ W'=>sn D P n ops Q rest E W'):sn D P n ops Q (o::rest) E W:=by
 rcases h with ⟨v,W',h1,c⟩ | ⟨W',h1,c⟩ | ⟨f,args,h1,c⟩
 ·intro a ha
  unfold wpList
  rw [aJ (hw.zV ha)]
  refine .inl ?_
  unfold Oper.wp
  rw [ha.eval,h1,dn,d]
  exact c _ (ha.np _)
 ·exact Ek hw d h1 c
 ·intro a ha
  unfold wpList
  rw [aJ (hw.zV ha)]
  refine .inl ?_
  unfold Oper.wp
  rw [ha.eval,h1,dp]
  refine bk c ?_
  rintro e i ⟨v,rfl,g⟩
  simp only [d]
  exact g _ (ha.np _)
theorem qZ {dd:Nat} {v:Value} (hw:jd n ops E o) (a:o.dst=some dd) (c:dd < n) (d:gP P E o W v W) (h:sn D P n ops Q rest (iL E dd v) W):sn D P n ops Q (o::rest) E W:=BN hw a c d h
theorem Im (hw:jd n ops E o) (h:zZ P E o W λc w=>∀E',(∀t,E' t=E t)→Q (.panic c) E' w):sn D P n ops Q (o::rest) E W:=λa ha=>by
 unfold wpList
 rw [aJ (hw.zV ha)]
 refine .inl ?_
 unfold Oper.wp
 rw [ha.eval]
 rcases h with ⟨v,W',h1,d⟩ | ⟨f,args,h1,d⟩
 ·rw [h1]; exact ⟨ha.2.1,ha.1,d _ ha.2.2⟩
 ·rw [h1,dp]
  refine bk d ?_
  rintro e i ⟨c,rfl,g⟩
  exact ⟨ha.2.1,ha.1,g _ ha.2.2⟩
end
section
variable {P:Program} {n:Nat} {E:Nat→Value} {W:World} {c y:Code} {a:Act} {cs:List Frame} {Q:Exit→Act→List Frame→World→Prop}
theorem HU (h:CW P n c (λe E W=>e= .normal∧∀a,Ag n a E→y.wpS P Q a cs W) E W) (ha:Ag n a E):(Code.seq c y).wpS P Q a cs W :=
 wpS_seq (wpS_of_wp (fj ((fM (n:=0)).1 (h a ha)) (λe g j h=>by
  cases e with
  | normal=>obtain ⟨E',d,_,i⟩:=h; exact i g d
  | panic c=>exact absurd h.2.1 (by simp)
  | outgrown=>exact h.elim
  | _=>obtain ⟨E',d,h1,_⟩:=h; cases h1)))
theorem Cd {fn:Func} {g:Frame} {j:List Frame} {R:Ending→FrameMode→World→Prop} {u:FrameMode} (k:fn.results=#[]) (h:CW P n c (λe E W=>(e= .normal∨e= .ret)∧R (.returned (.tuple #[])) u W) E W) (ha:Ag n a E):c.wpS P (bodyPostS P fn g j R) a ({ g with mode:=u }::j) W :=
 wpS_of_wp (fj ((fM (n:=0)).1 (h a ha)) (λe o p h=>by
  cases e with
  | normal=>obtain ⟨E',d,_,i⟩:=h; exact ⟨d.2.1,u,rfl,.tuple #[],results_none k _ _ _,i⟩
  | ret=>obtain ⟨E',d,_,i⟩:=h; exact ⟨d.2.1,u,rfl,.tuple #[],results_none k _ _ _,i⟩
  | panic c=>rcases h.2.1 with h | h <;> cases h
  | outgrown=>exact h.elim
  | _=>obtain ⟨E',d,h1,_⟩:=h; rcases h1 with h | h <;> cases h))
theorem wk {id d d2:Nat} {c g:Oper} {cs':List Frame} {v:Value} (p:d < n) (o:d2 < n) (h1:c.guard=none) (q:g.guard=none) (j:c.dst=some d) (k:g.dst=some d2) (u:∀a:Act,(execOp a.eval c).run P W= .ok .recover W) (hm:∀E:Nat→Value,E d=v→gP P E g W v W) (i:recoverD cs=some (v,cs')∨recoverD cs=none∧v= .nilIface∧cs'=cs) (ha:Ag n a E) (h:∀a,Ag n a (iL (iL E d v) d2 v)→Q .normal a cs' W):(Code.region id #[c,g] false).wpS P Q a cs W:=by
 refine wpS_region ?_
 have s:List.range (#[c,g]:Array Oper).size=[0,1]:=rfl
 rw [s]
 have key:∀a:Act,Ag n a (iL E d v)→wpOpsS P #[c,g] Q [1] a cs' W:=λa ha=>by
  unfold wpOpsS
  simp only [show (#[c,g]:Array Oper)[1]? =some g from rfl]
  rw [aJ (by simp [Region.wanted,q])]
  have:=hm (iL E d v) (by simp [iL])
  unfold gP at this
  rw [ha.eval,this]
  simp only [dn,k]
  unfold wpOpsS
  exact h _ (ha.put o v)
 unfold wpOpsS
 simp only [show (#[c,g]:Array Oper)[0]? =some c from rfl]
 rw [aJ (by simp [Region.wanted,h1]),u]
 simp only
 rcases i with i | ⟨i,rfl,rfl⟩
 ·rw [i]
  simp only [j]
  exact key _ (ha.put p v)
 ·rw [i]
  simp only [j]
  exact key _ (ha.put p _)
theorem Bc {args:List Value} {fn:Func} {n:Nat} (c:fn.ntmps=n) (h:args.length≤n):Ag n { tmps:=args.toArray++Array.replicate (fn.ntmps-args.toArray.size) undef,defers:=[] } (oC args):=by
 refine ⟨by simp; omega,rfl,λt=>?_⟩
 simp only [oC,bF,dO,dJ,dY,bV,dl]
 by_cases a:t < args.length
 ·rw [aJ a]
 ·rw [aK a,cJ (by omega)]
  split <;> simp
end
section
variable {P:Program} {E:Nat→Value} {W:World} {d:Option Nat} {x y:Operand} {tx tv ty:TypeId} {pos:String} {af:Array Edge} {g:Option (Nat×Bool)} {ms:List (String×TypeId)}
theorem ya {t tx:TypeId} {q} {v:Value} (dd:Nat) (a:P.underlying tx=some (.interface q)) (W:World):(Op.equalIn (dd+1) tx (.iface t v) .nilIface).run P W= .ok false W:=by
 simp [Op.equalIn,aN a]
theorem xJ {tx:TypeId} {q} (dd:Nat) (a:P.underlying tx=some (.interface q)) (W:World):(Op.equalIn (dd+1) tx .nilIface .nilIface).run P W= .ok true W:=by
 simp [Op.equalIn,aN a]
theorem xb {tx e:TypeId} {k:Nat} {p:Addr} (dd:Nat) (c:P.underlying tx=some (.pointer e)) (a:∀w,(sizeOf e).run P w= .ok (k+1) w) (W:World):(Op.equalIn (dd+1) tx (.pointer (some p)) (.pointer (some p))).run P W= .ok true W:=by
 simp [Op.equalIn,aN c,a W,run_sameAddr_same]
theorem G0 {q} {t:TypeId} {v:Value} (c:P.underlying tx=some (.interface q)) (h:fT E x= .iface t v) (i:fT E y= .nilIface):gP P E ⟨d,.binOp .eql tx x y tv,ty,pos,af,g⟩ W (.bool false) W:=by
 show (do let r ←(do eqGuard .eql tx x y (fT E x) (fT E y); binOp .eql tx (fT E x) (fT E y)); pure (.value r):Sem Next).run P W=_
 rw [h,i]
 have a:=ya (t:=t) (v:=v) 9999 c W
 simp [eqGuard,binOp,Op.equal,Op.maxDepth,a]
theorem Gt {q} {v:Value} (c:P.underlying tx=some (.interface q)) (h:fT E x= .nilIface) (i:fT E (.const v)= .nilIface):gP P E ⟨d,.binOp .eql tx x (.const v) tv,ty,pos,af,g⟩ W (.bool true) W:=by
 show (do let r ←(do eqGuard .eql tx x (.const v) (fT E x) (fT E (.const v)); binOp .eql tx (fT E x) (fT E (.const v))); pure (.value r):Sem Next).run P W=_
 rw [h,i]
 have a:=xJ 9999 c W
 simp [eqGuard,binOp,Op.equal,Op.maxDepth,a]
theorem wy {e:TypeId} {k:Nat} {p:Addr} (h:P.underlying tx=some (.pointer e)) (c:∀w,(sizeOf e).run P w= .ok (k+1) w) (i:fT E x= .pointer (some p)) (j:fT E y= .pointer (some p)):gP P E ⟨d,.binOp .neq tx x y tv,ty,pos,af,g⟩ W (.bool false) W:=by
 show (do let r ←(do eqGuard .neq tx x y (fT E x) (fT E y); binOp .neq tx (fT E x) (fT E y)); pure (.value r):Sem Next).run P W=_
 rw [i,j]
 have a:=xb (p:=p) 9999 h c W
 simp [eqGuard,binOp,Op.equal,Op.maxDepth,a]
theorem Dn {t:TypeId} {v:Value} {u:TypeDesc} (a:P.underlying t=some u) (hu:∀q,u≠.interface q) (c:fT E x= .iface t v):gP P E ⟨d,.typeAssert x tx t true,ty,pos,af,g⟩ W (.tuple #[v,.bool true]) W:=by
 show (do let r ←Instr.typeAssert (fT E x) tx t true; pure (.value r):Sem Next).run P W=_
 rw [c]
 unfold Instr.typeAssert
 simp only [bE,aN a,bn]
 cases u <;> simp_all
end
def FO (n:Nat) (Q:List Deferred→jc) (e:Exit) (a:Act) (w:World):Prop:=∃D,Dw D n (Q D) e a w
def Co (P:Program) (n:Nat) (c:Code) (Q:List Deferred→jc) (E:Nat→Value) (W:World):Prop:=∀a,Ag n a E→c.wp P (FO n Q) a W
def FZ (P:Program) (n:Nat) (ops:Array Oper) (Q:List Deferred→jc) (l:List Oper) (E:Nat→Value) (W:World):Prop:=∀a,Ag n a E→wpList P ops (FO n Q) l a W
def H6 (P:Program) (fn:Func) (R:Ending→World→Prop) (D:List Deferred):jc
 | .normal,E,W | .ret,E,W=>∀tmps:Array Value,(∀t,tmps.getD t undef=E t)→Leaves P fn tmps R D .returning W
 | .panic c,E,W=>∀tmps:Array Value,(∀t,tmps.getD t undef=E t)→Leaves P fn tmps R D (.panicking c) W
 | _,_,_=>False
section
variable {P:Program} {n:Nat} {Q:List Deferred→jc} {E:Nat→Value} {W:World} {c x y:Code} {ops:Array Oper} {rest:List Oper} {o:Oper}
theorem Cm (h:CW P n x (λe E W=>e= .normal∧Co P n y Q E W) E W):Co P n (.seq x y) Q E W:=λa ha=>
 wp_seq (fj ((fM (n:=0)).1 (h a ha)) (λe g j h=>by
  cases e with
  | normal=>obtain ⟨E',d,_,i⟩:=h; exact i g d
  | panic c=>exact absurd h.2.1 (by simp)
  | outgrown=>exact h.elim
  | _=>obtain ⟨E',d,h1,_⟩:=h; cases h1))
theorem HI (h:Co P n x (λD=>kc (λE W=>uZ D P n y (Q D) E W) (Q D)) E W):Co P n (.seq x y) Q E W:=λa ha=>
 wp_seq (fj (h a ha) (λe d i ⟨D,h⟩=>by
  cases e with
  | normal=>obtain ⟨E',c,g⟩:=h; exact fj (g d c) (λe a w h=>⟨D,h⟩)
  | _=>exact ⟨D,h⟩))
theorem DA {id:Nat} {l:List Oper} (h:FZ P n l.toArray Q l E W):Co P n (.region id l.toArray false) Q E W:=λa ha=>wp_region_lit (h a ha)
theorem Ip {dd:Nat} {v:Value} (hw:jd n ops E o) (d:o.dst=some dd) (g:dd < n) (c:gP P E o W v W) (h:FZ P n ops Q rest (iL E dd v) W):FZ P n ops Q (o::rest) E W:=λa ha=>by
 unfold wpList
 rw [aJ (hw.of ha)]
 refine .inl ?_
 unfold Oper.wp
 unfold gP at c
 rw [ha.eval,c,dn,d]
 exact h _ (ha.put g v)
theorem DV {d:Deferred} (hw:jd n ops E o) (c:o.dst=none) (g:(execOp (fT E) o).run P W= .ok (.defer d) W) (h:Q [d] .normal E W):FZ P n ops Q [o] E W:=λa ha=>by
 unfold wpList
 rw [aJ (hw.of ha)]
 refine .inl ?_
 unfold Oper.wp
 rw [ha.eval,g,Oper.upon_defer,c]
 exact wpList_nil ⟨[d],E,⟨ha.1,by simp [Act.put,show a.defers=[] from ha.2.1],ha.2.2⟩,h⟩
theorem AQ {f:FuncId} {fn:Func} {c:Code} {args:List Value} {w:World} {R:Ending→World→Prop} (j:P.funcs[f]? =some fn) (i:fn.body=some c) (k:fn.ntmps=n) (ha:args.length≤n) (h:Co P n c (λD=>H6 P fn R D) (oC args) w):Calls P f args.toArray w R:=by
 refine calls_of_wp_defers j i (fj (h _ (Bc k ha)) (λe a o ⟨D,g⟩=>?_))
 cases e with
 | normal=>obtain ⟨E,d,h⟩:=g; show Leaves _ _ _ _ a.defers _ _; rw [d.2.1]; exact h _ d.2.2
 | ret=>obtain ⟨E,d,h⟩:=g; show Leaves _ _ _ _ a.defers _ _; rw [d.2.1]; exact h _ d.2.2
 | exit id=>obtain ⟨E,d,h⟩:=g; exact h.elim
 | goto l=>obtain ⟨E,d,h⟩:=g; exact h.elim
 | panic c=>show Leaves _ _ _ _ a.defers _ _; rw [g.1]; exact g.2.2 _ (λ_=>rfl)
 | outgrown=>exact g.elim
theorem EG {d:Option Nat} {ty:TypeId} {pos:String} {af:Array Edge} {g:Option (Nat×Bool)} {f:FuncId} {fv:Operand} {ax:Array Operand} {ats:Array TypeId} {caps:Array Value} {args:List Value} (c:fT E fv= .func (.func f) #[] caps) (ha:ax.map (fT E)++(#[]:Array Value)=args.toArray):(execOp (fT E) ⟨d,.defer ⟨.value fv,ax,ats⟩,ty,pos,af,g⟩).run P W= .ok (.defer ⟨.fn (.func f) caps,args.toArray⟩) W:=by
 show (do pure (.defer (←resolve (fT E) ⟨.value fv,ax,ats⟩ ty)):Sem Next).run P W=_
 have a:ax.map (fT E)=args.toArray:=by simpa using ha
 simp [resolve,Deferred.ofValue,c,a]
theorem Aw {fn:Func} {R:Ending→World→Prop} {k:FuncId} {ax:Array Value} {u:FrameMode} {X:World→Prop} (hu:u≠.run) (he:∀args w,(callFunc k args).run P w= .ok (.enter k args) w) (c:CallsD P k ax u W λe a W'=>e= .returned (.tuple #[])∧settle a= .returning∧X W') (h:∀W',X W'→nI P fn R .ret E W') (tmps:Array Value) (i:∀t,tmps.getD t undef=E t):Leaves P fn tmps R [⟨.fn (.func k) #[],ax⟩] u W :=
 leaves_cons hu (by simp [invoke,he]) (CallsD.mono c (by
  rintro e a W' ⟨rfl,g,n⟩
  obtain ⟨v,j,d⟩:=h W' n
  show Leaves _ _ _ _ [] (settle a) _
  rw [g]
  exact ⟨v,j _ i,d⟩))
end
def F7 (dd:Bool) (w:World) (μ0:gm) (L0:List (Nat×Obj)) (K:Value→List (Nat×Obj)→gm→Prop):Ending→World→Prop:=λe a=>∃v L1 μ1,e= .returned v∧ma dd L0 L1 w a∧gf μ0 μ1∧Lo (gL L0) w μ0 μ1∧gf μ1 (lf a L1)∧K v L1 μ1
theorem DL {dd:Bool} {P:Program} {f:FuncId} {args:List Value} {w:World} {μ0:gm} {L0:List (Nat×Obj)} {K:Value→List (Nat×Obj)→gm→Prop} (h:Calls P f args.toArray w (F7 dd w μ0 L0 K)):iC dd P f args w μ0 L0 K:=h
theorem iC.mono {dd:Bool} {P:Program} {f:FuncId} {args:List Value} {w:World} {μ0:gm} {L0:List (Nat×Obj)} {K K':Value→List (Nat×Obj)→gm→Prop} (h:iC dd P f args w μ0 L0 K) (hk:∀v L1 μ1,gf μ0 μ1→K v L1 μ1→K' v L1 μ1):iC dd P f args w μ0 L0 K' :=
 bk h λ_ _ ⟨v,L1,μ1,h1,c,a,d,g,i⟩=>⟨v,L1,μ1,h1,c,a,d,g,hk _ _ _ a i⟩
theorem gk.mono {R:Type} {dd:Bool} {P:Program} {f:FuncId} {args:List Value} {w:World} {μ0:gm} {L0:List (Nat×Obj)} {s:Int ⊕ R} {K K':R→Value→List (Nat×Obj)→gm→Prop} {X X':Int→List PanicEntry→List (Nat×Obj)→gm→Prop} (h:gk dd P f args w μ0 L0 s K X) (hk:∀r v L1 μ1,K r v L1 μ1→K' r v L1 μ1) (k:∀x c L1 μ1,X x c L1 μ1→X' x c L1 μ1):gk dd P f args w μ0 L0 s K' X' :=
 bk h λe n h=>by
  cases s with
  | inl x=>obtain ⟨v,L1,μ1,h1,a,d,g,i,j⟩:=h; exact ⟨v,L1,μ1,h1,a,d,g,i,k _ _ _ _ j⟩
  | inr r=>obtain ⟨v,L1,μ1,h1,a,d,g,i,j⟩:=h; exact ⟨v,L1,μ1,h1,a,d,g,i,hk _ _ _ _ j⟩
def FQ {S:Type} (K:S→List (Nat×Obj)→gm→Prop) (X:Int→List (Nat×Obj)→gm→Prop):Int ⊕ S→List (Nat×Obj)→gm→Prop
 | .inl x=>X x
 | .inr r=>K r
section
variable {dd:Bool} {F:Nat→Prop} {w W:World} {μ:gm} {L:List (Nat×Obj)} {l:Nat}
theorem rO {w:World} {b:Nat} {o:Obj} (h:b≠l):(w.putObj l o).heap[b]? =w.heap[b]?:=World.putObj_heap_other h
theorem ST.frame (h:ST dd F w W μ L) (o:Obj) (j:l < w.heap.size) (i:¬F l) (hm:μ l=none):ST dd F (w.putObj l o) (W.putObj l o) μ L:=by
 refine ⟨h.os,h.tape,h.output,h.drawn,by simpa using h.size,λb c k=>?_,λb x c=>?_,λb x c=>?_,h.nd⟩
 ·by_cases a:b=l
  ·subst a
   rw [World.putObj_heap_same (by have:=h.size; omega),World.putObj_heap_same j]
  ·rw [rO a,rO a]
   exact h.ki b (by simpa using c) k
 ·have a:b≠l:=λe=>by rw [e,hm] at c; cases c
  rw [rO a]; exact h.mem b x c
 ·obtain ⟨h1,g,d⟩:=h.box b x c
  have a:b≠l:=λe=>by
   subst e
   rcases d with d | d
   ·omega
   ·exact i d
  rw [rO a]
  exact ⟨h1,g,by simpa using d⟩
end
end Go.Proofs.YtjjjihkifgdhgaaGreatDoor
