/- a part of a proof of AuditTells -/
import Derived.WalkKit
import Derived.WalkLawsBesides
import Derived.TacticsIn
import Derived.OrdersIn
import Derived.ControlIn
import Derived.Maps.AppendAt
import Derived.OrdersHeld
import Derived.Laws.IdiomStrings
import Derived.Maps.RangeRun
import Derived.Lib.BytesEntry
import Derived.Lib.Bytealg
import Derived.Laws.Externs
import Derived.ChangeKeysEq
import Derived.Deep.AppendSrc
import Derived.Laws.MakeOwn
set_option linter.all false
namespace Go.Proofs.YtlfibegniofmjaaGreat
theorem Z {α:Sort _} {a:α}:a=a:=rfl
theorem eR {p:Prop} (h:p:=by omega):p:=h
theorem fb {p:Prop} (h:p:=by simp):p:=h
theorem fo {p:Prop} (h:p:=by simp; omega):p:=h
theorem fs {p:Prop} (h:p:=by decide):p:=h
open Go.RowKit
def aA:=@Option.bind_some
def aB:=@Bool.false_eq_true
def aF:=@List.length_append
def aG:=@Int.natCast_nonneg
def aH:=@if_false
def aJ:=@if_true
def aM:=@List.length_cons
def aN:=@if_neg
def aO:=@beq_self_eq_true
def aP:=@if_pos
def aQ:=@List.append_assoc
def aS:=@List.mem_cons
def aW:=@Nat.exists_eq_succ_of_ne_zero
def aX:=@List.mem_append
def aY:=@List.mem_singleton
def aZ:=@Nat.le_refl
def bA:=@run_underlying
def bB:=@Nat.lt_succ_self
def bF:=@List.eq_nil_of_length_eq_zero
def bI:=@congrArg
def bJ:=@List.Perm.refl
def bL:=@Bool.and_eq_true
def bN:=@List.nil_append
def bP:=@List.append_nil
def bQ:=@Result.andThen_ok
def bR:=@Bool.not_true
def bT:=@List.getElem?_eq_some_iff
def bW:=@List.mem_map
def bX:=@List.flatten_cons
def bY:=@List.map_cons
def bZ:=@List.length_nil
def cA:=@List.cons.injEq
def cC:=@Bool.eq_iff_iff
def cD:=@decide_true
def cE:=@decide_false
def cH:=@List.cons_append
def cK:=@Sem.run_bind
def cL:=@List.nodup_append
def cN:=@List.mem_append_left
def cP:=@decide_eq_true_eq
def cQ:=@List.Perm.append_left
def cV:=@List.map_append
def cW:=@List.pairwise_cons
def cX:=@Bool.not_false
def cZ:=@Calls.mono
def dn:=@Nat.add_mul
def dp:=@Nat.mul_le_mul_right
def dt:=@List.eq_nil_or_concat
def du:=@List.not_mem_nil
def dv:=@List.filter_cons
def dw:=@List.length_map
def dx:=@List.flatten_append
def dz:=@List.pairwise_append
def dA:=@List.length_take
def dB:=@Array.getD_eq_getD_getElem?
def dC:=@Sem.run_pure
def dD:=@List.getElem?_eq_getElem
def dE:=@List.mem_of_getElem?
def dG:=@Bool.eq_false_or_eq_true
def dI:=@List.mem_append_right
def dL:=@List.flatten_nil
def dM:=@List.take_of_length_le
def dP:=@Array.getElem?_modify
def dQ:=@Array.getElem?_toList
def dR:=@List.concat_eq_append
def dS:=@Array.length_toList
def dV:=@List.mem_filter
def dW:=@Array.getElem?_eq_some_iff
def dX:=@List.length_eq_zero_iff
def dY:=@List.size_toArray
def dZ:=@Int.toNat_natCast
def ee:=@Nat.le_trans
def ej:=@Nat.min_eq_left
def ek:=@Addr.add_lit
def eo:=@of_decide_eq_true
def eu:=@Nat.lt_of_lt_of_le
def ev:=@List.getElem?_drop
def ew:=@List.mem_cons_of_mem
def ey:=@List.nodup_cons
def eA:=@DataW.trod_struct
def eB:=@List.perm_append_comm
def eC:=@List.getElem?_take_of_lt
def eG:=@Nat.zero_le
def eJ:=@List.any_eq_true
def eK:=@List.findIdx?_eq_some_iff_getElem
def eL:=@Nat.add_assoc
def eP:=@Bool.true_and
def eT:=@and_true
def eU:=@Option.map_some
def eV:=@List.getElem?_eq_none
def eW:=@Nat.eq_zero_or_pos
def eX:=@List.length_zipIdx
def eY:=@List.map_map
def eZ:=@List.ext_getElem?
def fa:=@Nat.zero_add
def fp:=@List.all_cons
def fq:=@List.all_eq_true
def ft:=@List.getElem?_append_right
def fu:=@List.getElem?_take
def fw:=@List.findIdx?_cons
def fx:=@or_false
def fz:=@List.getElem?_toArray
def fA:=@List.foldl_cons
def fB:=@List.find?_cons
def fC:=@Oper.upon_value
def fD:=@Oper.upon_enter
def fE:=@List.getElem?_set
def fF:=@List.getElem?_map
def fJ:=@List.sum_cons
def fK:=@ByteArray.toList_eq
def fL:=@List.perm_middle
def fM:=@List.length_drop
def fN:=@List.take_append
def fQ:=@Bool.not_eq_true
def fV:=@List.filter_append
def fW:=@decide_eq_true_iff
def fX:=@Bool.or_eq_true
def gd:=@List.any_cons
def gf:=@IntWalk.u8_in
def gh:=@Array.getElem?_append
def gi:=@List.take_append_drop
def gj:=@List.length_filter_le
def gk:=@Function.comp_def
def gl:=@List.pairwise_map
def gm:=@List.perm_append_comm_assoc
def gn:=@Bool.not_eq_true'
def gp:=@List.getElem?_append
def gq:=@List.getD_eq_getElem?_getD
def gr:=@List.perm_append_singleton
def gu:=@eq_iff_iff
def gv:=@Int.fdiv_eq_ediv_of_nonneg
def gw:=@Bool.false_and
def gx:=@Int.tmod_eq_emod_of_nonneg
def gy:=@decide_eq_true
def gz:=@List.append_cancel_left_eq
def gA:=@List.map_nil
def gE:=@Bool.not_not
def gF:=@List.getElem?_append_left
def gG:=@List.findIdx?_eq_none_iff
def gH:=@Classical.byContradiction
def gI:=@List.filter_eq_self
def gJ:=@List.flatMap_append
def gK:=@Array.getElem?_replicate
def gP:=@beq_iff_eq
def gS:=@List.find?_eq_none
def gT:=@cell_of_row
def gU:=@List.getElem?_cons_zero
def gV:=@List.pairwise_mergeSort
def gW:=@List.pairwise_singleton
def gX:=@List.take_take
def gY:=@List.findIdx?_map
def gZ:=@Nat.add_zero
def ib:=@Option.some.injEq
def ic:=@List.Perm.append_right
def ie:=@Oper.upon_skip
def iw:=@Bool.and_assoc
def iy:=@List.flatMap_cons
def iz:=@List.singleton_append
def iA:=@Nat.div_lt_iff_lt_mul
def iB:=@Option.getD_some
def iD:=@Int.mul_le_mul_of_nonneg_right
def iF:=@List.findIdx?_append
def iH:=@List.forall_mem_cons
def iL:=@List.mem_of_mem_drop
def iM:=@Nat.pow_le_pow_right
def iN:=@Nat.div_lt_of_lt_mul
def iO:=@List.length_set
def iR:=@List.Perm.nodup_iff
def iS:=@run_callFunc_extern
def iT:=@List.map_congr_left
def iU:=@List.mergeSort_perm
def iV:=@List.take_length_add_append
def ja:=@run_loadCells_list
def jb:=@List.drop_take
def jc:=@Option.isNone_none
def jd:=@List.map_mergeSort
def jr:=@run_equalIn_struct
def jt:=@UInt8.toNat_lt
def ju:=@UInt8.toNat_ofNat'
def jv:=@Nat.mul_le_mul
def jw:=@Nat.le_succ
def jx:=@run_storeCells_at
def jy:=@wp_mono
def jz:=@Int.le_refl
def jN:=@UInt8.ofNat_toNat
def jO:=@List.getLast?_nil
def jP:=@List.find?_append
def jR:=@ByteArray.ext
def jW:=@Bool.and_self
def jX:=@List.mem_flatten
def jY:=@List.zipIdx_cons
def kd:=@List.mem_flatMap
def ke:=@callsIn_wide
def kf:=@Nat.add_comm
def kh:=@Nat.mul_comm
def kq:=@Int.le_of_lt
def kw:=@IntKind.wrap_u8
def kx:=@Nat.one_mul
def ky:=@getD_set_ne
def kC:=@wpIn_mono
def kD:=@wpIn_wide
def kE:=@mem_ready
abbrev LO:=List (Nat×Obj)
abbrev mD:=Nat→Value
abbrev tC:=Option (Nat×Bool)
class Md where
 ro:Option Nat
 D:List Deferred
instance DG:Md:=⟨none,[]⟩
theorem Eu {ro:Option Nat} {P:Program} {ρ:Operand→Value} {o:Oper} {W W':World} {x:Next} (h:(execOp ρ o).run P W= .ok x W') (i:∀d,x≠.defer d):(Oper.semAt ro ρ o).run P W= .ok x W':=by
 cases ro with
 | none=>exact h
 | some l=>
  rw [Oper.semAt_eq]
  ·exact h
  ·intro c g
   have e:(execOp ρ o)=(resolve ρ c o.type >>= λd=>pure (Next.defer d)):=by
    unfold execOp; rw [g]
   rw [e,cK] at h
   cases a:(resolve ρ c o.type).run P W with
   | ok d w=>rw [a,bQ] at h; cases h; exact i d Z
   | halt z w=>rw [a] at h; cases h
def Md.F (M:Md):Fence:={ Fence.wide with round:=M.ro }
theorem VI {M:Md} {n:Nat} {P:Program} {f:FuncId} {args:Array Value} {w:World} {R:Ending→World→Prop}:CallsIn M.F n P f args w R↔Calls P f args w R:=ke
theorem KQ {M:Md} {n:Nat} {P:Program} {f:FuncId} {args:Array Value} {w:World} {R:Ending→World→Prop} (h:Calls P f args w R):(M.F.depth.isSome=true→1≤n)∧CallsIn M.F (n-1) P f args w R :=
 ⟨λe=>(nomatch (show (none:Option Nat).isSome=true from e)),VI.2 h⟩
variable [M:Md]
def oy (E:mD) (d:Nat) (v:Value):Nat→Value:=λt=>if t=d then v else E t
def lf (E:mD):Operand→Value
 | .tmp t=>E t
 | .const v=>v
 | .global g=>.pointer (some ⟨g,0,none⟩)
 | .func f=>.func (.func f) #[] #[]
def Ag (n:Nat) (a:Act) (E:mD):Prop:=a.tmps.size=n∧a.defers=M.D∧∀t,a.tmps.getD t undef=E t
section
variable {n:Nat} {a:Act} {E:mD}
theorem Ag.eval (h:Ag n a E):a.eval=lf E:=by
 funext x
 cases x with
 | tmp t=>exact h.2.2 t
 | const v=>rfl
 | global g=>rfl
 | func f=>rfl
theorem Ag.put (h:Ag n a E) {d:Nat} (i:d < n) (v:Value):Ag n (a.put (some d) v) (oy E d v):=by
 refine ⟨by simp [Act.put,h.1],h.2.1,λt=>?_⟩
 have g:=h.2.2 t
 simp only [Act.put,oy]
 by_cases c:t=d
 ·subst c
  simp [h.1,i]
 ·have:¬d=t:=λe=>c e.symm
  rw [aN c,←g]
  simp [dB,this]
theorem Ag.zD (h:Ag n a E) (v:Value):Ag n (a.put none v) E:=h
theorem Ag.yield (h:Ag n a E) {ops:Array Oper} {j t:Nat} {b:Bool} (d:(ops[j]?).bind (·.dst)=some t) (i:t < n) (k:E t= .bool b):yielded ops a.tmps j=some b:=by
 have c:=h.2.2 t
 have g:a.tmps[t]? =some (E t):=by
  rw [←c]
  simp [dB,h.1,i]
 simp [yielded,d,g,k]
end
abbrev pJ:=Exit→mD→World→Prop
def E0:Nat→Value:=λ_=>undef
def lift (n:Nat) (Q:pJ):Exit→Act→World→Prop
 | .panic c,a,w=>a.defers=M.D∧Q (.panic c) E0 w
 | .outgrown,_,_=>False
 | e,a,w=>∃E,Ag n a E∧Q e E w
theorem QG {n:Nat} {Q:pJ} {c:List PanicEntry} {a:Act} {d:Option Nat} {v:Value} {w:World} (h:lift n Q (.panic c) (a.put d v) w):lift n Q (.panic c) a w:=by
 cases d <;> exact h
def CW (P:Program) (n:Nat) (c:Code) (Q:pJ) (E:mD) (W:World):Prop:=∀a,Ag n a E→c.wpIn M.F 0 P (lift n Q) a W
def LW (P:Program) (n:Nat) (ops:Array Oper) (Q:pJ) (l:List Oper) (E:mD) (W:World):Prop:=∀a,Ag n a E→wpListIn M.F 0 P ops (lift n Q) l a W
def tT (K:mD→World→Prop) (Q:pJ):pJ
 | .normal,E,W=>K E W
 | e,E,W=>Q e E W
def yA (id:Nat) (Q:pJ):pJ
 | .exit j,E,W=>if j=id then Q .normal E W else Q (.exit j) E W
 | e,E,W=>Q e E W
section
variable {P:Program} {n:Nat} {Q:pJ} {E:mD} {W:World} {c x y:Code} {ops:Array Oper} {rest:List Oper} {o:Oper}
theorem KK {Q':pJ} (h:CW P n c Q E W) (i:∀e E W,Q e E W→Q' e E W):CW P n c Q' E W:=λa ha=>
 kC (h a ha) (λe _ _ h=>by
  cases e with
  | panic c=>exact ⟨h.1,i _ _ _ h.2⟩
  | outgrown=>exact h
  | _=>obtain ⟨E',d,g⟩:=h; exact ⟨E',d,i _ _ _ g⟩)
theorem kY (h:CW P n x (tT (λE W=>CW P n y Q E W) Q) E W):CW P n (.seq x y) Q E W:=λa ha=>
 wpIn_seq (kC (h a ha) (λe d i h=>by
  cases e with
  | normal=>obtain ⟨E',c,g⟩:=h; exact g d c
  | _=>exact h))
theorem lU (h:Q .normal E W):CW P n .skip Q E W:=λ_ ha=>wpIn_skip ⟨E,ha,h⟩
theorem lB (h:Q .ret E W):CW P n .ret Q E W:=λ_ ha=>wpIn_ret ⟨E,ha,h⟩
theorem nB {id:Nat} (h:Q (.exit id) E W):CW P n (.exit id) Q E W:=λ_ ha=>wpIn_exit ⟨E,ha,h⟩
theorem mA {id:Nat} (h:CW P n c (yA id Q) E W):CW P n (.block id c) Q E W:=λa ha=>
 wpIn_block (kC (h a ha) (λe k o h=>by
  cases e with
  | exit j=>
   obtain ⟨E',d,g⟩:=h
   simp only [Exit.inBlock]
   simp only [yA] at g
   split at g
   ·rename_i i; rw [aP i]; exact ⟨E',d,g⟩
   ·rename_i i; rw [aN i]; exact ⟨E',d,g⟩
  | _=>exact h))
theorem Ux {co:Operand} {b:Bool} (c:lf E co= .bool b) (g:b=true→CW P n x Q E W) (d:b=false→CW P n y Q E W):CW P n (.cond co x y) Q E W:=λa ha=>by
 refine wpIn_cond_split (t:=b) (by rw [ha.eval]; exact c) (λh=>g h a ha) (λh=>d h a ha)
theorem Aw {co:Operand} (a:lf E co= .bool true) (h:CW P n x Q E W):CW P n (.cond co x y) Q E W:=Ux a (λ_=>h) (λh=>by cases h)
theorem sM {co:Operand} (a:lf E co= .bool false) (h:CW P n y Q E W):CW P n (.cond co x y) Q E W:=Ux a (λh=>by cases h) (λ_=>h)
theorem kX {id:Nat} {l:List Oper} (h:LW P n l.toArray Q l E W):CW P n (.region id l.toArray false) Q E W:=λa ha=>wpIn_region_lit (h a ha)
theorem lC (h:Q .normal E W):LW P n ops Q [] E W:=λ_ ha=>wpListIn_nil ⟨E,ha,h⟩
theorem NK {P:Program} {F:Fence} {n:Nat} {c:Code} {Q:Exit→Act→World→Prop} {a:Act} {w:World} (I:Nat→Act→World→Prop) (m:Nat) (o:I m a w) (round:∀m a w,I m a w→c.wpIn F n P (Exit.then (λp q=>∃i,i < m∧I i p q) Q) a w):(Code.loop c).wpIn F n P Q a w:=by
 classical
 let J:Act→World→Prop:=λa w=>∃m,I m a w
 have least:∀a w,J a w→∃m,I m a w∧∀k,I k a w→m≤k:=λa w ⟨m,hm⟩=>by
  induction m using Nat.strongRecOn with
  | _ m ih=>
   by_cases h:∃k,k < m∧I k a w
   ·obtain ⟨k,hk,d⟩:=h; exact ih k hk d
   ·exact ⟨m,hm,λk d=>Nat.le_of_not_lt λg=>h ⟨k,g,d⟩⟩
 let μ:Act→World→Nat:=λa w=>if h:J a w then Classical.choose (least a w h) else 0
 have j:∀a w (h:J a w),I (μ a w) a w∧∀k,I k a w→μ a w≤k:=λa w h=>by
  have e:μ a w=Classical.choose (least a w h):=dif_pos h
  rw [e]; exact Classical.choose_spec (least a w h)
 refine wpIn_loop J μ ⟨m,o⟩ λa w s=>kC (round _ a w (j a w s).1) λe p q h=>?_
 cases e with
 | normal=>obtain ⟨i,g,d⟩:=h; exact ⟨⟨i,d⟩,Nat.lt_of_le_of_lt ((j p q ⟨i,d⟩).2 i d) g⟩
 | _=>exact h
theorem nQ (I:Nat→mD→World→Prop) (m:Nat) (d:I m E W) (round:∀m E W,I m E W→CW P n c (tT (λE' W'=>∃g,g < m∧I g E' W') Q) E W):CW P n (.loop c) Q E W:=λa ha=>
 NK (λm a w=>∃E,Ag n a E∧I m E w) m ⟨E,ha,d⟩ (λm a w ⟨E,ha,o⟩=>
  kC (round m E w o a ha) (λe p q h=>by
   cases e with
   | normal=>obtain ⟨E',j,g,k,i⟩:=h; exact ⟨g,k,E',j,i⟩
   | _=>exact h))
def rk (n:Nat) (ops:Array Oper) (E:mD) (o:Oper):Prop :=
 o.guard=none∨∃j want t,o.guard=some (j,want)∧(ops[j]?).bind (·.dst)=some t∧t < n∧E t= .bool want
theorem rk.of {a:Act} (h:rk n ops E o) (ha:Ag n a E):Region.wanted o (yielded ops a.tmps)=true:=by
 rcases h with h | ⟨j,want,t,d,g,i,c⟩
 ·simp [Region.wanted,h]
 ·simp [Region.wanted,d,ha.yield g i c]
theorem V4 {d:Nat} {v:Value} {W':World} (hw:rk n ops E o) (c:o.dst=some d) (g:d < n) (i:(execOp (lf E) o).run P W= .ok (.value v) W') (h:LW P n ops Q rest (oy E d v) W'):LW P n ops Q (o::rest) E W:=λa ha=>by
 unfold wpListIn
 rw [aP (hw.of ha)]
 unfold Oper.wpIn
 refine ⟨λ_ _=>trivial,?_⟩
 rw [ha.eval,Eu i fb,Oper.uponIn_value,c]
 exact h _ (ha.put g v)
theorem Xs {W':World} (hw:rk n ops E o) (c:o.dst=none) (d:(execOp (lf E) o).run P W= .ok .skip W') (h:LW P n ops Q rest E W'):LW P n ops Q (o::rest) E W:=λa ha=>by
 unfold wpListIn
 rw [aP (hw.of ha)]
 unfold Oper.wpIn
 refine ⟨λ_ _=>trivial,?_⟩
 rw [ha.eval,Eu d fb,Oper.uponIn_skip,c]
 exact h _ (ha.zD _)
theorem X0 {f:FuncId} {args:Array Value} {d:Nat} (hw:rk n ops E o) (g:o.dst=some d) (j:d < n) (k:(execOp (lf E) o).run P W= .ok (.enter f args) W) (h:Calls P f args W λe c=>∃v,e= .returned v∧LW P n ops Q rest (oy E d v) c):LW P n ops Q (o::rest) E W:=λa ha=>by
 unfold wpListIn
 rw [aP (hw.of ha)]
 unfold Oper.wpIn
 refine ⟨λ_ _=>trivial,?_⟩
 rw [ha.eval,Eu k fb,Oper.uponIn_enter]
 refine KQ (cZ h ?_)
 rintro e c ⟨v,rfl,i⟩
 simp only [g]
 exact i _ (ha.put j v)
theorem aby {d j t:Nat} {want:Bool} (g:o.dst=some d) (p:d < n) (i:o.guard=some (j,want)) (k:(ops[j]?).bind (·.dst)=some t) (q:t < n) (c:E t= .bool (!want)) (h:LW P n ops Q rest (oy E d undef) W):LW P n ops Q (o::rest) E W:=λa ha=>by
 unfold wpListIn
 have s:=ha.yield k q c
 rw [aN (by simp [Region.wanted,i,s])]
 rw [g]
 exact ⟨λ_ _=>trivial,h _ (ha.put p _)⟩
end
end Go.Proofs.YtlfibegniofmjaaGreat
namespace Go.Proofs.YtlfibegniofmjaaGreat
open Go.RowKit
variable {dd:Bool}
abbrev mc:=Nat→Option Obj
def hp (W:World):mc:=λb=>W.heap[b]?
def yR (dd:Bool) (a b:Nat):Prop:=dd=true→a≤b
theorem yR.of {dd:Bool} {a b:Nat} (h:a≤b):yR dd a b:=λ_=>h
theorem yR.trans {dd:Bool} {a b c:Nat} (h:yR dd a b) (k:yR dd b c):yR dd a c:=λe=>ee (h e) (k e)
structure Ex (dd:Bool) (w W:World):Prop where
 os:W.os=w.os
 tape:W.tape=w.tape
 output:W.output=w.output
 drawn:yR dd w.drawn W.drawn
 size:w.heap.size≤W.heap.size
 oh:∀b,b < w.heap.size→W.heap[b]? =w.heap[b]?
theorem Ex.refl (w:World):Ex dd w w:=⟨Z,Z,Z,yR.of (aZ _),aZ _,λ_ _=>rfl⟩
theorem Ex.trans {a b c:World} (h:Ex dd a b) (k:Ex dd b c):Ex dd a c :=
 ⟨k.os.trans h.os,k.tape.trans h.tape,k.output.trans h.output,yR.trans h.drawn k.drawn,ee h.size k.size,λi hi=>(k.oh i (eu hi h.size)).trans (h.oh i hi)⟩
theorem Ex.drew (w:World):Ex dd w w.drew:=⟨Z,Z,Z,yR.of (jw _),aZ _,λ_ _=>rfl⟩
theorem Ex.alloc (w:World) (o:Obj):Ex dd w (w.alloc o):=⟨Z,Z,Z,yR.of (aZ _),by show w.heap.size≤(w.heap.push o).size; simp,λk hk=>Below.heap_alloc w o k hk⟩
theorem Ex.mF {w W:World} (h:Ex true w W):Ex dd w W:=⟨h.os,h.tape,h.output,yR.of (h.drawn Z),h.size,h.oh⟩
def lm (μ μ':mc):Prop:=∀b o,μ b=some o→μ' b=some o
theorem lm.refl (μ:mc):lm μ μ:=λ_ _ h=>h
theorem lm.trans {a b c:mc} (h:lm a b) (k:lm b c):lm a c:=λx o d=>k x o (h x o d)
structure ST (dd:Bool) (F:Nat→Prop) (w W:World) (μ:mc) (L:LO):Prop where
 os:W.os=w.os
 tape:W.tape=w.tape
 output:W.output=w.output
 drawn:yR dd w.drawn W.drawn
 size:w.heap.size≤W.heap.size
 oh:∀b,b < w.heap.size→¬F b→W.heap[b]? =w.heap[b]?
 mem:∀b o,μ b=some o→W.heap[b]? =some o
 box:∀b o,(b,o)∈L→W.heap[b]? =some o∧μ b=none∧(w.heap.size≤b∨F b)
 nd:(L.map (·.1)).Nodup
def lN:Nat→Prop:=λ_=>False
theorem ST.start (w:World):ST dd lN w w (hp w) [] :=
 ⟨Z,Z,Z,yR.of (aZ _),aZ _,λ_ _ _=>rfl,λ_ _ h=>h,λ_ _ h=>(by cases h),fb⟩
section
variable {F:Nat→Prop} {w W W':World} {μ μ':mc} {L L':LO}
theorem ST.ex (h:ST dd lN w W μ L):Ex dd w W:=⟨h.os,h.tape,h.output,h.drawn,h.size,λb a=>h.oh b a λx=>x⟩
theorem Yh (W:World) (o:Obj):(W.alloc o).heap[W.heap.size]? =some o:=heap_alloc_new W o
theorem rq {W:World} {b:Nat} {o:Obj} (h:W.heap[b]? =some o):b < W.heap.size:=(dW.1 h).1
theorem ST.drew (h:ST dd F w W μ L):ST dd F w W.drew μ L :=
 ⟨h.os,h.tape,h.output,yR.trans h.drawn (yR.of (jw _)),h.size,h.oh,h.mem,h.box,h.nd⟩
theorem ST.MJ (h:ST dd F w W μ L) {b:Nat} {o:Obj} (a:(b,o)∈L):b < W.heap.size:=rq (h.box b o a).1
theorem ST.alloc (h:ST dd F w W μ L) (o:Obj):ST dd F w (W.alloc o) μ ((W.heap.size,o)::L):=by
 refine ⟨h.os,h.tape,h.output,h.drawn,ee h.size (Ex.alloc (dd:=true) W o).size,λb a i=>?_,λb c a=>?_,λb c a=>?_,?_⟩
 ·rw [(Ex.alloc (dd:=true) W o).oh b (eu a h.size)]; exact h.oh b a i
 ·have:=h.mem b c a
  rw [(Ex.alloc (dd:=true) W o).oh b (rq this)]; exact this
 ·rcases aS.1 a with e | a
  ·cases e
   refine ⟨Yh W o,?_,.inl h.size⟩
   cases hm:μ W.heap.size with
   | none=>rfl
   | some x=>have:=rq (h.mem _ _ hm); omega
  ·obtain ⟨h1,d,g⟩:=h.box b c a
   exact ⟨by rw [(Ex.alloc (dd:=true) W o).oh b (rq h1)]; exact h1,d,g⟩
 ·simp only [bY,ey]
  refine ⟨λhm=>?_,h.nd⟩
  obtain ⟨⟨b,c⟩,a,e⟩:=bW.1 hm
  have:=h.MJ a
  simp at e
  omega
theorem ST.put {A B:LO} {b:Nat} {o p:Obj} (h:ST dd F w W μ (A++(b,o)::B)) (v:W'.os=W.os∧W'.tape=W.tape∧W'.output=W.output∧W.drawn≤W'.drawn∧W'.heap.size=W.heap.size) (d:∀k,k≠b→W'.heap[k]? =W.heap[k]?) (y:W'.heap[b]? =some p):ST dd F w W' μ (A++(b,p)::B):=by
 obtain ⟨h1,q,s,t,u⟩:=v
 have c:=h.box b o fb
 have a:=h.nd
 simp only [cV,bY] at a
 have g:∀x o,(x,o)∈A→x≠b:=λx o j e=>by
  subst e
  have:=(cL.1 a).2.2 x (bW.2 ⟨_,j,Z⟩) x fb
  exact this Z
 have i:∀x o,(x,o)∈B→x≠b:=λx o j e=>by
  subst e
  have:=(ey.1 (cL.1 a).2.1).1
  exact this (bW.2 ⟨_,j,Z⟩)
 refine ⟨h1.trans h.os,q.trans h.tape,s.trans h.output,yR.trans h.drawn (yR.of t),by rw [u]; exact h.size,λk hk n=>?_,λk x hk=>?_,λk x hk=>?_,by simpa using a⟩
 ·rw [d k (λe=>by subst e; rcases c.2.2 with h | h; omega; exact n h)]
  exact h.oh k hk n
 ·rw [d k (λe=>by subst e; rw [c.2.1] at hk; cases hk)]
  exact h.mem k x hk
 ·rcases aX.1 hk with hk | hk
  ·rw [d k (g k x hk)]; exact h.box k x (by simp [hk])
  ·rcases aS.1 hk with e | hk
   ·cases e; exact ⟨y,c.2⟩
   ·rw [d k (i k x hk)]; exact h.box k x (by simp [hk])
def Lo (F:Nat→Prop) (w:World) (μ μ':mc):Prop:=∀b,b < w.heap.size→¬F b→μ' b=μ b
theorem Lo.refl {F:Nat→Prop} {w:World} {μ:mc}:Lo F w μ μ:=λ_ _ _=>rfl
theorem Lo.trans {F:Nat→Prop} {w:World} {a b c:mc} (h:Lo F w a b) (k:Lo F w b c):Lo F w a c:=λx g d=>(k x g d).trans (h x g d)
def grow (μ:mc) (W W':World):mc:=λb=>if b < W.heap.size then μ b else W'.heap[b]?
theorem ST.KI (h:ST dd F w W μ L) {b:Nat} {o:Obj} (a:μ b=some o):b < W.heap.size:=rq (h.mem b o a)
theorem ST.call (h:ST dd F w W μ L) (c:Ex dd W W'):ST dd F w W' (grow μ W W') L:=by
 refine ⟨c.os.trans h.os,c.tape.trans h.tape,c.output.trans h.output,yR.trans h.drawn c.drawn,ee h.size c.size,λb a j=>?_,λb o a=>?_,λb o a=>?_,h.nd⟩
 ·rw [c.oh b (eu a h.size)]; exact h.oh b a j
 ·unfold grow at a
  split at a
  ·rename_i d; rw [c.oh b d]; exact h.mem b o a
  ·exact a
 ·obtain ⟨h1,g,i⟩:=h.box b o a
  exact ⟨by rw [c.oh b (rq h1)]; exact h1,by unfold grow; rw [aP (rq h1)]; exact g,i⟩
theorem ST.WW (h:ST dd F w W μ L) (W':World):lm μ (grow μ W W'):=λb o a=>by
 unfold grow; rw [aP (h.KI a)]; exact a
theorem ST.mF (h:ST dd F w W μ' L) (c:lm μ μ'):ST dd F w W μ L :=
 ⟨h.os,h.tape,h.output,h.drawn,h.size,h.oh,λb o a=>h.mem b o (c b o a),λb o a=>by
  obtain ⟨h1,d,g⟩:=h.box b o a
  refine ⟨h1,?_,g⟩
  cases hm:μ b with
  | none=>rfl
  | some x=>(have:=c b x hm; rw [d] at this; cases this),h.nd⟩
theorem ST.PZ (h:ST dd F w W μ L) (a:Ex dd W W'):ST dd F w W' μ L:=(h.call a).mF (h.WW W')
theorem ST.lb (h:ST dd F w W μ L):lm μ (hp W):=h.mem
def Ti (μ:mc) (b:Nat) (o:Obj):mc:=λk=>if k=b then some o else μ k
theorem ST.KU {A B:LO} {b:Nat} {o:Obj} (h:ST dd F w W μ (A++(b,o)::B)):ST dd F w W (Ti μ b o) (A++B):=by
 have d:=h.box b o fb
 have a:=h.nd
 simp only [cV,bY] at a
 have i:∀x y,(x,y)∈A++B→x≠b:=λx y c e=>by
  subst e
  rcases aX.1 c with c | c
  ·exact (cL.1 a).2.2 x (bW.2 ⟨_,c,Z⟩) x fb Z
  ·exact (ey.1 (cL.1 a).2.1).1 (bW.2 ⟨_,c,Z⟩)
 refine ⟨h.os,h.tape,h.output,h.drawn,h.size,h.oh,λk x hk=>?_,λk x hk=>?_,?_⟩
 ·unfold Ti at hk
  split at hk
  ·rename_i e; cases hk; rw [e]; exact d.1
  ·exact h.mem k x hk
 ·have g:(k,x)∈A++(b,o)::B:=by
   rcases aX.1 hk with h | h <;> simp [h]
  obtain ⟨h1,j,n⟩:=h.box k x g
  exact ⟨h1,by unfold Ti; rw [aN (i k x hk)]; exact j,n⟩
 ·have:(A++B).Sublist (A++(b,o)::B):=List.Sublist.append (List.Sublist.refl A) (List.sublist_cons_self _ _)
  exact List.Nodup.sublist (this.map _) h.nd
theorem ST.KH {A B:LO} {b:Nat} {o:Obj} (h:ST dd F w W μ (A++(b,o)::B)):lm μ (Ti μ b o):=λk x hk=>by
 unfold Ti
 split
 ·rename_i e; subst e; rw [(h.box k o fb).2.1] at hk; cases hk
 ·exact hk
theorem ST.RL {A B:LO} {b:Nat} {o:Obj} (h:ST dd F w W μ (A++(b,o)::B)):Lo F w μ (Ti μ b o):=λk hk c=>by
 refine aN (λe=>?_)
 subst e
 rcases (h.box k o fb).2.2 with a | a
 ·omega
 ·exact c a
theorem ST.drop {A B:LO} {p:Nat×Obj} (h:ST dd F w W μ (A++p::B)):ST dd F w W μ (A++B) :=
 (h.KU (b:=p.1) (o:=p.2)).mF h.KH
end
abbrev sV (α:Type):=mc→List Value→α→Prop
def Sl {α:Type} (R:sV α) (k:Nat) (μ:mc) (v:Value) (l:List α):Prop :=
 ∃A c,v= .slice A l.length c∧l.length≤c∧c≤maxLen∧(0 < l.length→∃b off cs T fr,A=some ⟨b,off,none⟩∧μ b=some (.cells cs T fr)∧
  ∀i x,l[i]? =some x→∃ys,ys.length=k∧R μ ys x∧∀j y,ys[j]? =some y→cs[off+i*k+j]? =some y)
def At (μ:mc) (v:Value) (ys:List Value):Prop :=
 ∃b off cs T fr,v= .pointer (some ⟨b,off,none⟩)∧μ b=some (.cells cs T fr)∧∀j y,ys[j]? =some y→cs[off+j]? =some y
def Fr (B:Nat) (v:Value):Prop:=∀b,v.ownBlock=some b→B≤b
def M1 {α:Type} (R:sV α):Prop:=∀μ μ' ys x,lm μ μ'→R μ ys x→R μ' ys x
def Pl {α:Type} (enc:α→List Value):sV α:=λ_ ys x=>ys=enc x
theorem Pl.mono {α:Type} (enc:α→List Value):M1 (Pl enc):=λ_ _ _ _ _ h=>h
theorem Sl.mono {α:Type} {R:sV α} (u:M1 R) {k:Nat} {μ μ':mc} {v:Value} {l:List α} (h:Sl R k μ v l) (d:lm μ μ'):Sl R k μ' v l:=by
 obtain ⟨A,c,h1,g,j,n⟩:=h
 refine ⟨A,c,h1,g,j,λw=>?_⟩
 obtain ⟨b,off,cs,T,fr,o,p,q⟩:=n w
 exact ⟨b,off,cs,T,fr,o,d _ _ p,λi x y=>let ⟨ys,s,t,a⟩:=q i x y; ⟨ys,s,u _ _ _ _ d t,a⟩⟩
theorem At.mono {μ μ':mc} {v:Value} {ys:List Value} (h:At μ v ys) (d:lm μ μ'):At μ' v ys:=by
 obtain ⟨b,off,cs,T,fr,h1,a,c⟩:=h
 exact ⟨b,off,cs,T,fr,h1,d _ _ a,c⟩
theorem Sl.len {α:Type} {R:sV α} {k:Nat} {μ:mc} {v:Value} {l:List α} (h:Sl R k μ v l):l.length≤9223372036854775807:=by
 obtain ⟨A,c,h1,d,a,g⟩:=h
 unfold maxLen at a
 omega
theorem Sl.nil {α:Type} (R:sV α) (k:Nat) (μ:mc):Sl R k μ (.slice none 0 0) []:=⟨none,0,Z,aZ _,fs,λh=>absurd h fb⟩
theorem Fr.mono {B B':Nat} {v:Value} (h:Fr B v) (a:B'≤B):Fr B' v:=λb c=>ee a (h b c)
theorem Fr.nil (B:Nat):Fr B (.slice none 0 0):=λb a=>by simp [Value.ownBlock] at a
end Go.Proofs.YtlfibegniofmjaaGreat
namespace Go.Proofs.YtlfibegniofmjaaGreat
open Go.RowKit
variable [M:Md]
variable {dd:Bool}
section
variable {P:Program} {n:Nat} {Q:pJ} {E:mD} {W:World} {ops:Array Oper} {rest:List Oper}
 {d:Option Nat} {ty:TypeId} {pos:String} {af:Array Edge} {g:tC}
 {F:Nat→Prop} {w:World} {μ:mc} {L:LO}
def nf (P:Program) (E:mD) (o:Oper) (W:World) (v:Value) (W':World):Prop:=(execOp (lf E) o).run P W= .ok (.value v) W'
theorem Oi {o:Oper} {dd:Nat} {v:Value} (hw:rk n ops E o) (a:o.dst=some dd) (c:dd < n) (d:nf P E o W v W) (h:LW P n ops Q rest (oy E dd v) W):LW P n ops Q (o::rest) E W:=V4 hw a c d h
theorem kT {x:Operand} {v:Value} (a:lf E x=v):nf P E ⟨d,.move x,ty,pos,af,g⟩ W v W:=by rw [←a]; rfl
theorem nz {x:Operand} {v:Value} (a:lf E x=v):nf P E ⟨d,.assign x,ty,pos,af,g⟩ W v W:=by rw [←a]; rfl
theorem lh {c x y:Operand} {v:Value} (a:lf E c= .bool true) (h:lf E x=v):nf P E ⟨d,.pick c x y,ty,pos,af,g⟩ W v W:=by
 show (do pure (.value (if ←asBool (lf E c) then lf E x else lf E y)):Sem Next).run P W=_
 rw [a,←h]; simp [asBool]
theorem lg {c x y:Operand} {v:Value} (a:lf E c= .bool false) (h:lf E y=v):nf P E ⟨d,.pick c x y,ty,pos,af,g⟩ W v W:=by
 show (do pure (.value (if ←asBool (lf E c) then lf E x else lf E y)):Sem Next).run P W=_
 rw [a,←h]; simp [asBool]
theorem xA {x:Operand} {i:Nat} {vs:Array Value} {v:Value} (c:lf E x= .tuple vs) (a:vs[i]? =some v):nf P E ⟨d,.extract x i,ty,pos,af,g⟩ W v W:=by
 show (do pure (.value (←Instr.extract (lf E x) i)):Sem Next).run P W=_
 rw [c]; simp [Instr.extract,a]
theorem nt {u:TypeId} {x:Operand} {b:Bool} (a:lf E x= .bool b):nf P E ⟨d,.unOp .not u x,ty,pos,af,g⟩ W (.bool !b) W:=by
 show (do pure (.value (←Op.unary .not (lf E x))):Sem Next).run P W=_
 rw [a]; simp [Op.unary]
theorem Ua {fn:Fn} {first caps:Array Operand} {v:Value} (a:.func fn (first.map (lf E)) (caps.map (lf E))=v):nf P E ⟨d,.makeFunc fn first caps,ty,pos,af,g⟩ W v W:=by
 show (do pure (.value (←Instr.makeFunc fn (first.map (lf E)) (caps.map (lf E)))):Sem Next).run P W=_
 rw [←a]; simp [Instr.makeFunc]
def PV (k:IntKind) (op:BinOp) (a b:Int):Option Value :=
 match op with
 | .eql=>some (.bool (a==b))
 | .neq=>some (.bool (a != b))
 | .lss=>some (.bool (decide (a < b)))
 | .leq=>some (.bool (decide (a≤b)))
 | .gtr=>some (.bool (decide (a > b)))
 | .geq=>some (.bool (decide (a≥b)))
 | .add=>some (.int k (k.wrap (a+b)))
 | .sub=>some (.int k (k.wrap (a-b)))
 | .mul=>some (.int k (k.wrap (a*b)))
 | _=>none
theorem lI {op:BinOp} {tx tv:TypeId} {x y:Operand} {k:IntKind} {a b:Int} {v:Value} (h:lf E x= .int k a) (i:lf E y= .int k b) (c:PV k op a b=some v) :
  nf P E ⟨d,.binOp op tx x y tv,ty,pos,af,g⟩ W v W:=by
 show (do let r ←(do eqGuard op tx x y (lf E x) (lf E y); binOp op tx (lf E x) (lf E y)); pure (.value r):Sem Next).run P W=_
 rw [h,i]
 cases op <;> simp [PV] at c <;> subst c <;> simp [eqGuard,binOp,Op.intCmp,Op.intArith]
def YW (op:BinOp) (a b:ByteArray):Option Value :=
 match op with
 | .eql=>some (.bool (a.toList==b.toList))
 | .neq=>some (.bool !(a.toList==b.toList))
 | .lss=>some (.bool (Op.bytesLess a.toList b.toList))
 | .leq=>some (.bool (Op.bytesLess a.toList b.toList||a.toList==b.toList))
 | .gtr=>some (.bool !(Op.bytesLess a.toList b.toList||a.toList==b.toList))
 | .geq=>some (.bool !(Op.bytesLess a.toList b.toList))
 | _=>none
def xV (a b:ByteArray):Option ByteArray:=if ((a.size+b.size:Nat):Int) > IntKind.i64.max then none else some (a++b)
theorem rF {op:BinOp} {tx tv:TypeId} {x y:Operand} {a b:ByteArray} {v:Value} (h:lf E x= .string a) (i:lf E y= .string b) (c:YW op a b=some v) :
  nf P E ⟨d,.binOp op tx x y tv,ty,pos,af,g⟩ W v W:=by
 show (do let r ←(do eqGuard op tx x y (lf E x) (lf E y); binOp op tx (lf E x) (lf E y)); pure (.value r):Sem Next).run P W=_
 rw [h,i]
 cases op <;> simp [YW] at c <;> subst c <;> simp [eqGuard,binOp,Op.stringOp]
theorem xk {tx tv:TypeId} {x y:Operand} {a b r:ByteArray} (h:lf E x= .string a) (i:lf E y= .string b) (c:xV a b=some r) :
  nf P E ⟨d,.binOp .add tx x y tv,ty,pos,af,g⟩ W (.string r) W:=by
 show (do let r ←(do eqGuard .add tx x y (lf E x) (lf E y); binOp .add tx (lf E x) (lf E y)); pure (.value r):Sem Next).run P W=_
 rw [h,i]
 simp only [xV] at c
 split at c
 ·cases c
 ·rename_i hle; cases c; simp [eqGuard,binOp,Op.stringOp]; simpa using hle
theorem wE {tx tv:TypeId} {x y:Operand} {a b:Array Value} {r:Bool} (i:lf E x= .agg a) (j:lf E y= .agg b) (c:∀W,(eqGuard .eql tx x y (.agg a) (.agg b)).run P W= .ok () W) (h:∀W,(binOp .eql tx (.agg a) (.agg b)).run P W= .ok (.bool r) W):nf P E ⟨d,.binOp .eql tx x y tv,ty,pos,af,g⟩ W (.bool r) W:=by
 show (do let r ←(do eqGuard .eql tx x y (lf E x) (lf E y); binOp .eql tx (lf E x) (lf E y)); pure (.value r):Sem Next).run P W=_
 rw [i,j]; simp [c W,h W]
theorem Hz {tx tv:TypeId} {x y:Operand} {a b:Array Value} {r:Bool} (i:lf E x= .agg a) (j:lf E y= .agg b) (c:∀W,(eqGuard .neq tx x y (.agg a) (.agg b)).run P W= .ok () W) (h:∀W,(binOp .neq tx (.agg a) (.agg b)).run P W= .ok (.bool r) W):nf P E ⟨d,.binOp .neq tx x y tv,ty,pos,af,g⟩ W (.bool r) W:=by
 show (do let r ←(do eqGuard .neq tx x y (lf E x) (lf E y); binOp .neq tx (lf E x) (lf E y)); pure (.value r):Sem Next).run P W=_
 rw [i,j]; simp [c W,h W]
theorem He {t e:TypeId} (dd:Nat) (c:P.underlying t=some (.pointer e)) (a:Option Addr) (W:World):(Op.equalIn (dd+1) t (.pointer a) (.pointer none)).run P W= .ok a.isNone W:=by
 cases a <;> simp [Op.equalIn,bA c]
theorem uc {tx tv e:TypeId} {x y:Operand} {a:Option Addr} (h:P.underlying tx=some (.pointer e)) (i:lf E x= .pointer a) (j:lf E y= .pointer none) :
  nf P E ⟨d,.binOp .eql tx x y tv,ty,pos,af,g⟩ W (.bool a.isNone) W:=by
 show (do let r ←(do eqGuard .eql tx x y (lf E x) (lf E y); binOp .eql tx (lf E x) (lf E y)); pure (.value r):Sem Next).run P W=_
 rw [i,j]
 have c:=He 9999 h a W
 simp [eqGuard,binOp,Op.equal,show Op.maxDepth=9999+1 from rfl,c]
theorem Ga {tx tv e:TypeId} {x y:Operand} {a:Option Addr} (h:P.underlying tx=some (.pointer e)) (i:lf E x= .pointer a) (j:lf E y= .pointer none) :
  nf P E ⟨d,.binOp .neq tx x y tv,ty,pos,af,g⟩ W (.bool !a.isNone) W:=by
 show (do let r ←(do eqGuard .neq tx x y (lf E x) (lf E y); binOp .neq tx (lf E x) (lf E y)); pure (.value r):Sem Next).run P W=_
 rw [i,j]
 have c:=He 9999 h a W
 simp [eqGuard,binOp,Op.equal,show Op.maxDepth=9999+1 from rfl,c]
theorem pn {x:Operand} {t:TypeId} {s:ByteArray} (a:P.underlying t=some .string) (c:lf E x= .string s):nf P E ⟨d,.call ⟨.builtin .len,#[x],#[t]⟩,ty,pos,af,g⟩ W (.int .i64 s.size) W:=by
 show (do let d ←resolve (lf E) ⟨.builtin .len,#[x],#[t]⟩ ty; invoke d.target d.args:Sem Next).run P W=_
 simp [resolve,invoke,builtin,Builtin.len_,bA a,c,goInt]
theorem Iq {x:Operand} {t e:TypeId} {A:Option Addr} {l c:Nat} (a:P.underlying t=some (.slice e)) (h:lf E x= .slice A l c):nf P E ⟨d,.call ⟨.builtin .len,#[x],#[t]⟩,ty,pos,af,g⟩ W (.int .i64 l) W:=by
 show (do let d ←resolve (lf E) ⟨.builtin .len,#[x],#[t]⟩ ty; invoke d.target d.args:Sem Next).run P W=_
 simp [resolve,invoke,builtin,Builtin.len_,bA a,h,goInt]
theorem lT {α:Type} {R:sV α} {k:Nat} {m:mc} {x:Operand} {t e:TypeId} {v:Value} {l:List α} (h:P.underlying t=some (.slice e)) (i:lf E x=v) (a:Sl R k m v l):nf P E ⟨d,.call ⟨.builtin .len,#[x],#[t]⟩,ty,pos,af,g⟩ W (.int .i64 l.length) W:=by
 obtain ⟨A,c,rfl,_⟩:=a
 exact Iq h i
theorem B9 {t:TypeId} {x a:Operand} {o:IntKind} {s:ByteArray} {i:Int} {c:UInt8} (k:P.underlying t=some .string) (n:lf E x= .string s) (hi:lf E a= .int o i) (h:0≤i) (j:s[i.toNat]? =some c) :
  nf P E ⟨d,.index t x a,ty,pos,af,g⟩ W (.int .u8 c.toNat) W:=by
 show (do pure (.value (←Instr.index t (lf E x) (lf E a))):Sem Next).run P W=_
 rw [n,hi]
 simp [Instr.index,asIntOf,bA k,h,j]
def mP (P:Program) (t:TypeId) (f off:Nat):Prop:=∀b o w,(Instr.fieldAt t (.pointer (some ⟨b,o,none⟩)) f).run P w= .ok (.pointer (some ⟨b,o+off,none⟩)) w
theorem kU {t:TypeId} {x:Operand} {f off b o:Nat} (a:mP P t f off) (c:lf E x= .pointer (some ⟨b,o,none⟩)):nf P E ⟨d,.fieldAddr t x f,ty,pos,af,g⟩ W (.pointer (some ⟨b,o+off,none⟩)) W:=by
 show (do pure (.value (←Instr.fieldAt t (lf E x) f)):Sem Next).run P W=_
 rw [c]; simp [a b o W]
theorem tO {t:TypeId} {x:Operand} {f off:Nat} {v:Value} {ys:List Value} (zs:List Value) (i:mP P t f off) (p:lf E x=v) (n:At μ v ys) (q:(ys.drop off).take zs.length=zs) :
  ∃c,At μ c zs∧∀W,nf P E ⟨d,.fieldAddr t x f,ty,pos,af,g⟩ W c W:=by
 obtain ⟨b,o,cs,T,fr,rfl,h1,h⟩:=n
 refine ⟨_,⟨b,o+off,cs,T,fr,Z,h1,λj y a=>?_⟩,λW=>kU i p⟩
 have k:j < zs.length:=(bT.1 a).1
 have:=h (off+j) y (by
  rw [←q,eC k,ev] at a
  exact a)
 rw [eL]
 exact this
theorem mK {x:Operand} {a:Addr} (c:lf E x= .pointer (some a)):nf P E ⟨d,.nilCheck x,ty,pos,af,g⟩ W (.pointer (some a)) W:=by
 unfold nf execOp
 simp [c]
theorem Ov {α:Type} {R:sV α} {k:Nat} {t e:TypeId} {x h:Operand} {U:IntKind} {v:Value} {i:Int} {l:List α} {x0:α} (M:P.underlying t=some (.slice e)) (he:∀w,(sizeOf e).run P w= .ok k w) (O:lf E x=v) (hi:lf E h= .int U i) (L:Sl R k μ v l) (o:0≤i) (n:l[i.toNat]? =some x0) :
  ∃p ys,ys.length=k∧R μ ys x0∧At μ p ys∧∀W,nf P E ⟨d,.indexAddr t x h,ty,pos,af,g⟩ W p W:=by
 obtain ⟨A,c,rfl,Y,h3,q⟩:=L
 have J:i.toNat < l.length:=(bT.1 n).1
 obtain ⟨b,off,cs,T,fr,rfl,s,u⟩:=q eR
 obtain ⟨ys,z,G,a⟩:=u i.toNat x0 n
 refine ⟨.pointer (some ⟨b,off+i.toNat*k,none⟩),ys,z,G,⟨b,off+i.toNat*k,cs,T,fr,Z,s,λj y Q=>a j y Q⟩,λW=>?_⟩
 show (do pure (.value (←Instr.indexAt t (lf E x) (lf E h))):Sem Next).run P W=_
 rw [O,hi]
 have I:0≤i∧i < (l.length:Int):=⟨o,eR⟩
 simp [Instr.indexAt,asIntOf,bA M,he W,I,ek]
theorem oz {α:Type} {enc:α→List Value} {k:Nat} {t e:TypeId} {x a:Operand} {y:IntKind} {v:Value} {i:Int} {l:List α} {x0:α} (s:P.underlying t=some (.slice e)) (he:∀w,(sizeOf e).run P w= .ok k w) (u:lf E x=v) (hi:lf E a= .int y i) (q:Sl (Pl enc) k μ v l) (c:0≤i) (o:l[i.toNat]? =some x0) :
  ∃p,At μ p (enc x0)∧∀W,nf P E ⟨d,.indexAddr t x a,ty,pos,af,g⟩ W p W:=by
 obtain ⟨p,ys,h1,h,j,n⟩:=Ov (d:=d) (ty:=ty) (pos:=pos) (af:=af) (g:=g) s he u hi q c o
 cases h
 exact ⟨p,j,n⟩
theorem PC (P:Program) {W:World} {b off:Nat} {cs:Array Value} {T:TypeId} {fr:Nat×Nat} (a:W.heap[b]? =some (.cells cs T fr)) (ys:List Value) (d:∀j y,ys[j]? =some y→cs[off+j]? =some y) :
  (loadCells ⟨b,off,none⟩ ys.length).run P W= .ok ys.toArray W :=
 ja W ⟨b,off,none⟩ ys (λj v c=>by rw [ek,gT W b (off+j) cs T fr a]; exact d j v c)
theorem HS {W:World} {t:TypeId} {b off:Nat} {cs:Array Value} {T:TypeId} {fr:Nat×Nat} (a:∀w,(isAgg t).run P w= .ok true w) (ys:List Value) (c:∀w,(sizeOf t).run P w= .ok ys.length w) (d:W.heap[b]? =some (.cells cs T fr)) (g:∀j y,ys[j]? =some y→cs[off+j]? =some y):(Instr.loadAt t (.pointer (some ⟨b,off,none⟩))).run P W= .ok (.agg ys.toArray) W:=by
 simp [Instr.loadAt,Instr.sureAddr,loadVar,a W,c W,PC P d ys g]
theorem HL {W:World} {t:TypeId} {b off:Nat} {cs:Array Value} {T:TypeId} {fr:Nat×Nat} (a:∀w,(isAgg t).run P w= .ok false w) {y:Value} (c:W.heap[b]? =some (.cells cs T fr)) (g:cs[off]? =some y):(Instr.loadAt t (.pointer (some ⟨b,off,none⟩))).run P W= .ok y W:=by
 have d:W.cell? ⟨b,off,none⟩=some y:=by rw [gT W b off cs T fr c]; exact g
 simp [Instr.loadAt,Instr.sureAddr,loadVar,a W,load,Sem.run,d]
theorem kP {t:TypeId} {x:Operand} {a v:Value} (h:lf E x=a) (c:(Instr.loadAt t a).run P W= .ok v W):nf P E ⟨d,.load t x,ty,pos,af,g⟩ W v W:=by
 show (do pure (.value (←Instr.loadAt t (lf E x))):Sem Next).run P W=_
 rw [h]; simp [c]
def oe (μ:mc) (A:LO) (W:World):Prop:=(∀b o,μ b=some o→W.heap[b]? =some o)∧∀b o,(b,o)∈A→W.heap[b]? =some o
theorem ST.has (h:ST dd F w W μ L):oe μ L W:=⟨h.mem,λb o a=>(h.box b o a).1⟩
theorem oe.sub {μ':mc} {A A':LO} (h:oe μ A W) (d:lm μ' μ) (c:∀p,p∈A'→p∈A):oe μ' A' W:=⟨λb o a=>h.1 b o (d b o a),λb o a=>h.2 b o (c _ a)⟩
theorem lA {A:LO} (hH:oe μ A W) {t:TypeId} {p:Value} {ys:List Value} (hp:At μ p ys) (c:∀w,(isAgg t).run P w= .ok true w) (d:∀w,(sizeOf t).run P w= .ok ys.length w) :
  (Instr.loadAt t p).run P W= .ok (.agg ys.toArray) W:=by
 obtain ⟨b,off,cs,T,fr,rfl,h1,a⟩:=hp
 exact HS c ys d (hH.1 _ _ h1) a
theorem rz {A:LO} (hH:oe μ A W) {t:TypeId} {p y:Value} (hp:At μ p [y]) (c:∀w,(isAgg t).run P w= .ok false w) :
  (Instr.loadAt t p).run P W= .ok y W:=by
 obtain ⟨b,off,cs,T,fr,rfl,h1,a⟩:=hp
 exact HL c (hH.1 _ _ h1) (a 0 y Z)
theorem kV {A:LO} (hH:oe μ A W) {t:TypeId} {b off:Nat} {cs:Array Value} {T:TypeId} {fr:Nat×Nat} (g:(b,Obj.cells cs T fr)∈A) (ys:List Value) (i:(cs.toList.drop off).take ys.length=ys) (d:∀w,(isAgg t).run P w= .ok true w) (h:∀w,(sizeOf t).run P w= .ok ys.length w):(Instr.loadAt t (.pointer (some ⟨b,off,none⟩))).run P W= .ok (.agg ys.toArray) W :=
 HS d ys h (hH.2 _ _ g) (λj y a=>by
  have c:j < ys.length:=(bT.1 a).1
  rw [←i,eC c,ev] at a
  simpa using a)
theorem kZ {A:LO} (hH:oe μ A W) {t:TypeId} {b off:Nat} {cs:Array Value} {T:TypeId} {fr:Nat×Nat} (c:(b,Obj.cells cs T fr)∈A) {y:Value} (d:cs[off]? =some y) (a:∀w,(isAgg t).run P w= .ok false w):(Instr.loadAt t (.pointer (some ⟨b,off,none⟩))).run P W= .ok y W :=
 HL a (hH.2 _ _ c) d
theorem lX {t:TypeId} {a:Array (Nat×Operand)} {qs:Array (Nat×Value)} {v:Value} (c:a.map (λ(i,x)=>(i,lf E x))=qs) (h:∀W,(Instr.build t qs).run P W= .ok v W):nf P E ⟨d,.build t a,ty,pos,af,g⟩ W v W:=by
 show (do pure (.value (←Instr.build t (a.map λ(i,x)=>(i,lf E x)))):Sem Next).run P W=_
 rw [c]; simp [h W]
theorem lG {t:TypeId} {z cs:Array Value} {a:Array Field} {qs:Array (Nat×Value)} {pl:Array (Nat×Nat)} (g:∀w,(zeroValue t).run P w= .ok (.agg z) w) (d:P.underlying t=some (.struct a)) (hp:∀w,(a.mapM λf=>do pure (f.offset,←sizeOf f.type):Sem (Array (Nat×Nat))).run P w= .ok pl w) (c:Instr.fill (pl[·]?) z qs.toList=some cs) (W:World):(Instr.build t qs).run P W= .ok (.agg cs) W:=by
 simp only [Instr.build,cK,g W,bQ,bA d,Value.cells]
 rw [hp W]
 simp only [bQ,c,dC]
end
theorem Kt {α:Type}:∀(a:Ask α) (w:World),w.drawn≤(w.ask a).2.drawn
 | .done a,w=>by simp [World.ask]
 | .ask c range k,w=>by
  unfold World.ask
  dsimp only
  split
  ·exact Kt (k 0) w
  ·refine ee (jw w.drawn) ?_
   exact Kt _ { w with drawn:=w.drawn+1 }
theorem VT (w:World) (c:Sys):w.drawn≤(w.sys c).2.drawn:=by
 have h:=Kt (Kernel.perform c w.os) w
 unfold World.sys
 generalize w.ask (Kernel.perform c w.os)=r at *
 obtain ⟨⟨a,d⟩,g⟩:=r
 cases a <;> simp at h ⊢ <;> exact h
theorem Nd {p:Program} {w c:World} {a:Addr} {u:TypeId} {k:Addr} {v:Value} {b:Bool} {l:List Addr} (h:w.viewStore p a u k v b= .ok (c,l)):c.drawn=w.drawn:=by
 unfold World.viewStore at h
 simp only [bind,Except.bind,pure,Except.pure] at h
 split at h
 ·cases h
 ·split at h
  ·cases h
  ·split at h
   ·split at h
    ·cases h
    ·split at h
     ·cases h
     ·cases h; rfl
   ·cases h
theorem OG {p:Program} {w c:World} {a:Addr} {v:Value} {b:Bool} {l:List Addr} (h:w.farStore p a v b= .ok (c,l)):c.drawn=w.drawn:=by
 unfold World.farStore at h
 split at h
 ·split at h
  ·rename_i h1; cases h; exact Nd h1
  ·cases h
 ·cases h
theorem sR {α:Type} {p:Program}:∀(s:Sem α) (w d:World) (a:α),s.run p w= .ok a d→w.drawn≤d.drawn
 | .pure a,w,d,b,h=>by simp only [Sem.run] at h; cases h; exact aZ _
 | .load m a k,w,d,b,h=>by
  simp only [Sem.run] at h
  split at h
  ·exact sR _ _ _ _ h
  ·split at h
   ·exact sR _ _ _ _ h
   ·cases h
 | .store m a v k,w,d,b,h=>by
  have key:∀(r:Result α) i,r= .ok b d→(r=(match w.cell? a with
    | some _=>if w.frozen? a then .halt i w else k.run p (w.setCell a v)
    | none=>match w.farStore p a v (m==.atomic) with
     | .ok (w,_)=>k.run p w
     | .error h=>.halt h w))→w.drawn≤d.drawn:=by
   intro r i j h
   rw [j] at h
   split at h
   ·split at h
    ·cases h
    ·have:=sR k _ _ _ h.symm
     simpa [World.setCell] using this
   ·split at h
    ·rename_i h1
     have g:=sR k _ _ _ h.symm
     rw [OG h1] at g
     exact g
    ·cases h
  cases v with
  | agg cs=>simp only [Sem.run] at h; cases h
  | tuple cs=>simp only [Sem.run] at h; cases h
  | _=>exact key _ _ h (by simp only [Sem.run]; rfl)
 | .new o k,w,d,b,h=>by simp only [Sem.run] at h; have:=sR (k _) _ _ _ h; exact this
 | .shape r k,w,d,b,h=>by simp only [Sem.run] at h; exact sR _ _ _ _ h
 | .freeze a n k,w,d,b,h=>by
  simp only [Sem.run] at h
  have:=sR k _ _ _ h
  unfold World.freeze at this
  split at this <;> exact this
 | .frozen a k,w,d,b,h=>by simp only [Sem.run] at h; exact sR _ _ _ _ h
 | .getObj r k,w,d,b,h=>by
  simp only [Sem.run] at h
  split at h <;> try (cases h; done)
  exact sR _ _ _ _ h
 | .setObj r o k,w,d,b,h=>by
  simp only [Sem.run] at h
  split at h <;> try (cases h; done)
  have:=sR k _ _ _ h
  exact this
 | .choose q k,w,d,b,h=>by
  simp only [Sem.run] at h
  split at h
  ·exact sR _ _ _ _ h
  ·exact ee (jw _) (sR _ _ _ _ h)
 | .sys c k,w,d,b,h=>by
  simp only [Sem.run] at h
  exact ee (VT w c) (sR _ _ _ _ h)
 | .program k,w,d,b,h=>by simp only [Sem.run] at h; exact sR _ _ _ _ h
 | .mark m k,w,d,b,h=>by simp only [Sem.run] at h; exact sR k _ _ _ h
 | .halt x,w,d,b,h=>by simp only [Sem.run] at h; cases h
end Go.Proofs.YtlfibegniofmjaaGreat
namespace Go.Proofs.YtlfibegniofmjaaGreat
open Go.RowKit
variable [M:Md]
variable {dd:Bool}
section
variable {P:Program} {n:Nat} {Q:pJ} {E:mD} {W:World} {ops:Array Oper} {rest:List Oper}
 {d:Option Nat} {ty:TypeId} {pos:String} {af:Array Edge} {g:tC}
 {F:Nat→Prop} {w:World} {μ:mc} {L:LO}
def pq (P:Program) (E:mD) (o:Oper) (W:World) (K:Value→World→Prop):Prop :=
 (∃v W',(execOp (lf E) o).run P W= .ok (.value v) W'∧K v W')∨(∃W',(execOp (lf E) o).run P W= .ok .skip W'∧K undef W')∨
 (∃f args,(execOp (lf E) o).run P W= .ok (.enter f args) W∧Calls P f args W λe a=>∃v,e= .returned v∧K v a)
theorem pq.mono {o:Oper} {K K':Value→World→Prop} (h:pq P E o W K) (hk:∀v W',K v W'→K' v W'):pq P E o W K':=by
 rcases h with ⟨v,W',h1,a⟩ | ⟨W',h1,a⟩ | ⟨f,args,h1,a⟩
 ·exact .inl ⟨v,W',h1,hk _ _ a⟩
 ·exact .inr (.inl ⟨W',h1,hk _ _ a⟩)
 ·exact .inr (.inr ⟨f,args,h1,cZ a λ_ _ ⟨v,c,d⟩=>⟨v,c,hk _ _ d⟩⟩)
theorem aaj {o:Oper} {dd:Nat} (hw:rk n ops E o) (d:o.dst=some dd) (g:dd < n) (h:pq P E o W λv W'=>LW P n ops Q rest (oy E dd v) W'):LW P n ops Q (o::rest) E W:=by
 rcases h with ⟨v,W',h1,c⟩ | ⟨W',h1,c⟩ | ⟨f,args,h1,c⟩
 ·exact V4 hw d g h1 c
 ·intro a ha
  unfold wpListIn
  rw [aP (hw.of ha)]
  unfold Oper.wpIn
  refine ⟨λ_ _=>trivial,?_⟩
  rw [ha.eval,Eu h1 fb,Oper.uponIn_skip,d]
  exact c _ (ha.put g _)
 ·exact X0 hw d g h1 c
theorem abP {o:Oper} (hw:rk n ops E o) (d:o.dst=none) (h:pq P E o W λ_ W'=>LW P n ops Q rest E W'):LW P n ops Q (o::rest) E W:=by
 rcases h with ⟨v,W',h1,c⟩ | ⟨W',h1,c⟩ | ⟨f,args,h1,c⟩
 ·intro a ha
  unfold wpListIn
  rw [aP (hw.of ha)]
  unfold Oper.wpIn
  refine ⟨λ_ _=>trivial,?_⟩
  rw [ha.eval,Eu h1 fb,Oper.uponIn_value,d]
  exact c _ (ha.zD _)
 ·exact Xs hw d h1 c
 ·intro a ha
  unfold wpListIn
  rw [aP (hw.of ha)]
  unfold Oper.wpIn
  refine ⟨λ_ _=>trivial,?_⟩
  rw [ha.eval,Eu h1 fb,Oper.uponIn_enter]
  refine KQ (cZ c ?_)
  rintro e i ⟨v,rfl,g⟩
  simp only [d]
  exact g _ (ha.zD _)
theorem lY {K:Value→World→Prop} {t:TypeId} {x:Operand} {v:Value} (a:ST dd F w W μ L) (c:lf E x=v) (h:∀W' b,ST dd F w W' μ ((b,.cells v.cells t (0,0))::L)→K (.pointer (some ⟨b,0,none⟩)) W'):pq P E ⟨d,.box t x,ty,pos,af,g⟩ W K :=
 .inl ⟨.pointer (some ⟨W.heap.size,0,none⟩),W.alloc (.cells v.cells t (0,0)),by
   show (do pure (.value (←Instr.box t (lf E x))):Sem Next).run P W=_
   rw [c]
   simp [Instr.box,newVar,newRow,newObj,Sem.run],h _ _ (a.alloc _)⟩
theorem lq {K:Value→World→Prop} {t:TypeId} {z:Value} (a:ST dd F w W μ L) (c:∀w,(zeroValue t).run P w= .ok z w) (h:∀W' b,ST dd F w W' μ ((b,.cells z.cells t (0,0))::L)→K (.pointer (some ⟨b,0,none⟩)) W'):pq P E ⟨d,.alloc t,ty,pos,af,g⟩ W K :=
 .inl ⟨.pointer (some ⟨W.heap.size,0,none⟩),W.alloc (.cells z.cells t (0,0)),by
   show (do pure (.value (←Instr.alloc t true (.tuple #[]))):Sem Next).run P W=_
   simp [Instr.alloc,c W,newVar,newRow,newObj,Sem.run],h _ _ (a.alloc _)⟩
theorem N3 {t e:TypeId} {m k:Nat} {z:Value} {qs:Array (Nat×Value)} {cs:Array Value} (g:P.underlying t=some (.slice e)) (d:∀w,(sizeOf e).run P w= .ok k w) (h:∀w,(zeroValue e).run P w= .ok z w) (hm:m*k≤16777216) (a:Instr.fill (λi=>some (i*k,k)) ((Array.range (m*k)).map λi=>(if m*k=0 then (#[]:Array Value) else z.cells)[i % (if m*k=0 then (#[]:Array Value) else z.cells).size]!) qs.toList=some cs) (W:World) :
  (Instr.buildSlice t m qs).run P W= .ok (.slice (some ⟨W.heap.size,0,none⟩) m m) (W.alloc (.cells cs e (0,0))):=by
 simp only [Instr.buildSlice,cK,bA g,bQ,d W]
 rw [aN eR]
 by_cases c:m*k=0
 ·simp only [c,aJ] at a ⊢
  simp only [cK,dC,bQ,a]
  simp [newRow,newObj,Sem.run]
 ·simp only [c,aH] at a ⊢
  simp only [cK,h W,dC,bQ,a]
  simp [newRow,newObj,Sem.run]
theorem lE {K:Value→World→Prop} {t e:TypeId} {m:Nat} {c:Array (Nat×Operand)} {qs:Array (Nat×Value)} {cs:Array Value} (a:ST dd F w W μ L) (j:c.map (λ(i,x)=>(i,lf E x))=qs) (k:∀W,(Instr.buildSlice t m qs).run P W= .ok (.slice (some ⟨W.heap.size,0,none⟩) m m) (W.alloc (.cells cs e (0,0)))) (h:∀W' b,ST dd F w W' μ ((b,.cells cs e (0,0))::L)→K (.slice (some ⟨b,0,none⟩) m m) W'):pq P E ⟨d,.buildSlice t m c,ty,pos,af,g⟩ W K :=
 .inl ⟨.slice (some ⟨W.heap.size,0,none⟩) m m,W.alloc (.cells cs e (0,0)),by
   show (do pure (.value (←Instr.buildSlice t m (c.map λ(i,x)=>(i,lf E x)))):Sem Next).run P W=_
   rw [j]
   simp [k W],h _ _ (a.alloc _)⟩
theorem ST.store {A B:LO} {b:Nat} {cs:Array Value} {t:TypeId} (a:ST dd F w W μ (A++(b,.cells cs t (0,0))::B)) (cs':Array Value) :
  ST dd F w (W.setRow b cs') μ (A++(b,.cells cs' t (0,0))::B):=by
 have c:=(a.box b _ (by simp:(b,Obj.cells cs t (0,0))∈A++(b,.cells cs t (0,0))::B)).1
 refine a.put ⟨Z,Z,Z,aZ _,by simp [World.setRow]⟩ (λk hk=>?_) (setRow_heap W b cs cs' t (0,0) c)
 simp only [World.setRow,dP]
 rw [aN λe=>hk e.symm]
theorem HW (P:Program) {W:World} {t:TypeId} {b off:Nat} {cs:Array Value} {T:TypeId} (v:Value) (a:∀w,(sizeOf t).run P w= .ok v.cells.size w) (h1:∀u∈v.cells.toList,u.oneCell'=true) (c:W.heap[b]? =some (.cells cs T (0,0))) (d:off+v.cells.size≤cs.size):(Instr.storeAt t (.pointer (some ⟨b,off,none⟩)) v).run P W= .ok () (W.setRow b (cs.toList.take off++v.cells.toList++cs.toList.drop (off+v.cells.size)).toArray):=by
 have:=jx (P:=P) b off T v.cells.toList 0 cs W c (by simpa using d) h1
 simp [Instr.storeAt,Instr.sureAddr,storeVar,a W]
 simpa using this
theorem Gj {K:Value→World→Prop} (A:LO) {B:LO} {t:TypeId} {x y:Operand} (v:Value) {b off:Nat} {cs:Array Value} {T:TypeId} (cs':Array Value) (a:ST dd F w W μ (A++(b,.cells cs T (0,0))::B)) (n:lf E x= .pointer (some ⟨b,off,none⟩)) (o:lf E y=v) (c:∀w,(sizeOf t).run P w= .ok v.cells.size w) (h1:∀u∈v.cells.toList,u.oneCell'=true) (k:off+v.cells.size≤cs.size) (j:(cs.toList.take off++v.cells.toList++cs.toList.drop (off+v.cells.size)).toArray=cs') (h:∀W',ST dd F w W' μ (A++(b,.cells cs' T (0,0))::B)→K undef W'):pq P E ⟨d,.store t x y,ty,pos,af,g⟩ W K :=
 .inr (.inl ⟨W.setRow b cs',by
   show (do Instr.storeAt t (lf E x) (lf E y); pure .skip:Sem Next).run P W=_
   have i:=(a.box b _ (by simp:(b,Obj.cells cs T (0,0))∈A++(b,.cells cs T (0,0))::B)).1
   rw [n,o]
   simp only [cK,HW P v c h1 i k,j,bQ,dC],h _ (a.store cs')⟩)
def lF (dd:Bool) (P:Program) (f:FuncId) (args:List Value) (w:World) (v:Value):Prop:=Calls P f args.toArray w λe a=>e= .returned v∧Ex dd w a
theorem O7 {f:FuncId} {fv:Operand} {ax:Array Operand} {ats:Array TypeId} {caps args:Array Value} (a:lf E fv= .func (.func f) #[] caps) (he:∀args w,(callFunc f args).run P w= .ok (.enter f args) w) (ha:ax.map (lf E)++caps=args) :
  (execOp (lf E) ⟨d,.call ⟨.value fv,ax,ats⟩,ty,pos,af,g⟩).run P W= .ok (.enter f args) W:=by
 show (do let d ←resolve (lf E) ⟨.value fv,ax,ats⟩ ty; invoke d.target d.args:Sem Next).run P W=_
 rw [←ha]
 simp only [resolve,a,Deferred.ofValue,cK,dC,bQ,invoke]
 simp [he]
theorem KL {K:Value→World→Prop} {f:FuncId} {fv:Operand} {ax:Array Operand} {ats:Array TypeId} {caps args:Array Value} (a:lf E fv= .func (.func f) #[] caps) (he:∀args w,(callFunc f args).run P w= .ok (.enter f args) w) (ha:ax.map (lf E)++caps=args) (h:Calls P f args W λe c=>∃v,e= .returned v∧K v c):pq P E ⟨d,.call ⟨.value fv,ax,ats⟩,ty,pos,af,g⟩ W K :=
 .inr (.inr ⟨f,args,O7 a he ha,h⟩)
theorem KN {K:Value→World→Prop} {f:FuncId} {fv:Operand} {ax:Array Operand} {ats:Array TypeId} {args:List Value} {v:Value} (a:ST dd F w W μ L) (j:lf E fv= .func (.func f) #[] #[]) (he:∀args w,(callFunc f args).run P w= .ok (.enter f args) w) (ha:(ax.map (lf E)++(#[]:Array Value))=args.toArray) (i:lF dd P f args W v) (h:∀W',ST dd F w W' μ L→K v W'):pq P E ⟨d,.call ⟨.value fv,ax,ats⟩,ty,pos,af,g⟩ W K :=
 KL j he ha (cZ i λ_ _ ⟨h1,c⟩=>⟨v,h1,h _ (a.PZ c)⟩)
def lQ {α:Type} (e:TypeId) (enc:α→List Value) (k:Nat) (v:Value) (l:List α) (R:LO):Prop :=
 (v= .slice none 0 0∧l=[]∧R=[])∨
 ∃g cap a,v= .slice (some ⟨g,0,none⟩) l.length cap∧R=[(g,.cells a e (0,0))]∧l.length≤cap∧cap≤maxLen∧a.size=cap*k∧a.toList.take (l.length*k)=(l.map enc).flatten
theorem uD {α:Type} {enc:α→List Value} {k:Nat} (hk:∀x,(enc x).length=k):∀l:List α,(l.map enc).flatten.length=l.length*k
 | []=>by simp
 | x::l=>by simp [uD hk l,hk x,dn,kf]
theorem AK {α:Type} {enc:α→List Value} {k:Nat} (hk:∀x,(enc x).length=k):∀(l:List α) (i:Nat) (x:α),l[i]? =some x→∀j y,(enc x)[j]? =some y→(l.map enc).flatten[i*k+j]? =some y
 | [],i,x,h=>by cases h
 | z::l,0,x,h=>by
  simp at h; subst h
  intro j y a
  have c:j < (enc z).length:=(bT.1 a).1
  simp [gp,c]
  rw [dD c] at a
  simpa using a
 | z::l,i+1,x,h=>by
  intro j y a
  have:=AK hk l i x (by simpa using h) j y a
  simp only [bY,bX]
  rw [ft (by rw [hk z]; have:=Nat.le_mul_of_pos_left k (Nat.succ_pos i); simp [dn] at *; omega),hk z]
  rw [show (i+1)*k+j-k=i*k+j by rw [dn]; omega]
  exact this
theorem Mw {α:Type} {enc:α→List Value} {k:Nat} (hk:∀x,(enc x).length=k):∀(l:List α) (q:Nat) (y:Value),(l.map enc).flatten[q]? =some y→∃i x j,l[i]? =some x∧(enc x)[j]? =some y∧q=i*k+j
 | [],q,y,h=>by simp at h
 | z::l,q,y,h=>by
  simp only [bY,bX] at h
  by_cases c:q < k
  ·rw [gF (by rw [hk]; exact c)] at h
   exact ⟨0,z,q,Z,h,fb⟩
  ·rw [ft (by rw [hk]; omega),hk] at h
   obtain ⟨i,x,j,h1,a,d⟩:=Mw hk l (q-k) y h
   exact ⟨i+1,x,j,by simpa using h1,a,by rw [dn]; omega⟩
theorem lQ.nil {α:Type} (e:TypeId) (enc:α→List Value) (k:Nat):lQ e enc k (.slice none 0 0) [] []:=.inl ⟨Z,Z,Z⟩
theorem lQ.sl {α:Type} {e:TypeId} {enc:α→List Value} {k:Nat} {v:Value} {l:List α} {R:LO} {m:mc} (h:lQ e enc k v l R) (hk:∀x,(enc x).length=k) (hm:∀b o,(b,o)∈R→m b=some o):Sl (Pl enc) k m v l:=by
 rcases h with ⟨rfl,rfl,rfl⟩ | ⟨g,cap,a,rfl,rfl,h1,d,s,n⟩
 ·exact Sl.nil _ _ _
 ·refine ⟨_,cap,Z,h1,d,λ_=>⟨g,0,a,e,(0,0),Z,hm _ _ fb,λi x p=>⟨enc x,hk x,Z,λj y q=>?_⟩⟩⟩
  have:=AK hk l i x p j y q
  rw [←n] at this
  have c:i*k+j < l.length*k:=by
   have:=(bT.1 this).1
   simp at this; omega
  rw [eC c] at this
  simpa using this
theorem lQ.len {α:Type} {e:TypeId} {enc:α→List Value} {k:Nat} {v:Value} {l:List α} {R:LO} (h:lQ e enc k v l R):l.length≤9223372036854775807:=by
 rcases h with ⟨rfl,rfl,rfl⟩ | ⟨g,cap,a,rfl,rfl,h1,c,d,i⟩
 ·simp
 ·unfold maxLen at c; omega
theorem lQ.fr {α:Type} {e:TypeId} {enc:α→List Value} {k:Nat} {v:Value} {l:List α} {R X Y:LO} (h:lQ e enc k v l R) (a:ST dd lN w W μ (X++(R++Y))):Fr w.heap.size v:=by
 rcases h with ⟨rfl,rfl,rfl⟩ | ⟨g,cap,d,rfl,rfl,h1,i,j,n⟩
 ·exact Fr.nil _
 ·intro b c
  simp [Value.ownBlock] at c
  subst c
  rcases (a.box g _ (by simp; exact .inr (.inl Z))).2.2 with h | h
  ·exact h
  ·exact h.elim
theorem lQ.lit {α:Type} {e:TypeId} {enc:α→List Value} {k b m:Nat} {l:List α} {cs:Array Value} (hm:l.length=m) (c:m≤maxLen) (d:cs.toList=(l.map enc).flatten) (a:cs.size=m*k):lQ e enc k (.slice (some ⟨b,0,none⟩) m m) l [(b,.cells cs e (0,0))]:=by
 subst hm
 refine .inr ⟨b,_,cs,Z,Z,aZ _,c,a,?_⟩
 rw [←d,←a]
 exact dM (by rw [dS]; exact aZ _)
def nF {α:Type} (a:Nat) (l m:List α):Option (List α):=if (l.length+m.length)*a≤140737488355328∧l.length+m.length≤maxLen then some (l++m) else none
theorem QD {K:Value→World→Prop} {α:Type} {e t:TypeId} {enc:α→List Value} {k ae:Nat} {z v vs:Value} {l m r:List α} {R:LO} (X:LO) {Y:LO} {x y:Operand} {i:TypeInfo} (p:ST dd F w W μ (X++(R++Y))) (hk:∀x,(enc x).length=k) (b3:0 < k) (h1:∀x,∀u∈enc x,u.oneCell'=true) (ht:P.underlying t=some (.slice e)) (hi:P.info? e=some i) (hz:i.zero=some z) (b7:z.cells.size=k) (b4:i.size=k) (b1:i.bytes=ae) (hx:lf E x=v) (hy:lf E y=vs) (hR:lQ e enc k v l R) (hs:Sl (Pl enc) k (hp W) vs m) (n:nF ae l m=some r) (h:∀W' v' R',ST dd F w W' μ (X++(R'++Y))→lQ e enc k v' r R'→K v' W'):pq P E ⟨d,.call ⟨.builtin .append,#[x,y],#[t,t]⟩,ty,pos,af,g⟩ W K:=by
 unfold nF at n
 split at n
 case isFalse=>cases n
 rename_i ak
 cases n
 have ab:∀(V:Value) (W':World),(Builtin.append_ #[t,t] ty #[v,vs]).run P W= .ok V W'→(execOp (lf E) ⟨d,.call ⟨.builtin .append,#[x,y],#[t,t]⟩,ty,pos,af,g⟩).run P W= .ok (.value V) W':=by
  intro V W' hV
  show (do let d ←resolve (lf E) ⟨.builtin .append,#[x,y],#[t,t]⟩ ty; invoke d.target d.args:Sem Next).run P W=_
  simp [resolve,invoke,builtin,hx,hy,hV]
 obtain ⟨A,c,rfl,bc,bd,b2⟩:=hs
 have aa:W.ownsRow 0 e k v l.length (l.map enc).flatten:=by
  refine ⟨uD hk l,?_⟩
  rcases hR with ⟨rfl,rfl,rfl⟩ | ⟨g,cap,J,rfl,rfl,h1,h2,h3,h4⟩
  ·exact .inl ⟨Z,Z⟩
  ·exact .inr ⟨g,cap,J,Z,eG _,(p.box g _ fb).1,h1,h2,h3,h4⟩
 have av:m.length=0∨∃ad,A=some ad∧∀j u,(m.map enc).flatten[j]? =some u→W.cell? (ad.add j)=some u:=by
  rcases eW m.length with O | O
  ·exact .inl O
  ·obtain ⟨b,off,cs,T,fr,rfl,h6,h7⟩:=b2 O
   refine .inr ⟨⟨b,off,none⟩,Z,λj u hu=>?_⟩
   obtain ⟨i,x,q,h8,h9,rfl⟩:=Mw hk m j u hu
   obtain ⟨ys,_,ay,az⟩:=h7 i x h8
   cases ay
   rw [ek,gT W b (off+(i*k+q)) cs T fr h6,←eL]
   exact az q u h9
 have au:∀u∈(m.map enc).flatten,u.oneCell'=true:=by
  intro u hu
  obtain ⟨ys,b6,b5⟩:=jX.1 hu
  obtain ⟨x,_,rfl⟩:=bW.1 b6
  exact h1 x u b5
 by_cases ap:m.length=0
 ·have hm:m=[]:=bF ap
  subst hm
  have hr:(Builtin.append_ #[t,t] ty #[v,.slice A 0 c]).run P W= .ok v W:=by
   rcases aa.2 with ⟨rfl,O⟩ | ⟨g,cap,J,rfl,_,hg,aq,_,bf,_⟩
   ·cases A with
    | none=>simp [Builtin.append_,bA ht,sizeOf,typeInfo,hi,Builtin.lenOf,Builtin.firstCells]
    | some ad=>simp [Builtin.append_,bA ht,sizeOf,typeInfo,hi,Builtin.lenOf,Builtin.firstCells,loadCells,loadCellsFrom]
   ·cases A with
    | none=>simp [Builtin.append_,bA ht,sizeOf,typeInfo,hi,Builtin.lenOf,Builtin.firstCells,aq,storeCells]
    | some ad=>simp [Builtin.append_,bA ht,sizeOf,typeInfo,hi,Builtin.lenOf,Builtin.firstCells,loadCells,loadCellsFrom,aq,storeCells]
  exact .inl ⟨v,W,ab _ _ (by simpa using hr),by simpa using h W v R p (by simpa using hR)⟩
 rcases av with O | ⟨ad,rfl,a6⟩
 ·exact absurd O ap
 obtain ⟨v',W',hr,ai,s,ba,M⟩:=run_append_own_at (P:=P) W 0 t ty e i z k ae ht hi hz b4 b1 b7 b3 v l.length (l.map enc).flatten aa ad m.length c (m.map enc).flatten (uD hk m) a6 au ak.2 ak.1 (eG _)
 have ag:=sR _ _ _ _ hr
 refine .inl ⟨v',W',ab _ _ hr,?_⟩
 have hlen:(l++m).length=l.length+m.length:=by simp
 rcases ai.2 with ⟨_,O⟩ | ⟨U,a7,a8,rfl,_,ah,b9,al,an,aw⟩
 ·omega
 have aj:lQ e enc k (.slice (some ⟨U,0,none⟩) (l.length+m.length) a7) (l++m) [(U,.cells a8 e (0,0))] :=
  .inr ⟨U,a7,a8,by rw [hlen],Z,eR,al,an,by rw [hlen,aw]; simp⟩
 refine h W' _ _ ?_ aj
 have ar:=p.nd
 rcases hR with ⟨rfl,rfl,rfl⟩ | ⟨g,cap,J,rfl,rfl,q1,q2,q3,q4⟩
 ·-- nil: a new block
  have a1:W.heap.size≤U:=by
   rcases M with h | h <;> simp [Value.ownBlock] at h
   omega
  have hex:Ex dd W W':=⟨s.os,s.tape,s.output,yR.of ag,s.size,λb n=>s.block b n (by simp [Value.ownBlock])⟩
  have h1:=p.PZ hex
  refine ⟨h1.os,h1.tape,h1.output,h1.drawn,h1.size,h1.oh,h1.mem,λb o n=>?_,?_⟩
  ·simp only [aX,aY] at n
   rcases n with n | n | n
   ·exact h1.box b o (by simp [n])
   ·cases n
    refine ⟨ah,?_,.inl (ee p.size a1)⟩
    cases hm:μ U with
    | none=>rfl
    | some x=>have:=p.KI hm; omega
   ·exact h1.box b o (by simp [n])
  ·simp only [bN,cV,bY,iz] at ar ⊢
   refine (iR fL).2 (ey.2 ⟨λhm=>?_,ar⟩)
   rw [←cV] at hm
   obtain ⟨⟨b,o⟩,n,L⟩:=bW.1 hm
   have b0:(b,o)∈X++([]++Y):=by simpa using n
   have:=p.MJ b0
   simp at L
   omega
 ·by_cases ao:U=g
  ·subst ao
   have O:ST dd F w W μ (X++(U,Obj.cells J e (0,0))::Y):=by simpa using p
   have hold:∀b,b < W.heap.size→b≠U→W'.heap[b]? =W.heap[b]?:=λb n I=>s.block b n (by simp [Value.ownBlock]; exact I)
   have G:=O.nd
   simp only [cV,bY] at G
   have I:∀b o,(b,o)∈X++Y→b≠U:=λb o n L=>by
    subst L
    rcases aX.1 n with n | n
    ·exact (cL.1 G).2.2 b (bW.2 ⟨_,n,Z⟩) b fb Z
    ·exact (ey.1 (cL.1 G).2.1).1 (bW.2 ⟨_,n,Z⟩)
   have Q:=O.box U (Obj.cells J e (0,0)) fb
   refine ⟨s.os.trans p.os,s.tape.trans p.tape,s.output.trans p.output,yR.trans p.drawn (yR.of ag),ee p.size s.size,λb n hF=>?_,λb o n=>?_,λb o n=>?_,by simpa using G⟩
   ·rw [hold b (eu n p.size) (λL=>by subst L; rcases Q.2.2 with h | h; omega; exact hF h)]
    exact p.oh b n hF
   ·rw [hold b (p.KI n) (λL=>by subst L; rw [Q.2.1] at n; cases n)]
    exact p.mem b o n
   ·simp only [aX,aY] at n
    rcases n with n | n | n
    ·obtain ⟨r1,r2⟩:=p.box b o (by simp [n])
     exact ⟨by rw [hold b (rq r1) (I b o (by simp [n]))]; exact r1,r2⟩
    ·cases n; exact ⟨ah,Q.2⟩
    ·obtain ⟨r1,r2⟩:=p.box b o (by simp [n])
     exact ⟨by rw [hold b (rq r1) (I b o (by simp [n]))]; exact r1,r2⟩
  ·have a1:W.heap.size≤U:=by
    rcases M with h | h <;> simp [Value.ownBlock] at h
    ·exact absurd h ao
    ·omega
   have O:ST dd F w W μ (X++(g,Obj.cells J e (0,0))::Y):=by simpa using p
   have Q:=O.box g (Obj.cells J e (0,0)) fb
   have G:=O.nd
   simp only [cV,bY] at G
   have I:∀b o,(b,o)∈X++Y→b≠g:=λb o n L=>by
    subst L
    rcases aX.1 n with n | n
    ·exact (cL.1 G).2.2 b (bW.2 ⟨_,n,Z⟩) b fb Z
    ·exact (ey.1 (cL.1 G).2.1).1 (bW.2 ⟨_,n,Z⟩)
   have hold:∀b,b < W.heap.size→b≠g→W'.heap[b]? =W.heap[b]?:=λb n I=>s.block b n (by simp [Value.ownBlock]; exact I)
   refine ⟨s.os.trans p.os,s.tape.trans p.tape,s.output.trans p.output,yR.trans p.drawn (yR.of ag),ee p.size s.size,λb n hF=>?_,λb o n=>?_,λb o n=>?_,?_⟩
   ·rw [hold b (eu n p.size) (λL=>by subst L; rcases Q.2.2 with h | h; omega; exact hF h)]
    exact p.oh b n hF
   ·rw [hold b (p.KI n) (λL=>by subst L; rw [Q.2.1] at n; cases n)]
    exact p.mem b o n
   ·simp only [aX,aY] at n
    rcases n with n | n | n
    ·obtain ⟨r1,r2⟩:=p.box b o (by simp [n])
     exact ⟨by rw [hold b (rq r1) (I b o (by simp [n]))]; exact r1,r2⟩
    ·cases n
     refine ⟨ah,?_,.inl (ee p.size a1)⟩
     cases hm:μ U with
     | none=>rfl
     | some x=>have:=p.KI hm; omega
    ·obtain ⟨r1,r2⟩:=p.box b o (by simp [n])
     exact ⟨by rw [hold b (rq r1) (I b o (by simp [n]))]; exact r1,r2⟩
   ·have aE:(X.map (·.1)++Y.map (·.1)).Nodup:=(ey.1 ((iR fL).1 G)).2
    simp only [cV,bY,iz]
    refine (iR fL).2 (ey.2 ⟨λhm=>?_,aE⟩)
    rw [←cV] at hm
    obtain ⟨⟨b,o⟩,n,L⟩:=bW.1 hm
    have:=p.MJ (b:=b) (o:=o) (by rcases aX.1 n with h | h <;> simp [h])
    simp at L
    omega
end
end Go.Proofs.YtlfibegniofmjaaGreat
namespace Go.Proofs.YtlfibegniofmjaaGreat
open Go.RowKit
variable [M:Md]
def Bi (l:List Value):Nat→Value:=λt=>l.getD t undef
def Ab (P:Program) (fn:Func) (R:Ending→World→Prop):pJ
 | .normal,E,W | .ret,E,W=>∃v,(∀tmps:Array Value,(∀t,tmps.getD t undef=E t)→(results fn tmps).run P W= .ok v W)∧R (.returned v) W
 | _,_,_=>False
theorem Cx {P:Program} {f:FuncId} {fn:Func} {c:Code} {args:List Value} {w:World} {R:Ending→World→Prop} {n:Nat} (q:P.funcs[f]? =some fn) (p:fn.body=some c) (s:fn.ntmps=n) (ha:args.length≤n) (h:@CW DG P n c (Ab P fn R) (Bi args) w):Calls P f args.toArray w R:=by
 refine calls_of_wp q p ?_
 have j:@Ag DG n { tmps:=args.toArray++Array.replicate (fn.ntmps-args.toArray.size) undef,defers:=[] } (Bi args):=by
  refine ⟨fo,Z,λt=>?_⟩
  simp only [Bi,dB,gq,gh,gK,dY,fz]
  by_cases o:t < args.length
  ·rw [aP o]
  ·rw [aN o,eV eR]
   split <;> simp
 refine jy ((kD (n:=0)).1 (h _ j)) (λe a u g=>?_)
 cases e with
 | normal=>
  obtain ⟨E,d,v,k,i⟩:=g
  exact ⟨d.2.1,v,k _ d.2.2,i⟩
 | ret=>
  obtain ⟨E,d,v,k,i⟩:=g
  exact ⟨d.2.1,v,k _ d.2.2,i⟩
 | exit id=>obtain ⟨E,d,h⟩:=g; exact h.elim
 | goto l=>obtain ⟨E,d,h⟩:=g; exact h.elim
 | panic c=>exact g.2.elim
 | outgrown=>exact g.elim
section
variable {P:Program} {fn:Func} {R:Ending→World→Prop} {E:mD} {W:World}
theorem ma {r:Tmp} {v:Value} (a:fn.results=#[.tmp r]) (d:E r=v) (h:R (.returned v) W):Ab P fn R .ret E W :=
 ⟨v,λtmps c=>by rw [results_tmp a,c,d],h⟩
theorem zh {r s:Tmp} {v u:Value} (c:fn.results=#[.tmp r,.tmp s]) (d:E r=v) (hu:E s=u) (h:R (.returned (.tuple #[v,u])) W):Ab P fn R .ret E W :=
 ⟨.tuple #[v,u],λtmps a=>by rw [results_tmp2 c,a,a,d,hu],h⟩
theorem rK (a:fn.results=#[]) (h:R (.returned (.tuple #[])) W):Ab P fn R .ret E W :=
 ⟨.tuple #[],λtmps _=>by rw [results_none a],h⟩
theorem mR {r:Tmp} {t:TypeId} {a:Addr} {v:Value} (c:fn.results=#[.cell r t]) (i:E r= .pointer (some a)) (g:(Instr.loadAt t (.pointer (some a))).run P W= .ok v W) (h:R (.returned v) W):Ab P fn R .ret E W :=
 ⟨v,λtmps d=>by
  have h1:(loadVar t a).run P W= .ok v W:=by simpa [Instr.loadAt,Instr.sureAddr] using g
  simp [results,c,d,i,asAddr,h1],h⟩
theorem te (h:Ab P fn R .ret E W):Ab P fn R .normal E W:=h
end
section
variable {Q:pJ} {E:mD} {W:World} {K:mD→World→Prop} {id j:Nat}
theorem lD (h:Q .normal E W):yA id Q .normal E W:=h
theorem mG (h:Q .ret E W):yA id Q .ret E W:=h
theorem ry (h:Q .normal E W):yA id Q (.exit id) E W:=by simp [yA]; exact h
theorem UP (a:(j=id)=False) (h:Q (.exit j) E W):yA id Q (.exit j) E W:=by simp only [yA,a,aH]; exact h
theorem kW (h:K E W):tT K Q .normal E W:=h
theorem ly (h:Q .ret E W):tT K Q .ret E W:=h
theorem nv (h:Q (.exit j) E W):tT K Q (.exit j) E W:=h
end
theorem V3 {i N:Nat} (hi:i < N) (a:N≤9223372036854775807):IntKind.i64.wrap ((i:Int)+1)=((i+1:Nat):Int):=by
 rw [IntWalk.i64_in _ eR]
 omega
theorem Xe {P:Program} {n:Nat} {Q:pJ} {E:mD} {W:World} {g s r2 r6 o p A u:Nat} {t1 t2 t3 t4 t5 t6 t7:TypeId} {T U Y:String} {f1 f2 f3:Array Edge} {body:Code} (I:Nat→mD→World→Prop) (N:Nat) (M:N≤9223372036854775807) (G:I 0 E W) (O:o < n) (R:u < n) (z:p < n) (L:∀i E W,I i E W→E p= .int .i64 (i:Nat)∧E A= .int .i64 (N:Nat)) (round:∀i E W,i < N→I i E W→CW P n (.block s body) (tT (λE' W'=>E' p= .int .i64 (i:Nat)∧I (i+1) (oy (oy E' u (.int .i64 ((i+1:Nat):Int))) p (.int .i64 ((i+1:Nat):Int))) W') (yA g Q)) (oy E o (.bool true)) W) (done:∀E W,I N E W→Q .normal (oy E o (.bool false)) W) :
  CW P n (.block g (.loop (.seq (.region r2 #[⟨some o,.binOp .lss t1 (.tmp p) (.tmp A) t2,t3,T,f1,none⟩] false)
   (.seq (.cond (.tmp o) .skip (.exit g)) (.seq (.block s body)
    (.region r6 #[⟨some u,.binOp .add t4 (.tmp p) (.const (.int .i64 1)) t5,t6,U,f2,none⟩,⟨some p,.move (.tmp u),t7,Y,f3,none⟩] false)))))) Q E W:=by
 refine mA (nQ (λm E W=>∃i,i≤N∧m=N-i∧I i E W) N ⟨0,eG _,eR,G⟩ ?_)
 rintro m E W ⟨i,hi,rfl,d⟩
 obtain ⟨w,x⟩:=L i E W d
 refine kY (kX (Oi (.inl Z) Z O (lI w x Z) (lC ?_)))
 refine kW (kY ?_)
 have t:oy E o (.bool (decide ((i:Int) < (N:Int)))) o= .bool (decide ((i:Int) < (N:Int))):=by simp [oy]
 by_cases q:i < N
 ·have y:decide ((i:Int) < (N:Int))=true:=by simp; omega
  rw [y] at t ⊢
  refine Aw t (lU (kW (kY ?_)))
  refine KK (round i E W q d) (λe E' W' h=>?_)
  cases e with
  | normal=>
   obtain ⟨h1,J⟩:=h
   refine kW ?_
   have hw:IntKind.i64.wrap ((i:Int)+1)=((i+1:Nat):Int):=V3 q M
   refine kX (Oi (v:=.int .i64 ((i+1:Nat):Int)) (.inl Z) Z R (lI (k:=.i64) (a:=(i:Int)) (b:=1) h1 Z (by simp only [PV,hw])) ?_)
   refine Oi (v:=.int .i64 ((i+1:Nat):Int)) (.inl Z) Z z (kT (by simp [lf,oy])) (lC ?_)
   exact kW ⟨N-(i+1),eR,i+1,eR,Z,J⟩
  | exit j=>exact h
  | goto l=>exact h
  | ret=>exact h
  | panic c=>exact h
  | outgrown=>exact h
 ·have y:decide ((i:Int) < (N:Int))=false:=by simp; omega
  rw [y] at t ⊢
  obtain rfl:i=N:=by omega
  refine sM t (nB (nv (nv (ry ?_))))
  exact done E W d
theorem Wo {P:Program} {n:Nat} {x:Code} {Q:pJ} {K:mD→World→Prop} {E:mD} {W:World} (J:mD→World→Prop) (h:CW P n x (tT J Q) E W) (k:∀E W,J E W→K E W):CW P n x (tT K Q) E W :=
 KK h (λe E W h=>by cases e <;> first | exact k E W h | exact h)
theorem aaF {α:Type} {c:Bool} {x y r:α} (a:c=true) (h:(if c=true then x else y)=r):x=r:=by rw [aP a] at h; exact h
theorem aaJ {α:Type} {c:Bool} {x y r:α} (a:c=false) (h:(if c=true then x else y)=r):y=r:=by rw [aN (by rw [a]; decide)] at h; exact h
theorem bind_some {α β:Type} {o:Option α} {f:α→Option β} {r:β} (h:o.bind f=some r):∃y,o=some y∧f y=some r:=by
 cases o with
 | none=>cases h
 | some y=>exact ⟨y,Z,h⟩
theorem UT (b:Bool):b=true∨b=false:=by cases b <;> simp
theorem Vx {α:Type} {l:List α} {i:Nat} (h:i < l.length):∃x xs,l.drop i=x::xs∧l[i]? =some x∧l.drop (i+1)=xs:=by
 cases a:l.drop i with
 | nil=>have:=bI List.length a; simp at this; omega
 | cons x xs=>exact ⟨x,xs,Z,by rw [←List.head?_drop,a]; rfl,by rw [←List.drop_drop,a]; rfl⟩
theorem GF {P:Program} {W:World} (d:Nat) (xs ys:Array Value):(Op.eqFields d xs ys []).run P W= .ok true W:=by simp [Op.eqFields]
theorem tR {P:Program} {W:World} {d:Nat} {xs ys:Array Value} {f:Field} {c:List Field} {a b:Value} {r s:Bool} (i:f.name≠ "_") (ha:(part f.type xs f.offset).run P W= .ok a W) (g:(part f.type ys f.offset).run P W= .ok b W) (he:(Op.equalIn d f.type a b).run P W= .ok r W) (h:(Op.eqFields d xs ys c).run P W= .ok s W):(Op.eqFields d xs ys (f::c)).run P W= .ok (r&&s) W:=by
 simp only [Op.eqFields,ne_eq,i,not_false_eq_true,aJ,cK,ha,g,he,bQ]
 cases r <;> simp [h]
theorem EC {P:Program} {W:World} {t:TypeId} {k:Nat} {cs:Array Value} {off:Nat} {v:Array Value} (a:∀w,(isAgg t).run P w= .ok true w) (c:∀w,(sizeOf t).run P w= .ok k w) (d:cs.extract off (off+k)=v):(part t cs off).run P W= .ok (.agg v) W:=by
 simp [part,a W,c W,d]
theorem uj {P:Program} {W:World} {t:TypeId} {cs:Array Value} {off:Nat} {v:Value} (a:∀w,(isAgg t).run P w= .ok false w) (c:cs[off]? =some v):(part t cs off).run P W= .ok v W:=by
 simp [part,a W,c]
def mx (a b:ByteArray):Bool:=a.toList==b.toList
theorem YE {P:Program} {t:TypeId} (c:P.underlying t=some .string) (d:Nat) (a b:ByteArray) (W:World):(Op.equalIn (d+1) t (.string a) (.string b)).run P W= .ok (mx a b) W:=run_equalIn_string W d t a b c
theorem eqI {P:Program} {t:TypeId} {k:IntKind} (c:P.underlying t=some (.int k)) (d:Nat) (a b:Int) (W:World):(Op.equalIn (d+1) t (.int k a) (.int k b)).run P W= .ok (a==b) W:=run_equalIn_int W d t k k a b c
theorem nY {P:Program} {op:BinOp} {t:TypeId} {x y:Operand} {a b:Array Value} (c:P.eqGuardType P.depth t=false) (W:World):(eqGuard op t x y (.agg a) (.agg b)).run P W= .ok () W:=by
 cases op <;> simp [eqGuard] <;> (intro h; rw [c] at h; cases h)
theorem so {P:Program} {t:TypeId} {a b:Array Value} {r:Bool} (h:∀W,(Op.equalIn Op.maxDepth t (.agg a) (.agg b)).run P W= .ok r W) (W:World):(binOp .eql t (.agg a) (.agg b)).run P W= .ok (.bool r) W:=by
 simp [binOp,Op.equal,h W]
theorem Ds {P:Program} {t:TypeId} {a b:Array Value} {r:Bool} (h:∀W,(Op.equalIn Op.maxDepth t (.agg a) (.agg b)).run P W= .ok r W) (W:World):(binOp .neq t (.agg a) (.agg b)).run P W= .ok (.bool !r) W:=by
 simp [binOp,Op.equal,h W]
end Go.Proofs.YtlfibegniofmjaaGreat
namespace Go.Proofs.YtlfibegniofmjaaGreat
open Go.RowKit
variable [M:Md]
variable {dd:Bool}
def lu (k:IntKind) (x:Int):List Value:=[.int k x]
def aaM (x:Bool):List Value:=[.bool x]
def yj (x:ByteArray):List Value:=[.string x]
theorem uk (k:IntKind) (x:Int):∀u∈lu k x,u.oneCell'=true:=by intro u hu; simp [lu] at hu; subst hu; rfl
theorem acg (x:Bool):∀u∈aaM x,u.oneCell'=true:=by intro u hu; simp [aaM] at hu; subst hu; rfl
theorem EJ (x:ByteArray):∀u∈yj x,u.oneCell'=true:=by intro u hu; simp [yj] at hu; subst hu; rfl
def zS:ByteArray:=⟨#[]⟩
def uJ (a b:ByteArray):Bool:=Op.bytesLess a.toList b.toList
@[irreducible] def lP:Nat:=18446744073709551616
theorem sP:lP=18446744073709551616:=by unfold lP; rfl
def mT {α:Type} (l:List α) (i:Int):Option α:=if 0≤i then l[i.toNat]? else none
theorem lR {α:Type} {l:List α} {i:Int} {x:α} (h:mT l i=some x):0≤i:=by
 unfold mT at h; split at h
 ·assumption
 ·cases h
theorem lK {α:Type} {l:List α} {i:Int} {x:α} (h:mT l i=some x):l[i.toNat]? =some x:=by
 unfold mT at h; split at h
 ·exact h
 ·cases h
theorem Ge {α:Type} (l:List α) (i:Nat):mT l (i:Int)=l[i]?:=by simp [mT]
def Dk (s:ByteArray) (i:Int):Option UInt8:=if 0≤i then s[i.toNat]? else none
theorem Bc {s:ByteArray} {i:Int} {x:UInt8} (h:Dk s i=some x):0≤i:=by
 unfold Dk at h; split at h
 ·assumption
 ·cases h
theorem EG {s:ByteArray} {i:Int} {x:UInt8} (h:Dk s i=some x):s[i.toNat]? =some x:=by
 unfold Dk at h; split at h
 ·exact h
 ·cases h
section
variable {F:Nat→Prop} {w W:World} {μ:mc} {L L':LO} {α:Type} {e:TypeId} {enc:α→List Value} {k:Nat} {v:Value} {l:List α} {R:LO}
theorem ST.at_ (h:ST dd F w W μ L) {b:Nat} {o:Obj} (a:(b,o)∈L):hp W b=some o:=(h.box b o a).1
theorem lQ.YJ (h:lQ e enc k v l R) (hk:∀x,(enc x).length=k) (a:ST dd F w W μ L) (c:∀p,p∈R→p∈L):Sl (Pl enc) k (hp W) v l :=
 h.sl hk (λ_ _ d=>a.at_ (c _ d))
theorem lQ.form (h:lQ e enc k v l R):∃A c,v= .slice A l.length c:=by
 rcases h with ⟨rfl,rfl,rfl⟩ | ⟨g,cap,a,rfl,rfl,h1,d,i,j⟩
 ·exact ⟨_,_,Z⟩
 ·exact ⟨_,_,Z⟩
theorem Sl.form {R:sV α} (h:Sl R k μ v l):∃A c,v= .slice A l.length c:=let ⟨A,c,h,_⟩:=h; ⟨A,c,h⟩
theorem lQ.Yu (h:lQ e enc k v l R) (c:ST dd lN w W μ L) (i:∀p,p∈R→p∈L):Fr w.heap.size v:=by
 rcases h with ⟨rfl,rfl,rfl⟩ | ⟨g,cap,a,rfl,rfl,h1,j,n,o⟩
 ·exact Fr.nil _
 ·intro b d
  simp [Value.ownBlock] at d
  subst d
  rcases (c.box g (.cells a e (0,0)) (i _ (aY.2 Z))).2.2 with h | h
  ·exact h
  ·exact h.elim
theorem Sl.lit {b m:Nat} {cs:Array Value} (hk:∀x,(enc x).length=k) (hm:l.length=m) (c:m≤maxLen) (a:cs.toList=(l.map enc).flatten) (d:μ b=some (.cells cs e (0,0))):Sl (Pl enc) k μ (.slice (some ⟨b,0,none⟩) m m) l :=
 (lQ.lit (e:=e) (b:=b) hm c a (by have:=bI List.length a; rw [uD hk,dS,hm] at this; exact this)).sl hk (λg o h=>by simp at h; obtain ⟨rfl,rfl⟩:=h; exact d)
theorem Fr.box (h:ST dd lN w W μ L) {b m c:Nat} {o:Obj} (d:(b,o)∈L):Fr w.heap.size (.slice (some ⟨b,0,none⟩) m c):=by
 intro g a
 simp [Value.ownBlock] at a
 subst a
 rcases (h.box b o d).2.2 with h | h
 ·exact h
 ·exact h.elim
theorem ST.perm (h:ST dd F w W μ L) (hp:L.Perm L'):ST dd F w W μ L' :=
 ⟨h.os,h.tape,h.output,h.drawn,h.size,h.oh,h.mem,λb o a=>h.box b o (hp.mem_iff.2 a),(hp.map _).nodup_iff.1 h.nd⟩
theorem ST.sublist (h:ST dd F w W μ L) (a:L'.Sublist L):ST dd F w W μ L' :=
 ⟨h.os,h.tape,h.output,h.drawn,h.size,h.oh,h.mem,λb o c=>h.box b o (a.subset c),h.nd.sublist (a.map _)⟩
end
section
variable {E:mD} {x1 x2 x3 x4 x5 x6:Operand} {v1 v2 v3 v4 v5 v6:Value}
theorem sD (h1:lf E x1=v1):#[x1].map (lf E)++(#[]:Array Value)=[v1].toArray:=by simp [h1]
theorem pj (h1:lf E x1=v1) (a:lf E x2=v2):#[x1,x2].map (lf E)++(#[]:Array Value)=[v1,v2].toArray:=by simp [h1,a]
theorem abS (h1:lf E x1=v1) (a:lf E x2=v2) (c:lf E x3=v3):#[x1,x2,x3].map (lf E)++(#[]:Array Value)=[v1,v2,v3].toArray:=by simp [h1,a,c]
end
theorem OY:∀(v:List Value) (i off:Nat) (cells:Array Value),off+i+v.length≤cells.size→
  (v.zipIdx i).foldl (λcs (c,j)=>cs.setIfInBounds (off+j) c) cells=(cells.toList.take (off+i)++v++cells.toList.drop (off+i+v.length)).toArray
 | [],i,off,cells,h=>by simp
 | c::v,i,off,cells,h=>by
  simp only [jY,fA]
  simp only [aM] at h
  rw [OY v (i+1) off _ fo]
  have g:off+i < cells.toList.length:=by simp; omega
  congr 1
  rw [Array.toList_setIfInBounds]
  apply eZ
  intro j
  have k:(cells.toList.take (off+i)).length=off+i:=by simp; omega
  by_cases h1:j < off+i
  ·simp only [gp,aF,dA,iO,dS,aM,fu,fE,ev]
   rw [show min (off+(i+1)) cells.size=off+(i+1) by omega,show min (off+i) cells.size=off+i by omega]
   rw [aP eR,aP eR,aP eR,aN eR,aP eR,aP eR,aP eR]
  ·by_cases d:j=off+i
   ·subst d
    simp [gp,fu,fE,show off+i < off+(i+1) by omega]
    rw [aP eR,aP eR,aN eR,show off+i-min (off+i) cells.size=0 by omega]
    rfl
   ·simp only [gp,aF,dA,iO,dS,aM,fu,fE,ev]
    rw [show min (off+(i+1)) cells.size=off+(i+1) by omega,show min (off+i) cells.size=off+i by omega]
    by_cases a:j < off+(i+1)+v.length
    ·rw [aP a,aN eR,aP eR,aN eR]
     rw [show j-(off+i)=(j-(off+(i+1)))+1 by omega]
     simp
    ·rw [aN a,aN eR,aN eR]
     congr 1
     omega
theorem Rw {k:Nat}:∀(vs:List Value) (i:Nat) (pre rest:List Value),(∀v∈vs,v.cells.size=k)→pre.length=i*k→rest.length=vs.length*k→
  Instr.fill (λi=>some (i*k,k)) (pre++rest).toArray ((vs.zipIdx i).map λp=>(p.2,p.1))=some (pre++vs.flatMap λv=>v.cells.toList).toArray
 | [],i,pre,rest,g,hp,d=>by
  have:rest=[]:=by cases rest <;> simp at d ⊢
  simp [Instr.fill,this]
 | v::vs,i,pre,rest,g,hp,d=>by
  have a:=g v fb
  have h:v.cells.zipIdx.foldl (λcs (c,j)=>cs.setIfInBounds (i*k+j) c) (pre++rest).toArray=(pre++v.cells.toList++rest.drop k).toArray:=by
   have:=OY v.cells.toList 0 (i*k) (pre++rest).toArray (by simp [hp,d,a,dn])
   rw [←Array.toList_zipIdx,Array.foldl_toList] at this
   rw [this]
   congr 1
   simp [←hp,a]
  simp only [jY,bY,Instr.fill]
  rw [aN (by simp [a,hp,d,dn]),h]
  have:=Rw vs (i+1) (pre++v.cells.toList) (rest.drop k) (λu hu=>g u (by simp [hu])) (by simp [hp,a,dn]) (by simp [d,dn])
  rw [this]
  simp
theorem Xd {k m:Nat} {a cs:Array Value} {qs:Array (Nat×Value)} (vs:List Value) (d:qs.toList=vs.zipIdx.map λp=>(p.2,p.1)) (h:∀v∈vs,v.cells.size=k) (hm:vs.length=m) (g:a.size=m*k) (c:(vs.flatMap λv=>v.cells.toList).toArray=cs):Instr.fill (λi=>some (i*k,k)) a qs.toList=some cs:=by
 subst hm c
 rw [d]
 have:=Rw vs 0 [] a.toList h fb (by simpa using g)
 simpa using this
theorem EP {P:Program} {t e:TypeId} {m k:Nat} {z:Value} {qs:Array (Nat×Value)} {cs:Array Value} (vs:List Value) (h:P.underlying t=some (.slice e)) (g:∀w,(sizeOf e).run P w= .ok k w) (j:∀w,(zeroValue e).run P w= .ok z w) (hm:m*k≤16777216) (d:qs.toList=vs.zipIdx.map λp=>(p.2,p.1)) (i:∀v∈vs,v.cells.size=k) (c:vs.length=m) (a:(vs.flatMap λv=>v.cells.toList).toArray=cs) (W:World) :
  (Instr.buildSlice t m qs).run P W= .ok (.slice (some ⟨W.heap.size,0,none⟩) m m) (W.alloc (.cells cs e (0,0))) :=
 N3 h g j hm (Xd vs d i c fb a) W
theorem oP {E:mD} :(#[]:Array (Nat×Operand)).map (λ(i,x)=>(i,lf E x))=#[]:=by simp
theorem mB {E:mD} {x0:Operand} {v0:Value} {i0:Nat} (a:lf E x0=v0):(#[(i0,x0)]:Array (Nat×Operand)).map (λ(i,x)=>(i,lf E x))=#[(i0,v0)]:=by simp [a]
theorem pF {E:mD} {x0 x1:Operand} {v0 v1:Value} {i0 i1:Nat} (a:lf E x0=v0) (h1:lf E x1=v1):(#[(i0,x0),(i1,x1)]:Array (Nat×Operand)).map (λ(i,x)=>(i,lf E x))=#[(i0,v0),(i1,v1)]:=by simp [a,h1]
theorem KD {E:mD} {x0 x1 x2:Operand} {v0 v1 v2:Value} {i0 i1 i2:Nat} (a:lf E x0=v0) (h1:lf E x1=v1) (c:lf E x2=v2):(#[(i0,x0),(i1,x1),(i2,x2)]:Array (Nat×Operand)).map (λ(i,x)=>(i,lf E x))=#[(i0,v0),(i1,v1),(i2,v2)]:=by simp [a,h1,c]
theorem VY {E:mD} {x0 x1 x2 x3:Operand} {v0 v1 v2 v3:Value} {i0 i1 i2 i3:Nat} (a:lf E x0=v0) (h1:lf E x1=v1) (c:lf E x2=v2) (d:lf E x3=v3):(#[(i0,x0),(i1,x1),(i2,x2),(i3,x3)]:Array (Nat×Operand)).map (λ(i,x)=>(i,lf E x))=#[(i0,v0),(i1,v1),(i2,v2),(i3,v3)]:=by simp [a,h1,c,d]
theorem mi {P:Program} {t:TypeId} {f off:Nat} {a:Array Field} {fd:Field} (h:P.underlying t=some (.struct a)) (c:a[f]? =some fd) {k:Nat} (g:∀w,(sizeOf fd.type).run P w= .ok k w) (hk:k≠0) (d:fd.offset=off):mP P t f off:=by
 intro b o w
 subst d
 simp [Instr.fieldAt,bA h,c,Instr.sureAddr,fieldPlace,ek,g w,hk]
theorem Ag.MP {n:Nat} {a:Act} {E:mD} (h:Ag n a E) {ops:Array Oper} {j t:Nat} (d:(ops[j]?).bind (·.dst)=some t) (i:t < n) (k:E t=undef):yielded ops a.tmps j=none:=by
 have c:=h.2.2 t
 have g:a.tmps[t]? =some (E t):=by
  rw [←c]
  simp [dB,h.1,i]
 simp [yielded,d,g,k,undef]
theorem aaL {P:Program} {n:Nat} {Q:pJ} {E:mD} {W:World} {ops:Array Oper} {rest:List Oper} {o:Oper} {d j t:Nat} {want:Bool} (g:o.dst=some d) (p:d < n) (i:o.guard=some (j,want)) (k:(ops[j]?).bind (·.dst)=some t) (q:t < n) (c:E t=undef) (h:LW P n ops Q rest (oy E d undef) W):LW P n ops Q (o::rest) E W:=λa ha=>by
 unfold wpListIn
 have s:=ha.MP k q c
 rw [aN (by simp [Region.wanted,i,s])]
 rw [g]
 exact ⟨λ_ _=>trivial,h _ (ha.put p _)⟩
theorem abm {P:Program} {n:Nat} {Q:pJ} {E:mD} {W:World} {ops:Array Oper} {rest:List Oper} {A:Value→Prop} {o:Oper} {dd:Nat} (hw:rk n ops E o) (c:o.dst=some dd) (d:dd < n) (g:∃p,A p∧∀W,nf P E o W p W) (h:∀p,A p→LW P n ops Q rest (oy E dd p) W):LW P n ops Q (o::rest) E W:=by
 obtain ⟨p,h1,a⟩:=g
 exact Oi hw c d (a W) (h p h1)
end Go.Proofs.YtlfibegniofmjaaGreat
namespace Go.Proofs.YtlfibegniofmjaaGreat
open Go.RowKit
variable [M:Md]
variable {dd:Bool}
theorem tW {P:Program} {n:Nat} {x:Code} {Q:pJ} {E:mD} {W:World} (h:CW P n x (tT (λE W=>Q .normal E W) Q) E W):CW P n x Q E W :=
 KK h (λe E W h=>by cases e <;> exact h)
section
variable {P:Program} {n:Nat} {Q:pJ} {E:mD} {W:World} {d:Option Nat} {ty:TypeId} {pos:String} {af:Array Edge} {g:tC}
 {F:Nat→Prop} {w:World} {μ:mc} {L:LO}
def YN (k:IntKind) (op:BinOp) (a b:Int):Option Value :=
 match op with
 | .quo=>some (.int k (k.wrap (a.tdiv b)))
 | .rem=>some (.int k (a.tmod b))
 | .and=>some (.int k (k.wrap (BitVec.ofInt k.bits a &&& BitVec.ofInt k.bits b).toNat))
 | .or=>some (.int k (k.wrap (BitVec.ofInt k.bits a ||| BitVec.ofInt k.bits b).toNat))
 | _=>none
theorem E1 {op:BinOp} {tx tv:TypeId} {x y:Operand} {k:IntKind} {a b:Int} {v:Value} (i:lf E x= .int k a) (j:lf E y= .int k b) (h:b≠0) (c:YN k op a b=some v) :
  nf P E ⟨d,.binOp op tx x y tv,ty,pos,af,g⟩ W v W:=by
 show (do let r ←(do eqGuard op tx x y (lf E x) (lf E y); binOp op tx (lf E x) (lf E y)); pure (.value r):Sem Next).run P W=_
 rw [i,j]
 cases op <;> simp [YN] at c <;> subst c <;> simp [eqGuard,binOp,Op.intDiv,Op.intBits,h]
theorem I5 {tx tv:TypeId} {x y:Operand} {k k':IntKind} {a b:Int} (c:lf E x= .int k a) (h:lf E y= .int k' b) (i:0≤b) :
  nf P E ⟨d,.binOp .shr tx x y tv,ty,pos,af,g⟩ W (.int k (a.fdiv (2 ^ min b.toNat k.bits))) W:=by
 show (do let r ←(do eqGuard .shr tx x y (lf E x) (lf E y); binOp .shr tx (lf E x) (lf E y)); pure (.value r):Sem Next).run P W=_
 rw [c,h]
 simp [eqGuard,binOp,Op.shift,show ¬b < 0 by omega]
theorem pt {s t:TypeId} {x:Operand} {k k':IntKind} {a:Int} {u:TypeDesc} (c:P.underlying s=some u) (h:P.underlying t=some (.int k)) (i:lf E x= .int k' a) :
  nf P E ⟨d,.convert s t x,ty,pos,af,g⟩ W (.int k (k.wrap a)) W:=by
 show (do pure (.value (←convert s t (lf E x))):Sem Next).run P W=_
 rw [i]
 simp [convert,bA c,bA h,Conv.intToInt]
theorem N8 {t e:TypeId} (dd:Nat) (a:P.underlying t=some (.slice e)) (A:Option Addr) (l c:Nat) (W:World):(Op.equalIn (dd+1) t (.slice A l c) (.slice none 0 0)).run P W= .ok A.isNone W:=by
 cases A <;> simp [Op.equalIn,bA a]
theorem Fb {tx tv e:TypeId} {x y:Operand} {A:Option Addr} {l c:Nat} (h:P.underlying tx=some (.slice e)) (i:lf E x= .slice A l c) (j:lf E y= .slice none 0 0) :
  nf P E ⟨d,.binOp .eql tx x y tv,ty,pos,af,g⟩ W (.bool A.isNone) W:=by
 show (do let r ←(do eqGuard .eql tx x y (lf E x) (lf E y); binOp .eql tx (lf E x) (lf E y)); pure (.value r):Sem Next).run P W=_
 rw [i,j]
 have a:=N8 9999 h A l c W
 simp [eqGuard,binOp,Op.equal,show Op.maxDepth=9999+1 from rfl,a]
def wL (s:ByteArray):List Int:=s.data.toList.map (λb=>(b.toNat:Int))
def Ef (s:ByteArray):Option (List Int):=if s.size≤maxLen then some (wL s) else none
theorem tP (s:ByteArray):(wL s).length=s.size:=by simp only [wL,dw,dS]; rfl
theorem UH {s:ByteArray} {cap i:Nat} {x:Int} (h:(wL s)[i]? =some x):(bytesRow s cap)[i]? =some (.int .u8 x):=by
 have hi:i < s.size:=by have:=(bT.1 h).1; rwa [tP] at this
 have a:i < s.data.size:=hi
 simp [wL] at h
 obtain ⟨b,c,rfl⟩:=h
 rw [bytesRow,Array.getElem?_append_left (by simpa using a)]
 simp [c]
theorem Kv {K:Value→World→Prop} {s t e:TypeId} {x:Operand} {str:ByteArray} {l:List Int} (c:ST dd F w W μ L) (q:P.underlying s=some .string) (p:P.underlying t=some (.slice e)) (he:P.underlying e=some (.int .u8)) (n:lf E x= .string str) (a:Ef str=some l) (h:∀W' v μ',ST dd F w W' μ' L→lm μ μ'→Lo F w μ μ'→Sl (Pl (lu .u8)) 1 μ' v l→Fr w.heap.size v→K v W'):pq P E ⟨d,.convert s t x,ty,pos,af,g⟩ W K:=by
 unfold Ef at a
 split at a
 case isFalse=>cases a
 rename_i hm
 cases a
 have k:=run_bytes_of_string (P:=P) W s t e str q p he
 have h1:=c.drew.alloc (.cells (bytesRow str (grownCap W str.size 0 e)) e ((bytesRow str (grownCap W str.size 0 e)).size,(bytesRow str (grownCap W str.size 0 e)).size+1))
 refine .inl ⟨.slice (some ⟨W.heap.size,0,none⟩) str.size (grownCap W str.size 0 e),_,?_,h _ _ _ (ST.KU (A:=[]) h1) (ST.KH (A:=[]) h1) (ST.RL (A:=[]) h1) ?_ ?_⟩
 ·show (do pure (.value (←convert s t (lf E x))):Sem Next).run P W=_
  rw [n]
  simp only [cK,k,bQ,dC]
 ·refine ⟨_,grownCap W str.size 0 e,by rw [tP],by rw [tP]; exact grownCap_ge W str.size 0 e,grownCap_le_maxLen W str.size 0 e hm,λ_=>⟨W.heap.size,0,bytesRow str (grownCap W str.size 0 e),e,_,Z,aP Z,λi x n=>⟨_,Z,Z,λj y o=>?_⟩⟩⟩
  cases j with
  | zero=>simp [lu] at o; subst o; simpa using UH n
  | succ j=>simp [lu] at o
 ·intro b a
  simp [Value.ownBlock] at a
  subst a
  exact c.size
def su (l:List Int):ByteArray:=l.foldl (λr n=>r.push (UInt8.ofNat n.toNat)) ByteArray.empty
theorem tg {s t e:TypeId} {x:Operand} {v:Value} {l:List Int} (G:P.underlying s=some (.slice e)) (he:P.underlying e=some (.int .u8)) (z:P.underlying t=some .string) (J:lf E x=v) (I:Sl (Pl (lu .u8)) 1 (hp W) v l) :
  nf P E ⟨d,.convert s t x,ty,pos,af,g⟩ W (.string (su l)) W:=by
 show (do pure (.value (←convert s t (lf E x))):Sem Next).run P W=_
 obtain ⟨A,c,rfl,L,M,q⟩:=I
 rw [J]
 simp only [cK,run_convert_bytes_string W s t e A l.length c G he z]
 rcases eW l.length with h | h
 ·have:l=[]:=dX.1 h
  subst this
  cases A with
  | none=>simp [Conv.bytesToString,su]
  | some a=>
   have u:=run_bytesToString (P:=P) W a 0 c [] (by simpa using ja (P:=P) W a [] fb)
   simp only [bZ]
   rw [u]
   simp [su]
 ·obtain ⟨b,off,cs,T,fr,rfl,w,y⟩:=q h
  have p:=ja (P:=P) W ⟨b,off,none⟩ (l.map (Value.int .u8)) (λj v o=>by
   simp at o
   obtain ⟨x,k,rfl⟩:=o
   obtain ⟨ys,_,n,i⟩:=y j x k
   cases n
   rw [ek,gT W b (off+j) cs T fr w]
   have:=i 0 (.int .u8 x) Z
   simpa using this)
  simp only [dw] at p
  rw [run_bytesToString W _ l.length c l p]
  simp [su]
end
end Go.Proofs.YtlfibegniofmjaaGreat
namespace Go.Proofs.YtlfibegniofmjaaGreat
open Go.RowKit
variable {dd:Bool}
def keys (L:LO):Nat→Prop:=λb=>∃o,(b,o)∈L
structure ExF (dd:Bool) (F:Nat→Prop) (w W:World):Prop where
 os:W.os=w.os
 tape:W.tape=w.tape
 output:W.output=w.output
 drawn:yR dd w.drawn W.drawn
 size:w.heap.size≤W.heap.size
 oh:∀b,b < w.heap.size→¬F b→W.heap[b]? =w.heap[b]?
def IR (L:LO) (W:World):Prop:=∀b o,(b,o)∈L→W.heap[b]? =some o
structure wm (dd:Bool) (L0 L1:LO) (w w':World):Prop where
 ex:ExF dd (keys L0) w w'
 held:∀b o,(b,o)∈L1→w'.heap[b]? =some o∧(w.heap.size≤b∨keys L0 b)
 nd:(L1.map (·.1)).Nodup
open Classical in
noncomputable def wN (w:World) (L:LO):mc:=λb=>if keys L b then none else w.heap[b]?
open Classical in
noncomputable def Hn (μ:mc) (W W':World) (L1:LO):mc:=λb=>if b < W.heap.size then μ b else if keys L1 b then none else W'.heap[b]?
section
variable {F:Nat→Prop} {w W W':World} {μ μ':mc} {L L0 L1:LO}
theorem ST.aaU (a:IR L0 w) (c:(L0.map (·.1)).Nodup):ST dd (keys L0) w w (wN w L0) L0 :=
 ⟨Z,Z,Z,yR.of (aZ _),aZ _,λ_ _ _=>rfl,λb o h=>by
  unfold wN at h; split at h
  ·cases h
  ·exact h,λb o h=>⟨a b o h,by unfold wN; rw [aP ⟨o,h⟩],.inr ⟨o,h⟩⟩,c⟩
theorem ST.aaB (h:ST dd (keys L0) w W μ L1):wm dd L0 L1 w W :=
 ⟨⟨h.os,h.tape,h.output,h.drawn,h.size,h.oh⟩,λb o a=>⟨(h.box b o a).1,(h.box b o a).2.2⟩,h.nd⟩
theorem KM {A B:LO} (h:((A++B).map (·.1)).Nodup) {b:Nat} {o:Obj} (a:(b,o)∈B):¬keys A b:=by
 rintro ⟨d,c⟩
 rw [cV] at h
 exact (cL.1 h).2.2 b (bW.2 ⟨_,c,Z⟩) b (bW.2 ⟨_,a,Z⟩) Z
theorem ST.back (h:ST dd F w W μ (L0++L)) (j:wm dd L0 L1 W W'):ST dd F w W' (Hn μ W W' L1) (L1++L):=by
 have hk:∀b,keys L0 b→b < W.heap.size∧μ b=none∧(w.heap.size≤b∨F b):=λb ⟨o,d⟩=>by
  obtain ⟨h1,g,p⟩:=h.box b o (cN _ d)
  exact ⟨rq h1,g,p⟩
 refine ⟨j.ex.os.trans h.os,j.ex.tape.trans h.tape,j.ex.output.trans h.output,yR.trans h.drawn j.ex.drawn,ee h.size j.ex.size,λb i q=>?_,λb o d=>?_,λb o d=>?_,?_⟩
 ·rw [j.ex.oh b (eu i h.size) (λk=>by
   rcases (hk b k).2.2 with h | h
   ·omega
   ·exact q h)]
  exact h.oh b i q
 ·unfold Hn at d
  split at d
  ·rename_i i
   rw [j.ex.oh b i (λk=>by rw [(hk b k).2.1] at d; cases d)]
   exact h.mem b o d
  ·split at d
   ·cases d
   ·exact d
 ·rcases aX.1 d with d | d
  ·obtain ⟨h1,g⟩:=j.held b o d
   refine ⟨h1,?_,?_⟩
   ·unfold Hn
    split
    ·rename_i i
     rcases g with g | g
     ·omega
     ·exact (hk b g).2.1
    ·rw [aP ⟨o,d⟩]
   ·rcases g with g | g
    ·exact .inl (ee h.size g)
    ·exact (hk b g).2.2
  ·obtain ⟨h1,g,p⟩:=h.box b o (dI _ d)
   refine ⟨?_,?_,p⟩
   ·rw [j.ex.oh b (rq h1) (KM h.nd d)]; exact h1
   ·unfold Hn; rw [aP (rq h1)]; exact g
 ·rw [cV]
  have t:(L.map (·.1)).Nodup:=by have:=h.nd; rw [cV] at this; exact (cL.1 this).2.1
  refine cL.2 ⟨j.nd,t,λa ha c u e=>?_⟩
  subst e
  obtain ⟨⟨b,o⟩,d,rfl⟩:=bW.1 ha
  obtain ⟨⟨s,v⟩,n,e⟩:=bW.1 u
  simp at e; subst e
  have i:=h.MJ (dI _ n)
  rcases (j.held s o d).2 with g | g
  ·omega
  ·exact KM h.nd n g
theorem ST.RB (h:ST dd F w W μ L) (W':World) (L1:LO):Lo F w μ (Hn μ W W' L1):=λb a _=>aP (eu a h.size)
theorem ST.OU (h:ST dd F w W μ L) (W':World) (L1:LO):lm μ (Hn μ W W' L1):=λb o a=>by
 unfold Hn; rw [aP (h.KI a)]; exact a
theorem ST.lp (h:ST dd F w W μ L) (c:∀p,p∈L0→p∈L):lm μ (wN W L0):=λb o a=>by
 unfold wN
 rw [aN]
 ·exact h.mem b o a
 ·rintro ⟨g,d⟩
  rw [(h.box b g (c _ d)).2.1] at a
  cases a
theorem wm.PY (h:Ex dd w W) (c:∀b o,(b,o)∈L1→W.heap[b]? =some o∧w.heap.size≤b) (d:(L1.map (·.1)).Nodup):wm dd [] L1 w W :=
 ⟨⟨h.os,h.tape,h.output,h.drawn,h.size,λb a _=>h.oh b a⟩,λb o a=>⟨(c b o a).1,.inl (c b o a).2⟩,d⟩
end
def mX (dd:Bool) (P:Program) (f:FuncId) (args:List Value) (w:World) (L0:LO) (K:Value→LO→World→Prop):Prop :=
 Calls P f args.toArray w λe a=>∃v L1,e= .returned v∧wm dd L0 L1 w a∧K v L1 a
def mM (dd:Bool) {α:Type} (P:Program) (f:FuncId) (args:List Value) (w:World) (e:TypeId) (enc:α→List Value) (k:Nat) (l:List α):Prop :=
 mX dd P f args w [] λv R _=>lQ e enc k v l R
theorem wm.mF {L0 L1:LO} {w a:World} (h:wm true L0 L1 w a):wm dd L0 L1 w a:=⟨⟨h.ex.os,h.ex.tape,h.ex.output,yR.of (h.ex.drawn Z),h.ex.size,h.ex.oh⟩,h.held,h.nd⟩
theorem lF.mF {P:Program} {f:FuncId} {args:List Value} {w:World} {v:Value} (h:lF true P f args w v):lF dd P f args w v:=cZ h λ_ _ h=>⟨h.1,h.2.mF⟩
theorem mX.mF {P:Program} {f:FuncId} {args:List Value} {w:World} {L0:LO} {K:Value→LO→World→Prop} (h:mX true P f args w L0 K):mX dd P f args w L0 K:=cZ h λ_ _ ⟨v,L1,h1,a,c⟩=>⟨v,L1,h1,a.mF,c⟩
theorem mM.mF {α:Type} {P:Program} {f:FuncId} {args:List Value} {w:World} {e:TypeId} {enc:α→List Value} {k:Nat} {l:List α} (h:mM true P f args w e enc k l):mM dd P f args w e enc k l:=mX.mF h
section
variable {P:Program} {E:mD} {W:World} {d:Option Nat} {ty:TypeId} {pos:String} {af:Array Edge} {g:tC}
 {F:Nat→Prop} {w:World} {μ:mc} {L:LO}
theorem XK {K:Value→World→Prop} {K':Value→LO→World→Prop} {f:FuncId} {fv:Operand} {ax:Array Operand} {ats:Array TypeId} {caps:Array Value} {args:List Value} (L0 L2:LO) (a:ST dd F w W μ L) (c:L.Perm (L0++L2)) (n:lf E fv= .func (.func f) #[] caps) (he:∀args w,(callFunc f args).run P w= .ok (.enter f args) w) (ha:ax.map (lf E)++caps=args.toArray) (k:mX dd P f args W L0 K') (h:∀W' v μ' L1,ST dd F w W' μ' (L1++L2)→lm μ μ'→Lo F w μ μ'→K' v L1 W'→K v W'):pq P E ⟨d,.call ⟨.value fv,ax,ats⟩,ty,pos,af,g⟩ W K :=
 KL n he ha (cZ k λ_ W' ⟨v,L1,h1,i,j⟩=>⟨v,h1,h W' v _ L1 ((a.perm c).back i) ((a.perm c).OU W' L1) ((a.perm c).RB W' L1) j⟩)
theorem Uf {K:Value→World→Prop} {α:Type} {e:TypeId} {enc:α→List Value} {k:Nat} {l:List α} {f:FuncId} {fv:Operand} {ax:Array Operand} {ats:Array TypeId} {caps:Array Value} {args:List Value} (X Y:LO) (a:ST dd F w W μ (X++Y)) (o:lf E fv= .func (.func f) #[] caps) (he:∀args w,(callFunc f args).run P w= .ok (.enter f args) w) (ha:ax.map (lf E)++caps=args.toArray) (n:mM dd P f args W e enc k l) (h:∀W' v μ' R,ST dd F w W' μ' (X++(R++Y))→lm μ μ'→Lo F w μ μ'→lQ e enc k v l R→K v W'):pq P E ⟨d,.call ⟨.value fv,ax,ats⟩,ty,pos,af,g⟩ W K :=
 XK [] (X++Y) a (.refl _) o he ha n (λW' v μ' L1 h1 c j i=>h W' v μ' L1 (h1.perm (by rw [←aQ,←aQ]; exact List.perm_append_comm.append_right Y)) c j i)
end
theorem ST.oa {w W:World} {μ:mc} {L R:LO} (h:ST dd lN w W μ L) (a:∀p,p∈R→p∈L) (d:(R.map (·.1)).Nodup):wm dd [] R w W :=
 wm.PY h.ex (λb o c=>⟨(h.box b o (a _ c)).1,by
  rcases (h.box b o (a _ c)).2.2 with h | h
  ·exact h
  ·exact h.elim⟩) d
theorem pe {P:Program} {E:mD} {W:World} {d:Option Nat} {ty:TypeId} {pos:String} {af:Array Edge} {g:tC} {α:Type} {e':TypeId} {enc:α→List Value} {k:Nat} {v:Value} {l:List α} {R:LO} {x:Operand} {t e:TypeId} (a:P.underlying t=some (.slice e)) (i:lf E x=v) (h:lQ e' enc k v l R):nf P E ⟨d,.call ⟨.builtin .len,#[x],#[t]⟩,ty,pos,af,g⟩ W (.int .i64 l.length) W:=by
 obtain ⟨A,c,rfl⟩:=h.form
 exact Iq a i
section
variable {α:Type} {e:TypeId} {enc:α→List Value} {k:Nat} {v:Value} {l:List α} {R:LO}
theorem lQ.nd (h:lQ e enc k v l R):(R.map (·.1)).Nodup:=by
 rcases h with ⟨rfl,rfl,rfl⟩ | ⟨g,cap,a,rfl,rfl,_⟩ <;> simp
end
end Go.Proofs.YtlfibegniofmjaaGreat
namespace Go.Proofs.YtlfibegniofmjaaGreat
open Go.RowKit
variable {dd:Bool}
def Gq (R:LO) (k:Nat) (p:Value) (i:Nat):Prop:=∃g o,R=[(g,o)]∧p= .pointer (some ⟨g,i*k,none⟩)
section
variable {P:Program} {E:mD} {W:World} {d:Option Nat} {ty:TypeId} {pos:String} {af:Array Edge} {g:tC}
 {F:Nat→Prop} {w:World} {μ:mc} {L:LO} {α:Type} {e':TypeId} {enc:α→List Value} {k:Nat} {v:Value} {l:List α} {R:LO}
theorem oF {t e:TypeId} {x c:Operand} {z:IntKind} {i:Int} {x0:α} (u:P.underlying t=some (.slice e)) (he:∀w,(sizeOf e).run P w= .ok k w) (y:lf E x=v) (hi:lf E c= .int z i) (h:lQ e' enc k v l R) (o:0≤i) (s:l[i.toNat]? =some x0) :
  ∃p,Gq R k p i.toNat∧∀W,nf P E ⟨d,.indexAddr t x c,ty,pos,af,g⟩ W p W:=by
 have a:i.toNat < l.length:=(bT.1 s).1
 rcases h with ⟨rfl,rfl,rfl⟩ | ⟨n,cap,j,rfl,rfl,h1,A,G,I⟩
 ·simp at a
 refine ⟨.pointer (some ⟨n,i.toNat*k,none⟩),⟨_,_,Z,Z⟩,λW=>?_⟩
 show (do pure (.value (←Instr.indexAt t (lf E x) (lf E c))):Sem Next).run P W=_
 rw [y,hi]
 have q:0≤i∧i < (l.length:Int):=⟨o,eR⟩
 simp [Instr.indexAt,asIntOf,bA u,he W,q,ek]
theorem Gu (h:lQ e' enc k v l R) (hk:∀x,(enc x).length=k) {p:Value} {i:Nat} (hp:Gq R k p i) {x0:α} (q:l[i]? =some x0) :
  ∃g a cap,R=[(g,.cells a e' (0,0))]∧v= .slice (some ⟨g,0,none⟩) l.length cap∧l.length≤cap∧cap≤maxLen∧a.size=cap*k∧a.toList.take (l.length*k)=(l.map enc).flatten∧p= .pointer (some ⟨g,i*k,none⟩)∧∀j y,(enc x0)[j]? =some y→a[i*k+j]? =some y:=by
 have d:i < l.length:=(bT.1 q).1
 rcases h with ⟨rfl,rfl,rfl⟩ | ⟨t,cap,a,rfl,rfl,h1,u,w,n⟩
 ·simp at d
 obtain ⟨g2,o,s,rfl⟩:=hp
 cases s
 refine ⟨t,a,cap,Z,Z,h1,u,w,n,Z,λj y z=>?_⟩
 have:=AK hk l i x0 q j y z
 rw [←n] at this
 have c:i*k+j < l.length*k:=by
  have:=(bT.1 this).1
  simp at this; omega
 rw [eC c] at this
 simpa using this
theorem uh {A:LO} (hH:oe μ A W) (d:∀q,q∈R→q∈A) (h:lQ e' enc k v l R) (hk:∀x,(enc x).length=k) {p:Value} {i:Nat} (hp:Gq R k p i) {x0:α} (n:l[i]? =some x0) {t:TypeId} (g:∀w,(isAgg t).run P w= .ok true w) (j:∀w,(sizeOf t).run P w= .ok k w):(Instr.loadAt t p).run P W= .ok (.agg (enc x0).toArray) W:=by
 obtain ⟨o,a,cap,rfl,rfl,_,_,_,_,rfl,c⟩:=Gu h hk hp n
 exact HS g (enc x0) (by rw [hk]; exact j) (hH.2 _ _ (d _ (aY.2 Z))) c
theorem Da {A:LO} (hH:oe μ A W) (d:∀q,q∈R→q∈A) (h:lQ e' enc k v l R) (hk:∀x,(enc x).length=k) {p:Value} {i:Nat} (hp:Gq R k p i) {x0:α} (j:l[i]? =some x0) {t:TypeId} {y:Value} (n:enc x0=[y]) (g:∀w,(isAgg t).run P w= .ok false w):(Instr.loadAt t p).run P W= .ok y W:=by
 obtain ⟨o,a,cap,rfl,rfl,_,_,_,_,rfl,c⟩:=Gu h hk hp j
 exact HL g (hH.2 _ _ (d _ (aY.2 Z))) (c 0 y (by rw [n]; rfl))
theorem LQ (hk:∀x,(enc x).length=k):∀(l:List α) (i:Nat) (y:α),i < l.length→((l.set i y).map enc).flatten=(l.map enc).flatten.take (i*k)++enc y++(l.map enc).flatten.drop (i*k+k)
 | [],i,y,h=>by simp at h
 | z::l,0,y,h=>by
  simp [hk]
 | z::l,i+1,y,h=>by
  have:=LQ hk l i y (by simpa using h)
  simp only [List.set_cons_succ,bY,bX,this]
  have h1:(i+1)*k=(enc z).length+i*k:=by rw [hk,dn]; omega
  rw [h1,iV,eL,List.drop_length_add_append]
  simp
theorem Uk {K:Value→World→Prop} (X:LO) {Y:LO} {t:TypeId} {x y:Operand} {p u:Value} {i:Nat} {x0 x1:α} (j:ST dd F w W μ (X++(R++Y))) (h:lQ e' enc k v l R) (hk:∀x,(enc x).length=k) (h1:∀x,∀u∈enc x,u.oneCell'=true) (hx:lf E x=p) (hy:lf E y=u) (hu:u.cells=(enc x1).toArray) (hp:Gq R k p i) (I:l[i]? =some x0) (T:∀w,(sizeOf t).run P w= .ok k w) (Q:∀W' R',ST dd F w W' μ (X++(R'++Y))→lQ e' enc k v (l.set i x1) R'→K undef W'):pq P E ⟨d,.store t x y,ty,pos,af,g⟩ W K:=by
 have z:i < l.length:=(bT.1 I).1
 obtain ⟨o,a,cap,rfl,rfl,G,M,s,O,rfl,h6⟩:=Gu h hk hp I
 have hle:i*k+k≤cap*k:=by
  have:(i+1)*k≤cap*k:=dp _ eR
  rwa [dn,kx] at this
 have n:i*k+k≤l.length*k:=by
  have:(i+1)*k≤l.length*k:=dp _ eR
  rwa [dn,kx] at this
 have c:u.cells.size=k:=by rw [hu]; simp [hk]
 have U:=(j.box o (.cells a e' (0,0)) fb).1
 have hlen:l.length*k≤cap*k:=dp _ G
 refine .inr (.inl ⟨W.setRow o (a.toList.take (i*k)++(enc x1)++a.toList.drop (i*k+k)).toArray,?_,Q _ [(o,.cells (a.toList.take (i*k)++(enc x1)++a.toList.drop (i*k+k)).toArray e' (0,0))] (j.store _) (.inr ⟨o,cap,_,fb,Z,by simpa using G,M,?_,?_⟩)⟩)
 ·show (do Instr.storeAt t (lf E x) (lf E y); pure .skip:Sem Next).run P W=_
  rw [hx,hy]
  have:=HW P (off:=i*k) u (by rw [c]; exact T) (by rw [hu]; simpa using h1 x1) U (by rw [c,s]; exact hle)
  simp only [cK,this,bQ,dC,c]
  rw [hu]
 ·show ((a.toList.take (i*k)++(enc x1)++a.toList.drop (i*k+k)).toArray).size=_
  have q:a.toList.length=cap*k:=by simpa using s
  rw [dY,aF,aF,dA,fM,hk,q,ej eR]; omega
 ·rw [iO,LQ hk l i x1 z,←O]
  have J:(a.toList.take (l.length*k)).take (i*k)=a.toList.take (i*k):=by rw [gX]; congr 1; omega
  have L:(a.toList.take (l.length*k)).drop (i*k+k)=(a.toList.drop (i*k+k)).take (l.length*k-(i*k+k)):=by rw [jb]
  rw [J,L]
  show List.take (l.length*k) (a.toList.take (i*k)++enc x1++a.toList.drop (i*k+k))=_
  have q:a.toList.length=cap*k:=by simpa using s
  have A:(a.toList.take (i*k)++enc x1).length=i*k+k:=by rw [aF,dA,hk,q,ej eR]
  rw [fN,dM (by rw [A]; exact n),A]
theorem JV (hk:∀x,(enc x).length=k):∀(l:List α) (i:Nat),i≤l.length→((l.take i).map enc).flatten=(l.map enc).flatten.take (i*k)
 | [],i,h=>by simp
 | z::l,0,h=>by simp
 | z::l,i+1,h=>by
  have:=JV hk l i (by simpa using h)
  simp only [List.take_succ_cons,bY,bX,this]
  rw [show (i+1)*k=(enc z).length+i*k by rw [hk,dn]; omega,iV]
theorem Ff {t e:TypeId} {x ih:Operand} {I:IntKind} {i:Int} (n:P.underlying t=some (.slice e)) (he:∀w,(sizeOf e).run P w= .ok k w) (o:lf E x=v) (hi:lf E ih= .int I i) (h:lQ e' enc k v l R) (hk:∀x,(enc x).length=k) (s:0≤i) (G:i≤l.length) :
  ∃p,lQ e' enc k p (l.take i.toNat) R∧∀W,nf P E ⟨d,.slice t x none (some ih) none,ty,pos,af,g⟩ W p W:=by
 have a:i.toNat≤l.length:=by omega
 rcases h with ⟨rfl,rfl,rfl⟩ | ⟨j,cap,c,rfl,rfl,h1,u,y,z⟩
 ·have:i=0:=by simp at G; omega
  subst this
  refine ⟨.slice none 0 0,.inl ⟨Z,fb,Z⟩,λW=>?_⟩
  show (do pure (.value (←Instr.sliceAt t (lf E x) none (some (lf E ih)) none)):Sem Next).run P W=_
  rw [o,hi]
  simp [Instr.sliceAt,Instr.slice,Instr.sliceBounds,Instr.sliceBound,asIntOf,bA n,he W]
 ·refine ⟨.slice (some ⟨j,0,none⟩) (l.take i.toNat).length cap,.inr ⟨j,cap,c,Z,Z,fo,u,y,?_⟩,λW=>?_⟩
  ·have q:(l.take i.toNat).length=i.toNat:=by rw [dA]; omega
   have hle:i.toNat*k≤l.length*k:=dp _ a
   rw [q,JV hk l i.toNat a,←z,gX,ej hle]
  ·show (do pure (.value (←Instr.sliceAt t (lf E x) none (some (lf E ih)) none)):Sem Next).run P W=_
   rw [o,hi]
   have A:0≤i∧i≤(cap:Int):=⟨s,eR⟩
   simp [Instr.sliceAt,Instr.slice,Instr.sliceBounds,Instr.sliceBound,asIntOf,bA n,he W,A,ek]
   omega
theorem Cv {z:sV α} {t e:TypeId} {x s:Operand} {ik:IntKind} {i:Int} (ht:P.underlying t=some (.slice e)) (he:∀w,(sizeOf e).run P w= .ok k w) (o:lf E x=v) (hi:lf E s= .int ik i) (h:Sl z k μ v l) (G:0≤i) (R:i≤l.length) :
  ∃u,(Sl z k μ u (l.drop i.toNat)∧∀B,Fr B v→Fr B u)∧∀W,nf P E ⟨d,.slice t x (some s) none none,ty,pos,af,g⟩ W u W:=by
 obtain ⟨A,c,rfl,h2,h3,I⟩:=h
 have U:i.toNat≤l.length:=by omega
 refine ⟨.slice (if c=i.toNat then A else A.map (·.add (i.toNat*k))) (l.drop i.toNat).length (c-i.toNat),⟨⟨_,_,Z,fo,eR,λhp=>?_⟩,λB Q b n=>?_⟩,λW=>?_⟩
 ·have Y:i.toNat < l.length:=by simp at hp; omega
  obtain ⟨b,off,cs,T,fr,rfl,J,L⟩:=I eR
  refine ⟨b,off+i.toNat*k,cs,T,fr,?_,J,λj x o=>?_⟩
  ·rw [aN eR]; simp [ek]
  ·rw [ev] at o
   obtain ⟨ys,M,O,p⟩:=L _ x o
   refine ⟨ys,M,O,λq y hy=>?_⟩
   have:=p q y hy
   rw [dn] at this
   rw [show off+i.toNat*k+j*k+q=off+(i.toNat*k+j*k)+q by omega]
   exact this
 ·refine Q b ?_
  cases A with
  | none=>simp [Value.ownBlock] at n
  | some a=>
   split at n
   ·exact n
   ·obtain ⟨b',o',s'⟩:=a
    cases s' <;> simp [Value.ownBlock,Addr.add] at n ⊢ <;> split at n <;> exact n
 ·show (do pure (.value (←Instr.sliceAt t (lf E x) (some (lf E s)) none none)):Sem Next).run P W=_
  rw [o,hi]
  have n:0≤i∧i≤(l.length:Int):=⟨G,R⟩
  simp [Instr.sliceAt,Instr.slice,Instr.sliceBounds,Instr.sliceBound,asIntOf,bA ht,he W,n]
end
end Go.Proofs.YtlfibegniofmjaaGreat
namespace Go.Proofs.YtlfibegniofmjaaGreat
open Go.RowKit
variable {dd:Bool}
section
variable {α:Type} {e:TypeId} {enc:α→List Value} {k:Nat} {v:Value} {l:List α} {R:LO} {μ:mc}
theorem lQ.one (h:lQ e enc k v l R):v.oneCell'=true:=by obtain ⟨A,c,rfl⟩:=h.form; rfl
theorem Sl.one {a:sV α} (h:Sl a k μ v l):v.oneCell'=true:=by obtain ⟨A,c,rfl⟩:=h.form; rfl
theorem Sl.isNil {d:sV α} {n c:Nat} (h:Sl d k μ (.slice none n c) l):l=[]:=by
 obtain ⟨A,j,h1,o,p,g⟩:=h
 cases h1
 rcases eW l.length with a | a
 ·exact dX.1 a
 ·obtain ⟨b,off,cs,T,fr,i,_⟩:=g a
  cases i
theorem lQ.isNil {n c:Nat} (h:lQ e enc k (.slice none n c) l R):l=[]:=by
 rcases h with ⟨h1,rfl,rfl⟩ | ⟨g,cap,a,h1,_⟩
 ·rfl
 ·cases h1
theorem ST.abG {w W:World} {μ:mc} {L1 L2:LO} (h:ST dd lN w W μ (L1++L2)):wm dd [] L1 w W :=
 wm.PY h.ex (λb o a=>⟨(h.box b o (cN _ a)).1,by
  rcases (h.box b o (cN _ a)).2.2 with h | h
  ·exact h
  ·exact h.elim⟩) (by have:=h.nd; rw [cV] at this; exact (cL.1 this).1)
theorem ST.abO {w W:World} {μ:mc} {L0 L1 L2:LO} (h:ST dd (keys L0) w W μ (L1++L2)):wm dd L0 L1 w W :=
 ⟨⟨h.os,h.tape,h.output,h.drawn,h.size,h.oh⟩,λb o a=>⟨(h.box b o (cN _ a)).1,(h.box b o (cN _ a)).2.2⟩,by have:=h.nd; rw [cV] at this; exact (cL.1 this).1⟩
end
end Go.Proofs.YtlfibegniofmjaaGreat
namespace Go.Proofs.YtlfibegniofmjaaGreat
open Go.RowKit
variable {dd:Bool}
def mO {κ β:Type} (beq:κ→κ→Bool) (l:List (κ×β)) (k:κ):Option β:=(l.find? λp=>beq k p.1).map (·.2)
def rW {κ β:Type} (beq:κ→κ→Bool) (l:List (κ×β)) (k:κ) (v:β):List (κ×β) :=
 match l.findIdx? (λp=>beq k p.1) with
 | some i=>l.set i (k,v)
 | none=>l++[(k,v)]
structure zO {κ β:Type} (kenc:κ→Value) (vf:β→Value) (l:List (κ×β)) (es:Array MapEntry) (clock:Nat):Prop where
 KX:es.toList.map (λe=>(e.key,e.val))=l.map (λp=>(kenc p.1,vf p.2))
 born:es.toList.Pairwise (λa b=>a.born < b.born)
 lt:∀e∈es.toList,e.born < clock
def nC {κ β:Type} (kenc:κ→Value) (vf:β→Value) (v:Value) (l:List (κ×β)) (R:LO):Prop :=
 ∃m es clock,v= .map (some m)∧R=[(m,.map es clock)]∧zO kenc vf l es clock
def zT {κ β:Type} (kenc:κ→Value) (vf:β→Value) (μ:mc) (v:Value) (l:List (κ×β)):Prop :=
 (v= .map none∧l=[])∨∃m es clock,v= .map (some m)∧μ m=some (.map es clock)∧zO kenc vf l es clock
theorem zT.mono {κ β:Type} {kenc:κ→Value} {vf:β→Value} {μ μ':mc} {v:Value} {l:List (κ×β)} (h:zT kenc vf μ v l) (d:lm μ μ'):zT kenc vf μ' v l:=by
 rcases h with h | ⟨m,es,clock,h1,a,c⟩
 ·exact .inl h
 ·exact .inr ⟨m,es,clock,h1,d _ _ a,c⟩
theorem nC.at {κ β:Type} {kenc:κ→Value} {vf:β→Value} {μ:mc} {v:Value} {l:List (κ×β)} {R:LO} (h:nC kenc vf v l R) (c:∀b o,(b,o)∈R→μ b=some o):zT kenc vf μ v l:=by
 obtain ⟨m,es,clock,rfl,rfl,a⟩:=h
 exact .inr ⟨m,es,clock,Z,c _ _ (aY.2 Z),a⟩
structure sY {κ:Type} (P:Program) (kt:TypeId) (kenc:κ→Value) (beq:κ→κ→Bool):Prop where
 check:∀b k W,(Instr.checkKey b 10000 kt (kenc k)).run P W= .ok () W
 find:∀(k:κ) (l:List κ) (es:List MapEntry),es.map (·.key)=l.map kenc→∀W,(Instr.findKey kt (kenc k) es).run P W= .ok ((l.findIdx? λx=>beq k x).bind λi=>(es[i]?).map λe=>(i,e.val)) W
 eq:∀k x,beq k x=true→kenc x=kenc k
 bits:∀k,Instr.sameBits 10000 (kenc k) (kenc k)=true
section
variable {P:Program} {W:World} {κ:Type} {kt:TypeId} {kenc:κ→Value} {beq:κ→κ→Bool}
theorem Ia (a:∀x y W,(Op.equal kt (kenc x) (kenc y)).run P W= .ok (beq x y) W) (k:κ):∀(l:List κ) (es:List MapEntry) (i:Nat),es.map (·.key)=l.map kenc→
  (Instr.findAsking kt (kenc k) es i).run P W= .ok ((l.findIdx? λx=>beq k x).bind λj=>(es[j]?).map λe=>(i+j,e.val)) W
 | [],[],i,h=>by simp [Instr.findAsking]
 | [],_::_,i,h=>by simp at h
 | _::_,[],i,h=>by simp at h
 | x::l,e::es,i,h=>by
  simp only [bY,cA] at h
  obtain ⟨h1,c⟩:=h
  simp only [Instr.findAsking,cK,h1,a,bQ,fw]
  cases d:beq k x with
  | true=>simp
  | false=>
   simp only [aB,aH]
   rw [Ia a k l es (i+1) c]
   cases l.findIdx? (λx=>beq k x) with
   | none=>rfl
   | some j=>simp [eL,kf 1 j]
theorem Sf {kind:TypeDesc} (hk:∀a b,Instr.sameNow kind (.agg a) b=none) (a:Array Value):∀(es:List MapEntry) (i:Nat),Instr.findNow kind (.agg a) es i=if es=[] then some none else none
 | [],i=>by simp [Instr.findNow]
 | e::es,i=>by simp [Instr.findNow,hk]
theorem sY.struct {enc:κ→List Value} {i:Array Field} (p:P.underlying kt=some (.struct i)) (o:∀d x y W,(Op.equalIn (d+10) kt (.agg (enc x).toArray) (.agg (enc y).toArray)).run P W= .ok (beq x y) W) (n:∀b k W,(Instr.checkKey b 10000 kt (.agg (enc k).toArray)).run P W= .ok () W) (he:∀k x,beq k x=true→x=k) (j:∀k,Instr.sameBits 10000 (.agg (enc k).toArray) (.agg (enc k).toArray)=true):sY P kt (λx=>.agg (enc x).toArray) beq where
 check:=n
 find:=λk l es h W=>by
  have c:∀x y W,(Op.equal kt (.agg (enc x).toArray) (.agg (enc y).toArray)).run P W= .ok (beq x y) W:=λx y W=>o 9990 x y W
  simp only [Instr.findKey,cK,bA p,bQ]
  rw [Sf (λa b=>by cases b <;> rfl)]
  by_cases g:es=[]
  ·subst g
   have:l=[]:=by simpa using h.symm
   subst this
   simp
  ·rw [aN g]
   dsimp only
   rw [show Instr.findAsking kt (.agg (enc k).toArray) es=Instr.findAsking kt (.agg (enc k).toArray) es 0 from rfl,Ia c k l es 0 h]
   simp
 eq:=λk x h=>by rw [he k x h]
 bits:=j
theorem mU {a b:ByteArray}:mx a b=true↔a=b:=by
 unfold mx
 rw [fK,fK]
 constructor
 ·intro h
  have h1:a.data.toList=b.data.toList:=by simpa using h
  exact jR (Array.toList_inj.1 h1)
 ·rintro rfl
  simp
theorem Jz (a b:ByteArray):(a==b)=mx a b:=by
 rw [cC,mU]
 constructor
 ·intro h
  have h1:(a.data==b.data)=true:=h
  exact jR (by simpa using h1)
 ·rintro rfl
  show (a.data==a.data)=true
  simp
theorem Ie (k:ByteArray):∀(l:List ByteArray) (es:List MapEntry) (i:Nat),es.map (·.key)=l.map Value.string→
  Instr.findNow .string (.string k) es i=some ((l.findIdx? λx=>mx k x).bind λj=>(es[j]?).map λe=>(i+j,e.val))
 | [],[],i,h=>by simp [Instr.findNow]
 | [],_::_,i,h=>by simp at h
 | _::_,[],i,h=>by simp at h
 | x::l,e::es,i,h=>by
  simp only [bY,cA] at h
  obtain ⟨h1,a⟩:=h
  simp only [Instr.findNow,h1,Instr.sameNow,Jz,fw]
  cases c:mx k x with
  | true=>simp
  | false=>
   simp only [aB,aH]
   rw [Ie k l es (i+1) a]
   cases l.findIdx? (λx=>mx k x) with
   | none=>rfl
   | some j=>simp [eL,kf 1 j]
theorem DV (a:P.underlying kt=some .string) (n:Nat) (b:Bool) (k:ByteArray) (W:World):(Instr.checkKey b (n+1) kt (.string k)).run P W= .ok () W:=by
 simp [Instr.checkKey,bA a]
theorem sY.string (a:P.underlying kt=some .string):sY P kt Value.string mx where
 check:=λb k W=>DV a 9999 b k W
 find:=λk l es h W=>by
  simp only [Instr.findKey,cK,bA a,bQ]
  have:=Ie k l es 0 h
  rw [this]
  simp
 eq:=λk x h=>by rw [mU.1 h]
 bits:=λk=>by simp only [Instr.sameBits]; rw [Jz]; exact mU.2 Z
variable {β:Type} {vf:β→Value} {E:mD} {d:Option Nat} {ty:TypeId} {pos:String} {af:Array Edge} {g:tC} {F:Nat→Prop} {w:World} {μ:mc} {L:LO}
theorem zO.keys {l:List (κ×β)} {es:Array MapEntry} {clock:Nat} (h:zO kenc vf l es clock):es.toList.map (·.key)=(l.map (·.1)).map kenc:=by
 have:=bI (List.map Prod.fst) h.KX
 simpa [gk] using this
theorem zO.length {l:List (κ×β)} {es:Array MapEntry} {clock:Nat} (h:zO kenc vf l es clock):es.size=l.length:=by
 have:=bI List.length h.KX
 simpa using this
theorem zO.get {l:List (κ×β)} {es:Array MapEntry} {clock:Nat} (h:zO kenc vf l es clock) (k:κ) :
  (((l.map (·.1)).findIdx? λx=>beq k x).bind λi=>(es.toList[i]?).map λe=>(i,e.val))=(l.findIdx? λp=>beq k p.1).bind λi=>(l[i]?).map λp=>(i,vf p.2):=by
 rw [gY]
 show ((l.findIdx? λp=>beq k p.1).bind _)=_
 congr 1
 funext i
 have:=bI (λq=>q[i]?) h.KX
 simp only [fF] at this
 cases h1:es.toList[i]? with
 | none=>rw [h1] at this; cases a:l[i]? with
  | none=>rfl
  | some p=>rw [a] at this; cases this
 | some e=>rw [h1] at this; cases a:l[i]? with
  | none=>rw [a] at this; cases this
  | some p=>rw [a] at this; simp at this; simp [this.2]
theorem zx (l:List (κ×β)) (k:κ):mO beq l k=(l.findIdx? λp=>beq k p.1).bind λi=>(l[i]?).map (·.2):=by
 induction l with
 | nil=>rfl
 | cons p l ih=>
  simp only [mO,fB,fw] at ih ⊢
  cases beq k p.1 with
  | true=>rfl
  | false=>
   simp only [aB,aH]
   rw [ih]
   cases l.findIdx? (λp=>beq k p.1) <;> simp
theorem Qo {t e:TypeId} {m x:Operand} {s z:Value} {l:List (κ×β)} {k:κ} (K:sY P kt kenc beq) (o:P.underlying t=some (.map kt e)) (c:∀w,(zeroValue e).run P w= .ok z w) (hm:lf E m=s) (A:lf E x=kenc k) (v:zT kenc vf (hp W) s l) :
  nf P E ⟨d,.lookup t m x false,ty,pos,af,g⟩ W (((mO beq l k).map vf).getD z) W:=by
 show (do pure (.value (←Instr.lookup t (lf E m) (lf E x) false)):Sem Next).run P W=_
 rw [hm,A]
 rcases v with ⟨rfl,rfl⟩ | ⟨q,es,clock,rfl,y,h⟩
 ·have:=K.find k [] [] Z W
  simp [Instr.lookup,bA o,K.check,this,c W,mO]
 ·have a:W.heap[q]? =some (.map es clock):=y
  have u:(getObj q:Sem Obj).run P W= .ok (.map es clock) W:=by simp [getObj,Sem.run,a]
  have j:=K.find k _ _ h.keys W
  rw [h.get k] at j
  simp only [Instr.lookup,cK,bA o,bQ,u,dC,K.check,j,zx]
  cases G:l.findIdx? (λp=>beq k p.1) with
  | none=>simp [c W]
  | some i=>
   cases n:l[i]? with
   | none=>simp [n,c W]
   | some p=>simp [n]
theorem uM {l:List (κ×β)} {k:κ} {i:Nat} (h:l.findIdx? (λp=>beq k p.1)=some i):∃p,l[i]? =some p∧beq k p.1=true:=by
 rw [eK] at h
 obtain ⟨h1,a,_⟩:=h
 exact ⟨l[i],dD h1,a⟩
theorem zO.put {l:List (κ×β)} {es:Array MapEntry} {clock:Nat} (h:zO kenc vf l es clock) (k:κ) (v:β) :
  match l.findIdx? (λp=>beq k p.1) with
  | some i=>zO kenc vf (l.set i (k,v)) (es.modify i λe=>{ e with key:=kenc k,val:=vf v }) clock
  | none=>zO kenc vf (l++[(k,v)]) (es.push { key:=kenc k,val:=vf v,born:=clock }) (clock+1):=by
 cases s:l.findIdx? (λp=>beq k p.1) with
 | none=>
  refine ⟨?_,?_,?_⟩
  ·simp [h.KX]
  ·simp only [Array.toList_push,dz]
   exact ⟨h.born,fb,λa ha b o=>by simp at o; subst o; exact h.lt a ha⟩
  ·intro e he
   simp at he
   rcases he with he | rfl
   ·exact Nat.lt_succ_of_lt (h.lt e (by simpa using he))
   ·exact bB _
 | some i=>
  obtain ⟨p,hp,_⟩:=uM s
  have hi:i < l.length:=(bT.1 hp).1
  have c:(es.modify i λe=>{ e with key:=kenc k,val:=vf v }).toList.map (·.born)=es.toList.map (·.born):=by
   apply eZ
   intro j
   simp only [fF,dQ,dP]
   split
   ·cases es[j]? <;> simp
   ·rfl
  refine ⟨?_,?_,?_⟩
  ·apply eZ
   intro j
   have g:=bI (λq=>q[j]?) h.KX
   simp only [fF,dQ] at g
   simp only [fF,dQ,dP,fE]
   by_cases d:i=j
   ·subst d
    simp only [aJ]
    rw [aP hi]
    cases t:es[i]? with
    | none=>rw [t,hp] at g; cases g
    | some e=>rfl
   ·rw [aN d,aN d]; exact g
  ·have:=h.born
   rw [←gl (f:=λe:MapEntry=>e.born) (R:=(· < ·))] at this ⊢
   rw [c]; exact this
  ·intro e he
   have:e.born∈es.toList.map (·.born):=by rw [←c]; exact bW.2 ⟨e,he,Z⟩
   obtain ⟨e',n,u⟩:=bW.1 this
   rw [←u]; exact h.lt e' n
theorem DK {W:World} {r:Nat} {es:Array MapEntry} {c:Nat} (d:W.heap[r]? =some (.map es c)) (a:Obj):(setObj r a).run P W= .ok () (ChangeMaps.setBlock W r a):=by
 simp [setObj,Sem.run,d,ChangeMaps.setBlock]
theorem ST.setBlock {A B:LO} {b:Nat} {o:Obj} (h:ST dd F w W μ (A++(b,o)::B)) (c:Obj):ST dd F w (ChangeMaps.setBlock W b c) μ (A++(b,c)::B):=by
 have d:=(h.box b o fb).1
 have a:=rq d
 refine h.put ⟨Z,Z,Z,aZ _,by simp [ChangeMaps.setBlock]⟩ (λk hk=>?_) ?_
 ·simp only [ChangeMaps.setBlock]
  rw [Array.getElem?_setIfInBounds_ne λe=>hk e.symm]
 ·simp only [ChangeMaps.setBlock]
  rw [Array.getElem?_setIfInBounds_self_of_lt a]
theorem HK {J:Value→World→Prop} (X:LO) {Y R:LO} {t e:TypeId} {m x y:Operand} {I:Value} {l:List (κ×β)} {k:κ} {v:β} (K:sY P kt kenc beq) (O:P.underlying t=some (.map kt e)) (n:ST dd F w W μ (X++(R++Y))) (h:nC kenc vf I l R) (hm:lf E m=I) (T:lf E x=kenc k) (U:lf E y=vf v) (M:∀W' R',ST dd F w W' μ (X++(R'++Y))→nC kenc vf I (rW beq l k v) R'→J undef W'):pq P E ⟨d,.mapUpdate t m x y,ty,pos,af,g⟩ W J:=by
 obtain ⟨c,es,clock,rfl,rfl,z⟩:=h
 have A:W.heap[c]? =some (.map es clock):=(n.box c (.map es clock) fb).1
 have L:(getObj c:Sem Obj).run P W= .ok (.map es clock) W:=by simp [getObj,Sem.run,A]
 have o:=K.find k _ _ z.keys W
 rw [z.get k] at o
 have a:=z.put (beq:=beq) k v
 have j:∀W',(Instr.mapUpdate t (.map (some c)) (kenc k) (vf v)).run P W= .ok () W'→(execOp (lf E) ⟨d,.mapUpdate t m x y,ty,pos,af,g⟩).run P W= .ok .skip W':=by
  intro W' Q
  show (do Instr.mapUpdate t (lf E m) (lf E x) (lf E y); pure .skip:Sem Next).run P W=_
  rw [hm,T,U]
  simp [Q]
 cases s:l.findIdx? (λp=>beq k p.1) with
 | none=>
  rw [s] at o a
  refine .inr (.inl ⟨ChangeMaps.setBlock W c (.map (es.push { key:=kenc k,val:=vf v,born:=clock }) (clock+1)),j _ ?_,M _ [(c,_)] (n.setBlock _) ⟨c,_,_,Z,Z,?_⟩⟩)
  ·simp [Instr.mapUpdate,bA O,L,K.check,o,DK A]
  ·rw [rW,s]; exact a
 | some i=>
  obtain ⟨p,hp,G⟩:=uM s
  rw [s] at o a
  simp only [aA,hp,eU] at o
  have u:((es[i]?).map (·.key)).getD (kenc k)=kenc k:=by
   have:=bI (λq=>q[i]?) z.keys
   simp only [fF,hp,eU,dQ] at this
   rw [this]
   simp [K.eq k p.1 G]
  refine .inr (.inl ⟨ChangeMaps.setBlock W c (.map (es.modify i λe=>{ e with key:=kenc k,val:=vf v }) clock),j _ ?_,M _ [(c,_)] (n.setBlock _) ⟨c,_,_,Z,Z,?_⟩⟩)
  ·simp only [Instr.mapUpdate,cK,bA O,L,K.check,o,bQ,u,Instr.keyThatStays,K.bits,aJ,dC]
   exact DK A _
  ·rw [rW,s]; exact a
theorem OT {c:Value→World→Prop} {t:TypeId} (kenc:κ→Value) (vf:β→Value) (a:ST dd F w W μ L) (h:∀W' v R,ST dd F w W' μ (R++L)→nC kenc vf v [] R→c v W'):pq P E ⟨d,.makeMap t none,ty,pos,af,g⟩ W c :=
 .inl ⟨.map (some W.heap.size),W.alloc (.map #[] 0),by
   show (do pure (.value (←Instr.makeMap t none)):Sem Next).run P W=_
   simp [Instr.makeMap,newObj,Sem.run],h _ _ [(W.heap.size,.map #[] 0)] (a.alloc _) ⟨_,_,_,Z,Z,⟨Z,fb,fb⟩⟩⟩
end
end Go.Proofs.YtlfibegniofmjaaGreat
namespace Go.Proofs.YtlfibegniofmjaaGreat
open Go.RowKit
variable {dd:Bool}
open Classical in
noncomputable def Kd {α β:Type} (l:List α) (f:List α→Option β):Option β :=
 match l with
 | []=>f []
 | [x]=>f [x]
 | l=>if h:∃r,∀o,o.Perm l→f o=some r then some h.choose else none
theorem MF {α β:Type} {l:List α} {f:List α→Option β} {r:β} (h:∀o,o.Perm l→f o=some r):Kd l f=some r:=by
 have a:∃r,∀o,o.Perm l→f o=some r:=⟨r,h⟩
 unfold Kd
 split
 ·exact h _ (.refl _)
 ·exact h _ (.refl _)
 ·rw [dif_pos a]
  have h1:=a.choose_spec _ (.refl _)
  rw [h _ (.refl _)] at h1
  exact h1.symm
end Go.Proofs.YtlfibegniofmjaaGreat
namespace Go.Proofs.YtlfibegniofmjaaGreat
open Go.RowKit
variable {dd:Bool}
def Pa {α β:Type} (P:Program) (fv:Value) (μ:mc) (a:α→List Value) (c:β→Value) (pm:α→Option β):Prop :=
 ∃f caps,fv= .func (.func f) #[] caps∧(∀args w,(callFunc f args).run P w= .ok (.enter f args) w)∧∀W x r,lm μ (hp W)→pm x=some r→lF true P f (a x++caps.toList) W (c r)
def DH {α β:Type} (P:Program) (fv:Value) (μ:mc) (a:α→List Value) (c:β→Value) (pm:α→Option β):Prop :=
 ∃f first caps,fv= .func (.func f) first caps∧(∀args w,(callFunc f args).run P w= .ok (.enter f args) w)∧∀W x r,lm μ (hp W)→pm x=some r→lF false P f (first.toList++(a x++caps.toList)) W (c r)
theorem DH.form {α β:Type} {P:Program} {fv:Value} {μ:mc} {c:α→List Value} {d:β→Value} {pm:α→Option β} (h:DH P fv μ c d pm):∃f a b,fv= .func f a b:=let ⟨f,a,b,h,_⟩:=h; ⟨_,a,b,h⟩
section
variable {P:Program} {W:World} {E:mD} {d:Option Nat} {ty:TypeId} {pos:String} {af:Array Edge} {g:tC} {F:Nat→Prop} {w:World} {μ μ0:mc} {L:LO}
theorem DH.mono {α β:Type} {fv:Value} {a:α→List Value} {c:β→Value} {pm:α→Option β} (h:DH P fv μ a c pm) (i:lm μ μ0):DH P fv μ0 a c pm:=by
 obtain ⟨f,first,caps,h1,d,g⟩:=h
 exact ⟨f,first,caps,h1,d,λW x r h=>g W x r (i.trans h)⟩
theorem RU {α β:Type} {K:Value→World→Prop} {fv:Value} {c:α→List Value} {k:β→Value} {pm:α→Option β} {i:Operand} {ax:Array Operand} {ats:Array TypeId} (x:α) {r:β} (a:ST false F w W μ L) (s:DH P fv μ0 c k pm) (u:lm μ0 μ) (t:lf E i=fv) (ha:ax.map (lf E)++(#[]:Array Value)=(c x).toArray) (hm:pm x=some r) (h:∀W',ST false F w W' μ L→K (k r) W'):pq P E ⟨d,.call ⟨.value i,ax,ats⟩,ty,pos,af,g⟩ W K:=by
 obtain ⟨f,first,caps,rfl,n,o⟩:=s
 have j:ax.map (lf E)=(c x).toArray:=by simpa using ha
 refine .inr (.inr ⟨f,(first.toList++(c x++caps.toList)).toArray,?_,cZ (o W x r (u.trans a.lb) hm) λ_ _ ⟨p,q⟩=>⟨_,p,h _ (a.PZ q)⟩⟩)
 show (do let d ←resolve (lf E) ⟨.value i,ax,ats⟩ ty; invoke d.target d.args:Sem Next).run P W=_
 simp only [resolve,t,Deferred.ofValue,cK,dC,bQ,invoke,j,n]
 congr 2
 simp
end
end Go.Proofs.YtlfibegniofmjaaGreat
namespace Go.Proofs.YtlfibegniofmjaaGreat
open Go.RowKit
variable {dd:Bool}
def FK (A:LO):mc:=λb=>(A.find? λp=>p.1==b).map (·.2)
theorem nI {A:LO} {W:World} (h:∀b o,(b,o)∈A→W.heap[b]? =some o):∀b o,FK A b=some o→W.heap[b]? =some o:=λb o a=>by
 unfold FK at a
 cases c:A.find? (λp=>p.1==b) with
 | none=>rw [c] at a; cases a
 | some p=>
  rw [c] at a
  cases a
  have h1:=List.mem_of_find?_eq_some c
  have d:=List.find?_some c
  simp at d
  subst d
  exact h _ _ h1
theorem At.of {M:mc} {b:Nat} {cs:Array Value} {T:TypeId} {fr:Nat×Nat} (h:M b=some (.cells cs T fr)) (ys:List Value) (c:cs.toList=ys):At M (.pointer (some ⟨b,0,none⟩)) ys :=
 ⟨b,0,cs,T,fr,Z,h,λj y a=>by subst c; simpa using a⟩
section
variable {F:Nat→Prop} {w W W':World} {μ μ':mc} {L L0 L1 L2:LO}
theorem ST.OD (h:ST dd F w W μ L) (a:L.Perm (L0++L2)):∀b o,(b,o)∈L2→wN W L0 b=some o:=λb o c=>by
 have h1:=(h.perm a).at_ (dI _ c)
 unfold wN
 rw [aN (KM (h.perm a).nd c)]
 exact h1
theorem ST.held (h:ST dd F w W μ L) (a:L.Perm (L0++L2)):IR L0 W:=λb o c=>((h.perm a).box b o (cN _ c)).1
theorem ST.Xo (h:ST dd F w W μ L) (a:L.Perm (L0++L2)):(L0.map (·.1)).Nodup:=by
 have:=(h.perm a).nd
 rw [cV] at this
 exact (cL.1 this).1
theorem ST.XZ (h:ST dd F w W μ L) (a:L.Perm (L0++L2)):lm μ (wN W L0):=(h.perm a).lp (λ_ hp=>cN _ hp)
end
section
variable {P:Program} {E:mD} {W:World} {d:Option Nat} {ty:TypeId} {pos:String} {af:Array Edge} {g:tC}
 {F:Nat→Prop} {w:World} {μ:mc} {L:LO}
theorem Zr {K:Value→World→Prop} {K':Value→LO→World→Prop} {f:FuncId} {fv:Operand} {ax:Array Operand} {ats:Array TypeId} {caps:Array Value} {args:List Value} (L0 L2:LO) (a:ST dd F w W μ L) (c:L.Perm (L0++L2)) (p:lf E fv= .func (.func f) #[] caps) (he:∀args w,(callFunc f args).run P w= .ok (.enter f args) w) (ha:ax.map (lf E)++(#[]:Array Value)=args.toArray) (n:IR L0 W→(L0.map (·.1)).Nodup→lm μ (wN W L0)→(∀b o,(b,o)∈L2→wN W L0 b=some o)→mX dd P f (args++caps.toList) W L0 K') (h:∀W' v μ' L1,ST dd F w W' μ' (L1++L2)→lm μ μ'→Lo F w μ μ'→(∀b,W.heap.size≤b→∀o,wN W' L1 b=some o→μ' b=some o)→K' v L1 W'→K v W'):pq P E ⟨d,.call ⟨.value fv,ax,ats⟩,ty,pos,af,g⟩ W K:=by
 have i:ax.map (lf E)=args.toArray:=by simpa using ha
 refine KL (args:=(args++caps.toList).toArray) p he (by rw [i]; simp) (cZ (n (a.held c) (a.Xo c) (a.XZ c) (a.OD c)) λ_ W' ⟨v,L1,h1,j,k⟩=>⟨v,h1,h W' v _ L1 ((a.perm c).back j) ((a.perm c).OU W' L1) ((a.perm c).RB W' L1) ?_ k⟩)
 intro b s o q
 unfold Hn
 rw [aN eR]
 exact q
theorem Sl.lift {α:Type} {enc:α→List Value} {k:Nat} {M μ':mc} {B:Nat} {v:Value} {l:List α} (h:Sl (Pl enc) k M v l) (q:Fr B v) (p:∀b,B≤b→∀o,M b=some o→μ' b=some o):Sl (Pl enc) k μ' v l:=by
 obtain ⟨A,c,h1,d,g,i⟩:=h
 refine ⟨A,c,h1,d,g,λs=>?_⟩
 obtain ⟨b,off,cs,T,fr,a,j,n⟩:=i s
 exact ⟨b,off,cs,T,fr,a,p b (q b (by rw [h1,a]; rfl)) _ j,n⟩
theorem Gw {t:TypeId} (dd:Nat) {s u:Array TypeId} {b:Bool} (d:P.underlying t=some (.func s u b)) (f:Fn) (a c:Array Value) (W:World):(Op.equalIn (dd+1) t (.func f a c) .nilFunc).run P W= .ok false W:=by
 simp [Op.equalIn,bA d]
theorem Sc {tx tv:TypeId} {x y:Operand} {f:Fn} {a b:Array Value} {s u:Array TypeId} {bb:Bool} (h:P.underlying tx=some (.func s u bb)) (i:lf E x= .func f a b) (j:lf E y= .nilFunc) :
  nf P E ⟨d,.binOp .neq tx x y tv,ty,pos,af,g⟩ W (.bool true) W:=by
 show (do let r ←(do eqGuard .neq tx x y (lf E x) (lf E y); binOp .neq tx (lf E x) (lf E y)); pure (.value r):Sem Next).run P W=_
 rw [i,j]
 have c:=Gw 9999 h f a b W
 simp [eqGuard,binOp,Op.equal,show Op.maxDepth=9999+1 from rfl,c]
end
def B4 {κ β:Type} (beq:κ→κ→Bool) (l:List (κ×β)) (k:κ) (z:β):β:=(mO beq l k).getD z
section
variable {P:Program} {W:World} {κ β:Type} {kt:TypeId} {kenc:κ→Value} {beq:κ→κ→Bool} {vf:β→Value} {E:mD} {d:Option Nat} {ty:TypeId} {pos:String} {af:Array Edge} {g:tC} {F:Nat→Prop} {w:World} {μ:mc} {L R:LO} {v:Value} {left:List (κ×β)}
theorem Fa {t e:TypeId} {m x:Operand} {a:Value} {l:List (κ×β)} {k:κ} {z:β} (K:sY P kt kenc beq) (i:P.underlying t=some (.map kt e)) (n:∀w,(zeroValue e).run P w= .ok (vf z) w) (hm:lf E m=a) (j:lf E x=kenc k) (c:zT kenc vf (hp W) a l) :
  nf P E ⟨d,.lookup t m x false,ty,pos,af,g⟩ W (vf (B4 beq l k z)) W:=by
 have:=Qo (d:=d) (ty:=ty) (pos:=pos) (af:=af) (g:=g) K i n hm j c
 rw [B4]
 cases h:mO beq l k with
 | none=>rw [h] at this; exact this
 | some y=>rw [h] at this; exact this
theorem T6 {t e:TypeId} {m x:Operand} {s:Value} {l:List (κ×β)} {k:κ} {z:β} (K:sY P kt kenc beq) (o:P.underlying t=some (.map kt e)) (c:∀w,(zeroValue e).run P w= .ok (vf z) w) (hm:lf E m=s) (A:lf E x=kenc k) (v:zT kenc vf (hp W) s l) :
  nf P E ⟨d,.lookup t m x true,ty,pos,af,g⟩ W (.tuple #[vf (B4 beq l k z),.bool (mO beq l k).isSome]) W:=by
 show (do pure (.value (←Instr.lookup t (lf E m) (lf E x) true)):Sem Next).run P W=_
 rw [hm,A]
 rcases v with ⟨rfl,rfl⟩ | ⟨q,es,clock,rfl,y,h⟩
 ·have:=K.find k [] [] Z W
  simp [Instr.lookup,bA o,K.check,this,c W,mO,B4]
 ·have a:W.heap[q]? =some (.map es clock):=y
  have u:(getObj q:Sem Obj).run P W= .ok (.map es clock) W:=by simp [getObj,Sem.run,a]
  have j:=K.find k _ _ h.keys W
  rw [h.get k] at j
  simp only [Instr.lookup,cK,bA o,bQ,u,dC,K.check,j,B4,zx]
  cases G:l.findIdx? (λp=>beq k p.1) with
  | none=>simp [c W]
  | some i=>
   cases n:l[i]? with
   | none=>simp [n,c W]
   | some p=>simp [n]
theorem nC.one {a:Value} {l:List (κ×β)} (h:nC kenc vf a l R):a.oneCell'=true:=by obtain ⟨m,es,clock,rfl,_⟩:=h; rfl
theorem nC.form {a:Value} {l:List (κ×β)} (h:nC kenc vf a l R):∃m,a= .map (some m):=by obtain ⟨m,es,clock,rfl,_⟩:=h; exact ⟨m,Z⟩
theorem nC.nd {a:Value} {l:List (κ×β)} (h:nC kenc vf a l R):(R.map (·.1)).Nodup:=by obtain ⟨m,es,clock,rfl,rfl,_⟩:=h; simp
theorem nC.atL {a:Value} {l:List (κ×β)} (h:nC kenc vf a l R):zT kenc vf (FK R) a l:=by
 obtain ⟨m,es,clock,rfl,rfl,c⟩:=h
 exact .inr ⟨m,es,clock,Z,by simp [FK],c⟩
end
def rf {α:Type} (l:List α) (i:Nat) (z:α):List α:=l.take i++List.replicate (l.length-i) z
theorem AX {α:Type} (l:List α) (i:Nat) (z:α) (h:i≤l.length):(rf l i z).length=l.length:=by simp [rf]; omega
theorem LI {α:Type} (l:List α) (i:Nat) (z:α) (h:i≤l.length):(rf l i z).take i=l.take i:=by
 simp only [rf]
 rw [fN,dM fo]
 simp; omega
end Go.Proofs.YtlfibegniofmjaaGreat
namespace Go.Proofs.YtlfibegniofmjaaGreat
open Go.RowKit
theorem Pj {P:Program} {cs:Array Value} {b:Bool} {n:Nat} {W:World}:∀(l:List Field),
  (∀f∈l,f.name≠ "_"→∃v,(part f.type cs f.offset).run P W= .ok v W∧(Instr.checkKey b n f.type v).run P W= .ok () W)→
  ((forIn l PUnit.unit λf (_:PUnit)=>do
   if f.name≠ "_" then Instr.checkKey b n f.type (←part f.type cs f.offset)
   pure (ForInStep.yield PUnit.unit)):Sem PUnit).run P W= .ok PUnit.unit W
 | [],_=>by simp
 | f::l,h=>by
  have ih:=Pj l (λf d=>h f (ew _ d))
  simp only [List.forIn_cons,cK]
  by_cases a:f.name≠ "_"
  ·obtain ⟨v,h1,c⟩:=h f fb a
   simp only [aP a,cK,h1,bQ,c,dC]
   exact ih
  ·simp only [aN a,cK,dC,bQ]
   exact ih
theorem Nq {P:Program} {kt:TypeId} {a:Array Field} {l:List Field} {cs:Array Value} {b:Bool} {n:Nat} {W:World} (d:P.underlying kt=some (.struct a)) (c:a.toList=l) (h:∀f∈l,f.name≠ "_"→∃v,(part f.type cs f.offset).run P W= .ok v W∧(Instr.checkKey b n f.type v).run P W= .ok () W):(Instr.checkKey b (n+1) kt (.agg cs)).run P W= .ok () W:=by
 obtain ⟨a⟩:=a
 subst c
 simp only [Instr.checkKey,cK,bA d,bQ,List.forIn_toArray]
 have:=Pj (P:=P) (cs:=cs) (b:=b) (n:=n) (W:=W) a h
 simp only [cK] at this
 first | rw [this]; rfl | simpa using this
variable {dd:Bool}
def rr (b:Bool):Option Unit:=if b=true then some () else none
theorem LX {b:Bool} {u:Unit} (h:rr b=some u):b=true:=by
 unfold rr at h; split at h
 ·assumption
 ·cases h
theorem vp {a c:Int} {u:Unit} (h:rr (decide (0≤a)&&decide (a≤c))=some u):0≤a:=by have:=LX h; simp at this; exact this.1
theorem vl {a c:Int} {u:Unit} (h:rr (decide (0≤a)&&decide (a≤c))=some u):a≤c:=by have:=LX h; simp at this; exact this.2
def F9 (k:Nat) (v:Value) (i:Nat) (u:Value):Prop:=∃A n c A' a,v= .slice A n c∧u= .slice A' (n-i) a∧i≤n∧(i < n→∃b o,A=some ⟨b,o,none⟩∧A'=some ⟨b,o+i*k,none⟩)
section
variable {P:Program} {E:mD} {W:World} {d:Option Nat} {ty:TypeId} {pos:String} {af:Array Edge} {g:tC}
 {F:Nat→Prop} {w:World} {μ:mc} {L:LO} {α:Type} {e':TypeId} {enc:α→List Value} {k:Nat} {v:Value} {l:List α} {R:LO}
theorem zA {t e:TypeId} {x a:Operand} {z:IntKind} {i:Int} (n:P.underlying t=some (.slice e)) (he:∀w,(sizeOf e).run P w= .ok k w) (o:lf E x=v) (hi:lf E a= .int z i) (h:lQ e' enc k v l R) (q:0≤i) (j:i≤l.length) :
  ∃u,F9 k v i.toNat u∧∀W,nf P E ⟨d,.slice t x (some a) none none,ty,pos,af,g⟩ W u W:=by
 rcases h with ⟨rfl,rfl,rfl⟩ | ⟨c,cap,p,rfl,rfl,h1,A,G,I⟩
 ·have:i=0:=by simp at j; omega
  subst this
  refine ⟨.slice none 0 0,⟨none,0,0,none,0,Z,Z,aZ _,λh=>absurd h fb⟩,λW=>?_⟩
  show (do pure (.value (←Instr.sliceAt t (lf E x) (some (lf E a)) none none)):Sem Next).run P W=_
  rw [o,hi]
  simp [Instr.sliceAt,Instr.slice,Instr.sliceBounds,Instr.sliceBound,asIntOf,bA n,he W]
 ·refine ⟨.slice (some (if cap=i.toNat then ⟨c,0,none⟩ else Addr.add ⟨c,0,none⟩ (i.toNat*k))) (l.length-i.toNat) (cap-i.toNat),⟨_,_,_,_,_,Z,Z,eR,λy=>⟨c,0,Z,?_⟩⟩,λW=>?_⟩
  ·rw [aN eR]; simp [ek]
  ·show (do pure (.value (←Instr.sliceAt t (lf E x) (some (lf E a)) none none)):Sem Next).run P W=_
   rw [o,hi]
   have s:0≤i∧i≤(l.length:Int):=⟨q,j⟩
   simp [Instr.sliceAt,Instr.slice,Instr.sliceBounds,Instr.sliceBound,asIntOf,bA n,he W,s]
   split <;> rfl
theorem BH {i j:Nat} {x0:α} (h:(l.drop i)[j]? =some x0):l[i+j]? =some x0:=by rwa [ev] at h
theorem JH {t e:TypeId} {x:Operand} {u:Value} {i:Nat} (o:P.underlying t=some (.slice e)) (p:lf E x=u) (hu:F9 k v i u) (h:lQ e' enc k v l R):nf P E ⟨d,.call ⟨.builtin .len,#[x],#[t]⟩,ty,pos,af,g⟩ W (.int .i64 ((l.length-i:Nat):Int)) W:=by
 obtain ⟨A,n,c,A',q,h1,j,w,_⟩:=hu
 subst j
 have:n=l.length:=by
  rcases h with ⟨rfl,rfl,rfl⟩ | ⟨s,cap,a,rfl,rfl,_⟩
  ·cases h1; rfl
  ·cases h1; rfl
 subst this
 exact Iq o p
theorem zL {t e:TypeId} {x q:Operand} {T:IntKind} {i:Int} {x0:α} {u:Value} {o:Nat} (O:P.underlying t=some (.slice e)) (he:∀w,(sizeOf e).run P w= .ok k w) (Q:lf E x=u) (hi:lf E q= .int T i) (h:lQ e' enc k v l R) (hu:F9 k v o u) (I:0≤i) (M:(l.drop o)[i.toNat]? =some x0) :
  ∃p,Gq R k p (o+i.toNat)∧∀W,nf P E ⟨d,.indexAddr t x q,ty,pos,af,g⟩ W p W:=by
 have a:=BH M
 have j:o+i.toNat < l.length:=(bT.1 a).1
 rcases h with ⟨rfl,rfl,rfl⟩ | ⟨G,cap,s,rfl,rfl,h1,Y,h3,h4⟩
 ·simp at j
 obtain ⟨A,n,c,A',U,y,rfl,h7,J⟩:=hu
 cases y
 obtain ⟨b,oo,z,rfl⟩:=J eR
 cases z
 refine ⟨.pointer (some ⟨G,(o+i.toNat)*k,none⟩),⟨_,_,Z,Z⟩,λW=>?_⟩
 show (do pure (.value (←Instr.indexAt t (lf E x) (lf E q))):Sem Next).run P W=_
 rw [Q,hi]
 have L:0≤i∧i < ((l.length-o:Nat):Int):=⟨I,eR⟩
 simp [Instr.indexAt,asIntOf,bA O,he W,L,ek,dn]
theorem Nl {u:sV α} {t e:TypeId} {x ih:Operand} {U:IntKind} {j:Int} (R:P.underlying t=some (.slice e)) (he:∀w,(sizeOf e).run P w= .ok k w) (n:lf E x=v) (hi:lf E ih= .int U j) (h:Sl u k μ v l) (G:0≤j) (hl:j≤l.length) :
  ∃s,(Sl u k μ s (l.take j.toNat)∧∀B,Fr B v→Fr B s)∧∀W,nf P E ⟨d,.slice t x none (some ih) none,ty,pos,af,g⟩ W s W:=by
 obtain ⟨A,c,rfl,h2,I,J⟩:=h
 have Q:j.toNat≤l.length:=by omega
 refine ⟨.slice A (l.take j.toNat).length c,⟨⟨A,c,Z,fo,I,λhp=>?_⟩,λB O b o=>O b (by cases A with | none=>simp [Value.ownBlock] at o | some a=>(obtain ⟨y,Y,q⟩:=a; cases q <;> simp [Value.ownBlock] at o ⊢ <;> exact o))⟩,λW=>?_⟩
 ·have p:0 < l.length:=by simp at hp; omega
  obtain ⟨b,off,cs,T,fr,rfl,L,M⟩:=J p
  refine ⟨b,off,cs,T,fr,Z,L,λi x n=>?_⟩
  rw [fu] at n
  split at n
  ·exact M i x n
  ·cases n
 ·show (do pure (.value (←Instr.sliceAt t (lf E x) none (some (lf E ih)) none)):Sem Next).run P W=_
  rw [n,hi]
  have o:0≤j∧j≤(c:Int):=⟨G,eR⟩
  have z:min j.toNat l.length=j.toNat:=by omega
  simp [Instr.sliceAt,Instr.slice,Instr.sliceBounds,Instr.sliceBound,asIntOf,bA R,he W,o,z]
  intro _
  cases A with
  | none=>rfl
  | some a=>obtain ⟨y,Y,q⟩:=a; cases q <;> simp [Addr.add]
theorem Oc (ys:List Value) (m:Nat):(Builtin.zeroCells ys.toArray m).toList=(List.replicate m ys).flatten:=by
 unfold Builtin.zeroCells
 simp only [Array.toList_map,Array.toList_range,dY]
 rcases eW ys.length with a | a
 ·have:ys=[]:=dX.1 a
  subst this
  simp
 apply eZ
 intro q
 by_cases d:q < m*ys.length
 ·have h1:q / ys.length < m:=(iA a).2 d
  have c:q % ys.length < ys.length:=Nat.mod_lt _ a
  have:=AK (enc:=λ_:Unit=>ys) (λ_=>rfl) (List.replicate m ()) (q / ys.length) () (by simp [h1]) (q % ys.length) ys[q % ys.length] (by simp [c])
  rw [Nat.div_add_mod' q ys.length] at this
  rw [List.map_replicate] at this
  rw [this]
  simp [d,c]
 ·rw [eV fo,eV fo]
theorem SB {K:Value→World→Prop} (z:α) (X:LO) {Y:LO} {t e:TypeId} {x:Operand} {u U:Value} {i:Nat} (p:ST dd F w W μ (X++(R++Y))) (h:lQ e' enc k v l R) (hk:∀x,(enc x).length=k) (h1:∀x,∀u∈enc x,u.oneCell'=true) (O:P.underlying t=some (.slice e)) (hz:∀w,(zeroValue e).run P w= .ok U w) (hu:F9 k v i u) (hc:U.cells=(enc z).toArray) (hx:lf E x=u) (L:∀W' R',ST dd F w W' μ (X++(R'++Y))→lQ e' enc k v (rf l i z) R'→K (.tuple #[]) W'):pq P E ⟨d,.call ⟨.builtin .clear,#[x],#[t]⟩,ty,pos,af,g⟩ W K:=by
 have j:∀(W':World),(Builtin.clear_ #[t] ty #[u]).run P W= .ok (.tuple #[]) W'→(execOp (lf E) ⟨d,.call ⟨.builtin .clear,#[x],#[t]⟩,ty,pos,af,g⟩).run P W= .ok (.value (.tuple #[])) W':=by
  intro W' hV
  show (do let d ←resolve (lf E) ⟨.builtin .clear,#[x],#[t]⟩ ty; invoke d.target d.args:Sem Next).run P W=_
  simp [resolve,invoke,builtin,hx,hV]
 obtain ⟨A,n,c,A',c',e1,rfl,G,h8⟩:=hu
 rcases h with ⟨rfl,rfl,rfl⟩ | ⟨s,cap,a,rfl,rfl,q1,q2,q3,q4⟩
 ·cases e1
  refine .inl ⟨_,W,j W ?_,L W [] p (by simpa [rf] using lQ.nil e' enc k)⟩
  simp only [Builtin.clear_,Nat.zero_sub]
  cases A' <;> simp [bA O]
 ·cases e1
  by_cases hi:i < l.length
  ·obtain ⟨b,o,e2,rfl⟩:=h8 hi
   cases e2
   have T:∀m,(Builtin.zeroCells U.cells m).toList=(List.replicate m (enc z)).flatten:=by
    intro m
    rw [hc]; exact Oc _ _
   have hb:=(p.box s (.cells a e' (0,0)) fb).1
   have hle:i*k+(l.length-i)*k=l.length*k:=by rw [←dn]; congr 1; omega
   have hlen:l.length*k≤c*k:=dp _ q1
   have q:((List.replicate (l.length-i) (enc z)).flatten).length=(l.length-i)*k:=by simp [hk]
   have y:∀v∈(List.replicate (l.length-i) (enc z)).flatten,v.oneCell'=true:=by
    intro v I
    obtain ⟨ys,Q,I⟩:=jX.1 I
    rw [(List.mem_replicate.1 Q).2] at I
    exact h1 z v I
   have hs:=jx (P:=P) s (i*k) e' ((List.replicate (l.length-i) (enc z)).flatten) 0 a W hb (by rw [q,q3]; omega) y
   rw [gZ,q,hle] at hs
   refine .inl ⟨_,W.setRow s (a.toList.take (i*k)++(List.replicate (l.length-i) (enc z)).flatten++a.toList.drop (l.length*k)).toArray,j _ ?_,L _ [(s,.cells (a.toList.take (i*k)++(List.replicate (l.length-i) (enc z)).flatten++a.toList.drop (l.length*k)).toArray e' (0,0))] (p.store _) (.inr ⟨s,c,_,by rw [AX _ _ _ G],Z,by rw [AX _ _ _ G]; exact q1,q2,?_,?_⟩)⟩
   ·have hn:l.length-i=(l.length-i-1)+1:=by omega
    simp only [Builtin.clear_]
    rw [hn]
    simp only [bA O,cK,bQ,fz,gU,hz,fa]
    rw [←hn,T,hs]
    simp
   ·have J:a.toList.length=c*k:=by simpa using q3
    rw [dY,aF,aF,dA,fM,q,J,ej eR]
    omega
   ·rw [AX _ _ _ G,rf,cV,dx,JV hk l i G,←q4,gX,ej eR,List.map_replicate]
    have J:a.toList.length=c*k:=by simpa using q3
    have e3:(a.toList.take (i*k)++(List.replicate (l.length-i) (enc z)).flatten).length=l.length*k:=by rw [aF,dA,q,J,ej eR]; omega
    show List.take (l.length*k) (a.toList.take (i*k)++(List.replicate (l.length-i) (enc z)).flatten++a.toList.drop (l.length*k))=_
    rw [fN,dM (by rw [e3]; exact aZ _),e3,Nat.sub_self]
    simp
  ·have M:i=l.length:=by omega
   subst M
   refine .inl ⟨_,W,j W ?_,L W _ p ?_⟩
   ·simp only [Builtin.clear_,Nat.sub_self]
    cases A' <;> simp [bA O]
   ·simp only [rf,List.take_length,Nat.sub_self,List.replicate_zero,bP]
    exact .inr ⟨s,c,a,Z,Z,q1,q2,q3,q4⟩
end
end Go.Proofs.YtlfibegniofmjaaGreat
namespace Go.Proofs.YtlfibegniofmjaaGreat
open Go.RowKit
variable {dd:Bool}
section
variable {P:Program} {E:mD} {W:World} {d:Option Nat} {ty:TypeId} {pos:String} {af:Array Edge} {g:tC}
 {F:Nat→Prop} {w:World} {μ:mc} {L:LO}
theorem Uu {K:Value→World→Prop} {f:FuncId} {fv:Operand} {ax:Array Operand} {ats:Array TypeId} {args:List Value} {v:Value} (c:lf E fv= .func (.func f) #[] #[]) (ha:ax.map (lf E)++(#[]:Array Value)=args.toArray) (i:(callFunc f args.toArray).run P W= .ok (.value v) W) (h:K v W):pq P E ⟨d,.call ⟨.value fv,ax,ats⟩,ty,pos,af,g⟩ W K:=by
 have a:ax.map (lf E)=args.toArray:=by simpa using ha
 refine .inl ⟨v,W,?_,h⟩
 show (do let d ←resolve (lf E) ⟨.value fv,ax,ats⟩ ty; invoke d.target d.args:Sem Next).run P W=_
 simp only [resolve,c,Deferred.ofValue,cK,dC,bQ,invoke]
 rw [a]
 simpa using i
def B7 (s:ByteArray) (c:Int):Int:=Lib.indexByte s.data.toList c.toNat.toUInt8
def tz (a b:ByteArray):Int:=Lib.compareBytes a.data.toList b.data.toList
def xO (l:List Int):List UInt8:=l.map λx=>x.toNat.toUInt8
def Dn (a b:List Int):Int:=Lib.compareBytes (xO a) (xO b)
theorem NZ {f:FuncId} {fn:Func} (g:P.funcs[f]? =some fn) (a:(fn.name== "runtime.NumGoroutine")=false) (d:fn.body.isNone=true) (h:Extern.findNext fn=none) (he:Extern.find fn=some Extern.BytealgIndexByte.indexByte) (s:ByteArray) (c:Int) (w:World) :
  (callFunc f [Value.string s,.int .u8 c].toArray).run P w= .ok (.value (.int .i64 (B7 s c))) w:=by
 rw [iS g a d h he]
 rw [Lib.run_indexByteString]
 rfl
theorem WS {f:FuncId} {fn:Func} (g:P.funcs[f]? =some fn) (c:(fn.name== "runtime.NumGoroutine")=false) (d:fn.body.isNone=true) (h:Extern.findNext fn=none) (he:Extern.find fn=some Extern.BytealgCompare.compare) (a b:ByteArray) (w:World) :
  (callFunc f [Value.string a,.string b].toArray).run P w= .ok (.value (.int .i64 (tz a b))) w:=by
 rw [iS g c d h he]
 rw [Lib.run_compareString]
 rfl
theorem Jl {v:Value} {l:List Int} (h:Sl (Pl (lu .u8)) 1 (hp W) v l):(Extern.Bytes.bytesOf v).run P W= .ok ⟨(xO l).toArray⟩ W:=by
 obtain ⟨A,c,rfl,p,q,i⟩:=h
 rcases eW l.length with a | a
 ·have:l=[]:=dX.1 a
  subst this
  cases A <;> simp [Extern.Bytes.bytesOf,Extern.Bytes.loadBytes,xO] <;> rfl
 ·obtain ⟨b,off,cs,T,fr,rfl,k,n⟩:=i a
  have:=Lib.run_loadBytesX (P:=P) W l ⟨b,off,none⟩ .empty (λj x o=>by
   obtain ⟨ys,_,g,d⟩:=n j x o
   cases g
   rw [ek,gT W b (off+j) cs T fr k]
   have:=d 0 (.int .u8 x) Z
   simpa using this)
  simp only [Extern.Bytes.bytesOf]
  rw [this]
  congr 1
  apply jR
  show (#[]:Array UInt8)++_=_
  simp [Lib.bytesOf,xO]
theorem XY {f:FuncId} {fn:Func} (j:P.funcs[f]? =some fn) (c:(fn.name== "runtime.NumGoroutine")=false) (i:fn.body.isNone=true) (k:Extern.findNext fn=none) (he:Extern.find fn=some Extern.BytealgCompare.compare) {d g:Value} {a b:List Int} (h1:Sl (Pl (lu .u8)) 1 (hp W) d a) (h:Sl (Pl (lu .u8)) 1 (hp W) g b) :
  (callFunc f [d,g].toArray).run P W= .ok (.value (.int .i64 (Dn a b))) W:=by
 rw [iS j c i k he]
 have:(Extern.BytealgCompare.compare [d,g].toArray).run P W= .ok (.int .i64 (Dn a b)) W:=by
  change Sem.run P (do pure (goInt (Extern.BytealgCompare.cmp (←Extern.Bytes.bytesOf d) (←Extern.Bytes.bytesOf g)))) W=_
  simp only [cK,Jl h1,Jl h,dC,Result.andThen]
  rw [Lib.cmp_eq]
  rfl
 rw [this]
 rfl
theorem zB {fn:Fn} {caps:Array Operand} {cs:List Value} {v:Value} (a:caps.map (lf E)++(#[]:Array Value)=cs.toArray) (c:.func fn #[] cs.toArray=v):nf P E ⟨d,.makeFunc fn #[] caps,ty,pos,af,g⟩ W v W:=by
 have:caps.map (lf E)=cs.toArray:=by simpa using a
 exact Ua (by rw [this]; simpa using c)
theorem mX.mono {f:FuncId} {args:List Value} {L0:LO} {K K':Value→LO→World→Prop} (h:mX dd P f args w L0 K) (hk:∀v L1 W',K v L1 W'→K' v L1 W'):mX dd P f args w L0 K' :=
 cZ h (λ_ _ ⟨v,L1,h1,a,c⟩=>⟨v,L1,h1,a,hk _ _ _ c⟩)
end
section
variable {α:Type}
def xF (cf:α×α→Option Int) (x y:α):Bool:=match cf (x,y) with
 | some c=>decide (c < 0)
 | none=>false
structure GL (cf:α×α→Option Int) (l:List α):Prop where
 is:∀x∈l,∀y∈l,∃c,cf (x,y)=some c
 irrefl:∀x∈l,xF cf x x=false
 trans:∀x∈l,∀y∈l,∀z∈l,xF cf x y=true→xF cf y z=true→xF cf x z=true
 total:∀x∈l,∀y∈l,xF cf x y=false→xF cf y x=false→x=y
 short:l.length < 4611686018427387904
def vx (cf:α×α→Option Int) (l:List α):List α:=l.mergeSort λx y=>!xF cf y x
open Classical in
noncomputable def CS (cf:α×α→Option Int) (l:List α):Option (List α) :=
 match l with
 | []=>some []
 | [x]=>(cf (x,x)).bind λc=>if c < 0 then none else some [x]
 | l=>if GL cf l then some (vx cf l) else none
theorem TX {cf:α×α→Option Int}:GL cf ([]:List α):=⟨λx h=>(by cases h),λx h=>(by cases h),λx h=>(by cases h),λx h=>(by cases h),fb⟩
theorem Us {cf:α×α→Option Int} {x:α} {c:Int} (h:cf (x,x)=some c) (i:¬c < 0):GL cf [x] where
 is a ha b g:=by rw [aY.1 ha,aY.1 g]; exact ⟨c,h⟩
 irrefl a ha:=by rw [aY.1 ha]; simp [xF,h,i]
 trans a ha b g d j h1 _:=by rw [aY.1 ha,aY.1 g] at h1; simp [xF,h,i] at h1
 total a ha b g _ _:=by rw [aY.1 ha,aY.1 g]
 short:=by simp
theorem NM {cf:α×α→Option Int} {l r:List α} (h:CS cf l=some r):GL cf l∧r=vx cf l:=by
 unfold CS at h
 split at h
 ·cases h; exact ⟨TX,by simp [vx]⟩
 ·rename_i x
  cases d:cf (x,x) with
  | none=>rw [d] at h; cases h
  | some c=>
   rw [d,aA] at h
   by_cases a:c < 0
   ·rw [aP a] at h; cases h
   ·rw [aN a] at h; cases h; exact ⟨Us d a,by simp [vx]⟩
 ·split at h
  ·rename_i g; cases h; exact ⟨g,Z⟩
  ·cases h
theorem Yf {cf:α×α→Option Int} {l:List α} (h:GL cf l):CS cf l=some (vx cf l):=by
 unfold CS
 split
 ·simp [vx]
 ·rename_i x
  obtain ⟨c,d⟩:=h.is x fb x fb
  have a:=h.irrefl x fb
  rw [d,aA]
  simp only [xF,d,decide_eq_false_iff_not] at a
  rw [aN a]; simp [vx]
 ·rw [aP h]
def Ai (l:List ByteArray):List ByteArray:=l.mergeSort λx y=>!uJ y x
end
end Go.Proofs.YtlfibegniofmjaaGreat
namespace Go.Proofs.YtlfibegniofmjaaGreat
open Go.RowKit
variable {dd:Bool}
def BM {κ γ:Type} (Q:Value→γ→LO→Prop):List (κ×Value)→List (κ×γ)→LO→Prop
 | [],[],R=>R=[]
 | p::a,q::l,R=>p.1=q.1∧∃R1 R2,R=R1++R2∧Q p.2 q.2 R1∧BM Q a l R2
 | _,_,_=>False
def ou {κ γ:Type} (kenc:κ→Value) (Q:Value→γ→LO→Prop) (v:Value) (d:List (κ×Value)) (l:List (κ×γ)) (R:LO):Prop :=
 ∃a c,R=a++c∧nC kenc (λx=>x) v d a∧BM Q d l c
section
variable {κ γ:Type} {Q:Value→γ→LO→Prop} {beq:κ→κ→Bool} {kenc:κ→Value}
theorem BM.keys:∀{a:List (κ×Value)} {l:List (κ×γ)} {R:LO},BM Q a l R→a.map (·.1)=l.map (·.1)
 | [],[],_,_=>rfl
 | [],_::_,_,h=>h.elim
 | _::_,[],_,h=>h.elim
 | p::a,q::l,R,h=>by
  obtain ⟨h1,R1,R2,_,_,c⟩:=h
  simp [h1,BM.keys c]
theorem BM.find {a:List (κ×Value)} {l:List (κ×γ)} {R:LO} (h:BM Q a l R) (k:κ):a.findIdx? (λp=>beq k p.1)=l.findIdx? (λp=>beq k p.1):=by
 have h1:(a.map (·.1)).findIdx? (λx=>beq k x)=(l.map (·.1)).findIdx? (λx=>beq k x):=by rw [h.keys]
 rw [gY,gY] at h1
 exact h1
theorem BM.get:∀{a:List (κ×Value)} {l:List (κ×γ)} {R:LO},BM Q a l R→∀(i:Nat) (k:κ) (x:γ),l[i]? =some (k,x)→
  ∃v A R1 B,a[i]? =some (k,v)∧R=A++(R1++B)∧Q v x R1∧∀k2 v2 x2 R2,Q v2 x2 R2→BM Q (a.set i (k2,v2)) (l.set i (k2,x2)) (A++(R2++B))
 | [],[],_,_,i,k,x,hi=>by simp at hi
 | [],_::_,_,h,_,_,_,_=>h.elim
 | _::_,[],_,h,_,_,_,_=>h.elim
 | p::a,q::l,R,h,0,k,x,hi=>by
  obtain ⟨h1,R1,R2,rfl,c,d⟩:=h
  simp at hi
  subst hi
  refine ⟨p.2,[],R1,R2,by simp only [gU]; exact bI some (Prod.ext h1 Z),Z,c,λk2 v2 x2 R2' g=>⟨Z,R2',R2,Z,g,d⟩⟩
 | p::a,q::l,R,h,i+1,k,x,hi=>by
  obtain ⟨h1,R1,R2,rfl,c,d⟩:=h
  simp at hi
  obtain ⟨v,A,R1',B,g1,rfl,g3,g4⟩:=BM.get d i k x hi
  exact ⟨v,R1++A,R1',B,by simpa using g1,fb,g3,λk2 v2 x2 R2' g=>⟨h1,R1,A++(R2'++B),fb,c,g4 k2 v2 x2 R2' g⟩⟩
theorem BM.push:∀{c:List (κ×Value)} {l:List (κ×γ)} {R:LO},BM Q c l R→∀(k:κ) {v:Value} {x:γ} {R1:LO},Q v x R1→BM Q (c++[(k,v)]) (l++[(k,x)]) (R++R1)
 | [],[],_,h,k,v,x,R1,a=>by
  have i:_=[]:=h
  subst i
  exact ⟨Z,R1,[],fb,a,Z⟩
 | [],_::_,_,h,_,_,_,_,_=>h.elim
 | _::_,[],_,h,_,_,_,_,_=>h.elim
 | p::c,q::l,R,h,k,v,x,R1,a=>by
  obtain ⟨h1,d,g,rfl,j,n⟩:=h
  exact ⟨h1,d,g++R1,fb,j,BM.push n k a⟩
theorem ou.found {t:Value} {d:List (κ×Value)} {l:List (κ×γ)} {R:LO} (hk:∀{x y:κ},beq x y=true→x=y) (h:ou kenc Q t d l R) {k:κ} {x:γ} (c:mO beq l k=some x) :
  ∃v A R1 B,mO beq d k=some v∧R=A++(R1++B)∧Q v x R1∧(∀x2 R2,Q v x2 R2→ou kenc Q t d (rW beq l k x2) (A++(R2++B))):=by
 obtain ⟨q,G,rfl,u,s⟩:=h
 rw [zx] at c
 cases hi:l.findIdx? (λp=>beq k p.1) with
 | none=>rw [hi] at c; cases c
 | some i=>
  rw [hi] at c
  obtain ⟨p,hp,w⟩:=uM hi
  simp only [aA,hp,eU,ib] at c
  subst c
  have o:=hk w
  obtain ⟨v,A,R1,B,g1,rfl,g3,g4⟩:=s.get i p.1 p.2 hp
  have g:d.findIdx? (λp=>beq k p.1)=some i:=by rw [s.find k,hi]
  refine ⟨v,q++A,R1,B,by rw [zx,g]; simp [g1],fb,g3,λx2 R2 z=>⟨q,A++(R2++B),fb,u,?_⟩⟩
  have a:=g4 k v x2 R2 z
  have e:d.set i (k,v)=d:=by
   apply eZ
   intro j
   rw [fE]
   split
   ·rename_i n
    subst n
    rw [g1,o]
    simp [(bT.1 g1).1]
   ·rfl
  rw [e] at a
  rw [rW,hi]
  exact a
theorem ou.QU {g:Value} {c:List (κ×Value)} {l:List (κ×γ)} {R:LO} (h:ou kenc Q g c l R) {k:κ} (a:mO beq l k=none):mO beq c k=none:=by
 obtain ⟨j,n,rfl,o,d⟩:=h
 rw [zx] at a ⊢
 rw [d.find k]
 cases hi:l.findIdx? (λp=>beq k p.1) with
 | none=>rfl
 | some i=>
  rw [hi] at a
  obtain ⟨p,hp,q⟩:=uM hi
  simp [hp] at a
def tU (beq:κ→κ→Bool) (a:List (κ×Value)) (k:κ) (z:Value):Value:=(mO beq a k).getD z
variable {P:Program} {W:World} {kt:TypeId} {E:mD} {d:Option Nat} {ty:TypeId} {pos:String} {af:Array Edge} {g:tC} {F:Nat→Prop} {w:World} {μ:mc} {L:LO}
theorem tp {t e:TypeId} {m x:Operand} {c z:Value} {a:List (κ×Value)} {l:List (κ×γ)} {R:LO} {k:κ} (K:sY P kt kenc beq) (q:P.underlying t=some (.map kt e)) (u:∀w,(zeroValue e).run P w= .ok z w) (hm:lf E m=c) (s:lf E x=kenc k) (n:ou kenc Q c a l R) (p:∀b o,(b,o)∈R→W.heap[b]? =some o):nf P E ⟨d,.lookup t m x false,ty,pos,af,g⟩ W (tU beq a k z) W:=by
 obtain ⟨v,y,rfl,i,A⟩:=n
 have j:=Qo (d:=d) (ty:=ty) (pos:=pos) (af:=af) (g:=g) K q u hm s (i.at (μ:=hp W) λb o h=>p b o (cN _ h))
 simpa [tU] using j
variable {κ2 β:Type} {kenc2:κ2→Value} {vf:β→Value} {beq2:κ2→κ2→Bool} {kt2:TypeId}
theorem ou.IT {i:Value} {c:List (κ×Value)} {l:List (κ×List (κ2×β))} {R:LO} (hk:∀{x y:κ},beq x y=true→x=y) (h:ou kenc (nC kenc2 vf) i c l R) (k:κ) {μ:mc} (d:∀b o,(b,o)∈R→μ b=some o) :
  zT kenc2 vf μ (tU beq c k (.map none)) ((mO beq l k).getD []):=by
 cases a:mO beq l k with
 | none=>rw [tU,h.QU a]; exact .inl ⟨Z,Z⟩
 | some x=>
  obtain ⟨v,A,R1,B,g1,rfl,g3,_⟩:=h.found hk a
  rw [tU,g1]
  exact g3.at (λb o g=>d b o (by simp [g]))
theorem ou.isNil {d:Value} {c:List (κ×Value)} {l:List (κ×List (κ2×β))} {R:LO} (hk:∀{x y:κ},beq x y=true→x=y) (h:ou kenc (nC kenc2 vf) d c l R) (k:κ) :
  ∃r,tU beq c k (.map none)= .map r∧r.isNone=(mO beq l k).isNone:=by
 cases a:mO beq l k with
 | none=>rw [tU,h.QU a]; exact ⟨none,Z,Z⟩
 | some x=>
  obtain ⟨v,A,R1,B,g1,rfl,g3,_⟩:=h.found hk a
  obtain ⟨m,es,clock,rfl,_⟩:=g3
  rw [tU,g1]
  exact ⟨_,Z,Z⟩
def L8 {κ κ2 β:Type} (beq:κ→κ→Bool) (beq2:κ2→κ2→Bool) (l:List (κ×List (κ2×β))) (k:κ) (k2:κ2) (x:β):Option (List (κ×List (κ2×β))):=(mO beq l k).map λa=>rW beq l k (rW beq2 a k2 x)
def Ja {κ γ:Type} (beq:κ→κ→Bool) (l:List (κ×γ)) (k:κ) (x:γ):Option (List (κ×γ)):=if (mO beq l k).isNone then some (rW beq l k x) else none
theorem WI {p:Value→World→Prop} (X:LO) {Y R:LO} {t e:TypeId} {m x y:Operand} {q:Value} {o:List (κ×Value)} {l l':List (κ×List (κ2×β))} {k:κ} {k2:κ2} {v:β} (hk:∀{x y:κ},beq x y=true→x=y) (K:sY P kt2 kenc2 beq2) (G:P.underlying t=some (.map kt2 e)) (i:ST dd F w W μ (X++(R++Y))) (h:ou kenc (nC kenc2 vf) q o l R) (hm:lf E m=tU beq o k (.map none)) (I:lf E x=kenc2 k2) (J:lf E y=vf v) (c:L8 beq beq2 l k k2 v=some l') (z:∀W' R',ST dd F w W' μ (X++(R'++Y))→ou kenc (nC kenc2 vf) q o l' R'→p undef W'):pq P E ⟨d,.mapUpdate t m x y,ty,pos,af,g⟩ W p:=by
 unfold L8 at c
 cases j:mO beq l k with
 | none=>rw [j] at c; cases c
 | some L=>
  rw [j] at c
  cases c
  obtain ⟨u,A,R1,B,g1,rfl,g3,g4⟩:=h.found hk j
  have n:lf E m=u:=by rw [hm,tU,g1]; rfl
  have a:ST dd F w W μ ((X++A)++(R1++(B++Y))):=by simpa using i
  refine HK (X++A) K G a g3 n I J (λW' R' h1 s=>z W' (A++(R'++B)) ?_ (g4 _ _ s))
  simpa using h1
theorem Vc {G:Value→World→Prop} (X:LO) {Y R R2:LO} {t e:TypeId} {m x y:Operand} {A:Value} {v:List (κ×Value)} {l l':List (κ×γ)} {k:κ} {u:Value} {z:γ} (K:sY P kt kenc beq) (ht:P.underlying t=some (.map kt e)) (s:ST dd F w W μ (X++(R++(R2++Y)))) (h:ou kenc Q A v l R) (hm:lf E m=A) (hx:lf E x=kenc k) (hy:lf E y=u) (hq:Q u z R2) (c:Ja beq l k z=some l') (T:∀W' R',ST dd F w W' μ (X++(R'++Y))→ou kenc Q A (rW beq v k u) l' R'→G undef W'):pq P E ⟨d,.mapUpdate t m x y,ty,pos,af,g⟩ W G:=by
 unfold Ja at c
 cases n:mO beq l k with
 | some l2=>rw [n] at c; cases c
 | none=>
  rw [n] at c
  simp only [jc,aJ,ib] at c
  subst c
  have U:=h.QU n
  obtain ⟨L,o,rfl,M,O⟩:=h
  have j:ST dd F w W μ (X++(L++(o++(R2++Y)))):=by simpa using s
  refine HK X K ht j M hm hx hy (λW' R' g1 g2=>T W' (R'++(o++R2)) (by simpa using g1) ⟨R',o++R2,Z,g2,?_⟩)
  have I:∀{J:Type} (q:List (κ×J)) (y:J),mO beq q k=none→rW beq q k y=q++[(k,y)]:=λq y a=>by
   rw [zx] at a
   rw [rW]
   cases hi:q.findIdx? (λp=>beq k p.1) with
   | none=>rfl
   | some i=>
    obtain ⟨p,hp,_⟩:=uM hi
    rw [hi] at a
    simp [hp] at a
  rw [I v u U,I l z n]
  exact O.push k hq
theorem ou.ach {α:Type} {e:TypeId} {enc:α→List Value} {n:Nat} (i:∀x,(enc x).length=n) {j:Value} {c:List (κ×Value)} {l:List (κ×List α)} {R:LO} (hk:∀{x y:κ},beq x y=true→x=y) (h:ou kenc (lQ e enc n) j c l R) (k:κ) {μ:mc} (d:∀b o,(b,o)∈R→μ b=some o) :
  Sl (Pl enc) n μ (tU beq c k (.slice none 0 0)) ((mO beq l k).getD []):=by
 cases a:mO beq l k with
 | none=>rw [tU,h.QU a]; exact ⟨none,0,Z,aZ _,eG _,λh=>absurd h (Nat.lt_irrefl _)⟩
 | some x=>
  obtain ⟨v,A,R1,B,g1,rfl,g3,_⟩:=h.found hk a
  rw [tU,g1]
  exact g3.sl i (λb o g=>d b o (by simp [g]))
end
end Go.Proofs.YtlfibegniofmjaaGreat
namespace Go.Proofs.YtlfibegniofmjaaGreat
open Go.RowKit
variable {dd:Bool}
section
variable {κ γ:Type} {Q:Value→γ→LO→Prop} {beq:κ→κ→Bool} {kenc:κ→Value}
theorem wc {a:Type} {l:List (κ×a)} {k:κ} {i:Nat} (h:l.findIdx? (λp=>beq k p.1)=some i) (x:a):rW beq l k x=l.set i (k,x):=by rw [rW,h]
theorem Ar {a:Type} {l:List (κ×a)} {k:κ} (h:l.findIdx? (λp=>beq k p.1)=none) (x:a):rW beq l k x=l++[(k,x)]:=by rw [rW,h]
theorem JE {a:Type} {l:List (κ×a)} {k:κ} (h:l.findIdx? (λp=>beq k p.1)=none):mO beq l k=none:=by rw [zx,h]; rfl
theorem IS {a:Type} {l:List (κ×a)} {k:κ} {i:Nat} {p:κ×a} (h:l.findIdx? (λp=>beq k p.1)=some i) (hp:l[i]? =some p):mO beq l k=some p.2:=by rw [zx,h]; simp [hp]
def UI (beq:κ→κ→Bool) (kenc:κ→Value) (Q:Value→γ→LO→Prop) (d:Value) (c:List (κ×Value)) (l:List (κ×γ)) (k:κ) (R:LO):Prop :=
 ∃a A B,R=a++(A++B)∧nC kenc (λx=>x) d c a∧∀v x R1,Q v x R1→BM Q (rW beq c k v) (rW beq l k x) (A++(R1++B))
theorem ou.open (hk:∀{x y:κ},beq x y=true→x=y) {s z:Value} {x0:γ} (j:Q z x0 []) {n:List (κ×Value)} {l:List (κ×γ)} {R:LO} (h:ou kenc Q s n l R) (k:κ) :
  ∃R' R1,R.Perm (R'++R1)∧Q (tU beq n k z) ((mO beq l k).getD x0) R1∧UI beq kenc Q s n l k R':=by
 obtain ⟨c,o,rfl,q,d⟩:=h
 have a:=d.find (beq:=beq) k
 cases hi:l.findIdx? (λp=>beq k p.1) with
 | none=>
  rw [hi] at a
  refine ⟨c++o,[],fb,?_,c,o,[],fb,q,λv x R1 g=>?_⟩
  ·rw [tU,JE hi,JE a]; exact j
  ·rw [Ar hi,Ar a]; simpa using d.push k g
 | some i=>
  rw [hi] at a
  obtain ⟨p,hp,t⟩:=uM hi
  have u:=hk t
  obtain ⟨v,A,R1,B,g1,rfl,g3,g4⟩:=d.get i p.1 p.2 hp
  refine ⟨c++(A++B),R1,?_,?_,c,A,B,Z,q,λv2 x2 R2 g=>?_⟩
  ·rw [aQ,aQ]
   refine cQ _ (cQ _ eB)
  ·rw [tU,IS hi hp,IS a g1]; exact g3
  ·rw [wc hi,wc a]; exact g4 k v2 x2 R2 g
variable {P:Program} {W:World} {kt:TypeId} {E:mD} {d:Option Nat} {ty:TypeId} {pos:String} {af:Array Edge} {g:tC} {F:Nat→Prop} {w:World} {μ:mc} {L:LO}
theorem aa5 {j:Value→World→Prop} (X:LO) {Y R R1:LO} {t e:TypeId} {m x y:Operand} {i:Value} {n:List (κ×Value)} {l:List (κ×γ)} {k:κ} {u:Value} {z:γ} (K:sY P kt kenc beq) (G:P.underlying t=some (.map kt e)) (c:ST dd F w W μ (X++(R++(R1++Y)))) (h:UI beq kenc Q i n l k R) (hm:lf E m=i) (I:lf E x=kenc k) (J:lf E y=u) (v:Q u z R1) (s:∀W' R',ST dd F w W' μ (X++(R'++Y))→ou kenc Q i (rW beq n k u) (rW beq l k z) R'→j undef W'):pq P E ⟨d,.mapUpdate t m x y,ty,pos,af,g⟩ W j:=by
 obtain ⟨o,A,B,rfl,p,q⟩:=h
 have a:ST dd F w W μ (X++(o++(A++(B++(R1++Y))))):=by simpa using c
 refine HK X K G a p hm I J (λW' R' g1 g2=>s W' (R'++(A++(R1++B))) ?_ ⟨R',A++(R1++B),Z,g2,q u z R1 v⟩)
 refine g1.perm ?_
 simp only [aQ]
 refine cQ _ (cQ _ (cQ _ ?_))
 rw [←aQ,←aQ]
 exact ic _ eB
def P0 (beq:κ→κ→Bool) (kenc:κ→Value) (Q:Value→γ→LO→Prop) (c:Value) (l:List (κ×γ)) (k:κ) (d:Nat) (R:LO):Prop :=
 ∃m es clock a A B i e,c= .map (some m)∧R=(m,.map es clock)::(A++B)∧zO kenc (λx=>x) a es clock∧es[i]? =some e∧e.born=d∧a.findIdx? (λp=>beq k p.1)=some i∧
  ∀v x R1,Q v x R1→BM Q (rW beq a k v) (rW beq l k x) (A++(R1++B))
theorem OO {d:Type} (hk:∀x:κ,beq x x=true) (c:List (κ×d)) (k:κ) (a b:d):rW beq (rW beq c k a) k b=rW beq c k b:=by
 cases hi:c.findIdx? (λp=>beq k p.1) with
 | none=>
  have h1:(c++[(k,a)]).findIdx? (λp=>beq k p.1)=some c.length:=by
   rw [iF,hi]
   simp [fw,hk]
  rw [Ar hi,Ar hi,wc h1]
  simp
 | some i=>
  obtain ⟨p,hp,o⟩:=uM hi
  have h1:(c.set i (k,a)).findIdx? (λp=>beq k p.1)=some i:=by
   rw [eK] at hi ⊢
   obtain ⟨h1,n,g⟩:=hi
   refine ⟨by simpa using h1,by simp [hk],λj h=>?_⟩
   rw [List.getElem_set_ne eR]
   exact g j h
  rw [wc hi,wc hi,wc h1]
  simp
end
end Go.Proofs.YtlfibegniofmjaaGreat
namespace Go.Proofs.YtlfibegniofmjaaGreat
open Go.RowKit
variable {dd:Bool}
section
variable {κ γ:Type} {Q:Value→γ→LO→Prop} {beq:κ→κ→Bool} {kenc:κ→Value}
variable {P:Program} {W:World} {kt:TypeId} {E:mD} {d:Option Nat} {ty:TypeId} {pos:String} {af:Array Edge} {g:tC} {F:Nat→Prop} {w:World} {μ:mc} {L:LO}
theorem JK {es:Array MapEntry} {i:Nat} {f c:MapEntry→MapEntry} (h:∀e,es[i]? =some e→f e=c e):es.modify i f=es.modify i c:=by
 apply Array.ext_getElem?
 intro j
 rw [dP,dP]
 split
 ·rename_i a
  subst a
  cases he:es[i]? with
  | none=>rfl
  | some e=>simp [h e he]
 ·rfl
theorem zO.val {c:List (κ×Value)} {es:Array MapEntry} {clock:Nat} (h:zO kenc (λx=>x) c es clock) {i:Nat} {e:MapEntry} (he:es[i]? =some e):∃p,c[i]? =some p∧e.key=kenc p.1∧e.val=p.2:=by
 have a:=bI (λq=>q[i]?) h.KX
 simp only [fF,dQ,he,eU] at a
 cases hp:c[i]? with
 | none=>rw [hp] at a; cases a
 | some p=>
  rw [hp] at a
  simp only [eU,ib,Prod.mk.injEq] at a
  exact ⟨p,Z,a.1,a.2⟩
theorem UA {Kk:Value→World→Prop} (X:LO) {Y R:LO} {t e:TypeId} {m x:Operand} {mv z:Value} {x0:γ} {lv:List (κ×Value)} {l:List (κ×γ)} {k:κ} (hk:∀{x y:κ},beq x y=true↔x=y) (K:sY P kt kenc beq) (ht:P.underlying t=some (.map kt e)) (hz:∀w,(zeroValue e).run P w= .ok z w) (ae:Q z x0 []) (T:ST dd F w W μ (X++(R++Y))) (h:ou kenc Q mv lv l R) (hm:lf E m=mv) (hx:lf E x=kenc k) (hK:∀W' v st R' R1,ST dd F w W' μ (X++(R'++(R1++Y)))→Q v ((mO beq l k).getD x0) R1→P0 beq kenc Q mv l k st R'→Kk (.tuple #[v,.int .i64 (st:Nat)]) W'):pq P E ⟨d,.mapEntry t m x,ty,pos,af,g⟩ W Kk:=by
 obtain ⟨Rm,Rv,rfl,⟨n,es,clock,rfl,rfl,o⟩,O⟩:=h
 have hb:W.heap[n]? =some (.map es clock):=(T.box n (.map es clock) fb).1
 have h5:(getObj n:Sem Obj).run P W= .ok (.map es clock) W:=by simp [getObj,Sem.run,hb]
 have L:=K.find k _ _ o.keys W
 rw [o.get k] at L
 have G:=O.find (beq:=beq) k
 have u:∀W' v,(Instr.mapEntry t (.map (some n)) (kenc k)).run P W= .ok v W'→(execOp (lf E) ⟨d,.mapEntry t m x,ty,pos,af,g⟩).run P W= .ok (.value v) W':=by
  intro W' v hr
  show (do pure (.value (←Instr.mapEntry t (lf E m) (lf E x))):Sem Next).run P W=_
  rw [hm,hx]
  simp [hr]
 have s:ST dd F w W μ (X++(n,.map es clock)::(Rv++Y)):=by simpa using T
 cases hi:lv.findIdx? (λp=>beq k p.1) with
 | none=>
  rw [hi] at L G
  have a:=o.put (beq:=beq) k z
  rw [hi] at a
  refine .inl ⟨_,ChangeMaps.setBlock W n (.map (es.push { key:=kenc k,val:=z,born:=clock }) (clock+1)),u _ (.tuple #[z,.int .i64 (clock:Nat)]) ?_,hK _ z clock ((n,.map (es.push { key:=kenc k,val:=z,born:=clock }) (clock+1))::(Rv++[])) [] ?_ ?_ ?_⟩
  ·simp [Instr.mapEntry,bA ht,h5,K.check,L,DK hb,hz _,goInt]
  ·have:=s.setBlock (.map (es.push { key:=kenc k,val:=z,born:=clock }) (clock+1))
   simpa using this
  ·rw [JE G.symm]; exact ae
  ·refine ⟨n,_,_,lv++[(k,z)],Rv,[],es.size,{ key:=kenc k,val:=z,born:=clock },Z,Z,a,fb,Z,?_,λv x R1 hq=>?_⟩
   ·rw [iF,hi]
    have ab:=o.length
    simp [fw,hk,ab]
   ·rw [←Ar hi,OO λx=>hk.2 Z,Ar hi,Ar G.symm]
    simpa using O.push k hq
 | some i=>
  rw [hi] at L G
  obtain ⟨p,hp,ad⟩:=uM hi
  obtain ⟨q,aa,U⟩:=uM G.symm
  have ah:=hk.1 U
  obtain ⟨v,A,R1,B,g1,rfl,g3,g4⟩:=O.get i q.1 q.2 aa
  have a8:p.2=v:=by rw [g1] at hp; cases hp; rfl
  have ab:=o.length
  have ag:i < lv.length:=(bT.1 hp).1
  obtain ⟨M,c⟩:∃M,es[i]? =some M:=⟨es[i],Array.getElem?_eq_getElem eR⟩
  obtain ⟨p',a7,I,J⟩:=o.val c
  rw [hp] at a7
  cases a7
  simp only [aA,hp,eU] at L
  have a:=o.put (beq:=beq) k v
  rw [hi] at a
  have a1:((es[i]?).map (·.key)).getD (kenc k)=kenc k:=by
   rw [c]
   simp only [eU,iB,I]
   exact K.eq k p.1 ad
  have a6:es.modify i (λe=>{ e with key:=kenc k })=es.modify i (λe=>{ e with key:=kenc k,val:=v }):=JK λe he=>by
   rw [c] at he; cases he
   rw [←a8,←J]
  refine .inl ⟨_,ChangeMaps.setBlock W n (.map (es.modify i λe=>{ e with key:=kenc k,val:=v }) clock),u _ (.tuple #[v,.int .i64 (M.born:Nat)]) ?_,hK _ v M.born ((n,.map (es.modify i λe=>{ e with key:=kenc k,val:=v }) clock)::(A++B)) R1 ?_ ?_ ?_⟩
  ·simp only [Instr.mapEntry,cK,bA ht,h5,K.check,L,bQ,a1,Instr.keyThatStays,K.bits,aJ,dC]
   rw [DK hb,a6]
   simp [c,goInt,a8]
  ·have:=s.setBlock (.map (es.modify i λe=>{ e with key:=kenc k,val:=v }) clock)
   refine this.perm ?_
   simp only [aQ,cH]
   refine cQ _ (List.Perm.cons _ (cQ _ ?_))
   rw [←aQ,←aQ]
   exact ic _ eB
  ·rw [IS G.symm aa]; exact g3
  ·refine ⟨n,_,_,lv.set i (k,v),A,B,i,{ M with key:=kenc k,val:=v },Z,Z,a,?_,Z,?_,λv2 x2 R2 hq=>?_⟩
   ·rw [dP,aP Z,c]; rfl
   ·rw [eK] at hi ⊢
    obtain ⟨h1,o,O⟩:=hi
    refine ⟨by simpa using h1,by simp [hk],λj hj=>?_⟩
    rw [List.getElem_set_ne eR]
    exact O j hj
   ·rw [←wc hi,OO λx=>hk.2 Z,wc hi,wc G.symm]
    exact g4 k v2 x2 R2 hq
theorem V2 {es:Array MapEntry} (h:es.toList.Pairwise λa b=>a.born < b.born) {i:Nat} {e:MapEntry} (he:es[i]? =some e):es.findIdx? (λa=>(a.born:Int)==(e.born:Int))=some i:=by
 rw [Array.findIdx?_eq_some_iff_getElem]
 obtain ⟨d,c⟩:=dW.1 he
 refine ⟨d,by rw [c]; simp,λj g=>?_⟩
 have:=List.pairwise_iff_getElem.1 h j i (by simpa using Nat.lt_trans g d) (by simpa using d) g
 simp only [Array.getElem_toList] at this
 rw [c] at this
 simp
 omega
theorem RV {Kk:Value→World→Prop} (X:LO) {Y R R1:LO} {t e:TypeId} {m s y:Operand} {mv u:Value} {z:γ} {l:List (κ×γ)} {k:κ} {st:Nat} (hk:∀{x y:κ},beq x y=true↔x=y) (K:sY P kt kenc beq) (q:ST dd F w W μ (X++(R++(R1++Y)))) (h:P0 beq kenc Q mv l k st R) (hm:lf E m=mv) (hs:lf E s= .int .i64 (st:Nat)) (hy:lf E y=u) (hq:Q u z R1) (hK:∀W' U R',ST dd F w W' μ (X++(R'++Y))→ou kenc Q mv U (rW beq l k z) R'→Kk undef W'):pq P E ⟨d,.entryStore t m s y,ty,pos,af,g⟩ W Kk:=by
 obtain ⟨c,es,clock,lv,A,B,i,en,rfl,rfl,M,n,j,hi,h3⟩:=h
 have hb:W.heap[c]? =some (.map es clock):=(q.box c (.map es clock) fb).1
 have h5:(getObj c:Sem Obj).run P W= .ok (.map es clock) W:=by simp [getObj,Sem.run,hb]
 obtain ⟨p,hp,O⟩:=uM hi
 obtain ⟨p',L,o,T⟩:=M.val n
 rw [hp] at L
 cases L
 have a:=M.put (beq:=beq) k u
 rw [hi] at a
 have J:es.modify i (λe=>{ e with val:=u })=es.modify i (λe=>{ e with key:=kenc k,val:=u }):=JK λe he=>by
  rw [n] at he; cases he
  have G:en.key=kenc k:=by rw [o]; exact K.eq k p.1 O
  rw [←G]
 have I:=V2 M.born n
 rw [j] at I
 have v:ST dd F w W μ (X++(c,.map es clock)::(A++(B++(R1++Y)))):=by simpa using q
 refine .inr (.inl ⟨ChangeMaps.setBlock W c (.map (es.modify i λe=>{ e with key:=kenc k,val:=u }) clock),?_,hK _ (rW beq lv k u) ((c,.map (es.modify i λe=>{ e with key:=kenc k,val:=u }) clock)::(A++(R1++B))) ?_ ⟨[(c,.map (es.modify i λe=>{ e with key:=kenc k,val:=u }) clock)],A++(R1++B),Z,⟨c,_,_,Z,Z,?_⟩,h3 u z R1 hq⟩⟩)
 ·show (do Instr.entryStore t (lf E m) (lf E s) (lf E y); pure .skip:Sem Next).run P W=_
  rw [hm,hs,hy]
  simp only [Instr.entryStore,cK,h5,bQ,asInt,asIntOf,dC,I]
  rw [DK hb,J]
  rfl
 ·have:=v.setBlock (.map (es.modify i λe=>{ e with key:=kenc k,val:=u }) clock)
  refine this.perm ?_
  simp only [aQ,cH]
  refine cQ _ (List.Perm.cons _ (cQ _ ?_))
  rw [←aQ,←aQ]
  exact ic _ eB
 ·rw [wc hi]; exact a
end
end Go.Proofs.YtlfibegniofmjaaGreat
namespace Go.Proofs.YtlfibegniofmjaaGreat
open Go.RowKit
variable {dd:Bool}
section
variable {κ γ:Type} {Q:Value→γ→LO→Prop} {beq:κ→κ→Bool} {kenc:κ→Value}
def nT (kenc:κ→Value) (Q:Value→γ→LO→Prop) (v:Value) (l:List (κ×γ)) (R:LO):Prop:=∃a,ou kenc Q v a l R
def vg (kenc:κ→Value) (Q:Value→γ→LO→Prop) (μ:mc) (v:Value) (l:List (κ×γ)):Prop:=∃a R,ou kenc Q v a l R∧∀b o,(b,o)∈R→μ b=some o
theorem nT.at {v:Value} {l:List (κ×γ)} {R:LO} {μ:mc} (h:nT kenc Q v l R) (a:∀b o,(b,o)∈R→μ b=some o):vg kenc Q μ v l:=let ⟨c,h⟩:=h; ⟨c,R,h,a⟩
theorem vg.mono {v:Value} {l:List (κ×γ)} {μ μ':mc} (h:vg kenc Q μ v l) (d:lm μ μ'):vg kenc Q μ' v l:=let ⟨g,R,h,a⟩:=h; ⟨g,R,h,λb o c=>d _ _ (a b o c)⟩
theorem ou.form {v:Value} {a:List (κ×Value)} {l:List (κ×γ)} {R:LO} (h:ou kenc Q v a l R):∃m,v= .map (some m):=let ⟨_,_,_,h,_⟩:=h; h.form
theorem ou.e {v:Value} {a:List (κ×Value)} {l:List (κ×γ)} {R:LO} (h:ou kenc Q v a l R):nT kenc Q v l R:=⟨a,h⟩
theorem nT.form {v:Value} {l:List (κ×γ)} {R:LO} (h:nT kenc Q v l R):∃m,v= .map (some m):=let ⟨_,h⟩:=h; h.form
theorem nT.new {v:Value} {R:LO} (h:nC (β:=Value) kenc (λx=>x) v [] R):nT kenc Q v [] R:=⟨[],R,[],(bP R).symm,h,Z⟩
theorem ou.rowAt {α:Type} {e:TypeId} {enc:α→List Value} {n:Nat} {g:Value} {c:List (κ×Value)} {l:List (κ×List α)} {R:LO} (hk:∀{x y:κ},beq x y=true→x=y) (h:ou kenc (lQ e enc n) g c l R) (k:κ) :
  ∃R1,lQ e enc n (tU beq c k (.slice none 0 0)) ((mO beq l k).getD []) R1∧∀b o,(b,o)∈R1→(b,o)∈R:=by
 cases a:mO beq l k with
 | none=>refine ⟨[],?_,λb o h=>by cases h⟩; rw [tU,h.QU a]; exact .inl ⟨Z,Z,Z⟩
 | some x=>
  obtain ⟨v,A,R1,B,g1,rfl,g3,_⟩:=h.found hk a
  refine ⟨R1,?_,λb o d=>by simp [d]⟩
  rw [tU,g1]; exact g3
theorem lQ.J0 {α:Type} {e:TypeId} {enc:α→List Value} {k:Nat} {v:Value} {l:List α} {R:LO} (h:lQ e enc k v l R) (hk:∀x,(enc x).length=k):Sl (Pl enc) k (FK R) v l:=by
 refine h.sl hk (λb o a=>?_)
 rcases h with ⟨rfl,rfl,rfl⟩ | ⟨g,cap,c,rfl,rfl,_⟩
 ·cases a
 ·simp at a; obtain ⟨rfl,rfl⟩:=a; simp [FK]
end
theorem oe.hp (W:World):oe (hp W) [] W:=⟨λ_ _ h=>h,λ_ _ h=>by cases h⟩
section
variable {P:Program} {W:World} {E:mD} {d:Option Nat} {ty:TypeId} {pos:String} {af:Array Edge} {g:tC} {F:Nat→Prop} {w:World} {μ:mc} {L:LO}
theorem NQ {t k e:TypeId} (dd:Nat) (c:P.underlying t=some (.map k e)) (a:Option Nat) (W:World):(Op.equalIn (dd+1) t (.map a) (.map none)).run P W= .ok a.isNone W:=by
 cases a <;> simp [Op.equalIn,bA c]
theorem UN {tx tv k e:TypeId} {x y:Operand} {r:Option Nat} {b:Bool} (h:P.underlying tx=some (.map k e)) (i:lf E x= .map r) (j:lf E y= .map none) (c:r.isNone=b) :
  nf P E ⟨d,.binOp .eql tx x y tv,ty,pos,af,g⟩ W (.bool b) W:=by
 subst c
 show (do let r ←(do eqGuard .eql tx x y (lf E x) (lf E y); binOp .eql tx (lf E x) (lf E y)); pure (.value r):Sem Next).run P W=_
 rw [i,j]
 have a:=NQ 9999 h r W
 simp [eqGuard,binOp,Op.equal,show Op.maxDepth=9999+1 from rfl,a]
theorem Sp {κ κ2 β:Type} {kenc:κ→Value} {kenc2:κ2→Value} {vf:β→Value} {beq:κ→κ→Bool} {tx tv kt e:TypeId} {x y:Operand} {o:Value} {a:List (κ×Value)} {l:List (κ×List (κ2×β))} {R:LO} {k:κ} (hk:∀{x y:κ},beq x y=true→x=y) (i:P.underlying tx=some (.map kt e)) (h:ou kenc (nC kenc2 vf) o a l R) (j:lf E x=tU beq a k (.map none)) (n:lf E y= .map none) :
  nf P E ⟨d,.binOp .eql tx x y tv,ty,pos,af,g⟩ W (.bool (mO beq l k).isNone) W:=by
 obtain ⟨r,h1,c⟩:=h.isNil hk k
 exact UN i (j.trans h1) n c
theorem FX {κ γ:Type} {c:Value→World→Prop} {t:TypeId} (kenc:κ→Value) (Q:Value→γ→LO→Prop) (a:ST dd F w W μ L) (i:∀W' v R,ST dd F w W' μ (R++L)→nT kenc Q v [] R→c v W'):pq P E ⟨d,.makeMap t none,ty,pos,af,g⟩ W c :=
 OT kenc (λx:Value=>x) a (λW' v R h1 h=>i W' v R h1 (nT.new h))
end
def uP {α:Type} (e:TypeId) (enc:α→List Value) (k:Nat) (v:Value) (l:List α) (R:LO):Prop :=
 (v= .slice none 0 0∧l=[]∧R=[])∨
 ∃g off cap a,v= .slice (some ⟨g,off,none⟩) l.length cap∧R=[(g,.cells a e (0,0))]∧l.length≤cap∧cap≤maxLen∧off+cap*k≤a.size∧(a.toList.drop off).take (l.length*k)=(l.map enc).flatten
section
variable {α:Type} {e:TypeId} {enc:α→List Value} {k:Nat} {v:Value} {l:List α} {R:LO}
theorem uP.nil (e:TypeId) (enc:α→List Value) (k:Nat):uP e enc k (.slice none 0 0) [] []:=.inl ⟨Z,Z,Z⟩
theorem lQ.que (h:lQ e enc k v l R):uP e enc k v l R:=by
 rcases h with h | ⟨g,cap,a,h1,c,d,i,n,j⟩
 ·exact .inl h
 ·exact .inr ⟨g,0,cap,a,h1,c,d,i,eR,by simpa using j⟩
theorem uP.len (h:uP e enc k v l R):l.length≤9223372036854775807:=by
 rcases h with ⟨rfl,rfl,rfl⟩ | ⟨g,off,cap,a,rfl,rfl,h1,c,_⟩
 ·simp
 ·unfold maxLen at c; omega
theorem uP.form (h:uP e enc k v l R):∃A c,v= .slice A l.length c:=by
 rcases h with ⟨rfl,rfl,rfl⟩ | ⟨g,off,cap,a,rfl,rfl,_⟩
 ·exact ⟨_,_,Z⟩
 ·exact ⟨_,_,Z⟩
theorem uP.J0 (h:uP e enc k v l R) (hk:∀x,(enc x).length=k):Sl (Pl enc) k (FK R) v l:=by
 rcases h with ⟨rfl,rfl,rfl⟩ | ⟨g,off,cap,a,rfl,rfl,h1,d,q,n⟩
 ·exact Sl.nil _ _ _
 ·refine ⟨_,cap,Z,h1,d,λ_=>⟨g,off,a,e,(0,0),Z,by simp [FK],λi x o=>⟨enc x,hk x,Z,λj y p=>?_⟩⟩⟩
  have:=AK hk l i x o j y p
  rw [←n] at this
  have c:i*k+j < l.length*k:=by
   have:=(bT.1 this).1
   simp at this; omega
  rw [eC c,ev] at this
  simpa [eL] using this
variable {P:Program} {W:World} {E:mD} {d:Option Nat} {ty:TypeId} {pos:String} {af:Array Edge} {g:tC} {F:Nat→Prop} {w:World} {μ:mc} {L:LO}
theorem Yg {x:Operand} {t a:TypeId} (i:P.underlying t=some (.slice a)) (j:lf E x=v) (h:uP e enc k v l R):nf P E ⟨d,.call ⟨.builtin .len,#[x],#[t]⟩,ty,pos,af,g⟩ W (.int .i64 l.length) W:=by
 obtain ⟨A,c,rfl⟩:=h.form
 exact Iq i j
theorem Ui {t q:TypeId} {x o:Operand} {O:IntKind} {i:Int} (z:P.underlying t=some (.slice q)) (he:∀w,(sizeOf q).run P w= .ok k w) (A:lf E x=v) (hi:lf E o= .int O i) (hk:∀x,(enc x).length=k) (h:uP e enc k v l R) (G:0≤i) (y:i≤l.length) :
  ∃u,uP e enc k u (l.drop i.toNat) R∧∀W,nf P E ⟨d,.slice t x (some o) none none,ty,pos,af,g⟩ W u W:=by
 rcases h with ⟨rfl,rfl,rfl⟩ | ⟨n,off,cap,c,rfl,rfl,h1,Q,T,I⟩
 ·have:i=0:=by simp at y; omega
  subst this
  refine ⟨.slice none 0 0,by simpa using uP.nil e enc k,λW=>?_⟩
  show (do pure (.value (←Instr.sliceAt t (lf E x) (some (lf E o)) none none)):Sem Next).run P W=_
  rw [A,hi]
  simp [Instr.sliceAt,Instr.slice,Instr.sliceBounds,Instr.sliceBound,asIntOf,bA z,he W]
 ·refine ⟨.slice (some (if cap=i.toNat then ⟨n,off,none⟩ else Addr.add ⟨n,off,none⟩ (i.toNat*k))) (l.length-i.toNat) (cap-i.toNat),.inr ?_,λW=>?_⟩
  ·have a:(l.drop i.toNat).length=l.length-i.toNat:=by simp
   have j:(l.map enc).flatten.drop (i.toNat*k)=((l.drop i.toNat).map enc).flatten:=by
    have J:l=l.take i.toNat++l.drop i.toNat:=(gi _ _).symm
    have L:((l.take i.toNat).map enc).flatten.length=i.toNat*k:=by rw [uD hk,dA,ej eR]
    conv=>lhs; rw [J,cV,dx]
    rw [←L,List.drop_left]
   by_cases s:cap=i.toNat
   ·rw [aP s]
    have p:l.drop i.toNat=[]:=List.drop_eq_nil_of_le eR
    refine ⟨n,off,cap-i.toNat,c,by rw [p]; simp; omega,Z,by rw [p]; simp,eR,by have:(cap-i.toNat)*k≤cap*k:=dp _ eR; omega,by rw [p]; simp⟩
   ·rw [aN s]
    refine ⟨n,off+i.toNat*k,cap-i.toNat,c,by rw [a,ek],Z,by rw [a]; omega,eR,?_,?_⟩
    ·have:i.toNat*k+(cap-i.toNat)*k=cap*k:=by rw [←dn]; congr 1; omega
     omega
    ·rw [a,←j,←I,jb,List.drop_drop,Nat.sub_mul]
  ·show (do pure (.value (←Instr.sliceAt t (lf E x) (some (lf E o)) none none)):Sem Next).run P W=_
   rw [A,hi]
   have M:0≤i∧i≤(l.length:Int):=⟨G,y⟩
   simp [Instr.sliceAt,Instr.slice,Instr.sliceBounds,Instr.sliceBound,asIntOf,bA z,he W,M]
   split <;> rfl
theorem Sw {K:Value→World→Prop} {t:TypeId} {a7:Nat} {z vs:Value} {m r:List α} (X:LO) {Y:LO} {x y:Operand} {i:TypeInfo} (a8:ST dd F w W μ (X++(R++Y))) (hk:∀x,(enc x).length=k) (al:0 < k) (h1:∀x,∀u∈enc x,u.oneCell'=true) (ht:P.underlying t=some (.slice e)) (hi:P.info? e=some i) (hz:i.zero=some z) (ae:z.cells.size=k) (a6:i.size=k) (aa:i.bytes=a7) (hx:lf E x=v) (hy:lf E y=vs) (hR:uP e enc k v l R) (hs:Sl (Pl enc) k (hp W) vs m) (hb:nF a7 l m=some r) (h:∀W' v' R',ST dd F w W' μ (X++(R'++Y))→uP e enc k v' r R'→K v' W'):pq P E ⟨d,.call ⟨.builtin .append,#[x,y],#[t,t]⟩,ty,pos,af,g⟩ W K:=by
 rcases hR with ⟨rfl,rfl,rfl⟩ | ⟨s,off,cap,p,rfl,rfl,h2,h3,h4,h5⟩
 ·exact QD X a8 hk al h1 ht hi hz ae a6 aa hx hy (lQ.nil e enc k) hs hb (λW' v' R' a b=>h W' v' R' a b.que)
 unfold nF at hb
 split at hb
 case isFalse=>cases hb
 rename_i a1
 cases hb
 have U:∀(V:Value) (W':World),(Builtin.append_ #[t,t] ty #[.slice (some ⟨s,off,none⟩) l.length cap,vs]).run P W= .ok V W'→(execOp (lf E) ⟨d,.call ⟨.builtin .append,#[x,y],#[t,t]⟩,ty,pos,af,g⟩).run P W= .ok (.value V) W':=by
  intro V W' hV
  show (do let d ←resolve (lf E) ⟨.builtin .append,#[x,y],#[t,t]⟩ ty; invoke d.target d.args:Sem Next).run P W=_
  simp [resolve,invoke,builtin,hx,hy,hV]
 obtain ⟨A,c,rfl,ap,aq,ai⟩:=hs
 have L:ST dd F w W μ (X++(s,.cells p e (0,0))::Y):=by simpa using a8
 have hg:W.heap[s]? =some (.cells p e (0,0)):=(L.box s _ fb).1
 have J:=uD hk l
 have Q:∀u∈(m.map enc).flatten,u.oneCell'=true:=by
  intro u hu
  obtain ⟨ys,ao,an⟩:=jX.1 hu
  obtain ⟨x,_,rfl⟩:=bW.1 ao
  exact h1 x u an
 have I:Src P i.size t (.slice A m.length c) m.length ((m.map enc).flatten) W:=by
  rw [a6]
  rcases eW m.length with h0 | h0
  ·have hm:m=[]:=bF h0
   subst hm
   cases A with
   | none=>exact Src.ofNil W ht c
   | some ad=>exact Src.ofSlice W ht ad 0 c [] fb (λj u hu=>by simp at hu) (λu hu=>by cases hu)
  ·obtain ⟨b,o,cs,T,fr,rfl,h6,h7⟩:=ai h0
   refine Src.ofSlice W ht _ _ c _ (uD hk m) (λj u hu=>?_) Q
   obtain ⟨i,x,q,h8,h9,rfl⟩:=Mw hk m j u hu
   obtain ⟨ys,_,ag,ah⟩:=h7 i x h8
   cases ag
   rw [ek,gT W b (o+(i*k+q)) cs T fr h6,←eL]
   exact ah q u h9
 have n:=uD hk m
 have O:((l++m).map enc).flatten=(l.map enc).flatten++(m.map enc).flatten:=by simp
 generalize (m.map enc).flatten=fm at I Q n O
 subst a6
 have ar:l.length*i.size≤cap*i.size:=dp _ h2
 by_cases G:l.length+m.length≤cap
 ·have au:l.length*i.size+m.length*i.size≤cap*i.size:=by rw [←dn]; exact dp _ G
  have ab:=jx (P:=P) s (off+l.length*i.size) e fm 0 p W hg (by rw [n]; omega) Q
  have M:(Builtin.append_ #[t,t] ty #[.slice (some ⟨s,off,none⟩) l.length cap,.slice A m.length c]).run P W= .ok (.slice (some ⟨s,off,none⟩) (l.length+m.length) cap) (W.setRow s (p.toList.take (off+l.length*i.size)++fm++p.toList.drop (off+l.length*i.size+fm.length)).toArray):=by
   simp [Builtin.append_,bA ht,sizeOf,typeInfo,hi,I.len,G,I.cells,ek]
   simp only [gZ] at ab
   rw [ab]
   simp
  refine .inl ⟨_,_,U _ _ M,h _ _ [(s,_)] (by simpa using L.store _) (.inr ⟨s,off,cap,_,by rw [aF],Z,by simpa using G,h3,?_,?_⟩)⟩
  ·simp only [dY,aF,dA,fM,dS,n]
   rw [ej eR]
   omega
  ·have hA:(p.toList.take (off+l.length*i.size)).length=off+l.length*i.size:=by simp; omega
   show ((p.toList.take (off+l.length*i.size)++(fm++p.toList.drop (off+l.length*i.size+fm.length))).drop off).take ((l++m).length*i.size)=_
   rw [O,List.drop_append,jb,hA,show off-(off+l.length*i.size)=0 by omega,List.drop_zero,show off+l.length*i.size-off=l.length*i.size by omega,h5]
   rw [aF,dn,fN,fN,J,n,dM (by rw [J]; omega),show l.length*i.size+m.length*i.size-l.length*i.size=m.length*i.size by omega,dM (by rw [n]; omega)]
   simp
 ·have hold:(Builtin.firstCells i.size l.length (.slice (some ⟨s,off,none⟩) l.length cap)).run P W.drew= .ok ((l.map enc).flatten).toArray W.drew:=by
   refine run_firstCells_some W.drew i.size l.length ⟨s,off,none⟩ l.length cap _ J (λj u hu=>?_)
   rw [ek]
   show W.cell? ⟨s,off+j,none⟩=some u
   rw [gT W s (off+j) p e (0,0) hg]
   rw [←h5] at hu
   have hj:j < l.length*i.size:=by have:=(bT.1 hu).1; simp at this; omega
   rw [eC hj,ev] at hu
   simpa using hu
  have hlen:(l++m).length=l.length+m.length:=aF
  have ak:=grownCap_ge W (l.length+m.length) cap e
  have aj:=grownCap_le_maxLen W (l.length+m.length) cap e a1.2
  have M:=run_append_grow_src (P:=P) W t t ty e i z ht hi hz (some ⟨s,off,none⟩) l.length cap ((l.map enc).flatten) hold _ m.length _ I eR (by have:=a1.2; unfold maxLen at this; omega) (growslice_fits eR (by rw [aa]; exact a1.1))
  have h6:=L.drew.alloc (.cells (((l.map enc).flatten++fm).toArray++Builtin.zeroCells z.cells (grownCap W (l.length+m.length) cap e-(l.length+m.length))) e (0,0))
  have h7:=(ST.drop (A:=(W.drew.heap.size,_)::X) h6).perm (L':=X++([(W.heap.size,_)]++Y)) (by simpa using (fL (a:=(W.heap.size,_)) (l₁:=X) (l₂:=Y)).symm)
  refine .inl ⟨_,_,U _ _ M,h _ _ _ h7 (lQ.que (.inr ⟨W.heap.size,grownCap W (l.length+m.length) cap e,_,by rw [hlen],Z,by rw [hlen]; exact ak,aj,?_,?_⟩))⟩
  ·rw [Array.size_append,size_zeroCells,ae]
   simp only [dY,aF,J,n]
   rw [←dn,←dn]
   congr 1
   omega
  ·rw [Array.toList_append,List.toList_toArray,hlen,O,List.take_append_of_le_length (by simp only [aF,J,n]; rw [dn]; exact aZ _),dM (by simp only [aF,J,n]; rw [dn]; exact aZ _)]
end
end Go.Proofs.YtlfibegniofmjaaGreat
namespace Go.Proofs.YtlfibegniofmjaaGreat
open Go.RowKit
variable [M:Md]
section
variable {P:Program} {ops:Array Oper} {Q:Exit→Act→World→Prop} {S:Array Bool→World→Prop}
def CD (ops:Array Oper) (l:Array Bool):Prop:=∀j o,ops[j]? =some o→l.getD j true=true→∀e∈o.after,Region.binds .any e=true→l.getD e.on true=true
def J2 (ops:Array Oper):Nat→List Nat→Bool
 | _,[]=>true
 | j,k::r=>(match ops[j]? with | some o=>o.after.any (λe=>Region.binds .any e&&e.on==k) | none=>false)&&J2 ops k r
theorem M0 {l:Array Bool} (d:CD ops l):∀(r:List Nat) (j i:Nat),J2 ops j r=true→(j::r).getLast? =some i→l.getD j true=true→l.getD i true=true
 | [],j,i,_,h,a=>by simp at h; subst h; exact a
 | k::r,j,i,h,p,a=>by
  simp only [J2,bL] at h
  obtain ⟨h1,g⟩:=h
  cases c:ops[j]? with
  | none=>rw [c] at h1; cases h1
  | some o=>
   rw [c] at h1
   simp only [Array.any_eq_true] at h1
   obtain ⟨n,q,h1⟩:=h1
   simp only [bL,gP] at h1
   have:=d j o c a o.after[n] (Array.getElem_mem q) h1.1
   rw [h1.2] at this
   exact M0 d r k i g (by simpa [List.getLast?_cons_cons] using p) this
def Mp (ops:Array Oper) (i:Nat) (l:Array Bool):Prop:=CD ops l∧l.getD i true=false
theorem Mp.YM {l:Array Bool} {i:Nat} (h:Mp ops i l) (j:Nat) (r:List Nat) (a:J2 ops j r=true) (d:(j::r).getLast? =some i):l.getD j true=false:=by
 cases c:l.getD j true with
 | false=>rfl
 | true=>have:=M0 h.1 r j i a d c; rw [h.2] at this; cases this
theorem CD.start (n:Nat) (h:n=ops.size):CD ops (Array.replicate n false):=by
 subst h
 intro j o d c
 have a:j < ops.size:=(dW.1 d).1
 simp [a] at c
theorem CD.set {l:Array Bool} {i:Nat} (h:CD ops l) (t:i∈Region.ready .any ops l):CD ops (l.setIfInBounds i true):=by
 intro j o s q e he p
 have up:∀{k:Nat},l.getD k true=true→(l.setIfInBounds i true).getD k true=true:=λ{k} hk=>by
  by_cases d:i=k
  ·subst d
   by_cases n:i < l.size
   ·simp [n]
   ·simp [n]
  ·rw [ky true d]; exact hk
 by_cases c:i=j
 ·subst c
  obtain ⟨_,u,g,a⟩:=kE.1 t
  rw [s] at g
  cases g
  refine up ?_
  have:=a e he p
  by_cases n:e.on < l.size
  ·simp [n] at this ⊢; exact this
  ·simp [n]
 ·rw [ky true c] at q
  exact up (h j o s q e he p)
def H9 (P:Program) (ops:Array Oper) (S:Array Bool→World→Prop) (i:Nat) (o:Oper) (v:Value) (a:Act):Prop :=
 (Region.wanted o (yielded ops a.tmps)=true∧∀l w,Mp ops i l→S l w→(execOp a.eval o).run P w= .ok (.value v) w)∨
 (Region.wanted o (yielded ops a.tmps)=false∧v=undef)
theorem H9.if_ {i:Nat} {o:Oper} {v:Value} {a:Act} {l:Array Bool} (h:H9 P ops S i o v a) (hp:Mp ops i l):YieldsIf P ops (S l) o v a :=
 h.imp (λ⟨h1,c⟩=>⟨h1,λw hw=>c l w hp hw⟩) id
def TL (P:Program) (ops:Array Oper) (Q:Exit→Act→World→Prop) (S:Array Bool→World→Prop):Nat→Array Bool→Act→World→Prop
 | 0,l,a,w=>Region.ready .any ops l=[]∧Q .normal a w
 | n+1,l,a,w=>(Region.ready .any ops l=[]→Q .normal a w)∧
  ∀i∈Region.ready .any ops l,wpOp P ops Q i (λd c=>S (l.setIfInBounds i true) c∧TL P ops Q S n (l.setIfInBounds i true) d c) a w
theorem SJ:∀(n:Nat) (l:Array Bool) (a:Act) (w:World),TL P ops Q S n l a w→wpAny P .any ops Q n l a w
 | 0,_,_,_,h=>h
 | n+1,_,_,_,h=>⟨h.1,λi hi=>wpOp_mono (λc g d=>SJ n _ c g d.2) (h.2 i hi)⟩
theorem WH {i j:Nat} {d q:Oper} {v:Value} (x:ops[j]? =some q) (n:d.apart ops q=true) (o:∀cs b,d.op≠.select cs b) (p:∀cs b,q.op≠.select cs b) (u:∀c a w,Q (.panic c) (a.put d.dst v) w→Q (.panic c) a w) {K:Act→World→Prop} {a:Act} {w:World} (y:H9 P ops S i d v a) (h:wpOp P ops Q j K (a.put d.dst v) w) :
  wpOp P ops Q j (λg t=>H9 P ops S i d v g∧K (g.put d.dst v) t) a w:=by
 have h1:YieldsIf P ops (λw=>∃l,Mp ops i l∧S l w) d v a:=y.imp (λ⟨h1,k⟩=>⟨h1,λw ⟨l,hp,hw⟩=>k l w hp hw⟩) id
 refine wpOp_mono (λg t s=>⟨s.1.imp (λ⟨h1,k⟩=>⟨h1,λl w hp hw=>k w ⟨l,hp,hw⟩⟩) id,s.2⟩) (wpOp_putIf (S:=λw=>∃l,Mp ops i l∧S l w) x n o p u h1 h)
theorem O8 {i:Nat} {z:Oper} {v:Value} (hi:ops[i]? =some z) (u:∀(j:Nat) (o:Oper) cs b,ops[j]? =some o→o.op≠.select cs b) (hQ:∀c a w,Q (.panic c) (a.put z.dst v) w→Q (.panic c) a w) (hm:∀l w,S (l.setIfInBounds i true) w→S l w) :
  ∀(n:Nat) (l:Array Bool) (a:Act) (w:World),(∀j A,ops[j]? =some A→j≠i→l.getD j true=false→(∀e∈A.after,Region.binds .any e=true→e.on≠i)→z.apart ops A=true)→
   CD ops l→i∈Region.ready .any ops l→H9 P ops S i z v a→S (l.setIfInBounds i true) w→TL P ops Q S n (l.setIfInBounds i true) (a.put z.dst v) w→TL P ops Q S (n+1) l a w:=by
 intro n
 induction n with
 | zero=>
  intro l a w _ R s T G H
  refine ⟨λh=>(by rw [h] at s; cases s),λj J=>?_⟩
  by_cases d:j=i
  ·subst d
   exact (T.if_ ⟨R,(kE.1 s).1⟩).wpOp hi (hm l w G) ⟨G,H⟩
  ·have:=ready_mono J d
   rw [H.1] at this
   cases this
 | succ n ih=>
  intro l a w p R s T G H
  refine ⟨λh=>(by rw [h] at s; cases s),λj J=>?_⟩
  by_cases d:j=i
  ·subst d
   exact (T.if_ ⟨R,(kE.1 s).1⟩).wpOp hi (hm l w G) ⟨G,H⟩
  have h1:=H.2 j (ready_mono J d)
  obtain ⟨t,A,y,I⟩:=kE.1 J
  have M:∀e∈A.after,Region.binds .any e=true→e.on≠i:=λe he hb Y=>by
   have x:=I e he hb
   have h0:=(kE.1 s).1
   rw [Y] at x
   rcases Nat.lt_or_ge i l.size with U | U
   ·simp [U] at h0 x; rw [h0] at x; cases x
   ·simp [Array.getElem?_eq_none U] at x
  have x:=WH y (p j A y d t M) (λcs b=>u i z cs b hi) (λcs b=>u j A cs b y) hQ T h1
  have q:∀k ok,ops[k]? =some ok→k≠i→(l.setIfInBounds j true).getD k true=false→(∀e∈ok.after,Region.binds .any e=true→e.on≠i)→z.apart ops ok=true:=λk ok hk a1 O a6=>by
   refine p k ok hk a1 ?_ a6
   by_cases L:j=k
   ·subst L; exact t
   ·rw [ky true L] at O; exact O
  have g:(l.setIfInBounds i true).setIfInBounds j true=(l.setIfInBounds j true).setIfInBounds i true:=Array.setIfInBounds_comm _ _ (Ne.symm d)
  refine wpOp_mono (λa' w' W=>?_) x
  have h4:S ((l.setIfInBounds j true).setIfInBounds i true) w':=by rw [←g]; exact W.2.1
  refine ⟨hm _ w' h4,ih (l.setIfInBounds j true) a' w' q (R.set J) (ready_mono s (Ne.symm d)) W.1 h4 ?_⟩
  rw [←g]
  exact W.2.2
end
theorem ab0 {ro:Md} {P:Program} {o:Oper} {a:Act} {w:World} {K:Act→World→Prop} {Q:Exit→Act→World→Prop} (j:∀c,o.op≠.defer c) (h:o.wp P a w K Q) (n:¬LetsOut Q):o.wpIn ro.F 0 P a w K Q:=by
 refine ⟨λ_ _=>trivial,?_⟩
 rw [Oper.semAt_eq _ _ _ j]
 unfold Oper.wp at h
 cases i:(execOp a.eval o).run P w with
 | ok x g=>
  rw [i] at h
  cases x with
  | value v=>exact h
  | skip=>exact h
  | defer d=>exact h
  | enter f args=>exact KQ (cZ h λe k he=>by cases e with
   | returned v=>exact he
   | panicked c=>exact he
   | outgrown=>exact he)
  | row r args=>exact ⟨λe=>(nomatch (show (none:Option Nat).isSome=true from e)),λc cs _=>by
    obtain ⟨v,g,r,s⟩:=h c cs
    exact ⟨v,g,r,(stepsIn_wide (P:=P)).2 s⟩⟩
  | _=>exact h.elim
 | halt z g=>
  rw [i] at h
  cases z with
  | panic v=>exact h
  | _=>exact h.elim
def TI (ops:Array Oper):Prop:=∀(i:Nat) (o:Oper),ops[i]? =some o→∀c,o.op≠.defer c
theorem IE {ro:Md} {P:Program} {ops:Array Oper} {Q:Exit→Act→World→Prop} (g:TI ops) (d:¬LetsOut Q):∀(n:Nat) (l:Array Bool) (a:Act) (w:World),wpAny P .any ops Q n l a w→wpAnyIn ro.F 0 P .any ops Q n l a w
 | 0,_,_,_,h=>h
 | n+1,l,a,w,h=>⟨h.1,λi hi=>by
  have c:=h.2 i hi
  unfold wpOp at c
  unfold wpOpIn
  cases j:ops[i]? with
  | none=>rw [j] at c; exact IE g d n _ a w c
  | some o=>
   rw [j] at c
   simp only at c ⊢
   split
   ·rename_i hw
    rw [aP hw] at c
    rcases c with c | c
    ·exact Oper.wpIn_mono (λa w h=>IE g d n _ a w h) (ab0 (g i o j) c d)
    ·exact absurd c.2 d
   ·rename_i hw
    rw [aN hw] at c
    exact ⟨λ_ _=>trivial,IE g d n _ _ w c⟩⟩
def QC (l:List Oper):Bool:=l.all λo=>match o.op with
 | .defer _=>false
 | _=>true
theorem Zp {l:List Oper} (h:QC l=true):TI l.toArray:=λi o a c d=>by
 have hm:o∈l:=by
  rw [fz] at a
  exact dE a
 have:=fq.1 h o hm
 rw [d] at this
 cases this
theorem aaR [M:Md] {n:Nat} {Q:pJ}:¬LetsOut (lift n Q):=λ⟨_,_,h⟩=>h
def PX (P:Program) (n:Nat) (ops:Array Oper) (Q:pJ) (S:Array Bool→World→Prop) (fuel:Nat) (listed:Array Bool) (E:mD) (W:World):Prop :=
 CD ops listed→∀a,Ag n a E→TL P ops (lift n Q) S fuel listed a W
section
variable {P:Program} {n:Nat} {Q:pJ} {E:mD} {W:World} {ops:Array Oper} {S:Array Bool→World→Prop} {fuel:Nat} {listed:Array Bool}
theorem Mj {id:Nat} {l:List Oper} (S:Array Bool→World→Prop) (hm:P.follows .mixedOrders=true) (h:PX P n l.toArray Q S l.length (Array.replicate l.length false) E W.drew) (c:QC l=true):CW P n (.region id l.toArray true) Q E W:=λa ha=>
 wpIn_region_any hm (IE (Zp c) aaR _ _ _ _ (SJ _ _ _ _ (h (CD.start _ fb) a ha)))
def Fq (ops:Array Oper) (listed:Array Bool) (i:Nat):Bool:=Region.noSelect ops&&Region.free .any ops listed i&&(Region.ready .any ops listed).contains i
theorem Es {o:Oper} {dd:Nat} {v:Value} (i:Nat) (hi:ops[i]? =some o) (hk:Fq ops listed i=true) (hw:rk n ops E o) (k:o.dst=some dd) (p:dd < n) (hm:∀l w,S (l.setIfInBounds i true) w→S l w) (j:S (listed.setIfInBounds i true) W) (q:∀l W,Mp ops i l→S l W→nf P E o W v W) (h:PX P n ops Q S fuel (listed.setIfInBounds i true) (oy E dd v) W):PX P n ops Q S (fuel+1) listed E W:=λd a ha=>by
 simp only [Fq,bL] at hk
 have g:i∈Region.ready .any ops listed:=by simpa using hk.2
 exact O8 hi (Region.noSelect_spec hk.1.1) (λ_ _ _ h=>QG h) hm fuel listed a W (Region.free_spec hi hk.1.2) d g (.inl ⟨hw.of ha,λl w hp c=>by rw [ha.eval]; exact q l w hp c⟩) j (by rw [k]; exact h (d.set g) _ (ha.put p v))
theorem vq {A:Value→Prop} {o:Oper} {dd:Nat} (i:Nat) (hi:ops[i]? =some o) (hk:Fq ops listed i=true) (hw:rk n ops E o) (d:o.dst=some dd) (g:dd < n) (hm:∀l w,S (l.setIfInBounds i true) w→S l w) (c:S (listed.setIfInBounds i true) W) (j:∃p,A p∧∀W,nf P E o W p W) (h:∀p,A p→PX P n ops Q S fuel (listed.setIfInBounds i true) (oy E dd p) W):PX P n ops Q S (fuel+1) listed E W:=by
 obtain ⟨p,h1,a⟩:=j
 exact Es i hi hk hw d g hm c (λ_ W _ _=>a W) (h p h1)
theorem Tp {o:Oper} {dd:Nat} (i:Nat) (hi:ops[i]? =some o) (hk:Fq ops listed i=true) (hw:∀a,Ag n a E→Region.wanted o (yielded ops a.tmps)=false) (j:o.dst=some dd) (k:dd < n) (hm:∀l w,S (l.setIfInBounds i true) w→S l w) (g:S (listed.setIfInBounds i true) W) (h:PX P n ops Q S fuel (listed.setIfInBounds i true) (oy E dd undef) W):PX P n ops Q S (fuel+1) listed E W:=λc a ha=>by
 simp only [Fq,bL] at hk
 have d:i∈Region.ready .any ops listed:=by simpa using hk.2
 exact O8 hi (Region.noSelect_spec hk.1.1) (λ_ _ _ h=>QG h) hm fuel listed a W (Region.free_spec hi hk.1.2) c d (.inr ⟨hw a ha,Z⟩) g (by rw [j]; exact h (c.set d) _ (ha.put k _))
theorem abW {o:Oper} {dd j t:Nat} {want:Bool} (i:Nat) (hi:ops[i]? =some o) (hk:Fq ops listed i=true) (k:o.guard=some (j,want)) (p:(ops[j]?).bind (·.dst)=some t) (s:t < n) (c:E t= .bool (!want)) (g:o.dst=some dd) (q:dd < n) (hm:∀l w,S (l.setIfInBounds i true) w→S l w) (d:S (listed.setIfInBounds i true) W) (h:PX P n ops Q S fuel (listed.setIfInBounds i true) (oy E dd undef) W):PX P n ops Q S (fuel+1) listed E W :=
 Tp i hi hk (λa ha=>by have u:=ha.yield p s c; simp [Region.wanted,k,u]) g q hm d h
theorem aai {o:Oper} {dd j t:Nat} {want:Bool} (i:Nat) (hi:ops[i]? =some o) (hk:Fq ops listed i=true) (k:o.guard=some (j,want)) (p:(ops[j]?).bind (·.dst)=some t) (s:t < n) (c:E t=undef) (g:o.dst=some dd) (q:dd < n) (hm:∀l w,S (l.setIfInBounds i true) w→S l w) (d:S (listed.setIfInBounds i true) W) (h:PX P n ops Q S fuel (listed.setIfInBounds i true) (oy E dd undef) W):PX P n ops Q S (fuel+1) listed E W :=
 Tp i hi hk (λa ha=>by have u:=ha.MP p s c; simp [Region.wanted,k,u]) g q hm d h
theorem Xt {o:Oper} {dd:Nat} (i:Nat) (hi:ops[i]? =some o) (g:Region.ready .any ops listed=[i]) (hw:rk n ops E o) (p:o.dst=some dd) (q:dd < n) (h:pq P E o W λv W'=>S (listed.setIfInBounds i true) W'∧PX P n ops Q S fuel (listed.setIfInBounds i true) (oy E dd v) W'):PX P n ops Q S (fuel+1) listed E W:=λk a ha=>by
 have c:i∈Region.ready .any ops listed:=by rw [g]; simp
 refine ⟨λu=>(by rw [u] at g; cases g),λj s=>?_⟩
 rw [g] at s
 obtain rfl:=aY.1 s
 unfold wpOp
 simp only [hi]
 rw [aP (hw.of ha)]
 refine .inl ?_
 unfold Oper.wp
 rw [ha.eval]
 rcases h with ⟨v,W',h1,d⟩ | ⟨W',h1,d⟩ | ⟨f,args,h1,d⟩
 ·rw [h1,fC]; exact ⟨d.1,by rw [p]; exact d.2 (k.set c) _ (ha.put q v)⟩
 ·rw [h1,ie]; exact ⟨d.1,by rw [p]; exact d.2 (k.set c) _ (ha.put q _)⟩
 ·rw [h1,fD]
  refine cZ d ?_
  rintro e w ⟨v,rfl,t⟩
  exact ⟨t.1,by simp only [p]; exact t.2 (k.set c) _ (ha.put q v)⟩
theorem abD {o:Oper} (i:Nat) (hi:ops[i]? =some o) (g:Region.ready .any ops listed=[i]) (hw:rk n ops E o) (p:o.dst=none) (h:pq P E o W λ_ W'=>S (listed.setIfInBounds i true) W'∧PX P n ops Q S fuel (listed.setIfInBounds i true) E W'):PX P n ops Q S (fuel+1) listed E W:=λk a ha=>by
 have c:i∈Region.ready .any ops listed:=by rw [g]; simp
 refine ⟨λt=>(by rw [t] at g; cases g),λj q=>?_⟩
 rw [g] at q
 obtain rfl:=aY.1 q
 unfold wpOp
 simp only [hi]
 rw [aP (hw.of ha)]
 refine .inl ?_
 unfold Oper.wp
 rw [ha.eval]
 rcases h with ⟨v,W',h1,d⟩ | ⟨W',h1,d⟩ | ⟨f,args,h1,d⟩
 ·rw [h1,fC,p]; exact ⟨d.1,d.2 (k.set c) _ (ha.zD _)⟩
 ·rw [h1,ie,p]; exact ⟨d.1,d.2 (k.set c) _ (ha.zD _)⟩
 ·rw [h1,fD]
  refine cZ d ?_
  rintro e u ⟨v,rfl,s⟩
  simp only [p]
  exact ⟨s.1,s.2 (k.set c) _ (ha.zD _)⟩
theorem ml (c:Region.ready .any ops listed=[]) (h:Q .normal E W):PX P n ops Q S fuel listed E W:=λ_ a ha=>by
 cases fuel with
 | zero=>exact ⟨c,E,ha,h⟩
 | succ f=>exact ⟨λ_=>⟨E,ha,h⟩,λi hi=>by rw [c] at hi; cases hi⟩
theorem yF {p:Prop} {b:Bool} (a:b=true) (h:b=false):p:=by rw [a] at h; cases h
theorem nr {l':Array Bool} (a:listed=l') (h:PX P n ops Q S fuel l' E W):PX P n ops Q S fuel listed E W:=by rw [a]; exact h
theorem JW {o u:Oper} {d w:Nat} (i j:Nat) (hi:ops[i]? =some o) (O:ops[j]? =some u) (t:Region.ready .any ops listed=[i,j]) (hw:rk n ops E o) (A:rk n ops E u) (p:o.dst=some d) (y:u.dst=some w) (s:d < n) (z:w < n) (h:pq P E o W λv W'=>S (listed.setIfInBounds i true) W'∧PX P n ops Q S fuel (listed.setIfInBounds i true) (oy E d v) W') (L:pq P E u W λv W'=>S (listed.setIfInBounds j true) W'∧PX P n ops Q S fuel (listed.setIfInBounds j true) (oy E w v) W'):PX P n ops Q S (fuel+1) listed E W:=λx a ha=>by
 have key:∀(k:Nat) (q:Oper) (e:Nat),ops[k]? =some q→k∈Region.ready .any ops listed→rk n ops E q→q.dst=some e→e < n→(pq P E q W λv W'=>S (listed.setIfInBounds k true) W'∧PX P n ops Q S fuel (listed.setIfInBounds k true) (oy E e v) W')→
   wpOp P ops (lift n Q) k (λJ G=>S (listed.setIfInBounds k true) G∧TL P ops (lift n Q) S fuel (listed.setIfInBounds k true) J G) a W:=by
  intro k q e hk c hw p s h
  unfold wpOp
  simp only [hk]
  rw [aP (hw.of ha)]
  refine .inl ?_
  unfold Oper.wp
  rw [ha.eval]
  rcases h with ⟨v,W',h1,g⟩ | ⟨W',h1,g⟩ | ⟨f,args,h1,g⟩
  ·rw [h1,fC]; exact ⟨g.1,by rw [p]; exact g.2 (x.set c) _ (ha.put s v)⟩
  ·rw [h1,ie]; exact ⟨g.1,by rw [p]; exact g.2 (x.set c) _ (ha.put s _)⟩
  ·rw [h1,fD]
   refine cZ g ?_
   rintro e G ⟨v,rfl,I⟩
   exact ⟨I.1,by simp only [p]; exact I.2 (x.set c) _ (ha.put s v)⟩
 refine ⟨λM=>(by rw [M] at t; cases t),λk hk=>?_⟩
 rw [t] at hk
 rcases aS.1 hk with rfl | hk
 ·exact key _ o d hi (by rw [t]; simp) hw p s h
 ·obtain rfl:=aY.1 hk
  exact key _ u w O (by rw [t]; simp) A y z L
theorem xI {l:Array Bool} {i j:Nat} {A:Prop} (a:Nat.beq i j=false) (h:(l.setIfInBounds i true).getD j true=false→A):l.getD j true=false→A:=λc=>h (by
 rw [ky true (λe=>by subst e; simp at a)]; exact c)
end
theorem Gq.at {α:Type} {e:TypeId} {enc:α→List Value} {k:Nat} {v:Value} {l:List α} {R:LO} (h:lQ e enc k v l R) (hk:∀x,(enc x).length=k) {p:Value} {i:Nat} (hp:Gq R k p i) {x:α} (g:l[i]? =some x):At (FK R) p (enc x):=by
 obtain ⟨c,a,cap,rfl,rfl,_,_,_,_,rfl,d⟩:=Gu h hk hp g
 exact ⟨c,i*k,a,e,(0,0),Z,by simp [FK],d⟩
theorem zT.form {κ β:Type} {kenc:κ→Value} {vf:β→Value} {μ:mc} {v:Value} {l:List (κ×β)} (h:zT kenc vf μ v l):∃r,v= .map r:=by
 rcases h with ⟨h,_⟩ | ⟨m,es,clock,h,_⟩
 ·exact ⟨_,h⟩
 ·exact ⟨_,h⟩
noncomputable def MO {β:Type} (l:List (ByteArray×β)):Option (List ByteArray) :=
 if (l.map (·.1)).Nodup∧(∀p∈l,p.1.size≤maxLen)∧l.length*16≤140737488355328 then some (Ai (l.map (·.1))) else none
def Wp {κ κ2 β α:Type} (a:Nat) (mk:κ→κ2→α) (l:List (κ×List (κ2×β))):Option (List α) :=
 if (l.flatMap λp=>p.2.map λq=>mk p.1 q.1).length*a≤140737488355328∧(l.flatMap λp=>p.2.map λq=>mk p.1 q.1).length≤maxLen then some (l.flatMap λp=>p.2.map λq=>mk p.1 q.1) else none
end Go.Proofs.YtlfibegniofmjaaGreat
namespace Go.Proofs.YtlfibegniofmjaaGreat
open Go.RowKit
variable [M:Md]
section
variable {P:Program} {n:Nat} {Q:pJ} {E:mD} {W:World} {ops:Array Oper} {rest:List Oper}
variable {dd:Bool} {α:Type} {enc:α→List Value} {k:Nat} {μ:mc} {v:Value}
variable {d:Option Nat} {ty:TypeId} {pos:String} {af:Array Edge} {g:tC} {F:Nat→Prop} {w:World} {L:LO}
def O3 (enc:α→List Value) (k:Nat):sV (List α):=λμ ys x=>∃v,ys=[v]∧Sl (Pl enc) k μ v x
theorem O3.mono (enc:α→List Value) (k:Nat):M1 (O3 enc k):=λ_ _ _ _ c ⟨v,h1,a⟩=>⟨v,h1,a.mono (Pl.mono _) c⟩
inductive Hc (enc:α→List Value) (k:Nat) (μ:mc):List Value→List (List α)→Prop
 | nil:Hc enc k μ [] []
 | cons {v:Value} {x:List α} {vs:List Value} {l:List (List α)}:Sl (Pl enc) k μ v x→Hc enc k μ vs l→Hc enc k μ (v::vs) (x::l)
theorem Hc.length {vs:List Value} {l:List (List α)} (h:Hc enc k μ vs l):vs.length=l.length:=by
 induction h with
 | nil=>rfl
 | cons _ _ ih=>simp [ih]
theorem Hc.get {vs:List Value} {l:List (List α)} (h:Hc enc k μ vs l):∀(i:Nat) (x:List α),l[i]? =some x→∃v,vs[i]? =some v∧Sl (Pl enc) k μ v x:=by
 induction h with
 | nil=>intro i x a; simp at a
 | cons h1 _ ih=>
  intro i x a
  cases i with
  | zero=>simp at a; subst a; exact ⟨_,Z,h1⟩
  | succ i=>simpa using ih i x (by simpa using a)
theorem O3.lit {b m:Nat} {vs:List Value} {e:TypeId} {l:List (List α)} (hm:l.length=m) (d:m≤maxLen) (g:μ b=some (.cells vs.toArray e (0,0))) (h:Hc enc k μ vs l):Sl (O3 enc k) 1 μ (.slice (some ⟨b,0,none⟩) m m) l:=by
 subst hm
 refine ⟨_,_,Z,aZ _,d,λ_=>⟨b,0,_,_,_,Z,g,λi x n=>?_⟩⟩
 obtain ⟨v,h1,c⟩:=h.get i x n
 refine ⟨[v],Z,⟨v,Z,c⟩,λj y a=>?_⟩
 cases j with
 | zero=>simp at a; subst a; simpa using h1
 | succ j=>simp at a
theorem XC {k2:Nat} {t e:TypeId} {x a:Operand} {u:IntKind} {i:Int} {l:List (List α)} {x0:List α} (q:P.underlying t=some (.slice e)) (he:∀w,(sizeOf e).run P w= .ok 1 w) (s:lf E x=v) (hi:lf E a= .int u i) (o:Sl (O3 enc k2) 1 μ v l) (c:0≤i) (n:l[i.toNat]? =some x0) :
  ∃p,(∃v0,At μ p [v0]∧Sl (Pl enc) k2 μ v0 x0)∧∀W,nf P E ⟨d,.indexAddr t x a,ty,pos,af,g⟩ W p W:=by
 obtain ⟨p,ys,h1,⟨v0,rfl,h⟩,j,k⟩:=Ov (d:=d) (ty:=ty) (pos:=pos) (af:=af) (g:=g) q he s hi o c n
 exact ⟨p,⟨v0,j,h⟩,k⟩
theorem Wr {x y:Operand} {ats:Array TypeId} {k:IntKind} {a b:Int} (c:lf E x= .int k a) (h:lf E y= .int k b) :
  nf P E ⟨d,.call ⟨.builtin .max,#[x,y],ats⟩,ty,pos,af,g⟩ W (.int k (if b > a then b else a)) W:=by
 show (do let d ←resolve (lf E) ⟨.builtin .max,#[x,y],ats⟩ ty; invoke d.target d.args:Sem Next).run P W=_
 simp [resolve,invoke,c,h,builtin,Builtin.max_,Builtin.max2]
theorem Wd {t:TypeId} {x:Operand} {f:Nat} {a:Array Field} {fd:Field} {cs:Array Value} (j:P.underlying t=some (.struct a)) (i:a[f]? =some fd) (h:∀w,(isAgg fd.type).run P w= .ok false w) (k:lf E x= .agg cs) (c:cs.toList[fd.offset]? =some v) :
  nf P E ⟨d,.field t x f,ty,pos,af,g⟩ W v W:=by
 show (do pure (.value (←Instr.field t (lf E x) f)):Sem Next).run P W=_
 rw [k]
 rw [dQ] at c
 simp [Instr.field,bA j,i,part,asAgg,h W,c]
end
end Go.Proofs.YtlfibegniofmjaaGreat
namespace Go.Proofs.YtlfibegniofmjaaGreat
open Go.RowKit
theorem WZ {p:Prop} [Decidable p] {u:Unit} (h:rr (decide p)=some u):p:=eo (LX h)
variable {dd:Bool}
section
variable {κ α:Type} {beq:κ→κ→Bool} {kenc:κ→Value} {t:TypeId} {enc:α→List Value}
variable {P:Program} {W:World} {kt:TypeId} {E:mD} {d:Option Nat} {ty:TypeId} {pos:String} {af:Array Edge} {g:tC} {F:Nat→Prop} {w:World} {μ:mc} {L:LO}
theorem Sv {γ c:Type} {l:List (κ×γ)} {m:List (κ×c)} {k:κ} (h:l.findIdx? (λp=>beq k p.1)=m.findIdx? λp=>beq k p.1):(mO beq l k).isSome=(mO beq m k).isSome:=by
 rw [zx,zx,h]
 cases hi:m.findIdx? (λp=>beq k p.1) with
 | none=>rfl
 | some i=>
  obtain ⟨p,hp,_⟩:=uM hi
  rw [hi] at h
  obtain ⟨q,a,_⟩:=uM h
  simp [hp,a]
theorem H8 {γ:Type} {Q:Value→γ→LO→Prop} {t e:TypeId} {m x:Operand} {i z:Value} {c:List (κ×Value)} {l:List (κ×γ)} {R:LO} {k:κ} (K:sY P kt kenc beq) (s:P.underlying t=some (.map kt e)) (v:∀w,(zeroValue e).run P w= .ok z w) (hm:lf E m=i) (u:lf E x=kenc k) (p:ou kenc Q i c l R) (q:∀b o,(b,o)∈R→W.heap[b]? =some o):nf P E ⟨d,.lookup t m x true,ty,pos,af,g⟩ W (.tuple #[tU beq c k z,.bool (mO beq l k).isSome]) W:=by
 obtain ⟨y,A,rfl,j,n⟩:=p
 have a:=T6 (d:=d) (ty:=ty) (pos:=pos) (af:=af) (g:=g) K s v hm u (j.at (μ:=hp W) λb o h=>q b o (cN _ h))
 rw [Sv (n.find k)] at a
 exact a
end
section
variable {P:Program} {fn:Func} {R:Ending→World→Prop} {E:mD} {W:World}
theorem rY {a:Tmp} {t0:TypeId} {a0:Addr} {v0:Value} {c:Tmp} {v1:Value} (g:fn.results=#[.cell a t0,.tmp c]) (d:E a= .pointer (some a0)) (j:(Instr.loadAt t0 (.pointer (some a0))).run P W= .ok v0 W) (h1:E c=v1) (h:R (.returned (.tuple #[v0,v1])) W):Ab P fn R .ret E W :=
 ⟨.tuple #[v0,v1],λtmps i=>by
  have q0:(loadVar t0 a0).run P W= .ok v0 W:=by simpa [Instr.loadAt,Instr.sureAddr] using j
  simp [results,g,i,asAddr,d,q0,h1],h⟩
theorem BB {c:Tmp} {v0:Value} {d:Tmp} {t1:TypeId} {a:Addr} {v1:Value} {g:Tmp} {v2:Value} (k:fn.results=#[.tmp c,.cell d t1,.tmp g]) (i:E c=v0) (h1:E d= .pointer (some a)) (o:(Instr.loadAt t1 (.pointer (some a))).run P W= .ok v1 W) (j:E g=v2) (h:R (.returned (.tuple #[v0,v1,v2])) W):Ab P fn R .ret E W :=
 ⟨.tuple #[v0,v1,v2],λtmps n=>by
  have q1:(loadVar t1 a).run P W= .ok v1 W:=by simpa [Instr.loadAt,Instr.sureAddr] using o
  simp [results,k,n,asAddr,i,h1,q1,j],h⟩
end
end Go.Proofs.YtlfibegniofmjaaGreat
namespace Go.Proofs.YtlfibegniofmjaaGreat
open Go.RowKit
variable [M:Md]
section
variable {x y:Nat×Obj} {A B C L R S:LO}
theorem Pz:(x::A).Perm (x::A):=.refl _
theorem Pb (h:A.Perm (x::B)):(y::A).Perm (x::y::B):=(h.cons y).trans (.swap ..)
theorem Pr (h:A.Perm (x::B)):(S++A).Perm (x::(S++B)):=(h.append_left S).trans fL
theorem Qz:(R++A).Perm (R++A):=.refl _
theorem Qb (h:A.Perm (R++B)):(y::A).Perm (R++(y::B)):=(h.cons y).trans List.perm_middle.symm
theorem Qr (h:A.Perm (R++B)):(S++A).Perm (R++(S++B)):=(h.append_left S).trans (gm S R B)
def mu (L L':LO):Prop:=∃M,L.Perm (L'++M)
theorem Sn:mu L []:=⟨L,.refl _⟩
theorem St:mu L L:=⟨[],by rw [bP]⟩
theorem Sb (h:L.Perm (x::A)) (k:mu A B):mu L (x::B):=let ⟨M,m⟩:=k; ⟨M,h.trans (m.cons x)⟩
theorem Sr (h:L.Perm (R++A)) (k:mu A B):mu L (R++B):=let ⟨M,m⟩:=k; ⟨M,by rw [aQ]; exact h.trans (m.append_left R)⟩
theorem Kb (k:mu A B):mu (x::A) (x::B):=Sb Pz k
theorem Kr (k:mu A B):mu (R++A) (R++B):=Sr Qz k
theorem Db (k:mu A B):mu (x::A) B:=let ⟨M,m⟩:=k; ⟨x::M,(m.cons x).trans List.perm_middle.symm⟩
theorem Dr (k:mu A B):mu (R++A) B:=let ⟨M,m⟩:=k; ⟨R++M,(m.append_left R).trans (gm R B M)⟩
theorem mu.mem (s:mu L A):∀p,p∈A→p∈L:=λp hp=>let ⟨M,m⟩:=s; m.mem_iff.2 (cN _ hp)
theorem ST.kM {dd:Bool} {F:Nat→Prop} {w W:World} {μ:mc} (h:ST dd F w W μ L) (s:mu L A:=by exact St):ST dd F w W μ A:=let ⟨M,m⟩:=s; (h.perm m).sublist (List.sublist_append_left A M)
theorem oe.kM {μ:mc} {W:World} (h:oe μ L W) (s:mu L A):oe μ A W:=h.sub (lm.refl _) s.mem
theorem oe.ob {μ μ':mc} {W:World} (h:oe μ L W) (a:lm μ' μ) (s:mu L A):oe μ' A W:=h.sub a s.mem
theorem Cn:L.Perm ([]++L):=.refl _
theorem Cb (h:L.Perm (x::A)) (k:A.Perm (B++C)):L.Perm ((x::B)++C):=h.trans (k.cons x)
theorem Cr (h:L.Perm (R++A)) (k:A.Perm (B++C)):L.Perm ((R++B)++C):=by rw [aQ]; exact h.trans (k.append_left R)
theorem C0 (k:L.Perm (B++C)):L.Perm (([]++B)++C):=k
theorem Cs (h:L.Perm (x::A)) (k:A.Perm (B++C)):L.Perm (([x]++B)++C):=Cb h k
theorem Tn:([]++A).Perm A:=.refl _
theorem Tb (h:(A++B).Perm C):((x::A)++B).Perm (x::C):=h.cons x
theorem Tr (h:(A++B).Perm C):((R++A)++B).Perm (R++C):=by rw [aQ]; exact h.append_left R
theorem Nb (h:L.Perm (x::A)) (k:A.Perm B):L.Perm (x::B):=h.trans (k.cons x)
theorem Nr (h:L.Perm (R++A)) (k:A.Perm B):L.Perm (R++B):=h.trans (k.append_left R)
theorem Nz:L.Perm L:=.refl _
theorem Opn {R' R1:LO} (hp:R.Perm (R'++R1)):(R++A).Perm (R'++(R1++A)):=by rw [←aQ]; exact hp.append_right A
theorem Mh:x∈x::A:=.head _
theorem Mt (h:x∈A):x∈y::A:=.tail _ h
theorem Ma (h:x∈A):x∈R++A:=dI _ h
theorem Ml (h:x∈R):x∈R++A:=cN _ h
end
section
variable {dd:Bool} {F:Nat→Prop} {w W:World} {μ:mc} {L L0 L1 Y R:LO}
theorem ST.bkL (h:ST dd lN w W μ L) (s:mu L L1):wm dd [] L1 w W:=let ⟨_,m⟩:=s; (h.perm m).abG
theorem ST.lZ (h:ST dd (keys L0) w W μ L) (s:mu L L1):wm dd L0 L1 w W:=let ⟨_,m⟩:=s; (h.perm m).abO
theorem ST.Jy:∀{R:LO} {μ:mc},ST dd F w W μ (R++Y)→∃μ',ST dd F w W μ' Y∧lm μ μ'∧Lo F w μ μ'∧∀b o,(b,o)∈R→μ' b=some o
 | [],μ,h=>⟨μ,h,lm.refl _,Lo.refl,λ_ _ h=>by cases h⟩
 | (g,o)::R,μ,h=>by
  have c:ST dd F w W μ ([]++(g,o)::(R++Y)):=h
  obtain ⟨μ',d,a2,a3,a4⟩:=ST.Jy (R:=R) (ST.KU (A:=[]) c)
  refine ⟨μ',d,(ST.KH (A:=[]) c).trans a2,(ST.RL (A:=[]) c).trans a3,λb i a=>?_⟩
  rcases aS.1 a with a | a
  ·cases a; exact a2 _ _ (aP Z)
  ·exact a4 b i a
theorem ST.JS {α:Type} {e':TypeId} {enc:α→List Value} {k:Nat} {v:Value} {l:List α} (a:ST dd F w W μ (R++Y)) (h:lQ e' enc k v l R) (hk:∀x,(enc x).length=k):∃μ',ST dd F w W μ' Y∧lm μ μ'∧Lo F w μ μ'∧Sl (Pl enc) k μ' v l:=by
 obtain ⟨μ',c,a2,a3,a4⟩:=ST.Jy a
 exact ⟨μ',c,a2,a3,h.sl hk a4⟩
section
variable {P:Program} {n:Nat} {Q:pJ} {E:mD} {V:World} {id:Nat} {l:List Oper} {A B C:LO}
theorem mh (c:oe μ A V.drew) (hm:P.follows .mixedOrders=true) (h:PX P n l.toArray Q (λ_ W=>oe μ A W) l.length (Array.replicate l.length false) E V.drew) (a:QC l=true:=by kernel_rfl):CW P n (.region id l.toArray true) Q E V:=Mj _ hm h a
theorem vh (i:Nat) (c:oe μ A V.drew) (h1:oe μ B V.drew) (hm:P.follows .mixedOrders=true) (h:PX P n l.toArray Q (λl W=>oe μ A W∧(l.getD i true=false→oe μ B W)) l.length (Array.replicate l.length false) E V.drew) (a:QC l=true:=by kernel_rfl):CW P n (.region id l.toArray true) Q E V:=Mj _ hm h a
theorem VC {D:LO} (i j k:Nat) (c:oe μ A V.drew) (h1:oe μ B V.drew) (d:oe μ C V.drew) (g:oe μ D V.drew) (hm:P.follows .mixedOrders=true) (h:PX P n l.toArray Q (λl W=>oe μ A W∧(l.getD i true=false→oe μ B W)∧(l.getD j true=false→oe μ C W)∧(l.getD k true=false→oe μ D W)) l.length (Array.replicate l.length false) E V.drew) (a:QC l=true:=by kernel_rfl):CW P n (.region id l.toArray true) Q E V:=Mj _ hm h a
end
structure nN (μ:mc) (L0:LO) (w:World):Prop where
 H:IR L0 w
 N:(L0.map (·.1)).Nodup
 S:lm μ (wN w L0)
theorem ST.yJ (h:nN μ L0 w):ST dd (keys L0) w w μ L0:=(ST.aaU h.H h.N).mF h.S
end
section
variable {dd:Bool} {P:Program} {E:mD} {W:World} {d:Option Nat} {ty:TypeId} {pos:String} {af:Array Edge} {g:tC} {F:Nat→Prop} {w:World} {μ:mc} {L:LO}
theorem lz {K:Value→World→Prop} {B:LO} {t:TypeId} {x y:Operand} (v:Value) {b off:Nat} {cs:Array Value} {T:TypeId} (cs':Array Value) (a:ST dd F w W μ ((b,.cells cs T (0,0))::B)) (k:lf E x= .pointer (some ⟨b,off,none⟩)) (n:lf E y=v) (c:∀w,(sizeOf t).run P w= .ok v.cells.size w) (h1:∀u∈v.cells.toList,u.oneCell'=true) (j:off+v.cells.size≤cs.size) (i:(cs.toList.take off++v.cells.toList++cs.toList.drop (off+v.cells.size)).toArray=cs') (h:∀W',ST dd F w W' μ ((b,.cells cs' T (0,0))::B)→K undef W'):pq P E ⟨d,.store t x y,ty,pos,af,g⟩ W K:=Gj [] v cs' a k n c h1 j i h
end
section
variable {dd:Bool}
variable {P:Program} {n:Nat} {Q:pJ} {E:mD} {W:World} {ops:Array Oper} {rest:List Oper}
 {d:Option Nat} {ty:TypeId} {pos:String} {af:Array Edge} {g:tC}
 {F:Nat→Prop} {w:World} {μ:mc} {L:LO}
theorem oG {K:Value→World→Prop} {α:Type} {e t:TypeId} {enc:α→List Value} {k a:Nat} {z v vs:Value} {l m r:List α} {R Y:LO} {x y:Operand} {i:TypeInfo} (c:ST dd F w W μ (R++Y)) (hk:∀x,(enc x).length=k) (n:0 < k) (h1:∀x,∀u∈enc x,u.oneCell'=true) (I:P.underlying t=some (.slice e)) (hi:P.info? e=some i) (M:i.zero=some z) (p:z.cells.size=k) (o:i.size=k) (j:i.bytes=a) (J:lf E x=v) (L:lf E y=vs) (s:lQ e enc k v l R) (G:Sl (Pl enc) k (hp W) vs m) (A:nF a l m=some r) (h:∀W' q R',ST dd F w W' μ (R'++Y)→lQ e enc k q r R'→K q W'):pq P E ⟨d,.call ⟨.builtin .append,#[x,y],#[t,t]⟩,ty,pos,af,g⟩ W K :=
 QD [] c hk n h1 I hi M p o j J L s G A h
end
section
variable {dd:Bool}
variable {P:Program} {E:mD} {W:World} {d:Option Nat} {ty:TypeId} {pos:String} {af:Array Edge} {g:tC}
 {F:Nat→Prop} {w:World} {μ:mc} {L:LO}
theorem TS {K:Value→World→Prop} {α:Type} {e:TypeId} {enc:α→List Value} {k:Nat} {l:List α} {f:FuncId} {fv:Operand} {ax:Array Operand} {ats:Array TypeId} {caps:Array Value} {args:List Value} (Y:LO) (a:ST dd F w W μ Y) (i:lf E fv= .func (.func f) #[] caps) (he:∀args w,(callFunc f args).run P w= .ok (.enter f args) w) (ha:ax.map (lf E)++caps=args.toArray) (c:mM dd P f args W e enc k l) (h:∀W' v μ' R,ST dd F w W' μ' (R++Y)→lm μ μ'→Lo F w μ μ'→lQ e enc k v l R→K v W'):pq P E ⟨d,.call ⟨.value fv,ax,ats⟩,ty,pos,af,g⟩ W K :=
 Uf [] Y a i he ha c h
end
section
variable {dd:Bool}
variable {P:Program} {E:mD} {W:World} {d:Option Nat} {ty:TypeId} {pos:String} {af:Array Edge} {g:tC}
 {F:Nat→Prop} {w:World} {μ:mc} {L:LO} {α:Type} {e':TypeId} {enc:α→List Value} {k:Nat} {v:Value} {l:List α} {R:LO}
theorem Av {K:Value→World→Prop} {Y:LO} {t:TypeId} {x y:Operand} {p u:Value} {i:Nat} {x0 x1:α} (a:ST dd F w W μ (R++Y)) (h:lQ e' enc k v l R) (hk:∀x,(enc x).length=k) (h1:∀x,∀u∈enc x,u.oneCell'=true) (o:lf E x=p) (q:lf E y=u) (hu:u.cells=(enc x1).toArray) (hp:Gq R k p i) (n:l[i]? =some x0) (j:∀w,(sizeOf t).run P w= .ok k w) (c:∀W' R',ST dd F w W' μ (R'++Y)→lQ e' enc k v (l.set i x1) R'→K undef W'):pq P E ⟨d,.store t x y,ty,pos,af,g⟩ W K :=
 Uk [] a h hk h1 o q hu hp n j c
end
section
variable {dd:Bool}
variable {P:Program} {E:mD} {W:World} {d:Option Nat} {ty:TypeId} {pos:String} {af:Array Edge} {g:tC}
 {F:Nat→Prop} {w:World} {μ:mc} {L:LO} {α:Type} {e':TypeId} {enc:α→List Value} {k:Nat} {v:Value} {l:List α} {R:LO}
theorem CE {K:Value→World→Prop} (z:α) {Y:LO} {t e:TypeId} {x:Operand} {u c:Value} {i:Nat} (a:ST dd F w W μ (R++Y)) (h:lQ e' enc k v l R) (hk:∀x,(enc x).length=k) (h1:∀x,∀u∈enc x,u.oneCell'=true) (o:P.underlying t=some (.slice e)) (q:∀w,(zeroValue e).run P w= .ok c w) (hu:F9 k v i u) (n:c.cells=(enc z).toArray) (p:lf E x=u) (j:∀W' R',ST dd F w W' μ (R'++Y)→lQ e' enc k v (rf l i z) R'→K (.tuple #[]) W'):pq P E ⟨d,.call ⟨.builtin .clear,#[x],#[t]⟩,ty,pos,af,g⟩ W K :=
 SB z [] a h hk h1 o q hu n p j
end
section
variable {dd:Bool}
variable {κ γ:Type} {Q:Value→γ→LO→Prop} {beq:κ→κ→Bool} {kenc:κ→Value}
variable {P:Program} {W:World} {kt:TypeId} {E:mD} {d:Option Nat} {ty:TypeId} {pos:String} {af:Array Edge} {g:tC} {F:Nat→Prop} {w:World} {μ:mc} {L:LO}
variable {κ2 β:Type} {kenc2:κ2→Value} {vf:β→Value} {beq2:κ2→κ2→Bool} {kt2:TypeId}
theorem UX {i:Value→World→Prop} {Y R:LO} {t e:TypeId} {m x y:Operand} {j:Value} {c:List (κ×Value)} {l l':List (κ×List (κ2×β))} {k:κ} {k2:κ2} {v:β} (hk:∀{x y:κ},beq x y=true→x=y) (K:sY P kt2 kenc2 beq2) (p:P.underlying t=some (.map kt2 e)) (a:ST dd F w W μ (R++Y)) (h:ou kenc (nC kenc2 vf) j c l R) (hm:lf E m=tU beq c k (.map none)) (q:lf E x=kenc2 k2) (s:lf E y=vf v) (o:L8 beq beq2 l k k2 v=some l') (n:∀W' R',ST dd F w W' μ (R'++Y)→ou kenc (nC kenc2 vf) j c l' R'→i undef W'):pq P E ⟨d,.mapUpdate t m x y,ty,pos,af,g⟩ W i :=
 WI [] hk K p a h hm q s o n
end
section
variable {dd:Bool}
variable {κ γ:Type} {Q:Value→γ→LO→Prop} {beq:κ→κ→Bool} {kenc:κ→Value}
variable {P:Program} {W:World} {kt:TypeId} {E:mD} {d:Option Nat} {ty:TypeId} {pos:String} {af:Array Edge} {g:tC} {F:Nat→Prop} {w:World} {μ:mc} {L:LO}
variable {κ2 β:Type} {kenc2:κ2→Value} {vf:β→Value} {beq2:κ2→κ2→Bool} {kt2:TypeId}
theorem Po {i:Value→World→Prop} {Y R R2:LO} {t e:TypeId} {m x y:Operand} {c:Value} {j:List (κ×Value)} {l l':List (κ×γ)} {k:κ} {u:Value} {z:γ} (K:sY P kt kenc beq) (q:P.underlying t=some (.map kt e)) (a:ST dd F w W μ (R++(R2++Y))) (h:ou kenc Q c j l R) (hm:lf E m=c) (s:lf E x=kenc k) (v:lf E y=u) (p:Q u z R2) (o:Ja beq l k z=some l') (n:∀W' R',ST dd F w W' μ (R'++Y)→ou kenc Q c (rW beq j k u) l' R'→i undef W'):pq P E ⟨d,.mapUpdate t m x y,ty,pos,af,g⟩ W i :=
 Vc [] K q a h hm s v p o n
end
section
variable {dd:Bool}
variable {κ γ:Type} {Q:Value→γ→LO→Prop} {beq:κ→κ→Bool} {kenc:κ→Value}
variable {P:Program} {W:World} {kt:TypeId} {E:mD} {d:Option Nat} {ty:TypeId} {pos:String} {af:Array Edge} {g:tC} {F:Nat→Prop} {w:World} {μ:mc} {L:LO}
theorem aae {i:Value→World→Prop} {Y R R1:LO} {t e:TypeId} {m x y:Operand} {c:Value} {j:List (κ×Value)} {l:List (κ×γ)} {k:κ} {u:Value} {z:γ} (K:sY P kt kenc beq) (p:P.underlying t=some (.map kt e)) (a:ST dd F w W μ (R++(R1++Y))) (h:UI beq kenc Q c j l k R) (hm:lf E m=c) (q:lf E x=kenc k) (s:lf E y=u) (o:Q u z R1) (n:∀W' R',ST dd F w W' μ (R'++Y)→ou kenc Q c (rW beq j k u) (rW beq l k z) R'→i undef W'):pq P E ⟨d,.mapUpdate t m x y,ty,pos,af,g⟩ W i :=
 aa5 [] K p a h hm q s o n
end
section
variable {dd:Bool}
variable {κ γ:Type} {Q:Value→γ→LO→Prop} {beq:κ→κ→Bool} {kenc:κ→Value}
variable {P:Program} {W:World} {kt:TypeId} {E:mD} {d:Option Nat} {ty:TypeId} {pos:String} {af:Array Edge} {g:tC} {F:Nat→Prop} {w:World} {μ:mc} {L:LO}
theorem Um {j:Value→World→Prop} {Y R:LO} {t e:TypeId} {m x:Operand} {i z:Value} {x0:γ} {u:List (κ×Value)} {l:List (κ×γ)} {k:κ} (hk:∀{x y:κ},beq x y=true↔x=y) (K:sY P kt kenc beq) (p:P.underlying t=some (.map kt e)) (s:∀w,(zeroValue e).run P w= .ok z w) (c:Q z x0 []) (a:ST dd F w W μ (R++Y)) (h:ou kenc Q i u l R) (hm:lf E m=i) (q:lf E x=kenc k) (o:∀W' v n R' R1,ST dd F w W' μ (R'++(R1++Y))→Q v ((mO beq l k).getD x0) R1→P0 beq kenc Q i l k n R'→j (.tuple #[v,.int .i64 (n:Nat)]) W'):pq P E ⟨d,.mapEntry t m x,ty,pos,af,g⟩ W j :=
 UA [] hk K p s c a h hm q o
end
section
variable {dd:Bool}
variable {κ γ:Type} {Q:Value→γ→LO→Prop} {beq:κ→κ→Bool} {kenc:κ→Value}
variable {P:Program} {W:World} {kt:TypeId} {E:mD} {d:Option Nat} {ty:TypeId} {pos:String} {af:Array Edge} {g:tC} {F:Nat→Prop} {w:World} {μ:mc} {L:LO}
theorem RT {j:Value→World→Prop} {Y R R1:LO} {t e:TypeId} {m s y:Operand} {i u:Value} {z:γ} {l:List (κ×γ)} {k:κ} {n:Nat} (hk:∀{x y:κ},beq x y=true↔x=y) (K:sY P kt kenc beq) (a:ST dd F w W μ (R++(R1++Y))) (h:P0 beq kenc Q i l k n R) (hm:lf E m=i) (q:lf E s= .int .i64 (n:Nat)) (v:lf E y=u) (p:Q u z R1) (o:∀W' c R',ST dd F w W' μ (R'++Y)→ou kenc Q i c (rW beq l k z) R'→j undef W'):pq P E ⟨d,.entryStore t m s y,ty,pos,af,g⟩ W j :=
 RV (e:=e) [] hk K a h hm q v p o
end
section
variable {dd:Bool}
variable {α:Type} {e:TypeId} {enc:α→List Value} {k:Nat} {v:Value} {l:List α} {R:LO}
variable {P:Program} {W:World} {E:mD} {d:Option Nat} {ty:TypeId} {pos:String} {af:Array Edge} {g:tC} {F:Nat→Prop} {w:World} {μ:mc} {L:LO}
theorem Sy {K:Value→World→Prop} {t:TypeId} {a:Nat} {z vs:Value} {m r:List α} {Y:LO} {x y:Operand} {i:TypeInfo} (c:ST dd F w W μ (R++Y)) (hk:∀x,(enc x).length=k) (n:0 < k) (h1:∀x,∀u∈enc x,u.oneCell'=true) (I:P.underlying t=some (.slice e)) (hi:P.info? e=some i) (M:i.zero=some z) (p:z.cells.size=k) (o:i.size=k) (j:i.bytes=a) (J:lf E x=v) (L:lf E y=vs) (s:uP e enc k v l R) (G:Sl (Pl enc) k (hp W) vs m) (A:nF a l m=some r) (h:∀W' q R',ST dd F w W' μ (R'++Y)→uP e enc k q r R'→K q W'):pq P E ⟨d,.call ⟨.builtin .append,#[x,y],#[t,t]⟩,ty,pos,af,g⟩ W K :=
 Sw [] c hk n h1 I hi M p o j J L s G A h
end
end Go.Proofs.YtlfibegniofmjaaGreat
namespace Go.Proofs.YtlfibegniofmjaaGreat
open Go.RowKit
variable [M:Md]
section
variable {P:Program} {n:Nat} {Q:pJ} {E:mD} {W:World} {ops:Array Oper} {rest:List Oper}
variable {d j t:Nat} {want:Bool} {v:Value} {ins:Go.Op} {ty:TypeId} {pos:String} {af:Array Edge} {A:Value→Prop}
theorem V (c:nf P E ⟨some d,ins,ty,pos,af,none⟩ W v W) (h:LW P n ops Q rest (oy E d v) W) (a:d < n:=by decide):LW P n ops Q (⟨some d,ins,ty,pos,af,none⟩::rest) E W:=Oi (.inl Z) Z a c h
theorem VE (h:pq P E ⟨some d,ins,ty,pos,af,none⟩ W λv W'=>LW P n ops Q rest (oy E d v) W') (a:d < n:=by decide):LW P n ops Q (⟨some d,ins,ty,pos,af,none⟩::rest) E W:=aaj (.inl Z) Z a h
theorem VO (h:pq P E ⟨none,ins,ty,pos,af,none⟩ W λ_ W'=>LW P n ops Q rest E W'):LW P n ops Q (⟨none,ins,ty,pos,af,none⟩::rest) E W:=abP (.inl Z) Z h
theorem VQ (c:∃p,A p∧∀W,nf P E ⟨some d,ins,ty,pos,af,none⟩ W p W) (h:∀p,A p→LW P n ops Q rest (oy E d p) W) (a:d < n:=by decide):LW P n ops Q (⟨some d,ins,ty,pos,af,none⟩::rest) E W:=abm (.inl Z) Z a c h
theorem Vg (c:(ops[j]?).bind (·.dst)=some t) (a:E t= .bool want) (i:nf P E ⟨some d,ins,ty,pos,af,some (j,want)⟩ W v W) (h:LW P n ops Q rest (oy E d v) W) (k:t < n:=by decide) (g:d < n:=by decide):LW P n ops Q (⟨some d,ins,ty,pos,af,some (j,want)⟩::rest) E W:=Oi (.inr ⟨j,want,t,Z,c,k,a⟩) Z g i h
theorem RN (c:(ops[j]?).bind (·.dst)=some t) (a:E t= .bool want) (h:pq P E ⟨some d,ins,ty,pos,af,some (j,want)⟩ W λv W'=>LW P n ops Q rest (oy E d v) W') (i:t < n:=by decide) (g:d < n:=by decide):LW P n ops Q (⟨some d,ins,ty,pos,af,some (j,want)⟩::rest) E W:=aaj (.inr ⟨j,want,t,Z,c,i,a⟩) Z g h
theorem VgQ (c:(ops[j]?).bind (·.dst)=some t) (a:E t= .bool want) (i:∃p,A p∧∀W,nf P E ⟨some d,ins,ty,pos,af,some (j,want)⟩ W p W) (h:∀p,A p→LW P n ops Q rest (oy E d p) W) (k:t < n:=by decide) (g:d < n:=by decide):LW P n ops Q (⟨some d,ins,ty,pos,af,some (j,want)⟩::rest) E W:=abm (.inr ⟨j,want,t,Z,c,k,a⟩) Z g i h
theorem Vn (c:(ops[j]?).bind (·.dst)=some t) (a:E t= .bool (!want)) (h:LW P n ops Q rest (oy E d undef) W) (i:t < n:=by decide) (g:d < n:=by decide):LW P n ops Q (⟨some d,ins,ty,pos,af,some (j,want)⟩::rest) E W:=aby Z g Z c i a h
theorem Vu (c:(ops[j]?).bind (·.dst)=some t) (a:E t=undef) (h:LW P n ops Q rest (oy E d undef) W) (i:t < n:=by decide) (g:d < n:=by decide):LW P n ops Q (⟨some d,ins,ty,pos,af,some (j,want)⟩::rest) E W:=aaL Z g Z c i a h
end
section
variable {P:Program} {n:Nat} {Q:pJ} {E:mD} {W:World} {ops:Array Oper} {S:Array Bool→World→Prop} {fuel:Nat} {listed:Array Bool} {μ:mc} {B:LO}
variable {d j t:Nat} {want:Bool} {v:Value} {ins:Go.Op} {ty:TypeId} {pos:String} {af:Array Edge} {A:Value→Prop}
theorem X (i:Nat) (hi:ops[i]? =some ⟨some d,ins,ty,pos,af,none⟩) (a:S (listed.setIfInBounds i true) W) (g:∀{W},nf P E ⟨some d,ins,ty,pos,af,none⟩ W v W) (h:PX P n ops Q S fuel (listed.setIfInBounds i true) (oy E d v) W) (hk:Fq ops listed i=true:=by kernel_rfl) (hm:∀l w,S (l.setIfInBounds i true) w→S l w:=by exact λ_ _ h=>h) (c:d < n:=by decide):PX P n ops Q S (fuel+1) listed E W:=Es i hi hk (.inl Z) Z c hm a (λ_ _ _ _=>g) h
theorem XH (i:Nat) (hi:ops[i]? =some ⟨some d,ins,ty,pos,af,none⟩) (a:oe μ B W) (g:∀W,oe μ B W→nf P E ⟨some d,ins,ty,pos,af,none⟩ W v W) (h:PX P n ops Q (λ_ W=>oe μ B W) fuel (listed.setIfInBounds i true) (oy E d v) W) (hk:Fq ops listed i=true:=by kernel_rfl) (c:d < n:=by decide):PX P n ops Q (λ_ W=>oe μ B W) (fuel+1) listed E W:=Es i hi hk (.inl Z) Z c (λ_ _ h=>h) a (λ_ W _ h=>g W h) h
theorem XQ (i:Nat) (hi:ops[i]? =some ⟨some d,ins,ty,pos,af,none⟩) (a:S (listed.setIfInBounds i true) W) (g:∃p,A p∧∀W,nf P E ⟨some d,ins,ty,pos,af,none⟩ W p W) (h:∀p,A p→PX P n ops Q S fuel (listed.setIfInBounds i true) (oy E d p) W) (hk:Fq ops listed i=true:=by kernel_rfl) (hm:∀l w,S (l.setIfInBounds i true) w→S l w:=by exact λ_ _ h=>h) (c:d < n:=by decide):PX P n ops Q S (fuel+1) listed E W:=vq i hi hk (.inl Z) Z c hm a g h
theorem XE (i:Nat) (hi:ops[i]? =some ⟨some d,ins,ty,pos,af,none⟩) (h:pq P E ⟨some d,ins,ty,pos,af,none⟩ W λv W'=>S (listed.setIfInBounds i true) W'∧PX P n ops Q S fuel (listed.setIfInBounds i true) (oy E d v) W') (c:Region.ready .any ops listed=[i]:=by kernel_rfl) (a:d < n:=by decide):PX P n ops Q S (fuel+1) listed E W:=Xt i hi c (.inl Z) Z a h
theorem XO (i:Nat) (hi:ops[i]? =some ⟨none,ins,ty,pos,af,none⟩) (h:pq P E ⟨none,ins,ty,pos,af,none⟩ W λ_ W'=>S (listed.setIfInBounds i true) W'∧PX P n ops Q S fuel (listed.setIfInBounds i true) E W') (a:Region.ready .any ops listed=[i]:=by kernel_rfl):PX P n ops Q S (fuel+1) listed E W:=abD i hi a (.inl Z) Z h
theorem Xg (i:Nat) (hi:ops[i]? =some ⟨some d,ins,ty,pos,af,some (j,want)⟩) (g:(ops[j]?).bind (·.dst)=some t) (a:E t= .bool want) (c:S (listed.setIfInBounds i true) W) (p:∀{W},nf P E ⟨some d,ins,ty,pos,af,some (j,want)⟩ W v W) (h:PX P n ops Q S fuel (listed.setIfInBounds i true) (oy E d v) W) (hk:Fq ops listed i=true:=by kernel_rfl) (hm:∀l w,S (l.setIfInBounds i true) w→S l w:=by exact λ_ _ h=>h) (o:t < n:=by decide) (k:d < n:=by decide):PX P n ops Q S (fuel+1) listed E W:=Es i hi hk (.inr ⟨j,want,t,Z,g,o,a⟩) Z k hm c (λ_ _ _ _=>p) h
theorem uq (i:Nat) (hi:ops[i]? =some ⟨some d,ins,ty,pos,af,some (j,want)⟩) (g:(ops[j]?).bind (·.dst)=some t) (a:E t= .bool want) (c:oe μ B W) (p:∀W,oe μ B W→nf P E ⟨some d,ins,ty,pos,af,some (j,want)⟩ W v W) (h:PX P n ops Q (λ_ W=>oe μ B W) fuel (listed.setIfInBounds i true) (oy E d v) W) (hk:Fq ops listed i=true:=by kernel_rfl) (o:t < n:=by decide) (k:d < n:=by decide):PX P n ops Q (λ_ W=>oe μ B W) (fuel+1) listed E W:=Es i hi hk (.inr ⟨j,want,t,Z,g,o,a⟩) Z k (λ_ _ h=>h) c (λ_ W _ h=>p W h) h
theorem Al (i:Nat) (hi:ops[i]? =some ⟨some d,ins,ty,pos,af,some (j,want)⟩) (c:(ops[j]?).bind (·.dst)=some t) (a:E t= .bool want) (h:pq P E ⟨some d,ins,ty,pos,af,some (j,want)⟩ W λv W'=>S (listed.setIfInBounds i true) W'∧PX P n ops Q S fuel (listed.setIfInBounds i true) (oy E d v) W') (k:Region.ready .any ops listed=[i]:=by kernel_rfl) (o:t < n:=by decide) (g:d < n:=by decide):PX P n ops Q S (fuel+1) listed E W:=Xt i hi k (.inr ⟨j,want,t,Z,c,o,a⟩) Z g h
theorem Xn (i:Nat) (hi:ops[i]? =some ⟨some d,ins,ty,pos,af,some (j,want)⟩) (g:(ops[j]?).bind (·.dst)=some t) (a:E t= .bool (!want)) (c:S (listed.setIfInBounds i true) W) (h:PX P n ops Q S fuel (listed.setIfInBounds i true) (oy E d undef) W) (hk:Fq ops listed i=true:=by kernel_rfl) (hm:∀l w,S (l.setIfInBounds i true) w→S l w:=by exact λ_ _ h=>h) (o:t < n:=by decide) (k:d < n:=by decide):PX P n ops Q S (fuel+1) listed E W:=abW i hi hk Z g o a Z k hm c h
theorem Xu (i:Nat) (hi:ops[i]? =some ⟨some d,ins,ty,pos,af,some (j,want)⟩) (g:(ops[j]?).bind (·.dst)=some t) (a:E t=undef) (c:S (listed.setIfInBounds i true) W) (h:PX P n ops Q S fuel (listed.setIfInBounds i true) (oy E d undef) W) (hk:Fq ops listed i=true:=by kernel_rfl) (hm:∀l w,S (l.setIfInBounds i true) w→S l w:=by exact λ_ _ h=>h) (o:t < n:=by decide) (k:d < n:=by decide):PX P n ops Q S (fuel+1) listed E W:=aai i hi hk Z g o a Z k hm c h
end
end Go.Proofs.YtlfibegniofmjaaGreat
namespace Go.Proofs.YtlfibegniofmjaaGreat
open Go.RowKit
section
variable {α β γ:Type}
inductive ua (Q:α→β→Prop):List α→List β→Prop
 | nil:ua Q [] []
 | cons {a:α} {b:β} {l:List α} {m:List β}:Q a b→ua Q l m→ua Q (a::l) (b::m)
namespace ua
variable {Q Q':α→β→Prop}
theorem length {l:List α} {m:List β} (h:ua Q l m):l.length=m.length:=by
 induction h with
 | nil=>rfl
 | cons _ _ ih=>simp [ih]
theorem imp {l:List α} {m:List β} (h:ua Q l m) (c:∀a b,Q a b→Q' a b):ua Q' l m:=by
 induction h with
 | nil=>exact .nil
 | cons h1 _ ih=>exact .cons (c _ _ h1) ih
theorem get {l:List α} {m:List β} (h:ua Q l m):∀{i:Nat} {b:β},m[i]? =some b→∃a,l[i]? =some a∧Q a b:=by
 induction h with
 | nil=>intro i b c; simp at c
 | cons h1 _ ih=>
  intro i b c
  cases i with
  | zero=>simp at c; subst c; exact ⟨_,Z,h1⟩
  | succ i=>simpa using ih (by simpa using c)
theorem append {l l':List α} {m a:List β} (h:ua Q l m) (c:ua Q l' a):ua Q (l++l') (m++a):=by
 induction h with
 | nil=>exact c
 | cons h1 _ ih=>exact .cons h1 ih
theorem set {l:List α} {m:List β} (h:ua Q l m) {a:α} {b:β} (d:Q a b):∀i:Nat,ua Q (l.set i a) (m.set i b):=by
 induction h with
 | nil=>intro i; exact .nil
 | cons h1 c ih=>
  intro i
  cases i with
  | zero=>exact .cons d c
  | succ i=>exact .cons h1 (ih i)
theorem take {l:List α} {m:List β} (h:ua Q l m):∀i:Nat,ua Q (l.take i) (m.take i):=by
 induction h with
 | nil=>intro i; simp; exact .nil
 | cons h1 _ ih=>
  intro i
  cases i with
  | zero=>exact .nil
  | succ i=>exact .cons h1 (ih i)
theorem drop {l:List α} {m:List β} (h:ua Q l m):∀i:Nat,ua Q (l.drop i) (m.drop i):=by
 induction h with
 | nil=>intro i; simp; exact .nil
 | cons h1 a ih=>
  intro i
  cases i with
  | zero=>exact .cons h1 a
  | succ i=>exact ih i
end ua
theorem HM {P:Nat→β→α→Prop}:∀{m:List β} (o:Nat),(∀(i:Nat) (b:β),m[i]? =some b→∃a,P (o+i) b a)→∃l:List α,l.length=m.length∧∀(i:Nat) (b:β),m[i]? =some b→∃a,l[i]? =some a∧P (o+i) b a
 | [],_,_=>⟨[],Z,λi b h=>by simp at h⟩
 | b::m,o,h=>by
  obtain ⟨a,ha⟩:=h 0 b Z
  obtain ⟨l,h1,g⟩:=HM (m:=m) (o+1) (λi b j=>by
   obtain ⟨a,ha⟩:=h (i+1) b (by simpa using j)
   exact ⟨a,by rw [show o+1+i=o+(i+1) by omega]; exact ha⟩)
  refine ⟨a::l,by simp [h1],λi c d=>?_⟩
  cases i with
  | zero=>simp at d; subst d; exact ⟨a,Z,ha⟩
  | succ i=>
   obtain ⟨x,k,hp⟩:=g i c (by simpa using d)
   exact ⟨x,by simpa using k,by rw [show o+(i+1)=o+1+i by omega]; exact hp⟩
theorem ua.WL {Q:α→β→Prop}:∀{l:List α} {m:List β},l.length=m.length→(∀(i:Nat) (a:α) (b:β),l[i]? =some a→m[i]? =some b→Q a b)→ua Q l m
 | [],[],_,_=>.nil
 | [],_::_,h,_=>by cases h
 | _::_,[],h,_=>by cases h
 | a::l,b::m,h,c=>.cons (c 0 a b Z Z) (ua.WL (by simpa using h) λi x y d g=>c (i+1) x y (by simpa using d) (by simpa using g))
end
structure Deep {β:Type} (R:sV β) (k:Nat):Prop where
 mono:M1 R
 len:∀{μ ys x},R μ ys x→ys.length=k
 one:∀{μ ys x},R μ ys x→∀u∈ys,u.oneCell'=true
abbrev BU (k:Nat):={ys:List Value // ys.length=k∧∀u∈ys,u.oneCell'=true}
def Ay {k:Nat} (c:BU k):List Value:=c.1
theorem Et {k:Nat} (x:BU k):(Ay x).length=k:=x.2.1
theorem Xv {k:Nat} (x:BU k):∀u∈Ay x,u.oneCell'=true:=x.2.2
theorem Sl.CN {α:Type} {R:sV α} {k:Nat} {μ:mc} {v:Value} {l:List α} (h:Sl R k μ v l):v.oneCell'=true:=by
 obtain ⟨A,c,rfl,_⟩:=h; rfl
section
variable {β:Type} {Rl:sV β} {k:Nat} {μ μ':mc} {v:Value} {l:List β}
def Deep.cell (a:Deep Rl k) {ys:List Value} {x:β} (h:Rl μ ys x):BU k:=⟨ys,a.len h,a.one h⟩
theorem Sl.raw (z:Deep Rl k) (h:Sl Rl k μ v l):∃cl:List (BU k),Sl (Pl Ay) k μ v cl∧ua (λc x=>Rl μ c.1 x) cl l:=by
 obtain ⟨A,c,rfl,h1,s,u⟩:=h
 cases l with
 | nil=>exact ⟨[],⟨A,c,Z,h1,s,λh=>absurd h fb⟩,.nil⟩
 | cons x0 l=>
  obtain ⟨b,off,cs,T,fr,rfl,G,w⟩:=u fb
  obtain ⟨cl,o,q⟩:=HM (P:=λi x (c:BU k)=>Rl μ c.1 x∧∀j y,c.1[j]? =some y→cs[off+i*k+j]? =some y) (m:=x0::l) 0 (λi x p=>by
   obtain ⟨ys,_,d,g⟩:=w i x p
   exact ⟨z.cell d,d,by rw [fa]; exact g⟩)
  refine ⟨cl,⟨_,c,by rw [o],eR,s,λ_=>⟨b,off,cs,T,fr,Z,G,λi c n=>?_⟩⟩,ua.WL o λi c x n p=>?_⟩
  ·have hi:i < (x0::l).length:=by rw [←o]; exact (bT.1 n).1
   obtain ⟨t,a,_,g⟩:=q i _ (dD hi)
   rw [n] at a; cases a
   exact ⟨c.1,c.2.1,Z,by rw [fa] at g; exact g⟩
  ·obtain ⟨t,a,d,_⟩:=q i x p
   rw [n] at a; cases a
   exact d
theorem Sl.Vt {cl:List (BU k)} (h:Sl (Pl Ay) k μ v cl) (u:lm μ μ') (ha:ua (λc x=>Rl μ' c.1 x) cl l):Sl Rl k μ' v l:=by
 obtain ⟨A,c,rfl,h1,n,o⟩:=h
 have a:=ha.length
 refine ⟨A,c,by rw [a],eR,n,λy=>?_⟩
 obtain ⟨b,off,cs,T,fr,rfl,q,p⟩:=o eR
 refine ⟨b,off,cs,T,fr,Z,u _ _ q,λi x w=>?_⟩
 obtain ⟨c,s,t⟩:=ha.get w
 obtain ⟨ys,d,g,j⟩:=p i c s
 cases g
 exact ⟨Ay c,d,t,j⟩
def Br (Rl:sV β) (k:Nat) (μ:mc) (W:World) (v:Value) (l:List β):Prop:=∃cl:List (BU k),Sl (Pl Ay) k (hp W) v cl∧ua (λc x=>Rl μ c.1 x) cl l
theorem Br.sl (c:Deep Rl k) {W:World} (h:Sl Rl k μ v l) (d:lm μ (hp W)):Br Rl k μ W v l:=by
 obtain ⟨cl,h1,a⟩:=h.raw c
 exact ⟨cl,h1.mono (Pl.mono _) d,a⟩
theorem Sl.Xw {b m:Nat} {cl:List (BU k)} {cs:Array Value} {e:TypeId} (hm:cl.length=m) (a:m≤maxLen) (d:cs.toList=(cl.map Ay).flatten) (c:μ b=some (.cells cs e (0,0))):Sl (Pl Ay) k μ (.slice (some ⟨b,0,none⟩) m m) cl:=by
 subst hm
 refine ⟨_,_,Z,aZ _,a,λ_=>⟨b,0,_,_,_,Z,c,λi x g=>⟨Ay x,Et x,Z,λj y h=>?_⟩⟩⟩
 have:=AK Et cl i x g j y h
 rw [←d] at this
 simpa using this
inductive Iz (Rl:sV β) (k:Nat) (μ:mc):List Value→List β→Prop
 | nil:Iz Rl k μ [] []
 | cons {ys zs:List Value} {x:β} {l:List β}:Rl μ ys x→Iz Rl k μ zs l→Iz Rl k μ (ys++zs) (x::l)
theorem Iz.cells (d:Deep Rl k) {ys:List Value} (h:Iz Rl k μ ys l):∃cl:List (BU k),(cl.map Ay).flatten=ys∧ua (λc x=>Rl μ c.1 x) cl l:=by
 induction h with
 | nil=>exact ⟨[],Z,.nil⟩
 | cons h1 _ ih=>
  obtain ⟨cl,e,a⟩:=ih
  exact ⟨d.cell h1::cl,by rw [bY,bX,e]; rfl,.cons h1 a⟩
theorem Br.lit (d:Deep Rl k) {W:World} {b m:Nat} {ys:List Value} {e:TypeId} (h:Iz Rl k μ ys l) (hm:l.length=m) (g:m≤maxLen) (i:W.heap[b]? =some (.cells ys.toArray e (0,0))):Br Rl k μ W (.slice (some ⟨b,0,none⟩) m m) l:=by
 obtain ⟨cl,c,a⟩:=h.cells d
 exact ⟨cl,Sl.Xw (by rw [a.length]; exact hm) g c.symm i,a⟩
theorem Sl.imp {R R':sV β} (h:Sl R k μ v l) (hi:∀ys x,R μ ys x→R' μ ys x):Sl R' k μ v l:=by
 obtain ⟨A,c,rfl,h1,a,d⟩:=h
 refine ⟨A,c,Z,h1,a,λq=>?_⟩
 obtain ⟨b,off,cs,T,fr,rfl,p,g⟩:=d q
 exact ⟨b,off,cs,T,fr,Z,p,λi x s=>let ⟨ys,j,n,o⟩:=g i x s; ⟨ys,j,hi _ _ n,o⟩⟩
theorem Kw:∀(l:List Nat) (n:Nat),n∈l→n≤l.foldr max 0
 | [],n,h=>by cases h
 | a::l,n,h=>by
  rcases aS.1 h with rfl | h
  ·exact Nat.le_max_left _ _
  ·exact ee (Kw l n h) (Nat.le_max_right _ _)
theorem Sl.abX {R:sV β} {a:Nat→sV β} (h:Sl R k μ v l) (G:∀ys x,R μ ys x→∃n,a n μ ys x) (up:∀n m ys x,n≤m→a n μ ys x→a m μ ys x):∃n,Sl (a n) k μ v l:=by
 obtain ⟨A,c,rfl,h1,s,w⟩:=h
 by_cases t:0 < l.length
 ·obtain ⟨b,off,cs,T,fr,rfl,I,z⟩:=w t
  obtain ⟨L,M,u⟩:=HM (P:=λi x (p:Nat×List Value)=>p.2.length=k∧a p.1 μ p.2 x∧∀j y,p.2[j]? =some y→cs[off+i*k+j]? =some y) (m:=l) 0 (λi x q=>by
   obtain ⟨ys,g,o,d⟩:=z i x q
   obtain ⟨n,J⟩:=G _ _ o
   exact ⟨(n,ys),g,J,by rw [fa]; exact d⟩)
  refine ⟨(L.map (·.1)).foldr max 0,_,c,Z,h1,s,λ_=>⟨b,off,cs,T,fr,Z,I,λi x q=>?_⟩⟩
  obtain ⟨p,hp,g,o,d⟩:=u i x q
  exact ⟨p.2,g,up _ _ _ _ (Kw _ _ (bW.2 ⟨p,dE hp,Z⟩)) o,by rw [fa] at d; exact d⟩
 ·exact ⟨0,A,c,Z,h1,s,λh=>absurd h t⟩
def mn (e:TypeId) (Rl:sV β) (k:Nat) (μ:mc) (v:Value) (l:List β) (B:LO):Prop:=∃cl:List (BU k),lQ e Ay k v cl B∧ua (λc x=>Rl μ c.1 x) cl l
variable {e:TypeId} {B:LO}
theorem mn.mono (c:Deep Rl k) (h:mn e Rl k μ v l B) (d:lm μ μ'):mn e Rl k μ' v l B:=by
 obtain ⟨cl,h1,a⟩:=h
 exact ⟨cl,h1,a.imp λ_ _ h=>c.mono _ _ _ _ d h⟩
theorem mn.nil (e:TypeId) (Rl:sV β) (k:Nat) (μ:mc):mn e Rl k μ (.slice none 0 0) [] []:=⟨[],lQ.nil _ _ _,.nil⟩
theorem mn.lit (d:Deep Rl k) {b m:Nat} {ys:List Value} (h:Iz Rl k μ ys l) (hm:l.length=m) (g:m≤maxLen) (i:ys.length=m*k):mn e Rl k μ (.slice (some ⟨b,0,none⟩) m m) l [(b,.cells ys.toArray e (0,0))]:=by
 obtain ⟨cl,c,a⟩:=h.cells d
 exact ⟨cl,lQ.lit (by rw [a.length]; exact hm) g c.symm (by simpa using i),a⟩
theorem mn.form (h:mn e Rl k μ v l B):∃A c,v= .slice A l.length c:=by
 obtain ⟨cl,h1,a⟩:=h
 rw [←a.length]; exact h1.form
theorem mn.len (h:mn e Rl k μ v l B):l.length≤9223372036854775807:=by
 obtain ⟨cl,h1,a⟩:=h
 rw [←a.length]; exact h1.len
theorem mn.nd (h:mn e Rl k μ v l B):(B.map (·.1)).Nodup:=let ⟨_,h1,_⟩:=h; h1.nd
theorem mn.isNil {n c:Nat} (h:mn e Rl k μ (.slice none n c) l B):l=[]:=by
 obtain ⟨cl,h1,a⟩:=h
 have:=a.length
 rw [h1.isNil] at this
 exact bF this.symm
theorem mn.sl (h:mn e Rl k μ v l B) (c:Deep Rl k) (d:lm μ μ') (hm:∀b o,(b,o)∈B→μ' b=some o):Sl Rl k μ' v l:=by
 obtain ⟨cl,h1,a⟩:=h
 exact Sl.Vt (h1.sl Et hm) (lm.refl _) (a.imp λ_ _ h=>c.mono _ _ _ _ d h)
end
section
variable {β:Type} {Rl:sV β} {k:Nat} {μ:mc} {v:Value} {l:List β} {e:TypeId} {B:LO}
variable {dd:Bool} {F:Nat→Prop} {w W:World} {L:LO}
theorem mn.YJ (h:mn e Rl k μ v l B) (c:Deep Rl k) (a:ST dd F w W μ L) (d:∀p,p∈B→p∈L):Sl Rl k (hp W) v l:=h.sl c a.lb (λ_ _ g=>a.at_ (d _ g))
theorem Br.row (h:mn e Rl k μ v l B) (a:ST dd F w W μ L) (d:∀p,p∈B→p∈L):Br Rl k μ W v l:=let ⟨cl,h1,c⟩:=h; ⟨cl,h1.YJ Et a d,c⟩
theorem mn.Yu (h:mn e Rl k μ v l B) (a:ST dd lN w W μ L) (c:∀p,p∈B→p∈L):Fr w.heap.size v:=let ⟨_,h1,_⟩:=h; h1.Yu a c
theorem ST.xW {Y:LO} (g:Deep Rl k) (a:ST dd F w W μ (B++Y)) (h:mn e Rl k μ v l B):∃μ',ST dd F w W μ' Y∧lm μ μ'∧Lo F w μ μ'∧Sl Rl k μ' v l:=by
 obtain ⟨cl,h1,d⟩:=h
 obtain ⟨μ',c,a2,a4,a3⟩:=ST.JS a h1 Et
 exact ⟨μ',c,a2,a4,Sl.Vt a3 (lm.refl _) (d.imp λ_ _ h=>g.mono _ _ _ _ a2 h)⟩
variable {P:Program} {E:mD} {d:Option Nat} {ty:TypeId} {pos:String} {af:Array Edge} {g:tC}
theorem my {t e':TypeId} {x a:Operand} {z:IntKind} {i:Int} {x0:β} {A:List Value→Prop} (q:∀{ys},Rl μ ys x0→A ys) (u:P.underlying t=some (.slice e')) (he:∀w,(sizeOf e').run P w= .ok k w) (y:lf E x=v) (hi:lf E a= .int z i) (s:Sl Rl k μ v l) (c:0≤i) (o:l[i.toNat]? =some x0) :
  ∃p,(∃ys,A ys∧At μ p ys)∧∀W,nf P E ⟨d,.indexAddr t x a,ty,pos,af,g⟩ W p W:=by
 obtain ⟨p,ys,_,h,j,n⟩:=Ov (d:=d) (ty:=ty) (pos:=pos) (af:=af) (g:=g) u he y hi s c o
 exact ⟨p,⟨ys,q h,j⟩,n⟩
theorem xE {x:Operand} {t e':TypeId} (a:P.underlying t=some (.slice e')) (i:lf E x=v) (h:mn e Rl k μ v l B):nf P E ⟨d,.call ⟨.builtin .len,#[x],#[t]⟩,ty,pos,af,g⟩ W (.int .i64 l.length) W:=by
 obtain ⟨A,c,rfl⟩:=h.form
 exact Iq a i
theorem ni {t e':TypeId} {x n:Operand} {J:IntKind} {i:Int} {x0:β} {A:List Value→Prop} (y:∀{ys},Rl μ ys x0→A ys) (G:P.underlying t=some (.slice e')) (he:∀w,(sizeOf e').run P w= .ok k w) (I:lf E x=v) (hi:lf E n= .int J i) (h:mn e Rl k μ v l B) (o:0≤i) (u:l[i.toNat]? =some x0) :
  ∃p,(∃ys,A ys∧At (FK B) p ys∧Gq B k p i.toNat)∧∀W,nf P E ⟨d,.indexAddr t x n,ty,pos,af,g⟩ W p W:=by
 obtain ⟨cl,h1,q⟩:=h
 obtain ⟨c,j,z⟩:=q.get u
 obtain ⟨p,a,s⟩:=oF (d:=d) (ty:=ty) (pos:=pos) (af:=af) (g:=g) G he I hi h1 o j
 exact ⟨p,⟨c.1,y z,a.at h1 Et j,a⟩,s⟩
theorem XP {α d:Type} {a:Nat} {l m r:List α} {l' c:List d} (h:nF a l m=some r) (h1:l'.length=l.length) (g:c.length=m.length):nF a l' c=some (l'++c)∧r=l++m:=by
 unfold nF at h ⊢
 rw [h1,g]
 split at h
 ·rename_i i; cases h; rw [aP i]; exact ⟨Z,Z⟩
 ·cases h
theorem sk {K:Value→World→Prop} {t:TypeId} {a:Nat} {z vs:Value} {m r:List β} {Y:LO} {x y:Operand} {i:TypeInfo} (hD:Deep Rl k) (j:ST dd F w W μ (B++Y)) (p:0 < k) (O:P.underlying t=some (.slice e)) (hi:P.info? e=some i) (T:i.zero=some z) (s:z.cells.size=k) (q:i.size=k) (o:i.bytes=a) (Q:lf E x=v) (R:lf E y=vs) (J:mn e Rl k μ v l B) (M:Br Rl k μ W vs m) (L:nF a l m=some r) (h:∀W' c R',ST dd F w W' μ (R'++Y)→mn e Rl k μ c r R'→K c W'):pq P E ⟨d,.call ⟨.builtin .append,#[x,y],#[t,t]⟩,ty,pos,af,g⟩ W K:=by
 obtain ⟨cl,h1,u⟩:=J
 obtain ⟨U,I,A⟩:=M
 obtain ⟨n,rfl⟩:=XP L u.length A.length
 exact oG j Et p Xv O hi T s q o Q R h1 I n (λW' c R' G a2=>h W' c R' G ⟨_,a2,u.append A⟩)
theorem vw {K:Value→World→Prop} {Y:LO} {t:TypeId} {x y:Operand} {p:Value} {i:Nat} {x0 x1:β} {ys:List Value} (q:Deep Rl k) (a:ST dd F w W μ (B++Y)) (h:mn e Rl k μ v l B) (G:lf E x=p) (I:lf E y= .agg ys.toArray) (n:Rl μ ys x1) (hp:Gq B k p i) (A:l[i]? =some x0) (u:∀w,(sizeOf t).run P w= .ok k w) (s:∀W' R',ST dd F w W' μ (R'++Y)→mn e Rl k μ v (l.set i x1) R'→K undef W'):pq P E ⟨d,.store t x y,ty,pos,af,g⟩ W K:=by
 obtain ⟨cl,h1,j⟩:=h
 obtain ⟨c,z,_⟩:=j.get A
 exact Av (x1:=q.cell n) a h1 Et Xv G I Z hp z u (λW' R' o a2=>s W' R' o ⟨_,a2,j.set n i⟩)
end
end Go.Proofs.YtlfibegniofmjaaGreat
namespace Go.Proofs.YtlfibegniofmjaaGreat
open Go.RowKit
def mq (dd:Bool) (P:Program) (f:FuncId) (args:List Value) (w:World) (μ0:mc) (L0:LO) (K:Value→LO→mc→Prop):Prop :=
 Calls P f args.toArray w λe a=>∃v L1 μ1,e= .returned v∧wm dd L0 L1 w a∧lm μ0 μ1∧Lo (keys L0) w μ0 μ1∧lm μ1 (wN a L1)∧K v L1 μ1
theorem mq.mF {dd:Bool} {P:Program} {f:FuncId} {args:List Value} {w:World} {μ0:mc} {L0:LO} {K:Value→LO→mc→Prop} (h:mq true P f args w μ0 L0 K):mq dd P f args w μ0 L0 K :=
 cZ h λ_ _ ⟨v,L1,μ1,h1,a,c⟩=>⟨v,L1,μ1,h1,a.mF,c⟩
section
variable {dd:Bool} {F:Nat→Prop} {w W W':World} {μ μ1:mc} {L L0 L1 L2:LO}
theorem ST.Yl (h:ST dd F w W μ (L0++L)) (g:wm dd L0 L1 W W') (i:Lo (keys L0) W μ μ1) (d:lm μ1 (wN W' L1)):ST dd F w W' μ1 (L1++L):=by
 have h1:=h.back g
 refine ⟨h1.os,h1.tape,h1.output,h1.drawn,h1.size,h1.oh,λb o hm=>?_,λb o a=>?_,h1.nd⟩
 ·have:=d b o hm
  unfold wN at this
  split at this
  ·cases this
  ·exact this
 ·obtain ⟨q1,q2,q3⟩:=h1.box b o a
  refine ⟨q1,?_,q3⟩
  rcases aX.1 a with a | a
  ·cases hm:μ1 b with
   | none=>rfl
   | some x=>
    have:=d b x hm
    unfold wN at this
    rw [aP ⟨o,a⟩] at this
    cases this
  ·have c:=h.box b o (dI _ a)
   rw [i b (rq c.1) (KM h.nd a)]
   exact c.2.1
variable {P:Program} {E:mD} {d:Option Nat} {ty:TypeId} {pos:String} {af:Array Edge} {g:tC}
theorem MB {K:Value→World→Prop} {K':Value→LO→mc→Prop} {f:FuncId} {fv:Operand} {ax:Array Operand} {ats:Array TypeId} {caps:Array Value} {args:List Value} (L0 L2:LO) (a:ST dd F w W μ L) (c:L.Perm (L0++L2)) (y:lf E fv= .func (.func f) #[] caps) (he:∀args w,(callFunc f args).run P w= .ok (.enter f args) w) (ha:ax.map (lf E)++(#[]:Array Value)=args.toArray) (x:IR L0 W→(L0.map (·.1)).Nodup→lm μ (wN W L0)→(∀b o,(b,o)∈L2→wN W L0 b=some o)→mq dd P f (args++caps.toList) W μ L0 K') (h:∀W' v μ' L1,ST dd F w W' μ' (L1++L2)→lm μ μ'→Lo F w μ μ'→K' v L1 μ'→K v W'):pq P E ⟨d,.call ⟨.value fv,ax,ats⟩,ty,pos,af,g⟩ W K:=by
 have i:ax.map (lf E)=args.toArray:=by simpa using ha
 refine KL (args:=(args++caps.toList).toArray) y he (by rw [i]; simp) (cZ (x (a.held c) (a.Xo c) (a.XZ c) (a.OD c)) (λ_ W' ⟨v,L1,μ1,h1,k,n,j,p,s⟩=>⟨v,h1,h W' v μ1 L1 ((a.perm c).Yl k j p) n (λb u t=>j b (eu u a.size) (λ⟨o,z⟩=>by
  rcases ((a.perm c).box b o (cN _ z)).2.2 with q | q
  ·omega
  ·exact t q)) s⟩))
end
section
variable {P:Program} {E:mD} {W:World} {d:Option Nat} {ty:TypeId} {pos:String} {af:Array Edge} {g:tC}
 {dd:Bool} {F:Nat→Prop} {w:World} {μ:mc} {L:LO}
theorem LS {t e:TypeId} {C:Array Value} {b n c:Nat} (g:P.underlying t=some (.slice e)) (he:P.underlying e=some (.int .u8)) (d:W.heap[b]? =some (.cells C e (0,0))) :
  (convert t t (.slice (some ⟨b,0,none⟩) n c)).run P W= .ok (.slice (some ⟨b,0,none⟩) n c) (W.freeze ⟨b,C.size,none⟩ 1):=by
 have a:W.shape? b=some (e,C.size):=by
  unfold World.shape?
  rw [d]
 simp [convert,bA g,bA he,markStringish,a]
theorem P9 {K:Value→World→Prop} {t e:TypeId} {x:Operand} {b m:Nat} {cs:Array Value} {l:List Int} (a:ST dd F w W μ ((b,.cells cs e (0,0))::L)) (v:P.underlying t=some (.slice e)) (he:P.underlying e=some (.int .u8)) (p:lf E x= .slice (some ⟨b,0,none⟩) m m) (s:cs.toList=(l.map (lu .u8)).flatten) (hm:l.length=m) (q:m≤maxLen) (h:∀W' μ',ST dd F w W' μ' L→lm μ μ'→Lo F w μ μ'→Sl (Pl (lu .u8)) 1 μ' (.slice (some ⟨b,0,none⟩) m m) l→K (.slice (some ⟨b,0,none⟩) m m) W'):pq P E ⟨d,.convert t t x,ty,pos,af,g⟩ W K:=by
 subst hm
 have n:=(a.box b _ (by simp:(b,Obj.cells cs e (0,0))∈(b,Obj.cells cs e (0,0))::L)).1
 have u:=rq n
 have c:(W.freeze ⟨b,cs.size,none⟩ 1).heap[b]? =some (.cells cs e (cs.size,cs.size+1)):=by
  unfold World.freeze
  rw [aN fs]
  simp only [dP,aJ]
  rw [n]
  rfl
 have h1:ST dd F w (W.freeze ⟨b,cs.size,none⟩ 1) μ ([]++(b,.cells cs e (cs.size,cs.size+1))::L):=by
  refine ST.put (A:=[]) (o:=.cells cs e (0,0)) a ⟨?_,?_,?_,?_,?_⟩ (λk hk=>?_) c
  all_goals (unfold World.freeze; rw [aN fs])
  ·exact aZ _
  ·simp
  ·simp only [dP]
   rw [aN λe=>hk e.symm]
 refine .inl ⟨_,_,?_,h _ _ (ST.KU (A:=[]) h1) (ST.KH (A:=[]) h1) (ST.RL (A:=[]) h1) ?_⟩
 ·show (do pure (.value (←convert t t (lf E x))):Sem Next).run P W=_
  rw [p]
  simp only [cK,LS v he n,bQ,dC]
 ·refine ⟨_,_,Z,aZ _,q,λ_=>⟨b,0,cs,e,_,Z,aP Z,λi x p=>⟨_,Z,Z,λj y z=>?_⟩⟩⟩
  have:=AK (enc:=lu .u8) (k:=1) (λ_=>rfl) l i x p j y z
  rw [←s] at this
  simpa using this
def GY {α:Type} (a:Nat) (z:α) (n:Int):Option (List α):=if 0≤n∧(a:Int)*n≤140737488355328∧n≤(maxLen:Int) then some (List.replicate n.toNat z) else none
theorem OB {α:Type} {enc:α→List Value} {k:Nat} (hk:∀x,(enc x).length=k) (a:0 < k) (z:α) (n:Nat):(madeCells (enc z).toArray (n*k)).toList=((List.replicate n z).map enc).flatten:=by
 apply List.ext_getElem
 ·rw [uD hk,dS,size_madeCells]; simp
 ·intro i h1 h
  rw [dS,size_madeCells] at h1
  have j:i / k < n:=by rw [iA a]; exact h1
  have d:i % k < (enc z).length:=by rw [hk]; exact Nat.mod_lt _ a
  have c:=AK hk (List.replicate n z) (i / k) z (by rw [List.getElem?_replicate,aP j]) (i % k) _ (dD d)
  rw [show i / k*k+i % k=i by rw [kh]; exact Nat.div_add_mod i k] at c
  rw [dD h] at c
  have g:=Option.some.inj c
  rw [g]
  simp only [madeCells,Array.getElem_toList,Array.getElem_map,Array.getElem_range,dY,hk]
  rw [getElem!_pos _ _ (by simpa using d)]
  simp
theorem Lm {K:Value→World→Prop} {α:Type} {e t:TypeId} {enc:α→List Value} {k a:Nat} {c:Value} {n:Int} {o:IntKind} {z:α} {r:List α} {x y:Operand} {i:TypeInfo} (p:ST dd F w W μ L) (hk:∀x,(enc x).length=k) (u:0 < k) (Q:P.underlying t=some (.slice e)) (hi:P.info? e=some i) (U:i.zero=some c) (v:i.size=k) (s:i.bytes=a) (M:c.cells=(enc z).toArray) (R:lf E x= .int o n) (T:lf E y= .int o n) (j:GY a z n=some r) (h:∀W' A R',ST dd F w W' μ (R'++L)→lQ e enc k A r R'→K A W'):pq P E ⟨d,.makeSlice t x y,ty,pos,af,g⟩ W K:=by
 unfold GY at j
 split at j
 case isFalse=>cases j
 rename_i q
 cases j
 obtain ⟨G,h1,I⟩:=q
 subst v; subst s
 have J:n.toNat≤maxLen:=by omega
 have O:=run_make (P:=P) W t e i c Q hi U o o n n G (jz _) eR (by simp only [maxLen] at I; omega)
 refine .inl ⟨.slice (some ⟨W.heap.size,0,none⟩) n.toNat n.toNat,W.alloc (.cells (madeCells c.cells (n.toNat*i.size)) e),?_,h _ _ [(W.heap.size,.cells (madeCells c.cells (n.toNat*i.size)) e)] (p.alloc _) ?_⟩
 ·show (do pure (.value (←Instr.makeSlice t (lf E x) (lf E y))):Sem Next).run P W=_
  rw [R,T]
  simp only [cK,O,bQ,dC]
 ·exact lQ.lit (by rw [List.length_replicate]) J (by rw [M]; exact OB hk u z _) (by rw [size_madeCells])
end
section
variable {P:Program} {E:mD} {W:World} {d:Option Nat} {ty:TypeId} {pos:String} {af:Array Edge} {g:tC}
theorem RY {op:BinOp} {tx tv:TypeId} {x y:Operand} {k:IntKind} {a b:Int} {v:Value} (i:lf E x= .int k a) (j:lf E y= .int k b) (h:(match op with | .and=>some (BitVec.ofInt k.bits a &&& BitVec.ofInt k.bits b) | .or=>some (BitVec.ofInt k.bits a ||| BitVec.ofInt k.bits b) | .xor=>some (BitVec.ofInt k.bits a ^^^ BitVec.ofInt k.bits b) | _=>none).map (λ(c:BitVec k.bits)=>Value.int k (k.wrap c.toNat))=some v) :
  nf P E ⟨d,.binOp op tx x y tv,ty,pos,af,g⟩ W v W:=by
 show (do let r ←(do eqGuard op tx x y (lf E x) (lf E y); binOp op tx (lf E x) (lf E y)); pure (.value r):Sem Next).run P W=_
 rw [i,j]
 cases op <;> simp at h <;> subst h <;> simp [eqGuard,binOp,Op.intBits]
theorem abn {tx tv:TypeId} {x y:Operand} {k k':IntKind} {a b:Int} (c:lf E x= .int k a) (h:lf E y= .int k' b) (i:0≤b) :
  nf P E ⟨d,.binOp .shl tx x y tv,ty,pos,af,g⟩ W (.int k (k.wrap (a*2 ^ min b.toNat k.bits))) W:=by
 show (do let r ←(do eqGuard .shl tx x y (lf E x) (lf E y); binOp .shl tx (lf E x) (lf E y)); pure (.value r):Sem Next).run P W=_
 rw [c,h]
 simp [eqGuard,binOp,Op.shift,show ¬b < 0 by omega]
end
theorem vg.CN {κ γ:Type} {kenc:κ→Value} {Q:Value→γ→LO→Prop} {μ:mc} {v:Value} {l:List (κ×γ)} (h:vg kenc Q μ v l):v.oneCell'=true:=by
 obtain ⟨a,R,h,_⟩:=h
 obtain ⟨m,rfl⟩:=h.form
 rfl
theorem zT.CN {κ β:Type} {kenc:κ→Value} {vf:β→Value} {μ:mc} {v:Value} {l:List (κ×β)} (h:zT kenc vf μ v l):v.oneCell'=true:=by
 obtain ⟨m,rfl⟩:=h.form
 rfl
section
variable {β:Type} {Rl:sV β} {k:Nat} {μ μ':mc} {v:Value} {x:Option β}
def we (Rl:sV β) (μ:mc) (v:Value) (x:Option β):Prop:=(v= .pointer none∧x=none)∨∃y ys,x=some y∧At μ v ys∧Rl μ ys y
theorem we.nil:we Rl μ (.pointer none) none:=.inl ⟨Z,Z⟩
theorem we.some {y:β} {ys:List Value} (h:At μ v ys) (a:Rl μ ys y):we Rl μ v (some y):=.inr ⟨y,ys,Z,h,a⟩
theorem we.mono (g:Deep Rl k) (h:we Rl μ v x) (a:lm μ μ'):we Rl μ' v x:=by
 rcases h with h | ⟨y,ys,h1,c,d⟩
 ·exact .inl h
 ·exact .inr ⟨y,ys,h1,c.mono a,g.mono _ _ _ _ a d⟩
theorem we.CN (h:we Rl μ v x):v.oneCell'=true:=by
 rcases h with ⟨rfl,_⟩ | ⟨y,ys,_,⟨b,off,cs,T,fr,rfl,_⟩,_⟩ <;> rfl
variable {P:Program} {E:mD} {W:World} {d:Option Nat} {ty:TypeId} {pos:String} {af:Array Edge} {g:tC}
theorem MR {tx tv e:TypeId} {a b:Operand} (c:P.underlying tx=some (.pointer e)) (h:we Rl μ v x) (i:lf E a=v) (j:lf E b= .pointer none) :
  nf P E ⟨d,.binOp .eql tx a b tv,ty,pos,af,g⟩ W (.bool x.isNone) W:=by
 rcases h with ⟨rfl,rfl⟩ | ⟨y,ys,rfl,⟨k,off,cs,T,fr,rfl,_⟩,_⟩
 ·exact uc (a:=none) c i j
 ·exact uc (a:=Option.some _) c i j
theorem Pw {a:Operand} {y:β} {A:List Value→Prop} (k:∀{ys},Rl μ ys y→A ys) (h:we Rl μ v x) (i:x=Option.some y) (n:lf E a=v) :
  ∃p,(∃ys,A ys∧At μ p ys)∧∀W,nf P E ⟨d,.nilCheck a,ty,pos,af,g⟩ W p W:=by
 rcases h with ⟨_,rfl⟩ | ⟨z,ys,rfl,c,j⟩
 ·cases i
 ·cases i
  refine ⟨v,⟨ys,k j,c⟩,λW=>?_⟩
  obtain ⟨o,off,cs,T,fr,rfl,_⟩:=c
  exact mK n
end
end Go.Proofs.YtlfibegniofmjaaGreat
