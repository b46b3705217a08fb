/- a part of a proof of ModelLeast -/
import Derived.Test.YtfjdjbdnnoijgaaRtGx2
import Derived.Lib.BytesEntry
import Derived.Lib.Bytealg
import Derived.Laws.Externs
set_option linter.all false
namespace Go.Proofs.Ytfjdjbdnnoijgaa
open Go.RowKit
variable {dd : Bool}
section
variable {P : Program} {E : Nat → Value} {W : World} {d : Option Nat} {ty : TypeId} {pos : String} {af : Array Edge} {g : Option (Nat × Bool)}
  {F : Nat → Prop} {w : World} {μ : Mem} {L : List (Nat × Obj)}
theorem E_ext {K : Value → World → Prop} {f : FuncId} {fv : Operand} {as : Array Operand} {ats : Array TypeId} {args : List Value} {v : Value}
    (hf : evE E fv = .func (.func f) #[] #[]) (ha : as.map (evE E) ++ (#[] : Array Value) = args.toArray) (hr : (callFunc f args.toArray).run P W = .ok (.value v) W) (h : K v W) : Eff P E ⟨d, .call ⟨.value fv, as, ats⟩, ty, pos, af, g⟩ W K := by
  have ha' : as.map (evE E) = args.toArray := by simpa using ha
  refine .inl ⟨v, W, ?_, h⟩
  show (do let d ← resolve (evE E) ⟨.value fv, as, ats⟩ ty; invoke d.target d.args : Sem Next).run P W = _
  simp only [resolve, hf, Deferred.ofValue, Sem.run_bind, Sem.run_pure, Result.andThen_ok, invoke]
  rw [ha']
  simpa using hr
def xIndexByte (s : ByteArray) (c : Int) : Int := Lib.indexByte s.data.toList c.toNat.toUInt8
def xCompareS (a b : ByteArray) : Int := Lib.compareBytes a.data.toList b.data.toList
def u8s (l : List Int) : List UInt8 := l.map fun x => x.toNat.toUInt8
theorem run_indexByteS {f : FuncId} {fn : Func} (hf : P.funcs[f]? = some fn) (hname : (fn.name == "runtime.NumGoroutine") = false) (hb : fn.body.isNone = true) (hn : Extern.findNext fn = none) (he : Extern.find fn = some Extern.BytealgIndexByte.indexByte) (s : ByteArray) (c : Int) (w : World) :
    (callFunc f [Value.string s, .int .u8 c].toArray).run P w = .ok (.value (.int .i64 (xIndexByte s c))) w := by
  rw [run_callFunc_extern hf hname hb hn he]
  rw [Lib.run_indexByteString]
  rfl
theorem run_cmpS {f : FuncId} {fn : Func} (hf : P.funcs[f]? = some fn) (hname : (fn.name == "runtime.NumGoroutine") = false) (hb : fn.body.isNone = true) (hn : Extern.findNext fn = none) (he : Extern.find fn = some Extern.BytealgCompare.compare) (a b : ByteArray) (w : World) :
    (callFunc f [Value.string a, .string b].toArray).run P w = .ok (.value (.int .i64 (xCompareS a b))) w := by
  rw [run_callFunc_extern hf hname hb hn he]
  rw [Lib.run_compareString]
  rfl
theorem R_makeFuncC {fn : Fn} {caps : Array Operand} {cs : List Value} {v : Value} (hc : caps.map (evE E) ++ (#[] : Array Value) = cs.toArray) (hv : .func fn #[] cs.toArray = v) : Runs P E ⟨d, .makeFunc fn #[] caps, ty, pos, af, g⟩ W v W := by
  have : caps.map (evE E) = cs.toArray := by simpa using hc
  exact R_makeFunc (by rw [this]; simpa using hv)
theorem GivesM.mono {f : FuncId} {args : List Value} {L0 : List (Nat × Obj)} {K K' : Value → List (Nat × Obj) → World → Prop} (h : GivesM dd P f args w L0 K) (hk : ∀ v L1 W', K v L1 W' → K' v L1 W') : GivesM dd P f args w L0 K' :=
  Calls.mono h (fun _ _ ⟨v, L1, h1, h2, h3⟩ => ⟨v, L1, h1, h2, hk _ _ _ h3⟩)
end
section
variable {α : Type}
def lessO (cf : α × α → Option Int) (x y : α) : Bool := match cf (x, y) with
  | some c => decide (c < 0)
  | none => false
structure SortOk (cf : α × α → Option Int) (l : List α) : Prop where
  is : ∀ x ∈ l, ∀ y ∈ l, ∃ c, cf (x, y) = some c
  irrefl : ∀ x ∈ l, lessO cf x x = false
  trans : ∀ x ∈ l, ∀ y ∈ l, ∀ z ∈ l, lessO cf x y = true → lessO cf y z = true → lessO cf x z = true
  total : ∀ x ∈ l, ∀ y ∈ l, lessO cf x y = false → lessO cf y x = false → x = y
  short : l.length < 4611686018427387904
def sorted (cf : α × α → Option Int) (l : List α) : List α := l.mergeSort fun x y => !lessO cf y x
open Classical in
noncomputable def sortF (cf : α × α → Option Int) (l : List α) : Option (List α) := if SortOk cf l then some (sorted cf l) else none
theorem sortF_some {cf : α × α → Option Int} {l r : List α} (h : sortF cf l = some r) : SortOk cf l ∧ r = sorted cf l := by
  unfold sortF at h
  split at h
  · rename_i hs; cases h; exact ⟨hs, rfl⟩
  · cases h
theorem sortF_of {cf : α × α → Option Int} {l : List α} (h : SortOk cf l) : sortF cf l = some (sorted cf l) := by
  unfold sortF; rw [if_pos h]
def sortedS (l : List ByteArray) : List ByteArray := l.mergeSort fun x y => !ltS y x
def sortS (l : List ByteArray) : Option (List ByteArray) := if l.length < 4611686018427387904 then some (sortedS l) else none
end
def chunks {α : Type} (C : List (List α)) (is : List Nat) (tail : List α) : List α := is.foldr (fun i r => C.getD i [] ++ r) tail
theorem permC {α : Type} (C : List (List α)) (is js : List Nat) (tail : List α) (h : is.Perm js) : (chunks C is tail).Perm (chunks C js tail) := by
  induction h with
  | nil => exact .refl _
  | cons x _ ih => exact List.Perm.append_left _ ih
  | swap x y l => exact List.perm_append_comm_assoc _ _ _
  | trans _ _ h1 h2 => exact h1.trans h2
theorem permD {α : Type} (C : List (List α)) (is js : List Nat) (tail : List α) (h : is.Perm js) {s d : List α} (hs : chunks C is tail = s) (hd : chunks C js tail = d) : s.Perm d := by
  subst hs hd; exact permC C is js tail h
end Go.Proofs.Ytfjdjbdnnoijgaa
