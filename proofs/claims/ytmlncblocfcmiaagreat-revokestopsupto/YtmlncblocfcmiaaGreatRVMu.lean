/- a part of a proof of RevokeStops -/
import Derived.Test.YtmlncblocfcmiaaGreatRtQu
import Derived.Laws.IdiomStrings
import Derived.Laws.MakeOwn
import Derived.Shelf.SlSortCmp.NoneTotal
import Derived.Shelf.SortM.Plain
import Derived.Shelf.SortM.SortNone
import Derived.Shelf.SlIter.Sorted
import Derived.Shelf.SlIter.Nil
import Derived.Test.YtmlncblocfcmiaaGreatProg
import Derived.KernelRfl
set_option linter.all false
namespace Go.Proofs.YtmlncblocfcmiaaGreat
open Go.RowKit
section
variable {x y : Nat × Obj} {A B C L R S : List (Nat × Obj)}
theorem Pz : (x :: A).Perm (x :: A) := .refl _
theorem Pb (h : A.Perm (x :: B)) : (y :: A).Perm (x :: y :: B) := (h.cons y).trans (.swap ..)
theorem Pr (h : A.Perm (x :: B)) : (S ++ A).Perm (x :: (S ++ B)) := (h.append_left S).trans List.perm_middle
theorem Qz : (R ++ A).Perm (R ++ A) := .refl _
theorem Qb (h : A.Perm (R ++ B)) : (y :: A).Perm (R ++ (y :: B)) := (h.cons y).trans List.perm_middle.symm
theorem Qr (h : A.Perm (R ++ B)) : (S ++ A).Perm (R ++ (S ++ B)) := (h.append_left S).trans (List.perm_append_comm_assoc S R B)
def Sel (L L' : List (Nat × Obj)) : Prop := ∃ M, L.Perm (L' ++ M)
theorem Sn : Sel L [] := ⟨L, .refl _⟩
theorem St : Sel L L := ⟨[], by rw [List.append_nil]⟩
theorem Sb (h : L.Perm (x :: A)) (k : Sel A B) : Sel L (x :: B) := let ⟨M, m⟩ := k; ⟨M, h.trans (m.cons x)⟩
theorem Sr (h : L.Perm (R ++ A)) (k : Sel A B) : Sel L (R ++ B) := let ⟨M, m⟩ := k; ⟨M, by rw [List.append_assoc]; exact h.trans (m.append_left R)⟩
theorem Kb (k : Sel A B) : Sel (x :: A) (x :: B) := Sb Pz k
theorem Kr (k : Sel A B) : Sel (R ++ A) (R ++ B) := Sr Qz k
theorem Db (k : Sel A B) : Sel (x :: A) B := let ⟨M, m⟩ := k; ⟨x :: M, (m.cons x).trans List.perm_middle.symm⟩
theorem Dr (k : Sel A B) : Sel (R ++ A) B := let ⟨M, m⟩ := k; ⟨R ++ M, (m.append_left R).trans (List.perm_append_comm_assoc R B M)⟩
theorem Sel.mem (s : Sel L A) : ∀ p, p ∈ A → p ∈ L := fun p hp => let ⟨M, m⟩ := s; m.mem_iff.2 (List.mem_append_left _ hp)
theorem ST.sel {dd : Bool} {F : Nat → Prop} {w W : World} {μ : Mem} (h : ST dd F w W μ L) (s : Sel L A) : ST dd F w W μ A := let ⟨M, m⟩ := s; (h.perm m).sublist (List.sublist_append_left A M)
theorem Has.sel {μ : Mem} {W : World} (h : Has μ L W) (s : Sel L A) : Has μ A W := h.sub (Sub.refl _) s.mem
theorem Has.selS {μ μ' : Mem} {W : World} (h : Has μ L W) (hs : Sub μ' μ) (s : Sel L A) : Has μ' A W := h.sub hs s.mem
theorem Cn : L.Perm ([] ++ L) := .refl _
theorem Cb (h : L.Perm (x :: A)) (k : A.Perm (B ++ C)) : L.Perm ((x :: B) ++ C) := h.trans (k.cons x)
theorem Cr (h : L.Perm (R ++ A)) (k : A.Perm (B ++ C)) : L.Perm ((R ++ B) ++ C) := by rw [List.append_assoc]; exact h.trans (k.append_left R)
theorem C0 (k : L.Perm (B ++ C)) : L.Perm (([] ++ B) ++ C) := k
theorem Tn : ([] ++ A).Perm A := .refl _
theorem Tb (h : (A ++ B).Perm C) : ((x :: A) ++ B).Perm (x :: C) := h.cons x
theorem Tr (h : (A ++ B).Perm C) : ((R ++ A) ++ B).Perm (R ++ C) := by rw [List.append_assoc]; exact h.append_left R
theorem Nb (h : L.Perm (x :: A)) (k : A.Perm B) : L.Perm (x :: B) := h.trans (k.cons x)
theorem Nr (h : L.Perm (R ++ A)) (k : A.Perm B) : L.Perm (R ++ B) := h.trans (k.append_left R)
theorem Nz : L.Perm L := .refl _
theorem Opn {R' R1 : List (Nat × Obj)} (hp : R.Perm (R' ++ R1)) : (R ++ A).Perm (R' ++ (R1 ++ A)) := by rw [← List.append_assoc]; exact hp.append_right A
theorem Mh : x ∈ x :: A := .head _
theorem Mt (h : x ∈ A) : x ∈ y :: A := .tail _ h
theorem Ma (h : x ∈ A) : x ∈ R ++ A := List.mem_append_right _ h
theorem Ml (h : x ∈ R) : x ∈ R ++ A := List.mem_append_left _ h
end
section
variable {dd : Bool} {F : Nat → Prop} {w W : World} {μ : Mem} {L L0 L1 Y R : List (Nat × Obj)}
theorem ST.bkL (h : ST dd NoF w W μ L) (s : Sel L L1) : Back dd [] L1 w W := let ⟨_, m⟩ := s; (h.perm m).backL
theorem ST.bkM (h : ST dd (keys L0) w W μ L) (s : Sel L L1) : Back dd L0 L1 w W := let ⟨_, m⟩ := s; (h.perm m).backM
theorem ST.pubAll : ∀ {R : List (Nat × Obj)} {μ : Mem}, ST dd F w W μ (R ++ Y) → ∃ μ', ST dd F w W μ' Y ∧ Sub μ μ' ∧ Lo F w μ μ' ∧ ∀ b o, (b, o) ∈ R → μ' b = some o
  | [], μ, h => ⟨μ, h, Sub.refl _, Lo.refl, fun _ _ h => by cases h⟩
  | (g, o) :: R, μ, h => by
    have h' : ST dd F w W μ ([] ++ (g, o) :: (R ++ Y)) := h
    obtain ⟨μ', a1, a2, a3, a4⟩ := ST.pubAll (R := R) (ST.publish (A := []) h')
    refine ⟨μ', a1, (ST.pub_sub (A := []) h').trans a2, (ST.lo_pub (A := []) h').trans a3, fun b o' hb => ?_⟩
    rcases List.mem_cons.1 hb with hb | hb
    · cases hb; exact a2 _ _ (if_pos rfl)
    · exact a4 b o' hb
theorem ST.pub1 {α : Type} {e' : TypeId} {enc : α → List Value} {k : Nat} {v : Value} {l : List α} (hST : ST dd F w W μ (R ++ Y)) (h : Row e' enc k v l R) (hk : ∀ x, (enc x).length = k) : ∃ μ', ST dd F w W μ' Y ∧ Sub μ μ' ∧ Lo F w μ μ' ∧ Sl (Pl enc) k μ' v l := by
  obtain ⟨μ', a1, a2, a3, a4⟩ := ST.pubAll hST
  exact ⟨μ', a1, a2, a3, h.sl hk a4⟩
section
variable {P : Program} {n : Nat} {Q : Post} {E : Nat → Value} {V : World} {id : Nat} {l : List Oper} {A B C : List (Nat × Obj)}
theorem PX_start1 (h0 : Has μ A V.drew) (hm : P.follows .mixedOrders = true) (h : PX P n l.toArray Q (fun _ W => Has μ A W) l.length (Array.replicate l.length false) E V.drew) : CW P n (.region id l.toArray true) Q E V := PX_start _ hm h
theorem PX_start2 (i : Nat) (h0 : Has μ A V.drew) (h1 : Has μ B V.drew) (hm : P.follows .mixedOrders = true) (h : PX P n l.toArray Q (fun l W => Has μ A W ∧ (l.getD i true = false → Has μ B W)) l.length (Array.replicate l.length false) E V.drew) : CW P n (.region id l.toArray true) Q E V := PX_start _ hm h
end
structure Ent (μ : Mem) (L0 : List (Nat × Obj)) (w : World) : Prop where
  H : Held L0 w
  N : (L0.map (·.1)).Nodup
  S : Sub μ (hpx w L0)
theorem ST.startE (h : Ent μ L0 w) : ST dd (keys L0) w w μ L0 := (ST.startM h.H h.N).weak h.S
end
section
variable {dd : Bool} {P : Program} {E : Nat → Value} {W : World} {d : Option Nat} {ty : TypeId} {pos : String} {af : Array Edge} {g : Option (Nat × Bool)} {F : Nat → Prop} {w : World} {μ : Mem} {L : List (Nat × Obj)}
theorem F_store {K : Value → World → Prop} {B : List (Nat × Obj)} {t : TypeId} {x y : Operand} (v : Value) {b off : Nat} {cs : Array Value} {T : TypeId} (cs' : Array Value) (hST : ST dd F w W μ ((b, .cells cs T (0, 0)) :: B))
    (hx : evE E x = .pointer (some ⟨b, off, none⟩)) (hy : evE E y = v) (hS : ∀ w, (sizeOf t).run P w = .ok v.cells.size w)
    (h1 : ∀ u ∈ v.cells.toList, u.oneCell' = true) (hl : off + v.cells.size ≤ cs.size) (hc : (cs.toList.take off ++ v.cells.toList ++ cs.toList.drop (off + v.cells.size)).toArray = cs')
    (h : ∀ W', ST dd F w W' μ ((b, .cells cs' T (0, 0)) :: B) → K undef W') : Eff P E ⟨d, .store t x y, ty, pos, af, g⟩ W K := E_store [] v cs' hST hx hy hS h1 hl hc h
end
section
variable {dd : Bool}
variable {P : Program} {n : Nat} {Q : Post} {E : Nat → Value} {W : World} {ops : Array Oper} {rest : List Oper}
  {d : Option Nat} {ty : TypeId} {pos : String} {af : Array Edge} {g : Option (Nat × Bool)}
  {F : Nat → Prop} {w : World} {μ : Mem} {L : List (Nat × Obj)}
theorem F_append {K : Value → World → Prop} {α : Type} {e t : TypeId} {enc : α → List Value} {k by_ : Nat} {z v vs : Value} {l m r : List α} {R : List (Nat × Obj)} {Y : List (Nat × Obj)} {x y : Operand} {i : TypeInfo} (hST : ST dd F w W μ (R ++ Y)) (hk : ∀ x, (enc x).length = k) (hk0 : 0 < k) (h1 : ∀ x, ∀ u ∈ enc x, u.oneCell' = true) (ht : P.underlying t = some (.slice e)) (hi : P.info? e = some i) (hz : i.zero = some z) (hzs : z.cells.size = k) (hsz : i.size = k) (hby : i.bytes = by_) (hx : evE E x = v) (hy : evE E y = vs) (hR : Row e enc k v l R) (hs : Sl (Pl enc) k (hp W) vs m) (hb : appB by_ l m = some r) (h : ∀ W' v' R', ST dd F w W' μ (R' ++ Y) → Row e enc k v' r R' → K v' W') : Eff P E ⟨d, .call ⟨.builtin .append, #[x, y], #[t, t]⟩, ty, pos, af, g⟩ W K :=
  E_append [] hST hk hk0 h1 ht hi hz hzs hsz hby hx hy hR hs hb h
end
section
variable {dd : Bool}
variable {P : Program} {E : Nat → Value} {W : World} {d : Option Nat} {ty : TypeId} {pos : String} {af : Array Edge} {g : Option (Nat × Bool)}
  {F : Nat → Prop} {w : World} {μ : Mem} {L : List (Nat × Obj)}
theorem F_givesRow {K : Value → World → Prop} {α : Type} {e : TypeId} {enc : α → List Value} {k : Nat} {l : List α} {f : FuncId} {fv : Operand} {ax : Array Operand} {ats : Array TypeId} {caps : Array Value} {args : List Value} (Y : List (Nat × Obj)) (hST : ST dd F w W μ Y) (hf : evE E fv = .func (.func f) #[] caps) (he : ∀ args w, (callFunc f args).run P w = .ok (.enter f args) w) (ha : ax.map (evE E) ++ caps = args.toArray) (hc : GivesRow dd P f args W e enc k l) (h : ∀ W' v μ' R, ST dd F w W' μ' (R ++ Y) → Sub μ μ' → Lo F w μ μ' → Row e enc k v l R → K v W') : Eff P E ⟨d, .call ⟨.value fv, ax, ats⟩, ty, pos, af, g⟩ W K :=
  E_givesRow [] Y hST hf he ha hc h
end
section
variable {dd : Bool}
variable {P : Program} {E : Nat → Value} {W : World} {d : Option Nat} {ty : TypeId} {pos : String} {af : Array Edge} {g : Option (Nat × Bool)}
  {F : Nat → Prop} {w : World} {μ : Mem} {L : List (Nat × Obj)} {α : Type} {e' : TypeId} {enc : α → List Value} {k : Nat} {v : Value} {l : List α} {R : List (Nat × Obj)}
theorem F_storeRow {K : Value → World → Prop} {Y : List (Nat × Obj)} {t : TypeId} {x y : Operand} {p u : Value} {i : Nat} {x0 x1 : α} (hST : ST dd F w W μ (R ++ Y)) (h : Row e' enc k v l R) (hk : ∀ x, (enc x).length = k) (h1 : ∀ x, ∀ u ∈ enc x, u.oneCell' = true) (hx : evE E x = p) (hy : evE E y = u) (hu : u.cells = (enc x1).toArray) (hp : IxR R k p i) (hl : l[i]? = some x0) (hS : ∀ w, (sizeOf t).run P w = .ok k w) (hK : ∀ W' R', ST dd F w W' μ (R' ++ Y) → Row e' enc k v (l.set i x1) R' → K undef W') : Eff P E ⟨d, .store t x y, ty, pos, af, g⟩ W K :=
  E_storeRow [] hST h hk h1 hx hy hu hp hl hS hK
end
section
variable {dd : Bool}
variable {P : Program} {W : World} {κ : Type} {kt : TypeId} {kenc : κ → Value} {beq : κ → κ → Bool}
variable {β : Type} {vf : β → Value} {E : Nat → Value} {d : Option Nat} {ty : TypeId} {pos : String} {af : Array Edge} {g : Option (Nat × Bool)} {F : Nat → Prop} {w : World} {μ : Mem} {L : List (Nat × Obj)}
theorem F_mapUpdate {Kk : Value → World → Prop} {Y R : List (Nat × Obj)} {t e : TypeId} {m x y : Operand} {mv : Value} {l : List (κ × β)} {k : κ} {v : β} (K : KeyLaw P kt kenc beq) (ht : P.underlying t = some (.map kt e)) (hST : ST dd F w W μ (R ++ Y)) (h : MapRow kenc vf mv l R) (hm : evE E m = mv) (hx : evE E x = kenc k) (hy : evE E y = vf v) (hK : ∀ W' R', ST dd F w W' μ (R' ++ Y) → MapRow kenc vf mv (mput beq l k v) R' → Kk undef W') : Eff P E ⟨d, .mapUpdate t m x y, ty, pos, af, g⟩ W Kk :=
  E_mapUpdate [] K ht hST h hm hx hy hK
end
section
variable {dd : Bool}
variable {P : Program} {E : Nat → Value} {W : World} {d : Option Nat} {ty : TypeId} {pos : String} {af : Array Edge} {g : Option (Nat × Bool)}
  {F : Nat → Prop} {w : World} {μ : Mem} {L : List (Nat × Obj)} {α : Type} {e' : TypeId} {enc : α → List Value} {k : Nat} {v : Value} {l : List α} {R : List (Nat × Obj)}
theorem F_clearTail {K : Value → World → Prop} (z : α) {Y : List (Nat × Obj)} {t e : TypeId} {x : Operand} {u zv : Value} {i : Nat} (hST : ST dd F w W μ (R ++ Y)) (h : Row e' enc k v l R) (hk : ∀ x, (enc x).length = k) (h1 : ∀ x, ∀ u ∈ enc x, u.oneCell' = true) (ht : P.underlying t = some (.slice e)) (hz : ∀ w, (zeroValue e).run P w = .ok zv w) (hu : TailV k v i u) (hc : zv.cells = (enc z).toArray) (hx : evE E x = u) (hK : ∀ W' R', ST dd F w W' μ (R' ++ Y) → Row e' enc k v (clearT l i z) R' → K (.tuple #[]) W') : Eff P E ⟨d, .call ⟨.builtin .clear, #[x], #[t]⟩, ty, pos, af, g⟩ W K :=
  E_clearTail z [] hST h hk h1 ht hz hu hc hx hK
end
section
variable {dd : Bool}
variable {κ γ : Type} {Q : Value → γ → List (Nat × Obj) → Prop} {beq : κ → κ → Bool} {kenc : κ → Value}
variable {P : Program} {W : World} {kt : TypeId} {E : Nat → Value} {d : Option Nat} {ty : TypeId} {pos : String} {af : Array Edge} {g : Option (Nat × Bool)} {F : Nat → Prop} {w : World} {μ : Mem} {L : List (Nat × Obj)}
variable {κ2 β : Type} {kenc2 : κ2 → Value} {vf : β → Value} {beq2 : κ2 → κ2 → Bool} {kt2 : TypeId}
theorem F_updDeep {Kk : Value → World → Prop} {Y R : List (Nat × Obj)} {t e : TypeId} {m x y : Operand} {mv : Value} {lv : List (κ × Value)} {l l' : List (κ × List (κ2 × β))} {k : κ} {k2 : κ2} {v : β} (hk : ∀ {x y : κ}, beq x y = true → x = y) (K : KeyLaw P kt2 kenc2 beq2) (ht : P.underlying t = some (.map kt2 e)) (hST : ST dd F w W μ (R ++ Y)) (h : DeepV kenc (MapRow kenc2 vf) mv lv l R) (hm : evE E m = valAt beq lv k (.map none)) (hx : evE E x = kenc2 k2) (hy : evE E y = vf v) (hl : mupd beq beq2 l k k2 v = some l') (hK : ∀ W' R', ST dd F w W' μ (R' ++ Y) → DeepV kenc (MapRow kenc2 vf) mv lv l' R' → Kk undef W') : Eff P E ⟨d, .mapUpdate t m x y, ty, pos, af, g⟩ W Kk :=
  E_updDeep [] hk K ht hST h hm hx hy hl hK
end
section
variable {dd : Bool}
variable {κ γ : Type} {Q : Value → γ → List (Nat × Obj) → Prop} {beq : κ → κ → Bool} {kenc : κ → Value}
variable {P : Program} {W : World} {kt : TypeId} {E : Nat → Value} {d : Option Nat} {ty : TypeId} {pos : String} {af : Array Edge} {g : Option (Nat × Bool)} {F : Nat → Prop} {w : World} {μ : Mem} {L : List (Nat × Obj)}
variable {κ2 β : Type} {kenc2 : κ2 → Value} {vf : β → Value} {beq2 : κ2 → κ2 → Bool} {kt2 : TypeId}
theorem F_newDeep {Kk : Value → World → Prop} {Y R R2 : List (Nat × Obj)} {t e : TypeId} {m x y : Operand} {mv : Value} {lv : List (κ × Value)} {l l' : List (κ × γ)} {k : κ} {u : Value} {z : γ} (K : KeyLaw P kt kenc beq) (ht : P.underlying t = some (.map kt e)) (hST : ST dd F w W μ (R ++ (R2 ++ Y))) (h : DeepV kenc Q mv lv l R) (hm : evE E m = mv) (hx : evE E x = kenc k) (hy : evE E y = u) (hq : Q u z R2) (hl : mnew beq l k z = some l') (hK : ∀ W' R', ST dd F w W' μ (R' ++ Y) → DeepV kenc Q mv (mput beq lv k u) l' R' → Kk undef W') : Eff P E ⟨d, .mapUpdate t m x y, ty, pos, af, g⟩ W Kk :=
  E_newDeep [] K ht hST h hm hx hy hq hl hK
end
section
variable {dd : Bool}
variable {κ γ : Type} {Q : Value → γ → List (Nat × Obj) → Prop} {beq : κ → κ → Bool} {kenc : κ → Value}
variable {P : Program} {W : World} {kt : TypeId} {E : Nat → Value} {d : Option Nat} {ty : TypeId} {pos : String} {af : Array Edge} {g : Option (Nat × Bool)} {F : Nat → Prop} {w : World} {μ : Mem} {L : List (Nat × Obj)}
theorem F_fill {Kk : Value → World → Prop} {Y R R1 : List (Nat × Obj)} {t e : TypeId} {m x y : Operand} {mv : Value} {lv : List (κ × Value)} {l : List (κ × γ)} {k : κ} {u : Value} {z : γ} (K : KeyLaw P kt kenc beq) (ht : P.underlying t = some (.map kt e)) (hST : ST dd F w W μ (R ++ (R1 ++ Y))) (h : HoleV beq kenc Q mv lv l k R) (hm : evE E m = mv) (hx : evE E x = kenc k) (hy : evE E y = u) (hq : Q u z R1) (hK : ∀ W' R', ST dd F w W' μ (R' ++ Y) → DeepV kenc Q mv (mput beq lv k u) (mput beq l k z) R' → Kk undef W') : Eff P E ⟨d, .mapUpdate t m x y, ty, pos, af, g⟩ W Kk :=
  E_fill [] K ht hST h hm hx hy hq hK
end
section
variable {dd : Bool}
variable {κ γ : Type} {Q : Value → γ → List (Nat × Obj) → Prop} {beq : κ → κ → Bool} {kenc : κ → Value}
variable {P : Program} {W : World} {kt : TypeId} {E : Nat → Value} {d : Option Nat} {ty : TypeId} {pos : String} {af : Array Edge} {g : Option (Nat × Bool)} {F : Nat → Prop} {w : World} {μ : Mem} {L : List (Nat × Obj)}
theorem F_mapEntry {Kk : Value → World → Prop} {Y R : List (Nat × Obj)} {t e : TypeId} {m x : Operand} {mv z : Value} {x0 : γ} {lv : List (κ × Value)} {l : List (κ × γ)} {k : κ} (hk : ∀ {x y : κ}, beq x y = true ↔ x = y) (K : KeyLaw P kt kenc beq) (ht : P.underlying t = some (.map kt e)) (hz : ∀ w, (zeroValue e).run P w = .ok z w) (hq0 : Q z x0 []) (hST : ST dd F w W μ (R ++ Y)) (h : DeepV kenc Q mv lv l R) (hm : evE E m = mv) (hx : evE E x = kenc k) (hK : ∀ W' v st R' R1, ST dd F w W' μ (R' ++ (R1 ++ Y)) → Q v ((mget beq l k).getD x0) R1 → HoleE beq kenc Q mv l k st R' → Kk (.tuple #[v, .int .i64 (st : Nat)]) W') : Eff P E ⟨d, .mapEntry t m x, ty, pos, af, g⟩ W Kk :=
  E_mapEntry [] hk K ht hz hq0 hST h hm hx hK
end
section
variable {dd : Bool}
variable {κ γ : Type} {Q : Value → γ → List (Nat × Obj) → Prop} {beq : κ → κ → Bool} {kenc : κ → Value}
variable {P : Program} {W : World} {kt : TypeId} {E : Nat → Value} {d : Option Nat} {ty : TypeId} {pos : String} {af : Array Edge} {g : Option (Nat × Bool)} {F : Nat → Prop} {w : World} {μ : Mem} {L : List (Nat × Obj)}
theorem F_entryStore {Kk : Value → World → Prop} {Y R R1 : List (Nat × Obj)} {t e : TypeId} {m s y : Operand} {mv u : Value} {z : γ} {l : List (κ × γ)} {k : κ} {st : Nat} (hk : ∀ {x y : κ}, beq x y = true ↔ x = y) (K : KeyLaw P kt kenc beq) (hST : ST dd F w W μ (R ++ (R1 ++ Y))) (h : HoleE beq kenc Q mv l k st R) (hm : evE E m = mv) (hs : evE E s = .int .i64 (st : Nat)) (hy : evE E y = u) (hq : Q u z R1) (hK : ∀ W' lv' R', ST dd F w W' μ (R' ++ Y) → DeepV kenc Q mv lv' (mput beq l k z) R' → Kk undef W') : Eff P E ⟨d, .entryStore t m s y, ty, pos, af, g⟩ W Kk :=
  E_entryStore (e := e) [] hk K hST h hm hs hy hq hK
end
section
variable {dd : Bool}
variable {α : Type} {e : TypeId} {enc : α → List Value} {k : Nat} {v : Value} {l : List α} {R : List (Nat × Obj)}
variable {P : Program} {W : World} {E : Nat → Value} {d : Option Nat} {ty : TypeId} {pos : String} {af : Array Edge} {g : Option (Nat × Bool)} {F : Nat → Prop} {w : World} {μ : Mem} {L : List (Nat × Obj)}
theorem F_appendQue {K : Value → World → Prop} {t : TypeId} {by_ : Nat} {z vs : Value} {m r : List α} {Y : List (Nat × Obj)} {x y : Operand} {i : TypeInfo} (hST : ST dd F w W μ (R ++ Y)) (hk : ∀ x, (enc x).length = k) (hk0 : 0 < k) (h1 : ∀ x, ∀ u ∈ enc x, u.oneCell' = true) (ht : P.underlying t = some (.slice e)) (hi : P.info? e = some i) (hz : i.zero = some z) (hzs : z.cells.size = k) (hsz : i.size = k) (hby : i.bytes = by_) (hx : evE E x = v) (hy : evE E y = vs) (hR : Que e enc k v l R) (hs : Sl (Pl enc) k (hp W) vs m) (hb : appB by_ l m = some r) (h : ∀ W' v' R', ST dd F w W' μ (R' ++ Y) → Que e enc k v' r R' → K v' W') : Eff P E ⟨d, .call ⟨.builtin .append, #[x, y], #[t, t]⟩, ty, pos, af, g⟩ W K :=
  E_appendQue [] hST hk hk0 h1 ht hi hz hzs hsz hby hx hy hR hs hb h
end
section
variable {P : Program} {E : Nat → Value} {W : World} {d : Option Nat} {ty : TypeId} {pos : String} {af : Array Edge} {g : Option (Nat × Bool)}
  {F : Nat → Prop} {w : World} {μ : Mem} {L : List (Nat × Obj)} {α : Type} {e : TypeId} {enc : α → List Value} {k : Nat} {v : Value} {l : List α} {R : List (Nat × Obj)} {dd : Bool}
theorem F_appendTail {K : Value → World → Prop} {Y : List (Nat × Obj)} {t : TypeId} {x y : Operand} {i j : Nat} {v1 u : Value} {ti : TypeInfo} (hST : ST dd F w W μ (R ++ Y)) (h : Row e enc k v l R) (h1 : Row e enc k v1 (l.take i) R) (hk : ∀ x, (enc x).length = k) (hk0 : 0 < k) (hone : ∀ x, ∀ u ∈ enc x, u.oneCell' = true) (ht : P.underlying t = some (.slice e)) (hi : P.info? e = some ti) (hsz : ti.size = k) (hij : i ≤ j) (hj : j ≤ l.length) (hu : TailV k v j u) (hx : evE E x = v1) (hy : evE E y = u) (hK : ∀ W' v' R', ST dd F w W' μ (R' ++ Y) → Row e enc k v (delB l i j) R' → Row e enc k v' (l.take i ++ l.drop j) R' → K v' W') : Eff P E ⟨d, .call ⟨.builtin .append, #[x, y], #[t, t]⟩, ty, pos, af, g⟩ W K :=
  E_appendTail [] hST h h1 hk hk0 hone ht hi hsz hij hj hu hx hy hK
end
end Go.Proofs.YtmlncblocfcmiaaGreat
namespace Go.Proofs.YtmlncblocfcmiaaGreat
open Go.RowKit
section
variable {P : Program} {n : Nat} {Q : Post} {E : Nat → Value} {W : World} {ops : Array Oper} {rest : List Oper}
variable {d j t : Nat} {want : Bool} {v : Value} {ins : Go.Op} {ty : TypeId} {pos : String} {af : Array Edge} {A : Value → Prop}
theorem V (hr : Runs P E ⟨some d, ins, ty, pos, af, none⟩ W v W) (h : LW P n ops Q rest (upd E d v) W) (hn : d < n := by decide) : LW P n ops Q (⟨some d, ins, ty, pos, af, none⟩ :: rest) E W := LW_v (.inl rfl) rfl hn hr h
theorem VE (h : Eff P E ⟨some d, ins, ty, pos, af, none⟩ W fun v W' => LW P n ops Q rest (upd E d v) W') (hn : d < n := by decide) : LW P n ops Q (⟨some d, ins, ty, pos, af, none⟩ :: rest) E W := LW_e (.inl rfl) rfl hn h
theorem VO (h : Eff P E ⟨none, ins, ty, pos, af, none⟩ W fun _ W' => LW P n ops Q rest E W') : LW P n ops Q (⟨none, ins, ty, pos, af, none⟩ :: rest) E W := LW_e0 (.inl rfl) rfl h
theorem VQ (hr : ∃ p, A p ∧ ∀ W, Runs P E ⟨some d, ins, ty, pos, af, none⟩ W p W) (h : ∀ p, A p → LW P n ops Q rest (upd E d p) W) (hn : d < n := by decide) : LW P n ops Q (⟨some d, ins, ty, pos, af, none⟩ :: rest) E W := LW_q (.inl rfl) rfl hn hr h
theorem Vg (hj : (ops[j]?).bind (·.dst) = some t) (hE : E t = .bool want) (hr : Runs P E ⟨some d, ins, ty, pos, af, some (j, want)⟩ W v W) (h : LW P n ops Q rest (upd E d v) W) (ht : t < n := by decide) (hn : d < n := by decide) : LW P n ops Q (⟨some d, ins, ty, pos, af, some (j, want)⟩ :: rest) E W := LW_v (.inr ⟨j, want, t, rfl, hj, ht, hE⟩) rfl hn hr h
theorem VgE (hj : (ops[j]?).bind (·.dst) = some t) (hE : E t = .bool want) (h : Eff P E ⟨some d, ins, ty, pos, af, some (j, want)⟩ W fun v W' => LW P n ops Q rest (upd E d v) W') (ht : t < n := by decide) (hn : d < n := by decide) : LW P n ops Q (⟨some d, ins, ty, pos, af, some (j, want)⟩ :: rest) E W := LW_e (.inr ⟨j, want, t, rfl, hj, ht, hE⟩) rfl hn h
theorem VgQ (hj : (ops[j]?).bind (·.dst) = some t) (hE : E t = .bool want) (hr : ∃ p, A p ∧ ∀ W, Runs P E ⟨some d, ins, ty, pos, af, some (j, want)⟩ W p W) (h : ∀ p, A p → LW P n ops Q rest (upd E d p) W) (ht : t < n := by decide) (hn : d < n := by decide) : LW P n ops Q (⟨some d, ins, ty, pos, af, some (j, want)⟩ :: rest) E W := LW_q (.inr ⟨j, want, t, rfl, hj, ht, hE⟩) rfl hn hr h
theorem Vn (hj : (ops[j]?).bind (·.dst) = some t) (hE : E t = .bool (!want)) (h : LW P n ops Q rest (upd E d undef) W) (ht : t < n := by decide) (hn : d < n := by decide) : LW P n ops Q (⟨some d, ins, ty, pos, af, some (j, want)⟩ :: rest) E W := LW_no rfl hn rfl hj ht hE h
end
section
variable {P : Program} {n : Nat} {Q : Post} {E : Nat → Value} {W : World} {ops : Array Oper} {S : Array Bool → World → Prop} {fuel : Nat} {listed : Array Bool} {μ : Mem} {B : List (Nat × Obj)}
variable {d j t : Nat} {want : Bool} {v : Value} {ins : Go.Op} {ty : TypeId} {pos : String} {af : Array Edge} {A : Value → Prop}
theorem X (i : Nat) (hi : ops[i]? = some ⟨some d, ins, ty, pos, af, none⟩) (hS : S (listed.setIfInBounds i true) W) (hy : ∀ {W}, Runs P E ⟨some d, ins, ty, pos, af, none⟩ W v W) (h : PX P n ops Q S fuel (listed.setIfInBounds i true) (upd E d v) W)
    (hk : okB ops listed i = true := by kernel_rfl) (hm : ∀ l w, S (l.setIfInBounds i true) w → S l w := by exact fun _ _ h => h) (hn : d < n := by decide) : PX P n ops Q S (fuel + 1) listed E W := PX_v i hi hk (.inl rfl) rfl hn hm hS (fun _ _ _ _ => hy) h
theorem XH (i : Nat) (hi : ops[i]? = some ⟨some d, ins, ty, pos, af, none⟩) (hS : Has μ B W) (hy : ∀ W, Has μ B W → Runs P E ⟨some d, ins, ty, pos, af, none⟩ W v W) (h : PX P n ops Q (fun _ W => Has μ B W) fuel (listed.setIfInBounds i true) (upd E d v) W)
    (hk : okB ops listed i = true := by kernel_rfl) (hn : d < n := by decide) : PX P n ops Q (fun _ W => Has μ B W) (fuel + 1) listed E W := PX_v i hi hk (.inl rfl) rfl hn (fun _ _ h => h) hS (fun _ W _ h => hy W h) h
theorem XQ (i : Nat) (hi : ops[i]? = some ⟨some d, ins, ty, pos, af, none⟩) (hS : S (listed.setIfInBounds i true) W) (hy : ∃ p, A p ∧ ∀ W, Runs P E ⟨some d, ins, ty, pos, af, none⟩ W p W) (h : ∀ p, A p → PX P n ops Q S fuel (listed.setIfInBounds i true) (upd E d p) W)
    (hk : okB ops listed i = true := by kernel_rfl) (hm : ∀ l w, S (l.setIfInBounds i true) w → S l w := by exact fun _ _ h => h) (hn : d < n := by decide) : PX P n ops Q S (fuel + 1) listed E W := PX_q i hi hk (.inl rfl) rfl hn hm hS hy h
theorem XE (i : Nat) (hi : ops[i]? = some ⟨some d, ins, ty, pos, af, none⟩) (h : Eff P E ⟨some d, ins, ty, pos, af, none⟩ W fun v W' => S (listed.setIfInBounds i true) W' ∧ PX P n ops Q S fuel (listed.setIfInBounds i true) (upd E d v) W')
    (hr : Region.ready .any ops listed = [i] := by kernel_rfl) (hn : d < n := by decide) : PX P n ops Q S (fuel + 1) listed E W := PX_e i hi hr (.inl rfl) rfl hn h
theorem XO (i : Nat) (hi : ops[i]? = some ⟨none, ins, ty, pos, af, none⟩) (h : Eff P E ⟨none, ins, ty, pos, af, none⟩ W fun _ W' => S (listed.setIfInBounds i true) W' ∧ PX P n ops Q S fuel (listed.setIfInBounds i true) E W')
    (hr : Region.ready .any ops listed = [i] := by kernel_rfl) : PX P n ops Q S (fuel + 1) listed E W := PX_e0 i hi hr (.inl rfl) rfl h
theorem Xg (i : Nat) (hi : ops[i]? = some ⟨some d, ins, ty, pos, af, some (j, want)⟩) (hj : (ops[j]?).bind (·.dst) = some t) (hE : E t = .bool want) (hS : S (listed.setIfInBounds i true) W) (hy : ∀ {W}, Runs P E ⟨some d, ins, ty, pos, af, some (j, want)⟩ W v W) (h : PX P n ops Q S fuel (listed.setIfInBounds i true) (upd E d v) W)
    (hk : okB ops listed i = true := by kernel_rfl) (hm : ∀ l w, S (l.setIfInBounds i true) w → S l w := by exact fun _ _ h => h) (ht : t < n := by decide) (hn : d < n := by decide) : PX P n ops Q S (fuel + 1) listed E W := PX_v i hi hk (.inr ⟨j, want, t, rfl, hj, ht, hE⟩) rfl hn hm hS (fun _ _ _ _ => hy) h
theorem XgH (i : Nat) (hi : ops[i]? = some ⟨some d, ins, ty, pos, af, some (j, want)⟩) (hj : (ops[j]?).bind (·.dst) = some t) (hE : E t = .bool want) (hS : Has μ B W) (hy : ∀ W, Has μ B W → Runs P E ⟨some d, ins, ty, pos, af, some (j, want)⟩ W v W) (h : PX P n ops Q (fun _ W => Has μ B W) fuel (listed.setIfInBounds i true) (upd E d v) W)
    (hk : okB ops listed i = true := by kernel_rfl) (ht : t < n := by decide) (hn : d < n := by decide) : PX P n ops Q (fun _ W => Has μ B W) (fuel + 1) listed E W := PX_v i hi hk (.inr ⟨j, want, t, rfl, hj, ht, hE⟩) rfl hn (fun _ _ h => h) hS (fun _ W _ h => hy W h) h
theorem XgE (i : Nat) (hi : ops[i]? = some ⟨some d, ins, ty, pos, af, some (j, want)⟩) (hj : (ops[j]?).bind (·.dst) = some t) (hE : E t = .bool want) (h : Eff P E ⟨some d, ins, ty, pos, af, some (j, want)⟩ W fun v W' => S (listed.setIfInBounds i true) W' ∧ PX P n ops Q S fuel (listed.setIfInBounds i true) (upd E d v) W')
    (hr : Region.ready .any ops listed = [i] := by kernel_rfl) (ht : t < n := by decide) (hn : d < n := by decide) : PX P n ops Q S (fuel + 1) listed E W := PX_e i hi hr (.inr ⟨j, want, t, rfl, hj, ht, hE⟩) rfl hn h
theorem Xn (i : Nat) (hi : ops[i]? = some ⟨some d, ins, ty, pos, af, some (j, want)⟩) (hj : (ops[j]?).bind (·.dst) = some t) (hE : E t = .bool (!want)) (hS : S (listed.setIfInBounds i true) W) (h : PX P n ops Q S fuel (listed.setIfInBounds i true) (upd E d undef) W)
    (hk : okB ops listed i = true := by kernel_rfl) (hm : ∀ l w, S (l.setIfInBounds i true) w → S l w := by exact fun _ _ h => h) (ht : t < n := by decide) (hn : d < n := by decide) : PX P n ops Q S (fuel + 1) listed E W := PX_no i hi hk rfl hj ht hE rfl hn hm hS h
end
end Go.Proofs.YtmlncblocfcmiaaGreat
namespace Go.Proofs.YtmlncblocfcmiaaGreat
open Go.RowKit
section
variable {α β γ : Type}
inductive All2 (Q : α → β → Prop) : List α → List β → Prop
  | nil : All2 Q [] []
  | cons {a : α} {b : β} {l : List α} {m : List β} : Q a b → All2 Q l m → All2 Q (a :: l) (b :: m)
namespace All2
variable {Q Q' : α → β → Prop}
theorem length {l : List α} {m : List β} (h : All2 Q l m) : l.length = m.length := by
  induction h with
  | nil => rfl
  | cons _ _ ih => simp [ih]
theorem imp {l : List α} {m : List β} (h : All2 Q l m) (hq : ∀ a b, Q a b → Q' a b) : All2 Q' l m := by
  induction h with
  | nil => exact .nil
  | cons h1 _ ih => exact .cons (hq _ _ h1) ih
theorem get {l : List α} {m : List β} (h : All2 Q l m) : ∀ {i : Nat} {b : β}, m[i]? = some b → ∃ a, l[i]? = some a ∧ Q a b := by
  induction h with
  | nil => intro i b hb; simp at hb
  | cons h1 _ ih =>
    intro i b hb
    cases i with
    | zero => simp at hb; subst hb; exact ⟨_, rfl, h1⟩
    | succ i => simpa using ih (by simpa using hb)
theorem append {l l' : List α} {m m' : List β} (h : All2 Q l m) (h' : All2 Q l' m') : All2 Q (l ++ l') (m ++ m') := by
  induction h with
  | nil => exact h'
  | cons h1 _ ih => exact .cons h1 ih
theorem set {l : List α} {m : List β} (h : All2 Q l m) {a : α} {b : β} (hq : Q a b) : ∀ i : Nat, All2 Q (l.set i a) (m.set i b) := by
  induction h with
  | nil => intro i; exact .nil
  | cons h1 h2 ih =>
    intro i
    cases i with
    | zero => exact .cons hq h2
    | succ i => exact .cons h1 (ih i)
theorem take {l : List α} {m : List β} (h : All2 Q l m) : ∀ i : Nat, All2 Q (l.take i) (m.take i) := by
  induction h with
  | nil => intro i; simp; exact .nil
  | cons h1 _ ih =>
    intro i
    cases i with
    | zero => exact .nil
    | succ i => exact .cons h1 (ih i)
theorem drop {l : List α} {m : List β} (h : All2 Q l m) : ∀ i : Nat, All2 Q (l.drop i) (m.drop i) := by
  induction h with
  | nil => intro i; simp; exact .nil
  | cons h1 h2 ih =>
    intro i
    cases i with
    | zero => exact .cons h1 h2
    | succ i => exact ih i
end All2
theorem choose_list {P : Nat → β → α → Prop} : ∀ {m : List β} (o : Nat), (∀ (i : Nat) (b : β), m[i]? = some b → ∃ a, P (o + i) b a) → ∃ l : List α, l.length = m.length ∧ ∀ (i : Nat) (b : β), m[i]? = some b → ∃ a, l[i]? = some a ∧ P (o + i) b a
  | [], _, _ => ⟨[], rfl, fun i b h => by simp at h⟩
  | b :: m, o, h => by
    obtain ⟨a, ha⟩ := h 0 b rfl
    obtain ⟨l, h1, h2⟩ := choose_list (m := m) (o + 1) (fun i b hb => by
      obtain ⟨a, ha⟩ := h (i + 1) b (by simpa using hb)
      exact ⟨a, by rw [show o + 1 + i = o + (i + 1) by omega]; exact ha⟩)
    refine ⟨a :: l, by simp [h1], fun i c hc => ?_⟩
    cases i with
    | zero => simp at hc; subst hc; exact ⟨a, rfl, ha⟩
    | succ i =>
      obtain ⟨x, hx, hp⟩ := h2 i c (by simpa using hc)
      exact ⟨x, by simpa using hx, by rw [show o + (i + 1) = o + 1 + i by omega]; exact hp⟩
theorem All2.of_get {Q : α → β → Prop} : ∀ {l : List α} {m : List β}, l.length = m.length → (∀ (i : Nat) (a : α) (b : β), l[i]? = some a → m[i]? = some b → Q a b) → All2 Q l m
  | [], [], _, _ => .nil
  | [], _ :: _, h, _ => by cases h
  | _ :: _, [], h, _ => by cases h
  | a :: l, b :: m, h, hq => .cons (hq 0 a b rfl rfl) (All2.of_get (by simpa using h) (fun i x y hx hy => hq (i + 1) x y (by simpa using hx) (by simpa using hy)))
end
structure Deep {β : Type} (R : Rep β) (k : Nat) : Prop where
  mono : MonoR R
  len : ∀ {μ ys x}, R μ ys x → ys.length = k
  one : ∀ {μ ys x}, R μ ys x → ∀ u ∈ ys, u.oneCell' = true
abbrev Cells (k : Nat) := {ys : List Value // ys.length = k ∧ ∀ u ∈ ys, u.oneCell' = true}
def cenc {k : Nat} (c : Cells k) : List Value := c.1
theorem clen {k : Nat} (x : Cells k) : (cenc x).length = k := x.2.1
theorem cone {k : Nat} (x : Cells k) : ∀ u ∈ cenc x, u.oneCell' = true := x.2.2
theorem Sl.cell1 {α : Type} {R : Rep α} {k : Nat} {μ : Mem} {v : Value} {l : List α} (h : Sl R k μ v l) : v.oneCell' = true := by
  obtain ⟨A, c, rfl, _⟩ := h; rfl
section
variable {β : Type} {Rl : Rep β} {k : Nat} {μ μ' : Mem} {v : Value} {l : List β}
def Deep.cell (hD : Deep Rl k) {ys : List Value} {x : β} (h : Rl μ ys x) : Cells k := ⟨ys, hD.len h, hD.one h⟩
theorem Sl.raw (hD : Deep Rl k) (h : Sl Rl k μ v l) : ∃ cl : List (Cells k), Sl (Pl cenc) k μ v cl ∧ All2 (fun c x => Rl μ c.1 x) cl l := by
  obtain ⟨A, c, rfl, h1, h2, h3⟩ := h
  cases l with
  | nil => exact ⟨[], ⟨A, c, rfl, h1, h2, fun h => absurd h (by simp)⟩, .nil⟩
  | cons x0 l =>
    obtain ⟨b, off, cs, T, fr, rfl, hb, h4⟩ := h3 (by simp)
    obtain ⟨cl, e1, e2⟩ := choose_list (P := fun i x (c : Cells k) => Rl μ c.1 x ∧ ∀ j y, c.1[j]? = some y → cs[off + i * k + j]? = some y) (m := x0 :: l) 0 (fun i x hx => by
      obtain ⟨ys, _, h6, h7⟩ := h4 i x hx
      exact ⟨hD.cell h6, h6, by rw [Nat.zero_add]; exact h7⟩)
    refine ⟨cl, ⟨_, c, by rw [e1], by omega, h2, fun _ => ⟨b, off, cs, T, fr, rfl, hb, fun i c hc => ?_⟩⟩, All2.of_get e1 (fun i c x hc hx => ?_)⟩
    · have hi : i < (x0 :: l).length := by rw [← e1]; exact (List.getElem?_eq_some_iff.1 hc).1
      obtain ⟨c', hc', _, h7⟩ := e2 i _ (List.getElem?_eq_getElem hi)
      rw [hc] at hc'; cases hc'
      exact ⟨c.1, c.2.1, rfl, by rw [Nat.zero_add] at h7; exact h7⟩
    · obtain ⟨c', hc', h6, _⟩ := e2 i x hx
      rw [hc] at hc'; cases hc'
      exact h6
theorem Sl.of_raw {cl : List (Cells k)} (h : Sl (Pl cenc) k μ v cl) (hs : Sub μ μ') (ha : All2 (fun c x => Rl μ' c.1 x) cl l) : Sl Rl k μ' v l := by
  obtain ⟨A, c, rfl, h1, h2, h3⟩ := h
  have e1 := ha.length
  refine ⟨A, c, by rw [e1], by omega, h2, fun hl => ?_⟩
  obtain ⟨b, off, cs, T, fr, rfl, hb, h4⟩ := h3 (by omega)
  refine ⟨b, off, cs, T, fr, rfl, hs _ _ hb, fun i x hx => ?_⟩
  obtain ⟨c, hc, hq⟩ := ha.get hx
  obtain ⟨ys, e2, e3, e4⟩ := h4 i c hc
  cases e3
  exact ⟨cenc c, e2, hq, e4⟩
def SlW (Rl : Rep β) (k : Nat) (μ : Mem) (W : World) (v : Value) (l : List β) : Prop := ∃ cl : List (Cells k), Sl (Pl cenc) k (hp W) v cl ∧ All2 (fun c x => Rl μ c.1 x) cl l
theorem SlW.sl (hD : Deep Rl k) {W : World} (h : Sl Rl k μ v l) (hs : Sub μ (hp W)) : SlW Rl k μ W v l := by
  obtain ⟨cl, h1, h2⟩ := h.raw hD
  exact ⟨cl, h1.mono (Pl.mono _) hs, h2⟩
theorem Sl.litCells {b m : Nat} {cl : List (Cells k)} {cs : Array Value} {e : TypeId} (hm : cl.length = m) (hM : m ≤ maxLen) (hc : cs.toList = (cl.map cenc).flatten) (hb : μ b = some (.cells cs e (0, 0))) : Sl (Pl cenc) k μ (.slice (some ⟨b, 0, none⟩) m m) cl := by
  subst hm
  refine ⟨_, _, rfl, Nat.le_refl _, hM, fun _ => ⟨b, 0, _, _, _, rfl, hb, fun i x hx => ⟨cenc x, clen x, rfl, fun j y hy => ?_⟩⟩⟩
  have := flat_get clen cl i x hx j y hy
  rw [← hc] at this
  simpa using this
inductive Typed (Rl : Rep β) (k : Nat) (μ : Mem) : List Value → List β → Prop
  | nil : Typed Rl k μ [] []
  | cons {ys zs : List Value} {x : β} {l : List β} : Rl μ ys x → Typed Rl k μ zs l → Typed Rl k μ (ys ++ zs) (x :: l)
theorem Typed.cells (hD : Deep Rl k) {ys : List Value} (h : Typed Rl k μ ys l) : ∃ cl : List (Cells k), (cl.map cenc).flatten = ys ∧ All2 (fun c x => Rl μ c.1 x) cl l := by
  induction h with
  | nil => exact ⟨[], rfl, .nil⟩
  | cons h1 _ ih =>
    obtain ⟨cl, e, h2⟩ := ih
    exact ⟨hD.cell h1 :: cl, by rw [List.map_cons, List.flatten_cons, e]; rfl, .cons h1 h2⟩
theorem SlW.lit (hD : Deep Rl k) {W : World} {b m : Nat} {ys : List Value} {e : TypeId} (h : Typed Rl k μ ys l) (hm : l.length = m) (hM : m ≤ maxLen) (hb : W.heap[b]? = some (.cells ys.toArray e (0, 0))) : SlW Rl k μ W (.slice (some ⟨b, 0, none⟩) m m) l := by
  obtain ⟨cl, e1, h2⟩ := h.cells hD
  exact ⟨cl, Sl.litCells (by rw [h2.length]; exact hm) hM e1.symm hb, h2⟩
theorem Sl.imp {R R' : Rep β} (h : Sl R k μ v l) (hi : ∀ ys x, R μ ys x → R' μ ys x) : Sl R' k μ v l := by
  obtain ⟨A, c, rfl, h1, h2, h3⟩ := h
  refine ⟨A, c, rfl, h1, h2, fun hl => ?_⟩
  obtain ⟨b, off, cs, T, fr, rfl, hb, h4⟩ := h3 hl
  exact ⟨b, off, cs, T, fr, rfl, hb, fun i x hx => let ⟨ys, h5, h6, h7⟩ := h4 i x hx; ⟨ys, h5, hi _ _ h6, h7⟩⟩
def RowD (e : TypeId) (Rl : Rep β) (k : Nat) (μ : Mem) (v : Value) (l : List β) (B : List (Nat × Obj)) : Prop := ∃ cl : List (Cells k), Row e cenc k v cl B ∧ All2 (fun c x => Rl μ c.1 x) cl l
variable {e : TypeId} {B : List (Nat × Obj)}
theorem RowD.mono (hD : Deep Rl k) (h : RowD e Rl k μ v l B) (hs : Sub μ μ') : RowD e Rl k μ' v l B := by
  obtain ⟨cl, h1, h2⟩ := h
  exact ⟨cl, h1, h2.imp (fun _ _ h => hD.mono _ _ _ _ hs h)⟩
theorem RowD.nil (e : TypeId) (Rl : Rep β) (k : Nat) (μ : Mem) : RowD e Rl k μ (.slice none 0 0) [] [] := ⟨[], Row.nil _ _ _, .nil⟩
theorem RowD.lit (hD : Deep Rl k) {b m : Nat} {ys : List Value} (h : Typed Rl k μ ys l) (hm : l.length = m) (hM : m ≤ maxLen) (hs : ys.length = m * k) : RowD e Rl k μ (.slice (some ⟨b, 0, none⟩) m m) l [(b, .cells ys.toArray e (0, 0))] := by
  obtain ⟨cl, e1, h2⟩ := h.cells hD
  exact ⟨cl, Row.lit (by rw [h2.length]; exact hm) hM e1.symm (by simpa using hs), h2⟩
theorem RowD.form (h : RowD e Rl k μ v l B) : ∃ A c, v = .slice A l.length c := by
  obtain ⟨cl, h1, h2⟩ := h
  rw [← h2.length]; exact h1.form
theorem RowD.len (h : RowD e Rl k μ v l B) : l.length ≤ 9223372036854775807 := by
  obtain ⟨cl, h1, h2⟩ := h
  rw [← h2.length]; exact h1.len
theorem RowD.nd (h : RowD e Rl k μ v l B) : (B.map (·.1)).Nodup := let ⟨_, h1, _⟩ := h; h1.nd
theorem RowD.isNil {n c : Nat} (h : RowD e Rl k μ (.slice none n c) l B) : l = [] := by
  obtain ⟨cl, h1, h2⟩ := h
  have := h2.length
  rw [h1.isNil] at this
  exact List.eq_nil_of_length_eq_zero this.symm
theorem RowD.sl (h : RowD e Rl k μ v l B) (hD : Deep Rl k) (hs : Sub μ μ') (hm : ∀ b o, (b, o) ∈ B → μ' b = some o) : Sl Rl k μ' v l := by
  obtain ⟨cl, h1, h2⟩ := h
  exact Sl.of_raw (h1.sl clen hm) (Sub.refl _) (h2.imp (fun _ _ h => hD.mono _ _ _ _ hs h))
end
section
variable {β : Type} {Rl : Rep β} {k : Nat} {μ : Mem} {v : Value} {l : List β} {e : TypeId} {B : List (Nat × Obj)}
variable {dd : Bool} {F : Nat → Prop} {w W : World} {L : List (Nat × Obj)}
theorem RowD.slM (h : RowD e Rl k μ v l B) (hD : Deep Rl k) (hST : ST dd F w W μ L) (hR : ∀ p, p ∈ B → p ∈ L) : Sl Rl k (hp W) v l := h.sl hD hST.sub_hp (fun _ _ hb => hST.at_ (hR _ hb))
theorem RowD.frM (h : RowD e Rl k μ v l B) (hST : ST dd NoF w W μ L) (hR : ∀ p, p ∈ B → p ∈ L) : Fr w.heap.size v := let ⟨_, h1, _⟩ := h; h1.frM hST hR
theorem ST.pubD {Y : List (Nat × Obj)} (hD : Deep Rl k) (hST : ST dd F w W μ (B ++ Y)) (h : RowD e Rl k μ v l B) : ∃ μ', ST dd F w W μ' Y ∧ Sub μ μ' ∧ Lo F w μ μ' ∧ Sl Rl k μ' v l := by
  obtain ⟨cl, h1, h2⟩ := h
  obtain ⟨μ', a1, a2, a4, a3⟩ := ST.pub1 hST h1 clen
  exact ⟨μ', a1, a2, a4, Sl.of_raw a3 (Sub.refl _) (h2.imp (fun _ _ h => hD.mono _ _ _ _ a2 h))⟩
variable {P : Program} {E : Nat → Value} {d : Option Nat} {ty : TypeId} {pos : String} {af : Array Edge} {g : Option (Nat × Bool)}
theorem R_indexD {t e' : TypeId} {x ix : Operand} {ik : IntKind} {i : Int} {x0 : β} {A : List Value → Prop} (ho : ∀ {ys}, Rl μ ys x0 → A ys)
    (ht : P.underlying t = some (.slice e')) (he : ∀ w, (sizeOf e').run P w = .ok k w) (hx : evE E x = v) (hi : evE E ix = .int ik i) (hs : Sl Rl k μ v l) (h0 : 0 ≤ i) (hl : l[i.toNat]? = some x0) :
    ∃ p, (∃ ys, A ys ∧ At μ p ys) ∧ ∀ W, Runs P E ⟨d, .indexAddr t x ix, ty, pos, af, g⟩ W p W := by
  obtain ⟨p, ys, _, h2, h3, h4⟩ := R_index (d := d) (ty := ty) (pos := pos) (af := af) (g := g) ht he hx hi hs h0 hl
  exact ⟨p, ⟨ys, ho h2, h3⟩, h4⟩
theorem R_lenRowD {x : Operand} {t e' : TypeId} (ht : P.underlying t = some (.slice e')) (hx : evE E x = v) (h : RowD e Rl k μ v l B) : Runs P E ⟨d, .call ⟨.builtin .len, #[x], #[t]⟩, ty, pos, af, g⟩ W (.int .i64 l.length) W := by
  obtain ⟨A, c, rfl⟩ := h.form
  exact R_lenSl ht hx
theorem R_indexRowD {t e' : TypeId} {x ix : Operand} {ik : IntKind} {i : Int} {x0 : β} {A : List Value → Prop} (ho : ∀ {ys}, Rl μ ys x0 → A ys)
    (ht : P.underlying t = some (.slice e')) (he : ∀ w, (sizeOf e').run P w = .ok k w) (hx : evE E x = v) (hi : evE E ix = .int ik i) (h : RowD e Rl k μ v l B) (h0 : 0 ≤ i) (hl : l[i.toNat]? = some x0) :
    ∃ p, (∃ ys, A ys ∧ At (memL B) p ys ∧ IxR B k p i.toNat) ∧ ∀ W, Runs P E ⟨d, .indexAddr t x ix, ty, pos, af, g⟩ W p W := by
  obtain ⟨cl, h1, h2⟩ := h
  obtain ⟨c, hc, hq⟩ := h2.get hl
  obtain ⟨p, h3, h4⟩ := R_indexRow (d := d) (ty := ty) (pos := pos) (af := af) (g := g) ht he hx hi h1 h0 hc
  exact ⟨p, ⟨c.1, ho hq, h3.at h1 clen hc, h3⟩, h4⟩
theorem appB_len {α α' : Type} {by_ : Nat} {l m r : List α} {l' m' : List α'} (h : appB by_ l m = some r) (h1 : l'.length = l.length) (h2 : m'.length = m.length) : appB by_ l' m' = some (l' ++ m') ∧ r = l ++ m := by
  unfold appB at h ⊢
  rw [h1, h2]
  split at h
  · rename_i hh; cases h; rw [if_pos hh]; exact ⟨rfl, rfl⟩
  · cases h
theorem F_appendD {K : Value → World → Prop} {t : TypeId} {by_ : Nat} {z vs : Value} {m r : List β} {Y : List (Nat × Obj)} {x y : Operand} {i : TypeInfo} (hD : Deep Rl k) (hST : ST dd F w W μ (B ++ Y)) (hk0 : 0 < k)
    (ht : P.underlying t = some (.slice e)) (hi : P.info? e = some i) (hz : i.zero = some z) (hzs : z.cells.size = k) (hsz : i.size = k) (hby : i.bytes = by_) (hx : evE E x = v) (hy : evE E y = vs)
    (hR : RowD e Rl k μ v l B) (hs : SlW Rl k μ W vs m) (hb : appB by_ l m = some r)
    (h : ∀ W' v' R', ST dd F w W' μ (R' ++ Y) → RowD e Rl k μ v' r R' → K v' W') : Eff P E ⟨d, .call ⟨.builtin .append, #[x, y], #[t, t]⟩, ty, pos, af, g⟩ W K := by
  obtain ⟨cl, h1, h2⟩ := hR
  obtain ⟨cm, h3, h4⟩ := hs
  obtain ⟨hb', rfl⟩ := appB_len hb h2.length h4.length
  exact F_append hST clen hk0 cone ht hi hz hzs hsz hby hx hy h1 h3 hb' (fun W' v' R' a1 a2 => h W' v' R' a1 ⟨_, a2, h2.append h4⟩)
end
end Go.Proofs.YtmlncblocfcmiaaGreat
namespace Go.Proofs.YtmlncblocfcmiaaGreat
open Go.RowKit
def GivesD (dd : Bool) (P : Program) (f : FuncId) (args : List Value) (w : World) (μ0 : Mem) (L0 : List (Nat × Obj)) (K : Value → List (Nat × Obj) → Mem → Prop) : Prop :=
  Calls P f args.toArray w fun e w' => ∃ v L1 μ1, e = .returned v ∧ Back dd L0 L1 w w' ∧ Sub μ0 μ1 ∧ Lo (keys L0) w μ0 μ1 ∧ Sub μ1 (hpx w' L1) ∧ K v L1 μ1
theorem GivesD.weak {dd : Bool} {P : Program} {f : FuncId} {args : List Value} {w : World} {μ0 : Mem} {L0 : List (Nat × Obj)} {K : Value → List (Nat × Obj) → Mem → Prop} (h : GivesD true P f args w μ0 L0 K) : GivesD dd P f args w μ0 L0 K :=
  Calls.mono h fun _ _ ⟨v, L1, μ1, h1, h2, h3⟩ => ⟨v, L1, μ1, h1, h2.weak, h3⟩
section
variable {dd : Bool} {F : Nat → Prop} {w W W' : World} {μ μ1 : Mem} {L L0 L1 L2 : List (Nat × Obj)}
theorem ST.backD (h : ST dd F w W μ (L0 ++ L)) (hb : Back dd L0 L1 W W') (hl : Lo (keys L0) W μ μ1) (hs : Sub μ1 (hpx W' L1)) : ST dd F w W' μ1 (L1 ++ L) := by
  have h1 := h.back hb
  refine ⟨h1.os, h1.tape, h1.output, h1.drawn, h1.size, h1.old, fun b o hm => ?_, fun b o ho => ?_, h1.nd⟩
  · have := hs b o hm
    unfold hpx at this
    split at this
    · cases this
    · exact this
  · obtain ⟨q1, q2, q3⟩ := h1.box b o ho
    refine ⟨q1, ?_, q3⟩
    rcases List.mem_append.1 ho with ho | ho
    · cases hm : μ1 b with
      | none => rfl
      | some x =>
        have := hs b x hm
        unfold hpx at this
        rw [if_pos ⟨o, ho⟩] at this
        cases this
    · have hbx := h.box b o (List.mem_append_right _ ho)
      rw [hl b (lt_of_heap hbx.1) (nd_disj h.nd ho)]
      exact hbx.2.1
variable {P : Program} {E : Nat → Value} {d : Option Nat} {ty : TypeId} {pos : String} {af : Array Edge} {g : Option (Nat × Bool)}
theorem E_givesD {K : Value → World → Prop} {K' : Value → List (Nat × Obj) → Mem → Prop} {f : FuncId} {fv : Operand} {ax : Array Operand} {ats : Array TypeId} {caps : Array Value} {args : List Value} (L0 L2 : List (Nat × Obj)) (hST : ST dd F w W μ L) (hL : L.Perm (L0 ++ L2))
    (hf : evE E fv = .func (.func f) #[] caps) (he : ∀ args w, (callFunc f args).run P w = .ok (.enter f args) w) (ha : ax.map (evE E) ++ (#[] : Array Value) = args.toArray)
    (hc : Held L0 W → (L0.map (·.1)).Nodup → Sub μ (hpx W L0) → (∀ b o, (b, o) ∈ L2 → hpx W L0 b = some o) → GivesD dd P f (args ++ caps.toList) W μ L0 K')
    (h : ∀ W' v μ' L1, ST dd F w W' μ' (L1 ++ L2) → Sub μ μ' → Lo F w μ μ' → K' v L1 μ' → K v W') : Eff P E ⟨d, .call ⟨.value fv, ax, ats⟩, ty, pos, af, g⟩ W K := by
  have ha' : ax.map (evE E) = args.toArray := by simpa using ha
  refine E_calls (args := (args ++ caps.toList).toArray) hf he (by rw [ha']; simp) (Calls.mono (hc (hST.held hL) (hST.ndup hL) (hST.subx hL) (hST.hpx_mem hL)) (fun _ W' ⟨v, L1, μ1, h1, h2, h3, h4, h5, h6⟩ => ⟨v, h1, h W' v μ1 L1 ((hST.perm hL).backD h2 h4 h5) h3 (fun b hb hF => h4 b (Nat.lt_of_lt_of_le hb hST.size) (fun ⟨o, ho⟩ => by
    rcases ((hST.perm hL).box b o (List.mem_append_left _ ho)).2.2 with q | q
    · omega
    · exact hF q)) h6⟩))
end
end Go.Proofs.YtmlncblocfcmiaaGreat
namespace Go.Proofs.YtmlncblocfcmiaaGreat
open Go.RowKit
section
variable {P : Program} {E : Nat → Value} {W : World} {d : Option Nat} {ty : TypeId} {pos : String} {af : Array Edge} {g : Option (Nat × Bool)}
  {dd : Bool} {F : Nat → Prop} {w : World} {μ : Mem} {L : List (Nat × Obj)}
theorem run_convert_mark {t e : TypeId} {C : Array Value} {b n c : Nat} (ht : P.underlying t = some (.slice e)) (he : P.underlying e = some (.int .u8)) (hb : W.heap[b]? = some (.cells C e (0, 0))) :
    (convert t t (.slice (some ⟨b, 0, none⟩) n c)).run P W = .ok (.slice (some ⟨b, 0, none⟩) n c) (W.freeze ⟨b, C.size, none⟩ 1) := by
  have hsh : W.shape? b = some (e, C.size) := by
    unfold World.shape?
    rw [hb]
  simp [convert, run_underlying ht, run_underlying he, markStringish, hsh]
theorem E_bytesConst {K : Value → World → Prop} {t e : TypeId} {x : Operand} {b m : Nat} {cs : Array Value} {l : List Int} (hST : ST dd F w W μ ((b, .cells cs e (0, 0)) :: L)) (ht : P.underlying t = some (.slice e)) (he : P.underlying e = some (.int .u8)) (hx : evE E x = .slice (some ⟨b, 0, none⟩) m m)
    (hc : cs.toList = (l.map (encIk .u8)).flatten) (hm : l.length = m) (hM : m ≤ maxLen)
    (h : ∀ W' μ', ST dd F w W' μ' L → Sub μ μ' → Lo F w μ μ' → Sl (Pl (encIk .u8)) 1 μ' (.slice (some ⟨b, 0, none⟩) m m) l → K (.slice (some ⟨b, 0, none⟩) m m) W') : Eff P E ⟨d, .convert t t x, ty, pos, af, g⟩ W K := by
  subst hm
  have hb := (hST.box b _ (by simp : (b, Obj.cells cs e (0, 0)) ∈ (b, Obj.cells cs e (0, 0)) :: L)).1
  have hlt := lt_of_heap hb
  have hnew : (W.freeze ⟨b, cs.size, none⟩ 1).heap[b]? = some (.cells cs e (cs.size, cs.size + 1)) := by
    unfold World.freeze
    rw [if_neg (by decide)]
    simp only [Array.getElem?_modify, if_true]
    rw [hb]
    rfl
  have h1 : ST dd F w (W.freeze ⟨b, cs.size, none⟩ 1) μ ([] ++ (b, .cells cs e (cs.size, cs.size + 1)) :: L) := by
    refine ST.put (A := []) (o := .cells cs e (0, 0)) hST ⟨?_, ?_, ?_, ?_, ?_⟩ (fun k hk => ?_) hnew
    all_goals (unfold World.freeze; rw [if_neg (by decide)])
    · exact Nat.le_refl _
    · simp
    · simp only [Array.getElem?_modify]
      rw [if_neg (fun e => hk e.symm)]
  refine .inl ⟨_, _, ?_, h _ _ (ST.publish (A := []) h1) (ST.pub_sub (A := []) h1) (ST.lo_pub (A := []) h1) ?_⟩
  · show (do pure (.value (← convert t t (evE E x))) : Sem Next).run P W = _
    rw [hx]
    simp only [Sem.run_bind, run_convert_mark ht he hb, Result.andThen_ok, Sem.run_pure]
  · refine ⟨_, _, rfl, Nat.le_refl _, hM, fun _ => ⟨b, 0, cs, e, _, rfl, if_pos rfl, fun i x hx => ⟨_, rfl, rfl, fun j y hy => ?_⟩⟩⟩
    have := flat_get (enc := encIk .u8) (k := 1) (fun _ => rfl) l i x hx j y hy
    rw [← hc] at this
    simpa using this
def makeB2 {α : Type} (by_ : Nat) (z : α) (n : Int) : Option (List α) := if 0 ≤ n ∧ (by_ : Int) * n ≤ 140737488355328 ∧ n ≤ (maxLen : Int) then some (List.replicate n.toNat z) else none
theorem madeCells_list {α : Type} {enc : α → List Value} {k : Nat} (hk : ∀ x, (enc x).length = k) (hk0 : 0 < k) (z : α) (n : Nat) : (madeCells (enc z).toArray (n * k)).toList = ((List.replicate n z).map enc).flatten := by
  apply List.ext_getElem
  · rw [flat_length hk, Array.length_toList, size_madeCells]; simp
  · intro i h1 h2
    rw [Array.length_toList, size_madeCells] at h1
    have hq : i / k < n := by rw [Nat.div_lt_iff_lt_mul hk0]; exact h1
    have hr : i % k < (enc z).length := by rw [hk]; exact Nat.mod_lt _ hk0
    have e1 := flat_get hk (List.replicate n z) (i / k) z (by rw [List.getElem?_replicate, if_pos hq]) (i % k) _ (List.getElem?_eq_getElem hr)
    rw [show i / k * k + i % k = i by rw [Nat.mul_comm]; exact Nat.div_add_mod i k] at e1
    rw [List.getElem?_eq_getElem h2] at e1
    have e2 := Option.some.inj e1
    rw [e2]
    simp only [madeCells, Array.getElem_toList, Array.getElem_map, Array.getElem_range, List.size_toArray, hk]
    rw [getElem!_pos _ _ (by simpa using hr)]
    simp
theorem E_makeSlice {K : Value → World → Prop} {α : Type} {e t : TypeId} {enc : α → List Value} {k by_ : Nat} {zv : Value} {n : Int} {ik : IntKind} {z : α} {r : List α} {x y : Operand} {i : TypeInfo}
    (hST : ST dd F w W μ L) (hk : ∀ x, (enc x).length = k) (hk0 : 0 < k) (ht : P.underlying t = some (.slice e)) (hi : P.info? e = some i) (hz : i.zero = some zv) (hsz : i.size = k) (hby : i.bytes = by_) (hc : zv.cells = (enc z).toArray)
    (hx : evE E x = .int ik n) (hy : evE E y = .int ik n) (hb : makeB2 by_ z n = some r)
    (h : ∀ W' v' R', ST dd F w W' μ (R' ++ L) → Row e enc k v' r R' → K v' W') : Eff P E ⟨d, .makeSlice t x y, ty, pos, af, g⟩ W K := by
  unfold makeB2 at hb
  split at hb
  case isFalse => cases hb
  rename_i hbb
  cases hb
  obtain ⟨h0, h1, h2⟩ := hbb
  subst hsz; subst hby
  have hM : n.toNat ≤ maxLen := by omega
  have hr := run_make (P := P) W t e i zv ht hi hz ik ik n n h0 (Int.le_refl _) (by omega) (by simp only [maxLen] at h2; omega)
  refine .inl ⟨.slice (some ⟨W.heap.size, 0, none⟩) n.toNat n.toNat, W.alloc (.cells (madeCells zv.cells (n.toNat * i.size)) e), ?_, h _ _ [(W.heap.size, .cells (madeCells zv.cells (n.toNat * i.size)) e)] (hST.alloc _) ?_⟩
  · show (do pure (.value (← Instr.makeSlice t (evE E x) (evE E y))) : Sem Next).run P W = _
    rw [hx, hy]
    simp only [Sem.run_bind, hr, Result.andThen_ok, Sem.run_pure]
  · exact Row.lit (by rw [List.length_replicate]) hM (by rw [hc]; exact madeCells_list hk hk0 z _) (by rw [size_madeCells])
end
section
variable {P : Program} {E : Nat → Value} {W : World} {d : Option Nat} {ty : TypeId} {pos : String} {af : Array Edge} {g : Option (Nat × Bool)}
theorem R_bits {op : BinOp} {tx tv : TypeId} {x y : Operand} {k : IntKind} {a b : Int} {v : Value} (hx : evE E x = .int k a) (hy : evE E y = .int k b)
    (hv : (match op with | .and => some (BitVec.ofInt k.bits a &&& BitVec.ofInt k.bits b) | .or => some (BitVec.ofInt k.bits a ||| BitVec.ofInt k.bits b) | .xor => some (BitVec.ofInt k.bits a ^^^ BitVec.ofInt k.bits b) | _ => none).map (fun (c : BitVec k.bits) => Value.int k (k.wrap c.toNat)) = some v) :
    Runs P E ⟨d, .binOp op tx x y tv, ty, pos, af, g⟩ W v W := by
  show (do let r ← (do eqGuard op tx x y (evE E x) (evE E y); binOp op tx (evE E x) (evE E y)); pure (.value r) : Sem Next).run P W = _
  rw [hx, hy]
  cases op <;> simp at hv <;> subst hv <;> simp [eqGuard, binOp, Op.intBits]
end
theorem DeepAt.cell1 {κ γ : Type} {kenc : κ → Value} {Q : Value → γ → List (Nat × Obj) → Prop} {μ : Mem} {v : Value} {l : List (κ × γ)} (h : DeepAt kenc Q μ v l) : v.oneCell' = true := by
  obtain ⟨lv, R, h, _⟩ := h
  obtain ⟨m, rfl⟩ := h.form
  rfl
theorem MapAt.cell1 {κ β : Type} {kenc : κ → Value} {vf : β → Value} {μ : Mem} {v : Value} {l : List (κ × β)} (h : MapAt kenc vf μ v l) : v.oneCell' = true := by
  obtain ⟨m, rfl⟩ := h.form
  rfl
section
variable {β : Type} {Rl : Rep β} {k : Nat} {μ μ' : Mem} {v : Value} {x : Option β}
def OptR (Rl : Rep β) (μ : Mem) (v : Value) (x : Option β) : Prop := (v = .pointer none ∧ x = none) ∨ ∃ y ys, x = some y ∧ At μ v ys ∧ Rl μ ys y
theorem OptR.nil : OptR Rl μ (.pointer none) none := .inl ⟨rfl, rfl⟩
theorem OptR.some {y : β} {ys : List Value} (h : At μ v ys) (hr : Rl μ ys y) : OptR Rl μ v (some y) := .inr ⟨y, ys, rfl, h, hr⟩
theorem OptR.mono (hD : Deep Rl k) (h : OptR Rl μ v x) (hs : Sub μ μ') : OptR Rl μ' v x := by
  rcases h with h | ⟨y, ys, h1, h2, h3⟩
  · exact .inl h
  · exact .inr ⟨y, ys, h1, h2.mono hs, hD.mono _ _ _ _ hs h3⟩
theorem OptR.cell1 (h : OptR Rl μ v x) : v.oneCell' = true := by
  rcases h with ⟨rfl, _⟩ | ⟨y, ys, _, ⟨b, off, cs, T, fr, rfl, _⟩, _⟩ <;> rfl
variable {P : Program} {E : Nat → Value} {W : World} {d : Option Nat} {ty : TypeId} {pos : String} {af : Array Edge} {g : Option (Nat × Bool)}
theorem R_optEqNil {tx tv e : TypeId} {a b : Operand} (ht : P.underlying tx = some (.pointer e)) (h : OptR Rl μ v x) (hx : evE E a = v) (hy : evE E b = .pointer none) :
    Runs P E ⟨d, .binOp .eql tx a b tv, ty, pos, af, g⟩ W (.bool x.isNone) W := by
  rcases h with ⟨rfl, rfl⟩ | ⟨y, ys, rfl, ⟨b', off, cs, T, fr, rfl, _⟩, _⟩
  · exact R_ptrEqNil (a := none) ht hx hy
  · exact R_ptrEqNil (a := Option.some _) ht hx hy
theorem R_nilCheckOpt {a : Operand} {y : β} {A : List Value → Prop} (ho : ∀ {ys}, Rl μ ys y → A ys) (h : OptR Rl μ v x) (hz : x = Option.some y) (hx : evE E a = v) :
    ∃ p, (∃ ys, A ys ∧ At μ p ys) ∧ ∀ W, Runs P E ⟨d, .nilCheck a, ty, pos, af, g⟩ W p W := by
  rcases h with ⟨_, rfl⟩ | ⟨z, ys, rfl, h2, h3⟩
  · cases hz
  · cases hz
    refine ⟨v, ⟨ys, ho h3, h2⟩, fun W => ?_⟩
    obtain ⟨b', off, cs, T, fr, rfl, _⟩ := h2
    exact R_nilCheck hx
end
def NilF (v : Value) (b : Option Bool) : Prop := (b = some true → v = .slice none 0 0) ∧ (b = some false → ∃ a n c, v = .slice (some a) n c)
def nilOf {α : Type} (l : List α) : Option Bool := if l.isEmpty then none else some false
def nilT {α : Type} (l : List α) (b : Option Bool) : Option Bool := match b with | some b => some b | none => if l.isEmpty then none else some false
theorem NilF.nil : NilF (.slice none 0 0) (some true) := ⟨fun _ => rfl, fun h => (by cases h)⟩
section
variable {α : Type} {R : Rep α} {k : Nat} {μ : Mem} {v : Value} {l : List α}
theorem Sl.notNil (h : Sl R k μ v l) (hl : l.isEmpty = false) : ∃ a n c, v = .slice (some a) n c := by
  obtain ⟨A, c, rfl, h1, h2, h3⟩ := h
  cases l with
  | nil => cases hl
  | cons x l =>
    obtain ⟨b, off, cs, T, fr, rfl, _⟩ := h3 (by simp)
    exact ⟨_, _, _, rfl⟩
theorem NilF.of (h : Sl R k μ v l) : NilF v (nilOf l) := by
  unfold nilOf
  cases hl : l.isEmpty with
  | true => exact ⟨fun h => (by cases h), fun h => (by cases h)⟩
  | false => exact ⟨fun h => (by cases h), fun _ => h.notNil hl⟩
variable {P : Program} {E : Nat → Value} {W : World} {d : Option Nat} {ty : TypeId} {pos : String} {af : Array Edge} {g : Option (Nat × Bool)}
theorem R_slNilT {tx tv e : TypeId} {x y : Operand} {b : Option Bool} {r : Bool} (ht : P.underlying tx = some (.slice e)) (h : Sl R k μ v l) (hn : NilF v b) (hr : nilT l b = some r) (hx : evE E x = v) (hy : evE E y = .slice none 0 0) :
    Runs P E ⟨d, .binOp .eql tx x y tv, ty, pos, af, g⟩ W (.bool r) W := by
  have key : (r = true → v = .slice none 0 0) ∧ (r = false → ∃ a n c, v = .slice (some a) n c) := by
    unfold nilT at hr
    cases b with
    | some b => cases hr; exact ⟨fun h => hn.1 (by rw [h]), fun h => hn.2 (by rw [h])⟩
    | none =>
      cases hl : l.isEmpty with
      | true => simp [hl] at hr
      | false => simp [hl] at hr; subst hr; exact ⟨fun h => (by cases h), fun _ => h.notNil hl⟩
  cases r with
  | true => obtain rfl := key.1 rfl; exact R_slEqNil ht hx hy
  | false => obtain ⟨a, n, c, rfl⟩ := key.2 rfl; exact R_slEqNil ht hx hy
end
end Go.Proofs.YtmlncblocfcmiaaGreat
namespace Go.Proofs.YtmlncblocfcmiaaGreat
open Go.RowKit
section
variable {dd : Bool}
variable {β : Type} {Rl : Rep β} {k : Nat} {μ : Mem} {v : Value} {l : List β} {e : TypeId} {B : List (Nat × Obj)}
variable {F : Nat → Prop} {w W : World} {L : List (Nat × Obj)}
variable {P : Program} {E : Nat → Value} {d : Option Nat} {ty : TypeId} {pos : String} {af : Array Edge} {g : Option (Nat × Bool)}
theorem flat_inj {α : Type} {enc : α → List Value} (hk : ∀ x, (enc x).length = k) (hk0 : 0 < k) (hi : ∀ x y, enc x = enc y → x = y) : ∀ {l m : List α}, (l.map enc).flatten = (m.map enc).flatten → l = m
  | [], [], _ => rfl
  | [], b :: m, h => by
    have := congrArg List.length h
    simp only [List.map_nil, List.flatten_nil, List.length_nil, List.map_cons, List.flatten_cons, List.length_append, hk] at this
    omega
  | a :: l, [], h => by
    have := congrArg List.length h
    simp only [List.map_nil, List.flatten_nil, List.length_nil, List.map_cons, List.flatten_cons, List.length_append, hk] at this
    omega
  | a :: l, b :: m, h => by
    simp only [List.map_cons, List.flatten_cons] at h
    obtain ⟨h1, h2⟩ := List.append_inj h (by rw [hk, hk])
    rw [hi _ _ h1, flat_inj hk hk0 hi h2]
theorem cinj (x y : Cells k) (h : cenc x = cenc y) : x = y := Subtype.ext h
theorem Row.pre {v1 : Value} {cl cl1 : List (Cells k)} (hk0 : 0 < k) (h : Row e cenc k v cl B) (h1 : Row e cenc k v1 cl1 B) (hl : cl1.length ≤ cl.length) : cl1 = cl.take cl1.length := by
  rcases h with ⟨rfl, rfl, rfl⟩ | ⟨g', cap, cur, rfl, rfl, q1, q2, q3, q4⟩
  · simp at hl; simp [hl]
  · rcases h1 with ⟨_, _, h⟩ | ⟨g1, cap1, cur1, rfl, eR, a1, a2, a3, a4⟩
    · cases h
    · cases eR
      refine flat_inj clen hk0 cinj ?_
      rw [← a4]
      have hle : cl1.length * k ≤ cl.length * k := Nat.mul_le_mul_right _ hl
      have : cur.toList.take (cl1.length * k) = (cur.toList.take (cl.length * k)).take (cl1.length * k) := by rw [List.take_take, Nat.min_eq_left hle]
      rw [this, q4]
      have h2 : (cl.map cenc).flatten = ((cl.take cl1.length).map cenc).flatten ++ ((cl.drop cl1.length).map cenc).flatten := by rw [← List.flatten_append, ← List.map_append, List.take_append_drop]
      have h3 : ((cl.take cl1.length).map cenc).flatten.length = cl1.length * k := by rw [flat_length clen, List.length_take, Nat.min_eq_left hl]
      rw [h2, ← h3, List.take_left]
theorem All2.replicate {α β : Type} {Q : α → β → Prop} {a : α} {b : β} (h : Q a b) : ∀ n, All2 Q (List.replicate n a) (List.replicate n b)
  | 0 => .nil
  | n + 1 => .cons h (All2.replicate h n)
theorem RowD.keep {l' l3 : List β} {v' : Value} {R2 : List (Nat × Obj)} (hk0 : 0 < k) (h0 : RowD e Rl k μ v l B) (h1 : RowD e Rl k μ v' l3 B) (h2 : RowD e Rl k μ v l' R2) (hl : l3.length ≤ l'.length) : RowD e Rl k μ v' (l'.take l3.length) R2 := by
  obtain ⟨cl, q1, q2⟩ := h0
  obtain ⟨c1, q3, q4⟩ := h1
  obtain ⟨c2, q5, q6⟩ := h2
  refine ⟨_, Row.keep hk0 clen q1 q3 q5 (by rw [q4.length, q6.length]; exact hl), ?_⟩
  rw [q4.length]
  exact q6.take _
end
end Go.Proofs.YtmlncblocfcmiaaGreat
namespace Go.Proofs.YtmlncblocfcmiaaGreat
open Go.Sort Go.Proofs Go.Shelf
theorem keys_one {g b : Nat} {o : Obj} : keys [(g, o)] b ↔ b = g := by
  constructor
  · rintro ⟨o', h⟩
    simp at h
    exact h.1
  · rintro rfl; exact ⟨o, by simp⟩
theorem heap_turned (w : World) (g m : Nat) (f : Array Value → Array Value) (os : Array Obj) (b : Nat) (hb : b < w.heap.size) :
    (Go.Sort.grow (mapBlock (Go.Sort.ahead w m) g f) os).heap[b]? = if g = b then w.heap[b]?.map (onCells f) else w.heap[b]? := by
  have hb' : b < (mapBlock (Go.Sort.ahead w m) g f).heap.size := by simp only [mapBlock, Go.Sort.ahead, Array.size_modify]; exact hb
  rw [heap_grow_old _ _ hb']
  simp only [mapBlock, Go.Sort.ahead, Array.getElem?_modify]
theorem back_turned {w : World} {g m : Nat} {f : Array Value → Array Value} {os : Array Obj} {cs : Array Value} {T : TypeId} {fr : Nat × Nat} (hg : w.heap[g]? = some (.cells cs T fr)) :
    Back true [(g, .cells cs T fr)] [(g, .cells (f cs) T fr)] w (Go.Sort.grow (mapBlock (Go.Sort.ahead w m) g f) os) := by
  have hlt : g < w.heap.size := (Array.getElem?_eq_some_iff.1 hg).1
  refine ⟨⟨rfl, rfl, rfl, ?_, ?_, fun b hb hn => ?_⟩, fun b o h => ?_, by simp⟩
  · refine Low.of ?_
    show w.drawn ≤ w.drawn + m
    omega
  · show w.heap.size ≤ (w.heap.modify g (onCells f) ++ os).size
    simp
  · rw [heap_turned _ _ _ _ _ _ hb, if_neg fun h => hn (keys_one.2 h.symm)]
  · simp only [List.mem_cons, List.not_mem_nil, or_false, Prod.mk.injEq] at h
    obtain ⟨rfl, rfl⟩ := h
    refine ⟨?_, .inr (keys_one.2 rfl)⟩
    rw [heap_turned _ _ _ _ _ _ hlt, if_pos rfl, hg]
    rfl
theorem grow_of_ex {w W : World} (h : Ex true w W) : ∃ q os, W = Go.Sort.grow (w.drewN q) os := by
  refine ⟨W.drawn - w.drawn, W.heap.extract w.heap.size W.heap.size, ?_⟩
  have hh : W.heap = w.heap ++ W.heap.extract w.heap.size W.heap.size := by
    apply Array.ext_getElem?
    intro i
    rw [Array.getElem?_append]
    split
    · rename_i hi; exact h.old i hi
    · rename_i hi
      rw [Array.getElem?_extract]
      have hsz := h.size
      split
      · rw [show w.heap.size + (i - w.heap.size) = i by omega]
      · exact Array.getElem?_eq_none (by omega)
  obtain ⟨h1, h2, h3, h4, h5⟩ := W
  have e1 := h.os; have e2 := h.tape; have e3 := h.output; have e4 := h.drawn rfl
  simp only at e1 e2 e3 e4 hh
  unfold Go.Sort.grow World.drewN
  simp only [World.mk.injEq]
  exact ⟨hh, e2, by omega, e1, e3⟩
theorem flat_at {α : Type} [Inhabited α] {enc : α → List Value} {k : Nat} (hk : ∀ x, (enc x).length = k) (l : List α) (j : Nat) (hj : j < l.length * k) :
    (l.map enc).flatten[j]? = some ((flatK enc k l.toArray)[j]!) := by
  have k0 : 0 < k := by
    cases k with
    | zero => simp at hj
    | succ n => omega
  have h1 : j / k < l.length := (Nat.div_lt_iff_lt_mul k0).2 hj
  rw [get_flatK _ _ _ _ (by simpa using hj)]
  have e1 : l.toArray[j / k]! = l[j / k] := by
    rw [getElem!_pos l.toArray (j / k) (by simpa using h1)]; simp
  rw [e1]
  have h2 : j % k < (enc l[j / k]).length := by rw [hk]; exact Nat.mod_lt _ k0
  have h3 := flat_get hk l (j / k) l[j / k] (List.getElem?_eq_getElem h1) (j % k) ((enc l[j / k])[j % k]) (List.getElem?_eq_getElem h2)
  rw [Nat.div_add_mod' j k] at h3
  rw [h3, getElem!_pos (enc l[j / k]) (j % k) h2]
theorem holds_of_take {α : Type} [Inhabited α] {enc : α → List Value} {k : Nat} (hk : ∀ x, (enc x).length = k) {w : World} {g : Nat} {cs : Array Value} {T : TypeId} (hg : w.heap[g]? = some (.cells cs T (0, 0))) (l : List α)
    (ht : cs.toList.take (l.length * k) = (l.map enc).flatten) : HoldsK enc k w g 0 l.toArray := by
  intro j hj
  have hj' : j < l.length * k := by simpa using hj
  have h1 := flat_at hk l j hj'
  rw [← ht, List.getElem?_take, if_pos hj'] at h1
  refine ⟨?_, ?_⟩
  · simp only [World.cell?, hg, Nat.zero_add]
    simpa using h1
  · simp [World.frozen?, hg]
theorem take_turned {α : Type} [Inhabited α] {enc : α → List Value} {k : Nat} (hk : ∀ x, (enc x).length = k) {cs : Array Value} (l : List α) (hs : l.length * k ≤ cs.size) :
    (putCells id 0 (flatK enc k l.toArray) cs).toList.take (l.length * k) = (l.map enc).flatten := by
  apply List.ext_getElem?
  intro j
  rw [List.getElem?_take]
  split
  · rename_i hj
    rw [flat_at hk l j hj]
    simp only [putCells, Array.getElem?_toList, Array.getElem?_mapIdx, size_flatK, List.size_toArray]
    rw [Array.getElem?_eq_getElem (by omega)]
    simp [hj]
  · rename_i hj
    rw [List.getElem?_eq_none (by rw [flat_length hk]; omega)]
theorem putCells_size (enc : Value → Value) (o : Nat) (d : Array Value) (c : Array Value) : (putCells enc o d c).size = c.size := by simp [putCells]
section
variable {α : Type} {P : Program} {ρ : Ren}
theorem swo_of {l : List α} {cf : α × α → Option Int} (h : SortOk cf l) : SWO (ltOf fun (x y : {x // x ∈ l}) => (cf (x.1, y.1)).getD 0) ∧
    (∀ x y : {x // x ∈ l}, ltOf (fun (x y : {x // x ∈ l}) => (cf (x.1, y.1)).getD 0) x y = lessO cf x.1 y.1) := by
  have e : ∀ x y : {x // x ∈ l}, ltOf (fun (x y : {x // x ∈ l}) => (cf (x.1, y.1)).getD 0) x y = lessO cf x.1 y.1 := fun x y => by
    obtain ⟨c, hc⟩ := h.is x.1 x.2 y.1 y.2
    simp [ltOf, lessO, hc]
  refine ⟨⟨fun x => ?_, fun x y z => ?_, fun x y z => ?_⟩, e⟩
  · rw [e]; exact h.irrefl _ x.2
  · rw [e, e, e]; exact h.trans _ x.2 _ y.2 _ z.2
  · rw [e, e, e]
    intro h1 h2
    cases h3 : lessO cf x.1 z.1 with
    | false => rfl
    | true =>
      cases h4 : lessO cf y.1 x.1 with
      | true =>
        have := h.trans _ y.2 _ x.2 _ z.2 h4 h3
        rw [h2] at this; cases this
      | false =>
        have := h.total _ x.2 _ y.2 h1 h4
        rw [this, h2] at h3; cases h3
theorem sortF_gives (L : SlLaysF0.n6 P ρ) (k : Nat) (aE : ∀ w, (isAgg (ρ.t 24)).run P w = .ok true w) (zE : ∀ w, (Go.sizeOf (ρ.t 24)).run P w = .ok k w) {e : TypeId} (enc : α → List Value) (hk : ∀ x, (enc x).length = k) (h1 : ∀ x, ∀ u ∈ enc x, u.oneCell' = true)
    {v fv : Value} {l r : List α} {R : List (Nat × Obj)} {cf : α × α → Option Int} {w : World} {μ0 : Mem} (hH : Held (R ++ []) w) (hS0 : Sub μ0 (hpx w (R ++ []))) (hr : Row e enc k v l R)
    (hc : CbO P fv μ0 (fun (x : α × α) => [(.agg (enc x.1).toArray), (.agg (enc x.2).toArray)]) (fun (r : Int) => (.int .i64 r)) cf) (hm : sortF cf l = some r) :
    GivesM true P (ρ.f 6) [v, fv] w (R ++ []) (fun u L1 _ => ∃ (S : List (Nat × Obj)), u = (.tuple #[]) ∧ L1 = (S ++ []) ∧ Row e enc k v r S) := by
  obtain ⟨ok, rfl⟩ := sortF_some hm
  rw [List.append_nil] at hH hS0 ⊢
  rcases Nat.eq_zero_or_pos l.length with h0 | hpos
  · have hl : l = [] := List.eq_nil_of_length_eq_zero h0
    subst hl
    have hs : sorted cf ([] : List α) = [] := by simp [sorted]
    rw [hs]
    obtain ⟨p, c, rfl⟩ : ∃ p c, v = .slice p 0 c := by
      rcases hr with ⟨rfl, _, _⟩ | ⟨g, cap, cur, rfl, _⟩
      · exact ⟨_, _, rfl⟩
      · exact ⟨_, _, rfl⟩
    refine Calls.mono (AnyF.slices_SortFunc_none L p c fv w) fun x w' ⟨hx, hw⟩ => ?_
    subst hx hw
    refine ⟨_, R, rfl, ⟨⟨rfl, rfl, rfl, Low.of (Nat.le_refl _), Nat.le_refl _, fun _ _ _ => rfl⟩, fun b o h => ⟨hH b o h, .inr ⟨o, h⟩⟩, ?_⟩, R, rfl, (List.append_nil R).symm, hr⟩
    rcases hr with ⟨_, _, rfl⟩ | ⟨g, cap, cur, _, rfl, _⟩ <;> simp
  · rcases hr with ⟨_, rfl, _⟩ | ⟨g, cap, cur, rfl, rfl, hlc, hcm, hcs, htk⟩
    · simp at hpos
    have hg : w.heap[g]? = some (.cells cur e (0, 0)) := hH g _ (by simp)
    have hlt : g < w.heap.size := (Array.getElem?_eq_some_iff.1 hg).1
    haveI : Inhabited {x // x ∈ l} := ⟨⟨l[0], List.getElem_mem hpos⟩⟩
    obtain ⟨gg, caps, rfl, hent, hgive⟩ := hc
    obtain ⟨hO, hlo⟩ := swo_of ok
    have hal : l.attach.toArray.size = l.length := by simp
    have hmv : l.attach.map (fun x => enc x.1) = l.map enc := by
      rw [show (fun x : {x // x ∈ l} => enc x.1) = enc ∘ Subtype.val from rfl, ← List.map_map, List.attach_map_subtype_val]
    have hH2 : HoldsK (fun x : {x // x ∈ l} => enc x.1) k w g 0 l.attach.toArray := holds_of_take (fun x => hk x.1) hg l.attach (by rw [hmv, List.length_attach, htk])
    have hcmp : CmpLays P gg caps (fun x : {x // x ∈ l} => enc x.1) k (fun x y => (cf (x.1, y.1)).getD 0) g 0 l.attach.toArray.size w := by
      intro m os dk hdk x y
      obtain ⟨c, hcc⟩ := ok.is x.1 x.2 y.1 y.2
      have hsub : Sub μ0 (hp (sortWorldK (fun x : {x // x ∈ l} => enc x.1) k w g 0 m dk os)) := fun b o hb => by
        have h2 := hS0 b o hb
        unfold hpx at h2
        split at h2
        · cases h2
        · rename_i hn
          have hbl : b < w.heap.size := (Array.getElem?_eq_some_iff.1 h2).1
          show (Go.Sort.grow (mapBlock (Go.Sort.ahead w m) g _) os).heap[b]? = _
          rw [heap_turned _ _ _ _ _ _ hbl, if_neg fun h => hn (keys_one.2 h.symm)]
          exact h2
      have h3 := hgive (sortWorldK (fun x : {x // x ∈ l} => enc x.1) k w g 0 m dk os) (x.1, y.1) c hsub hcc
      have ea : ([Value.agg (enc x.1).toArray, Value.agg (enc y.1).toArray] ++ caps.toList).toArray = #[Value.agg (enc x.1).toArray, Value.agg (enc y.1).toArray] ++ caps := by
        apply Array.ext'; simp
      rw [← ea]
      exact Calls.mono h3 fun u W' hu => ⟨by rw [hu.1]; show _ = Ending.returned (.int .i64 ((cf (x.1, y.1)).getD 0)); rw [hcc]; rfl, grow_of_ex hu.2⟩
    have hT : ∀ x y : {x // x ∈ l}, ltOf (fun (x y : {x // x ∈ l}) => (cf (x.1, y.1)).getD 0) x y = false → ltOf (fun (x y : {x // x ∈ l}) => (cf (x.1, y.1)).getD 0) y x = false → x = y := fun x y a b => by
      rw [hlo] at a b
      exact Subtype.ext (ok.total _ x.2 _ y.2 a b)
    have hmain := AnyQ.slices_SortFunc_total L k aE zE (fun x : {x // x ∈ l} => enc x.1) (fun x => hk x.1) (fun x => h1 x.1) (fun x y => (cf (x.1, y.1)).getD 0) hO gg caps g 0 cap l.attach.toArray w hent hcmp hH2 hlt (by rw [hal]; exact ok.short) hT
    rw [hal] at hmain
    refine Calls.mono hmain fun u w' ⟨hu, n, os, hw⟩ => ?_
    subst hu
    generalize hs : l.attach.toArray.toList.mergeSort (fun x y => !ltOf (fun (x y : {x // x ∈ l}) => (cf (x.1, y.1)).getD 0) y x) = s at hw
    have hsm : s.map Subtype.val = sorted cf l := by
      rw [← hs, List.map_mergeSort (s := fun x y => !lessO cf y x) (fun a _ b _ => by rw [hlo])]
      simp [sorted]
    have hsl : s.length = l.length := by rw [← hs, List.length_mergeSort]; simp
    have hrl : (sorted cf l).length = l.length := by simp [sorted, List.length_mergeSort]
    have hbk := back_turned (w := w) (m := n) (f := putCells id 0 (flatK (fun x : {x // x ∈ l} => enc x.1) k s.toArray)) (os := os) hg
    have hw2 : w' = Go.Sort.grow (mapBlock (Go.Sort.ahead w n) g (putCells id 0 (flatK (fun x : {x // x ∈ l} => enc x.1) k s.toArray))) os := hw
    rw [← hw2] at hbk
    refine ⟨_, _, rfl, hbk, _, rfl, (List.append_nil _).symm, .inr ⟨g, cap, _, by rw [hrl], rfl, by omega, hcm, by rw [putCells_size, hcs], ?_⟩⟩
    rw [hrl, ← hsl, take_turned (fun x => hk x.1) s (by rw [hsl, hcs]; exact Nat.mul_le_mul_right k hlc), ← hsm, List.map_map]
    rfl
end
end Go.Proofs.YtmlncblocfcmiaaGreat
namespace Go.Proofs.YtmlncblocfcmiaaGreat
open Go.Sort Go.Proofs Go.Shelf
theorem bytes_toList (b : ByteArray) : b.toList = b.data.toList := by rw [ByteArray.toList_eq]
theorem flat_S (l : List ByteArray) : (l.map encSk).flatten = l.map Value.string := by
  induction l with
  | nil => rfl
  | cons x l ih => simp only [List.map_cons, List.flatten_cons, ih]; rfl
theorem sorted_S (l : List ByteArray) : (sortedS l).map (fun b => b.data.toList) = (l.map (fun b => b.data.toList)).mergeSort (fun x y => decide (x ≤ y)) := by
  unfold sortedS
  refine List.map_mergeSort fun a _ b _ => ?_
  unfold ltS
  rw [bytesLess_eq, bytes_toList, bytes_toList]
  by_cases h : a.data.toList ≤ b.data.toList
  · have h' : ¬ b.data.toList < a.data.toList := List.not_lt.2 h
    simp [h, h']
  · have h' : b.data.toList < a.data.toList := by
      cases Decidable.em (b.data.toList < a.data.toList) with
      | inl h2 => exact h2
      | inr h2 => exact absurd (List.not_lt.1 h2) h
    simp [h, h']
section
variable {P : Program} {ρ : Ren}
theorem sortS_gives (L : SlLaysM.n6 P ρ) {e : TypeId} {v : Value} {l r : List ByteArray} {R : List (Nat × Obj)} {w : World} (hH : Held (R ++ []) w) (hr : Row e encSk 1 v l R) (hm : sortS l = some r) :
    GivesM true P (ρ.f 6) [v] w (R ++ []) (fun u L1 _ => ∃ (S : List (Nat × Obj)), u = (.tuple #[]) ∧ L1 = (S ++ []) ∧ Row e encSk 1 v r S) := by
  unfold sortS at hm
  split at hm
  · rename_i hshort
    cases hm
    rw [List.append_nil] at hH ⊢
    rcases Nat.eq_zero_or_pos l.length with h0 | hpos
    · have hl : l = [] := List.eq_nil_of_length_eq_zero h0
      subst hl
      have hs : sortedS [] = [] := by simp [sortedS]
      rw [hs]
      obtain ⟨p, c, rfl⟩ : ∃ p c, v = .slice p 0 c := by
        rcases hr with ⟨rfl, _, _⟩ | ⟨g, cap, cur, rfl, _⟩
        · exact ⟨_, _, rfl⟩
        · exact ⟨_, _, rfl⟩
      refine Calls.mono (AnyM.slices_Sort_string_none L p c w) fun x w' ⟨hx, hw⟩ => ?_
      subst hx hw
      refine ⟨_, R, rfl, ⟨⟨rfl, rfl, rfl, Low.of (Nat.le_refl _), Nat.le_refl _, fun _ _ _ => rfl⟩, fun b o h => ⟨hH b o h, .inr ⟨o, h⟩⟩, ?_⟩, R, rfl, (List.append_nil R).symm, hr⟩
      rcases hr with ⟨_, _, rfl⟩ | ⟨g, cap, cur, _, rfl, _⟩ <;> simp
    · rcases hr with ⟨_, rfl, _⟩ | ⟨g, cap, cur, rfl, rfl, hlc, hcm, hcs, htk⟩
      · simp at hpos
      have hg : w.heap[g]? = some (.cells cur e (0, 0)) := hH g _ (by simp)
      have hlt : g < w.heap.size := (Array.getElem?_eq_some_iff.1 hg).1
      have hH2 : Holds encStr w g 0 (l.map (fun b => b.data.toList)).toArray := by
        intro j hj
        have hj' : j < l.length := by simpa using hj
        have h1 : (cur.toList.take (l.length * 1))[j]? = ((l.map encSk).flatten)[j]? := by rw [htk]
        rw [flat_S, List.getElem?_take, if_pos (by omega), List.getElem?_map, List.getElem?_eq_getElem hj'] at h1
        refine ⟨?_, by simp [World.frozen?, hg]⟩
        simp only [World.cell?, hg, Nat.zero_add]
        rw [getElem!_pos _ j hj]
        simpa using h1
      have hmain := AnyM.slices_Sort_string L g 0 cap (l.map (fun b => b.data.toList)) w hH2 hlt (by simpa using hshort)
      rw [List.length_map, ← sorted_S] at hmain
      refine Calls.mono hmain fun u w' ⟨hu, n, os, hw⟩ => ?_
      subst hu
      have hrl : (sortedS l).length = l.length := by simp [sortedS, List.length_mergeSort]
      have hbk := back_turned (w := w) (m := n) (f := putCells encStr 0 ((sortedS l).map (fun b => b.data.toList)).toArray) (os := os) hg
      have hw2 : w' = Go.Sort.grow (mapBlock (Go.Sort.ahead w n) g (putCells encStr 0 ((sortedS l).map (fun b => b.data.toList)).toArray)) os := hw
      rw [← hw2] at hbk
      refine ⟨_, _, rfl, hbk, _, rfl, (List.append_nil _).symm, .inr ⟨g, cap, _, by rw [hrl], rfl, by omega, hcm, by simpa [putCells] using hcs, ?_⟩⟩
      rw [hrl, flat_S]
      apply List.ext_getElem?
      intro j
      rw [List.getElem?_take]
      split
      · rename_i hj
        have hj' : j < (sortedS l).length := by omega
        rw [List.getElem?_map, List.getElem?_eq_getElem hj']
        simp only [putCells, Array.getElem?_toList, Array.getElem?_mapIdx]
        rw [Array.getElem?_eq_getElem (by omega)]
        have h3 : j < ((sortedS l).map (fun b => b.data.toList)).toArray.size := by simpa using hj'
        have h4 : 0 ≤ j ∧ j < 0 + ((sortedS l).map (fun b => b.data.toList)).toArray.size := ⟨by omega, by omega⟩
        simp only [Option.map_some, if_pos h4, Nat.sub_zero]
        rw [getElem!_pos _ j h3]
        simp
      · rename_i hj
        rw [List.getElem?_eq_none (by simp; omega)]
  · cases hm
end
end Go.Proofs.YtmlncblocfcmiaaGreat
namespace Go.Proofs.YtmlncblocfcmiaaGreat
open Go.WideElems Go.WideShapes Go.Sort Go.Proofs Go.Shelf
theorem owns_of_map {β : Type} {vf : β → Value} {P : Program} {kt : TypeId} (ht : P.underlying kt = some .string) {l : List (ByteArray × β)} {es : Array MapEntry} {clock : Nat} (h : MapOf Value.string vf l es clock) (hn : (l.map (·.1)).Nodup) (hs : ∀ p ∈ l, p.1.size ≤ maxLen) (hl : l.length ≤ maxLen)
    {W : World} {b : Nat} (hb : W.heap[b]? = some (.map es clock)) : ∃ D : DataW Unit, W.ownsMap P kt (fun _ => some (.lit (.bool true), [])) b es.size D ∧ (strKeys D).Perm (l.map (fun p => p.1.data.toList)) ∧ Maps.size D = l.length := by
  have hkeys := h.keys
  have hrd : ∀ x ∈ es.toList, ∃ s : ByteArray, x.key = .string s ∧ s.size ≤ maxLen := fun x hx => by
    have h1 : x.key ∈ es.toList.map (·.key) := List.mem_map.2 ⟨x, hx, rfl⟩
    rw [hkeys] at h1
    obtain ⟨s, h2, h3⟩ := List.mem_map.1 h1
    obtain ⟨p, h4, h5⟩ := List.mem_map.1 h2
    exact ⟨s, h3.symm, by rw [← h5]; exact hs p h4⟩
  have hrd2 : ∀ x ∈ es.toList, ∃ s : ByteArray, x.key = .string s ∧ Go.WideElems.rd (H := Unit) P kt (fun _ => some (.lit (.bool true), [])) x = some (.string s.data.toList, .lit (.bool true)) := fun x hx => by
    obtain ⟨s, h1, h2⟩ := hrd x hx
    refine ⟨s, h1, ?_⟩
    simp [Go.WideElems.rd, keyOf, ht, mapKey, h1, h2]
  refine ⟨_, ⟨es, clock, hb, ⟨by rw [h.length]; exact hl, ⟨h.lt, ?_, ?_⟩, fun x hx => ?_⟩, Nat.le_refl _, rfl⟩, ?_, ?_⟩
  · have := h.born
    rw [List.Nodup, List.pairwise_map]
    exact this.imp (fun {a b} h => by omega)
  · rw [hkeys]
    rw [List.Nodup, List.pairwise_map]
    exact hn.imp (fun {a b} hab e => hab (by injection e))
  · obtain ⟨s, _, h2⟩ := hrd2 x hx
    exact ⟨_, h2⟩
  · have h1 := (sorted_perm (es.toList.map (Go.WideElems.rg (H := Unit) P kt (fun _ => some (.lit (.bool true), []))))).map (fun p => strOf p.1)
    refine List.Perm.trans h1 ?_
    have e : (es.toList.map (Go.WideElems.rg (H := Unit) P kt (fun _ => some (.lit (.bool true), [])))).map (fun p => strOf p.1) = l.map (fun p => p.1.data.toList) := by
      have e1 : (es.toList.map (Go.WideElems.rg (H := Unit) P kt (fun _ => some (.lit (.bool true), [])))).map (fun p => strOf p.1) = (es.toList.map (·.key)).map (fun v => match v with | .string s => s.data.toList | _ => []) := by
        rw [List.map_map, List.map_map]
        refine List.map_congr_left fun x hx => ?_
        obtain ⟨s, h2, h3⟩ := hrd2 x hx
        simp [Go.WideElems.rg, h3, h2, strOf]
      rw [e1, hkeys, List.map_map, List.map_map]
      rfl
    rw [e]
  · have h1 := (sorted_perm (es.toList.map (Go.WideElems.rg (H := Unit) P kt (fun _ => some (.lit (.bool true), []))))).length_eq
    show (List.foldr DataW.insert [] _).length = _
    rw [h1, List.length_map, ← h.length]
    simp
theorem sorted_perm_S {l : List ByteArray} {ss : List (List UInt8)} (h : ss.Perm (l.map fun b => b.data.toList)) : ss.mergeSort (fun x y => decide (x ≤ y)) = (sortedS l).map (fun b => b.data.toList) := by
  rw [sorted_S]
  have le : ∀ a b c : List UInt8, decide (a ≤ b) = true → decide (b ≤ c) = true → decide (a ≤ c) = true := fun a b c h1 h2 => by
    simp only [decide_eq_true_eq] at *
    exact List.le_trans h1 h2
  have tot : ∀ a b : List UInt8, (decide (a ≤ b) || decide (b ≤ a)) = true := fun a b => by
    simp only [Bool.or_eq_true, decide_eq_true_eq]
    exact List.le_total a b
  refine List.Perm.eq_of_pairwise (le := fun a b => decide (a ≤ b) = true) (fun a b _ _ h1 h2 => List.le_antisymm (by simpa using h1) (by simpa using h2)) (List.pairwise_mergeSort le tot _) (List.pairwise_mergeSort le tot _) ?_
  exact (List.mergeSort_perm _ _).trans (h.trans (List.mergeSort_perm _ _).symm)
section
variable {P : Program} {ρk ρt ρm : Ren}
theorem keysS_gives (LK : SlLaysZ.n7 P ρk) (LT : SlLaysZ.n6 P ρt) (LM : SlLaysM.n6 P ρm) (h9 : ρt.f 9 = ρm.f 6) (hK : P.underlying (ρk.t 26) = some .string) (eg : ∀ args w, (callFunc (ρk.f 10) args).run P w = .ok (.enter (ρk.f 10) args) w) (es : ∀ args w, (callFunc (ρt.f 9) args).run P w = .ok (.enter (ρt.f 9) args) w)
    {β : Type} {vf : β → Value} {l : List (ByteArray × β)} {b : Nat} {mv : Value} {t : TypeId} {W : World} {r : List ByteArray} (hb : W.heap[b]? = some (.cells #[mv] t (0, 0))) (hm : MapAt Value.string vf (hp W) mv l) (hk : keysS l = some r) :
    GivesRow false P (ρt.f 6) [.func (.func (ρk.f 10)) #[] #[.pointer (some ⟨b, 0, none⟩)]] W (ρt.t 26) encSk 1 r := by
  unfold keysS at hk
  split at hk
  case isFalse => cases hk
  rename_i hc
  obtain ⟨hc1, hc2, hc3⟩ := hc
  cases hk
  have hblt : b < W.heap.size := (Array.getElem?_eq_some_iff.1 hb).1
  have hcell : W.cell? ⟨b, 0, none⟩ = some mv := by simp [World.cell?, hb]
  have hsort : AnyZ.SortsIn P ρt Fence.wide 4 :=
    ⟨fun blk off cap ss W hH hblk hsz => callsIn_wide.2 (by rw [h9]; exact AnyM.slices_Sort_string LM blk off cap ss W hH hblk hsz), fun p cap W => callsIn_wide.2 (by rw [h9]; exact AnyM.slices_Sort_string_none LM p cap W)⟩
  have hseq : SeqGives Fence.wide 2 P (ρk.f 10) #[.pointer (some ⟨b, 0, none⟩)] encStr (fun ss => ss.Perm ((l.map (·.1)).map fun b => b.data.toList)) l.length W := by
    rcases hm with ⟨rfl, rfl⟩ | ⟨m, es, clock, rfl, hmb, hmap⟩
    · have := AnyZ.keys_gives_nil (ρ := ρk) { LK with } Fence.wide 2 trivial rfl b W hblt hcell
      intro l' J W' hW hJ hY h0
      refine CallsIn.mono (this l' J W' hW hJ hY h0) ?_
      rintro e w' ⟨hv, ss, rfl, hj⟩
      exact ⟨hv, [], List.Perm.refl _, hj⟩
    · obtain ⟨D, hown, hperm, hsz⟩ := owns_of_map hK hmap hc1 hc2 (by unfold maxLen; omega) hmb
      have := AnyZ.keys_gives (ρ := ρk) { LK with } Fence.wide 2 trivial rfl (by omega) b m es.size D W hblt hcell hown
      intro l' J W' hW hJ hY h0
      refine CallsIn.mono (this l' J W' hW hJ (by rw [hsz]; exact hY) h0) ?_
      rintro e w' ⟨hv, ss, hp, hj⟩
      refine ⟨hv, ss, ?_, hj⟩
      rw [List.map_map]
      exact hp.trans hperm
  have cS := AnyZ.sorted_in LT Fence.wide 5 trivial trivial trivial trivial rfl (by omega) hsort es (ρk.f 10) #[.pointer (some ⟨b, 0, none⟩)] trivial eg _ l.length (by unfold maxLen; omega) hc3 W hseq
  refine Calls.mono (callsIn_wide.1 cS) ?_
  rintro e w' ⟨v, ss, rfl, hS, hrow, hnil, hbel⟩
  have hs := sorted_perm_S hS
  have hlen : ss.length = (sortedS (l.map (·.1))).length := by
    have := congrArg List.length hs
    simpa using this
  have hflat : (ss.mergeSort (fun x y => decide (x ≤ y))).map encStr = ((sortedS (l.map (·.1))).map encSk).flatten := by
    rw [hs, flat_S, List.map_map]
    refine List.map_congr_left (fun x _ => ?_)
    simp only [Function.comp, encStr]
  rcases hrow.2 with ⟨rfl, h0⟩ | ⟨g, cap, cur, rfl, hbase, hg, hnc, hcm, hcs, htk⟩
  · have : sortedS (l.map (·.1)) = [] := List.eq_nil_of_length_eq_zero (by omega)
    rw [this]
    exact ⟨_, [], rfl, Back.of_ex ⟨hbel.os, hbel.tape, hbel.output, fun h => (by cases h), hbel.size, fun b hb => hbel.block b hb⟩ (fun _ _ h => by cases h) (by simp), Row.nil _ _ _⟩
  · refine ⟨_, [(g, .cells cur (ρt.t 26) (0, 0))], rfl, Back.of_ex ⟨hbel.os, hbel.tape, hbel.output, fun h => (by cases h), hbel.size, fun b hb => hbel.block b hb⟩ (fun b o h => by simp at h; obtain ⟨rfl, rfl⟩ := h; exact ⟨hg, hbase⟩) (by simp), .inr ⟨g, cap, cur, by rw [hlen], rfl, by omega, hcm, hcs, ?_⟩⟩
    rw [← hlen, htk, hflat]
end
end Go.Proofs.YtmlncblocfcmiaaGreat
namespace Go.Proofs.YtmlncblocfcmiaaGreat
def ren230 : Go.Shelf.Ren := ⟨fun | 6 => 230 | 15 => 322 | 14 => 321 | 28 => 367 | 29 => 368 | 20 => 359 | 21 => 360 | 22 => 361 | 23 => 362 | 24 => 363 | 25 => 364 | 26 => 365 | 27 => 366 | 46 => 410 | 47 => 411 | 48 => 412 | 49 => 413 | 50 => 414 | 57 => 449 | n => n, fun | 22 => 22 | 24 => 53 | 25 => 194 | 3 => 3 | 39 => 353 | 0 => 0 | 53 => 389 | 55 => 309 | 4 => 4 | 46 => 383 | 45 => 382 | 50 => 39 | 5 => 5 | 9 => 9 | 66 => 419 | 70 => 423 | 76 => 446 | 77 => 274 | n => n, fun | n => n⟩
theorem lay230 : Go.Proofs.SlLaysF0.n6 Tryz.prog ren230 := {
  mixed := by kernel_rfl,
  f6 := ⟨Tryz.f230.name, by decide, Tryz.func230.trans (congrArg some (by kernel_rfl))⟩,
  f14 := ⟨Tryz.f321.name, by decide, Tryz.func321.trans (congrArg some (by kernel_rfl))⟩,
  f15 := Tryz.func322.trans (congrArg some (by kernel_rfl)),
  f20 := ⟨Tryz.f359.name, by decide, Tryz.func359.trans (congrArg some (by kernel_rfl))⟩,
  f21 := ⟨Tryz.f360.name, by decide, Tryz.func360.trans (congrArg some (by kernel_rfl))⟩,
  f22 := ⟨Tryz.f361.name, by decide, Tryz.func361.trans (congrArg some (by kernel_rfl))⟩,
  f23 := ⟨Tryz.f362.name, by decide, Tryz.func362.trans (congrArg some (by kernel_rfl))⟩,
  f24 := ⟨Tryz.f363.name, by decide, Tryz.func363.trans (congrArg some (by kernel_rfl))⟩,
  f25 := ⟨Tryz.f364.name, by decide, Tryz.func364.trans (congrArg some (by kernel_rfl))⟩,
  f26 := ⟨Tryz.f365.name, by decide, Tryz.func365.trans (congrArg some (by kernel_rfl))⟩,
  f27 := ⟨Tryz.f366.name, by decide, Tryz.func366.trans (congrArg some (by kernel_rfl))⟩,
  f28 := Tryz.func367.trans (congrArg some (by kernel_rfl)),
  f29 := Tryz.func368.trans (congrArg some (by kernel_rfl)),
  f46 := ⟨Tryz.f410.name, by decide, Tryz.func410.trans (congrArg some (by kernel_rfl))⟩,
  f47 := Tryz.func411.trans (congrArg some (by kernel_rfl)),
  f48 := Tryz.func412.trans (congrArg some (by kernel_rfl)),
  f49 := ⟨Tryz.f413.name, by decide, Tryz.func413.trans (congrArg some (by kernel_rfl))⟩,
  f50 := ⟨Tryz.f414.name, by decide, Tryz.func414.trans (congrArg some (by kernel_rfl))⟩,
  f57 := ⟨Tryz.f449.name, by decide, Tryz.func449.trans (congrArg some (by kernel_rfl))⟩,
  t0 := Tryz.underlying0,
  a0 := Tryz.isAgg0,
  z0 := Tryz.sizeOf0,
  v0 := Tryz.zeroValue0,
  t3 := Tryz.underlying3,
  a3 := Tryz.isAgg3,
  z3 := Tryz.sizeOf3,
  v3 := Tryz.zeroValue3,
  t4 := Tryz.underlying4,
  a4 := Tryz.isAgg4,
  z4 := Tryz.sizeOf4,
  v4 := Tryz.zeroValue4,
  t5 := Tryz.underlying5,
  a5 := Tryz.isAgg5,
  z5 := Tryz.sizeOf5,
  v5 := Tryz.zeroValue5,
  t9 := Tryz.underlying9,
  a9 := Tryz.isAgg9,
  z9 := Tryz.sizeOf9,
  v9 := Tryz.zeroValue9,
  t22 := Tryz.underlying22,
  a22 := Tryz.isAgg22,
  z22 := Tryz.sizeOf22,
  v22 := Tryz.zeroValue22,
  t25 := Tryz.underlying194,
  a25 := Tryz.isAgg194,
  z25 := Tryz.sizeOf194,
  v25 := Tryz.zeroValue194,
  t39 := Tryz.underlying353,
  a39 := Tryz.isAgg353,
  z39 := Tryz.sizeOf353,
  v39 := Tryz.zeroValue353,
  t45 := Tryz.underlying382,
  a45 := Tryz.isAgg382,
  z45 := Tryz.sizeOf382,
  v45 := Tryz.zeroValue382,
  t46 := Tryz.underlying383,
  a46 := Tryz.isAgg383,
  z46 := Tryz.sizeOf383,
  v46 := Tryz.zeroValue383,
  t50 := Tryz.underlying39,
  a50 := Tryz.isAgg39,
  z50 := Tryz.sizeOf39,
  v50 := Tryz.zeroValue39,
  t53 := Tryz.underlying389,
  a53 := Tryz.isAgg389,
  z53 := Tryz.sizeOf389,
  v53 := Tryz.zeroValue389,
  t55 := Tryz.underlying309,
  a55 := Tryz.isAgg309,
  z55 := Tryz.sizeOf309,
  v55 := Tryz.zeroValue309,
  t66 := Tryz.underlying419,
  a66 := Tryz.isAgg419,
  z66 := Tryz.sizeOf419,
  v66 := Tryz.zeroValue419,
  t70 := Tryz.underlying423,
  a70 := Tryz.isAgg423,
  z70 := Tryz.sizeOf423,
  v70 := Tryz.zeroValue423,
  t76 := Tryz.underlying446,
  a76 := Tryz.isAgg446,
  z76 := Tryz.sizeOf446,
  v76 := Tryz.zeroValue446,
  t77 := Tryz.underlying274,
  a77 := Tryz.isAgg274,
  z77 := Tryz.sizeOf274,
  v77 := Tryz.zeroValue274}
def ren264 : Go.Shelf.Ren := ⟨fun | 6 => 264 | 15 => 322 | 14 => 340 | 28 => 367 | 29 => 368 | 20 => 387 | 21 => 388 | 22 => 389 | 23 => 390 | 24 => 391 | 25 => 392 | 26 => 393 | 27 => 394 | 46 => 423 | 47 => 411 | 48 => 412 | 49 => 424 | 50 => 425 | 57 => 453 | n => n, fun | 22 => 68 | 24 => 38 | 25 => 316 | 3 => 3 | 39 => 353 | 0 => 0 | 53 => 389 | 55 => 309 | 4 => 4 | 46 => 383 | 45 => 382 | 50 => 39 | 5 => 5 | 9 => 9 | 66 => 419 | 70 => 423 | 76 => 446 | 77 => 274 | n => n, fun | n => n⟩
theorem lay264 : Go.Proofs.SlLaysF0.n6 Tryz.prog ren264 := {
  mixed := by kernel_rfl,
  f6 := ⟨Tryz.f264.name, by decide, Tryz.func264.trans (congrArg some (by kernel_rfl))⟩,
  f14 := ⟨Tryz.f340.name, by decide, Tryz.func340.trans (congrArg some (by kernel_rfl))⟩,
  f15 := Tryz.func322.trans (congrArg some (by kernel_rfl)),
  f20 := ⟨Tryz.f387.name, by decide, Tryz.func387.trans (congrArg some (by kernel_rfl))⟩,
  f21 := ⟨Tryz.f388.name, by decide, Tryz.func388.trans (congrArg some (by kernel_rfl))⟩,
  f22 := ⟨Tryz.f389.name, by decide, Tryz.func389.trans (congrArg some (by kernel_rfl))⟩,
  f23 := ⟨Tryz.f390.name, by decide, Tryz.func390.trans (congrArg some (by kernel_rfl))⟩,
  f24 := ⟨Tryz.f391.name, by decide, Tryz.func391.trans (congrArg some (by kernel_rfl))⟩,
  f25 := ⟨Tryz.f392.name, by decide, Tryz.func392.trans (congrArg some (by kernel_rfl))⟩,
  f26 := ⟨Tryz.f393.name, by decide, Tryz.func393.trans (congrArg some (by kernel_rfl))⟩,
  f27 := ⟨Tryz.f394.name, by decide, Tryz.func394.trans (congrArg some (by kernel_rfl))⟩,
  f28 := Tryz.func367.trans (congrArg some (by kernel_rfl)),
  f29 := Tryz.func368.trans (congrArg some (by kernel_rfl)),
  f46 := ⟨Tryz.f423.name, by decide, Tryz.func423.trans (congrArg some (by kernel_rfl))⟩,
  f47 := Tryz.func411.trans (congrArg some (by kernel_rfl)),
  f48 := Tryz.func412.trans (congrArg some (by kernel_rfl)),
  f49 := ⟨Tryz.f424.name, by decide, Tryz.func424.trans (congrArg some (by kernel_rfl))⟩,
  f50 := ⟨Tryz.f425.name, by decide, Tryz.func425.trans (congrArg some (by kernel_rfl))⟩,
  f57 := ⟨Tryz.f453.name, by decide, Tryz.func453.trans (congrArg some (by kernel_rfl))⟩,
  t0 := Tryz.underlying0,
  a0 := Tryz.isAgg0,
  z0 := Tryz.sizeOf0,
  v0 := Tryz.zeroValue0,
  t3 := Tryz.underlying3,
  a3 := Tryz.isAgg3,
  z3 := Tryz.sizeOf3,
  v3 := Tryz.zeroValue3,
  t4 := Tryz.underlying4,
  a4 := Tryz.isAgg4,
  z4 := Tryz.sizeOf4,
  v4 := Tryz.zeroValue4,
  t5 := Tryz.underlying5,
  a5 := Tryz.isAgg5,
  z5 := Tryz.sizeOf5,
  v5 := Tryz.zeroValue5,
  t9 := Tryz.underlying9,
  a9 := Tryz.isAgg9,
  z9 := Tryz.sizeOf9,
  v9 := Tryz.zeroValue9,
  t22 := Tryz.underlying68,
  a22 := Tryz.isAgg68,
  z22 := Tryz.sizeOf68,
  v22 := Tryz.zeroValue68,
  t25 := Tryz.underlying316,
  a25 := Tryz.isAgg316,
  z25 := Tryz.sizeOf316,
  v25 := Tryz.zeroValue316,
  t39 := Tryz.underlying353,
  a39 := Tryz.isAgg353,
  z39 := Tryz.sizeOf353,
  v39 := Tryz.zeroValue353,
  t45 := Tryz.underlying382,
  a45 := Tryz.isAgg382,
  z45 := Tryz.sizeOf382,
  v45 := Tryz.zeroValue382,
  t46 := Tryz.underlying383,
  a46 := Tryz.isAgg383,
  z46 := Tryz.sizeOf383,
  v46 := Tryz.zeroValue383,
  t50 := Tryz.underlying39,
  a50 := Tryz.isAgg39,
  z50 := Tryz.sizeOf39,
  v50 := Tryz.zeroValue39,
  t53 := Tryz.underlying389,
  a53 := Tryz.isAgg389,
  z53 := Tryz.sizeOf389,
  v53 := Tryz.zeroValue389,
  t55 := Tryz.underlying309,
  a55 := Tryz.isAgg309,
  z55 := Tryz.sizeOf309,
  v55 := Tryz.zeroValue309,
  t66 := Tryz.underlying419,
  a66 := Tryz.isAgg419,
  z66 := Tryz.sizeOf419,
  v66 := Tryz.zeroValue419,
  t70 := Tryz.underlying423,
  a70 := Tryz.isAgg423,
  z70 := Tryz.sizeOf423,
  v70 := Tryz.zeroValue423,
  t76 := Tryz.underlying446,
  a76 := Tryz.isAgg446,
  z76 := Tryz.sizeOf446,
  v76 := Tryz.zeroValue446,
  t77 := Tryz.underlying274,
  a77 := Tryz.isAgg274,
  z77 := Tryz.sizeOf274,
  v77 := Tryz.zeroValue274}
def ren273 : Go.Shelf.Ren := ⟨fun | 6 => 273 | 8 => 322 | 9 => 343 | 19 => 367 | 20 => 368 | 21 => 396 | 22 => 397 | 23 => 398 | 24 => 399 | 25 => 400 | 26 => 401 | 27 => 402 | 28 => 403 | 29 => 404 | 36 => 426 | 31 => 411 | 32 => 412 | 37 => 427 | 38 => 428 | 39 => 429 | 41 => 454 | n => n, fun | 27 => 82 | 29 => 9 | 3 => 3 | 32 => 353 | 26 => 82 | 0 => 0 | 44 => 389 | 46 => 309 | 4 => 4 | 36 => 383 | 35 => 382 | 41 => 39 | 5 => 5 | 9 => 9 | 53 => 419 | 57 => 423 | 63 => 446 | 64 => 274 | n => n, fun | n => n⟩
theorem lay273 : Go.Proofs.SlLaysM.n6 Tryz.prog ren273 := {
  mixed := by kernel_rfl,
  f6 := ⟨Tryz.f273.name, by decide, Tryz.func273.trans (congrArg some (by kernel_rfl))⟩,
  f8 := Tryz.func322.trans (congrArg some (by kernel_rfl)),
  f9 := ⟨Tryz.f343.name, by decide, Tryz.func343.trans (congrArg some (by kernel_rfl))⟩,
  f19 := Tryz.func367.trans (congrArg some (by kernel_rfl)),
  f20 := Tryz.func368.trans (congrArg some (by kernel_rfl)),
  f21 := ⟨Tryz.f396.name, by decide, Tryz.func396.trans (congrArg some (by kernel_rfl))⟩,
  f22 := ⟨Tryz.f397.name, by decide, Tryz.func397.trans (congrArg some (by kernel_rfl))⟩,
  f23 := ⟨Tryz.f398.name, by decide, Tryz.func398.trans (congrArg some (by kernel_rfl))⟩,
  f24 := ⟨Tryz.f399.name, by decide, Tryz.func399.trans (congrArg some (by kernel_rfl))⟩,
  f25 := ⟨Tryz.f400.name, by decide, Tryz.func400.trans (congrArg some (by kernel_rfl))⟩,
  f26 := ⟨Tryz.f401.name, by decide, Tryz.func401.trans (congrArg some (by kernel_rfl))⟩,
  f27 := ⟨Tryz.f402.name, by decide, Tryz.func402.trans (congrArg some (by kernel_rfl))⟩,
  f28 := ⟨Tryz.f403.name, by decide, Tryz.func403.trans (congrArg some (by kernel_rfl))⟩,
  f29 := ⟨Tryz.f404.name, by decide, Tryz.func404.trans (congrArg some (by kernel_rfl))⟩,
  f31 := Tryz.func411.trans (congrArg some (by kernel_rfl)),
  f32 := Tryz.func412.trans (congrArg some (by kernel_rfl)),
  f36 := ⟨Tryz.f426.name, by decide, Tryz.func426.trans (congrArg some (by kernel_rfl))⟩,
  f37 := ⟨Tryz.f427.name, by decide, Tryz.func427.trans (congrArg some (by kernel_rfl))⟩,
  f38 := ⟨Tryz.f428.name, by decide, Tryz.func428.trans (congrArg some (by kernel_rfl))⟩,
  f39 := ⟨Tryz.f429.name, by decide, Tryz.func429.trans (congrArg some (by kernel_rfl))⟩,
  f41 := ⟨Tryz.f454.name, by decide, Tryz.func454.trans (congrArg some (by kernel_rfl))⟩,
  t0 := Tryz.underlying0,
  a0 := Tryz.isAgg0,
  z0 := Tryz.sizeOf0,
  v0 := Tryz.zeroValue0,
  t3 := Tryz.underlying3,
  a3 := Tryz.isAgg3,
  z3 := Tryz.sizeOf3,
  v3 := Tryz.zeroValue3,
  t4 := Tryz.underlying4,
  a4 := Tryz.isAgg4,
  z4 := Tryz.sizeOf4,
  v4 := Tryz.zeroValue4,
  t5 := Tryz.underlying5,
  a5 := Tryz.isAgg5,
  z5 := Tryz.sizeOf5,
  v5 := Tryz.zeroValue5,
  t9 := Tryz.underlying9,
  a9 := Tryz.isAgg9,
  z9 := Tryz.sizeOf9,
  v9 := Tryz.zeroValue9,
  t26 := Tryz.underlying82,
  a26 := Tryz.isAgg82,
  z26 := Tryz.sizeOf82,
  v26 := Tryz.zeroValue82,
  t27 := Tryz.underlying82,
  a27 := Tryz.isAgg82,
  z27 := Tryz.sizeOf82,
  v27 := Tryz.zeroValue82,
  t29 := Tryz.underlying9,
  a29 := Tryz.isAgg9,
  z29 := Tryz.sizeOf9,
  v29 := Tryz.zeroValue9,
  t32 := Tryz.underlying353,
  a32 := Tryz.isAgg353,
  z32 := Tryz.sizeOf353,
  v32 := Tryz.zeroValue353,
  t35 := Tryz.underlying382,
  a35 := Tryz.isAgg382,
  z35 := Tryz.sizeOf382,
  v35 := Tryz.zeroValue382,
  t36 := Tryz.underlying383,
  a36 := Tryz.isAgg383,
  z36 := Tryz.sizeOf383,
  v36 := Tryz.zeroValue383,
  t41 := Tryz.underlying39,
  a41 := Tryz.isAgg39,
  z41 := Tryz.sizeOf39,
  v41 := Tryz.zeroValue39,
  t44 := Tryz.underlying389,
  a44 := Tryz.isAgg389,
  z44 := Tryz.sizeOf389,
  v44 := Tryz.zeroValue389,
  t46 := Tryz.underlying309,
  a46 := Tryz.isAgg309,
  z46 := Tryz.sizeOf309,
  v46 := Tryz.zeroValue309,
  t53 := Tryz.underlying419,
  a53 := Tryz.isAgg419,
  z53 := Tryz.sizeOf419,
  v53 := Tryz.zeroValue419,
  t57 := Tryz.underlying423,
  a57 := Tryz.isAgg423,
  z57 := Tryz.sizeOf423,
  v57 := Tryz.zeroValue423,
  t63 := Tryz.underlying446,
  a63 := Tryz.isAgg446,
  z63 := Tryz.sizeOf446,
  v63 := Tryz.zeroValue446,
  t64 := Tryz.underlying274,
  a64 := Tryz.isAgg274,
  z64 := Tryz.sizeOf274,
  v64 := Tryz.zeroValue274}
def renK327 : Go.Shelf.Ren := ⟨fun | 7 => 234 | 10 => 327 | n => n, fun | 23 => 296 | 26 => 9 | 3 => 4 | 28 => 223 | 0 => 0 | 27 => 222 | 33 => 214 | 4 => 4 | n => n, fun | n => n⟩
theorem layK327 : Go.Proofs.SlLaysZ.n7 Tryz.prog renK327 := {
  mixed := by kernel_rfl,
  f7 := ⟨Tryz.f234.name, by decide, Tryz.func234.trans (congrArg some (by kernel_rfl))⟩,
  f10 := ⟨Tryz.f327.name, by decide, Tryz.func327.trans (congrArg some (by kernel_rfl))⟩,
  t0 := Tryz.underlying0,
  a0 := Tryz.isAgg0,
  z0 := Tryz.sizeOf0,
  v0 := Tryz.zeroValue0,
  t4 := Tryz.underlying4,
  a4 := Tryz.isAgg4,
  z4 := Tryz.sizeOf4,
  v4 := Tryz.zeroValue4,
  t23 := Tryz.underlying296,
  a23 := Tryz.isAgg296,
  z23 := Tryz.sizeOf296,
  v23 := Tryz.zeroValue296,
  t26 := Tryz.underlying9,
  a26 := Tryz.isAgg9,
  z26 := Tryz.sizeOf9,
  v26 := Tryz.zeroValue9,
  t27 := Tryz.underlying222,
  a27 := Tryz.isAgg222,
  z27 := Tryz.sizeOf222,
  v27 := Tryz.zeroValue222,
  t28 := Tryz.underlying223,
  a28 := Tryz.isAgg223,
  z28 := Tryz.sizeOf223,
  v28 := Tryz.zeroValue223,
  t33 := Tryz.underlying214,
  a33 := Tryz.isAgg214,
  z33 := Tryz.sizeOf214,
  v33 := Tryz.zeroValue214}
def renT159 : Go.Shelf.Ren := ⟨fun | 6 => 159 | 8 => 272 | 9 => 273 | 11 => 342 | 13 => 322 | 12 => 343 | 23 => 367 | 24 => 368 | 14 => 396 | 15 => 397 | 16 => 398 | 17 => 399 | 18 => 400 | 19 => 401 | 20 => 402 | 21 => 403 | 22 => 404 | 25 => 426 | 26 => 411 | 27 => 412 | 28 => 427 | 29 => 428 | 30 => 429 | 31 => 454 | n => n, fun | 26 => 9 | 28 => 223 | 24 => 82 | 0 => 0 | 3 => 3 | 37 => 353 | 48 => 389 | 50 => 309 | 4 => 4 | 40 => 383 | 39 => 382 | 45 => 39 | 5 => 5 | 9 => 9 | 51 => 419 | 55 => 423 | 57 => 446 | 58 => 274 | 33 => 214 | n => n, fun | n => n⟩
theorem layT159 : Go.Proofs.SlLaysZ.n6 Tryz.prog renT159 := {
  mixed := by kernel_rfl,
  f6 := ⟨Tryz.f159.name, by decide, Tryz.func159.trans (congrArg some (by kernel_rfl))⟩,
  f8 := ⟨Tryz.f272.name, by decide, Tryz.func272.trans (congrArg some (by kernel_rfl))⟩,
  f11 := ⟨Tryz.f342.name, by decide, Tryz.func342.trans (congrArg some (by kernel_rfl))⟩,
  t0 := Tryz.underlying0,
  a0 := Tryz.isAgg0,
  z0 := Tryz.sizeOf0,
  v0 := Tryz.zeroValue0,
  t24 := Tryz.underlying82,
  a24 := Tryz.isAgg82,
  z24 := Tryz.sizeOf82,
  v24 := Tryz.zeroValue82,
  t26 := Tryz.underlying9,
  a26 := Tryz.isAgg9,
  z26 := Tryz.sizeOf9,
  v26 := Tryz.zeroValue9,
  t28 := Tryz.underlying223,
  a28 := Tryz.isAgg223,
  z28 := Tryz.sizeOf223,
  v28 := Tryz.zeroValue223,
  i26 := by kernel_rfl}
end Go.Proofs.YtmlncblocfcmiaaGreat
namespace Go.Proofs.YtmlncblocfcmiaaGreat
open Go.RowKit
set_option maxRecDepth 10000
structure Role where
  Owner : ByteArray
  Word : ByteArray
def encRole (x : Role) : List Value := [.string x.Owner, .string x.Word]
def beqRole (x y : Role) : Bool := (beqS x.Owner y.Owner) && ((beqS x.Word y.Word) && true)
theorem beqRole_iff {x y : Role} : beqRole x y = true ↔ x = y := by
  cases x; cases y; simp [beqRole, beqS_iff]
theorem lenRole (x : Role) : (encRole x).length = 2 := rfl
theorem oneRole (x : Role) : ∀ u ∈ encRole x, u.oneCell' = true := by
  intro u hu
  simp only [encRole, List.mem_cons, List.not_mem_nil, or_false] at hu
  rcases hu with rfl | rfl <;> rfl
structure Cred where
  Kind : Int
  Head : Role
  Who : ByteArray
  B : Role
  C : Role
  Word2 : ByteArray
def encCred (x : Cred) : List Value := [.int .i64 x.Kind, .string x.Head.Owner, .string x.Head.Word, .string x.Who, .string x.B.Owner, .string x.B.Word, .string x.C.Owner, .string x.C.Word, .string x.Word2]
def beqCred (x y : Cred) : Bool := (x.Kind == y.Kind) && ((beqRole x.Head y.Head) && ((beqS x.Who y.Who) && ((beqRole x.B y.B) && ((beqRole x.C y.C) && ((beqS x.Word2 y.Word2) && true)))))
theorem beqCred_iff {x y : Cred} : beqCred x y = true ↔ x = y := by
  cases x; cases y; simp [beqCred, beqS_iff, beqRole_iff]
theorem lenCred (x : Cred) : (encCred x).length = 9 := rfl
theorem oneCred (x : Cred) : ∀ u ∈ encCred x, u.oneCell' = true := by
  intro u hu
  simp only [encCred, List.mem_cons, List.not_mem_nil, or_false] at hu
  rcases hu with rfl | rfl | rfl | rfl | rfl | rfl | rfl | rfl | rfl <;> rfl
structure Fact where
  Role : Role
  Who : ByteArray
def encFact (x : Fact) : List Value := [.string x.Role.Owner, .string x.Role.Word, .string x.Who]
def beqFact (x y : Fact) : Bool := (beqRole x.Role y.Role) && ((beqS x.Who y.Who) && true)
theorem beqFact_iff {x y : Fact} : beqFact x y = true ↔ x = y := by
  cases x; cases y; simp [beqFact, beqS_iff, beqRole_iff]
theorem lenFact (x : Fact) : (encFact x).length = 3 := rfl
theorem oneFact (x : Fact) : ∀ u ∈ encFact x, u.oneCell' = true := by
  intro u hu
  simp only [encFact, List.mem_cons, List.not_mem_nil, or_false] at hu
  rcases hu with rfl | rfl | rfl <;> rfl
structure Step where
  Cred : Cred
  Fact : Fact
def encStep (x : Step) : List Value := [.int .i64 x.Cred.Kind, .string x.Cred.Head.Owner, .string x.Cred.Head.Word, .string x.Cred.Who, .string x.Cred.B.Owner, .string x.Cred.B.Word, .string x.Cred.C.Owner, .string x.Cred.C.Word, .string x.Cred.Word2, .string x.Fact.Role.Owner, .string x.Fact.Role.Word, .string x.Fact.Who]
theorem lenStep (x : Step) : (encStep x).length = 12 := rfl
theorem oneStep (x : Step) : ∀ u ∈ encStep x, u.oneCell' = true := by
  intro u hu
  simp only [encStep, List.mem_cons, List.not_mem_nil, or_false] at hu
  rcases hu with rfl | rfl | rfl | rfl | rfl | rfl | rfl | rfl | rfl | rfl | rfl | rfl <;> rfl
structure Key where
  Who : ByteArray
  Key : List Int
structure Signed where
  Cred : Cred
  Tag : List Int
structure KeysRegistry where
  m : List (ByteArray × (List Int))
noncomputable def m_internal_stringslite_IndexByte (a0 : ByteArray) (a1 : Int) : Option Int :=
  some (xIndexByte a0 a1)
noncomputable def m_strings_IndexByte (a0 : ByteArray) (a1 : Int) : Option Int :=
  (((m_internal_stringslite_IndexByte a0 a1)).bind fun r1 => some r1)
noncomputable def m_name_only_L1  : List Int → Option Bool
  | [] => some true
  | x43 :: xs44 => (((m_strings_IndexByte ((⟨#[97, 98, 99, 100, 101, 102, 103, 104, 105, 106, 107, 108, 109, 110, 111, 112, 113, 114, 115, 116, 117, 118, 119, 120, 121, 122, 48, 49, 50, 51, 52, 53, 54, 55, 56, 57, 45]⟩ : ByteArray)) x43)).bind fun r70 => (if (decide (r70 < 0)) then some false else (m_name_only_L1 xs44)))
noncomputable def m_name_only (a0 : ByteArray) : Option Bool :=
  (((bytesB a0)).bind fun l1 => m_name_only_L1 l1)
noncomputable def m_name_Right (a0 : ByteArray) : Option Bool :=
  (((if (decide (((a0.size : Int)) ≥ 1)) then some ((decide (((a0.size : Int)) ≤ 16))) else some false) : Option Bool).bind fun x2 => (((if x2 then (((idxS a0 0)).bind fun c40 => (((m_strings_IndexByte ((⟨#[97, 98, 99, 100, 101, 102, 103, 104, 105, 106, 107, 108, 109, 110, 111, 112, 113, 114, 115, 116, 117, 118, 119, 120, 121, 122]⟩ : ByteArray)) ((c40.toNat : Int)))).bind fun r42 => some ((decide (r42 ≥ 0))))) else some false) : Option Bool).bind fun x14 => (((if x14 then (((m_name_only a0)).bind fun r33 => some r33) else some false) : Option Bool).bind fun x24 => some x24)))
noncomputable def m_bytes_Clone (a0 : List Int) : Option (List Int) :=
  (((appB 1 ([]) a0)).bind fun l8 => some l8)
noncomputable def m_keys_New_L1  : List Key → (List (ByteArray × (List Int))) → Option ((((Option KeysRegistry)) × Int))
  | [], l393 => some ((some (⟨l393⟩ : KeysRegistry)), 0)
  | x298 :: xs299, l393 => (((m_name_Right x298.Who)).bind fun r523 => (if (!r523) then some (none, 30) else (((if (decide (((x298.Key.length : Int)) < 1)) then some true else some ((decide (((x298.Key.length : Int)) > 32)))) : Option Bool).bind fun x528 => (if x528 then some (none, 21) else (if (mget beqS l393 x298.Who).isSome then some (none, 41) else (((m_bytes_Clone x298.Key)).bind fun r568 => (((mnew beqS l393 x298.Who r568)).bind fun l577 => (m_keys_New_L1 xs299 l577))))))))
noncomputable def m_keys_New (a0 : List Key) : Option ((((Option KeysRegistry)) × Int)) :=
  m_keys_New_L1 a0 ([])
noncomputable def m_role_Right (a0 : Role) : Option Bool :=
  (((m_name_Right a0.Owner)).bind fun r3 => (((if r3 then (((m_name_Right a0.Word)).bind fun r19 => some r19) else some false) : Option Bool).bind fun x10 => some x10))
noncomputable def m_internal_bytealg_CompareString (a0 : ByteArray) (a1 : ByteArray) : Option Int :=
  some (xCompareS a0 a1)
noncomputable def m_strings_Compare (a0 : ByteArray) (a1 : ByteArray) : Option Int :=
  (((m_internal_bytealg_CompareString a0 a1)).bind fun r1 => some r1)
noncomputable def m_cmp_Or_int_L1  : List Int → Option Int
  | [] => some 0
  | x27 :: xs28 => (if (x27 != 0) then some x27 else (m_cmp_Or_int_L1 xs28))
noncomputable def m_cmp_Or_int (a0 : List Int) : Option Int :=
  m_cmp_Or_int_L1 a0
noncomputable def m_role_Compare (a0 : Role) (a1 : Role) : Option Int :=
  (((m_strings_Compare a0.Owner a1.Owner)).bind fun r27 => (((m_strings_Compare a0.Word a1.Word)).bind fun r30 => (((m_cmp_Or_int ([r27, r30]))).bind fun r35 => some r35)))
noncomputable def m_cred_Right (a0 : Cred) : Option Bool :=
  (((m_role_Right a0.Head)).bind fun r6 => (((if (a0.Kind == 1) then (((if r6 then (((m_name_Right a0.Who)).bind fun r330 => some r330) else some false) : Option Bool).bind fun x316 => some (Sum.inr (x316, ((⟨a0.Kind, a0.Head, a0.Who, (⟨zS, zS⟩ : Role), (⟨zS, zS⟩ : Role), zS⟩ : Cred))))) else (if (a0.Kind == 2) then (((if r6 then (((m_role_Right a0.B)).bind fun r393 => some r393) else some false) : Option Bool).bind fun x379 => some (Sum.inr (x379, ((⟨a0.Kind, a0.Head, zS, a0.B, (⟨zS, zS⟩ : Role), zS⟩ : Cred))))) else (if (a0.Kind == 3) then (((if r6 then (((m_role_Right a0.B)).bind fun r448 => some r448) else some false) : Option Bool).bind fun x407 => (((if x407 then some ((beqS a0.B.Owner a0.Head.Owner)) else some false) : Option Bool).bind fun x415 => (((if x415 then (((m_name_Right a0.Word2)).bind fun r437 => some r437) else some false) : Option Bool).bind fun x426 => some (Sum.inr (x426, ((⟨a0.Kind, a0.Head, zS, a0.B, (⟨zS, zS⟩ : Role), a0.Word2⟩ : Cred))))))) else (if (a0.Kind == 4) then (((if r6 then (((m_role_Right a0.B)).bind fun r509 => some r509) else some false) : Option Bool).bind fun x462 => (((if x462 then (((m_role_Right a0.C)).bind fun r502 => some r502) else some false) : Option Bool).bind fun x473 => (((if x473 then (((m_role_Compare a0.B a0.C)).bind fun r495 => some ((decide (r495 < 0)))) else some false) : Option Bool).bind fun x484 => some (Sum.inr (x484, ((⟨a0.Kind, a0.Head, zS, a0.B, a0.C, zS⟩ : Cred))))))) else some (Sum.inl false))))) : Option ((Bool ⊕ ((Bool × Cred))))).bind fun s => match s with | .inl q512 => some q512 | .inr (x251, x252) => (((if x251 then some ((beqCred x252 a0)) else some false) : Option Bool).bind fun x259 => some x259)))
noncomputable def m_keys_Registry_of (a0 : Option KeysRegistry) (a1 : Cred) : Option (((List Int) × Int)) :=
  (if a0.isNone then some ([], 1) else (((m_cred_Right a1)).bind fun r4 => (if (!r4) then some ([], 11) else (a0.bind fun x36 => (if (!((mget beqS x36.m a1.Head.Owner).isSome)) then some ([], 21) else some (((mget beqS x36.m a1.Head.Owner).getD []), 0))))))
noncomputable def m_tape_Pen_Number_w_L1  : Nat → Int → (List Int) → Option ((Bool × (List Int)))
  | 0, _, _ => none
  | n93 + 1, x67, l69 => (if (decide (x67 ≥ 128)) then (((appB 1 l69 ([(IntKind.u8.wrap (BitVec.ofInt (IntKind.bits .u8) ((IntKind.u8.wrap x67)) ||| BitVec.ofInt (IntKind.bits .u8) 128).toNat)]))).bind fun l99 => (m_tape_Pen_Number_w_L1 n93 ((Int.fdiv x67 (2 ^ min (Int.toNat 7) (IntKind.bits .i64)))) l99)) else (((appB 1 l69 ([(IntKind.u8.wrap x67)]))).bind fun l110 => some (true, l110)))
noncomputable def m_tape_Pen_Number_w (a0_b : List Int) (a1 : Int) : Option ((Bool × (List Int))) :=
  (if (decide (a1 < 0)) then some (false, a0_b) else m_tape_Pen_Number_w_L1 FUEL a1 a0_b)
noncomputable def m_tape_Pen_Text_w (a0_b : List Int) (a1 : List Int) : Option ((Bool × (List Int))) :=
  (if (decide (((a1.length : Int)) > 2048)) then some (false, a0_b) else (((m_tape_Pen_Number_w a0_b ((a1.length : Int)))).bind fun r2 => (((appB 1 r2.2 a1)).bind fun l15 => some (true, l15))))
noncomputable def m_name_Put_w (a0_b : List Int) (a1 : ByteArray) : Option ((Bool × (List Int))) :=
  (((m_name_Right a1)).bind fun r1 => (((if r1 then (((bytesB a1)).bind fun l42 => (((m_tape_Pen_Text_w a0_b l42)).bind fun r51 => some (r51.1, r51.2))) else some (false, a0_b)) : Option ((Bool × (List Int)))).bind fun (x28, l30) => some (x28, l30)))
noncomputable def m_role_Put_w (a0_b : List Int) (a1 : Role) : Option ((Bool × (List Int))) :=
  (((m_role_Right a1)).bind fun r3 => (((if r3 then (((m_name_Put_w a0_b a1.Owner)).bind fun r79 => some (r79.1, r79.2)) else some (false, a0_b)) : Option ((Bool × (List Int)))).bind fun (x21, l23) => (((if x21 then (((m_name_Put_w l23 a1.Word)).bind fun r62 => some (r62.1, r62.2)) else some (false, l23)) : Option ((Bool × (List Int)))).bind fun (x48, l50) => some (x48, l50))))
noncomputable def m_tape_Pen_Bytes (a0_b : List Int) : Option (List Int) :=
  (((m_bytes_Clone a0_b)).bind fun r4 => some r4)
noncomputable def m_cred_Bytes (a0 : Cred) : Option (List Int) :=
  (((m_cred_Right a0)).bind fun r3 => (if (!r3) then some [] else (((m_tape_Pen_Number_w ([]) a0.Kind)).bind fun r9 => (((m_role_Put_w r9.2 a0.Head)).bind fun r22 => (((if (a0.Kind == 1) then (((m_name_Put_w r22.2 a0.Who)).bind fun r139 => some r139.2) else (if (a0.Kind == 2) then (((m_role_Put_w r22.2 a0.B)).bind fun r153 => some r153.2) else (if (a0.Kind == 3) then (((m_role_Put_w r22.2 a0.B)).bind fun r167 => (((m_name_Put_w r167.2 a0.Word2)).bind fun r180 => some r180.2)) else (if (a0.Kind == 4) then (((m_role_Put_w r22.2 a0.B)).bind fun r194 => (((m_role_Put_w r194.2 a0.C)).bind fun r207 => some r207.2)) else some r22.2)))) : Option (List Int)).bind fun l119 => (((m_tape_Pen_Bytes l119)).bind fun r126 => some r126))))))
noncomputable def m_tag_right (a0 : List Int) : Option Bool :=
  (((if (decide (((a0.length : Int)) ≥ 1)) then some ((decide (((a0.length : Int)) ≤ 32))) else some false) : Option Bool).bind fun x2 => some x2)
noncomputable def m_tag_Sum_L2  : List Int → Int → Option Int
  | [], x461 => some x461
  | x452 :: xs453, x461 => (m_tag_Sum_L2 xs453 ((IntKind.u64.wrap (((IntKind.u64.wrap (BitVec.ofInt (IntKind.bits .u64) x461 ^^^ BitVec.ofInt (IntKind.bits .u64) ((IntKind.u64.wrap x452))).toNat)) * 1099511628211))))
noncomputable def m_tag_Sum_L1  : List (List Int) → Int → Option Int
  | [], x323 => some x323
  | x242 :: xs243, x323 => ((m_tag_Sum_L2 x242 x323 : Option Int).bind fun x441 => (m_tag_Sum_L1 xs243 x441))
noncomputable def m_tag_Sum (a0 : List (List Int)) : Option Int :=
  m_tag_Sum_L1 a0 14695981039346656037
noncomputable def m_tag_Make_L1 (r13 : Int) : List Int → Nat → (List Int) → Option (List Int)
  | [], _, l83 => some l83
  | x69 :: xs70, i68, l83 => (((chk (decide (0 ≤ ((IntKind.i64.wrap (8 * ((IntKind.i64.wrap (7 - ((i68 : Int)))))))))))).bind fun _ => (((idx l83 ((i68 : Int)))).bind fun x109 => (m_tag_Make_L1 r13 xs70 (i68 + 1) ((l83.set (Int.toNat ((i68 : Int))) ((IntKind.u8.wrap ((Int.fdiv r13 (2 ^ min (Int.toNat ((IntKind.i64.wrap (8 * ((IntKind.i64.wrap (7 - ((i68 : Int))))))))) (IntKind.bits .u64)))))))))))
noncomputable def m_tag_Make (a0 : List Int) (a1 : List Int) : Option (List Int) :=
  (((m_tag_right a0)).bind fun r1 => (if (!r1) then some [] else (((m_tag_Sum ([[(IntKind.u8.wrap ((a0.length : Int)))], a0, a1, a0]))).bind fun r13 => (((makeB2 1 0 8)).bind fun l16 => m_tag_Make_L1 r13 l16 0 l16))))
noncomputable def m_keys_Registry_Sign (a0 : Option KeysRegistry) (a1 : Cred) : Option ((Signed × Int)) :=
  (((m_keys_Registry_of a0 a1)).bind fun r5 => (if (r5.2 != 0) then some ((⟨(⟨0, (⟨zS, zS⟩ : Role), zS, (⟨zS, zS⟩ : Role), (⟨zS, zS⟩ : Role), zS⟩ : Cred), []⟩ : Signed), r5.2) else (((m_cred_Bytes a1)).bind fun r62 => (((m_tag_Make r5.1 r62)).bind fun r71 => some ((⟨a1, r71⟩ : Signed), 0)))))
noncomputable def m_revoke_key_L1 (a1 : Cred) : List Key → Option (((List Int) × ((Option Bool))))
  | [] => some ([], (some true))
  | x50 :: xs51 => (if (beqS x50.Who a1.Head.Owner) then some (x50.Key, (nilOf x50.Key)) else (m_revoke_key_L1 a1 xs51))
noncomputable def m_revoke_key (a0 : List Key) (a1 : Cred) : Option (((List Int) × ((Option Bool)))) :=
  m_revoke_key_L1 a1 a0
noncomputable def m_revoke_body (a0 : Cred) : Option (List Int) :=
  (((m_cred_Bytes a0)).bind fun r5 => (((appB 1 ([255]) r5)).bind fun l14 => some l14))
noncomputable def m_revoke_Make (a0 : List Key) (a1 : Cred) : Option ((Signed × Int)) :=
  (((m_keys_New a0)).bind fun r5 => (((m_revoke_key a0 a1)).bind fun r17 => (if (r5.2 != 0) then some ((⟨(⟨0, (⟨zS, zS⟩ : Role), zS, (⟨zS, zS⟩ : Role), (⟨zS, zS⟩ : Role), zS⟩ : Cred), []⟩ : Signed), r5.2) else (((m_cred_Right a1)).bind fun r33 => (if (!r33) then some ((⟨(⟨0, (⟨zS, zS⟩ : Role), zS, (⟨zS, zS⟩ : Role), (⟨zS, zS⟩ : Role), zS⟩ : Cred), []⟩ : Signed), 11) else (((nilT r17.1 r17.2)).bind fun b39 => (if b39 then some ((⟨(⟨0, (⟨zS, zS⟩ : Role), zS, (⟨zS, zS⟩ : Role), (⟨zS, zS⟩ : Role), zS⟩ : Cred), []⟩ : Signed), 21) else (((m_revoke_body a1)).bind fun r86 => (((m_tag_Make r17.1 r86)).bind fun r95 => some ((⟨a1, r95⟩ : Signed), 0))))))))))
noncomputable def m_slices_Equal_byte_L1 (a1 : List Int) : List Int → Nat → Option Bool
  | [], _ => some true
  | x91 :: xs92, i90 => (((idx a1 ((i90 : Int)))).bind fun x175 => (if (x91 != x175) then some false else (m_slices_Equal_byte_L1 a1 xs92 (i90 + 1))))
noncomputable def m_slices_Equal_byte (a0 : List Int) (a1 : List Int) : Option Bool :=
  (if (((a0.length : Int)) != ((a1.length : Int))) then some false else m_slices_Equal_byte_L1 a1 a0 0)
noncomputable def m_revoke_Good (a0 : List Key) (a1 : Signed) : Option Bool :=
  (((m_revoke_Make a0 a1.Cred)).bind fun r5 => (((if (r5.2 == 0) then (((m_slices_Equal_byte ((r5.1).Tag) a1.Tag)).bind fun r35 => some r35) else some false) : Option Bool).bind fun x26 => some x26))
noncomputable def m_bytes_Equal (a0 : List Int) (a1 : List Int) : Option Bool :=
  some (beqS ((strI a0)) ((strI a1)))
noncomputable def m_tag_Good (a0 : List Int) (a1 : List Int) (a2 : List Int) : Option Bool :=
  (((m_tag_right a0)).bind fun r1 => (((if r1 then (((m_tag_Make a0 a1)).bind fun r28 => (((m_bytes_Equal r28 a2)).bind fun r37 => some r37)) else some false) : Option Bool).bind fun x18 => some x18))
noncomputable def m_keys_Registry_Check (a0 : Option KeysRegistry) (a1 : Signed) : Option Int :=
  (((m_keys_Registry_of a0 a1.Cred)).bind fun r5 => (((if (r5.2 == 0) then (((m_cred_Bytes a1.Cred)).bind fun r114 => (((m_tag_Good r5.1 r114 a1.Tag)).bind fun r123 => some ((!r123)))) else some false) : Option Bool).bind fun x103 => (if x103 then some 20 else some r5.2)))
noncomputable def m_slices_Clone_Cred (a0 : List Cred) : Option (List Cred) :=
  (((appB 136 ([]) a0)).bind fun l8 => some l8)
noncomputable def m_slices_IndexFunc_Cred_L1 (f1 : Cred → Option Bool) : List Cred → Nat → Option Int
  | [], _ => some (-1)
  | x36 :: xs37, i35 => (((f1 x36)).bind fun r65 => (if r65 then some (i35 : Int) else (m_slices_IndexFunc_Cred_L1 f1 xs37 (i35 + 1))))
noncomputable def m_slices_IndexFunc_Cred (a0 : List Cred) (f1 : Cred → Option Bool) : Option Int :=
  m_slices_IndexFunc_Cred_L1 f1 a0 0
noncomputable def m_slices_DeleteFunc_Cred_L1 (f1 : Cred → Option Bool) : Nat → (List Cred) → Int → Int → Option (List Cred)
  | 0, _, _, _ => none
  | n321 + 1, l249, x252, x253 => (if (decide (x253 < ((l249.length : Int)))) then (((((idx l249 x253)).bind fun x364 => (((f1 x364)).bind fun r369 => (if (!r369) then (((idx l249 x252)).bind fun x376 => some (((l249.set (Int.toNat x252) x364)), ((IntKind.i64.wrap (x252 + 1))))) else some (l249, x252)))) : Option (((List Cred) × Int))).bind fun (l348, x351) => (m_slices_DeleteFunc_Cred_L1 f1 n321 l348 x351 ((IntKind.i64.wrap (x253 + 1))))) else (((chk (decide (0 ≤ x252) && decide (x252 ≤ (l249.length : Int))))).bind fun _ => (((chk (decide (0 ≤ x252) && decide (x252 ≤ (((clearT l249 (Int.toNat x252) (⟨0, (⟨zS, zS⟩ : Role), zS, (⟨zS, zS⟩ : Role), (⟨zS, zS⟩ : Role), zS⟩ : Cred))).length : Int))))).bind fun _ => some (((clearT l249 (Int.toNat x252) (⟨0, (⟨zS, zS⟩ : Role), zS, (⟨zS, zS⟩ : Role), (⟨zS, zS⟩ : Role), zS⟩ : Cred))).take (Int.toNat x252)))))
noncomputable def m_slices_DeleteFunc_Cred (a0 : List Cred) (f1 : Cred → Option Bool) : Option (List Cred) :=
  (((m_slices_IndexFunc_Cred a0 f1)).bind fun r1 => (if (r1 == ((-1))) then some a0 else m_slices_DeleteFunc_Cred_L1 f1 FUEL a0 r1 ((IntKind.i64.wrap (r1 + 1)))))
noncomputable def m_cred_Set_c1 (a0 : Cred) : Option Bool :=
  (((m_cred_Right a0)).bind fun r3 => some (!r3))
noncomputable def m_bytes_Compare (a0 : List Int) (a1 : List Int) : Option Int :=
  some (xCompareB a0 a1)
noncomputable def m_cred_Compare (a0 : Cred) (a1 : Cred) : Option Int :=
  (((m_cred_Bytes a0)).bind fun r47 => (((m_cred_Bytes a1)).bind fun r56 => (((m_bytes_Compare r47 r56)).bind fun r65 => some r65)))
noncomputable def m_slices_Compact_Cred_L2 (x2891 : Int) : Nat → (List Cred) → Int → Int → Option (((List Cred) × Int))
  | 0, _, _, _ => none
  | n4232 + 1, l4112, x4115, x4116 => (if (decide (x4116 < (((l4112.length - (Int.toNat x2891) : Nat) : Int)))) then (((((idx (l4112.drop (Int.toNat x2891)) x4116)).bind fun x4319 => (((idx (l4112.drop (Int.toNat x2891)) ((IntKind.i64.wrap (x4116 - 1))))).bind fun x4324 => (if (!(beqCred x4319 x4324)) then (((idx (l4112.drop (Int.toNat x2891)) x4116)).bind fun x4330 => (((idx l4112 x4115)).bind fun x4335 => some (((l4112.set (Int.toNat x4115) x4330)), ((IntKind.i64.wrap (x4115 + 1)))))) else some (l4112, x4115)))) : Option (((List Cred) × Int))).bind fun (l4283, x4286) => (m_slices_Compact_Cred_L2 x2891 n4232 l4283 x4286 ((IntKind.i64.wrap (x4116 + 1))))) else some (l4112, x4115))
noncomputable def m_slices_Compact_Cred_L1 (a0 : List Cred) : Nat → Int → Option (List Cred)
  | 0, _ => none
  | n3617 + 1, x2891 => (if (decide (x2891 < ((a0.length : Int)))) then (((idx a0 x2891)).bind fun x3644 => (((idx a0 ((IntKind.i64.wrap (x2891 - 1))))).bind fun x3649 => (if (beqCred x3644 x3649) then (((chk (decide (0 ≤ x2891) && decide (x2891 ≤ (a0.length : Int))))).bind fun _ => ((m_slices_Compact_Cred_L2 x2891 FUEL a0 x2891 1 : Option (((List Cred) × Int))).bind fun (l3988, x3991) => (((chk (decide (0 ≤ x3991) && decide (x3991 ≤ (l3988.length : Int))))).bind fun _ => (((chk (decide (0 ≤ x3991) && decide (x3991 ≤ (((clearT l3988 (Int.toNat x3991) (⟨0, (⟨zS, zS⟩ : Role), zS, (⟨zS, zS⟩ : Role), (⟨zS, zS⟩ : Role), zS⟩ : Cred))).length : Int))))).bind fun _ => some (((clearT l3988 (Int.toNat x3991) (⟨0, (⟨zS, zS⟩ : Role), zS, (⟨zS, zS⟩ : Role), (⟨zS, zS⟩ : Role), zS⟩ : Cred))).take (Int.toNat x3991)))))) else (m_slices_Compact_Cred_L1 a0 n3617 ((IntKind.i64.wrap (x2891 + 1))))))) else some a0)
noncomputable def m_slices_Compact_Cred (a0 : List Cred) : Option (List Cred) :=
  (if (decide (((a0.length : Int)) < 2)) then some a0 else m_slices_Compact_Cred_L1 a0 FUEL 1)
noncomputable def m_cred_Set (a0 : List Cred) : Option (List Cred) :=
  (((m_slices_Clone_Cred a0)).bind fun r1 => (((m_slices_DeleteFunc_Cred r1 (fun (x : Cred) => m_cred_Set_c1 x))).bind fun r10 => (((sortF (fun (x : (Cred × Cred)) => m_cred_Compare x.1 x.2) r10)).bind fun r23 => (((m_slices_Compact_Cred r23)).bind fun r35 => some r35))))
noncomputable def m_keys_Registry_Good_L1 (a0 : Option KeysRegistry) : List Signed → (List Cred) → Option (List Cred)
  | [], l120 => (((m_cred_Set l120)).bind fun r179 => some r179)
  | x91 :: xs92, l120 => (((m_keys_Registry_Check a0 x91)).bind fun r167 => (if (r167 == 0) then (((appB 136 l120 ([x91.Cred]))).bind fun l173 => (m_keys_Registry_Good_L1 a0 xs92 l173)) else (m_keys_Registry_Good_L1 a0 xs92 l120)))
noncomputable def m_keys_Registry_Good (a0 : Option KeysRegistry) (a1 : List Signed) : Option (List Cred) :=
  m_keys_Registry_Good_L1 a0 a1 ([])
noncomputable def m_revoke_Live_c1 (a0 : Cred) (c0 : List (Cred × Bool)) : Option Bool :=
  some (mgetD beqCred c0 a0 false)
noncomputable def m_revoke_Live_L1 (a0 : List Key) (r1 : (((Option KeysRegistry)) × Int)) (a1 : List Signed) : List Signed → (List (Cred × Bool)) → Option (List Cred)
  | [], l122 => (((m_keys_Registry_Good r1.1 a1)).bind fun r174 => (((m_slices_DeleteFunc_Cred r174 (fun (x : Cred) => m_revoke_Live_c1 x l122))).bind fun r183 => some r183))
  | x99 :: xs100, l122 => (((m_revoke_Good a0 x99)).bind fun r167 => (if r167 then (m_revoke_Live_L1 a0 r1 a1 xs100 ((mput beqCred l122 x99.Cred true))) else (m_revoke_Live_L1 a0 r1 a1 xs100 l122)))
noncomputable def m_revoke_Live (a0 : List Key) (a1 : List Signed) (a2 : List Signed) : Option (List Cred) :=
  (((m_keys_New a0)).bind fun r1 => (if (r1.2 != 0) then some [] else m_revoke_Live_L1 a0 r1 a1 a2 ([])))
noncomputable def m_slices_Index_Cred_L1 (a1 : Cred) : List Cred → Nat → Option Int
  | [], _ => some (-1)
  | x47 :: xs48, i46 => (if (beqCred a1 x47) then some (i46 : Int) else (m_slices_Index_Cred_L1 a1 xs48 (i46 + 1)))
noncomputable def m_slices_Index_Cred (a0 : List Cred) (a1 : Cred) : Option Int :=
  m_slices_Index_Cred_L1 a1 a0 0
noncomputable def m_slices_Contains_Cred (a0 : List Cred) (a1 : Cred) : Option Bool :=
  (((m_slices_Index_Cred a0 a1)).bind fun r3 => some (decide (r3 ≥ 0)))
noncomputable def m_revoke_without_c1 (a0 : Cred) (c0 : List Cred) : Option Bool :=
  (((m_slices_Contains_Cred c0 a0)).bind fun r3 => some r3)
noncomputable def m_revoke_without (a0 : List Cred) (a1 : List Cred) : Option (List Cred) :=
  (((m_cred_Set a0)).bind fun r5 => (((m_slices_DeleteFunc_Cred r5 (fun (x : Cred) => m_revoke_without_c1 x a1))).bind fun r14 => some r14))
noncomputable def m_cred_Has (a0 : List Cred) (a1 : Cred) : Option Bool :=
  (((m_slices_Contains_Cred a0 a1)).bind fun r3 => some r3)
noncomputable def m_cred_Roles (a0 : Cred) : Option (List Role) :=
  (((m_cred_Right a0)).bind fun r3 => (if (!r3) then some [] else (((if (a0.Kind != 1) then (((appB 32 ([a0.Head]) ([a0.B]))).bind fun l60 => some l60) else some ([a0.Head])) : Option (List Role)).bind fun l19 => (((if (a0.Kind == 4) then (((appB 32 l19 ([a0.C]))).bind fun l48 => some l48) else some l19) : Option (List Role)).bind fun l36 => some l36))))
noncomputable def m_model_Model_note_w_L1 (a1 : Cred) (a0_words : List (ByteArray × (List Cred))) (l27 : List Cred) : List Role → (List (Role × (List Cred))) → Option (((List Cred) × (List (Role × (List Cred))) × (List (ByteArray × (List Cred)))))
  | [], l356 => (if (a1.Kind == 3) then (((appB 136 (((mget beqS a0_words a1.Word2).getD [])) ([a1]))).bind fun l567 => some (l27, l356, (mput beqS a0_words a1.Word2 l567))) else some (l27, l356, a0_words))
  | x281 :: xs282, l356 => (((appB 136 (((mget beqRole l356 x281).getD [])) ([a1]))).bind fun l498 => (m_model_Model_note_w_L1 a1 a0_words l27 xs282 ((mput beqRole l356 x281 l498))))
noncomputable def m_model_Model_note_w (a0_in_ : List (Role × (List (ByteArray × Bool)))) (a0_creds : List Cred) (a0_uses : List (Role × (List Cred))) (a0_words : List (ByteArray × (List Cred))) (a0_todo : List Fact) (a0_n : Int) (a1 : Cred) : Option (((List Cred) × (List (Role × (List Cred))) × (List (ByteArray × (List Cred))))) :=
  (((appB 136 a0_creds ([a1]))).bind fun l27 => (((m_cred_Roles a1)).bind fun r36 => (((chk (decide (0 ≤ 1) && decide (1 ≤ (r36.length : Int))))).bind fun _ => m_model_Model_note_w_L1 a1 a0_words l27 ((r36.drop (Int.toNat 1))) a0_uses)))
noncomputable def m_model_Model_tell_w (a0_in_ : List (Role × (List (ByteArray × Bool)))) (a0_creds : List Cred) (a0_uses : List (Role × (List Cred))) (a0_words : List (ByteArray × (List Cred))) (a0_todo : List Fact) (a0_n : Int) (a1 : Role) (a2 : ByteArray) : Option (((List (Role × (List (ByteArray × Bool)))) × (List Fact) × Int)) :=
  (if (mgetD beqS (((mget beqRole a0_in_ a1).getD [])) a2 false) then some (a0_in_, a0_todo, a0_n) else (((if (mget beqRole a0_in_ a1).isNone then (((mnew beqRole a0_in_ a1 ([]))).bind fun l131 => some l131) else some a0_in_) : Option (List (Role × (List (ByteArray × Bool))))).bind fun l38 => (((mupd beqRole beqS l38 a1 a2 true)).bind fun l66 => (((appB 48 a0_todo ([(⟨a1, a2⟩ : Fact)]))).bind fun l96 => some (l66, l96, (IntKind.i64.wrap (a0_n + 1)))))))
noncomputable def m_maps_Keys_map_stringbool_string_bool_ (a0 : List (ByteArray × Bool)) : Option Unit :=
  some ()
noncomputable def m_model_Model_Members (a0_in_ : List (Role × (List (ByteArray × Bool)))) (a0_creds : List Cred) (a0_uses : List (Role × (List Cred))) (a0_words : List (ByteArray × (List Cred))) (a0_todo : List Fact) (a0_n : Int) (a1 : Role) : Option (List ByteArray) :=
  (((m_maps_Keys_map_stringbool_string_bool_ (((mget beqRole a0_in_ a1).getD [])))).bind fun r64 => (((keysS (((mget beqRole a0_in_ a1).getD [])))).bind fun r75 => some r75))
noncomputable def m_model_Model_all_w_L1 (a0_creds : List Cred) (a0_uses : List (Role × (List Cred))) (a0_words : List (ByteArray × (List Cred))) (a2 : Role) : List ByteArray → (List (Role × (List (ByteArray × Bool)))) → (List Fact) → Int → Option (((List (Role × (List (ByteArray × Bool)))) × (List Fact) × Int))
  | [], l129, l133, x136 => some (l129, l133, x136)
  | x104 :: xs105, l129, l133, x136 => (((m_model_Model_tell_w l129 a0_creds a0_uses a0_words l133 x136 a2 x104)).bind fun r177 => (m_model_Model_all_w_L1 a0_creds a0_uses a0_words a2 xs105 r177.1 r177.2.1 r177.2.2))
noncomputable def m_model_Model_all_w (a0_in_ : List (Role × (List (ByteArray × Bool)))) (a0_creds : List Cred) (a0_uses : List (Role × (List Cred))) (a0_words : List (ByteArray × (List Cred))) (a0_todo : List Fact) (a0_n : Int) (a1 : Role) (a2 : Role) : Option (((List (Role × (List (ByteArray × Bool)))) × (List Fact) × Int)) :=
  (((m_model_Model_Members a0_in_ a0_creds a0_uses a0_words a0_todo a0_n a1)).bind fun r5 => m_model_Model_all_w_L1 a0_creds a0_uses a0_words a2 r5 a0_in_ a0_todo a0_n)
noncomputable def m_model_Model_use_w (a0_in_ : List (Role × (List (ByteArray × Bool)))) (a0_creds : List Cred) (a0_uses : List (Role × (List Cred))) (a0_words : List (ByteArray × (List Cred))) (a0_todo : List Fact) (a0_n : Int) (a1 : Cred) (a2 : Fact) : Option (((List (Role × (List (ByteArray × Bool)))) × (List Fact) × Int)) :=
  (if (a1.Kind == 2) then (((m_model_Model_tell_w a0_in_ a0_creds a0_uses a0_words a0_todo a0_n a1.Head a2.Who)).bind fun r6 => some (r6.1, r6.2.1, r6.2.2)) else (if (a1.Kind == 3) then (((m_model_Model_all_w a0_in_ a0_creds a0_uses a0_words a0_todo a0_n ((⟨a2.Who, a1.Word2⟩ : Role)) a1.Head)).bind fun r22 => some (r22.1, r22.2.1, r22.2.2)) else (if (a1.Kind == 4) then (((if (mgetD beqS (((mget beqRole a0_in_ a1.B).getD [])) a2.Who false) then some ((mgetD beqS (((mget beqRole a0_in_ a1.C).getD [])) a2.Who false)) else some false) : Option Bool).bind fun x69 => (if x69 then (((m_model_Model_tell_w a0_in_ a0_creds a0_uses a0_words a0_todo a0_n a1.Head a2.Who)).bind fun r77 => some (r77.1, r77.2.1, r77.2.2)) else some (a0_in_, a0_todo, a0_n))) else some (a0_in_, a0_todo, a0_n))))
noncomputable def m_model_Model_begin_w_L1 (a0_creds : List Cred) (a0_uses : List (Role × (List Cred))) (a0_words : List (ByteArray × (List Cred))) (a1 : Cred) : List ByteArray → (List (Role × (List (ByteArray × Bool)))) → (List Fact) → Int → Option (((List (Role × (List (ByteArray × Bool)))) × (List Fact) × Int))
  | [], l143, l147, x150 => some (l143, l147, x150)
  | x118 :: xs119, l143, l147, x150 => (((m_model_Model_use_w l143 a0_creds a0_uses a0_words l147 x150 a1 ((⟨a1.B, x118⟩ : Fact)))).bind fun r191 => (m_model_Model_begin_w_L1 a0_creds a0_uses a0_words a1 xs119 r191.1 r191.2.1 r191.2.2))
noncomputable def m_model_Model_begin_w (a0_in_ : List (Role × (List (ByteArray × Bool)))) (a0_creds : List Cred) (a0_uses : List (Role × (List Cred))) (a0_words : List (ByteArray × (List Cred))) (a0_todo : List Fact) (a0_n : Int) (a1 : Cred) : Option (((List (Role × (List (ByteArray × Bool)))) × (List Fact) × Int)) :=
  (if (a1.Kind == 1) then (((m_model_Model_tell_w a0_in_ a0_creds a0_uses a0_words a0_todo a0_n a1.Head a1.Who)).bind fun r4 => some (r4.1, r4.2.1, r4.2.2)) else (((m_model_Model_Members a0_in_ a0_creds a0_uses a0_words a0_todo a0_n a1.B)).bind fun r19 => m_model_Model_begin_w_L1 a0_creds a0_uses a0_words a1 r19 a0_in_ a0_todo a0_n))
noncomputable def m_model_Model_settle_w_L2 (x2615 : Fact) (a0_creds : List Cred) (a0_uses : List (Role × (List Cred))) (a0_words : List (ByteArray × (List Cred))) : List Cred → (List (Role × (List (ByteArray × Bool)))) → (List Fact) → Int → Option (((List (Role × (List (ByteArray × Bool)))) × (List Fact) × Int))
  | [], l2939, l2943, x2946 => some (l2939, l2943, x2946)
  | x2904 :: xs2905, l2939, l2943, x2946 => (if (mgetD beqS (((mget beqRole l2939 x2904.B).getD [])) x2615.Role.Owner false) then (((m_model_Model_tell_w l2939 a0_creds a0_uses a0_words l2943 x2946 x2904.Head x2615.Who)).bind fun r3007 => (m_model_Model_settle_w_L2 x2615 a0_creds a0_uses a0_words xs2905 r3007.1 r3007.2.1 r3007.2.2)) else (m_model_Model_settle_w_L2 x2615 a0_creds a0_uses a0_words xs2905 l2939 l2943 x2946))
noncomputable def m_model_Model_settle_w_L3 (a0_creds : List Cred) (a0_uses : List (Role × (List Cred))) (a0_words : List (ByteArray × (List Cred))) (x2615 : Fact) : List Cred → (List (Role × (List (ByteArray × Bool)))) → (List Fact) → Int → Option (((List (Role × (List (ByteArray × Bool)))) × (List Fact) × Int))
  | [], l3054, l3058, x3061 => some (l3054, l3058, x3061)
  | x3026 :: xs3027, l3054, l3058, x3061 => (((m_model_Model_use_w l3054 a0_creds a0_uses a0_words l3058 x3061 x3026 x2615)).bind fun r3108 => (m_model_Model_settle_w_L3 a0_creds a0_uses a0_words x2615 xs3027 r3108.1 r3108.2.1 r3108.2.2))
noncomputable def m_model_Model_settle_w_L1 (a0_creds : List Cred) (a0_uses : List (Role × (List Cred))) (a0_words : List (ByteArray × (List Cred))) : Nat → (List (Role × (List (ByteArray × Bool)))) → (List Fact) → Int → Option (((List (Role × (List (ByteArray × Bool)))) × (List Fact) × Int))
  | 0, _, _, _ => none
  | n2608 + 1, l2075, l2079, x2082 => (if (decide (((l2079.length : Int)) > 0)) then (((idx l2079 0)).bind fun x2615 => (((chk (decide (0 ≤ 1) && decide (1 ≤ (l2079.length : Int))))).bind fun _ => ((m_model_Model_settle_w_L3 a0_creds a0_uses a0_words x2615 (((mget beqRole a0_uses x2615.Role).getD [])) l2075 ((l2079.drop (Int.toNat 1))) x2082 : Option (((List (Role × (List (ByteArray × Bool)))) × (List Fact) × Int))).bind fun (l2740, l2744, x2747) => ((m_model_Model_settle_w_L2 x2615 a0_creds a0_uses a0_words (((mget beqS a0_words x2615.Role.Word).getD [])) l2740 l2744 x2747 : Option (((List (Role × (List (ByteArray × Bool)))) × (List Fact) × Int))).bind fun (l2888, l2892, x2895) => (m_model_Model_settle_w_L1 a0_creds a0_uses a0_words n2608 l2888 l2892 x2895))))) else some (l2075, l2079, x2082))
noncomputable def m_model_Model_settle_w (a0_in_ : List (Role × (List (ByteArray × Bool)))) (a0_creds : List Cred) (a0_uses : List (Role × (List Cred))) (a0_words : List (ByteArray × (List Cred))) (a0_todo : List Fact) (a0_n : Int) : Option (((List (Role × (List (ByteArray × Bool)))) × (List Fact) × Int)) :=
  m_model_Model_settle_w_L1 a0_creds a0_uses a0_words FUEL a0_in_ a0_todo a0_n
noncomputable def m_model_Model_Add_w_L1 (a0_n : Int) : List Cred → (List (Role × (List (ByteArray × Bool)))) → (List Cred) → (List (Role × (List Cred))) → (List (ByteArray × (List Cred))) → (List Fact) → Int → Option ((Int × (List (Role × (List (ByteArray × Bool)))) × (List Cred) × (List (Role × (List Cred))) × (List (ByteArray × (List Cred))) × (List Fact) × Int))
  | [], l508, l512, l515, l518, l522, x525 => (((m_model_Model_settle_w l508 l512 l515 l518 l522 x525)).bind fun r777 => some ((IntKind.i64.wrap (r777.2.2 - a0_n)), r777.1, l512, l515, l518, r777.2.1, r777.2.2))
  | x390 :: xs391, l508, l512, l515, l518, l522, x525 => (((m_cred_Right x390)).bind fun r720 => (((if r720 then (((m_cred_Has l512 x390)).bind fun r774 => some ((!r774))) else some false) : Option Bool).bind fun x727 => (if x727 then (((m_model_Model_note_w l508 l512 l515 l518 l522 x525 x390)).bind fun r738 => (((m_model_Model_begin_w l508 r738.1 r738.2.1 r738.2.2 l522 x525 x390)).bind fun r755 => (m_model_Model_Add_w_L1 a0_n xs391 r755.1 r738.1 r738.2.1 r738.2.2 r755.2.1 r755.2.2))) else (m_model_Model_Add_w_L1 a0_n xs391 l508 l512 l515 l518 l522 x525))))
noncomputable def m_model_Model_Add_w (a0_in_ : List (Role × (List (ByteArray × Bool)))) (a0_creds : List Cred) (a0_uses : List (Role × (List Cred))) (a0_words : List (ByteArray × (List Cred))) (a0_todo : List Fact) (a0_n : Int) (a1 : List Cred) : Option ((Int × (List (Role × (List (ByteArray × Bool)))) × (List Cred) × (List (Role × (List Cred))) × (List (ByteArray × (List Cred))) × (List Fact) × Int)) :=
  m_model_Model_Add_w_L1 a0_n a1 a0_in_ a0_creds a0_uses a0_words a0_todo a0_n
noncomputable def m_model_Of (a0 : List Cred) : Option (((List (Role × (List (ByteArray × Bool)))) × (List Cred) × (List (Role × (List Cred))) × (List (ByteArray × (List Cred))) × (List Fact) × Int)) :=
  (((m_model_Model_Add_w ([]) ([]) ([]) ([]) ([]) 0 a0)).bind fun r18 => some (r18.2.1, r18.2.2.1, r18.2.2.2.1, r18.2.2.2.2.1, r18.2.2.2.2.2.1, r18.2.2.2.2.2.2))
noncomputable def m_model_Model_Facts_c1 (a0 : Fact) (a1 : Fact) : Option Int :=
  (((m_role_Compare a0.Role a1.Role)).bind fun r27 => (((m_strings_Compare a0.Who a1.Who)).bind fun r30 => (((m_cmp_Or_int ([r27, r30]))).bind fun r35 => some r35)))
noncomputable def m_model_Model_Facts (a0_in_ : List (Role × (List (ByteArray × Bool)))) (a0_creds : List Cred) (a0_uses : List (Role × (List Cred))) (a0_words : List (ByteArray × (List Cred))) (a0_todo : List Fact) (a0_n : Int) : Option (List Fact) :=
  ((pairsB 48 (fun (a : Role) (b : ByteArray) => (⟨a, b⟩ : Fact)) a0_in_).bind fun fs => allOrders fs (fun l_f => (((sortF (fun (x : (Fact × Fact)) => m_model_Model_Facts_c1 x.1 x.2) l_f)).bind fun r4 => some r4)))
noncomputable def m_slices_IndexFunc_Fact_L1 (f1 : Fact → Option Bool) : List Fact → Nat → Option Int
  | [], _ => some (-1)
  | x36 :: xs37, i35 => (((f1 x36)).bind fun r65 => (if r65 then some (i35 : Int) else (m_slices_IndexFunc_Fact_L1 f1 xs37 (i35 + 1))))
noncomputable def m_slices_IndexFunc_Fact (a0 : List Fact) (f1 : Fact → Option Bool) : Option Int :=
  m_slices_IndexFunc_Fact_L1 f1 a0 0
noncomputable def m_slices_DeleteFunc_Fact_L1 (f1 : Fact → Option Bool) : Nat → (List Fact) → Int → Int → Option (List Fact)
  | 0, _, _, _ => none
  | n321 + 1, l249, x252, x253 => (if (decide (x253 < ((l249.length : Int)))) then (((((idx l249 x253)).bind fun x364 => (((f1 x364)).bind fun r369 => (if (!r369) then (((idx l249 x252)).bind fun x376 => some (((l249.set (Int.toNat x252) x364)), ((IntKind.i64.wrap (x252 + 1))))) else some (l249, x252)))) : Option (((List Fact) × Int))).bind fun (l348, x351) => (m_slices_DeleteFunc_Fact_L1 f1 n321 l348 x351 ((IntKind.i64.wrap (x253 + 1))))) else (((chk (decide (0 ≤ x252) && decide (x252 ≤ (l249.length : Int))))).bind fun _ => (((chk (decide (0 ≤ x252) && decide (x252 ≤ (((clearT l249 (Int.toNat x252) (⟨(⟨zS, zS⟩ : Role), zS⟩ : Fact))).length : Int))))).bind fun _ => some (((clearT l249 (Int.toNat x252) (⟨(⟨zS, zS⟩ : Role), zS⟩ : Fact))).take (Int.toNat x252)))))
noncomputable def m_slices_DeleteFunc_Fact (a0 : List Fact) (f1 : Fact → Option Bool) : Option (List Fact) :=
  (((m_slices_IndexFunc_Fact a0 f1)).bind fun r1 => (if (r1 == ((-1))) then some a0 else m_slices_DeleteFunc_Fact_L1 f1 FUEL a0 r1 ((IntKind.i64.wrap (r1 + 1)))))
noncomputable def m_model_Model_In (a0_in_ : List (Role × (List (ByteArray × Bool)))) (a0_creds : List Cred) (a0_uses : List (Role × (List Cred))) (a0_words : List (ByteArray × (List Cred))) (a0_todo : List Fact) (a0_n : Int) (a1 : Role) (a2 : ByteArray) : Option Bool :=
  some (mgetD beqS (((mget beqRole a0_in_ a1).getD [])) a2 false)
noncomputable def m_revoke_Lost_c1 (a0 : Fact) (c0q_in_ : List (Role × (List (ByteArray × Bool)))) (c0q_creds : List Cred) (c0q_uses : List (Role × (List Cred))) (c0q_words : List (ByteArray × (List Cred))) (c0q_todo : List Fact) (c0q_n : Int) : Option Bool :=
  (((m_model_Model_In c0q_in_ c0q_creds c0q_uses c0q_words c0q_todo c0q_n a0.Role a0.Who)).bind fun r3 => some r3)
noncomputable def m_revoke_Lost (a0 : List Cred) (a1 : List Cred) : Option (List Fact) :=
  (((m_revoke_without a0 a1)).bind fun r1 => (((m_model_Of r1)).bind fun r10 => (((m_model_Of a0)).bind fun r39 => (((m_model_Model_Facts r39.1 r39.2.1 r39.2.2.1 r39.2.2.2.1 r39.2.2.2.2.1 r39.2.2.2.2.2)).bind fun r65 => (((m_slices_DeleteFunc_Fact r65 (fun (x : Fact) => m_revoke_Lost_c1 x r10.1 r10.2.1 r10.2.2.1 r10.2.2.2.1 r10.2.2.2.2.1 r10.2.2.2.2.2))).bind fun r74 => some r74)))))
noncomputable def m_revoke_Critical_c1 (a0 : Cred) (c0 : List Cred) (c1 : Fact) : Option Bool :=
  (((m_revoke_without c0 ([a0]))).bind fun r103 => (((m_model_Of r103)).bind fun r112 => (((m_model_Model_In r112.1 r112.2.1 r112.2.2.1 r112.2.2.2.1 r112.2.2.2.2.1 r112.2.2.2.2.2 c1.Role c1.Who)).bind fun r138 => some r138)))
noncomputable def m_revoke_Critical (a0 : List Cred) (a1 : Fact) : Option (List Cred) :=
  (((m_model_Of a0)).bind fun r65 => (((m_model_Model_In r65.1 r65.2.1 r65.2.2.1 r65.2.2.2.1 r65.2.2.2.2.1 r65.2.2.2.2.2 a1.Role a1.Who)).bind fun r91 => (if (!r91) then some [] else (((m_cred_Set a0)).bind fun r95 => (((m_slices_DeleteFunc_Cred r95 (fun (x : Cred) => m_revoke_Critical_c1 x a0 a1))).bind fun r104 => some r104)))))
noncomputable def m_law34_first  : Option Bool :=
  (((m_keys_New ([(⟨(⟨#[120]⟩ : ByteArray), [107]⟩ : Key)]))).bind fun r22 => (((m_keys_Registry_Sign r22.1 ((⟨1, (⟨(⟨#[120]⟩ : ByteArray), (⟨#[121]⟩ : ByteArray)⟩ : Role), (⟨#[100]⟩ : ByteArray), (⟨zS, zS⟩ : Role), (⟨zS, zS⟩ : Role), zS⟩ : Cred)))).bind fun r34 => (((m_revoke_Make ([(⟨(⟨#[120]⟩ : ByteArray), [107]⟩ : Key)]) ((⟨1, (⟨(⟨#[120]⟩ : ByteArray), (⟨#[121]⟩ : ByteArray)⟩ : Role), (⟨#[100]⟩ : ByteArray), (⟨zS, zS⟩ : Role), (⟨zS, zS⟩ : Role), zS⟩ : Cred)))).bind fun r51 => (((if (r34.2 == 0) then some ((r51.2 == 0)) else some false) : Option Bool).bind fun x69 => (((if x69 then (((m_revoke_Good ([(⟨(⟨#[120]⟩ : ByteArray), [107]⟩ : Key)]) r51.1)).bind fun r271 => some r271) else some false) : Option Bool).bind fun x83 => (((if x83 then (((m_revoke_Good ([(⟨(⟨#[120]⟩ : ByteArray), [107]⟩ : Key)]) r34.1)).bind fun r264 => some ((!r264))) else some false) : Option Bool).bind fun x97 => (((if x97 then (((m_revoke_Live ([(⟨(⟨#[120]⟩ : ByteArray), [107]⟩ : Key)]) ([r34.1]) ([]))).bind fun r251 => some ((((r251.length : Int)) == 1))) else some false) : Option Bool).bind fun x120 => (((if x120 then (((m_revoke_Live ([(⟨(⟨#[120]⟩ : ByteArray), [107]⟩ : Key)]) ([r34.1]) ([r51.1]))).bind fun r236 => some ((((r236.length : Int)) == 0))) else some false) : Option Bool).bind fun x146 => (((if x146 then (((m_revoke_Lost ([(⟨1, (⟨(⟨#[120]⟩ : ByteArray), (⟨#[121]⟩ : ByteArray)⟩ : Role), (⟨#[100]⟩ : ByteArray), (⟨zS, zS⟩ : Role), (⟨zS, zS⟩ : Role), zS⟩ : Cred)]) ([(⟨1, (⟨(⟨#[120]⟩ : ByteArray), (⟨#[121]⟩ : ByteArray)⟩ : Role), (⟨#[100]⟩ : ByteArray), (⟨zS, zS⟩ : Role), (⟨zS, zS⟩ : Role), zS⟩ : Cred)]))).bind fun r219 => some ((((r219.length : Int)) == 1))) else some false) : Option Bool).bind fun x169 => (((if x169 then (((m_revoke_Critical ([(⟨1, (⟨(⟨#[120]⟩ : ByteArray), (⟨#[121]⟩ : ByteArray)⟩ : Role), (⟨#[100]⟩ : ByteArray), (⟨zS, zS⟩ : Role), (⟨zS, zS⟩ : Role), zS⟩ : Cred)]) ((⟨(⟨(⟨#[120]⟩ : ByteArray), (⟨#[121]⟩ : ByteArray)⟩ : Role), (⟨#[100]⟩ : ByteArray)⟩ : Fact)))).bind fun r202 => some ((((r202.length : Int)) == 1))) else some false) : Option Bool).bind fun x190 => some x190))))))))))
noncomputable def m_law05_Great_L1  : List Cred → Int → Option Int
  | [], x47 => some x47
  | x35 :: xs36, x47 => (m_law05_Great_L1 xs36 ((IntKind.i64.wrap (x47 + ((IntKind.i64.wrap (((IntKind.i64.wrap (((IntKind.i64.wrap (((IntKind.i64.wrap (((IntKind.i64.wrap (((IntKind.i64.wrap (((IntKind.i64.wrap (((IntKind.i64.wrap (20 + ((x35.Head.Owner.size : Int))))) + ((x35.Head.Word.size : Int))))) + ((x35.Who.size : Int))))) + ((x35.B.Owner.size : Int))))) + ((x35.B.Word.size : Int))))) + ((x35.C.Owner.size : Int))))) + ((x35.C.Word.size : Int))))) + ((x35.Word2.size : Int)))))))))
noncomputable def m_law05_Great (a0 : List Cred) : Option Int :=
  m_law05_Great_L1 a0 0
noncomputable def m_law06_Great_L2  : List Signed → Int → Option Int
  | [], x224 => some x224
  | x193 :: xs194, x224 => (((m_law05_Great ([x193.Cred]))).bind fun r279 => (m_law06_Great_L2 xs194 ((IntKind.i64.wrap (x224 + ((IntKind.i64.wrap (r279 + ((x193.Tag.length : Int))))))))))
noncomputable def m_law06_Great_L1 (a1 : List Signed) : List Key → Int → Option Int
  | [], x65 => ((m_law06_Great_L2 a1 x65 : Option Int).bind fun x185 => some x185)
  | x49 :: xs50, x65 => (m_law06_Great_L1 a1 xs50 ((IntKind.i64.wrap (x65 + ((IntKind.i64.wrap (((IntKind.i64.wrap (10 + ((x49.Who.size : Int))))) + ((x49.Key.length : Int)))))))))
noncomputable def m_law06_Great (a0 : List Key) (a1 : List Signed) : Option Int :=
  m_law06_Great_L1 a1 a0 0
noncomputable def m_ref03_Right_L1 (a0 : ByteArray) : Nat → Int → Option Bool
  | 0, _ => none
  | n364 + 1, x293 => (if (decide (x293 < ((a0.size : Int)))) then (((idxS a0 x293)).bind fun c368 => (((if (decide (((c368.toNat : Int)) < 97)) then some true else some ((decide (((c368.toNat : Int)) > 122)))) : Option Bool).bind fun x371 => (((if x371 then (((if (decide (((c368.toNat : Int)) < 48)) then some true else some ((decide (((c368.toNat : Int)) > 57)))) : Option Bool).bind fun x416 => some x416) else some false) : Option Bool).bind fun x392 => (((if x392 then some ((((c368.toNat : Int)) != 45)) else some false) : Option Bool).bind fun x400 => (if x400 then some false else (m_ref03_Right_L1 a0 n364 ((IntKind.i64.wrap (x293 + 1))))))))) else some true)
noncomputable def m_ref03_Right (a0 : ByteArray) : Option Bool :=
  (((if (beqS a0 zS) then some true else some ((decide (((a0.size : Int)) > 16)))) : Option Bool).bind fun x2 => (((if x2 then some true else (((idxS a0 0)).bind fun c442 => some ((decide (((c442.toNat : Int)) < 97))))) : Option Bool).bind fun x10 => (((if x10 then some true else (((idxS a0 0)).bind fun c436 => some ((decide (((c436.toNat : Int)) > 122))))) : Option Bool).bind fun x18 => (if x18 then some false else m_ref03_Right_L1 a0 FUEL 0))))
noncomputable def m_ref06_New_L2 (x468 : Key) : List Key → Option ((Int ⊕ Unit))
  | [] => some (Sum.inr ())
  | x875 :: xs876 => (if (beqS x875.Who x468.Who) then some (Sum.inl 41) else (m_ref06_New_L2 x468 xs876))
noncomputable def m_ref06_New_L1 (a0 : List Key) : List Key → Nat → Option Int
  | [], _ => some 0
  | x468 :: xs469, i467 => (((m_ref03_Right x468.Who)).bind fun r792 => (if (!r792) then some 30 else (((if (decide (((x468.Key.length : Int)) < 1)) then some true else some ((decide (((x468.Key.length : Int)) > 32)))) : Option Bool).bind fun x797 => (if x797 then some 21 else (((chk (decide (0 ≤ ((i467 : Int))) && decide (((i467 : Int)) ≤ (a0.length : Int))))).bind fun _ => ((m_ref06_New_L2 x468 ((a0.take (Int.toNat ((i467 : Int))))) : Option ((Int ⊕ Unit))).bind fun s => match s with | .inl q928 => some q928 | .inr _ => (m_ref06_New_L1 a0 xs469 (i467 + 1))))))))
noncomputable def m_ref06_New (a0 : List Key) : Option Int :=
  m_ref06_New_L1 a0 a0 0
noncomputable def m_ref04_Right (a0 : Role) : Option Bool :=
  (((m_ref03_Right a0.Owner)).bind fun r3 => (((if r3 then (((m_ref03_Right a0.Word)).bind fun r19 => some r19) else some false) : Option Bool).bind fun x10 => some x10))
noncomputable def m_ref04_Less (a0 : Role) (a1 : Role) : Option Bool :=
  (((if (ltS a0.Owner a1.Owner) then some true else (((if (beqS a0.Owner a1.Owner) then some ((ltS a0.Word a1.Word)) else some false) : Option Bool).bind fun x27 => some x27)) : Option Bool).bind fun x17 => some x17)
noncomputable def m_ref05_Right (a0 : Cred) : Option Bool :=
  (((m_ref04_Right a0.Head)).bind fun r5 => (if (!r5) then some false else (if (a0.Kind == 1) then (((m_ref03_Right a0.Who)).bind fun r10 => (((if r10 then some ((beqRole a0.B ((⟨zS, zS⟩ : Role)))) else some false) : Option Bool).bind fun x14 => (((if x14 then some ((beqRole a0.C ((⟨zS, zS⟩ : Role)))) else some false) : Option Bool).bind fun x22 => (((if x22 then some ((beqS a0.Word2 zS)) else some false) : Option Bool).bind fun x29 => some x29)))) else (((if (!(beqS a0.Who zS)) then some true else (((m_ref04_Right a0.B)).bind fun r138 => some ((!r138)))) : Option Bool).bind fun x50 => (if x50 then some false else (if (a0.Kind == 2) then (((if (beqRole a0.C ((⟨zS, zS⟩ : Role))) then some ((beqS a0.Word2 zS)) else some false) : Option Bool).bind fun x59 => some x59) else (if (a0.Kind == 3) then (((if (beqRole a0.C ((⟨zS, zS⟩ : Role))) then some ((beqS a0.B.Owner a0.Head.Owner)) else some false) : Option Bool).bind fun x69 => (((if x69 then (((m_ref03_Right a0.Word2)).bind fun r86 => some r86) else some false) : Option Bool).bind fun x78 => some x78)) else (((if (a0.Kind == 4) then some ((beqS a0.Word2 zS)) else some false) : Option Bool).bind fun x94 => (((if x94 then (((m_ref04_Right a0.C)).bind fun r127 => some r127) else some false) : Option Bool).bind fun x103 => (((if x103 then (((m_ref04_Less a0.B a0.C)).bind fun r120 => some r120) else some false) : Option Bool).bind fun x112 => some x112))))))))))
noncomputable def m_ref01_Number_L1  : Nat → Int → ByteArray → Option ByteArray
  | 0, _, _ => none
  | n45 + 1, x32, x33 => (if (decide (x32 ≥ 128)) then (((catS x33 ((strI ([(IntKind.u8.wrap ((IntKind.i64.wrap (128 + ((Int.tmod x32 128))))))]))))).bind fun s51 => (m_ref01_Number_L1 n45 ((IntKind.i64.wrap (Int.tdiv x32 128))) s51)) else (((catS x33 ((strI ([(IntKind.u8.wrap x32)]))))).bind fun s55 => some s55))
noncomputable def m_ref01_Number (a0 : Int) : Option ByteArray :=
  m_ref01_Number_L1 FUEL a0 zS
noncomputable def m_ref01_Text (a0 : ByteArray) : Option ByteArray :=
  (((m_ref01_Number ((a0.size : Int)))).bind fun r1 => (((catS r1 a0)).bind fun s4 => some s4))
noncomputable def m_ref04_Bytes (a0 : Role) : Option ByteArray :=
  (((m_ref01_Text a0.Owner)).bind fun r19 => (((m_ref01_Text a0.Word)).bind fun r22 => (((catS r19 r22)).bind fun s25 => some s25)))
noncomputable def m_ref05_Bytes (a0 : Cred) : Option ByteArray :=
  (((m_ref01_Number a0.Kind)).bind fun r19 => (((m_ref04_Bytes a0.Head)).bind fun r22 => (((catS r19 r22)).bind fun s25 => (if (a0.Kind == 1) then (((m_ref01_Text a0.Who)).bind fun r28 => (((catS s25 r28)).bind fun s31 => some s31)) else (((m_ref04_Bytes a0.B)).bind fun r33 => (((catS s25 r33)).bind fun s36 => (((if (a0.Kind == 3) then (((m_ref01_Text a0.Word2)).bind fun r72 => (((catS s36 r72)).bind fun s75 => some s75)) else some s36) : Option ByteArray).bind fun x44 => (((if (a0.Kind == 4) then (((m_ref04_Bytes a0.C)).bind fun r63 => (((catS x44 r63)).bind fun s66 => some s66)) else some x44) : Option ByteArray).bind fun x55 => some x55))))))))
noncomputable def m_ref02_Sum_L1 (a0 : ByteArray) : Nat → Int → Int → Option Int
  | 0, _, _ => none
  | n38 + 1, x26, x27 => (if (decide (x27 < ((a0.size : Int)))) then (((idxS a0 x27)).bind fun c43 => (m_ref02_Sum_L1 a0 n38 ((IntKind.u64.wrap (((IntKind.u64.wrap (BitVec.ofInt (IntKind.bits .u64) x26 ^^^ BitVec.ofInt (IntKind.bits .u64) ((IntKind.u64.wrap ((c43.toNat : Int))))).toNat)) * 1099511628211))) ((IntKind.i64.wrap (x27 + 1))))) else some x26)
noncomputable def m_ref02_Sum (a0 : ByteArray) : Option Int :=
  m_ref02_Sum_L1 a0 FUEL 14695981039346656037 0
noncomputable def m_ref02_Make_L1  : Nat → Int → ByteArray → Int → Option ByteArray
  | 0, _, _, _ => none
  | n63 + 1, x47, x48, x49 => (if (decide (x49 < 8)) then (((catS ((strI ([(IntKind.u8.wrap ((Int.tmod x47 256)))]))) x48)).bind fun s70 => (m_ref02_Make_L1 n63 ((IntKind.u64.wrap (Int.tdiv x47 256))) s70 ((IntKind.i64.wrap (x49 + 1))))) else some x48)
noncomputable def m_ref02_Make (a0 : ByteArray) (a1 : ByteArray) : Option ByteArray :=
  (((catS ((strI ([(IntKind.u8.wrap ((a0.size : Int)))]))) a0)).bind fun s3 => (((catS s3 a1)).bind fun s5 => (((catS s5 a0)).bind fun s7 => (((m_ref02_Sum s7)).bind fun r9 => m_ref02_Make_L1 FUEL r9 zS 0))))
noncomputable def m_ref34_Make_L1 (a1 : Cred) : List Key → Option ((Signed × Int))
  | [] => some ((⟨(⟨0, (⟨zS, zS⟩ : Role), zS, (⟨zS, zS⟩ : Role), (⟨zS, zS⟩ : Role), zS⟩ : Cred), []⟩ : Signed), 21)
  | x413 :: xs414 => (if (beqS x413.Who a1.Head.Owner) then (((((m_ref05_Bytes a1)).bind fun r797 => (((catS ((⟨#[255]⟩ : ByteArray)) r797)).bind fun s800 => some (((strI x413.Key)), s800))) : Option ((ByteArray × ByteArray))).bind fun (x769, x770) => (((m_ref02_Make x769 x770)).bind fun r777 => (((bytesB r777)).bind fun l780 => some ((⟨a1, l780⟩ : Signed), 0)))) else (m_ref34_Make_L1 a1 xs414))
noncomputable def m_ref34_Make (a0 : List Key) (a1 : Cred) : Option ((Signed × Int)) :=
  (((m_ref06_New a0)).bind fun r5 => (if (r5 != 0) then some ((⟨(⟨0, (⟨zS, zS⟩ : Role), zS, (⟨zS, zS⟩ : Role), (⟨zS, zS⟩ : Role), zS⟩ : Cred), []⟩ : Signed), r5) else (((m_ref05_Right a1)).bind fun r11 => (if (!r11) then some ((⟨(⟨0, (⟨zS, zS⟩ : Role), zS, (⟨zS, zS⟩ : Role), (⟨zS, zS⟩ : Role), zS⟩ : Cred), []⟩ : Signed), 11) else m_ref34_Make_L1 a1 a0))))
noncomputable def m_ref34_Good (a0 : List Key) (a1 : Signed) : Option Bool :=
  (((m_ref34_Make a0 a1.Cred)).bind fun r5 => (((if (r5.2 == 0) then some ((beqS ((strI ((r5.1).Tag))) ((strI a1.Tag)))) else some false) : Option Bool).bind fun x23 => some x23))
noncomputable def m_ref06_key_L1 (a1 : Cred) : List Key → Option ((ByteArray × Int))
  | [] => some (zS, 21)
  | x54 :: xs55 => (if (beqS x54.Who a1.Head.Owner) then some ((strI x54.Key), 0) else (m_ref06_key_L1 a1 xs55))
noncomputable def m_ref06_key (a0 : List Key) (a1 : Cred) : Option ((ByteArray × Int)) :=
  (((m_ref05_Right a1)).bind fun r3 => (if (!r3) then some (zS, 11) else m_ref06_key_L1 a1 a0))
noncomputable def m_ref06_Check (a0 : List Key) (a1 : Signed) : Option Int :=
  (((m_ref06_key a0 a1.Cred)).bind fun r5 => (((if (r5.2 == 0) then (((m_ref05_Bytes a1.Cred)).bind fun r96 => (((m_ref02_Make r5.1 r96)).bind fun r99 => some ((!(beqS r99 ((strI a1.Tag))))))) else some false) : Option Bool).bind fun x86 => (if x86 then some 20 else some r5.2)))
noncomputable def m_ref05_bytes (a0 : Cred) : Option ByteArray :=
  (((m_ref05_Right a0)).bind fun r3 => (if (!r3) then some zS else (((m_ref05_Bytes a0)).bind fun r7 => some r7)))
noncomputable def m_ref05_Compare (a0 : Cred) (a1 : Cred) : Option Int :=
  (((m_ref05_bytes a0)).bind fun r5 => (((m_ref05_bytes a1)).bind fun r8 => (if (ltS r5 r8) then some (-1) else (if (!(ltS r5 r8 || beqS r5 r8)) then some 1 else some 0))))
noncomputable def m_ref05_Set_L2 (l11497 : List Cred) : List Cred → Bool → Cred → Option ((Bool × Cred))
  | [], x16301, x16302 => some (x16301, x16302)
  | x15828 :: xs15829, x16301, x16302 => (((m_ref05_Right x15828)).bind fun r17096 => (((if r17096 then (((if (((l11497.length : Int)) == 0) then some true else (((idx l11497 ((IntKind.i64.wrap (((l11497.length : Int)) - 1))))).bind fun x17246 => (((m_ref05_Compare x17246 x15828)).bind fun r17248 => some ((decide (r17248 < 0)))))) : Option Bool).bind fun x17226 => some x17226) else some false) : Option Bool).bind fun x17134 => (((if x17134 then (((if (!x16301) then some true else (((m_ref05_Compare x15828 x16302)).bind fun r17210 => some ((decide (r17210 < 0))))) : Option Bool).bind fun x17193 => some x17193) else some false) : Option Bool).bind fun x17171 => (if x17171 then (m_ref05_Set_L2 l11497 xs15829 true x15828) else (m_ref05_Set_L2 l11497 xs15829 x16301 x16302)))))
noncomputable def m_ref05_Set_L1 (a0 : List Cred) : Nat → (List Cred) → Option (List Cred)
  | 0, _ => none
  | n14378 + 1, l11497 => ((m_ref05_Set_L2 l11497 a0 false ((⟨0, (⟨zS, zS⟩ : Role), zS, (⟨zS, zS⟩ : Role), (⟨zS, zS⟩ : Role), zS⟩ : Cred)) : Option ((Bool × Cred))).bind fun (x15807, x15808) => (if (!x15807) then some l11497 else (((appB 136 l11497 ([x15808]))).bind fun l15818 => (m_ref05_Set_L1 a0 n14378 l15818))))
noncomputable def m_ref05_Set (a0 : List Cred) : Option (List Cred) :=
  m_ref05_Set_L1 a0 FUEL ([])
noncomputable def m_ref06_Good_L1 (a0 : List Key) : List Signed → (List Cred) → Option (List Cred)
  | [], l120 => (((m_ref05_Set l120)).bind fun r179 => some r179)
  | x91 :: xs92, l120 => (((m_ref06_Check a0 x91)).bind fun r167 => (if (r167 == 0) then (((appB 136 l120 ([x91.Cred]))).bind fun l173 => (m_ref06_Good_L1 a0 xs92 l173)) else (m_ref06_Good_L1 a0 xs92 l120)))
noncomputable def m_ref06_Good (a0 : List Key) (a1 : List Signed) : Option (List Cred) :=
  m_ref06_Good_L1 a0 a1 ([])
noncomputable def m_ref34_Live_L2 (x1531 : Cred) (a0 : List Key) : List Signed → Bool → Option Bool
  | [], x2856 => some x2856
  | x2813 :: xs2814, x2856 => (((if x2856 then (((if (!(beqCred x2813.Cred x1531)) then some true else (((m_ref34_Good a0 x2813)).bind fun r3043 => some ((!r3043)))) : Option Bool).bind fun x3023 => some x3023) else some false) : Option Bool).bind fun x3000 => (m_ref34_Live_L2 x1531 a0 xs2814 x3000))
noncomputable def m_ref34_Live_L1 (a0 : List Key) (a2 : List Signed) : List Cred → (List Cred) → Option (List Cred)
  | [], l2035 => some l2035
  | x1531 :: xs1532, l2035 => ((m_ref34_Live_L2 x1531 a0 a2 true : Option Bool).bind fun x2789 => (if x2789 then (((appB 136 l2035 ([x1531]))).bind fun l2803 => (m_ref34_Live_L1 a0 a2 xs1532 l2803)) else (m_ref34_Live_L1 a0 a2 xs1532 l2035)))
noncomputable def m_ref34_Live (a0 : List Key) (a1 : List Signed) (a2 : List Signed) : Option (List Cred) :=
  (((m_ref06_New a0)).bind fun r1 => (if (r1 != 0) then some [] else (((m_ref06_Good a0 a1)).bind fun r5 => m_ref34_Live_L1 a0 a2 r5 ([]))))
noncomputable def m_ref05_Has_L1 (a1 : Cred) : List Cred → Option Bool
  | [] => some false
  | x38 :: xs39 => (if (beqCred x38 a1) then some true else (m_ref05_Has_L1 a1 xs39))
noncomputable def m_ref05_Has (a0 : List Cred) (a1 : Cred) : Option Bool :=
  m_ref05_Has_L1 a1 a0
noncomputable def m_ref34_Without_L1 (a1 : List Cred) : List Cred → (List Cred) → Option (List Cred)
  | [], l113 => some l113
  | x88 :: xs89, l113 => (((m_ref05_Has a1 x88)).bind fun r152 => (if (!r152) then (((appB 136 l113 ([x88]))).bind fun l158 => (m_ref34_Without_L1 a1 xs89 l158)) else (m_ref34_Without_L1 a1 xs89 l113)))
noncomputable def m_ref34_Without (a0 : List Cred) (a1 : List Cred) : Option (List Cred) :=
  (((m_ref05_Set a0)).bind fun r1 => m_ref34_Without_L1 a1 r1 ([]))
noncomputable def m_ref03_Set_L2 (l3289 : List ByteArray) : List ByteArray → ByteArray → Option ByteArray
  | [], x4673 => some x4673
  | x4540 :: xs4541, x4673 => (((m_ref03_Right x4540)).bind fun r4815 => (((if r4815 then (((if (((l3289.length : Int)) == 0) then some true else (((idx l3289 ((IntKind.i64.wrap (((l3289.length : Int)) - 1))))).bind fun x4937 => some ((!(ltS x4540 x4937 || beqS x4540 x4937))))) : Option Bool).bind fun x4918 => some x4918) else some false) : Option Bool).bind fun x4846 => (((if x4846 then (((if (beqS x4673 zS) then some true else some ((ltS x4540 x4673))) : Option Bool).bind fun x4892 => some x4892) else some false) : Option Bool).bind fun x4875 => (if x4875 then (m_ref03_Set_L2 l3289 xs4541 x4540) else (m_ref03_Set_L2 l3289 xs4541 x4673)))))
noncomputable def m_ref03_Set_L1 (a0 : List ByteArray) : Nat → (List ByteArray) → Option (List ByteArray)
  | 0, _ => none
  | n4118 + 1, l3289 => ((m_ref03_Set_L2 l3289 a0 zS : Option ByteArray).bind fun x4521 => (if (beqS x4521 zS) then some l3289 else (((appB 16 l3289 ([x4521]))).bind fun l4530 => (m_ref03_Set_L1 a0 n4118 l4530))))
noncomputable def m_ref03_Set (a0 : List ByteArray) : Option (List ByteArray) :=
  m_ref03_Set_L1 a0 FUEL ([])
noncomputable def m_ref08_Names_L1  : List Cred → (List ByteArray) → Option (List ByteArray)
  | [], l86 => (((m_ref03_Set l86)).bind fun r127 => some r127)
  | x65 :: xs66, l86 => (((appB 16 l86 ([x65.Who, x65.Head.Owner, x65.B.Owner, x65.C.Owner]))).bind fun l121 => (m_ref08_Names_L1 xs66 l121))
noncomputable def m_ref08_Names (a0 : List Cred) : Option (List ByteArray) :=
  m_ref08_Names_L1 a0 ([])
noncomputable def m_ref08_In_L1 (a1 : Role) (a2 : ByteArray) : List Fact → Option Bool
  | [] => some false
  | x82 :: xs83 => (((if (beqRole x82.Role a1) then some ((beqS x82.Who a2)) else some false) : Option Bool).bind fun x145 => (if x145 then some true else (m_ref08_In_L1 a1 a2 xs83)))
noncomputable def m_ref08_In (a0 : List Fact) (a1 : Role) (a2 : ByteArray) : Option Bool :=
  m_ref08_In_L1 a1 a2 a0
noncomputable def m_ref08_Step_L1 (a0 : List Fact) (a1 : Cred) (a3 : ByteArray) : List ByteArray → Option Bool
  | [] => some false
  | x130 :: xs131 => (((m_ref08_In a0 a1.B x130)).bind fun r205 => (((if r205 then (((m_ref08_In a0 ((⟨x130, a1.Word2⟩ : Role)) a3)).bind fun r227 => some r227) else some false) : Option Bool).bind fun x212 => (if x212 then some true else (m_ref08_Step_L1 a0 a1 a3 xs131))))
noncomputable def m_ref08_Step (a0 : List Fact) (a1 : Cred) (a2 : List ByteArray) (a3 : ByteArray) : Option Bool :=
  (if (a1.Kind == 1) then some (beqS a1.Who a3) else (if (a1.Kind == 2) then (((m_ref08_In a0 a1.B a3)).bind fun r5 => some r5) else (if (a1.Kind == 4) then (((m_ref08_In a0 a1.B a3)).bind fun r9 => (((if r9 then (((m_ref08_In a0 a1.C a3)).bind fun r25 => some r25) else some false) : Option Bool).bind fun x16 => some x16)) else m_ref08_Step_L1 a0 a1 a3 a2)))
noncomputable def m_ref08_less (a0 : Fact) (a1 : Fact) : Option Bool :=
  (((m_ref04_Less a0.Role a1.Role)).bind fun r5 => (((if r5 then some true else (((if (beqRole a0.Role a1.Role) then some ((ltS a0.Who a1.Who)) else some false) : Option Bool).bind fun x30 => some x30)) : Option Bool).bind fun x20 => some x20))
noncomputable def m_ref08_Sorted_L2 (l9338 : List Fact) (a0 : List Fact) : List Fact → Nat → Int → Option Int
  | [], _, x13237 => some x13237
  | x12855 :: xs12856, i12854, x13237 => (((if (((l9338.length : Int)) == 0) then some true else (((idx l9338 ((IntKind.i64.wrap (((l9338.length : Int)) - 1))))).bind fun x14000 => (((m_ref08_less x14000 x12855)).bind fun r14002 => some r14002))) : Option Bool).bind fun x13890 => (((if x13890 then (((if (decide (x13237 < 0)) then some true else (((idx a0 x13237)).bind fun x13988 => (((m_ref08_less x12855 x13988)).bind fun r13990 => some r13990))) : Option Bool).bind fun x13967 => some x13967) else some false) : Option Bool).bind fun x13940 => (if x13940 then (m_ref08_Sorted_L2 l9338 a0 xs12856 (i12854 + 1) ((i12854 : Int))) else (m_ref08_Sorted_L2 l9338 a0 xs12856 (i12854 + 1) x13237))))
noncomputable def m_ref08_Sorted_L1 (a0 : List Fact) : List Fact → (List Fact) → Option (List Fact)
  | [], l9338 => some l9338
  | x7004 :: xs7005, l9338 => ((m_ref08_Sorted_L2 l9338 a0 a0 0 ((-1)) : Option Int).bind fun x12829 => (if (decide (x12829 ≥ 0)) then (((idx a0 x12829)).bind fun x12841 => (((appB 48 l9338 ([x12841]))).bind fun l12845 => (m_ref08_Sorted_L1 a0 xs7005 l12845))) else (m_ref08_Sorted_L1 a0 xs7005 l9338)))
noncomputable def m_ref08_Sorted (a0 : List Fact) : Option (List Fact) :=
  m_ref08_Sorted_L1 a0 a0 ([])
noncomputable def m_ref08_Of_L3 (x12034 : Cred) (r10 : List ByteArray) : List ByteArray → (List Fact) → Bool → Option (((List Fact) × Bool))
  | [], l12996, x12999 => some (l12996, x12999)
  | x12947 :: xs12948, l12996, x12999 => (((m_ref08_In l12996 x12034.Head x12947)).bind fun r13070 => (((if (!r13070) then (((m_ref08_Step l12996 x12034 r10 x12947)).bind fun r13106 => some r13106) else some false) : Option Bool).bind fun x13077 => (if x13077 then (((appB 48 l12996 ([(⟨x12034.Head, x12947⟩ : Fact)]))).bind fun l13096 => (m_ref08_Of_L3 x12034 r10 xs12948 l13096 true)) else (m_ref08_Of_L3 x12034 r10 xs12948 l12996 x12999))))
noncomputable def m_ref08_Of_L2 (r10 : List ByteArray) : List Cred → (List Fact) → Bool → Option (((List Fact) × Bool))
  | [], l12390, x12393 => some (l12390, x12393)
  | x12034 :: xs12035, l12390, x12393 => ((m_ref08_Of_L3 x12034 r10 r10 l12390 x12393 : Option (((List Fact) × Bool))).bind fun (l12930, x12933) => (m_ref08_Of_L2 r10 xs12035 l12930 x12933))
noncomputable def m_ref08_Of_L1 (r10 : List ByteArray) (r1 : List Cred) : Nat → (List Fact) → Option (List Fact)
  | 0, _ => none
  | n10929 + 1, l8741 => ((m_ref08_Of_L2 r10 r1 l8741 false : Option (((List Fact) × Bool))).bind fun (l12010, x12013) => (if (!x12013) then (((m_ref08_Sorted l12010)).bind fun r12021 => some r12021) else (m_ref08_Of_L1 r10 r1 n10929 l12010)))
noncomputable def m_ref08_Of (a0 : List Cred) : Option (List Fact) :=
  (((m_ref05_Set a0)).bind fun r1 => (((m_ref08_Names r1)).bind fun r10 => m_ref08_Of_L1 r10 r1 FUEL ([])))
noncomputable def m_ref34_Lost_L1 (r10 : List Fact) : List Fact → (List Fact) → Option (List Fact)
  | [], l131 => some l131
  | x106 :: xs107, l131 => (((m_ref08_In r10 x106.Role x106.Who)).bind fun r170 => (if (!r170) then (((appB 48 l131 ([x106]))).bind fun l176 => (m_ref34_Lost_L1 r10 xs107 l176)) else (m_ref34_Lost_L1 r10 xs107 l131)))
noncomputable def m_ref34_Lost (a0 : List Cred) (a1 : List Cred) : Option (List Fact) :=
  (((m_ref34_Without a0 a1)).bind fun r1 => (((m_ref08_Of r1)).bind fun r10 => (((m_ref08_Of a0)).bind fun r19 => m_ref34_Lost_L1 r10 r19 ([]))))
noncomputable def m_ref34_Critical_L1 (a0 : List Cred) (a1 : Fact) : List Cred → (List Cred) → Option (List Cred)
  | [], l423 => some l423
  | x331 :: xs332, l423 => (((m_ref34_Without a0 ([x331]))).bind fun r581 => (((m_ref08_Of r581)).bind fun r590 => (((m_ref08_In r590 a1.Role a1.Who)).bind fun r599 => (if (!r599) then (((appB 136 l423 ([x331]))).bind fun l605 => (m_ref34_Critical_L1 a0 a1 xs332 l605)) else (m_ref34_Critical_L1 a0 a1 xs332 l423)))))
noncomputable def m_ref34_Critical (a0 : List Cred) (a1 : Fact) : Option (List Cred) :=
  (((m_ref08_Of a0)).bind fun r27 => (((m_ref08_In r27 a1.Role a1.Who)).bind fun r36 => (if (!r36) then some [] else (((m_ref05_Set a0)).bind fun r40 => m_ref34_Critical_L1 a0 a1 r40 ([])))))
noncomputable def m_slices_Compact_string_L2 (x2891 : Int) : Nat → (List ByteArray) → Int → Int → Option (((List ByteArray) × Int))
  | 0, _, _, _ => none
  | n4232 + 1, l4112, x4115, x4116 => (if (decide (x4116 < (((l4112.length - (Int.toNat x2891) : Nat) : Int)))) then (((((idx (l4112.drop (Int.toNat x2891)) x4116)).bind fun x4319 => (((idx (l4112.drop (Int.toNat x2891)) ((IntKind.i64.wrap (x4116 - 1))))).bind fun x4324 => (if (!(beqS x4319 x4324)) then (((idx (l4112.drop (Int.toNat x2891)) x4116)).bind fun x4330 => (((idx l4112 x4115)).bind fun x4335 => some (((l4112.set (Int.toNat x4115) x4330)), ((IntKind.i64.wrap (x4115 + 1)))))) else some (l4112, x4115)))) : Option (((List ByteArray) × Int))).bind fun (l4283, x4286) => (m_slices_Compact_string_L2 x2891 n4232 l4283 x4286 ((IntKind.i64.wrap (x4116 + 1))))) else some (l4112, x4115))
noncomputable def m_slices_Compact_string_L1 (a0 : List ByteArray) : Nat → Int → Option (List ByteArray)
  | 0, _ => none
  | n3617 + 1, x2891 => (if (decide (x2891 < ((a0.length : Int)))) then (((idx a0 x2891)).bind fun x3644 => (((idx a0 ((IntKind.i64.wrap (x2891 - 1))))).bind fun x3649 => (if (beqS x3644 x3649) then (((chk (decide (0 ≤ x2891) && decide (x2891 ≤ (a0.length : Int))))).bind fun _ => ((m_slices_Compact_string_L2 x2891 FUEL a0 x2891 1 : Option (((List ByteArray) × Int))).bind fun (l3988, x3991) => (((chk (decide (0 ≤ x3991) && decide (x3991 ≤ (l3988.length : Int))))).bind fun _ => (((chk (decide (0 ≤ x3991) && decide (x3991 ≤ (((clearT l3988 (Int.toNat x3991) zS)).length : Int))))).bind fun _ => some (((clearT l3988 (Int.toNat x3991) zS)).take (Int.toNat x3991)))))) else (m_slices_Compact_string_L1 a0 n3617 ((IntKind.i64.wrap (x2891 + 1))))))) else some a0)
noncomputable def m_slices_Compact_string (a0 : List ByteArray) : Option (List ByteArray) :=
  (if (decide (((a0.length : Int)) < 2)) then some a0 else m_slices_Compact_string_L1 a0 FUEL 1)
noncomputable def m_name_Set_L1  : List ByteArray → (List ByteArray) → Option (List ByteArray)
  | [], l90 => (((sortS l90)).bind fun r133 => (((m_slices_Compact_string r133)).bind fun r145 => some r145))
  | x68 :: xs69, l90 => (((m_name_Right x68)).bind fun r121 => (if r121 then (((appB 16 l90 ([x68]))).bind fun l127 => (m_name_Set_L1 xs69 l127)) else (m_name_Set_L1 xs69 l90)))
noncomputable def m_name_Set (a0 : List ByteArray) : Option (List ByteArray) :=
  m_name_Set_L1 a0 ([])
noncomputable def m_chain_names_L1  : List Cred → (List ByteArray) → Option (List ByteArray)
  | [], l86 => (((m_name_Set l86)).bind fun r127 => some r127)
  | x65 :: xs66, l86 => (((appB 16 l86 ([x65.Who, x65.Head.Owner, x65.B.Owner, x65.C.Owner]))).bind fun l121 => (m_chain_names_L1 xs66 l121))
noncomputable def m_chain_names (a0 : List Cred) : Option (List ByteArray) :=
  m_chain_names_L1 a0 ([])
noncomputable def m_slices_IndexFunc_string_L1 (f1 : ByteArray → Option Bool) : List ByteArray → Nat → Option Int
  | [], _ => some (-1)
  | x36 :: xs37, i35 => (((f1 x36)).bind fun r65 => (if r65 then some (i35 : Int) else (m_slices_IndexFunc_string_L1 f1 xs37 (i35 + 1))))
noncomputable def m_slices_IndexFunc_string (a0 : List ByteArray) (f1 : ByteArray → Option Bool) : Option Int :=
  m_slices_IndexFunc_string_L1 f1 a0 0
noncomputable def m_slices_ContainsFunc_string (a0 : List ByteArray) (f1 : ByteArray → Option Bool) : Option Bool :=
  (((m_slices_IndexFunc_string a0 f1)).bind fun r1 => some (decide (r1 ≥ 0)))
noncomputable def m_model_brings_c1 (a0 : ByteArray) (f_c0 : ((Role × ByteArray)) → Option Bool) (c1 : Cred) (c2 : ByteArray) : Option Bool :=
  (((f_c0 ((c1.B, a0)))).bind fun r4 => (((if r4 then (((f_c0 (((⟨a0, c1.Word2⟩ : Role), c2)))).bind fun r26 => some r26) else some false) : Option Bool).bind fun x14 => some x14))
noncomputable def m_model_brings (a0 : Cred) (f1 : ((Role × ByteArray)) → Option Bool) (a2 : List ByteArray) (a3 : ByteArray) : Option Bool :=
  (if (a0.Kind == 1) then some (beqS a0.Who a3) else (if (a0.Kind == 2) then (((f1 ((a0.B, a3)))).bind fun r12 => some r12) else (if (a0.Kind == 4) then (((f1 ((a0.B, a3)))).bind fun r16 => (((if r16 then (((f1 ((a0.C, a3)))).bind fun r32 => some r32) else some false) : Option Bool).bind fun x23 => some x23)) else (((m_slices_ContainsFunc_string a2 (fun (x : ByteArray) => m_model_brings_c1 x f1 a0 a3))).bind fun r35 => some r35))))
noncomputable def m_model_Holds_L1 (a0 : Cred) (f1 : ((Role × ByteArray)) → Option Bool) (r15 : List ByteArray) : List ByteArray → (List Fact) → Option (List Fact)
  | [], l150 => some l150
  | x128 :: xs129, l150 => (((m_model_brings a0 f1 r15 x128)).bind fun r187 => (if r187 then (((appB 48 l150 ([(⟨a0.Head, x128⟩ : Fact)]))).bind fun l193 => (m_model_Holds_L1 a0 f1 r15 xs129 l193)) else (m_model_Holds_L1 a0 f1 r15 xs129 l150)))
noncomputable def m_model_Holds (a0 : Cred) (f1 : ((Role × ByteArray)) → Option Bool) (a2 : List ByteArray) : Option (List Fact) :=
  (((m_cred_Right a0)).bind fun r3 => (((if (!r3) then some true else some false) : Option Bool).bind fun x7 => (if x7 then some [] else (((m_name_Set a2)).bind fun r15 => (((if (a0.Kind == 1) then some ([a0.Who]) else some r15) : Option (List ByteArray)).bind fun l45 => m_model_Holds_L1 a0 f1 r15 l45 ([]))))))
noncomputable def m_chain_grown_c1 (a0 : Role) (a1 : ByteArray) (c0 : List (Fact × Bool)) : Option Bool :=
  some (mgetD beqFact c0 ((⟨a0, a1⟩ : Fact)) false)
noncomputable def m_chain_grown_L3 (x8832 : Cred) (a1 : Fact) : List Fact → (List Step) → (List (Fact × Bool)) → Option (((((((List Step) × Bool)) ⊕ (((List Step) × (List (Fact × Bool)))))) ⊕ (((List Step) × (List (Fact × Bool))))))
  | [], l9534, l9537 => some (Sum.inr (l9534, l9537))
  | x9508 :: xs9509, l9534, l9537 => (if (mgetD beqFact l9537 x9508 false) then (m_chain_grown_L3 x8832 a1 xs9509 l9534 l9537) else (((appB 184 l9534 ([(⟨x8832, x9508⟩ : Step)]))).bind fun l9604 => (if (beqFact x9508 a1) then some (Sum.inl (Sum.inl (l9604, true))) else (m_chain_grown_L3 x8832 a1 xs9509 l9604 ((mput beqFact l9537 x9508 true))))))
noncomputable def m_chain_grown_L2 (r12 : List ByteArray) (a1 : Fact) : List Cred → (List Step) → (List (Fact × Bool)) → Option (((((List Step) × Bool)) ⊕ (((List Step) × (List (Fact × Bool))))))
  | [], l9086, l9089 => some (Sum.inr (l9086, l9089))
  | x8832 :: xs8833, l9086, l9089 => (((m_model_Holds x8832 (fun (x : (Role × ByteArray)) => m_chain_grown_c1 x.1 x.2 l9089) r12)).bind fun r9372 => ((m_chain_grown_L3 x8832 a1 r9372 l9086 l9089 : Option (((((((List Step) × Bool)) ⊕ (((List Step) × (List (Fact × Bool)))))) ⊕ (((List Step) × (List (Fact × Bool))))))).bind fun s => match s with | .inl q9611 => some q9611 | .inr (l9486, l9489) => (m_chain_grown_L2 r12 a1 xs8833 l9486 l9489)))
noncomputable def m_chain_grown_L1 (r12 : List ByteArray) (a1 : Fact) (r3 : List Cred) : Nat → (List Step) → Int → (List (Fact × Bool)) → Option (((List Step) × Bool))
  | 0, _, _, _ => none
  | n8019 + 1, l6408, x6411, l6412 => (if (decide (x6411 < ((l6408.length : Int)))) then ((m_chain_grown_L2 r12 a1 r3 l6408 l6412 : Option (((((List Step) × Bool)) ⊕ (((List Step) × (List (Fact × Bool))))))).bind fun s => match s with | .inl q9612 => some q9612 | .inr (l8812, l8815) => (m_chain_grown_L1 r12 a1 r3 n8019 l8812 ((l6408.length : Int)) l8815)) else some ([], false))
noncomputable def m_chain_grown (a0 : List Cred) (a1 : Fact) : Option (((List Step) × Bool)) :=
  (((m_cred_Set a0)).bind fun r3 => (((m_chain_names a0)).bind fun r12 => m_chain_grown_L1 r12 a1 r3 FUEL ([]) ((-1)) ([])))
noncomputable def m_check_facts_L1  : List Step → (List Fact) → Option (List Fact)
  | [], l86 => some l86
  | x65 :: xs66, l86 => (((appB 48 l86 ([x65.Fact]))).bind fun l121 => (m_check_facts_L1 xs66 l121))
noncomputable def m_check_facts (a0 : List Step) : Option (List Fact) :=
  m_check_facts_L1 a0 ([])
noncomputable def m_slices_Index_Fact_L1 (a1 : Fact) : List Fact → Nat → Option Int
  | [], _ => some (-1)
  | x47 :: xs48, i46 => (if (beqFact a1 x47) then some (i46 : Int) else (m_slices_Index_Fact_L1 a1 xs48 (i46 + 1)))
noncomputable def m_slices_Index_Fact (a0 : List Fact) (a1 : Fact) : Option Int :=
  m_slices_Index_Fact_L1 a1 a0 0
noncomputable def m_slices_Contains_Fact (a0 : List Fact) (a1 : Fact) : Option Bool :=
  (((m_slices_Index_Fact a0 a1)).bind fun r3 => some (decide (r3 ≥ 0)))
noncomputable def m_slices_Index_had_Fact_L1 (a1 : Fact) : List Fact → Nat → Option Int
  | [], _ => some (-1)
  | x47 :: xs48, i46 => (if (beqFact a1 x47) then some (i46 : Int) else (m_slices_Index_had_Fact_L1 a1 xs48 (i46 + 1)))
noncomputable def m_slices_Index_had_Fact (a0 : List Fact) (a1 : Fact) : Option Int :=
  m_slices_Index_had_Fact_L1 a1 a0 0
noncomputable def m_slices_Contains_had_Fact (a0 : List Fact) (a1 : Fact) : Option Bool :=
  (((m_slices_Index_had_Fact a0 a1)).bind fun r3 => some (decide (r3 ≥ 0)))
noncomputable def m_check_had_in (a0 : List Fact) (a1 : Role) (a2 : ByteArray) : Option Bool :=
  (((m_slices_Contains_had_Fact a0 ((⟨a1, a2⟩ : Fact)))).bind fun r3 => some r3)
noncomputable def m_slices_IndexFunc_had_Fact_L1 (f1 : Fact → Option Bool) : List Fact → Nat → Option Int
  | [], _ => some (-1)
  | x36 :: xs37, i35 => (((f1 x36)).bind fun r65 => (if r65 then some (i35 : Int) else (m_slices_IndexFunc_had_Fact_L1 f1 xs37 (i35 + 1))))
noncomputable def m_slices_IndexFunc_had_Fact (a0 : List Fact) (f1 : Fact → Option Bool) : Option Int :=
  m_slices_IndexFunc_had_Fact_L1 f1 a0 0
noncomputable def m_slices_ContainsFunc_had_Fact (a0 : List Fact) (f1 : Fact → Option Bool) : Option Bool :=
  (((m_slices_IndexFunc_had_Fact a0 f1)).bind fun r1 => some (decide (r1 ≥ 0)))
noncomputable def m_check_had_linked_c1 (a0 : Fact) (c0 : Role) (c1 : List Fact) (c2 : ByteArray) (c3 : ByteArray) : Option Bool :=
  (((if (beqRole a0.Role c0) then (((m_check_had_in c1 ((⟨a0.Who, c2⟩ : Role)) c3)).bind fun r16 => some r16) else some false) : Option Bool).bind fun x7 => some x7)
noncomputable def m_check_had_linked (a0 : List Fact) (a1 : Role) (a2 : ByteArray) (a3 : ByteArray) : Option Bool :=
  (((m_slices_ContainsFunc_had_Fact a0 (fun (x : Fact) => m_check_had_linked_c1 x a1 a0 a2 a3))).bind fun r11 => some r11)
noncomputable def m_check_Follows (a0 : Step) (a1 : List Fact) : Option Bool :=
  (((m_cred_Right a0.Cred)).bind fun r12 => (((if (!r12) then some true else some ((!(beqRole a0.Fact.Role a0.Cred.Head)))) : Option Bool).bind fun x16 => (if x16 then some false else (if (a0.Cred.Kind == 1) then some (beqS a0.Cred.Who a0.Fact.Who) else (if (a0.Cred.Kind == 2) then (((m_check_had_in a1 a0.Cred.B a0.Fact.Who)).bind fun r26 => some r26) else (if (a0.Cred.Kind == 3) then (((m_check_had_linked a1 a0.Cred.B a0.Cred.Word2 a0.Fact.Who)).bind fun r30 => some r30) else (((m_check_had_in a1 a0.Cred.B a0.Fact.Who)).bind fun r33 => (((if r33 then (((m_check_had_in a1 a0.Cred.C a0.Fact.Who)).bind fun r48 => some r48) else some false) : Option Bool).bind fun x40 => some x40))))))))
noncomputable def m_check_stands_L1 (r1 : List Fact) : List Step → Nat → Option Bool
  | [], _ => some true
  | x99 :: xs100, i98 => (((chk (decide (0 ≤ ((i98 : Int))) && decide (((i98 : Int)) ≤ (r1.length : Int))))).bind fun _ => (((m_check_Follows x99 ((r1.take (Int.toNat ((i98 : Int))))))).bind fun r182 => (if (!r182) then some false else (m_check_stands_L1 r1 xs100 (i98 + 1)))))
noncomputable def m_check_stands (a0 : List Step) : Option Bool :=
  (((m_check_facts a0)).bind fun r1 => m_check_stands_L1 r1 a0 0)
noncomputable def m_slices_Clone_Step (a0 : List Step) : Option (List Step) :=
  (((appB 184 ([]) a0)).bind fun l8 => some l8)
noncomputable def m_slices_Delete_Step (a0 : List Step) (a1 : Int) (a2 : Int) : Option (List Step) :=
  (((chk (decide (0 ≤ a1 ∧ a1 ≤ a2 ∧ a2 ≤ (a0.length : Int) ∧ (a0.length : Int) ≤ (a0.length : Int))))).bind fun _ => (if (a1 == a2) then some a0 else (((chk (decide (0 ≤ a1) && decide (a1 ≤ (a0.length : Int))))).bind fun _ => (((chk (decide (0 ≤ a2) && decide (a2 ≤ (a0.length : Int))))).bind fun _ => (((chk (decide ((Int.toNat a1) ≤ (Int.toNat a2) ∧ (Int.toNat a2) ≤ a0.length)))).bind fun u37 => (((chk (decide (0 ≤ (((a0.take (Int.toNat a1) ++ a0.drop (Int.toNat a2))).length : Int) ∧ (((a0.take (Int.toNat a1) ++ a0.drop (Int.toNat a2))).length : Int) ≤ (a0.length : Int) ∧ (a0.length : Int) = (((delB a0 (Int.toNat a1) (Int.toNat a2))).length : Int) ∧ (((a0.take (Int.toNat a1) ++ a0.drop (Int.toNat a2))).length : Int) = (((a0.take (Int.toNat a1) ++ a0.drop (Int.toNat a2))).length : Int))))).bind fun _ => some (((clearT ((delB a0 (Int.toNat a1) (Int.toNat a2))) (Int.toNat ((((a0.take (Int.toNat a1) ++ a0.drop (Int.toNat a2))).length : Int))) (⟨(⟨0, (⟨zS, zS⟩ : Role), zS, (⟨zS, zS⟩ : Role), (⟨zS, zS⟩ : Role), zS⟩ : Cred), (⟨(⟨zS, zS⟩ : Role), zS⟩ : Fact)⟩ : Step))).take ((a0.take (Int.toNat a1) ++ a0.drop (Int.toNat a2))).length)))))))
noncomputable def m_check_Tight_L2 (a0 : List Step) : Nat → Int → Option ((Bool ⊕ Unit))
  | 0, _ => none
  | n361 + 1, x325 => (if (decide (x325 < ((if 0 > (IntKind.i64.wrap (((a0.length : Int)) - 1)) then 0 else (IntKind.i64.wrap (((a0.length : Int)) - 1)))))) then (((m_slices_Clone_Step a0)).bind fun r367 => (((m_slices_Delete_Step r367 x325 ((IntKind.i64.wrap (x325 + 1))))).bind fun r376 => (((m_check_stands r376)).bind fun r389 => (if r389 then some (Sum.inl false) else (m_check_Tight_L2 a0 n361 ((IntKind.i64.wrap (x325 + 1)))))))) else some (Sum.inr ()))
noncomputable def m_check_Tight_L1 (r1 : List Fact) (a0 : List Step) : List Fact → Nat → Option Bool
  | [], _ => (((m_check_stands a0)).bind fun r190 => (if (!r190) then some false else ((m_check_Tight_L2 a0 FUEL 0 : Option ((Bool ⊕ Unit))).bind fun s => match s with | .inl q393 => some q393 | .inr _ => some true)))
  | x101 :: xs102, i100 => (((chk (decide (0 ≤ ((i100 : Int))) && decide (((i100 : Int)) ≤ (r1.length : Int))))).bind fun _ => (((m_slices_Contains_Fact ((r1.take (Int.toNat ((i100 : Int))))) x101)).bind fun r186 => (if r186 then some false else (m_check_Tight_L1 r1 a0 xs102 (i100 + 1)))))
noncomputable def m_check_Tight (a0 : List Step) : Option Bool :=
  (((m_check_facts a0)).bind fun r1 => m_check_Tight_L1 r1 a0 r1 0)
noncomputable def m_chain_stands_L1  : List Step → (List Fact) → Option Bool
  | [], l102 => some true
  | x77 :: xs78, l102 => (((m_check_Follows x77 l102)).bind fun r139 => (if (!r139) then some false else (((appB 48 l102 ([x77.Fact]))).bind fun l145 => (m_chain_stands_L1 xs78 l145))))
noncomputable def m_chain_stands (a0 : List Step) : Option Bool :=
  m_chain_stands_L1 a0 ([])
noncomputable def m_chain_tightened_L2  : Nat → (List Step) → Int → Option (List Step)
  | 0, _, _ => none
  | n2689 + 1, l2608, x2611 => (if (decide (x2611 ≥ 0)) then (((((m_slices_Clone_Step l2608)).bind fun r2733 => (((m_slices_Delete_Step r2733 x2611 ((IntKind.i64.wrap (x2611 + 1))))).bind fun r2742 => (((m_chain_stands r2742)).bind fun r2755 => (if r2755 then some r2742 else some l2608)))) : Option (List Step)).bind fun l2722 => (m_chain_tightened_L2 n2689 l2722 ((IntKind.i64.wrap (x2611 - 1))))) else some l2608)
noncomputable def m_chain_tightened_L1  : Nat → (List Step) → Option (List Step)
  | 0, _ => none
  | n2302 + 1, l1836 => (((m_check_Tight l1836)).bind fun r2305 => (if (!r2305) then ((m_chain_tightened_L2 FUEL l1836 ((IntKind.i64.wrap (((l1836.length : Int)) - 2))) : Option (List Step)).bind fun l2530 => (m_chain_tightened_L1 n2302 l2530)) else some l1836))
noncomputable def m_chain_tightened (a0 : List Step) : Option (List Step) :=
  m_chain_tightened_L1 FUEL a0
noncomputable def m_chain_Find (a0 : List Cred) (a1 : Fact) : Option (((List Step) × Bool)) :=
  (((m_chain_grown a0 a1)).bind fun r3 => (if (!r3.2) then some ([], false) else (((m_chain_tightened r3.1)).bind fun r17 => some (r17, true))))
noncomputable def m_chain_Used_L1  : List Step → (List Cred) → Option (List Cred)
  | [], l86 => (((m_cred_Set l86)).bind fun r127 => some r127)
  | x65 :: xs66, l86 => (((appB 136 l86 ([x65.Cred]))).bind fun l121 => (m_chain_Used_L1 xs66 l121))
noncomputable def m_chain_Used (a0 : List Step) : Option (List Cred) :=
  m_chain_Used_L1 a0 ([])
noncomputable def m_law34_RevokeStops_L2 (r1436 : ((List Step) × Bool)) (r1449 : List Cred) : List Cred → Option ((Bool ⊕ Unit))
  | [] => some (Sum.inr ())
  | x1569 :: xs1570 => (((if (!r1436.2) then some true else (((m_ref05_Has r1449 x1569)).bind fun r1661 => some ((!r1661)))) : Option Bool).bind fun x1647 => (if x1647 then some (Sum.inl false) else (m_law34_RevokeStops_L2 r1436 r1449 xs1570)))
noncomputable def m_law34_RevokeStops_L4 (x1669 : Cred) : List Signed → Option ((((Bool ⊕ Unit)) ⊕ Unit))
  | [] => some (Sum.inr ())
  | x2044 :: xs2045 => (if (beqCred x2044.Cred x1669) then some (Sum.inl (Sum.inl false)) else (m_law34_RevokeStops_L4 x1669 xs2045))
noncomputable def m_law34_RevokeStops_L3 (l674 : List Signed) : List Cred → Option ((Bool ⊕ Unit))
  | [] => some (Sum.inr ())
  | x1669 :: xs1670 => ((m_law34_RevokeStops_L4 x1669 l674 : Option ((((Bool ⊕ Unit)) ⊕ Unit))).bind fun s => match s with | .inl q2104 => some q2104 | .inr _ => (m_law34_RevokeStops_L3 l674 xs1670))
noncomputable def m_law34_RevokeStops_L1 (r7 : (((Option KeysRegistry)) × Int)) (a0 : List Key) (a1 : List Cred) (a2 : Fact) : List Cred → Nat → (List Signed) → (List Signed) → Option Bool
  | [], _, l670, l674 => (((m_revoke_Live a0 l670 l674)).bind fun r986 => ((m_law34_RevokeStops_L3 l674 r986 : Option ((Bool ⊕ Unit))).bind fun s => match s with | .inl q2105 => some q2105 | .inr _ => (((m_chain_Find a1 a2)).bind fun r1436 => (((m_chain_Used r1436.1)).bind fun r1449 => (((m_revoke_Critical a1 a2)).bind fun r1458 => ((m_law34_RevokeStops_L2 r1436 r1449 r1458 : Option ((Bool ⊕ Unit))).bind fun s => match s with | .inl q1664 => some q1664 | .inr _ => some true))))))
  | x521 :: xs522, i520, l670, l674 => (((m_keys_Registry_Sign r7.1 x521)).bind fun r851 => (if (r851.2 != 0) then (m_law34_RevokeStops_L1 r7 a0 a1 a2 xs522 (i520 + 1) l670 l674) else (((m_revoke_Make a0 x521)).bind fun r869 => (if (beqS ((strI ((r869.1).Tag))) ((strI ((r851.1).Tag)))) then some true else (((if (r869.2 != 0) then some true else (((m_revoke_Good a0 r851.1)).bind fun r983 => some r983)) : Option Bool).bind fun x891 => (((if x891 then some true else (((m_keys_Registry_Check r7.1 r869.1)).bind fun r976 => some ((r976 == 0)))) : Option Bool).bind fun x911 => (((if x911 then some true else (((m_revoke_Good a0 r869.1)).bind fun r969 => some ((!r969)))) : Option Bool).bind fun x931 => (if x931 then some false else (((appB 160 l670 ([r851.1]))).bind fun l950 => (if (((Int.tmod ((i520 : Int)) 2)) == 0) then (((appB 160 l674 ([r869.1]))).bind fun l959 => (m_law34_RevokeStops_L1 r7 a0 a1 a2 xs522 (i520 + 1) l950 l959)) else (m_law34_RevokeStops_L1 r7 a0 a1 a2 xs522 (i520 + 1) l950 l674)))))))))))
noncomputable def m_law34_RevokeStops (a0 : List Key) (a1 : List Cred) (a2 : Fact) : Option Bool :=
  (m_law34_first.bind fun r3 => (if (!r3) then some false else (((m_keys_New a0)).bind fun r7 => (((m_law05_Great a1)).bind fun r19 => (((if (decide (r19 > 900)) then some true else (((m_law06_Great a0 ([]))).bind fun r2118 => some ((decide (r2118 > 1500))))) : Option Bool).bind fun x26 => (((if x26 then some true else some ((r7.2 != 0))) : Option Bool).bind fun x36 => (((if x36 then some true else some ((decide (((IntKind.i64.wrap (((IntKind.i64.wrap (((a2.Who.size : Int)) + ((a2.Role.Owner.size : Int))))) + ((a2.Role.Word.size : Int))))) > 200)))) : Option Bool).bind fun x45 => (if x45 then some true else m_law34_RevokeStops_L1 r7 a0 a1 a2 a1 0 ([]) ([])))))))))
noncomputable def m_ref10_Used_L1  : List Step → (List Cred) → Option (List Cred)
  | [], l86 => (((m_ref05_Set l86)).bind fun r127 => some r127)
  | x65 :: xs66, l86 => (((appB 136 l86 ([x65.Cred]))).bind fun l121 => (m_ref10_Used_L1 xs66 l121))
noncomputable def m_ref10_Used (a0 : List Step) : Option (List Cred) :=
  m_ref10_Used_L1 a0 ([])
end Go.Proofs.YtmlncblocfcmiaaGreat
