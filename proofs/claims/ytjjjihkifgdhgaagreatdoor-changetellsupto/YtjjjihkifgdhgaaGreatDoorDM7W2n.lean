/- a part of a proof of ChangeTells -/
import Derived.Test.YtjjjihkifgdhgaaGreatDoorDM7W1n
set_option linter.all false
namespace Go.Proofs.YtjjjihkifgdhgaaGreatDoor
open Go.IntKind renaming wrap → wi0
open Go.Proofs.Tryz renaming prog → pg0
open Go.RowKit
set_option maxRecDepth 10000
open Tryz
theorem Fq (j:Value) (t:List kC) (c:kC) (r:Int) (w:World) (g:Sl (Pl kI) 9 (hp w) j t) (hm:xl t c=some r) :
  la true pg0 242 [j,(.agg (kI c).toArray)] w (.int .i64 r):=by
 refine cG 19 func242 rfl (λd=>sg (VE (ly d rfl (λQ J d=>Wa (lS (Wm (V (mx aX rfl g) (Wm (ln ?_)))))))))
 refine mj (λi E W=>∃k,(E 8= .int .i64 (i:Nat)∧E 7= .int .i64 (t.length:Nat))∧ST true lD w W (hp w) ((J,Ol (kI c) 52)::k)∧E 0=j∧E 3=(.pointer (some ⟨J,0,none⟩))∧rr c (t.drop i) i=some r) t.length g.len ⟨_,⟨rfl,rfl⟩,(d.kB St),rfl,rfl,hm⟩ dc dc dc (λ_ _ _ h=>by obtain ⟨_,q,_⟩:=h; exact q) ?_ ?_
 ·rintro K E W B ⟨k,⟨p,v⟩,d,u,x,a⟩
  obtain ⟨y,M,H,G,I⟩:=lX B
  rw [H] at a
  refine bg (Wh p (Wa (ln (kQ ?_))))
  replace d:=d.drew
  have n:=d.has.kB (Kb Sn)
  refine lC n lj (XH 0 rfl n (λ_ s=>kF x (kL s Mh (kI c) rfl cA aR)) (X 1 rfl n (kH u) (X 2 rfl n (kH rfl) (XQ 3 rfl n (th (enc:=kI) (i:=(K:Int)) (x0:=y) aX aR rfl rfl g (aM _) G) (λN D=>XH 4 rfl n (λ_ s=>kF rfl (lx s D cA aR)) (X 5 rfl n (wD rfl rfl (oX gm) (tE (wJ _ c y))) (lH kr (kP (CI a rfl (λz a=>?_) (λz a=>?_))))))))))
  ·refine sg (Wm (Wa (ln ?_)))
   replace d:=d.kB (Db St)
   refine lB (nU (lV (nU (lV ?_))))
   obtain rfl:=sj a
   exact rP d
  exact mM (lI (kP ⟨p,_,⟨rfl,v⟩,(d.kB St),u,x,(by rw [I]; exact a)⟩))
 rintro E W ⟨k,⟨p,v⟩,d,u,x,a⟩
 rw [aO] at a
 refine kP ?_
 replace d:=d.kB (Db St)
 exact sg (Wa (lt (rQ a d)))
theorem Du (a:Value) (g:List kC) (c:kC) (r:Bool) (w:World) (i:Sl (Pl kI) 9 (hp w) a g) (hm:tN g c=some r) :
  la true pg0 179 [a,(.agg (kI c).toArray)] w (.bool r):=by
 refine cG 9 func179 rfl (λd=>sg (VE (ly d rfl (λk u d=>Wa (lr (Wm (VA d Mh (kI c) cA aR (bS hm λx j hm=>VE (Eg d call242 (Fq a g c _ _ (i.mono (Pl.mono _) d.kG) j) (λt d=>Wi rfl (Wa ?_)))))))))))
 refine ln ?_
 exact lB (rQ hm d)
theorem EH (a:Value) (g:List kC) (c:kC) (r:Bool) (w:World) (i:Sl (Pl kI) 9 (hp w) a g) (hm:vJ g c=some r) :
  la true pg0 111 [a,(.agg (kI c).toArray)] w (.bool r):=by
 refine cG 8 func111 rfl (λd=>sg (VE (ly d rfl (λk u d=>Wa (lr (Wm (VA d Mh (kI c) cA aR (bS hm λx j hm=>VE (Eg d call179 (Du a g c _ _ (i.mono (Pl.mono _) d.kG) j) (λt d=>Wa (lu ?_)))))))))))
 refine kP ?_
 exact lB (rQ hm d)
theorem LI (a:kC) (r:List kz) (w:World) (hm:FP a=some r) :
  oU true pg0 320 [(.agg (kI a).toArray)] w 27 kN 2 r:=by
 refine Az 27 func320 rfl (λd=>sg (VE (ly d rfl (λW2 K d=>Wa (lS (VA d Mh (kI a) cA aR (bS hm λs Y hm=>VE (Eg d call144 (xT a _ _  Y) (λW5 d=>V (nv rfl) (lu ?_))))))))))
 refine kP (CI hm rfl (λU hm=>?_) (λU hm=>?_))
 ·cases hm
 refine kg (Wf vF (VA d Mh (kN a.Head) bI aP (VE (lJ (cs:=(kN a.Head).toArray) d (nL rfl) (oa eX aP fR) (λW8 M d=>Wa (ln (kQ (CJ hm (λB E W=>∃k i x,ST true lD w W (hp w) ((K,Ol (kI a) 52)::(i++x))∧E 1=(.pointer (some ⟨K,0,none⟩))∧E 3=k∧lm 27 kN 2 k B i) (λB g=>?_) ?_))))))))
 ·refine sg (Wf rY (VB d (Mt Mh) rfl rfl bX (Wi rfl (ln (CI g rfl (λG g=>?_) (λG g=>?_))))))
  ·cases g
  refine kn ?_
  obtain rfl:=sj g
  replace d:=d.F4
  exact ⟨(.slice (some ⟨M,0,none⟩) 1 1),[(M,Ol (kN a.Head) 27)],_,(d.kB (Sb (Pr Pz) St)),rfl,rfl,(lm.lit (l:=[a.Head]) (enc:=kN) rfl dc rfl rfl)⟩
 rintro Z E W ⟨k,i,x,d,N,Q,J⟩ H
 refine kQ (CJ H (λz E W=>∃t j y,ST true lD w W (hp w) (j++y)∧E 3=t∧lm 27 kN 2 t z j) (λz c=>?_) ?_)
 ·refine sg (V (kJ rY N) (VB d Mh rfl rfl bX (Wi rfl (ln (CI c rfl (λD c=>?_) (λD c=>?_))))))
  ·cases c
  refine kn ?_
  obtain rfl:=sj c
  exact ⟨k,i,_,(d.kB (Db St)),Q,J⟩
 rintro q E W ⟨t,j,y,d,T,u⟩ I
 refine sg (Wh T (Wa (lt ?_)))
 obtain rfl:=sj I
 exact nq (v:=t) rfl rfl ⟨_,j,rfl,d.sI (λp n=>(Ml n)) u.nd,u⟩
theorem E2 (I:Nat) (k:Value) (Z:List (kz×(List (ByteArray×Bool)))) (B:LO) (z:Value) (N:List kC) (u:LO) (a:Value) (J:List (kz×(List kC))) (D:LO) (c:Value) (H:List (ByteArray×(List kC))) (j:LO) (g:Value) (Q:List pd) (t:LO) (G:Int) (K:kC) (r:((List kC)×(List (kz×(List kC)))×(List (ByteArray×(List kC))))) (w:World) {μ0:lF} (h0:pe μ0 ((I,Ob #[k,z,a,c,g,(.int .i64 G)] 246)::(B++(u++(D++(j++(t++[])))))) w) (c2:nP (λ(x:kz)=>(.agg (kN x).toArray)) (nI Value.string (λ(x:Bool)=>(Value.bool x))) k Z B) (T:lm 52 kI 9 z N u) (a0:nP (λ(x:kz)=>(.agg (kN x).toArray)) (lm 52 kI 9) a J D) (U:nP Value.string (lm 52 kI 9) c H j) (b7:sL 285 oD 3 g Q t) (hm:An Z N J H Q G K=some r) :
  mz true pg0 261 [(.pointer (some ⟨I,0,none⟩)),(.agg (kI K).toArray)] w ((I,Ob #[k,z,a,c,g,(.int .i64 G)] 246)::(B++(u++(D++(j++(t++[])))))) (λv L1 W'=>∃y1 S2 S4 S6,v=(.tuple #[])∧L1=((I,Ob #[k,y1,a,c,g,(.int .i64 G)] 246)::(B++(S2++(S4++(S6++(t++[]))))))∧lm 52 kI 9 y1 r.1 S2∧nP (λ(x:kz)=>(.agg (kN x).toArray)) (lm 52 kI 9) a r.2.1 S4∧nP Value.string (lm 52 kI 9) c r.2.2 S6):=by
 refine wM h0 55 func261 rfl (λd=>sg (VE (ly d rfl (λW2 b1 d=>ln (kQ ?_)))))
 replace d:=d.drew
 have n:=d.has.kB (Kb Sn)
 have p:=d.has.kB (Db (Kb Sn))
 refine sM 10 n p lj (lG 0 rfl kr (.inl rfl) rfl dc (λ_ _ h=>⟨h.1,lO br h.2⟩) ⟨n,λ_=>p⟩ (λ_ _ _ _=>kH rfl) (lG 1 rfl kr (.inl rfl) rfl dc (λ_ _ h=>⟨h.1,lO br h.2⟩) ⟨n,λ_=>p⟩ (λ_ _ _ _=>kH rfl) (lG 2 rfl kr (.inl rfl) rfl dc (λ_ _ h=>⟨h.1,lO br h.2⟩) ⟨n,λ_=>p⟩ (λ_ _ _ _=>ql rfl) (lG 3 rfl kr (.inl rfl) rfl dc (λ_ _ h=>⟨h.1,lO br h.2⟩) ⟨n,λ_=>p⟩ (λ_ _ _ _=>kJ IL rfl) (lG 4 rfl kr (.inl rfl) rfl dc (λ_ _ h=>⟨h.1,lO br h.2⟩) ⟨n,λ_=>p⟩ (λl W q O=>have L:=(O.2 (q.yL 10 [4] kr rfl)); kF rfl (kV L Mh rfl iZ)) (lG 5 rfl kr (.inl rfl) rfl dc (λ_ _ h=>⟨h.1,lO br h.2⟩) ⟨n,λ_=>p⟩ (λl W q O=>have L:=O.1; kF rfl (kL L Mh (kI K) rfl cA aR)) (XE 6 rfl (lJ (cs:=(kI K).toArray) d (nL rfl) (oa aX aR dT) (λe5 d0 d=>?_)))))))))
 have n:=d.has.kB (Db (Kb Sn))
 have p:=d.has.kB (Db (Db (Kb Sn)))
 refine ⟨⟨n,λ_=>p⟩,?_⟩
 replace d:=d.perm (Nr (Qb (Qb (Qb (Qr Qz)))) Nz)
 refine bS hm λa2 c3 hm=>XE 7 rfl (pK (enc:=kI) (v:=z) (vs:=(.slice (some ⟨d0,0,none⟩) 1 1)) (R:=u) d mQ dc qM aX qG.1 qG.2.1 rfl qG.2.2.1 qG.2.2.2 rfl rfl T (Sl.lit (enc:=kI) (l:=[K]) mQ rfl nb rfl (d.at_ (Ma Mh))) c3 (λe6 e9 b6 d a8=>?_))
 have n:=d.has.kB (Dr (Db (Kb Sn)))
 have p:=d.has.kB (Dr (Db (Db (Kb Sn))))
 refine ⟨⟨n,λ_=>p⟩,(lG 8 rfl kr (.inl rfl) rfl dc (λ_ _ h=>⟨h.1,lO br h.2⟩) ⟨n,λ_=>p⟩ (λ_ _ _ _=>ql rfl) (lG 9 rfl kr (.inl rfl) rfl dc (λ_ _ h=>⟨h.1,lO br h.2⟩) ⟨n,λ_=>p⟩ (λ_ _ _ _=>kJ IL rfl) ?_))⟩
 obtain ⟨a4,a5,rfl⟩:=a8.form
 let s:Value:=(.slice a4 a2.length a5)
 replace d:=d.perm (Nb (Pr (Pb (Pb Pz))) Nz)
 refine XO 10 rfl (lp s (#[k,s,a,c,g,(.int .i64 G)]) d rfl rfl sizeOf45 oc nb rfl (λe7 d=>?_))
 have n:=d.has.kB (Db (Dr (Db (Kb Sn))))
 refine ⟨⟨n,λh=>vp kr h⟩,(lH kr (kP ?_))⟩
 replace d:=d.kB (Kb (Kr (Db St)))
 refine kQ (sg (VA d (Mt (Ma Mh)) (kI K) cA aR (bS hm λb2 c4 hm=>VE (As d call320 (LI K _ _  c4) (λe8 f0 f1 e4 d d4 aa c1=>?_)))))
 let b8:=(b2.drop (Int.toNat 1))
 obtain ⟨d3,d,d5,ab,c5⟩:=ST.PK d c1 zx
 refine bS hm λ_ a9 hm=>VQ (Hd (i:=1) eX aP rfl rfl c5 (ym a9) (yb a9)) (λd1 b0=>V (mx eX rfl b0.1) (Wm (ln (mj (λi E W=>∃Y M a3,(E 20= .int .i64 (i:Nat)∧E 19= .int .i64 (b8.length:Nat))∧ST true (keys ((I,Ob #[k,z,a,c,g,(.int .i64 G)] 246)::(B++(u++(D++(j++(t++[]))))))) w W d3 ((I,Ob #[k,s,a,c,g,(.int .i64 G)] 246)::((b1,Ol (kI K) 52)::(M++(b6++(B++(j++(t++a3)))))))∧E 0=(.pointer (some ⟨I,0,none⟩))∧E 3=(.pointer (some ⟨b1,0,none⟩))∧E 18=d1∧nP (λ(x:kz)=>(.agg (kN x).toArray)) (lm 52 kI 9) a Y M∧vt K H a2 (b8.drop i) Y=some r) b8.length b0.1.len ⟨J,D,_,⟨rfl,rfl⟩,(d.kB (Kb (Sb (Pr Pz) (Sr (Qr (Qr Qz)) St)))),rfl,rfl,rfl,a0,hm⟩ dc dc dc (λ_ _ _ h=>by obtain ⟨_,_,_,A,_⟩:=h; exact A) ?_ ?_))))
 ·rintro e1 E W b4 ⟨Y,M,a3,⟨eI,eN⟩,d,b9,a7,c0,P,y⟩
  obtain ⟨e2,d8,b5,d6,d7⟩:=lX b4
  rw [b5] at y
  rw [vt] at y
  cases y
 rintro E W ⟨Y,M,a3,⟨eI,eN⟩,d,b9,a7,c0,P,y⟩
 rw [aO] at y
 refine kP (sg (V (kJ rY a7) (VB d (Mt Mh) rfl rfl bX (Wi rfl (ln (CI y rfl (λb3 y=>?_) (λb3 y=>?_)))))))
 ·cases y
 refine mM (qK ?_)
 obtain rfl:=sj y
 exact px rfl ⟨_,_,rfl,(d.od (Kb (Db (Sr (Qr (Qr Qz)) (Sr (Qr Qz) (Kr (Kr (Kr Sn)))))))),s,b6,M,j,rfl,rfl,a8,P,U⟩
theorem EN (J:Nat) (g:Value) (Z:List (kz×(List (ByteArray×Bool)))) (D:LO) (a:Value) (K:List kC) (t:LO) (i:Value) (U:List (kz×(List kC))) (B:LO) (c:Value) (M:List (ByteArray×(List kC))) (u:LO) (j:Value) (T:List pd) (y:LO) (H:Int) (G:kz) (Q:ByteArray) (r:((List (kz×(List (ByteArray×Bool))))×(List pd)×Int)) (w:World) {μ0:lF} (h0:pe μ0 ((J,Ob #[g,a,i,c,j,(.int .i64 H)] 246)::(D++(t++(B++(u++(y++[])))))) w) (a5:nP (λ(x:kz)=>(.agg (kN x).toArray)) (nI Value.string (λ(x:Bool)=>(Value.bool x))) g Z D) (b5:lm 52 kI 9 a K t) (c3:nP (λ(x:kz)=>(.agg (kN x).toArray)) (lm 52 kI 9) i U B) (b6:nP Value.string (lm 52 kI 9) c M u) (a0:sL 285 oD 3 j T y) (hm:zZ Z K U M T H G Q=some r) :
  mz true pg0 321 [(.pointer (some ⟨J,0,none⟩)),(.agg (kN G).toArray),(.string Q)] w ((J,Ob #[g,a,i,c,j,(.int .i64 H)] 246)::(D++(t++(B++(u++(y++[])))))) (λv L1 W'=>∃S1 y3 S4,v=(.tuple #[])∧L1=((J,Ob #[g,a,i,c,y3,(.int .i64 (r.2.2))] 246)::(S1++(t++(B++(u++(S4++[]))))))∧nP (λ(x:kz)=>(.agg (kN x).toArray)) (nI Value.string (λ(x:Bool)=>(Value.bool x))) g r.1 S1∧sL 285 oD 3 y3 r.2.1 S4):=by
 let a1:=(#[g,a,i,c,j,(.int .i64 H)]:Array Value)
 refine wM h0 53 func321 rfl (λn=>sg (VE (ly n rfl (λW2 b1 n=>ln (kQ (kQ ?_))))))
 replace n:=n.drew
 have d:=n.has.kB (Kb (Kb (Kr Sn)))
 refine lC d lj (X 0 rfl d (kH rfl) (X 1 rfl d (ql rfl) (X 2 rfl d (kJ Eh rfl) (XH 3 rfl d (λ_ q=>kF rfl (kV q (Mt Mh) rfl isAgg242)) (XH 4 rfl d (λ_ q=>kF rfl (kL q Mh (kN G) rfl bI aP)) ?_)))))
 obtain ⟨f4,Y⟩:=a5
 refine XH 5 rfl d (λ_ q=>vV (k:=G) (z:=(.map none)) Jc ja jV rfl rfl Y (λb o L=>q.2 b o (Mt (Mt (Ml L))))) (X 6 rfl d (kH rfl) (XH 7 rfl d (λ_ q=>Je (k:=Q) (z:=false) (vf:=(λ(x:Bool)=>(Value.bool x))) QY jK zeroValue4 rfl rfl (pI.Q0 (μ:=hp _) ny.1 Y G (λb o L=>q.2 b o (Mt (Mt (Ml L)))))) (lH kr (kP (CI hm rfl (λd5 hm=>?_) (λd5 hm=>?_))))))
 ·cases hm
 refine kn (kQ (CJ hm (λb2 E W=>∃a8 c0,ST true (keys ((J,Obj.cells a1 246 (0,0))::(D++(t++(B++(u++(y++[]))))))) w W μ0 ((b1,Ol (kN G) 27)::((J,Obj.cells a1 246 (0,0))::(a8++(t++(B++(u++(y++c0)))))))∧E 0=(.pointer (some ⟨J,0,none⟩))∧E 2=(.string Q)∧E 4=(.pointer (some ⟨b1,0,none⟩))∧nP (λ(x:kz)=>(.agg (kN x).toArray)) (nI Value.string (λ(x:Bool)=>(Value.bool x))) g b2 a8) (λb2 I=>?_) ?_))
 ·refine kQ ?_
  replace n:=n.drew
  have d:=n.has.kB (Kb (Kb (Kr Sn)))
  refine lC d lj (X 0 rfl d (kH rfl) (X 1 rfl d (ql rfl) (X 2 rfl d (kJ Eh rfl) (XH 3 rfl d (λ_ q=>kF rfl (kV q (Mt Mh) rfl isAgg242)) (XH 4 rfl d (λ_ q=>kF rfl (kL q Mh (kN G) rfl bI aP)) (XH 5 rfl d (λ_ q=>vV (k:=G) (z:=(.map none)) Jc ja jV rfl rfl Y (λb o L=>q.2 b o (Mt (Mt (Ml L))))) (X 6 rfl d (L4 ny.1 jK Y rfl rfl) (lH kr (kP (CI I rfl (λb7 I=>?_) (λb7 I=>?_)))))))))))
  ·replace n:=n.drew
   have d:=n.has.kB (Kb (Kb Sn))
   refine lC d lj (X 0 rfl d (kH rfl) (X 1 rfl d (ql rfl) (X 2 rfl d (kJ Eh rfl) (XH 3 rfl d (λ_ q=>kF rfl (kV q (Mt Mh) rfl isAgg242)) (XH 4 rfl d (λ_ q=>kF rfl (kL q Mh (kN G) rfl bI aP)) (XE 5 rfl (Jg (P:=pg0) Value.string (λ(x:Bool)=>(Value.bool x)) n (λe1 e7 d9 n b3=>?_))))))))
   have d:=n.has.kB (Dr (Kb (Kb Sn)))
   refine ⟨d,?_⟩
   replace n:=n.perm (Nr (Qr (Qb (Qb Qz))) Nz)
   refine bS I λe4 b9 I=>XO 6 rfl (Ps (k:=G) (z:=([]))  Jc ja n Y rfl rfl rfl b3 b9 (λe2 c4 n b4=>?_))
   have d:=n.has.kB (Dr (Kb (Kb Sn)))
   refine ⟨d,(lH kr (kP ?_))⟩
   obtain rfl:=sj I
   exact ⟨c4,_,(n.kB (Sb (Pr Pz) (Sb (Pr Pz) St))),rfl,rfl,rfl,b4.e⟩
  refine kn ?_
  obtain rfl:=sj I
  exact ⟨D,_,(n.kB St),rfl,rfl,rfl,Y.e⟩
 rintro f2 E W ⟨a8,c0,n,O,c1,c2,c8⟩ N
 refine kQ ?_
 replace n:=n.drew
 have d:=n.has.kB (Kb (Kb Sn))
 have p:=n.has.kB (Db (Db (Kr Sn)))
 refine sM 7 d p lj (lG 0 rfl kr (.inl rfl) rfl dc (λ_ _ h=>⟨h.1,lO br h.2⟩) ⟨d,λ_=>p⟩ (λ_ _ _ _=>kH O) (lG 1 rfl kr (.inl rfl) rfl dc (λ_ _ h=>⟨h.1,lO br h.2⟩) ⟨d,λ_=>p⟩ (λ_ _ _ _=>ql rfl) (lG 2 rfl kr (.inl rfl) rfl dc (λ_ _ h=>⟨h.1,lO br h.2⟩) ⟨d,λ_=>p⟩ (λ_ _ _ _=>kJ Eh rfl) (lG 3 rfl kr (.inl rfl) rfl dc (λ_ _ h=>⟨h.1,lO br h.2⟩) ⟨d,λ_=>p⟩ (λl W s A=>have q:=A.1; kF rfl (kV q (Mt Mh) rfl isAgg242)) (lG 4 rfl kr (.inl rfl) rfl dc (λ_ _ h=>⟨h.1,lO br h.2⟩) ⟨d,λ_=>p⟩ (λl W s A=>have q:=A.1; kF c2 (kL q Mh (kN G) rfl bI aP)) ?_)))))
 obtain ⟨e5,a9⟩:=c8
 refine lG 5 rfl kr (.inl rfl) rfl dc (λ_ _ h=>⟨h.1,lO br h.2⟩) ⟨d,λ_=>p⟩ (λl W s A=>have q:=(A.2 (s.yL 7 [5] kr rfl)); vV (k:=G) (z:=(.map none)) Jc ja jV rfl rfl a9 (λb o L=>q.2 b o (Ml L))) (lG 6 rfl kr (.inl rfl) rfl dc (λ_ _ h=>⟨h.1,lO br h.2⟩) ⟨d,λ_=>p⟩ (λ_ _ _ _=>kH c1) ?_)
 replace n:=n.perm (Nr (Qb (Qb Qz)) Nz)
 refine bS N λf3 c7 N=>XO 7 rfl (Om (k:=G) (v:=true) (vf:=(λ(x:Bool)=>(Value.bool x)))  ny.1 QY jK n a9 rfl rfl rfl c7 (λe8 c9 n c5=>?_))
 have d:=n.has.kB (Dr (Kb (Kb Sn)))
 refine ⟨⟨d,λh=>vp kr h⟩,(lH kr (kP (sg (Wh O (Wn (Wf GF (VB n (Ma (Mt Mh)) rfl rfl bX (Wi rfl (Wn (Wf GF ?_))))))))))⟩
 replace n:=n.perm (Nb (Pr (Pb Pz)) Nz)
 refine VO (lp (.int .i64 (wi0 .i64 (H+1))) (#[g,a,i,c,j,(.int .i64 (wi0 .i64 (H+1)))]) n rfl rfl gS (HS _ (wi0 .i64 (H+1))) nb rfl (λe9 n=>ln ?_))
 replace n:=n.drew
 have d:=n.has.kB (Db (Dr (Kb Sn)))
 have p:=n.has.kB (Kb Sn)
 refine sM 12 d p lj (lG 0 rfl kr (.inl rfl) rfl dc (λ_ _ h=>⟨h.1,lO br h.2⟩) ⟨d,λ_=>p⟩ (λ_ _ _ _=>kH O) (lG 1 rfl kr (.inl rfl) rfl dc (λ_ _ h=>⟨h.1,lO br h.2⟩) ⟨d,λ_=>p⟩ (λ_ _ _ _=>kH O) (lG 2 rfl kr (.inl rfl) rfl dc (λ_ _ h=>⟨h.1,lO br h.2⟩) ⟨d,λ_=>p⟩ (λ_ _ _ _=>ql rfl) (lG 3 rfl kr (.inl rfl) rfl dc (λ_ _ h=>⟨h.1,lO br h.2⟩) ⟨d,λ_=>p⟩ (λ_ _ _ _=>kJ BW rfl) (lG 4 rfl kr (.inl rfl) rfl dc (λ_ _ h=>⟨h.1,lO br h.2⟩) ⟨d,λ_=>p⟩ (λl W s A=>have q:=(A.2 (s.yL 12 [4] kr rfl)); kF rfl (kV q Mh rfl isAgg226)) (lG 5 rfl kr (.inl rfl) rfl dc (λ_ _ h=>⟨h.1,lO br h.2⟩) ⟨d,λ_=>p⟩ (λl W s A=>have q:=A.1; kF c2 (kL q Mh (kN G) rfl bI aP)) (lG 6 rfl kr (.inl rfl) rfl dc (λ_ _ h=>⟨h.1,lO br h.2⟩) ⟨d,λ_=>p⟩ (λ_ _ _ _=>kH c1) (lG 7 rfl kr (.inl rfl) rfl dc (λ_ _ h=>⟨h.1,lO br h.2⟩) ⟨d,λ_=>p⟩ (λ_ _ _ _=>nB (v:=(.agg (oD (⟨G,Q⟩:pd)).toArray)) (uB rfl rfl) (nk zeroValue285 jH (To _ jH) kr)) (XE 8 rfl (lJ (cs:=(oD (⟨G,Q⟩:pd)).toArray) n (nL rfl) (oa jb kx zeroValue285) (λf0 d4 n=>?_)))))))))))
 have d:=n.has.kB (Db (Db (Dr (Kb Sn))))
 have p:=n.has.kB (Db (Kb Sn))
 refine ⟨⟨d,λ_=>p⟩,?_⟩
 replace n:=n.perm (Nr (Qb (Qb (Qr (Qb (Qr (Qr (Qr Qz))))))) Nz)
 refine bS N λb0 c6 N=>XE 9 rfl (Mc (enc:=oD) (v:=j) (vs:=(.slice (some ⟨d4,0,none⟩) 1 1)) (R:=y) n BX dc Mw jb Gu.1 Gu.2.1 rfl Gu.2.2.1 Gu.2.2.2 rfl rfl a0 (Sl.lit (enc:=oD) (l:=[(⟨G,Q⟩:pd)]) BX rfl nb rfl (n.at_ (Ma Mh))) c6 (λf1 e6 d0 n a7=>?_))
 have d:=n.has.kB (Dr (Db (Db (Dr (Kb Sn)))))
 have p:=n.has.kB (Dr (Db (Kb Sn)))
 refine ⟨⟨d,λ_=>p⟩,(lG 10 rfl kr (.inl rfl) rfl dc (λ_ _ h=>⟨h.1,lO br h.2⟩) ⟨d,λ_=>p⟩ (λ_ _ _ _=>ql rfl) (lG 11 rfl kr (.inl rfl) rfl dc (λ_ _ h=>⟨h.1,lO br h.2⟩) ⟨d,λ_=>p⟩ (λ_ _ _ _=>kJ BW rfl) ?_))⟩
 obtain ⟨a3,a4,rfl⟩:=a7.form
 let a2:Value:=(.slice a3 b0.length a4)
 replace n:=n.perm (Nb (Pr (Pb Pz)) Nz)
 refine XO 12 rfl (lp a2 (#[g,a,i,c,a2,(.int .i64 (wi0 .i64 (H+1)))]) n rfl rfl sizeOf226 oc nb rfl (λe0 n=>?_))
 have d:=n.has.kB (Db (Dr (Db (Dr (Kb Sn)))))
 refine ⟨⟨d,λh=>vp kr h⟩,(lH kr (qK ?_))⟩
 obtain rfl:=sj N
 exact px rfl ⟨_,_,rfl,(n.od (Kb (Sr (Qr (Qb Qz)) (Sr (Qr (Qb (Qb Qz))) (Sr (Qr (Qb (Qb Qz))) (Sr (Qr (Qb (Qb Qz))) (Kr Sn))))))),c9,a2,d0,rfl,rfl,c5.e,a7⟩
theorem Ek (J:Nat) (j:Value) (I:List (kz×(List (ByteArray×Bool)))) (z:LO) (g:Value) (B:List kC) (a:LO) (t:Value) (H:List (kz×(List kC))) (k:LO) (i:Value) (D:List (ByteArray×(List kC))) (c:LO) (y:Value) (G:List pd) (u:LO) (K:Int) (Z:kC) (r:((List (kz×(List (ByteArray×Bool))))×(List pd)×Int)) (w:World) {μ0:lF} (E:pe μ0 ((J,Ob #[j,g,t,i,y,(.int .i64 K)] 246)::(z++(a++(k++(c++(u++[])))))) w) (U:nP (λ(x:kz)=>(.agg (kN x).toArray)) (nI Value.string (λ(x:Bool)=>(Value.bool x))) j I z) (M:lm 52 kI 9 g B a) (T:nP (λ(x:kz)=>(.agg (kN x).toArray)) (lm 52 kI 9) t H k) (N:nP Value.string (lm 52 kI 9) i D c) (Q:sL 285 oD 3 y G u) (hm:zw I B H D G K Z=some r) :
  mz false pg0 262 [(.pointer (some ⟨J,0,none⟩)),(.agg (kI Z).toArray)] w ((J,Ob #[j,g,t,i,y,(.int .i64 K)] 246)::(z++(a++(k++(c++(u++[])))))) (λv L1 W'=>∃S1 p S4,v=(.tuple #[])∧L1=((J,Ob #[j,g,t,i,p,(.int .i64 (r.2.2))] 246)::(S1++(a++(k++(c++(S4++[]))))))∧nP (λ(x:kz)=>(.agg (kN x).toArray)) (nI Value.string (λ(x:Bool)=>(Value.bool x))) j r.1 S1∧sL 285 oD 3 p r.2.1 S4):=by
 refine wM E 33 func262 rfl (λd=>sg (VE (ly d rfl (λW2 R d=>lr (Wf rY (VB d Mh rfl rfl bX (ln (bg ?_))))))))
 refine Wi rfl (Wa (ln (CI hm rfl (λs hm=>?_) (λs hm=>?_))))
 ·refine kR (Wm (Wf vF (VA d Mh (kN Z.Head) bI aP (Wf xL (VB d Mh rfl rfl bT (bS hm λr4 a9 hm=>?_))))))
  refine VE (eM d (Cb (Pb Pz) (Cr (Qb Qz) (Cr (Qb Qz) (Cr (Qb Qz) (Cr (Qb Qz) (Cr (Qb Qz) Cn)))))) call321 (λL _=>mz.mK (EN J j I z g B a t H k i D c y G u K Z.Head Z.mC _ _ L U M T N Q a9)) ?_)
  rintro _ b9 P b7 d W O n ⟨a5,A,q,Y,rfl,a2,a3⟩
  obtain rfl:=Y.symm
  replace d:=d.perm (Tb (Tr (Tr (Tr (Tr (Tr Tn))))))
  refine lu (lI (qK ?_))
  obtain rfl:=sj hm
  exact px rfl ⟨_,_,rfl,(d.od (Kb (Kr (Kr (Kr (Kr (Kr Sn))))))),a5,A,q,rfl,rfl,a2,a3⟩
 cases hm
theorem DG (I:Nat) (a:Value) (d4:List (kz×(List (ByteArray×Bool)))) (H:LO) (c:Value) (N:List kC) (j:LO) (u:Value) (M:List (kz×(List kC))) (y:LO) (g:Value) (K:List (ByteArray×(List kC))) (t:LO) (G:Value) (b7:List pd) (D:LO) (U:Int) (r:((List (kz×(List (ByteArray×Bool))))×(List pd)×Int)) (w:World) {μ0:lF} (h0:pe μ0 ((I,Ob #[a,c,u,g,G,(.int .i64 U)] 246)::(H++(j++(y++(t++(D++[])))))) w) (f6:nP (λ(x:kz)=>(.agg (kN x).toArray)) (nI Value.string (λ(x:Bool)=>(Value.bool x))) a d4 H) (j3:lm 52 kI 9 c N j) (e3:nP (λ(x:kz)=>(.agg (kN x).toArray)) (lm 52 kI 9) u M y) (e1:nP Value.string (lm 52 kI 9) g K t) (e2:sL 285 oD 3 G b7 D) (hm:yG d4 N M K b7 U=some r) :
  mz false pg0 263 [(.pointer (some ⟨I,0,none⟩))] w ((I,Ob #[a,c,u,g,G,(.int .i64 U)] 246)::(H++(j++(y++(t++(D++[])))))) (λv L1 W'=>∃S1 y3 S4,v=(.tuple #[])∧L1=((I,Ob #[a,c,u,g,y3,(.int .i64 (r.2.2))] 246)::(S1++(j++(y++(t++(S4++[]))))))∧nP (λ(x:kz)=>(.agg (kN x).toArray)) (nI Value.string (λ(x:Bool)=>(Value.bool x))) a r.1 S1∧sL 285 oD 3 y3 r.2.1 S4):=by
 let g5:Value:=(.pointer (some ⟨I,0,none⟩))
 let b8:=((I,Ob #[a,c,u,g,G,(.int .i64 U)] 246)::(H++(j++(y++(t++(D++[]))))))
 refine wM h0 75 func263 rfl (λd=>rZ (me (nn (λm E W=>∃c3 a3 c8 Y a4 b4 s f7,lz μ0 s∧ST false (keys b8) w W s ((I,Ob #[a,c,u,g,c8,(.int .i64 b4)] 246)::(a3++(j++(y++(t++(a4++f7))))))∧E 0=g5∧nP (λ(x:kz)=>(.agg (kN x).toArray)) (nI Value.string (λ(x:Bool)=>(Value.bool x))) a c3 a3∧sL 285 oD 3 c8 Y a4∧se N M K m c3 Y b4=some r) li ⟨d4,H,G,b7,D,U,μ0,_,(lz.refl _),(d.kB St),rfl,f6,e2,hm⟩ ?_)))
 rintro m E W ⟨c3,a3,c8,Y,a4,b4,s,f7,g7,d,a0,e9,a9,J⟩
 cases m with
 | zero=>rw [se] at J; cases J
 | succ j8=>
  refine kQ (sg (Wh a0 (Wn (Wf BW (VB d Mh rfl rfl isAgg226 (V (QG jb rfl a9) (Wi rfl (ln (CI J rfl (λh1 J=>?_) (λh1 J=>?_))))))))))
  ·refine kn (bg (Wh a0 (Wn (Wf BW (VB d Mh rfl rfl isAgg226 (bS J λB f5 J=>VQ (th (enc:=oD) (i:=0) (x0:=B) jb kx rfl rfl (a9.Ju BX) (kZ f5) (kY f5)) (λm0 h8=>V (kF rfl (lx (pB.hp _) (h8.mono (nZ (λb o hq=>d.has.2 b o (Mt (Ma (Ma (Ma (Ma (Ml hq))))))))) isAgg285 kx)) (VE (lT d zeroValue285 (λl5 Z d=>VO (lp (.agg (oD B).toArray) ((oD B).toArray) d rfl rfl kx (Mw B) nb rfl (λl6 d=>lu ?_))))))))))))
   let k2:Value:=(.pointer (some ⟨Z,0,none⟩))
   let k1:=((qE lq M B.kz).getD [])
   let j2:=((oD B).toArray:Array Value)
   let j1:=((qE lQ K B.kz.Word).getD [])
   refine kP (sg (Wh a0 (Wh a0 (Wn (Wf BW (VB d (Mt Mh) rfl rfl isAgg226 (bS J λ_ e6 J=>VQ (NI (i:=1) jb kx rfl rfl BX a9 (ym e6) (yb e6)) (λm1 f0=>Wn (Wf BW ?_)))))))))
   obtain ⟨d7,e0,rfl⟩:=f0.form
   let g6:Value:=(.slice d7 (Y.drop (Int.toNat 1)).length e0)
   replace d:=d.perm (Nb (Pb Pz) Nz)
   refine VO (lp g6 (#[a,c,u,g,g6,(.int .i64 b4)]) d rfl rfl sizeOf226 oc nb rfl (λl7 d=>ln (kQ (kQ ?_))))
   replace d:=d.drew
   have n:=d.has.kB (Kb (Kb (Dr (Dr (Kr Sn)))))
   refine lC n lj (X 0 rfl n (kH a0) (X 1 rfl n (ql rfl) (X 2 rfl n (kJ Rq rfl) (XH 3 rfl n (λ_ p=>kF rfl (kV p Mh rfl isAgg243)) (X 4 rfl n (kJ M5 rfl) (XH 5 rfl n (λ_ p=>kF rfl (kL p (Mt Mh) (kN B.kz) rfl bI aP)) ?_))))))
   obtain ⟨i5,e4⟩:=e3
   obtain ⟨l3,e7,k4⟩:=pI.rowAt ny.1 e4 B.kz
   refine XH 6 rfl n (λ_ p=>vV (k:=B.kz) (z:=(.slice none 0 0)) Jc underlying243 zeroValue45 rfl rfl e4 (λb o hq=>p.2 b o (Mt (Mt (Ml hq))))) (X 7 rfl n (mx aX rfl (e7.Ju mQ)) (X 8 rfl n (kH rfl) (lH kr (kP (CJ J (λR E W=>∃b9 c9 c0 a2 f8,lz s a2∧ST false (keys b8) w W a2 ((I,Ob #[a,c,u,g,c9,(.int .i64 R.2.2)] 246)::((Z,Obj.cells j2 285 (0,0))::(b9++(j++(y++(t++(c0++f8)))))))∧E 0=g5∧E 2=k2∧nP (λ(x:kz)=>(.agg (kN x).toArray)) (nI Value.string (λ(x:Bool)=>(Value.bool x))) a R.1 b9∧sL 285 oD 3 c9 R.2.1 c0) (λR h7=>?_) ?_)))))
   ·refine mj (λi E W=>∃c6 L b3 c7 O d2 b6 d9,(E 35= .int .i64 (i:Nat)∧E 34= .int .i64 (k1.length:Nat))∧lz s b6∧ST false (keys b8) w W b6 ((I,Ob #[a,c,u,g,b3,(.int .i64 d2)] 246)::((Z,Obj.cells j2 285 (0,0))::(L++(j++(y++(t++(O++d9)))))))∧E 0=g5∧E 2=k2∧E 33=(ua lq i5 B.kz (.slice none 0 0))∧nP (λ(x:kz)=>(.agg (kN x).toArray)) (nI Value.string (λ(x:Bool)=>(Value.bool x))) a c6 L∧sL 285 oD 3 b3 c7 O∧uG N M K B (k1.drop i) c6 c7 d2=some R) k1.length (e7.Ju mQ).len ⟨c3,a3,g6,(Y.drop (Int.toNat 1)),a4,b4,s,_,⟨rfl,rfl⟩,(lz.refl _),(d.kB St),a0,rfl,rfl,e9,f0,h7⟩ dc dc dc (λ_ _ _ h=>by obtain ⟨_,_,_,_,_,_,_,_,q,_⟩:=h; exact q) ?_ ?_
    ·rintro l9 E W h3 ⟨c6,L,b3,c7,O,d2,b6,d9,⟨eI,eN⟩,d6,d,g3,g4,j0,f3,f4,T⟩
     obtain ⟨m3,l1,i4,k8,k9⟩:=lX h3
     rw [i4] at T
     rw [uG] at T
     cases T
    rintro E W ⟨c6,L,b3,c7,O,d2,b6,d9,⟨eI,eN⟩,d6,d,g3,g4,j0,f3,f4,T⟩
    rw [aO] at T
    refine kP ?_
    obtain rfl:=sj T
    exact ⟨L,b3,O,b6,_,d6,(d.kB St),g3,g4,f3,f4⟩
   rintro ⟨j4,j5,j9⟩ E W ⟨b9,c9,c0,a2,f8,g8,d,g0,g1,h9,i0⟩ h4
   refine kQ ?_
   replace d:=d.drew
   have n:=d.has.kB (Kb (Kb (Dr (Dr (Dr (Kr Sn))))))
   refine lC n lj (X 0 rfl n (kH g0) (X 1 rfl n (ql rfl) (X 2 rfl n (kJ Rf rfl) (XH 3 rfl n (λ_ p=>kF rfl (kV p Mh rfl isAgg244)) (X 4 rfl n (kJ M5 g1) (X 5 rfl n (kJ sU rfl) (XH 6 rfl n (λ_ p=>kF rfl (kV p (Mt Mh) rfl bT)) ?_)))))))
   obtain ⟨i6,e5⟩:=e1
   obtain ⟨l4,e8,k5⟩:=pI.rowAt qk.1 e5 B.kz.Word
   refine XH 7 rfl n (λ_ p=>vV (k:=B.kz.Word) (z:=(.slice none 0 0)) QY underlying244 zeroValue45 rfl rfl e5 (λb o hq=>p.2 b o (Mt (Mt (Ml hq))))) (X 8 rfl n (mx aX rfl (e8.Ju mQ)) (X 9 rfl n (kH rfl) (lH kr (kP (rZ (CJ h4 (λP E W=>∃c1 d0 c2 d3 f9,lz a2 d3∧ST false (keys b8) w W d3 ((I,Ob #[a,c,u,g,d0,(.int .i64 P.2.2)] 246)::(c1++(j++(y++(t++(c2++f9))))))∧E 0=g5∧nP (λ(x:kz)=>(.agg (kN x).toArray)) (nI Value.string (λ(x:Bool)=>(Value.bool x))) a P.1 c1∧sL 285 oD 3 d0 P.2.1 c2) (λP h6=>?_) ?_))))))
   ·refine mj (λi E W=>∃c4 a5 b2 c5 A d1 b5 d8,(E 53= .int .i64 (i:Nat)∧E 52= .int .i64 (j1.length:Nat))∧lz a2 b5∧ST false (keys b8) w W b5 ((I,Ob #[a,c,u,g,b2,(.int .i64 d1)] 246)::((Z,Obj.cells j2 285 (0,0))::(a5++(j++(y++(t++(A++d8)))))))∧E 0=g5∧E 2=k2∧E 51=(ua lQ i6 B.kz.Word (.slice none 0 0))∧nP (λ(x:kz)=>(.agg (kN x).toArray)) (nI Value.string (λ(x:Bool)=>(Value.bool x))) a c4 a5∧sL 285 oD 3 b2 c5 A∧uF B N M K (j1.drop i) c4 c5 d1=some P) j1.length (e8.Ju mQ).len ⟨j4,b9,c9,j5,c0,j9,a2,_,⟨rfl,rfl⟩,(lz.refl _),(d.kB St),g0,g1,rfl,h9,i0,h6⟩ dc dc dc (λ_ _ _ h=>by obtain ⟨_,_,_,_,_,_,_,_,q,_⟩:=h; exact q) ?_ ?_
    ·rintro l8 E W h2 ⟨c4,a5,b2,c5,A,d1,b5,d8,⟨eI,eN⟩,d5,d,g2,i8,i9,f1,f2,Q⟩
     obtain ⟨m2,l0,i3,k6,k7⟩:=lX h2
     rw [i3] at Q
     rw [uF] at Q
     cases Q
    rintro E W ⟨c4,a5,b2,c5,A,d1,b5,d8,⟨eI,eN⟩,d5,d,g2,i8,i9,f1,f2,Q⟩
    rw [aO] at Q
    refine kP ?_
    obtain rfl:=sj Q
    exact ⟨a5,b2,A,b5,_,d5,(d.kB (Kb (Db St))),g2,f1,f2⟩
   rintro ⟨j6,j7,k0⟩ E W ⟨c1,d0,c2,d3,f9,g9,d,i7,i1,i2⟩ h5
   exact lI (kP ⟨j8,aT _,j6,c1,d0,j7,c2,k0,d3,_,((g7.trans g8).trans g9),(d.kB St),i7,i1,i2,h5⟩)
  refine nu (ng (ng (pM (kP (qK ?_)))))
  obtain rfl:=sj J
  exact px rfl ⟨_,_,rfl,(d.od (Kb (Kr (Kr (Kr (Kr (Kr Sn))))))),a3,c8,a4,rfl,rfl,e9,a9⟩
theorem Fu (H:Nat) (g:Value) (c2:List (kz×(List (ByteArray×Bool)))) (G:LO) (u:Value) (a7:List kC) (k:LO) (c:Value) (b7:List (kz×(List kC))) (z:LO) (a:Value) (a8:List (ByteArray×(List kC))) (t:LO) (B:Value) (b6:List pd) (y:LO) (K:Int) (d1:Value) (s:List kC) (r:(Int×(List (kz×(List (ByteArray×Bool))))×(List kC)×(List (kz×(List kC)))×(List (ByteArray×(List kC)))×(List pd)×Int)) (w:World) {μ0:lF} (h0:pe μ0 ((H,Ob #[g,u,c,a,B,(.int .i64 K)] 246)::(G++(k++(z++(t++(y++[])))))) w) (d6:nP (λ(x:kz)=>(.agg (kN x).toArray)) (nI Value.string (λ(x:Bool)=>(Value.bool x))) g c2 G) (c6:lm 52 kI 9 u a7 k) (d3:nP (λ(x:kz)=>(.agg (kN x).toArray)) (lm 52 kI 9) c b7 z) (c7:nP Value.string (lm 52 kI 9) a a8 t) (d2:sL 285 oD 3 B b6 y) (d7:Sl (Pl kI) 9 μ0 d1 s) (hm:AD c2 a7 b7 a8 b6 K s=some r) :
  mz false pg0 200 [(.pointer (some ⟨H,0,none⟩)),d1] w ((H,Ob #[g,u,c,a,B,(.int .i64 K)] 246)::(G++(k++(z++(t++(y++[])))))) (λv L1 W'=>∃S1 y3 S4 S6 S8 i1 i0,v=(.int .i64 (r.1))∧L1=((H,Ob #[g,y3,c,a,i1,(.int .i64 (r.2.2.2.2.2.2))] 246)::(S1++(S4++(S6++(S8++(i0++[]))))))∧nP (λ(x:kz)=>(.agg (kN x).toArray)) (nI Value.string (λ(x:Bool)=>(Value.bool x))) g r.2.1 S1∧lm 52 kI 9 y3 r.2.2.1 S4∧nP (λ(x:kz)=>(.agg (kN x).toArray)) (lm 52 kI 9) c r.2.2.2.1 S6∧nP Value.string (lm 52 kI 9) a r.2.2.2.2.1 S8∧sL 285 oD 3 i1 r.2.2.2.2.2.1 i0):=by
 let b8:=((H,Ob #[g,u,c,a,B,(.int .i64 K)] 246)::(G++(k++(z++(t++(y++[]))))))
 refine wM h0 46 func200 rfl (λd=>sg (Wa (lS (Wm (V (wI underlying183 rfl rfl) (ln (tJ rfl (mM ?_))))))))
 refine kP (sg (Wm (Wn (Wf GF (VB d Mh rfl rfl bX (Wa (lS (Wm (V (mx aX rfl d7) ?_)))))))))
 refine Wm (ln (mj (λi E W=>∃a3 N M a4 Q a9 T q U a0 a5 Y a2 c1 d5,(E 16= .int .i64 (i:Nat)∧E 15= .int .i64 (s.length:Nat))∧lz μ0 c1∧ST false (keys b8) w W c1 ((H,Ob #[g,M,c,a,a0,(.int .i64 a2)] 246)::(N++(Q++(T++(U++(Y++d5))))))∧E 0=(.pointer (some ⟨H,0,none⟩))∧E 5=(.int .i64 K)∧E 14=d1∧nP (λ(x:kz)=>(.agg (kN x).toArray)) (nI Value.string (λ(x:Bool)=>(Value.bool x))) g a3 N∧lm 52 kI 9 M a4 Q∧nP (λ(x:kz)=>(.agg (kN x).toArray)) (lm 52 kI 9) c a9 T∧nP Value.string (lm 52 kI 9) a q U∧sL 285 oD 3 a0 a5 Y∧tK K (s.drop i) a3 a4 a9 q a5 a2=some r) s.length d7.len ⟨c2,G,u,a7,k,b7,z,a8,t,B,b6,y,K,μ0,_,⟨rfl,rfl⟩,(lz.refl _),(d.kB St),rfl,rfl,rfl,d6,c6,d3,c7,d2,hm⟩ dc dc dc (λ_ _ _ h=>by obtain ⟨_,_,_,_,_,_,_,_,_,_,_,_,_,_,_,aa,_⟩:=h; exact aa) ?_ ?_))
 ·rintro f6 E W g3 ⟨a3,N,M,a4,Q,a9,T,q,U,a0,a5,Y,a2,c1,d5,⟨eI,eN⟩,b1,d,L,c3,c4,P,A,R,b4,b5,D⟩
  obtain ⟨I,j8,h4,h3,d9⟩:=lX g3
  rw [h4] at D
  refine bg (VQ (th (enc:=kI) (i:=(f6:Int)) (x0:=I) aX aR c4 eI (d7.mono (Pl.mono _) b1) (aM _) h3) (λl1 g4=>V (kF rfl (lx d.has g4 cA aR)) (VE (lT d dT (λk3 e8 d=>VO (lp (.agg (kI I).toArray) ((kI I).toArray) d rfl rfl aR (qM I) nb rfl (λk4 d=>ln (kQ ?_))))))))
  replace d:=d.drew
  have n:=d.has.kB (Kb (Kb Sn))
  refine lC n lj (XH 0 rfl n (λ_ hS=>kF rfl (kL hS Mh (kI I) rfl cA aR)) (bS D λl2 g7 D=>XE 1 rfl (Eg d call144 (la.mK (xT I _ _  g7)) (λk5 d=>?_))))
  have n:=d.has.kB (Kb (Kb Sn))
  refine ⟨n,(X 2 rfl n (kH rfl) (PJ D (λf7 E W=>∃e4,ST false (keys b8) w W c1 ((e8,Ol (kI I) 52)::((H,Ob #[g,M,c,a,a0,(.int .i64 a2)] 246)::(N++(Q++(T++(U++(Y++e4)))))))∧E 0=(.pointer (some ⟨H,0,none⟩))∧E 5=(.int .i64 K)∧E 7=(.pointer (some ⟨e8,0,none⟩))∧E 14=d1∧E 15=(.int .i64 (s.length:Int))∧E 16=(.int .i64 (f6:Int))∧E 30=(.bool f7)) (bm 11 2047) 0 ?_ (λf7 Z d4=>?_)))⟩
  ·rintro l7 E W ⟨e4,d,c5,e9,f0,f1,f2,f3,i6⟩ J
   refine lH kr (kP (CI J i6 (λg2 J=>?_) (λg2 J=>?_)))
   ·refine sg (Wh c5 (V (kF f0 (kL d.has Mh (kI I) rfl cA aR)) (bS J λO g8 J=>?_)))
    refine VE (eM d (Cb (Pb Pz) (Cr (Qb Qz) (Cr (Qb Qz) (Cr (Qb Qz) (Cr (Qb Qz) (Cr (Qb Qz) Cn)))))) call261 (λhh _=>mz.mK (E2 H g a3 N M a4 Q c a9 T a q U a0 a5 Y a2 I _ _ hh P A R b4 b5 g8)) ?_)
    rintro _ l4 l8 k0 d f4 ab p ⟨f8,e5,e6,e7,c8,rfl,e0,e1,e2⟩
    obtain rfl:=c8.symm
    replace d:=d.perm (Tb (Tr (Tr (Tr (Tr (Tr Tn))))))
    refine ln (kR (Wh c5 (V (kF f0 (kL d.has (Mt (Ma (Ma (Ma (Ma (Ma Mh)))))) (kI I) rfl cA aR)) (bS J λd8 g9 J=>?_))))
    refine VE (eM d (Cb Pz (Cr Qz (Cr Qz (Cr Qz (Cr Qz (Cr Qz Cn)))))) call262 (λhh _=>(Ek H g a3 N f8 O.1 e5 c O.2.1 e6 a O.2.2 e7 a0 a5 Y a2 I _ _ hh P e0 e1 e2 b5 g9)) ?_)
    rintro _ l5 j0 k1 d f5 ad p ⟨i2,i8,i3,c9,rfl,h5,h6⟩
    obtain rfl:=c9.symm
    replace d:=d.perm (Tb (Tr (Tr (Tr (Tr (Tr Tn))))))
    refine lu (lI (kP ?_))
    replace d:=d.kB (Kb (Kr (Kr (Kr (Kr (Kr (Db St)))))))
    exact ⟨f3,d8.1,i2,f8,O.1,e5,O.2.1,e6,O.2.2,e7,i8,d8.2.1,i3,d8.2.2,j0,_,⟨rfl,f2⟩,((b1.trans f4).trans f5),(d.kB St),c5,e9,f1,h5,e0,e1,e2,h6,(by rw [d9]; exact J)⟩
   refine mM (lI (kP ?_))
   replace d:=d.kB (Db St)
   exact ⟨f3,a3,N,M,a4,Q,a9,T,q,U,a0,a5,Y,a2,c1,_,⟨rfl,f2⟩,b1,(d.kB St),c5,e9,f1,P,A,R,b4,b5,(by rw [d9]; exact J)⟩
  refine bC Z (λj Z=>?_) (λj Z=>?_)
  ·refine Xg 3 rfl rfl (cB j) n (kH L) (Xg 4 rfl rfl (cB j) n (ql rfl) (Xg 5 rfl rfl (cB j) n (kJ IL rfl) (pu 6 rfl rfl (cB j) n (λ_ hS=>kF rfl (kV hS (Mt Mh) rfl iZ)) (pu 7 rfl rfl (cB j) n (λ_ hS=>kF rfl (kL hS Mh (kI I) rfl cA aR)) (bS Z λl3 h1 Z=>yq 8 rfl rfl (cB j) (Eg d call111 (la.mK (EH M a4 I _ _ (A.sl mQ (λb o hq=>d.at_ (Mt (Mt (Ma (Ml hq)))))) h1)) (λk8 d=>?_)))))))
   have n:=d.has.kB (Kb (Kb Sn))
   refine ⟨n,(Xg 9 rfl rfl (cB j) n (nv rfl) (X 10 rfl n (lb (cB j) rfl) ?_))⟩
   obtain rfl:=sj Z
   refine nf kr (d4 _ _ ⟨_,(d.kB St),L,c3,rfl,c4,eN,eI,rfl⟩)
  refine Xn 3 rfl rfl (cB j) n (Xn 4 rfl rfl (cB j) n (Xn 5 rfl rfl (cB j) n (Xn 6 rfl rfl (cB j) n (Xn 7 rfl rfl (cB j) n (Xn 8 rfl rfl (cB j) n (Xn 9 rfl rfl (cB j) n (X 10 rfl n (lf (cB j) rfl) ?_)))))))
  obtain rfl:=sj Z
  refine nf kr (d4 _ _ ⟨_,(d.kB St),L,c3,rfl,c4,eN,eI,rfl⟩)
 rintro E W ⟨a3,N,M,a4,Q,a9,T,q,U,a0,a5,Y,a2,c1,d5,⟨eI,eN⟩,b1,d,L,c3,c4,P,A,R,b4,b5,D⟩
 rw [aO] at D
 refine kP (sg (Wh L (bS D λi7 h2 D=>?_)))
 refine VE (eM d (Cb Pz (Cr Qz (Cr Qz (Cr Qz (Cr Qz (Cr Qz Cn)))))) call263 (λhh _=>(DG H g a3 N M a4 Q c a9 T a q U a0 a5 Y a2 _ _ hh P A R b4 b5 h2)) ?_)
 rintro _ l6 l9 k2 d j6 ae p ⟨i4,i9,i5,d0,rfl,h7,h8⟩
 obtain rfl:=d0.symm
 replace d:=d.perm (Tb (Tr (Tr (Tr (Tr (Tr Tn))))))
 refine lr (Wh L (Wn (Wf GF (VB d Mh rfl rfl bX (Wh c3 (Wi rfl (Wa (lt ?_))))))))
 obtain rfl:=sj D
 exact nq (v:=(.int .i64 (wi0 .i64 (i7.2.2-K)))) rfl rfl ⟨_,_,rfl,(d.od (Kb (Kr (Kr (Kr (Kr (Kr Sn))))))),i4,M,Q,T,U,i9,i5,rfl,rfl,h7,A,R,b4,h8⟩
theorem IE (j:Value) (H:List kC) (r:((List (kz×(List (ByteArray×Bool))))×(List kC)×(List (kz×(List kC)))×(List (ByteArray×(List kC)))×(List pd)×Int)) (w:World) (J:Sl (Pl kI) 9 (hp w) j H) (hm:EF H=some r) :
  mz false pg0 126 [j] w [] (λv L1 W'=>∃q A S3 E S6 I S9 D u G y,v=(.pointer (some ⟨q,0,none⟩))∧L1=((q,Ob #[A,E,I,D,G,(.int .i64 (r.2.2.2.2.2))] 246)::(S3++(S6++(S9++(u++(y++[]))))))∧nP (λ(x:kz)=>(.agg (kN x).toArray)) (nI Value.string (λ(x:Bool)=>(Value.bool x))) A r.1 S3∧lm 52 kI 9 E r.2.1 S6∧nP (λ(x:kz)=>(.agg (kN x).toArray)) (lm 52 kI 9) I r.2.2.1 S9∧nP Value.string (lm 52 kI 9) D r.2.2.2.1 u∧sL 285 oD 3 G r.2.2.2.2.1 y):=by
 refine Az 13 func126 rfl (λd=>sg (Wa (lr (VE (EA (P:=pg0) (λ(x:kz)=>(.agg (kN x).toArray)) (nI Value.string (λ(x:Bool)=>(Value.bool x))) d (λW1 v4 R2 d z=>VE (EA (P:=pg0) (λ(x:kz)=>(.agg (kN x).toArray)) (lm 52 kI 9) d (λW5 v8 R6 d B=>VE (EA (P:=pg0) Value.string (lm 52 kI 9) d (λW9 c4 Y d t=>?_))))))))))
 obtain ⟨a,rfl⟩:=z.form
 obtain ⟨c,rfl⟩:=B.form
 obtain ⟨g,rfl⟩:=t.form
 refine V (nB (v:=(.agg #[(.map (some a)),(.slice none 0 0),(.map (some c)),(.map (some g)),(.slice none 0 0),(.int .i64 0)])) (yQ rfl rfl rfl) (nk zeroValue246 gk (TL _ gk) kr)) (VE (ly d rfl (λc1 k d=>Wa (lr (Wm (Wm (bS hm λc3 K hm=>?_)))))))
 refine VE (eM d (Cb Pz (Cr (Qr (Qr Qz)) (C0 (Cr (Qr Qz) (Cr Qz (C0 Cn)))))) call200 (λR p=>(Fu k (.map (some a)) ([]) R2 (.slice none 0 0) ([]) [] (.map (some c)) ([]) R6 (.map (some g)) ([]) Y (.slice none 0 0) ([]) [] 0 j H _ _ R z (lm.nil _ _ _) B t (sL.nil _ _ _) (J.mono (Pl.mono _) p) K)) ?_)
 rintro _ c5 c6 c0 d W s n ⟨Z,L,a2,a3,a4,O,a5,i,rfl,M,N,Q,T,U⟩
 obtain rfl:=i.symm
 replace d:=d.perm (Tb (Tr (Tr (Tr (Tr (Tr Tn))))))
 refine lr (Wm (Wa (lt ?_)))
 obtain rfl:=sj hm
 exact nq (v:=(.pointer (some ⟨k,0,none⟩))) rfl rfl ⟨_,_,rfl,(d.OL (Kb (Kr (Kr (Kr (Kr (Kr Sn))))))),k,(.map (some a)),Z,L,a2,(.map (some c)),a3,(.map (some g)),a4,O,a5,rfl,rfl,M,N,Q,T,U⟩
theorem Lj (c:Value) (D:List kC) (G:ByteArray) (r:((List (kz×(List (ByteArray×Bool))))×(List kC)×(List (kz×(List kC)))×(List (ByteArray×(List kC)))×(List pd)×Int×ByteArray)) (w:World) (I:Sl (Pl kI) 9 (hp w) c D) (hm:F0 D G=some r) :
  mz false pg0 123 [c,(.string G)] w [] (λv L1 W'=>∃g p q S4 s S7 A j z k B t u,v=(.func (.func 191) #[] #[(.pointer (some ⟨g,0,none⟩)),(.pointer (some ⟨u,0,none⟩))])∧L1=((g,Ob #[(.pointer (some ⟨p,0,none⟩))] 183)::((p,Ob #[q,s,A,z,B,(.int .i64 (r.2.2.2.2.2.1))] 246)::((u,Ob #[(.string (r.2.2.2.2.2.2))] 9)::(S4++(S7++(j++(k++(t++[]))))))))∧nP (λ(x:kz)=>(.agg (kN x).toArray)) (nI Value.string (λ(x:Bool)=>(Value.bool x))) q r.1 S4∧lm 52 kI 9 s r.2.1 S7∧nP (λ(x:kz)=>(.agg (kN x).toArray)) (lm 52 kI 9) A r.2.2.1 j∧nP Value.string (lm 52 kI 9) z r.2.2.2.1 k∧sL 285 oD 3 B r.2.2.2.2.1 t):=by
 refine Az 9 func123 rfl (λd=>sg (VE (ly d rfl (λW2 g d=>Wa (lr (Wm (bS hm λr3 E hm=>?_)))))))
 refine VE (Bn d (cM _) call126 (λ_ _ _ _=>(IE c D _ _ (I.mono (Pl.mono _) d.kG) E)) (λW5 v9 a1 c0 d b9 W n H=>?_) (L0:=[]))
 obtain ⟨i,L,T,O,U,a9,Y,P,Z,R,a2,a,rfl,J,K,M,N,Q⟩:=H
 replace a:=a.symm; subst a
 replace d:=d.perm (Tb (Tr (Tr (Tr (Tr (Tr Tn))))))
 refine VE (lT d zeroValue183 (λc1 y d=>VO (lp (.pointer (some ⟨i,0,none⟩)) (#[(.pointer (some ⟨i,0,none⟩))]) d rfl rfl sizeOf183 oc nb rfl (λc2 d=>lr (V (qz (by exact qJ rfl rfl) rfl) (Wa (lt ?_)))))))
 obtain rfl:=sj hm
 exact nq (v:=(.func (.func 191) #[] #[(.pointer (some ⟨y,0,none⟩)),(.pointer (some ⟨g,0,none⟩))])) rfl rfl ⟨_,_,rfl,(d.OL (Kb (Kb (Sb (Pr (Pr (Pr (Pr (Pr Pz))))) (Kr (Kr (Kr (Kr (Kr Sn))))))))),y,i,L,T,O,U,a9,Y,P,Z,R,a2,g,rfl,rfl,J,K,M,N,Q⟩
theorem H6 (a:lh) (g c:Value) (k:Nat) (u:kC) (r:Bool) (w:World) (j:Sl (Pl (lP .u8)) 1 (hp w) g a.Signed.Tag) (i:Sl kD 5 (hp w) c a.kE.Kids) (t:At (hp w) (.pointer (some ⟨k,0,none⟩)) (kI u)) (hm:xr a u=some r) :
  la true pg0 254 [(.agg #[(.int .i64 a.Signed.kC.Kind),(.string a.Signed.kC.Head.kA),(.string a.Signed.kC.Head.Word),(.string a.Signed.kC.mC),(.string a.Signed.kC.B.kA),(.string a.Signed.kC.B.Word),(.string a.Signed.kC.C.kA),(.string a.Signed.kC.C.Word),(.string a.Signed.kC.mA),g,(.int .i64 a.kE.Op),(.int .i64 a.kE.K),(.string a.kE.kz.kA),(.string a.kE.kz.Word),c]),(.pointer (some ⟨k,0,none⟩))] w (.bool r):=by
 refine cG 9 func254 rfl (λd=>sg ?_)
 obtain ⟨x,z,rfl⟩:=j.form
 obtain ⟨y,B,rfl⟩:=i.form
 refine VE (ly d rfl (λD G d=>Wa (lr (Wf vg (Wf yD (VA d Mh (kI a.Signed.kC) cA aR (V (kF rfl (lx d.has t cA aR)) (V (wD rfl rfl (oX gm) (tE (wJ _ a.Signed.kC u))) (Wa (ln ?_))))))))))
 exact lB (rQ hm d)
theorem LD (k:lZ) (g j:Value) (D:kC) (r:(lh×Bool)) (w:World) {J:lF} (q:pe J [] w) (c:Sl kX 15 J g k.kM) (B:Sl ls 8 J j k.kU) (hm:zP k D=some r) :
  nN false pg0 192 [(.agg #[(.string k.Name),g,j]),(.agg (kI D).toArray)] w J [] (λv L1 μ1=>∃n p,v=(.tuple #[(.agg #[(.int .i64 ((((r.1).Signed).kC).Kind)),(.string (((((r.1).Signed).kC).Head).kA)),(.string (((((r.1).Signed).kC).Head).Word)),(.string ((((r.1).Signed).kC).mC)),(.string (((((r.1).Signed).kC).B).kA)),(.string (((((r.1).Signed).kC).B).Word)),(.string (((((r.1).Signed).kC).C).kA)),(.string (((((r.1).Signed).kC).C).Word)),(.string ((((r.1).Signed).kC).mA)),n,(.int .i64 (((r.1).kE).Op)),(.int .i64 (((r.1).kE).K)),(.string ((((r.1).kE).kz).kA)),(.string ((((r.1).kE).kz).Word)),p]),(.bool (r.2))])∧L1=[]∧Sl (Pl (lP .u8)) 1 μ1 n (((r.1).Signed).Tag)∧Sl kD 5 μ1 p (((r.1).kE).Kids)):=by
 refine xH q 19 func192 rfl (λd=>sg ?_)
 obtain ⟨T,U,rfl⟩:=c.form
 obtain ⟨A3,c4,rfl⟩:=B.form
 refine VE (ly d rfl (λW6 b5 d=>VE (ly d rfl (λW8 K d=>VE (lT d fL (λR b9 d=>Wa (lr (Wf sV (VB d (Mt (Mt Mh)) rfl rfl gL (V (qz (by exact pk rfl) rfl) (bS hm λZ Q hm=>VE (Eg d call142 (uq (.slice T k.kM.length U) k.kM (.func (.func 254) #[] #[(.pointer (some ⟨K,0,none⟩))]) (λ(x:lh)=>xr x D) _ _ (c.mono lg.mono d.kG) ⟨254,#[],#[(.pointer (some ⟨K,0,none⟩))],rfl,call254,λW x vs r A s hm=>by obtain ⟨_,rfl,Y⟩:=s; obtain ⟨O,P,rfl,E,L⟩:=Y.out; exact (H6 x O P K D r W E L (At.of (A _ _ (d.at_ (Mt Mh))) _ rfl) hm).mK⟩ Q) (λb4 d=>Wa (lu ?_))))))))))))))
 refine kP ?_
 replace d:=d.kB (Kb (Db St))
 refine kQ (sg (Wm (Wi rfl (ln (CI hm rfl (λM hm=>?_) (λM hm=>?_))))))
 ·refine sg (V (nB (v:=(.agg OZ.toArray)) uC (nk fL iw (Sj _ iw) kr)) (VO (lp (.agg OZ.toArray) (OZ.toArray) d rfl rfl cO oc nb rfl (λb6 d=>Wa (ln ?_)))))
  replace d:=d.kB (Kb (Db St))
  refine lB (lV ?_)
  obtain rfl:=sj hm
  exact xg (v0:=(.agg OZ.toArray)) (v1:=(.bool false)) rfl rfl (kL d.has Mh OZ rfl fP cO) rfl ⟨_,_,_,rfl,(d.od Sn),(lz.refl _),Lo.refl,(ST.ni d (oZ.mem Sn)),(.slice none 0 0),(.slice none 0 0),rfl,rfl,(Sl.nil _ _ _),(Sl.nil _ _ _)⟩
 refine kg (Wf sV (VB d (Mt Mh) rfl rfl gL (Wm (bS hm λa I hm=>VQ (mo (i:=Z) (x0:=a) kX.out cS cO rfl rfl c (kZ I) (kY I)) (λc1 ⟨_,⟨c3,c5,rfl,G,H⟩,N⟩=>V (kF rfl (lx d.has N fP cO)) ?_)))))
 obtain ⟨t,y,rfl⟩:=G.form
 obtain ⟨u,z,rfl⟩:=H.form
 let a0:=(C3 a.Signed.kC.Kind a.Signed.kC.Head.kA a.Signed.kC.Head.Word a.Signed.kC.mC a.Signed.kC.B.kA a.Signed.kC.B.Word a.Signed.kC.C.kA a.Signed.kC.C.Word a.Signed.kC.mA t a.Signed.Tag.length y a.kE.Op a.kE.K a.kE.kz.kA a.kE.kz.Word u a.kE.Kids.length z)
 refine VO (lp (.agg a0.toArray) (a0.toArray) d rfl rfl cO oc nb rfl (λc0 d=>Wa (ln ?_)))
 replace d:=d.kB (Kb (Db St))
 refine lB ?_
 obtain rfl:=sj hm
 exact xg (v0:=(.agg a0.toArray)) (v1:=(.bool true)) rfl rfl (kL d.has Mh a0 rfl fP cO) rfl ⟨_,_,_,rfl,(d.od Sn),(lz.refl _),Lo.refl,(ST.ni d (oZ.mem Sn)),(.slice t a.Signed.Tag.length y),(.slice u a.kE.Kids.length z),rfl,rfl,G,H⟩
theorem F1 (c:Value) (u r:List mn) (w:World) {j:lF} (I:pe j [] w) (a:Sl ls 8 j c u) (hm:vG u=some r) :
  nN true pg0 256 [c] w j [] (λv G J=>∃z t,v=z∧G=(t++[])∧ml 132 ls 8 J z r t):=by
 unfold vG at hm
 refine xH I 8 func256 rfl (λd=>sg (Wa (lS (Wm ?_))))
 obtain ⟨D,Q,rfl⟩:=a.form
 refine V (CV cH rfl rfl) (ln ?_)
 rcases D with _ | M
 ·have y:=a.isNil
  replace hm:some []=some r:=by rw [y] at hm; simpa [oB,maxLen] using hm
  refine xX (rfl) (sg (Wa (lt (lV ?_))))
  obtain rfl:=sj hm
  refine nq (v:=(.slice none 0 0)) rfl rfl ?_
  replace d:=d.Sw
  exact ⟨_,_,_,rfl,(d.od (Kr Sn)),(lz.refl _),Lo.refl,(ST.ni d (oZ.mem (Kr Sn))),(.slice none 0 0),[],rfl,rfl,(ml.nil _ _ _ _)⟩
 ·refine tJ (rfl) (kg (VE (lJ (cs:=#[]) d uC (A0 [] cH cD fQ dc rfl (by simp) rfl rfl) (λN H d=>Wm (bS hm λT x hm=>VE (tX (B:=[(H,Ob #[] 132)]) mf d dc cH vw.1 vw.2.1 rfl vw.2.2.1 vw.2.2.2 rfl rfl (ml.lit mf (l:=[]) .nil rfl nb rfl) (AB.sl mf a d.kG) x (λK g k d i=>Wa (lt ?_))))))))
  obtain rfl:=sj hm
  exact nq (v:=g) rfl rfl ⟨_,_,_,rfl,(d.od (Kr Sn)),(lz.refl _),Lo.refl,(ST.ni d (oZ.mem (Kr Sn))),g,k,rfl,rfl,i⟩
theorem CP (k:Value) (a0:List mn) (y:LO) (J:Value) (f1:mn→Option Bool) (r:List mn) (w:World) {Y:lF} (h0:pe Y (y++[]) w) (q:ml 132 ls 8 Y k a0 y) (a9:ud pg0 J Y (qn ls) (λ(r:Bool)=>(.bool r)) f1) (hm:sS a0 f1=some r) :
  nN false pg0 255 [k,J] w Y (y++[]) (λv L1 μ1=>∃y1,v=y1∧L1=[]∧Sl ls 8 μ1 y1 (r)):=by
 refine xH h0 42 func255 rfl (λd=>sg (Wa (lr (Wm (Wm (bS hm λr1 d7 hm=>VE (Eg d call147 (vN k a0 J f1 _ _ (q.sl mf d.kG (λb o A=>d.at_ (Ml A))) (a9.mono d.kG) d7) (λW3 d=>Wa (ln ?_)))))))))
 refine kQ (sg (Wm (Wi rfl (ln (CI hm rfl (λd6 hm=>?_) (λd6 hm=>?_))))))
 ·refine sg (Wm (Wa (lt (lV ?_))))
  obtain rfl:=sj hm
  refine nq (v:=k) rfl rfl ?_
  obtain ⟨aa,d,d2,s,d8⟩:=ST.zX mf d q
  exact ⟨_,_,_,rfl,(d.od Sn),d2,s,(ST.ni d (oZ.mem Sn)),k,rfl,rfl,d8⟩
 refine kS (Wm (Wi rfl (Wa (ln (me (nn (λm E W=>∃a2 K G H O,ST false (keys (y++[])) w W Y (K++O)∧E 0=k∧E 1=J∧E 5=(.int .i64 G)∧E 6=(.int .i64 H)∧ml 132 ls 8 Y k a2 K∧pv f1 m a2 G H=some r) li ⟨a0,y,r1,(wi0 .i64 (r1+1)),_,(d.kB St),rfl,rfl,rfl,rfl,q,hm⟩ ?_))))))
 rintro m E W ⟨a2,K,G,H,O,d,t,Z,I,N,j,c⟩
 cases m with
 | zero=>rw [pv] at c; cases c
 | succ d4=>
  refine kQ (sg (Wh N (Wh t (V (wA cH rfl j) (Wi rfl (ln (CI c rfl (λb6 c=>?_) (λb6 c=>?_))))))))
  ·refine kn (kQ (CJ c (λa3 E W=>∃M P,ST false (keys (y++[])) w W Y (M++P)∧E 0=k∧E 1=J∧E 5=(.int .i64 a3.2)∧E 6=(.int .i64 H)∧ml 132 ls 8 Y k a3.1 M) (λa3 g=>?_) ?_))
   ·refine bg (Wh t (Wh N (bS g λa L g=>VQ (mS (i:=H) ls.out cH cD rfl rfl j (kZ L) (kY L)) (λf5 ⟨_,⟨f8,f9,rfl,Q,T⟩,c1,e1⟩=>V (kF rfl (lx (pB.hp _) (c1.mono (nZ (λb o A=>d.has.2 b o (Ml A)))) fB cD)) (VE (lT d fQ (λe7 f3 d=>?_)))))))
    obtain ⟨u,B,rfl⟩:=Q.form
    obtain ⟨x,D,rfl⟩:=T.form
    let p:=(C5 a.kz.kA a.kz.Word a.kE.Op a.kE.K a.kE.kz.kA a.kE.kz.Word u a.kE.Kids.length B x a.lN.length D)
    refine VO (lp (.agg p.toArray) (p.toArray) d rfl rfl cD oc nb rfl (λe8 d=>lr (Wh Z (VA d Mh p fB cD (bS g λf7 c2 g=>VE (pY a d a9 (lz.refl _) (qn.mk mf (ls.mk ⟨(.slice u a.kE.Kids.length B),(.slice x a.lN.length D),rfl,Q,T⟩) d.kG) rfl (pk rfl) c2 (λe9 d=>V (nv rfl) (ln (CI g rfl (λb7 g=>?_) (λb7 g=>?_))))))))))
    ·refine sg (Wh t (Wh I (VA d Mh p fB cD (bS g λg3 U g=>VQ (mS (i:=G) ls.out cH cD rfl rfl j (kZ U) (kY U)) (λf6 ⟨_,⟨g0,g1,rfl,e3,e4⟩,e2,b9⟩=>?_)))))
     replace d:=d.perm (Nr (Qb Qz) Nz)
     refine VO (ss (x1:=a) mf d j rfl rfl (ls.mk ⟨(.slice u a.kE.Kids.length B),(.slice x a.lN.length D),rfl,Q,T⟩) b9 (kY U) cD (λf0 c7 d b4=>ln ?_))
     replace d:=d.kB (Kr (Db St))
     refine kR (Wh I (Wi rfl (Wa (lu (lI (kP ?_))))))
     obtain rfl:=sj g
     exact ⟨c7,_,(d.kB St),t,Z,rfl,N,b4⟩
    refine mM (lI (kP ?_))
    obtain rfl:=sj g
    exact ⟨K,_,(d.kB (Db St)),t,Z,I,N,j⟩
   rintro ⟨d3,d5⟩ E W ⟨M,P,d,c8,c9,d0,d1,c3⟩ c0
   exact kR (Wh d1 (Wi rfl (Wa (ln ⟨d4,aT _,d3,M,d5,(wi0 .i64 (H+1)),_,(d.kB St),c8,c9,d0,rfl,c3,c0⟩))))
  refine nu (ng (ng (pM (kP (sg (Wh t (Wh I (bS c λ_ a4 c=>VQ (Cf (i:=G) cH cD rfl rfl j (ym a4) (yb a4)) (λg2 c4=>VO (Fz (z:=(⟨K0,(⟨0,0,K0,[]⟩:Formula),[]⟩:mn)) (zs:=[(.string zS),(.string zS),(.int .i64 0),(.int .i64 0),(.string zS),(.string zS),(.slice none 0 0),(.slice none 0 0)]) mf d j (ls.mk ⟨(.slice none 0 0),(.slice none 0 0),rfl,(Sl.nil _ _ _),(Sl.nil _ _ _)⟩) cH fQ c4 rfl rfl (λf2 e6 d b5=>lr (Wh t ?_))))))))))))
  refine Wh I (bS c λ_ a5 c=>VQ (Ih (i:=G) cH cD rfl rfl b5 (ym a5) (yb a5)) (λR c5=>Wa (lt ?_)))
  obtain rfl:=sj c
  refine nq (v:=R) rfl rfl ?_
  obtain ⟨g7,d,b0,n,c6⟩:=ST.zX mf d c5
  exact ⟨_,_,_,rfl,(d.od Sn),b0,n,(ST.ni d (oZ.mem Sn)),R,rfl,rfl,c6⟩
theorem Hx (c:mn) (a i:Value) (k:Nat) (u:kC) (r:Bool) (w:World) (j:Sl kD 5 (hp w) a c.kE.Kids) (g:Sl (Pl kI) 9 (hp w) i c.lN) (t:At (hp w) (.pointer (some ⟨k,0,none⟩)) (kI u)) (hm:tH c u=some r) :
  la true pg0 257 [(.agg #[(.string c.kz.kA),(.string c.kz.Word),(.int .i64 c.kE.Op),(.int .i64 c.kE.K),(.string c.kE.kz.kA),(.string c.kE.kz.Word),a,i]),(.pointer (some ⟨k,0,none⟩))] w (.bool r):=by
 refine cG 9 func257 rfl (λd=>sg ?_)
 obtain ⟨B,D,rfl⟩:=j.form
 obtain ⟨x,y,rfl⟩:=g.form
 refine VE (ly d rfl (λG I d=>Wa (lr (Wf zt (VB d Mh rfl rfl iZ (V (kF rfl (lx d.has t cA aR)) (bS hm λJ z hm=>VE (Eg d call111 (EH (.slice x c.lN.length y) c.lN u _ _ (g.mono (Pl.mono _) d.kG) z) (λH d=>V (nv rfl) (Wa (ln ?_)))))))))))
 exact lB (rQ hm d)
theorem JZ (i:lZ) (a g:Value) (y:kC) (r:List mn) (w:World) {G:lF} (I:pe G [] w) (j:Sl kX 15 G a i.kM) (c:Sl ls 8 G g i.kU) (hm:yZ i y=some r) :
  nN false pg0 193 [(.agg #[(.string i.Name),a,g]),(.agg (kI y).toArray)] w G [] (λv L1 μ1=>∃A,v=A∧L1=[]∧Sl ls 8 μ1 A (r)):=by
 refine xH I 10 func193 rfl (λd=>sg ?_)
 obtain ⟨A1,c2,rfl⟩:=j.form
 obtain ⟨Y,E,rfl⟩:=c.form
 refine VE (ly d rfl (λW6 b5 d=>VE (ly d rfl (λW8 z d=>Wa (lr (Wf uY (VB d (Mt Mh) rfl rfl ie (bS hm λr9 N hm=>?_))))))))
 refine VE (eD d (cM _) call256 (λs=>nN.mK (F1 (.slice Y i.kU.length E) i.kU _ _ s (c.mono mf.mono (lz.refl _)) N)) ?_ (L0:=[]))
 rintro _ c3 c6 b4 d B n ⟨a5,Z,k,rfl,T⟩
 obtain rfl:=k.symm
 replace d:=d.perm (Tr Tn)
 refine V (qz (by exact pk rfl) rfl) ?_
 replace d:=d.perm (Nb (Pr Pz) Nz)
 obtain ⟨c7,d,u,p,M⟩:=ST.Km (R:=[(z,Ol (kI y) 52)]) d
 have K:=At.of (M _ _ (.head _)) _ rfl
 refine bS hm λc1 Q hm=>?_
 refine VE (eD d (Cr Qz Cn) call255 (λs=>(CP a5 r9 Z (.func (.func 257) #[] #[(.pointer (some ⟨z,0,none⟩))]) (λ(x:mn)=>tH x y) _ _ s (T.mono mf u) ⟨257,#[],#[(.pointer (some ⟨z,0,none⟩))],rfl,call257,λW x vs r L J hm=>by obtain ⟨_,rfl,a3⟩:=J; obtain ⟨u0,u1,rfl,O,P⟩:=a3.out; exact (Hx x u0 u1 z y r W O P (K.mono ((lz.refl _).trans L)) hm).mK⟩ Q)) ?_)
 rintro _ c5 c8 b6 d D q ⟨H,t,rfl,U⟩
 obtain rfl:=t.symm
 refine Wa (ln ?_)
 replace d:=d.kB (Db St)
 refine lB ?_
 obtain rfl:=sj hm
 exact nq (v:=H) rfl rfl ⟨_,_,_,rfl,(d.od Sn),((B.trans u).trans D),((n.trans p).trans q),(ST.ni d (oZ.mem Sn)),H,rfl,rfl,U⟩
theorem AW (i:Formula) (g:Value) (x:Int) (r:Bool) (w:World) (c:Sl kD 5 (hp w) g i.Kids) (hm:uM i x=some r) :
  la true pg0 297 [(.agg #[(.int .i64 i.Op),(.int .i64 i.K),(.string i.kz.kA),(.string i.kz.Word),g]),(.int .i64 x)] w (.bool r):=by
 refine cG 15 func297 rfl (λd=>sg ?_)
 obtain ⟨B,D,rfl⟩:=c.form
 refine VE (ly d rfl (λG H d=>Wa (lr (Wf qt (VB d Mh rfl rfl bX (Wm (Wi rfl (Wm (LJ hm (λt E W=>∃u,ST true lD w W (hp w) u∧E 4=(.bool false)∧E 14=(.bool t)) 5 ?_ (λt j k=>?_))))))))))
 ·rintro J E W ⟨u,d,I,y⟩ z
  exact Wg y (lt (rQ z d))
 refine bC j (λa j=>?_) (λa j=>?_)
 ·refine ug a (kJ pS rfl) (ug a (kF rfl (kV d.has Mh rfl eZ)) (ug a (mx aH rfl c) (ug a (lE rfl rfl rfl) (V (lb (cB a) rfl) ?_))))
  obtain rfl:=sj j
  exact k _ _ ⟨_,(d.kB (Db St)),rfl,rfl⟩
 refine un a (un a (un a (un a (V (lf (cB a) rfl) ?_))))
 obtain rfl:=sj j
 exact k _ _ ⟨_,(d.kB (Db St)),rfl,rfl⟩
theorem HY (r:Formula) (w:World) {c:lF} (i:pe c [] w) (hm:Aa =some r) :
  nN true pg0 115 [] w c [] (λv g j=>∃a,v=(.agg #[(.int .i64 ((r).Op)),(.int .i64 ((r).K)),(.string (((r).kz).kA)),(.string (((r).kz).Word)),a])∧g=[]∧Sl kD 5 j a ((r).Kids)):=by
 refine xH i 2 func115 rfl (λd=>sg (VE (lT d bG (λk u d=>lr (V (nB (v:=(.agg MM.toArray)) (nL rfl) (nk bG cN (BB _ cN) kr)) (VO (lp (.agg MM.toArray) (MM.toArray) d rfl rfl aG oc nb rfl (λt d=>lt ?_))))))))
 obtain rfl:=sj hm
 exact qQ (v:=(.agg MM.toArray)) rfl rfl (kL d.has Mh MM rfl aZ aG) ⟨_,_,_,rfl,(d.od Sn),(lz.refl _),Lo.refl,(ST.ni d (oZ.mem Sn)),(.slice none 0 0),rfl,rfl,(Sl.nil _ _ _)⟩
theorem IN (r:Formula) (w:World) {c:lF} (i:pe c [] w) (hm:AS =some r) :
  nN true pg0 298 [] w c [] (λv g j=>∃a,v=(.agg #[(.int .i64 ((r).Op)),(.int .i64 ((r).K)),(.string (((r).kz).kA)),(.string (((r).kz).Word)),a])∧g=[]∧Sl kD 5 j a ((r).Kids)):=by
 refine xH i 2 func298 rfl (λd=>sg (VE (lT d bG (λk u d=>lr (V (nB (v:=(.agg ON.toArray)) (nL rfl) (nk bG cN (BB _ cN) kr)) (VO (lp (.agg ON.toArray) (ON.toArray) d rfl rfl aG oc nb rfl (λt d=>lt ?_))))))))
 obtain rfl:=sj hm
 exact qQ (v:=(.agg ON.toArray)) rfl rfl (kL d.has Mh ON rfl aZ aG) ⟨_,_,_,rfl,(d.od Sn),(lz.refl _),Lo.refl,(ST.ni d (oZ.mem Sn)),(.slice none 0 0),rfl,rfl,(Sl.nil _ _ _)⟩
theorem JY (T:Int) (J:Value) (M r:List Formula) (w:World) {Q:lF} (h0:pe Q [] w) (I:Sl kD 5 Q J M) (hm:BC T M=some r) :
  nN true pg0 300 [(.int .i64 T),J] w Q [] (λv L1 μ1=>∃A,v=A∧L1=[]∧Sl kD 5 μ1 A (r)):=by
 refine xH h0 28 func300 rfl (λd=>sg (Wa (lr (Wa (lS (Wm ?_))))))
 refine V (mx aH rfl I) (Wm (ln (mj (λi E W=>∃t G k H,(E 10= .int .i64 (i:Nat)∧E 9= .int .i64 (M.length:Nat))∧ST true (keys []) w W Q (k++H)∧E 0=(.int .i64 T)∧E 5=t∧E 8=J∧ml 30 kD 5 Q t G k∧rO T (M.drop i) G=some r) M.length I.len ⟨(.slice none 0 0),([]),[],_,⟨rfl,rfl⟩,(d.kB St),rfl,rfl,rfl,(ml.nil _ _ _ _),hm⟩ dc dc dc (λ_ _ _ h=>by obtain ⟨_,_,_,_,q,_⟩:=h; exact q) ?_ ?_)))
 ·rintro b5 E W a4 ⟨t,G,k,H,⟨p,s⟩,d,x,y,z,u,c⟩
  obtain ⟨a,b7,P,O,K⟩:=lX a4
  rw [P] at c
  refine bg (VQ (mo (i:=(b5:Int)) (x0:=a) kD.out aH aG z p I (aM _) O) (λc8 ⟨_,⟨c9,rfl,D⟩,a5⟩=>V (kF rfl (lx d.has a5 aZ aG)) (VE (lT d bG (λc0 c5 d=>?_)))))
  obtain ⟨g,j,rfl⟩:=D.form
  let a0:=(C2 a.Op a.K a.kz.kA a.kz.Word g a.Kids.length j)
  refine VO (lp (.agg a0.toArray) (a0.toArray) d rfl rfl aG oc nb rfl (λc1 d=>lr (Wf qt (VB d Mh rfl rfl bX (Wh x (Wi rfl (ln (CI c rfl (λZ c=>?_) (λZ c=>?_)))))))))
  ·refine kR (Wh y (Wf pS (VB d Mh rfl rfl eZ ?_)))
   replace d:=d.perm (Nr (Qb Qz) Nz)
   refine bS c λb1 a2 c=>VE (tX (B:=k) kT d dc aH qF.1 qF.2.1 rfl qF.2.2.1 qF.2.2.2 rfl rfl u (AB.sl kT D d.kG) a2 (λc2 b3 a9 d U=>Wa (lu (lI (kP ?_)))))
   replace d:=d.kB (Kr (Db St))
   exact ⟨p,b3,b1,a9,_,⟨rfl,s⟩,(d.kB St),x,rfl,z,U,(by rw [K]; exact c)⟩
  refine kR (Wh y (VA d Mh a0 aZ aG (VE (lJ (cs:=a0.toArray) d (nL rfl) (oa aH aG bG) (λc3 c6 d=>?_)))))
  replace d:=d.perm (Nr (Qb (Qb Qz)) Nz)
  refine bS c λb2 a3 c=>VE (tX (B:=k) kT d dc aH qF.1 qF.2.1 rfl qF.2.2.1 qF.2.2.2 rfl rfl u (AB.lit kT (l:=[a]) (.cons (ys:=C2 a.Op a.K a.kz.kA a.kz.Word g a.Kids.length j) (kD.mk ⟨(.slice g a.Kids.length j),rfl,D⟩) .nil) rfl nb (d.at_ (Ma Mh))) a3 (λc4 b4 R d Y=>Wa (lu (lI (kP ?_)))))
  replace d:=d.kB (Kr (Db (Db St)))
  exact ⟨p,b4,b2,R,_,⟨rfl,s⟩,(d.kB St),x,rfl,z,Y,(by rw [K]; exact c)⟩
 rintro E W ⟨t,G,k,H,⟨p,s⟩,d,x,y,z,u,c⟩
 rw [aO] at c
 refine kP (sg (Wh y (Wa (lt ?_))))
 obtain rfl:=sj c
 refine nq (v:=t) rfl rfl ?_
 obtain ⟨d1,d,N,n,L⟩:=ST.zX kT d u
 exact ⟨_,_,_,rfl,(d.od Sn),N,n,(ST.ni d (oZ.mem Sn)),t,rfl,rfl,L⟩
theorem BM (a:Formula) (g:Value) (i:Nat) (j:Int) (r:Bool) (w:World) (c:Sl kD 5 (hp w) g a.Kids) (k:At (hp w) (.pointer (some ⟨i,0,none⟩)) [(.int .i64 j)]) (hm:sd a j=some r) :
  la true pg0 301 [(.agg #[(.int .i64 a.Op),(.int .i64 a.K),(.string a.kz.kA),(.string a.kz.Word),g]),(.pointer (some ⟨i,0,none⟩))] w (.bool r):=by
 refine cG 7 func301 rfl (λd=>sg ?_)
 obtain ⟨t,u,rfl⟩:=c.form
 refine VE (ly d rfl (λz D d=>Wa (lr (VA d Mh (C2 a.Op a.K a.kz.kA a.kz.Word t a.Kids.length u) aZ aG (V (kF rfl (pO d.has (y:=(.int .i64 j)) k bX)) (bS hm λG x hm=>VE (Eg d call297 (AW a (.slice t a.Kids.length u) j _ _ (c.mono kT.mono d.kG) x) (λB d=>Wa (ln ?_)))))))))
 exact lB (rQ hm d)
theorem Dz (c:Value) (u r:List Formula) (w:World) {j:lF} (I:pe j [] w) (a:Sl kD 5 j c u) (hm:tL u=some r) :
  nN true pg0 351 [c] w j [] (λv G J=>∃z t,v=z∧G=(t++[])∧ml 30 kD 5 J z r t):=by
 unfold tL at hm
 refine xH I 8 func351 rfl (λd=>sg (Wa (lS (Wm ?_))))
 obtain ⟨D,Q,rfl⟩:=a.form
 refine V (CV aH rfl rfl) (ln ?_)
 rcases D with _ | M
 ·have y:=a.isNil
  replace hm:some []=some r:=by rw [y] at hm; simpa [oB,maxLen] using hm
  refine xX (rfl) (sg (Wa (lt (lV ?_))))
  obtain rfl:=sj hm
  refine nq (v:=(.slice none 0 0)) rfl rfl ?_
  replace d:=d.Sw
  exact ⟨_,_,_,rfl,(d.od (Kr Sn)),(lz.refl _),Lo.refl,(ST.ni d (oZ.mem (Kr Sn))),(.slice none 0 0),[],rfl,rfl,(ml.nil _ _ _ _)⟩
 ·refine tJ (rfl) (kg (VE (lJ (cs:=#[]) d uC (A0 [] aH aG bG dc rfl (by simp) rfl rfl) (λN H d=>Wm (bS hm λT x hm=>VE (tX (B:=[(H,Ob #[] 30)]) kT d dc aH qF.1 qF.2.1 rfl qF.2.2.1 qF.2.2.2 rfl rfl (ml.lit kT (l:=[]) .nil rfl nb rfl) (AB.sl kT a d.kG) x (λK g k d i=>Wa (lt ?_))))))))
  obtain rfl:=sj hm
  exact nq (v:=g) rfl rfl ⟨_,_,_,rfl,(d.od (Kr Sn)),(lz.refl _),Lo.refl,(ST.ni d (oZ.mem (Kr Sn))),g,k,rfl,rfl,i⟩
theorem tI (y:Value) (a0:List Formula) (D:LO) (q a2:Int) (T:Value) (f3:(Formula×Formula)→Option Int) (r:List Formula) (w:World) {μ0:lF} (h0:pe μ0 (D++[]) w) (h4:ml 30 kD 5 μ0 y a0 D) (h5:ud pg0 T μ0 (uu kD kD) (λ(r:Int)=>(.int .i64 r)) f3) (hm:oJ a0 q a2 f3=some r) :
  nN false pg0 383 [y,(.int .i64 q),(.int .i64 a2),T] w μ0 (D++[]) (λv L1 μ1=>∃S1,v=(.tuple #[])∧L1=(S1++[])∧ml 30 kD 5 μ1 y r S1):=by
 refine xH h0 53 func383 rfl (λn=>sg (Wm (Wi rfl (Wa (ln (rZ (me (nn (λm E W=>∃Y J x c9,ST false (keys (D++[])) w W μ0 (J++c9)∧E 0=y∧E 1=(.int .i64 q)∧E 2=(.int .i64 a2)∧E 3=T∧E 8=(.int .i64 x)∧ml 30 kD 5 μ0 y Y J∧mP a2 q f3 m Y x=some r) li ⟨a0,D,(wi0 .i64 (q+1)),_,(n.kB St),rfl,rfl,rfl,rfl,rfl,h4,hm⟩ ?_))))))))
 rintro m E W ⟨Y,J,x,c9,n,f9,g0,d1,g1,O,c6,u⟩
 cases m with
 | zero=>rw [mP] at u; cases u
 | succ h2=>
  refine kQ (sg (Wh O (Wh d1 (Wi rfl (ln (CI u rfl (λe9 u=>?_) (λe9 u=>?_)))))))
  ·refine kn (kQ (bg (Wh O (Wa (ln (rZ (CJ u (λP E W=>∃U d0,ST false (keys (D++[])) w W μ0 (U++d0)∧E 0=y∧E 1=(.int .i64 q)∧E 2=(.int .i64 a2)∧E 3=T∧E 8=(.int .i64 x)∧ml 30 kD 5 μ0 y P U) (λP f1=>?_) ?_)))))))
   ·refine me (nn (λm E W=>∃M B j b7,ST false (keys (D++[])) w W μ0 (B++b7)∧E 0=y∧E 1=(.int .i64 q)∧E 2=(.int .i64 a2)∧E 3=T∧E 8=(.int .i64 x)∧E 9=(.int .i64 j)∧ml 30 kD 5 μ0 y M B∧nj q f3 m M j=some P) li ⟨Y,J,x,_,(n.kB St),f9,g0,d1,g1,O,rfl,c6,f1⟩ ?_)
    rintro m E W ⟨M,B,j,b7,n,K,Z,c0,a3,c1,G,t,I⟩
    cases m with
    | zero=>rw [nj] at I; cases I
    | succ f4=>
     refine kQ (kQ ?_)
     replace n:=n.drew
     have d:=n.has.kB (Kr Sn)
     refine lC d lj (X 0 rfl d (kH G) (X 1 rfl d (kH Z) (X 2 rfl d (lE rfl rfl rfl) (X 3 rfl d (kH rfl) (PJ I (λc7 E W=>∃b9,ST false (keys (D++[])) w W μ0 (B++b9)∧E 0=y∧E 1=(.int .i64 q)∧E 2=(.int .i64 a2)∧E 3=T∧E 8=(.int .i64 x)∧E 9=(.int .i64 j)∧E 34=(.bool c7)) (bm 17 131071) 0 ?_ (λc7 g a4=>?_))))))
     ·rintro k2 E W ⟨b9,n,z,c2,c3,c4,c5,H,e8⟩ c
      have d:=n.has.kB (Kr Sn)
      refine lH kr (kP (CI c e8 (λd3 c=>?_) (λd3 c=>?_)))
      ·refine kn (kQ (me ?_))
       replace n:=n.drew
       have d:=n.has.kB Sn
       have p:=n.has.kB (Kr Sn)
       refine sM 15 d p lj (lG 0 rfl kr (.inl rfl) rfl dc (λ_ _ h=>⟨h.1,lO br h.2⟩) ⟨d,λ_=>p⟩ (λ_ _ _ _=>kH z) (lG 1 rfl kr (.inl rfl) rfl dc (λ_ _ h=>⟨h.1,lO br h.2⟩) ⟨d,λ_=>p⟩ (λ_ _ _ _=>kH H) (lG 2 rfl kr (.inl rfl) rfl dc (λ_ _ h=>⟨h.1,lO br h.2⟩) ⟨d,λ_=>p⟩ (λ_ _ _ _=>kH z) (lG 3 rfl kr (.inl rfl) rfl dc (λ_ _ h=>⟨h.1,lO br h.2⟩) ⟨d,λ_=>p⟩ (λ_ _ _ _=>kH H) (lG 4 rfl kr (.inl rfl) rfl dc (λ_ _ h=>⟨h.1,lO br h.2⟩) ⟨d,λ_=>p⟩ (λ_ _ _ _=>lE rfl rfl rfl) (lG 5 rfl kr (.inl rfl) rfl dc (λ_ _ h=>⟨h.1,lO br h.2⟩) ⟨d,λ_=>p⟩ (λ_ _ _ _=>kH z) (lG 6 rfl kr (.inl rfl) rfl dc (λ_ _ h=>⟨h.1,lO br h.2⟩) ⟨d,λ_=>p⟩ (λ_ _ _ _=>kH H) (lG 7 rfl kr (.inl rfl) rfl dc (λ_ _ h=>⟨h.1,lO br h.2⟩) ⟨d,λ_=>p⟩ (λ_ _ _ _=>lE rfl rfl rfl) (bS c λa5 b0 c=>np 8 rfl kr (.inl rfl) rfl dc (λ_ _ h=>⟨h.1,lO br h.2⟩) ⟨d,λ_=>p⟩ (mS (i:=(wi0 .i64 (j-1))) kD.out aH aG rfl rfl t (kZ b0) (kY b0)) (λi9 ⟨_,⟨j8,rfl,a8⟩,d6,h6⟩=>lG 9 rfl kr (.inl rfl) rfl dc (λ_ _ h=>⟨h.1,lO br h.2⟩) ⟨d,λ_=>p⟩ (λl W A R=>have s:=(R.2 (A.yL 15 [9] kr rfl)); kF rfl (lx (pB.hp _) (d6.mono (nZ (λb o L=>s.2 b o (Ml L)))) aZ aG)) (lG 10 rfl kr (.inl rfl) rfl dc (λ_ _ h=>⟨h.1,lO br h.2⟩) ⟨d,λ_=>p⟩ (λ_ _ _ _=>kH z) (lG 11 rfl kr (.inl rfl) rfl dc (λ_ _ h=>⟨h.1,lO br h.2⟩) ⟨d,λ_=>p⟩ (λ_ _ _ _=>kH H) (bS c λk b1 c=>?_)))))))))))))
       refine np 12 rfl kr (.inl rfl) rfl dc (λ_ _ h=>⟨h.1,lO br h.2⟩) ⟨d,λ_=>p⟩ (mS (i:=j) kD.out aH aG rfl rfl t (kZ b1) (kY b1)) (λj0 ⟨_,⟨j9,rfl,a9⟩,d7,h7⟩=>lG 13 rfl kr (.inl rfl) rfl dc (λ_ _ h=>⟨h.1,lO br h.2⟩) ⟨d,λ_=>p⟩ (λl W A R=>have s:=(R.2 (A.yL 15 [13] kr rfl)); kF rfl (lx (pB.hp _) (d7.mono (nZ (λb o L=>s.2 b o (Ml L)))) aZ aG)) (bS c λk3 N c=>np 14 rfl kr (.inl rfl) rfl dc (λ_ _ h=>⟨h.1,lO br h.2⟩) ⟨d,λ_=>p⟩ (mS (i:=j) kD.out aH aG rfl rfl t (kZ N) (kY N)) (λj3 ⟨_,⟨k0,rfl,i2⟩,i0,d4⟩=>?_)))
       obtain ⟨e3,e6,rfl⟩:=a8.form
       refine XO 15 rfl (ss (x1:=a5) kT n t rfl rfl (kD.mk ⟨(.slice e3 a5.Kids.length e6),rfl,a8⟩) d4 (kY N) aG (λi6 i4 n a7=>?_))
       have d:=n.has.kB Sn
       refine ⟨⟨d,λh=>vp kr h⟩,(bS c λk4 Q c=>np 16 rfl kr (.inl rfl) rfl dc (λ_ _ h=>⟨h.1,lO br h.2⟩) ⟨d,λh=>vp kr h⟩ (mS (i:=(wi0 .i64 (j-1))) kD.out aH aG rfl rfl a7 (kZ Q) (kY Q)) (λj4 ⟨_,⟨k1,rfl,i3⟩,i1,d5⟩=>?_))⟩
       obtain ⟨e4,e7,rfl⟩:=a9.form
       refine XO 17 rfl (ss (x1:=(⟨k.Op,k.K,k.kz,k.Kids⟩:Formula)) kT n a7 rfl rfl (kD.mk ⟨(.slice e4 k.Kids.length e7),rfl,a9⟩) d5 (kY Q) aG (λi7 e5 n d2=>?_))
       have d:=n.has.kB Sn
       exact ⟨⟨d,λh=>vp kr h⟩,(lH kr (lI (kP (kR (Wh H (Wi rfl (Wa (ln ⟨f4,aT _,((M.set (Int.toNat j) a5).set (Int.toNat (wi0 .i64 (j-1))) (⟨k.Op,k.K,k.kz,k.Kids⟩:Formula)),e5,(wi0 .i64 (j-1)),_,(n.kB St),z,c2,c3,c4,c5,rfl,d2,c⟩))))))))⟩
      refine nu (ng (ng (pM (kP ?_))))
      obtain rfl:=sj c
      exact ⟨B,_,(n.kB St),z,c2,c3,c4,c5,t⟩
     refine bC g (λa g=>?_) (λa g=>?_)
     ·refine Xg 4 rfl rfl (cB a) d (kH a3) (Xg 5 rfl rfl (cB a) d (kH K) (Xg 6 rfl rfl (cB a) d (kH G) (bS g λf7 b2 g=>np 7 rfl kr (.inr ⟨3,true,21,rfl,rfl,by decide,(cB a)⟩) rfl dc (λ_ _ h=>h) d (mS (i:=j) kD.out aH aG rfl rfl t (kZ b2) (kY b2)) (λj5 ⟨_,⟨f5,rfl,e1⟩,d8,h8⟩=>pu 8 rfl rfl (cB a) d (λ_ s=>kF rfl (lx (pB.hp _) (d8.mono (nZ (λb o L=>s.2 b o (Ml L)))) aZ aG)) (Xg 9 rfl rfl (cB a) d (kH K) (Xg 10 rfl rfl (cB a) d (kH G) (Xg 11 rfl rfl (cB a) d (lE rfl rfl rfl) (bS g λf8 b3 g=>np 12 rfl kr (.inr ⟨3,true,21,rfl,rfl,by decide,(cB a)⟩) rfl dc (λ_ _ h=>h) d (mS (i:=(wi0 .i64 (j-1))) kD.out aH aG rfl rfl t (kZ b3) (kY b3)) (λj6 ⟨_,⟨f6,rfl,e2⟩,d9,h9⟩=>pu 13 rfl rfl (cB a) d (λ_ s=>kF rfl (lx (pB.hp _) (d9.mono (nZ (λb o L=>s.2 b o (Ml L)))) aZ aG)) (bS g λj7 e0 g=>yq 14 rfl rfl (cB a) (pY (f7,f8) n h5 (lz.refl _) (uu.mk kT kT (kD.mk ⟨f5,rfl,e1⟩) (kD.mk ⟨f6,rfl,e2⟩) n.kG) rfl (qJ rfl rfl) e0 (λi8 n=>?_))))))))))))
      have d:=n.has.kB (Kr Sn)
      refine ⟨d,(Xg 15 rfl rfl (cB a) d (lE rfl rfl rfl) (X 16 rfl d (lb (cB a) rfl) ?_))⟩
      obtain rfl:=sj g
      refine nf kr (a4 _ _ ⟨_,(n.kB St),K,Z,c0,a3,c1,G,rfl⟩)
     refine Xn 4 rfl rfl (cB a) d (Xn 5 rfl rfl (cB a) d (Xn 6 rfl rfl (cB a) d (Xn 7 rfl rfl (cB a) d (Xn 8 rfl rfl (cB a) d (Xn 9 rfl rfl (cB a) d (Xn 10 rfl rfl (cB a) d (Xn 11 rfl rfl (cB a) d (Xn 12 rfl rfl (cB a) d (Xn 13 rfl rfl (cB a) d (Xn 14 rfl rfl (cB a) d (Xn 15 rfl rfl (cB a) d (X 16 rfl d (lf (cB a) rfl) ?_))))))))))))
     obtain rfl:=sj g
     refine nf kr (a4 _ _ ⟨_,(n.kB St),K,Z,c0,a3,c1,G,rfl⟩)
   rintro h1 E W ⟨U,d0,n,g2,g3,g4,g7,g8,f2⟩ f0
   exact lI (kP (kR (Wh g8 (Wi rfl (Wa (ln ⟨h2,aT _,h1,U,(wi0 .i64 (x+1)),_,(n.kB St),g2,g3,g4,g7,rfl,f2,f0⟩))))))
  refine nu (ng (ng (pM (kP (qK ?_)))))
  obtain rfl:=sj u
  exact px rfl ⟨_,_,_,rfl,(n.od (Kr Sn)),(lz.refl _),Lo.refl,(ST.ni n (oZ.mem (Kr Sn))),J,rfl,rfl,c6⟩
theorem rz (x:Value) (a0:List Formula) (t:LO) (G H a3:Int) (a5:Value) (f4:(Formula×Formula)→Option Int) (r:List Formula) (w:World) {Y:lF} (h0:pe Y (t++[]) w) (c0:ml 30 kD 5 Y x a0 t) (d5:ud pg0 a5 Y (uu kD kD) (λ(r:Int)=>(.int .i64 r)) f4) (hm:oC a0 G H a3 f4=some r) :
  nN true pg0 400 [x,(.int .i64 G),(.int .i64 H),(.int .i64 a3),a5] w Y (t++[]) (λv L1 μ1=>∃S1,v=(.tuple #[])∧L1=(S1++[])∧ml 30 kD 5 μ1 x r S1):=by
 refine xH h0 38 func400 rfl (λp=>sg (Wa (ln (rZ (me (nn (λm E W=>∃D y c Z,ST true (keys (t++[])) w W Y (y++Z)∧E 0=x∧E 1=(.int .i64 G)∧E 2=(.int .i64 H)∧E 3=(.int .i64 a3)∧E 10=(.int .i64 c)∧ml 30 kD 5 Y x D y∧nx a3 H G m D c=some r) li ⟨a0,t,0,_,(p.kB St),rfl,rfl,rfl,rfl,rfl,c0,hm⟩ ?_))))))
 rintro m E W ⟨D,y,c,Z,p,u,I,J,a4,k,j,a⟩
 cases m with
 | zero=>rw [nx] at a; cases a
 | succ c1=>
  refine kQ (sg (Wh k (Wh a4 (Wi rfl (ln (CI a rfl (λR a=>?_) (λR a=>?_)))))))
  ·refine kn (kQ (me ?_))
   replace p:=p.drew
   have d:=p.has.kB Sn
   have n:=p.has.kB (Kr Sn)
   refine sM 21 d n lj (lG 0 rfl kr (.inl rfl) rfl dc (λ_ _ h=>⟨h.1,lO br h.2⟩) ⟨d,λ_=>n⟩ (λ_ _ _ _=>kH u) (lG 1 rfl kr (.inl rfl) rfl dc (λ_ _ h=>⟨h.1,lO br h.2⟩) ⟨d,λ_=>n⟩ (λ_ _ _ _=>kH I) (lG 2 rfl kr (.inl rfl) rfl dc (λ_ _ h=>⟨h.1,lO br h.2⟩) ⟨d,λ_=>n⟩ (λ_ _ _ _=>kH k) (lG 3 rfl kr (.inl rfl) rfl dc (λ_ _ h=>⟨h.1,lO br h.2⟩) ⟨d,λ_=>n⟩ (λ_ _ _ _=>lE rfl rfl rfl) (lG 4 rfl kr (.inl rfl) rfl dc (λ_ _ h=>⟨h.1,lO br h.2⟩) ⟨d,λ_=>n⟩ (λ_ _ _ _=>kH u) (lG 5 rfl kr (.inl rfl) rfl dc (λ_ _ h=>⟨h.1,lO br h.2⟩) ⟨d,λ_=>n⟩ (λ_ _ _ _=>kH J) (lG 6 rfl kr (.inl rfl) rfl dc (λ_ _ h=>⟨h.1,lO br h.2⟩) ⟨d,λ_=>n⟩ (λ_ _ _ _=>kH k) (lG 7 rfl kr (.inl rfl) rfl dc (λ_ _ h=>⟨h.1,lO br h.2⟩) ⟨d,λ_=>n⟩ (λ_ _ _ _=>lE rfl rfl rfl) (lG 8 rfl kr (.inl rfl) rfl dc (λ_ _ h=>⟨h.1,lO br h.2⟩) ⟨d,λ_=>n⟩ (λ_ _ _ _=>kH u) (lG 9 rfl kr (.inl rfl) rfl dc (λ_ _ h=>⟨h.1,lO br h.2⟩) ⟨d,λ_=>n⟩ (λ_ _ _ _=>kH J) (lG 10 rfl kr (.inl rfl) rfl dc (λ_ _ h=>⟨h.1,lO br h.2⟩) ⟨d,λ_=>n⟩ (λ_ _ _ _=>kH k) (lG 11 rfl kr (.inl rfl) rfl dc (λ_ _ h=>⟨h.1,lO br h.2⟩) ⟨d,λ_=>n⟩ (λ_ _ _ _=>lE rfl rfl rfl) (bS a λK T a=>np 12 rfl kr (.inl rfl) rfl dc (λ_ _ h=>⟨h.1,lO br h.2⟩) ⟨d,λ_=>n⟩ (mS (i:=(wi0 .i64 (H+c))) kD.out aH aG rfl rfl j (kZ T) (kY T)) (λd6 ⟨_,⟨e0,rfl,N⟩,b1,c4⟩=>?_))))))))))))))
   refine lG 13 rfl kr (.inl rfl) rfl dc (λ_ _ h=>⟨h.1,lO br h.2⟩) ⟨d,λ_=>n⟩ (λl W q L=>have s:=(L.2 (q.yL 21 [13] kr rfl)); kF rfl (lx (pB.hp _) (b1.mono (nZ (λb o A=>s.2 b o (Ml A)))) aZ aG)) (lG 14 rfl kr (.inl rfl) rfl dc (λ_ _ h=>⟨h.1,lO br h.2⟩) ⟨d,λ_=>n⟩ (λ_ _ _ _=>kH u) (lG 15 rfl kr (.inl rfl) rfl dc (λ_ _ h=>⟨h.1,lO br h.2⟩) ⟨d,λ_=>n⟩ (λ_ _ _ _=>kH I) (lG 16 rfl kr (.inl rfl) rfl dc (λ_ _ h=>⟨h.1,lO br h.2⟩) ⟨d,λ_=>n⟩ (λ_ _ _ _=>kH k) (lG 17 rfl kr (.inl rfl) rfl dc (λ_ _ h=>⟨h.1,lO br h.2⟩) ⟨d,λ_=>n⟩ (λ_ _ _ _=>lE rfl rfl rfl) (bS a λg U a=>np 18 rfl kr (.inl rfl) rfl dc (λ_ _ h=>⟨h.1,lO br h.2⟩) ⟨d,λ_=>n⟩ (mS (i:=(wi0 .i64 (G+c))) kD.out aH aG rfl rfl j (kZ U) (kY U)) (λd7 ⟨_,⟨e1,rfl,Q⟩,b2,c5⟩=>lG 19 rfl kr (.inl rfl) rfl dc (λ_ _ h=>⟨h.1,lO br h.2⟩) ⟨d,λ_=>n⟩ (λl W q L=>have s:=(L.2 (q.yL 21 [19] kr rfl)); kF rfl (lx (pB.hp _) (b2.mono (nZ (λb o A=>s.2 b o (Ml A)))) aZ aG)) (bS a λe5 z a=>np 20 rfl kr (.inl rfl) rfl dc (λ_ _ h=>⟨h.1,lO br h.2⟩) ⟨d,λ_=>n⟩ (mS (i:=(wi0 .i64 (G+c))) kD.out aH aG rfl rfl j (kZ z) (kY z)) (λd8 ⟨_,⟨e2,rfl,c8⟩,c6,a9⟩=>?_))))))))
   let O:=(⟨g.Op,g.K,g.kz,g.Kids⟩:Formula)
   obtain ⟨b3,b7,rfl⟩:=N.form
   refine XO 21 rfl (ss (x1:=K) kT p j rfl rfl (kD.mk ⟨(.slice b3 K.Kids.length b7),rfl,N⟩) a9 (kY z) aG (λd2 d1 p M=>?_))
   have d:=p.has.kB Sn
   refine ⟨⟨d,λh=>vp kr h⟩,(bS a λe6 B a=>np 22 rfl kr (.inl rfl) rfl dc (λ_ _ h=>⟨h.1,lO br h.2⟩) ⟨d,λh=>vp kr h⟩ (mS (i:=(wi0 .i64 (H+c))) kD.out aH aG rfl rfl M (kZ B) (kY B)) (λd9 ⟨_,⟨e3,rfl,c9⟩,c7,b0⟩=>?_))⟩
   obtain ⟨b4,b9,rfl⟩:=Q.form
   refine XO 23 rfl (ss (x1:=O) kT p M rfl rfl (kD.mk ⟨(.slice b4 g.Kids.length b9),rfl,Q⟩) b0 (kY B) aG (λd3 b5 p P=>?_))
   have d:=p.has.kB Sn
   exact ⟨⟨d,λh=>vp kr h⟩,(lH kr (lI (kP (kR (Wh k (Wi rfl (Wa (ln ⟨c1,aT _,((D.set (Int.toNat (wi0 .i64 (G+c))) K).set (Int.toNat (wi0 .i64 (H+c))) O),b5,(wi0 .i64 (c+1)),_,(p.kB St),u,I,J,a4,rfl,P,a⟩))))))))⟩
  refine nu (ng (ng (pM (kP (qK ?_)))))
  obtain rfl:=sj a
  exact px rfl ⟨_,_,_,rfl,(p.od (Kr Sn)),(lz.refl _),Lo.refl,(ST.ni p (oZ.mem (Kr Sn))),y,rfl,rfl,j⟩
theorem zJ (k:Value) (a0:List Formula) (y:LO) (L D a3:Int) (B:Value) (U:(Formula×Formula)→Option Int) (r:List Formula) (w:World) {T:lF} (h0:pe T (y++[]) w) (c5:ml 30 kD 5 T k a0 y) (Q:ud pg0 B T (uu kD kD) (λ(r:Int)=>(.int .i64 r)) U) (hm:ot a0 L D a3 U=some r) :
  nN true pg0 389 [k,(.int .i64 L),(.int .i64 D),(.int .i64 a3),B] w T (y++[]) (λv L1 μ1=>∃S1,v=(.tuple #[])∧L1=(S1++[])∧ml 30 kD 5 μ1 k r S1):=by
 refine xH h0 58 func389 rfl (λd=>sg (Wm (Wm (Wi rfl (Wa (lr (Wm (Wm (Wi rfl (Wa ?_))))))))))
 refine ln (kQ (me (nn (λm E W=>∃z x c t I Y,lz T I∧Lo (keys (y++[])) w T I∧ST true (keys (y++[])) w W I (x++Y)∧E 0=k∧E 2=(.int .i64 D)∧E 4=B∧E 10=(.int .i64 c)∧E 11=(.int .i64 t)∧ml 30 kD 5 I k z x∧nM D U m z c t=some r) li ⟨a0,y,(wi0 .i64 (D-L)),(wi0 .i64 (a3-D)),T,_,(lz.refl _),Lo.refl,(d.kB St),rfl,rfl,rfl,rfl,rfl,c5,hm⟩ ?_)))
 rintro m E W ⟨z,x,c,t,I,Y,i,n,d,G,j,H,g,u,J,a⟩
 let a2:=(wi0 .i64 (D-c))
 cases m with
 | zero=>rw [nM] at a; cases a
 | succ O=>
  refine kQ (sg (Wh g (Wh u (Wi rfl (ln (CI a rfl (λP a=>?_) (λP a=>?_)))))))
  ·refine kn (bg (Wh g (Wh u (Wi rfl (ln (CI a rfl (λR a=>?_) (λR a=>?_)))))))
   ·refine sg (Wh G (Wh j (Wh g (Wi rfl (Wh j (Wh u (Wh H (bS a λc6 b2 a=>?_))))))))
    refine VE (eD d (Cr Qz Cn) call400 (λA=>(rz k z x a2 D t B U _ _ A J (Q.mono i) b2)) ?_)
    rintro _ e0 c8 d2 d Z p ⟨b9,K,rfl,b5⟩
    obtain rfl:=K.symm
    replace d:=d.perm (Tr Tn)
    exact ln (kR (Wh g (Wh u (Wi rfl (Wa (lu (lI (kP ⟨O,aT _,c6,b9,(wi0 .i64 (c-t)),t,c8,_,(i.trans Z),(n.trans p),(d.kB St),G,j,H,rfl,u,b5,a⟩))))))))
   refine sg (Wh G (Wh j (Wh g (Wi rfl (Wh j (Wh u (Wi rfl (Wh g (Wi rfl (Wh g (Wh H (bS a λc7 b3 a=>?_))))))))))))
   refine VE (eD d (Cr Qz Cn) call400 (λA=>(rz k z x a2 (wi0 .i64 ((wi0 .i64 (D+t))-c)) c B U _ _ A J (Q.mono i) b3)) ?_)
   rintro _ e1 c9 d3 d a4 q ⟨c0,M,rfl,b6⟩
   obtain rfl:=M.symm
   replace d:=d.perm (Tr Tn)
   exact ln (kR (Wh u (Wh g (Wi rfl (Wa (lu (lI (kP ⟨O,aT _,c7,c0,c,(wi0 .i64 (t-c)),c9,_,(i.trans a4),(n.trans q),(d.kB St),G,j,H,g,rfl,b6,a⟩))))))))
  refine nu (ng (ng (pM (kP (kR (Wh G (Wh j (Wh g (Wi rfl (Wh j (Wh g (Wh H (bS a λd9 b4 a=>?_)))))))))))))
  refine VE (eD d (Cr Qz Cn) call400 (λA=>(rz k z x a2 D c B U _ _ A J (Q.mono i) b4)) ?_)
  rintro _ e2 e4 d4 d a5 s ⟨c1,N,rfl,b7⟩
  obtain rfl:=N.symm
  replace d:=d.perm (Tr Tn)
  refine lu (qK ?_)
  obtain rfl:=sj a
  exact px rfl ⟨_,_,_,rfl,(d.od (Kr Sn)),(i.trans a5),(n.trans s),(ST.ni d (oZ.mem (Kr Sn))),c1,rfl,rfl,b7⟩
set_option maxHeartbeats 4000000 in
theorem xz (t6:(List Formula)→Int→Int→Int→((Formula×Formula)→Option Int)→Option (List Formula)) (s6:∀(t:Value) (a0:List Formula) (c:LO) (z:Int) (M:Int) (B:Int) (D:Value) (f4:(Formula×Formula)→Option Int) (r:List Formula) (w:World) {U:lF} (h0:pe U (c++[]) w) (a5:ml 30 kD 5 U t a0 c) (c6:ud pg0 D U (uu kD kD) (λ(r:Int)=>(.int .i64 r)) f4),t6 a0 z M B f4=some r→nN false pg0 384 [t,(.int .i64 z),(.int .i64 M),(.int .i64 B),D] w U (c++[]) (λv L1 μ1=>∃S1,v=(.tuple #[])∧L1=(S1++[])∧ml 30 kD 5 μ1 t r S1)) (t:Value) (a0:List Formula) (c:LO) (z M B:Int) (D:Value) (f4:(Formula×Formula)→Option Int) (r:List Formula) (w:World) {U:lF} (h0:pe U (c++[]) w) (a5:ml 30 kD 5 U t a0 c) (c6:ud pg0 D U (uu kD kD) (λ(r:Int)=>(.int .i64 r)) f4) (hm:qL t6 a0 z M B f4=some r) :
  nN false pg0 384 [t,(.int .i64 z),(.int .i64 M),(.int .i64 B),D] w U (c++[]) (λv L1 μ1=>∃S1,v=(.tuple #[])∧L1=(S1++[])∧ml 30 kD 5 μ1 t r S1):=by
 refine xH h0 220 func384 rfl (λd=>kQ (sg (Wm (Wm (Wi rfl (Wi rfl (ln (CI hm rfl (λae hm=>?_) (λae hm=>?_)))))))))
 ·refine sg (Wm (Wa (lr (Wm (Wa (ln (kQ (me (nn (λm E W=>∃T a9 o3,ST false (keys (c++[])) w W U (c++o3)∧E 0=t∧E 1=(.int .i64 z)∧E 4=D∧E 10=(.int .i64 T)∧E 11=(.int .i64 a9)∧mE a0 z f4 m T a9=some r) li ⟨M,B,_,(d.kB St),rfl,rfl,rfl,rfl,rfl,hm⟩ ?_)))))))))
  rintro m E W ⟨T,a9,o3,d,e4,h8,k3,h9,k4,y⟩
  cases m with
  | zero=>rw [mE] at y; cases y
  | succ t5=>
   refine kQ (sg (Wh h9 (Wh k4 (Wi rfl (ln (CI y rfl (λw9 y=>?_) (λw9 y=>?_)))))))
   ·refine kn (bg (Wh h9 (Wh k4 (Wi rfl (V (pc (k':=.i64) (a:=(wi0 .i64 (T+a9))) dH dX rfl) (V (BO (a:=(IntKind.u64.wrap (wi0 .i64 (T+a9)))) (b:=1) rfl rfl dc) (V (pc (k':=.u64) (a:=(Int.fdiv (IntKind.u64.wrap (wi0 .i64 (T+a9))) (2 ^ min (Int.toNat 1) (IntKind.bits .u64)))) dX dH rfl) (Wa (ln (kQ ?_))))))))))
    let e3:=(Int.fdiv (IntKind.u64.wrap (wi0 .i64 (T+a9))) (2 ^ min (Int.toNat 1) (IntKind.bits .u64)))
    replace d:=d.drew
    have n:=d.has.kB (Kr Sn)
    refine lC n lj (X 0 rfl n (kH k3) (X 1 rfl n (kH e4) (X 2 rfl n (kH rfl) (bS y λaa n1 y=>XQ 3 rfl n (mS (i:=(wi0 .i64 e3)) kD.out aH aG rfl rfl a5 (kZ n1) (kY n1)) (λdi ⟨_,⟨z7,rfl,x7⟩,x4,bp⟩=>XH 4 rfl n (λ_ s=>kF rfl (lx (pB.hp _) (x4.mono (nZ (λb o A=>s.2 b o (Ml A)))) aZ aG)) (X 5 rfl n (kH e4) (X 6 rfl n (kH h8) (bS y λab n2 y=>XQ 7 rfl n (mS (i:=z) kD.out aH aG rfl rfl a5 (kZ n2) (kY n2)) (λdj ⟨_,⟨z8,rfl,x8⟩,x5,bq⟩=>XH 8 rfl n (λ_ s=>kF rfl (lx (pB.hp _) (x5.mono (nZ (λb o A=>s.2 b o (Ml A)))) aZ aG)) (bS y λdk x6 y=>XE 9 rfl (pY (aa,ab) d c6 (lz.refl _) (uu.mk kT kT (kD.mk ⟨z7,rfl,x7⟩) (kD.mk ⟨z8,rfl,x8⟩) d.kG) rfl (qJ rfl rfl) x6 (λdg d=>?_))))))))))))
    have n:=d.has.kB (Kr Sn)
    refine ⟨n,(X 10 rfl n (lE rfl rfl rfl) (lH kr (kP (CI y rfl (λx0 y=>?_) (λx0 y=>?_)))))⟩
    ·exact kR (Wm (Wi rfl (Wa (lu (lI (kP ⟨t5,aT _,(wi0 .i64 ((wi0 .i64 e3)+1)),a9,_,(d.kB St),e4,h8,k3,rfl,k4,y⟩))))))
    exact kR (Wm (Wa (lu (lI (kP ⟨t5,aT _,T,(wi0 .i64 e3),_,(d.kB St),e4,h8,k3,h9,rfl,y⟩)))))
   refine nu (ng (ng (pM (kP (kQ (sg (Wh h8 (Wa (ln (CJ y (λk5 E W=>∃f7 o4,ST false (keys (c++[])) w W U (f7++o4)∧ml 30 kD 5 U t k5 f7) (λk5 x3=>?_) ?_))))))))))
   ·refine me (nn (λm E W=>∃i0 f8 b0 k6,ST false (keys (c++[])) w W U (f8++k6)∧E 0=t∧E 10=(.int .i64 T)∧E 13=(.int .i64 b0)∧ml 30 kD 5 U t i0 f8∧nE T m i0 b0=some k5) li ⟨a0,c,z,_,(d.kB St),e4,h9,rfl,a5,x3⟩ ?_)
    rintro m E W ⟨i0,f8,b0,k6,d,c7,l7,c0,d1,u⟩
    cases m with
    | zero=>rw [nE] at u; cases u
    | succ y2=>
     refine kQ (sg (Wh c0 (Wh l7 (Wi rfl (Wi rfl (ln (CI u rfl (λp1 u=>?_) (λp1 u=>?_))))))))
     ·refine kn (kQ (me ?_))
      replace d:=d.drew
      have n:=d.has.kB Sn
      have p:=d.has.kB (Kr Sn)
      refine sM 15 n p lj (lG 0 rfl kr (.inl rfl) rfl dc (λ_ _ h=>⟨h.1,lO (by rfl) h.2⟩) ⟨n,λ_=>p⟩ (λ_ _ _ _=>kH c7) (lG 1 rfl kr (.inl rfl) rfl dc (λ_ _ h=>⟨h.1,lO (by rfl) h.2⟩) ⟨n,λ_=>p⟩ (λ_ _ _ _=>kH c0) (lG 2 rfl kr (.inl rfl) rfl dc (λ_ _ h=>⟨h.1,lO (by rfl) h.2⟩) ⟨n,λ_=>p⟩ (λ_ _ _ _=>kH c7) (lG 3 rfl kr (.inl rfl) rfl dc (λ_ _ h=>⟨h.1,lO (by rfl) h.2⟩) ⟨n,λ_=>p⟩ (λ_ _ _ _=>kH c0) (lG 4 rfl kr (.inl rfl) rfl dc (λ_ _ h=>⟨h.1,lO (by rfl) h.2⟩) ⟨n,λ_=>p⟩ (λ_ _ _ _=>lE rfl rfl rfl) (lG 5 rfl kr (.inl rfl) rfl dc (λ_ _ h=>⟨h.1,lO (by rfl) h.2⟩) ⟨n,λ_=>p⟩ (λ_ _ _ _=>kH c7) (lG 6 rfl kr (.inl rfl) rfl dc (λ_ _ h=>⟨h.1,lO (by rfl) h.2⟩) ⟨n,λ_=>p⟩ (λ_ _ _ _=>kH c0) (lG 7 rfl kr (.inl rfl) rfl dc (λ_ _ h=>⟨h.1,lO (by rfl) h.2⟩) ⟨n,λ_=>p⟩ (λ_ _ _ _=>lE rfl rfl rfl) (bS u λi3 j5 u=>np 8 rfl kr (.inl rfl) rfl dc (λ_ _ h=>⟨h.1,lO (by rfl) h.2⟩) ⟨n,λ_=>p⟩ (mS (i:=(wi0 .i64 (b0+1))) kD.out aH aG rfl rfl d1 (kZ j5) (kY j5)) (λbt ⟨_,⟨cl,rfl,i7⟩,r3,af⟩=>lG 9 rfl kr (.inl rfl) rfl dc (λ_ _ h=>⟨h.1,lO (by rfl) h.2⟩) ⟨n,λ_=>p⟩ (λl W L hs=>have s:=(hs.2 (L.yL 15 [9] kr rfl)); kF rfl (lx (pB.hp _) (r3.mono (nZ (λb o A=>s.2 b o (Ml A)))) aZ aG)) (lG 10 rfl kr (.inl rfl) rfl dc (λ_ _ h=>⟨h.1,lO (by rfl) h.2⟩) ⟨n,λ_=>p⟩ (λ_ _ _ _=>kH c7) (lG 11 rfl kr (.inl rfl) rfl dc (λ_ _ h=>⟨h.1,lO (by rfl) h.2⟩) ⟨n,λ_=>p⟩ (λ_ _ _ _=>kH c0) (bS u λY j6 u=>?_)))))))))))))
      refine np 12 rfl kr (.inl rfl) rfl dc (λ_ _ h=>⟨h.1,lO (by rfl) h.2⟩) ⟨n,λ_=>p⟩ (mS (i:=b0) kD.out aH aG rfl rfl d1 (kZ j6) (kY j6)) (λbu ⟨_,⟨cm,rfl,i8⟩,r4,ag⟩=>lG 13 rfl kr (.inl rfl) rfl dc (λ_ _ h=>⟨h.1,lO (by rfl) h.2⟩) ⟨n,λ_=>p⟩ (λl W L hs=>have s:=(hs.2 (L.yL 15 [13] kr rfl)); kF rfl (lx (pB.hp _) (r4.mono (nZ (λb o A=>s.2 b o (Ml A)))) aZ aG)) (bS u λcw e9 u=>np 14 rfl kr (.inl rfl) rfl dc (λ_ _ h=>⟨h.1,lO (by rfl) h.2⟩) ⟨n,λ_=>p⟩ (mS (i:=b0) kD.out aH aG rfl rfl d1 (kZ e9) (kY e9)) (λbv ⟨_,⟨cn,rfl,ar⟩,an,q2⟩=>?_)))
      obtain ⟨t7,u6,rfl⟩:=i7.form
      refine XO 15 rfl (ss (x1:=i3) kT d d1 rfl rfl (kD.mk ⟨(.slice t7 i3.Kids.length u6),rfl,i7⟩) q2 (kY e9) aG (λbe bc d i5=>?_))
      have n:=d.has.kB Sn
      refine ⟨⟨n,λh=>vp kr h⟩,(bS u λcx f0 u=>np 16 rfl kr (.inl rfl) rfl dc (λ_ _ h=>⟨h.1,lO (by rfl) h.2⟩) ⟨n,λh=>vp kr h⟩ (mS (i:=(wi0 .i64 (b0+1))) kD.out aH aG rfl rfl i5 (kZ f0) (kY f0)) (λbw ⟨_,⟨co,rfl,au⟩,ao,q3⟩=>?_))⟩
      obtain ⟨t8,u7,rfl⟩:=i8.form
      refine XO 17 rfl (ss (x1:=(⟨Y.Op,Y.K,Y.kz,Y.Kids⟩:Formula)) kT d i5 rfl rfl (kD.mk ⟨(.slice t8 Y.Kids.length u7),rfl,i8⟩) q3 (kY f0) aG (λbf u1 d o9=>?_))
      have n:=d.has.kB Sn
      exact ⟨⟨n,λh=>vp kr h⟩,(lH kr (lI (kP (kR (Wh c0 (Wi rfl (Wa (ln ⟨y2,aT _,((i0.set (Int.toNat b0) i3).set (Int.toNat (wi0 .i64 (b0+1))) (⟨Y.Op,Y.K,Y.kz,Y.Kids⟩:Formula)),u1,(wi0 .i64 (b0+1)),_,(d.kB St),c7,l7,rfl,o9,u⟩))))))))⟩
     refine nu (ng (ng (pM (kP ?_))))
     have q:=sj u; subst q
     exact ⟨f8,_,(d.kB St),d1⟩
   rintro dh E W ⟨f7,o4,d,x9⟩ x2
   refine lB (lV ?_)
   have q:=sj x2; subst q
   exact px rfl ⟨_,_,_,rfl,(d.od (Kr Sn)),(lz.refl _),Lo.refl,(ST.ni d (oZ.mem (Kr Sn))),f7,rfl,rfl,x9⟩
 refine kS (Wm (Wm (Wi rfl (Wi rfl (ln (CI hm rfl (λp2 hm=>?_) (λp2 hm=>?_)))))))
 ·refine sg (Wm (Wa (lr (Wm (Wa (ln (kQ (me (nn (λm E W=>∃G N k7,ST false (keys (c++[])) w W U (c++k7)∧E 0=t∧E 2=(.int .i64 M)∧E 4=D∧E 14=(.int .i64 G)∧E 15=(.int .i64 N)∧mG a0 M f4 m G N=some r) li ⟨z,M,_,(d.kB St),rfl,rfl,rfl,rfl,rfl,hm⟩ ?_)))))))))
  rintro m E W ⟨G,N,k7,d,c8,d5,f9,d6,g0,j⟩
  let j1:=(IntKind.u64.wrap (wi0 .i64 (G+N)))
  let b8:=(Int.fdiv j1 (2 ^ min (Int.toNat 1) (IntKind.bits .u64)))
  cases m with
  | zero=>rw [mG] at j; cases j
  | succ n3=>
   refine kQ (sg (Wh d6 (Wh g0 (Wi rfl (ln (CI j rfl (λp3 j=>?_) (λp3 j=>?_)))))))
   ·refine kn (bg (Wh d6 (Wh g0 (Wi rfl (V (pc (k':=.i64) (a:=(wi0 .i64 (G+N))) dH dX rfl) (V (BO (a:=j1) (b:=1) rfl rfl dc) (V (pc (k':=.u64) (a:=(Int.fdiv j1 (2 ^ min (Int.toNat 1) (IntKind.bits .u64)))) dX dH rfl) (Wa (ln (kQ ?_))))))))))
    replace d:=d.drew
    have n:=d.has.kB (Kr Sn)
    refine lC n lj (X 0 rfl n (kH f9) (X 1 rfl n (kH c8) (X 2 rfl n (kH d5) (bS j λy8 j7 j=>XQ 3 rfl n (mS (i:=M) kD.out aH aG rfl rfl a5 (kZ j7) (kY j7)) (λbx ⟨_,⟨y4,rfl,s7⟩,r5,ah⟩=>XH 4 rfl n (λ_ s=>kF rfl (lx (pB.hp _) (r5.mono (nZ (λb o A=>s.2 b o (Ml A)))) aZ aG)) (X 5 rfl n (kH c8) (X 6 rfl n (kH rfl) (bS j λy9 j8 j=>XQ 7 rfl n (mS (i:=(wi0 .i64 b8)) kD.out aH aG rfl rfl a5 (kZ j8) (kY j8)) (λbz ⟨_,⟨y5,rfl,s8⟩,r6,ai⟩=>XH 8 rfl n (λ_ s=>kF rfl (lx (pB.hp _) (r6.mono (nZ (λb o A=>s.2 b o (Ml A)))) aZ aG)) (bS j λcg s1 j=>XE 9 rfl (pY (y8,y9) d c6 (lz.refl _) (uu.mk kT kT (kD.mk ⟨y4,rfl,s7⟩) (kD.mk ⟨y5,rfl,s8⟩) d.kG) rfl (qJ rfl rfl) s1 (λbh d=>?_))))))))))))
    have n:=d.has.kB (Kr Sn)
    refine ⟨n,(X 10 rfl n (lE rfl rfl rfl) (X 11 rfl n (nv rfl) (lH kr (kP (CI j rfl (λp4 j=>?_) (λp4 j=>?_))))))⟩
    ·exact kR (Wm (Wi rfl (Wa (lu (lI (kP ⟨n3,aT _,(wi0 .i64 ((wi0 .i64 b8)+1)),N,_,(d.kB St),c8,d5,f9,rfl,g0,j⟩))))))
    exact kR (Wm (Wa (lu (lI (kP ⟨n3,aT _,G,(wi0 .i64 b8),_,(d.kB St),c8,d5,f9,d6,rfl,j⟩)))))
   refine nu (ng (ng (pM (kP (kQ (sg (Wh d5 (Wa (ln (CJ j (λi1 E W=>∃d3 k8,ST false (keys (c++[])) w W U (d3++k8)∧ml 30 kD 5 U t i1 d3) (λi1 q7=>?_) ?_))))))))))
   ·refine me (nn (λm E W=>∃e2 d4 Q k9,ST false (keys (c++[])) w W U (d4++k9)∧E 0=t∧E 14=(.int .i64 G)∧E 17=(.int .i64 Q)∧ml 30 kD 5 U t e2 d4∧nD G m e2 Q=some i1) li ⟨a0,c,M,_,(d.kB St),c8,d6,rfl,a5,q7⟩ ?_)
    rintro m E W ⟨e2,d4,Q,k9,d,c9,l8,c1,b6,x⟩
    cases m with
    | zero=>rw [nD] at x; cases x
    | succ y3=>
     refine kQ (sg (Wh c1 (Wh l8 (Wi rfl (ln (CI x rfl (λp5 x=>?_) (λp5 x=>?_)))))))
     ·refine kn (kQ (me ?_))
      replace d:=d.drew
      have n:=d.has.kB Sn
      have p:=d.has.kB (Kr Sn)
      refine sM 15 n p lj (lG 0 rfl kr (.inl rfl) rfl dc (λ_ _ h=>⟨h.1,lO (by rfl) h.2⟩) ⟨n,λ_=>p⟩ (λ_ _ _ _=>kH c9) (lG 1 rfl kr (.inl rfl) rfl dc (λ_ _ h=>⟨h.1,lO (by rfl) h.2⟩) ⟨n,λ_=>p⟩ (λ_ _ _ _=>kH c1) (lG 2 rfl kr (.inl rfl) rfl dc (λ_ _ h=>⟨h.1,lO (by rfl) h.2⟩) ⟨n,λ_=>p⟩ (λ_ _ _ _=>kH c9) (lG 3 rfl kr (.inl rfl) rfl dc (λ_ _ h=>⟨h.1,lO (by rfl) h.2⟩) ⟨n,λ_=>p⟩ (λ_ _ _ _=>kH c1) (lG 4 rfl kr (.inl rfl) rfl dc (λ_ _ h=>⟨h.1,lO (by rfl) h.2⟩) ⟨n,λ_=>p⟩ (λ_ _ _ _=>lE rfl rfl rfl) (lG 5 rfl kr (.inl rfl) rfl dc (λ_ _ h=>⟨h.1,lO (by rfl) h.2⟩) ⟨n,λ_=>p⟩ (λ_ _ _ _=>kH c9) (lG 6 rfl kr (.inl rfl) rfl dc (λ_ _ h=>⟨h.1,lO (by rfl) h.2⟩) ⟨n,λ_=>p⟩ (λ_ _ _ _=>kH c1) (lG 7 rfl kr (.inl rfl) rfl dc (λ_ _ h=>⟨h.1,lO (by rfl) h.2⟩) ⟨n,λ_=>p⟩ (λ_ _ _ _=>lE rfl rfl rfl) (bS x λi4 j9 x=>np 8 rfl kr (.inl rfl) rfl dc (λ_ _ h=>⟨h.1,lO (by rfl) h.2⟩) ⟨n,λ_=>p⟩ (mS (i:=(wi0 .i64 (Q-1))) kD.out aH aG rfl rfl b6 (kZ j9) (kY j9)) (λca ⟨_,⟨cp,rfl,i9⟩,r7,aj⟩=>lG 9 rfl kr (.inl rfl) rfl dc (λ_ _ h=>⟨h.1,lO (by rfl) h.2⟩) ⟨n,λ_=>p⟩ (λl W L hs=>have s:=(hs.2 (L.yL 15 [9] kr rfl)); kF rfl (lx (pB.hp _) (r7.mono (nZ (λb o A=>s.2 b o (Ml A)))) aZ aG)) (lG 10 rfl kr (.inl rfl) rfl dc (λ_ _ h=>⟨h.1,lO (by rfl) h.2⟩) ⟨n,λ_=>p⟩ (λ_ _ _ _=>kH c9) (lG 11 rfl kr (.inl rfl) rfl dc (λ_ _ h=>⟨h.1,lO (by rfl) h.2⟩) ⟨n,λ_=>p⟩ (λ_ _ _ _=>kH c1) (bS x λZ k0 x=>?_)))))))))))))
      refine np 12 rfl kr (.inl rfl) rfl dc (λ_ _ h=>⟨h.1,lO (by rfl) h.2⟩) ⟨n,λ_=>p⟩ (mS (i:=Q) kD.out aH aG rfl rfl b6 (kZ k0) (kY k0)) (λcb ⟨_,⟨cq,rfl,j0⟩,r8,ak⟩=>lG 13 rfl kr (.inl rfl) rfl dc (λ_ _ h=>⟨h.1,lO (by rfl) h.2⟩) ⟨n,λ_=>p⟩ (λl W L hs=>have s:=(hs.2 (L.yL 15 [13] kr rfl)); kF rfl (lx (pB.hp _) (r8.mono (nZ (λb o A=>s.2 b o (Ml A)))) aZ aG)) (bS x λcy f1 x=>np 14 rfl kr (.inl rfl) rfl dc (λ_ _ h=>⟨h.1,lO (by rfl) h.2⟩) ⟨n,λ_=>p⟩ (mS (i:=Q) kD.out aH aG rfl rfl b6 (kZ f1) (kY f1)) (λcc ⟨_,⟨cr,rfl,av⟩,ap,q4⟩=>?_)))
      obtain ⟨t9,u8,rfl⟩:=i9.form
      refine XO 15 rfl (ss (x1:=i4) kT d b6 rfl rfl (kD.mk ⟨(.slice t9 i4.Kids.length u8),rfl,i9⟩) q4 (kY f1) aG (λbi bd d i6=>?_))
      have n:=d.has.kB Sn
      refine ⟨⟨n,λh=>vp kr h⟩,(bS x λcz f2 x=>np 16 rfl kr (.inl rfl) rfl dc (λ_ _ h=>⟨h.1,lO (by rfl) h.2⟩) ⟨n,λh=>vp kr h⟩ (mS (i:=(wi0 .i64 (Q-1))) kD.out aH aG rfl rfl i6 (kZ f2) (kY f2)) (λcd ⟨_,⟨cs,rfl,aw⟩,aq,q5⟩=>?_))⟩
      obtain ⟨u0,u9,rfl⟩:=j0.form
      refine XO 17 rfl (ss (x1:=(⟨Z.Op,Z.K,Z.kz,Z.Kids⟩:Formula)) kT d i6 rfl rfl (kD.mk ⟨(.slice u0 Z.Kids.length u9),rfl,j0⟩) q5 (kY f2) aG (λbj u2 d p0=>?_))
      have n:=d.has.kB Sn
      exact ⟨⟨n,λh=>vp kr h⟩,(lH kr (lI (kP (kR (Wh c1 (Wi rfl (Wa (ln ⟨y3,aT _,((e2.set (Int.toNat Q) i4).set (Int.toNat (wi0 .i64 (Q-1))) (⟨Z.Op,Z.K,Z.kz,Z.Kids⟩:Formula)),u2,(wi0 .i64 (Q-1)),_,(d.kB St),c9,l8,rfl,p0,x⟩))))))))⟩
     refine nu (ng (ng (pM (kP ?_))))
     have q:=sj x; subst q
     exact ⟨d4,_,(d.kB St),b6⟩
   rintro bs E W ⟨d3,k8,d,s9⟩ q6
   refine lB (lV ?_)
   have q:=sj q6; subst q
   exact px rfl ⟨_,_,_,rfl,(d.od (Kr Sn)),(lz.refl _),Lo.refl,(ST.ni d (oZ.mem (Kr Sn))),d3,rfl,rfl,s9⟩
 let g5:=(IntKind.u64.wrap (wi0 .i64 (z+B)))
 refine kg (Wm (Wm (Wi rfl (V (pc (k':=.i64) (a:=(wi0 .i64 (z+B))) dH dX rfl) (V (BO (a:=g5) (b:=1) rfl rfl dc) (V (pc (k':=.u64) (a:=(Int.fdiv g5 (2 ^ min (Int.toNat 1) (IntKind.bits .u64)))) dX dH rfl) (Wa (lr ?_))))))))
 let R:=(wi0 .i64 (Int.fdiv g5 (2 ^ min (Int.toNat 1) (IntKind.bits .u64))))
 let e5:=(wi0 .i64 (R+M))
 refine Wm (Wm (Wi rfl (Wa (lr (Wa (Wa (ln (kQ (CJ hm (λi2 E W=>∃l0,ST false (keys (c++[])) w W U (c++l0)∧E 0=t∧E 1=(.int .i64 z)∧E 2=(.int .i64 M)∧E 3=(.int .i64 B)∧E 4=D∧E 18=(.int .i64 R)∧E 19=(.int .i64 e5)∧E 20=(.int .i64 i2.1)∧E 21=(.int .i64 i2.2)) (λi2 b5=>?_) ?_)))))))))
 ·refine sg (Wm (Wm (Wi rfl (ln (CI b5 rfl (λq1 b5=>?_) (λq1 b5=>?_))))))
  ·refine sg (Wm (Wm (Wi rfl (Wa (ln (kR (Wm (Wa (ln ?_)))))))))
   have q:=sj b5; subst q
   exact ⟨_,(d.kB St),rfl,rfl,rfl,rfl,rfl,rfl,rfl,rfl,rfl⟩
  refine sg (Wm (Wa (ln (kR (Wm (Wa (ln ?_)))))))
  have q:=sj b5; subst q
  exact ⟨_,(d.kB St),rfl,rfl,rfl,rfl,rfl,rfl,rfl,rfl,rfl⟩
 rintro ⟨z0,z1⟩ E W ⟨l0,d,v0,v1,v2,v3,v4,v5,l9,v6,v7⟩ q8
 refine sg (Wh l9 (Wi rfl (Wa (ln (kQ (me (nn (λm E W=>∃g K l1,ST false (keys (c++[])) w W U (c++l1)∧E 0=t∧E 1=(.int .i64 z)∧E 2=(.int .i64 M)∧E 3=(.int .i64 B)∧E 4=D∧E 18=(.int .i64 R)∧E 19=(.int .i64 e5)∧E 20=(.int .i64 g)∧E 21=(.int .i64 K)∧E 22=(.int .i64 (wi0 .i64 (e5-1)))∧mg a0 z B M f4 t6 m g K=some r) li ⟨z0,z1,_,(d.kB St),v0,v1,v2,v3,v4,v5,l9,v6,v7,rfl,q8⟩ ?_)))))))
 rintro m E W ⟨g,K,l1,d,c2,d7,c3,d8,d0,d9,g1,b1,g2,g3,k⟩
 let g6:=(IntKind.u64.wrap (wi0 .i64 (g+K)))
 let a3:=(Int.fdiv g6 (2 ^ min (Int.toNat 1) (IntKind.bits .u64)))
 let j2:=(wi0 .i64 a3)
 let a2:=(wi0 .i64 (e5-g))
 cases m with
 | zero=>rw [mg] at k; cases k
 | succ n4=>
  refine kQ (sg (Wh b1 (Wh g2 (Wi rfl (ln (CI k rfl (λp6 k=>?_) (λp6 k=>?_)))))))
  ·refine kn (bg (Wh b1 (Wh g2 (Wi rfl (V (pc (k':=.i64) (a:=(wi0 .i64 (g+K))) dH dX rfl) (V (BO (a:=g6) (b:=1) rfl rfl dc) (V (pc (k':=.u64) (a:=(Int.fdiv g6 (2 ^ min (Int.toNat 1) (IntKind.bits .u64)))) dX dH rfl) (Wa (ln (kQ ?_))))))))))
   replace d:=d.drew
   have n:=d.has.kB (Kr Sn)
   refine lC n lj (X 0 rfl n (kH d0) (X 1 rfl n (kH c2) (X 2 rfl n (kH g3) (X 3 rfl n (kH rfl) (X 4 rfl n (lE rfl rfl rfl) (bS k λz2 k1 k=>XQ 5 rfl n (mS (i:=(wi0 .i64 ((wi0 .i64 (e5-1))-j2))) kD.out aH aG rfl rfl a5 (kZ k1) (kY k1)) (λce ⟨_,⟨y6,rfl,t0⟩,r9,al⟩=>XH 6 rfl n (λ_ s=>kF rfl (lx (pB.hp _) (r9.mono (nZ (λb o A=>s.2 b o (Ml A)))) aZ aG)) (X 7 rfl n (kH c2) (X 8 rfl n (kH rfl) (bS k λz3 k2 k=>XQ 9 rfl n (mS (i:=(wi0 .i64 a3)) kD.out aH aG rfl rfl a5 (kZ k2) (kY k2)) (λcf ⟨_,⟨y7,rfl,t1⟩,s0,am⟩=>XH 10 rfl n (λ_ s=>kF rfl (lx (pB.hp _) (s0.mono (nZ (λb o A=>s.2 b o (Ml A)))) aZ aG)) (bS k λch s2 k=>?_))))))))))))
   refine XE 11 rfl (pY (z2,z3) d c6 (lz.refl _) (uu.mk kT kT (kD.mk ⟨y6,rfl,t0⟩) (kD.mk ⟨y7,rfl,t1⟩) d.kG) rfl (qJ rfl rfl) s2 (λbk d=>?_))
   have n:=d.has.kB (Kr Sn)
   refine ⟨n,(X 12 rfl n (lE rfl rfl rfl) (X 13 rfl n (nv rfl) (lH kr (kP (CI k rfl (λp7 k=>?_) (λp7 k=>?_))))))⟩
   ·exact kR (Wm (Wi rfl (Wa (lu (lI (kP ⟨n4,aT _,(wi0 .i64 (j2+1)),K,_,(d.kB St),c2,d7,c3,d8,d0,d9,g1,rfl,g2,g3,k⟩))))))
   exact kR (Wm (Wa (lu (lI (kP ⟨n4,aT _,g,j2,_,(d.kB St),c2,d7,c3,d8,d0,d9,g1,b1,rfl,g3,k⟩)))))
  refine nu (ng (ng (pM (kP (sg (Wh g1 (Wh b1 (Wi rfl (Wa (ln (kQ (CJ k (λn8 E W=>∃b7 a4 l2,lz U a4∧Lo (keys (c++[])) w U a4∧ST false (keys (c++[])) w W a4 (b7++l2)∧E 0=t∧E 1=(.int .i64 z)∧E 3=(.int .i64 B)∧E 4=D∧E 18=(.int .i64 R)∧E 20=(.int .i64 g)∧E 24=(.int .i64 a2)∧ml 30 kD 5 a4 t n8 b7) (λn8 r2=>?_) ?_))))))))))))
  ·refine sg (Wh b1 (Wh c3 (Wi rfl (Wm (LJ r2 (λn9 E W=>∃l6,ST false (keys (c++[])) w W U (c++l6)∧E 0=t∧E 1=(.int .i64 z)∧E 2=(.int .i64 M)∧E 3=(.int .i64 B)∧E 4=D∧E 18=(.int .i64 R)∧E 20=(.int .i64 g)∧E 24=(.int .i64 a2)∧E 185=(.bool n9)) 4 ?_ (λn9 b4 f6=>?_))))))
   ·rintro de E W ⟨l6,d,h4,m8,w7,m9,h5,n0,h6,h7,w8⟩ a8
    refine ln (CI a8 w8 (λq0 a8=>?_) (λq0 a8=>?_))
    ·refine kR (Wh h4 (Wh h6 (Wh w7 (Wh h7 (Wh h5 (bS a8 λck s5 a8=>?_))))))
     refine VE (eD d (Cr Qz Cn) call389 (λhh=>nN.mK (zJ t a0 c g M a2 D f4 _ _ hh a5 (c6.mono (lz.refl _)) s5)) ?_)
     rintro _ cv z5 ba d o2 bl ⟨u5,e8,rfl,t4⟩
     obtain rfl:=e8.symm
     replace d:=d.perm (Tr Tn)
     refine ln ?_
     have q:=sj a8; subst q
     exact ⟨u5,z5,_,o2,bl,(d.kB St),h4,m8,m9,h5,n0,h6,h7,t4⟩
    refine kn ?_
    have q:=sj a8; subst q
    exact ⟨c,U,_,(lz.refl _),Lo.refl,(d.kB St),h4,m8,m9,h5,n0,h6,h7,a5⟩
   refine bC b4 (λJ b4=>?_) (λJ b4=>?_)
   ·refine ug J (kH c3) (ug J (kH rfl) (ug J (lE rfl rfl rfl) (V (lb (cB J) rfl) ?_)))
    have q:=sj b4; subst q
    exact f6 _ _ ⟨_,(d.kB St),c2,d7,c3,d8,d0,d9,b1,rfl,rfl⟩
   refine un J (un J (un J (V (lf (cB J) rfl) ?_)))
   have q:=sj b4; subst q
   exact f6 _ _ ⟨_,(d.kB St),c2,d7,c3,d8,d0,d9,b1,rfl,rfl⟩
  rintro y0 E W ⟨b7,a4,l2,c4,O,d,m0,g4,m1,m2,g7,e0,m3,j3⟩ q9
  refine kQ (CJ q9 (λn6 E W=>∃b9 c5 l3,lz a4 c5∧Lo (keys (c++[])) w a4 c5∧ST false (keys (c++[])) w W c5 (b9++l3)∧E 0=t∧E 3=(.int .i64 B)∧E 4=D∧E 18=(.int .i64 R)∧E 24=(.int .i64 a2)∧ml 30 kD 5 c5 t n6 b9) (λn6 r1=>?_) ?_)
  ·refine sg (Wh g4 (Wh e0 (Wi rfl (Wm (LJ r1 (λn7 E W=>∃l5,ST false (keys (c++[])) w W a4 (b7++l5)∧E 0=t∧E 1=(.int .i64 z)∧E 3=(.int .i64 B)∧E 4=D∧E 18=(.int .i64 R)∧E 20=(.int .i64 g)∧E 24=(.int .i64 a2)∧E 199=(.bool n7)) 4 ?_ (λn7 b3 f5=>?_))))))
   ·rintro db E W ⟨l5,d,h1,w4,m6,h2,h3,w5,m7,w6⟩ a7
    refine ln (CI a7 w6 (λp9 a7=>?_) (λp9 a7=>?_))
    ·refine kR (Wh h1 (Wh w4 (Wh w5 (Wh h3 (Wh h2 (bS a7 λcj s4 a7=>?_))))))
     refine VE (eD d (Cr Qz Cn) call384 (λhh=>(s6 t y0 b7 z g R D f4 _ _ hh j3 (c6.mono c4) s4)) ?_)
     rintro _ cu z4 az d o1 aE ⟨u4,e7,rfl,t3⟩
     obtain rfl:=e7.symm
     replace d:=d.perm (Tr Tn)
     refine ln ?_
     have q:=sj a7; subst q
     exact ⟨u4,z4,_,o1,aE,(d.kB St),h1,m6,h2,h3,m7,t3⟩
    refine kn ?_
    have q:=sj a7; subst q
    exact ⟨b7,a4,_,(lz.refl _),Lo.refl,(d.kB St),h1,m6,h2,h3,m7,j3⟩
   refine bC b3 (λI b3=>?_) (λI b3=>?_)
   ·refine ug I (kH e0) (ug I (kH g7) (ug I (lE rfl rfl rfl) (V (lb (cB I) rfl) ?_)))
    have q:=sj b3; subst q
    exact f5 _ _ ⟨_,(d.kB St),m0,g4,m1,m2,g7,e0,m3,rfl⟩
   refine un I (un I (un I (V (lf (cB I) rfl) ?_)))
   have q:=sj b3; subst q
   exact f5 _ _ ⟨_,(d.kB St),m0,g4,m1,m2,g7,e0,m3,rfl⟩
  rintro y1 E W ⟨b9,c5,l3,d2,P,d,m4,g8,m5,g9,e1,j4⟩ r0
  refine sg (Wh g9 (Wh e1 (Wi rfl (Wm (LJ r0 (λn5 E W=>∃l4,ST false (keys (c++[])) w W c5 (b9++l4)∧E 0=t∧E 3=(.int .i64 B)∧E 4=D∧E 18=(.int .i64 R)∧E 24=(.int .i64 a2)∧E 213=(.bool n5)) 4 ?_ (λn5 b2 f3=>?_))))))
  ·rintro da E W ⟨l4,d,v8,v9,w0,w1,w2,w3⟩ a6
   refine ln (CI a6 w3 (λp8 a6=>?_) (λp8 a6=>?_))
   ·refine kR (Wh v8 (Wh w1 (Wh w2 (Wh v9 (Wh w0 (bS a6 λci s3 a6=>?_))))))
    refine VE (eD d (Cr Qz Cn) call384 (λhh=>(s6 t y1 b9 R a2 B D f4 _ _ hh j4 (c6.mono (c4.trans d2)) s3)) ?_)
    rintro _ ct df ay d o0 ad ⟨u3,e6,rfl,t2⟩
    obtain rfl:=e6.symm
    replace d:=d.perm (Tr Tn)
    refine lu (qK ?_)
    have q:=sj a6; subst q
    exact px rfl ⟨_,_,_,rfl,(d.od (Kr Sn)),((c4.trans d2).trans o0),((O.trans P).trans ad),(ST.ni d (oZ.mem (Kr Sn))),u3,rfl,rfl,t2⟩
   refine mM (qK ?_)
   have q:=sj a6; subst q
   exact px rfl ⟨_,_,_,rfl,(d.od (Kr Sn)),(c4.trans d2),(O.trans P),(ST.ni d (oZ.mem (Kr Sn))),b9,rfl,rfl,j4⟩
  refine bC b2 (λH b2=>?_) (λH b2=>?_)
  ·refine ug H (kH e1) (ug H (kH g8) (ug H (lE rfl rfl rfl) (V (lb (cB H) rfl) ?_)))
   have q:=sj b2; subst q
   exact f3 _ _ ⟨_,(d.kB St),m4,g8,m5,g9,e1,rfl⟩
  refine un H (un H (un H (V (lf (cB H) rfl) ?_)))
  have q:=sj b2; subst q
  exact f3 _ _ ⟨_,(d.kB St),m4,g8,m5,g9,e1,rfl⟩
theorem rF:∀(n:Nat) (c:Value) (k:List Formula) (a:LO) (t:Int) (u:Int) (x:Int) (g:Value) (y:(Formula×Formula)→Option Int) (r:List Formula) (w:World) {i:lF} (H:pe i (a++[]) w) (B:ml 30 kD 5 i c k a) (D:ud pg0 g i (uu kD kD) (λ(r:Int)=>(.int .i64 r)) y) (_:mR n k t u x y=some r),
  nN false pg0 384 [c,(.int .i64 t),(.int .i64 u),(.int .i64 x),g] w i (a++[]) (λv z G=>∃j,v=(.tuple #[])∧z=(j++[])∧ml 30 kD 5 G c r j)
 | 0=>by intros; rename_i h; simp only [mR] at h; cases h
 | n+1=>xz (mR n) (rF n)
theorem Ac (a:Value) (a0:List Formula) (c:LO) (Q:Int) (x:Value) (f2:(Formula×Formula)→Option Int) (r:List Formula) (w:World) {μ0:lF} (h0:pe μ0 (c++[]) w) (k4:ml 30 kD 5 μ0 a a0 c) (c7:ud pg0 x μ0 (uu kD kD) (λ(r:Int)=>(.int .i64 r)) f2) (hm:sy a0 Q f2=some r) :
  nN false pg0 375 [a,(.int .i64 Q),x] w μ0 (c++[]) (λv L1 μ1=>∃S1,v=(.tuple #[])∧L1=(S1++[])∧ml 30 kD 5 μ1 a r S1):=by
 refine xH h0 63 func375 rfl (λd=>sg (Wa (lr (Wm (Wa (Wa (ln (kQ (me (nn (λm E W=>∃d4 d0 d5 b1 d6 f1,lz μ0 d6∧Lo (keys (c++[])) w μ0 d6∧ST false (keys (c++[])) w W d6 (d0++f1)∧E 0=a∧E 1=(.int .i64 Q)∧E 2=x∧E 6=(.int .i64 20)∧E 7=(.int .i64 d5)∧E 8=(.int .i64 b1)∧ml 30 kD 5 d6 a d4 d0∧ns Q f2 m d4 d5 b1=some r) li ⟨a0,c,0,20,μ0,_,(lz.refl _),Lo.refl,(d.kB St),rfl,rfl,rfl,rfl,rfl,rfl,k4,hm⟩ ?_))))))))))
 rintro m E W ⟨d4,d0,d5,b1,d6,f1,z,q,d,b4,b5,b6,d7,f4,b7,h1,i⟩
 cases m with
 | zero=>rw [ns] at i; cases i
 | succ k5=>
  refine kQ (sg (Wh b7 (Wh b5 (Wi rfl (ln (CI i rfl (λi4 i=>?_) (λi4 i=>?_)))))))
  ·refine kn (bg (Wh b4 (Wh f4 (Wh b7 (Wh b6 (bS i λk6 i7 i=>?_))))))
   refine VE (eD d (Cr Qz Cn) call383 (λP=>(tI a d4 d0 d5 b1 x f2 _ _ P h1 (c7.mono z) i7)) ?_)
   rintro _ m4 k8 l8 d g0 R ⟨k1,c8,rfl,j0⟩
   obtain rfl:=c8.symm
   replace d:=d.perm (Tr Tn)
   refine lr (Wh b7 (Wa (ln (kR (Wh b7 (Wh d7 (Wi rfl (Wa (lu (lI ?_))))))))))
   exact kP ⟨k5,aT _,k6,k1,b1,(wi0 .i64 (b1+20)),k8,_,(z.trans g0),(q.trans R),(d.kB St),b4,b5,b6,d7,rfl,rfl,j0,i⟩
  refine nu (ng (ng (pM (kP (sg (Wh b4 (Wh f4 (Wh b5 (Wh b6 (bS i λk7 i8 i=>?_))))))))))
  refine VE (eD d (Cr Qz Cn) call383 (λP=>(tI a d4 d0 d5 Q x f2 _ _ P h1 (c7.mono z) i8)) ?_)
  rintro _ m5 a8 l9 d a5 a1 ⟨k2,c9,rfl,j3⟩
  obtain rfl:=c9.symm
  replace d:=d.perm (Tr Tn)
  refine ln (rZ (CJ i (λd8 E W=>∃b2 a9 f3,lz a8 a9∧Lo (keys (c++[])) w a8 a9∧ST false (keys (c++[])) w W a9 (b2++f3)∧ml 30 kD 5 a9 a d8 b2) (λd8 i6=>?_) ?_))
  ·refine me (nn (λm E W=>∃a2 I j k e0,lz a8 k∧Lo (keys (c++[])) w a8 k∧ST false (keys (c++[])) w W k (I++e0)∧E 0=a∧E 1=(.int .i64 Q)∧E 2=x∧E 6=(.int .i64 j)∧ml 30 kD 5 k a a2 I∧nr Q f2 m a2 j=some d8) li ⟨k7,k2,20,a8,_,(lz.refl _),Lo.refl,(d.kB St),b4,b5,b6,d7,j3,i6⟩ ?_)
   rintro m E W ⟨a2,I,j,k,e0,B,n,d,h6,e4,h7,b3,d1,t⟩
   cases m with
   | zero=>rw [nr] at t; cases t
   | succ j6=>
    refine kQ (sg (Wh b3 (Wh e4 (Wi rfl (ln (CI t rfl (λf7 t=>?_) (λf7 t=>?_)))))))
    ·refine kn (bg (Wh b3 (Wi rfl (Wa (Wa (ln (kQ (CJ t (λa4 E W=>∃J y e1,lz k y∧Lo (keys (c++[])) w k y∧ST false (keys (c++[])) w W y (J++e1)∧E 0=a∧E 1=(.int .i64 Q)∧E 2=x∧E 6=(.int .i64 j)∧E 7=(.int .i64 a4.2)∧ml 30 kD 5 y a a4.1 J) (λa4 g4=>?_) ?_))))))))
     ·refine me (nn (λm E W=>∃a3 K M D H e3,lz k H∧Lo (keys (c++[])) w k H∧ST false (keys (c++[])) w W H (K++e3)∧E 0=a∧E 1=(.int .i64 Q)∧E 2=x∧E 6=(.int .i64 j)∧E 7=(.int .i64 M)∧E 8=(.int .i64 D)∧ml 30 kD 5 H a a3 K∧nK Q j f2 m a3 M D=some a4) li ⟨a2,I,0,(wi0 .i64 (2*j)),k,_,(lz.refl _),Lo.refl,(d.kB St),h6,e4,h7,b3,rfl,rfl,d1,g4⟩ ?_)
      rintro m E W ⟨a3,K,M,D,H,e3,N,p,d,c2,c3,c4,Y,c5,Z,d3,g⟩
      cases m with
      | zero=>rw [nK] at g; cases g
      | succ j7=>
       refine kQ (sg (Wh Z (Wh c3 (Wi rfl (ln (CI g rfl (λf9 g=>?_) (λf9 g=>?_)))))))
       ·refine kn (bg (Wh c2 (Wh c5 (Wh c5 (Wh Y (Wi rfl (Wh Z (Wh c4 (bS g λj8 g8 g=>?_)))))))))
        refine VE (eD d (Cr Qz Cn) call384 (λP=>((rF li) a a3 K M (wi0 .i64 (M+j)) D x f2 _ _ P d3 (c7.mono (((z.trans a5).trans B).trans N)) g8)) ?_)
        rintro _ l6 k0 l1 d f0 O ⟨h5,a7,rfl,h3⟩
        obtain rfl:=a7.symm
        replace d:=d.perm (Tr Tn)
        refine lr (Wh Z (Wa (ln (kR (Wh Z (Wh Y (Wi rfl (Wi rfl (Wa (lu ?_))))))))))
        exact lI (kP ⟨j7,aT _,j8,h5,D,(wi0 .i64 (D+(wi0 .i64 (2*j)))),k0,_,(N.trans f0),(p.trans O),(d.kB St),c2,c3,c4,Y,rfl,rfl,h3,g⟩)
       refine nu (ng (ng (pM (kP ?_))))
       obtain rfl:=sj g
       exact ⟨K,H,_,N,p,(d.kB St),c2,c3,c4,Y,c5,d3⟩
     rintro ⟨j4,e7⟩ E W ⟨J,y,e1,b0,s,d,b9,U,c0,c1,e5,d2⟩ g2
     refine kQ (CJ g2 (λe6 E W=>∃T G e2,lz y G∧Lo (keys (c++[])) w y G∧ST false (keys (c++[])) w W G (T++e2)∧E 0=a∧E 1=(.int .i64 Q)∧E 2=x∧E 6=(.int .i64 j)∧ml 30 kD 5 G a e6 T) (λe6 u=>?_) ?_)
     ·refine sg (Wh e5 (Wh c1 (Wi rfl (Wa (lr (Wm (Wh U (Wi rfl (ln ?_)))))))))
      refine CI u rfl (λf8 u=>?_) (λf8 u=>?_)
      ·refine kR (Wh b9 (Wh e5 (Wm (Wh U (Wh c0 (bS u λl4 g7 u=>?_))))))
       refine VE (eD d (Cr Qz Cn) call384 (λP=>((rF li) a j4 J e7 (wi0 .i64 (e7+j)) Q x f2 _ _ P d2 (c7.mono (((z.trans a5).trans B).trans b0)) g7)) ?_)
       rintro _ l5 j9 l0 d e9 L ⟨h4,a6,rfl,h2⟩
       obtain rfl:=a6.symm
       replace d:=d.perm (Tr Tn)
       refine ln ?_
       obtain rfl:=sj u
       exact ⟨h4,j9,_,e9,L,(d.kB St),b9,U,c0,c1,h2⟩
      refine kn ?_
      obtain rfl:=sj u
      exact ⟨J,y,_,(lz.refl _),Lo.refl,(d.kB St),b9,U,c0,c1,d2⟩
     rintro j5 E W ⟨T,G,e2,e8,A,d,h8,h9,i0,i1,g9⟩ g3
     exact kR (Wh i1 (Wi rfl (Wa (lu (lI (kP ⟨j6,aT _,j5,T,(wi0 .i64 (j*2)),G,_,((B.trans b0).trans e8),((n.trans s).trans A),(d.kB St),h8,h9,i0,rfl,g9,g3⟩))))))
    refine nu (ng (ng (pM (kP ?_))))
    obtain rfl:=sj t
    exact ⟨I,k,_,B,n,(d.kB St),d1⟩
  rintro m3 E W ⟨b2,a9,f3,g1,aa,d,i9⟩ i5
  refine qK ?_
  obtain rfl:=sj i5
  exact px rfl ⟨_,_,_,rfl,(d.od (Kr Sn)),((z.trans a5).trans g1),((q.trans a1).trans aa),(ST.ni d (oZ.mem (Kr Sn))),b2,rfl,rfl,i9⟩
theorem zB (c:Value) (k:List Formula) (a:LO) (i:Value) (u:(Formula×Formula)→Option Int) (r:List Formula) (w:World) {t:lF} (J:pe t (a++[]) w) (j:ml 30 kD 5 t c k a) (x:ud pg0 i t (uu kD kD) (λ(r:Int)=>(.int .i64 r)) u) (hm:qv k u=some r) :
  nN false pg0 352 [c,i] w t (a++[]) (λv I K=>∃B,v=(.tuple #[])∧I=(B++[])∧ml 30 kD 5 K c r B):=by
 refine xH J 9 func352 rfl (λd=>kR (Wm (Wm (V (wA aH rfl j) (Wm (bS hm λQ H hm=>?_))))))
 refine VE (eD d (Cr Qz Cn) call375 (λp=>(Ac c k a (k.length:Int) i u _ _ p j (x.mono (lz.refl _)) H)) ?_)
 rintro _ T U M d y n ⟨D,g,rfl,z⟩
 obtain rfl:=g.symm
 replace d:=d.perm (Tr Tn)
 refine lu (qK ?_)
 obtain rfl:=sj hm
 exact px rfl ⟨_,_,_,rfl,(d.od (Kr Sn)),y,n,(ST.ni d (oZ.mem (Kr Sn))),D,rfl,rfl,z⟩
theorem EY (P:(List Int)→Formula→Option (List Int)) (f2:∀(a:Nat) (k:Value) (B:List Int) (g:LO) (j:Formula) (u:Value) (r:List Int) (w:World) {μ0:lF} (h0:pe μ0 ((a,Ob #[k] 215)::(g++[])) w) (T:lm 5 (lP .u8) 1 k B g) (t:Sl kD 5 μ0 u j.Kids),P B j=some r→mz false pg0 390 [(.pointer (some ⟨a,0,none⟩)),(.agg #[(.int .i64 j.Op),(.int .i64 j.K),(.string j.kz.kA),(.string j.kz.Word),u])] w ((a,Ob #[k] 215)::(g++[])) (λv L1 W'=>∃q S2,v=(.tuple #[])∧L1=((a,Ob #[q] 215)::(S2++[]))∧lm 5 (lP .u8) 1 q r S2)) (a:Nat) (k:Value) (B:List Int) (g:LO) (j:Formula) (u:Value) (r:List Int) (w:World) {μ0:lF} (h0:pe μ0 ((a,Ob #[k] 215)::(g++[])) w) (T:lm 5 (lP .u8) 1 k B g) (t:Sl kD 5 μ0 u j.Kids) (hm:wG P B j=some r) :
  mz false pg0 390 [(.pointer (some ⟨a,0,none⟩)),(.agg #[(.int .i64 j.Op),(.int .i64 j.K),(.string j.kz.kA),(.string j.kz.Word),u])] w ((a,Ob #[k] 215)::(g++[])) (λv L1 W'=>∃q S2,v=(.tuple #[])∧L1=((a,Ob #[q] 215)::(S2++[]))∧lm 5 (lP .u8) 1 q r S2):=by
 let b0:=((a,Ob #[k] 215)::(g++[]))
 refine wM h0 40 func390 rfl (λd=>sg ?_)
 obtain ⟨A1,c2,rfl⟩:=t.form
 refine VE (ly d rfl (λW4 b3 d=>lr (Wm (Wf qt (VB d Mh rfl rfl bX (bS hm λr5 g8 hm=>?_))))))
 refine VE (eM d (Cb (Pb Pz) (Cr (Qb Qz) Cn)) call170 (λp _=>mz.mK (sX a k B g j.Op _ _ p T g8)) ?_)
 rintro _ j8 s j0 d e9 af n ⟨R,a9,a2,rfl,a5⟩
 obtain rfl:=a2.symm
 replace d:=d.perm (Tb (Tr Tn))
 refine lS (Wf qt (VB d (Mt (Ma Mh)) rfl rfl bX (Wi rfl (ln (CI hm rfl (λe8 hm=>?_) (λe8 hm=>?_))))))
 ·refine sg (Wm (Wf ux (VA d (Mt (Ma Mh)) (kN j.kz) bI aP (bS hm λj7 f0 hm=>?_))))
  refine VE (eM d (Cb Pz (Cr Qz Cn)) call212 (λp _=>mz.mK (wq a R r5.2 a9 j.kz _ _ p a5 f0)) ?_)
  rintro _ j9 k1 j3 d h6 ag n ⟨h3,g2,a3,rfl,f4⟩
  obtain rfl:=a3.symm
  replace d:=d.perm (Tb (Tr Tn))
  refine ln ?_
  replace d:=d.kB (Kb (Kr (Db St)))
  refine lB (lV ?_)
  obtain rfl:=sj hm
  exact px rfl ⟨_,_,rfl,(d.od (Kb (Kr Sn))),h3,g2,rfl,rfl,f4⟩
 refine kn (kQ (CJ hm (λb5 E W=>∃L A c0 d6,lz s c0∧ST false (keys b0) w W c0 ((a,Ob #[L] 215)::((b3,Ol (C2 j.Op j.K j.kz.kA j.kz.Word A1 j.Kids.length c2) 30)::(A++d6)))∧E 0=(.pointer (some ⟨a,0,none⟩))∧E 3=(.pointer (some ⟨b3,0,none⟩))∧lm 5 (lP .u8) 1 L b5 A) (λb5 y=>?_) ?_))
 ·refine sg (Wf qt (VB d (Mt (Ma Mh)) rfl rfl bX (Wi rfl (ln (CI y rfl (λc4 y=>?_) (λc4 y=>?_))))))
  ·refine kR (Wm (Wf uA (VB d (Mt (Ma Mh)) rfl rfl bX (bS y λi6 d0 y=>?_))))
   refine VE (eM d (Cb Pz (Cr Qz Cn)) call170 (λp _=>mz.mK (sX a R r5.2 a9 j.K _ _ p a5 d0)) ?_)
   rintro _ i9 g1 h9 d b2 ad n ⟨f9,e3,N,rfl,d5⟩
   obtain rfl:=N.symm
   replace d:=d.perm (Tb (Tr Tn))
   refine ln ?_
   obtain rfl:=sj y
   exact ⟨f9,e3,g1,_,b2,(d.kB (Kb (Sb (Pr Pz) St))),rfl,rfl,d5⟩
  refine kn ?_
  obtain rfl:=sj y
  exact ⟨R,a9,s,_,(lz.refl _),(d.kB (Kb (Sb (Pr Pz) St))),rfl,rfl,a5⟩
 rintro g9 E W ⟨L,A,c0,d6,c6,d,d7,d8,f3⟩ a0
 refine sg (Wh d7 (V (kJ pS d8) (VB d (Mt Mh) rfl rfl eZ (V (mx aH rfl t) (bS a0 λh2 f1 a0=>?_)))))
 refine VE (eM d (Cb Pz (Cr (Qb Qz) Cn)) call170 (λp _=>mz.mK (sX a L g9 A (j.Kids.length:Int) _ _ p f3 f1)) ?_)
 rintro _ k0 d9 j4 d c7 ah n ⟨h4,g3,a4,rfl,f5⟩
 obtain rfl:=a4.symm
 replace d:=d.perm (Tb (Tr Tn))
 refine lr (V (kJ pS d8) (VB d (Mt (Ma Mh)) rfl rfl eZ (V (mx aH rfl t) (Wm (ln ?_)))))
 replace d:=d.kB (Kb (Kr (Db St)))
 refine rZ (mj (λi E W=>∃D H z Q U,(E 32= .int .i64 (i:Nat)∧E 31= .int .i64 (j.Kids.length:Nat))∧lz d9 Q∧ST false (keys b0) w W Q ((a,Ob #[D] 215)::(z++U))∧E 0=(.pointer (some ⟨a,0,none⟩))∧E 30=(.slice A1 j.Kids.length c2)∧lm 5 (lP .u8) 1 D H z∧rV P (j.Kids.drop i) H=some r) j.Kids.length t.len ⟨h4,h2.2,g3,d9,_,⟨rfl,rfl⟩,(lz.refl _),(d.kB St),d7,rfl,f5,a0⟩ dc dc dc (λ_ _ _ h=>by obtain ⟨_,_,_,_,_,aa,_⟩:=h; exact aa) ?_ ?_)
 ·rintro f6 E W c5 ⟨D,H,z,Q,U,⟨eI,eN⟩,G,d,Y,Z,K,x⟩
  obtain ⟨c,h7,d2,d1,d3⟩:=lX c5
  rw [d2] at x
  refine bg (VQ (mo (i:=(f6:Int)) (x0:=c) kD.out aH aG Z eI (t.mono kT.mono (((e9.trans c6).trans c7).trans G)) (aM _) d1) (λi5 ⟨_,⟨i7,rfl,a7⟩,c8⟩=>V (kF rfl (lx d.has c8 aZ aG)) (VE (lT d bG (λi0 i4 d=>?_)))))
  obtain ⟨I,J,rfl⟩:=a7.form
  let O:=(C2 c.Op c.K c.kz.kA c.kz.Word I c.Kids.length J)
  refine VO (lp (.agg O.toArray) (O.toArray) d rfl rfl aG oc nb rfl (λi1 d=>ln (kR (Wh Y (VA d Mh O aZ aG (bS x λf7 c9 x=>?_))))))
  refine VE (eM d (Cb (Pb Pz) (Cr (Qb Qz) Cn)) call390 (λp ae=>(f2 a D H z c (.slice I c.Kids.length J) _ _ p K (a7.mono kT.mono ae) c9)) ?_)
  rintro _ i8 g0 h8 d b1 ab n ⟨f8,e2,M,rfl,d4⟩
  obtain rfl:=M.symm
  replace d:=d.perm (Tb (Tr Tn))
  refine lu (lI (kP ?_))
  replace d:=d.kB (Kb (Kr (Db St)))
  exact ⟨eI,f8,f7,e2,g0,_,⟨rfl,eN⟩,(G.trans b1),(d.kB St),Y,Z,d4,(by rw [d3]; exact x)⟩
 rintro E W ⟨D,H,z,Q,U,⟨eI,eN⟩,G,d,Y,Z,K,x⟩
 rw [aO] at x
 refine kP (qK ?_)
 obtain rfl:=sj x
 exact px rfl ⟨_,_,rfl,(d.od (Kb (Kr Sn))),D,z,rfl,rfl,K⟩
theorem Dk:∀(n:Nat) (i:Nat) (g:Value) (k:List Int) (c:LO) (j:Formula) (a:Value) (r:List Int) (w:World) {z:lF} (D:pe z ((i,Ob #[g] 215)::(c++[])) w) (x:lm 5 (lP .u8) 1 g k c) (t:Sl kD 5 z a j.Kids) (_:rk n k j=some r),
  mz false pg0 390 [(.pointer (some ⟨i,0,none⟩)),(.agg #[(.int .i64 j.Op),(.int .i64 j.K),(.string j.kz.kA),(.string j.kz.Word),a])] w ((i,Ob #[g] 215)::(c++[])) (λv B W'=>∃y u,v=(.tuple #[])∧B=((i,Ob #[y] 215)::(u++[]))∧lm 5 (lP .u8) 1 y r u)
 | 0=>by intros; rename_i h; simp only [rk] at h; cases h
 | n+1=>EY (rk n) (Dk n)
theorem Io (k:Nat) (i:Value) (u:List Int) (c:LO) (a:Formula) (j:Value) (r:(Bool×(List Int))) (w:World) {Q:lF} (Y:pe Q ((k,Ob #[i] 215)::(c++[])) w) (t:lm 5 (lP .u8) 1 i u c) (g:Sl kD 5 Q j a.Kids) (hm:xt u a=some r) :
  mz false pg0 385 [(.pointer (some ⟨k,0,none⟩)),(.agg #[(.int .i64 a.Op),(.int .i64 a.K),(.string a.kz.kA),(.string a.kz.Word),j])] w ((k,Ob #[i] 215)::(c++[])) (λv U W'=>∃M I,v=(.bool (r.1))∧U=((k,Ob #[M] 215)::(I++[]))∧lm 5 (lP .u8) 1 M r.2 I):=by
 refine wM Y 15 func385 rfl (λd=>sg ?_)
 obtain ⟨y,z,rfl⟩:=g.form
 let B:=(C2 a.Op a.K a.kz.kA a.kz.Word y a.Kids.length z)
 refine VE (ly d rfl (λW4 A d=>Wa (lS (Wm (V (wI iG rfl rfl) (Wm (Vg rfl rfl (kF rfl (kL d.has Mh B rfl aZ aG)) (bS hm λE K hm=>Pa rfl rfl (Eg d kw (sv a (.slice y a.Kids.length z) _ _ (g.mono kT.mono d.kG) K) (λW7 d=>Vg rfl rfl (nv rfl) (V (lf rfl rfl) ?_)))))))))))
 refine ln (CI hm rfl (λJ hm=>?_) (λJ hm=>?_))
 ·refine sg (Wa (ln ?_))
  replace d:=d.kB (Db St)
  refine lB (lV ?_)
  obtain rfl:=sj hm
  exact nq (v:=(.bool false)) rfl rfl ⟨_,_,rfl,(d.od (Kb (Kr Sn))),i,c,rfl,rfl,t⟩
 refine kg (Wm (VA d Mh B aZ aG (bS hm λL D hm=>?_)))
 refine VE (eM d (Cb (Pb Pz) (Cr (Qb Qz) Cn)) call390 (λs p=>((Dk li) k i u c a (.slice y a.Kids.length z) _ _ s t (g.mono kT.mono p) D)) ?_)
 rintro _ a2 a3 Z d T q n ⟨N,H,x,rfl,G⟩
 obtain rfl:=x.symm
 replace d:=d.perm (Tb (Tr Tn))
 refine ln ?_
 replace d:=d.kB (Kb (Kr (Db St)))
 refine sg (Wa (lt ?_))
 obtain rfl:=sj hm
 exact nq (v:=(.bool true)) rfl rfl ⟨_,_,rfl,(d.od (Kb (Kr Sn))),N,H,rfl,rfl,G⟩
theorem BG (a:Formula) (g:Value) (r:List Int) (w:World) (c:Sl kD 5 (hp w) g a.Kids) (hm:uD a=some r) :
  oU false pg0 376 [(.agg #[(.int .i64 a.Op),(.int .i64 a.K),(.string a.kz.kA),(.string a.kz.Word),g])] w 5 (lP .u8) 1 r:=by
 refine Az 11 func376 rfl (λd=>sg ?_)
 obtain ⟨k,t,rfl⟩:=c.form
 refine VE (ly d rfl (λW4 L d=>Wa (lr (V (nB (v:=(.agg #[(.slice none 0 0)])) uC (nk zeroValue215 iF (QV _ iF) kr)) (VE (ly d rfl (λW6 B d=>Wa (lr (Wm (VA d (Mt Mh) (C2 a.Op a.K a.kz.kA a.kz.Word k a.Kids.length t) aZ aG ?_))))))))))
 refine bS hm λK D hm=>?_
 refine VE (eM d (Cb Pz (C0 Cn)) call385 (λE s=>(Io B (.slice none 0 0) ([]) [] a (.slice k a.Kids.length t) _ _ E (lm.nil _ _ _) (c.mono kT.mono s) D)) ?_)
 rintro _ U Y M d I u n ⟨H,N,i,rfl,y⟩
 obtain rfl:=i.symm
 replace d:=d.perm (Tb (Tr Tn))
 refine ln ?_
 replace d:=d.kB (Kb (Kr (Db St)))
 refine sg (Wm (bS hm λT x hm=>VE (As d call173 (oU.mK (Ci B H K.2 _ _ (y.sl (λ_=>rfl) (λb o q=>d.at_ (Mt (Ml q)))) (At.of (d.at_ Mh) _ rfl) x)) (λQ G Z z d J A j=>Wa (ln ?_)))))
 replace d:=d.kB (Kr (Db (Dr St)))
 refine lB ?_
 obtain rfl:=sj hm
 exact nq (v:=G) rfl rfl ⟨_,z,rfl,d.sI (λp q=>(Ml q)) j.nd,j⟩
theorem GR (a:Formula) (j:Value) (c:Formula) (k:Value) (r:Int) (w:World) (g:Sl kD 5 (hp w) j a.Kids) (i:Sl kD 5 (hp w) k c.Kids) (hm:uw a c=some r) :
  la false pg0 353 [(.agg #[(.int .i64 a.Op),(.int .i64 a.K),(.string a.kz.kA),(.string a.kz.Word),j]),(.agg #[(.int .i64 c.Op),(.int .i64 c.K),(.string c.kz.kA),(.string c.kz.Word),k])] w (.int .i64 r):=by
 refine cG 10 func353 rfl (λd=>sg ?_)
 obtain ⟨x,z,rfl⟩:=g.form
 refine VE (ly d rfl (λW4 A d=>?_))
 obtain ⟨y,B,rfl⟩:=i.form
 refine VE (ly d rfl (λW8 E d=>Wa (ln (kQ ?_))))
 replace d:=d.drew
 have n:=d.has.kB (Kb (Kb Sn))
 refine lC n lj (XH 0 rfl n (λ_ p=>kF rfl (kL p (Mt Mh) (C2 a.Op a.K a.kz.kA a.kz.Word x a.Kids.length z) rfl aZ aG)) (XH 2 rfl n (λ_ p=>kF rfl (kL p Mh (C2 c.Op c.K c.kz.kA c.kz.Word y c.Kids.length B) rfl aZ aG)) (bS hm λK H hm=>XE 1 rfl (As d call376 (BG a (.slice x a.Kids.length z) _ _ (g.mono kT.mono d.kG) H) (λY N a4 T d t s D=>?_)))))
 have n:=d.has.DM t (Dr (Kb (Kb Sn)))
 refine ⟨n,(bS hm λM I hm=>XE 3 rfl (As d call376 (BG c (.slice y c.Kids.length B) _ _ (i.mono kT.mono (t.trans d.kG)) I) (λZ Q a5 U d u v G=>?_)))⟩
 have n:=d.has.DM (t.trans u) (Dr (Dr (Kb (Kb Sn))))
 refine ⟨n,(bS hm λa3 J hm=>XE 4 rfl (Eg d call151 (la.mK (CZ N K Q M _ _ (D.sl (λ_=>rfl) (λb o q=>d.at_ (Ma (Ml q)))) (G.sl (λ_=>rfl) (λb o q=>d.at_ (Ml q))) J)) (λa2 d=>?_)))⟩
 have n:=d.has.DM (t.trans u) (Dr (Dr (Kb (Kb Sn))))
 refine ⟨n,(X 5 rfl n (mU rfl) (lH kr (kP ?_)))⟩
 exact lB (rQ hm d)
theorem D5 (g:Value) (k r:List Formula) (w:World) {G:lF} (Y:pe G [] w) (u:Sl kD 5 G g k) (hm:wi k=some r) :
  nN false pg0 299 [g] w G [] (λv U μ1=>∃T I,v=T∧U=(I++[])∧ml 30 kD 5 μ1 T r I):=by
 refine xH Y 9 func299 rfl (λd=>sg (Wa (lr (Wm (bS hm λZ Q hm=>?_)))))
 refine VE (eD d (cM _) call351 (λp=>nN.mK (Dz g k _ _ p (u.mono kT.mono (lz.refl _)) Q)) ?_ (L0:=[]))
 rintro _ v7 O L9 d y q ⟨i,H,a,rfl,B⟩
 obtain rfl:=a.symm
 replace d:=d.perm (Tr Tn)
 refine Wa (lr (Wm (bS hm λa5 z hm=>?_)))
 refine VE (eD d (Cr Qz Cn) call352 (λp=>(zB i Z H (.func (.func 353) #[] #[]) (λ(x:(Formula×Formula))=>uw x.1 x.2) _ _ p B ⟨353,#[],#[],rfl,call353,λW x vs r hs s hm=>by obtain ⟨_,_,rfl,M,N⟩:=s; obtain ⟨L,rfl,E⟩:=M.out; obtain ⟨t0,rfl,A⟩:=N.out; exact GR x.1 L x.2 t0 r W E A hm⟩ z)) ?_)
 rintro _ P R a3 d j n ⟨J,c,rfl,D⟩
 obtain rfl:=c.symm
 replace d:=d.perm (Tr Tn)
 refine lr (Wm (Wa (lt ?_)))
 obtain rfl:=sj hm
 exact nq (v:=i) rfl rfl ⟨_,_,_,rfl,(d.od (Kr Sn)),(y.trans j),(q.trans n),(ST.ni d (oZ.mem (Kr Sn))),i,J,rfl,rfl,D⟩
theorem AV (g:Value) (a0:List Formula) (x:LO) (Z:Value) (f1:(Formula×Formula)→Option Bool) (r:List Formula) (w:World) {μ0:lF} (h0:pe μ0 (x++[]) w) (B:ml 30 kD 5 μ0 g a0 x) (d2:ud pg0 Z μ0 (uu kD kD) (λ(r:Bool)=>(.bool r)) f1) (hm:re a0 f1=some r) :
  nN false pg0 302 [g,Z] w μ0 (x++[]) (λv L1 μ1=>∃y1,v=y1∧L1=[]∧Sl kD 5 μ1 y1 (r)):=by
 refine xH h0 66 func302 rfl (λd=>sg (Wa (lS (Wm (V (wA aH rfl B) (Wi rfl (ln (CI hm rfl (λi3 hm=>?_) (λi3 hm=>?_)))))))))
 ·refine sg (Wm (Wa (lt (lV ?_))))
  obtain rfl:=sj hm
  refine nq (v:=g) rfl rfl ?_
  obtain ⟨a1,d,i2,O,j0⟩:=ST.zX kT d B
  exact ⟨_,_,_,rfl,(d.od Sn),i2,O,(ST.ni d (oZ.mem Sn)),g,rfl,rfl,j0⟩
 refine kS (Wa (ln (me (nn (λm E W=>∃t b7,ST false (keys (x++[])) w W μ0 (x++b7)∧E 0=g∧E 1=Z∧E 5=(.int .i64 t)∧og a0 f1 m t=some r) li ⟨1,_,(d.kB St),rfl,rfl,rfl,hm⟩ ?_))))
 rintro m E W ⟨t,b7,d,y,a3,G,a⟩
 cases m with
 | zero=>rw [og] at a; cases a
 | succ h1=>
  refine kQ (sg (Wh G (Wh y (V (wA aH rfl B) (Wi rfl (ln (CI a rfl (λd3 a=>?_) (λd3 a=>?_))))))))
  ·refine kn (kQ (me (kQ ?_)))
   replace d:=d.drew
   have n:=d.has.kB (Kr Sn)
   refine lC n lj (X 0 rfl n (kH a3) (X 1 rfl n (kH y) (X 2 rfl n (kH G) (bS a λh7 b2 a=>XQ 3 rfl n (mS (i:=t) kD.out aH aG rfl rfl B (kZ b2) (kY b2)) (λk1 ⟨_,⟨h3,rfl,e7⟩,e0,i4⟩=>XH 4 rfl n (λ_ A=>kF rfl (lx (pB.hp _) (e0.mono (nZ (λb o s=>A.2 b o (Ml s)))) aZ aG)) (X 5 rfl n (kH y) (X 6 rfl n (kH G) (X 7 rfl n (lE rfl rfl rfl) (bS a λh8 b3 a=>XQ 8 rfl n (mS (i:=(wi0 .i64 (t-1))) kD.out aH aG rfl rfl B (kZ b3) (kY b3)) (λk2 ⟨_,⟨h4,rfl,e8⟩,e1,i5⟩=>XH 9 rfl n (λ_ A=>kF rfl (lx (pB.hp _) (e1.mono (nZ (λb o s=>A.2 b o (Ml s)))) aZ aG)) (bS a λk7 e5 a=>XE 10 rfl (pY (h7,h8) d d2 (lz.refl _) (uu.mk kT kT (kD.mk ⟨h3,rfl,e7⟩) (kD.mk ⟨h4,rfl,e8⟩) d.kG) rfl (qJ rfl rfl) e5 (λj6 d=>?_)))))))))))))
   have n:=d.has.kB (Kr Sn)
   refine ⟨n,(lH kr (kP (CI a rfl (λd4 a=>?_) (λd4 a=>?_))))⟩
   ·refine sg (Wh y (Wh G (bS a λ_ P a=>VQ (Cf (i:=t) aH aG rfl rfl B (ym P) (yb P)) (λc4 K=>Wa (lS (Wa (ln ?_)))))))
    refine CJ a (λT E W=>∃a2 b9,ST false (keys (x++[])) w W μ0 (a2++b9)∧E 0=g∧E 5=(.int .i64 T.2)∧ml 30 kD 5 μ0 g T.1 a2) (λT d8=>?_) ?_
    ·refine me (nn (λm E W=>∃a5 J U u c0,ST false (keys (x++[])) w W μ0 (J++c0)∧E 0=g∧E 1=Z∧E 5=(.int .i64 U)∧E 6=c4∧E 7=(.int .i64 u)∧ml 30 kD 5 μ0 g a5 J∧ol t f1 m a5 U u=some T) li ⟨a0,x,t,1,_,(d.kB St),y,a3,G,rfl,rfl,B,d8⟩ ?_)
     rintro m E W ⟨a5,J,U,u,c0,d,N,a4,Q,H,I,k,j⟩
     cases m with
     | zero=>rw [ol] at j; cases j
     | succ h2=>
      refine kQ (sg (Wh I (Wh H (V (NC aH rfl K k) (Wi rfl (ln (CI j rfl (λd5 j=>?_) (λd5 j=>?_))))))))
      ·refine kn (kQ (CJ j (λL E W=>∃M c1,ST false (keys (x++[])) w W μ0 (M++c1)∧E 0=g∧E 1=Z∧E 5=(.int .i64 L.2)∧E 6=c4∧E 7=(.int .i64 u)∧ml 30 kD 5 μ0 g L.1 M) (λL c=>?_) ?_))
       ·refine me (kQ ?_)
        replace d:=d.drew
        have n:=d.has.kB (Kr Sn)
        refine lC n lj (X 0 rfl n (kH a4) (X 1 rfl n (kH H) (X 2 rfl n (kH I) (bS c λi0 b4 c=>XQ 3 rfl n (Cz (i:=u) kD.out aH aG rfl rfl k K (kZ b4) (kY b4)) (λk3 ⟨_,⟨h5,rfl,f4⟩,e2,i6⟩=>XH 4 rfl n (λ_ A=>kF rfl (lx (pB.hp _) (e2.mono (nZ (λb o s=>A.2 b o (Ml s)))) aZ aG)) (X 5 rfl n (kH H) (X 6 rfl n (kH I) (X 7 rfl n (lE rfl rfl rfl) (bS c λi1 b5 c=>XQ 8 rfl n (Cz (i:=(wi0 .i64 (u-1))) kD.out aH aG rfl rfl k K (kZ b5) (kY b5)) (λk4 ⟨_,⟨h6,rfl,f5⟩,e3,i7⟩=>XH 9 rfl n (λ_ A=>kF rfl (lx (pB.hp _) (e3.mono (nZ (λb o s=>A.2 b o (Ml s)))) aZ aG)) (bS c λk8 e6 c=>XE 10 rfl (pY (i0,i1) d d2 (lz.refl _) (uu.mk kT kT (kD.mk ⟨h5,rfl,f4⟩) (kD.mk ⟨h6,rfl,f5⟩) d.kG) rfl (qJ rfl rfl) e6 (λj8 d=>?_)))))))))))))
        have n:=d.has.kB (Kr Sn)
        refine ⟨n,(X 11 rfl n (nv rfl) (lH kr (kP (CI c rfl (λd6 c=>?_) (λd6 c=>?_)))))⟩
        ·refine sg (Wh N (Wh Q (Wh H (Wh I (bS c λc7 b6 c=>VQ (Cz (i:=u) kD.out aH aG rfl rfl k K (kZ b6) (kY b6)) (λk5 ⟨_,⟨l0,rfl,b1⟩,e4,i8⟩=>V (kF rfl (lx (pB.hp _) (e4.mono (nZ (λb o s=>d.has.2 b o (Ml s)))) aZ aG)) (bS c λl2 Y c=>VQ (mS (i:=U) kD.out aH aG rfl rfl k (kZ Y) (kY Y)) (λk6 ⟨_,⟨l1,rfl,j3⟩,i9,d7⟩=>?_))))))))
         obtain ⟨f7,g0,rfl⟩:=b1.form
         refine VO (ss (x1:=c7) kT d k rfl rfl (kD.mk ⟨(.slice f7 c7.Kids.length g0),rfl,b1⟩) d7 (kY Y) aG (λj9 f8 d d1=>ln (kR (Wh Q (Wi rfl (Wa (lu (lI (kP ?_)))))))))
         obtain rfl:=sj c
         exact ⟨f8,_,(d.kB St),N,a4,rfl,H,I,d1⟩
        refine mM (lI (kP ?_))
        obtain rfl:=sj c
        exact ⟨J,_,(d.kB St),N,a4,Q,H,I,k⟩
       rintro ⟨g9,h9⟩ E W ⟨M,c1,d,g1,g2,g3,g4,g7,f3⟩ d9
       exact kR (Wh g7 (Wi rfl (Wa (ln ⟨h2,aT _,g9,M,h9,(wi0 .i64 (u+1)),_,(d.kB St),g1,g2,g3,g4,rfl,f3,d9⟩))))
      refine nu (ng (ng (pM (kP ?_))))
      obtain rfl:=sj j
      exact ⟨J,_,(d.kB St),N,Q,k⟩
    rintro ⟨k0,c6⟩ E W ⟨a2,b9,d,c2,c3,b0⟩ D
    refine sg (Wh c2 (Wh c3 (bS D λ_ R D=>VQ (Cf (i:=c6) aH aG rfl rfl b0 (ym R) (yb R)) (λk9 e9=>VO (Fz (z:=(⟨0,0,K0,[]⟩:Formula)) (zs:=C9) kT d b0 (kD.mk ⟨(.slice none 0 0),rfl,(Sl.nil _ _ _)⟩) aH bG e9 rfl rfl (λj7 j5 d d0=>lr (Wh c2 (Wh c3 (bS D λ_ a9 D=>VQ (Ih (i:=c6) aH aG rfl rfl d0 (ym a9) (yb a9)) (λc5 f0=>?_))))))))))
    refine Wa (lt (nU (lV (lV (nU (lV ?_))))))
    obtain rfl:=sj D
    refine nq (v:=c5) rfl rfl ?_
    obtain ⟨l3,d,c8,p,f2⟩:=ST.zX kT d f0
    exact ⟨_,_,_,rfl,(d.od Sn),c8,p,(ST.ni d (oZ.mem Sn)),c5,rfl,rfl,f2⟩
   exact mM (lI (kP (kR (Wh G (Wi rfl (Wa (ln ⟨h1,aT _,(wi0 .i64 (t+1)),_,(d.kB St),y,a3,rfl,a⟩)))))))
  refine nu (ng (ng (pM (kP (sg (Wh y (Wa (lt ?_))))))))
  obtain rfl:=sj a
  refine nq (v:=g) rfl rfl ?_
  obtain ⟨l4,d,c9,q,f6⟩:=ST.zX kT d B
  exact ⟨_,_,_,rfl,(d.od Sn),c9,q,(ST.ni d (oZ.mem Sn)),g,rfl,rfl,f6⟩
theorem uW (j:Nat) (a0:mc) (c:Int) (K:Value) (a2:List Formula) (r:(Formula×mc)) (w:World) {μ0:lF} (h0:pe μ0 ((j,Ol (mT a0) 224)::[]) w) (b5:Sl kD 5 μ0 K a2) (hm:pT a0 c a2=some r) :
  nN false pg0 244 [(.pointer (some ⟨j,0,none⟩)),(.int .i64 c),K] w μ0 ((j,Ol (mT a0) 224)::[]) (λv L1 μ1=>∃y1,v=(.agg #[(.int .i64 ((r.1).Op)),(.int .i64 ((r.1).K)),(.string (((r.1).kz).kA)),(.string (((r.1).kz).Word)),y1])∧L1=((j,Ol (mT (r.2)) 224)::[])∧Sl kD 5 μ1 y1 ((r.1).Kids)):=by
 refine xH h0 37 func244 rfl (λd=>sg (VE (lT d bG (λW2 b1 d=>lr (Wm (Wi rfl (VE (lT d zeroValue3 (λW4 P d=>VO (lp (.int .i64 (wi0 .i64 (5-c))) (#[(.int .i64 (wi0 .i64 (5-c)))]) d rfl rfl gS (HS _ (wi0 .i64 (5-c))) nb rfl (λW5 d=>ln (kQ ?_))))))))))))
 let s:=(wi0 .i64 (5-c))
 let O:Value:=(.agg (R4 s).toArray)
 refine kR (Wm (Wm (bS hm λr6 d1 hm=>?_)))
 refine VE (eD d (cM _) call300 (λA=>nN.mK (JY c K a2 _ _ A (b5.mono kT.mono (lz.refl _)) d1)) ?_ (L0:=[]))
 rintro _ f4 aa e2 d B n ⟨a7,H,rfl,a3⟩
 obtain rfl:=H.symm
 refine Wa (lS (Wm (V (qz (by exact pk rfl) rfl) (bS hm λf3 c1 hm=>VE (Eg d call266 (vP a7 r6 (.func (.func 301) #[] #[(.pointer (some ⟨P,0,none⟩))]) (λ(x:Formula)=>sd x s) _ _ (a3.mono kT.mono d.kG) ⟨301,#[],#[(.pointer (some ⟨P,0,none⟩))],rfl,call301,λW x vs r hs R hm=>by obtain ⟨_,rfl,U⟩:=R; obtain ⟨u0,rfl,k0⟩:=U.out; exact (BM x u0 P s r W k0 (At.of (hs _ _ (d.at_ Mh)) _ rfl) hm).mK⟩ c1) (λe5 d=>ln (CI hm rfl (λb6 hm=>?_) (λb6 hm=>?_))))))))
 ·refine sg (VB d Mh rfl rfl bX (V (nB (v:=O) (nL rfl) (nk bG cN (BB _ cN) kr)) ?_))
  replace d:=d.perm (Nb (Pb Pz) Nz)
  refine VO (lp O ((R4 s).toArray) d rfl rfl aG oc nb rfl (λe6 d=>ln ?_))
  replace d:=d.kB (Kb (Db St))
  refine lB (lV ?_)
  obtain rfl:=sj hm
  exact qQ (v:=O) rfl rfl (kL d.has Mh (R4 s) rfl aZ aG) ⟨_,_,_,rfl,(d.od (Db (Kb Sn))),B,n,(ST.ni d (oZ.mem (Db (Kb Sn)))),(.slice none 0 0),rfl,rfl,(Sl.nil _ _ _)⟩
 refine kn ?_
 replace d:=d.kB (Db St)
 refine sg (Wm (bS hm λd2 c2 hm=>?_))
 refine VE (eD d (cM _) call299 (λA=>(D5 a7 r6 _ _ A (a3.mono kT.mono (lz.refl _)) c2)) ?_ (L0:=[]))
 rintro _ f5 f9 e3 d N p ⟨d5,c7,I,rfl,c4⟩
 obtain rfl:=I.symm
 replace d:=d.perm (Tr Tn)
 refine bS hm λz c3 hm=>?_
 refine VE (eD d (Cr Qz Cn) call302 (λA=>(AV d5 d2 c7 (.func (.func 61) #[] #[]) (λ(x:(Formula×Formula))=>oP li x.1 x.2) _ _ A c4 ⟨61,#[],#[],rfl,call61,λW x vs r hs R hm=>by obtain ⟨_,_,rfl,U,d0⟩:=R; obtain ⟨u0,rfl,k0⟩:=U.out; obtain ⟨t0,rfl,j0⟩:=d0.out; exact (wg li) x.1 u0 x.2 t0 r W k0 j0 hm⟩ c3)) ?_)
 rintro _ f6 d7 e4 d Q q ⟨d6,J,rfl,y⟩
 obtain rfl:=J.symm
 refine Wa (ln (kQ (CJ hm (λa6 E W=>∃a5,ST false (keys ((j,Ol (mT a0) 224)::[])) w W d7 ((b1,Ol C9 30)::((j,Ol (mT a6) 224)::a5))∧E 1=(.int .i64 c)∧E 6=(.pointer (some ⟨b1,0,none⟩))∧E 8=d6) (λa6 u=>?_) ?_)))
 ·refine sg (Wm (V (mx aH rfl y) (Wi rfl (ln (CI u rfl (λb9 u=>?_) (λb9 u=>?_))))))
  ·refine kR (Wm (Wn (Wf Mu ?_)))
   replace d:=d.perm (Nb (Pb Pz) Nz)
   refine VO (lp (.int .i64 12) ((mT (⟨12⟩:mc)).toArray) d rfl rfl sizeOf109 (HS _ 12) nb rfl (λf1 d=>ln ?_))
   obtain rfl:=sj u
   exact ⟨_,(d.kB (Sb (Pb Pz) St)),rfl,rfl,rfl⟩
  refine kn ?_
  obtain rfl:=sj u
  exact ⟨_,(d.kB St),rfl,rfl,rfl⟩
 rintro f8 E W ⟨a5,d,c9,M,T⟩ g
 refine kQ (sg (Wh T (V (mx aH rfl y) (Wi rfl (ln (CI g rfl (λb7 g=>?_) (λb7 g=>?_)))))))
 ·refine sg (Wh T (bS g λa Z g=>VQ (mo (i:=0) (x0:=a) kD.out aH aG rfl rfl y (kZ Z) (kY Z)) (λf2 ⟨_,⟨f7,rfl,Y⟩,c0⟩=>V (kF rfl (lx d.has c0 aZ aG)) ?_)))
  obtain ⟨D,G,rfl⟩:=Y.form
  let a4:=(C2 a.Op a.K a.kz.kA a.kz.Word D a.Kids.length G)
  refine VO (lp (.agg a4.toArray) (a4.toArray) d M rfl aG oc nb rfl (λe9 d=>lt (lV ?_)))
  obtain rfl:=sj g
  exact qQ (v:=(.agg a4.toArray)) rfl M (kL d.has Mh a4 rfl aZ aG) ⟨_,_,_,rfl,(d.od (Db (Kb Sn))),((B.trans N).trans Q),((n.trans p).trans q),(ST.ni d (oZ.mem (Db (Kb Sn)))),(.slice D a.Kids.length G),rfl,rfl,Y⟩
 refine kg (Wh c9 (Wh T ?_))
 obtain ⟨k,t,rfl⟩:=y.form
 let a9:Value:=(.slice k z.length t)
 let L:Value:=(.agg #[(.int .i64 c),(.int .i64 0),(.string zS),(.string zS),a9])
 refine V (nB (v:=L) (uB rfl rfl) (nk bG cN (BB _ cN) kr)) (VO (lp L (#[(.int .i64 c),(.int .i64 0),(.string zS),(.string zS),a9]) d M rfl aG oc nb rfl (λf0 d=>lt ?_)))
 obtain rfl:=sj g
 exact qQ (v:=L) rfl M (kL d.has Mh [(.int .i64 c),(.int .i64 0),(.string zS),(.string zS),a9] rfl aZ aG) ⟨_,_,_,rfl,(d.od (Db (Kb Sn))),((B.trans N).trans Q),((n.trans p).trans q),(ST.ni d (oZ.mem (Db (Kb Sn)))),a9,rfl,rfl,y⟩
theorem BI (G:Nat) (a0:mc) (a1:Int) (c2:Value) (a2:List Formula) (r:(Formula×mc)) (w:World) {μ0:lF} (h0:pe μ0 ((G,Ol (mT a0) 224)::[]) w) (c1:Sl kD 5 μ0 c2 a2) (hm:sf a0 a1 a2=some r) :
  nN false pg0 243 [(.pointer (some ⟨G,0,none⟩)),(.int .i64 a1),c2] w μ0 ((G,Ol (mT a0) 224)::[]) (λv L1 μ1=>∃y1,v=(.agg #[(.int .i64 ((r.1).Op)),(.int .i64 ((r.1).K)),(.string (((r.1).kz).kA)),(.string (((r.1).kz).Word)),y1])∧L1=((G,Ol (mT (r.2)) 224)::[])∧Sl kD 5 μ1 y1 ((r.1).Kids)):=by
 let j8:=((mT a0).toArray:Array Value)
 refine xH h0 58 func243 rfl (λd=>sg (VE (lT d bG (λW2 b1 d=>lr (Wa (lS (Wm ?_)))))))
 refine V (mx aH rfl c1) (Wm (ln (mj (λi E W=>∃x K J N c0,(E 12= .int .i64 (i:Nat)∧E 11= .int .i64 (a2.length:Nat))∧ST false (keys ((G,Obj.cells j8 224 (0,0))::[])) w W μ0 ((b1,Ol C9 30)::((G,Obj.cells j8 224 (0,0))::(N++c0)))∧E 0=(.pointer (some ⟨G,0,none⟩))∧E 1=(.int .i64 x)∧E 6=(.pointer (some ⟨b1,0,none⟩))∧E 7=K∧E 10=c2∧ml 30 kD 5 μ0 K J N∧nY a0 (a2.drop i) x J=some r) a2.length c1.len ⟨a1,(.slice none 0 0),([]),[],_,⟨rfl,rfl⟩,(d.kB St),rfl,rfl,rfl,rfl,rfl,(ml.nil _ _ _ _),hm⟩ dc dc dc (λ_ _ _ h=>by obtain ⟨_,_,_,_,_,ab,_⟩:=h; exact ab) ?_ ?_)))
 ·rintro h2 E W f2 ⟨x,K,J,N,c0,⟨eI,eN⟩,d,U,H,u,I,b0,D,a⟩
  obtain ⟨c,h8,g8,g7,b7⟩:=lX f2
  rw [g8] at a
  refine bg (VQ (mo (i:=(h2:Int)) (x0:=c) kD.out aH aG b0 eI c1 (aM _) g7) (λk7 ⟨_,⟨l0,rfl,Y⟩,f3⟩=>V (kF rfl (lx d.has f3 aZ aG)) (VE (lT d bG (λi6 k4 d=>?_)))))
  obtain ⟨y,z,rfl⟩:=Y.form
  let j6:Value:=(.slice y c.Kids.length z)
  let b8:=(C2 c.Op c.K c.kz.kA c.kz.Word y c.Kids.length z)
  refine VO (lp (.agg b8.toArray) (b8.toArray) d rfl rfl aG oc nb rfl (λi7 d=>ln (bg (VA d Mh b8 aZ aG (bS a λk8 f4 a=>VE (Eg d call297 (la.mK (AW c j6 2 _ _ (Y.mono kT.mono d.kG) f4)) (λi8 d=>Wa (ln (CI a rfl (λe5 a=>?_) (λe5 a=>?_))))))))))
  ·refine kR (Wh H (Wi rfl (Wa (lu (lI (lI (kP ?_)))))))
   replace d:=d.kB (Db St)
   exact ⟨eI,(wi0 .i64 (x-1)),K,J,N,_,⟨rfl,eN⟩,(d.kB St),U,rfl,u,I,b0,D,(by rw [b7]; exact a)⟩
  refine sg (VA d Mh b8 aZ aG (bS a λk9 f5 a=>VE (Eg d call297 (la.mK (AW c j6 3 _ _ (Y.mono kT.mono d.kG) f5)) (λi9 d=>V (nv rfl) (Wa (ln (CI a rfl (λe6 a=>?_) (λe6 a=>?_))))))))
  ·refine kR (Wh I (VA d Mh b8 aZ aG (VE (lJ (cs:=b8.toArray) d (nL rfl) (oa aH aG bG) (λj0 k5 d=>?_)))))
   replace d:=d.perm (Nr (Qb (Qb (Qb (Qb Qz)))) Nz)
   refine bS a λh3 e7 a=>VE (tX (B:=N) kT d dc aH qF.1 qF.2.1 rfl qF.2.2.1 qF.2.2.2 rfl rfl D (AB.lit kT (l:=[c]) (.cons (ys:=C2 c.Op c.K c.kz.kA c.kz.Word y c.Kids.length z) (kD.mk ⟨j6,rfl,Y⟩) .nil) rfl nb (d.at_ (Ma Mh))) e7 (λj3 h4 g9 d e4=>Wa (lu (lI (lI (kP ?_))))))
   replace d:=d.kB (Kr (Db (Db St)))
   exact ⟨eI,x,h4,h3,g9,_,⟨rfl,eN⟩,(d.kB (Sb (Pr Pz) (Sb (Pr Pz) St))),U,H,u,rfl,b0,e4,(by rw [b7]; exact a)⟩
  refine mM (lI (lI (kP ?_)))
  replace d:=d.kB (Db St)
  exact ⟨eI,x,K,J,N,_,⟨rfl,eN⟩,(d.kB St),U,H,u,I,b0,D,(by rw [b7]; exact a)⟩
 rintro E W ⟨x,K,J,N,c0,⟨eI,eN⟩,d,U,H,u,I,b0,D,a⟩
 rw [aO] at a
 refine kP (kQ (bg (Wh H (Wi rfl (Wa (ln (CI a rfl (λe8 a=>?_) (λe8 a=>?_))))))))
 ·refine sg (bS a λg f6 a=>?_)
  let j2:Value:=(.string (((g).kz).Word))
  let h9:Value:=(.string (((g).kz).kA))
  refine VE (eD d (cM _) call115 (λn=>nN.mK (HY  _ _ n  f6)) ?_ (L0:=[]))
  rintro _ l1 m2 i0 d c9 p ⟨l6,b2,rfl,c3⟩
  obtain rfl:=b2.symm
  obtain ⟨Z,a6,rfl⟩:=c3.form
  let g5:Value:=(.slice Z ((g).Kids).length a6)
  let e0:Value:=(.agg #[(.int .i64 ((g).Op)),(.int .i64 ((g).K)),h9,j2,g5])
  refine VO (lp e0 (#[(.int .i64 ((g).Op)),(.int .i64 ((g).K)),h9,j2,g5]) d u rfl aG oc nb rfl (λj5 d=>ln ?_))
  replace d:=d.kB (Kb (Kb (Dr St)))
  refine lB (nU (lV ?_))
  obtain rfl:=sj a
  exact qQ (v:=e0) rfl u (kL d.has Mh [(.int .i64 ((g).Op)),(.int .i64 ((g).K)),h9,j2,g5] rfl aZ aG) ⟨_,_,_,rfl,(d.od (Db (Kb Sn))),c9,p,(ST.ni d (oZ.mem (Db (Kb Sn)))),g5,rfl,rfl,c3⟩
 refine sg (Wh H (Wh I (V (wA aH rfl D) (Wi rfl (Wa (ln (CI a rfl (λe9 a=>?_) (λe9 a=>?_))))))))
 ·refine sg (bS a λj f7 a=>?_)
  let j4:Value:=(.string (((j).kz).Word))
  let j1:Value:=(.string (((j).kz).kA))
  refine VE (eD d (cM _) call298 (λn=>nN.mK (IN  _ _ n  f7)) ?_ (L0:=[]))
  rintro _ l2 m3 i1 d d0 q ⟨l7,b3,rfl,c4⟩
  obtain rfl:=b3.symm
  obtain ⟨a3,a7,rfl⟩:=c4.form
  let e3:Value:=(.slice a3 ((j).Kids).length a7)
  let d9:Value:=(.agg #[(.int .i64 ((j).Op)),(.int .i64 ((j).K)),j1,j4,e3])
  refine VO (lp d9 (#[(.int .i64 ((j).Op)),(.int .i64 ((j).K)),j1,j4,e3]) d u rfl aG oc nb rfl (λj7 d=>ln ?_))
  replace d:=d.kB (Kb (Kb (Dr St)))
  refine lB (nU (lV ?_))
  obtain rfl:=sj a
  exact qQ (v:=d9) rfl u (kL d.has Mh [(.int .i64 ((j).Op)),(.int .i64 ((j).K)),j1,j4,e3] rfl aZ aG) ⟨_,_,_,rfl,(d.od (Db (Kb Sn))),d0,q,(ST.ni d (oZ.mem (Db (Kb Sn)))),e3,rfl,rfl,c4⟩
 refine sg (Wh H (Wh I (V (wA aH rfl D) (Wi rfl (Wa (ln (CI a rfl (λf0 a=>?_) (λf0 a=>?_))))))))
 ·refine sg (Wh U (Wh I ?_))
  replace d:=d.perm (Nr (Qb (Qb Qz)) Nz)
  obtain ⟨m4,d,d1,s,g1⟩:=ST.zX kT d D
  refine bS a λk f8 a=>?_
  let h6:Value:=(.string (((k.1).kz).Word))
  let h1:Value:=(.string (((k.1).kz).kA))
  refine VE (eD d (Cb (Pb Pz) Cn) call244 (λn=>(uW G a0 2 K J _ _ n (g1.mono kT.mono (lz.refl _)) f8)) ?_)
  rintro _ l3 m5 i2 d d2 A ⟨l8,b4,rfl,c5⟩
  obtain rfl:=b4.symm
  replace d:=d.perm (Tb Tn)
  obtain ⟨a4,a8,rfl⟩:=c5.form
  let e1:Value:=(.slice a4 ((k.1).Kids).length a8)
  let c8:Value:=(.agg #[(.int .i64 ((k.1).Op)),(.int .i64 ((k.1).K)),h1,h6,e1])
  replace d:=d.perm (Nb (Pb Pz) Nz)
  refine VO (lp c8 (#[(.int .i64 ((k.1).Op)),(.int .i64 ((k.1).K)),h1,h6,e1]) d u rfl aG oc nb rfl (λj9 d=>lt (nU (lV ?_))))
  obtain rfl:=sj a
  exact qQ (v:=c8) rfl u (kL d.has Mh [(.int .i64 ((k.1).Op)),(.int .i64 ((k.1).K)),h1,h6,e1] rfl aZ aG) ⟨_,_,_,rfl,(d.od (Db (Kb Sn))),(d1.trans d2),(s.trans A),(ST.ni d (oZ.mem (Db (Kb Sn)))),e1,rfl,rfl,c5⟩
 refine sg (Wh H (Wi rfl (Wa (ln (CI a rfl (λf1 a=>?_) (λf1 a=>?_))))))
 ·refine sg (Wh U (Wh I ?_))
  replace d:=d.perm (Nr (Qb (Qb Qz)) Nz)
  obtain ⟨m6,d,d3,L,g2⟩:=ST.zX kT d D
  refine bS a λt f9 a=>?_
  let h7:Value:=(.string (((t.1).kz).Word))
  let h5:Value:=(.string (((t.1).kz).kA))
  refine VE (eD d (Cb (Pb Pz) Cn) call244 (λn=>(uW G a0 3 K J _ _ n (g2.mono kT.mono (lz.refl _)) f9)) ?_)
  rintro _ l4 m7 i3 d d4 O ⟨l9,b5,rfl,c6⟩
  obtain rfl:=b5.symm
  replace d:=d.perm (Tb Tn)
  obtain ⟨a5,a9,rfl⟩:=c6.form
  let e2:Value:=(.slice a5 ((t.1).Kids).length a9)
  let d8:Value:=(.agg #[(.int .i64 ((t.1).Op)),(.int .i64 ((t.1).K)),h5,h7,e2])
  replace d:=d.perm (Nb (Pb Pz) Nz)
  refine VO (lp d8 (#[(.int .i64 ((t.1).Op)),(.int .i64 ((t.1).K)),h5,h7,e2]) d u rfl aG oc nb rfl (λk1 d=>lt (nU (lV ?_))))
  obtain rfl:=sj a
  exact qQ (v:=d8) rfl u (kL d.has Mh [(.int .i64 ((t.1).Op)),(.int .i64 ((t.1).K)),h5,h7,e2] rfl aZ aG) ⟨_,_,_,rfl,(d.od (Db (Kb Sn))),(d3.trans d4),(L.trans O),(ST.ni d (oZ.mem (Db (Kb Sn)))),e2,rfl,rfl,c6⟩
 refine mM (lI (kP (sg (Wh H (Wh I ?_)))))
 replace d:=d.perm (Nr (Qb (Qb Qz)) Nz)
 obtain ⟨m8,d,d5,P,g3⟩:=ST.zX kT d D
 refine bS a λT g0 a=>?_
 refine VE (eD d (cM _) call299 (λn=>(D5 K J _ _ n (g3.mono kT.mono (lz.refl _)) g0)) ?_ (L0:=[]))
 rintro _ l5 m9 i4 d d6 R ⟨m0,i5,b6,rfl,c7⟩
 obtain rfl:=b6.symm
 replace d:=d.perm (Tr Tn)
 obtain ⟨M,Q,rfl⟩:=c7.form
 let g6:Value:=(.slice M T.length Q)
 let b9:Value:=(.agg #[(.int .i64 4),(.int .i64 x),(.string zS),(.string zS),g6])
 refine V (nB (v:=b9) (yQ rfl rfl rfl) (nk bG cN (BB _ cN) kr)) ?_
 replace d:=d.perm (Nb (Pr Pz) Nz)
 refine VO (lp b9 (#[(.int .i64 4),(.int .i64 x),(.string zS),(.string zS),g6]) d u rfl aG oc nb rfl (λk3 d=>lt ?_))
 obtain rfl:=sj a
 refine qQ (v:=b9) rfl u (kL d.has Mh [(.int .i64 4),(.int .i64 x),(.string zS),(.string zS),g6] rfl aZ aG) ?_
 replace d:=d.perm (Nr (Qb Qz) Nz)
 obtain ⟨n0,d,d7,aa,g4⟩:=ST.zX kT d c7
 exact ⟨_,_,_,rfl,(d.od (Db (Kb Sn))),((d5.trans d6).trans d7),((P.trans R).trans aa),(ST.ni d (oZ.mem (Db (Kb Sn)))),g6,rfl,rfl,g4⟩
theorem A8 (c9:mc→Formula→Option (Formula×mc)) (e9:∀(u:Nat) (a0:mc) (a:Formula) (y:Value) (r:(Formula×mc)) (w:World) {μ0:lF} (h0:pe μ0 ((u,Ol (mT a0) 224)::[]) w) (x:Sl kD 5 μ0 y a.Kids),c9 a0 a=some r→nN false pg0 181 [(.pointer (some ⟨u,0,none⟩)),(.agg #[(.int .i64 a.Op),(.int .i64 a.K),(.string a.kz.kA),(.string a.kz.Word),y])] w μ0 ((u,Ol (mT a0) 224)::[]) (λv L1 μ1=>∃R,v=(.agg #[(.int .i64 ((r.1).Op)),(.int .i64 ((r.1).K)),(.string (((r.1).kz).kA)),(.string (((r.1).kz).Word)),R])∧L1=((u,Ol (mT (r.2)) 224)::[])∧Sl kD 5 μ1 R ((r.1).Kids))) (u:Nat) (a0:mc) (a:Formula) (y:Value) (r:(Formula×mc)) (w:World) {μ0:lF} (h0:pe μ0 ((u,Ol (mT a0) 224)::[]) w) (x:Sl kD 5 μ0 y a.Kids) (hm:tG c9 a0 a=some r) :
  nN false pg0 181 [(.pointer (some ⟨u,0,none⟩)),(.agg #[(.int .i64 a.Op),(.int .i64 a.K),(.string a.kz.kA),(.string a.kz.Word),y])] w μ0 ((u,Ol (mT a0) 224)::[]) (λv L1 μ1=>∃R,v=(.agg #[(.int .i64 ((r.1).Op)),(.int .i64 ((r.1).K)),(.string (((r.1).kz).kA)),(.string (((r.1).kz).Word)),R])∧L1=((u,Ol (mT (r.2)) 224)::[])∧Sl kD 5 μ1 R ((r.1).Kids)):=by
 let d0:=((u,Ol (mT a0) 224)::[])
 refine xH h0 39 func181 rfl (λd=>sg ?_)
 obtain ⟨A1,c2,rfl⟩:=x.form
 let O:=(C2 a.Op a.K a.kz.kA a.kz.Word A1 a.Kids.length c2)
 refine VE (ly d rfl (λW4 b3 d=>VE (lT d bG (λW6 b5 d=>lS (Wf qt (VB d (Mt Mh) rfl rfl bX (Wi rfl (ln (CI hm rfl (λf8 hm=>?_) (λf8 hm=>?_))))))))))
 ·refine sg (VA d (Mt Mh) O aZ aG (VO (lp (.agg O.toArray) (O.toArray) d rfl rfl aG oc nb rfl (λW8 d=>ln ?_))))
  replace d:=d.kB (Kb (Db St))
  refine lB (lV ?_)
  obtain rfl:=sj hm
  exact qQ (v:=(.agg O.toArray)) rfl rfl (kL d.has Mh O rfl aZ aG) ⟨_,_,_,rfl,(d.od (Db (Kb Sn))),(lz.refl _),Lo.refl,(ST.ni d (oZ.mem (Db (Kb Sn)))),(.slice A1 a.Kids.length c2),rfl,rfl,x⟩
 refine kg (Wa (lS (Wf pS (VB d (Mt Mh) rfl rfl eZ (V (mx aH rfl x) (Wm (lu ?_)))))))
 refine kP (mj (λi E W=>∃I H T D J b7,(E 15= .int .i64 (i:Nat)∧E 14= .int .i64 (a.Kids.length:Nat))∧lz μ0 J∧Lo (keys d0) w μ0 J∧ST false (keys d0) w W J ((u,Ol (mT D) 224)::((b5,Ol C9 30)::((b3,Ol O 30)::(T++b7))))∧E 0=(.pointer (some ⟨u,0,none⟩))∧E 3=(.pointer (some ⟨b3,0,none⟩))∧E 4=(.pointer (some ⟨b5,0,none⟩))∧E 5=I∧E 13=(.slice A1 a.Kids.length c2)∧ml 30 kD 5 J I H T∧pw c9 a (a.Kids.drop i) H D=some r) a.Kids.length x.len ⟨(.slice none 0 0),([]),[],a0,μ0,_,⟨rfl,rfl⟩,(lz.refl _),Lo.refl,(d.kB (Sb (Pb (Pb Pz)) St)),rfl,rfl,rfl,rfl,rfl,(ml.nil _ _ _ _),hm⟩ dc dc dc (λ_ _ _ h=>by obtain ⟨_,_,_,_,_,_,aa,_⟩:=h; exact aa) ?_ ?_)
 ·rintro f0 E W d7 ⟨I,H,T,D,J,b7,⟨eI,eN⟩,z,n,d,a2,a3,G,b0,b9,K,c⟩
  obtain ⟨t,f9,e5,e4,e6⟩:=lX d7
  rw [e5] at c
  refine bg (VQ (mo (i:=(f0:Int)) (x0:=t) kD.out aH aG b9 eI (x.mono kT.mono z) (aM _) e4) (λh7 ⟨_,⟨h8,rfl,c0⟩,d8⟩=>V (kF rfl (lx d.has d8 aZ aG)) (VE (lT d bG (λg3 h5 d=>?_)))))
  obtain ⟨a7,a9,rfl⟩:=c0.form
  let a6:=(C2 t.Op t.K t.kz.kA t.kz.Word a7 t.Kids.length a9)
  refine VO (lp (.agg a6.toArray) (a6.toArray) d rfl rfl aG oc nb rfl (λg4 d=>ln (kR (Wh b0 (Wh a2 (VA d Mh a6 aZ aG (bS c λg d9 c=>?_)))))))
  refine VE (eD d (Cb (Pb Pz) Cn) call181 (λP=>(e9 u D t (.slice a7 t.Kids.length a9) _ _ P (c0.mono kT.mono (lz.refl _)) d9)) ?_)
  rintro _ h9 f4 g0 d b6 p ⟨i2,b1,rfl,c1⟩
  obtain rfl:=b1.symm
  replace d:=d.perm (Tb Tn)
  obtain ⟨M,U,rfl⟩:=c1.form
  let d1:Value:=(.slice M ((g.1).Kids).length U)
  refine VE (lJ (cs:=#[(.int .i64 ((g.1).Op)),(.int .i64 ((g.1).K)),(.string (((g.1).kz).kA)),(.string (((g.1).kz).Word)),d1]) d (nL rfl) (oa aH aG bG) (λg8 h6 d=>?_))
  replace d:=d.perm (Nr (Qb (Qb (Qb (Qb (Qb Qz))))) Nz)
  refine bS c λf1 d5 c=>VE (tX (B:=T) kT d dc aH qF.1 qF.2.1 rfl qF.2.2.1 qF.2.2.2 rfl rfl (K.mono kT b6) (AB.lit kT (l:=[g.1]) (.cons (ys:=[(.int .i64 ((g.1).Op)),(.int .i64 ((g.1).K)),(.string (((g.1).kz).kA)),(.string (((g.1).kz).Word)),d1]) (kD.mk ⟨d1,rfl,c1⟩) .nil) rfl nb (d.at_ (Ma Mh))) d5 (λg9 f2 e8 d d4=>Wa (lu (lI (kP ?_)))))
  replace d:=d.kB (Kr (Db (Kb (Db St))))
  exact ⟨eI,f2,f1,e8,g.2,f4,_,⟨rfl,eN⟩,(z.trans b6),(n.trans p),(d.kB (Sb (Pr Pz) (Sb (Pr Pz) (Sb (Pr Pz) St)))),a2,a3,G,rfl,b9,d4,(by rw [e6]; exact c)⟩
 rintro E W ⟨I,H,T,D,J,b7,⟨eI,eN⟩,z,n,d,a2,a3,G,b0,b9,K,c⟩
 rw [aO] at c
 refine kP (kQ (sg (V (kJ qt a3) (VB d (Mt (Mt Mh)) rfl rfl bX (Wi rfl (ln (CI c rfl (λd6 c=>?_) (λd6 c=>?_))))))))
 ·refine sg (Wh a2 (V (kJ uA a3) (VB d (Mt (Mt Mh)) rfl rfl bX (Wh b0 ?_))))
  replace d:=d.perm (Nr (Qb (Qb (Qb Qz))) Nz)
  obtain ⟨i5,d,c5,q,e2⟩:=ST.zX kT d K
  refine bS c λj e0 c=>?_
  let f3:Value:=(.string (((j.1).kz).Word))
  let d3:Value:=(.string (((j.1).kz).kA))
  refine VE (eD d (Cb Pz Cn) call243 (λP=>(BI u D a.K I H _ _ P (e2.mono kT.mono (lz.refl _)) e0)) ?_)
  rintro _ i0 i6 g1 d c6 s ⟨i3,b2,rfl,c3⟩
  obtain rfl:=b2.symm
  replace d:=d.perm (Tb Tn)
  obtain ⟨N,Y,rfl⟩:=c3.form
  let b8:Value:=(.slice N ((j.1).Kids).length Y)
  let a5:Value:=(.agg #[(.int .i64 ((j.1).Op)),(.int .i64 ((j.1).K)),d3,f3,b8])
  replace d:=d.perm (Nb (Pb Pz) Nz)
  refine VO (lp a5 (#[(.int .i64 ((j.1).Op)),(.int .i64 ((j.1).K)),d3,f3,b8]) d G rfl aG oc nb rfl (λh2 d=>ln ?_))
  replace d:=d.kB (Kb (Kb (Db St)))
  refine lB (lV ?_)
  obtain rfl:=sj c
  exact qQ (v:=a5) rfl G (kL d.has Mh [(.int .i64 ((j.1).Op)),(.int .i64 ((j.1).K)),d3,f3,b8] rfl aZ aG) ⟨_,_,_,rfl,(d.od (Db (Kb Sn))),((z.trans c5).trans c6),((n.trans q).trans s),(ST.ni d (oZ.mem (Db (Kb Sn)))),b8,rfl,rfl,c3⟩
 refine kg (Wh a2 (V (kJ qt a3) (VB d (Mt (Mt Mh)) rfl rfl bX (Wh b0 ?_))))
 replace d:=d.perm (Nr (Qb (Qb (Qb Qz))) Nz)
 obtain ⟨i7,d,c7,A,e3⟩:=ST.zX kT d K
 refine bS c λk e1 c=>?_
 let f5:Value:=(.int .i64 ((k.1).Op))
 let e7:Value:=(.string (((k.1).kz).Word))
 let d2:Value:=(.string (((k.1).kz).kA))
 refine VE (eD d (Cb Pz Cn) call244 (λP=>(uW u D a.Op I H _ _ P (e3.mono kT.mono (lz.refl _)) e1)) ?_)
 rintro _ i1 i8 g2 d c8 L ⟨i4,b4,rfl,c4⟩
 obtain rfl:=b4.symm
 replace d:=d.perm (Tb Tn)
 obtain ⟨Q,Z,rfl⟩:=c4.form
 let a8:Value:=(.slice Q ((k.1).Kids).length Z)
 let a4:Value:=(.agg #[f5,(.int .i64 ((k.1).K)),d2,e7,a8])
 replace d:=d.perm (Nb (Pb Pz) Nz)
 refine VO (lp a4 (#[f5,(.int .i64 ((k.1).K)),d2,e7,a8]) d G rfl aG oc nb rfl (λh4 d=>ln ?_))
 replace d:=d.kB (Kb (Kb (Db St)))
 refine lB ?_
 obtain rfl:=sj c
 exact qQ (v:=a4) rfl G (kL d.has Mh [f5,(.int .i64 ((k.1).K)),d2,e7,a8] rfl aZ aG) ⟨_,_,_,rfl,(d.od (Db (Kb Sn))),((z.trans c7).trans c8),((n.trans A).trans L),(ST.ni d (oZ.mem (Db (Kb Sn)))),a8,rfl,rfl,c4⟩
theorem yo:∀(n:Nat) (c:Nat) (j:mc) (g:Formula) (a:Value) (r:(Formula×mc)) (w:World) {k:lF} (y:pe k ((c,Ol (mT j) 224)::[]) w) (i:Sl kD 5 k a g.Kids) (_:oW n j g=some r),
  nN false pg0 181 [(.pointer (some ⟨c,0,none⟩)),(.agg #[(.int .i64 g.Op),(.int .i64 g.K),(.string g.kz.kA),(.string g.kz.Word),a])] w k ((c,Ol (mT j) 224)::[]) (λv u x=>∃t,v=(.agg #[(.int .i64 ((r.1).Op)),(.int .i64 ((r.1).K)),(.string (((r.1).kz).kA)),(.string (((r.1).kz).Word)),t])∧u=((c,Ol (mT (r.2)) 224)::[])∧Sl kD 5 x t ((r.1).Kids))
 | 0=>by intros; rename_i h; simp only [oW] at h; cases h
 | n+1=>A8 (oW n) (yo n)
theorem Hg (c:Formula) (u:Value) (r:(Formula×Int)) (w:World) {Z:lF} (R:pe Z [] w) (k:Sl kD 5 Z u c.Kids) (hm:yO c=some r) :
  nN false pg0 114 [(.agg #[(.int .i64 c.Op),(.int .i64 c.K),(.string c.kz.kA),(.string c.kz.Word),u])] w Z [] (λv L1 μ1=>∃O,v=(.tuple #[(.agg #[(.int .i64 ((r.1).Op)),(.int .i64 ((r.1).K)),(.string (((r.1).kz).kA)),(.string (((r.1).kz).Word)),O]),(.int .i64 (r.2))])∧L1=[]∧Sl kD 5 μ1 O ((r.1).Kids)):=by
 refine xH R 27 func114 rfl (λd=>sg ?_)
 obtain ⟨H,I,rfl⟩:=k.form
 let A:=(C2 c.Op c.K c.kz.kA c.kz.Word H c.Kids.length I)
 refine VE (ly d rfl (λW4 b3 d=>VE (lT d bG (λW6 L d=>Wa (lS (VA d (Mt Mh) A aZ aG (bS hm λr7 a5 hm=>VE (Eg d kw (sv c (.slice H c.Kids.length I) _ _ (k.mono kT.mono d.kG) a5) (λW9 d=>V (nv rfl) (ln (CI hm rfl (λQ hm=>?_) (λQ hm=>?_))))))))))))
 ·refine sg (V (nB (v:=(.agg C9.toArray)) uC (nk bG cN (BB _ cN) kr)) (VO (lp (.agg C9.toArray) (C9.toArray) d rfl rfl aG oc nb rfl (λb6 d=>Wa (ln ?_)))))
  replace d:=d.kB (Kb (Db St))
  refine lB (lV ?_)
  obtain rfl:=sj hm
  exact xg (v0:=(.agg C9.toArray)) (v1:=(.int .i64 11)) rfl rfl (kL d.has Mh C9 rfl aZ aG) rfl ⟨_,_,_,rfl,(d.od Sn),(lz.refl _),Lo.refl,(ST.ni d (oZ.mem Sn)),(.slice none 0 0),rfl,rfl,(Sl.nil _ _ _)⟩
 refine kg (V (nB (v:=(.agg (mT TW).toArray)) uC (nk zeroValue224 jI (Tv _ jI) kr)) (VE (ly d rfl (λb7 P d=>Wa (lr (Wm (VA d (Mt (Mt Mh)) A aZ aG (bS hm λa U hm=>?_))))))))
 let s:Value:=(.int .i64 ((a.1).K))
 let q:Value:=(.int .i64 ((a.1).Op))
 let p:Value:=(.string (((a.1).kz).Word))
 let a2:Value:=(.string (((a.1).kz).kA))
 refine VE (eD d (Cb Pz Cn) call181 (λhh=>((yo li) P TW c (.slice H c.Kids.length I) _ _ hh (k.mono kT.mono (lz.refl _)) U)) ?_)
 rintro _ c7 a9 b4 d D n ⟨c9,y,rfl,z⟩
 obtain rfl:=y.symm
 replace d:=d.perm (Tb Tn)
 refine VE (lT d bG (λc0 K d=>?_))
 obtain ⟨i,j,rfl⟩:=z.form
 let a0:Value:=(.slice i ((a.1).Kids).length j)
 let N:Value:=(.agg #[q,s,a2,p,a0])
 refine VO (lp N (#[q,s,a2,p,a0]) d rfl rfl aG oc nb rfl (λc1 d=>ln ?_))
 replace d:=d.kB (Kb (Kb (Kb (Db St))))
 refine kQ (sg (Wm (Wn (Wf Mu (VB d (Mt Mh) rfl rfl isAgg109 (Wi rfl (Wm (LJ hm (λM E W=>∃J,ST false (keys []) w W a9 ((K,Ob #[q,s,a2,p,a0] 30)::((L,Ol C9 30)::J))∧E 2=(.pointer (some ⟨L,0,none⟩))∧E 5=(.pointer (some ⟨K,0,none⟩))∧E 24=(.bool M)) 4 ?_ (λM t G=>?_)))))))))
 ·rintro c8 E W ⟨J,d,B,a3,a4⟩ x
  refine ln (CI x a4 (λT x=>?_) (λT x=>?_))
  ·refine sg (V (nB (v:=(.agg C9.toArray)) uC (nk bG cN (BB _ cN) kr)) ?_)
   replace d:=d.perm (Nb (Pb Pz) Nz)
   refine VO (lp (.agg C9.toArray) (C9.toArray) d B rfl aG oc nb rfl (λc3 d=>Wa (ln ?_)))
   replace d:=d.kB (Kb (Db St))
   refine lB (lV ?_)
   obtain rfl:=sj x
   exact xg (v0:=(.agg C9.toArray)) (v1:=(.int .i64 12)) rfl B (kL d.has Mh C9 rfl aZ aG) rfl ⟨_,_,_,rfl,(d.od Sn),D,n,(ST.ni d (oZ.mem Sn)),(.slice none 0 0),rfl,rfl,(Sl.nil _ _ _)⟩
  refine kg (V (kF a3 (kL d.has Mh [q,s,a2,p,a0] rfl aZ aG)) ?_)
  replace d:=d.perm (Nb (Pb Pz) Nz)
  refine VO (lp N (#[q,s,a2,p,a0]) d B rfl aG oc nb rfl (λc4 d=>Wa (ln ?_)))
  replace d:=d.kB (Kb (Db St))
  refine lB ?_
  obtain rfl:=sj x
  exact xg (v0:=N) (v1:=(.int .i64 0)) rfl B (kL d.has Mh [q,s,a2,p,a0] rfl aZ aG) rfl ⟨_,_,_,rfl,(d.od Sn),D,n,(ST.ni d (oZ.mem Sn)),a0,rfl,rfl,z⟩
 refine bC t (λg t=>?_) (λg t=>?_)
 ·refine un g (un g (un g (V (lb (cB g) rfl) ?_)))
  obtain rfl:=sj t
  exact G _ _ ⟨_,(d.kB (Kb (Db St))),rfl,rfl,rfl⟩
 refine ug g (kF rfl (kL d.has Mh [q,s,a2,p,a0] rfl aZ aG)) (bS t λc6 Y t=>rU g (Eg d kw (sv a.1 a0 _ _ (z.mono kT.mono d.kG) Y) (λc5 d=>ug g (nv rfl) (V (lf (cB g) rfl) ?_))))
 obtain rfl:=sj t
 exact G _ _ ⟨_,(d.kB (Kb (Db St))),rfl,rfl,rfl⟩
theorem JS (a:Formula) (k:Value) (c:Formula) (t:Value) (r:(Formula×Int)) (w:World) {N:lF} (E:pe N [] w) (i:Sl kD 5 N k a.Kids) (j:Sl kD 5 N t c.Kids) (hm:yV a c=some r) :
  nN false pg0 258 [(.agg #[(.int .i64 a.Op),(.int .i64 a.K),(.string a.kz.kA),(.string a.kz.Word),k]),(.agg #[(.int .i64 c.Op),(.int .i64 c.K),(.string c.kz.kA),(.string c.kz.Word),t])] w N [] (λv Z μ1=>∃Y,v=(.tuple #[(.agg #[(.int .i64 ((r.1).Op)),(.int .i64 ((r.1).K)),(.string (((r.1).kz).kA)),(.string (((r.1).kz).Word)),Y]),(.int .i64 (r.2))])∧Z=[]∧Sl kD 5 μ1 Y ((r.1).Kids)):=by
 refine xH E 13 func258 rfl (λd=>sg ?_)
 obtain ⟨u,z,rfl⟩:=i.form
 let a3:Value:=(.slice u a.Kids.length z)
 refine VE (ly d rfl (λW4 b3 d=>?_))
 obtain ⟨y,G,rfl⟩:=j.form
 let s:Value:=(.slice y c.Kids.length G)
 refine VE (ly d rfl (λW8 b7 d=>VE (lT d bG (λa5 b9 d=>Wa (lr (VA d (Mt (Mt Mh)) (C2 a.Op a.K a.kz.kA a.kz.Word u a.Kids.length z) aZ aG (VA d (Mt Mh) (C2 c.Op c.K c.kz.kA c.kz.Word y c.Kids.length G) aZ aG (VE (lJ (cs:=#[(.int .i64 a.Op),(.int .i64 a.K),(.string a.kz.kA),(.string a.kz.Word),a3,(.int .i64 c.Op),(.int .i64 c.K),(.string c.kz.kA),(.string c.kz.Word),s]) d (uB rfl rfl) (oa aH aG bG) (λO I d=>V (nB (v:=(.agg #[(.int .i64 2),(.int .i64 0),(.string zS),(.string zS),(.slice (some ⟨I,0,none⟩) 2 2)])) (uB rfl rfl) (nk bG cN (BB _ cN) kr)) ?_))))))))))
 obtain ⟨W,d,K,n,U⟩:=ST.zX (B:=[(I,Ob #[(.int .i64 a.Op),(.int .i64 a.K),(.string a.kz.kA),(.string a.kz.Word),a3,(.int .i64 c.Op),(.int .i64 c.K),(.string c.kz.kA),(.string c.kz.Word),s] 30)]) kT d (ml.lit kT (l:=[a,c]) (.cons (ys:=C2 a.Op a.K a.kz.kA a.kz.Word u a.Kids.length z) (kD.mk ⟨a3,rfl,i⟩) (.cons (ys:=C2 c.Op c.K c.kz.kA c.kz.Word y c.Kids.length G) (kD.mk ⟨s,rfl,j⟩) .nil)) rfl nb rfl)
 refine bS hm λg T hm=>?_
 let A:Value:=(.int .i64 ((g.1).Op))
 let a2:Value:=(.string (((g.1).kz).Word))
 let q:Value:=(.string (((g.1).kz).kA))
 refine VE (eD d (cM _) call114 (λL=>(Hg (⟨2,0,K0,[a,c]⟩:Formula) (.slice (some ⟨I,0,none⟩) 2 2) _ _ L (U.mono kT.mono (lz.refl _)) T)) ?_ (L0:=[]))
 rintro _ a9 b2 a4 d M p ⟨R,H,rfl,J⟩
 obtain rfl:=H.symm
 refine Wx rfl (Wx rfl ?_)
 obtain ⟨x,D,rfl⟩:=J.form
 let a0:Value:=(.slice x ((g.1).Kids).length D)
 let Q:Value:=(.agg #[A,(.int .i64 ((g.1).K)),q,a2,a0])
 refine VO (lp Q (#[A,(.int .i64 ((g.1).K)),q,a2,a0]) d rfl rfl aG oc nb rfl (λP d=>Wa (ln ?_)))
 replace d:=d.kB (Kb (Db (Db St)))
 refine lB ?_
 obtain rfl:=sj hm
 exact xg (v0:=Q) (v1:=(.int .i64 g.2)) rfl rfl (kL d.has Mh [A,(.int .i64 ((g.1).K)),q,a2,a0] rfl aZ aG) rfl ⟨_,_,_,rfl,(d.od Sn),(K.trans M),(n.trans p),(ST.ni d (oZ.mem Sn)),a0,rfl,rfl,J⟩
theorem LZ (d1:Value) (a0:List Formula) (r:(Formula×Int)) (w:World) {μ0:lF} (h0:pe μ0 [] w) (c7:Sl kD 5 μ0 d1 a0) (hm:xf a0=some r) :
  nN false pg0 194 [d1] w μ0 [] (λv L1 μ1=>∃y1,v=(.tuple #[(.agg #[(.int .i64 ((r.1).Op)),(.int .i64 ((r.1).K)),(.string (((r.1).kz).kA)),(.string (((r.1).kz).Word)),y1]),(.int .i64 (r.2))])∧L1=[]∧Sl kD 5 μ1 y1 ((r.1).Kids)):=by
 let e5:=(a0.drop (Int.toNat 1))
 refine xH h0 36 func194 rfl (λd=>sg (VE (lT d bG (λW2 P d=>Wa (lr (Wm (bS hm λx6 e3 hm=>VQ (mo (i:=0) (x0:=x6) kD.out aH aG rfl rfl c7 (kZ e3) (kY e3)) (λp3 ⟨_,⟨v8,rfl,f2⟩,f1⟩=>V (kF rfl (lx d.has f1 aZ aG)) (bS hm λj e6 hm=>?_)))))))))
 refine VE (eD d (cM _) call114 (λhh=>(Hg x6 v8 _ _ hh (f2.mono kT.mono (lz.refl _)) e6)) ?_ (L0:=[]))
 rintro _ i4 a9 i0 d a4 q ⟨i5,b6,rfl,d0⟩
 obtain rfl:=b6.symm
 refine Wm (Wx rfl (Wx rfl (VE (lT d bG (λi2 R d=>?_)))))
 obtain ⟨c2,c5,rfl⟩:=d0.form
 let d2:Value:=(.slice c2 ((j.1).Kids).length c5)
 refine VO (lp (.agg #[(.int .i64 ((j.1).Op)),(.int .i64 ((j.1).K)),(.string (((j.1).kz).kA)),(.string (((j.1).kz).Word)),d2]) (#[(.int .i64 ((j.1).Op)),(.int .i64 ((j.1).K)),(.string (((j.1).kz).kA)),(.string (((j.1).kz).Word)),d2]) d rfl rfl aG oc nb rfl (λi3 d=>Wa (lS (Wm (bS hm λ_ c8 hm=>VQ (Hd (i:=1) aH aG rfl rfl (c7.mono kT.mono a4) (ym c8) (yb c8)) (λf3 b5=>V (mx aH rfl b5.1) (Wm (ln (CJ hm (λu E W=>∃L U c3,lz a9 U∧Lo (keys []) w a9 U∧ST false (keys []) w W U ((R,Ob #[(.int .i64 u.2.1),(.int .i64 u.2.2.1),(.string u.2.2.2.1.kA),(.string u.2.2.2.1.Word),L] 30)::((P,Ol C9 30)::c3))∧E 2=(.pointer (some ⟨P,0,none⟩))∧E 4=(.pointer (some ⟨R,0,none⟩))∧E 5=(.int .i64 u.1)∧Sl kD 5 U L u.2.2.2.2) (λu d7=>?_) ?_)))))))))
 ·refine mj (λi E W=>∃O G H y x N z b2,(E 18= .int .i64 (i:Nat)∧E 17= .int .i64 (e5.length:Nat))∧lz a9 z∧Lo (keys []) w a9 z∧ST false (keys []) w W z ((R,Ob #[(.int .i64 G),(.int .i64 H),(.string y.kA),(.string y.Word),x] 30)::((P,Ol C9 30)::b2))∧E 2=(.pointer (some ⟨P,0,none⟩))∧E 4=(.pointer (some ⟨R,0,none⟩))∧E 5=(.int .i64 O)∧E 16=f3∧Sl kD 5 z x N∧uK (e5.drop i) O G H y N=some u) e5.length b5.1.len ⟨j.2,((j.1).Op),((j.1).K),((j.1).kz),d2,((j.1).Kids),a9,_,⟨rfl,rfl⟩,(lz.refl _),Lo.refl,(d.kB St),rfl,rfl,rfl,rfl,d0,d7⟩ dc dc dc (λ_ _ _ h=>by obtain ⟨_,_,_,_,_,_,_,_,aa,_⟩:=h; exact aa) ?_ ?_
  ·rintro e7 E W d6 ⟨O,G,H,y,x,N,z,b2,⟨eI,eN⟩,t,n,d,a2,D,a3,b4,I,c⟩
   obtain ⟨a,f6,e1,e0,e2⟩:=lX d6
   rw [e1] at c
   refine bg (VQ (mo (i:=(e7:Int)) (x0:=a) kD.out aH aG b4 eI (b5.1.mono kT.mono t) (aM _) e0) (λh1 ⟨_,⟨h4,rfl,c0⟩,d8⟩=>V (kF rfl (lx d.has d8 aZ aG)) (VE (lT d bG (λg2 g8 d=>?_)))))
   obtain ⟨Y,Z,rfl⟩:=c0.form
   let b8:=(C2 a.Op a.K a.kz.kA a.kz.Word Y a.Kids.length Z)
   refine VO (lp (.agg b8.toArray) (b8.toArray) d rfl rfl aG oc nb rfl (λg3 d=>lS (Wh a3 (Wi rfl (ln (CI c rfl (λd5 c=>?_) (λd5 c=>?_)))))))
   ·refine nu (ng (Ta (by simp) (ng (pM (kP ?_)))))
    obtain rfl:=sj c
    exact ⟨x,z,_,t,n,(d.kB (Db St)),a2,D,a3,I⟩
   refine kn (kR (V (kF D (kL d.has (Mt Mh) [(.int .i64 G),(.int .i64 H),(.string y.kA),(.string y.Word),x] rfl aZ aG)) (VA d Mh b8 aZ aG (bS c λg d9 c=>?_))))
   refine VE (eD d (cM _) call258 (λhh=>(JS (⟨G,H,y,N⟩:Formula) x a (.slice Y a.Kids.length Z) _ _ hh (I.mono kT.mono (lz.refl _)) (c0.mono kT.mono (lz.refl _)) d9)) ?_ (L0:=[]))
   rintro _ h5 f0 f9 d c9 s ⟨h8,a5,rfl,c1⟩
   obtain rfl:=a5.symm
   refine Wm (Wx rfl (Wx rfl ?_))
   obtain ⟨b0,b3,rfl⟩:=c1.form
   let d3:Value:=(.slice b0 ((g.1).Kids).length b3)
   replace d:=d.perm (Nb (Pb Pz) Nz)
   refine VO (lp (.agg #[(.int .i64 ((g.1).Op)),(.int .i64 ((g.1).K)),(.string (((g.1).kz).kA)),(.string (((g.1).kz).Word)),d3]) (#[(.int .i64 ((g.1).Op)),(.int .i64 ((g.1).K)),(.string (((g.1).kz).kA)),(.string (((g.1).kz).Word)),d3]) d D rfl aG oc nb rfl (λg7 d=>Wa (lu (lI (kP ?_)))))
   replace d:=d.kB (Kb (Db St))
   exact ⟨eI,g.2,((g.1).Op),((g.1).K),((g.1).kz),d3,((g.1).Kids),f0,_,⟨rfl,eN⟩,(t.trans c9),(n.trans s),(d.kB St),a2,D,rfl,b4,c1,(by rw [e2]; exact c)⟩
  rintro E W ⟨O,G,H,y,x,N,z,b2,⟨eI,eN⟩,t,n,d,a2,D,a3,b4,I,c⟩
  rw [aO] at c
  refine kP ?_
  obtain rfl:=sj c
  exact ⟨x,z,_,t,n,(d.kB St),a2,D,a3,I⟩
 rintro ⟨e8,Q,T,k,M⟩ E W ⟨L,U,c3,a8,p,d,A,e4,c6,b9⟩ B
 refine kQ (sg (Wh c6 (Wi rfl (ln (CI B rfl (λd4 B=>?_) (λd4 B=>?_))))))
 ·refine sg (V (nB (v:=(.agg C9.toArray)) uC (nk bG cN (BB _ cN) kr)) (Wh c6 ?_))
  replace d:=d.perm (Nb (Pb Pz) Nz)
  refine VO (lp (.agg C9.toArray) (C9.toArray) d A rfl aG oc nb rfl (λg0 d=>Wa (ln ?_)))
  replace d:=d.kB (Kb (Db St))
  refine lB (lV ?_)
  obtain rfl:=sj B
  exact xg (v0:=(.agg C9.toArray)) (v1:=(.int .i64 e8)) rfl A (kL d.has Mh C9 rfl aZ aG) rfl ⟨_,_,_,rfl,(d.od Sn),(a4.trans a8),(q.trans p),(ST.ni d (oZ.mem Sn)),(.slice none 0 0),rfl,rfl,(Sl.nil _ _ _)⟩
 refine kg (V (kF e4 (kL d.has Mh [(.int .i64 Q),(.int .i64 T),(.string k.kA),(.string k.Word),L] rfl aZ aG)) ?_)
 obtain ⟨J,K,rfl⟩:=b9.form
 let c4:=(C2 Q T k.kA k.Word J M.length K)
 replace d:=d.perm (Nb (Pb Pz) Nz)
 refine VO (lp (.agg c4.toArray) (c4.toArray) d A rfl aG oc nb rfl (λg1 d=>Wa (ln ?_)))
 replace d:=d.kB (Kb (Db St))
 refine lB ?_
 obtain rfl:=sj B
 exact xg (v0:=(.agg c4.toArray)) (v1:=(.int .i64 0)) rfl A (kL d.has Mh c4 rfl aZ aG) rfl ⟨_,_,_,rfl,(d.od Sn),(a4.trans a8),(q.trans p),(ST.ni d (oZ.mem Sn)),(.slice J M.length K),rfl,rfl,b9⟩
theorem Iy (k:lZ) (G H:Value) (s:kC) (r:(Formula×Int)) (w:World) {μ0:lF} (h0:pe μ0 [] w) (t:Sl kX 15 μ0 G k.kM) (y:Sl ls 8 μ0 H k.kU) (hm:Au k s=some r) :
  nN false pg0 124 [(.agg #[(.string k.Name),G,H]),(.agg (kI s).toArray)] w μ0 [] (λv L1 μ1=>∃y1,v=(.tuple #[(.agg #[(.int .i64 ((r.1).Op)),(.int .i64 ((r.1).K)),(.string (((r.1).kz).kA)),(.string (((r.1).kz).Word)),y1]),(.int .i64 (r.2))])∧L1=[]∧Sl kD 5 μ1 y1 ((r.1).Kids)):=by
 refine xH h0 41 func124 rfl (λd=>sg ?_)
 obtain ⟨A1,c2,rfl⟩:=t.form
 obtain ⟨A3,c4,rfl⟩:=y.form
 let f5:=(C4 k.Name A1 k.kM.length c2 A3 k.kU.length c4)
 refine VE (ly d rfl (λW6 b5 d=>VE (ly d rfl (λW8 b7 d=>VE (lT d bG (λi4 b9 d=>Wa (lr (VA d (Mt (Mt Mh)) f5 dJ cV (VA d (Mt Mh) (kI s) cA aR (bS hm λa e7 hm=>?_))))))))))
 let b8:Value:=(.int .i64 (((a.1).kE).K))
 let A:Value:=(.int .i64 (((a.1).kE).Op))
 let b1:=(((a.1).kE).kz)
 let L:Value:=(.string (b1.Word))
 let d8:Value:=(.string (b1.kA))
 let a0:=(((a.1).Signed).kC)
 refine VE (eD d (cM _) call192 (λO=>(LD k (.slice A1 k.kM.length c2) (.slice A3 k.kU.length c4) s _ _ O (t.mono lg.mono (lz.refl _)) (y.mono mf.mono (lz.refl _)) e7)) ?_ (L0:=[]))
 rintro _ j4 j8 i2 d I n ⟨j6,j7,a5,rfl,e9,c5⟩
 obtain rfl:=a5.symm
 refine Wm (Wx rfl (Wx rfl (VE (lT d fL (λi6 j3 d=>?_)))))
 obtain ⟨d9,e1,rfl⟩:=e9.form
 let f8:Value:=(.slice d9 (((a.1).Signed).Tag).length e1)
 obtain ⟨z,D,rfl⟩:=c5.form
 let a2:Value:=(.slice z (((a.1).kE).Kids).length D)
 refine VO (lp (.agg #[(.int .i64 (a0.Kind)),(.string ((a0.Head).kA)),(.string ((a0.Head).Word)),(.string (a0.mC)),(.string ((a0.B).kA)),(.string ((a0.B).Word)),(.string ((a0.C).kA)),(.string ((a0.C).Word)),(.string (a0.mA)),f8,A,b8,d8,L,a2]) (#[(.int .i64 (a0.Kind)),(.string ((a0.Head).kA)),(.string ((a0.Head).Word)),(.string (a0.mC)),(.string ((a0.B).kA)),(.string ((a0.B).Word)),(.string ((a0.C).kA)),(.string ((a0.C).Word)),(.string (a0.mA)),f8,A,b8,d8,L,a2]) d rfl rfl cO oc nb rfl (λi7 d=>Wa (lS (Wm (V (nv rfl) (ln (CI hm rfl (λe6 hm=>?_) (λe6 hm=>?_))))))))
 ·refine sg (V (nB (v:=(.agg C9.toArray)) uC (nk bG cN (BB _ cN) kr)) ?_)
  replace d:=d.perm (Nb (Pb Pz) Nz)
  refine VO (lp (.agg C9.toArray) (C9.toArray) d rfl rfl aG oc nb rfl (λi8 d=>Wa (ln ?_)))
  replace d:=d.kB (Kb (Db (Db (Db St))))
  refine lB (lV ?_)
  obtain rfl:=sj hm
  exact xg (v0:=(.agg C9.toArray)) (v1:=(.int .i64 42)) rfl rfl (kL d.has Mh C9 rfl aZ aG) rfl ⟨_,_,_,rfl,(d.od Sn),I,n,(ST.ni d (oZ.mem Sn)),(.slice none 0 0),rfl,rfl,(Sl.nil _ _ _)⟩
 refine kg (Wf Cy (VA d Mh [A,b8,d8,L,a2] aZ aG (VE (lJ (cs:=#[A,b8,d8,L,a2]) d (nL rfl) (oa aH aG bG) (λi9 e0 d=>Wa (ln ?_))))))
 replace d:=d.kB (Kb (Db St))
 refine kQ (sg (VA d (Mt (Mt (Mt Mh))) f5 dJ cV (VA d (Mt (Mt Mh)) (kI s) cA aR (bS hm λc6 e8 hm=>?_))))
 refine VE (eD d (cM _) call193 (λO=>(JZ k (.slice A1 k.kM.length c2) (.slice A3 k.kU.length c4) s _ _ O (t.mono lg.mono I) (y.mono mf.mono I) e8)) ?_ (L0:=[]))
 rintro _ j5 e2 i3 d a8 P ⟨f6,a6,rfl,a7⟩
 obtain rfl:=a6.symm
 refine V (mx cH rfl a7) (Wm (ln ?_))
 replace d:=d.kB (Kb (Kb (Db (Db St))))
 replace d:=d.F4
 refine mj (λi E W=>∃Q N K Z,(E 27= .int .i64 (i:Nat)∧E 26= .int .i64 (c6.length:Nat))∧ST false (keys []) w W e2 ((b9,Ol C9 30)::(K++Z))∧E 4=(.pointer (some ⟨b9,0,none⟩))∧E 8=Q∧E 25=f6∧ml 30 kD 5 e2 Q N K∧vv (c6.drop i) N=some r) c6.length a7.len ⟨(.slice (some ⟨e0,0,none⟩) 1 1),([(a.1).kE]),[(e0,Ob #[A,b8,d8,L,a2] 30)],_,⟨rfl,rfl⟩,(d.kB (Sb (Pr Pz) St)),rfl,rfl,rfl,(ml.lit kT (l:=[(a.1).kE]) (.cons (ys:=[A,b8,d8,L,a2]) (kD.mk ⟨a2,rfl,(c5.mono kT.mono a8)⟩) .nil) rfl nb rfl),hm⟩ dc dc dc (λ_ _ _ h=>by obtain ⟨_,_,_,_,aa,_⟩:=h; exact aa) ?_ ?_
 ·rintro f0 E W d0 ⟨Q,N,K,Z,⟨eI,eN⟩,d,T,a3,a4,U,j⟩
  obtain ⟨c,f7,d6,d5,d7⟩:=lX d0
  rw [d6] at j
  refine bg (VQ (mo (i:=(f0:Int)) (x0:=c) ls.out cH cD a4 eI a7 (aM _) d5) (λh2 ⟨_,⟨h5,h6,rfl,a9,d3⟩,d1⟩=>V (kF rfl (lx d.has d1 fB cD)) (VE (lT d fQ (λg0 g8 d=>?_)))))
  obtain ⟨u,x,rfl⟩:=a9.form
  let c7:=(C2 c.kE.Op c.kE.K c.kE.kz.kA c.kE.kz.Word u c.kE.Kids.length x)
  obtain ⟨b2,b6,rfl⟩:=d3.form
  let c0:=(C5 c.kz.kA c.kz.Word c.kE.Op c.kE.K c.kE.kz.kA c.kE.kz.Word u c.kE.Kids.length x b2 c.lN.length b6)
  refine VO (lp (.agg c0.toArray) (c0.toArray) d rfl rfl cD oc nb rfl (λg1 d=>ln (kR (Wh a3 (Wf AG (VA d Mh c7 aZ aG (VE (lJ (cs:=c7.toArray) d (nL rfl) (oa aH aG bG) (λg2 g9 d=>?_)))))))))
  replace d:=d.perm (Nr (Qb (Qb (Qb Qz))) Nz)
  refine bS j λf1 c9 j=>VE (tX (B:=K) kT d dc aH qF.1 qF.2.1 rfl qF.2.2.1 qF.2.2.2 rfl rfl U (AB.lit kT (l:=[c.kE]) (.cons (ys:=C2 c.kE.Op c.kE.K c.kE.kz.kA c.kE.kz.Word u c.kE.Kids.length x) (kD.mk ⟨(.slice u c.kE.Kids.length x),rfl,a9⟩) .nil) rfl nb (d.at_ (Ma Mh))) c9 (λg3 f2 e3 d c8=>Wa (lu (lI (kP ?_)))))
  replace d:=d.kB (Kr (Db (Db St)))
  exact ⟨eI,f2,f1,e3,_,⟨rfl,eN⟩,(d.kB (Sb (Pr Pz) St)),T,rfl,a4,c8,(by rw [d7]; exact j)⟩
 rintro E W ⟨Q,N,K,Z,⟨eI,eN⟩,d,T,a3,a4,U,j⟩
 rw [aO] at j
 refine kP (sg (Wh a3 ?_))
 replace d:=d.perm (Nr (Qb Qz) Nz)
 obtain ⟨i0,d,c1,p,d4⟩:=ST.zX kT d U
 refine bS j λg d2 j=>?_
 let g4:Value:=(.int .i64 ((g.1).Op))
 let f4:Value:=(.string (((g.1).kz).Word))
 let f3:Value:=(.string (((g.1).kz).kA))
 refine VE (eD d (cM _) call194 (λO=>(LZ Q N _ _ O (d4.mono kT.mono (lz.refl _)) d2)) ?_ (L0:=[]))
 rintro _ h7 i1 f9 d c3 q ⟨h8,Y,rfl,b0⟩
 obtain rfl:=Y.symm
 refine Wx rfl (Wx rfl ?_)
 obtain ⟨J,M,rfl⟩:=b0.form
 let R:Value:=(.slice J ((g.1).Kids).length M)
 let b4:Value:=(.agg #[g4,(.int .i64 ((g.1).K)),f3,f4,R])
 refine VO (lp b4 (#[g4,(.int .i64 ((g.1).K)),f3,f4,R]) d T rfl aG oc nb rfl (λg7 d=>Wa (lt ?_)))
 obtain rfl:=sj j
 exact xg (v0:=b4) (v1:=(.int .i64 g.2)) rfl T (kL d.has Mh [g4,(.int .i64 ((g.1).K)),f3,f4,R] rfl aZ aG) rfl ⟨_,_,_,rfl,(d.od Sn),(((I.trans a8).trans c1).trans c3),(((n.trans P).trans p).trans q),(ST.ni d (oZ.mem Sn)),R,rfl,rfl,b0⟩
theorem EL (G:Formula→(kz→Option Bool)→Option Bool) (Z:∀(a:Formula) (j:Value) (k:Value) (z:kz→Option Bool) (r:Bool) (w:World) (g:Sl kD 5 (hp w) j a.Kids) (D:sQ pg0 k (hp w) (λ(x:kz)=>[(.agg (kN x).toArray)]) (λ(r:Bool)=>(.bool r)) z),G a z=some r→la false pg0 130 [(.agg #[(.int .i64 a.Op),(.int .i64 a.K),(.string a.kz.kA),(.string a.kz.Word),j]),k] w (.bool r)) (a:Formula) (j k:Value) (z:kz→Option Bool) (r:Bool) (w:World) (g:Sl kD 5 (hp w) j a.Kids) (D:sQ pg0 k (hp w) (λ(x:kz)=>[(.agg (kN x).toArray)]) (λ(r:Bool)=>(.bool r)) z) (hm:zV G a z=some r) :
  la false pg0 130 [(.agg #[(.int .i64 a.Op),(.int .i64 a.K),(.string a.kz.kA),(.string a.kz.Word),j]),k] w (.bool r):=by
 refine cG 45 func130 rfl (λd=>sg ?_)
 obtain ⟨I,J,rfl⟩:=g.form
 refine VE (ly d rfl (λW4 T d=>Wa (lS (Wf qt (VB d Mh rfl rfl bX (Wi rfl (ln (CI hm rfl (λU hm=>?_) (λU hm=>?_)))))))))
 ·refine sg (Wm (Wf ux (VA d Mh (kN a.kz) bI aP (bS hm λv Y hm=>VE (DR a.kz d D (lz.refl _) rfl (pk rfl) Y (λW8 d=>Wa (ln ?_)))))))
  replace d:=d.kB (Db St)
  refine lB (lV ?_)
  obtain rfl:=sj hm
  exact rP d
 refine kg (Wa (lS (Wf pS (VB d Mh rfl rfl eZ (V (mx aH rfl g) (Wm (lu ?_)))))))
 refine kP (mj (λi E W=>∃y t,(E 18= .int .i64 (i:Nat)∧E 17= .int .i64 (a.Kids.length:Nat))∧ST false lD w W (hp w) ((T,Ol (C2 a.Op a.K a.kz.kA a.kz.Word I a.Kids.length J) 30)::t)∧E 1=k∧E 2=(.pointer (some ⟨T,0,none⟩))∧E 5=(.int .i64 y)∧E 16=(.slice I a.Kids.length J)∧xQ G z a (a.Kids.drop i) y=some r) a.Kids.length g.len ⟨0,_,⟨rfl,rfl⟩,(d.kB St),rfl,rfl,rfl,rfl,hm⟩ dc dc dc (λ_ _ _ h=>by obtain ⟨_,_,n,_⟩:=h; exact n) ?_ ?_)
 ·rintro a4 E W N ⟨y,t,⟨p,q⟩,d,K,u,B,M,c⟩
  obtain ⟨a5,a3,Q,s,a2⟩:=lX N
  rw [Q] at c
  rw [xQ] at c
  cases c
 rintro E W ⟨y,t,⟨p,q⟩,d,K,u,B,M,c⟩
 rw [aO] at c
 refine kP (kQ (sg (V (kJ qt u) (VB d Mh rfl rfl bX (ln (bg (Wi rfl (Wa (ln ?_)))))))))
 refine CI c rfl (λH c=>?_) (λH c=>?_)
 ·refine sg (Wh B (V (kJ pS u) (VB d Mh rfl rfl eZ (V (mx aH rfl g) (Wi rfl (Wa (ln ?_)))))))
  replace d:=d.kB (Db St)
  refine lB (nU (lV ?_))
  obtain rfl:=sj c
  exact rP d
 cases c
theorem Dq:∀(n:Nat) (c:Formula) (a:Value) (g:Value) (j:kz→Option Bool) (r:Bool) (w:World) (i:Sl kD 5 (hp w) a c.Kids) (k:sQ pg0 g (hp w) (λ(x:kz)=>[(.agg (kN x).toArray)]) (λ(r:Bool)=>(.bool r)) j) (_:vI n c j=some r),
  la false pg0 130 [(.agg #[(.int .i64 c.Op),(.int .i64 c.K),(.string c.kz.kA),(.string c.kz.Word),a]),g] w (.bool r)
 | 0=>by intros; rename_i h; simp only [vI] at h; cases h
 | n+1=>EL (vI n) (Dq n)
theorem D0 (a:Formula) (j k:Value) (G:kz→Option Bool) (r:Bool) (w:World) (c:Sl kD 5 (hp w) j a.Kids) (z:sQ pg0 k (hp w) (λ(x:kz)=>[(.agg (kN x).toArray)]) (λ(r:Bool)=>(.bool r)) G) (hm:AU a G=some r) :
  la false pg0 54 [(.agg #[(.int .i64 a.Op),(.int .i64 a.K),(.string a.kz.kA),(.string a.kz.Word),j]),k] w (.bool r):=by
 refine cG 16 func54 rfl (λd=>sg ?_)
 obtain ⟨u,y,rfl⟩:=c.form
 let a0:=(C2 a.Op a.K a.kz.kA a.kz.Word u a.Kids.length y)
 refine VE (ly d rfl (λU Z d=>Wa (lr (Wm (V (Pm underlying101 z.form rfl rfl) (Wm (Vg rfl rfl (kF rfl (kL d.has Mh a0 rfl aZ aG)) (bS hm λn K hm=>Pa rfl rfl (Eg d kw (sv a (.slice u a.Kids.length y) _ _ (c.mono kT.mono d.kG) K) (λY d=>V (lb rfl rfl) (Wm (LJ hm (λD E W=>∃B,ST false lD w W (hp w) B∧E 4=(.bool false)∧E 15=(.bool D)) 4 ?_ (λD g t=>?_)))))))))))))
 ·rintro T E W ⟨B,d,N,J⟩ H
  exact Wg J (lt (rQ H d))
 refine bC g (λi g=>?_) (λi g=>?_)
 ·refine ug i (kF rfl (kL d.has Mh a0 rfl aZ aG)) (ug i (kH rfl) (bS g λQ I g=>rU i (Eg d call130 ((Dq li) a (.slice u a.Kids.length y) k G _ _ (c.mono kT.mono d.kG) (z.mono d.kG) I) (λM d=>V (lb (cB i) rfl) ?_))))
  obtain rfl:=sj g
  exact t _ _ ⟨_,(d.kB (Db St)),rfl,rfl⟩
 refine un i (un i (un i (V (lf (cB i) rfl) ?_)))
 obtain rfl:=sj g
 exact t _ _ ⟨_,(d.kB (Db St)),rfl,rfl⟩
theorem HI (K:Nat) (a:Value) (G:List (kz×(List (ByteArray×Bool)))) (c:Value) (t:List kC) (j:Value) (D:List (kz×(List kC))) (g:Value) (u:List (ByteArray×(List kC))) (i:Value) (B:List pd) (J:Int) (I:kz) (a2:ByteArray) (r:Bool) (w:World) (H:tU (λ(x:kz)=>(.agg (kN x).toArray)) (nI Value.string (λ(x:Bool)=>(Value.bool x))) (hp w) a G) (T:Sl (Pl kI) 9 (hp w) c t) (Z:tU (λ(x:kz)=>(.agg (kN x).toArray)) (lm 52 kI 9) (hp w) j D) (U:tU Value.string (lm 52 kI 9) (hp w) g u) (Y:Sl (Pl oD) 3 (hp w) i B) (Q:At (hp w) (.pointer (some ⟨K,0,none⟩)) [a,c,j,g,i,(.int .i64 J)]) (hm:Ck G t D u B J I a2=some r) :
  la true pg0 128 [(.pointer (some ⟨K,0,none⟩)),(.agg (kN I).toArray),(.string a2)] w (.bool r):=by
 refine cG 19 func128 rfl (λn=>sg (VE (ly n rfl (λW2 v n=>Wa (ln (kQ ?_))))))
 replace n:=n.drew
 have d:=n.has.kB (Kb Sn)
 refine lC d lj (X 0 rfl d (kH rfl) (X 1 rfl d (EZ underlying183 rfl rfl) (X 2 rfl d (kH rfl) (Xg 3 rfl rfl rfl d (kH rfl) (Xg 4 rfl rfl rfl d (ql rfl) (np 5 rfl kr (.inr ⟨2,true,9,rfl,rfl,by decide,rfl⟩) rfl dc (λ_ _ h=>h) d (pE [a] Eh rfl Q rfl) (λs a3=>pu 6 rfl rfl rfl d (λ_ p=>kF rfl (pO p (y:=a) a3 isAgg242)) (pu 7 rfl rfl rfl d (λ_ p=>kF rfl (kL p Mh (kN I) rfl bI aP)) ?_))))))))
 obtain ⟨a4,a5,M,N⟩:=H
 refine pu 8 rfl rfl rfl d (λ_ p=>vV (k:=I) (z:=(.map none)) Jc ja jV rfl rfl M (λb o q=>p.1 b o (N b o q))) (Xg 9 rfl rfl rfl d (kH rfl) (pu 10 rfl rfl rfl d (λ_ p=>Je (k:=a2) (z:=false) (vf:=(λ(x:Bool)=>(Value.bool x))) QY jK zeroValue4 rfl rfl ((pI.Q0 ny.1 M I N).mono (λb o q=>p.1 b o q))) (X 11 rfl d (lb rfl rfl) (X 12 rfl d (mU rfl) (lH kr (kP ?_))))))
 exact lB (rQ hm n)
theorem Ix (Q:kz) (G B:Nat) (t:Value) (z:List (kz×(List (ByteArray×Bool)))) (a:Value) (j:List kC) (i:Value) (y:List (kz×(List kC))) (c:Value) (k:List (ByteArray×(List kC))) (g:Value) (u:List pd) (D:Int) (H:Nat) (T:ByteArray) (r:Bool) (w:World) (N:tU (λ(x:kz)=>(.agg (kN x).toArray)) (nI Value.string (λ(x:Bool)=>(Value.bool x))) (hp w) t z) (I:Sl (Pl kI) 9 (hp w) a j) (M:tU (λ(x:kz)=>(.agg (kN x).toArray)) (lm 52 kI 9) (hp w) i y) (J:tU Value.string (lm 52 kI 9) (hp w) c k) (K:Sl (Pl oD) 3 (hp w) g u) (U:At (hp w) (.pointer (some ⟨B,0,none⟩)) [t,a,i,c,g,(.int .i64 D)]) (Y:At (hp w) (.pointer (some ⟨G,0,none⟩)) [(.pointer (some ⟨B,0,none⟩))]) (Z:At (hp w) (.pointer (some ⟨H,0,none⟩)) [(.string T)]) (hm:Aj Q z j y k u D T=some r) :
  la true pg0 191 [(.agg (kN Q).toArray),(.pointer (some ⟨G,0,none⟩)),(.pointer (some ⟨H,0,none⟩))] w (.bool r):=by
 cases hm
theorem Fp (g:Value) (i r:List kC) (w:World) (a:Sl (Pl kI) 9 (hp w) g i) (hm:sZ i=some r) :
  oU true pg0 196 [g] w 52 kI 9 r:=by
 unfold sZ at hm
 refine Az 8 func196 rfl (λd=>sg (Wa (lS (Wm ?_))))
 obtain ⟨y,B,rfl⟩:=a.form
 refine V (CV aX rfl rfl) (ln ?_)
 rcases y with _ | z
 ·have u:=a.isNil
  replace hm:some []=some r:=by rw [u] at hm; simpa [oB,maxLen] using hm
  refine xX (rfl) (sg (Wa (lt (lV ?_))))
  obtain rfl:=sj hm
  exact nq (v:=(.slice none 0 0)) rfl rfl ⟨_,[],rfl,d.sI (λp n=>by cases n) (by simp),lm.nil _ _ _⟩
 ·refine tJ (rfl) (kg (VE (lJ (cs:=#[]) d uC (A0 [] aX aR dT dc rfl (by simp) rfl rfl) (λG k d=>Wm (bS hm λH t hm=>VE (pK (enc:=kI) (v:=(.slice (some ⟨k,0,none⟩) 0 0)) (vs:=(.slice (some z) i.length B)) (R:=[(k,Ob #[] 52)]) d mQ dc qM aX qG.1 qG.2.1 rfl qG.2.2.1 qG.2.2.2 rfl rfl (lm.lit (l:=[]) (enc:=kI) rfl dc rfl rfl) (a.mono (Pl.mono _) d.kG) t (λD x j d c=>Wa (lt ?_))))))))
  obtain rfl:=sj hm
  exact nq (v:=x) rfl rfl ⟨_,j,rfl,d.sI (λp n=>(Ml n)) c.nd,c⟩
theorem yp (g:Value) (t:List kC) (j:Value) (B:kC→Option Bool) (r:Int) (w:World) (c:Sl (Pl kI) 9 (hp w) g t) (D:sQ pg0 j (hp w) (λ(x:kC)=>[(.agg (kI x).toArray)]) (λ(r:Bool)=>(.bool r)) B) (hm:sR t B=some r) :
  la false pg0 180 [g,j] w (.int .i64 r):=by
 refine cG 19 func180 rfl (λd=>sg (Wa (lS (Wm (V (mx aX rfl c) (Wm (ln (mj (λi E W=>∃k,(E 8= .int .i64 (i:Nat)∧E 7= .int .i64 (t.length:Nat))∧ST false lD w W (hp w) k∧E 0=g∧E 1=j∧qo B (t.drop i) i=some r) t.length c.len ⟨_,⟨rfl,rfl⟩,(d.kB St),rfl,rfl,hm⟩ dc dc dc (λ_ _ _ h=>by obtain ⟨_,p,_⟩:=h; exact p) ?_ ?_))))))))
 ·rintro Q E W H ⟨k,⟨n,q⟩,d,u,y,a⟩
  obtain ⟨z,T,M,K,N⟩:=lX H
  rw [M] at a
  refine bg (Wh n (Wa (lr (Wh y (Wh u (Wm (VQ (th (enc:=kI) (i:=(Q:Int)) (x0:=z) aX aR rfl rfl c (aM _) K) (λY I=>V (kF rfl (lx d.has I cA aR)) (bS a λZ J a=>?_)))))))))
  refine VE (DR z d D (lz.refl _) rfl (pk rfl) J (λU d=>ln (CI a rfl (λG a=>?_) (λG a=>?_))))
  ·refine sg (Wm (Wa (lt (nU (lV (nU (lV ?_)))))))
   obtain rfl:=sj a
   exact rP d
  exact mM (lI (kP ⟨n,_,⟨rfl,q⟩,(d.kB St),u,y,(by rw [N]; exact a)⟩))
 rintro E W ⟨k,⟨n,q⟩,d,u,y,a⟩
 rw [aO] at a
 exact kP (sg (Wa (lt (rQ a d))))
theorem CK (j:Value) (a0:List kC) (t:LO) (H:Value) (f1:kC→Option Bool) (r:List kC) (w:World) {μ0:lF} (h0:pe μ0 (t++[]) w) (T:lm 52 kI 9 j a0 t) (a4:sQ pg0 H μ0 (λ(x:kC)=>[(.agg (kI x).toArray)]) (λ(r:Bool)=>(.bool r)) f1) (hm:sx a0 f1=some r) :
  mz false pg0 195 [j,H] w (t++[]) (λv L1 W'=>∃s S2,v=s∧L1=(S2++[])∧lm 52 kI 9 s r S2):=by
 refine wM h0 42 func195 rfl (λd=>sg (Wa (lr (Wm (Wm (bS hm λr1 d3 hm=>VE (Eg d call180 (yp j a0 H f1 _ _ (T.sl mQ (λb o n=>d.at_ (Ml n))) (a4.mono d.kG) d3) (λW3 d=>Wa (ln ?_)))))))))
 refine kQ (sg (Wm (Wi rfl (ln (CI hm rfl (λd2 hm=>?_) (λd2 hm=>?_))))))
 ·refine sg (Wm (Wa (lt (lV ?_))))
  obtain rfl:=sj hm
  exact nq (v:=j) rfl rfl ⟨_,_,rfl,(d.od (Kr Sn)),j,t,rfl,rfl,T⟩
 refine kS (Wm (Wi rfl (Wa (ln (me (nn (λm E W=>∃U I B D a2,ST false (keys (t++[])) w W μ0 (I++a2)∧E 0=j∧E 1=H∧E 5=(.int .i64 B)∧E 6=(.int .i64 D)∧lm 52 kI 9 j U I∧pn f1 m U B D=some r) li ⟨a0,t,r1,(wi0 .i64 (r1+1)),_,(d.kB St),rfl,rfl,rfl,rfl,T,hm⟩ ?_))))))
 rintro m E W ⟨U,I,B,D,a2,d,y,Q,G,K,g,a⟩
 cases m with
 | zero=>rw [pn] at a; cases a
 | succ c8=>
  refine kQ (sg (Wh K (Wh y (V (qm aX rfl g) (Wi rfl (ln (CI a rfl (λL a=>?_) (λL a=>?_))))))))
  ·refine kn (kQ (CJ a (λY E W=>∃J a3,ST false (keys (t++[])) w W μ0 (J++a3)∧E 0=j∧E 1=H∧E 5=(.int .i64 Y.2)∧E 6=(.int .i64 D)∧lm 52 kI 9 j Y.1 J) (λY c=>?_) ?_))
   ·refine bg (Wh y (Wh K (bS c λk M c=>VQ (mh (i:=D) (x0:=k) aX aR rfl rfl g (kZ M) (kY M)) (λe4 R=>V (kF rfl (nC d.has (λp n=>(Ml n)) g mQ R (kY M) cA aR)) (VE (lT d dT (λd7 e2 d=>VO (lp (.agg (kI k).toArray) ((kI k).toArray) d rfl rfl aR (qM k) nb rfl (λd8 d=>lr (Wh Q ?_))))))))))
    refine VA d Mh (kI k) cA aR (bS c λe6 b5 c=>VE (DR k d a4 (lz.refl _) rfl (pk rfl) b5 (λd9 d=>V (nv rfl) (ln (CI c rfl (λO c=>?_) (λO c=>?_))))))
    ·refine sg (Wh y (Wh G (VA d Mh (kI k) cA aR (bS c λd0 N c=>VQ (mh (i:=B) (x0:=d0) aX aR rfl rfl g (kZ N) (kY N)) (λe5 b4=>?_)))))
     replace d:=d.perm (Nr (Qb Qz) Nz)
     refine VO (qZ (u:=(.agg (kI k).toArray)) (x1:=k)  d g mQ qM rfl rfl rfl b4 (kY N) aR (λe0 c1 d A=>ln ?_))
     replace d:=d.kB (Kr (Db St))
     refine kR (Wh G (Wi rfl (Wa (lu (lI (kP ?_))))))
     obtain rfl:=sj c
     exact ⟨c1,_,(d.kB St),y,Q,rfl,K,A⟩
    refine mM (lI (kP ?_))
    obtain rfl:=sj c
    exact ⟨I,_,(d.kB (Db St)),y,Q,G,K,g⟩
   rintro ⟨c7,c9⟩ E W ⟨J,a3,d,c3,c4,c5,c6,b6⟩ P
   exact kR (Wh c6 (Wi rfl (Wa (ln ⟨c8,aT _,c7,J,c9,(wi0 .i64 (D+1)),_,(d.kB St),c3,c4,c5,rfl,b6,P⟩))))
  refine nu (ng (ng (pM (kP (sg (Wh y (Wh G (bS a λ_ Z a=>VQ (Be (i:=B) aX aR rfl rfl g (ym Z) (yb Z)) (λe7 b7=>VO (DT (z:=R5)  d g mQ qM aX dT b7 rfl rfl (λe1 c2 d a9=>lr (Wh y ?_))))))))))))
  refine Wh G (bS a λ_ q a=>VQ (FM (i:=B) aX aR rfl rfl a9 mQ (ym q) (yb q)) (λa5 b9=>Wa (lt ?_)))
  obtain rfl:=sj a
  exact nq (v:=a5) rfl rfl ⟨_,_,rfl,(d.od (Kr Sn)),a5,c2,rfl,rfl,b9⟩
theorem JP (a:kC) (r:Bool) (w:World) (hm:yU a=some r) :
  la true pg0 197 [(.agg (kI a).toArray)] w (.bool r):=by
 refine cG 6 func197 rfl (λd=>sg (VE (ly d rfl (λg j d=>Wa (lr (VA d Mh (kI a) cA aR (bS hm λk c hm=>VE (Eg d call144 (xT a _ _  c) (λi d=>V (nv rfl) (Wa (lu ?_)))))))))))
 refine kP ?_
 exact lB (rQ hm d)
theorem NO (c:Value) (k:List kC) (a:LO) (g:Value) (t:(kC×kC)→Option Int) (r:List kC) (w:World) {y:lF} (u:pe y (a++[]) w) (i:lm 52 kI 9 c k a) (j:Lb pg0 g y (λ(x:(kC×kC))=>[(.agg (kI x.1).toArray),(.agg (kI x.2).toArray)]) (λ(r:Int)=>(.int .i64 r)) t) (hm:Dn t k=some r) :
  mz true pg0 198 [c,g] w (a++[]) (λv z W'=>∃S,v=(.tuple #[])∧z=(S++[])∧lm 52 kI 9 c r S):=Mm (P:=pg0) (ρ:=O7) Th 9 cA aR kI mQ qM u.H u.S i j hm
theorem Et (j:Value) (a0:List kC) (x:LO) (r:List kC) (w:World) {μ0:lF} (h0:pe μ0 (x++[]) w) (B:lm 52 kI 9 j a0 x) (hm:uf a0=some r) :
  mz true pg0 199 [j] w (x++[]) (λv L1 W'=>∃y1 S2,v=y1∧L1=(S2++[])∧lm 52 kI 9 y1 r S2):=by
 refine wM h0 61 func199 rfl (λd=>sg (Wa (lS (Wm (V (qm aX rfl B) (Wi rfl (ln (CI hm rfl (λg0 hm=>?_) (λg0 hm=>?_)))))))))
 ·refine sg (Wm (Wa (lt (lV ?_))))
  obtain rfl:=sj hm
  exact nq (v:=j) rfl rfl ⟨_,_,rfl,(d.od (Kr Sn)),j,x,rfl,rfl,B⟩
 refine kS (Wa (ln (me (nn (λm E W=>∃t b4,ST true (keys (x++[])) w W μ0 (x++b4)∧E 0=j∧E 3=(.int .i64 t)∧pW a0 m t=some r) li ⟨1,_,(d.kB St),rfl,rfl,hm⟩ ?_))))
 rintro m E W ⟨t,b4,d,D,H,a⟩
 cases m with
 | zero=>rw [pW] at a; cases a
 | succ f5=>
  refine kQ (sg (Wh H (Wh D (V (qm aX rfl B) (Wi rfl (ln (CI a rfl (λd0 a=>?_) (λd0 a=>?_))))))))
  ·refine kn (kQ (me (kQ ?_)))
   replace d:=d.drew
   have n:=d.has.kB (Kr Sn)
   refine lC n lj (X 0 rfl n (kH D) (X 1 rfl n (kH H) (bS a λc3 Z a=>XQ 2 rfl n (mh (i:=t) (x0:=c3) aX aR rfl rfl B (kZ Z) (kY Z)) (λg7 d6=>XH 3 rfl n (λ_ s=>kF rfl (nC s (λp q=>(Ml q)) B mQ d6 (kY Z) cA aR)) (X 4 rfl n (kH D) (X 5 rfl n (kH H) (X 6 rfl n (lE rfl rfl rfl) (bS a λc4 A a=>XQ 7 rfl n (mh (i:=(wi0 .i64 (t-1))) (x0:=c4) aX aR rfl rfl B (kZ A) (kY A)) (λg8 d7=>XH 8 rfl n (λ_ s=>kF rfl (nC s (λp q=>(Ml q)) B mQ d7 (kY A) cA aR)) (X 9 rfl n (wD rfl rfl (oX gm) (tE (wJ _ c3 c4))) (lH kr (kP ?_))))))))))))
   refine CI a rfl (λd1 a=>?_) (λd1 a=>?_)
   ·refine sg (Wh D (Wh H (bS a λ_ R a=>VQ (Be (i:=t) aX aR rfl rfl B (ym R) (yb R)) (λc1 M=>Wa (lS (Wa (ln ?_)))))))
    refine CJ a (λU E W=>∃L b5,ST true (keys (x++[])) w W μ0 (L++b5)∧E 0=j∧E 3=(.int .i64 U.2)∧lm 52 kI 9 j U.1 L) (λU d4=>?_) ?_
    ·refine me (nn (λm E W=>∃O K Y y b6,ST true (keys (x++[])) w W μ0 (K++b6)∧E 0=j∧E 3=(.int .i64 Y)∧E 4=c1∧E 5=(.int .i64 y)∧lm 52 kI 9 j O K∧pR t m O Y y=some U) li ⟨a0,x,t,1,_,(d.kB St),D,H,rfl,rfl,B,d4⟩ ?_)
     rintro m E W ⟨O,K,Y,y,b6,d,Q,T,I,J,g,k⟩
     cases m with
     | zero=>rw [pR] at k; cases k
     | succ f6=>
      refine kQ (sg (Wh J (Wh I (V (Jk aX rfl M g) (Wi rfl (ln (CI k rfl (λd2 k=>?_) (λd2 k=>?_))))))))
      ·refine kn (kQ (CJ k (λP E W=>∃N b7,ST true (keys (x++[])) w W μ0 (N++b7)∧E 0=j∧E 3=(.int .i64 P.2)∧E 4=c1∧E 5=(.int .i64 y)∧lm 52 kI 9 j P.1 N) (λP c=>?_) ?_))
       ·refine me (kQ ?_)
        replace d:=d.drew
        have n:=d.has.kB (Kr Sn)
        refine lC n lj (X 0 rfl n (kH I) (X 1 rfl n (kH J) (bS c λc6 a2 c=>XQ 2 rfl n (Bj (i:=y) (x0:=c6) aX aR rfl rfl g M (kZ a2) (kY a2)) (λg9 d8=>XH 3 rfl n (λ_ s=>kF rfl (nC s (λp q=>(Ml q)) g mQ d8 (CE (kY a2)) cA aR)) (X 4 rfl n (kH I) (X 5 rfl n (kH J) (X 6 rfl n (lE rfl rfl rfl) (bS c λc7 a3 c=>XQ 7 rfl n (Bj (i:=(wi0 .i64 (y-1))) (x0:=c7) aX aR rfl rfl g M (kZ a3) (kY a3)) (λh1 d9=>XH 8 rfl n (λ_ s=>kF rfl (nC s (λp q=>(Ml q)) g mQ d9 (CE (kY a3)) cA aR)) (X 9 rfl n (E1 rfl rfl (oX gm) (AK (wJ _ c6 c7))) (lH kr (kP ?_))))))))))))
        refine CI c rfl (λd3 c=>?_) (λd3 c=>?_)
        ·refine sg (Wh Q (Wh T (Wh I (Wh J (bS c λa9 a4 c=>VQ (Bj (i:=y) (x0:=a9) aX aR rfl rfl g M (kZ a4) (kY a4)) (λh2 e0=>V (kF rfl (nC d.has (λp q=>(Ml q)) g mQ e0 (CE (kY a4)) cA aR)) (bS c λf8 a5 c=>VQ (mh (i:=Y) (x0:=f8) aX aR rfl rfl g (kZ a5) (kY a5)) (λh3 e1=>VO (qZ (u:=(.agg (kI a9).toArray)) (x1:=a9)  d g mQ qM rfl rfl rfl e1 (kY a5) aR (λg3 e8 d c9=>ln (kR ?_)))))))))))
         refine Wh T (Wi rfl (Wa (lu (lI (kP ?_)))))
         obtain rfl:=sj c
         exact ⟨e8,_,(d.kB St),Q,rfl,I,J,c9⟩
        refine mM (lI (kP ?_))
        obtain rfl:=sj c
        exact ⟨K,_,(d.kB St),Q,T,I,J,g⟩
       rintro ⟨f4,f7⟩ E W ⟨N,b7,d,f0,f1,f2,f3,e4⟩ d5
       exact kR (Wh f3 (Wi rfl (Wa (ln ⟨f6,aT _,f4,N,f7,(wi0 .i64 (y+1)),_,(d.kB St),f0,f1,f2,rfl,e4,d5⟩))))
      refine nu (ng (ng (pM (kP ?_))))
      obtain rfl:=sj k
      exact ⟨K,_,(d.kB St),Q,T,g⟩
    rintro ⟨g4,c5⟩ E W ⟨L,b5,d,b9,c0,b3⟩ G
    refine sg (Wh b9 (Wh c0 (bS G λ_ b1 G=>VQ (Be (i:=c5) aX aR rfl rfl b3 (ym b1) (yb b1)) (λh4 e2=>VO (DT (z:=R5)  d b3 mQ qM aX dT e2 rfl rfl (λg2 e7 d c8=>lr (Wh b9 (Wh c0 (bS G λ_ b2 G=>VQ (FM (i:=c5) aX aR rfl rfl c8 mQ (ym b2) (yb b2)) (λc2 e3=>?_))))))))))
    refine Wa (lt (nU (lV (lV (nU (lV ?_))))))
    obtain rfl:=sj G
    exact nq (v:=c2) rfl rfl ⟨_,_,rfl,(d.od (Kr Sn)),c2,e7,rfl,rfl,e3⟩
   exact mM (lI (kP (kR (Wh H (Wi rfl (Wa (ln ⟨f5,aT _,(wi0 .i64 (t+1)),_,(d.kB St),D,rfl,a⟩)))))))
  refine nu (ng (ng (pM (kP (sg (Wh D (Wa (lt ?_))))))))
  obtain rfl:=sj a
  exact nq (v:=j) rfl rfl ⟨_,_,rfl,(d.od (Kr Sn)),j,x,rfl,rfl,B⟩
theorem Ii (i:Value) (t r:List kC) (w:World) (B:Sl (Pl kI) 9 (hp w) i t) (hm:zW t=some r) :
  oU false pg0 125 [i] w 52 kI 9 r:=by
 refine Az 11 func125 rfl (λd=>sg (Wa (lr (Wm (bS hm λr1 T hm=>VE (As d call196 (oU.mK (Fp i t _ _ (B.mono (Pl.mono _) d.kG) T)) (λW3 v7 O R8 d a5 A Q=>bS hm λU D hm=>?_)))))))
 refine VE (eM d (Cr Qz Cn) call195 (λq _=>(CK v7 r1 R8 (.func (.func 197) #[] #[]) (λ(x:kC)=>yU x) _ _ q Q ⟨197,#[],#[],rfl,call197,λW x r L hm=>(JP x r W  hm).mK⟩ D)) ?_)
 rintro _ b5 b9 R d P s n ⟨k,K,a,rfl,I⟩
 obtain rfl:=a.symm
 replace d:=d.perm (Tr Tn)
 refine Wa (lr (Wm (bS hm λY G hm=>?_)))
 refine VE (eM d (Cr Qz Cn) call198 (λq _=>mz.mK (NO k U K (.func (.func 81) #[] #[]) (λ(x:(kC×kC))=>oS x.1 x.2) _ _ q I ⟨81,#[],rfl,call81,λW x r L hm=>DY x.1 x.2 r W  hm⟩ G)) ?_)
 rintro _ b6 c0 a9 d a2 u n ⟨M,c,rfl,J⟩
 obtain rfl:=c.symm
 replace d:=d.perm (Tr Tn)
 refine lr (Wm (bS hm λb4 H hm=>?_))
 refine VE (eM d (Cr Qz Cn) call199 (λq _=>mz.mK (Et k Y M _ _ q J H)) ?_)
 rintro _ b7 c1 b0 d a3 z n ⟨Z,N,g,rfl,j⟩
 obtain rfl:=g.symm
 replace d:=d.perm (Tr Tn)
 refine Wa (lt ?_)
 obtain rfl:=sj hm
 exact nq (v:=Z) rfl rfl ⟨_,N,rfl,d.sI (λp E=>(Ml E)) j.nd,j⟩
theorem FK (k:lZ) (H K c1:Value) (P:List kC) (a2:ByteArray) (r:List kC) (w:World) (g:Sl kX 15 (hp w) H k.kM) (J:Sl ls 8 (hp w) K k.kU) (h5:Sl (Pl kI) 9 (hp w) c1 P) (hm:Cd k P a2=some r) :
  oU false pg0 52 [(.agg #[(.string k.Name),H,K]),c1,(.string a2)] w 52 kI 9 r:=by
 refine Az 47 func52 rfl (λd=>sg ?_)
 obtain ⟨A1,c2,rfl⟩:=g.form
 let c8:Value:=(.slice A1 k.kM.length c2)
 obtain ⟨A3,c4,rfl⟩:=J.form
 let b1:=(C4 k.Name A1 k.kM.length c2 A3 k.kU.length c4)
 refine VE (ly d rfl (λW6 L d=>Wa (lr (Wm (Wm (bS hm λB i5 hm=>?_))))))
 refine VE (Bn d (cM _) call123 (λ_ _ _ _=>(Lj c1 P a2 _ _ (h5.mono (Pl.mono _) d.kG) i5)) (λW9 l1 g4 l0 d a5 af ae h4=>?_) (L0:=[]))
 obtain ⟨N,s,e0,f9,e1,g0,e2,g1,e3,g2,e4,g3,Q,c0,rfl,h6,h7,h8,h9,i0⟩:=h4
 replace c0:=c0.symm; subst c0
 replace d:=d.perm (Tb (Tb (Tb (Tr (Tr (Tr (Tr (Tr Tn))))))))
 refine Wa (lr (Wa (lS (Wf sV (VB d (Mt (Mt (Mt (Ma (Ma (Ma (Ma (Ma Mh)))))))) rfl rfl gL (V (mx cS rfl g) (Wm ?_)))))))
 refine ln (mj (λi E W=>∃D I G A b4,(E 19= .int .i64 (i:Nat)∧E 18= .int .i64 (k.kM.length:Nat))∧lz g4 A∧ST false lD w W A ((N,Ob #[(.pointer (some ⟨s,0,none⟩))] 183)::((s,Ob #[e0,e1,e2,e3,e4,(.int .i64 B.2.2.2.2.2.1)] 246)::((Q,Ob #[(.string B.2.2.2.2.2.2)] 9)::((L,Ol b1 25)::(G++(f9++(g0++(g1++(g2++(g3++b4))))))))))∧E 3=(.pointer (some ⟨L,0,none⟩))∧E 7=(.func (.func 191) #[] #[(.pointer (some ⟨N,0,none⟩)),(.pointer (some ⟨Q,0,none⟩))])∧E 8=D∧E 17=c8∧lm 52 kI 9 D I G∧xq k B (k.kM.drop i) I=some r) k.kM.length g.len ⟨(.slice none 0 0),([]),[],g4,_,⟨rfl,rfl⟩,(lz.refl _),(d.kB (Kb (Kb (Kb (Sb (Pr (Pr (Pr (Pr (Pr Pz))))) St))))),rfl,rfl,rfl,rfl,(lm.nil _ _ _),hm⟩ dc dc dc (λ_ _ _ h=>by obtain ⟨_,_,_,_,_,aa,_⟩:=h; exact aa) ?_ ?_)
 ·let b6:Value:=(.func (.func 191) #[] #[(.pointer (some ⟨N,0,none⟩)),(.pointer (some ⟨Q,0,none⟩))])
  rintro d8 E W f0 ⟨D,I,G,A,b4,⟨O,eN⟩,u,d,Y,Z,a3,a4,M,j⟩
  obtain ⟨a,i6,f8,f7,c6⟩:=lX f0
  rw [f8] at j
  refine bg (VQ (mo (i:=(d8:Int)) (x0:=a) kX.out cS cO a4 O (g.mono lg.mono (a5.trans u)) (aM _) f7) (λk1 ⟨_,⟨k4,k5,rfl,f5,f6⟩,f1⟩=>V (kF rfl (lx d.has f1 fP cO)) (VE (lT d fL (λi9 d0 d=>?_)))))
  obtain ⟨b2,b7,rfl⟩:=f5.form
  obtain ⟨b3,b9,rfl⟩:=f6.form
  let a0:=(C3 a.Signed.kC.Kind a.Signed.kC.Head.kA a.Signed.kC.Head.Word a.Signed.kC.mC a.Signed.kC.B.kA a.Signed.kC.B.Word a.Signed.kC.C.kA a.Signed.kC.C.Word a.Signed.kC.mA b2 a.Signed.Tag.length b7 a.kE.Op a.kE.K a.kE.kz.kA a.kE.kz.Word b3 a.kE.Kids.length b9)
  refine VO (lp (.agg a0.toArray) (a0.toArray) d rfl rfl cO oc nb rfl (λj0 d=>lr (V (kF Y (kL d.has (Mt (Mt (Mt (Mt Mh)))) b1 rfl dJ cV)) (Wf vg (Wf yD (VA d Mh (kI a.Signed.kC) cA aR (bS j λc f2 j=>?_)))))))
  let e5:Value:=(.string (((c.1).kz).Word))
  let d1:Value:=(.string (((c.1).kz).kA))
  refine VE (eD d (cM _) call124 (λhh=>(Iy k c8 (.slice A3 k.kU.length c4) a.Signed.kC _ _ hh (g.mono lg.mono (a5.trans u)) (J.mono mf.mono (a5.trans u)) f2)) ?_ (L0:=[]))
  rintro _ k6 c3 i8 d a9 ab ⟨k8,a6,rfl,c7⟩
  obtain rfl:=a6.symm
  refine Wm (Wx rfl (Wx rfl (VE (lT d bG (λj4 k0 d=>?_)))))
  obtain ⟨T,U,rfl⟩:=c7.form
  let b8:Value:=(.slice T ((c.1).Kids).length U)
  refine VO (lp (.agg #[(.int .i64 ((c.1).Op)),(.int .i64 ((c.1).K)),d1,e5,b8]) (#[(.int .i64 ((c.1).Op)),(.int .i64 ((c.1).K)),d1,e5,b8]) d rfl rfl aG oc nb rfl (λj5 d=>Wa (lr (Wm (Wi rfl (Wm (LJ j (λd9 E W=>∃c9,ST false lD w W c3 ((d0,Ol a0 57)::((N,Ob #[(.pointer (some ⟨s,0,none⟩))] 183)::((s,Ob #[e0,e1,e2,e3,e4,(.int .i64 B.2.2.2.2.2.1)] 246)::((Q,Ob #[(.string B.2.2.2.2.2.2)] 9)::((L,Ol b1 25)::(G++(f9++(g0++(g1++(g2++(g3++c9)))))))))))∧E 3=(.pointer (some ⟨L,0,none⟩))∧E 7=b6∧E 8=D∧E 10=(.pointer (some ⟨d0,0,none⟩))∧E 17=c8∧E 18=(.int .i64 (k.kM.length:Int))∧E 19=(.int .i64 (d8:Int))∧E 37=(.bool d9)) 4 ?_ (λd9 z b0=>?_))))))))
  ·rintro k7 E W ⟨c9,d,d2,d3,d4,h2,d5,d6,d7,h3⟩ y
   refine ln (CI y h3 (λe8 y=>?_) (λe8 y=>?_))
   ·refine kR (Wh d4 (V (kJ vg h2) (Wf yD (VA d Mh (kI a.Signed.kC) cA aR (VE (lJ (cs:=(kI a.Signed.kC).toArray) d (nL rfl) (oa aX aR dT) (λj6 h1 d=>?_)))))))
    replace d:=d.perm (Nr (Qb (Qb (Qb (Qb (Qb (Qb Qz)))))) Nz)
    refine bS y λi1 e9 y=>VE (pK (enc:=kI) (v:=D) (vs:=(.slice (some ⟨h1,0,none⟩) 1 1)) (R:=G) d mQ dc qM aX qG.1 qG.2.1 rfl qG.2.2.1 qG.2.2.2 rfl rfl M (Sl.lit (enc:=kI) (l:=[a.Signed.kC]) mQ rfl nb rfl (d.at_ (Ma Mh))) e9 (λj7 i2 g7 d e7=>Wa (lu (lI (kP ?_)))))
    replace d:=d.kB (Kr (Db (Db St)))
    exact ⟨d7,i2,i1,g7,c3,_,⟨rfl,d6⟩,(u.trans a9),(d.kB (Sb (Pr Pz) (Sb (Pr Pz) (Sb (Pr Pz) (Sb (Pr Pz) St))))),d2,d3,rfl,d5,e7,(by rw [c6]; exact y)⟩
   refine mM (lI (kP ?_))
   replace d:=d.kB (Db St)
   exact ⟨d7,D,I,G,c3,_,⟨rfl,d6⟩,(u.trans a9),(d.kB St),d2,d3,d4,d5,M,(by rw [c6]; exact y)⟩
  refine bC z (λt z=>?_) (λt z=>?_)
  ·refine ug t (kF rfl (kL d.has Mh [(.int .i64 ((c.1).Op)),(.int .i64 ((c.1).K)),d1,e5,b8] rfl aZ aG)) (ug t (kH Z) (bS z λk2 f3 z=>rU t (Eg d call54 (D0 c.1 b8 b6 (λ(x:kz)=>Aj x B.1 B.2.1 B.2.2.1 B.2.2.2.1 B.2.2.2.2.1 B.2.2.2.2.2.1 B.2.2.2.2.2.2) _ _ (c7.mono kT.mono d.kG) ⟨191,#[],#[(.pointer (some ⟨N,0,none⟩)),(.pointer (some ⟨Q,0,none⟩))],rfl,call191,λW x r q hm=>(Ix x N s e0 B.1 e1 B.2.1 e2 B.2.2.1 e3 B.2.2.2.1 e4 B.2.2.2.2.1 B.2.2.2.2.2.1 Q B.2.2.2.2.2.2 r W (h6.at (λb o n=>q _ _ ((λb o n=>d.at_ (Mt (Mt (Mt (Mt (Mt (Mt (Ma (Ml n))))))))) b o n))) (h7.sl mQ (λb o n=>q _ _ ((λb o n=>d.at_ (Mt (Mt (Mt (Mt (Mt (Mt (Ma (Ma (Ml n)))))))))) b o n))) (h8.at (λb o n=>q _ _ ((λb o n=>d.at_ (Mt (Mt (Mt (Mt (Mt (Mt (Ma (Ma (Ma (Ml n))))))))))) b o n))) (h9.at (λb o n=>q _ _ ((λb o n=>d.at_ (Mt (Mt (Mt (Mt (Mt (Mt (Ma (Ma (Ma (Ma (Ml n)))))))))))) b o n))) ((i0.Ju BX).mono (Pl.mono _) (nZ (λb o n=>q _ _ ((λb o n=>d.at_ (Mt (Mt (Mt (Mt (Mt (Mt (Ma (Ma (Ma (Ma (Ma (Ml n))))))))))))) b o n)))) (At.of (q _ _ (d.at_ (Mt (Mt (Mt Mh))))) _ rfl) (At.of (q _ _ (d.at_ (Mt (Mt Mh)))) _ rfl) (At.of (q _ _ (d.at_ (Mt (Mt (Mt (Mt Mh)))))) _ rfl) hm).mK⟩ f3) (λj8 d=>V (lb (cB t) rfl) ?_))))
   obtain rfl:=sj z
   exact b0 _ _ ⟨_,(d.kB (Db St)),Y,Z,a3,rfl,a4,eN,O,rfl⟩
  refine un t (un t (un t (V (lf (cB t) rfl) ?_)))
  obtain rfl:=sj z
  exact b0 _ _ ⟨_,(d.kB (Db St)),Y,Z,a3,rfl,a4,eN,O,rfl⟩
 rintro E W ⟨D,I,G,A,b4,⟨O,eN⟩,u,d,Y,Z,a3,a4,M,j⟩
 rw [aO] at j
 refine kP ?_
 replace d:=d.kB (Db (Db (Db (Db (Kr (Dr (Dr (Dr (Dr (Dr St))))))))))
 refine sg (Wh a3 (bS j λk3 f4 j=>VE (As d call125 (Ii D I _ _ (M.sl mQ (λb o n=>d.at_ (Ml n))) f4) (λj9 i3 k9 g8 d i4 ad c5=>Wa (ln ?_)))))
 replace d:=d.kB (Kr (Dr St))
 refine lB ?_
 obtain rfl:=sj j
 exact nq (v:=i3) rfl rfl ⟨_,g8,rfl,d.sI (λp n=>(Ml n)) c5.nd,c5⟩
theorem Hj (g:lZ) (D K:Value) (i:lZ) (G M:Value) (r:((List kC)×(List kC)×Int)) (w:World) (x:Sl kX 15 (hp w) D g.kM) (I:Sl ls 8 (hp w) K g.kU) (y:Sl kX 15 (hp w) G i.kM) (J:Sl ls 8 (hp w) M i.kU) (hm:DC g i=some r) :
  mz false pg0 17 [(.agg #[(.string g.Name),D,K]),(.agg #[(.string i.Name),G,M])] w [] (λv L1 W'=>∃y1 S2 y4 S5,v=(.tuple #[y1,y4,(.int .i64 (r.2.2))])∧L1=(S2++(S5++[]))∧lm 52 kI 9 y1 r.1 S2∧lm 52 kI 9 y4 r.2.1 S5):=by
 refine Az 41 func17 rfl (λd=>sg ?_)
 obtain ⟨A1,c2,rfl⟩:=x.form
 obtain ⟨A3,c4,rfl⟩:=I.form
 let A:=(C4 g.Name A1 g.kM.length c2 A3 g.kU.length c4)
 refine VE (ly d rfl (λW6 s d=>?_))
 obtain ⟨A7,c8,rfl⟩:=y.form
 obtain ⟨A9,R,rfl⟩:=J.form
 let a0:=(C4 i.Name A7 i.kM.length c8 A9 i.kU.length R)
 refine VE (ly d rfl (λf8 q d=>Wa (Wa (Wa (lr (Wa (Wa (lr (Wa ?_)))))))))
 refine ln (rZ (me (nn (λm E W=>∃t a4 N u a5 Q H a9 b9,lz (hp w) a9∧ST false lD w W a9 ((q,Ol a0 25)::((s,Ol A 25)::(Q++(N++b9))))∧E 2=(.pointer (some ⟨s,0,none⟩))∧E 3=(.pointer (some ⟨q,0,none⟩))∧E 7=t∧E 8=u∧E 9=(.int .i64 H)∧lm 52 kI 9 t a4 N∧lm 52 kI 9 u a5 Q∧xY g i m a4 a5 H=some r) li ⟨(.slice none 0 0),([]),[],(.slice none 0 0),([]),[],0,(hp w),_,(lz.refl _),(d.kB St),rfl,rfl,rfl,rfl,rfl,(lm.nil _ _ _),(lm.nil _ _ _),hm⟩ ?_)))
 rintro m E W ⟨t,a4,N,u,a5,Q,H,a9,b9,j,d,T,U,Y,Z,c9,a2,a3,c⟩
 cases m with
 | zero=>rw [xY] at c; cases c
 | succ e6=>
  refine kQ (me (kQ ?_))
  replace d:=d.drew
  have n:=d.has.kB (Kb (Kb Sn))
  refine lC n lj (XH 0 rfl n (λ_ p=>kF T (kL p (Mt Mh) A rfl dJ cV)) (X 1 rfl n (kH Z) (X 2 rfl n (kJ vE U) (XH 3 rfl n (λ_ p=>kF rfl (kV p Mh rfl bT)) (XH 5 rfl n (λ_ p=>kF U (kL p Mh a0 rfl dJ cV)) (X 6 rfl n (kH Y) (X 7 rfl n (kJ vE T) (XH 8 rfl n (λ_ p=>kF rfl (kV p (Mt Mh) rfl bT)) (bS c λe7 d7 c=>XE 4 rfl (As d call52 (FK g (.slice A1 g.kM.length c2) (.slice A3 g.kU.length c4) u a5 i.Name _ _ (x.mono lg.mono (j.trans d.kG)) (I.mono mf.mono (j.trans d.kG)) (a3.sl mQ (λb o P=>d.at_ (Mt (Mt (Ml P))))) d7) (λf4 d2 f7 c1 d k L b1=>?_)))))))))))
  have n:=d.has.DM k (Dr (Kb (Kb Sn)))
  refine ⟨n,(bS c λe8 d8 c=>XE 9 rfl (As d call52 (FK i (.slice A7 i.kM.length c8) (.slice A9 i.kU.length R) t a4 g.Name _ _ (y.mono lg.mono ((j.trans k).trans d.kG)) (J.mono mf.mono ((j.trans k).trans d.kG)) (a2.sl mQ (λb o P=>d.at_ (Ma (Mt (Mt (Ma (Ml P))))))) d8) (λf5 d3 d4 c3 d a7 O b2=>?_)))⟩
  have n:=d.has.DM (k.trans a7) (Dr (Dr (Kb (Kb Sn))))
  refine ⟨n,(X 10 rfl n (mU rfl) (X 11 rfl n (mU rfl) (lH kr (kP (kQ (sg (Wm (V (qm aX rfl b1) (Wh Y (V (qm aX rfl a2) (Wi rfl (Wm (LJ c (λd1 E W=>∃c0,ST false lD w W d4 ((q,Ol a0 25)::((s,Ol A 25)::(c3++(c1++(Q++(N++c0))))))∧E 2=(.pointer (some ⟨s,0,none⟩))∧E 3=(.pointer (some ⟨q,0,none⟩))∧E 7=t∧E 8=u∧E 9=(.int .i64 H)∧E 10=d2∧E 11=d3∧E 35=(.bool d1)) 6 ?_ (λd1 B a8=>?_))))))))))))))⟩
  ·rintro f6 E W ⟨c0,d,d9,e0,e1,e2,d0,e3,e4,e5⟩ z
   refine ln (CI z e5 (λd6 z=>?_) (λd6 z=>?_))
   ·refine sg (Wh e1 (Wh e2 (Wh d0 (Wa (Wa (Wa (ln ?_)))))))
    replace d:=d.kB (Db (Db (Dr (Dr St))))
    refine lB (lV (nU (lV (lV (nU (lV ?_))))))
    obtain rfl:=sj z
    exact LB (v0:=t) (v1:=u) (v2:=(.int .i64 H)) rfl rfl rfl rfl ⟨_,_,rfl,(d.OL (Sr (Qr Qz) (Kr Sn))),t,N,u,Q,rfl,rfl,a2,a3⟩
   refine kn ?_
   replace d:=d.kB (Kb (Kb (Kr (Kr (Dr (Dr St))))))
   exact kR (Wh e3 (Wh e4 (Wa (Wa (lu (lI (kP (kR (Wh d0 (Wi rfl (Wa (ln ⟨e6,aT _,d2,e7,c1,d3,e8,c3,(wi0 .i64 (H+1)),d4,_,((j.trans k).trans a7),(d.kB St),d9,e0,rfl,rfl,rfl,b1,b2,z⟩))))))))))))
  refine bC B (λa B=>?_) (λa B=>?_)
  ·refine ug a (kH rfl) (ug a (qm aX rfl b2) (ug a (kH Z) (ug a (qm aX rfl a3) (ug a (lE rfl rfl rfl) (V (lb (cB a) rfl) ?_)))))
   obtain rfl:=sj B
   exact a8 _ _ ⟨_,(d.kB (Sb (Pr (Pr Pz)) (Sb (Pr (Pr Pz)) St))),T,U,Y,Z,c9,rfl,rfl,rfl⟩
  refine un a (un a (un a (un a (un a (V (lf (cB a) rfl) ?_)))))
  obtain rfl:=sj B
  exact a8 _ _ ⟨_,(d.kB (Sb (Pr (Pr Pz)) (Sb (Pr (Pr Pz)) St))),T,U,Y,Z,c9,rfl,rfl,rfl⟩
theorem J0 (k:lZ) (j B:Value) (t:lZ) (a c:Value) (r:((List kC)×(List (kz×(List (ByteArray×Bool))))×(List kC)×(List (kz×(List kC)))×(List (ByteArray×(List kC)))×(List pd)×Int×ByteArray)) (w:World) (g:Sl kX 15 (hp w) j k.kM) (y:Sl ls 8 (hp w) B k.kU) (i:Sl kX 15 (hp w) a t.kM) (z:Sl ls 8 (hp w) c t.kU) (hm:E8 k t=some r) :
  mz false pg0 53 [(.agg #[(.string k.Name),j,B]),(.agg #[(.string t.Name),a,c])] w [] (λv L1 W'=>∃O S2 q p P S7 R M a2 N a3 Q a4 T Y,v=(.tuple #[O,(.func (.func 127) #[] #[(.pointer (some ⟨q,0,none⟩)),(.pointer (some ⟨Y,0,none⟩))])])∧L1=((q,Ob #[(.pointer (some ⟨p,0,none⟩))] 183)::((p,Ob #[P,R,a2,a3,a4,(.int .i64 (r.2.2.2.2.2.2.1))] 246)::((Y,Ob #[(.string (r.2.2.2.2.2.2.2)),a,c] 25)::(S2++(S7++(M++(N++(Q++(T++[])))))))))∧lm 52 kI 9 O r.1 S2∧nP (λ(x:kz)=>(.agg (kN x).toArray)) (nI Value.string (λ(x:Bool)=>(Value.bool x))) P r.2.1 S7∧lm 52 kI 9 R r.2.2.1 M∧nP (λ(x:kz)=>(.agg (kN x).toArray)) (lm 52 kI 9) a2 r.2.2.2.1 N∧nP Value.string (lm 52 kI 9) a3 r.2.2.2.2.1 Q∧sL 285 oD 3 a4 r.2.2.2.2.2.1 T):=by
 refine Az 21 func53 rfl (λd=>sg ?_)
 obtain ⟨A1,c2,rfl⟩:=g.form
 obtain ⟨A3,s,rfl⟩:=y.form
 refine VE (ly d rfl (λW6 p d=>?_))
 obtain ⟨A7,A,rfl⟩:=i.form
 obtain ⟨A9,I,rfl⟩:=z.form
 refine VE (ly d rfl (λf4 U d=>Wa (Wa (lr (VA d (Mt Mh) (C4 k.Name A1 k.kM.length c2 A3 k.kU.length s) dJ cV (VA d Mh (C4 t.Name A7 t.kM.length A A9 t.kU.length I) dJ cV (bS hm λd7 b7 hm=>?_)))))))
 refine VE (Bn d (cM _) call17 (λ_ _ _ _=>(Hj k (.slice A1 k.kM.length c2) (.slice A3 k.kU.length s) t (.slice A7 t.kM.length A) (.slice A9 t.kU.length I) _ _ (g.mono lg.mono d.kG) (y.mono mf.mono d.kG) (i.mono lg.mono d.kG) (z.mono mf.mono d.kG) b7)) (λf5 g0 g3 f1 d e6 E n W=>?_) (L0:=[]))
 obtain ⟨g2,f3,K,c9,D,rfl,f0,J⟩:=W
 replace D:=D.symm; subst D
 replace d:=d.perm (Tr (Tr Tn))
 refine Wm (Wx rfl (Wx rfl (Wx rfl (Wa (Wa (Wa (ln ?_)))))))
 replace d:=d.kB (Dr (Kr (Kb (Db St))))
 refine sg (Wm (bS hm λf9 b9 hm=>?_))
 refine VE (Bn d (cM _) call126 (λ_ _ _ _=>(IE K d7.2.1 _ _ (J.sl mQ (λb o hq=>d.at_ (Ml hq))) b9)) (λf6 g1 g4 f2 d e7 L n b6=>?_) (L0:=[]))
 obtain ⟨H,d9,d0,e0,d1,e1,d2,e2,d3,e3,d4,G,rfl,c0,c1,c3,c5,c6⟩:=b6
 replace G:=G.symm; subst G
 replace d:=d.perm (Tb (Tr (Tr (Tr (Tr (Tr Tn))))))
 refine VE (lT d zeroValue183 (λf7 Z d=>VO (lp (.pointer (some ⟨H,0,none⟩)) (#[(.pointer (some ⟨H,0,none⟩))]) d rfl rfl sizeOf183 oc nb rfl (λf8 d=>lr (Wm (V (qz (by exact qJ rfl rfl) rfl) (Wa (Wa (lt ?_)))))))))
 obtain rfl:=sj hm
 exact FI (v:=K) (u:=(.func (.func 127) #[] #[(.pointer (some ⟨Z,0,none⟩)),(.pointer (some ⟨U,0,none⟩))])) rfl rfl rfl ⟨_,_,rfl,(d.OL (Kb (Kb (Sb (Pr (Pr (Pr (Pr (Pr (Pr Pz)))))) (Sr (Qr (Qr (Qr (Qr (Qr Qz))))) (Kr (Kr (Kr (Kr (Kr Sn)))))))))),K,c9,Z,H,d9,d0,e0,d1,e1,d2,e2,d3,e3,d4,U,rfl,rfl,J,c0,c1,c3,c5,c6⟩
theorem Hz (Z:kz) (n I:Nat) (u:Value) (G:List (kz×(List (ByteArray×Bool)))) (a:Value) (k:List kC) (j:Value) (B:List (kz×(List kC))) (c:Value) (t:List (ByteArray×(List kC))) (i:Value) (z:List pd) (Q:Int) (a2:Nat) (g:ByteArray) (D:Value) (J:List lh) (H:Value) (N:List mn) (r:Bool) (w:World) (Y:tU (λ(x:kz)=>(.agg (kN x).toArray)) (nI Value.string (λ(x:Bool)=>(Value.bool x))) (hp w) u G) (K:Sl (Pl kI) 9 (hp w) a k) (U:tU (λ(x:kz)=>(.agg (kN x).toArray)) (lm 52 kI 9) (hp w) j B) (M:tU Value.string (lm 52 kI 9) (hp w) c t) (T:Sl (Pl oD) 3 (hp w) i z) (a3:At (hp w) (.pointer (some ⟨I,0,none⟩)) [u,a,j,c,i,(.int .i64 Q)]) (a4:At (hp w) (.pointer (some ⟨n,0,none⟩)) [(.pointer (some ⟨I,0,none⟩))]) (q:Sl kX 15 (hp w) D J) (s:Sl ls 8 (hp w) H N) (a5:At (hp w) (.pointer (some ⟨a2,0,none⟩)) [(.string g),D,H]) (hm:zl Z G k B t z Q g J N=some r) :
  la true pg0 127 [(.agg (kN Z).toArray),(.pointer (some ⟨n,0,none⟩)),(.pointer (some ⟨a2,0,none⟩))] w (.bool r):=by
 refine cG 10 func127 rfl (λd=>sg (VE (ly d rfl (λW2 v d=>Wa (lr (V (kF rfl (pO d.has (y:=(.pointer (some ⟨I,0,none⟩))) a4 isAgg183)) (VA d Mh (kN Z) bI aP (VQ (pE [(.string g)] vE rfl a5 rfl) (λA p=>V (kF rfl (pO d.has (y:=(.string g)) p bT)) (bS hm λE a9 hm=>VE (Eg d call128 (HI I u G a k j B c t i z Q Z g _ _ (Y.mono d.kG) (K.mono (Pl.mono _) d.kG) (U.mono d.kG) (M.mono d.kG) (T.mono (Pl.mono _) d.kG) (a3.mono d.kG) a9) (λW8 d=>?_))))))))))))
 refine Wa (ln ?_)
 exact lB (rQ hm d)
theorem Iv (y:lZ) (t D:Value) (c:lZ) (u G:Value) (i:Formula) (H:Value) (r:Bool) (w:World) (k:Sl kX 15 (hp w) t y.kM) (z:Sl ls 8 (hp w) D y.kU) (g:Sl kX 15 (hp w) u c.kM) (j:Sl ls 8 (hp w) G c.kU) (B:Sl kD 5 (hp w) H i.Kids) (hm:Dp y c i=some r) :
  la false pg0 19 [(.agg #[(.string y.Name),t,D]),(.agg #[(.string c.Name),u,G]),(.agg #[(.int .i64 i.Op),(.int .i64 i.K),(.string i.kz.kA),(.string i.kz.Word),H])] w (.bool r):=by
 refine cG 18 func19 rfl (λd=>sg ?_)
 obtain ⟨A1,c2,rfl⟩:=k.form
 obtain ⟨A3,s,rfl⟩:=z.form
 refine VE (ly d rfl (λW6 b5 d=>?_))
 obtain ⟨U,Z,rfl⟩:=g.form
 obtain ⟨Y,K,rfl⟩:=j.form
 refine VE (ly d rfl (λd4 d8 d=>?_))
 obtain ⟨M,T,rfl⟩:=B.form
 refine VE (ly d rfl (λd5 d9 d=>Wa (lr (VA d (Mt (Mt Mh)) (C4 y.Name A1 y.kM.length c2 A3 y.kU.length s) dJ cV (VA d (Mt Mh) (C4 c.Name U c.kM.length Z Y c.kU.length K) dJ cV (bS hm λa E hm=>?_))))))
 refine VE (Bn d (cM _) call53 (λ_ _ _ _=>(J0 y (.slice A1 y.kM.length c2) (.slice A3 y.kU.length s) c (.slice U c.kM.length Z) (.slice Y c.kU.length K) _ _ (k.mono lg.mono d.kG) (z.mono mf.mono d.kG) (g.mono lg.mono d.kG) (j.mono mf.mono d.kG) E)) (λd6 e1 e3 c6 d I v q A=>?_) (L0:=[]))
 obtain ⟨e2,c7,N,b6,b7,c9,b9,d0,c0,d1,c1,d2,c3,d3,Q,J,rfl,c5,L,O,P,R,b4⟩:=A
 replace J:=J.symm; subst J
 replace d:=d.perm (Tb (Tb (Tb (Tr (Tr (Tr (Tr (Tr (Tr Tn)))))))))
 refine Wm (Wx rfl (Wx rfl (Wa (Wa (ln ?_)))))
 replace d:=d.kB (Kb (Kb (Kb (Dr (Kr (Kr (Kr (Kr (Kr (Kb (Db (Db St))))))))))))
 refine sg (VA d (Mt (Mt (Mt (Ma (Ma (Ma (Ma (Ma Mh)))))))) (C2 i.Op i.K i.kz.kA i.kz.Word M i.Kids.length T) aZ aG (Wm (bS hm λe0 a9 hm=>VE (Eg d call54 (D0 i (.slice M i.Kids.length T) (.func (.func 127) #[] #[(.pointer (some ⟨N,0,none⟩)),(.pointer (some ⟨Q,0,none⟩))]) (λ(x:kz)=>zl x a.2.1 a.2.2.1 a.2.2.2.1 a.2.2.2.2.1 a.2.2.2.2.2.1 a.2.2.2.2.2.2.1 a.2.2.2.2.2.2.2 c.kM c.kU) _ _ (B.mono kT.mono (I.trans d.kG)) ⟨127,#[],#[(.pointer (some ⟨N,0,none⟩)),(.pointer (some ⟨Q,0,none⟩))],rfl,call127,λW x r p hm=>(Hz x N b6 b7 a.2.1 b9 a.2.2.1 c0 a.2.2.2.1 c1 a.2.2.2.2.1 c3 a.2.2.2.2.2.1 a.2.2.2.2.2.2.1 Q a.2.2.2.2.2.2.2 (.slice U c.kM.length Z) c.kM (.slice Y c.kU.length K) c.kU r W (L.at (λb o n=>p _ _ ((λb o n=>d.at_ (Mt (Mt (Mt (Ml n))))) b o n))) (O.sl mQ (λb o n=>p _ _ ((λb o n=>d.at_ (Mt (Mt (Mt (Ma (Ml n)))))) b o n))) (P.at (λb o n=>p _ _ ((λb o n=>d.at_ (Mt (Mt (Mt (Ma (Ma (Ml n))))))) b o n))) (R.at (λb o n=>p _ _ ((λb o n=>d.at_ (Mt (Mt (Mt (Ma (Ma (Ma (Ml n)))))))) b o n))) ((b4.Ju BX).mono (Pl.mono _) (nZ (λb o n=>p _ _ ((λb o n=>d.at_ (Mt (Mt (Mt (Ma (Ma (Ma (Ma (Ml n))))))))) b o n)))) (At.of (p _ _ (d.at_ (Mt Mh))) _ rfl) (At.of (p _ _ (d.at_ Mh)) _ rfl) (g.mono lg.mono ((I.trans d.kG).trans p)) (j.mono mf.mono ((I.trans d.kG).trans p)) (At.of (p _ _ (d.at_ (Mt (Mt Mh)))) _ rfl) hm).mK⟩ a9) (λd7 d=>Wa (ln ?_))))))
 exact lB (rQ hm d)
theorem za (a:nA) (y z t x u D:Value) (r:((List kC)×(List kC)×Bool)) (w:World) (i:Sl kX 15 (hp w) y a.kA.kM) (j:Sl ls 8 (hp w) z a.kA.kU) (c:Sl kX 15 (hp w) t a.Client.kM) (g:Sl ls 8 (hp w) x a.Client.kU) (k:Sl kD 5 (hp w) u a.Formula.Kids) (G:Sl oF 2 (hp w) D a.Keys) (hm:xb a=some r) :
  mz false pg0 56 [(.agg #[(.string a.kA.Name),y,z,(.string a.Client.Name),t,x,(.int .i64 a.Formula.Op),(.int .i64 a.Formula.K),(.string a.Formula.kz.kA),(.string a.Formula.kz.Word),u,(.int .i64 a.oA),(.int .i64 a.lA.oH),(.int .i64 a.lA.ow),(.int .i64 a.my),(.int .i64 a.nz),(.int .i64 a.mW),D])] w [] (λv L1 W'=>∃s S2 A S5,v=(.tuple #[s,A,(.bool (r.2.2))])∧L1=(S2++(S5++[]))∧lm 52 kI 9 s r.1 S2∧lm 52 kI 9 A r.2.1 S5):=by
 refine Az 26 func56 rfl (λd=>sg ?_)
 obtain ⟨I,Q,rfl⟩:=i.form
 obtain ⟨J,T,rfl⟩:=j.form
 let a2:=(C4 a.kA.Name I a.kA.kM.length Q J a.kA.kU.length T)
 obtain ⟨K,U,rfl⟩:=c.form
 obtain ⟨M,Y,rfl⟩:=g.form
 let a0:=(C4 a.Client.Name K a.Client.kM.length U M a.Client.kU.length Y)
 obtain ⟨A9,N,rfl⟩:=k.form
 obtain ⟨W,b3,rfl⟩:=G.form
 refine VE (ly d rfl (λc0 c5 d=>Wa (Wa (Wa (lr (Wf uX (VA d Mh a2 dJ cV (Wf sW (VA d Mh a0 dJ cV (bS hm λc7 a4 hm=>?_))))))))))
 refine VE (Bn d (cM _) call17 (λ_ _ _ _=>(Hj a.kA (.slice I a.kA.kM.length Q) (.slice J a.kA.kU.length T) a.Client (.slice K a.Client.kM.length U) (.slice M a.Client.kU.length Y) _ _ (i.mono lg.mono d.kG) (j.mono mf.mono d.kG) (c.mono lg.mono d.kG) (g.mono mf.mono d.kG) a4)) (λc1 c9 d0 b9 d B q n a3=>?_) (L0:=[]))
 obtain ⟨Z,O,p,P,H,rfl,E,L⟩:=a3
 replace H:=H.symm; subst H
 replace d:=d.perm (Tr (Tr Tn))
 refine Wm (Wx rfl (Wx rfl (Wx rfl (Wa (Wa (Wa (lr (Wm (Wm (Wf uX (VA d (Ma (Ma Mh)) a2 dJ cV ?_)))))))))))
 refine Wf sW (VA d (Ma (Ma Mh)) a0 dJ cV (Wf Ad (VA d (Ma (Ma Mh)) (C2 a.Formula.Op a.Formula.K a.Formula.kz.kA a.Formula.kz.Word A9 a.Formula.Kids.length N) aZ aG (bS hm λR a5 hm=>VE (Eg d call19 (Iv a.kA (.slice I a.kA.kM.length Q) (.slice J a.kA.kU.length T) a.Client (.slice K a.Client.kM.length U) (.slice M a.Client.kU.length Y) a.Formula (.slice A9 a.Formula.Kids.length N) _ _ (i.mono lg.mono (B.trans d.kG)) (j.mono mf.mono (B.trans d.kG)) (c.mono lg.mono (B.trans d.kG)) (g.mono mf.mono (B.trans d.kG)) (k.mono kT.mono (B.trans d.kG)) a5) (λc3 d=>Wa (Wa (Wa (ln ?_)))))))))
 replace d:=d.kB (Kr (Kr (Db St)))
 refine lB ?_
 obtain rfl:=sj hm
 exact LB (v0:=Z) (v1:=p) (v2:=(.bool R)) rfl rfl rfl rfl ⟨_,_,rfl,(d.OL (Kr (Kr Sn))),Z,O,p,P,rfl,rfl,E,L⟩
theorem Ec (a:nA) (K U t J u s:Value) (c:nA) (N Y x M y v:Value) (r:Bool) (w:World) (B:Sl kX 15 (hp w) K a.kA.kM) (Q:Sl ls 8 (hp w) U a.kA.kU) (g:Sl kX 15 (hp w) t a.Client.kM) (z:Sl ls 8 (hp w) J a.Client.kU) (i:Sl kD 5 (hp w) u a.Formula.Kids) (a4:Sl oF 2 (hp w) s a.Keys) (G:Sl kX 15 (hp w) N c.kA.kM) (T:Sl ls 8 (hp w) Y c.kA.kU) (j:Sl kX 15 (hp w) x c.Client.kM) (D:Sl ls 8 (hp w) M c.Client.kU) (k:Sl kD 5 (hp w) y c.Formula.Kids) (a5:Sl oF 2 (hp w) v c.Keys) (hm:AM a c=some r) :
  la false pg0 23 [(.agg #[(.string a.kA.Name),K,U,(.string a.Client.Name),t,J,(.int .i64 a.Formula.Op),(.int .i64 a.Formula.K),(.string a.Formula.kz.kA),(.string a.Formula.kz.Word),u,(.int .i64 a.oA),(.int .i64 a.lA.oH),(.int .i64 a.lA.ow),(.int .i64 a.my),(.int .i64 a.nz),(.int .i64 a.mW),s]),(.agg #[(.string c.kA.Name),N,Y,(.string c.Client.Name),x,M,(.int .i64 c.Formula.Op),(.int .i64 c.Formula.K),(.string c.Formula.kz.kA),(.string c.Formula.kz.Word),y,(.int .i64 c.oA),(.int .i64 c.lA.oH),(.int .i64 c.lA.ow),(.int .i64 c.my),(.int .i64 c.nz),(.int .i64 c.mW),v])] w (.bool r):=by
 refine cG 38 func23 rfl (λd=>sg ?_)
 obtain ⟨A1,c2,rfl⟩:=B.form
 obtain ⟨A3,c4,rfl⟩:=Q.form
 obtain ⟨A5,c6,rfl⟩:=g.form
 obtain ⟨A7,c8,rfl⟩:=z.form
 obtain ⟨A9,c0,rfl⟩:=i.form
 obtain ⟨O,c1,rfl⟩:=a4.form
 refine VE (ly d rfl (λh9 i5 d=>?_))
 obtain ⟨P,c3,rfl⟩:=G.form
 obtain ⟨R,c5,rfl⟩:=T.form
 obtain ⟨b5,c7,rfl⟩:=j.form
 obtain ⟨b6,c9,rfl⟩:=D.form
 obtain ⟨b7,d0,rfl⟩:=k.form
 obtain ⟨b9,d1,rfl⟩:=a5.form
 refine VE (ly d rfl (λi0 i6 d=>Wa (lr (VA d (Mt Mh) (C1 a.kA.Name A1 a.kA.kM.length c2 A3 a.kA.kU.length c4 a.Client.Name A5 a.Client.kM.length c6 A7 a.Client.kU.length c8 a.Formula.Op a.Formula.K a.Formula.kz.kA a.Formula.kz.Word A9 a.Formula.Kids.length c0 a.oA a.lA.oH a.lA.ow a.my a.nz a.mW O a.Keys.length c1) fD dQ (bS hm λd5 f5 hm=>?_)))))
 refine VE (Bn d (cM _) call56 (λ_ _ _ _=>(za a (.slice A1 a.kA.kM.length c2) (.slice A3 a.kA.kU.length c4) (.slice A5 a.Client.kM.length c6) (.slice A7 a.Client.kU.length c8) (.slice A9 a.Formula.Kids.length c0) (.slice O a.Keys.length c1) _ _ (B.mono lg.mono d.kG) (Q.mono mf.mono d.kG) (g.mono lg.mono d.kG) (z.mono mf.mono d.kG) (i.mono kT.mono d.kG) (a4.mono xi.mono d.kG) f5)) (λi1 j0 j6 h5 d Z a1 n f1=>?_) (L0:=[]))
 obtain ⟨h1,h7,d9,g3,q,rfl,f9,g0⟩:=f1
 replace q:=q.symm; subst q
 replace d:=d.perm (Tr (Tr Tn))
 refine Wm (Wx rfl (Wx rfl (Wx rfl (Wa (Wa (Wa (ln ?_)))))))
 replace d:=d.kB (Kr (Kr (Kb (Db St))))
 refine sg (VA d (Ma (Ma Mh)) (C1 c.kA.Name P c.kA.kM.length c3 R c.kA.kU.length c5 c.Client.Name b5 c.Client.kM.length c7 b6 c.Client.kU.length c9 c.Formula.Op c.Formula.K c.Formula.kz.kA c.Formula.kz.Word b7 c.Formula.Kids.length d0 c.oA c.lA.oH c.lA.ow c.my c.nz c.mW b9 c.Keys.length d1) fD dQ (bS hm λd6 f6 hm=>?_))
 refine VE (Bn d (cM _) call56 (λ_ _ _ _=>(za c (.slice P c.kA.kM.length c3) (.slice R c.kA.kU.length c5) (.slice b5 c.Client.kM.length c7) (.slice b6 c.Client.kU.length c9) (.slice b7 c.Formula.Kids.length d0) (.slice b9 c.Keys.length d1) _ _ (G.mono lg.mono (Z.trans d.kG)) (T.mono mf.mono (Z.trans d.kG)) (j.mono lg.mono (Z.trans d.kG)) (D.mono mf.mono (Z.trans d.kG)) (k.mono kT.mono (Z.trans d.kG)) (a5.mono xi.mono (Z.trans d.kG)) f6)) (λi2 j3 e1 h6 d h3 aa n f2=>?_) (L0:=[]))
 obtain ⟨h2,h8,e0,g4,a9,rfl,g1,g2⟩:=f2
 replace a9:=a9.symm; subst a9
 replace d:=d.perm (Tr (Tr Tn))
 refine Wm (Wx rfl (Wx rfl (Wx rfl (Wa (Wa (Wa (ln ?_)))))))
 replace d:=d.kB (Kr (Kr (Kr (Kr (Db St)))))
 refine sg (Wm (Wm (V (Qx underlying4 rfl rfl rfl) (Wm (LJ hm (λd8 E W=>∃d2,ST false lD w W e1 (g4++(g3++d2))∧E 4=(.bool false)∧E 6=d9∧E 9=e0∧E 31=(.bool d8)) 5 ?_ (λd8 a3 L=>?_))))))
 ·rintro j4 E W ⟨d2,d,d4,g7,g8,g9⟩ f3
  refine Wh g9 (LJ f3 (λd7 E W=>∃d3,ST false lD w W e1 d3∧E 4=(.bool false)∧E 37=(.bool d7)) 5 ?_ (λd7 a2 A=>?_))
  ·rintro j5 E W ⟨d3,d,i7,h0⟩ f4
   exact Wg h0 (lt (rQ f4 d))
  refine bC a2 (λI a2=>?_) (λI a2=>?_)
  ·refine un I (un I (un I (un I (V (lb (cB I) rfl) ?_))))
   obtain rfl:=sj a2
   exact A _ _ ⟨_,(d.kB (Dr (Dr St))),d4,rfl⟩
  refine ug I (kH g7) (ug I (kH g8) (bS a2 λi8 f7 a2=>rU I (Eg d call58 (la.mK (vk d9 d5.2.1 e0 d6.2.1 _ _ (g0.sl mQ (λb o p=>d.at_ (Ma (Ml p)))) (g2.sl mQ (λb o p=>d.at_ (Ml p))) f7)) (λi3 d=>ug I (nv rfl) (V (lf (cB I) rfl) ?_)))))
  obtain rfl:=sj a2
  exact A _ _ ⟨_,(d.kB (Dr (Dr St))),d4,rfl⟩
 refine bC a3 (λH a3=>?_) (λH a3=>?_)
 ·refine un H (un H (un H (un H (V (lb (cB H) rfl) ?_))))
  obtain rfl:=sj a3
  exact L _ _ ⟨_,(d.kB (Dr (Kr (Dr St)))),rfl,rfl,rfl,rfl⟩
 refine ug H (kH rfl) (ug H (kH rfl) (bS a3 λi9 f8 a3=>rU H (Eg d call58 (la.mK (vk h1 d5.1 h2 d6.1 _ _ (f9.sl mQ (λb o p=>d.at_ (Ma (Ma (Ml p))))) (g1.sl mQ (λb o p=>d.at_ (Ml p))) f8)) (λi4 d=>ug H (nv rfl) (V (lf (cB H) rfl) ?_)))))
 obtain rfl:=sj a3
 exact L _ _ ⟨_,(d.kB (Dr (Kr (Dr St)))),rfl,rfl,rfl,rfl⟩
theorem Bz (a:Value) (g:List kC) (c:Value) (i:kC→Option Bool) (r:Bool) (w:World) (j:Sl (Pl kI) 9 (hp w) a g) (k:sQ pg0 c (hp w) (λ(x:kC)=>[(.agg (kI x).toArray)]) (λ(r:Bool)=>(.bool r)) i) (hm:wX g i=some r) :
  la false pg0 112 [a,c] w (.bool r):=by
 refine cG 9 func112 rfl (λd=>sg (Wa (lr (Wm (Wm (bS hm λy t hm=>VE (Eg d call180 (yp a g c i _ _ (j.mono (Pl.mono _) d.kG) (k.mono d.kG) t) (λu d=>Wi rfl (Wa (lu ?_))))))))))
 exact kP (lB (rQ hm d))
theorem FZ (c:kC) (g:Nat) (a:Value) (j:List kC) (r:Bool) (w:World) (k:Sl (Pl kI) 9 (hp w) a j) (i:At (hp w) (.pointer (some ⟨g,0,none⟩)) [a]) (hm:xI c j=some r) :
  la true pg0 131 [(.agg (kI c).toArray),(.pointer (some ⟨g,0,none⟩))] w (.bool r):=by
 refine cG 8 func131 rfl (λd=>sg (VE (ly d rfl (λu z d=>Wa (lr (V (kF rfl (pO d.has (y:=a) i iZ)) (VA d Mh (kI c) cA aR (bS hm λB t hm=>VE (Eg d call111 (EH a j c _ _ (k.mono (Pl.mono _) d.kG) t) (λx d=>V (nv rfl) (Wa ?_)))))))))))
 refine ln ?_
 exact lB (rQ hm d)
theorem Dl (a:Value) (j:List kC) (i:Value) (c:List kC) (r:Bool) (w:World) (t:Sl (Pl kI) 9 (hp w) a j) (g:Sl (Pl kI) 9 (hp w) i c) (hm:zH j c=some r) :
  la false pg0 57 [a,i] w (.bool r):=by
 refine cG 9 func57 rfl (λd=>sg ?_)
 obtain ⟨u,y,rfl⟩:=g.form
 refine VE (ly d rfl (λB k d=>Wa (lr (Wm (V (qz (by exact pk rfl) rfl) (bS hm λG z hm=>VE (Eg d call112 (Bz a j (.func (.func 131) #[] #[(.pointer (some ⟨k,0,none⟩))]) (λ(x:kC)=>xI x c) _ _ (t.mono (Pl.mono _) d.kG) ⟨131,#[],#[(.pointer (some ⟨k,0,none⟩))],rfl,call131,λW x r n hm=>(FZ x k (.slice u c.length y) c r W (g.mono (Pl.mono _) (d.kG.trans n)) (At.of (n _ _ (d.at_ Mh)) _ rfl) hm).mK⟩ z) (λD d=>V (nv rfl) (Wa (ln ?_))))))))))
 exact lB (rQ hm d)
theorem Bt (a:nA) (I Q t H u L:Value) (c:nA) (K T x J y O:Value) (r:Bool) (w:World) (B:Sl kX 15 (hp w) I a.kA.kM) (M:Sl ls 8 (hp w) Q a.kA.kU) (g:Sl kX 15 (hp w) t a.Client.kM) (z:Sl ls 8 (hp w) H a.Client.kU) (i:Sl kD 5 (hp w) u a.Formula.Kids) (a5:Sl oF 2 (hp w) L a.Keys) (G:Sl kX 15 (hp w) K c.kA.kM) (N:Sl ls 8 (hp w) T c.kA.kU) (j:Sl kX 15 (hp w) x c.Client.kM) (D:Sl ls 8 (hp w) J c.Client.kU) (k:Sl kD 5 (hp w) y c.Formula.Kids) (A:Sl oF 2 (hp w) O c.Keys) (hm:xK a c=some r) :
  la false pg0 22 [(.agg #[(.string a.kA.Name),I,Q,(.string a.Client.Name),t,H,(.int .i64 a.Formula.Op),(.int .i64 a.Formula.K),(.string a.Formula.kz.kA),(.string a.Formula.kz.Word),u,(.int .i64 a.oA),(.int .i64 a.lA.oH),(.int .i64 a.lA.ow),(.int .i64 a.my),(.int .i64 a.nz),(.int .i64 a.mW),L]),(.agg #[(.string c.kA.Name),K,T,(.string c.Client.Name),x,J,(.int .i64 c.Formula.Op),(.int .i64 c.Formula.K),(.string c.Formula.kz.kA),(.string c.Formula.kz.Word),y,(.int .i64 c.oA),(.int .i64 c.lA.oH),(.int .i64 c.lA.ow),(.int .i64 c.my),(.int .i64 c.nz),(.int .i64 c.mW),O])] w (.bool r):=by
 refine cG 38 func22 rfl (λd=>sg ?_)
 obtain ⟨A1,c2,rfl⟩:=B.form
 obtain ⟨A3,c4,rfl⟩:=M.form
 obtain ⟨A5,c6,rfl⟩:=g.form
 obtain ⟨A7,c8,rfl⟩:=z.form
 obtain ⟨A9,c5,rfl⟩:=i.form
 obtain ⟨b5,c7,rfl⟩:=a5.form
 refine VE (ly d rfl (λj3 j8 d=>?_))
 obtain ⟨b6,c9,rfl⟩:=G.form
 obtain ⟨b7,d0,rfl⟩:=N.form
 obtain ⟨b9,d1,rfl⟩:=j.form
 obtain ⟨c0,d2,rfl⟩:=D.form
 obtain ⟨c1,d3,rfl⟩:=k.form
 obtain ⟨c3,d4,rfl⟩:=A.form
 refine VE (ly d rfl (λj4 j9 d=>Wa (lr (VA d (Mt Mh) (C1 a.kA.Name A1 a.kA.kM.length c2 A3 a.kA.kU.length c4 a.Client.Name A5 a.Client.kM.length c6 A7 a.Client.kU.length c8 a.Formula.Op a.Formula.K a.Formula.kz.kA a.Formula.kz.Word A9 a.Formula.Kids.length c5 a.oA a.lA.oH a.lA.ow a.my a.nz a.mW b5 a.Keys.length c7) fD dQ (bS hm λd6 g3 hm=>?_)))))
 refine VE (Bn d (cM _) call56 (λ_ _ _ _=>(za a (.slice A1 a.kA.kM.length c2) (.slice A3 a.kA.kU.length c4) (.slice A5 a.Client.kM.length c6) (.slice A7 a.Client.kU.length c8) (.slice A9 a.Formula.Kids.length c5) (.slice b5 a.Keys.length c7) _ _ (B.mono lg.mono d.kG) (M.mono mf.mono d.kG) (g.mono lg.mono d.kG) (z.mono mf.mono d.kG) (i.mono kT.mono d.kG) (a5.mono xi.mono d.kG) g3)) (λj5 k2 k6 i5 d a2 a1 n f8=>?_) (L0:=[]))
 obtain ⟨h7,i7,h8,i8,q,rfl,g8,g9⟩:=f8
 replace q:=q.symm; subst q
 replace d:=d.perm (Tr (Tr Tn))
 refine Wm (Wx rfl (Wx rfl (Wx rfl (Wa (Wa (Wa (ln ?_)))))))
 replace d:=d.kB (Kr (Kr (Kb (Db St))))
 refine sg (VA d (Ma (Ma Mh)) (C1 c.kA.Name b6 c.kA.kM.length c9 b7 c.kA.kU.length d0 c.Client.Name b9 c.Client.kM.length d1 c0 c.Client.kU.length d2 c.Formula.Op c.Formula.K c.Formula.kz.kA c.Formula.kz.Word c1 c.Formula.Kids.length d3 c.oA c.lA.oH c.lA.ow c.my c.nz c.mW c3 c.Keys.length d4) fD dQ (bS hm λd7 g4 hm=>?_))
 refine VE (Bn d (cM _) call56 (λ_ _ _ _=>(za c (.slice b6 c.kA.kM.length c9) (.slice b7 c.kA.kU.length d0) (.slice b9 c.Client.kM.length d1) (.slice c0 c.Client.kU.length d2) (.slice c1 c.Formula.Kids.length d3) (.slice c3 c.Keys.length d4) _ _ (G.mono lg.mono (a2.trans d.kG)) (N.mono mf.mono (a2.trans d.kG)) (j.mono lg.mono (a2.trans d.kG)) (D.mono mf.mono (a2.trans d.kG)) (k.mono kT.mono (a2.trans d.kG)) (A.mono xi.mono (a2.trans d.kG)) g4)) (λj6 k3 v i6 d i1 aa n f9=>?_) (L0:=[]))
 obtain ⟨h9,i9,i0,j0,s,rfl,h0,h1⟩:=f9
 replace s:=s.symm; subst s
 replace d:=d.perm (Tr (Tr Tn))
 refine Wm (Wx rfl (Wx rfl (Wx rfl (Wa (Wa (Wa (ln ?_)))))))
 replace d:=d.kB (Kr (Kr (Kr (Kr (Db St)))))
 refine sg (Wm (Wm (bS hm λk1 g7 hm=>VE (Eg d call57 (Dl h9 d7.1 h7 d6.1 _ _ (h0.sl mQ (λb o p=>d.at_ (Ml p))) (g8.sl mQ (λb o p=>d.at_ (Ma (Ma (Ml p))))) g7) (λj7 d=>Wm (LJ hm (λd9 E W=>∃e2,ST false lD w W v e2∧E 4=(.bool false)∧E 7=(.bool d6.2.2)∧E 10=(.bool d7.2.2)∧E 30=(.bool d9)) 4 ?_ (λd9 Z R=>?_)))))))
 ·rintro h6 E W ⟨e2,d,d5,h2,h3,h4⟩ g0
  refine Wh h4 (LJ g0 (λe5 E W=>∃e3,ST false lD w W v e3∧E 4=(.bool false)∧E 37=(.bool e5)) 6 ?_ (λe5 a9 b4=>?_))
  ·rintro k4 E W ⟨e3,d,k0,h5⟩ g1
   exact Wg h5 (lt (rQ g1 d))
  refine bC a9 (λU a9=>?_) (λU a9=>?_)
  ·refine ug U (kH h2) (ug U (kH rfl) (LJ a9 (λd8 E W=>∃e4,ST false lD w W v e4∧E 4=(.bool false)∧E 31=(.bool h6)∧E 36=(.bool d8)) 3 ?_ (λd8 a4 P=>?_)))
   ·rintro k5 E W ⟨e4,d,f5,f6,f7⟩ g2
    refine V (lb (f6.trans (cB U)) f7) ?_
    obtain rfl:=sj g2
    exact b4 _ _ ⟨_,(d.kB St),f5,rfl⟩
   refine bC a4 (λa3 a4=>?_) (λa3 a4=>?_)
   ·refine un a3 (un a3 (ug U (lb (cB a3) rfl) ?_))
    obtain rfl:=sj a4
    exact P _ _ ⟨_,(d.kB St),d5,rfl,rfl⟩
   refine ug a3 (kH h3) (ug a3 (nv rfl) (ug U (lf (cB a3) rfl) ?_))
   obtain rfl:=sj a4
   exact P _ _ ⟨_,(d.kB St),d5,rfl,rfl⟩
  refine un U (un U (Vu rfl rfl (Vu rfl rfl (un U (V (lf (cB U) rfl) ?_)))))
  obtain rfl:=sj a9
  exact b4 _ _ ⟨_,(d.kB St),d5,rfl⟩
 refine bC Z (λY Z=>?_) (λY Z=>?_)
 ·refine ug Y (kH rfl) (ug Y (kH rfl) (bS Z λi4 e1 Z=>rU Y (Eg d call57 (Dl i0 d7.2.1 h8 d6.2.1 _ _ (h1.sl mQ (λb o p=>d.at_ (Ma (Ml p)))) (g9.sl mQ (λb o p=>d.at_ (Ma (Ma (Ma (Ml p)))))) e1) (λi3 d=>V (lb (cB Y) rfl) ?_))))
  obtain rfl:=sj Z
  exact R _ _ ⟨_,(d.kB (Dr (Dr (Dr (Dr St))))),rfl,rfl,rfl,rfl⟩
 refine un Y (un Y (un Y (V (lf (cB Y) rfl) ?_)))
 obtain rfl:=sj Z
 exact R _ _ ⟨_,(d.kB (Dr (Dr (Dr (Dr St))))),rfl,rfl,rfl,rfl⟩
set_option maxHeartbeats 4000000 in
theorem JM (r:Bool) (w:World) (e1:zf pg0 (hp w)) (hm:yT =some r) :
  la false pg0 20 [] w (.bool r):=by
 refine cG 55 func20 rfl (λd=>sg (Wa (lr (V (nB (v:=(.agg (kN CU).toArray)) (uB rfl rfl) (nk fR eV (PE _ eV) kr)) (V (nB (v:=(.agg (kI MY).toArray)) (yQ rfl rfl rfl) (nk dT eW (Tj _ eW) kr)) (VE (lT d dT (λW2 b1 d=>VO (lp (.agg (kI MY).toArray) ((kI MY).toArray) d rfl rfl aR (qM MY) nb rfl (λW3 d=>ln (kQ ?_)))))))))))
 refine kR (V (nB (v:=(.agg #[(.string K4),(.slice none 0 0),(.slice none 0 0)])) (nL rfl) (nk zeroValue25 gT (SQ _ gT) kr)) (V (nB (v:=(.agg #[(.string K3),(.slice none 0 0),(.slice none 0 0)])) (nL rfl) (nk zeroValue25 gT (SQ _ gT) kr)) (Wf vF (VA d Mh (kN CU) bI aP (V (nB (v:=(.agg #[(.int .i64 1),(.int .i64 0),(.string (CU.kA)),(.string (CU.Word)),(.slice none 0 0)])) (uB rfl rfl) (nk bG cN (BB _ cN) kr)) (V (nB (v:=(.agg C6.toArray)) (yQ rfl rfl rfl) (nk jD fK (Uj _ fK) kr)) (VE (lT d jD (λW5 K d=>VO (lp (.agg C6.toArray) (C6.toArray) d rfl rfl dQ oc nb rfl (λW6 d=>lr (VA d Mh C6 fD dQ (VE (lT d jD (λW8 M d=>?_)))))))))))))))
 let g6:Value:=(.pointer (some ⟨M,0,none⟩))
 let g5:Value:=(.pointer (some ⟨K,0,none⟩))
 refine VO (lp (.agg C6.toArray) (C6.toArray) d rfl rfl dQ oc nb rfl (λW9 d=>ln (kQ ?_)))
 replace d:=d.drew
 have n:=d.has.kB (Db (Db (Kb Sn)))
 refine lC n lj (XH 0 rfl n (λ_ hS=>kF rfl (kL hS Mh (kI MY) rfl cA aR)) (X 3 rfl n (nB (v:=(.agg MM.toArray)) (nL rfl) (nk bG cN (BB _ cN) kr)) (bS hm λa d6 hm=>XE 1 rfl (LR (enc:=(lP .u8)) (z:=0) d (λ_=>rfl) dc cC ue.1 ue.2.1 ue.2.2.1 ue.2.2.2 rfl rfl rfl d6 (λf9 g4 f8 d a0=>?_)))))
 let s:=(⟨(⟨MY,a⟩:Signed),UF⟩:lh)
 let L:=(⟨TS,(⟨K3,[s],[]⟩:lZ),T6,0,K9,0,0,0,[]⟩:nA)
 have n:=d.has.kB (Dr (Db (Db (Kb Sn))))
 refine ⟨n,?_⟩
 obtain ⟨g,i,rfl⟩:=a0.form
 let h1:Value:=(.slice g a.length i)
 refine X 2 rfl n (nB (v:=(.agg #[(.int .i64 1),(.string (CU.kA)),(.string (CU.Word)),(.string K3),(.string (K0.kA)),(.string (K0.Word)),(.string (K0.kA)),(.string (K0.Word)),(.string zS),h1])) (uB rfl rfl) (nk ko ji (Uc _ ji) kr)) (X 4 rfl n (nB (v:=(.agg (C7 g a.length i).toArray)) (uB rfl rfl) (nk fL iw (Sj _ iw) kr)) ?_)
 have f1:=a0.QO d (λp q=>(Ml q))
 obtain ⟨Z,d,I,aa,J⟩:=ST.PK d a0 (λ_=>rfl)
 refine XE 5 rfl (lJ (cs:=(C7 g a.length i).toArray) d (nL rfl) (oa cS cO fL) (λg0 k d=>?_))
 let b8:Value:=(.slice (some ⟨k,0,none⟩) 1 1)
 have n:=d.has.DM I (Db (Db (Db (Kb Sn))))
 refine ⟨n,(X 6 rfl n (kJ sW rfl) (X 7 rfl n (kJ sV rfl) ?_))⟩
 replace d:=d.perm (Nb (Pb Pz) Nz)
 refine XO 8 rfl (lp b8 ((C8 k).toArray) d rfl rfl sizeOf22 oc nb rfl (λg1 d=>?_))
 have n:=d.has.DM I (Db (Db (Db (Kb Sn))))
 refine ⟨n,(lH kr (kP ?_))⟩
 replace d:=d.kB (Kb (Kb (Kb (Db St))))
 refine sg (VA d (Mt (Mt Mh)) C6 fD dQ (VA d Mh (C8 k) fD dQ (bS hm λg3 e0 hm=>VE (Eg d call25 (Fi MP (.slice none 0 0) (.slice none 0 0) (.slice none 0 0) (.slice none 0 0) (.slice none 0 0) (.slice none 0 0) L (.slice none 0 0) (.slice none 0 0) b8 (.slice none 0 0) (.slice none 0 0) (.slice none 0 0) _ _ (e1.mono (I.trans d.kG)) (Sl.nil _ _ _) (Sl.nil _ _ _) (Sl.nil _ _ _) (Sl.nil _ _ _) (Sl.nil _ _ _) (Sl.nil _ _ _) (Sl.nil _ _ _) (Sl.nil _ _ _) ((ml.lit lg (l:=[s]) (.cons (ys:=C7 g a.length i) (kX.mk ⟨h1,(.slice none 0 0),rfl,J,(Sl.nil _ _ _)⟩) .nil) rfl nb rfl).sl lg d.kG (λb o q=>(by rw [bH] at q; cases q; exact d.at_ (Mt Mh)))) (Sl.nil _ _ _) (Sl.nil _ _ _) (Sl.nil _ _ _) e0) (λg2 d=>V (qe rfl rfl rfl) (Wm (LJ hm (λb3 E W=>∃c4,ST false lD w W Z ((M,Ol (C8 k) 34)::((k,Ol (C7 g a.length i) 57)::((K,Ol C6 34)::c4)))∧E 0=(.bool false)∧E 2=g5∧E 3=g6∧E 32=(.bool b3)) 7 ?_ (λb3 H Y=>?_))))))))
 ·let h3:=((C8 k).toArray:Array Value)
  let R:=((C7 g a.length i).toArray:Array Value)
  rintro g7 E W ⟨c4,d,c8,a4,a5,e2⟩ d7
  refine Wh e2 (LJ d7 (λb2 E W=>∃c5,ST false lD w W Z ((M,Obj.cells h3 34 (0,0))::((k,Obj.cells R 57 (0,0))::((K,Ol C6 34)::c5)))∧E 0=(.bool false)∧E 2=g5∧E 3=g6∧E 37=(.bool b2)) 4 ?_ (λb2 G U=>?_))
  ·rintro g8 E W ⟨c5,d,c9,A,d0,e3⟩ d8
   refine Wh e3 (LJ d8 (λb0 E W=>∃c6,ST false lD w W Z ((M,Obj.cells h3 34 (0,0))::((k,Obj.cells R 57 (0,0))::((K,Ol C6 34)::c6)))∧E 0=(.bool false)∧E 2=g5∧E 3=g6∧E 43=(.bool b0)) 5 ?_ (λb0 D T=>?_))
   ·rintro g9 E W ⟨c6,d,d1,O,P,e4⟩ d9
    refine Wh e4 (LJ d9 (λa9 E W=>∃c7,ST false lD w W Z ((M,Obj.cells h3 34 (0,0))::((k,Obj.cells R 57 (0,0))::((K,Ol C6 34)::c7)))∧E 0=(.bool false)∧E 2=g5∧E 3=g6∧E 48=(.bool a9)) 4 ?_ (λa9 B Q=>?_))
    ·rintro h0 E W ⟨c7,d,a3,d2,d3,d4⟩ b5
     refine Wh d4 (LJ b5 (λa8 E W=>∃a2,ST false lD w W Z a2∧E 0=(.bool false)∧E 54=(.bool a8)) 5 ?_ (λa8 y N=>?_))
     ·rintro f7 E W ⟨a2,d,f0,d5⟩ b6
      exact Wg d5 (lt (rQ b6 d))
     refine bC y (λj y=>?_) (λj y=>?_)
     ·refine ug j (kF d2 (kL d.has (Mt (Mt Mh)) C6 rfl fD dQ)) (ug j (kF d3 (kL d.has Mh (C8 k) rfl fD dQ)) (bS y λf2 b9 y=>rU j (Eg d call22 (Bt MP (.slice none 0 0) (.slice none 0 0) (.slice none 0 0) (.slice none 0 0) (.slice none 0 0) (.slice none 0 0) L (.slice none 0 0) (.slice none 0 0) b8 (.slice none 0 0) (.slice none 0 0) (.slice none 0 0) _ _ (Sl.nil _ _ _) (Sl.nil _ _ _) (Sl.nil _ _ _) (Sl.nil _ _ _) (Sl.nil _ _ _) (Sl.nil _ _ _) (Sl.nil _ _ _) (Sl.nil _ _ _) ((ml.lit lg (l:=[s]) (.cons (ys:=C7 g a.length i) (kX.mk ⟨h1,(.slice none 0 0),rfl,J,(Sl.nil _ _ _)⟩) .nil) rfl nb rfl).sl lg d.kG (λb o q=>(by rw [bH] at q; cases q; exact d.at_ (Mt Mh)))) (Sl.nil _ _ _) (Sl.nil _ _ _) (Sl.nil _ _ _) b9) (λe5 d=>ug j (nv rfl) (V (lb (cB j) rfl) ?_)))))
      obtain rfl:=sj y
      exact N _ _ ⟨_,(d.kB (Db (Db (Db St)))),a3,rfl⟩
     refine un j (un j (un j (un j (V (lf (cB j) rfl) ?_))))
     obtain rfl:=sj y
     exact N _ _ ⟨_,(d.kB (Db (Db (Db St)))),a3,rfl⟩
    refine bC B (λx B=>?_) (λx B=>?_)
    ·refine ug x (kF P (kL d.has Mh (C8 k) rfl fD dQ)) (ug x (kF O (kL d.has (Mt (Mt Mh)) C6 rfl fD dQ)) (bS B λf3 c0 B=>rU x (Eg d call22 (Bt L (.slice none 0 0) (.slice none 0 0) b8 (.slice none 0 0) (.slice none 0 0) (.slice none 0 0) MP (.slice none 0 0) (.slice none 0 0) (.slice none 0 0) (.slice none 0 0) (.slice none 0 0) (.slice none 0 0) _ _ (Sl.nil _ _ _) (Sl.nil _ _ _) ((ml.lit lg (l:=[s]) (.cons (ys:=C7 g a.length i) (kX.mk ⟨h1,(.slice none 0 0),rfl,J,(Sl.nil _ _ _)⟩) .nil) rfl nb rfl).sl lg d.kG (λb o q=>(by rw [bH] at q; cases q; exact d.at_ (Mt Mh)))) (Sl.nil _ _ _) (Sl.nil _ _ _) (Sl.nil _ _ _) (Sl.nil _ _ _) (Sl.nil _ _ _) (Sl.nil _ _ _) (Sl.nil _ _ _) (Sl.nil _ _ _) (Sl.nil _ _ _) c0) (λe6 d=>V (lb (cB x) rfl) ?_))))
     obtain rfl:=sj B
     exact Q _ _ ⟨_,(d.kB St),d1,O,P,rfl⟩
    refine un x (un x (un x (V (lf (cB x) rfl) ?_)))
    obtain rfl:=sj B
    exact Q _ _ ⟨_,(d.kB St),d1,O,P,rfl⟩
   refine bC D (λt D=>?_) (λt D=>?_)
   ·refine ug t (kF A (kL d.has (Mt (Mt Mh)) C6 rfl fD dQ)) (ug t (kF A (kL d.has (Mt (Mt Mh)) C6 rfl fD dQ)) (bS D λf4 c1 D=>rU t (Eg d call23 (Ec MP (.slice none 0 0) (.slice none 0 0) (.slice none 0 0) (.slice none 0 0) (.slice none 0 0) (.slice none 0 0) MP (.slice none 0 0) (.slice none 0 0) (.slice none 0 0) (.slice none 0 0) (.slice none 0 0) (.slice none 0 0) _ _ (Sl.nil _ _ _) (Sl.nil _ _ _) (Sl.nil _ _ _) (Sl.nil _ _ _) (Sl.nil _ _ _) (Sl.nil _ _ _) (Sl.nil _ _ _) (Sl.nil _ _ _) (Sl.nil _ _ _) (Sl.nil _ _ _) (Sl.nil _ _ _) (Sl.nil _ _ _) c1) (λe7 d=>ug t (nv rfl) (V (lb (cB t) rfl) ?_)))))
    obtain rfl:=sj D
    exact T _ _ ⟨_,(d.kB St),c9,A,d0,rfl⟩
   refine un t (un t (un t (un t (V (lf (cB t) rfl) ?_))))
   obtain rfl:=sj D
   exact T _ _ ⟨_,(d.kB St),c9,A,d0,rfl⟩
  refine bC G (λu G=>?_) (λu G=>?_)
  ·refine ug u (kF a4 (kL d.has (Mt (Mt Mh)) C6 rfl fD dQ)) (ug u (kF a5 (kL d.has Mh (C8 k) rfl fD dQ)) (bS G λf5 c2 G=>rU u (Eg d call23 (Ec MP (.slice none 0 0) (.slice none 0 0) (.slice none 0 0) (.slice none 0 0) (.slice none 0 0) (.slice none 0 0) L (.slice none 0 0) (.slice none 0 0) b8 (.slice none 0 0) (.slice none 0 0) (.slice none 0 0) _ _ (Sl.nil _ _ _) (Sl.nil _ _ _) (Sl.nil _ _ _) (Sl.nil _ _ _) (Sl.nil _ _ _) (Sl.nil _ _ _) (Sl.nil _ _ _) (Sl.nil _ _ _) ((ml.lit lg (l:=[s]) (.cons (ys:=C7 g a.length i) (kX.mk ⟨h1,(.slice none 0 0),rfl,J,(Sl.nil _ _ _)⟩) .nil) rfl nb rfl).sl lg d.kG (λb o q=>(by rw [bH] at q; cases q; exact d.at_ (Mt Mh)))) (Sl.nil _ _ _) (Sl.nil _ _ _) (Sl.nil _ _ _) c2) (λe8 d=>V (lb (cB u) rfl) ?_))))
   obtain rfl:=sj G
   exact U _ _ ⟨_,(d.kB St),c8,a4,a5,rfl⟩
  refine un u (un u (un u (V (lf (cB u) rfl) ?_)))
  obtain rfl:=sj G
  exact U _ _ ⟨_,(d.kB St),c8,a4,a5,rfl⟩
 refine bC H (λc H=>?_) (λc H=>?_)
 ·refine ug c (kJ sW rfl) (ug c (kF rfl (kL d.has (Mt (Mt Mh)) [(.string K3),(.slice none 0 0),(.slice none 0 0)] rfl dJ cV)) (ug c (kJ sW rfl) (ug c (kF rfl (kL d.has (Mt (Mt Mh)) [(.string K3),(.slice none 0 0),(.slice none 0 0)] rfl dJ cV)) (bS H λf6 c3 H=>rU c (Eg d call27 (yd SA (.slice none 0 0) (.slice none 0 0) SA (.slice none 0 0) (.slice none 0 0) _ _ (Sl.nil _ _ _) (Sl.nil _ _ _) (Sl.nil _ _ _) (Sl.nil _ _ _) c3) (λe9 d=>ug c (qe rfl rfl rfl) (V (lb (cB c) rfl) ?_)))))))
  obtain rfl:=sj H
  exact Y _ _ ⟨_,(d.kB St),rfl,rfl,rfl,rfl⟩
 refine un c (un c (un c (un c (un c (un c (V (lf (cB c) rfl) ?_))))))
 obtain rfl:=sj H
 exact Y _ _ ⟨_,(d.kB St),rfl,rfl,rfl,rfl⟩
theorem Fh (k:Value) (u:List kC) (r:Int) (w:World) (j:Sl (Pl kI) 9 (hp w) k u) (hm:wP u=some r) :
  la true pg0 108 [k] w (.int .i64 r):=by
 refine cG 54 func108 rfl (λd=>sg (Wa (lr (Wa (lS (Wm ?_))))))
 refine V (mx aX rfl j) (Wm (ln (mj (λi E W=>∃g t,(E 8= .int .i64 (i:Nat)∧E 7= .int .i64 (u.length:Nat))∧ST true lD w W (hp w) t∧E 3=(.int .i64 g)∧E 6=k∧tj (u.drop i) g=some r) u.length j.len ⟨0,_,⟨rfl,rfl⟩,(d.kB St),rfl,rfl,hm⟩ dc dc dc (λ_ _ _ h=>by obtain ⟨_,_,p,_⟩:=h; exact p) ?_ ?_)))
 ·rintro I E W z ⟨g,t,⟨n,q⟩,d,x,y,c⟩
  obtain ⟨a,J,G,D,H⟩:=lX z
  rw [G] at c
  refine bg (VQ (th (enc:=kI) (i:=(I:Int)) (x0:=a) aX aR y n j (aM _) D) (λQ B=>V (kF rfl (lx d.has B cA aR)) (VE (lT d dT (λK N d=>VO (lp (.agg (kI a).toArray) ((kI a).toArray) d rfl rfl aR (qM a) nb rfl (λM d=>ln (kR (Wh x (Wf vF (Wf qR (VB d Mh rfl rfl bT (V (pL bN rfl) ?_)))))))))))))
  refine Wi rfl (Wf vF (Wf sU (VB d Mh rfl rfl bT (V (pL bN rfl) (Wi rfl (Wf xL (VB d Mh rfl rfl bT (V (pL bN rfl) (Wi rfl (Wf qq (Wf qR (VB d Mh rfl rfl bT (V (pL bN rfl) (Wi rfl ?_))))))))))))))
  refine Wf qq (Wf sU (VB d Mh rfl rfl bT (V (pL bN rfl) (Wi rfl (Wf uR (Wf qR (VB d Mh rfl rfl bT (V (pL bN rfl) (Wi rfl (Wf uR (Wf sU (VB d Mh rfl rfl bT (V (pL bN rfl) (Wi rfl ?_))))))))))))))
  refine Wf wW (VB d Mh rfl rfl bT (V (pL bN rfl) (Wi rfl (Wi rfl (Wa (lu (lI (kP ?_))))))))
  replace d:=d.kB (Db St)
  exact ⟨n,(wi0 .i64 (g+(wi0 .i64 ((wi0 .i64 ((wi0 .i64 ((wi0 .i64 ((wi0 .i64 ((wi0 .i64 ((wi0 .i64 ((wi0 .i64 (20+(a.Head.kA.size:Int)))+(a.Head.Word.size:Int)))+(a.mC.size:Int)))+(a.B.kA.size:Int)))+(a.B.Word.size:Int)))+(a.C.kA.size:Int)))+(a.C.Word.size:Int)))+(a.mA.size:Int))))),_,⟨rfl,q⟩,(d.kB St),rfl,y,(by rw [H]; exact c)⟩
 rintro E W ⟨g,t,⟨n,q⟩,d,x,y,c⟩
 rw [aO] at c
 exact kP (sg (Wh x (Wa (lt (rQ c d)))))
theorem yS (H:Value) (Q:List Key) (u:Value) (J:List Signed) (r:Int) (w:World) (B:Sl oF 2 (hp w) H Q) (D:Sl uI 10 (hp w) u J) (hm:vA Q J=some r) :
  la true pg0 40 [H,u] w (.int .i64 r):=by
 refine cG 45 func40 rfl (λd=>sg (Wa (lr (Wa (lS (Wm ?_))))))
 refine V (mx eF rfl B) (Wm (ln (mj (λi E W=>∃t N,(E 12= .int .i64 (i:Nat)∧E 11= .int .i64 (Q.length:Nat))∧ST true lD w W (hp w) N∧E 1=u∧E 5=(.int .i64 t)∧E 10=H∧rK J (Q.drop i) t=some r) Q.length B.len ⟨0,_,⟨rfl,rfl⟩,(d.kB St),rfl,rfl,rfl,hm⟩ dc dc dc (λ_ _ _ h=>by obtain ⟨_,_,q,_⟩:=h; exact q) ?_ ?_)))
 ·rintro c3 E W b5 ⟨t,N,⟨p,s⟩,d,U,Y,Z,g⟩
  obtain ⟨k,d4,b9,b7,c0⟩:=lX b5
  rw [b9] at g
  refine bg (VQ (mo (i:=(c3:Int)) (x0:=k) oF.out eF fT Z p B (aM _) b7) (λd8 ⟨_,⟨d9,rfl,a2⟩,b6⟩=>V (kF rfl (lx d.has b6 isAgg119 fT)) (VE (lT d zeroValue119 (λd5 d7 d=>?_)))))
  obtain ⟨A,L,rfl⟩:=a2.form
  refine VO (lp (.agg #[(.string k.mC),(.slice A k.Key.length L)]) (#[(.string k.mC),(.slice A k.Key.length L)]) d rfl rfl fT oc nb rfl (λd6 d=>ln (kR (Wh Y (Wf Eu (VB d Mh rfl rfl bT (V (pL bN rfl) (Wi rfl (Wf El (VB d Mh rfl rfl gI (V (mx cC rfl a2) (Wi rfl (Wi rfl (Wa ?_))))))))))))))
  refine lu (lI (kP ?_))
  replace d:=d.kB (Db St)
  exact ⟨p,(wi0 .i64 (t+(wi0 .i64 ((wi0 .i64 (10+(k.mC.size:Int)))+(k.Key.length:Int))))),_,⟨rfl,s⟩,(d.kB St),U,rfl,Z,(by rw [c0]; exact g)⟩
 rintro E W ⟨t,N,⟨p,s⟩,d,U,Y,Z,g⟩
 rw [aO] at g
 refine kP (kQ (sg (Wh U (V (mx jW rfl D) (Wm (ln (CJ g (λG E W=>∃M,ST true lD w W (hp w) M∧E 5=(.int .i64 G)) (λG a5=>?_) ?_)))))))
 ·refine mj (λi E W=>∃j x,(E 29= .int .i64 (i:Nat)∧E 28= .int .i64 (J.length:Nat))∧ST true lD w W (hp w) x∧E 5=(.int .i64 j)∧E 27=u∧tw (J.drop i) j=some G) J.length D.len ⟨t,_,⟨rfl,rfl⟩,(d.kB St),Y,rfl,a5⟩ dc dc dc (λ_ _ _ h=>by obtain ⟨_,_,q,_⟩:=h; exact q) ?_ ?_
  ·rintro c1 E W a3 ⟨j,x,⟨p,s⟩,d,y,z,c⟩
   obtain ⟨a,c4,a9,R,b0⟩:=lX a3
   rw [a9] at c
   refine bg (VQ (mo (i:=(c1:Int)) (x0:=a) uI.out jW jR z p D (aM _) R) (λd0 ⟨_,⟨d1,rfl,I⟩,O⟩=>V (kF rfl (lx d.has O isAgg55 jR)) (VE (lT d ko (λc5 c9 d=>?_)))))
   obtain ⟨K,T,rfl⟩:=I.form
   let a0:=(Pq a.kC.Kind a.kC.Head.kA a.kC.Head.Word a.kC.mC a.kC.B.kA a.kC.B.Word a.kC.C.kA a.kC.C.Word a.kC.mA K a.Tag.length T)
   refine VO (lp (.agg a0.toArray) (a0.toArray) d rfl rfl jR oc nb rfl (λc6 d=>ln ?_))
   replace d:=d.drew
   have n:=d.has.kB (Kb Sn)
   refine lC n lj (X 0 rfl n (kH y) (X 1 rfl n (kJ yD rfl) (XH 2 rfl n (λ_ v=>kF rfl (kL v Mh (kI a.kC) rfl cA aR)) (X 5 rfl n (kJ D6 rfl) (XH 6 rfl n (λ_ v=>kF rfl (kV v Mh rfl gI)) (X 7 rfl n (mx cC rfl I) (XE 3 rfl (lJ (cs:=(kI a.kC).toArray) d (nL rfl) (oa aX aR dT) (λc7 b3 d=>?_)))))))))
   have n:=d.has.kB (Db (Kb Sn))
   refine ⟨n,(bS c λc2 P c=>XE 4 rfl (Eg d call108 (Fh (.slice (some ⟨b3,0,none⟩) 1 1) ([a.kC]) _ _ (Sl.lit (enc:=kI) (l:=[a.kC]) mQ rfl nb rfl (d.at_ Mh)) P) (λc8 d=>?_)))⟩
   have n:=d.has.kB (Db (Kb Sn))
   refine ⟨n,(X 8 rfl n (lE rfl rfl rfl) (X 9 rfl n (lE rfl rfl rfl) (X 10 rfl n (mU rfl) (lH kr (lI (kP ?_))))))⟩
   replace d:=d.kB (Db (Db St))
   exact ⟨p,(wi0 .i64 (j+(wi0 .i64 (c2+(a.Tag.length:Int))))),_,⟨rfl,s⟩,(d.kB St),rfl,z,(by rw [b0]; exact c)⟩
  rintro E W ⟨j,x,⟨p,s⟩,d,y,z,c⟩
  rw [aO] at c
  refine kP ?_
  obtain rfl:=sj c
  exact ⟨_,(d.kB St),y⟩
 rintro d3 E W ⟨M,d,b4⟩ a4
 exact sg (Wh b4 (Wa (lt (rQ a4 d))))
end Go.Proofs.YtjjjihkifgdhgaaGreatDoor
