/- a part of a proof of AuditPasses -/
import Derived.Test.YtojmckcglalbnaaGreatAP2W2p
set_option linter.all false
namespace Go.Proofs.YtojmckcglalbnaaGreat
open Go.IntKind renaming wrap → wi0
open Go.Proofs.Tryz renaming prog → pg0
open Go.RowKit
set_option maxRecDepth 10000
open Tryz
variable {q0 q1 q2 q3 q4 q5 q6 q7 q8 q9:Value} {qa:World} {qb qc qd:Int} {qe:mO} {qf qg:Bool} {qh qi qj qk:Nat} {ql qm qn:List Int} {qo qp qq qr qs:LO} {qt qu:List lg} {qv qw:List lh} {qx:mD} {qy qz:Formula} {qA qB:List Formula} {qC:lg} {qD:Option mc} {qE qF:ByteArray} {qG:List oe} {qH qI:ow} {qJ:lm} {qK qL:lh} {qM:List (ByteArray×(List lg))} {qN:List (lh×(List (ByteArray×Bool)))} {qO:List (lh×(List lg))} {qP:List mT} {qQ:mf} {qR:pj} {qS:(Bool×(List Int))} {qT qU:List Signed} {qV:List np} {qW:List (ByteArray×Bool)} {qX:List (List Int)} {qY:List tT} {qZ:(Formula×Formula)→Option Int}
theorem Q3 (b2:pV nh (hp qa) q0 qD) (N:Sl sO 2 (hp qa) q1 qY) (hm:Kf qD qY=some qt) :
  na false pg0 16 [q0,q1] qa 69 lj 9 qt:=by
 refine vr 25 func16 Z (λd=>sg (Wa (lr (Wa (lS (Wm ?_))))))
 refine V (mP dD Z N) (Wm (ln (nM 10 9 (λi js E W=>∃t k j u M,lM (hp qa) u∧ST false nf qa W u (j++M)∧E 0=q0∧E 5=t∧E 8=q1∧mX 71 mR 10 u t k j∧BQ qD js k=some qt) N.len ⟨vN,[],[],hp qa,_,lM.refl _,d.ll,Z,Z,Z,mX.nil _ _ _ _,hm⟩ ?_ ?_)))
 ·rintro b3 c c1 E W a8 ⟨⟨h,q⟩,t,k,j,u,M,g,d,D,G,H,x,a⟩
  refine sg (VQ (nI (i:=(b3:Int)) (x0:=c) sO.out dD eA H h mv (aF _) a8) λc9 ⟨_,⟨d2,rfl,U⟩,a5⟩=>V (lq Z (mu d.has a5 lb eA)) (VE (lY d dI λc3 c8 d=>?_)))
  obtain ⟨y,z,rfl⟩:=U.form
  let P:Value:= .slice y c.B.length z
  refine VO (FA (#[vB c.Out,P]) d eA λc4 d=>lr (Wf Oo (VB d Mh Z Z fe (V (nK Z) (ln (CI a Z (λa3 a=>?_) λa3 a=>?_))))))
  ·refine lI (Wh G (VA d Mh [vB c.Out,P] lb eA (bS a λd0 Q a=>?_)))
   refine VE (eD d (aT _) call40 (λhh=>Ga hh mv Q) ?_ (L0:=[]))
   rintro _ d3 b7 c2 d K s ⟨d4,I,rfl,a9⟩
   cases I
   have d:=d.perm (Nr (Qb Qz) Nz)
   refine bS a λb4 a4 a=>VE (wW (B:=j) ra d dc cF Bk.1 Bk.2.1 Z Bk.2.2.1 Bk.2.2.2 Z Z (x.mono ra K) (EI.sl ra a9 d.ns) a4 λc6 b5 b0 d a2=>Wa (mh (mx (lE ?_))))
   have d:=d.ll (Kr (Db St))
   exact ⟨h,q,b5,b4,b0,b7,_,g.trans K,d.ll,D,Z,H,a2,a⟩
  refine mU (mx (lE ?_))
  have d:=d.ll (Db St)
  exact ⟨h,q,t,k,j,u,_,g,d.ll,D,G,H,x,a⟩
 rintro E W ⟨⟨h,q⟩,t,k,j,u,M,g,d,D,G,H,x,a⟩
 refine lE (sg (Wh D (Wh G (bS a λd1 Y a=>VE (oG d call39 (EO mv (x.sl ra d.ns λb o O=>d.at_ (Ml O)) Y) λc7 b6 d5 b1 d c0 J T=>Wa (ln ?_))))))
 have d:=d.ll (Kr (Dr St))
 refine lO ?_
 cases sj a
 exact ma (v:=b6) Z Z ⟨_,b1,Z,d.nT (λp O=>Ml O) T.nd,T⟩
theorem R9 (b1:Sl sO 2 (hp qa) q0 qY) (hm:KB qY=some qt) :
  na false pg0 17 [q0] qa 69 lj 9 qt:=by
 refine vr 32 func17 Z (λd=>sg (Wa (lr (Wa (lS (Wm ?_))))))
 refine V (mP dD Z b1) (Wm (ln (nM 10 9 (λi js E W=>∃y x z Y P,lM (hp qa) Y∧ST false nf qa W Y (z++P)∧E 3=y∧E 8=q0∧mg 69 lj 9 y x z∧BM js x=some qt) b1.len ⟨vN,[],[],hp qa,_,lM.refl _,d.ll,Z,Z,mg.nil _ _ _,hm⟩ ?_ ?_)))
 ·rintro b2 j g8 E W d9 ⟨⟨h,q⟩,y,x,z,Y,P,t,d,H,I,J,c⟩
  refine sg (VQ (nI (i:=(b2:Int)) (x0:=j) sO.out dD eA I h mv (aF _) d9) λf9 ⟨_,⟨g3,rfl,b0⟩,c4⟩=>V (lq Z (mu d.has c4 lb eA)) (VE (lY d dI λe9 f7 d=>?_)))
  obtain ⟨B,G,rfl⟩:=b0.form
  let b8:Value:= .slice B j.B.length G
  refine VO (FA (#[vB j.Out,b8]) d eA λf0 d=>lr (Wf Oo (VB d Mh Z Z fe (ln (CI c Z (λc0 c=>?_) λc0 c=>?_)))))
  ·refine sg (VA d Mh [vB j.Out,b8] lb eA (bS c λg1 c6 c=>?_))
   refine VE (eD d (aT _) call40 (λhh=>Ga hh mv c6) ?_ (L0:=[]))
   rintro _ g4 a8 e8 d b6 s ⟨e5,Q,rfl,T⟩
   obtain rfl:=Q.symm
   refine V (mP cF Z T) (Wm (ln ?_))
   have d:=d.ll (Db St)
   refine xl (CJ c (λa7 E W=>∃M D b4,ST false nf qa W a8 (D++b4)∧E 3=M∧E 8=q0∧E 9=vI (qY.length:Int)∧E 10=vI (b2:Int)∧mg 69 lj 9 M a7 D) (λa7 c3=>?_) ?_)
   ·refine nM 19 18 (λi js E W=>∃u K k U,ST false nf qa W a8 (k++U)∧E 3=u∧E 8=q0∧E 9=vI (qY.length:Int)∧E 10=vI (b2:Int)∧E 17=e5∧mg 69 lj 9 u K k∧ET js K=some a7) T.len ⟨y,x,z,_,d.ll,H,I,q,h,Z,J,c3⟩ ?_ ?_
    ·rintro e0 a e7 E W d0 ⟨⟨h,q⟩,u,K,k,U,d,a2,a3,a4,a5,a6,N,g⟩
     refine sg (VQ (nI (i:=(e0:Int)) (x0:=a) mR.out cF bW a6 h T (aF _) d0) λg0 ⟨_,⟨g7,rfl,c9⟩,c5⟩=>V (lq Z (mu d.has c5 eE bW)) (VE (lY d cQ λf2 f8 d=>?_)))
     obtain ⟨b3,b5,rfl⟩:=c9.form
     let b7:=C3 a.lg.Kind a.lg.Head.lu a.lg.Head.Word a.lg.nj a.lg.B.lu a.lg.B.Word a.lg.C.lu a.lg.C.Word a.lg.mV b3 a.Tag.length b5
     refine VO (FA b7.toArray d bW λf3 d=>ln (lI (Wh a2 (Wf sP (VA d Mh (lj a.lg) bF aI (VE (mn (cs:=(lj a.lg).toArray) d (nw Z) (nU aN aI cI) λf4 d4 d=>?_)))))))
     have d:=d.perm (Nr (Qb (Qb Qz)) Nz)
     refine bS g λe2 c1 g=>VE (oU (enc:=lj) (v:=u) (vs:= .slice (some ⟨d4,0,none⟩) 1 1) (R:=k) d mY dc pf aN nZ.1 nZ.2.1 Z nZ.2.2.1 nZ.2.2.2 Z Z N (Sl.lit (enc:=lj) (l:=[a.lg]) mY Z nb Z (d.at_ (Ma Mh))) c1 λf5 e3 d1 d b9=>Wa (mh (mx (lE ?_))))
     have d:=d.ll (Kr (Db (Db St)))
     exact ⟨h,q,e3,e2,d1,_,d.ll,Z,a3,a4,a5,a6,b9,g⟩
    rintro E W ⟨⟨h,q⟩,u,K,k,U,d,a2,a3,a4,a5,a6,N,g⟩
    refine lE ?_
    obtain rfl:=sj g
    exact ⟨u,k,_,d.ll,a2,a3,a4,a5,N⟩
   rintro e1 E W ⟨M,D,b4,d,d5,d6,d7,d8,c8⟩ c2
   exact mx (lE ⟨d8,d7,M,e1,D,a8,_,t.trans b6,d.ll,d5,d6,c8,c2⟩)
  refine mU (mx (lE ?_))
  have d:=d.ll (Db St)
  exact ⟨h,q,y,x,z,Y,_,t,d.ll,H,I,J,c⟩
 rintro E W ⟨⟨h,q⟩,y,x,z,Y,P,t,d,H,I,J,c⟩
 refine lE (sg (Wh H (bS c λg2 c7 c=>VE (oG d kp (wB (J.sl mY λb o hq=>d.at_ (Ml hq)) c7) λf6 e4 g9 d2 d e6 O a9=>Wa (ln ?_)))))
 have d:=d.ll (Kr (Dr St))
 refine lO ?_
 obtain rfl:=sj c
 exact ma (v:=e4) Z Z ⟨_,d2,Z,d.nT (λp hq=>Ml hq) a9.nd,a9⟩
set_option maxHeartbeats 4000000 in
theorem Qm (r:Bool) (w:World) (hm:DJ =some r) :
  mo false pg0 4 [] w (vB r):=by
 refine cG 102 func4 Z (λd=>sg (Wa (lr (VE (mn (cs:=[.int .u8 107].toArray) d (nw Z) (nU aZ gb jJ) λW2 b1 d=>?_)))))
 have r4:Fr w.heap.size (.slice (some ⟨b1,0,none⟩) 1 1):=Fr.box d Mh
 refine VE (QT (l:=[107]) d aZ eS Z Z Z dc λW3 bc d n4 ba m0=>V (mW (v:=vA (Zp b1)) (pZ Z Z) (mz kV jg (adf _ jg) kr)) (VE (mn (cs:=(Zp b1).toArray) d (nw Z) (nU jh kz kV) λo9 b9 d=>?_)))
 have n2:Fr w.heap.size (.slice (some ⟨b9,0,none⟩) 1 1):=Fr.box d Mh
 obtain ⟨s1,d,m1,af,l3⟩:=ST.Bb (B:=[(b9,Ol (Zp b1) 67)]) RH d (mX.lit RH (l:=[(⟨K2,[107]⟩:Key)]) (.cons (ys:=Zp b1) (za.mk ⟨.slice (some ⟨b1,0,none⟩) 1 1,Z,m0⟩) .nil) Z nb Z)
 refine bS hm λd2 k7 hm=>?_
 refine VE (Ub d (aT _) call5 (λhH hN aa ae=>my.mN (On ⟨hH,hN,aa⟩ mv k7)) (λp0 r6 s2 o6 d m2 ag k5=>?_) (L0:=[]))
 obtain ⟨a3,d0,rfl,b3⟩:=k5
 replace d0:=d0.symm; subst d0
 have d:=d.perm Tn
 refine Wm (Wx Z (Wx Z (Wa (Wa (lr (V (mW (v:=vA (lp K9)) (pZ Z Z) (mz dE dC (Vt _ dC) kr)) (V (mW (v:=vA (lj Zf)) (I5 Z Z Z) (mz cI dz (U2 _ dz) kr)) (VE (lY d cI λp1 r1 d=>VO (FA (h1:=pf Zf) ((lj Zf).toArray) d aI λp2 d=>ln ?_))))))))))
 refine sg (Wm (VA d Mh (lj Zf) bF aI (bS hm λa k8 hm=>?_)))
 let t4:=(⟨a.1,K10⟩:np)
 let t7:=(⟨K1,[t4],[]⟩:lm)
 let P:Value:=vS a.1.lg.nj
 let O:Value:=vS a.1.lg.mV
 let s:Value:=vI a.1.lg.Kind
 let m3:Value:=vS a.1.lg.C.Word
 let j2:Value:=vS a.1.lg.B.Word
 let j1:Value:=vS a.1.lg.C.lu
 let q:Value:=vS a.1.lg.B.lu
 let g6:=a.1.lg.Head
 let t0:Value:=vS g6.Word
 let s9:Value:=vS g6.lu
 refine VE (Ub d (aT _) call13 (λhH hN aa ae=>my.mN (JI ⟨hH,hN,aa⟩ mv k8)) (λp3 r7 s3 o7 d b0 ah k6=>?_) (L0:=[]))
 obtain ⟨s0,d1,rfl,a5⟩:=k6
 replace d1:=d1.symm; subst d1
 have d:=d.perm Tn
 refine Wm (Wx Z (Wx Z (VE (lY d cQ λp4 r2 d=>?_))))
 obtain ⟨t,u,rfl⟩:=a5.form
 let g5:Value:= .slice t a.1.Tag.length u
 let a9:=(#[s,s9,t0,P,q,j2,j1,m3,O,g5,vI 3,vI 0,vS zS,vS zS,vN]:Array Value)
 refine VO (FA (#[s,s9,t0,P,q,j2,j1,m3,O,g5]) d bW λp5 d=>Wa (ln ?_))
 have d:=d.ll (Kb (Db St))
 refine sg (VA d Mh [s,s9,t0,P,q,j2,j1,m3,O,g5] eE bW (V (mW (v:=vA WW) (nw Z) (mz bG cO (Hj _ cO) kr)) (V (mW (v:=vA [s,s9,t0,P,q,j2,j1,m3,O,g5,vI 3,vI 0,vS zS,vS zS,vN]) (pZ Z Z) (mz fl gH (abP _ gH) kr)) (VE (mn (cs:=#[s,s9,t0,P,q,j2,j1,m3,O,g5,vI 3,vI 0,vS zS,vS zS,vN]) d (nw Z) (nU dL dO fl) λp6 z d=>V (mW (v:=vA (Tp z)) (pZ Z Z) (mz zeroValue25 iq (adj _ iq) kr)) (VE (lY d zeroValue25 λp7 T d=>VO (FA ((Tp z).toArray) d eo λp8 d=>lr (VA d (Mt (Mt Mh)) [s,s9,t0,P,q,j2,j1,m3,O,g5] eE bW (VE (mn (cs:=#[s,s9,t0,P,q,j2,j1,m3,O,g5]) d (nw Z) (nU cF bW cQ) λp9 e1 d=>?_)))))))))))
 let t6:Value:= .slice (some ⟨z,0,none⟩) 1 1
 let t3:=((Tp z).toArray:Array Value)
 let t2:Value:=vP T
 refine V (mW (v:=vA [vI 2,vI 0,vI 0,vS zS,vN,.slice (some ⟨e1,0,none⟩) 1 1]) (pZ Z Z) (mz cC bO (Be _ bO) kr)) (bS hm λc k9 hm=>VE (oG d call14 (KD (Sl.nil _ _ _) ((mX.lit ra (l:=[a.1]) (.cons (ys:=[s,s9,t0,P,q,j2,j1,m3,O,g5]) (mR.mk ⟨g5,Z,a5⟩) .nil) Z nb Z).sl ra d.ns λb o h=>(by rw [aV] at h; cases h; exact d.at_ Mh)) k9) λao r8 s4 o8 d U ai c8=>Wa (ln ?_)))
 let t1:=(⟨false,c⟩:tT)
 have d:=d.ll (Kr (Db (Kb (Kb (Db St)))))
 refine sg (VA d (Ma Mh) (Tp z) fa eo (Wm (Wm ?_)))
 obtain ⟨g,j,rfl⟩:=c8.form
 let b8:Value:= .slice g c.length j
 let t5:Value:=vA [vB false,b8]
 refine V (mW (v:=t5) (nw Z) (mz dI du (Jj _ du) kr)) (Wm (V (mW (v:=vA [vB true,b8]) (pZ Z Z) (mz dI du (Jj _ du) kr)) ?_))
 have n3:=c8.Wb d (λp h=>Ml h)
 obtain ⟨s5,d,Y,aj,Zq⟩:=ST.xM d c8 (λ_=>rfl)
 refine VE (mn (cs:=#[vB false,b8,vB true,b8]) d (pZ Z Z) (nU dD eA dI) λap l7 d=>bS hm λc5 l0 hm=>VE (Eg d call12 (DO ((mX.lit uE (l:=[t4]) (.cons (ys:=[s,s9,t0,P,q,j2,j1,m3,O,g5,vI 3,vI 0,vS zS,vS zS,vN]) (lU.mk ⟨g5,vN,Z,mv,Sl.nil _ _ _⟩) .nil) Z nb Z).sl uE d.ns λb o h=>(by rw [aV] at h; cases h; exact d.at_ (Mt (Mt Mh)))) (Sl.nil _ _ _) mv ((mX.lit A6 (l:=[t1,(⟨true,c⟩:tT)]) (.cons (ys:=[vB false,b8]) (sO.mk ⟨b8,Z,Zq⟩) (.cons (ys:=[vB true,b8]) (sO.mk ⟨b8,Z,Zq⟩) .nil)) Z nb Z).sl A6 d.ns λb o h=>(by rw [aV] at h; cases h; exact d.at_ Mh)) l0) λaq d=>VE (lY d fY λar r3 d=>VO (FA (h1:=Em c5) ((pk c5).toArray) d iu λau d=>ln ?_))))
 have d:=d.ll (Kb (Db St))
 refine sg (VA d (Mt Mh) (Tp z) fa eo (Wm (Wm (V (mW (v:=t5) (nw Z) (mz dI du (Jj _ du) kr)) (VE (mn (cs:=#[vB false,b8]) d (nw Z) (nU dD eA dI) λav l8 d=>bS hm λa7 l1 hm=>VE (Eg d call12 (DO ((mX.lit uE (l:=[t4]) (.cons (ys:=[s,s9,t0,P,q,j2,j1,m3,O,g5,vI 3,vI 0,vS zS,vS zS,vN]) (lU.mk ⟨g5,vN,Z,mv,Sl.nil _ _ _⟩) .nil) Z nb Z).sl uE d.ns λb o h=>(by rw [aV] at h; cases h; exact d.at_ (Mt (Mt (Mt Mh))))) (Sl.nil _ _ _) mv ((mX.lit A6 (l:=[t1]) (.cons (ys:=[vB false,b8]) (sO.mk ⟨b8,Z,Zq⟩) .nil) Z nb Z).sl A6 d.ns λb o h=>(by rw [aV] at h; cases h; exact d.at_ Mh)) l1) λaw d=>VE (lY d fY λay i7 d=>VO (FA (h1:=Em a7) ((pk a7).toArray) d iu λaz d=>ln ?_)))))))))
 have d:=d.ll (Kb (Db St))
 refine sg (Wm (V (mW (v:=vA [vB true,b8]) (pZ Z Z) (mz dI du (Jj _ du) kr)) (Wm (V (mW (v:=t5) (nw Z) (mz dI du (Jj _ du) kr)) (VE (mn (cs:=#[vB true,b8,vB false,b8]) d (pZ Z Z) (nU dD eA dI) λaE l9 d=>bS hm λr5 l2 hm=>VE (oG d call15 (Od ((mX.lit A6 (l:=[(⟨true,c⟩:tT),t1]) (.cons (ys:=[vB true,b8]) (sO.mk ⟨b8,Z,Zq⟩) (.cons (ys:=[vB false,b8]) (sO.mk ⟨b8,Z,Zq⟩) .nil)) Z nb Z).sl A6 d.ns λb o h=>(by rw [aV] at h; cases h; exact d.at_ Mh)) l2) λr0 h2 a8 e0 d a4 an c9=>Wa (ln ?_))))))))
 have d:=d.ll (Kr (Db St))
 refine sg (Wm (Wi Z (Wm (LJ hm (λh1 E W=>∃d3,ST false nf w W a8 ((i7,Ol (pk a7) 63)::((T,oC t3 25)::((z,oC a9 75)::(e0++d3))))∧E 0=vB false∧E 1=a3∧E 6=t2∧E 7=b8∧E 9=vP i7∧E 10=h2∧E 62=vB h1) 4 ?_ λh1 a2 c4=>?_))))
 ·rintro r9 E W ⟨d3,d,e2,e3,e4,e5,j3,e6,j4⟩ h6
  refine Wh j4 (LJ h6 (λh0 E W=>∃d4,ST false nf w W a8 ((T,oC t3 25)::((z,oC a9 75)::(e0++d4)))∧E 0=vB false∧E 1=a3∧E 6=t2∧E 7=b8∧E 10=h2∧E 67=vB h0) 4 ?_ λh0 a1 c3=>?_)
  ·rintro o0 E W ⟨d4,d,e7,e8,e9,f0,c6,j5⟩ h7
   refine Wh j5 (LJ h7 (λg9 E W=>∃d5,ST false nf w W a8 ((T,oC t3 25)::((z,oC a9 75)::(e0++d5)))∧E 0=vB false∧E 1=a3∧E 6=t2∧E 7=b8∧E 10=h2∧E 72=vB g9) 4 ?_ λg9 a0 c2=>?_)
   ·rintro o1 E W ⟨d5,d,f1,f2,f3,f4,j6,j7⟩ h8
    refine Wh j7 (LJ h8 (λg8 E W=>∃d6,ST false nf w W a8 ((T,oC t3 25)::((z,oC a9 75)::d6))∧E 0=vB false∧E 1=a3∧E 6=t2∧E 7=b8∧E 78=vB g8) 5 ?_ λg8 Q c1=>?_)
    ·rintro o2 E W ⟨d6,d,f5,j8,f6,c7,j9⟩ h9
     refine Wh j9 (LJ h9 (λg7 E W=>∃a6 d7,lM a8 a6∧ST false nf w W a6 ((T,oC t3 25)::((z,oC a9 75)::d7))∧E 0=vB false∧E 6=t2∧E 7=b8∧E 87=vB g7) 8 ?_ λg7 N c0=>?_)
     ·rintro o3 E W ⟨a6,d7,b5,d,f7,f8,k0,k1⟩ i0
      refine Wh k1 (LJ i0 (λg4 E W=>∃b4 d8,lM a6 b4∧ST false nf w W b4 ((T,oC t3 25)::((z,oC a9 75)::d8))∧E 0=vB false∧E 6=t2∧E 95=vB g4) 7 ?_ λg4 M b7=>?_)
      ·rintro o4 E W ⟨b4,d8,g0,d,f9,k2,k3⟩ i1
       refine Wh k3 (LJ i1 (λg3 E W=>∃d9,ST false nf w W b4 d9∧E 0=vB false∧E 101=vB g3) 5 ?_ λg3 K b6=>?_)
       ·rintro o5 E W ⟨d9,d,n1,k4⟩ i2
        exact Wg k4 (lt (rQ i2 d))
       refine bC K (λG K=>?_) (λG K=>?_)
       ·refine ug G (lq k2 (lC d.has Mh (Tp z) Z fa eo)) (bS K λl4 i4 K=>tw G (Eg d call12 (DO ((mX.lit uE (l:=[t4]) (.cons (ys:=[s,s9,t0,P,q,j2,j1,m3,O,g5,vI 3,vI 0,vS zS,vS zS,vN]) (lU.mk ⟨g5,vN,Z,mv,Sl.nil _ _ _⟩) .nil) Z nb Z).sl uE d.ns λb o h=>(by rw [aV] at h; cases h; exact d.at_ (Mt Mh))) (Sl.nil _ _ _) pV.nil (Sl.nil _ _ _) i4) λm6 d=>ug G (Xo (v:=vI l4.WR) dK Z kZ Z Z) (ug G (mL Z Z Z) (V (lQ (cB G) Z) ?_))))
        cases sj K
        exact b6 _ _ ⟨_,d.ll (Db (Db St)),f9,Z⟩
       refine un G (un G (un G (un G (V (lN (cB G) Z) ?_))))
       cases sj K
       exact b6 _ _ ⟨_,d.ll (Db (Db St)),f9,Z⟩
      refine bC M (λx M=>?_) (λx M=>?_)
      ·refine ug x (lz k0) (ug x (mW (v:=t5) (nw Z) (mz dI du (Jj _ du) kr)) (tw x (mn (cs:=#[vB false,b8]) d (nw Z) (nU dD eA dI) λm7 i8 d=>bS M λn6 i5 M=>tw x (oG d call17 (R9 ((mX.lit A6 (l:=[t1]) (.cons (ys:=[vB false,b8]) (sO.mk ⟨b8,Z,mv⟩) .nil) Z nb Z).sl A6 d.ns λb o h=>(by rw [aV] at h; cases h; exact d.at_ Mh)) i5) λm8 n8 l5 m4 d g1 ab h4=>ug x (sf aN Z h4) (ug x (mL Z Z Z) (V (lQ (cB x) Z) ?_))))))
       cases sj M
       exact b7 _ _ ⟨l5,_,g1,d.ll (Dr (Db St)),f7,f8,Z⟩
      refine un x (un x (un x (un x (un x (un x (V (lN (cB x) Z) ?_))))))
      cases sj M
      exact b7 _ _ ⟨a6,_,lM.refl _,d.ll,f7,f8,Z⟩
     refine bC N (λk N=>?_) (λk N=>?_)
     ·refine ug k (lz j8) (ug k (lz c7) (ug k (mW (v:=t5) (nw Z) (mz dI du (Jj _ du) kr)) (tw k (mn (cs:=#[vB false,b8]) d (nw Z) (nU dD eA dI) λm9 i9 d=>bS N λn7 i6 N=>tw k (oG d call16 (Q3 mv ((mX.lit A6 (l:=[t1]) (.cons (ys:=[vB false,b8]) (sO.mk ⟨b8,Z,mv⟩) .nil) Z nb Z).sl A6 d.ns λb o h=>(by rw [aV] at h; cases h; exact d.at_ Mh)) i6) λn0 n9 l6 m5 d g2 ad h5=>ug k (sf aN Z h5) (ug k (mL Z Z Z) (V (lQ (cB k) Z) ?_)))))))
      cases sj N
      exact c0 _ _ ⟨l6,_,g2,d.ll (Dr (Db St)),f5,f6,c7,Z⟩
     refine un k (un k (un k (un k (un k (un k (un k (V (lN (cB k) Z) ?_)))))))
     cases sj N
     exact c0 _ _ ⟨a8,_,lM.refl _,d.ll,f5,f6,c7,Z⟩
    refine bC Q (λD Q=>?_) (λD Q=>?_)
    ·refine ug D (lz j6) (bS Q λh3 b2 Q=>ugQ D (pC (i:=0) (x0:=h3) gJ dn Z Z c9 (mK b2) (mE b2)) λn5 i3=>ug D (lq Z (MF d.has (λp h=>Mt (Mt (Ml h))) c9 (λ_=>rfl) i3 (mE b2) (y:=vI h3) Z bK)) (ug D (mL Z Z Z) (V (lQ (cB D) Z) ?_)))
     cases sj Q
     exact c1 _ _ ⟨_,d.ll (Kb (Kb (Dr St))),f1,f2,f3,f4,Z⟩
    refine un D (un D (un D (un D (V (lN (cB D) Z) ?_))))
    cases sj Q
    exact c1 _ _ ⟨_,d.ll (Kb (Kb (Dr St))),f1,f2,f3,f4,Z⟩
   refine bC a0 (λI a0=>?_) (λI a0=>?_)
   ·refine ug I (lz c6) (ug I (sf gJ Z c9) (ug I (mL Z Z Z) (V (lQ (cB I) Z) ?_)))
    cases sj a0
    exact c2 _ _ ⟨_,d.ll,e7,e8,e9,f0,c6,Z⟩
   refine un I (un I (un I (V (lN (cB I) Z) ?_)))
   cases sj a0
   exact c2 _ _ ⟨_,d.ll,e7,e8,e9,f0,c6,Z⟩
  refine bC a1 (λH a1=>?_) (λH a1=>?_)
  ·refine ug H (lq j3 (lC d.has Mh (pk a7) Z isAgg63 iu)) (ug H (mW (v:=vA (pk (⟨1,0⟩:sB))) (nw Z) (mz fY dK (OY _ dK) kr)) (ug H (A4 Z Z (rY eqGuardType63) (xu (H5 _ a7 (⟨1,0⟩:sB)))) (V (lQ (cB H) Z) ?_)))
   cases sj a1
   exact c3 _ _ ⟨_,d.ll (Db St),e2,e3,e4,e5,e6,Z⟩
  refine un H (un H (un H (V (lN (cB H) Z) ?_)))
  cases sj a1
  exact c3 _ _ ⟨_,d.ll (Db St),e2,e3,e4,e5,e6,Z⟩
 refine bC a2 (λJ a2=>?_) (λJ a2=>?_)
 ·refine ug J (lq Z (lC d.has (Ma (Mt Mh)) (pk c5) Z isAgg63 iu)) (ug J (mW (v:=vA (pk (⟨1,44⟩:sB))) (pZ Z Z) (mz fY dK (OY _ dK) kr)) (ug J (A4 Z Z (rY eqGuardType63) (xu (H5 _ c5 (⟨1,44⟩:sB)))) (V (lQ (cB J) Z) ?_)))
  cases sj a2
  exact c4 _ _ ⟨_,d.ll (Sb (Pr Pz) (Sb (Pr (Pb Pz)) (Sb (Pr (Pb Pz)) (Kr (Db St))))),Z,Z,Z,Z,Z,Z,Z⟩
 refine un J (un J (un J (V (lN (cB J) Z) ?_)))
 cases sj a2
 exact c4 _ _ ⟨_,d.ll (Sb (Pr Pz) (Sb (Pr (Pb Pz)) (Sb (Pr (Pb Pz)) (Kr (Db St))))),Z,Z,Z,Z,Z,Z,Z⟩
theorem DH (j:Sl (Pl lj) 9 (hp qa) q0 qt) (hm:tB qt=some qb) :
  mo true pg0 53 [q0] qa (vI qb):=by
 refine cG 54 func53 Z (λd=>sg (Wa (lr (Wa (lS (Wm ?_))))))
 refine V (mP aN Z j) (Wm (ln (nM 8 7 (λi q E W=>∃g t,ST true nf qa W (hp qa) t∧E 3=vI g∧E 6=q0∧xk q g=some qb) j.len ⟨0,_,d.ll,Z,Z,hm⟩ ?_ ?_)))
 ·rintro D a G E W z ⟨⟨h,k⟩,g,t,d,u,x,c⟩
  refine sg (VQ (rp (enc:=lj) (i:=(D:Int)) (x0:=a) aN aI x h j (aF _) z) λK y=>V (lq Z (mu d.has y bF aI)) (VE (lY d cI λH J d=>VO (FA (h1:=pf a) ((lj a).toArray) d aI λI d=>ln (lI (Wh u (Wf yv (Wf zP (VB d Mh Z Z cA (V (th bX Z) (Wi Z ?_)))))))))))
  refine Wf yv (Wf Bo (VB d Mh Z Z cA (V (th bX Z) (Wi Z (Wf G2 (VB d Mh Z Z cA (V (th bX Z) (Wi Z (Wf ub (Wf zP (VB d Mh Z Z cA (V (th bX Z) (Wi Z (Wf ub ?_))))))))))))))
  refine Wf Bo (VB d Mh Z Z cA (V (th bX Z) (Wi Z (Wf Dl (Wf zP (VB d Mh Z Z cA (V (th bX Z) (Wi Z (Wf Dl (Wf Bo (VB d Mh Z Z cA (V (th bX Z) (Wi Z (Wf Du ?_))))))))))))))
  refine VB d Mh Z Z cA (V (th bX Z) (Wi Z (Wi Z (Wa (mh (mx (lE ?_)))))))
  have d:=d.ll (Db St)
  exact ⟨h,k,wi0 .i64 (g+(wi0 .i64 ((wi0 .i64 ((wi0 .i64 ((wi0 .i64 ((wi0 .i64 ((wi0 .i64 ((wi0 .i64 ((wi0 .i64 (20+(a.Head.lu.size:Int)))+(a.Head.Word.size:Int)))+(a.nj.size:Int)))+(a.B.lu.size:Int)))+(a.B.Word.size:Int)))+(a.C.lu.size:Int)))+(a.C.Word.size:Int)))+(a.mV.size:Int)))),_,d.ll,Z,x,c⟩
 rintro E W ⟨⟨h,k⟩,g,t,d,u,x,c⟩
 exact lE (sg (Wh u (Wa (lt (rQ c d)))))
theorem DC {a0:List Key} (B:Sl za 2 (hp qa) q0 a0) (D:Sl mR 10 (hp qa) q1 qT) (hm:wY a0 qT=some qb) :
  mo true pg0 22 [q0,q1] qa (vI qb):=by
 refine cG 45 func22 Z (λd=>sg (Wa (lr (Wa (lS (Wm ?_))))))
 refine V (mP jh Z B) (Wm (ln (nM 12 11 (λi v E W=>∃t M,ST true nf qa W (hp qa) M∧E 1=q1∧E 5=vI t∧E 10=q0∧vG qT v t=some qb) B.len ⟨0,_,d.ll,Z,Z,Z,hm⟩ ?_ ?_)))
 ·rintro b6 k c8 E W b2 ⟨⟨q,s⟩,t,M,d,Q,T,U,g⟩
  refine sg (VQ (nI (i:=(b6:Int)) (x0:=k) za.out jh kz U q B (aF _) b2) λd2 ⟨_,⟨d3,rfl,Y⟩,b1⟩=>V (lq Z (mu d.has b1 isAgg67 kz)) (VE (lY d kV λc9 d1 d=>?_)))
  obtain ⟨P,a7,rfl⟩:=Y.form
  refine VO (FA (#[vS k.nj,.slice P k.Key.length a7]) d kz λd0 d=>ln (lI (Wh T (Wf Ns (VB d Mh Z Z cA (V (th bX Z) (Wi Z (Wf NI (VB d Mh Z Z dq (V (mP aZ Z Y) (Wi Z (Wi Z (Wa ?_)))))))))))))
  refine mh (mx (lE ?_))
  have d:=d.ll (Db St)
  exact ⟨q,s,wi0 .i64 (t+(wi0 .i64 ((wi0 .i64 (10+(k.nj.size:Int)))+(k.Key.length:Int)))),_,d.ll,Q,Z,U,g⟩
 rintro E W ⟨⟨q,s⟩,t,M,d,Q,T,U,g⟩
 refine lE (lH (sg (Wh Q (V (mP cF Z D) (Wm (ln (CJ g (λG E W=>∃K,ST true nf qa W (hp qa) K∧E 5=vI G) (λG a2=>?_) ?_)))))))
 ·refine nM 29 28 (λi v E W=>∃j x,ST true nf qa W (hp qa) x∧E 5=vI j∧E 27=q1∧xq v j=some G) D.len ⟨t,_,d.ll,T,Z,a2⟩ ?_ ?_
  ·rintro b3 a b7 E W a5 ⟨⟨q,s⟩,j,x,d,y,z,c⟩
   refine sg (VQ (nI (i:=(b3:Int)) (x0:=a) mR.out cF bW z q D (aF _) a5) λc4 ⟨_,⟨c5,rfl,I⟩,a3⟩=>V (lq Z (mu d.has a3 eE bW)) (VE (lY d cQ λb9 c3 d=>?_)))
   obtain ⟨J,N,rfl⟩:=I.form
   let a8:=C3 a.lg.Kind a.lg.Head.lu a.lg.Head.Word a.lg.nj a.lg.B.lu a.lg.B.Word a.lg.C.lu a.lg.C.Word a.lg.mV J a.Tag.length N
   refine VO (FA a8.toArray d bW λc0 d=>ln ?_)
   have d:=d.drew
   have h:=d.has.ll (Kb Sn)
   refine mF h lV (X 0 Z h (lz y) (X 1 Z h (ly sP Z) (XH 2 Z h (λ_ u=>lq Z (lC u Mh (lj a.lg) Z bF aI)) (X 5 Z h (ly B9 Z) (XH 6 Z h (λ_ u=>lq Z (lA u Mh Z dq)) (X 7 Z h (mP aZ Z I) (XE 3 Z (mn (cs:=(lj a.lg).toArray) d (nw Z) (nU aN aI cI) λc1 a9 d=>?_))))))))
   have h:=d.has.ll (Db (Kb Sn))
   refine ⟨h,bS c λb4 a4 c=>XE 4 Z (Eg d call53 (DH (Sl.lit (enc:=lj) (l:=[a.lg]) mY Z nb Z (d.at_ Mh)) a4) λc2 d=>?_)⟩
   have h:=d.has.ll (Db (Kb Sn))
   refine ⟨h,X 8 Z h (mL Z Z Z) (X 9 Z h (mL Z Z Z) (X 10 Z h (nB Z) (mG kr (mx (lE ?_)))))⟩
   have d:=d.ll (Db (Db St))
   exact ⟨q,s,wi0 .i64 (j+(wi0 .i64 (b4+(a.Tag.length:Int)))),_,d.ll,Z,z,c⟩
  rintro E W ⟨⟨q,s⟩,j,x,d,y,z,c⟩
  refine lE ?_
  cases sj c
  exact ⟨_,d.ll,y⟩
 rintro c7 E W ⟨K,d,b0⟩ O
 exact sg (Wh b0 (Wa (lt (rQ O d))))
theorem Lc (I:(List Formula)→Option Int) (M:∀(j:Value) (H:List Formula) (r:Int) (w:World) (t:Sl lx 5 (hp w) j H),I H=some r→mo false pg0 21 [j] w (vI r)) (j:Value) (H:List Formula) (r:Int) (w:World) (t:Sl lx 5 (hp w) j H) (hm:B4 I H=some r) :
  mo false pg0 21 [j] w (vI r):=by
 refine cG 31 func21 Z (λh=>sg (Wa (lr (Wa (lS (Wm ?_))))))
 refine V (mP aJ Z t) (Wm (ln (nM 8 7 (λi P E W=>∃u y,ST false nf w W (hp w) y∧E 3=vI u∧E 6=j∧xp I P u=some r) t.len ⟨0,_,h.ll,Z,Z,hm⟩ ?_ ?_)))
 ·rintro T c a4 E W N ⟨⟨s,O⟩,u,y,h,B,D,g⟩
  let a0:=(c.lh.lu.size:Int)+(c.lh.Word.size:Int)
  refine sg (VQ (nI (i:=(T:Int)) (x0:=c) lx.out aJ aD D s t (aF _) N) λa2 ⟨_,⟨a3,rfl,G⟩,J⟩=>V (lq Z (mu h.has J bD aD)) (VE (lY h bG λU a1 h=>?_)))
  obtain ⟨x,z,rfl⟩:=G.form
  let a5:=C1 c.Op c.K c.lh.lu c.lh.Word x c.Kids.length z
  refine VO (FA a5.toArray h aD λY h=>ln ?_)
  have h:=h.drew
  have d:=h.has.ll (Kb Sn)
  refine mF d lV (X 0 Z d (lz B) (X 1 Z d (ly Dz Z) (X 2 Z d (ly zP Z) (XH 3 Z d (λ_ q=>lq Z (lA q Mh Z cA)) (X 4 Z d (th bX Z) (X 5 Z d (ly Dz Z) (X 6 Z d (ly Bo Z) (XH 7 Z d (λ_ q=>lq Z (lA q Mh Z cA)) (X 8 Z d (th bX Z) (X 9 Z d (mL Z Z Z) (X 10 Z d (U0 (k:=.i64) (a:=wi0 .i64 a0) (b:=16) (v:=vI (wi0 .i64 (Int.tdiv (wi0 .i64 a0) 16))) Z Z dc Z) (X 11 Z d (mL Z Z Z) (X 12 Z d (ly xQ Z) (XH 13 Z d (λ_ q=>lq Z (lA q Mh Z fR)) ?_))))))))))))))
  refine bS g λQ K g=>XE 14 Z (Eg h call21 (M (.slice x c.Kids.length z) c.Kids _ _ mv K) λZq h=>?_)
  have d:=h.has.ll (Kb Sn)
  refine ⟨d,X 15 Z d (mL Z Z Z) (X 16 Z d (mL Z Z Z) (X 17 Z d (nB Z) (mG kr (mx (lE ?_)))))⟩
  have h:=h.ll (Db St)
  exact ⟨s,O,wi0 .i64 (u+(wi0 .i64 ((wi0 .i64 (1+(wi0 .i64 (Int.tdiv (wi0 .i64 a0) 16))))+Q))),_,h.ll,Z,D,g⟩
 rintro E W ⟨⟨s,O⟩,u,y,h,B,D,g⟩
 exact lE (sg (Wh B (Wa (lt (rQ g h)))))
theorem DN:∀(n:Nat) (a:Value) (c:List Formula) (r:Int) (w:World) (g:Sl lx 5 (hp w) a c) (_:sy n c=some r),
  mo false pg0 21 [a] w (vI r)
 | 0=>by intros; rename_i h; simp only [sy] at h; cases h
 | n+1=>Lc (sy n) (DN n)
set_option maxHeartbeats 4000000 in
theorem Qv (x:Sl lU 15 (hp qa) q0 qJ.lK) (D:Sl mH 8 (hp qa) q1 qJ.mi) (hm:zD qJ=some qb) :
  mo false pg0 52 [vA [vS qJ.Name,q0,q1]] qa (vI qb):=by
 refine cG 61 func52 Z (λd=>sg ?_)
 obtain ⟨A1,c2,rfl⟩:=x.form
 obtain ⟨A3,c4,rfl⟩:=D.form
 let g6:=IV qJ.Name A1 qJ.lK.length c2 A3 qJ.mi.length c4
 refine VE (mA d Z (λW6 b5 d=>Wa (lr (Wf RB (VB d Mh Z Z cA (V (th bX Z) (Wa (lS ?_))))))))
 refine Wf Dm (VB d Mh Z Z jk (V (mP dL Z x) (Wm (ln (nM 14 13 (λi js E W=>∃H b1,ST false nf qa W (hp qa) ((b5,Ol g6 25)::b1)∧E 1=vP b5∧E 3=vI H∧E 12= .slice A1 qJ.lK.length c2∧xm qJ js H=some qb) x.len ⟨(qJ.Name.size:Int),_,d.ll,Z,Z,Z,hm⟩ ?_ ?_)))))
 ·rintro d2 a h3 E W e4 ⟨⟨v,O⟩,H,b1,d,U,M,Y,I⟩
  refine sg (VQ (nI (i:=(d2:Int)) (x0:=a) lU.out dL dO Y v x (aF _) e4) λi6 ⟨_,⟨j0,j3,rfl,Q,T⟩,d8⟩=>V (lq Z (mu d.has d8 jl dO)) (VE (lY d fl λh4 e8 d=>?_)))
  obtain ⟨k,t,rfl⟩:=Q.form
  let g5:Value:= .slice k a.Signed.Tag.length t
  let b8:=C3 a.Signed.lg.Kind a.Signed.lg.Head.lu a.Signed.lg.Head.Word a.Signed.lg.nj a.Signed.lg.B.lu a.Signed.lg.B.Word a.Signed.lg.C.lu a.Signed.lg.C.Word a.Signed.lg.mV k a.Signed.Tag.length t
  obtain ⟨g,j,rfl⟩:=T.form
  let d6:Value:= .slice g a.lB.Kids.length j
  let J:=C1 a.lB.Op a.lB.K a.lB.lh.lu a.lB.lh.Word g a.lB.Kids.length j
  let a0:=C5 a.Signed.lg.Kind a.Signed.lg.Head.lu a.Signed.lg.Head.Word a.Signed.lg.nj a.Signed.lg.B.lu a.Signed.lg.B.Word a.Signed.lg.C.lu a.Signed.lg.C.Word a.Signed.lg.mV k a.Signed.Tag.length t a.lB.Op a.lB.K a.lB.lh.lu a.lB.lh.Word g a.lB.Kids.length j
  refine VO (FA a0.toArray d dO λh5 d=>ln ?_)
  have d:=d.drew
  have h:=d.has.ll (Kb Sn)
  refine mF h lV (X 0 Z h (lz M) (X 1 Z h (ly AF Z) (XH 2 Z h (λ_ s=>lq Z (lC s Mh b8 Z eE bW)) (X 5 Z h (ly QY Z) (XH 6 Z h (λ_ s=>lq Z (lC s Mh J Z bD aD)) (PJ I (λb4 E W=>∃P b2 b9,ST false nf qa W (hp qa) ((e8,Ol a0 75)::((b5,Ol g6 25)::(b2++b9)))∧E 1=vP b5∧E 3=vI H∧E 12= .slice A1 qJ.lK.length c2∧E 13=vI (qJ.lK.length:Int)∧E 14=vI (d2:Int)∧E 18=vI H∧E 22=vI b4.1∧E 25=P∧mX 36 lx 5 (hp qa) P b4.2 b2) (bm 13 255) 5 ?_ λb4 y Zq=>?_))))))
  ·rintro ⟨f9,f7⟩ E W ⟨P,b2,b9,d,f0,i5,f1,f2,f3,f4,f5,f6,e3⟩ a6
   refine bS a6 λf8 d9 a6=>XE 8 Z (Eg d call21 ((DN mZ) P f7 _ _ (e3.sl mQ d.ns λb o q=>d.at_ (Mt (Mt (Ml q)))) d9) (λh6 d=>?_) (ha:=la1 f6))
   have h:=d.has.ll (Kb Sn)
   refine ⟨h,X 9 Z h (mL Z Z Z) (X 10 Z h (mL f5 Z Z) (X 11 Z h (mL f4 Z Z) (X 12 Z h (nB Z) (mG kr (mx (lE ?_))))))⟩
   have d:=d.ll (Db (Kb (Dr St)))
   exact ⟨f3,f2,wi0 .i64 (H+(wi0 .i64 (f9+(wi0 .i64 (20*f8))))),_,d.ll,f0,Z,f1,a6⟩
  refine IL 3 7 Z Z kr (.inl Z) (.inl Z) Z Z dc dc ?_ ?_
  ·refine mn (cs:=b8.toArray) d (nw Z) (nU cF bW cQ) (λh7 b3 d=>?_)
   let d5:Value:= .slice (some ⟨b3,0,none⟩) 1 1
   have h:=d.has.ll (Db (Kb Sn))
   refine ⟨h,IL 4 7 Z Z kr (.inl Z) (.inl Z) Z Z dc dc ?_ ?_⟩
   ·refine bS y λi7 e0 y=>OM (args:=[vN,d5]) d Z call22 (by exact px Z Z) (mo.mN (DC (Sl.nil _ _ _) ((mX.lit ra (l:=[a.Signed]) (.cons (ys:=C3 a.Signed.lg.Kind a.Signed.lg.Head.lu a.Signed.lg.Head.Word a.Signed.lg.nj a.Signed.lg.B.lu a.Signed.lg.B.Word a.Signed.lg.C.lu a.Signed.lg.C.Word a.Signed.lg.mV k a.Signed.Tag.length t) (mR.mk ⟨g5,Z,Q⟩) .nil) Z nb Z).sl ra d.ns λb o q=>(by rw [aV] at q; cases q; exact d.at_ Mh)) e0)) (λh8 d=>?_)
    have h:=d.has.ll (Db (Kb Sn))
    refine ⟨h,XE 7 Z (mn (cs:=J.toArray) d (nw Z) (nU aJ aD bG) λh9 c0 d=>?_)⟩
    have h:=d.has.ll (Db (Db (Kb Sn)))
    refine ⟨h,?_⟩
    cases sj y
    have d:=d.JA
    refine ov kr (Zq _ _ ⟨.slice (some ⟨c0,0,none⟩) 1 1,[(c0,Ol J 36)],_,d.ll (Sb (Pr (Pb Pz)) (Sb (Pr (Pb Pz)) (Kr (Db St)))),U,M,Y,O,v,Z,Z,Z,mX.lit mQ (l:=[a.lB]) (.cons (ys:=C1 a.lB.Op a.lB.K a.lB.lh.lu a.lB.lh.Word g a.lB.Kids.length j) (lx.mk ⟨d6,Z,T⟩) .nil) Z nb Z⟩)
   ·refine mn (cs:=J.toArray) d (nw Z) (nU aJ aD bG) (λi0 c1 d=>?_)
    have h:=d.has.ll (Db (Db (Kb Sn)))
    refine ⟨h,bS y λi8 e1 y=>XE 4 Z (Eg d call22 (mo.mN (DC (Sl.nil _ _ _) ((mX.lit ra (l:=[a.Signed]) (.cons (ys:=C3 a.Signed.lg.Kind a.Signed.lg.Head.lu a.Signed.lg.Head.Word a.Signed.lg.nj a.Signed.lg.B.lu a.Signed.lg.B.Word a.Signed.lg.C.lu a.Signed.lg.C.Word a.Signed.lg.mV k a.Signed.Tag.length t) (mR.mk ⟨g5,Z,Q⟩) .nil) Z nb Z).sl ra d.ns λb o q=>(by rw [aV] at q; cases q; exact d.at_ (Mt Mh))) e1)) λi1 d=>?_)⟩
    have h:=d.has.ll (Db (Db (Kb Sn)))
    refine ⟨h,?_⟩
    cases sj y
    have d:=d.JA
    refine ov kr (Zq _ _ ⟨.slice (some ⟨c1,0,none⟩) 1 1,[(c1,Ol J 36)],_,d.ll (Sb (Pr (Pb Pz)) (Sb (Pr (Pb Pz)) (Kr (Db St)))),U,M,Y,O,v,Z,Z,Z,mX.lit mQ (l:=[a.lB]) (.cons (ys:=C1 a.lB.Op a.lB.K a.lB.lh.lu a.lB.lh.Word g a.lB.Kids.length j) (lx.mk ⟨d6,Z,T⟩) .nil) Z nb Z⟩)
  ·refine mn (cs:=J.toArray) d (nw Z) (nU aJ aD bG) (λi2 c3 d=>?_)
   have h:=d.has.ll (Db (Kb Sn))
   refine ⟨h,XE 3 Z (mn (cs:=b8.toArray) d (nw Z) (nU cF bW cQ) λi3 e9 d=>?_)⟩
   have h:=d.has.ll (Db (Db (Kb Sn)))
   refine ⟨h,bS y λi9 e2 y=>XE 4 Z (Eg d call22 (mo.mN (DC (Sl.nil _ _ _) ((mX.lit ra (l:=[a.Signed]) (.cons (ys:=C3 a.Signed.lg.Kind a.Signed.lg.Head.lu a.Signed.lg.Head.Word a.Signed.lg.nj a.Signed.lg.B.lu a.Signed.lg.B.Word a.Signed.lg.C.lu a.Signed.lg.C.Word a.Signed.lg.mV k a.Signed.Tag.length t) (mR.mk ⟨g5,Z,Q⟩) .nil) Z nb Z).sl ra d.ns λb o q=>(by rw [aV] at q; cases q; exact d.at_ Mh)) e2)) λi4 d=>?_)⟩
   have h:=d.has.ll (Db (Db (Kb Sn)))
   refine ⟨h,?_⟩
   cases sj y
   have d:=d.perm (Nb (Pb Pz) Nz)
   have d:=d.JA
   refine ov kr (Zq _ _ ⟨.slice (some ⟨c3,0,none⟩) 1 1,[(c3,Ol J 36)],_,d.ll (Sb (Pr (Pb Pz)) (Sb (Pr (Pb Pz)) (Kr (Db St)))),U,M,Y,O,v,Z,Z,Z,mX.lit mQ (l:=[a.lB]) (.cons (ys:=C1 a.lB.Op a.lB.K a.lB.lh.lu a.lB.lh.Word g a.lB.Kids.length j) (lx.mk ⟨d6,Z,T⟩) .nil) Z nb Z⟩)
 rintro E W ⟨⟨v,O⟩,H,b1,d,U,M,Y,I⟩
 refine lE (lH (sg (V (ly IN U) (VB d Mh Z Z isAgg23 (V (mP cW Z D) (Wm (ln ?_)))))))
 have d:=d.ll (Db St)
 refine CJ I (λa7 E W=>∃b6,ST false nf qa W (hp qa) b6∧E 3=vI a7) (λa7 c7=>?_) ?_
 ·refine nM 34 33 (λi js E W=>∃K a2,ST false nf qa W (hp qa) a2∧E 3=vI K∧E 32= .slice A3 qJ.mi.length c4∧xr js K=some a7) D.len ⟨H,_,d.ll,M,Z,c7⟩ ?_ ?_
  ·rintro e5 c g0 E W d1 ⟨⟨v,O⟩,K,a2,d,a4,a5,u⟩
   refine sg (VQ (nI (i:=(e5:Int)) (x0:=c) mH.out cW dB a5 v D (aF _) d1) λg9 ⟨_,⟨h0,h1,rfl,a9,b0⟩,c8⟩=>V (lq Z (mu d.has c8 iP dB)) (VE (lY d gh λg1 g8 d=>?_)))
   obtain ⟨z,B,rfl⟩:=a9.form
   let d3:=C1 c.lB.Op c.lB.K c.lB.lh.lu c.lB.lh.Word z c.lB.Kids.length B
   obtain ⟨a1,a3,rfl⟩:=b0.form
   let c5:=C8 c.lh.lu c.lh.Word c.lB.Op c.lB.K c.lB.lh.lu c.lB.lh.Word z c.lB.Kids.length B a1 c.nP.length a3
   refine VO (FA c5.toArray d dB λg2 d=>ln ?_)
   have d:=d.drew
   have h:=d.has.ll (Kb Sn)
   refine mF h lV (X 0 Z h (lz a4) (X 1 Z h (ly IK Z) (X 2 Z h (ly zP Z) (XH 3 Z h (λ_ s=>lq Z (lA s Mh Z cA)) (X 4 Z h (th bX Z) (X 5 Z h (ly IK Z) (X 6 Z h (ly Bo Z) (XH 7 Z h (λ_ s=>lq Z (lA s Mh Z cA)) (X 8 Z h (th bX Z) (X 9 Z h (mL Z Z Z) (X 10 Z h (ly IU Z) (XH 11 Z h (λ_ s=>lq Z (lC s Mh d3 Z bD aD)) (X 16 Z h (ly GN Z) (XH 17 Z h (λ_ s=>lq Z (lA s Mh Z dQ)) ?_))))))))))))))
   refine XE 12 Z (mn (cs:=d3.toArray) d (nw Z) (nU aJ aD bG) λg3 d4 d=>?_)
   have h:=d.has.ll (Db (Kb Sn))
   refine ⟨h,bS u λe6 c9 u=>XE 13 Z (Eg d call21 ((DN mZ) (.slice (some ⟨d4,0,none⟩) 1 1) ([c.lB]) _ _ ((mX.lit mQ (l:=[c.lB]) (.cons (ys:=C1 c.lB.Op c.lB.K c.lB.lh.lu c.lB.lh.Word z c.lB.Kids.length B) (lx.mk ⟨.slice z c.lB.Kids.length B,Z,a9⟩) .nil) Z nb Z).sl mQ d.ns λb o q=>(by rw [aV] at q; cases q; exact d.at_ Mh)) c9) λg4 d=>?_)⟩
   have h:=d.has.ll (Db (Kb Sn))
   refine ⟨h,X 14 Z h (mL Z Z Z) (X 15 Z h (mL Z Z Z) (bS u λe7 d0 u=>XE 18 Z (Eg d call53 (mo.mN (DH mv d0)) λg7 d=>?_)))⟩
   have h:=d.has.ll (Db (Kb Sn))
   refine ⟨h,X 19 Z h (mL Z Z Z) (X 20 Z h (mL Z Z Z) (X 21 Z h (nB Z) (mG kr (mx (lE ?_)))))⟩
   have d:=d.ll (Db (Db St))
   exact ⟨v,O,wi0 .i64 (K+(wi0 .i64 ((wi0 .i64 ((wi0 .i64 ((c.lh.lu.size:Int)+(c.lh.Word.size:Int)))+(wi0 .i64 (20*e6))))+e7))),_,d.ll,Z,a5,u⟩
  rintro E W ⟨⟨v,O⟩,K,a2,d,a4,a5,u⟩
  refine lE ?_
  cases sj u
  exact ⟨_,d.ll,a4⟩
 rintro h2 E W ⟨b6,d,d7⟩ c6
 exact sg (Wh d7 (Wa (lt (rQ c6 d))))
theorem J4 (c:Sl lU 15 (hp qa) q0 qx.lm.lK) (j:Sl mH 8 (hp qa) q1 qx.lm.mi) (t:Sl (Pl lj) 9 (hp qa) q2 qx.lD) (B:Sl (Pl lj) 9 (hp qa) q3 qx.Shown) (x:Sl (Pl lp) 2 (hp qa) q4 qx.lL) (z:Sl (Pl lp) 2 (hp qa) q5 qx.me) (hm:zz qx=some qb) :
  mo false pg0 20 [vA [vS qx.lm.Name,q0,q1,vS qx.mI,vI qx.Room,q2,q3,q4,q5]] qa (vI qb):=by
 refine cG 45 func20 Z (λa=>sg ?_)
 obtain ⟨A1,c2,rfl⟩:=c.form
 obtain ⟨A3,c4,rfl⟩:=j.form
 obtain ⟨A5,c6,rfl⟩:=t.form
 obtain ⟨A7,c8,rfl⟩:=B.form
 obtain ⟨A9,s,rfl⟩:=x.form
 obtain ⟨Y,a2,rfl⟩:=z.form
 refine VE (mA a Z (λd6 e3 a=>Wa (ln (lH ?_))))
 have a:=a.drew
 have d:=a.has.ll (Kb Sn)
 refine mF d lV (X 0 Z d (ly Bl Z) (XH 1 Z d (λ_ g=>lq Z (lC g Mh (IV qx.lm.Name A1 qx.lm.lK.length c2 A3 qx.lm.mi.length c4) Z fa eo)) (X 3 Z d (ly IF Z) (XH 4 Z d (λ_ g=>lq Z (lA g Mh Z cA)) (X 5 Z d (th bX Z) (X 7 Z d (ly Bw Z) (XH 8 Z d (λ_ g=>lq Z (lA g Mh Z dQ)) (X 11 Z d (ly EF Z) (XH 12 Z d (λ_ g=>lq Z (lA g Mh Z dQ)) (bS hm λc3 O hm=>XE 2 Z (Eg a call52 (Qv mv mv O) λd7 a=>?_)))))))))))
 have d:=a.has.ll (Kb Sn)
 refine ⟨d,X 6 Z d (mL Z Z Z) (bS hm λc5 P hm=>XE 9 Z (Eg a call53 (mo.mN (DH mv P)) λd8 a=>?_))⟩
 have d:=a.has.ll (Kb Sn)
 refine ⟨d,X 10 Z d (mL Z Z Z) (bS hm λc7 b2 hm=>XE 13 Z (Eg a call53 (mo.mN (DH mv b2)) λd9 a=>?_))⟩
 have d:=a.has.ll (Kb Sn)
 refine ⟨d,X 14 Z d (mL Z Z Z) (X 15 Z d (nB Z) (mG kr (lE (lH (lH ?_)))))⟩
 have a:=a.drew
 have d:=a.has.ll (Kb Sn)
 refine mF d lV (X 1 Z d (ly FK Z) (XH 2 Z d (λ_ g=>lq Z (lA g Mh Z eU)) (X 4 Z d (ly F2 Z) (XH 5 Z d (λ_ g=>lq Z (lA g Mh Z eU)) (X 8 Z d (lz Z) (XE 0 Z (mn (cs:=#[]) a pP (Eb [] aQ aM dE dc Z rv Z Z) λe0 k a=>?_)))))))
 have d:=a.has.ll (Db (Kb Sn))
 refine ⟨d,bS hm λe4 y hm=>XE 3 Z (oU (enc:=lp) (v:= .slice (some ⟨k,0,none⟩) 0 0) (vs:= .slice A9 qx.lL.length s) (R:=[(k,Ob #[] 33)]) a nC dc pt aQ oI.1 oI.2.1 Z oI.2.2.1 oI.2.2.2 Z Z (mg.lit (l:=[]) (enc:=lp) Z dc Z Z) mv y λe1 c9 b7 a u=>?_)⟩
 have d:=a.has.ll (Dr (Kb Sn))
 refine ⟨d,bS hm λe5 a9 hm=>XE 6 Z (oU (enc:=lp) (v:=c9) (vs:= .slice Y qx.me.length a2) (R:=b7) a nC dc pt aQ oI.1 oI.2.1 Z oI.2.2.1 oI.2.2.2 Z Z u mv a9 λe2 d0 b9 a K=>?_)⟩
 have d:=a.has.ll (Dr (Kb Sn))
 refine ⟨d,X 7 Z d (sf aQ Z K) (mG kr (lE ?_))⟩
 have a:=a.ll (Kr (Db St))
 refine nM 29 28 (λi js E W=>∃J M,ST false nf qa W (hp qa) (b9++M)∧E 3=vI J∧E 27=d0∧xt js J=some qb) K.len ⟨wi0 .i64 ((wi0 .i64 ((wi0 .i64 (c3+(qx.mI.size:Int)))+c5))+c7),_,a.ll,Z,Z,hm⟩ ?_ ?_
 ·rintro b3 I d1 E W T ⟨⟨h,q⟩,J,M,a,N,Q,D⟩
  refine sg (VQ (pC (i:=(b3:Int)) (x0:=I) aQ aM Q h K (aF _) T) λd5 U=>V (lq Z (uZ a.has (λp hq=>Ml hq) K nC U T bJ aM)) (VE (lY a dE λd2 d4 a=>VO (FA (h1:=pt I) ((lp I).toArray) a aM λd3 a=>ln (lI (Wh N (Wf zP (VB a Mh Z Z cA (V (th bX Z) (Wi Z (Wf Bo ?_)))))))))))
  refine VB a Mh Z Z cA (V (th bX Z) (Wi Z (Wi Z (Wa (mh (mx (lE ?_)))))))
  have a:=a.ll (Db St)
  exact ⟨h,q,wi0 .i64 (J+(wi0 .i64 ((wi0 .i64 (5+(I.lu.size:Int)))+(I.Word.size:Int)))),_,a.ll,Z,Q,D⟩
 rintro E W ⟨⟨h,q⟩,J,M,a,N,Q,D⟩
 refine lE ?_
 have a:=a.ll (Dr St)
 exact sg (Wh N (Wa (lt (rQ D a))))
theorem QE {a:HU} (c:Sl lU 15 (hp qa) q0 a.S.lm.lK) (g:Sl mH 8 (hp qa) q1 a.S.lm.mi) (i:Sl (Pl lj) 9 (hp qa) q2 a.S.lD) (z:Sl (Pl lj) 9 (hp qa) q3 a.S.Shown) (k:Sl (Pl lp) 2 (hp qa) q4 a.S.lL) (y:Sl (Pl lp) 2 (hp qa) q5 a.S.me) (D:Sl lx 5 (hp qa) q6 a.F.Kids) (U:Sl za 2 (hp qa) q7 a.G) (hm:DL a=some qb) :
  mo false pg0 6 [vA [vS a.S.lm.Name,q0,q1,vS a.S.mI,vI a.S.Room,q2,q3,q4,q5,vB a.T.lu,vI a.T.ny,vI a.T.Room,vI a.T.re,vI a.T.wc,vI a.T.vp,vI a.F.Op,vI a.F.K,vS a.F.lh.lu,vS a.F.lh.Word,q6,q7]] qa (vI qb):=by
 refine cG 16 func6 Z (λd=>sg ?_)
 obtain ⟨A1,c2,rfl⟩:=c.form
 let a5:Value:= .slice A1 a.S.lm.lK.length c2
 obtain ⟨A3,P,rfl⟩:=g.form
 let a6:Value:= .slice A3 a.S.lm.mi.length P
 obtain ⟨A5,c6,rfl⟩:=i.form
 let a7:Value:= .slice A5 a.S.lD.length c6
 obtain ⟨A7,c8,rfl⟩:=z.form
 let a8:Value:= .slice A7 a.S.Shown.length c8
 obtain ⟨A9,Q,rfl⟩:=k.form
 let a9:Value:= .slice A9 a.S.lL.length Q
 obtain ⟨N,T,rfl⟩:=y.form
 let b0:Value:= .slice N a.S.me.length T
 let a4:=C2 a.S.lm.Name A1 a.S.lm.lK.length c2 A3 a.S.lm.mi.length P a.S.mI a.S.Room A5 a.S.lD.length c6 A7 a.S.Shown.length c8 A9 a.S.lL.length Q N a.S.me.length T
 obtain ⟨u,x,rfl⟩:=D.form
 let q:Value:= .slice u a.F.Kids.length x
 let a0:=C1 a.F.Op a.F.K a.F.lh.lu a.F.lh.Word u a.F.Kids.length x
 obtain ⟨a1,a2,rfl⟩:=U.form
 let v:Value:= .slice a1 a.G.length a2
 refine VE (mA d Z (λd9 c7 d=>Wa (ln (lH ?_))))
 have d:=d.drew
 have h:=d.has.ll (Kb Sn)
 refine mF h lV (X 0 Z h (ly KN Z) (XH 1 Z h (λ_ j=>lq Z (lC j Mh a4 Z eK dN)) (X 3 Z h (ly WO Z) (XH 4 Z h (λ_ j=>lq Z (lC j Mh a0 Z bD aD)) (X 9 Z h (ly WG Z) (XH 10 Z h (λ_ j=>lq Z (lA j Mh Z isAgg37)) (PJ hm (λt E W=>∃a3 s O,ST false nf qa W (hp qa) ((c7,Ob #[vS a.S.lm.Name,a5,a6,vS a.S.mI,vI a.S.Room,a7,a8,a9,b0,vB a.T.lu,vI a.T.ny,vI a.T.Room,vI a.T.re,vI a.T.wc,vI a.T.vp,vI a.F.Op,vI a.F.K,vS a.F.lh.lu,vS a.F.lh.Word,q,v] 39)::(s++O))∧E 2=vI 0∧E 5=vI t.1∧E 8=a3∧E 13=v∧mX 36 lx 5 (hp qa) a3 t.2 s) (bm 14 1599) 6 ?_ λt K Y=>?_)))))))
 ·rintro ⟨e5,d2⟩ E W ⟨a3,s,O,d,e2,c9,d0,d1,c5⟩ M
  refine bS M λe3 c1 M=>XE 6 Z (Eg d call21 ((DN mZ) a3 d2 _ _ (c5.sl mQ d.ns λb o hq=>d.at_ (Mt (Ml hq))) c1) (λe0 d=>?_) (ha:=la1 d0))
  have h:=d.has.ll (Kb Sn)
  refine ⟨h,X 7 Z h (mL Z Z Z) (X 8 Z h (mL c9 Z Z) (bS M λe4 c3 M=>XE 11 Z (Eg d call22 (mo.mN (DC mv (Sl.nil _ _ _) c3)) (λe1 d=>?_) (ha:=la2 d1 Z))))⟩
  have h:=d.has.ll (Kb Sn)
  refine ⟨h,X 12 Z h (mL Z Z Z) (X 13 Z h (nB Z) (mG kr (lE ?_)))⟩
  exact lO (rQ M d)
 refine IL 2 5 Z Z kr (.inl Z) (.inl Z) Z Z dc dc ?_ ?_
 ·refine bS K λd7 b7 K=>OM (args:=[vA a4]) d Z call20 (by exact pp Z) (J4 mv mv mv mv mv mv b7) (λd3 d=>?_)
  have h:=d.has.ll (Kb Sn)
  refine ⟨h,XE 5 Z (mn (cs:=a0.toArray) d (nw Z) (nU aJ aD bG) λd4 I d=>?_)⟩
  have h:=d.has.ll (Db (Kb Sn))
  refine ⟨h,?_⟩
  cases sj K
  have d:=d.JA
  refine ov kr (Y _ _ ⟨.slice (some ⟨I,0,none⟩) 1 1,[(I,Ol a0 36)],_,d.ll (Sb (Pr Pz) St),Z,Z,Z,Z,mX.lit mQ (l:=[a.F]) (.cons (ys:=C1 a.F.Op a.F.K a.F.lh.lu a.F.lh.Word u a.F.Kids.length x) (lx.mk ⟨q,Z,D⟩) .nil) Z nb Z⟩)
 ·refine mn (cs:=a0.toArray) d (nw Z) (nU aJ aD bG) (λd5 J d=>?_)
  have h:=d.has.ll (Db (Kb Sn))
  refine ⟨h,bS K λd8 b9 K=>XE 2 Z (Eg d call20 (J4 mv mv mv mv mv mv b9) λd6 d=>?_)⟩
  have h:=d.has.ll (Db (Kb Sn))
  refine ⟨h,?_⟩
  cases sj K
  have d:=d.JA
  refine ov kr (Y _ _ ⟨.slice (some ⟨J,0,none⟩) 1 1,[(J,Ol a0 36)],_,d.ll (Sb (Pr Pz) St),Z,Z,Z,Z,mX.lit mQ (l:=[a.F]) (.cons (ys:=C1 a.F.Op a.F.K a.F.lh.lu a.F.lh.Word u a.F.Kids.length x) (lx.mk ⟨q,Z,D⟩) .nil) Z nb Z⟩)
theorem Gu {i:oe→Option Bool} (j:Sl mH 8 (hp qa) q0 qG) (k:AQ pg0 q1 (hp qa) (Fh mH) (λ(qf:Bool)=>vB qf) i) (hm:wi qG i=some qf) :
  mo false pg0 139 [q0,q1] qa (vB qf):=by
 refine cG 9 func139 Z (λa=>sg (Wa (lr (Wm (Wm (bS hm λx t hm=>VE (Eg a call180 (Dn mv mv t) λu a=>Wi Z (Wa (mh ?_)))))))))
 exact lE (lO (rQ hm a))
theorem NG {c:oe} (j:Sl lx 5 (hp qa) q0 c.lB.Kids) (g:Sl (Pl lj) 9 (hp qa) q1 c.nP) (hm:Eo c=some qf) :
  mo true pg0 140 [vA [vS c.lh.lu,vS c.lh.Word,vI c.lB.Op,vI c.lB.K,vS c.lB.lh.lu,vS c.lB.lh.Word,q0,q1]] qa (vB qf):=by
 refine cG 7 func140 Z (λa=>sg ?_)
 obtain ⟨k,u,rfl⟩:=j.form
 obtain ⟨t,x,rfl⟩:=g.form
 refine VE (mA a Z (λy z a=>Wa (lr (Wf GN (VB a Mh Z Z dQ (V (mP aN Z g) (Wi Z (Wa (ln ?_)))))))))
 exact lO (rQ hm a)
theorem RA (j:Sl lU 15 (hp qa) q0 qJ.lK) (c:Sl mH 8 (hp qa) q1 qJ.mi) (hm:EN qJ=some qf) :
  mo false pg0 98 [vA [vS qJ.Name,q0,q1]] qa (vB qf):=by
 refine cG 18 func98 Z (λd=>sg ?_)
 obtain ⟨T,h,rfl⟩:=j.form
 obtain ⟨J,K,rfl⟩:=c.form
 refine VE (mA d Z (λW6 Y d=>Wa (lr (Wf Dm (VB d Mh Z Z jk (V (mP dL Z j) (Wi Z (Wm (LJ hm (λI E W=>∃U,ST false nf qa W (hp qa) ((Y,Ol (IV qJ.Name T qJ.lK.length h J qJ.mi.length K) 25)::U)∧E 1=vP Y∧E 2=vB false∧E 12=vB I) 5 ?_ λI y B=>?_)))))))))
 ·rintro x8 E W ⟨U,d,k,G,a2⟩ M
  refine Wh a2 (LJ M (λH E W=>∃D,ST false nf qa W (hp qa) D∧E 2=vB false∧E 17=vB H) 4 ?_ λH i z=>?_)
  ·rintro O E W ⟨D,d,v,a3⟩ N
   exact Wg a3 (lt (rQ N d))
  refine bC i (λa i=>?_) (λa i=>?_)
  ·refine un a (un a (un a (V (lQ (cB a) Z) ?_)))
   cases sj i
   exact z _ _ ⟨_,d.ll (Db St),G,Z⟩
  refine ug a (ly IN k) (ug a (lq Z (lA d.has Mh Z isAgg23)) (bS i λa9 Q i=>tw a (Eg d call139 (Gu mv ⟨140,#[],#[],Z,call140,λW x vs qf P q hm=>by obtain ⟨_,rfl,a4⟩:=q; obtain ⟨u0,u1,rfl,s,t⟩:=a4.out; exact (NG s t hm).mN⟩ Q) λu d=>V (lN (cB a) Z) ?_)))
  cases sj i
  exact z _ _ ⟨_,d.ll (Db St),G,Z⟩
 refine bC y (λg y=>?_) (λg y=>?_)
 ·refine un g (un g (un g (un g (V (lQ (cB g) Z) ?_))))
  cases sj y
  exact B _ _ ⟨_,d.ll,Z,Z,Z⟩
 refine ug g (ly IN Z) (ug g (lq Z (lA d.has Mh Z isAgg23)) (ug g (mP cW Z c) (ug g (mL Z Z Z) (V (lN (cB g) Z) ?_))))
 cases sj y
 exact B _ _ ⟨_,d.ll,Z,Z,Z⟩
theorem BE (c:Sl (Pl lj) 9 (hp qa) q0 qt) (y:Sl (Pl lj) 9 (hp qa) q1 qu) (hm:tV qt qu=some qf) :
  mo true pg0 102 [q0,q1] qa (vB qf):=by
 refine cG 26 func102 Z (λh=>sg (Wa (lS (Wm (V (mP aN Z c) (Wm (V (mP aN Z y) (Wi Z (mh ?_)))))))))
 refine lE (CI hm Z (λN hm=>?_) λN hm=>?_)
 ·refine sg (Wa (lt (mj ?_)))
  cases sj hm
  exact rP h
 refine kS (Wm (V (mP aN Z c) (Wm (ln (nM 13 12 (λi u E W=>∃g,ST true nf qa W (hp qa) g∧E 0=q0∧E 1=q1∧vn qu u i=some qf) c.len ⟨_,h.ll,Z,Z,hm⟩ ?_ ?_)))))
 ·rintro H I Y E W K ⟨⟨q,t⟩,g,h,j,k,a⟩
  refine sg (Wh q (Wa (ln (lH ?_))))
  have h:=h.drew
  have d:=h.has.ll Sn
  refine mF d lV (X 0 Z d (lz j) (X 1 Z d (lz Z) (XQ 2 Z d (rp (enc:=lj) (i:=(H:Int)) (x0:=I) aN aI Z Z c (aF _) K) λQ D=>XH 3 Z d (λ_ s=>lq Z (mu s D bF aI)) (X 4 Z d (lz k) (X 5 Z d (lz Z) (bS a λz x a=>XQ 6 Z d (rp (enc:=lj) (i:=(H:Int)) (x0:=z) aN aI Z Z y (mK x) (mE x)) λT G=>XH 7 Z d (λ_ s=>lq Z (mu s G bF aI)) (X 8 Z d (QP Z Z (rY fi) (Lq (Ao _ I z))) (mG kr (lE (CI a Z (λB a=>?_) λB a=>?_))))))))))
  ·refine sg (Wa (lt (nz (mj (nz (mj ?_))))))
   cases sj a
   exact rP h
  exact mU (mx (lE ⟨q,t,_,h.ll,j,k,a⟩))
 rintro E W ⟨⟨q,t⟩,g,h,j,k,a⟩
 exact lE (sg (Wa (lt (rQ a h))))
theorem IZ (c:Sl (Pl lj) 9 (hp qa) q0 qt) (hm:AG qt=some qf) :
  mo false pg0 141 [q0] qa (vB qf):=by
 refine cG 7 func141 Z (λa=>sg (Wa (lr (Wm (bS hm λu t hm=>VE (oG a kp (wB mv t) λD x G B a i d k=>Wm (bS hm λz j hm=>VE (Eg a call102 (mo.mN (BE (k.sl mY λb o g=>a.at_ (Ml g)) mv j)) λy a=>Wa ?_))))))))
 refine ln ?_
 exact lO (rQ hm a)
theorem Qj (g:Sl lU 15 (hp qa) q0 qJ.lK) (M:Sl mH 8 (hp qa) q1 qJ.mi) (hm:Gc qJ=some qf) :
  mo false pg0 99 [vA [vS qJ.Name,q0,q1]] qa (vB qf):=by
 refine cG 33 func99 Z (λd=>sg ?_)
 obtain ⟨A1,c2,rfl⟩:=g.form
 obtain ⟨A3,c4,rfl⟩:=M.form
 refine VE (mA d Z (λW6 b5 d=>Wa (lr (Wa (lS (Wf Dm (VB d Mh Z Z jk (V (mP dL Z g) ?_))))))))
 refine Wm (ln ?_)
 have d:=d.ll (Db St)
 refine nM 9 8 (λi js E W=>∃u G y T,ST false nf qa W (hp qa) (y++T)∧E 3=u∧E 7= .slice A1 qJ.lK.length c2∧mg 69 lj 9 u G y∧xi js G=some qf) g.len ⟨vN,[],[],_,d.ll,Z,Z,mg.nil _ _ _,hm⟩ ?_ ?_
 ·rintro a3 a c8 E W b1 ⟨⟨h,q⟩,u,G,y,T,d,I,J,K,j⟩
  refine sg (VQ (nI (i:=(a3:Int)) (x0:=a) lU.out dL dO J h g (aF _) b1) λd7 ⟨_,⟨e0,e1,rfl,Y,x⟩,P⟩=>V (lq Z (mu d.has P jl dO)) (VE (lY d fl λd0 a2 d=>?_)))
  obtain ⟨Q,U,rfl⟩:=Y.form
  obtain ⟨B,D,rfl⟩:=x.form
  let a0:=C5 a.Signed.lg.Kind a.Signed.lg.Head.lu a.Signed.lg.Head.Word a.Signed.lg.nj a.Signed.lg.B.lu a.Signed.lg.B.Word a.Signed.lg.C.lu a.Signed.lg.C.Word a.Signed.lg.mV Q a.Signed.Tag.length U a.lB.Op a.lB.K a.lB.lh.lu a.lB.lh.Word B a.lB.Kids.length D
  refine VO (FA a0.toArray d dO λd1 d=>lS (Wf AF (Wf B9 (VB d Mh Z Z dq (V (mP aZ Z Y) (Wi Z (Wm (LJ j (λa4 E W=>∃s,ST false nf qa W (hp qa) ((a2,Ol a0 75)::(y++s))∧E 3=u∧E 5=vP a2∧E 7= .slice A1 qJ.lK.length c2∧E 8=vI (qJ.lK.length:Int)∧E 9=vI (a3:Int)∧E 23=vB a4) 5 ?_ λa4 t N=>?_))))))))
  ·rintro e2 E W ⟨s,d,b7,b9,c0,c1,c3,c5⟩ k
   refine ln (CI k c5 (λz k=>?_) λz k=>?_)
   ·refine sg (Wa (ln ?_))
    have d:=d.ll (Db (Dr St))
    refine lO (mj (nz (mj (nz (mj ?_)))))
    cases sj k
    exact rP d
   refine kn (lI (Wh b7 (V (ly AF b9) (Wf sP (VA d Mh (lj a.Signed.lg) bF aI (VE (mn (cs:=(lj a.Signed.lg).toArray) d (nw Z) (nU aN aI cI) λd2 b4 d=>?_)))))))
   have d:=d.perm (Nr (Qb (Qb Qz)) Nz)
   refine bS k λc6 O k=>VE (oU (enc:=lj) (v:=u) (vs:= .slice (some ⟨b4,0,none⟩) 1 1) (R:=y) d mY dc pf aN nZ.1 nZ.2.1 Z nZ.2.2.1 nZ.2.2.2 Z Z K (Sl.lit (enc:=lj) (l:=[a.Signed.lg]) mY Z nb Z (d.at_ (Ma Mh))) O λd3 c7 b3 d a5=>Wa (mh (mx (lE ?_))))
   have d:=d.ll (Kr (Db (Db St)))
   exact ⟨c3,c1,c7,c6,b3,_,d.ll,Z,c0,a5,k⟩
  refine bC t (λc t=>?_) (λc t=>?_)
  ·refine un c (un c (un c (un c (V (lQ (cB c) Z) ?_))))
   cases sj t
   exact N _ _ ⟨_,d.ll,I,Z,J,q,h,Z⟩
  refine ug c (ly QY Z) (ug c (lq Z (lC d.has Mh (C1 a.lB.Op a.lB.K a.lB.lh.lu a.lB.lh.Word B a.lB.Kids.length D) Z bD aD)) (bS t λd8 a9 t=>tw c (Eg d call25 (wv mv a9) λd4 d=>ug c (nK Z) (V (lN (cB c) Z) ?_))))
  cases sj t
  exact N _ _ ⟨_,d.ll,I,Z,J,q,h,Z⟩
 rintro E W ⟨⟨h,q⟩,u,G,y,T,d,I,J,K,j⟩
 refine lE (sg (Wh I (bS j λd9 b0 j=>VE (Eg d call141 (IZ (K.sl mY λb o hq=>d.at_ (Ml hq)) b0) λd5 d=>Wa (ln ?_)))))
 exact lO (rQ j d)
theorem SD (O:Sl mH 8 (hp qa) q0 qG) (hm:GR qG=some qf) :
  mo false pg0 100 [q0] qa (vB qf):=by
 refine cG 45 func100 Z (λq=>sg (Wa (lS (Wm (V (mP cW Z O) (Wm (ln (nM 7 6 (λi js E W=>∃P,ST false nf qa W (hp qa) P∧E 0=q0∧E 5=q0∧yj qG js i=some qf) O.len ⟨_,q.ll,Z,Z,hm⟩ ?_ ?_))))))))
 ·rintro G a f7 E W d9 ⟨⟨v,eN⟩,P,q,a2,N,x⟩
  refine sg (Wh v (VQ (nI (i:=(G:Int)) (x0:=a) mH.out cW dB N v O (aF _) d9) λg4 ⟨_,⟨h3,h4,rfl,a9,b0⟩,d2⟩=>V (lq Z (mu q.has d2 iP dB)) (VE (lY q gh λf8 M q=>Wa ?_))))
  let g5:Value:=vI (qG.length:Int)
  let b8:Value:=vI (G:Int)
  obtain ⟨B,D,rfl⟩:=a9.form
  obtain ⟨H,I,rfl⟩:=b0.form
  let u:=C8 a.lh.lu a.lh.Word a.lB.Op a.lB.K a.lB.lh.lu a.lB.lh.Word B a.lB.Kids.length D H a.nP.length I
  refine VO (FA u.toArray q dB λf9 q=>ln (lH ?_))
  have q:=q.drew
  have d:=q.has.ll (Kb Sn)
  refine mF d lV (X 0 Z d (ly IK Z) (XH 1 Z d (λ_ s=>lq Z (lC s Mh (lp a.lh) Z bJ aM)) (bS x λg9 d5 x=>XE 2 Z (Eg q ke (mo.mN (wL a.lh _ _  d5)) λg0 q=>?_))))
  have d:=q.has.ll (Kb Sn)
  refine ⟨d,X 3 Z d (nK Z) (X 4 Z d (lz Z) (PJ x (λc7 E W=>∃b3,ST false nf qa W (hp qa) ((M,Ol u 174)::b3)∧E 0=q0∧E 3=b8∧E 4=vP M∧E 5=q0∧E 6=g5∧E 7=b8∧E 21=vB c7) (bm 32 1023) 22 ?_ λc7 z Zq=>?_))⟩
  ·rintro h7 E W ⟨b3,q,b7,b9,a3,c0,c1,c2,e0⟩ c9
   have d:=q.has.ll (Kb Sn)
   refine X 10 Z d (lz e0) (PJ c9 (λc6 E W=>∃b4,ST false nf qa W (hp qa) ((M,Ol u 174)::b4)∧E 0=q0∧E 3=b8∧E 4=vP M∧E 5=q0∧E 6=g5∧E 7=b8∧E 27=vB c6) (bm 32 65535) 16 ?_ λc6 y Y=>?_)
   ·rintro f4 E W ⟨b4,q,Q,c3,e1,a4,a5,a6,e2⟩ d0
    have d:=q.has.ll (Kb Sn)
    refine X 16 Z d (lz e2) (PJ d0 (λc4 E W=>∃b5,ST false nf qa W (hp qa) ((M,Ol u 174)::b5)∧E 0=q0∧E 5=q0∧E 6=g5∧E 7=b8∧E 43=vB c4) (bm 32 4294967295) 0 ?_ λc4 K T=>?_)
    ·rintro h8 E W ⟨b5,q,e3,e4,e5,e6,e7⟩ J
     refine mG kr (lE ?_)
     have q:=q.ll (Db St)
     refine CI J e7 (λc8 J=>?_) (λc8 J=>?_)
     ·refine sg (Wa (lt (nz (mj (nz (mj ?_))))))
      cases sj J
      exact rP q
     exact mU (mx (lE ⟨e6,e5,_,q.ll,e3,e4,J⟩))
    refine bC K (λg K=>?_) (λg K=>?_)
    ·refine Xn 17 Z Z (cB g) d (Xn 18 Z Z (cB g) d (Xn 19 Z Z (cB g) d (Xu 20 Z Z Z d (Xu 21 Z Z Z d (Xu 22 Z Z Z d (Xu 23 Z Z Z d (Xu 24 Z Z Z d (Xu 25 Z Z Z d (Xu 26 Z Z Z d (Xu 27 Z Z Z d (Xu 28 Z Z Z d (Xu 29 Z Z Z d (Xn 30 Z Z (cB g) d (X 31 Z d (lQ (cB g) Z) ?_))))))))))))))
     cases sj K
     refine ov kr (T _ _ ⟨_,q.ll,Q,a4,a5,a6,Z⟩)
    refine Xg 17 Z Z (cB g) d (lz c3) (Xg 18 Z Z (cB g) d (mL Z Z Z) (Xg 19 Z Z (cB g) d (lz Z) (PJ K (λc5 E W=>∃b6,ST false nf qa W (hp qa) ((M,Ol u 174)::b6)∧E 0=q0∧E 5=q0∧E 6=g5∧E 7=b8∧E 28=vB f4∧E 42=vB c5) (bm 32 2147483647) 1 ?_ λc5 t U=>?_)))
    ·rintro h9 E W ⟨b6,q,e8,e9,f0,f1,f2,f3⟩ d1
     have d:=q.has.ll (Kb Sn)
     refine X 31 Z d (lN (f2.trans (cB g)) f3) ?_
     cases sj d1
     refine ov kr (T _ _ ⟨_,q.ll,e8,e9,f0,f1,Z⟩)
    refine bC t (λc t=>?_) (λc t=>?_)
    ·refine Xg 20 Z Z (cB c) d (lz Q) (Xg 21 Z Z (cB c) d (lz c3) (Xg 22 Z Z (cB c) d (mL Z Z Z) (bS t λa8 b1 t=>ym 23 Z kr (.inr ⟨19,true,31,Z,Z,tc,cB c⟩) Z dc (λ_ _ h=>h) d (nI (i:=wi0 .i64 ((G:Int)-1)) (x0:=a8) mH.out cW dB Z Z O (mK b1) (mE b1)) λg7 ⟨_,⟨h5,h6,rfl,f5,f6⟩,d3⟩=>ym 24 Z kr (.inr ⟨19,true,31,Z,Z,tc,cB c⟩) Z dc (λ_ _ h=>h) d (pM (lp a8.lh) IK Z d3 Z) λg8 d4=>uV 25 Z Z (cB c) d (λ_ s=>lq Z (mu s d4 bJ aM)) (Xg 26 Z Z (cB c) d (ly IK e1) (uV 27 Z Z (cB c) d (λ_ s=>lq Z (lC s Mh (lp a.lh) Z bJ aM)) (bS t λh0 d6 t=>CZ 28 Z Z (cB c) (Eg q call123 (mo.mN (EZ a8.lh a.lh _ _  d6)) λg1 q=>?_)))))))
     have d:=q.has.ll (Kb Sn)
     refine ⟨d,Xg 29 Z Z (cB c) d (mL Z Z Z) (Xg 30 Z Z (cB g) d (lQ (cB c) Z) ?_)⟩
     cases sj t
     refine ov kr (U _ _ ⟨_,q.ll,Q,a4,a5,a6,Z,Z⟩)
    refine Xn 20 Z Z (cB c) d (Xn 21 Z Z (cB c) d (Xn 22 Z Z (cB c) d (Xn 23 Z Z (cB c) d (Xn 24 Z Z (cB c) d (Xn 25 Z Z (cB c) d (Xn 26 Z Z (cB c) d (Xn 27 Z Z (cB c) d (Xn 28 Z Z (cB c) d (Xn 29 Z Z (cB c) d (Xg 30 Z Z (cB g) d (lN (cB c) Z) ?_))))))))))
    cases sj t
    refine ov kr (U _ _ ⟨_,q.ll,Q,a4,a5,a6,Z,Z⟩)
   refine bC y (λk y=>?_) (λk y=>?_)
   ·refine Xn 11 Z Z (cB k) d (Xn 12 Z Z (cB k) d (Xn 13 Z Z (cB k) d (Xn 14 Z Z (cB k) d (X 15 Z d (lQ (cB k) Z) ?_))))
    cases sj y
    refine ov kr (Y _ _ ⟨_,q.ll,b7,b9,a3,c0,c1,c2,Z⟩)
   refine Xg 11 Z Z (cB k) d (ly GN a3) (uV 12 Z Z (cB k) d (λ_ s=>lq Z (lA s Mh Z dQ)) (bS y λh1 d7 y=>CZ 13 Z Z (cB k) (Eg q call141 (IZ mv d7) λg2 q=>?_)))
   have d:=q.has.ll (Kb Sn)
   refine ⟨d,Xg 14 Z Z (cB k) d (nK Z) (X 15 Z d (lN (cB k) Z) ?_)⟩
   cases sj y
   refine ov kr (Y _ _ ⟨_,q.ll,b7,b9,a3,c0,c1,c2,Z⟩)
  refine bC z (λj z=>?_) (λj z=>?_)
  ·refine Xn 5 Z Z (cB j) d (Xn 6 Z Z (cB j) d (Xn 7 Z Z (cB j) d (Xn 8 Z Z (cB j) d (X 9 Z d (lQ (cB j) Z) ?_))))
   cases sj z
   refine ov kr (Zq _ _ ⟨_,q.ll,a2,Z,Z,N,eN,v,Z⟩)
  refine Xg 5 Z Z (cB j) d (ly IU Z) (uV 6 Z Z (cB j) d (λ_ s=>lq Z (lC s Mh (C1 a.lB.Op a.lB.K a.lB.lh.lu a.lB.lh.Word B a.lB.Kids.length D) Z bD aD)) (bS z λh2 d8 z=>CZ 7 Z Z (cB j) (Eg q call25 (wv mv d8) λg3 q=>?_)))
  have d:=q.has.ll (Kb Sn)
  refine ⟨d,Xg 8 Z Z (cB j) d (nK Z) (X 9 Z d (lN (cB j) Z) ?_)⟩
  cases sj z
  refine ov kr (Zq _ _ ⟨_,q.ll,a2,Z,Z,N,eN,v,Z⟩)
 rintro E W ⟨⟨v,eN⟩,P,q,a2,N,x⟩
 exact lE (sg (Wa (lt (rQ x q))))
theorem EV {i:np→Option Bool} (j:Sl lU 15 (hp qa) q0 qV) (k:AQ pg0 q1 (hp qa) (Fh lU) (λ(qf:Bool)=>vB qf) i) (hm:um qV i=some qf) :
  mo false pg0 142 [q0,q1] qa (vB qf):=by
 refine cG 9 func142 Z (λa=>sg (Wa (lr (Wm (Wm (bS hm λx t hm=>VE (Eg a call181 (Bm mv mv t) λu a=>Wi Z (Wa (mh ?_)))))))))
 exact lE (lO (rQ hm a))
theorem LV {a:np} (u:Sl (Pl (lJ .u8)) 1 (hp qa) q0 a.Signed.Tag) (k:Sl lx 5 (hp qa) q1 a.lB.Kids) (B:Sl lU 15 (hp qa) q2 qV) (D:Sl mH 8 (hp qa) q3 qG) (I:At (hp qa) (vP qh) [vS qE,q2,q3]) (hm:Dh a qE qV qG=some qf) :
  mo false pg0 143 [vA [vI a.Signed.lg.Kind,vS a.Signed.lg.Head.lu,vS a.Signed.lg.Head.Word,vS a.Signed.lg.nj,vS a.Signed.lg.B.lu,vS a.Signed.lg.B.Word,vS a.Signed.lg.C.lu,vS a.Signed.lg.C.Word,vS a.Signed.lg.mV,q0,vI a.lB.Op,vI a.lB.K,vS a.lB.lh.lu,vS a.lB.lh.Word,q1],vP qh] qa (vB qf):=by
 refine cG 16 func143 Z (λd=>sg ?_)
 obtain ⟨U,i,rfl⟩:=u.form
 obtain ⟨Y,v,rfl⟩:=k.form
 refine VE (mA d Z (λW6 t d=>Wa (lr (V (lq Z (mu d.has I fa eo)) (Wf AF (Wf sP (VA d Mh (lj a.Signed.lg) bF aI (bS hm λz Q hm=>?_))))))))
 refine VE (eD d (aT _) call119 (λh=>CQ h mv mv Q) ?_ (L0:=[]))
 rintro _ j s a2 d T g ⟨q,G,rfl,N⟩
 cases G
 refine Wm (Wx Z (Wx Z (VE (lY d bG λa3 a5 d=>?_))))
 obtain ⟨J,K,rfl⟩:=N.form
 refine VO (FA (#[vI z.1.Op,vI z.1.K,vS z.1.lh.lu,vS z.1.lh.Word,.slice J z.1.Kids.length K]) d aD λa4 d=>Wa (ln ?_))
 have d:=d.ll (Db (Db St))
 exact sg (Wm (Wi Z (Wa (lt (rQ hm d)))))
theorem ON (a:Sl lU 15 (hp qa) q0 qJ.lK) (i:Sl mH 8 (hp qa) q1 qJ.mi) (hm:CC qJ=some qf) :
  mo false pg0 101 [vA [vS qJ.Name,q0,q1]] qa (vB qf):=by
 refine cG 8 func101 Z (λd=>sg ?_)
 obtain ⟨k,u,rfl⟩:=a.form
 obtain ⟨y,z,rfl⟩:=i.form
 refine VE (mA d Z (λI t d=>Wa (lr (Wf Dm (VB d Mh Z Z jk (V (pG (by exact pp Z) Z) (bS hm λK D hm=>VE (Eg d call142 (EV mv ⟨143,#[],#[vP t],Z,call143,λW x vs qf h g hm=>by obtain ⟨_,rfl,B⟩:=g; obtain ⟨G,H,rfl,j,q⟩:=B.out; exact LV j q mv mv (At.of (h _ _ (d.at_ Mh)) _ Z) hm⟩ D) λJ d=>V (nK Z) (Wa (ln ?_))))))))))
 exact lO (rQ hm d)
theorem Qg (g:Sl lU 15 (hp qa) q0 qJ.lK) (c:Sl mH 8 (hp qa) q1 qJ.mi) (hm:DE qJ=some qb) :
  mo false pg0 54 [vA [vS qJ.Name,q0,q1]] qa (vI qb):=by
 refine cG 26 func54 Z (λa=>sg ?_)
 obtain ⟨D,G,rfl⟩:=g.form
 let b8:Value:= .slice D qJ.lK.length G
 obtain ⟨z,B,rfl⟩:=c.form
 let a4:Value:= .slice z qJ.mi.length B
 let a0:=IV qJ.Name D qJ.lK.length G z qJ.mi.length B
 refine VE (mA a Z (λW6 d a=>Wa (ln (lH (bg (Wf RB (VB a Mh Z Z cA (bS hm λr7 v hm=>VE (Eg a kK (mo.mN (vk qJ.Name _ _  v)) λW9 a=>V (nK Z) (Wa (mh ?_)))))))))))
 refine lE (CI hm Z (λQ hm=>?_) λQ hm=>?_)
 ·refine sg (Wa (ln ?_))
  have a:=a.ll (Db St)
  refine lO (nz (mj ?_))
  cases sj hm
  exact rP a
 refine sg (VA a Mh a0 fa eo (bS hm λb3 h hm=>VE (Eg a call98 (RA mv mv h) λa9 a=>Wa (ln (CI hm Z (λT hm=>?_) λT hm=>?_)))))
 ·refine sg (Wa (ln ?_))
  have a:=a.ll (Db St)
  refine lO (nz (mj ?_))
  cases sj hm
  exact rP a
 refine sg (VA a Mh a0 fa eo (bS hm λb4 q hm=>VE (Eg a call99 (Qj mv mv q) λx a=>V (nK Z) (Wm (LJ hm (λN E W=>∃J,ST false nf qa W (hp qa) ((d,Ol a0 25)::J)∧E 1=vP d∧E 20=vB N) 5 ?_ λN t I=>?_)))))
 ·rintro b9 E W ⟨J,a,a5,s⟩ Y
  refine Wh s (LJ Y (λM E W=>∃K,ST false nf qa W (hp qa) K∧E 25=vB M) 4 ?_ λM k H=>?_)
  ·rintro c0 E W ⟨K,a,u⟩ y
   refine Wg u (ln (CI y Z (λU y=>?_) λU y=>?_))
   ·refine sg (Wa (lt (nz (mj ?_))))
    cases sj y
    exact rP a
   exact mU (mx (lE (sg (Wa (lt (rQ y a))))))
  refine bC k (λj k=>?_) (λj k=>?_)
  ·refine un j (un j (un j (V (lQ (cB j) Z) ?_)))
   cases sj k
   exact H _ _ ⟨_,a.ll (Db St),Z⟩
  refine ug j (lq a5 (lC a.has Mh a0 Z fa eo)) (bS k λb6 a2 k=>tw j (Eg a call101 (ON mv mv a2) λO a=>ug j (nK Z) (V (lN (cB j) Z) ?_)))
  cases sj k
  exact H _ _ ⟨_,a.ll (Db St),Z⟩
 refine bC t (λi t=>?_) (λi t=>?_)
 ·refine un i (un i (un i (un i (V (lQ (cB i) Z) ?_))))
  cases sj t
  exact I _ _ ⟨_,a.ll,Z,Z⟩
 refine ug i (ly IN Z) (ug i (lq Z (lA a.has Mh Z isAgg23)) (bS t λb7 a3 t=>tw i (Eg a call100 (SD mv a3) λP a=>ug i (nK Z) (V (lN (cB i) Z) ?_))))
 cases sj t
 exact I _ _ ⟨_,a.ll,Z,Z⟩
theorem Th (M:Sl lU 15 (hp qa) q0 qx.lm.lK) (N:Sl mH 8 (hp qa) q1 qx.lm.mi) (t:Sl (Pl lj) 9 (hp qa) q2 qx.lD) (I:Sl (Pl lj) 9 (hp qa) q3 qx.Shown) (D:Sl (Pl lp) 2 (hp qa) q4 qx.lL) (H:Sl (Pl lp) 2 (hp qa) q5 qx.me) (hm:Ft qx=some qf) :
  mo false pg0 55 [vA [vS qx.lm.Name,q0,q1,vS qx.mI,vI qx.Room,q2,q3,q4,q5]] qa (vB qf):=by
 refine cG 33 func55 Z (λd=>sg ?_)
 obtain ⟨A1,c2,rfl⟩:=M.form
 obtain ⟨A3,c4,rfl⟩:=N.form
 obtain ⟨A5,c6,rfl⟩:=t.form
 obtain ⟨A7,c8,rfl⟩:=I.form
 obtain ⟨A9,a4,rfl⟩:=D.form
 obtain ⟨a3,a5,rfl⟩:=H.form
 let a0:=C2 qx.lm.Name A1 qx.lm.lK.length c2 A3 qx.lm.mi.length c4 qx.mI qx.Room A5 qx.lD.length c6 A7 qx.Shown.length c8 A9 qx.lL.length a4 a3 qx.me.length a5
 refine VE (mA d Z (λi8 v d=>Wa (ln (lH ?_))))
 have d:=d.drew
 have a:=d.has.ll (Kb Sn)
 refine mF a lV (X 0 Z a (ly Bw Z) (XH 1 Z a (λ_ h=>lq Z (lA h Mh Z dQ)) (X 3 Z a (ly Bw Z) (XH 4 Z a (λ_ h=>lq Z (lA h Mh Z dQ)) (bS hm λf5 e4 hm=>XE 2 Z (oG d kp (wB mv e4) λh2 f9 d2 g8 d c O d7=>?_))))))
 have a:=d.has.nx c (Dr (Kb Sn))
 refine ⟨a,bS hm λi1 e5 hm=>XE 5 Z (Eg d call102 (mo.mN (BE (d7.sl mY λb o q=>d.at_ (Ml q)) mv e5)) λh3 d=>?_)⟩
 have a:=d.has.nx c (Dr (Kb Sn))
 refine ⟨a,X 6 Z a (lz Z) (PJ hm (λd1 E W=>∃s b7,lM d2 s∧ST false nf qa W s ((v,Ol a0 29)::b7)∧E 1=vP v∧E 2=vB false∧E 16=vB d1) (bm 31 16383) 17 ?_ λd1 y b0=>?_)⟩
 ·rintro i5 E W ⟨s,b7,k,d,z,c1,f2⟩ e1
  have a:=d.has.nx (c.trans k) (Kb Sn)
  refine X 14 Z a (lz f2) (PJ e1 (λd0 E W=>∃a2 b9,lM s a2∧ST false nf qa W a2 ((v,Ol a0 29)::b9)∧E 1=vP v∧E 2=vB false∧E 24=vB d0) (bm 31 4194303) 9 ?_ λd0 x a9=>?_)
  ·rintro i6 E W ⟨a2,b9,G,d,c3,c5,f3⟩ e2
   have a:=d.has.nx ((c.trans k).trans G) (Kb Sn)
   refine X 22 Z a (lz f3) (PJ e2 (λc9 E W=>∃J c0,lM a2 J∧ST false nf qa W J ((v,Ol a0 29)::c0)∧E 2=vB false∧E 32=vB c9) (bm 31 1073741823) 1 ?_ λc9 u a8=>?_)
   ·rintro i7 E W ⟨J,c0,c7,d,i0,f4⟩ e3
    have a:=d.has.nx (((c.trans k).trans G).trans c7) (Kb Sn)
    refine X 30 Z a (nB f4) (mG kr (lE ?_))
    exact lO (rQ e3 d)
   refine bC u (λj u=>?_) (λj u=>?_)
   ·refine Xg 23 Z Z (cB j) a (ly F2 c3) (uV 24 Z Z (cB j) a (λ_ h=>lq Z (lA h Mh Z eU)) (Xg 26 Z Z (cB j) a (ly F2 c3) (uV 27 Z Z (cB j) a (λ_ h=>lq Z (lA h Mh Z eU)) (bS u λf6 e6 u=>CZ 25 Z Z (cB j) (oG d kf (yx mv e6) λh4 g0 g3 g9 d Q P d8=>?_)))))
    have a:=d.has.nx (((c.trans k).trans G).trans Q) (Dr (Kb Sn))
    refine ⟨a,bS u λi2 e7 u=>CZ 28 Z Z (cB j) (Eg d call103 (mo.mN (zj (d8.sl nC λb o q=>d.at_ (Ml q)) mv e7)) λh5 d=>?_)⟩
    have a:=d.has.nx (((c.trans k).trans G).trans Q) (Dr (Kb Sn))
    refine ⟨a,X 29 Z a (lQ (cB j) Z) ?_⟩
    cases sj u
    refine ov kr (a8 _ _ ⟨g3,_,Q,d.ll (Dr St),c5,Z⟩)
   refine Xn 23 Z Z (cB j) a (Xn 24 Z Z (cB j) a (Xn 25 Z Z (cB j) a (Xn 26 Z Z (cB j) a (Xn 27 Z Z (cB j) a (Xn 28 Z Z (cB j) a (X 29 Z a (lN (cB j) Z) ?_))))))
   cases sj u
   refine ov kr (a8 _ _ ⟨a2,_,lM.refl _,d.ll,c5,Z⟩)
  refine bC x (λi x=>?_) (λi x=>?_)
  ·refine Xg 15 Z Z (cB i) a (ly FK z) (uV 16 Z Z (cB i) a (λ_ h=>lq Z (lA h Mh Z eU)) (Xg 18 Z Z (cB i) a (ly FK z) (uV 19 Z Z (cB i) a (λ_ h=>lq Z (lA h Mh Z eU)) (bS x λf7 e8 x=>CZ 17 Z Z (cB i) (oG d kf (yx mv e8) λh6 g1 g4 h0 d T Y d9=>?_)))))
   have a:=d.has.nx ((c.trans k).trans T) (Dr (Kb Sn))
   refine ⟨a,bS x λi3 e9 x=>CZ 20 Z Z (cB i) (Eg d call103 (mo.mN (zj (d9.sl nC λb o q=>d.at_ (Ml q)) mv e9)) λh7 d=>?_)⟩
   have a:=d.has.nx ((c.trans k).trans T) (Dr (Kb Sn))
   refine ⟨a,X 21 Z a (lQ (cB i) Z) ?_⟩
   cases sj x
   refine ov kr (a9 _ _ ⟨g4,_,T,d.ll (Dr St),z,c1,Z⟩)
  refine Xn 15 Z Z (cB i) a (Xn 16 Z Z (cB i) a (Xn 17 Z Z (cB i) a (Xn 18 Z Z (cB i) a (Xn 19 Z Z (cB i) a (Xn 20 Z Z (cB i) a (X 21 Z a (lN (cB i) Z) ?_))))))
  cases sj x
  refine ov kr (a9 _ _ ⟨s,_,lM.refl _,d.ll,z,c1,Z⟩)
 refine bC y (λg y=>?_) (λg y=>?_)
 ·refine Xg 7 Z Z (cB g) a (ly EF Z) (uV 8 Z Z (cB g) a (λ_ h=>lq Z (lA h Mh Z dQ)) (Xg 10 Z Z (cB g) a (ly EF Z) (uV 11 Z Z (cB g) a (λ_ h=>lq Z (lA h Mh Z dQ)) (bS y λf8 f0 y=>CZ 9 Z Z (cB g) (oG d kp (wB mv f0) λh8 g2 g7 h1 d U aa e0=>?_)))))
  have a:=d.has.nx (c.trans U) (Dr (Dr (Kb Sn)))
  refine ⟨a,bS y λi4 f1 y=>CZ 12 Z Z (cB g) (Eg d call102 (mo.mN (BE (e0.sl mY λb o q=>d.at_ (Ml q)) mv f1)) λh9 d=>?_)⟩
  have a:=d.has.nx (c.trans U) (Dr (Dr (Kb Sn)))
  refine ⟨a,X 13 Z a (lQ (cB g) Z) ?_⟩
  cases sj y
  refine ov kr (b0 _ _ ⟨g7,_,U,d.ll (Dr (Dr St)),Z,Z,Z⟩)
 refine Xn 7 Z Z (cB g) a (Xn 8 Z Z (cB g) a (Xn 9 Z Z (cB g) a (Xn 10 Z Z (cB g) a (Xn 11 Z Z (cB g) a (Xn 12 Z Z (cB g) a (X 13 Z a (lN (cB g) Z) ?_))))))
 cases sj y
 refine ov kr (b0 _ _ ⟨d2,_,lM.refl _,d.ll (Dr St),Z,Z,Z⟩)
theorem F7 {i:lg→Option Bool} (j:Sl (Pl lj) 9 (hp qa) q0 qt) (k:Dd pg0 q1 (hp qa) (λ(x:lg)=>[vA (lj x)]) (λ(qf:Bool)=>vB qf) i) (hm:vy qt i=some qf) :
  mo false pg0 56 [q0,q1] qa (vB qf):=by
 refine cG 9 func56 Z (λa=>sg (Wa (lr (Wm (Wm (bS hm λy t hm=>VE (Eg a call105 (CX mv mv t) λu a=>Wi Z (Wa (mh ?_)))))))))
 exact lE (lO (rQ hm a))
theorem FC {r:(Signed×Bool)} (M:oa qe [] qa) (c:Sl lU 15 qe q0 qJ.lK) (z:Sl mH 8 qe q1 qJ.mi) (hm:Dx qJ qC=some r) :
  my true pg0 58 [vA [vS qJ.Name,q0,q1],vA (lj qC)] qa qe [] (λv L1 μ1=>∃x,v=vT [vA [vI r.1.lg.Kind,vS r.1.lg.Head.lu,vS r.1.lg.Head.Word,vS r.1.lg.nj,vS r.1.lg.B.lu,vS r.1.lg.B.Word,vS r.1.lg.C.lu,vS r.1.lg.C.Word,vS r.1.lg.mV,x],vB r.2]∧L1=[]∧Sl (Pl (lJ .u8)) 1 μ1 x r.1.Tag):=by
 refine rG M 24 func58 Z (λd=>sg ?_)
 obtain ⟨Y,c2,rfl⟩:=c.form
 obtain ⟨A3,c4,rfl⟩:=z.form
 refine VE (mA d Z (λW6 b5 d=>VE (mA d Z (λW8 q d=>VE (lY d cQ λc8 s d=>Wa (lS (Wf Dm (VB d (Mt (Mt Mh)) Z Z jk (V (mP dL Z c) (Wm (ln ?_)))))))))))
 have d:=d.ll (Kb (Kb (Db St)))
 refine nM 11 10 (λi O E W=>∃B,ST true (keys []) qa W qe ((s,Ol C9 71)::((q,Ol (lj qC) 69)::B))∧E 3=vP q∧E 4=vP s∧E 9= .slice Y qJ.lK.length c2∧yQ qC O=some r) c.len ⟨_,d.ll,Z,Z,Z,hm⟩ ?_ ?_
 ·rintro a4 a c6 E W U ⟨⟨h,t⟩,B,d,G,u,H,g⟩
  refine sg (VQ (nI (i:=(a4:Int)) (x0:=a) lU.out dL dO H h c (aF _) U) λb6 ⟨_,⟨c3,c5,rfl,I,T⟩,Q⟩=>V (lq Z (mu d.has Q jl dO)) (VE (lY d fl λP b2 d=>?_)))
  obtain ⟨j,k,rfl⟩:=I.form
  let a0:=C3 a.Signed.lg.Kind a.Signed.lg.Head.lu a.Signed.lg.Head.Word a.Signed.lg.nj a.Signed.lg.B.lu a.Signed.lg.B.Word a.Signed.lg.C.lu a.Signed.lg.C.Word a.Signed.lg.mV j a.Signed.Tag.length k
  obtain ⟨J,K,rfl⟩:=T.form
  let y:=C5 a.Signed.lg.Kind a.Signed.lg.Head.lu a.Signed.lg.Head.Word a.Signed.lg.nj a.Signed.lg.B.lu a.Signed.lg.B.Word a.Signed.lg.C.lu a.Signed.lg.C.Word a.Signed.lg.mV j a.Signed.Tag.length k a.lB.Op a.lB.K a.lB.lh.lu a.lB.lh.Word J a.lB.Kids.length K
  refine VO (FA y.toArray d dO λa9 d=>lr (Wf AF (Wf sP (VA d Mh (lj a.Signed.lg) bF aI (V (lq G (lC d.has (Mt (Mt Mh)) (lj qC) Z bF aI)) (V (A4 Z Z (rY fi) (xu (Ao _ a.Signed.lg qC))) (ln (CI g Z (λN g=>?_) λN g=>?_))))))))
  ·refine sg (Wf AF (VA d Mh a0 eE bW ?_))
   have d:=d.perm (Nb (Pb Pz) Nz)
   refine VO (lZ (vA a0) a0.toArray d u Z bW oc nb Z (λb0 d=>Wa (ln ?_)))
   have d:=d.ll (Kb (Db (Db St)))
   refine lO (nz (mj (nz (mj ?_))))
   cases sj g
   exact rf (v0:=vA a0) (v1:=vB true) Z u (lC d.has Mh a0 Z eE bW) Z ⟨_,_,_,Z,d.mB Sn,lM.refl _,Lo.refl,ST.lG d (mJ.mem Sn),.slice j a.Signed.Tag.length k,Z,Z,I⟩
  refine mU (mx (lE ?_))
  have d:=d.ll (Db St)
  exact ⟨h,t,_,d.ll,G,u,H,g⟩
 rintro E W ⟨⟨h,t⟩,B,d,G,u,H,g⟩
 refine lE ?_
 have d:=d.ll (Kb (Db St))
 refine sg (V (mW (v:=vA C9) pP (mz cQ dY (OG _ dY) kr)) (VO (lZ (vA C9) C9.toArray d u Z bW oc nb Z (λb1 d=>Wa (lt ?_)))))
 cases sj g
 exact rf (v0:=vA C9) (v1:=vB false) Z u (lC d.has Mh C9 Z eE bW) Z ⟨_,_,_,Z,d.mB Sn,lM.refl _,Lo.refl,ST.lG d (mJ.mem Sn),vN,Z,Z,Sl.nil _ _ _⟩
theorem N0 (y:Sl lU 15 (hp qa) q0 qV) (z:Sl mH 8 (hp qa) q1 qG) (N:Sl (Pl lj) 9 (hp qa) q2 qt) (s:Sl (Pl lj) 9 (hp qa) q3 qu) (U:Sl (Pl lp) 2 (hp qa) q4 qv) (q:Sl (Pl lp) 2 (hp qa) q5 qw) (Y:At (hp qa) (vP qh) [vS qE,q0,q1,vS qF,vI qb,q2,q3,q4,q5]) (hm:BZ qC qE qV qG qF qb qt qu qv qw=some qf) :
  mo true pg0 57 [vA (lj qC),vP qh] qa (vB qf):=by
 refine cG 15 func57 Z (λa=>sg (VE (mA a Z (λW2 v a=>Wa (lr (VQ (pM [vS qE,q0,q1] Bl Z Y Z) λP g=>V (lq Z (mu a.has g fa eo)) (VA a Mh (lj qC) bF aI (bS hm λk h hm=>?_))))))))
 let a0:=k.1.lg.Head
 refine VE (eD a (aT _) call58 (λi=>FC i mv mv h) ?_ (L0:=[]))
 rintro _ J j a9 a t d ⟨O,M,rfl,a5⟩
 cases M
 refine Wm (Wx Z (Wx Z (VE (lY a cQ λu I a=>?_))))
 obtain ⟨a2,a3,rfl⟩:=a5.form
 refine VO (FA (#[vI k.1.lg.Kind,vS a0.lu,vS a0.Word,vS k.1.lg.nj,vS k.1.lg.B.lu,vS k.1.lg.B.Word,vS k.1.lg.C.lu,vS k.1.lg.C.Word,vS k.1.lg.mV,.slice a2 k.1.Tag.length a3]) a bW λx a=>Wa (ln ?_))
 have a:=a.ll (Db (Db St))
 exact sg (Wm (V (nK Z) (Wa (lt (rQ hm a)))))
theorem RF (c:Sl lU 15 (hp qa) q0 qx.lm.lK) (g:Sl mH 8 (hp qa) q1 qx.lm.mi) (i:Sl (Pl lj) 9 (hp qa) q2 qx.lD) (j:Sl (Pl lj) 9 (hp qa) q3 qx.Shown) (y:Sl (Pl lp) 2 (hp qa) q4 qx.lL) (z:Sl (Pl lp) 2 (hp qa) q5 qx.me) (hm:EQ qx=some qf) :
  mo false pg0 23 [vA [vS qx.lm.Name,q0,q1,vS qx.mI,vI qx.Room,q2,q3,q4,q5]] qa (vB qf):=by
 refine cG 33 func23 Z (λa=>sg ?_)
 obtain ⟨A1,c2,rfl⟩:=c.form
 let a4:Value:= .slice A1 qx.lm.lK.length c2
 obtain ⟨A3,t,rfl⟩:=g.form
 let a5:Value:= .slice A3 qx.lm.mi.length t
 obtain ⟨A5,c6,rfl⟩:=i.form
 obtain ⟨A7,c8,rfl⟩:=j.form
 let a6:Value:= .slice A7 qx.Shown.length c8
 obtain ⟨A9,Y,rfl⟩:=y.form
 obtain ⟨U,Zq,rfl⟩:=z.form
 let a0:=C2 qx.lm.Name A1 qx.lm.lK.length c2 A3 qx.lm.mi.length t qx.mI qx.Room A5 qx.lD.length c6 A7 qx.Shown.length c8 A9 qx.lL.length Y U qx.me.length Zq
 refine VE (mA a Z (λe5 I a=>Wa (lS (Wf Bl (VA a Mh (IV qx.lm.Name A1 qx.lm.lK.length c2 A3 qx.lm.mi.length t) fa eo (bS hm λf0 d7 hm=>VE (Eg a call54 (Qg mv mv d7) λe6 a=>Wi Z (Wm (LJ hm (λd2 E W=>∃P,ST false nf qa W (hp qa) ((I,Ol a0 29)::P)∧E 1=vP I∧E 12=vB d2) 5 ?_ λd2 N O=>?_)))))))))
 ·let a3:Value:=(vP I)
  rintro f4 E W ⟨P,a,h,e1⟩ d4
  refine Wh e1 (LJ d4 (λd1 E W=>∃c1,ST false nf qa W (hp qa) ((I,Ol a0 29)::c1)∧E 1=a3∧E 17=vB d1) 4 ?_ λd1 a2 J=>?_)
  ·rintro f5 E W ⟨c1,a,q,e2⟩ d5
   refine Wh e2 (LJ d5 (λd0 E W=>∃Q,ST false nf qa W (hp qa) ((I,Ol a0 29)::Q)∧E 1=a3∧E 22=vB d0) 4 ?_ λd0 d v=>?_)
   ·rintro f6 E W ⟨Q,a,s,e3⟩ d6
    refine Wh e3 (LJ d6 (λc9 E W=>∃c5,ST false nf qa W (hp qa) ((I,Ol a0 29)::c5)∧E 1=a3∧E 27=vB c9) 4 ?_ λc9 M u=>?_)
    ·rintro f7 E W ⟨c5,a,c7,e4⟩ K
     refine ln (CI K e4 (λd3 K=>?_) λd3 K=>?_)
     ·refine sg (Wa (ln ?_))
      have a:=a.ll (Db St)
      refine lO (mj ?_)
      cases sj K
      exact rP a
     refine kg (V (ly EF c7) (VB a Mh Z Z dQ (V (pG (by exact pp c7) Z) (bS K λf1 d8 K=>VE (Eg a call56 (F7 mv ⟨57,#[],#[a3],Z,call57,λW x qf hs hm=>(N0 mv mv mv mv mv mv (At.of (hs _ _ (a.at_ Mh)) _ Z) hm).mN⟩ d8) λe7 a=>V (nK Z) (Wa (ln ?_)))))))
     exact lO (rQ K a)
    refine bC M (λG M=>?_) (λG M=>?_)
    ·refine un G (un G (un G (V (lQ (cB G) Z) ?_)))
     cases sj M
     exact u _ _ ⟨_,a.ll,s,Z⟩
    refine ug G (lq s (lC a.has Mh a0 Z eK dN)) (bS M λf2 d9 M=>tw G (Eg a call55 (Th mv mv mv mv mv mv d9) λe8 a=>ug G (nK Z) (V (lN (cB G) Z) ?_)))
    cases sj M
    exact u _ _ ⟨_,a.ll,s,Z⟩
   refine bC d (λD d=>?_) (λD d=>?_)
   ·refine un D (un D (un D (V (lQ (cB D) Z) ?_)))
    cases sj d
    exact v _ _ ⟨_,a.ll,q,Z⟩
   refine ug D (ly Nn q) (ug D (lq Z (lA a.has Mh Z bK)) (ug D (mL Z Z Z) (V (lN (cB D) Z) ?_)))
   cases sj d
   exact v _ _ ⟨_,a.ll,q,Z⟩
  refine bC a2 (λB a2=>?_) (λB a2=>?_)
  ·refine un B (un B (un B (V (lQ (cB B) Z) ?_)))
   cases sj a2
   exact J _ _ ⟨_,a.ll,h,Z⟩
  refine ug B (ly Nn h) (ug B (lq Z (lA a.has Mh Z bK)) (ug B (mL Z Z Z) (V (lN (cB B) Z) ?_)))
  cases sj a2
  exact J _ _ ⟨_,a.ll,h,Z⟩
 refine bC N (λk N=>?_) (λk N=>?_)
 ·refine un k (un k (un k (un k (V (lQ (cB k) Z) ?_))))
  cases sj N
  exact O _ _ ⟨_,a.ll,Z,Z⟩
 refine ug k (ly IF Z) (ug k (lq Z (lA a.has Mh Z cA)) (bS N λf3 e0 N=>tw k (Eg a kK (mo.mN (vk qx.mI _ _  e0)) λe9 a=>ug k (nK Z) (V (lN (cB k) Z) ?_))))
 cases sj N
 exact O _ _ ⟨_,a.ll,Z,Z⟩
theorem Bt (j k t:Int) (r:Bool) (w:World) (hm:wV j k t=some r) :
  mo true pg0 59 [vI j,vI k,vI t] w (vB r):=by
 refine cG 15 func59 Z (λd=>sg (Wa (lr (Wm (Wm (Wi Z (Wm (LJ hm (λx E W=>∃i,ST true nf w W (hp w) i∧E 6=vB false∧E 14=vB x) 4 ?_ λx c g=>?_))))))))
 ·rintro B E W ⟨i,d,z,y⟩ u
  exact Wg y (lt (rQ u d))
 refine bC c (λa c=>?_) (λa c=>?_)
 ·refine ug a (lz Z) (ug a (lz Z) (ug a (mL Z Z Z) (V (lQ (cB a) Z) ?_)))
  cases sj c
  exact g _ _ ⟨_,d.ll,Z,Z⟩
 refine un a (un a (un a (V (lN (cB a) Z) ?_)))
 cases sj c
 exact g _ _ ⟨_,d.ll,Z,Z⟩
theorem Sj (x:pj) (r:Bool) (w:World) (hm:Hr x=some r) :
  mo true pg0 24 [vA (yp x)] w (vB r):=by
 refine cG 26 func24 Z (λd=>sg (VE (mA d Z (λW2 G d=>Wa (lr (Wf La (VB d Mh Z Z bK (bS hm λr3 b7 hm=>VE (Eg d call59 (Bt x.ny 1 2 _ _  b7) λW5 d=>Wm (LJ hm (λa2 E W=>∃J,ST true nf w W (hp w) ((G,Ol (yp x) 31)::J)∧E 1=vP G∧E 2=vB false∧E 10=vB a2) 4 ?_ λa2 t D=>?_))))))))))
 ·rintro c8 E W ⟨J,d,H,Q,b2⟩ a3
  refine Wh b2 (LJ a3 (λq E W=>∃K,ST true nf w W (hp w) ((G,Ol (yp x) 31)::K)∧E 1=vP G∧E 2=vB false∧E 15=vB q) 4 ?_ λq k B=>?_)
  ·rintro c9 E W ⟨K,d,I,T,b3⟩ a4
   refine Wh b3 (LJ a4 (λh E W=>∃M,ST true nf w W (hp w) ((G,Ol (yp x) 31)::M)∧E 1=vP G∧E 2=vB false∧E 20=vB h) 4 ?_ λh j z=>?_)
   ·rintro d0 E W ⟨M,d,b4,U,b5⟩ a5
    refine Wh b5 (LJ a5 (λY E W=>∃N,ST true nf w W (hp w) N∧E 2=vB false∧E 25=vB Y) 4 ?_ λY i y=>?_)
    ·rintro d1 E W ⟨N,d,c3,b6⟩ s
     exact Wg b6 (lt (rQ s d))
    refine bC i (λg i=>?_) (λg i=>?_)
    ·refine ug g (ly W0 b4) (ug g (lq Z (lA d.has Mh Z bK)) (bS i λc4 v i=>tw g (Eg d call59 (Bt x.vp 0 1073741824 _ _  v) λb9 d=>V (lQ (cB g) Z) ?_)))
     cases sj i
     exact y _ _ ⟨_,d.ll (Db St),U,Z⟩
    refine un g (un g (un g (V (lN (cB g) Z) ?_)))
    cases sj i
    exact y _ _ ⟨_,d.ll (Db St),U,Z⟩
   refine bC j (λc j=>?_) (λc j=>?_)
   ·refine ug c (ly V7 I) (ug c (lq Z (lA d.has Mh Z bK)) (bS j λc5 O j=>tw c (Eg d call59 (Bt x.wc 0 100 _ _  O) λc0 d=>V (lQ (cB c) Z) ?_)))
    cases sj j
    exact z _ _ ⟨_,d.ll,I,T,Z⟩
   refine un c (un c (un c (V (lN (cB c) Z) ?_)))
   cases sj j
   exact z _ _ ⟨_,d.ll,I,T,Z⟩
  refine bC k (λa k=>?_) (λa k=>?_)
  ·refine ug a (ly Xk H) (ug a (lq Z (lA d.has Mh Z bK)) (bS k λc6 a9 k=>tw a (Eg d call59 (Bt x.re 1 1000 _ _  a9) λc1 d=>V (lQ (cB a) Z) ?_)))
   cases sj k
   exact B _ _ ⟨_,d.ll,H,Q,Z⟩
  refine un a (un a (un a (V (lN (cB a) Z) ?_)))
  cases sj k
  exact B _ _ ⟨_,d.ll,H,Q,Z⟩
 refine bC t (λu t=>?_) (λu t=>?_)
 ·refine ug u (ly Ww Z) (ug u (lq Z (lA d.has Mh Z bK)) (bS t λc7 P t=>tw u (Eg d call59 (Bt x.Room 0 256 _ _  P) λc2 d=>V (lQ (cB u) Z) ?_)))
  cases sj t
  exact D _ _ ⟨_,d.ll,Z,Z,Z⟩
 refine un u (un u (un u (V (lN (cB u) Z) ?_)))
 cases sj t
 exact D _ _ ⟨_,d.ll,Z,Z,Z⟩
set_option maxHeartbeats 4000000 in
theorem VS {r:((Option Ff)×Int)} (h0:oa qe [] qa) (hm:KT qf qb qc=some r) :
  my true pg0 26 [vB qf,vI qb,vI qc] qa qe [] (λv L1 μ1=>(match r.1 with | none=>(v=vT [.pointer none,vI r.2]∧L1=[]) | some h=>∃s z,v=vT [vP s,vI r.2]∧L1=((s,Ob (po h.word h.closed h.next h.timeout h.Je h.left h.UK z h.Xq) 139)::[])∧Sl (Pl (lJ .u8)) 1 μ1 z h.last)):=by
 refine rG h0 27 func26 Z (λd=>sg (Wa (Wa (lS (Wm (Wi Z (Wm (LJ hm (λY E W=>∃L3,ST true (keys []) qa W qe L3∧E 0=vB qf∧E 1=vI qb∧E 2=vI qc∧E 13=vB Y) 3 ?_ λY t G=>?_))))))))
 ·rintro x2 E W ⟨L3,d,x,y,q,e8⟩ b6
  refine Wh e8 (LJ b6 (λU E W=>∃J,ST true (keys []) qa W qe J∧E 0=vB qf∧E 1=vI qb∧E 2=vI qc∧E 17=vB U) 3 ?_ λU k D=>?_)
  ·rintro c3 E W ⟨J,d,N,Q,H,I⟩ a4
   refine Wh I (LJ a4 (λT E W=>∃K,ST true (keys []) qa W qe K∧E 0=vB qf∧E 1=vI qb∧E 2=vI qc∧E 21=vB T) 3 ?_ λT j B=>?_)
   ·rintro c4 E W ⟨K,d,a9,O,P,b3⟩ i
    refine ln (CI i b3 (λa3 i=>?_) λa3 i=>?_)
    ·refine sg (Wa (Wa (lt (mj ?_))))
     cases sj i
     exact rq (v:= .pointer none) (u:=vI 2) Z Z Z ⟨_,_,_,Z,d.mB Sn,lM.refl _,Lo.refl,ST.lG d (mJ.mem Sn),Z,Z⟩
    refine kg (Wh a9 (Wh O (Wh P (V (mW (v:=vA [vB qf,vB false,vI 1,vI qb,vI qc,vI 0,vI 0,vN,vI 0]) (RL Z Z Z Z) (mz zeroValue139 ey (aci _ ey) kr)) (VE (mA d Z (λc2 M d=>Wa (Wa (lt ?_)))))))))
    cases sj i
    exact rq (v:=vP M) (u:=vI 0) Z Z Z ⟨_,_,_,Z,d.mB (Kb Sn),lM.refl _,Lo.refl,ST.lG d (mJ.mem (Kb Sn)),M,vN,Z,Z,Sl.nil _ _ _⟩
   refine bC j (λa j=>?_) (λa j=>?_)
   ·refine un a (un a (V (lQ (cB a) Z) ?_))
    cases sj j
    exact B _ _ ⟨_,d.ll,N,Q,H,Z⟩
   refine ug a (lz H) (ug a (mL Z Z Z) (V (lN (cB a) Z) ?_))
   cases sj j
   exact B _ _ ⟨_,d.ll,N,Q,H,Z⟩
  refine bC k (λg k=>?_) (λg k=>?_)
  ·refine un g (un g (V (lQ (cB g) Z) ?_))
   cases sj k
   exact D _ _ ⟨_,d.ll,x,y,q,Z⟩
  refine ug g (lz q) (ug g (mL Z Z Z) (V (lN (cB g) Z) ?_))
  cases sj k
  exact D _ _ ⟨_,d.ll,x,y,q,Z⟩
 refine bC t (λc t=>?_) (λc t=>?_)
 ·refine un c (un c (V (lQ (cB c) Z) ?_))
  cases sj t
  exact G _ _ ⟨_,d.ll,Z,Z,Z,Z⟩
 refine ug c (lz Z) (ug c (mL Z Z Z) (V (lN (cB c) Z) ?_))
 cases sj t
 exact G _ _ ⟨_,d.ll,Z,Z,Z,Z⟩
set_option maxHeartbeats 4000000 in
theorem MX {r:mD} (h0:oa qe [] qa) (j:Sl lU 15 qe q0 qx.lm.lK) (u:Sl mH 8 qe q1 qx.lm.mi) (G:Sl (Pl lj) 9 qe q2 qx.lD) (a4:Sl (Pl lj) 9 qe q3 qx.Shown) (Zq:Sl (Pl lp) 2 qe q4 qx.lL) (a3:Sl (Pl lp) 2 qe q5 qx.me) (hm:Bf qx=some r) :
  my true pg0 27 [vA [vS qx.lm.Name,q0,q1,vS qx.mI,vI qx.Room,q2,q3,q4,q5]] qa qe [] (λv L1 μ1=>∃y1 y3 y5 y7 y9 d4,v=vA [vS r.lm.Name,y1,y3,vS r.mI,vI r.Room,y5,y7,y9,d4]∧L1=[]∧Sl lU 15 μ1 y1 r.lm.lK∧Sl mH 8 μ1 y3 r.lm.mi∧Sl (Pl lj) 9 μ1 y5 r.lD∧Sl (Pl lj) 9 μ1 y7 r.Shown∧Sl (Pl lp) 2 μ1 y9 r.lL∧Sl (Pl lp) 2 μ1 d4 r.me):=by
 refine rG h0 20 func27 Z (λa=>sg ?_)
 obtain ⟨A1,c2,rfl⟩:=j.form
 obtain ⟨A3,c4,rfl⟩:=u.form
 obtain ⟨A5,c6,rfl⟩:=G.form
 obtain ⟨A7,c8,rfl⟩:=a4.form
 obtain ⟨A9,b6,rfl⟩:=Zq.form
 obtain ⟨b3,b4,rfl⟩:=a3.form
 refine VE (mA a Z (λg7 h4 a=>VE (lY a zeroValue29 λg8 h5 a=>ln (lH ?_))))
 have a:=a.drew
 have d:=a.has.ll Sn
 have q:=a.has.ll (Db (Kb Sn))
 refine rW 7 d q lV (nu 0 Z d q (ly Bw Z) (BU 1 Z d q (λs=>lq Z (lA s Mh Z dQ)) (nu 3 Z d q (ly EF Z) (BU 4 Z d q (λs=>lq Z (lA s Mh Z dQ)) (bS hm λT d7 hm=>XE 2 Z (oG a call62 (vi mv d7) λg9 h6 h8 g3 a g a7 c1=>?_))))))
 have d:=a.has.nx g Sn
 have q:=a.has.nx g (Dr (Db (Kb Sn)))
 refine ⟨⟨d,λ_=>q⟩,nu 6 Z d q (ly Bw Z) (bS hm λa1 d8 hm=>XE 5 Z (oG a call62 (vi mv d8) λh1 h7 h9 g4 a i a8 c3=>?_))⟩
 have d:=a.has.nx (g.trans i) Sn
 have q:=a.has.nx (g.trans i) (Dr (Dr (Db (Kb Sn))))
 refine ⟨⟨d,λ_=>q⟩,?_⟩
 obtain ⟨J,M,rfl⟩:=c1.form
 have a:=a.perm (Nb (Pr (Pr (Pb Pz))) Nz)
 refine XO 7 Z (lZ (.slice J T.length M) ((C2 qx.lm.Name A1 qx.lm.lK.length c2 A3 qx.lm.mi.length c4 qx.mI qx.Room J T.length M A7 qx.Shown.length c8 A9 qx.lL.length b6 b3 qx.me.length b4).toArray) a Z Z fx oc nb Z (λh2 a=>?_))
 have d:=a.has.nx (g.trans i) Sn
 refine ⟨⟨d,λh=>tC kr h⟩,xh 8 Z kr (.inl Z) Z dc (λ_ _ h=>⟨h.1,uk br h.2⟩) ⟨d,λh=>tC kr h⟩ (λ_ _ _ _=>ly EF Z) ?_⟩
 obtain ⟨U,Y,rfl⟩:=c3.form
 refine XO 9 Z (lZ (.slice U a1.length Y) ((C2 qx.lm.Name A1 qx.lm.lK.length c2 A3 qx.lm.mi.length c4 qx.mI qx.Room J T.length M U a1.length Y A9 qx.lL.length b6 b3 qx.me.length b4).toArray) a Z Z fx oc nb Z (λh3 a=>?_))
 have d:=a.has.nx (g.trans i) Sn
 refine ⟨⟨d,λh=>tC kr h⟩,mG kr (lE (lH ?_))⟩
 have a:=a.drew
 have d:=a.has.ll Sn
 have q:=a.has.ll (Kb Sn)
 refine rW 7 d q lV (nu 0 Z d q (ly FK Z) (BU 1 Z d q (λs=>lq Z (lA s Mh Z eU)) (nu 3 Z d q (ly F2 Z) (BU 4 Z d q (λs=>lq Z (lA s Mh Z eU)) (bS hm λD c7 hm=>XE 2 Z (oG a call63 (BG mv c7) λe9 f5 f7 e7 a c t b7=>?_))))))
 have d:=a.has.nx c Sn
 have q:=a.has.nx c (Dr (Kb Sn))
 refine ⟨⟨d,λ_=>q⟩,nu 6 Z d q (ly FK Z) (bS hm λQ c9 hm=>XE 5 Z (oG a call63 (BG mv c9) λf0 f6 f8 e8 a k x b9=>?_))⟩
 have d:=a.has.nx (c.trans k) Sn
 have q:=a.has.nx (c.trans k) (Dr (Dr (Kb Sn)))
 refine ⟨⟨d,λ_=>q⟩,?_⟩
 obtain ⟨z,B,rfl⟩:=b7.form
 have a:=a.perm (Nb (Pr (Pr Pz)) Nz)
 refine XO 7 Z (lZ (.slice z D.length B) ((C2 qx.lm.Name A1 qx.lm.lK.length c2 A3 qx.lm.mi.length c4 qx.mI qx.Room J T.length M U a1.length Y z D.length B b3 qx.me.length b4).toArray) a Z Z fX oc nb Z (λf1 a=>?_))
 have d:=a.has.nx (c.trans k) Sn
 refine ⟨⟨d,λh=>tC kr h⟩,xh 8 Z kr (.inl Z) Z dc (λ_ _ h=>⟨h.1,uk br h.2⟩) ⟨d,λh=>tC kr h⟩ (λ_ _ _ _=>ly F2 Z) ?_⟩
 obtain ⟨I,K,rfl⟩:=b9.form
 let a0:=C2 qx.lm.Name A1 qx.lm.lK.length c2 A3 qx.lm.mi.length c4 qx.mI qx.Room J T.length M U a1.length Y z D.length B I Q.length K
 refine XO 9 Z (lZ (.slice I Q.length K) a0.toArray a Z Z fX oc nb Z (λf2 a=>?_))
 have d:=a.has.nx (c.trans k) Sn
 refine ⟨⟨d,λh=>tC kr h⟩,mG kr (lE (sg (VA a Mh a0 eK dN ?_)))⟩
 have a:=a.perm (Nb (Pb (Pr (Pr (Pr (Pr Pz))))) Nz)
 refine VO (FA a0.toArray a dN λf3 a=>ln ?_)
 have a:=a.ll (Kb (Db St))
 refine lO ?_
 cases sj hm
 refine oW (v:=vA a0) Z Z (lC a.has Mh a0 Z eK dN) ?_
 have a:=a.perm (Nr (Qb (Qr (Qr (Qr Qz)))) Nz)
 obtain ⟨f9,a,b2,O,d0⟩:=ST.xM a c1 mY
 have a:=a.perm (Nr (Qb (Qr (Qr Qz))) Nz)
 obtain ⟨g0,a,a5,P,d1⟩:=ST.xM a c3 mY
 have a:=a.perm (Nr (Qb (Qr Qz)) Nz)
 obtain ⟨g1,a,N,W,d2⟩:=ST.xM a b7 nC
 have a:=a.perm (Nr (Qb Qz) Nz)
 obtain ⟨g2,a,y,a6,d3⟩:=ST.xM a b9 nC
 exact ⟨_,_,_,Z,a.mB Sn,((((((g.trans i).trans c).trans k).trans b2).trans a5).trans N).trans y,((((((a7.trans a8).trans t).trans x).trans O).trans P).trans W).trans a6,ST.lG a (mJ.mem Sn),.slice A1 qx.lm.lK.length c2,.slice A3 qx.lm.mi.length c4,.slice J T.length M,.slice U a1.length Y,.slice z D.length B,.slice I Q.length K,Z,Z,mv,mv,mv,mv,mv,d3⟩
set_option maxHeartbeats 4000000 in
theorem Qu {r:((Option (mD×pj×Formula×(Option mc)×Ff×Int×Int×Bool×Int×Int))×Int)} (h0:oa qe [] qa) (i:Sl lU 15 qe q0 qx.lm.lK) (j:Sl mH 8 qe q1 qx.lm.mi) (y:Sl (Pl lj) 9 qe q2 qx.lD) (M:Sl (Pl lj) 9 qe q3 qx.Shown) (I:Sl (Pl lp) 2 qe q4 qx.lL) (K:Sl (Pl lp) 2 qe q5 qx.me) (a4:Sl lx 5 qe q6 qy.Kids) (f3:pV nh qe q7 qD) (hm:F5 qx qR qy qD=some r) :
  my false pg0 7 [vA [vS qx.lm.Name,q0,q1,vS qx.mI,vI qx.Room,q2,q3,q4,q5],vA (yp qR),vA [vI qy.Op,vI qy.K,vS qy.lh.lu,vS qy.lh.Word,q6],q7] qa qe [] (λv L1 μ1=>(match r.1 with | none=>(v=vT [.pointer none,vI r.2]∧L1=[]) | some g=>∃b1 y2 y4 y6 y8 j3 j4 j5 j6 i7 j7,v=vT [vP b1,vI r.2]∧L1=((b1,Ob (tz g.1 g.2.1 g.2.2.1 y2 y4 y6 y8 j3 j4 j5 j6 i7 g.2.2.2.2.2.1 g.2.2.2.2.2.2.1 g.2.2.2.2.2.2.2.1 g.2.2.2.2.2.2.2.2.1 g.2.2.2.2.2.2.2.2.2) 101)::((i7,Ob (po g.2.2.2.2.1.word g.2.2.2.2.1.closed g.2.2.2.2.1.next g.2.2.2.2.1.timeout g.2.2.2.2.1.Je g.2.2.2.2.1.left g.2.2.2.2.1.UK j7 g.2.2.2.2.1.Xq) 139)::[]))∧Sl lU 15 μ1 y2 g.1.lm.lK∧Sl mH 8 μ1 y4 g.1.lm.mi∧Sl (Pl lj) 9 μ1 y6 g.1.lD∧Sl (Pl lj) 9 μ1 y8 g.1.Shown∧Sl (Pl lp) 2 μ1 j3 g.1.lL∧Sl (Pl lp) 2 μ1 j4 g.1.me∧Sl lx 5 μ1 j5 g.2.2.1.Kids∧pV nh μ1 j6 g.2.2.2.1∧Sl (Pl (lJ .u8)) 1 μ1 j7 g.2.2.2.2.1.last)):=by
 let a2:=((yp qR).toArray:Array Value)
 refine rG h0 60 func7 Z (λa=>sg ?_)
 obtain ⟨A1,c2,rfl⟩:=i.form
 obtain ⟨A3,c4,rfl⟩:=j.form
 obtain ⟨A5,c6,rfl⟩:=y.form
 obtain ⟨A7,c8,rfl⟩:=M.form
 obtain ⟨A9,a7,rfl⟩:=I.form
 obtain ⟨a6,a8,rfl⟩:=K.form
 let a0:=C2 qx.lm.Name A1 qx.lm.lK.length c2 A3 qx.lm.mi.length c4 qx.mI qx.Room A5 qx.lD.length c6 A7 qx.Shown.length c8 A9 qx.lL.length a7 a6 qx.me.length a8
 refine VE (mA a Z (λo5 b6 a=>VE (mA a Z (λo6 b7 a=>?_))))
 let b8:Value:=vP b7
 let b4:Value:=vP b6
 obtain ⟨U,Y,rfl⟩:=a4.form
 let d2:Value:= .slice U qy.Kids.length Y
 let O:=C1 qy.Op qy.K qy.lh.lu qy.lh.Word U qy.Kids.length Y
 refine VE (mA a Z (λo7 b9 a=>Wa (Wa (ln (lH (bg (Wm (V (Gs kL f3 Z Z) (Wa (ln (CI hm Z (λk4 hm=>?_) λk4 hm=>?_)))))))))))
 ·refine sg (Wa (Wa (ln ?_)))
  have a:=a.ll (Db (Db (Db St)))
  refine lO (nz (mj ?_))
  cases sj hm
  exact rq (v:= .pointer none) (u:=vI 1) Z Z Z ⟨_,_,_,Z,a.mB Sn,lM.refl _,Lo.refl,ST.lG a (mJ.mem Sn),Z,Z⟩
 let c1:Value:=vP b9
 refine sg (VA a (Mt (Mt Mh)) a0 eK dN (bS hm λp0 k8 hm=>VE (Eg a call23 (RF mv mv mv mv mv mv k8) λo8 a=>V (nK Z) (Wm (LJ hm (λh8 E W=>∃i4,ST false (keys []) qa W qe ((b9,Ol O 36)::((b7,oC a2 31)::((b6,Ol a0 29)::i4)))∧E 3=q7∧E 4=b4∧E 5=b8∧E 6=c1∧E 23=vB h8) 4 ?_ λh8 T f2=>?_)))))
 ·rintro p2 E W ⟨i4,a,i8,g9,h1,i9,l4⟩ k6
  refine Wh l4 (LJ k6 (λh7 E W=>∃i5,ST false (keys []) qa W qe ((b9,Ol O 36)::((b7,oC a2 31)::((b6,Ol a0 29)::i5)))∧E 3=q7∧E 4=b4∧E 5=b8∧E 6=c1∧E 30=vB h7) 6 ?_ λh7 P f1=>?_)
  ·rintro m0 E W ⟨i5,a,h2,h3,f6,f7,l5⟩ k7
   refine Wh l5 (LJ k7 (λh5 E W=>∃i6,ST false (keys []) qa W qe ((b9,Ol O 36)::((b7,oC a2 31)::((b6,Ol a0 29)::i6)))∧E 3=q7∧E 4=b4∧E 5=b8∧E 6=c1∧E 39=vB h5) 8 ?_ λh5 a9 e9=>?_)
   ·rintro p3 E W ⟨i6,a,l6,l7,f8,l8,l9⟩ k
    refine Wg l9 (ln (CI k Z (λk5 k=>?_) λk5 k=>?_))
    ·refine sg (Wa (Wa (ln ?_)))
     have a:=a.ll (Db (Db (Db St)))
     refine lO (nz (mj ?_))
     cases sj k
     exact rq (v:= .pointer none) (u:=vI 2) Z Z Z ⟨_,_,_,Z,a.mB Sn,lM.refl _,Lo.refl,ST.lG a (mJ.mem Sn),Z,Z⟩
    refine mU (mx (lE (sg (V (ly FU f8) (VB a (Mt Mh) Z Z fe (V (nK Z) (V (ly Xk f8) (VB a (Mt Mh) Z Z bK (V (ly V7 f8) (VB a (Mt Mh) Z Z bK (bS k λj0 k9 k=>?_)))))))))))
    refine VE (Ub a (aT _) call26 (λhH hN ad af=>my.mN (VS ⟨hH,hN,ad⟩  k9)) (λo9 p1 p5 o4 a D ab h4=>?_) (L0:=[]))
    have hex:∃o,j0.1=o:=⟨_,Z⟩
    obtain ⟨ae,x⟩:=hex
    rw [x] at k h4
    have s:=aaU k
    rcases s with ⟨h,k⟩ | ⟨p4,h,k⟩
    ·subst h
     cases k
    subst h
    obtain ⟨f5,m5,f4,rfl,l0⟩:=h4
    replace f4:=f4.symm; subst f4
    have a:=a.perm (Tb Tn)
    refine Wm (Wx Z (Wx Z (Wa (Wa (ln (lH ?_))))))
    have a:=a.drew
    have d:=a.has.ll (Db (Kb (Kb (Kb Sn))))
    refine mF d lV (XH 0 Z d (λ_ hS=>lq l7 (lC hS (Mt (Mt Mh)) a0 Z eK dN)) (XH 2 Z d (λ_ hS=>lq f8 (lC hS (Mt Mh) (yp qR) Z isAgg31 sizeOf31)) (XH 3 Z d (λ_ hS=>lq l8 (lC hS Mh O Z bD aD)) (X 4 Z d (lz l6) (X 5 Z d (lz Z) (X 8 Z d (lz Z) (bS k λc i1 k=>?_)))))))
    refine XE 1 Z (eD a (aT _) call27 (λhh=>my.mN (MX hh mv mv mv mv mv mv i1)) ?_ (L0:=[]))
    rintro _ n5 o3 m7 a J q ⟨n7,n8,n9,o0,o1,o2,e6,rfl,f9,g0,g1,g2,g3,g4⟩
    cases e6
    have d:=a.has.nx J (Db (Kb (Kb (Kb Sn))))
    refine ⟨d,?_⟩
    obtain ⟨c3,d6,rfl⟩:=f9.form
    obtain ⟨c5,d7,rfl⟩:=g0.form
    obtain ⟨c7,d8,rfl⟩:=g1.form
    obtain ⟨c9,e0,rfl⟩:=g2.form
    obtain ⟨d0,e1,rfl⟩:=g3.form
    obtain ⟨d1,e2,rfl⟩:=g4.form
    have aa:=a
    obtain ⟨e7,rfl⟩:=f3.form
    have a:=aa
    refine X 6 Z d (mW (v:=vA [vS c.lm.Name,.slice c3 c.lm.lK.length d6,.slice c5 c.lm.mi.length d7,vS c.mI,vI c.Room,.slice c7 c.lD.length d8,.slice c9 c.Shown.length e0,.slice d0 c.lL.length e1,.slice d1 c.me.length e2,vB qR.lu,vI qR.ny,vI qR.Room,vI qR.re,vI qR.wc,vI qR.vp,vI qy.Op,vI qy.K,vS qy.lh.lu,vS qy.lh.Word,d2,.pointer e7,vP f5,vI 0,vI 0,vB false,vI 0,vI 0]) (abA Z Z Z Z Z) (mz zeroValue101 eu (acq _ eu) kr)) (XE 7 Z (mA a Z (λm9 g8 a=>?_)))
    have d:=a.has.nx J (Db (Db (Kb (Kb (Kb Sn)))))
    refine ⟨d,X 9 Z d (nB Z) (X 10 Z d (nB Z) (mG kr (lE ?_)))⟩
    have a:=a.ll (Kb (Kb (Db (Db (Db St)))))
    refine lO ?_
    cases sj k
    exact rq (v:=vP g8) (u:=vI j0.2) Z Z Z ⟨_,_,_,Z,a.mB (Kb (Kb Sn)),D.trans J,ab.trans q,ST.lG a (mJ.mem (Kb (Kb Sn))),g8,.slice c3 c.lm.lK.length d6,.slice c5 c.lm.mi.length d7,.slice c7 c.lD.length d8,.slice c9 c.Shown.length e0,.slice d0 c.lL.length e1,.slice d1 c.me.length e2,d2,.pointer e7,f5,m5,Z,Z,f9,g0,g1,g2,g3,g4,mv,mv,mv⟩
   refine bC a9 (λz a9=>?_) (λz a9=>?_)
   ·refine un z (un z (un z (Vu Z Z (Vu Z Z (Vu Z Z (un z (V (lQ (cB z) Z) ?_)))))))
    cases sj a9
    exact e9 _ _ ⟨_,a.ll,h2,h3,f6,f7,Z⟩
   refine ug z (ly FU f6) (ug z (lq Z (lA a.has (Mt Mh) Z fe)) (ug z (lz Z) (LJ a9 (λh6 E W=>∃g7,ST false (keys []) qa W qe ((b9,Ol O 36)::((b7,oC a2 31)::((b6,Ol a0 29)::g7)))∧E 3=q7∧E 4=b4∧E 5=b8∧E 6=c1∧E 31=vB m0∧E 38=vB h6) 4 ?_ λh6 Q f0=>?_)))
   ·rintro n6 E W ⟨g7,a,j8,j9,k0,k1,k2,k3⟩ i0
    refine V (lN (k2.trans (cB z)) k3) ?_
    cases sj i0
    exact e9 _ _ ⟨_,a.ll,j8,j9,k0,k1,Z⟩
   refine bC Q (λB Q=>?_) (λB Q=>?_)
   ·refine ug B (lq f7 (lC a.has Mh O Z bD aD)) (bS Q λn3 i2 Q=>tw B (Eg a call25 (wv mv i2) λn0 a=>ug B (nK Z) (ug z (lQ (cB B) Z) ?_)))
    cases sj Q
    exact f0 _ _ ⟨_,a.ll,h2,h3,f6,f7,Z,Z⟩
   refine un B (un B (un B (ug z (lN (cB B) Z) ?_)))
   cases sj Q
   exact f0 _ _ ⟨_,a.ll,h2,h3,f6,f7,Z,Z⟩
  refine bC P (λt P=>?_) (λt P=>?_)
  ·refine un t (un t (un t (un t (un t (V (lQ (cB t) Z) ?_)))))
   cases sj P
   exact f1 _ _ ⟨_,a.ll,i8,g9,h1,i9,Z⟩
  refine ug t (ly Ww h1) (ug t (lq Z (lA a.has (Mt Mh) Z bK)) (ug t (ly Nn g9) (ug t (lq Z (lA a.has (Mt (Mt Mh)) Z bK)) (ug t (mL Z Z Z) (V (lN (cB t) Z) ?_)))))
  cases sj P
  exact f1 _ _ ⟨_,a.ll,i8,g9,h1,i9,Z⟩
 refine bC T (λN T=>?_) (λN T=>?_)
 ·refine un N (un N (un N (V (lQ (cB N) Z) ?_)))
  cases sj T
  exact f2 _ _ ⟨_,a.ll,Z,Z,Z,Z,Z⟩
 refine ug N (lq Z (lC a.has (Mt Mh) (yp qR) Z isAgg31 sizeOf31)) (bS T λn4 i3 T=>tw N (Eg a call24 (mo.mN (Sj qR _ _  i3)) λn1 a=>ug N (nK Z) (V (lN (cB N) Z) ?_)))
 cases sj T
 exact f2 _ _ ⟨_,a.ll,Z,Z,Z,Z,Z⟩
theorem yW {r:List tT} (P:oa qe ((qh,Ob #[q1] 52)::(qo++[])) qa) (Q:Sl (wo (lJ .u8) 1) 1 qe q0 qX) (a5:mX 56 sO 2 qe q1 qY qo) (hm:ru qX qY=some r) :
  my true pg0 8 [q0,vP qh] qa qe ((qh,Ob #[q1] 52)::(qo++[])) (λv L1 μ1=>∃q S2,v=vT []∧L1=((qh,Ob #[q] 52)::(S2++[]))∧mX 56 sO 2 μ1 q r S2):=by
 refine rG P 17 func8 Z (λd=>sg (Wm (V (mP dH Z Q) (Wm (ln (xl (nM 7 6 (λi js E W=>∃x H t K,ST true (keys ((qh,Ob #[q1] 52)::(qo++[]))) qa W qe ((qh,Ob #[x] 52)::(t++K))∧E 1=vP qh∧E 5=q0∧mX 56 sO 2 qe x H t∧rF js H=some r) Q.len ⟨q1,qY,qo,_,d.ll,Z,Z,a5,hm⟩ ?_ ?_)))))))
 ·rintro O k c2 E W u ⟨⟨g,h⟩,x,H,t,K,d,D,N,G,a⟩
  refine sg (VQ (DT (enc:=lJ .u8) (k2:=1) (i:=(O:Int)) (x0:=k) dH dA N g Q (aF _) u) λb9 ⟨z,a2,Y⟩=>V (lq Z (om d.has (y:=z) a2 dq)) (Wa (ln (lI (V (lq D (lA d.has Mh Z isAgg52)) (Wm ?_))))))
  obtain ⟨c,j,rfl⟩:=Y.form
  let a4:Value:= .slice c k.length j
  refine V (mW (v:=vA [vB true,a4]) (pZ Z Z) (mz dI du (Jj _ du) kr)) (VE (mn (cs:=#[vB true,a4]) d (nw Z) (nU dD eA dI) λb3 b6 d=>?_))
  have d:=d.perm (Nr (Qb (Qb Qz)) Nz)
  refine bS a λI s a=>VE (wW (B:=t) A6 d dc dD FQ.1 FQ.2.1 Z FQ.2.2.1 FQ.2.2.2 Z Z G (EI.lit A6 (l:=[(⟨true,k⟩:tT)]) (.cons (ys:=[vB true,a4]) (sO.mk ⟨a4,Z,Y⟩) .nil) Z nb (d.at_ (Ma Mh))) s λb4 c1 a3 d U=>?_)
  obtain ⟨J,M,rfl⟩:=U.form
  have d:=d.perm (Nb (Pr (Pb Pz)) Nz)
  refine VO (lZ (.slice J I.length M) (#[.slice J I.length M]) d D Z sizeOf52 oc nb Z (λb5 d=>mh (mx (lE ?_))))
  have d:=d.ll (Kb (Kr (Db St)))
  exact ⟨g,h,.slice J I.length M,I,a3,_,d.ll,D,N,U,a⟩
 rintro E W ⟨⟨g,h⟩,x,H,t,K,d,D,N,G,a⟩
 refine lE (rI ?_)
 cases sj a
 exact pF Z ⟨_,_,_,Z,d.mB (Kb (Kr Sn)),lM.refl _,Lo.refl,ST.lG d (mJ.mem (Kb (Kr Sn))),x,t,Z,Z,G⟩
theorem EH {t j z:Int} (B:Sl (Pl (lJ .u8)) 1 (hp qa) q0 ql) (H:At (hp qa) (vP qh) [vB qf,vB qg,vI qb,vI qc,vI qd,vI t,vI j,q0,vI z]) (hm:xY qf qg qb qc qd t j ql z=some qm) :
  na true pg0 28 [vP qh] qa 5 (lJ .u8) 1 qm:=by
 refine vr 10 func28 Z (λa=>sg (Wa (lS (Wm (V (ox gK Z Z) (ln (oV Z (mU ?_))))))))
 refine lE (sg (Wm (Wn (VQ (pM [q0] Lr Z H Z) λT J=>V (lq Z (om a.has (y:=q0) J dq)) (bS hm λU K hm=>VE (oG a call19 (Br mv K) λQ M Y I a N d G=>Wa (lt ?_)))))))
 cases sj hm
 exact ma (v:=M) Z Z ⟨_,I,Z,a.nT (λp g=>Ml g) G.nd,G⟩
set_option maxHeartbeats 4000000 in
theorem LZ {z k x:Int} {r:((List Int)×Int×Bool×Int×Int×Int×(List Int))} (h0:oa qe ((qh,Ob (po qf qg qb qc qd z k q0 x) 139)::[]) qa) (I:Sl (Pl (lJ .u8)) 1 qe q0 ql) (G:Sl (Pl lp) 2 qe q1 qH.nX) (D:Sl mR 10 qe q2 qH.nm) (hm:wQ qf qg qb qc qd z k ql x qH=some r) :
  my false pg0 64 [vP qh,vA [vI qH.Kind,vI qH.ny,vI qH.E,vS qH.Name,q1,q2]] qa qe ((qh,Ob (po qf qg qb qc qd z k q0 x) 139)::[]) (λv L1 μ1=>∃y1 y3,v=vT [y1,vI r.2.1]∧L1=((qh,Ob (po r.2.2.1 qg r.2.2.2.1 qc qd r.2.2.2.2.1 r.2.2.2.2.2.1 y3 x) 139)::[])∧Sl (Pl (lJ .u8)) 1 μ1 y1 r.1∧Sl (Pl (lJ .u8)) 1 μ1 y3 r.2.2.2.2.2.2):=by
 let a6:=((po qf qg qb qc qd z k q0 x):Array Value)
 refine rG h0 62 func64 Z (λa=>sg ?_)
 obtain ⟨A1,c2,rfl⟩:=G.form
 obtain ⟨A3,c4,rfl⟩:=D.form
 let O:=C6 qH.Kind qH.ny qH.E qH.Name A1 qH.nX.length c2 A3 qH.nm.length c4
 refine VE (mA a Z (λW6 b5 a=>Wa (Wa (ln (lH (bg (Wm (V (ox gK Z Z) (Wa (ln (oV Z ?_)))))))))))
 refine sg (Wm (Wn (Wf GJ (VB a (Mt Mh) Z Z fe (V (nK Z) (Wm (LJ hm (λb3 E W=>∃L9,ST false (keys ((qh,oC a6 139)::[])) qa W qe ((b5,Ol O 79)::((qh,oC a6 139)::L9))∧E 0=vP qh∧E 3=vP b5∧E 20=vB b3) 5 ?_ λb3 i a4=>?_)))))))
 ·rintro x8 E W ⟨L9,a,K,b2,d0⟩ t
  refine Wg d0 (ln (CI t Z (λb7 t=>?_) λb7 t=>?_))
  ·refine sg (Wa (Wa (ln ?_)))
   have a:=a.ll (Db St)
   refine lO (nz (mj ?_))
   cases sj t
   exact rq (v:=vN) (u:=vI 43) Z Z Z ⟨_,_,_,Z,a.mB (Kb Sn),lM.refl _,Lo.refl,ST.lG a (mJ.mem (Kb Sn)),vN,q0,Z,Z,Sl.nil _ _ _,I⟩
  refine sg (V (lq b2 (lC a.has Mh O Z dv bR)) (bS t λe6 c1 t=>VE (Eg a call45 (FB mv mv c1) λd8 a=>V (nK Z) (Wa (ln (CI t Z (λb9 t=>?_) λb9 t=>?_))))))
  ·refine sg (Wa (Wa (ln ?_)))
   have a:=a.ll (Db St)
   refine lO (nz (mj ?_))
   cases sj t
   exact rq (v:=vN) (u:=vI 11) Z Z Z ⟨_,_,_,Z,a.mB (Kb Sn),lM.refl _,Lo.refl,ST.lG a (mJ.mem (Kb Sn)),vN,q0,Z,Z,Sl.nil _ _ _,I⟩
  refine sg (Wh K (Wn (Wf E7 (VB a (Mt Mh) Z Z bK (Wi Z (Wa (ln (CI t Z (λc0 t=>?_) λc0 t=>?_))))))))
  ·refine sg (Wa (Wa (ln ?_)))
   have a:=a.ll (Db St)
   refine lO (nz (mj ?_))
   cases sj t
   exact rq (v:=vN) (u:=vI 12) Z Z Z ⟨_,_,_,Z,a.mB (Kb Sn),lM.refl _,Lo.refl,ST.lG a (mJ.mem (Kb Sn)),vN,q0,Z,Z,Sl.nil _ _ _,I⟩
  refine mU (mx (lE (lH ?_)))
  have a:=a.drew
  have d:=a.has.ll (Kb Sn)
  have g:=a.has.ll (Db (Kb Sn))
  refine rW 9 d g lV (nu 0 Z d g (lz K) (nu 1 Z d g (lz K) (nu 2 Z d g (lX Z) (nu 3 Z d g (ly E7 Z) (BU 4 Z d g (λQ=>lq Z (lA Q Mh Z bK)) (IS 5 Z d g (λQ=>lq b2 (lC Q Mh O Z dv bR)) (bS t λM c3 t=>XE 6 Z (oG a call14 (KD mv mv c3) λd9 e8 e9 d6 a Y j a2=>?_))))))))
  have d:=a.has.nx Y (Dr (Kb Sn))
  have g:=a.has.nx Y (Dr (Db (Kb Sn)))
  refine ⟨⟨d,λ_=>g⟩,nu 7 Z d g (lX Z) (nu 8 Z d g (ly Lr Z) ?_)⟩
  obtain ⟨T,U,rfl⟩:=a2.form
  let a5:Value:= .slice T M.length U
  have a:=a.perm (Nb (Pr (Pb Pz)) Nz)
  refine XO 9 Z (lZ a5 (po qf qg qb qc qd z k a5 x) a Z Z dA oc nb Z (λe0 a=>?_))
  have d:=a.has.nx Y (Db (Dr (Kb Sn)))
  refine ⟨⟨d,λh=>tC kr h⟩,mG kr (lE ?_)⟩
  have a:=a.ll (Kb (Kr (Db St)))
  refine sg (Wh K (Wn (Wf E7 (VB a Mh Z Z bK (Wi Z (Wn (Wf E7 (VO (lZ (vI (wi0 .i64 (qb+1))) (po qf qg (wi0 .i64 (qb+1)) qc qd z k a5 x) a Z Z dn (vM _ (wi0 .i64 (qb+1))) nb Z (λe1 a=>lr (Wh K ?_)))))))))))
  let P:=wi0 .i64 (qb+1)
  refine Wh K (Wh K (Wh K (Wn (Wf ZF (VB a Mh Z Z bK (Wn (Wf GJ (VO (lZ (vB false) (po false qg P qc qd z k a5 x) a Z Z ij (UO false) nb Z (λe2 a=>Wn (Wf Lu (VO (lZ (vI qd) (po false qg P qc qd qd k a5 x) a Z Z dn (vM _ qd) nb Z (λe3 a=>Wn (Wf IC (VO (lZ (vI 0) (po false qg P qc qd qd 0 a5 x) a Z Z dn (vM _ 0) nb Z (λe4 a=>?_))))))))))))))))))
  refine lr (Wh K (bS t λe7 c5 t=>VE (oG a call28 (na.mN (EH (a2.sl (λ_=>rfl) λb o hq=>a.at_ (Mt (Ml hq))) (At.of (a.at_ Mh) _ Z) c5)) λe5 b4 f0 d7 a b0 q b6=>Wa (Wa (lt ?_)))))
  cases sj t
  refine rq (v:=b4) (u:=vI 0) Z Z Z ?_
  obtain ⟨f1,a,b1,s,c6⟩:=ST.xM a b6 (λ_=>rfl)
  have a:=a.perm (Nr (Qb Qz) Nz)
  obtain ⟨f2,a,a3,y,c7⟩:=ST.xM a a2 (λ_=>rfl)
  exact ⟨_,_,_,Z,a.mB (Kb Sn),((Y.trans b0).trans b1).trans a3,((j.trans q).trans s).trans y,ST.lG a (mJ.mem (Kb Sn)),b4,a5,Z,Z,mv,c7⟩
 refine bC i (λJ i=>?_) (λJ i=>?_)
 ·refine un J (un J (un J (un J (V (lQ (cB J) Z) ?_))))
  cases sj i
  exact a4 _ _ ⟨_,a.ll,Z,Z,Z⟩
 refine ug J (lz Z) (ug J (lX Z) (ug J (ly Lk Z) (ug J (lq Z (lA a.has (Mt Mh) Z fe)) (V (lN (cB J) Z) ?_))))
 cases sj i
 exact a4 _ _ ⟨_,a.ll,Z,Z,Z⟩
theorem Ef {B:(List Int)→Option Bool} (c:Sl (wo (lJ .u8) 1) 1 (hp qa) q0 qX) (D:AQ pg0 q1 (hp qa) (Uk (wo (lJ .u8) 1)) (λ(qb:Bool)=>vB qb) B) (hm:wN qX B=some qb) :
  mo false pg0 110 [q0,q1] qa (vI qb):=by
 refine cG 19 func110 Z (λd=>sg (Wa (lS (Wm (V (mP dH Z c) (Wm (ln (nM 8 7 (λi j E W=>∃k,ST false nf qa W (hp qa) k∧E 0=q0∧E 1=q1∧pY B j i=some qb) c.len ⟨_,d.ll,Z,Z,hm⟩ ?_ ?_))))))))
 ·rintro N z Q E W K ⟨⟨g,h⟩,k,d,t,u,a⟩
  refine sg (Wh g (Wa (lr (Wh u (Wh t (Wm (VQ (DT (enc:=lJ .u8) (k2:=1) (i:=(N:Int)) (x0:=z) dH dA Z Z c (aF _) K) λU ⟨x,H,J⟩=>V (lq Z (om d.has (y:=x) H dq)) (bS a λY I a=>VE (BR z d D (lM.refl _) (Uk.mk Ii ⟨x,Z,J⟩ d.ns) Z (pp Z) I λT d=>?_)))))))))
  refine ln (CI a Z (λG a=>?_) λG a=>?_)
  ·refine sg (Wm (Wa (lt (nz (mj (nz (mj ?_)))))))
   cases sj a
   exact rP d
  exact mU (mx (lE ⟨g,h,_,d.ll,t,u,a⟩))
 rintro E W ⟨⟨g,h⟩,k,d,t,u,a⟩
 exact lE (sg (Wa (lt (rQ a d))))
theorem Ed {f1:(List Int)→Option Bool} {r:List (List Int)} (h0:oa qe (qo++[]) qa) (Q:mX 54 (wo (lJ .u8) 1) 1 qe q0 qX qo) (a5:AQ pg0 q1 qe (Uk (wo (lJ .u8) 1)) (λ(r:Bool)=>vB r) f1) (hm:tL qX f1=some r) :
  my false pg0 66 [q0,q1] qa qe (qo++[]) (λv L1 μ1=>∃y1,v=y1∧L1=[]∧Sl (wo (lJ .u8) 1) 1 μ1 y1 r):=by
 refine rG h0 42 func66 Z (λd=>sg (Wa (lr (Wm (Wm (bS hm λP d6 hm=>VE (Eg d call110 (Ef (Q.sl Ii d.ns λb o q=>d.at_ (Ml q)) (a5.mono d.ns) d6) λW3 d=>Wa (ln ?_))))))))
 refine lH (sg (Wm (Wi Z (ln (CI hm Z (λd5 hm=>?_) λd5 hm=>?_)))))
 ·refine sg (Wm (Wa (lt (mj ?_))))
  cases sj hm
  refine ma (v:=q0) Z Z ?_
  obtain ⟨aa,d,d1,j,d7⟩:=ST.Bb Ii d Q
  exact ⟨_,_,_,Z,d.mB Sn,d1,j,ST.lG d (mJ.mem Sn),q0,Z,Z,d7⟩
 refine kS (Wm (Wi Z (Wa (ln (nO (pE (λm E W=>∃T G u x a3,ST false (keys (qo++[])) qa W qe (G++a3)∧E 0=q0∧E 1=q1∧E 5=vI u∧E 6=vI x∧mX 54 (wo (lJ .u8) 1) 1 qe q0 T G∧pQ f1 m T u x=some r) mZ ⟨qX,qo,P,wi0 .i64 (P+1),_,d.ll,Z,Z,Z,Z,Q,hm⟩ ?_))))))
 rintro m E W ⟨T,G,u,x,a3,d,k,N,B,I,g,a⟩
 cases m with
 | zero=>rw [pQ] at a; cases a
 | succ d3=>
  refine lH (sg (Wh I (Wh k (V (AS dH Z g) (Wi Z (ln (CI a Z (λb3 a=>?_) λb3 a=>?_)))))))
  ·refine kn (lH (CJ a (λU E W=>∃H a4,ST false (keys (qo++[])) qa W qe (H++a4)∧E 0=q0∧E 1=q1∧E 5=vI U.2∧E 6=vI x∧mX 54 (wo (lJ .u8) 1) 1 qe q0 U.1 H) (λU c=>?_) ?_))
   ·refine bg (Wh k (Wh I (bS c λY a2 c=>VQ (nV (i:=x) id dH dA Z Z g (mK a2) (mE a2)) λe9 ⟨_,⟨M,rfl,J⟩,b7,e0⟩=>V (lq Z (om (oR.hp _) (y:=M) (b7.mono (oz λb o q=>d.has.2 b o (Ml q))) dq)) (Wa (lr (Wh N (Wm ?_)))))))
    refine bS c λf2 b9 c=>VE (BR Y d a5 (lM.refl _) (Uk.mk Ii ⟨M,Z,J⟩ d.ns) Z (pp Z) b9 λe5 d=>V (nK Z) (ln (CI c Z (λb4 c=>?_) λb4 c=>?_)))
    ·refine sg (Wh k (Wh B (Wm (bS c λf5 K c=>VQ (nV (i:=u) id dH dA Z Z g (mK K) (mE K)) λf0 ⟨_,⟨f3,rfl,e2⟩,e1,b5⟩=>?_))))
     obtain ⟨c4,c6,rfl⟩:=J.form
     refine VO (Ta (x1:=Y) Ii d g Z Z Z ⟨.slice c4 Y.length c6,Z,J⟩ b5 (mE K) dA λe6 c5 d b1=>ln (lI (Wh B (Wi Z (Wa (mh (mx (lE ?_))))))))
     cases sj c
     exact ⟨c5,_,d.ll,k,N,Z,I,b1⟩
    refine mU (mx (lE ?_))
    cases sj c
    exact ⟨G,_,d.ll,k,N,B,I,g⟩
   rintro ⟨d2,d4⟩ E W ⟨H,a4,d,c7,c8,c9,d0,c0⟩ b6
   exact lI (Wh d0 (Wi Z (Wa (ln ⟨d3,bH _,d2,H,d4,wi0 .i64 (x+1),_,d.ll,c7,c8,c9,Z,c0,b6⟩))))
  refine pg (oL (oL (uO (lE (sg (Wh k (Wh B (bS a λ_ s a=>VQ (Ew (i:=u) dH dA Z Z g (uh s) (tY s)) λf4 c1=>VO (GQ (z:=[]) (zs:=[vN]) Ii d g ⟨vN,Z,Sl.nil _ _ _⟩ dH fL c1 Z Z (λe7 e4 d b2=>lr (Wh k ?_)))))))))))
  refine Wh B (bS a λ_ t a=>VQ (Jp (i:=u) dH dA Z Z b2 (uh t) (tY t)) λO c2=>Wa (lt ?_))
  cases sj a
  refine ma (v:=O) Z Z ?_
  obtain ⟨f7,d,a6,h,c3⟩:=ST.Bb Ii d c2
  exact ⟨_,_,_,Z,d.mB Sn,a6,h,ST.lG d (mJ.mem Sn),O,Z,Z,c3⟩
set_option maxHeartbeats 4000000 in
theorem Gb (c:Sl (Pl (lJ .u8)) 1 (hp qa) q0 ql) (hm:vx ql=some qf) :
  mo true pg0 67 [q0] qa (vB qf):=by
 exact cG 6 func67 Z (λa=>sg (Wa (lr (Wm (V (mP aZ Z c) (Wi Z (Wa (lt (rQ hm a)))))))))
set_option maxHeartbeats 4000000 in
theorem yF {K I Q Y a4:Int} {U:Bool} {d T:Int} {r:((List (List Int))×Int)} (J:oa qe ((qh,Ob (tz qx qR qy q0 q1 q2 q3 q4 q5 q6 q7 qi Y a4 U d T) 101)::((qi,Ob (po qf qg qb qc qd K I q8 Q) 139)::(qo++[]))) qa) (a5:Sl lU 15 qe q0 qx.lm.lK) (a8:Sl mH 8 qe q1 qx.lm.mi) (a9:Sl (Pl lj) 9 qe q2 qx.lD) (b4:Sl (Pl lj) 9 qe q3 qx.Shown) (b0:Sl (Pl lp) 2 qe q4 qx.lL) (b3:Sl (Pl lp) 2 qe q5 qx.me) (b9:Sl lx 5 qe q6 qy.Kids) (c7:pV nh qe q7 qD) (b5:Sl (Pl (lJ .u8)) 1 qe q8 ql) (c2:mX 54 (wo (lJ .u8) 1) 1 qe q9 qX qo) (hm:pW qx qR qy qD qf qg qb qc qd K I ql Q Y a4 U d T qX=some r) :
  my false pg0 32 [vP qh,q9] qa qe ((qh,Ob (tz qx qR qy q0 q1 q2 q3 q4 q5 q6 q7 qi Y a4 U d T) 101)::((qi,Ob (po qf qg qb qc qd K I q8 Q) 139)::(qo++[]))) (λv L1 μ1=>∃s,v=s∧L1=((qh,Ob (tz qx qR qy q0 q1 q2 q3 q4 q5 q6 q7 qi Y a4 U d r.2) 101)::((qi,Ob (po qf qg qb qc qd K I q8 Q) 139)::[]))∧Sl (wo (lJ .u8) 1) 1 μ1 s r.1):=by
 refine rG J 17 func32 Z (λa=>sg (Wa (lr (Wm (bS hm λj z hm=>?_)))))
 refine VE (eD a (Cr (Qb (Qb Qz)) Cn) call66 (λO=>Ed O c2 ⟨67,#[],#[],Z,call67,λW x vs r hs M hm=>by obtain ⟨P,rfl,y⟩:=M; obtain ⟨_,g,i⟩:=y; cases g; exact (Gb i hm).mN⟩ z) ?_)
 rintro _ v7 a1 L9 a u h ⟨q,t,rfl,k⟩
 obtain rfl:=t.symm
 refine Wa (lr (Wm (Wn (Wf Us (VB a Mh Z Z bK (Wm (V (mP dH Z k) (Wi Z (Wn (Wf Us (VO (lZ (vI (wi0 .i64 (T+(j.length:Int)))) (tz qx qR qy q0 q1 q2 q3 q4 q5 q6 q7 qi Y a4 U d (wi0 .i64 (T+(j.length:Int)))) a Z Z dn (vM _ (wi0 .i64 (T+(j.length:Int)))) nb Z (λd3 a=>?_)))))))))))))
 refine lr (Wm (Wa (lt ?_)))
 obtain rfl:=sj hm
 exact ma (v:=q) Z Z ⟨_,_,_,Z,a.mB (Kb (Kb Sn)),u,h,ST.lG a (mJ.mem (Kb (Kb Sn))),q,Z,Z,k⟩
set_option maxHeartbeats 4000000 in
theorem uT {K I D Y j:Int} {T:Bool} {i k:Int} {t:Value} {r:((List (List Int))×Bool×Int×Int×Int×(List Int)×Int)} (h0:oa qe ((qh,Ob (tz qx qR qy q0 q1 q2 q3 q4 q5 q6 q7 qi Y j T i k) 101)::((qi,Ob (po qf qg qb qc qd K I q8 D) 139)::[])) qa) (a2:Sl lU 15 qe q0 qx.lm.lK) (a4:Sl mH 8 qe q1 qx.lm.mi) (a5:Sl (Pl lj) 9 qe q2 qx.lD) (b0:Sl (Pl lj) 9 qe q3 qx.Shown) (a8:Sl (Pl lp) 2 qe q4 qx.lL) (a9:Sl (Pl lp) 2 qe q5 qx.me) (c1:Sl lx 5 qe q6 qy.Kids) (d0:pV nh qe q7 qD) (b6:Sl (Pl (lJ .u8)) 1 qe q8 ql) (z:Sl (Pl lp) 2 qe q9 qH.nX) (y:Sl mR 10 qe t qH.nm) (hm:oy qx qR qy qD qf qg qb qc qd K I ql D Y j T i k qH=some r) :
  my false pg0 29 [vP qh,vA [vI qH.Kind,vI qH.ny,vI qH.E,vS qH.Name,q9,t]] qa qe ((qh,Ob (tz qx qR qy q0 q1 q2 q3 q4 q5 q6 q7 qi Y j T i k) 101)::((qi,Ob (po qf qg qb qc qd K I q8 D) 139)::[])) (λv L1 μ1=>∃u x,v=u∧L1=((qh,Ob (tz qx qR qy q0 q1 q2 q3 q4 q5 q6 q7 qi Y j T i r.2.2.2.2.2.2) 101)::((qi,Ob (po r.2.1 qg r.2.2.1 qc qd r.2.2.2.1 r.2.2.2.2.1 x D) 139)::[]))∧Sl (wo (lJ .u8) 1) 1 μ1 u r.1∧Sl (Pl (lJ .u8)) 1 μ1 x r.2.2.2.2.2.1):=by
 refine rG h0 20 func29 Z (λa=>sg ?_)
 obtain ⟨A1,c2,rfl⟩:=z.form
 obtain ⟨A3,M,rfl⟩:=y.form
 refine VE (mA a Z (λW6 b5 a=>Wa (ln (lH ?_))))
 have a:=a.drew
 have d:=a.has.ll (Kb (Kb Sn))
 refine mF d lV (X 0 Z d (lz Z) (X 1 Z d (lX Z) (X 2 Z d (ly EY Z) (XH 3 Z d (λ_ q=>lq Z (lA q (Mt Mh) Z lf)) (XH 4 Z d (λ_ q=>lq Z (lC q Mh (C6 qH.Kind qH.ny qH.E qH.Name A1 qH.nX.length c2 A3 qH.nm.length M) Z dv bR)) (bS hm λa3 e2 hm=>?_))))))
 refine XE 5 Z (eD a (Cb (Pb (Pb Pz)) Cn) call64 (λs=>LZ s mv mv mv e2) ?_)
 rintro _ f6 f9 f0 a Q g ⟨f8,d4,P,rfl,d1,d2⟩
 obtain rfl:=P.symm
 have a:=a.perm (Tb Tn)
 have d:=a.has.nx Q (Db (Kb (Kb Sn)))
 refine ⟨d,X 6 Z d (lz Z) (X 7 Z d (pA Z Z) (X 8 Z d (pA Z Z) (X 9 Z d (nB Z) (X 10 Z d (nB Z) (mG kr (lE ?_))))))⟩
 have a:=a.ll (Kb (Db St))
 refine sg (Wm (Wm ?_))
 obtain ⟨J,O,rfl⟩:=d1.form
 let a0:Value:= .slice J a3.1.length O
 refine VE (mn (cs:=#[a0]) a (nw Z) (nU dH dA fL) λf3 d3 a=>bS hm λf5 e3 hm=>?_)
 refine VE (eD a (Cb (Pb (Pb Pz)) (Cb (Pb Pz) (Cs Pz Cn))) call32 (λs=>yF s mv mv mv mv mv mv mv mv mv (mX.lit Ii (l:=[a3.1]) (.cons (ys:=[a0]) ⟨a0,Z,d1⟩ .nil) Z nb Z) e3) ?_)
 rintro _ f7 g0 f1 a W h ⟨d5,U,rfl,e4⟩
 obtain rfl:=U.symm
 have a:=a.perm (Tb (Tb Tn))
 refine Wa (lt ?_)
 obtain rfl:=sj hm
 exact ma (v:=d5) Z Z ⟨_,_,_,Z,a.mB (Kb (Kb Sn)),Q.trans W,g.trans h,ST.lG a (mJ.mem (Kb (Kb Sn))),d5,d4,Z,Z,e4,mv⟩
set_option maxHeartbeats 4000000 in
theorem Gp {J H I T s:Int} {Q:Bool} {U Y:Int} {r:((List (List Int))×Bool×Int×Int×Int×(List Int)×Int)} (h0:oa qe ((qh,Ob (tz qx qR qy q0 q1 q2 q3 q4 q5 q6 q7 qi T s Q U Y) 101)::((qi,Ob (po qf qg qb qc qd J H q8 I) 139)::[])) qa) (a7:Sl lU 15 qe q0 qx.lm.lK) (a8:Sl mH 8 qe q1 qx.lm.mi) (a9:Sl (Pl lj) 9 qe q2 qx.lD) (b4:Sl (Pl lj) 9 qe q3 qx.Shown) (b0:Sl (Pl lp) 2 qe q4 qx.lL) (b3:Sl (Pl lp) 2 qe q5 qx.me) (b7:Sl lx 5 qe q6 qy.Kids) (c7:pV nh qe q7 qD) (a2:Sl (Pl (lJ .u8)) 1 qe q8 ql) (hm:vZ qx qR qy qD qf qg qb qc qd J H ql I T s Q U Y=some r) :
  my false pg0 9 [vP qh] qa qe ((qh,Ob (tz qx qR qy q0 q1 q2 q3 q4 q5 q6 q7 qi T s Q U Y) 101)::((qi,Ob (po qf qg qb qc qd J H q8 I) 139)::[])) (λv L1 μ1=>∃y1 y3,v=y1∧L1=((qh,Ob (tz qx qR qy q0 q1 q2 q3 q4 q5 q6 q7 qi T s Q U r.2.2.2.2.2.2) 101)::((qi,Ob (po r.2.1 qg r.2.2.1 qc qd r.2.2.2.1 r.2.2.2.2.1 y3 I) 139)::[]))∧Sl (wo (lJ .u8) 1) 1 μ1 y1 r.1∧Sl (Pl (lJ .u8)) 1 μ1 y3 r.2.2.2.2.2.1):=by
 let b8:=((po qf qg qb qc qd J H q8 I):Array Value)
 let z:=((tz qx qR qy q0 q1 q2 q3 q4 q5 q6 q7 qi T s Q U Y):Array Value)
 let d4:=(qh,oC z 101)::((qi,oC b8 139)::[])
 refine rG h0 42 func9 Z (λa=>sg (Wa (lS (Wm (V (ox jm Z Z) (Wm (Vg Z Z (lz Z) (Vg Z Z (lX Z) (Vg Z Z (ly AN Z) ?_)))))))))
 refine Vg Z Z (ly FU Z) (Vg Z Z (lq Z (lA a.has Mh Z fe)) (V (lN Z Z) (Wm (LJ hm (λd2 E W=>∃u c9,lM qe u∧Lo (keys d4) qa qe u∧ST false (keys d4) qa W u ((qh,oC z 101)::((qi,oC b8 139)::c9))∧E 0=vP qh∧E 20=vB d2) 8 ?_ λd2 k c4=>?_))))
 ·rintro f9 E W ⟨u,c9,a0,i,a,M,e2⟩ d7
  refine Wh e2 (LJ d7 (λd1 E W=>∃d0,ST false (keys d4) qa W u ((qh,oC z 101)::((qi,oC b8 139)::d0))∧E 0=vP qh∧E 27=vB d1) 6 ?_ λd1 t c3=>?_)
  ·rintro g0 E W ⟨d0,a,O,e3⟩ j
   refine ln (CI j e3 (λd6 j=>?_) λd6 j=>?_)
   ·refine sg (Wa (lt (mj ?_)))
    obtain rfl:=sj j
    exact ma (v:=vN) Z Z ⟨_,_,_,Z,a.mB (Kb (Kb Sn)),a0,i,ST.lG a (mJ.mem (Kb (Kb Sn))),vN,q8,Z,Z,Sl.nil _ _ _,mv⟩
   refine kn (lH ?_)
   have a:=a.drew
   have d:=a.has.ll Sn
   have g:=a.has.ll (Kb Sn)
   refine rW 13 d g lV (nu 0 Z d g (lz O) (nu 1 Z d g (lz O) (nu 2 Z d g (lX Z) (nu 3 Z d g (ly Ea Z) (nu 4 Z d g (ly Bl Z) (nu 5 Z d g (ly RB Z) (xh 6 Z kr (.inl Z) Z dc (λ_ _ h=>⟨h.1,uk br h.2⟩) ⟨d,λ_=>g⟩ (λl W q hs=>have P:=(hs.2 (q.Sa 13 [12,6] kr Z)); lq Z (lA P Mh Z cA)) (nu 7 Z d g (lz O) (nu 8 Z d g (lX Z) (nu 9 Z d g (ly AN Z) (nu 10 Z d g (ly La Z) (xh 11 Z kr (.inl Z) Z dc (λ_ _ h=>⟨h.1,uk br h.2⟩) ⟨d,λ_=>g⟩ (λl W q hs=>have P:=(hs.2 (q.Sa 13 [12,11] kr Z)); lq Z (lA P Mh Z bK)) (nu 12 Z d g (mW (v:=vA [vI 1,vI qR.ny,vI 0,vS qx.lm.Name,vN,vN]) (I5 Z Z Z) (mz cC bO (Be _ bO) kr)) (bS j λf5 d8 j=>?_))))))))))))))
   refine XE 13 Z (eD a (Cb Pz (Cb Pz Cn)) call29 (λhh=>uT hh mv mv mv mv mv mv mv mv mv (Sl.nil _ _ _) (Sl.nil _ _ _) d8) ?_)
   rintro _ f7 g1 f1 a c2 x ⟨d3,e6,c1,rfl,e0,e1⟩
   obtain rfl:=c1.symm
   have a:=a.perm (Tb (Tb Tn))
   have d:=a.has.nx c2 Sn
   refine ⟨⟨d,λh=>tC kr h⟩,xh 14 Z kr (.inl Z) Z dc (λ_ _ h=>⟨h.1,uk br h.2⟩) ⟨d,λh=>tC kr h⟩ (λ_ _ _ _=>nB Z) (mG kr (lE (lO ?_)))⟩
   obtain rfl:=sj j
   exact ma (v:=d3) Z Z ⟨_,_,_,Z,a.mB (Kb (Kb Sn)),a0.trans c2,i.trans x,ST.lG a (mJ.mem (Kb (Kb Sn))),d3,e6,Z,Z,e0,e1⟩
  refine bC t (λa3 t=>?_) (λa3 t=>?_)
  ·refine un a3 (un a3 (un a3 (un a3 (un a3 (V (lQ (cB a3) Z) ?_)))))
   obtain rfl:=sj t
   exact c3 _ _ ⟨_,a.ll,M,Z⟩
  refine ug a3 (lz M) (ug a3 (lX Z) (ug a3 (ly Ly Z) (ug a3 (lq Z (lA a.has Mh Z bK)) (ug a3 (mL Z Z Z) (V (lN (cB a3) Z) ?_)))))
  obtain rfl:=sj t
  exact c3 _ _ ⟨_,a.ll,M,Z⟩
 refine bC k (λa4 k=>?_) (λa4 k=>?_)
 ·refine un a4 (un a4 (un a4 (un a4 (un a4 (un a4 (un a4 (V (lQ (cB a4) Z) ?_)))))))
  obtain rfl:=sj k
  exact c4 _ _ ⟨qe,_,lM.refl _,Lo.refl,a.ll,Z,Z⟩
 refine ug a4 (lz Z) (ug a4 (lX Z) (ug a4 (ly EY Z) (ug a4 (lq Z (lA a.has Mh Z lf)) (bS k λf6 d9 k=>tw a4 (oG a call28 (na.mN (EH mv (At.of (a.at_ (Mt Mh)) _ Z) d9)) λf4 f8 e8 f2 a c8 y d5=>ug a4 (sf aZ Z d5) (ug a4 (mL Z Z Z) (V (lN (cB a4) Z) ?_)))))))
 obtain rfl:=sj k
 exact c4 _ _ ⟨e8,_,c8,y,a.ll (Dr St),Z,Z⟩
theorem NK {u j z:Int} {r:Bool} (G:Sl (Pl (lJ .u8)) 1 (hp qa) q0 ql) (D:At (hp qa) (vP qh) [vB qf,vB qg,vI qb,vI qc,vI qd,vI u,vI j,q0,vI z]) (hm:BP qf qg qb qc qd u j ql z=some r) :
  mo true pg0 65 [vP qh] qa (vB r):=by
 refine cG 11 func65 Z (λa=>sg (Wa (lr (Wm (V (Bj gK Z Z) (Wm (Vg Z Z (lz Z) (Vg Z Z (lX Z) (VgQ Z Z (pM [vB qf] GJ Z D Z) λI H=>Vg Z Z (lq Z (om a.has (y:=vB qf) H fe)) ?_)))))))))
 exact V (lQ Z Z) (Wa (lt (rQ hm a)))
theorem Le {j g x:Int} {r:Bool} (H:oa qe ((qh,Ob (po qf qg qb qc qd j g q0 x) 139)::[]) qa) (B:Sl (Pl (lJ .u8)) 1 qe q0 ql) (hm:FW qf qg qb qc qd j g ql x=some r) :
  nt true pg0 72 [vP qh] qa ((qh,Ob (po qf qg qb qc qd j g q0 x) 139)::[]) (λv G W'=>v=vT []∧G=((qh,Ob (po qf r qb qc qd j g q0 x) 139)::[])):=by
 refine B6 H 7 func72 Z (λa=>sg (Wm (V (Bj gK Z Z) (ln (xz Z (lI (Wm (Wn (Wf Lk (VO (lZ (vB true) (po qf true qb qc qd j g q0 x) a Z Z ij (UO true) nb Z (λI a=>mh (rI ?_)))))))))))))
 cases sj hm
 exact pF Z ⟨_,_,Z,a.mB (Kb Sn),Z,Z⟩
set_option maxHeartbeats 4000000 in
theorem sZ {I D N a0 g:Int} {Q:Bool} {T U d a2:Int} {r:(Bool×Int×Int)} (q:oa qe ((qh,Ob (tz qx qR qy q0 q1 q2 q3 q4 q5 q6 q7 qi a0 g Q T U) 101)::((qi,Ob (po qf qg qb qc qd I D q8 N) 139)::[])) qa) (a5:Sl lU 15 qe q0 qx.lm.lK) (x:Sl mH 8 qe q1 qx.lm.mi) (a9:Sl (Pl lj) 9 qe q2 qx.lD) (J:Sl (Pl lj) 9 qe q3 qx.Shown) (y:Sl (Pl lp) 2 qe q4 qx.lL) (z:Sl (Pl lp) 2 qe q5 qx.me) (M:Sl lx 5 qe q6 qy.Kids) (c1:pV nh qe q7 qD) (a3:Sl (Pl (lJ .u8)) 1 qe q8 ql) (hm:pL qx qR qy qD qf qg qb qc qd I D ql N a0 g Q T U d a2=some r) :
  my true pg0 37 [vP qh,vI d,vI a2] qa qe ((qh,Ob (tz qx qR qy q0 q1 q2 q3 q4 q5 q6 q7 qi a0 g Q T U) 101)::((qi,Ob (po qf qg qb qc qd I D q8 N) 139)::[])) (λv L1 μ1=>v=vT []∧L1=((qh,Ob (tz qx qR qy q0 q1 q2 q3 q4 q5 q6 q7 qi r.2.1 r.2.2 Q T U) 101)::((qi,Ob (po qf r.1 qb qc qd I D q8 N) 139)::[]))):=by
 refine rG q 19 func37 Z (λa=>sg (Wm (Wm (Wm (Wm (Wn (Wf Ly (VO (lZ (vI d) (tz qx qR qy q0 q1 q2 q3 q4 q5 q6 q7 qi d g Q T U) a Z Z dn (vM _ d) nb Z (λW1 a=>Wn (Wf aae (VO (lZ (vI a2) (tz qx qR qy q0 q1 q2 q3 q4 q5 q6 q7 qi d a2 Q T U) a Z Z jI (vM _ a2) nb Z (λW2 a=>ln ?_))))))))))))))
 refine lI (Wm (Wn (Wf EY (VB a Mh Z Z lf (bS hm λP c2 hm=>?_)))))
 refine VE (eM a (Cb (Pb Pz) Cn) call72 (λs t=>Le s mv c2) ?_)
 rintro _ v9 u O a k h i ⟨j,rfl⟩
 cases j
 have a:=a.perm (Tb Tn)
 refine mh (rI ?_)
 cases sj hm
 exact pF Z ⟨_,_,_,Z,a.mB (Sb (Pb Pz) (Kb Sn)),k,h,ST.lG a (mJ.mem (Sb (Pb Pz) (Kb Sn))),Z,Z⟩
set_option maxHeartbeats 4000000 in
theorem pX {K J G U i:Int} {Q:Bool} {T t s:Int} {r:((List (List Int))×Bool×Bool×Int×Int×Int×(List Int)×Int×Int×Int)} (h0:oa qe ((qh,Ob (tz qx qR qy q0 q1 q2 q3 q4 q5 q6 q7 qi U i Q T t) 101)::((qi,Ob (po qf qg qb qc qd K J q8 G) 139)::[])) qa) (Y:Sl lU 15 qe q0 qx.lm.lK) (a0:Sl mH 8 qe q1 qx.lm.mi) (a4:Sl (Pl lj) 9 qe q2 qx.lD) (a9:Sl (Pl lj) 9 qe q3 qx.Shown) (a7:Sl (Pl lp) 2 qe q4 qx.lL) (a8:Sl (Pl lp) 2 qe q5 qx.me) (b3:Sl lx 5 qe q6 qy.Kids) (c0:pV nh qe q7 qD) (a3:Sl (Pl (lJ .u8)) 1 qe q8 ql) (hm:nA qx qR qy qD qf qg qb qc qd K J ql G U i Q T t s=some r) :
  my false pg0 30 [vP qh,vI s] qa qe ((qh,Ob (tz qx qR qy q0 q1 q2 q3 q4 q5 q6 q7 qi U i Q T t) 101)::((qi,Ob (po qf qg qb qc qd K J q8 G) 139)::[])) (λv L1 μ1=>∃I M,v=I∧L1=((qh,Ob (tz qx qR qy q0 q1 q2 q3 q4 q5 q6 q7 qi r.2.2.2.2.2.2.2.1 r.2.2.2.2.2.2.2.2.1 Q T r.2.2.2.2.2.2.2.2.2) 101)::((qi,Ob (po r.2.1 r.2.2.1 r.2.2.2.1 qc qd r.2.2.2.2.1 r.2.2.2.2.2.1 M G) 139)::[]))∧Sl (wo (lJ .u8) 1) 1 μ1 I r.1∧Sl (Pl (lJ .u8)) 1 μ1 M r.2.2.2.2.2.2.1):=by
 let y:=(qh,Ob (tz qx qR qy q0 q1 q2 q3 q4 q5 q6 q7 qi U i Q T t) 101)::((qi,Ob (po qf qg qb qc qd K J q8 G) 139)::[])
 refine rG h0 19 func30 Z (λa=>sg (Wa (lr (Wa (ln (lH (CJ hm (λg E W=>∃c1 c2 h z,lM qe h∧Lo (keys y) qa qe h∧ST false (keys y) qa W h ((qh,Ob (tz qx qR qy q0 q1 q2 q3 q4 q5 q6 q7 qi U i Q T g.2.1) 101)::((qi,Ob (po g.2.2.1 qg g.2.2.2.1 qc qd g.2.2.2.2.1 g.2.2.2.2.2.1 c2 G) 139)::z))∧E 0=vP qh∧E 1=vI s∧E 5=c1∧Sl (wo (lJ .u8) 1) 1 h c1 g.1∧Sl (Pl (lJ .u8)) 1 h c2 g.2.2.2.2.2.2) (λg d=>?_) ?_)))))))
 ·refine sg (Wm (Wn (Wf EY (VB a Mh Z Z lf (bS d λg3 d4 d=>VE (Eg a call65 (mo.mN (NK mv (At.of (a.at_ (Mt Mh)) _ Z) d4)) λf9 a=>ln (CI d Z (λd2 d=>?_) λd2 d=>?_)))))))
  ·refine lI (Wm (Wm (V (mW (v:=vA [vI 5,vI 0,vI s,vS zS,vN,vN]) (pZ Z Z) (mz cC bO (Be _ bO) kr)) (bS d λg4 d5 d=>?_))))
   refine VE (eD a (Cb Pz (Cb Pz Cn)) call29 (λx=>uT x mv mv mv mv mv mv mv mv mv (Sl.nil _ _ _) (Sl.nil _ _ _) d5) ?_)
   rintro _ g8 f3 f7 a c8 q ⟨f0,f1,c6,rfl,d7,d8⟩
   obtain rfl:=c6.symm
   have a:=a.perm (Tb (Tb Tn))
   refine Wa (ln ?_)
   obtain rfl:=sj d
   exact ⟨f0,f1,f3,_,c8,q,a.ll,Z,Z,Z,d7,d8⟩
  refine kn ?_
  obtain rfl:=sj d
  exact ⟨vN,q8,qe,_,lM.refl _,Lo.refl,a.ll,Z,Z,Z,Sl.nil _ _ _,a3⟩
 rintro ⟨g1,e3,e4,e5,e6,e7,e2⟩ E W ⟨c1,c2,h,z,a5,j,a,d9,e0,e1,d6,c7⟩ u
 refine sg (Wh d9 (Wh e0 (bS u λg2 d3 u=>?_)))
 refine VE (eD a (Cb Pz (Cb Pz Cn)) call37 (λx=>my.mN (sZ x mv mv mv mv mv mv mv mv mv d3)) ?_)
 rintro _ g7 g9 f6 a O k ⟨P,rfl⟩
 obtain rfl:=P.symm
 have a:=a.perm (Tb (Tb Tn))
 refine lr (Wh e1 (Wa (lt ?_)))
 obtain rfl:=sj u
 exact ma (v:=c1) Z Z ⟨_,_,_,Z,a.mB (Kb (Kb Sn)),a5.trans O,j.trans k,ST.lG a (mJ.mem (Kb (Kb Sn))),c1,c2,Z,Z,mv,mv⟩
set_option maxHeartbeats 4000000 in
theorem FV {j y x:Int} {r:((List Int)×Bool×Int×Int)} (s:oa qe ((qh,Ob (po qf qg qb qc qd j y q0 x) 139)::[]) qa) (G:Sl (Pl (lJ .u8)) 1 qe q0 ql) (hm:xK qf qg qb qc qd j y ql x=some r) :
  my true pg0 34 [vP qh] qa qe ((qh,Ob (po qf qg qb qc qd j y q0 x) 139)::[]) (λv L1 μ1=>∃i,v=vT [i,vB r.2.1]∧L1=((qh,Ob (po qf qg qb qc qd r.2.2.1 r.2.2.2 q0 x) 139)::[])∧Sl (Pl (lJ .u8)) 1 μ1 i r.1):=by
 let h:=((po qf qg qb qc qd j y q0 x):Array Value)
 refine rG s 33 func34 Z (λa=>sg (Wa (Wa (lS (Wm (V (ox gK Z Z) (Wm (Vg Z Z (lz Z) (Vg Z Z (lX Z) ?_)))))))))
 refine Vg Z Z (ly Lr Z) (Vg Z Z (lq Z (lA a.has Mh Z dq)) (Vg Z Z (mP aZ Z G) (Vg Z Z (mL Z Z Z) (V (lN Z Z) (Wm (LJ hm (λQ E W=>∃L3,ST true (keys ((qh,oC h 139)::[])) qa W qe ((qh,oC h 139)::L3)∧E 0=vP qh∧E 20=vB Q) 6 ?_ λQ H J=>?_))))))
 ·rintro x2 E W ⟨L3,a,U,q⟩ I
  refine ln (CI I q (λa2 I=>?_) λa2 I=>?_)
  ·refine sg (Wa (Wa (lt (mj ?_))))
   cases sj I
   exact rq (v:=vN) (u:=vB false) Z Z Z ⟨_,_,_,Z,a.mB (Kb Sn),lM.refl _,Lo.refl,ST.lG a (mJ.mem (Kb Sn)),vN,Z,Z,Sl.nil _ _ _⟩
  refine kg (Wh U (Wn (Wf Lu (VB a Mh Z Z bK (Wi Z (Wn (Wf Lu (VO (lZ (vI (wi0 .i64 (j-1))) (po qf qg qb qc qd (wi0 .i64 (j-1)) y q0 x) a Z Z dn (vM _ (wi0 .i64 (j-1))) nb Z (λW8 a=>ln (lH ?_)))))))))))
  refine lI (Wh U (Wn (Wf IC (VO (lZ (vI 0) (po qf qg qb qc qd (wi0 .i64 (j-1)) 0 q0 x) a Z Z dn (vM _ 0) nb Z (λW9 a=>lr (Wh U (bS I λO k I=>VE (oG a call28 (EH mv (At.of (a.at_ Mh) _ Z) k) λa9 T P t a K d Y=>Wa (Wa (mh ?_)))))))))))
  refine lE (lO ?_)
  cases sj I
  refine rq (v:=T) (u:=vB true) Z Z Z ?_
  obtain ⟨b2,a,M,g,a0⟩:=ST.xM a Y (λ_=>rfl)
  exact ⟨_,_,_,Z,a.mB (Kb Sn),K.trans M,d.trans g,ST.lG a (mJ.mem (Kb Sn)),T,Z,Z,a0⟩
 refine bC H (λz H=>?_) (λz H=>?_)
 ·refine un z (un z (un z (un z (un z (V (lQ (cB z) Z) ?_)))))
  cases sj H
  exact J _ _ ⟨_,a.ll,Z,Z⟩
 refine ug z (lz Z) (ug z (lX Z) (ug z (ly Lu Z) (ug z (lq Z (lA a.has Mh Z bK)) (ug z (mL Z Z Z) (V (lN (cB z) Z) ?_)))))
 cases sj H
 exact J _ _ ⟨_,a.ll,Z,Z⟩
set_option maxHeartbeats 4000000 in
theorem LX {y c z:Int} {r:((List Int)×Int×Int×Int)} (h0:oa qe ((qh,Ob (po qf qg qb qc qd y c q0 z) 139)::[]) qa) (J:Sl (Pl (lJ .u8)) 1 qe q0 ql) (hm:De qf qg qb qc qd y c ql z=some r) :
  my true pg0 31 [vP qh] qa qe ((qh,Ob (po qf qg qb qc qd y c q0 z) 139)::[]) (λv L1 μ1=>∃t,v=vT [t,vI r.2.1]∧L1=((qh,Ob (po qf qg qb qc qd r.2.2.1 r.2.2.2 q0 z) 139)::[])∧Sl (Pl (lJ .u8)) 1 μ1 t r.1):=by
 let a3:=((po qf qg qb qc qd y c q0 z):Array Value)
 refine rG h0 58 func31 Z (λa=>sg (Wa (Wa (ln (lH (bg (Wm (V (ox gK Z Z) (Wa (mh ?_))))))))))
 refine lE (oV Z (sg (Wm (Wn (Wf Lk (VB a Mh Z Z fe (Wm (LJ hm (λs E W=>∃L3,ST true (keys ((qh,oC a3 139)::[])) qa W qe ((qh,oC a3 139)::L3)∧E 0=vP qh∧E 19=vB s) 5 ?_ λs M Y=>?_))))))))
 ·rintro x2 E W ⟨L3,a,q,e6⟩ b3
  refine Wh e6 (LJ b3 (λa0 E W=>∃L9,ST true (keys ((qh,oC a3 139)::[])) qa W qe ((qh,oC a3 139)::L9)∧E 0=vP qh∧E 27=vB a0) 7 ?_ λa0 K U=>?_)
  ·rintro x8 E W ⟨L9,a,N,P⟩ B
   refine Wg P (ln (CI B Z (λa5 B=>?_) λa5 B=>?_))
   ·refine sg (Wa (Wa (lt (nz (mj ?_)))))
    cases sj B
    exact rq (v:=vN) (u:=vI 0) Z Z Z ⟨_,_,_,Z,a.mB (Kb Sn),lM.refl _,Lo.refl,ST.lG a (mJ.mem (Kb Sn)),vN,Z,Z,Sl.nil _ _ _⟩
   refine mU (mx (lE (lH ?_)))
   have a:=a.drew
   have d:=a.has.ll Sn
   have g:=a.has.ll (Kb Sn)
   refine rW 13 d g lV (nu 0 Z d g (lz N) (nu 1 Z d g (lz N) (nu 2 Z d g (lX Z) (nu 3 Z d g (ly IC Z) (BU 4 Z d g (λj=>lq Z (lA j Mh Z bK)) (nu 5 Z d g (mL Z Z Z) (nu 6 Z d g (lz N) (nu 7 Z d g (lX Z) (nu 8 Z d g (ly TC Z) (BU 9 Z d g (λj=>lq Z (lA j Mh Z bK)) (nu 10 Z d g (Om (k:=.i64) Z Z) (nu 11 Z d g (lX Z) (nu 12 Z d g (ly IC Z) (XO 13 Z (lZ (vI (if qc < (wi0 .i64 (c+1)) then qc else wi0 .i64 (c+1))) (po qf qg qb qc qd y (if qc < (wi0 .i64 (c+1)) then qc else wi0 .i64 (c+1)) q0 z) a Z Z dn (vM _ (if qc < (wi0 .i64 (c+1)) then qc else wi0 .i64 (c+1))) nb Z (λc1 a=>?_))))))))))))))))
   have d:=a.has.ll Sn
   refine ⟨⟨d,λh=>tC kr h⟩,mG kr (lE (lH (lH ?_)))⟩
   have a:=a.drew
   have d:=a.has.ll (Kb Sn)
   refine mF d lV (X 0 Z d (lz N) (X 1 Z d (lX Z) (X 2 Z d (ly IC Z) (XH 3 Z d (λ_ j=>lq Z (lA j Mh Z bK)) (X 4 Z d (lz N) (X 5 Z d (lX Z) (X 6 Z d (ly TC Z) (XH 7 Z d (λ_ j=>lq Z (lA j Mh Z bK)) (X 8 Z d (mL Z Z Z) (mG kr (lE (CI B Z (λx B=>?_) λx B=>?_))))))))))))
   ·refine sg (Wa (Wa (lt (mj ?_))))
    cases sj B
    exact rq (v:=vN) (u:=vI 0) Z Z Z ⟨_,_,_,Z,a.mB (Kb Sn),lM.refl _,Lo.refl,ST.lG a (mJ.mem (Kb Sn)),vN,Z,Z,Sl.nil _ _ _⟩
   refine kg (Wh N (bS B λc3 O B=>?_))
   refine VE (eD a (Cb Pz Cn) call34 (λhh=>FV hh mv O) ?_)
   rintro _ c4 c5 c0 a T i ⟨a2,Q,rfl,a9⟩
   cases Q
   have a:=a.perm (Tb Tn)
   refine Wm (Wx Z (Wx Z (Wa (Wa (lS (Wm (V (nK Z) (ln (CI B Z (λI B=>?_) λI B=>?_)))))))))
   ·refine sg (Wa (Wa (lt (mj ?_))))
    cases sj B
    exact rq (v:=vN) (u:=vI 60) Z Z Z ⟨_,_,_,Z,a.mB (Kb Sn),T,i,ST.lG a (mJ.mem (Kb Sn)),vN,Z,Z,Sl.nil _ _ _⟩
   refine kg (Wm (Wa (Wa (lt ?_))))
   cases sj B
   exact rq (v:=a2) (u:=vI 0) Z Z Z ⟨_,_,_,Z,a.mB (Kb Sn),T,i,ST.lG a (mJ.mem (Kb Sn)),a2,Z,Z,a9⟩
  refine bC K (λG K=>?_) (λG K=>?_)
  ·refine un G (un G (un G (un G (un G (un G (V (lQ (cB G) Z) ?_))))))
   cases sj K
   exact U _ _ ⟨_,a.ll,q,Z⟩
  refine ug G (lz q) (ug G (lX Z) (ug G (ly Lr Z) (ug G (lq Z (lA a.has Mh Z dq)) (ug G (mP aZ Z J) (ug G (mL Z Z Z) (V (lN (cB G) Z) ?_))))))
  cases sj K
  exact U _ _ ⟨_,a.ll,q,Z⟩
 refine bC M (λH M=>?_) (λH M=>?_)
 ·refine un H (un H (un H (un H (V (lQ (cB H) Z) ?_))))
  cases sj M
  exact Y _ _ ⟨_,a.ll,Z,Z⟩
 refine ug H (lz Z) (ug H (lX Z) (ug H (ly GJ Z) (ug H (lq Z (lA a.has Mh Z fe)) (V (lN (cB H) Z) ?_))))
 cases sj M
 exact Y _ _ ⟨_,a.ll,Z,Z⟩
set_option maxHeartbeats 4000000 in
theorem Hg (b2:Nat) (j:mD) (c g i y k x:Value) (a:pj) (N:Formula) (I P:Value) (b3:Option mc) (G:Nat) (M B:Bool) (K u z a1 Zq:Int) (t:Value) (Q:List Int) (H a3 b1:Int) (a0:Bool) (U a7:Int) (r:((List (List Int))×Bool×Bool×Int×Int×Int×(List Int)×Int×Int×Int×Int)) (w:World) (h0:oa qe ((b2,Ob (tz j a N c g i y k x I P G a3 b1 a0 U a7) 101)::((G,Ob (po M B K u z a1 Zq t H) 139)::[])) w) (T:Sl lU 15 qe c j.lm.lK) (Y:Sl mH 8 qe g j.lm.mi) (a2:Sl (Pl lj) 9 qe i j.lD) (a6:Sl (Pl lj) 9 qe y j.Shown) (a4:Sl (Pl lp) 2 qe k j.lL) (a5:Sl (Pl lp) 2 qe x j.me) (a9:Sl lx 5 qe I N.Kids) (b4:pV nh qe P b3) (J:Sl (Pl (lJ .u8)) 1 qe t Q) (hm:wu j a N b3 M B K u z a1 Zq Q H a3 b1 a0 U a7=some r) :
  my false pg0 10 [vP b2] w qe ((b2,Ob (tz j a N c g i y k x I P G a3 b1 a0 U a7) 101)::((G,Ob (po M B K u z a1 Zq t H) 139)::[])) (λv L1 μ1=>∃y1 y3,v=y1∧L1=((b2,Ob (tz j a N c g i y k x I P G r.2.2.2.2.2.2.2.1 r.2.2.2.2.2.2.2.2.1 a0 r.2.2.2.2.2.2.2.2.2.1 r.2.2.2.2.2.2.2.2.2.2) 101)::((G,Ob (po r.2.1 r.2.2.1 r.2.2.2.1 u z r.2.2.2.2.1 r.2.2.2.2.2.1 y3 H) 139)::[]))∧Sl (wo (lJ .u8) 1) 1 μ1 y1 r.1∧Sl (Pl (lJ .u8)) 1 μ1 y3 r.2.2.2.2.2.2.1):=by
 refine rG h0 50 func10 Z (λd=>sg (Wa (lS (Wm (V (ox jm Z Z) (Wm (Vg Z Z (lz Z) (Vg Z Z (lX Z) (Vg Z Z (ly Ly Z) ?_)))))))))
 refine Vg Z Z (lq Z (lA d.has Mh Z bK)) (Vg Z Z (mL Z Z Z) (V (lN Z Z) (ln (CI hm Z (λe4 hm=>?_) λe4 hm=>?_))))
 ·refine sg (Wa (lt (mj ?_)))
  have h:=sj hm
  subst h
  exact ma (v:=vN) Z Z ⟨_,_,_,Z,d.mB (Kb (Kb Sn)),lM.refl _,Lo.refl,ST.lG d (mJ.mem (Kb (Kb Sn))),vN,t,Z,Z,Sl.nil _ _ _,J⟩
 refine kS (Wm (Wn (Wf OL (VB d Mh Z Z bK (Wi Z (Wn (Wf OL (VO (lZ (vI (wi0 .i64 (U+1))) (tz j a N c g i y k x I P G a3 b1 a0 (wi0 .i64 (U+1)) a7) d Z Z dn (vM _ (wi0 .i64 (U+1))) nb Z (λW2 d=>ln ?_))))))))))
 refine lH ?_
 have d:=d.drew
 have q:=d.has.ll (Kb Sn)
 refine mF q lV (X 0 Z q (lz Z) (X 1 Z q (lX Z) (X 2 Z q (ly OL Z) (XH 3 Z q (λ_ hS=>lq Z (lA hS Mh Z bK)) (X 4 Z q (lz Z) (X 5 Z q (lX Z) (X 6 Z q (ly AN Z) (X 7 Z q (ly W0 Z) (XH 8 Z q (λ_ hS=>lq Z (lA hS Mh Z bK)) (X 9 Z q (mL Z Z Z) (mG kr (lE (CI hm Z (λe5 hm=>?_) λe5 hm=>?_)))))))))))))
 ·refine sg (Wm (bS hm λr4 e6 hm=>?_))
  refine VE (eD d (Cb Pz (Cb Pz Cn)) call30 (λO=>pX O mv mv mv mv mv mv mv mv mv e6) ?_)
  rintro _ g4 ad f4 d d5 ab ⟨c7,e8,b9,rfl,d9,e0⟩
  have h:=b9.symm
  subst h
  have d:=d.perm (Tb (Tb Tn))
  refine Wa (lt (mj ?_))
  have h:=sj hm
  subst h
  exact ma (v:=c7) Z Z ⟨_,_,_,Z,d.mB (Kb (Kb Sn)),d5,ab,ST.lG d (mJ.mem (Kb (Kb Sn))),c7,e8,Z,Z,d9,e0⟩
 refine kg (Wm (Wn (Wf EY (VB d Mh Z Z lf (bS hm λb0 d6 hm=>?_)))))
 refine VE (eD d (Cb (Pb Pz) Cn) call31 (λO=>my.mN (LX O mv d6)) ?_)
 rintro _ g7 h2 f5 d D s ⟨h1,c0,rfl,c4⟩
 have h:=c0.symm
 subst h
 have d:=d.perm (Tb Tn)
 refine Wm (Wx Z (Wx Z (Wa (Wa (lS (Wm (Wi Z (ln (CI hm Z (λd4 hm=>?_) λd4 hm=>?_)))))))))
 ·refine sg (Wm (Wm (bS hm λg2 d7 hm=>?_)))
  refine VE (eD d (Cb (Pb Pz) (Cb Pz Cn)) call30 (λO=>pX O mv mv mv mv mv mv mv mv mv d7) ?_)
  rintro _ g8 h3 f6 d c5 W ⟨c8,f0,c1,rfl,e1,e2⟩
  have h:=c1.symm
  subst h
  have d:=d.perm (Tb (Tb Tn))
  refine Wa (lt (mj ?_))
  have h:=sj hm
  subst h
  exact ma (v:=c8) Z Z ⟨_,_,_,Z,d.mB (Kb (Kb Sn)),D.trans c5,s.trans W,ST.lG d (mJ.mem (Kb (Kb Sn))),c8,f0,Z,Z,e1,e2⟩
 refine kg (Wm (Wm ?_))
 obtain ⟨b6,b7,rfl⟩:=c4.form
 let b5:Value:= .slice b6 b0.1.length b7
 refine VE (mn (cs:=#[b5]) d (nw Z) (nU dH dA fL) λg0 c6 d=>bS hm λg3 d8 hm=>?_)
 refine VE (eD d (Cb (Pb (Pb Pz)) (Cb (Pb Pz) (Cs Pz Cn))) call32 (λO=>yF O mv mv mv mv mv mv mv mv mv (mX.lit Ii (l:=[b0.1]) (.cons (ys:=[b5]) ⟨b5,Z,c4⟩ .nil) Z nb Z) d8) ?_)
 rintro _ g9 h4 f7 d c3 aa ⟨c9,c2,rfl,e3⟩
 have h:=c2.symm
 subst h
 have d:=d.perm (Tb (Tb Tn))
 refine Wa (lt ?_)
 have h:=sj hm
 subst h
 exact ma (v:=c9) Z Z ⟨_,_,_,Z,d.mB (Kb (Kb Sn)),D.trans c3,s.trans aa,ST.lG d (mJ.mem (Kb (Kb Sn))),c9,t,Z,Z,e3,mv⟩
set_option maxHeartbeats 4000000 in
theorem Nj {u j B:Int} {r:(ow×Int×Bool×Int×Int)} (h0:oa qe ((qh,Ob (po qf qg qb qc qd u j q0 B) 139)::[]) qa) (b7:Sl (Pl (lJ .u8)) 1 qe q0 ql) (c3:Sl (Pl (lJ .u8)) 1 qe q1 qm) (hm:D1 qf qg qb qc qd u j ql B qm=some r) :
  my false pg0 33 [vP qh,q1] qa qe ((qh,Ob (po qf qg qb qc qd u j q0 B) 139)::[]) (λv L1 μ1=>∃y1 y3,v=vT [vA [vI r.1.Kind,vI r.1.ny,vI r.1.E,vS r.1.Name,y1,y3],vI r.2.1]∧L1=((qh,Ob (po r.2.2.1 qg r.2.2.2.1 qc qd u j q0 r.2.2.2.2) 139)::[])∧Sl (Pl lp) 2 μ1 y1 r.1.nX∧Sl mR 10 μ1 y3 r.1.nm):=by
 let q:=((po qf qg qb qc qd u j q0 B):Array Value)
 refine rG h0 68 func33 Z (λd=>sg (VE (lY d cC λW2 s d=>Wa (lr (Wm (bS hm λa d3 hm=>?_))))))
 let d4:Value:=vI a.2.1.E
 let i:Value:=vS a.2.1.Name
 let h:Value:=vI a.2.1.ny
 let c2:Value:=vI a.2.1.Kind
 refine VE (eD d (aT _) call48 (λhh=>ED hh mv d3) ?_ (L0:=[]))
 rintro _ v9 k e0 d U g ⟨f2,f3,Y,rfl,t,x⟩
 cases Y
 refine Wm (Wx Z (Wx Z (Wx Z (VE (lY d cC λe1 a0 d=>Wa ?_)))))
 obtain ⟨H,J,rfl⟩:=t.form
 let b8:Value:= .slice H a.2.1.nX.length J
 obtain ⟨I,K,rfl⟩:=x.form
 let c1:Value:= .slice I a.2.1.nm.length K
 let d5:=(#[c2,h,d4,i,b8,c1]:Array Value)
 let a9:Value:=vA [c2,h,d4,i,b8,c1]
 refine VO (lZ a9 (#[c2,h,d4,i,b8,c1]) d Z Z bR oc nb Z (λe2 d=>Wa (ln (lH (bg (Wm (V (ox gK Z Z) (Wm (Vg Z Z (lz Z) (Vg Z Z (mL Z Z Z) (V (lN Z Z) (Wa ?_))))))))))))
 refine ln (CI hm Z (λc4 hm=>?_) λc4 hm=>?_)
 ·refine sg (V (mW (v:=vA C4) pP (mz cC bO (Be _ bO) kr)) ?_)
  have d:=d.perm (Nb (Pb Pz) Nz)
  refine VO (FA C4.toArray d bR λe3 d=>Wa (ln ?_))
  have d:=d.ll (Kb (Db St))
  refine lO (nz (mj ?_))
  cases sj hm
  exact rf (v0:=vA C4) (v1:=vI 0) Z Z (lC d.has Mh C4 Z dv bR) Z ⟨_,_,_,Z,d.mB (Db (Kb Sn)),U,g,ST.lG d (mJ.mem (Db (Kb Sn))),vN,vN,Z,Z,Sl.nil _ _ _,Sl.nil _ _ _⟩
 refine sg (Wm (Wm (Wn (Wf E7 (VB d (Mt (Mt Mh)) Z Z bK (Wi Z (Wm (LJ hm (λc0 E W=>∃O,ST false (keys ((qh,oC q 139)::[])) qa W k ((a0,oC d5 79)::((s,Ol C4 79)::((qh,oC q 139)::O)))∧E 0=vP qh∧E 4=vP s∧E 6=vI a.1∧E 7=vP a0∧E 36=vB c0) 6 ?_ λc0 N a4=>?_))))))))
 ·rintro f0 E W ⟨O,d,a5,Q,b4,b5,d0⟩ c7
  refine Wh d0 (LJ c7 (λb9 E W=>∃P,ST false (keys ((qh,oC q 139)::[])) qa W k ((a0,oC d5 79)::((s,Ol C4 79)::((qh,oC q 139)::P)))∧E 0=vP qh∧E 4=vP s∧E 6=vI a.1∧E 7=vP a0∧E 43=vB b9) 6 ?_ λb9 M a3=>?_)
  ·rintro f1 E W ⟨P,d,a2,T,b6,d1,d2⟩ G
   refine Wg d2 (ln (CI G Z (λc5 G=>?_) λc5 G=>?_))
   ·refine sg (Wh a2 (Wh a2 (Wh b6 (Wn (Wf Ul ?_)))))
    have d:=d.perm (Nb (Pb (Pb Pz)) Nz)
    refine VO (lZ (vI a.1) (po qf qg qb qc qd u j q0 a.1) d Z Z dn (vM _ a.1) nb Z (λe4 d=>Wn (Wf GJ (VO (lZ (vB true) (po true qg qb qc qd u j q0 a.1) d Z Z ij (UO true) nb Z (λe5 d=>lr (Wh a2 (Wn (Wf E7 (VB d Mh Z Z bK (Wi Z (Wn (Wf E7 ?_)))))))))))))
    refine VO (lZ (vI (wi0 .i64 (qb+1))) (po true qg (wi0 .i64 (qb+1)) qc qd u j q0 a.1) d Z Z dn (vM _ (wi0 .i64 (qb+1))) nb Z (λe6 d=>lr (V (lq d1 (lC d.has (Mt Mh) [c2,h,d4,i,b8,c1] Z dv bR)) ?_)))
    have d:=d.perm (Nb (Pb (Pb Pz)) Nz)
    refine VO (lZ a9 (#[c2,h,d4,i,b8,c1]) d T Z bR oc nb Z (λe7 d=>Wa (ln ?_)))
    have d:=d.ll (Kb (Kb (Db St)))
    refine lO (nz (mj ?_))
    cases sj G
    exact rf (v0:=a9) (v1:=vI 1) Z T (lC d.has Mh [c2,h,d4,i,b8,c1] Z dv bR) Z ⟨_,_,_,Z,d.mB (Db (Kb Sn)),U,g,ST.lG d (mJ.mem (Db (Kb Sn))),b8,c1,Z,Z,t,x⟩
   refine sg (Wh b6 (Wh a2 (Wn (Wf Ul (VB d (Mt (Mt Mh)) Z Z bK (Wi Z (Wa (ln ?_))))))))
   have d:=d.ll (Db St)
   refine CI G Z (λc6 G=>?_) (λc6 G=>?_)
   ·refine sg (V (mW (v:=vA C4) pP (mz cC bO (Be _ bO) kr)) (VO (lZ (vA C4) C4.toArray d T Z bR oc nb Z (λe8 d=>Wa (lt (nz (mj ?_)))))))
    cases sj G
    exact rf (v0:=vA C4) (v1:=vI 2) Z T (lC d.has Mh C4 Z dv bR) Z ⟨_,_,_,Z,d.mB (Db (Kb Sn)),U,g,ST.lG d (mJ.mem (Db (Kb Sn))),vN,vN,Z,Z,Sl.nil _ _ _,Sl.nil _ _ _⟩
   refine mU (mx (lE (sg (V (mW (v:=vA C4) pP (mz cC bO (Be _ bO) kr)) (VO (lZ (vA C4) C4.toArray d T Z bR oc nb Z (λe9 d=>Wa (lt ?_))))))))
   cases sj G
   exact rf (v0:=vA C4) (v1:=vI 0) Z T (lC d.has Mh C4 Z dv bR) Z ⟨_,_,_,Z,d.mB (Db (Kb Sn)),U,g,ST.lG d (mJ.mem (Db (Kb Sn))),vN,vN,Z,Z,Sl.nil _ _ _,Sl.nil _ _ _⟩
  refine bC M (λz M=>?_) (λz M=>?_)
  ·refine ug z (lz a5) (ug z (lX Z) (ug z (ly Lk Z) (ug z (lq Z (lA d.has (Mt (Mt Mh)) Z fe)) (ug z (nK Z) (V (lQ (cB z) Z) ?_)))))
   cases sj M
   exact a3 _ _ ⟨_,d.ll,a5,Q,b4,b5,Z⟩
  refine un z (un z (un z (un z (un z (V (lN (cB z) Z) ?_)))))
  cases sj M
  exact a3 _ _ ⟨_,d.ll,a5,Q,b4,b5,Z⟩
 refine bC N (λy N=>?_) (λy N=>?_)
 ·refine ug y (lz Z) (ug y (lX Z) (ug y (ly GJ Z) (ug y (lq Z (lA d.has (Mt (Mt Mh)) Z fe)) (ug y (nK Z) (V (lQ (cB y) Z) ?_)))))
  cases sj N
  exact a4 _ _ ⟨_,d.ll,Z,Z,Z,Z,Z⟩
 refine un y (un y (un y (un y (un y (V (lN (cB y) Z) ?_)))))
 cases sj N
 exact a4 _ _ ⟨_,d.ll,Z,Z,Z,Z,Z⟩
theorem KJ {r:((List (lh×(List (ByteArray×Bool))))×(List lg)×(List (lh×(List lg)))×(List (ByteArray×(List lg)))×(List mT)×Int×ByteArray×ByteArray×Int)} (y:Sl lU 15 (hp qa) q0 qx.lm.lK) (z:Sl mH 8 (hp qa) q1 qx.lm.mi) (u:Sl (Pl lj) 9 (hp qa) q2 qx.lD) (G:Sl (Pl lj) 9 (hp qa) q3 qx.Shown) (B:Sl (Pl lp) 2 (hp qa) q4 qx.lL) (D:Sl (Pl lp) 2 (hp qa) q5 qx.me) (hm:AR qx=some r) :
  nt false pg0 112 [vA [vS qx.lm.Name,q0,q1,vS qx.mI,vI qx.Room,q2,q3,q4,q5]] qa [] (λv L1 W'=>∃g h j S4 k S7 q J U K Y M Q,v=(.func (.func 150) #[] #[vP g,vP Q])∧L1=((g,Ob #[vP h] 192)::((h,Ob #[j,k,q,U,Y,vI r.2.2.2.2.2.1] 230)::((Q,Ob #[vS r.2.2.2.2.2.2.1,q0,q1,vS r.2.2.2.2.2.2.2.1,vI r.2.2.2.2.2.2.2.2,q2,q3,q4,q5] 29)::(S4++(S7++(J++(K++(M++[]))))))))∧ol (λ(x:lh)=>vA (lp x)) (ng Value.string λ(x:Bool)=>Value.bool x) j r.1 S4∧mg 69 lj 9 k r.2.1 S7∧ol (λ(x:lh)=>vA (lp x)) (mg 69 lj 9) q r.2.2.1 J∧ol Value.string (mg 69 lj 9) U r.2.2.2.1 K∧uW 296 ot 3 Y r.2.2.2.2.1 M):=by
 refine vr 8 func112 Z (λa=>sg ?_)
 obtain ⟨A1,c2,rfl⟩:=y.form
 obtain ⟨A3,c4,rfl⟩:=z.form
 obtain ⟨A5,c6,rfl⟩:=u.form
 obtain ⟨A7,c8,rfl⟩:=G.form
 obtain ⟨A9,c1,rfl⟩:=B.form
 obtain ⟨a7,c3,rfl⟩:=D.form
 refine VE (mA a Z (λe6 N a=>Wa (lr (Wf Bw (VB a Mh Z Z dQ (bS hm λf0 t hm=>?_))))))
 refine VE (Gi a (aT _) call118 (λ_ _ _ _=>JL mv t) (λe7 f1 f2 e5 a d6 i d s=>?_) (L0:=[]))
 obtain ⟨I,c7,a9,c9,P,d1,W,d2,b4,d3,b5,H,rfl,a2,a3,a4,a5,O⟩:=s
 replace H:=H.symm; subst H
 have a:=a.perm (Tb (Tr (Tr (Tr (Tr (Tr Tn))))))
 refine VE (lY a zeroValue192 λe8 T a=>VO (lZ (vP I) (#[vP I]) a Z Z sizeOf192 oc nb Z (λe9 a=>lr (V (pG (by exact px Z Z) Z) (Wa (lt ?_))))))
 cases sj hm
 exact ma (v:= .func (.func 150) #[] #[vP T,vP N]) Z Z ⟨_,_,Z,a.WU (Kb (Kb (Sb (Pr (Pr (Pr (Pr (Pr Pz))))) (Kr (Kr (Kr (Kr (Kr Sn)))))))),T,I,c7,a9,c9,P,d1,W,d2,b4,d3,b5,N,Z,Z,a2,a3,a4,a5,O⟩
theorem G1 {a2:List lg} {Q:Value} (a9:sQ (λ(x:lh)=>vA (lp x)) (ng Value.string λ(x:Bool)=>Value.bool x) (hp qa) q0 qN) (a3:Sl (Pl lj) 9 (hp qa) q1 qt) (d:sQ (λ(x:lh)=>vA (lp x)) (mg 69 lj 9) (hp qa) q2 qO) (a4:sQ Value.string (mg 69 lj 9) (hp qa) q3 qM) (j:Sl (Pl ot) 3 (hp qa) q4 qP) (u:At (hp qa) (vP qi) [q0,q1,q2,q3,q4,vI qb]) (g:At (hp qa) (vP qh) [vP qi]) (k:Sl lU 15 (hp qa) q5 qV) (s:Sl mH 8 (hp qa) q6 qG) (t:Sl (Pl lj) 9 (hp qa) q7 qu) (z:Sl (Pl lj) 9 (hp qa) q8 a2) (v:Sl (Pl lp) 2 (hp qa) q9 qv) (c2:Sl (Pl lp) 2 (hp qa) Q qw) (c1:At (hp qa) (vP qj) [vS qE,q5,q6,vS qF,vI qc,q7,q8,q9,Q]) (hm:xT qK qN qt qO qM qP qb qE qV qG qF qc qu a2 qv qw=some qf) :
  mo true pg0 150 [vA (lp qK),vP qh,vP qj] qa (vB qf):=by
 refine cG 10 func150 Z (λa=>sg (VE (mA a Z (λW2 q a=>Wa (lr (V (lq Z (om a.has (y:=vP qi) g isAgg192)) (VA a Mh (lp qK) bJ aM (VQ (pM [vS qF] IF Z c1 Z) λI h=>V (lq Z (om a.has (y:=vS qF) h cA)) (bS hm λJ i hm=>VE (Eg a call121 (DV (a9.mono a.ns) mv (d.mono a.ns) (a4.mono a.ns) mv mv i) λW8 a=>?_))))))))))
 refine Wa (ln ?_)
 exact lO (rQ hm a)
theorem RY {r:((List (lh×(List (ByteArray×Bool))))×(List lg)×(List (lh×(List lg)))×(List (ByteArray×(List lg)))×(List mT)×Int×ByteArray)} (I:Sl (Pl lj) 9 (hp qa) q0 qt) (hm:EA qt qE=some r) :
  nt false pg0 249 [q0,vS qE] qa [] (λv L1 W'=>∃g q s S4 O S7 P j z k B t u,v=(.func (.func 266) #[] #[vP g,vP u])∧L1=((g,Ob #[vP q] 192)::((q,Ob #[s,O,P,z,B,vI r.2.2.2.2.2.1] 230)::((u,Ob #[vS r.2.2.2.2.2.2] 9)::(S4++(S7++(j++(k++(t++[]))))))))∧ol (λ(x:lh)=>vA (lp x)) (ng Value.string λ(x:Bool)=>Value.bool x) s r.1 S4∧mg 69 lj 9 O r.2.1 S7∧ol (λ(x:lh)=>vA (lp x)) (mg 69 lj 9) P r.2.2.1 j∧ol Value.string (mg 69 lj 9) z r.2.2.2.1 k∧uW 296 ot 3 B r.2.2.2.2.1 t):=by
 refine vr 9 func249 Z (λd=>sg (VE (mA d Z (λW2 g d=>Wa (lr (Wm (bS hm λr3 a6 hm=>?_)))))))
 refine VE (Gi d (aT _) call118 (λ_ _ _ _=>JL mv a6) (λW5 v9 aa c0 d b9 a1 h H=>?_) (L0:=[]))
 obtain ⟨i,a7,T,a8,U,a9,Y,b0,W,b3,a2,a,rfl,J,K,M,N,Q⟩:=H
 replace a:=a.symm; subst a
 have d:=d.perm (Tb (Tr (Tr (Tr (Tr (Tr Tn))))))
 refine VE (lY d zeroValue192 λc1 y d=>VO (lZ (vP i) (#[vP i]) d Z Z sizeOf192 oc nb Z (λc2 d=>lr (V (pG (by exact px Z Z) Z) (Wa (lt ?_))))))
 cases sj hm
 exact ma (v:= .func (.func 266) #[] #[vP y,vP g]) Z Z ⟨_,_,Z,d.WU (Kb (Kb (Sb (Pr (Pr (Pr (Pr (Pr Pz))))) (Kr (Kr (Kr (Kr (Kr Sn)))))))),y,i,a7,T,a8,U,a9,Y,b0,W,b3,a2,g,Z,Z,J,K,M,N,Q⟩
theorem NZ (M:sQ (λ(x:lh)=>vA (lp x)) (ng Value.string λ(x:Bool)=>Value.bool x) (hp qa) q0 qN) (G:Sl (Pl lj) 9 (hp qa) q1 qt) (K:sQ (λ(x:lh)=>vA (lp x)) (mg 69 lj 9) (hp qa) q2 qO) (H:sQ Value.string (mg 69 lj 9) (hp qa) q3 qM) (J:Sl (Pl ot) 3 (hp qa) q4 qP) (U:At (hp qa) (vP qi) [q0,q1,q2,q3,q4,vI qb]) (d:At (hp qa) (vP qh) [vP qi]) (g:At (hp qa) (vP qj) [vS qE]) (hm:zV qK qN qt qO qM qP qb qE=some qf) :
  mo true pg0 266 [vA (lp qK),vP qh,vP qj] qa (vB qf):=by
 refine cG 9 func266 Z (λa=>sg (VE (mA a Z (λW2 h a=>Wa (lr (V (lq Z (om a.has (y:=vP qi) d isAgg192)) (VA a Mh (lp qK) bJ aM (V (lq Z (om a.has (y:=vS qE) g cA)) (bS hm λi a2 hm=>VE (Eg a call121 (DV (M.mono a.ns) mv (K.mono a.ns) (H.mono a.ns) mv mv a2) λW5 a=>Wa ?_))))))))))
 refine ln ?_
 exact lO (rQ hm a)
theorem Re (g:Sl lU 15 (hp qa) q0 qJ.lK) (J:Sl mH 8 (hp qa) q1 qJ.mi) (h2:Sl (Pl lj) 9 (hp qa) q2 qt) (hm:wA qJ qt qE=some qu) :
  na false pg0 235 [vA [vS qJ.Name,q0,q1],q2,vS qE] qa 69 lj 9 qu:=by
 refine vr 47 func235 Z (λd=>sg ?_)
 obtain ⟨A1,c2,rfl⟩:=g.form
 let c7:Value:= .slice A1 qJ.lK.length c2
 obtain ⟨A3,c4,rfl⟩:=J.form
 let b1:=IV qJ.Name A1 qJ.lK.length c2 A3 qJ.mi.length c4
 refine VE (mA d Z (λW6 P d=>Wa (lr (Wm (Wm (bS hm λB i2 hm=>?_))))))
 refine VE (Gi d (aT _) call249 (λ_ _ _ _=>RY mv i2) (λW9 k8 g1 k7 d a5 ad ab h1=>?_) (L0:=[]))
 obtain ⟨N,O,d9,f6,e0,f7,e1,f8,e2,f9,e3,g0,Q,c0,rfl,h3,h4,h5,h6,h7⟩:=h1
 replace c0:=c0.symm; subst c0
 have d:=d.perm (Tb (Tb (Tb (Tr (Tr (Tr (Tr (Tr Tn))))))))
 refine Wa (lr (Wa (lS (Wf Dm (VB d (Mt (Mt (Mt (Ma (Ma (Ma (Ma (Ma Mh)))))))) Z Z jk (V (mP dL Z g) (Wm ?_)))))))
 refine ln (nM 19 18 (λi js E W=>∃D I G t b4,lM g1 t∧ST false nf qa W t ((N,Ob #[vP O] 192)::((O,Ob #[d9,e0,e1,e2,e3,vI B.2.2.2.2.2.1] 230)::((Q,Ob #[vS B.2.2.2.2.2.2] 9)::((P,Ol b1 25)::(G++(f6++(f7++(f8++(f9++(g0++b4))))))))))∧E 3=vP P∧E 7=(.func (.func 266) #[] #[vP N,vP Q])∧E 8=D∧E 17=c7∧mg 69 lj 9 D I G∧wG qJ B js I=some qu) g.len ⟨vN,[],[],g1,_,lM.refl _,d.ll (Kb (Kb (Kb (Sb (Pr (Pr (Pr (Pr (Pr Pz))))) St)))),Z,Z,Z,Z,mg.nil _ _ _,hm⟩ ?_ ?_)
 ·let b6:Value:=(.func (.func 266) #[] #[vP N,vP Q])
  rintro d7 a i3 E W f5 ⟨⟨eI,eN⟩,D,I,G,t,b4,u,d,Y,s,a3,a4,M,k⟩
  refine sg (VQ (nI (i:=(d7:Int)) (x0:=a) lU.out dL dO a4 eI mv (aF _) f5) λj8 ⟨_,⟨k1,k2,rfl,f3,f4⟩,e9⟩=>V (lq Z (mu d.has e9 jl dO)) (VE (lY d fl λi6 c9 d=>?_)))
  obtain ⟨b2,b7,rfl⟩:=f3.form
  obtain ⟨b3,b9,rfl⟩:=f4.form
  let a0:=C5 a.Signed.lg.Kind a.Signed.lg.Head.lu a.Signed.lg.Head.Word a.Signed.lg.nj a.Signed.lg.B.lu a.Signed.lg.B.Word a.Signed.lg.C.lu a.Signed.lg.C.Word a.Signed.lg.mV b2 a.Signed.Tag.length b7 a.lB.Op a.lB.K a.lB.lh.lu a.lB.lh.Word b3 a.lB.Kids.length b9
  refine VO (FA a0.toArray d dO λi7 d=>lr (V (lq Y (lC d.has (Mt (Mt (Mt (Mt Mh)))) b1 Z fa eo)) (Wf AF (Wf sP (VA d Mh (lj a.Signed.lg) bF aI (bS k λc f0 k=>?_))))))
  let e4:Value:=vS c.1.lh.Word
  let d0:Value:=vS c.1.lh.lu
  refine VE (eD d (aT _) call119 (λhh=>CQ hh mv mv f0) ?_ (L0:=[]))
  rintro _ k3 c3 i5 d a9 a1 ⟨k5,a6,rfl,c6⟩
  cases a6
  refine Wm (Wx Z (Wx Z (VE (lY d bG λi9 j7 d=>?_))))
  obtain ⟨T,U,rfl⟩:=c6.form
  let b8:Value:= .slice T c.1.Kids.length U
  refine VO (FA (#[vI c.1.Op,vI c.1.K,d0,e4,b8]) d aD λj0 d=>Wa (lr (Wm (Wi Z (Wm (LJ k (λd8 E W=>∃c8,ST false nf qa W c3 ((c9,Ol a0 75)::((N,Ob #[vP O] 192)::((O,Ob #[d9,e0,e1,e2,e3,vI B.2.2.2.2.2.1] 230)::((Q,Ob #[vS B.2.2.2.2.2.2] 9)::((P,Ol b1 25)::(G++(f6++(f7++(f8++(f9++(g0++c8)))))))))))∧E 3=vP P∧E 7=b6∧E 8=D∧E 10=vP c9∧E 17=c7∧E 18=vI (qJ.lK.length:Int)∧E 19=vI (d7:Int)∧E 37=vB d8) 4 ?_ λd8 z b0=>?_))))))
  ·rintro k4 E W ⟨c8,d,d1,d2,d3,g9,d4,d5,d6,h0⟩ y
   refine ln (CI y h0 (λe7 y=>?_) λe7 y=>?_)
   ·refine lI (Wh d3 (V (ly AF g9) (Wf sP (VA d Mh (lj a.Signed.lg) bF aI (VE (mn (cs:=(lj a.Signed.lg).toArray) d (nw Z) (nU aN aI cI) λj3 g8 d=>?_))))))
    have d:=d.perm (Nr (Qb (Qb (Qb (Qb (Qb (Qb Qz)))))) Nz)
    refine bS y λh8 e8 y=>VE (oU (enc:=lj) (v:=D) (vs:= .slice (some ⟨g8,0,none⟩) 1 1) (R:=G) d mY dc pf aN nZ.1 nZ.2.1 Z nZ.2.2.1 nZ.2.2.2 Z Z M (Sl.lit (enc:=lj) (l:=[a.Signed.lg]) mY Z nb Z (d.at_ (Ma Mh))) e8 λj4 h9 g2 d e6=>Wa (mh (mx (lE ?_))))
    have d:=d.ll (Kr (Db (Db St)))
    exact ⟨d6,d5,h9,h8,g2,c3,_,u.trans a9,d.ll (Sb (Pr Pz) (Sb (Pr Pz) (Sb (Pr Pz) (Sb (Pr Pz) St)))),d1,d2,Z,d4,e6,y⟩
   refine mU (mx (lE ?_))
   have d:=d.ll (Db St)
   exact ⟨d6,d5,D,I,G,c3,_,u.trans a9,d.ll,d1,d2,d3,d4,M,y⟩
  refine bC z (λj z=>?_) (λj z=>?_)
  ·refine ug j (lq Z (lC d.has Mh [vI c.1.Op,vI c.1.K,d0,e4,b8] Z bD aD)) (ug j (lz s) (bS z λj9 f1 z=>tw j (Eg d call111 (AB mv ⟨266,#[],#[vP N,vP Q],Z,call266,λW x qu q hm=>(NZ (h3.at (λb o h=>q _ _ ((λb o h=>d.at_ (Mt (Mt (Mt (Mt (Mt (Mt (Ma (Ml h))))))))) b o h))) (h4.sl mY λb o h=>q _ _ ((λb o h=>d.at_ (Mt (Mt (Mt (Mt (Mt (Mt (Ma (Ma (Ml h)))))))))) b o h)) (h5.at (λb o h=>q _ _ ((λb o h=>d.at_ (Mt (Mt (Mt (Mt (Mt (Mt (Ma (Ma (Ma (Ml h))))))))))) b o h))) (h6.at (λb o h=>q _ _ ((λb o h=>d.at_ (Mt (Mt (Mt (Mt (Mt (Mt (Ma (Ma (Ma (Ma (Ml h)))))))))))) b o h))) ((h7.G6 AJ).mono (Pl.mono _) (oz λb o h=>q _ _ ((λb o h=>d.at_ (Mt (Mt (Mt (Mt (Mt (Mt (Ma (Ma (Ma (Ma (Ma (Ml h))))))))))))) b o h))) (At.of (q _ _ (d.at_ (Mt (Mt (Mt Mh))))) _ Z) (At.of (q _ _ (d.at_ (Mt (Mt Mh)))) _ Z) (At.of (q _ _ (d.at_ (Mt (Mt (Mt (Mt Mh)))))) _ Z) hm).mN⟩ f1) λj5 d=>V (lQ (cB j) Z) ?_)))
   cases sj z
   exact b0 _ _ ⟨_,d.ll (Db St),Y,s,a3,Z,a4,eN,eI,Z⟩
  refine un j (un j (un j (V (lN (cB j) Z) ?_)))
  cases sj z
  exact b0 _ _ ⟨_,d.ll (Db St),Y,s,a3,Z,a4,eN,eI,Z⟩
 rintro E W ⟨⟨eI,eN⟩,D,I,G,t,b4,u,d,Y,s,a3,a4,M,k⟩
 refine lE ?_
 have d:=d.ll (Db (Db (Db (Db (Kr (Dr (Dr (Dr (Dr (Dr St))))))))))
 refine sg (Wh a3 (bS k λk0 f2 k=>VE (oG d kp (wB (M.sl mY λb o h=>d.at_ (Ml h)) f2) λj6 i0 k6 g3 d i1 aa c5=>Wa (ln ?_))))
 have d:=d.ll (Kr (Dr St))
 refine lO ?_
 cases sj k
 exact ma (v:=i0) Z Z ⟨_,g3,Z,d.nT (λp h=>Ml h) c5.nd,c5⟩
theorem OQ (K:Sl lU 15 (hp qa) q0 qV) (M:Sl mH 8 (hp qa) q1 qG) (N:Sl (Pl lj) 9 (hp qa) q2 qt) (J:Sl (Pl lj) 9 (hp qa) q3 qu) (U:Sl (Pl lp) 2 (hp qa) q4 qv) (g:Sl (Pl lp) 2 (hp qa) q5 qw) (Y:At (hp qa) (vP qh) [vS qE,q0,q1,vS qF,vI qb,q2,q3,q4,q5]) (hm:E4 qC qE qV qG qF qb qt qu qv qw=some qf) :
  mo true pg0 236 [vA (lj qC),vP qh] qa (vB qf):=by
 refine cG 8 func236 Z (λa=>sg (VE (mA a Z (λW2 h a=>Wa (lr (VQ (pM [q3] EF Z Y Z) λi d=>V (lq Z (om a.has (y:=q3) d dQ)) (VA a Mh (lj qC) bF aI (bS hm λj a2 hm=>VE (Eg a call114 (CE mv a2) λW8 a=>Wa ?_)))))))))
 refine ln ?_
 exact lO (rQ hm a)
theorem Mb (c:Sl lU 15 (hp qa) q0 qx.lm.lK) (g:Sl mH 8 (hp qa) q1 qx.lm.mi) (i:Sl (Pl lj) 9 (hp qa) q2 qx.lD) (D:Sl (Pl lj) 9 (hp qa) q3 qx.Shown) (y:Sl (Pl lp) 2 (hp qa) q4 qx.lL) (B:Sl (Pl lp) 2 (hp qa) q5 qx.me) (hm:BB qx=some qt) :
  na false pg0 217 [vA [vS qx.lm.Name,q0,q1,vS qx.mI,vI qx.Room,q2,q3,q4,q5]] qa 69 lj 9 qt:=by
 refine vr 12 func217 Z (λa=>sg ?_)
 obtain ⟨M,Q,rfl⟩:=c.form
 obtain ⟨N,T,rfl⟩:=g.form
 obtain ⟨A5,c6,rfl⟩:=i.form
 obtain ⟨A7,c8,rfl⟩:=D.form
 obtain ⟨A9,Y,rfl⟩:=y.form
 obtain ⟨U,Zq,rfl⟩:=B.form
 refine VE (mA a Z (λb7 J a=>Wa (lr (Wf Bl (VA a Mh (IV qx.lm.Name M qx.lm.lK.length Q N qx.lm.mi.length T) fa eo (Wf Bw (VB a Mh Z Z dQ (Wf IF (VB a Mh Z Z cA (bS hm λb2 a5 hm=>VE (oG a call235 (Re mv mv mv a5) λb9 b3 c5 a9 a u j a4=>V (pG (by exact pp Z) Z) ?_)))))))))))
 refine bS hm λc1 q hm=>?_
 refine VE (Gi a (Cr Qz Cn) call92 (λhH z a1 h=>wO ⟨hH,z,lM.refl _⟩ a4 ⟨236,#[],#[vP J],Z,call236,λW x qt P hm=>(OQ mv mv mv mv mv mv (At.of (P _ _ (h _ _ Mh)) _ Z) hm).mN⟩ q) λc0 c3 c7 b6 a b5 k d a3=>?_)
 obtain ⟨t,s,I,rfl,K⟩:=a3
 replace I:=I.symm; subst I
 have a:=a.perm (Tr Tn)
 refine Wa (ln ?_)
 have a:=a.ll (Kr (Db St))
 refine lO ?_
 cases sj hm
 exact ma (v:=t) Z Z ⟨_,s,Z,a.nT (λp O=>Ml O) K.nd,K⟩
theorem Qo (c:Sl lU 15 (hp qa) q0 qx.lm.lK) (j:Sl mH 8 (hp qa) q1 qx.lm.mi) (u:Sl (Pl lj) 9 (hp qa) q2 qx.lD) (D:Sl (Pl lj) 9 (hp qa) q3 qx.Shown) (y:Sl (Pl lp) 2 (hp qa) q4 qx.lL) (B:Sl (Pl lp) 2 (hp qa) q5 qx.me) (hm:zw qx=some qt) :
  na false pg0 185 [vA [vS qx.lm.Name,q0,q1,vS qx.mI,vI qx.Room,q2,q3,q4,q5]] qa 69 lj 9 qt:=by
 refine vr 11 func185 Z (λa=>sg ?_)
 obtain ⟨U,c2,rfl⟩:=c.form
 obtain ⟨Y,s,rfl⟩:=j.form
 obtain ⟨g,t,rfl⟩:=u.form
 obtain ⟨A7,x,rfl⟩:=D.form
 obtain ⟨A9,J,rfl⟩:=y.form
 obtain ⟨I,K,rfl⟩:=B.form
 refine VE (mA a Z (λP b3 a=>Wa (lr (VA a Mh (C2 qx.lm.Name U qx.lm.lK.length c2 Y qx.lm.mi.length s qx.mI qx.Room g qx.lD.length t A7 qx.Shown.length x A9 qx.lL.length J I qx.me.length K) eK dN (bS hm λT h hm=>VE (oG a call217 (Mb mv mv mv mv mv mv h) λW b4 b5 q a O d M=>Wa (ln ?_)))))))
 have a:=a.ll (Kr (Db St))
 refine sg (Wm (Wm (V (sf aN Z M) (V (Om (k:=.i64) Z Z) (bS hm λ_ N hm=>VQ (yK (i:=(if 8 < (T.length:Int) then 8 else (T.length:Int))) aN aI Z Z M mY (uh N) (tY N)) λa9 Q=>Wa (lt ?_))))))
 cases sj hm
 exact ma (v:=a9) Z Z ⟨_,q,Z,a.nT (λp z=>Ml z) Q.nd,Q⟩
theorem Nx (c:Sl lU 15 (hp qa) q0 qx.lm.lK) (i:Sl mH 8 (hp qa) q1 qx.lm.mi) (y:Sl (Pl lj) 9 (hp qa) q2 qx.lD) (I:Sl (Pl lj) 9 (hp qa) q3 qx.Shown) (G:Sl (Pl lp) 2 (hp qa) q4 qx.lL) (H:Sl (Pl lp) 2 (hp qa) q5 qx.me) (hm:EL qx qC=some qf) :
  mo false pg0 233 [vA [vS qx.lm.Name,q0,q1,vS qx.mI,vI qx.Room,q2,q3,q4,q5],vA (lj qC)] qa (vB qf):=by
 refine cG 22 func233 Z (λa=>sg ?_)
 obtain ⟨A1,c2,rfl⟩:=c.form
 let a9:Value:= .slice A1 qx.lm.lK.length c2
 obtain ⟨A3,O,rfl⟩:=i.form
 let b2:Value:= .slice A3 qx.lm.mi.length O
 obtain ⟨A5,c6,rfl⟩:=y.form
 obtain ⟨A7,c8,rfl⟩:=I.form
 obtain ⟨A9,Y,rfl⟩:=G.form
 obtain ⟨T,Zq,rfl⟩:=H.form
 let a0:=C2 qx.lm.Name A1 qx.lm.lK.length c2 A3 qx.lm.mi.length O qx.mI qx.Room A5 qx.lD.length c6 A7 qx.Shown.length c8 A9 qx.lL.length Y T qx.me.length Zq
 refine VE (mA a Z (λg3 e7 a=>VE (mA a Z (λg4 h0 a=>Wa (lr (Wf Bl (VA a (Mt Mh) (IV qx.lm.Name A1 qx.lm.lK.length c2 A3 qx.lm.mi.length O) fa eo (VA a Mh (lj qC) bF aI (bS hm λj e0 hm=>?_)))))))))
 let M:Value:=vI j.1.K
 let J:Value:=vI j.1.Op
 let s:Value:=vS j.1.lh.Word
 let a5:Value:=vS j.1.lh.lu
 refine VE (eD a (aT _) call119 (λhh=>CQ hh mv mv e0) ?_ (L0:=[]))
 rintro _ h1 d6 g2 a t ab ⟨h2,b0,rfl,c1⟩
 cases b0
 refine Wm (Wx Z (Wx Z (VE (lY a bG λg8 e8 a=>?_))))
 obtain ⟨U,a2,rfl⟩:=c1.form
 let a4:Value:= .slice U j.1.Kids.length a2
 refine VO (FA (#[J,M,a5,s,a4]) a aD λg9 a=>Wa (ln ?_))
 have a:=a.ll (Kb (Db St))
 refine lH ?_
 have a:=a.drew
 have d:=a.has.ll (Kb (Kb Sn))
 refine mF d lV (X 0 Z d (lz Z) (X 1 Z d (mL Z Z Z) (X 2 Z d (lz Z) (PJ hm (λc3 E W=>∃v b5,lM d6 v∧ST false nf qa W v ((e8,Ob #[J,M,a5,s,a4] 36)::((e7,Ol a0 29)::b5))∧E 4=vB false∧E 21=vB c3) (bm 9 255) 1 ?_ λc3 z a3=>?_))))
 ·rintro g1 E W ⟨v,b5,c0,a,f8,d8⟩ c7
  have d:=a.has.nx c0 (Kb (Kb Sn))
  refine X 8 Z d (nB d8) (mG kr (lE ?_))
  exact lO (rQ c7 a)
 refine bC z (λu z=>?_) (λu z=>?_)
 ·refine uV 3 Z Z (cB u) d (λ_ P=>lq Z (lC P Mh [J,M,a5,s,a4] Z bD aD)) (uV 4 Z Z (cB u) d (λ_ P=>lq Z (lC P (Mt Mh) a0 Z eK dN)) (bS z λg c9 z=>?_))
  refine CZ 5 Z Z (cB u) (Gi a (aT _) call112 (λ_ _ _ _=>KJ mv mv mv mv mv mv c9) (λf6 g0 e6 f0 a k a1 aa c5=>?_) (L0:=[]))
  obtain ⟨a6,d7,e1,f1,e2,f2,e3,f3,e4,f4,e5,f5,a7,Q,rfl,d1,d2,d3,d4,d5⟩:=c5
  replace Q:=Q.symm; subst Q
  have a:=a.perm (Tb (Tb (Tb (Tr (Tr (Tr (Tr (Tr Tn))))))))
  have d:=a.has.nx k (Db (Db (Db (Dr (Dr (Dr (Dr (Dr (Kb (Kb Sn))))))))))
  refine ⟨d,bS z λf9 d0 z=>CZ 6 Z Z (cB u) (Eg a call111 (AB mv ⟨150,#[],#[vP a6,vP a7],Z,call150,λW x qf q hm=>(G1 (d1.at (λb o h=>q _ _ ((λb o h=>a.at_ (Mt (Mt (Mt (Ml h))))) b o h))) (d2.sl mY λb o h=>q _ _ ((λb o h=>a.at_ (Mt (Mt (Mt (Ma (Ml h)))))) b o h)) (d3.at (λb o h=>q _ _ ((λb o h=>a.at_ (Mt (Mt (Mt (Ma (Ma (Ml h))))))) b o h))) (d4.at (λb o h=>q _ _ ((λb o h=>a.at_ (Mt (Mt (Mt (Ma (Ma (Ma (Ml h)))))))) b o h))) ((d5.G6 AJ).mono (Pl.mono _) (oz λb o h=>q _ _ ((λb o h=>a.at_ (Mt (Mt (Mt (Ma (Ma (Ma (Ma (Ml h))))))))) b o h))) (At.of (q _ _ (a.at_ (Mt Mh))) _ Z) (At.of (q _ _ (a.at_ Mh)) _ Z) mv mv mv mv mv mv (At.of (q _ _ (a.at_ (Mt (Mt Mh)))) _ Z) hm).mN⟩ d0) λf7 a=>?_)⟩
  have d:=a.has.nx k (Db (Db (Db (Dr (Dr (Dr (Dr (Dr (Kb (Kb Sn))))))))))
  refine ⟨d,X 7 Z d (lQ (cB u) Z) ?_⟩
  cases sj z
  refine ov kr (a3 _ _ ⟨e6,_,k,a.ll (Db (Db (Db (Dr (Dr (Dr (Dr (Dr St)))))))),Z,Z⟩)
 refine Xn 3 Z Z (cB u) d (Xn 4 Z Z (cB u) d (Xn 5 Z Z (cB u) d (Xn 6 Z Z (cB u) d (X 7 Z d (lN (cB u) Z) ?_))))
 cases sj z
 refine ov kr (a3 _ _ ⟨d6,_,lM.refl _,a.ll,Z,Z⟩)
theorem OO (j:Sl lU 15 (hp qa) q0 qx.lm.lK) (k:Sl mH 8 (hp qa) q1 qx.lm.mi) (z:Sl (Pl lj) 9 (hp qa) q2 qx.lD) (J:Sl (Pl lj) 9 (hp qa) q3 qx.Shown) (D:Sl (Pl lp) 2 (hp qa) q4 qx.lL) (I:Sl (Pl lp) 2 (hp qa) q5 qx.me) (H:Sl (Pl lj) 9 (hp qa) q6 qt) (hm:E6 qx qt=some qb) :
  mo false pg0 214 [vA [vS qx.lm.Name,q0,q1,vS qx.mI,vI qx.Room,q2,q3,q4,q5],q6] qa (vI qb):=by
 refine cG 41 func214 Z (λa=>sg ?_)
 obtain ⟨A1,c2,rfl⟩:=j.form
 obtain ⟨A3,c4,rfl⟩:=k.form
 obtain ⟨A5,c6,rfl⟩:=z.form
 obtain ⟨A7,c8,rfl⟩:=J.form
 obtain ⟨A9,a4,rfl⟩:=D.form
 obtain ⟨a3,a5,rfl⟩:=I.form
 let a0:=C2 qx.lm.Name A1 qx.lm.lK.length c2 A3 qx.lm.mi.length c4 qx.mI qx.Room A5 qx.lD.length c6 A7 qx.Shown.length c8 A9 qx.lL.length a4 a3 qx.me.length a5
 refine VE (mA a Z (λh1 q a=>Wa (lS (Wm (V (mP aN Z H) (Wi Z (ln (CI hm Z (λe5 hm=>?_) λe5 hm=>?_))))))))
 ·refine sg (Wa (ln ?_))
  have a:=a.ll (Db St)
  refine lO (mj ?_)
  cases sj hm
  exact rP a
 refine kS (Wm (V (mP aN Z H) (Wm (ln (nM 16 15 (λi U E W=>∃T v,lM (hp qa) T∧ST false nf qa W T ((q,Ol a0 29)::v)∧E 1=q6∧E 2=vP q∧E 14=q6∧wT qx qt U=some qb) H.len ⟨hp qa,_,lM.refl _,a.ll,Z,Z,Z,hm⟩ ?_ ?_)))))
 ·rintro e6 N e9 E W e1 ⟨⟨d,h⟩,T,v,g,a,x,Y,y,t⟩
  refine sg (VQ (rp (enc:=lj) (i:=(e6:Int)) (x0:=N) aN aI y d mv (aF _) e1) λg3 d7=>V (lq Z (mu a.has d7 bF aI)) (VE (lY a cI λf2 g0 a=>VO (FA (h1:=pf N) ((lj N).toArray) a aI λf3 a=>lr (V (ly Bl Y) (VA a (Mt Mh) (IV qx.lm.Name A1 qx.lm.lK.length c2 A3 qx.lm.mi.length c4) fa eo (VA a Mh (lj N) bF aI (bS t λc d9 t=>?_))))))))
  let a6:=c.1.lg.Head
  refine VE (eD a (aT _) call58 (λhh=>my.mN (FC hh mv mv d9)) ?_ (L0:=[]))
  rintro _ g8 e8 f1 a d0 P ⟨h0,a2,rfl,e3⟩
  cases a2
  refine Wm (Wx Z (Wx Z (VE (lY a cQ λf5 g1 a=>?_))))
  obtain ⟨b7,c5,rfl⟩:=e3.form
  refine VO (FA (#[vI c.1.lg.Kind,vS a6.lu,vS a6.Word,vS c.1.lg.nj,vS c.1.lg.B.lu,vS c.1.lg.B.Word,vS c.1.lg.C.lu,vS c.1.lg.C.Word,vS c.1.lg.mV,.slice b7 c.1.Tag.length c5]) a bW λf6 a=>Wa (ln ?_))
  have a:=a.ll (Db (Db St))
  refine sg (Wm (V (nK Z) (ln (CI t Z (λd3 t=>?_) λd3 t=>?_))))
  ·refine sg (Wa (ln ?_))
   have a:=a.ll (Db St)
   refine lO (nz (mj (nz (mj ?_))))
   cases sj t
   exact rP a
  exact mU (mx (lE ⟨d,h,e8,_,g.trans d0,a.ll,x,Y,y,t⟩))
 rintro E W ⟨⟨d,h⟩,T,v,g,a,x,Y,y,t⟩
 refine lE (lH (sg (Wh x (V (mP aN Z H) (Wm (ln (IW t (λd1 E W=>∃c3,ST false nf qa W T c3) (λd1 d6 s=>?_) ?_)))))))
 ·refine nM 32 31 (λi U E W=>∃a9,ST false nf qa W T ((q,Ol a0 29)::a9)∧E 2=vP q∧E 30=q6∧wS qx U=some d1) H.len ⟨_,a.ll,Y,Z,d6⟩ ?_ ?_
  ·rintro e7 Q f0 E W e2 ⟨⟨d,h⟩,a9,a,M,O,u⟩
   refine sg (VQ (rp (enc:=lj) (i:=(e7:Int)) (x0:=Q) aN aI O d mv (aF _) e2) λg4 d8=>V (lq Z (mu a.has d8 bF aI)) (VE (lY a cI λf7 g2 a=>VO (FA (h1:=pf Q) ((lj Q).toArray) a aI λf8 a=>lr (V (lq M (lC a.has (Mt Mh) a0 Z eK dN)) (VA a Mh (lj Q) bF aI (bS u λg7 e0 u=>VE (Eg a call233 (Nx mv mv mv mv mv mv e0) λf9 a=>V (nK Z) ?_))))))))
   refine ln ?_
   have a:=a.ll (Db St)
   refine CI u Z (λd4 u=>?_) (λd4 u=>?_)
   ·refine sg (Wa (ln ?_))
    have a:=a.ll (Db St)
    refine lO (nz (mj (nz (mj ?_))))
    cases sj u
    replace s:some 44=some qb:=s
    cases sj s
    exact rP a
   exact mU (mx (lE ⟨d,h,_,a.ll,M,O,u⟩))
  rintro E W ⟨⟨d,h⟩,a9,a,M,O,u⟩
  refine lE ?_
  cases sj u
  exact ⟨_,Z,_,a.ll (Db St)⟩
 rintro ⟨⟩ E W ⟨c3,a⟩ d5
 exact sg (Wa (lt (rQ d5 a)))
theorem Kd (a:Sl (Pl (lJ .u8)) 1 (hp qa) q0 ql) (hm:zk ql=some qm) :
  na true pg0 215 [q0] qa 5 (lJ .u8) 1 qm:=by
 unfold zk at hm
 refine vr 8 func215 Z (λd=>sg (Wa (lS (Wm ?_))))
 obtain ⟨y,B,rfl⟩:=a.form
 refine V (D5 aZ Z Z) (ln ?_)
 rcases y with _ | z
 ·have u:=a.isNil
  replace hm:some []=some qm:=by rw [u] at hm; simpa [oY,maxLen] using hm
  refine xz (rfl) (sg (Wa (lt (mj ?_))))
  cases sj hm
  exact ma (v:=vN) Z Z ⟨_,[],Z,d.nT (λp g=>by cases g) rv,mg.nil _ _ _⟩
 ·refine oV (rfl) (kg (VE (mn (cs:=#[]) d pP (Eb [] aZ gb jJ dc Z rv Z Z) λG k d=>Wm (bS hm λH t hm=>VE (oU (enc:=lJ .u8) (v:= .slice (some ⟨k,0,none⟩) 0 0) (vs:= .slice (some z) ql.length B) (R:=[(k,Ob #[] 5)]) d (λ_=>rfl) dc (vM _) aZ sL.1 sL.2.1 Z sL.2.2.1 sL.2.2.2 Z Z (mg.lit (l:=[]) (enc:=lJ .u8) Z dc Z Z) mv t λD x j d c=>Wa (lt ?_))))))
  cases sj hm
  exact ma (v:=x) Z Z ⟨_,j,Z,d.nT (λp g=>Ml g) c.nd,c⟩
theorem H9 (I:Int) (r:List lg) (w:World) (hm:xA I=some r) :
  na true pg0 234 [vN,vI I] w 69 lj 9 r:=by
 refine vr 27 func234 Z (λd=>sg (Wa (lS (Wm (Wi Z (ln (CI hm Z (λK hm=>?_) λK hm=>?_)))))))
 ·cases hm
 refine kn (lH (CJ hm (λu E W=>∃g c t,ST true nf w W (hp w) (c++t)∧E 0=g∧mg 69 lj 9 g u c) (λu a=>?_) ?_))
 ·refine sg (Wm (Wm (V (Jx aN Z) (Wm (V (CS aN Z) (Wi Z (Wi Z (Wa (lr (Wm ?_))))))))))
  refine Wi Z (ln (CI a Z (λy a=>?_) λy a=>?_))
  ·refine lI (Wm (Wm (V (Jx aN Z) (V (Oj aN aI Z Z) (Wm (bS a λT B a=>VE (Ku (enc:=lj) (z:=K7) d mY dc aN dT nZ.1 nZ.2.1 nZ.2.2.1 nZ.2.2.2 Z Z Z B λN U H d x=>Wm (V (CS aN Z) (bS a λ_ j a=>VQ (yK (i:=0) aN aI Z Z x mY (uh j) (tY j)) λM G=>Wa (ln ?_))))))))))
   cases sj a
   exact ⟨M,H,_,d.ll,Z,G⟩
  refine kn ?_
  cases sj a
  exact ⟨vN,[],_,d.ll,Z,mg.nil _ _ _⟩
 rintro Q E W ⟨g,c,t,d,J,k⟩ D
 refine sg (Wh J (Wa (lt ?_)))
 cases sj D
 exact ma (v:=g) Z Z ⟨_,c,Z,d.nT (λp h=>Ml h) k.nd,k⟩
theorem JQ {a0:List (List lg)} (j:Sl (wo lj 9) 1 (hp qa) q0 a0) (hm:wE a0=some qt) :
  na true pg0 216 [q0] qa 69 lj 9 qt:=by
 refine vr 36 func216 Z (λd=>sg (Wa (lr (Wa (lS (Wm ?_))))))
 refine V (mP iI Z j) (Wm (ln (nM 11 10 (λi s E W=>∃u N,ST true nf qa W (hp qa) N∧E 0=q0∧E 3=vI u∧E 9=q0∧tf a0 s u=some qt) j.len ⟨0,_,d.ll,Z,Z,Z,hm⟩ ?_ ?_)))
 ·rintro c5 t d4 E W b9 ⟨⟨h,q⟩,u,N,d,Q,T,U,a⟩
  refine sg (VQ (DT (enc:=lj) (k2:=9) (i:=(c5:Int)) (x0:=t) iI fx U h j (aF _) b9) λd6 ⟨c7,b5,b7⟩=>V (lq Z (om d.has (y:=c7) b5 dQ)) (Wa (lr (Wh T (Wm (V (mP aN Z b7) (Wi Z (Wa (mh ?_)))))))))
  refine lE (sg (Wm (Wi Z (ln (CI a Z (λb4 a=>?_) λb4 a=>?_)))))
  ·cases a
  exact mU (mx (lE ⟨h,q,wi0 .i64 (u+(t.length:Int)),_,d.ll,Q,Z,U,a⟩))
 rintro E W ⟨⟨h,q⟩,u,N,d,Q,T,U,a⟩
 refine lE (sg (Wh T (bS a λc6 b6 a=>VE (oG d call234 (H9 u _ _  b6) λd5 c8 a9 c4 d a2 O b3=>Wa (lS (Wh Q (V (mP iI Z j) (Wm ?_))))))))
 refine ln (CJ a (λJ E W=>∃D x M,ST true nf qa W a9 (x++M)∧E 6=D∧mg 69 lj 9 D J x) (λJ a4=>?_) ?_)
 ·refine nM 27 26 (λi s E W=>∃k B g G,ST true nf qa W a9 (g++G)∧E 6=k∧E 25=q0∧mg 69 lj 9 k B g∧sX s B=some J) j.len ⟨c8,c6,c4,_,d.ll,Z,Z,b3,a4⟩ ?_ ?_
  ·rintro c0 c3 c9 E W a7 ⟨⟨h,q⟩,k,B,g,G,d,H,I,z,c⟩
   refine sg (VQ (DT (enc:=lj) (k2:=9) (i:=(c0:Int)) (x0:=c3) iI fx I h mv (aF _) a7) λd2 ⟨Y,a5,a6⟩=>V (lq Z (om d.has (y:=Y) a5 dQ)) (Wa (ln (lI (Wh H (Wm (bS c λc1 a1 c=>VE (oU (enc:=lj) (v:=k) (vs:=Y) (R:=g) d mY dc pf aN nZ.1 nZ.2.1 Z nZ.2.2.1 nZ.2.2.2 Z Z z mv a1 λd0 c2 b0 d P=>Wa (mh (mx ?_))))))))))
   exact lE ⟨h,q,c2,c1,b0,_,d.ll,Z,I,P,c⟩
  rintro E W ⟨⟨h,q⟩,k,B,g,G,d,H,I,z,c⟩
  refine lE ?_
  cases sj c
  exact ⟨k,g,_,d.ll,H,z⟩
 rintro d1 E W ⟨D,x,M,d,b2,K⟩ a3
 refine sg (Wh b2 (Wa (lt ?_)))
 cases sj a3
 exact ma (v:=D) Z Z ⟨_,x,Z,d.nT (λp hq=>Ml hq) K.nd,K⟩
set_option maxHeartbeats 4000000 in
theorem GZ {a4 a5 a6 a7 a8 a9 I J K M N Q T U d7:Value} {r:((List Signed)×Int×mD)} (h0:oa qe ((qh,Ob (Cm qx q0 q1 q2 q3 q4 q5 q6 q7 q8 q9 a4 a5 a6 a7 a8 a9 I J K M N Q T U) 101)::[]) qa) (G:Sl lU 15 qe q0 qx.lm.lK) (H:Sl mH 8 qe q1 qx.lm.mi) (b5:Sl (Pl lj) 9 qe q2 qx.lD) (b7:Sl (Pl lj) 9 qe q3 qx.Shown) (c2:Sl (Pl lp) 2 qe q4 qx.lL) (c7:Sl (Pl lp) 2 qe q5 qx.me) (g2:Sl (Pl lj) 9 qe d7 qt) (hm:zd qx qt=some r) :
  my false pg0 184 [vP qh,d7] qa qe ((qh,Ob (Cm qx q0 q1 q2 q3 q4 q5 q6 q7 q8 q9 a4 a5 a6 a7 a8 a9 I J K M N Q T U) 101)::[]) (λv L1 μ1=>∃y1 y3 y5 y7 y9 l8 l9,v=vT [y1,vI r.2.1]∧L1=((qh,Ob (Cm r.2.2 y3 y5 y7 y9 l8 l9 q6 q7 q8 q9 a4 a5 a6 a7 a8 a9 I J K M N Q T U) 101)::[])∧Sl mR 10 μ1 y1 r.1∧Sl lU 15 μ1 y3 r.2.2.lm.lK∧Sl mH 8 μ1 y5 r.2.2.lm.mi∧Sl (Pl lj) 9 μ1 y7 r.2.2.lD∧Sl (Pl lj) 9 μ1 y9 r.2.2.Shown∧Sl (Pl lp) 2 μ1 l8 r.2.2.lL∧Sl (Pl lp) 2 μ1 l9 r.2.2.me):=by
 let g6:Value:=vS qx.lm.Name
 let a0:=((Cm qx q0 q1 q2 q3 q4 q5 q6 q7 q8 q9 a4 a5 a6 a7 a8 a9 I J K M N Q T U):Array Value)
 let b8:=(qh,oC a0 101)::[]
 refine rG h0 60 func184 Z (λd=>sg (Wa (Wa (lS (Wm (V (ox iJ Z Z) (ln (oV Z ?_))))))))
 refine kS (Wm (Wn (VA d Mh [g6,q0,q1,vS qx.mI,vI qx.Room,q2,q3,q4,q5] eK dN (Wm (bS hm λr1 m3 hm=>VE (Eg d call214 (OO mv mv mv mv mv mv mv m3) λW3 d=>Wa (ln (lH ?_))))))))
 refine lI (Wm (Wi Z (ln (CI hm Z (λm1 hm=>?_) λm1 hm=>?_))))
 ·refine sg (Wm (Wa (Wa (lt (mj ?_)))))
  cases sj hm
  exact rq (v:=vN) (u:=vI r1) Z Z Z ⟨_,_,_,Z,d.mB (Kb Sn),lM.refl _,Lo.refl,ST.lG d (mJ.mem (Kb Sn)),vN,q0,q1,q2,q3,q4,q5,Z,Z,Sl.nil _ _ _,G,H,b5,b7,c2,c7⟩
 refine kg (Wa (lS (Wm (bS hm λr5 m4 hm=>VE (oG d kp (wB mv m4) λW7 l7 a1 l6 d b6 aa g1=>V (sf aN Z g1) (Wm ?_))))))
 refine ln (nM 25 24 (λi js E W=>∃c8 e5 d1 c1 f6,lM a1 c1∧Lo (keys b8) qa a1 c1∧ST false (keys b8) qa W c1 ((qh,oC a0 101)::(d1++(l6++f6)))∧E 0=vP qh∧E 1=d7∧E 7=c8∧E 23=l7∧mX 71 mR 10 c1 c8 e5 d1∧vj qx qt js e5=some r) g1.len ⟨vN,[],[],a1,_,lM.refl _,Lo.refl,d.ll (Sb (Pr Pz) St),Z,Z,Z,Z,mX.nil _ _ _ _,hm⟩ ?_ ?_)
 ·rintro j3 c9 ae E W h4 ⟨⟨eI,eN⟩,c8,e5,d1,c1,f6,z,h,d,d2,e2,e3,e4,e9,b0⟩
  refine sg (VQ (pC (i:=(j3:Int)) (x0:=c9) aN aI e4 eI g1 (aF _) h4) λp2 i0=>V (lq Z (uZ d.has (λp hq=>Mt (Ma (Ml hq))) g1 mY i0 h4 bF aI)) (VE (lY d cI λn6 j5 d=>VO (FA (h1:=pf c9) ((lj c9).toArray) d aI λn7 d=>ln (lH ?_)))))
  have d:=d.drew
  have g:=d.has.ll (Kb (Kb Sn))
  refine mF g lV (X 0 Z g (lz d2) (X 1 Z g (lX Z) (X 2 Z g (ly Bl Z) (XH 3 Z g (λ_ hS=>lq Z (lC hS (Mt Mh) [g6,q0,q1] Z fa eo)) (XH 4 Z g (λ_ hS=>lq Z (lC hS Mh (lj c9) Z bF aI)) (PJ b0 (λy E W=>∃f7 g4 e7 d5 h3,lM c1 d5∧Lo (keys b8) qa c1 d5∧ST false (keys b8) qa W d5 ((f7,Ob #[vI y.2.2.2.1.Kind,vS y.2.2.2.1.Head.lu,vS y.2.2.2.1.Head.Word,vS y.2.2.2.1.nj,vS y.2.2.2.1.B.lu,vS y.2.2.2.1.B.Word,vS y.2.2.2.1.C.lu,vS y.2.2.2.1.C.Word,vS y.2.2.2.1.mV,e7] 71)::((j5,Ol (lj c9) 69)::((qh,oC a0 101)::(d1++(l6++h3)))))∧E 0=vP qh∧E 1=d7∧E 7=c8∧E 10=vP f7∧E 23=l7∧E 24=vI (r5.length:Int)∧E 25=vI (j3:Int)∧E 36=vA [vI y.1.Kind,vS y.1.Head.lu,vS y.1.Head.Word,vS y.1.nj,vS y.1.B.lu,vS y.1.B.Word,vS y.1.C.lu,vS y.1.C.Word,vS y.1.mV,g4]∧E 37=vB y.2.2.1∧Sl (Pl (lJ .u8)) 1 d5 g4 y.2.1∧Sl (Pl (lJ .u8)) 1 d5 e7 y.2.2.2.2∧Fr qa.heap.size e7) (bm 12 1023) 2 ?_ λy c4 f3=>?_))))))
  ·rintro ⟨a,e6,p9,ad,p1⟩ E W ⟨f7,g4,e7,d5,h3,d3,j,d,j9,k0,k1,g0,k2,k3,k4,k5,k6,h1,m5,m2⟩ d0
   obtain ⟨f4,f8,rfl⟩:=h1.form
   let e8:=C3 a.Kind a.Head.lu a.Head.Word a.nj a.B.lu a.B.Word a.C.lu a.C.Word a.mV f4 e6.length f8
   refine XO 10 Z (lZ (vA e8) e8.toArray d g0 k5 bW oc nb Z (λn8 d=>?_))
   have g:=d.has.nx d3 (Db (Kb (Kb Sn)))
   refine ⟨g,X 11 Z g (nB k6) (mG kr (lE ?_))⟩
   have d:=d.ll (Kb (Db St))
   have d:=d.drew
   have g:=d.has.ll (Kb Sn)
   refine mF g lV (X 0 Z g (lz k1) (X 1 Z g (ly sP g0) (XH 2 Z g (λ_ hS=>lq Z (lC hS Mh (lj a) Z bF aI)) (X 3 Z g (ly B9 g0) (XH 4 Z g (λ_ hS=>lq Z (lA hS Mh Z dq)) (bS d0 λc0 i1 d0=>XE 5 Z (oG d call215 (na.mN (Kd mv i1)) λn9 p5 af n3 d c3 k g8=>?_)))))))
   have g:=d.has.nx c3 (Dr (Kb Sn))
   refine ⟨g,?_⟩
   obtain ⟨c5,c6,rfl⟩:=g8.form
   let g5:=C3 a.Kind a.Head.lu a.Head.Word a.nj a.B.lu a.B.Word a.C.lu a.C.Word a.mV c5 c0.length c6
   refine X 6 Z g (mW (v:=vA g5) (pZ Z Z) (mz cQ dY (OG _ dY) kr)) ?_
   obtain ⟨l3,d,d4,q,i6⟩:=ST.xM d g8 (λ_=>rfl)
   refine XE 7 Z (mn (cs:=g5.toArray) d (nw Z) (nU cF bW cQ) λo0 p0 d=>?_)
   have g:=d.has.nx (c3.trans d4) (Db (Kb Sn))
   refine ⟨g,?_⟩
   have d:=d.perm (Nr (Qb (Qb (Qb Qz))) Nz)
   refine bS d0 λk7 h9 d0=>XE 8 Z (wW (B:=d1) ra d dc cF Bk.1 Bk.2.1 Z Bk.2.2.1 Bk.2.2.2 Z Z (e9.mono ra ((d3.trans c3).trans d4)) (EI.lit ra (l:=[(⟨a,c0⟩:Signed)]) (.cons (ys:=C3 a.Kind a.Head.lu a.Head.Word a.nj a.B.lu a.B.Word a.C.lu a.C.Word a.mV c5 c0.length c6) (mR.mk ⟨.slice c5 c0.length c6,Z,i6⟩) .nil) Z nb (d.at_ (Ma Mh))) h9 λo1 k9 j4 d h7=>?_)
   have g:=d.has.nx (c3.trans d4) (Dr (Db (Kb Sn)))
   refine ⟨g,X 9 Z g (nB Z) (mG kr (mx (lE ?_)))⟩
   have d:=d.ll (Kr (Db (Db St)))
   exact ⟨k4,k3,k9,k7,j4,l3,_,((z.trans d3).trans c3).trans d4,((h.trans j).trans k).trans q,d.ll (Sb (Pr Pz) St),j9,k0,Z,k2,h7,d0⟩
  refine IL 5 9 Z Z kr (.inl Z) (.inl Z) Z Z dc dc ?_ ?_
  ·refine bS c4 λp3 i2 c4=>?_
   refine D0 (args:=[vA [g6,q0,q1],vA (lj c9)]) (caps:=#[]) [] _ d (aT _) Z call58 (by exact px Z Z) (λhH hN ab an=>my.mN (FC ⟨hH,hN,ab⟩ mv mv i2)) (λo2 p6 l4 n1 d d6 s h5=>?_)
   obtain ⟨l1,f0,rfl,i9⟩:=h5
   replace f0:=f0.symm; subst f0
   have d:=d.perm Tn
   have g:=d.has.nx d6 (Kb (Kb Sn))
   refine ⟨g,X 6 Z g (lz Z) (X 7 Z g (pA Z Z) (X 8 Z g (pA Z Z) (XE 9 Z (lY d cQ λo3 j6 d=>?_))))⟩
   have g:=d.has.nx d6 (Db (Kb (Kb Sn)))
   refine ⟨g,?_⟩
   cases sj c4
   refine ov kr (f3 _ _ ⟨j6,l1,vN,l4,_,d6,s,d.ll,d2,e2,e3,Z,e4,eN,eI,Z,Z,i9,Sl.nil _ _ _,Fr.nil _⟩)
  ·refine lY d cQ (λo4 j7 d=>?_)
   have g:=d.has.ll (Db (Kb (Kb Sn)))
   refine ⟨g,bS c4 λp4 i3 c4=>?_⟩
   refine XE 5 Z (eD d (aT _) call58 (λhh=>my.mN (FC hh mv mv i3)) ?_ (L0:=[]))
   rintro _ p7 l5 n2 d f2 t ⟨l2,f1,rfl,j0⟩
   cases f1
   have g:=d.has.nx f2 (Db (Kb (Kb Sn)))
   refine ⟨g,X 6 Z g (lz Z) (X 7 Z g (pA Z Z) (X 8 Z g (pA Z Z) ?_))⟩
   cases sj c4
   refine ov kr (f3 _ _ ⟨j7,l2,vN,l5,_,f2,t,d.ll,d2,e2,e3,Z,e4,eN,eI,Z,Z,j0,Sl.nil _ _ _,Fr.nil _⟩)
 rintro E W ⟨⟨eI,eN⟩,c8,e5,d1,c1,f6,z,h,d,d2,e2,e3,e4,e9,b0⟩
 refine lE ?_
 have d:=d.ll (Kb (Kr (Dr St)))
 refine sg (Wh d2 (Wh d2 (Wn (Wf EF (VB d Mh Z Z dQ (Wh e2 ?_))))))
 obtain ⟨d8,e0,rfl⟩:=b7.form
 obtain ⟨d9,e1,rfl⟩:=g2.form
 refine VE (mn (cs:=#[.slice d8 qx.Shown.length e0,.slice d9 qt.length e1]) d (pZ Z Z) (nU iI fx iN) λo6 j8 d=>bS b0 λk8 i4 b0=>VE (oG d call216 (na.mN (JQ (wo.lit (l:=[qx.Shown,qt]) (vs:=[.slice d8 qx.Shown.length e0,.slice d9 qt.length e1]) Z nb (d.at_ Mh) (.cons mv (.cons mv .nil))) i4)) λo7 l0 ag n4 d b1 x h8=>bS b0 λg3 i5 b0=>VE (oG d kp (wB (h8.sl mY λb o hq=>d.at_ (Ml hq)) i5) λo8 p8 ah n5 d b2 O g9=>Wn (Wf EF ?_))))
 obtain ⟨f5,f9,rfl⟩:=g9.form
 let g7:Value:= .slice f5 g3.length f9
 have d:=d.perm (Nb (Pr (Pr (Pb Pz))) Nz)
 refine VO (lZ g7 (Cm qx q0 q1 q2 g7 q4 q5 q6 q7 q8 q9 a4 a5 a6 a7 a8 a9 I J K M N Q T U) d Z Z fx oc nb Z (λo9 d=>ln ?_))
 have d:=d.ll (Kb (Kr (Dr (Db St))))
 refine sg (Wh e3 (Wa (Wa (lt ?_))))
 cases sj b0
 refine rq (v:=c8) (u:=vI 0) Z Z Z ?_
 have d:=d.perm (Nr (Qb (Qr Qz)) Nz)
 obtain ⟨ai,d,b9,P,i7⟩:=ST.Bb ra d (e9.mono ra (b1.trans b2))
 have d:=d.perm (Nr (Qb Qz) Nz)
 obtain ⟨aj,d,b3,Y,i8⟩:=ST.xM d g9 mY
 exact ⟨_,_,_,Z,d.mB (Kb Sn),((((b6.trans z).trans b1).trans b2).trans b9).trans b3,((((aa.trans h).trans x).trans O).trans P).trans Y,ST.lG d (mJ.mem (Kb Sn)),c8,q0,q1,q2,g7,q4,q5,Z,Z,mv,mv,mv,mv,i8,mv,mv⟩
theorem OD {a3 a4 a5 i j k D G H I J K M N:Value} {r:(ow×Int×mD)} (h0:oa qe ((qh,Ob (Cm qx q0 q1 q2 q3 q4 q5 q6 q7 q8 q9 a3 a4 a5 i j k D G H I J K M N) 101)::[]) qa) (u:Sl lU 15 qe q0 qx.lm.lK) (x:Sl mH 8 qe q1 qx.lm.mi) (z:Sl (Pl lj) 9 qe q2 qx.lD) (U:Sl (Pl lj) 9 qe q3 qx.Shown) (Q:Sl (Pl lp) 2 qe q4 qx.lL) (T:Sl (Pl lp) 2 qe q5 qx.me) (hm:CM qx=some r) :
  my false pg0 151 [vP qh] qa qe ((qh,Ob (Cm qx q0 q1 q2 q3 q4 q5 q6 q7 q8 q9 a3 a4 a5 i j k D G H I J K M N) 101)::[]) (λv L1 μ1=>∃y1 y3 y5 y7 y9 c6 c7 c8,v=vT [vA [vI r.1.Kind,vI r.1.ny,vI r.1.E,vS r.1.Name,y1,y3],vI r.2.1]∧L1=((qh,Ob (Cm r.2.2 y5 y7 y9 c6 c7 c8 q6 q7 q8 q9 a3 a4 a5 i j k D G H I J K M N) 101)::[])∧Sl (Pl lp) 2 μ1 y1 r.1.nX∧Sl mR 10 μ1 y3 r.1.nm∧Sl lU 15 μ1 y5 r.2.2.lm.lK∧Sl mH 8 μ1 y7 r.2.2.lm.mi∧Sl (Pl lj) 9 μ1 y9 r.2.2.lD∧Sl (Pl lj) 9 μ1 c6 r.2.2.Shown∧Sl (Pl lp) 2 μ1 c7 r.2.2.lL∧Sl (Pl lp) 2 μ1 c8 r.2.2.me):=by
 refine rG h0 24 func151 Z (λa=>sg (VE (lY a cC λW2 b1 a=>Wa (lS (Wm (V (ox iJ Z Z) (ln (oV Z ?_))))))))
 refine kg (Wm (Wm (Wn (VA a (Mt Mh) [vS qx.lm.Name,q0,q1,vS qx.mI,vI qx.Room,q2,q3,q4,q5] eK dN (bS hm λr3 e0 hm=>VE (oG a call185 (Qo mv mv mv mv mv mv e0) λW5 v9 a1 f3 a B h d6=>?_))))))
 obtain ⟨f9,a,y,d,d9⟩:=ST.xM a d6 mY
 refine bS hm λa9 d8 hm=>?_
 refine VE (eD a (Cb (Pb Pz) Cn) call184 (λhh=>GZ hh mv mv mv mv mv mv mv d8) ?_)
 rintro _ f7 g0 f2 a t g ⟨f8,c9,d0,d1,d2,d3,d4,b6,rfl,O,P,c1,c2,W,Y,c5⟩
 cases b6
 have a:=a.perm (Tb Tn)
 refine Wm (Wx Z (Wx Z (Wa (Wa (lS (Wm (Wi Z (ln (CI hm Z (λd7 hm=>?_) λd7 hm=>?_)))))))))
 ·refine sg (V (mW (v:=vA C4) pP (mz cC bO (Be _ bO) kr)) (Wm ?_))
  have a:=a.perm (Nb (Pb Pz) Nz)
  refine VO (FA C4.toArray a bR λf5 a=>Wa (lt (mj ?_)))
  cases sj hm
  exact rf (v0:=vA C4) (v1:=vI a9.2.1) Z Z (lC a.has Mh C4 Z dv bR) Z ⟨_,_,_,Z,a.mB (Db (Kb Sn)),(B.trans y).trans t,(h.trans d).trans g,ST.lG a (mJ.mem (Db (Kb Sn))),vN,vN,c9,d0,d1,d2,d3,d4,Z,Z,Sl.nil _ _ _,Sl.nil _ _ _,P,c1,c2,W,Y,c5⟩
 refine kg (Wm ?_)
 obtain ⟨q,s,rfl⟩:=O.form
 let a0:=C17 q a9.1.length s
 refine V (mW (v:=vA a0) (pZ Z Z) (mz cC bO (Be _ bO) kr)) ?_
 have a:=a.perm (Nb (Pb Pz) Nz)
 refine VO (FA a0.toArray a bR λf6 a=>Wa (lt ?_))
 cases sj hm
 exact rf (v0:=vA a0) (v1:=vI 0) Z Z (lC a.has Mh a0 Z dv bR) Z ⟨_,_,_,Z,a.mB (Db (Kb Sn)),(B.trans y).trans t,(h.trans d).trans g,ST.lG a (mJ.mem (Db (Kb Sn))),vN,.slice q a9.1.length s,c9,d0,d1,d2,d3,d4,Z,Z,Sl.nil _ _ _,O,P,c1,c2,W,Y,c5⟩
theorem JK (N:Formula→Option (List lh)) (a3:∀(j:Formula) (g:Value) (r:List lh) (w:World) (c:Sl lx 5 (hp w) g j.Kids),N j=some r→na false pg0 188 [vA [vI j.Op,vI j.K,vS j.lh.lu,vS j.lh.Word,g]] w 33 lp 2 r) (j:Formula) (g:Value) (r:List lh) (w:World) (c:Sl lx 5 (hp w) g j.Kids) (hm:AV N j=some r) :
  na false pg0 188 [vA [vI j.Op,vI j.K,vS j.lh.lu,vS j.lh.Word,g]] w 33 lp 2 r:=by
 refine vr 25 func188 Z (λd=>sg ?_)
 obtain ⟨A1,c2,rfl⟩:=c.form
 refine VE (mA d Z (λW4 b3 d=>Wa (lS (Wf zb (VB d Mh Z Z bK (Wi Z (ln (CI hm Z (λb2 hm=>?_) λb2 hm=>?_))))))))
 ·refine sg (Wf Dz (VA d Mh (lp j.lh) bJ aM (VE (mn (cs:=(lp j.lh).toArray) d (nw Z) (nU aQ aM dE) λW7 O d=>Wa (ln ?_)))))
  have d:=d.ll (Kb (Db St))
  refine lO (mj ?_)
  cases sj hm
  exact ma (v:= .slice (some ⟨O,0,none⟩) 1 1) Z Z ⟨_,[(O,Ol (lp j.lh) 33)],Z,d.nT (λp h=>by rw [aV] at h; subst h; exact Mh) rv,mg.lit (l:=[j.lh]) (enc:=lp) Z dc Z Z⟩
 refine kg (Wa (lS (Wf xQ (VB d Mh Z Z fR (V (mP aJ Z c) (Wm (mh ?_)))))))
 refine lE ?_
 have d:=d.ll (Db St)
 refine nM 15 14 (λi js E W=>∃u D t G H,lM (hp w) G∧ST false nf w W G (t++H)∧E 3=u∧E 13= .slice A1 j.Kids.length c2∧mg 33 lp 2 u D t∧vQ N js D=some r) c.len ⟨vN,[],[],hp w,_,lM.refl _,d.ll,Z,Z,mg.nil _ _ _,hm⟩ ?_ ?_
 ·rintro a4 a b4 E W a1 ⟨⟨q,P⟩,u,D,t,G,H,y,d,I,J,x,k⟩
  refine sg (VQ (nI (i:=(a4:Int)) (x0:=a) lx.out aJ aD J q mv (aF _) a1) λc4 ⟨_,⟨c6,rfl,K⟩,Y⟩=>V (lq Z (mu d.has Y bD aD)) (VE (lY d bG λb7 c3 d=>?_)))
  obtain ⟨z,B,rfl⟩:=K.form
  let a0:=C1 a.Op a.K a.lh.lu a.lh.Word z a.Kids.length B
  refine VO (FA a0.toArray d aD λb9 d=>ln (lI (Wh I (VA d Mh a0 bD aD (bS k λc5 Zq k=>VE (oG d call188 (a3 a (.slice z a.Kids.length B) _ _ mv Zq) λc0 a6 a8 b5 d M s Q=>?_))))))
  have d:=d.perm (Nr (Qr (Qb Qz)) Nz)
  refine bS k λa5 U k=>VE (oU (enc:=lp) (v:=u) (vs:=a6) (R:=t) d nC dc pt aQ oI.1 oI.2.1 Z oI.2.2.1 oI.2.2.2 Z Z x (Q.RR nC d λp h=>Ma (Ml h)) U λc1 a7 a2 d T=>Wa (mh (mx (lE ?_))))
  have d:=d.ll (Kr (Dr (Db St)))
  exact ⟨q,P,a7,a5,a2,a8,_,y.trans M,d.ll,Z,J,T,k⟩
 rintro E W ⟨⟨q,P⟩,u,D,t,G,H,y,d,I,J,x,k⟩
 refine lE (sg (Wh I (Wa (lt ?_))))
 cases sj k
 exact ma (v:=u) Z Z ⟨_,t,Z,d.nT (λp h=>Ml h) x.nd,x⟩
theorem HJ:∀(n:Nat) (c:Formula) (a:Value) (r:List lh) (w:World) (g:Sl lx 5 (hp w) a c.Kids) (_:wx n c=some r),
  na false pg0 188 [vA [vI c.Op,vI c.K,vS c.lh.lu,vS c.lh.Word,a]] w 33 lp 2 r
 | 0=>by intros; rename_i h; simp only [wx] at h; cases h
 | n+1=>JK (wx n) (HJ n)
theorem Ei (c:Sl lx 5 (hp qa) q0 qy.Kids) (hm:yh qy=some qv) :
  na false pg0 153 [vA [vI qy.Op,vI qy.K,vS qy.lh.lu,vS qy.lh.Word,q0]] qa 33 lp 2 qv:=by
 refine vr 6 func153 Z (λa=>sg ?_)
 obtain ⟨j,k,rfl⟩:=c.form
 refine VE (mA a Z (λN T a=>Wa (lr (VA a Mh (C1 qy.Op qy.K qy.lh.lu qy.lh.Word j qy.Kids.length k) bD aD (bS hm λH y hm=>VE (oG a call188 ((HJ mZ) qy (.slice j qy.Kids.length k) _ _ mv y) λQ z U I a G g t=>bS hm λK u hm=>VE (oG a kf (yx (t.sl nC λb o d=>a.at_ (Ml d)) u) λJ B M x a D h i=>Wa (ln ?_))))))))
 have a:=a.ll (Kr (Dr (Db St)))
 refine lO ?_
 cases sj hm
 exact ma (v:=B) Z Z ⟨_,x,Z,a.nT (λp d=>Ml d) i.nd,i⟩
theorem K6 {g:oe} {t:lh→Option Bool} (a:Sl lx 5 (hp qa) q0 g.lB.Kids) (j:Sl (Pl lj) 9 (hp qa) q1 g.nP) (G:Dd pg0 q2 (hp qa) (λ(x:lh)=>[vA (lp x)]) (λ(qf:Bool)=>vB qf) t) (z:At (hp qa) (vP qh) [q2]) (hm:Cq g t=some qf) :
  mo false pg0 250 [vA [vS g.lh.lu,vS g.lh.Word,vI g.lB.Op,vI g.lB.K,vS g.lB.lh.lu,vS g.lB.lh.Word,q0,q1],vP qh] qa (vB qf):=by
 refine cG 8 func250 Z (λd=>sg ?_)
 obtain ⟨B,D,rfl⟩:=a.form
 obtain ⟨I,J,rfl⟩:=j.form
 refine VE (mA d Z (λK N d=>Wa (lr (Wf IU (VA d Mh (C1 g.lB.Op g.lB.K g.lB.lh.lu g.lB.lh.Word B g.lB.Kids.length D) bD aD (V (lq Z (om d.has (y:=q2) z isAgg185)) (bS hm λQ H hm=>VE (Eg d call111 (AB mv (G.mono d.ns) H) λM d=>Wa (ln ?_)))))))))
 exact lO (rQ hm d)
theorem HO (h0:oa qe [] qa) (y:Sl lU 15 qe q0 qx.lm.lK) (j:Sl mH 8 qe q1 qx.lm.mi) (D:Sl (Pl lj) 9 qe q2 qx.lD) (Q:Sl (Pl lj) 9 qe q3 qx.Shown) (M:Sl (Pl lp) 2 qe q4 qx.lL) (N:Sl (Pl lp) 2 qe q5 qx.me) (hm:zY qx=some qG) :
  my false pg0 237 [vA [vS qx.lm.Name,q0,q1,vS qx.mI,vI qx.Room,q2,q3,q4,q5]] qa qe [] (λv L1 μ1=>∃y1,v=y1∧L1=[]∧Sl mH 8 μ1 y1 qG):=by
 refine rG h0 12 func237 Z (λa=>sg ?_)
 obtain ⟨A1,c2,rfl⟩:=y.form
 obtain ⟨A3,c4,rfl⟩:=j.form
 let a8:Value:= .slice A3 qx.lm.mi.length c4
 obtain ⟨A5,c6,rfl⟩:=D.form
 obtain ⟨A7,c8,rfl⟩:=Q.form
 obtain ⟨A9,a6,rfl⟩:=M.form
 obtain ⟨a5,a7,rfl⟩:=N.form
 refine VE (mA a Z (λi5 j0 a=>Wa (lr (VA a Mh (C2 qx.lm.Name A1 qx.lm.lK.length c2 A3 qx.lm.mi.length c4 qx.mI qx.Room A5 qx.lD.length c6 A7 qx.Shown.length c8 A9 qx.lL.length a6 a5 qx.me.length a7) eK dN (bS hm λc f0 hm=>?_)))))
 refine VE (Gi a (aT _) call112 (λ_ _ _ _=>KJ mv mv mv mv mv mv f0) (λi6 j4 j6 h8 a I q af d7=>?_) (L0:=[]))
 obtain ⟨a2,b9,d2,i0,d3,i1,d4,i2,d5,i3,d6,i4,a3,a9,rfl,f4,f5,f6,f7,f8⟩:=d7
 replace a9:=a9.symm; subst a9
 have a:=a.perm (Tb (Tb (Tb (Tr (Tr (Tr (Tr (Tr Tn))))))))
 refine VE (lY a zeroValue185 λi7 b1 a=>VO (lZ (.func (.func 150) #[] #[vP a2,vP a3]) (#[.func (.func 150) #[] #[vP a2,vP a3]]) a Z Z sizeOf185 oc nb Z (λi8 a=>lr (Wf Bl (Wf IN (VB a (Mt (Mt (Mt (Mt (Ma (Ma (Ma (Ma (Ma Mh))))))))) Z Z isAgg23 (bS hm λg2 f1 hm=>?_)))))))
 let a0:Value:= .func (.func 150) #[] #[vP a2,vP a3]
 refine VE (eD a (aT _) call195 (λhh=>my.mN (Cg hh mv f1)) ?_ (L0:=[]))
 rintro _ j5 j7 h9 a T s ⟨g4,g0,b0,rfl,f9⟩
 obtain rfl:=b0.symm
 have a:=a.perm (Tr Tn)
 refine V (pG (by exact pp Z) Z) ?_
 have a:=a.perm (Nr (Qr (Qb (Qb (Qb (Qb Qz))))) Nz)
 obtain ⟨j8,a,J,O,e3⟩:=ST.zH a
 have a:=a.perm (Nr (Qr (Qb (Qb (Qb (Qb Qz))))) Nz)
 obtain ⟨j9,a,G,P,f2⟩:=ST.xM a f5 mY
 have a:=a.perm (Nr (Qr (Qb (Qb (Qb (Qb Qz))))) Nz)
 obtain ⟨k2,a,B,U,e4⟩:=ST.zH a
 have a:=a.perm (Nr (Qr (Qb (Qb (Qb (Qb Qz))))) Nz)
 obtain ⟨k3,a,z,Y,e5⟩:=ST.zH a
 have a:=a.perm (Nr (Qr (Qb (Qb (Qb (Qb Qz))))) Nz)
 obtain ⟨k4,a,u,a1,f3⟩:=ST.acg a f8 AJ
 have a:=a.perm (Nb (Pr (Pb (Pb Pz))) Nz)
 obtain ⟨k5,a,t,aa,e6⟩:=ST.zH (R:=[(b9,Ob #[d2,d3,d4,d5,d6,vI c.2.2.2.2.2.1] 230)]) a
 have d9:=At.of (e6 _ _ (.head _)) _ Z
 have a:=a.perm (Nb (Pr (Pb Pz)) Nz)
 obtain ⟨k6,a,k,ab,e7⟩:=ST.zH (R:=[(a2,Ob #[vP b9] 192)]) a
 have e0:=At.of (e7 _ _ (.head _)) _ Z
 have a:=a.perm (Nb (Pr (Pb Pz)) Nz)
 obtain ⟨k7,a,i,ad,e8⟩:=ST.zH (R:=[(a3,Ol (C2 c.2.2.2.2.2.2.1 A1 qx.lm.lK.length c2 A3 qx.lm.mi.length c4 c.2.2.2.2.2.2.2.1 c.2.2.2.2.2.2.2.2 A5 qx.lD.length c6 A7 qx.Shown.length c8 A9 qx.lL.length a6 a5 qx.me.length a7) 29)]) a
 have e1:=At.of (e8 _ _ (.head _)) _ Z
 have a:=a.perm (Nb (Pr Pz) Nz)
 obtain ⟨k8,a,g,ae,e9⟩:=ST.zH (R:=[(b1,Ob #[a0] 185)]) a
 have e2:=At.of (e9 _ _ (.head _)) _ Z
 refine bS hm λj3 d0 hm=>?_
 refine VE (eD a (Cr Qz Cn) call194 (λhh=>zq hh (f9.mono yI ((((((((J.trans G).trans B).trans z).trans u).trans t).trans k).trans i).trans g)) ⟨250,#[],#[vP b1],Z,call250,λW x vs qG hs hR hm=>by obtain ⟨_,rfl,g1⟩:=hR; obtain ⟨u0,u1,rfl,k0,k1⟩:=g1.out; exact K6 k0 k1 ⟨150,#[],#[vP a2,vP a3],Z,call150,λW x qG d hm=>(G1 ((f4.at e3).mono (((((((((G.trans B).trans z).trans u).trans t).trans k).trans i).trans g).trans hs).trans d)) mv ((f6.at e4).mono (((((((z.trans u).trans t).trans k).trans i).trans g).trans hs).trans d)) ((f7.at e5).mono ((((((u.trans t).trans k).trans i).trans g).trans hs).trans d)) mv mv mv mv mv mv mv mv mv mv hm).mN⟩ mv hm⟩ d0) ?_)
 rintro _ h5 h7 g9 a c5 h ⟨c7,a4,rfl,d1⟩
 obtain rfl:=a4.symm
 refine Wa (ln ?_)
 have a:=a.ll (Db St)
 refine lO ?_
 obtain rfl:=sj hm
 exact ma (v:=c7) Z Z ⟨_,_,_,Z,a.mB Sn,((((((((((I.trans T).trans J).trans G).trans B).trans z).trans u).trans t).trans k).trans i).trans g).trans c5,((((((((((q.trans s).trans O).trans P).trans U).trans Y).trans a1).trans aa).trans ab).trans ad).trans ae).trans h,ST.lG a (mJ.mem Sn),c7,Z,Z,d1⟩
theorem KU {c:oe} (j:Sl lx 5 (hp qa) q0 c.lB.Kids) (g:Sl (Pl lj) 9 (hp qa) q1 c.nP) (t:At (hp qa) (vP qh) (lj qC)) (hm:Cw c qC=some qf) :
  mo true pg0 267 [vA [vS c.lh.lu,vS c.lh.Word,vI c.lB.Op,vI c.lB.K,vS c.lB.lh.lu,vS c.lB.lh.Word,q0,q1],vP qh] qa (vB qf):=by
 refine cG 9 func267 Z (λa=>sg ?_)
 obtain ⟨B,D,rfl⟩:=j.form
 obtain ⟨x,y,rfl⟩:=g.form
 refine VE (mA a Z (λG I a=>Wa (lr (Wf GN (VB a Mh Z Z dQ (V (lq Z (mu a.has t bF aI)) (bS hm λJ z hm=>VE (Eg a call114 (CE mv z) λH a=>V (nK Z) (Wa (ln ?_))))))))))
 exact lO (rQ hm a)
theorem Et {r:List oe} (s:oa qe [] qa) (D:Sl mH 8 qe q0 qG) (hm:yf qG qC=some r) :
  my false pg0 251 [q0,vA (lj qC)] qa qe [] (λv L1 μ1=>∃Y,v=Y∧L1=[]∧Sl mH 8 μ1 Y r):=by
 refine rG s 9 func251 Z (λd=>sg (VE (mA d Z (λW2 k d=>Wa (lr (Wm (bS hm λr3 U hm=>?_)))))))
 refine VE (eD d (aT _) call195 (λj=>my.mN (Cg j mv U)) ?_ (L0:=[]))
 rintro _ v9 P a8 d H q ⟨Zq,Q,a,rfl,K⟩
 obtain rfl:=a.symm
 have d:=d.perm (Tr Tn)
 refine V (pG (by exact pp Z) Z) ?_
 have d:=d.perm (Nb (Pr Pz) Nz)
 obtain ⟨b4,d,i,g,I⟩:=ST.zH (R:=[(k,Ol (lj qC) 69)]) d
 have G:=At.of (I _ _ (.head _)) _ Z
 refine bS hm λb2 J hm=>?_
 refine VE (eD d (Cr Qz Cn) call194 (λj=>zq j (K.mono yI i) ⟨267,#[],#[vP k],Z,call267,λW x vs r hs y hm=>by obtain ⟨_,rfl,T⟩:=y; obtain ⟨u0,u1,rfl,z,O⟩:=T.out; exact (KU z O mv hm).mN⟩ J) ?_)
 rintro _ b3 b5 a9 d t h ⟨u,c,rfl,M⟩
 obtain rfl:=c.symm
 refine Wa (lt ?_)
 obtain rfl:=sj hm
 exact ma (v:=u) Z Z ⟨_,_,_,Z,d.mB Sn,(H.trans i).trans t,(q.trans g).trans h,ST.lG d (mJ.mem Sn),u,Z,Z,M⟩
theorem Qw (c:Sl lU 15 (hp qa) q0 qx.lm.lK) (u:Sl mH 8 (hp qa) q1 qx.lm.mi) (B:Sl (Pl lj) 9 (hp qa) q2 qx.lD) (M:Sl (Pl lj) 9 (hp qa) q3 qx.Shown) (G:Sl (Pl lp) 2 (hp qa) q4 qx.lL) (K:Sl (Pl lp) 2 (hp qa) q5 qx.me) (hm:Bn qx=some qt) :
  na false pg0 241 [vA [vS qx.lm.Name,q0,q1,vS qx.mI,vI qx.Room,q2,q3,q4,q5]] qa 69 lj 9 qt:=by
 refine vr 46 func241 Z (λd=>sg ?_)
 obtain ⟨A1,c2,rfl⟩:=c.form
 obtain ⟨A3,c4,rfl⟩:=u.form
 obtain ⟨A5,c6,rfl⟩:=B.form
 obtain ⟨A7,c8,rfl⟩:=M.form
 obtain ⟨A9,d3,rfl⟩:=G.form
 obtain ⟨c7,d4,rfl⟩:=K.form
 refine VE (mA d Z (λl8 m0 d=>Wa (lr (VA d Mh (C2 qx.lm.Name A1 qx.lm.lK.length c2 A3 qx.lm.mi.length c4 qx.mI qx.Room A5 qx.lD.length c6 A7 qx.Shown.length c8 A9 qx.lL.length d3 c7 qx.me.length d4) eK dN (bS hm λg1 h8 hm=>?_)))))
 refine VE (eD d (aT _) call237 (λhh=>HO hh mv mv mv mv mv mv h8) ?_ (L0:=[]))
 rintro _ m1 g2 l7 d e8 ad ⟨d8,c0,rfl,a8⟩
 obtain rfl:=c0.symm
 refine Wa (lr (Wa (lS (Wf Bl (Wf Dm (VB d Mh Z Z jk (V (mP dL Z c) ?_)))))))
 refine Wm (ln ?_)
 have d:=d.ll (Db St)
 refine nM 15 14 (λi js E W=>∃J U I j O,lM g2 j∧ST false nf qa W j (I++O)∧E 3=d8∧E 4=J∧E 13= .slice A1 qx.lm.lK.length c2∧mg 69 lj 9 J U I∧vK g1 js U=some qt) c.len ⟨vN,[],[],g2,_,lM.refl _,d.ll,Z,Z,Z,mg.nil _ _ _,hm⟩ ?_ ?_
 ·rintro h9 a i8 E W f8 ⟨⟨h,q⟩,J,U,I,j,O,y,d,a2,a3,a4,s,k⟩
  refine sg (VQ (nI (i:=(h9:Int)) (x0:=a) lU.out dL dO a4 h mv (aF _) f8) λk5 ⟨_,⟨k9,l0,rfl,f4,f5⟩,f0⟩=>V (lq Z (mu d.has f0 jl dO)) (VE (lY d fl λj4 k3 d=>?_)))
  obtain ⟨c9,d5,rfl⟩:=f4.form
  obtain ⟨d0,d6,rfl⟩:=f5.form
  let a0:=C5 a.Signed.lg.Kind a.Signed.lg.Head.lu a.Signed.lg.Head.Word a.Signed.lg.nj a.Signed.lg.B.lu a.Signed.lg.B.Word a.Signed.lg.C.lu a.Signed.lg.C.Word a.Signed.lg.mV c9 a.Signed.Tag.length d5 a.lB.Op a.lB.K a.lB.lh.lu a.lB.lh.Word d0 a.lB.Kids.length d6
  refine VO (FA a0.toArray d dO λj5 d=>lr (Wh a2 (Wf AF (Wf sP (VA d Mh (lj a.Signed.lg) bF aI (bS k λk7 f2 k=>?_))))))
  refine VE (eD d (aT _) call251 (λhh=>Et hh mv f2) ?_ (L0:=[]))
  rintro _ l1 d9 j3 d b1 aa ⟨l5,a7,rfl,g0⟩
  obtain rfl:=a7.symm
  refine V (mP cW Z g0) (Wi Z (ln (CI k Z (λe5 k=>?_) λe5 k=>?_)))
  ·refine lI (Wh a3 (Wf AF (Wf sP (VA d Mh (lj a.Signed.lg) bF aI (VE (mn (cs:=(lj a.Signed.lg).toArray) d (nw Z) (nU aN aI cI) λj7 h2 d=>?_))))))
   have d:=d.perm (Nr (Qb (Qb Qz)) Nz)
   refine bS k λi1 e6 k=>VE (oU (enc:=lj) (v:=J) (vs:= .slice (some ⟨h2,0,none⟩) 1 1) (R:=I) d mY dc pf aN nZ.1 nZ.2.1 Z nZ.2.2.1 nZ.2.2.2 Z Z s (Sl.lit (enc:=lj) (l:=[a.Signed.lg]) mY Z nb Z (d.at_ (Ma Mh))) e6 λj8 i4 g9 d e3=>Wa (mh (mx (lE ?_))))
   have d:=d.ll (Kr (Db (Db St)))
   exact ⟨h,q,i4,i1,g9,d9,_,y.trans b1,d.ll,a2,Z,a4,e3,k⟩
  refine mU (mx (lE ?_))
  have d:=d.ll (Db St)
  exact ⟨h,q,J,U,I,d9,_,y.trans b1,d.ll,a2,a3,a4,s,k⟩
 rintro E W ⟨⟨h,q⟩,J,U,I,j,O,y,d,a2,a3,a4,s,k⟩
 refine lE (lH (sg (Wh a2 (V (mP cW Z a8) (Wm (ln (CJ k (λc1 E W=>∃x Q d2,ST false nf qa W j (Q++d2)∧E 4=x∧mg 69 lj 9 x c1 Q) (λc1 e9=>?_) ?_)))))))
 ·refine nM 35 34 (λi js E W=>∃Y a9 T P,ST false nf qa W j (T++P)∧E 4=Y∧E 33=d8∧mg 69 lj 9 Y a9 T∧xn js a9=some c1) a8.len ⟨J,U,I,_,d.ll,a3,Z,s,e9⟩ ?_ ?_
  ·rintro i0 g i9 E W f9 ⟨⟨h,q⟩,Y,a9,T,P,d,b7,b9,t,z⟩
   refine sg (VQ (nI (i:=(i0:Int)) (x0:=g) mH.out cW dB b9 h mv (aF _) f9) λk6 ⟨_,⟨l2,l3,rfl,f7,c5⟩,f1⟩=>V (lq Z (mu d.has f1 iP dB)) (VE (lY d gh λk0 k4 d=>?_)))
   obtain ⟨d1,d7,rfl⟩:=f7.form
   obtain ⟨b2,b6,rfl⟩:=c5.form
   let b8:=C8 g.lh.lu g.lh.Word g.lB.Op g.lB.K g.lB.lh.lu g.lB.lh.Word d1 g.lB.Kids.length d7 b2 g.nP.length b6
   refine VO (FA b8.toArray d dB λk1 d=>ln (lI (Wh b7 (Wf GN (VB d Mh Z Z dQ ?_)))))
   have d:=d.perm (Nr (Qb Qz) Nz)
   refine bS z λi3 e7 z=>VE (oU (enc:=lj) (v:=Y) (vs:= .slice b2 g.nP.length b6) (R:=T) d mY dc pf aN nZ.1 nZ.2.1 Z nZ.2.2.1 nZ.2.2.2 Z Z t mv e7 λk2 i6 h1 d e4=>Wa (mh (mx (lE ?_))))
   have d:=d.ll (Kr (Db St))
   exact ⟨h,q,i6,i3,h1,_,d.ll,Z,b9,e4,z⟩
  rintro E W ⟨⟨h,q⟩,Y,a9,T,P,d,b7,b9,t,z⟩
  refine lE ?_
  obtain rfl:=sj z
  exact ⟨Y,T,_,d.ll,b7,t⟩
 rintro i2 E W ⟨x,Q,d2,d,h6,f6⟩ a5
 refine sg (Wh h6 (bS a5 λk8 f3 a5=>VE (oG d kp (wB (f6.sl mY λb o hq=>d.at_ (Ml hq)) f3) λj9 i5 l6 h0 d i7 ab c3=>Wa (ln ?_))))
 have d:=d.ll (Kr (Dr St))
 refine lO ?_
 obtain rfl:=sj a5
 exact ma (v:=i5) Z Z ⟨_,h0,Z,d.nT (λp hq=>Ml hq) c3.nd,c3⟩
theorem Ke {t:List (lh×Bool)} {j:List (lg×Bool)} (Y:Sl (Pl lj) 9 (hp qa) q0 qt) (B:uR (λ(x:lh)=>vA (lp x)) (λ(x:Bool)=>Value.bool x) (hp qa) q1 t) (H:uR Value.string (λ(x:Bool)=>Value.bool x) (hp qa) q2 qW) (N:uR (λ(x:lg)=>vA (lj x)) (λ(x:Bool)=>Value.bool x) (hp qa) q3 j) (K:At (hp qa) (vP qh) [q0,q1,q2,q3]) (hm:BH qt t qW j qC=some qf) :
  mo true pg0 268 [vP qh,vA (lj qC)] qa (vB qf):=by
 refine cG 22 func268 Z (λg=>sg (VE (mA g Z (λW2 u g=>Wa (ln (lH ?_))))))
 have g:=g.drew
 have d:=g.has.ll (Kb Sn)
 refine mF d lV (X 0 Z d (lz Z) (X 1 Z d (lX Z) (XQ 2 Z d (pM [q1] Ph Z K Z) λv a0=>XH 3 Z d (λ_ i=>lq Z (om i (y:=q1) a0 isAgg324)) (X 4 Z d (ly yv Z) (XH 5 Z d (λ_ i=>lq Z (lC i Mh (lp qC.Head) Z bJ aM)) (XH 6 Z d (λ_ i=>zG (k:=qC.Head) (z:=false) (vf:=λ(x:Bool)=>Value.bool x) DY underlying324 gC Z Z (B.mono λb o q=>i.1 b o q)) (X 7 Z d (lz Z) (PJ hm (λU E W=>∃T,ST true nf qa W (hp qa) ((u,Ol (lj qC) 69)::T)∧E 4=vB false∧E 21=vB U) (bm 18 131071) 1 ?_ λU D M=>?_))))))))
 ·rintro J E W ⟨T,g,a5,a3⟩ s
  have d:=g.has.ll (Kb Sn)
  refine X 17 Z d (nB a3) (mG kr (lE ?_))
  exact lO (rQ s g)
 refine bC D (λa D=>?_) (λa D=>?_)
 ·refine Xn 8 Z Z (cB a) d (Xn 9 Z Z (cB a) d (Xn 10 Z Z (cB a) d (Xn 11 Z Z (cB a) d (Xn 12 Z Z (cB a) d (Xn 13 Z Z (cB a) d (Xn 14 Z Z (cB a) d (Xn 15 Z Z (cB a) d (X 16 Z d (lQ (cB a) Z) ?_))))))))
  cases sj D
  refine ov kr (M _ _ ⟨_,g.ll,Z,Z⟩)
 refine Xg 8 Z Z (cB a) d (lz Z) (Xg 9 Z Z (cB a) d (lX Z) (ym 10 Z kr (.inr ⟨7,false,12,Z,Z,tc,cB a⟩) Z dc (λ_ _ h=>h) d (pM [q2] TK Z K Z) λI a2=>uV 11 Z Z (cB a) d (λ_ i=>lq Z (om i (y:=q2) a2 isAgg235)) (Xg 12 Z Z (cB a) d (ly yv Z) (Xg 13 Z Z (cB a) d (ly Bo Z) (uV 14 Z Z (cB a) d (λ_ i=>lq Z (lA i Mh Z cA)) (uV 15 Z Z (cB a) d (λ_ i=>zG (k:=qC.Head.Word) (z:=false) (vf:=λ(x:Bool)=>Value.bool x) HQ fq gC Z Z (H.mono λb o q=>i.1 b o q)) (X 16 Z d (lN (cB a) Z) ?_)))))))
 cases sj D
 refine ov kr (M _ _ ⟨_,g.ll,Z,Z⟩)
theorem Js {D:List (lh×Bool)} {B:List (lg×Bool)} {r:((List (lh×Bool))×(List (ByteArray×Bool))×(List (lg×Bool)))} (h0:oa qe ((qh,Ob #[q0,q1,q2,q3] 327)::(qo++(qp++(qq++[])))) qa) (b6:Sl (Pl lj) 9 qe q0 qt) (N:ng (λ(x:lh)=>vA (lp x)) (λ(x:Bool)=>Value.bool x) q1 D qo) (I:ng Value.string (λ(x:Bool)=>Value.bool x) q2 qW qp) (K:ng (λ(x:lg)=>vA (lj x)) (λ(x:Bool)=>Value.bool x) q3 B qq) (hm:yC qt D qW B qC=some r) :
  nt true pg0 269 [vP qh,vA (lj qC)] qa ((qh,Ob #[q0,q1,q2,q3] 327)::(qo++(qp++(qq++[])))) (λv L1 W'=>∃S1 S3 S5,v=vT []∧L1=((qh,Ob #[q0,q1,q2,q3] 327)::(S1++(S3++(S5++[]))))∧ng (λ(x:lh)=>vA (lp x)) (λ(x:Bool)=>Value.bool x) q1 r.1 S1∧ng Value.string (λ(x:Bool)=>Value.bool x) q2 r.2.1 S3∧ng (λ(x:lg)=>vA (lj x)) (λ(x:Bool)=>Value.bool x) q3 r.2.2 S5):=by
 refine B6 h0 34 func269 Z (λa=>sg (VE (mA a Z (λW2 t a=>ln (lH ?_)))))
 have a:=a.drew
 have d:=a.has.ll (Kb (Kb Sn))
 refine mF d lV (X 0 Z d (lz Z) (X 1 Z d (lX Z) (X 2 Z d (ly Fk Z) (XH 3 Z d (λ_ g=>lq Z (lA g (Mt Mh) Z kB)) (XH 4 Z d (λ_ g=>lq Z (lC g Mh (lj qC) Z bF aI)) ?_)))))
 have a:=a.perm (Nr (Qb (Qb (Qr (Qr Qz)))) Nz)
 refine XO 5 Z (Fm (k:=qC) (v:=true) (vf:=λ(x:Bool)=>Value.bool x)  YI gq a K Z Z Z (λW9 a5 a q=>?_))
 have d:=a.has.ll (Dr (Kb (Kb Sn)))
 refine ⟨d,mG kr (lE (lH (sg (VA a (Ma Mh) (lj qC) bF aI (bS hm λe2 b7 hm=>VE (oG a call223 (Lh qC _ _  b7) λe1 e3 e4 e0 a c9 y b5=>?_))))))⟩
 obtain ⟨c8,a,d0,O,b9⟩:=ST.xM a b5 nC
 refine bS hm λ_ s hm=>VQ (Ds (i:=1) aQ aM Z Z b9 (uh s) (tY s)) (λc6 a4=>V (mP aQ Z a4.1) (Wm (ln (nM 15 14 (λi js E W=>∃Q J a2,ST true (keys ((qh,Ob #[q0,q1,q2,q3] 327)::(qo++(qp++(qq++[]))))) qa W c8 ((t,Ol (lj qC) 69)::((qh,Ob #[q0,q1,q2,q3] 327)::(J++(a5++(qp++a2)))))∧E 0=vP qh∧E 3=vP t∧E 13=c6∧ng (λ(x:lh)=>vA (lp x)) (λ(x:Bool)=>Value.bool x) q1 Q J∧ta qC qW B js Q=some r) a4.1.len ⟨D,qo,_,a.ll (Sb (Pr Pz) (Sb (Pr Pz) (Sr (Qr Qz) St))),Z,Z,Z,N,hm⟩ ?_ ?_))))
 ·rintro c5 T d9 E W c0 ⟨⟨j,u⟩,Q,J,a2,a,Y,h,a3,M,z⟩
  refine sg (VQ (rp (enc:=lp) (i:=(c5:Int)) (x0:=T) aQ aM a3 j a4.1 (aF _) c0) λd8 b2=>V (lq Z (mu a.has b2 bJ aM)) (VE (lY a dE λd2 d6 a=>VO (FA (h1:=pt T) ((lp T).toArray) a aM λd3 a=>ln ?_))))
  have a:=a.drew
  have d:=a.has.ll (Kb (Db (Kb Sn)))
  refine mF d lV (X 0 Z d (lz Y) (X 1 Z d (lX Z) (X 2 Z d (ly Ph Z) (XH 3 Z d (λ_ g=>lq Z (lA g (Mt Mh) Z isAgg324)) (XH 4 Z d (λ_ g=>lq Z (lC g Mh (lp T) Z bJ aM)) ?_)))))
  have a:=a.perm (Nr (Qb (Qb (Qb Qz))) Nz)
  refine XO 5 Z (Fm (k:=T) (v:=true) (vf:=λ(x:Bool)=>Value.bool x)  DY underlying324 a M Z Z Z (λd4 b3 a P=>?_))
  have d:=a.has.ll (Dr (Kb (Db (Kb Sn))))
  refine ⟨d,mG kr (mx (lE ?_))⟩
  have a:=a.ll (Kr (Db St))
  exact ⟨j,u,pO mq Q T true,b3,_,a.ll (Sb (Pr Pz) (Sb (Pr Pz) St)),Y,h,a3,P,z⟩
 rintro E W ⟨⟨j,u⟩,Q,J,a2,a,Y,h,a3,M,z⟩
 refine lE (sg (V (ly AD h) (VB a Mh Z Z bK (Wi Z (ln (CI z Z (λU z=>?_) λU z=>?_))))))
 ·have a:=a.drew
  have d:=a.has.ll (Kb (Kb Sn))
  refine mF d lV (X 0 Z d (lz Y) (X 1 Z d (lX Z) (X 2 Z d (ly TK Z) (XH 3 Z d (λ_ g=>lq Z (lA g (Mt Mh) Z isAgg235)) (X 4 Z d (ly Du h) (XH 5 Z d (λ_ g=>lq Z (lA g Mh Z cA)) ?_))))))
  have a:=a.perm (Nr (Qb (Qb (Qr (Qr Qz)))) Nz)
  refine XO 6 Z (Fm (k:=qC.mV) (v:=true) (vf:=λ(x:Bool)=>Value.bool x)  HQ fq a I Z Z Z (λd5 b4 a a9=>?_))
  have d:=a.has.ll (Dr (Kb (Kb Sn)))
  refine ⟨d,mG kr (rI ?_)⟩
  cases sj z
  exact pF Z ⟨_,_,Z,a.mB (Sb (Pr (Pb Pz)) (Sr (Qr (Qb Qz)) (Kr (Db (Kr Sn))))),J,b4,a5,Z,Z,M,a9,q⟩
 refine mU (rI ?_)
 cases sj z
 exact pF Z ⟨_,_,Z,a.mB (Db (Kb (Kr (Sr (Qr Qz) (Kr Sn))))),J,qp,a5,Z,Z,M,I,q⟩
theorem Jd {a3:List (lh×Bool)} {y:List (lg×Bool)} {r:(Int×(List (lh×Bool))×(List (ByteArray×Bool))×(List (lg×Bool)))} (h0:oa qe ((qh,Ob #[q0,q1,q2,q3] 327)::(qo++(qp++(qq++[])))) qa) (M:Sl (Pl lj) 9 qe q0 qt) (d7:ng (λ(x:lh)=>vA (lp x)) (λ(x:Bool)=>Value.bool x) q1 a3 qo) (e4:ng Value.string (λ(x:Bool)=>Value.bool x) q2 qW qp) (b0:ng (λ(x:lg)=>vA (lj x)) (λ(x:Bool)=>Value.bool x) q3 y qq) (m0:Sl (Pl lp) 2 qe q4 qv) (hm:wK qt a3 qW y qv=some r) :
  nt false pg0 253 [vP qh,q4] qa ((qh,Ob #[q0,q1,q2,q3] 327)::(qo++(qp++(qq++[])))) (λv L1 W'=>∃S1 S3 S5,v=vI r.1∧L1=((qh,Ob #[q0,q1,q2,q3] 327)::(S1++(S3++(S5++[]))))∧ng (λ(x:lh)=>vA (lp x)) (λ(x:Bool)=>Value.bool x) q1 r.2.1 S1∧ng Value.string (λ(x:Bool)=>Value.bool x) q2 r.2.2.1 S3∧ng (λ(x:lg)=>vA (lj x)) (λ(x:Bool)=>Value.bool x) q3 r.2.2.2 S5):=by
 let h6:Value:=vI (y.length:Int)
 let g6:Value:=vP qh
 let g5:=(#[q0,q1,q2,q3]:Array Value)
 let b8:=(qh,oC g5 327)::(qo++(qp++(qq++[])))
 refine B6 h0 75 func253 Z (λa=>sg (Wa (lS (Wm (V (ox underlying311 Z Z) (ln (oV Z (mU ?_))))))))
 refine lE (lH (sg (Wm (bS hm λr1 m6 hm=>VE (oG a kf (yx mv m6) λW3 v7 j R8 a f4 ab h1=>V (sf aQ Z h1) (Wm (ln (nM 16 15 (λi js E W=>∃J e8 f2,ST false (keys b8) qa W j ((qh,oC g5 327)::(e8++(R8++(qp++(qq++f2)))))∧E 0=g6∧E 14=v7∧ng (λ(x:lh)=>vA (lp x)) (λ(x:Bool)=>Value.bool x) q1 J e8∧rK qt qW y js J=some r) h1.len ⟨a3,qo,_,a.ll (Sb (Pr Pz) (Sr (Qr Qz) St)),Z,Z,d7,hm⟩ ?_ ?_))))))))
 ·rintro m7 d9 p0 E W j4 ⟨⟨q,O⟩,J,e8,f2,a,d6,f3,f5,c0⟩
  refine sg (VQ (pC (i:=(m7:Int)) (x0:=d9) aQ aM f3 q h1 (aF _) j4) λo7 l0=>V (lq Z (uZ a.has (λp g=>Mt (Ma (Ml g))) h1 nC l0 j4 bJ aM)) (VE (lY a dE λo2 o5 a=>VO (FA (h1:=pt d9) ((lp d9).toArray) a aM λo3 a=>ln ?_))))
  have a:=a.drew
  have d:=a.has.ll (Kb (Kb Sn))
  refine mF d lV (X 0 Z d (lz d6) (X 1 Z d (lX Z) (X 2 Z d (ly Ph Z) (XH 3 Z d (λ_ h=>lq Z (lA h (Mt Mh) Z isAgg324)) (XH 4 Z d (λ_ h=>lq Z (lC h Mh (lp d9) Z bJ aM)) ?_)))))
  have a:=a.perm (Nr (Qb (Qb Qz)) Nz)
  refine XO 5 Z (Fm (k:=d9) (v:=true) (vf:=λ(x:Bool)=>Value.bool x)  DY underlying324 a f5 Z Z Z (λo4 l8 a k9=>?_))
  have d:=a.has.ll (Dr (Kb (Kb Sn)))
  refine ⟨d,mG kr (mx (lE ?_))⟩
  have a:=a.ll (Kr (Db St))
  exact ⟨q,O,pO mq J d9 true,l8,_,a.ll (Sb (Pr Pz) St),d6,f3,k9,c0⟩
 rintro E W ⟨⟨q,O⟩,J,e8,f2,a,d6,f3,f5,c0⟩
 refine lE ?_
 have a:=a.ll (Kb (Kr (Dr St)))
 refine sg (Wh d6 (Wn (Wf Fk (VB a Mh Z Z kB (V (I7 (vf:=λ(x:Bool)=>Value.bool x) (kenc:=λ(x:lg)=>vA (lj x)) gq Z (b0.at (λb o g=>a.has.2 b o (Mt (Ma (Ma (Ml g))))))) (Wa (lS (Wa (mh ?_)))))))))
 refine lE (CJ c0 (λc2 E W=>∃c4 c5 c6 e7 f7,lM j e7∧ST false (keys b8) qa W e7 ((qh,oC g5 327)::(c4++(c5++(c6++f7))))∧E 0=g6∧E 7=h6∧ng (λ(x:lh)=>vA (lp x)) (λ(x:Bool)=>Value.bool x) q1 c2.1 c4∧ng Value.string (λ(x:Bool)=>Value.bool x) q2 c2.2.1 c5∧ng (λ(x:lg)=>vA (lj x)) (λ(x:Bool)=>Value.bool x) q3 c2.2.2 c6) (λc2 i0=>?_) ?_)
 ·refine nO (pE (λm E W=>∃e6 d3 b5 d4 b6 t b7 s f8,lM j s∧ST false (keys b8) qa W s ((qh,oC g5 327)::(b5++(b6++(b7++f8))))∧E 0=g6∧E 7=h6∧E 8=vI e6∧ng (λ(x:lh)=>vA (lp x)) (λ(x:Bool)=>Value.bool x) q1 d3 b5∧ng Value.string (λ(x:Bool)=>Value.bool x) q2 d4 b6∧ng (λ(x:lg)=>vA (lj x)) (λ(x:Bool)=>Value.bool x) q3 t b7∧tg qt m e6 d3 d4 t=some c2) mZ ⟨-1,J,e8,qW,qp,y,qq,j,_,lM.refl _,a.ll,d6,Z,Z,f5,e4,b0,i0⟩ ?_)
  rintro m E W ⟨e6,d3,b5,d4,b6,t,b7,s,f8,a0,a,b9,g2,k3,f0,f1,c1,K⟩
  let j1:Value:=vI (t.length:Int)
  cases m with
  | zero=>rw [tg] at K; cases K
  | succ l5=>
   refine lH (sg (Wh k3 (Wh b9 (Wn (Wf Fk (VB a Mh Z Z kB (V (I7 (vf:=λ(x:Bool)=>Value.bool x) (kenc:=λ(x:lg)=>vA (lj x)) gq Z (c1.at (λb o g=>a.has.2 b o (Mt (Ma (Ma (Ml g))))))) (Wi Z (ln (CI K Z (λh7 K=>?_) λh7 K=>?_))))))))))
   ·refine kn (bg (Wh b9 (Wn (Wf Fk (VB a Mh Z Z kB (V (I7 (vf:=λ(x:Bool)=>Value.bool x) (kenc:=λ(x:lg)=>vA (lj x)) gq Z (c1.at (λb o g=>a.has.2 b o (Mt (Ma (Ma (Ml g))))))) (Wa (lr ?_))))))))
    refine Wh b9 (Wn (Wf Uh (VB a Mh Z Z dQ (V (mP aN Z M) (Wm (ln (xl (CJ K (λc3 E W=>∃c7 c8 c9 d5 f9,lM s d5∧ST false (keys b8) qa W d5 ((qh,oC g5 327)::(c7++(c8++(c9++f9))))∧E 0=g6∧E 7=h6∧E 8=j1∧ng (λ(x:lh)=>vA (lp x)) (λ(x:Bool)=>Value.bool x) q1 c3.1 c7∧ng Value.string (λ(x:Bool)=>Value.bool x) q2 c3.2.1 c8∧ng (λ(x:lg)=>vA (lj x)) (λ(x:Bool)=>Value.bool x) q3 c3.2.2 c9) (λc3 i2=>?_) ?_))))))))
    ·refine nM 48 47 (λi js E W=>∃a5 T P U a7 Y a9 e2,lM s a9∧ST false (keys b8) qa W a9 ((qh,oC g5 327)::(T++(U++(Y++e2))))∧E 0=g6∧E 7=h6∧E 8=j1∧E 46=q0∧ng (λ(x:lh)=>vA (lp x)) (λ(x:Bool)=>Value.bool x) q1 a5 T∧ng Value.string (λ(x:Bool)=>Value.bool x) q2 P U∧ng (λ(x:lg)=>vA (lj x)) (λ(x:Bool)=>Value.bool x) q3 a7 Y∧rL qt js a5 P a7=some c3) M.len ⟨d3,b5,d4,b6,t,b7,s,_,lM.refl _,a.ll,b9,g2,Z,Z,f0,f1,c1,i2⟩ ?_ ?_
     ·rintro h2 H m8 E W j3 ⟨⟨q,O⟩,a5,T,P,U,a7,Y,a9,e2,I,a,u,d0,d1,d2,b2,b3,a2,b1⟩
      refine sg (VQ (rp (enc:=lj) (i:=(h2:Int)) (x0:=H) aN aI d2 q mv (aF _) j3) λn6 i3=>V (lq Z (mu a.has i3 bF aI)) (VE (lY a cI λn0 g1 a=>VO (FA (h1:=pf H) ((lj H).toArray) a aI λn1 a=>ln (lH ?_)))))
      have a:=a.drew
      have d:=a.has.ll (Kb (Kb (Dr (Dr (Kr Sn)))))
      refine mF d lV (X 0 Z d (lz u) (X 1 Z d (lX Z) (X 2 Z d (ly Fk Z) (XH 3 Z d (λ_ h=>lq Z (lA h (Mt Mh) Z kB)) (XH 4 Z d (λ_ h=>lq Z (lC h Mh (lj H) Z bF aI)) (XH 5 Z d (λ_ h=>zG (k:=H) (z:=false) (vf:=λ(x:Bool)=>Value.bool x) YI gq gC Z Z (a2.at (λb o g=>h.2 b o (Mt (Mt (Ml g)))))) (X 6 Z d (nK Z) (X 7 Z d (lz Z) (PJ b1 (λh3 E W=>∃g0,ST false (keys b8) qa W a9 ((g1,Ol (lj H) 69)::((qh,oC g5 327)::(T++(U++(Y++g0)))))∧E 0=g6∧E 7=h6∧E 8=j1∧E 10=vP g1∧E 46=q0∧E 47=vI (qt.length:Int)∧E 48=vI (h2:Int)∧E 63=vB h3) (bm 12 4095) 0 ?_ λh3 Q e0=>?_)))))))))
      ·rintro n9 E W ⟨g0,a,e3,g3,g4,k7,g7,g8,g9,k8⟩ N
       refine mG kr (lE (CI N k8 (λh8 N=>?_) λh8 N=>?_))
       ·refine lI (Wh e3 (V (lq k7 (lC a.has Mh (lj H) Z bF aI)) (bS N λe5 i4 N=>?_)))
        refine VE (eM a (Cb (Pb Pz) (Cr (Qb Qz) (Cr (Qb Qz) (Cr (Qb Qz) Cn)))) call269 (λhh ad=>nt.mN (Js hh mv b2 b3 a2 i4)) ?_)
        rintro _ n8 l6 m9 a h5 a1 aa ⟨j8,j9,k0,d8,rfl,j5,j6,j7⟩
        cases d8
        have a:=a.perm (Tb (Tr (Tr (Tr Tn))))
        refine mh (mx (lE ?_))
        have a:=a.ll (Kb (Kr (Kr (Kr (Db St)))))
        exact ⟨g9,g8,e5.1,j8,e5.2.1,j9,e5.2.2,k0,l6,_,I.trans h5,a.ll,e3,g3,g4,g7,j5,j6,j7,N⟩
       refine mU (mx (lE ?_))
       have a:=a.ll (Db St)
       exact ⟨g9,g8,a5,T,P,U,a7,Y,a9,_,I,a.ll,e3,g3,g4,g7,b2,b3,a2,N⟩
      refine bC Q (λG Q=>?_) (λG Q=>?_)
      ·refine Xg 8 Z Z (cB G) d (lz u) (uV 9 Z Z (cB G) d (λ_ h=>lq Z (lC h Mh (lj H) Z bF aI)) (bS Q λn7 i5 Q=>CZ 10 Z Z (cB G) (Eg a call268 (mo.mN (Ke mv (b2.at (λb o g=>a.at_ (Mt (Mt (Ml g))))) (b3.at (λb o g=>a.at_ (Mt (Mt (Ma (Ml g)))))) (a2.at (λb o g=>a.at_ (Mt (Mt (Ma (Ma (Ml g))))))) (At.of (a.at_ (Mt Mh)) _ Z) i5)) λn3 a=>?_)))
       have d:=a.has.ll (Kb (Kb (Dr (Dr (Kr Sn)))))
       refine ⟨d,X 11 Z d (lQ (cB G) Z) ?_⟩
       cases sj Q
       refine ov kr (e0 _ _ ⟨_,a.ll,u,d0,d1,Z,d2,O,q,Z⟩)
      refine Xn 8 Z Z (cB G) d (Xn 9 Z Z (cB G) d (Xn 10 Z Z (cB G) d (X 11 Z d (lN (cB G) Z) ?_)))
      cases sj Q
      refine ov kr (e0 _ _ ⟨_,a.ll,u,d0,d1,Z,d2,O,q,Z⟩)
     rintro E W ⟨⟨q,O⟩,a5,T,P,U,a7,Y,a9,e2,I,a,u,d0,d1,d2,b2,b3,a2,b1⟩
     refine lE ?_
     cases sj b1
     exact ⟨T,U,Y,a9,_,I,a.ll,u,d0,d1,b2,b3,a2⟩
    rintro ⟨l2,l3,l4⟩ E W ⟨c7,c8,c9,d5,f9,h4,a,k4,k5,k6,i8,i9,j0⟩ i1
    exact mx (lE ⟨l5,bH _,(t.length:Int),l2,c7,l3,c8,l4,c9,d5,_,a0.trans h4,a.ll,k4,k5,k6,i8,i9,j0,i1⟩)
   refine pg (oL (oL (uO (lE ?_))))
   cases sj K
   exact ⟨b5,b6,b7,s,_,a0,a.ll,b9,g2,f0,f1,c1⟩
 rintro ⟨n4,n5,l1⟩ E W ⟨c4,c5,c6,e7,f7,m2,a,k1,k2,i6,i7,e9⟩ h9
 refine sg (Wh k1 (Wn (Wf Fk (VB a Mh Z Z kB (V (I7 (vf:=λ(x:Bool)=>Value.bool x) (kenc:=λ(x:lg)=>vA (lj x)) gq Z (e9.at (λb o g=>a.has.2 b o (Mt (Ma (Ma (Ml g))))))) (Wh k2 (Wi Z (Wa (lt ?_)))))))))
 cases sj h9
 exact ma (v:=vI (wi0 .i64 ((l1.length:Int)-(y.length:Int)))) Z Z ⟨_,_,Z,a.mB (Kb (Kr (Kr (Kr Sn)))),c4,c5,c6,Z,Z,i6,i7,e9⟩
theorem SG {r:((List lg)×(List (lh×Bool))×(List (ByteArray×Bool))×(List (lg×Bool)))} (Y:Sl (Pl lj) 9 (hp qa) q0 qt) (Zq:Sl (Pl lp) 2 (hp qa) q1 qv) (hm:Fw qt qv=some r) :
  nt false pg0 240 [q0,q1] qa [] (λv L1 W'=>∃t s Q S6 U S9 N M,v=vP t∧L1=((t,Ob #[s,Q,U,N] 327)::(S6++(S9++(M++[]))))∧Sl (Pl lj) 9 (wZ W' L1) s r.1∧Fr qa.heap.size s∧ng (λ(x:lh)=>vA (lp x)) (λ(x:Bool)=>Value.bool x) Q r.2.1 S6∧ng Value.string (λ(x:Bool)=>Value.bool x) U r.2.2.1 S9∧ng (λ(x:lg)=>vA (lj x)) (λ(x:Bool)=>Value.bool x) N r.2.2.2 M):=by
 refine vr 17 func240 Z (λd=>sg (Wa (lr (Wm (bS hm λy c1 hm=>VE (oG d kp (wB mv c1) λW3 v7 aa R8 d a3 a1 H=>VE (FN (P:=pg0) (λ(x:lh)=>vA (lp x)) (λ(x:Bool)=>Value.bool x) d λc5 d1 b0 d B=>VE (FN (P:=pg0) Value.string (λ(x:Bool)=>Value.bool x) d λc6 d2 b2 d D=>VE (FN (P:=pg0) (λ(x:lg)=>vA (lj x)) (λ(x:Bool)=>Value.bool x) d λc7 d3 b3 d G=>?_)))))))))
 obtain ⟨a,c,rfl⟩:=H.form
 have d:=d.perm (Nr (Qr (Qr (Qr Qz))) Nz)
 have a2:=H.Wb d (λp hq=>Ml hq)
 obtain ⟨d5,d,J,u,I⟩:=ST.xM d H mY
 have h:=d
 obtain ⟨g,rfl⟩:=B.form
 have d:=h
 have h:=d
 obtain ⟨i,rfl⟩:=D.form
 have d:=h
 have h:=d
 obtain ⟨j,rfl⟩:=G.form
 have d:=h
 refine V (mW (v:=vA [.slice a y.length c,.map (some g),.map (some i),.map (some j)]) (RL Z Z Z Z) (mz zeroValue327 gn (acT _ gn) kr)) (VE (mA d Z (λc8 z d=>Wa (lr (Wm (Wm (bS hm λd0 a4 hm=>?_)))))))
 refine VE (eM d (Cb Pz (Cr (Qr (Qr Qz)) (Cr (Qr Qz) (Cr Qz Cn)))) call253 (λhh a8=>Jd hh mv B D G mv a4) ?_)
 rintro _ d4 d6 c4 d K O q ⟨b4,b5,b6,k,rfl,a5,W,a7⟩
 cases k
 have d:=d.perm (Tb (Tr (Tr (Tr Tn))))
 refine lr (Wm (Wa (lt ?_)))
 cases sj hm
 exact ma (v:=vP z) Z Z ⟨_,_,Z,d.WU (Kb (Kr (Kr (Kr Sn)))),z,.slice a y.length c,.map (some g),b4,.map (some i),b5,.map (some j),b6,Z,Z,I.mono (Pl.mono _) (K.trans (ST.lG d (mJ.mem (Kb (Kr (Kr (Kr Sn))))))),a2,a5,W,a7⟩
theorem Gt {i:List (lh×Bool)} {g:List (lg×Bool)} (Q:Sl (Pl lj) 9 (hp qa) q0 qt) (H:uR (λ(x:lh)=>vA (lp x)) (λ(x:Bool)=>Value.bool x) (hp qa) q1 i) (M:uR Value.string (λ(x:Bool)=>Value.bool x) (hp qa) q2 qW) (t:uR (λ(x:lg)=>vA (lj x)) (λ(x:Bool)=>Value.bool x) (hp qa) q3 g) (K:At (hp qa) (vP qi) [q0,q1,q2,q3]) (N:At (hp qa) (vP qh) [vP qi]) (hm:yy qC qt i qW g=some qf) :
  mo true pg0 254 [vA (lj qC),vP qh] qa (vB qf):=by
 refine cG 11 func254 Z (λd=>sg (VE (mA d Z (λU Y d=>Wa (ln (lH ?_))))))
 have d:=d.drew
 have a:=d.has.ll (Kb Sn)
 refine mF a lV (XH 0 Z a (λ_ h=>lq Z (om h (y:=vP qi) N isAgg311)) (X 1 Z a (lX Z) (XQ 2 Z a (pM [q3] Fk Z K Z) λq T=>XH 3 Z a (λ_ h=>lq Z (om h (y:=q3) T kB)) (XH 4 Z a (λ_ h=>lq Z (lC h Mh (lj qC) Z bF aI)) (XH 5 Z a (λ_ h=>zG (k:=qC) (z:=false) (vf:=λ(x:Bool)=>Value.bool x) YI gq gC Z Z (t.mono λb o j=>h.1 b o j)) (X 6 Z a (nK Z) (X 7 Z a (nB Z) (mG kr (lE ?_)))))))))
 exact lO (rQ hm d)
theorem Ia {i:List (lh×Bool)} {c:List (lg×Bool)} (D:Sl (Pl lj) 9 (hp qa) q0 qt) (G:uR (λ(x:lh)=>vA (lp x)) (λ(x:Bool)=>Value.bool x) (hp qa) q1 i) (I:uR Value.string (λ(x:Bool)=>Value.bool x) (hp qa) q2 qW) (B:uR (λ(x:lg)=>vA (lj x)) (λ(x:Bool)=>Value.bool x) (hp qa) q3 c) (K:At (hp qa) (vP qh) [q0,q1,q2,q3]) (hm:xF qt i qW c=some qu) :
  na false pg0 242 [vP qh] qa 69 lj 9 qu:=by
 refine vr 12 func242 Z (λa=>sg (VE (mA a Z (λW2 N a=>Wa (lS (VB a Mh Z Z isAgg311 (V (ox underlying311 Z Z) (ln (oV Z ?_)))))))))
 refine kg (VB a Mh Z Z isAgg311 (Wn (VQ (pM [q0] Uh Z K Z) λp3 a0=>V (lq Z (om a.has (y:=q0) a0 dQ)) (bS hm λr6 q hm=>VE (oG a call62 (na.mN (vi mv q)) λW8 a2 P Y a z h T=>V (pG (by exact pp Z) Z) (bS hm λa8 U hm=>?_))))))
 refine VE (Gi a (Cr Qz Cn) call92 (λhH s O g=>wO ⟨hH,s,lM.refl _⟩ T ⟨254,#[],#[vP N],Z,call254,λW x qu u hm=>(Gt mv mv mv mv mv (At.of (u _ _ (g _ _ Mh)) _ Z) hm).mN⟩ U) λa7 a9 b0 a6 a a4 j d Q=>?_)
 obtain ⟨a3,k,J,rfl,M⟩:=Q
 replace J:=J.symm; subst J
 have a:=a.perm (Tr Tn)
 refine Wa (ln ?_)
 have a:=a.ll (Kr (Db St))
 refine lO ?_
 cases sj hm
 exact ma (v:=a3) Z Z ⟨_,k,Z,a.nT (λp t=>Ml t) M.nd,M⟩
theorem IQ (c:Sl lU 15 (hp qa) q0 qx.lm.lK) (i:Sl mH 8 (hp qa) q1 qx.lm.mi) (t:Sl (Pl lj) 9 (hp qa) q2 qx.lD) (z:Sl (Pl lj) 9 (hp qa) q3 qx.Shown) (k:Sl (Pl lp) 2 (hp qa) q4 qx.lL) (y:Sl (Pl lp) 2 (hp qa) q5 qx.me) (hm:xv qx=some qt) :
  na false pg0 221 [vA [vS qx.lm.Name,q0,q1,vS qx.mI,vI qx.Room,q2,q3,q4,q5]] qa 69 lj 9 qt:=by
 refine vr 9 func221 Z (λa=>sg ?_)
 obtain ⟨A1,c2,rfl⟩:=c.form
 obtain ⟨A3,c4,rfl⟩:=i.form
 obtain ⟨A5,c6,rfl⟩:=t.form
 obtain ⟨A7,c8,rfl⟩:=z.form
 obtain ⟨Y,M,rfl⟩:=k.form
 obtain ⟨Q,T,rfl⟩:=y.form
 refine VE (mA a Z (λe5 e6 a=>Wa (ln (lH ?_))))
 have a:=a.drew
 have d:=a.has.ll (Kb Sn)
 refine mF d lV (XH 0 Z d (λ_ j=>lq Z (lC j Mh (C2 qx.lm.Name A1 qx.lm.lK.length c2 A3 qx.lm.mi.length c4 qx.mI qx.Room A5 qx.lD.length c6 A7 qx.Shown.length c8 Y qx.lL.length M Q qx.me.length T) Z eK dN)) (X 2 Z d (ly FK Z) (XH 3 Z d (λ_ j=>lq Z (lA j Mh Z eU)) (bS hm λd1 a2 hm=>XE 1 Z (oG a call241 (Qw mv mv mv mv mv mv a2) λd7 c1 e2 d3 a B q P=>?_)))))
 have d:=a.has.nx B (Dr (Kb Sn))
 refine ⟨d,bS hm λJ a3 hm=>?_⟩
 have x:=a.size
 refine XE 4 Z (Gi a (aT _) call240 (λ_ _ _ _=>SG (P.sl mY λb o g=>a.at_ (Ml g)) mv a3) (λd8 e1 e3 d2 a K s h O=>?_) (L0:=[]))
 obtain ⟨b5,c5,c7,d4,c9,d5,d0,d6,I,rfl,W,H,a7,a8,a9⟩:=O
 replace I:=I.symm; subst I
 have a5:=W.lift H h
 replace H:=H.mono x
 have a:=a.perm (Tb (Tr (Tr (Tr Tn))))
 have d:=a.has.nx (B.trans K) (Db (Dr (Dr (Dr (Dr (Kb Sn))))))
 refine ⟨d,bS hm λe0 a4 hm=>XE 5 Z (oG a call242 (Ia mv (a7.at (λb o g=>a.at_ (Mt (Ml g)))) (a8.at (λb o g=>a.at_ (Mt (Ma (Ml g))))) (a9.at (λb o g=>a.at_ (Mt (Ma (Ma (Ml g)))))) (At.of (a.at_ Mh) _ Z) a4) λd9 c3 e4 b4 a U u N=>?_)⟩
 have d:=a.has.nx ((B.trans K).trans U) (Dr (Db (Dr (Dr (Dr (Dr (Kb Sn)))))))
 refine ⟨d,X 6 Z d (nB Z) (mG kr (lE ?_))⟩
 have a:=a.ll (Kr (Db (Dr (Dr (Dr (Dr (Db St)))))))
 refine lO ?_
 cases sj hm
 exact ma (v:=c3) Z Z ⟨_,b4,Z,a.nT (λp g=>Ml g) N.nd,N⟩
theorem Ow (t:Sl lU 15 (hp qa) q0 qx.lm.lK) (u:Sl mH 8 (hp qa) q1 qx.lm.mi) (I:Sl (Pl lj) 9 (hp qa) q2 qx.lD) (Y:Sl (Pl lj) 9 (hp qa) q3 qx.Shown) (K:Sl (Pl lp) 2 (hp qa) q4 qx.lL) (U:Sl (Pl lp) 2 (hp qa) q5 qx.me) (e9:Sl mH 8 (hp qa) q6 qG) (hm:CH qx qG qC=some qv) :
  na false pg0 238 [vA [vS qx.lm.Name,q0,q1,vS qx.mI,vI qx.Room,q2,q3,q4,q5],q6,vA (lj qC)] qa 33 lp 2 qv:=by
 refine vr 48 func238 Z (λa=>sg ?_)
 obtain ⟨A1,c2,rfl⟩:=t.form
 obtain ⟨A3,c4,rfl⟩:=u.form
 obtain ⟨A5,c6,rfl⟩:=I.form
 obtain ⟨A7,c8,rfl⟩:=Y.form
 obtain ⟨A9,b9,rfl⟩:=K.form
 obtain ⟨b7,c0,rfl⟩:=U.form
 let a0:=C2 qx.lm.Name A1 qx.lm.lK.length c2 A3 qx.lm.mi.length c4 qx.mI qx.Room A5 qx.lD.length c6 A7 qx.Shown.length c8 A9 qx.lL.length b9 b7 qx.me.length c0
 refine VE (mA a Z (λm3 d5 a=>VE (mA a Z (λm4 d6 a=>Wa (lr (Wa (lS (Wm (VA a Mh (lj qC) bF aI ?_)))))))))
 refine bS hm λm6 h8 hm=>?_
 refine VE (eD a (aT _) call251 (λq=>Et q mv h8) ?_ (L0:=[]))
 rintro _ m7 h0 m2 a B ad ⟨i9,d3,rfl,d4⟩
 obtain rfl:=d3.symm
 refine V (mP cW Z d4) (Wm (ln (nM 16 15 (λi js E W=>∃Q J N M O,lM h0 M∧ST false nf qa W M ((d6,Ol (lj qC) 69)::((d5,Ol a0 29)::(N++O)))∧E 1=q6∧E 3=vP d5∧E 5=vP d6∧E 7=Q∧E 14=i9∧mg 33 lp 2 Q J N∧wU qG qC qx js J=some qv) d4.len ⟨vN,[],[],h0,_,lM.refl _,a.ll,Z,Z,Z,Z,Z,mg.nil _ _ _,hm⟩ ?_ ?_)))
 ·rintro h9 c j0 E W g8 ⟨⟨P,eN⟩,Q,J,N,M,O,g,a,d1,h,a4,s,d2,a5,x⟩
  refine sg (VQ (nI (i:=(h9:Int)) (x0:=c) mH.out cW dB d2 P mv (aF _) g8) λk8 ⟨_,⟨l3,l4,rfl,d8,g7⟩,f9⟩=>V (lq Z (mu a.has f9 iP dB)) (VE (lY a gh λj6 k6 a=>?_)))
  obtain ⟨a8,b0,rfl⟩:=d8.form
  obtain ⟨e0,e6,rfl⟩:=g7.form
  let a2:=C8 c.lh.lu c.lh.Word c.lB.Op c.lB.K c.lB.lh.lu c.lB.lh.Word a8 c.lB.Kids.length b0 e0 c.nP.length e6
  refine VO (FA a2.toArray a dB λj7 a=>ln (lI (Wh s (Wf IU (VA a Mh (C1 c.lB.Op c.lB.K c.lB.lh.lu c.lB.lh.Word a8 c.lB.Kids.length b0) bD aD (bS x λk9 g0 x=>VE (oG a call153 (Ei mv g0) λj8 i1 i4 j5 a f0 a1 f4=>?_)))))))
  have a:=a.perm (Nr (Qr (Qb (Qb (Qb Qz)))) Nz)
  refine bS x λi0 f6 x=>VE (oU (enc:=lp) (v:=Q) (vs:=i1) (R:=N) a nC dc pt aQ oI.1 oI.2.1 Z oI.2.2.1 oI.2.2.2 Z Z a5 (f4.RR nC a λp d=>Ma (Ml d)) f6 λj9 i2 h1 a f5=>Wa (mh (mx (lE ?_))))
  have a:=a.ll (Kr (Dr (Db St)))
  exact ⟨P,eN,i2,i0,h1,i4,_,g.trans f0,a.ll (Sb (Pr Pz) (Sb (Pr Pz) St)),d1,h,a4,Z,d2,f5,x⟩
 rintro E W ⟨⟨P,eN⟩,Q,J,N,M,O,g,a,d1,h,a4,s,d2,a5,x⟩
 refine lE (lH (sg (Wh d1 (V (lq a4 (lC a.has Mh (lj qC) Z bF aI)) (bS x λl0 g1 x=>?_)))))
 refine VE (eD a (aT _) call251 (λq=>Et q mv g1) ?_ (L0:=[]))
 rintro _ l5 i5 j3 a y a7 ⟨l8,b3,rfl,g9⟩
 obtain rfl:=b3.symm
 refine V (mP cW Z g9) (Wi Z (Wm (LJ x (λf1 E W=>∃e4,ST false nf qa W i5 ((d6,Ol (lj qC) 69)::((d5,Ol a0 29)::(N++e4)))∧E 3=vP d5∧E 5=vP d6∧E 7=Q∧E 35=vB f1) 4 ?_ λf1 H c1=>?_)))
 ·rintro l7 E W ⟨e4,a,h3,h4,h5,h6⟩ k
  refine ln (CI k h6 (λf7 k=>?_) λf7 k=>?_)
  ·refine sg (Wh h5 (Wa (ln ?_)))
   have a:=a.ll (Db (Db St))
   refine lO (mj ?_)
   obtain rfl:=sj k
   exact ma (v:=Q) Z Z ⟨_,N,Z,a.nT (λp d=>Ml d) a5.nd,a5⟩
  refine kn ?_
  have a:=a.ll (Kb (Kb (Dr St)))
  refine sg (V (ly Bl h3) (VA a (Mt Mh) (IV qx.lm.Name A1 qx.lm.lK.length c2 A3 qx.lm.mi.length c4) fa eo (V (lq h4 (lC a.has Mh (lj qC) Z bF aI)) (bS k λj g2 k=>?_))))
  let c5:Value:=vS j.1.lh.Word
  let c3:Value:=vS j.1.lh.lu
  refine VE (eD a (aT _) call119 (λq=>CQ q mv mv g2) ?_ (L0:=[]))
  rintro _ l6 m0 j4 a i7 aa ⟨l9,b4,rfl,d9⟩
  obtain rfl:=b4.symm
  refine Wm (Wx Z (Wx Z (VE (lY a bG λk2 k7 a=>?_))))
  obtain ⟨a9,b1,rfl⟩:=d9.form
  let b8:Value:= .slice a9 j.1.Kids.length b1
  refine VO (FA (#[vI j.1.Op,vI j.1.K,c3,c5,b8]) a aD λk3 a=>Wa (ln ?_))
  have a:=a.ll (Kb (Db (Db St)))
  refine lH (sg (Wm (Wi Z (ln (CI k Z (λf8 k=>?_) λf8 k=>?_)))))
  ·refine sg (Wa (ln ?_))
   have a:=a.ll (Db St)
   refine lO (mj ?_)
   obtain rfl:=sj k
   exact ma (v:=vN) Z Z ⟨_,[],Z,a.nT (λp d=>by cases d) rv,mg.nil _ _ _⟩
  refine kg (VA a Mh [vI j.1.Op,vI j.1.K,c3,c5,b8] bD aD (bS k λl1 g3 k=>VE (oG a call153 (Ei mv g3) λk4 i3 m1 h2 a i8 ab d7=>Wa (ln ?_))))
  have a:=a.ll (Kr (Db St))
  refine lO ?_
  obtain rfl:=sj k
  exact ma (v:=i3) Z Z ⟨_,h2,Z,a.nT (λp d=>Ml d) d7.nd,d7⟩
 refine bC H (λz H=>?_) (λz H=>?_)
 ·refine un z (un z (un z (V (lQ (cB z) Z) ?_)))
  obtain rfl:=sj H
  exact c1 _ _ ⟨_,a.ll,h,a4,s,Z⟩
 refine ug z (lq h (lC a.has (Mt Mh) a0 Z eK dN)) (ug z (lq a4 (lC a.has Mh (lj qC) Z bF aI)) (bS H λl2 g4 H=>tw z (Eg a call233 (Nx mv mv mv mv mv mv g4) λk5 a=>V (lN (cB z) Z) ?_)))
 obtain rfl:=sj H
 exact c1 _ _ ⟨_,a.ll,h,a4,s,Z⟩
theorem O8 (c:Sl lU 15 (hp qa) q0 qx.lm.lK) (g:Sl mH 8 (hp qa) q1 qx.lm.mi) (j:Sl (Pl lj) 9 (hp qa) q2 qx.lD) (z:Sl (Pl lj) 9 (hp qa) q3 qx.Shown) (x:Sl (Pl lp) 2 (hp qa) q4 qx.lL) (y:Sl (Pl lp) 2 (hp qa) q5 qx.me) (hm:Ay qx=some qv) :
  na false pg0 218 [vA [vS qx.lm.Name,q0,q1,vS qx.mI,vI qx.Room,q2,q3,q4,q5]] qa 33 lp 2 qv:=by
 refine vr 25 func218 Z (λa=>sg ?_)
 obtain ⟨A1,c2,rfl⟩:=c.form
 let a4:Value:= .slice A1 qx.lm.lK.length c2
 obtain ⟨A3,c4,rfl⟩:=g.form
 let a5:Value:= .slice A3 qx.lm.mi.length c4
 obtain ⟨A5,c6,rfl⟩:=j.form
 let a6:Value:= .slice A5 qx.lD.length c6
 obtain ⟨A7,c8,rfl⟩:=z.form
 let a7:Value:= .slice A7 qx.Shown.length c8
 obtain ⟨A9,T,rfl⟩:=x.form
 let a8:Value:= .slice A9 qx.lL.length T
 obtain ⟨Q,U,rfl⟩:=y.form
 let a9:Value:= .slice Q qx.me.length U
 let a0:=C2 qx.lm.Name A1 qx.lm.lK.length c2 A3 qx.lm.mi.length c4 qx.mI qx.Room A5 qx.lD.length c6 A7 qx.Shown.length c8 A9 qx.lL.length T Q qx.me.length U
 refine VE (mA a Z (λg7 d3 a=>Wa (lr (VA a Mh a0 eK dN (bS hm λd4 e0 hm=>?_)))))
 refine VE (eD a (aT _) call237 (λhh=>HO hh mv mv mv mv mv mv e0) ?_ (L0:=[]))
 rintro _ h1 h2 g4 a k ad ⟨d5,b9,rfl,e2⟩
 obtain rfl:=b9.symm
 refine Wa (lr (Wa (lS (VA a Mh a0 eK dN (bS hm λh0 e1 hm=>VE (oG a call221 (IQ mv mv mv mv mv mv e1) λg9 f1 d6 e9 a G ae q=>V (sf aN Z q) ?_))))))
 refine Wm (ln (nM 12 11 (λi js E W=>∃M h Y a3 s,lM d6 a3∧ST false nf qa W a3 ((d3,Ol a0 29)::(Y++(e9++s)))∧E 1=vP d3∧E 3=d5∧E 4=M∧E 10=f1∧mg 33 lp 2 M h Y∧wR qx d4 js h=some qv) q.len ⟨vN,[],[],d6,_,lM.refl _,a.ll (Sb (Pr Pz) St),Z,Z,Z,Z,mg.nil _ _ _,hm⟩ ?_ ?_))
 ·rintro e3 N f2 E W c1 ⟨⟨eI,eN⟩,M,h,Y,a3,s,t,a,I,J,O,P,a2,u⟩
  refine sg (VQ (pC (i:=(e3:Int)) (x0:=N) aN aI P eI q (aF _) c1) λg0 d0=>V (lq Z (uZ a.has (λp d=>Mt (Ma (Ml d))) q mY d0 c1 bF aI)) (VE (lY a cI λf4 f9 a=>VO (FA (h1:=pf N) ((lj N).toArray) a aI λf5 a=>ln (lI (Wh O (V (lq I (lC a.has (Mt Mh) a0 Z eK dN)) (Wh J (VA a Mh (lj N) bF aI (bS u λg1 d1 u=>VE (oG a call238 (Ow mv mv mv mv mv mv mv d1) λf6 e5 e8 f3 a c3 aa c5=>?_)))))))))))
  have a:=a.perm (Nr (Qr (Qb (Qb Qz))) Nz)
  refine bS u λe4 c9 u=>VE (oU (enc:=lp) (v:=M) (vs:=e5) (R:=Y) a nC dc pt aQ oI.1 oI.2.1 Z oI.2.2.1 oI.2.2.2 Z Z a2 (c5.RR nC a λp d=>Ma (Ml d)) c9 λf7 e6 d7 a c7=>Wa (mh (mx (lE ?_))))
  have a:=a.ll (Kr (Dr (Db St)))
  exact ⟨eI,eN,e6,e4,d7,e8,_,t.trans c3,a.ll (Sb (Pr Pz) St),I,J,Z,P,c7,u⟩
 rintro E W ⟨⟨eI,eN⟩,M,h,Y,a3,s,t,a,I,J,O,P,a2,u⟩
 refine lE ?_
 have a:=a.ll (Db (Kr (Dr St)))
 refine sg (Wh O (bS u λg2 d2 u=>VE (oG a kf (yx (a2.sl nC λb o d=>a.at_ (Ml d)) d2) λf8 e7 g3 d8 a f0 ab c0=>Wa (ln ?_))))
 have a:=a.ll (Kr (Dr St))
 refine lO ?_
 obtain rfl:=sj u
 exact ma (v:=e7) Z Z ⟨_,d8,Z,a.nT (λp d=>Ml d) c0.nd,c0⟩
theorem Ip (I:Int) (r:List lh) (w:World) (hm:xG I=some r) :
  na true pg0 155 [vN,vI I] w 33 lp 2 r:=by
 refine vr 27 func155 Z (λd=>sg (Wa (lS (Wm (Wi Z (ln (CI hm Z (λK hm=>?_) λK hm=>?_)))))))
 ·cases hm
 refine kn (lH (CJ hm (λu E W=>∃g c t,ST true nf w W (hp w) (c++t)∧E 0=g∧mg 33 lp 2 g u c) (λu a=>?_) ?_))
 ·refine sg (Wm (Wm (V (Jx aQ Z) (Wm (V (CS aQ Z) (Wi Z (Wi Z (Wa (lr (Wm ?_))))))))))
  refine Wi Z (ln (CI a Z (λy a=>?_) λy a=>?_))
  ·refine lI (Wm (Wm (V (Jx aQ Z) (V (Oj aQ aM Z Z) (Wm (bS a λT B a=>VE (Ku (enc:=lp) (z:=K0) d nC dc aQ dT oI.1 oI.2.1 oI.2.2.1 oI.2.2.2 Z Z Z B λN U H d x=>Wm (V (CS aQ Z) (bS a λ_ j a=>VQ (yK (i:=0) aQ aM Z Z x nC (uh j) (tY j)) λM G=>Wa (ln ?_))))))))))
   cases sj a
   exact ⟨M,H,_,d.ll,Z,G⟩
  refine kn ?_
  cases sj a
  exact ⟨vN,[],_,d.ll,Z,mg.nil _ _ _⟩
 rintro Q E W ⟨g,c,t,d,J,k⟩ D
 refine sg (Wh J (Wa (lt ?_)))
 cases sj D
 exact ma (v:=g) Z Z ⟨_,c,Z,d.nT (λp h=>Ml h) k.nd,k⟩
theorem Bi {a0:List (List lh)} (j:Sl (wo lp 2) 1 (hp qa) q0 a0) (hm:uS a0=some qv) :
  na true pg0 115 [q0] qa 33 lp 2 qv:=by
 refine vr 36 func115 Z (λd=>sg (Wa (lr (Wa (lS (Wm ?_))))))
 refine V (mP gr Z j) (Wm (ln (nM 11 10 (λi s E W=>∃u N,ST true nf qa W (hp qa) N∧E 0=q0∧E 3=vI u∧E 9=q0∧te a0 s u=some qv) j.len ⟨0,_,d.ll,Z,Z,Z,hm⟩ ?_ ?_)))
 ·rintro c5 t d4 E W b9 ⟨⟨h,q⟩,u,N,d,Q,T,U,a⟩
  refine sg (VQ (DT (enc:=lp) (k2:=2) (i:=(c5:Int)) (x0:=t) gr fX U h j (aF _) b9) λd6 ⟨c7,b5,b7⟩=>V (lq Z (om d.has (y:=c7) b5 eU)) (Wa (lr (Wh T (Wm (V (mP aQ Z b7) (Wi Z (Wa (mh ?_)))))))))
  refine lE (sg (Wm (Wi Z (ln (CI a Z (λb4 a=>?_) λb4 a=>?_)))))
  ·cases a
  exact mU (mx (lE ⟨h,q,wi0 .i64 (u+(t.length:Int)),_,d.ll,Q,Z,U,a⟩))
 rintro E W ⟨⟨h,q⟩,u,N,d,Q,T,U,a⟩
 refine lE (sg (Wh T (bS a λc6 b6 a=>VE (oG d call155 (Ip u _ _  b6) λd5 c8 a9 c4 d a2 O b3=>Wa (lS (Wh Q (V (mP gr Z j) (Wm ?_))))))))
 refine ln (CJ a (λJ E W=>∃D x M,ST true nf qa W a9 (x++M)∧E 6=D∧mg 33 lp 2 D J x) (λJ a4=>?_) ?_)
 ·refine nM 27 26 (λi s E W=>∃k B g G,ST true nf qa W a9 (g++G)∧E 6=k∧E 25=q0∧mg 33 lp 2 k B g∧sY s B=some J) j.len ⟨c8,c6,c4,_,d.ll,Z,Z,b3,a4⟩ ?_ ?_
  ·rintro c0 c3 c9 E W a7 ⟨⟨h,q⟩,k,B,g,G,d,H,I,z,c⟩
   refine sg (VQ (DT (enc:=lp) (k2:=2) (i:=(c0:Int)) (x0:=c3) gr fX I h mv (aF _) a7) λd2 ⟨Y,a5,a6⟩=>V (lq Z (om d.has (y:=Y) a5 eU)) (Wa (ln (lI (Wh H (Wm (bS c λc1 a1 c=>VE (oU (enc:=lp) (v:=k) (vs:=Y) (R:=g) d nC dc pt aQ oI.1 oI.2.1 Z oI.2.2.1 oI.2.2.2 Z Z z mv a1 λd0 c2 b0 d P=>Wa (mh (mx ?_))))))))))
   exact lE ⟨h,q,c2,c1,b0,_,d.ll,Z,I,P,c⟩
  rintro E W ⟨⟨h,q⟩,k,B,g,G,d,H,I,z,c⟩
  refine lE ?_
  cases sj c
  exact ⟨k,g,_,d.ll,H,z⟩
 rintro d1 E W ⟨D,x,M,d,b2,K⟩ a3
 refine sg (Wh b2 (Wa (lt ?_)))
 cases sj a3
 exact ma (v:=D) Z Z ⟨_,x,Z,d.nT (λp hq=>Ml hq) K.nd,K⟩
theorem J8 (g:Sl (Pl lp) 2 (hp qa) q0 qv) (hm:BD qv qK=some qb) :
  mo true pg0 252 [q0,vA (lp qK)] qa (vI qb):=by
 refine cG 19 func252 Z (λd=>sg (VE (mA d Z (λK G d=>Wa (lS (Wm (V (mP aQ Z g) (Wm (ln ?_)))))))))
 refine nM 8 7 (λi v E W=>∃k,ST true nf qa W (hp qa) ((G,Ol (lp qK) 33)::k)∧E 0=q0∧E 3=vP G∧vt qK v i=some qb) g.len ⟨_,d.ll,Z,Z,hm⟩ ?_ ?_
 ·rintro H x I E W B ⟨⟨j,s⟩,k,d,t,u,a⟩
  refine sg (Wh j (Wa (ln (lH ?_))))
  have d:=d.drew
  have h:=d.has.ll (Kb Sn)
  refine mF h lV (XH 0 Z h (λ_ q=>lq u (lC q Mh (lp qK) Z bJ aM)) (X 1 Z h (lz t) (X 2 Z h (lz Z) (XQ 3 Z h (rp (enc:=lp) (i:=(H:Int)) (x0:=x) aQ aM Z Z g (aF _) B) λJ z=>XH 4 Z h (λ_ q=>lq Z (mu q z bJ aM)) (X 5 Z h (A4 Z Z (rY gp) (xu (yR _ qK x))) (mG kr (lE (CI a Z (λy a=>?_) λy a=>?_))))))))
  ·refine sg (Wm (Wa (ln ?_)))
   have d:=d.ll (Db St)
   refine lO (nz (mj (nz (mj ?_))))
   cases sj a
   exact rP d
  exact mU (mx (lE ⟨j,s,_,d.ll,t,u,a⟩))
 rintro E W ⟨⟨j,s⟩,k,d,t,u,a⟩
 refine lE ?_
 have d:=d.ll (Db St)
 exact sg (Wa (lt (rQ a d)))
theorem Is (i:Sl (Pl lp) 2 (hp qa) q0 qv) (hm:Ai qv qK=some qf) :
  mo true pg0 239 [q0,vA (lp qK)] qa (vB qf):=by
 refine cG 9 func239 Z (λa=>sg (VE (mA a Z (λk u a=>Wa (lr (Wm (VA a Mh (lp qK) bJ aM (bS hm λx j hm=>VE (Eg a call252 (J8 mv j) λt a=>Wi Z (Wa ?_))))))))))
 refine ln ?_
 exact lO (rQ hm a)
theorem Uy (i:Sl (Pl lp) 2 (hp qa) q0 qv) (hm:GC qv qK=some qf) :
  mo true pg0 220 [q0,vA (lp qK)] qa (vB qf):=by
 refine cG 8 func220 Z (λa=>sg (VE (mA a Z (λk u a=>Wa (lr (Wm (VA a Mh (lp qK) bJ aM (bS hm λx j hm=>VE (Eg a call239 (Is mv j) λt a=>Wa (mh ?_))))))))))
 refine lE ?_
 exact lO (rQ hm a)
theorem Ng (K:Sl lU 15 (hp qa) q0 qV) (M:Sl mH 8 (hp qa) q1 qG) (N:Sl (Pl lj) 9 (hp qa) q2 qt) (g:Sl (Pl lj) 9 (hp qa) q3 qu) (U:Sl (Pl lp) 2 (hp qa) q4 qv) (J:Sl (Pl lp) 2 (hp qa) q5 qw) (Y:At (hp qa) (vP qh) [vS qE,q0,q1,vS qF,vI qb,q2,q3,q4,q5]) (hm:DS qK qE qV qG qF qb qt qu qv qw=some qf) :
  mo true pg0 219 [vA (lp qK),vP qh] qa (vB qf):=by
 refine cG 8 func219 Z (λa=>sg (VE (mA a Z (λW2 h a=>Wa (lr (VQ (pM [q5] F2 Z Y Z) λi d=>V (lq Z (om a.has (y:=q5) d eU)) (VA a Mh (lp qK) bJ aM (bS hm λj a2 hm=>VE (Eg a call220 (Uy mv a2) λW8 a=>Wa ?_)))))))))
 refine ln ?_
 exact lO (rQ hm a)
end Go.Proofs.YtojmckcglalbnaaGreat
