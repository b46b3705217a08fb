/- a part of a proof of AuditTells -/
import Derived.Test.YtlfibegniofmjaaGreatAV3W2a
set_option linter.all false
namespace Go.Proofs.YtlfibegniofmjaaGreat
open Go.IntKind renaming wrap → wi0
open Go.Proofs.Tryz renaming prog → pg0
open Go.RowKit
set_option maxRecDepth 10000
open Tryz
variable {q0 q1 q2 q3 q4 q5 q6 q7 q8 q9:Value} {qa:World} {qb:mc} {qc qd qe:Int} {qf qg qh qi qj:LO} {qk ql qm qn:Nat} {qo qp qq:List Int} {qr qs:List kK} {qt qu:Bool} {qv qw:List Formula} {qx qy:Formula} {qz qA:List kL} {qB:kK} {qC qD:ByteArray} {qE qF:List lx} {qG:mW} {qH qI:pd} {qJ:List (ByteArray×(List kK))} {qK:List (kL×(List (ByteArray×Bool)))} {qL:List (kL×(List kK))} {qM:List nJ} {qN:Option mN} {qO:lL} {qP qQ:kL} {qR:(Bool×(List Int))} {qS:List Key} {qT qU:List Signed} {qV:lj} {qW:Signed} {qX:(Formula×Int)} {qY:List sT} {qZ:(Formula×Formula)→Option Int}
set_option maxHeartbeats 4000000 in
theorem Pu (r:Bool) (w:World) (hm:CR =some r) :
  lF false pg0 4 [] w (vB r):=by
 refine cG 102 func4 Z (λd=>sg (Wa (lr (VE (lE (cs:=[.int .u8 107].toArray) d (mB Z) (ng aT fc fT) λW2 b1 d=>?_)))))
 have r4:Fr w.heap.size (.slice (some ⟨b1,0,none⟩) 1 1):=Fr.box d Mh
 refine VE (P9 (l:=[107]) d aT cJ Z Z Z dc λW3 az d n4 ay m0=>V (lX (v:=vA (YY b1)) (pF Z Z) (lG jM iX (acv _ iX) kr)) (VE (lE (cs:=(YY b1).toArray) d (mB Z) (ng gD iq jM) λo9 b9 d=>?_)))
 have n2:Fr w.heap.size (.slice (some ⟨b9,0,none⟩) 1 1):=Fr.box d Mh
 obtain ⟨s1,d,m1,ae,l3⟩:=ST.xW (B:=[(b9,Ol (YY b1) 51)]) FJ d (mn.lit FJ (l:=[(⟨K2,[107]⟩:Key)]) (.cons (ys:=YY b1) (vi.mk ⟨.slice (some ⟨b1,0,none⟩) 1 1,Z,m0⟩) .nil) Z nb Z)
 refine bS hm λd2 k7 hm=>?_
 refine VE (We d (bJ _) call5 (λhH hN P ad=>mq.mF (NX ⟨hH,hN,P⟩ (l3.mono FJ.mono (lm.refl _)) k7)) (λp0 r6 s2 o6 d m2 af k5=>?_) (L0:=[]))
 obtain ⟨a3,d0,rfl,b3⟩:=k5
 replace d0:=d0.symm; subst d0
 have d:=d.perm Tn
 refine Wm (Wx Z (Wx Z (Wa (Wa (lr (V (lX (v:=vA (kR K10)) (pF Z Z) (lG cY dl (Kc _ dl) kr)) (V (lX (v:=vA (kQ Yx)) (KD Z Z Z) (lG cO dy (Oj _ dy) kr)) (VE (lq d cO λp1 r1 d=>VO (FA (h1:=ow Yx) ((kQ Yx).toArray) d aK λp2 d=>ln ?_))))))))))
 refine sg (Wm (VA d Mh (kQ Yx) bK aK (bS hm λa k8 hm=>?_)))
 let t4:=(⟨a.1,K11⟩:nM)
 let t7:=(⟨K1,[t4],[]⟩:mW)
 let A:Value:=vS a.1.kK.lV
 let s:Value:=vS a.1.kK.lW
 let q:Value:=vI a.1.kK.Kind
 let m3:Value:=vS a.1.kK.C.Word
 let j2:Value:=vS a.1.kK.B.Word
 let j1:Value:=vS a.1.kK.C.kO
 let n:Value:=vS a.1.kK.B.kO
 let g6:=a.1.kK.Head
 let t0:Value:=vS g6.Word
 let L:Value:=vS g6.kO
 refine VE (We d (bJ _) call17 (λhH hN P ad=>mq.mF (IX ⟨hH,hN,P⟩ (b3.mono po (lm.refl _)) k8)) (λp3 r7 s3 o7 d b0 ag k6=>?_) (L0:=[]))
 obtain ⟨s0,d1,rfl,a5⟩:=k6
 replace d1:=d1.symm; subst d1
 have d:=d.perm Tn
 refine Wm (Wx Z (Wx Z (VE (lq d cU λp4 r2 d=>?_))))
 obtain ⟨t,u,rfl⟩:=a5.form
 let g5:Value:= .slice t a.1.Tag.length u
 let a9:=(#[q,L,t0,A,n,j2,j1,m3,s,g5,vI 3,vI 0,vS zS,vS zS,vN]:Array Value)
 refine VO (FA (#[q,L,t0,A,n,j2,j1,m3,s,g5]) d bO λp5 d=>Wa (ln ?_))
 have d:=d.kM (Kb (Db St))
 refine sg (VA d Mh [q,L,t0,A,n,j2,j1,m3,s,g5] ef bO (V (lX (v:=vA Lh) (mB Z) (lG aU bM (yU _ bM) kr)) (V (lX (v:=vA [q,L,t0,A,n,j2,j1,m3,s,g5,vI 3,vI 0,vS zS,vS zS,vN]) (pF Z Z) (lG fR gC (aak _ gC) kr)) (VE (lE (cs:=#[q,L,t0,A,n,j2,j1,m3,s,g5,vI 3,vI 0,vS zS,vS zS,vN]) d (mB Z) (ng eS eF fR) λp6 z d=>V (lX (v:=vA (Th z)) (pF Z Z) (lG zeroValue25 ij (acz _ ij) kr)) (VE (lq d zeroValue25 λp7 T d=>VO (FA ((Th z).toArray) d fG λp8 d=>lr (VA d (Mt (Mt Mh)) [q,L,t0,A,n,j2,j1,m3,s,g5] ef bO (VE (lE (cs:=#[q,L,t0,A,n,j2,j1,m3,s,g5]) d (mB Z) (ng bV bO cU) λp9 e1 d=>?_)))))))))))
 let t6:Value:= .slice (some ⟨z,0,none⟩) 1 1
 let t3:=((Th z).toArray:Array Value)
 let t2:Value:=vP T
 refine V (lX (v:=vA [vI 2,vI 0,vI 0,vS zS,vN,.slice (some ⟨e1,0,none⟩) 1 1]) (pF Z Z) (lG cR cM (ED _ cM) kr)) (bS hm λc k9 hm=>VE (rM d call18 (Q7 (Sl.nil _ _ _) ((mn.lit nu (l:=[a.1]) (.cons (ys:=[q,L,t0,A,n,j2,j1,m3,s,g5]) (mg.mk ⟨g5,Z,a5⟩) .nil) Z nb Z).sl nu d.lb λb o h=>(by rw [aY] at h; cases h; exact d.at_ Mh)) k9) λak r8 s4 o8 d U ah c8=>Wa (ln ?_)))
 let t1:=(⟨false,c⟩:nJ)
 have d:=d.kM (Kr (Db (Kb (Kb (Db St)))))
 refine sg (VA d (Ma Mh) (Th z) gN fG (Wm (Wm ?_)))
 obtain ⟨g,j,rfl⟩:=c8.form
 let b8:Value:= .slice g c.length j
 let t5:Value:=vA [vB false,b8]
 refine V (lX (v:=t5) (mB Z) (lG dF dT (L5 _ dT) kr)) (Wm (V (lX (v:=vA [vB true,b8]) (pF Z Z) (lG dF dT (L5 _ dT) kr)) ?_))
 have n3:=c8.Yu d (λp h=>Ml h)
 obtain ⟨s5,d,Y,ai,O⟩:=ST.JS d c8 (λ_=>rfl)
 refine VE (lE (cs:=#[vB false,b8,vB true,b8]) d (pF Z Z) (ng cT dq dF) λal l7 d=>bS hm λc5 l0 hm=>VE (Eg d call10 (CY ((mn.lit pU (l:=[t4]) (.cons (ys:=[q,L,t0,A,n,j2,j1,m3,s,g5,vI 3,vI 0,vS zS,vS zS,vN]) (nq.mk ⟨g5,vN,Z,a5.mono (Pl.mono _) (U.trans Y),Sl.nil _ _ _⟩) .nil) Z nb Z).sl pU d.lb λb o h=>(by rw [aY] at h; cases h; exact d.at_ (Mt (Mt Mh)))) (Sl.nil _ _ _) (b3.mono po (((b0.trans U).trans Y).trans d.lb)) ((mn.lit vK (l:=[t1,(⟨true,c⟩:nJ)]) (.cons (ys:=[vB false,b8]) (pc.mk ⟨b8,Z,O⟩) (.cons (ys:=[vB true,b8]) (pc.mk ⟨b8,Z,O⟩) .nil)) Z nb Z).sl vK d.lb λb o h=>(by rw [aY] at h; cases h; exact d.at_ Mh)) l0) λan d=>VE (lq d fl λao r3 d=>VO (FA (h1:=Az c5) ((nA c5).toArray) d fP λap d=>ln ?_))))
 have d:=d.kM (Kb (Db St))
 refine sg (VA d (Mt Mh) (Th z) gN fG (Wm (Wm (V (lX (v:=t5) (mB Z) (lG dF dT (L5 _ dT) kr)) (VE (lE (cs:=#[vB false,b8]) d (mB Z) (ng cT dq dF) λaq l8 d=>bS hm λa7 l1 hm=>VE (Eg d call10 (CY ((mn.lit pU (l:=[t4]) (.cons (ys:=[q,L,t0,A,n,j2,j1,m3,s,g5,vI 3,vI 0,vS zS,vS zS,vN]) (nq.mk ⟨g5,vN,Z,a5.mono (Pl.mono _) (U.trans Y),Sl.nil _ _ _⟩) .nil) Z nb Z).sl pU d.lb λb o h=>(by rw [aY] at h; cases h; exact d.at_ (Mt (Mt (Mt Mh))))) (Sl.nil _ _ _) (b3.mono po (((b0.trans U).trans Y).trans d.lb)) ((mn.lit vK (l:=[t1]) (.cons (ys:=[vB false,b8]) (pc.mk ⟨b8,Z,O⟩) .nil) Z nb Z).sl vK d.lb λb o h=>(by rw [aY] at h; cases h; exact d.at_ Mh)) l1) λar d=>VE (lq d fl λau i7 d=>VO (FA (h1:=Az a7) ((nA a7).toArray) d fP λav d=>ln ?_)))))))))
 have d:=d.kM (Kb (Db St))
 refine sg (Wm (V (lX (v:=vA [vB true,b8]) (pF Z Z) (lG dF dT (L5 _ dT) kr)) (Wm (V (lX (v:=t5) (mB Z) (lG dF dT (L5 _ dT) kr)) (VE (lE (cs:=#[vB true,b8,vB false,b8]) d (pF Z Z) (ng cT dq dF) λaw l9 d=>bS hm λr5 l2 hm=>VE (rM d call8 (Hy ((mn.lit vK (l:=[(⟨true,c⟩:nJ),t1]) (.cons (ys:=[vB true,b8]) (pc.mk ⟨b8,Z,O⟩) (.cons (ys:=[vB false,b8]) (pc.mk ⟨b8,Z,O⟩) .nil)) Z nb Z).sl vK d.lb λb o h=>(by rw [aY] at h; cases h; exact d.at_ Mh)) l2) λr0 h2 R e0 d a4 aj c9=>Wa (ln ?_))))))))
 have d:=d.kM (Kr (Db St))
 refine sg (Wm (Wi Z (Wm (LJ hm (λh1 E W=>∃d3,ST false lN w W R ((i7,Ol (nA a7) 39)::((T,oC t3 25)::((z,oC a9 64)::(e0++d3))))∧E 0=vB false∧E 1=a3∧E 6=t2∧E 7=b8∧E 9=vP i7∧E 10=h2∧E 62=vB h1) 4 ?_ λh1 a2 c4=>?_))))
 ·rintro r9 E W ⟨d3,d,e2,e3,e4,e5,j3,e6,j4⟩ h6
  refine Wh j4 (LJ h6 (λh0 E W=>∃d4,ST false lN w W R ((T,oC t3 25)::((z,oC a9 64)::(e0++d4)))∧E 0=vB false∧E 1=a3∧E 6=t2∧E 7=b8∧E 10=h2∧E 67=vB h0) 4 ?_ λh0 a1 c3=>?_)
  ·rintro o0 E W ⟨d4,d,e7,e8,e9,f0,c6,j5⟩ h7
   refine Wh j5 (LJ h7 (λg9 E W=>∃d5,ST false lN w W R ((T,oC t3 25)::((z,oC a9 64)::(e0++d5)))∧E 0=vB false∧E 1=a3∧E 6=t2∧E 7=b8∧E 10=h2∧E 72=vB g9) 4 ?_ λg9 a0 c2=>?_)
   ·rintro o1 E W ⟨d5,d,f1,f2,f3,f4,j6,j7⟩ h8
    refine Wh j7 (LJ h8 (λg8 E W=>∃d6,ST false lN w W R ((T,oC t3 25)::((z,oC a9 64)::d6))∧E 0=vB false∧E 1=a3∧E 6=t2∧E 7=b8∧E 78=vB g8) 5 ?_ λg8 Q c1=>?_)
    ·rintro o2 E W ⟨d6,d,f5,j8,f6,c7,j9⟩ h9
     refine Wh j9 (LJ h9 (λg7 E W=>∃a6 d7,lm R a6∧ST false lN w W a6 ((T,oC t3 25)::((z,oC a9 64)::d7))∧E 0=vB false∧E 6=t2∧E 7=b8∧E 87=vB g7) 8 ?_ λg7 N c0=>?_)
     ·rintro o3 E W ⟨a6,d7,b5,d,f7,f8,k0,k1⟩ i0
      refine Wh k1 (LJ i0 (λg4 E W=>∃b4 d8,lm a6 b4∧ST false lN w W b4 ((T,oC t3 25)::((z,oC a9 64)::d8))∧E 0=vB false∧E 6=t2∧E 95=vB g4) 7 ?_ λg4 M b7=>?_)
      ·rintro o4 E W ⟨b4,d8,g0,d,f9,k2,k3⟩ i1
       refine Wh k3 (LJ i1 (λg3 E W=>∃d9,ST false lN w W b4 d9∧E 0=vB false∧E 101=vB g3) 5 ?_ λg3 K b6=>?_)
       ·rintro o5 E W ⟨d9,d,n1,k4⟩ i2
        exact Wg k4 (lt (rQ i2 d))
       refine bC K (λG K=>?_) (λG K=>?_)
       ·refine ug G (kP k2 (kV d.has Mh (Th z) Z gN fG)) (bS K λl4 i4 K=>sh G (Eg d call10 (CY ((mn.lit pU (l:=[t4]) (.cons (ys:=[q,L,t0,A,n,j2,j1,m3,s,g5,vI 3,vI 0,vS zS,vS zS,vN]) (nq.mk ⟨g5,vN,Z,a5.mono (Pl.mono _) ((((U.trans Y).trans a4).trans b5).trans g0),Sl.nil _ _ _⟩) .nil) Z nb Z).sl pU d.lb λb o h=>(by rw [aY] at h; cases h; exact d.at_ (Mt Mh))) (Sl.nil _ _ _) we.nil (Sl.nil _ _ _) i4) λm6 d=>ug G (Wd (v:=vI l4.VP) dJ Z kF Z Z) (ug G (lI Z Z Z) (V (lh (cB G) Z) ?_))))
        cases sj K
        exact b6 _ _ ⟨_,d.kM (Db (Db St)),f9,Z⟩
       refine un G (un G (un G (un G (V (lg (cB G) Z) ?_))))
       cases sj K
       exact b6 _ _ ⟨_,d.kM (Db (Db St)),f9,Z⟩
      refine bC M (λx M=>?_) (λx M=>?_)
      ·refine ug x (kT k0) (ug x (lX (v:=t5) (mB Z) (lG dF dT (L5 _ dT) kr)) (sh x (lE (cs:=#[vB false,b8]) d (mB Z) (ng cT dq dF) λm7 i8 d=>bS M λn6 i5 M=>sh x (rM d call15 (Kq ((mn.lit vK (l:=[t1]) (.cons (ys:=[vB false,b8]) (pc.mk ⟨b8,Z,O.mono (Pl.mono _) (a4.trans b5)⟩) .nil) Z nb Z).sl vK d.lb λb o h=>(by rw [aY] at h; cases h; exact d.at_ Mh)) i5) λm8 n8 l5 m4 d g1 aa h4=>ug x (pe aV Z h4) (ug x (lI Z Z Z) (V (lh (cB x) Z) ?_))))))
       cases sj M
       exact b7 _ _ ⟨l5,_,g1,d.kM (Dr (Db St)),f7,f8,Z⟩
      refine un x (un x (un x (un x (un x (un x (V (lg (cB x) Z) ?_))))))
      cases sj M
      exact b7 _ _ ⟨a6,_,lm.refl _,d.kM,f7,f8,Z⟩
     refine bC N (λk N=>?_) (λk N=>?_)
     ·refine ug k (kT j8) (ug k (kT c7) (ug k (lX (v:=t5) (mB Z) (lG dF dT (L5 _ dT) kr)) (sh k (lE (cs:=#[vB false,b8]) d (mB Z) (ng cT dq dF) λm9 i9 d=>bS N λn7 i6 N=>sh k (rM d call13 (JC (b3.mono po ((((b0.trans U).trans Y).trans a4).trans d.lb)) ((mn.lit vK (l:=[t1]) (.cons (ys:=[vB false,b8]) (pc.mk ⟨b8,Z,O.mono (Pl.mono _) a4⟩) .nil) Z nb Z).sl vK d.lb λb o h=>(by rw [aY] at h; cases h; exact d.at_ Mh)) i6) λn0 n9 l6 m5 d g2 ab h5=>ug k (pe aV Z h5) (ug k (lI Z Z Z) (V (lh (cB k) Z) ?_)))))))
      cases sj N
      exact c0 _ _ ⟨l6,_,g2,d.kM (Dr (Db St)),f5,f6,c7,Z⟩
     refine un k (un k (un k (un k (un k (un k (un k (V (lg (cB k) Z) ?_)))))))
     cases sj N
     exact c0 _ _ ⟨R,_,lm.refl _,d.kM,f5,f6,c7,Z⟩
    refine bC Q (λD Q=>?_) (λD Q=>?_)
    ·refine ug D (kT j6) (bS Q λh3 b2 Q=>ugQ D (oF (i:=0) (x0:=h3) ez dH Z Z c9 (lR b2) (lK b2)) λn5 i3=>ug D (kP Z (Da d.has (λp h=>Mt (Mt (Ml h))) c9 (λ_=>rfl) i3 (lK b2) (y:=vI h3) Z bH)) (ug D (lI Z Z Z) (V (lh (cB D) Z) ?_)))
     cases sj Q
     exact c1 _ _ ⟨_,d.kM (Kb (Kb (Dr St))),f1,f2,f3,f4,Z⟩
    refine un D (un D (un D (un D (V (lg (cB D) Z) ?_))))
    cases sj Q
    exact c1 _ _ ⟨_,d.kM (Kb (Kb (Dr St))),f1,f2,f3,f4,Z⟩
   refine bC a0 (λI a0=>?_) (λI a0=>?_)
   ·refine ug I (kT c6) (ug I (pe ez Z c9) (ug I (lI Z Z Z) (V (lh (cB I) Z) ?_)))
    cases sj a0
    exact c2 _ _ ⟨_,d.kM,e7,e8,e9,f0,c6,Z⟩
   refine un I (un I (un I (V (lg (cB I) Z) ?_)))
   cases sj a0
   exact c2 _ _ ⟨_,d.kM,e7,e8,e9,f0,c6,Z⟩
  refine bC a1 (λH a1=>?_) (λH a1=>?_)
  ·refine ug H (kP j3 (kV d.has Mh (nA a7) Z kI fP)) (ug H (lX (v:=vA (nA (⟨1,0⟩:pg))) (mB Z) (lG fl dJ (LZ _ dJ) kr)) (ug H (wE Z Z (nY eqGuardType39) (so (HF _ a7 (⟨1,0⟩:pg)))) (V (lh (cB H) Z) ?_)))
   cases sj a1
   exact c3 _ _ ⟨_,d.kM (Db St),e2,e3,e4,e5,e6,Z⟩
  refine un H (un H (un H (V (lg (cB H) Z) ?_)))
  cases sj a1
  exact c3 _ _ ⟨_,d.kM (Db St),e2,e3,e4,e5,e6,Z⟩
 refine bC a2 (λJ a2=>?_) (λJ a2=>?_)
 ·refine ug J (kP Z (kV d.has (Ma (Mt Mh)) (nA c5) Z kI fP)) (ug J (lX (v:=vA (nA (⟨1,44⟩:pg))) (pF Z Z) (lG fl dJ (LZ _ dJ) kr)) (ug J (wE Z Z (nY eqGuardType39) (so (HF _ c5 (⟨1,44⟩:pg)))) (V (lh (cB J) Z) ?_)))
  cases sj a2
  exact c4 _ _ ⟨_,d.kM (Sb (Pr Pz) (Sb (Pr (Pb Pz)) (Sb (Pr (Pb Pz)) (Kr (Db St))))),Z,Z,Z,Z,Z,Z,Z⟩
 refine un J (un J (un J (V (lg (cB J) Z) ?_)))
 cases sj a2
 exact c4 _ _ ⟨_,d.kM (Sb (Pr Pz) (Sb (Pr (Pb Pz)) (Sb (Pr (Pb Pz)) (Kr (Db St))))),Z,Z,Z,Z,Z,Z,Z⟩
theorem Jh (j:Sl (Pl kQ) 9 (hp qa) q0 qr) (hm:AR qr=some qc) :
  lF true pg0 23 [q0] qa (vI qc):=by
 refine cG 54 func23 Z (λd=>sg (Wa (lr (Wa (lS (Wm ?_))))))
 refine V (lT aV Z j) (Wm (ln (mJ 8 7 (λi n E W=>∃g t,ST true lN qa W (hp qa) t∧E 3=vI g∧E 6=q0∧tD n g=some qc) j.len ⟨0,_,d.kM,Z,Z,hm⟩ ?_ ?_)))
 ·rintro D a G E W z ⟨⟨h,k⟩,g,t,d,u,x,c⟩
  refine sg (VQ (oz (enc:=kQ) (i:=(D:Int)) (x0:=a) aV aK x h j (aG _) z) λK y=>V (kP Z (lA d.has y bK aK)) (VE (lq d cO λH J d=>VO (FA (h1:=ow a) ((kQ a).toArray) d aK λI d=>ln (kX (Wh u (Wf ud (Wf sE (VB d Mh Z Z bU (V (pn bG Z) (Wi Z ?_)))))))))))
  refine Wf ud (Wf zu (VB d Mh Z Z bU (V (pn bG Z) (Wi Z (Wf zY (VB d Mh Z Z bU (V (pn bG Z) (Wi Z (Wf ph (Wf sE (VB d Mh Z Z bU (V (pn bG Z) (Wi Z (Wf ph ?_))))))))))))))
  refine Wf zu (VB d Mh Z Z bU (V (pn bG Z) (Wi Z (Wf vH (Wf sE (VB d Mh Z Z bU (V (pn bG Z) (Wi Z (Wf vH (Wf zu (VB d Mh Z Z bU (V (pn bG Z) (Wi Z (Wf yc ?_))))))))))))))
  refine VB d Mh Z Z bU (V (pn bG Z) (Wi Z (Wi Z (Wa (lC (lD (kW ?_)))))))
  have d:=d.kM (Db St)
  exact ⟨h,k,wi0 .i64 (g+(wi0 .i64 ((wi0 .i64 ((wi0 .i64 ((wi0 .i64 ((wi0 .i64 ((wi0 .i64 ((wi0 .i64 ((wi0 .i64 (20+(a.Head.kO.size:Int)))+(a.Head.Word.size:Int)))+(a.lV.size:Int)))+(a.B.kO.size:Int)))+(a.B.Word.size:Int)))+(a.C.kO.size:Int)))+(a.C.Word.size:Int)))+(a.lW.size:Int)))),_,d.kM,Z,x,c⟩
 rintro E W ⟨⟨h,k⟩,g,t,d,u,x,c⟩
 exact kW (sg (Wh u (Wa (lt (rQ c d)))))
theorem Fy (B:Sl vi 2 (hp qa) q0 qS) (D:Sl mg 10 (hp qa) q1 qT) (hm:A8 qS qT=some qc) :
  lF true pg0 21 [q0,q1] qa (vI qc):=by
 refine cG 45 func21 Z (λd=>sg (Wa (lr (Wa (lS (Wm ?_))))))
 refine V (lT gD Z B) (Wm (ln (mJ 12 11 (λi q E W=>∃t M,ST true lN qa W (hp qa) M∧E 1=q1∧E 5=vI t∧E 10=q0∧uW qT q t=some qc) B.len ⟨0,_,d.kM,Z,Z,Z,hm⟩ ?_ ?_)))
 ·rintro b6 k c8 E W O ⟨⟨n,o⟩,t,M,d,Q,T,U,g⟩
  refine sg (VQ (my (i:=(b6:Int)) (x0:=k) vi.out gD iq U n B (aG _) O) λd2 ⟨_,⟨d3,rfl,Y⟩,L⟩=>V (kP Z (lA d.has L isAgg51 iq)) (VE (lq d jM λc9 d1 d=>?_)))
  obtain ⟨u,v,rfl⟩:=Y.form
  refine VO (FA (#[vS k.lV,.slice u k.Key.length v]) d iq λd0 d=>ln (kX (Wh T (Wf Jx (VB d Mh Z Z bU (V (pn bG Z) (Wi Z (Wf Ky (VB d Mh Z Z dm (V (lT aT Z Y) (Wi Z (Wi Z (Wa ?_)))))))))))))
  refine lC (lD (kW ?_))
  have d:=d.kM (Db St)
  exact ⟨n,o,wi0 .i64 (t+(wi0 .i64 ((wi0 .i64 (10+(k.lV.size:Int)))+(k.Key.length:Int)))),_,d.kM,Q,Z,U,g⟩
 rintro E W ⟨⟨n,o⟩,t,M,d,Q,T,U,g⟩
 refine kW (kY (sg (Wh Q (V (lT bV Z D) (Wm (ln (CJ g (λG E W=>∃K,ST true lN qa W (hp qa) K∧E 5=vI G) (λG a2=>?_) ?_)))))))
 ·refine mJ 29 28 (λi q E W=>∃j x,ST true lN qa W (hp qa) x∧E 5=vI j∧E 27=q1∧uV q j=some G) D.len ⟨t,_,d.kM,T,Z,a2⟩ ?_ ?_
  ·rintro P a b7 E W a5 ⟨⟨n,o⟩,j,x,d,y,z,c⟩
   refine sg (VQ (my (i:=(P:Int)) (x0:=a) mg.out bV bO z n D (aG _) a5) λc4 ⟨_,⟨c5,rfl,I⟩,a3⟩=>V (kP Z (lA d.has a3 ef bO)) (VE (lq d cU λb9 c3 d=>?_)))
   obtain ⟨J,N,rfl⟩:=I.form
   let w:=C2 a.kK.Kind a.kK.Head.kO a.kK.Head.Word a.kK.lV a.kK.B.kO a.kK.B.Word a.kK.C.kO a.kK.C.Word a.kK.lW J a.Tag.length N
   refine VO (FA w.toArray d bO λc0 d=>ln ?_)
   have d:=d.drew
   have h:=d.has.kM (Kb Sn)
   refine mh h lM (X 0 Z h (kT y) (X 1 Z h (kU rZ Z) (XH 2 Z h (λ_ p=>kP Z (kV p Mh (kQ a.kK) Z bK aK)) (X 5 Z h (kU Ak Z) (XH 6 Z h (λ_ p=>kP Z (kZ p Mh Z dm)) (X 7 Z h (lT aT Z I) (XE 3 Z (lE (cs:=(kQ a.kK).toArray) d (mB Z) (ng aV aK cO) λc1 a9 d=>?_))))))))
   have h:=d.has.kM (Db (Kb Sn))
   refine ⟨h,bS c λR a4 c=>XE 4 Z (Eg d call23 (Jh (Sl.lit (enc:=kQ) (l:=[a.kK]) mL Z nb Z (d.at_ Mh)) a4) λc2 d=>?_)⟩
   have h:=d.has.kM (Db (Kb Sn))
   refine ⟨h,X 8 Z h (lI Z Z Z) (X 9 Z h (lI Z Z Z) (X 10 Z h (nz Z) (ml kr (lD (kW ?_)))))⟩
   have d:=d.kM (Db (Db St))
   exact ⟨n,o,wi0 .i64 (j+(wi0 .i64 (R+(a.Tag.length:Int)))),_,d.kM,Z,z,c⟩
  rintro E W ⟨⟨n,o⟩,j,x,d,y,z,c⟩
  refine kW ?_
  cases sj c
  exact ⟨_,d.kM,y⟩
 rintro c7 E W ⟨K,d,A⟩ s
 exact sg (Wh A (Wa (lt (rQ s d))))
theorem KA (I:(List Formula)→Option Int) (M:∀(j:Value) (H:List Formula) (r:Int) (w:World) (t:Sl kN 5 (hp w) j H),I H=some r→lF false pg0 22 [j] w (vI r)) (j:Value) (H:List Formula) (r:Int) (w:World) (t:Sl kN 5 (hp w) j H) (hm:Bx I H=some r) :
  lF false pg0 22 [j] w (vI r):=by
 refine cG 31 func22 Z (λh=>sg (Wa (lr (Wa (lS (Wm ?_))))))
 refine V (lT aD Z t) (Wm (ln (mJ 8 7 (λi q E W=>∃u y,ST false lN w W (hp w) y∧E 3=vI u∧E 6=j∧yG I q u=some r) t.len ⟨0,_,h.kM,Z,Z,hm⟩ ?_ ?_)))
 ·rintro T c a4 E W N ⟨⟨o,p⟩,u,y,h,B,D,g⟩
  let a0:=(c.kL.kO.size:Int)+(c.kL.Word.size:Int)
  refine sg (VQ (my (i:=(T:Int)) (x0:=c) kN.out aD aC D o t (aG _) N) λa2 ⟨_,⟨a3,rfl,G⟩,J⟩=>V (kP Z (lA h.has J aR aC)) (VE (lq h aU λU A h=>?_)))
  obtain ⟨x,z,rfl⟩:=G.form
  let a5:=C1 c.Op c.K c.kL.kO c.kL.Word x c.Kids.length z
  refine VO (FA a5.toArray h aC λY h=>ln ?_)
  have h:=h.drew
  have d:=h.has.kM (Kb Sn)
  refine mh d lM (X 0 Z d (kT B) (X 1 Z d (kU yB Z) (X 2 Z d (kU sE Z) (XH 3 Z d (λ_ n=>kP Z (kZ n Mh Z bU)) (X 4 Z d (pn bG Z) (X 5 Z d (kU yB Z) (X 6 Z d (kU zu Z) (XH 7 Z d (λ_ n=>kP Z (kZ n Mh Z bU)) (X 8 Z d (pn bG Z) (X 9 Z d (lI Z Z Z) (X 10 Z d (E1 (k:=.i64) (a:=wi0 .i64 a0) (b:=16) (v:=vI (wi0 .i64 (Int.tdiv (wi0 .i64 a0) 16))) Z Z dc Z) (X 11 Z d (lI Z Z Z) (X 12 Z d (kU pG Z) (XH 13 Z d (λ_ n=>kP Z (kZ n Mh Z ei)) ?_))))))))))))))
  refine bS g λQ K g=>XE 14 Z (Eg h call22 (M (.slice x c.Kids.length z) c.Kids _ _ (G.mono lc.mono h.lb) K) λs h=>?_)
  have d:=h.has.kM (Kb Sn)
  refine ⟨d,X 15 Z d (lI Z Z Z) (X 16 Z d (lI Z Z Z) (X 17 Z d (nz Z) (ml kr (lD (kW ?_)))))⟩
  have h:=h.kM (Db St)
  exact ⟨o,p,wi0 .i64 (u+(wi0 .i64 ((wi0 .i64 (1+(wi0 .i64 (Int.tdiv (wi0 .i64 a0) 16))))+Q))),_,h.kM,Z,D,g⟩
 rintro E W ⟨⟨o,p⟩,u,y,h,B,D,g⟩
 exact kW (sg (Wh B (Wa (lt (rQ g h)))))
theorem FP:∀(n:Nat) (a:Value) (c:List Formula) (r:Int) (w:World) (g:Sl kN 5 (hp w) a c) (_:uN n c=some r),
  lF false pg0 22 [a] w (vI r)
 | 0=>by intros; rename_i h; simp only [uN] at h; cases h
 | n+1=>KA (uN n) (FP n)
set_option maxHeartbeats 4000000 in
theorem PL (x:Sl nq 15 (hp qa) q0 qG.nK) (D:Sl oB 8 (hp qa) q1 qG.pv) (hm:FO qG=some qc) :
  lF false pg0 6 [vA [vS qG.Name,q0,q1]] qa (vI qc):=by
 refine cG 61 func6 Z (λd=>sg ?_)
 obtain ⟨A1,c2,rfl⟩:=x.form
 obtain ⟨A3,c4,rfl⟩:=D.form
 let g6:=C8 qG.Name A1 qG.nK.length c2 A3 qG.pv.length c4
 refine VE (lY d Z (λW6 A d=>Wa (lr (Wf aav (VB d Mh Z Z bU (V (pn bG Z) (Wa (lS ?_))))))))
 refine Wf HZ (VB d Mh Z Z isAgg22 (V (lT eS Z x) (Wm (ln (mJ 14 13 (λi js E W=>∃H O,ST false lN qa W (hp qa) ((A,Ol g6 25)::O)∧E 1=vP A∧E 3=vI H∧E 12= .slice A1 qG.nK.length c2∧wU qG js H=some qc) x.len ⟨(qG.Name.size:Int),_,d.kM,Z,Z,Z,hm⟩ ?_ ?_)))))
 ·rintro d2 a h3 E W e4 ⟨⟨q,v⟩,H,O,d,U,M,Y,I⟩
  refine sg (VQ (my (i:=(d2:Int)) (x0:=a) nq.out eS eF Y q x (aG _) e4) λi6 ⟨_,⟨j0,j3,rfl,Q,T⟩,d8⟩=>V (kP Z (lA d.has d8 ko eF)) (VE (lq d fR λh4 e8 d=>?_)))
  obtain ⟨k,t,rfl⟩:=Q.form
  let g5:Value:= .slice k a.Signed.Tag.length t
  let b8:=C2 a.Signed.kK.Kind a.Signed.kK.Head.kO a.Signed.kK.Head.Word a.Signed.kK.lV a.Signed.kK.B.kO a.Signed.kK.B.Word a.Signed.kK.C.kO a.Signed.kK.C.Word a.Signed.kK.lW k a.Signed.Tag.length t
  obtain ⟨g,j,rfl⟩:=T.form
  let d6:Value:= .slice g a.la.Kids.length j
  let s:=C1 a.la.Op a.la.K a.la.kL.kO a.la.kL.Word g a.la.Kids.length j
  let a0:=C6 a.Signed.kK.Kind a.Signed.kK.Head.kO a.Signed.kK.Head.Word a.Signed.kK.lV a.Signed.kK.B.kO a.Signed.kK.B.Word a.Signed.kK.C.kO a.Signed.kK.C.Word a.Signed.kK.lW k a.Signed.Tag.length t a.la.Op a.la.K a.la.kL.kO a.la.kL.Word g a.la.Kids.length j
  refine VO (FA a0.toArray d eF λh5 d=>ln ?_)
  have d:=d.drew
  have h:=d.has.kM (Kb Sn)
  refine mh h lM (X 0 Z h (kT M) (X 1 Z h (kU Gs Z) (XH 2 Z h (λ_ p=>kP Z (kV p Mh b8 Z ef bO)) (X 5 Z h (kU Qk Z) (XH 6 Z h (λ_ p=>kP Z (kV p Mh s Z aR aC)) (PJ I (λR E W=>∃w P b9,ST false lN qa W (hp qa) ((e8,Ol a0 64)::((A,Ol g6 25)::(P++b9)))∧E 1=vP A∧E 3=vI H∧E 12= .slice A1 qG.nK.length c2∧E 13=vI (qG.nK.length:Int)∧E 14=vI (d2:Int)∧E 18=vI H∧E 22=vI R.1∧E 25=w∧mn 62 kN 5 (hp qa) w R.2 P) (bm 13 255) 5 ?_ λR y G=>?_))))))
  ·rintro ⟨f9,f7⟩ E W ⟨w,P,b9,d,f0,i5,f1,f2,f3,f4,f5,f6,e3⟩ J
   refine bS J λf8 d9 J=>XE 8 Z (Eg d call22 ((FP lP) w f7 _ _ (e3.sl lc d.lb λb o n=>d.at_ (Mt (Mt (Ml n)))) d9) (λh6 d=>?_) (ha:=la1 f6))
   have h:=d.has.kM (Kb Sn)
   refine ⟨h,X 9 Z h (lI Z Z Z) (X 10 Z h (lI f5 Z Z) (X 11 Z h (lI f4 Z Z) (X 12 Z h (nz Z) (ml kr (lD (kW ?_))))))⟩
   have d:=d.kM (Db (Kb (Dr St)))
   exact ⟨f3,f2,wi0 .i64 (H+(wi0 .i64 (f9+(wi0 .i64 (20*f8))))),_,d.kM,f0,Z,f1,J⟩
  refine JW 3 7 Z Z kr (.inl Z) (.inl Z) Z Z dc dc ?_ ?_
  ·refine lE (cs:=b8.toArray) d (mB Z) (ng bV bO cU) (λh7 b3 d=>?_)
   let d5:Value:= .slice (some ⟨b3,0,none⟩) 1 1
   have h:=d.has.kM (Db (Kb Sn))
   refine ⟨h,JW 4 7 Z Z kr (.inl Z) (.inl Z) Z Z dc dc ?_ ?_⟩
   ·refine bS y λi7 e0 y=>KN (args:=[vN,d5]) d Z call21 (by exact pj Z Z) (lF.mF (Fy (Sl.nil _ _ _) ((mn.lit nu (l:=[a.Signed]) (.cons (ys:=C2 a.Signed.kK.Kind a.Signed.kK.Head.kO a.Signed.kK.Head.Word a.Signed.kK.lV a.Signed.kK.B.kO a.Signed.kK.B.Word a.Signed.kK.C.kO a.Signed.kK.C.Word a.Signed.kK.lW k a.Signed.Tag.length t) (mg.mk ⟨g5,Z,Q⟩) .nil) Z nb Z).sl nu d.lb λb o n=>(by rw [aY] at n; cases n; exact d.at_ Mh)) e0)) (λh8 d=>?_)
    have h:=d.has.kM (Db (Kb Sn))
    refine ⟨h,XE 7 Z (lE (cs:=s.toArray) d (mB Z) (ng aD aC aU) λh9 c0 d=>?_)⟩
    have h:=d.has.kM (Db (Db (Kb Sn)))
    refine ⟨h,?_⟩
    cases sj y
    have d:=d.Rj
    refine nr kr (G _ _ ⟨.slice (some ⟨c0,0,none⟩) 1 1,[(c0,Ol s 62)],_,d.kM (Sb (Pr (Pb Pz)) (Sb (Pr (Pb Pz)) (Kr (Db St)))),U,M,Y,v,q,Z,Z,Z,mn.lit lc (l:=[a.la]) (.cons (ys:=C1 a.la.Op a.la.K a.la.kL.kO a.la.kL.Word g a.la.Kids.length j) (kN.mk ⟨d6,Z,T⟩) .nil) Z nb Z⟩)
   ·refine lE (cs:=s.toArray) d (mB Z) (ng aD aC aU) (λi0 c1 d=>?_)
    have h:=d.has.kM (Db (Db (Kb Sn)))
    refine ⟨h,bS y λi8 e1 y=>XE 4 Z (Eg d call21 (lF.mF (Fy (Sl.nil _ _ _) ((mn.lit nu (l:=[a.Signed]) (.cons (ys:=C2 a.Signed.kK.Kind a.Signed.kK.Head.kO a.Signed.kK.Head.Word a.Signed.kK.lV a.Signed.kK.B.kO a.Signed.kK.B.Word a.Signed.kK.C.kO a.Signed.kK.C.Word a.Signed.kK.lW k a.Signed.Tag.length t) (mg.mk ⟨g5,Z,Q⟩) .nil) Z nb Z).sl nu d.lb λb o n=>(by rw [aY] at n; cases n; exact d.at_ (Mt Mh))) e1)) λi1 d=>?_)⟩
    have h:=d.has.kM (Db (Db (Kb Sn)))
    refine ⟨h,?_⟩
    cases sj y
    have d:=d.Rj
    refine nr kr (G _ _ ⟨.slice (some ⟨c1,0,none⟩) 1 1,[(c1,Ol s 62)],_,d.kM (Sb (Pr (Pb Pz)) (Sb (Pr (Pb Pz)) (Kr (Db St)))),U,M,Y,v,q,Z,Z,Z,mn.lit lc (l:=[a.la]) (.cons (ys:=C1 a.la.Op a.la.K a.la.kL.kO a.la.kL.Word g a.la.Kids.length j) (kN.mk ⟨d6,Z,T⟩) .nil) Z nb Z⟩)
  ·refine lE (cs:=s.toArray) d (mB Z) (ng aD aC aU) (λi2 c3 d=>?_)
   have h:=d.has.kM (Db (Kb Sn))
   refine ⟨h,XE 3 Z (lE (cs:=b8.toArray) d (mB Z) (ng bV bO cU) λi3 e9 d=>?_)⟩
   have h:=d.has.kM (Db (Db (Kb Sn)))
   refine ⟨h,bS y λi9 e2 y=>XE 4 Z (Eg d call21 (lF.mF (Fy (Sl.nil _ _ _) ((mn.lit nu (l:=[a.Signed]) (.cons (ys:=C2 a.Signed.kK.Kind a.Signed.kK.Head.kO a.Signed.kK.Head.Word a.Signed.kK.lV a.Signed.kK.B.kO a.Signed.kK.B.Word a.Signed.kK.C.kO a.Signed.kK.C.Word a.Signed.kK.lW k a.Signed.Tag.length t) (mg.mk ⟨g5,Z,Q⟩) .nil) Z nb Z).sl nu d.lb λb o n=>(by rw [aY] at n; cases n; exact d.at_ Mh)) e2)) λi4 d=>?_)⟩
   have h:=d.has.kM (Db (Db (Kb Sn)))
   refine ⟨h,?_⟩
   cases sj y
   have d:=d.perm (Nb (Pb Pz) Nz)
   have d:=d.Rj
   refine nr kr (G _ _ ⟨.slice (some ⟨c3,0,none⟩) 1 1,[(c3,Ol s 62)],_,d.kM (Sb (Pr (Pb Pz)) (Sb (Pr (Pb Pz)) (Kr (Db St)))),U,M,Y,v,q,Z,Z,Z,mn.lit lc (l:=[a.la]) (.cons (ys:=C1 a.la.Op a.la.K a.la.kL.kO a.la.kL.Word g a.la.Kids.length j) (kN.mk ⟨d6,Z,T⟩) .nil) Z nb Z⟩)
 rintro E W ⟨⟨q,v⟩,H,O,d,U,M,Y,I⟩
 refine kW (kY (sg (V (kU QY U) (VB d Mh Z Z isAgg23 (V (lT dU Z D) (Wm (ln ?_)))))))
 have d:=d.kM (Db St)
 refine CJ I (λL E W=>∃b6,ST false lN qa W (hp qa) b6∧E 3=vI L) (λL c7=>?_) ?_
 ·refine mJ 34 33 (λi js E W=>∃K a2,ST false lN qa W (hp qa) a2∧E 3=vI K∧E 32= .slice A3 qG.pv.length c4∧xc js K=some L) D.len ⟨H,_,d.kM,M,Z,c7⟩ ?_ ?_
  ·rintro e5 c g0 E W d1 ⟨⟨q,v⟩,K,a2,d,a4,a5,u⟩
   refine sg (VQ (my (i:=(e5:Int)) (x0:=c) oB.out dU eH a5 q D (aG _) d1) λg9 ⟨_,⟨h0,h1,rfl,a9,b0⟩,c8⟩=>V (kP Z (lA d.has c8 kH eH)) (VE (lq d iK λg1 g8 d=>?_)))
   obtain ⟨z,B,rfl⟩:=a9.form
   let d3:=C1 c.la.Op c.la.K c.la.kL.kO c.la.kL.Word z c.la.Kids.length B
   obtain ⟨a1,a3,rfl⟩:=b0.form
   let c5:=C9 c.kL.kO c.kL.Word c.la.Op c.la.K c.la.kL.kO c.la.kL.Word z c.la.Kids.length B a1 c.pf.length a3
   refine VO (FA c5.toArray d eH λg2 d=>ln ?_)
   have d:=d.drew
   have h:=d.has.kM (Kb Sn)
   refine mh h lM (X 0 Z h (kT a4) (X 1 Z h (kU Vz Z) (X 2 Z h (kU sE Z) (XH 3 Z h (λ_ p=>kP Z (kZ p Mh Z bU)) (X 4 Z h (pn bG Z) (X 5 Z h (kU Vz Z) (X 6 Z h (kU zu Z) (XH 7 Z h (λ_ p=>kP Z (kZ p Mh Z bU)) (X 8 Z h (pn bG Z) (X 9 Z h (lI Z Z Z) (X 10 Z h (kU Qa Z) (XH 11 Z h (λ_ p=>kP Z (kV p Mh d3 Z aR aC)) (X 16 Z h (kU R4 Z) (XH 17 Z h (λ_ p=>kP Z (kZ p Mh Z kG)) ?_))))))))))))))
   refine XE 12 Z (lE (cs:=d3.toArray) d (mB Z) (ng aD aC aU) λg3 d4 d=>?_)
   have h:=d.has.kM (Db (Kb Sn))
   refine ⟨h,bS u λe6 c9 u=>XE 13 Z (Eg d call22 ((FP lP) (.slice (some ⟨d4,0,none⟩) 1 1) ([c.la]) _ _ ((mn.lit lc (l:=[c.la]) (.cons (ys:=C1 c.la.Op c.la.K c.la.kL.kO c.la.kL.Word z c.la.Kids.length B) (kN.mk ⟨.slice z c.la.Kids.length B,Z,a9⟩) .nil) Z nb Z).sl lc d.lb λb o n=>(by rw [aY] at n; cases n; exact d.at_ Mh)) c9) λg4 d=>?_)⟩
   have h:=d.has.kM (Db (Kb Sn))
   refine ⟨h,X 14 Z h (lI Z Z Z) (X 15 Z h (lI Z Z Z) (bS u λe7 d0 u=>XE 18 Z (Eg d call23 (lF.mF (Jh (b0.mono (Pl.mono _) d.lb) d0)) λg7 d=>?_)))⟩
   have h:=d.has.kM (Db (Kb Sn))
   refine ⟨h,X 19 Z h (lI Z Z Z) (X 20 Z h (lI Z Z Z) (X 21 Z h (nz Z) (ml kr (lD (kW ?_)))))⟩
   have d:=d.kM (Db (Db St))
   exact ⟨q,v,wi0 .i64 (K+(wi0 .i64 ((wi0 .i64 ((wi0 .i64 ((c.kL.kO.size:Int)+(c.kL.Word.size:Int)))+(wi0 .i64 (20*e6))))+e7))),_,d.kM,Z,a5,u⟩
  rintro E W ⟨⟨q,v⟩,K,a2,d,a4,a5,u⟩
  refine kW ?_
  cases sj u
  exact ⟨_,d.kM,a4⟩
 rintro h2 E W ⟨b6,d,d7⟩ c6
 exact sg (Wh d7 (Wa (lt (rQ c6 d))))
theorem PF (j:Sl pc 2 (hp qa) q0 qM) (hm:CO qM=some qt) :
  lF true pg0 7 [q0] qa (vB qt):=by
 refine cG 21 func7 Z (λd=>sg (Wa (lr (Wa (lS (Wm ?_))))))
 refine V (lT cT Z j) (Wm (ln (mJ 8 7 (λi n E W=>∃g t,ST true lN qa W (hp qa) t∧E 3=vI g∧E 6=q0∧wR n g=some qt) j.len ⟨0,_,d.kM,Z,Z,hm⟩ ?_ ?_)))
 ·rintro I c J E W G ⟨⟨h,k⟩,g,t,d,u,x,a⟩
  refine sg (VQ (my (i:=(I:Int)) (x0:=c) pc.out cT dq x h j (aG _) G) λQ ⟨_,⟨T,rfl,y⟩,D⟩=>V (kP Z (lA d.has D gO dq)) (VE (lq d dF λK N d=>?_)))
  obtain ⟨z,B,rfl⟩:=y.form
  refine VO (FA (#[vB c.Out,.slice z c.B.length B]) d dq λM d=>ln (kX (Wh u (Wf Ct (VB d Mh Z Z dm (V (lT aT Z y) (Wi Z (Wi Z (Wa (lC (lD (kW ?_))))))))))))
  have d:=d.kM (Db St)
  exact ⟨h,k,wi0 .i64 (g+(wi0 .i64 (20+(c.B.length:Int)))),_,d.kM,Z,x,a⟩
 rintro E W ⟨⟨h,k⟩,g,t,d,u,x,a⟩
 exact kW (sg (Wh u (Wi Z (Wa (lt (rQ a d))))))
theorem pR {r:(Int×lj)} (h0:nN qb ((qk,Ol (lH qV) 112)::[]) qa) (hm:mj qV qc=some r) :
  mX true pg0 45 [vP qk,vI qc] qa ((qk,Ol (lH qV) 112)::[]) (λv L1 W'=>v=vI r.1∧L1=((qk,Ol (lH r.2) 112)::[])):=by
 let j:=(qk,Ol (lH qV) 112)::[]
 refine Bl h0 69 func45 Z (λd=>sg (Wa (lS (Wm (Wn (Wf oW (VB d Mh Z Z bH (Wi Z (lC ?_)))))))))
 refine kW (CI hm Z (λb9 hm=>?_) λb9 hm=>?_)
 ·refine sg (Wa (lt (ly ?_)))
  cases sj hm
  exact ma (v:=vI 0) Z Z ⟨_,_,Z,d.lZ (Kb Sn),Z,Z⟩
 refine kg (Wa (lr (Wa (lS ?_))))
 refine Wa (ln (mA (nQ (λm E W=>∃G y H u Q,ST true (keys j) qa W qb ((qk,Ol (lH u) 112)::Q)∧E 0=vP qk∧E 1=vI qc∧E 5=vI G∧E 6=vI y∧E 7=vI H∧pK qc m G y H u=some r) lP ⟨0,1,0,qV,_,d.kM,Z,Z,Z,Z,Z,hm⟩ ?_)))
 rintro m E W ⟨G,y,H,u,Q,d,x,Y,h,a2,I,c⟩
 cases m with
 | zero=>rw [pK] at c; cases c
 | succ U=>
  refine kY (mA (kY (sg (Wh I (Wi Z (ln (CI c Z (λp c=>?_) λp c=>?_)))))))
  ·refine sg (Wh x (Wn (Wf oW (VO (lz (vI 11) ((lH (⟨u.S,11⟩:lj)).toArray) d Z Z dH (uk _ 11) nb Z (λc1 d=>lr (Wa (lt (ly (mG (ly (ly (mG (ly ?_))))))))))))))
   cases sj c
   exact ma (v:=vI 0) Z Z ⟨_,_,Z,d.lZ (Kb Sn),Z,Z⟩
  refine kS (Wh x (Wn (Wf BX (VB d Mh Z Z bU (V (rF Z Z Z) (ln (CI c Z (λq c=>?_) λq c=>?_)))))))
  ·refine sg (Wh x (Wn (Wf oW (VO (lz (vI 10) ((lH (⟨u.S,10⟩:lj)).toArray) d Z Z dH (uk _ 10) nb Z (λc2 d=>lr (Wa (lt (ly (mG (ly (ly (mG (ly ?_))))))))))))))
   cases sj c
   exact ma (v:=vI 0) Z Z ⟨_,_,Z,d.lZ (Kb Sn),Z,Z⟩
  refine kg (Wh x (Wn (Wf BX (VB d Mh Z Z bU (bS c λD M c=>V (B9 (i:=0) bG Z Z (Bc M) (EG M)) (V (pt (k':=.u8) (a:=(D.toNat:Int)) cJ ed Z) (Wa (ln (kY ?_)))))))))
  refine kX (Wh x (Wh x (Wn (Wf BX (VB d Mh Z Z bU (bS c λz L c=>V (Pd (s:=u.S) (i:=1) bG Z Z L) (Wn (Wf BX (VO (lz (vS z) ((lH (⟨z,u.E⟩:lj)).toArray) d Z Z er (EJ z) nb Z (λc3 d=>ln (kY (kY ?_)))))))))))))
  refine kX (Wm (Wi Z (Wm (LJ c (λn E W=>∃T,ST true (keys j) qa W qb ((qk,Ol (lH (⟨z,u.E⟩:lj)) 112)::T)∧E 0=vP qk∧E 1=vI qc∧E 5=vI G∧E 6=vI y∧E 7=vI H∧E 8=vI (wi0 .i64 (D.toNat:Int))∧E 48=vB n) 3 ?_ λn B J=>?_))))
  ·let a0:=(wi0 .i64 (D.toNat:Int))
   let o:=wi0 .i64 (G+(wi0 .i64 ((Int.tmod a0 128)*y)))
   rintro c7 E W ⟨T,d,K,a3,O,a4,P,a5,R⟩ g
   refine ln (CI g R (λa9 g=>?_) λa9 g=>?_)
   ·refine sg (Wh K (Wn (Wf oW (VO (lz (vI 11) ((lH (⟨z,11⟩:lj)).toArray) d Z Z dH (uk _ 11) nb Z (λc4 d=>lr (Wa (lt (ly (mG (ly (ly (mG (ly ?_))))))))))))))
    cases sj g
    exact ma (v:=vI 0) Z Z ⟨_,_,Z,d.lZ (Kb Sn),Z,Z⟩
   refine kg (Wh O (Wh a5 (V (E1 (k:=.i64) (a:=a0) (b:=128) (v:=vI (Int.tmod a0 128)) Z Z dc Z) (Wh a4 (Wi Z (Wi Z (Wa (ln (kY (kY ?_))))))))))
   refine kX (Wh a5 (Wi Z (ln (CI g Z (λw g=>?_) λw g=>?_))))
   ·refine nB (nv (UP fb (nv (nv (ry (kW (kY (sg (Wm (Wh a3 (Wi Z (ln (CI g Z (λA g=>?_) λA g=>?_)))))))))))))
    ·refine sg (Wh K (Wn (Wf oW (VO (lz (vI 12) ((lH (⟨z,12⟩:lj)).toArray) d Z Z dH (uk _ 12) nb Z (λc5 d=>lr (Wa (lt (ly ?_)))))))))
     cases sj g
     exact ma (v:=vI 0) Z Z ⟨_,_,Z,d.lZ (Kb Sn),Z,Z⟩
    refine kg (Wm (Wa (lt ?_)))
    cases sj g
    exact ma (v:=vI o) Z Z ⟨_,_,Z,d.lZ (Kb Sn),Z,Z⟩
   refine kn (kX (Wh a4 (Wi Z (Wa (lC (lD (kW (kX (Wh P (Wi Z (Wa (ln ?_))))))))))))
   exact ⟨U,bB _,o,wi0 .i64 (y*128),wi0 .i64 (H+1),(⟨z,u.E⟩:lj),_,d.kM,K,a3,Z,Z,Z,g⟩
  refine bC B (λt B=>?_) (λt B=>?_)
  ·refine ug t (kT I) (ug t (lI Z Z Z) (V (lh (cB t) Z) ?_))
   cases sj B
   exact J _ _ ⟨_,d.kM,x,Y,h,a2,I,Z,Z⟩
  refine un t (un t (V (lg (cB t) Z) ?_))
  cases sj B
  exact J _ _ ⟨_,d.kM,x,Y,h,a2,I,Z,Z⟩
theorem yN {r:(ByteArray×lj)} (K:nN qb ((qk,Obj.cells ((lH qV).toArray:Array Value) 112 (0,0))::[]) qa) (hm:nS qV qc=some r) :
  mX true pg0 46 [vP qk,vI qc] qa ((qk,Obj.cells ((lH qV).toArray:Array Value) 112 (0,0))::[]) (λv J W'=>v=vS r.1∧J=((qk,Obj.cells ((lH r.2).toArray:Array Value) 112 (0,0))::[])):=by
 have a:=ST.yJ (dd:=true) K
 unfold nS at hm
 refine cF 46 func46 Z (kY (kX (V (nz Z) (lC (kW (kY (kX (V (kT Z) (bS hm λg H hm=>?_)))))))))
 have t:=a.size
 refine VE (Tg a (Cb Pz Cn) call45 (λhH n q p=>pR ⟨hH,n,lm.refl _⟩  H) λA v7 w Y a M o h G=>?_)
 obtain ⟨c,rfl⟩:=G
 replace c:=c.symm; subst c
 have a:=a.perm (Tb Tn)
 refine V (nz Z) (lC (kW (kY (kY (kX (V (kT Z) (V (mK Z) (V (kU oW Z) (V (kP Z (kZ a.has Mh Z bH)) (V (lI Z Z Z) (lC (kW (CI hm Z (λu hm=>?_) λu hm=>?_)))))))))))))
 ·refine kY (kX (V (nz Z) (lC (kW (lB (ly ?_))))))
  have d:=sj hm; subst d
  exact ma (v:=vS zS) Z Z ⟨_,_,Z,a.lZ (Kb Sn),Z,Z⟩
 refine lU (kW (kY (kY (kX (V (kT Z) (V (kT Z) (V (lI Z Z Z) (lC (kW (CI hm Z (λx hm=>?_) λx hm=>?_))))))))))
 ·refine kY (kX (V (kT Z) (V (mK Z) (V (kU oW Z) (VO (lz (vI 12) ((lH (⟨g.2.S,12⟩:lj)).toArray) a Z Z dH (uk _ 12) nb Z (λQ a=>lC (kW (kY (kX (V (nz Z) (lC (kW (lB (ly ?_)))))))))))))))
  have d:=sj hm; subst d
  exact ma (v:=vS zS) Z Z ⟨_,_,Z,a.lZ (Kb Sn),Z,Z⟩
 refine lU (kW (kY (kY (kX (V (kT Z) (V (kT Z) (V (mK Z) (V (kU BX Z) (V (kP Z (kZ a.has Mh Z bU)) (V (pn bG Z) (V (lI Z Z Z) (lC (kW (CI hm Z (λy hm=>?_) λy hm=>?_))))))))))))))
 ·refine kY (kX (V (kT Z) (V (mK Z) (V (kU oW Z) (VO (lz (vI 10) ((lH (⟨g.2.S,10⟩:lj)).toArray) a Z Z dH (uk _ 10) nb Z (λT a=>lC (kW (kY (kX (V (nz Z) (lC (kW (lB (ly ?_)))))))))))))))
  have d:=sj hm; subst d
  exact ma (v:=vS zS) Z Z ⟨_,_,Z,a.lZ (Kb Sn),Z,Z⟩
 refine lU (kW (kY (kX (V (kT Z) (V (mK Z) (V (kU BX Z) (V (kP Z (kZ a.has Mh Z bU)) (V (kT Z) (bS hm λI z hm=>V (VM (s:=g.2.S) (j:=g.1) bG Z Z z) (V (nz Z) (lC (kW (kY ?_)))))))))))))
 refine kX (V (kT Z) (V (kT Z) (V (mK Z) (V (kU BX Z) (V (kP Z (kZ a.has Mh Z bU)) (V (kT Z) (bS hm λk B hm=>V (Pd (s:=g.2.S) (i:=g.1) bG Z Z B) (V (mK Z) (V (kU BX Z) (VO (lz (vS k) ((lH (⟨k,g.2.E⟩:lj)).toArray) a Z Z er (EJ k) nb Z (λU a=>lC (kW (kY ?_))))))))))))))
 refine kX (V (kT Z) (V (nz Z) (lC (kW (lB ?_)))))
 have d:=sj hm; subst d
 exact ma (v:=vS I) Z Z ⟨_,_,Z,a.lZ (Kb Sn),Z,Z⟩
theorem GO (i:At (hp qa) (vP qk) (lH qV)) (hm:sw qV=some qc) :
  lF true pg0 47 [vP qk] qa (vI qc):=by
 refine cG 19 func47 Z (λd=>sg (Wa (lS (Wm (Wn (VQ (tO [vI qV.E] oW Z i Z) λM I=>V (kP Z (rz d.has (y:=vI qV.E) I bH)) (Wi Z (Wm ?_))))))))
 refine LJ hm (λu E W=>∃D,ST true lN qa W (hp qa) D∧E 0=vP qk∧E 14=vB u) 6 ?_ (λu g t=>?_)
 ·rintro N E W ⟨D,d,G,H⟩ c
  refine ln (CI c H (λx c=>?_) λx c=>?_)
  ·refine sg (Wa (lt (ly ?_)))
   cases sj c
   exact rP d
  exact kg (Wh G (Wn (VQ (tO [vI qV.E] oW Z i Z) λJ z=>V (kP Z (rz d.has (y:=vI qV.E) z bH)) (Wa (lt (rQ c d))))))
 refine bC g (λa g=>?_) (λa g=>?_)
 ·refine ug a (kT Z) (ug a (mK Z) (ugQ a (tO [vS qV.S] BX Z i Z) λK B=>ug a (kP Z (rz d.has (y:=vS qV.S) B bU)) (ug a (rF Z Z Z) (V (lh (cB a) Z) ?_))))
  cases sj g
  exact t _ _ ⟨_,d.kM,Z,Z⟩
 refine un a (un a (un a (un a (un a (V (lg (cB a) Z) ?_)))))
 cases sj g
 exact t _ _ ⟨_,d.kM,Z,Z⟩
theorem xa (x:Int) (r:ByteArray) (w:World) (hm:ra x=some r) :
  lF true pg0 88 [vI x] w (vS r):=by
 refine cG 22 func88 Z (λd=>sg (Wa (lr (Wa (ln (kY (mA (nQ (λm E W=>∃c j t,ST true lN w W (hp w) t∧E 0=vI c∧E 3=vS j∧sU m c j=some r) lP ⟨x,zS,_,d.kM,Z,Z,hm⟩ ?_))))))))
 rintro m E W ⟨c,j,t,d,i,u,g⟩
 let N:=Int.tmod c 128
 cases m with
 | zero=>rw [sU] at g; cases g
 | succ D=>
  refine kY (sg (Wh i (Wi Z (ln (CI g Z (λy g=>?_) λy g=>?_)))))
  ·refine kn (bg (Wh u (Wh i (V (E1 (k:=.i64) (a:=c) (b:=128) (v:=vI N) Z Z dc Z) (Wi Z (V (pt (k':=.i64) (a:=wi0 .i64 (128+N)) ed cJ Z) (VE (lE (cs:=[.int .u8 (IntKind.u8.wrap (wi0 .i64 (128+N)))].toArray) d (mB Z) (ng aT fc fT) λH J d=>V (tg aT cJ bG Z (Sl.lit (enc:=lu .u8) (l:=[IntKind.u8.wrap (wi0 .i64 (128+N))]) (λ_=>rfl) Z nb Z (d.at_ Mh))) (bS g λG z g=>V (xk Z Z z) (Wa ?_))))))))))
   refine ln ?_
   have d:=d.kM (Db St)
   exact kX (Wh i (V (E1 (k:=.i64) (a:=c) (b:=128) (v:=vI (wi0 .i64 (Int.tdiv c 128))) Z Z dc Z) (Wa (lC (lD (kW ⟨D,bB _,wi0 .i64 (Int.tdiv c 128),G,_,d.kM,Z,Z,g⟩))))))
  refine nB (nv (nv (ry (kW (sg (Wh u (Wh i (V (pt (k':=.i64) (a:=c) ed cJ Z) (VE (lE (cs:=[.int .u8 (IntKind.u8.wrap c)].toArray) d (mB Z) (ng aT fc fT) λI K d=>V (tg aT cJ bG Z (Sl.lit (enc:=lu .u8) (l:=[IntKind.u8.wrap c]) (λ_=>rfl) Z nb Z (d.at_ Mh))) (bS g λM B g=>V (xk Z Z B) (Wa (ln ?_)))))))))))))
  exact lB (rQ g d)
theorem Aq (a r:ByteArray) (w:World) (hm:tN a=some r) :
  lF true pg0 89 [vS a] w (vS r):=by
 refine cG 8 func89 Z (λd=>sg (Wa (lr (Wm (V (pn bG Z) (bS hm λj c hm=>VE (Eg d call88 (xa (a.size:Int) _ _  c) λi d=>Wm (bS hm λk g hm=>V (xk Z Z g) ?_))))))))
 exact Wa (lt (rQ hm d))
theorem Lq (z:ByteArray) (r:Int) (w:World) (hm:CC z=some r) :
  lF true pg0 91 [vS z] w (.int .u64 r):=by
 refine cG 20 func91 Z (λd=>sg (Wa (lr (Wa (lS (Wa ?_))))))
 refine ln (mA (nQ (λm E W=>∃g j B,ST true lN w W (hp w) B∧E 0=vS z∧E 3= .int .u64 g∧E 4=vI j∧xe z m g j=some r) lP ⟨14695981039346656037,0,_,d.kM,Z,Z,Z,hm⟩ ?_))
 rintro m E W ⟨g,j,B,d,u,D,x,c⟩
 cases m with
 | zero=>rw [xe] at c; cases c
 | succ H=>
  refine kY (sg (Wh x (Wh u (V (pn bG Z) (Wi Z (ln (CI c Z (λG c=>?_) λG c=>?_)))))))
  ·refine kn (kY (bg (Wh D (Wh u (Wh x (bS c λt y c=>V (B9 (i:=j) bG Z Z (Bc y) (EG y)) (V (pt (k':=.u8) (a:=(t.toNat:Int)) cJ gL Z) (V (RY (k:=.u64) (a:=g) (b:=IntKind.u64.wrap (t.toNat:Int)) (v:= .int .u64 (IntKind.u64.wrap (BitVec.ofInt (IntKind.bits .u64) g ^^^ BitVec.ofInt (IntKind.bits .u64) (IntKind.u64.wrap (t.toNat:Int))).toNat)) Z Z Z) (Wa (lC ?_))))))))))
   exact kW (kX (Wm (Wi Z (Wa (lC (lD (kW (kX (Wh x (Wi Z (Wa (ln ⟨H,bB _,IntKind.u64.wrap ((IntKind.u64.wrap (BitVec.ofInt (IntKind.bits .u64) g ^^^ BitVec.ofInt (IntKind.bits .u64) (IntKind.u64.wrap (t.toNat:Int))).toNat)*1099511628211),wi0 .i64 (j+1),_,d.kM,u,Z,Z,c⟩))))))))))))
  exact nB (nv (nv (ry (kW (sg (Wh D (Wa (lt (rQ c d)))))))))
theorem PN (z:Int) (r:ByteArray) (w:World) (hm:CK z=some r) :
  lF true pg0 90 [.int .u64 z] w (vS r):=by
 refine cG 19 func90 Z (λd=>sg (Wa (lr (Wa (lS (Wa ?_))))))
 refine ln (mA (nQ (λm E W=>∃g j i t,ST true lN w W (hp w) t∧E 0= .int .u64 g∧E 3=vS j∧E 4=vI i∧wV m g j i=some r) lP ⟨z,zS,0,_,d.kM,Z,Z,Z,hm⟩ ?_))
 rintro m E W ⟨g,j,i,t,d,u,x,y,c⟩
 cases m with
 | zero=>rw [wV] at c; cases c
 | succ G=>
  refine kY (sg (Wh y (Wi Z (ln (CI c Z (λB c=>?_) λB c=>?_)))))
  ·refine kn (kY (bg (Wh u (V (E1 (k:=.u64) (a:=g) (b:=256) (v:= .int .u64 (Int.tmod g 256)) Z Z dc Z) (V (pt (k':=.u64) (a:=Int.tmod g 256) gL cJ Z) (VE (lE (cs:=[.int .u8 (IntKind.u8.wrap (Int.tmod g 256))].toArray) d (mB Z) (ng aT fc fT) λI J d=>V (tg aT cJ bG Z (Sl.lit (enc:=lu .u8) (l:=[IntKind.u8.wrap (Int.tmod g 256)]) (λ_=>rfl) Z nb Z (d.at_ Mh))) (Wh x (bS c λH D c=>V (xk Z Z D) (Wa ?_))))))))))
   refine ln ?_
   have d:=d.kM (Db St)
   exact kX (Wh u (V (E1 (k:=.u64) (a:=g) (b:=256) (v:= .int .u64 (IntKind.u64.wrap (Int.tdiv g 256))) Z Z dc Z) (Wa (lC (lD (kW (kX (Wh y (Wi Z (Wa (ln ⟨G,bB _,IntKind.u64.wrap (Int.tdiv g 256),H,wi0 .i64 (i+1),_,d.kM,Z,Z,Z,c⟩)))))))))))
  exact nB (nv (nv (ry (kW (sg (Wh x (Wa (lt (rQ c d)))))))))
theorem QL (a:Int) (c r:ByteArray) (w:World) (hm:DQ a c=some r) :
  lF true pg0 48 [vI a,vS c] w (vS r):=by
 refine cG 18 func48 Z (λd=>sg (Wa (lr (Wm (bS hm λU x hm=>VE (Eg d call88 (xa a _ _  x) λQ d=>Wm (bS hm λY y hm=>VE (Eg d call89 (Aq c _ _  y) λT d=>bS hm λn z hm=>?_))))))))
 refine V (xk Z Z z) (Wm (bS hm λh g hm=>VE (Eg d call88 (xa a _ _  g) λH d=>Wm (bS hm λG t hm=>V (xk Z Z t) (bS hm λB i hm=>VE (Eg d call91 (Lq G _ _  i) λI d=>bS hm λD j hm=>VE (Eg d call90 (PN B _ _  j) λJ d=>bS hm λM k hm=>VE (Eg d call89 (Aq D _ _  k) λK d=>bS hm λN u hm=>V (xk Z Z u) ?_))))))))
 exact Wa (lt (rQ hm d))
theorem xX (M:ByteArray) (r:Bool) (w:World) (hm:tQ M=some r) :
  lF true pg0 114 [vS M] w (vB r):=by
 refine cG 49 func114 Z (λd=>sg (Wa (lS (Wm (V (rF Z Z Z) (Wm (LJ hm (λc7 E W=>∃L3,ST true lN w W (hp w) L3∧E 0=vS M∧E 11=vB c7) 4 ?_ λc7 K a5=>?_)))))))
 ·rintro x2 E W ⟨L3,d,q,e6⟩ f7
  refine Wh e6 (LJ f7 (λc6 E W=>∃d3,ST true lN w W (hp w) d3∧E 0=vS M∧E 16=vB c6) 4 ?_ λc6 x a4=>?_)
  ·rintro g4 E W ⟨d3,d,p,f4⟩ f0
   refine Wh f4 (LJ f0 (λc5 E W=>∃d4,ST true lN w W (hp w) d4∧E 0=vS M∧E 21=vB c5) 4 ?_ λc5 u a3=>?_)
   ·rintro g7 E W ⟨d4,d,f5,f6⟩ Q
    refine ln (CI Q f6 (λe9 Q=>?_) λe9 Q=>?_)
    ·refine sg (Wa (lt (ly ?_)))
     cases sj Q
     exact rP d
    refine kS (Wa (ln (mA (nQ (λm E W=>∃y O,ST true lN w W (hp w) O∧E 0=vS M∧E 3=vI y∧uR M m y=some r) lP ⟨0,_,d.kM,f5,Z,Q⟩ ?_))))
    rintro m E W ⟨y,O,d,T,U,c⟩
    cases m with
    | zero=>rw [uR] at c; cases c
    | succ f1=>
     refine kY (sg (Wh U (Wh T (V (pn bG Z) (Wi Z (ln (CI c Z (λc8 c=>?_) λc8 c=>?_)))))))
     ·refine kn (kY (bg (Wh T (Wh U (bS c λh a9 c=>V (B9 (i:=y) bG Z Z (Bc a9) (EG a9)) (Wa (lr ?_)))))))
      refine Wm (Wi Z (Wm (LJ c (λc4 E W=>∃P,ST true lN w W (hp w) P∧E 0=vS M∧E 3=vI y∧E 4= .int .u8 (h.toNat:Int)∧E 36=vB c4) 3 ?_ λc4 J a2=>?_)))
      ·rintro f2 E W ⟨P,d,n,o,N,d5⟩ d0
       refine Wh d5 (LJ d0 (λc2 E W=>∃R,ST true lN w W (hp w) R∧E 0=vS M∧E 3=vI y∧E 4= .int .u8 (h.toNat:Int)∧E 44=vB c2) 7 ?_ λc2 H s=>?_)
       ·rintro g1 E W ⟨R,d,b9,c0,d6,d7⟩ d1
        refine Wh d7 (LJ d1 (λc1 E W=>∃b5,ST true lN w W (hp w) b5∧E 0=vS M∧E 3=vI y∧E 48=vB c1) 3 ?_ λc1 G Y=>?_)
        ·rintro g2 E W ⟨b5,d,d8,d9,e0⟩ D
         refine ln (CI D e0 (λc9 D=>?_) λc9 D=>?_)
         ·refine sg (Wa (lt (mG (ly (ly (mG (ly ?_)))))))
          cases sj D
          exact rP d
         exact lU (lD (kW (kX (Wh d9 (Wi Z (Wa (ln ⟨f1,bB _,wi0 .i64 (y+1),_,d.kM,d8,Z,D⟩)))))))
        refine bC G (λk G=>?_) (λk G=>?_)
        ·refine ug k (kT d6) (ug k (lI Z Z Z) (V (lh (cB k) Z) ?_))
         cases sj G
         exact Y _ _ ⟨_,d.kM,b9,c0,Z⟩
        refine un k (un k (V (lg (cB k) Z) ?_))
        cases sj G
        exact Y _ _ ⟨_,d.kM,b9,c0,Z⟩
       refine bC H (λa H=>?_) (λa H=>?_)
       ·refine ug a (kT N) (ug a (lI Z Z Z) (ug a (kT Z) (LJ H (λc3 E W=>∃b6,ST true lN w W (hp w) b6∧E 0=vS M∧E 3=vI y∧E 4= .int .u8 (h.toNat:Int)∧E 37=vB f2∧E 43=vB c3) 3 ?_ λc3 I v=>?_)))
        ·rintro g3 E W ⟨b6,d,e1,e2,e3,e4,e7⟩ d2
         refine V (lh (e4.trans (cB a)) e7) ?_
         cases sj d2
         exact s _ _ ⟨_,d.kM,e1,e2,e3,Z⟩
        refine bC I (λt I=>?_) (λt I=>?_)
        ·refine un t (un t (ug a (lh (cB t) Z) ?_))
         cases sj I
         exact v _ _ ⟨_,d.kM,n,o,N,Z,Z⟩
        refine ug t (kT N) (ug t (lI Z Z Z) (ug a (lg (cB t) Z) ?_))
        cases sj I
        exact v _ _ ⟨_,d.kM,n,o,N,Z,Z⟩
       refine un a (un a (un a (Vu Z Z (Vu Z Z (un a (V (lg (cB a) Z) ?_))))))
       cases sj H
       exact s _ _ ⟨_,d.kM,n,o,N,Z⟩
      refine bC J (λj J=>?_) (λj J=>?_)
      ·refine un j (un j (V (lh (cB j) Z) ?_))
       cases sj J
       exact a2 _ _ ⟨_,d.kM,T,U,Z,Z⟩
      refine ug j (kT Z) (ug j (lI Z Z Z) (V (lg (cB j) Z) ?_))
      cases sj J
      exact a2 _ _ ⟨_,d.kM,T,U,Z,Z⟩
     exact nB (nv (nv (ry (kW (sg (Wa (lt (rQ c d))))))))
   refine bC u (λg u=>?_) (λg u=>?_)
   ·refine un g (un g (un g (V (lh (cB g) Z) ?_)))
    cases sj u
    exact a3 _ _ ⟨_,d.kM,p,Z⟩
   refine ug g (kT p) (bS u λf8 A u=>ug g (B9 (i:=0) bG Z Z (Bc A) (EG A)) (ug g (lI Z Z Z) (V (lg (cB g) Z) ?_)))
   cases sj u
   exact a3 _ _ ⟨_,d.kM,p,Z⟩
  refine bC x (λB x=>?_) (λB x=>?_)
  ·refine un B (un B (un B (V (lh (cB B) Z) ?_)))
   cases sj x
   exact a4 _ _ ⟨_,d.kM,q,Z⟩
  refine ug B (kT q) (bS x λf9 L x=>ug B (B9 (i:=0) bG Z Z (Bc L) (EG L)) (ug B (lI Z Z Z) (V (lg (cB B) Z) ?_)))
  cases sj x
  exact a4 _ _ ⟨_,d.kM,q,Z⟩
 refine bC K (λz K=>?_) (λz K=>?_)
 ·refine un z (un z (un z (V (lh (cB z) Z) ?_)))
  cases sj K
  exact a5 _ _ ⟨_,d.kM,Z,Z⟩
 refine ug z (kT Z) (ug z (pn bG Z) (ug z (lI Z Z Z) (V (lg (cB z) Z) ?_)))
 cases sj K
 exact a5 _ _ ⟨_,d.kM,Z,Z⟩
theorem AW {r:(ByteArray×lj)} (n:nN qb ((qk,Ol (lH qV) 112)::[]) qa) (hm:oY qV=some r) :
  mX true pg0 92 [vP qk] qa ((qk,Ol (lH qV) 112)::[]) (λv L1 W'=>v=vS r.1∧L1=((qk,Ol (lH r.2) 112)::[])):=by
 let U:=(qk,Ol (lH qV) 112)::[]
 refine Bl n 25 func92 Z (λa=>sg (Wa (lr (Wm (bS hm λx Y hm=>?_)))))
 refine VE (eM a (Cb Pz Cn) call46 (λo _=>yN o  Y) ?_)
 rintro _ v7 h L9 a a3 p d ⟨k,rfl⟩
 cases k
 have a:=a.perm (Tb Tn)
 refine Wa (ln (kY (CJ hm (λG E W=>∃z,ST true (keys U) qa W h ((qk,Ol (lH G) 112)::z)∧E 0=vP qk∧E 3=vS x.1) (λG K=>?_) ?_)))
 ·refine sg (Wm (Wn (Wf oW (VB a Mh Z Z bH (Wi Z (Wm (LJ K (λH E W=>∃B,ST true (keys U) qa W h ((qk,Ol (lH x.2) 112)::B)∧E 0=vP qk∧E 3=vS x.1∧E 15=vB H) 4 ?_ λH g t=>?_)))))))
  ·rintro a9 E W ⟨B,a,y,D,T⟩ j
   refine ln (CI j T (λJ j=>?_) λJ j=>?_)
   ·refine kX (Wh y (Wn (Wf oW (VO (lz (vI 30) ((lH (⟨x.2.S,30⟩:lj)).toArray) a Z Z dH (uk _ 30) nb Z (λa5 a=>ln ?_))))))
    cases sj j
    exact ⟨_,a.kM,y,D⟩
   refine kn ?_
   cases sj j
   exact ⟨_,a.kM,y,D⟩
  refine bC g (λc g=>?_) (λc g=>?_)
  ·refine ug c (kT Z) (bS g λs M g=>sh c (Eg a kJ (xX x.1 _ _  M) λq a=>ug c (nt Z) (V (lh (cB c) Z) ?_)))
   cases sj g
   exact t _ _ ⟨_,a.kM,Z,Z,Z⟩
  refine un c (un c (un c (V (lg (cB c) Z) ?_)))
  cases sj g
  exact t _ _ ⟨_,a.kM,Z,Z,Z⟩
 rintro u E W ⟨z,a,N,Q⟩ i
 refine kY (sg (Wh N (Wn (Wf oW (VB a Mh Z Z bH (Wi Z (ln (CI i Z (λI i=>?_) λI i=>?_))))))))
 ·refine sg (Wa (lt (ly ?_)))
  cases sj i
  exact ma (v:=vS zS) Z Z ⟨_,_,Z,a.lZ (Kb Sn),Z,Z⟩
 refine kg (Wh Q (Wa (lt ?_)))
 cases sj i
 exact ma (v:=vS x.1) Z Z ⟨_,_,Z,a.lZ (Kb Sn),Z,Z⟩
theorem CT {r:(kL×lj)} (G:nN qb ((qk,Ol (lH qV) 112)::[]) qa) (hm:oR qV=some r) :
  mX true pg0 93 [vP qk] qa ((qk,Ol (lH qV) 112)::[]) (λv D W'=>v=vA (kR r.1)∧D=((qk,Ol (lH r.2) 112)::[])):=by
 let u:Value:=vA (kR K0)
 refine Bl G 18 func93 Z (λa=>sg (VE (lq a cY λY p a=>lr (Wm (bS hm λg z hm=>?_)))))
 refine VE (eM a (Cb (Pb Pz) Cn) call92 (λh _=>AW h  z) ?_)
 rintro _ v9 o J a H n d ⟨i,rfl⟩
 cases i
 have a:=a.perm (Tb Tn)
 refine Wa (lr (Wm (bS hm λc y hm=>?_)))
 let t:=(⟨g.1,c.1⟩:kL)
 let M:Value:=vA (kR t)
 refine VE (eM a (Cb Pz Cn) call92 (λh _=>AW h  y) ?_)
 rintro _ T U K a B k d ⟨j,rfl⟩
 cases j
 have a:=a.perm (Tb Tn)
 refine Wa (lS (Wm (Wn (Wf oW (VB a Mh Z Z bH (Wi Z (ln (CI hm Z (λx hm=>?_) λx hm=>?_))))))))
 ·refine sg (V (lX (v:=u) oP (lG cY dl (Kc _ dl) kr)) ?_)
  have a:=a.perm (Nb (Pb Pz) Nz)
  refine VO (lz u ((kR K0).toArray) a Z Z aI (oQ K0) nb Z (λN a=>lt (ly ?_)))
  cases sj hm
  exact mR (v:=u) Z Z (kV a.has Mh (kR K0) Z bE aI) ⟨_,_,Z,a.lZ (Db (Kb Sn)),Z,Z⟩
 refine kg (Wm (Wm (V (lX (v:=M) (pF Z Z) (lG cY dl (Kc _ dl) kr)) ?_)))
 have a:=a.perm (Nb (Pb Pz) Nz)
 refine VO (lz M ((kR t).toArray) a Z Z aI (oQ t) nb Z (λQ a=>lt ?_))
 cases sj hm
 exact mR (v:=M) Z Z (kV a.has Mh (kR t) Z bE aI) ⟨_,_,Z,a.lZ (Db (Kb Sn)),Z,Z⟩
theorem AT (i:kL) (r:Bool) (w:World) (hm:wz i=some r) :
  lF true pg0 113 [vA (kR i)] w (vB r):=by
 refine cG 11 func113 Z (λd=>sg (VE (lY d Z (λH J d=>Wa (lr (Wf sE (VB d Mh Z Z bU (bS hm λK y hm=>VE (Eg d kJ (xX i.kO _ _  y) λI d=>Wm (LJ hm (λk E W=>∃j,ST true lN w W (hp w) j∧E 2=vB false∧E 10=vB k) 4 ?_ λk a g=>?_))))))))))
 ·rintro G E W ⟨j,d,B,x⟩ t
  exact Wg x (lt (rQ t d))
 refine bC a (λc a=>?_) (λc a=>?_)
 ·refine ug c (kU zu Z) (ug c (kP Z (kZ d.has Mh Z bU)) (bS a λD u a=>sh c (Eg d kJ (xX i.Word _ _  u) λz d=>V (lh (cB c) Z) ?_)))
  cases sj a
  exact g _ _ ⟨_,d.kM (Db St),Z,Z⟩
 refine un c (un c (un c (V (lg (cB c) Z) ?_)))
 cases sj a
 exact g _ _ ⟨_,d.kM (Db St),Z,Z⟩
theorem D2 (t u:kL) (r:Bool) (w:World) (hm:yD t u=some r) :
  lF true pg0 115 [vA (kR t),vA (kR u)] w (vB r):=by
 refine cG 24 func115 Z (λd=>sg (VE (lY d Z (λT Y d=>VE (lY d Z (λU h d=>Wa (lr (Wf sE (VB d (Mt Mh) Z Z bU (Wf sE (VB d Mh Z Z bU (V (rF Z Z Z) ?_))))))))))))
 refine Wm (LJ hm (λz E W=>∃x,ST true lN w W (hp w) x∧E 4=vB false∧E 23=vB z) 13 ?_ λz g j=>?_)
 ·rintro N E W ⟨x,d,M,H⟩ D
  exact Wg H (lt (rQ D d))
 refine bC g (λa g=>?_) (λa g=>?_)
 ·refine un a (un a (un a (un a (un a (un a (Vu Z Z (Vu Z Z (Vu Z Z (Vu Z Z (Vu Z Z (un a (V (lh (cB a) Z) ?_))))))))))))
  cases sj g
  exact j _ _ ⟨_,d.kM (Db (Db St)),Z,Z⟩
 refine ug a (kU sE Z) (ug a (kP Z (kZ d.has (Mt Mh) Z bU)) (ug a (kU sE Z) (ug a (kP Z (kZ d.has Mh Z bU)) (ug a (rF Z Z Z) (ug a (kT Z) (LJ g (λB E W=>∃y,ST true lN w W (hp w) y∧E 4=vB false∧E 10=vB (uJ t.kO u.kO)∧E 22=vB B) 6 ?_ λB i k=>?_))))))
 ·rintro Q E W ⟨y,d,I,J,K⟩ G
  refine V (lg (J.trans (cB a)) K) ?_
  cases sj G
  exact j _ _ ⟨_,d.kM,I,Z⟩
 refine bC i (λc i=>?_) (λc i=>?_)
 ·refine ug c (kU zu Z) (ug c (kP Z (kZ d.has (Mt Mh) Z bU)) (ug c (kU zu Z) (ug c (kP Z (kZ d.has Mh Z bU)) (ug c (rF Z Z Z) (ug a (lh (cB c) Z) ?_)))))
  cases sj i
  exact k _ _ ⟨_,d.kM (Db (Db St)),Z,Z,Z⟩
 refine un c (un c (un c (un c (un c (ug a (lg (cB c) Z) ?_)))))
 cases sj i
 exact k _ _ ⟨_,d.kM (Db (Db St)),Z,Z,Z⟩
theorem AZ (g:kK) (r:Bool) (w:World) (hm:uL g=some r) :
  lF true pg0 58 [vA (kQ g)] w (vB r):=by
 refine cG 93 func58 Z (λd=>sg (VE (lY d Z (λW2 M d=>Wa (lr (VE (lq d cY λW4 n d=>lS ?_)))))))
 refine Wf ud (VA d (Mt Mh) (kR g.Head) bE aI (bS hm λr5 h4 hm=>VE (Eg d call113 (AT g.Head _ _  h4) λW7 d=>V (nt Z) (ln (CI hm Z (λh2 hm=>?_) λh2 hm=>?_)))))
 ·refine sg (Wa (ln ?_))
  have d:=d.kM (Db (Db St))
  refine lB (ly ?_)
  cases sj hm
  exact rP d
 refine kS (Wf rG (VB d (Mt Mh) Z Z bH (Wi Z (ln (CI hm Z (λh3 hm=>?_) λh3 hm=>?_)))))
 ·refine sg (Wf zY (VB d (Mt Mh) Z Z bU (bS hm λi6 f7 hm=>VE (Eg d kJ (xX g.lV _ _  f7) λi3 d=>Wm (LJ hm (λe1 E W=>∃c8,ST true lN w W (hp w) ((n,Ol (kR K0) 53)::((M,Ol (kQ g) 55)::c8))∧E 1=vP M∧E 2=vB false∧E 3=vP n∧E 19=vB e1) 5 ?_ λe1 T v=>?_)))))
  ·rintro i8 E W ⟨c8,d,o,d6,f9,g0⟩ f0
   refine Wh g0 (LJ f0 (λe0 E W=>∃c9,ST true lN w W (hp w) ((M,Ol (kQ g) 55)::c9)∧E 1=vP M∧E 2=vB false∧E 25=vB e0) 5 ?_ λe0 Q a5=>?_)
   ·rintro i9 E W ⟨c9,d,g1,d7,g2⟩ f1
    refine Wh g2 (LJ f1 (λd9 E W=>∃d0,ST true lN w W (hp w) d0∧E 2=vB false∧E 30=vB d9) 4 ?_ λd9 N a4=>?_)
    ·rintro j0 E W ⟨d0,d,i5,g3⟩ f2
     refine Wg g3 (lt (ly ?_))
     cases sj f2
     exact rP d
    refine bC N (λx N=>?_) (λx N=>?_)
    ·refine ug x (kU yc g1) (ug x (kP Z (kZ d.has Mh Z bU)) (ug x (rF Z Z Z) (V (lh (cB x) Z) ?_)))
     cases sj N
     exact a4 _ _ ⟨_,d.kM (Db St),d7,Z⟩
    refine un x (un x (un x (V (lg (cB x) Z) ?_)))
    cases sj N
    exact a4 _ _ ⟨_,d.kM (Db St),d7,Z⟩
   refine bC Q (λk Q=>?_) (λk Q=>?_)
   ·refine ug k (kU vH o) (ug k (kP Z (kV d.has (Mt Mh) (kR g.C) Z bE aI)) (ug k (kP f9 (kV d.has Mh (kR K0) Z bE aI)) (ug k (wE Z Z (nY dN) (so (rS _ g.C K0))) (V (lh (cB k) Z) ?_))))
    cases sj Q
    exact a5 _ _ ⟨_,d.kM (Db St),o,d6,Z⟩
   refine un k (un k (un k (un k (V (lg (cB k) Z) ?_))))
   cases sj Q
   exact a5 _ _ ⟨_,d.kM (Db St),o,d6,Z⟩
  refine bC T (λj T=>?_) (λj T=>?_)
  ·refine ug j (kU ph Z) (ug j (kP Z (kV d.has (Mt Mh) (kR g.B) Z bE aI)) (ug j (kP Z (kV d.has Mh (kR K0) Z bE aI)) (ug j (wE Z Z (nY dN) (so (rS _ g.B K0))) (V (lh (cB j) Z) ?_))))
   cases sj T
   exact v _ _ ⟨_,d.kM,Z,Z,Z,Z⟩
  refine un j (un j (un j (un j (V (lg (cB j) Z) ?_))))
  cases sj T
  exact v _ _ ⟨_,d.kM,Z,Z,Z,Z⟩
 let a0:=((kQ g).toArray:Array Value)
 let h:Value:=vP M
 refine kS (Wf zY (VB d (Mt Mh) Z Z bU (V (rF Z Z Z) (Wm (LJ hm (λc1 E W=>∃d1,ST true lN w W (hp w) ((n,Ol (kR K0) 53)::((M,oC a0 55)::d1))∧E 1=h∧E 3=vP n∧E 39=vB c1) 5 ?_ λc1 I a3=>?_)))))
 ·rintro j3 E W ⟨d1,d,u,d8,g4⟩ i
  refine ln (CI i g4 (λe7 i=>?_) λe7 i=>?_)
  ·refine sg (Wa (ln ?_))
   have d:=d.kM (Db (Db St))
   refine lB (ly ?_)
   cases sj i
   exact rP d
  refine kS (V (kU rG u) (VB d (Mt Mh) Z Z bH (Wi Z (ln (CI i Z (λe8 i=>?_) λe8 i=>?_)))))
  ·refine sg (V (kU vH u) (VA d (Mt Mh) (kR g.C) bE aI (V (kP d8 (kV d.has Mh (kR K0) Z bE aI)) (V (wE Z Z (nY dN) (so (rS _ g.C K0))) (Wm (LJ i (λe2 E W=>∃d2,ST true lN w W (hp w) d2∧E 51=vB e2) 4 ?_ λe2 U A=>?_))))))
   ·rintro j4 E W ⟨d2,d,g7⟩ f3
    refine Wg g7 (lt (ly ?_))
    cases sj f3
    exact rP d
   refine bC U (λy U=>?_) (λy U=>?_)
   ·refine ug y (kU yc u) (ug y (kP Z (kZ d.has (Mt Mh) Z bU)) (ug y (rF Z Z Z) (V (lh (cB y) Z) ?_)))
    cases sj U
    exact A _ _ ⟨_,d.kM (Db (Db St)),Z⟩
   refine un y (un y (un y (V (lg (cB y) Z) ?_)))
   cases sj U
   exact A _ _ ⟨_,d.kM (Db (Db St)),Z⟩
  refine kS (V (kU rG u) (VB d (Mt Mh) Z Z bH (Wi Z (ln (CI i Z (λe9 i=>?_) λe9 i=>?_)))))
  ·refine sg (V (kU vH u) (VA d (Mt Mh) (kR g.C) bE aI (V (kP d8 (kV d.has Mh (kR K0) Z bE aI)) (V (wE Z Z (nY dN) (so (rS _ g.C K0))) (Wm (LJ i (λe4 E W=>∃d3,ST true lN w W (hp w) ((M,oC a0 55)::d3)∧E 1=h∧E 67=vB e4) 8 ?_ λe4 Y a9=>?_))))))
   ·rintro j5 E W ⟨d3,d,g8,g9⟩ f4
    refine Wh g9 (LJ f4 (λe3 E W=>∃d4,ST true lN w W (hp w) d4∧E 72=vB e3) 4 ?_ λe3 J L=>?_)
    ·rintro j6 E W ⟨d4,d,h0⟩ f5
     refine Wg h0 (lt (ly ?_))
     cases sj f5
     exact rP d
    refine bC J (λz J=>?_) (λz J=>?_)
    ·refine ug z (kU yc g8) (ug z (kP Z (kZ d.has Mh Z bU)) (bS J λi7 f8 J=>sh z (Eg d kJ (xX g.lW _ _  f8) λi4 d=>V (lh (cB z) Z) ?_)))
     cases sj J
     exact L _ _ ⟨_,d.kM (Db St),Z⟩
    refine un z (un z (un z (V (lg (cB z) Z) ?_)))
    cases sj J
    exact L _ _ ⟨_,d.kM (Db St),Z⟩
   refine bC Y (λa Y=>?_) (λa Y=>?_)
   ·refine ug a (kU ph u) (ug a (kU sE Z) (ug a (kP Z (kZ d.has (Mt Mh) Z bU)) (ug a (kU ud u) (ug a (kU sE Z) (ug a (kP Z (kZ d.has (Mt Mh) Z bU)) (ug a (rF Z Z Z) (V (lh (cB a) Z) ?_)))))))
    cases sj Y
    exact a9 _ _ ⟨_,d.kM (Db St),u,Z⟩
   refine un a (un a (un a (un a (un a (un a (un a (V (lg (cB a) Z) ?_)))))))
   cases sj Y
   exact a9 _ _ ⟨_,d.kM (Db St),u,Z⟩
  refine kn ?_
  have d:=d.kM (Db St)
  refine sg (V (kU rG u) (VB d Mh Z Z bH (Wi Z (Wm (LJ i (λc0 E W=>∃d5,ST true lN w W (hp w) ((M,oC a0 55)::d5)∧E 1=h∧E 80=vB c0) 4 ?_ λc0 K a2=>?_)))))
  ·rintro j7 E W ⟨d5,d,p,h1⟩ f6
   refine Wh h1 (LJ f6 (λb9 E W=>∃O,ST true lN w W (hp w) ((M,oC a0 55)::O)∧E 1=h∧E 85=vB b9) 4 ?_ λb9 H s=>?_)
   ·rintro i1 E W ⟨O,d,R,e5⟩ c3
    refine Wh e5 (LJ c3 (λb7 E W=>∃P,ST true lN w W (hp w) P∧E 92=vB b7) 6 ?_ λb7 G q=>?_)
    ·rintro i2 E W ⟨P,d,e6⟩ c4
     exact Wg e6 (lt (rQ c4 d))
    refine bC G (λc G=>?_) (λc G=>?_)
    ·refine ug c (kU ph R) (ug c (kP Z (kV d.has Mh (kR g.B) Z bE aI)) (ug c (kU vH R) (ug c (kP Z (kV d.has Mh (kR g.C) Z bE aI)) (bS G λh8 c5 G=>sh c (Eg d call115 (D2 g.B g.C _ _  c5) λh5 d=>V (lh (cB c) Z) ?_)))))
     cases sj G
     exact q _ _ ⟨_,d.kM (Db St),Z⟩
    refine un c (un c (un c (un c (un c (V (lg (cB c) Z) ?_)))))
    cases sj G
    exact q _ _ ⟨_,d.kM (Db St),Z⟩
   refine bC H (λD H=>?_) (λD H=>?_)
   ·refine ug D (kU vH p) (ug D (kP Z (kV d.has Mh (kR g.C) Z bE aI)) (bS H λh9 c6 H=>sh D (Eg d call113 (AT g.C _ _  c6) λh6 d=>V (lh (cB D) Z) ?_)))
    cases sj H
    exact s _ _ ⟨_,d.kM,p,Z⟩
   refine un D (un D (un D (V (lg (cB D) Z) ?_)))
   cases sj H
   exact s _ _ ⟨_,d.kM,p,Z⟩
  refine bC K (λB K=>?_) (λB K=>?_)
  ·refine ug B (kU yc u) (ug B (kP Z (kZ d.has Mh Z bU)) (ug B (rF Z Z Z) (V (lh (cB B) Z) ?_)))
   cases sj K
   exact a2 _ _ ⟨_,d.kM,u,Z⟩
  refine un B (un B (un B (V (lg (cB B) Z) ?_)))
  cases sj K
  exact a2 _ _ ⟨_,d.kM,u,Z⟩
 refine bC I (λt I=>?_) (λt I=>?_)
 ·refine un t (un t (un t (un t (V (lh (cB t) Z) ?_))))
  cases sj I
  exact a3 _ _ ⟨_,d.kM,Z,Z,Z⟩
 refine ug t (kU ph Z) (ug t (kP Z (kV d.has (Mt Mh) (kR g.B) Z bE aI)) (bS I λi0 c7 I=>sh t (Eg d call113 (AT g.B _ _  c7) λh7 d=>ug t (nt Z) (V (lg (cB t) Z) ?_))))
 cases sj I
 exact a3 _ _ ⟨_,d.kM,Z,Z,Z⟩
set_option maxHeartbeats 4000000 in
theorem PI {r:(kK×lj)} (h0:nN qb ((qk,Ol (lH qV) 112)::[]) qa) (hm:AQ qV=some r) :
  mX true pg0 135 [vP qk] qa ((qk,Ol (lH qV) 112)::[]) (λv L1 W'=>v=vA (kQ r.1)∧L1=((qk,Ol (lH r.2) 112)::[])):=by
 let g5:Value:=vA (kQ K9)
 let f8:Value:=vP qk
 let n:=((kQ K9).toArray:Array Value)
 let a0:=(qk,Ol (lH qV) 112)::[]
 refine Bl h0 74 func135 Z (λa=>sg (VE (lq a cO λW2 G a=>lr (Wm (bS hm λD k5 hm=>?_)))))
 let g6:=((lH D.2).toArray:Array Value)
 let f9:Value:=vP G
 let b8:=(⟨D.1,K0,zS,K0,K0,zS⟩:kK)
 let g1:=((kQ b8).toArray:Array Value)
 refine VE (eM a (Cb (Pb Pz) Cn) call45 (λh _=>pR h  k5) ?_)
 rintro _ v9 o n9 a m7 ag d ⟨c5,rfl⟩
 cases c5
 have a:=a.perm (Tb Tn)
 refine V (lX (v:=vA (kQ b8)) (mB Z) (lG cO dy (Oj _ dy) kr)) (VE (lq a cO λo1 g a=>VO (FA (h1:=ow b8) ((kQ b8).toArray) a aK λo2 a=>ln (kY (CJ hm (λf2 E W=>∃i3,ST true (keys a0) qa W o ((g,oC g1 55)::((qk,Ol (lH f2) 112)::((G,oC n 55)::i3)))∧E 0=f8∧E 2=f9∧E 3=vP g) (λf2 h6=>?_) ?_)))))
 ·refine sg (Wm (Wn (Wf oW (VB a (Mt Mh) Z Z bH (Wi Z (Wm (LJ h6 (λf3 E W=>∃d8,ST true (keys a0) qa W o ((g,oC g1 55)::((qk,oC g6 112)::((G,oC n 55)::d8)))∧E 0=f8∧E 2=f9∧E 3=vP g∧E 21=vB f3) 9 ?_ λf3 M b5=>?_)))))))
  ·rintro n6 E W ⟨d8,a,O,e4,e5,i8⟩ K
   refine ln (CI K i8 (λh3 K=>?_) λh3 K=>?_)
   ·refine kX (Wh O (Wn (Wf oW ?_)))
    have a:=a.perm (Nb (Pb Pz) Nz)
    refine VO (lz (vI 11) ((lH (⟨D.2.S,11⟩:lj)).toArray) a Z Z dH (uk _ 11) nb Z (λm5 a=>ln ?_))
    cases sj K
    exact ⟨_,a.kM (Sb (Pb Pz) St),O,e4,e5⟩
   refine kn ?_
   cases sj K
   exact ⟨_,a.kM,O,e4,e5⟩
  refine bC M (λc M=>?_) (λc M=>?_)
  ·refine ug c (kU rG Z) (ug c (kP Z (kZ a.has Mh Z bH)) (ug c (lI Z Z Z) (ug c (kT Z) (LJ M (λf4 E W=>∃d9,ST true (keys a0) qa W o ((g,oC g1 55)::((qk,oC g6 112)::((G,oC n 55)::d9)))∧E 0=f8∧E 2=f9∧E 3=vP g∧E 12=vB (D.2.E==0)∧E 20=vB f4) 4 ?_ λf4 N b6=>?_))))
   ·rintro n7 E W ⟨d9,a,i9,j0,j3,j4,j5⟩ h7
    refine V (lh (j4.trans (cB c)) j5) ?_
    cases sj h7
    exact b5 _ _ ⟨_,a.kM,i9,j0,j3,Z⟩
   refine bC N (λj N=>?_) (λj N=>?_)
   ·refine un j (un j (un j (ug c (lh (cB j) Z) ?_)))
    cases sj N
    exact b6 _ _ ⟨_,a.kM,Z,Z,Z,Z,Z⟩
   refine ug j (kU rG Z) (ug j (kP Z (kZ a.has Mh Z bH)) (ug j (lI Z Z Z) (ug c (lg (cB j) Z) ?_)))
   cases sj N
   exact b6 _ _ ⟨_,a.kM,Z,Z,Z,Z,Z⟩
  refine un c (un c (un c (un c (Vu Z Z (Vu Z Z (Vu Z Z (un c (V (lg (cB c) Z) ?_))))))))
  cases sj M
  exact b5 _ _ ⟨_,a.kM,Z,Z,Z,Z⟩
 rintro k6 E W ⟨i3,a,a3,d2,Y⟩ P
 refine sg (Wh a3 (bS P λH j8 P=>?_))
 let j1:=(⟨D.1,H.1,zS,K0,K0,zS⟩:kK)
 refine VE (eM a (Cb (Pb Pz) Cn) call93 (λh _=>CT h  j8) ?_)
 rintro _ o5 f7 o0 a k7 af d ⟨c6,rfl⟩
 cases c6
 have a:=a.perm (Tb Tn)
 refine V (kU ud Y) ?_
 have a:=a.perm (Nb (Pb Pz) Nz)
 let g0:Value:=vP g
 refine VO (lz (vA (kR H.1)) ((kQ j1).toArray) a Z Z aI (oQ H.1) nb Z (λo4 a=>ln (kY (CJ P (λd0 E W=>∃a2 d3,lm f7 a2∧ST true (keys a0) qa W a2 ((g,Ol (kQ d0.1) 55)::((qk,Ol (lH d0.2) 112)::((G,oC n 55)::d3)))∧E 0=f8∧E 2=f9∧E 3=g0) (λd0 x=>?_) ?_))))
 ·refine sg (V (kU rG Y) (VB a Mh Z Z bH (ln (bg (Wi Z (Wa (ln (CI x Z (λg4 x=>?_) λg4 x=>?_))))))))
  ·refine kX (Wh a3 (bS x λR h9 x=>?_))
   refine VE (eM a (Cb (Pb Pz) Cn) call92 (λh _=>AW h  h9) ?_)
   rintro _ m9 k0 k9 a e6 aa d ⟨a6,rfl⟩
   cases a6
   have a:=a.perm (Tb Tn)
   refine V (kU zY Y) ?_
   have a:=a.perm (Nb (Pb Pz) Nz)
   refine VO (lz (vS R.1) ((kQ (⟨D.1,H.1,R.1,K0,K0,zS⟩:kK)).toArray) a Z Z er (EJ R.1) nb Z (λl8 a=>lC (lD (kW ?_))))
   cases sj x
   exact ⟨k0,_,e6,a.kM,a3,d2,Y⟩
  refine kY (CJ x (λf1 E W=>∃d6,ST true (keys a0) qa W f7 ((g,Ol (kQ j1) 55)::((qk,Ol (lH H.2) 112)::((G,oC n 55)::d6)))∧E 0=f8∧E 2=f9∧E 3=g0∧E 35=vB f1) (λf1 k=>?_) ?_)
  ·refine sg (Wi Z (Wa (ln (CI k Z (λh1 k=>?_) λh1 k=>?_))))
   ·refine kn ?_
    cases sj k
    exact ⟨_,a.kM,a3,d2,Y,Z⟩
   refine sg (Wi Z (Wa (ln (CI k Z (λh2 k=>?_) λh2 k=>?_))))
   ·refine kn ?_
    cases sj k
    exact ⟨_,a.kM,a3,d2,Y,Z⟩
   refine kX (Wi Z (Wa (ln ?_)))
   cases sj k
   exact ⟨_,a.kM,a3,d2,Y,Z⟩
  rintro n5 E W ⟨d6,a,U,c1,Q,i7⟩ y
  refine CI y i7 (λg7 y=>?_) (λg7 y=>?_)
  ·refine sg (Wh U (bS y λq i0 y=>?_))
   refine VE (eM a (Cb (Pb Pz) Cn) call93 (λh _=>CT h  i0) ?_)
   rintro _ n0 f6 l0 a b2 ab d ⟨a7,rfl⟩
   cases a7
   have a:=a.perm (Tb Tn)
   refine V (kU ph Q) ?_
   have a:=a.perm (Nb (Pb Pz) Nz)
   refine VO (lz (vA (kR q.1)) ((kQ (⟨D.1,H.1,zS,q.1,K0,zS⟩:kK)).toArray) a Z Z aI (oQ q.1) nb Z (λm0 a=>ln (kY (CJ y (λd1 E W=>∃s d7,lm f6 s∧ST true (keys a0) qa W s ((g,Ol (kQ d1.1) 55)::((qk,Ol (lH d1.2) 112)::((G,oC n 55)::d7)))∧E 0=f8∧E 2=f9∧E 3=g0) (λd1 B=>?_) ?_))))
   ·refine sg (V (kU rG Q) (VB a Mh Z Z bH (Wi Z (ln (CI B Z (λg9 B=>?_) λg9 B=>?_)))))
    ·refine kX (Wh U (bS B λc9 i2 B=>?_))
     refine VE (eM a (Cb (Pb Pz) Cn) call92 (λh _=>AW h  i2) ?_)
     rintro _ n2 k2 l2 a e8 ae d ⟨a9,rfl⟩
     cases a9
     have a:=a.perm (Tb Tn)
     refine V (kU yc Q) ?_
     have a:=a.perm (Nb (Pb Pz) Nz)
     refine VO (lz (vS c9.1) ((kQ (⟨D.1,H.1,zS,q.1,K0,c9.1⟩:kK)).toArray) a Z Z er (EJ c9.1) nb Z (λm4 a=>ln ?_))
     cases sj B
     exact ⟨k2,_,e8,a.kM,U,c1,Q⟩
    refine kn ?_
    cases sj B
    exact ⟨f6,_,lm.refl _,a.kM,U,c1,Q⟩
   rintro ⟨p,j9⟩ E W ⟨s,d7,b3,a,c2,e3,a5⟩ z
   refine sg (V (kU rG a5) (VB a Mh Z Z bH (Wi Z (ln (CI z Z (λg8 z=>?_) λg8 z=>?_)))))
   ·refine kX (Wh c2 (bS z λT i1 z=>?_))
    refine VE (eM a (Cb (Pb Pz) Cn) call93 (λh _=>CT h  i1) ?_)
    rintro _ n1 k1 l1 a e7 ad d ⟨a8,rfl⟩
    cases a8
    have a:=a.perm (Tb Tn)
    refine V (kU vH a5) ?_
    have a:=a.perm (Nb (Pb Pz) Nz)
    refine VO (lz (vA (kR T.1)) ((kQ (⟨p.Kind,p.Head,p.lV,p.B,T.1,p.lW⟩:kK)).toArray) a Z Z aI (oQ T.1) nb Z (λm2 a=>lC (lD (kW ?_))))
    cases sj z
    exact ⟨k1,_,(b2.trans b3).trans e7,a.kM,c2,e3,a5⟩
   refine lU (lD (kW ?_))
   cases sj z
   exact ⟨s,_,b2.trans b3,a.kM,c2,e3,a5⟩
  refine lU (lD (kW ?_))
  cases sj y
  exact ⟨f7,_,lm.refl _,a.kM,U,c1,Q⟩
 rintro ⟨t,f5⟩ E W ⟨a2,d3,k4,a,w,e0,A⟩ h4
 refine kY (CJ h4 (λe9 E W=>∃d4,ST true (keys a0) qa W a2 ((g,Ol (kQ t) 55)::((qk,Ol (lH e9) 112)::((G,oC n 55)::d4)))∧E 0=f8∧E 2=f9∧E 3=g0) (λe9 h5=>?_) ?_)
 ·refine sg (Wh w (Wn (Wf oW (VB a (Mt Mh) Z Z bH (Wi Z (Wm (LJ h5 (λf0 E W=>∃d5,ST true (keys a0) qa W a2 ((g,Ol (kQ t) 55)::((qk,Ol (lH f5) 112)::((G,oC n 55)::d5)))∧E 0=f8∧E 2=f9∧E 3=g0∧E 63=vB f0) 4 ?_ λf0 u b4=>?_)))))))
  ·rintro n4 E W ⟨d5,a,L,e1,e2,i6⟩ J
   refine ln (CI J i6 (λg3 J=>?_) λg3 J=>?_)
   ·refine kX (Wh L (Wn (Wf oW ?_)))
    have a:=a.perm (Nb (Pb Pz) Nz)
    refine VO (lz (vI 11) ((lH (⟨f5.S,11⟩:lj)).toArray) a Z Z dH (uk _ 11) nb Z (λl5 a=>ln ?_))
    cases sj J
    exact ⟨_,a.kM (Sb (Pb Pz) St),L,e1,e2⟩
   refine kn ?_
   cases sj J
   exact ⟨_,a.kM,L,e1,e2⟩
  refine bC u (λi u=>?_) (λi u=>?_)
  ·refine ug i (kP A (kV a.has Mh (kQ t) Z bK aK)) (bS u λm8 h8 u=>sh i (Eg a call58 (AZ t _ _  h8) λl6 a=>ug i (nt Z) (V (lh (cB i) Z) ?_)))
   cases sj u
   exact b4 _ _ ⟨_,a.kM,w,e0,A,Z⟩
  refine un i (un i (un i (V (lg (cB i) Z) ?_)))
  cases sj u
  exact b4 _ _ ⟨_,a.kM,w,e0,A,Z⟩
 rintro n3 E W ⟨d4,a,i4,a4,i5⟩ I
 refine kY (sg (Wh i4 (Wn (Wf oW (VB a (Mt Mh) Z Z bH (Wi Z (ln (CI I Z (λg2 I=>?_) λg2 I=>?_))))))))
 ·refine sg (V (lX (v:=g5) oP (lG cO dy (Oj _ dy) kr)) ?_)
  have a:=a.perm (Nb (Pb (Pb Pz)) Nz)
  refine VO (lz g5 ((kQ K9).toArray) a a4 Z aK (ow K9) nb Z (λl3 a=>ln ?_))
  have a:=a.kM (Kb (Db St))
  refine lB (ly ?_)
  cases sj I
  exact mR (v:=g5) Z a4 (kV a.has Mh (kQ K9) Z bK aK) ⟨_,_,Z,a.lZ (Db (Kb Sn)),Z,Z⟩
 refine kg (V (kP i5 (kV a.has Mh (kQ t) Z bK aK)) ?_)
 have a:=a.perm (Nb (Pb (Pb Pz)) Nz)
 refine VO (lz (vA (kQ t)) ((kQ t).toArray) a a4 Z aK (ow t) nb Z (λl4 a=>ln ?_))
 have a:=a.kM (Kb (Db St))
 refine lB ?_
 cases sj I
 exact mR (v:=vA (kQ t)) Z a4 (kV a.has Mh (kQ t) Z bK aK) ⟨_,_,Z,a.lZ (Db (Kb Sn)),Z,Z⟩
theorem Py {r:(Signed×lj)} (h0:nN qb ((qk,Ol (lH qV) 112)::[]) qa) (hm:AS qV=some r) :
  mq true pg0 94 [vP qk] qa qb ((qk,Ol (lH qV) 112)::[]) (λv L1 μ1=>∃A,v=vA [vI r.1.kK.Kind,vS r.1.kK.Head.kO,vS r.1.kK.Head.Word,vS r.1.kK.lV,vS r.1.kK.B.kO,vS r.1.kK.B.Word,vS r.1.kK.C.kO,vS r.1.kK.C.Word,vS r.1.kK.lW,A]∧L1=((qk,Ol (lH r.2) 112)::[])∧Sl (Pl (lu .u8)) 1 μ1 A r.1.Tag):=by
 let w:=(qk,Ol (lH qV) 112)::[]
 refine ve h0 32 func94 Z (λc=>sg (VE (lq c cU λW2 Q c=>lr (Wm (bS hm λa b9 hm=>?_)))))
 refine VE (eM c (Cb (Pb Pz) Cn) call135 (λp _=>PI p  b9) ?_)
 rintro _ v9 a7 c6 c M o h ⟨y,rfl⟩
 cases y
 have c:=c.perm (Tb Tn)
 refine VE (lq c cO λc8 B c=>VO (FA (h1:=ow a.1) ((kQ a.1).toArray) c aK λc9 c=>lr (Wm (bS hm λI O hm=>?_))))
 refine VE (eM c (Cb (Pb Pz) Cn) call46 (λp _=>yN p  O) ?_)
 rintro _ d5 a5 c7 c G d h ⟨z,rfl⟩
 cases z
 have c:=c.perm (Tb Tn)
 refine Wa (ln (kY (CJ hm (λa3 E W=>∃U,ST true (keys w) qa W a5 ((qk,Ol (lH a3) 112)::((B,Ol (kQ a.1) 55)::((Q,Ol C7 57)::U)))∧E 0=vP qk∧E 2=vP Q∧E 3=vP B∧E 4=vS I.1) (λa3 L=>?_) ?_)))
 ·refine sg (Wm (Wn (Wf oW (VB c Mh Z Z bH (Wi Z (Wm (LJ L (λa4 E W=>∃Y,ST true (keys w) qa W a5 ((qk,Ol (lH I.2) 112)::((B,Ol (kQ a.1) 55)::((Q,Ol C7 57)::Y)))∧E 0=vP qk∧E 2=vP Q∧E 3=vP B∧E 4=vS I.1∧E 18=vB a4) 4 ?_ λa4 u H=>?_)))))))
  ·rintro d8 E W ⟨Y,c,K,q,s,a2,b7⟩ t
   refine ln (CI t b7 (λa9 t=>?_) λa9 t=>?_)
   ·refine kX (Wh K (Wn (Wf oW (VO (lz (vI 11) ((lH (⟨I.2.S,11⟩:lj)).toArray) c Z Z dH (uk _ 11) nb Z (λd4 c=>ln ?_))))))
    cases sj t
    exact ⟨_,c.kM,K,q,s,a2⟩
   refine kn ?_
   cases sj t
   exact ⟨_,c.kM,K,q,s,a2⟩
  refine bC u (λg u=>?_) (λg u=>?_)
  ·refine ug g (kT Z) (ug g (pn bG Z) (ug g (lI Z Z Z) (V (lh (cB g) Z) ?_)))
   cases sj u
   exact H _ _ ⟨_,c.kM,Z,Z,Z,Z,Z⟩
  refine un g (un g (un g (V (lg (cB g) Z) ?_)))
  cases sj u
  exact H _ _ ⟨_,c.kM,Z,Z,Z,Z,Z⟩
 rintro d7 E W ⟨U,c,R,D,b5,b6⟩ i
 refine kY (sg (Wh R (Wn (Wf oW (VB c Mh Z Z bH (Wi Z (ln (CI i Z (λJ i=>?_) λJ i=>?_))))))))
 ·refine sg (V (lX (v:=vA C7) oP (lG cU ep (Of _ ep) kr)) ?_)
  have c:=c.perm (Nb (Pb (Pb Pz)) Nz)
  refine VO (lz (vA C7) C7.toArray c D Z bO oc nb Z (λd1 c=>ln ?_))
  have c:=c.kM (Kb (Kb (Db St)))
  refine lB (ly ?_)
  cases sj i
  exact mR (v:=vA C7) Z D (kV c.has Mh C7 Z ef bO) ⟨_,_,_,Z,c.lZ (Db (Kb Sn)),M.trans G,o.trans d,ST.lp c (mu.mem (Db (Kb Sn))),vN,Z,Z,Sl.nil _ _ _⟩
 refine kg (V (kP b5 (kV c.has (Mt Mh) (kQ a.1) Z bK aK)) (Wh b6 (bS i λx P i=>VE (Kv c bG aT cJ Z P λd2 d6 d9 c T n N c4=>?_))))
 obtain ⟨j,k,rfl⟩:=N.form
 let a0:=C2 a.1.Kind a.1.Head.kO a.1.Head.Word a.1.lV a.1.B.kO a.1.B.Word a.1.C.kO a.1.C.Word a.1.lW j x.length k
 refine V (lX (v:=vA a0) (pF Z Z) (lG cU ep (Of _ ep) kr)) ?_
 have c:=c.perm (Nb (Pb (Pb Pz)) Nz)
 refine VO (lz (vA a0) a0.toArray c D Z bO oc nb Z (λd3 c=>ln ?_))
 have c:=c.kM (Kb (Kb (Db St)))
 refine lB ?_
 cases sj i
 exact mR (v:=vA a0) Z D (kV c.has Mh a0 Z ef bO) ⟨_,_,_,Z,c.lZ (Db (Kb Sn)),(M.trans G).trans T,(o.trans d).trans n,ST.lp c (mu.mem (Db (Kb Sn))),.slice j x.length k,Z,Z,N⟩
theorem Sz (e2:Sl (Pl kR) 2 (hp qa) q0 qz) (hm:E3 qz=some qA) :
  mM true pg0 137 [q0] qa 53 kR 2 qA:=by
 refine yd 49 func137 Z (λn=>sg (Wa (lr (Wa (ln (tW (mA (nQ (λm E W=>∃u a3 t c3,ST true lN qa W (hp qa) (t++c3)∧E 0=q0∧E 3=u∧lQ 53 kR 2 u a3 t∧yw qz m a3=some qA) lP ⟨vN,[],[],_,n.kM,Z,Z,lQ.nil _ _ _,hm⟩ ?_))))))))
 rintro m E W ⟨u,a3,t,c3,n,c9,f9,J,a5⟩
 cases m with
 | zero=>rw [yw] at a5; cases a5
 | succ j0=>
  refine bg (VE (lq n cY λj7 k n=>lr (Wa (lS (Wh c9 ?_)))))
  let b8:Value:=vP k
  refine V (lT bD Z e2) (Wm (ln (CJ a5 (λa9 E W=>∃c4,ST true lN qa W (hp qa) ((k,Ol (kR a9.2) 53)::(t++c4))∧E 0=q0∧E 3=u∧E 4=b8∧E 5=vB a9.1) (λa9 e7=>?_) ?_)))
  ·refine mJ 10 9 (λi js E W=>∃D x b1,ST true lN qa W (hp qa) ((k,Ol (kR x) 53)::(t++b1))∧E 0=q0∧E 3=u∧E 4=b8∧E 5=vB D∧E 8=q0∧wQ a3 js D x=some a9) e2.len ⟨false,K0,_,n.kM,c9,f9,Z,Z,Z,e7⟩ ?_ ?_
   ·rintro a2 c j6 E W f6 ⟨⟨w,eN⟩,D,x,b1,n,U,M,Y,q,s,H⟩
    let g5:=((kR x).toArray:Array Value)
    let P:=((kR c).toArray:Array Value)
    refine sg (VQ (oz (enc:=kR) (i:=(a2:Int)) (x0:=c) bD aI s w e2 (aG _) f6) λk6 f1=>V (kP Z (lA n.has f1 bE aI)) (VE (lq n cY λk0 K n=>VO (FA (h1:=oQ c) ((kR c).toArray) n aI λk1 n=>ln (kY ?_)))))
    let j2:Value:=vI (a2:Int)
    let j1:Value:=vI (qz.length:Int)
    let g6:Value:=vP K
    have n:=n.drew
    have d:=n.has.kM (Kb (Kb (Kr Sn)))
    refine mh d lM (XH 0 Z d (λ_ o=>kP Z (kV o Mh (kR c) Z bE aI)) (bS H λj3 f3 H=>XE 1 Z (Eg n call113 (AT c _ _  f3) λk2 n=>?_)))
    have d:=n.has.kM (Kb (Kb (Kr Sn)))
    refine ⟨d,X 2 Z d (kT Z) (PJ H (λd8 E W=>∃c5,ST true lN qa W (hp qa) ((K,oC P 53)::((k,oC g5 53)::(t++c5)))∧E 0=q0∧E 3=u∧E 4=b8∧E 5=vB D∧E 7=g6∧E 8=q0∧E 9=j1∧E 10=j2∧E 30=vB d8) (bm 26 131071) 9 ?_ λd8 T c1=>?_)⟩
    ·rintro j5 E W ⟨c5,n,b2,b3,A,L,O,b4,b5,b6,g3⟩ e8
     have d:=n.has.kM (Kb (Kb (Kr Sn)))
     refine X 17 Z d (kT g3) (PJ e8 (λd6 E W=>∃c6,ST true lN qa W (hp qa) ((K,oC P 53)::((k,oC g5 53)::(t++c6)))∧E 0=q0∧E 3=u∧E 4=b8∧E 5=vB D∧E 7=g6∧E 8=q0∧E 9=j1∧E 10=j2∧E 39=vB d6) (bm 26 67108863) 0 ?_ λd6 Q b9=>?_)
     ·rintro l1 E W ⟨c6,n,d1,d2,b7,g4,g7,d3,d4,d5,g8⟩ N
      refine ml kr (kW (CI N g8 (λe6 N=>?_) λe6 N=>?_))
      ·refine sg (V (kP g7 (kV n.has Mh (kR c) Z bE aI)) ?_)
       have n:=n.perm (Nb (Pb Pz) Nz)
       refine VO (lz (vA (kR c)) ((kR c).toArray) n b7 Z aI (oQ c) nb Z (λk3 n=>ln ?_))
       have n:=n.kM (Kb (Db St))
       exact kX (Wa (lC (lD (kW ⟨d5,d4,true,c,_,n.kM,d1,d2,b7,Z,d3,N⟩))))
      refine lU (lD (kW ?_))
      have n:=n.kM (Db St)
      exact ⟨d5,d4,D,x,_,n.kM,d1,d2,b7,g4,d3,N⟩
     refine bC Q (λj Q=>?_) (λj Q=>?_)
     ·refine Xg 18 Z Z (cB j) d (kT L) (Xg 19 Z Z (cB j) d (nt Z) (Xg 20 Z Z (cB j) d (kT Z) (PJ Q (λd7 E W=>∃c7,ST true lN qa W (hp qa) ((K,oC P 53)::((k,oC g5 53)::(t++c7)))∧E 0=q0∧E 3=u∧E 4=b8∧E 5=vB D∧E 7=g6∧E 8=q0∧E 9=j1∧E 10=j2∧E 31=vB j5∧E 38=vB d7) (bm 26 33554431) 1 ?_ λd7 I c0=>?_)))
      ·rintro l2 E W ⟨c7,n,g9,h0,h1,h2,h3,h4,h5,h6,h7,h8⟩ e9
       have d:=n.has.kM (Kb (Kb (Kr Sn)))
       refine X 25 Z d (lh (h7.trans (cB j)) h8) ?_
       cases sj e9
       refine nr kr (b9 _ _ ⟨_,n.kM,g9,h0,h1,h2,h3,h4,h5,h6,Z⟩)
      refine bC I (λy I=>?_) (λy I=>?_)
      ·refine Xn 21 Z Z (cB y) d (Xn 22 Z Z (cB y) d (Xn 23 Z Z (cB y) d (Xg 24 Z Z (cB j) d (lh (cB y) Z) ?_)))
       cases sj I
       refine nr kr (c0 _ _ ⟨_,n.kM,b2,b3,A,L,O,b4,b5,b6,Z,Z⟩)
      refine uq 21 Z Z (cB y) d (λ_ o=>kP O (kV o Mh (kR c) Z bE aI)) (uq 22 Z Z (cB y) d (λ_ o=>kP A (kV o (Mt Mh) (kR x) Z bE aI)) (bS I λk8 f4 I=>Al 23 Z Z (cB y) (Eg n call115 (D2 c x _ _  f4) λk4 n=>?_)))
      have d:=n.has.kM (Kb (Kb (Kr Sn)))
      refine ⟨d,Xg 24 Z Z (cB j) d (lg (cB y) Z) ?_⟩
      cases sj I
      refine nr kr (c0 _ _ ⟨_,n.kM,b2,b3,A,L,O,b4,b5,b6,Z,Z⟩)
     refine Xn 18 Z Z (cB j) d (Xn 19 Z Z (cB j) d (Xn 20 Z Z (cB j) d (Xu 21 Z Z Z d (Xu 22 Z Z Z d (Xu 23 Z Z Z d (Xn 24 Z Z (cB j) d (X 25 Z d (lg (cB j) Z) ?_)))))))
     cases sj Q
     refine nr kr (b9 _ _ ⟨_,n.kM,b2,b3,A,L,O,b4,b5,b6,Z⟩)
    refine bC T (λg T=>?_) (λg T=>?_)
    ·refine Xg 3 Z Z (cB g) d (kT M) (Xg 4 Z Z (cB g) d (pe bD Z J) (Xg 5 Z Z (cB g) d (lI Z Z Z) (Xg 6 Z Z (cB g) d (kT Z) (PJ T (λd9 E W=>∃c8,ST true lN qa W (hp qa) ((K,oC P 53)::((k,oC g5 53)::(t++c8)))∧E 0=q0∧E 3=u∧E 4=b8∧E 5=vB D∧E 7=g6∧E 8=q0∧E 9=j1∧E 10=j2∧E 16=vB j3∧E 29=vB d9) (bm 26 65535) 10 ?_ λd9 z c2=>?_))))
     ·rintro l3 E W ⟨c8,n,h9,i0,i1,i2,i3,i4,i5,i6,i7,i8⟩ f0
      have d:=n.has.kM (Kb (Kb (Kr Sn)))
      refine X 16 Z d (lh (i7.trans (cB g)) i8) ?_
      cases sj f0
      refine nr kr (c1 _ _ ⟨_,n.kM,h9,i0,i1,i2,i3,i4,i5,i6,Z⟩)
     refine bC z (λa z=>?_) (λa z=>?_)
     ·refine Xn 7 Z Z (cB a) d (Xn 8 Z Z (cB a) d (Xn 9 Z Z (cB a) d (Xn 10 Z Z (cB a) d (Xn 11 Z Z (cB a) d (Xn 12 Z Z (cB a) d (Xn 13 Z Z (cB a) d (Xn 14 Z Z (cB a) d (Xg 15 Z Z (cB g) d (lh (cB a) Z) ?_))))))))
      cases sj z
      refine nr kr (c2 _ _ ⟨_,n.kM,U,M,Y,q,Z,s,eN,w,Z,Z⟩)
     refine Xg 7 Z Z (cB a) d (kT M) (Xg 8 Z Z (cB a) d (kT M) (Xg 9 Z Z (cB a) d (pe bD Z J) (Xg 10 Z Z (cB a) d (lI Z Z Z) (bS z λe0 b0 z=>vq 11 Z kr (.inr ⟨6,false,20,Z,Z,fs,cB a⟩) Z dc (λ_ _ h=>h) d (oF (i:=wi0 .i64 ((a3.length:Int)-1)) (x0:=e0) bD aI Z Z J (lR b0) (lK b0)) λk7 f2=>uq 12 Z Z (cB a) d (λ_ o=>kP Z (uh o (λp hq=>Mt (Mt (Ml hq))) J ox f2 (lK b0) bE aI)) (uq 13 Z Z (cB a) d (λ_ o=>kP Z (kV o Mh (kR c) Z bE aI)) (bS z λk9 f5 z=>Al 14 Z Z (cB a) (Eg n call115 (D2 e0 c _ _  f5) λk5 n=>?_)))))))
     have d:=n.has.kM (Kb (Kb (Kr Sn)))
     refine ⟨d,Xg 15 Z Z (cB g) d (lg (cB a) Z) ?_⟩
     cases sj z
     refine nr kr (c2 _ _ ⟨_,n.kM,U,M,Y,q,Z,s,eN,w,Z,Z⟩)
    refine Xn 3 Z Z (cB g) d (Xn 4 Z Z (cB g) d (Xn 5 Z Z (cB g) d (Xn 6 Z Z (cB g) d (Xu 7 Z Z Z d (Xu 8 Z Z Z d (Xu 9 Z Z Z d (Xu 10 Z Z Z d (Xu 11 Z Z Z d (Xu 12 Z Z Z d (Xu 13 Z Z Z d (Xu 14 Z Z Z d (Xn 15 Z Z (cB g) d (X 16 Z d (lg (cB g) Z) ?_)))))))))))))
    cases sj T
    refine nr kr (c1 _ _ ⟨_,n.kM,U,M,Y,q,Z,s,eN,w,Z⟩)
   rintro E W ⟨⟨w,eN⟩,D,x,b1,n,U,M,Y,q,s,H⟩
   refine kW ?_
   cases sj H
   exact ⟨_,n.kM,U,M,Y,q⟩
  rintro ⟨l0,a4⟩ E W ⟨c4,n,g0,d0,g1,g2⟩ G
  refine kY (sg (Wh g2 (V (nt Z) (ln (CI G Z (λe4 G=>?_) λe4 G=>?_)))))
  ·refine sg (Wh d0 (Wa (ln ?_)))
   have n:=n.kM (Db St)
   refine lB (ly (mG (ly (mG (ly ?_)))))
   cases sj G
   exact ma (v:=u) Z Z ⟨_,t,Z,n.oa (λp hq=>Ml hq) J.nd,J⟩
  refine kn (kX (Wh d0 (V (kP g1 (kV n.has Mh (kR a4) Z bE aI)) (VE (lE (cs:=(kR a4).toArray) n (mB Z) (ng bD aI cY) λj8 f8 n=>?_)))))
  have n:=n.perm (Nr (Qb (Qb Qz)) Nz)
  refine bS G λi9 e5 G=>VE (oG (enc:=kR) (v:=u) (vs:= .slice (some ⟨f8,0,none⟩) 1 1) (R:=t) n ox dc oQ bD rH.1 rH.2.1 Z rH.2.2.1 rH.2.2.2 Z Z J (Sl.lit (enc:=kR) (l:=[a4]) ox Z nb Z (n.at_ (Ma Mh))) e5 λj9 j4 f7 n e3=>Wa (lC (lD (kW ?_))))
  have n:=n.kM (Kr (Db (Db St)))
  exact ⟨j0,bB _,j4,i9,f7,_,n.kM,g0,Z,e3,G⟩
theorem Qh (c:Sl (Pl kR) 2 (hp qa) q0 qz) (y:Sl (Pl kR) 2 (hp qa) q1 qA) (hm:yM qz qA=some qt) :
  lF true pg0 136 [q0,q1] qa (vB qt):=by
 refine cG 26 func136 Z (λh=>sg (Wa (lS (Wm (V (lT bD Z c) (Wm (V (lT bD Z y) (Wi Z (lC ?_)))))))))
 refine kW (CI hm Z (λN hm=>?_) λN hm=>?_)
 ·refine sg (Wa (lt (ly ?_)))
  cases sj hm
  exact rP h
 refine kS (Wm (V (lT bD Z c) (Wm (ln (mJ 13 12 (λi q E W=>∃g,ST true lN qa W (hp qa) g∧E 0=q0∧E 1=q1∧uo qA q i=some qt) c.len ⟨_,h.kM,Z,Z,hm⟩ ?_ ?_)))))
 ·rintro H I Y E W K ⟨⟨n,p⟩,g,h,j,k,a⟩
  refine sg (Wh n (Wa (ln (kY ?_))))
  have h:=h.drew
  have d:=h.has.kM Sn
  refine mh d lM (X 0 Z d (kT j) (X 1 Z d (kT Z) (XQ 2 Z d (oz (enc:=kR) (i:=(H:Int)) (x0:=I) bD aI Z Z c (aG _) K) λQ D=>XH 3 Z d (λ_ o=>kP Z (lA o D bE aI)) (X 4 Z d (kT k) (X 5 Z d (kT Z) (bS a λz x a=>XQ 6 Z d (oz (enc:=kR) (i:=(H:Int)) (x0:=z) bD aI Z Z y (lR x) (lK x)) λT G=>XH 7 Z d (λ_ o=>kP Z (lA o G bE aI)) (X 8 Z d (Hz Z Z (nY dN) (Ds (rS _ I z))) (ml kr (kW (CI a Z (λB a=>?_) λB a=>?_))))))))))
  ·refine sg (Wa (lt (mG (ly (mG (ly ?_))))))
   cases sj a
   exact rP h
  exact lU (lD (kW ⟨n,p,_,h.kM,j,k,a⟩))
 rintro E W ⟨⟨n,p⟩,g,h,j,k,a⟩
 exact kW (sg (Wa (lt (rQ a h))))
theorem Pt (g:Sl (Pl (lu .u8)) 1 (hp qa) q0 qW.Tag) (hm:FD qW=some qt) :
  lF true pg0 138 [vA [vI qW.kK.Kind,vS qW.kK.Head.kO,vS qW.kK.Head.Word,vS qW.kK.lV,vS qW.kK.B.kO,vS qW.kK.B.Word,vS qW.kK.C.kO,vS qW.kK.C.Word,vS qW.kK.lW,q0]] qa (vB qt):=by
 refine cG 12 func138 Z (λa=>sg ?_)
 obtain ⟨B,D,rfl⟩:=g.form
 refine VE (lY a Z (λH J a=>Wa (lr (Wf rZ (VA a Mh (kQ qW.kK) bK aK (bS hm λK z hm=>VE (Eg a call58 (AZ qW.kK _ _  z) λI a=>Wm (LJ hm (λu E W=>∃t,ST true lN qa W (hp qa) t∧E 2=vB false∧E 11=vB u) 5 ?_ λu i k=>?_))))))))
 ·rintro M E W ⟨t,a,G,y⟩ x
  exact Wg y (lt (rQ x a))
 refine bC i (λc i=>?_) (λc i=>?_)
 ·refine ug c (kU Ak Z) (ug c (kP Z (kZ a.has Mh Z dm)) (ug c (lT aT Z g) (ug c (lI Z Z Z) (V (lh (cB c) Z) ?_))))
  cases sj i
  exact k _ _ ⟨_,a.kM (Db St),Z,Z⟩
 refine un c (un c (un c (un c (V (lg (cB c) Z) ?_))))
 cases sj i
 exact k _ _ ⟨_,a.kM (Db St),Z,Z⟩
theorem CH (a:kL) (r:ByteArray) (w:World) (hm:xY a=some r) :
  lF true pg0 149 [vA (kR a)] w (vS r):=by
 refine cG 10 func149 Z (λd=>sg (VE (lY d Z (λy z d=>Wa (ln (kY ?_))))))
 have d:=d.drew
 have h:=d.has.kM (Kb Sn)
 refine mh h lM (X 0 Z h (kU sE Z) (XH 1 Z h (λ_ n=>kP Z (kZ n Mh Z bU)) (X 3 Z h (kU zu Z) (XH 4 Z h (λ_ n=>kP Z (kZ n Mh Z bU)) (bS hm λt c hm=>XE 2 Z (Eg d call89 (Aq a.kO _ _  c) λj d=>?_))))))
 have h:=d.has.kM (Kb Sn)
 refine ⟨h,bS hm λu g hm=>XE 5 Z (Eg d call89 (Aq a.Word _ _  g) λk d=>?_)⟩
 have h:=d.has.kM (Kb Sn)
 refine ⟨h,bS hm λx i hm=>X 6 Z h (xk Z Z i) (X 7 Z h (nz Z) (ml kr (kW ?_)))⟩
 exact lB (rQ hm d)
theorem FG (g:kK) (r:ByteArray) (w:World) (hm:yY g=some r) :
  lF true pg0 112 [vA (kQ g)] w (vS r):=by
 refine cG 41 func112 Z (λd=>sg (VE (lY d Z (λW2 o d=>Wa (ln (kY ?_))))))
 have d:=d.drew
 have h:=d.has.kM (Kb Sn)
 refine mh h lM (X 0 Z h (kU rG Z) (XH 1 Z h (λ_ n=>kP Z (kZ n Mh Z bH)) (X 3 Z h (kU ud Z) (XH 4 Z h (λ_ n=>kP Z (kV n Mh (kR g.Head) Z bE aI)) (bS hm λa9 H hm=>XE 2 Z (Eg d call88 (xa g.Kind _ _  H) λa3 d=>?_))))))
 have h:=d.has.kM (Kb Sn)
 refine ⟨h,bS hm λA I hm=>XE 5 Z (Eg d call149 (CH g.Head _ _  I) λa4 d=>?_)⟩
 have h:=d.has.kM (Kb Sn)
 refine ⟨h,bS hm λb6 Q hm=>X 6 Z h (xk Z Z Q) (X 7 Z h (nz Z) (ml kr (kW (kY (sg (Wf rG (VB d Mh Z Z bH (Wi Z (ln (CI hm Z (λy hm=>?_) λy hm=>?_))))))))))⟩
 ·refine sg (Wm (Wf zY (VB d Mh Z Z bU (bS hm λL J hm=>VE (Eg d call89 (Aq g.lV _ _  J) λa5 d=>bS hm λb7 T hm=>V (xk Z Z T) (Wa (ln ?_)))))))
  have d:=d.kM (Db St)
  refine lB (ly ?_)
  cases sj hm
  exact rP d
 refine kg (Wm (Wf ph (VA d Mh (kR g.B) bE aI (bS hm λO K hm=>VE (Eg d call149 (CH g.B _ _  K) λq d=>bS hm λb9 U hm=>V (xk Z Z U) (Wa (ln (kY ?_))))))))
 refine CJ hm (λx E W=>∃i,ST true lN w W (hp w) ((o,Ol (kQ g) 55)::i)∧E 1=vP o∧E 3=vS x) (λx c=>?_) ?_
 ·refine sg (Wf rG (VB d Mh Z Z bH (Wi Z (ln (CI c Z (λB c=>?_) λB c=>?_)))))
  ·refine kX (Wm (Wf yc (VB d Mh Z Z bU (bS c λR N c=>VE (Eg d call89 (Aq g.lW _ _  N) λv d=>bS c λc1 p c=>V (xk Z Z p) (Wa (ln ?_)))))))
   cases sj c
   exact ⟨_,d.kM,Z,Z⟩
  refine kn ?_
  cases sj c
  exact ⟨_,d.kM,Z,Z⟩
 rintro c2 E W ⟨i,d,k,t⟩ D
 refine kY (CJ D (λu E W=>∃j,ST true lN w W (hp w) j∧E 3=vS u) (λu a=>?_) ?_)
 ·refine sg (V (kU rG k) (VB d Mh Z Z bH (Wi Z (ln (CI a Z (λz a=>?_) λz a=>?_)))))
  ·refine kX (Wh t (V (kU vH k) (VA d Mh (kR g.C) bE aI (bS a λP M a=>VE (Eg d call149 (CH g.C _ _  M) λs d=>bS a λc0 Y a=>V (xk Z Z Y) (Wa (ln ?_)))))))
   cases sj a
   exact ⟨_,d.kM (Db St),Z⟩
  refine kn ?_
  cases sj a
  exact ⟨_,d.kM (Db St),t⟩
 rintro c3 E W ⟨j,d,a2⟩ G
 exact sg (Wh a2 (Wa (lt (rQ G d))))
theorem Jg (a:kK) (r:ByteArray) (w:World) (hm:yZ a=some r) :
  lF true pg0 116 [vA (kQ a)] w (vS r):=by
 refine cG 8 func116 Z (λd=>sg (VE (lY d Z (λj u d=>Wa (lS (VA d Mh (kQ a) bK aK (bS hm λx g hm=>VE (Eg d call58 (AZ a _ _  g) λk d=>V (nt Z) (lC ?_)))))))))
 refine kW (CI hm Z (λc hm=>?_) λc hm=>?_)
 ·refine sg (Wa (ln ?_))
  have d:=d.kM (Db St)
  refine lB (ly ?_)
  cases sj hm
  exact rP d
 refine kg (VA d Mh (kQ a) bK aK (bS hm λy i hm=>VE (Eg d call112 (FG a _ _  i) λt d=>Wa (ln ?_))))
 exact lB (rQ hm d)
theorem DW (a c:kK) (r:Int) (w:World) (hm:uu a c=some r) :
  lF true pg0 59 [vA (kQ a),vA (kQ c)] w (vI r):=by
 refine cG 17 func59 Z (λd=>sg (VE (lY d Z (λu z d=>VE (lY d Z (λx B d=>Wa (lr (VA d (Mt Mh) (kQ a) bK aK (bS hm λD j hm=>VE (Eg d call116 (Jg a _ _  j) λy d=>Wa (lC ?_)))))))))))
 refine kW ?_
 have d:=d.kM (Kb (Db St))
 refine sg (VA d Mh (kQ c) bK aK (bS hm λG k hm=>VE (Eg d call116 (Jg c _ _  k) λt d=>Wa (ln ?_))))
 have d:=d.kM (Db St)
 refine kY (sg (Wm (Wm (V (rF Z Z Z) (ln (CI hm Z (λg hm=>?_) λg hm=>?_))))))
 ·refine sg (Wa (lt (ly ?_)))
  cases sj hm
  exact rP d
 refine kS (Wm (Wm (V (rF Z Z Z) (ln (CI hm Z (λi hm=>?_) λi hm=>?_)))))
 ·refine sg (Wa (lt (ly ?_)))
  cases sj hm
  exact rP d
 exact kg (Wa (lt (rQ hm d)))
set_option maxHeartbeats 4000000 in
theorem PK (y:Sl (Pl kR) 2 (hp qa) q0 qH.nU) (t:Sl mg 10 (hp qa) q1 qH.mC) (hm:pZ qH=some qt) :
  lF true pg0 95 [vA [vI qH.Kind,vI qH.oN,vI qH.E,vS qH.Name,q0,q1]] qa (vB qt):=by
 let s:Value:=vI qH.Kind
 refine cG 122 func95 Z (λc=>sg ?_)
 obtain ⟨A1,c2,rfl⟩:=y.form
 obtain ⟨Y,Zq,rfl⟩:=t.form
 let c4:Value:= .slice Y qH.mC.length Zq
 let b8:=C4 qH.Kind qH.oN qH.E qH.Name A1 qH.nU.length c2 Y qH.mC.length Zq
 refine VE (lY c Z (λW6 J c=>Wa (lr (Wf zk (VB c Mh Z Z bH (Wa (lS (Wm ?_))))))))
 refine Wi Z (Wm (LJ hm (λh7 E W=>∃L9,ST true lN qa W (hp qa) ((J,Ol b8 69)::L9)∧E 1=vP J∧E 3=s∧E 13=vB h7) 3 ?_ λh7 b0 e4=>?_))
 ·let p:Value:=(vP J)
  let a0:=(b8.toArray:Array Value)
  rintro x8 E W ⟨L9,c,e8,f9,p0⟩ d1
  refine ln (CI d1 p0 (λo0 d1=>?_) λo0 d1=>?_)
  ·refine sg (Wa (ln ?_))
   have c:=c.kM (Db St)
   refine lB (ly ?_)
   cases sj d1
   exact rP c
  refine kS (Wh f9 (Wi Z (Wm (LJ d1 (λh5 E W=>∃m8,ST true lN qa W (hp qa) ((J,oC a0 69)::m8)∧E 1=p∧E 3=s∧E 25=vB h5) 9 ?_ λh5 R e2=>?_))))
  ·rintro p8 E W ⟨m8,c,e9,g0,p1⟩ o4
   refine Wh p1 (LJ o4 (λh3 E W=>∃m9,ST true lN qa W (hp qa) ((J,oC a0 69)::m9)∧E 1=p∧E 3=s∧E 39=vB h3) 13 ?_ λh3 O e0=>?_)
   ·rintro p9 E W ⟨m9,c,g1,g2,p2⟩ o5
    refine Wh p2 (LJ o5 (λh1 E W=>∃n0,ST true lN qa W (hp qa) ((J,oC a0 69)::n0)∧E 1=p∧E 3=s∧E 48=vB h1) 8 ?_ λh1 a4 d8=>?_)
    ·rintro s5 E W ⟨n0,c,q,n4,p3⟩ x
     refine ln (CI x p3 (λo1 x=>?_) λo1 x=>?_)
     ·refine sg (Wa (ln ?_))
      have c:=c.kM (Db St)
      refine lB (ly ?_)
      cases sj x
      exact rP c
     refine kS (Wh n4 (Wi Z (ln (CI x Z (λo2 x=>?_) λo2 x=>?_))))
     ·refine sg (V (kU D9 q) (VB c Mh Z Z bU (bS x λs4 o8 x=>VE (Eg c kJ (xX qH.Name _ _  o8) λs3 c=>Wm (LJ x (λn6 E W=>∃n1,ST true lN qa W (hp qa) ((J,oC a0 69)::n1)∧E 1=p∧E 58=vB n6) 4 ?_ λn6 d3 g4=>?_)))))
      ·rintro s6 E W ⟨n1,c,p4,p5⟩ o6
       refine Wh p5 (LJ o6 (λn5 E W=>∃n2,ST true lN qa W (hp qa) n2∧E 63=vB n5) 4 ?_ λn5 d2 g3=>?_)
       ·rintro s7 E W ⟨n2,c,p6⟩ o7
        refine Wg p6 (lt (ly ?_))
        cases sj o7
        exact rP c
       refine bC d2 (λT d2=>?_) (λT d2=>?_)
       ·refine ug T (kU BN p4) (ug T (kP Z (kZ c.has Mh Z bH)) (ug T (lI Z Z Z) (V (lh (cB T) Z) ?_)))
        cases sj d2
        exact g3 _ _ ⟨_,c.kM (Db St),Z⟩
       refine un T (un T (un T (V (lg (cB T) Z) ?_)))
       cases sj d2
       exact g3 _ _ ⟨_,c.kM (Db St),Z⟩
      refine bC d3 (λQ d3=>?_) (λQ d3=>?_)
      ·refine ug Q (kU BN q) (ug Q (kP Z (kZ c.has Mh Z bH)) (ug Q (lI Z Z Z) (V (lh (cB Q) Z) ?_)))
       cases sj d3
       exact g4 _ _ ⟨_,c.kM,q,Z⟩
      refine un Q (un Q (un Q (V (lg (cB Q) Z) ?_)))
      cases sj d3
      exact g4 _ _ ⟨_,c.kM,q,Z⟩
     refine kS (Wh n4 (Wi Z (ln (CI x Z (λo3 x=>?_) λo3 x=>?_))))
     ·refine sg (V (kU Bz q) (VB c Mh Z Z bH (Wi Z (Wm (LJ x (λj7 E W=>∃n3,ST true lN qa W (hp qa) n3∧E 73=vB j7) 4 ?_ λj7 c1 f2=>?_)))))
      ·rintro s8 E W ⟨n3,c,n7⟩ m2
       refine Wg n7 (lt (ly ?_))
       cases sj m2
       exact rP c
      refine bC c1 (λU c1=>?_) (λU c1=>?_)
      ·refine ug U (kU Bz q) (ug U (kP Z (kZ c.has Mh Z bH)) (ug U (lI Z Z Z) (V (lh (cB U) Z) ?_)))
       cases sj c1
       exact f2 _ _ ⟨_,c.kM (Db St),Z⟩
      refine un U (un U (un U (V (lg (cB U) Z) ?_)))
      cases sj c1
      exact f2 _ _ ⟨_,c.kM (Db St),Z⟩
     refine kn (kY (kY ?_))
     have c:=c.drew
     have d:=c.has.kM (Kb Sn)
     refine mh d lM (X 0 Z d (kU yz q) (XH 1 Z d (λ_ n=>kP Z (kZ n Mh Z ir)) (X 2 Z d (lT bD Z y) (X 3 Z d (lI Z Z Z) (X 4 Z d (kT Z) (PJ x (λh0 E W=>∃h8,ST true lN qa W (hp qa) ((J,oC a0 69)::h8)∧E 1=p∧E 83=vB h0) (bm 19 1023) 9 ?_ λh0 a3 d7=>?_))))))
     ·rintro s1 E W ⟨h8,c,e6,n8⟩ m3
      have d:=c.has.kM (Kb Sn)
      refine X 10 Z d (kT n8) (PJ m3 (λg9 E W=>∃w h9,lm (hp qa) w∧ST true lN qa W w ((J,oC a0 69)::h9)∧E 1=p∧E 92=vB g9) (bm 19 524287) 0 ?_ λg9 I d6=>?_)
      ·rintro s2 E W ⟨w,h9,d0,c,i0,n9⟩ c3
       have d:=c.has.ob d0 (Kb Sn)
       refine ml kr (kW (CI c3 n9 (λm1 c3=>?_) λm1 c3=>?_))
       ·refine sg (Wa (ln ?_))
        have c:=c.kM (Db St)
        refine lB (ly ?_)
        cases sj c3
        exact rP c
       refine kS (V (kU uE i0) (VB c Mh Z Z fH (V (lT bV Z t) (Wm (ln (mJ 96 95 (λi js E W=>∃e5,ST true lN qa W w ((J,oC a0 69)::e5)∧E 1=p∧E 94=c4∧sv qH js i=some qt) t.len ⟨_,c.kM,i0,Z,c3⟩ ?_ ?_))))))
       ·rintro c8 a ab E W j6 ⟨⟨A,eN⟩,e5,c,b9,c0,N⟩
        refine sg (Wh A (VQ (my (i:=(c8:Int)) (x0:=a) mg.out bV bO c0 A (t.mono nu.mono d0) (aG _) j6) λak ⟨_,⟨r3,rfl,f0⟩,i7⟩=>V (kP Z (lA c.has i7 ef bO)) (VE (lq c cU λae f8 c=>Wa ?_))))
        obtain ⟨b1,b2,rfl⟩:=f0.form
        let b4:=C2 a.kK.Kind a.kK.Head.kO a.kK.Head.Word a.kK.lV a.kK.B.kO a.kK.B.Word a.kK.C.kO a.kK.C.Word a.kK.lW b1 a.Tag.length b2
        refine VO (FA b4.toArray c bO λaf c=>ln (kY ?_))
        have c:=c.drew
        have d:=c.has.kM (Kb (Kb Sn))
        refine mh d lM (XH 0 Z d (λ_ n=>kP Z (kV n Mh b4 Z ef bO)) (bS N λm4 j0 N=>XE 1 Z (Eg c call138 (Pt (f0.mono (Pl.mono _) c.lb) j0) λag c=>?_)))
        have d:=c.has.kM (Kb (Kb Sn))
        refine ⟨d,X 2 Z d (nt Z) (X 3 Z d (kT Z) (PJ N (λg7 E W=>∃f3,ST true lN qa W w ((f8,Ol b4 57)::((J,oC a0 69)::f3))∧E 1=p∧E 94=c4∧E 95=vI (qH.mC.length:Int)∧E 96=vI (c8:Int)∧E 120=vB g7) (bm 20 1048575) 0 ?_ λg7 a2 d4=>?_))⟩
        ·rintro r5 E W ⟨f3,c,j8,j9,k0,k1,k2⟩ L
         refine ml kr (kW ?_)
         have c:=c.kM (Db St)
         refine CI L k2 (λi2 L=>?_) (λi2 L=>?_)
         ·refine sg (Wa (ln ?_))
          have c:=c.kM (Db St)
          refine lB (mG (ly (mG (ly ?_))))
          cases sj L
          exact rP c
         exact lU (lD (kW ⟨k1,k0,_,c.kM,j8,j9,L⟩))
        refine bC a2 (λu a2=>?_) (λu a2=>?_)
        ·refine Xn 4 Z Z (cB u) d (Xn 5 Z Z (cB u) d (Xn 6 Z Z (cB u) d (Xu 7 Z Z Z d (Xu 8 Z Z Z d (Xu 9 Z Z Z d (Xu 10 Z Z Z d (Xu 11 Z Z Z d (Xu 12 Z Z Z d (Xu 13 Z Z Z d (Xu 14 Z Z Z d (Xu 15 Z Z Z d (Xu 16 Z Z Z d (Xu 17 Z Z Z d (Xn 18 Z Z (cB u) d ?_))))))))))))))
         refine X 19 Z d (lh (cB u) Z) ?_
         cases sj a2
         refine nr kr (d4 _ _ ⟨_,c.kM,b9,c0,eN,A,Z⟩)
        refine Xg 4 Z Z (cB u) d (kT Z) (Xg 5 Z Z (cB u) d (lI Z Z Z) (Xg 6 Z Z (cB u) d (kT Z) (PJ a2 (λg8 E W=>∃f4,ST true lN qa W w ((f8,Ol b4 57)::((J,oC a0 69)::f4))∧E 1=p∧E 94=c4∧E 95=vI (qH.mC.length:Int)∧E 96=vI (c8:Int)∧E 104=vB (!m4)∧E 119=vB g8) (bm 20 524287) 1 ?_ λg8 H d5=>?_)))
        ·rintro r6 E W ⟨f4,c,k3,k4,k5,k6,k7,k8⟩ i3
         have d:=c.has.kM (Kb (Kb Sn))
         refine X 19 Z d (lg (k7.trans (cB u)) k8) ?_
         cases sj i3
         refine nr kr (d4 _ _ ⟨_,c.kM,k3,k4,k5,k6,Z⟩)
        refine bC H (λg H=>?_) (λg H=>?_)
        ·refine Xg 7 Z Z (cB g) d (kU uE b9) (uq 8 Z Z (cB g) d (λ_ n=>kP Z (kZ n (Mt Mh) Z fH)) (Xg 9 Z Z (cB g) d (kT Z) (Xg 10 Z Z (cB g) d (lI Z Z Z) (bS H λe7 f1 H=>vq 11 Z kr (.inr ⟨6,true,107,Z,Z,fs,cB g⟩) Z dc (λ_ _ h=>h) d (my (i:=wi0 .i64 ((c8:Int)-1)) (x0:=e7) mg.out bV bO Z Z (t.mono nu.mono d0) (lR f1) (lK f1)) λal ⟨_,⟨r4,rfl,p7⟩,i8⟩=>vq 12 Z kr (.inr ⟨6,true,107,Z,Z,fs,cB g⟩) Z dc (λ_ _ h=>h) d (tO (kQ e7.kK) rZ Z i8 Z) λr0 i9=>uq 13 Z Z (cB g) d (λ_ n=>kP Z (lA n i9 bK aK)) (Xg 14 Z Z (cB g) d (kU rZ Z) (uq 15 Z Z (cB g) d (λ_ n=>kP Z (kV n Mh (kQ a.kK) Z bK aK)) (bS H λr1 j3 H=>Al 16 Z Z (cB g) (Eg c call59 (DW e7.kK a.kK _ _  j3) λah c=>?_))))))))
         have d:=c.has.kM (Kb (Kb Sn))
         refine ⟨d,Xg 17 Z Z (cB g) d (lI Z Z Z) (Xg 18 Z Z (cB u) d (lh (cB g) Z) ?_)⟩
         cases sj H
         refine nr kr (d5 _ _ ⟨_,c.kM,b9,c0,eN,A,Z,Z⟩)
        refine Xn 7 Z Z (cB g) d (Xn 8 Z Z (cB g) d (Xn 9 Z Z (cB g) d (Xn 10 Z Z (cB g) d (Xn 11 Z Z (cB g) d (Xn 12 Z Z (cB g) d (Xn 13 Z Z (cB g) d (Xn 14 Z Z (cB g) d (Xn 15 Z Z (cB g) d (Xn 16 Z Z (cB g) d (Xn 17 Z Z (cB g) d (Xg 18 Z Z (cB u) d (lg (cB g) Z) ?_)))))))))))
        cases sj H
        refine nr kr (d5 _ _ ⟨_,c.kM,b9,c0,eN,A,Z,Z⟩)
       rintro E W ⟨⟨A,eN⟩,e5,c,b9,c0,N⟩
       refine kW ?_
       have c:=c.kM (Db St)
       exact sg (Wa (lt (rQ N c)))
      refine bC I (λk I=>?_) (λk I=>?_)
      ·refine Xn 11 Z Z (cB k) d (Xn 12 Z Z (cB k) d (Xn 13 Z Z (cB k) d (Xn 14 Z Z (cB k) d (Xn 15 Z Z (cB k) d (Xn 16 Z Z (cB k) d (Xn 17 Z Z (cB k) d (X 18 Z d (lh (cB k) Z) ?_)))))))
       cases sj I
       refine nr kr (d6 _ _ ⟨hp qa,_,lm.refl _,c.kM,e6,Z⟩)
      refine Xg 11 Z Z (cB k) d (kU yz e6) (uq 12 Z Z (cB k) d (λ_ n=>kP Z (kZ n Mh Z ir)) (Xg 14 Z Z (cB k) d (kU yz e6) (uq 15 Z Z (cB k) d (λ_ n=>kP Z (kZ n Mh Z ir)) (bS I λm5 j4 I=>Al 13 Z Z (cB k) (rM c call137 (Sz (y.mono (Pl.mono _) c.lb) j4) λai m6 m7 ad c b3 aa i1=>?_)))))
      have d:=c.has.ob b3 (Dr (Kb Sn))
      refine ⟨d,bS I λr2 j5 I=>Al 16 Z Z (cB k) (Eg c call136 (Qh (i1.sl ox λb o hq=>c.at_ (Ml hq)) (y.mono (Pl.mono _) (b3.trans c.lb)) j5) λaj c=>?_)⟩
      have d:=c.has.ob b3 (Dr (Kb Sn))
      refine ⟨d,Xg 17 Z Z (cB k) d (nt Z) (X 18 Z d (lg (cB k) Z) ?_)⟩
      cases sj I
      refine nr kr (d6 _ _ ⟨m7,_,b3,c.kM (Dr St),e6,Z⟩)
     refine bC a3 (λB a3=>?_) (λB a3=>?_)
     ·refine Xn 5 Z Z (cB B) d (Xn 6 Z Z (cB B) d (Xn 7 Z Z (cB B) d (Xn 8 Z Z (cB B) d (X 9 Z d (lh (cB B) Z) ?_))))
      cases sj a3
      refine nr kr (d7 _ _ ⟨_,c.kM,q,Z⟩)
     refine Xg 5 Z Z (cB B) d (kU uE q) (uq 6 Z Z (cB B) d (λ_ n=>kP Z (kZ n Mh Z fH)) (Xg 7 Z Z (cB B) d (lT bV Z t) (Xg 8 Z Z (cB B) d (lI Z Z Z) (X 9 Z d (lg (cB B) Z) ?_))))
     cases sj a3
     refine nr kr (d7 _ _ ⟨_,c.kM,q,Z⟩)
    refine bC a4 (λM a4=>?_) (λM a4=>?_)
    ·refine un M (un M (un M (Vu Z Z (Vu Z Z (Vu Z Z (un M (V (lh (cB M) Z) ?_)))))))
     cases sj a4
     exact d8 _ _ ⟨_,c.kM,g1,g2,Z⟩
    refine ug M (kT g2) (ug M (lI Z Z Z) (ug M (kT Z) (LJ a4 (λh2 E W=>∃f5,ST true lN qa W (hp qa) ((J,oC a0 69)::f5)∧E 1=p∧E 3=s∧E 40=vB p9∧E 47=vB h2) 4 ?_ λh2 a5 d9=>?_)))
    ·rintro r7 E W ⟨f5,c,k9,l0,l1,l2⟩ i4
     refine V (lg (l1.trans (cB M)) l2) ?_
     cases sj i4
     exact d8 _ _ ⟨_,c.kM,k9,l0,Z⟩
    refine bC a5 (λD a5=>?_) (λD a5=>?_)
    ·refine ug D (kU Bz g1) (ug D (kP Z (kZ c.has Mh Z bH)) (ug D (lI Z Z Z) (ug M (lh (cB D) Z) ?_)))
     cases sj a5
     exact d9 _ _ ⟨_,c.kM,g1,g2,Z,Z⟩
    refine un D (un D (un D (ug M (lg (cB D) Z) ?_)))
    cases sj a5
    exact d9 _ _ ⟨_,c.kM,g1,g2,Z,Z⟩
   refine bC O (λK O=>?_) (λK O=>?_)
   ·refine un K (un K (un K (Vu Z Z (Vu Z Z (Vu Z Z (Vu Z Z (Vu Z Z (Vu Z Z (Vu Z Z (Vu Z Z (un K (V (lh (cB K) Z) ?_))))))))))))
    cases sj O
    exact e0 _ _ ⟨_,c.kM,e9,g0,Z⟩
   refine ug K (kT g0) (ug K (lI Z Z Z) (ug K (kT Z) (LJ O (λh4 E W=>∃f6,ST true lN qa W (hp qa) ((J,oC a0 69)::f6)∧E 1=p∧E 3=s∧E 26=vB p8∧E 38=vB h4) 9 ?_ λh4 P e1=>?_)))
   ·rintro r8 E W ⟨f6,c,l3,l4,l5,l6⟩ i5
    refine V (lg (l5.trans (cB K)) l6) ?_
    cases sj i5
    exact e0 _ _ ⟨_,c.kM,l3,l4,Z⟩
   refine bC P (λj P=>?_) (λj P=>?_)
   ·refine ug j (kU yz e9) (ug j (kP Z (kZ c.has Mh Z ir)) (ug j (lT bD Z y) (ug j (kU uE e9) (ug j (kP Z (kZ c.has Mh Z fH)) (ug j (lT bV Z t) (ug j (lI Z Z Z) (ug j (lI Z Z Z) (ug K (lh (cB j) Z) ?_))))))))
    cases sj P
    exact e1 _ _ ⟨_,c.kM,e9,g0,Z,Z⟩
   refine un j (un j (un j (un j (un j (un j (un j (un j (ug K (lg (cB j) Z) ?_))))))))
   cases sj P
   exact e1 _ _ ⟨_,c.kM,e9,g0,Z,Z⟩
  refine bC R (λz R=>?_) (λz R=>?_)
  ·refine ug z (kU D9 e8) (ug z (kP Z (kZ c.has Mh Z bU)) (ug z (rF Z Z Z) (ug z (kT Z) (LJ R (λh6 E W=>∃f7,ST true lN qa W (hp qa) ((J,oC a0 69)::f7)∧E 1=p∧E 3=s∧E 16=vB (qH.Kind != 1)∧E 24=vB h6) 4 ?_ λh6 a9 e3=>?_))))
   ·rintro r9 E W ⟨f7,c,l7,l8,l9,m0⟩ i6
    refine V (lh (l9.trans (cB z)) m0) ?_
    cases sj i6
    exact e2 _ _ ⟨_,c.kM,l7,l8,Z⟩
   refine bC a9 (λG a9=>?_) (λG a9=>?_)
   ·refine un G (un G (un G (ug z (lh (cB G) Z) ?_)))
    cases sj a9
    exact e3 _ _ ⟨_,c.kM,e8,f9,Z,Z⟩
   refine ug G (kU BN e8) (ug G (kP Z (kZ c.has Mh Z bH)) (ug G (lI Z Z Z) (ug z (lg (cB G) Z) ?_)))
   cases sj a9
   exact e3 _ _ ⟨_,c.kM,e8,f9,Z,Z⟩
  refine un z (un z (un z (un z (Vu Z Z (Vu Z Z (Vu Z Z (un z (V (lg (cB z) Z) ?_))))))))
  cases sj R
  exact e2 _ _ ⟨_,c.kM,e8,f9,Z⟩
 refine bC b0 (λv b0=>?_) (λv b0=>?_)
 ·refine un v (un v (V (lh (cB v) Z) ?_))
  cases sj b0
  exact e4 _ _ ⟨_,c.kM,Z,Z,Z⟩
 refine ug v (kT Z) (ug v (lI Z Z Z) (V (lg (cB v) Z) ?_))
 cases sj b0
 exact e4 _ _ ⟨_,c.kM,Z,Z,Z⟩
set_option maxHeartbeats 4000000 in
theorem QR {r:(pd×Int)} (h0:nN qb [] qa) (hm:DJ qC=some r) :
  mq true pg0 49 [vS qC] qa qb [] (λv L1 μ1=>∃y1 y3,v=vT [vA [vI r.1.Kind,vI r.1.oN,vI r.1.E,vS r.1.Name,y1,y3],vI r.2]∧L1=[]∧Sl (Pl kR) 2 μ1 y1 r.1.nU∧Sl mg 10 μ1 y3 r.1.mC):=by
 refine ve h0 118 func49 Z (λd=>sg (VE (lq d cR λW2 T d=>Wa (lr (Wm (V (lX (v:=vA (lH (⟨qC,0⟩:lj))) (mB Z) (lG zeroValue112 fZ (Ys _ fZ) kr)) (VE (lY d Z (λW4 j d=>Wa (ln ?_))))))))))
 refine sg (Wm (bS hm λy w9 hm=>?_))
 refine VE (eM d (Cb Pz Cn) call45 (λs _=>pR s  w9) ?_)
 rintro _ bo bu bk d r3 bw q ⟨l1,rfl⟩
 cases l1
 have d:=d.perm (Tb Tn)
 refine V (lX (v:=vA (QV y.1)) (mB Z) (lG cR cM (ED _ cM) kr)) (VE (lq d cR λbl i d=>VO (FA ((QV y.1).toArray) d cI λbn d=>ln (kY (CJ hm (λf4 E W=>∃e1 w4,lm bu e1∧Lo (keys []) qa bu e1∧ST true (keys []) qa W e1 ((i,Ol (VV y.1 f4.1 f4.2.1) 69)::((j,Ol (lH f4.2.2) 112)::((T,Ol C3 69)::w4)))∧E 2=vP T∧E 4=vP j∧E 5=vP i) (λf4 s2=>?_) ?_)))))
 ·refine sg (Wm (Wn (Wf oW (VB d (Mt Mh) Z Z bH (Wi Z (Wm (LJ s2 (λo5 E W=>∃m3,ST true (keys []) qa W bu ((i,Ol (QV y.1) 69)::((j,Ol (lH y.2) 112)::((T,Ol C3 69)::m3)))∧E 2=vP T∧E 4=vP j∧E 5=vP i∧E 26=vB o5) 4 ?_ λo5 b5 h8=>?_)))))))
  ·rintro az E W ⟨m3,d,n7,e7,e8,v4⟩ K
   refine ln (CI K v4 (λr2 K=>?_) λr2 K=>?_)
   ·refine sg (Wh e7 (bS K λd3 t0 K=>?_))
    refine VE (eM d (Cb (Pb Pz) Cn) call92 (λs _=>AW s  t0) ?_)
    rintro _ ao be x9 d p3 bs q ⟨g3,rfl⟩
    cases g3
    have d:=d.perm (Tb Tn)
    refine V (kU D9 e8) ?_
    have d:=d.perm (Nb (Pb Pz) Nz)
    refine VO (lz (vS d3.1) (#[vI y.1,vI 0,vI 0,vS d3.1,vN,vN]) d Z Z er (EJ d3.1) nb Z (λab d=>ln (kX (Wh e7 (bS K λk3 t1 K=>?_)))))
    refine VE (eM d (Cb (Pb Pz) Cn) call45 (λs _=>pR s  t1) ?_)
    rintro _ ap w2 y0 d p4 bt q ⟨g4,rfl⟩
    cases g4
    have d:=d.perm (Tb Tn)
    refine V (kU BN e8) ?_
    have d:=d.perm (Nb (Pb Pz) Nz)
    refine VO (lz (vI k3.1) ((VV y.1 k3.1 d3.1).toArray) d Z Z dH (uk _ k3.1) nb Z (λad d=>ln ?_))
    cases sj K
    exact ⟨w2,_,p3.trans p4,bs.trans bt,d.kM,n7,e7,e8⟩
   refine kn ?_
   cases sj K
   exact ⟨bu,_,lm.refl _,Lo.refl,d.kM,n7,e7,e8⟩
  refine bC b5 (λI b5=>?_) (λI b5=>?_)
  ·refine ug I (kU zk Z) (ug I (kP Z (kZ d.has Mh Z bH)) (ug I (lI Z Z Z) (V (lh (cB I) Z) ?_)))
   cases sj b5
   exact h8 _ _ ⟨_,d.kM,Z,Z,Z,Z⟩
  refine un I (un I (un I (V (lg (cB I) Z) ?_)))
  cases sj b5
  exact h8 _ _ ⟨_,d.kM,Z,Z,Z,Z⟩
 rintro ⟨u,x,w6⟩ E W ⟨e1,w4,n8,bx,d,w5,p5,p6⟩ w8
 let P:Value:=vP T
 let b3:Value:=vP j
 let b8:Value:=vP i
 refine kY (CJ w8 (λd4 E W=>∃M a5 N a6 Zq l2,lm e1 Zq∧Lo (keys []) qa e1 Zq∧ST true (keys []) qa W Zq ((i,Ob #[vI y.1,vI u,vI 0,vS x,M,N] 69)::((j,Ol (lH d4.2.2) 112)::((T,Ol C3 69)::(a6++(a5++l2)))))∧E 2=P∧E 4=b3∧E 5=b8∧lQ 53 kR 2 M d4.1 a5∧mn 57 mg 10 Zq N d4.2.1 a6) (λd4 r9=>?_) ?_)
 ·refine sg (Wh p5 (Wn (Wf oW (VB d (Mt Mh) Z Z bH (Wi Z (Wm (LJ r9 (λo4 E W=>∃l7,ST true (keys []) qa W e1 ((i,Ol (VV y.1 u x) 69)::((j,Ol (lH w6) 112)::((T,Ol C3 69)::l7)))∧E 2=P∧E 4=b3∧E 5=b8∧E 42=vB o4) 4 ?_ λo4 b4 h7=>?_)))))))
  ·rintro au E W ⟨l7,d,m9,j0,n0,u2⟩ a4
   refine ln (CI a4 u2 (λcc a4=>?_) λcc a4=>?_)
   ·refine sg (Wh j0 (bS a4 λf1 s6 a4=>?_))
    refine VE (eM d (Cb (Pb Pz) Cn) call45 (λs _=>pR s  s6) ?_)
    rintro _ ai k5 x5 d p0 bh q ⟨f9,rfl⟩
    cases f9
    have d:=d.perm (Tb Tn)
    refine Wa (lS (Wa (ln (mA (nQ (λm E W=>∃d6 Q k0 U c1 d9 l8,lm k5 d9∧Lo (keys []) qa k5 d9∧ST true (keys []) qa W d9 ((i,Ob #[vI y.1,vI u,vI 0,vS x,Q,vN] 69)::((j,Ol (lH c1) 112)::((T,Ol C3 69)::(U++l8))))∧E 2=P∧E 4=b3∧E 5=b8∧E 6=vI f1.1∧E 7=vI d6∧lQ 53 kR 2 Q k0 U∧rp f1 m d6 k0 c1=some d4) lP ⟨0,vN,[],[],f1.2,k5,_,lm.refl _,Lo.refl,d.kM (Sb (Pb Pz) St),m9,j0,n0,Z,Z,lQ.nil _ _ _,a4⟩ ?_)))))
    rintro m E W ⟨d6,Q,k0,U,c1,d9,l8,h1,L,d,n1,j3,n2,j4,j5,k8,d0⟩
    cases m with
    | zero=>rw [rp] at d0; cases d0
    | succ v5=>
     refine kY (sg (Wh j5 (Wh j4 (Wi Z (Wm (LJ d0 (λo3 E W=>∃l9,ST true (keys []) qa W d9 ((i,Ob #[vI y.1,vI u,vI 0,vS x,Q,vN] 69)::((j,Ol (lH c1) 112)::((T,Ol C3 69)::(U++l9))))∧E 2=P∧E 4=b3∧E 5=b8∧E 6=vI f1.1∧E 7=vI d6∧E 54=vB o3) 6 ?_ λo3 b2 h6=>?_))))))
     ·rintro av E W ⟨l9,d,n3,e4,e5,u3,u4,u5⟩ k
      refine ln (CI k u5 (λcd k=>?_) λcd k=>?_)
      ·refine kn (kY (mA ?_))
       have d:=d.drew
       have n:=d.has.kM Sn
       have p:=d.has.kM (Kb Sn)
       refine vh 7 n p lM (nZ 0 Z n p (kU yz e5) (Fo 1 Z n p (λhS=>kP Z (kZ hS Mh Z ir)) (nZ 2 Z n p (kT e4) (bS k λd2 s7 k=>?_))))
       refine XE 3 Z (eM d (Cb (Pb Pz) Cn) call93 (λs _=>CT s  s7) ?_)
       rintro _ aj w0 x6 d z bi q ⟨g0,rfl⟩
       cases g0
       have d:=d.perm (Tb Tn)
       have n:=d.has.ob z Sn
       have p:=d.has.ob z (Db (Kb Sn))
       refine ⟨⟨n,λ_=>p⟩,XE 4 Z (lE (cs:=(kR d2.1).toArray) d (mB Z) (ng bD aI cY) λz2 t7 d=>?_)⟩
       have n:=d.has.ob z Sn
       have p:=d.has.ob z (Db (Db (Kb Sn)))
       refine ⟨⟨n,λ_=>p⟩,?_⟩
       have d:=d.perm (Nr (Qb (Qb (Qb (Qb Qz)))) Nz)
       refine bS k λe9 cf k=>XE 5 Z (oG (enc:=kR) (v:=Q) (vs:= .slice (some ⟨t7,0,none⟩) 1 1) (R:=U) d ox dc oQ bD rH.1 rH.2.1 Z rH.2.2.1 rH.2.2.2 Z Z k8 (Sl.lit (enc:=kR) (l:=[d2.1]) ox Z nb Z (d.at_ (Ma Mh))) cf λz3 ak t5 d k6=>?_)
       have n:=d.has.ob z Sn
       have p:=d.has.ob z (Dr (Db (Db (Kb Sn))))
       refine ⟨⟨n,λ_=>p⟩,nZ 6 Z n p (kU yz e5) ?_⟩
       obtain ⟨h9,i1,rfl⟩:=k6.form
       have d:=d.perm (Nb (Pr (Pb (Pb Pz))) Nz)
       refine XO 7 Z (lz (.slice h9 e9.length i1) (#[vI y.1,vI u,vI 0,vS x,.slice h9 e9.length i1,vN]) d Z Z sizeOf67 oc nb Z (λz4 d=>?_))
       have n:=d.has.ob z Sn
       refine ⟨⟨n,λh=>yF kr h⟩,ml kr (lD (kW ?_))⟩
       have d:=d.kM (Kb (Kr (Db St)))
       exact kX (Wh u4 (Wi Z (Wa (ln ⟨v5,bB _,wi0 .i64 (d6+1),.slice h9 e9.length i1,e9,t5,d2.2,w0,_,h1.trans z,L.trans bi,d.kM (Kb (Sb (Pr Pz) (Sb (Pr Pz) St))),n3,e4,e5,u3,Z,k6,k⟩))))
      refine nB (nv (nv (ry (kW (sg (Wh e4 (bS k λf2 s8 k=>?_)))))))
      refine VE (eM d (Cb (Pb Pz) Cn) call45 (λs _=>pR s  s8) ?_)
      rintro _ al e0 x7 d p1 bj q ⟨g1,rfl⟩
      cases g1
      have d:=d.perm (Tb Tn)
      refine Wa (lr (Wa (ln (CJ k (λf3 E W=>∃f5 e2 c3 m0,lm e0 c3∧Lo (keys []) qa e0 c3∧ST true (keys []) qa W c3 ((i,Ob #[vI y.1,vI u,vI 0,vS x,Q,f5] 69)::((j,Ol (lH f3.2) 112)::((T,Ol C3 69)::(e2++(U++m0)))))∧E 2=P∧E 4=b3∧E 5=b8∧mn 57 mg 10 c3 f5 f3.1 e2) (λf3 s1=>?_) ?_))))
      ·refine mA (nQ (λm E W=>∃d7 d5 k1 b6 d8 a7 m1,lm e0 a7∧Lo (keys []) qa e0 a7∧ST true (keys []) qa W a7 ((i,Ob #[vI y.1,vI u,vI 0,vS x,Q,d5] 69)::((j,Ol (lH d8) 112)::((T,Ol C3 69)::(b6++(U++m1)))))∧E 2=P∧E 4=b3∧E 5=b8∧E 8=vI f2.1∧E 9=vI d7∧mn 57 mg 10 a7 d5 k1 b6∧rc f2 m d7 k1 d8=some f3) lP ⟨0,vN,[],[],f2.2,e0,_,lm.refl _,Lo.refl,d.kM (Sb (Pb Pz) St),n3,e4,e5,Z,Z,mn.nil _ _ _ _,s1⟩ ?_)
       rintro m E W ⟨d7,d5,k1,b6,d8,a7,m1,h2,O,d,n4,j6,n5,j7,j8,k9,d1⟩
       cases m with
       | zero=>rw [rc] at d1; cases d1
       | succ v6=>
        refine kY (sg (Wh j8 (Wh j7 (Wi Z (Wm (LJ d1 (λo2 E W=>∃m2,ST true (keys []) qa W a7 ((i,Ob #[vI y.1,vI u,vI 0,vS x,Q,d5] 69)::((j,Ol (lH d8) 112)::((T,Ol C3 69)::(b6++(U++m2)))))∧E 2=P∧E 4=b3∧E 5=b8∧E 8=vI f2.1∧E 9=vI d7∧E 75=vB o2) 6 ?_ λo2 b0 h5=>?_))))))
        ·rintro ay E W ⟨m2,d,n6,j9,e6,u9,v2,v3⟩ J
         refine ln (CI J v3 (λr0 J=>?_) λr0 J=>?_)
         ·refine kn (kY (mA ?_))
          have d:=d.drew
          have n:=d.has.kM Sn
          have p:=d.has.kM (Kb Sn)
          refine vh 7 n p lM (nZ 0 Z n p (kU uE e6) (Fo 1 Z n p (λhS=>kP Z (kZ hS Mh Z fH)) (nZ 2 Z n p (kT j9) (bS J λa s9 J=>?_))))
          refine XE 3 Z (eD d (Cb (Pb Pz) Cn) call94 (λs=>Py s  s9) ?_)
          rintro _ am w1 x8 d t bq ⟨ba,g2,rfl,l0⟩
          cases g2
          have d:=d.perm (Tb Tn)
          have n:=d.has.ob t Sn
          have p:=d.has.ob t (Db (Kb Sn))
          refine ⟨⟨n,λ_=>p⟩,?_⟩
          obtain ⟨c6,c9,rfl⟩:=l0.form
          let j1:Value:= .slice c6 a.1.Tag.length c9
          refine XE 4 Z (lE (cs:=#[vI a.1.kK.Kind,vS a.1.kK.Head.kO,vS a.1.kK.Head.Word,vS a.1.kK.lV,vS a.1.kK.B.kO,vS a.1.kK.B.Word,vS a.1.kK.C.kO,vS a.1.kK.C.Word,vS a.1.kK.lW,j1]) d (mB Z) (ng bV bO cU) λz7 ae d=>?_)
          have n:=d.has.ob t Sn
          have p:=d.has.ob t (Db (Db (Kb Sn)))
          refine ⟨⟨n,λ_=>p⟩,?_⟩
          have d:=d.perm (Nr (Qb (Qb (Qb (Qb Qz)))) Nz)
          refine bS J λf0 r1 J=>XE 5 Z (sk (B:=b6) nu d dc bV A4.1 A4.2.1 Z A4.2.2.1 A4.2.2.2 Z Z (k9.mono nu t) (Br.lit nu (l:=[a.1]) (.cons (ys:=[vI a.1.kK.Kind,vS a.1.kK.Head.kO,vS a.1.kK.Head.Word,vS a.1.kK.lV,vS a.1.kK.B.kO,vS a.1.kK.B.Word,vS a.1.kK.C.kO,vS a.1.kK.C.Word,vS a.1.kK.lW,j1]) (mg.mk ⟨j1,Z,l0⟩) .nil) Z nb (d.at_ (Ma Mh))) r1 λz8 an t6 d k7=>?_)
          have n:=d.has.ob t Sn
          have p:=d.has.ob t (Dr (Db (Db (Kb Sn))))
          refine ⟨⟨n,λ_=>p⟩,nZ 6 Z n p (kU uE e6) ?_⟩
          obtain ⟨i0,i2,rfl⟩:=k7.form
          have d:=d.perm (Nb (Pr (Pb (Pb Pz))) Nz)
          refine XO 7 Z (lz (.slice i0 f0.length i2) (#[vI y.1,vI u,vI 0,vS x,Q,.slice i0 f0.length i2]) d Z Z sizeOf66 oc nb Z (λz9 d=>?_))
          have n:=d.has.ob t Sn
          refine ⟨⟨n,λh=>yF kr h⟩,ml kr (lD (kW ?_))⟩
          have d:=d.kM (Kb (Kr (Db St)))
          exact kX (Wh v2 (Wi Z (Wa (ln ⟨v6,bB _,wi0 .i64 (d7+1),.slice i0 f0.length i2,f0,t6,a.2,w1,_,h2.trans t,O.trans bq,d.kM (Kb (Sb (Pr Pz) (Sb (Pr Pz) St))),n6,j9,e6,u9,Z,k7,J⟩))))
         refine nB (nv (nv (ry (kW ?_))))
         cases sj J
         exact ⟨d5,b6,a7,_,h2,O,d.kM,n6,j9,e6,k9⟩
        refine bC b0 (λg b0=>?_) (λg b0=>?_)
        ·refine ug g (kT j6) (ug g (mK Z) (ug g (kU oW Z) (ug g (kP Z (kZ d.has (Mt Mh) Z bH)) (ug g (lI Z Z Z) (V (lh (cB g) Z) ?_)))))
         cases sj b0
         exact h5 _ _ ⟨_,d.kM,n4,j6,n5,j7,j8,Z⟩
        refine un g (un g (un g (un g (un g (V (lg (cB g) Z) ?_)))))
        cases sj b0
        exact h5 _ _ ⟨_,d.kM,n4,j6,n5,j7,j8,Z⟩
      rintro ⟨af,aw⟩ E W ⟨f5,e2,c3,m0,p2,bp,d,u6,u7,u8,t4⟩ s0
      cases sj s0
      exact ⟨Q,U,f5,e2,c3,_,((p0.trans h1).trans p1).trans p2,((bh.trans L).trans bj).trans bp,d.kM,u6,u7,u8,k8,t4⟩
     refine bC b2 (λc b2=>?_) (λc b2=>?_)
     ·refine ug c (kT j3) (ug c (mK Z) (ug c (kU oW Z) (ug c (kP Z (kZ d.has (Mt Mh) Z bH)) (ug c (lI Z Z Z) (V (lh (cB c) Z) ?_)))))
      cases sj b2
      exact h6 _ _ ⟨_,d.kM,n1,j3,n2,j4,j5,Z⟩
     refine un c (un c (un c (un c (un c (V (lg (cB c) Z) ?_)))))
     cases sj b2
     exact h6 _ _ ⟨_,d.kM,n1,j3,n2,j4,j5,Z⟩
   refine kn ?_
   cases sj a4
   exact ⟨vN,[],vN,[],e1,_,lm.refl _,Lo.refl,d.kM,m9,j0,n0,lQ.nil _ _ _,mn.nil _ _ _ _⟩
  refine bC b4 (λH b4=>?_) (λH b4=>?_)
  ·refine ug H (kU zk p6) (ug H (kP Z (kZ d.has Mh Z bH)) (ug H (lI Z Z Z) (V (lh (cB H) Z) ?_)))
   cases sj b4
   exact h7 _ _ ⟨_,d.kM,w5,p5,p6,Z⟩
  refine un H (un H (un H (V (lg (cB H) Z) ?_)))
  cases sj b4
  exact h7 _ _ ⟨_,d.kM,w5,p5,p6,Z⟩
 rintro ⟨b9,c0,o6⟩ E W ⟨M,a5,N,a6,Zq,l2,g7,w,d,m4,i3,i4,f6,f7⟩ r4
 refine kY (CJ r4 (λk4 E W=>∃c2 l3,lm Zq c2∧Lo (keys []) qa Zq c2∧ST true (keys []) qa W c2 ((i,Ob #[vI y.1,vI u,vI k4.1,vS x,M,N] 69)::((j,Ol (lH k4.2) 112)::((T,Ol C3 69)::(a6++(a5++l3)))))∧E 2=P∧E 4=b3∧E 5=b8) (λk4 r8=>?_) ?_)
 ·refine sg (Wh i3 (Wn (Wf oW (VB d (Mt Mh) Z Z bH (Wi Z (Wm (LJ r8 (λo1 E W=>∃l6,ST true (keys []) qa W Zq ((i,Ob #[vI y.1,vI u,vI 0,vS x,M,N] 69)::((j,Ol (lH o6) 112)::((T,Ol C3 69)::(a6++(a5++l6)))))∧E 2=P∧E 4=b3∧E 5=b8∧E 94=vB o1) 4 ?_ λo1 a9 h4=>?_)))))))
  ·rintro ar E W ⟨l6,d,m8,i8,i9,u1⟩ a3
   refine ln (CI a3 u1 (λcb a3=>?_) λcb a3=>?_)
   ·refine kX (Wh i8 (bS a3 λk2 s5 a3=>?_))
    refine VE (eM d (Cb (Pb Pz) Cn) call45 (λs _=>pR s  s5) ?_)
    rintro _ ah v9 x4 d o9 bf q ⟨f8,rfl⟩
    cases f8
    have d:=d.perm (Tb Tn)
    refine V (kU Bz i9) ?_
    have d:=d.perm (Nb (Pb Pz) Nz)
    refine VO (lz (vI k2.1) (#[vI y.1,vI u,vI k2.1,vS x,M,N]) d Z Z dH (uk _ k2.1) nb Z (λy9 d=>ln ?_))
    cases sj a3
    exact ⟨v9,_,o9,bf,d.kM,m8,i8,i9⟩
   refine kn ?_
   cases sj a3
   exact ⟨Zq,_,lm.refl _,Lo.refl,d.kM,m8,i8,i9⟩
  refine bC a9 (λG a9=>?_) (λG a9=>?_)
  ·refine ug G (kU zk i4) (ug G (kP Z (kZ d.has Mh Z bH)) (ug G (lI Z Z Z) (V (lh (cB G) Z) ?_)))
   cases sj a9
   exact h4 _ _ ⟨_,d.kM,m4,i3,i4,Z⟩
  refine un G (un G (un G (V (lg (cB G) Z) ?_)))
  cases sj a9
  exact h4 _ _ ⟨_,d.kM,m4,i3,i4,Z⟩
 rintro ⟨Y,o7⟩ E W ⟨c2,l3,b7,A,d,m5,i5,i6⟩ r6
 let g6:=(#[vI y.1,vI u,vI Y,vS x,M,N]:Array Value)
 refine kY (CJ r6 (λn9 E W=>∃l4,ST true (keys []) qa W c2 ((i,oC g6 69)::((j,Ol (lH n9) 112)::((T,Ol C3 69)::(a6++(a5++l4)))))∧E 2=P∧E 4=b3∧E 5=b8) (λn9 r7=>?_) ?_)
 ·refine sg (Wh i5 (Wn (Wf oW (VB d (Mt Mh) Z Z bH (Wi Z (Wm (LJ r7 (λo0 E W=>∃l5,ST true (keys []) qa W c2 ((i,oC g6 69)::((j,Ol (lH o7) 112)::((T,Ol C3 69)::(a6++(a5++l5)))))∧E 2=P∧E 4=b3∧E 5=b8∧E 107=vB o0) 4 ?_ λo0 a2 h3=>?_)))))))
  ·rintro aq E W ⟨l5,d,m6,i7,m7,u0⟩ a8
   refine ln (CI a8 u0 (λca a8=>?_) λca a8=>?_)
   ·refine kX (Wh i7 (Wn (Wf oW ?_)))
    have d:=d.perm (Nb (Pb Pz) Nz)
    refine VO (lz (vI 11) ((lH (⟨o7.S,11⟩:lj)).toArray) d Z Z dH (uk _ 11) nb Z (λy6 d=>ln ?_))
    cases sj a8
    exact ⟨_,d.kM (Sb (Pb Pz) St),m6,i7,m7⟩
   refine kn ?_
   cases sj a8
   exact ⟨_,d.kM,m6,i7,m7⟩
  refine bC a2 (λD a2=>?_) (λD a2=>?_)
  ·refine ug D (kP i6 (kV d.has Mh [vI y.1,vI u,vI Y,vS x,M,N] Z et cI)) (bS a2 λag s4 a2=>sh D (Eg d call95 (PK (f6.sl ox λb o hq=>d.at_ (Mt (Mt (Mt (Ma (Ml hq)))))) (f7.sl nu (b7.trans d.lb) λb o hq=>d.at_ (Mt (Mt (Mt (Ml hq))))) s4) λy7 d=>ug D (nt Z) (V (lh (cB D) Z) ?_)))
   cases sj a2
   exact h3 _ _ ⟨_,d.kM,m5,i5,i6,Z⟩
  refine un D (un D (un D (V (lg (cB D) Z) ?_)))
  cases sj a2
  exact h3 _ _ ⟨_,d.kM,m5,i5,i6,Z⟩
 rintro v8 E W ⟨l4,d,e3,t8,t9⟩ a1
 refine sg (Wh t8 (bS a1 λv7 s3 a1=>VE (Eg d call47 (GO (At.of (d.at_ (Mt Mh)) _ Z) s3) λy2 d=>Wa (ln ?_))))
 have d:=d.kM (Kb (Db St))
 refine kY (sg (Wm (Wi Z (ln (CI a1 Z (λbz a1=>?_) λbz a1=>?_)))))
 ·refine sg (V (lX (v:=vA C3) oP (lG cR cM (ED _ cM) kr)) (Wm ?_))
  have d:=d.perm (Nb (Pb Pz) Nz)
  refine VO (lz (vA C3) C3.toArray d e3 Z cI oc nb Z (λy4 d=>Wa (ln ?_)))
  have d:=d.kM (Kb (Db (Dr (Dr St))))
  refine lB (ly ?_)
  cases sj a1
  exact rY (v0:=vA C3) (v1:=vI v7) Z e3 (kV d.has Mh C3 Z et cI) Z ⟨_,_,_,Z,d.lZ Sn,((r3.trans n8).trans g7).trans b7,((bw.trans bx).trans w).trans A,ST.lp d (mu.mem Sn),vN,vN,Z,Z,Sl.nil _ _ _,Sl.nil _ _ _⟩
 refine kg (V (kP t9 (kV d.has Mh [vI y.1,vI u,vI Y,vS x,M,N] Z et cI)) ?_)
 obtain ⟨c4,c7,rfl⟩:=f6.form
 obtain ⟨c5,c8,rfl⟩:=f7.form
 let g5:=C4 y.1 u Y x c4 b9.length c7 c5 c0.length c8
 have d:=d.perm (Nb (Pb Pz) Nz)
 refine VO (lz (vA g5) g5.toArray d e3 Z cI oc nb Z (λy5 d=>Wa (ln ?_)))
 have d:=d.kM (Kb (Db St))
 refine lB ?_
 cases sj a1
 refine rY (v0:=vA g5) (v1:=vI 0) Z e3 (kV d.has Mh g5 Z et cI) Z ?_
 have d:=d.perm (Nr (Qb (Qr Qz)) Nz)
 obtain ⟨bc,d,g8,aa,t2⟩:=ST.JS d f6 ox
 have d:=d.perm (Nr (Qb Qz) Nz)
 obtain ⟨bd,d,g9,aE,t3⟩:=ST.xW nu d (f7.mono nu (b7.trans g8))
 exact ⟨_,_,_,Z,d.lZ Sn,((((r3.trans n8).trans g7).trans b7).trans g8).trans g9,((((bw.trans bx).trans w).trans A).trans aa).trans aE,ST.lp d (mu.mem Sn),.slice c4 b9.length c7,.slice c5 c0.length c8,Z,Z,t2.mono (Pl.mono _) g9,t3⟩
theorem BA {r:(Int×pd×Int)} (h0:nN qb [] qa) (hm:vE qC=some r) :
  mq true pg0 25 [vS qC] qa qb [] (λv L1 μ1=>∃y1 y3,v=vT [vI r.1,vA [vI r.2.1.Kind,vI r.2.1.oN,vI r.2.1.E,vS r.2.1.Name,y1,y3],vI r.2.2]∧L1=[]∧Sl (Pl kR) 2 μ1 y1 r.2.1.nU∧Sl mg 10 μ1 y3 r.2.1.mC):=by
 refine ve h0 68 func25 Z (λd=>sg (Wa (VE (lq d cR λW2 J d=>Wa (lS (Wm (V (pn bG Z) (Wi Z (lC ?_)))))))))
 refine kW (CI hm Z (λh4 hm=>?_) λh4 hm=>?_)
 ·refine sg (V (lX (v:=vA C3) oP (lG cR cM (ED _ cM) kr)) (Wa (VO (FA C3.toArray d cI λW4 d=>Wa (lt (ly ?_))))))
  have h:=sj hm; subst h
  exact BB (v0:=vI 0) (v1:=vA C3) (v2:=vI 12) Z Z Z (kV d.has Mh C3 Z et cI) Z ⟨_,_,_,Z,d.lZ Sn,lm.refl _,Lo.refl,ST.lp d (mu.mem Sn),vN,vN,Z,Z,Sl.nil _ _ _,Sl.nil _ _ _⟩
 let M:Value:=vP J
 refine kg (Wm (V (lX (v:=vA (lH (⟨qC,0⟩:lj))) (mB Z) (lG zeroValue112 fZ (Ys _ fZ) kr)) (VE (lY d Z (λW7 K d=>Wa (lr (Wm (bS hm λL h5 hm=>?_))))))))
 let g0:Value:=vP K
 refine VE (eM d (Cb Pz Cn) call45 (λA _=>pR A  h5) ?_)
 rintro _ l1 l4 k4 d N o w ⟨a7,rfl⟩
 cases a7
 have d:=d.perm (Tb Tn)
 refine Wa (lr (Wm (bS hm λI g2 hm=>?_)))
 refine VE (eM d (Cb Pz Cn) call46 (λA _=>yN A  g2) ?_)
 rintro _ l2 l5 k5 d Q q w ⟨a8,rfl⟩
 cases a8
 have d:=d.perm (Tb Tn)
 refine Wa (lr (Wm (bS hm λR g3 hm=>?_)))
 refine VE (eM d (Cb Pz Cn) call46 (λA _=>yN A  g3) ?_)
 rintro _ l3 a4 k6 d T s w ⟨a9,rfl⟩
 cases a9
 have d:=d.perm (Tb Tn)
 refine Wa (ln (kY (CJ hm (λd2 E W=>∃e5,ST true (keys []) qa W a4 ((K,Ol (lH d2) 112)::((J,Ol C3 69)::e5))∧E 0=vS qC∧E 3=M∧E 5=g0∧E 6=vI L.1∧E 7=vS I.1) (λd2 e1=>?_) ?_)))
 ·let g6:=((lH R.2).toArray:Array Value)
  refine sg (Wm (Wn (Wf oW (VB d Mh Z Z bH (Wi Z (Wm (LJ e1 (λd3 E W=>∃b7,ST true (keys []) qa W a4 ((K,oC g6 112)::((J,Ol C3 69)::b7))∧E 0=vS qC∧E 3=M∧E 5=g0∧E 6=vI L.1∧E 7=vS I.1∧E 38=vB d3) 8 ?_ λd3 D a1=>?_)))))))
  ·rintro j9 E W ⟨b7,d,c4,c5,a5,c6,c7,f1⟩ B
   refine ln (CI B f1 (λd9 B=>?_) λd9 B=>?_)
   ·refine kX (Wh a5 (Wn (Wf oW (VO (lz (vI 11) ((lH (⟨R.2.S,11⟩:lj)).toArray) d Z Z dH (uk _ 11) nb Z (λj3 d=>ln ?_))))))
    have h:=sj B; subst h
    exact ⟨_,d.kM,c4,c5,a5,c6,c7⟩
   refine kn ?_
   have h:=sj B; subst h
   exact ⟨_,d.kM,c4,c5,a5,c6,c7⟩
  refine bC D (λc D=>?_) (λc D=>?_)
  ·refine ug c (kT Z) (ug c (pn bG Z) (ug c (lI Z Z Z) (ug c (kT Z) (LJ D (λd4 E W=>∃b9,ST true (keys []) qa W a4 ((K,oC g6 112)::((J,Ol C3 69)::b9))∧E 0=vS qC∧E 3=M∧E 5=g0∧E 6=vI L.1∧E 7=vS I.1∧E 30=vB (R.2.E==0)∧E 37=vB d4) 3 ?_ λd4 G a2=>?_))))
   ·rintro k0 E W ⟨b9,d,f2,f3,f4,f5,f6,f7,f8⟩ e2
    refine V (lh (f7.trans (cB c)) f8) ?_
    have h:=sj e2; subst h
    exact a1 _ _ ⟨_,d.kM,f2,f3,f4,f5,f6,Z⟩
   refine bC G (λj G=>?_) (λj G=>?_)
   ·refine un j (un j (ug c (lh (cB j) Z) ?_))
    have h:=sj G; subst h
    exact a2 _ _ ⟨_,d.kM,Z,Z,Z,Z,Z,Z,Z⟩
   refine ug j (kT Z) (ug j (lI Z Z Z) (ug c (lg (cB j) Z) ?_))
   have h:=sj G; subst h
   exact a2 _ _ ⟨_,d.kM,Z,Z,Z,Z,Z,Z,Z⟩
  refine un c (un c (un c (un c (Vu Z Z (Vu Z Z (un c (V (lg (cB c) Z) ?_)))))))
  have h:=sj D; subst h
  exact a1 _ _ ⟨_,d.kM,Z,Z,Z,Z,Z,Z⟩
 rintro h7 E W ⟨e5,d,h2,e6,h3,c8,c9⟩ P
 refine sg (Wh h3 (bS P λh6 g4 P=>VE (Eg d call47 (GO (At.of (d.at_ Mh) _ Z) g4) λl0 d=>Wa (ln ?_))))
 have d:=d.kM (Db St)
 refine kY (CJ P (λd0 E W=>∃b4,ST true (keys []) qa W a4 ((J,Ol C3 69)::b4)∧E 3=M∧E 6=vI L.1∧E 7=vS I.1∧E 9=vI d0) (λd0 e0=>?_) ?_)
 ·refine sg (Wm (Wi Z (Wm (LJ e0 (λd1 E W=>∃b5,ST true (keys []) qa W a4 ((J,Ol C3 69)::b5)∧E 3=M∧E 6=vI L.1∧E 7=vS I.1∧E 9=vI h6∧E 52=vB d1) 6 ?_ λd1 k Zq=>?_))))
  ·rintro j8 E W ⟨b5,d,c1,c2,c3,e9,f0⟩ z
   refine ln (CI z f0 (λd8 z=>?_) λd8 z=>?_)
   ·refine kX (Wa (ln ?_))
    have h:=sj z; subst h
    exact ⟨_,d.kM,c1,c2,c3,Z⟩
   refine kn ?_
   have h:=sj z; subst h
   exact ⟨_,d.kM,c1,c2,c3,e9⟩
  refine bC k (λg k=>?_) (λg k=>?_)
  ·refine ug g (kT h2) (ug g (kT c8) (ug g (kT c9) (bS k λj6 e4 k=>sh g (Eg d call48 (QL L.1 I.1 _ _  e4) λj0 d=>ug g (rF Z Z Z) (V (lh (cB g) Z) ?_)))))
   have h:=sj k; subst h
   exact Zq _ _ ⟨_,d.kM,e6,c8,c9,Z,Z⟩
  refine un g (un g (un g (un g (un g (V (lg (cB g) Z) ?_)))))
  have h:=sj k; subst h
  exact Zq _ _ ⟨_,d.kM,e6,c8,c9,Z,Z⟩
 rintro h1 E W ⟨b4,d,H,e7,e8,c0⟩ i
 refine kY (sg (Wh c0 (Wi Z (ln (CI i Z (λd6 i=>?_) λd6 i=>?_)))))
 ·refine sg (V (lX (v:=vA C3) oP (lG cR cM (ED _ cM) kr)) (Wh c0 (Wa (VO (lz (vA C3) C3.toArray d H Z cI oc nb Z (λi4 d=>Wa (lt (ly ?_))))))))
  have h:=sj i; subst h
  exact BB (v0:=vI 0) (v1:=vA C3) (v2:=vI h1) Z Z H (kV d.has Mh C3 Z et cI) Z ⟨_,_,_,Z,d.lZ Sn,(N.trans Q).trans T,(o.trans q).trans s,ST.lp d (mu.mem Sn),vN,vN,Z,Z,Sl.nil _ _ _,Sl.nil _ _ _⟩
 refine kg (Wh e8 (bS i λa e3 i=>?_))
 let g5:Value:=vI a.1.E
 let g1:Value:=vS a.1.Name
 let f9:Value:=vI a.1.oN
 let d5:Value:=vI a.1.Kind
 refine VE (eD d (bJ _) call49 (λA=>QR A  e3) ?_ (L0:=[]))
 rintro _ j7 k3 i3 d Y p ⟨k1,k2,U,rfl,b0,b2⟩
 cases U
 refine Wm (Wx Z (Wx Z (VE (lq d cR λi6 j4 d=>?_))))
 obtain ⟨t,x,rfl⟩:=b0.form
 let O:Value:= .slice t a.1.nU.length x
 obtain ⟨u,y,rfl⟩:=b2.form
 let b8:Value:= .slice u a.1.mC.length y
 let a3:=#[d5,f9,g5,g1,O,b8]
 let a0:Value:=vA [d5,f9,g5,g1,O,b8]
 refine VO (lz a0 a3 d Z Z cI oc nb Z (λi7 d=>Wa (lS (Wm (Wi Z (ln (CI i Z (λd7 i=>?_) λd7 i=>?_)))))))
 ·refine sg (V (lX (v:=vA C3) oP (lG cR cM (ED _ cM) kr)) (Wm (Wa ?_)))
  have d:=d.perm (Nb (Pb Pz) Nz)
  refine VO (lz (vA C3) C3.toArray d H Z cI oc nb Z (λi8 d=>Wa (ln ?_)))
  have d:=d.kM (Kb (Db St))
  refine lB (ly ?_)
  have h:=sj i; subst h
  exact BB (v0:=vI 0) (v1:=vA C3) (v2:=vI a.2) Z Z H (kV d.has Mh C3 Z et cI) Z ⟨_,_,_,Z,d.lZ Sn,((N.trans Q).trans T).trans Y,((o.trans q).trans s).trans p,ST.lp d (mu.mem Sn),vN,vN,Z,Z,Sl.nil _ _ _,Sl.nil _ _ _⟩
 refine kn (kY ?_)
 have d:=d.drew
 have n:=d.has.kM (Kb Sn)
 refine mh n lM (X 0 Z n (kT e7) (XH 1 Z n (λ_ hS=>kP Z (kV hS Mh [d5,f9,g5,g1,O,b8] Z et cI)) (X 2 Z n (nz Z) ?_)))
 have d:=d.perm (Nb (Pb Pz) Nz)
 refine XO 3 Z (lz a0 a3 d H Z cI oc nb Z (λi9 d=>?_))
 have n:=d.has.kM (Db (Kb Sn))
 refine ⟨n,X 4 Z n (nz Z) (ml kr (kW ?_))⟩
 have d:=d.kM (Kb (Db St))
 refine lB ?_
 have h:=sj i; subst h
 exact BB (v0:=vI L.1) (v1:=a0) (v2:=vI 0) Z Z H (kV d.has Mh [d5,f9,g5,g1,O,b8] Z et cI) Z ⟨_,_,_,Z,d.lZ Sn,((N.trans Q).trans T).trans Y,((o.trans q).trans s).trans p,ST.lp d (mu.mem Sn),O,b8,Z,Z,b0,b2⟩
theorem NW (I:Sl pc 2 (hp qa) q0 qM) (hm:Ej qM=some qo) :
  mM true pg0 9 [q0] qa 3 (lu .i64) 1 qo:=by
 refine yd 31 func9 Z (λd=>sg (Wa (lr (Wa (lS (Wm ?_))))))
 refine V (lT cT Z I) (Wm (ln (mJ 11 10 (λi js E W=>∃j x g D H,lm (hp qa) D∧ST true lN qa W D (g++H)∧E 3=j∧E 9=q0∧lQ 3 (lu .i64) 1 j x g∧tE js x=some qo) I.len ⟨vN,[],[],hp qa,_,lm.refl _,d.kM,Z,Z,lQ.nil _ _ _,hm⟩ ?_ ?_)))
 ·rintro O u b6 E W w ⟨⟨h,n⟩,j,x,g,D,H,k,d,y,z,t,a⟩
  refine sg (VQ (my (i:=(O:Int)) (x0:=u) pc.out cT dq z h (I.mono vK.mono k) (aG _) w) λc8 ⟨_,⟨c9,rfl,K⟩,a5⟩=>V (kP Z (lA d.has a5 gO dq)) (VE (lq d dF λb9 c6 d=>?_)))
  obtain ⟨M,T,rfl⟩:=K.form
  refine VO (FA (#[vB u.Out,.slice M u.B.length T]) d dq λc0 d=>lr (Wf Ct (VB d Mh Z Z dm (V (tg aT cJ bG Z (K.mono (Pl.mono _) d.lb)) (bS a λc s a=>?_)))))
  refine VE (eD d (bJ _) call25 (λhh=>BA hh  s) ?_ (L0:=[]))
  rintro _ d0 q b7 d G o ⟨d1,d2,B,rfl,A,a9⟩
  cases B
  refine Wm (Wx Z (Wx Z (Wx Z (VE (lq d cR λc2 c7 d=>Wa ?_)))))
  obtain ⟨N,U,rfl⟩:=A.form
  obtain ⟨Q,Y,rfl⟩:=a9.form
  refine VO (FA (#[vI c.2.1.Kind,vI c.2.1.oN,vI c.2.1.E,vS c.2.1.Name,.slice N c.2.1.nU.length U,.slice Q c.2.1.mC.length Y]) d cI λc3 d=>Wa (ln ?_))
  have d:=d.kM (Db St)
  refine sg (Wf DP (VB d Mh Z Z iQ (ln ?_)))
  have d:=d.kM (Db St)
  refine CI a Z (λa3 a=>?_) (λa3 a=>?_)
  ·refine kX (Wh y (Wm (VE (lE (cs:=[vI c.1].toArray) d (mB Z) (ng ez dH kk) λc4 L d=>?_))))
   have d:=d.perm (Nr (Qb Qz) Nz)
   refine bS a λP a4 a=>VE (oG (enc:=lu .i64) (v:=j) (vs:= .slice (some ⟨L,0,none⟩) 1 1) (R:=g) d (λ_=>rfl) dc (uk _) ez Hl.1 Hl.2.1 Z Hl.2.2.1 Hl.2.2.2 Z Z t (Sl.lit (enc:=lu .i64) (l:=[c.1]) (λ_=>rfl) Z nb Z (d.at_ (Ma Mh))) a4 λc5 b4 J d a2=>Wa (lC (lD (kW ?_))))
   have d:=d.kM (Kr (Db St))
   exact ⟨h,n,b4,P,J,q,_,k.trans G,d.kM,Z,z,a2,a⟩
  exact lU (lD (kW ⟨h,n,j,x,g,q,_,k.trans G,d.kM,y,z,t,a⟩))
 rintro E W ⟨⟨h,n⟩,j,x,g,D,H,k,d,y,z,t,a⟩
 refine kW (sg (Wh y (Wa (lt ?_))))
 cases sj a
 exact ma (v:=j) Z Z ⟨_,g,Z,d.oa (λp hq=>Ml hq) t.nd,t⟩
theorem Q4 {r:(Signed×Bool)} (t:nN qb [] qa) (c:Sl nq 15 qb q0 qG.nK) (z:Sl oB 8 qb q1 qG.pv) (hm:D4 qG qB=some r) :
  mq true pg0 52 [vA [vS qG.Name,q0,q1],vA (kQ qB)] qa qb [] (λv L1 μ1=>∃q,v=vT [vA [vI r.1.kK.Kind,vS r.1.kK.Head.kO,vS r.1.kK.Head.Word,vS r.1.kK.lV,vS r.1.kK.B.kO,vS r.1.kK.B.Word,vS r.1.kK.C.kO,vS r.1.kK.C.Word,vS r.1.kK.lW,q],vB r.2]∧L1=[]∧Sl (Pl (lu .u8)) 1 μ1 q r.1.Tag):=by
 refine ve t 24 func52 Z (λd=>sg ?_)
 obtain ⟨Y,c2,rfl⟩:=c.form
 obtain ⟨A3,R,rfl⟩:=z.form
 refine VE (lY d Z (λW6 M d=>VE (lY d Z (λW8 n d=>VE (lq d cU λc8 o d=>Wa (lS (Wf HZ (VB d (Mt (Mt Mh)) Z Z isAgg22 (V (lT eS Z c) (Wm (ln ?_)))))))))))
 have d:=d.kM (Kb (Kb (Db St)))
 refine mJ 11 10 (λi w E W=>∃B,ST true (keys []) qa W qb ((o,Ol C7 57)::((n,Ol (kQ qB) 55)::B))∧E 3=vP n∧E 4=vP o∧E 9= .slice Y qG.nK.length c2∧Bp qB w=some r) c.len ⟨_,d.kM,Z,Z,Z,hm⟩ ?_ ?_
 ·rintro a4 a c6 E W U ⟨⟨h,p⟩,B,d,G,u,H,g⟩
  refine sg (VQ (my (i:=(a4:Int)) (x0:=a) nq.out eS eF H h c (aG _) U) λO ⟨_,⟨P,c5,rfl,I,T⟩,Q⟩=>V (kP Z (lA d.has Q ko eF)) (VE (lq d fR λx L d=>?_)))
  obtain ⟨j,k,rfl⟩:=I.form
  let a0:=C2 a.Signed.kK.Kind a.Signed.kK.Head.kO a.Signed.kK.Head.Word a.Signed.kK.lV a.Signed.kK.B.kO a.Signed.kK.B.Word a.Signed.kK.C.kO a.Signed.kK.C.Word a.Signed.kK.lW j a.Signed.Tag.length k
  obtain ⟨J,K,rfl⟩:=T.form
  let s:=C6 a.Signed.kK.Kind a.Signed.kK.Head.kO a.Signed.kK.Head.Word a.Signed.kK.lV a.Signed.kK.B.kO a.Signed.kK.B.Word a.Signed.kK.C.kO a.Signed.kK.C.Word a.Signed.kK.lW j a.Signed.Tag.length k a.la.Op a.la.K a.la.kL.kO a.la.kL.Word J a.la.Kids.length K
  refine VO (FA s.toArray d eF λa9 d=>lr (Wf Gs (Wf rZ (VA d Mh (kQ a.Signed.kK) bK aK (V (kP G (kV d.has (Mt (Mt Mh)) (kQ qB) Z bK aK)) (V (wE Z Z (nY eO) (so (yK _ a.Signed.kK qB))) (ln (CI g Z (λN g=>?_) λN g=>?_))))))))
  ·refine sg (Wf Gs (VA d Mh a0 ef bO ?_))
   have d:=d.perm (Nb (Pb Pz) Nz)
   refine VO (lz (vA a0) a0.toArray d u Z bO oc nb Z (λy d=>Wa (ln ?_)))
   have d:=d.kM (Kb (Db (Db St)))
   refine lB (mG (ly (mG (ly ?_))))
   cases sj g
   exact rY (v0:=vA a0) (v1:=vB true) Z u (kV d.has Mh a0 Z ef bO) Z ⟨_,_,_,Z,d.lZ Sn,lm.refl _,Lo.refl,ST.lp d (mu.mem Sn),.slice j a.Signed.Tag.length k,Z,Z,I⟩
  refine lU (lD (kW ?_))
  have d:=d.kM (Db St)
  exact ⟨h,p,_,d.kM,G,u,H,g⟩
 rintro E W ⟨⟨h,p⟩,B,d,G,u,H,g⟩
 refine kW ?_
 have d:=d.kM (Kb (Db St))
 refine sg (V (lX (v:=vA C7) oP (lG cU ep (Of _ ep) kr)) (VO (lz (vA C7) C7.toArray d u Z bO oc nb Z (λA d=>Wa (lt ?_)))))
 cases sj g
 exact rY (v0:=vA C7) (v1:=vB false) Z u (kV d.has Mh C7 Z ef bO) Z ⟨_,_,_,Z,d.lZ Sn,lm.refl _,Lo.refl,ST.lp d (mu.mem Sn),vN,Z,Z,Sl.nil _ _ _⟩
theorem Sx {r:(ByteArray×Int)} (j:Sl vi 2 (hp qa) q0 qS) (hm:HR qS qB=some r) :
  lF true pg0 110 [q0,vA (kQ qB)] qa (vT [vS r.1,vI r.2]):=by
 refine cG 27 func110 Z (λd=>sg (VE (lY d Z (λW2 K d=>Wa (Wa (lS (VA d Mh (kQ qB) bK aK (bS hm λo N hm=>VE (Eg d call58 (AZ qB _ _  N) λW5 d=>V (nt Z) ?_)))))))))
 refine ln (CI hm Z (λM hm=>?_) λM hm=>?_)
 ·refine sg (Wa (Wa (ln ?_)))
  have d:=d.kM (Db St)
  refine lB (ly ?_)
  cases sj hm
  exact zh (v:=vS zS) (u:=vI 11) Z Z Z ⟨Z,d.ex⟩
 refine kS (Wm (V (lT gD Z j) (Wm (ln (mJ 13 12 (λi k E W=>∃t,ST true lN qa W (hp qa) ((K,Ol (kQ qB) 55)::t)∧E 3=vP K∧E 11=q0∧zW qB k=some r) j.len ⟨_,d.kM,Z,Z,hm⟩ ?_ ?_)))))
 ·rintro Q c T E W I ⟨⟨g,h⟩,t,d,x,y,a⟩
  refine sg (VQ (my (i:=(Q:Int)) (x0:=c) vi.out gD iq y g j (aG _) I) λa2 ⟨_,⟨a3,rfl,z⟩,H⟩=>V (kP Z (lA d.has H isAgg51 iq)) (VE (lq d jM λU n d=>?_)))
  obtain ⟨B,D,rfl⟩:=z.form
  refine VO (FA (#[vS c.lV,.slice B c.Key.length D]) d iq λY d=>lr (Wf Jx (VB d Mh Z Z bU (V (kU ud x) (Wf sE (VB d (Mt Mh) Z Z bU (V (rF Z Z Z) (ln (CI a Z (λG a=>?_) λG a=>?_)))))))))
  ·refine sg (Wf Ky (VB d Mh Z Z dm (V (tg aT cJ bG Z (z.mono (Pl.mono _) d.lb)) (Wa (Wa (ln ?_))))))
   have d:=d.kM (Db (Db St))
   refine lB (mG (ly (mG (ly ?_))))
   cases sj a
   exact zh (v:=vS (su c.Key)) (u:=vI 0) Z Z Z ⟨Z,d.ex⟩
  refine lU (lD (kW ?_))
  have d:=d.kM (Db St)
  exact ⟨g,h,_,d.kM,x,y,a⟩
 rintro E W ⟨⟨g,h⟩,t,d,x,y,a⟩
 refine kW ?_
 have d:=d.kM (Db St)
 refine sg (Wa (Wa (lt ?_)))
 cases sj a
 exact zh (v:=vS zS) (u:=vI 21) Z Z Z ⟨Z,d.ex⟩
theorem GS (i H r:ByteArray) (w:World) (hm:DI i H=some r) :
  lF true pg0 111 [vS i,vS H] w (vS r):=by
 refine cG 34 func111 Z (λd=>sg (Wa (lr (Wm (V (pn bG Z) (V (pt (k':=.i64) (a:=(i.size:Int)) ed cJ Z) (VE (lE (cs:=[.int .u8 (IntKind.u8.wrap (i.size:Int))].toArray) d (mB Z) (ng aT fc fT) λW2 n d=>V (tg aT cJ bG Z (Sl.lit (enc:=lu .u8) (l:=[IntKind.u8.wrap (i.size:Int)]) (λ_=>rfl) Z nb Z (d.at_ Mh))) (Wm (bS hm λo I hm=>?_))))))))))
 refine V (xk Z Z I) (Wm (bS hm λp J hm=>V (xk Z Z J) (Wm (bS hm λT K hm=>V (xk Z Z K) (bS hm λQ D hm=>VE (Eg d call91 (Lq T _ _  D) λU d=>Wa (ln ?_)))))))
 have d:=d.kM (Db St)
 refine sg (Wa (lS (Wa (ln (mA (nQ (λm E W=>∃g t j u,ST true lN w W (hp w) u∧E 5= .int .u64 g∧E 6=vS t∧E 7=vI j∧rj m g t j=some r) lP ⟨Q,zS,0,_,d.kM,Z,Z,Z,hm⟩ ?_))))))
 rintro m E W ⟨g,t,j,u,d,x,y,z,c⟩
 cases m with
 | zero=>rw [rj] at c; cases c
 | succ M=>
  refine kY (sg (Wh z (Wi Z (ln (CI c Z (λB c=>?_) λB c=>?_)))))
  ·refine kn (kY (bg (Wh x (V (E1 (k:=.u64) (a:=g) (b:=256) (v:= .int .u64 (Int.tmod g 256)) Z Z dc Z) (V (pt (k':=.u64) (a:=Int.tmod g 256) gL cJ Z) (VE (lE (cs:=[.int .u8 (IntKind.u8.wrap (Int.tmod g 256))].toArray) d (mB Z) (ng aT fc fT) λY h d=>V (tg aT cJ bG Z (Sl.lit (enc:=lu .u8) (l:=[IntKind.u8.wrap (Int.tmod g 256)]) (λ_=>rfl) Z nb Z (d.at_ Mh))) (Wh y (bS c λN G c=>V (xk Z Z G) (Wa ?_))))))))))
   refine ln ?_
   have d:=d.kM (Db St)
   exact kX (Wh x (V (E1 (k:=.u64) (a:=g) (b:=256) (v:= .int .u64 (IntKind.u64.wrap (Int.tdiv g 256))) Z Z dc Z) (Wa (lC (lD (kW (kX (Wh z (Wi Z (Wa (ln ⟨M,bB _,IntKind.u64.wrap (Int.tdiv g 256),N,wi0 .i64 (j+1),_,d.kM,Z,Z,Z,c⟩)))))))))))
  exact nB (nv (nv (ry (kW (sg (Wh y (Wa (lt (rQ c d)))))))))
theorem PD (K:Sl vi 2 (hp qa) q0 qS) (i:Sl (Pl (lu .u8)) 1 (hp qa) q1 qW.Tag) (hm:CG qS qW=some qc) :
  lF true pg0 57 [q0,vA [vI qW.kK.Kind,vS qW.kK.Head.kO,vS qW.kK.Head.Word,vS qW.kK.lV,vS qW.kK.B.kO,vS qW.kK.B.Word,vS qW.kK.C.kO,vS qW.kK.C.Word,vS qW.kK.lW,q1]] qa (vI qc):=by
 refine cG 28 func57 Z (λd=>sg ?_)
 obtain ⟨T,U,rfl⟩:=i.form
 refine VE (lY d Z (λW4 o d=>Wa (lr (Wm (Wf rZ (VA d Mh (kQ qW.kK) bK aK (bS hm λx a2 hm=>VE (Eg d call110 (Sx (K.mono FJ.mono d.lb) a2) λW7 d=>Wm (Wx Z (Wx Z (Wa ?_)))))))))))
 refine Wa (ln (kY (kY ?_)))
 have d:=d.drew
 have c:=d.has.kM (Kb Sn)
 refine mh c lM (X 0 Z c (kT Z) (X 1 Z c (lI Z Z Z) (X 2 Z c (kT Z) (PJ hm (λI E W=>∃H,ST true lN qa W (hp qa) ((o,Ol (C2 qW.kK.Kind qW.kK.Head.kO qW.kK.Head.Word qW.kK.lV qW.kK.B.kO qW.kK.B.Word qW.kK.C.kO qW.kK.C.Word qW.kK.lW T qW.Tag.length U) 57)::H)∧E 6=vI x.2∧E 26=vB I) (bm 13 8191) 0 ?_ λI g j=>?_))))
 ·rintro u E W ⟨H,d,Y,n⟩ k
  refine ml kr (kW ?_)
  have d:=d.kM (Db St)
  refine CI k n (λM k=>?_) (λM k=>?_)
  ·refine sg (Wa (lt (ly ?_)))
   cases sj k
   exact rP d
  exact kg (Wh Y (Wa (lt (rQ k d))))
 refine bC g (λa g=>?_) (λa g=>?_)
 ·refine Xg 3 Z Z (cB a) c (kT Z) (Xg 4 Z Z (cB a) c (kU rZ Z) (uq 5 Z Z (cB a) c (λ_ h=>kP Z (kV h Mh (kQ qW.kK) Z bK aK)) (Xg 8 Z Z (cB a) c (kU Ak Z) (uq 9 Z Z (cB a) c (λ_ h=>kP Z (kZ h Mh Z dm)) (JW 6 10 Z Z kr (.inr ⟨2,true,16,Z,Z,fs,cB a⟩) (.inr ⟨2,true,16,Z,Z,fs,cB a⟩) Z Z dc dc ?_ ?_)))))
  ·refine bS g λy N g=>KN (args:=[vA (kQ qW.kK)]) d Z call112 (by exact sD Z) (FG qW.kK _ _  N) (λs d=>?_)
   have c:=d.has.kM (Kb Sn)
   refine ⟨c,JW 7 10 Z Z kr (.inr ⟨2,true,16,Z,Z,fs,cB a⟩) (.inr ⟨2,true,16,Z,Z,fs,cB a⟩) Z Z dc dc ?_ ?_⟩
   ·refine bS g λt z g=>KN (args:=[vS x.1,vS y]) d Z call111 (by exact pj Z Z) (GS x.1 y _ _  z) (λa3 d=>?_)
    have c:=d.has.kM (Kb Sn)
    refine ⟨c,Xt 10 Z kr (.inr ⟨2,true,16,Z,Z,fs,cB a⟩) Z dc (.inl ⟨_,_,tg aT cJ bG Z (i.mono (Pl.mono _) d.lb),⟨c,Xg 11 Z Z (cB a) c (rF Z Z Z) (X 12 Z c (lh (cB a) Z) ?_)⟩⟩)⟩
    cases sj g
    refine nr kr (j _ _ ⟨_,d.kM,Z,Z⟩)
   ·refine .inl ⟨_,_,tg aT cJ bG Z (i.mono (Pl.mono _) d.lb),⟨c,bS g λq B g=>Al 7 Z Z (cB a) (Eg d call111 (GS x.1 y _ _  B) λa4 d=>?_)⟩⟩
    have c:=d.has.kM (Kb Sn)
    refine ⟨c,Xg 11 Z Z (cB a) c (rF Z Z Z) (X 12 Z c (lh (cB a) Z) ?_)⟩
    cases sj g
    refine nr kr (j _ _ ⟨_,d.kM,Z,Z⟩)
  ·refine .inl ⟨_,_,tg aT cJ bG Z (i.mono (Pl.mono _) d.lb),⟨c,bS g λQ D g=>Al 6 Z Z (cB a) (Eg d call112 (FG qW.kK _ _  D) λa5 d=>?_)⟩⟩
   have c:=d.has.kM (Kb Sn)
   refine ⟨c,bS g λa9 G g=>Al 7 Z Z (cB a) (Eg d call111 (GS x.1 Q _ _  G) λp d=>?_)⟩
   have c:=d.has.kM (Kb Sn)
   refine ⟨c,Xg 11 Z Z (cB a) c (rF Z Z Z) (X 12 Z c (lh (cB a) Z) ?_)⟩
   cases sj g
   refine nr kr (j _ _ ⟨_,d.kM,Z,Z⟩)
 refine Xn 3 Z Z (cB a) c (Xn 4 Z Z (cB a) c (Xn 5 Z Z (cB a) c (Xn 6 Z Z (cB a) c (Xn 7 Z Z (cB a) c (Xn 8 Z Z (cB a) c (Xn 9 Z Z (cB a) c (Xn 10 Z Z (cB a) c (Xn 11 Z Z (cB a) c (X 12 Z c (lg (cB a) Z) ?_)))))))))
 cases sj g
 refine nr kr (j _ _ ⟨_,d.kM,Z,Z⟩)
theorem ET (e2:Sl (Pl kQ) 9 (hp qa) q0 qr) (hm:zK qr=some qs) :
  mM true pg0 31 [q0] qa 55 kQ 9 qs:=by
 refine yd 51 func31 Z (λn=>sg (Wa (lr (Wa (ln (tW (mA (nQ (λm E W=>∃x a3 u c3,ST true lN qa W (hp qa) (u++c3)∧E 0=q0∧E 3=x∧lQ 55 kQ 9 x a3 u∧yv qr m a3=some qs) lP ⟨vN,[],[],_,n.kM,Z,Z,lQ.nil _ _ _,hm⟩ ?_))))))))
 rintro m E W ⟨x,a3,u,c3,n,c9,f9,J,a5⟩
 cases m with
 | zero=>rw [yv] at a5; cases a5
 | succ j0=>
  refine bg (VE (lq n cO λj7 t n=>lr (Wa (lS (Wh c9 ?_)))))
  let b8:Value:=vP t
  refine V (lT aV Z e2) (Wm (ln (CJ a5 (λa9 E W=>∃c4,ST true lN qa W (hp qa) ((t,Ol (kQ a9.2) 55)::(u++c4))∧E 0=q0∧E 3=x∧E 4=b8∧E 5=vB a9.1) (λa9 e7=>?_) ?_)))
  ·refine mJ 10 9 (λi js E W=>∃D y b1,ST true lN qa W (hp qa) ((t,Ol (kQ y) 55)::(u++b1))∧E 0=q0∧E 3=x∧E 4=b8∧E 5=vB D∧E 8=q0∧wZ a3 js D y=some a9) e2.len ⟨false,K9,_,n.kM,c9,f9,Z,Z,Z,e7⟩ ?_ ?_
   ·rintro a2 c j6 E W f6 ⟨⟨w,eN⟩,D,y,b1,n,U,M,Y,q,s,H⟩
    let g5:=((kQ y).toArray:Array Value)
    let P:=((kQ c).toArray:Array Value)
    refine sg (VQ (oz (enc:=kQ) (i:=(a2:Int)) (x0:=c) aV aK s w e2 (aG _) f6) λk6 f1=>V (kP Z (lA n.has f1 bK aK)) (VE (lq n cO λk0 K n=>VO (FA (h1:=ow c) ((kQ c).toArray) n aK λk1 n=>ln (kY ?_)))))
    let j2:Value:=vI (a2:Int)
    let j1:Value:=vI (qr.length:Int)
    let g6:Value:=vP K
    have n:=n.drew
    have d:=n.has.kM (Kb (Kb (Kr Sn)))
    refine mh d lM (XH 0 Z d (λ_ o=>kP Z (kV o Mh (kQ c) Z bK aK)) (bS H λj3 f3 H=>XE 1 Z (Eg n call58 (AZ c _ _  f3) λk2 n=>?_)))
    have d:=n.has.kM (Kb (Kb (Kr Sn)))
    refine ⟨d,X 2 Z d (kT Z) (PJ H (λd8 E W=>∃c5,ST true lN qa W (hp qa) ((K,oC P 55)::((t,oC g5 55)::(u++c5)))∧E 0=q0∧E 3=x∧E 4=b8∧E 5=vB D∧E 7=g6∧E 8=q0∧E 9=j1∧E 10=j2∧E 31=vB d8) (bm 28 262143) 10 ?_ λd8 T c1=>?_)⟩
    ·rintro j5 E W ⟨c5,n,b2,b3,A,L,O,b4,b5,b6,g3⟩ e8
     have d:=n.has.kM (Kb (Kb (Kr Sn)))
     refine X 18 Z d (kT g3) (PJ e8 (λd6 E W=>∃c6,ST true lN qa W (hp qa) ((K,oC P 55)::((t,oC g5 55)::(u++c6)))∧E 0=q0∧E 3=x∧E 4=b8∧E 5=vB D∧E 7=g6∧E 8=q0∧E 9=j1∧E 10=j2∧E 41=vB d6) (bm 28 268435455) 0 ?_ λd6 Q b9=>?_)
     ·rintro l1 E W ⟨c6,n,d1,d2,b7,g4,g7,d3,d4,d5,g8⟩ N
      refine ml kr (kW (CI N g8 (λe6 N=>?_) λe6 N=>?_))
      ·refine sg (V (kP g7 (kV n.has Mh (kQ c) Z bK aK)) ?_)
       have n:=n.perm (Nb (Pb Pz) Nz)
       refine VO (lz (vA (kQ c)) ((kQ c).toArray) n b7 Z aK (ow c) nb Z (λk3 n=>ln ?_))
       have n:=n.kM (Kb (Db St))
       exact kX (Wa (lC (lD (kW ⟨d5,d4,true,c,_,n.kM,d1,d2,b7,Z,d3,N⟩))))
      refine lU (lD (kW ?_))
      have n:=n.kM (Db St)
      exact ⟨d5,d4,D,y,_,n.kM,d1,d2,b7,g4,d3,N⟩
     refine bC Q (λj Q=>?_) (λj Q=>?_)
     ·refine Xg 19 Z Z (cB j) d (kT L) (Xg 20 Z Z (cB j) d (nt Z) (Xg 21 Z Z (cB j) d (kT Z) (PJ Q (λd7 E W=>∃c7,ST true lN qa W (hp qa) ((K,oC P 55)::((t,oC g5 55)::(u++c7)))∧E 0=q0∧E 3=x∧E 4=b8∧E 5=vB D∧E 7=g6∧E 8=q0∧E 9=j1∧E 10=j2∧E 32=vB j5∧E 40=vB d7) (bm 28 134217727) 1 ?_ λd7 I c0=>?_)))
      ·rintro l2 E W ⟨c7,n,g9,h0,h1,h2,h3,h4,h5,h6,h7,h8⟩ e9
       have d:=n.has.kM (Kb (Kb (Kr Sn)))
       refine X 27 Z d (lh (h7.trans (cB j)) h8) ?_
       cases sj e9
       refine nr kr (b9 _ _ ⟨_,n.kM,g9,h0,h1,h2,h3,h4,h5,h6,Z⟩)
      refine bC I (λk I=>?_) (λk I=>?_)
      ·refine Xn 22 Z Z (cB k) d (Xn 23 Z Z (cB k) d (Xn 24 Z Z (cB k) d (Xn 25 Z Z (cB k) d (Xg 26 Z Z (cB j) d (lh (cB k) Z) ?_))))
       cases sj I
       refine nr kr (c0 _ _ ⟨_,n.kM,b2,b3,A,L,O,b4,b5,b6,Z,Z⟩)
      refine uq 22 Z Z (cB k) d (λ_ o=>kP O (kV o Mh (kQ c) Z bK aK)) (uq 23 Z Z (cB k) d (λ_ o=>kP A (kV o (Mt Mh) (kQ y) Z bK aK)) (bS I λk8 f4 I=>Al 24 Z Z (cB k) (Eg n call59 (DW c y _ _  f4) λk4 n=>?_)))
      have d:=n.has.kM (Kb (Kb (Kr Sn)))
      refine ⟨d,Xg 25 Z Z (cB k) d (lI Z Z Z) (Xg 26 Z Z (cB j) d (lg (cB k) Z) ?_)⟩
      cases sj I
      refine nr kr (c0 _ _ ⟨_,n.kM,b2,b3,A,L,O,b4,b5,b6,Z,Z⟩)
     refine Xn 19 Z Z (cB j) d (Xn 20 Z Z (cB j) d (Xn 21 Z Z (cB j) d (Xu 22 Z Z Z d (Xu 23 Z Z Z d (Xu 24 Z Z Z d (Xu 25 Z Z Z d (Xn 26 Z Z (cB j) d (X 27 Z d (lg (cB j) Z) ?_))))))))
     cases sj Q
     refine nr kr (b9 _ _ ⟨_,n.kM,b2,b3,A,L,O,b4,b5,b6,Z⟩)
    refine bC T (λg T=>?_) (λg T=>?_)
    ·refine Xg 3 Z Z (cB g) d (kT M) (Xg 4 Z Z (cB g) d (pe aV Z J) (Xg 5 Z Z (cB g) d (lI Z Z Z) (Xg 6 Z Z (cB g) d (kT Z) (PJ T (λd9 E W=>∃c8,ST true lN qa W (hp qa) ((K,oC P 55)::((t,oC g5 55)::(u++c8)))∧E 0=q0∧E 3=x∧E 4=b8∧E 5=vB D∧E 7=g6∧E 8=q0∧E 9=j1∧E 10=j2∧E 16=vB j3∧E 30=vB d9) (bm 28 131071) 11 ?_ λd9 z c2=>?_))))
     ·rintro l3 E W ⟨c8,n,h9,i0,i1,i2,i3,i4,i5,i6,i7,i8⟩ f0
      have d:=n.has.kM (Kb (Kb (Kr Sn)))
      refine X 17 Z d (lh (i7.trans (cB g)) i8) ?_
      cases sj f0
      refine nr kr (c1 _ _ ⟨_,n.kM,h9,i0,i1,i2,i3,i4,i5,i6,Z⟩)
     refine bC z (λa z=>?_) (λa z=>?_)
     ·refine Xn 7 Z Z (cB a) d (Xn 8 Z Z (cB a) d (Xn 9 Z Z (cB a) d (Xn 10 Z Z (cB a) d (Xn 11 Z Z (cB a) d (Xn 12 Z Z (cB a) d (Xn 13 Z Z (cB a) d (Xn 14 Z Z (cB a) d (Xn 15 Z Z (cB a) d (Xg 16 Z Z (cB g) d (lh (cB a) Z) ?_)))))))))
      cases sj z
      refine nr kr (c2 _ _ ⟨_,n.kM,U,M,Y,q,Z,s,eN,w,Z,Z⟩)
     refine Xg 7 Z Z (cB a) d (kT M) (Xg 8 Z Z (cB a) d (kT M) (Xg 9 Z Z (cB a) d (pe aV Z J) (Xg 10 Z Z (cB a) d (lI Z Z Z) (bS z λe0 b0 z=>vq 11 Z kr (.inr ⟨6,false,20,Z,Z,fs,cB a⟩) Z dc (λ_ _ h=>h) d (oF (i:=wi0 .i64 ((a3.length:Int)-1)) (x0:=e0) aV aK Z Z J (lR b0) (lK b0)) λk7 f2=>uq 12 Z Z (cB a) d (λ_ o=>kP Z (uh o (λp hq=>Mt (Mt (Ml hq))) J mL f2 (lK b0) bK aK)) (uq 13 Z Z (cB a) d (λ_ o=>kP Z (kV o Mh (kQ c) Z bK aK)) (bS z λk9 f5 z=>Al 14 Z Z (cB a) (Eg n call59 (DW e0 c _ _  f5) λk5 n=>?_)))))))
     have d:=n.has.kM (Kb (Kb (Kr Sn)))
     refine ⟨d,Xg 15 Z Z (cB a) d (lI Z Z Z) (Xg 16 Z Z (cB g) d (lg (cB a) Z) ?_)⟩
     cases sj z
     refine nr kr (c2 _ _ ⟨_,n.kM,U,M,Y,q,Z,s,eN,w,Z,Z⟩)
    refine Xn 3 Z Z (cB g) d (Xn 4 Z Z (cB g) d (Xn 5 Z Z (cB g) d (Xn 6 Z Z (cB g) d (Xu 7 Z Z Z d (Xu 8 Z Z Z d (Xu 9 Z Z Z d (Xu 10 Z Z Z d (Xu 11 Z Z Z d (Xu 12 Z Z Z d (Xu 13 Z Z Z d (Xu 14 Z Z Z d (Xu 15 Z Z Z d (Xn 16 Z Z (cB g) d (X 17 Z d (lg (cB g) Z) ?_))))))))))))))
    cases sj T
    refine nr kr (c1 _ _ ⟨_,n.kM,U,M,Y,q,Z,s,eN,w,Z⟩)
   rintro E W ⟨⟨w,eN⟩,D,y,b1,n,U,M,Y,q,s,H⟩
   refine kW ?_
   cases sj H
   exact ⟨_,n.kM,U,M,Y,q⟩
  rintro ⟨l0,a4⟩ E W ⟨c4,n,g0,d0,g1,g2⟩ G
  refine kY (sg (Wh g2 (V (nt Z) (ln (CI G Z (λe4 G=>?_) λe4 G=>?_)))))
  ·refine sg (Wh d0 (Wa (ln ?_)))
   have n:=n.kM (Db St)
   refine lB (ly (mG (ly (mG (ly ?_)))))
   cases sj G
   exact ma (v:=x) Z Z ⟨_,u,Z,n.oa (λp hq=>Ml hq) J.nd,J⟩
  refine kn (kX (Wh d0 (V (kP g1 (kV n.has Mh (kQ a4) Z bK aK)) (VE (lE (cs:=(kQ a4).toArray) n (mB Z) (ng aV aK cO) λj8 f8 n=>?_)))))
  have n:=n.perm (Nr (Qb (Qb Qz)) Nz)
  refine bS G λi9 e5 G=>VE (oG (enc:=kQ) (v:=x) (vs:= .slice (some ⟨f8,0,none⟩) 1 1) (R:=u) n mL dc ow aV od.1 od.2.1 Z od.2.2.1 od.2.2.2 Z Z J (Sl.lit (enc:=kQ) (l:=[a4]) mL Z nb Z (n.at_ (Ma Mh))) e5 λj9 j4 f7 n e3=>Wa (lC (lD (kW ?_))))
  have n:=n.kM (Kr (Db (Db St)))
  exact ⟨j0,bB _,j4,i9,f7,_,n.kM,g0,Z,e3,G⟩
theorem QT (a5:Sl vi 2 (hp qa) q0 qS) (H:Sl mg 10 (hp qa) q1 qT) (hm:GA qS qT=some qr) :
  mM true pg0 30 [q0,q1] qa 55 kQ 9 qr:=by
 refine yd 26 func30 Z (λd=>sg (Wa (lr (Wa (lS (Wm ?_))))))
 refine V (lT bV Z H) (Wm (ln (mJ 10 9 (λi O E W=>∃g k j G,ST true lN qa W (hp qa) (j++G)∧E 0=q0∧E 5=g∧E 8=q1∧lQ 55 kQ 9 g k j∧vL qS O k=some qr) H.len ⟨vN,[],[],_,d.kM,Z,Z,Z,lQ.nil _ _ _,hm⟩ ?_ ?_)))
 ·rintro M a c5 E W A ⟨⟨h,n⟩,g,k,j,G,d,y,z,B,t,c⟩
  refine sg (VQ (my (i:=(M:Int)) (x0:=a) mg.out bV bO B h H (aG _) A) λc1 ⟨_,⟨c4,rfl,K⟩,U⟩=>V (kP Z (lA d.has U ef bO)) (VE (lq d cU λb3 c0 d=>?_)))
  obtain ⟨u,x,rfl⟩:=K.form
  let a0:=C2 a.kK.Kind a.kK.Head.kO a.kK.Head.Word a.kK.lV a.kK.B.kO a.kK.B.Word a.kK.C.kO a.kK.C.Word a.kK.lW u a.Tag.length x
  refine VO (FA a0.toArray d bO λb4 d=>lr (Wh y (VA d Mh a0 ef bO (bS c λc2 Y c=>VE (Eg d call57 (PD (a5.mono FJ.mono d.lb) (K.mono (Pl.mono _) d.lb) Y) λb5 d=>Wi Z (ln (CI c Z (λQ c=>?_) λQ c=>?_)))))))
  ·refine kX (Wh z (Wf rZ (VA d Mh (kQ a.kK) bK aK (VE (lE (cs:=(kQ a.kK).toArray) d (mB Z) (ng aV aK cO) λb6 a4 d=>?_)))))
   have d:=d.perm (Nr (Qb (Qb Qz)) Nz)
   refine bS c λI T c=>VE (oG (enc:=kQ) (v:=g) (vs:= .slice (some ⟨a4,0,none⟩) 1 1) (R:=j) d mL dc ow aV od.1 od.2.1 Z od.2.2.1 od.2.2.2 Z Z t (Sl.lit (enc:=kQ) (l:=[a.kK]) mL Z nb Z (d.at_ (Ma Mh))) T λb7 L a2 d N=>Wa (lC (lD (kW ?_))))
   have d:=d.kM (Kr (Db (Db St)))
   exact ⟨h,n,L,I,a2,_,d.kM,y,Z,B,N,c⟩
  refine lU (lD (kW ?_))
  have d:=d.kM (Db St)
  exact ⟨h,n,g,k,j,_,d.kM,y,z,B,t,c⟩
 rintro E W ⟨⟨h,n⟩,g,k,j,G,d,y,z,B,t,c⟩
 refine kW (sg (Wh z (bS c λc3 w c=>VE (rM d call31 (ET (t.sl mL λb o s=>d.at_ (Ml s)) w) λb9 a9 c6 a3 d P q J=>Wa (ln ?_)))))
 have d:=d.kM (Kr (Dr St))
 refine lB ?_
 cases sj c
 exact ma (v:=a9) Z Z ⟨_,a3,Z,d.oa (λp s=>Ml s) J.nd,J⟩
theorem JM (d8:Sl vi 2 (hp qa) q0 qS) (a4:Sl pc 2 (hp qa) q1 qM) (hm:BD qS qM=some qr) :
  mM true pg0 14 [q0,q1] qa 55 kQ 9 qr:=by
 refine yd 41 func14 Z (λd=>sg (Wa (lr (Wa (lS (Wm ?_))))))
 refine V (lT cT Z a4) (Wm (ln (mJ 13 12 (λi js E W=>∃t y u Q Y,lm (hp qa) Q∧ST true lN qa W Q (u++Y)∧E 0=q0∧E 5=t∧E 11=q1∧lQ 55 kQ 9 t y u∧vO qS js y=some qr) a4.len ⟨vN,[],[],hp qa,_,lm.refl _,d.kM,Z,Z,Z,lQ.nil _ _ _,hm⟩ ?_ ?_)))
 ·rintro b7 z e5 E W d1 ⟨⟨n,q⟩,t,y,u,Q,Y,k,d,a2,J,K,B,c⟩
  refine sg (VQ (my (i:=(b7:Int)) (x0:=z) pc.out cT dq K n (a4.mono vK.mono k) (aG _) d1) λf7 ⟨_,⟨g0,rfl,G⟩,c7⟩=>V (kP Z (lA d.has c7 gO dq)) (VE (lq d dF λe8 f6 d=>?_)))
  obtain ⟨a8,b1,rfl⟩:=G.form
  refine VO (FA (#[vB z.Out,.slice a8 z.B.length b1]) d dq λe9 d=>lr (Wf Ct (VB d Mh Z Z dm (V (tg aT cJ bG Z (G.mono (Pl.mono _) d.lb)) (bS c λa c8 c=>?_)))))
  let g5:Value:=vI a.2.1.E
  let f0:Value:=vS a.2.1.Name
  let d5:Value:=vI a.2.1.oN
  let c2:Value:=vI a.2.1.Kind
  refine VE (eD d (bJ _) call25 (λhh=>BA hh  c8) ?_ (L0:=[]))
  rintro _ g1 c0 e6 d D s ⟨g3,g4,M,rfl,d2,L⟩
  cases M
  refine Wm (Wx Z (Wx Z (Wx Z (VE (lq d cR λf1 O d=>Wa ?_)))))
  obtain ⟨U,Zq,rfl⟩:=d2.form
  let c1:Value:= .slice U a.2.1.nU.length Zq
  obtain ⟨H,I,rfl⟩:=L.form
  let b8:Value:= .slice H a.2.1.mC.length I
  refine VO (FA (#[c2,d5,g5,f0,c1,b8]) d cI λf2 d=>Wa (lr (Wf DP (VB d (Mt Mh) Z Z iQ (V (nt Z) (Wm (LJ c (λb9 E W=>∃a9,ST true lN qa W c0 ((O,Ob #[c2,d5,g5,f0,c1,b8] 69)::(u++a9))∧E 0=q0∧E 5=t∧E 9=vP O∧E 11=q1∧E 12=vI (qM.length:Int)∧E 13=vI (b7:Int)∧E 31=vB b9) 3 ?_ λb9 x T=>?_)))))))
  ·rintro g2 E W ⟨a9,d,a3,P,d6,b3,b4,b5,d7⟩ g
   refine ln (CI g d7 (λc5 g=>?_) λc5 g=>?_)
   ·refine kX (Wh P (Wh a3 (V (kU uE d6) (VB d Mh Z Z fH (bS g λf8 c9 g=>VE (rM d call30 (QT (d8.mono FJ.mono ((k.trans D).trans d.lb)) (L.mono nu.mono d.lb) c9) λf3 e0 e3 e7 d b6 w c3=>?_))))))
    have d:=d.perm (Nr (Qr (Qb Qz)) Nz)
    refine bS g λd9 c6 g=>VE (oG (enc:=kQ) (v:=t) (vs:=e0) (R:=u) d mL dc ow aV od.1 od.2.1 Z od.2.2.1 od.2.2.2 Z Z B (c3.YJ mL d λp h=>Ma (Ml h)) c6 λf4 e1 d3 d c4=>Wa (lC (lD (kW ?_))))
    have d:=d.kM (Kr (Dr (Db St)))
    exact ⟨b5,b4,e1,d9,d3,e3,_,(k.trans D).trans b6,d.kM,a3,Z,b3,c4,g⟩
   refine lU (lD (kW ?_))
   have d:=d.kM (Db St)
   exact ⟨b5,b4,t,y,u,c0,_,k.trans D,d.kM,a3,P,b3,B,g⟩
  refine bC x (λj x=>?_) (λj x=>?_)
  ·refine ug j (kT Z) (ug j (lI Z Z Z) (V (lh (cB j) Z) ?_))
   cases sj x
   exact T _ _ ⟨_,d.kM (Kb (Db St)),a2,J,Z,K,q,n,Z⟩
  refine un j (un j (V (lg (cB j) Z) ?_))
  cases sj x
  exact T _ _ ⟨_,d.kM (Kb (Db St)),a2,J,Z,K,q,n,Z⟩
 rintro E W ⟨⟨n,q⟩,t,y,u,Q,Y,k,d,a2,J,K,B,c⟩
 refine kW (sg (Wh J (bS c λf9 d0 c=>VE (rM d call31 (ET (B.sl mL λb o h=>d.at_ (Ml h)) d0) λf5 e2 g7 d4 d e4 A a5=>Wa (ln ?_)))))
 have d:=d.kM (Kr (Dr St))
 refine lB ?_
 cases sj c
 exact ma (v:=e2) Z Z ⟨_,d4,Z,d.oa (λp h=>Ml h) a5.nd,a5⟩
theorem Sq {a0 r:List ByteArray} (b9:Sl (Pl yj) 1 (hp qa) q0 a0) (hm:EU a0=some r) :
  mM true pg0 145 [q0] qa 9 yj 1 r:=by
 refine yd 48 func145 Z (λd=>sg (Wa (lr (Wa (ln (tW (mA (nQ (λm E W=>∃t a2 j c0,ST true lN qa W (hp qa) (j++c0)∧E 0=q0∧E 3=t∧lQ 9 yj 1 t a2 j∧yx a0 m a2=some r) lP ⟨vN,[],[],_,d.kM,Z,Z,lQ.nil _ _ _,hm⟩ ?_))))))))
 rintro m E W ⟨t,a2,j,c0,d,c6,f3,G,q⟩
 cases m with
 | zero=>rw [yx] at q; cases q
 | succ i0=>
  refine bg (Wa (lS (Wh c6 (V (lT dK Z b9) (Wm (ln (CJ q (λP E W=>∃c1,ST true lN qa W (hp qa) (j++c1)∧E 0=q0∧E 3=t∧E 4=vS P) (λP e3=>?_) ?_)))))))
  ·refine mJ 9 8 (λi js E W=>∃x s,ST true lN qa W (hp qa) (j++s)∧E 0=q0∧E 3=t∧E 4=vS x∧E 7=q0∧xd a2 js x=some P) b9.len ⟨zS,_,d.kM,c6,f3,Z,Z,e3⟩ ?_ ?_
   ·rintro h I i4 E W f0 ⟨⟨n,o⟩,x,s,d,Q,H,T,U,B⟩
    refine sg (VQ (oz (enc:=yj) (i:=(h:Int)) (x0:=I) dK er U n b9 (aG _) f0) λi8 e7=>V (kP Z (rz d.has (y:=vS I) e7 bU)) (Wa (lr (Wm (bS B λi1 e9 B=>VE (Eg d kJ (xX I _ _  e9) λi7 d=>Wm (LJ B (λd6 E W=>∃c2,ST true lN qa W (hp qa) (j++c2)∧E 0=q0∧E 3=t∧E 4=vS x∧E 6=vS I∧E 7=q0∧E 8=vI (a0.length:Int)∧E 9=vI (h:Int)∧E 29=vB d6) 14 ?_ λd6 N a8=>?_)))))))
    ·rintro i3 E W ⟨c2,d,u,w,Y,a3,A,L,O,f5⟩ e4
     refine Wh f5 (LJ e4 (λd4 E W=>∃c3,ST true lN qa W (hp qa) (j++c3)∧E 0=q0∧E 3=t∧E 4=vS x∧E 6=vS I∧E 7=q0∧E 8=vI (a0.length:Int)∧E 9=vI (h:Int)∧E 38=vB d4) 8 ?_ λd4 K a6=>?_)
     ·rintro j0 E W ⟨c3,d,c9,d0,f6,f7,d1,d2,d3,f8⟩ J
      refine ln (CI J f8 (λe2 J=>?_) λe2 J=>?_)
      ·exact kX (Wh f7 (Wa (lC (lD (kW ⟨d3,d2,I,_,d.kM,c9,d0,Z,d1,J⟩)))))
      exact lU (lD (kW ⟨d3,d2,x,_,d.kM,c9,d0,f6,d1,J⟩))
     refine bC K (λg K=>?_) (λg K=>?_)
     ·refine ug g (kT Y) (ug g (rF Z Z Z) (ug g (kT Z) (LJ K (λd5 E W=>∃c4,ST true lN qa W (hp qa) (j++c4)∧E 0=q0∧E 3=t∧E 4=vS x∧E 6=vS I∧E 7=q0∧E 8=vI (a0.length:Int)∧E 9=vI (h:Int)∧E 30=vB i3∧E 37=vB d5) 4 ?_ λd5 M a7=>?_)))
      ·rintro j3 E W ⟨c4,d,f9,g0,g1,g2,g3,g4,g7,g8,g9⟩ e5
       refine V (lh (g8.trans (cB g)) g9) ?_
       cases sj e5
       exact a6 _ _ ⟨_,d.kM,f9,g0,g1,g2,g3,g4,g7,Z⟩
      refine bC M (λk M=>?_) (λk M=>?_)
      ·refine un k (un k (un k (ug g (lh (cB k) Z) ?_)))
       cases sj M
       exact a7 _ _ ⟨_,d.kM,u,w,Y,a3,A,L,O,Z,Z⟩
      refine ug k (kT a3) (ug k (kT Y) (ug k (rF Z Z Z) (ug g (lg (cB k) Z) ?_)))
      cases sj M
      exact a7 _ _ ⟨_,d.kM,u,w,Y,a3,A,L,O,Z,Z⟩
     refine un g (un g (un g (Vu Z Z (Vu Z Z (Vu Z Z (un g (V (lg (cB g) Z) ?_)))))))
     cases sj K
     exact a6 _ _ ⟨_,d.kM,u,w,Y,a3,A,L,O,Z⟩
    refine bC N (λc N=>?_) (λc N=>?_)
    ·refine ug c (kT H) (ug c (pe dK Z G) (ug c (lI Z Z Z) (ug c (kT Z) (LJ N (λd7 E W=>∃c5,ST true lN qa W (hp qa) (j++c5)∧E 0=q0∧E 3=t∧E 4=vS x∧E 6=vS I∧E 7=q0∧E 8=vI (a0.length:Int)∧E 9=vI (h:Int)∧E 15=vB i1∧E 28=vB d7) 9 ?_ λd7 D a9=>?_))))
     ·rintro j4 E W ⟨c5,d,h0,h1,h2,h3,h4,h5,h6,h7,h8⟩ e6
      refine V (lh (h7.trans (cB c)) h8) ?_
      cases sj e6
      exact a8 _ _ ⟨_,d.kM,h0,h1,h2,h3,h4,h5,h6,Z⟩
     refine bC D (λa D=>?_) (λa D=>?_)
     ·refine un a (un a (un a (un a (un a (un a (un a (un a (ug c (lh (cB a) Z) ?_))))))))
      cases sj D
      exact a9 _ _ ⟨_,d.kM,Q,H,T,Z,U,o,n,Z,Z⟩
     refine ug a (kT Z) (ug a (kT H) (ug a (kT H) (ug a (pe dK Z G) (ug a (lI Z Z Z) (bS D λd8 a5 D=>ugQ a (oF (i:=wi0 .i64 ((a2.length:Int)-1)) (x0:=d8) dK er Z Z G (lR a5) (lK a5)) λi9 e8=>ug a (kP Z (Da d.has (λp hq=>Ml hq) G (λ_=>rfl) e8 (lK a5) (y:=vS d8) Z bU)) (ug a (rF Z Z Z) (ug c (lg (cB a) Z) ?_)))))))
     cases sj D
     exact a9 _ _ ⟨_,d.kM,Q,H,T,Z,U,o,n,Z,Z⟩
    refine un c (un c (un c (un c (Vu Z Z (Vu Z Z (Vu Z Z (Vu Z Z (Vu Z Z (Vu Z Z (Vu Z Z (Vu Z Z (un c (V (lg (cB c) Z) ?_)))))))))))))
    cases sj N
    exact a8 _ _ ⟨_,d.kM,Q,H,T,Z,U,o,n,Z⟩
   rintro E W ⟨⟨n,o⟩,x,s,d,Q,H,T,U,B⟩
   refine kW ?_
   cases sj B
   exact ⟨_,d.kM,Q,H,T⟩
  rintro a4 E W ⟨c1,d,f4,c7,c8⟩ z
  refine kY (sg (Wh c8 (V (rF Z Z Z) (ln (CI z Z (λe0 z=>?_) λe0 z=>?_)))))
  ·refine sg (Wh c7 (Wa (lt (ly (mG (ly (mG (ly ?_))))))))
   cases sj z
   exact ma (v:=t) Z Z ⟨_,j,Z,d.oa (λp hq=>Ml hq) G.nd,G⟩
  refine kn (kX (Wh c7 (Wh c8 (VE (lE (cs:=[vS a4].toArray) d (mB Z) (ng dK er zeroValue9) λi5 f2 d=>?_)))))
  have d:=d.perm (Nr (Qb Qz) Nz)
  refine bS z λh9 e1 z=>VE (oG (enc:=yj) (v:=t) (vs:= .slice (some ⟨f2,0,none⟩) 1 1) (R:=j) d (λ_=>rfl) dc EJ dK Hw.1 Hw.2.1 Z Hw.2.2.1 Hw.2.2.2 Z Z G (Sl.lit (enc:=yj) (l:=[a4]) (λ_=>rfl) Z nb Z (d.at_ (Ma Mh))) e1 λi6 i2 f1 d d9=>Wa (lC (lD (kW ?_))))
  have d:=d.kM (Kr (Db St))
  exact ⟨i0,bB _,i2,h9,f1,_,d.kM,f4,Z,d9,z⟩
theorem PP {r:List ByteArray} (y:Sl (Pl kQ) 9 (hp qa) q0 qr) (hm:CF qr=some r) :
  mM true pg0 103 [q0] qa 9 yj 1 r:=by
 refine yd 29 func103 Z (λd=>sg (Wa (lr (Wa (lS (Wm ?_))))))
 refine V (lT aV Z y) (Wm (ln (mJ 8 7 (λi w E W=>∃g k j t,ST true lN qa W (hp qa) (j++t)∧E 3=g∧E 6=q0∧lQ 9 yj 1 g k j∧xh w k=some r) y.len ⟨vN,[],[],_,d.kM,Z,Z,lQ.nil _ _ _,hm⟩ ?_ ?_)))
 ·rintro a2 a b1 E W Q ⟨⟨h,s⟩,g,k,j,t,d,u,x,z,c⟩
  refine sg (VQ (oz (enc:=kQ) (i:=(a2:Int)) (x0:=a) aV aK x h y (aG _) Q) λa9 I=>V (kP Z (lA d.has I bK aK)) (VE (lq d cO λa3 P d=>VO (FA (h1:=ow a) ((kQ a).toArray) d aK λa4 d=>ln (kX (Wh u (Wf zY (VB d Mh Z Z bU (Wf ud (Wf sE (VB d Mh Z Z bU ?_)))))))))))
  refine Wf ph (Wf sE (VB d Mh Z Z bU (Wf vH (Wf sE (VB d Mh Z Z bU (VE (lE (cs:=#[vS a.lV,vS a.Head.kO,vS a.B.kO,vS a.C.kO]) d (VY Z Z Z Z) (ng dK er zeroValue9) λa5 N d=>?_)))))))
  have d:=d.perm (Nr (Qb (Qb Qz)) Nz)
  refine bS c λT H c=>VE (oG (enc:=yj) (v:=g) (vs:= .slice (some ⟨N,0,none⟩) 4 4) (R:=j) d (λ_=>rfl) dc EJ dK Hw.1 Hw.2.1 Z Hw.2.2.1 Hw.2.2.2 Z Z z (Sl.lit (enc:=yj) (l:=[a.lV,a.Head.kO,a.B.kO,a.C.kO]) (λ_=>rfl) Z nb Z (d.at_ (Ma Mh))) H λL U K d G=>Wa (lC (lD (kW ?_))))
  have d:=d.kM (Kr (Db (Db St)))
  exact ⟨h,s,U,T,K,_,d.kM,Z,x,G,c⟩
 rintro E W ⟨⟨h,s⟩,g,k,j,t,d,u,x,z,c⟩
 refine kW (sg (Wh u (bS c λb0 J c=>VE (rM d call145 (Sq (z.sl (λ_=>rfl) λb o q=>d.at_ (Ml q)) J) λO Y b2 M d A n D=>Wa (ln ?_)))))
 have d:=d.kM (Kr (Dr St))
 refine lB ?_
 cases sj c
 exact ma (v:=Y) Z Z ⟨_,M,Z,d.oa (λp q=>Ml q) D.nd,D⟩
theorem BO (G:Sl (Pl mw) 3 (hp qa) q0 qE) (hm:zn qE qP qC=some qt) :
  lF true pg0 104 [q0,vA (kR qP),vS qC] qa (vB qt):=by
 refine cG 26 func104 Z (λd=>sg (VE (lY d Z (λW2 K d=>Wa (lS (Wm (V (lT dr Z G) (Wm (ln ?_)))))))))
 refine mJ 11 10 (λi q E W=>∃D,ST true lN qa W (hp qa) ((K,Ol (kR qP) 53)::D)∧E 2=vS qC∧E 4=vP K∧E 9=q0∧AP qP qC q=some qt) G.len ⟨_,d.kM,Z,Z,Z,hm⟩ ?_ ?_
 ·rintro Q k z E W p ⟨⟨h,n⟩,D,d,t,u,x,c⟩
  refine sg (VQ (oz (enc:=mw) (i:=(Q:Int)) (x0:=k) dr dO x h G (aG _) p) λw N=>V (kP Z (lA d.has N iv dO)) (VE (lq d fe λs a9 d=>VO (FA (h1:=Ey k) ((mw k).toArray) d dO λv d=>lr (Wf B6 (VA d Mh (kR k.kL) bE aI (V (kP u (kV d.has (Mt Mh) (kR qP) Z bE aI)) (V (wE Z Z (nY dN) (so (rS _ k.kL qP))) (Wm ?_)))))))))
  refine LJ c (λJ E W=>∃H,ST true lN qa W (hp qa) ((K,Ol (kR qP) 53)::H)∧E 2=vS qC∧E 4=vP K∧E 9=q0∧E 10=vI (qE.length:Int)∧E 11=vI (Q:Int)∧E 24=vB J) 5 ?_ (λJ j B=>?_)
  ·rintro y E W ⟨H,d,U,Y,o,a3,a4,a5⟩ g
   refine ln (CI g a5 (λM g=>?_) λM g=>?_)
   ·refine sg (Wa (ln ?_))
    have d:=d.kM (Db St)
    refine lB (mG (ly (mG (ly ?_))))
    cases sj g
    exact rP d
   exact lU (lD (kW ⟨a4,a3,_,d.kM,U,Y,o,g⟩))
  refine bC j (λa j=>?_) (λa j=>?_)
  ·refine ug a (kU Ba Z) (ug a (kP Z (kZ d.has Mh Z bU)) (ug a (kT t) (ug a (rF Z Z Z) (V (lh (cB a) Z) ?_))))
   cases sj j
   exact B _ _ ⟨_,d.kM (Db St),t,u,x,n,h,Z⟩
  refine un a (un a (un a (un a (V (lg (cB a) Z) ?_))))
  cases sj j
  exact B _ _ ⟨_,d.kM (Db St),t,u,x,n,h,Z⟩
 rintro E W ⟨⟨h,n⟩,D,d,t,u,x,c⟩
 refine kW ?_
 have d:=d.kM (Db St)
 exact sg (Wa (lt (rQ c d)))
theorem Rt {a2:List ByteArray} (G:Sl (Pl mw) 3 (hp qa) q0 qE) (T:Sl (Pl yj) 1 (hp qa) q1 a2) (hm:D6 qE qB a2 qC=some qt) :
  lF true pg0 105 [q0,vA (kQ qB),q1,vS qC] qa (vB qt):=by
 refine cG 62 func105 Z (λd=>sg (VE (lY d Z (λW2 h d=>Wa (lS (Wf rG (VB d Mh Z Z bH (Wi Z (ln ?_)))))))))
 refine CI hm Z (λc7 hm=>?_) (λc7 hm=>?_)
 ·refine sg (Wf zY (VB d Mh Z Z bU (Wm (V (rF Z Z Z) (Wa (ln ?_))))))
  have d:=d.kM (Db St)
  refine lB (ly ?_)
  cases sj hm
  exact rP d
 refine kS (Wf rG (VB d Mh Z Z bH (Wi Z (ln (CI hm Z (λc8 hm=>?_) λc8 hm=>?_)))))
 ·refine sg (Wm (Wf ph (VA d Mh (kR qB.B) bE aI (Wm (bS hm λr5 d0 hm=>VE (Eg d call104 (BO (G.mono (Pl.mono _) d.lb) d0) λW7 d=>Wa (ln ?_)))))))
  have d:=d.kM (Db St)
  refine lB (ly ?_)
  cases sj hm
  exact rP d
 refine kS (Wf rG (VB d Mh Z Z bH (Wi Z (ln (CI hm Z (λc9 hm=>?_) λc9 hm=>?_)))))
 ·refine sg (Wm (Wf ph (VA d Mh (kR qB.B) bE aI (Wm (bS hm λr9 c4 hm=>VE (Eg d call104 (BO (G.mono (Pl.mono _) d.lb) c4) λd8 d=>Wm (LJ hm (λq E W=>∃p,ST true lN qa W (hp qa) p∧E 8=vB false∧E 40=vB q) 6 ?_ λq u U=>?_)))))))
  ·rintro e2 E W ⟨p,d,e0,c6⟩ c3
   refine Wg c6 (lt (ly ?_))
   cases sj c3
   exact rP d
  refine bC u (λc u=>?_) (λc u=>?_)
  ·refine ug c (kT Z) (ug c (kU vH Z) (ug c (kP Z (kV d.has Mh (kR qB.C) Z bE aI)) (ug c (kT Z) (bS u λe1 c5 u=>sh c (Eg d call104 (BO (G.mono (Pl.mono _) d.lb) c5) λd9 d=>V (lh (cB c) Z) ?_)))))
   cases sj u
   exact U _ _ ⟨_,d.kM (Db St),Z,Z⟩
  refine un c (un c (un c (un c (un c (V (lg (cB c) Z) ?_)))))
  cases sj u
  exact U _ _ ⟨_,d.kM (Db St),Z,Z⟩
 refine kS (Wm (V (lT dK Z T) (Wm (ln (mJ 43 42 (λi js E W=>∃Q,ST true lN qa W (hp qa) ((h,Ol (kQ qB) 55)::Q)∧E 0=q0∧E 3=vS qC∧E 5=vP h∧E 41=q1∧zj qE qB qC js=some qt) T.len ⟨_,d.kM,Z,Z,Z,Z,hm⟩ ?_ ?_)))))
 ·rintro o z d1 E W A ⟨⟨k,n⟩,Q,d,B,I,D,J,g⟩
  refine sg (VQ (oz (enc:=yj) (i:=(o:Int)) (x0:=z) dK er J k T (aG _) A) λd4 t=>V (kP Z (rz d.has (y:=vS z) t bU)) (Wa (lr (Wh B (V (kU ph D) (VA d Mh (kR qB.B) bE aI (Wm (bS g λd5 w g=>VE (Eg d call104 (BO (G.mono (Pl.mono _) d.lb) w) λd2 d=>?_)))))))))
  refine Wm (LJ g (λa4 E W=>∃Y,ST true lN qa W (hp qa) ((h,Ol (kQ qB) 55)::Y)∧E 0=q0∧E 3=vS qC∧E 5=vP h∧E 41=q1∧E 42=vI (a2.length:Int)∧E 43=vI (o:Int)∧E 60=vB a4) 8 ?_ λa4 j N=>?_)
  ·rintro d7 E W ⟨Y,d,L,M,O,P,R,c1,c2⟩ x
   refine ln (CI x c2 (λs x=>?_) λs x=>?_)
   ·refine sg (Wa (ln ?_))
    have d:=d.kM (Db St)
    refine lB (mG (ly (mG (ly ?_))))
    cases sj x
    exact rP d
   exact lU (lD (kW ⟨c1,R,_,d.kM,L,M,O,P,x⟩))
  refine bC j (λa j=>?_) (λa j=>?_)
  ·refine ug a (kT B) (ug a (kT Z) (ug a (kU yc D) (ug a (kP Z (kZ d.has Mh Z bU)) (ug a (lX (v:=vA (kR (⟨z,qB.lW⟩:kL))) (pF Z Z) (lG cY dl (Kc _ dl) kr)) (ug a (kT I) (bS j λd6 a9 j=>sh a (Eg d call104 (BO (G.mono (Pl.mono _) d.lb) a9) λd3 d=>V (lh (cB a) Z) ?_)))))))
   cases sj j
   exact N _ _ ⟨_,d.kM,B,I,D,J,n,k,Z⟩
  refine un a (un a (un a (un a (un a (un a (un a (V (lg (cB a) Z) ?_)))))))
  cases sj j
  exact N _ _ ⟨_,d.kM,B,I,D,J,n,k,Z⟩
 rintro E W ⟨⟨k,n⟩,Q,d,B,I,D,J,g⟩
 refine kW ?_
 have d:=d.kM (Db St)
 exact sg (Wa (lt (rQ g d)))
theorem JU (j k:lx) (r:Bool) (w:World) (hm:yy j k=some r) :
  lF true pg0 146 [vA (mw j),vA (mw k)] w (vB r):=by
 refine cG 24 func146 Z (λd=>sg (VE (lY d Z (λY n d=>VE (lY d Z (λh o d=>Wa (lr (Wf B6 (VA d (Mt Mh) (kR j.kL) bE aI (Wf B6 (VA d Mh (kR k.kL) bE aI (bS hm λN M hm=>?_))))))))))))
 refine VE (Eg d call115 (D2 j.kL k.kL _ _  M) λW7 d=>Wm (LJ hm (λz E W=>∃x,ST true lN w W (hp w) x∧E 4=vB false∧E 23=vB z) 13 ?_ λz g t=>?_))
 ·rintro T E W ⟨x,d,Q,H⟩ D
  exact Wg H (lt (rQ D d))
 refine bC g (λa g=>?_) (λa g=>?_)
 ·refine un a (un a (un a (un a (un a (un a (Vu Z Z (Vu Z Z (Vu Z Z (Vu Z Z (Vu Z Z (un a (V (lh (cB a) Z) ?_))))))))))))
  cases sj g
  exact t _ _ ⟨_,d.kM (Db (Db St)),Z,Z⟩
 refine ug a (kU B6 Z) (ug a (kP Z (kV d.has (Mt Mh) (kR j.kL) Z bE aI)) (ug a (kU B6 Z) (ug a (kP Z (kV d.has Mh (kR k.kL) Z bE aI)) (ug a (wE Z Z (nY dN) (so (rS _ j.kL k.kL))) (ug a (kT Z) (LJ g (λB E W=>∃y,ST true lN w W (hp w) y∧E 4=vB false∧E 10=vB N∧E 22=vB B) 6 ?_ λB i u=>?_))))))
 ·rintro U E W ⟨y,d,I,J,K⟩ G
  refine V (lg (J.trans (cB a)) K) ?_
  cases sj G
  exact t _ _ ⟨_,d.kM,I,Z⟩
 refine bC i (λc i=>?_) (λc i=>?_)
 ·refine ug c (kU Ba Z) (ug c (kP Z (kZ d.has (Mt Mh) Z bU)) (ug c (kU Ba Z) (ug c (kP Z (kZ d.has Mh Z bU)) (ug c (rF Z Z Z) (ug a (lh (cB c) Z) ?_)))))
  cases sj i
  exact u _ _ ⟨_,d.kM (Db (Db St)),Z,Z,Z⟩
 refine un c (un c (un c (un c (un c (ug a (lg (cB c) Z) ?_)))))
 cases sj i
 exact u _ _ ⟨_,d.kM (Db (Db St)),Z,Z,Z⟩
theorem OI (U:Sl (Pl mw) 3 (hp qa) q0 qE) (hm:EH qE=some qF) :
  mM true pg0 106 [q0] qa 171 mw 3 qF:=by
 refine yd 56 func106 Z (λn=>sg (Wa (lr (Wa (lS (Wm ?_))))))
 refine V (lT dr Z U) (Wm (ln (mJ 9 8 (λi js E W=>∃y N x a9,ST true lN qa W (hp qa) (x++a9)∧E 0=q0∧E 3=y∧lQ 171 mw 3 y N x∧sQ qE js N=some qF) U.len ⟨vN,[],[],_,n.kM,Z,Z,lQ.nil _ _ _,hm⟩ ?_ ?_)))
 ·rintro a6 k6 k5 E W j6 ⟨⟨o,w⟩,y,N,x,a9,n,P,b2,z,I⟩
  refine sg (Wa (lS (Wh P (V (lT dr Z U) (Wm (ln (CJ I (λc5 E W=>∃c8,ST true lN qa W (hp qa) (x++c8)∧E 0=q0∧E 3=y∧E 4=vI c5∧E 8=vI (qE.length:Int)∧E 9=vI (a6:Int)) (λc5 f2=>?_) ?_)))))))
  ·let g5:Value:=(vI (a6:Int))
   let q:Value:=vI (qE.length:Int)
   refine mJ 13 12 (λi js E W=>∃B O,ST true lN qa W (hp qa) (x++O)∧E 0=q0∧E 3=y∧E 4=vI B∧E 8=q∧E 9=g5∧E 11=q0∧sS N qE js i B=some c5) U.len ⟨-1,_,n.kM,P,b2,Z,w,o,Z,f2⟩ ?_ ?_
   ·rintro D j i7 E W g1 ⟨⟨o,w⟩,B,O,n,A,H,G,a2,a3,a4,J⟩
    let b8:Value:=vI (D:Int)
    refine sg (Wh o (VQ (oz (enc:=mw) (i:=(D:Int)) (x0:=j) dr dO a4 o U (aG _) g1) λj8 f6=>V (kP Z (lA n.has f6 iv dO)) (VE (lq n fe λj0 Y n=>Wa (VO (FA (h1:=Ey j) ((mw j).toArray) n dO λj3 n=>ln (kY ?_)))))))
    have n:=n.drew
    have d:=n.has.kM (Kb (Kr Sn))
    refine mh d lM (X 0 Z d (kT H) (X 1 Z d (pe dr Z z) (X 2 Z d (lI Z Z Z) (X 3 Z d (kT Z) (PJ J (λe5 E W=>∃c9,ST true lN qa W (hp qa) ((Y,Ol (mw j) 171)::(x++c9))∧E 0=q0∧E 3=y∧E 4=vI B∧E 5=b8∧E 6=vP Y∧E 8=q∧E 9=g5∧E 11=q0∧E 12=q∧E 13=b8∧E 30=vB e5) (bm 25 8191) 12 ?_ λe5 u c4=>?_)))))
    ·rintro i5 E W ⟨c9,n,a5,b4,Q,b5,g4,b6,b7,b9,c0,c1,g7⟩ f3
     have d:=n.has.kM (Kb (Kr Sn))
     refine X 13 Z d (kT g7) (PJ f3 (λe3 E W=>∃d0,ST true lN qa W (hp qa) ((Y,Ol (mw j) 171)::(x++d0))∧E 0=q0∧E 3=y∧E 4=vI B∧E 5=b8∧E 8=q∧E 9=g5∧E 11=q0∧E 12=q∧E 13=b8∧E 42=vB e3) (bm 25 33554431) 0 ?_ λe3 M c2=>?_)
     ·rintro k3 E W ⟨d0,n,d6,d7,g8,g9,d8,d9,e0,e1,e2,h0⟩ K
      refine ml kr (kW ?_)
      have n:=n.kM (Db St)
      refine CI K h0 (λf1 K=>?_) (λf1 K=>?_)
      ·exact kX (Wh g9 (Wa (lC (lD (kW ⟨e2,e1,(D:Int),_,n.kM,d6,d7,Z,d8,d9,e0,K⟩)))))
      exact lU (lD (kW ⟨e2,e1,B,_,n.kM,d6,d7,g8,d8,d9,e0,K⟩))
     refine bC M (λg M=>?_) (λg M=>?_)
     ·refine Xg 14 Z Z (cB g) d (kT Q) (Xg 15 Z Z (cB g) d (lI Z Z Z) (Xg 16 Z Z (cB g) d (kT Z) (PJ M (λe4 E W=>∃d1,ST true lN qa W (hp qa) ((Y,Ol (mw j) 171)::(x++d1))∧E 0=q0∧E 3=y∧E 4=vI B∧E 5=b8∧E 8=q∧E 9=g5∧E 11=q0∧E 12=q∧E 13=b8∧E 31=vB i5∧E 41=vB e4) (bm 25 16777215) 1 ?_ λe4 t c3=>?_)))
      ·rintro k4 E W ⟨d1,n,h1,h2,h3,h4,h5,h6,h7,h8,h9,i0,i1⟩ f4
       have d:=n.has.kM (Kb (Kr Sn))
       refine X 24 Z d (lh (i0.trans (cB g)) i1) ?_
       cases sj f4
       refine nr kr (c2 _ _ ⟨_,n.kM,h1,h2,h3,h4,h5,h6,h7,h8,h9,Z⟩)
      refine bC t (λc t=>?_) (λc t=>?_)
      ·refine Xn 17 Z Z (cB c) d (Xn 18 Z Z (cB c) d (Xn 19 Z Z (cB c) d (Xn 20 Z Z (cB c) d (Xn 21 Z Z (cB c) d (Xn 22 Z Z (cB c) d (Xg 23 Z Z (cB g) d (lh (cB c) Z) ?_))))))
       cases sj t
       refine nr kr (c3 _ _ ⟨_,n.kM,a5,b4,Q,b5,b6,b7,b9,c0,c1,Z,Z⟩)
      refine uq 17 Z Z (cB c) d (λ_ s=>kP g4 (kV s Mh (mw j) Z iv dO)) (Xg 18 Z Z (cB c) d (kT a5) (Xg 19 Z Z (cB c) d (kT Q) (bS t λe6 c7 t=>vq 20 Z kr (.inr ⟨16,false,34,Z,Z,fs,cB c⟩) Z dc (λ_ _ h=>h) d (oz (enc:=mw) (i:=B) (x0:=e6) dr dO Z Z U (lR c7) (lK c7)) λj9 f7=>uq 21 Z Z (cB c) d (λ_ s=>kP Z (lA s f7 iv dO)) (bS t λk1 f9 t=>Al 22 Z Z (cB c) (Eg n call146 (JU j e6 _ _  f9) λj4 n=>?_)))))
      have d:=n.has.kM (Kb (Kr Sn))
      refine ⟨d,Xg 23 Z Z (cB g) d (lg (cB c) Z) ?_⟩
      cases sj t
      refine nr kr (c3 _ _ ⟨_,n.kM,a5,b4,Q,b5,b6,b7,b9,c0,c1,Z,Z⟩)
     refine Xn 14 Z Z (cB g) d (Xn 15 Z Z (cB g) d (Xn 16 Z Z (cB g) d (Xu 17 Z Z Z d (Xu 18 Z Z Z d (Xu 19 Z Z Z d (Xu 20 Z Z Z d (Xu 21 Z Z Z d (Xu 22 Z Z Z d (Xn 23 Z Z (cB g) d (X 24 Z d (lg (cB g) Z) ?_))))))))))
     cases sj M
     refine nr kr (c2 _ _ ⟨_,n.kM,a5,b4,Q,b5,b6,b7,b9,c0,c1,Z⟩)
    refine bC u (λa u=>?_) (λa u=>?_)
    ·refine Xn 4 Z Z (cB a) d (Xn 5 Z Z (cB a) d (Xn 6 Z Z (cB a) d (Xn 7 Z Z (cB a) d (Xn 8 Z Z (cB a) d (Xn 9 Z Z (cB a) d (Xn 10 Z Z (cB a) d (Xn 11 Z Z (cB a) d (X 12 Z d (lh (cB a) Z) ?_))))))))
     cases sj u
     refine nr kr (c4 _ _ ⟨_,n.kM,A,H,G,Z,Z,a2,a3,a4,w,o,Z⟩)
    refine Xg 4 Z Z (cB a) d (kT H) (Xg 5 Z Z (cB a) d (kT H) (Xg 6 Z Z (cB a) d (pe dr Z z) (Xg 7 Z Z (cB a) d (lI Z Z Z) (bS u λe7 L u=>vq 8 Z kr (.inr ⟨3,false,21,Z,Z,fs,cB a⟩) Z dc (λ_ _ h=>h) d (oF (i:=wi0 .i64 ((N.length:Int)-1)) (x0:=e7) dr dO Z Z z (lR L) (lK L)) λk0 f8=>uq 9 Z Z (cB a) d (λ_ s=>kP Z (uh s (λp hq=>Mt (Ml hq)) z wq f8 (lK L) iv dO)) (uq 10 Z Z (cB a) d (λ_ s=>kP Z (kV s Mh (mw j) Z iv dO)) (bS u λk2 g0 u=>Al 11 Z Z (cB a) (Eg n call146 (JU e7 j _ _  g0) λj5 n=>?_)))))))
    have d:=n.has.kM (Kb (Kr Sn))
    refine ⟨d,X 12 Z d (lg (cB a) Z) ?_⟩
    cases sj u
    refine nr kr (c4 _ _ ⟨_,n.kM,A,H,G,Z,Z,a2,a3,a4,w,o,Z⟩)
   rintro E W ⟨⟨o,w⟩,B,O,n,A,H,G,a2,a3,a4,J⟩
   refine kW ?_
   cases sj J
   exact ⟨_,n.kM,A,H,G,a2,a3⟩
  rintro i4 E W ⟨c8,n,b3,d2,d3,d4,d5⟩ k
  refine sg (Wh d3 (Wi Z (ln (CI k Z (λe9 k=>?_) λe9 k=>?_))))
  ·refine kX (Wh d2 (Wh b3 (Wh d3 (bS k λT c6 k=>VQ (oz (enc:=mw) (i:=i4) (x0:=T) dr dO Z Z U (lR c6) (lK c6)) λj7 f5=>V (kP Z (lA n.has f5 iv dO)) (VE (lE (cs:=(mw T).toArray) n (mB Z) (ng dr dO fe) λi8 g3 n=>?_))))))
   have n:=n.perm (Nr (Qb Qz) Nz)
   refine bS k λi2 f0 k=>VE (oG (enc:=mw) (v:=y) (vs:= .slice (some ⟨g3,0,none⟩) 1 1) (R:=x) n wq dc Ey dr yX.1 yX.2.1 Z yX.2.2.1 yX.2.2.2 Z Z z (Sl.lit (enc:=mw) (l:=[T]) wq Z nb Z (n.at_ (Ma Mh))) f0 λi9 i3 g2 n e8=>Wa (lC (lD (kW ?_))))
   have n:=n.kM (Kr (Db St))
   exact ⟨d5,d4,i3,i2,g2,_,n.kM,b3,Z,e8,k⟩
  exact lU (lD (kW ⟨d5,d4,y,N,x,_,n.kM,b3,d2,z,k⟩))
 rintro E W ⟨⟨o,w⟩,y,N,x,a9,n,P,b2,z,I⟩
 refine kW (sg (Wh b2 (Wa (lt ?_))))
 cases sj I
 exact ma (v:=y) Z Z ⟨_,x,Z,n.oa (λp hq=>Ml hq) z.nd,z⟩
theorem UW (k2:Sl (Pl kQ) 9 (hp qa) q0 qr) (hm:BQ qr=some qE) :
  mM true pg0 54 [q0] qa 171 mw 3 qE:=by
 refine yd 53 func54 Z (λd=>sg (Wa (lr (Wm (bS hm λr1 l4 hm=>VE (rM d call31 (ET (k2.mono (Pl.mono _) d.lb) l4) λW3 v7 ad R8 d m4 ab f1=>Wa (ln (kY ?_))))))))
 refine kX (Wm (bS hm λf4 k4 hm=>VE (rM d call103 (PP (f1.sl mL λb o h=>d.at_ (Ml h)) k4) λm6 n d5 d0 d m3 aa w=>Wa (lr (Wa (ln (tW (mA (nQ (λm E W=>∃b9 b7 b6 d6,ST true lN qa W d5 (b6++(d0++(R8++d6)))∧E 3=v7∧E 4=n∧E 5=b9∧lQ 171 mw 3 b9 b7 b6∧zb f4 r1 m b7=some qE) lP ⟨vN,[],[],_,d.kM,Z,Z,Z,lQ.nil _ _ _,hm⟩ ?_)))))))))
 rintro m E W ⟨b9,b7,b6,d6,d,e0,h6,h7,j3,Y⟩
 cases m with
 | zero=>rw [zb] at Y; cases Y
 | succ j6=>
  refine bg (Wa (lS (Wh e0 (V (pe aV Z f1) (Wm (ln (CJ Y (λb1 E W=>∃T L d7,ST true lN qa W d5 (L++(d0++(R8++d7)))∧E 3=v7∧E 4=n∧E 5=T∧E 6=vB b1.2∧lQ 171 mw 3 T b1.1 L) (λb1 g2=>?_) ?_)))))))
  ·refine mJ 17 16 (λi js E W=>∃J Q G U c0,ST true lN qa W d5 (G++(d0++(R8++c0)))∧E 3=v7∧E 4=n∧E 5=J∧E 6=vB U∧E 15=v7∧lQ 171 mw 3 J Q G∧A6 f4 js Q U=some b1) f1.len ⟨b9,b7,b6,false,_,d.kM,e0,h6,h7,Z,Z,j3,g2⟩ ?_ ?_
   ·rintro b0 a k5 E W d3 ⟨⟨q,s⟩,J,Q,G,U,c0,d,c2,a3,c3,c4,c5,b5,I⟩
    refine sg (VQ (oF (i:=(b0:Int)) (x0:=a) aV aK c5 q f1 (aG _) d3) λl5 g7=>V (kP Z (uh d.has (λp h=>Ma (Ma (Ml h))) f1 mL g7 d3 bK aK)) (VE (lq d cO λk8 a2 d=>VO (FA (h1:=ow a) ((kQ a).toArray) d aK λk9 d=>lr (Wh a3 (V (pe dK Z w) (Wm (ln ?_))))))))
    let b8:Value:=vI (r1.length:Int)
    refine tW (CJ I (λb2 E W=>∃b3 O d8,ST true lN qa W d5 (O++(d0++(R8++d8)))∧E 3=v7∧E 4=n∧E 5=b3∧E 6=vB b2.2∧E 15=v7∧E 16=b8∧E 17=vI (b0:Int)∧lQ 171 mw 3 b3 b2.1 O) (λb2 g4=>?_) ?_)
    ·refine mJ 23 22 (λi js E W=>∃j D z K c1,ST true lN qa W d5 ((a2,Ol (kQ a) 55)::(z++(d0++(R8++c1))))∧E 3=v7∧E 4=n∧E 5=j∧E 6=vB K∧E 8=vP a2∧E 15=v7∧E 16=b8∧E 17=vI (b0:Int)∧E 21=n∧lQ 171 mw 3 j D z∧zf a f4 js D K=some b2) w.len ⟨J,Q,G,U,_,d.kM,c2,a3,c3,c4,Z,c5,s,q,Z,b5,g4⟩ ?_ ?_
     ·rintro f2 g k6 E W d4 ⟨⟨q,s⟩,j,D,z,K,c1,d,a4,M,H,a5,N,P,a7,a8,a9,B,t⟩
      refine sg (VQ (oF (i:=(f2:Int)) (x0:=g) dK er a9 q w (aG _) d4) λl6 g8=>V (kP Z (Da d.has (λp h=>Mt (Ma (Ml h))) w (λ_=>rfl) g8 d4 (y:=vS g) Z bU)) (Wa (lr (Wh H (V (kU ud N) (VA d Mh (kR a.Head) bE aI (Wm (bS t λl8 h0 t=>VE (Eg d call104 (BO (B.sl wq λb o h=>d.at_ (Mt (Ml h))) h0) λl0 d=>?_)))))))))
      refine V (nt Z) (Wm (LJ t (λf5 E W=>∃d9,ST true lN qa W d5 ((a2,Ol (kQ a) 55)::(z++(d0++(R8++d9))))∧E 3=v7∧E 4=n∧E 5=j∧E 6=vB K∧E 8=vP a2∧E 10=vS g∧E 15=v7∧E 16=b8∧E 17=vI (b0:Int)∧E 21=n∧E 22=vI (f4.length:Int)∧E 23=vI (f2:Int)∧E 39=vB f5) 6 ?_ λf5 x c8=>?_))
      ·rintro m1 E W ⟨d9,d,e2,e3,e4,i8,c6,i9,e5,e6,e7,e8,e9,f0,j0⟩ u
       refine ln (CI u j0 (λg0 u=>?_) λg0 u=>?_)
       ·refine sg (Wh e4 (V (kU ud c6) (VA d Mh (kR a.Head) bE aI (Wh i9 (V (lX (v:=vA (mw (⟨a.Head,g⟩:lx))) (pF Z Z) (lG fe fg (UQ _ fg) kr)) (VE (lE (cs:=(mw (⟨a.Head,g⟩:lx)).toArray) d (mB Z) (ng dr dO fe) λl1 h5 d=>?_)))))))
        have d:=d.perm (Nr (Qb (Qb Qz)) Nz)
        refine bS u λj5 g1 u=>VE (oG (enc:=mw) (v:=j) (vs:= .slice (some ⟨h5,0,none⟩) 1 1) (R:=z) d wq dc Ey dr yX.1 yX.2.1 Z yX.2.2.1 yX.2.2.2 Z Z B (Sl.lit (enc:=mw) (l:=[(⟨a.Head,g⟩:lx)]) wq Z nb Z (d.at_ (Ma Mh))) g1 λl2 j9 h4 d f8=>Wa (ln ?_))
        have d:=d.kM (Kr (Db St))
        exact kX (Wa (lC (lD (kW ⟨f0,e9,j9,j5,h4,true,_,d.kM (Sb (Pr Pz) St),e2,e3,Z,Z,c6,e5,e6,e7,e8,f8,u⟩))))
       exact lU (lD (kW ⟨f0,e9,j,D,z,K,_,d.kM,e2,e3,e4,i8,c6,e5,e6,e7,e8,B,u⟩))
      refine bC x (λc x=>?_) (λc x=>?_)
      ·refine ug c (kT H) (ug c (kP N (kV d.has Mh (kQ a) Z bK aK)) (ug c (kT M) (ug c (kT Z) (bS x λl9 h1 x=>sh c (Eg d call105 (Rt (B.sl wq λb o h=>d.at_ (Mt (Ml h))) (w.sl (λ_=>rfl) λb o h=>d.at_ (Mt (Ma (Ml h)))) h1) λl3 d=>V (lh (cB c) Z) ?_)))))
       cases sj x
       exact c8 _ _ ⟨_,d.kM,a4,M,H,a5,N,Z,P,a7,a8,a9,s,q,Z⟩
      refine un c (un c (un c (un c (un c (V (lg (cB c) Z) ?_)))))
      cases sj x
      exact c8 _ _ ⟨_,d.kM,a4,M,H,a5,N,Z,P,a7,a8,a9,s,q,Z⟩
     rintro E W ⟨⟨q,s⟩,j,D,z,K,c1,d,a4,M,H,a5,N,P,a7,a8,a9,B,t⟩
     refine kW ?_
     cases sj t
     exact ⟨j,z,_,d.kM (Db St),a4,M,H,a5,P,a7,a8,B⟩
    rintro ⟨j4,k0⟩ E W ⟨b3,O,d8,d,i1,i2,i3,i4,i5,i6,i7,h2⟩ g3
    exact lD (kW ⟨i7,i6,b3,j4,O,k0,_,d.kM,i1,i2,i3,i4,i5,h2,g3⟩)
   rintro E W ⟨⟨q,s⟩,J,Q,G,U,c0,d,c2,a3,c3,c4,c5,b5,I⟩
   refine kW ?_
   cases sj I
   exact ⟨J,G,_,d.kM,c2,a3,c3,c4,b5⟩
  rintro ⟨f3,m0⟩ E W ⟨T,L,d7,d,h8,h9,e1,i0,d2⟩ k
  refine sg (Wh i0 (V (nt Z) (ln (CI k Z (λf9 k=>?_) λf9 k=>?_))))
  ·refine sg (Wh e1 (bS k λl7 g9 k=>VE (rM d call106 (OI (d2.sl wq λb o h=>d.at_ (Ml h)) g9) λk7 j8 m2 h3 d k3 A d1=>Wa (ln ?_))))
   have d:=d.kM (Kr (Dr (Dr (Dr St))))
   refine lB (mG (ly (mG (ly ?_))))
   cases sj k
   exact ma (v:=j8) Z Z ⟨_,h3,Z,d.oa (λp h=>Ml h) d1.nd,d1⟩
  exact lU (lD (kW ⟨j6,bB _,T,f3,L,_,d.kM,h8,h9,e1,d2,k⟩))
theorem PA (B:Sl (Pl mw) 3 (hp qa) q0 qE) (hm:AO qE qC=some qz) :
  mM true pg0 53 [q0,vS qC] qa 53 kR 2 qz:=by
 refine yd 25 func53 Z (λd=>sg (Wa (lr (Wa (lS (Wm ?_))))))
 refine V (lT dr Z B) (Wm (ln (mJ 10 9 (λi s E W=>∃k y g z,ST true lN qa W (hp qa) (g++z)∧E 1=vS qC∧E 5=k∧E 8=q0∧lQ 53 kR 2 k y g∧uT qC s y=some qz) B.len ⟨vN,[],[],_,d.kM,Z,Z,Z,lQ.nil _ _ _,hm⟩ ?_ ?_)))
 ·rintro o c G E W Q ⟨⟨h,n⟩,k,y,g,z,d,t,u,x,j,a⟩
  refine sg (VQ (oz (enc:=mw) (i:=(o:Int)) (x0:=c) dr dO x h B (aG _) Q) λA K=>V (kP Z (lA d.has K iv dO)) (VE (lq d fe λa2 w d=>VO (FA (h1:=Ey c) ((mw c).toArray) d dO λa3 d=>lr (Wf Ba (VB d Mh Z Z bU (Wh t (V (rF Z Z Z) (lC ?_)))))))))
  refine kW (CI a Z (λI a=>?_) λI a=>?_)
  ·refine kX (Wh u (Wf B6 (VA d Mh (kR c.kL) bE aI (VE (lE (cs:=(kR c.kL).toArray) d (mB Z) (ng bD aI cY) λa4 N d=>?_)))))
   have d:=d.perm (Nr (Qb (Qb Qz)) Nz)
   refine bS a λT J a=>VE (oG (enc:=kR) (v:=k) (vs:= .slice (some ⟨N,0,none⟩) 1 1) (R:=g) d ox dc oQ bD rH.1 rH.2.1 Z rH.2.2.1 rH.2.2.2 Z Z j (Sl.lit (enc:=kR) (l:=[c.kL]) ox Z nb Z (d.at_ (Ma Mh))) J λa5 U M d H=>Wa (lC (lD (kW ?_))))
   have d:=d.kM (Kr (Db (Db St)))
   exact ⟨h,n,U,T,M,_,d.kM,t,Z,x,H,a⟩
  refine lU (lD (kW ?_))
  have d:=d.kM (Db St)
  exact ⟨h,n,k,y,g,_,d.kM,t,u,x,j,a⟩
 rintro E W ⟨⟨h,n⟩,k,y,g,z,d,t,u,x,j,a⟩
 refine kW (sg (Wh u (Wa (lt ?_))))
 cases sj a
 exact ma (v:=k) Z Z ⟨_,g,Z,d.oa (λp q=>Ml q) j.nd,j⟩
theorem J8 (G:Formula→Option Int) (J:∀(j:Formula) (g:Value) (r:Int) (w:World) (c:Sl kN 5 (hp w) g j.Kids),G j=some r→lF false pg0 183 [vA [vI j.Op,vI j.K,vS j.kL.kO,vS j.kL.Word,g]] w (vI r)) (j:Formula) (g:Value) (r:Int) (w:World) (c:Sl kN 5 (hp w) g j.Kids) (hm:BF G j=some r) :
  lF false pg0 183 [vA [vI j.Op,vI j.K,vS j.kL.kO,vS j.kL.Word,g]] w (vI r):=by
 refine cG 19 func183 Z (λd=>sg ?_)
 obtain ⟨N,Q,rfl⟩:=c.form
 refine VE (lY d Z (λW4 s d=>Wa (lr (Wa (lS (Wf pG (VB d Mh Z Z ei (V (lT aD Z c) ?_))))))))
 refine Wm (ln ?_)
 have d:=d.kM (Db St)
 refine mJ 9 8 (λi o E W=>∃x z,ST false lN w W (hp w) z∧E 3=vI x∧E 7= .slice N j.Kids.length Q∧xb G o x=some r) c.len ⟨1,_,d.kM,Z,Z,hm⟩ ?_ ?_
 ·rintro T a a4 E W K ⟨⟨h,n⟩,x,z,d,B,D,k⟩
  refine sg (VQ (my (i:=(T:Int)) (x0:=a) kN.out aD aC D h c (aG _) K) λa2 ⟨_,⟨a3,rfl,y⟩,H⟩=>V (kP Z (lA d.has H aR aC)) (VE (lq d aU λU q d=>?_)))
  obtain ⟨t,u,rfl⟩:=y.form
  let a0:=C1 a.Op a.K a.kL.kO a.kL.Word t a.Kids.length u
  refine VO (FA a0.toArray d aC λY d=>ln (kX (Wh B (VA d Mh a0 aR aC (bS k λM I k=>VE (Eg d call183 (J a (.slice t a.Kids.length u) _ _ (y.mono lc.mono d.lb) I) λp d=>Wi Z (Wa (lC (lD (kW ?_))))))))))
  have d:=d.kM (Db St)
  exact ⟨h,n,wi0 .i64 (x+M),_,d.kM,Z,D,k⟩
 rintro E W ⟨⟨h,n⟩,x,z,d,B,D,k⟩
 exact kW (sg (Wh B (Wa (lt (rQ k d)))))
theorem Jd:∀(n:Nat) (c:Formula) (a:Value) (r:Int) (w:World) (g:Sl kN 5 (hp w) a c.Kids) (_:wv n c=some r),
  lF false pg0 183 [vA [vI c.Op,vI c.K,vS c.kL.kO,vS c.kL.Word,a]] w (vI r)
 | 0=>by intros; rename_i h; simp only [wv] at h; cases h
 | n+1=>J8 (wv n) (Jd n)
theorem Le (I:Formula→Option Int) (M:∀(j:Formula) (g:Value) (r:Int) (w:World) (c:Sl kN 5 (hp w) g j.Kids),I j=some r→lF false pg0 184 [vA [vI j.Op,vI j.K,vS j.kL.kO,vS j.kL.Word,g]] w (vI r)) (j:Formula) (g:Value) (r:Int) (w:World) (c:Sl kN 5 (hp w) g j.Kids) (hm:Ck I j=some r) :
  lF false pg0 184 [vA [vI j.Op,vI j.K,vS j.kL.kO,vS j.kL.Word,g]] w (vI r):=by
 refine cG 20 func184 Z (λd=>sg ?_)
 obtain ⟨Q,T,rfl⟩:=c.form
 refine VE (lY d Z (λW4 s d=>Wa (lr (Wa (lS (Wf pG (VB d Mh Z Z ei (V (lT aD Z c) ?_))))))))
 refine Wm (ln ?_)
 have d:=d.kM (Db St)
 refine mJ 9 8 (λi o E W=>∃u B,ST false lN w W (hp w) B∧E 3=vI u∧E 7= .slice Q j.Kids.length T∧xH I o u=some r) c.len ⟨0,_,d.kM,Z,Z,hm⟩ ?_ ?_
 ·rintro U a a5 E W N ⟨⟨h,n⟩,u,B,d,D,G,t⟩
  refine sg (VQ (my (i:=(U:Int)) (x0:=a) kN.out aD aC G h c (aG _) N) λa3 ⟨_,⟨a4,rfl,z⟩,J⟩=>V (kP Z (lA d.has J aR aC)) (VE (lq d aU λY a2 d=>?_)))
  obtain ⟨x,y,rfl⟩:=z.form
  let a0:=C1 a.Op a.K a.kL.kO a.kL.Word x a.Kids.length y
  refine VO (FA a0.toArray d aC λp d=>ln (kX (Wh D (VA d Mh a0 aR aC (bS t λH K t=>VE (Eg d call184 (M a (.slice x a.Kids.length y) _ _ (z.mono lc.mono d.lb) K) λq d=>V (Wr (k:=.i64) Z Z) (Wa (lC (lD (kW ?_))))))))))
  have d:=d.kM (Db St)
  exact ⟨h,n,(if H > u then H else u),_,d.kM,Z,G,t⟩
 rintro E W ⟨⟨h,n⟩,u,B,d,D,G,t⟩
 exact kW (sg (Wh D (Wi Z (Wa (lt (rQ t d))))))
theorem JP:∀(n:Nat) (c:Formula) (a:Value) (r:Int) (w:World) (g:Sl kN 5 (hp w) a c.Kids) (_:xr n c=some r),
  lF false pg0 184 [vA [vI c.Op,vI c.K,vS c.kL.kO,vS c.kL.Word,a]] w (vI r)
 | 0=>by intros; rename_i h; simp only [xr] at h; cases h
 | n+1=>Le (xr n) (JP n)
set_option maxHeartbeats 4000000 in
theorem Ld (d8:Formula→Option Bool) (i6:∀(a:Formula) (x:Value) (r:Bool) (w:World) (j:Sl kN 5 (hp w) x a.Kids),d8 a=some r→lF false pg0 185 [vA [vI a.Op,vI a.K,vS a.kL.kO,vS a.kL.Word,x]] w (vB r)) (a:Formula) (x:Value) (r:Bool) (w:World) (j:Sl kN 5 (hp w) x a.Kids) (hm:Cg d8 a=some r) :
  lF false pg0 185 [vA [vI a.Op,vI a.K,vS a.kL.kO,vS a.kL.Word,x]] w (vB r):=by
 refine cG 81 func185 Z (λd=>sg ?_)
 obtain ⟨A1,c2,rfl⟩:=j.form
 let b8:=C1 a.Op a.K a.kL.kO a.kL.Word A1 a.Kids.length c2
 refine VE (lY d Z (λW4 H d=>Wa (lr (Wf pG (VB d Mh Z Z ei (V (lT aD Z j) (Wa (lS ?_))))))))
 refine Wf pD (VB d Mh Z Z bH (Wi Z (ln (CI hm Z (λj7 hm=>?_) λj7 hm=>?_))))
 ·refine sg (Wf yB (VA d Mh (kR a.kL) bE aI (bS hm λr6 j8 hm=>VE (Eg d call113 (lF.mF (AT a.kL _ _  j8)) λW8 d=>Wm (LJ hm (λg9 E W=>∃f6,ST false lN w W (hp w) ((H,Ol b8 62)::f6)∧E 1=vP H∧E 2=vB false∧E 18=vB g9) 3 ?_ λg9 p c8=>?_)))))
  ·rintro l2 E W ⟨f6,d,i8,g2,i9⟩ i1
   refine Wh i9 (LJ i1 (λg8 E W=>∃f7,ST false lN w W (hp w) f7∧E 2=vB false∧E 23=vB g8) 4 ?_ λg8 a5 c7=>?_)
   ·rintro l3 E W ⟨f7,d,l1,j0⟩ i2
    refine Wg j0 (lt (ly ?_))
    cases sj i2
    exact rP d
   refine bC a5 (λB a5=>?_) (λB a5=>?_)
   ·refine ug B (kU wO i8) (ug B (kP Z (kZ d.has Mh Z bH)) (ug B (lI Z Z Z) (V (lh (cB B) Z) ?_)))
    cases sj a5
    exact c7 _ _ ⟨_,d.kM (Db St),g2,Z⟩
   refine un B (un B (un B (V (lg (cB B) Z) ?_)))
   cases sj a5
   exact c7 _ _ ⟨_,d.kM (Db St),g2,Z⟩
  refine bC p (λa4 p=>?_) (λa4 p=>?_)
  ·refine ug a4 (kT Z) (ug a4 (lI Z Z Z) (V (lh (cB a4) Z) ?_))
   cases sj p
   exact c8 _ _ ⟨_,d.kM,Z,Z,Z⟩
  refine un a4 (un a4 (V (lg (cB a4) Z) ?_))
  cases sj p
  exact c8 _ _ ⟨_,d.kM,Z,Z,Z⟩
 let a0:=(b8.toArray:Array Value)
 let h:Value:=vP H
 refine kS (Wf pD (VB d Mh Z Z bH (Wi Z (Wm (LJ hm (λe6 E W=>∃f8,ST false lN w W (hp w) ((H,oC a0 62)::f8)∧E 1=h∧E 3=vI (a.Kids.length:Int)∧E 31=vB e6) 4 ?_ λe6 o c0=>?_)))))
 ·let s:Value:=(vI (a.Kids.length:Int))
  rintro l4 E W ⟨f8,d,d5,g3,j3⟩ i3
  refine Wh j3 (LJ i3 (λe5 E W=>∃f9,ST false lN w W (hp w) ((H,oC a0 62)::f9)∧E 1=h∧E 3=s∧E 37=vB e5) 5 ?_ λe5 Y b9=>?_)
  ·rintro l5 E W ⟨f9,d,g4,d6,j4⟩ i4
   refine Wh j4 (LJ i4 (λe4 E W=>∃g0,ST false lN w W (hp w) ((H,oC a0 62)::g0)∧E 1=h∧E 3=s∧E 41=vB e4) 3 ?_ λe4 U b7=>?_)
   ·rintro l6 E W ⟨g0,d,A,g7,j5⟩ q
    refine ln (CI q j5 (λi0 q=>?_) λi0 q=>?_)
    ·refine sg (Wa (ln ?_))
     have d:=d.kM (Db St)
     refine lB (ly ?_)
     cases sj q
     exact rP d
    refine kS (V (kU pD A) (VB d Mh Z Z bH (Wi Z (Wm (LJ q (λe3 E W=>∃g1,ST false lN w W (hp w) ((H,oC a0 62)::g1)∧E 1=h∧E 3=s∧E 49=vB e3) 4 ?_ λe3 T b6=>?_)))))
    ·rintro P E W ⟨g1,d,n,d7,j6⟩ i5
     refine Wh j6 (LJ i5 (λd9 E W=>∃c9,ST false lN w W (hp w) ((H,oC a0 62)::c9)∧E 1=h∧E 69=vB d9) 19 ?_ λd9 K b1=>?_)
     ·rintro k7 E W ⟨c9,d,h0,h1⟩ J
      refine ln (CI J h1 (λe8 J=>?_) λe8 J=>?_)
      ·refine sg (Wa (ln ?_))
       have d:=d.kM (Db St)
       refine lB (ly ?_)
       cases sj J
       exact rP d
      refine kS (V (kU pG h0) (VB d Mh Z Z ei (V (lT aD Z j) (Wm (ln ?_)))))
      have d:=d.kM (Db St)
      refine mJ 73 72 (λi js E W=>∃c1,ST false lN w W (hp w) c1∧E 71= .slice A1 a.Kids.length c2∧xQ d8 js=some r) j.len ⟨_,d.kM,Z,J⟩ ?_ ?_
      ·rintro i7 g j9 E W f5 ⟨⟨R,eN⟩,c1,d,L,u⟩
       refine sg (VQ (my (i:=(i7:Int)) (x0:=g) kN.out aD aC L R j (aG _) f5) λk4 ⟨_,⟨k6,rfl,c6⟩,f3⟩=>V (kP Z (lA d.has f3 aR aC)) (VE (lq d aU λk0 k3 d=>?_)))
       obtain ⟨a9,b0,rfl⟩:=c6.form
       let a2:=C1 g.Op g.K g.kL.kO g.kL.Word a9 g.Kids.length b0
       refine VO (FA a2.toArray d aC λk1 d=>lr (VA d Mh a2 aR aC (bS u λk5 f4 u=>VE (Eg d call185 (i6 g (.slice a9 g.Kids.length b0) _ _ (c6.mono lc.mono d.lb) f4) λk2 d=>V (nt Z) (ln ?_)))))
       have d:=d.kM (Db St)
       refine CI u Z (λe9 u=>?_) (λe9 u=>?_)
       ·refine sg (Wa (lt (mG (ly (mG (ly ?_))))))
        cases sj u
        exact rP d
       exact lU (lD (kW ⟨R,eN,_,d.kM,L,u⟩))
      rintro E W ⟨⟨R,eN⟩,c1,d,L,u⟩
      exact kW (sg (Wa (lt (rQ u d))))
     refine bC K (λt K=>?_) (λt K=>?_)
     ·refine un t (un t (un t (un t (Vu Z Z (Vu Z Z (Vu Z Z (Vu Z Z (Vu Z Z (Vu Z Z (Vu Z Z (Vu Z Z (Vu Z Z (Vu Z Z (Vu Z Z ?_))))))))))))))
      refine Vu Z Z (Vu Z Z (un t (V (lh (cB t) Z) ?_)))
      cases sj K
      exact b1 _ _ ⟨_,d.kM,n,Z⟩
     refine ug t (kU pD n) (ug t (kP Z (kZ d.has Mh Z bH)) (ug t (lI Z Z Z) (ug t (kT Z) (LJ K (λe0 E W=>∃d0,ST false lN w W (hp w) ((H,oC a0 62)::d0)∧E 1=h∧E 50=vB P∧E 68=vB e0) 14 ?_ λe0 M b2=>?_))))
     ·rintro k8 E W ⟨d0,d,h2,h3,h4⟩ f0
      refine V (lg (h3.trans (cB t)) h4) ?_
      cases sj f0
      exact b1 _ _ ⟨_,d.kM,h2,Z⟩
     refine bC M (λc M=>?_) (λc M=>?_)
     ·refine ug c (kT d7) (ug c (lI Z Z Z) (ug c (kT Z) (LJ M (λe2 E W=>∃d1,ST false lN w W (hp w) ((H,oC a0 62)::d1)∧E 1=h∧E 3=s∧E 50=vB P∧E 54=vB (a.Op==4)∧E 61=vB e2) 4 ?_ λe2 Q b5=>?_)))
      ·rintro k9 E W ⟨d1,d,O,h5,d3,a3,h6⟩ f1
       refine Vg Z (a3.trans (cB c)) (kT h6) (LJ f1 (λe1 E W=>∃d2,ST false lN w W (hp w) ((H,oC a0 62)::d2)∧E 1=h∧E 50=vB P∧E 54=vB (a.Op==4)∧E 67=vB e1) 5 ?_ λe1 N b4=>?_)
       ·rintro l0 E W ⟨d2,d,h7,d4,h8,h9⟩ f2
        refine Vg Z (d4.trans (cB t)) (lh (h8.trans (cB c)) h9) ?_
        cases sj f2
        exact b2 _ _ ⟨_,d.kM,h7,d4,Z⟩
       refine bC N (λk N=>?_) (λk N=>?_)
       ·refine un k (un k (un k (un k (Vg Z (a3.trans (cB c)) (lh (cB k) Z) ?_))))
        cases sj N
        exact b4 _ _ ⟨_,d.kM,O,d3,a3,Z⟩
       refine ug k (kU wO O) (ug k (kP Z (kZ d.has Mh Z bH)) (ug k (kT h5) (ug k (lI Z Z Z) (Vg Z (a3.trans (cB c)) (lg (cB k) Z) ?_))))
       cases sj N
       exact b4 _ _ ⟨_,d.kM,O,d3,a3,Z⟩
      refine bC Q (λy Q=>?_) (λy Q=>?_)
      ·refine un y (un y (un y (ug c (lh (cB y) Z) ?_)))
       cases sj Q
       exact b5 _ _ ⟨_,d.kM,n,d7,Z,Z,Z⟩
      refine ug y (kU wO n) (ug y (kP Z (kZ d.has Mh Z bH)) (ug y (lI Z Z Z) (ug c (lg (cB y) Z) ?_)))
      cases sj Q
      exact b5 _ _ ⟨_,d.kM,n,d7,Z,Z,Z⟩
     refine un c (un c (un c (Vu Z Z (Vu Z Z (Vu Z Z (un c (un c (Vu Z Z (Vu Z Z (Vu Z Z (Vu Z Z (un c (ug t (lg (cB c) Z) ?_)))))))))))))
     cases sj M
     exact b2 _ _ ⟨_,d.kM,n,Z,Z⟩
    refine bC T (λG T=>?_) (λG T=>?_)
    ·refine ug G (kU wO A) (ug G (kP Z (kZ d.has Mh Z bH)) (ug G (lI Z Z Z) (V (lh (cB G) Z) ?_)))
     cases sj T
     exact b6 _ _ ⟨_,d.kM,A,g7,Z⟩
    refine un G (un G (un G (V (lg (cB G) Z) ?_)))
    cases sj T
    exact b6 _ _ ⟨_,d.kM,A,g7,Z⟩
   refine bC U (λI U=>?_) (λI U=>?_)
   ·refine un I (un I (V (lh (cB I) Z) ?_))
    cases sj U
    exact b7 _ _ ⟨_,d.kM,g4,d6,Z⟩
   refine ug I (kT d6) (ug I (lI Z Z Z) (V (lg (cB I) Z) ?_))
   cases sj U
   exact b7 _ _ ⟨_,d.kM,g4,d6,Z⟩
  refine bC Y (λz Y=>?_) (λz Y=>?_)
  ·refine un z (un z (un z (un z (V (lh (cB z) Z) ?_))))
   cases sj Y
   exact b9 _ _ ⟨_,d.kM,d5,g3,Z⟩
  refine ug z (kU yB d5) (ug z (kP Z (kV d.has Mh (kR a.kL) Z bE aI)) (ug z (lX (v:=vA (kR K0)) oP (lG cY dl (Kc _ dl) kr)) (ug z (Hz Z Z (nY dN) (Ds (rS _ a.kL K0))) (V (lg (cB z) Z) ?_))))
  cases sj Y
  exact b9 _ _ ⟨_,d.kM,d5,g3,Z⟩
 refine bC o (λD o=>?_) (λD o=>?_)
 ·refine un D (un D (un D (V (lh (cB D) Z) ?_)))
  cases sj o
  exact c0 _ _ ⟨_,d.kM,Z,Z,Z⟩
 refine ug D (kU pD Z) (ug D (kP Z (kZ d.has Mh Z bH)) (ug D (lI Z Z Z) (V (lg (cB D) Z) ?_)))
 cases sj o
 exact c0 _ _ ⟨_,d.kM,Z,Z,Z⟩
theorem Kf:∀(n:Nat) (c:Formula) (a:Value) (r:Bool) (w:World) (g:Sl kN 5 (hp w) a c.Kids) (_:xD n c=some r),
  lF false pg0 185 [vA [vI c.Op,vI c.K,vS c.kL.kO,vS c.kL.Word,a]] w (vB r)
 | 0=>by intros; rename_i h; simp only [xD] at h; cases h
 | n+1=>Ld (xD n) (Kf n)
theorem CV (c:Sl kN 5 (hp qa) q0 qx.Kids) (hm:wx qx=some qt) :
  lF false pg0 147 [vA [vI qx.Op,vI qx.K,vS qx.kL.kO,vS qx.kL.Word,q0]] qa (vB qt):=by
 refine cG 15 func147 Z (λa=>sg ?_)
 obtain ⟨u,x,rfl⟩:=c.form
 let d:Value:= .slice u qx.Kids.length x
 let a0:=C1 qx.Op qx.K qx.kL.kO qx.kL.Word u qx.Kids.length x
 refine VE (lY a Z (λW4 Q a=>Wa (lr (VA a Mh a0 aR aC (bS hm λq h hm=>VE (Eg a call183 ((Jd lP) qx d _ _ (c.mono lc.mono a.lb) h) λW7 a=>Wi Z (Wm (LJ hm (λI E W=>∃B,ST false lN qa W (hp qa) ((Q,Ol a0 62)::B)∧E 1=vP Q∧E 2=vB false∧E 10=vB I) 4 ?_ λI j z=>?_))))))))
 ·rintro o E W ⟨B,a,T,G,U⟩ J
  refine Wh U (LJ J (λH E W=>∃D,ST false lN qa W (hp qa) D∧E 2=vB false∧E 14=vB H) 3 ?_ λH i y=>?_)
  ·rintro p E W ⟨D,a,a3,Y⟩ K
   exact Wg Y (lt (rQ K a))
  refine bC i (λg i=>?_) (λg i=>?_)
  ·refine ug g (kP T (kV a.has Mh a0 Z aR aC)) (bS i λa4 M i=>sh g (Eg a call185 ((Kf lP) qx d _ _ (c.mono lc.mono a.lb) M) λn a=>V (lh (cB g) Z) ?_))
   cases sj i
   exact y _ _ ⟨_,a.kM (Db St),G,Z⟩
  refine un g (un g (V (lg (cB g) Z) ?_))
  cases sj i
  exact y _ _ ⟨_,a.kM (Db St),G,Z⟩
 refine bC j (λk j=>?_) (λk j=>?_)
 ·refine ug k (kP Z (kV a.has Mh a0 Z aR aC)) (bS j λa5 N j=>sh k (Eg a call184 ((JP lP) qx d _ _ (c.mono lc.mono a.lb) N) λa2 a=>ug k (lI Z Z Z) (V (lh (cB k) Z) ?_)))
  cases sj j
  exact z _ _ ⟨_,a.kM,Z,Z,Z⟩
 refine un k (un k (un k (V (lg (cB k) Z) ?_)))
 cases sj j
 exact z _ _ ⟨_,a.kM,Z,Z,Z⟩
theorem DE (c:Sl kN 5 (hp qa) q0 qx.Kids) (hm:Ap qx qc=some qt) :
  lF true pg0 187 [vA [vI qx.Op,vI qx.K,vS qx.kL.kO,vS qx.kL.Word,q0],vI qc] qa (vB qt):=by
 refine cG 15 func187 Z (λd=>sg ?_)
 obtain ⟨B,D,rfl⟩:=c.form
 refine VE (lY d Z (λG H d=>Wa (lr (Wf pD (VB d Mh Z Z bH (Wm (Wi Z (Wm (LJ hm (λt E W=>∃u,ST true lN qa W (hp qa) u∧E 4=vB false∧E 14=vB t) 5 ?_ λt j k=>?_)))))))))
 ·rintro J E W ⟨u,d,I,y⟩ z
  exact Wg y (lt (rQ z d))
 refine bC j (λa j=>?_) (λa j=>?_)
 ·refine ug a (kU pG Z) (ug a (kP Z (kZ d.has Mh Z ei)) (ug a (lT aD Z c) (ug a (lI Z Z Z) (V (lh (cB a) Z) ?_))))
  cases sj j
  exact k _ _ ⟨_,d.kM (Db St),Z,Z⟩
 refine un a (un a (un a (un a (V (lg (cB a) Z) ?_))))
 cases sj j
 exact k _ _ ⟨_,d.kM (Db St),Z,Z⟩
theorem Jv (I:Formula→Option ByteArray) (a5:∀(c:Formula) (j:Value) (r:ByteArray) (w:World) (a:Sl kN 5 (hp w) j c.Kids),I c=some r→lF false pg0 227 [vA [vI c.Op,vI c.K,vS c.kL.kO,vS c.kL.Word,j]] w (vS r)) (c:Formula) (j:Value) (r:ByteArray) (w:World) (a:Sl kN 5 (hp w) j c.Kids) (hm:BE I c=some r) :
  lF false pg0 227 [vA [vI c.Op,vI c.K,vS c.kL.kO,vS c.kL.Word,j]] w (vS r):=by
 refine cG 44 func227 Z (λd=>sg ?_)
 obtain ⟨A1,c2,rfl⟩:=a.form
 refine VE (lY d Z (λW4 o d=>Wa (lr (Wf pD (VB d Mh Z Z bH (bS hm λr5 O hm=>VE (Eg d call88 (lF.mF (xa c.Op _ _  O)) λW7 d=>Wa (ln (kY (kY ?_))))))))))
 refine kX (Wf pD (VB d Mh Z Z bH (Wi Z (ln (CI hm Z (λL hm=>?_) λL hm=>?_)))))
 ·refine sg (Wm (Wf yB (VA d Mh (kR c.kL) bE aI (bS hm λr9 a3 hm=>VE (Eg d call149 (lF.mF (CH c.kL _ _  a3)) λd0 d=>bS hm λd3 q hm=>V (xk Z Z q) (Wa (ln ?_)))))))
  have d:=d.kM (Db St)
  refine lB (ly ?_)
  cases sj hm
  exact rP d
 refine kn (kY (CJ hm (λJ E W=>∃Y,ST false lN w W (hp w) ((o,Ol (C1 c.Op c.K c.kL.kO c.kL.Word A1 c.Kids.length c2) 62)::Y)∧E 1=vP o∧E 3=vS J) (λJ t=>?_) ?_))
 ·refine sg (Wf pD (VB d Mh Z Z bH (Wi Z (ln (CI t Z (λK t=>?_) λK t=>?_)))))
  ·refine kX (Wm (Wf wO (VB d Mh Z Z bH (bS t λc6 Q t=>VE (Eg d call88 (lF.mF (xa c.K _ _  Q)) λc1 d=>bS t λc7 U t=>V (xk Z Z U) (Wa (ln ?_)))))))
   cases sj t
   exact ⟨_,d.kM,Z,Z⟩
  refine kn ?_
  cases sj t
  exact ⟨_,d.kM,Z,Z⟩
 rintro d4 E W ⟨Y,d,n,A⟩ u
 refine sg (Wh A (V (kU pG n) (VB d Mh Z Z ei (V (lT aD Z a) (bS u λd2 a4 u=>VE (Eg d call88 (lF.mF (xa (c.Kids.length:Int) _ _  a4)) λd1 d=>bS u λR s u=>V (xk Z Z s) (Wa (ln (kY (kY ?_))))))))))
 refine kX (V (kU pG n) (VB d Mh Z Z ei (V (lT aD Z a) (Wm (ln ?_)))))
 have d:=d.kM (Db St)
 refine mJ 34 33 (λi js E W=>∃z B,ST false lN w W (hp w) B∧E 3=vS z∧E 32= .slice A1 c.Kids.length c2∧xf I js z=some r) a.len ⟨R,_,d.kM,Z,Z,u⟩ ?_ ?_
 ·rintro P g c9 E W v ⟨⟨h,p⟩,z,B,d,D,G,k⟩
  refine sg (VQ (my (i:=(P:Int)) (x0:=g) kN.out aD aC G h a (aG _) v) λc4 ⟨_,⟨c8,rfl,H⟩,M⟩=>V (kP Z (lA d.has M aR aC)) (VE (lq d aU λb7 c3 d=>?_)))
  obtain ⟨x,y,rfl⟩:=H.form
  let a0:=C1 g.Op g.K g.kL.kO g.kL.Word x g.Kids.length y
  refine VO (FA a0.toArray d aC λb9 d=>ln (kX (Wh D (VA d Mh a0 aR aC (bS k λc5 N k=>VE (Eg d call227 (a5 g (.slice x g.Kids.length y) _ _ (H.mono lc.mono d.lb) N) λc0 d=>bS k λa9 T k=>V (xk Z Z T) (Wa (lC (lD (kW ?_))))))))))
  have d:=d.kM (Db St)
  exact ⟨h,p,a9,_,d.kM,Z,G,k⟩
 rintro E W ⟨⟨h,p⟩,z,B,d,D,G,k⟩
 exact kW (sg (Wh D (Wa (lt (rQ k d)))))
theorem FI:∀(n:Nat) (c:Formula) (a:Value) (r:ByteArray) (w:World) (g:Sl kN 5 (hp w) a c.Kids) (_:tS n c=some r),
  lF false pg0 227 [vA [vI c.Op,vI c.K,vS c.kL.kO,vS c.kL.Word,a]] w (vS r)
 | 0=>by intros; rename_i h; simp only [tS] at h; cases h
 | n+1=>Jv (tS n) (FI n)
theorem MQ (k:Sl kN 5 (hp qa) q0 qx.Kids) (t:Sl kN 5 (hp qa) q1 qy.Kids) (hm:Bn qx qy=some qc) :
  lF false pg0 208 [vA [vI qx.Op,vI qx.K,vS qx.kL.kO,vS qx.kL.Word,q0],vA [vI qy.Op,vI qy.K,vS qy.kL.kO,vS qy.kL.Word,q1]] qa (vI qc):=by
 refine cG 21 func208 Z (λa=>sg ?_)
 obtain ⟨B,D,rfl⟩:=k.form
 let c:=C1 qx.Op qx.K qx.kL.kO qx.kL.Word B qx.Kids.length D
 refine VE (lY a Z (λW4 u a=>?_))
 obtain ⟨y,z,rfl⟩:=t.form
 let a0:=C1 qy.Op qy.K qy.kL.kO qy.kL.Word y qy.Kids.length z
 refine VE (lY a Z (λW8 d a=>Wa (lr (Wa (lr (Wa (ln (kY ?_))))))))
 refine CJ hm (λQ E W=>∃G,ST false lN qa W (hp qa) ((d,Ol a0 62)::G)∧E 3=vP d∧E 5=vS Q∧E 6=vS zS) (λQ j=>?_) ?_
 ·refine sg (VA a (Mt Mh) c aR aC (bS j λA a5 j=>VE (Eg a call147 (CV (k.mono lc.mono a.lb) a5) λs a=>ln (CI j Z (λh j=>?_) λh j=>?_))))
  ·refine kX (VA a (Mt Mh) c aR aC (bS j λL n j=>VE (Eg a call227 ((FI lP) qx (.slice B qx.Kids.length D) _ _ (k.mono lc.mono a.lb) n) λv a=>Wa (ln ?_))))
   cases sj j
   exact ⟨_,a.kM (Kb (Db St)),Z,Z,Z⟩
  refine kn ?_
  cases sj j
  exact ⟨_,a.kM (Kb (Db St)),Z,Z,Z⟩
 rintro a9 E W ⟨G,a,I,J,o⟩ a2
 refine kY (CJ a2 (λN E W=>∃H,ST false lN qa W (hp qa) H∧E 5=vS a9∧E 6=vS N) (λN i=>?_) ?_)
 ·refine sg (V (kP I (kV a.has Mh a0 Z aR aC)) (bS i λw a3 i=>VE (Eg a call147 (CV (t.mono lc.mono a.lb) a3) λp a=>ln (CI i Z (λY i=>?_) λY i=>?_))))
  ·refine kX (V (kP I (kV a.has Mh a0 Z aR aC)) (bS i λx a4 i=>VE (Eg a call227 ((FI lP) qy (.slice y qy.Kids.length z) _ _ (t.mono lc.mono a.lb) a4) λq a=>Wa (ln ?_))))
   cases sj i
   exact ⟨_,a.kM (Db St),J,Z⟩
  refine kn ?_
  cases sj i
  exact ⟨_,a.kM (Db St),J,o⟩
 rintro c1 E W ⟨H,a,K,M⟩ g
 refine kY (sg (Wh K (Wh M (V (rF Z Z Z) (ln (CI g Z (λT g=>?_) λT g=>?_))))))
 ·refine sg (Wa (lt (ly ?_)))
  cases sj g
  exact rP a
 refine kS (Wh K (Wh M (V (rF Z Z Z) (ln (CI g Z (λU g=>?_) λU g=>?_)))))
 ·refine sg (Wa (lt (ly ?_)))
  cases sj g
  exact rP a
 exact kg (Wa (lt (rQ g a)))
theorem Lc (v:Formula→Formula→Option Bool) (d5:∀(c:Formula) (u:Value) (a:Formula) (x:Value) (r:Bool) (w:World) (k:Sl kN 5 (hp w) u c.Kids) (y:Sl kN 5 (hp w) x a.Kids),v c a=some r→lF false pg0 209 [vA [vI c.Op,vI c.K,vS c.kL.kO,vS c.kL.Word,u],vA [vI a.Op,vI a.K,vS a.kL.kO,vS a.kL.Word,x]] w (vB r)) (c:Formula) (u:Value) (a:Formula) (x:Value) (r:Bool) (w:World) (k:Sl kN 5 (hp w) u c.Kids) (y:Sl kN 5 (hp w) x a.Kids) (hm:Ch v c a=some r) :
  lF false pg0 209 [vA [vI c.Op,vI c.K,vS c.kL.kO,vS c.kL.Word,u],vA [vI a.Op,vI a.K,vS a.kL.kO,vS a.kL.Word,x]] w (vB r):=by
 refine cG 53 func209 Z (λd=>sg ?_)
 obtain ⟨Zq,c2,rfl⟩:=k.form
 let o:=C1 c.Op c.K c.kL.kO c.kL.Word Zq c.Kids.length c2
 refine VE (lY d Z (λW4 I d=>?_))
 obtain ⟨A5,c6,rfl⟩:=y.form
 let a0:=C1 a.Op a.K a.kL.kO a.kL.Word A5 a.Kids.length c6
 refine VE (lY d Z (λW8 J d=>Wa (lS (Wf pD (VB d (Mt Mh) Z Z bH (Wf pD (VB d Mh Z Z bH (Wi Z (Wm (LJ hm (λP E W=>∃c8,ST false lN w W (hp w) ((J,Ol a0 62)::((I,Ol o 62)::c8))∧E 2=vP I∧E 3=vP J∧E 17=vB P) 6 ?_ λP G N=>?_))))))))))
 ·let a3:Value:=(vP J)
  let a2:Value:=vP I
  rintro e8 E W ⟨c8,d,a5,p,d8⟩ d3
  refine Wh d8 (LJ d3 (λO E W=>∃c9,ST false lN w W (hp w) ((J,Ol a0 62)::((I,Ol o 62)::c9))∧E 2=a2∧E 3=a3∧E 24=vB O) 6 ?_ λO D M=>?_)
  ·rintro e9 E W ⟨c9,d,q,s,d9⟩ d4
   refine Wh d9 (LJ d4 (λL E W=>∃d0,ST false lN w W (hp w) ((J,Ol a0 62)::((I,Ol o 62)::d0))∧E 2=a2∧E 3=a3∧E 33=vB L) 8 ?_ λL B K=>?_)
   ·rintro f0 E W ⟨d0,d,d1,e0,e1⟩ H
    refine ln (CI H e1 (λd2 H=>?_) λd2 H=>?_)
    ·refine sg (Wa (ln ?_))
     have d:=d.kM (Db (Db St))
     refine lB (ly ?_)
     cases sj H
     exact rP d
    refine kS (V (kU pG d1) (VB d (Mt Mh) Z Z ei (V (lT aD Z k) (Wm (ln (mJ 37 36 (λi js E W=>∃Q,ST false lN w W (hp w) ((J,Ol a0 62)::((I,Ol o 62)::Q))∧E 2=a2∧E 3=a3∧xN a v js i=some r) k.len ⟨_,d.kM,d1,e0,H⟩ ?_ ?_))))))
    ·rintro a9 R e2 E W c7 ⟨⟨A,eN⟩,Q,d,T,U,j⟩
     refine sg (Wh A (Wa (ln (kY ?_))))
     have d:=d.drew
     have h:=d.has.kM (Kb (Kb Sn))
     refine mh h lM (X 0 Z h (kU pG T) (XH 1 Z h (λ_ n=>kP Z (kZ n (Mt Mh) Z ei)) (X 2 Z h (kT Z) (XQ 3 Z h (my (i:=(a9:Int)) (x0:=R) kN.out aD aC Z Z k (aG _) c7) λe4 ⟨_,⟨d6,rfl,c4⟩,c0⟩=>XH 4 Z h (λ_ n=>kP Z (lA n c0 aR aC)) (X 5 Z h (kU pG U) (XH 6 Z h (λ_ n=>kP Z (kZ n Mh Z ei)) (X 7 Z h (kT Z) (bS j λb6 Y j=>XQ 8 Z h (my (i:=(a9:Int)) (x0:=b6) kN.out aD aC Z Z y (lR Y) (lK Y)) λe5 ⟨_,⟨d7,rfl,c5⟩,c1⟩=>XH 9 Z h (λ_ n=>kP Z (lA n c1 aR aC)) (bS j λe6 c3 j=>XE 10 Z (Eg d call209 (d5 R d6 b6 d7 _ _ (c4.mono lc.mono d.lb) (c5.mono lc.mono d.lb) c3) λe3 d=>?_))))))))))
     have h:=d.has.kM (Kb (Kb Sn))
     refine ⟨h,X 11 Z h (nt Z) (ml kr (kW (CI j Z (λb9 j=>?_) λb9 j=>?_)))⟩
     ·refine sg (Wa (ln ?_))
      have d:=d.kM (Db (Db St))
      refine lB (mG (ly (mG (ly ?_))))
      cases sj j
      exact rP d
     exact lU (lD (kW ⟨A,eN,_,d.kM,T,U,j⟩))
    rintro E W ⟨⟨A,eN⟩,Q,d,T,U,j⟩
    refine kW ?_
    have d:=d.kM (Db (Db St))
    exact sg (Wa (lt (rQ j d)))
   refine bC B (λg B=>?_) (λg B=>?_)
   ·refine un g (un g (un g (un g (un g (un g (un g (V (lh (cB g) Z) ?_)))))))
    cases sj B
    exact K _ _ ⟨_,d.kM,q,s,Z⟩
   refine ug g (kU pG q) (ug g (kP Z (kZ d.has (Mt Mh) Z ei)) (ug g (lT aD Z k) (ug g (kU pG s) (ug g (kP Z (kZ d.has Mh Z ei)) (ug g (lT aD Z y) (ug g (lI Z Z Z) (V (lg (cB g) Z) ?_)))))))
   cases sj B
   exact K _ _ ⟨_,d.kM,q,s,Z⟩
  refine bC D (λt D=>?_) (λt D=>?_)
  ·refine un t (un t (un t (un t (un t (V (lh (cB t) Z) ?_)))))
   cases sj D
   exact M _ _ ⟨_,d.kM,a5,p,Z⟩
  refine ug t (kU yB a5) (ug t (kP Z (kV d.has (Mt Mh) (kR c.kL) Z bE aI)) (ug t (kU yB p) (ug t (kP Z (kV d.has Mh (kR a.kL) Z bE aI)) (ug t (Hz Z Z (nY dN) (Ds (rS _ c.kL a.kL))) (V (lg (cB t) Z) ?_)))))
  cases sj D
  exact M _ _ ⟨_,d.kM,a5,p,Z⟩
 refine bC G (λz G=>?_) (λz G=>?_)
 ·refine un z (un z (un z (un z (un z (V (lh (cB z) Z) ?_)))))
  cases sj G
  exact N _ _ ⟨_,d.kM,Z,Z,Z⟩
 refine ug z (kU wO Z) (ug z (kP Z (kZ d.has (Mt Mh) Z bH)) (ug z (kU wO Z) (ug z (kP Z (kZ d.has Mh Z bH)) (ug z (lI Z Z Z) (V (lg (cB z) Z) ?_)))))
 cases sj G
 exact N _ _ ⟨_,d.kM,Z,Z,Z⟩
theorem Ko:∀(n:Nat) (g:Formula) (a:Value) (i:Formula) (c:Value) (r:Bool) (w:World) (j:Sl kN 5 (hp w) a g.Kids) (k:Sl kN 5 (hp w) c i.Kids) (_:vR n g i=some r),
  lF false pg0 209 [vA [vI g.Op,vI g.K,vS g.kL.kO,vS g.kL.Word,a],vA [vI i.Op,vI i.K,vS i.kL.kO,vS i.kL.Word,c]] w (vB r)
 | 0=>by intros; rename_i h; simp only [vR] at h; cases h
 | n+1=>Lc (vR n) (Ko n)
theorem Ig (h0:nN qb [] qa) (c8:Sl kN 5 qb q0 qv) (hm:Aa qv qt=some qw) :
  mq false pg0 188 [q0,vB qt] qa qb [] (λv L1 μ1=>∃y1,v=y1∧L1=[]∧Sl kN 5 μ1 y1 qw):=by
 refine ve h0 62 func188 Z (λd=>sg (Wa (lr (Wa (lS (Wm ?_))))))
 refine V (lT aD Z c8) (Wm (ln (mJ 12 11 (λi js E W=>∃u K D x T,lm qb x∧Lo (keys []) qa qb x∧ST false (keys []) qa W x (D++T)∧E 1=vB qt∧E 5=u∧E 10=q0∧mn 62 kN 5 x u K D∧oA qt js K=some qw) c8.len ⟨vN,[],[],qb,_,lm.refl _,Lo.refl,d.kM,Z,Z,Z,mn.nil _ _ _ _,hm⟩ ?_ ?_)))
 ·rintro U a l1 E W j0 ⟨⟨eI,eN⟩,u,K,D,x,T,J,q,d,d4,a4,b2,H,M⟩
  refine sg (VQ (my (i:=(U:Int)) (x0:=a) kN.out aD aC b2 eI (c8.mono lc.mono J) (aG _) j0) λm5 ⟨_,⟨n0,rfl,a2⟩,h9⟩=>V (kP Z (lA d.has h9 aR aC)) (VE (lq d aU λl3 G d=>?_)))
  let g4:Value:=vI (U:Int)
  let O:Value:=vI (qv.length:Int)
  let b8:Value:=vP G
  obtain ⟨k,t,rfl⟩:=a2.form
  let g5:Value:= .slice k a.Kids.length t
  let s:=C1 a.Op a.K a.kL.kO a.kL.Word k a.Kids.length t
  refine VO (FA s.toArray d aC λl4 d=>lr (Wh a4 (V (xE aD Z H) (Wa (ln (kY (CJ M (λc2 E W=>∃c9,ST false (keys []) qa W x ((G,Ol s 62)::(D++c9))∧E 1=vB qt∧E 5=u∧E 7=b8∧E 8=vI c2∧E 10=q0∧E 11=O∧E 12=g4) (λc2 h8=>?_) ?_)))))))
  ·refine mA (nQ (λm E W=>∃Y d2,ST false (keys []) qa W x ((G,Ol s 62)::(D++d2))∧E 1=vB qt∧E 5=u∧E 7=b8∧E 8=vI Y∧E 10=q0∧E 11=O∧E 12=g4∧ui K a m Y=some c2) lP ⟨(K.length:Int),_,d.kM,d4,a4,Z,Z,b2,eN,eI,h8⟩ ?_)
   rintro m E W ⟨Y,d2,d,e9,c0,c1,a5,f0,f1,f2,R⟩
   cases m with
   | zero=>rw [ui] at R; cases R
   | succ k2=>
    refine kY (kY ?_)
    have d:=d.drew
    have n:=d.has.kM (Kb (Kr Sn))
    refine mh n lM (X 0 Z n (kT a5) (X 1 Z n (lI Z Z Z) (X 2 Z n (kT Z) (PJ R (λg2 E W=>∃d3,ST false (keys []) qa W x ((G,Ol s 62)::(D++d3))∧E 1=vB qt∧E 5=u∧E 7=b8∧E 8=vI Y∧E 10=q0∧E 11=O∧E 12=g4∧E 29=vB g2) (bm 12 4095) 0 ?_ λg2 z a9=>?_))))
    ·rintro n7 E W ⟨d3,d,f3,f4,f5,f6,f7,f8,f9,k0⟩ Q
     refine ml kr (kW (CI Q k0 (λh5 Q=>?_) λh5 Q=>?_))
     ·exact kn (mA (kX (Wh f6 (Wi Z (Wa (lC (lD (kW ⟨k2,bB _,wi0 .i64 (Y-1),_,d.kM,f3,f4,f5,Z,f7,f8,f9,Q⟩))))))))
     refine nB (nv (nv (ry (kW ?_))))
     cases sj Q
     exact ⟨_,d.kM,f3,f4,f5,f6,f7,f8,f9⟩
    refine bC z (λc z=>?_) (λc z=>?_)
    ·refine Xg 3 Z Z (cB c) n (kT c0) (Xg 4 Z Z (cB c) n (kT a5) (Xg 5 Z Z (cB c) n (lI Z Z Z) (bS z λk7 c6 z=>vq 6 Z kr (.inr ⟨2,true,20,Z,Z,fs,cB c⟩) Z dc (λ_ _ h=>h) n (ni (i:=wi0 .i64 (Y-1)) kN.out aD aC Z Z H (lR c6) (lK c6)) λm7 ⟨_,⟨k5,rfl,i8⟩,i1,l0⟩=>uq 7 Z Z (cB c) n (λ_ L=>kP Z (lA (oe.hp _) (i1.mono (nI λb o P=>L.2 b o (Mt (Ml P)))) aR aC)) (uq 8 Z Z (cB c) n (λ_ L=>kP c1 (kV L Mh s Z aR aC)) (bS z λm9 i3 z=>Al 9 Z Z (cB c) (Eg d call208 (MQ (i8.mono lc.mono d.lb) (a2.mono lc.mono d.lb) i3) λm1 d=>?_))))))
     have n:=d.has.kM (Kb (Kr Sn))
     refine ⟨n,Xg 10 Z Z (cB c) n (lI Z Z Z) (X 11 Z n (lh (cB c) Z) ?_)⟩
     cases sj z
     refine nr kr (a9 _ _ ⟨_,d.kM,e9,c0,c1,a5,f0,f1,f2,Z⟩)
    refine Xn 3 Z Z (cB c) n (Xn 4 Z Z (cB c) n (Xn 5 Z Z (cB c) n (Xn 6 Z Z (cB c) n (Xn 7 Z Z (cB c) n (Xn 8 Z Z (cB c) n (Xn 9 Z Z (cB c) n (Xn 10 Z Z (cB c) n (X 11 Z n (lg (cB c) Z) ?_))))))))
    cases sj z
    refine nr kr (a9 _ _ ⟨_,d.kM,e9,c0,c1,a5,f0,f1,f2,Z⟩)
  rintro a3 E W ⟨c9,d,b3,d5,d6,b4,d7,d8,d9⟩ h6
  refine kY (kY ?_)
  have d:=d.drew
  have n:=d.has.kM (Kb (Kr Sn))
  refine mh n lM (X 0 Z n (kT b3) (X 1 Z n (kT Z) (PJ h6 (λg1 E W=>∃d0,ST false (keys []) qa W x ((G,Ol s 62)::(D++d0))∧E 1=vB qt∧E 5=u∧E 7=b8∧E 8=vI a3∧E 10=q0∧E 11=O∧E 12=g4∧E 36=vB g1) (bm 14 31) 9 ?_ λg1 N a8=>?_)))
  ·rintro n5 E W ⟨d0,d,e0,b5,b6,b7,e1,e2,e3,j7⟩ h7
   have n:=d.has.kM (Kb (Kr Sn))
   refine X 5 Z n (kT j7) (PJ h7 (λg0 E W=>∃d1,ST false (keys []) qa W x ((G,Ol s 62)::(D++d1))∧E 1=vB qt∧E 5=u∧E 7=b8∧E 8=vI a3∧E 10=q0∧E 11=O∧E 12=g4∧E 45=vB g0) (bm 14 16383) 0 ?_ λg0 y a7=>?_)
   ·rintro n6 E W ⟨d1,d,e4,b9,j8,e5,e6,e7,e8,j9⟩ j
    refine ml kr (kW (CI j j9 (λh1 j=>?_) λh1 j=>?_))
    ·refine nB (nv (ry (kW ?_)))
     have d:=d.kM (Db St)
     exact ⟨e8,e7,u,K,D,x,_,J,q,d.kM,e4,b9,e6,H,j⟩
    refine kg (VE (lE (cs:=#[]) d oP (EP [] aD aC aU dc Z fb Z Z) λl5 j6 d=>Wh b9 (Wh e5 (bS j λ_ c3 j=>VQ (II (i:=a3) aD aC Z Z H (vp c3) (vl c3)) λn1 i4=>bS j λm3 h2 j=>VE (sk (B:=[(j6,Ob #[] 62)]) lc d dc aD ny.1 ny.2.1 Z ny.2.2.1 ny.2.2.2 Z Z (mn.lit lc (l:=[]) .nil Z nb Z) (Br.row i4 d λp P=>Mt (Mt (Ml P))) h2 λl6 n2 j3 d g7=>Wa (ln (kY ?_)))))))
    refine kX (Wm (V (kP j8 (kV d.has (Ma Mh) s Z aR aC)) (VE (lE (cs:=s.toArray) d (mB Z) (ng aD aC aU) λl7 m2 d=>?_))))
    have d:=d.perm (Nr (Qb Qz) Nz)
    refine bS j λm4 h3 j=>VE (sk (B:=j3) lc d dc aD ny.1 ny.2.1 Z ny.2.2.1 ny.2.2.2 Z Z g7 (Br.lit lc (l:=[a]) (.cons (ys:=C1 a.Op a.K a.kL.kO a.kL.Word k a.Kids.length t) (kN.mk ⟨g5,Z,a2⟩) .nil) Z nb (d.at_ (Ma Mh))) h3 λl8 n3 j4 d g8=>Wa (ln ?_))
    have d:=d.kM (Kr (Db (Db St)))
    refine kX (Wm (Wh b9 (Wh e5 ?_)))
    have d:=d.perm (Nr (Qr Qz) Nz)
    obtain ⟨k8,d,a6,w,i6⟩:=ST.xW lc d H
    exact bS j λ_ c4 j=>VQ (Cv (i:=a3) aD aC Z Z i6 (vp c4) (vl c4)) (λn4 i5=>bS j λk1 h4 j=>VE (sk (B:=j4) lc d dc aD ny.1 ny.2.1 Z ny.2.2.1 ny.2.2.2 Z Z (g8.mono lc a6) (Br.sl lc i5.1 d.lb) h4 λl9 k3 j5 d g9=>Wa (lC (lD (kW ⟨e8,e7,k3,k1,j5,k8,_,J.trans a6,q.trans w,d.kM,e4,Z,e6,g9,j⟩)))))
   refine bC y (λg y=>?_) (λg y=>?_)
   ·refine Xg 6 Z Z (cB g) n (kT b5) (Xg 7 Z Z (cB g) n (kT b7) (Xg 8 Z Z (cB g) n (lI Z Z Z) (bS y λk6 c5 y=>vq 9 Z kr (.inr ⟨5,true,37,Z,Z,fs,cB g⟩) Z dc (λ_ _ h=>h) n (ni (i:=wi0 .i64 (a3-1)) kN.out aD aC Z Z H (lR c5) (lK c5)) λm6 ⟨_,⟨k4,rfl,i7⟩,i0,k9⟩=>uq 10 Z Z (cB g) n (λ_ L=>kP Z (lA (oe.hp _) (i0.mono (nI λb o P=>L.2 b o (Mt (Ml P)))) aR aC)) (uq 11 Z Z (cB g) n (λ_ L=>kP b6 (kV L Mh s Z aR aC)) (bS y λm8 i2 y=>Al 12 Z Z (cB g) (Eg d call209 ((Ko lP) k6 k4 a g5 _ _ (i7.mono lc.mono d.lb) (a2.mono lc.mono d.lb) i2) λm0 d=>?_))))))
    have n:=d.has.kM (Kb (Kr Sn))
    refine ⟨n,X 13 Z n (lh (cB g) Z) ?_⟩
    cases sj y
    refine nr kr (a7 _ _ ⟨_,d.kM,e0,b5,b6,b7,e1,e2,e3,Z⟩)
   refine Xn 6 Z Z (cB g) n (Xn 7 Z Z (cB g) n (Xn 8 Z Z (cB g) n (Xn 9 Z Z (cB g) n (Xn 10 Z Z (cB g) n (Xn 11 Z Z (cB g) n (Xn 12 Z Z (cB g) n (X 13 Z n (lg (cB g) Z) ?_)))))))
   cases sj y
   refine nr kr (a7 _ _ ⟨_,d.kM,e0,b5,b6,b7,e1,e2,e3,Z⟩)
  refine bC N (λI N=>?_) (λI N=>?_)
  ·refine Xg 2 Z Z (cB I) n (kT b4) (Xg 3 Z Z (cB I) n (lI Z Z Z) (X 4 Z n (lh (cB I) Z) ?_))
   cases sj N
   refine nr kr (a8 _ _ ⟨_,d.kM,b3,d5,d6,b4,d7,d8,d9,Z⟩)
  refine Xn 2 Z Z (cB I) n (Xn 3 Z Z (cB I) n (X 4 Z n (lg (cB I) Z) ?_))
  cases sj N
  refine nr kr (a8 _ _ ⟨_,d.kM,b3,d5,d6,b4,d7,d8,d9,Z⟩)
 rintro E W ⟨⟨eI,eN⟩,u,K,D,x,T,J,q,d,d4,a4,b2,H,M⟩
 refine kW (sg (Wh a4 (Wa (lt ?_))))
 cases sj M
 refine ma (v:=u) Z Z ?_
 obtain ⟨n8,d,g3,A,i9⟩:=ST.xW lc d H
 exact ⟨_,_,_,Z,d.lZ Sn,J.trans g3,q.trans A,ST.lp d (mu.mem Sn),u,Z,Z,i9⟩
theorem Ae {Q:nc} {r:(Formula×nc)} (h0:nN qb ((qk,Ol (ol Q) 224)::[]) qa) (c9:Sl kN 5 qb q0 qv) (hm:th Q qc qv=some r) :
  mq false pg0 186 [vP qk,vI qc,q0] qa qb ((qk,Ol (ol Q) 224)::[]) (λv L1 μ1=>∃y1,v=vA [vI r.1.Op,vI r.1.K,vS r.1.kL.kO,vS r.1.kL.Word,y1]∧L1=((qk,Ol (ol r.2) 224)::[])∧Sl kN 5 μ1 y1 r.1.Kids):=by
 let h9:Value:=vP qk
 let a0:=((ol Q).toArray:Array Value)
 let g5:=(qk,oC a0 224)::[]
 refine ve h0 75 func186 Z (λd=>sg (VE (lq d aU λW2 t d=>lr (Wa (lS (Wm ?_))))))
 let g6:Value:=vP t
 refine V (lT aD Z c9) (Wm (ln (mJ 14 13 (λi js E W=>∃I O H c3,ST false (keys g5) qa W qb ((t,Ol C5 62)::((qk,oC a0 224)::(H++c3)))∧E 0=h9∧E 1=vI qc∧E 6=g6∧E 7=I∧E 12=q0∧mn 62 kN 5 qb I O H∧pb qc Q js O=some r) c9.len ⟨vN,[],[],_,d.kM,Z,Z,Z,Z,Z,mn.nil _ _ _ _,hm⟩ ?_ ?_)))
 ·rintro h1 a i2 E W g0 ⟨⟨n,p⟩,I,O,H,c3,d,P,M,Y,a5,R,G,c⟩
  refine sg (VQ (my (i:=(h1:Int)) (x0:=a) kN.out aD aC R n c9 (aG _) g0) λk7 ⟨_,⟨l2,rfl,A⟩,f3⟩=>V (kP Z (lA d.has f3 aR aC)) (VE (lq d aU λi6 k3 d=>?_)))
  obtain ⟨y,z,rfl⟩:=A.form
  let L:=C1 a.Op a.K a.kL.kO a.kL.Word y a.Kids.length z
  refine VO (FA L.toArray d aC λi7 d=>lS (Wf pD (VB d Mh Z Z bH (Wh M (Wi Z (ln (CI c Z (λe6 c=>?_) λe6 c=>?_)))))))
  ·refine sg (Wh a5 (Wf pG (VB d Mh Z Z ei ?_)))
   have d:=d.perm (Nr (Qb (Qb (Qb Qz))) Nz)
   refine bS c λh3 e7 c=>VE (sk (B:=H) lc d dc aD ny.1 ny.2.1 Z ny.2.2.1 ny.2.2.2 Z Z G (Br.sl lc A d.lb) e7 λi8 h5 g2 d e4=>Wa (ln ?_))
   have d:=d.kM (Kr (Db St))
   exact nB (nv (ry (kW ⟨n,p,h5,h3,g2,_,d.kM (Sb (Pr Pz) (Sb (Pr Pz) St)),P,M,Y,Z,R,e4,c⟩)))
  refine kS (VA d Mh L aR aC (Wh M (Wi Z (bS c λl0 f6 c=>VE (Eg d call187 (lF.mF (DE (A.mono lc.mono d.lb) f6)) λi9 d=>ln (CI c Z (λe8 c=>?_) λe8 c=>?_))))))
  ·let d2:=(Nt (wi0 .i64 (5-qc)))
   refine sg (Wh M (Wi Z (V (lX (v:=vA d2) (mB Z) (lG aU bM (yU _ bM) kr)) ?_)))
   have d:=d.perm (Nb (Pb Pz) Nz)
   refine VO (lz (vA d2) d2.toArray d Y Z aC oc nb Z (λj0 d=>ln ?_))
   have d:=d.kM (Kb (Db (Kb (Dr St))))
   refine lB (ly (mG (ly (mG (ly ?_)))))
   obtain rfl:=sj c
   exact mR (v:=vA d2) Z Y (kV d.has Mh d2 Z aR aC) ⟨_,_,_,Z,d.lZ (Db (Kb Sn)),lm.refl _,Lo.refl,ST.lp d (mu.mem (Db (Kb Sn))),vN,Z,Z,Sl.nil _ _ _⟩
  refine kn (kX (Wh a5 (VA d Mh L aR aC (VE (lE (cs:=L.toArray) d (mB Z) (ng aD aC aU) λj3 k4 d=>?_)))))
  have d:=d.perm (Nr (Qb (Qb (Qb (Qb Qz)))) Nz)
  refine bS c λh4 e9 c=>VE (sk (B:=H) lc d dc aD ny.1 ny.2.1 Z ny.2.2.1 ny.2.2.2 Z Z G (Br.lit lc (l:=[a]) (.cons (ys:=C1 a.Op a.K a.kL.kO a.kL.Word y a.Kids.length z) (kN.mk ⟨.slice y a.Kids.length z,Z,A⟩) .nil) Z nb (d.at_ (Ma Mh))) e9 λj4 h6 g3 d e5=>Wa (lC (lD (kW ?_))))
  have d:=d.kM (Kr (Db (Db St)))
  exact ⟨n,p,h6,h4,g3,_,d.kM (Sb (Pr Pz) (Sb (Pr Pz) St)),P,M,Y,Z,R,e5,c⟩
 rintro E W ⟨⟨n,p⟩,I,O,H,c3,d,P,M,Y,a5,R,G,c⟩
 refine kW (kY (sg (Wh a5 (V (xE aD Z G) (Wm (ln (Hs c (λe2 E W=>∃d6,ST false (keys g5) qa W qb ((t,Ol C5 62)::((qk,oC a0 224)::(H++d6)))∧E 0=h9∧E 1=vI qc∧E 6=g6∧E 7=I) (λe2 f2 b6=>?_) ?_)))))))
 ·refine mJ 40 39 (λi js E W=>∃c4,ST false (keys g5) qa W qb ((t,Ol C5 62)::((qk,oC a0 224)::(H++c4)))∧E 0=h9∧E 1=vI qc∧E 6=g6∧E 7=I∧E 38=I∧tw qc Q js=some e2) G.len ⟨_,d.kM,P,M,Y,a5,Z,f2⟩ ?_ ?_
  ·rintro h2 j i3 E W g1 ⟨⟨n,p⟩,c4,d,c6,q,s,c7,c8,u⟩
   refine sg (VQ (ni (i:=(h2:Int)) kN.out aD aC c8 n G (aG _) g1) λk9 ⟨_,⟨l5,rfl,d4⟩,f5,i1⟩=>V (kP Z (lA (oe.hp _) (f5.mono (nI λb o hq=>d.has.2 b o (Mt (Mt (Ml hq))))) aR aC)) (VE (lq d aU λj9 k5 d=>?_)))
   obtain ⟨a9,b0,rfl⟩:=d4.form
   let e3:=C1 j.Op j.K j.kL.kO j.kL.Word a9 j.Kids.length b0
   let w:=wi0 .i64 (5-qc)
   refine VO (FA e3.toArray d aC λk0 d=>lr (VA d Mh e3 aR aC (Wh q (Wi Z (bS u λl1 f8 u=>VE (Eg d call187 (lF.mF (DE (d4.mono lc.mono d.lb) f8)) λk1 d=>ln ?_))))))
   have d:=d.kM (Db St)
   refine CI u Z (λf1 u=>?_) (λf1 u=>?_)
   ·refine sg (Wh q (Wi Z (V (lX (v:=vA (Nt w)) (mB Z) (lG aU bM (yU _ bM) kr)) (VO (lz (vA (Nt w)) ((Nt w).toArray) d s Z aC oc nb Z (λk2 d=>ln ?_))))))
    have d:=d.kM (Kb (Kb (Dr St)))
    refine lB (mG (ly (mG (ly ?_))))
    obtain rfl:=sj u
    replace b6:some ((⟨wi0 .i64 (5-qc),0,K0,[]⟩:Formula),Q)=some r:=b6
    obtain rfl:=sj b6
    exact mR (v:=vA (Nt w)) Z s (kV d.has Mh (Nt w) Z aR aC) ⟨_,_,_,Z,d.lZ (Db (Kb Sn)),lm.refl _,Lo.refl,ST.lp d (mu.mem (Db (Kb Sn))),vN,Z,Z,Sl.nil _ _ _⟩
   exact lU (lD (kW ⟨n,p,_,d.kM,c6,q,s,c7,c8,u⟩))
  rintro E W ⟨⟨n,p⟩,c4,d,c6,q,s,c7,c8,u⟩
  refine kW ?_
  obtain rfl:=sj u
  exact ⟨_,Z,_,d.kM,c6,q,s,c7⟩
 rintro ⟨⟩ E W ⟨d6,d,d8,d9,e0,g4⟩ b5
 refine sg (Wh g4 ?_)
 have d:=d.perm (Nr (Qb (Qb Qz)) Nz)
 obtain ⟨l8,d,c0,h,f9⟩:=ST.xW lc d G
 refine bS b5 λN f7 b5=>?_
 refine VE (eD d (bJ _) call188 (λhh=>Ig hh (f9.mono lc.mono (lm.refl _)) f7) ?_ (L0:=[]))
 rintro _ l3 h8 i5 d c1 k ⟨h7,b7,rfl,U⟩
 obtain rfl:=b7.symm
 refine Wa (lr (Wh d8 (Wh d8 (Wn (Wf N6 (VB d (Mt Mh) Z Z iQ (Wm (LJ b5 (λe1 E W=>∃d7,ST false (keys g5) qa W h8 ((t,Ol C5 62)::((qk,oC a0 224)::d7))∧E 1=vI qc∧E 6=g6∧E 7=h7∧E 54=h9∧E 63=vB e1) 4 ?_ λe1 T c2=>?_))))))))
 ·rintro d1 E W ⟨d7,d,g7,b4,c5,g8,g9⟩ D
  refine V (mK g8) (Wf N6 ?_)
  have d:=d.perm (Nb (Pb Pz) Nz)
  refine VO (lz (vB d1) ((ol (⟨d1⟩:nc)).toArray) d Z g9 sizeOf4 (acg d1) nb Z (λj6 d=>lS (Wh c5 (V (lT aD Z U) (Wi Z (ln (CI D Z (λf0 D=>?_) λf0 D=>?_)))))))
  ·refine sg (Wh c5 (bS D λg d5 D=>VQ (my (i:=0) (x0:=g) kN.out aD aC Z Z U (lR d5) (lK d5)) λk8 ⟨_,⟨l4,rfl,d3⟩,f4⟩=>V (kP Z (lA d.has f4 aR aC)) ?_))
   obtain ⟨a3,a4,rfl⟩:=d3.form
   let b8:=C1 g.Op g.K g.kL.kO g.kL.Word a3 g.Kids.length a4
   have d:=d.perm (Nb (Pb Pz) Nz)
   refine VO (lz (vA b8) b8.toArray d b4 Z aC oc nb Z (λj7 d=>lt (ly ?_)))
   obtain rfl:=sj D
   exact mR (v:=vA b8) Z b4 (kV d.has Mh b8 Z aR aC) ⟨_,_,_,Z,d.lZ (Db (Kb Sn)),c0.trans c1,h.trans k,ST.lp d (mu.mem (Db (Kb Sn))),.slice a3 g.Kids.length a4,Z,Z,d3⟩
  refine kg (Wh g7 (Wh c5 ?_))
  obtain ⟨J,K,rfl⟩:=U.form
  let i0:=C15 qc J N.length K
  refine V (lX (v:=vA i0) (pF Z Z) (lG aU bM (yU _ bM) kr)) ?_
  have d:=d.perm (Nb (Pb Pz) Nz)
  refine VO (lz (vA i0) i0.toArray d b4 Z aC oc nb Z (λj8 d=>lt ?_))
  obtain rfl:=sj D
  exact mR (v:=vA i0) Z b4 (kV d.has Mh i0 Z aR aC) ⟨_,_,_,Z,d.lZ (Db (Kb Sn)),c0.trans c1,h.trans k,ST.lp d (mu.mem (Db (Kb Sn))),.slice J N.length K,Z,Z,U⟩
 refine bC T (λx T=>?_) (λx T=>?_)
 ·refine un x (un x (un x (V (lh (cB x) Z) ?_)))
  obtain rfl:=sj T
  exact c2 _ _ ⟨_,d.kM,d9,e0,Z,Z,Z⟩
 refine ug x (kT Z) (ug x (lT aD Z U) (ug x (lI Z Z Z) (V (lg (cB x) Z) ?_)))
 obtain rfl:=sj T
 exact c2 _ _ ⟨_,d.kM,d9,e0,Z,Z,Z⟩
end Go.Proofs.YtlfibegniofmjaaGreat
