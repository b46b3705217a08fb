/- a part of a proof of AuditPasses -/
import Derived.Test.YtojmckcglalbnaaGreatAP2W3p
set_option linter.all false
namespace Go.Proofs.YtojmckcglalbnaaGreat
open Go.Proofs.Tryz renaming prog → pg0
open Go.RowKit
set_option maxRecDepth 10000
open Tryz
variable {q0 q1 q2 q3 q4 q5 q6 q7 q8 q9:Value} {qa:World} {qb qc qd:Int} {qe:mO} {qf qg:Bool} {qh qi qj qk:Nat} {ql qm qn:List Int} {qo qp qq qr qs:LO} {qt qu:List lg} {qv qw:List lh} {qx:mD} {qy qz:Formula} {qA qB:List Formula} {qC:lg} {qD:Option mc} {qE qF:ByteArray} {qG:List oe} {qH qI:ow} {qJ:lm} {qK qL:lh} {qM:List (ByteArray×(List lg))} {qN:List (lh×(List (ByteArray×Bool)))} {qO:List (lh×(List lg))} {qP:List mT} {qQ:mf} {qR:pj} {qS:(Bool×(List Int))} {qT qU:List Signed} {qV:List np} {qW:List (ByteArray×Bool)} {qX:List (List Int)} {qY:List tT} {qZ:(Formula×Formula)→Option Int}
theorem Qh (c:Sl lU 15 (hp qa) q0 qx.lm.lK) (g:Sl mH 8 (hp qa) q1 qx.lm.mi) (j:Sl (Pl lj) 9 (hp qa) q2 qx.lD) (B:Sl (Pl lj) 9 (hp qa) q3 qx.Shown) (y:Sl (Pl lp) 2 (hp qa) q4 qx.lL) (z:Sl (Pl lp) 2 (hp qa) q5 qx.me) (a8:Sl (Pl lp) 2 (hp qa) q6 qv) (hm:Bv qx qv=some qw) :
  na false pg0 186 [vA [vS qx.lm.Name,q0,q1,vS qx.mI,vI qx.Room,q2,q3,q4,q5],q6] qa 33 lp 2 qw:=by
 refine vr 19 func186 Z (λa=>sg ?_)
 obtain ⟨A1,c2,rfl⟩:=c.form
 obtain ⟨A3,c4,rfl⟩:=g.form
 obtain ⟨A5,c6,rfl⟩:=j.form
 obtain ⟨A7,c8,rfl⟩:=B.form
 obtain ⟨A9,a2,rfl⟩:=y.form
 obtain ⟨U,a3,rfl⟩:=z.form
 refine VE (mA a Z (λe7 a6 a=>Wa (lr (VA a Mh (C2 qx.lm.Name A1 qx.lm.lK.length c2 A3 qx.lm.mi.length c4 qx.mI qx.Room A5 qx.lD.length c6 A7 qx.Shown.length c8 A9 qx.lL.length a2 U qx.me.length a3) eK dN (bS hm λN d1 hm=>VE (oG a call218 (O8 mv mv mv mv mv mv d1) λe8 f3 f6 e5 a D O t=>Wm ?_))))))
 obtain ⟨Y,a4,rfl⟩:=t.form
 obtain ⟨s,a5,rfl⟩:=a8.form
 refine VE (mn (cs:=#[.slice Y N.length a4,.slice s qv.length a5]) a (pZ Z Z) (nU gr fX zeroValue27) λe9 d7 a=>bS hm λd8 d2 hm=>VE (oG a call115 (na.mN (Bi (wo.lit (l:=[N,qv]) (vs:=[.slice Y N.length a4,.slice s qv.length a5]) Z nb (a.at_ Mh) (.cons (t.sl nC λb o d=>a.at_ (Mt (Ml d))) (.cons mv .nil))) d2)) λf0 e0 f7 e6 a H P c9=>bS hm λd9 d3 hm=>VE (oG a kf (yx (c9.sl nC λb o d=>a.at_ (Ml d)) d3) λf1 e1 f8 d5 a I Q d0=>V (pG (by exact pp Z) Z) (bS hm λM d4 hm=>?_))))
 refine VE (Gi a (Cr Qz Cn) call144 (λhH hN aa q=>Cv ⟨hH,hN,lM.refl _⟩ d0 ⟨219,#[],#[vP a6],Z,call219,λW x qw hs hm=>(Ng mv mv mv mv mv mv (At.of (hs _ _ (q _ _ (Ma (Mt (Ma Mh))))) _ Z) hm).mN⟩ d4) λf2 f4 f9 e4 a e3 a1 h c7=>?_)
 obtain ⟨f5,d6,T,rfl,J⟩:=c7
 replace T:=T.symm; subst T
 have a:=a.perm (Tr Tn)
 refine Wa (ln ?_)
 have a:=a.ll (Kr (Dr (Db (Dr (Db St)))))
 refine sg (Wm (Wm (V (sf aQ Z J) (V (Om (k:=.i64) Z Z) (bS hm λ_ a9 hm=>VQ (yK (i:=(if 16 < (M.length:Int) then 16 else (M.length:Int))) aQ aM Z Z J nC (uh a9) (tY a9)) λe2 u=>Wa (lt ?_))))))
 cases sj hm
 exact ma (v:=e2) Z Z ⟨_,d6,Z,a.nT (λp d=>Ml d) u.nd,u⟩
theorem LY (k:Sl (Pl lj) 9 (hp qa) q0 qt) (i:At (hp qa) (vP qh) [q0]) (hm:Dk qC qt=some qf) :
  mo true pg0 222 [vA (lj qC),vP qh] qa (vB qf):=by
 refine cG 8 func222 Z (λa=>sg (VE (mA a Z (λu z a=>Wa (lr (V (lq Z (om a.has (y:=q0) i dQ)) (VA a Mh (lj qC) bF aI (bS hm λB t hm=>VE (Eg a call114 (CE mv t) λx a=>V (nK Z) (Wa ?_))))))))))
 refine ln ?_
 exact lO (rQ hm a)
theorem OF (c:Sl lU 15 (hp qa) q0 qx.lm.lK) (g:Sl mH 8 (hp qa) q1 qx.lm.mi) (j:Sl (Pl lj) 9 (hp qa) q2 qx.lD) (B:Sl (Pl lj) 9 (hp qa) q3 qx.Shown) (y:Sl (Pl lp) 2 (hp qa) q4 qx.lL) (z:Sl (Pl lp) 2 (hp qa) q5 qx.me) (hm:Az qx=some qt) :
  na false pg0 187 [vA [vS qx.lm.Name,q0,q1,vS qx.mI,vI qx.Room,q2,q3,q4,q5]] qa 69 lj 9 qt:=by
 refine vr 16 func187 Z (λa=>sg ?_)
 obtain ⟨U,c2,rfl⟩:=c.form
 obtain ⟨Zq,c4,rfl⟩:=g.form
 obtain ⟨A5,c6,rfl⟩:=j.form
 obtain ⟨A7,c8,rfl⟩:=B.form
 obtain ⟨A9,M,rfl⟩:=y.form
 obtain ⟨K,N,rfl⟩:=z.form
 let a0:=C2 qx.lm.Name U qx.lm.lK.length c2 Zq qx.lm.mi.length c4 qx.mI qx.Room A5 qx.lD.length c6 A7 qx.Shown.length c8 A9 qx.lL.length M K qx.me.length N
 refine VE (mA a Z (λd4 e0 a=>Wa (lr (VA a Mh a0 eK dN (bS hm λQ b7 hm=>VE (oG a call221 (IQ mv mv mv mv mv mv b7) λd5 e1 e4 d3 a G P t=>VE (lY a iN λd6 a4 a=>?_)))))))
 obtain ⟨Y,a6,rfl⟩:=t.form
 let s:Value:= .slice Y Q.length a6
 refine VO (lZ s (#[s]) a Z Z fx oc nb Z (λd7 a=>lr (VA a (Mt (Ma Mh)) a0 eK dN (bS hm λc5 b9 hm=>VE (oG a call217 (Mb mv mv mv mv mv mv b9) λd8 c7 e5 c1 a d0 a7 b6=>V (pG (by exact pp Z) Z) (bS hm λO c0 hm=>?_))))))
 refine VE (Gi a (Cr Qz Cn) call92 (λhH hN aa d=>wO ⟨hH,hN,lM.refl _⟩ b6 ⟨222,#[],#[vP a4],Z,call222,λW x qt hs hm=>(LY (t.sl mY λb o h=>hs _ _ ((λb o h=>d b o (Mt (Ml h))) b o h)) (At.of (hs _ _ (d _ _ Mh)) _ Z) hm).mN⟩ c0) λd9 e2 e6 d2 a d1 a8 q b5=>?_)
 obtain ⟨e3,c3,T,rfl,J⟩:=b5
 replace T:=T.symm; subst T
 have a:=a.perm (Tr Tn)
 refine Wa (ln ?_)
 have a:=a.ll (Kr (Db (Dr (Db St))))
 refine sg (Wm (Wm (V (sf aN Z J) (V (Om (k:=.i64) Z Z) (bS hm λ_ u hm=>VQ (yK (i:=(if 8 < (O.length:Int) then 8 else (O.length:Int))) aN aI Z Z J mY (uh u) (tY u)) λc9 I=>Wa (lt ?_))))))
 cases sj hm
 exact ma (v:=c9) Z Z ⟨_,c3,Z,a.nT (λp h=>Ml h) I.nd,I⟩
theorem HS {u O P W b7 b9 J K M N Q T U Y c9:Value} {r:(ow×Int×mD)} (h0:oa qe ((qh,Ob (Cm qx q0 q1 q2 q3 q4 q5 q6 q7 q8 q9 u O P W b7 b9 J K M N Q T U Y) 101)::[]) qa) (t:Sl lU 15 qe q0 qx.lm.lK) (x:Sl mH 8 qe q1 qx.lm.mi) (B:Sl (Pl lj) 9 qe q2 qx.lD) (a2:Sl (Pl lj) 9 qe q3 qx.Shown) (I:Sl (Pl lp) 2 qe q4 qx.lL) (Zq:Sl (Pl lp) 2 qe q5 qx.me) (f5:Sl (Pl lp) 2 qe c9 qv) (hm:xV qx qv=some r) :
  my false pg0 152 [vP qh,c9] qa qe ((qh,Ob (Cm qx q0 q1 q2 q3 q4 q5 q6 q7 q8 q9 u O P W b7 b9 J K M N Q T U Y) 101)::[]) (λv L1 μ1=>∃y1 y3 y5 y7 y9 e8 e9 f0,v=vT [vA [vI r.1.Kind,vI r.1.ny,vI r.1.E,vS r.1.Name,y1,y3],vI r.2.1]∧L1=((qh,Ob (Cm r.2.2 y5 y7 y9 e8 e9 f0 q6 q7 q8 q9 u O P W b7 b9 J K M N Q T U Y) 101)::[])∧Sl (Pl lp) 2 μ1 y1 r.1.nX∧Sl mR 10 μ1 y3 r.1.nm∧Sl lU 15 μ1 y5 r.2.2.lm.lK∧Sl mH 8 μ1 y7 r.2.2.lm.mi∧Sl (Pl lj) 9 μ1 y9 r.2.2.lD∧Sl (Pl lj) 9 μ1 e8 r.2.2.Shown∧Sl (Pl lp) 2 μ1 e9 r.2.2.lL∧Sl (Pl lp) 2 μ1 f0 r.2.2.me):=by
 refine rG h0 44 func152 Z (λa=>sg (VE (lY a cC λW2 b1 a=>V (nB Z) (lS (V (lz Z) (V (ox iJ Z Z) (ln (oV Z ?_))))))))
 refine kg (V (lz Z) (V (lX Z) (VA a (Mt Mh) [vS qx.lm.Name,q0,q1,vS qx.mI,vI qx.Room,q2,q3,q4,q5] eK dN (V (lz Z) (bS hm λr3 g7 hm=>VE (oG a call186 (Qh mv mv mv mv mv mv mv g7) λW5 v9 a1 i4 a y k c6=>V (nB Z) (lr ?_)))))))
 refine V (lz Z) (V (lz Z) (V (lX Z) (VA a (Ma (Mt Mh)) [vS qx.lm.Name,q0,q1,vS qx.mI,vI qx.Room,q2,q3,q4,q5] eK dN (bS hm λg8 f7 hm=>VE (oG a call187 (OF mv mv mv mv mv mv f7) λi8 h1 k1 i5 a D d f3=>?_)))))
 obtain ⟨k2,a,G,g,g1⟩:=ST.xM a f3 mY
 refine bS hm λz f8 hm=>?_
 refine VE (eD a (Cb (Pr (Pb Pz)) Cn) call184 (λhh=>GZ hh mv mv mv mv mv mv mv f8) ?_)
 rintro _ j8 k3 i3 a d2 h ⟨k0,e3,e4,e5,e6,e7,h5,c7,rfl,d6,d7,d8,d9,e0,e1,c8⟩
 cases c7
 have a:=a.perm (Tb Tn)
 refine V (lz Z) (V (pA Z Z) (V (pA Z Z) (V (nB Z) (V (nB Z) (lS (V (lz Z) (V (mL Z Z Z) (ln (CI hm Z (λf6 hm=>?_) λf6 hm=>?_)))))))))
 ·refine sg (V (mW (v:=vA C4) pP (mz cC bO (Be _ bO) kr)) (V (lz Z) ?_))
  have a:=a.perm (Nb (Pb (Pr Pz)) Nz)
  refine VO (FA C4.toArray a bR λj0 a=>V (nB Z) (ln ?_))
  have a:=a.ll (Kb (Kb (Dr St)))
  refine lO (mj ?_)
  cases sj hm
  exact rf (v0:=vA C4) (v1:=vI z.2.1) Z Z (lC a.has Mh C4 Z dv bR) Z ⟨_,_,_,Z,a.mB (Db (Kb Sn)),((y.trans D).trans G).trans d2,((k.trans d).trans g).trans h,ST.lG a (mJ.mem (Db (Kb Sn))),vN,vN,e3,e4,e5,e6,e7,h5,Z,Z,Sl.nil _ _ _,Sl.nil _ _ _,d7,d8,d9,e0,e1,c8⟩
 refine kg (V (lz Z) (V (lz Z) (V (lX Z) (V (ly F2 Z) (VB a Mh Z Z eU (V (lz Z) ?_))))))
 obtain ⟨d0,d1,rfl⟩:=c8.form
 obtain ⟨a6,a7,rfl⟩:=c6.form
 let b8:Value:= .slice a6 r3.length a7
 refine VE (mn (cs:=#[.slice d0 z.2.2.me.length d1,b8]) a (pZ Z Z) (nU gr fX zeroValue27) λj3 g4 a=>bS hm λg9 f9 hm=>VE (oG a call115 (na.mN (Bi (wo.lit (l:=[z.2.2.me,r3]) (vs:=[.slice d0 z.2.2.me.length d1,b8]) Z nb (a.at_ Mh) (.cons mv (.cons (c6.sl nC λb o hq=>a.at_ (Mt (Mt (Ml hq)))) .nil))) f9)) λj4 h2 k4 i6 a a3 i f4=>bS hm λe2 g0 hm=>VE (oG a kf (yx (f4.sl nC λb o hq=>a.at_ (Ml hq)) g0) λj5 j9 k5 i7 a a4 j d5=>V (lX Z) (V (ly F2 Z) ?_))))
 obtain ⟨d3,d4,rfl⟩:=d5.form
 let c0:Value:= .slice d3 e2.length d4
 have a:=a.perm (Nb (Pr (Pr (Pb Pz))) Nz)
 refine VO (lZ c0 (Cm z.2.2 e3 e4 e5 e6 e7 c0 q6 q7 q8 q9 u O P W b7 b9 J K M N Q T U Y) a Z Z fX oc nb Z (λj6 a=>ln ?_))
 have a:=a.ll (Kb (Kr (Dr (Db St))))
 refine sg (V (lz Z) (V (lz Z) ?_))
 obtain ⟨c1,c3,rfl⟩:=d6.form
 let a0:=C16 a6 r3.length a7 c1 z.1.length c3
 refine V (mW (v:=vA a0) (I5 Z Z Z) (mz cC bO (Be _ bO) kr)) ?_
 have a:=a.perm (Nb (Pb (Pr (Pr Pz))) Nz)
 refine VO (FA a0.toArray a bR λj7 a=>V (nB Z) (lt ?_))
 cases sj hm
 refine rf (v0:=vA a0) (v1:=vI 0) Z Z (lC a.has Mh a0 Z dv bR) Z ?_
 have a:=a.perm (Nr (Qb (Qb (Qr Qz))) Nz)
 obtain ⟨k6,a,a5,q,g2⟩:=ST.xM a c6 nC
 have a:=a.perm (Nr (Qb (Qb Qz)) Nz)
 obtain ⟨k7,a,H,s,g3⟩:=ST.xM a d5 nC
 exact ⟨_,_,_,Z,a.mB (Db (Kb Sn)),((((((y.trans D).trans G).trans d2).trans a3).trans a4).trans a5).trans H,((((((k.trans d).trans g).trans h).trans i).trans j).trans q).trans s,ST.lG a (mJ.mem (Db (Kb Sn))),b8,.slice c1 z.1.length c3,e3,e4,e5,e6,e7,c0,Z,Z,mv,mv,mv,mv,mv,mv,mv,g3⟩
set_option maxHeartbeats 4000000 in
theorem GX {z Q a9 Y M:Int} {U:Bool} {y I:Int} {r:(ow×Int×mD)} (h0:oa qe ((qh,Ob (tz qx qR qy q0 q1 q2 q3 q4 q5 q6 q7 qi Y M U y I) 101)::((qi,Ob (po qf qg qb qc qd z Q q8 a9) 139)::[])) qa) (G:Sl lU 15 qe q0 qx.lm.lK) (H:Sl mH 8 qe q1 qx.lm.mi) (J:Sl (Pl lj) 9 qe q2 qx.lD) (a5:Sl (Pl lj) 9 qe q3 qx.Shown) (a0:Sl (Pl lp) 2 qe q4 qx.lL) (a4:Sl (Pl lp) 2 qe q5 qx.me) (c6:Sl lx 5 qe q6 qy.Kids) (j4:pV nh qe q7 qD) (d9:Sl (Pl (lJ .u8)) 1 qe q8 ql) (hm:uG qx qR qy qD qf qg qb qc qd z Q ql a9 Y M U y I=some r) :
  my false pg0 113 [vP qh] qa qe ((qh,Ob (tz qx qR qy q0 q1 q2 q3 q4 q5 q6 q7 qi Y M U y I) 101)::((qi,Ob (po qf qg qb qc qd z Q q8 a9) 139)::[])) (λv L1 μ1=>∃y1 y3 y5 y7 y9 g7 e4 e5,v=vT [vA [vI r.1.Kind,vI r.1.ny,vI r.1.E,vS r.1.Name,y1,y3],vI r.2.1]∧L1=((qh,Ob (tz r.2.2 qR qy y5 y7 y9 g7 e4 e5 q6 q7 qi Y M U y I) 101)::((qi,Ob (po qf qg qb qc qd z Q q8 a9) 139)::[]))∧Sl (Pl lp) 2 μ1 y1 r.1.nX∧Sl mR 10 μ1 y3 r.1.nm∧Sl lU 15 μ1 y5 r.2.2.lm.lK∧Sl mH 8 μ1 y7 r.2.2.lm.mi∧Sl (Pl lj) 9 μ1 y9 r.2.2.lD∧Sl (Pl lj) 9 μ1 g7 r.2.2.Shown∧Sl (Pl lp) 2 μ1 e4 r.2.2.lL∧Sl (Pl lp) 2 μ1 e5 r.2.2.me):=by
 let j7:Value:=vS qy.lh.Word
 let j2:Value:=vS qy.lh.lu
 refine rG h0 38 func113 Z (λa=>sg (VE (lY a cC λW2 b1 a=>Wa (lS (Wm (Wn (Wf AN (Wf La (VB a (Mt Mh) Z Z bK ?_)))))))))
 refine Wi Z (ln (CI hm Z (λj5 hm=>?_) λj5 hm=>?_))
 ·refine sg (Wm (Wn (Wf Ea (bS hm λi j6 hm=>?_))))
  let l0:Value:=vS i.1.Name
  let j9:Value:=vI i.1.ny
  let j8:Value:=vI i.1.Kind
  refine VE (eD a (Cb (Pb Pz) Cn) call151 (λx=>OD x mv mv mv mv mv mv j6) ?_)
  rintro _ n2 ad n0 a h1 aa ⟨e4,e5,k0,k1,k2,k3,k4,k5,d4,rfl,e2,e3,h2,h3,h4,h5,h6,h7⟩
  cases d4
  have a:=a.perm (Tb Tn)
  refine Wx Z (Wx Z ?_)
  obtain ⟨c9,d1,rfl⟩:=e2.form
  let d3:Value:= .slice c9 i.1.nX.length d1
  obtain ⟨d0,d2,rfl⟩:=e3.form
  let O:Value:= .slice d0 i.1.nm.length d2
  let a8:Value:=vA [j8,j9,vI i.1.E,l0,d3,O]
  have a:=a.perm (Nb (Pb Pz) Nz)
  refine VO (lZ a8 (#[j8,j9,vI i.1.E,l0,d3,O]) a Z Z bR oc nb Z (λn1 a=>Wa (lt (mj ?_))))
  cases sj hm
  exact rf (v0:=a8) (v1:=vI i.2.1) Z Z (lC a.has Mh [j8,j9,vI i.1.E,l0,d3,O] Z dv bR) Z ⟨_,_,_,Z,a.mB (Db (Kb (Kb Sn))),h1,aa,ST.lG a (mJ.mem (Db (Kb (Kb Sn)))),d3,O,k0,k1,k2,k3,k4,k5,Z,Z,e2,e3,h2,h3,h4,h5,h6,h7⟩
 refine kS (Wm (Wn (Wf AN (Wf FU (VB a (Mt Mh) Z Z fe (ln (CI hm Z (λg9 hm=>?_) λg9 hm=>?_)))))))
 ·refine lH ?_
  have a:=a.drew
  have d:=a.has.ll Sn
  have g:=a.has.ll (Db (Kb Sn))
  refine rW 8 d g lV (nu 0 Z d g (lz Z) (nu 1 Z d g (lX Z) (nu 2 Z d g (ly Ea Z) (nu 3 Z d g (lz Z) (nu 4 Z d g (lX Z) (nu 5 Z d g (ly TR Z) (xh 6 Z kr (.inl Z) Z dc (λ_ _ h=>⟨h.1,uk br h.2⟩) ⟨d,λ_=>g⟩ (λl W ab hs=>have hS:=(hs.2 (ab.Sa 8 [7,6] kr Z)); lq Z (lC hS Mh [vI qy.Op,vI qy.K,j2,j7,q6] Z bD aD)) (bS hm λh8 e9 hm=>XE 7 Z (oG a call153 (Ei mv e9) λl4 h9 m6 l3 a K j e8=>?_)))))))))
  have d:=a.has.nx K Sn
  have g:=a.has.nx K (Dr (Db (Kb Sn)))
  refine ⟨⟨d,λ_=>g⟩,?_⟩
  obtain ⟨m7,a,a6,k,f2⟩:=ST.xM a e8 nC
  refine bS hm λt f0 hm=>?_
  let k9:Value:=vI t.1.ny
  let k8:Value:=vI t.1.Kind
  refine XE 8 Z (eD a (Cb (Pb Pz) Cn) call152 (λx=>HS x mv mv mv mv mv mv mv f0) ?_)
  rintro _ m0 m8 l1 a c4 q ⟨m2,m3,i0,i1,i2,i3,i4,i5,c7,rfl,d5,d6,f3,f4,f5,f6,f7,f8⟩
  cases c7
  have a:=a.perm (Tb Tn)
  have d:=a.has.nx ((K.trans a6).trans c4) Sn
  refine ⟨⟨d,λh=>tC kr h⟩,xh 9 Z kr (.inl Z) Z dc (λ_ _ h=>⟨h.1,uk br h.2⟩) ⟨d,λh=>tC kr h⟩ (λ_ _ _ _=>pA Z Z) (xh 10 Z kr (.inl Z) Z dc (λ_ _ h=>⟨h.1,uk br h.2⟩) ⟨d,λh=>tC kr h⟩ (λ_ _ _ _=>pA Z Z) ?_)⟩
  obtain ⟨b5,c0,rfl⟩:=d5.form
  let g6:Value:= .slice b5 t.1.nX.length c0
  obtain ⟨b6,c1,rfl⟩:=d6.form
  let g8:Value:= .slice b6 t.1.nm.length c1
  let c5:Value:=vA [k8,k9,vI t.1.E,vS t.1.Name,g6,g8]
  have a:=a.perm (Nb (Pb Pz) Nz)
  refine XO 11 Z (lZ c5 (#[k8,k9,vI t.1.E,vS t.1.Name,g6,g8]) a Z Z bR oc nb Z (λl6 a=>?_))
  have d:=a.has.nx ((K.trans a6).trans c4) Sn
  refine ⟨⟨d,λh=>tC kr h⟩,xh 12 Z kr (.inl Z) Z dc (λ_ _ h=>⟨h.1,uk br h.2⟩) ⟨d,λh=>tC kr h⟩ (λ_ _ _ _=>nB Z) (mG kr (lE (lO (mj ?_))))⟩
  cases sj hm
  exact rf (v0:=c5) (v1:=vI t.2.1) Z Z (lC a.has Mh [k8,k9,vI t.1.E,vS t.1.Name,g6,g8] Z dv bR) Z ⟨_,_,_,Z,a.mB (Db (Kb (Kb Sn))),(K.trans a6).trans c4,(j.trans k).trans q,ST.lG a (mJ.mem (Db (Kb (Kb Sn)))),g6,g8,i0,i1,i2,i3,i4,i5,Z,Z,d5,d6,f3,f4,f5,f6,f7,f8⟩
 refine kg (Wm (Wn (Wf Ea (bS hm λu f1 hm=>?_))))
 let l5:Value:=vS u.1.Name
 let k7:Value:=vI u.1.ny
 let k6:Value:=vI u.1.Kind
 refine VE (eD a (Cb (Pb Pz) Cn) call152 (λx=>HS x mv mv mv mv mv mv (Sl.nil _ _ _) f1) ?_)
 rintro _ m1 m9 l2 a e1 s ⟨m4,m5,i6,i7,i8,i9,j0,j3,c8,rfl,d7,d8,f9,g0,g1,g2,g3,g4⟩
 cases c8
 have a:=a.perm (Tb Tn)
 refine Wx Z (Wx Z ?_)
 obtain ⟨b7,c2,rfl⟩:=d7.form
 let P:Value:= .slice b7 u.1.nX.length c2
 obtain ⟨b9,c3,rfl⟩:=d8.form
 let g5:Value:= .slice b9 u.1.nm.length c3
 let b8:Value:=vA [k6,k7,vI u.1.E,l5,P,g5]
 have a:=a.perm (Nb (Pb Pz) Nz)
 refine VO (lZ b8 (#[k6,k7,vI u.1.E,l5,P,g5]) a Z Z bR oc nb Z (λl8 a=>Wa (lt ?_)))
 cases sj hm
 exact rf (v0:=b8) (v1:=vI u.2.1) Z Z (lC a.has Mh [k6,k7,vI u.1.E,l5,P,g5] Z dv bR) Z ⟨_,_,_,Z,a.mB (Db (Kb (Kb Sn))),e1,s,ST.lG a (mJ.mem (Db (Kb (Kb Sn)))),P,g5,i6,i7,i8,i9,j0,j3,Z,Z,d7,d8,f9,g0,g1,g2,g3,g4⟩
theorem Mg (g:Sl (Pl lp) 2 (hp qa) q0 qH.nX) (c:Sl mR 10 (hp qa) q1 qH.nm) (hm:yL qH=some qf) :
  mo true pg0 71 [vA [vI qH.Kind,vI qH.ny,vI qH.E,vS qH.Name,q0,q1]] qa (vB qf):=by
 refine cG 16 func71 Z (λd=>sg ?_)
 obtain ⟨D,H,rfl⟩:=g.form
 obtain ⟨G,I,rfl⟩:=c.form
 refine VE (mA d Z (λK M d=>Wa (lr (Wf Aa (VB d Mh Z Z bK (Wi Z (Wm (LJ hm (λx E W=>∃z,ST true nf qa W (hp qa) z∧E 2=vB false∧E 15=vB x) 9 ?_ λx t u=>?_))))))))
 ·rintro N E W ⟨z,d,J,B⟩ y
  exact Wg B (lt (rQ y d))
 refine bC t (λa t=>?_) (λa t=>?_)
 ·refine ug a (ly Cf Z) (ug a (lq Z (lA d.has Mh Z eU)) (ug a (mP aQ Z g) (ug a (ly AM Z) (ug a (lq Z (lA d.has Mh Z iG)) (ug a (mP cF Z c) (ug a (mL Z Z Z) (ug a (mL Z Z Z) (V (lQ (cB a) Z) ?_))))))))
  cases sj t
  exact u _ _ ⟨_,d.ll (Db St),Z,Z⟩
 refine un a (un a (un a (un a (un a (un a (un a (un a (V (lN (cB a) Z) ?_))))))))
 cases sj t
 exact u _ _ ⟨_,d.ll (Db St),Z,Z⟩
set_option maxHeartbeats 4000000 in
theorem Bu (b9:Nat) (c:mD) (g i k B y z:Value) (a:pj) (u:Formula) (J a9:Value) (d0:Option mc) (H:Nat) (U D:Bool) (T t G Q N:Int) (K:Value) (b2:List Int) (M a3 c2:Int) (a0:Bool) (a2 b1:Int) (a1:Bool) (r:((List (List Int))×mD×Bool×Bool×Int×Int×Int×(List Int)×Int×Int×Int)) (w:World) (h0:oa qe ((b9,Ob (tz c a u g i k B y z J a9 H a3 c2 a0 a2 b1) 101)::((H,Ob (po U D T t G Q N K M) 139)::[])) w) (Y:Sl lU 15 qe g c.lm.lK) (Zq:Sl mH 8 qe i c.lm.mi) (a4:Sl (Pl lj) 9 qe k c.lD) (a8:Sl (Pl lj) 9 qe B c.Shown) (a6:Sl (Pl lp) 2 qe y c.lL) (a7:Sl (Pl lp) 2 qe z c.me) (b0:Sl lx 5 qe J u.Kids) (c7:pV nh qe a9 d0) (b7:Sl (Pl (lJ .u8)) 1 qe K b2) (hm:tJ c a u d0 U D T t G Q N b2 M a3 c2 a0 a2 b1 a1=some r) :
  my false pg0 68 [vP b9,vB a1] w qe ((b9,Ob (tz c a u g i k B y z J a9 H a3 c2 a0 a2 b1) 101)::((H,Ob (po U D T t G Q N K M) 139)::[])) (λv L1 μ1=>∃y1 y3 y5 y7 y9 m0 m1 m2,v=y1∧L1=((b9,Ob (tz r.2.1 a u y3 y5 y7 y9 m0 m1 J a9 H r.2.2.2.2.2.2.2.2.1 r.2.2.2.2.2.2.2.2.2.1 a0 a2 r.2.2.2.2.2.2.2.2.2.2) 101)::((H,Ob (po r.2.2.1 r.2.2.2.1 r.2.2.2.2.1 t G r.2.2.2.2.2.1 r.2.2.2.2.2.2.1 m2 M) 139)::[]))∧Sl (wo (lJ .u8) 1) 1 μ1 y1 r.1∧Sl lU 15 μ1 y3 r.2.1.lm.lK∧Sl mH 8 μ1 y5 r.2.1.lm.mi∧Sl (Pl lj) 9 μ1 y7 r.2.1.lD∧Sl (Pl lj) 9 μ1 y9 r.2.1.Shown∧Sl (Pl lp) 2 μ1 m0 r.2.1.lL∧Sl (Pl lp) 2 μ1 m1 r.2.1.me∧Sl (Pl (lJ .u8)) 1 μ1 m2 r.2.2.2.2.2.2.2.1):=by
 let j1:Value:=vS u.lh.lu
 let e9:=((po U D T t G Q N K M):Array Value)
 let b8:=((tz c a u g i k B y z J a9 H a3 c2 a0 a2 b1):Array Value)
 let i6:=(b9,oC b8 101)::((H,oC e9 139)::[])
 refine rG h0 58 func68 Z (λd=>sg (Wa (ln (lH (lH ?_)))))
 have d:=d.drew
 have h:=d.has.ll (Kb Sn)
 refine mF h lV (X 0 Z h (lz Z) (X 1 Z h (lX Z) (X 2 Z h (ly AN Z) (X 3 Z h (ly FU Z) (XH 4 Z h (λ_ hS=>lq Z (lA hS Mh Z fe)) (X 5 Z h (lz Z) (PJ hm (λh9 E W=>∃g3 h5,lM qe g3∧Lo (keys i6) w qe g3∧ST false (keys i6) w W g3 ((b9,oC b8 101)::((H,oC e9 139)::h5))∧E 0=vP b9∧E 1=vB a1∧E 25=vB h9) (bm 17 131071) 0 ?_ λh9 c6 g7=>?_)))))))
 ·rintro s4 E W ⟨g3,h5,j,q,d,f0,m5,m6⟩ O
  refine mG kr (lE (CI O m6 (λj6 O=>?_) λj6 O=>?_))
  ·refine sg (Wh f0 (V (mW (v:=vA [vI 3,vI 0,vI 0,vS zS,vN,vN]) (nw Z) (mz cC bO (Be _ bO) kr)) (bS O λf1 j9 O=>?_)))
   refine VE (eD d (Cb Pz (Cb Pz Cn)) call29 (λhh=>uT hh mv mv mv mv mv mv mv mv mv (Sl.nil _ _ _) (Sl.nil _ _ _) j9) ?_)
   rintro _ r6 s8 o4 d b3 aa ⟨i0,i1,f3,rfl,k9,h3⟩
   obtain rfl:=f3.symm
   have d:=d.perm (Tb (Tb Tn))
   refine Wa (lr (Wh f0 (bS O λr0 k0 O=>?_)))
   refine VE (eD d (Cb Pz (Cb Pz Cn)) call37 (λhh=>my.mN (sZ hh mv mv mv mv mv mv mv mv mv k0)) ?_)
   rintro _ r7 s9 o5 d c3 ab ⟨f4,rfl⟩
   obtain rfl:=f4.symm
   have d:=d.perm (Tb (Tb Tn))
   refine lr (Wm (Wa (lt (mj ?_))))
   obtain rfl:=sj O
   exact ma (v:=i0) Z Z ⟨_,_,_,Z,d.mB (Kb (Kb Sn)),(j.trans b3).trans c3,(q.trans aa).trans ab,ST.lG d (mJ.mem (Kb (Kb Sn))),i0,g,i,k,B,y,z,i1,Z,Z,mv,mv,mv,mv,mv,mv,mv,mv⟩
  refine kg (Wh f0 (bS O λI k1 O=>?_))
  let j0:Value:=vI I.1.E
  let i9:Value:=vS I.1.Name
  let i8:Value:=vI I.1.ny
  let i7:Value:=vI I.1.Kind
  refine VE (eD d (Cb Pz (Cb Pz Cn)) call113 (λhh=>GX hh mv mv mv mv mv mv mv mv mv k1) ?_)
  rintro _ r8 n6 o6 d b5 P ⟨s6,s7,d9,e0,e1,e2,e3,e4,f5,rfl,g1,g2,d3,d4,d5,d6,d7,d8⟩
  obtain rfl:=f5.symm
  have d:=d.perm (Tb (Tb Tn))
  refine Wm (Wx Z (Wx Z (VE (lY d cC λaj h7 d=>?_))))
  obtain ⟨e5,e7,rfl⟩:=g1.form
  let g5:Value:= .slice e5 I.1.nX.length e7
  obtain ⟨e6,e8,rfl⟩:=g2.form
  let g6:Value:= .slice e6 I.1.nm.length e8
  refine VO (FA (#[i7,i8,j0,i9,g5,g6]) d bR λan d=>Wa (ln (lH (bg (Wm (Wi Z (Wa (ln (CI O Z (λj7 O=>?_) λj7 O=>?_)))))))))
  ·refine sg (Wh f0 (Wm (bS O λr1 k2 O=>?_)))
   refine VE (eD d (Cb (Pb Pz) (Cb (Pb Pz) Cn)) call30 (λhh=>pX hh mv mv mv mv mv mv mv mv mv k2) ?_)
   rintro _ r9 t0 o7 d c8 ad ⟨i2,m9,f6,rfl,l0,l1⟩
   obtain rfl:=f6.symm
   have d:=d.perm (Tb (Tb Tn))
   refine Wa (ln ?_)
   have d:=d.ll (Kb (Kb (Db St)))
   refine lO (nz (mj ?_))
   obtain rfl:=sj O
   exact ma (v:=i2) Z Z ⟨_,_,_,Z,d.mB (Kb (Kb Sn)),(j.trans b5).trans c8,(q.trans P).trans ad,ST.lG d (mJ.mem (Kb (Kb Sn))),i2,d9,e0,e1,e2,e3,e4,m9,Z,Z,l0,mv,mv,mv,mv,mv,mv,l1⟩
  refine sg (Wh m5 (Wm (LJ O (λh8 E W=>∃h6,ST false (keys i6) w W n6 ((h7,Ob #[i7,i8,j0,i9,g5,g6] 79)::((b9,Ob (tz I.2.2 a u d9 e0 e1 e2 e3 e4 J a9 H a3 c2 a0 a2 b1) 101)::((H,oC e9 139)::h6)))∧E 0=vP b9∧E 6=vP h7∧E 48=vB h8) 3 ?_ λh8 d2 g4=>?_)))
  ·rintro s5 E W ⟨h6,d,h2,m7,m8⟩ c5
   refine Wg m8 (ln (CI c5 Z (λj8 c5=>?_) λj8 c5=>?_))
   ·refine sg (Wh h2 (V (mW (v:=vA [vI 4,vI 0,vI 0,vS zS,vN,vN]) (nw Z) (mz cC bO (Be _ bO) kr)) (bS c5 λf2 k3 c5=>?_)))
    refine VE (eD d (Cb (Pb Pz) (Cb (Pb Pz) Cn)) call29 (λhh=>uT hh mv mv mv mv mv mv mv mv mv (Sl.nil _ _ _) (Sl.nil _ _ _) k3) ?_)
    rintro _ s0 t1 o8 d b4 ae ⟨i3,i4,f7,rfl,l2,h4⟩
    obtain rfl:=f7.symm
    have d:=d.perm (Tb (Tb Tn))
    refine Wa (ln ?_)
    have d:=d.ll (Kb (Kb (Db St)))
    refine sg (Wh h2 (bS c5 λr2 k4 c5=>?_))
    refine VE (eD d (Cb Pz (Cb Pz Cn)) call37 (λhh=>my.mN (sZ hh mv mv mv mv mv mv mv mv mv k4)) ?_)
    rintro _ s1 t2 o9 d c4 af ⟨f8,rfl⟩
    obtain rfl:=f8.symm
    have d:=d.perm (Tb (Tb Tn))
    refine lr (Wm (Wa (lt (nz (mj ?_)))))
    obtain rfl:=sj c5
    exact ma (v:=i3) Z Z ⟨_,_,_,Z,d.mB (Kb (Kb Sn)),((j.trans b5).trans b4).trans c4,((q.trans P).trans ae).trans af,ST.lG d (mJ.mem (Kb (Kb Sn))),i3,d9,e0,e1,e2,e3,e4,i4,Z,Z,mv,mv,mv,mv,mv,mv,mv,mv⟩
   refine mU (mx (lE (sg (Wh h2 (V (lq m7 (lC d.has Mh [i7,i8,j0,i9,g5,g6] Z dv bR)) (bS c5 λr3 k5 c5=>?_))))))
   refine VE (eD d (Cb (Pb Pz) (Cb (Pb Pz) Cn)) call29 (λhh=>uT hh mv mv mv mv mv mv mv mv mv mv mv k5) ?_)
   rintro _ s2 t3 p0 d c9 ag ⟨i5,n0,f9,rfl,l3,l4⟩
   obtain rfl:=f9.symm
   have d:=d.perm (Tb (Tb Tn))
   refine Wa (ln ?_)
   have d:=d.ll (Kb (Kb (Db St)))
   refine lO ?_
   obtain rfl:=sj c5
   exact ma (v:=i5) Z Z ⟨_,_,_,Z,d.mB (Kb (Kb Sn)),(j.trans b5).trans c9,(q.trans P).trans ag,ST.lG d (mJ.mem (Kb (Kb Sn))),i5,d9,e0,e1,e2,e3,e4,n0,Z,Z,l3,mv,mv,mv,mv,mv,mv,l4⟩
  refine bC d2 (λd1 d2=>?_) (λd1 d2=>?_)
  ·refine ug d1 (lq Z (lC d.has Mh [i7,i8,j0,i9,g5,g6] Z dv bR)) (bS d2 λr4 k6 d2=>tw d1 (Eg d call71 (mo.mN (Mg mv mv k6)) λao d=>V (lQ (cB d1) Z) ?_))
   obtain rfl:=sj d2
   exact g4 _ _ ⟨_,d.ll,f0,Z,Z⟩
  refine un d1 (un d1 (V (lN (cB d1) Z) ?_))
  obtain rfl:=sj d2
  exact g4 _ _ ⟨_,d.ll,f0,Z,Z⟩
 refine bC c6 (λa5 c6=>?_) (λa5 c6=>?_)
 ·refine Xg 6 Z Z (cB a5) h (lz Z) (Xg 7 Z Z (cB a5) h (lX Z) (Xg 8 Z Z (cB a5) h (ly TR Z) (uV 9 Z Z (cB a5) h (λ_ hS=>lq Z (lC hS Mh [vI u.Op,vI u.K,j1,vS u.lh.Word,J] Z bD aD)) (Xg 10 Z Z (cB a5) h (lz Z) (Xg 11 Z Z (cB a5) h (lX Z) (Xg 12 Z Z (cB a5) h (ly Ea Z) (uV 13 Z Z (cB a5) h (λ_ hS=>lq Z (lC hS Mh [vS c.lm.Name,g,i,vS c.mI,vI c.Room,k,B,y,z] Z eK dN)) (bS c6 λc0 k7 c6=>?_))))))))
  refine CZ 14 Z Z (cB a5) (Gi d (aT _) call112 (λ_ _ _ _=>KJ mv mv mv mv mv mv k7) (λap s3 n7 p1 d c1 ah ai j5=>?_) (L0:=[]))
  obtain ⟨g9,m4,n1,p2,n2,p3,n3,p4,n4,p5,n5,p6,h1,g0,rfl,l5,l6,l7,l8,l9⟩:=j5
  replace g0:=g0.symm; subst g0
  have d:=d.perm (Tb (Tb (Tb (Tr (Tr (Tr (Tr (Tr Tn))))))))
  have h:=d.has.nx c1 (Db (Db (Db (Dr (Dr (Dr (Dr (Dr (Kb Sn)))))))))
  refine ⟨h,bS c6 λr5 k8 c6=>CZ 15 Z Z (cB a5) (Eg d call111 (AB mv ⟨150,#[],#[vP g9,vP h1],Z,call150,λW x r hs hm=>(G1 (l5.at (λb o s=>hs _ _ ((λb o s=>d.at_ (Mt (Mt (Mt (Ml s))))) b o s))) (l6.sl mY λb o s=>hs _ _ ((λb o s=>d.at_ (Mt (Mt (Mt (Ma (Ml s)))))) b o s)) (l7.at (λb o s=>hs _ _ ((λb o s=>d.at_ (Mt (Mt (Mt (Ma (Ma (Ml s))))))) b o s))) (l8.at (λb o s=>hs _ _ ((λb o s=>d.at_ (Mt (Mt (Mt (Ma (Ma (Ma (Ml s)))))))) b o s))) ((l9.G6 AJ).mono (Pl.mono _) (oz λb o s=>hs _ _ ((λb o s=>d.at_ (Mt (Mt (Mt (Ma (Ma (Ma (Ma (Ml s))))))))) b o s))) (At.of (hs _ _ (d.at_ (Mt Mh))) _ Z) (At.of (hs _ _ (d.at_ Mh)) _ Z) mv mv mv mv mv mv (At.of (hs _ _ (d.at_ (Mt (Mt Mh)))) _ Z) hm).mN⟩ k8) λaq d=>?_)⟩
  have h:=d.has.nx c1 (Db (Db (Db (Dr (Dr (Dr (Dr (Dr (Kb Sn)))))))))
  refine ⟨h,X 16 Z h (lQ (cB a5) Z) ?_⟩
  obtain rfl:=sj c6
  refine ov kr (g7 _ _ ⟨n7,_,c1,ah,d.ll (Db (Db (Db (Dr (Dr (Dr (Dr (Dr St)))))))),Z,Z,Z⟩)
 refine Xn 6 Z Z (cB a5) h (Xn 7 Z Z (cB a5) h (Xn 8 Z Z (cB a5) h (Xn 9 Z Z (cB a5) h (Xn 10 Z Z (cB a5) h (Xn 11 Z Z (cB a5) h (Xn 12 Z Z (cB a5) h (Xn 13 Z Z (cB a5) h (Xn 14 Z Z (cB a5) h (Xn 15 Z Z (cB a5) h (X 16 Z h (lN (cB a5) Z) ?_))))))))))
 obtain rfl:=sj c6
 refine ov kr (g7 _ _ ⟨qe,_,lM.refl _,Lo.refl,d.ll,Z,Z,Z⟩)
set_option maxHeartbeats 4000000 in
theorem GD {J H N T k:Int} {Y:Bool} {Q U:Int} {O:Value} {r:((List (List Int))×mD×Bool×Bool×Int×Int×Int×(List Int)×Int×Int×Bool×Int)} (h0:oa qe ((qh,Ob (tz qx qR qy q0 q1 q2 q3 q4 q5 q6 q7 qi T k Y Q U) 101)::((qi,Ob (po qf qg qb qc qd J H q8 N) 139)::[])) qa) (Zq:Sl lU 15 qe q0 qx.lm.lK) (a2:Sl mH 8 qe q1 qx.lm.mi) (a5:Sl (Pl lj) 9 qe q2 qx.lD) (b1:Sl (Pl lj) 9 qe q3 qx.Shown) (a8:Sl (Pl lp) 2 qe q4 qx.lL) (b0:Sl (Pl lp) 2 qe q5 qx.me) (c0:Sl lx 5 qe q6 qy.Kids) (d3:pV nh qe q7 qD) (b4:Sl (Pl (lJ .u8)) 1 qe q8 ql) (d0:Sl (Pl lp) 2 qe q9 qH.nX) (c9:Sl mR 10 qe O qH.nm) (hm:wh qx qR qy qD qf qg qb qc qd J H ql N T k Y Q U qH=some r) :
  my false pg0 35 [vP qh,vA [vI qH.Kind,vI qH.ny,vI qH.E,vS qH.Name,q9,O]] qa qe ((qh,Ob (tz qx qR qy q0 q1 q2 q3 q4 q5 q6 q7 qi T k Y Q U) 101)::((qi,Ob (po qf qg qb qc qd J H q8 N) 139)::[])) (λv L1 μ1=>∃y1 y3 y5 y7 y9 h1 h2 h3,v=y1∧L1=((qh,Ob (tz r.2.1 qR qy y3 y5 y7 y9 h1 h2 q6 q7 qi r.2.2.2.2.2.2.2.2.1 r.2.2.2.2.2.2.2.2.2.1 r.2.2.2.2.2.2.2.2.2.2.1 Q r.2.2.2.2.2.2.2.2.2.2.2) 101)::((qi,Ob (po r.2.2.1 r.2.2.2.1 r.2.2.2.2.1 qc qd r.2.2.2.2.2.1 r.2.2.2.2.2.2.1 h3 N) 139)::[]))∧Sl (wo (lJ .u8) 1) 1 μ1 y1 r.1∧Sl lU 15 μ1 y3 r.2.1.lm.lK∧Sl mH 8 μ1 y5 r.2.1.lm.mi∧Sl (Pl lj) 9 μ1 y7 r.2.1.lD∧Sl (Pl lj) 9 μ1 y9 r.2.1.Shown∧Sl (Pl lp) 2 μ1 h1 r.2.1.lL∧Sl (Pl lp) 2 μ1 h2 r.2.1.me∧Sl (Pl (lJ .u8)) 1 μ1 h3 r.2.2.2.2.2.2.2.1):=by
 let d8:Value:=vP qh
 let b8:=((po qf qg qb qc qd J H q8 N):Array Value)
 let x:=((tz qx qR qy q0 q1 q2 q3 q4 q5 q6 q7 qi T k Y Q U):Array Value)
 let d7:=(qh,oC x 101)::((qi,oC b8 139)::[])
 refine rG h0 44 func35 Z (λd=>sg ?_)
 obtain ⟨A1,c2,rfl⟩:=d0.form
 obtain ⟨A3,c4,rfl⟩:=c9.form
 let y:=((C6 qH.Kind qH.ny qH.E qH.Name A1 qH.nX.length c2 A3 qH.nm.length c4).toArray:Array Value)
 refine VE (mA d Z (λW6 q d=>Wa (ln (lH (lH ?_)))))
 have d:=d.drew
 have a:=d.has.ll (Kb (Kb Sn))
 refine mF a lV (X 0 Z a (lz Z) (X 1 Z a (lX Z) (X 2 Z a (ly AN Z) (X 3 Z a (ly FU Z) (XH 4 Z a (λ_ h=>lq Z (lA h (Mt Mh) Z fe)) (X 5 Z a (nK Z) (X 6 Z a (lz Z) (PJ hm (λe6 E W=>∃g7,ST false (keys d7) qa W qe ((q,oC y 79)::((qh,oC x 101)::((qi,oC b8 139)::g7)))∧E 0=d8∧E 3=vP q∧E 16=vB e6) (bm 32 4095) 20 ?_ λe6 t d6=>?_))))))))
 ·rintro l0 E W ⟨g7,d,d9,e0,i7⟩ h6
  have a:=d.has.ll (Kb (Kb Sn))
  refine X 12 Z a (lz i7) (PJ h6 (λe5 E W=>∃g8,ST false (keys d7) qa W qe ((q,oC y 79)::((qh,oC x 101)::((qi,oC b8 139)::g8)))∧E 0=d8∧E 3=vP q∧E 26=vB e5) (bm 32 4194303) 10 ?_ λe5 s d5=>?_)
  ·rintro l1 E W ⟨g8,d,z,i8,i9⟩ h7
   have a:=d.has.ll (Kb (Kb Sn))
   refine X 22 Z a (lz i9) (PJ h7 (λP E W=>∃g9,ST false (keys d7) qa W qe ((q,oC y 79)::((qh,oC x 101)::((qi,oC b8 139)::g9)))∧E 0=d8∧E 36=vB P) (bm 32 4294967295) 0 ?_ λP c1 d4=>?_)
   ·rintro l2 E W ⟨g9,d,I,j0⟩ i
    refine mG kr (lE ?_)
    have d:=d.ll (Db St)
    refine CI i j0 (λh5 i=>?_) (λh5 i=>?_)
    ·refine sg (Wh I (bS i λk8 h8 i=>?_))
     refine VE (eD d (Cb Pz (Cb Pz Cn)) call30 (λM=>pX M mv mv mv mv mv mv mv mv mv h8) ?_)
     rintro _ k9 l3 j9 d b6 u ⟨e7,h9,d1,rfl,f5,f6⟩
     obtain rfl:=d1.symm
     have d:=d.perm (Tb (Tb Tn))
     refine Wa (lt (mj ?_))
     obtain rfl:=sj i
     exact ma (v:=e7) Z Z ⟨_,_,_,Z,d.mB (Kb (Kb Sn)),b6,u,ST.lG d (mJ.mem (Kb (Kb Sn))),e7,q0,q1,q2,q3,q4,q5,h9,Z,Z,f5,mv,mv,mv,mv,mv,mv,f6⟩
    refine kg (Wh I (Wn (Wf LD (VO (lZ (vB true) (tz qx qR qy q0 q1 q2 q3 q4 q5 q6 q7 qi T k true Q U) d Z Z ij (UO true) nb Z (λk1 d=>lr (Wh I (bS i λk4 f4 i=>?_))))))))
    refine VE (eD d (Cb Pz (Cb Pz Cn)) call68 (λM=>Bu qh qx q0 q1 q2 q3 q4 q5 qR qy q6 q7 qD qi qf qg qb qc qd J H q8 ql N T k true Q U false _ _ M mv mv mv mv mv mv mv mv mv f4) ?_)
    rintro _ k5 k6 k0 d e3 j ⟨e8,i0,i1,i2,i3,i4,i5,i6,d2,rfl,f7,f8,f9,g0,g1,g2,g3,g4⟩
    obtain rfl:=d2.symm
    have d:=d.perm (Tb (Tb Tn))
    refine Wa (lt ?_)
    obtain rfl:=sj i
    exact ma (v:=e8) Z Z ⟨_,_,_,Z,d.mB (Kb (Kb Sn)),e3,j,ST.lG d (mJ.mem (Kb (Kb Sn))),e8,i0,i1,i2,i3,i4,i5,i6,Z,Z,f7,f8,f9,g0,g1,g2,g3,g4⟩
   refine bC c1 (λa4 c1=>?_) (λa4 c1=>?_)
   ·refine Xn 23 Z Z (cB a4) a (Xn 24 Z Z (cB a4) a (Xn 25 Z Z (cB a4) a (Xn 26 Z Z (cB a4) a (Xn 27 Z Z (cB a4) a (Xn 28 Z Z (cB a4) a (Xn 29 Z Z (cB a4) a (Xn 30 Z Z (cB a4) a (X 31 Z a (lQ (cB a4) Z) ?_))))))))
    obtain rfl:=sj c1
    refine ov kr (d4 _ _ ⟨_,d.ll,z,Z⟩)
   refine Xg 23 Z Z (cB a4) a (ly Er i8) (uV 24 Z Z (cB a4) a (λ_ h=>lq Z (lA h Mh Z bK)) (Xg 25 Z Z (cB a4) a (lz z) (Xg 26 Z Z (cB a4) a (lX Z) (Xg 27 Z Z (cB a4) a (ly AN Z) (Xg 28 Z Z (cB a4) a (ly La Z) (uV 29 Z Z (cB a4) a (λ_ h=>lq Z (lA h (Mt Mh) Z bK)) (Xg 30 Z Z (cB a4) a (mL Z Z Z) (X 31 Z a (lN (cB a4) Z) ?_))))))))
   obtain rfl:=sj c1
   refine ov kr (d4 _ _ ⟨_,d.ll,z,Z⟩)
  refine bC s (λa3 s=>?_) (λa3 s=>?_)
  ·refine Xn 13 Z Z (cB a3) a (Xn 14 Z Z (cB a3) a (Xn 15 Z Z (cB a3) a (Xn 16 Z Z (cB a3) a (Xn 17 Z Z (cB a3) a (Xn 18 Z Z (cB a3) a (Xn 19 Z Z (cB a3) a (Xn 20 Z Z (cB a3) a (X 21 Z a (lQ (cB a3) Z) ?_))))))))
   obtain rfl:=sj s
   refine ov kr (d5 _ _ ⟨_,d.ll,d9,e0,Z⟩)
  refine Xg 13 Z Z (cB a3) a (ly FO e0) (uV 14 Z Z (cB a3) a (λ_ h=>lq Z (lA h Mh Z cA)) (Xg 15 Z Z (cB a3) a (lz d9) (Xg 16 Z Z (cB a3) a (lX Z) (Xg 17 Z Z (cB a3) a (ly Ea Z) (Xg 18 Z Z (cB a3) a (ly IF Z) (uV 19 Z Z (cB a3) a (λ_ h=>lq Z (lA h (Mt Mh) Z cA)) (Xg 20 Z Z (cB a3) a (QO Z Z Z) (X 21 Z a (lN (cB a3) Z) ?_))))))))
  obtain rfl:=sj s
  refine ov kr (d5 _ _ ⟨_,d.ll,d9,e0,Z⟩)
 refine bC t (λg t=>?_) (λg t=>?_)
 ·refine Xn 7 Z Z (cB g) a (Xn 8 Z Z (cB g) a (Xn 9 Z Z (cB g) a (Xn 10 Z Z (cB g) a (X 11 Z a (lQ (cB g) Z) ?_))))
  obtain rfl:=sj t
  refine ov kr (d6 _ _ ⟨_,d.ll,Z,Z,Z⟩)
 refine Xg 7 Z Z (cB g) a (lz Z) (Xg 8 Z Z (cB g) a (lX Z) (Xg 9 Z Z (cB g) a (ly LD Z) (uV 10 Z Z (cB g) a (λ_ h=>lq Z (lA h (Mt Mh) Z fe)) (X 11 Z a (lN (cB g) Z) ?_))))
 obtain rfl:=sj t
 refine ov kr (d6 _ _ ⟨_,d.ll,Z,Z,Z⟩)
set_option maxHeartbeats 4000000 in
theorem Qy {Zq a3 a4 a5 a6 a7 B D G H I J K M d3 e5:Value} {r:(Int×Int×mD)} (h0:oa qe ((qh,Ob (Cm qx q0 q1 q2 q3 q4 q5 q6 q7 q8 q9 Zq a3 a4 a5 a6 a7 B D G H I J K M) 101)::[]) qa) (b0:Sl lU 15 qe q0 qx.lm.lK) (b2:Sl mH 8 qe q1 qx.lm.mi) (c7:Sl (Pl lj) 9 qe q2 qx.lD) (c6:Sl (Pl lj) 9 qe q3 qx.Shown) (c1:Sl (Pl lp) 2 qe q4 qx.lL) (c5:Sl (Pl lp) 2 qe q5 qx.me) (h5:pV nh qe d3 qD) (g0:Sl mR 10 qe e5 qT) (hm:DD qx qD qT=some r) :
  my false pg0 69 [vP qh,d3,e5] qa qe ((qh,Ob (Cm qx q0 q1 q2 q3 q4 q5 q6 q7 q8 q9 Zq a3 a4 a5 a6 a7 B D G H I J K M) 101)::[]) (λv L1 μ1=>∃y1 y3 y5 y7 y9 l3,v=vT [vI r.1,vI r.2.1]∧L1=((qh,Ob (Cm r.2.2 y1 y3 y5 y7 y9 l3 q6 q7 q8 q9 Zq a3 a4 a5 a6 a7 B D G H I J K M) 101)::[])∧Sl lU 15 μ1 y1 r.2.2.lm.lK∧Sl mH 8 μ1 y3 r.2.2.lm.mi∧Sl (Pl lj) 9 μ1 y5 r.2.2.lD∧Sl (Pl lj) 9 μ1 y7 r.2.2.Shown∧Sl (Pl lp) 2 μ1 y9 r.2.2.lL∧Sl (Pl lp) 2 μ1 l3 r.2.2.me):=by
 let g5:Value:=vP qh
 let a0:=(qh,Ob (Cm qx q0 q1 q2 q3 q4 q5 q6 q7 q8 q9 Zq a3 a4 a5 a6 a7 B D G H I J K M) 101)::[]
 refine rG h0 64 func69 Z (λd=>sg (Wa (Wa (lS (Wm (V (ox iJ Z Z) (Wm (Vg Z Z (lz Z) (Vg Z Z (Gs kL h5 Z Z) ?_)))))))))
 refine V (lN Z Z) (ln (CI hm Z (λl4 hm=>?_) λl4 hm=>?_))
 ·refine sg (Wa (Wa (lt (mj ?_))))
  cases sj hm
  exact rq (v:=vI 0) (u:=vI 1) Z Z Z ⟨_,_,_,Z,d.mB (Kb Sn),lM.refl _,Lo.refl,ST.lG d (mJ.mem (Kb Sn)),q0,q1,q2,q3,q4,q5,Z,Z,b0,b2,c7,c6,c1,c5⟩
 refine kg (Wa (lS (Wm (V (mP cF Z g0) (Wm (ln ?_))))))
 refine nM 19 18 (λi js E W=>∃s x c0 t e9,lM qe t∧Lo (keys a0) qa qe t∧ST false (keys a0) qa W t ((qh,Ob (Cm qx q0 q1 x q3 q4 q5 q6 q7 q8 q9 Zq a3 a4 a5 a6 a7 B D G H I J K M) 101)::e9)∧E 0=g5∧E 1=d3∧E 8=vI s∧E 17=e5∧Sl (Pl lj) 9 t x c0∧uB qD qx js s c0=some r) g0.len ⟨0,q2,qx.lD,qe,_,lM.refl _,Lo.refl,d.ll,Z,Z,Z,Z,c7,hm⟩ ?_ ?_
 ·rintro g1 a o3 E W k5 ⟨⟨eI,eN⟩,s,x,c0,t,e9,y,k,d,d6,d7,d8,d9,b6,b7⟩
  let d4:=((Cm qx q0 q1 x q3 q4 q5 q6 q7 q8 q9 Zq a3 a4 a5 a6 a7 B D G H I J K M):Array Value)
  refine sg (VQ (nI (i:=(g1:Int)) (x0:=a) mR.out cF bW d9 eI mv (aF _) k5) λn5 ⟨_,⟨o0,rfl,f9⟩,h9⟩=>V (lq Z (mu d.has h9 eE bW)) (VE (lY d cQ λm2 f1 d=>?_)))
  obtain ⟨c9,d0,rfl⟩:=f9.form
  let b8:=C3 a.lg.Kind a.lg.Head.lu a.lg.Head.Word a.lg.nj a.lg.B.lu a.lg.B.Word a.lg.C.lu a.lg.C.Word a.lg.mV c9 a.Tag.length d0
  refine VO (FA b8.toArray d bW λm3 d=>ln (lH (lH ?_)))
  have d:=d.drew
  have g:=d.has.ll (Kb (Kb Sn))
  refine mF g lV (X 0 Z g (lz d7) (XH 1 Z g (λ_ q=>lq Z (lC q Mh b8 Z eE bW)) (bS b7 λn6 i0 b7=>XE 2 Z (Eg d call73 (mo.mN (D9 mv mv i0)) λm4 d=>?_))))
  have g:=d.has.ll (Kb (Kb Sn))
  refine ⟨g,X 3 Z g (mL Z Z Z) (X 4 Z g (lz Z) (PJ b7 (λg8 E W=>∃g2,ST false (keys a0) qa W t ((f1,Ol b8 71)::((qh,oC d4 101)::g2))∧E 0=g5∧E 1=d3∧E 8=vI s∧E 10=vP f1∧E 17=e5∧E 18=vI (qT.length:Int)∧E 19=vI (g1:Int)∧E 35=vB g8) (bm 13 8191) 0 ?_ λg8 b9 e7=>?_))⟩
  ·rintro o2 E W ⟨g2,d,c4,f3,e0,j4,f4,f5,f6,j5⟩ O
   refine mG kr (lE (CI O j5 (λh6 O=>?_) λh6 O=>?_))
   ·refine pg (oL (uO (lE ?_)))
    have d:=d.ll (Db St)
    exact ⟨f6,f5,s,x,c0,t,_,y,k,d.ll,c4,f3,e0,f4,b6,O⟩
   refine kn (lH (lH ?_))
   have d:=d.drew
   have g:=d.has.ll (Db (Kb Sn))
   refine mF g lV (X 0 Z g (lz c4) (X 1 Z g (lX Z) (X 2 Z g (ly Bw Z) (XH 3 Z g (λ_ q=>lq Z (lA q Mh Z dQ)) (X 4 Z g (mP aN Z b6) (X 5 Z g (lz c4) (X 6 Z g (lX Z) (X 7 Z g (ly Nn Z) (XH 8 Z g (λ_ q=>lq Z (lA q Mh Z bK)) (X 9 Z g (mL Z Z Z) (mG kr (lE (CI O Z (λh7 O=>?_) λh7 O=>?_)))))))))))))
   ·refine sg (Wh e0 (Wa (Wa (ln ?_))))
    have d:=d.ll (Db St)
    refine lO (mj (nz (mj (nz (mj ?_)))))
    cases sj O
    exact rq (v:=vI s) (u:=vI 40) Z Z Z ⟨_,_,_,Z,d.mB (Kb Sn),y,k,ST.lG d (mJ.mem (Kb Sn)),q0,q1,x,q3,q4,q5,Z,Z,mv,mv,b6,mv,mv,mv⟩
   refine kn (lH ?_)
   have d:=d.drew
   have g:=d.has.ll (Kb Sn)
   have j:=d.has.ll (Db (Kb Sn))
   refine rW 13 g j lV (nu 0 Z g j (lz c4) (nu 1 Z g j (lz c4) (nu 2 Z g j (lX Z) (nu 3 Z g j (ly Bw Z) (BU 4 Z g j (λq=>lq Z (lA q Mh Z dQ)) (nu 6 Z g j (ly sP j4) (IS 7 Z g j (λq=>lq Z (lC q Mh (lj a.lg) Z bF aI)) (PJ O (λf7 E W=>∃e2 d5 e3 f0 e4 g3,lM t e4∧Lo (keys a0) qa t e4∧ST false (keys a0) qa W e4 ((f1,Ol b8 71)::((qh,oC d4 101)::(d5++(f0++g3))))∧E 0=g5∧E 1=d3∧E 8=vI s∧E 17=e5∧E 18=vI (qT.length:Int)∧E 19=vI (g1:Int)∧E 47=g5∧E 52=e2∧E 55=e3∧mg 69 lj 9 e2 f7.1 d5∧mg 69 lj 9 e3 f7.2 f0) (bm 14 511) 5 ?_ λf7 c3 e6=>?_))))))))
   ·rintro ⟨n3,n4⟩ E W ⟨e2,d5,e3,f0,e4,g3,b1,P,d,j6,j7,j8,j9,k0,k1,k2,k3,k4,i5,i6⟩ c8
    have d:=d.perm (Nr (Qb (Qb Qz)) Nz)
    refine bS c8 λk6 h8 c8=>XE 9 Z (oU (enc:=lj) (v:=e2) (vs:=e3) (R:=d5) d mY dc pf aN nZ.1 nZ.2.1 Z nZ.2.2.1 nZ.2.2.2 k3 k4 i5 (i6.RR mY d λp hq=>Ma (Mt (Mt (Ml hq)))) h8 λm5 k7 m0 d h2=>?_)
    have g:=d.has.nx b1 (Dr (Kb Sn))
    have j:=d.has.nx b1 (Dr (Db (Kb Sn)))
    refine ⟨⟨g,λ_=>j⟩,bS c8 λe1 i1 c8=>XE 10 Z (oG d kp (wB (h2.sl mY λb o hq=>d.at_ (Ml hq)) i1) λm6 o1 o4 m1 d d1 Q f8=>?_)⟩
    have g:=d.has.nx (b1.trans d1) (Dr (Dr (Kb Sn)))
    have j:=d.has.nx (b1.trans d1) (Dr (Dr (Db (Kb Sn))))
    refine ⟨⟨g,λ_=>j⟩,nu 11 Z g j (lX k2) (nu 12 Z g j (ly Bw Z) ?_)⟩
    obtain ⟨e8,f2,rfl⟩:=f8.form
    have d:=d.perm (Nb (Pr (Pr (Pb Pz))) Nz)
    refine XO 13 Z (lZ (.slice e8 e1.length f2) (Cm qx q0 q1 (.slice e8 e1.length f2) q3 q4 q5 q6 q7 q8 q9 Zq a3 a4 a5 a6 a7 B D G H I J K M) d Z Z fx oc nb Z (λm7 d=>?_))
    have g:=d.has.nx (b1.trans d1) (Db (Dr (Dr (Kb Sn))))
    refine ⟨⟨g,λh=>tC kr h⟩,mG kr (lE ?_)⟩
    have d:=d.ll (Kb (Kr (Dr (Db (Dr St)))))
    refine lI (Wh j8 (Wi Z (Wa (mh (mx (lE ?_))))))
    have d:=d.perm (Nr (Qb Qz) Nz)
    obtain ⟨l0,d,g9,U,i7⟩:=ST.xM d f8 mY
    exact ⟨k1,k0,IntKind.i64.wrap (s+1),.slice e8 e1.length f2,e1,l0,_,((y.trans b1).trans d1).trans g9,((k.trans P).trans Q).trans U,d.ll,j6,j7,Z,j9,i7,c8⟩
   refine IL 5 8 Z Z kr (.inl Z) (.inl Z) Z Z dc dc ?_ ?_
   ·refine bS c3 λn7 i2 c3=>Np (args:=[x]) _ d Z call62 (by exact pp Z) (na.mN (vi mv i2)) (λm8 k8 l1 i8 d c2 Y h3=>?_)
    have g:=d.has.nx c2 (Dr (Kb Sn))
    have j:=d.has.nx c2 (Dr (Db (Kb Sn)))
    refine ⟨⟨g,λ_=>j⟩,XE 8 Z (mn (cs:=(lj a.lg).toArray) d (nw Z) (nU aN aI cI) λm9 g4 d=>?_)⟩
    have g:=d.has.nx c2 (Db (Dr (Kb Sn)))
    have j:=d.has.nx c2 (Db (Dr (Db (Kb Sn))))
    refine ⟨⟨g,λ_=>j⟩,?_⟩
    cases sj c3
    have d:=d.JA
    refine ov kr (e6 _ _ ⟨k8,i8,.slice (some ⟨g4,0,none⟩) 1 1,[(g4,Ol (lj a.lg) 69)],l1,_,c2,Y,d.ll (Sb (Pr (Pr Pz)) (Sb (Pr (Pr Pz)) (Sr (Qr Qz) St))),c4,f3,e0,f4,f5,f6,Z,Z,Z,h3,mg.lit (l:=[a.lg]) (enc:=lj) Z dc Z Z⟩)
   ·refine mn (cs:=(lj a.lg).toArray) d (nw Z) (nU aN aI cI) (λn0 g7 d=>?_)
    have g:=d.has.ll (Db (Kb Sn))
    have j:=d.has.ll (Db (Db (Kb Sn)))
    refine ⟨⟨g,λ_=>j⟩,bS c3 λn8 i3 c3=>XE 5 Z (oG d call62 (na.mN (vi mv i3)) λn1 k9 l2 i9 d d2 a1 h4=>?_)⟩
    have g:=d.has.nx d2 (Dr (Db (Kb Sn)))
    have j:=d.has.nx d2 (Dr (Db (Db (Kb Sn))))
    refine ⟨⟨g,λ_=>j⟩,?_⟩
    cases sj c3
    have d:=d.perm (Nb (Pr Pz) Nz)
    have d:=d.JA
    refine ov kr (e6 _ _ ⟨k9,i9,.slice (some ⟨g7,0,none⟩) 1 1,[(g7,Ol (lj a.lg) 69)],l2,_,d2,a1,d.ll (Sb (Pr (Pr Pz)) (Sb (Pr (Pr Pz)) (Sr (Qr Qz) St))),c4,f3,e0,f4,f5,f6,Z,Z,Z,h4,mg.lit (l:=[a.lg]) (enc:=lj) Z dc Z Z⟩)
  refine bC b9 (λz b9=>?_) (λz b9=>?_)
  ·refine Xn 5 Z Z (cB z) g (Xn 6 Z Z (cB z) g (Xn 7 Z Z (cB z) g (Xn 8 Z Z (cB z) g (Xn 9 Z Z (cB z) g (Xn 10 Z Z (cB z) g (Xn 11 Z Z (cB z) g (X 12 Z g (lQ (cB z) Z) ?_)))))))
   cases sj b9
   refine ov kr (e7 _ _ ⟨_,d.ll,d6,d7,d8,Z,d9,eN,eI,Z⟩)
  refine Xg 5 Z Z (cB z) g (lz d6) (Xg 6 Z Z (cB z) g (lX Z) (Xg 7 Z Z (cB z) g (ly Bw Z) (uV 8 Z Z (cB z) g (λ_ q=>lq Z (lA q (Mt Mh) Z dQ)) (Xg 9 Z Z (cB z) g (ly sP Z) (uV 10 Z Z (cB z) g (λ_ q=>lq Z (lC q Mh (lj a.lg) Z bF aI)) (bS b9 λn9 i4 b9=>CZ 11 Z Z (cB z) (Eg d call114 (mo.mN (CE mv i4)) λn2 d=>?_)))))))
  have g:=d.has.ll (Kb (Kb Sn))
  refine ⟨g,X 12 Z g (lN (cB z) Z) ?_⟩
  cases sj b9
  refine ov kr (e7 _ _ ⟨_,d.ll,d6,d7,d8,Z,d9,eN,eI,Z⟩)
 rintro E W ⟨⟨eI,eN⟩,s,x,c0,t,e9,y,k,d,d6,d7,d8,d9,b6,b7⟩
 refine lE (sg (Wh d8 (Wa (Wa (lt ?_)))))
 cases sj b7
 exact rq (v:=vI s) (u:=vI 0) Z Z Z ⟨_,_,_,Z,d.mB (Kb Sn),y,k,ST.lG d (mJ.mem (Kb Sn)),q0,q1,x,q3,q4,q5,Z,Z,mv,mv,b6,mv,mv,mv⟩
theorem NQ {a2 a3 a4 a5 i j z B D G H I J K q:Value} {r:mD} (h0:oa qe ((qh,Ob (Cm qx q0 q1 q2 q3 q4 q5 q6 q7 q8 q9 a2 a3 a4 a5 i j z B D G H I J K) 101)::[]) qa) (N:Sl lU 15 qe q0 qx.lm.lK) (Q:Sl mH 8 qe q1 qx.lm.mi) (a8:Sl (Pl lj) 9 qe q2 qx.lD) (b1:Sl (Pl lj) 9 qe q3 qx.Shown) (M:Sl (Pl lp) 2 qe q4 qx.lL) (b0:Sl (Pl lp) 2 qe q5 qx.me) (c0:Sl (Pl lp) 2 qe q qv) (hm:BW qx qv=some r) :
  my false pg0 70 [vP qh,q] qa qe ((qh,Ob (Cm qx q0 q1 q2 q3 q4 q5 q6 q7 q8 q9 a2 a3 a4 a5 i j z B D G H I J K) 101)::[]) (λv L1 μ1=>∃O P U W Y t,v=vT []∧L1=((qh,Ob (Cm r O P U W Y t q6 q7 q8 q9 a2 a3 a4 a5 i j z B D G H I J K) 101)::[])∧Sl lU 15 μ1 O r.lm.lK∧Sl mH 8 μ1 P r.lm.mi∧Sl (Pl lj) 9 μ1 U r.lD∧Sl (Pl lj) 9 μ1 W r.Shown∧Sl (Pl lp) 2 μ1 Y r.lL∧Sl (Pl lp) 2 μ1 t r.me):=by
 refine rG h0 17 func70 Z (λa=>sg (Wm (V (Bj iJ Z Z) (ln (xz Z (lI (Wm (Wm (Wn (Wf FK (VB a Mh Z Z eU (Wm ?_))))))))))))
 obtain ⟨A1,c2,rfl⟩:=M.form
 obtain ⟨A3,s,rfl⟩:=c0.form
 refine VE (mn (cs:=#[.slice A1 qx.lL.length c2,.slice A3 qv.length s]) a (pZ Z Z) (nU gr fX zeroValue27) λW6 b5 a=>bS hm λr7 d3 hm=>VE (oG a call115 (na.mN (Bi (wo.lit (l:=[qx.lL,qv]) (vs:=[.slice A1 qx.lL.length c2,.slice A3 qv.length s]) Z nb (a.at_ Mh) (.cons mv (.cons mv .nil))) d3)) λW9 d4 e9 e4 a u d d0=>bS hm λc1 d1 hm=>VE (oG a kf (yx (d0.sl nC λb o hq=>a.at_ (Ml hq)) d1) λe6 e8 f0 e5 a x g k=>Wn (Wf FK ?_))))
 obtain ⟨b6,b7,rfl⟩:=k.form
 let a0:Value:= .slice b6 c1.length b7
 have a:=a.perm (Nb (Pr (Pr (Pb Pz))) Nz)
 refine VO (lZ a0 (Cm qx q0 q1 q2 q3 a0 q5 q6 q7 q8 q9 a2 a3 a4 a5 i j z B D G H I J K) a Z Z fX oc nb Z (λe7 a=>mh (rI ?_)))
 cases sj hm
 refine pF Z ?_
 have a:=a.perm (Nr (Qb Qz) Nz)
 obtain ⟨f1,a,y,h,d2⟩:=ST.xM a k nC
 exact ⟨_,_,_,Z,a.mB (Kb Sn),(u.trans x).trans y,(d.trans g).trans h,ST.lG a (mJ.mem (Kb Sn)),q0,q1,q2,q3,a0,q5,Z,Z,mv,mv,mv,mv,d2,mv⟩
set_option maxHeartbeats 4000000 in
theorem Gv {J I N U M:Int} {Q:Bool} {T Y:Int} {d1:Value} {r:((List (List Int))×mD×Bool×Bool×Int×Int×Int×(List Int)×Int×Int×Int)} (h0:oa qe ((qh,Ob (tz qx qR qy q0 q1 q2 q3 q4 q5 q6 q7 qi U M Q T Y) 101)::((qi,Ob (po qf qg qb qc qd J I q8 N) 139)::[])) qa) (a0:Sl lU 15 qe q0 qx.lm.lK) (a2:Sl mH 8 qe q1 qx.lm.mi) (a5:Sl (Pl lj) 9 qe q2 qx.lD) (b1:Sl (Pl lj) 9 qe q3 qx.Shown) (a8:Sl (Pl lp) 2 qe q4 qx.lL) (b0:Sl (Pl lp) 2 qe q5 qx.me) (b6:Sl lx 5 qe q6 qy.Kids) (c8:pV nh qe q7 qD) (b3:Sl (Pl (lJ .u8)) 1 qe q8 ql) (c5:Sl (Pl lp) 2 qe q9 qH.nX) (c3:Sl mR 10 qe d1 qH.nm) (hm:wj qx qR qy qD qf qg qb qc qd J I ql N U M Q T Y qH=some r) :
  my false pg0 36 [vP qh,vA [vI qH.Kind,vI qH.ny,vI qH.E,vS qH.Name,q9,d1]] qa qe ((qh,Ob (tz qx qR qy q0 q1 q2 q3 q4 q5 q6 q7 qi U M Q T Y) 101)::((qi,Ob (po qf qg qb qc qd J I q8 N) 139)::[])) (λv L1 μ1=>∃y1 y3 y5 y7 y9 k9 l0 l1,v=y1∧L1=((qh,Ob (tz r.2.1 qR qy y3 y5 y7 y9 k9 l0 q6 q7 qi r.2.2.2.2.2.2.2.2.1 r.2.2.2.2.2.2.2.2.2.1 Q T r.2.2.2.2.2.2.2.2.2.2) 101)::((qi,Ob (po r.2.2.1 r.2.2.2.1 r.2.2.2.2.1 qc qd r.2.2.2.2.2.1 r.2.2.2.2.2.2.1 l1 N) 139)::[]))∧Sl (wo (lJ .u8) 1) 1 μ1 y1 r.1∧Sl lU 15 μ1 y3 r.2.1.lm.lK∧Sl mH 8 μ1 y5 r.2.1.lm.mi∧Sl (Pl lj) 9 μ1 y7 r.2.1.lD∧Sl (Pl lj) 9 μ1 y9 r.2.1.Shown∧Sl (Pl lp) 2 μ1 k9 r.2.1.lL∧Sl (Pl lp) 2 μ1 l0 r.2.1.me∧Sl (Pl (lJ .u8)) 1 μ1 l1 r.2.2.2.2.2.2.2.1):=by
 let h9:=(⟨qy.Op,qy.K,qy.lh,qy.Kids⟩:Formula)
 let h8:Value:=vI qR.Room
 let h7:Value:=vI qR.ny
 let g8:Value:=vI qR.wc
 let g7:Value:=vI qR.vp
 let g6:Value:=vS qy.lh.Word
 let g5:Value:=vI qR.re
 let g4:Value:=vS qy.lh.lu
 let g3:Value:=vP qi
 let b8:=((po qf qg qb qc qd J I q8 N):Array Value)
 let a3:=((tz qx qR qy q0 q1 q2 q3 q4 q5 q6 q7 qi U M Q T Y):Array Value)
 let f3:=(qh,oC a3 101)::((qi,oC b8 139)::[])
 refine rG h0 55 func36 Z (λa=>sg ?_)
 obtain ⟨A1,c2,rfl⟩:=c5.form
 obtain ⟨A3,c4,rfl⟩:=c3.form
 let d3:=C6 qH.Kind qH.ny qH.E qH.Name A1 qH.nX.length c2 A3 qH.nm.length c4
 refine VE (mA a Z (λW6 b5 a=>Wa (lS (Wm (Wn (Wf AN (Wf FU (VB a (Mt Mh) Z Z fe (Wm (LJ hm (λh3 E W=>∃L9,ST false (keys f3) qa W qe ((b5,Ol d3 79)::((qh,oC a3 101)::((qi,oC b8 139)::L9)))∧E 0=vP qh∧E 3=vP b5∧E 18=vB h3) 6 ?_ λh3 d0 f2=>?_))))))))))
 ·rintro x8 E W ⟨L9,a,d5,f6,p0⟩ a9
  refine ln (CI a9 p0 (λl7 a9=>?_) λl7 a9=>?_)
  ·refine sg (Wh d5 (bS a9 λr6 l9 a9=>?_))
   refine VE (eD a (Cb (Pb Pz) (Cb (Pb Pz) Cn)) call30 (λq=>pX q mv mv mv mv mv mv mv mv mv l9) ?_)
   rintro _ r8 s0 r1 a c6 a1 ⟨l2,p2,f4,rfl,m2,m3⟩
   obtain rfl:=f4.symm
   have a:=a.perm (Tb (Tb Tn))
   refine Wa (ln ?_)
   have a:=a.ll (Kb (Kb (Db St)))
   refine lO (mj ?_)
   obtain rfl:=sj a9
   exact ma (v:=l2) Z Z ⟨_,_,_,Z,a.mB (Kb (Kb Sn)),c6,a1,ST.lG a (mJ.mem (Kb (Kb Sn))),l2,q0,q1,q2,q3,q4,q5,p2,Z,Z,m2,mv,mv,mv,mv,mv,mv,m3⟩
  refine kn (lH (lH ?_))
  have a:=a.drew
  have d:=a.has.ll (Kb Sn)
  have g:=a.has.ll (Db (Kb Sn))
  refine rW 9 d g lV (nu 0 Z d g (lz d5) (nu 1 Z d g (lX Z) (nu 2 Z d g (ly Ea Z) (nu 3 Z d g (lz d5) (nu 4 Z d g (lX Z) (nu 5 Z d g (ly aah Z) (BU 6 Z d g (λP=>lq Z (lA P Mh Z isAgg44)) (nu 7 Z d g (ly AM f6) (IS 8 Z d g (λP=>lq Z (lA P Mh Z iG)) (bS a9 λh2 m0 a9=>?_))))))))))
  refine XE 9 Z (eD a (Cb (Pb Pz) Cn) call69 (λq=>Qy q mv mv mv mv mv mv mv mv m0) ?_)
  rintro _ r9 h6 r2 a a7 s ⟨f7,f8,f9,g0,g1,g2,f5,rfl,d9,e0,e1,e2,e3,e4⟩
  obtain rfl:=f5.symm
  have a:=a.perm (Tb Tn)
  have d:=a.has.nx a7 (Db (Kb Sn))
  refine ⟨⟨d,λh=>tC kr h⟩,xh 10 Z kr (.inl Z) Z dc (λ_ _ h=>⟨h.1,uk br h.2⟩) ⟨d,λh=>tC kr h⟩ (λ_ _ _ _=>lz Z) (xh 11 Z kr (.inl Z) Z dc (λ_ _ h=>⟨h.1,uk br h.2⟩) ⟨d,λh=>tC kr h⟩ (λ_ _ _ _=>pA Z Z) (xh 12 Z kr (.inl Z) Z dc (λ_ _ h=>⟨h.1,uk br h.2⟩) ⟨d,λh=>tC kr h⟩ (λ_ _ _ _=>pA Z Z) (xh 13 Z kr (.inl Z) Z dc (λ_ _ h=>⟨h.1,uk br h.2⟩) ⟨d,λh=>tC kr h⟩ (λ_ _ _ _=>nB Z) (xh 14 Z kr (.inl Z) Z dc (λ_ _ h=>⟨h.1,uk br h.2⟩) ⟨d,λh=>tC kr h⟩ (λ_ _ _ _=>nB Z) (mG kr (lE (sg (Wm (Wi Z (ln (CI a9 Z (λl8 a9=>?_) λl8 a9=>?_)))))))))))⟩
  ·refine sg (Wh d5 (Wm (bS a9 λr7 m1 a9=>?_)))
   refine VE (eD a (Cb Pz (Cb (Pb Pz) Cn)) call30 (λq=>pX q mv mv mv mv mv mv mv mv mv m1) ?_)
   rintro _ ae s1 p8 a b4 u ⟨h4,n4,d6,rfl,j3,j4⟩
   obtain rfl:=d6.symm
   have a:=a.perm (Tb (Tb Tn))
   refine Wa (ln ?_)
   have a:=a.ll (Kb (Kb (Db St)))
   refine lO (mj ?_)
   obtain rfl:=sj a9
   exact ma (v:=h4) Z Z ⟨_,_,_,Z,a.mB (Kb (Kb Sn)),a7.trans b4,s.trans u,ST.lG a (mJ.mem (Kb (Kb Sn))),h4,f7,f8,f9,g0,g1,g2,n4,Z,Z,j3,mv,mv,mv,mv,mv,mv,j4⟩
  refine kn (lH (CJ a9 (λj E W=>∃e5 e6 e7 e8 e9 f0 k g9,lM h6 k∧Lo (keys f3) qa h6 k∧ST false (keys f3) qa W k ((qh,Ob #[vS j.1,e5,e6,vS j.2.2.2.1,vI j.2.2.2.2.1,e7,e8,e9,f0,vB qR.lu,h7,h8,g5,g8,g7,vI qy.Op,vI qy.K,g4,g6,q6,q7,g3,vI U,vI M,vB Q,vI T,vI Y] 101)::((b5,Ol d3 79)::((qi,oC b8 139)::g9)))∧E 0=vP qh∧E 3=vP b5∧Sl lU 15 k e5 j.2.1∧Sl mH 8 k e6 j.2.2.1∧Sl (Pl lj) 9 k e7 j.2.2.2.2.2.1∧Sl (Pl lj) 9 k e8 j.2.2.2.2.2.2.1∧Sl (Pl lp) 2 k e9 j.2.2.2.2.2.2.2.1∧Sl (Pl lp) 2 k f0 j.2.2.2.2.2.2.2.2) (λj t=>?_) ?_))
  ·refine sg (Wh d5 (Wn (Wf AN (Wf La (VB a Mh Z Z bK (Wi Z (ln (CI t Z (λi1 t=>?_) λi1 t=>?_))))))))
   ·have a:=a.drew
    have d:=a.has.ll (Db (Kb Sn))
    refine mF d lV (X 0 Z d (lz d5) (X 1 Z d (lX Z) (X 2 Z d (ly Ea Z) (X 3 Z d (ly Cf f6) (XH 4 Z d (λ_ P=>lq Z (lA P Mh Z eU)) (bS t λad i4 t=>?_))))))
    refine XE 5 Z (eD a (Cb Pz Cn) call70 (λq=>NQ q mv mv mv mv mv mv mv i4) ?_)
    rintro _ ag o8 a6 a f1 z ⟨o2,o3,o4,o5,o6,o7,d8,rfl,k3,k4,k5,k6,k7,k8⟩
    obtain rfl:=d8.symm
    have a:=a.perm (Tb Tn)
    have d:=a.has.nx f1 (Db (Kb Sn))
    refine ⟨d,mG kr (lE ?_)⟩
    obtain rfl:=sj t
    exact ⟨o2,o3,o4,o5,o6,o7,o8,_,f1,z,a.ll,d5,f6,k3,k4,k5,k6,k7,k8⟩
   refine kn ?_
   obtain rfl:=sj t
   exact ⟨f7,f8,f9,g0,g1,g2,h6,_,lM.refl _,Lo.refl,a.ll,d5,f6,d9,e0,e1,e2,e3,e4⟩
  rintro ⟨n1,m4,m5,n2,n3,m6,m7,m8,m9⟩ E W ⟨e5,e6,e7,e8,e9,f0,k,g9,c1,x,a,l3,l4,i5,i6,i7,i8,i9,j0⟩ O
  refine sg (Wh l3 (V (lq l4 (lC a.has (Mt Mh) d3 Z dv bR)) (bS O λn0 i2 O=>VE (Eg a call71 (mo.mN (Mg mv mv i2)) λaa a=>bS O λab i3 O=>?_))))
  refine VE (eD a (Cb Pz (Cb (Pb Pz) Cn)) call68 (λq=>Bu qh (⟨(⟨n1,m4,m5⟩:lm),n2,n3,m6,m7,m8,m9⟩:mD) e5 e6 e7 e8 e9 f0 qR h9 q6 q7 qD qi qf qg qb qc qd J I q8 ql N U M Q T Y n0 _ _ q mv mv mv mv mv mv mv mv mv i3) ?_)
  rintro _ af r0 p9 a h1 y ⟨h5,n5,n6,n7,n8,n9,o0,o1,d7,rfl,j5,j6,j7,j8,j9,k0,k1,k2⟩
  obtain rfl:=d7.symm
  have a:=a.perm (Tb (Tb Tn))
  refine Wa (ln ?_)
  have a:=a.ll (Kb (Kb (Db St)))
  refine lO ?_
  obtain rfl:=sj O
  exact ma (v:=h5) Z Z ⟨_,_,_,Z,a.mB (Kb (Kb Sn)),(a7.trans c1).trans h1,(s.trans x).trans y,ST.lG a (mJ.mem (Kb (Kb Sn))),h5,n5,n6,n7,n8,n9,o0,o1,Z,Z,j5,j6,j7,j8,j9,k0,k1,k2⟩
 refine bC d0 (λi d0=>?_) (λi d0=>?_)
 ·refine ug i (lz Z) (ug i (lX Z) (ug i (ly LD Z) (ug i (lq Z (lA a.has (Mt Mh) Z fe)) (ug i (nK Z) (V (lQ (cB i) Z) ?_)))))
  obtain rfl:=sj d0
  exact f2 _ _ ⟨_,a.ll,Z,Z,Z⟩
 refine un i (un i (un i (un i (un i (V (lN (cB i) Z) ?_)))))
 obtain rfl:=sj d0
 exact f2 _ _ ⟨_,a.ll,Z,Z,Z⟩
set_option maxHeartbeats 4000000 in
theorem Hl {I H M U u:Int} {Q:Bool} {T Y:Int} {J:Value} {r:((List (List Int))×Bool×Bool×Int×Int×Int×(List Int)×Int×Int×Int)} (h0:oa qe ((qh,Ob (tz qx qR qy q0 q1 q2 q3 q4 q5 q6 q7 qi U u Q T Y) 101)::((qi,Ob (po qf qg qb qc qd I H q8 M) 139)::[])) qa) (a0:Sl lU 15 qe q0 qx.lm.lK) (a2:Sl mH 8 qe q1 qx.lm.mi) (a5:Sl (Pl lj) 9 qe q2 qx.lD) (b1:Sl (Pl lj) 9 qe q3 qx.Shown) (a9:Sl (Pl lp) 2 qe q4 qx.lL) (b0:Sl (Pl lp) 2 qe q5 qx.me) (b6:Sl lx 5 qe q6 qy.Kids) (c7:pV nh qe q7 qD) (a6:Sl (Pl (lJ .u8)) 1 qe q8 ql) (c9:Sl (Pl lp) 2 qe q9 qH.nX) (c8:Sl mR 10 qe J qH.nm) (hm:uF qx qR qy qD qf qg qb qc qd I H ql M U u Q T Y qH=some r) :
  my false pg0 38 [vP qh,vA [vI qH.Kind,vI qH.ny,vI qH.E,vS qH.Name,q9,J]] qa qe ((qh,Ob (tz qx qR qy q0 q1 q2 q3 q4 q5 q6 q7 qi U u Q T Y) 101)::((qi,Ob (po qf qg qb qc qd I H q8 M) 139)::[])) (λv L1 μ1=>∃y1 y3,v=y1∧L1=((qh,Ob (tz qx qR qy q0 q1 q2 q3 q4 q5 q6 q7 qi r.2.2.2.2.2.2.2.1 r.2.2.2.2.2.2.2.2.1 Q T r.2.2.2.2.2.2.2.2.2) 101)::((qi,Ob (po r.2.1 r.2.2.1 r.2.2.2.1 qc qd r.2.2.2.2.1 r.2.2.2.2.2.1 y3 M) 139)::[]))∧Sl (wo (lJ .u8) 1) 1 μ1 y1 r.1∧Sl (Pl (lJ .u8)) 1 μ1 y3 r.2.2.2.2.2.2.1):=by
 let b8:=((po qf qg qb qc qd I H q8 M):Array Value)
 let z:=((tz qx qR qy q0 q1 q2 q3 q4 q5 q6 q7 qi U u Q T Y):Array Value)
 let y:=(qh,oC z 101)::((qi,oC b8 139)::[])
 refine rG h0 33 func38 Z (λa=>sg ?_)
 obtain ⟨A1,c2,rfl⟩:=c9.form
 obtain ⟨A3,c4,rfl⟩:=c8.form
 let e8:=((C6 qH.Kind qH.ny qH.E qH.Name A1 qH.nX.length c2 A3 qH.nm.length c4).toArray:Array Value)
 refine VE (mA a Z (λW6 x a=>Wa (ln (lH (IW hm (λd8 E W=>∃d9 g0,lM qe d9∧Lo (keys y) qa qe d9∧ST false (keys y) qa W d9 ((qh,Ob (tz qx qR qy q0 q1 q2 q3 q4 q5 q6 q7 qi d8.1 d8.2.1 Q T Y) 101)::((qi,Ob (po qf d8.2.2 qb qc qd I H q8 M) 139)::g0))) (λd8 h5 d6=>?_) ?_)))))
 ·refine bg (Wm (Wn (Wf AN (Wf FU (VB a (Mt Mh) Z Z fe (Wm (LJ h5 (λP E W=>∃e0,ST false (keys y) qa W qe ((x,oC e8 79)::((qh,oC z 101)::((qi,oC b8 139)::e0)))∧E 0=vP qh∧E 3=vP x∧E 24=vB P) 11 ?_ λP q d3=>?_)))))))
  ·rintro j7 E W ⟨e0,a,d5,g7,g8⟩ a3
   refine Wg g8 (ln (CI a3 Z (λf2 a3=>?_) λf2 a3=>?_))
   ·refine sg (Wh d5 (bS a3 λh f5 a3=>?_))
    refine VE (eD a (Cb (Pb Pz) (Cb (Pb Pz) Cn)) call30 (λs=>pX s mv mv mv mv mv mv mv mv mv f5) ?_)
    rintro _ j4 j9 i3 a e2 i ⟨e7,h6,d0,rfl,f8,f9⟩
    obtain rfl:=d0.symm
    have a:=a.perm (Tb (Tb Tn))
    refine Wa (ln ?_)
    have a:=a.ll (Kb (Kb (Db St)))
    refine lO (nz (mj ?_))
    obtain rfl:=sj a3
    replace d6:some (h.1,h.2.1,h.2.2.1,h.2.2.2.1,h.2.2.2.2.1,h.2.2.2.2.2.1,h.2.2.2.2.2.2.1,h.2.2.2.2.2.2.2.1,h.2.2.2.2.2.2.2.2.1,h.2.2.2.2.2.2.2.2.2)=some r:=d6
    obtain rfl:=sj d6
    exact ma (v:=e7) Z Z ⟨_,_,_,Z,a.mB (Kb (Kb Sn)),e2,i,ST.lG a (mJ.mem (Kb (Kb Sn))),e7,h6,Z,Z,f8,f9⟩
   refine sg (V (ly Aa g7) (VB a Mh Z Z bK (Wi Z (Wa (ln ?_)))))
   have a:=a.ll (Db St)
   refine CI a3 Z (λf3 a3=>?_) (λf3 a3=>?_)
   ·refine lI (Wh d5 (bS a3 λj0 f6 a3=>?_))
    refine VE (eD a (Cb Pz (Cb Pz Cn)) call37 (λs=>my.mN (sZ s mv mv mv mv mv mv mv mv mv f6)) ?_)
    rintro _ j5 h7 i4 a e3 j ⟨d1,rfl⟩
    obtain rfl:=d1.symm
    have a:=a.perm (Tb (Tb Tn))
    refine mh (mx (lE ?_))
    obtain rfl:=sj a3
    exact ⟨_,Z,h7,_,e3,j,a.ll⟩
   refine lI (Wh d5 (bS a3 λj3 f7 a3=>?_))
   refine VE (eD a (Cb Pz (Cb Pz Cn)) call37 (λs=>my.mN (sZ s mv mv mv mv mv mv mv mv mv f7)) ?_)
   rintro _ j6 h8 i5 a e4 k ⟨d2,rfl⟩
   obtain rfl:=d2.symm
   have a:=a.perm (Tb (Tb Tn))
   refine mh (mx (lE ?_))
   obtain rfl:=sj a3
   exact ⟨_,Z,h8,_,e4,k,a.ll⟩
  refine bC q (λd q=>?_) (λd q=>?_)
  ·refine ug d (ly Aa Z) (ug d (lq Z (lA a.has Mh Z bK)) (ug d (mL Z Z Z) (ug d (lz Z) (LJ q (λe6 E W=>∃O,ST false (keys y) qa W qe ((x,oC e8 79)::((qh,oC z 101)::((qi,oC b8 139)::O)))∧E 0=vP qh∧E 3=vP x∧E 13=vB qR.lu∧E 23=vB e6) 6 ?_ λe6 c1 d4=>?_))))
   ·rintro j8 E W ⟨O,a,g9,h1,h2,h3⟩ f4
    refine V (lQ (h2.trans (cB d)) h3) ?_
    obtain rfl:=sj f4
    exact d3 _ _ ⟨_,a.ll,g9,h1,Z⟩
   refine bC c1 (λg c1=>?_) (λg c1=>?_)
   ·refine un g (un g (un g (un g (un g (ug d (lQ (cB g) Z) ?_)))))
    obtain rfl:=sj c1
    exact d4 _ _ ⟨_,a.ll,Z,Z,Z,Z⟩
   refine ug g (lz Z) (ug g (lX Z) (ug g (ly LD Z) (ug g (lq Z (lA a.has (Mt Mh) Z fe)) (ug g (nK Z) (ug d (lN (cB g) Z) ?_)))))
   obtain rfl:=sj c1
   exact d4 _ _ ⟨_,a.ll,Z,Z,Z,Z⟩
  refine un d (un d (un d (un d (Vu Z Z (Vu Z Z (Vu Z Z (Vu Z Z (Vu Z Z (un d (V (lN (cB d) Z) ?_))))))))))
  obtain rfl:=sj q
  exact d3 _ _ ⟨_,a.ll,Z,Z,Z⟩
 rintro ⟨k0,k1,k2⟩ E W ⟨d9,g0,d7,t,a⟩ h4
 refine sg (Wa (lt ?_))
 obtain rfl:=sj h4
 exact ma (v:=vN) Z Z ⟨_,_,_,Z,a.mB (Kb (Kb Sn)),d7,t,ST.lG a (mJ.mem (Kb (Kb Sn))),vN,q8,Z,Z,Sl.nil _ _ _,mv⟩
set_option maxHeartbeats 4000000 in
theorem Hu (b6:Nat) (N:mD) (c g i y k x:Value) (z:pj) (a3:Formula) (a0 b1:Value) (c1:Option mc) (T:Nat) (b0 M:Bool) (a9 D K Y Q:Int) (u:Value) (U:List Int) (b2 a6 b7:Int) (a5:Bool) (a4 a8:Int) (d9:Value) (a1:List Int) (r:((List (List Int))×mD×Bool×Bool×Int×Int×Int×(List Int)×Int×Int×Int×Bool×Int)) (w:World) (h0:oa qe ((b6,Ob (tz N z a3 c g i y k x a0 b1 T a6 b7 a5 a4 a8) 101)::((T,Ob (po b0 M a9 D K Y Q u b2) 139)::[])) w) (j:Sl lU 15 qe c N.lm.lK) (t:Sl mH 8 qe g N.lm.mi) (B:Sl (Pl lj) 9 qe i N.lD) (J:Sl (Pl lj) 9 qe y N.Shown) (G:Sl (Pl lp) 2 qe k N.lL) (I:Sl (Pl lp) 2 qe x N.me) (a7:Sl lx 5 qe a0 a3.Kids) (b9:pV nh qe b1 c1) (H:Sl (Pl (lJ .u8)) 1 qe u U) (g8:Sl (Pl (lJ .u8)) 1 qe d9 a1) (hm:xd N z a3 c1 b0 M a9 D K Y Q U b2 a6 b7 a5 a4 a8 a1=some r) :
  my false pg0 11 [vP b6,d9] w qe ((b6,Ob (tz N z a3 c g i y k x a0 b1 T a6 b7 a5 a4 a8) 101)::((T,Ob (po b0 M a9 D K Y Q u b2) 139)::[])) (λv L1 μ1=>∃y1 y3 y5 y7 y9 e1 e3 f7,v=y1∧L1=((b6,Ob (tz r.2.1 z a3 y3 y5 y7 y9 e1 e3 a0 b1 T r.2.2.2.2.2.2.2.2.2.1 r.2.2.2.2.2.2.2.2.2.2.1 r.2.2.2.2.2.2.2.2.2.2.2.1 a4 r.2.2.2.2.2.2.2.2.2.2.2.2) 101)::((T,Ob (po r.2.2.1 r.2.2.2.1 r.2.2.2.2.1 D K r.2.2.2.2.2.1 r.2.2.2.2.2.2.1 f7 r.2.2.2.2.2.2.2.2.1) 139)::[]))∧Sl (wo (lJ .u8) 1) 1 μ1 y1 r.1∧Sl lU 15 μ1 y3 r.2.1.lm.lK∧Sl mH 8 μ1 y5 r.2.1.lm.mi∧Sl (Pl lj) 9 μ1 y7 r.2.1.lD∧Sl (Pl lj) 9 μ1 y9 r.2.1.Shown∧Sl (Pl lp) 2 μ1 e1 r.2.1.lL∧Sl (Pl lp) 2 μ1 e3 r.2.1.me∧Sl (Pl (lJ .u8)) 1 μ1 f7 r.2.2.2.2.2.2.2.1):=by
 refine rG h0 64 func11 Z (λd=>sg (Wa (lS (Wm (V (ox jm Z Z) (Wm (Vg Z Z (lz Z) (Vg Z Z (lX Z) (Vg Z Z (ly Ly Z) ?_)))))))))
 refine Vg Z Z (lq Z (lA d.has Mh Z bK)) (Vg Z Z (mL Z Z Z) (V (lN Z Z) (ln (CI hm Z (λj9 hm=>?_) λj9 hm=>?_))))
 ·refine sg (Wa (lt (mj ?_)))
  obtain rfl:=sj hm
  exact ma (v:=vN) Z Z ⟨_,_,_,Z,d.mB (Kb (Kb Sn)),lM.refl _,Lo.refl,ST.lG d (mJ.mem (Kb (Kb Sn))),vN,c,g,i,y,k,x,u,Z,Z,Sl.nil _ _ _,j,t,B,J,G,I,H⟩
 refine kg (Wm (Wn (Wf EY (VB d Mh Z Z lf (Wm (bS hm λP k0 hm=>?_))))))
 let g1:Value:=vI P.1.E
 let e5:Value:=vS P.1.Name
 let e4:Value:=vI P.1.ny
 let d4:Value:=vI P.1.Kind
 refine VE (eD d (Cb (Pb Pz) Cn) call33 (λh=>Nj h mv mv k0) ?_)
 rintro _ v8 ae m9 d a q ⟨e1,e3,d5,rfl,d2,d3⟩
 obtain rfl:=d5.symm
 have d:=d.perm (Tb Tn)
 refine Wm (Wx Z (Wx Z (VE (lY d cC λn4 o1 d=>?_))))
 obtain ⟨c2,c4,rfl⟩:=d2.form
 let b8:Value:= .slice c2 P.1.nX.length c4
 obtain ⟨c3,c5,rfl⟩:=d3.form
 let c6:Value:= .slice c3 P.1.nm.length c5
 refine VO (FA (#[d4,e4,g1,e5,b8,c6]) d bR λn5 d=>Wa (lS (Wm (Wi Z (ln (CI hm Z (λg9 hm=>?_) λg9 hm=>?_))))))
 ·refine sg (Wm (Wn (Wf EY (VB d (Mt (Mt Mh)) Z Z lf (bS hm λc0 h4 hm=>?_)))))
  refine VE (eD d (Cb (Pb Pz) Cn) call34 (λh=>my.mN (FV h mv h4)) ?_)
  rintro _ o5 p0 n0 d a2 W ⟨o9,d6,rfl,e0⟩
  obtain rfl:=d6.symm
  have d:=d.perm (Tb Tn)
  refine Wm (Wx Z (Wx Z (Wa (Wa (ln ?_)))))
  have d:=d.ll (Kb (Db St))
  refine sg (Wm (Wm ?_))
  obtain ⟨c7,c8,rfl⟩:=e0.form
  let g2:Value:= .slice c7 c0.1.length c8
  refine VE (mn (cs:=#[g2]) d (nw Z) (nU dH dA fL) λn7 f6 d=>bS hm λo2 h5 hm=>?_)
  refine VE (eD d (Cb (Pb (Pb Pz)) (Cb (Pb Pz) (Cs Pz Cn))) call32 (λh=>yF h mv mv mv mv mv mv mv mv mv (mX.lit Ii (l:=[c0.1]) (.cons (ys:=[g2]) ⟨g2,Z,e0⟩ .nil) Z nb Z) h5) ?_)
  rintro _ o6 p1 n1 d b5 aa ⟨f8,d7,rfl,h8⟩
  obtain rfl:=d7.symm
  have d:=d.perm (Tb (Tb Tn))
  refine Wa (lt (mj ?_))
  obtain rfl:=sj hm
  exact ma (v:=f8) Z Z ⟨_,_,_,Z,d.mB (Kb (Kb Sn)),(a.trans a2).trans b5,(q.trans W).trans aa,ST.lG d (mJ.mem (Kb (Kb Sn))),f8,c,g,i,y,k,x,u,Z,Z,h8,mv,mv,mv,mv,mv,mv,mv⟩
 refine kS (Wm (Wi Z (ln (CI hm Z (λh1 hm=>?_) λh1 hm=>?_))))
 ·refine sg (Wa (ln ?_))
  have d:=d.ll (Db St)
  refine lO (mj ?_)
  obtain rfl:=sj hm
  exact ma (v:=vN) Z Z ⟨_,_,_,Z,d.mB (Sb (Pb Pz) (Kb Sn)),a,q,ST.lG d (mJ.mem (Sb (Pb Pz) (Kb Sn))),vN,c,g,i,y,k,x,u,Z,Z,Sl.nil _ _ _,mv,mv,mv,mv,mv,mv,mv⟩
 refine kS (Wf Aa (VB d Mh Z Z bK (ln (bg (Wi Z (Wa (mh ?_)))))))
 refine lE (CI hm Z (λh2 hm=>?_) λh2 hm=>?_)
 ·refine sg (Wm (VA d Mh [d4,e4,g1,e5,b8,c6] dv bR (bS hm λo3 h6 hm=>?_)))
  refine VE (eD d (Cb (Pb (Pb Pz)) (Cb (Pb Pz) Cn)) call35 (λh=>GD h mv mv mv mv mv mv mv mv mv mv mv h6) ?_)
  rintro _ o7 p2 n2 d e7 ab ⟨f9,k4,k5,k6,k8,k9,l0,l1,d8,rfl,h9,i0,i1,i2,i3,i4,i5,i6⟩
  obtain rfl:=d8.symm
  have d:=d.perm (Tb (Tb Tn))
  refine Wa (ln ?_)
  have d:=d.ll (Kb (Kb (Db St)))
  refine lO (nz (mj ?_))
  obtain rfl:=sj hm
  exact ma (v:=f9) Z Z ⟨_,_,_,Z,d.mB (Kb (Kb Sn)),a.trans e7,q.trans ab,ST.lG d (mJ.mem (Kb (Kb Sn))),f9,k4,k5,k6,k8,k9,l0,l1,Z,Z,h9,i0,i1,i2,i3,i4,i5,i6⟩
 refine sg (Wi Z (Wa (ln (CI hm Z (λh3 hm=>?_) λh3 hm=>?_))))
 ·refine sg (Wm (VA d Mh [d4,e4,g1,e5,b8,c6] dv bR (bS hm λo4 h7 hm=>?_)))
  refine VE (eD d (Cb (Pb (Pb Pz)) (Cb (Pb Pz) Cn)) call36 (λh=>Gv h mv mv mv mv mv mv mv mv mv mv mv h7) ?_)
  rintro _ o8 p3 n3 d e8 ad ⟨g0,l3,l4,l5,l6,j4,j5,j6,c9,rfl,i7,i8,i9,j0,j3,f1,f2,f3⟩
  obtain rfl:=c9.symm
  have d:=d.perm (Tb (Tb Tn))
  refine Wa (ln ?_)
  have d:=d.ll (Kb (Kb (Db St)))
  refine lO (nz (mj ?_))
  obtain rfl:=sj hm
  exact ma (v:=g0) Z Z ⟨_,_,_,Z,d.mB (Kb (Kb Sn)),a.trans e8,q.trans ad,ST.lG d (mJ.mem (Kb (Kb Sn))),g0,l3,l4,l5,l6,j4,j5,j6,Z,Z,i7,i8,i9,j0,j3,f1,f2,f3⟩
 refine sg (Wi Z (Wa (ln (CI hm Z (λe6 hm=>?_) λe6 hm=>?_))))
 ·refine sg (Wm (Wf ER (VB d Mh Z Z bK (bS hm λm3 e9 hm=>?_))))
  refine VE (eD d (Cb (Pb (Pb Pz)) (Cb (Pb Pz) Cn)) call37 (λh=>my.mN (sZ h mv mv mv mv mv mv mv mv mv e9)) ?_)
  rintro _ m5 m7 l8 d b3 s ⟨d0,rfl⟩
  obtain rfl:=d0.symm
  have d:=d.perm (Tb (Tb Tn))
  refine ln ?_
  have d:=d.ll (Kb (Kb (Db St)))
  refine sg (Wa (lt (nz (mj ?_))))
  obtain rfl:=sj hm
  exact ma (v:=vN) Z Z ⟨_,_,_,Z,d.mB (Kb (Kb Sn)),a.trans b3,q.trans s,ST.lG d (mJ.mem (Kb (Kb Sn))),vN,c,g,i,y,k,x,u,Z,Z,Sl.nil _ _ _,mv,mv,mv,mv,mv,mv,mv⟩
 refine mU (mx (lE (sg (Wm (VA d Mh [d4,e4,g1,e5,b8,c6] dv bR (bS hm λm4 f0 hm=>?_))))))
 refine VE (eD d (Cb (Pb (Pb Pz)) (Cb (Pb Pz) Cn)) call38 (λh=>Hl h mv mv mv mv mv mv mv mv mv mv mv f0) ?_)
 rintro _ m6 m8 l9 d b4 O ⟨e2,j7,d1,rfl,f4,f5⟩
 obtain rfl:=d1.symm
 have d:=d.perm (Tb (Tb Tn))
 refine Wa (ln ?_)
 have d:=d.ll (Kb (Kb (Db St)))
 refine lO ?_
 obtain rfl:=sj hm
 exact ma (v:=e2) Z Z ⟨_,_,_,Z,d.mB (Kb (Kb Sn)),a.trans b4,q.trans O,ST.lG d (mJ.mem (Kb (Kb Sn))),e2,c,g,i,y,k,x,j7,Z,Z,f4,mv,mv,mv,mv,mv,mv,f5⟩
set_option maxHeartbeats 4000000 in
theorem Ka (a:yJ) (U Zq a7 b4 b1 b3 e3 k8 Y a1 a8 b6 b2 b5 e4 k9 p1:Value) (r:Bool) (w:World) (k:Sl lU 15 (hp w) U a.A.S.lm.lK) (x:Sl mH 8 (hp w) Zq a.A.S.lm.mi) (D:Sl (Pl lj) 9 (hp w) a7 a.A.S.lD) (a3:Sl (Pl lj) 9 (hp w) b4 a.A.S.Shown) (Q:Sl (Pl lp) 2 (hp w) b1 a.A.S.lL) (a2:Sl (Pl lp) 2 (hp w) b3 a.A.S.me) (a6:Sl lx 5 (hp w) e3 a.A.F.Kids) (g4:Sl za 2 (hp w) k8 a.A.G) (c0:Sl lU 15 (hp w) Y a.B.S.lm.lK) (e5:Sl mH 8 (hp w) a1 a.B.S.lm.mi) (g3:Sl (Pl lj) 9 (hp w) a8 a.B.S.lD) (i6:Sl (Pl lj) 9 (hp w) b6 a.B.S.Shown) (h7:Sl (Pl lp) 2 (hp w) b2 a.B.S.lL) (i5:Sl (Pl lp) 2 (hp w) b5 a.B.S.me) (j0:Sl lx 5 (hp w) e4 a.B.F.Kids) (p3:Sl za 2 (hp w) k9 a.B.G) (e6:Sl AX 2 (hp w) p1 a.L) (hm:zo a=some r) :
  mo false pg0 3 [vA [vS a.A.S.lm.Name,U,Zq,vS a.A.S.mI,vI a.A.S.Room,a7,b4,b1,b3,vB a.A.T.lu,vI a.A.T.ny,vI a.A.T.Room,vI a.A.T.re,vI a.A.T.wc,vI a.A.T.vp,vI a.A.F.Op,vI a.A.F.K,vS a.A.F.lh.lu,vS a.A.F.lh.Word,e3,k8,vS a.B.S.lm.Name,Y,a1,vS a.B.S.mI,vI a.B.S.Room,a8,b6,b2,b5,vB a.B.T.lu,vI a.B.T.ny,vI a.B.T.Room,vI a.B.T.re,vI a.B.T.wc,vI a.B.T.vp,vI a.B.F.Op,vI a.B.F.K,vS a.B.F.lh.lu,vS a.B.F.lh.Word,e4,k9,vS a.R.lu,vS a.R.Word,p1]] w (vB r):=by
 refine cG 109 func3 Z (λd=>sg ?_)
 obtain ⟨A1,c2,rfl⟩:=k.form
 let g6:Value:= .slice A1 a.A.S.lm.lK.length c2
 obtain ⟨A3,c4,rfl⟩:=x.form
 let j1:Value:= .slice A3 a.A.S.lm.mi.length c4
 obtain ⟨A5,c6,rfl⟩:=D.form
 let j2:Value:= .slice A5 a.A.S.lD.length c6
 obtain ⟨A7,c8,rfl⟩:=a3.form
 let k1:Value:= .slice A7 a.A.S.Shown.length c8
 obtain ⟨A9,h1,rfl⟩:=Q.form
 let j7:Value:= .slice A9 a.A.S.lL.length h1
 obtain ⟨g9,h2,rfl⟩:=a2.form
 let k2:Value:= .slice g9 a.A.S.me.length h2
 obtain ⟨h0,h3,rfl⟩:=a6.form
 let l8:Value:= .slice h0 a.A.F.Kids.length h3
 obtain ⟨i7,i9,rfl⟩:=g4.form
 let m4:Value:= .slice i7 a.A.G.length i9
 obtain ⟨n3,o1,rfl⟩:=c0.form
 obtain ⟨n4,o2,rfl⟩:=e5.form
 obtain ⟨n5,o3,rfl⟩:=g3.form
 obtain ⟨n6,o4,rfl⟩:=i6.form
 obtain ⟨n7,o5,rfl⟩:=h7.form
 obtain ⟨n8,o6,rfl⟩:=i5.form
 obtain ⟨n9,o7,rfl⟩:=j0.form
 obtain ⟨o0,o8,rfl⟩:=p3.form
 obtain ⟨l0,l1,rfl⟩:=e6.form
 let a0:=C7 a.A.S.lm.Name A1 a.A.S.lm.lK.length c2 A3 a.A.S.lm.mi.length c4 a.A.S.mI a.A.S.Room A5 a.A.S.lD.length c6 A7 a.A.S.Shown.length c8 A9 a.A.S.lL.length h1 g9 a.A.S.me.length h2 a.A.T.lu a.A.T.ny a.A.T.Room a.A.T.re a.A.T.wc a.A.T.vp a.A.F.Op a.A.F.K a.A.F.lh.lu a.A.F.lh.Word h0 a.A.F.Kids.length h3 i7 a.A.G.length i9 a.B.S.lm.Name n3 a.B.S.lm.lK.length o1 n4 a.B.S.lm.mi.length o2 a.B.S.mI a.B.S.Room n5 a.B.S.lD.length o3 n6 a.B.S.Shown.length o4 n7 a.B.S.lL.length o5 n8 a.B.S.me.length o6 a.B.T.lu a.B.T.ny a.B.T.Room a.B.T.re a.B.T.wc a.B.T.vp a.B.F.Op a.B.F.K a.B.F.lh.lu a.B.F.lh.Word n9 a.B.F.Kids.length o7 o0 a.B.G.length o8 a.R.lu a.R.Word l0 a.L.length l1
 refine VE (mA d Z (λbs i8 d=>Wa (lS (bS hm λbx y7 hm=>VE (Eg d call4 (Qm  _ _  y7) λbt d=>V (nK Z) (ln (CI hm Z (λy3 hm=>?_) λy3 hm=>?_)))))))
 ·refine sg (Wa (ln ?_))
  have d:=d.ll (Db St)
  refine lO (mj ?_)
  obtain rfl:=sj hm
  exact rP d
 refine kg (Wf FG (Wf WG (VB d Mh Z Z isAgg37 (bS hm λbu y8 hm=>?_))))
 refine VE (eD d (aT _) call5 (λhh=>my.mN (On hh (g4.mono RH.mono (lM.refl _)) y8)) ?_ (L0:=[]))
 rintro _ ca u2 bp d y cy ⟨l6,p4,rfl,t4⟩
 obtain rfl:=p4.symm
 refine Wm (Wx Z (Wx Z (Wa (Wa (lS (Wf FG (VA d Mh [vS a.A.S.lm.Name,g6,j1,vS a.A.S.mI,vI a.A.S.Room,j2,k1,j7,k2,vB a.A.T.lu,vI a.A.T.ny,vI a.A.T.Room,vI a.A.T.re,vI a.A.T.wc,vI a.A.T.vp,vI a.A.F.Op,vI a.A.F.K,vS a.A.F.lh.lu,vS a.A.F.lh.Word,l8,m4] isAgg39 sizeOf39 (bS hm λbz y9 hm=>VE (Eg d call6 (QE (k.mono uE.mono (y.trans d.ns)) (x.mono yI.mono (y.trans d.ns)) (D.mono (Pl.mono _) (y.trans d.ns)) (a3.mono (Pl.mono _) (y.trans d.ns)) (Q.mono (Pl.mono _) (y.trans d.ns)) (a2.mono (Pl.mono _) (y.trans d.ns)) (a6.mono mQ.mono (y.trans d.ns)) (g4.mono RH.mono (y.trans d.ns)) y9) λbv d=>Wi Z ?_)))))))))
 refine Wm (LJ hm (λcj E W=>∃x4,ST false nf w W u2 ((i8,Ol a0 42)::x4)∧E 1=vP i8∧E 3=l6∧E 4=vI bu.2∧E 28=vB cj) 5 ?_ λcj e9 l5=>?_)
 ·let j8:Value:=(vP i8)
  rintro cc E W ⟨x4,d,x7,x8,z5,z6⟩ y5
  refine Wh z6 (LJ y5 (λch E W=>∃x5,ST false nf w W u2 ((i8,Ol a0 42)::x5)∧E 1=j8∧E 3=l6∧E 32=vB ch) 3 ?_ λch e8 l4=>?_)
  ·rintro cd E W ⟨x5,d,P,x9,z7⟩ y6
   refine Wh z7 (LJ y6 (λcg E W=>∃x6,ST false nf w W u2 ((i8,Ol a0 42)::x6)∧E 1=j8∧E 3=l6∧E 40=vB cg) 7 ?_ λcg e7 l3=>?_)
   ·rintro ce E W ⟨x6,d,o9,y0,z8⟩ t
    refine ln (CI t z8 (λy4 t=>?_) λy4 t=>?_)
    ·refine sg (Wa (ln ?_))
     have d:=d.ll (Db St)
     refine lO (mj ?_)
     obtain rfl:=sj t
     exact rP d
    refine kg (V (ly FG o9) (Wf KN (VA d Mh (C2 a.A.S.lm.Name A1 a.A.S.lm.lK.length c2 A3 a.A.S.lm.mi.length c4 a.A.S.mI a.A.S.Room A5 a.A.S.lD.length c6 A7 a.A.S.Shown.length c8 A9 a.A.S.lL.length h1 g9 a.A.S.me.length h2) eK dN (V (ly FG o9) (Wf abx (VA d Mh (yp a.A.T) isAgg31 sizeOf31 (V (ly FG o9) (Wf WO (VA d Mh (C1 a.A.F.Op a.A.F.K a.A.F.lh.lu a.A.F.lh.Word h0 a.A.F.Kids.length h3) bD aD (Wh y0 (bS t λz9 z0 t=>?_)))))))))))
    refine VE (Ub d (aT _) call7 (λhH hN s ck=>Qu ⟨hH,hN,s⟩ (k.mono uE.mono y) (x.mono yI.mono y) (D.mono (Pl.mono _) y) (a3.mono (Pl.mono _) y) (Q.mono (Pl.mono _) y) (a2.mono (Pl.mono _) y) (a6.mono mQ.mono y) (t4.mono zy (lM.refl _)) z0) (λbw cb cf bq d j5 cz p2=>?_) (L0:=[]))
    have hex:∃o,z9.1=o:=⟨_,Z⟩
    obtain ⟨cx,aE⟩:=hex
    rw [aE] at t p2
    have ah:=aaU t
    rcases ah with ⟨q,t⟩ | ⟨c,q,t⟩
    ·subst q
     obtain ⟨m5,rfl⟩:=p2
     replace m5:=m5.symm; subst m5
     have d:=d.perm Tn
     refine Wm (Wx Z (Wx Z (Wa (Wa (lS (Wm (Wi Z (ln (CI t Z (λu9 t=>?_) λu9 t=>?_)))))))))
     ·refine sg (Wm (V (ox jm Z Z) (Wa (ln ?_))))
      have d:=d.ll (Db St)
      refine lO (mj ?_)
      obtain rfl:=sj t
      exact rP d
     cases t
    subst q
    obtain ⟨j9,t5,t6,t7,t8,t9,u0,n1,n2,k0,z2,m6,rfl,p5,p6,p7,p8,p9,bj,m9,n0,v3⟩:=p2
    replace m6:=m6.symm; subst m6
    have d:=d.perm (Tb (Tb Tn))
    refine Wm (Wx Z (Wx Z (Wa (Wa (lS (Wm (Wi Z (ln (CI t Z (λv0 t=>?_) λv0 t=>?_)))))))))
    ·refine sg (Wm (V (ox jm Z Z) (Wa (ln ?_))))
     have d:=d.ll (Db (Db (Db St)))
     refine lO (mj ?_)
     obtain rfl:=sj t
     exact rP d
    refine kg (VE (lY d zeroValue52 λbi b7 d=>lr (V (pG (by exact pp Z) Z) (Wa (lr ?_)))))
    let g5:Value:=vP b7
    refine Wm (Wm (bS t λg8 v1 t=>?_))
    let l9:=c.2.2.2.2.1.timeout
    let m3:=c.2.2.2.2.1.Je
    refine VE (eD d (Cb (Pb Pz) (Cb (Pb Pz) Cn)) call9 (λhh=>Gp hh (p5.mono uE.mono (lM.refl _)) (p6.mono yI.mono (lM.refl _)) (p7.mono (Pl.mono _) (lM.refl _)) (p8.mono (Pl.mono _) (lM.refl _)) (p9.mono (Pl.mono _) (lM.refl _)) (bj.mono (Pl.mono _) (lM.refl _)) (m9.mono mQ.mono (lM.refl _)) (n0.mono zy (lM.refl _)) (v3.mono (Pl.mono _) (lM.refl _)) v1) ?_)
    rintro _ bl bo bf d z cv ⟨u1,z3,m7,rfl,v4,v5⟩
    obtain rfl:=m7.symm
    have d:=d.perm (Tb (Tb Tn))
    refine bS t λz1 v2 t=>?_
    refine VE (D0 (args:=[u1]) (caps:=#[g5]) _ _ d (Cb (Pb (Pb Pz)) (C0 Cn)) Z call8 (by exact pp Z) (λhH hN s ck=>my.mN (yW ⟨hH,hN,s⟩ (v4.mono (wo.mono _ _) (lM.refl _)) (mX.nil _ _ _ _) v2)) λbk bn u3 bh d u cw u8=>?_)
    obtain ⟨z4,y1,m8,rfl,v6⟩:=u8
    replace m8:=m8.symm; subst m8
    have d:=d.perm (Tb (Tr Tn))
    refine lS (V (ly VW o9) (VB d (Mt (Ma (Mt (Mt Mh)))) Z Z isAgg40 (V (mP underlying40 Z e6) (Wm (ln (nM 67 66 (λi js E W=>∃f3 a9 f1 d7 d1 c1 d2 c3 d8 d9 d3 c5 d4 c7 d5 c9 d6 d0 f5 f6 e0 e1 f7 f8 f9 g0 g1 g2 f4 f2 e2 I m1,lM u3 I∧ST false nf w W I ((b7,Ob #[f3] 52)::((j9,Ob #[vS d7,d1,d2,vS d8,vI d9,d3,d4,d5,d6,vB c.2.1.lu,vI c.2.1.ny,vI c.2.1.Room,vI c.2.1.re,vI c.2.1.wc,vI c.2.1.vp,vI c.2.2.1.Op,vI c.2.2.1.K,vS c.2.2.1.lh.lu,vS c.2.2.1.lh.Word,n1,n2,vP k0,vI f5,vI f6,vB e0,vI e1,vI f7] 101)::((k0,Ob (po f8 f9 g0 l9 m3 g1 g2 f4 e2) 139)::((i8,Ol a0 42)::(f1++m1)))))∧E 1=j8∧E 3=l6∧E 5=vP j9∧E 6=g5∧E 7=(.func (.func 8) #[] #[g5])∧E 65= .slice l0 a.L.length l1∧mX 56 sO 2 I f3 a9 f1∧Sl lU 15 I d1 c1∧Sl mH 8 I d2 c3∧Sl (Pl lj) 9 I d3 c5∧Sl (Pl lj) 9 I d4 c7∧Sl (Pl lp) 2 I d5 c9∧Sl (Pl lp) 2 I d6 d0∧Sl (Pl (lJ .u8)) 1 I f4 f2∧sc c a bu js a9 d7 c1 c3 d8 d9 c5 c7 c9 d0 f5 f6 e0 e1 f7 f8 f9 g0 g1 g2 f2 e2=some r) e6.len ⟨z4,z1,y1,c.1.lm.Name,t5,c.1.lm.lK,t6,c.1.lm.mi,c.1.mI,c.1.Room,t7,c.1.lD,t8,c.1.Shown,t9,c.1.lL,u0,c.1.me,c.2.2.2.2.2.1,c.2.2.2.2.2.2.1,c.2.2.2.2.2.2.2.1,c.2.2.2.2.2.2.2.2.1,g8.2.2.2.2.2.2,g8.2.1,c.2.2.2.2.1.closed,g8.2.2.1,g8.2.2.2.1,g8.2.2.2.2.1,z3,g8.2.2.2.2.2.1,c.2.2.2.2.1.Xq,u3,_,lM.refl _,d.ll (Kb (Sb (Pr Pz) (Sb (Pr Pz) (Sb (Pr Pz) St)))),o9,y0,Z,Z,Z,Z,v6,p5.mono uE.mono (z.trans u),p6.mono yI.mono (z.trans u),p7.mono (Pl.mono _) (z.trans u),p8.mono (Pl.mono _) (z.trans u),p9.mono (Pl.mono _) (z.trans u),bj.mono (Pl.mono _) (z.trans u),v5.mono (Pl.mono _) u,t⟩ ?_ ?_))))))
    ·rintro v7 H aa E W s1 ⟨⟨eI,eN⟩,f3,a9,f1,d7,d1,c1,d2,c3,d8,d9,d3,c5,d4,c7,d5,c9,d6,d0,f5,f6,e0,e1,f7,f8,f9,g0,g1,g2,f4,f2,e2,I,m1,G,d,h4,j3,h5,b9,h6,j4,f0,h8,h9,i0,i1,i2,i3,k3,g⟩
     let m0:=(⟨(⟨d7,c1,c3⟩:lm),d8,d9,c5,c7,c9,d0⟩:mD)
     refine sg (VQ (nI (i:=(v7:Int)) (x0:=H) AX.out underlying40 sizeOf60 j4 eI (e6.mono Wd.mono ((((y.trans j5).trans z).trans u).trans G)) (aF _) s1) λar ⟨_,⟨au,rfl,i4⟩,r5⟩=>V (lq Z (mu d.has r5 isAgg60 sizeOf60)) (VE (lY d zeroValue60 λaf ap d=>?_)))
     obtain ⟨a4,a5,rfl⟩:=i4.form
     let b8:Value:= .slice a4 H.B.length a5
     refine VO (FA (#[vB H.Pt,b8]) d sizeOf60 λag d=>lS (Wf RW (VB d Mh Z Z dq (V (mP aZ Z i4) (Wi Z (ln (CI g Z (λr2 g=>?_) λr2 g=>?_)))))))
     ·refine sg (Wa (ln ?_))
      have d:=d.ll (Db (Db (Db (Db (Db (Dr St))))))
      refine lO (mj (nz (mj (nz (mj ?_)))))
      obtain rfl:=sj g
      exact rP d
     refine kS (Wf abd (VB d Mh Z Z fe (ln (CI g Z (λr3 g=>?_) λr3 g=>?_))))
     ·refine sg (Wh h6 (Wh h5 (bS g λT r6 g=>?_)))
      refine VE (eD d (Cb (Pb (Pb Pz)) (Cb (Pb (Pb Pz)) Cn)) call10 (λhh=>Hg j9 m0 d1 d2 d3 d4 d5 d6 c.2.1 (⟨c.2.2.1.Op,c.2.2.1.K,c.2.2.1.lh,c.2.2.1.Kids⟩:Formula) n1 n2 c.2.2.2.1 k0 f8 f9 g0 l9 m3 g1 g2 f4 f2 e2 f5 f6 e0 e1 f7 _ _ hh (h8.mono uE.mono (lM.refl _)) (h9.mono yI.mono (lM.refl _)) (i0.mono (Pl.mono _) (lM.refl _)) (i1.mono (Pl.mono _) (lM.refl _)) (i2.mono (Pl.mono _) (lM.refl _)) (i3.mono (Pl.mono _) (lM.refl _)) (m9.mono mQ.mono ((z.trans u).trans G)) (n0.mono zy ((z.trans u).trans G)) (k3.mono (Pl.mono _) (lM.refl _)) r6) ?_)
      rintro _ av bc ab d K cq ⟨cm,w1,k4,rfl,s2,s3⟩
      obtain rfl:=k4.symm
      have d:=d.perm (Tb (Tb Tn))
      refine bS g λv8 r7 g=>?_
      refine VE (D0 (args:=[cm]) (caps:=#[g5]) _ _ d (Cb (Pb (Pb (Pb Pz))) (Cr (Qb (Qb (Qb (Qb Qz)))) Cn)) Z call8 (by exact pp Z) (λhH hN s ck=>my.mN (yW ⟨hH,hN,s⟩ (s2.mono (wo.mono _ _) (lM.refl _)) (f0.mono A6 K) r7)) λai aw x2 ac d M cr cp=>?_)
      obtain ⟨w2,u5,k5,rfl,s4⟩:=cp
      replace k5:=k5.symm; subst k5
      have d:=d.perm (Tb (Tr Tn))
      refine ln ?_
      have d:=d.ll (Kb (Kr (Kb (Kb (Db St)))))
      exact pg (oL (uO (lE ⟨eI,eN,w2,v8,u5,d7,d1,c1,d2,c3,d8,d9,d3,c5,d4,c7,d5,c9,d6,d0,T.2.2.2.2.2.2.2.1,T.2.2.2.2.2.2.2.2.1,e0,T.2.2.2.2.2.2.2.2.2.1,T.2.2.2.2.2.2.2.2.2.2,T.2.1,T.2.2.1,T.2.2.2.1,T.2.2.2.2.1,T.2.2.2.2.2.1,w1,T.2.2.2.2.2.2.1,e2,x2,_,(G.trans K).trans M,d.ll (Kb (Sb (Pr Pz) (Sb (Pr Pz) (Sb (Pr Pz) St)))),h4,j3,h5,b9,h6,j4,s4,h8.mono uE.mono (K.trans M),h9.mono yI.mono (K.trans M),i0.mono (Pl.mono _) (K.trans M),i1.mono (Pl.mono _) (K.trans M),i2.mono (Pl.mono _) (K.trans M),i3.mono (Pl.mono _) (K.trans M),s3.mono (Pl.mono _) M,g⟩)))
     refine kg (V (lq b9 (lA d.has (Mt Mh) Z isAgg52)) (Wf RW (VB d Mh Z Z dq (V (mW (v:=vA [vB false,b8]) (nw Z) (mz dI du (Jj _ du) kr)) (VE (mn (cs:=#[vB false,b8]) d (nw Z) (nU dD eA dI) λaj aq d=>?_))))))
     have d:=d.perm (Nr (Qb (Qb (Qb (Qb (Qb (Qb Qz)))))) Nz)
     refine bS g λj6 r4 g=>VE (wW (B:=f1) A6 d dc dD FQ.1 FQ.2.1 Z FQ.2.2.1 FQ.2.2.2 Z Z f0 (EI.lit A6 (l:=[(⟨false,H.B⟩:tT)]) (.cons (ys:=[vB false,b8]) (sO.mk ⟨b8,Z,i4⟩) .nil) Z nb (d.at_ (Ma Mh))) r4 λak ay u4 d p0=>?_)
     obtain ⟨l7,m2,rfl⟩:=p0.form
     have d:=d.perm (Nb (Pr (Pb (Pb Pz))) Nz)
     refine VO (lZ (.slice l7 j6.length m2) (#[.slice l7 j6.length m2]) d b9 Z sizeOf52 oc nb Z (λal d=>ln ?_))
     have d:=d.ll (Kb (Kr (Db St)))
     refine lI (Wh h6 (Wh h5 (Wf RW (VB d (Mt (Ma Mh)) Z Z dq (bS g λj r8 g=>?_)))))
     refine VE (eD d (Cb (Pb (Pr (Pb Pz))) (Cb (Pb (Pr (Pb Pz))) Cn)) call11 (λhh=>Hu j9 m0 d1 d2 d3 d4 d5 d6 c.2.1 (⟨c.2.2.1.Op,c.2.2.1.K,c.2.2.1.lh,c.2.2.1.Kids⟩:Formula) n1 n2 c.2.2.2.1 k0 f8 f9 g0 l9 m3 g1 g2 f4 f2 e2 f5 f6 e0 e1 f7 b8 H.B _ _ hh (h8.mono uE.mono (lM.refl _)) (h9.mono yI.mono (lM.refl _)) (i0.mono (Pl.mono _) (lM.refl _)) (i1.mono (Pl.mono _) (lM.refl _)) (i2.mono (Pl.mono _) (lM.refl _)) (i3.mono (Pl.mono _) (lM.refl _)) (m9.mono mQ.mono ((z.trans u).trans G)) (n0.mono zy ((z.trans u).trans G)) (k3.mono (Pl.mono _) (lM.refl _)) (i4.mono (Pl.mono _) (lM.refl _)) r8) ?_)
     rintro _ az bd ad d l2 ct ⟨cn,w3,w4,w5,w6,w7,w8,w9,k6,rfl,s5,s6,s7,s8,s9,t0,t1,t2⟩
     obtain rfl:=k6.symm
     have d:=d.perm (Tb (Tb Tn))
     refine bS g λv9 r9 g=>?_
     refine VE (D0 (args:=[cn]) (caps:=#[g5]) _ _ d (Cb (Pb (Pb Pz)) (Cr (Qb (Qb Qz)) Cn)) Z call8 (by exact pp Z) (λhH hN s ck=>my.mN (yW ⟨hH,hN,s⟩ (s5.mono (wo.mono _ _) (lM.refl _)) (p0.mono A6 l2) r9)) λan ba x3 ae d N cu r1=>?_)
     obtain ⟨x1,u6,k7,rfl,t3⟩:=r1
     replace k7:=k7.symm; subst k7
     have d:=d.perm (Tb (Tr Tn))
     refine mh (mx (lE ?_))
     have d:=d.ll (Kb (Kr (Kb (Kb (Db St)))))
     exact ⟨eI,eN,x1,v9,u6,j.2.1.lm.Name,w3,j.2.1.lm.lK,w4,j.2.1.lm.mi,j.2.1.mI,j.2.1.Room,w5,j.2.1.lD,w6,j.2.1.Shown,w7,j.2.1.lL,w8,j.2.1.me,j.2.2.2.2.2.2.2.2.2.1,j.2.2.2.2.2.2.2.2.2.2.1,j.2.2.2.2.2.2.2.2.2.2.2.1,e1,j.2.2.2.2.2.2.2.2.2.2.2.2,j.2.2.1,j.2.2.2.1,j.2.2.2.2.1,j.2.2.2.2.2.1,j.2.2.2.2.2.2.1,w9,j.2.2.2.2.2.2.2.1,j.2.2.2.2.2.2.2.2.1,x3,_,(G.trans l2).trans N,d.ll (Kb (Sb (Pr Pz) (Sb (Pr Pz) (Sb (Pr Pz) St)))),h4,j3,h5,b9,h6,j4,t3,s6.mono uE.mono N,s7.mono yI.mono N,s8.mono (Pl.mono _) N,s9.mono (Pl.mono _) N,t0.mono (Pl.mono _) N,t1.mono (Pl.mono _) N,t2.mono (Pl.mono _) N,g⟩
    rintro E W ⟨⟨eI,eN⟩,f3,a9,f1,d7,d1,c1,d2,c3,d8,d9,d3,c5,d4,c7,d5,c9,d6,d0,f5,f6,e0,e1,f7,f8,f9,g0,g1,g2,f4,f2,e2,I,m1,G,d,h4,j3,h5,b9,h6,j4,f0,h8,h9,i0,i1,i2,i3,k3,g⟩
    refine lE ?_
    have d:=d.ll (Kb (Db (Db St)))
    refine lH ?_
    have d:=d.drew
    have h:=d.has.ll (Kb (Kb Sn))
    refine mF h lV (X 0 Z h (ly FG h4) (X 1 Z h (ly KN Z) (X 2 Z h (ly Bl Z) (XH 3 Z h (λ_ hS=>lq Z (lC hS (Mt Mh) (IV a.A.S.lm.Name A1 a.A.S.lm.lK.length c2 A3 a.A.S.lm.mi.length c4) Z fa eo)) (X 4 Z h (ly FG h4) (X 5 Z h (ly KN Z) (X 6 Z h (ly IF Z) (XH 7 Z h (λ_ hS=>lq Z (lA hS (Mt Mh) Z cA)) (X 8 Z h (lz j3) (XH 9 Z h (λ_ hS=>lq b9 (lA hS Mh Z isAgg52)) (XH 11 Z h (λ_ hS=>lq b9 (lA hS Mh Z isAgg52)) (X 12 Z h (AS dD Z f0) (X 13 Z h (mW (v:=vA (pk (⟨(a9.length:Int),0⟩:sB))) (nw Z) (mz fY dK (OY _ dK) kr)) (bS g λw0 s0 g=>?_))))))))))))))
    refine XE 10 Z (Eg d call12 (DO (k.mono uE.mono (((((y.trans j5).trans z).trans u).trans G).trans d.ns)) (x.mono yI.mono (((((y.trans j5).trans z).trans u).trans G).trans d.ns)) (t4.mono zy ((((j5.trans z).trans u).trans G).trans d.ns)) (f0.sl A6 d.ns λb o hq=>d.at_ (Mt (Mt (Ml hq)))) s0) λao d=>?_)
    have h:=d.has.ll (Kb (Kb Sn))
    refine ⟨h,X 14 Z h (A4 Z Z (rY eqGuardType63) (xu (H5 _ w0 (⟨(a9.length:Int),0⟩:sB)))) (X 15 Z h (nB Z) (mG kr (lE ?_)))⟩
    exact lO (rQ g d)
   refine bC e7 (λJ e7=>?_) (λJ e7=>?_)
   ·refine un J (un J (un J (un J (un J (un J (V (lQ (cB J) Z) ?_))))))
    obtain rfl:=sj e7
    exact l3 _ _ ⟨_,d.ll,P,x9,Z⟩
   refine ug J (ly FG P) (ug J (ly KN Z) (ug J (ly Bw Z) (ug J (lq Z (lA d.has Mh Z dQ)) (ug J (mP aN Z D) (ug J (mL Z Z Z) (V (lN (cB J) Z) ?_))))))
   obtain rfl:=sj e7
   exact l3 _ _ ⟨_,d.ll,P,x9,Z⟩
  refine bC e8 (λg7 e8=>?_) (λg7 e8=>?_)
  ·refine un g7 (un g7 (V (lQ (cB g7) Z) ?_))
   obtain rfl:=sj e8
   exact l4 _ _ ⟨_,d.ll,x7,x8,Z⟩
  refine ug g7 (lz z5) (ug g7 (mL Z Z Z) (V (lN (cB g7) Z) ?_))
  obtain rfl:=sj e8
  exact l4 _ _ ⟨_,d.ll,x7,x8,Z⟩
 refine bC e9 (λO e9=>?_) (λO e9=>?_)
 ·refine un O (un O (un O (un O (V (lQ (cB O) Z) ?_))))
  obtain rfl:=sj e9
  exact l5 _ _ ⟨_,d.ll,Z,Z,Z,Z⟩
 refine ug O (ly VW Z) (ug O (lq Z (lA d.has Mh Z isAgg40)) (ug O (mP underlying40 Z e6) (ug O (mL Z Z Z) (V (lN (cB O) Z) ?_))))
 obtain rfl:=sj e9
 exact l5 _ _ ⟨_,d.ll,Z,Z,Z,Z⟩
end Go.Proofs.YtojmckcglalbnaaGreat
