/- a part of a proof of AuditTells -/
import Derived.Test.YtlfibegniofmjaaGreatAV3W1a
set_option linter.all false
namespace Go.Proofs.YtlfibegniofmjaaGreat
open Go.IntKind renaming wrap → wi0
open Go.Proofs.Tryz renaming prog → pg0
open Go.RowKit
set_option maxRecDepth 10000
open Tryz
variable {q0 q1 q2 q3 q4 q5 q6 q7 q8 q9:Value} {qa:World} {qb:mc} {qc qd qe:Int} {qf qg qh qi qj:LO} {qk ql qm qn:Nat} {qo qp qq:List Int} {qr qs:List kK} {qt qu:Bool} {qv qw:List Formula} {qx qy:Formula} {qz qA:List kL} {qB:kK} {qC qD:ByteArray} {qE qF:List lx} {qG:mW} {qH qI:pd} {qJ:List (ByteArray×(List kK))} {qK:List (kL×(List (ByteArray×Bool)))} {qL:List (kL×(List kK))} {qM:List nJ} {qN:Option mN} {qO:lL} {qP qQ:kL} {qR:(Bool×(List Int))} {qS:List Key} {qT qU:List Signed} {qV:lj} {qW:Signed} {qX:(Formula×Int)} {qY:List sT} {qZ:(Formula×Formula)→Option Int}
theorem Ir (h0:nN qb (qf++[]) qa) (B:lQ 55 kQ 9 q0 qr qf) (hm:xL qr=some qs) :
  mX true pg0 66 [q0] qa (qf++[]) (λv L1 W'=>∃y1 S2,v=y1∧L1=(S2++[])∧lQ 55 kQ 9 y1 qs S2):=by
 refine Bl h0 61 func66 Z (λd=>sg (Wa (lS (Wm (V (pe aV Z B) (Wi Z (ln (CI hm Z (λg0 hm=>?_) λg0 hm=>?_))))))))
 ·refine sg (Wm (Wa (lt (ly ?_))))
  cases sj hm
  exact ma (v:=q0) Z Z ⟨_,_,Z,d.lZ (Kr Sn),q0,qf,Z,Z,B⟩
 refine kS (Wa (ln (mA (nQ (λm E W=>∃t R,ST true (keys (qf++[])) qa W qb (qf++R)∧E 0=q0∧E 3=vI t∧sc qr m t=some qs) lP ⟨1,_,d.kM,Z,Z,hm⟩ ?_))))
 rintro m E W ⟨t,R,d,D,H,a⟩
 cases m with
 | zero=>rw [sc] at a; cases a
 | succ f5=>
  refine kY (sg (Wh H (Wh D (V (pe aV Z B) (Wi Z (ln (CI a Z (λd0 a=>?_) λd0 a=>?_)))))))
  ·refine kn (kY (mA (kY ?_)))
   have d:=d.drew
   have h:=d.has.kM (Kr Sn)
   refine mh h lM (X 0 Z h (kT D) (X 1 Z h (kT H) (bS a λc3 o a=>XQ 2 Z h (oF (i:=t) (x0:=c3) aV aK Z Z B (lR o) (lK o)) λg7 d6=>XH 3 Z h (λ_ n=>kP Z (uh n (λp j=>Ml j) B mL d6 (lK o) bK aK)) (X 4 Z h (kT D) (X 5 Z h (kT H) (X 6 Z h (lI Z Z Z) (bS a λc4 q a=>XQ 7 Z h (oF (i:=wi0 .i64 (t-1)) (x0:=c4) aV aK Z Z B (lR q) (lK q)) λg8 d7=>XH 8 Z h (λ_ n=>kP Z (uh n (λp j=>Ml j) B mL d7 (lK q) bK aK)) (X 9 Z h (wE Z Z (nY eO) (so (yK _ c3 c4))) (ml kr (kW ?_))))))))))
   refine CI a Z (λd1 a=>?_) (λd1 a=>?_)
   ·refine sg (Wh D (Wh H (bS a λ_ A a=>VQ (zA (i:=t) aV aK Z Z B (vp A) (vl A)) λc1 M=>Wa (lS (Wa (ln ?_))))))
    refine CJ a (λU E W=>∃s b5,ST true (keys (qf++[])) qa W qb (s++b5)∧E 0=q0∧E 3=vI U.2∧lQ 55 kQ 9 q0 U.1 s) (λU d4=>?_) ?_
    ·refine mA (nQ (λm E W=>∃w K Y y b6,ST true (keys (qf++[])) qa W qb (K++b6)∧E 0=q0∧E 3=vI Y∧E 4=c1∧E 5=vI y∧lQ 55 kQ 9 q0 w K∧rV t m w Y y=some U) lP ⟨qr,qf,t,1,_,d.kM,D,H,Z,Z,B,d4⟩ ?_)
     rintro m E W ⟨w,K,Y,y,b6,d,Q,T,I,J,g,k⟩
     cases m with
     | zero=>rw [rV] at k; cases k
     | succ f6=>
      refine kY (sg (Wh J (Wh I (V (JH aV Z M g) (Wi Z (ln (CI k Z (λd2 k=>?_) λd2 k=>?_)))))))
      ·refine kn (kY (CJ k (λx E W=>∃N b7,ST true (keys (qf++[])) qa W qb (N++b7)∧E 0=q0∧E 3=vI x.2∧E 4=c1∧E 5=vI y∧lQ 55 kQ 9 q0 x.1 N) (λx c=>?_) ?_))
       ·refine mA (kY ?_)
        have d:=d.drew
        have h:=d.has.kM (Kr Sn)
        refine mh h lM (X 0 Z h (kT I) (X 1 Z h (kT J) (bS c λc6 a2 c=>XQ 2 Z h (zL (i:=y) (x0:=c6) aV aK Z Z g M (lR a2) (lK a2)) λg9 d8=>XH 3 Z h (λ_ n=>kP Z (uh n (λp j=>Ml j) g mL d8 (BH (lK a2)) bK aK)) (X 4 Z h (kT I) (X 5 Z h (kT J) (X 6 Z h (lI Z Z Z) (bS c λc7 a3 c=>XQ 7 Z h (zL (i:=wi0 .i64 (y-1)) (x0:=c7) aV aK Z Z g M (lR a3) (lK a3)) λh1 d9=>XH 8 Z h (λ_ n=>kP Z (uh n (λp j=>Ml j) g mL d9 (BH (lK a3)) bK aK)) (X 9 Z h (Hz Z Z (nY eO) (Ds (yK _ c6 c7))) (ml kr (kW ?_))))))))))
        refine CI c Z (λd3 c=>?_) (λd3 c=>?_)
        ·refine sg (Wh Q (Wh T (Wh I (Wh J (bS c λa9 a4 c=>VQ (zL (i:=y) (x0:=a9) aV aK Z Z g M (lR a4) (lK a4)) λh2 e0=>V (kP Z (uh d.has (λp j=>Ml j) g mL e0 (BH (lK a4)) bK aK)) (bS c λf8 a5 c=>VQ (oF (i:=Y) (x0:=f8) aV aK Z Z g (lR a5) (lK a5)) λh3 e1=>VO (Av (u:=vA (kQ a9)) (x1:=a9)  d g mL ow Z Z Z e1 (lK a5) aK λg3 e8 d c9=>ln (kX ?_))))))))
         refine Wh T (Wi Z (Wa (lC (lD (kW ?_)))))
         cases sj c
         exact ⟨e8,_,d.kM,Q,Z,I,J,c9⟩
        refine lU (lD (kW ?_))
        cases sj c
        exact ⟨K,_,d.kM,Q,T,I,J,g⟩
       rintro ⟨f4,f7⟩ E W ⟨N,b7,d,f0,f1,f2,f3,e4⟩ d5
       exact kX (Wh f3 (Wi Z (Wa (ln ⟨f6,bB _,f4,N,f7,wi0 .i64 (y+1),_,d.kM,f0,f1,f2,Z,e4,d5⟩))))
      refine nB (nv (nv (ry (kW ?_))))
      cases sj k
      exact ⟨K,_,d.kM,Q,T,g⟩
    rintro ⟨g4,c5⟩ E W ⟨s,b5,d,b9,c0,P⟩ G
    refine sg (Wh b9 (Wh c0 (bS G λ_ L G=>VQ (zA (i:=c5) aV aK Z Z P (vp L) (vl L)) λh4 e2=>VO (CE (z:=K9)  d P mL ow aV cO e2 Z Z (λg2 e7 d c8=>lr (Wh b9 (Wh c0 (bS G λ_ O G=>VQ (Ff (i:=c5) aV aK Z Z c8 mL (vp O) (vl O)) λc2 e3=>?_))))))))
    refine Wa (lt (mG (ly (ly (mG (ly ?_))))))
    cases sj G
    exact ma (v:=c2) Z Z ⟨_,_,Z,d.lZ (Kr Sn),c2,e7,Z,Z,e3⟩
   exact lU (lD (kW (kX (Wh H (Wi Z (Wa (ln ⟨f5,bB _,wi0 .i64 (t+1),_,d.kM,D,Z,a⟩)))))))
  refine nB (nv (nv (ry (kW (sg (Wh D (Wa (lt ?_))))))))
  cases sj a
  exact ma (v:=q0) Z Z ⟨_,_,Z,d.lZ (Kr Sn),q0,qf,Z,Z,B⟩
theorem M9 (B:Sl (Pl kQ) 9 (hp qa) q0 qr) (hm:zm qr=some qs) :
  mM false pg0 32 [q0] qa 55 kQ 9 qs:=by
 refine yd 11 func32 Z (λd=>sg (Wa (lr (Wm (bS hm λr1 T hm=>VE (rM d call61 (mM.mF (Jo (B.mono (Pl.mono _) d.lb) T)) λW3 v7 y R8 d a5 t Q=>bS hm λU D hm=>?_))))))
 refine VE (eM d (Cr Qz Cn) call60 (λi _=>G0 i Q ⟨62,#[],#[],Z,call62,λW x qs w hm=>(Px x qs W  hm).mF⟩ D) ?_)
 rintro _ P b9 A d z n h ⟨k,K,a,rfl,I⟩
 obtain rfl:=a.symm
 have d:=d.perm (Tr Tn)
 refine Wa (lr (Wm (bS hm λY G hm=>?_)))
 refine VE (eM d (Cr Qz Cn) call64 (λi _=>mX.mF (WO i I ⟨65,#[],Z,call65,λW x qs w hm=>H5 x.1 x.2 qs W  hm⟩ G)) ?_)
 rintro _ R c0 a9 d a2 o h ⟨M,c,rfl,J⟩
 obtain rfl:=c.symm
 have d:=d.perm (Tr Tn)
 refine lr (Wm (bS hm λO H hm=>?_))
 refine VE (eM d (Cr Qz Cn) call66 (λi _=>mX.mF (Ir i J H)) ?_)
 rintro _ b7 c1 L d a3 q h ⟨s,N,g,rfl,j⟩
 obtain rfl:=g.symm
 have d:=d.perm (Tr Tn)
 refine Wa (lt ?_)
 obtain rfl:=sj hm
 exact ma (v:=s) Z Z ⟨_,N,Z,d.oa (λp u=>Ml u) j.nd,j⟩
theorem Ee (a5:we nR (hp qa) q0 qN) (H:Sl mg 10 (hp qa) q1 qT) (hm:vY qN qT=some qr) :
  mM false pg0 26 [q0,q1] qa 55 kQ 9 qr:=by
 refine yd 26 func26 Z (λd=>sg (Wa (lr (Wa (lS (Wm ?_))))))
 refine V (lT bV Z H) (Wm (ln (mJ 10 9 (λi O E W=>∃g k j G,ST false lN qa W (hp qa) (j++G)∧E 0=q0∧E 5=g∧E 8=q1∧lQ 55 kQ 9 g k j∧pT qN O k=some qr) H.len ⟨vN,[],[],_,d.kM,Z,Z,Z,lQ.nil _ _ _,hm⟩ ?_ ?_)))
 ·rintro M a c5 E W A ⟨⟨h,n⟩,g,k,j,G,d,y,z,B,t,c⟩
  refine sg (VQ (my (i:=(M:Int)) (x0:=a) mg.out bV bO B h H (aG _) A) λc1 ⟨_,⟨c4,rfl,K⟩,U⟩=>V (kP Z (lA d.has U ef bO)) (VE (lq d cU λb3 c0 d=>?_)))
  obtain ⟨u,x,rfl⟩:=K.form
  let a0:=C2 a.kK.Kind a.kK.Head.kO a.kK.Head.Word a.kK.lV a.kK.B.kO a.kK.B.Word a.kK.C.kO a.kK.C.Word a.kK.lW u a.Tag.length x
  refine VO (FA a0.toArray d bO λb4 d=>lr (Wh y (VA d Mh a0 ef bO (bS c λc2 Y c=>VE (Eg d call50 (lF.mF (Ip (a5.mono po d.lb) (K.mono (Pl.mono _) d.lb) Y)) λb5 d=>Wi Z (ln (CI c Z (λQ c=>?_) λQ c=>?_)))))))
  ·refine kX (Wh z (Wf rZ (VA d Mh (kQ a.kK) bK aK (VE (lE (cs:=(kQ a.kK).toArray) d (mB Z) (ng aV aK cO) λb6 a4 d=>?_)))))
   have d:=d.perm (Nr (Qb (Qb Qz)) Nz)
   refine bS c λI T c=>VE (oG (enc:=kQ) (v:=g) (vs:= .slice (some ⟨a4,0,none⟩) 1 1) (R:=j) d mL dc ow aV od.1 od.2.1 Z od.2.2.1 od.2.2.2 Z Z t (Sl.lit (enc:=kQ) (l:=[a.kK]) mL Z nb Z (d.at_ (Ma Mh))) T λb7 L a2 d N=>Wa (lC (lD (kW ?_))))
   have d:=d.kM (Kr (Db (Db St)))
   exact ⟨h,n,L,I,a2,_,d.kM,y,Z,B,N,c⟩
  refine lU (lD (kW ?_))
  have d:=d.kM (Db St)
  exact ⟨h,n,g,k,j,_,d.kM,y,z,B,t,c⟩
 rintro E W ⟨⟨h,n⟩,g,k,j,G,d,y,z,B,t,c⟩
 refine kW (sg (Wh z (bS c λc3 w c=>VE (rM d call32 (M9 (t.sl mL λb o s=>d.at_ (Ml s)) w) λb9 a9 c6 a3 d P q J=>Wa (ln ?_)))))
 have d:=d.kM (Kr (Dr St))
 refine lB ?_
 cases sj c
 exact ma (v:=a9) Z Z ⟨_,a3,Z,d.oa (λp s=>Ml s) J.nd,J⟩
theorem IU (k:Sl nq 15 (hp qa) q0 qG.nK) (a4:Sl oB 8 (hp qa) q1 qG.pv) (A:we nR (hp qa) q2 qN) (x:Sl (Pl kQ) 9 (hp qa) q3 qr) (z:Sl (Pl (lu .u8)) 1 (hp qa) q4 qo) (a5:At (hp qa) (vP qk) [vS qG.Name,q0,q1,vS qC,q2,q3,vI qc,q4]) (D:Sl (Pl (lu .u8)) 1 (hp qa) q5 qW.Tag) (hm:yn qG qC qN qr qc qo qW=some qt) :
  lF true pg0 97 [vP qk,vA [vI qW.kK.Kind,vS qW.kK.Head.kO,vS qW.kK.Head.Word,vS qW.kK.lV,vS qW.kK.B.kO,vS qW.kK.B.Word,vS qW.kK.C.kO,vS qW.kK.C.Word,vS qW.kK.lW,q5]] qa (vB qt):=by
 refine cG 30 func97 Z (λc=>sg ?_)
 obtain ⟨A1,c2,rfl⟩:=D.form
 refine VE (lY c Z (λW4 g c=>Wa (lS (Wm (Wn (VQ (tO [vS qG.Name,q0,q1] WK Z a5 Z) λR u=>VQ (tO [q0] HZ Z u Z) λp8 v=>V (kP Z (rz c.has (y:=q0) v isAgg22)) (V (lT eS Z k) (Wm (lC ?_)))))))))
 refine kW (mJ 13 12 (λi w E W=>∃Q,ST true lN qa W (hp qa) ((g,Ol (C2 qW.kK.Kind qW.kK.Head.kO qW.kK.Head.Word qW.kK.lV qW.kK.B.kO qW.kK.B.Word qW.kK.C.kO qW.kK.C.Word qW.kK.lW A1 qW.Tag.length c2) 57)::Q)∧E 3=vP g∧E 11=q0∧wF qW w=some qt) k.len ⟨_,c.kM,Z,Z,hm⟩ ?_ ?_)
 ·rintro c1 a d1 E W t ⟨⟨d,h⟩,Q,c,K,U,j⟩
  refine sg (VQ (my (i:=(c1:Int)) (x0:=a) nq.out eS eF U d k (aG _) t) λM ⟨_,⟨P,d0,rfl,Y,a9⟩,q⟩=>V (kP Z (lA c.has q ko eF)) (VE (lq c fR λG L c=>?_)))
  obtain ⟨N,T,rfl⟩:=Y.form
  obtain ⟨n,a3,rfl⟩:=a9.form
  let o:=C6 a.Signed.kK.Kind a.Signed.kK.Head.kO a.Signed.kK.Head.Word a.Signed.kK.lV a.Signed.kK.B.kO a.Signed.kK.B.Word a.Signed.kK.C.kO a.Signed.kK.C.Word a.Signed.kK.lW N a.Signed.Tag.length T a.la.Op a.la.K a.la.kL.kO a.la.kL.Word n a.la.Kids.length a3
  refine VO (FA o.toArray c eF λI c=>lr (Wf Gs (Wf rZ (VA c Mh (kQ a.Signed.kK) bK aK (V (kU rZ K) (VA c (Mt Mh) (kQ qW.kK) bK aK (V (wE Z Z (nY eO) (so (yK _ a.Signed.kK qW.kK))) (ln (CI j Z (λp j=>?_) λp j=>?_)))))))))
  ·refine sg (Wf Gs (Wf Ak (VB c Mh Z Z dm (V (kU Ak K) (VB c (Mt Mh) Z Z dm (bS j λO s j=>VE (Eg c call42 (AU (Y.mono (Pl.mono _) c.lb) (D.mono (Pl.mono _) c.lb) s) λJ c=>Wa (ln ?_))))))))
   have c:=c.kM (Db (Db St))
   refine lB (mG (ly (mG (ly ?_))))
   cases sj j
   exact rP c
  refine lU (lD (kW ?_))
  have c:=c.kM (Db St)
  exact ⟨d,h,_,c.kM,K,U,j⟩
 rintro E W ⟨⟨d,h⟩,Q,c,K,U,j⟩
 refine kW ?_
 have c:=c.kM (Db St)
 exact sg (Wa (lt (rQ j c)))
theorem Jp (g:Sl (Pl kQ) 9 (hp qa) q0 qr) (hm:Bh qr qB=some qc) :
  lF true pg0 220 [q0,vA (kQ qB)] qa (vI qc):=by
 refine cG 19 func220 Z (λc=>sg (VE (lY c Z (λK G c=>Wa (lS (Wm (V (lT aV Z g) (Wm (ln ?_)))))))))
 refine mJ 8 7 (λi o E W=>∃k,ST true lN qa W (hp qa) ((G,Ol (kQ qB) 55)::k)∧E 0=q0∧E 3=vP G∧uz qB o i=some qc) g.len ⟨_,c.kM,Z,Z,hm⟩ ?_ ?_
 ·rintro H x I E W B ⟨⟨h,n⟩,k,c,t,u,a⟩
  refine sg (Wh h (Wa (ln (kY ?_))))
  have c:=c.drew
  have d:=c.has.kM (Kb Sn)
  refine mh d lM (XH 0 Z d (λ_ j=>kP u (kV j Mh (kQ qB) Z bK aK)) (X 1 Z d (kT t) (X 2 Z d (kT Z) (XQ 3 Z d (oz (enc:=kQ) (i:=(H:Int)) (x0:=x) aV aK Z Z g (aG _) B) λJ z=>XH 4 Z d (λ_ j=>kP Z (lA j z bK aK)) (X 5 Z d (wE Z Z (nY eO) (so (yK _ qB x))) (ml kr (kW (CI a Z (λy a=>?_) λy a=>?_))))))))
  ·refine sg (Wm (Wa (ln ?_)))
   have c:=c.kM (Db St)
   refine lB (mG (ly (mG (ly ?_))))
   cases sj a
   exact rP c
  exact lU (lD (kW ⟨h,n,_,c.kM,t,u,a⟩))
 rintro E W ⟨⟨h,n⟩,k,c,t,u,a⟩
 refine kW ?_
 have c:=c.kM (Db St)
 exact sg (Wa (lt (rQ a c)))
theorem HA (i:Sl (Pl kQ) 9 (hp qa) q0 qr) (hm:xn qr qB=some qt) :
  lF true pg0 197 [q0,vA (kQ qB)] qa (vB qt):=by
 refine cG 9 func197 Z (λa=>sg (VE (lY a Z (λk u a=>Wa (lr (Wm (VA a Mh (kQ qB) bK aK (bS hm λx j hm=>VE (Eg a call220 (Jp (i.mono (Pl.mono _) a.lb) j) λt a=>Wi Z (Wa ?_))))))))))
 refine ln ?_
 exact lB (rQ hm a)
theorem M5 (i:Sl (Pl kQ) 9 (hp qa) q0 qr) (hm:AM qr qB=some qt) :
  lF true pg0 170 [q0,vA (kQ qB)] qa (vB qt):=by
 refine cG 8 func170 Z (λa=>sg (VE (lY a Z (λk u a=>Wa (lr (Wm (VA a Mh (kQ qB) bK aK (bS hm λx j hm=>VE (Eg a call197 (HA (i.mono (Pl.mono _) a.lb) j) λt a=>Wa (lC ?_))))))))))
 refine kW ?_
 exact lB (rQ hm a)
theorem R0 (a:kK) (r:List kL) (w:World) (hm:DU a=some r) :
  mM true pg0 198 [vA (kQ a)] w 53 kR 2 r:=by
 refine yd 27 func198 Z (λd=>sg (VE (lY d Z (λW2 n d=>Wa (lS (VA d Mh (kQ a) bK aK (bS hm λr3 A hm=>VE (Eg d call63 (xC a _ _  A) λW5 d=>V (nt Z) (lC ?_)))))))))
 refine kW (CI hm Z (λs hm=>?_) λs hm=>?_)
 ·refine sg (Wa (ln ?_))
  have d:=d.kM (Db St)
  refine lB (ly ?_)
  cases sj hm
  exact ma (v:=vN) Z Z ⟨_,[],Z,d.oa (λp h=>by cases h) fb,lQ.nil _ _ _⟩
 refine kg (Wf ud (VA d Mh (kR a.Head) bE aI (VE (lE (cs:=(kR a.Head).toArray) d (mB Z) (ng bD aI cY) λW8 y d=>Wa (ln (kY (CJ hm (λI E W=>∃j i z,ST true lN w W (hp w) ((n,Ol (kQ a) 55)::(i++z))∧E 1=vP n∧E 3=j∧lQ 53 kR 2 j I i) (λI g=>?_) ?_)))))))
 ·refine sg (Wf rG (VB d (Mt Mh) Z Z bH (Wi Z (ln (CI g Z (λQ g=>?_) λQ g=>?_)))))
  ·refine kX (Wm (Wf ph (VA d (Mt Mh) (kR a.B) bE aI (VE (lE (cs:=(kR a.B).toArray) d (mB Z) (ng bD aI cY) λb3 a4 d=>?_)))))
   have d:=d.perm (Nb (Pb Pz) Nz)
   refine bS g λc0 T g=>VE (oG (enc:=kR) (v:= .slice (some ⟨y,0,none⟩) 1 1) (vs:= .slice (some ⟨a4,0,none⟩) 1 1) (R:=[(y,Ol (kR a.Head) 53)]) d ox dc oQ bD rH.1 rH.2.1 Z rH.2.2.1 rH.2.2.2 Z Z (lQ.lit (l:=[a.Head]) (enc:=kR) Z dc Z Z) (Sl.lit (enc:=kR) (l:=[a.B]) ox Z nb Z (d.at_ (Mt Mh))) T λb4 a9 q d K=>Wa (ln ?_))
   cases sj g
   exact ⟨a9,q,_,d.kM (Sb (Pr (Pb Pz)) (Kr (Db St))),Z,Z,K⟩
  refine kn ?_
  cases sj g
  have d:=d.Rj
  exact ⟨.slice (some ⟨y,0,none⟩) 1 1,[(y,Ol (kR a.Head) 53)],_,d.kM (Sb (Pr Pz) St),Z,Z,lQ.lit (l:=[a.Head]) (enc:=kR) Z dc Z Z⟩
 rintro b5 E W ⟨j,i,z,d,D,G,u⟩ U
 refine kY (CJ U (λH E W=>∃t k B,ST true lN w W (hp w) (k++B)∧E 3=t∧lQ 53 kR 2 t H k) (λH c=>?_) ?_)
 ·refine sg (V (kU rG D) (VB d Mh Z Z bH (Wi Z (ln (CI c Z (λM c=>?_) λM c=>?_)))))
  ·refine kX (Wh G (V (kU vH D) (VA d Mh (kR a.C) bE aI (VE (lE (cs:=(kR a.C).toArray) d (mB Z) (ng bD aI cY) λO a3 d=>?_)))))
   have d:=d.perm (Nr (Qb (Qb Qz)) Nz)
   refine bS c λb9 N c=>VE (oG (enc:=kR) (v:=j) (vs:= .slice (some ⟨a3,0,none⟩) 1 1) (R:=i) d ox dc oQ bD rH.1 rH.2.1 Z rH.2.2.1 rH.2.2.2 Z Z u (Sl.lit (enc:=kR) (l:=[a.C]) ox Z nb Z (d.at_ (Ma Mh))) N λP L o d J=>Wa (ln ?_))
   cases sj c
   exact ⟨L,o,_,d.kM (Kr (Db (Db St))),Z,J⟩
  refine kn ?_
  cases sj c
  exact ⟨j,i,_,d.kM (Db St),G,u⟩
 rintro b6 E W ⟨t,k,B,d,a5,x⟩ Y
 refine sg (Wh a5 (Wa (lt ?_)))
 cases sj Y
 exact ma (v:=t) Z Z ⟨_,k,Z,d.oa (λp h=>Ml h) x.nd,x⟩
theorem I6 {r:((List kK)×(List (kL×(List kK)))×(List (ByteArray×(List kK))))} (h0:nN qb ((qk,Ob #[q0,q1,q2,q3,q4,vI qc] 213)::(qf++(qg++(qh++(qi++(qj++[])))))) qa) (e5:nT (λ(x:kL)=>vA (kR x)) (nC Value.string λ(x:Bool)=>Value.bool x) q0 qK qf) (Y:lQ 55 kQ 9 q1 qr qg) (b2:nT (λ(x:kL)=>vA (kR x)) (lQ 55 kQ 9) q2 qL qh) (T:nT Value.string (lQ 55 kQ 9) q3 qJ qi) (d7:uP 171 mw 3 q4 qE qj) (hm:ym qK qr qL qJ qE qc qB=some r) :
  mX true pg0 171 [vP qk,vA (kQ qB)] qa ((qk,Ob #[q0,q1,q2,q3,q4,vI qc] 213)::(qf++(qg++(qh++(qi++(qj++[])))))) (λv L1 W'=>∃P S2 S4 S6,v=vT []∧L1=((qk,Ob #[q0,P,q2,q3,q4,vI qc] 213)::(qf++(S2++(S4++(S6++(qj++[]))))))∧lQ 55 kQ 9 P r.1 S2∧nT (λ(x:kL)=>vA (kR x)) (lQ 55 kQ 9) q2 r.2.1 S4∧nT Value.string (lQ 55 kQ 9) q3 r.2.2 S6):=by
 refine Bl h0 55 func171 Z (λa=>sg (VE (lY a Z (λW2 G a=>ln (kY ?_)))))
 have a:=a.drew
 have c:=a.has.kM (Kb Sn)
 have d:=a.has.kM (Db (Kb Sn))
 refine vh 10 c d lM (nZ 0 Z c d (kT Z) (nZ 1 Z c d (kT Z) (nZ 2 Z c d (mK Z) (nZ 3 Z c d (kU Oo Z) (Fo 4 Z c d (λg=>kP Z (kZ g Mh Z kG)) (LB 5 Z c d (λg=>kP Z (kV g Mh (kQ qB) Z bK aK)) (XE 6 Z (lE (cs:=(kQ qB).toArray) a (mB Z) (ng aV aK cO) λj6 f6 a=>?_))))))))
 have c:=a.has.kM (Db (Kb Sn))
 have d:=a.has.kM (Db (Db (Kb Sn)))
 refine ⟨⟨c,λ_=>d⟩,?_⟩
 have a:=a.perm (Nr (Qb (Qb (Qb (Qr Qz)))) Nz)
 refine bS hm λa5 e6 hm=>XE 7 Z (oG (enc:=kQ) (v:=q1) (vs:= .slice (some ⟨f6,0,none⟩) 1 1) (R:=qg) a mL dc ow aV od.1 od.2.1 Z od.2.2.1 od.2.2.2 Z Z Y (Sl.lit (enc:=kQ) (l:=[qB]) mL Z nb Z (a.at_ (Ma Mh))) e6 λj7 k1 y a u=>?_)
 have c:=a.has.kM (Dr (Db (Kb Sn)))
 have d:=a.has.kM (Dr (Db (Db (Kb Sn))))
 refine ⟨⟨c,λ_=>d⟩,nZ 8 Z c d (mK Z) (nZ 9 Z c d (kU Oo Z) ?_)⟩
 obtain ⟨a8,b0,rfl⟩:=u.form
 let j:Value:= .slice a8 a5.length b0
 have a:=a.perm (Nb (Pr (Pb (Pb Pz))) Nz)
 refine XO 10 Z (lz j (#[q0,j,q2,q3,q4,vI qc]) a Z Z sizeOf43 oc nb Z (λj8 a=>?_))
 have c:=a.has.kM (Db (Dr (Db (Kb Sn))))
 refine ⟨⟨c,λh=>yF kr h⟩,ml kr (kW ?_)⟩
 have a:=a.kM (Kb (Kr (Db St)))
 refine kY (sg (VA a (Mt (Ma Mh)) (kQ qB) bK aK (bS hm λk0 e7 hm=>VE (rM a call198 (R0 qB _ _  e7) λj9 k2 k3 j5 a g0 M e4=>?_))))
 obtain ⟨f9,a,g1,O,e8⟩:=ST.JS a e4 ox
 refine bS hm λ_ I hm=>VQ (Cv (i:=1) bD aI Z Z e8 (vp I) (vl I)) (λf7 w=>V (lT bD Z w.1) (Wm (ln (mJ 20 19 (λi js E W=>∃a3 U q,ST true (keys ((qk,Ob #[q0,q1,q2,q3,q4,vI qc] 213)::(qf++(qg++(qh++(qi++(qj++[]))))))) qa W f9 ((qk,Ob #[q0,j,q2,q3,q4,vI qc] 213)::((G,Ol (kQ qB) 55)::(U++(y++(qf++(qi++(qj++q)))))))∧E 0=vP qk∧E 3=vP G∧E 18=f7∧nT (λ(x:kL)=>vA (kR x)) (lQ 55 kQ 9) q2 a3 U∧sr qB qJ a5 js a3=some r) w.1.len ⟨qL,qh,_,a.kM (Kb (Sb (Pr Pz) (Sr (Qr (Qr Qz)) St))),Z,Z,Z,b2,hm⟩ ?_ ?_))))
 ·rintro e9 Q g9 E W d5 ⟨⟨A,L⟩,a3,U,q,a,a2,N,s,n,t⟩
  refine sg (VQ (oz (enc:=kR) (i:=(e9:Int)) (x0:=Q) bD aI s A w.1 (aG _) d5) λi8 d2=>V (kP Z (lA a.has d2 bE aI)) (VE (lq a cY λh7 i6 a=>VO (FA (h1:=oQ Q) ((kR Q).toArray) a aI λh8 a=>ln ?_))))
  have a:=a.drew
  have c:=a.has.kM (Kb (Kb (Kb Sn)))
  refine mh c lM (X 0 Z c (kT a2) (X 1 Z c (mK Z) (X 2 Z c (kU TN Z) (XH 3 Z c (λ_ g=>kP Z (kZ g (Mt Mh) Z isAgg210)) (XH 4 Z c (λ_ g=>kP Z (kV g Mh (kR Q) Z bE aI)) (XH 5 Z c (λ_ g=>kP N (kV g (Mt (Mt Mh)) (kQ qB) Z bK aK)) (XE 6 Z (lE (cs:=(kQ qB).toArray) a (mB Z) (ng aV aK cO) λh9 e2 a=>?_))))))))
  have c:=a.has.kM (Db (Kb (Kb (Kb Sn))))
  refine ⟨c,?_⟩
  obtain ⟨g4,d0⟩:=n
  have a:=a.perm (Nr (Qb (Qb (Qb (Qb Qz)))) Nz)
  refine XE 7 Z (Um (k:=Q) (x0:=[])  lO Fx underlying210 kB (lQ.nil _ _ _) a d0 Z Z (λi0 f1 g8 h2 d8 a c2 c1=>?_))
  have c:=a.has.kM (Dr (Dr (Db (Kb (Kb (Kb Sn))))))
  refine ⟨c,X 8 Z c (xA Z Z) (X 10 Z c (xA Z Z) ?_)⟩
  have a:=a.perm (Nr (Qr Qz) Nz)
  refine bS t λJ c7 t=>XE 9 Z (oG (enc:=kQ) (v:=f1) (vs:= .slice (some ⟨e2,0,none⟩) 1 1) (R:=d8) a mL dc ow aV od.1 od.2.1 Z od.2.2.1 od.2.2.2 Z Z c2 (Sl.lit (enc:=kQ) (l:=[qB]) mL Z nb Z (a.at_ (Ma (Ma Mh)))) c7 λi1 i9 h3 a c3=>?_)
  have c:=a.has.kM (Dr (Dr (Db (Kb (Kb (Kb Sn))))))
  refine ⟨c,?_⟩
  have a:=a.perm (Nr (Qr Qz) Nz)
  refine XO 11 Z (RT (e:=0) (z:=J)  lO Fx a c1 Z Z Z c3 λi2 g7 d9 a c4=>?_)
  have c:=a.has.kM (Dr (Db (Kb (Kb (Kb Sn)))))
  refine ⟨c,ml kr (lD (kW ?_))⟩
  have a:=a.kM (Kr (Db (Db St)))
  exact ⟨A,L,rW lJ a3 Q J,d9,_,a.kM (Sb (Pr Pz) (Sb (Pr Pz) St)),a2,N,s,c4.e,t⟩
 rintro E W ⟨⟨A,L⟩,a3,U,q,a,a2,N,s,n,t⟩
 refine kW (sg (V (kU rG N) (VB a (Mt Mh) Z Z bH (Wi Z (ln (CI t Z (λc8 t=>?_) λc8 t=>?_))))))
 ·have a:=a.drew
  have c:=a.has.kM (Kb (Kb Sn))
  have d:=a.has.kM (Db (Db (Dr (Dr (Dr (Kr Sn))))))
  refine vh 15 c d lM (nZ 0 Z c d (kT a2) (nZ 1 Z c d (mK Z) (nZ 2 Z c d (kU Ot Z) (LB 3 Z c d (λg=>kP Z (kZ g Mh Z isAgg211)) (nZ 4 Z c d (kU yc N) (LB 5 Z c d (λg=>kP Z (kZ g (Mt Mh) Z bU)) (nZ 6 Z c d (kT a2) (nZ 7 Z c d (mK Z) (nZ 8 Z c d (kU Ot Z) (LB 9 Z c d (λg=>kP Z (kZ g Mh Z isAgg211)) (nZ 10 Z c d (kU yc N) (LB 11 Z c d (λg=>kP Z (kZ g (Mt Mh) Z bU)) ?_))))))))))))
  obtain ⟨d6,p⟩:=T
  obtain ⟨h4,g2,g3⟩:=ou.rowAt mU.1 p qB.lW
  refine Fo 12 Z c d (λg=>tp (k:=qB.lW) (z:=vN) Ji underlying211 kB Z Z p λb o hq=>g.2 b o (Ml hq)) (LB 13 Z c d (λg=>kP N (kV g (Mt Mh) (kQ qB) Z bK aK)) (XE 14 Z (lE (cs:=(kQ qB).toArray) a (mB Z) (ng aV aK cO) λi3 e3 a=>?_)))
  have c:=a.has.kM (Db (Kb (Kb Sn)))
  have d:=a.has.kM (Db (Db (Db (Dr (Dr (Dr (Kr Sn)))))))
  refine ⟨⟨c,λ_=>d⟩,?_⟩
  have a:=a.perm (Nr (Qb (Qb (Qb (Qr (Qr (Qr Qz)))))) Nz)
  obtain ⟨h5,e0,d3,d4,d1⟩:=ou.open mU.1 (lQ.nil _ _ _) p qB.lW
  have a:=a.perm (Opn d3)
  have a:=a.perm (Nr (Qr Qz) Nz)
  refine bS t λf0 c9 t=>XE 15 Z (oG (enc:=kQ) (v:=tU mx d6 qB.lW vN) (vs:= .slice (some ⟨e3,0,none⟩) 1 1) (R:=e0) a mL dc ow aV od.1 od.2.1 Z od.2.2.1 od.2.2.2 Z Z d4 (Sl.lit (enc:=kQ) (l:=[qB]) mL Z nb Z (a.at_ (Ma (Ma Mh)))) c9 λi4 j0 h6 a c5=>?_)
  have c:=a.has.kM (Dr (Dr (Db (Kb (Kb Sn)))))
  refine ⟨⟨c,λh=>yF kr h⟩,?_⟩
  have a:=a.perm (Nr (Qr Qz) Nz)
  refine XO 16 Z (aae (k:=qB.lW) (z:=f0)  Ji underlying211 a d1 Z Z Z c5 λi5 e1 a c6=>?_)
  have c:=a.has.kM (Dr (Db (Kb (Kb Sn))))
  refine ⟨⟨c,λh=>yF kr h⟩,ml kr (te ?_)⟩
  cases sj t
  exact rK Z ⟨_,_,Z,a.lZ (Sb (Pr (Pb Pz)) (Sr (Qr (Qb (Qb (Qr (Qr Qz))))) (Sr (Qr (Qb (Qb (Qr Qz)))) (Sr (Qr (Qb (Qb Qz))) (Kr (Db (Db (Kr Sn)))))))),j,y,U,e1,Z,Z,u,n,c6.e⟩
 refine lU (te ?_)
 cases sj t
 exact rK Z ⟨_,_,Z,a.lZ (Kb (Db (Sr (Qr (Qr Qz)) (Sr (Qr Qz) (Kr (Kr (Kr Sn))))))),j,y,U,qi,Z,Z,u,n,T⟩
theorem vV {r:((List (kL×(List (ByteArray×Bool))))×(List lx)×Int)} (h0:nN qb ((qk,Ob #[q0,q1,q2,q3,q4,vI qc] 213)::(qf++(qg++(qh++(qi++(qj++[])))))) qa) (a5:nT (λ(x:kL)=>vA (kR x)) (nC Value.string λ(x:Bool)=>Value.bool x) q0 qK qf) (b5:lQ 55 kQ 9 q1 qr qg) (c3:nT (λ(x:kL)=>vA (kR x)) (lQ 55 kQ 9) q2 qL qh) (b6:nT Value.string (lQ 55 kQ 9) q3 qJ qi) (K:uP 171 mw 3 q4 qE qj) (hm:rh qK qr qL qJ qE qc qP qC=some r) :
  mX true pg0 199 [vP qk,vA (kR qP),vS qC] qa ((qk,Ob #[q0,q1,q2,q3,q4,vI qc] 213)::(qf++(qg++(qh++(qi++(qj++[])))))) (λv L1 W'=>∃S1 w S4,v=vT []∧L1=((qk,Ob #[q0,q1,q2,q3,w,vI r.2.2] 213)::(S1++(qg++(qh++(qi++(S4++[]))))))∧nT (λ(x:kL)=>vA (kR x)) (nC Value.string λ(x:Bool)=>Value.bool x) q0 r.1 S1∧uP 171 mw 3 w r.2.1 S4):=by
 let p:=(#[q0,q1,q2,q3,q4,vI qc]:Array Value)
 refine Bl h0 53 func199 Z (λc=>sg (VE (lY c Z (λW2 s c=>ln (kY (kY ?_))))))
 have c:=c.drew
 have a:=c.has.kM (Kb (Kb (Kr Sn)))
 refine mh a lM (X 0 Z a (kT Z) (X 1 Z a (mK Z) (X 2 Z a (kU BP Z) (XH 3 Z a (λ_ g=>kP Z (kZ g (Mt Mh) Z iJ)) (XH 4 Z a (λ_ g=>kP Z (kV g Mh (kR qP) Z bE aI)) ?_)))))
 obtain ⟨f4,Q⟩:=a5
 refine XH 5 Z a (λ_ g=>tp (k:=qP) (z:= .map none) Fx fj fU Z Z Q λb o i=>g.2 b o (Mt (Mt (Ml i)))) (X 6 Z a (kT Z) (XH 7 Z a (λ_ g=>Fa (k:=qC) (z:=false) (vf:=λ(x:Bool)=>Value.bool x) Ji gb kp Z Z (ou.IT (μ:=hp _) lO.1 Q qP λb o i=>g.2 b o (Mt (Mt (Ml i))))) (ml kr (kW (CI hm Z (λd5 hm=>?_) λd5 hm=>?_)))))
 ·refine lB (ly ?_)
  cases sj hm
  exact rK Z ⟨_,_,Z,c.lZ (Db (Kb (Kr (Kr (Kr (Kr (Kr Sn))))))),qf,q4,qj,Z,Z,Q.e,K⟩
 refine kn (kY (CJ hm (λt E W=>∃n u,ST true (keys ((qk,oC p 213)::(qf++(qg++(qh++(qi++(qj++[]))))))) qa W qb ((s,Ol (kR qP) 53)::((qk,oC p 213)::(n++(qg++(qh++(qi++(qj++u)))))))∧E 0=vP qk∧E 2=vS qC∧E 4=vP s∧nT (λ(x:kL)=>vA (kR x)) (nC Value.string λ(x:Bool)=>Value.bool x) q0 t n) (λt I=>?_) ?_))
 ·refine kY ?_
  have c:=c.drew
  have a:=c.has.kM (Kb (Kb (Kr Sn)))
  refine mh a lM (X 0 Z a (kT Z) (X 1 Z a (mK Z) (X 2 Z a (kU BP Z) (XH 3 Z a (λ_ g=>kP Z (kZ g (Mt Mh) Z iJ)) (XH 4 Z a (λ_ g=>kP Z (kV g Mh (kR qP) Z bE aI)) (XH 5 Z a (λ_ g=>tp (k:=qP) (z:= .map none) Fx fj fU Z Z Q λb o i=>g.2 b o (Mt (Mt (Ml i)))) (X 6 Z a (Sp lO.1 gb Q Z Z) (ml kr (kW (CI I Z (λJ I=>?_) λJ I=>?_))))))))))
  ·have c:=c.drew
   have a:=c.has.kM (Kb (Kb Sn))
   refine mh a lM (X 0 Z a (kT Z) (X 1 Z a (mK Z) (X 2 Z a (kU BP Z) (XH 3 Z a (λ_ g=>kP Z (kZ g (Mt Mh) Z iJ)) (XH 4 Z a (λ_ g=>kP Z (kV g Mh (kR qP) Z bE aI)) (XE 5 Z (OT (P:=pg0) Value.string (λ(x:Bool)=>Value.bool x) c λe1 e7 d9 c A=>?_)))))))
   have a:=c.has.kM (Dr (Kb (Kb Sn)))
   refine ⟨a,?_⟩
   have c:=c.perm (Nr (Qr (Qb (Qb Qz))) Nz)
   refine bS I λe4 L I=>XO 6 Z (Po (k:=qP) (z:=[])  Fx fj c Q Z Z Z A L λe2 M c G=>?_)
   have a:=c.has.kM (Dr (Kb (Kb Sn)))
   refine ⟨a,ml kr (kW ?_)⟩
   cases sj I
   exact ⟨M,_,c.kM (Sb (Pr Pz) (Sb (Pr Pz) St)),Z,Z,Z,G.e⟩
  refine kn ?_
  cases sj I
  exact ⟨qf,_,c.kM,Z,Z,Z,Q.e⟩
 rintro f2 E W ⟨n,u,c,j,c1,c2,c8⟩ T
 refine kY ?_
 have c:=c.drew
 have a:=c.has.kM (Kb (Kb Sn))
 have d:=c.has.kM (Db (Db (Kr Sn)))
 refine vh 7 a d lM (nZ 0 Z a d (kT j) (nZ 1 Z a d (mK Z) (nZ 2 Z a d (kU BP Z) (LB 3 Z a d (λg=>kP Z (kZ g (Mt Mh) Z iJ)) (LB 4 Z a d (λg=>kP c2 (kV g Mh (kR qP) Z bE aI)) ?_)))))
 obtain ⟨e5,a9⟩:=c8
 refine Fo 5 Z a d (λg=>tp (k:=qP) (z:= .map none) Fx fj fU Z Z a9 λb o i=>g.2 b o (Ml i)) (nZ 6 Z a d (kT c1) ?_)
 have c:=c.perm (Nr (Qb (Qb Qz)) Nz)
 refine bS T λf3 Y T=>XO 7 Z (UX (k:=qP) (v:=true) (vf:=λ(x:Bool)=>Value.bool x)  lO.1 Ji gb c a9 Z Z Z Y λe8 c9 c O=>?_)
 have a:=c.has.kM (Dr (Kb (Kb Sn)))
 refine ⟨⟨a,λh=>yF kr h⟩,ml kr (kW (sg (Wh j (Wn (Wf KR (VB c (Ma (Mt Mh)) Z Z bH (Wi Z (Wn (Wf KR ?_)))))))))⟩
 have c:=c.perm (Nb (Pr (Pb Pz)) Nz)
 refine VO (lz (vI (wi0 .i64 (qc+1))) (#[q0,q1,q2,q3,q4,vI (wi0 .i64 (qc+1))]) c Z Z dH (uk _ (wi0 .i64 (qc+1))) nb Z (λe9 c=>ln ?_))
 have c:=c.drew
 have a:=c.has.kM (Db (Dr (Kb Sn)))
 have d:=c.has.kM (Kb Sn)
 refine vh 12 a d lM (nZ 0 Z a d (kT j) (nZ 1 Z a d (kT j) (nZ 2 Z a d (mK Z) (nZ 3 Z a d (kU Gk Z) (Fo 4 Z a d (λg=>kP Z (kZ g Mh Z isAgg124)) (LB 5 Z a d (λg=>kP c2 (kV g Mh (kR qP) Z bE aI)) (nZ 6 Z a d (kT c1) (nZ 7 Z a d (lX (v:=vA (mw (⟨qP,qC⟩:lx))) (pF Z Z) (lG fe fg (UQ _ fg) kr)) (XE 8 Z (lE (cs:=(mw (⟨qP,qC⟩:lx)).toArray) c (mB Z) (ng dr dO fe) λf0 d4 c=>?_))))))))))
 have a:=c.has.kM (Db (Db (Dr (Kb Sn))))
 have d:=c.has.kM (Db (Kb Sn))
 refine ⟨⟨a,λ_=>d⟩,?_⟩
 have c:=c.perm (Nr (Qb (Qb (Qr (Qb (Qr (Qr (Qr Qz))))))) Nz)
 refine bS T λy U T=>XE 9 Z (Sy (enc:=mw) (v:=q4) (vs:= .slice (some ⟨d4,0,none⟩) 1 1) (R:=qj) c wq dc Ey dr yX.1 yX.2.1 Z yX.2.2.1 yX.2.2.2 Z Z K (Sl.lit (enc:=mw) (l:=[(⟨qP,qC⟩:lx)]) wq Z nb Z (c.at_ (Ma Mh))) U λf1 e6 d0 c q=>?_)
 have a:=c.has.kM (Dr (Db (Db (Dr (Kb Sn)))))
 have d:=c.has.kM (Dr (Db (Kb Sn)))
 refine ⟨⟨a,λ_=>d⟩,nZ 10 Z a d (mK Z) (nZ 11 Z a d (kU Gk Z) ?_)⟩
 obtain ⟨a3,a4,rfl⟩:=q.form
 let a2:Value:= .slice a3 y.length a4
 have c:=c.perm (Nb (Pr (Pb Pz)) Nz)
 refine XO 12 Z (lz a2 (#[q0,q1,q2,q3,a2,vI (wi0 .i64 (qc+1))]) c Z Z sizeOf124 oc nb Z (λe0 c=>?_))
 have a:=c.has.kM (Db (Dr (Db (Dr (Kb Sn)))))
 refine ⟨⟨a,λh=>yF kr h⟩,ml kr (te ?_)⟩
 cases sj T
 exact rK Z ⟨_,_,Z,c.lZ (Kb (Sr (Qr (Qb Qz)) (Sr (Qr (Qb (Qb Qz))) (Sr (Qr (Qb (Qb Qz))) (Sr (Qr (Qb (Qb Qz))) (Kr Sn)))))),c9,a2,d0,Z,Z,O.e,q⟩
theorem AV {g:List (ByteArray×Bool)} {r:Unit} (c:zT Value.string (λ(x:Bool)=>Value.bool x) (hp qa) q0 g) (hm:sK g=some r) :
  mX true pg0 222 [q0] qa [] (λv k W'=>∃i,v=(.func (.func 233) #[] #[vP i])∧k=((i,Ob #[q0] 219)::[])):=by
 refine yd 4 func222 Z (λa=>sg ?_)
 obtain ⟨t,rfl⟩:=c.form
 refine VE (lY a Z (λu j a=>Wa (lr (V (zB (by exact sD Z) Z) (Wa (lt ?_))))))
 cases sj hm
 exact ma (v:= .func (.func 233) #[] #[vP j]) Z Z ⟨_,_,Z,a.bkL (Kb Sn),j,Z,Z⟩
theorem OC {β:Type} {vf:β→Value} {l:List (ByteArray×β)} {b:Nat} {a:Value} {W:World} {r:List ByteArray} (c:W.heap[b]? =some (.cells #[a] 219 (0,0))) (hm:zT Value.string vf (hp W) a l) (hk:MO l=some r):mM false pg0 221 [.func (.func 233) #[] #[.pointer (some ⟨b,0,none⟩)]] W 9 yj 1 r:=R7 (P:=pg0) ZO Zw aau Z bG call233 call232 c hm hk
theorem Dl {r:List ByteArray} (J:vg (λ(x:kL)=>vA (kR x)) (nC Value.string λ(x:Bool)=>Value.bool x) (hp qa) q0 qK) (w:Sl (Pl kQ) 9 (hp qa) q1 qr) (a4:vg (λ(x:kL)=>vA (kR x)) (lQ 55 kQ 9) (hp qa) q2 qL) (a0:vg Value.string (lQ 55 kQ 9) (hp qa) q3 qJ) (a3:Sl (Pl mw) 3 (hp qa) q4 qE) (Y:At (hp qa) (vP qk) [q0,q1,q2,q3,q4,vI qc]) (hm:vj qK qr qL qJ qE qc qP=some r) :
  mM false pg0 200 [vP qk,vA (kR qP)] qa 9 yj 1 r:=by
 refine yd 15 func200 Z (λa=>sg (VE (lY a Z (λW2 A a=>Wa (lS (Wm (V (uc underlying163 Z Z) (ln (sM Z ?_)))))))))
 refine kn (kY ?_)
 have a:=a.drew
 have c:=a.has.kM (Kb Sn)
 refine mh c lM (X 0 Z c (kT Z) (X 1 Z c (mK Z) (XQ 2 Z c (tO [q0] BP Z Y Z) λR n=>XH 3 Z c (λ_ d=>kP Z (rz d (y:=q0) n iJ)) (XH 4 Z c (λ_ d=>kP Z (kV d Mh (kR qP) Z bE aI)) ?_))))
 obtain ⟨a9,L,K,M⟩:=J
 refine XH 5 Z c (λ_ d=>tp (k:=qP) (z:= .map none) Fx fj fU Z Z K λb o g=>d.1 b o (M b o g)) (bS hm λT q hm=>?_)
 refine XE 6 Z (Tg a (bJ _) call222 (λ_ _ _ _=>mX.mF (AV ((ou.IT lO.1 K qP M).mono a.lb) q)) (λO c2 W G a I i h a5=>?_) (L0:=[]))
 obtain ⟨Q,N,rfl⟩:=a5
 replace N:=N.symm; subst N
 have a:=a.perm (Tb Tn)
 have c:=a.has.ob I (Db (Kb Sn))
 refine ⟨c,bS hm λc1 s hm=>XE 7 Z (rM a call221 (OC (vf:=λ(x:Bool)=>Value.bool x) (a.has.2 _ _ Mh) ((ou.IT lO.1 K qP M).mono λb o g=>a.has.1 b o (I b o g)) s) λP u c4 t a a2 j U=>?_)⟩
 have c:=a.has.ob (I.trans a2) (Dr (Db (Kb Sn)))
 refine ⟨c,X 8 Z c (nz Z) (ml kr (kW ?_))⟩
 have a:=a.kM (Kr (Db (Db St)))
 refine lB ?_
 cases sj hm
 exact ma (v:=u) Z Z ⟨_,t,Z,a.oa (λp g=>Ml g) U.nd,U⟩
theorem Jm {r:((List (kL×(List (ByteArray×Bool))))×(List lx)×Int)} (h0:nN qb ((qk,Ob #[q0,q1,q2,q3,q4,vI qc] 213)::(qf++(qg++(qh++(qi++(qj++[])))))) qa) (a5:nT (λ(x:kL)=>vA (kR x)) (nC Value.string λ(x:Bool)=>Value.bool x) q0 qK qf) (Q:lQ 55 kQ 9 q1 qr qg) (a4:nT (λ(x:kL)=>vA (kR x)) (lQ 55 kQ 9) q2 qL qh) (T:nT Value.string (lQ 55 kQ 9) q3 qJ qi) (a3:uP 171 mw 3 q4 qE qj) (hm:yQ qK qr qL qJ qE qc qP qQ=some r) :
  mX false pg0 223 [vP qk,vA (kR qP),vA (kR qQ)] qa ((qk,Ob #[q0,q1,q2,q3,q4,vI qc] 213)::(qf++(qg++(qh++(qi++(qj++[])))))) (λv L1 W'=>∃S1 P S4,v=vT []∧L1=((qk,Ob #[q0,q1,q2,q3,P,vI r.2.2] 213)::(S1++(qg++(qh++(qi++(S4++[]))))))∧nT (λ(x:kL)=>vA (kR x)) (nC Value.string λ(x:Bool)=>Value.bool x) q0 r.1 S1∧uP 171 mw 3 P r.2.1 S4):=by
 refine Bl h0 21 func223 Z (λa=>sg (VE (lY a Z (λW2 b1 a=>VE (lY a Z (λW4 G a=>lr (Wm (VA a (Mt Mh) (kR qP) bE aI (bS hm λr5 e2 hm=>VE (rM a call200 (Dl (a5.at (λb o c=>a.at_ (Mt (Mt (Mt (Ml c)))))) (Q.sl mL λb o c=>a.at_ (Mt (Mt (Mt (Ma (Ml c)))))) (a4.at (λb o c=>a.at_ (Mt (Mt (Mt (Ma (Ma (Ml c)))))))) (T.at (λb o c=>a.at_ (Mt (Mt (Mt (Ma (Ma (Ma (Ml c))))))))) ((a3.J0 wq).mono (Pl.mono _) (nI λb o c=>a.at_ (Mt (Mt (Mt (Ma (Ma (Ma (Ma (Ml c)))))))))) (At.of (a.at_ (Mt (Mt Mh))) _ Z) e2) λW7 e3 d d8 a f1 O a9=>V (pe dK Z a9) (Wm ?_)))))))))))
 refine ln ?_
 have a:=a.kM (Kr (Kb (Db St)))
 refine tW (mJ 12 11 (λi js E W=>∃g U a0 h Y j k s,lm d k∧ST false (keys ((qk,Ob #[q0,q1,q2,q3,q4,vI qc] 213)::(qf++(qg++(qh++(qi++(qj++[]))))))) qa W k ((qk,Ob #[q0,q1,q2,q3,a0,vI j] 213)::((G,Ol (kR qQ) 53)::(U++(qg++(qh++(qi++(Y++(d8++s))))))))∧E 0=vP qk∧E 5=vP G∧E 10=e3∧nT (λ(x:kL)=>vA (kR x)) (nC Value.string λ(x:Bool)=>Value.bool x) q0 g U∧uP 171 mw 3 a0 h Y∧uA qr qL qJ qQ js g h j=some r) a9.len ⟨qK,qf,q4,qE,qj,qc,d,_,lm.refl _,a.kM (Sb (Pr (Pb Pz)) (Sb (Pr Pz) (Sr (Qr Qz) (Sr (Qr Qz) (Sr (Qr Qz) (Sr (Qr Qz) (Sr (Qr Qz) St))))))),Z,Z,Z,a5,a3,hm⟩ ?_ ?_)
 ·rintro d5 J e6 E W L ⟨⟨w,M⟩,g,U,a0,h,Y,j,k,s,I,a,t,c1,c2,n,q,K⟩
  refine sg (VQ (oF (i:=(d5:Int)) (x0:=J) dK er c2 w a9 (aG _) L) λf2 c9=>V (kP Z (Da a.has (λp c=>Mt (Mt (Ma (Ma (Ma (Ma (Ma (Ml c)))))))) a9 (λ_=>rfl) c9 L (y:=vS J) Z bU)) (Wa (ln (kX (Wh t (V (kP c1 (kV a.has (Mt Mh) (kR qQ) Z bE aI)) (Wm (bS K λu d0 K=>?_))))))))
  refine VE (eM a (Cb Pz (Cr (Qb Qz) (Cr (Qb Qz) (Cr (Qb Qz) (Cr (Qb Qz) (Cr (Qb Qz) Cn)))))) call199 (λhh _=>mX.mF (vV hh n Q a4 T q d0)) ?_)
  rintro _ f3 d7 e8 a c7 z A ⟨d3,d6,d4,R,rfl,d1,d2⟩
  cases R
  have a:=a.perm (Tb (Tr (Tr (Tr (Tr (Tr Tn))))))
  exact lC (lD (kW ⟨w,M,u.1,d3,d6,u.2.1,d4,u.2.2,d7,_,I.trans c7,a.kM (Kb (Sb (Pr (Pr (Pr (Pr (Pr Pz))))) St)),t,c1,c2,d1,d2,K⟩))
 rintro E W ⟨⟨w,M⟩,g,U,a0,h,Y,j,k,s,I,a,t,c1,c2,n,q,K⟩
 refine kW ?_
 have a:=a.kM (Kb (Db (Kr (Kr (Kr (Kr (Kr (Dr St))))))))
 refine te ?_
 cases sj K
 exact rK Z ⟨_,_,Z,a.lZ (Kb (Kr (Kr (Kr (Kr (Kr Sn)))))),U,a0,Y,Z,Z,n,q⟩
theorem Ep {a2:lx} {r:((List (kL×(List (ByteArray×Bool))))×(List lx)×Int)} (h0:nN qb ((qk,Ob #[q0,q1,q2,q3,q4,vI qc] 213)::(qf++(qg++(qh++(qi++(qj++[])))))) qa) (U:nT (λ(x:kL)=>vA (kR x)) (nC Value.string λ(x:Bool)=>Value.bool x) q0 qK qf) (T:lQ 55 kQ 9 q1 qr qg) (a3:nT (λ(x:kL)=>vA (kR x)) (lQ 55 kQ 9) q2 qL qh) (Y:nT Value.string (lQ 55 kQ 9) q3 qJ qi) (H:uP 171 mw 3 q4 qE qj) (hm:wI qK qr qL qJ qE qc qB a2=some r) :
  mX false pg0 201 [vP qk,vA (kQ qB),vA (mw a2)] qa ((qk,Ob #[q0,q1,q2,q3,q4,vI qc] 213)::(qf++(qg++(qh++(qi++(qj++[])))))) (λv L1 W'=>∃S1 I S4,v=vT []∧L1=((qk,Ob #[q0,q1,q2,q3,I,vI r.2.2] 213)::(S1++(qg++(qh++(qi++(S4++[]))))))∧nT (λ(x:kL)=>vA (kR x)) (nC Value.string λ(x:Bool)=>Value.bool x) q0 r.1 S1∧uP 171 mw 3 I r.2.1 S4):=by
 let n:=(#[q0,q1,q2,q3,q4,vI qc]:Array Value)
 refine Bl h0 57 func201 Z (λa=>sg (VE (lY a Z (λW2 p a=>VE (lY a Z (λW4 s a=>lr (Wf rG (VB a (Mt Mh) Z Z bH (ln (mA (kY ?_)))))))))))
 refine kX (Wi Z (Wa (ln (CI hm Z (λe5 hm=>?_) λe5 hm=>?_))))
 ·refine kX (Wm (Wf ud (VA a (Mt Mh) (kR qB.Head) bE aI (Wf Ba (VB a Mh Z Z bU (bS hm λr6 e6 hm=>?_))))))
  refine VE (eM a (Cb (Pb (Pb Pz)) (Cr (Qb (Qb Qz)) (Cr (Qb (Qb Qz)) (Cr (Qb (Qb Qz)) (Cr (Qb (Qb Qz)) (Cr (Qb (Qb Qz)) Cn)))))) call199 (λj _=>mX.mF (vV j U T a3 Y H e6)) ?_)
  rintro _ g7 a6 f8 a f2 y g ⟨d2,e7,d3,J,rfl,Q,R⟩
  cases J
  have a:=a.perm (Tb (Tr (Tr (Tr (Tr (Tr Tn))))))
  refine lC (lD (te ?_))
  cases sj hm
  exact rK Z ⟨_,_,Z,a.lZ (Kb (Kr (Kr (Kr (Kr (Kr Sn)))))),d2,e7,d3,Z,Z,Q,R⟩
 refine sg (Wi Z (Wa (ln (CI hm Z (λM hm=>?_) λM hm=>?_))))
 ·refine kX (Wm (Wf Ba (VB a Mh Z Z bU (Wf yc (VB a (Mt Mh) Z Z bU (V (lX (v:=vA (kR (⟨a2.lV,qB.lW⟩:kL))) (pF Z Z) (lG cY dl (Kc _ dl) kr)) (Wf ud (VA a (Mt Mh) (kR qB.Head) bE aI (bS hm λg3 O hm=>?_)))))))))
  refine VE (eM a (Cb (Pb (Pb Pz)) (Cr (Qb (Qb Qz)) (Cr (Qb (Qb Qz)) (Cr (Qb (Qb Qz)) (Cr (Qb (Qb Qz)) (Cr (Qb (Qb Qz)) Cn)))))) call223 (λj _=>Jm j U T a3 Y H O) ?_)
  rintro _ g8 h2 f9 a f3 A g ⟨d4,e9,d5,a9,rfl,c7,c8⟩
  cases a9
  have a:=a.perm (Tb (Tr (Tr (Tr (Tr (Tr Tn))))))
  refine lC (lD (te ?_))
  cases sj hm
  exact rK Z ⟨_,_,Z,a.lZ (Kb (Kr (Kr (Kr (Kr (Kr Sn)))))),d4,e9,d5,Z,Z,c7,c8⟩
 refine sg (Wi Z (Wa (ln (CI hm Z (λc1 hm=>?_) λc1 hm=>?_))))
 ·refine kY ?_
  have a:=a.drew
  have c:=a.has.kM (Kb (Kb (Kb (Kr Sn))))
  refine mh c lM (X 0 Z c (kT Z) (X 1 Z c (mK Z) (X 2 Z c (kU BP Z) (XH 3 Z c (λ_ d=>kP Z (kZ d (Mt (Mt Mh)) Z iJ)) (X 4 Z c (kU ph Z) (XH 5 Z c (λ_ d=>kP Z (kV d (Mt Mh) (kR qB.B) Z bE aI)) ?_))))))
  obtain ⟨f7,a5⟩:=U
  refine XH 6 Z c (λ_ d=>tp (k:=qB.B) (z:= .map none) Fx fj fU Z Z a5 λb o h=>d.2 b o (Mt (Mt (Mt (Ml h))))) (X 7 Z c (kU Ba Z) (XH 8 Z c (λ_ d=>kP Z (kZ d Mh Z bU)) (XH 9 Z c (λ_ d=>Fa (k:=a2.lV) (z:=false) (vf:=λ(x:Bool)=>Value.bool x) Ji gb kp Z Z (ou.IT (μ:=hp _) lO.1 a5 qB.B λb o h=>d.2 b o (Mt (Mt (Mt (Ml h)))))) (X 10 Z c (kT Z) (PJ hm (λw E W=>∃t,ST false (keys ((qk,oC n 213)::(qf++(qg++(qh++(qi++(qj++[]))))))) qa W qb ((s,Ol (mw a2) 171)::((p,Ol (kQ qB) 55)::((qk,oC n 213)::(qf++(qg++(qh++(qi++(qj++t))))))))∧E 0=vP qk∧E 4=vP p∧E 5=vP s∧E 50=vB w) (bm 22 4194303) 0 ?_ λw i q=>?_)))))
  ·rintro h1 E W ⟨t,a,e1,e2,e3,e4⟩ a4
   refine ml kr (kW (CI a4 e4 (λc2 a4=>?_) λc2 a4=>?_))
   ·refine kX (Wh e1 (V (kU ud e2) (VA a (Mt Mh) (kR qB.Head) bE aI (V (kU Ba e3) (VB a Mh Z Z bU (bS a4 λg4 P a4=>?_))))))
    refine VE (eM a (Cb (Pb (Pb Pz)) (Cr (Qb (Qb Qz)) (Cr (Qb (Qb Qz)) (Cr (Qb (Qb Qz)) (Cr (Qb (Qb Qz)) (Cr (Qb (Qb Qz)) Cn)))))) call199 (λj _=>mX.mF (vV j a5.e T a3 Y H P)) ?_)
    rintro _ g9 h3 g0 a f4 G g ⟨d7,f0,d8,L,rfl,c9,d0⟩
    cases L
    have a:=a.perm (Tb (Tr (Tr (Tr (Tr (Tr Tn))))))
    refine lC (lD (te ?_))
    cases sj a4
    exact rK Z ⟨_,_,Z,a.lZ (Kb (Kr (Kr (Kr (Kr (Kr Sn)))))),d7,f0,d8,Z,Z,c9,d0⟩
   refine lU (lD (te ?_))
   cases sj a4
   exact rK Z ⟨_,_,Z,a.lZ (Db (Db (Kb (Kr (Kr (Kr (Kr (Kr Sn)))))))),qf,q4,qj,Z,Z,a5.e,H⟩
  refine bC i (λu i=>?_) (λu i=>?_)
  ·refine Xg 11 Z Z (cB u) c (kT Z) (Xg 12 Z Z (cB u) c (mK Z) (Xg 13 Z Z (cB u) c (kU BP Z) (uq 14 Z Z (cB u) c (λ_ d=>kP Z (kZ d (Mt (Mt Mh)) Z iJ)) (Xg 15 Z Z (cB u) c (kU vH Z) (uq 16 Z Z (cB u) c (λ_ d=>kP Z (kV d (Mt Mh) (kR qB.C) Z bE aI)) (uq 17 Z Z (cB u) c (λ_ d=>tp (k:=qB.C) (z:= .map none) Fx fj fU Z Z a5 λb o h=>d.2 b o (Mt (Mt (Mt (Ml h))))) (Xg 18 Z Z (cB u) c (kU Ba Z) (uq 19 Z Z (cB u) c (λ_ d=>kP Z (kZ d Mh Z bU)) (uq 20 Z Z (cB u) c (λ_ d=>Fa (k:=a2.lV) (z:=false) (vf:=λ(x:Bool)=>Value.bool x) Ji gb kp Z Z (ou.IT (μ:=hp _) lO.1 a5 qB.C λb o h=>d.2 b o (Mt (Mt (Mt (Ml h)))))) (X 21 Z c (lh (cB u) Z) ?_))))))))))
   cases sj i
   refine nr kr (q _ _ ⟨_,a.kM,Z,Z,Z,Z⟩)
  refine Xn 11 Z Z (cB u) c (Xn 12 Z Z (cB u) c (Xn 13 Z Z (cB u) c (Xn 14 Z Z (cB u) c (Xn 15 Z Z (cB u) c (Xn 16 Z Z (cB u) c (Xn 17 Z Z (cB u) c (Xn 18 Z Z (cB u) c (Xn 19 Z Z (cB u) c (Xn 20 Z Z (cB u) c (X 21 Z c (lg (cB u) Z) ?_))))))))))
  cases sj i
  refine nr kr (q _ _ ⟨_,a.kM,Z,Z,Z,Z⟩)
 refine lU (lD (te ?_))
 cases sj hm
 exact rK Z ⟨_,_,Z,a.lZ (Db (Db (Kb (Kr (Kr (Kr (Kr (Kr Sn)))))))),qf,q4,qj,Z,Z,U,H⟩
theorem Im {r:((List (kL×(List (ByteArray×Bool))))×(List lx)×Int)} (h0:nN qb ((qk,Ob #[q0,q1,q2,q3,q4,vI qc] 213)::(qf++(qg++(qh++(qi++(qj++[])))))) qa) (a2:nT (λ(x:kL)=>vA (kR x)) (nC Value.string λ(x:Bool)=>Value.bool x) q0 qK qf) (M:lQ 55 kQ 9 q1 qr qg) (Y:nT (λ(x:kL)=>vA (kR x)) (lQ 55 kQ 9) q2 qL qh) (N:nT Value.string (lQ 55 kQ 9) q3 qJ qi) (U:uP 171 mw 3 q4 qE qj) (hm:xK qK qr qL qJ qE qc qB=some r) :
  mX false pg0 172 [vP qk,vA (kQ qB)] qa ((qk,Ob #[q0,q1,q2,q3,q4,vI qc] 213)::(qf++(qg++(qh++(qi++(qj++[])))))) (λv L1 W'=>∃S1 T S4,v=vT []∧L1=((qk,Ob #[q0,q1,q2,q3,T,vI r.2.2] 213)::(S1++(qg++(qh++(qi++(S4++[]))))))∧nT (λ(x:kL)=>vA (kR x)) (nC Value.string λ(x:Bool)=>Value.bool x) q0 r.1 S1∧uP 171 mw 3 T r.2.1 S4):=by
 refine Bl h0 33 func172 Z (λa=>sg (VE (lY a Z (λW2 J a=>lr (Wf rG (VB a Mh Z Z bH (ln (bg ?_))))))))
 refine Wi Z (Wa (ln (CI hm Z (λe7 hm=>?_) λe7 hm=>?_)))
 ·refine kX (Wm (Wf ud (VA a Mh (kR qB.Head) bE aI (Wf zY (VB a Mh Z Z bU (bS hm λr4 e8 hm=>?_))))))
  refine VE (eM a (Cb (Pb Pz) (Cr (Qb Qz) (Cr (Qb Qz) (Cr (Qb Qz) (Cr (Qb Qz) (Cr (Qb Qz) Cn)))))) call199 (λG _=>mX.mF (vV G a2 M Y N U e8)) ?_)
  rintro _ g7 aa g2 a f8 a1 d ⟨e3,f0,e4,c2,rfl,d6,d7⟩
  cases c2
  have a:=a.perm (Tb (Tr (Tr (Tr (Tr (Tr Tn))))))
  refine lC (lD (te ?_))
  cases sj hm
  exact rK Z ⟨_,_,Z,a.lZ (Kb (Kr (Kr (Kr (Kr (Kr Sn)))))),e3,f0,e4,Z,Z,d6,d7⟩
 refine sg (Wm (Wf ph (VA a Mh (kR qB.B) bE aI (bS hm λg4 d5 hm=>VE (rM a call200 (Dl (a2.at (λb o c=>a.at_ (Mt (Mt (Ml c))))) (M.sl mL λb o c=>a.at_ (Mt (Mt (Ma (Ml c))))) (Y.at (λb o c=>a.at_ (Mt (Mt (Ma (Ma (Ml c))))))) (N.at (λb o c=>a.at_ (Mt (Mt (Ma (Ma (Ma (Ml c)))))))) ((U.J0 wq).mono (Pl.mono _) (nI λb o c=>a.at_ (Mt (Mt (Ma (Ma (Ma (Ma (Ml c))))))))) (At.of (a.at_ (Mt Mh)) _ Z) d5) λg3 e9 d1 e1 a f2 R k=>V (pe dK Z k) (Wm (ln (tW (mJ 13 12 (λi js E W=>∃g a3 a5 h a4 a9 n u,lm d1 n∧ST false (keys ((qk,Ob #[q0,q1,q2,q3,q4,vI qc] 213)::(qf++(qg++(qh++(qi++(qj++[]))))))) qa W n ((qk,Ob #[q0,q1,q2,q3,a5,vI a9] 213)::((J,Ol (kQ qB) 55)::(a3++(qg++(qh++(qi++(a4++(e1++u))))))))∧E 0=vP qk∧E 3=vP J∧E 11=e9∧nT (λ(x:kL)=>vA (kR x)) (nC Value.string λ(x:Bool)=>Value.bool x) q0 g a3∧uP 171 mw 3 a5 h a4∧tq qr qL qJ qB js g h a9=some r) k.len ⟨qK,qf,q4,qE,qj,qc,d1,_,lm.refl _,a.kM (Sb (Pr (Pb Pz)) (Sb (Pr Pz) (Sr (Qr Qz) (Sr (Qr Qz) (Sr (Qr Qz) (Sr (Qr Qz) (Sr (Qr Qz) St))))))),Z,Z,Z,a2,U,hm⟩ ?_ ?_)))))))))
 ·rintro d8 q f3 E W O ⟨⟨A,P⟩,g,a3,a5,h,a4,a9,n,u,L,a,w,j,c1,s,t,Q⟩
  refine sg (VQ (oF (i:=(d8:Int)) (x0:=q) dK er c1 A k (aG _) O) λf9 c7=>V (kP Z (Da a.has (λp c=>Mt (Mt (Ma (Ma (Ma (Ma (Ma (Ml c)))))))) k (λ_=>rfl) c7 O (y:=vS q) Z bU)) (Wa (ln (kX (Wh w (V (kP j (kV a.has (Mt Mh) (kQ qB) Z bK aK)) (V (kU ph j) (VA a (Mt Mh) (kR qB.B) bE aI (Wm (V (lX (v:=vA (mw (⟨qB.B,q⟩:lx))) (pF Z Z) (lG fe fg (UQ _ fg) kr)) (bS Q λz c8 Q=>?_)))))))))))
  refine VE (eM a (Cb Pz (Cr (Qb Qz) (Cr (Qb Qz) (Cr (Qb Qz) (Cr (Qb Qz) (Cr (Qb Qz) Cn)))))) call201 (λG _=>Ep G s M Y N t c8) ?_)
  rintro _ g0 e0 f5 a c5 I d ⟨d2,d9,d3,b5,rfl,c9,d0⟩
  cases b5
  have a:=a.perm (Tb (Tr (Tr (Tr (Tr (Tr Tn))))))
  exact lC (lD (kW ⟨A,P,z.1,d2,d9,z.2.1,d3,z.2.2,e0,_,L.trans c5,a.kM (Kb (Sb (Pr (Pr (Pr (Pr (Pr Pz))))) St)),w,j,c1,c9,d0,Q⟩))
 rintro E W ⟨⟨A,P⟩,g,a3,a5,h,a4,a9,n,u,L,a,w,j,c1,s,t,Q⟩
 refine kW ?_
 have a:=a.kM (Kb (Db (Kr (Kr (Kr (Kr (Kr (Dr St))))))))
 refine lD (te ?_)
 cases sj Q
 exact rK Z ⟨_,_,Z,a.lZ (Kb (Kr (Kr (Kr (Kr (Kr Sn)))))),a3,a5,a4,Z,Z,s,t⟩
theorem HN {r:((List (kL×(List (ByteArray×Bool))))×(List lx)×Int)} (h0:nN qb ((qk,Ob #[q0,q1,q2,q3,q4,vI qc] 213)::(qf++(qg++(qh++(qi++(qj++[])))))) qa) (h3:nT (λ(x:kL)=>vA (kR x)) (nC Value.string λ(x:Bool)=>Value.bool x) q0 qK qf) (c1:lQ 55 kQ 9 q1 qr qg) (g7:nT (λ(x:kL)=>vA (kR x)) (lQ 55 kQ 9) q2 qL qh) (c2:nT Value.string (lQ 55 kQ 9) q3 qJ qi) (g4:uP 171 mw 3 q4 qE qj) (hm:zz qK qr qL qJ qE qc=some r) :
  mX false pg0 173 [vP qk] qa ((qk,Ob #[q0,q1,q2,q3,q4,vI qc] 213)::(qf++(qg++(qh++(qi++(qj++[])))))) (λv L1 W'=>∃S1 y3 S4,v=vT []∧L1=((qk,Ob #[q0,q1,q2,q3,y3,vI r.2.2] 213)::(S1++(qg++(qh++(qi++(S4++[]))))))∧nT (λ(x:kL)=>vA (kR x)) (nC Value.string λ(x:Bool)=>Value.bool x) q0 r.1 S1∧uP 171 mw 3 y3 r.2.1 S4):=by
 let g5:Value:=vP qk
 let b8:=(qk,Ob #[q0,q1,q2,q3,q4,vI qc] 213)::(qf++(qg++(qh++(qi++(qj++[])))))
 refine Bl h0 75 func173 Z (λa=>tW (mA (nQ (λm E W=>∃e3 L e4 y M d1 s h4,lm qb s∧ST false (keys b8) qa W s ((qk,Ob #[q0,q1,q2,q3,e4,vI d1] 213)::(L++(qg++(qh++(qi++(M++h4))))))∧E 0=g5∧nT (λ(x:kL)=>vA (kR x)) (nC Value.string λ(x:Bool)=>Value.bool x) q0 e3 L∧uP 171 mw 3 e4 y M∧pz qr qL qJ m e3 y d1=some r) lP ⟨qK,qf,q4,qE,qj,qc,qb,_,lm.refl _,a.kM,Z,h3,g4,hm⟩ ?_)))
 rintro m E W ⟨e3,L,e4,y,M,d1,s,h4,h9,a,p,g9,c5,J⟩
 cases m with
 | zero=>rw [pz] at J; cases J
 | succ m4=>
  refine kY (sg (Wh p (Wn (Wf Gk (VB a Mh Z Z isAgg124 (V (Yg dr Z c5) (Wi Z (ln (CI J Z (λi6 J=>?_) λi6 J=>?_)))))))))
  ·refine kn (bg (Wh p (Wn (Wf Gk (VB a Mh Z Z isAgg124 (bS J λB h2 J=>VQ (oz (enc:=mw) (i:=0) (x0:=B) dr dO Z Z (c5.J0 wq) (lR h2) (lK h2)) λp4 j4=>V (kP Z (lA (oe.hp _) (j4.mono (nI λb o g=>a.has.2 b o (Mt (Ma (Ma (Ma (Ma (Ml g)))))))) iv dO)) (VE (lq a fe λo3 a5 a=>VO (FA (h1:=Ey B) ((mw B).toArray) a dO λo4 a=>lC ?_)))))))))
   let i5:Value:=vP a5
   let i4:=((mw B).toArray:Array Value)
   refine kW (sg (Wh p (Wh p (Wn (Wf Gk (VB a (Mt Mh) Z Z isAgg124 (bS J λ_ g8 J=>VQ (Ui (i:=1) dr dO Z Z wq c5 (vp g8) (vl g8)) λp7 h1=>Wn (Wf Gk ?_))))))))
   obtain ⟨f7,g0,rfl⟩:=h1.form
   let g6:Value:= .slice f7 (y.drop (Int.toNat 1)).length g0
   have a:=a.perm (Nb (Pb Pz) Nz)
   refine VO (lz g6 (#[q0,q1,q2,q3,g6,vI d1]) a Z Z sizeOf124 oc nb Z (λo5 a=>ln (kY (kY ?_))))
   have a:=a.drew
   have c:=a.has.kM (Kb (Kb (Dr (Dr (Kr Sn)))))
   refine mh c lM (X 0 Z c (kT p) (X 1 Z c (mK Z) (X 2 Z c (kU TN Z) (XH 3 Z c (λ_ d=>kP Z (kZ d Mh Z isAgg210)) (X 4 Z c (kU B6 Z) (XH 5 Z c (λ_ d=>kP Z (kV d (Mt Mh) (kR B.kL) Z bE aI)) ?_))))))
   obtain ⟨l1,c3⟩:=g7
   obtain ⟨o1,f0,j9⟩:=ou.rowAt lO.1 c3 B.kL
   refine XH 6 Z c (λ_ d=>tp (k:=B.kL) (z:=vN) Fx underlying210 kB Z Z c3 λb o g=>d.2 b o (Mt (Mt (Ml g)))) (X 7 Z c (lT aV Z (f0.J0 mL)) (X 8 Z c (kT Z) (ml kr (kW (CJ J (λd0 E W=>∃d6 e5 d7 t h5,lm s t∧ST false (keys b8) qa W t ((qk,Ob #[q0,q1,q2,q3,e5,vI d0.2.2] 213)::((a5,oC i4 171)::(d6++(qg++(qh++(qi++(d7++h5)))))))∧E 0=g5∧E 2=i5∧nT (λ(x:kL)=>vA (kR x)) (nC Value.string λ(x:Bool)=>Value.bool x) q0 d0.1 d6∧uP 171 mw 3 e5 d0.2.1 d7) (λd0 j3=>?_) ?_)))))
   ·refine mJ 35 34 (λi js E W=>∃c7 a3 G c8 a4 d2 d3 f9,lm s d3∧ST false (keys b8) qa W d3 ((qk,Ob #[q0,q1,q2,q3,G,vI d2] 213)::((a5,oC i4 171)::(a3++(qg++(qh++(qi++(a4++f9)))))))∧E 0=g5∧E 2=i5∧E 33=tU lJ l1 B.kL vN∧nT (λ(x:kL)=>vA (kR x)) (nC Value.string λ(x:Bool)=>Value.bool x) q0 c7 a3∧uP 171 mw 3 G c8 a4∧sZ qr qL qJ B js c7 c8 d2=some d0) (f0.J0 mL).len ⟨e3,L,g6,y.drop (Int.toNat 1),M,d1,s,_,lm.refl _,a.kM,p,Z,Z,g9,h1,j3⟩ ?_ ?_
    ·rintro l9 R n7 E W k6 ⟨⟨h,w⟩,c7,a3,G,c8,a4,d2,d3,f9,d5,a,e1,e2,g1,f3,f4,U⟩
     refine sg (VQ (oz (enc:=kQ) (i:=(l9:Int)) (x0:=R) aV aK g1 h (f0.J0 mL) (aG _) k6) λp6 j6=>V (kP Z (lA (oe.hp _) (j6.mono (nI λb o g=>a.has.2 b o (Mt (Mt (Ma (Ma (Ml (j9 b o g)))))))) bK aK)) (VE (lq a cO λo9 p3 a=>VO (FA (h1:=ow R) ((kQ R).toArray) a aK λp0 a=>ln (kX (Wh e1 (VA a Mh (kQ R) bK aK (V (kP e2 (kV a.has (Mt (Mt Mh)) (mw B) Z iv dO)) (bS U λg3 j8 U=>?_)))))))))
     refine VE (eM a (Cb (Pb Pz) (Cr (Qb (Qb Qz)) (Cr (Qb (Qb Qz)) (Cr (Qb (Qb Qz)) (Cr (Qb (Qb Qz)) (Cr (Qb (Qb Qz)) Cn)))))) call201 (λhh _=>Ep hh f3 c1 c3.e c2 f4 j8) ?_)
     rintro _ p9 n0 o0 a i3 ab j ⟨l5,m8,l6,f6,rfl,k9,l0⟩
     cases f6
     have a:=a.perm (Tb (Tr (Tr (Tr (Tr (Tr Tn))))))
     refine lC (lD (kW ?_))
     have a:=a.kM (Kb (Kr (Kr (Kr (Kr (Kr (Db St)))))))
     exact ⟨h,w,g3.1,l5,m8,g3.2.1,l6,g3.2.2,n0,_,d5.trans i3,a.kM (Kb (Sb (Pr (Pr (Pr (Pr (Pr Pz))))) St)),e1,e2,g1,k9,l0,U⟩
    rintro E W ⟨⟨h,w⟩,c7,a3,G,c8,a4,d2,d3,f9,d5,a,e1,e2,g1,f3,f4,U⟩
    refine kW ?_
    cases sj U
    exact ⟨a3,G,a4,d3,_,d5,a.kM,e1,e2,f3,f4⟩
   rintro ⟨m0,m1,m5⟩ E W ⟨d6,e5,d7,t,h5,i0,a,h7,h8,k0,k1⟩ i8
   refine kY ?_
   have a:=a.drew
   have c:=a.has.kM (Kb (Kb (Dr (Dr (Dr (Kr Sn))))))
   refine mh c lM (X 0 Z c (kT h7) (X 1 Z c (mK Z) (X 2 Z c (kU Ot Z) (XH 3 Z c (λ_ d=>kP Z (kZ d Mh Z isAgg211)) (X 4 Z c (kU B6 h8) (X 5 Z c (kU zu Z) (XH 6 Z c (λ_ d=>kP Z (kZ d (Mt Mh) Z bU)) ?_)))))))
   obtain ⟨l2,e9⟩:=c2
   obtain ⟨o2,f1,k2⟩:=ou.rowAt mU.1 e9 B.kL.Word
   refine XH 7 Z c (λ_ d=>tp (k:=B.kL.Word) (z:=vN) Ji underlying211 kB Z Z e9 λb o g=>d.2 b o (Mt (Mt (Ml g)))) (X 8 Z c (lT aV Z (f1.J0 mL)) (X 9 Z c (kT Z) (ml kr (kW (tW (CJ i8 (λP E W=>∃d8 e6 d9 e7 h6,lm t e7∧ST false (keys b8) qa W e7 ((qk,Ob #[q0,q1,q2,q3,e6,vI P.2.2] 213)::(d8++(qg++(qh++(qi++(d9++h6))))))∧E 0=g5∧nT (λ(x:kL)=>vA (kR x)) (nC Value.string λ(x:Bool)=>Value.bool x) q0 P.1 d8∧uP 171 mw 3 e6 P.2.1 d9) (λP j0=>?_) ?_))))))
   ·refine mJ 53 52 (λi js E W=>∃a9 Y a2 A n I u f8,lm t u∧ST false (keys b8) qa W u ((qk,Ob #[q0,q1,q2,q3,a2,vI I] 213)::((a5,oC i4 171)::(Y++(qg++(qh++(qi++(n++f8)))))))∧E 0=g5∧E 2=i5∧E 51=tU mx l2 B.kL.Word vN∧nT (λ(x:kL)=>vA (kR x)) (nC Value.string λ(x:Bool)=>Value.bool x) q0 a9 Y∧uP 171 mw 3 a2 A n∧rD B qr qL qJ js a9 A I=some P) (f1.J0 mL).len ⟨m0,d6,e5,m1,d7,m5,t,_,lm.refl _,a.kM,h7,h8,Z,k0,k1,j0⟩ ?_ ?_
    ·rintro l8 T n6 E W k5 ⟨⟨h,w⟩,a9,Y,a2,A,n,I,u,f8,Q,a,q,O,e0,f2,c6,K⟩
     refine sg (VQ (oz (enc:=kQ) (i:=(l8:Int)) (x0:=T) aV aK e0 h (f1.J0 mL) (aG _) k5) λp5 j5=>V (kP Z (lA (oe.hp _) (j5.mono (nI λb o g=>a.has.2 b o (Mt (Mt (Ma (Ma (Ma (Ml (k2 b o g))))))))) bK aK)) (VE (lq a cO λo6 p2 a=>VO (FA (h1:=ow T) ((kQ T).toArray) a aK λo7 a=>ln (kY ?_)))))
     have a:=a.drew
     have c:=a.has.kM (Kb (Kb (Kb (Kr Sn))))
     refine mh c lM (X 0 Z c (kT q) (X 1 Z c (mK Z) (X 2 Z c (kU BP Z) (XH 3 Z c (λ_ d=>kP Z (kZ d (Mt Mh) Z iJ)) (X 4 Z c (kU ph Z) (XH 5 Z c (λ_ d=>kP Z (kV d Mh (kR T.B) Z bE aI)) ?_))))))
     obtain ⟨n4,c4⟩:=f2
     refine XH 6 Z c (λ_ d=>tp (k:=T.B) (z:= .map none) Fx fj fU Z Z c4 λb o g=>d.2 b o (Mt (Mt (Mt (Ml g))))) (X 7 Z c (kU B6 O) (X 8 Z c (kU sE Z) (XH 9 Z c (λ_ d=>kP Z (kZ d (Mt (Mt Mh)) Z bU)) (XH 10 Z c (λ_ d=>Fa (k:=B.kL.kO) (z:=false) (vf:=λ(x:Bool)=>Value.bool x) Ji gb kp Z Z (ou.IT (μ:=hp _) lO.1 c4 T.B λb o g=>d.2 b o (Mt (Mt (Mt (Ml g)))))) (ml kr (kW (CI K Z (λi7 K=>?_) λi7 K=>?_)))))))
     ·refine kX (Wh q (Wf ud (VA a Mh (kR T.Head) bE aI (V (kU Ba O) (VB a (Mt (Mt Mh)) Z Z bU (bS K λg2 j7 K=>?_))))))
      refine VE (eM a (Cb (Pb Pz) (Cr (Qb (Qb Qz)) (Cr (Qb (Qb Qz)) (Cr (Qb (Qb Qz)) (Cr (Qb (Qb Qz)) (Cr (Qb (Qb Qz)) Cn)))))) call199 (λhh _=>mX.mF (vV hh c4.e c1 c3.e e9.e c6 j7)) ?_)
      rintro _ p8 m9 n9 a i2 aa j ⟨l3,m7,l4,f5,rfl,k7,k8⟩
      cases f5
      have a:=a.perm (Tb (Tr (Tr (Tr (Tr (Tr Tn))))))
      refine lC (lD (kW ?_))
      have a:=a.kM (Kb (Kr (Kr (Kr (Kr (Kr (Db St)))))))
      exact ⟨h,w,g2.1,l3,m7,g2.2.1,l4,g2.2.2,m9,_,Q.trans i2,a.kM (Kb (Sb (Pr (Pr (Pr (Pr (Pr Pz))))) St)),q,O,e0,k7,k8,K⟩
     refine lU (lD (kW ?_))
     have a:=a.kM (Db St)
     exact ⟨h,w,a9,Y,a2,A,n,I,u,_,Q,a.kM,q,O,e0,c4.e,c6,K⟩
    rintro E W ⟨⟨h,w⟩,a9,Y,a2,A,n,I,u,f8,Q,a,q,O,e0,f2,c6,K⟩
    refine kW ?_
    cases sj K
    exact ⟨Y,a2,n,u,_,Q,a.kM (Kb (Db St)),q,f2,c6⟩
   rintro ⟨m2,m3,m6⟩ E W ⟨d8,e6,d9,e7,h6,i1,a,l7,k3,k4⟩ i9
   exact lD (kW ⟨m4,bB _,m2,d8,e6,m3,d9,m6,e7,_,(h9.trans i0).trans i1,a.kM,l7,k3,k4,i9⟩)
  refine nB (nv (nv (ry (kW (te ?_)))))
  cases sj J
  exact rK Z ⟨_,_,Z,a.lZ (Kb (Kr (Kr (Kr (Kr (Kr Sn)))))),L,e4,M,Z,Z,g9,c5⟩
theorem Jq {r:(Int×(List (kL×(List (ByteArray×Bool))))×(List kK)×(List (kL×(List kK)))×(List (ByteArray×(List kK)))×(List lx)×Int)} (h0:nN qb ((qk,Ob #[q0,q1,q2,q3,q4,vI qc] 213)::(qf++(qg++(qh++(qi++(qj++[])))))) qa) (d6:nT (λ(x:kL)=>vA (kR x)) (nC Value.string λ(x:Bool)=>Value.bool x) q0 qK qf) (c6:lQ 55 kQ 9 q1 qr qg) (d3:nT (λ(x:kL)=>vA (kR x)) (lQ 55 kQ 9) q2 qL qh) (c7:nT Value.string (lQ 55 kQ 9) q3 qJ qi) (d2:uP 171 mw 3 q4 qE qj) (d7:Sl (Pl kQ) 9 qb q5 qs) (hm:yP qK qr qL qJ qE qc qs=some r) :
  mX false pg0 139 [vP qk,q5] qa ((qk,Ob #[q0,q1,q2,q3,q4,vI qc] 213)::(qf++(qg++(qh++(qi++(qj++[])))))) (λv L1 W'=>∃S1 y3 S4 S6 S8 h7 h6,v=vI r.1∧L1=((qk,Ob #[q0,y3,q2,q3,h7,vI r.2.2.2.2.2.2] 213)::(S1++(S4++(S6++(S8++(h6++[]))))))∧nT (λ(x:kL)=>vA (kR x)) (nC Value.string λ(x:Bool)=>Value.bool x) q0 r.2.1 S1∧lQ 55 kQ 9 y3 r.2.2.1 S4∧nT (λ(x:kL)=>vA (kR x)) (lQ 55 kQ 9) q2 r.2.2.2.1 S6∧nT Value.string (lQ 55 kQ 9) q3 r.2.2.2.2.1 S8∧uP 171 mw 3 h7 r.2.2.2.2.2.1 h6):=by
 let b8:=(qk,Ob #[q0,q1,q2,q3,q4,vI qc] 213)::(qf++(qg++(qh++(qi++(qj++[])))))
 refine Bl h0 46 func139 Z (λa=>sg (Wa (lS (Wm (V (uc underlying163 Z Z) (ln (sM Z (lU ?_))))))))
 refine kW (sg (Wm (Wn (Wf KR (VB a Mh Z Z bH (Wa (lS (Wm (V (lT aV Z d7) ?_)))))))))
 refine Wm (ln (mJ 16 15 (λi js E W=>∃a3 N M a4 Q a9 T n U a0 a5 Y a2 c1 d5,lm qb c1∧ST false (keys b8) qa W c1 ((qk,Ob #[q0,M,q2,q3,a0,vI a2] 213)::(N++(Q++(T++(U++(Y++d5))))))∧E 0=vP qk∧E 5=vI qc∧E 14=q5∧nT (λ(x:kL)=>vA (kR x)) (nC Value.string λ(x:Bool)=>Value.bool x) q0 a3 N∧lQ 55 kQ 9 M a4 Q∧nT (λ(x:kL)=>vA (kR x)) (lQ 55 kQ 9) q2 a9 T∧nT Value.string (lQ 55 kQ 9) q3 n U∧uP 171 mw 3 a0 a5 Y∧ru qc js a3 a4 a9 n a5 a2=some r) d7.len ⟨qK,qf,q1,qr,qg,qL,qh,qJ,qi,q4,qE,qj,qc,qb,_,lm.refl _,a.kM,Z,Z,Z,d6,c6,d3,c7,d2,hm⟩ ?_ ?_))
 ·rintro f4 H j5 E W g9 ⟨⟨L,P⟩,a3,N,M,a4,Q,a9,T,n,U,a0,a5,Y,a2,c1,d5,y,a,k,z,A,p,h,q,s,t,I⟩
  refine sg (VQ (oz (enc:=kQ) (i:=(f4:Int)) (x0:=H) aV aK A L (d7.mono (Pl.mono _) y) (aG _) g9) λk8 g1=>V (kP Z (lA a.has g1 bK aK)) (VE (lq a cO λk0 e6 a=>VO (FA (h1:=ow H) ((kQ H).toArray) a aK λk1 a=>ln (kY ?_)))))
  have a:=a.drew
  have c:=a.has.kM (Kb (Kb Sn))
  refine mh c lM (XH 0 Z c (λ_ u=>kP Z (kV u Mh (kQ H) Z bK aK)) (bS I λk9 g2 I=>XE 1 Z (Eg a call63 (lF.mF (xC H _ _  g2)) λk2 a=>?_)))
  have c:=a.has.kM (Kb (Kb Sn))
  refine ⟨c,X 2 Z c (kT Z) (PJ I (λf5 E W=>∃e2,ST false (keys b8) qa W c1 ((e6,Ol (kQ H) 55)::((qk,Ob #[q0,M,q2,q3,a0,vI a2] 213)::(N++(Q++(T++(U++(Y++e2)))))))∧E 0=vP qk∧E 5=vI qc∧E 7=vP e6∧E 14=q5∧E 15=vI (qs.length:Int)∧E 16=vI (f4:Int)∧E 30=vB f5) (bm 11 2047) 0 ?_ λf5 g d4=>?_)⟩
  ·rintro l4 E W ⟨e2,a,G,e7,e8,e9,f0,f1,i3⟩ J
   refine ml kr (kW (CI J i3 (λg0 J=>?_) λg0 J=>?_))
   ·refine sg (Wh G (V (kP e8 (kV a.has Mh (kQ H) Z bK aK)) (bS J λO g3 J=>?_)))
    refine VE (eM a (Cb (Pb Pz) (Cr (Qb Qz) (Cr (Qb Qz) (Cr (Qb Qz) (Cr (Qb Qz) (Cr (Qb Qz) Cn)))))) call171 (λw _=>mX.mF (I6 w p h q s t g3)) ?_)
    rintro _ l1 l5 j7 a f2 R d ⟨f6,e3,e4,e5,c8,rfl,d9,e0,e1⟩
    cases c8
    have a:=a.perm (Tb (Tr (Tr (Tr (Tr (Tr Tn))))))
    refine ln (kX (Wh G (V (kP e8 (kV a.has (Mt (Ma (Ma (Ma (Ma (Ma Mh)))))) (kQ H) Z bK aK)) (bS J λd8 g4 J=>?_))))
    refine VE (eM a (Cb Pz (Cr Qz (Cr Qz (Cr Qz (Cr Qz (Cr Qz Cn)))))) call172 (λw _=>Im w p d9 e0 e1 t g4) ?_)
    rintro _ l2 i7 j8 a f3 a1 d ⟨h8,i5,h9,c9,rfl,h1,h2⟩
    cases c9
    have a:=a.perm (Tb (Tr (Tr (Tr (Tr (Tr Tn))))))
    refine lC (lD (kW ?_))
    have a:=a.kM (Kb (Kr (Kr (Kr (Kr (Kr (Db St)))))))
    exact ⟨f1,f0,d8.1,h8,f6,O.1,e3,O.2.1,e4,O.2.2,e5,i5,d8.2.1,h9,d8.2.2,i7,_,(y.trans f2).trans f3,a.kM,G,e7,e9,h1,d9,e0,e1,h2,J⟩
   refine lU (lD (kW ?_))
   have a:=a.kM (Db St)
   exact ⟨f1,f0,a3,N,M,a4,Q,a9,T,n,U,a0,a5,Y,a2,c1,_,y,a.kM,G,e7,e9,p,h,q,s,t,J⟩
  refine bC g (λj g=>?_) (λj g=>?_)
  ·refine Xg 3 Z Z (cB j) c (kT k) (Xg 4 Z Z (cB j) c (mK Z) (Xg 5 Z Z (cB j) c (kU Oo Z) (uq 6 Z Z (cB j) c (λ_ u=>kP Z (kZ u (Mt Mh) Z kG)) (uq 7 Z Z (cB j) c (λ_ u=>kP Z (kV u Mh (kQ H) Z bK aK)) (bS g λl0 g7 g=>Al 8 Z Z (cB j) (Eg a call170 (lF.mF (M5 (h.sl mL λb o hq=>a.at_ (Mt (Mt (Ma (Ml hq))))) g7)) λk5 a=>?_))))))
   have c:=a.has.kM (Kb (Kb Sn))
   refine ⟨c,Xg 9 Z Z (cB j) c (nt Z) (X 10 Z c (lh (cB j) Z) ?_)⟩
   cases sj g
   refine nr kr (d4 _ _ ⟨_,a.kM,k,z,Z,A,P,L,Z⟩)
  refine Xn 3 Z Z (cB j) c (Xn 4 Z Z (cB j) c (Xn 5 Z Z (cB j) c (Xn 6 Z Z (cB j) c (Xn 7 Z Z (cB j) c (Xn 8 Z Z (cB j) c (Xn 9 Z Z (cB j) c (X 10 Z c (lg (cB j) Z) ?_)))))))
  cases sj g
  refine nr kr (d4 _ _ ⟨_,a.kM,k,z,Z,A,P,L,Z⟩)
 rintro E W ⟨⟨L,P⟩,a3,N,M,a4,Q,a9,T,n,U,a0,a5,Y,a2,c1,d5,y,a,k,z,A,p,h,q,s,t,I⟩
 refine kW (sg (Wh k (bS I λi4 g8 I=>?_)))
 refine VE (eM a (Cb Pz (Cr Qz (Cr Qz (Cr Qz (Cr Qz (Cr Qz Cn)))))) call173 (λw _=>HN w p h q s t g8) ?_)
 rintro _ l3 l6 j9 a j3 a7 d ⟨i0,i6,i1,d0,rfl,h3,h4⟩
 cases d0
 have a:=a.perm (Tb (Tr (Tr (Tr (Tr (Tr Tn))))))
 refine lr (Wh k (Wn (Wf KR (VB a Mh Z Z bH (Wh z (Wi Z (Wa (lt ?_))))))))
 cases sj I
 exact ma (v:=vI (wi0 .i64 (i4.2.2-qc))) Z Z ⟨_,_,Z,a.lZ (Kb (Kr (Kr (Kr (Kr (Kr Sn)))))),i0,M,Q,T,U,i6,i1,Z,Z,h3,h,q,s,h4⟩
theorem UL {r:((List (kL×(List (ByteArray×Bool))))×(List kK)×(List (kL×(List kK)))×(List (ByteArray×(List kK)))×(List lx)×Int)} (J:Sl (Pl kQ) 9 (hp qa) q0 qr) (hm:AB qr=some r) :
  mX false pg0 98 [q0] qa [] (λv L1 W'=>∃n p S3 q S6 s S9 D u G y,v=vP n∧L1=((n,Ob #[p,q,s,D,G,vI r.2.2.2.2.2] 213)::(S3++(S6++(S9++(u++(y++[]))))))∧nT (λ(x:kL)=>vA (kR x)) (nC Value.string λ(x:Bool)=>Value.bool x) p r.1 S3∧lQ 55 kQ 9 q r.2.1 S6∧nT (λ(x:kL)=>vA (kR x)) (lQ 55 kQ 9) s r.2.2.1 S9∧nT Value.string (lQ 55 kQ 9) D r.2.2.2.1 u∧uP 171 mw 3 G r.2.2.2.2.1 y):=by
 refine yd 13 func98 Z (λd=>sg (Wa (lr (VE (FX (P:=pg0) (λ(x:kL)=>vA (kR x)) (nC Value.string λ(x:Bool)=>Value.bool x) d λW1 v4 R2 d z=>VE (FX (P:=pg0) (λ(x:kL)=>vA (kR x)) (lQ 55 kQ 9) d λW5 v8 R6 d B=>VE (FX (P:=pg0) Value.string (lQ 55 kQ 9) d λW9 c4 Y d t=>?_)))))))
 obtain ⟨a,rfl⟩:=z.form
 obtain ⟨c,rfl⟩:=B.form
 obtain ⟨g,rfl⟩:=t.form
 refine V (lX (v:=vA [.map (some a),vN,.map (some c),.map (some g),vN,vI 0]) (KD Z Z Z) (lG zeroValue213 fh (ab4 _ fh) kr)) (VE (lY d Z (λc1 k d=>Wa (lr (Wm (Wm (bS hm λW K hm=>?_)))))))
 refine VE (eM d (Cb Pz (Cr (Qr (Qr Qz)) (C0 (Cr (Qr Qz) (Cr Qz (C0 Cn)))))) call139 (λL j=>Jq L z (lQ.nil _ _ _) B t (uP.nil _ _ _) (J.mono (Pl.mono _) j) K) ?_)
 rintro _ c5 c6 R d O o h ⟨w,A,a2,a3,a4,I,a5,i,rfl,M,N,Q,T,U⟩
 cases i
 have d:=d.perm (Tb (Tr (Tr (Tr (Tr (Tr Tn))))))
 refine lr (Wm (Wa (lt ?_)))
 cases sj hm
 exact ma (v:=vP k) Z Z ⟨_,_,Z,d.bkL (Kb (Kr (Kr (Kr (Kr (Kr Sn)))))),k,.map (some a),w,A,a2,.map (some c),a3,.map (some g),a4,I,a5,Z,Z,M,N,Q,T,U⟩
theorem FB {K:List nM} {y:nM→Option Bool} (c:Sl nq 15 (hp qa) q0 K) (z:Ce pg0 q1 (hp qa) (G4 nq) (λ(qc:Bool)=>vB qc) y) (hm:xZ K y=some qc) :
  lF false pg0 174 [q0,q1] qa (vI qc):=by
 refine cG 19 func174 Z (λd=>sg (Wa (lS (Wm (V (lT eS Z c) (Wm (ln (mJ 8 7 (λi j E W=>∃k,ST false lN qa W (hp qa) k∧E 0=q0∧E 1=q1∧pw y j i=some qc) c.len ⟨_,d.kM,Z,Z,hm⟩ ?_ ?_))))))))
 ·rintro M x T E W J ⟨⟨g,h⟩,k,d,t,u,a⟩
  refine sg (Wh g (Wa (lr (Wh u (Wh t (Wm (VQ (my (i:=(M:Int)) (x0:=x) nq.out eS eF Z Z c (aG _) J) λY ⟨_,⟨N,Q,rfl,H,I⟩,D⟩=>V (kP Z (lA d.has D ko eF)) (bS a λn G a=>VE (CM x d z (lm.refl _) (G4.mk pU (nq.mk ⟨N,Q,Z,H,I⟩) d.lb) Z (sD Z) G λU d=>?_)))))))))
  refine ln (CI a Z (λB a=>?_) λB a=>?_)
  ·refine sg (Wm (Wa (lt (mG (ly (mG (ly ?_)))))))
   cases sj a
   exact rP d
  exact lU (lD (kW ⟨g,h,_,d.kM,t,u,a⟩))
 rintro E W ⟨⟨g,h⟩,k,d,t,u,a⟩
 exact kW (sg (Wa (lt (rQ a d))))
theorem MT {a:nM} (j:Sl (Pl (lu .u8)) 1 (hp qa) q0 a.Signed.Tag) (i:Sl kN 5 (hp qa) q1 a.la.Kids) (t:At (hp qa) (vP qk) (kQ qB)) (hm:D5 a qB=some qt) :
  lF true pg0 175 [vA [vI a.Signed.kK.Kind,vS a.Signed.kK.Head.kO,vS a.Signed.kK.Head.Word,vS a.Signed.kK.lV,vS a.Signed.kK.B.kO,vS a.Signed.kK.B.Word,vS a.Signed.kK.C.kO,vS a.Signed.kK.C.Word,vS a.Signed.kK.lW,q0,vI a.la.Op,vI a.la.K,vS a.la.kL.kO,vS a.la.kL.Word,q1],vP qk] qa (vB qt):=by
 refine cG 9 func175 Z (λc=>sg ?_)
 obtain ⟨x,z,rfl⟩:=j.form
 obtain ⟨y,B,rfl⟩:=i.form
 refine VE (lY c Z (λD G c=>Wa (lr (Wf Gs (Wf rZ (VA c Mh (kQ a.Signed.kK) bK aK (V (kP Z (lA c.has t bK aK)) (V (wE Z Z (nY eO) (so (yK _ a.Signed.kK qB))) (Wa (ln ?_))))))))))
 exact lB (rQ hm c)
theorem RS {r:(nM×Bool)} (k:nN qb [] qa) (c:Sl nq 15 qb q0 qG.nK) (B:Sl oB 8 qb q1 qG.pv) (hm:DS qG qB=some r) :
  mq false pg0 140 [vA [vS qG.Name,q0,q1],vA (kQ qB)] qa qb [] (λv L1 μ1=>∃g h,v=vT [vA [vI r.1.Signed.kK.Kind,vS r.1.Signed.kK.Head.kO,vS r.1.Signed.kK.Head.Word,vS r.1.Signed.kK.lV,vS r.1.Signed.kK.B.kO,vS r.1.Signed.kK.B.Word,vS r.1.Signed.kK.C.kO,vS r.1.Signed.kK.C.Word,vS r.1.Signed.kK.lW,g,vI r.1.la.Op,vI r.1.la.K,vS r.1.la.kL.kO,vS r.1.la.kL.Word,h],vB r.2]∧L1=[]∧Sl (Pl (lu .u8)) 1 μ1 g r.1.Signed.Tag∧Sl kN 5 μ1 h r.1.la.Kids):=by
 refine ve k 19 func140 Z (λd=>sg ?_)
 obtain ⟨T,U,rfl⟩:=c.form
 obtain ⟨A3,R,rfl⟩:=B.form
 refine VE (lY d Z (λW6 A d=>VE (lY d Z (λW8 K d=>VE (lq d fR λs L d=>Wa (lr (Wf HZ (VB d (Mt (Mt Mh)) Z Z isAgg22 (V (zB (by exact sD Z) Z) (bS hm λj Q hm=>VE (Eg d call174 (FB (c.mono pU.mono d.lb) ⟨175,#[],#[vP K],Z,call175,λW x vs r o n hm=>by obtain ⟨_,rfl,Y⟩:=n; obtain ⟨u0,u1,rfl,p,q⟩:=Y.out; exact (MT p q (At.of (o _ _ (d.at_ (Mt Mh))) _ Z) hm).mF⟩ Q) λw d=>Wa (lC ?_))))))))))))
 refine kW ?_
 have d:=d.kM (Kb (Db St))
 refine kY (sg (Wm (Wi Z (ln (CI hm Z (λM hm=>?_) λM hm=>?_)))))
 ·refine sg (V (lX (v:=vA YX) oP (lG fR gC (aak _ gC) kr)) (VO (FA YX.toArray d eF λJ d=>Wa (ln ?_))))
  have d:=d.kM (Kb (Db St))
  refine lB (ly ?_)
  cases sj hm
  exact rY (v0:=vA YX) (v1:=vB false) Z Z (kV d.has Mh YX Z ko eF) Z ⟨_,_,_,Z,d.lZ Sn,lm.refl _,Lo.refl,ST.lp d (mu.mem Sn),vN,vN,Z,Z,Sl.nil _ _ _,Sl.nil _ _ _⟩
 refine kg (Wf HZ (VB d (Mt Mh) Z Z isAgg22 (Wm (bS hm λa I hm=>VQ (my (i:=j) (x0:=a) nq.out eS eF Z Z c (lR I) (lK I)) λc1 ⟨_,⟨P,c5,rfl,G,H⟩,N⟩=>V (kP Z (lA d.has N ko eF)) ?_))))
 obtain ⟨t,y,rfl⟩:=G.form
 obtain ⟨u,z,rfl⟩:=H.form
 let a0:=C6 a.Signed.kK.Kind a.Signed.kK.Head.kO a.Signed.kK.Head.Word a.Signed.kK.lV a.Signed.kK.B.kO a.Signed.kK.B.Word a.Signed.kK.C.kO a.Signed.kK.C.Word a.Signed.kK.lW t a.Signed.Tag.length y a.la.Op a.la.K a.la.kL.kO a.la.kL.Word u a.la.Kids.length z
 refine VO (FA a0.toArray d eF λO d=>Wa (ln ?_))
 have d:=d.kM (Kb (Db St))
 refine lB ?_
 cases sj hm
 exact rY (v0:=vA a0) (v1:=vB true) Z Z (kV d.has Mh a0 Z ko eF) Z ⟨_,_,_,Z,d.lZ Sn,lm.refl _,Lo.refl,ST.lp d (mu.mem Sn),.slice t a.Signed.Tag.length y,.slice u a.la.Kids.length z,Z,Z,G,H⟩
theorem J6 {r:List sT} (I:nN qb [] qa) (a:Sl oB 8 qb q0 qY) (hm:zp qY=some r) :
  mq true pg0 177 [q0] qa qb [] (λv G J=>∃z t,v=z∧G=(t++[])∧mn 81 oB 8 J z r t):=by
 unfold zp at hm
 refine ve I 8 func177 Z (λc=>sg (Wa (lS (Wm ?_))))
 obtain ⟨D,Q,rfl⟩:=a.form
 refine V (Fb dU Z Z) (ln ?_)
 rcases D with _ | M
 ·have y:=a.isNil
  replace hm:some []=some r:=by rw [y] at hm; simpa [nF,maxLen] using hm
  refine Aw (rfl) (sg (Wa (lt (ly ?_))))
  cases sj hm
  refine ma (v:=vN) Z Z ?_
  have c:=c.aaH
  exact ⟨_,_,_,Z,c.lZ (Kr Sn),lm.refl _,Lo.refl,ST.lp c (mu.mem (Kr Sn)),vN,[],Z,Z,mn.nil _ _ _ _⟩
 ·refine sM (rfl) (kg (VE (lE (cs:=#[]) c oP (EP [] dU eH iK dc Z fb Z Z) λN H c=>Wm (bS hm λT x hm=>VE (sk (B:=[(H,Ob #[] 81)]) xi c dc dU Nw.1 Nw.2.1 Z Nw.2.2.1 Nw.2.2.2 Z Z (mn.lit xi (l:=[]) .nil Z nb Z) (Br.sl xi a c.lb) x λK g k c i=>Wa (lt ?_))))))
  cases sj hm
  exact ma (v:=g) Z Z ⟨_,_,_,Z,c.lZ (Kr Sn),lm.refl _,Lo.refl,ST.lp c (mu.mem (Kr Sn)),g,k,Z,Z,i⟩
theorem HI {y:sT→Option Bool} (c:Sl oB 8 (hp qa) q0 qY) (z:Ce pg0 q1 (hp qa) (G4 oB) (λ(qc:Bool)=>vB qc) y) (hm:zJ qY y=some qc) :
  lF false pg0 202 [q0,q1] qa (vI qc):=by
 refine cG 19 func202 Z (λd=>sg (Wa (lS (Wm (V (lT dU Z c) (Wm (ln (mJ 8 7 (λi j E W=>∃k,ST false lN qa W (hp qa) k∧E 0=q0∧E 1=q1∧rE y j i=some qc) c.len ⟨_,d.kM,Z,Z,hm⟩ ?_ ?_))))))))
 ·rintro M x T E W J ⟨⟨g,h⟩,k,d,t,u,a⟩
  refine sg (Wh g (Wa (lr (Wh u (Wh t (Wm (VQ (my (i:=(M:Int)) (x0:=x) oB.out dU eH Z Z c (aG _) J) λY ⟨_,⟨N,Q,rfl,H,I⟩,D⟩=>V (kP Z (lA d.has D kH eH)) (bS a λn G a=>VE (CM x d z (lm.refl _) (G4.mk xi (oB.mk ⟨N,Q,Z,H,I⟩) d.lb) Z (sD Z) G λU d=>?_)))))))))
  refine ln (CI a Z (λB a=>?_) λB a=>?_)
  ·refine sg (Wm (Wa (lt (mG (ly (mG (ly ?_)))))))
   cases sj a
   exact rP d
  exact lU (lD (kW ⟨g,h,_,d.kM,t,u,a⟩))
 rintro E W ⟨⟨g,h⟩,k,d,t,u,a⟩
 exact kW (sg (Wa (lt (rQ a d))))
theorem G9 {f1:sT→Option Bool} {r:List sT} (h0:nN qb (qf++[]) qa) (n:mn 81 oB 8 qb q0 qY qf) (a9:Ce pg0 q1 qb (G4 oB) (λ(r:Bool)=>vB r) f1) (hm:wG qY f1=some r) :
  mq false pg0 176 [q0,q1] qa qb (qf++[]) (λv L1 μ1=>∃O,v=O∧L1=[]∧Sl oB 8 μ1 O r):=by
 refine ve h0 42 func176 Z (λd=>sg (Wa (lr (Wm (Wm (bS hm λL d7 hm=>VE (Eg d call202 (HI (n.sl xi d.lb λb o s=>d.at_ (Ml s)) (a9.mono d.lb) d7) λW3 d=>Wa (ln ?_))))))))
 refine kY (sg (Wm (Wi Z (ln (CI hm Z (λd6 hm=>?_) λd6 hm=>?_)))))
 ·refine sg (Wm (Wa (lt (ly ?_))))
  cases sj hm
  refine ma (v:=q0) Z Z ?_
  obtain ⟨aa,d,d2,q,d8⟩:=ST.xW xi d n
  exact ⟨_,_,_,Z,d.lZ Sn,d2,q,ST.lp d (mu.mem Sn),q0,Z,Z,d8⟩
 refine kS (Wm (Wi Z (Wa (ln (mA (nQ (λm E W=>∃a2 K G H y,ST false (keys (qf++[])) qa W qb (K++y)∧E 0=q0∧E 1=q1∧E 5=vI G∧E 6=vI H∧mn 81 oB 8 qb q0 a2 K∧pW f1 m a2 G H=some r) lP ⟨qY,qf,L,wi0 .i64 (L+1),_,d.kM,Z,Z,Z,Z,n,hm⟩ ?_))))))
 rintro m E W ⟨a2,K,G,H,y,d,t,k,I,N,j,c⟩
 cases m with
 | zero=>rw [pW] at c; cases c
 | succ d4=>
  refine kY (sg (Wh N (Wh t (V (xE dU Z j) (Wi Z (ln (CI c Z (λb6 c=>?_) λb6 c=>?_)))))))
  ·refine kn (kY (CJ c (λa3 E W=>∃M A,ST false (keys (qf++[])) qa W qb (M++A)∧E 0=q0∧E 1=q1∧E 5=vI a3.2∧E 6=vI H∧mn 81 oB 8 qb q0 a3.1 M) (λa3 g=>?_) ?_))
   ·refine bg (Wh t (Wh N (bS g λa w g=>VQ (ni (i:=H) oB.out dU eH Z Z j (lR w) (lK w)) λf5 ⟨_,⟨f8,f9,rfl,Q,T⟩,c1,e1⟩=>V (kP Z (lA (oe.hp _) (c1.mono (nI λb o s=>d.has.2 b o (Ml s))) kH eH)) (VE (lq d iK λe7 f3 d=>?_)))))
    obtain ⟨u,B,rfl⟩:=Q.form
    obtain ⟨x,D,rfl⟩:=T.form
    let p:=C9 a.kL.kO a.kL.Word a.la.Op a.la.K a.la.kL.kO a.la.kL.Word u a.la.Kids.length B x a.pf.length D
    refine VO (FA p.toArray d eH λe8 d=>lr (Wh k (VA d Mh p kH eH (bS g λf7 c2 g=>VE (CM a d a9 (lm.refl _) (G4.mk xi (oB.mk ⟨.slice u a.la.Kids.length B,.slice x a.pf.length D,Z,Q,T⟩) d.lb) Z (sD Z) c2 λe9 d=>V (nt Z) (ln (CI g Z (λb7 g=>?_) λb7 g=>?_)))))))
    ·refine sg (Wh t (Wh I (VA d Mh p kH eH (bS g λg3 U g=>VQ (ni (i:=G) oB.out dU eH Z Z j (lR U) (lK U)) λf6 ⟨_,⟨g0,g1,rfl,e3,e4⟩,e2,b9⟩=>?_))))
     have d:=d.perm (Nr (Qb Qz) Nz)
     refine VO (vw (x1:=a) xi d j Z Z (oB.mk ⟨.slice u a.la.Kids.length B,.slice x a.pf.length D,Z,Q,T⟩) b9 (lK U) eH λf0 c7 d R=>ln ?_)
     have d:=d.kM (Kr (Db St))
     refine kX (Wh I (Wi Z (Wa (lC (lD (kW ?_))))))
     cases sj g
     exact ⟨c7,_,d.kM,t,k,Z,N,R⟩
    refine lU (lD (kW ?_))
    cases sj g
    exact ⟨K,_,d.kM (Db St),t,k,I,N,j⟩
   rintro ⟨d3,d5⟩ E W ⟨M,A,d,c8,c9,d0,d1,c3⟩ c0
   exact kX (Wh d1 (Wi Z (Wa (ln ⟨d4,bB _,d3,M,d5,wi0 .i64 (H+1),_,d.kM,c8,c9,d0,Z,c3,c0⟩))))
  refine nB (nv (nv (ry (kW (sg (Wh t (Wh I (bS c λ_ a4 c=>VQ (GJ (i:=G) dU eH Z Z j (vp a4) (vl a4)) λg2 c4=>VO (Js (z:=(⟨K0,(⟨0,0,K0,[]⟩:Formula),[]⟩:sT)) (zs:=[vS zS,vS zS,vI 0,vI 0,vS zS,vS zS,vN,vN]) xi d j (oB.mk ⟨vN,vN,Z,Sl.nil _ _ _,Sl.nil _ _ _⟩) dU iK c4 Z Z (λf2 e6 d Y=>lr (Wh t ?_)))))))))))
  refine Wh I (bS c λ_ a5 c=>VQ (II (i:=G) dU eH Z Z Y (vp a5) (vl a5)) λJ c5=>Wa (lt ?_))
  cases sj c
  refine ma (v:=J) Z Z ?_
  obtain ⟨g7,d,P,h,c6⟩:=ST.xW xi d c5
  exact ⟨_,_,_,Z,d.lZ Sn,P,h,ST.lp d (mu.mem Sn),J,Z,Z,c6⟩
theorem LV {c:sT} (j:Sl kN 5 (hp qa) q0 c.la.Kids) (g:Sl (Pl kQ) 9 (hp qa) q1 c.pf) (t:At (hp qa) (vP qk) (kQ qB)) (hm:yL c qB=some qt) :
  lF true pg0 178 [vA [vS c.kL.kO,vS c.kL.Word,vI c.la.Op,vI c.la.K,vS c.la.kL.kO,vS c.la.kL.Word,q0,q1],vP qk] qa (vB qt):=by
 refine cG 9 func178 Z (λa=>sg ?_)
 obtain ⟨B,D,rfl⟩:=j.form
 obtain ⟨x,y,rfl⟩:=g.form
 refine VE (lY a Z (λG I a=>Wa (lr (Wf R4 (VB a Mh Z Z kG (V (kP Z (lA a.has t bK aK)) (bS hm λJ z hm=>VE (Eg a call170 (M5 (g.mono (Pl.mono _) a.lb) z) λH a=>V (nt Z) (Wa (ln ?_))))))))))
 exact lB (rQ hm a)
theorem PT (o:nN qb [] qa) (j:Sl nq 15 qb q0 qG.nK) (c:Sl oB 8 qb q1 qG.pv) (hm:CQ qG qB=some qY) :
  mq false pg0 141 [vA [vS qG.Name,q0,q1],vA (kQ qB)] qa qb [] (λv L1 μ1=>∃n,v=n∧L1=[]∧Sl oB 8 μ1 n qY):=by
 refine ve o 10 func141 Z (λa=>sg ?_)
 obtain ⟨A1,c2,rfl⟩:=j.form
 obtain ⟨Y,L,rfl⟩:=c.form
 refine VE (lY a Z (λW6 G a=>VE (lY a Z (λW8 z a=>Wa (lr (Wf QY (VB a (Mt Mh) Z Z isAgg23 (bS hm λr9 N hm=>?_))))))))
 refine VE (eD a (bJ _) call177 (λi=>mq.mF (J6 i (c.mono xi.mono (lm.refl _)) N)) ?_ (L0:=[]))
 rintro _ J P A a B d ⟨a5,y,k,rfl,T⟩
 obtain rfl:=k.symm
 have a:=a.perm (Tr Tn)
 refine V (zB (by exact sD Z) Z) ?_
 have a:=a.perm (Nb (Pr Pz) Nz)
 obtain ⟨c7,a,u,g,M⟩:=ST.Jy (R:=[(z,Ol (kQ qB) 55)]) a
 have K:=At.of (M _ _ (.head _)) _ Z
 refine bS hm λc1 Q hm=>?_
 refine VE (eD a (Cr Qz Cn) call176 (λi=>G9 i (T.mono xi u) ⟨178,#[],#[vP z],Z,call178,λW x vs qY q p hm=>by obtain ⟨_,rfl,a3⟩:=p; obtain ⟨u0,u1,rfl,s,w⟩:=a3.out; exact (LV s w (K.mono ((lm.refl _).trans q)) hm).mF⟩ Q) ?_)
 rintro _ O c8 I a D h ⟨H,t,rfl,U⟩
 obtain rfl:=t.symm
 refine Wa (ln ?_)
 have a:=a.kM (Db St)
 refine lB ?_
 obtain rfl:=sj hm
 exact ma (v:=H) Z Z ⟨_,_,_,Z,a.lZ Sn,(B.trans u).trans D,(d.trans g).trans h,ST.lp a (mu.mem Sn),H,Z,Z,U⟩
theorem Jc (T:Formula→Int→Option (Int×Int)) (a5:∀(t:Formula) (j:Value) (I:Int) (r:(Int×Int)) (w:World) (g:Sl kN 5 (hp w) j t.Kids),T t I=some r→lF false pg0 204 [vA [vI t.Op,vI t.K,vS t.kL.kO,vS t.kL.Word,j],vI I] w (vT [vI r.1,vI r.2])) (t:Formula) (j:Value) (I:Int) (r:(Int×Int)) (w:World) (g:Sl kN 5 (hp w) j t.Kids) (hm:AA T t I=some r) :
  lF false pg0 204 [vA [vI t.Op,vI t.K,vS t.kL.kO,vS t.kL.Word,j],vI I] w (vT [vI r.1,vI r.2]):=by
 refine cG 40 func204 Z (λd=>sg ?_)
 obtain ⟨A1,c2,rfl⟩:=g.form
 refine VE (lY d Z (λW4 P d=>Wa (Wa (lr (Wa (Wa (lS (Wf pG ?_))))))))
 refine VB d Mh Z Z ei (V (lT aD Z g) (Wm (ln ?_)))
 have d:=d.kM (Db St)
 refine CJ hm (λQ E W=>∃a2,ST false lN w W (hp w) a2∧E 6=vI Q.1∧E 7=vI Q.2) (λQ a4=>?_) ?_
 ·refine mJ 15 14 (λi O E W=>∃y z J,ST false lN w W (hp w) J∧E 1=vI I∧E 6=vI y∧E 7=vI z∧E 13= .slice A1 t.Kids.length c2∧tM I T O y z=some Q) g.len ⟨1,0,_,d.kM,Z,Z,Z,Z,a4⟩ ?_ ?_
  ·rintro s c c3 E W p ⟨⟨h,n⟩,y,z,J,d,G,x,H,K,a⟩
   refine sg (VQ (my (i:=(s:Int)) (x0:=c) kN.out aD aC K h g (aG _) p) λc0 ⟨_,⟨c1,rfl,N⟩,Y⟩=>V (kP Z (lA d.has Y aR aC)) (VE (lq d aU λR b9 d=>?_)))
   obtain ⟨B,D,rfl⟩:=N.form
   let a0:=C1 c.Op c.K c.kL.kO c.kL.Word B c.Kids.length D
   refine VO (FA a0.toArray d aC λb6 d=>lS (Wh x (Wh G (Wi Z (ln (CI a Z (λU a=>?_) λU a=>?_))))))
   ·refine nB (nv (UP fb (nv (ry (kW ?_)))))
    cases sj a
    exact ⟨_,d.kM (Db St),x,H⟩
   refine kg (VA d Mh a0 aR aC (Wh G (Wh x (Wi Z (bS a λM o a=>VE (Eg d call204 (a5 c (.slice B c.Kids.length D) (wi0 .i64 (I-y)) _ _ (N.mono lc.mono d.lb) o) λb7 d=>Wm (Wx Z (Wx Z (Wa (Wa ?_))))))))))
   refine ln ?_
   have d:=d.kM (Db St)
   exact kX (Wh x (Wm (Wi Z (Wh H (Wm (V (Wr (k:=.i64) Z Z) (Wa (Wa (lC (lD (kW ⟨h,n,wi0 .i64 (y+M.1),(if M.2 > z then M.2 else z),_,d.kM,G,Z,Z,K,a⟩)))))))))))
  rintro E W ⟨⟨h,n⟩,y,z,J,d,G,x,H,K,a⟩
  refine kW ?_
  cases sj a
  exact ⟨_,d.kM,x,H⟩
 rintro ⟨A,L⟩ E W ⟨a2,d,a9,q⟩ a3
 refine sg (Wh a9 (Wh q (Wi Z (Wa (Wa (lt ?_))))))
 cases sj a3
 exact zh (v:=vI A) (u:=vI (wi0 .i64 (L+1))) Z Z Z ⟨Z,d.ex⟩
theorem Ha:∀(n:Nat) (c:Formula) (a:Value) (i:Int) (r:(Int×Int)) (w:World) (g:Sl kN 5 (hp w) a c.Kids) (_:sd n c i=some r),
  lF false pg0 204 [vA [vI c.Op,vI c.K,vS c.kL.kO,vS c.kL.Word,a],vI i] w (vT [vI r.1,vI r.2])
 | 0=>by intros; rename_i h; simp only [sd] at h; cases h
 | n+1=>Jc (sd n) (Ha n)
theorem Od {r:(Int×Int)} (c:Sl kN 5 (hp qa) q0 qx.Kids) (hm:BY qx=some r) :
  lF false pg0 181 [vA [vI qx.Op,vI qx.K,vS qx.kL.kO,vS qx.kL.Word,q0]] qa (vT [vI r.1,vI r.2]):=by
 refine cG 15 func181 Z (λa=>sg ?_)
 obtain ⟨i,j,rfl⟩:=c.form
 refine VE (lY a Z (λy B a=>Wa (Wa (lr (VA a Mh (C1 qx.Op qx.K qx.kL.kO qx.kL.Word i qx.Kids.length j) aR aC (bS hm λx t hm=>VE (Eg a call204 ((Ha lP) qx (.slice i qx.Kids.length j) 4096 _ _ (c.mono lc.mono a.lb) t) λz a=>Wm (Wx Z (Wx Z (Wa (Wa ?_)))))))))))
 refine ln ?_
 have a:=a.kM (Db St)
 refine kY (sg (Wm (Wi Z (ln (CI hm Z (λk hm=>?_) λk hm=>?_)))))
 ·refine sg (Wa (Wa (lt (ly ?_))))
  cases sj hm
  exact zh (v:=vI 0) (u:=vI 0) Z Z Z ⟨Z,a.ex⟩
 refine kg (Wm (Wm (Wa (Wa (lt ?_)))))
 cases sj hm
 exact zh (v:=vI x.1) (u:=vI x.2) Z Z Z ⟨Z,a.ex⟩
theorem N7 (t:Sl kN 5 (hp qa) q0 qx.Kids) (hm:BW qx=some qt) :
  lF true pg0 205 [vA [vI qx.Op,vI qx.K,vS qx.kL.kO,vS qx.kL.Word,q0]] qa (vB qt):=by
 refine cG 63 func205 Z (λa=>sg ?_)
 obtain ⟨A1,c2,rfl⟩:=t.form
 let o:=C1 qx.Op qx.K qx.kL.kO qx.kL.Word A1 qx.Kids.length c2
 refine VE (lY a Z (λW4 N a=>Wa (lr (V (lX (v:=vA (kR K0)) oP (lG cY dl (Kc _ dl) kr)) (VE (lq a cY λW6 L a=>VO (FA (h1:=oQ K0) ((kR K0).toArray) a aI λW7 a=>lS (Wf pD ?_))))))))
 refine VB a (Mt Mh) Z Z bH (ln (bg (Wi Z (Wa (ln (CI hm Z (λd9 hm=>?_) λd9 hm=>?_))))))
 ·refine sg (Wf yB (VA a (Mt Mh) (kR qx.kL) bE aI (bS hm λf7 e5 hm=>VE (Eg a kl (xB qx.kL _ _  e5) λf5 a=>Wm (LJ hm (λd2 E W=>∃R,ST true lN qa W (hp qa) ((N,Ol o 62)::R)∧E 1=vP N∧E 2=vB false∧E 17=vB d2) 5 ?_ λd2 J a4=>?_)))))
  ·rintro f8 E W ⟨R,a,e7,c9,e8⟩ e1
   refine Wh e8 (LJ e1 (λd1 E W=>∃c5,ST true lN qa W (hp qa) c5∧E 2=vB false∧E 22=vB d1) 4 ?_ λd1 I a3=>?_)
   ·rintro f9 E W ⟨c5,a,f6,e9⟩ e2
    refine Wg e9 (lt (mG (ly ?_)))
    cases sj e2
    exact rP a
   refine bC I (λu I=>?_) (λu I=>?_)
   ·refine ug u (kU wO e7) (ug u (kP Z (kZ a.has Mh Z bH)) (ug u (lI Z Z Z) (V (lh (cB u) Z) ?_)))
    cases sj I
    exact a3 _ _ ⟨_,a.kM (Db St),c9,Z⟩
   refine un u (un u (un u (V (lg (cB u) Z) ?_)))
   cases sj I
   exact a3 _ _ ⟨_,a.kM (Db St),c9,Z⟩
  refine bC J (λj J=>?_) (λj J=>?_)
  ·refine ug j (kU pG Z) (ug j (kP Z (kZ a.has (Mt Mh) Z ei)) (ug j (lT aD Z t) (ug j (lI Z Z Z) (V (lh (cB j) Z) ?_))))
   cases sj J
   exact a4 _ _ ⟨_,a.kM (Db St),Z,Z,Z⟩
  refine un j (un j (un j (un j (V (lg (cB j) Z) ?_))))
  cases sj J
  exact a4 _ _ ⟨_,a.kM (Db St),Z,Z,Z⟩
 let a0:=(o.toArray:Array Value)
 let d:Value:=vP N
 refine kY (CJ hm (λP E W=>∃c6,ST true lN qa W (hp qa) ((L,Ol (kR K0) 53)::((N,oC a0 62)::c6))∧E 1=d∧E 3=vP L∧E 23=vB P) (λP G=>?_) ?_)
 ·refine sg (Wi Z (Wa (ln (CI G Z (λb9 G=>?_) λb9 G=>?_))))
  ·refine kn ?_
   cases sj G
   exact ⟨_,a.kM,Z,Z,Z⟩
  refine kX (Wi Z (Wa (ln ?_)))
  cases sj G
  exact ⟨_,a.kM,Z,Z,Z⟩
 rintro g0 E W ⟨c6,a,Q,d0,f0⟩ K
 refine CI K f0 (λe0 K=>?_) (λe0 K=>?_)
 ·refine sg (V (kU yB Q) (VA a (Mt Mh) (kR qx.kL) bE aI (V (kP d0 (kV a.has Mh (kR K0) Z bE aI)) (V (wE Z Z (nY dN) (so (rS _ qx.kL K0))) (Wm (LJ K (λd3 E W=>∃c7,ST true lN qa W (hp qa) c7∧E 34=vB d3) 4 ?_ λd3 M a5=>?_))))))
  ·rintro g1 E W ⟨c7,a,f1⟩ e3
   refine Wg f1 (lt (mG (ly ?_)))
   cases sj e3
   exact rP a
  refine bC M (λx M=>?_) (λx M=>?_)
  ·refine ug x (kU wO Q) (ug x (kP Z (kZ a.has (Mt Mh) Z bH)) (ug x (lI Z Z Z) (V (lh (cB x) Z) ?_)))
   cases sj M
   exact a5 _ _ ⟨_,a.kM (Db (Db St)),Z⟩
  refine un x (un x (un x (V (lg (cB x) Z) ?_)))
  cases sj M
  exact a5 _ _ ⟨_,a.kM (Db (Db St)),Z⟩
 refine lU (lD (kW (sg (V (kU pD Q) (VB a (Mt Mh) Z Z bH (Wi Z (Wm (LJ K (λO E W=>∃c8,ST true lN qa W (hp qa) ((N,oC a0 62)::c8)∧E 1=d∧E 43=vB O) 5 ?_ λO D n=>?_))))))))
 ·rintro g2 E W ⟨c8,a,a2,d4⟩ e4
  refine Wh d4 (LJ e4 (λA E W=>∃p,ST true lN qa W (hp qa) ((N,oC a0 62)::p)∧E 1=d∧E 48=vB A) 4 ?_ λA B h=>?_)
  ·rintro f2 E W ⟨p,a,T,d5⟩ c0
   refine Wh d5 (LJ c0 (λw E W=>∃a9,ST true lN qa W (hp qa) ((N,oC a0 62)::a9)∧E 1=d∧E 56=vB w) 7 ?_ λw z Y=>?_)
   ·rintro f3 E W ⟨a9,a,d6,d7⟩ c1
    refine Wh d7 (LJ c1 (λs E W=>∃q,ST true lN qa W (hp qa) q∧E 62=vB s) 5 ?_ λs y U=>?_)
    ·rintro f4 E W ⟨q,a,d8⟩ c3
     exact Wg d8 (lt (rQ c3 a))
    refine bC y (λg y=>?_) (λg y=>?_)
    ·refine ug g (kU pG d6) (ug g (kP Z (kZ a.has Mh Z ei)) (ug g (lT aD Z t) (ug g (lI Z Z Z) (V (lh (cB g) Z) ?_))))
     cases sj y
     exact U _ _ ⟨_,a.kM (Db St),Z⟩
    refine un g (un g (un g (un g (V (lg (cB g) Z) ?_))))
    cases sj y
    exact U _ _ ⟨_,a.kM (Db St),Z⟩
   refine bC z (λc z=>?_) (λc z=>?_)
   ·refine ug c (kU wO T) (ug c (kP Z (kZ a.has Mh Z bH)) (ug c (kU pG T) (ug c (kP Z (kZ a.has Mh Z ei)) (ug c (lT aD Z t) (ug c (lI Z Z Z) (V (lh (cB c) Z) ?_))))))
    cases sj z
    exact Y _ _ ⟨_,a.kM,T,Z⟩
   refine un c (un c (un c (un c (un c (un c (V (lg (cB c) Z) ?_))))))
   cases sj z
   exact Y _ _ ⟨_,a.kM,T,Z⟩
  refine bC B (λi B=>?_) (λi B=>?_)
  ·refine ug i (kU wO a2) (ug i (kP Z (kZ a.has Mh Z bH)) (ug i (lI Z Z Z) (V (lh (cB i) Z) ?_)))
   cases sj B
   exact h _ _ ⟨_,a.kM,a2,Z⟩
  refine un i (un i (un i (V (lg (cB i) Z) ?_)))
  cases sj B
  exact h _ _ ⟨_,a.kM,a2,Z⟩
 refine bC D (λk D=>?_) (λk D=>?_)
 ·refine ug k (kU yB Q) (ug k (kP Z (kV a.has (Mt Mh) (kR qx.kL) Z bE aI)) (ug k (kP d0 (kV a.has Mh (kR K0) Z bE aI)) (ug k (wE Z Z (nY dN) (so (rS _ qx.kL K0))) (V (lh (cB k) Z) ?_))))
  cases sj D
  exact n _ _ ⟨_,a.kM (Db St),Q,Z⟩
 refine un k (un k (un k (un k (V (lg (cB k) Z) ?_))))
 cases sj D
 exact n _ _ ⟨_,a.kM (Db St),Q,Z⟩
theorem FC {y:Formula→Option Bool} (c:Sl kN 5 (hp qa) q0 qv) (z:Ce pg0 q1 (hp qa) (G4 kN) (λ(qc:Bool)=>vB qc) y) (hm:xU qv y=some qc) :
  lF false pg0 226 [q0,q1] qa (vI qc):=by
 refine cG 19 func226 Z (λd=>sg (Wa (lS (Wm (V (lT aD Z c) (Wm (ln (mJ 8 7 (λi j E W=>∃k,ST false lN qa W (hp qa) k∧E 0=q0∧E 1=q1∧px y j i=some qc) c.len ⟨_,d.kM,Z,Z,hm⟩ ?_ ?_))))))))
 ·rintro K x N E W I ⟨⟨g,h⟩,k,d,t,u,a⟩
  refine sg (Wh g (Wa (lr (Wh u (Wh t (Wm (VQ (my (i:=(K:Int)) (x0:=x) kN.out aD aC Z Z c (aG _) I) λT ⟨_,⟨M,rfl,H⟩,D⟩=>V (kP Z (lA d.has D aR aC)) (bS a λU G a=>VE (CM x d z (lm.refl _) (G4.mk lc (kN.mk ⟨M,Z,H⟩) d.lb) Z (sD Z) G λQ d=>?_)))))))))
  refine ln (CI a Z (λB a=>?_) λB a=>?_)
  ·refine sg (Wm (Wa (lt (mG (ly (mG (ly ?_)))))))
   cases sj a
   exact rP d
  exact lU (lD (kW ⟨g,h,_,d.kM,t,u,a⟩))
 rintro E W ⟨⟨g,h⟩,k,d,t,u,a⟩
 exact kW (sg (Wa (lt (rQ a d))))
theorem zM {i:Formula→Option Bool} (j:Sl kN 5 (hp qa) q0 qv) (k:Ce pg0 q1 (hp qa) (G4 kN) (λ(qt:Bool)=>vB qt) i) (hm:rI qv i=some qt) :
  lF false pg0 206 [q0,q1] qa (vB qt):=by
 refine cG 9 func206 Z (λa=>sg (Wa (lr (Wm (Wm (bS hm λx t hm=>VE (Eg a call226 (FC (j.mono lc.mono a.lb) (k.mono a.lb) t) λu a=>Wi Z (Wa (lC ?_)))))))))
 exact kW (lB (rQ hm a))
theorem JL (i:Formula→Option Bool) (t:∀(c:Formula) (a:Value) (r:Bool) (w:World) (g:Sl kN 5 (hp w) a c.Kids),i c=some r→lF false pg0 182 [vA [vI c.Op,vI c.K,vS c.kL.kO,vS c.kL.Word,a]] w (vB r)) (c:Formula) (a:Value) (r:Bool) (w:World) (g:Sl kN 5 (hp w) a c.Kids) (hm:By i c=some r) :
  lF false pg0 207 [vA [vI c.Op,vI c.K,vS c.kL.kO,vS c.kL.Word,a]] w (vB r):=by
 refine cG 6 func207 Z (λd=>sg ?_)
 obtain ⟨j,k,rfl⟩:=g.form
 refine VE (lY d Z (λx z d=>Wa (lr (VA d Mh (C1 c.Op c.K c.kL.kO c.kL.Word j c.Kids.length k) aR aC (bS hm λB u hm=>VE (Eg d call182 (t c (.slice j c.Kids.length k) _ _ (g.mono lc.mono d.lb) u) λy d=>V (nt Z) (Wa (ln ?_))))))))
 exact lB (rQ hm d)
theorem IC (z:Formula→Option Bool) (T:∀(a:Formula) (g:Value) (r:Bool) (w:World) (c:Sl kN 5 (hp w) g a.Kids),z a=some r→lF false pg0 182 [vA [vI a.Op,vI a.K,vS a.kL.kO,vS a.kL.Word,g]] w (vB r)) (a:Formula) (g:Value) (r:Bool) (w:World) (c:Sl kN 5 (hp w) g a.Kids) (hm:AF z a=some r) :
  lF false pg0 182 [vA [vI a.Op,vI a.K,vS a.kL.kO,vS a.kL.Word,g]] w (vB r):=by
 refine cG 17 func182 Z (λd=>sg ?_)
 obtain ⟨B,D,rfl⟩:=c.form
 let a0:=C1 a.Op a.K a.kL.kO a.kL.Word B a.Kids.length D
 refine VE (lY d Z (λW4 U d=>Wa (lr (VA d Mh a0 aR aC (bS hm λO a3 hm=>VE (Eg d call205 (lF.mF (N7 (c.mono lc.mono d.lb) a3)) λW7 d=>Wm (LJ hm (λK E W=>∃G,ST false lN w W (hp w) ((U,Ol a0 62)::G)∧E 1=vP U∧E 2=vB false∧E 10=vB K) 5 ?_ λK t y=>?_)))))))
 ·rintro P E W ⟨G,d,Y,I,h⟩ M
  refine Wh h (LJ M (λJ E W=>∃H,ST false lN w W (hp w) H∧E 2=vB false∧E 16=vB J) 5 ?_ λJ k u=>?_)
  ·rintro A E W ⟨H,d,s,n⟩ N
   exact Wg n (lt (rQ N d))
  refine bC k (λi k=>?_) (λi k=>?_)
  ·refine ug i (kU pG Y) (ug i (kP Z (kZ d.has Mh Z ei)) (bS k λv Q k=>sh i (Eg d call206 (zM (c.mono lc.mono d.lb) ⟨207,#[],#[],Z,call207,λW x vs r L o hm=>by obtain ⟨_,rfl,a2⟩:=o; obtain ⟨q,rfl,p⟩:=a2.out; exact JL z T x q r W p hm⟩ Q) λa5 d=>ug i (nt Z) (V (lh (cB i) Z) ?_))))
   cases sj k
   exact u _ _ ⟨_,d.kM (Db St),I,Z⟩
  refine un i (un i (un i (un i (V (lg (cB i) Z) ?_))))
  cases sj k
  exact u _ _ ⟨_,d.kM (Db St),I,Z⟩
 refine bC t (λj t=>?_) (λj t=>?_)
 ·refine ug j (kU pG Z) (ug j (kP Z (kZ d.has Mh Z ei)) (ug j (lT aD Z c) (ug j (lI Z Z Z) (V (lh (cB j) Z) ?_))))
  cases sj t
  exact y _ _ ⟨_,d.kM,Z,Z,Z⟩
 refine un j (un j (un j (un j (V (lg (cB j) Z) ?_))))
 cases sj t
 exact y _ _ ⟨_,d.kM,Z,Z,Z⟩
theorem Hk:∀(n:Nat) (c:Formula) (a:Value) (r:Bool) (w:World) (g:Sl kN 5 (hp w) a c.Kids) (_:wi n c=some r),
  lF false pg0 182 [vA [vI c.Op,vI c.K,vS c.kL.kO,vS c.kL.Word,a]] w (vB r)
 | 0=>by intros; rename_i h; simp only [wi] at h; cases h
 | n+1=>IC (wi n) (Hk n)
theorem Bj (c:Sl kN 5 (hp qa) q0 qx.Kids) (hm:wh qx=some qt) :
  lF false pg0 143 [vA [vI qx.Op,vI qx.K,vS qx.kL.kO,vS qx.kL.Word,q0]] qa (vB qt):=by
 refine cG 24 func143 Z (λa=>sg ?_)
 obtain ⟨y,z,rfl⟩:=c.form
 let a0:=C1 qx.Op qx.K qx.kL.kO qx.kL.Word y qx.Kids.length z
 refine VE (lY a Z (λW4 H a=>Wa (lr (VA a Mh a0 aR aC (bS hm λp a9 hm=>VE (Eg a call181 (Od (c.mono lc.mono a.lb) a9) λW7 a=>Wm (Wx Z (Wx Z (Wa (Wa (lC ?_)))))))))))
 refine kW (sg (Wm (Wi Z (Wm (LJ hm (λY E W=>∃I,ST false lN qa W (hp qa) ((H,Ol a0 62)::I)∧E 1=vP H∧E 2=vB false∧E 4=vI p.2∧E 15=vB Y) 3 ?_ λY x G=>?_)))))
 ·rintro L E W ⟨I,a,M,N,a4,a5⟩ d
  refine Wh a5 (LJ d (λU E W=>∃J,ST false lN qa W (hp qa) ((H,Ol a0 62)::J)∧E 1=vP H∧E 2=vB false∧E 19=vB U) 3 ?_ λU u D=>?_)
  ·rintro w E W ⟨J,a,k,Q,n⟩ h
   refine Wh n (LJ h (λT E W=>∃K,ST false lN qa W (hp qa) K∧E 2=vB false∧E 23=vB T) 3 ?_ λT j B=>?_)
   ·rintro A E W ⟨K,a,s,o⟩ a2
    exact Wg o (lt (rQ a2 a))
   refine bC j (λi j=>?_) (λi j=>?_)
   ·refine ug i (kP k (kV a.has Mh a0 Z aR aC)) (bS j λv a3 j=>sh i (Eg a call182 ((Hk lP) qx (.slice y qx.Kids.length z) _ _ (c.mono lc.mono a.lb) a3) λq a=>V (lh (cB i) Z) ?_))
    cases sj j
    exact B _ _ ⟨_,a.kM (Db St),Q,Z⟩
   refine un i (un i (V (lg (cB i) Z) ?_))
   cases sj j
   exact B _ _ ⟨_,a.kM (Db St),Q,Z⟩
  refine bC u (λg u=>?_) (λg u=>?_)
  ·refine ug g (kT a4) (ug g (lI Z Z Z) (V (lh (cB g) Z) ?_))
   cases sj u
   exact D _ _ ⟨_,a.kM,M,N,Z⟩
  refine un g (un g (V (lg (cB g) Z) ?_))
  cases sj u
  exact D _ _ ⟨_,a.kM,M,N,Z⟩
 refine bC x (λt x=>?_) (λt x=>?_)
 ·refine ug t (kT Z) (ug t (lI Z Z Z) (V (lh (cB t) Z) ?_))
  cases sj x
  exact G _ _ ⟨_,a.kM,Z,Z,Z,Z⟩
 refine un t (un t (V (lg (cB t) Z) ?_))
 cases sj x
 exact G _ _ ⟨_,a.kM,Z,Z,Z,Z⟩
theorem EM (c:Sl kN 5 (hp qa) q0 qx.Kids) (hm:yt qx qc=some qt) :
  lF true pg0 234 [vA [vI qx.Op,vI qx.K,vS qx.kL.kO,vS qx.kL.Word,q0],vI qc] qa (vB qt):=by
 refine cG 15 func234 Z (λd=>sg ?_)
 obtain ⟨B,D,rfl⟩:=c.form
 refine VE (lY d Z (λG H d=>Wa (lr (Wf pD (VB d Mh Z Z bH (Wm (Wi Z (Wm (LJ hm (λt E W=>∃u,ST true lN qa W (hp qa) u∧E 4=vB false∧E 14=vB t) 5 ?_ λt j k=>?_)))))))))
 ·rintro J E W ⟨u,d,I,y⟩ z
  exact Wg y (lt (rQ z d))
 refine bC j (λa j=>?_) (λa j=>?_)
 ·refine ug a (kU pG Z) (ug a (kP Z (kZ d.has Mh Z ei)) (ug a (lT aD Z c) (ug a (lI Z Z Z) (V (lh (cB a) Z) ?_))))
  cases sj j
  exact k _ _ ⟨_,d.kM (Db St),Z,Z⟩
 refine un a (un a (un a (un a (V (lg (cB a) Z) ?_))))
 cases sj j
 exact k _ _ ⟨_,d.kM (Db St),Z,Z⟩
theorem MK (i:nN qb [] qa) (hm:D0 =some qx) :
  mq true pg0 235 [] qa qb [] (λv g j=>∃a,v=vA [vI qx.Op,vI qx.K,vS qx.kL.kO,vS qx.kL.Word,a]∧g=[]∧Sl kN 5 j a qx.Kids):=by
 refine ve i 2 func235 Z (λc=>sg (VE (lq c aU λk u c=>lr (V (lX (v:=vA MM) (mB Z) (lG aU bM (yU _ bM) kr)) (VO (FA MM.toArray c aC λt c=>lt ?_))))))
 cases sj hm
 exact mR (v:=vA MM) Z Z (kV c.has Mh MM Z aR aC) ⟨_,_,_,Z,c.lZ Sn,lm.refl _,Lo.refl,ST.lp c (mu.mem Sn),vN,Z,Z,Sl.nil _ _ _⟩
theorem N5 (i:nN qb [] qa) (hm:EE =some qx) :
  mq true pg0 236 [] qa qb [] (λv g j=>∃a,v=vA [vI qx.Op,vI qx.K,vS qx.kL.kO,vS qx.kL.Word,a]∧g=[]∧Sl kN 5 j a qx.Kids):=by
 refine ve i 2 func236 Z (λc=>sg (VE (lq c aU λk u c=>lr (V (lX (v:=vA Lh) (mB Z) (lG aU bM (yU _ bM) kr)) (VO (FA Lh.toArray c aC λt c=>lt ?_))))))
 cases sj hm
 exact mR (v:=vA Lh) Z Z (kV c.has Mh Lh Z aR aC) ⟨_,_,_,Z,c.lZ Sn,lm.refl _,Lo.refl,ST.lp c (mu.mem Sn),vN,Z,Z,Sl.nil _ _ _⟩
theorem PS (M:nN qb [] qa) (I:Sl kN 5 qb q0 qv) (hm:FN qc qv=some qw) :
  mq true pg0 238 [vI qc,q0] qa qb [] (λv L1 μ1=>∃p,v=p∧L1=[]∧Sl kN 5 μ1 p qw):=by
 refine ve M 28 func238 Z (λd=>sg (Wa (lr (Wa (lS (Wm ?_))))))
 refine V (lT aD Z I) (Wm (ln (mJ 10 9 (λi O E W=>∃t G k H,ST true (keys []) qa W qb (k++H)∧E 0=vI qc∧E 5=t∧E 8=q0∧mn 62 kN 5 qb t G k∧uZ qc O G=some qw) I.len ⟨vN,[],[],_,d.kM,Z,Z,Z,mn.nil _ _ _ _,hm⟩ ?_ ?_)))
 ·rintro L a P E W a4 ⟨⟨n,o⟩,t,G,k,H,d,x,y,z,u,c⟩
  refine sg (VQ (my (i:=(L:Int)) (x0:=a) kN.out aD aC z n I (aG _) a4) λc5 ⟨_,⟨c6,rfl,D⟩,a2⟩=>V (kP Z (lA d.has a2 aR aC)) (VE (lq d aU λR c2 d=>?_)))
  obtain ⟨g,j,rfl⟩:=D.form
  let a0:=C1 a.Op a.K a.kL.kO a.kL.Word g a.Kids.length j
  refine VO (FA a0.toArray d aC λb7 d=>lr (Wf pD (VB d Mh Z Z bH (Wh x (Wi Z (ln (CI c Z (λU c=>?_) λU c=>?_)))))))
  ·refine kX (Wh y (Wf pG (VB d Mh Z Z ei ?_)))
   have d:=d.perm (Nr (Qb Qz) Nz)
   refine bS c λw Y c=>VE (sk (B:=k) lc d dc aD ny.1 ny.2.1 Z ny.2.2.1 ny.2.2.2 Z Z u (Br.sl lc D d.lb) Y λb9 a9 a5 d Q=>Wa (lC (lD (kW ?_))))
   have d:=d.kM (Kr (Db St))
   exact ⟨n,o,a9,w,a5,_,d.kM,x,Z,z,Q,c⟩
  refine kX (Wh y (VA d Mh a0 aR aC (VE (lE (cs:=a0.toArray) d (mB Z) (ng aD aC aU) λc0 c3 d=>?_))))
  have d:=d.perm (Nr (Qb (Qb Qz)) Nz)
  refine bS c λA q c=>VE (sk (B:=k) lc d dc aD ny.1 ny.2.1 Z ny.2.2.1 ny.2.2.2 Z Z u (Br.lit lc (l:=[a]) (.cons (ys:=C1 a.Op a.K a.kL.kO a.kL.Word g a.Kids.length j) (kN.mk ⟨.slice g a.Kids.length j,Z,D⟩) .nil) Z nb (d.at_ (Ma Mh))) q λc1 J s d T=>Wa (lC (lD (kW ?_))))
  have d:=d.kM (Kr (Db (Db St)))
  exact ⟨n,o,J,A,s,_,d.kM,x,Z,z,T,c⟩
 rintro E W ⟨⟨n,o⟩,t,G,k,H,d,x,y,z,u,c⟩
 refine kW (sg (Wh y (Wa (lt ?_))))
 cases sj c
 refine ma (v:=t) Z Z ?_
 obtain ⟨c8,d,K,h,a3⟩:=ST.xW lc d u
 exact ⟨_,_,_,Z,d.lZ Sn,K,h,ST.lp d (mu.mem Sn),t,Z,Z,a3⟩
theorem F5 (c:Sl kN 5 (hp qa) q0 qx.Kids) (k:At (hp qa) (vP qk) [vI qc]) (hm:yg qx qc=some qt) :
  lF true pg0 239 [vA [vI qx.Op,vI qx.K,vS qx.kL.kO,vS qx.kL.Word,q0],vP qk] qa (vB qt):=by
 refine cG 7 func239 Z (λa=>sg ?_)
 obtain ⟨t,u,rfl⟩:=c.form
 refine VE (lY a Z (λz D a=>Wa (lr (VA a Mh (C1 qx.Op qx.K qx.kL.kO qx.kL.Word t qx.Kids.length u) aR aC (V (kP Z (rz a.has (y:=vI qc) k bH)) (bS hm λG x hm=>VE (Eg a call234 (EM (c.mono lc.mono a.lb) x) λB a=>Wa (ln ?_))))))))
 exact lB (rQ hm a)
theorem HH (I:nN qb [] qa) (a:Sl kN 5 qb q0 qv) (hm:xm qv=some qw) :
  mq true pg0 245 [q0] qa qb [] (λv G J=>∃z t,v=z∧G=(t++[])∧mn 62 kN 5 J z qw t):=by
 unfold xm at hm
 refine ve I 8 func245 Z (λc=>sg (Wa (lS (Wm ?_))))
 obtain ⟨D,Q,rfl⟩:=a.form
 refine V (Fb aD Z Z) (ln ?_)
 rcases D with _ | M
 ·have y:=a.isNil
  replace hm:some []=some qw:=by rw [y] at hm; simpa [nF,maxLen] using hm
  refine Aw (rfl) (sg (Wa (lt (ly ?_))))
  cases sj hm
  refine ma (v:=vN) Z Z ?_
  have c:=c.aaH
  exact ⟨_,_,_,Z,c.lZ (Kr Sn),lm.refl _,Lo.refl,ST.lp c (mu.mem (Kr Sn)),vN,[],Z,Z,mn.nil _ _ _ _⟩
 ·refine sM (rfl) (kg (VE (lE (cs:=#[]) c oP (EP [] aD aC aU dc Z fb Z Z) λN H c=>Wm (bS hm λT x hm=>VE (sk (B:=[(H,Ob #[] 62)]) lc c dc aD ny.1 ny.2.1 Z ny.2.2.1 ny.2.2.2 Z Z (mn.lit lc (l:=[]) .nil Z nb Z) (Br.sl lc a c.lb) x λK g k c i=>Wa (lt ?_))))))
  cases sj hm
  exact ma (v:=g) Z Z ⟨_,_,_,Z,c.lZ (Kr Sn),lm.refl _,Lo.refl,ST.lp c (mu.mem (Kr Sn)),g,k,Z,Z,i⟩
theorem xj (h0:nN qb (qf++[]) qa) (h4:mn 62 kN 5 qb q0 qv qf) (h5:Ce pg0 q1 qb (zH kN kN) (λ(qw:Int)=>vI qw) qZ) (hm:oX qv qc qd qZ=some qw) :
  mq false pg0 264 [q0,vI qc,vI qd,q1] qa qb (qf++[]) (λv L1 μ1=>∃S1,v=vT []∧L1=(S1++[])∧mn 62 kN 5 μ1 q0 qw S1):=by
 refine ve h0 53 func264 Z (λn=>sg (Wm (Wi Z (Wa (ln (tW (mA (nQ (λm E W=>∃Y J x c9,ST false (keys (qf++[])) qa W qb (J++c9)∧E 0=q0∧E 1=vI qc∧E 2=vI qd∧E 3=q1∧E 8=vI x∧mn 62 kN 5 qb q0 Y J∧nl qd qc qZ m Y x=some qw) lP ⟨qv,qf,wi0 .i64 (qc+1),_,n.kM,Z,Z,Z,Z,Z,h4,hm⟩ ?_))))))))
 rintro m E W ⟨Y,J,x,c9,n,f9,g0,d1,g1,y,c6,u⟩
 cases m with
 | zero=>rw [nl] at u; cases u
 | succ h2=>
  refine kY (sg (Wh y (Wh d1 (Wi Z (ln (CI u Z (λe9 u=>?_) λe9 u=>?_))))))
  ·refine kn (kY (bg (Wh y (Wa (ln (tW (CJ u (λA E W=>∃U d0,ST false (keys (qf++[])) qa W qb (U++d0)∧E 0=q0∧E 1=vI qc∧E 2=vI qd∧E 3=q1∧E 8=vI x∧mn 62 kN 5 qb q0 A U) (λA f1=>?_) ?_)))))))
   ·refine mA (nQ (λm E W=>∃M B j b7,ST false (keys (qf++[])) qa W qb (B++b7)∧E 0=q0∧E 1=vI qc∧E 2=vI qd∧E 3=q1∧E 8=vI x∧E 9=vI j∧mn 62 kN 5 qb q0 M B∧nx qc qZ m M j=some A) lP ⟨Y,J,x,_,n.kM,f9,g0,d1,g1,y,Z,c6,f1⟩ ?_)
    rintro m E W ⟨M,B,j,b7,n,K,w,c0,a3,c1,G,t,I⟩
    cases m with
    | zero=>rw [nx] at I; cases I
    | succ f4=>
     refine kY (kY ?_)
     have n:=n.drew
     have d:=n.has.kM (Kr Sn)
     refine mh d lM (X 0 Z d (kT G) (X 1 Z d (kT w) (X 2 Z d (lI Z Z Z) (X 3 Z d (kT Z) (PJ I (λc7 E W=>∃b9,ST false (keys (qf++[])) qa W qb (B++b9)∧E 0=q0∧E 1=vI qc∧E 2=vI qd∧E 3=q1∧E 8=vI x∧E 9=vI j∧E 34=vB c7) (bm 17 131071) 0 ?_ λc7 g a4=>?_)))))
     ·rintro k2 E W ⟨b9,n,z,c2,c3,c4,c5,H,e8⟩ c
      have d:=n.has.kM (Kr Sn)
      refine ml kr (kW (CI c e8 (λd3 c=>?_) λd3 c=>?_))
      ·refine kn (kY (mA ?_))
       have n:=n.drew
       have d:=n.has.kM Sn
       have p:=n.has.kM (Kr Sn)
       refine vh 15 d p lM (nZ 0 Z d p (kT z) (nZ 1 Z d p (kT H) (nZ 2 Z d p (kT z) (nZ 3 Z d p (kT H) (nZ 4 Z d p (lI Z Z Z) (nZ 5 Z d p (kT z) (nZ 6 Z d p (kT H) (nZ 7 Z d p (lI Z Z Z) (bS c λa5 P c=>vq 8 Z kr (.inl Z) Z dc (λ_ _ h=>⟨h.1,xI br h.2⟩) ⟨d,λ_=>p⟩ (ni (i:=wi0 .i64 (j-1)) kN.out aD aC Z Z t (lR P) (lK P)) λi9 ⟨_,⟨j8,rfl,O⟩,d6,h6⟩=>Fo 9 Z d p (λq=>kP Z (lA (oe.hp _) (d6.mono (nI λb o s=>q.2 b o (Ml s))) aR aC)) (nZ 10 Z d p (kT z) (nZ 11 Z d p (kT H) (bS c λk R c=>?_))))))))))))
       refine vq 12 Z kr (.inl Z) Z dc (λ_ _ h=>⟨h.1,xI br h.2⟩) ⟨d,λ_=>p⟩ (ni (i:=j) kN.out aD aC Z Z t (lR R) (lK R)) (λj0 ⟨_,⟨j9,rfl,a9⟩,d7,h7⟩=>Fo 13 Z d p (λq=>kP Z (lA (oe.hp _) (d7.mono (nI λb o s=>q.2 b o (Ml s))) aR aC)) (bS c λk3 N c=>vq 14 Z kr (.inl Z) Z dc (λ_ _ h=>⟨h.1,xI br h.2⟩) ⟨d,λ_=>p⟩ (ni (i:=j) kN.out aD aC Z Z t (lR N) (lK N)) λj3 ⟨_,⟨k0,rfl,i2⟩,i0,d4⟩=>?_))
       obtain ⟨e3,e6,rfl⟩:=O.form
       refine XO 15 Z (vw (x1:=a5) lc n t Z Z (kN.mk ⟨.slice e3 a5.Kids.length e6,Z,O⟩) d4 (lK N) aC λi6 i4 n L=>?_)
       have d:=n.has.kM Sn
       refine ⟨⟨d,λh=>yF kr h⟩,bS c λk4 Q c=>vq 16 Z kr (.inl Z) Z dc (λ_ _ h=>⟨h.1,xI br h.2⟩) ⟨d,λh=>yF kr h⟩ (ni (i:=wi0 .i64 (j-1)) kN.out aD aC Z Z L (lR Q) (lK Q)) λj4 ⟨_,⟨k1,rfl,i3⟩,i1,d5⟩=>?_⟩
       obtain ⟨e4,e7,rfl⟩:=a9.form
       refine XO 17 Z (vw (x1:=(⟨k.Op,k.K,k.kL,k.Kids⟩:Formula)) lc n L Z Z (kN.mk ⟨.slice e4 k.Kids.length e7,Z,a9⟩) d5 (lK Q) aC λi7 e5 n d2=>?_)
       have d:=n.has.kM Sn
       exact ⟨⟨d,λh=>yF kr h⟩,ml kr (lD (kW (kX (Wh H (Wi Z (Wa (ln ⟨f4,bB _,(M.set (Int.toNat j) a5).set (Int.toNat (wi0 .i64 (j-1))) (⟨k.Op,k.K,k.kL,k.Kids⟩:Formula),e5,wi0 .i64 (j-1),_,n.kM,z,c2,c3,c4,c5,Z,d2,c⟩)))))))⟩
      refine nB (nv (nv (ry (kW ?_))))
      cases sj c
      exact ⟨B,_,n.kM,z,c2,c3,c4,c5,t⟩
     refine bC g (λa g=>?_) (λa g=>?_)
     ·refine Xg 4 Z Z (cB a) d (kT a3) (Xg 5 Z Z (cB a) d (kT K) (Xg 6 Z Z (cB a) d (kT G) (bS g λf7 T g=>vq 7 Z kr (.inr ⟨3,true,21,Z,Z,fs,cB a⟩) Z dc (λ_ _ h=>h) d (ni (i:=j) kN.out aD aC Z Z t (lR T) (lK T)) λj5 ⟨_,⟨f5,rfl,e1⟩,d8,h8⟩=>uq 8 Z Z (cB a) d (λ_ q=>kP Z (lA (oe.hp _) (d8.mono (nI λb o s=>q.2 b o (Ml s))) aR aC)) (Xg 9 Z Z (cB a) d (kT K) (Xg 10 Z Z (cB a) d (kT G) (Xg 11 Z Z (cB a) d (lI Z Z Z) (bS g λf8 b3 g=>vq 12 Z kr (.inr ⟨3,true,21,Z,Z,fs,cB a⟩) Z dc (λ_ _ h=>h) d (ni (i:=wi0 .i64 (j-1)) kN.out aD aC Z Z t (lR b3) (lK b3)) λj6 ⟨_,⟨f6,rfl,e2⟩,d9,h9⟩=>uq 13 Z Z (cB a) d (λ_ q=>kP Z (lA (oe.hp _) (d9.mono (nI λb o s=>q.2 b o (Ml s))) aR aC)) (bS g λj7 e0 g=>Al 14 Z Z (cB a) (CM (f7,f8) n h5 (lm.refl _) (zH.mk lc lc (kN.mk ⟨f5,Z,e1⟩) (kN.mk ⟨f6,Z,e2⟩) n.lb) Z (pj Z Z) e0 λi8 n=>?_)))))))))
      have d:=n.has.kM (Kr Sn)
      refine ⟨d,Xg 15 Z Z (cB a) d (lI Z Z Z) (X 16 Z d (lh (cB a) Z) ?_)⟩
      cases sj g
      refine nr kr (a4 _ _ ⟨_,n.kM,K,w,c0,a3,c1,G,Z⟩)
     refine Xn 4 Z Z (cB a) d (Xn 5 Z Z (cB a) d (Xn 6 Z Z (cB a) d (Xn 7 Z Z (cB a) d (Xn 8 Z Z (cB a) d (Xn 9 Z Z (cB a) d (Xn 10 Z Z (cB a) d (Xn 11 Z Z (cB a) d (Xn 12 Z Z (cB a) d (Xn 13 Z Z (cB a) d (Xn 14 Z Z (cB a) d (Xn 15 Z Z (cB a) d (X 16 Z d (lg (cB a) Z) ?_))))))))))))
     cases sj g
     refine nr kr (a4 _ _ ⟨_,n.kM,K,w,c0,a3,c1,G,Z⟩)
   rintro h1 E W ⟨U,d0,n,g2,g3,g4,g7,g8,f2⟩ f0
   exact lD (kW (kX (Wh g8 (Wi Z (Wa (ln ⟨h2,bB _,h1,U,wi0 .i64 (x+1),_,n.kM,g2,g3,g4,g7,Z,f2,f0⟩))))))
  refine nB (nv (nv (ry (kW (te ?_)))))
  cases sj u
  exact rK Z ⟨_,_,_,Z,n.lZ (Kr Sn),lm.refl _,Lo.refl,ST.lp n (mu.mem (Kr Sn)),J,Z,Z,c6⟩
theorem uH (h0:nN qb (qf++[]) qa) (c0:mn 62 kN 5 qb q0 qv qf) (d5:Ce pg0 q1 qb (zH kN kN) (λ(qw:Int)=>vI qw) qZ) (hm:oS qv qc qd qe qZ=some qw) :
  mq true pg0 270 [q0,vI qc,vI qd,vI qe,q1] qa qb (qf++[]) (λv L1 μ1=>∃S1,v=vT []∧L1=(S1++[])∧mn 62 kN 5 μ1 q0 qw S1):=by
 refine ve h0 38 func270 Z (λp=>sg (Wa (ln (tW (mA (nQ (λm E W=>∃D y c t,ST true (keys (qf++[])) qa W qb (y++t)∧E 0=q0∧E 1=vI qc∧E 2=vI qd∧E 3=vI qe∧E 10=vI c∧mn 62 kN 5 qb q0 D y∧nP qe qd qc m D c=some qw) lP ⟨qv,qf,0,_,p.kM,Z,Z,Z,Z,Z,c0,hm⟩ ?_))))))
 rintro m E W ⟨D,y,c,t,p,u,I,J,a4,k,j,a⟩
 cases m with
 | zero=>rw [nP] at a; cases a
 | succ c1=>
  refine kY (sg (Wh k (Wh a4 (Wi Z (ln (CI a Z (λA a=>?_) λA a=>?_))))))
  ·refine kn (kY (mA ?_))
   have p:=p.drew
   have d:=p.has.kM Sn
   have n:=p.has.kM (Kr Sn)
   refine vh 21 d n lM (nZ 0 Z d n (kT u) (nZ 1 Z d n (kT I) (nZ 2 Z d n (kT k) (nZ 3 Z d n (lI Z Z Z) (nZ 4 Z d n (kT u) (nZ 5 Z d n (kT J) (nZ 6 Z d n (kT k) (nZ 7 Z d n (lI Z Z Z) (nZ 8 Z d n (kT u) (nZ 9 Z d n (kT J) (nZ 10 Z d n (kT k) (nZ 11 Z d n (lI Z Z Z) (bS a λK T a=>vq 12 Z kr (.inl Z) Z dc (λ_ _ h=>⟨h.1,xI br h.2⟩) ⟨d,λ_=>n⟩ (ni (i:=wi0 .i64 (qd+c)) kN.out aD aC Z Z j (lR T) (lK T)) λd6 ⟨_,⟨e0,rfl,N⟩,L,c4⟩=>?_)))))))))))))
   refine Fo 13 Z d n (λq=>kP Z (lA (oe.hp _) (L.mono (nI λb o s=>q.2 b o (Ml s))) aR aC)) (nZ 14 Z d n (kT u) (nZ 15 Z d n (kT I) (nZ 16 Z d n (kT k) (nZ 17 Z d n (lI Z Z Z) (bS a λg U a=>vq 18 Z kr (.inl Z) Z dc (λ_ _ h=>⟨h.1,xI br h.2⟩) ⟨d,λ_=>n⟩ (ni (i:=wi0 .i64 (qc+c)) kN.out aD aC Z Z j (lR U) (lK U)) λd7 ⟨_,⟨e1,rfl,Q⟩,O,c5⟩=>Fo 19 Z d n (λq=>kP Z (lA (oe.hp _) (O.mono (nI λb o s=>q.2 b o (Ml s))) aR aC)) (bS a λe5 z a=>vq 20 Z kr (.inl Z) Z dc (λ_ _ h=>⟨h.1,xI br h.2⟩) ⟨d,λ_=>n⟩ (ni (i:=wi0 .i64 (qc+c)) kN.out aD aC Z Z j (lR z) (lK z)) λd8 ⟨_,⟨e2,rfl,c8⟩,c6,a9⟩=>?_))))))
   let w:=(⟨g.Op,g.K,g.kL,g.Kids⟩:Formula)
   obtain ⟨P,b7,rfl⟩:=N.form
   refine XO 21 Z (vw (x1:=K) lc p j Z Z (kN.mk ⟨.slice P K.Kids.length b7,Z,N⟩) a9 (lK z) aC λd2 d1 p M=>?_)
   have d:=p.has.kM Sn
   refine ⟨⟨d,λh=>yF kr h⟩,bS a λe6 B a=>vq 22 Z kr (.inl Z) Z dc (λ_ _ h=>⟨h.1,xI br h.2⟩) ⟨d,λh=>yF kr h⟩ (ni (i:=wi0 .i64 (qd+c)) kN.out aD aC Z Z M (lR B) (lK B)) λd9 ⟨_,⟨e3,rfl,c9⟩,c7,G⟩=>?_⟩
   obtain ⟨R,b9,rfl⟩:=Q.form
   refine XO 23 Z (vw (x1:=w) lc p M Z Z (kN.mk ⟨.slice R g.Kids.length b9,Z,Q⟩) G (lK B) aC λd3 Y p x=>?_)
   have d:=p.has.kM Sn
   exact ⟨⟨d,λh=>yF kr h⟩,ml kr (lD (kW (kX (Wh k (Wi Z (Wa (ln ⟨c1,bB _,(D.set (Int.toNat (wi0 .i64 (qc+c))) K).set (Int.toNat (wi0 .i64 (qd+c))) w,Y,wi0 .i64 (c+1),_,p.kM,u,I,J,a4,Z,x,a⟩)))))))⟩
  refine nB (nv (nv (ry (kW (te ?_)))))
  cases sj a
  exact rK Z ⟨_,_,_,Z,p.lZ (Kr Sn),lm.refl _,Lo.refl,ST.lp p (mu.mem (Kr Sn)),y,Z,Z,j⟩
theorem DO (h0:nN qb (qf++[]) qa) (c5:mn 62 kN 5 qb q0 qv qf) (Q:Ce pg0 q1 qb (zH kN kN) (λ(qw:Int)=>vI qw) qZ) (hm:oO qv qc qd qe qZ=some qw) :
  mq true pg0 268 [q0,vI qc,vI qd,vI qe,q1] qa qb (qf++[]) (λv L1 μ1=>∃S1,v=vT []∧L1=(S1++[])∧mn 62 kN 5 μ1 q0 qw S1):=by
 refine ve h0 58 func268 Z (λd=>sg (Wm (Wm (Wi Z (Wa (lr (Wm (Wm (Wi Z (Wa ?_))))))))))
 refine ln (kY (mA (nQ (λm E W=>∃z x c t I Y,lm qb I∧Lo (keys (qf++[])) qa qb I∧ST true (keys (qf++[])) qa W I (x++Y)∧E 0=q0∧E 2=vI qd∧E 4=q1∧E 10=vI c∧E 11=vI t∧mn 62 kN 5 I q0 z x∧ot qd qZ m z c t=some qw) lP ⟨qv,qf,wi0 .i64 (qd-qc),wi0 .i64 (qe-qd),qb,_,lm.refl _,Lo.refl,d.kM,Z,Z,Z,Z,Z,c5,hm⟩ ?_)))
 rintro m E W ⟨z,x,c,t,I,Y,i,h,d,G,j,H,g,u,J,a⟩
 let a2:=wi0 .i64 (qd-c)
 cases m with
 | zero=>rw [ot] at a; cases a
 | succ q=>
  refine kY (sg (Wh g (Wh u (Wi Z (ln (CI a Z (λw a=>?_) λw a=>?_))))))
  ·refine kn (bg (Wh g (Wh u (Wi Z (ln (CI a Z (λy a=>?_) λy a=>?_))))))
   ·refine sg (Wh G (Wh j (Wh g (Wi Z (Wh j (Wh u (Wh H (bS a λc6 A a=>?_))))))))
    refine VE (eD d (Cr Qz Cn) call270 (λp=>uH p J (Q.mono i) A) ?_)
    rintro _ e0 c8 d2 d s k ⟨U,K,rfl,P⟩
    cases K
    have d:=d.perm (Tr Tn)
    exact ln (kX (Wh g (Wh u (Wi Z (Wa (lC (lD (kW ⟨q,bB _,c6,U,wi0 .i64 (c-t),t,c8,_,i.trans s,h.trans k,d.kM,G,j,H,Z,u,P,a⟩))))))))
   refine sg (Wh G (Wh j (Wh g (Wi Z (Wh j (Wh u (Wi Z (Wh g (Wi Z (Wh g (Wh H (bS a λc7 L a=>?_))))))))))))
   refine VE (eD d (Cr Qz Cn) call270 (λp=>uH p J (Q.mono i) L) ?_)
   rintro _ e1 c9 d3 d a4 n ⟨c0,M,rfl,R⟩
   cases M
   have d:=d.perm (Tr Tn)
   exact ln (kX (Wh u (Wh g (Wi Z (Wa (lC (lD (kW ⟨q,bB _,c7,c0,c,wi0 .i64 (t-c),c9,_,i.trans a4,h.trans n,d.kM,G,j,H,g,Z,R,a⟩))))))))
  refine nB (nv (nv (ry (kW (kX (Wh G (Wh j (Wh g (Wi Z (Wh j (Wh g (Wh H (bS a λd9 O a=>?_)))))))))))))
  refine VE (eD d (Cr Qz Cn) call270 (λp=>uH p J (Q.mono i) O) ?_)
  rintro _ e2 e4 d4 d a5 o ⟨c1,N,rfl,T⟩
  cases N
  have d:=d.perm (Tr Tn)
  refine lC (te ?_)
  cases sj a
  exact rK Z ⟨_,_,_,Z,d.lZ (Kr Sn),i.trans a5,h.trans o,ST.lp d (mu.mem (Kr Sn)),c1,Z,Z,T⟩
set_option maxHeartbeats 4000000 in
theorem Bu (t6:(List Formula)→Int→Int→Int→((Formula×Formula)→Option Int)→Option (List Formula)) (s6:∀(t:Value) (a0:List Formula) (c:LO) (z:Int) (M:Int) (B:Int) (D:Value) (f4:(Formula×Formula)→Option Int) (r:List Formula) (w:World) {U:mc} (h0:nN U (c++[]) w) (a5:mn 62 kN 5 U t a0 c) (c6:Ce pg0 D U (zH kN kN) (λ(r:Int)=>vI r) f4),t6 a0 z M B f4=some r→mq false pg0 265 [t,vI z,vI M,vI B,D] w U (c++[]) λv L1 μ1=>∃S1,v=vT []∧L1=(S1++[])∧mn 62 kN 5 μ1 t r S1) (t:Value) (a0:List Formula) (c:LO) (z M B:Int) (D:Value) (f4:(Formula×Formula)→Option Int) (r:List Formula) (w:World) {U:mc} (h0:nN U (c++[]) w) (a5:mn 62 kN 5 U t a0 c) (c6:Ce pg0 D U (zH kN kN) (λ(r:Int)=>vI r) f4) (hm:tf t6 a0 z M B f4=some r) :
  mq false pg0 265 [t,vI z,vI M,vI B,D] w U (c++[]) (λv L1 μ1=>∃S1,v=vT []∧L1=(S1++[])∧mn 62 kN 5 μ1 t r S1):=by
 refine ve h0 220 func265 Z (λd=>kY (sg (Wm (Wm (Wi Z (Wi Z (ln (CI hm Z (λae hm=>?_) λae hm=>?_))))))))
 ·refine sg (Wm (Wa (lr (Wm (Wa (ln (kY (mA (nQ (λm E W=>∃T a9 o3,ST false (keys (c++[])) w W U (c++o3)∧E 0=t∧E 1=vI z∧E 4=D∧E 10=vI T∧E 11=vI a9∧mZ a0 z f4 m T a9=some r) lP ⟨M,B,_,d.kM,Z,Z,Z,Z,Z,hm⟩ ?_)))))))))
  rintro m E W ⟨T,a9,o3,d,e4,h8,k3,h9,k4,y⟩
  cases m with
  | zero=>rw [mZ] at y; cases y
  | succ t5=>
   refine kY (sg (Wh h9 (Wh k4 (Wi Z (ln (CI y Z (λw9 y=>?_) λw9 y=>?_))))))
   ·refine kn (bg (Wh h9 (Wh k4 (Wi Z (V (pt (k':=.i64) (a:=wi0 .i64 (T+a9)) ed fI Z) (V (I5 (a:=IntKind.u64.wrap (wi0 .i64 (T+a9))) (b:=1) Z Z dc) (V (pt (k':=.u64) (a:=Int.fdiv (IntKind.u64.wrap (wi0 .i64 (T+a9))) (2 ^ min (Int.toNat 1) (IntKind.bits .u64))) fI ed Z) (Wa (ln (kY ?_))))))))))
    let e3:=Int.fdiv (IntKind.u64.wrap (wi0 .i64 (T+a9))) (2 ^ min (Int.toNat 1) (IntKind.bits .u64))
    have d:=d.drew
    have n:=d.has.kM (Kr Sn)
    refine mh n lM (X 0 Z n (kT k3) (X 1 Z n (kT e4) (X 2 Z n (kT Z) (bS y λaa n1 y=>XQ 3 Z n (ni (i:=wi0 .i64 e3) kN.out aD aC Z Z a5 (lR n1) (lK n1)) λdi ⟨_,⟨z7,rfl,x7⟩,x4,bp⟩=>XH 4 Z n (λ_ s=>kP Z (lA (oe.hp _) (x4.mono (nI λb o A=>s.2 b o (Ml A))) aR aC)) (X 5 Z n (kT e4) (X 6 Z n (kT h8) (bS y λab n2 y=>XQ 7 Z n (ni (i:=z) kN.out aD aC Z Z a5 (lR n2) (lK n2)) λdj ⟨_,⟨z8,rfl,x8⟩,x5,bq⟩=>XH 8 Z n (λ_ s=>kP Z (lA (oe.hp _) (x5.mono (nI λb o A=>s.2 b o (Ml A))) aR aC)) (bS y λdk x6 y=>XE 9 Z (CM (aa,ab) d c6 (lm.refl _) (zH.mk lc lc (kN.mk ⟨z7,Z,x7⟩) (kN.mk ⟨z8,Z,x8⟩) d.lb) Z (pj Z Z) x6 λdg d=>?_)))))))))
    have n:=d.has.kM (Kr Sn)
    refine ⟨n,X 10 Z n (lI Z Z Z) (ml kr (kW (CI y Z (λx0 y=>?_) λx0 y=>?_)))⟩
    ·exact kX (Wm (Wi Z (Wa (lC (lD (kW ⟨t5,bB _,wi0 .i64 ((wi0 .i64 e3)+1),a9,_,d.kM,e4,h8,k3,Z,k4,y⟩))))))
    exact kX (Wm (Wa (lC (lD (kW ⟨t5,bB _,T,wi0 .i64 e3,_,d.kM,e4,h8,k3,h9,Z,y⟩)))))
   refine nB (nv (nv (ry (kW (kY (sg (Wh h8 (Wa (ln (CJ y (λk5 E W=>∃f7 o4,ST false (keys (c++[])) w W U (f7++o4)∧mn 62 kN 5 U t k5 f7) (λk5 x3=>?_) ?_))))))))))
   ·refine mA (nQ (λm E W=>∃i0 f8 R k6,ST false (keys (c++[])) w W U (f8++k6)∧E 0=t∧E 10=vI T∧E 13=vI R∧mn 62 kN 5 U t i0 f8∧nX T m i0 R=some k5) lP ⟨a0,c,z,_,d.kM,e4,h9,Z,a5,x3⟩ ?_)
    rintro m E W ⟨i0,f8,R,k6,d,c7,l7,c0,d1,u⟩
    cases m with
    | zero=>rw [nX] at u; cases u
    | succ y2=>
     refine kY (sg (Wh c0 (Wh l7 (Wi Z (Wi Z (ln (CI u Z (λp1 u=>?_) λp1 u=>?_)))))))
     ·refine kn (kY (mA ?_))
      have d:=d.drew
      have n:=d.has.kM Sn
      have p:=d.has.kM (Kr Sn)
      refine vh 15 n p lM (nZ 0 Z n p (kT c7) (nZ 1 Z n p (kT c0) (nZ 2 Z n p (kT c7) (nZ 3 Z n p (kT c0) (nZ 4 Z n p (lI Z Z Z) (nZ 5 Z n p (kT c7) (nZ 6 Z n p (kT c0) (nZ 7 Z n p (lI Z Z Z) (bS u λi3 j5 u=>vq 8 Z kr (.inl Z) Z dc (λ_ _ h=>⟨h.1,xI (by rfl) h.2⟩) ⟨n,λ_=>p⟩ (ni (i:=wi0 .i64 (R+1)) kN.out aD aC Z Z d1 (lR j5) (lK j5)) λbt ⟨_,⟨cl,rfl,i7⟩,r3,af⟩=>Fo 9 Z n p (λs=>kP Z (lA (oe.hp _) (r3.mono (nI λb o A=>s.2 b o (Ml A))) aR aC)) (nZ 10 Z n p (kT c7) (nZ 11 Z n p (kT c0) (bS u λY j6 u=>?_))))))))))))
      refine vq 12 Z kr (.inl Z) Z dc (λ_ _ h=>⟨h.1,xI (by rfl) h.2⟩) ⟨n,λ_=>p⟩ (ni (i:=R) kN.out aD aC Z Z d1 (lR j6) (lK j6)) (λbu ⟨_,⟨cm,rfl,i8⟩,r4,ag⟩=>Fo 13 Z n p (λs=>kP Z (lA (oe.hp _) (r4.mono (nI λb o A=>s.2 b o (Ml A))) aR aC)) (bS u λcw e9 u=>vq 14 Z kr (.inl Z) Z dc (λ_ _ h=>⟨h.1,xI (by rfl) h.2⟩) ⟨n,λ_=>p⟩ (ni (i:=R) kN.out aD aC Z Z d1 (lR e9) (lK e9)) λbv ⟨_,⟨cn,rfl,ar⟩,an,cS⟩=>?_))
      obtain ⟨t7,u6,rfl⟩:=i7.form
      refine XO 15 Z (vw (x1:=i3) lc d d1 Z Z (kN.mk ⟨.slice t7 i3.Kids.length u6,Z,i7⟩) cS (lK e9) aC λbe bc d i5=>?_)
      have n:=d.has.kM Sn
      refine ⟨⟨n,λh=>yF kr h⟩,bS u λcx f0 u=>vq 16 Z kr (.inl Z) Z dc (λ_ _ h=>⟨h.1,xI (by rfl) h.2⟩) ⟨n,λh=>yF kr h⟩ (ni (i:=wi0 .i64 (R+1)) kN.out aD aC Z Z i5 (lR f0) (lK f0)) λbw ⟨_,⟨co,rfl,au⟩,ao,ds⟩=>?_⟩
      obtain ⟨t8,u7,rfl⟩:=i8.form
      refine XO 17 Z (vw (x1:=(⟨Y.Op,Y.K,Y.kL,Y.Kids⟩:Formula)) lc d i5 Z Z (kN.mk ⟨.slice t8 Y.Kids.length u7,Z,i8⟩) ds (lK f0) aC λbf u1 d o9=>?_)
      have n:=d.has.kM Sn
      exact ⟨⟨n,λh=>yF kr h⟩,ml kr (lD (kW (kX (Wh c0 (Wi Z (Wa (ln ⟨y2,bB _,(i0.set (Int.toNat R) i3).set (Int.toNat (wi0 .i64 (R+1))) (⟨Y.Op,Y.K,Y.kL,Y.Kids⟩:Formula),u1,wi0 .i64 (R+1),_,d.kM,c7,l7,Z,o9,u⟩)))))))⟩
     refine nB (nv (nv (ry (kW ?_))))
     have q:=sj u; subst q
     exact ⟨f8,_,d.kM,d1⟩
   rintro dh E W ⟨f7,o4,d,x9⟩ x2
   refine lB (ly ?_)
   have q:=sj x2; subst q
   exact rK Z ⟨_,_,_,Z,d.lZ (Kr Sn),lm.refl _,Lo.refl,ST.lp d (mu.mem (Kr Sn)),f7,Z,Z,x9⟩
 refine kS (Wm (Wm (Wi Z (Wi Z (ln (CI hm Z (λp2 hm=>?_) λp2 hm=>?_))))))
 ·refine sg (Wm (Wa (lr (Wm (Wa (ln (kY (mA (nQ (λm E W=>∃G N k7,ST false (keys (c++[])) w W U (c++k7)∧E 0=t∧E 2=vI M∧E 4=D∧E 14=vI G∧E 15=vI N∧na a0 M f4 m G N=some r) lP ⟨z,M,_,d.kM,Z,Z,Z,Z,Z,hm⟩ ?_)))))))))
  rintro m E W ⟨G,N,k7,d,c8,d5,f9,d6,g0,j⟩
  let j1:=IntKind.u64.wrap (wi0 .i64 (G+N))
  let b8:=Int.fdiv j1 (2 ^ min (Int.toNat 1) (IntKind.bits .u64))
  cases m with
  | zero=>rw [na] at j; cases j
  | succ n3=>
   refine kY (sg (Wh d6 (Wh g0 (Wi Z (ln (CI j Z (λp3 j=>?_) λp3 j=>?_))))))
   ·refine kn (bg (Wh d6 (Wh g0 (Wi Z (V (pt (k':=.i64) (a:=wi0 .i64 (G+N)) ed fI Z) (V (I5 (a:=j1) (b:=1) Z Z dc) (V (pt (k':=.u64) (a:=Int.fdiv j1 (2 ^ min (Int.toNat 1) (IntKind.bits .u64))) fI ed Z) (Wa (ln (kY ?_))))))))))
    have d:=d.drew
    have n:=d.has.kM (Kr Sn)
    refine mh n lM (X 0 Z n (kT f9) (X 1 Z n (kT c8) (X 2 Z n (kT d5) (bS j λy8 j7 j=>XQ 3 Z n (ni (i:=M) kN.out aD aC Z Z a5 (lR j7) (lK j7)) λbx ⟨_,⟨y4,rfl,s7⟩,r5,ah⟩=>XH 4 Z n (λ_ s=>kP Z (lA (oe.hp _) (r5.mono (nI λb o A=>s.2 b o (Ml A))) aR aC)) (X 5 Z n (kT c8) (X 6 Z n (kT Z) (bS j λy9 j8 j=>XQ 7 Z n (ni (i:=wi0 .i64 b8) kN.out aD aC Z Z a5 (lR j8) (lK j8)) λbz ⟨_,⟨y5,rfl,s8⟩,r6,ai⟩=>XH 8 Z n (λ_ s=>kP Z (lA (oe.hp _) (r6.mono (nI λb o A=>s.2 b o (Ml A))) aR aC)) (bS j λcg s1 j=>XE 9 Z (CM (y8,y9) d c6 (lm.refl _) (zH.mk lc lc (kN.mk ⟨y4,Z,s7⟩) (kN.mk ⟨y5,Z,s8⟩) d.lb) Z (pj Z Z) s1 λbh d=>?_)))))))))
    have n:=d.has.kM (Kr Sn)
    refine ⟨n,X 10 Z n (lI Z Z Z) (X 11 Z n (nt Z) (ml kr (kW (CI j Z (λp4 j=>?_) λp4 j=>?_))))⟩
    ·exact kX (Wm (Wi Z (Wa (lC (lD (kW ⟨n3,bB _,wi0 .i64 ((wi0 .i64 b8)+1),N,_,d.kM,c8,d5,f9,Z,g0,j⟩))))))
    exact kX (Wm (Wa (lC (lD (kW ⟨n3,bB _,G,wi0 .i64 b8,_,d.kM,c8,d5,f9,d6,Z,j⟩)))))
   refine nB (nv (nv (ry (kW (kY (sg (Wh d5 (Wa (ln (CJ j (λi1 E W=>∃d3 k8,ST false (keys (c++[])) w W U (d3++k8)∧mn 62 kN 5 U t i1 d3) (λi1 eg=>?_) ?_))))))))))
   ·refine mA (nQ (λm E W=>∃e2 d4 Q k9,ST false (keys (c++[])) w W U (d4++k9)∧E 0=t∧E 14=vI G∧E 17=vI Q∧mn 62 kN 5 U t e2 d4∧nW G m e2 Q=some i1) lP ⟨a0,c,M,_,d.kM,c8,d6,Z,a5,eg⟩ ?_)
    rintro m E W ⟨e2,d4,Q,k9,d,c9,l8,c1,b6,x⟩
    cases m with
    | zero=>rw [nW] at x; cases x
    | succ y3=>
     refine kY (sg (Wh c1 (Wh l8 (Wi Z (ln (CI x Z (λp5 x=>?_) λp5 x=>?_))))))
     ·refine kn (kY (mA ?_))
      have d:=d.drew
      have n:=d.has.kM Sn
      have p:=d.has.kM (Kr Sn)
      refine vh 15 n p lM (nZ 0 Z n p (kT c9) (nZ 1 Z n p (kT c1) (nZ 2 Z n p (kT c9) (nZ 3 Z n p (kT c1) (nZ 4 Z n p (lI Z Z Z) (nZ 5 Z n p (kT c9) (nZ 6 Z n p (kT c1) (nZ 7 Z n p (lI Z Z Z) (bS x λi4 j9 x=>vq 8 Z kr (.inl Z) Z dc (λ_ _ h=>⟨h.1,xI (by rfl) h.2⟩) ⟨n,λ_=>p⟩ (ni (i:=wi0 .i64 (Q-1)) kN.out aD aC Z Z b6 (lR j9) (lK j9)) λca ⟨_,⟨cp,rfl,i9⟩,r7,aj⟩=>Fo 9 Z n p (λs=>kP Z (lA (oe.hp _) (r7.mono (nI λb o A=>s.2 b o (Ml A))) aR aC)) (nZ 10 Z n p (kT c9) (nZ 11 Z n p (kT c1) (bS x λZq k0 x=>?_))))))))))))
      refine vq 12 Z kr (.inl Z) Z dc (λ_ _ h=>⟨h.1,xI (by rfl) h.2⟩) ⟨n,λ_=>p⟩ (ni (i:=Q) kN.out aD aC Z Z b6 (lR k0) (lK k0)) (λcb ⟨_,⟨cq,rfl,j0⟩,r8,ak⟩=>Fo 13 Z n p (λs=>kP Z (lA (oe.hp _) (r8.mono (nI λb o A=>s.2 b o (Ml A))) aR aC)) (bS x λcy f1 x=>vq 14 Z kr (.inl Z) Z dc (λ_ _ h=>⟨h.1,xI (by rfl) h.2⟩) ⟨n,λ_=>p⟩ (ni (i:=Q) kN.out aD aC Z Z b6 (lR f1) (lK f1)) λcc ⟨_,⟨cr,rfl,av⟩,ap,ea⟩=>?_))
      obtain ⟨t9,u8,rfl⟩:=i9.form
      refine XO 15 Z (vw (x1:=i4) lc d b6 Z Z (kN.mk ⟨.slice t9 i4.Kids.length u8,Z,i9⟩) ea (lK f1) aC λbi bd d i6=>?_)
      have n:=d.has.kM Sn
      refine ⟨⟨n,λh=>yF kr h⟩,bS x λcz f2 x=>vq 16 Z kr (.inl Z) Z dc (λ_ _ h=>⟨h.1,xI (by rfl) h.2⟩) ⟨n,λh=>yF kr h⟩ (ni (i:=wi0 .i64 (Q-1)) kN.out aD aC Z Z i6 (lR f2) (lK f2)) λcd ⟨_,⟨cs,rfl,aw⟩,aq,eb⟩=>?_⟩
      obtain ⟨u0,u9,rfl⟩:=j0.form
      refine XO 17 Z (vw (x1:=(⟨Zq.Op,Zq.K,Zq.kL,Zq.Kids⟩:Formula)) lc d i6 Z Z (kN.mk ⟨.slice u0 Zq.Kids.length u9,Z,j0⟩) eb (lK f2) aC λbj u2 d p0=>?_)
      have n:=d.has.kM Sn
      exact ⟨⟨n,λh=>yF kr h⟩,ml kr (lD (kW (kX (Wh c1 (Wi Z (Wa (ln ⟨y3,bB _,(e2.set (Int.toNat Q) i4).set (Int.toNat (wi0 .i64 (Q-1))) (⟨Zq.Op,Zq.K,Zq.kL,Zq.Kids⟩:Formula),u2,wi0 .i64 (Q-1),_,d.kM,c9,l8,Z,p0,x⟩)))))))⟩
     refine nB (nv (nv (ry (kW ?_))))
     have q:=sj x; subst q
     exact ⟨d4,_,d.kM,b6⟩
   rintro bs E W ⟨d3,k8,d,s9⟩ ec
   refine lB (ly ?_)
   have q:=sj ec; subst q
   exact rK Z ⟨_,_,_,Z,d.lZ (Kr Sn),lm.refl _,Lo.refl,ST.lp d (mu.mem (Kr Sn)),d3,Z,Z,s9⟩
 let g5:=IntKind.u64.wrap (wi0 .i64 (z+B))
 refine kg (Wm (Wm (Wi Z (V (pt (k':=.i64) (a:=wi0 .i64 (z+B)) ed fI Z) (V (I5 (a:=g5) (b:=1) Z Z dc) (V (pt (k':=.u64) (a:=Int.fdiv g5 (2 ^ min (Int.toNat 1) (IntKind.bits .u64))) fI ed Z) (Wa (lr ?_))))))))
 let P:=wi0 .i64 (Int.fdiv g5 (2 ^ min (Int.toNat 1) (IntKind.bits .u64)))
 let e5:=wi0 .i64 (P+M)
 refine Wm (Wm (Wi Z (Wa (lr (Wa (Wa (ln (kY (CJ hm (λi2 E W=>∃l0,ST false (keys (c++[])) w W U (c++l0)∧E 0=t∧E 1=vI z∧E 2=vI M∧E 3=vI B∧E 4=D∧E 18=vI P∧E 19=vI e5∧E 20=vI i2.1∧E 21=vI i2.2) (λi2 b5=>?_) ?_)))))))))
 ·refine sg (Wm (Wm (Wi Z (ln (CI b5 Z (λbo b5=>?_) λbo b5=>?_)))))
  ·refine sg (Wm (Wm (Wi Z (Wa (ln (kX (Wm (Wa (ln ?_)))))))))
   have q:=sj b5; subst q
   exact ⟨_,d.kM,Z,Z,Z,Z,Z,Z,Z,Z,Z⟩
  refine sg (Wm (Wa (ln (kX (Wm (Wa (ln ?_)))))))
  have q:=sj b5; subst q
  exact ⟨_,d.kM,Z,Z,Z,Z,Z,Z,Z,Z,Z⟩
 rintro ⟨z0,z1⟩ E W ⟨l0,d,v0,v1,v2,v3,v4,v5,l9,v6,v7⟩ eh
 refine sg (Wh l9 (Wi Z (Wa (ln (kY (mA (nQ (λm E W=>∃g K l1,ST false (keys (c++[])) w W U (c++l1)∧E 0=t∧E 1=vI z∧E 2=vI M∧E 3=vI B∧E 4=D∧E 18=vI P∧E 19=vI e5∧E 20=vI g∧E 21=vI K∧E 22=vI (wi0 .i64 (e5-1))∧mI a0 z B M f4 t6 m g K=some r) lP ⟨z0,z1,_,d.kM,v0,v1,v2,v3,v4,v5,l9,v6,v7,Z,eh⟩ ?_)))))))
 rintro m E W ⟨g,K,l1,d,c2,d7,c3,d8,d0,d9,g1,b1,g2,g3,k⟩
 let g6:=IntKind.u64.wrap (wi0 .i64 (g+K))
 let a3:=Int.fdiv g6 (2 ^ min (Int.toNat 1) (IntKind.bits .u64))
 let j2:=wi0 .i64 a3
 let a2:=wi0 .i64 (e5-g)
 cases m with
 | zero=>rw [mI] at k; cases k
 | succ n4=>
  refine kY (sg (Wh b1 (Wh g2 (Wi Z (ln (CI k Z (λp6 k=>?_) λp6 k=>?_))))))
  ·refine kn (bg (Wh b1 (Wh g2 (Wi Z (V (pt (k':=.i64) (a:=wi0 .i64 (g+K)) ed fI Z) (V (I5 (a:=g6) (b:=1) Z Z dc) (V (pt (k':=.u64) (a:=Int.fdiv g6 (2 ^ min (Int.toNat 1) (IntKind.bits .u64))) fI ed Z) (Wa (ln (kY ?_))))))))))
   have d:=d.drew
   have n:=d.has.kM (Kr Sn)
   refine mh n lM (X 0 Z n (kT d0) (X 1 Z n (kT c2) (X 2 Z n (kT g3) (X 3 Z n (kT Z) (X 4 Z n (lI Z Z Z) (bS k λz2 k1 k=>XQ 5 Z n (ni (i:=wi0 .i64 ((wi0 .i64 (e5-1))-j2)) kN.out aD aC Z Z a5 (lR k1) (lK k1)) λce ⟨_,⟨y6,rfl,t0⟩,r9,al⟩=>XH 6 Z n (λ_ s=>kP Z (lA (oe.hp _) (r9.mono (nI λb o A=>s.2 b o (Ml A))) aR aC)) (X 7 Z n (kT c2) (X 8 Z n (kT Z) (bS k λz3 k2 k=>XQ 9 Z n (ni (i:=wi0 .i64 a3) kN.out aD aC Z Z a5 (lR k2) (lK k2)) λcf ⟨_,⟨y7,rfl,t1⟩,s0,am⟩=>XH 10 Z n (λ_ s=>kP Z (lA (oe.hp _) (s0.mono (nI λb o A=>s.2 b o (Ml A))) aR aC)) (bS k λch s2 k=>?_))))))))))
   refine XE 11 Z (CM (z2,z3) d c6 (lm.refl _) (zH.mk lc lc (kN.mk ⟨y6,Z,t0⟩) (kN.mk ⟨y7,Z,t1⟩) d.lb) Z (pj Z Z) s2 λbk d=>?_)
   have n:=d.has.kM (Kr Sn)
   refine ⟨n,X 12 Z n (lI Z Z Z) (X 13 Z n (nt Z) (ml kr (kW (CI k Z (λp7 k=>?_) λp7 k=>?_))))⟩
   ·exact kX (Wm (Wi Z (Wa (lC (lD (kW ⟨n4,bB _,wi0 .i64 (j2+1),K,_,d.kM,c2,d7,c3,d8,d0,d9,g1,Z,g2,g3,k⟩))))))
   exact kX (Wm (Wa (lC (lD (kW ⟨n4,bB _,g,j2,_,d.kM,c2,d7,c3,d8,d0,d9,g1,b1,Z,g3,k⟩)))))
  refine nB (nv (nv (ry (kW (sg (Wh g1 (Wh b1 (Wi Z (Wa (ln (kY (CJ k (λn8 E W=>∃b7 a4 l2,lm U a4∧Lo (keys (c++[])) w U a4∧ST false (keys (c++[])) w W a4 (b7++l2)∧E 0=t∧E 1=vI z∧E 3=vI B∧E 4=D∧E 18=vI P∧E 20=vI g∧E 24=vI a2∧mn 62 kN 5 a4 t n8 b7) (λn8 r2=>?_) ?_))))))))))))
  ·refine sg (Wh b1 (Wh c3 (Wi Z (Wm (LJ r2 (λn9 E W=>∃l6,ST false (keys (c++[])) w W U (c++l6)∧E 0=t∧E 1=vI z∧E 2=vI M∧E 3=vI B∧E 4=D∧E 18=vI P∧E 20=vI g∧E 24=vI a2∧E 185=vB n9) 4 ?_ λn9 b4 f6=>?_)))))
   ·rintro de E W ⟨l6,d,h4,m8,w7,m9,h5,n0,h6,h7,w8⟩ a8
    refine ln (CI a8 w8 (λbn a8=>?_) λbn a8=>?_)
    ·refine kX (Wh h4 (Wh h6 (Wh w7 (Wh h7 (Wh h5 (bS a8 λck s5 a8=>?_))))))
     refine VE (eD d (Cr Qz Cn) call268 (λhh=>mq.mF (DO hh a5 (c6.mono (lm.refl _)) s5)) ?_)
     rintro _ cv z5 ba d o2 bl ⟨u5,e8,rfl,t4⟩
     cases e8
     have d:=d.perm (Tr Tn)
     refine ln ?_
     have q:=sj a8; subst q
     exact ⟨u5,z5,_,o2,bl,d.kM,h4,m8,m9,h5,n0,h6,h7,t4⟩
    refine kn ?_
    have q:=sj a8; subst q
    exact ⟨c,U,_,lm.refl _,Lo.refl,d.kM,h4,m8,m9,h5,n0,h6,h7,a5⟩
   refine bC b4 (λJ b4=>?_) (λJ b4=>?_)
   ·refine ug J (kT c3) (ug J (kT Z) (ug J (lI Z Z Z) (V (lh (cB J) Z) ?_)))
    have q:=sj b4; subst q
    exact f6 _ _ ⟨_,d.kM,c2,d7,c3,d8,d0,d9,b1,Z,Z⟩
   refine un J (un J (un J (V (lg (cB J) Z) ?_)))
   have q:=sj b4; subst q
   exact f6 _ _ ⟨_,d.kM,c2,d7,c3,d8,d0,d9,b1,Z,Z⟩
  rintro y0 E W ⟨b7,a4,l2,c4,L,d,m0,g4,m1,m2,g7,e0,m3,j3⟩ en
  refine kY (CJ en (λn6 E W=>∃b9 c5 l3,lm a4 c5∧Lo (keys (c++[])) w a4 c5∧ST false (keys (c++[])) w W c5 (b9++l3)∧E 0=t∧E 3=vI B∧E 4=D∧E 18=vI P∧E 24=vI a2∧mn 62 kN 5 c5 t n6 b9) (λn6 r1=>?_) ?_)
  ·refine sg (Wh g4 (Wh e0 (Wi Z (Wm (LJ r1 (λn7 E W=>∃l5,ST false (keys (c++[])) w W a4 (b7++l5)∧E 0=t∧E 1=vI z∧E 3=vI B∧E 4=D∧E 18=vI P∧E 20=vI g∧E 24=vI a2∧E 199=vB n7) 4 ?_ λn7 b3 f5=>?_)))))
   ·rintro db E W ⟨l5,d,h1,w4,m6,h2,h3,w5,m7,w6⟩ a7
    refine ln (CI a7 w6 (λp9 a7=>?_) λp9 a7=>?_)
    ·refine kX (Wh h1 (Wh w4 (Wh w5 (Wh h3 (Wh h2 (bS a7 λcj s4 a7=>?_))))))
     refine VE (eD d (Cr Qz Cn) call265 (λhh=>s6 t y0 b7 z g P D f4 _ _ hh j3 (c6.mono c4) s4) ?_)
     rintro _ cu z4 az d o1 aE ⟨u4,e7,rfl,t3⟩
     cases e7
     have d:=d.perm (Tr Tn)
     refine ln ?_
     have q:=sj a7; subst q
     exact ⟨u4,z4,_,o1,aE,d.kM,h1,m6,h2,h3,m7,t3⟩
    refine kn ?_
    have q:=sj a7; subst q
    exact ⟨b7,a4,_,lm.refl _,Lo.refl,d.kM,h1,m6,h2,h3,m7,j3⟩
   refine bC b3 (λI b3=>?_) (λI b3=>?_)
   ·refine ug I (kT e0) (ug I (kT g7) (ug I (lI Z Z Z) (V (lh (cB I) Z) ?_)))
    have q:=sj b3; subst q
    exact f5 _ _ ⟨_,d.kM,m0,g4,m1,m2,g7,e0,m3,Z⟩
   refine un I (un I (un I (V (lg (cB I) Z) ?_)))
   have q:=sj b3; subst q
   exact f5 _ _ ⟨_,d.kM,m0,g4,m1,m2,g7,e0,m3,Z⟩
  rintro y1 E W ⟨b9,c5,l3,d2,O,d,m4,g8,m5,g9,e1,j4⟩ r0
  refine sg (Wh g9 (Wh e1 (Wi Z (Wm (LJ r0 (λn5 E W=>∃l4,ST false (keys (c++[])) w W c5 (b9++l4)∧E 0=t∧E 3=vI B∧E 4=D∧E 18=vI P∧E 24=vI a2∧E 213=vB n5) 4 ?_ λn5 b2 f3=>?_)))))
  ·rintro da E W ⟨l4,d,v8,v9,w0,w1,w2,w3⟩ a6
   refine ln (CI a6 w3 (λp8 a6=>?_) λp8 a6=>?_)
   ·refine kX (Wh v8 (Wh w1 (Wh w2 (Wh v9 (Wh w0 (bS a6 λci s3 a6=>?_))))))
    refine VE (eD d (Cr Qz Cn) call265 (λhh=>s6 t y1 b9 P a2 B D f4 _ _ hh j4 (c6.mono (c4.trans d2)) s3) ?_)
    rintro _ ct df ay d o0 ad ⟨u3,e6,rfl,t2⟩
    cases e6
    have d:=d.perm (Tr Tn)
    refine lC (te ?_)
    have q:=sj a6; subst q
    exact rK Z ⟨_,_,_,Z,d.lZ (Kr Sn),(c4.trans d2).trans o0,(L.trans O).trans ad,ST.lp d (mu.mem (Kr Sn)),u3,Z,Z,t2⟩
   refine lU (te ?_)
   have q:=sj a6; subst q
   exact rK Z ⟨_,_,_,Z,d.lZ (Kr Sn),c4.trans d2,L.trans O,ST.lp d (mu.mem (Kr Sn)),b9,Z,Z,j4⟩
  refine bC b2 (λH b2=>?_) (λH b2=>?_)
  ·refine ug H (kT e1) (ug H (kT g8) (ug H (lI Z Z Z) (V (lh (cB H) Z) ?_)))
   have q:=sj b2; subst q
   exact f3 _ _ ⟨_,d.kM,m4,g8,m5,g9,e1,Z⟩
  refine un H (un H (un H (V (lg (cB H) Z) ?_)))
  have q:=sj b2; subst q
  exact f3 _ _ ⟨_,d.kM,m4,g8,m5,g9,e1,Z⟩
theorem uS:∀(n:Nat) (c:Value) (k:List Formula) (a:LO) (t:Int) (u:Int) (x:Int) (g:Value) (y:(Formula×Formula)→Option Int) (r:List Formula) (w:World) {i:mc} (H:nN i (a++[]) w) (B:mn 62 kN 5 i c k a) (D:Ce pg0 g i (zH kN kN) (λ(r:Int)=>vI r) y) (_:nn n k t u x y=some r),
  mq false pg0 265 [c,vI t,vI u,vI x,g] w i (a++[]) (λv z G=>∃j,v=vT []∧z=(j++[])∧mn 62 kN 5 G c r j)
 | 0=>by intros; rename_i h; simp only [nn] at h; cases h
 | n+1=>Bu (nn n) (uS n)
theorem D8 (h0:nN qb (qf++[]) qa) (k4:mn 62 kN 5 qb q0 qv qf) (c7:Ce pg0 q1 qb (zH kN kN) (λ(qw:Int)=>vI qw) qZ) (hm:vZ qv qc qZ=some qw) :
  mq false pg0 258 [q0,vI qc,q1] qa qb (qf++[]) (λv L1 μ1=>∃S1,v=vT []∧L1=(S1++[])∧mn 62 kN 5 μ1 q0 qw S1):=by
 refine ve h0 63 func258 Z (λa=>sg (Wa (lr (Wm (Wa (Wa (ln (kY (mA (nQ (λm E W=>∃d4 d0 d5 O d6 f1,lm qb d6∧Lo (keys (qf++[])) qa qb d6∧ST false (keys (qf++[])) qa W d6 (d0++f1)∧E 0=q0∧E 1=vI qc∧E 2=q1∧E 6=vI 20∧E 7=vI d5∧E 8=vI O∧mn 62 kN 5 d6 q0 d4 d0∧nH qc qZ m d4 d5 O=some qw) lP ⟨qv,qf,0,20,qb,_,lm.refl _,Lo.refl,a.kM,Z,Z,Z,Z,Z,Z,k4,hm⟩ ?_))))))))))
 rintro m E W ⟨d4,d0,d5,O,d6,f1,z,h,a,R,b5,b6,d7,f4,b7,h1,i⟩
 cases m with
 | zero=>rw [nH] at i; cases i
 | succ k5=>
  refine kY (sg (Wh b7 (Wh b5 (Wi Z (ln (CI i Z (λi4 i=>?_) λi4 i=>?_))))))
  ·refine kn (bg (Wh R (Wh f4 (Wh b7 (Wh b6 (bS i λk6 i7 i=>?_))))))
   refine VE (eD a (Cr Qz Cn) call264 (λs=>xj s h1 (c7.mono z) i7) ?_)
   rintro _ m4 k8 l8 a g0 w ⟨k1,c8,rfl,j0⟩
   cases c8
   have a:=a.perm (Tr Tn)
   refine lr (Wh b7 (Wa (ln (kX (Wh b7 (Wh d7 (Wi Z (Wa (lC (lD ?_))))))))))
   exact kW ⟨k5,bB _,k6,k1,O,wi0 .i64 (O+20),k8,_,z.trans g0,h.trans w,a.kM,R,b5,b6,d7,Z,Z,j0,i⟩
  refine nB (nv (nv (ry (kW (sg (Wh R (Wh f4 (Wh b5 (Wh b6 (bS i λk7 i8 i=>?_))))))))))
  refine VE (eD a (Cr Qz Cn) call264 (λs=>xj s h1 (c7.mono z) i8) ?_)
  rintro _ m5 L l9 a a5 x ⟨k2,c9,rfl,j3⟩
  cases c9
  have a:=a.perm (Tr Tn)
  refine ln (tW (CJ i (λd8 E W=>∃Q a9 f3,lm L a9∧Lo (keys (qf++[])) qa L a9∧ST false (keys (qf++[])) qa W a9 (Q++f3)∧mn 62 kN 5 a9 q0 d8 Q) (λd8 i6=>?_) ?_))
  ·refine mA (nQ (λm E W=>∃a2 I j k e0,lm L k∧Lo (keys (qf++[])) qa L k∧ST false (keys (qf++[])) qa W k (I++e0)∧E 0=q0∧E 1=vI qc∧E 2=q1∧E 6=vI j∧mn 62 kN 5 k q0 a2 I∧nG qc qZ m a2 j=some d8) lP ⟨k7,k2,20,L,_,lm.refl _,Lo.refl,a.kM,R,b5,b6,d7,j3,i6⟩ ?_)
   rintro m E W ⟨a2,I,j,k,e0,B,c,a,h6,e4,h7,b3,d1,t⟩
   cases m with
   | zero=>rw [nG] at t; cases t
   | succ j6=>
    refine kY (sg (Wh b3 (Wh e4 (Wi Z (ln (CI t Z (λf7 t=>?_) λf7 t=>?_))))))
    ·refine kn (bg (Wh b3 (Wi Z (Wa (Wa (ln (kY (CJ t (λa4 E W=>∃J y e1,lm k y∧Lo (keys (qf++[])) qa k y∧ST false (keys (qf++[])) qa W y (J++e1)∧E 0=q0∧E 1=vI qc∧E 2=q1∧E 6=vI j∧E 7=vI a4.2∧mn 62 kN 5 y q0 a4.1 J) (λa4 g4=>?_) ?_))))))))
     ·refine mA (nQ (λm E W=>∃a3 K M D H e3,lm k H∧Lo (keys (qf++[])) qa k H∧ST false (keys (qf++[])) qa W H (K++e3)∧E 0=q0∧E 1=vI qc∧E 2=q1∧E 6=vI j∧E 7=vI M∧E 8=vI D∧mn 62 kN 5 H q0 a3 K∧oq qc j qZ m a3 M D=some a4) lP ⟨a2,I,0,wi0 .i64 (2*j),k,_,lm.refl _,Lo.refl,a.kM,h6,e4,h7,b3,Z,Z,d1,g4⟩ ?_)
      rintro m E W ⟨a3,K,M,D,H,e3,N,d,a,c2,c3,c4,Y,c5,P,d3,g⟩
      cases m with
      | zero=>rw [oq] at g; cases g
      | succ j7=>
       refine kY (sg (Wh P (Wh c3 (Wi Z (ln (CI g Z (λf9 g=>?_) λf9 g=>?_))))))
       ·refine kn (bg (Wh c2 (Wh c5 (Wh c5 (Wh Y (Wi Z (Wh P (Wh c4 (bS g λj8 g8 g=>?_)))))))))
        refine VE (eD a (Cr Qz Cn) call265 (λs=>(uS lP) q0 a3 K M (wi0 .i64 (M+j)) D q1 qZ _ _ s d3 (c7.mono (((z.trans a5).trans B).trans N)) g8) ?_)
        rintro _ l6 k0 l1 a f0 q ⟨h5,a7,rfl,h3⟩
        cases a7
        have a:=a.perm (Tr Tn)
        refine lr (Wh P (Wa (ln (kX (Wh P (Wh Y (Wi Z (Wi Z (Wa (lC ?_))))))))))
        exact lD (kW ⟨j7,bB _,j8,h5,D,wi0 .i64 (D+(wi0 .i64 (2*j))),k0,_,N.trans f0,d.trans q,a.kM,c2,c3,c4,Y,Z,Z,h3,g⟩)
       refine nB (nv (nv (ry (kW ?_))))
       cases sj g
       exact ⟨K,H,_,N,d,a.kM,c2,c3,c4,Y,c5,d3⟩
     rintro ⟨j4,e7⟩ E W ⟨J,y,e1,b0,n,a,b9,U,c0,c1,e5,d2⟩ g2
     refine kY (CJ g2 (λe6 E W=>∃T G e2,lm y G∧Lo (keys (qf++[])) qa y G∧ST false (keys (qf++[])) qa W G (T++e2)∧E 0=q0∧E 1=vI qc∧E 2=q1∧E 6=vI j∧mn 62 kN 5 G q0 e6 T) (λe6 u=>?_) ?_)
     ·refine sg (Wh e5 (Wh c1 (Wi Z (Wa (lr (Wm (Wh U (Wi Z (ln ?_)))))))))
      refine CI u Z (λf8 u=>?_) (λf8 u=>?_)
      ·refine kX (Wh b9 (Wh e5 (Wm (Wh U (Wh c0 (bS u λl4 g7 u=>?_))))))
       refine VE (eD a (Cr Qz Cn) call265 (λs=>(uS lP) q0 j4 J e7 (wi0 .i64 (e7+j)) qc q1 qZ _ _ s d2 (c7.mono (((z.trans a5).trans B).trans b0)) g7) ?_)
       rintro _ l5 j9 l0 a e9 p ⟨h4,a6,rfl,h2⟩
       cases a6
       have a:=a.perm (Tr Tn)
       refine ln ?_
       cases sj u
       exact ⟨h4,j9,_,e9,p,a.kM,b9,U,c0,c1,h2⟩
      refine kn ?_
      cases sj u
      exact ⟨J,y,_,lm.refl _,Lo.refl,a.kM,b9,U,c0,c1,d2⟩
     rintro j5 E W ⟨T,G,e2,e8,o,a,h8,h9,i0,i1,g9⟩ g3
     exact kX (Wh i1 (Wi Z (Wa (lC (lD (kW ⟨j6,bB _,j5,T,wi0 .i64 (j*2),G,_,(B.trans b0).trans e8,(c.trans n).trans o,a.kM,h8,h9,i0,Z,g9,g3⟩))))))
    refine nB (nv (nv (ry (kW ?_))))
    cases sj t
    exact ⟨I,k,_,B,c,a.kM,d1⟩
  rintro m3 E W ⟨Q,a9,f3,g1,A,a,i9⟩ i5
  refine te ?_
  cases sj i5
  exact rK Z ⟨_,_,_,Z,a.lZ (Kr Sn),(z.trans a5).trans g1,(h.trans x).trans A,ST.lp a (mu.mem (Kr Sn)),Q,Z,Z,i9⟩
theorem DB (J:nN qb (qf++[]) qa) (j:mn 62 kN 5 qb q0 qv qf) (x:Ce pg0 q1 qb (zH kN kN) (λ(qw:Int)=>vI qw) qZ) (hm:sL qv qZ=some qw) :
  mq false pg0 246 [q0,q1] qa qb (qf++[]) (λv I K=>∃B,v=vT []∧I=(B++[])∧mn 62 kN 5 K q0 qw B):=by
 refine ve J 9 func246 Z (λa=>kX (Wm (Wm (V (xE aD Z j) (Wm (bS hm λQ H hm=>?_))))))
 refine VE (eD a (Cr Qz Cn) call258 (λd=>D8 d j (x.mono (lm.refl _)) H) ?_)
 rintro _ T U M a y c ⟨D,g,rfl,z⟩
 cases g
 have a:=a.perm (Tr Tn)
 refine lC (te ?_)
 cases sj hm
 exact rK Z ⟨_,_,_,Z,a.lZ (Kr Sn),y,c,ST.lp a (mu.mem (Kr Sn)),D,Z,Z,z⟩
theorem I1 (L:(List Int)→Formula→Option (List Int)) (e9:∀(a:Nat) (j:Value) (B:List Int) (g:LO) (t:Formula) (u:Value) (r:List Int) (w:World) {μ0:mc} (h0:nN μ0 ((a,Ob #[j] 139)::(g++[])) w) (T:lQ 5 (lu .u8) 1 j B g) (k:Sl kN 5 μ0 u t.Kids),L B t=some r→mX false pg0 269 [vP a,vA [vI t.Op,vI t.K,vS t.kL.kO,vS t.kL.Word,u]] w ((a,Ob #[j] 139)::(g++[])) λv L1 W'=>∃o S2,v=vT []∧L1=((a,Ob #[o] 139)::(S2++[]))∧lQ 5 (lu .u8) 1 o r S2) (a:Nat) (j:Value) (B:List Int) (g:LO) (t:Formula) (u:Value) (r:List Int) (w:World) {μ0:mc} (h0:nN μ0 ((a,Ob #[j] 139)::(g++[])) w) (T:lQ 5 (lu .u8) 1 j B g) (k:Sl kN 5 μ0 u t.Kids) (hm:AL L B t=some r) :
  mX false pg0 269 [vP a,vA [vI t.Op,vI t.K,vS t.kL.kO,vS t.kL.Word,u]] w ((a,Ob #[j] 139)::(g++[])) (λv L1 W'=>∃o S2,v=vT []∧L1=((a,Ob #[o] 139)::(S2++[]))∧lQ 5 (lu .u8) 1 o r S2):=by
 let b0:=(a,Ob #[j] 139)::(g++[])
 refine Bl h0 40 func269 Z (λd=>sg ?_)
 obtain ⟨A1,c2,rfl⟩:=k.form
 refine VE (lY d Z (λW4 b3 d=>lr (Wm (Wf pD (VB d Mh Z Z bH (bS hm λr5 g3 hm=>?_))))))
 refine VE (eM d (Cb (Pb Pz) (Cr (Qb Qz) Cn)) km (λn _=>mX.mF (pk n T g3)) ?_)
 rintro _ j5 p i7 d e6 ad h ⟨b7,a9,a2,rfl,a5⟩
 cases a2
 have d:=d.perm (Tb (Tr Tn))
 refine lS (Wf pD (VB d (Mt (Ma Mh)) Z Z bH (Wi Z (ln (CI hm Z (λe5 hm=>?_) λe5 hm=>?_)))))
 ·refine sg (Wm (Wf yB (VA d (Mt (Ma Mh)) (kR t.kL) bE aI (bS hm λj4 e7 hm=>?_))))
  refine VE (eM d (Cb Pz (Cr Qz Cn)) call70 (λn _=>mX.mF (Ao n a5 e7)) ?_)
  rintro _ j6 j8 i8 d h3 ae h ⟨g9,f9,a3,rfl,f1⟩
  cases a3
  have d:=d.perm (Tb (Tr Tn))
  refine ln ?_
  have d:=d.kM (Kb (Kr (Db St)))
  refine lB (ly ?_)
  cases sj hm
  exact rK Z ⟨_,_,Z,d.lZ (Kb (Kr Sn)),g9,f9,Z,Z,f1⟩
 refine kn (kY (CJ hm (λb5 E W=>∃A s O d3,lm p O∧ST false (keys b0) w W O ((a,Ob #[A] 139)::((b3,Ol (C1 t.Op t.K t.kL.kO t.kL.Word A1 t.Kids.length c2) 62)::(s++d3)))∧E 0=vP a∧E 3=vP b3∧lQ 5 (lu .u8) 1 A b5 s) (λb5 y=>?_) ?_))
 ·refine sg (Wf pD (VB d (Mt (Ma Mh)) Z Z bH (Wi Z (ln (CI y Z (λc4 y=>?_) λc4 y=>?_)))))
  ·refine kX (Wm (Wf wO (VB d (Mt (Ma Mh)) Z Z bH (bS y λi3 c9 y=>?_))))
   refine VE (eM d (Cb Pz (Cr Qz Cn)) km (λn _=>mX.mF (pk n a5 c9)) ?_)
   rintro _ i6 f8 h6 d b2 aa h ⟨f6,e0,N,rfl,d2⟩
   cases N
   have d:=d.perm (Tb (Tr Tn))
   refine ln ?_
   cases sj y
   exact ⟨f6,e0,f8,_,b2,d.kM (Kb (Sb (Pr Pz) St)),Z,Z,d2⟩
  refine kn ?_
  cases sj y
  exact ⟨b7,a9,p,_,lm.refl _,d.kM (Kb (Sb (Pr Pz) St)),Z,Z,a5⟩
 rintro g4 E W ⟨A,s,O,d3,c5,d,d4,d5,f0⟩ a0
 refine sg (Wh d4 (V (kU pG d5) (VB d (Mt Mh) Z Z ei (V (lT aD Z k) (bS a0 λg8 e8 a0=>?_)))))
 refine VE (eM d (Cb Pz (Cr (Qb Qz) Cn)) km (λn _=>mX.mF (pk n f0 e8)) ?_)
 rintro _ j7 d6 i9 d c6 af h ⟨h1,g0,a4,rfl,f2⟩
 cases a4
 have d:=d.perm (Tb (Tr Tn))
 refine lr (V (kU pG d5) (VB d (Mt (Ma Mh)) Z Z ei (V (lT aD Z k) (Wm (ln ?_)))))
 have d:=d.kM (Kb (Kr (Db St)))
 refine tW (mJ 32 31 (λi js E W=>∃D H z Q U,lm d6 Q∧ST false (keys b0) w W Q ((a,Ob #[D] 139)::(z++U))∧E 0=vP a∧E 30= .slice A1 t.Kids.length c2∧lQ 5 (lu .u8) 1 D H z∧vd L js H=some r) k.len ⟨h1,g8.2,g0,d6,_,lm.refl _,d.kM,d4,Z,f2,a0⟩ ?_ ?_)
 ·rintro f3 c h4 E W d0 ⟨⟨P,eN⟩,D,H,z,Q,U,G,d,Y,q,K,x⟩
  refine sg (VQ (my (i:=(f3:Int)) (x0:=c) kN.out aD aC q P (k.mono lc.mono (((e6.trans c5).trans c6).trans G)) (aG _) d0) λi2 ⟨_,⟨i4,rfl,a7⟩,c7⟩=>V (kP Z (lA d.has c7 aR aC)) (VE (lq d aU λh7 i1 d=>?_)))
  obtain ⟨I,J,rfl⟩:=a7.form
  let a1:=C1 c.Op c.K c.kL.kO c.kL.Word I c.Kids.length J
  refine VO (FA a1.toArray d aC λh8 d=>ln (kX (Wh Y (VA d Mh a1 aR aC (bS x λf4 c8 x=>?_)))))
  refine VE (eM d (Cb (Pb Pz) (Cr (Qb Qz) Cn)) call269 (λn ab=>e9 a D H z c (.slice I c.Kids.length J) _ _ n K (a7.mono lc.mono ab) c8) ?_)
  rintro _ i5 f7 h5 d b1 R h ⟨f5,d9,M,rfl,d1⟩
  cases M
  have d:=d.perm (Tb (Tr Tn))
  refine lC (lD (kW ?_))
  have d:=d.kM (Kb (Kr (Db St)))
  exact ⟨P,eN,f5,f4,d9,f7,_,G.trans b1,d.kM,Y,q,d1,x⟩
 rintro E W ⟨⟨P,eN⟩,D,H,z,Q,U,G,d,Y,q,K,x⟩
 refine kW (te ?_)
 cases sj x
 exact rK Z ⟨_,_,Z,d.lZ (Kb (Kr Sn)),D,z,Z,Z,K⟩
theorem Hr:∀(n:Nat) (i:Nat) (g:Value) (k:List Int) (c:LO) (j:Formula) (a:Value) (r:List Int) (w:World) {z:mc} (D:nN z ((i,Ob #[g] 139)::(c++[])) w) (x:lQ 5 (lu .u8) 1 g k c) (t:Sl kN 5 z a j.Kids) (_:ur n k j=some r),
  mX false pg0 269 [vP i,vA [vI j.Op,vI j.K,vS j.kL.kO,vS j.kL.Word,a]] w ((i,Ob #[g] 139)::(c++[])) (λv B W'=>∃y u,v=vT []∧B=((i,Ob #[y] 139)::(u++[]))∧lQ 5 (lu .u8) 1 y r u)
 | 0=>by intros; rename_i h; simp only [ur] at h; cases h
 | n+1=>I1 (ur n) (Hr n)
theorem Nf (Y:nN qb ((qk,Ob #[q0] 139)::(qf++[])) qa) (t:lQ 5 (lu .u8) 1 q0 qo qf) (g:Sl kN 5 qb q1 qx.Kids) (hm:Bq qo qx=some qR) :
  mX false pg0 266 [vP qk,vA [vI qx.Op,vI qx.K,vS qx.kL.kO,vS qx.kL.Word,q1]] qa ((qk,Ob #[q0] 139)::(qf++[])) (λv U W'=>∃M I,v=vB qR.1∧U=((qk,Ob #[M] 139)::(I++[]))∧lQ 5 (lu .u8) 1 M qR.2 I):=by
 refine Bl Y 15 func266 Z (λa=>sg ?_)
 obtain ⟨y,z,rfl⟩:=g.form
 let B:=C1 qx.Op qx.K qx.kL.kO qx.kL.Word y qx.Kids.length z
 refine VE (lY a Z (λW4 k a=>Wa (lS (Wm (V (uc fi Z Z) (Wm (Vg Z Z (kP Z (kV a.has Mh B Z aR aC)) (bS hm λn K hm=>RN Z Z (Eg a call143 (Bj (g.mono lc.mono a.lb) K) λW7 a=>Vg Z Z (nt Z) (V (lg Z Z) ?_))))))))))
 refine ln (CI hm Z (λJ hm=>?_) λJ hm=>?_)
 ·refine sg (Wa (ln ?_))
  have a:=a.kM (Db St)
  refine lB (ly ?_)
  cases sj hm
  exact ma (v:=vB false) Z Z ⟨_,_,Z,a.lZ (Kb (Kr Sn)),q0,qf,Z,Z,t⟩
 refine kg (Wm (VA a Mh B aR aC (bS hm λo D hm=>?_)))
 refine VE (eM a (Cb (Pb Pz) (Cr (Qb Qz) Cn)) call269 (λi d=>(Hr lP) qk q0 qo qf qx (.slice y qx.Kids.length z) _ _ i t (g.mono lc.mono d) D) ?_)
 rintro _ a2 a3 j a T h c ⟨N,H,x,rfl,G⟩
 cases x
 have a:=a.perm (Tb (Tr Tn))
 refine ln ?_
 have a:=a.kM (Kb (Kr (Db St)))
 refine sg (Wa (lt ?_))
 cases sj hm
 exact ma (v:=vB true) Z Z ⟨_,_,Z,a.lZ (Kb (Kr Sn)),N,H,Z,Z,G⟩
theorem FQ (c:Sl kN 5 (hp qa) q0 qx.Kids) (hm:ye qx=some qo) :
  mM false pg0 259 [vA [vI qx.Op,vI qx.K,vS qx.kL.kO,vS qx.kL.Word,q0]] qa 5 (lu .u8) 1 qo:=by
 refine yd 11 func259 Z (λa=>sg ?_)
 obtain ⟨k,t,rfl⟩:=c.form
 refine VE (lY a Z (λW4 w a=>Wa (lr (V (lX (v:=vA [vN]) oP (lG iY eE (M3 _ eE) kr)) (VE (lY a Z (λW6 B a=>Wa (lr (Wm (VA a (Mt Mh) (C1 qx.Op qx.K qx.kL.kO qx.kL.Word k qx.Kids.length t) aR aC ?_))))))))))
 refine bS hm λK D hm=>?_
 refine VE (eM a (Cb Pz (C0 Cn)) call266 (λs h=>Nf s (lQ.nil _ _ _) (c.mono lc.mono h) D) ?_)
 rintro _ U Y M a I n d ⟨H,N,i,rfl,y⟩
 cases i
 have a:=a.perm (Tb (Tr Tn))
 refine ln ?_
 have a:=a.kM (Kb (Kr (Db St)))
 refine sg (Wm (bS hm λT x hm=>VE (rM a call72 (mM.mF (yC (y.sl (λ_=>rfl) λb o g=>a.at_ (Mt (Ml g))) (At.of (a.at_ Mh) _ Z) x)) λQ G u z a J q j=>Wa (ln ?_))))
 have a:=a.kM (Kr (Db (Dr St)))
 refine lB ?_
 cases sj hm
 exact ma (v:=G) Z Z ⟨_,z,Z,a.oa (λp g=>Ml g) j.nd,j⟩
theorem Lb (g:Sl kN 5 (hp qa) q0 qx.Kids) (i:Sl kN 5 (hp qa) q1 qy.Kids) (hm:zP qx qy=some qc) :
  lF false pg0 247 [vA [vI qx.Op,vI qx.K,vS qx.kL.kO,vS qx.kL.Word,q0],vA [vI qy.Op,vI qy.K,vS qy.kL.kO,vS qy.kL.Word,q1]] qa (vI qc):=by
 refine cG 10 func247 Z (λa=>sg ?_)
 obtain ⟨x,z,rfl⟩:=g.form
 refine VE (lY a Z (λW4 p a=>?_))
 obtain ⟨y,B,rfl⟩:=i.form
 refine VE (lY a Z (λW8 q a=>Wa (ln (kY ?_))))
 have a:=a.drew
 have c:=a.has.kM (Kb (Kb Sn))
 refine mh c lM (XH 0 Z c (λ_ d=>kP Z (kV d (Mt Mh) (C1 qx.Op qx.K qx.kL.kO qx.kL.Word x qx.Kids.length z) Z aR aC)) (XH 2 Z c (λ_ d=>kP Z (kV d Mh (C1 qy.Op qy.K qy.kL.kO qy.kL.Word y qy.Kids.length B) Z aR aC)) (bS hm λK H hm=>XE 1 Z (rM a call259 (FQ (g.mono lc.mono a.lb) H) λY N a4 T a t j D=>?_))))
 have c:=a.has.ob t (Dr (Kb (Kb Sn)))
 refine ⟨c,bS hm λM I hm=>XE 3 Z (rM a call259 (FQ (i.mono lc.mono (t.trans a.lb)) I) λn Q a5 U a u k G=>?_)⟩
 have c:=a.has.ob (t.trans u) (Dr (Dr (Kb (Kb Sn))))
 refine ⟨c,bS hm λa3 J hm=>XE 4 Z (Eg a call122 (lF.mF (Hi (D.sl (λ_=>rfl) λb o h=>a.at_ (Ma (Ml h))) (G.sl (λ_=>rfl) λb o h=>a.at_ (Ml h)) J)) λa2 a=>?_)⟩
 have c:=a.has.ob (t.trans u) (Dr (Dr (Kb (Kb Sn))))
 refine ⟨c,X 5 Z c (nz Z) (ml kr (kW ?_))⟩
 exact lB (rQ hm a)
theorem Ib (Y:nN qb [] qa) (u:Sl kN 5 qb q0 qv) (hm:Aj qv=some qw) :
  mq false pg0 237 [q0] qa qb [] (λv U μ1=>∃T I,v=T∧U=(I++[])∧mn 62 kN 5 μ1 T qw I):=by
 refine ve Y 9 func237 Z (λd=>sg (Wa (lr (Wm (bS hm λs Q hm=>?_)))))
 refine VE (eD d (bJ _) call245 (λh=>mq.mF (HH h (u.mono lc.mono (lm.refl _)) Q)) ?_ (L0:=[]))
 rintro _ v7 q L9 d y k ⟨i,H,a,rfl,B⟩
 obtain rfl:=a.symm
 have d:=d.perm (Tr Tn)
 refine Wa (lr (Wm (bS hm λa5 z hm=>?_)))
 refine VE (eD d (Cr Qz Cn) call246 (λh=>DB h B ⟨247,#[],#[],Z,call247,λW x vs qw A n hm=>by obtain ⟨_,_,rfl,M,N⟩:=n; obtain ⟨G,rfl,p⟩:=M.out; obtain ⟨t0,rfl,o⟩:=N.out; exact Lb p o hm⟩ z) ?_)
 rintro _ t w a3 d j g ⟨J,c,rfl,D⟩
 obtain rfl:=c.symm
 have d:=d.perm (Tr Tn)
 refine lr (Wm (Wa (lt ?_)))
 obtain rfl:=sj hm
 exact ma (v:=i) Z Z ⟨_,_,_,Z,d.lZ (Kr Sn),y.trans j,k.trans g,ST.lp d (mu.mem (Kr Sn)),i,J,Z,Z,D⟩
theorem EL {f1:(Formula×Formula)→Option Bool} (h0:nN qb (qf++[]) qa) (B:mn 62 kN 5 qb q0 qv qf) (d2:Ce pg0 q1 qb (zH kN kN) (λ(qw:Bool)=>vB qw) f1) (hm:tZ qv f1=some qw) :
  mq false pg0 240 [q0,q1] qa qb (qf++[]) (λv L1 μ1=>∃y1,v=y1∧L1=[]∧Sl kN 5 μ1 y1 qw):=by
 refine ve h0 66 func240 Z (λd=>sg (Wa (lS (Wm (V (xE aD Z B) (Wi Z (ln (CI hm Z (λi3 hm=>?_) λi3 hm=>?_))))))))
 ·refine sg (Wm (Wa (lt (ly ?_))))
  cases sj hm
  refine ma (v:=q0) Z Z ?_
  obtain ⟨a1,d,i2,w,j0⟩:=ST.xW lc d B
  exact ⟨_,_,_,Z,d.lZ Sn,i2,w,ST.lp d (mu.mem Sn),q0,Z,Z,j0⟩
 refine kS (Wa (ln (mA (nQ (λm E W=>∃t b7,ST false (keys (qf++[])) qa W qb (qf++b7)∧E 0=q0∧E 1=q1∧E 5=vI t∧oH qv f1 m t=some qw) lP ⟨1,_,d.kM,Z,Z,Z,hm⟩ ?_))))
 rintro m E W ⟨t,b7,d,y,a3,G,a⟩
 cases m with
 | zero=>rw [oH] at a; cases a
 | succ h1=>
  refine kY (sg (Wh G (Wh y (V (xE aD Z B) (Wi Z (ln (CI a Z (λd3 a=>?_) λd3 a=>?_)))))))
  ·refine kn (kY (mA (kY ?_)))
   have d:=d.drew
   have g:=d.has.kM (Kr Sn)
   refine mh g lM (X 0 Z g (kT a3) (X 1 Z g (kT y) (X 2 Z g (kT G) (bS a λh7 P a=>XQ 3 Z g (ni (i:=t) kN.out aD aC Z Z B (lR P) (lK P)) λk1 ⟨_,⟨h3,rfl,e7⟩,e0,i4⟩=>XH 4 Z g (λ_ q=>kP Z (lA (oe.hp _) (e0.mono (nI λb o p=>q.2 b o (Ml p))) aR aC)) (X 5 Z g (kT y) (X 6 Z g (kT G) (X 7 Z g (lI Z Z Z) (bS a λh8 R a=>XQ 8 Z g (ni (i:=wi0 .i64 (t-1)) kN.out aD aC Z Z B (lR R) (lK R)) λk2 ⟨_,⟨h4,rfl,e8⟩,e1,i5⟩=>XH 9 Z g (λ_ q=>kP Z (lA (oe.hp _) (e1.mono (nI λb o p=>q.2 b o (Ml p))) aR aC)) (bS a λk7 e5 a=>XE 10 Z (CM (h7,h8) d d2 (lm.refl _) (zH.mk lc lc (kN.mk ⟨h3,Z,e7⟩) (kN.mk ⟨h4,Z,e8⟩) d.lb) Z (pj Z Z) e5 λj6 d=>?_))))))))))
   have g:=d.has.kM (Kr Sn)
   refine ⟨g,ml kr (kW (CI a Z (λd4 a=>?_) λd4 a=>?_))⟩
   ·refine sg (Wh y (Wh G (bS a λ_ x a=>VQ (GJ (i:=t) aD aC Z Z B (vp x) (vl x)) λc4 K=>Wa (lS (Wa (ln ?_))))))
    refine CJ a (λT E W=>∃a2 b9,ST false (keys (qf++[])) qa W qb (a2++b9)∧E 0=q0∧E 5=vI T.2∧mn 62 kN 5 qb q0 T.1 a2) (λT d8=>?_) ?_
    ·refine mA (nQ (λm E W=>∃a5 J U u c0,ST false (keys (qf++[])) qa W qb (J++c0)∧E 0=q0∧E 1=q1∧E 5=vI U∧E 6=c4∧E 7=vI u∧mn 62 kN 5 qb q0 a5 J∧oJ t f1 m a5 U u=some T) lP ⟨qv,qf,t,1,_,d.kM,y,a3,G,Z,Z,B,d8⟩ ?_)
     rintro m E W ⟨a5,J,U,u,c0,d,N,a4,Q,H,I,k,j⟩
     cases m with
     | zero=>rw [oJ] at j; cases j
     | succ h2=>
      refine kY (sg (Wh I (Wh H (V (Ub aD Z K k) (Wi Z (ln (CI j Z (λd5 j=>?_) λd5 j=>?_)))))))
      ·refine kn (kY (CJ j (λs E W=>∃M c1,ST false (keys (qf++[])) qa W qb (M++c1)∧E 0=q0∧E 1=q1∧E 5=vI s.2∧E 6=c4∧E 7=vI u∧mn 62 kN 5 qb q0 s.1 M) (λs c=>?_) ?_))
       ·refine mA (kY ?_)
        have d:=d.drew
        have g:=d.has.kM (Kr Sn)
        refine mh g lM (X 0 Z g (kT a4) (X 1 Z g (kT H) (X 2 Z g (kT I) (bS c λi0 b4 c=>XQ 3 Z g (GR (i:=u) kN.out aD aC Z Z k K (lR b4) (lK b4)) λk3 ⟨_,⟨h5,rfl,f4⟩,e2,i6⟩=>XH 4 Z g (λ_ q=>kP Z (lA (oe.hp _) (e2.mono (nI λb o p=>q.2 b o (Ml p))) aR aC)) (X 5 Z g (kT H) (X 6 Z g (kT I) (X 7 Z g (lI Z Z Z) (bS c λi1 b5 c=>XQ 8 Z g (GR (i:=wi0 .i64 (u-1)) kN.out aD aC Z Z k K (lR b5) (lK b5)) λk4 ⟨_,⟨h6,rfl,f5⟩,e3,i7⟩=>XH 9 Z g (λ_ q=>kP Z (lA (oe.hp _) (e3.mono (nI λb o p=>q.2 b o (Ml p))) aR aC)) (bS c λk8 e6 c=>XE 10 Z (CM (i0,i1) d d2 (lm.refl _) (zH.mk lc lc (kN.mk ⟨h5,Z,f4⟩) (kN.mk ⟨h6,Z,f5⟩) d.lb) Z (pj Z Z) e6 λj8 d=>?_))))))))))
        have g:=d.has.kM (Kr Sn)
        refine ⟨g,X 11 Z g (nt Z) (ml kr (kW (CI c Z (λd6 c=>?_) λd6 c=>?_)))⟩
        ·refine sg (Wh N (Wh Q (Wh H (Wh I (bS c λc7 b6 c=>VQ (GR (i:=u) kN.out aD aC Z Z k K (lR b6) (lK b6)) λk5 ⟨_,⟨l0,rfl,O⟩,e4,i8⟩=>V (kP Z (lA (oe.hp _) (e4.mono (nI λb o p=>d.has.2 b o (Ml p))) aR aC)) (bS c λl2 Y c=>VQ (ni (i:=U) kN.out aD aC Z Z k (lR Y) (lK Y)) λk6 ⟨_,⟨l1,rfl,j3⟩,i9,d7⟩=>?_))))))
         obtain ⟨f7,g0,rfl⟩:=O.form
         refine VO (vw (x1:=c7) lc d k Z Z (kN.mk ⟨.slice f7 c7.Kids.length g0,Z,O⟩) d7 (lK Y) aC λj9 f8 d d1=>ln (kX (Wh Q (Wi Z (Wa (lC (lD (kW ?_))))))))
         cases sj c
         exact ⟨f8,_,d.kM,N,a4,Z,H,I,d1⟩
        refine lU (lD (kW ?_))
        cases sj c
        exact ⟨J,_,d.kM,N,a4,Q,H,I,k⟩
       rintro ⟨g9,h9⟩ E W ⟨M,c1,d,g1,g2,g3,g4,g7,f3⟩ d9
       exact kX (Wh g7 (Wi Z (Wa (ln ⟨h2,bB _,g9,M,h9,wi0 .i64 (u+1),_,d.kM,g1,g2,g3,g4,Z,f3,d9⟩))))
      refine nB (nv (nv (ry (kW ?_))))
      cases sj j
      exact ⟨J,_,d.kM,N,Q,k⟩
    rintro ⟨k0,c6⟩ E W ⟨a2,b9,d,c2,c3,L⟩ D
    refine sg (Wh c2 (Wh c3 (bS D λ_ A D=>VQ (GJ (i:=c6) aD aC Z Z L (vp A) (vl A)) λk9 e9=>VO (Js (z:=(⟨0,0,K0,[]⟩:Formula)) (zs:=C5) lc d L (kN.mk ⟨vN,Z,Sl.nil _ _ _⟩) aD aU e9 Z Z (λj7 j5 d d0=>lr (Wh c2 (Wh c3 (bS D λ_ a9 D=>VQ (II (i:=c6) aD aC Z Z d0 (vp a9) (vl a9)) λc5 f0=>?_))))))))
    refine Wa (lt (mG (ly (ly (mG (ly ?_))))))
    cases sj D
    refine ma (v:=c5) Z Z ?_
    obtain ⟨l3,d,c8,h,f2⟩:=ST.xW lc d f0
    exact ⟨_,_,_,Z,d.lZ Sn,c8,h,ST.lp d (mu.mem Sn),c5,Z,Z,f2⟩
   exact lU (lD (kW (kX (Wh G (Wi Z (Wa (ln ⟨h1,bB _,wi0 .i64 (t+1),_,d.kM,y,a3,Z,a⟩)))))))
  refine nB (nv (nv (ry (kW (sg (Wh y (Wa (lt ?_))))))))
  cases sj a
  refine ma (v:=q0) Z Z ?_
  obtain ⟨l4,d,c9,n,f6⟩:=ST.xW lc d B
  exact ⟨_,_,_,Z,d.lZ Sn,c9,n,ST.lp d (mu.mem Sn),q0,Z,Z,f6⟩
theorem vt {f2:(Formula×Formula)→Option Bool} (x:Sl kN 5 (hp qa) q0 qv) (N:Sl kN 5 (hp qa) q1 qw) (a4:Ce pg0 q2 (hp qa) (zH kN kN) (λ(qt:Bool)=>vB qt) f2) (hm:oI qv qw f2=some qt) :
  lF false pg0 248 [q0,q1,q2] qa (vB qt):=by
 refine cG 32 func248 Z (λd=>sg (Wa (lS (Wm (V (lT aD Z x) (Wm (V (lT aD Z N) (Wi Z (lC ?_)))))))))
 refine kW (CI hm Z (λp hm=>?_) λp hm=>?_)
 ·refine sg (Wa (lt (ly ?_)))
  cases sj hm
  exact rP d
 refine kS (Wm (V (lT aD Z x) (Wm (ln (mJ 17 16 (λi q E W=>∃y,ST false lN qa W (hp qa) y∧E 1=q1∧E 2=q2∧E 15=q0∧mY qw f2 q i=some qt) x.len ⟨_,d.kM,Z,Z,Z,hm⟩ ?_ ?_)))))
 ·rintro n g c2 E W a5 ⟨⟨h,o⟩,y,d,z,B,D,c⟩
  refine sg (Wh h (VQ (my (i:=(n:Int)) (x0:=g) kN.out aD aC D h x (aG _) a5) λL ⟨_,⟨R,rfl,J⟩,T⟩=>V (kP Z (lA d.has T aR aC)) (VE (lq d aU λs G d=>Wa ?_))))
  obtain ⟨j,t,rfl⟩:=J.form
  let a2:=C1 g.Op g.K g.kL.kO g.kL.Word j g.Kids.length t
  refine VO (FA a2.toArray d aC λa9 d=>lr (Wh z (Wm (bS c λa M c=>VQ (my (i:=(n:Int)) (x0:=a) kN.out aD aC Z Z N (lR M) (lK M)) λO ⟨_,⟨c0,rfl,K⟩,U⟩=>V (kP Z (lA d.has U aR aC)) (VE (lq d aU λv I d=>?_))))))
  obtain ⟨k,u,rfl⟩:=K.form
  let a3:=C1 a.Op a.K a.kL.kO a.kL.Word k a.Kids.length u
  refine VO (FA a3.toArray d aC λw d=>lr (Wh B (VA d (Mt Mh) a2 aR aC (VA d Mh a3 aR aC (bS c λP Y c=>VE (CM (g,a) d a4 (lm.refl _) (zH.mk lc lc (kN.mk ⟨.slice j g.Kids.length t,Z,J⟩) (kN.mk ⟨.slice k a.Kids.length u,Z,K⟩) d.lb) Z (pj Z Z) Y λA d=>V (nt Z) (ln ?_)))))))
  have d:=d.kM (Db (Db St))
  refine CI c Z (λQ c=>?_) (λQ c=>?_)
  ·refine sg (Wa (lt (mG (ly (mG (ly ?_))))))
   cases sj c
   exact rP d
  exact lU (lD (kW ⟨h,o,_,d.kM,z,B,D,c⟩))
 rintro E W ⟨⟨h,o⟩,y,d,z,B,D,c⟩
 exact kW (sg (Wa (lt (rQ c d))))
theorem Jn (M:Formula→Formula→Option Bool) (O:∀(a:Formula) (j:Value) (c:Formula) (k:Value) (r:Bool) (w:World) (u:Sl kN 5 (hp w) j a.Kids) (y:Sl kN 5 (hp w) k c.Kids),M a c=some r→lF false pg0 241 [vA [vI a.Op,vI a.K,vS a.kL.kO,vS a.kL.Word,j],vA [vI c.Op,vI c.K,vS c.kL.kO,vS c.kL.Word,k]] w (vB r)) (a:Formula) (j:Value) (c:Formula) (k:Value) (r:Bool) (w:World) (u:Sl kN 5 (hp w) j a.Kids) (y:Sl kN 5 (hp w) k c.Kids) (hm:Be M a c=some r) :
  lF false pg0 241 [vA [vI a.Op,vI a.K,vS a.kL.kO,vS a.kL.Word,j],vA [vI c.Op,vI c.K,vS c.kL.kO,vS c.kL.Word,k]] w (vB r):=by
 refine cG 31 func241 Z (λd=>sg ?_)
 obtain ⟨N,Y,rfl⟩:=u.form
 let h:=C1 a.Op a.K a.kL.kO a.kL.Word N a.Kids.length Y
 refine VE (lY d Z (λW4 T d=>?_))
 obtain ⟨Q,q,rfl⟩:=y.form
 let a0:=C1 c.Op c.K c.kL.kO c.kL.Word Q c.Kids.length q
 refine VE (lY d Z (λW8 U d=>Wa (lr (Wf pD (VB d (Mt Mh) Z Z bH (Wf pD (VB d Mh Z Z bH (Wi Z (Wm (LJ hm (λa9 E W=>∃a2,ST false lN w W (hp w) ((U,Ol a0 62)::((T,Ol h 62)::a2))∧E 2=vP T∧E 3=vP U∧E 4=vB false∧E 16=vB a9) 6 ?_ λa9 D I=>?_))))))))))
 ·rintro d1 E W ⟨a2,d,J,K,a5,P⟩ s
  refine Wh P (LJ s (λp E W=>∃a3,ST false lN w W (hp w) ((U,Ol a0 62)::((T,Ol h 62)::a3))∧E 2=vP T∧E 3=vP U∧E 4=vB false∧E 23=vB p) 6 ?_ λp B H=>?_)
  ·rintro d2 E W ⟨a3,d,R,c0,n,c1⟩ v
   refine Wh c1 (LJ v (λo E W=>∃a4,ST false lN w W (hp w) a4∧E 4=vB false∧E 30=vB o) 6 ?_ λo z G=>?_)
   ·rintro d3 E W ⟨a4,d,c9,c3⟩ A
    exact Wg c3 (lt (rQ A d))
   refine bC z (λi z=>?_) (λi z=>?_)
   ·refine ug i (kU pG R) (ug i (kP Z (kZ d.has (Mt Mh) Z ei)) (ug i (kU pG c0) (ug i (kP Z (kZ d.has Mh Z ei)) (bS z λd0 L z=>sh i (Eg d call248 (vt (u.mono lc.mono d.lb) (y.mono lc.mono d.lb) ⟨241,#[],#[],Z,call241,λW x vs r hs hR hm=>by obtain ⟨_,_,rfl,c4,c5⟩:=hR; obtain ⟨u0,rfl,k0⟩:=c4.out; obtain ⟨t0,rfl,j0⟩:=c5.out; exact O x.1 u0 x.2 t0 r W k0 j0 hm⟩ L) λc8 d=>V (lh (cB i) Z) ?_)))))
    cases sj z
    exact G _ _ ⟨_,d.kM (Db (Db St)),n,Z⟩
   refine un i (un i (un i (un i (un i (V (lg (cB i) Z) ?_)))))
   cases sj z
   exact G _ _ ⟨_,d.kM (Db (Db St)),n,Z⟩
  refine bC B (λg B=>?_) (λg B=>?_)
  ·refine ug g (kU yB J) (ug g (kP Z (kV d.has (Mt Mh) (kR a.kL) Z bE aI)) (ug g (kU yB K) (ug g (kP Z (kV d.has Mh (kR c.kL) Z bE aI)) (ug g (wE Z Z (nY dN) (so (rS _ a.kL c.kL))) (V (lh (cB g) Z) ?_)))))
   cases sj B
   exact H _ _ ⟨_,d.kM,J,K,a5,Z⟩
  refine un g (un g (un g (un g (un g (V (lg (cB g) Z) ?_)))))
  cases sj B
  exact H _ _ ⟨_,d.kM,J,K,a5,Z⟩
 refine bC D (λt D=>?_) (λt D=>?_)
 ·refine ug t (kU wO Z) (ug t (kP Z (kZ d.has (Mt Mh) Z bH)) (ug t (kU wO Z) (ug t (kP Z (kZ d.has Mh Z bH)) (ug t (lI Z Z Z) (V (lh (cB t) Z) ?_)))))
  cases sj D
  exact I _ _ ⟨_,d.kM,Z,Z,Z,Z⟩
 refine un t (un t (un t (un t (un t (V (lg (cB t) Z) ?_)))))
 cases sj D
 exact I _ _ ⟨_,d.kM,Z,Z,Z,Z⟩
theorem Ij:∀(n:Nat) (g:Formula) (a:Value) (i:Formula) (c:Value) (r:Bool) (w:World) (j:Sl kN 5 (hp w) a g.Kids) (k:Sl kN 5 (hp w) c i.Kids) (_:sN n g i=some r),
  lF false pg0 241 [vA [vI g.Op,vI g.K,vS g.kL.kO,vS g.kL.Word,a],vA [vI i.Op,vI i.K,vS i.kL.kO,vS i.kL.Word,c]] w (vB r)
 | 0=>by intros; rename_i h; simp only [sN] at h; cases h
 | n+1=>Jn (sN n) (Ij n)
theorem yE {a0:mE} {r:(Formula×mE)} (h0:nN qb ((qk,Ol (np a0) 273)::[]) qa) (b5:Sl kN 5 qb q0 qv) (hm:rX a0 qc qv=some r) :
  mq false pg0 225 [vP qk,vI qc,q0] qa qb ((qk,Ol (np a0) 273)::[]) (λv L1 μ1=>∃R,v=vA [vI r.1.Op,vI r.1.K,vS r.1.kL.kO,vS r.1.kL.Word,R]∧L1=((qk,Ol (np r.2) 273)::[])∧Sl kN 5 μ1 R r.1.Kids):=by
 refine ve h0 37 func225 Z (λc=>sg (VE (lq c aU λW2 L c=>lr (Wm (Wi Z (VE (lq c kk λW4 b3 c=>VO (lz (vI (wi0 .i64 (5-qc))) (#[vI (wi0 .i64 (5-qc))]) c Z Z dH (uk _ (wi0 .i64 (5-qc))) nb Z (λW5 c=>ln (kY ?_))))))))))
 let a4:=wi0 .i64 (5-qc)
 let a9:Value:=vA (Nt a4)
 refine kX (Wm (Wm (bS hm λr6 d1 hm=>?_)))
 refine VE (eD c (bJ _) call238 (λo=>mq.mF (PS o (b5.mono lc.mono (lm.refl _)) d1)) ?_ (L0:=[]))
 rintro _ f4 aa e2 c B d ⟨a7,H,rfl,a3⟩
 obtain rfl:=H.symm
 refine Wa (lS (Wm (V (zB (by exact sD Z) Z) (bS hm λf3 c1 hm=>VE (Eg c call206 (zM (a3.mono lc.mono c.lb) ⟨239,#[],#[vP b3],Z,call239,λW x vs r O q hm=>by obtain ⟨_,rfl,U⟩:=q; obtain ⟨P,rfl,s⟩:=U.out; exact (F5 s (At.of (O _ _ (c.at_ Mh)) _ Z) hm).mF⟩ c1) λe5 c=>ln (CI hm Z (λb6 hm=>?_) λb6 hm=>?_))))))
 ·refine sg (VB c Mh Z Z bH (V (lX (v:=a9) (mB Z) (lG aU bM (yU _ bM) kr)) ?_))
  have c:=c.perm (Nb (Pb Pz) Nz)
  refine VO (lz a9 ((Nt a4).toArray) c Z Z aC oc nb Z (λe6 c=>ln ?_))
  have c:=c.kM (Kb (Db St))
  refine lB (ly ?_)
  obtain rfl:=sj hm
  exact mR (v:=a9) Z Z (kV c.has Mh (Nt a4) Z aR aC) ⟨_,_,_,Z,c.lZ (Db (Kb Sn)),B,d,ST.lp c (mu.mem (Db (Kb Sn))),vN,Z,Z,Sl.nil _ _ _⟩
 refine kn ?_
 have c:=c.kM (Db St)
 refine sg (Wm (bS hm λd2 c2 hm=>?_))
 refine VE (eD c (bJ _) call237 (λo=>Ib o (a3.mono lc.mono (lm.refl _)) c2) ?_ (L0:=[]))
 rintro _ f5 f9 e3 c N h ⟨d5,c7,I,rfl,c4⟩
 obtain rfl:=I.symm
 have c:=c.perm (Tr Tn)
 refine bS hm λz c3 hm=>?_
 refine VE (eD c (Cr Qz Cn) call240 (λo=>EL o c4 ⟨241,#[],#[],Z,call241,λW x vs r O q hm=>by obtain ⟨_,_,rfl,U,d0⟩:=q; obtain ⟨P,rfl,s⟩:=U.out; obtain ⟨t0,rfl,j0⟩:=d0.out; exact (Ij lP) x.1 P x.2 t0 r W s j0 hm⟩ c3) ?_)
 rintro _ f6 d7 e4 c Q j ⟨d6,J,rfl,y⟩
 obtain rfl:=J.symm
 refine Wa (ln (kY (CJ hm (λA E W=>∃a5,ST false (keys ((qk,Ol (np a0) 273)::[])) qa W d7 ((L,Ol C5 62)::((qk,Ol (np A) 273)::a5))∧E 1=vI qc∧E 6=vP L∧E 8=d6) (λA u=>?_) ?_)))
 ·refine sg (Wm (V (lT aD Z y) (Wi Z (ln (CI u Z (λb9 u=>?_) λb9 u=>?_)))))
  ·refine kX (Wm (Wn (Wf SI ?_)))
   have c:=c.perm (Nb (Pb Pz) Nz)
   refine VO (lz (vI 12) ((np (⟨12⟩:mE)).toArray) c Z Z kA (uk _ 12) nb Z (λf1 c=>ln ?_))
   obtain rfl:=sj u
   exact ⟨_,c.kM (Sb (Pb Pz) St),Z,Z,Z⟩
  refine kn ?_
  obtain rfl:=sj u
  exact ⟨_,c.kM,Z,Z,Z⟩
 rintro f8 E W ⟨a5,c,c9,M,T⟩ g
 refine kY (sg (Wh T (V (lT aD Z y) (Wi Z (ln (CI g Z (λb7 g=>?_) λb7 g=>?_))))))
 ·refine sg (Wh T (bS g λa w g=>VQ (my (i:=0) (x0:=a) kN.out aD aC Z Z y (lR w) (lK w)) λf2 ⟨_,⟨f7,rfl,Y⟩,c0⟩=>V (kP Z (lA c.has c0 aR aC)) ?_))
  obtain ⟨D,G,rfl⟩:=Y.form
  let p:=C1 a.Op a.K a.kL.kO a.kL.Word D a.Kids.length G
  refine VO (lz (vA p) p.toArray c M Z aC oc nb Z (λe9 c=>lt (ly ?_)))
  obtain rfl:=sj g
  exact mR (v:=vA p) Z M (kV c.has Mh p Z aR aC) ⟨_,_,_,Z,c.lZ (Db (Kb Sn)),(B.trans N).trans Q,(d.trans h).trans j,ST.lp c (mu.mem (Db (Kb Sn))),.slice D a.Kids.length G,Z,Z,Y⟩
 refine kg (Wh c9 (Wh T ?_))
 obtain ⟨k,t,rfl⟩:=y.form
 let n:=C15 qc k z.length t
 refine V (lX (v:=vA n) (pF Z Z) (lG aU bM (yU _ bM) kr)) (VO (lz (vA n) n.toArray c M Z aC oc nb Z (λf0 c=>lt ?_)))
 obtain rfl:=sj g
 exact mR (v:=vA n) Z M (kV c.has Mh n Z aR aC) ⟨_,_,_,Z,c.lZ (Db (Kb Sn)),(B.trans N).trans Q,(d.trans h).trans j,ST.lp c (mu.mem (Db (Kb Sn))),.slice k z.length t,Z,Z,y⟩
theorem FV {a0:mE} {r:(Formula×mE)} (h0:nN qb ((qk,Ol (np a0) 273)::[]) qa) (c0:Sl kN 5 qb q0 qv) (hm:vm a0 qc qv=some r) :
  mq false pg0 224 [vP qk,vI qc,q0] qa qb ((qk,Ol (np a0) 273)::[]) (λv L1 μ1=>∃y1,v=vA [vI r.1.Op,vI r.1.K,vS r.1.kL.kO,vS r.1.kL.Word,y1]∧L1=((qk,Ol (np r.2) 273)::[])∧Sl kN 5 μ1 y1 r.1.Kids):=by
 let j3:=((np a0).toArray:Array Value)
 refine ve h0 58 func224 Z (λd=>sg (VE (lq d aU λW2 b1 d=>lr (Wa (lS (Wm ?_))))))
 refine V (lT aD Z c0) (Wm (ln (mJ 12 11 (λi js E W=>∃x K J N b9,ST false (keys ((qk,oC j3 273)::[])) qa W qb ((b1,Ol C5 62)::((qk,oC j3 273)::(N++b9)))∧E 0=vP qk∧E 1=vI x∧E 6=vP b1∧E 7=K∧E 10=q0∧mn 62 kN 5 qb K J N∧oD a0 js x J=some r) c0.len ⟨qc,vN,[],[],_,d.kM,Z,Z,Z,Z,Z,mn.nil _ _ _ _,hm⟩ ?_ ?_)))
 ·rintro g7 c h5 E W g2 ⟨⟨R,eN⟩,x,K,J,N,b9,d,U,H,u,I,O,D,a⟩
  refine sg (VQ (my (i:=(g7:Int)) (x0:=c) kN.out aD aC O R c0 (aG _) g2) λk4 ⟨_,⟨k7,rfl,Y⟩,f0⟩=>V (kP Z (lA d.has f0 aR aC)) (VE (lq d aU λi3 k1 d=>?_)))
  obtain ⟨y,z,rfl⟩:=Y.form
  let j2:Value:= .slice y c.Kids.length z
  let P:=C1 c.Op c.K c.kL.kO c.kL.Word y c.Kids.length z
  refine VO (FA P.toArray d aC λi4 d=>ln (bg (VA d Mh P aR aC (bS a λk5 f1 a=>VE (Eg d call234 (lF.mF (EM (Y.mono lc.mono d.lb) f1)) λi5 d=>Wa (ln (CI a Z (λe3 a=>?_) λe3 a=>?_)))))))
  ·refine kX (Wh H (Wi Z (Wa (lC (lD (lD (kW ?_)))))))
   have d:=d.kM (Db St)
   exact ⟨R,eN,wi0 .i64 (x-1),K,J,N,_,d.kM,U,Z,u,I,O,D,a⟩
  refine sg (VA d Mh P aR aC (bS a λk6 f2 a=>VE (Eg d call234 (lF.mF (EM (Y.mono lc.mono d.lb) f2)) λi6 d=>V (nt Z) (Wa (ln (CI a Z (λe4 a=>?_) λe4 a=>?_))))))
  ·refine kX (Wh I (VA d Mh P aR aC (VE (lE (cs:=P.toArray) d (mB Z) (ng aD aC aU) λi7 k2 d=>?_))))
   have d:=d.perm (Nr (Qb (Qb (Qb (Qb Qz)))) Nz)
   refine bS a λg8 e5 a=>VE (sk (B:=N) lc d dc aD ny.1 ny.2.1 Z ny.2.2.1 ny.2.2.2 Z Z D (Br.lit lc (l:=[c]) (.cons (ys:=C1 c.Op c.K c.kL.kO c.kL.Word y c.Kids.length z) (kN.mk ⟨j2,Z,Y⟩) .nil) Z nb (d.at_ (Ma Mh))) e5 λi8 g9 g3 d e2=>Wa (lC (lD (lD (kW ?_)))))
   have d:=d.kM (Kr (Db (Db St)))
   exact ⟨R,eN,x,g9,g8,g3,_,d.kM (Sb (Pr Pz) (Sb (Pr Pz) St)),U,H,u,Z,O,e2,a⟩
  refine lU (lD (lD (kW ?_)))
  have d:=d.kM (Db St)
  exact ⟨R,eN,x,K,J,N,_,d.kM,U,H,u,I,O,D,a⟩
 rintro E W ⟨⟨R,eN⟩,x,K,J,N,b9,d,U,H,u,I,O,D,a⟩
 refine kW (kY (bg (Wh H (Wi Z (Wa (ln (CI a Z (λe6 a=>?_) λe6 a=>?_)))))))
 ·refine sg (bS a λg f3 a=>?_)
  let i9:Value:=vS g.kL.Word
  let h4:Value:=vS g.kL.kO
  refine VE (eD d (bJ _) call235 (λh=>mq.mF (MK h  f3)) ?_ (L0:=[]))
  rintro _ k8 l9 h7 d c7 n ⟨l3,b2,rfl,c2⟩
  cases b2
  obtain ⟨Zq,a6,rfl⟩:=c2.form
  let g4:Value:= .slice Zq g.Kids.length a6
  let d8:Value:=vA [vI g.Op,vI g.K,h4,i9,g4]
  refine VO (lz d8 (#[vI g.Op,vI g.K,h4,i9,g4]) d u Z aC oc nb Z (λj0 d=>ln ?_))
  have d:=d.kM (Kb (Kb (Dr St)))
  refine lB (mG (ly ?_))
  cases sj a
  exact mR (v:=d8) Z u (kV d.has Mh [vI g.Op,vI g.K,h4,i9,g4] Z aR aC) ⟨_,_,_,Z,d.lZ (Db (Kb Sn)),c7,n,ST.lp d (mu.mem (Db (Kb Sn))),g4,Z,Z,c2⟩
 refine sg (Wh H (Wh I (V (xE aD Z D) (Wi Z (Wa (ln (CI a Z (λe7 a=>?_) λe7 a=>?_)))))))
 ·refine sg (bS a λj f4 a=>?_)
  let j1:Value:=vS j.kL.Word
  let h6:Value:=vS j.kL.kO
  refine VE (eD d (bJ _) call236 (λh=>mq.mF (N5 h  f4)) ?_ (L0:=[]))
  rintro _ k9 m0 h8 d c8 o ⟨l4,b3,rfl,c3⟩
  cases b3
  obtain ⟨a3,a7,rfl⟩:=c3.form
  let e1:Value:= .slice a3 j.Kids.length a7
  let d7:Value:=vA [vI j.Op,vI j.K,h6,j1,e1]
  refine VO (lz d7 (#[vI j.Op,vI j.K,h6,j1,e1]) d u Z aC oc nb Z (λj4 d=>ln ?_))
  have d:=d.kM (Kb (Kb (Dr St)))
  refine lB (mG (ly ?_))
  cases sj a
  exact mR (v:=d7) Z u (kV d.has Mh [vI j.Op,vI j.K,h6,j1,e1] Z aR aC) ⟨_,_,_,Z,d.lZ (Db (Kb Sn)),c8,o,ST.lp d (mu.mem (Db (Kb Sn))),e1,Z,Z,c3⟩
 refine sg (Wh H (Wh I (V (xE aD Z D) (Wi Z (Wa (ln (CI a Z (λe8 a=>?_) λe8 a=>?_)))))))
 ·refine sg (Wh U (Wh I ?_))
  have d:=d.perm (Nr (Qb (Qb Qz)) Nz)
  obtain ⟨m1,d,c9,p,f8⟩:=ST.xW lc d D
  refine bS a λk f5 a=>?_
  let h2:Value:=vS k.1.kL.Word
  let g6:Value:=vS k.1.kL.kO
  refine VE (eD d (Cb (Pb Pz) Cn) call225 (λh=>yE h (f8.mono lc.mono (lm.refl _)) f5) ?_)
  rintro _ l0 m2 h9 d d0 q ⟨l5,b4,rfl,c4⟩
  cases b4
  have d:=d.perm (Tb Tn)
  obtain ⟨a4,a8,rfl⟩:=c4.form
  let d9:Value:= .slice a4 k.1.Kids.length a8
  let b8:Value:=vA [vI k.1.Op,vI k.1.K,g6,h2,d9]
  have d:=d.perm (Nb (Pb Pz) Nz)
  refine VO (lz b8 (#[vI k.1.Op,vI k.1.K,g6,h2,d9]) d u Z aC oc nb Z (λj6 d=>lt (mG (ly ?_))))
  cases sj a
  exact mR (v:=b8) Z u (kV d.has Mh [vI k.1.Op,vI k.1.K,g6,h2,d9] Z aR aC) ⟨_,_,_,Z,d.lZ (Db (Kb Sn)),c9.trans d0,p.trans q,ST.lp d (mu.mem (Db (Kb Sn))),d9,Z,Z,c4⟩
 refine sg (Wh H (Wi Z (Wa (ln (CI a Z (λe9 a=>?_) λe9 a=>?_)))))
 ·refine sg (Wh U (Wh I ?_))
  have d:=d.perm (Nr (Qb (Qb Qz)) Nz)
  obtain ⟨m3,d,d1,s,f9⟩:=ST.xW lc d D
  refine bS a λt f6 a=>?_
  let h3:Value:=vS t.1.kL.Word
  let h1:Value:=vS t.1.kL.kO
  refine VE (eD d (Cb (Pb Pz) Cn) call225 (λh=>yE h (f9.mono lc.mono (lm.refl _)) f6) ?_)
  rintro _ l1 m4 i0 d d2 w ⟨l6,b5,rfl,c5⟩
  cases b5
  have d:=d.perm (Tb Tn)
  obtain ⟨a5,a9,rfl⟩:=c5.form
  let e0:Value:= .slice a5 t.1.Kids.length a9
  let d6:Value:=vA [vI t.1.Op,vI t.1.K,h1,h3,e0]
  have d:=d.perm (Nb (Pb Pz) Nz)
  refine VO (lz d6 (#[vI t.1.Op,vI t.1.K,h1,h3,e0]) d u Z aC oc nb Z (λj8 d=>lt (mG (ly ?_))))
  cases sj a
  exact mR (v:=d6) Z u (kV d.has Mh [vI t.1.Op,vI t.1.K,h1,h3,e0] Z aR aC) ⟨_,_,_,Z,d.lZ (Db (Kb Sn)),d1.trans d2,s.trans w,ST.lp d (mu.mem (Db (Kb Sn))),e0,Z,Z,c5⟩
 refine lU (lD (kW (sg (Wh H (Wh I ?_)))))
 have d:=d.perm (Nr (Qb (Qb Qz)) Nz)
 obtain ⟨m5,d,d3,A,g0⟩:=ST.xW lc d D
 refine bS a λT f7 a=>?_
 refine VE (eD d (bJ _) call237 (λh=>Ib h (g0.mono lc.mono (lm.refl _)) f7) ?_ (L0:=[]))
 rintro _ l2 m6 i1 d d4 G ⟨l7,i2,b6,rfl,c6⟩
 cases b6
 have d:=d.perm (Tr Tn)
 obtain ⟨M,Q,rfl⟩:=c6.form
 let g5:=C16 x M T.length Q
 refine V (lX (v:=vA g5) (KD Z Z Z) (lG aU bM (yU _ bM) kr)) ?_
 have d:=d.perm (Nb (Pr Pz) Nz)
 refine VO (lz (vA g5) g5.toArray d u Z aC oc nb Z (λk0 d=>lt ?_))
 cases sj a
 refine mR (v:=vA g5) Z u (kV d.has Mh g5 Z aR aC) ?_
 have d:=d.perm (Nr (Qb Qz) Nz)
 obtain ⟨m7,d,d5,L,g1⟩:=ST.xW lc d c6
 exact ⟨_,_,_,Z,d.lZ (Db (Kb Sn)),(d3.trans d4).trans d5,(A.trans G).trans L,ST.lp d (mu.mem (Db (Kb Sn))),.slice M T.length Q,Z,Z,g1⟩
theorem EQ (c9:mE→Formula→Option (Formula×mE)) (e6:∀(u:Nat) (a0:mE) (a:Formula) (y:Value) (r:(Formula×mE)) (w:World) {μ0:mc} (h0:nN μ0 ((u,Ol (np a0) 273)::[]) w) (x:Sl kN 5 μ0 y a.Kids),c9 a0 a=some r→mq false pg0 203 [vP u,vA [vI a.Op,vI a.K,vS a.kL.kO,vS a.kL.Word,y]] w μ0 ((u,Ol (np a0) 273)::[]) λv L1 μ1=>∃O,v=vA [vI r.1.Op,vI r.1.K,vS r.1.kL.kO,vS r.1.kL.Word,O]∧L1=((u,Ol (np r.2) 273)::[])∧Sl kN 5 μ1 O r.1.Kids) (u:Nat) (a0:mE) (a:Formula) (y:Value) (r:(Formula×mE)) (w:World) {μ0:mc} (h0:nN μ0 ((u,Ol (np a0) 273)::[]) w) (x:Sl kN 5 μ0 y a.Kids) (hm:xg c9 a0 a=some r) :
  mq false pg0 203 [vP u,vA [vI a.Op,vI a.K,vS a.kL.kO,vS a.kL.Word,y]] w μ0 ((u,Ol (np a0) 273)::[]) (λv L1 μ1=>∃O,v=vA [vI r.1.Op,vI r.1.K,vS r.1.kL.kO,vS r.1.kL.Word,O]∧L1=((u,Ol (np r.2) 273)::[])∧Sl kN 5 μ1 O r.1.Kids):=by
 let d0:=(u,Ol (np a0) 273)::[]
 refine ve h0 39 func203 Z (λd=>sg ?_)
 obtain ⟨A1,c2,rfl⟩:=x.form
 let A:=C1 a.Op a.K a.kL.kO a.kL.Word A1 a.Kids.length c2
 refine VE (lY d Z (λW4 b3 d=>VE (lq d aU λW6 b5 d=>lS (Wf pD (VB d (Mt Mh) Z Z bH (Wi Z (ln (CI hm Z (λf5 hm=>?_) λf5 hm=>?_))))))))
 ·refine sg (VA d (Mt Mh) A aR aC (VO (FA A.toArray d aC λW8 d=>ln ?_)))
  have d:=d.kM (Kb (Db St))
  refine lB (ly ?_)
  cases sj hm
  exact mR (v:=vA A) Z Z (kV d.has Mh A Z aR aC) ⟨_,_,_,Z,d.lZ (Db (Kb Sn)),lm.refl _,Lo.refl,ST.lp d (mu.mem (Db (Kb Sn))),.slice A1 a.Kids.length c2,Z,Z,x⟩
 refine kg (Wa (lS (Wf pG (VB d (Mt Mh) Z Z ei (V (lT aD Z x) (Wm (lC ?_)))))))
 refine kW (mJ 15 14 (λi js E W=>∃I H T D J b7,lm μ0 J∧Lo (keys d0) w μ0 J∧ST false (keys d0) w W J ((u,Ol (np D) 273)::((b5,Ol C5 62)::((b3,Ol A 62)::(T++b7))))∧E 0=vP u∧E 3=vP b3∧E 4=vP b5∧E 5=I∧E 13= .slice A1 a.Kids.length c2∧mn 62 kN 5 J I H T∧pX c9 a js H D=some r) x.len ⟨vN,[],[],a0,μ0,_,lm.refl _,Lo.refl,d.kM (Sb (Pb (Pb Pz)) St),Z,Z,Z,Z,Z,mn.nil _ _ _ _,hm⟩ ?_ ?_)
 ·rintro e7 t f6 E W e3 ⟨⟨eI,eN⟩,I,H,T,D,J,b7,z,h,d,a2,a3,G,R,b9,K,g⟩
  refine sg (VQ (my (i:=(e7:Int)) (x0:=t) kN.out aD aC b9 eI (x.mono lc.mono z) (aG _) e3) λh4 ⟨_,⟨h5,rfl,c0⟩,d7⟩=>V (kP Z (lA d.has d7 aR aC)) (VE (lq d aU λg0 h2 d=>?_)))
  obtain ⟨a7,a9,rfl⟩:=c0.form
  let a6:=C1 t.Op t.K t.kL.kO t.kL.Word a7 t.Kids.length a9
  refine VO (FA a6.toArray d aC λg1 d=>ln (kX (Wh R (Wh a2 (VA d Mh a6 aR aC (bS g λc d8 g=>?_))))))
  refine VE (eD d (Cb (Pb Pz) Cn) call203 (λL=>e6 u D t (.slice a7 t.Kids.length a9) _ _ L (c0.mono lc.mono (lm.refl _)) d8) ?_)
  rintro _ h6 f1 f7 d b6 n ⟨h9,b1,rfl,c1⟩
  cases b1
  have d:=d.perm (Tb Tn)
  obtain ⟨M,U,rfl⟩:=c1.form
  let d1:Value:= .slice M c.1.Kids.length U
  refine VE (lE (cs:=#[vI c.1.Op,vI c.1.K,vS c.1.kL.kO,vS c.1.kL.Word,d1]) d (mB Z) (ng aD aC aU) λg3 h3 d=>?_)
  have d:=d.perm (Nr (Qb (Qb (Qb (Qb (Qb Qz))))) Nz)
  refine bS g λe8 d5 g=>VE (sk (B:=T) lc d dc aD ny.1 ny.2.1 Z ny.2.2.1 ny.2.2.2 Z Z (K.mono lc b6) (Br.lit lc (l:=[c.1]) (.cons (ys:=[vI c.1.Op,vI c.1.K,vS c.1.kL.kO,vS c.1.kL.Word,d1]) (kN.mk ⟨d1,Z,c1⟩) .nil) Z nb (d.at_ (Ma Mh))) d5 λg4 e9 e5 d d4=>Wa (lC (lD (kW ?_))))
  have d:=d.kM (Kr (Db (Kb (Db St))))
  exact ⟨eI,eN,e9,e8,e5,c.2,f1,_,z.trans b6,h.trans n,d.kM (Sb (Pr Pz) (Sb (Pr Pz) (Sb (Pr Pz) St))),a2,a3,G,Z,b9,d4,g⟩
 rintro E W ⟨⟨eI,eN⟩,I,H,T,D,J,b7,z,h,d,a2,a3,G,R,b9,K,g⟩
 refine kW (kY (sg (V (kU pD a3) (VB d (Mt (Mt Mh)) Z Z bH (Wi Z (ln (CI g Z (λd6 g=>?_) λd6 g=>?_)))))))
 ·refine sg (Wh a2 (V (kU wO a3) (VB d (Mt (Mt Mh)) Z Z bH (Wh R ?_))))
  have d:=d.perm (Nr (Qb (Qb (Qb Qz))) Nz)
  obtain ⟨i2,d,c5,o,e1⟩:=ST.xW lc d K
  refine bS g λj d9 g=>?_
  let f0:Value:=vS j.1.kL.Word
  let d3:Value:=vS j.1.kL.kO
  refine VE (eD d (Cb Pz Cn) call224 (λL=>FV L (e1.mono lc.mono (lm.refl _)) d9) ?_)
  rintro _ h7 i3 f8 d c6 p ⟨i0,b2,rfl,c3⟩
  cases b2
  have d:=d.perm (Tb Tn)
  obtain ⟨N,Y,rfl⟩:=c3.form
  let b8:Value:= .slice N j.1.Kids.length Y
  let a5:Value:=vA [vI j.1.Op,vI j.1.K,d3,f0,b8]
  have d:=d.perm (Nb (Pb Pz) Nz)
  refine VO (lz a5 (#[vI j.1.Op,vI j.1.K,d3,f0,b8]) d G Z aC oc nb Z (λg8 d=>ln ?_))
  have d:=d.kM (Kb (Kb (Db St)))
  refine lB (ly ?_)
  cases sj g
  exact mR (v:=a5) Z G (kV d.has Mh [vI j.1.Op,vI j.1.K,d3,f0,b8] Z aR aC) ⟨_,_,_,Z,d.lZ (Db (Kb Sn)),(z.trans c5).trans c6,(h.trans o).trans p,ST.lp d (mu.mem (Db (Kb Sn))),b8,Z,Z,c3⟩
 refine kg (Wh a2 (V (kU pD a3) (VB d (Mt (Mt Mh)) Z Z bH (Wh R ?_))))
 have d:=d.perm (Nr (Qb (Qb (Qb Qz))) Nz)
 obtain ⟨i4,d,c7,q,e2⟩:=ST.xW lc d K
 refine bS g λk e0 g=>?_
 let f2:Value:=vI k.1.Op
 let e4:Value:=vS k.1.kL.Word
 let d2:Value:=vS k.1.kL.kO
 refine VE (eD d (Cb Pz Cn) call225 (λL=>yE L (e2.mono lc.mono (lm.refl _)) e0) ?_)
 rintro _ h8 i5 f9 d c8 s ⟨i1,b4,rfl,c4⟩
 cases b4
 have d:=d.perm (Tb Tn)
 obtain ⟨Q,Zq,rfl⟩:=c4.form
 let P:Value:= .slice Q k.1.Kids.length Zq
 let a4:Value:=vA [f2,vI k.1.K,d2,e4,P]
 have d:=d.perm (Nb (Pb Pz) Nz)
 refine VO (lz a4 (#[f2,vI k.1.K,d2,e4,P]) d G Z aC oc nb Z (λh1 d=>ln ?_))
 have d:=d.kM (Kb (Kb (Db St)))
 refine lB ?_
 cases sj g
 exact mR (v:=a4) Z G (kV d.has Mh [f2,vI k.1.K,d2,e4,P] Z aR aC) ⟨_,_,_,Z,d.lZ (Db (Kb Sn)),(z.trans c7).trans c8,(h.trans q).trans s,ST.lp d (mu.mem (Db (Kb Sn))),P,Z,Z,c4⟩
theorem Cc:∀(n:Nat) (c:Nat) (j:mE) (g:Formula) (a:Value) (r:(Formula×mE)) (w:World) {k:mc} (y:nN k ((c,Ol (np j) 273)::[]) w) (i:Sl kN 5 k a g.Kids) (_:pp n j g=some r),
  mq false pg0 203 [vP c,vA [vI g.Op,vI g.K,vS g.kL.kO,vS g.kL.Word,a]] w k ((c,Ol (np j) 273)::[]) (λv u x=>∃t,v=vA [vI r.1.Op,vI r.1.K,vS r.1.kL.kO,vS r.1.kL.Word,t]∧u=((c,Ol (np r.2) 273)::[])∧Sl kN 5 x t r.1.Kids)
 | 0=>by intros; rename_i h; simp only [pp] at h; cases h
 | n+1=>EQ (pp n) (Cc n)
theorem Lw (w:nN qb [] qa) (k:Sl kN 5 qb q0 qx.Kids) (hm:CB qx=some qX) :
  mq false pg0 179 [vA [vI qx.Op,vI qx.K,vS qx.kL.kO,vS qx.kL.Word,q0]] qa qb [] (λv L1 μ1=>∃s,v=vT [vA [vI qX.1.Op,vI qX.1.K,vS qX.1.kL.kO,vS qX.1.kL.Word,s],vI qX.2]∧L1=[]∧Sl kN 5 μ1 s qX.1.Kids):=by
 refine ve w 27 func179 Z (λc=>sg ?_)
 obtain ⟨H,I,rfl⟩:=k.form
 let p:=C1 qx.Op qx.K qx.kL.kO qx.kL.Word H qx.Kids.length I
 refine VE (lY c Z (λW4 L c=>VE (lq c aU λW6 q c=>Wa (lS (VA c (Mt Mh) p aR aC (bS hm λr7 a5 hm=>VE (Eg c call143 (Bj (k.mono lc.mono c.lb) a5) λW9 c=>V (nt Z) (ln (CI hm Z (λQ hm=>?_) λQ hm=>?_)))))))))
 ·refine sg (V (lX (v:=vA C5) oP (lG aU bM (yU _ bM) kr)) (VO (FA C5.toArray c aC λP c=>Wa (ln ?_))))
  have c:=c.kM (Kb (Db St))
  refine lB (ly ?_)
  cases sj hm
  exact rY (v0:=vA C5) (v1:=vI 11) Z Z (kV c.has Mh C5 Z aR aC) Z ⟨_,_,_,Z,c.lZ Sn,lm.refl _,Lo.refl,ST.lp c (mu.mem Sn),vN,Z,Z,Sl.nil _ _ _⟩
 refine kg (V (lX (v:=vA (np K5)) oP (lG zeroValue273 jT (abK _ jT) kr)) (VE (lY c Z (λR u c=>Wa (lr (Wm (VA c (Mt (Mt Mh)) p aR aC (bS hm λa U hm=>?_))))))))
 let o:Value:=vI a.1.K
 let n:Value:=vI a.1.Op
 let h:Value:=vS a.1.kL.Word
 let a2:Value:=vS a.1.kL.kO
 refine VE (eD c (Cb Pz Cn) call203 (λA=>(Cc lP) u K5 qx (.slice H qx.Kids.length I) _ _ A (k.mono lc.mono (lm.refl _)) U) ?_)
 rintro _ c7 a9 O c D d ⟨c9,y,rfl,z⟩
 cases y
 have c:=c.perm (Tb Tn)
 refine VE (lq c aU λc0 K c=>?_)
 obtain ⟨i,j,rfl⟩:=z.form
 let a0:Value:= .slice i a.1.Kids.length j
 let N:Value:=vA [n,o,a2,h,a0]
 refine VO (lz N (#[n,o,a2,h,a0]) c Z Z aC oc nb Z (λc1 c=>ln ?_))
 have c:=c.kM (Kb (Kb (Kb (Db St))))
 refine kY (sg (Wm (Wn (Wf SI (VB c (Mt Mh) Z Z kF (Wi Z (Wm (LJ hm (λM E W=>∃J,ST false (keys []) qa W a9 ((K,Ob #[n,o,a2,h,a0] 62)::((q,Ol C5 62)::J))∧E 2=vP q∧E 5=vP K∧E 24=vB M) 4 ?_ λM t G=>?_))))))))
 ·rintro c8 E W ⟨J,c,B,a3,a4⟩ x
  refine ln (CI x a4 (λT x=>?_) λT x=>?_)
  ·refine sg (V (lX (v:=vA C5) oP (lG aU bM (yU _ bM) kr)) ?_)
   have c:=c.perm (Nb (Pb Pz) Nz)
   refine VO (lz (vA C5) C5.toArray c B Z aC oc nb Z (λc3 c=>Wa (ln ?_)))
   have c:=c.kM (Kb (Db St))
   refine lB (ly ?_)
   cases sj x
   exact rY (v0:=vA C5) (v1:=vI 12) Z B (kV c.has Mh C5 Z aR aC) Z ⟨_,_,_,Z,c.lZ Sn,D,d,ST.lp c (mu.mem Sn),vN,Z,Z,Sl.nil _ _ _⟩
  refine kg (V (kP a3 (kV c.has Mh [n,o,a2,h,a0] Z aR aC)) ?_)
  have c:=c.perm (Nb (Pb Pz) Nz)
  refine VO (lz N (#[n,o,a2,h,a0]) c B Z aC oc nb Z (λc4 c=>Wa (ln ?_)))
  have c:=c.kM (Kb (Db St))
  refine lB ?_
  cases sj x
  exact rY (v0:=N) (v1:=vI 0) Z B (kV c.has Mh [n,o,a2,h,a0] Z aR aC) Z ⟨_,_,_,Z,c.lZ Sn,D,d,ST.lp c (mu.mem Sn),a0,Z,Z,z⟩
 refine bC t (λg t=>?_) (λg t=>?_)
 ·refine un g (un g (un g (V (lh (cB g) Z) ?_)))
  cases sj t
  exact G _ _ ⟨_,c.kM (Kb (Db St)),Z,Z,Z⟩
 refine ug g (kP Z (kV c.has Mh [n,o,a2,h,a0] Z aR aC)) (bS t λc6 Y t=>sh g (Eg c call143 (Bj (z.mono lc.mono c.lb) Y) λc5 c=>ug g (nt Z) (V (lg (cB g) Z) ?_)))
 cases sj t
 exact G _ _ ⟨_,c.kM (Kb (Db St)),Z,Z,Z⟩
theorem PH (p:nN qb [] qa) (i:Sl kN 5 qb q0 qx.Kids) (j:Sl kN 5 qb q1 qy.Kids) (hm:CL qx qy=some qX) :
  mq false pg0 180 [vA [vI qx.Op,vI qx.K,vS qx.kL.kO,vS qx.kL.Word,q0],vA [vI qy.Op,vI qy.K,vS qy.kL.kO,vS qy.kL.Word,q1]] qa qb [] (λv o μ1=>∃Y,v=vT [vA [vI qX.1.Op,vI qX.1.K,vS qX.1.kL.kO,vS qX.1.kL.Word,Y],vI qX.2]∧o=[]∧Sl kN 5 μ1 Y qX.1.Kids):=by
 refine ve p 13 func180 Z (λa=>sg ?_)
 obtain ⟨u,z,rfl⟩:=i.form
 let a3:Value:= .slice u qx.Kids.length z
 refine VE (lY a Z (λW4 O a=>?_))
 obtain ⟨y,G,rfl⟩:=j.form
 let k:Value:= .slice y qy.Kids.length G
 refine VE (lY a Z (λW8 P a=>VE (lq a aU λa5 R a=>Wa (lr (VA a (Mt (Mt Mh)) (C1 qx.Op qx.K qx.kL.kO qx.kL.Word u qx.Kids.length z) aR aC (VA a (Mt Mh) (C1 qy.Op qy.K qy.kL.kO qy.kL.Word y qy.Kids.length G) aR aC (VE (lE (cs:=#[vI qx.Op,vI qx.K,vS qx.kL.kO,vS qx.kL.Word,a3,vI qy.Op,vI qy.K,vS qy.kL.kO,vS qy.kL.Word,k]) a (pF Z Z) (ng aD aC aU) λs I a=>V (lX (v:=vA [vI 2,vI 0,vS zS,vS zS,.slice (some ⟨I,0,none⟩) 2 2]) (pF Z Z) (lG aU bM (yU _ bM) kr)) ?_))))))))
 obtain ⟨A,a,K,c,U⟩:=ST.xW (B:=[(I,Ob #[vI qx.Op,vI qx.K,vS qx.kL.kO,vS qx.kL.Word,a3,vI qy.Op,vI qy.K,vS qy.kL.kO,vS qy.kL.Word,k] 62)]) lc a (mn.lit lc (l:=[qx,qy]) (.cons (ys:=C1 qx.Op qx.K qx.kL.kO qx.kL.Word u qx.Kids.length z) (kN.mk ⟨a3,Z,i⟩) (.cons (ys:=C1 qy.Op qy.K qy.kL.kO qy.kL.Word y qy.Kids.length G) (kN.mk ⟨k,Z,j⟩) .nil)) Z nb Z)
 refine bS hm λg T hm=>?_
 let n:Value:=vI g.1.Op
 let a2:Value:=vS g.1.kL.Word
 let h:Value:=vS g.1.kL.kO
 refine VE (eD a (bJ _) call179 (λq=>Lw q (U.mono lc.mono (lm.refl _)) T) ?_ (L0:=[]))
 rintro _ a9 L a4 a M d ⟨w,H,rfl,J⟩
 cases H
 refine Wx Z (Wx Z ?_)
 obtain ⟨x,D,rfl⟩:=J.form
 let a0:Value:= .slice x g.1.Kids.length D
 let Q:Value:=vA [n,vI g.1.K,h,a2,a0]
 refine VO (lz Q (#[n,vI g.1.K,h,a2,a0]) a Z Z aC oc nb Z (λt a=>Wa (ln ?_)))
 have a:=a.kM (Kb (Db (Db St)))
 refine lB ?_
 cases sj hm
 exact rY (v0:=Q) (v1:=vI g.2) Z Z (kV a.has Mh [n,vI g.1.K,h,a2,a0] Z aR aC) Z ⟨_,_,_,Z,a.lZ Sn,K.trans M,c.trans d,ST.lp a (mu.mem Sn),a0,Z,Z,J⟩
theorem Sm (h0:nN qb [] qa) (c6:Sl kN 5 qb q0 qv) (hm:Bb qv=some qX) :
  mq false pg0 142 [q0] qa qb [] (λv L1 μ1=>∃y1,v=vT [vA [vI qX.1.Op,vI qX.1.K,vS qX.1.kL.kO,vS qX.1.kL.Word,y1],vI qX.2]∧L1=[]∧Sl kN 5 μ1 y1 qX.1.Kids):=by
 refine ve h0 36 func142 Z (λd=>sg (VE (lq d aU λW2 A d=>Wa (lr (Wm (bS hm λx6 d9 hm=>VQ (my (i:=0) (x0:=x6) kN.out aD aC Z Z c6 (lR d9) (lK d9)) λp3 ⟨_,⟨v8,rfl,e9⟩,e8⟩=>V (kP Z (lA d.has e8 aR aC)) (bS hm λj e2 hm=>?_)))))))
 refine VE (eD d (bJ _) call179 (λhh=>Lw hh (e9.mono lc.mono (lm.refl _)) e2) ?_ (L0:=[]))
 rintro _ i1 a9 h7 d a4 o ⟨i2,b6,rfl,c9⟩
 cases b6
 refine Wm (Wx Z (Wx Z (VE (lq d aU λh9 L d=>?_))))
 obtain ⟨c2,c4,rfl⟩:=c9.form
 let d2:Value:= .slice c2 j.1.Kids.length c4
 refine VO (FA (#[vI j.1.Op,vI j.1.K,vS j.1.kL.kO,vS j.1.kL.Word,d2]) d aC λi0 d=>Wa (lS (Wm (bS hm λ_ c7 hm=>VQ (Cv (i:=1) aD aC Z Z (c6.mono lc.mono a4) (vp c7) (vl c7)) λf0 R=>V (lT aD Z R.1) (Wm (ln (CJ hm (λu E W=>∃s U c3,lm a9 U∧Lo (keys []) qa a9 U∧ST false (keys []) qa W U ((L,Ob #[vI u.2.1,vI u.2.2.1,vS u.2.2.2.1.kO,vS u.2.2.2.1.Word,s] 62)::((A,Ol C5 62)::c3))∧E 2=vP A∧E 4=vP L∧E 5=vI u.1∧Sl kN 5 U s u.2.2.2.2) (λu d5=>?_) ?_)))))))
 ·refine mJ 18 17 (λi js E W=>∃w G H y x N z O,lm a9 z∧Lo (keys []) qa a9 z∧ST false (keys []) qa W z ((L,Ob #[vI G,vI H,vS y.kO,vS y.Word,x] 62)::((A,Ol C5 62)::O))∧E 2=vP A∧E 4=vP L∧E 5=vI w∧E 16=f0∧Sl kN 5 z x N∧yr js w G H y N=some u) R.1.len ⟨j.2,j.1.Op,j.1.K,j.1.kL,d2,j.1.Kids,a9,_,lm.refl _,Lo.refl,d.kM,Z,Z,Z,Z,c9,d5⟩ ?_ ?_
  ·rintro e3 a f3 E W d8 ⟨⟨eI,eN⟩,w,G,H,y,x,N,z,O,t,h,d,a2,D,a3,P,I,g⟩
   refine sg (VQ (my (i:=(e3:Int)) (x0:=a) kN.out aD aC P eI (R.1.mono lc.mono t) (aG _) d8) λg7 ⟨_,⟨h1,rfl,c0⟩,d6⟩=>V (kP Z (lA d.has d6 aR aC)) (VE (lq d aU λf9 g3 d=>?_)))
   obtain ⟨Y,Zq,rfl⟩:=c0.form
   let b8:=C1 a.Op a.K a.kL.kO a.kL.Word Y a.Kids.length Zq
   refine VO (FA b8.toArray d aC λg0 d=>lS (Wh a3 (Wi Z (ln (CI g Z (λd4 g=>?_) λd4 g=>?_)))))
   ·refine nB (nv (UP fb (nv (ry (kW ?_)))))
    cases sj g
    exact ⟨x,z,_,t,h,d.kM (Db St),a2,D,a3,I⟩
   refine kn (kX (V (kP D (kV d.has (Mt Mh) [vI G,vI H,vS y.kO,vS y.Word,x] Z aR aC)) (VA d Mh b8 aR aC (bS g λc d7 g=>?_))))
   refine VE (eD d (bJ _) call180 (λhh=>PH hh (I.mono lc.mono (lm.refl _)) (c0.mono lc.mono (lm.refl _)) d7) ?_ (L0:=[]))
   rintro _ h2 e6 f6 d c8 p ⟨h5,a5,rfl,c1⟩
   cases a5
   refine Wm (Wx Z (Wx Z ?_))
   obtain ⟨b0,b3,rfl⟩:=c1.form
   let e1:Value:= .slice b0 c.1.Kids.length b3
   have d:=d.perm (Nb (Pb Pz) Nz)
   refine VO (lz (vA [vI c.1.Op,vI c.1.K,vS c.1.kL.kO,vS c.1.kL.Word,e1]) (#[vI c.1.Op,vI c.1.K,vS c.1.kL.kO,vS c.1.kL.Word,e1]) d D Z aC oc nb Z (λg2 d=>Wa (lC (lD (kW ?_)))))
   have d:=d.kM (Kb (Db St))
   exact ⟨eI,eN,c.2,c.1.Op,c.1.K,c.1.kL,e1,c.1.Kids,e6,_,t.trans c8,h.trans p,d.kM,a2,D,Z,P,c1,g⟩
  rintro E W ⟨⟨eI,eN⟩,w,G,H,y,x,N,z,O,t,h,d,a2,D,a3,P,I,g⟩
  refine kW ?_
  cases sj g
  exact ⟨x,z,_,t,h,d.kM,a2,D,a3,I⟩
 rintro ⟨e4,Q,T,k,M⟩ E W ⟨s,U,c3,a8,n,d,q,e0,c5,b9⟩ B
 refine kY (sg (Wh c5 (Wi Z (ln (CI B Z (λd3 B=>?_) λd3 B=>?_)))))
 ·refine sg (V (lX (v:=vA C5) oP (lG aU bM (yU _ bM) kr)) (Wh c5 ?_))
  have d:=d.perm (Nb (Pb Pz) Nz)
  refine VO (lz (vA C5) C5.toArray d q Z aC oc nb Z (λf7 d=>Wa (ln ?_)))
  have d:=d.kM (Kb (Db St))
  refine lB (ly ?_)
  cases sj B
  exact rY (v0:=vA C5) (v1:=vI e4) Z q (kV d.has Mh C5 Z aR aC) Z ⟨_,_,_,Z,d.lZ Sn,a4.trans a8,o.trans n,ST.lp d (mu.mem Sn),vN,Z,Z,Sl.nil _ _ _⟩
 refine kg (V (kP e0 (kV d.has Mh [vI Q,vI T,vS k.kO,vS k.Word,s] Z aR aC)) ?_)
 obtain ⟨J,K,rfl⟩:=b9.form
 let d1:=C1 Q T k.kO k.Word J M.length K
 have d:=d.perm (Nb (Pb Pz) Nz)
 refine VO (lz (vA d1) d1.toArray d q Z aC oc nb Z (λf8 d=>Wa (ln ?_)))
 have d:=d.kM (Kb (Db St))
 refine lB ?_
 cases sj B
 exact rY (v0:=vA d1) (v1:=vI 0) Z q (kV d.has Mh d1 Z aR aC) Z ⟨_,_,_,Z,d.lZ Sn,a4.trans a8,o.trans n,ST.lp d (mu.mem Sn),.slice J M.length K,Z,Z,b9⟩
theorem Np (h0:nN qb [] qa) (t:Sl nq 15 qb q0 qG.nK) (y:Sl oB 8 qb q1 qG.pv) (hm:Eh qG qB=some qX) :
  mq false pg0 99 [vA [vS qG.Name,q0,q1],vA (kQ qB)] qa qb [] (λv L1 μ1=>∃y1,v=vT [vA [vI qX.1.Op,vI qX.1.K,vS qX.1.kL.kO,vS qX.1.kL.Word,y1],vI qX.2]∧L1=[]∧Sl kN 5 μ1 y1 qX.1.Kids):=by
 refine ve h0 41 func99 Z (λd=>sg ?_)
 obtain ⟨A1,c2,rfl⟩:=t.form
 obtain ⟨A3,c4,rfl⟩:=y.form
 let f1:=C8 qG.Name A1 qG.nK.length c2 A3 qG.pv.length c4
 refine VE (lY d Z (λW6 b5 d=>VE (lY d Z (λW8 b7 d=>VE (lq d aU λi0 b9 d=>Wa (lr (VA d (Mt (Mt Mh)) f1 gN fG (VA d (Mt Mh) (kQ qB) bK aK (bS hm λa e3 hm=>?_)))))))))
 let b8:Value:=vI a.1.la.K
 let o:Value:=vI a.1.la.Op
 let b1:=a.1.la.kL
 let p:Value:=vS b1.Word
 let d4:Value:=vS b1.kO
 let a0:=a.1.Signed.kK
 refine VE (eD d (bJ _) call140 (λq=>RS q (t.mono pU.mono (lm.refl _)) (y.mono xi.mono (lm.refl _)) e3) ?_ (L0:=[]))
 rintro _ i9 j5 h8 d I h ⟨j3,j4,a5,rfl,e5,c5⟩
 obtain rfl:=a5.symm
 refine Wm (Wx Z (Wx Z (VE (lq d fR λi2 i7 d=>?_))))
 obtain ⟨d5,d7,rfl⟩:=e5.form
 let f4:Value:= .slice d5 a.1.Signed.Tag.length d7
 obtain ⟨z,D,rfl⟩:=c5.form
 let a2:Value:= .slice z a.1.la.Kids.length D
 refine VO (FA (#[vI a0.Kind,vS a0.Head.kO,vS a0.Head.Word,vS a0.lV,vS a0.B.kO,vS a0.B.Word,vS a0.C.kO,vS a0.C.Word,vS a0.lW,f4,o,b8,d4,p,a2]) d eF λi3 d=>Wa (lS (Wm (V (nt Z) (ln (CI hm Z (λe2 hm=>?_) λe2 hm=>?_))))))
 ·refine sg (V (lX (v:=vA C5) oP (lG aU bM (yU _ bM) kr)) ?_)
  have d:=d.perm (Nb (Pb Pz) Nz)
  refine VO (FA C5.toArray d aC λi4 d=>Wa (ln ?_))
  have d:=d.kM (Kb (Db (Db (Db St))))
  refine lB (ly ?_)
  obtain rfl:=sj hm
  exact rY (v0:=vA C5) (v1:=vI 42) Z Z (kV d.has Mh C5 Z aR aC) Z ⟨_,_,_,Z,d.lZ Sn,I,h,ST.lp d (mu.mem Sn),vN,Z,Z,Sl.nil _ _ _⟩
 refine kg (Wf Qk (VA d Mh [o,b8,d4,p,a2] aR aC (VE (lE (cs:=#[o,b8,d4,p,a2]) d (mB Z) (ng aD aC aU) λi5 d6 d=>Wa (ln ?_)))))
 have d:=d.kM (Kb (Db St))
 refine kY (sg (VA d (Mt (Mt (Mt Mh))) f1 gN fG (VA d (Mt (Mt Mh)) (kQ qB) bK aK (bS hm λi8 e4 hm=>?_))))
 refine VE (eD d (bJ _) call141 (λq=>PT q (t.mono pU.mono I) (y.mono xi.mono I) e4) ?_ (L0:=[]))
 rintro _ j0 d8 h9 d P s ⟨f2,a6,rfl,G⟩
 obtain rfl:=a6.symm
 refine V (lT dU Z G) (Wm (ln ?_))
 have d:=d.kM (Kb (Kb (Db (Db St))))
 have d:=d.Rj
 refine mJ 27 26 (λi js E W=>∃Q N K A,ST false (keys []) qa W d8 ((b9,Ol C5 62)::(K++A))∧E 4=vP b9∧E 8=Q∧E 25=f2∧mn 62 kN 5 d8 Q N K∧za js N=some qX) G.len ⟨.slice (some ⟨d6,0,none⟩) 1 1,[a.1.la],[(d6,Ob #[o,b8,d4,p,a2] 62)],_,d.kM (Sb (Pr Pz) St),Z,Z,Z,mn.lit lc (l:=[a.1.la]) (.cons (ys:=[o,b8,d4,p,a2]) (kN.mk ⟨a2,Z,c5.mono lc.mono P⟩) .nil) Z nb Z,hm⟩ ?_ ?_
 ·rintro e6 c f3 E W d3 ⟨⟨O,eN⟩,Q,N,K,A,d,T,a3,a4,U,j⟩
  refine sg (VQ (my (i:=(e6:Int)) (x0:=c) oB.out dU eH a4 O G (aG _) d3) λg7 ⟨_,⟨h1,h2,rfl,a9,d1⟩,c9⟩=>V (kP Z (lA d.has c9 kH eH)) (VE (lq d iK λf6 g2 d=>?_)))
  obtain ⟨u,x,rfl⟩:=a9.form
  let c6:=C1 c.la.Op c.la.K c.la.kL.kO c.la.kL.Word u c.la.Kids.length x
  obtain ⟨b2,b6,rfl⟩:=d1.form
  let c0:=C9 c.kL.kO c.kL.Word c.la.Op c.la.K c.la.kL.kO c.la.kL.Word u c.la.Kids.length x b2 c.pf.length b6
  refine VO (FA c0.toArray d eH λf7 d=>ln (kX (Wh a3 (Wf Qa (VA d Mh c6 aR aC (VE (lE (cs:=c6.toArray) d (mB Z) (ng aD aC aU) λf8 g3 d=>?_)))))))
  have d:=d.perm (Nr (Qb (Qb (Qb Qz))) Nz)
  refine bS j λe7 c8 j=>VE (sk (B:=K) lc d dc aD ny.1 ny.2.1 Z ny.2.2.1 ny.2.2.2 Z Z U (Br.lit lc (l:=[c.la]) (.cons (ys:=C1 c.la.Op c.la.K c.la.kL.kO c.la.kL.Word u c.la.Kids.length x) (kN.mk ⟨.slice u c.la.Kids.length x,Z,a9⟩) .nil) Z nb (d.at_ (Ma Mh))) c8 λf9 e8 d9 d c7=>Wa (lC (lD (kW ?_))))
  have d:=d.kM (Kr (Db (Db St)))
  exact ⟨O,eN,e8,e7,d9,_,d.kM (Sb (Pr Pz) St),T,Z,a4,c7,j⟩
 rintro E W ⟨⟨O,eN⟩,Q,N,K,A,d,T,a3,a4,U,j⟩
 refine kW (sg (Wh a3 ?_))
 have d:=d.perm (Nr (Qb Qz) Nz)
 obtain ⟨h6,d,c1,k,d2⟩:=ST.xW lc d U
 refine bS j λg d0 j=>?_
 let g0:Value:=vI g.1.Op
 let f0:Value:=vS g.1.kL.Word
 let L:Value:=vS g.1.kL.kO
 refine VE (eD d (bJ _) call142 (λq=>Sm q (d2.mono lc.mono (lm.refl _)) d0) ?_ (L0:=[]))
 rintro _ h3 h7 f5 d c3 n ⟨h4,Y,rfl,R⟩
 obtain rfl:=Y.symm
 refine Wx Z (Wx Z ?_)
 obtain ⟨J,M,rfl⟩:=R.form
 let w:Value:= .slice J g.1.Kids.length M
 let b4:Value:=vA [g0,vI g.1.K,L,f0,w]
 refine VO (lz b4 (#[g0,vI g.1.K,L,f0,w]) d T Z aC oc nb Z (λg1 d=>Wa (lt ?_)))
 obtain rfl:=sj j
 exact rY (v0:=b4) (v1:=vI g.2) Z T (kV d.has Mh [g0,vI g.1.K,L,f0,w] Z aR aC) Z ⟨_,_,_,Z,d.lZ Sn,((I.trans P).trans c1).trans c3,((h.trans s).trans k).trans n,ST.lp d (mu.mem Sn),w,Z,Z,R⟩
theorem IH (N:Formula→(kL→Option Bool)→Option Bool) (a3:∀(j:Formula) (k:Value) (t:Value) (J:kL→Option Bool) (r:Bool) (w:World) (c:Sl kN 5 (hp w) k j.Kids) (K:DH pg0 t (hp w) (λ(x:kL)=>[vA (kR x)]) (λ(r:Bool)=>vB r) J),N j J=some r→lF false pg0 144 [vA [vI j.Op,vI j.K,vS j.kL.kO,vS j.kL.Word,k],t] w (vB r)) (j:Formula) (k t:Value) (J:kL→Option Bool) (r:Bool) (w:World) (c:Sl kN 5 (hp w) k j.Kids) (K:DH pg0 t (hp w) (λ(x:kL)=>[vA (kR x)]) (λ(r:Bool)=>vB r) J) (hm:AE N j J=some r) :
  lF false pg0 144 [vA [vI j.Op,vI j.K,vS j.kL.kO,vS j.kL.Word,k],t] w (vB r):=by
 refine cG 45 func144 Z (λd=>sg ?_)
 obtain ⟨A1,c2,rfl⟩:=c.form
 refine VE (lY d Z (λW4 o d=>Wa (lS (Wf pD (VB d Mh Z Z bH (Wi Z (ln (CI hm Z (λq hm=>?_) λq hm=>?_))))))))
 ·refine sg (Wm (Wf yB (VA d Mh (kR j.kL) bE aI (bS hm λr6 s hm=>VE (RU j.kL d K (lm.refl _) Z (sD Z) s λW8 d=>Wa (ln ?_))))))
  have d:=d.kM (Db St)
  refine lB (ly ?_)
  cases sj hm
  exact rP d
 refine kg (Wa (lS (Wf pG (VB d Mh Z Z ei (V (lT aD Z c) (Wm (lC ?_)))))))
 refine kW (mJ 18 17 (λi A E W=>∃z I,ST false lN w W (hp w) ((o,Ol (C1 j.Op j.K j.kL.kO j.kL.Word A1 j.Kids.length c2) 62)::I)∧E 1=t∧E 2=vP o∧E 5=vI z∧E 16= .slice A1 j.Kids.length c2∧tL N J j A z=some r) c.len ⟨0,_,d.kM,Z,Z,Z,Z,hm⟩ ?_ ?_)
 ·rintro v g b7 E W a4 ⟨⟨h,n⟩,z,I,d,G,u,y,H,a⟩
  refine sg (VQ (my (i:=(v:Int)) (x0:=g) kN.out aD aC H h c (aG _) a4) λR ⟨_,⟨b6,rfl,M⟩,Y⟩=>V (kP Z (lA d.has Y aR aC)) (VE (lq d aU λa9 P d=>?_)))
  obtain ⟨B,D,rfl⟩:=M.form
  let a0:=C1 g.Op g.K g.kL.kO g.kL.Word B g.Kids.length D
  refine VO (FA a0.toArray d aC λL d=>lr (VA d Mh a0 aR aC (Wh G (bS a λb5 p a=>VE (Eg d call144 (a3 g (.slice B g.Kids.length D) t J _ _ (M.mono lc.mono d.lb) (K.mono d.lb) p) λO d=>ln ?_)))))
  have d:=d.kM (Db St)
  refine CI a Z (λQ a=>?_) (λQ a=>?_)
  ·exact kX (Wh y (Wi Z (Wa (lC (lD (kW ⟨h,n,wi0 .i64 (z+1),_,d.kM,G,u,Z,H,a⟩))))))
  exact lU (lD (kW ⟨h,n,z,_,d.kM,G,u,y,H,a⟩))
 rintro E W ⟨⟨h,n⟩,z,I,d,G,u,y,H,a⟩
 refine kW (kY (sg (V (kU pD u) (VB d Mh Z Z bH (ln (bg (Wi Z (Wa (ln ?_)))))))))
 refine CI a Z (λT a=>?_) (λT a=>?_)
 ·refine sg (Wh y (V (kU pG u) (VB d Mh Z Z ei (V (lT aD Z c) (Wi Z (Wa (ln ?_)))))))
  have d:=d.kM (Db St)
  refine lB (mG (ly ?_))
  cases sj a
  exact rP d
 refine sg (Wi Z (Wa (ln (CI a Z (λU a=>?_) λU a=>?_))))
 ·refine sg (Wh y (Wi Z (Wa (ln ?_))))
  have d:=d.kM (Db St)
  refine lB (mG (ly ?_))
  cases sj a
  exact rP d
 refine lU (lD (kW (sg (Wh y (V (kU wO u) (VB d Mh Z Z bH (Wi Z (Wa (ln ?_)))))))))
 exact lB (rQ a d)
theorem Hv:∀(n:Nat) (c:Formula) (a:Value) (g:Value) (j:kL→Option Bool) (r:Bool) (w:World) (i:Sl kN 5 (hp w) a c.Kids) (k:DH pg0 g (hp w) (λ(x:kL)=>[vA (kR x)]) (λ(r:Bool)=>vB r) j) (_:uv n c j=some r),
  lF false pg0 144 [vA [vI c.Op,vI c.K,vS c.kL.kO,vS c.kL.Word,a],g] w (vB r)
 | 0=>by intros; rename_i h; simp only [uv] at h; cases h
 | n+1=>IH (uv n) (Hv n)
theorem Oa {G:kL→Option Bool} (c:Sl kN 5 (hp qa) q0 qx.Kids) (z:DH pg0 q1 (hp qa) (λ(x:kL)=>[vA (kR x)]) (λ(qt:Bool)=>vB qt) G) (hm:yu qx G=some qt) :
  lF false pg0 100 [vA [vI qx.Op,vI qx.K,vS qx.kL.kO,vS qx.kL.Word,q0],q1] qa (vB qt):=by
 refine cG 16 func100 Z (λa=>sg ?_)
 obtain ⟨u,y,rfl⟩:=c.form
 let a0:=C1 qx.Op qx.K qx.kL.kO qx.kL.Word u qx.Kids.length y
 refine VE (lY a Z (λU d a=>Wa (lr (Wm (V (WJ underlying169 z.form Z Z) (Wm (Vg Z Z (kP Z (kV a.has Mh a0 Z aR aC)) (bS hm λh K hm=>RN Z Z (Eg a call143 (Bj (c.mono lc.mono a.lb) K) λY a=>V (lh Z Z) (Wm (LJ hm (λD E W=>∃B,ST false lN qa W (hp qa) B∧E 4=vB false∧E 15=vB D) 4 ?_ λD g t=>?_)))))))))))
 ·rintro T E W ⟨B,a,N,J⟩ H
  exact Wg J (lt (rQ H a))
 refine bC g (λi g=>?_) (λi g=>?_)
 ·refine ug i (kP Z (kV a.has Mh a0 Z aR aC)) (ug i (kT Z) (bS g λQ I g=>sh i (Eg a call144 ((Hv lP) qx (.slice u qx.Kids.length y) q1 G _ _ (c.mono lc.mono a.lb) (z.mono a.lb) I) λM a=>V (lh (cB i) Z) ?_)))
  cases sj g
  exact t _ _ ⟨_,a.kM (Db St),Z,Z⟩
 refine un i (un i (un i (V (lg (cB i) Z) ?_)))
 cases sj g
 exact t _ _ ⟨_,a.kM (Db St),Z,Z⟩
theorem Mo (H:vg (λ(x:kL)=>vA (kR x)) (nC Value.string λ(x:Bool)=>Value.bool x) (hp qa) q0 qK) (T:Sl (Pl kQ) 9 (hp qa) q1 qr) (i:vg (λ(x:kL)=>vA (kR x)) (lQ 55 kQ 9) (hp qa) q2 qL) (U:vg Value.string (lQ 55 kQ 9) (hp qa) q3 qJ) (Y:Sl (Pl mw) 3 (hp qa) q4 qE) (Q:At (hp qa) (vP qk) [q0,q1,q2,q3,q4,vI qc]) (hm:tF qK qr qL qJ qE qc qP qC=some qt) :
  lF true pg0 102 [vP qk,vA (kR qP),vS qC] qa (vB qt):=by
 refine cG 19 func102 Z (λc=>sg (VE (lY c Z (λW2 n c=>Wa (ln (kY ?_))))))
 have c:=c.drew
 have a:=c.has.kM (Kb Sn)
 refine mh a lM (X 0 Z a (kT Z) (X 1 Z a (Ga underlying163 Z Z) (X 2 Z a (kT Z) (Xg 3 Z Z Z a (kT Z) (Xg 4 Z Z Z a (mK Z) (vq 5 Z kr (.inr ⟨2,true,9,Z,Z,fs,Z⟩) Z dc (λ_ _ h=>h) a (tO [q0] BP Z Q Z) λj a3=>uq 6 Z Z Z a (λ_ d=>kP Z (rz d (y:=q0) a3 iJ)) (uq 7 Z Z Z a (λ_ d=>kP Z (kV d Mh (kR qP) Z bE aI)) ?_)))))))
 obtain ⟨a4,a5,M,N⟩:=H
 refine uq 8 Z Z Z a (λ_ d=>tp (k:=qP) (z:= .map none) Fx fj fU Z Z M λb o g=>d.1 b o (N b o g)) (Xg 9 Z Z Z a (kT Z) (uq 10 Z Z Z a (λ_ d=>Fa (k:=qC) (z:=false) (vf:=λ(x:Bool)=>Value.bool x) Ji gb kp Z Z ((ou.IT lO.1 M qP N).mono λb o g=>d.1 b o g)) (X 11 Z a (lh Z Z) (X 12 Z a (nz Z) (ml kr (kW ?_))))))
 exact lB (rQ hm c)
theorem Fm (a5:vg (λ(x:kL)=>vA (kR x)) (nC Value.string λ(x:Bool)=>Value.bool x) (hp qa) q0 qK) (U:Sl (Pl kQ) 9 (hp qa) q1 qr) (a4:vg (λ(x:kL)=>vA (kR x)) (lQ 55 kQ 9) (hp qa) q2 qL) (Y:vg Value.string (lQ 55 kQ 9) (hp qa) q3 qJ) (a3:Sl (Pl mw) 3 (hp qa) q4 qE) (g:At (hp qa) (vP ql) [q0,q1,q2,q3,q4,vI qc]) (i:At (hp qa) (vP qk) [vP ql]) (n:Sl nq 15 (hp qa) q5 qG.nK) (p:Sl oB 8 (hp qa) q6 qG.pv) (c2:we nR (hp qa) q7 qN) (q:Sl (Pl kQ) 9 (hp qa) q8 qs) (s:Sl (Pl (lu .u8)) 1 (hp qa) q9 qo) (h:At (hp qa) (vP qn) [vS qG.Name,q5,q6,vS qC,q7,q8,vI qd,q9]) (j:At (hp qa) (vP qm) [vP qn]) (hm:um qP qK qr qL qJ qE qc qG qC qN qs qd qo=some qt) :
  lF true pg0 101 [vA (kR qP),vP qk,vP qm] qa (vB qt):=by
 refine cG 12 func101 Z (λa=>sg (VE (lY a Z (λW2 o a=>Wa (ln (kY ?_))))))
 have a:=a.drew
 have c:=a.has.kM (Kb Sn)
 refine mh c lM (XH 0 Z c (λ_ d=>kP Z (rz d (y:=vP ql) i isAgg163)) (XH 1 Z c (λ_ d=>kP Z (kV d Mh (kR qP) Z bE aI)) (XH 2 Z c (λ_ d=>kP Z (rz d (y:=vP qn) j isAgg87)) (X 3 Z c (mK Z) (XQ 4 Z c (tO [vS qC] aa7 Z h Z) λu k=>XH 5 Z c (λ_ d=>kP Z (rz d (y:=vS qC) k bU)) (bS hm λv c1 hm=>XE 6 Z (Eg a call102 (Mo (a5.mono a.lb) (U.mono (Pl.mono _) a.lb) (a4.mono a.lb) (Y.mono a.lb) (a3.mono (Pl.mono _) a.lb) (g.mono a.lb) c1) λt a=>?_)))))))
 have c:=a.has.kM (Kb Sn)
 refine ⟨c,X 7 Z c (nz Z) (ml kr (kW ?_))⟩
 exact lB (rQ hm a)
theorem GK (J:Sl nq 15 (hp qa) q0 qG.nK) (T:Sl oB 8 (hp qa) q1 qG.pv) (f1:we nR (hp qa) q2 qN) (R:Sl (Pl kQ) 9 (hp qa) q3 qr) (b7:Sl (Pl (lu .u8)) 1 (hp qa) q4 qo) (I:At (hp qa) (vP qk) [vS qG.Name,q0,q1,vS qC,q2,q3,vI qc,q4]) (q:Sl mg 10 (hp qa) q5 qT) (hm:vQ qG qC qN qr qc qo qT=some qd) :
  lF false pg0 51 [vP qk,q5] qa (vI qd):=by
 refine cG 53 func51 Z (λd=>sg (VE (lY d Z (λW2 v d=>Wa (lS (Wm (V (lT bV Z q) (Wm (ln ?_)))))))))
 let g5:Value:=vP v
 refine mJ 14 13 (λi js E W=>∃h4,ST false lN qa W (hp qa) ((v,Ob #[vP qk] 87)::h4)∧E 1=q5∧E 2=g5∧E 12=q5∧pS qG qC qN qr qc qo qT js=some qd) q.len ⟨_,d.kM,Z,Z,Z,hm⟩ ?_ ?_
 ·rintro m4 j ah E W m0 ⟨⟨n,s⟩,h4,d,f8,w,f9,Q⟩
  refine sg (VQ (my (i:=(m4:Int)) (x0:=j) mg.out bV bO f9 n q (aG _) m0) λp9 ⟨_,⟨af,rfl,h1⟩,k6⟩=>V (kP Z (lA d.has k6 ef bO)) (VE (lq d cU λp2 p8 d=>?_)))
  obtain ⟨d4,d8,rfl⟩:=h1.form
  let b8:=C2 j.kK.Kind j.kK.Head.kO j.kK.Head.Word j.kK.lV j.kK.B.kO j.kK.B.Word j.kK.C.kO j.kK.C.Word j.kK.lW d4 j.Tag.length d8
  refine VO (FA b8.toArray d bO λp3 d=>lr (V (kP w (kZ d.has (Mt Mh) Z isAgg87)) (VA d Mh b8 ef bO (bS Q λae k8 Q=>VE (Eg d call97 (lF.mF (IU (J.mono pU.mono d.lb) (T.mono xi.mono d.lb) (f1.mono po d.lb) (R.mono (Pl.mono _) d.lb) (b7.mono (Pl.mono _) d.lb) (I.mono d.lb) (h1.mono (Pl.mono _) d.lb) k8)) λp4 d=>V (nt Z) (ln ?_))))))
  have d:=d.kM (Db St)
  refine CI Q Z (λk3 Q=>?_) (λk3 Q=>?_)
  ·refine sg (Wa (ln ?_))
   have d:=d.kM (Db St)
   refine lB (mG (ly (mG (ly ?_))))
   cases sj Q
   exact rP d
  exact lU (lD (kW ⟨n,s,_,d.kM,f8,w,f9,Q⟩))
 rintro E W ⟨⟨n,s⟩,h4,d,f8,w,f9,Q⟩
 refine kW (sg (V (kP w (kZ d.has Mh Z isAgg87)) (Wn (VQ (tO [q3] RC Z I Z) λad k7=>V (kP Z (rz d.has (y:=q3) k7 kG)) (bS Q λG k9 Q=>?_)))))
 refine VE (Tg d (bJ _) call98 (λ_ _ _ _=>UL (R.mono (Pl.mono _) d.lb) k9) (λp5 ag g1 p1 d t a1 aa k2=>?_) (L0:=[]))
 obtain ⟨a0,e6,f3,e7,f4,e8,f5,e9,f6,f0,f7,e4,rfl,l1,l2,l3,l4,l5⟩:=k2
 let h7:=(#[e6,e7,e8,e9,f0,vI G.2.2.2.2.2]:Array Value)
 let g6:Value:=vP a0
 replace e4:=e4.symm; subst e4
 have d:=d.perm (Tb (Tr (Tr (Tr (Tr (Tr Tn))))))
 refine VE (lq d zeroValue163 λp6 a2 d=>VO (lz g6 (#[g6]) d Z Z sizeOf163 oc nb Z (λp7 d=>lS (Wh f8 (V (lT bV Z q) (Wm (ln (Hs Q (λi8 E W=>∃g2 h3,lm g1 g2∧ST false lN qa W g2 h3) (λi8 k5 e3=>?_) ?_))))))))
 ·let M:Value:=(vP a2)
  let j1:=(#[vP qk]:Array Value)
  refine mJ 30 29 (λi js E W=>∃a9 d6,lm g1 a9∧ST false lN qa W a9 ((a2,Ob #[g6] 163)::((a0,oC h7 213)::((v,oC j1 87)::(f3++(f4++(f5++(f6++(f7++d6))))))))∧E 2=g5∧E 7=M∧E 28=q5∧pQ qG G qC qN qr qc qo js=some i8) q.len ⟨g1,_,lm.refl _,d.kM (Kb (Kb (Sb (Pr (Pr (Pr (Pr (Pr Pz))))) St))),w,Z,Z,k5⟩ ?_ ?_
  ·rintro g0 a o9 E W l0 ⟨⟨n,s⟩,a9,d6,c,d,c1,e0,c2,Y⟩
   refine sg (VQ (my (i:=(g0:Int)) (x0:=a) mg.out bV bO c2 n (q.mono nu.mono (t.trans c)) (aG _) l0) λn6 ⟨_,⟨o1,rfl,i5⟩,i0⟩=>V (kP Z (lA d.has i0 ef bO)) (VE (lq d cU λm7 i9 d=>?_)))
   obtain ⟨d5,d9,rfl⟩:=i5.form
   let c7:=C2 a.kK.Kind a.kK.Head.kO a.kK.Head.Word a.kK.lV a.kK.B.kO a.kK.B.Word a.kK.C.kO a.kK.C.Word a.kK.lW d5 a.Tag.length d9
   refine VO (FA c7.toArray d bO λm8 d=>ln (kY ?_))
   have d:=d.drew
   have g:=d.has.kM (Kb (Db (Db (Kb Sn))))
   refine mh g lM (XH 0 Z g (λ_ A=>kP c1 (kZ A (Mt Mh) Z isAgg87)) (X 1 Z g (mK Z) (XQ 2 Z g (tO [vS qG.Name,q0,q1] WK Z (I.mono (t.trans c)) Z) λn7 i1=>XH 3 Z g (λ_ A=>kP Z (lA A i1 gN fG)) (X 4 Z g (kU rZ Z) (XH 5 Z g (λ_ A=>kP Z (kV A Mh (kQ a.kK) Z bK aK)) (PJ Y (λH E W=>∃d7 e5 L a5 g3,lm a9 a5∧ST false lN qa W a5 ((d7,Ob #[vI H.2.2.2.2.2.1,vI H.2.2.2.2.2.2.1,vS H.2.2.2.2.2.2.2.1.kO,vS H.2.2.2.2.2.2.2.1.Word,L] 62)::((i9,Ol c7 57)::((a2,Ob #[g6] 163)::((a0,oC h7 213)::((v,oC j1 87)::(f3++(f4++(f5++(f6++(f7++g3))))))))))∧E 2=g5∧E 7=M∧E 10=vP d7∧E 28=q5∧E 29=vI (qT.length:Int)∧E 30=vI (g0:Int)∧E 42=vA [vI H.1,vI H.2.1,vS H.2.2.1.kO,vS H.2.2.1.Word,e5]∧E 43=vI H.2.2.2.2.1∧Sl kN 5 a5 e5 H.2.2.2.1∧Sl kN 5 a5 L H.2.2.2.2.2.2.2.2∧Fr qa.heap.size L) (bm 13 2047) 2 ?_ λH p d3=>?_))))))
   ·rintro ⟨c5,c6,a4,b3,o4,o5,o6,o7,n5⟩ E W ⟨d7,e5,L,a5,g3,D,d,e1,e2,g7,g8,g9,h0,j4,j5,f2,m3,m1⟩ h9
    obtain ⟨b9,c0,rfl⟩:=f2.form
    let j2:=C1 c5 c6 a4.kO a4.Word b9 b3.length c0
    refine XO 11 Z (lz (vA j2) j2.toArray d g7 j4 aC oc nb Z (λm9 d=>?_))
    have g:=d.has.ob D (Db (Kb (Db (Db (Kb Sn)))))
    refine ⟨g,X 12 Z g (nz j5) (ml kr (kW ?_))⟩
    have d:=d.kM (Kb (Db St))
    refine sg (Wm (Wi Z (Wm (LJ h9 (λh2 E W=>∃g4,ST false lN qa W a5 ((a2,Ob #[g6] 163)::((a0,oC h7 213)::((v,oC j1 87)::(f3++(f4++(f5++(f6++(f7++g4))))))))∧E 2=g5∧E 7=M∧E 28=q5∧E 29=vI (qT.length:Int)∧E 30=vI (g0:Int)∧E 51=vB h2) 5 ?_ λh2 U d2=>?_))))
    ·rintro o8 E W ⟨g4,d,j6,j7,j8,j9,k0,k1⟩ u
     refine ln (CI u k1 (λh8 u=>?_) λh8 u=>?_)
     ·refine sg (Wa (ln ?_))
      have d:=d.kM (Db (Db (Db (Dr (Dr (Dr (Dr (Dr St))))))))
      refine lB (mG (ly (mG (ly ?_))))
      cases sj u
      replace e3:some 44=some qd:=e3
      cases sj e3
      exact rP d
     exact lU (lD (kW ⟨k0,j9,a5,_,c.trans D,d.kM,j6,j7,j8,u⟩))
    refine bC U (λz U=>?_) (λz U=>?_)
    ·refine un z (un z (un z (un z (V (lh (cB z) Z) ?_))))
     cases sj U
     exact d2 _ _ ⟨_,d.kM (Db St),e1,e2,g8,g9,h0,Z⟩
    refine ug z (kP g7 (kV d.has Mh j2 Z aR aC)) (ug z (zB (by exact pj e2 e1) Z) (bS U λn8 i2 U=>sh z (Eg d call100 (Oa (f2.mono lc.mono d.lb) ⟨101,#[],#[M,g5],Z,call101,λW x qd k hm=>(Fm (l1.at (λb o h=>k _ _ ((λb o h=>d.at_ (Mt (Mt (Mt (Mt (Ml h)))))) b o h))) (l2.sl mL λb o h=>k _ _ ((λb o h=>d.at_ (Mt (Mt (Mt (Mt (Ma (Ml h))))))) b o h)) (l3.at (λb o h=>k _ _ ((λb o h=>d.at_ (Mt (Mt (Mt (Mt (Ma (Ma (Ml h)))))))) b o h))) (l4.at (λb o h=>k _ _ ((λb o h=>d.at_ (Mt (Mt (Mt (Mt (Ma (Ma (Ma (Ml h))))))))) b o h))) ((l5.J0 wq).mono (Pl.mono _) (nI λb o h=>k _ _ ((λb o h=>d.at_ (Mt (Mt (Mt (Mt (Ma (Ma (Ma (Ma (Ml h)))))))))) b o h))) (At.of (k _ _ (d.at_ (Mt (Mt Mh)))) _ Z) (At.of (k _ _ (d.at_ (Mt Mh))) _ Z) (J.mono pU.mono ((((t.trans c).trans D).trans d.lb).trans k)) (T.mono xi.mono ((((t.trans c).trans D).trans d.lb).trans k)) (f1.mono po ((((t.trans c).trans D).trans d.lb).trans k)) (R.mono (Pl.mono _) ((((t.trans c).trans D).trans d.lb).trans k)) (b7.mono (Pl.mono _) ((((t.trans c).trans D).trans d.lb).trans k)) (I.mono ((((t.trans c).trans D).trans d.lb).trans k)) (At.of (k _ _ (d.at_ (Mt (Mt (Mt Mh))))) _ Z) hm).mF⟩ i2) λn0 d=>ug z (nt Z) (V (lg (cB z) Z) ?_))))
    cases sj U
    exact d2 _ _ ⟨_,d.kM (Db St),e1,e2,g8,g9,h0,Z⟩
   refine JW 6 10 Z Z kr (.inl Z) (.inl Z) Z Z dc dc ?_ ?_
   ·refine bS p λn9 i3 p=>?_
    refine MB (args:=[vA [vS qG.Name,q0,q1],vA (kQ a.kK)]) (caps:=#[]) [] _ d (bJ _) Z call99 (by exact pj Z Z) (λhH hN ab ai=>Np ⟨hH,hN,ab⟩ (J.mono pU.mono (t.trans c)) (T.mono xi.mono (t.trans c)) i3) (λn1 o2 l8 m5 d b6 O h6=>?_)
    obtain ⟨l6,c9,rfl,i6⟩:=h6
    replace c9:=c9.symm; subst c9
    have d:=d.perm Tn
    have g:=d.has.ob b6 (Kb (Db (Db (Kb Sn))))
    refine ⟨g,X 7 Z g (kT Z) (X 8 Z g (xA Z Z) (X 9 Z g (xA Z Z) (XE 10 Z (lq d aU λn2 j0 d=>?_))))⟩
    have g:=d.has.ob b6 (Db (Kb (Db (Db (Kb Sn)))))
    refine ⟨g,?_⟩
    cases sj p
    refine nr kr (d3 _ _ ⟨j0,l6,vN,l8,_,b6,d.kM,c1,e0,Z,c2,s,n,Z,Z,i6,Sl.nil _ _ _,Fr.nil _⟩)
   ·refine lq d aU (λn3 j3 d=>?_)
    have g:=d.has.kM (Db (Kb (Db (Db (Kb Sn)))))
    refine ⟨g,bS p λo0 i4 p=>?_⟩
    refine XE 6 Z (eD d (bJ _) call99 (λhh=>Np hh (J.mono pU.mono (t.trans c)) (T.mono xi.mono (t.trans c)) i4) ?_ (L0:=[]))
    rintro _ o3 l9 m6 d d1 P ⟨l7,d0,rfl,i7⟩
    cases d0
    have g:=d.has.ob d1 (Db (Kb (Db (Db (Kb Sn)))))
    refine ⟨g,X 7 Z g (kT Z) (X 8 Z g (xA Z Z) (X 9 Z g (xA Z Z) ?_))⟩
    cases sj p
    refine nr kr (d3 _ _ ⟨j3,l7,vN,l9,_,d1,d.kM,c1,e0,Z,c2,s,n,Z,Z,i7,Sl.nil _ _ _,Fr.nil _⟩)
  rintro E W ⟨⟨n,s⟩,a9,d6,c,d,c1,e0,c2,Y⟩
  refine kW ?_
  cases sj Y
  exact ⟨_,Z,a9,_,c,d.kM (Db (Db (Db (Dr (Dr (Dr (Dr (Dr St))))))))⟩
 rintro ⟨⟩ E W ⟨g2,h3,m2,d⟩ k4
 exact sg (Wa (lt (rQ k4 d)))
theorem H0 {r:(Int×Int×(List Int))} (h0:nN qb ((qk,Ob #[vS qG.Name,q0,q1,vS qC,q2,q3,vI qc,q4] 89)::(qf++[])) qa) (M:Sl nq 15 qb q0 qG.nK) (T:Sl oB 8 qb q1 qG.pv) (A:we nR qb q2 qN) (Y:lQ 55 kQ 9 q3 qr qf) (D:Sl (Pl (lu .u8)) 1 qb q4 qo) (N:Sl (Pl (lu .u8)) 1 qb q5 qp) (hm:xM qG qC qN qr qc qo qp=some r) :
  mq false pg0 28 [vP qk,q5] qa qb ((qk,Ob #[vS qG.Name,q0,q1,vS qC,q2,q3,vI qc,q4] 89)::(qf++[])) (λv L1 μ1=>∃w,v=vI r.1∧L1=((qk,Ob #[vS qG.Name,q0,q1,vS qC,q2,q3,vI r.2.1,w] 89)::(qf++[]))∧Sl (Pl (lu .u8)) 1 μ1 w r.2.2):=by
 let a2:=(#[vS qG.Name,q0,q1,vS qC,q2,q3,vI qc,q4]:Array Value)
 refine ve h0 52 func28 Z (λa=>sg (Wa (lr (Wm (bS hm λz c8 hm=>?_)))))
 let d3:Value:=vI z.2.1.E
 let d2:Value:=vS z.2.1.Name
 let d1:Value:=vI z.2.1.oN
 let d0:Value:=vI z.2.1.Kind
 refine VE (eD a (bJ _) call24 (λhh=>GQ hh (N.mono (Pl.mono _) (lm.refl _)) c8) ?_ (L0:=[]))
 rintro _ v7 i L9 a u d ⟨e3,e4,a0,rfl,c2,p⟩
 cases a0
 refine Wm (Wx Z (Wx Z (Wx Z (VE (lq a cR λd5 s a=>Wa ?_)))))
 obtain ⟨y,a9,rfl⟩:=c2.form
 let b8:Value:= .slice y z.2.1.nU.length a9
 obtain ⟨a3,a5,rfl⟩:=p.form
 let k:Value:= .slice a3 z.2.1.mC.length a5
 refine VO (FA (#[d0,d1,d3,d2,b8,k]) a cI λd6 a=>Wa (ln (kY (bg (Wm (Wi Z (Wa (ln (CI hm Z (λG hm=>?_) λG hm=>?_)))))))))
 ·refine sg (Wa (ln ?_))
  have a:=a.kM (Db St)
  refine lB (mG (ly ?_))
  have c:=sj hm; subst c
  exact ma (v:=vI 11) Z Z ⟨_,_,_,Z,a.lZ (Kb (Kr Sn)),u,d,ST.lp a (mu.mem (Kb (Kr Sn))),q4,Z,Z,D.mono (Pl.mono _) u⟩
 refine sg (Wm (Wm (Wn (Wf QM (VB a (Mt Mh) Z Z bH (Wi Z (Wa (ln (CI hm Z (λJ hm=>?_) λJ hm=>?_)))))))))
 ·refine sg (Wa (ln ?_))
  have a:=a.kM (Db St)
  refine lB (mG (ly ?_))
  have c:=sj hm; subst c
  exact ma (v:=vI 43) Z Z ⟨_,_,_,Z,a.lZ (Kb (Kr Sn)),u,d,ST.lp a (mu.mem (Kb (Kr Sn))),q4,Z,Z,D.mono (Pl.mono _) u⟩
 refine sg (Wm (Wm (Wn (Wf QM (VB a (Mt Mh) Z Z bH (Wi Z (Wm (LJ hm (λt E W=>∃q,ST false (keys ((qk,oC a2 89)::(qf++[]))) qa W i ((s,Ob #[d0,d1,d3,d2,b8,k] 69)::((qk,oC a2 89)::(qf++q)))∧E 0=vP qk∧E 1=q5∧E 5=vI z.1∧E 6=vP s∧E 39=vB t) 8 ?_ λt I n=>?_))))))))
 ·rintro e2 E W ⟨q,a,g,P,Q,R,U⟩ H
  refine Wg U (ln (CI H Z (λL H=>?_) λL H=>?_))
  ·refine sg (Wa (ln ?_))
   have a:=a.kM (Db St)
   refine lB (mG (ly ?_))
   have c:=sj H; subst c
   exact ma (v:=vI 41) Z Z ⟨_,_,_,Z,a.lZ (Kb (Kr Sn)),u,d,ST.lp a (mu.mem (Kb (Kr Sn))),q4,Z,Z,D.mono (Pl.mono _) u⟩
  refine lU (lD (kW (sg (Wh g (Wh g (Wh Q (Wh P (Wn (Wf QM ?_)))))))))
  have a:=a.perm (Nb (Pb Pz) Nz)
  refine VO (lz (vI z.1) (#[vS qG.Name,q0,q1,vS qC,q2,q3,vI z.1,q4]) a Z Z dH (uk _ z.1) nb Z (λd7 a=>Wn (Wf Wv ?_)))
  obtain ⟨a4,x,rfl⟩:=N.form
  let h:Value:= .slice a4 qp.length x
  refine VO (lz h (#[vS qG.Name,q0,q1,vS qC,q2,q3,vI z.1,h]) a Z Z eQ oc nb Z (λd8 a=>lr (Wh g (V (kU uE R) (VB a (Mt Mh) Z Z fH (bS H λc9 O H=>VE (Eg a call51 (GK (M.mono pU.mono (u.trans a.lb)) (T.mono xi.mono (u.trans a.lb)) (A.mono po (u.trans a.lb)) (Y.sl mL λb o hq=>a.at_ (Mt (Mt (Ml hq)))) (N.mono (Pl.mono _) (u.trans a.lb)) (At.of (a.at_ Mh) _ Z) (p.mono nu.mono a.lb) O) λd9 a=>Wa (ln ?_))))))))
  have a:=a.kM (Kb (Db St))
  refine lB ?_
  have c:=sj H; subst c
  exact ma (v:=vI c9) Z Z ⟨_,_,_,Z,a.lZ (Kb (Kr Sn)),u,d,ST.lp a (mu.mem (Kb (Kr Sn))),h,Z,Z,N.mono (Pl.mono _) u⟩
 refine bC I (λj I=>?_) (λj I=>?_)
 ·refine ug j (kT Z) (ug j (kT Z) (ug j (mK Z) (ug j (kU Wv Z) (ug j (kP Z (kZ a.has (Mt Mh) Z dm)) (bS I λe1 c1 I=>sh j (Eg a call42 (lF.mF (AU (N.mono (Pl.mono _) (u.trans a.lb)) (D.mono (Pl.mono _) (u.trans a.lb)) c1)) λe0 a=>ug j (nt Z) (V (lh (cB j) Z) ?_)))))))
  have c:=sj I; subst c
  exact n _ _ ⟨_,a.kM,Z,Z,Z,Z,Z⟩
 refine un j (un j (un j (un j (un j (un j (un j (V (lg (cB j) Z) ?_)))))))
 have c:=sj I; subst c
 exact n _ _ ⟨_,a.kM,Z,Z,Z,Z,Z⟩
theorem CY {r:pg} (H:Sl nq 15 (hp qa) q0 qG.nK) (N:Sl oB 8 (hp qa) q1 qG.pv) (w:we nR (hp qa) q2 qN) (A:Sl pc 2 (hp qa) q3 qM) (hm:zc qG qC qN qM=some r) :
  lF false pg0 10 [vA [vS qG.Name,q0,q1],vS qC,q2,q3] qa (vA (nA r)):=by
 let O:Value:=vA (nA K4)
 refine cG 56 func10 Z (λd=>sg ?_)
 obtain ⟨A1,c2,rfl⟩:=H.form
 let b8:Value:= .slice A1 qG.nK.length c2
 obtain ⟨A3,c4,rfl⟩:=N.form
 let c1:Value:= .slice A3 qG.pv.length c4
 refine VE (lY d Z (λW6 b5 d=>VE (lq d fl λW8 b7 d=>lS (Wm (V (MR underlying29 w Z Z) (ln (CI hm Z (λf6 hm=>?_) λf6 hm=>?_)))))))
 ·refine sg (V (lX (v:=O) (mB Z) (lG fl dJ (LZ _ dJ) kr)) (VO (lz O ((nA K4).toArray) d Z Z fP (Az K4) nb Z (λi0 d=>ln ?_))))
  have d:=d.kM (Kb (Db St))
  refine lB (ly ?_)
  cases sj hm
  exact mR (v:=O) Z Z (kV d.has Mh (nA K4) Z kI fP) ⟨Z,d.ex⟩
 refine kg (VA d (Mt Mh) (C8 qG.Name A1 qG.nK.length c2 A3 qG.pv.length c4) gN fG (Wm (Wm ?_)))
 obtain ⟨Q,rfl⟩:=w.form
 refine V (lX (v:=vA [vS qG.Name,b8,c1,vS qC,.pointer Q,vN,vI 0,vN]) (KD Z Z Z) (lG zeroValue89 fS (ab8 _ fS) kr)) (VE (lY d Z (λi1 d2 d=>Wa (ln ?_))))
 have d:=d.kM (Kb (Kb (Db St)))
 refine kY (sg (Wm (V (lT cT Z A) (Wm (ln (mJ 23 22 (λi js E W=>∃B K y G D M a4 c8,lm (hp qa) a4∧ST false lN qa W a4 ((d2,Ob #[vS qG.Name,b8,c1,vS qC,.pointer Q,B,vI G,D] 89)::((b7,Ol (nA (⟨0,0⟩:pg)) 39)::(y++c8)))∧E 2= .pointer Q∧E 3=q3∧E 8=vP b7∧E 9=vP d2∧E 21=q3∧lQ 55 kQ 9 B K y∧Sl (Pl (lu .u8)) 1 a4 D M∧tI qN qG qC qM js i K G M=some r) A.len ⟨vN,[],[],0,vN,[],hp qa,_,lm.refl _,d.kM,Z,Z,Z,Z,Z,lQ.nil _ _ _,Sl.nil _ _ _,hm⟩ ?_ ?_))))))
 ·rintro x t f7 E W e5 ⟨⟨o,eN⟩,B,K,y,G,D,M,a4,c8,j,d,q,s,z,J,a9,U,I,a⟩
  refine sg (Wh o (VQ (my (i:=(x:Int)) (x0:=t) pc.out cT dq a9 o (A.mono vK.mono j) (aG _) e5) λh3 ⟨_,⟨h5,rfl,L⟩,e1⟩=>V (kP Z (lA d.has e1 gO dq)) (VE (lq d dF λg1 h2 d=>Wa ?_))))
  obtain ⟨Y,Zq,rfl⟩:=L.form
  let a6:Value:= .slice Y t.B.length Zq
  refine VO (FA (#[vB t.Out,a6]) d dq λg2 d=>lS (Wf DP (VB d Mh Z Z iQ (V (nt Z) (ln (CI a Z (λd8 a=>?_) λd8 a=>?_))))))
  ·refine kY ?_
   have d:=d.drew
   have g:=d.has.kM (Kb Sn)
   have n:=d.has.kM (Db (Kb Sn))
   refine vh 12 g n lM (nZ 0 Z g n (kT J) (nZ 1 Z g n (kT J) (nZ 2 Z g n (mK Z) (nZ 3 Z g n (kU RC Z) (Fo 4 Z g n (λhS=>kP Z (kZ hS Mh Z kG)) (nZ 5 Z g n (kT q) (LB 6 Z g n (λhS=>kP Z (kV hS Mh [vB t.Out,a6] Z gO dq)) (bS a λe9 e2 a=>?_))))))))
   refine XE 7 Z (eD d (bJ _) call27 (λhh=>FH hh (L.mono (Pl.mono _) (lm.refl _)) e2) ?_ (L0:=[]))
   rintro _ h6 h9 f8 d c a1 ⟨f1,b4,rfl,e6⟩
   cases b4
   have g:=d.has.ob c (Kb Sn)
   have n:=d.has.ob c (Db (Kb Sn))
   refine ⟨⟨g,λ_=>n⟩,bS a λh4 e3 a=>XE 8 Z (rM d call26 (Ee (w.mono po ((j.trans c).trans d.lb)) (e6.mono nu.mono d.lb) e3) λg4 f0 f3 g0 d k aa d7=>?_)⟩
   have g:=d.has.ob (c.trans k) (Dr (Kb Sn))
   have n:=d.has.ob (c.trans k) (Dr (Db (Kb Sn)))
   refine ⟨⟨g,λ_=>n⟩,?_⟩
   have d:=d.perm (Nr (Qr (Qb (Qb (Qb Qz)))) Nz)
   refine bS a λb9 d9 a=>XE 9 Z (oG (enc:=kQ) (v:=B) (vs:=f0) (R:=y) d mL dc ow aV od.1 od.2.1 Z od.2.2.1 od.2.2.2 Z Z U (d7.YJ mL d λp hq=>Ma (Ml hq)) d9 λg7 h7 e8 d d0=>?_)
   have g:=d.has.ob (c.trans k) (Dr (Dr (Kb Sn)))
   have n:=d.has.ob (c.trans k) (Dr (Dr (Db (Kb Sn))))
   refine ⟨⟨g,λ_=>n⟩,nZ 10 Z g n (mK Z) (nZ 11 Z g n (kU RC Z) ?_)⟩
   obtain ⟨c7,c9,rfl⟩:=d0.form
   let d1:Value:= .slice c7 b9.length c9
   have d:=d.perm (Nb (Pr (Pr (Pb Pz))) Nz)
   refine XO 12 Z (lz d1 (#[vS qG.Name,b8,c1,vS qC,.pointer Q,d1,vI G,D]) d Z Z sizeOf43 oc nb Z (λg8 d=>?_))
   have g:=d.has.ob (c.trans k) (Db (Dr (Dr (Kb Sn))))
   refine ⟨⟨g,λh=>yF kr h⟩,ml kr (kW ?_)⟩
   have d:=d.kM (Kb (Kr (Dr (Db St))))
   exact nB (nv (ry (kW ⟨o,eN,d1,b9,e8,G,D,M,f3,_,(j.trans c).trans k,d.kM (Kb (Sb (Pr Pz) St)),q,s,z,J,a9,d0,I.mono (Pl.mono _) (c.trans k),a⟩)))
  refine kg (Wh J (Wf Ct (VB d Mh Z Z dm (bS a λu e4 a=>?_))))
  let a5:=(⟨(x:Int),u.1⟩:pg)
  let T:Value:=vA (nA a5)
  refine VE (eD d (Cb (Pb Pz) (Cr (Qb (Qb Qz)) Cn)) call28 (λhh=>H0 hh (H.mono pU.mono j) (N.mono xi.mono j) (w.mono po j) U (I.mono (Pl.mono _) (lm.refl _)) (L.mono (Pl.mono _) (lm.refl _)) e4) ?_)
  rintro _ h8 f4 f9 d d3 ab ⟨f2,b6,rfl,e7⟩
  cases b6
  have d:=d.perm (Tb (Tr Tn))
  refine Wa (ln ?_)
  have d:=d.kM (Kb (Kr (Db St)))
  refine sg (Wm (Wi Z (ln (CI a Z (λe0 a=>?_) λe0 a=>?_))))
  ·refine sg (Wm (Wm (V (lX (v:=T) (pF Z Z) (lG fl dJ (LZ _ dJ) kr)) ?_)))
   have d:=d.perm (Nb (Pb (Pr Pz)) Nz)
   refine VO (lz T ((nA a5).toArray) d z Z fP (Az a5) nb Z (λh0 d=>ln ?_))
   have d:=d.kM (Kb (Db (Dr St)))
   refine lB (mG (ly (mG (ly ?_))))
   cases sj a
   exact mR (v:=T) Z z (kV d.has Mh (nA a5) Z kI fP) ⟨Z,d.ex⟩
  exact lU (lD (kW ⟨o,eN,B,K,y,u.2.1,f2,u.2.2,f4,_,j.trans d3,d.kM (Kb (Sb (Pr Pz) St)),q,s,z,J,a9,U,e7,a⟩))
 rintro E W ⟨⟨o,eN⟩,B,K,y,G,D,M,a4,c8,j,d,q,s,z,J,a9,U,I,a⟩
 refine kW ?_
 have d:=d.kM (Db (Kb (Dr St)))
 let a0:=(⟨(qM.length:Int),0⟩:pg)
 let P:Value:=vA (nA a0)
 refine sg (Wh s (V (lT cT Z A) (V (lX (v:=P) (mB Z) (lG fl dJ (LZ _ dJ) kr)) (VO (lz P ((nA a0).toArray) d z Z fP (Az a0) nb Z (λh1 d=>lt ?_))))))
 cases sj a
 exact mR (v:=P) Z z (kV d.has Mh (nA a0) Z kI fP) ⟨Z,d.ex⟩
theorem Hy (J:Sl pc 2 (hp qa) q0 qM) (hm:Bs qM=some qo) :
  mM false pg0 8 [q0] qa 3 (lu .i64) 1 qo:=by
 refine yd 30 func8 Z (λd=>sg (Wa (lr (Wa (lS (Wm ?_))))))
 refine V (lT cT Z J) (Wm (ln (mJ 11 10 (λi js E W=>∃j x g y H,lm (hp qa) y∧ST false lN qa W y (g++H)∧E 3=j∧E 9=q0∧lQ 3 (lu .i64) 1 j x g∧tG js x=some qo) J.len ⟨vN,[],[],hp qa,_,lm.refl _,d.kM,Z,Z,lQ.nil _ _ _,hm⟩ ?_ ?_)))
 ·rintro P k b6 E W w ⟨⟨h,n⟩,j,x,g,y,H,t,d,z,B,u,a⟩
  refine sg (VQ (my (i:=(P:Int)) (x0:=k) pc.out cT dq B h (J.mono vK.mono t) (aG _) w) λc8 ⟨_,⟨c9,rfl,M⟩,a4⟩=>V (kP Z (lA d.has a4 gO dq)) (VE (lq d dF λb9 c6 d=>?_)))
  obtain ⟨G,I,rfl⟩:=M.form
  let q:Value:= .slice G k.B.length I
  refine VO (FA (#[vB k.Out,q]) d dq λc0 d=>lr (Wf DP (VB d Mh Z Z iQ (ln (CI a Z (λa2 a=>?_) λa2 a=>?_)))))
  ·refine sg (Wf Ct (VB d Mh Z Z dm (bS a λc a5 a=>?_)))
   refine VE (eD d (bJ _) call24 (λhh=>GQ hh (M.mono (Pl.mono _) (lm.refl _)) a5) ?_ (L0:=[]))
   rintro _ d0 b4 b7 d Y o ⟨d1,d2,D,rfl,A,L⟩
   cases D
   refine Wm (Wx Z (Wx Z (Wx Z (VE (lq d cR λc2 c7 d=>Wa ?_)))))
   obtain ⟨N,T,rfl⟩:=A.form
   obtain ⟨Q,U,rfl⟩:=L.form
   refine VO (FA (#[vI c.2.1.Kind,vI c.2.1.oN,vI c.2.1.E,vS c.2.1.Name,.slice N c.2.1.nU.length T,.slice Q c.2.1.mC.length U]) d cI λc3 d=>Wa (ln ?_))
   have d:=d.kM (Db (Db St))
   refine kX (Wh z (Wm (VE (lE (cs:=[vI c.1].toArray) d (mB Z) (ng ez dH kk) λc4 O d=>?_))))
   have d:=d.perm (Nr (Qb Qz) Nz)
   refine bS a λb2 a3 a=>VE (oG (enc:=lu .i64) (v:=j) (vs:= .slice (some ⟨O,0,none⟩) 1 1) (R:=g) d (λ_=>rfl) dc (uk _) ez Hl.1 Hl.2.1 Z Hl.2.2.1 Hl.2.2.2 Z Z u (Sl.lit (enc:=lu .i64) (l:=[c.1]) (λ_=>rfl) Z nb Z (d.at_ (Ma Mh))) a3 λc5 b3 a9 d s=>Wa (lC (lD (kW ?_))))
   have d:=d.kM (Kr (Db St))
   exact ⟨h,n,b3,b2,a9,b4,_,t.trans Y,d.kM,Z,B,s,a⟩
  refine lU (lD (kW ?_))
  have d:=d.kM (Db St)
  exact ⟨h,n,j,x,g,y,_,t,d.kM,z,B,u,a⟩
 rintro E W ⟨⟨h,n⟩,j,x,g,y,H,t,d,z,B,u,a⟩
 refine kW (sg (Wh z (Wa (lt ?_))))
 cases sj a
 exact ma (v:=j) Z Z ⟨_,g,Z,d.oa (λp hq=>Ml hq) u.nd,u⟩
theorem JC (R:we nR (hp qa) q0 qN) (N:Sl pc 2 (hp qa) q1 qM) (hm:DD qN qM=some qr) :
  mM false pg0 13 [q0,q1] qa 55 kQ 9 qr:=by
 refine yd 25 func13 Z (λd=>sg (Wa (lr (Wa (lS (Wm ?_))))))
 refine V (lT cT Z N) (Wm (ln (mJ 10 9 (λi js E W=>∃t k j u M,lm (hp qa) u∧ST false lN qa W u (j++M)∧E 0=q0∧E 5=t∧E 8=q1∧mn 57 mg 10 u t k j∧vM qN js k=some qr) N.len ⟨vN,[],[],hp qa,_,lm.refl _,d.kM,Z,Z,Z,mn.nil _ _ _ _,hm⟩ ?_ ?_)))
 ·rintro Y c c1 E W O ⟨⟨h,n⟩,t,k,j,u,M,g,d,D,G,H,x,a⟩
  refine sg (VQ (my (i:=(Y:Int)) (x0:=c) pc.out cT dq H h (N.mono vK.mono g) (aG _) O) λc9 ⟨_,⟨d2,rfl,U⟩,a5⟩=>V (kP Z (lA d.has a5 gO dq)) (VE (lq d dF λc3 c8 d=>?_)))
  obtain ⟨y,z,rfl⟩:=U.form
  let A:Value:= .slice y c.B.length z
  refine VO (FA (#[vB c.Out,A]) d dq λc4 d=>lr (Wf DP (VB d Mh Z Z iQ (V (nt Z) (ln (CI a Z (λa3 a=>?_) λa3 a=>?_))))))
  ·refine kX (Wh G (VA d Mh [vB c.Out,A] gO dq (bS a λd0 J a=>?_)))
   refine VE (eD d (bJ _) call27 (λhh=>FH hh (U.mono (Pl.mono _) (lm.refl _)) J) ?_ (L0:=[]))
   rintro _ d3 b7 c2 d K q ⟨d4,I,rfl,a9⟩
   cases I
   have d:=d.perm (Nr (Qb Qz) Nz)
   refine bS a λb4 a4 a=>VE (sk (B:=j) nu d dc bV A4.1 A4.2.1 Z A4.2.2.1 A4.2.2.2 Z Z (x.mono nu K) (Br.sl nu a9 d.lb) a4 λc6 b5 P d a2=>Wa (lC (lD (kW ?_))))
   have d:=d.kM (Kr (Db St))
   exact ⟨h,n,b5,b4,P,b7,_,g.trans K,d.kM,D,Z,H,a2,a⟩
  refine lU (lD (kW ?_))
  have d:=d.kM (Db St)
  exact ⟨h,n,t,k,j,u,_,g,d.kM,D,G,H,x,a⟩
 rintro E W ⟨⟨h,n⟩,t,k,j,u,M,g,d,D,G,H,x,a⟩
 refine kW (sg (Wh D (Wh G (bS a λd1 L a=>VE (rM d call26 (Ee (R.mono po (g.trans d.lb)) (x.sl nu d.lb λb o w=>d.at_ (Ml w)) L) λc7 b6 d5 Q d c0 s T=>Wa (ln ?_))))))
 have d:=d.kM (Kr (Dr St))
 refine lB ?_
 cases sj a
 exact ma (v:=b6) Z Z ⟨_,Q,Z,d.oa (λp w=>Ml w) T.nd,T⟩
theorem Kq (U:Sl pc 2 (hp qa) q0 qM) (hm:DX qM=some qr) :
  mM false pg0 15 [q0] qa 55 kQ 9 qr:=by
 refine yd 32 func15 Z (λd=>sg (Wa (lr (Wa (lS (Wm ?_))))))
 refine V (lT cT Z U) (Wm (ln (mJ 10 9 (λi js E W=>∃y x z Y w,lm (hp qa) Y∧ST false lN qa W Y (z++w)∧E 3=y∧E 8=q0∧lQ 55 kQ 9 y x z∧vC js x=some qr) U.len ⟨vN,[],[],hp qa,_,lm.refl _,d.kM,Z,Z,lQ.nil _ _ _,hm⟩ ?_ ?_)))
 ·rintro b2 j g8 E W d9 ⟨⟨h,n⟩,y,x,z,Y,w,t,d,H,I,J,c⟩
  refine sg (VQ (my (i:=(b2:Int)) (x0:=j) pc.out cT dq I h (U.mono vK.mono t) (aG _) d9) λf9 ⟨_,⟨g3,rfl,b0⟩,c4⟩=>V (kP Z (lA d.has c4 gO dq)) (VE (lq d dF λe9 f7 d=>?_)))
  obtain ⟨B,G,rfl⟩:=b0.form
  let b8:Value:= .slice B j.B.length G
  refine VO (FA (#[vB j.Out,b8]) d dq λf0 d=>lr (Wf DP (VB d Mh Z Z iQ (ln (CI c Z (λc0 c=>?_) λc0 c=>?_)))))
  ·refine sg (VA d Mh [vB j.Out,b8] gO dq (bS c λg1 c6 c=>?_))
   refine VE (eD d (bJ _) call27 (λhh=>FH hh (b0.mono (Pl.mono _) (lm.refl _)) c6) ?_ (L0:=[]))
   rintro _ g4 P e8 d b6 q ⟨e5,Q,rfl,T⟩
   obtain rfl:=Q.symm
   refine V (lT bV Z T) (Wm (ln ?_))
   have d:=d.kM (Db St)
   refine tW (CJ c (λO E W=>∃M D b4,ST false lN qa W P (D++b4)∧E 3=M∧E 8=q0∧E 9=vI (qM.length:Int)∧E 10=vI (b2:Int)∧lQ 55 kQ 9 M O D) (λO c3=>?_) ?_)
   ·refine mJ 19 18 (λi js E W=>∃u K k A,ST false lN qa W P (k++A)∧E 3=u∧E 8=q0∧E 9=vI (qM.length:Int)∧E 10=vI (b2:Int)∧E 17=e5∧lQ 55 kQ 9 u K k∧xR js K=some O) T.len ⟨y,x,z,_,d.kM,H,I,n,h,Z,J,c3⟩ ?_ ?_
    ·rintro e0 a e7 E W d0 ⟨⟨h,n⟩,u,K,k,A,d,a2,a3,a4,a5,L,N,g⟩
     refine sg (VQ (my (i:=(e0:Int)) (x0:=a) mg.out bV bO L h T (aG _) d0) λg0 ⟨_,⟨g7,rfl,c9⟩,c5⟩=>V (kP Z (lA d.has c5 ef bO)) (VE (lq d cU λf2 f8 d=>?_)))
     obtain ⟨b3,b5,rfl⟩:=c9.form
     let b7:=C2 a.kK.Kind a.kK.Head.kO a.kK.Head.Word a.kK.lV a.kK.B.kO a.kK.B.Word a.kK.C.kO a.kK.C.Word a.kK.lW b3 a.Tag.length b5
     refine VO (FA b7.toArray d bO λf3 d=>ln (kX (Wh a2 (Wf rZ (VA d Mh (kQ a.kK) bK aK (VE (lE (cs:=(kQ a.kK).toArray) d (mB Z) (ng aV aK cO) λf4 d4 d=>?_)))))))
     have d:=d.perm (Nr (Qb (Qb Qz)) Nz)
     refine bS g λe2 c1 g=>VE (oG (enc:=kQ) (v:=u) (vs:= .slice (some ⟨d4,0,none⟩) 1 1) (R:=k) d mL dc ow aV od.1 od.2.1 Z od.2.2.1 od.2.2.2 Z Z N (Sl.lit (enc:=kQ) (l:=[a.kK]) mL Z nb Z (d.at_ (Ma Mh))) c1 λf5 e3 d1 d b9=>Wa (lC (lD (kW ?_))))
     have d:=d.kM (Kr (Db (Db St)))
     exact ⟨h,n,e3,e2,d1,_,d.kM,Z,a3,a4,a5,L,b9,g⟩
    rintro E W ⟨⟨h,n⟩,u,K,k,A,d,a2,a3,a4,a5,L,N,g⟩
    refine kW ?_
    obtain rfl:=sj g
    exact ⟨u,k,_,d.kM,a2,a3,a4,a5,N⟩
   rintro e1 E W ⟨M,D,b4,d,d5,d6,d7,d8,c8⟩ c2
   exact lD (kW ⟨d8,d7,M,e1,D,P,_,t.trans b6,d.kM,d5,d6,c8,c2⟩)
  refine lU (lD (kW ?_))
  have d:=d.kM (Db St)
  exact ⟨h,n,y,x,z,Y,_,t,d.kM,H,I,J,c⟩
 rintro E W ⟨⟨h,n⟩,y,x,z,Y,w,t,d,H,I,J,c⟩
 refine kW (sg (Wh H (bS c λg2 c7 c=>VE (rM d call32 (M9 (J.sl mL λb o hq=>d.at_ (Ml hq)) c7) λf6 e4 g9 d2 d e6 s a9=>Wa (ln ?_)))))
 have d:=d.kM (Kr (Dr St))
 refine lB ?_
 obtain rfl:=sj c
 exact ma (v:=e4) Z Z ⟨_,d2,Z,d.oa (λp hq=>Ml hq) a9.nd,a9⟩
end Go.Proofs.YtlfibegniofmjaaGreat
