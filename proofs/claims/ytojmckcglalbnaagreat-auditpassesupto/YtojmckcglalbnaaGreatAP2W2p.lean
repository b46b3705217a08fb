/- a part of a proof of AuditPasses -/
import Derived.Test.YtojmckcglalbnaaGreatAP2W1p
set_option linter.all false
namespace Go.Proofs.YtojmckcglalbnaaGreat
open Go.IntKind renaming wrap → wi0
open Go.Proofs.Tryz renaming prog → pg0
open Go.RowKit
set_option maxRecDepth 10000
open Tryz
variable {q0 q1 q2 q3 q4 q5 q6 q7 q8 q9:Value} {qa:World} {qb qc qd:Int} {qe:mO} {qf qg:Bool} {qh qi qj qk:Nat} {ql qm qn:List Int} {qo qp qq qr qs:LO} {qt qu:List lg} {qv qw:List lh} {qx:mD} {qy qz:Formula} {qA qB:List Formula} {qC:lg} {qD:Option mc} {qE qF:ByteArray} {qG:List oe} {qH qI:ow} {qJ:lm} {qK qL:lh} {qM:List (ByteArray×(List lg))} {qN:List (lh×(List (ByteArray×Bool)))} {qO:List (lh×(List lg))} {qP:List mT} {qQ:mf} {qR:pj} {qS:(Bool×(List Int))} {qT qU:List Signed} {qV:List np} {qW:List (ByteArray×Bool)} {qX:List (List Int)} {qY:List tT} {qZ:(Formula×Formula)→Option Int}
theorem D9 {c:Signed} (Zq:pV nh (hp qa) q0 qD) (k:Sl (Pl (lJ .u8)) 1 (hp qa) q1 c.Tag) (hm:ul qD c=some qb) :
  mo true pg0 73 [q0,vA [vI c.lg.Kind,vS c.lg.Head.lu,vS c.lg.Head.Word,vS c.lg.nj,vS c.lg.B.lu,vS c.lg.B.Word,vS c.lg.C.lu,vS c.lg.C.Word,vS c.lg.mV,q1]] qa (vI qb):=by
 refine cG 27 func73 Z (λh=>sg ?_)
 obtain ⟨M,Q,rfl⟩:=k.form
 refine VE (mA h Z (λW4 P h=>Wa (lr (Wm (Wf sP (VA h Mh (lj c.lg) bF aI (bS hm λr5 O hm=>?_)))))))
 refine VE (eD h (aT _) call42 (λY=>FI Y mv O) ?_ (L0:=[]))
 rintro _ c0 q b9 h a2 v ⟨a9,x,rfl,a3⟩
 cases x
 refine Wm (Wx Z (Wx Z (Wa (Wa (ln (lH (lH ?_)))))))
 have h:=h.drew
 have d:=h.has.ll (Kb Sn)
 refine mF d lV (X 0 Z d (lz Z) (X 1 Z d (mL Z Z Z) (X 2 Z d (lz Z) (PJ hm (λG E W=>∃z B,lM q z∧ST true nf qa W z ((P,Ol (C3 c.lg.Kind c.lg.Head.lu c.lg.Head.Word c.lg.nj c.lg.B.lu c.lg.B.Word c.lg.C.lu c.lg.C.Word c.lg.mV M c.Tag.length Q) 71)::B)∧E 6=vI r5.2∧E 25=vB G) (bm 12 4095) 0 ?_ λG g u=>?_))))
 ·rintro b7 E W ⟨z,B,D,h,T,U⟩ j
  refine mG kr (lE ?_)
  have h:=h.ll (Db St)
  refine CI j U (λI j=>?_) (λI j=>?_)
  ·refine sg (Wa (lt (mj ?_)))
   cases sj j
   exact rP h
  exact kg (Wh T (Wa (lt (rQ j h))))
 refine bC g (λa g=>?_) (λa g=>?_)
 ·refine Xg 3 Z Z (cB a) d (lz Z) (Xg 4 Z Z (cB a) d (ly sP Z) (uV 5 Z Z (cB a) d (λ_ s=>lq Z (lC s Mh (lj c.lg) Z bF aI)) (Xg 7 Z Z (cB a) d (ly B9 Z) (uV 8 Z Z (cB a) d (λ_ s=>lq Z (lA s Mh Z dq)) (bS g λa4 J g=>CZ 6 Z Z (cB a) (oG h call44 (Cu c.lg _ _  J) λb2 a5 y b1 h i t H=>?_))))))
  have d:=h.has.nx i (Dr (Kb Sn))
  refine ⟨d,bS g λb6 K g=>CZ 9 Z Z (cB a) (Eg h call116 (U5 mv (H.sl (λ_=>rfl) λb o hq=>h.at_ (Ml hq)) mv K) λb4 h=>?_)⟩
  have d:=h.has.nx i (Dr (Kb Sn))
  refine ⟨d,Xg 10 Z Z (cB a) d (nK Z) (X 11 Z d (lQ (cB a) Z) ?_)⟩
  cases sj g
  refine ov kr (u _ _ ⟨y,_,i,h.ll (Dr St),Z,Z⟩)
 refine Xn 3 Z Z (cB a) d (Xn 4 Z Z (cB a) d (Xn 5 Z Z (cB a) d (Xn 6 Z Z (cB a) d (Xn 7 Z Z (cB a) d (Xn 8 Z Z (cB a) d (Xn 9 Z Z (cB a) d (Xn 10 Z Z (cB a) d (X 11 Z d (lN (cB a) Z) ?_))))))))
 cases sj g
 refine ov kr (u _ _ ⟨q,_,lM.refl _,h.ll,Z,Z⟩)
theorem vi (a:Sl (Pl lj) 9 (hp qa) q0 qt) (hm:rA qt=some qu) :
  na true pg0 62 [q0] qa 69 lj 9 qu:=by
 unfold rA at hm
 refine vr 8 func62 Z (λd=>sg (Wa (lS (Wm ?_))))
 obtain ⟨y,B,rfl⟩:=a.form
 refine V (D5 aN Z Z) (ln ?_)
 rcases y with _ | z
 ·have u:=a.isNil
  replace hm:some []=some qu:=by rw [u] at hm; simpa [oY,maxLen] using hm
  refine xz (rfl) (sg (Wa (lt (mj ?_))))
  cases sj hm
  exact ma (v:=vN) Z Z ⟨_,[],Z,d.nT (λp g=>by cases g) rv,mg.nil _ _ _⟩
 ·refine oV (rfl) (kg (VE (mn (cs:=#[]) d pP (Eb [] aN aI cI dc Z rv Z Z) λG k d=>Wm (bS hm λH t hm=>VE (oU (enc:=lj) (v:= .slice (some ⟨k,0,none⟩) 0 0) (vs:= .slice (some z) qt.length B) (R:=[(k,Ob #[] 69)]) d mY dc pf aN nZ.1 nZ.2.1 Z nZ.2.2.1 nZ.2.2.2 Z Z (mg.lit (l:=[]) (enc:=lj) Z dc Z Z) mv t λD x j d c=>Wa (lt ?_))))))
  cases sj hm
  exact ma (v:=x) Z Z ⟨_,j,Z,d.nT (λp g=>Ml g) c.nd,c⟩
theorem CX {z:lg→Option Bool} (c:Sl (Pl lj) 9 (hp qa) q0 qt) (B:Dd pg0 q1 (hp qa) (λ(x:lg)=>[vA (lj x)]) (λ(qb:Bool)=>vB qb) z) (hm:uU qt z=some qb) :
  mo false pg0 105 [q0,q1] qa (vI qb):=by
 refine cG 19 func105 Z (λd=>sg (Wa (lS (Wm (V (mP aN Z c) (Wm (ln (nM 8 7 (λi j E W=>∃k,ST false nf qa W (hp qa) k∧E 0=q0∧E 1=q1∧tA z j i=some qb) c.len ⟨_,d.ll,Z,Z,hm⟩ ?_ ?_))))))))
 ·rintro K y M E W I ⟨⟨g,h⟩,k,d,t,u,a⟩
  refine sg (Wh g (Wa (lr (Wh u (Wh t (Wm (VQ (rp (enc:=lj) (i:=(K:Int)) (x0:=y) aN aI Z Z c (aF _) I) λQ G=>V (lq Z (mu d.has G bF aI)) (bS a λT H a=>VE (Sw y d B (lM.refl _) Z (pp Z) H λN d=>?_)))))))))
  refine ln (CI a Z (λD a=>?_) λD a=>?_)
  ·refine sg (Wm (Wa (lt (nz (mj (nz (mj ?_)))))))
   cases sj a
   exact rP d
  exact mU (mx (lE ⟨g,h,_,d.ll,t,u,a⟩))
 rintro E W ⟨⟨g,h⟩,k,d,t,u,a⟩
 exact lE (sg (Wa (lt (rQ a d))))
theorem wO {f1:lg→Option Bool} (h0:oa qe (qo++[]) qa) (T:mg 69 lj 9 q0 qt qo) (a4:Dd pg0 q1 qe (λ(x:lg)=>[vA (lj x)]) (λ(qu:Bool)=>vB qu) f1) (hm:ry qt f1=some qu) :
  nt false pg0 92 [q0,q1] qa (qo++[]) (λv L1 W'=>∃t S2,v=t∧L1=(S2++[])∧mg 69 lj 9 t qu S2):=by
 refine B6 h0 42 func92 Z (λd=>sg (Wa (lr (Wm (Wm (bS hm λs d3 hm=>VE (Eg d call105 (CX (T.sl mY λb o h=>d.at_ (Ml h)) (a4.mono d.ns) d3) λW3 d=>Wa (ln ?_))))))))
 refine lH (sg (Wm (Wi Z (ln (CI hm Z (λd2 hm=>?_) λd2 hm=>?_)))))
 ·refine sg (Wm (Wa (lt (mj ?_))))
  cases sj hm
  exact ma (v:=q0) Z Z ⟨_,_,Z,d.mB (Kr Sn),q0,qo,Z,Z,T⟩
 refine kS (Wm (Wi Z (Wa (ln (nO (pE (λm E W=>∃U I B D a2,ST false (keys (qo++[])) qa W qe (I++a2)∧E 0=q0∧E 1=q1∧E 5=vI B∧E 6=vI D∧mg 69 lj 9 q0 U I∧rB f1 m U B D=some qu) mZ ⟨qt,qo,s,wi0 .i64 (s+1),_,d.ll,Z,Z,Z,Z,T,hm⟩ ?_))))))
 rintro m E W ⟨U,I,B,D,a2,d,y,Q,G,K,g,a⟩
 cases m with
 | zero=>rw [rB] at a; cases a
 | succ c8=>
  refine lH (sg (Wh K (Wh y (V (sf aN Z g) (Wi Z (ln (CI a Z (λP a=>?_) λP a=>?_)))))))
  ·refine kn (lH (CJ a (λY E W=>∃J a3,ST false (keys (qo++[])) qa W qe (J++a3)∧E 0=q0∧E 1=q1∧E 5=vI Y.2∧E 6=vI D∧mg 69 lj 9 q0 Y.1 J) (λY c=>?_) ?_))
   ·refine bg (Wh y (Wh K (bS c λk M c=>VQ (pC (i:=D) (x0:=k) aN aI Z Z g (mK M) (mE M)) λe4 b3=>V (lq Z (uZ d.has (λp h=>Ml h) g mY b3 (mE M) bF aI)) (VE (lY d cI λd7 e2 d=>VO (FA (h1:=pf k) ((lj k).toArray) d aI λd8 d=>lr (Wh Q ?_)))))))
    refine VA d Mh (lj k) bF aI (bS c λe6 b5 c=>VE (Sw k d a4 (lM.refl _) Z (pp Z) b5 λd9 d=>V (nK Z) (ln (CI c Z (λb1 c=>?_) λb1 c=>?_))))
    ·refine sg (Wh y (Wh G (VA d Mh (lj k) bF aI (bS c λd0 N c=>VQ (pC (i:=B) (x0:=d0) aN aI Z Z g (mK N) (mE N)) λe5 b4=>?_))))
     have d:=d.perm (Nr (Qb Qz) Nz)
     refine VO (zF (u:=vA (lj k)) (x1:=k)  d g mY pf Z Z Z b4 (mE N) aI λe0 c1 d O=>ln ?_)
     have d:=d.ll (Kr (Db St))
     refine lI (Wh G (Wi Z (Wa (mh (mx (lE ?_))))))
     cases sj c
     exact ⟨c1,_,d.ll,y,Q,Z,K,O⟩
    refine mU (mx (lE ?_))
    cases sj c
    exact ⟨I,_,d.ll (Db St),y,Q,G,K,g⟩
   rintro ⟨c7,c9⟩ E W ⟨J,a3,d,c3,c4,c5,c6,b6⟩ b2
   exact lI (Wh c6 (Wi Z (Wa (ln ⟨c8,bH _,c7,J,c9,wi0 .i64 (D+1),_,d.ll,c3,c4,c5,Z,b6,b2⟩))))
  refine pg (oL (oL (uO (lE (sg (Wh y (Wh G (bS a λ_ j a=>VQ (Ak (i:=B) aN aI Z Z g (uh j) (tY j)) λe7 b7=>VO (DA (z:=K7)  d g mY pf aN cI b7 Z Z (λe1 c2 d a9=>lr (Wh y ?_)))))))))))
  refine Wh G (bS a λ_ q a=>VQ (yK (i:=B) aN aI Z Z a9 mY (uh q) (tY q)) λa5 b9=>Wa (lt ?_))
  cases sj a
  exact ma (v:=a5) Z Z ⟨_,_,Z,d.mB (Kr Sn),a5,c2,Z,Z,b9⟩
theorem Qp (a:lg) (r:Bool) (w:World) (hm:F8 a=some r) :
  mo true pg0 93 [vA (lj a)] w (vB r):=by
 refine cG 6 func93 Z (λd=>sg (VE (mA d Z (λg j d=>Wa (lr (VA d Mh (lj a) bF aI (bS hm λk c hm=>VE (Eg d call76 (xS a _ _  c) λi d=>V (nK Z) (Wa (mh ?_))))))))))
 refine lE ?_
 exact lO (rQ hm d)
theorem Xy {t:(lg×lg)→Option Int} (u:oa qe (qo++[]) qa) (i:mg 69 lj 9 q0 qt qo) (j:PV pg0 q1 qe (λ(x:(lg×lg))=>[vA (lj x.1),vA (lj x.2)]) (λ(qu:Int)=>vI qu) t) (hm:Fy t qt=some qu) :
  nt true pg0 94 [q0,q1] qa (qo++[]) (λv z W'=>∃S,v=vT []∧z=(S++[])∧mg 69 lj 9 q0 qu S):=MA (P:=pg0) (ρ:=ZB) acj 9 bF aI lj mY pf u.H u.S i j hm
theorem I2 (h0:oa qe (qo++[]) qa) (B:mg 69 lj 9 q0 qt qo) (hm:yd qt=some qu) :
  nt true pg0 96 [q0] qa (qo++[]) (λv L1 W'=>∃y1 S2,v=y1∧L1=(S2++[])∧mg 69 lj 9 y1 qu S2):=by
 refine B6 h0 61 func96 Z (λd=>sg (Wa (lS (Wm (V (sf aN Z B) (Wi Z (ln (CI hm Z (λg0 hm=>?_) λg0 hm=>?_))))))))
 ·refine sg (Wm (Wa (lt (mj ?_))))
  cases sj hm
  exact ma (v:=q0) Z Z ⟨_,_,Z,d.mB (Kr Sn),q0,qo,Z,Z,B⟩
 refine kS (Wa (ln (nO (pE (λm E W=>∃t b4,ST true (keys (qo++[])) qa W qe (qo++b4)∧E 0=q0∧E 3=vI t∧sI qt m t=some qu) mZ ⟨1,_,d.ll,Z,Z,hm⟩ ?_))))
 rintro m E W ⟨t,b4,d,D,H,a⟩
 cases m with
 | zero=>rw [sI] at a; cases a
 | succ f5=>
  refine lH (sg (Wh H (Wh D (V (sf aN Z B) (Wi Z (ln (CI a Z (λd0 a=>?_) λd0 a=>?_)))))))
  ·refine kn (lH (nO (lH ?_)))
   have d:=d.drew
   have h:=d.has.ll (Kr Sn)
   refine mF h lV (X 0 Z h (lz D) (X 1 Z h (lz H) (bS a λc3 s a=>XQ 2 Z h (pC (i:=t) (x0:=c3) aN aI Z Z B (mK s) (mE s)) λg7 d6=>XH 3 Z h (λ_ q=>lq Z (uZ q (λp j=>Ml j) B mY d6 (mE s) bF aI)) (X 4 Z h (lz D) (X 5 Z h (lz H) (X 6 Z h (mL Z Z Z) (bS a λc4 x a=>XQ 7 Z h (pC (i:=wi0 .i64 (t-1)) (x0:=c4) aN aI Z Z B (mK x) (mE x)) λg8 d7=>XH 8 Z h (λ_ q=>lq Z (uZ q (λp j=>Ml j) B mY d7 (mE x) bF aI)) (X 9 Z h (A4 Z Z (rY fi) (xu (Ao _ c3 c4))) (mG kr (lE ?_))))))))))
   refine CI a Z (λd1 a=>?_) (λd1 a=>?_)
   ·refine sg (Wh D (Wh H (bS a λ_ b0 a=>VQ (Ak (i:=t) aN aI Z Z B (uh b0) (tY b0)) λc1 M=>Wa (lS (Wa (ln ?_))))))
    refine CJ a (λU E W=>∃O b5,ST true (keys (qo++[])) qa W qe (O++b5)∧E 0=q0∧E 3=vI U.2∧mg 69 lj 9 q0 U.1 O) (λU d4=>?_) ?_
    ·refine nO (pE (λm E W=>∃P K Y y b6,ST true (keys (qo++[])) qa W qe (K++b6)∧E 0=q0∧E 3=vI Y∧E 4=c1∧E 5=vI y∧mg 69 lj 9 q0 P K∧sE t m P Y y=some U) mZ ⟨qt,qo,t,1,_,d.ll,D,H,Z,Z,B,d4⟩ ?_)
     rintro m E W ⟨P,K,Y,y,b6,d,Q,T,I,J,g,k⟩
     cases m with
     | zero=>rw [sE] at k; cases k
     | succ f6=>
      refine lH (sg (Wh J (Wh I (V (Kq aN Z M g) (Wi Z (ln (CI k Z (λd2 k=>?_) λd2 k=>?_)))))))
      ·refine kn (lH (CJ k (λa8 E W=>∃N b7,ST true (keys (qo++[])) qa W qe (N++b7)∧E 0=q0∧E 3=vI a8.2∧E 4=c1∧E 5=vI y∧mg 69 lj 9 q0 a8.1 N) (λa8 c=>?_) ?_))
       ·refine nO (lH ?_)
        have d:=d.drew
        have h:=d.has.ll (Kr Sn)
        refine mF h lV (X 0 Z h (lz I) (X 1 Z h (lz J) (bS c λc6 a2 c=>XQ 2 Z h (Ap (i:=y) (x0:=c6) aN aI Z Z g M (mK a2) (mE a2)) λg9 d8=>XH 3 Z h (λ_ q=>lq Z (uZ q (λp j=>Ml j) g mY d8 (Cl (mE a2)) bF aI)) (X 4 Z h (lz I) (X 5 Z h (lz J) (X 6 Z h (mL Z Z Z) (bS c λc7 a3 c=>XQ 7 Z h (Ap (i:=wi0 .i64 (y-1)) (x0:=c7) aN aI Z Z g M (mK a3) (mE a3)) λh1 d9=>XH 8 Z h (λ_ q=>lq Z (uZ q (λp j=>Ml j) g mY d9 (Cl (mE a3)) bF aI)) (X 9 Z h (QP Z Z (rY fi) (Lq (Ao _ c6 c7))) (mG kr (lE ?_))))))))))
        refine CI c Z (λd3 c=>?_) (λd3 c=>?_)
        ·refine sg (Wh Q (Wh T (Wh I (Wh J (bS c λa9 a4 c=>VQ (Ap (i:=y) (x0:=a9) aN aI Z Z g M (mK a4) (mE a4)) λh2 e0=>V (lq Z (uZ d.has (λp j=>Ml j) g mY e0 (Cl (mE a4)) bF aI)) (bS c λf8 a5 c=>VQ (pC (i:=Y) (x0:=f8) aN aI Z Z g (mK a5) (mE a5)) λh3 e1=>VO (zF (u:=vA (lj a9)) (x1:=a9)  d g mY pf Z Z Z e1 (mE a5) aI λg3 e8 d c9=>ln (lI ?_))))))))
         refine Wh T (Wi Z (Wa (mh (mx (lE ?_)))))
         cases sj c
         exact ⟨e8,_,d.ll,Q,Z,I,J,c9⟩
        refine mU (mx (lE ?_))
        cases sj c
        exact ⟨K,_,d.ll,Q,T,I,J,g⟩
       rintro ⟨f4,f7⟩ E W ⟨N,b7,d,f0,f1,f2,f3,e4⟩ d5
       exact lI (Wh f3 (Wi Z (Wa (ln ⟨f6,bH _,f4,N,f7,wi0 .i64 (y+1),_,d.ll,f0,f1,f2,Z,e4,d5⟩))))
      refine pg (oL (oL (uO (lE ?_))))
      cases sj k
      exact ⟨K,_,d.ll,Q,T,g⟩
    rintro ⟨g4,c5⟩ E W ⟨O,b5,d,b9,c0,b3⟩ G
    refine sg (Wh b9 (Wh c0 (bS G λ_ b1 G=>VQ (Ak (i:=c5) aN aI Z Z b3 (uh b1) (tY b1)) λh4 e2=>VO (DA (z:=K7)  d b3 mY pf aN cI e2 Z Z (λg2 e7 d c8=>lr (Wh b9 (Wh c0 (bS G λ_ b2 G=>VQ (yK (i:=c5) aN aI Z Z c8 mY (uh b2) (tY b2)) λc2 e3=>?_))))))))
    refine Wa (lt (nz (mj (mj (nz (mj ?_))))))
    cases sj G
    exact ma (v:=c2) Z Z ⟨_,_,Z,d.mB (Kr Sn),c2,e7,Z,Z,e3⟩
   exact mU (mx (lE (lI (Wh H (Wi Z (Wa (ln ⟨f5,bH _,wi0 .i64 (t+1),_,d.ll,D,Z,a⟩)))))))
  refine pg (oL (oL (uO (lE (sg (Wh D (Wa (lt ?_))))))))
  cases sj a
  exact ma (v:=q0) Z Z ⟨_,_,Z,d.mB (Kr Sn),q0,qo,Z,Z,B⟩
theorem wB (B:Sl (Pl lj) 9 (hp qa) q0 qt) (hm:pD qt=some qu) :
  na false pg0 49 [q0] qa 69 lj 9 qu:=by
 refine vr 11 func49 Z (λd=>sg (Wa (lr (Wm (bS hm λr1 T hm=>VE (oG d call62 (na.mN (vi mv T)) λW3 v7 P R8 d a5 y Q=>bS hm λU D hm=>?_))))))
 refine VE (eM d (Cr Qz Cn) call92 (λi _=>wO i Q ⟨93,#[],#[],Z,call93,λW x qu O hm=>(Qp x qu W  hm).mN⟩ D) ?_)
 rintro _ b5 b9 a8 d a1 q h ⟨k,K,a,rfl,I⟩
 obtain rfl:=a.symm
 have d:=d.perm (Tr Tn)
 refine Wa (lr (Wm (bS hm λY G hm=>?_)))
 refine VE (eM d (Cr Qz Cn) call94 (λi _=>nt.mN (Xy i I ⟨95,#[],Z,call95,λW x qu O hm=>Iz x.1 x.2 qu W  hm⟩ G)) ?_)
 rintro _ b6 c0 a9 d a2 s h ⟨M,c,rfl,J⟩
 obtain rfl:=c.symm
 have d:=d.perm (Tr Tn)
 refine lr (Wm (bS hm λb4 H hm=>?_))
 refine VE (eM d (Cr Qz Cn) call96 (λi _=>nt.mN (I2 i J H)) ?_)
 rintro _ b7 c1 b0 d a3 t h ⟨u,N,g,rfl,j⟩
 obtain rfl:=g.symm
 have d:=d.perm (Tr Tn)
 refine Wa (lt ?_)
 obtain rfl:=sj hm
 exact ma (v:=u) Z Z ⟨_,N,Z,d.nT (λp z=>Ml z) j.nd,j⟩
theorem EO (a5:pV nh (hp qa) q0 qD) (H:Sl mR 10 (hp qa) q1 qT) (hm:yB qD qT=some qt) :
  na false pg0 39 [q0,q1] qa 69 lj 9 qt:=by
 refine vr 26 func39 Z (λd=>sg (Wa (lr (Wa (lS (Wm ?_))))))
 refine V (mP cF Z H) (Wm (ln (nM 10 9 (λi js E W=>∃g k j G,ST false nf qa W (hp qa) (j++G)∧E 0=q0∧E 5=g∧E 8=q1∧mg 69 lj 9 g k j∧rJ qD js k=some qt) H.len ⟨vN,[],[],_,d.ll,Z,Z,Z,mg.nil _ _ _,hm⟩ ?_ ?_)))
 ·rintro b2 a c5 E W O ⟨⟨h,q⟩,g,k,j,G,d,y,z,B,t,c⟩
  refine sg (VQ (nI (i:=(b2:Int)) (x0:=a) mR.out cF bW B h H (aF _) O) λc1 ⟨_,⟨c4,rfl,K⟩,U⟩=>V (lq Z (mu d.has U eE bW)) (VE (lY d cQ λb3 c0 d=>?_)))
  obtain ⟨u,x,rfl⟩:=K.form
  let a0:=C3 a.lg.Kind a.lg.Head.lu a.lg.Head.Word a.lg.nj a.lg.B.lu a.lg.B.Word a.lg.C.lu a.lg.C.Word a.lg.mV u a.Tag.length x
  refine VO (FA a0.toArray d bW λb4 d=>lr (Wh y (VA d Mh a0 eE bW (bS c λc2 Y c=>VE (Eg d call73 (mo.mN (D9 mv mv Y)) λb5 d=>Wi Z (ln (CI c Z (λQ c=>?_) λQ c=>?_)))))))
  ·refine lI (Wh z (Wf sP (VA d Mh (lj a.lg) bF aI (VE (mn (cs:=(lj a.lg).toArray) d (nw Z) (nU aN aI cI) λb6 a4 d=>?_)))))
   have d:=d.perm (Nr (Qb (Qb Qz)) Nz)
   refine bS c λP T c=>VE (oU (enc:=lj) (v:=g) (vs:= .slice (some ⟨a4,0,none⟩) 1 1) (R:=j) d mY dc pf aN nZ.1 nZ.2.1 Z nZ.2.2.1 nZ.2.2.2 Z Z t (Sl.lit (enc:=lj) (l:=[a.lg]) mY Z nb Z (d.at_ (Ma Mh))) T λb7 a8 a2 d N=>Wa (mh (mx (lE ?_))))
   have d:=d.ll (Kr (Db (Db St)))
   exact ⟨h,q,a8,P,a2,_,d.ll,y,Z,B,N,c⟩
  refine mU (mx (lE ?_))
  have d:=d.ll (Db St)
  exact ⟨h,q,g,k,j,_,d.ll,y,z,B,t,c⟩
 rintro E W ⟨⟨h,q⟩,g,k,j,G,d,y,z,B,t,c⟩
 refine lE (sg (Wh z (bS c λc3 M c=>VE (oG d kp (wB (t.sl mY λb o I=>d.at_ (Ml I)) M) λb9 a9 c6 a3 d b1 s J=>Wa (ln ?_)))))
 have d:=d.ll (Kr (Dr St))
 refine lO ?_
 cases sj c
 exact ma (v:=a9) Z Z ⟨_,a3,Z,d.nT (λp I=>Ml I) J.nd,J⟩
theorem JG {g:Signed} (k:Sl lU 15 (hp qa) q0 qJ.lK) (a4:Sl mH 8 (hp qa) q1 qJ.mi) (b7:pV nh (hp qa) q2 qD) (P:Sl (Pl lj) 9 (hp qa) q3 qt) (b1:Sl (Pl (lJ .u8)) 1 (hp qa) q4 ql) (a5:At (hp qa) (vP qh) [vS qJ.Name,q0,q1,vS qE,q2,q3,vI qb,q4]) (D:Sl (Pl (lJ .u8)) 1 (hp qa) q5 g.Tag) (hm:yH qJ qE qD qt qb ql g=some qf) :
  mo true pg0 117 [vP qh,vA [vI g.lg.Kind,vS g.lg.Head.lu,vS g.lg.Head.Word,vS g.lg.nj,vS g.lg.B.lu,vS g.lg.B.Word,vS g.lg.C.lu,vS g.lg.C.Word,vS g.lg.mV,q5]] qa (vB qf):=by
 refine cG 30 func117 Z (λd=>sg ?_)
 obtain ⟨A1,c2,rfl⟩:=D.form
 refine VE (mA d Z (λW4 q d=>Wa (lS (Wm (Wn (VQ (pM [vS qJ.Name,q0,q1] TP Z a5 Z) λp5 J=>VQ (pM [q0] Dm Z J Z) λp8 M=>V (lq Z (om d.has (y:=q0) M jk)) (V (mP dL Z k) (Wm (mh ?_)))))))))
 refine lE (nM 13 12 (λi O E W=>∃Q,ST true nf qa W (hp qa) ((q,Ol (C3 g.lg.Kind g.lg.Head.lu g.lg.Head.Word g.lg.nj g.lg.B.lu g.lg.B.Word g.lg.C.lu g.lg.C.Word g.lg.mV A1 g.Tag.length c2) 71)::Q)∧E 3=vP q∧E 11=q0∧xc g O=some qf) k.len ⟨_,d.ll,Z,Z,hm⟩ ?_ ?_)
 ·rintro c1 a d1 E W I ⟨⟨h,s⟩,Q,d,K,U,j⟩
  refine sg (VQ (nI (i:=(c1:Int)) (x0:=a) lU.out dL dO U h k (aF _) I) λc7 ⟨_,⟨c9,d0,rfl,Y,a9⟩,x⟩=>V (lq Z (mu d.has x jl dO)) (VE (lY d fl λc3 c6 d=>?_)))
  obtain ⟨N,T,rfl⟩:=Y.form
  obtain ⟨t,a3,rfl⟩:=a9.form
  let u:=C5 a.Signed.lg.Kind a.Signed.lg.Head.lu a.Signed.lg.Head.Word a.Signed.lg.nj a.Signed.lg.B.lu a.Signed.lg.B.Word a.Signed.lg.C.lu a.Signed.lg.C.Word a.Signed.lg.mV N a.Signed.Tag.length T a.lB.Op a.lB.K a.lB.lh.lu a.lB.lh.Word t a.lB.Kids.length a3
  refine VO (FA u.toArray d dO λc4 d=>lr (Wf AF (Wf sP (VA d Mh (lj a.Signed.lg) bF aI (V (ly sP K) (VA d (Mt Mh) (lj g.lg) bF aI (V (A4 Z Z (rY fi) (xu (Ao _ a.Signed.lg g.lg))) (ln (CI j Z (λv j=>?_) λv j=>?_)))))))))
  ·refine sg (Wf AF (Wf B9 (VB d Mh Z Z dq (V (ly B9 K) (VB d (Mt Mh) Z Z dq (bS j λc8 z j=>VE (Eg d call74 (Bp mv mv z) λc5 d=>Wa (ln ?_))))))))
   have d:=d.ll (Db (Db St))
   refine lO (nz (mj (nz (mj ?_))))
   cases sj j
   exact rP d
  refine mU (mx (lE ?_))
  have d:=d.ll (Db St)
  exact ⟨h,s,_,d.ll,K,U,j⟩
 rintro E W ⟨⟨h,s⟩,Q,d,K,U,j⟩
 refine lE ?_
 have d:=d.ll (Db St)
 exact sg (Wa (lt (rQ j d)))
theorem J9 (g:Sl (Pl lj) 9 (hp qa) q0 qt) (hm:BJ qt qC=some qb) :
  mo true pg0 189 [q0,vA (lj qC)] qa (vI qb):=by
 refine cG 19 func189 Z (λd=>sg (VE (mA d Z (λK G d=>Wa (lS (Wm (V (mP aN Z g) (Wm (ln ?_)))))))))
 refine nM 8 7 (λi v E W=>∃k,ST true nf qa W (hp qa) ((G,Ol (lj qC) 69)::k)∧E 0=q0∧E 3=vP G∧vl qC v i=some qb) g.len ⟨_,d.ll,Z,Z,hm⟩ ?_ ?_
 ·rintro H x I E W B ⟨⟨j,s⟩,k,d,t,u,a⟩
  refine sg (Wh j (Wa (ln (lH ?_))))
  have d:=d.drew
  have h:=d.has.ll (Kb Sn)
  refine mF h lV (XH 0 Z h (λ_ q=>lq u (lC q Mh (lj qC) Z bF aI)) (X 1 Z h (lz t) (X 2 Z h (lz Z) (XQ 3 Z h (rp (enc:=lj) (i:=(H:Int)) (x0:=x) aN aI Z Z g (aF _) B) λJ z=>XH 4 Z h (λ_ q=>lq Z (mu q z bF aI)) (X 5 Z h (A4 Z Z (rY fi) (xu (Ao _ qC x))) (mG kr (lE (CI a Z (λy a=>?_) λy a=>?_))))))))
  ·refine sg (Wm (Wa (ln ?_)))
   have d:=d.ll (Db St)
   refine lO (nz (mj (nz (mj ?_))))
   cases sj a
   exact rP d
  exact mU (mx (lE ⟨j,s,_,d.ll,t,u,a⟩))
 rintro E W ⟨⟨j,s⟩,k,d,t,u,a⟩
 refine lE ?_
 have d:=d.ll (Db St)
 exact sg (Wa (lt (rQ a d)))
theorem HY (i:Sl (Pl lj) 9 (hp qa) q0 qt) (hm:xE qt qC=some qf) :
  mo true pg0 154 [q0,vA (lj qC)] qa (vB qf):=by
 refine cG 9 func154 Z (λa=>sg (VE (mA a Z (λk u a=>Wa (lr (Wm (VA a Mh (lj qC) bF aI (bS hm λx j hm=>VE (Eg a call189 (J9 mv j) λt a=>Wi Z (Wa ?_))))))))))
 refine ln ?_
 exact lO (rQ hm a)
theorem CE (i:Sl (Pl lj) 9 (hp qa) q0 qt) (hm:tq qt qC=some qf) :
  mo true pg0 114 [q0,vA (lj qC)] qa (vB qf):=by
 refine cG 8 func114 Z (λa=>sg (VE (mA a Z (λk u a=>Wa (lr (Wm (VA a Mh (lj qC) bF aI (bS hm λx j hm=>VE (Eg a call154 (HY mv j) λt a=>Wa (mh ?_))))))))))
 refine lE ?_
 exact lO (rQ hm a)
theorem Lh (a:lg) (r:List lh) (w:World) (hm:Cd a=some r) :
  na true pg0 223 [vA (lj a)] w 33 lp 2 r:=by
 refine vr 27 func223 Z (λd=>sg (VE (mA d Z (λW2 q d=>Wa (lS (VA d Mh (lj a) bF aI (bS hm λr3 a7 hm=>VE (Eg d call76 (xS a _ _  a7) λW5 d=>V (nK Z) (mh ?_)))))))))
 refine lE (CI hm Z (λP hm=>?_) λP hm=>?_)
 ·refine sg (Wa (ln ?_))
  have d:=d.ll (Db St)
  refine lO (mj ?_)
  cases sj hm
  exact ma (v:=vN) Z Z ⟨_,[],Z,d.nT (λp h=>by cases h) rv,mg.nil _ _ _⟩
 refine kg (Wf yv (VA d Mh (lp a.Head) bJ aM (VE (mn (cs:=(lp a.Head).toArray) d (nw Z) (nU aQ aM dE) λW8 y d=>Wa (ln (lH (CJ hm (λI E W=>∃j i z,ST true nf w W (hp w) ((q,Ol (lj a) 69)::(i++z))∧E 1=vP q∧E 3=j∧mg 33 lp 2 j I i) (λI g=>?_) ?_)))))))
 ·refine sg (Wf AD (VB d (Mt Mh) Z Z bK (Wi Z (ln (CI g Z (λQ g=>?_) λQ g=>?_)))))
  ·refine lI (Wm (Wf ub (VA d (Mt Mh) (lp a.B) bJ aM (VE (mn (cs:=(lp a.B).toArray) d (nw Z) (nU aQ aM dE) λb3 a4 d=>?_)))))
   have d:=d.perm (Nb (Pb Pz) Nz)
   refine bS g λc0 T g=>VE (oU (enc:=lp) (v:= .slice (some ⟨y,0,none⟩) 1 1) (vs:= .slice (some ⟨a4,0,none⟩) 1 1) (R:=[(y,Ol (lp a.Head) 33)]) d nC dc pt aQ oI.1 oI.2.1 Z oI.2.2.1 oI.2.2.2 Z Z (mg.lit (l:=[a.Head]) (enc:=lp) Z dc Z Z) (Sl.lit (enc:=lp) (l:=[a.B]) nC Z nb Z (d.at_ (Mt Mh))) T λb4 a9 O d K=>Wa (ln ?_))
   cases sj g
   exact ⟨a9,O,_,d.ll (Sb (Pr (Pb Pz)) (Kr (Db St))),Z,Z,K⟩
  refine kn ?_
  cases sj g
  have d:=d.JA
  exact ⟨.slice (some ⟨y,0,none⟩) 1 1,[(y,Ol (lp a.Head) 33)],_,d.ll (Sb (Pr Pz) St),Z,Z,mg.lit (l:=[a.Head]) (enc:=lp) Z dc Z Z⟩
 rintro b5 E W ⟨j,i,z,d,D,G,u⟩ U
 refine lH (CJ U (λH E W=>∃t k B,ST true nf w W (hp w) (k++B)∧E 3=t∧mg 33 lp 2 t H k) (λH c=>?_) ?_)
 ·refine sg (V (ly AD D) (VB d Mh Z Z bK (Wi Z (ln (CI c Z (λM c=>?_) λM c=>?_)))))
  ·refine lI (Wh G (V (ly Dl D) (VA d Mh (lp a.C) bJ aM (VE (mn (cs:=(lp a.C).toArray) d (nw Z) (nU aQ aM dE) λb0 a3 d=>?_)))))
   have d:=d.perm (Nr (Qb (Qb Qz)) Nz)
   refine bS c λb9 N c=>VE (oU (enc:=lp) (v:=j) (vs:= .slice (some ⟨a3,0,none⟩) 1 1) (R:=i) d nC dc pt aQ oI.1 oI.2.1 Z oI.2.2.1 oI.2.2.2 Z Z u (Sl.lit (enc:=lp) (l:=[a.C]) nC Z nb Z (d.at_ (Ma Mh))) N λb2 a8 s d J=>Wa (ln ?_))
   cases sj c
   exact ⟨a8,s,_,d.ll (Kr (Db (Db St))),Z,J⟩
  refine kn ?_
  cases sj c
  exact ⟨j,i,_,d.ll (Db St),G,u⟩
 rintro b6 E W ⟨t,k,B,d,a5,x⟩ Y
 refine sg (Wh a5 (Wa (lt ?_)))
 cases sj Y
 exact ma (v:=t) Z Z ⟨_,k,Z,d.nT (λp h=>Ml h) x.nd,x⟩
theorem JN {r:((List lg)×(List (lh×(List lg)))×(List (ByteArray×(List lg))))} (h0:oa qe ((qh,Ob #[q0,q1,q2,q3,q4,vI qb] 230)::(qo++(qp++(qq++(qr++(qs++[])))))) qa) (e5:ol (λ(x:lh)=>vA (lp x)) (ng Value.string λ(x:Bool)=>Value.bool x) q0 qN qo) (a6:mg 69 lj 9 q1 qt qp) (b2:ol (λ(x:lh)=>vA (lp x)) (mg 69 lj 9) q2 qO qq) (T:ol Value.string (mg 69 lj 9) q3 qM qr) (d7:uW 296 ot 3 q4 qP qs) (hm:yG qN qt qO qM qP qb qC=some r) :
  nt true pg0 190 [vP qh,vA (lj qC)] qa ((qh,Ob #[q0,q1,q2,q3,q4,vI qb] 230)::(qo++(qp++(qq++(qr++(qs++[])))))) (λv L1 W'=>∃y1 S2 S4 S6,v=vT []∧L1=((qh,Ob #[q0,y1,q2,q3,q4,vI qb] 230)::(qo++(S2++(S4++(S6++(qs++[]))))))∧mg 69 lj 9 y1 r.1 S2∧ol (λ(x:lh)=>vA (lp x)) (mg 69 lj 9) q2 r.2.1 S4∧ol Value.string (mg 69 lj 9) q3 r.2.2 S6):=by
 refine B6 h0 55 func190 Z (λa=>sg (VE (mA a Z (λW2 Y a=>ln (lH ?_)))))
 have a:=a.drew
 have d:=a.has.ll (Kb Sn)
 have g:=a.has.ll (Db (Kb Sn))
 refine rW 10 d g lV (nu 0 Z d g (lz Z) (nu 1 Z d g (lz Z) (nu 2 Z d g (lX Z) (nu 3 Z d g (ly OV Z) (BU 4 Z d g (λj=>lq Z (lA j Mh Z dQ)) (IS 5 Z d g (λj=>lq Z (lC j Mh (lj qC) Z bF aI)) (XE 6 Z (mn (cs:=(lj qC).toArray) a (nw Z) (nU aN aI cI) λj6 f6 a=>?_))))))))
 have d:=a.has.ll (Db (Kb Sn))
 have g:=a.has.ll (Db (Db (Kb Sn)))
 refine ⟨⟨d,λ_=>g⟩,?_⟩
 have a:=a.perm (Nr (Qb (Qb (Qb (Qr Qz)))) Nz)
 refine bS hm λa5 e6 hm=>XE 7 Z (oU (enc:=lj) (v:=q1) (vs:= .slice (some ⟨f6,0,none⟩) 1 1) (R:=qp) a mY dc pf aN nZ.1 nZ.2.1 Z nZ.2.2.1 nZ.2.2.2 Z Z a6 (Sl.lit (enc:=lj) (l:=[qC]) mY Z nb Z (a.at_ (Ma Mh))) e6 λj7 k1 O a J=>?_)
 have d:=a.has.ll (Dr (Db (Kb Sn)))
 have g:=a.has.ll (Dr (Db (Db (Kb Sn))))
 refine ⟨⟨d,λ_=>g⟩,nu 8 Z d g (lX Z) (nu 9 Z d g (ly OV Z) ?_)⟩
 obtain ⟨a8,b0,rfl⟩:=J.form
 let q:Value:= .slice a8 a5.length b0
 have a:=a.perm (Nb (Pr (Pb (Pb Pz))) Nz)
 refine XO 10 Z (lZ q (#[q0,q,q2,q3,q4,vI qb]) a Z Z fx oc nb Z (λj8 a=>?_))
 have d:=a.has.ll (Db (Dr (Db (Kb Sn))))
 refine ⟨⟨d,λh=>tC kr h⟩,mG kr (lE ?_)⟩
 have a:=a.ll (Kb (Kr (Db St)))
 refine lH (sg (VA a (Mt (Ma Mh)) (lj qC) bF aI (bS hm λk0 e7 hm=>VE (oG a call223 (Lh qC _ _  e7) λj9 k2 k3 j5 a g0 aa e4=>?_))))
 obtain ⟨f9,a,g1,ab,e8⟩:=ST.xM a e4 nC
 refine bS hm λ_ b9 hm=>VQ (Ds (i:=1) aQ aM Z Z e8 (uh b9) (tY b9)) (λf7 M=>V (mP aQ Z M.1) (Wm (ln (nM 20 19 (λi js E W=>∃a3 U y,ST true (keys ((qh,Ob #[q0,q1,q2,q3,q4,vI qb] 230)::(qo++(qp++(qq++(qr++(qs++[]))))))) qa W f9 ((qh,Ob #[q0,q,q2,q3,q4,vI qb] 230)::((Y,Ol (lj qC) 69)::(U++(O++(qo++(qr++(qs++y)))))))∧E 0=vP qh∧E 3=vP Y∧E 18=f7∧ol (λ(x:lh)=>vA (lp x)) (mg 69 lj 9) q2 a3 U∧tb qC qM a5 js a3=some r) M.1.len ⟨qO,qq,_,a.ll (Kb (Sb (Pr Pz) (Sr (Qr (Qr Qz)) St))),Z,Z,Z,b2,hm⟩ ?_ ?_))))
 ·rintro e9 Q g9 E W d5 ⟨⟨P,eN⟩,a3,U,y,a,a2,N,I,s,t⟩
  refine sg (VQ (rp (enc:=lp) (i:=(e9:Int)) (x0:=Q) aQ aM I P M.1 (aF _) d5) λi8 d2=>V (lq Z (mu a.has d2 bJ aM)) (VE (lY a dE λh7 i6 a=>VO (FA (h1:=pt Q) ((lp Q).toArray) a aM λh8 a=>ln ?_))))
  have a:=a.drew
  have d:=a.has.ll (Kb (Kb (Kb Sn)))
  refine mF d lV (X 0 Z d (lz a2) (X 1 Z d (lX Z) (X 2 Z d (ly Ux Z) (XH 3 Z d (λ_ j=>lq Z (lA j (Mt Mh) Z isAgg226)) (XH 4 Z d (λ_ j=>lq Z (lC j Mh (lp Q) Z bJ aM)) (XH 5 Z d (λ_ j=>lq N (lC j (Mt (Mt Mh)) (lj qC) Z bF aI)) (XE 6 Z (mn (cs:=(lj qC).toArray) a (nw Z) (nU aN aI cI) λh9 e2 a=>?_))))))))
  have d:=a.has.ll (Db (Kb (Kb (Kb Sn))))
  refine ⟨d,?_⟩
  obtain ⟨g4,d0⟩:=s
  have a:=a.perm (Nr (Qb (Qb (Qb (Qb Qz)))) Nz)
  refine XE 7 Z (UZ (k:=Q) (x0:=[])  mw DY underlying226 iN (mg.nil _ _ _) a d0 Z Z (λi0 f1 g8 h2 d8 a c2 c1=>?_))
  have d:=a.has.ll (Dr (Dr (Db (Kb (Kb (Kb Sn))))))
  refine ⟨d,X 8 Z d (pA Z Z) (X 10 Z d (pA Z Z) ?_)⟩
  have a:=a.perm (Nr (Qr Qz) Nz)
  refine bS t λc0 c7 t=>XE 9 Z (oU (enc:=lj) (v:=f1) (vs:= .slice (some ⟨e2,0,none⟩) 1 1) (R:=d8) a mY dc pf aN nZ.1 nZ.2.1 Z nZ.2.2.1 nZ.2.2.2 Z Z c2 (Sl.lit (enc:=lj) (l:=[qC]) mY Z nb Z (a.at_ (Ma (Ma Mh)))) c7 λi1 i9 h3 a c3=>?_)
  have d:=a.has.ll (Dr (Dr (Db (Kb (Kb (Kb Sn))))))
  refine ⟨d,?_⟩
  have a:=a.perm (Nr (Qr Qz) Nz)
  refine XO 11 Z (Sv (e:=0) (z:=c0)  mw DY a c1 Z Z Z c3 λi2 g7 d9 a c4=>?_)
  have d:=a.has.ll (Dr (Db (Kb (Kb (Kb Sn)))))
  refine ⟨d,mG kr (mx (lE ?_))⟩
  have a:=a.ll (Kr (Db (Db St)))
  exact ⟨P,eN,pO mq a3 Q c0,d9,_,a.ll (Sb (Pr Pz) (Sb (Pr Pz) St)),a2,N,I,c4.e,t⟩
 rintro E W ⟨⟨P,eN⟩,a3,U,y,a,a2,N,I,s,t⟩
 refine lE (sg (V (ly AD N) (VB a (Mt Mh) Z Z bK (Wi Z (ln (CI t Z (λc8 t=>?_) λc8 t=>?_))))))
 ·have a:=a.drew
  have d:=a.has.ll (Kb (Kb Sn))
  have g:=a.has.ll (Db (Db (Dr (Dr (Dr (Kr Sn))))))
  refine rW 15 d g lV (nu 0 Z d g (lz a2) (nu 1 Z d g (lX Z) (nu 2 Z d g (ly OK Z) (IS 3 Z d g (λj=>lq Z (lA j Mh Z isAgg227)) (nu 4 Z d g (ly Du N) (IS 5 Z d g (λj=>lq Z (lA j (Mt Mh) Z cA)) (nu 6 Z d g (lz a2) (nu 7 Z d g (lX Z) (nu 8 Z d g (ly OK Z) (IS 9 Z d g (λj=>lq Z (lA j Mh Z isAgg227)) (nu 10 Z d g (ly Du N) (IS 11 Z d g (λj=>lq Z (lA j (Mt Mh) Z cA)) ?_))))))))))))
  obtain ⟨d6,u⟩:=T
  obtain ⟨h4,g2,g3⟩:=oS.rowAt oq.1 u qC.mV
  refine BU 12 Z d g (λj=>ur (k:=qC.mV) (z:=vN) HQ underlying227 iN Z Z u λb o hq=>j.2 b o (Ml hq)) (IS 13 Z d g (λj=>lq N (lC j (Mt Mh) (lj qC) Z bF aI)) (XE 14 Z (mn (cs:=(lj qC).toArray) a (nw Z) (nU aN aI cI) λi3 e3 a=>?_)))
  have d:=a.has.ll (Db (Kb (Kb Sn)))
  have g:=a.has.ll (Db (Db (Db (Dr (Dr (Dr (Kr Sn)))))))
  refine ⟨⟨d,λ_=>g⟩,?_⟩
  have a:=a.perm (Nr (Qb (Qb (Qb (Qr (Qr (Qr Qz)))))) Nz)
  obtain ⟨h5,e0,d3,d4,d1⟩:=oS.open oq.1 (mg.nil _ _ _) u qC.mV
  have a:=a.perm (Opn d3)
  have a:=a.perm (Nr (Qr Qz) Nz)
  refine bS t λf0 c9 t=>XE 15 Z (oU (enc:=lj) (v:=uN ob d6 qC.mV vN) (vs:= .slice (some ⟨e3,0,none⟩) 1 1) (R:=e0) a mY dc pf aN nZ.1 nZ.2.1 Z nZ.2.2.1 nZ.2.2.2 Z Z d4 (Sl.lit (enc:=lj) (l:=[qC]) mY Z nb Z (a.at_ (Ma (Ma Mh)))) c9 λi4 j0 h6 a c5=>?_)
  have d:=a.has.ll (Dr (Dr (Db (Kb (Kb Sn)))))
  refine ⟨⟨d,λh=>tC kr h⟩,?_⟩
  have a:=a.perm (Nr (Qr Qz) Nz)
  refine XO 16 Z (aaS (k:=qC.mV) (z:=f0)  HQ underlying227 a d1 Z Z Z c5 λi5 e1 a c6=>?_)
  have d:=a.has.ll (Dr (Db (Kb (Kb Sn))))
  refine ⟨⟨d,λh=>tC kr h⟩,mG kr (rI ?_)⟩
  cases sj t
  exact pF Z ⟨_,_,Z,a.mB (Sb (Pr (Pb Pz)) (Sr (Qr (Qb (Qb (Qr (Qr Qz))))) (Sr (Qr (Qb (Qb (Qr Qz)))) (Sr (Qr (Qb (Qb Qz))) (Kr (Db (Db (Kr Sn)))))))),q,O,U,e1,Z,Z,J,s,c6.e⟩
 refine mU (rI ?_)
 cases sj t
 exact pF Z ⟨_,_,Z,a.mB (Kb (Db (Sr (Qr (Qr Qz)) (Sr (Qr Qz) (Kr (Kr (Kr Sn))))))),q,O,U,qr,Z,Z,J,s,T⟩
theorem wD {r:((List (lh×(List (ByteArray×Bool))))×(List mT)×Int)} (h0:oa qe ((qh,Ob #[q0,q1,q2,q3,q4,vI qb] 230)::(qo++(qp++(qq++(qr++(qs++[])))))) qa) (a5:ol (λ(x:lh)=>vA (lp x)) (ng Value.string λ(x:Bool)=>Value.bool x) q0 qN qo) (b5:mg 69 lj 9 q1 qt qp) (c3:ol (λ(x:lh)=>vA (lp x)) (mg 69 lj 9) q2 qO qq) (b6:ol Value.string (mg 69 lj 9) q3 qM qr) (K:uW 296 ot 3 q4 qP qs) (hm:rX qN qt qO qM qP qb qK qE=some r) :
  nt true pg0 224 [vP qh,vA (lp qK),vS qE] qa ((qh,Ob #[q0,q1,q2,q3,q4,vI qb] 230)::(qo++(qp++(qq++(qr++(qs++[])))))) (λv L1 W'=>∃S1 O S4,v=vT []∧L1=((qh,Ob #[q0,q1,q2,q3,O,vI r.2.2] 230)::(S1++(qp++(qq++(qr++(S4++[]))))))∧ol (λ(x:lh)=>vA (lp x)) (ng Value.string λ(x:Bool)=>Value.bool x) q0 r.1 S1∧uW 296 ot 3 O r.2.1 S4):=by
 let t:=(#[q0,q1,q2,q3,q4,vI qb]:Array Value)
 refine B6 h0 53 func224 Z (λd=>sg (VE (mA d Z (λW2 y d=>ln (lH (lH ?_))))))
 have d:=d.drew
 have a:=d.has.ll (Kb (Kb (Kr Sn)))
 refine mF a lV (X 0 Z a (lz Z) (X 1 Z a (lX Z) (X 2 Z a (ly CO Z) (XH 3 Z a (λ_ i=>lq Z (lA i (Mt Mh) Z iO)) (XH 4 Z a (λ_ i=>lq Z (lC i Mh (lp qK) Z bJ aM)) ?_)))))
 obtain ⟨f4,Q⟩:=a5
 refine XH 5 Z a (λ_ i=>ur (k:=qK) (z:= .map none) DY fp gf Z Z Q λb o j=>i.2 b o (Mt (Mt (Ml j)))) (X 6 Z a (lz Z) (XH 7 Z a (λ_ i=>zG (k:=qE) (z:=false) (vf:=λ(x:Bool)=>Value.bool x) HQ fq gC Z Z (oS.JE (μ:=hp _) mw.1 Q qK λb o j=>i.2 b o (Mt (Mt (Ml j))))) (mG kr (lE (CI hm Z (λd5 hm=>?_) λd5 hm=>?_)))))
 ·refine lO (mj ?_)
  cases sj hm
  exact pF Z ⟨_,_,Z,d.mB (Db (Kb (Kr (Kr (Kr (Kr (Kr Sn))))))),qo,q4,qs,Z,Z,Q.e,K⟩
 refine kn (lH (CJ hm (λJ E W=>∃s M,ST true (keys ((qh,oC t 230)::(qo++(qp++(qq++(qr++(qs++[]))))))) qa W qe ((y,Ol (lp qK) 33)::((qh,oC t 230)::(s++(qp++(qq++(qr++(qs++M)))))))∧E 0=vP qh∧E 2=vS qE∧E 4=vP y∧ol (λ(x:lh)=>vA (lp x)) (ng Value.string λ(x:Bool)=>Value.bool x) q0 J s) (λJ I=>?_) ?_))
 ·refine lH ?_
  have d:=d.drew
  have a:=d.has.ll (Kb (Kb (Kr Sn)))
  refine mF a lV (X 0 Z a (lz Z) (X 1 Z a (lX Z) (X 2 Z a (ly CO Z) (XH 3 Z a (λ_ i=>lq Z (lA i (Mt Mh) Z iO)) (XH 4 Z a (λ_ i=>lq Z (lC i Mh (lp qK) Z bJ aM)) (XH 5 Z a (λ_ i=>ur (k:=qK) (z:= .map none) DY fp gf Z Z Q λb o j=>i.2 b o (Mt (Mt (Ml j)))) (X 6 Z a (SV mw.1 fq Q Z Z) (mG kr (lE (CI I Z (λb7 I=>?_) λb7 I=>?_))))))))))
  ·have d:=d.drew
   have a:=d.has.ll (Kb (Kb Sn))
   refine mF a lV (X 0 Z a (lz Z) (X 1 Z a (lX Z) (X 2 Z a (ly CO Z) (XH 3 Z a (λ_ i=>lq Z (lA i (Mt Mh) Z iO)) (XH 4 Z a (λ_ i=>lq Z (lC i Mh (lp qK) Z bJ aM)) (XE 5 Z (FN (P:=pg0) Value.string (λ(x:Bool)=>Value.bool x) d λe1 e7 d9 d Y=>?_)))))))
   have a:=d.has.ll (Dr (Kb (Kb Sn)))
   refine ⟨a,?_⟩
   have d:=d.perm (Nr (Qr (Qb (Qb Qz))) Nz)
   refine bS I λe4 b9 I=>XO 6 Z (Qe (k:=qK) (z:=[])  DY fp d Q Z Z Z Y b9 λe2 c4 d b4=>?_)
   have a:=d.has.ll (Dr (Kb (Kb Sn)))
   refine ⟨a,mG kr (lE ?_)⟩
   cases sj I
   exact ⟨c4,_,d.ll (Sb (Pr Pz) (Sb (Pr Pz) St)),Z,Z,Z,b4.e⟩
  refine kn ?_
  cases sj I
  exact ⟨qo,_,d.ll,Z,Z,Z,Q.e⟩
 rintro f2 E W ⟨s,M,d,q,c1,c2,c8⟩ T
 refine lH ?_
 have d:=d.drew
 have a:=d.has.ll (Kb (Kb Sn))
 have g:=d.has.ll (Db (Db (Kr Sn)))
 refine rW 7 a g lV (nu 0 Z a g (lz q) (nu 1 Z a g (lX Z) (nu 2 Z a g (ly CO Z) (IS 3 Z a g (λi=>lq Z (lA i (Mt Mh) Z iO)) (IS 4 Z a g (λi=>lq c2 (lC i Mh (lp qK) Z bJ aM)) ?_)))))
 obtain ⟨e5,a9⟩:=c8
 refine BU 5 Z a g (λi=>ur (k:=qK) (z:= .map none) DY fp gf Z Z a9 λb o j=>i.2 b o (Ml j)) (nu 6 Z a g (lz c1) ?_)
 have d:=d.perm (Nr (Qb (Qb Qz)) Nz)
 refine bS T λf3 c7 T=>XO 7 Z (VL (k:=qK) (v:=true) (vf:=λ(x:Bool)=>Value.bool x)  mw.1 HQ fq d a9 Z Z Z c7 λe8 c9 d c5=>?_)
 have a:=d.has.ll (Dr (Kb (Kb Sn)))
 refine ⟨⟨a,λh=>tC kr h⟩,mG kr (lE (sg (Wh q (Wn (Wf Lm (VB d (Ma (Mt Mh)) Z Z bK (Wi Z (Wn (Wf Lm ?_)))))))))⟩
 have d:=d.perm (Nb (Pr (Pb Pz)) Nz)
 refine VO (lZ (vI (wi0 .i64 (qb+1))) (#[q0,q1,q2,q3,q4,vI (wi0 .i64 (qb+1))]) d Z Z dn (vM _ (wi0 .i64 (qb+1))) nb Z (λe9 d=>ln ?_))
 have d:=d.drew
 have a:=d.has.ll (Db (Dr (Kb Sn)))
 have g:=d.has.ll (Kb Sn)
 refine rW 12 a g lV (nu 0 Z a g (lz q) (nu 1 Z a g (lz q) (nu 2 Z a g (lX Z) (nu 3 Z a g (ly GI Z) (BU 4 Z a g (λi=>lq Z (lA i Mh Z isAgg228)) (IS 5 Z a g (λi=>lq c2 (lC i Mh (lp qK) Z bJ aM)) (nu 6 Z a g (lz c1) (nu 7 Z a g (mW (v:=vA (ot (⟨qK,qE⟩:mT))) (pZ Z Z) (mz kN gl (Zb _ gl) kr)) (XE 8 Z (mn (cs:=(ot (⟨qK,qE⟩:mT)).toArray) d (nw Z) (nU iH kA kN) λf0 d4 d=>?_))))))))))
 have a:=d.has.ll (Db (Db (Dr (Kb Sn))))
 have g:=d.has.ll (Db (Kb Sn))
 refine ⟨⟨a,λ_=>g⟩,?_⟩
 have d:=d.perm (Nr (Qb (Qb (Qr (Qb (Qr (Qr (Qr Qz))))))) Nz)
 refine bS T λU c6 T=>XE 9 Z (Td (enc:=ot) (v:=q4) (vs:= .slice (some ⟨d4,0,none⟩) 1 1) (R:=qs) d AJ dc Tx iH Ls.1 Ls.2.1 Z Ls.2.2.1 Ls.2.2.2 Z Z K (Sl.lit (enc:=ot) (l:=[(⟨qK,qE⟩:mT)]) AJ Z nb Z (d.at_ (Ma Mh))) c6 λf1 e6 d0 d u=>?_)
 have a:=d.has.ll (Dr (Db (Db (Dr (Kb Sn)))))
 have g:=d.has.ll (Dr (Db (Kb Sn)))
 refine ⟨⟨a,λ_=>g⟩,nu 10 Z a g (lX Z) (nu 11 Z a g (ly GI Z) ?_)⟩
 obtain ⟨a3,a4,rfl⟩:=u.form
 let a2:Value:= .slice a3 U.length a4
 have d:=d.perm (Nb (Pr (Pb Pz)) Nz)
 refine XO 12 Z (lZ a2 (#[q0,q1,q2,q3,a2,vI (wi0 .i64 (qb+1))]) d Z Z sizeOf228 oc nb Z (λe0 d=>?_))
 have a:=d.has.ll (Db (Dr (Db (Dr (Kb Sn)))))
 refine ⟨⟨a,λh=>tC kr h⟩,mG kr (rI ?_)⟩
 cases sj T
 exact pF Z ⟨_,_,Z,d.mB (Kb (Sr (Qr (Qb Qz)) (Sr (Qr (Qb (Qb Qz))) (Sr (Qr (Qb (Qb Qz))) (Sr (Qr (Qb (Qb Qz))) (Kr Sn)))))),c9,a2,d0,Z,Z,c5.e,u⟩
theorem Bq {r:Unit} (c:uR Value.string (λ(x:Bool)=>Value.bool x) (hp qa) q0 qW) (hm:tI qW=some r) :
  nt true pg0 244 [q0] qa [] (λv k W'=>∃i,v=(.func (.func 257) #[] #[vP i])∧k=((i,Ob #[q0] 235)::[])):=by
 refine vr 4 func244 Z (λa=>sg ?_)
 have d:=a
 obtain ⟨t,rfl⟩:=c.form
 have a:=d
 refine VE (mA a Z (λu j a=>Wa (lr (V (pG (by exact pp Z) Z) (Wa (lt ?_))))))
 cases sj hm
 exact ma (v:= .func (.func 257) #[] #[vP j]) Z Z ⟨_,_,Z,a.WU (Kb Sn),j,Z,Z⟩
theorem OC {β:Type} {vf:β→Value} {l:List (ByteArray×β)} {b:Nat} {mv:Value} {W:World} {r:List ByteArray} (a:W.heap[b]? =some (.cells #[mv] 235 (0,0))) (hm:uR Value.string vf (hp W) mv l) (hk:Nw l=some r):na false pg0 243 [.func (.func 257) #[] #[.pointer (some ⟨b,0,none⟩)]] W 9 Jn 1 r:=SF (P:=pg0) Z4 aaf aaN Z bX call257 call256 a hm hk
theorem D3 {r:List ByteArray} (J:sQ (λ(x:lh)=>vA (lp x)) (ng Value.string λ(x:Bool)=>Value.bool x) (hp qa) q0 qN) (Q:Sl (Pl lj) 9 (hp qa) q1 qt) (a4:sQ (λ(x:lh)=>vA (lp x)) (mg 69 lj 9) (hp qa) q2 qO) (a0:sQ Value.string (mg 69 lj 9) (hp qa) q3 qM) (a3:Sl (Pl ot) 3 (hp qa) q4 qP) (Y:At (hp qa) (vP qh) [q0,q1,q2,q3,q4,vI qb]) (hm:vX qN qt qO qM qP qb qK=some r) :
  na false pg0 225 [vP qh,vA (lp qK)] qa 9 Jn 1 r:=by
 refine vr 15 func225 Z (λa=>sg (VE (mA a Z (λW2 W a=>Wa (lS (Wm (V (ox underlying192 Z Z) (ln (oV Z ?_)))))))))
 refine kn (lH ?_)
 have a:=a.drew
 have d:=a.has.ll (Kb Sn)
 refine mF d lV (X 0 Z d (lz Z) (X 1 Z d (lX Z) (XQ 2 Z d (pM [q0] CO Z Y Z) λb9 s=>XH 3 Z d (λ_ g=>lq Z (om g (y:=q0) s iO)) (XH 4 Z d (λ_ g=>lq Z (lC g Mh (lp qK) Z bJ aM)) ?_))))
 obtain ⟨a9,b4,K,M⟩:=J
 refine XH 5 Z d (λ_ g=>ur (k:=qK) (z:= .map none) DY fp gf Z Z K λb o h=>g.1 b o (M b o h)) (bS hm λc0 t hm=>?_)
 refine XE 6 Z (Gi a (aT _) call244 (λ_ _ _ _=>nt.mN (Bq ((oS.JE mw.1 K qK M).mono a.ns) t)) (λb5 c2 c3 b3 a I j i a5=>?_) (L0:=[]))
 obtain ⟨b7,N,rfl⟩:=a5
 replace N:=N.symm; subst N
 have a:=a.perm (Tb Tn)
 have d:=a.has.nx I (Db (Kb Sn))
 refine ⟨d,bS hm λc1 u hm=>XE 7 Z (oG a call243 (OC (vf:=λ(x:Bool)=>Value.bool x) (a.has.2 _ _ Mh) ((oS.JE mw.1 K qK M).mono λb o h=>a.has.1 b o (I b o h)) u) λb6 P c4 O a a2 q U=>?_)⟩
 have d:=a.has.nx (I.trans a2) (Dr (Db (Kb Sn)))
 refine ⟨d,X 8 Z d (nB Z) (mG kr (lE ?_))⟩
 have a:=a.ll (Kr (Db (Db St)))
 refine lO ?_
 cases sj hm
 exact ma (v:=P) Z Z ⟨_,O,Z,a.nT (λp h=>Ml h) U.nd,U⟩
theorem J6 {r:((List (lh×(List (ByteArray×Bool))))×(List mT)×Int)} (h0:oa qe ((qh,Ob #[q0,q1,q2,q3,q4,vI qb] 230)::(qo++(qp++(qq++(qr++(qs++[])))))) qa) (a5:ol (λ(x:lh)=>vA (lp x)) (ng Value.string λ(x:Bool)=>Value.bool x) q0 qN qo) (Q:mg 69 lj 9 q1 qt qp) (a4:ol (λ(x:lh)=>vA (lp x)) (mg 69 lj 9) q2 qO qq) (T:ol Value.string (mg 69 lj 9) q3 qM qr) (a3:uW 296 ot 3 q4 qP qs) (hm:zn qN qt qO qM qP qb qK qL=some r) :
  nt false pg0 245 [vP qh,vA (lp qK),vA (lp qL)] qa ((qh,Ob #[q0,q1,q2,q3,q4,vI qb] 230)::(qo++(qp++(qq++(qr++(qs++[])))))) (λv L1 W'=>∃S1 y3 S4,v=vT []∧L1=((qh,Ob #[q0,q1,q2,q3,y3,vI r.2.2] 230)::(S1++(qp++(qq++(qr++(S4++[]))))))∧ol (λ(x:lh)=>vA (lp x)) (ng Value.string λ(x:Bool)=>Value.bool x) q0 r.1 S1∧uW 296 ot 3 y3 r.2.1 S4):=by
 refine B6 h0 21 func245 Z (λa=>sg (VE (mA a Z (λW2 b1 a=>VE (mA a Z (λW4 P a=>lr (Wm (VA a (Mt Mh) (lp qK) bJ aM (bS hm λr5 e2 hm=>VE (oG a call225 (D3 (a5.at (λb o d=>a.at_ (Mt (Mt (Mt (Ml d)))))) (Q.sl mY λb o d=>a.at_ (Mt (Mt (Mt (Ma (Ml d)))))) (a4.at (λb o d=>a.at_ (Mt (Mt (Mt (Ma (Ma (Ml d)))))))) (T.at (λb o d=>a.at_ (Mt (Mt (Mt (Ma (Ma (Ma (Ml d))))))))) ((a3.G6 AJ).mono (Pl.mono _) (oz λb o d=>a.at_ (Mt (Mt (Mt (Ma (Ma (Ma (Ma (Ml d)))))))))) (At.of (a.at_ (Mt (Mt Mh))) _ Z) e2) λW7 e3 g d8 a f1 a1 a9=>V (sf kq Z a9) (Wm ?_)))))))))))
 refine ln ?_
 have a:=a.ll (Kr (Kb (Db St)))
 refine xl (nM 12 11 (λi js E W=>∃h U a0 j Y k q u,lM g q∧ST false (keys ((qh,Ob #[q0,q1,q2,q3,q4,vI qb] 230)::(qo++(qp++(qq++(qr++(qs++[]))))))) qa W q ((qh,Ob #[q0,q1,q2,q3,a0,vI k] 230)::((P,Ol (lp qL) 33)::(U++(qp++(qq++(qr++(Y++(d8++u))))))))∧E 0=vP qh∧E 5=vP P∧E 10=e3∧ol (λ(x:lh)=>vA (lp x)) (ng Value.string λ(x:Bool)=>Value.bool x) q0 h U∧uW 296 ot 3 a0 j Y∧vm qt qO qM qL js h j k=some r) a9.len ⟨qN,qo,q4,qP,qs,qb,g,_,lM.refl _,a.ll (Sb (Pr (Pb Pz)) (Sb (Pr Pz) (Sr (Qr Qz) (Sr (Qr Qz) (Sr (Qr Qz) (Sr (Qr Qz) (Sr (Qr Qz) St))))))),Z,Z,Z,a5,a3,hm⟩ ?_ ?_)
 ·rintro d5 c4 e6 E W c5 ⟨⟨J,eN⟩,h,U,a0,j,Y,k,q,u,b6,a,z,c1,c2,s,t,K⟩
  refine sg (VQ (pC (i:=(d5:Int)) (x0:=c4) kq fK c2 J a9 (aF _) c5) λf2 c9=>V (lq Z (MF a.has (λp d=>Mt (Mt (Ma (Ma (Ma (Ma (Ma (Ml d)))))))) a9 (λ_=>rfl) c9 c5 (y:=vS c4) Z cA)) (Wa (ln (lI (Wh z (V (lq c1 (lC a.has (Mt Mh) (lp qL) Z bJ aM)) (Wm (bS K λI d0 K=>?_))))))))
  refine VE (eM a (Cb Pz (Cr (Qb Qz) (Cr (Qb Qz) (Cr (Qb Qz) (Cr (Qb Qz) (Cr (Qb Qz) Cn)))))) call224 (λhh _=>nt.mN (wD hh s Q a4 T t d0)) ?_)
  rintro _ f3 d7 e8 a c7 M O ⟨d3,d6,d4,b4,rfl,d1,d2⟩
  cases b4
  have a:=a.perm (Tb (Tr (Tr (Tr (Tr (Tr Tn))))))
  exact mh (mx (lE ⟨J,eN,I.1,d3,d6,I.2.1,d4,I.2.2,d7,_,b6.trans c7,a.ll (Kb (Sb (Pr (Pr (Pr (Pr (Pr Pz))))) St)),z,c1,c2,d1,d2,K⟩))
 rintro E W ⟨⟨J,eN⟩,h,U,a0,j,Y,k,q,u,b6,a,z,c1,c2,s,t,K⟩
 refine lE ?_
 have a:=a.ll (Kb (Db (Kr (Kr (Kr (Kr (Kr (Dr St))))))))
 refine rI ?_
 cases sj K
 exact pF Z ⟨_,_,Z,a.mB (Kb (Kr (Kr (Kr (Kr (Kr Sn)))))),U,a0,Y,Z,Z,s,t⟩
theorem EX {a2:mT} {r:((List (lh×(List (ByteArray×Bool))))×(List mT)×Int)} (h0:oa qe ((qh,Ob #[q0,q1,q2,q3,q4,vI qb] 230)::(qo++(qp++(qq++(qr++(qs++[])))))) qa) (U:ol (λ(x:lh)=>vA (lp x)) (ng Value.string λ(x:Bool)=>Value.bool x) q0 qN qo) (T:mg 69 lj 9 q1 qt qp) (a3:ol (λ(x:lh)=>vA (lp x)) (mg 69 lj 9) q2 qO qq) (Y:ol Value.string (mg 69 lj 9) q3 qM qr) (H:uW 296 ot 3 q4 qP qs) (hm:xf qN qt qO qM qP qb qC a2=some r) :
  nt false pg0 226 [vP qh,vA (lj qC),vA (ot a2)] qa ((qh,Ob #[q0,q1,q2,q3,q4,vI qb] 230)::(qo++(qp++(qq++(qr++(qs++[])))))) (λv L1 W'=>∃S1 y3 S4,v=vT []∧L1=((qh,Ob #[q0,q1,q2,q3,y3,vI r.2.2] 230)::(S1++(qp++(qq++(qr++(S4++[]))))))∧ol (λ(x:lh)=>vA (lp x)) (ng Value.string λ(x:Bool)=>Value.bool x) q0 r.1 S1∧uW 296 ot 3 y3 r.2.1 S4):=by
 let s:=(#[q0,q1,q2,q3,q4,vI qb]:Array Value)
 refine B6 h0 57 func226 Z (λa=>sg (VE (mA a Z (λW2 t a=>VE (mA a Z (λW4 I a=>lr (Wf AD (VB a (Mt Mh) Z Z bK (ln (nO (lH ?_)))))))))))
 refine lI (Wi Z (Wa (ln (CI hm Z (λe5 hm=>?_) λe5 hm=>?_))))
 ·refine lI (Wm (Wf yv (VA a (Mt Mh) (lp qC.Head) bJ aM (Wf GL (VB a Mh Z Z cA (bS hm λr6 e6 hm=>?_))))))
  refine VE (eM a (Cb (Pb (Pb Pz)) (Cr (Qb (Qb Qz)) (Cr (Qb (Qb Qz)) (Cr (Qb (Qb Qz)) (Cr (Qb (Qb Qz)) (Cr (Qb (Qb Qz)) Cn)))))) call224 (λq _=>nt.mN (wD q U T a3 Y H e6)) ?_)
  rintro _ g7 a6 f8 a f2 O h ⟨d2,e7,d3,a8,rfl,c5,c6⟩
  cases a8
  have a:=a.perm (Tb (Tr (Tr (Tr (Tr (Tr Tn))))))
  refine mh (mx (rI ?_))
  cases sj hm
  exact pF Z ⟨_,_,Z,a.mB (Kb (Kr (Kr (Kr (Kr (Kr Sn)))))),d2,e7,d3,Z,Z,c5,c6⟩
 refine sg (Wi Z (Wa (ln (CI hm Z (λc0 hm=>?_) λc0 hm=>?_))))
 ·refine lI (Wm (Wf GL (VB a Mh Z Z cA (Wf Du (VB a (Mt Mh) Z Z cA (V (mW (v:=vA (lp (⟨a2.nj,qC.mV⟩:lh))) (pZ Z Z) (mz dE dC (Vt _ dC) kr)) (Wf yv (VA a (Mt Mh) (lp qC.Head) bJ aM (bS hm λg3 c3 hm=>?_)))))))))
  refine VE (eM a (Cb (Pb (Pb Pz)) (Cr (Qb (Qb Qz)) (Cr (Qb (Qb Qz)) (Cr (Qb (Qb Qz)) (Cr (Qb (Qb Qz)) (Cr (Qb (Qb Qz)) Cn)))))) call245 (λq _=>J6 q U T a3 Y H c3) ?_)
  rintro _ g8 h2 f9 a f3 P h ⟨d4,e9,d5,a9,rfl,c7,c8⟩
  cases a9
  have a:=a.perm (Tb (Tr (Tr (Tr (Tr (Tr Tn))))))
  refine mh (mx (rI ?_))
  cases sj hm
  exact pF Z ⟨_,_,Z,a.mB (Kb (Kr (Kr (Kr (Kr (Kr Sn)))))),d4,e9,d5,Z,Z,c7,c8⟩
 refine sg (Wi Z (Wa (ln (CI hm Z (λc1 hm=>?_) λc1 hm=>?_))))
 ·refine lH ?_
  have a:=a.drew
  have d:=a.has.ll (Kb (Kb (Kb (Kr Sn))))
  refine mF d lV (X 0 Z d (lz Z) (X 1 Z d (lX Z) (X 2 Z d (ly CO Z) (XH 3 Z d (λ_ g=>lq Z (lA g (Mt (Mt Mh)) Z iO)) (X 4 Z d (ly ub Z) (XH 5 Z d (λ_ g=>lq Z (lC g (Mt Mh) (lp qC.B) Z bJ aM)) ?_))))))
  obtain ⟨f7,a5⟩:=U
  refine XH 6 Z d (λ_ g=>ur (k:=qC.B) (z:= .map none) DY fp gf Z Z a5 λb o i=>g.2 b o (Mt (Mt (Mt (Ml i))))) (X 7 Z d (ly GL Z) (XH 8 Z d (λ_ g=>lq Z (lA g Mh Z cA)) (XH 9 Z d (λ_ g=>zG (k:=a2.nj) (z:=false) (vf:=λ(x:Bool)=>Value.bool x) HQ fq gC Z Z (oS.JE (μ:=hp _) mw.1 a5 qC.B λb o i=>g.2 b o (Mt (Mt (Mt (Ml i)))))) (X 10 Z d (lz Z) (PJ hm (λM E W=>∃J,ST false (keys ((qh,oC s 230)::(qo++(qp++(qq++(qr++(qs++[]))))))) qa W qe ((I,Ol (ot a2) 296)::((t,Ol (lj qC) 69)::((qh,oC s 230)::(qo++(qp++(qq++(qr++(qs++J))))))))∧E 0=vP qh∧E 4=vP t∧E 5=vP I∧E 50=vB M) (bm 22 4194303) 0 ?_ λM j y=>?_)))))
  ·rintro h1 E W ⟨J,a,e1,e2,e3,e4⟩ a4
   refine mG kr (lE (CI a4 e4 (λc2 a4=>?_) λc2 a4=>?_))
   ·refine lI (Wh e1 (V (ly yv e2) (VA a (Mt Mh) (lp qC.Head) bJ aM (V (ly GL e3) (VB a Mh Z Z cA (bS a4 λg4 c4 a4=>?_))))))
    refine VE (eM a (Cb (Pb (Pb Pz)) (Cr (Qb (Qb Qz)) (Cr (Qb (Qb Qz)) (Cr (Qb (Qb Qz)) (Cr (Qb (Qb Qz)) (Cr (Qb (Qb Qz)) Cn)))))) call224 (λq _=>nt.mN (wD q a5.e T a3 Y H c4)) ?_)
    rintro _ g9 h3 g0 a f4 Q h ⟨d7,f0,d8,b0,rfl,c9,d0⟩
    cases b0
    have a:=a.perm (Tb (Tr (Tr (Tr (Tr (Tr Tn))))))
    refine mh (mx (rI ?_))
    cases sj a4
    exact pF Z ⟨_,_,Z,a.mB (Kb (Kr (Kr (Kr (Kr (Kr Sn)))))),d7,f0,d8,Z,Z,c9,d0⟩
   refine mU (mx (rI ?_))
   cases sj a4
   exact pF Z ⟨_,_,Z,a.mB (Db (Db (Kb (Kr (Kr (Kr (Kr (Kr Sn)))))))),qo,q4,qs,Z,Z,a5.e,H⟩
  refine bC j (λu j=>?_) (λu j=>?_)
  ·refine Xg 11 Z Z (cB u) d (lz Z) (Xg 12 Z Z (cB u) d (lX Z) (Xg 13 Z Z (cB u) d (ly CO Z) (uV 14 Z Z (cB u) d (λ_ g=>lq Z (lA g (Mt (Mt Mh)) Z iO)) (Xg 15 Z Z (cB u) d (ly Dl Z) (uV 16 Z Z (cB u) d (λ_ g=>lq Z (lC g (Mt Mh) (lp qC.C) Z bJ aM)) (uV 17 Z Z (cB u) d (λ_ g=>ur (k:=qC.C) (z:= .map none) DY fp gf Z Z a5 λb o i=>g.2 b o (Mt (Mt (Mt (Ml i))))) (Xg 18 Z Z (cB u) d (ly GL Z) (uV 19 Z Z (cB u) d (λ_ g=>lq Z (lA g Mh Z cA)) (uV 20 Z Z (cB u) d (λ_ g=>zG (k:=a2.nj) (z:=false) (vf:=λ(x:Bool)=>Value.bool x) HQ fq gC Z Z (oS.JE (μ:=hp _) mw.1 a5 qC.C λb o i=>g.2 b o (Mt (Mt (Mt (Ml i)))))) (X 21 Z d (lQ (cB u) Z) ?_))))))))))
   cases sj j
   refine ov kr (y _ _ ⟨_,a.ll,Z,Z,Z,Z⟩)
  refine Xn 11 Z Z (cB u) d (Xn 12 Z Z (cB u) d (Xn 13 Z Z (cB u) d (Xn 14 Z Z (cB u) d (Xn 15 Z Z (cB u) d (Xn 16 Z Z (cB u) d (Xn 17 Z Z (cB u) d (Xn 18 Z Z (cB u) d (Xn 19 Z Z (cB u) d (Xn 20 Z Z (cB u) d (X 21 Z d (lN (cB u) Z) ?_))))))))))
  cases sj j
  refine ov kr (y _ _ ⟨_,a.ll,Z,Z,Z,Z⟩)
 refine mU (mx (rI ?_))
 cases sj hm
 exact pF Z ⟨_,_,Z,a.mB (Db (Db (Kb (Kr (Kr (Kr (Kr (Kr Sn)))))))),qo,q4,qs,Z,Z,U,H⟩
theorem IY {r:((List (lh×(List (ByteArray×Bool))))×(List mT)×Int)} (h0:oa qe ((qh,Ob #[q0,q1,q2,q3,q4,vI qb] 230)::(qo++(qp++(qq++(qr++(qs++[])))))) qa) (a2:ol (λ(x:lh)=>vA (lp x)) (ng Value.string λ(x:Bool)=>Value.bool x) q0 qN qo) (M:mg 69 lj 9 q1 qt qp) (Y:ol (λ(x:lh)=>vA (lp x)) (mg 69 lj 9) q2 qO qq) (N:ol Value.string (mg 69 lj 9) q3 qM qr) (U:uW 296 ot 3 q4 qP qs) (hm:ya qN qt qO qM qP qb qC=some r) :
  nt false pg0 191 [vP qh,vA (lj qC)] qa ((qh,Ob #[q0,q1,q2,q3,q4,vI qb] 230)::(qo++(qp++(qq++(qr++(qs++[])))))) (λv L1 W'=>∃S1 y3 S4,v=vT []∧L1=((qh,Ob #[q0,q1,q2,q3,y3,vI r.2.2] 230)::(S1++(qp++(qq++(qr++(S4++[]))))))∧ol (λ(x:lh)=>vA (lp x)) (ng Value.string λ(x:Bool)=>Value.bool x) q0 r.1 S1∧uW 296 ot 3 y3 r.2.1 S4):=by
 refine B6 h0 33 func191 Z (λa=>sg (VE (mA a Z (λW2 b1 a=>lr (Wf AD (VB a Mh Z Z bK (ln (bg ?_))))))))
 refine Wi Z (Wa (ln (CI hm Z (λe7 hm=>?_) λe7 hm=>?_)))
 ·refine lI (Wm (Wf yv (VA a Mh (lp qC.Head) bJ aM (Wf G2 (VB a Mh Z Z cA (bS hm λr4 e8 hm=>?_))))))
  refine VE (eM a (Cb (Pb Pz) (Cr (Qb Qz) (Cr (Qb Qz) (Cr (Qb Qz) (Cr (Qb Qz) (Cr (Qb Qz) Cn)))))) call224 (λhh _=>nt.mN (wD hh a2 M Y N U e8)) ?_)
  rintro _ g7 ad g2 a f8 ab g ⟨e3,f0,e4,c2,rfl,d6,d7⟩
  cases c2
  have a:=a.perm (Tb (Tr (Tr (Tr (Tr (Tr Tn))))))
  refine mh (mx (rI ?_))
  cases sj hm
  exact pF Z ⟨_,_,Z,a.mB (Kb (Kr (Kr (Kr (Kr (Kr Sn)))))),e3,f0,e4,Z,Z,d6,d7⟩
 refine sg (Wm (Wf ub (VA a Mh (lp qC.B) bJ aM (bS hm λg4 d5 hm=>VE (oG a call225 (D3 (a2.at (λb o d=>a.at_ (Mt (Mt (Ml d))))) (M.sl mY λb o d=>a.at_ (Mt (Mt (Ma (Ml d))))) (Y.at (λb o d=>a.at_ (Mt (Mt (Ma (Ma (Ml d))))))) (N.at (λb o d=>a.at_ (Mt (Mt (Ma (Ma (Ma (Ml d)))))))) ((U.G6 AJ).mono (Pl.mono _) (oz λb o d=>a.at_ (Mt (Mt (Ma (Ma (Ma (Ma (Ml d))))))))) (At.of (a.at_ (Mt Mh)) _ Z) d5) λg3 e9 d1 e1 a f2 aa q=>V (sf kq Z q) (Wm (ln (xl (nM 13 12 (λi js E W=>∃h a3 a5 j a4 a9 s I,lM d1 s∧ST false (keys ((qh,Ob #[q0,q1,q2,q3,q4,vI qb] 230)::(qo++(qp++(qq++(qr++(qs++[]))))))) qa W s ((qh,Ob #[q0,q1,q2,q3,a5,vI a9] 230)::((b1,Ol (lj qC) 69)::(a3++(qp++(qq++(qr++(a4++(e1++I))))))))∧E 0=vP qh∧E 3=vP b1∧E 11=e9∧ol (λ(x:lh)=>vA (lp x)) (ng Value.string λ(x:Bool)=>Value.bool x) q0 h a3∧uW 296 ot 3 a5 j a4∧uu qt qO qM qC js h j a9=some r) q.len ⟨qN,qo,q4,qP,qs,qb,d1,_,lM.refl _,a.ll (Sb (Pr (Pb Pz)) (Sb (Pr Pz) (Sr (Qr Qz) (Sr (Qr Qz) (Sr (Qr Qz) (Sr (Qr Qz) (Sr (Qr Qz) St))))))),Z,Z,Z,a2,U,hm⟩ ?_ ?_)))))))))
 ·rintro d8 t f3 E W c4 ⟨⟨P,eN⟩,h,a3,a5,j,a4,a9,s,I,b7,a,J,k,c1,u,z,Q⟩
  refine sg (VQ (pC (i:=(d8:Int)) (x0:=t) kq fK c1 P q (aF _) c4) λf9 c7=>V (lq Z (MF a.has (λp d=>Mt (Mt (Ma (Ma (Ma (Ma (Ma (Ml d)))))))) q (λ_=>rfl) c7 c4 (y:=vS t) Z cA)) (Wa (ln (lI (Wh J (V (lq k (lC a.has (Mt Mh) (lj qC) Z bF aI)) (V (ly ub k) (VA a (Mt Mh) (lp qC.B) bJ aM (Wm (V (mW (v:=vA (ot (⟨qC.B,t⟩:mT))) (pZ Z Z) (mz kN gl (Zb _ gl) kr)) (bS Q λO c8 Q=>?_)))))))))))
  refine VE (eM a (Cb Pz (Cr (Qb Qz) (Cr (Qb Qz) (Cr (Qb Qz) (Cr (Qb Qz) (Cr (Qb Qz) Cn)))))) call226 (λhh _=>EX hh u M Y N z c8) ?_)
  rintro _ g0 e0 f5 a c5 a1 g ⟨d2,d9,d3,b5,rfl,c9,d0⟩
  cases b5
  have a:=a.perm (Tb (Tr (Tr (Tr (Tr (Tr Tn))))))
  exact mh (mx (lE ⟨P,eN,O.1,d2,d9,O.2.1,d3,O.2.2,e0,_,b7.trans c5,a.ll (Kb (Sb (Pr (Pr (Pr (Pr (Pr Pz))))) St)),J,k,c1,c9,d0,Q⟩))
 rintro E W ⟨⟨P,eN⟩,h,a3,a5,j,a4,a9,s,I,b7,a,J,k,c1,u,z,Q⟩
 refine lE ?_
 have a:=a.ll (Kb (Db (Kr (Kr (Kr (Kr (Kr (Dr St))))))))
 refine mx (rI ?_)
 cases sj Q
 exact pF Z ⟨_,_,Z,a.mB (Kb (Kr (Kr (Kr (Kr (Kr Sn)))))),a3,a5,a4,Z,Z,u,z⟩
theorem Ij {r:((List (lh×(List (ByteArray×Bool))))×(List mT)×Int)} (h0:oa qe ((qh,Ob #[q0,q1,q2,q3,q4,vI qb] 230)::(qo++(qp++(qq++(qr++(qs++[])))))) qa) (h3:ol (λ(x:lh)=>vA (lp x)) (ng Value.string λ(x:Bool)=>Value.bool x) q0 qN qo) (c1:mg 69 lj 9 q1 qt qp) (g7:ol (λ(x:lh)=>vA (lp x)) (mg 69 lj 9) q2 qO qq) (c2:ol Value.string (mg 69 lj 9) q3 qM qr) (g4:uW 296 ot 3 q4 qP qs) (hm:Ah qN qt qO qM qP qb=some r) :
  nt false pg0 192 [vP qh] qa ((qh,Ob #[q0,q1,q2,q3,q4,vI qb] 230)::(qo++(qp++(qq++(qr++(qs++[])))))) (λv L1 W'=>∃S1 y3 S4,v=vT []∧L1=((qh,Ob #[q0,q1,q2,q3,y3,vI r.2.2] 230)::(S1++(qp++(qq++(qr++(S4++[]))))))∧ol (λ(x:lh)=>vA (lp x)) (ng Value.string λ(x:Bool)=>Value.bool x) q0 r.1 S1∧uW 296 ot 3 y3 r.2.1 S4):=by
 let g5:Value:=vP qh
 let b8:=(qh,Ob #[q0,q1,q2,q3,q4,vI qb] 230)::(qo++(qp++(qq++(qr++(qs++[])))))
 refine B6 h0 75 func192 Z (λa=>xl (nO (pE (λm E W=>∃e3 b7 e4 P b9 d1 y h4,lM qe y∧ST false (keys b8) qa W y ((qh,Ob #[q0,q1,q2,q3,e4,vI d1] 230)::(b7++(qp++(qq++(qr++(b9++h4))))))∧E 0=g5∧ol (λ(x:lh)=>vA (lp x)) (ng Value.string λ(x:Bool)=>Value.bool x) q0 e3 b7∧uW 296 ot 3 e4 P b9∧pU qt qO qM m e3 P d1=some r) mZ ⟨qN,qo,q4,qP,qs,qb,qe,_,lM.refl _,a.ll,Z,h3,g4,hm⟩ ?_)))
 rintro m E W ⟨e3,b7,e4,P,b9,d1,y,h4,h9,a,t,g9,c5,J⟩
 cases m with
 | zero=>rw [pU] at J; cases J
 | succ m4=>
  refine lH (sg (Wh t (Wn (Wf GI (VB a Mh Z Z isAgg228 (V (YY iH Z c5) (Wi Z (ln (CI J Z (λi6 J=>?_) λi6 J=>?_)))))))))
  ·refine kn (bg (Wh t (Wn (Wf GI (VB a Mh Z Z isAgg228 (bS J λB h2 J=>VQ (rp (enc:=ot) (i:=0) (x0:=B) iH kA Z Z (c5.G6 AJ) (mK h2) (mE h2)) λp4 j4=>V (lq Z (mu (oR.hp _) (j4.mono (oz λb o h=>a.has.2 b o (Mt (Ma (Ma (Ma (Ma (Ml h)))))))) isAgg296 kA)) (VE (lY a kN λo3 a5 a=>VO (FA (h1:=Tx B) ((ot B).toArray) a kA λo4 a=>mh ?_)))))))))
   let i5:Value:=vP a5
   let i4:=((ot B).toArray:Array Value)
   refine lE (sg (Wh t (Wh t (Wn (Wf GI (VB a (Mt Mh) Z Z isAgg228 (bS J λ_ g8 J=>VQ (US (i:=1) iH kA Z Z AJ c5 (uh g8) (tY g8)) λp7 h1=>Wn (Wf GI ?_))))))))
   obtain ⟨f7,g0,rfl⟩:=h1.form
   let g6:Value:= .slice f7 (P.drop (Int.toNat 1)).length g0
   have a:=a.perm (Nb (Pb Pz) Nz)
   refine VO (lZ g6 (#[q0,q1,q2,q3,g6,vI d1]) a Z Z sizeOf228 oc nb Z (λo5 a=>ln (lH (lH ?_))))
   have a:=a.drew
   have d:=a.has.ll (Kb (Kb (Dr (Dr (Kr Sn)))))
   refine mF d lV (X 0 Z d (lz t) (X 1 Z d (lX Z) (X 2 Z d (ly Ux Z) (XH 3 Z d (λ_ g=>lq Z (lA g Mh Z isAgg226)) (X 4 Z d (ly OU Z) (XH 5 Z d (λ_ g=>lq Z (lC g (Mt Mh) (lp B.lh) Z bJ aM)) ?_))))))
   obtain ⟨l1,c3⟩:=g7
   obtain ⟨o1,f0,j9⟩:=oS.rowAt mw.1 c3 B.lh
   refine XH 6 Z d (λ_ g=>ur (k:=B.lh) (z:=vN) DY underlying226 iN Z Z c3 λb o h=>g.2 b o (Mt (Mt (Ml h)))) (X 7 Z d (mP aN Z (f0.G6 mY)) (X 8 Z d (lz Z) (mG kr (lE (CJ J (λd0 E W=>∃d6 e5 d7 I h5,lM y I∧ST false (keys b8) qa W I ((qh,Ob #[q0,q1,q2,q3,e5,vI d0.2.2] 230)::((a5,oC i4 296)::(d6++(qp++(qq++(qr++(d7++h5)))))))∧E 0=g5∧E 2=i5∧ol (λ(x:lh)=>vA (lp x)) (ng Value.string λ(x:Bool)=>Value.bool x) q0 d0.1 d6∧uW 296 ot 3 e5 d0.2.1 d7) (λd0 j3=>?_) ?_)))))
   ·refine nM 35 34 (λi js E W=>∃c7 a3 b1 c8 a4 d2 d3 f9,lM y d3∧ST false (keys b8) qa W d3 ((qh,Ob #[q0,q1,q2,q3,b1,vI d2] 230)::((a5,oC i4 296)::(a3++(qp++(qq++(qr++(a4++f9)))))))∧E 0=g5∧E 2=i5∧E 33=uN mq l1 B.lh vN∧ol (λ(x:lh)=>vA (lp x)) (ng Value.string λ(x:Bool)=>Value.bool x) q0 c7 a3∧uW 296 ot 3 b1 c8 a4∧tZ qt qO qM B js c7 c8 d2=some d0) (f0.G6 mY).len ⟨e3,b7,g6,P.drop (Int.toNat 1),b9,d1,y,_,lM.refl _,a.ll,t,Z,Z,g9,h1,j3⟩ ?_ ?_
    ·rintro l9 b3 n7 E W k6 ⟨⟨j,O⟩,c7,a3,b1,c8,a4,d2,d3,f9,d5,a,e1,e2,g1,f3,f4,U⟩
     refine sg (VQ (rp (enc:=lj) (i:=(l9:Int)) (x0:=b3) aN aI g1 j (f0.G6 mY) (aF _) k6) λp6 j6=>V (lq Z (mu (oR.hp _) (j6.mono (oz λb o h=>a.has.2 b o (Mt (Mt (Ma (Ma (Ml (j9 b o h)))))))) bF aI)) (VE (lY a cI λo9 p3 a=>VO (FA (h1:=pf b3) ((lj b3).toArray) a aI λp0 a=>ln (lI (Wh e1 (VA a Mh (lj b3) bF aI (V (lq e2 (lC a.has (Mt (Mt Mh)) (ot B) Z isAgg296 kA)) (bS U λg3 j8 U=>?_)))))))))
     refine VE (eM a (Cb (Pb Pz) (Cr (Qb (Qb Qz)) (Cr (Qb (Qb Qz)) (Cr (Qb (Qb Qz)) (Cr (Qb (Qb Qz)) (Cr (Qb (Qb Qz)) Cn)))))) call226 (λhh _=>EX hh f3 c1 c3.e c2 f4 j8) ?_)
     rintro _ p9 n0 o0 a i3 ab q ⟨l5,m8,l6,f6,rfl,k9,l0⟩
     cases f6
     have a:=a.perm (Tb (Tr (Tr (Tr (Tr (Tr Tn))))))
     refine mh (mx (lE ?_))
     have a:=a.ll (Kb (Kr (Kr (Kr (Kr (Kr (Db St)))))))
     exact ⟨j,O,g3.1,l5,m8,g3.2.1,l6,g3.2.2,n0,_,d5.trans i3,a.ll (Kb (Sb (Pr (Pr (Pr (Pr (Pr Pz))))) St)),e1,e2,g1,k9,l0,U⟩
    rintro E W ⟨⟨j,O⟩,c7,a3,b1,c8,a4,d2,d3,f9,d5,a,e1,e2,g1,f3,f4,U⟩
    refine lE ?_
    cases sj U
    exact ⟨a3,b1,a4,d3,_,d5,a.ll,e1,e2,f3,f4⟩
   rintro ⟨m0,m1,m5⟩ E W ⟨d6,e5,d7,I,h5,i0,a,h7,h8,k0,k1⟩ i8
   refine lH ?_
   have a:=a.drew
   have d:=a.has.ll (Kb (Kb (Dr (Dr (Dr (Kr Sn))))))
   refine mF d lV (X 0 Z d (lz h7) (X 1 Z d (lX Z) (X 2 Z d (ly OK Z) (XH 3 Z d (λ_ g=>lq Z (lA g Mh Z isAgg227)) (X 4 Z d (ly OU h8) (X 5 Z d (ly Bo Z) (XH 6 Z d (λ_ g=>lq Z (lA g (Mt Mh) Z cA)) ?_)))))))
   obtain ⟨l2,e9⟩:=c2
   obtain ⟨o2,f1,k2⟩:=oS.rowAt oq.1 e9 B.lh.Word
   refine XH 7 Z d (λ_ g=>ur (k:=B.lh.Word) (z:=vN) HQ underlying227 iN Z Z e9 λb o h=>g.2 b o (Mt (Mt (Ml h)))) (X 8 Z d (mP aN Z (f1.G6 mY)) (X 9 Z d (lz Z) (mG kr (lE (xl (CJ i8 (λc9 E W=>∃d8 e6 d9 e7 h6,lM I e7∧ST false (keys b8) qa W e7 ((qh,Ob #[q0,q1,q2,q3,e6,vI c9.2.2] 230)::(d8++(qp++(qq++(qr++(d9++h6))))))∧E 0=g5∧ol (λ(x:lh)=>vA (lp x)) (ng Value.string λ(x:Bool)=>Value.bool x) q0 c9.1 d8∧uW 296 ot 3 e6 c9.2.1 d9) (λc9 j0=>?_) ?_))))))
   ·refine nM 53 52 (λi js E W=>∃a9 Y a2 Q s b2 M f8,lM I M∧ST false (keys b8) qa W M ((qh,Ob #[q0,q1,q2,q3,a2,vI b2] 230)::((a5,oC i4 296)::(Y++(qp++(qq++(qr++(s++f8)))))))∧E 0=g5∧E 2=i5∧E 51=uN ob l2 B.lh.Word vN∧ol (λ(x:lh)=>vA (lp x)) (ng Value.string λ(x:Bool)=>Value.bool x) q0 a9 Y∧uW 296 ot 3 a2 Q s∧sk B qt qO qM js a9 Q b2=some c9) (f1.G6 mY).len ⟨m0,d6,e5,m1,d7,m5,I,_,lM.refl _,a.ll,h7,h8,Z,k0,k1,j0⟩ ?_ ?_
    ·rintro l8 T n6 E W k5 ⟨⟨j,O⟩,a9,Y,a2,Q,s,b2,M,f8,a8,a,u,c0,e0,f2,c6,K⟩
     refine sg (VQ (rp (enc:=lj) (i:=(l8:Int)) (x0:=T) aN aI e0 j (f1.G6 mY) (aF _) k5) λp5 j5=>V (lq Z (mu (oR.hp _) (j5.mono (oz λb o h=>a.has.2 b o (Mt (Mt (Ma (Ma (Ma (Ml (k2 b o h))))))))) bF aI)) (VE (lY a cI λo6 p2 a=>VO (FA (h1:=pf T) ((lj T).toArray) a aI λo7 a=>ln (lH ?_)))))
     have a:=a.drew
     have d:=a.has.ll (Kb (Kb (Kb (Kr Sn))))
     refine mF d lV (X 0 Z d (lz u) (X 1 Z d (lX Z) (X 2 Z d (ly CO Z) (XH 3 Z d (λ_ g=>lq Z (lA g (Mt Mh) Z iO)) (X 4 Z d (ly ub Z) (XH 5 Z d (λ_ g=>lq Z (lC g Mh (lp T.B) Z bJ aM)) ?_))))))
     obtain ⟨n4,c4⟩:=f2
     refine XH 6 Z d (λ_ g=>ur (k:=T.B) (z:= .map none) DY fp gf Z Z c4 λb o h=>g.2 b o (Mt (Mt (Mt (Ml h))))) (X 7 Z d (ly OU c0) (X 8 Z d (ly zP Z) (XH 9 Z d (λ_ g=>lq Z (lA g (Mt (Mt Mh)) Z cA)) (XH 10 Z d (λ_ g=>zG (k:=B.lh.lu) (z:=false) (vf:=λ(x:Bool)=>Value.bool x) HQ fq gC Z Z (oS.JE (μ:=hp _) mw.1 c4 T.B λb o h=>g.2 b o (Mt (Mt (Mt (Ml h)))))) (mG kr (lE (CI K Z (λi7 K=>?_) λi7 K=>?_)))))))
     ·refine lI (Wh u (Wf yv (VA a Mh (lp T.Head) bJ aM (V (ly GL c0) (VB a (Mt (Mt Mh)) Z Z cA (bS K λg2 j7 K=>?_))))))
      refine VE (eM a (Cb (Pb Pz) (Cr (Qb (Qb Qz)) (Cr (Qb (Qb Qz)) (Cr (Qb (Qb Qz)) (Cr (Qb (Qb Qz)) (Cr (Qb (Qb Qz)) Cn)))))) call224 (λhh _=>nt.mN (wD hh c4.e c1 c3.e e9.e c6 j7)) ?_)
      rintro _ p8 m9 n9 a i2 aa q ⟨l3,m7,l4,f5,rfl,k7,k8⟩
      cases f5
      have a:=a.perm (Tb (Tr (Tr (Tr (Tr (Tr Tn))))))
      refine mh (mx (lE ?_))
      have a:=a.ll (Kb (Kr (Kr (Kr (Kr (Kr (Db St)))))))
      exact ⟨j,O,g2.1,l3,m7,g2.2.1,l4,g2.2.2,m9,_,a8.trans i2,a.ll (Kb (Sb (Pr (Pr (Pr (Pr (Pr Pz))))) St)),u,c0,e0,k7,k8,K⟩
     refine mU (mx (lE ?_))
     have a:=a.ll (Db St)
     exact ⟨j,O,a9,Y,a2,Q,s,b2,M,_,a8,a.ll,u,c0,e0,c4.e,c6,K⟩
    rintro E W ⟨⟨j,O⟩,a9,Y,a2,Q,s,b2,M,f8,a8,a,u,c0,e0,f2,c6,K⟩
    refine lE ?_
    cases sj K
    exact ⟨Y,a2,s,M,_,a8,a.ll (Kb (Db St)),u,f2,c6⟩
   rintro ⟨m2,m3,m6⟩ E W ⟨d8,e6,d9,e7,h6,i1,a,l7,k3,k4⟩ i9
   exact mx (lE ⟨m4,bH _,m2,d8,e6,m3,d9,m6,e7,_,(h9.trans i0).trans i1,a.ll,l7,k3,k4,i9⟩)
  refine pg (oL (oL (uO (lE (rI ?_)))))
  cases sj J
  exact pF Z ⟨_,_,Z,a.mB (Kb (Kr (Kr (Kr (Kr (Kr Sn)))))),b7,e4,b9,Z,Z,g9,c5⟩
theorem Kc {r:(Int×(List (lh×(List (ByteArray×Bool))))×(List lg)×(List (lh×(List lg)))×(List (ByteArray×(List lg)))×(List mT)×Int)} (h0:oa qe ((qh,Ob #[q0,q1,q2,q3,q4,vI qb] 230)::(qo++(qp++(qq++(qr++(qs++[])))))) qa) (d6:ol (λ(x:lh)=>vA (lp x)) (ng Value.string λ(x:Bool)=>Value.bool x) q0 qN qo) (c6:mg 69 lj 9 q1 qt qp) (d3:ol (λ(x:lh)=>vA (lp x)) (mg 69 lj 9) q2 qO qq) (c7:ol Value.string (mg 69 lj 9) q3 qM qr) (d2:uW 296 ot 3 q4 qP qs) (d7:Sl (Pl lj) 9 qe q5 qu) (hm:zl qN qt qO qM qP qb qu=some r) :
  nt false pg0 156 [vP qh,q5] qa ((qh,Ob #[q0,q1,q2,q3,q4,vI qb] 230)::(qo++(qp++(qq++(qr++(qs++[])))))) (λv L1 W'=>∃S1 y3 S4 S6 S8 h7 h6,v=vI r.1∧L1=((qh,Ob #[q0,y3,q2,q3,h7,vI r.2.2.2.2.2.2] 230)::(S1++(S4++(S6++(S8++(h6++[]))))))∧ol (λ(x:lh)=>vA (lp x)) (ng Value.string λ(x:Bool)=>Value.bool x) q0 r.2.1 S1∧mg 69 lj 9 y3 r.2.2.1 S4∧ol (λ(x:lh)=>vA (lp x)) (mg 69 lj 9) q2 r.2.2.2.1 S6∧ol Value.string (mg 69 lj 9) q3 r.2.2.2.2.1 S8∧uW 296 ot 3 h7 r.2.2.2.2.2.1 h6):=by
 let b8:=(qh,Ob #[q0,q1,q2,q3,q4,vI qb] 230)::(qo++(qp++(qq++(qr++(qs++[])))))
 refine B6 h0 46 func156 Z (λa=>sg (Wa (lS (Wm (V (ox underlying192 Z Z) (ln (oV Z (mU ?_))))))))
 refine lE (sg (Wm (Wn (Wf Lm (VB a Mh Z Z bK (Wa (lS (Wm (V (mP aN Z d7) ?_)))))))))
 refine Wm (ln (nM 16 15 (λi js E W=>∃a3 N M a4 Q a9 T s U a0 a5 Y a2 c1 d5,lM qe c1∧ST false (keys b8) qa W c1 ((qh,Ob #[q0,M,q2,q3,a0,vI a2] 230)::(N++(Q++(T++(U++(Y++d5))))))∧E 0=vP qh∧E 5=vI qb∧E 14=q5∧ol (λ(x:lh)=>vA (lp x)) (ng Value.string λ(x:Bool)=>Value.bool x) q0 a3 N∧mg 69 lj 9 M a4 Q∧ol (λ(x:lh)=>vA (lp x)) (mg 69 lj 9) q2 a9 T∧ol Value.string (mg 69 lj 9) q3 s U∧uW 296 ot 3 a0 a5 Y∧sd qb js a3 a4 a9 s a5 a2=some r) d7.len ⟨qN,qo,q1,qt,qp,qO,qq,qM,qr,q4,qP,qs,qb,qe,_,lM.refl _,a.ll,Z,Z,Z,d6,c6,d3,c7,d2,hm⟩ ?_ ?_))
 ·rintro f4 H j5 E W g9 ⟨⟨eI,eN⟩,a3,N,M,a4,Q,a9,T,s,U,a0,a5,Y,a2,c1,d5,b1,a,q,c3,c4,t,k,u,y,z,I⟩
  refine sg (VQ (rp (enc:=lj) (i:=(f4:Int)) (x0:=H) aN aI c4 eI mv (aF _) g9) λk8 g1=>V (lq Z (mu a.has g1 bF aI)) (VE (lY a cI λk0 e6 a=>VO (FA (h1:=pf H) ((lj H).toArray) a aI λk1 a=>ln (lH ?_)))))
  have a:=a.drew
  have d:=a.has.ll (Kb (Kb Sn))
  refine mF d lV (XH 0 Z d (λ_ O=>lq Z (lC O Mh (lj H) Z bF aI)) (bS I λk9 g2 I=>XE 1 Z (Eg a call76 (mo.mN (xS H _ _  g2)) λk2 a=>?_)))
  have d:=a.has.ll (Kb (Kb Sn))
  refine ⟨d,X 2 Z d (lz Z) (PJ I (λf5 E W=>∃e2,ST false (keys b8) qa W c1 ((e6,Ol (lj H) 69)::((qh,Ob #[q0,M,q2,q3,a0,vI a2] 230)::(N++(Q++(T++(U++(Y++e2)))))))∧E 0=vP qh∧E 5=vI qb∧E 7=vP e6∧E 14=q5∧E 15=vI (qu.length:Int)∧E 16=vI (f4:Int)∧E 30=vB f5) (bm 11 2047) 0 ?_ λf5 h d4=>?_)⟩
  ·rintro l4 E W ⟨e2,a,c5,e7,e8,e9,f0,f1,i3⟩ J
   refine mG kr (lE (CI J i3 (λg0 J=>?_) λg0 J=>?_))
   ·refine sg (Wh c5 (V (lq e8 (lC a.has Mh (lj H) Z bF aI)) (bS J λc0 g3 J=>?_)))
    refine VE (eM a (Cb (Pb Pz) (Cr (Qb Qz) (Cr (Qb Qz) (Cr (Qb Qz) (Cr (Qb Qz) (Cr (Qb Qz) Cn)))))) call190 (λP _=>nt.mN (JN P t k u y z g3)) ?_)
    rintro _ l1 l5 j7 a f2 a1 g ⟨f6,e3,e4,e5,c8,rfl,d9,e0,e1⟩
    cases c8
    have a:=a.perm (Tb (Tr (Tr (Tr (Tr (Tr Tn))))))
    refine ln (lI (Wh c5 (V (lq e8 (lC a.has (Mt (Ma (Ma (Ma (Ma (Ma Mh)))))) (lj H) Z bF aI)) (bS J λd8 g4 J=>?_))))
    refine VE (eM a (Cb Pz (Cr Qz (Cr Qz (Cr Qz (Cr Qz (Cr Qz Cn)))))) call191 (λP _=>IY P t d9 e0 e1 z g4) ?_)
    rintro _ l2 i7 j8 a f3 a7 g ⟨h8,i5,h9,c9,rfl,h1,h2⟩
    cases c9
    have a:=a.perm (Tb (Tr (Tr (Tr (Tr (Tr Tn))))))
    refine mh (mx (lE ?_))
    have a:=a.ll (Kb (Kr (Kr (Kr (Kr (Kr (Db St)))))))
    exact ⟨f1,f0,d8.1,h8,f6,c0.1,e3,c0.2.1,e4,c0.2.2,e5,i5,d8.2.1,h9,d8.2.2,i7,_,(b1.trans f2).trans f3,a.ll,c5,e7,e9,h1,d9,e0,e1,h2,J⟩
   refine mU (mx (lE ?_))
   have a:=a.ll (Db St)
   exact ⟨f1,f0,a3,N,M,a4,Q,a9,T,s,U,a0,a5,Y,a2,c1,_,b1,a.ll,c5,e7,e9,t,k,u,y,z,J⟩
  refine bC h (λj h=>?_) (λj h=>?_)
  ·refine Xg 3 Z Z (cB j) d (lz q) (Xg 4 Z Z (cB j) d (lX Z) (Xg 5 Z Z (cB j) d (ly OV Z) (uV 6 Z Z (cB j) d (λ_ O=>lq Z (lA O (Mt Mh) Z dQ)) (uV 7 Z Z (cB j) d (λ_ O=>lq Z (lC O Mh (lj H) Z bF aI)) (bS h λl0 g7 h=>CZ 8 Z Z (cB j) (Eg a call114 (mo.mN (CE (k.sl mY λb o hq=>a.at_ (Mt (Mt (Ma (Ml hq))))) g7)) λk5 a=>?_))))))
   have d:=a.has.ll (Kb (Kb Sn))
   refine ⟨d,Xg 9 Z Z (cB j) d (nK Z) (X 10 Z d (lQ (cB j) Z) ?_)⟩
   cases sj h
   refine ov kr (d4 _ _ ⟨_,a.ll,q,c3,Z,c4,eN,eI,Z⟩)
  refine Xn 3 Z Z (cB j) d (Xn 4 Z Z (cB j) d (Xn 5 Z Z (cB j) d (Xn 6 Z Z (cB j) d (Xn 7 Z Z (cB j) d (Xn 8 Z Z (cB j) d (Xn 9 Z Z (cB j) d (X 10 Z d (lN (cB j) Z) ?_)))))))
  cases sj h
  refine ov kr (d4 _ _ ⟨_,a.ll,q,c3,Z,c4,eN,eI,Z⟩)
 rintro E W ⟨⟨eI,eN⟩,a3,N,M,a4,Q,a9,T,s,U,a0,a5,Y,a2,c1,d5,b1,a,q,c3,c4,t,k,u,y,z,I⟩
 refine lE (sg (Wh q (bS I λi4 g8 I=>?_)))
 refine VE (eM a (Cb Pz (Cr Qz (Cr Qz (Cr Qz (Cr Qz (Cr Qz Cn)))))) call192 (λP _=>Ij P t k u y z g8) ?_)
 rintro _ l3 l6 j9 a j3 a8 g ⟨i0,i6,i1,d0,rfl,h3,h4⟩
 cases d0
 have a:=a.perm (Tb (Tr (Tr (Tr (Tr (Tr Tn))))))
 refine lr (Wh q (Wn (Wf Lm (VB a Mh Z Z bK (Wh c3 (Wi Z (Wa (lt ?_))))))))
 cases sj I
 exact ma (v:=vI (wi0 .i64 (i4.2.2-qb))) Z Z ⟨_,_,Z,a.mB (Kb (Kr (Kr (Kr (Kr (Kr Sn)))))),i0,M,Q,T,U,i6,i1,Z,Z,h3,k,u,y,h4⟩
theorem JL {r:((List (lh×(List (ByteArray×Bool))))×(List lg)×(List (lh×(List lg)))×(List (ByteArray×(List lg)))×(List mT)×Int)} (J:Sl (Pl lj) 9 (hp qa) q0 qt) (hm:zJ qt=some r) :
  nt false pg0 118 [q0] qa [] (λv L1 W'=>∃q I S3 O S6 W S9 D u G y,v=vP q∧L1=((q,Ob #[I,O,W,D,G,vI r.2.2.2.2.2] 230)::(S3++(S6++(S9++(u++(y++[]))))))∧ol (λ(x:lh)=>vA (lp x)) (ng Value.string λ(x:Bool)=>Value.bool x) I r.1 S3∧mg 69 lj 9 O r.2.1 S6∧ol (λ(x:lh)=>vA (lp x)) (mg 69 lj 9) W r.2.2.1 S9∧ol Value.string (mg 69 lj 9) D r.2.2.2.1 u∧uW 296 ot 3 G r.2.2.2.2.1 y):=by
 refine vr 13 func118 Z (λd=>sg (Wa (lr (VE (Gq (P:=pg0) (λ(x:lh)=>vA (lp x)) (ng Value.string λ(x:Bool)=>Value.bool x) d λW1 v4 R2 d z=>VE (Gq (P:=pg0) (λ(x:lh)=>vA (lp x)) (mg 69 lj 9) d λW5 v8 R6 d B=>VE (Gq (P:=pg0) Value.string (mg 69 lj 9) d λW9 c4 Y d t=>?_)))))))
 have h:=d
 obtain ⟨a,rfl⟩:=z.form
 have d:=h
 have h:=d
 obtain ⟨c,rfl⟩:=B.form
 have d:=h
 have h:=d
 obtain ⟨g,rfl⟩:=t.form
 have d:=h
 refine V (mW (v:=vA [.map (some a),vN,.map (some c),.map (some g),vN,vI 0]) (I5 Z Z Z) (mz zeroValue230 fh (ace _ fh) kr)) (VE (mA d Z (λc1 k d=>Wa (lr (Wm (Wm (bS hm λc3 K hm=>?_)))))))
 refine VE (eM d (Cb Pz (Cr (Qr (Qr Qz)) (C0 (Cr (Qr Qz) (Cr Qz (C0 Cn)))))) call156 (λhh a1=>Kc hh z (mg.nil _ _ _) B t (uW.nil _ _ _) mv K) ?_)
 rintro _ c5 c6 c0 d b5 s j ⟨Zq,b0,a2,a3,a4,b2,a5,i,rfl,M,N,Q,T,U⟩
 cases i
 have d:=d.perm (Tb (Tr (Tr (Tr (Tr (Tr Tn))))))
 refine lr (Wm (Wa (lt ?_)))
 cases sj hm
 exact ma (v:=vP k) Z Z ⟨_,_,Z,d.WU (Kb (Kr (Kr (Kr (Kr (Kr Sn)))))),k,.map (some a),Zq,b0,a2,.map (some c),a3,.map (some g),a4,b2,a5,Z,Z,M,N,Q,T,U⟩
theorem Bm {y:np→Option Bool} (c:Sl lU 15 (hp qa) q0 qV) (z:AQ pg0 q1 (hp qa) (Fh lU) (λ(qb:Bool)=>vB qb) y) (hm:tK qV y=some qb) :
  mo false pg0 181 [q0,q1] qa (vI qb):=by
 refine cG 19 func181 Z (λd=>sg (Wa (lS (Wm (V (mP dL Z c) (Wm (ln (nM 8 7 (λi j E W=>∃k,ST false nf qa W (hp qa) k∧E 0=q0∧E 1=q1∧pR y j i=some qb) c.len ⟨_,d.ll,Z,Z,hm⟩ ?_ ?_))))))))
 ·rintro M x T E W J ⟨⟨g,h⟩,k,d,t,u,a⟩
  refine sg (Wh g (Wa (lr (Wh u (Wh t (Wm (VQ (nI (i:=(M:Int)) (x0:=x) lU.out dL dO Z Z c (aF _) J) λY ⟨_,⟨N,Q,rfl,H,I⟩,D⟩=>V (lq Z (mu d.has D jl dO)) (bS a λq G a=>VE (BR x d z (lM.refl _) (Fh.mk uE (lU.mk ⟨N,Q,Z,H,I⟩) d.ns) Z (pp Z) G λU d=>?_)))))))))
  refine ln (CI a Z (λB a=>?_) λB a=>?_)
  ·refine sg (Wm (Wa (lt (nz (mj (nz (mj ?_)))))))
   cases sj a
   exact rP d
  exact mU (mx (lE ⟨g,h,_,d.ll,t,u,a⟩))
 rintro E W ⟨⟨g,h⟩,k,d,t,u,a⟩
 exact lE (sg (Wa (lt (rQ a d))))
theorem NB {a:np} (j:Sl (Pl (lJ .u8)) 1 (hp qa) q0 a.Signed.Tag) (i:Sl lx 5 (hp qa) q1 a.lB.Kids) (t:At (hp qa) (vP qh) (lj qC)) (hm:EB a qC=some qf) :
  mo true pg0 193 [vA [vI a.Signed.lg.Kind,vS a.Signed.lg.Head.lu,vS a.Signed.lg.Head.Word,vS a.Signed.lg.nj,vS a.Signed.lg.B.lu,vS a.Signed.lg.B.Word,vS a.Signed.lg.C.lu,vS a.Signed.lg.C.Word,vS a.Signed.lg.mV,q0,vI a.lB.Op,vI a.lB.K,vS a.lB.lh.lu,vS a.lB.lh.Word,q1],vP qh] qa (vB qf):=by
 refine cG 9 func193 Z (λd=>sg ?_)
 obtain ⟨x,z,rfl⟩:=j.form
 obtain ⟨y,B,rfl⟩:=i.form
 refine VE (mA d Z (λD G d=>Wa (lr (Wf AF (Wf sP (VA d Mh (lj a.Signed.lg) bF aI (V (lq Z (mu d.has t bF aI)) (V (A4 Z Z (rY fi) (xu (Ao _ a.Signed.lg qC))) (Wa (ln ?_))))))))))
 exact lO (rQ hm d)
theorem Su {r:(np×Bool)} (k:oa qe [] qa) (c:Sl lU 15 qe q0 qJ.lK) (B:Sl mH 8 qe q1 qJ.mi) (hm:Es qJ qC=some r) :
  my false pg0 157 [vA [vS qJ.Name,q0,q1],vA (lj qC)] qa qe [] (λv L1 μ1=>∃g h,v=vT [vA [vI r.1.Signed.lg.Kind,vS r.1.Signed.lg.Head.lu,vS r.1.Signed.lg.Head.Word,vS r.1.Signed.lg.nj,vS r.1.Signed.lg.B.lu,vS r.1.Signed.lg.B.Word,vS r.1.Signed.lg.C.lu,vS r.1.Signed.lg.C.Word,vS r.1.Signed.lg.mV,g,vI r.1.lB.Op,vI r.1.lB.K,vS r.1.lB.lh.lu,vS r.1.lB.lh.Word,h],vB r.2]∧L1=[]∧Sl (Pl (lJ .u8)) 1 μ1 g r.1.Signed.Tag∧Sl lx 5 μ1 h r.1.lB.Kids):=by
 refine rG k 19 func157 Z (λd=>sg ?_)
 obtain ⟨T,U,rfl⟩:=c.form
 obtain ⟨A3,c4,rfl⟩:=B.form
 refine VE (mA d Z (λW6 b5 d=>VE (mA d Z (λW8 K d=>VE (lY d fl λP b9 d=>Wa (lr (Wf Dm (VB d (Mt (Mt Mh)) Z Z jk (V (pG (by exact pp Z) Z) (bS hm λj Q hm=>VE (Eg d call181 (Bm mv ⟨193,#[],#[vP K],Z,call193,λW x vs r s q hm=>by obtain ⟨_,rfl,Y⟩:=q; obtain ⟨u0,u1,rfl,J,O⟩:=Y.out; exact (NB J O (At.of (s _ _ (d.at_ (Mt Mh))) _ Z) hm).mN⟩ Q) λb4 d=>Wa (mh ?_))))))))))))
 refine lE ?_
 have d:=d.ll (Kb (Db St))
 refine lH (sg (Wm (Wi Z (ln (CI hm Z (λM hm=>?_) λM hm=>?_)))))
 ·refine sg (V (mW (v:=vA Zi) pP (mz fl gH (abP _ gH) kr)) (VO (FA Zi.toArray d dO λb6 d=>Wa (ln ?_))))
  have d:=d.ll (Kb (Db St))
  refine lO (mj ?_)
  cases sj hm
  exact rf (v0:=vA Zi) (v1:=vB false) Z Z (lC d.has Mh Zi Z jl dO) Z ⟨_,_,_,Z,d.mB Sn,lM.refl _,Lo.refl,ST.lG d (mJ.mem Sn),vN,vN,Z,Z,Sl.nil _ _ _,Sl.nil _ _ _⟩
 refine kg (Wf Dm (VB d (Mt Mh) Z Z jk (Wm (bS hm λa I hm=>VQ (nI (i:=j) (x0:=a) lU.out dL dO Z Z c (mK I) (mE I)) λc1 ⟨_,⟨c3,c5,rfl,G,H⟩,N⟩=>V (lq Z (mu d.has N jl dO)) ?_))))
 obtain ⟨t,y,rfl⟩:=G.form
 obtain ⟨u,z,rfl⟩:=H.form
 let a0:=C5 a.Signed.lg.Kind a.Signed.lg.Head.lu a.Signed.lg.Head.Word a.Signed.lg.nj a.Signed.lg.B.lu a.Signed.lg.B.Word a.Signed.lg.C.lu a.Signed.lg.C.Word a.Signed.lg.mV t a.Signed.Tag.length y a.lB.Op a.lB.K a.lB.lh.lu a.lB.lh.Word u a.lB.Kids.length z
 refine VO (FA a0.toArray d dO λc0 d=>Wa (ln ?_))
 have d:=d.ll (Kb (Db St))
 refine lO ?_
 cases sj hm
 exact rf (v0:=vA a0) (v1:=vB true) Z Z (lC d.has Mh a0 Z jl dO) Z ⟨_,_,_,Z,d.mB Sn,lM.refl _,Lo.refl,ST.lG d (mJ.mem Sn),.slice t a.Signed.Tag.length y,.slice u a.lB.Kids.length z,Z,Z,G,H⟩
theorem Cg {r:List oe} (I:oa qe [] qa) (a:Sl mH 8 qe q0 qG) (hm:sU qG=some r) :
  my true pg0 195 [q0] qa qe [] (λv G J=>∃z t,v=z∧G=(t++[])∧mX 174 mH 8 J z r t):=by
 unfold sU at hm
 refine rG I 8 func195 Z (λd=>sg (Wa (lS (Wm ?_))))
 obtain ⟨D,Q,rfl⟩:=a.form
 refine V (D5 cW Z Z) (ln ?_)
 rcases D with _ | M
 ·have y:=a.isNil
  replace hm:some []=some r:=by rw [y] at hm; simpa [oY,maxLen] using hm
  refine xz (rfl) (sg (Wa (lt (mj ?_))))
  cases sj hm
  refine ma (v:=vN) Z Z ?_
  have d:=d.abh
  exact ⟨_,_,_,Z,d.mB (Kr Sn),lM.refl _,Lo.refl,ST.lG d (mJ.mem (Kr Sn)),vN,[],Z,Z,mX.nil _ _ _ _⟩
 ·refine oV (rfl) (kg (VE (mn (cs:=#[]) d pP (Eb [] cW dB gh dc Z rv Z Z) λN H d=>Wm (bS hm λT x hm=>VE (wW (B:=[(H,Ob #[] 174)]) yI d dc cW LC.1 LC.2.1 Z LC.2.2.1 LC.2.2.2 Z Z (mX.lit yI (l:=[]) .nil Z nb Z) (EI.sl yI a d.ns) x λK g k d i=>Wa (lt ?_))))))
  cases sj hm
  exact ma (v:=g) Z Z ⟨_,_,_,Z,d.mB (Kr Sn),lM.refl _,Lo.refl,ST.lG d (mJ.mem (Kr Sn)),g,k,Z,Z,i⟩
theorem Dn {y:oe→Option Bool} (c:Sl mH 8 (hp qa) q0 qG) (z:AQ pg0 q1 (hp qa) (Fh mH) (λ(qb:Bool)=>vB qb) y) (hm:tS qG y=some qb) :
  mo false pg0 180 [q0,q1] qa (vI qb):=by
 refine cG 19 func180 Z (λd=>sg (Wa (lS (Wm (V (mP cW Z c) (Wm (ln (nM 8 7 (λi j E W=>∃k,ST false nf qa W (hp qa) k∧E 0=q0∧E 1=q1∧sn y j i=some qb) c.len ⟨_,d.ll,Z,Z,hm⟩ ?_ ?_))))))))
 ·rintro M x T E W J ⟨⟨g,h⟩,k,d,t,u,a⟩
  refine sg (Wh g (Wa (lr (Wh u (Wh t (Wm (VQ (nI (i:=(M:Int)) (x0:=x) mH.out cW dB Z Z c (aF _) J) λY ⟨_,⟨N,Q,rfl,H,I⟩,D⟩=>V (lq Z (mu d.has D iP dB)) (bS a λq G a=>VE (BR x d z (lM.refl _) (Fh.mk yI (mH.mk ⟨N,Q,Z,H,I⟩) d.ns) Z (pp Z) G λU d=>?_)))))))))
  refine ln (CI a Z (λB a=>?_) λB a=>?_)
  ·refine sg (Wm (Wa (lt (nz (mj (nz (mj ?_)))))))
   cases sj a
   exact rP d
  exact mU (mx (lE ⟨g,h,_,d.ll,t,u,a⟩))
 rintro E W ⟨⟨g,h⟩,k,d,t,u,a⟩
 exact lE (sg (Wa (lt (rQ a d))))
theorem zq {f1:oe→Option Bool} {r:List oe} (h0:oa qe (qo++[]) qa) (q:mX 174 mH 8 qe q0 qG qo) (a9:AQ pg0 q1 qe (Fh mH) (λ(r:Bool)=>vB r) f1) (hm:pu qG f1=some r) :
  my false pg0 194 [q0,q1] qa qe (qo++[]) (λv L1 μ1=>∃y1,v=y1∧L1=[]∧Sl mH 8 μ1 y1 r):=by
 refine rG h0 42 func194 Z (λd=>sg (Wa (lr (Wm (Wm (bS hm λr1 d7 hm=>VE (Eg d call180 (Dn (q.sl yI d.ns λb o J=>d.at_ (Ml J)) (a9.mono d.ns) d7) λW3 d=>Wa (ln ?_))))))))
 refine lH (sg (Wm (Wi Z (ln (CI hm Z (λd6 hm=>?_) λd6 hm=>?_)))))
 ·refine sg (Wm (Wa (lt (mj ?_))))
  cases sj hm
  refine ma (v:=q0) Z Z ?_
  obtain ⟨aa,d,d2,y,d8⟩:=ST.Bb yI d q
  exact ⟨_,_,_,Z,d.mB Sn,d2,y,ST.lG d (mJ.mem Sn),q0,Z,Z,d8⟩
 refine kS (Wm (Wi Z (Wa (ln (nO (pE (λm E W=>∃a2 K G H P,ST false (keys (qo++[])) qa W qe (K++P)∧E 0=q0∧E 1=q1∧E 5=vI G∧E 6=vI H∧mX 174 mH 8 qe q0 a2 K∧rM f1 m a2 G H=some r) mZ ⟨qG,qo,r1,wi0 .i64 (r1+1),_,d.ll,Z,Z,Z,Z,q,hm⟩ ?_))))))
 rintro m E W ⟨a2,K,G,H,P,d,t,k,I,N,j,c⟩
 cases m with
 | zero=>rw [rM] at c; cases c
 | succ d4=>
  refine lH (sg (Wh N (Wh t (V (AS cW Z j) (Wi Z (ln (CI c Z (λb6 c=>?_) λb6 c=>?_)))))))
  ·refine kn (lH (CJ c (λa3 E W=>∃M Y,ST false (keys (qo++[])) qa W qe (M++Y)∧E 0=q0∧E 1=q1∧E 5=vI a3.2∧E 6=vI H∧mX 174 mH 8 qe q0 a3.1 M) (λa3 g=>?_) ?_))
   ·refine bg (Wh t (Wh N (bS g λa O g=>VQ (nV (i:=H) mH.out cW dB Z Z j (mK O) (mE O)) λf5 ⟨_,⟨f8,f9,rfl,Q,T⟩,c1,e1⟩=>V (lq Z (mu (oR.hp _) (c1.mono (oz λb o J=>d.has.2 b o (Ml J))) iP dB)) (VE (lY d gh λe7 f3 d=>?_)))))
    obtain ⟨u,B,rfl⟩:=Q.form
    obtain ⟨x,D,rfl⟩:=T.form
    let s:=C8 a.lh.lu a.lh.Word a.lB.Op a.lB.K a.lB.lh.lu a.lB.lh.Word u a.lB.Kids.length B x a.nP.length D
    refine VO (FA s.toArray d dB λe8 d=>lr (Wh k (VA d Mh s iP dB (bS g λf7 c2 g=>VE (BR a d a9 (lM.refl _) (Fh.mk yI (mH.mk ⟨.slice u a.lB.Kids.length B,.slice x a.nP.length D,Z,Q,T⟩) d.ns) Z (pp Z) c2 λe9 d=>V (nK Z) (ln (CI g Z (λb7 g=>?_) λb7 g=>?_)))))))
    ·refine sg (Wh t (Wh I (VA d Mh s iP dB (bS g λg3 U g=>VQ (nV (i:=G) mH.out cW dB Z Z j (mK U) (mE U)) λf6 ⟨_,⟨g0,g1,rfl,e3,e4⟩,e2,b9⟩=>?_))))
     have d:=d.perm (Nr (Qb Qz) Nz)
     refine VO (wq (x1:=a) yI d j Z Z (mH.mk ⟨.slice u a.lB.Kids.length B,.slice x a.nP.length D,Z,Q,T⟩) b9 (mE U) dB λf0 c7 d b4=>ln ?_)
     have d:=d.ll (Kr (Db St))
     refine lI (Wh I (Wi Z (Wa (mh (mx (lE ?_))))))
     cases sj g
     exact ⟨c7,_,d.ll,t,k,Z,N,b4⟩
    refine mU (mx (lE ?_))
    cases sj g
    exact ⟨K,_,d.ll (Db St),t,k,I,N,j⟩
   rintro ⟨d3,d5⟩ E W ⟨M,Y,d,c8,c9,d0,d1,c3⟩ c0
   exact lI (Wh d1 (Wi Z (Wa (ln ⟨d4,bH _,d3,M,d5,wi0 .i64 (H+1),_,d.ll,c8,c9,d0,Z,c3,c0⟩))))
  refine pg (oL (oL (uO (lE (sg (Wh t (Wh I (bS c λ_ a4 c=>VQ (Ew (i:=G) cW dB Z Z j (uh a4) (tY a4)) λg2 c4=>VO (GQ (z:=(⟨K0,(⟨0,0,K0,[]⟩:Formula),[]⟩:oe)) (zs:=[vS zS,vS zS,vI 0,vI 0,vS zS,vS zS,vN,vN]) yI d j (mH.mk ⟨vN,vN,Z,Sl.nil _ _ _,Sl.nil _ _ _⟩) cW gh c4 Z Z (λf2 e6 d b5=>lr (Wh t ?_)))))))))))
  refine Wh I (bS c λ_ a5 c=>VQ (Jp (i:=G) cW dB Z Z b5 (uh a5) (tY a5)) λb1 c5=>Wa (lt ?_))
  cases sj c
  refine ma (v:=b1) Z Z ?_
  obtain ⟨g7,d,b0,h,c6⟩:=ST.Bb yI d c5
  exact ⟨_,_,_,Z,d.mB Sn,b0,h,ST.lG d (mJ.mem Sn),b1,Z,Z,c6⟩
theorem MI {c:oe} (j:Sl lx 5 (hp qa) q0 c.lB.Kids) (g:Sl (Pl lj) 9 (hp qa) q1 c.nP) (t:At (hp qa) (vP qh) (lj qC)) (hm:zf c qC=some qf) :
  mo true pg0 196 [vA [vS c.lh.lu,vS c.lh.Word,vI c.lB.Op,vI c.lB.K,vS c.lB.lh.lu,vS c.lB.lh.Word,q0,q1],vP qh] qa (vB qf):=by
 refine cG 9 func196 Z (λa=>sg ?_)
 obtain ⟨B,D,rfl⟩:=j.form
 obtain ⟨x,y,rfl⟩:=g.form
 refine VE (mA a Z (λG I a=>Wa (lr (Wf GN (VB a Mh Z Z dQ (V (lq Z (mu a.has t bF aI)) (bS hm λJ z hm=>VE (Eg a call114 (CE mv z) λH a=>V (nK Z) (Wa (ln ?_))))))))))
 exact lO (rQ hm a)
theorem QD (s:oa qe [] qa) (j:Sl lU 15 qe q0 qJ.lK) (c:Sl mH 8 qe q1 qJ.mi) (hm:DI qJ qC=some qG) :
  my false pg0 158 [vA [vS qJ.Name,q0,q1],vA (lj qC)] qa qe [] (λv L1 μ1=>∃q,v=q∧L1=[]∧Sl mH 8 μ1 q qG):=by
 refine rG s 10 func158 Z (λa=>sg ?_)
 obtain ⟨A1,c2,rfl⟩:=j.form
 obtain ⟨Y,c4,rfl⟩:=c.form
 refine VE (mA a Z (λW6 b5 a=>VE (mA a Z (λW8 z a=>Wa (lr (Wf IN (VB a (Mt Mh) Z Z isAgg23 (bS hm λr9 N hm=>?_))))))))
 refine VE (eD a (aT _) call195 (λi=>my.mN (Cg i mv N)) ?_ (L0:=[]))
 rintro _ c3 c6 P a B d ⟨a5,O,k,rfl,T⟩
 obtain rfl:=k.symm
 have a:=a.perm (Tr Tn)
 refine V (pG (by exact pp Z) Z) ?_
 have a:=a.perm (Nb (Pr Pz) Nz)
 obtain ⟨c7,a,u,g,M⟩:=ST.zH (R:=[(z,Ol (lj qC) 69)]) a
 have K:=At.of (M _ _ (.head _)) _ Z
 refine bS hm λc1 Q hm=>?_
 refine VE (eD a (Cr Qz Cn) call194 (λi=>zq i (T.mono yI u) ⟨196,#[],#[vP z],Z,call196,λW x vs qG hs y hm=>by obtain ⟨_,rfl,a3⟩:=y; obtain ⟨u0,u1,rfl,I,J⟩:=a3.out; exact (MI I J mv hm).mN⟩ Q) ?_)
 rintro _ c5 c8 b6 a D h ⟨H,t,rfl,U⟩
 obtain rfl:=t.symm
 refine Wa (ln ?_)
 have a:=a.ll (Db St)
 refine lO ?_
 obtain rfl:=sj hm
 exact ma (v:=H) Z Z ⟨_,_,_,Z,a.mB Sn,(B.trans u).trans D,(d.trans g).trans h,ST.lG a (mJ.mem Sn),H,Z,Z,U⟩
theorem JU (T:Formula→Int→Option (Int×Int)) (a5:∀(t:Formula) (j:Value) (I:Int) (r:(Int×Int)) (w:World) (g:Sl lx 5 (hp w) j t.Kids),T t I=some r→mo false pg0 106 [vA [vI t.Op,vI t.K,vS t.lh.lu,vS t.lh.Word,j],vI I] w (vT [vI r.1,vI r.2])) (t:Formula) (j:Value) (I:Int) (r:(Int×Int)) (w:World) (g:Sl lx 5 (hp w) j t.Kids) (hm:AZ T t I=some r) :
  mo false pg0 106 [vA [vI t.Op,vI t.K,vS t.lh.lu,vS t.lh.Word,j],vI I] w (vT [vI r.1,vI r.2]):=by
 refine cG 40 func106 Z (λd=>sg ?_)
 obtain ⟨A1,c2,rfl⟩:=g.form
 refine VE (mA d Z (λW4 b3 d=>Wa (Wa (lr (Wa (Wa (lS (Wf xQ ?_))))))))
 refine VB d Mh Z Z fR (V (mP aJ Z g) (Wm (ln ?_)))
 have d:=d.ll (Db St)
 refine CJ hm (λQ E W=>∃a2,ST false nf w W (hp w) a2∧E 6=vI Q.1∧E 7=vI Q.2) (λQ a4=>?_) ?_
 ·refine nM 15 14 (λi js E W=>∃y z J,ST false nf w W (hp w) J∧E 1=vI I∧E 6=vI y∧E 7=vI z∧E 13= .slice A1 t.Kids.length c2∧uD I T js y z=some Q) g.len ⟨1,0,_,d.ll,Z,Z,Z,Z,a4⟩ ?_ ?_
  ·rintro b1 c c3 E W O ⟨⟨h,q⟩,y,z,J,d,G,x,H,K,a⟩
   refine sg (VQ (nI (i:=(b1:Int)) (x0:=c) lx.out aJ aD K h g (aF _) O) λc0 ⟨_,⟨c1,rfl,N⟩,Y⟩=>V (lq Z (mu d.has Y bD aD)) (VE (lY d bG λb5 b9 d=>?_)))
   obtain ⟨B,D,rfl⟩:=N.form
   let a0:=C1 c.Op c.K c.lh.lu c.lh.Word B c.Kids.length D
   refine VO (FA a0.toArray d aD λb6 d=>lS (Wh x (Wh G (Wi Z (ln (CI a Z (λU a=>?_) λU a=>?_))))))
   ·refine pg (oL (YQ rv (oL (uO (lE ?_)))))
    cases sj a
    exact ⟨_,d.ll (Db St),x,H⟩
   refine kg (VA d Mh a0 bD aD (Wh G (Wh x (Wi Z (bS a λM s a=>VE (Eg d call106 (a5 c (.slice B c.Kids.length D) (wi0 .i64 (I-y)) _ _ mv s) λb7 d=>Wm (Wx Z (Wx Z (Wa (Wa ?_))))))))))
   refine ln ?_
   have d:=d.ll (Db St)
   exact lI (Wh x (Wm (Wi Z (Wh H (Wm (V (abI (k:=.i64) Z Z) (Wa (Wa (mh (mx (lE ⟨h,q,wi0 .i64 (y+M.1),(if M.2 > z then M.2 else z),_,d.ll,G,Z,Z,K,a⟩)))))))))))
  rintro E W ⟨⟨h,q⟩,y,z,J,d,G,x,H,K,a⟩
  refine lE ?_
  cases sj a
  exact ⟨_,d.ll,x,H⟩
 rintro ⟨b2,b4⟩ E W ⟨a2,d,a9,P⟩ a3
 refine sg (Wh a9 (Wh P (Wi Z (Wa (Wa (lt ?_))))))
 cases sj a3
 exact rq (v:=vI b2) (u:=vI (wi0 .i64 (b4+1))) Z Z Z ⟨Z,d.ex⟩
theorem Hy:∀(n:Nat) (c:Formula) (a:Value) (i:Int) (r:(Int×Int)) (w:World) (g:Sl lx 5 (hp w) a c.Kids) (_:sK n c i=some r),
  mo false pg0 106 [vA [vI c.Op,vI c.K,vS c.lh.lu,vS c.lh.Word,a],vI i] w (vT [vI r.1,vI r.2])
 | 0=>by intros; rename_i h; simp only [sK] at h; cases h
 | n+1=>JU (sK n) (Hy n)
theorem OJ {r:(Int×Int)} (c:Sl lx 5 (hp qa) q0 qy.Kids) (hm:CL qy=some r) :
  mo false pg0 60 [vA [vI qy.Op,vI qy.K,vS qy.lh.lu,vS qy.lh.Word,q0]] qa (vT [vI r.1,vI r.2]):=by
 refine cG 15 func60 Z (λa=>sg ?_)
 obtain ⟨i,j,rfl⟩:=c.form
 refine VE (mA a Z (λy B a=>Wa (Wa (lr (VA a Mh (C1 qy.Op qy.K qy.lh.lu qy.lh.Word i qy.Kids.length j) bD aD (bS hm λx t hm=>VE (Eg a call106 ((Hy mZ) qy (.slice i qy.Kids.length j) 4096 _ _ mv t) λz a=>Wm (Wx Z (Wx Z (Wa (Wa ?_)))))))))))
 refine ln ?_
 have a:=a.ll (Db St)
 refine lH (sg (Wm (Wi Z (ln (CI hm Z (λk hm=>?_) λk hm=>?_)))))
 ·refine sg (Wa (Wa (lt (mj ?_))))
  cases sj hm
  exact rq (v:=vI 0) (u:=vI 0) Z Z Z ⟨Z,a.ex⟩
 refine kg (Wm (Wm (Wa (Wa (lt ?_)))))
 cases sj hm
 exact rq (v:=vI x.1) (u:=vI x.2) Z Z Z ⟨Z,a.ex⟩
theorem OA (t:Sl lx 5 (hp qa) q0 qy.Kids) (hm:CG qy=some qf) :
  mo true pg0 107 [vA [vI qy.Op,vI qy.K,vS qy.lh.lu,vS qy.lh.Word,q0]] qa (vB qf):=by
 refine cG 63 func107 Z (λa=>sg ?_)
 obtain ⟨A1,c2,rfl⟩:=t.form
 let s:=C1 qy.Op qy.K qy.lh.lu qy.lh.Word A1 qy.Kids.length c2
 refine VE (mA a Z (λW4 N a=>Wa (lr (V (mW (v:=vA (lp K0)) pP (mz dE dC (Vt _ dC) kr)) (VE (lY a dE λW6 b5 a=>VO (FA (h1:=pt K0) ((lp K0).toArray) a aM λW7 a=>lS (Wf zb ?_))))))))
 refine VB a (Mt Mh) Z Z bK (ln (bg (Wi Z (Wa (ln (CI hm Z (λd9 hm=>?_) λd9 hm=>?_))))))
 ·refine sg (Wf Dz (VA a (Mt Mh) (lp qy.lh) bJ aM (bS hm λf7 e5 hm=>VE (Eg a ke (wL qy.lh _ _  e5) λf5 a=>Wm (LJ hm (λd2 E W=>∃c4,ST true nf qa W (hp qa) ((N,Ol s 36)::c4)∧E 1=vP N∧E 2=vB false∧E 17=vB d2) 5 ?_ λd2 J a4=>?_)))))
  ·rintro f8 E W ⟨c4,a,e7,c9,e8⟩ e1
   refine Wh e8 (LJ e1 (λd1 E W=>∃c5,ST true nf qa W (hp qa) c5∧E 2=vB false∧E 22=vB d1) 4 ?_ λd1 I a3=>?_)
   ·rintro f9 E W ⟨c5,a,f6,e9⟩ e2
    refine Wg e9 (lt (nz (mj ?_)))
    cases sj e2
    exact rP a
   refine bC I (λu I=>?_) (λu I=>?_)
   ·refine ug u (ly ES e7) (ug u (lq Z (lA a.has Mh Z bK)) (ug u (mL Z Z Z) (V (lQ (cB u) Z) ?_)))
    cases sj I
    exact a3 _ _ ⟨_,a.ll (Db St),c9,Z⟩
   refine un u (un u (un u (V (lN (cB u) Z) ?_)))
   cases sj I
   exact a3 _ _ ⟨_,a.ll (Db St),c9,Z⟩
  refine bC J (λj J=>?_) (λj J=>?_)
  ·refine ug j (ly xQ Z) (ug j (lq Z (lA a.has (Mt Mh) Z fR)) (ug j (mP aJ Z t) (ug j (mL Z Z Z) (V (lQ (cB j) Z) ?_))))
   cases sj J
   exact a4 _ _ ⟨_,a.ll (Db St),Z,Z,Z⟩
  refine un j (un j (un j (un j (V (lN (cB j) Z) ?_))))
  cases sj J
  exact a4 _ _ ⟨_,a.ll (Db St),Z,Z,Z⟩
 let a0:=(s.toArray:Array Value)
 let d:Value:=vP N
 refine lH (CJ hm (λb7 E W=>∃c6,ST true nf qa W (hp qa) ((b5,Ol (lp K0) 33)::((N,oC a0 36)::c6))∧E 1=d∧E 3=vP b5∧E 23=vB b7) (λb7 G=>?_) ?_)
 ·refine sg (Wi Z (Wa (ln (CI G Z (λb9 G=>?_) λb9 G=>?_))))
  ·refine kn ?_
   cases sj G
   exact ⟨_,a.ll,Z,Z,Z⟩
  refine lI (Wi Z (Wa (ln ?_)))
  cases sj G
  exact ⟨_,a.ll,Z,Z,Z⟩
 rintro g0 E W ⟨c6,a,Q,d0,f0⟩ K
 refine CI K f0 (λe0 K=>?_) (λe0 K=>?_)
 ·refine sg (V (ly Dz Q) (VA a (Mt Mh) (lp qy.lh) bJ aM (V (lq d0 (lC a.has Mh (lp K0) Z bJ aM)) (V (A4 Z Z (rY gp) (xu (yR _ qy.lh K0))) (Wm (LJ K (λd3 E W=>∃c7,ST true nf qa W (hp qa) c7∧E 34=vB d3) 4 ?_ λd3 M a5=>?_))))))
  ·rintro g1 E W ⟨c7,a,f1⟩ e3
   refine Wg f1 (lt (nz (mj ?_)))
   cases sj e3
   exact rP a
  refine bC M (λx M=>?_) (λx M=>?_)
  ·refine ug x (ly ES Q) (ug x (lq Z (lA a.has (Mt Mh) Z bK)) (ug x (mL Z Z Z) (V (lQ (cB x) Z) ?_)))
   cases sj M
   exact a5 _ _ ⟨_,a.ll (Db (Db St)),Z⟩
  refine un x (un x (un x (V (lN (cB x) Z) ?_)))
  cases sj M
  exact a5 _ _ ⟨_,a.ll (Db (Db St)),Z⟩
 refine mU (mx (lE (sg (V (ly zb Q) (VB a (Mt Mh) Z Z bK (Wi Z (Wm (LJ K (λb6 E W=>∃c8,ST true nf qa W (hp qa) ((N,oC a0 36)::c8)∧E 1=d∧E 43=vB b6) 5 ?_ λb6 D q=>?_))))))))
 ·rintro g2 E W ⟨c8,a,a2,d4⟩ e4
  refine Wh d4 (LJ e4 (λb4 E W=>∃O,ST true nf qa W (hp qa) ((N,oC a0 36)::O)∧E 1=d∧E 48=vB b4) 4 ?_ λb4 B h=>?_)
  ·rintro f2 E W ⟨O,a,T,d5⟩ c0
   refine Wh d5 (LJ c0 (λb2 E W=>∃a9,ST true nf qa W (hp qa) ((N,oC a0 36)::a9)∧E 1=d∧E 56=vB b2) 7 ?_ λb2 z Y=>?_)
   ·rintro f3 E W ⟨a9,a,d6,d7⟩ c1
    refine Wh d7 (LJ c1 (λb1 E W=>∃P,ST true nf qa W (hp qa) P∧E 62=vB b1) 5 ?_ λb1 y U=>?_)
    ·rintro f4 E W ⟨P,a,d8⟩ c3
     exact Wg d8 (lt (rQ c3 a))
    refine bC y (λg y=>?_) (λg y=>?_)
    ·refine ug g (ly xQ d6) (ug g (lq Z (lA a.has Mh Z fR)) (ug g (mP aJ Z t) (ug g (mL Z Z Z) (V (lQ (cB g) Z) ?_))))
     cases sj y
     exact U _ _ ⟨_,a.ll (Db St),Z⟩
    refine un g (un g (un g (un g (V (lN (cB g) Z) ?_))))
    cases sj y
    exact U _ _ ⟨_,a.ll (Db St),Z⟩
   refine bC z (λc z=>?_) (λc z=>?_)
   ·refine ug c (ly ES T) (ug c (lq Z (lA a.has Mh Z bK)) (ug c (ly xQ T) (ug c (lq Z (lA a.has Mh Z fR)) (ug c (mP aJ Z t) (ug c (mL Z Z Z) (V (lQ (cB c) Z) ?_))))))
    cases sj z
    exact Y _ _ ⟨_,a.ll,T,Z⟩
   refine un c (un c (un c (un c (un c (un c (V (lN (cB c) Z) ?_))))))
   cases sj z
   exact Y _ _ ⟨_,a.ll,T,Z⟩
  refine bC B (λi B=>?_) (λi B=>?_)
  ·refine ug i (ly ES a2) (ug i (lq Z (lA a.has Mh Z bK)) (ug i (mL Z Z Z) (V (lQ (cB i) Z) ?_)))
   cases sj B
   exact h _ _ ⟨_,a.ll,a2,Z⟩
  refine un i (un i (un i (V (lN (cB i) Z) ?_)))
  cases sj B
  exact h _ _ ⟨_,a.ll,a2,Z⟩
 refine bC D (λk D=>?_) (λk D=>?_)
 ·refine ug k (ly Dz Q) (ug k (lq Z (lC a.has (Mt Mh) (lp qy.lh) Z bJ aM)) (ug k (lq d0 (lC a.has Mh (lp K0) Z bJ aM)) (ug k (A4 Z Z (rY gp) (xu (yR _ qy.lh K0))) (V (lQ (cB k) Z) ?_))))
  cases sj D
  exact q _ _ ⟨_,a.ll (Db St),Q,Z⟩
 refine un k (un k (un k (un k (V (lN (cB k) Z) ?_))))
 cases sj D
 exact q _ _ ⟨_,a.ll (Db St),Q,Z⟩
theorem F4 {y:Formula→Option Bool} (c:Sl lx 5 (hp qa) q0 qA) (z:AQ pg0 q1 (hp qa) (Fh lx) (λ(qb:Bool)=>vB qb) y) (hm:yo qA y=some qb) :
  mo false pg0 148 [q0,q1] qa (vI qb):=by
 refine cG 19 func148 Z (λd=>sg (Wa (lS (Wm (V (mP aJ Z c) (Wm (ln (nM 8 7 (λi j E W=>∃k,ST false nf qa W (hp qa) k∧E 0=q0∧E 1=q1∧pS y j i=some qb) c.len ⟨_,d.ll,Z,Z,hm⟩ ?_ ?_))))))))
 ·rintro K x N E W I ⟨⟨g,h⟩,k,d,t,u,a⟩
  refine sg (Wh g (Wa (lr (Wh u (Wh t (Wm (VQ (nI (i:=(K:Int)) (x0:=x) lx.out aJ aD Z Z c (aF _) I) λT ⟨_,⟨M,rfl,H⟩,D⟩=>V (lq Z (mu d.has D bD aD)) (bS a λU G a=>VE (BR x d z (lM.refl _) (Fh.mk mQ (lx.mk ⟨M,Z,H⟩) d.ns) Z (pp Z) G λQ d=>?_)))))))))
  refine ln (CI a Z (λB a=>?_) λB a=>?_)
  ·refine sg (Wm (Wa (lt (nz (mj (nz (mj ?_)))))))
   cases sj a
   exact rP d
  exact mU (mx (lE ⟨g,h,_,d.ll,t,u,a⟩))
 rintro E W ⟨⟨g,h⟩,k,d,t,u,a⟩
 exact lE (sg (Wa (lt (rQ a d))))
theorem Aq {i:Formula→Option Bool} (j:Sl lx 5 (hp qa) q0 qA) (k:AQ pg0 q1 (hp qa) (Fh lx) (λ(qf:Bool)=>vB qf) i) (hm:so qA i=some qf) :
  mo false pg0 108 [q0,q1] qa (vB qf):=by
 refine cG 9 func108 Z (λa=>sg (Wa (lr (Wm (Wm (bS hm λx t hm=>VE (Eg a call148 (F4 mv mv t) λu a=>Wi Z (Wa (mh ?_)))))))))
 exact lE (lO (rQ hm a))
theorem Kv (i:Formula→Option Bool) (t:∀(c:Formula) (a:Value) (r:Bool) (w:World) (g:Sl lx 5 (hp w) a c.Kids),i c=some r→mo false pg0 61 [vA [vI c.Op,vI c.K,vS c.lh.lu,vS c.lh.Word,a]] w (vB r)) (c:Formula) (a:Value) (r:Bool) (w:World) (g:Sl lx 5 (hp w) a c.Kids) (hm:B7 i c=some r) :
  mo false pg0 109 [vA [vI c.Op,vI c.K,vS c.lh.lu,vS c.lh.Word,a]] w (vB r):=by
 refine cG 6 func109 Z (λd=>sg ?_)
 obtain ⟨j,k,rfl⟩:=g.form
 refine VE (mA d Z (λx z d=>Wa (lr (VA d Mh (C1 c.Op c.K c.lh.lu c.lh.Word j c.Kids.length k) bD aD (bS hm λB u hm=>VE (Eg d call61 (t c (.slice j c.Kids.length k) _ _ mv u) λy d=>V (nK Z) (Wa (ln ?_))))))))
 exact lO (rQ hm d)
theorem Jh (z:Formula→Option Bool) (T:∀(a:Formula) (g:Value) (r:Bool) (w:World) (c:Sl lx 5 (hp w) g a.Kids),z a=some r→mo false pg0 61 [vA [vI a.Op,vI a.K,vS a.lh.lu,vS a.lh.Word,g]] w (vB r)) (a:Formula) (g:Value) (r:Bool) (w:World) (c:Sl lx 5 (hp w) g a.Kids) (hm:Bc z a=some r) :
  mo false pg0 61 [vA [vI a.Op,vI a.K,vS a.lh.lu,vS a.lh.Word,g]] w (vB r):=by
 refine cG 17 func61 Z (λd=>sg ?_)
 obtain ⟨B,D,rfl⟩:=c.form
 let a0:=C1 a.Op a.K a.lh.lu a.lh.Word B a.Kids.length D
 refine VE (mA d Z (λW4 U d=>Wa (lr (VA d Mh a0 bD aD (bS hm λr5 a3 hm=>VE (Eg d call107 (mo.mN (OA mv a3)) λW7 d=>Wm (LJ hm (λK E W=>∃G,ST false nf w W (hp w) ((U,Ol a0 36)::G)∧E 1=vP U∧E 2=vB false∧E 10=vB K) 5 ?_ λK t y=>?_)))))))
 ·rintro x9 E W ⟨G,d,Y,I,h⟩ M
  refine Wh h (LJ M (λJ E W=>∃H,ST false nf w W (hp w) H∧E 2=vB false∧E 16=vB J) 5 ?_ λJ k u=>?_)
  ·rintro a8 E W ⟨H,d,P,q⟩ N
   exact Wg q (lt (rQ N d))
  refine bC k (λi k=>?_) (λi k=>?_)
  ·refine ug i (ly xQ Y) (ug i (lq Z (lA d.has Mh Z fR)) (bS k λa7 Q k=>tw i (Eg d call108 (Aq mv ⟨109,#[],#[],Z,call109,λW x vs r hs s hm=>by obtain ⟨_,rfl,a2⟩:=s; obtain ⟨O,rfl,v⟩:=a2.out; exact Kv z T x O r W v hm⟩ Q) λa5 d=>ug i (nK Z) (V (lQ (cB i) Z) ?_))))
   cases sj k
   exact u _ _ ⟨_,d.ll (Db St),I,Z⟩
  refine un i (un i (un i (un i (V (lN (cB i) Z) ?_))))
  cases sj k
  exact u _ _ ⟨_,d.ll (Db St),I,Z⟩
 refine bC t (λj t=>?_) (λj t=>?_)
 ·refine ug j (ly xQ Z) (ug j (lq Z (lA d.has Mh Z fR)) (ug j (mP aJ Z c) (ug j (mL Z Z Z) (V (lQ (cB j) Z) ?_))))
  cases sj t
  exact y _ _ ⟨_,d.ll,Z,Z,Z⟩
 refine un j (un j (un j (un j (V (lN (cB j) Z) ?_))))
 cases sj t
 exact y _ _ ⟨_,d.ll,Z,Z,Z⟩
theorem HK:∀(n:Nat) (c:Formula) (a:Value) (r:Bool) (w:World) (g:Sl lx 5 (hp w) a c.Kids) (_:wM n c=some r),
  mo false pg0 61 [vA [vI c.Op,vI c.K,vS c.lh.lu,vS c.lh.Word,a]] w (vB r)
 | 0=>by intros; rename_i h; simp only [wM] at h; cases h
 | n+1=>Jh (wM n) (HK n)
theorem wv (c:Sl lx 5 (hp qa) q0 qy.Kids) (hm:sM qy=some qf) :
  mo false pg0 25 [vA [vI qy.Op,vI qy.K,vS qy.lh.lu,vS qy.lh.Word,q0]] qa (vB qf):=by
 refine cG 24 func25 Z (λa=>sg ?_)
 obtain ⟨y,z,rfl⟩:=c.form
 let a0:=C1 qy.Op qy.K qy.lh.lu qy.lh.Word y qy.Kids.length z
 refine VE (mA a Z (λW4 H a=>Wa (lr (VA a Mh a0 bD aD (bS hm λv a9 hm=>VE (Eg a call60 (OJ mv a9) λW7 a=>Wm (Wx Z (Wx Z (Wa (Wa (mh ?_)))))))))))
 refine lE (sg (Wm (Wi Z (Wm (LJ hm (λY E W=>∃I,ST false nf qa W (hp qa) ((H,Ol a0 36)::I)∧E 1=vP H∧E 2=vB false∧E 4=vI v.2∧E 15=vB Y) 3 ?_ λY x G=>?_)))))
 ·rintro x9 E W ⟨I,a,M,N,a4,a5⟩ d
  refine Wh a5 (LJ d (λU E W=>∃J,ST false nf qa W (hp qa) ((H,Ol a0 36)::J)∧E 1=vP H∧E 2=vB false∧E 19=vB U) 3 ?_ λU u D=>?_)
  ·rintro b5 E W ⟨J,a,k,Q,q⟩ h
   refine Wh q (LJ h (λT E W=>∃K,ST false nf qa W (hp qa) K∧E 2=vB false∧E 23=vB T) 3 ?_ λT j B=>?_)
   ·rintro b6 E W ⟨K,a,P,s⟩ a2
    exact Wg s (lt (rQ a2 a))
   refine bC j (λi j=>?_) (λi j=>?_)
   ·refine ug i (lq k (lC a.has Mh a0 Z bD aD)) (bS j λb4 a3 j=>tw i (Eg a call61 ((HK mZ) qy (.slice y qy.Kids.length z) _ _ mv a3) λO a=>V (lQ (cB i) Z) ?_))
    cases sj j
    exact B _ _ ⟨_,a.ll (Db St),Q,Z⟩
   refine un i (un i (V (lN (cB i) Z) ?_))
   cases sj j
   exact B _ _ ⟨_,a.ll (Db St),Q,Z⟩
  refine bC u (λg u=>?_) (λg u=>?_)
  ·refine ug g (lz a4) (ug g (mL Z Z Z) (V (lQ (cB g) Z) ?_))
   cases sj u
   exact D _ _ ⟨_,a.ll,M,N,Z⟩
  refine un g (un g (V (lN (cB g) Z) ?_))
  cases sj u
  exact D _ _ ⟨_,a.ll,M,N,Z⟩
 refine bC x (λt x=>?_) (λt x=>?_)
 ·refine ug t (lz Z) (ug t (mL Z Z Z) (V (lQ (cB t) Z) ?_))
  cases sj x
  exact G _ _ ⟨_,a.ll,Z,Z,Z,Z⟩
 refine un t (un t (V (lN (cB t) Z) ?_))
 cases sj x
 exact G _ _ ⟨_,a.ll,Z,Z,Z,Z⟩
theorem Fg (c:Sl lx 5 (hp qa) q0 qy.Kids) (hm:yO qy qb=some qf) :
  mo true pg0 258 [vA [vI qy.Op,vI qy.K,vS qy.lh.lu,vS qy.lh.Word,q0],vI qb] qa (vB qf):=by
 refine cG 15 func258 Z (λd=>sg ?_)
 obtain ⟨B,D,rfl⟩:=c.form
 refine VE (mA d Z (λG H d=>Wa (lr (Wf zb (VB d Mh Z Z bK (Wm (Wi Z (Wm (LJ hm (λt E W=>∃u,ST true nf qa W (hp qa) u∧E 4=vB false∧E 14=vB t) 5 ?_ λt j k=>?_)))))))))
 ·rintro J E W ⟨u,d,I,y⟩ z
  exact Wg y (lt (rQ z d))
 refine bC j (λa j=>?_) (λa j=>?_)
 ·refine ug a (ly xQ Z) (ug a (lq Z (lA d.has Mh Z fR)) (ug a (mP aJ Z c) (ug a (mL Z Z Z) (V (lQ (cB a) Z) ?_))))
  cases sj j
  exact k _ _ ⟨_,d.ll (Db St),Z,Z⟩
 refine un a (un a (un a (un a (V (lN (cB a) Z) ?_))))
 cases sj j
 exact k _ _ ⟨_,d.ll (Db St),Z,Z⟩
theorem Nu (i:oa qe [] qa) (hm:Ey =some qy) :
  my true pg0 259 [] qa qe [] (λv g j=>∃a,v=vA [vI qy.Op,vI qy.K,vS qy.lh.lu,vS qy.lh.Word,a]∧g=[]∧Sl lx 5 j a qy.Kids):=by
 refine rG i 2 func259 Z (λd=>sg (VE (lY d bG λk u d=>lr (V (mW (v:=vA ZC) (nw Z) (mz bG cO (Hj _ cO) kr)) (VO (FA ZC.toArray d aD λt d=>lt ?_))))))
 cases sj hm
 exact oW (v:=vA ZC) Z Z (lC d.has Mh ZC Z bD aD) ⟨_,_,_,Z,d.mB Sn,lM.refl _,Lo.refl,ST.lG d (mJ.mem Sn),vN,Z,Z,Sl.nil _ _ _⟩
theorem Oz (i:oa qe [] qa) (hm:E8 =some qy) :
  my true pg0 260 [] qa qe [] (λv g j=>∃a,v=vA [vI qy.Op,vI qy.K,vS qy.lh.lu,vS qy.lh.Word,a]∧g=[]∧Sl lx 5 j a qy.Kids):=by
 refine rG i 2 func260 Z (λd=>sg (VE (lY d bG λk u d=>lr (V (mW (v:=vA WW) (nw Z) (mz bG cO (Hj _ cO) kr)) (VO (FA WW.toArray d aD λt d=>lt ?_))))))
 cases sj hm
 exact oW (v:=vA WW) Z Z (lC d.has Mh WW Z bD aD) ⟨_,_,_,Z,d.mB Sn,lM.refl _,Lo.refl,ST.lG d (mJ.mem Sn),vN,Z,Z,Sl.nil _ _ _⟩
theorem QC (h0:oa qe [] qa) (I:Sl lx 5 qe q0 qA) (hm:Gf qb qA=some qB) :
  my true pg0 262 [vI qb,q0] qa qe [] (λv L1 μ1=>∃J,v=J∧L1=[]∧Sl lx 5 μ1 J qB):=by
 refine rG h0 28 func262 Z (λd=>sg (Wa (lr (Wa (lS (Wm ?_))))))
 refine V (mP aJ Z I) (Wm (ln (nM 10 9 (λi js E W=>∃t G k H,ST true (keys []) qa W qe (k++H)∧E 0=vI qb∧E 5=t∧E 8=q0∧mX 36 lx 5 qe t G k∧vL qb js G=some qB) I.len ⟨vN,[],[],_,d.ll,Z,Z,Z,mX.nil _ _ _ _,hm⟩ ?_ ?_)))
 ·rintro b2 a b4 E W a4 ⟨⟨q,s⟩,t,G,k,H,d,x,y,z,u,c⟩
  refine sg (VQ (nI (i:=(b2:Int)) (x0:=a) lx.out aJ aD z q I (aF _) a4) λc5 ⟨_,⟨c6,rfl,D⟩,a2⟩=>V (lq Z (mu d.has a2 bD aD)) (VE (lY d bG λb6 c2 d=>?_)))
  obtain ⟨g,j,rfl⟩:=D.form
  let a0:=C1 a.Op a.K a.lh.lu a.lh.Word g a.Kids.length j
  refine VO (FA a0.toArray d aD λb7 d=>lr (Wf zb (VB d Mh Z Z bK (Wh x (Wi Z (ln (CI c Z (λU c=>?_) λU c=>?_)))))))
  ·refine lI (Wh y (Wf xQ (VB d Mh Z Z fR ?_)))
   have d:=d.perm (Nr (Qb Qz) Nz)
   refine bS c λP Y c=>VE (wW (B:=k) mQ d dc aJ uc.1 uc.2.1 Z uc.2.2.1 uc.2.2.2 Z Z u (EI.sl mQ D d.ns) Y λb9 a9 a5 d Q=>Wa (mh (mx (lE ?_))))
   have d:=d.ll (Kr (Db St))
   exact ⟨q,s,a9,P,a5,_,d.ll,x,Z,z,Q,c⟩
  refine lI (Wh y (VA d Mh a0 bD aD (VE (mn (cs:=a0.toArray) d (nw Z) (nU aJ aD bG) λc0 c3 d=>?_))))
  have d:=d.perm (Nr (Qb (Qb Qz)) Nz)
  refine bS c λa8 M c=>VE (wW (B:=k) mQ d dc aJ uc.1 uc.2.1 Z uc.2.2.1 uc.2.2.2 Z Z u (EI.lit mQ (l:=[a]) (.cons (ys:=C1 a.Op a.K a.lh.lu a.lh.Word g a.Kids.length j) (lx.mk ⟨.slice g a.Kids.length j,Z,D⟩) .nil) Z nb (d.at_ (Ma Mh))) M λc1 b0 O d T=>Wa (mh (mx (lE ?_))))
  have d:=d.ll (Kr (Db (Db St)))
  exact ⟨q,s,b0,a8,O,_,d.ll,x,Z,z,T,c⟩
 rintro E W ⟨⟨q,s⟩,t,G,k,H,d,x,y,z,u,c⟩
 refine lE (sg (Wh y (Wa (lt ?_))))
 cases sj c
 refine ma (v:=t) Z Z ?_
 obtain ⟨c8,d,K,h,a3⟩:=ST.Bb mQ d u
 exact ⟨_,_,_,Z,d.mB Sn,K,h,ST.lG d (mJ.mem Sn),t,Z,Z,a3⟩
theorem Gy (c:Sl lx 5 (hp qa) q0 qy.Kids) (k:At (hp qa) (vP qh) [vI qb]) (hm:yz qy qb=some qf) :
  mo true pg0 263 [vA [vI qy.Op,vI qy.K,vS qy.lh.lu,vS qy.lh.Word,q0],vP qh] qa (vB qf):=by
 refine cG 7 func263 Z (λa=>sg ?_)
 obtain ⟨t,u,rfl⟩:=c.form
 refine VE (mA a Z (λz D a=>Wa (lr (VA a Mh (C1 qy.Op qy.K qy.lh.lu qy.lh.Word t qy.Kids.length u) bD aD (V (lq Z (om a.has (y:=vI qb) k bK)) (bS hm λG x hm=>VE (Eg a call258 (Fg mv x) λB a=>Wa (ln ?_))))))))
 exact lO (rQ hm a)
theorem H7 (I:oa qe [] qa) (a:Sl lx 5 qe q0 qA) (hm:xC qA=some qB) :
  my true pg0 272 [q0] qa qe [] (λv G J=>∃z t,v=z∧G=(t++[])∧mX 36 lx 5 J z qB t):=by
 unfold xC at hm
 refine rG I 8 func272 Z (λd=>sg (Wa (lS (Wm ?_))))
 obtain ⟨D,Q,rfl⟩:=a.form
 refine V (D5 aJ Z Z) (ln ?_)
 rcases D with _ | M
 ·have y:=a.isNil
  replace hm:some []=some qB:=by rw [y] at hm; simpa [oY,maxLen] using hm
  refine xz (rfl) (sg (Wa (lt (mj ?_))))
  cases sj hm
  refine ma (v:=vN) Z Z ?_
  have d:=d.abh
  exact ⟨_,_,_,Z,d.mB (Kr Sn),lM.refl _,Lo.refl,ST.lG d (mJ.mem (Kr Sn)),vN,[],Z,Z,mX.nil _ _ _ _⟩
 ·refine oV (rfl) (kg (VE (mn (cs:=#[]) d pP (Eb [] aJ aD bG dc Z rv Z Z) λN H d=>Wm (bS hm λT x hm=>VE (wW (B:=[(H,Ob #[] 36)]) mQ d dc aJ uc.1 uc.2.1 Z uc.2.2.1 uc.2.2.2 Z Z (mX.lit mQ (l:=[]) .nil Z nb Z) (EI.sl mQ a d.ns) x λK g k d i=>Wa (lt ?_))))))
  cases sj hm
  exact ma (v:=g) Z Z ⟨_,_,_,Z,d.mB (Kr Sn),lM.refl _,Lo.refl,ST.lG d (mJ.mem (Kr Sn)),g,k,Z,Z,i⟩
theorem xy (h0:oa qe (qo++[]) qa) (h4:mX 36 lx 5 qe q0 qA qo) (h5:AQ pg0 q1 qe (An lx lx) (λ(qB:Int)=>vI qB) qZ) (hm:pv qA qb qc qZ=some qB) :
  my false pg0 291 [q0,vI qb,vI qc,q1] qa qe (qo++[]) (λv L1 μ1=>∃S1,v=vT []∧L1=(S1++[])∧mX 36 lx 5 μ1 q0 qB S1):=by
 refine rG h0 53 func291 Z (λq=>sg (Wm (Wi Z (Wa (ln (xl (nO (pE (λm E W=>∃Y J x c9,ST false (keys (qo++[])) qa W qe (J++c9)∧E 0=q0∧E 1=vI qb∧E 2=vI qc∧E 3=q1∧E 8=vI x∧mX 36 lx 5 qe q0 Y J∧oh qc qb qZ m Y x=some qB) mZ ⟨qA,qo,wi0 .i64 (qb+1),_,q.ll,Z,Z,Z,Z,Z,h4,hm⟩ ?_))))))))
 rintro m E W ⟨Y,J,x,c9,q,f9,g0,d1,g1,b5,c6,u⟩
 cases m with
 | zero=>rw [oh] at u; cases u
 | succ h2=>
  refine lH (sg (Wh b5 (Wh d1 (Wi Z (ln (CI u Z (λe9 u=>?_) λe9 u=>?_))))))
  ·refine kn (lH (bg (Wh b5 (Wa (ln (xl (CJ u (λb6 E W=>∃U d0,ST false (keys (qo++[])) qa W qe (U++d0)∧E 0=q0∧E 1=vI qb∧E 2=vI qc∧E 3=q1∧E 8=vI x∧mX 36 lx 5 qe q0 b6 U) (λb6 f1=>?_) ?_)))))))
   ·refine nO (pE (λm E W=>∃M B j b7,ST false (keys (qo++[])) qa W qe (B++b7)∧E 0=q0∧E 1=vI qb∧E 2=vI qc∧E 3=q1∧E 8=vI x∧E 9=vI j∧mX 36 lx 5 qe q0 M B∧nR qb qZ m M j=some b6) mZ ⟨Y,J,x,_,q.ll,f9,g0,d1,g1,b5,Z,c6,f1⟩ ?_)
    rintro m E W ⟨M,B,j,b7,q,K,P,c0,a3,c1,G,t,I⟩
    cases m with
    | zero=>rw [nR] at I; cases I
    | succ f4=>
     refine lH (lH ?_)
     have q:=q.drew
     have d:=q.has.ll (Kr Sn)
     refine mF d lV (X 0 Z d (lz G) (X 1 Z d (lz P) (X 2 Z d (mL Z Z Z) (X 3 Z d (lz Z) (PJ I (λc7 E W=>∃b9,ST false (keys (qo++[])) qa W qe (B++b9)∧E 0=q0∧E 1=vI qb∧E 2=vI qc∧E 3=q1∧E 8=vI x∧E 9=vI j∧E 34=vB c7) (bm 17 131071) 0 ?_ λc7 g a4=>?_)))))
     ·rintro k2 E W ⟨b9,q,z,c2,c3,c4,c5,H,e8⟩ c
      have d:=q.has.ll (Kr Sn)
      refine mG kr (lE (CI c e8 (λd3 c=>?_) λd3 c=>?_))
      ·refine kn (lH (nO ?_))
       have q:=q.drew
       have d:=q.has.ll Sn
       have s:=q.has.ll (Kr Sn)
       refine rW 15 d s lV (nu 0 Z d s (lz z) (nu 1 Z d s (lz H) (nu 2 Z d s (lz z) (nu 3 Z d s (lz H) (nu 4 Z d s (mL Z Z Z) (nu 5 Z d s (lz z) (nu 6 Z d s (lz H) (nu 7 Z d s (mL Z Z Z) (bS c λa5 b0 c=>ym 8 Z kr (.inl Z) Z dc (λ_ _ h=>⟨h.1,uk br h.2⟩) ⟨d,λ_=>s⟩ (nV (i:=wi0 .i64 (j-1)) lx.out aJ aD Z Z t (mK b0) (mE b0)) λi9 ⟨_,⟨j8,rfl,a8⟩,d6,h6⟩=>BU 9 Z d s (λy=>lq Z (mu (oR.hp _) (d6.mono (oz λb o O=>y.2 b o (Ml O))) bD aD)) (nu 10 Z d s (lz z) (nu 11 Z d s (lz H) (bS c λk b1 c=>?_))))))))))))
       refine ym 12 Z kr (.inl Z) Z dc (λ_ _ h=>⟨h.1,uk br h.2⟩) ⟨d,λ_=>s⟩ (nV (i:=j) lx.out aJ aD Z Z t (mK b1) (mE b1)) (λj0 ⟨_,⟨j9,rfl,a9⟩,d7,h7⟩=>BU 13 Z d s (λy=>lq Z (mu (oR.hp _) (d7.mono (oz λb o O=>y.2 b o (Ml O))) bD aD)) (bS c λk3 N c=>ym 14 Z kr (.inl Z) Z dc (λ_ _ h=>⟨h.1,uk br h.2⟩) ⟨d,λ_=>s⟩ (nV (i:=j) lx.out aJ aD Z Z t (mK N) (mE N)) λj3 ⟨_,⟨k0,rfl,i2⟩,i0,d4⟩=>?_))
       obtain ⟨e3,e6,rfl⟩:=a8.form
       refine XO 15 Z (wq (x1:=a5) mQ q t Z Z (lx.mk ⟨.slice e3 a5.Kids.length e6,Z,a8⟩) d4 (mE N) aD λi6 i4 q a7=>?_)
       have d:=q.has.ll Sn
       refine ⟨⟨d,λh=>tC kr h⟩,bS c λk4 Q c=>ym 16 Z kr (.inl Z) Z dc (λ_ _ h=>⟨h.1,uk br h.2⟩) ⟨d,λh=>tC kr h⟩ (nV (i:=wi0 .i64 (j-1)) lx.out aJ aD Z Z a7 (mK Q) (mE Q)) λj4 ⟨_,⟨k1,rfl,i3⟩,i1,d5⟩=>?_⟩
       obtain ⟨e4,e7,rfl⟩:=a9.form
       refine XO 17 Z (wq (x1:=(⟨k.Op,k.K,k.lh,k.Kids⟩:Formula)) mQ q a7 Z Z (lx.mk ⟨.slice e4 k.Kids.length e7,Z,a9⟩) d5 (mE Q) aD λi7 e5 q d2=>?_)
       have d:=q.has.ll Sn
       exact ⟨⟨d,λh=>tC kr h⟩,mG kr (mx (lE (lI (Wh H (Wi Z (Wa (ln ⟨f4,bH _,(M.set (Int.toNat j) a5).set (Int.toNat (wi0 .i64 (j-1))) (⟨k.Op,k.K,k.lh,k.Kids⟩:Formula),e5,wi0 .i64 (j-1),_,q.ll,z,c2,c3,c4,c5,Z,d2,c⟩)))))))⟩
      refine pg (oL (oL (uO (lE ?_))))
      cases sj c
      exact ⟨B,_,q.ll,z,c2,c3,c4,c5,t⟩
     refine bC g (λa g=>?_) (λa g=>?_)
     ·refine Xg 4 Z Z (cB a) d (lz a3) (Xg 5 Z Z (cB a) d (lz K) (Xg 6 Z Z (cB a) d (lz G) (bS g λf7 b2 g=>ym 7 Z kr (.inr ⟨3,true,21,Z,Z,tc,cB a⟩) Z dc (λ_ _ h=>h) d (nV (i:=j) lx.out aJ aD Z Z t (mK b2) (mE b2)) λj5 ⟨_,⟨f5,rfl,e1⟩,d8,h8⟩=>uV 8 Z Z (cB a) d (λ_ y=>lq Z (mu (oR.hp _) (d8.mono (oz λb o O=>y.2 b o (Ml O))) bD aD)) (Xg 9 Z Z (cB a) d (lz K) (Xg 10 Z Z (cB a) d (lz G) (Xg 11 Z Z (cB a) d (mL Z Z Z) (bS g λf8 b3 g=>ym 12 Z kr (.inr ⟨3,true,21,Z,Z,tc,cB a⟩) Z dc (λ_ _ h=>h) d (nV (i:=wi0 .i64 (j-1)) lx.out aJ aD Z Z t (mK b3) (mE b3)) λj6 ⟨_,⟨f6,rfl,e2⟩,d9,h9⟩=>uV 13 Z Z (cB a) d (λ_ y=>lq Z (mu (oR.hp _) (d9.mono (oz λb o O=>y.2 b o (Ml O))) bD aD)) (bS g λj7 e0 g=>CZ 14 Z Z (cB a) (BR (f7,f8) q h5 (lM.refl _) (An.mk mQ mQ (lx.mk ⟨f5,Z,e1⟩) (lx.mk ⟨f6,Z,e2⟩) q.ns) Z (px Z Z) e0 λi8 q=>?_)))))))))
      have d:=q.has.ll (Kr Sn)
      refine ⟨d,Xg 15 Z Z (cB a) d (mL Z Z Z) (X 16 Z d (lQ (cB a) Z) ?_)⟩
      cases sj g
      refine ov kr (a4 _ _ ⟨_,q.ll,K,P,c0,a3,c1,G,Z⟩)
     refine Xn 4 Z Z (cB a) d (Xn 5 Z Z (cB a) d (Xn 6 Z Z (cB a) d (Xn 7 Z Z (cB a) d (Xn 8 Z Z (cB a) d (Xn 9 Z Z (cB a) d (Xn 10 Z Z (cB a) d (Xn 11 Z Z (cB a) d (Xn 12 Z Z (cB a) d (Xn 13 Z Z (cB a) d (Xn 14 Z Z (cB a) d (Xn 15 Z Z (cB a) d (X 16 Z d (lN (cB a) Z) ?_))))))))))))
     cases sj g
     refine ov kr (a4 _ _ ⟨_,q.ll,K,P,c0,a3,c1,G,Z⟩)
   rintro h1 E W ⟨U,d0,q,g2,g3,g4,g7,g8,f2⟩ f0
   exact mx (lE (lI (Wh g8 (Wi Z (Wa (ln ⟨h2,bH _,h1,U,wi0 .i64 (x+1),_,q.ll,g2,g3,g4,g7,Z,f2,f0⟩))))))
  refine pg (oL (oL (uO (lE (rI ?_)))))
  cases sj u
  exact pF Z ⟨_,_,_,Z,q.mB (Kr Sn),lM.refl _,Lo.refl,ST.lG q (mJ.mem (Kr Sn)),J,Z,Z,c6⟩
theorem vw (h0:oa qe (qo++[]) qa) (c0:mX 36 lx 5 qe q0 qA qo) (d5:AQ pg0 q1 qe (An lx lx) (λ(qB:Int)=>vI qB) qZ) (hm:pq qA qb qc qd qZ=some qB) :
  my true pg0 297 [q0,vI qb,vI qc,vI qd,q1] qa qe (qo++[]) (λv L1 μ1=>∃S1,v=vT []∧L1=(S1++[])∧mX 36 lx 5 μ1 q0 qB S1):=by
 refine rG h0 38 func297 Z (λs=>sg (Wa (ln (xl (nO (pE (λm E W=>∃D y c O,ST true (keys (qo++[])) qa W qe (y++O)∧E 0=q0∧E 1=vI qb∧E 2=vI qc∧E 3=vI qd∧E 10=vI c∧mX 36 lx 5 qe q0 D y∧oB qd qc qb m D c=some qB) mZ ⟨qA,qo,0,_,s.ll,Z,Z,Z,Z,Z,c0,hm⟩ ?_))))))
 rintro m E W ⟨D,y,c,O,s,u,I,J,a4,k,j,a⟩
 cases m with
 | zero=>rw [oB] at a; cases a
 | succ c1=>
  refine lH (sg (Wh k (Wh a4 (Wi Z (ln (CI a Z (λa8 a=>?_) λa8 a=>?_))))))
  ·refine kn (lH (nO ?_))
   have s:=s.drew
   have d:=s.has.ll Sn
   have q:=s.has.ll (Kr Sn)
   refine rW 21 d q lV (nu 0 Z d q (lz u) (nu 1 Z d q (lz I) (nu 2 Z d q (lz k) (nu 3 Z d q (mL Z Z Z) (nu 4 Z d q (lz u) (nu 5 Z d q (lz J) (nu 6 Z d q (lz k) (nu 7 Z d q (mL Z Z Z) (nu 8 Z d q (lz u) (nu 9 Z d q (lz J) (nu 10 Z d q (lz k) (nu 11 Z d q (mL Z Z Z) (bS a λK T a=>ym 12 Z kr (.inl Z) Z dc (λ_ _ h=>⟨h.1,uk br h.2⟩) ⟨d,λ_=>q⟩ (nV (i:=wi0 .i64 (qc+c)) lx.out aJ aD Z Z j (mK T) (mE T)) λd6 ⟨_,⟨e0,rfl,N⟩,b1,c4⟩=>?_)))))))))))))
   refine BU 13 Z d q (λt=>lq Z (mu (oR.hp _) (b1.mono (oz λb o x=>t.2 b o (Ml x))) bD aD)) (nu 14 Z d q (lz u) (nu 15 Z d q (lz I) (nu 16 Z d q (lz k) (nu 17 Z d q (mL Z Z Z) (bS a λg U a=>ym 18 Z kr (.inl Z) Z dc (λ_ _ h=>⟨h.1,uk br h.2⟩) ⟨d,λ_=>q⟩ (nV (i:=wi0 .i64 (qb+c)) lx.out aJ aD Z Z j (mK U) (mE U)) λd7 ⟨_,⟨e1,rfl,Q⟩,b2,c5⟩=>BU 19 Z d q (λt=>lq Z (mu (oR.hp _) (b2.mono (oz λb o x=>t.2 b o (Ml x))) bD aD)) (bS a λe5 z a=>ym 20 Z kr (.inl Z) Z dc (λ_ _ h=>⟨h.1,uk br h.2⟩) ⟨d,λ_=>q⟩ (nV (i:=wi0 .i64 (qb+c)) lx.out aJ aD Z Z j (mK z) (mE z)) λd8 ⟨_,⟨e2,rfl,c8⟩,c6,a9⟩=>?_))))))
   let P:=(⟨g.Op,g.K,g.lh,g.Kids⟩:Formula)
   obtain ⟨b3,b7,rfl⟩:=N.form
   refine XO 21 Z (wq (x1:=K) mQ s j Z Z (lx.mk ⟨.slice b3 K.Kids.length b7,Z,N⟩) a9 (mE z) aD λd2 d1 s M=>?_)
   have d:=s.has.ll Sn
   refine ⟨⟨d,λh=>tC kr h⟩,bS a λe6 B a=>ym 22 Z kr (.inl Z) Z dc (λ_ _ h=>⟨h.1,uk br h.2⟩) ⟨d,λh=>tC kr h⟩ (nV (i:=wi0 .i64 (qc+c)) lx.out aJ aD Z Z M (mK B) (mE B)) λd9 ⟨_,⟨e3,rfl,c9⟩,c7,b0⟩=>?_⟩
   obtain ⟨b4,b9,rfl⟩:=Q.form
   refine XO 23 Z (wq (x1:=P) mQ s M Z Z (lx.mk ⟨.slice b4 g.Kids.length b9,Z,Q⟩) b0 (mE B) aD λd3 b5 s Y=>?_)
   have d:=s.has.ll Sn
   exact ⟨⟨d,λh=>tC kr h⟩,mG kr (mx (lE (lI (Wh k (Wi Z (Wa (ln ⟨c1,bH _,(D.set (Int.toNat (wi0 .i64 (qb+c))) K).set (Int.toNat (wi0 .i64 (qc+c))) P,b5,wi0 .i64 (c+1),_,s.ll,u,I,J,a4,Z,Y,a⟩)))))))⟩
  refine pg (oL (oL (uO (lE (rI ?_)))))
  cases sj a
  exact pF Z ⟨_,_,_,Z,s.mB (Kr Sn),lM.refl _,Lo.refl,ST.lG s (mJ.mem (Kr Sn)),y,Z,Z,j⟩
theorem En (h0:oa qe (qo++[]) qa) (c5:mX 36 lx 5 qe q0 qA qo) (Q:AQ pg0 q1 qe (An lx lx) (λ(qB:Int)=>vI qB) qZ) (hm:pB qA qb qc qd qZ=some qB) :
  my true pg0 295 [q0,vI qb,vI qc,vI qd,q1] qa qe (qo++[]) (λv L1 μ1=>∃S1,v=vT []∧L1=(S1++[])∧mX 36 lx 5 μ1 q0 qB S1):=by
 refine rG h0 58 func295 Z (λd=>sg (Wm (Wm (Wi Z (Wa (lr (Wm (Wm (Wi Z (Wa ?_))))))))))
 refine ln (lH (nO (pE (λm E W=>∃z x c t I Y,lM qe I∧Lo (keys (qo++[])) qa qe I∧ST true (keys (qo++[])) qa W I (x++Y)∧E 0=q0∧E 2=vI qc∧E 4=q1∧E 10=vI c∧E 11=vI t∧mX 36 lx 5 I q0 z x∧oQ qc qZ m z c t=some qB) mZ ⟨qA,qo,wi0 .i64 (qc-qb),wi0 .i64 (qd-qc),qe,_,lM.refl _,Lo.refl,d.ll,Z,Z,Z,Z,Z,c5,hm⟩ ?_)))
 rintro m E W ⟨z,x,c,t,I,Y,i,h,d,G,j,H,g,u,J,a⟩
 let a2:=wi0 .i64 (qc-c)
 cases m with
 | zero=>rw [oQ] at a; cases a
 | succ O=>
  refine lH (sg (Wh g (Wh u (Wi Z (ln (CI a Z (λU a=>?_) λU a=>?_))))))
  ·refine kn (bg (Wh g (Wh u (Wi Z (ln (CI a Z (λb1 a=>?_) λb1 a=>?_))))))
   ·refine sg (Wh G (Wh j (Wh g (Wi Z (Wh j (Wh u (Wh H (bS a λc6 b2 a=>?_))))))))
    refine VE (eD d (Cr Qz Cn) call297 (λy=>vw y J (Q.mono i) b2) ?_)
    rintro _ e0 c8 d2 d P k ⟨b9,K,rfl,b5⟩
    cases K
    have d:=d.perm (Tr Tn)
    exact ln (lI (Wh g (Wh u (Wi Z (Wa (mh (mx (lE ⟨O,bH _,c6,b9,wi0 .i64 (c-t),t,c8,_,i.trans P,h.trans k,d.ll,G,j,H,Z,u,b5,a⟩))))))))
   refine sg (Wh G (Wh j (Wh g (Wi Z (Wh j (Wh u (Wi Z (Wh g (Wi Z (Wh g (Wh H (bS a λc7 b3 a=>?_))))))))))))
   refine VE (eD d (Cr Qz Cn) call297 (λy=>vw y J (Q.mono i) b3) ?_)
   rintro _ e1 c9 d3 d a4 q ⟨c0,M,rfl,b6⟩
   cases M
   have d:=d.perm (Tr Tn)
   exact ln (lI (Wh u (Wh g (Wi Z (Wa (mh (mx (lE ⟨O,bH _,c7,c0,c,wi0 .i64 (t-c),c9,_,i.trans a4,h.trans q,d.ll,G,j,H,g,Z,b6,a⟩))))))))
  refine pg (oL (oL (uO (lE (lI (Wh G (Wh j (Wh g (Wi Z (Wh j (Wh g (Wh H (bS a λd9 b4 a=>?_)))))))))))))
  refine VE (eD d (Cr Qz Cn) call297 (λy=>vw y J (Q.mono i) b4) ?_)
  rintro _ e2 e4 d4 d a5 s ⟨c1,N,rfl,b7⟩
  cases N
  have d:=d.perm (Tr Tn)
  refine mh (rI ?_)
  cases sj a
  exact pF Z ⟨_,_,_,Z,d.mB (Kr Sn),i.trans a5,h.trans s,ST.lG d (mJ.mem (Kr Sn)),c1,Z,Z,b7⟩
set_option maxHeartbeats 4000000 in
theorem B0 (t6:(List Formula)→Int→Int→Int→((Formula×Formula)→Option Int)→Option (List Formula)) (s6:∀(t:Value) (a0:List Formula) (c:LO) (z:Int) (M:Int) (B:Int) (D:Value) (f4:(Formula×Formula)→Option Int) (r:List Formula) (w:World) {U:mO} (h0:oa U (c++[]) w) (a5:mX 36 lx 5 U t a0 c) (c6:AQ pg0 D U (An lx lx) (λ(r:Int)=>vI r) f4),t6 a0 z M B f4=some r→my false pg0 292 [t,vI z,vI M,vI B,D] w U (c++[]) λv L1 μ1=>∃S1,v=vT []∧L1=(S1++[])∧mX 36 lx 5 μ1 t r S1) (t:Value) (a0:List Formula) (c:LO) (z M B:Int) (D:Value) (f4:(Formula×Formula)→Option Int) (r:List Formula) (w:World) {U:mO} (h0:oa U (c++[]) w) (a5:mX 36 lx 5 U t a0 c) (c6:AQ pg0 D U (An lx lx) (λ(r:Int)=>vI r) f4) (hm:ui t6 a0 z M B f4=some r) :
  my false pg0 292 [t,vI z,vI M,vI B,D] w U (c++[]) (λv L1 μ1=>∃S1,v=vT []∧L1=(S1++[])∧mX 36 lx 5 μ1 t r S1):=by
 refine rG h0 220 func292 Z (λd=>lH (sg (Wm (Wm (Wi Z (Wi Z (ln (CI hm Z (λae hm=>?_) λae hm=>?_))))))))
 ·refine sg (Wm (Wa (lr (Wm (Wa (ln (lH (nO (pE (λm E W=>∃T a9 o3,ST false (keys (c++[])) w W U (c++o3)∧E 0=t∧E 1=vI z∧E 4=D∧E 10=vI T∧E 11=vI a9∧nF a0 z f4 m T a9=some r) mZ ⟨M,B,_,d.ll,Z,Z,Z,Z,Z,hm⟩ ?_)))))))))
  rintro m E W ⟨T,a9,o3,d,e4,h8,k3,h9,k4,y⟩
  cases m with
  | zero=>rw [nF] at y; cases y
  | succ t5=>
   refine lH (sg (Wh h9 (Wh k4 (Wi Z (ln (CI y Z (λw9 y=>?_) λw9 y=>?_))))))
   ·refine kn (bg (Wh h9 (Wh k4 (Wi Z (V (uI (k':=.i64) (a:=wi0 .i64 (T+a9)) dT fO Z) (V (JM (a:=IntKind.u64.wrap (wi0 .i64 (T+a9))) (b:=1) Z Z dc) (V (uI (k':=.u64) (a:=Int.fdiv (IntKind.u64.wrap (wi0 .i64 (T+a9))) (2 ^ min (Int.toNat 1) (IntKind.bits .u64))) fO dT Z) (Wa (ln (lH ?_))))))))))
    let e3:=Int.fdiv (IntKind.u64.wrap (wi0 .i64 (T+a9))) (2 ^ min (Int.toNat 1) (IntKind.bits .u64))
    have d:=d.drew
    have q:=d.has.ll (Kr Sn)
    refine mF q lV (X 0 Z q (lz k3) (X 1 Z q (lz e4) (X 2 Z q (lz Z) (bS y λaa n1 y=>XQ 3 Z q (nV (i:=wi0 .i64 e3) lx.out aJ aD Z Z a5 (mK n1) (mE n1)) λdi ⟨_,⟨z7,rfl,x7⟩,x4,bp⟩=>XH 4 Z q (λ_ P=>lq Z (mu (oR.hp _) (x4.mono (oz λb o hq=>P.2 b o (Ml hq))) bD aD)) (X 5 Z q (lz e4) (X 6 Z q (lz h8) (bS y λab n2 y=>XQ 7 Z q (nV (i:=z) lx.out aJ aD Z Z a5 (mK n2) (mE n2)) λdj ⟨_,⟨z8,rfl,x8⟩,x5,bq⟩=>XH 8 Z q (λ_ P=>lq Z (mu (oR.hp _) (x5.mono (oz λb o hq=>P.2 b o (Ml hq))) bD aD)) (bS y λdk x6 y=>XE 9 Z (BR (aa,ab) d c6 (lM.refl _) (An.mk mQ mQ (lx.mk ⟨z7,Z,x7⟩) (lx.mk ⟨z8,Z,x8⟩) d.ns) Z (px Z Z) x6 λdg d=>?_)))))))))
    have q:=d.has.ll (Kr Sn)
    refine ⟨q,X 10 Z q (mL Z Z Z) (mG kr (lE (CI y Z (λx0 y=>?_) λx0 y=>?_)))⟩
    ·exact lI (Wm (Wi Z (Wa (mh (mx (lE ⟨t5,bH _,wi0 .i64 ((wi0 .i64 e3)+1),a9,_,d.ll,e4,h8,k3,Z,k4,y⟩))))))
    exact lI (Wm (Wa (mh (mx (lE ⟨t5,bH _,T,wi0 .i64 e3,_,d.ll,e4,h8,k3,h9,Z,y⟩)))))
   refine pg (oL (oL (uO (lE (lH (sg (Wh h8 (Wa (ln (CJ y (λk5 E W=>∃f7 o4,ST false (keys (c++[])) w W U (f7++o4)∧mX 36 lx 5 U t k5 f7) (λk5 x3=>?_) ?_))))))))))
   ·refine nO (pE (λm E W=>∃i0 f8 b0 k6,ST false (keys (c++[])) w W U (f8++k6)∧E 0=t∧E 10=vI T∧E 13=vI b0∧mX 36 lx 5 U t i0 f8∧oF T m i0 b0=some k5) mZ ⟨a0,c,z,_,d.ll,e4,h9,Z,a5,x3⟩ ?_)
    rintro m E W ⟨i0,f8,b0,k6,d,c7,l7,c0,d1,u⟩
    cases m with
    | zero=>rw [oF] at u; cases u
    | succ y2=>
     refine lH (sg (Wh c0 (Wh l7 (Wi Z (Wi Z (ln (CI u Z (λp1 u=>?_) λp1 u=>?_)))))))
     ·refine kn (lH (nO ?_))
      have d:=d.drew
      have q:=d.has.ll Sn
      have s:=d.has.ll (Kr Sn)
      refine rW 15 q s lV (nu 0 Z q s (lz c7) (nu 1 Z q s (lz c0) (nu 2 Z q s (lz c7) (nu 3 Z q s (lz c0) (nu 4 Z q s (mL Z Z Z) (nu 5 Z q s (lz c7) (nu 6 Z q s (lz c0) (nu 7 Z q s (mL Z Z Z) (bS u λi3 j5 u=>ym 8 Z kr (.inl Z) Z dc (λ_ _ h=>⟨h.1,uk (by rfl) h.2⟩) ⟨q,λ_=>s⟩ (nV (i:=wi0 .i64 (b0+1)) lx.out aJ aD Z Z d1 (mK j5) (mE j5)) λbt ⟨_,⟨cl,rfl,i7⟩,r3,af⟩=>BU 9 Z q s (λP=>lq Z (mu (oR.hp _) (r3.mono (oz λb o hq=>P.2 b o (Ml hq))) bD aD)) (nu 10 Z q s (lz c7) (nu 11 Z q s (lz c0) (bS u λY j6 u=>?_))))))))))))
      refine ym 12 Z kr (.inl Z) Z dc (λ_ _ h=>⟨h.1,uk (by rfl) h.2⟩) ⟨q,λ_=>s⟩ (nV (i:=b0) lx.out aJ aD Z Z d1 (mK j6) (mE j6)) (λbu ⟨_,⟨cm,rfl,i8⟩,r4,ag⟩=>BU 13 Z q s (λP=>lq Z (mu (oR.hp _) (r4.mono (oz λb o hq=>P.2 b o (Ml hq))) bD aD)) (bS u λcw e9 u=>ym 14 Z kr (.inl Z) Z dc (λ_ _ h=>⟨h.1,uk (by rfl) h.2⟩) ⟨q,λ_=>s⟩ (nV (i:=b0) lx.out aJ aD Z Z d1 (mK e9) (mE e9)) λbv ⟨_,⟨cn,rfl,ar⟩,an,ea⟩=>?_))
      obtain ⟨t7,u6,rfl⟩:=i7.form
      refine XO 15 Z (wq (x1:=i3) mQ d d1 Z Z (lx.mk ⟨.slice t7 i3.Kids.length u6,Z,i7⟩) ea (mE e9) aD λbe bc d i5=>?_)
      have q:=d.has.ll Sn
      refine ⟨⟨q,λh=>tC kr h⟩,bS u λcx f0 u=>ym 16 Z kr (.inl Z) Z dc (λ_ _ h=>⟨h.1,uk (by rfl) h.2⟩) ⟨q,λh=>tC kr h⟩ (nV (i:=wi0 .i64 (b0+1)) lx.out aJ aD Z Z i5 (mK f0) (mE f0)) λbw ⟨_,⟨co,rfl,au⟩,ao,eb⟩=>?_⟩
      obtain ⟨t8,u7,rfl⟩:=i8.form
      refine XO 17 Z (wq (x1:=(⟨Y.Op,Y.K,Y.lh,Y.Kids⟩:Formula)) mQ d i5 Z Z (lx.mk ⟨.slice t8 Y.Kids.length u7,Z,i8⟩) eb (mE f0) aD λbf u1 d o9=>?_)
      have q:=d.has.ll Sn
      exact ⟨⟨q,λh=>tC kr h⟩,mG kr (mx (lE (lI (Wh c0 (Wi Z (Wa (ln ⟨y2,bH _,(i0.set (Int.toNat b0) i3).set (Int.toNat (wi0 .i64 (b0+1))) (⟨Y.Op,Y.K,Y.lh,Y.Kids⟩:Formula),u1,wi0 .i64 (b0+1),_,d.ll,c7,l7,Z,o9,u⟩)))))))⟩
     refine pg (oL (oL (uO (lE ?_))))
     have O:=sj u; subst O
     exact ⟨f8,_,d.ll,d1⟩
   rintro dh E W ⟨f7,o4,d,x9⟩ x2
   refine lO (mj ?_)
   have O:=sj x2; subst O
   exact pF Z ⟨_,_,_,Z,d.mB (Kr Sn),lM.refl _,Lo.refl,ST.lG d (mJ.mem (Kr Sn)),f7,Z,Z,x9⟩
 refine kS (Wm (Wm (Wi Z (Wi Z (ln (CI hm Z (λp2 hm=>?_) λp2 hm=>?_))))))
 ·refine sg (Wm (Wa (lr (Wm (Wa (ln (lH (nO (pE (λm E W=>∃G N k7,ST false (keys (c++[])) w W U (c++k7)∧E 0=t∧E 2=vI M∧E 4=D∧E 14=vI G∧E 15=vI N∧nG a0 M f4 m G N=some r) mZ ⟨z,M,_,d.ll,Z,Z,Z,Z,Z,hm⟩ ?_)))))))))
  rintro m E W ⟨G,N,k7,d,c8,d5,f9,d6,g0,j⟩
  let j1:=IntKind.u64.wrap (wi0 .i64 (G+N))
  let b8:=Int.fdiv j1 (2 ^ min (Int.toNat 1) (IntKind.bits .u64))
  cases m with
  | zero=>rw [nG] at j; cases j
  | succ n3=>
   refine lH (sg (Wh d6 (Wh g0 (Wi Z (ln (CI j Z (λp3 j=>?_) λp3 j=>?_))))))
   ·refine kn (bg (Wh d6 (Wh g0 (Wi Z (V (uI (k':=.i64) (a:=wi0 .i64 (G+N)) dT fO Z) (V (JM (a:=j1) (b:=1) Z Z dc) (V (uI (k':=.u64) (a:=Int.fdiv j1 (2 ^ min (Int.toNat 1) (IntKind.bits .u64))) fO dT Z) (Wa (ln (lH ?_))))))))))
    have d:=d.drew
    have q:=d.has.ll (Kr Sn)
    refine mF q lV (X 0 Z q (lz f9) (X 1 Z q (lz c8) (X 2 Z q (lz d5) (bS j λy8 j7 j=>XQ 3 Z q (nV (i:=M) lx.out aJ aD Z Z a5 (mK j7) (mE j7)) λbx ⟨_,⟨y4,rfl,s7⟩,r5,ah⟩=>XH 4 Z q (λ_ P=>lq Z (mu (oR.hp _) (r5.mono (oz λb o hq=>P.2 b o (Ml hq))) bD aD)) (X 5 Z q (lz c8) (X 6 Z q (lz Z) (bS j λy9 j8 j=>XQ 7 Z q (nV (i:=wi0 .i64 b8) lx.out aJ aD Z Z a5 (mK j8) (mE j8)) λbz ⟨_,⟨y5,rfl,s8⟩,r6,ai⟩=>XH 8 Z q (λ_ P=>lq Z (mu (oR.hp _) (r6.mono (oz λb o hq=>P.2 b o (Ml hq))) bD aD)) (bS j λcg s1 j=>XE 9 Z (BR (y8,y9) d c6 (lM.refl _) (An.mk mQ mQ (lx.mk ⟨y4,Z,s7⟩) (lx.mk ⟨y5,Z,s8⟩) d.ns) Z (px Z Z) s1 λbh d=>?_)))))))))
    have q:=d.has.ll (Kr Sn)
    refine ⟨q,X 10 Z q (mL Z Z Z) (X 11 Z q (nK Z) (mG kr (lE (CI j Z (λp4 j=>?_) λp4 j=>?_))))⟩
    ·exact lI (Wm (Wi Z (Wa (mh (mx (lE ⟨n3,bH _,wi0 .i64 ((wi0 .i64 b8)+1),N,_,d.ll,c8,d5,f9,Z,g0,j⟩))))))
    exact lI (Wm (Wa (mh (mx (lE ⟨n3,bH _,G,wi0 .i64 b8,_,d.ll,c8,d5,f9,d6,Z,j⟩)))))
   refine pg (oL (oL (uO (lE (lH (sg (Wh d5 (Wa (ln (CJ j (λi1 E W=>∃d3 k8,ST false (keys (c++[])) w W U (d3++k8)∧mX 36 lx 5 U t i1 d3) (λi1 eh=>?_) ?_))))))))))
   ·refine nO (pE (λm E W=>∃e2 d4 Q k9,ST false (keys (c++[])) w W U (d4++k9)∧E 0=t∧E 14=vI G∧E 17=vI Q∧mX 36 lx 5 U t e2 d4∧oE G m e2 Q=some i1) mZ ⟨a0,c,M,_,d.ll,c8,d6,Z,a5,eh⟩ ?_)
    rintro m E W ⟨e2,d4,Q,k9,d,c9,l8,c1,b6,x⟩
    cases m with
    | zero=>rw [oE] at x; cases x
    | succ y3=>
     refine lH (sg (Wh c1 (Wh l8 (Wi Z (ln (CI x Z (λp5 x=>?_) λp5 x=>?_))))))
     ·refine kn (lH (nO ?_))
      have d:=d.drew
      have q:=d.has.ll Sn
      have s:=d.has.ll (Kr Sn)
      refine rW 15 q s lV (nu 0 Z q s (lz c9) (nu 1 Z q s (lz c1) (nu 2 Z q s (lz c9) (nu 3 Z q s (lz c1) (nu 4 Z q s (mL Z Z Z) (nu 5 Z q s (lz c9) (nu 6 Z q s (lz c1) (nu 7 Z q s (mL Z Z Z) (bS x λi4 j9 x=>ym 8 Z kr (.inl Z) Z dc (λ_ _ h=>⟨h.1,uk (by rfl) h.2⟩) ⟨q,λ_=>s⟩ (nV (i:=wi0 .i64 (Q-1)) lx.out aJ aD Z Z b6 (mK j9) (mE j9)) λca ⟨_,⟨cp,rfl,i9⟩,r7,aj⟩=>BU 9 Z q s (λP=>lq Z (mu (oR.hp _) (r7.mono (oz λb o hq=>P.2 b o (Ml hq))) bD aD)) (nu 10 Z q s (lz c9) (nu 11 Z q s (lz c1) (bS x λZq k0 x=>?_))))))))))))
      refine ym 12 Z kr (.inl Z) Z dc (λ_ _ h=>⟨h.1,uk (by rfl) h.2⟩) ⟨q,λ_=>s⟩ (nV (i:=Q) lx.out aJ aD Z Z b6 (mK k0) (mE k0)) (λcb ⟨_,⟨cq,rfl,j0⟩,r8,ak⟩=>BU 13 Z q s (λP=>lq Z (mu (oR.hp _) (r8.mono (oz λb o hq=>P.2 b o (Ml hq))) bD aD)) (bS x λcy f1 x=>ym 14 Z kr (.inl Z) Z dc (λ_ _ h=>⟨h.1,uk (by rfl) h.2⟩) ⟨q,λ_=>s⟩ (nV (i:=Q) lx.out aJ aD Z Z b6 (mK f1) (mE f1)) λcc ⟨_,⟨cr,rfl,av⟩,ap,ec⟩=>?_))
      obtain ⟨t9,u8,rfl⟩:=i9.form
      refine XO 15 Z (wq (x1:=i4) mQ d b6 Z Z (lx.mk ⟨.slice t9 i4.Kids.length u8,Z,i9⟩) ec (mE f1) aD λbi bd d i6=>?_)
      have q:=d.has.ll Sn
      refine ⟨⟨q,λh=>tC kr h⟩,bS x λcz f2 x=>ym 16 Z kr (.inl Z) Z dc (λ_ _ h=>⟨h.1,uk (by rfl) h.2⟩) ⟨q,λh=>tC kr h⟩ (nV (i:=wi0 .i64 (Q-1)) lx.out aJ aD Z Z i6 (mK f2) (mE f2)) λcd ⟨_,⟨cs,rfl,aw⟩,aq,ef⟩=>?_⟩
      obtain ⟨u0,u9,rfl⟩:=j0.form
      refine XO 17 Z (wq (x1:=(⟨Zq.Op,Zq.K,Zq.lh,Zq.Kids⟩:Formula)) mQ d i6 Z Z (lx.mk ⟨.slice u0 Zq.Kids.length u9,Z,j0⟩) ef (mE f2) aD λbj u2 d p0=>?_)
      have q:=d.has.ll Sn
      exact ⟨⟨q,λh=>tC kr h⟩,mG kr (mx (lE (lI (Wh c1 (Wi Z (Wa (ln ⟨y3,bH _,(e2.set (Int.toNat Q) i4).set (Int.toNat (wi0 .i64 (Q-1))) (⟨Zq.Op,Zq.K,Zq.lh,Zq.Kids⟩:Formula),u2,wi0 .i64 (Q-1),_,d.ll,c9,l8,Z,p0,x⟩)))))))⟩
     refine pg (oL (oL (uO (lE ?_))))
     have O:=sj x; subst O
     exact ⟨d4,_,d.ll,b6⟩
   rintro bs E W ⟨d3,k8,d,s9⟩ eg
   refine lO (mj ?_)
   have O:=sj eg; subst O
   exact pF Z ⟨_,_,_,Z,d.mB (Kr Sn),lM.refl _,Lo.refl,ST.lG d (mJ.mem (Kr Sn)),d3,Z,Z,s9⟩
 let g5:=IntKind.u64.wrap (wi0 .i64 (z+B))
 refine kg (Wm (Wm (Wi Z (V (uI (k':=.i64) (a:=wi0 .i64 (z+B)) dT fO Z) (V (JM (a:=g5) (b:=1) Z Z dc) (V (uI (k':=.u64) (a:=Int.fdiv g5 (2 ^ min (Int.toNat 1) (IntKind.bits .u64))) fO dT Z) (Wa (lr ?_))))))))
 let a1:=wi0 .i64 (Int.fdiv g5 (2 ^ min (Int.toNat 1) (IntKind.bits .u64)))
 let e5:=wi0 .i64 (a1+M)
 refine Wm (Wm (Wi Z (Wa (lr (Wa (Wa (ln (lH (CJ hm (λi2 E W=>∃l0,ST false (keys (c++[])) w W U (c++l0)∧E 0=t∧E 1=vI z∧E 2=vI M∧E 3=vI B∧E 4=D∧E 18=vI a1∧E 19=vI e5∧E 20=vI i2.1∧E 21=vI i2.2) (λi2 b5=>?_) ?_)))))))))
 ·refine sg (Wm (Wm (Wi Z (ln (CI b5 Z (λds b5=>?_) λds b5=>?_)))))
  ·refine sg (Wm (Wm (Wi Z (Wa (ln (lI (Wm (Wa (ln ?_)))))))))
   have O:=sj b5; subst O
   exact ⟨_,d.ll,Z,Z,Z,Z,Z,Z,Z,Z,Z⟩
  refine sg (Wm (Wa (ln (lI (Wm (Wa (ln ?_)))))))
  have O:=sj b5; subst O
  exact ⟨_,d.ll,Z,Z,Z,Z,Z,Z,Z,Z,Z⟩
 rintro ⟨z0,z1⟩ E W ⟨l0,d,v0,v1,v2,v3,v4,v5,l9,v6,v7⟩ ek
 refine sg (Wh l9 (Wi Z (Wa (ln (lH (nO (pE (λm E W=>∃g K l1,ST false (keys (c++[])) w W U (c++l1)∧E 0=t∧E 1=vI z∧E 2=vI M∧E 3=vI B∧E 4=D∧E 18=vI a1∧E 19=vI e5∧E 20=vI g∧E 21=vI K∧E 22=vI (wi0 .i64 (e5-1))∧nr a0 z B M f4 t6 m g K=some r) mZ ⟨z0,z1,_,d.ll,v0,v1,v2,v3,v4,v5,l9,v6,v7,Z,ek⟩ ?_)))))))
 rintro m E W ⟨g,K,l1,d,c2,d7,c3,d8,d0,d9,g1,b1,g2,g3,k⟩
 let g6:=IntKind.u64.wrap (wi0 .i64 (g+K))
 let a3:=Int.fdiv g6 (2 ^ min (Int.toNat 1) (IntKind.bits .u64))
 let j2:=wi0 .i64 a3
 let a2:=wi0 .i64 (e5-g)
 cases m with
 | zero=>rw [nr] at k; cases k
 | succ n4=>
  refine lH (sg (Wh b1 (Wh g2 (Wi Z (ln (CI k Z (λp6 k=>?_) λp6 k=>?_))))))
  ·refine kn (bg (Wh b1 (Wh g2 (Wi Z (V (uI (k':=.i64) (a:=wi0 .i64 (g+K)) dT fO Z) (V (JM (a:=g6) (b:=1) Z Z dc) (V (uI (k':=.u64) (a:=Int.fdiv g6 (2 ^ min (Int.toNat 1) (IntKind.bits .u64))) fO dT Z) (Wa (ln (lH ?_))))))))))
   have d:=d.drew
   have q:=d.has.ll (Kr Sn)
   refine mF q lV (X 0 Z q (lz d0) (X 1 Z q (lz c2) (X 2 Z q (lz g3) (X 3 Z q (lz Z) (X 4 Z q (mL Z Z Z) (bS k λz2 k1 k=>XQ 5 Z q (nV (i:=wi0 .i64 ((wi0 .i64 (e5-1))-j2)) lx.out aJ aD Z Z a5 (mK k1) (mE k1)) λce ⟨_,⟨y6,rfl,t0⟩,r9,al⟩=>XH 6 Z q (λ_ P=>lq Z (mu (oR.hp _) (r9.mono (oz λb o hq=>P.2 b o (Ml hq))) bD aD)) (X 7 Z q (lz c2) (X 8 Z q (lz Z) (bS k λz3 k2 k=>XQ 9 Z q (nV (i:=wi0 .i64 a3) lx.out aJ aD Z Z a5 (mK k2) (mE k2)) λcf ⟨_,⟨y7,rfl,t1⟩,s0,am⟩=>XH 10 Z q (λ_ P=>lq Z (mu (oR.hp _) (s0.mono (oz λb o hq=>P.2 b o (Ml hq))) bD aD)) (bS k λch s2 k=>?_))))))))))
   refine XE 11 Z (BR (z2,z3) d c6 (lM.refl _) (An.mk mQ mQ (lx.mk ⟨y6,Z,t0⟩) (lx.mk ⟨y7,Z,t1⟩) d.ns) Z (px Z Z) s2 λbk d=>?_)
   have q:=d.has.ll (Kr Sn)
   refine ⟨q,X 12 Z q (mL Z Z Z) (X 13 Z q (nK Z) (mG kr (lE (CI k Z (λp7 k=>?_) λp7 k=>?_))))⟩
   ·exact lI (Wm (Wi Z (Wa (mh (mx (lE ⟨n4,bH _,wi0 .i64 (j2+1),K,_,d.ll,c2,d7,c3,d8,d0,d9,g1,Z,g2,g3,k⟩))))))
   exact lI (Wm (Wa (mh (mx (lE ⟨n4,bH _,g,j2,_,d.ll,c2,d7,c3,d8,d0,d9,g1,b1,Z,g3,k⟩)))))
  refine pg (oL (oL (uO (lE (sg (Wh g1 (Wh b1 (Wi Z (Wa (ln (lH (CJ k (λn8 E W=>∃b7 a4 l2,lM U a4∧Lo (keys (c++[])) w U a4∧ST false (keys (c++[])) w W a4 (b7++l2)∧E 0=t∧E 1=vI z∧E 3=vI B∧E 4=D∧E 18=vI a1∧E 20=vI g∧E 24=vI a2∧mX 36 lx 5 a4 t n8 b7) (λn8 r2=>?_) ?_))))))))))))
  ·refine sg (Wh b1 (Wh c3 (Wi Z (Wm (LJ r2 (λn9 E W=>∃l6,ST false (keys (c++[])) w W U (c++l6)∧E 0=t∧E 1=vI z∧E 2=vI M∧E 3=vI B∧E 4=D∧E 18=vI a1∧E 20=vI g∧E 24=vI a2∧E 185=vB n9) 4 ?_ λn9 b4 f6=>?_)))))
   ·rintro de E W ⟨l6,d,h4,m8,w7,m9,h5,n0,h6,h7,w8⟩ a8
    refine ln (CI a8 w8 (λcS a8=>?_) λcS a8=>?_)
    ·refine lI (Wh h4 (Wh h6 (Wh w7 (Wh h7 (Wh h5 (bS a8 λck s5 a8=>?_))))))
     refine VE (eD d (Cr Qz Cn) call295 (λhh=>my.mN (En hh a5 mv s5)) ?_)
     rintro _ cv z5 ba d o2 bo ⟨u5,e8,rfl,t4⟩
     cases e8
     have d:=d.perm (Tr Tn)
     refine ln ?_
     have O:=sj a8; subst O
     exact ⟨u5,z5,_,o2,bo,d.ll,h4,m8,m9,h5,n0,h6,h7,t4⟩
    refine kn ?_
    have O:=sj a8; subst O
    exact ⟨c,U,_,lM.refl _,Lo.refl,d.ll,h4,m8,m9,h5,n0,h6,h7,a5⟩
   refine bC b4 (λJ b4=>?_) (λJ b4=>?_)
   ·refine ug J (lz c3) (ug J (lz Z) (ug J (mL Z Z Z) (V (lQ (cB J) Z) ?_)))
    have O:=sj b4; subst O
    exact f6 _ _ ⟨_,d.ll,c2,d7,c3,d8,d0,d9,b1,Z,Z⟩
   refine un J (un J (un J (V (lN (cB J) Z) ?_)))
   have O:=sj b4; subst O
   exact f6 _ _ ⟨_,d.ll,c2,d7,c3,d8,d0,d9,b1,Z,Z⟩
  rintro y0 E W ⟨b7,a4,l2,c4,ad,d,m0,g4,m1,m2,g7,e0,m3,j3⟩ en
  refine lH (CJ en (λn6 E W=>∃b9 c5 l3,lM a4 c5∧Lo (keys (c++[])) w a4 c5∧ST false (keys (c++[])) w W c5 (b9++l3)∧E 0=t∧E 3=vI B∧E 4=D∧E 18=vI a1∧E 24=vI a2∧mX 36 lx 5 c5 t n6 b9) (λn6 r1=>?_) ?_)
  ·refine sg (Wh g4 (Wh e0 (Wi Z (Wm (LJ r1 (λn7 E W=>∃l5,ST false (keys (c++[])) w W a4 (b7++l5)∧E 0=t∧E 1=vI z∧E 3=vI B∧E 4=D∧E 18=vI a1∧E 20=vI g∧E 24=vI a2∧E 199=vB n7) 4 ?_ λn7 b3 f5=>?_)))))
   ·rintro db E W ⟨l5,d,h1,w4,m6,h2,h3,w5,m7,w6⟩ a7
    refine ln (CI a7 w6 (λp9 a7=>?_) λp9 a7=>?_)
    ·refine lI (Wh h1 (Wh w4 (Wh w5 (Wh h3 (Wh h2 (bS a7 λcj s4 a7=>?_))))))
     refine VE (eD d (Cr Qz Cn) call292 (λhh=>s6 t y0 b7 z g a1 D f4 _ _ hh j3 (c6.mono c4) s4) ?_)
     rintro _ cu z4 az d o1 bn ⟨u4,e7,rfl,t3⟩
     cases e7
     have d:=d.perm (Tr Tn)
     refine ln ?_
     have O:=sj a7; subst O
     exact ⟨u4,z4,_,o1,bn,d.ll,h1,m6,h2,h3,m7,t3⟩
    refine kn ?_
    have O:=sj a7; subst O
    exact ⟨b7,a4,_,lM.refl _,Lo.refl,d.ll,h1,m6,h2,h3,m7,j3⟩
   refine bC b3 (λI b3=>?_) (λI b3=>?_)
   ·refine ug I (lz e0) (ug I (lz g7) (ug I (mL Z Z Z) (V (lQ (cB I) Z) ?_)))
    have O:=sj b3; subst O
    exact f5 _ _ ⟨_,d.ll,m0,g4,m1,m2,g7,e0,m3,Z⟩
   refine un I (un I (un I (V (lN (cB I) Z) ?_)))
   have O:=sj b3; subst O
   exact f5 _ _ ⟨_,d.ll,m0,g4,m1,m2,g7,e0,m3,Z⟩
  rintro y1 E W ⟨b9,c5,l3,d2,aE,d,m4,g8,m5,g9,e1,j4⟩ r0
  refine sg (Wh g9 (Wh e1 (Wi Z (Wm (LJ r0 (λn5 E W=>∃l4,ST false (keys (c++[])) w W c5 (b9++l4)∧E 0=t∧E 3=vI B∧E 4=D∧E 18=vI a1∧E 24=vI a2∧E 213=vB n5) 4 ?_ λn5 b2 f3=>?_)))))
  ·rintro da E W ⟨l4,d,v8,v9,w0,w1,w2,w3⟩ a6
   refine ln (CI a6 w3 (λp8 a6=>?_) λp8 a6=>?_)
   ·refine lI (Wh v8 (Wh w1 (Wh w2 (Wh v9 (Wh w0 (bS a6 λci s3 a6=>?_))))))
    refine VE (eD d (Cr Qz Cn) call292 (λhh=>s6 t y1 b9 a1 a2 B D f4 _ _ hh j4 (c6.mono (c4.trans d2)) s3) ?_)
    rintro _ ct df ay d o0 bl ⟨u3,e6,rfl,t2⟩
    cases e6
    have d:=d.perm (Tr Tn)
    refine mh (rI ?_)
    have O:=sj a6; subst O
    exact pF Z ⟨_,_,_,Z,d.mB (Kr Sn),(c4.trans d2).trans o0,(ad.trans aE).trans bl,ST.lG d (mJ.mem (Kr Sn)),u3,Z,Z,t2⟩
   refine mU (rI ?_)
   have O:=sj a6; subst O
   exact pF Z ⟨_,_,_,Z,d.mB (Kr Sn),c4.trans d2,ad.trans aE,ST.lG d (mJ.mem (Kr Sn)),b9,Z,Z,j4⟩
  refine bC b2 (λH b2=>?_) (λH b2=>?_)
  ·refine ug H (lz e1) (ug H (lz g8) (ug H (mL Z Z Z) (V (lQ (cB H) Z) ?_)))
   have O:=sj b2; subst O
   exact f3 _ _ ⟨_,d.ll,m4,g8,m5,g9,e1,Z⟩
  refine un H (un H (un H (V (lN (cB H) Z) ?_)))
  have O:=sj b2; subst O
  exact f3 _ _ ⟨_,d.ll,m4,g8,m5,g9,e1,Z⟩
theorem vF:∀(n:Nat) (c:Value) (k:List Formula) (a:LO) (t:Int) (u:Int) (x:Int) (g:Value) (y:(Formula×Formula)→Option Int) (r:List Formula) (w:World) {i:mO} (H:oa i (a++[]) w) (B:mX 36 lx 5 i c k a) (D:AQ pg0 g i (An lx lx) (λ(r:Int)=>vI r) y) (_:nJ n k t u x y=some r),
  my false pg0 292 [c,vI t,vI u,vI x,g] w i (a++[]) (λv z G=>∃j,v=vT []∧z=(j++[])∧mX 36 lx 5 G c r j)
 | 0=>by intros; rename_i h; simp only [nJ] at h; cases h
 | n+1=>B0 (nJ n) (vF n)
theorem EE (h0:oa qe (qo++[]) qa) (k4:mX 36 lx 5 qe q0 qA qo) (c7:AQ pg0 q1 qe (An lx lx) (λ(qB:Int)=>vI qB) qZ) (hm:wH qA qb qZ=some qB) :
  my false pg0 285 [q0,vI qb,q1] qa qe (qo++[]) (λv L1 μ1=>∃S1,v=vT []∧L1=(S1++[])∧mX 36 lx 5 μ1 q0 qB S1):=by
 refine rG h0 63 func285 Z (λa=>sg (Wa (lr (Wm (Wa (Wa (ln (lH (nO (pE (λm E W=>∃d4 d0 d5 b1 d6 f1,lM qe d6∧Lo (keys (qo++[])) qa qe d6∧ST false (keys (qo++[])) qa W d6 (d0++f1)∧E 0=q0∧E 1=vI qb∧E 2=q1∧E 6=vI 20∧E 7=vI d5∧E 8=vI b1∧mX 36 lx 5 d6 q0 d4 d0∧oP qb qZ m d4 d5 b1=some qB) mZ ⟨qA,qo,0,20,qe,_,lM.refl _,Lo.refl,a.ll,Z,Z,Z,Z,Z,Z,k4,hm⟩ ?_))))))))))
 rintro m E W ⟨d4,d0,d5,b1,d6,f1,z,q,a,b4,b5,b6,d7,f4,b7,h1,i⟩
 cases m with
 | zero=>rw [oP] at i; cases i
 | succ k5=>
  refine lH (sg (Wh b7 (Wh b5 (Wi Z (ln (CI i Z (λi4 i=>?_) λi4 i=>?_))))))
  ·refine kn (bg (Wh b4 (Wh f4 (Wh b7 (Wh b6 (bS i λk6 i7 i=>?_))))))
   refine VE (eD a (Cr Qz Cn) call291 (λQ=>xy Q h1 (c7.mono z) i7) ?_)
   rintro _ m4 k8 l8 a g0 a1 ⟨k1,c8,rfl,j0⟩
   cases c8
   have a:=a.perm (Tr Tn)
   refine lr (Wh b7 (Wa (ln (lI (Wh b7 (Wh d7 (Wi Z (Wa (mh (mx ?_))))))))))
   exact lE ⟨k5,bH _,k6,k1,b1,wi0 .i64 (b1+20),k8,_,z.trans g0,q.trans a1,a.ll,b4,b5,b6,d7,Z,Z,j0,i⟩
  refine pg (oL (oL (uO (lE (sg (Wh b4 (Wh f4 (Wh b5 (Wh b6 (bS i λk7 i8 i=>?_))))))))))
  refine VE (eD a (Cr Qz Cn) call291 (λQ=>xy Q h1 (c7.mono z) i8) ?_)
  rintro _ m5 a8 l9 a a5 aa ⟨k2,c9,rfl,j3⟩
  cases c9
  have a:=a.perm (Tr Tn)
  refine ln (xl (CJ i (λd8 E W=>∃b2 a9 f3,lM a8 a9∧Lo (keys (qo++[])) qa a8 a9∧ST false (keys (qo++[])) qa W a9 (b2++f3)∧mX 36 lx 5 a9 q0 d8 b2) (λd8 i6=>?_) ?_))
  ·refine nO (pE (λm E W=>∃a2 I j k e0,lM a8 k∧Lo (keys (qo++[])) qa a8 k∧ST false (keys (qo++[])) qa W k (I++e0)∧E 0=q0∧E 1=vI qb∧E 2=q1∧E 6=vI j∧mX 36 lx 5 k q0 a2 I∧oM qb qZ m a2 j=some d8) mZ ⟨k7,k2,20,a8,_,lM.refl _,Lo.refl,a.ll,b4,b5,b6,d7,j3,i6⟩ ?_)
   rintro m E W ⟨a2,I,j,k,e0,B,d,a,h6,e4,h7,b3,d1,t⟩
   cases m with
   | zero=>rw [oM] at t; cases t
   | succ j6=>
    refine lH (sg (Wh b3 (Wh e4 (Wi Z (ln (CI t Z (λf7 t=>?_) λf7 t=>?_))))))
    ·refine kn (bg (Wh b3 (Wi Z (Wa (Wa (ln (lH (CJ t (λa4 E W=>∃J y e1,lM k y∧Lo (keys (qo++[])) qa k y∧ST false (keys (qo++[])) qa W y (J++e1)∧E 0=q0∧E 1=vI qb∧E 2=q1∧E 6=vI j∧E 7=vI a4.2∧mX 36 lx 5 y q0 a4.1 J) (λa4 g4=>?_) ?_))))))))
     ·refine nO (pE (λm E W=>∃a3 K M D H e3,lM k H∧Lo (keys (qo++[])) qa k H∧ST false (keys (qo++[])) qa W H (K++e3)∧E 0=q0∧E 1=vI qb∧E 2=q1∧E 6=vI j∧E 7=vI M∧E 8=vI D∧mX 36 lx 5 H q0 a3 K∧oN qb j qZ m a3 M D=some a4) mZ ⟨a2,I,0,wi0 .i64 (2*j),k,_,lM.refl _,Lo.refl,a.ll,h6,e4,h7,b3,Z,Z,d1,g4⟩ ?_)
      rintro m E W ⟨a3,K,M,D,H,e3,N,h,a,c2,c3,c4,Y,c5,Zq,d3,g⟩
      cases m with
      | zero=>rw [oN] at g; cases g
      | succ j7=>
       refine lH (sg (Wh Zq (Wh c3 (Wi Z (ln (CI g Z (λf9 g=>?_) λf9 g=>?_))))))
       ·refine kn (bg (Wh c2 (Wh c5 (Wh c5 (Wh Y (Wi Z (Wh Zq (Wh c4 (bS g λj8 g8 g=>?_)))))))))
        refine VE (eD a (Cr Qz Cn) call292 (λQ=>(vF mZ) q0 a3 K M (wi0 .i64 (M+j)) D q1 qZ _ _ Q d3 (c7.mono (((z.trans a5).trans B).trans N)) g8) ?_)
        rintro _ l6 k0 l1 a f0 P ⟨h5,a7,rfl,h3⟩
        cases a7
        have a:=a.perm (Tr Tn)
        refine lr (Wh Zq (Wa (ln (lI (Wh Zq (Wh Y (Wi Z (Wi Z (Wa (mh ?_))))))))))
        exact mx (lE ⟨j7,bH _,j8,h5,D,wi0 .i64 (D+(wi0 .i64 (2*j))),k0,_,N.trans f0,h.trans P,a.ll,c2,c3,c4,Y,Z,Z,h3,g⟩)
       refine pg (oL (oL (uO (lE ?_))))
       cases sj g
       exact ⟨K,H,_,N,h,a.ll,c2,c3,c4,Y,c5,d3⟩
     rintro ⟨j4,e7⟩ E W ⟨J,y,e1,b0,s,a,b9,U,c0,c1,e5,d2⟩ g2
     refine lH (CJ g2 (λe6 E W=>∃T G e2,lM y G∧Lo (keys (qo++[])) qa y G∧ST false (keys (qo++[])) qa W G (T++e2)∧E 0=q0∧E 1=vI qb∧E 2=q1∧E 6=vI j∧mX 36 lx 5 G q0 e6 T) (λe6 u=>?_) ?_)
     ·refine sg (Wh e5 (Wh c1 (Wi Z (Wa (lr (Wm (Wh U (Wi Z (ln ?_)))))))))
      refine CI u Z (λf8 u=>?_) (λf8 u=>?_)
      ·refine lI (Wh b9 (Wh e5 (Wm (Wh U (Wh c0 (bS u λl4 g7 u=>?_))))))
       refine VE (eD a (Cr Qz Cn) call292 (λQ=>(vF mZ) q0 j4 J e7 (wi0 .i64 (e7+j)) qb q1 qZ _ _ Q d2 (c7.mono (((z.trans a5).trans B).trans b0)) g7) ?_)
       rintro _ l5 j9 l0 a e9 O ⟨h4,a6,rfl,h2⟩
       cases a6
       have a:=a.perm (Tr Tn)
       refine ln ?_
       cases sj u
       exact ⟨h4,j9,_,e9,O,a.ll,b9,U,c0,c1,h2⟩
      refine kn ?_
      cases sj u
      exact ⟨J,y,_,lM.refl _,Lo.refl,a.ll,b9,U,c0,c1,d2⟩
     rintro j5 E W ⟨T,G,e2,e8,x,a,h8,h9,i0,i1,g9⟩ g3
     exact lI (Wh i1 (Wi Z (Wa (mh (mx (lE ⟨j6,bH _,j5,T,wi0 .i64 (j*2),G,_,(B.trans b0).trans e8,(d.trans s).trans x,a.ll,h8,h9,i0,Z,g9,g3⟩))))))
    refine pg (oL (oL (uO (lE ?_))))
    cases sj t
    exact ⟨I,k,_,B,d,a.ll,d1⟩
  rintro m3 E W ⟨b2,a9,f3,g1,ab,a,i9⟩ i5
  refine rI ?_
  cases sj i5
  exact pF Z ⟨_,_,_,Z,a.mB (Kr Sn),(z.trans a5).trans g1,(q.trans aa).trans ab,ST.lG a (mJ.mem (Kr Sn)),b2,Z,Z,i9⟩
theorem Ec (J:oa qe (qo++[]) qa) (j:mX 36 lx 5 qe q0 qA qo) (x:AQ pg0 q1 qe (An lx lx) (λ(qB:Int)=>vI qB) qZ) (hm:tM qA qZ=some qB) :
  my false pg0 273 [q0,q1] qa qe (qo++[]) (λv I K=>∃B,v=vT []∧I=(B++[])∧mX 36 lx 5 K q0 qB B):=by
 refine rG J 9 func273 Z (λa=>lI (Wm (Wm (V (AS aJ Z j) (Wm (bS hm λQ H hm=>?_))))))
 refine VE (eD a (Cr Qz Cn) call285 (λh=>EE h j mv H) ?_)
 rintro _ T U M a y d ⟨D,g,rfl,z⟩
 cases g
 have a:=a.perm (Tr Tn)
 refine mh (rI ?_)
 cases sj hm
 exact pF Z ⟨_,_,_,Z,a.mB (Kr Sn),y,d,ST.lG a (mJ.mem (Kr Sn)),D,Z,Z,z⟩
theorem JJ (b4:(List Int)→Formula→Option (List Int)) (e9:∀(a:Nat) (j:Value) (B:List Int) (g:LO) (t:Formula) (u:Value) (r:List Int) (w:World) {μ0:mO} (h0:oa μ0 ((a,Ob #[j] 157)::(g++[])) w) (T:mg 5 (lJ .u8) 1 j B g) (k:Sl lx 5 μ0 u t.Kids),b4 B t=some r→nt false pg0 296 [vP a,vA [vI t.Op,vI t.K,vS t.lh.lu,vS t.lh.Word,u]] w ((a,Ob #[j] 157)::(g++[])) λv L1 W'=>∃s S2,v=vT []∧L1=((a,Ob #[s] 157)::(S2++[]))∧mg 5 (lJ .u8) 1 s r S2) (a:Nat) (j:Value) (B:List Int) (g:LO) (t:Formula) (u:Value) (r:List Int) (w:World) {μ0:mO} (h0:oa μ0 ((a,Ob #[j] 157)::(g++[])) w) (T:mg 5 (lJ .u8) 1 j B g) (k:Sl lx 5 μ0 u t.Kids) (hm:Bh b4 B t=some r) :
  nt false pg0 296 [vP a,vA [vI t.Op,vI t.K,vS t.lh.lu,vS t.lh.Word,u]] w ((a,Ob #[j] 157)::(g++[])) (λv L1 W'=>∃s S2,v=vT []∧L1=((a,Ob #[s] 157)::(S2++[]))∧mg 5 (lJ .u8) 1 s r S2):=by
 let b0:=(a,Ob #[j] 157)::(g++[])
 refine B6 h0 40 func296 Z (λd=>sg ?_)
 obtain ⟨A1,c2,rfl⟩:=k.form
 refine VE (mA d Z (λW4 b3 d=>lr (Wm (Wf zb (VB d Mh Z Z bK (bS hm λr5 g3 hm=>?_))))))
 refine VE (eM d (Cb (Pb Pz) (Cr (Qb Qz) Cn)) jK (λq _=>nt.mN (pd q T g3)) ?_)
 rintro _ j5 O i7 d e6 ad h ⟨b7,a9,a2,rfl,a5⟩
 cases a2
 have d:=d.perm (Tb (Tr Tn))
 refine lS (Wf zb (VB d (Mt (Ma Mh)) Z Z bK (Wi Z (ln (CI hm Z (λe5 hm=>?_) λe5 hm=>?_)))))
 ·refine sg (Wm (Wf Dz (VA d (Mt (Ma Mh)) (lp t.lh) bJ aM (bS hm λj4 e7 hm=>?_))))
  refine VE (eM d (Cb Pz (Cr Qz Cn)) call80 (λq _=>nt.mN (ze q a5 e7)) ?_)
  rintro _ j6 j8 i8 d h3 ae h ⟨g9,f9,a3,rfl,f1⟩
  cases a3
  have d:=d.perm (Tb (Tr Tn))
  refine ln ?_
  have d:=d.ll (Kb (Kr (Db St)))
  refine lO (mj ?_)
  cases sj hm
  exact pF Z ⟨_,_,Z,d.mB (Kb (Kr Sn)),g9,f9,Z,Z,f1⟩
 refine kn (lH (CJ hm (λb5 E W=>∃a8 a6 c0 d3,lM O c0∧ST false (keys b0) w W c0 ((a,Ob #[a8] 157)::((b3,Ol (C1 t.Op t.K t.lh.lu t.lh.Word A1 t.Kids.length c2) 36)::(a6++d3)))∧E 0=vP a∧E 3=vP b3∧mg 5 (lJ .u8) 1 a8 b5 a6) (λb5 y=>?_) ?_))
 ·refine sg (Wf zb (VB d (Mt (Ma Mh)) Z Z bK (Wi Z (ln (CI y Z (λc4 y=>?_) λc4 y=>?_)))))
  ·refine lI (Wm (Wf ES (VB d (Mt (Ma Mh)) Z Z bK (bS y λi3 c9 y=>?_))))
   refine VE (eM d (Cb Pz (Cr Qz Cn)) jK (λq _=>nt.mN (pd q a5 c9)) ?_)
   rintro _ i6 f8 h6 d b2 ab h ⟨f6,e0,N,rfl,d2⟩
   cases N
   have d:=d.perm (Tb (Tr Tn))
   refine ln ?_
   cases sj y
   exact ⟨f6,e0,f8,_,b2,d.ll (Kb (Sb (Pr Pz) St)),Z,Z,d2⟩
  refine kn ?_
  cases sj y
  exact ⟨b7,a9,O,_,lM.refl _,d.ll (Kb (Sb (Pr Pz) St)),Z,Z,a5⟩
 rintro g4 E W ⟨a8,a6,c0,d3,c5,d,d4,d5,f0⟩ a0
 refine sg (Wh d4 (V (ly xQ d5) (VB d (Mt Mh) Z Z fR (V (mP aJ Z k) (bS a0 λg8 e8 a0=>?_)))))
 refine VE (eM d (Cb Pz (Cr (Qb Qz) Cn)) jK (λq _=>nt.mN (pd q f0 e8)) ?_)
 rintro _ j7 d6 i9 d c6 af h ⟨h1,g0,a4,rfl,f2⟩
 cases a4
 have d:=d.perm (Tb (Tr Tn))
 refine lr (V (ly xQ d5) (VB d (Mt (Ma Mh)) Z Z fR (V (mP aJ Z k) (Wm (ln ?_)))))
 have d:=d.ll (Kb (Kr (Db St)))
 refine xl (nM 32 31 (λi js E W=>∃D H z Q U,lM d6 Q∧ST false (keys b0) w W Q ((a,Ob #[D] 157)::(z++U))∧E 0=vP a∧E 30= .slice A1 t.Kids.length c2∧mg 5 (lJ .u8) 1 D H z∧vO b4 js H=some r) k.len ⟨h1,g8.2,g0,d6,_,lM.refl _,d.ll,d4,Z,f2,a0⟩ ?_ ?_)
 ·rintro f3 c h4 E W d0 ⟨⟨eI,eN⟩,D,H,z,Q,U,G,d,Y,P,K,x⟩
  refine sg (VQ (nI (i:=(f3:Int)) (x0:=c) lx.out aJ aD P eI mv (aF _) d0) λi2 ⟨_,⟨i4,rfl,a7⟩,c7⟩=>V (lq Z (mu d.has c7 bD aD)) (VE (lY d bG λh7 i1 d=>?_)))
  obtain ⟨I,J,rfl⟩:=a7.form
  let a1:=C1 c.Op c.K c.lh.lu c.lh.Word I c.Kids.length J
  refine VO (FA a1.toArray d aD λh8 d=>ln (lI (Wh Y (VA d Mh a1 bD aD (bS x λf4 c8 x=>?_)))))
  refine VE (eM d (Cb (Pb Pz) (Cr (Qb Qz) Cn)) call296 (λq ag=>e9 a D H z c (.slice I c.Kids.length J) _ _ q K mv c8) ?_)
  rintro _ i5 f7 h5 d b1 aa h ⟨f5,d9,M,rfl,d1⟩
  cases M
  have d:=d.perm (Tb (Tr Tn))
  refine mh (mx (lE ?_))
  have d:=d.ll (Kb (Kr (Db St)))
  exact ⟨eI,eN,f5,f4,d9,f7,_,G.trans b1,d.ll,Y,P,d1,x⟩
 rintro E W ⟨⟨eI,eN⟩,D,H,z,Q,U,G,d,Y,P,K,x⟩
 refine lE (rI ?_)
 cases sj x
 exact pF Z ⟨_,_,Z,d.mB (Kb (Kr Sn)),D,z,Z,Z,K⟩
theorem HT:∀(n:Nat) (i:Nat) (g:Value) (k:List Int) (c:LO) (j:Formula) (a:Value) (r:List Int) (w:World) {z:mO} (D:oa z ((i,Ob #[g] 157)::(c++[])) w) (x:mg 5 (lJ .u8) 1 g k c) (t:Sl lx 5 z a j.Kids) (_:ve n k j=some r),
  nt false pg0 296 [vP i,vA [vI j.Op,vI j.K,vS j.lh.lu,vS j.lh.Word,a]] w ((i,Ob #[g] 157)::(c++[])) (λv B W'=>∃y u,v=vT []∧B=((i,Ob #[y] 157)::(u++[]))∧mg 5 (lJ .u8) 1 y r u)
 | 0=>by intros; rename_i h; simp only [ve] at h; cases h
 | n+1=>JJ (ve n) (HT n)
theorem NS (Y:oa qe ((qh,Ob #[q0] 157)::(qo++[])) qa) (t:mg 5 (lJ .u8) 1 q0 ql qo) (g:Sl lx 5 qe q1 qy.Kids) (hm:BV ql qy=some qS) :
  nt false pg0 293 [vP qh,vA [vI qy.Op,vI qy.K,vS qy.lh.lu,vS qy.lh.Word,q1]] qa ((qh,Ob #[q0] 157)::(qo++[])) (λv U W'=>∃M I,v=vB qS.1∧U=((qh,Ob #[M] 157)::(I++[]))∧mg 5 (lJ .u8) 1 M qS.2 I):=by
 refine B6 Y 15 func293 Z (λa=>sg ?_)
 obtain ⟨y,z,rfl⟩:=g.form
 let B:=C1 qy.Op qy.K qy.lh.lu qy.lh.Word y qy.Kids.length z
 refine VE (mA a Z (λW4 q a=>Wa (lS (Wm (V (ox fj Z Z) (Wm (Vg Z Z (lq Z (lC a.has Mh B Z bD aD)) (bS hm λs K hm=>Sk Z Z (Eg a call25 (wv mv K) λW7 a=>Vg Z Z (nK Z) (V (lN Z Z) ?_))))))))))
 refine ln (CI hm Z (λJ hm=>?_) λJ hm=>?_)
 ·refine sg (Wa (ln ?_))
  have a:=a.ll (Db St)
  refine lO (mj ?_)
  cases sj hm
  exact ma (v:=vB false) Z Z ⟨_,_,Z,a.mB (Kb (Kr Sn)),q0,qo,Z,Z,t⟩
 refine kg (Wm (VA a Mh B bD aD (bS hm λu D hm=>?_)))
 refine VE (eM a (Cb (Pb Pz) (Cr (Qb Qz) Cn)) call296 (λi j=>(HT mZ) qh q0 ql qo qy (.slice y qy.Kids.length z) _ _ i t mv D) ?_)
 rintro _ a2 a3 k a T h d ⟨N,H,x,rfl,G⟩
 cases x
 have a:=a.perm (Tb (Tr Tn))
 refine ln ?_
 have a:=a.ll (Kb (Kr (Db St)))
 refine sg (Wa (lt ?_))
 cases sj hm
 exact ma (v:=vB true) Z Z ⟨_,_,Z,a.mB (Kb (Kr Sn)),N,H,Z,Z,G⟩
theorem Gj (c:Sl lx 5 (hp qa) q0 qy.Kids) (hm:yt qy=some ql) :
  na false pg0 286 [vA [vI qy.Op,vI qy.K,vS qy.lh.lu,vS qy.lh.Word,q0]] qa 5 (lJ .u8) 1 ql:=by
 refine vr 11 func286 Z (λa=>sg ?_)
 obtain ⟨k,t,rfl⟩:=c.form
 refine VE (mA a Z (λW4 P a=>Wa (lr (V (mW (v:=vA [vN]) pP (mz ji ez (N1 _ ez) kr)) (VE (mA a Z (λW6 B a=>Wa (lr (Wm (VA a (Mt Mh) (C1 qy.Op qy.K qy.lh.lu qy.lh.Word k qy.Kids.length t) bD aD ?_))))))))))
 refine bS hm λK D hm=>?_
 refine VE (eM a (Cb Pz (C0 Cn)) call293 (λs u=>NS s (mg.nil _ _ _) mv D) ?_)
 rintro _ U Y M a I h d ⟨H,N,i,rfl,y⟩
 cases i
 have a:=a.perm (Tb (Tr Tn))
 refine ln ?_
 have a:=a.ll (Kb (Kr (Db St)))
 refine sg (Wm (bS hm λT x hm=>VE (oG a call82 (na.mN (yY (y.sl (λ_=>rfl) λb o g=>a.at_ (Mt (Ml g))) (At.of (a.at_ Mh) _ Z) x)) λQ G O z a J q j=>Wa (ln ?_))))
 have a:=a.ll (Kr (Db (Dr St)))
 refine lO ?_
 cases sj hm
 exact ma (v:=G) Z Z ⟨_,z,Z,a.nT (λp g=>Ml g) j.nd,j⟩
theorem LU (g:Sl lx 5 (hp qa) q0 qy.Kids) (i:Sl lx 5 (hp qa) q1 qz.Kids) (hm:Av qy qz=some qb) :
  mo false pg0 274 [vA [vI qy.Op,vI qy.K,vS qy.lh.lu,vS qy.lh.Word,q0],vA [vI qz.Op,vI qz.K,vS qz.lh.lu,vS qz.lh.Word,q1]] qa (vI qb):=by
 refine cG 10 func274 Z (λa=>sg ?_)
 obtain ⟨x,z,rfl⟩:=g.form
 refine VE (mA a Z (λW4 v a=>?_))
 obtain ⟨y,B,rfl⟩:=i.form
 refine VE (mA a Z (λW8 O a=>Wa (ln (lH ?_))))
 have a:=a.drew
 have d:=a.has.ll (Kb (Kb Sn))
 refine mF d lV (XH 0 Z d (λ_ h=>lq Z (lC h (Mt Mh) (C1 qy.Op qy.K qy.lh.lu qy.lh.Word x qy.Kids.length z) Z bD aD)) (XH 2 Z d (λ_ h=>lq Z (lC h Mh (C1 qz.Op qz.K qz.lh.lu qz.lh.Word y qz.Kids.length B) Z bD aD)) (bS hm λK H hm=>XE 1 Z (oG a call286 (Gj mv H) λY N a4 T a t k D=>?_))))
 have d:=a.has.nx t (Dr (Kb (Kb Sn)))
 refine ⟨d,bS hm λM I hm=>XE 3 Z (oG a call286 (Gj mv I) λs Q a5 U a u q G=>?_)⟩
 have d:=a.has.nx (t.trans u) (Dr (Dr (Kb (Kb Sn))))
 refine ⟨d,bS hm λa3 J hm=>XE 4 Z (Eg a call137 (mo.mN (HD (D.sl (λ_=>rfl) λb o j=>a.at_ (Ma (Ml j))) (G.sl (λ_=>rfl) λb o j=>a.at_ (Ml j)) J)) λa2 a=>?_)⟩
 have d:=a.has.nx (t.trans u) (Dr (Dr (Kb (Kb Sn))))
 refine ⟨d,X 5 Z d (nB Z) (mG kr (lE ?_))⟩
 exact lO (rQ hm a)
theorem IH (Y:oa qe [] qa) (u:Sl lx 5 qe q0 qA) (hm:vW qA=some qB) :
  my false pg0 261 [q0] qa qe [] (λv U μ1=>∃T I,v=T∧U=(I++[])∧mX 36 lx 5 μ1 T qB I):=by
 refine rG Y 9 func261 Z (λd=>sg (Wa (lr (Wm (bS hm λP Q hm=>?_)))))
 refine VE (eD d (aT _) call272 (λh=>my.mN (H7 h mv Q)) ?_ (L0:=[]))
 rintro _ v7 O L9 d y k ⟨i,H,a,rfl,B⟩
 obtain rfl:=a.symm
 have d:=d.perm (Tr Tn)
 refine Wa (lr (Wm (bS hm λa5 z hm=>?_)))
 refine VE (eD d (Cr Qz Cn) call273 (λh=>Ec h B ⟨274,#[],#[],Z,call274,λW x vs qB hs q hm=>by obtain ⟨_,_,rfl,M,N⟩:=q; obtain ⟨u0,rfl,t⟩:=M.out; obtain ⟨t0,rfl,s⟩:=N.out; exact LU t s hm⟩ z) ?_)
 rintro _ a6 a7 a3 d j g ⟨J,c,rfl,D⟩
 obtain rfl:=c.symm
 have d:=d.perm (Tr Tn)
 refine lr (Wm (Wa (lt ?_)))
 obtain rfl:=sj hm
 exact ma (v:=i) Z Z ⟨_,_,_,Z,d.mB (Kr Sn),y.trans j,k.trans g,ST.lG d (mJ.mem (Kr Sn)),i,J,Z,Z,D⟩
theorem Fe {f1:(Formula×Formula)→Option Bool} (h0:oa qe (qo++[]) qa) (B:mX 36 lx 5 qe q0 qA qo) (d2:AQ pg0 q1 qe (An lx lx) (λ(qB:Bool)=>vB qB) f1) (hm:uP qA f1=some qB) :
  my false pg0 264 [q0,q1] qa qe (qo++[]) (λv L1 μ1=>∃y1,v=y1∧L1=[]∧Sl lx 5 μ1 y1 qB):=by
 refine rG h0 66 func264 Z (λd=>sg (Wa (lS (Wm (V (AS aJ Z B) (Wi Z (ln (CI hm Z (λi3 hm=>?_) λi3 hm=>?_))))))))
 ·refine sg (Wm (Wa (lt (mj ?_))))
  cases sj hm
  refine ma (v:=q0) Z Z ?_
  obtain ⟨a1,d,i2,P,j0⟩:=ST.Bb mQ d B
  exact ⟨_,_,_,Z,d.mB Sn,i2,P,ST.lG d (mJ.mem Sn),q0,Z,Z,j0⟩
 refine kS (Wa (ln (nO (pE (λm E W=>∃t b7,ST false (keys (qo++[])) qa W qe (qo++b7)∧E 0=q0∧E 1=q1∧E 5=vI t∧oZ qA f1 m t=some qB) mZ ⟨1,_,d.ll,Z,Z,Z,hm⟩ ?_))))
 rintro m E W ⟨t,b7,d,y,a3,G,a⟩
 cases m with
 | zero=>rw [oZ] at a; cases a
 | succ h1=>
  refine lH (sg (Wh G (Wh y (V (AS aJ Z B) (Wi Z (ln (CI a Z (λd3 a=>?_) λd3 a=>?_)))))))
  ·refine kn (lH (nO (lH ?_)))
   have d:=d.drew
   have g:=d.has.ll (Kr Sn)
   refine mF g lV (X 0 Z g (lz a3) (X 1 Z g (lz y) (X 2 Z g (lz G) (bS a λh7 b2 a=>XQ 3 Z g (nV (i:=t) lx.out aJ aD Z Z B (mK b2) (mE b2)) λk1 ⟨_,⟨h3,rfl,e7⟩,e0,i4⟩=>XH 4 Z g (λ_ x=>lq Z (mu (oR.hp _) (e0.mono (oz λb o s=>x.2 b o (Ml s))) bD aD)) (X 5 Z g (lz y) (X 6 Z g (lz G) (X 7 Z g (mL Z Z Z) (bS a λh8 b3 a=>XQ 8 Z g (nV (i:=wi0 .i64 (t-1)) lx.out aJ aD Z Z B (mK b3) (mE b3)) λk2 ⟨_,⟨h4,rfl,e8⟩,e1,i5⟩=>XH 9 Z g (λ_ x=>lq Z (mu (oR.hp _) (e1.mono (oz λb o s=>x.2 b o (Ml s))) bD aD)) (bS a λk7 e5 a=>XE 10 Z (BR (h7,h8) d d2 (lM.refl _) (An.mk mQ mQ (lx.mk ⟨h3,Z,e7⟩) (lx.mk ⟨h4,Z,e8⟩) d.ns) Z (px Z Z) e5 λj6 d=>?_))))))))))
   have g:=d.has.ll (Kr Sn)
   refine ⟨g,mG kr (lE (CI a Z (λd4 a=>?_) λd4 a=>?_))⟩
   ·refine sg (Wh y (Wh G (bS a λ_ a7 a=>VQ (Ew (i:=t) aJ aD Z Z B (uh a7) (tY a7)) λc4 K=>Wa (lS (Wa (ln ?_))))))
    refine CJ a (λT E W=>∃a2 b9,ST false (keys (qo++[])) qa W qe (a2++b9)∧E 0=q0∧E 5=vI T.2∧mX 36 lx 5 qe q0 T.1 a2) (λT d8=>?_) ?_
    ·refine nO (pE (λm E W=>∃a5 J U u c0,ST false (keys (qo++[])) qa W qe (J++c0)∧E 0=q0∧E 1=q1∧E 5=vI U∧E 6=c4∧E 7=vI u∧mX 36 lx 5 qe q0 a5 J∧pc t f1 m a5 U u=some T) mZ ⟨qA,qo,t,1,_,d.ll,y,a3,G,Z,Z,B,d8⟩ ?_)
     rintro m E W ⟨a5,J,U,u,c0,d,N,a4,Q,H,I,k,j⟩
     cases m with
     | zero=>rw [pc] at j; cases j
     | succ h2=>
      refine lH (sg (Wh I (Wh H (V (UI aJ Z K k) (Wi Z (ln (CI j Z (λd5 j=>?_) λd5 j=>?_)))))))
      ·refine kn (lH (CJ j (λO E W=>∃M c1,ST false (keys (qo++[])) qa W qe (M++c1)∧E 0=q0∧E 1=q1∧E 5=vI O.2∧E 6=c4∧E 7=vI u∧mX 36 lx 5 qe q0 O.1 M) (λO c=>?_) ?_))
       ·refine nO (lH ?_)
        have d:=d.drew
        have g:=d.has.ll (Kr Sn)
        refine mF g lV (X 0 Z g (lz a4) (X 1 Z g (lz H) (X 2 Z g (lz I) (bS c λi0 b4 c=>XQ 3 Z g (Hh (i:=u) lx.out aJ aD Z Z k K (mK b4) (mE b4)) λk3 ⟨_,⟨h5,rfl,f4⟩,e2,i6⟩=>XH 4 Z g (λ_ x=>lq Z (mu (oR.hp _) (e2.mono (oz λb o s=>x.2 b o (Ml s))) bD aD)) (X 5 Z g (lz H) (X 6 Z g (lz I) (X 7 Z g (mL Z Z Z) (bS c λi1 b5 c=>XQ 8 Z g (Hh (i:=wi0 .i64 (u-1)) lx.out aJ aD Z Z k K (mK b5) (mE b5)) λk4 ⟨_,⟨h6,rfl,f5⟩,e3,i7⟩=>XH 9 Z g (λ_ x=>lq Z (mu (oR.hp _) (e3.mono (oz λb o s=>x.2 b o (Ml s))) bD aD)) (bS c λk8 e6 c=>XE 10 Z (BR (i0,i1) d d2 (lM.refl _) (An.mk mQ mQ (lx.mk ⟨h5,Z,f4⟩) (lx.mk ⟨h6,Z,f5⟩) d.ns) Z (px Z Z) e6 λj8 d=>?_))))))))))
        have g:=d.has.ll (Kr Sn)
        refine ⟨g,X 11 Z g (nK Z) (mG kr (lE (CI c Z (λd6 c=>?_) λd6 c=>?_)))⟩
        ·refine sg (Wh N (Wh Q (Wh H (Wh I (bS c λc7 b6 c=>VQ (Hh (i:=u) lx.out aJ aD Z Z k K (mK b6) (mE b6)) λk5 ⟨_,⟨l0,rfl,b1⟩,e4,i8⟩=>V (lq Z (mu (oR.hp _) (e4.mono (oz λb o s=>d.has.2 b o (Ml s))) bD aD)) (bS c λl2 Y c=>VQ (nV (i:=U) lx.out aJ aD Z Z k (mK Y) (mE Y)) λk6 ⟨_,⟨l1,rfl,j3⟩,i9,d7⟩=>?_))))))
         obtain ⟨f7,g0,rfl⟩:=b1.form
         refine VO (wq (x1:=c7) mQ d k Z Z (lx.mk ⟨.slice f7 c7.Kids.length g0,Z,b1⟩) d7 (mE Y) aD λj9 f8 d d1=>ln (lI (Wh Q (Wi Z (Wa (mh (mx (lE ?_))))))))
         cases sj c
         exact ⟨f8,_,d.ll,N,a4,Z,H,I,d1⟩
        refine mU (mx (lE ?_))
        cases sj c
        exact ⟨J,_,d.ll,N,a4,Q,H,I,k⟩
       rintro ⟨g9,h9⟩ E W ⟨M,c1,d,g1,g2,g3,g4,g7,f3⟩ d9
       exact lI (Wh g7 (Wi Z (Wa (ln ⟨h2,bH _,g9,M,h9,wi0 .i64 (u+1),_,d.ll,g1,g2,g3,g4,Z,f3,d9⟩))))
      refine pg (oL (oL (uO (lE ?_))))
      cases sj j
      exact ⟨J,_,d.ll,N,Q,k⟩
    rintro ⟨k0,c6⟩ E W ⟨a2,b9,d,c2,c3,b0⟩ D
    refine sg (Wh c2 (Wh c3 (bS D λ_ a8 D=>VQ (Ew (i:=c6) aJ aD Z Z b0 (uh a8) (tY a8)) λk9 e9=>VO (GQ (z:=(⟨0,0,K0,[]⟩:Formula)) (zs:=Dc) mQ d b0 (lx.mk ⟨vN,Z,Sl.nil _ _ _⟩) aJ bG e9 Z Z (λj7 j5 d d0=>lr (Wh c2 (Wh c3 (bS D λ_ a9 D=>VQ (Jp (i:=c6) aJ aD Z Z d0 (uh a9) (tY a9)) λc5 f0=>?_))))))))
    refine Wa (lt (nz (mj (mj (nz (mj ?_))))))
    cases sj D
    refine ma (v:=c5) Z Z ?_
    obtain ⟨l3,d,c8,h,f2⟩:=ST.Bb mQ d f0
    exact ⟨_,_,_,Z,d.mB Sn,c8,h,ST.lG d (mJ.mem Sn),c5,Z,Z,f2⟩
   exact mU (mx (lE (lI (Wh G (Wi Z (Wa (ln ⟨h1,bH _,wi0 .i64 (t+1),_,d.ll,y,a3,Z,a⟩)))))))
  refine pg (oL (oL (uO (lE (sg (Wh y (Wa (lt ?_))))))))
  cases sj a
  refine ma (v:=q0) Z Z ?_
  obtain ⟨l4,d,c9,q,f6⟩:=ST.Bb mQ d B
  exact ⟨_,_,_,Z,d.mB Sn,c9,q,ST.lG d (mJ.mem Sn),q0,Z,Z,f6⟩
theorem wm {f2:(Formula×Formula)→Option Bool} (x:Sl lx 5 (hp qa) q0 qA) (N:Sl lx 5 (hp qa) q1 qB) (a4:AQ pg0 q2 (hp qa) (An lx lx) (λ(qf:Bool)=>vB qf) f2) (hm:pa qA qB f2=some qf) :
  mo false pg0 275 [q0,q1,q2] qa (vB qf):=by
 refine cG 32 func275 Z (λd=>sg (Wa (lS (Wm (V (mP aJ Z x) (Wm (V (mP aJ Z N) (Wi Z (mh ?_)))))))))
 refine lE (CI hm Z (λv hm=>?_) λv hm=>?_)
 ·refine sg (Wa (lt (mj ?_)))
  cases sj hm
  exact rP d
 refine kS (Wm (V (mP aJ Z x) (Wm (ln (nM 17 16 (λi I E W=>∃y,ST false nf qa W (hp qa) y∧E 1=q1∧E 2=q2∧E 15=q0∧nD qB f2 I i=some qf) x.len ⟨_,d.ll,Z,Z,Z,hm⟩ ?_ ?_)))))
 ·rintro q g c2 E W a5 ⟨⟨h,s⟩,y,d,z,B,D,c⟩
  refine sg (Wh h (VQ (nI (i:=(q:Int)) (x0:=g) lx.out aJ aD D h x (aF _) a5) λb5 ⟨_,⟨b9,rfl,J⟩,T⟩=>V (lq Z (mu d.has T bD aD)) (VE (lY d bG λO b3 d=>Wa ?_))))
  obtain ⟨j,t,rfl⟩:=J.form
  let a2:=C1 g.Op g.K g.lh.lu g.lh.Word j g.Kids.length t
  refine VO (FA a2.toArray d aD λa9 d=>lr (Wh z (Wm (bS c λa M c=>VQ (nI (i:=(q:Int)) (x0:=a) lx.out aJ aD Z Z N (mK M) (mE M)) λb6 ⟨_,⟨c0,rfl,K⟩,U⟩=>V (lq Z (mu d.has U bD aD)) (VE (lY d bG λP b4 d=>?_))))))
  obtain ⟨k,u,rfl⟩:=K.form
  let a3:=C1 a.Op a.K a.lh.lu a.lh.Word k a.Kids.length u
  refine VO (FA a3.toArray d aD λb1 d=>lr (Wh B (VA d (Mt Mh) a2 bD aD (VA d Mh a3 bD aD (bS c λb7 Y c=>VE (BR (g,a) d a4 (lM.refl _) (An.mk mQ mQ (lx.mk ⟨.slice j g.Kids.length t,Z,J⟩) (lx.mk ⟨.slice k a.Kids.length u,Z,K⟩) d.ns) Z (px Z Z) Y λb2 d=>V (nK Z) (ln ?_)))))))
  have d:=d.ll (Db (Db St))
  refine CI c Z (λQ c=>?_) (λQ c=>?_)
  ·refine sg (Wa (lt (nz (mj (nz (mj ?_))))))
   cases sj c
   exact rP d
  exact mU (mx (lE ⟨h,s,_,d.ll,z,B,D,c⟩))
 rintro E W ⟨⟨h,s⟩,y,d,z,B,D,c⟩
 exact lE (sg (Wa (lt (rQ c d))))
theorem J7 (M:Formula→Formula→Option Bool) (b5:∀(a:Formula) (j:Value) (c:Formula) (k:Value) (r:Bool) (w:World) (u:Sl lx 5 (hp w) j a.Kids) (y:Sl lx 5 (hp w) k c.Kids),M a c=some r→mo false pg0 265 [vA [vI a.Op,vI a.K,vS a.lh.lu,vS a.lh.Word,j],vA [vI c.Op,vI c.K,vS c.lh.lu,vS c.lh.Word,k]] w (vB r)) (a:Formula) (j:Value) (c:Formula) (k:Value) (r:Bool) (w:World) (u:Sl lx 5 (hp w) j a.Kids) (y:Sl lx 5 (hp w) k c.Kids) (hm:BF M a c=some r) :
  mo false pg0 265 [vA [vI a.Op,vI a.K,vS a.lh.lu,vS a.lh.Word,j],vA [vI c.Op,vI c.K,vS c.lh.lu,vS c.lh.Word,k]] w (vB r):=by
 refine cG 31 func265 Z (λd=>sg ?_)
 obtain ⟨N,Y,rfl⟩:=u.form
 let h:=C1 a.Op a.K a.lh.lu a.lh.Word N a.Kids.length Y
 refine VE (mA d Z (λW4 T d=>?_))
 obtain ⟨Q,O,rfl⟩:=y.form
 let a0:=C1 c.Op c.K c.lh.lu c.lh.Word Q c.Kids.length O
 refine VE (mA d Z (λW8 U d=>Wa (lr (Wf zb (VB d (Mt Mh) Z Z bK (Wf zb (VB d Mh Z Z bK (Wi Z (Wm (LJ hm (λa9 E W=>∃a2,ST false nf w W (hp w) ((U,Ol a0 36)::((T,Ol h 36)::a2))∧E 2=vP T∧E 3=vP U∧E 4=vB false∧E 16=vB a9) 6 ?_ λa9 D I=>?_))))))))))
 ·rintro d1 E W ⟨a2,d,J,K,a5,b6⟩ P
  refine Wh b6 (LJ P (λv E W=>∃a3,ST false nf w W (hp w) ((U,Ol a0 36)::((T,Ol h 36)::a3))∧E 2=vP T∧E 3=vP U∧E 4=vB false∧E 23=vB v) 6 ?_ λv B H=>?_)
  ·rintro d2 E W ⟨a3,d,b9,c0,q,c1⟩ b1
   refine Wh c1 (LJ b1 (λs E W=>∃a4,ST false nf w W (hp w) a4∧E 4=vB false∧E 30=vB s) 6 ?_ λs z G=>?_)
   ·rintro d3 E W ⟨a4,d,c9,c3⟩ b2
    exact Wg c3 (lt (rQ b2 d))
   refine bC z (λi z=>?_) (λi z=>?_)
   ·refine ug i (ly xQ b9) (ug i (lq Z (lA d.has (Mt Mh) Z fR)) (ug i (ly xQ c0) (ug i (lq Z (lA d.has Mh Z fR)) (bS z λd0 b4 z=>tw i (Eg d call275 (wm mv mv ⟨265,#[],#[],Z,call265,λW x vs r hs hR hm=>by obtain ⟨_,_,rfl,c4,c5⟩:=hR; obtain ⟨u0,rfl,k0⟩:=c4.out; obtain ⟨t0,rfl,j0⟩:=c5.out; exact b5 x.1 u0 x.2 t0 r W k0 j0 hm⟩ b4) λc8 d=>V (lQ (cB i) Z) ?_)))))
    cases sj z
    exact G _ _ ⟨_,d.ll (Db (Db St)),q,Z⟩
   refine un i (un i (un i (un i (un i (V (lN (cB i) Z) ?_)))))
   cases sj z
   exact G _ _ ⟨_,d.ll (Db (Db St)),q,Z⟩
  refine bC B (λg B=>?_) (λg B=>?_)
  ·refine ug g (ly Dz J) (ug g (lq Z (lC d.has (Mt Mh) (lp a.lh) Z bJ aM)) (ug g (ly Dz K) (ug g (lq Z (lC d.has Mh (lp c.lh) Z bJ aM)) (ug g (A4 Z Z (rY gp) (xu (yR _ a.lh c.lh))) (V (lQ (cB g) Z) ?_)))))
   cases sj B
   exact H _ _ ⟨_,d.ll,J,K,a5,Z⟩
  refine un g (un g (un g (un g (un g (V (lN (cB g) Z) ?_)))))
  cases sj B
  exact H _ _ ⟨_,d.ll,J,K,a5,Z⟩
 refine bC D (λt D=>?_) (λt D=>?_)
 ·refine ug t (ly ES Z) (ug t (lq Z (lA d.has (Mt Mh) Z bK)) (ug t (ly ES Z) (ug t (lq Z (lA d.has Mh Z bK)) (ug t (mL Z Z Z) (V (lQ (cB t) Z) ?_)))))
  cases sj D
  exact I _ _ ⟨_,d.ll,Z,Z,Z,Z⟩
 refine un t (un t (un t (un t (un t (V (lN (cB t) Z) ?_)))))
 cases sj D
 exact I _ _ ⟨_,d.ll,Z,Z,Z,Z⟩
theorem IR:∀(n:Nat) (g:Formula) (a:Value) (i:Formula) (c:Value) (r:Bool) (w:World) (j:Sl lx 5 (hp w) a g.Kids) (k:Sl lx 5 (hp w) c i.Kids) (_:tO n g i=some r),
  mo false pg0 265 [vA [vI g.Op,vI g.K,vS g.lh.lu,vS g.lh.Word,a],vA [vI i.Op,vI i.K,vS i.lh.lu,vS i.lh.Word,c]] w (vB r)
 | 0=>by intros; rename_i h; simp only [tO] at h; cases h
 | n+1=>J7 (tO n) (IR n)
theorem yZ {a0:nq} {r:(Formula×nq)} (h0:oa qe ((qh,Ol (nW a0) 299)::[]) qa) (b5:Sl lx 5 qe q0 qA) (hm:sF a0 qb qA=some r) :
  my false pg0 247 [vP qh,vI qb,q0] qa qe ((qh,Ol (nW a0) 299)::[]) (λv L1 μ1=>∃y1,v=vA [vI r.1.Op,vI r.1.K,vS r.1.lh.lu,vS r.1.lh.Word,y1]∧L1=((qh,Ol (nW r.2) 299)::[])∧Sl lx 5 μ1 y1 r.1.Kids):=by
 refine rG h0 37 func247 Z (λd=>sg (VE (lY d bG λW2 b1 d=>lr (Wm (Wi Z (VE (lY d zeroValue3 λW4 b3 d=>VO (lZ (vI (wi0 .i64 (5-qb))) (#[vI (wi0 .i64 (5-qb))]) d Z Z dn (vM _ (wi0 .i64 (5-qb))) nb Z (λW5 d=>ln (lH ?_))))))))))
 let P:=wi0 .i64 (5-qb)
 let b0:Value:=vA (C18 P)
 refine lI (Wm (Wm (bS hm λr6 d1 hm=>?_)))
 refine VE (eD d (aT _) call262 (λs=>my.mN (QC s mv d1)) ?_ (L0:=[]))
 rintro _ f4 aa e2 d B h ⟨a7,H,rfl,a3⟩
 obtain rfl:=H.symm
 refine Wa (lS (Wm (V (pG (by exact pp Z) Z) (bS hm λf3 c1 hm=>VE (Eg d call108 (Aq mv ⟨263,#[],#[vP b3],Z,call263,λW x vs r hs hR hm=>by obtain ⟨_,rfl,U⟩:=hR; obtain ⟨u0,rfl,k0⟩:=U.out; exact (Gy k0 (At.of (hs _ _ (d.at_ Mh)) _ Z) hm).mN⟩ c1) λe5 d=>ln (CI hm Z (λb6 hm=>?_) λb6 hm=>?_))))))
 ·refine sg (VB d Mh Z Z bK (V (mW (v:=b0) (nw Z) (mz bG cO (Hj _ cO) kr)) ?_))
  have d:=d.perm (Nb (Pb Pz) Nz)
  refine VO (lZ b0 ((C18 P).toArray) d Z Z aD oc nb Z (λe6 d=>ln ?_))
  have d:=d.ll (Kb (Db St))
  refine lO (mj ?_)
  obtain rfl:=sj hm
  exact oW (v:=b0) Z Z (lC d.has Mh (C18 P) Z bD aD) ⟨_,_,_,Z,d.mB (Db (Kb Sn)),B,h,ST.lG d (mJ.mem (Db (Kb Sn))),vN,Z,Z,Sl.nil _ _ _⟩
 refine kn ?_
 have d:=d.ll (Db St)
 refine sg (Wm (bS hm λd2 c2 hm=>?_))
 refine VE (eD d (aT _) call261 (λs=>IH s mv c2) ?_ (L0:=[]))
 rintro _ f5 f9 e3 d N j ⟨d5,c7,I,rfl,c4⟩
 obtain rfl:=I.symm
 have d:=d.perm (Tr Tn)
 refine bS hm λz c3 hm=>?_
 refine VE (eD d (Cr Qz Cn) call264 (λs=>Fe s c4 ⟨265,#[],#[],Z,call265,λW x vs r hs hR hm=>by obtain ⟨_,_,rfl,U,d0⟩:=hR; obtain ⟨u0,rfl,k0⟩:=U.out; obtain ⟨t0,rfl,j0⟩:=d0.out; exact (IR mZ) x.1 u0 x.2 t0 r W k0 j0 hm⟩ c3) ?_)
 rintro _ f6 d7 e4 d Q q ⟨d6,J,rfl,y⟩
 obtain rfl:=J.symm
 refine Wa (ln (lH (CJ hm (λa6 E W=>∃a5,ST false (keys ((qh,Ol (nW a0) 299)::[])) qa W d7 ((b1,Ol Dc 36)::((qh,Ol (nW a6) 299)::a5))∧E 1=vI qb∧E 6=vP b1∧E 8=d6) (λa6 u=>?_) ?_)))
 ·refine sg (Wm (V (mP aJ Z y) (Wi Z (ln (CI u Z (λb9 u=>?_) λb9 u=>?_)))))
  ·refine lI (Wm (Wn (Wf Uo ?_)))
   have d:=d.perm (Nb (Pb Pz) Nz)
   refine VO (lZ (vI 12) ((nW (⟨12⟩:nq)).toArray) d Z Z jI (vM _ 12) nb Z (λf1 d=>ln ?_))
   obtain rfl:=sj u
   exact ⟨_,d.ll (Sb (Pb Pz) St),Z,Z,Z⟩
  refine kn ?_
  obtain rfl:=sj u
  exact ⟨_,d.ll,Z,Z,Z⟩
 rintro f8 E W ⟨a5,d,c9,M,T⟩ g
 refine lH (sg (Wh T (V (mP aJ Z y) (Wi Z (ln (CI g Z (λb7 g=>?_) λb7 g=>?_))))))
 ·refine sg (Wh T (bS g λa Zq g=>VQ (nI (i:=0) (x0:=a) lx.out aJ aD Z Z y (mK Zq) (mE Zq)) λf2 ⟨_,⟨f7,rfl,Y⟩,c0⟩=>V (lq Z (mu d.has c0 bD aD)) ?_))
  obtain ⟨D,G,rfl⟩:=Y.form
  let a4:=C1 a.Op a.K a.lh.lu a.lh.Word D a.Kids.length G
  refine VO (lZ (vA a4) a4.toArray d M Z aD oc nb Z (λe9 d=>lt (mj ?_)))
  obtain rfl:=sj g
  exact oW (v:=vA a4) Z M (lC d.has Mh a4 Z bD aD) ⟨_,_,_,Z,d.mB (Db (Kb Sn)),(B.trans N).trans Q,(h.trans j).trans q,ST.lG d (mJ.mem (Db (Kb Sn))),.slice D a.Kids.length G,Z,Z,Y⟩
 refine kg (Wh c9 (Wh T ?_))
 obtain ⟨k,t,rfl⟩:=y.form
 let a9:Value:= .slice k z.length t
 let O:Value:=vA [vI qb,vI 0,vS zS,vS zS,a9]
 refine V (mW (v:=O) (pZ Z Z) (mz bG cO (Hj _ cO) kr)) (VO (lZ O (#[vI qb,vI 0,vS zS,vS zS,a9]) d M Z aD oc nb Z (λf0 d=>lt ?_)))
 obtain rfl:=sj g
 exact oW (v:=O) Z M (lC d.has Mh [vI qb,vI 0,vS zS,vS zS,a9] Z bD aD) ⟨_,_,_,Z,d.mB (Db (Kb Sn)),(B.trans N).trans Q,(h.trans j).trans q,ST.lG d (mJ.mem (Db (Kb Sn))),a9,Z,Z,y⟩
theorem Gn {a0:nq} {r:(Formula×nq)} (h0:oa qe ((qh,Ol (nW a0) 299)::[]) qa) (c0:Sl lx 5 qe q0 qA) (hm:we a0 qb qA=some r) :
  my false pg0 246 [vP qh,vI qb,q0] qa qe ((qh,Ol (nW a0) 299)::[]) (λv L1 μ1=>∃y1,v=vA [vI r.1.Op,vI r.1.K,vS r.1.lh.lu,vS r.1.lh.Word,y1]∧L1=((qh,Ol (nW r.2) 299)::[])∧Sl lx 5 μ1 y1 r.1.Kids):=by
 let j5:=((nW a0).toArray:Array Value)
 refine rG h0 58 func246 Z (λd=>sg (VE (lY d bG λW2 b1 d=>lr (Wa (lS (Wm ?_))))))
 refine V (mP aJ Z c0) (Wm (ln (nM 12 11 (λi js E W=>∃x K J N b9,ST false (keys ((qh,oC j5 299)::[])) qa W qe ((b1,Ol Dc 36)::((qh,oC j5 299)::(N++b9)))∧E 0=vP qh∧E 1=vI x∧E 6=vP b1∧E 7=K∧E 10=q0∧mX 36 lx 5 qe K J N∧oX a0 js x J=some r) c0.len ⟨qb,vN,[],[],_,d.ll,Z,Z,Z,Z,Z,mX.nil _ _ _ _,hm⟩ ?_ ?_)))
 ·rintro g7 c h5 E W g2 ⟨⟨eI,eN⟩,x,K,J,N,b9,d,U,H,u,I,b0,D,a⟩
  refine sg (VQ (nI (i:=(g7:Int)) (x0:=c) lx.out aJ aD b0 eI c0 (aF _) g2) λk4 ⟨_,⟨k7,rfl,Y⟩,f0⟩=>V (lq Z (mu d.has f0 bD aD)) (VE (lY d bG λi3 k1 d=>?_)))
  obtain ⟨y,z,rfl⟩:=Y.form
  let j3:Value:= .slice y c.Kids.length z
  let b7:=C1 c.Op c.K c.lh.lu c.lh.Word y c.Kids.length z
  refine VO (FA b7.toArray d aD λi4 d=>ln (bg (VA d Mh b7 bD aD (bS a λk5 f1 a=>VE (Eg d call258 (mo.mN (Fg mv f1)) λi5 d=>Wa (ln (CI a Z (λe3 a=>?_) λe3 a=>?_)))))))
  ·refine lI (Wh H (Wi Z (Wa (mh (mx (mx (lE ?_)))))))
   have d:=d.ll (Db St)
   exact ⟨eI,eN,wi0 .i64 (x-1),K,J,N,_,d.ll,U,Z,u,I,b0,D,a⟩
  refine sg (VA d Mh b7 bD aD (bS a λk6 f2 a=>VE (Eg d call258 (mo.mN (Fg mv f2)) λi6 d=>V (nK Z) (Wa (ln (CI a Z (λe4 a=>?_) λe4 a=>?_))))))
  ·refine lI (Wh I (VA d Mh b7 bD aD (VE (mn (cs:=b7.toArray) d (nw Z) (nU aJ aD bG) λi7 k2 d=>?_))))
   have d:=d.perm (Nr (Qb (Qb (Qb (Qb Qz)))) Nz)
   refine bS a λg8 e5 a=>VE (wW (B:=N) mQ d dc aJ uc.1 uc.2.1 Z uc.2.2.1 uc.2.2.2 Z Z D (EI.lit mQ (l:=[c]) (.cons (ys:=C1 c.Op c.K c.lh.lu c.lh.Word y c.Kids.length z) (lx.mk ⟨j3,Z,Y⟩) .nil) Z nb (d.at_ (Ma Mh))) e5 λi8 g9 g3 d e2=>Wa (mh (mx (mx (lE ?_)))))
   have d:=d.ll (Kr (Db (Db St)))
   exact ⟨eI,eN,x,g9,g8,g3,_,d.ll (Sb (Pr Pz) (Sb (Pr Pz) St)),U,H,u,Z,b0,e2,a⟩
  refine mU (mx (mx (lE ?_)))
  have d:=d.ll (Db St)
  exact ⟨eI,eN,x,K,J,N,_,d.ll,U,H,u,I,b0,D,a⟩
 rintro E W ⟨⟨eI,eN⟩,x,K,J,N,b9,d,U,H,u,I,b0,D,a⟩
 refine lE (lH (bg (Wh H (Wi Z (Wa (ln (CI a Z (λe6 a=>?_) λe6 a=>?_)))))))
 ·refine sg (bS a λg f3 a=>?_)
  let j1:Value:=vS g.lh.Word
  let h6:Value:=vS g.lh.lu
  refine VE (eD d (aT _) call259 (λh=>my.mN (Nu h  f3)) ?_ (L0:=[]))
  rintro _ k8 l9 h7 d c7 q ⟨l3,b2,rfl,c2⟩
  cases b2
  obtain ⟨Zq,a6,rfl⟩:=c2.form
  let g5:Value:= .slice Zq g.Kids.length a6
  let d9:Value:=vA [vI g.Op,vI g.K,h6,j1,g5]
  refine VO (lZ d9 (#[vI g.Op,vI g.K,h6,j1,g5]) d u Z aD oc nb Z (λj0 d=>ln ?_))
  have d:=d.ll (Kb (Kb (Dr St)))
  refine lO (nz (mj ?_))
  cases sj a
  exact oW (v:=d9) Z u (lC d.has Mh [vI g.Op,vI g.K,h6,j1,g5] Z bD aD) ⟨_,_,_,Z,d.mB (Db (Kb Sn)),c7,q,ST.lG d (mJ.mem (Db (Kb Sn))),g5,Z,Z,c2⟩
 refine sg (Wh H (Wh I (V (AS aJ Z D) (Wi Z (Wa (ln (CI a Z (λe7 a=>?_) λe7 a=>?_)))))))
 ·refine sg (bS a λj f4 a=>?_)
  let j2:Value:=vS j.lh.Word
  let i9:Value:=vS j.lh.lu
  refine VE (eD d (aT _) call260 (λh=>my.mN (Oz h  f4)) ?_ (L0:=[]))
  rintro _ k9 m0 h8 d c8 s ⟨l4,b3,rfl,c3⟩
  cases b3
  obtain ⟨a3,a7,rfl⟩:=c3.form
  let g4:Value:= .slice a3 j.Kids.length a7
  let d8:Value:=vA [vI j.Op,vI j.K,i9,j2,g4]
  refine VO (lZ d8 (#[vI j.Op,vI j.K,i9,j2,g4]) d u Z aD oc nb Z (λj4 d=>ln ?_))
  have d:=d.ll (Kb (Kb (Dr St)))
  refine lO (nz (mj ?_))
  cases sj a
  exact oW (v:=d8) Z u (lC d.has Mh [vI j.Op,vI j.K,i9,j2,g4] Z bD aD) ⟨_,_,_,Z,d.mB (Db (Kb Sn)),c8,s,ST.lG d (mJ.mem (Db (Kb Sn))),g4,Z,Z,c3⟩
 refine sg (Wh H (Wh I (V (AS aJ Z D) (Wi Z (Wa (ln (CI a Z (λe8 a=>?_) λe8 a=>?_)))))))
 ·refine sg (Wh U (Wh I ?_))
  have d:=d.perm (Nr (Qb (Qb Qz)) Nz)
  obtain ⟨m1,d,c9,O,f8⟩:=ST.Bb mQ d D
  refine bS a λk f5 a=>?_
  let h3:Value:=vS k.1.lh.Word
  let h1:Value:=vS k.1.lh.lu
  refine VE (eD d (Cb (Pb Pz) Cn) call247 (λh=>yZ h mv f5) ?_)
  rintro _ l0 m2 h9 d d0 P ⟨l5,b4,rfl,c4⟩
  cases b4
  have d:=d.perm (Tb Tn)
  obtain ⟨a4,a8,rfl⟩:=c4.form
  let e0:Value:= .slice a4 k.1.Kids.length a8
  let d6:Value:=vA [vI k.1.Op,vI k.1.K,h1,h3,e0]
  have d:=d.perm (Nb (Pb Pz) Nz)
  refine VO (lZ d6 (#[vI k.1.Op,vI k.1.K,h1,h3,e0]) d u Z aD oc nb Z (λj6 d=>lt (nz (mj ?_))))
  cases sj a
  exact oW (v:=d6) Z u (lC d.has Mh [vI k.1.Op,vI k.1.K,h1,h3,e0] Z bD aD) ⟨_,_,_,Z,d.mB (Db (Kb Sn)),c9.trans d0,O.trans P,ST.lG d (mJ.mem (Db (Kb Sn))),e0,Z,Z,c4⟩
 refine sg (Wh H (Wi Z (Wa (ln (CI a Z (λe9 a=>?_) λe9 a=>?_)))))
 ·refine sg (Wh U (Wh I ?_))
  have d:=d.perm (Nr (Qb (Qb Qz)) Nz)
  obtain ⟨m3,d,d1,a1,f9⟩:=ST.Bb mQ d D
  refine bS a λt f6 a=>?_
  let h4:Value:=vS t.1.lh.Word
  let h2:Value:=vS t.1.lh.lu
  refine VE (eD d (Cb (Pb Pz) Cn) call247 (λh=>yZ h mv f6) ?_)
  rintro _ l1 m4 i0 d d2 aa ⟨l6,b5,rfl,c5⟩
  cases b5
  have d:=d.perm (Tb Tn)
  obtain ⟨a5,a9,rfl⟩:=c5.form
  let e1:Value:= .slice a5 t.1.Kids.length a9
  let d7:Value:=vA [vI t.1.Op,vI t.1.K,h2,h4,e1]
  have d:=d.perm (Nb (Pb Pz) Nz)
  refine VO (lZ d7 (#[vI t.1.Op,vI t.1.K,h2,h4,e1]) d u Z aD oc nb Z (λj8 d=>lt (nz (mj ?_))))
  cases sj a
  exact oW (v:=d7) Z u (lC d.has Mh [vI t.1.Op,vI t.1.K,h2,h4,e1] Z bD aD) ⟨_,_,_,Z,d.mB (Db (Kb Sn)),d1.trans d2,a1.trans aa,ST.lG d (mJ.mem (Db (Kb Sn))),e1,Z,Z,c5⟩
 refine mU (mx (lE (sg (Wh H (Wh I ?_)))))
 have d:=d.perm (Nr (Qb (Qb Qz)) Nz)
 obtain ⟨m5,d,d3,ab,g0⟩:=ST.Bb mQ d D
 refine bS a λT f7 a=>?_
 refine VE (eD d (aT _) call261 (λh=>IH h mv f7) ?_ (L0:=[]))
 rintro _ l2 m6 i1 d d4 ad ⟨l7,i2,b6,rfl,c6⟩
 cases b6
 have d:=d.perm (Tr Tn)
 obtain ⟨M,Q,rfl⟩:=c6.form
 let g6:Value:= .slice M T.length Q
 let b8:Value:=vA [vI 4,vI x,vS zS,vS zS,g6]
 refine V (mW (v:=b8) (I5 Z Z Z) (mz bG cO (Hj _ cO) kr)) ?_
 have d:=d.perm (Nb (Pr Pz) Nz)
 refine VO (lZ b8 (#[vI 4,vI x,vS zS,vS zS,g6]) d u Z aD oc nb Z (λk0 d=>lt ?_))
 cases sj a
 refine oW (v:=b8) Z u (lC d.has Mh [vI 4,vI x,vS zS,vS zS,g6] Z bD aD) ?_
 have d:=d.perm (Nr (Qb Qz) Nz)
 obtain ⟨m7,d,d5,ae,g1⟩:=ST.Bb mQ d c6
 exact ⟨_,_,_,Z,d.mB (Db (Kb Sn)),(d3.trans d4).trans d5,(ab.trans ad).trans ae,ST.lG d (mJ.mem (Db (Kb Sn))),g6,Z,Z,g1⟩
theorem Fi (c9:nq→Formula→Option (Formula×nq)) (e6:∀(u:Nat) (a0:nq) (a:Formula) (y:Value) (r:(Formula×nq)) (w:World) {μ0:mO} (h0:oa μ0 ((u,Ol (nW a0) 299)::[]) w) (x:Sl lx 5 μ0 y a.Kids),c9 a0 a=some r→my false pg0 227 [vP u,vA [vI a.Op,vI a.K,vS a.lh.lu,vS a.lh.Word,y]] w μ0 ((u,Ol (nW a0) 299)::[]) λv L1 μ1=>∃y1,v=vA [vI r.1.Op,vI r.1.K,vS r.1.lh.lu,vS r.1.lh.Word,y1]∧L1=((u,Ol (nW r.2) 299)::[])∧Sl lx 5 μ1 y1 r.1.Kids) (u:Nat) (a0:nq) (a:Formula) (y:Value) (r:(Formula×nq)) (w:World) {μ0:mO} (h0:oa μ0 ((u,Ol (nW a0) 299)::[]) w) (x:Sl lx 5 μ0 y a.Kids) (hm:xw c9 a0 a=some r) :
  my false pg0 227 [vP u,vA [vI a.Op,vI a.K,vS a.lh.lu,vS a.lh.Word,y]] w μ0 ((u,Ol (nW a0) 299)::[]) (λv L1 μ1=>∃y1,v=vA [vI r.1.Op,vI r.1.K,vS r.1.lh.lu,vS r.1.lh.Word,y1]∧L1=((u,Ol (nW r.2) 299)::[])∧Sl lx 5 μ1 y1 r.1.Kids):=by
 let d0:=(u,Ol (nW a0) 299)::[]
 refine rG h0 39 func227 Z (λd=>sg ?_)
 obtain ⟨A1,c2,rfl⟩:=x.form
 let a1:=C1 a.Op a.K a.lh.lu a.lh.Word A1 a.Kids.length c2
 refine VE (mA d Z (λW4 b3 d=>VE (lY d bG λW6 b5 d=>lS (Wf zb (VB d (Mt Mh) Z Z bK (Wi Z (ln (CI hm Z (λf5 hm=>?_) λf5 hm=>?_))))))))
 ·refine sg (VA d (Mt Mh) a1 bD aD (VO (FA a1.toArray d aD λW8 d=>ln ?_)))
  have d:=d.ll (Kb (Db St))
  refine lO (mj ?_)
  cases sj hm
  exact oW (v:=vA a1) Z Z (lC d.has Mh a1 Z bD aD) ⟨_,_,_,Z,d.mB (Db (Kb Sn)),lM.refl _,Lo.refl,ST.lG d (mJ.mem (Db (Kb Sn))),.slice A1 a.Kids.length c2,Z,Z,x⟩
 refine kg (Wa (lS (Wf xQ (VB d (Mt Mh) Z Z fR (V (mP aJ Z x) (Wm (mh ?_)))))))
 refine lE (nM 15 14 (λi js E W=>∃I H T D J b7,lM μ0 J∧Lo (keys d0) w μ0 J∧ST false (keys d0) w W J ((u,Ol (nW D) 299)::((b5,Ol Dc 36)::((b3,Ol a1 36)::(T++b7))))∧E 0=vP u∧E 3=vP b3∧E 4=vP b5∧E 5=I∧E 13= .slice A1 a.Kids.length c2∧mX 36 lx 5 J I H T∧rN c9 a js H D=some r) x.len ⟨vN,[],[],a0,μ0,_,lM.refl _,Lo.refl,d.ll (Sb (Pb (Pb Pz)) St),Z,Z,Z,Z,Z,mX.nil _ _ _ _,hm⟩ ?_ ?_)
 ·rintro e7 t f6 E W e3 ⟨⟨eI,eN⟩,I,H,T,D,J,b7,z,h,d,a2,a3,G,b0,b9,K,g⟩
  refine sg (VQ (nI (i:=(e7:Int)) (x0:=t) lx.out aJ aD b9 eI mv (aF _) e3) λh4 ⟨_,⟨h5,rfl,c0⟩,d7⟩=>V (lq Z (mu d.has d7 bD aD)) (VE (lY d bG λg0 h2 d=>?_)))
  obtain ⟨a7,a9,rfl⟩:=c0.form
  let a6:=C1 t.Op t.K t.lh.lu t.lh.Word a7 t.Kids.length a9
  refine VO (FA a6.toArray d aD λg1 d=>ln (lI (Wh b0 (Wh a2 (VA d Mh a6 bD aD (bS g λc d8 g=>?_))))))
  refine VE (eD d (Cb (Pb Pz) Cn) call227 (λhh=>e6 u D t (.slice a7 t.Kids.length a9) _ _ hh mv d8) ?_)
  rintro _ h6 f1 f7 d b6 q ⟨h9,b1,rfl,c1⟩
  cases b1
  have d:=d.perm (Tb Tn)
  obtain ⟨M,U,rfl⟩:=c1.form
  let d1:Value:= .slice M c.1.Kids.length U
  refine VE (mn (cs:=#[vI c.1.Op,vI c.1.K,vS c.1.lh.lu,vS c.1.lh.Word,d1]) d (nw Z) (nU aJ aD bG) λg3 h3 d=>?_)
  have d:=d.perm (Nr (Qb (Qb (Qb (Qb (Qb Qz))))) Nz)
  refine bS g λe8 d5 g=>VE (wW (B:=T) mQ d dc aJ uc.1 uc.2.1 Z uc.2.2.1 uc.2.2.2 Z Z (K.mono mQ b6) (EI.lit mQ (l:=[c.1]) (.cons (ys:=[vI c.1.Op,vI c.1.K,vS c.1.lh.lu,vS c.1.lh.Word,d1]) (lx.mk ⟨d1,Z,c1⟩) .nil) Z nb (d.at_ (Ma Mh))) d5 λg4 e9 e5 d d4=>Wa (mh (mx (lE ?_))))
  have d:=d.ll (Kr (Db (Kb (Db St))))
  exact ⟨eI,eN,e9,e8,e5,c.2,f1,_,z.trans b6,h.trans q,d.ll (Sb (Pr Pz) (Sb (Pr Pz) (Sb (Pr Pz) St))),a2,a3,G,Z,b9,d4,g⟩
 rintro E W ⟨⟨eI,eN⟩,I,H,T,D,J,b7,z,h,d,a2,a3,G,b0,b9,K,g⟩
 refine lE (lH (sg (V (ly zb a3) (VB d (Mt (Mt Mh)) Z Z bK (Wi Z (ln (CI g Z (λd6 g=>?_) λd6 g=>?_)))))))
 ·refine sg (Wh a2 (V (ly ES a3) (VB d (Mt (Mt Mh)) Z Z bK (Wh b0 ?_))))
  have d:=d.perm (Nr (Qb (Qb (Qb Qz))) Nz)
  obtain ⟨i2,d,c5,s,e1⟩:=ST.Bb mQ d K
  refine bS g λj d9 g=>?_
  let f0:Value:=vS j.1.lh.Word
  let d3:Value:=vS j.1.lh.lu
  refine VE (eD d (Cb Pz Cn) call246 (λhh=>Gn hh mv d9) ?_)
  rintro _ h7 i3 f8 d c6 O ⟨i0,b2,rfl,c3⟩
  cases b2
  have d:=d.perm (Tb Tn)
  obtain ⟨N,Y,rfl⟩:=c3.form
  let b8:Value:= .slice N j.1.Kids.length Y
  let a5:Value:=vA [vI j.1.Op,vI j.1.K,d3,f0,b8]
  have d:=d.perm (Nb (Pb Pz) Nz)
  refine VO (lZ a5 (#[vI j.1.Op,vI j.1.K,d3,f0,b8]) d G Z aD oc nb Z (λg8 d=>ln ?_))
  have d:=d.ll (Kb (Kb (Db St)))
  refine lO (mj ?_)
  cases sj g
  exact oW (v:=a5) Z G (lC d.has Mh [vI j.1.Op,vI j.1.K,d3,f0,b8] Z bD aD) ⟨_,_,_,Z,d.mB (Db (Kb Sn)),(z.trans c5).trans c6,(h.trans s).trans O,ST.lG d (mJ.mem (Db (Kb Sn))),b8,Z,Z,c3⟩
 refine kg (Wh a2 (V (ly zb a3) (VB d (Mt (Mt Mh)) Z Z bK (Wh b0 ?_))))
 have d:=d.perm (Nr (Qb (Qb (Qb Qz))) Nz)
 obtain ⟨i4,d,c7,P,e2⟩:=ST.Bb mQ d K
 refine bS g λk e0 g=>?_
 let f2:Value:=vI k.1.Op
 let e4:Value:=vS k.1.lh.Word
 let d2:Value:=vS k.1.lh.lu
 refine VE (eD d (Cb Pz Cn) call247 (λhh=>yZ hh mv e0) ?_)
 rintro _ h8 i5 f9 d c8 aa ⟨i1,b4,rfl,c4⟩
 cases b4
 have d:=d.perm (Tb Tn)
 obtain ⟨Q,Zq,rfl⟩:=c4.form
 let a8:Value:= .slice Q k.1.Kids.length Zq
 let a4:Value:=vA [f2,vI k.1.K,d2,e4,a8]
 have d:=d.perm (Nb (Pb Pz) Nz)
 refine VO (lZ a4 (#[f2,vI k.1.K,d2,e4,a8]) d G Z aD oc nb Z (λh1 d=>ln ?_))
 have d:=d.ll (Kb (Kb (Db St)))
 refine lO ?_
 cases sj g
 exact oW (v:=a4) Z G (lC d.has Mh [f2,vI k.1.K,d2,e4,a8] Z bD aD) ⟨_,_,_,Z,d.mB (Db (Kb Sn)),(z.trans c7).trans c8,(h.trans P).trans aa,ST.lG d (mJ.mem (Db (Kb Sn))),a8,Z,Z,c4⟩
theorem CV:∀(n:Nat) (c:Nat) (j:nq) (g:Formula) (a:Value) (r:(Formula×nq)) (w:World) {k:mO} (y:oa k ((c,Ol (nW j) 299)::[]) w) (i:Sl lx 5 k a g.Kids) (_:pK n j g=some r),
  my false pg0 227 [vP c,vA [vI g.Op,vI g.K,vS g.lh.lu,vS g.lh.Word,a]] w k ((c,Ol (nW j) 299)::[]) (λv u x=>∃t,v=vA [vI r.1.Op,vI r.1.K,vS r.1.lh.lu,vS r.1.lh.Word,t]∧u=((c,Ol (nW r.2) 299)::[])∧Sl lx 5 x t r.1.Kids)
 | 0=>by intros; rename_i h; simp only [pK] at h; cases h
 | n+1=>Fi (pK n) (CV n)
theorem Mp {r:(Formula×Int)} (h0:oa qe [] qa) (k:Sl lx 5 qe q0 qy.Kids) (hm:Dw qy=some r) :
  my false pg0 197 [vA [vI qy.Op,vI qy.K,vS qy.lh.lu,vS qy.lh.Word,q0]] qa qe [] (λv L1 μ1=>∃y1,v=vT [vA [vI r.1.Op,vI r.1.K,vS r.1.lh.lu,vS r.1.lh.Word,y1],vI r.2]∧L1=[]∧Sl lx 5 μ1 y1 r.1.Kids):=by
 let O:Value:=vA Dc
 refine rG h0 27 func197 Z (λd=>sg ?_)
 obtain ⟨H,I,rfl⟩:=k.form
 let P:=C1 qy.Op qy.K qy.lh.lu qy.lh.Word H qy.Kids.length I
 refine VE (mA d Z (λW4 b3 d=>VE (lY d bG λW6 b5 d=>Wa (lS (VA d (Mt Mh) P bD aD (bS hm λr7 a5 hm=>VE (Eg d call25 (wv mv a5) λW9 d=>V (nK Z) (ln (CI hm Z (λQ hm=>?_) λQ hm=>?_)))))))))
 ·refine sg (V (mW (v:=O) pP (mz bG cO (Hj _ cO) kr)) (VO (lZ O Dc.toArray d Z Z aD oc nb Z (λb6 d=>Wa (ln ?_)))))
  have d:=d.ll (Kb (Db St))
  refine lO (mj ?_)
  cases sj hm
  exact rf (v0:=O) (v1:=vI 11) Z Z (lC d.has Mh Dc Z bD aD) Z ⟨_,_,_,Z,d.mB Sn,lM.refl _,Lo.refl,ST.lG d (mJ.mem Sn),vN,Z,Z,Sl.nil _ _ _⟩
 refine kg (V (mW (v:=vA (nW K5)) pP (mz zeroValue299 km (acs _ km) kr)) (VE (mA d Z (λb7 a1 d=>Wa (lr (Wm (VA d (Mt (Mt Mh)) P bD aD (bS hm λa U hm=>?_))))))))
 let u:Value:=vI a.1.K
 let s:Value:=vI a.1.Op
 let q:Value:=vS a.1.lh.Word
 let a2:Value:=vS a.1.lh.lu
 refine VE (eD d (Cb Pz Cn) call227 (λhh=>(CV mZ) a1 K5 qy (.slice H qy.Kids.length I) _ _ hh mv U) ?_)
 rintro _ c7 a9 b4 d D h ⟨c9,y,rfl,z⟩
 cases y
 have d:=d.perm (Tb Tn)
 refine VE (lY d bG λc0 K d=>?_)
 obtain ⟨i,j,rfl⟩:=z.form
 let a0:Value:= .slice i a.1.Kids.length j
 let N:Value:=vA [s,u,a2,q,a0]
 refine VO (lZ N (#[s,u,a2,q,a0]) d Z Z aD oc nb Z (λc1 d=>ln ?_))
 have d:=d.ll (Kb (Kb (Kb (Db St))))
 refine lH (sg (Wm (Wn (Wf Uo (VB d (Mt Mh) Z Z kZ (Wi Z (Wm (LJ hm (λM E W=>∃J,ST false (keys []) qa W a9 ((K,Ob #[s,u,a2,q,a0] 36)::((b5,Ol Dc 36)::J))∧E 2=vP b5∧E 5=vP K∧E 24=vB M) 4 ?_ λM t G=>?_))))))))
 ·rintro c8 E W ⟨J,d,B,a3,a4⟩ x
  refine ln (CI x a4 (λT x=>?_) λT x=>?_)
  ·refine sg (V (mW (v:=O) pP (mz bG cO (Hj _ cO) kr)) ?_)
   have d:=d.perm (Nb (Pb Pz) Nz)
   refine VO (lZ O Dc.toArray d B Z aD oc nb Z (λc3 d=>Wa (ln ?_)))
   have d:=d.ll (Kb (Db St))
   refine lO (mj ?_)
   cases sj x
   exact rf (v0:=O) (v1:=vI 12) Z B (lC d.has Mh Dc Z bD aD) Z ⟨_,_,_,Z,d.mB Sn,D,h,ST.lG d (mJ.mem Sn),vN,Z,Z,Sl.nil _ _ _⟩
  refine kg (V (lq a3 (lC d.has Mh [s,u,a2,q,a0] Z bD aD)) ?_)
  have d:=d.perm (Nb (Pb Pz) Nz)
  refine VO (lZ N (#[s,u,a2,q,a0]) d B Z aD oc nb Z (λc4 d=>Wa (ln ?_)))
  have d:=d.ll (Kb (Db St))
  refine lO ?_
  cases sj x
  exact rf (v0:=N) (v1:=vI 0) Z B (lC d.has Mh [s,u,a2,q,a0] Z bD aD) Z ⟨_,_,_,Z,d.mB Sn,D,h,ST.lG d (mJ.mem Sn),a0,Z,Z,z⟩
 refine bC t (λg t=>?_) (λg t=>?_)
 ·refine un g (un g (un g (V (lQ (cB g) Z) ?_)))
  cases sj t
  exact G _ _ ⟨_,d.ll (Kb (Db St)),Z,Z,Z⟩
 refine ug g (lq Z (lC d.has Mh [s,u,a2,q,a0] Z bD aD)) (bS t λc6 Y t=>tw g (Eg d call25 (wv mv Y) λc5 d=>ug g (nK Z) (V (lN (cB g) Z) ?_)))
 cases sj t
 exact G _ _ ⟨_,d.ll (Kb (Db St)),Z,Z,Z⟩
theorem Qt {r:(Formula×Int)} (O:oa qe [] qa) (i:Sl lx 5 qe q0 qy.Kids) (j:Sl lx 5 qe q1 qz.Kids) (hm:DF qy qz=some r) :
  my false pg0 198 [vA [vI qy.Op,vI qy.K,vS qy.lh.lu,vS qy.lh.Word,q0],vA [vI qz.Op,vI qz.K,vS qz.lh.lu,vS qz.lh.Word,q1]] qa qe [] (λv t μ1=>∃Y,v=vT [vA [vI r.1.Op,vI r.1.K,vS r.1.lh.lu,vS r.1.lh.Word,Y],vI r.2]∧t=[]∧Sl lx 5 μ1 Y r.1.Kids):=by
 refine rG O 13 func198 Z (λa=>sg ?_)
 obtain ⟨u,z,rfl⟩:=i.form
 let a3:Value:= .slice u qy.Kids.length z
 refine VE (mA a Z (λW4 b3 a=>?_))
 obtain ⟨y,G,rfl⟩:=j.form
 let q:Value:= .slice y qz.Kids.length G
 refine VE (mA a Z (λW8 b7 a=>VE (lY a bG λa5 b9 a=>Wa (lr (VA a (Mt (Mt Mh)) (C1 qy.Op qy.K qy.lh.lu qy.lh.Word u qy.Kids.length z) bD aD (VA a (Mt Mh) (C1 qz.Op qz.K qz.lh.lu qz.lh.Word y qz.Kids.length G) bD aD (VE (mn (cs:=#[vI qy.Op,vI qy.K,vS qy.lh.lu,vS qy.lh.Word,a3,vI qz.Op,vI qz.K,vS qz.lh.lu,vS qz.lh.Word,q]) a (pZ Z Z) (nU aJ aD bG) λW I a=>V (mW (v:=vA [vI 2,vI 0,vS zS,vS zS,.slice (some ⟨I,0,none⟩) 2 2]) (pZ Z Z) (mz bG cO (Hj _ cO) kr)) ?_))))))))
 obtain ⟨b1,a,K,d,U⟩:=ST.Bb (B:=[(I,Ob #[vI qy.Op,vI qy.K,vS qy.lh.lu,vS qy.lh.Word,a3,vI qz.Op,vI qz.K,vS qz.lh.lu,vS qz.lh.Word,q] 36)]) mQ a (mX.lit mQ (l:=[qy,qz]) (.cons (ys:=C1 qy.Op qy.K qy.lh.lu qy.lh.Word u qy.Kids.length z) (lx.mk ⟨a3,Z,i⟩) (.cons (ys:=C1 qz.Op qz.K qz.lh.lu qz.lh.Word y qz.Kids.length G) (lx.mk ⟨q,Z,j⟩) .nil)) Z nb Z)
 refine bS hm λg T hm=>?_
 let s:Value:=vI g.1.Op
 let a2:Value:=vS g.1.lh.Word
 let k:Value:=vS g.1.lh.lu
 refine VE (eD a (aT _) call197 (λP=>Mp P mv T) ?_ (L0:=[]))
 rintro _ a9 b2 a4 a M h ⟨b0,H,rfl,J⟩
 cases H
 refine Wx Z (Wx Z ?_)
 obtain ⟨x,D,rfl⟩:=J.form
 let a0:Value:= .slice x g.1.Kids.length D
 let Q:Value:=vA [s,vI g.1.K,k,a2,a0]
 refine VO (lZ Q (#[s,vI g.1.K,k,a2,a0]) a Z Z aD oc nb Z (λa8 a=>Wa (ln ?_)))
 have a:=a.ll (Kb (Db (Db St)))
 refine lO ?_
 cases sj hm
 exact rf (v0:=Q) (v1:=vI g.2) Z Z (lC a.has Mh [s,vI g.1.K,k,a2,a0] Z bD aD) Z ⟨_,_,_,Z,a.mB Sn,K.trans M,d.trans h,ST.lG a (mJ.mem Sn),a0,Z,Z,J⟩
theorem SU {r:(Formula×Int)} (h0:oa qe [] qa) (c6:Sl lx 5 qe q0 qA) (hm:BA qA=some r) :
  my false pg0 159 [q0] qa qe [] (λv L1 μ1=>∃y1,v=vT [vA [vI r.1.Op,vI r.1.K,vS r.1.lh.lu,vS r.1.lh.Word,y1],vI r.2]∧L1=[]∧Sl lx 5 μ1 y1 r.1.Kids):=by
 refine rG h0 36 func159 Z (λd=>sg (VE (lY d bG λW2 b1 d=>Wa (lr (Wm (bS hm λx6 d9 hm=>VQ (nI (i:=0) (x0:=x6) lx.out aJ aD Z Z c6 (mK d9) (mE d9)) λp3 ⟨_,⟨v8,rfl,e9⟩,e8⟩=>V (lq Z (mu d.has e8 bD aD)) (bS hm λj e2 hm=>?_)))))))
 refine VE (eD d (aT _) call197 (λhh=>Mp hh (e9.mono mQ.mono (lM.refl _)) e2) ?_ (L0:=[]))
 rintro _ i1 a9 h7 d a4 s ⟨i2,b6,rfl,c9⟩
 cases b6
 refine Wm (Wx Z (Wx Z (VE (lY d bG λh9 b7 d=>?_))))
 obtain ⟨c2,c4,rfl⟩:=c9.form
 let d2:Value:= .slice c2 j.1.Kids.length c4
 refine VO (FA (#[vI j.1.Op,vI j.1.K,vS j.1.lh.lu,vS j.1.lh.Word,d2]) d aD λi0 d=>Wa (lS (Wm (bS hm λ_ c7 hm=>VQ (Ds (i:=1) aJ aD Z Z (c6.mono mQ.mono a4) (uh c7) (tY c7)) λf0 b5=>V (mP aJ Z b5.1) (Wm (ln (CJ hm (λu E W=>∃a6 U c3,lM a9 U∧Lo (keys []) qa a9 U∧ST false (keys []) qa W U ((b7,Ob #[vI u.2.1,vI u.2.2.1,vS u.2.2.2.1.lu,vS u.2.2.2.1.Word,a6] 36)::((b1,Ol Dc 36)::c3))∧E 2=vP b1∧E 4=vP b7∧E 5=vI u.1∧Sl lx 5 U a6 u.2.2.2.2) (λu d5=>?_) ?_)))))))
 ·refine nM 18 17 (λi js E W=>∃a7 G H y x N z b2,lM a9 z∧Lo (keys []) qa a9 z∧ST false (keys []) qa W z ((b7,Ob #[vI G,vI H,vS y.lu,vS y.Word,x] 36)::((b1,Ol Dc 36)::b2))∧E 2=vP b1∧E 4=vP b7∧E 5=vI a7∧E 16=f0∧Sl lx 5 z x N∧yM js a7 G H y N=some u) b5.1.len ⟨j.2,j.1.Op,j.1.K,j.1.lh,d2,j.1.Kids,a9,_,lM.refl _,Lo.refl,d.ll,Z,Z,Z,Z,c9,d5⟩ ?_ ?_
  ·rintro e3 a f3 E W d8 ⟨⟨eI,eN⟩,a7,G,H,y,x,N,z,b2,t,h,d,a2,D,a3,b4,I,g⟩
   refine sg (VQ (nI (i:=(e3:Int)) (x0:=a) lx.out aJ aD b4 eI (b5.1.mono mQ.mono t) (aF _) d8) λg7 ⟨_,⟨h1,rfl,c0⟩,d6⟩=>V (lq Z (mu d.has d6 bD aD)) (VE (lY d bG λf9 g3 d=>?_)))
   obtain ⟨Y,Zq,rfl⟩:=c0.form
   let b8:=C1 a.Op a.K a.lh.lu a.lh.Word Y a.Kids.length Zq
   refine VO (FA b8.toArray d aD λg0 d=>lS (Wh a3 (Wi Z (ln (CI g Z (λd4 g=>?_) λd4 g=>?_)))))
   ·refine pg (oL (YQ rv (oL (uO (lE ?_)))))
    cases sj g
    exact ⟨x,z,_,t,h,d.ll (Db St),a2,D,a3,I⟩
   refine kn (lI (V (lq D (lC d.has (Mt Mh) [vI G,vI H,vS y.lu,vS y.Word,x] Z bD aD)) (VA d Mh b8 bD aD (bS g λc d7 g=>?_))))
   refine VE (eD d (aT _) call198 (λhh=>Qt hh (I.mono mQ.mono (lM.refl _)) (c0.mono mQ.mono (lM.refl _)) d7) ?_ (L0:=[]))
   rintro _ h2 e6 f6 d c8 O ⟨h5,a5,rfl,c1⟩
   cases a5
   refine Wm (Wx Z (Wx Z ?_))
   obtain ⟨b0,b3,rfl⟩:=c1.form
   let e1:Value:= .slice b0 c.1.Kids.length b3
   have d:=d.perm (Nb (Pb Pz) Nz)
   refine VO (lZ (vA [vI c.1.Op,vI c.1.K,vS c.1.lh.lu,vS c.1.lh.Word,e1]) (#[vI c.1.Op,vI c.1.K,vS c.1.lh.lu,vS c.1.lh.Word,e1]) d D Z aD oc nb Z (λg2 d=>Wa (mh (mx (lE ?_)))))
   have d:=d.ll (Kb (Db St))
   exact ⟨eI,eN,c.2,c.1.Op,c.1.K,c.1.lh,e1,c.1.Kids,e6,_,t.trans c8,h.trans O,d.ll,a2,D,Z,b4,c1,g⟩
  rintro E W ⟨⟨eI,eN⟩,a7,G,H,y,x,N,z,b2,t,h,d,a2,D,a3,b4,I,g⟩
  refine lE ?_
  cases sj g
  exact ⟨x,z,_,t,h,d.ll,a2,D,a3,I⟩
 rintro ⟨e4,Q,T,k,M⟩ E W ⟨a6,U,c3,a8,q,d,P,e0,c5,b9⟩ B
 refine lH (sg (Wh c5 (Wi Z (ln (CI B Z (λd3 B=>?_) λd3 B=>?_)))))
 ·refine sg (V (mW (v:=vA Dc) pP (mz bG cO (Hj _ cO) kr)) (Wh c5 ?_))
  have d:=d.perm (Nb (Pb Pz) Nz)
  refine VO (lZ (vA Dc) Dc.toArray d P Z aD oc nb Z (λf7 d=>Wa (ln ?_)))
  have d:=d.ll (Kb (Db St))
  refine lO (mj ?_)
  cases sj B
  exact rf (v0:=vA Dc) (v1:=vI e4) Z P (lC d.has Mh Dc Z bD aD) Z ⟨_,_,_,Z,d.mB Sn,a4.trans a8,s.trans q,ST.lG d (mJ.mem Sn),vN,Z,Z,Sl.nil _ _ _⟩
 refine kg (V (lq e0 (lC d.has Mh [vI Q,vI T,vS k.lu,vS k.Word,a6] Z bD aD)) ?_)
 obtain ⟨J,K,rfl⟩:=b9.form
 let d1:=C1 Q T k.lu k.Word J M.length K
 have d:=d.perm (Nb (Pb Pz) Nz)
 refine VO (lZ (vA d1) d1.toArray d P Z aD oc nb Z (λf8 d=>Wa (ln ?_)))
 have d:=d.ll (Kb (Db St))
 refine lO ?_
 cases sj B
 exact rf (v0:=vA d1) (v1:=vI 0) Z P (lC d.has Mh d1 Z bD aD) Z ⟨_,_,_,Z,d.mB Sn,a4.trans a8,s.trans q,ST.lG d (mJ.mem Sn),.slice J M.length K,Z,Z,b9⟩
theorem CQ {r:(Formula×Int)} (h0:oa qe [] qa) (t:Sl lU 15 qe q0 qJ.lK) (y:Sl mH 8 qe q1 qJ.mi) (hm:zX qJ qC=some r) :
  my false pg0 119 [vA [vS qJ.Name,q0,q1],vA (lj qC)] qa qe [] (λv L1 μ1=>∃y1,v=vT [vA [vI r.1.Op,vI r.1.K,vS r.1.lh.lu,vS r.1.lh.Word,y1],vI r.2]∧L1=[]∧Sl lx 5 μ1 y1 r.1.Kids):=by
 refine rG h0 41 func119 Z (λd=>sg ?_)
 obtain ⟨A1,c2,rfl⟩:=t.form
 obtain ⟨A3,c4,rfl⟩:=y.form
 let f1:=IV qJ.Name A1 qJ.lK.length c2 A3 qJ.mi.length c4
 refine VE (mA d Z (λW6 b5 d=>VE (mA d Z (λW8 b7 d=>VE (lY d bG λi0 b9 d=>Wa (lr (VA d (Mt (Mt Mh)) f1 fa eo (VA d (Mt Mh) (lj qC) bF aI (bS hm λa e3 hm=>?_)))))))))
 let b8:Value:=vI a.1.lB.K
 let s:Value:=vI a.1.lB.Op
 let b1:=a.1.lB.lh
 let O:Value:=vS b1.Word
 let d4:Value:=vS b1.lu
 let a0:=a.1.Signed.lg
 refine VE (eD d (aT _) call157 (λP=>Su P mv mv e3) ?_ (L0:=[]))
 rintro _ i9 j5 h8 d I h ⟨j3,j4,a5,rfl,e5,c5⟩
 obtain rfl:=a5.symm
 refine Wm (Wx Z (Wx Z (VE (lY d fl λi2 i7 d=>?_))))
 obtain ⟨d5,d7,rfl⟩:=e5.form
 let f4:Value:= .slice d5 a.1.Signed.Tag.length d7
 obtain ⟨z,D,rfl⟩:=c5.form
 let a2:Value:= .slice z a.1.lB.Kids.length D
 refine VO (FA (#[vI a0.Kind,vS a0.Head.lu,vS a0.Head.Word,vS a0.nj,vS a0.B.lu,vS a0.B.Word,vS a0.C.lu,vS a0.C.Word,vS a0.mV,f4,s,b8,d4,O,a2]) d dO λi3 d=>Wa (lS (Wm (V (nK Z) (ln (CI hm Z (λe2 hm=>?_) λe2 hm=>?_))))))
 ·refine sg (V (mW (v:=vA Dc) pP (mz bG cO (Hj _ cO) kr)) ?_)
  have d:=d.perm (Nb (Pb Pz) Nz)
  refine VO (FA Dc.toArray d aD λi4 d=>Wa (ln ?_))
  have d:=d.ll (Kb (Db (Db (Db St))))
  refine lO (mj ?_)
  obtain rfl:=sj hm
  exact rf (v0:=vA Dc) (v1:=vI 42) Z Z (lC d.has Mh Dc Z bD aD) Z ⟨_,_,_,Z,d.mB Sn,I,h,ST.lG d (mJ.mem Sn),vN,Z,Z,Sl.nil _ _ _⟩
 refine kg (Wf QY (VA d Mh [s,b8,d4,O,a2] bD aD (VE (mn (cs:=#[s,b8,d4,O,a2]) d (nw Z) (nU aJ aD bG) λi5 d6 d=>Wa (ln ?_)))))
 have d:=d.ll (Kb (Db St))
 refine lH (sg (VA d (Mt (Mt (Mt Mh))) f1 fa eo (VA d (Mt (Mt Mh)) (lj qC) bF aI (bS hm λi8 e4 hm=>?_))))
 refine VE (eD d (aT _) call158 (λP=>QD P mv mv e4) ?_ (L0:=[]))
 rintro _ j0 d8 h9 d a8 a1 ⟨f2,a6,rfl,a7⟩
 obtain rfl:=a6.symm
 refine V (mP cW Z a7) (Wm (ln ?_))
 have d:=d.ll (Kb (Kb (Db (Db St))))
 have d:=d.JA
 refine nM 27 26 (λi js E W=>∃Q N K Zq,ST false (keys []) qa W d8 ((b9,Ol Dc 36)::(K++Zq))∧E 4=vP b9∧E 8=Q∧E 25=f2∧mX 36 lx 5 d8 Q N K∧zx js N=some r) a7.len ⟨.slice (some ⟨d6,0,none⟩) 1 1,[a.1.lB],[(d6,Ob #[s,b8,d4,O,a2] 36)],_,d.ll (Sb (Pr Pz) St),Z,Z,Z,mX.lit mQ (l:=[a.1.lB]) (.cons (ys:=[s,b8,d4,O,a2]) (lx.mk ⟨a2,Z,mv⟩) .nil) Z nb Z,hm⟩ ?_ ?_
 ·rintro e6 c f3 E W d3 ⟨⟨eI,eN⟩,Q,N,K,Zq,d,T,a3,a4,U,j⟩
  refine sg (VQ (nI (i:=(e6:Int)) (x0:=c) mH.out cW dB a4 eI a7 (aF _) d3) λg7 ⟨_,⟨h1,h2,rfl,a9,d1⟩,c9⟩=>V (lq Z (mu d.has c9 iP dB)) (VE (lY d gh λf6 g2 d=>?_)))
  obtain ⟨u,x,rfl⟩:=a9.form
  let c6:=C1 c.lB.Op c.lB.K c.lB.lh.lu c.lB.lh.Word u c.lB.Kids.length x
  obtain ⟨b2,b6,rfl⟩:=d1.form
  let c0:=C8 c.lh.lu c.lh.Word c.lB.Op c.lB.K c.lB.lh.lu c.lB.lh.Word u c.lB.Kids.length x b2 c.nP.length b6
  refine VO (FA c0.toArray d dB λf7 d=>ln (lI (Wh a3 (Wf IU (VA d Mh c6 bD aD (VE (mn (cs:=c6.toArray) d (nw Z) (nU aJ aD bG) λf8 g3 d=>?_)))))))
  have d:=d.perm (Nr (Qb (Qb (Qb Qz))) Nz)
  refine bS j λe7 c8 j=>VE (wW (B:=K) mQ d dc aJ uc.1 uc.2.1 Z uc.2.2.1 uc.2.2.2 Z Z U (EI.lit mQ (l:=[c.lB]) (.cons (ys:=C1 c.lB.Op c.lB.K c.lB.lh.lu c.lB.lh.Word u c.lB.Kids.length x) (lx.mk ⟨.slice u c.lB.Kids.length x,Z,a9⟩) .nil) Z nb (d.at_ (Ma Mh))) c8 λf9 e8 d9 d c7=>Wa (mh (mx (lE ?_))))
  have d:=d.ll (Kr (Db (Db St)))
  exact ⟨eI,eN,e8,e7,d9,_,d.ll (Sb (Pr Pz) St),T,Z,a4,c7,j⟩
 rintro E W ⟨⟨eI,eN⟩,Q,N,K,Zq,d,T,a3,a4,U,j⟩
 refine lE (sg (Wh a3 ?_))
 have d:=d.perm (Nr (Qb Qz) Nz)
 obtain ⟨h6,d,c1,k,d2⟩:=ST.Bb mQ d U
 refine bS j λg d0 j=>?_
 let g0:Value:=vI g.1.Op
 let f0:Value:=vS g.1.lh.Word
 let e9:Value:=vS g.1.lh.lu
 refine VE (eD d (aT _) call159 (λP=>SU P mv d0) ?_ (L0:=[]))
 rintro _ h3 h7 f5 d c3 q ⟨h4,Y,rfl,b0⟩
 obtain rfl:=Y.symm
 refine Wx Z (Wx Z ?_)
 obtain ⟨J,M,rfl⟩:=b0.form
 let e0:Value:= .slice J g.1.Kids.length M
 let b4:Value:=vA [g0,vI g.1.K,e9,f0,e0]
 refine VO (lZ b4 (#[g0,vI g.1.K,e9,f0,e0]) d T Z aD oc nb Z (λg1 d=>Wa (lt ?_)))
 obtain rfl:=sj j
 exact rf (v0:=b4) (v1:=vI g.2) Z T (lC d.has Mh [g0,vI g.1.K,e9,f0,e0] Z bD aD) Z ⟨_,_,_,Z,d.mB Sn,((I.trans a8).trans c1).trans c3,((h.trans a1).trans k).trans q,ST.lG d (mJ.mem Sn),e0,Z,Z,b0⟩
theorem Jo (N:Formula→(lh→Option Bool)→Option Bool) (a3:∀(j:Formula) (k:Value) (t:Value) (J:lh→Option Bool) (r:Bool) (w:World) (c:Sl lx 5 (hp w) k j.Kids) (K:Dd pg0 t (hp w) (λ(x:lh)=>[vA (lp x)]) (λ(r:Bool)=>vB r) J),N j J=some r→mo false pg0 149 [vA [vI j.Op,vI j.K,vS j.lh.lu,vS j.lh.Word,k],t] w (vB r)) (j:Formula) (k t:Value) (J:lh→Option Bool) (r:Bool) (w:World) (c:Sl lx 5 (hp w) k j.Kids) (K:Dd pg0 t (hp w) (λ(x:lh)=>[vA (lp x)]) (λ(r:Bool)=>vB r) J) (hm:A8 N j J=some r) :
  mo false pg0 149 [vA [vI j.Op,vI j.K,vS j.lh.lu,vS j.lh.Word,k],t] w (vB r):=by
 refine cG 45 func149 Z (λd=>sg ?_)
 obtain ⟨A1,c2,rfl⟩:=c.form
 refine VE (mA d Z (λW4 s d=>Wa (lS (Wf zb (VB d Mh Z Z bK (Wi Z (ln (CI hm Z (λO hm=>?_) λO hm=>?_))))))))
 ·refine sg (Wm (Wf Dz (VA d Mh (lp j.lh) bJ aM (bS hm λr6 P hm=>VE (Sw j.lh d K (lM.refl _) Z (pp Z) P λW8 d=>Wa (ln ?_))))))
  have d:=d.ll (Db St)
  refine lO (mj ?_)
  cases sj hm
  exact rP d
 refine kg (Wa (lS (Wf xQ (VB d Mh Z Z fR (V (mP aJ Z c) (Wm (mh ?_)))))))
 refine lE (nM 18 17 (λi js E W=>∃z I,ST false nf w W (hp w) ((s,Ol (C1 j.Op j.K j.lh.lu j.lh.Word A1 j.Kids.length c2) 36)::I)∧E 1=t∧E 2=vP s∧E 5=vI z∧E 16= .slice A1 j.Kids.length c2∧uC N J j js z=some r) c.len ⟨0,_,d.ll,Z,Z,Z,Z,hm⟩ ?_ ?_)
 ·rintro a8 g b7 E W a4 ⟨⟨h,q⟩,z,I,d,G,u,y,H,a⟩
  refine sg (VQ (nI (i:=(a8:Int)) (x0:=g) lx.out aJ aD H h c (aF _) a4) λb4 ⟨_,⟨b6,rfl,M⟩,Y⟩=>V (lq Z (mu d.has Y bD aD)) (VE (lY d bG λa9 b2 d=>?_)))
  obtain ⟨B,D,rfl⟩:=M.form
  let a0:=C1 g.Op g.K g.lh.lu g.lh.Word B g.Kids.length D
  refine VO (FA a0.toArray d aD λb0 d=>lr (VA d Mh a0 bD aD (Wh G (bS a λb5 v a=>VE (Eg d call149 (a3 g (.slice B g.Kids.length D) t J _ _ mv (K.mono d.ns) v) λb1 d=>ln ?_)))))
  have d:=d.ll (Db St)
  refine CI a Z (λQ a=>?_) (λQ a=>?_)
  ·exact lI (Wh y (Wi Z (Wa (mh (mx (lE ⟨h,q,wi0 .i64 (z+1),_,d.ll,G,u,Z,H,a⟩))))))
  exact mU (mx (lE ⟨h,q,z,_,d.ll,G,u,y,H,a⟩))
 rintro E W ⟨⟨h,q⟩,z,I,d,G,u,y,H,a⟩
 refine lE (lH (sg (V (ly zb u) (VB d Mh Z Z bK (ln (bg (Wi Z (Wa (ln ?_)))))))))
 refine CI a Z (λT a=>?_) (λT a=>?_)
 ·refine sg (Wh y (V (ly xQ u) (VB d Mh Z Z fR (V (mP aJ Z c) (Wi Z (Wa (ln ?_)))))))
  have d:=d.ll (Db St)
  refine lO (nz (mj ?_))
  cases sj a
  exact rP d
 refine sg (Wi Z (Wa (ln (CI a Z (λU a=>?_) λU a=>?_))))
 ·refine sg (Wh y (Wi Z (Wa (ln ?_))))
  have d:=d.ll (Db St)
  refine lO (nz (mj ?_))
  cases sj a
  exact rP d
 refine mU (mx (lE (sg (Wh y (V (ly ES u) (VB d Mh Z Z bK (Wi Z (Wa (ln ?_)))))))))
 exact lO (rQ a d)
theorem HV:∀(n:Nat) (c:Formula) (a:Value) (g:Value) (j:lh→Option Bool) (r:Bool) (w:World) (i:Sl lx 5 (hp w) a c.Kids) (k:Dd pg0 g (hp w) (λ(x:lh)=>[vA (lp x)]) (λ(r:Bool)=>vB r) j) (_:vh n c j=some r),
  mo false pg0 149 [vA [vI c.Op,vI c.K,vS c.lh.lu,vS c.lh.Word,a],g] w (vB r)
 | 0=>by intros; rename_i h; simp only [vh] at h; cases h
 | n+1=>Jo (vh n) (HV n)
theorem AB {G:lh→Option Bool} (c:Sl lx 5 (hp qa) q0 qy.Kids) (z:Dd pg0 q1 (hp qa) (λ(x:lh)=>[vA (lp x)]) (λ(qf:Bool)=>vB qf) G) (hm:tR qy G=some qf) :
  mo false pg0 111 [vA [vI qy.Op,vI qy.K,vS qy.lh.lu,vS qy.lh.Word,q0],q1] qa (vB qf):=by
 refine cG 16 func111 Z (λa=>sg ?_)
 obtain ⟨u,y,rfl⟩:=c.form
 let a0:=C1 qy.Op qy.K qy.lh.lu qy.lh.Word u qy.Kids.length y
 refine VE (mA a Z (λU d a=>Wa (lr (Wm (V (XU underlying185 z.form Z Z) (Wm (Vg Z Z (lq Z (lC a.has Mh a0 Z bD aD)) (bS hm λh K hm=>Sk Z Z (Eg a call25 (wv mv K) λY a=>V (lQ Z Z) (Wm (LJ hm (λD E W=>∃B,ST false nf qa W (hp qa) B∧E 4=vB false∧E 15=vB D) 4 ?_ λD g t=>?_)))))))))))
 ·rintro T E W ⟨B,a,N,J⟩ H
  exact Wg J (lt (rQ H a))
 refine bC g (λi g=>?_) (λi g=>?_)
 ·refine ug i (lq Z (lC a.has Mh a0 Z bD aD)) (ug i (lz Z) (bS g λQ I g=>tw i (Eg a call149 ((HV mZ) qy (.slice u qy.Kids.length y) q1 G _ _ mv (z.mono a.ns) I) λM a=>V (lQ (cB i) Z) ?_)))
  cases sj g
  exact t _ _ ⟨_,a.ll (Db St),Z,Z⟩
 refine un i (un i (un i (V (lN (cB i) Z) ?_)))
 cases sj g
 exact t _ _ ⟨_,a.ll (Db St),Z,Z⟩
theorem DV (H:sQ (λ(x:lh)=>vA (lp x)) (ng Value.string λ(x:Bool)=>Value.bool x) (hp qa) q0 qN) (T:Sl (Pl lj) 9 (hp qa) q1 qt) (j:sQ (λ(x:lh)=>vA (lp x)) (mg 69 lj 9) (hp qa) q2 qO) (U:sQ Value.string (mg 69 lj 9) (hp qa) q3 qM) (Y:Sl (Pl ot) 3 (hp qa) q4 qP) (Q:At (hp qa) (vP qh) [q0,q1,q2,q3,q4,vI qb]) (hm:ux qN qt qO qM qP qb qK qE=some qf) :
  mo true pg0 121 [vP qh,vA (lp qK),vS qE] qa (vB qf):=by
 refine cG 19 func121 Z (λd=>sg (VE (mA d Z (λW2 s d=>Wa (ln (lH ?_))))))
 have d:=d.drew
 have a:=d.has.ll (Kb Sn)
 refine mF a lV (X 0 Z a (lz Z) (X 1 Z a (Bj underlying192 Z Z) (X 2 Z a (lz Z) (Xg 3 Z Z Z a (lz Z) (Xg 4 Z Z Z a (lX Z) (ym 5 Z kr (.inr ⟨2,true,9,Z,Z,tc,Z⟩) Z dc (λ_ _ h=>h) a (pM [q0] CO Z Q Z) λq a3=>uV 6 Z Z Z a (λ_ g=>lq Z (om g (y:=q0) a3 iO)) (uV 7 Z Z Z a (λ_ g=>lq Z (lC g Mh (lp qK) Z bJ aM)) ?_)))))))
 obtain ⟨a4,a5,M,N⟩:=H
 refine uV 8 Z Z Z a (λ_ g=>ur (k:=qK) (z:= .map none) DY fp gf Z Z M λb o i=>g.1 b o (N b o i)) (Xg 9 Z Z Z a (lz Z) (uV 10 Z Z Z a (λ_ g=>zG (k:=qE) (z:=false) (vf:=λ(x:Bool)=>Value.bool x) HQ fq gC Z Z ((oS.JE mw.1 M qK N).mono λb o i=>g.1 b o i)) (X 11 Z a (lQ Z Z) (X 12 Z a (nB Z) (mG kr (lE ?_))))))
 exact lO (rQ hm d)
theorem FY (a5:sQ (λ(x:lh)=>vA (lp x)) (ng Value.string λ(x:Bool)=>Value.bool x) (hp qa) q0 qN) (U:Sl (Pl lj) 9 (hp qa) q1 qt) (a4:sQ (λ(x:lh)=>vA (lp x)) (mg 69 lj 9) (hp qa) q2 qO) (Y:sQ Value.string (mg 69 lj 9) (hp qa) q3 qM) (a3:Sl (Pl ot) 3 (hp qa) q4 qP) (t:At (hp qa) (vP qi) [q0,q1,q2,q3,q4,vI qb]) (i:At (hp qa) (vP qh) [vP qi]) (q:Sl lU 15 (hp qa) q5 qJ.lK) (u:Sl mH 8 (hp qa) q6 qJ.mi) (c2:pV nh (hp qa) q7 qD) (v:Sl (Pl lj) 9 (hp qa) q8 qu) (z:Sl (Pl (lJ .u8)) 1 (hp qa) q9 ql) (h:At (hp qa) (vP qk) [vS qJ.Name,q5,q6,vS qE,q7,q8,vI qc,q9]) (j:At (hp qa) (vP qj) [vP qk]) (hm:vc qK qN qt qO qM qP qb qJ qE qD qu qc ql=some qf) :
  mo true pg0 120 [vA (lp qK),vP qh,vP qj] qa (vB qf):=by
 refine cG 12 func120 Z (λa=>sg (VE (mA a Z (λW2 s a=>Wa (ln (lH ?_))))))
 have a:=a.drew
 have d:=a.has.ll (Kb Sn)
 refine mF d lV (XH 0 Z d (λ_ g=>lq Z (om g (y:=vP qi) i isAgg192)) (XH 1 Z d (λ_ g=>lq Z (lC g Mh (lp qK) Z bJ aM)) (XH 2 Z d (λ_ g=>lq Z (om g (y:=vP qk) j isAgg112)) (X 3 Z d (lX Z) (XQ 4 Z d (pM [vS qE] aaj Z h Z) λJ k=>XH 5 Z d (λ_ g=>lq Z (om g (y:=vS qE) k cA)) (bS hm λM c1 hm=>XE 6 Z (Eg a call121 (DV (a5.mono a.ns) mv (a4.mono a.ns) (Y.mono a.ns) mv mv c1) λI a=>?_)))))))
 have d:=a.has.ll (Kb Sn)
 refine ⟨d,X 7 Z d (nB Z) (mG kr (lE ?_))⟩
 exact lO (rQ hm a)
theorem G4 (J:Sl lU 15 (hp qa) q0 qJ.lK) (T:Sl mH 8 (hp qa) q1 qJ.mi) (f1:pV nh (hp qa) q2 qD) (a6:Sl (Pl lj) 9 (hp qa) q3 qt) (b7:Sl (Pl (lJ .u8)) 1 (hp qa) q4 ql) (c3:At (hp qa) (vP qh) [vS qJ.Name,q0,q1,vS qE,q2,q3,vI qb,q4]) (M:Sl mR 10 (hp qa) q5 qT) (hm:wC qJ qE qD qt qb ql qT=some qc) :
  mo false pg0 75 [vP qh,q5] qa (vI qc):=by
 refine cG 53 func75 Z (λd=>sg (VE (mA d Z (λW2 I d=>Wa (lS (Wm (V (mP cF Z M) (Wm (ln ?_)))))))))
 let g5:Value:=vP I
 refine nM 14 13 (λi js E W=>∃h4,ST false nf qa W (hp qa) ((I,Ob #[vP qh] 112)::h4)∧E 1=q5∧E 2=g5∧E 12=q5∧rE qJ qE qD qt qb ql qT js=some qc) M.len ⟨_,d.ll,Z,Z,Z,hm⟩ ?_ ?_
 ·rintro m4 j aj E W m0 ⟨⟨k,u⟩,h4,d,f8,O,f9,Q⟩
  refine sg (VQ (nI (i:=(m4:Int)) (x0:=j) mR.out cF bW f9 k M (aF _) m0) λp9 ⟨_,⟨ah,rfl,h1⟩,k6⟩=>V (lq Z (mu d.has k6 eE bW)) (VE (lY d cQ λp2 p8 d=>?_)))
  obtain ⟨d4,d8,rfl⟩:=h1.form
  let b8:=C3 j.lg.Kind j.lg.Head.lu j.lg.Head.Word j.lg.nj j.lg.B.lu j.lg.B.Word j.lg.C.lu j.lg.C.Word j.lg.mV d4 j.Tag.length d8
  refine VO (FA b8.toArray d bW λp3 d=>lr (V (lq O (lA d.has (Mt Mh) Z isAgg112)) (VA d Mh b8 eE bW (bS Q λag k8 Q=>VE (Eg d call117 (mo.mN (JG mv mv mv mv mv mv mv k8)) λp4 d=>V (nK Z) (ln ?_))))))
  have d:=d.ll (Db St)
  refine CI Q Z (λk3 Q=>?_) (λk3 Q=>?_)
  ·refine sg (Wa (ln ?_))
   have d:=d.ll (Db St)
   refine lO (nz (mj (nz (mj ?_))))
   cases sj Q
   exact rP d
  exact mU (mx (lE ⟨k,u,_,d.ll,f8,O,f9,Q⟩))
 rintro E W ⟨⟨k,u⟩,h4,d,f8,O,f9,Q⟩
 refine lE (sg (V (lq O (lA d.has Mh Z isAgg112)) (Wn (VQ (pM [q3] Pm Z c3 Z) λaf k7=>V (lq Z (om d.has (y:=q3) k7 dQ)) (bS Q λG k9 Q=>?_)))))
 refine VE (Gi d (aT _) call118 (λ_ _ _ _=>JL mv k9) (λp5 ai g1 p1 d t ab ad k2=>?_) (L0:=[]))
 obtain ⟨a0,e6,f3,e7,f4,e8,f5,e9,f6,f0,f7,e4,rfl,l1,l2,l3,l4,l5⟩:=k2
 let h7:=(#[e6,e7,e8,e9,f0,vI G.2.2.2.2.2]:Array Value)
 let g6:Value:=vP a0
 replace e4:=e4.symm; subst e4
 have d:=d.perm (Tb (Tr (Tr (Tr (Tr (Tr Tn))))))
 refine VE (lY d zeroValue192 λp6 a2 d=>VO (lZ g6 (#[g6]) d Z Z sizeOf192 oc nb Z (λp7 d=>lS (Wh f8 (V (mP cF Z M) (Wm (ln (IW Q (λi8 E W=>∃g2 h3,lM g1 g2∧ST false nf qa W g2 h3) (λi8 k5 e3=>?_) ?_))))))))
 ·let h5:Value:=(vP a2)
  let j1:=(#[vP qh]:Array Value)
  refine nM 30 29 (λi js E W=>∃a9 d6,lM g1 a9∧ST false nf qa W a9 ((a2,Ob #[g6] 192)::((a0,oC h7 230)::((I,oC j1 112)::(f3++(f4++(f5++(f6++(f7++d6))))))))∧E 2=g5∧E 7=h5∧E 28=q5∧rD qJ G qE qD qt qb ql js=some i8) M.len ⟨g1,_,lM.refl _,d.ll (Kb (Kb (Sb (Pr (Pr (Pr (Pr (Pr Pz))))) St))),O,Z,Z,k5⟩ ?_ ?_
  ·rintro g0 a o9 E W l0 ⟨⟨k,u⟩,a9,d6,c,d,c1,e0,c2,a7⟩
   refine sg (VQ (nI (i:=(g0:Int)) (x0:=a) mR.out cF bW c2 k mv (aF _) l0) λn6 ⟨_,⟨o1,rfl,i5⟩,i0⟩=>V (lq Z (mu d.has i0 eE bW)) (VE (lY d cQ λm7 i9 d=>?_)))
   obtain ⟨d5,d9,rfl⟩:=i5.form
   let c7:=C3 a.lg.Kind a.lg.Head.lu a.lg.Head.Word a.lg.nj a.lg.B.lu a.lg.B.Word a.lg.C.lu a.lg.C.Word a.lg.mV d5 a.Tag.length d9
   refine VO (FA c7.toArray d bW λm8 d=>ln (lH ?_))
   have d:=d.drew
   have g:=d.has.ll (Kb (Db (Db (Kb Sn))))
   refine mF g lV (XH 0 Z g (λ_ P=>lq c1 (lA P (Mt Mh) Z isAgg112)) (X 1 Z g (lX Z) (XQ 2 Z g (pM [vS qJ.Name,q0,q1] TP Z (c3.mono (t.trans c)) Z) λn7 i1=>XH 3 Z g (λ_ P=>lq Z (mu P i1 fa eo)) (X 4 Z g (ly sP Z) (XH 5 Z g (λ_ P=>lq Z (lC P Mh (lj a.lg) Z bF aI)) (PJ a7 (λH E W=>∃d7 e5 Y a5 g3,lM a9 a5∧ST false nf qa W a5 ((d7,Ob #[vI H.2.2.2.2.2.1,vI H.2.2.2.2.2.2.1,vS H.2.2.2.2.2.2.2.1.lu,vS H.2.2.2.2.2.2.2.1.Word,Y] 36)::((i9,Ol c7 71)::((a2,Ob #[g6] 192)::((a0,oC h7 230)::((I,oC j1 112)::(f3++(f4++(f5++(f6++(f7++g3))))))))))∧E 2=g5∧E 7=h5∧E 10=vP d7∧E 28=q5∧E 29=vI (qT.length:Int)∧E 30=vI (g0:Int)∧E 42=vA [vI H.1,vI H.2.1,vS H.2.2.1.lu,vS H.2.2.1.Word,e5]∧E 43=vI H.2.2.2.2.1∧Sl lx 5 a5 e5 H.2.2.2.1∧Sl lx 5 a5 Y H.2.2.2.2.2.2.2.2∧Fr qa.heap.size Y) (bm 13 2047) 2 ?_ λH s d3=>?_))))))
   ·rintro ⟨c5,c6,a4,b3,o4,o5,o6,o7,n5⟩ E W ⟨d7,e5,Y,a5,g3,D,d,e1,e2,g7,g8,g9,h0,j4,j5,f2,m3,m1⟩ h9
    obtain ⟨b9,c0,rfl⟩:=f2.form
    let j2:=C1 c5 c6 a4.lu a4.Word b9 b3.length c0
    refine XO 11 Z (lZ (vA j2) j2.toArray d g7 j4 aD oc nb Z (λm9 d=>?_))
    have g:=d.has.nx D (Db (Kb (Db (Db (Kb Sn)))))
    refine ⟨g,X 12 Z g (nB j5) (mG kr (lE ?_))⟩
    have d:=d.ll (Kb (Db St))
    refine sg (Wm (Wi Z (Wm (LJ h9 (λh2 E W=>∃g4,ST false nf qa W a5 ((a2,Ob #[g6] 192)::((a0,oC h7 230)::((I,oC j1 112)::(f3++(f4++(f5++(f6++(f7++g4))))))))∧E 2=g5∧E 7=h5∧E 28=q5∧E 29=vI (qT.length:Int)∧E 30=vI (g0:Int)∧E 51=vB h2) 5 ?_ λh2 U d2=>?_))))
    ·rintro o8 E W ⟨g4,d,j6,j7,j8,j9,k0,k1⟩ v
     refine ln (CI v k1 (λh8 v=>?_) λh8 v=>?_)
     ·refine sg (Wa (ln ?_))
      have d:=d.ll (Db (Db (Db (Dr (Dr (Dr (Dr (Dr St))))))))
      refine lO (nz (mj (nz (mj ?_))))
      cases sj v
      replace e3:some 44=some qc:=e3
      cases sj e3
      exact rP d
     exact mU (mx (lE ⟨k0,j9,a5,_,c.trans D,d.ll,j6,j7,j8,v⟩))
    refine bC U (λz U=>?_) (λz U=>?_)
    ·refine un z (un z (un z (un z (V (lQ (cB z) Z) ?_))))
     cases sj U
     exact d2 _ _ ⟨_,d.ll (Db St),e1,e2,g8,g9,h0,Z⟩
    refine ug z (lq g7 (lC d.has Mh j2 Z bD aD)) (ug z (pG (by exact px e2 e1) Z) (bS U λn8 i2 U=>tw z (Eg d call111 (AB mv ⟨120,#[],#[h5,g5],Z,call120,λW x qc q hm=>(FY (l1.at (λb o h=>q _ _ ((λb o h=>d.at_ (Mt (Mt (Mt (Mt (Ml h)))))) b o h))) (l2.sl mY λb o h=>q _ _ ((λb o h=>d.at_ (Mt (Mt (Mt (Mt (Ma (Ml h))))))) b o h)) (l3.at (λb o h=>q _ _ ((λb o h=>d.at_ (Mt (Mt (Mt (Mt (Ma (Ma (Ml h)))))))) b o h))) (l4.at (λb o h=>q _ _ ((λb o h=>d.at_ (Mt (Mt (Mt (Mt (Ma (Ma (Ma (Ml h))))))))) b o h))) ((l5.G6 AJ).mono (Pl.mono _) (oz λb o h=>q _ _ ((λb o h=>d.at_ (Mt (Mt (Mt (Mt (Ma (Ma (Ma (Ma (Ml h)))))))))) b o h))) (At.of (q _ _ (d.at_ (Mt (Mt Mh)))) _ Z) (At.of (q _ _ (d.at_ (Mt Mh))) _ Z) mv mv mv mv mv mv (At.of (q _ _ (d.at_ (Mt (Mt (Mt Mh))))) _ Z) hm).mN⟩ i2) λn0 d=>ug z (nK Z) (V (lN (cB z) Z) ?_))))
    cases sj U
    exact d2 _ _ ⟨_,d.ll (Db St),e1,e2,g8,g9,h0,Z⟩
   refine IL 6 10 Z Z kr (.inl Z) (.inl Z) Z Z dc dc ?_ ?_
   ·refine bS s λn9 i3 s=>?_
    refine D0 (args:=[vA [vS qJ.Name,q0,q1],vA (lj a.lg)]) (caps:=#[]) [] _ d (aT _) Z call119 (by exact px Z Z) (λhH hN ae an=>CQ ⟨hH,hN,ae⟩ mv mv i3) (λn1 o2 l8 m5 d b6 a1 h6=>?_)
    obtain ⟨l6,c9,rfl,i6⟩:=h6
    replace c9:=c9.symm; subst c9
    have d:=d.perm Tn
    have g:=d.has.nx b6 (Kb (Db (Db (Kb Sn))))
    refine ⟨g,X 7 Z g (lz Z) (X 8 Z g (pA Z Z) (X 9 Z g (pA Z Z) (XE 10 Z (lY d bG λn2 j0 d=>?_))))⟩
    have g:=d.has.nx b6 (Db (Kb (Db (Db (Kb Sn)))))
    refine ⟨g,?_⟩
    cases sj s
    refine ov kr (d3 _ _ ⟨j0,l6,vN,l8,_,b6,d.ll,c1,e0,Z,c2,u,k,Z,Z,i6,Sl.nil _ _ _,Fr.nil _⟩)
   ·refine lY d bG (λn3 j3 d=>?_)
    have g:=d.has.ll (Db (Kb (Db (Db (Kb Sn)))))
    refine ⟨g,bS s λo0 i4 s=>?_⟩
    refine XE 6 Z (eD d (aT _) call119 (λhh=>CQ hh mv mv i4) ?_ (L0:=[]))
    rintro _ o3 l9 m6 d d1 aa ⟨l7,d0,rfl,i7⟩
    cases d0
    have g:=d.has.nx d1 (Db (Kb (Db (Db (Kb Sn)))))
    refine ⟨g,X 7 Z g (lz Z) (X 8 Z g (pA Z Z) (X 9 Z g (pA Z Z) ?_))⟩
    cases sj s
    refine ov kr (d3 _ _ ⟨j3,l7,vN,l9,_,d1,d.ll,c1,e0,Z,c2,u,k,Z,Z,i7,Sl.nil _ _ _,Fr.nil _⟩)
  rintro E W ⟨⟨k,u⟩,a9,d6,c,d,c1,e0,c2,a7⟩
  refine lE ?_
  cases sj a7
  exact ⟨_,Z,a9,_,c,d.ll (Db (Db (Db (Dr (Dr (Dr (Dr (Dr St))))))))⟩
 rintro ⟨⟩ E W ⟨g2,h3,m2,d⟩ k4
 exact sg (Wa (lt (rQ k4 d)))
set_option maxHeartbeats 4000000 in
theorem Iv {r:(Int×Int×(List Int))} (h0:oa qe ((qh,Ob #[vS qJ.Name,q0,q1,vS qE,q2,q3,vI qb,q4] 114)::(qo++[])) qa) (M:Sl lU 15 qe q0 qJ.lK) (T:Sl mH 8 qe q1 qJ.mi) (b1:pV nh qe q2 qD) (Y:mg 69 lj 9 q3 qt qo) (D:Sl (Pl (lJ .u8)) 1 qe q4 ql) (N:Sl (Pl (lJ .u8)) 1 qe q5 qm) (hm:vU qJ qE qD qt qb ql qm=some r) :
  my false pg0 41 [vP qh,q5] qa qe ((qh,Ob #[vS qJ.Name,q0,q1,vS qE,q2,q3,vI qb,q4] 114)::(qo++[])) (λv L1 μ1=>∃J,v=vI r.1∧L1=((qh,Ob #[vS qJ.Name,q0,q1,vS qE,q2,q3,vI r.2.1,J] 114)::(qo++[]))∧Sl (Pl (lJ .u8)) 1 μ1 J r.2.2):=by
 let a2:=(#[vS qJ.Name,q0,q1,vS qE,q2,q3,vI qb,q4]:Array Value)
 refine rG h0 52 func41 Z (λa=>sg (Wa (lr (Wm (bS hm λz c8 hm=>?_)))))
 let d3:Value:=vI z.2.1.E
 let d2:Value:=vS z.2.1.Name
 let d1:Value:=vI z.2.1.ny
 let d0:Value:=vI z.2.1.Kind
 refine VE (eD a (aT _) call48 (λhh=>ED hh mv c8) ?_ (L0:=[]))
 rintro _ v7 k L9 a u g ⟨e3,e4,a0,rfl,c2,Q⟩
 cases a0
 refine Wm (Wx Z (Wx Z (Wx Z (VE (lY a cC λd5 x a=>Wa ?_)))))
 obtain ⟨P,a9,rfl⟩:=c2.form
 let b8:Value:= .slice P z.2.1.nX.length a9
 obtain ⟨a3,a5,rfl⟩:=Q.form
 let q:Value:= .slice a3 z.2.1.nm.length a5
 refine VO (FA (#[d0,d1,d3,d2,b8,q]) a bR λd6 a=>Wa (ln (lH (bg (Wm (Wi Z (Wa (ln (CI hm Z (λU hm=>?_) λU hm=>?_)))))))))
 ·refine sg (Wa (ln ?_))
  have a:=a.ll (Db St)
  refine lO (nz (mj ?_))
  have d:=sj hm; subst d
  exact ma (v:=vI 11) Z Z ⟨_,_,_,Z,a.mB (Kb (Kr Sn)),u,g,ST.lG a (mJ.mem (Kb (Kr Sn))),q4,Z,Z,mv⟩
 refine sg (Wm (Wm (Wn (Wf Pg (VB a (Mt Mh) Z Z bK (Wi Z (Wa (ln (CI hm Z (λb7 hm=>?_) λb7 hm=>?_)))))))))
 ·refine sg (Wa (ln ?_))
  have a:=a.ll (Db St)
  refine lO (nz (mj ?_))
  have d:=sj hm; subst d
  exact ma (v:=vI 43) Z Z ⟨_,_,_,Z,a.mB (Kb (Kr Sn)),u,g,ST.lG a (mJ.mem (Kb (Kr Sn))),q4,Z,Z,mv⟩
 refine sg (Wm (Wm (Wn (Wf Pg (VB a (Mt Mh) Z Z bK (Wi Z (Wm (LJ hm (λy E W=>∃t,ST false (keys ((qh,oC a2 114)::(qo++[]))) qa W k ((x,Ob #[d0,d1,d3,d2,b8,q] 79)::((qh,oC a2 114)::(qo++t)))∧E 0=vP qh∧E 1=q5∧E 5=vI z.1∧E 6=vP x∧E 39=vB y) 8 ?_ λy I s=>?_))))))))
 ·rintro e2 E W ⟨t,a,h,c3,c4,c5,c6⟩ H
  refine Wg c6 (ln (CI H Z (λb9 H=>?_) λb9 H=>?_))
  ·refine sg (Wa (ln ?_))
   have a:=a.ll (Db St)
   refine lO (nz (mj ?_))
   have d:=sj H; subst d
   exact ma (v:=vI 41) Z Z ⟨_,_,_,Z,a.mB (Kb (Kr Sn)),u,g,ST.lG a (mJ.mem (Kb (Kr Sn))),q4,Z,Z,mv⟩
  refine mU (mx (lE (sg (Wh h (Wh h (Wh c4 (Wh c3 (Wn (Wf Pg ?_)))))))))
  have a:=a.perm (Nb (Pb Pz) Nz)
  refine VO (lZ (vI z.1) (#[vS qJ.Name,q0,q1,vS qE,q2,q3,vI z.1,q4]) a Z Z dn (vM _ z.1) nb Z (λd7 a=>Wn (Wf Tz ?_)))
  obtain ⟨a4,O,rfl⟩:=N.form
  let i:Value:= .slice a4 qm.length O
  refine VO (lZ i (#[vS qJ.Name,q0,q1,vS qE,q2,q3,vI z.1,i]) a Z Z dA oc nb Z (λd8 a=>lr (Wh h (V (ly AM c5) (VB a (Mt Mh) Z Z iG (bS H λc9 c0 H=>VE (Eg a call75 (G4 mv mv mv (Y.sl mY λb o hq=>a.at_ (Mt (Mt (Ml hq)))) mv (At.of (a.at_ Mh) _ Z) mv c0) λd9 a=>Wa (ln ?_))))))))
  have a:=a.ll (Kb (Db St))
  refine lO ?_
  have d:=sj H; subst d
  exact ma (v:=vI c9) Z Z ⟨_,_,_,Z,a.mB (Kb (Kr Sn)),u,g,ST.lG a (mJ.mem (Kb (Kr Sn))),i,Z,Z,mv⟩
 refine bC I (λj I=>?_) (λj I=>?_)
 ·refine ug j (lz Z) (ug j (lz Z) (ug j (lX Z) (ug j (ly Tz Z) (ug j (lq Z (lA a.has (Mt Mh) Z dq)) (bS I λe1 c1 I=>tw j (Eg a call74 (mo.mN (Bp mv mv c1)) λe0 a=>ug j (nK Z) (V (lQ (cB j) Z) ?_)))))))
  have d:=sj I; subst d
  exact s _ _ ⟨_,a.ll,Z,Z,Z,Z,Z⟩
 refine un j (un j (un j (un j (un j (un j (un j (V (lN (cB j) Z) ?_)))))))
 have d:=sj I; subst d
 exact s _ _ ⟨_,a.ll,Z,Z,Z,Z,Z⟩
theorem DO {r:sB} (H:Sl lU 15 (hp qa) q0 qJ.lK) (N:Sl mH 8 (hp qa) q1 qJ.mi) (b0:pV nh (hp qa) q2 qD) (b1:Sl sO 2 (hp qa) q3 qY) (hm:zA qJ qE qD qY=some r) :
  mo false pg0 12 [vA [vS qJ.Name,q0,q1],vS qE,q2,q3] qa (vA (pk r)):=by
 let c3:Value:=vA (pk K4)
 refine cG 56 func12 Z (λd=>sg ?_)
 obtain ⟨A1,c2,rfl⟩:=H.form
 let b8:Value:= .slice A1 qJ.lK.length c2
 obtain ⟨A3,c4,rfl⟩:=N.form
 let c1:Value:= .slice A3 qJ.mi.length c4
 refine VE (mA d Z (λW6 b5 d=>VE (lY d fY λW8 b7 d=>lS (Wm (V (Gs kL b0 Z Z) (ln (CI hm Z (λf6 hm=>?_) λf6 hm=>?_)))))))
 ·refine sg (V (mW (v:=c3) (nw Z) (mz fY dK (OY _ dK) kr)) (VO (lZ c3 ((pk K4).toArray) d Z Z iu (Em K4) nb Z (λi0 d=>ln ?_))))
  have d:=d.ll (Kb (Db St))
  refine lO (mj ?_)
  cases sj hm
  exact oW (v:=c3) Z Z (lC d.has Mh (pk K4) Z isAgg63 iu) ⟨Z,d.ex⟩
 refine kg (VA d (Mt Mh) (IV qJ.Name A1 qJ.lK.length c2 A3 qJ.mi.length c4) fa eo (Wm (Wm ?_)))
 have I:=d
 obtain ⟨Q,rfl⟩:=b0.form
 have d:=I
 refine V (mW (v:=vA [vS qJ.Name,b8,c1,vS qE,.pointer Q,vN,vI 0,vN]) (I5 Z Z Z) (mz zeroValue114 fN (acC _ fN) kr)) (VE (mA d Z (λi1 d2 d=>Wa (ln ?_))))
 have d:=d.ll (Kb (Kb (Db St)))
 refine lH (sg (Wm (V (mP dD Z b1) (Wm (ln (nM 23 22 (λi js E W=>∃B K y G D M a4 c8,lM (hp qa) a4∧ST false nf qa W a4 ((d2,Ob #[vS qJ.Name,b8,c1,vS qE,.pointer Q,B,vI G,D] 114)::((b7,Ol (pk (⟨0,0⟩:sB)) 63)::(y++c8)))∧E 2= .pointer Q∧E 3=q3∧E 8=vP b7∧E 9=vP d2∧E 21=q3∧mg 69 lj 9 B K y∧Sl (Pl (lJ .u8)) 1 a4 D M∧uz qD qJ qE qY js i K G M=some r) b1.len ⟨vN,[],[],0,vN,[],hp qa,_,lM.refl _,d.ll,Z,Z,Z,Z,Z,mg.nil _ _ _,Sl.nil _ _ _,hm⟩ ?_ ?_))))))
 ·rintro x t f7 E W e5 ⟨⟨s,eN⟩,B,K,y,G,D,M,a4,c8,j,d,O,P,z,J,a9,U,b2,a⟩
  refine sg (Wh s (VQ (nI (i:=(x:Int)) (x0:=t) sO.out dD eA a9 s mv (aF _) e5) λh3 ⟨_,⟨h5,rfl,b3⟩,e1⟩=>V (lq Z (mu d.has e1 lb eA)) (VE (lY d dI λg1 h2 d=>Wa ?_))))
  obtain ⟨Y,Zq,rfl⟩:=b3.form
  let a6:Value:= .slice Y t.B.length Zq
  refine VO (FA (#[vB t.Out,a6]) d eA λg2 d=>lS (Wf Oo (VB d Mh Z Z fe (V (nK Z) (ln (CI a Z (λd8 a=>?_) λd8 a=>?_))))))
  ·refine lH ?_
   have d:=d.drew
   have g:=d.has.ll (Kb Sn)
   have q:=d.has.ll (Db (Kb Sn))
   refine rW 12 g q lV (nu 0 Z g q (lz J) (nu 1 Z g q (lz J) (nu 2 Z g q (lX Z) (nu 3 Z g q (ly Pm Z) (BU 4 Z g q (λhS=>lq Z (lA hS Mh Z dQ)) (nu 5 Z g q (lz O) (IS 6 Z g q (λhS=>lq Z (lC hS Mh [vB t.Out,a6] Z lb eA)) (bS a λe9 e2 a=>?_))))))))
   refine XE 7 Z (eD d (aT _) call40 (λhh=>Ga hh mv e2) ?_ (L0:=[]))
   rintro _ h6 h9 f8 d c a1 ⟨f1,b4,rfl,e6⟩
   cases b4
   have g:=d.has.nx c (Kb Sn)
   have q:=d.has.nx c (Db (Kb Sn))
   refine ⟨⟨g,λ_=>q⟩,bS a λh4 e3 a=>XE 8 Z (oG d call39 (EO mv mv e3) λg4 f0 f3 g0 d k aa d7=>?_)⟩
   have g:=d.has.nx (c.trans k) (Dr (Kb Sn))
   have q:=d.has.nx (c.trans k) (Dr (Db (Kb Sn)))
   refine ⟨⟨g,λ_=>q⟩,?_⟩
   have d:=d.perm (Nr (Qr (Qb (Qb (Qb Qz)))) Nz)
   refine bS a λb9 d9 a=>XE 9 Z (oU (enc:=lj) (v:=B) (vs:=f0) (R:=y) d mY dc pf aN nZ.1 nZ.2.1 Z nZ.2.2.1 nZ.2.2.2 Z Z U (d7.RR mY d λp hq=>Ma (Ml hq)) d9 λg7 h7 e8 d d0=>?_)
   have g:=d.has.nx (c.trans k) (Dr (Dr (Kb Sn)))
   have q:=d.has.nx (c.trans k) (Dr (Dr (Db (Kb Sn))))
   refine ⟨⟨g,λ_=>q⟩,nu 10 Z g q (lX Z) (nu 11 Z g q (ly Pm Z) ?_)⟩
   obtain ⟨c7,c9,rfl⟩:=d0.form
   let d1:Value:= .slice c7 b9.length c9
   have d:=d.perm (Nb (Pr (Pr (Pb Pz))) Nz)
   refine XO 12 Z (lZ d1 (#[vS qJ.Name,b8,c1,vS qE,.pointer Q,d1,vI G,D]) d Z Z fx oc nb Z (λg8 d=>?_))
   have g:=d.has.nx (c.trans k) (Db (Dr (Dr (Kb Sn))))
   refine ⟨⟨g,λh=>tC kr h⟩,mG kr (lE ?_)⟩
   have d:=d.ll (Kb (Kr (Dr (Db St))))
   exact pg (oL (uO (lE ⟨s,eN,d1,b9,e8,G,D,M,f3,_,(j.trans c).trans k,d.ll (Kb (Sb (Pr Pz) St)),O,P,z,J,a9,d0,mv,a⟩)))
  refine kg (Wh J (Wf RT (VB d Mh Z Z dq (bS a λu e4 a=>?_))))
  let a5:=(⟨(x:Int),u.1⟩:sB)
  let c6:Value:=vA (pk a5)
  refine VE (eD d (Cb (Pb Pz) (Cr (Qb (Qb Qz)) Cn)) call41 (λhh=>Iv hh mv mv mv U mv mv e4) ?_)
  rintro _ h8 f4 f9 d d3 ab ⟨f2,b6,rfl,e7⟩
  cases b6
  have d:=d.perm (Tb (Tr Tn))
  refine Wa (ln ?_)
  have d:=d.ll (Kb (Kr (Db St)))
  refine sg (Wm (Wi Z (ln (CI a Z (λe0 a=>?_) λe0 a=>?_))))
  ·refine sg (Wm (Wm (V (mW (v:=c6) (pZ Z Z) (mz fY dK (OY _ dK) kr)) ?_)))
   have d:=d.perm (Nb (Pb (Pr Pz)) Nz)
   refine VO (lZ c6 ((pk a5).toArray) d z Z iu (Em a5) nb Z (λh0 d=>ln ?_))
   have d:=d.ll (Kb (Db (Dr St)))
   refine lO (nz (mj (nz (mj ?_))))
   cases sj a
   exact oW (v:=c6) Z z (lC d.has Mh (pk a5) Z isAgg63 iu) ⟨Z,d.ex⟩
  exact mU (mx (lE ⟨s,eN,B,K,y,u.2.1,f2,u.2.2,f4,_,j.trans d3,d.ll (Kb (Sb (Pr Pz) St)),O,P,z,J,a9,U,e7,a⟩))
 rintro E W ⟨⟨s,eN⟩,B,K,y,G,D,M,a4,c8,j,d,O,P,z,J,a9,U,b2,a⟩
 refine lE ?_
 have d:=d.ll (Db (Kb (Dr St)))
 let a0:=(⟨(qY.length:Int),0⟩:sB)
 let c5:Value:=vA (pk a0)
 refine sg (Wh P (V (mP dD Z b1) (V (mW (v:=c5) (nw Z) (mz fY dK (OY _ dK) kr)) (VO (lZ c5 ((pk a0).toArray) d z Z iu (Em a0) nb Z (λh1 d=>lt ?_))))))
 cases sj a
 exact oW (v:=c5) Z z (lC d.has Mh (pk a0) Z isAgg63 iu) ⟨Z,d.ex⟩
theorem Od (J:Sl sO 2 (hp qa) q0 qY) (hm:HW qY=some ql) :
  na false pg0 15 [q0] qa 3 (lJ .i64) 1 ql:=by
 refine vr 30 func15 Z (λd=>sg (Wa (lr (Wa (lS (Wm ?_))))))
 refine V (mP dD Z J) (Wm (ln (nM 11 10 (λi js E W=>∃j x g y H,lM (hp qa) y∧ST false nf qa W y (g++H)∧E 3=j∧E 9=q0∧mg 3 (lJ .i64) 1 j x g∧zN js x=some ql) J.len ⟨vN,[],[],hp qa,_,lM.refl _,d.ll,Z,Z,mg.nil _ _ _,hm⟩ ?_ ?_)))
 ·rintro b1 k b6 E W a6 ⟨⟨h,q⟩,j,x,g,y,H,t,d,z,B,u,a⟩
  refine sg (VQ (nI (i:=(b1:Int)) (x0:=k) sO.out dD eA B h mv (aF _) a6) λc8 ⟨_,⟨c9,rfl,M⟩,a4⟩=>V (lq Z (mu d.has a4 lb eA)) (VE (lY d dI λb9 c6 d=>?_)))
  obtain ⟨G,I,rfl⟩:=M.form
  let O:Value:= .slice G k.B.length I
  refine VO (FA (#[vB k.Out,O]) d eA λc0 d=>lr (Wf Oo (VB d Mh Z Z fe (ln (CI a Z (λa2 a=>?_) λa2 a=>?_)))))
  ·refine sg (Wf RT (VB d Mh Z Z dq (bS a λc a5 a=>?_)))
   refine VE (eD d (aT _) call48 (λhh=>ED hh mv a5) ?_ (L0:=[]))
   rintro _ d0 b4 b7 d Y s ⟨d1,d2,D,rfl,a7,a8⟩
   cases D
   refine Wm (Wx Z (Wx Z (Wx Z (VE (lY d cC λc2 c7 d=>Wa ?_)))))
   obtain ⟨N,T,rfl⟩:=a7.form
   obtain ⟨Q,U,rfl⟩:=a8.form
   refine VO (FA (#[vI c.2.1.Kind,vI c.2.1.ny,vI c.2.1.E,vS c.2.1.Name,.slice N c.2.1.nX.length T,.slice Q c.2.1.nm.length U]) d bR λc3 d=>Wa (ln ?_))
   have d:=d.ll (Db (Db St))
   refine lI (Wh z (Wm (VE (mn (cs:=[vI c.1].toArray) d (nw Z) (nU gJ dn zeroValue3) λc4 b0 d=>?_))))
   have d:=d.perm (Nr (Qb Qz) Nz)
   refine bS a λb2 a3 a=>VE (oU (enc:=lJ .i64) (v:=j) (vs:= .slice (some ⟨b0,0,none⟩) 1 1) (R:=g) d (λ_=>rfl) dc (vM _) gJ QL.1 QL.2.1 Z QL.2.2.1 QL.2.2.2 Z Z u (Sl.lit (enc:=lJ .i64) (l:=[c.1]) (λ_=>rfl) Z nb Z (d.at_ (Ma Mh))) a3 λc5 b3 a9 d P=>Wa (mh (mx (lE ?_))))
   have d:=d.ll (Kr (Db St))
   exact ⟨h,q,b3,b2,a9,b4,_,t.trans Y,d.ll,Z,B,P,a⟩
  refine mU (mx (lE ?_))
  have d:=d.ll (Db St)
  exact ⟨h,q,j,x,g,y,_,t,d.ll,z,B,u,a⟩
 rintro E W ⟨⟨h,q⟩,j,x,g,y,H,t,d,z,B,u,a⟩
 refine lE (sg (Wh z (Wa (lt ?_))))
 cases sj a
 exact ma (v:=j) Z Z ⟨_,g,Z,d.nT (λp hq=>Ml hq) u.nd,u⟩
end Go.Proofs.YtojmckcglalbnaaGreat
