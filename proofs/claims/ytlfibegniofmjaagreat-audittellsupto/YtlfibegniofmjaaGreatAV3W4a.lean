/- a part of a proof of AuditTells -/
import Derived.Test.YtlfibegniofmjaaGreatAV3W3a
set_option linter.all false
namespace Go.Proofs.YtlfibegniofmjaaGreat
open Go.Proofs.Tryz renaming prog → pg0
open Go.RowKit
set_option maxRecDepth 10000
open Tryz
variable {q0 q1 q2 q3 q4 q5 q6 q7 q8 q9:Value} {qa:World} {qb:mc} {qc qd qe:Int} {qf qg qh qi qj:LO} {qk ql qm qn:Nat} {qo qp qq:List Int} {qr qs:List kK} {qt qu:Bool} {qv qw:List Formula} {qx qy:Formula} {qz qA:List kL} {qB:kK} {qC qD:ByteArray} {qE qF:List lx} {qG:mW} {qH qI:pd} {qJ:List (ByteArray×(List kK))} {qK:List (kL×(List (ByteArray×Bool)))} {qL:List (kL×(List kK))} {qM:List nJ} {qN:Option mN} {qO:lL} {qP qQ:kL} {qR:(Bool×(List Int))} {qS:List Key} {qT qU:List Signed} {qV:lj} {qW:Signed} {qX:(Formula×Int)} {qY:List sT} {qZ:(Formula×Formula)→Option Int}
set_option maxHeartbeats 4000000 in
theorem Ft (h5:nc→Formula→Option (Formula×nc)) (l4:∀(k:Nat) (a0:nc) (g:Formula) (I:Value) (r:(Formula×nc)) (w:World) {μ0:mc} (h0:nN μ0 ((k,Ol (ol a0) 224)::[]) w) (G:Sl kN 5 μ0 I g.Kids),h5 a0 g=some r→mq false pg0 148 [vP k,vA [vI g.Op,vI g.K,vS g.kL.kO,vS g.kL.Word,I]] w μ0 ((k,Ol (ol a0) 224)::[]) λv L1 μ1=>∃y1,v=vA [vI r.1.Op,vI r.1.K,vS r.1.kL.kO,vS r.1.kL.Word,y1]∧L1=((k,Ol (ol r.2) 224)::[])∧Sl kN 5 μ1 y1 r.1.Kids) (k:Nat) (a0:nc) (g:Formula) (I:Value) (r:(Formula×nc)) (w:World) {μ0:mc} (h0:nN μ0 ((k,Ol (ol a0) 224)::[]) w) (G:Sl kN 5 μ0 I g.Kids) (hm:xt h5 a0 g=some r) :
  mq false pg0 148 [vP k,vA [vI g.Op,vI g.K,vS g.kL.kO,vS g.kL.Word,I]] w μ0 ((k,Ol (ol a0) 224)::[]) (λv L1 μ1=>∃y1,v=vA [vI r.1.Op,vI r.1.K,vS r.1.kL.kO,vS r.1.kL.Word,y1]∧L1=((k,Ol (ol r.2) 224)::[])∧Sl kN 5 μ1 y1 r.1.Kids):=by
 let h9:Value:=vP k
 let b8:=(k,Ol (ol a0) 224)::[]
 refine ve h0 82 func148 Z (λd=>sg ?_)
 obtain ⟨A1,c2,rfl⟩:=G.form
 let a1:=C1 g.Op g.K g.kL.kO g.kL.Word A1 g.Kids.length c2
 refine VE (lY d Z (λW4 b3 d=>VE (lq d aU λW6 b5 d=>lS (Wf pD (VB d (Mt Mh) Z Z bH (Wi Z (ln (CI hm Z (λm5 hm=>?_) λm5 hm=>?_))))))))
 ·refine sg (VA d (Mt Mh) a1 aR aC (VO (FA a1.toArray d aC λW8 d=>ln ?_)))
  have d:=d.kM (Kb (Db St))
  refine lB (ly ?_)
  cases sj hm
  exact mR (v:=vA a1) Z Z (kV d.has Mh a1 Z aR aC) ⟨_,_,_,Z,d.lZ (Db (Kb Sn)),lm.refl _,Lo.refl,ST.lp d (mu.mem (Db (Kb Sn))),.slice A1 g.Kids.length c2,Z,Z,G⟩
 refine kg (Wa (lS (Wf pG (VB d (Mt Mh) Z Z ei (V (lT aD Z G) (Wm (lC ?_)))))))
 let h8:Value:=vP b5
 refine kW (mJ 19 18 (λi js E W=>∃a9 d6 a7 N Q f0,lm μ0 Q∧Lo (keys b8) w μ0 Q∧ST false (keys b8) w W Q ((k,Ol (ol N) 224)::((b5,Ol C5 62)::((b3,Ol a1 62)::(a7++f0))))∧E 0=h9∧E 3=vP b3∧E 4=h8∧E 5=a9∧E 17= .slice A1 g.Kids.length c2∧mn 62 kN 5 Q a9 d6 a7∧pA h5 g js d6 N=some r) G.len ⟨vN,[],[],a0,μ0,_,lm.refl _,Lo.refl,d.kM (Sb (Pb (Pb Pz)) St),Z,Z,Z,Z,Z,mn.nil _ _ _ _,hm⟩ ?_ ?_)
 ·rintro l5 D m7 E W k9 ⟨⟨n,q⟩,a9,d6,a7,N,Q,f0,H,h,d,c6,c7,c8,e2,f3,U,z⟩
  refine sg (VQ (my (i:=(l5:Int)) (x0:=D) kN.out aD aC f3 n (G.mono lc.mono H) (aG _) k9) λp9 ⟨_,⟨ah,rfl,f5⟩,j6⟩=>V (kP Z (lA d.has j6 aR aC)) (VE (lq d aU λn4 p5 d=>?_)))
  obtain ⟨d9,e1,rfl⟩:=f5.form
  let g1:=C1 D.Op D.K D.kL.kO D.kL.Word d9 D.Kids.length e1
  refine VO (FA g1.toArray d aC λn5 d=>ln (kX (Wh e2 (Wh c6 (VA d Mh g1 aR aC (bS z λt j8 z=>?_))))))
  refine VE (eD d (Cb (Pb Pz) Cn) call148 (λp=>l4 k N D (.slice d9 D.Kids.length e1) _ _ p (f5.mono lc.mono (lm.refl _)) j8) ?_)
  rintro _ ai m2 m9 d e9 s ⟨r0,e3,rfl,f6⟩
  cases e3
  have d:=d.perm (Tb Tn)
  obtain ⟨b6,c1,rfl⟩:=f6.form
  let i0:Value:= .slice b6 t.1.Kids.length c1
  refine VE (lE (cs:=#[vI t.1.Op,vI t.1.K,vS t.1.kL.kO,vS t.1.kL.Word,i0]) d (mB Z) (ng aD aC aU) λn7 p6 d=>?_)
  have d:=d.perm (Nr (Qb (Qb (Qb (Qb (Qb Qz))))) Nz)
  refine bS z λl7 i4 z=>VE (sk (B:=a7) lc d dc aD ny.1 ny.2.1 Z ny.2.2.1 ny.2.2.2 Z Z (U.mono lc e9) (Br.lit lc (l:=[t.1]) (.cons (ys:=[vI t.1.Op,vI t.1.K,vS t.1.kL.kO,vS t.1.kL.Word,i0]) (kN.mk ⟨i0,Z,f6⟩) .nil) Z nb (d.at_ (Ma Mh))) i4 λn8 l9 l2 d i2=>Wa (lC (lD (kW ?_))))
  have d:=d.kM (Kr (Db (Kb (Db St))))
  exact ⟨n,q,l9,l7,l2,t.2,m2,_,H.trans e9,h.trans s,d.kM (Sb (Pr Pz) (Sb (Pr Pz) (Sb (Pr Pz) St))),c6,c7,c8,Z,f3,i2,z⟩
 rintro E W ⟨⟨n,q⟩,a9,d6,a7,N,Q,f0,H,h,d,c6,c7,c8,e2,f3,U,z⟩
 refine kW (kY (sg (V (kU pD c7) (VB d (Mt (Mt Mh)) Z Z bH (Wi Z (ln (CI z Z (λi5 z=>?_) λi5 z=>?_)))))))
 ·refine sg (Wh c6 (V (kU pD c7) (VB d (Mt (Mt Mh)) Z Z bH (Wh e2 ?_))))
  have d:=d.perm (Nr (Qb (Qb (Qb Qz))) Nz)
  obtain ⟨r5,d,g4,A,k5⟩:=ST.xW lc d U
  refine bS z λu j9 z=>?_
  let l1:Value:=vS u.1.kL.Word
  let i1:Value:=vS u.1.kL.kO
  refine VE (eD d (Cb Pz Cn) call186 (λp=>Ae p (k5.mono lc.mono (lm.refl _)) j9) ?_)
  rintro _ aj r6 n0 d g7 L ⟨r1,e4,rfl,f7⟩
  cases e4
  have d:=d.perm (Tb Tn)
  obtain ⟨b7,c3,rfl⟩:=f7.form
  let g5:Value:= .slice b7 u.1.Kids.length c3
  let d7:Value:=vA [vI u.1.Op,vI u.1.K,i1,l1,g5]
  have d:=d.perm (Nb (Pb Pz) Nz)
  refine VO (lz d7 (#[vI u.1.Op,vI u.1.K,i1,l1,g5]) d c8 Z aC oc nb Z (λo0 d=>ln ?_))
  have d:=d.kM (Kb (Kb (Db St)))
  refine lB (ly ?_)
  cases sj z
  exact mR (v:=d7) Z c8 (kV d.has Mh [vI u.1.Op,vI u.1.K,i1,l1,g5] Z aR aC) ⟨_,_,_,Z,d.lZ (Db (Kb Sn)),(H.trans g4).trans g7,(h.trans A).trans L,ST.lp d (mu.mem (Db (Kb Sn))),g5,Z,Z,f7⟩
 refine kg (V (kU wO c7) (VB d (Mt (Mt Mh)) Z Z bH (Wa (ln ?_))))
 have d:=d.kM (Kb (Kb (Db St)))
 let n6:=((ol N).toArray:Array Value)
 refine sg (Wa (lS (Wh e2 (V (xE aD Z U) (Wm (ln (CJ z (λe8 E W=>∃b0 f2 g2,ST false (keys b8) w W Q ((k,oC n6 224)::((b5,Ol C5 62)::(f2++g2)))∧E 0=h9∧E 4=h8∧E 8=vI e8.1∧E 9=b0∧mn 62 kN 5 Q b0 e8.2 f2) (λe8 j5=>?_) ?_)))))))
 ·refine mJ 42 41 (λi js E W=>∃a4 a3 a8 T f1,ST false (keys b8) w W Q ((k,oC n6 224)::((b5,Ol C5 62)::(T++(a7++f1))))∧E 0=h9∧E 4=h8∧E 8=vI a4∧E 9=a3∧E 40=a9∧mn 62 kN 5 Q a3 a8 T∧oV js a4 a8=some e8) U.len ⟨g.K,vN,[],[],_,d.kM,c6,c8,Z,Z,Z,mn.nil _ _ _ _,j5⟩ ?_ ?_
  ·rintro l6 a m8 E W l0 ⟨⟨n,q⟩,a4,a3,a8,T,f1,d,d1,d2,d3,d4,d5,a6,j⟩
   refine sg (VQ (ni (i:=(l6:Int)) kN.out aD aC d5 n U (aG _) l0) λae ⟨_,⟨ao,rfl,b4⟩,j7,m6⟩=>V (kP Z (lA (oe.hp _) (j7.mono (nI λb o hq=>d.has.2 b o (Mt (Mt (Ma (Ml hq)))))) aR aC)) (VE (lq d aU λo9 p7 d=>?_)))
   obtain ⟨J,K,rfl⟩:=b4.form
   let m4:Value:= .slice J a.Kids.length K
   let b2:=C1 a.Op a.K a.kL.kO a.kL.Word J a.Kids.length K
   refine VO (FA b2.toArray d aC λp0 d=>lr (VA d Mh b2 aR aC (bS j λaf k3 j=>VE (Eg d call187 (lF.mF (DE (b4.mono lc.mono d.lb) k3)) λp1 d=>ln (CI j Z (λj0 j=>?_) λj0 j=>?_)))))
   ·refine kX (Wh d3 (Wi Z (Wa (lC (lD (kW ?_))))))
    have d:=d.kM (Db St)
    exact ⟨n,q,IntKind.i64.wrap (a4-1),a3,a8,T,_,d.kM,d1,d2,Z,d4,d5,a6,j⟩
   refine sg (VA d Mh b2 aR aC (bS j λag k4 j=>VE (Eg d call187 (lF.mF (DE (b4.mono lc.mono d.lb) k4)) λp2 d=>V (nt Z) (ln (CI j Z (λj3 j=>?_) λj3 j=>?_)))))
   ·refine kX (Wh d4 (VA d Mh b2 aR aC (VE (lE (cs:=b2.toArray) d (mB Z) (ng aD aC aU) λp3 p8 d=>?_))))
    have d:=d.perm (Nr (Qb (Qb (Qb (Qb Qz)))) Nz)
    refine bS j λl8 j4 j=>VE (sk (B:=T) lc d dc aD ny.1 ny.2.1 Z ny.2.2.1 ny.2.2.2 Z Z a6 (Br.lit lc (l:=[a]) (.cons (ys:=C1 a.Op a.K a.kL.kO a.kL.Word J a.Kids.length K) (kN.mk ⟨m4,Z,b4⟩) .nil) Z nb (d.at_ (Ma Mh))) j4 λp4 m0 l3 d i3=>Wa (lC (lD (kW ?_))))
    have d:=d.kM (Kr (Db (Db St)))
    exact ⟨n,q,a4,m0,l8,l3,_,d.kM (Sb (Pr Pz) (Sb (Pr Pz) St)),d1,d2,d3,Z,d5,i3,j⟩
   refine lU (lD (kW ?_))
   have d:=d.kM (Db St)
   exact ⟨n,q,a4,a3,a8,T,_,d.kM,d1,d2,d3,d4,d5,a6,j⟩
  rintro E W ⟨⟨n,q⟩,a4,a3,a8,T,f1,d,d1,d2,d3,d4,d5,a6,j⟩
  refine kW ?_
  cases sj j
  exact ⟨a3,T,_,d.kM (Kb (Kb (Kr (Dr St)))),d1,d2,d3,d4,a6⟩
 rintro ⟨b1,f4⟩ E W ⟨b0,f2,g2,d,g3,M,c9,d0,a5⟩ c
 refine kY (sg (Wh c9 (Wi Z (ln (CI c Z (λi6 c=>?_) λi6 c=>?_)))))
 ·refine sg (V (lX (v:=vA MM) (mB Z) (lG aU bM (yU _ bM) kr)) ?_)
  have d:=d.perm (Nb (Pb Pz) Nz)
  refine VO (lz (vA MM) MM.toArray d M Z aC oc nb Z (λo1 d=>ln ?_))
  have d:=d.kM (Kb (Kb (Dr St)))
  refine lB (ly ?_)
  cases sj c
  exact mR (v:=vA MM) Z M (kV d.has Mh MM Z aR aC) ⟨_,_,_,Z,d.lZ (Db (Kb Sn)),H,h,ST.lp d (mu.mem (Db (Kb Sn))),vN,Z,Z,Sl.nil _ _ _⟩
 refine kS (Wh c9 (Wh d0 (V (xE aD Z a5) (Wi Z (ln (CI c Z (λi7 c=>?_) λi7 c=>?_))))))
 ·refine sg (V (lX (v:=vA Lh) (mB Z) (lG aU bM (yU _ bM) kr)) ?_)
  have d:=d.perm (Nb (Pb Pz) Nz)
  refine VO (lz (vA Lh) Lh.toArray d M Z aC oc nb Z (λo2 d=>ln ?_))
  have d:=d.kM (Kb (Kb (Dr St)))
  refine lB (ly ?_)
  cases sj c
  exact mR (v:=vA Lh) Z M (kV d.has Mh Lh Z aR aC) ⟨_,_,_,Z,d.lZ (Db (Kb Sn)),H,h,ST.lp d (mu.mem (Db (Kb Sn))),vN,Z,Z,Sl.nil _ _ _⟩
 refine kS (Wh c9 (Wh d0 (V (xE aD Z a5) (Wi Z (ln (CI c Z (λi8 c=>?_) λi8 c=>?_))))))
 ·refine sg (Wh g3 (Wh d0 ?_))
  have d:=d.perm (Nr (Qb (Qb Qz)) Nz)
  obtain ⟨r7,d,g8,O,k6⟩:=ST.xW lc d a5
  refine bS c λx k0 c=>?_
  let m1:Value:=vS x.1.kL.Word
  let j1:Value:=vS x.1.kL.kO
  refine VE (eD d (Cb Pz Cn) call186 (λp=>Ae p (k6.mono lc.mono (lm.refl _)) k0) ?_)
  rintro _ ak r8 n1 d g9 P ⟨r2,e5,rfl,f8⟩
  cases e5
  have d:=d.perm (Tb Tn)
  obtain ⟨b9,c4,rfl⟩:=f8.form
  let g6:Value:= .slice b9 x.1.Kids.length c4
  let d8:Value:=vA [vI x.1.Op,vI x.1.K,j1,m1,g6]
  have d:=d.perm (Nb (Pb Pz) Nz)
  refine VO (lz d8 (#[vI x.1.Op,vI x.1.K,j1,m1,g6]) d M Z aC oc nb Z (λo4 d=>lt (ly ?_)))
  cases sj c
  exact mR (v:=d8) Z M (kV d.has Mh [vI x.1.Op,vI x.1.K,j1,m1,g6] Z aR aC) ⟨_,_,_,Z,d.lZ (Db (Kb Sn)),(H.trans g8).trans g9,(h.trans O).trans P,ST.lp d (mu.mem (Db (Kb Sn))),g6,Z,Z,f8⟩
 refine kS (Wh c9 (Wi Z (ln (CI c Z (λi9 c=>?_) λi9 c=>?_))))
 ·refine sg (Wh g3 (Wh d0 ?_))
  have d:=d.perm (Nr (Qb (Qb Qz)) Nz)
  obtain ⟨r9,d,h1,R,k7⟩:=ST.xW lc d a5
  refine bS c λy k1 c=>?_
  let m3:Value:=vS y.1.kL.Word
  let j2:Value:=vS y.1.kL.kO
  refine VE (eD d (Cb Pz Cn) call186 (λp=>Ae p (k7.mono lc.mono (lm.refl _)) k1) ?_)
  rintro _ al s0 n2 d h2 aa ⟨r3,e6,rfl,f9⟩
  cases e6
  have d:=d.perm (Tb Tn)
  obtain ⟨c0,c5,rfl⟩:=f9.form
  let h6:Value:= .slice c0 y.1.Kids.length c5
  let e0:Value:=vA [vI y.1.Op,vI y.1.K,j2,m3,h6]
  have d:=d.perm (Nb (Pb Pz) Nz)
  refine VO (lz e0 (#[vI y.1.Op,vI y.1.K,j2,m3,h6]) d M Z aC oc nb Z (λo6 d=>lt (ly ?_)))
  cases sj c
  exact mR (v:=e0) Z M (kV d.has Mh [vI y.1.Op,vI y.1.K,j2,m3,h6] Z aR aC) ⟨_,_,_,Z,d.lZ (Db (Kb Sn)),(H.trans h1).trans h2,(h.trans R).trans aa,ST.lp d (mu.mem (Db (Kb Sn))),h6,Z,Z,f9⟩
 refine kg (Wh c9 (Wh d0 ?_))
 have d:=d.perm (Nr (Qb (Qb Qz)) Nz)
 obtain ⟨s1,d,h3,ab,k8⟩:=ST.xW lc d a5
 refine bS c λa2 k2 c=>?_
 refine VE (eD d (bJ _) call188 (λp=>Ig p (k8.mono lc.mono (lm.refl _)) k2) ?_ (L0:=[]))
 rintro _ an s2 n3 d h4 ad ⟨r4,e7,rfl,g0⟩
 cases e7
 obtain ⟨Y,Zq,rfl⟩:=g0.form
 let h7:=C16 b1 Y a2.length Zq
 refine V (lX (v:=vA h7) (KD Z Z Z) (lG aU bM (yU _ bM) kr)) ?_
 have d:=d.perm (Nb (Pb Pz) Nz)
 refine VO (lz (vA h7) h7.toArray d M Z aC oc nb Z (λo8 d=>lt ?_))
 cases sj c
 exact mR (v:=vA h7) Z M (kV d.has Mh h7 Z aR aC) ⟨_,_,_,Z,d.lZ (Db (Kb Sn)),(H.trans h3).trans h4,(h.trans ab).trans ad,ST.lp d (mu.mem (Db (Kb Sn))),.slice Y a2.length Zq,Z,Z,g0⟩
theorem Cy:∀(n:Nat) (c:Nat) (j:nc) (g:Formula) (a:Value) (r:(Formula×nc)) (w:World) {k:mc} (y:nN k ((c,Ol (ol j) 224)::[]) w) (i:Sl kN 5 k a g.Kids) (_:oZ n j g=some r),
  mq false pg0 148 [vP c,vA [vI g.Op,vI g.K,vS g.kL.kO,vS g.kL.Word,a]] w k ((c,Ol (ol j) 224)::[]) (λv u x=>∃t,v=vA [vI r.1.Op,vI r.1.K,vS r.1.kL.kO,vS r.1.kL.Word,t]∧u=((c,Ol (ol r.2) 224)::[])∧Sl kN 5 x t r.1.Kids)
 | 0=>by intros; rename_i h; simp only [oZ] at h; cases h
 | n+1=>Ft (oZ n) (Cy n)
theorem NL (w:nN qb [] qa) (k:Sl kN 5 qb q0 qx.Kids) (hm:DN qx=some qX) :
  mq false pg0 107 [vA [vI qx.Op,vI qx.K,vS qx.kL.kO,vS qx.kL.Word,q0]] qa qb [] (λv L1 μ1=>∃s,v=vT [vA [vI qX.1.Op,vI qX.1.K,vS qX.1.kL.kO,vS qX.1.kL.Word,s],vI qX.2]∧L1=[]∧Sl kN 5 μ1 s qX.1.Kids):=by
 refine ve w 26 func107 Z (λc=>sg ?_)
 obtain ⟨H,I,rfl⟩:=k.form
 let p:=C1 qx.Op qx.K qx.kL.kO qx.kL.Word H qx.Kids.length I
 refine VE (lY c Z (λW4 L c=>VE (lq c aU λW6 q c=>Wa (lS (VA c (Mt Mh) p aR aC (bS hm λr7 a5 hm=>VE (Eg c call147 (CV (k.mono lc.mono c.lb) a5) λW9 c=>V (nt Z) (ln (CI hm Z (λQ hm=>?_) λQ hm=>?_)))))))))
 ·refine sg (V (lX (v:=vA C5) oP (lG aU bM (yU _ bM) kr)) (VO (FA C5.toArray c aC λP c=>Wa (ln ?_))))
  have c:=c.kM (Kb (Db St))
  refine lB (ly ?_)
  cases sj hm
  exact rY (v0:=vA C5) (v1:=vI 11) Z Z (kV c.has Mh C5 Z aR aC) Z ⟨_,_,_,Z,c.lZ Sn,lm.refl _,Lo.refl,ST.lp c (mu.mem Sn),vN,Z,Z,Sl.nil _ _ _⟩
 refine kg (V (lX (v:=vA (ol (⟨false⟩:nc))) oP (lG zeroValue224 jS (abB _ jS) kr)) (VE (lY c Z (λR u c=>Wa (lr (Wm (VA c (Mt (Mt Mh)) p aR aC (bS hm λa U hm=>?_))))))))
 let o:Value:=vI a.1.K
 let n:Value:=vI a.1.Op
 let h:Value:=vS a.1.kL.Word
 let a2:Value:=vS a.1.kL.kO
 refine VE (eD c (Cb Pz Cn) call148 (λA=>(Cy lP) u (⟨false⟩:nc) qx (.slice H qx.Kids.length I) _ _ A (k.mono lc.mono (lm.refl _)) U) ?_)
 rintro _ c7 a9 O c D d ⟨c9,y,rfl,z⟩
 cases y
 have c:=c.perm (Tb Tn)
 refine VE (lq c aU λc0 K c=>?_)
 obtain ⟨i,j,rfl⟩:=z.form
 let a0:Value:= .slice i a.1.Kids.length j
 let N:Value:=vA [n,o,a2,h,a0]
 refine VO (lz N (#[n,o,a2,h,a0]) c Z Z aC oc nb Z (λc1 c=>ln ?_))
 have c:=c.kM (Kb (Kb (Kb (Db St))))
 refine kY (sg (Wm (Wn (Wf N6 (VB c (Mt Mh) Z Z iQ (Wm (LJ hm (λM E W=>∃J,ST false (keys []) qa W a9 ((K,Ob #[n,o,a2,h,a0] 62)::((q,Ol C5 62)::J))∧E 2=vP q∧E 5=vP K∧E 23=vB M) 4 ?_ λM t G=>?_)))))))
 ·rintro c8 E W ⟨J,c,B,a3,a4⟩ x
  refine ln (CI x a4 (λT x=>?_) λT x=>?_)
  ·refine sg (V (lX (v:=vA C5) oP (lG aU bM (yU _ bM) kr)) ?_)
   have c:=c.perm (Nb (Pb Pz) Nz)
   refine VO (lz (vA C5) C5.toArray c B Z aC oc nb Z (λc3 c=>Wa (ln ?_)))
   have c:=c.kM (Kb (Db St))
   refine lB (ly ?_)
   cases sj x
   exact rY (v0:=vA C5) (v1:=vI 12) Z B (kV c.has Mh C5 Z aR aC) Z ⟨_,_,_,Z,c.lZ Sn,D,d,ST.lp c (mu.mem Sn),vN,Z,Z,Sl.nil _ _ _⟩
  refine kg (V (kP a3 (kV c.has Mh [n,o,a2,h,a0] Z aR aC)) ?_)
  have c:=c.perm (Nb (Pb Pz) Nz)
  refine VO (lz N (#[n,o,a2,h,a0]) c B Z aC oc nb Z (λc4 c=>Wa (ln ?_)))
  have c:=c.kM (Kb (Db St))
  refine lB ?_
  cases sj x
  exact rY (v0:=N) (v1:=vI 0) Z B (kV c.has Mh [n,o,a2,h,a0] Z aR aC) Z ⟨_,_,_,Z,c.lZ Sn,D,d,ST.lp c (mu.mem Sn),a0,Z,Z,z⟩
 refine bC t (λg t=>?_) (λg t=>?_)
 ·refine un g (un g (un g (V (lh (cB g) Z) ?_)))
  cases sj t
  exact G _ _ ⟨_,c.kM (Kb (Db St)),Z,Z,Z⟩
 refine ug g (kP Z (kV c.has Mh [n,o,a2,h,a0] Z aR aC)) (bS t λc6 Y t=>sh g (Eg c call147 (CV (z.mono lc.mono c.lb) Y) λc5 c=>ug g (nt Z) (V (lg (cB g) Z) ?_)))
 cases sj t
 exact G _ _ ⟨_,c.kM (Kb (Db St)),Z,Z,Z⟩
theorem Sd (j:Sl (Pl kQ) 9 (hp qa) q0 qr) (hm:E4 qr qB=some qt) :
  lF true pg0 108 [q0,vA (kQ qB)] qa (vB qt):=by
 refine cG 17 func108 Z (λd=>sg (VE (lY d Z (λQ G d=>Wa (lS (Wm (V (lT aV Z j) (Wm (ln ?_)))))))))
 refine mJ 9 8 (λi k E W=>∃t,ST true lN qa W (hp qa) ((G,Ol (kQ qB) 55)::t)∧E 3=vP G∧E 7=q0∧BT qB k=some qt) j.len ⟨_,d.kM,Z,Z,hm⟩ ?_ ?_
 ·rintro H c I E W B ⟨⟨g,h⟩,t,d,u,x,a⟩
  refine sg (VQ (oz (enc:=kQ) (i:=(H:Int)) (x0:=c) aV aK x g j (aG _) B) λN z=>V (kP Z (lA d.has z bK aK)) (VE (lq d cO λJ M d=>VO (FA (h1:=ow c) ((kQ c).toArray) d aK λK d=>lr (VA d Mh (kQ c) bK aK (V (kP u (kV d.has (Mt Mh) (kQ qB) Z bK aK)) (V (wE Z Z (nY eO) (so (yK _ c qB))) (ln ?_))))))))
  have d:=d.kM (Db St)
  refine CI a Z (λy a=>?_) (λy a=>?_)
  ·refine sg (Wa (ln ?_))
   have d:=d.kM (Db St)
   refine lB (mG (ly (mG (ly ?_))))
   cases sj a
   exact rP d
  exact lU (lD (kW ⟨g,h,_,d.kM,u,x,a⟩))
 rintro E W ⟨⟨g,h⟩,t,d,u,x,a⟩
 refine kW ?_
 have d:=d.kM (Db St)
 exact sg (Wa (lt (rQ a d)))
set_option maxHeartbeats 4000000 in
theorem T9 (h0:nN qb [] qa) (I:Sl nq 15 qb q0 qG.nK) (N:Sl oB 8 qb q1 qG.pv) (hm:Gb qG qB=some qX) :
  mq false pg0 55 [vA [vS qG.Name,q0,q1],vA (kQ qB)] qa qb [] (λv L1 μ1=>∃y1,v=vT [vA [vI qX.1.Op,vI qX.1.K,vS qX.1.kL.kO,vS qX.1.kL.Word,y1],vI qX.2]∧L1=[]∧Sl kN 5 μ1 y1 qX.1.Kids):=by
 refine ve h0 62 func55 Z (λd=>sg ?_)
 obtain ⟨A1,c2,rfl⟩:=I.form
 obtain ⟨A3,c4,rfl⟩:=N.form
 refine VE (lY d Z (λW6 b5 d=>VE (lY d Z (λW8 A d=>VE (lq d aU λo8 L d=>Wa (lS (Wf HZ (VB d (Mt (Mt Mh)) Z Z isAgg22 (V (lT eS Z I) (Wm (ln ?_)))))))))))
 refine mJ 15 14 (λi js E W=>∃e6,ST false (keys []) qa W qb ((L,Ol C5 62)::((A,Ol (kQ qB) 55)::((b5,Ol (C8 qG.Name A1 qG.nK.length c2 A3 qG.pv.length c4) 25)::e6)))∧E 2=vP b5∧E 3=vP A∧E 4=vP L∧E 13= .slice A1 qG.nK.length c2∧AY qB qG js=some qX) I.len ⟨_,d.kM,Z,Z,Z,Z,hm⟩ ?_ ?_
 ·let f2:Value:=(vP L)
  rintro k2 c l0 E W j3 ⟨⟨s,O⟩,e6,d,f0,d2,P,f1,y⟩
  refine sg (VQ (my (i:=(k2:Int)) (x0:=c) nq.out eS eF f1 s I (aG _) j3) λn0 ⟨_,⟨n3,n4,rfl,i9,f3⟩,i4⟩=>V (kP Z (lA d.has i4 ko eF)) (VE (lq d fR λl5 m9 d=>?_)))
  obtain ⟨f9,g3,rfl⟩:=i9.form
  obtain ⟨c7,d0,rfl⟩:=f3.form
  let a7:=C6 c.Signed.kK.Kind c.Signed.kK.Head.kO c.Signed.kK.Head.Word c.Signed.kK.lV c.Signed.kK.B.kO c.Signed.kK.B.Word c.Signed.kK.C.kO c.Signed.kK.C.Word c.Signed.kK.lW f9 c.Signed.Tag.length g3 c.la.Op c.la.K c.la.kL.kO c.la.kL.Word c7 c.la.Kids.length d0
  refine VO (FA a7.toArray d eF λl6 d=>lS (Wf Gs (Wf rZ (VA d Mh (kQ c.Signed.kK) bK aK (V (kP d2 (kV d.has (Mt (Mt Mh)) (kQ qB) Z bK aK)) (V (Hz Z Z (nY eO) (Ds (yK _ c.Signed.kK qB))) (ln (CI y Z (λi0 y=>?_) λi0 y=>?_))))))))
  ·refine nB (nv (ry (kW ?_)))
   have d:=d.kM (Db St)
   exact ⟨s,O,_,d.kM,f0,d2,P,f1,y⟩
  refine kg (Wf Qk (VA d Mh (C1 c.la.Op c.la.K c.la.kL.kO c.la.kL.Word c7 c.la.Kids.length d0) aR aC (bS y λj i6 y=>?_)))
  refine VE (eD d (bJ _) call107 (λhh=>NL hh (f3.mono lc.mono (lm.refl _)) i6) ?_ (L0:=[]))
  rintro _ n5 c0 l3 d c3 n ⟨o0,e0,rfl,f7⟩
  cases e0
  refine Wm (Wx Z (Wx Z (VE (lq d aU λl8 a4 d=>?_))))
  let g5:Value:=vP a4
  obtain ⟨e4,e8,rfl⟩:=f7.form
  let g6:Value:= .slice e4 j.1.Kids.length e8
  refine VO (FA (#[vI j.1.Op,vI j.1.K,vS j.1.kL.kO,vS j.1.kL.Word,g6]) d aC λl9 d=>Wa (ln ?_))
  have d:=d.kM (Kb (Db St))
  refine kY (sg (V (kU QY f0) (VB d (Mt (Mt (Mt Mh))) Z Z isAgg23 (V (lT dU Z N) (Wm (ln ?_))))))
  have d:=d.kM (Kb (Kb (Kb (Db St))))
  refine CJ y (λQ E W=>∃d9 c1 g0,lm c0 c1∧Lo (keys []) qa c0 c1∧ST false (keys []) qa W c1 ((a4,Ob #[vI Q.2.1,vI Q.2.2.1,vS Q.2.2.2.1.kO,vS Q.2.2.2.1.Word,d9] 62)::((L,Ol C5 62)::g0))∧E 4=f2∧E 8=g5∧E 9=vI Q.1∧Sl kN 5 c1 d9 Q.2.2.2.2) (λQ i3=>?_) ?_
  ·refine mJ 33 32 (λi js E W=>∃w t u g T z J e7,lm c0 J∧Lo (keys []) qa c0 J∧ST false (keys []) qa W J ((a4,Ob #[vI t,vI u,vS g.kO,vS g.Word,T] 62)::((L,Ol C5 62)::((A,Ol (kQ qB) 55)::e7)))∧E 3=vP A∧E 4=f2∧E 8=g5∧E 9=vI w∧E 31= .slice A3 qG.pv.length c4∧Sl kN 5 J T z∧xT qB js w t u g z=some Q) N.len ⟨j.2,j.1.Op,j.1.K,j.1.kL,g6,j.1.Kids,c0,_,lm.refl _,Lo.refl,d.kM,d2,P,Z,Z,Z,f7,i3⟩ ?_ ?_
   ·rintro h3 a l1 E W j4 ⟨⟨s,O⟩,w,t,u,g,T,z,J,e7,U,h,d,d4,d5,d6,R,d7,a2,Zq⟩
    refine sg (VQ (my (i:=(h3:Int)) (x0:=a) oB.out dU eH d7 s (N.mono xi.mono (c3.trans U)) (aG _) j4) λn1 ⟨_,⟨n6,n7,rfl,f5,f6⟩,i5⟩=>V (kP Z (lA d.has i5 kH eH)) (VE (lq d iK λm2 g2 d=>?_)))
    obtain ⟨D,G,rfl⟩:=f5.form
    let h5:Value:= .slice D a.la.Kids.length G
    obtain ⟨c8,d1,rfl⟩:=f6.form
    let b8:=C9 a.kL.kO a.kL.Word a.la.Op a.la.K a.la.kL.kO a.la.kL.Word D a.la.Kids.length G c8 a.pf.length d1
    refine VO (FA b8.toArray d eH λm3 d=>lr (Wh R (Wi Z (Wm (LJ Zq (λh4 E W=>∃g1,ST false (keys []) qa W J ((g2,Ol b8 81)::((a4,Ob #[vI t,vI u,vS g.kO,vS g.Word,T] 62)::((L,Ol C5 62)::((A,Ol (kQ qB) 55)::g1))))∧E 3=vP A∧E 4=f2∧E 8=g5∧E 9=vI w∧E 11=vP g2∧E 31= .slice A3 qG.pv.length c4∧E 32=vI (qG.pv.length:Int)∧E 33=vI (h3:Int)∧E 44=vB h4) 5 ?_ λh4 M e3=>?_)))))
    ·rintro n9 E W ⟨g1,d,g7,g8,d8,j9,k0,g9,h1,h2,k1⟩ K
     refine ln (CI K k1 (λi2 K=>?_) λi2 K=>?_)
     ·refine kX (V (kP d8 (kV d.has (Mt Mh) [vI t,vI u,vS g.kO,vS g.Word,T] Z aR aC)) (V (kU Qa k0) (VA d Mh (C1 a.la.Op a.la.K a.la.kL.kO a.la.kL.Word D a.la.Kids.length G) aR aC ?_)))
      obtain ⟨a3,a5,rfl⟩:=a2.form
      refine VE (lE (cs:=#[vI t,vI u,vS g.kO,vS g.Word,.slice a3 z.length a5,vI a.la.Op,vI a.la.K,vS a.la.kL.kO,vS a.la.kL.Word,h5]) d (pF Z Z) (ng aD aC aU) λm4 c9 d=>V (lX (v:=vA [vI 2,vI 0,vS zS,vS zS,.slice (some ⟨c9,0,none⟩) 2 2]) (pF Z Z) (lG aU bM (yU _ bM) kr)) ?_)
      obtain ⟨o2,d,h6,p,j0⟩:=ST.xW (B:=[(c9,Ob #[vI t,vI u,vS g.kO,vS g.Word,.slice a3 z.length a5,vI a.la.Op,vI a.la.K,vS a.la.kL.kO,vS a.la.kL.Word,h5] 62)]) lc d (mn.lit lc (l:=[(⟨t,u,g,z⟩:Formula),a.la]) (.cons (ys:=C1 t u g.kO g.Word a3 z.length a5) (kN.mk ⟨.slice a3 z.length a5,Z,a2⟩) (.cons (ys:=C1 a.la.Op a.la.K a.la.kL.kO a.la.kL.Word D a.la.Kids.length G) (kN.mk ⟨h5,Z,f5⟩) .nil)) Z nb Z)
      refine bS K λk i7 K=>?_
      refine VE (eD d (bJ _) call107 (λhh=>NL hh (j0.mono lc.mono (lm.refl _)) i7) ?_ (L0:=[]))
      rintro _ n8 k4 l4 d h7 q ⟨o1,e1,rfl,f8⟩
      cases e1
      refine Wm (Wx Z (Wx Z ?_))
      obtain ⟨e5,e9,rfl⟩:=f8.form
      let h8:Value:= .slice e5 k.1.Kids.length e9
      have d:=d.perm (Nb (Pb Pz) Nz)
      refine VO (lz (vA [vI k.1.Op,vI k.1.K,vS k.1.kL.kO,vS k.1.kL.Word,h8]) (#[vI k.1.Op,vI k.1.K,vS k.1.kL.kO,vS k.1.kL.Word,h8]) d d8 Z aC oc nb Z (λm6 d=>Wa (lC (lD (kW ?_)))))
      have d:=d.kM (Kb (Db St))
      exact ⟨h2,h1,k.2,k.1.Op,k.1.K,k.1.kL,h8,k.1.Kids,k4,_,(U.trans h6).trans h7,(h.trans p).trans q,d.kM,g7,g8,d8,Z,g9,f8,K⟩
     refine lU (lD (kW ?_))
     have d:=d.kM (Db St)
     exact ⟨h2,h1,w,t,u,g,T,z,J,_,U,h,d.kM,g7,g8,d8,j9,g9,a2,K⟩
    refine bC M (λx M=>?_) (λx M=>?_)
    ·refine ug x (kU R4 Z) (ug x (kP Z (kZ d.has Mh Z kG)) (ug x (kP d4 (kV d.has (Mt (Mt (Mt Mh))) (kQ qB) Z bK aK)) (bS M λn2 i8 M=>sh x (Eg d call108 (lF.mF (Sd (f6.mono (Pl.mono _) d.lb) i8)) λm7 d=>V (lh (cB x) Z) ?_))))
     cases sj M
     exact e3 _ _ ⟨_,d.kM,d4,d5,d6,R,Z,d7,O,s,Z⟩
    refine un x (un x (un x (un x (V (lg (cB x) Z) ?_))))
    cases sj M
    exact e3 _ _ ⟨_,d.kM,d4,d5,d6,R,Z,d7,O,s,Z⟩
   rintro E W ⟨⟨s,O⟩,w,t,u,g,T,z,J,e7,U,h,d,d4,d5,d6,R,d7,a2,Zq⟩
   refine kW ?_
   cases sj Zq
   exact ⟨T,J,_,U,h,d.kM (Kb (Kb (Db St))),d5,d6,R,a2⟩
  rintro ⟨k3,b4,b6,H,b2⟩ E W ⟨d9,c1,g0,e2,o,d,d3,j8,g4,f4⟩ Y
  refine kY (sg (Wh g4 (Wi Z (ln (CI Y Z (λi1 Y=>?_) λi1 Y=>?_)))))
  ·refine sg (V (lX (v:=vA C5) oP (lG aU bM (yU _ bM) kr)) (Wh g4 ?_))
   have d:=d.perm (Nb (Pb Pz) Nz)
   refine VO (lz (vA C5) C5.toArray d d3 Z aC oc nb Z (λm0 d=>Wa (ln ?_)))
   have d:=d.kM (Kb (Db St))
   refine lB (ly (mG (ly (mG (ly ?_)))))
   cases sj Y
   exact rY (v0:=vA C5) (v1:=vI k3) Z d3 (kV d.has Mh C5 Z aR aC) Z ⟨_,_,_,Z,d.lZ Sn,c3.trans e2,n.trans o,ST.lp d (mu.mem Sn),vN,Z,Z,Sl.nil _ _ _⟩
  refine kg (V (kP j8 (kV d.has Mh [vI b4,vI b6,vS H.kO,vS H.Word,d9] Z aR aC)) ?_)
  obtain ⟨a8,a9,rfl⟩:=f4.form
  let c6:=C1 b4 b6 H.kO H.Word a8 b2.length a9
  have d:=d.perm (Nb (Pb Pz) Nz)
  refine VO (lz (vA c6) c6.toArray d d3 Z aC oc nb Z (λm1 d=>Wa (ln ?_)))
  have d:=d.kM (Kb (Db St))
  refine lB (mG (ly (mG (ly ?_))))
  cases sj Y
  exact rY (v0:=vA c6) (v1:=vI 0) Z d3 (kV d.has Mh c6 Z aR aC) Z ⟨_,_,_,Z,d.lZ Sn,c3.trans e2,n.trans o,ST.lp d (mu.mem Sn),.slice a8 b2.length a9,Z,Z,f4⟩
 rintro E W ⟨⟨s,O⟩,e6,d,f0,d2,P,f1,y⟩
 refine kW ?_
 have d:=d.kM (Kb (Db (Db St)))
 refine sg (V (lX (v:=vA C5) oP (lG aU bM (yU _ bM) kr)) (VO (lz (vA C5) C5.toArray d P Z aC oc nb Z (λm8 d=>Wa (lt ?_)))))
 cases sj y
 exact rY (v0:=vA C5) (v1:=vI 42) Z P (kV d.has Mh C5 Z aR aC) Z ⟨_,_,_,Z,d.lZ Sn,lm.refl _,Lo.refl,ST.lp d (mu.mem Sn),vN,Z,Z,Sl.nil _ _ _⟩
theorem Sa (j:Sl (Pl kR) 2 (hp qa) q0 qz) (hm:EX qz qP=some qt) :
  lF true pg0 109 [q0,vA (kR qP)] qa (vB qt):=by
 refine cG 17 func109 Z (λd=>sg (VE (lY d Z (λQ G d=>Wa (lS (Wm (V (lT bD Z j) (Wm (ln ?_)))))))))
 refine mJ 9 8 (λi k E W=>∃t,ST true lN qa W (hp qa) ((G,Ol (kR qP) 53)::t)∧E 3=vP G∧E 7=q0∧BS qP k=some qt) j.len ⟨_,d.kM,Z,Z,hm⟩ ?_ ?_
 ·rintro H c I E W B ⟨⟨g,h⟩,t,d,u,x,a⟩
  refine sg (VQ (oz (enc:=kR) (i:=(H:Int)) (x0:=c) bD aI x g j (aG _) B) λN z=>V (kP Z (lA d.has z bE aI)) (VE (lq d cY λJ M d=>VO (FA (h1:=oQ c) ((kR c).toArray) d aI λK d=>lr (VA d Mh (kR c) bE aI (V (kP u (kV d.has (Mt Mh) (kR qP) Z bE aI)) (V (wE Z Z (nY dN) (so (rS _ c qP))) (ln ?_))))))))
  have d:=d.kM (Db St)
  refine CI a Z (λy a=>?_) (λy a=>?_)
  ·refine sg (Wa (ln ?_))
   have d:=d.kM (Db St)
   refine lB (mG (ly (mG (ly ?_))))
   cases sj a
   exact rP d
  exact lU (lD (kW ⟨g,h,_,d.kM,u,x,a⟩))
 rintro E W ⟨⟨g,h⟩,t,d,u,x,a⟩
 refine kW ?_
 have d:=d.kM (Db St)
 exact sg (Wa (lt (rQ a d)))
theorem La (M:Formula→(List kL)→Option Bool) (a3:∀(j:Formula) (k:Value) (t:Value) (H:List kL) (r:Bool) (w:World) (c:Sl kN 5 (hp w) k j.Kids) (J:Sl (Pl kR) 2 (hp w) t H),M j H=some r→lF false pg0 56 [vA [vI j.Op,vI j.K,vS j.kL.kO,vS j.kL.Word,k],t] w (vB r)) (j:Formula) (k t:Value) (H:List kL) (r:Bool) (w:World) (c:Sl kN 5 (hp w) k j.Kids) (J:Sl (Pl kR) 2 (hp w) t H) (hm:Ci M j H=some r) :
  lF false pg0 56 [vA [vI j.Op,vI j.K,vS j.kL.kO,vS j.kL.Word,k],t] w (vB r):=by
 refine cG 45 func56 Z (λd=>sg ?_)
 obtain ⟨o,c2,rfl⟩:=c.form
 refine VE (lY d Z (λW4 p d=>Wa (lS (Wf pD (VB d Mh Z Z bH (Wi Z (ln (CI hm Z (λq hm=>?_) λq hm=>?_))))))))
 ·refine sg (Wm (Wf yB (VA d Mh (kR j.kL) bE aI (bS hm λr6 s hm=>VE (Eg d call109 (lF.mF (Sa (J.mono (Pl.mono _) d.lb) s)) λW8 d=>Wa (ln ?_))))))
  have d:=d.kM (Db St)
  refine lB (ly ?_)
  cases sj hm
  exact rP d
 refine kg (Wa (lS (Wf pG (VB d Mh Z Z ei (V (lT aD Z c) (Wm (lC ?_)))))))
 refine kW (mJ 18 17 (λi A E W=>∃y I,ST false lN w W (hp w) ((p,Ol (C1 j.Op j.K j.kL.kO j.kL.Word o j.Kids.length c2) 62)::I)∧E 1=t∧E 2=vP p∧E 5=vI y∧E 16= .slice o j.Kids.length c2∧wj M H j A y=some r) c.len ⟨0,_,d.kM,Z,Z,Z,Z,hm⟩ ?_ ?_)
 ·rintro v g b7 E W a4 ⟨⟨h,n⟩,y,I,d,D,u,x,G,a⟩
  refine sg (VQ (my (i:=(v:Int)) (x0:=g) kN.out aD aC G h c (aG _) a4) λR ⟨_,⟨b6,rfl,K⟩,U⟩=>V (kP Z (lA d.has U aR aC)) (VE (lq d aU λa9 P d=>?_)))
  obtain ⟨z,B,rfl⟩:=K.form
  let a0:=C1 g.Op g.K g.kL.kO g.kL.Word z g.Kids.length B
  refine VO (FA a0.toArray d aC λL d=>lr (VA d Mh a0 aR aC (Wh D (bS a λb5 Y a=>VE (Eg d call56 (a3 g (.slice z g.Kids.length B) t H _ _ (K.mono lc.mono d.lb) (J.mono (Pl.mono _) d.lb) Y) λO d=>ln ?_)))))
  have d:=d.kM (Db St)
  refine CI a Z (λN a=>?_) (λN a=>?_)
  ·exact kX (Wh x (Wi Z (Wa (lC (lD (kW ⟨h,n,IntKind.i64.wrap (y+1),_,d.kM,D,u,Z,G,a⟩))))))
  exact lU (lD (kW ⟨h,n,y,_,d.kM,D,u,x,G,a⟩))
 rintro E W ⟨⟨h,n⟩,y,I,d,D,u,x,G,a⟩
 refine kW (kY (sg (V (kU pD u) (VB d Mh Z Z bH (Wi Z (ln (CI a Z (λQ a=>?_) λQ a=>?_)))))))
 ·refine sg (Wh x (V (kU pG u) (VB d Mh Z Z ei (V (lT aD Z c) (Wi Z (Wa (ln ?_)))))))
  have d:=d.kM (Db St)
  refine lB (ly ?_)
  cases sj a
  exact rP d
 refine kS (V (kU pD u) (VB d Mh Z Z bH (Wi Z (ln (CI a Z (λT a=>?_) λT a=>?_)))))
 ·refine sg (Wh x (Wi Z (Wa (ln ?_))))
  have d:=d.kM (Db St)
  refine lB (ly ?_)
  cases sj a
  exact rP d
 refine kg (Wh x (V (kU wO u) (VB d Mh Z Z bH (Wi Z (Wa (ln ?_))))))
 exact lB (rQ a d)
theorem Kn:∀(n:Nat) (c:Formula) (a:Value) (g:Value) (j:List kL) (r:Bool) (w:World) (i:Sl kN 5 (hp w) a c.Kids) (k:Sl (Pl kR) 2 (hp w) g j) (_:xv n c j=some r),
  lF false pg0 56 [vA [vI c.Op,vI c.K,vS c.kL.kO,vS c.kL.Word,a],g] w (vB r)
 | 0=>by intros; rename_i h; simp only [xv] at h; cases h
 | n+1=>La (xv n) (Kn n)
set_option maxHeartbeats 4000000 in
theorem Pv (M:Sl nq 15 (hp qa) q0 qG.nK) (a8:Sl oB 8 (hp qa) q1 qG.pv) (u1:Sl vi 2 (hp qa) q2 qS) (g9:Sl pc 2 (hp qa) q3 qM) (hm:CU qG qC qS qM qD=some qc) :
  lF false pg0 29 [vA [vS qG.Name,q0,q1],vS qC,q2,q3,vS qD] qa (vI qc):=by
 refine cG 130 func29 Z (λd=>sg ?_)
 obtain ⟨A1,c2,rfl⟩:=M.form
 obtain ⟨A3,c4,rfl⟩:=a8.form
 let q:=C8 qG.Name A1 qG.nK.length c2 A3 qG.pv.length c4
 refine VE (lY d Z (λW6 n d=>Wa (lr (Wm (bS hm λa u9 hm=>?_)))))
 let p1:Value:=vI (a.2.1.mC.length:Int)
 let k0:Value:=vI a.2.1.E
 let j2:Value:=vS a.2.1.Name
 let g6:Value:=vI a.2.1.oN
 let g5:Value:=vI a.2.1.Kind
 refine VE (eD d (bJ _) call25 (λw=>mq.mF (BA w  u9)) ?_ (L0:=[]))
 rintro _ ah r6 ae d N bd ⟨ai,aj,i3,rfl,u3,v⟩
 cases i3
 refine Wm (Wx Z (Wx Z (Wx Z (VE (lq d cR λaf s d=>Wa ?_)))))
 obtain ⟨d4,d5,rfl⟩:=u3.form
 let d0:Value:= .slice d4 a.2.1.nU.length d5
 obtain ⟨a5,a7,rfl⟩:=v.form
 let b8:Value:= .slice a5 a.2.1.mC.length a7
 refine VO (FA (#[g5,g6,k0,j2,d0,b8]) d cI λag d=>Wa (lS (Wm (Wi Z (ln (CI hm Z (λu2 hm=>?_) λu2 hm=>?_))))))
 ·refine sg (Wa (ln ?_))
  have d:=d.kM (Db (Db St))
  refine lB (ly ?_)
  cases sj hm
  exact rP d
 refine kg (Wa (Wa (lS (Wm (V (lT cT Z g9) (Wm (lC ?_)))))))
 refine kW (mJ 40 39 (λi js E W=>∃d2 d3 t i0,lm r6 t∧ST false lN qa W t ((s,Ob #[g5,g6,k0,j2,d0,b8] 69)::((n,Ol q 25)::i0))∧E 1=vS qC∧E 2=q2∧E 3=q3∧E 4=vS qD∧E 5=vP n∧E 11=vI a.1∧E 12=vP s∧E 14=vI d2∧E 15=vS d3∧E 38=q3∧tH a qD qG qS qM qC js d2 d3=some qc) g9.len ⟨0,zS,r6,_,lm.refl _,d.kM,Z,Z,Z,Z,Z,Z,Z,Z,Z,Z,hm⟩ ?_ ?_)
 ·rintro n1 J w3 E W r1 ⟨⟨h,p⟩,d2,d3,t,i0,u,d,e2,e3,e4,g1,e5,e6,e7,d1,g2,g3,z⟩
  refine sg (VQ (my (i:=(n1:Int)) (x0:=J) pc.out cT dq g3 h (g9.mono vK.mono (N.trans u)) (aG _) r1) λy9 ⟨_,⟨z2,rfl,h2⟩,al⟩=>V (kP Z (lA d.has al gO dq)) (VE (lq d dF λx2 l1 d=>?_)))
  obtain ⟨h9,i2,rfl⟩:=h2.form
  let p0:Value:= .slice h9 J.B.length i2
  refine VO (FA (#[vB J.Out,p0]) d dq λx3 d=>lr (Wf Ct (VB d Mh Z Z dm (V (tg aT cJ bG Z (h2.mono (Pl.mono _) d.lb)) (bS z λB ao z=>?_)))))
  refine VE (eD d (bJ _) call25 (λw=>mq.mF (BA w  ao)) ?_ (L0:=[]))
  rintro _ z3 i5 w7 d e8 ay ⟨z9,aa,h3,rfl,r4,r5⟩
  cases h3
  refine Wm (Wx Z (Wx Z (Wx Z (VE (lq d cR λx5 y6 d=>Wa ?_)))))
  obtain ⟨k1,l2,rfl⟩:=r4.form
  obtain ⟨k2,l3,rfl⟩:=r5.form
  refine VO (FA (#[vI B.2.1.Kind,vI B.2.1.oN,vI B.2.1.E,vS B.2.1.Name,.slice k1 B.2.1.nU.length l2,.slice k2 B.2.1.mC.length l3]) d cI λx6 d=>Wa (ln ?_))
  have d:=d.kM (Db St)
  refine sg (Wf DP (VB d Mh Z Z iQ (Wm (LJ z (λn5 E W=>∃k4,ST false lN qa W i5 ((l1,Ob #[vB J.Out,p0] 71)::((s,Ob #[g5,g6,k0,j2,d0,b8] 69)::((n,Ol q 25)::k4)))∧E 1=vS qC∧E 2=q2∧E 3=q3∧E 4=vS qD∧E 5=vP n∧E 11=vI a.1∧E 12=vP s∧E 14=vI d2∧E 15=vS d3∧E 17=vP l1∧E 18=vI B.1∧E 38=q3∧E 39=vI (qM.length:Int)∧E 40=vI (n1:Int)∧E 58=vB n5) 4 ?_ λn5 c0 h7=>?_))))
  ·rintro z6 E W ⟨k4,d,l5,l6,l7,l8,l9,m0,m1,r9,s0,s1,s2,m2,m3,m4,s3⟩ Y
   refine ln (CI Y s3 (λp5 Y=>?_) λp5 Y=>?_)
   ·refine sg (Wh s2 (Wa (ln (kX (V (kU Ct s1) (VB d Mh Z Z dm (V (tg aT cJ bG Z (h2.mono (Pl.mono _) (e8.trans d.lb))) (Wa (lC (lD (kW ?_)))))))))))
    have d:=d.kM (Db St)
    exact ⟨m4,m3,B.1,su J.B,i5,_,u.trans e8,d.kM,l5,l6,l7,l8,l9,m0,m1,Z,Z,m2,Y⟩
   refine lU (lD (kW ?_))
   have d:=d.kM (Db St)
   exact ⟨m4,m3,d2,d3,i5,_,u.trans e8,d.kM,l5,l6,l7,l8,l9,m0,m1,r9,s0,m2,Y⟩
  refine bC c0 (λD c0=>?_) (λD c0=>?_)
  ·refine ug D (kT Z) (ug D (kT d1) (ug D (lI Z Z Z) (V (lh (cB D) Z) ?_)))
   cases sj c0
   exact h7 _ _ ⟨_,d.kM,e2,e3,e4,g1,e5,e6,e7,d1,g2,Z,Z,g3,p,h,Z⟩
  refine un D (un D (un D (V (lg (cB D) Z) ?_)))
  cases sj c0
  exact h7 _ _ ⟨_,d.kM,e2,e3,e4,g1,e5,e6,e7,d1,g2,Z,Z,g3,p,h,Z⟩
 rintro E W ⟨⟨h,p⟩,d2,d3,t,i0,u,d,e2,e3,e4,g1,e5,e6,e7,d1,g2,g3,z⟩
 refine kW (kY (sg (Wh e6 (Wh d1 (Wi Z (ln (CI z Z (λp6 z=>?_) λp6 z=>?_)))))))
 ·refine sg (Wa (ln ?_))
  have d:=d.kM (Db (Db St))
  refine lB (ly ?_)
  cases sj z
  exact rP d
 let a0:=(#[g5,g6,k0,j2,d0,b8]:Array Value)
 let A:Value:=vP n
 let f4:Value:=vP s
 refine kS (Wh e6 (Wh d1 (Wi Z (Wm (LJ z (λj8 E W=>∃k5,ST false lN qa W t ((s,oC a0 69)::((n,Ol q 25)::k5))∧E 1=vS qC∧E 2=q2∧E 3=q3∧E 5=A∧E 12=f4∧E 74=vB j8) 4 ?_ λj8 P f7=>?_)))))
 ·rintro z7 E W ⟨k5,d,s4,s5,s6,s7,m5,s8⟩ c1
  refine ln (CI c1 s8 (λp7 c1=>?_) λp7 c1=>?_)
  ·refine sg (Wa (ln ?_))
   have d:=d.kM (Db (Db St))
   refine lB (ly ?_)
   cases sj c1
   exact rP d
  refine kS (V (kU uE m5) (VB d Mh Z Z fH (V (lT bV Z v) (Wm (ln (Hs c1 (λn8 E W=>∃i6 k6,lm t i6∧ST false lN qa W i6 ((s,oC a0 69)::((n,Ol q 25)::k6))∧E 1=vS qC∧E 2=q2∧E 3=q3∧E 5=A∧E 12=f4) (λn8 ak h1=>?_) ?_))))))
  ·refine mJ 78 77 (λi js E W=>∃c6 f9,lm t c6∧ST false lN qa W c6 ((s,oC a0 69)::((n,Ol q 25)::f9))∧E 1=vS qC∧E 2=q2∧E 3=q3∧E 5=A∧E 12=f4∧E 76=b8∧wS qG js=some n8) v.len ⟨t,_,lm.refl _,d.kM,s4,s5,s6,s7,m5,Z,ak⟩ ?_ ?_
   ·rintro n3 k w5 E W r3 ⟨⟨h,p⟩,c6,f9,H,d,d7,d8,d9,R,e0,e1,I⟩
    refine sg (VQ (my (i:=(n3:Int)) (x0:=k) mg.out bV bO e1 h (v.mono nu.mono (u.trans H)) (aG _) r3) λv9 ⟨_,⟨w0,rfl,h5⟩,m9⟩=>V (kP Z (lA d.has m9 ef bO)) (VE (lq d cU λv2 v7 d=>?_)))
    obtain ⟨i9,j4,rfl⟩:=h5.form
    let c8:=C2 k.kK.Kind k.kK.Head.kO k.kK.Head.Word k.kK.lV k.kK.B.kO k.kK.B.Word k.kK.C.kO k.kK.C.Word k.kK.lW i9 k.Tag.length j4
    refine VO (FA c8.toArray d bO λv3 d=>lr (V (kP R (kV d.has (Mt (Mt Mh)) q Z gN fG)) (Wf rZ (VA d Mh (kQ k.kK) bK aK (bS I λg n0 I=>?_)))))
    let o0:=g.1.kK.Head
    refine VE (eD d (bJ _) call52 (λw=>mq.mF (Q4 w (M.mono pU.mono ((N.trans u).trans H)) (a8.mono xi.mono ((N.trans u).trans H)) n0)) ?_ (L0:=[]))
    rintro _ w1 j9 v1 d f5 aw ⟨w6,f2,rfl,h6⟩
    cases f2
    refine Wm (Wx Z (Wx Z (VE (lq d cU λv5 v8 d=>?_))))
    obtain ⟨j0,j5,rfl⟩:=h6.form
    refine VO (FA (#[vI g.1.kK.Kind,vS o0.kO,vS o0.Word,vS g.1.kK.lV,vS g.1.kK.B.kO,vS g.1.kK.B.Word,vS g.1.kK.C.kO,vS g.1.kK.C.Word,vS g.1.kK.lW,.slice j0 g.1.Tag.length j5]) d bO λv6 d=>Wa (lr (Wm (V (nt Z) (Wm (LJ I (λj7 E W=>∃j3,ST false lN qa W j9 ((s,oC a0 69)::((n,Ol q 25)::j3))∧E 1=vS qC∧E 2=q2∧E 3=q3∧E 5=A∧E 12=f4∧E 76=b8∧E 77=p1∧E 78=vI (n3:Int)∧E 99=vB j7) 8 ?_ λj7 O f6=>?_))))))
    ·rintro w2 E W ⟨j3,d,o1,o2,o3,o4,o5,o6,o7,o8,o9⟩ L
     refine ln (CI L o9 (λm7 L=>?_) λm7 L=>?_)
     ·refine sg (Wa (ln ?_))
      have d:=d.kM (Db (Db St))
      refine lB (mG (ly (mG (ly ?_))))
      cases sj L
      replace h1:some 42=some qc:=h1
      cases sj h1
      exact rP d
     exact lU (lD (kW ⟨o8,o7,j9,_,H.trans f5,d.kM,o1,o2,o3,o4,o5,o6,L⟩))
    refine bC O (λc O=>?_) (λc O=>?_)
    ·refine un c (un c (un c (un c (un c (un c (un c (V (lh (cB c) Z) ?_)))))))
     cases sj O
     exact f6 _ _ ⟨_,d.kM (Db (Db St)),d7,d8,d9,R,e0,e1,p,h,Z⟩
    refine ug c (kU Ak Z) (ug c (kP Z (kZ d.has Mh Z dm)) (ug c (tg aT cJ bG Z (h6.mono (Pl.mono _) d.lb)) (ug c (kU Ak Z) (ug c (kP Z (kZ d.has (Mt Mh) Z dm)) (ug c (tg aT cJ bG Z (h5.mono (Pl.mono _) (f5.trans d.lb))) (ug c (rF Z Z Z) (V (lg (cB c) Z) ?_)))))))
    cases sj O
    exact f6 _ _ ⟨_,d.kM (Db (Db St)),d7,d8,d9,R,e0,e1,p,h,Z⟩
   rintro E W ⟨⟨h,p⟩,c6,f9,H,d,d7,d8,d9,R,e0,e1,I⟩
   refine kW ?_
   cases sj I
   exact ⟨_,Z,c6,_,H,d.kM,d7,d8,d9,R,e0⟩
  rintro ⟨⟩ E W ⟨i6,k6,a9,d,s9,t0,t1,t2,t3⟩ Q
  refine sg (Wh t0 (Wh t1 (bS Q λu4 ap Q=>VE (rM d call14 (mM.mF (JM (u1.mono FJ.mono (((N.trans u).trans a9).trans d.lb)) (g9.mono vK.mono (((N.trans u).trans a9).trans d.lb)) ap)) λx7 u6 ac w9 d e9 az p2=>bS Q λu5 aq Q=>VE (rM d call54 (mM.mF (UW (p2.sl mL λb o hq=>d.at_ (Ml hq)) aq)) λx8 u7 ad x1 d f0 aE p3=>Wh s9 (bS Q λn4 ar Q=>VE (rM d call53 (mM.mF (PA (p3.sl wq λb o hq=>d.at_ (Ml hq)) ar)) λx9 i4 i7 k9 d f1 ba p4=>Wa (ln ?_))))))))
  have d:=d.kM (Kr (Dr (Dr St)))
  refine kY (sg (V (kU uE t3) (VB d (Ma Mh) Z Z fH (V (lT bV Z v) (Wm (ln ?_))))))
  have d:=d.kM (Kr (Db St))
  refine Hs Q (λn6 E W=>∃i8 k7,lm i7 i8∧ST false lN qa W i8 k7) (λn6 a1 h0=>?_) ?_
  ·refine mJ 110 109 (λi js E W=>∃f3 i1,lm i7 f3∧ST false lN qa W f3 ((n,Ol q 25)::(k9++i1))∧E 5=A∧E 25=i4∧E 108=b8∧wP qG n4 js=some n6) v.len ⟨i7,_,lm.refl _,d.kM (Sb (Pr Pz) St),t2,Z,Z,a1⟩ ?_ ?_
   ·rintro n2 j w4 E W r2 ⟨⟨h,p⟩,f3,i1,K,d,g4,g7,g8,T⟩
    refine sg (VQ (my (i:=(n2:Int)) (x0:=j) mg.out bV bO g8 h (v.mono nu.mono (((((u.trans a9).trans e9).trans f0).trans f1).trans K)) (aG _) r2) λz0 ⟨_,⟨z4,rfl,r0⟩,an⟩=>V (kP Z (lA d.has an ef bO)) (VE (lq d cU λy0 y7 d=>?_)))
    obtain ⟨k3,l4,rfl⟩:=r0.form
    let c9:=C2 j.kK.Kind j.kK.Head.kO j.kK.Head.Word j.kK.lV j.kK.B.kO j.kK.B.Word j.kK.C.kO j.kK.C.Word j.kK.lW k3 j.Tag.length l4
    refine VO (FA c9.toArray d bO λy1 d=>lr (V (kP g4 (kV d.has (Mt Mh) q Z gN fG)) (Wf rZ (VA d Mh (kQ j.kK) bK aK (bS T λx au T=>?_)))))
    let m6:Value:=vS x.1.kL.Word
    let l0:Value:=vS x.1.kL.kO
    refine VE (eD d (bJ _) call55 (λw=>T9 w (M.mono pU.mono ((((((N.trans u).trans a9).trans e9).trans f0).trans f1).trans K)) (a8.mono xi.mono ((((((N.trans u).trans a9).trans e9).trans f0).trans f1).trans K)) au) ?_ (L0:=[]))
    rintro _ z5 n9 w8 d m8 bc ⟨ab,h4,rfl,j6⟩
    cases h4
    refine Wm (Wx Z (Wx Z (VE (lq d aU λy3 y8 d=>?_))))
    obtain ⟨f8,g0,rfl⟩:=j6.form
    let j1:Value:= .slice f8 x.1.Kids.length g0
    refine VO (FA (#[vI x.1.Op,vI x.1.K,l0,m6,j1]) d aC λy4 d=>Wa (ln ?_))
    have d:=d.kM (Kb (Db St))
    refine sg (Wm (Wi Z (Wm (LJ T (λn7 E W=>∃k8,ST false lN qa W n9 ((n,Ol q 25)::(k9++k8))∧E 5=A∧E 25=i4∧E 108=b8∧E 109=p1∧E 110=vI (n2:Int)∧E 128=vB n7) 5 ?_ λn7 U h8=>?_))))
    ·rintro z8 E W ⟨k8,d,t4,t5,t6,t7,t8,t9⟩ c3
     refine ln (CI c3 t9 (λp8 c3=>?_) λp8 c3=>?_)
     ·refine sg (Wa (ln ?_))
      have d:=d.kM (Db (Dr St))
      refine lB (mG (ly (mG (ly ?_))))
      cases sj c3
      replace h0:some 44=some qc:=h0
      cases sj h0
      exact rP d
     exact lU (lD (kW ⟨t8,t7,n9,_,K.trans m8,d.kM,t4,t5,t6,c3⟩))
    refine bC U (λy U=>?_) (λy U=>?_)
    ·refine un y (un y (un y (un y (V (lh (cB y) Z) ?_))))
     cases sj U
     exact h8 _ _ ⟨_,d.kM (Db St),g4,g7,g8,p,h,Z⟩
    refine ug y (kP Z (kV d.has Mh [vI x.1.Op,vI x.1.K,l0,m6,j1] Z aR aC)) (ug y (kT g7) (bS U λz1 av U=>sh y (Eg d call56 ((Kn lP) x.1 j1 i4 n4 _ _ (j6.mono lc.mono d.lb) (p4.sl ox λb o hq=>d.at_ (Mt (Mt (Ml hq)))) av) λy5 d=>ug y (nt Z) (V (lg (cB y) Z) ?_))))
    cases sj U
    exact h8 _ _ ⟨_,d.kM (Db St),g4,g7,g8,p,h,Z⟩
   rintro E W ⟨⟨h,p⟩,f3,i1,K,d,g4,g7,g8,T⟩
   refine kW ?_
   cases sj T
   exact ⟨_,Z,f3,_,K,d.kM (Db (Dr St))⟩
  rintro ⟨⟩ E W ⟨i8,k7,u8,d⟩ p9
  exact sg (Wa (lt (rQ p9 d)))
 refine bC P (λG P=>?_) (λG P=>?_)
 ·refine ug G (kT g1) (ug G (kT g2) (ug G (rF Z Z Z) (V (lh (cB G) Z) ?_)))
  cases sj P
  exact f7 _ _ ⟨_,d.kM,e2,e3,e4,e5,e7,Z⟩
 refine un G (un G (un G (V (lg (cB G) Z) ?_)))
 cases sj P
 exact f7 _ _ ⟨_,d.kM,e2,e3,e4,e5,e7,Z⟩
theorem PO {r:pg} (u:Sl nq 15 (hp qa) q0 qG.nK) (z:Sl oB 8 (hp qa) q1 qG.pv) (c0:Sl vi 2 (hp qa) q2 qS) (H:Sl pc 2 (hp qa) q3 qM) (hm:FE qG qC qS qM=some r) :
  lF false pg0 11 [vA [vS qG.Name,q0,q1],vS qC,q2,q3] qa (vA (nA r)):=by
 refine cG 41 func11 Z (λd=>sg ?_)
 obtain ⟨A1,c2,rfl⟩:=u.form
 obtain ⟨A3,c4,rfl⟩:=z.form
 let q:=C8 qG.Name A1 qG.nK.length c2 A3 qG.pv.length c4
 refine VE (lY d Z (λW6 s d=>VE (lq d fl λW8 w d=>lS (Wm (V (lT cT Z H) (Wm (ln (mJ 14 13 (λi js E W=>∃T,ST false lN qa W (hp qa) ((w,Ol (nA (⟨0,0⟩:pg)) 39)::((s,Ol q 25)::T))∧E 1=vS qC∧E 2=q2∧E 3=q3∧E 4=vP s∧E 8=vP w∧E 12=q3∧tm qM qG qC qS js i=some r) H.len ⟨_,d.kM,Z,Z,Z,Z,Z,Z,hm⟩ ?_ ?_))))))))
 ·rintro c y c6 E W R ⟨⟨h,o⟩,T,d,I,J,G,K,k,M,a⟩
  refine sg (Wh h (VQ (my (i:=(c:Int)) (x0:=y) pc.out cT dq M h H (aG _) R) λd3 ⟨_,⟨d4,rfl,Y⟩,O⟩=>V (kP Z (lA d.has O gO dq)) (VE (lq d dF λc7 d2 d=>Wa ?_))))
  obtain ⟨x,a5,rfl⟩:=Y.form
  refine VO (FA (#[vB y.Out,.slice x y.B.length a5]) d dq λc8 d=>lS (Wf DP (VB d Mh Z Z iQ (V (nt Z) (ln (CI a Z (λA a=>?_) λA a=>?_))))))
  ·refine nB (nv (ry (kW ?_)))
   have d:=d.kM (Db St)
   exact ⟨h,o,_,d.kM,I,J,G,K,k,M,a⟩
  refine kn (kY ?_)
  have d:=d.drew
  have g:=d.has.kM (Kb (Db (Kb Sn)))
  refine mh g lM (XH 0 Z g (λ_ p=>kP K (kV p (Mt Mh) q Z gN fG)) (X 1 Z g (kT I) (X 2 Z g (kT J) (X 3 Z g (kT G) (X 4 Z g (kT Z) (bS a λ_ U a=>XQ 5 Z g (Nl (j:=(c:Int)) cT dq Z Z H (vp U) (vl U)) λc1 Q=>X 6 Z g (kU Ct Z) (XH 7 Z g (λ_ p=>kP Z (kZ p Mh Z dm)) (XE 8 Z (.inl ⟨_,_,tg aT cJ bG Z (Y.mono (Pl.mono _) d.lb),⟨g,bS a λt P a=>XE 9 Z (Eg d call29 (Pv (u.mono pU.mono d.lb) (z.mono xi.mono d.lb) (c0.mono FJ.mono d.lb) (Q.1.mono vK.mono d.lb) P) λc9 d=>?_)⟩⟩)))))))))
  let a3:=(⟨(c:Int),t⟩:pg)
  let n:Value:=vA (nA a3)
  have g:=d.has.kM (Kb (Db (Kb Sn)))
  refine ⟨g,X 10 Z g (nz Z) (ml kr (kW ?_))⟩
  have d:=d.kM (Db St)
  refine sg (Wm (Wi Z (ln (CI a Z (λL a=>?_) λL a=>?_))))
  ·refine sg (Wm (Wm (V (lX (v:=n) (pF Z Z) (lG fl dJ (LZ _ dJ) kr)) (VO (lz n ((nA a3).toArray) d k Z fP (Az a3) nb Z (λd0 d=>ln ?_))))))
   have d:=d.kM (Kb (Db St))
   refine lB (mG (ly (mG (ly ?_))))
   cases sj a
   exact mR (v:=n) Z k (kV d.has Mh (nA a3) Z kI fP) ⟨Z,d.ex⟩
  exact lU (lD (kW ⟨h,o,_,d.kM,I,J,G,K,k,M,a⟩))
 rintro E W ⟨⟨h,o⟩,T,d,I,J,G,K,k,M,a⟩
 refine kW ?_
 have d:=d.kM (Kb (Db St))
 let a0:=(⟨(qM.length:Int),0⟩:pg)
 let a4:Value:=vA (nA a0)
 refine sg (Wh G (V (lT cT Z H) (V (lX (v:=a4) (mB Z) (lG fl dJ (LZ _ dJ) kr)) (VO (lz a4 ((nA a0).toArray) d k Z fP (Az a0) nb Z (λd1 d=>lt ?_))))))
 cases sj a
 exact mR (v:=a4) Z k (kV d.has Mh (nA a0) Z kI fP) ⟨Z,d.ex⟩
theorem Kl (c:Sl (Pl kQ) 9 (hp qa) q0 qr) (y:Sl (Pl kQ) 9 (hp qa) q1 qs) (hm:BC qr qs=some qt) :
  lF true pg0 12 [q0,q1] qa (vB qt):=by
 refine cG 26 func12 Z (λh=>sg (Wa (lS (Wm (V (lT aV Z c) (Wm (V (lT aV Z y) (Wi Z (lC ?_)))))))))
 refine kW (CI hm Z (λN hm=>?_) λN hm=>?_)
 ·refine sg (Wa (lt (ly ?_)))
  cases sj hm
  exact rP h
 refine kS (Wm (V (lT aV Z c) (Wm (ln (mJ 13 12 (λi q E W=>∃g,ST true lN qa W (hp qa) g∧E 0=q0∧E 1=q1∧zq qs q i=some qt) c.len ⟨_,h.kM,Z,Z,hm⟩ ?_ ?_)))))
 ·rintro H I Y E W K ⟨⟨n,p⟩,g,h,j,k,a⟩
  refine sg (Wh n (Wa (ln (kY ?_))))
  have h:=h.drew
  have d:=h.has.kM Sn
  refine mh d lM (X 0 Z d (kT j) (X 1 Z d (kT Z) (XQ 2 Z d (oz (enc:=kQ) (i:=(H:Int)) (x0:=I) aV aK Z Z c (aG _) K) λQ D=>XH 3 Z d (λ_ o=>kP Z (lA o D bK aK)) (X 4 Z d (kT k) (X 5 Z d (kT Z) (bS a λz x a=>XQ 6 Z d (oz (enc:=kQ) (i:=(H:Int)) (x0:=z) aV aK Z Z y (lR x) (lK x)) λT G=>XH 7 Z d (λ_ o=>kP Z (lA o G bK aK)) (X 8 Z d (Hz Z Z (nY eO) (Ds (yK _ I z))) (ml kr (kW (CI a Z (λB a=>?_) λB a=>?_))))))))))
  ·refine sg (Wa (lt (mG (ly (mG (ly ?_))))))
   cases sj a
   exact rP h
  exact lU (lD (kW ⟨n,p,_,h.kM,j,k,a⟩))
 rintro E W ⟨⟨n,p⟩,g,h,j,k,a⟩
 exact kW (sg (Wa (lt (rQ a h))))
theorem Qj (c1:Sl pc 2 (hp qa) q0 qM) (hm:GD qM=some qr) :
  mM true pg0 16 [q0] qa 55 kQ 9 qr:=by
 refine yd 47 func16 Z (λd=>sg (Wa (lr (Wa (lS (Wm ?_))))))
 refine V (lT cT Z c1) (Wm (ln (mJ 13 12 (λi js E W=>∃x G D w L,lm (hp qa) w∧ST true lN qa W w (D++L)∧E 3=x∧E 11=q0∧lQ 55 kQ 9 x G D∧wo js G=some qr) c1.len ⟨vN,[],[],hp qa,_,lm.refl _,d.kM,Z,Z,lQ.nil _ _ _,hm⟩ ?_ ?_)))
 ·rintro b5 K i8 E W f8 ⟨⟨h,n⟩,x,G,D,w,L,z,d,T,U,Y,g⟩
  refine sg (VQ (my (i:=(b5:Int)) (x0:=K) pc.out cT dq U h (c1.mono vK.mono z) (aG _) f8) λi1 ⟨_,⟨i4,rfl,c0⟩,e1⟩=>V (kP Z (lA d.has e1 gO dq)) (VE (lq d dF λg9 h9 d=>?_)))
  let j2:Value:=vI (b5:Int)
  let g5:Value:=vI (qM.length:Int)
  obtain ⟨c2,c7,rfl⟩:=c0.form
  refine VO (FA (#[vB K.Out,.slice c2 K.B.length c7]) d dq λh0 d=>lr (Wf Ct (VB d Mh Z Z dm (V (tg aT cJ bG Z (c0.mono (Pl.mono _) d.lb)) (bS g λc e3 g=>?_)))))
  let j4:Value:=vI c.2.1.E
  let j1:Value:=vS c.2.1.Name
  let h1:Value:=vI c.2.1.oN
  let g6:Value:=vI c.2.1.Kind
  refine VE (eD d (bJ _) call25 (λhh=>BA hh  e3) ?_ (L0:=[]))
  rintro _ i5 I g8 d a4 A ⟨i9,j0,a3,rfl,e8,H⟩
  cases a3
  refine Wm (Wx Z (Wx Z (Wx Z (VE (lq d cR λh2 c6 d=>Wa ?_)))))
  obtain ⟨a6,a9,rfl⟩:=e8.form
  let d5:Value:= .slice a6 c.2.1.nU.length a9
  obtain ⟨M,Q,rfl⟩:=H.form
  let d4:Value:= .slice M c.2.1.mC.length Q
  refine VO (FA (#[g6,h1,j4,j1,d5,d4]) d cI λh3 d=>Wa (lr (Wf DP (VB d (Mt Mh) Z Z iQ (Wm (LJ g (λd3 E W=>∃c4,ST true lN qa W I ((c6,Ob #[g6,h1,j4,j1,d5,d4] 69)::(D++c4))∧E 3=x∧E 7=vP c6∧E 11=q0∧E 12=g5∧E 13=j2∧E 30=vB d3) 3 ?_ λd3 u a5=>?_))))))
  ·rintro i7 E W ⟨c4,d,c9,f2,d0,d1,d2,f3⟩ t
   refine ln (CI t f3 (λd7 t=>?_) λd7 t=>?_)
   ·refine sg (V (kU uE f2) (VB d Mh Z Z fH (V (lT bV Z H) (Wm (ln ?_)))))
    have d:=d.kM (Db St)
    refine tW (CJ t (λb6 E W=>∃s N c5,ST true lN qa W I (N++c5)∧E 3=s∧E 11=q0∧E 12=g5∧E 13=j2∧lQ 55 kQ 9 s b6 N) (λb6 e0=>?_) ?_)
    ·refine mJ 34 33 (λi js E W=>∃B q y O,ST true lN qa W I (y++O)∧E 3=B∧E 11=q0∧E 12=g5∧E 13=j2∧E 32=d4∧lQ 55 kQ 9 B q y∧vX js q=some b6) H.len ⟨x,G,D,_,d.kM,c9,d0,d1,d2,Z,Y,e0⟩ ?_ ?_
     ·rintro f9 a g7 E W e7 ⟨⟨h,n⟩,B,q,y,O,d,P,b1,b2,b3,b4,a2,k⟩
      refine sg (VQ (my (i:=(f9:Int)) (x0:=a) mg.out bV bO b4 h H (aG _) e7) λi2 ⟨_,⟨i6,rfl,e6⟩,e2⟩=>V (kP Z (lA d.has e2 ef bO)) (VE (lq d cU λh4 i0 d=>?_)))
      obtain ⟨c3,c8,rfl⟩:=e6.form
      let b8:=C2 a.kK.Kind a.kK.Head.kO a.kK.Head.Word a.kK.lV a.kK.B.kO a.kK.B.Word a.kK.C.kO a.kK.C.Word a.kK.lW c3 a.Tag.length c8
      refine VO (FA b8.toArray d bO λh5 d=>ln (kX (Wh P (Wf rZ (VA d Mh (kQ a.kK) bK aK (VE (lE (cs:=(kQ a.kK).toArray) d (mB Z) (ng aV aK cO) λh6 f1 d=>?_)))))))
      have d:=d.perm (Nr (Qb (Qb Qz)) Nz)
      refine bS k λg1 d8 k=>VE (oG (enc:=kQ) (v:=B) (vs:= .slice (some ⟨f1,0,none⟩) 1 1) (R:=y) d mL dc ow aV od.1 od.2.1 Z od.2.2.1 od.2.2.2 Z Z a2 (Sl.lit (enc:=kQ) (l:=[a.kK]) mL Z nb Z (d.at_ (Ma Mh))) d8 λh7 g2 e9 d d6=>Wa (lC (lD (kW ?_))))
      have d:=d.kM (Kr (Db (Db St)))
      exact ⟨h,n,g2,g1,e9,_,d.kM,Z,b1,b2,b3,b4,d6,k⟩
     rintro E W ⟨⟨h,n⟩,B,q,y,O,d,P,b1,b2,b3,b4,a2,k⟩
     refine kW ?_
     cases sj k
     exact ⟨B,y,_,d.kM,P,b1,b2,b3,a2⟩
    rintro g0 E W ⟨s,N,c5,d,f4,f5,f6,f7,e5⟩ d9
    exact lD (kW ⟨f7,f6,s,g0,N,I,_,z.trans a4,d.kM,f4,f5,e5,d9⟩)
   refine lU (lD (kW ?_))
   have d:=d.kM (Db St)
   exact ⟨d2,d1,x,G,D,I,_,z.trans a4,d.kM,c9,d0,Y,t⟩
  refine bC u (λj u=>?_) (λj u=>?_)
  ·refine ug j (kT Z) (ug j (lI Z Z Z) (V (lh (cB j) Z) ?_))
   cases sj u
   exact a5 _ _ ⟨_,d.kM (Kb (Db St)),T,Z,U,n,h,Z⟩
  refine un j (un j (V (lg (cB j) Z) ?_))
  cases sj u
  exact a5 _ _ ⟨_,d.kM (Kb (Db St)),T,Z,U,n,h,Z⟩
 rintro E W ⟨⟨h,n⟩,x,G,D,w,L,z,d,T,U,Y,g⟩
 refine kW (sg (Wh T (bS g λi3 e4 g=>VE (rM d call31 (ET (Y.sl mL λb o hq=>d.at_ (Ml hq)) e4) λh8 g3 j3 f0 d g4 J b9=>Wa (ln ?_)))))
 have d:=d.kM (Kr (Dr St))
 refine lB ?_
 cases sj g
 exact ma (v:=g3) Z Z ⟨_,f0,Z,d.oa (λp hq=>Ml hq) b9.nd,b9⟩
theorem JD (g:mW) (a3 a4 T:Value) (a1:List Key) (x:Value) (a2:List nJ) (r:Bool) (w:World) (G:Sl nq 15 (hp w) a3 g.nK) (I:Sl oB 8 (hp w) a4 g.pv) (d2:Sl vi 2 (hp w) T a1) (K:Sl pc 2 (hp w) x a2) (hm:zt g a1 a2=some r) :
  lF false pg0 3 [vA [vS g.Name,a3,a4],T,x] w (vB r):=by
 refine cG 79 func3 Z (λd=>sg ?_)
 obtain ⟨A1,c2,rfl⟩:=G.form
 let a5:Value:= .slice A1 g.nK.length c2
 obtain ⟨A3,c4,rfl⟩:=I.form
 let a6:Value:= .slice A3 g.pv.length c4
 let a0:=C8 g.Name A1 g.nK.length c2 A3 g.pv.length c4
 refine VE (lY d Z (λW6 q d=>Wa (lS (bS hm λr7 l2 hm=>VE (Eg d call4 (Pu  _ _  l2) λW9 d=>V (nt Z) (ln (CI hm Z (λi2 hm=>?_) λi2 hm=>?_)))))))
 ·refine sg (Wa (ln ?_))
  have d:=d.kM (Db St)
  refine lB (ly ?_)
  cases sj hm
  exact rP d
 refine kg (Wm (bS hm λd6 i6 hm=>?_))
 refine VE (eD d (bJ _) call5 (λhh=>mq.mF (NX hh (d2.mono FJ.mono (lm.refl _)) i6)) ?_ (L0:=[]))
 rintro _ o7 h8 o0 d c ad ⟨c7,d3,rfl,e3⟩
 cases d3
 refine Wm (Wx Z (Wx Z (Wa (Wa (lS (VA d Mh a0 gN fG (bS hm λo5 i7 hm=>VE (Eg d call6 (PL (G.mono pU.mono (c.trans d.lb)) (I.mono xi.mono (c.trans d.lb)) i7) λo2 d=>Wi Z (Wm ?_)))))))))
 refine LJ hm (λe8 E W=>∃h2,ST false lN w W h8 ((q,Ol a0 25)::h2)∧E 1=T∧E 2=x∧E 3=vP q∧E 7=c7∧E 8=vI d6.2∧E 25=vB e8) 3 ?_ (λe8 M c6=>?_)
 ·rintro o8 E W ⟨h2,d,h4,h5,h6,h7,k6,k7⟩ i5
  refine Wh k7 (LJ i5 (λe7 E W=>∃h3,ST false lN w W h8 ((q,Ol a0 25)::h3)∧E 1=T∧E 2=x∧E 3=vP q∧E 7=c7∧E 29=vB e7) 3 ?_ λe7 v c5=>?_)
  ·rintro o9 E W ⟨h3,d,k8,e0,k9,l0,l1⟩ D
   refine ln (CI D l1 (λi3 D=>?_) λi3 D=>?_)
   ·refine sg (Wa (ln ?_))
    have d:=d.kM (Db St)
    refine lB (ly ?_)
    cases sj D
    exact rP d
   refine kg (Wh e0 (bS D λo6 i8 D=>VE (rM d call8 (Hy (K.mono vK.mono (c.trans d.lb)) i8) λo3 l4 p0 k4 d j ae A=>Wh e0 (bS D λl3 i9 D=>VE (rM d call9 (mM.mF (NW (K.mono vK.mono ((c.trans j).trans d.lb)) i9)) λo4 l5 f1 k5 d t af d1=>Wa (Wa (ln (kY ?_))))))))
   refine sg (Wm (V (pe ez Z A) (Wm (V (pe ez Z d1) (Wi Z (ln (CI D Z (λi4 D=>?_) λi4 D=>?_)))))))
   ·refine sg (Wa (ln ?_))
    have d:=d.kM (Dr (Dr (Db St)))
    refine lB (ly ?_)
    cases sj D
    exact rP d
   refine kS (Wm (V (pe ez Z A) (Wm (ln (mJ 41 40 (λi js E W=>∃c8,ST false lN w W f1 ((q,Ol a0 25)::(k5++(k4++c8)))∧E 1=T∧E 2=x∧E 3=vP q∧E 7=c7∧E 9=l4∧E 10=l5∧sa l3 g d6 a2 a1 js i=some r) A.len ⟨_,d.kM (Sb (Pr (Pr Pz)) St),k8,e0,k9,l0,Z,Z,D⟩ ?_ ?_)))))
   ·rintro e4 e9 l6 E W d5 ⟨⟨eI,eN⟩,c8,d,O,N,P,R,c9,d0,k⟩
    refine sg (Wh eI (Wa (ln (kY ?_))))
    have d:=d.drew
    have h:=d.has.kM (Db (Kr (Kr Sn)))
    refine mh h lM (X 0 Z h (kT c9) (X 1 Z h (kT Z) (XQ 2 Z h (oF (i:=(e4:Int)) (x0:=e9) ez dH Z Z A (aG _) d5) λn0 f9=>XH 3 Z h (λ_ s=>kP Z (Da s (λp n=>Ma (Ml n)) A (λ_=>rfl) f9 d5 (y:=vI e9) Z bH)) (X 4 Z h (kT d0) (X 5 Z h (kT Z) (bS k λf0 b9 k=>XQ 6 Z h (oF (i:=(e4:Int)) (x0:=f0) ez dH Z Z d1 (lR b9) (lK b9)) λn1 g0=>XH 7 Z h (λ_ s=>kP Z (Da s (λp n=>Ml n) d1 (λ_=>rfl) g0 (lK b9) (y:=vI f0) Z bH)) (X 8 Z h (lI Z Z Z) (ml kr (kW (CI k Z (λf6 k=>?_) λf6 k=>?_))))))))))
    ·refine sg (Wa (ln ?_))
     have d:=d.kM (Db (Dr (Dr St)))
     refine lB (mG (ly (mG (ly ?_))))
     cases sj k
     exact rP d
    exact lU (lD (kW ⟨eI,eN,_,d.kM,O,N,P,R,c9,d0,k⟩))
   rintro E W ⟨⟨eI,eN⟩,c8,d,O,N,P,R,c9,d0,k⟩
   refine kW ?_
   have d:=d.kM (Kb (Dr (Dr St)))
   refine kY ?_
   have d:=d.drew
   have h:=d.has.kM (Kb Sn)
   refine mh h lM (XH 0 Z h (λ_ s=>kP P (kV s Mh a0 Z gN fG)) (X 1 Z h (kT R) (X 2 Z h (kT N) (XH 4 Z h (λ_ s=>kP P (kV s Mh a0 Z gN fG)) (X 5 Z h (kT O) (X 6 Z h (kT N) (bS k λj0 g1 k=>XE 3 Z (Eg d call10 (CY (G.mono pU.mono (((c.trans j).trans t).trans d.lb)) (I.mono xi.mono (((c.trans j).trans t).trans d.lb)) (e3.mono po ((j.trans t).trans d.lb)) (K.mono vK.mono (((c.trans j).trans t).trans d.lb)) g1) λm1 d=>?_))))))))
   have h:=d.has.kM (Kb Sn)
   refine ⟨h,bS k λj3 g2 k=>XE 7 Z (Eg d call11 (PO (G.mono pU.mono (((c.trans j).trans t).trans d.lb)) (I.mono xi.mono (((c.trans j).trans t).trans d.lb)) (d2.mono FJ.mono (((c.trans j).trans t).trans d.lb)) (K.mono vK.mono (((c.trans j).trans t).trans d.lb)) g2) λm2 d=>?_)⟩
   have h:=d.has.kM (Kb Sn)
   refine ⟨h,X 8 Z h (wE Z Z (nY eqGuardType39) (so (HF _ j0 j3))) (X 9 Z h (kT Z) (PJ k (λe6 E W=>∃L d8,lm f1 L∧ST false lN w W L ((q,Ol a0 25)::d8)∧E 2=x∧E 71=vB e6) (bm 26 262143) 8 ?_ λe6 B c3=>?_))⟩
   ·rintro n6 E W ⟨L,d8,H,d,e1,h9⟩ f7
    have h:=d.has.ob H (Kb Sn)
    refine X 18 Z h (kT h9) (PJ f7 (λe5 E W=>∃d4 d9,lm L d4∧ST false lN w W d4 ((q,Ol a0 25)::d9)∧E 78=vB e5) (bm 26 33554431) 1 ?_ λe5 z c1=>?_)
    ·rintro n7 E W ⟨d4,d9,e2,d,i0⟩ f8
     have h:=d.has.ob (H.trans e2) (Kb Sn)
     refine X 25 Z h (nz i0) (ml kr (kW ?_))
     exact lB (rQ f8 d)
    refine bC z (λu z=>?_) (λu z=>?_)
    ·refine Xg 19 Z Z (cB u) h (kT e1) (Xg 21 Z Z (cB u) h (kT e1) (bS z λj4 g3 z=>Al 20 Z Z (cB u) (rM d call15 (Kq (K.mono vK.mono ((((c.trans j).trans t).trans H).trans d.lb)) g3) λm3 j8 n8 l7 d Q a7 f2=>?_)))
     have h:=d.has.ob (H.trans Q) (Dr (Kb Sn))
     refine ⟨h,bS z λj5 g4 z=>Al 22 Z Z (cB u) (rM d call16 (mM.mF (Qj (K.mono vK.mono (((((c.trans j).trans t).trans H).trans Q).trans d.lb)) g4)) λm4 j9 k2 l8 d b1 a8 f3=>?_)⟩
     have h:=d.has.ob ((H.trans Q).trans b1) (Dr (Dr (Kb Sn)))
     refine ⟨h,bS z λn2 g7 z=>Al 23 Z Z (cB u) (Eg d call12 (lF.mF (Kl (f2.sl mL λb o n=>d.at_ (Ma (Ml n))) (f3.sl mL λb o n=>d.at_ (Ml n)) g7)) λm5 d=>?_)⟩
     have h:=d.has.ob ((H.trans Q).trans b1) (Dr (Dr (Kb Sn)))
     refine ⟨h,X 24 Z h (lh (cB u) Z) ?_⟩
     cases sj z
     refine nr kr (c1 _ _ ⟨k2,_,Q.trans b1,d.kM (Dr (Dr St)),Z⟩)
    refine Xn 19 Z Z (cB u) h (Xn 20 Z Z (cB u) h (Xn 21 Z Z (cB u) h (Xn 22 Z Z (cB u) h (Xn 23 Z Z (cB u) h (X 24 Z h (lg (cB u) Z) ?_)))))
    cases sj z
    refine nr kr (c1 _ _ ⟨L,_,lm.refl _,d.kM,Z⟩)
   refine bC B (λa B=>?_) (λa B=>?_)
   ·refine Xg 10 Z Z (cB a) h (kT R) (Xg 11 Z Z (cB a) h (kT N) (Xg 13 Z Z (cB a) h (kT O) (Xg 14 Z Z (cB a) h (kT N) (bS B λj6 g8 B=>Al 12 Z Z (cB a) (rM d call13 (JC (e3.mono po ((j.trans t).trans d.lb)) (K.mono vK.mono (((c.trans j).trans t).trans d.lb)) g8) λm6 k0 n9 l9 d J aa f4=>?_)))))
    have h:=d.has.ob J (Dr (Kb Sn))
    refine ⟨h,bS B λj7 g9 B=>Al 15 Z Z (cB a) (rM d call14 (mM.mF (JM (d2.mono FJ.mono ((((c.trans j).trans t).trans J).trans d.lb)) (K.mono vK.mono ((((c.trans j).trans t).trans J).trans d.lb)) g9)) λm7 k1 k3 m0 d b2 ab f5=>?_)⟩
    have h:=d.has.ob (J.trans b2) (Dr (Dr (Kb Sn)))
    refine ⟨h,bS B λn3 h0 B=>Al 16 Z Z (cB a) (Eg d call12 (lF.mF (Kl (f4.sl mL λb o n=>d.at_ (Ma (Ml n))) (f5.sl mL λb o n=>d.at_ (Ml n)) h0)) λm8 d=>?_)⟩
    have h:=d.has.ob (J.trans b2) (Dr (Dr (Kb Sn)))
    refine ⟨h,X 17 Z h (lh (cB a) Z) ?_⟩
    cases sj B
    refine nr kr (c3 _ _ ⟨k3,_,J.trans b2,d.kM (Dr (Dr St)),N,Z⟩)
   refine Xn 10 Z Z (cB a) h (Xn 11 Z Z (cB a) h (Xn 12 Z Z (cB a) h (Xn 13 Z Z (cB a) h (Xn 14 Z Z (cB a) h (Xn 15 Z Z (cB a) h (Xn 16 Z Z (cB a) h (X 17 Z h (lg (cB a) Z) ?_)))))))
   cases sj B
   refine nr kr (c3 _ _ ⟨f1,_,lm.refl _,d.kM,N,Z⟩)
  refine bC v (λY v=>?_) (λY v=>?_)
  ·refine un Y (un Y (V (lh (cB Y) Z) ?_))
   cases sj v
   exact c5 _ _ ⟨_,d.kM,h4,h5,h6,h7,Z⟩
  refine ug Y (kT k6) (ug Y (lI Z Z Z) (V (lg (cB Y) Z) ?_))
  cases sj v
  exact c5 _ _ ⟨_,d.kM,h4,h5,h6,h7,Z⟩
 refine bC M (λU M=>?_) (λU M=>?_)
 ·refine un U (un U (V (lh (cB U) Z) ?_))
  cases sj M
  exact c6 _ _ ⟨_,d.kM,Z,Z,Z,Z,Z,Z⟩
 refine ug U (kT Z) (bS M λn4 h1 M=>sh U (Eg d call7 (lF.mF (PF (K.mono vK.mono (c.trans d.lb)) h1)) λm9 d=>V (lg (cB U) Z) ?_))
 cases sj M
 exact c6 _ _ ⟨_,d.kM,Z,Z,Z,Z,Z,Z⟩
end Go.Proofs.YtlfibegniofmjaaGreat
