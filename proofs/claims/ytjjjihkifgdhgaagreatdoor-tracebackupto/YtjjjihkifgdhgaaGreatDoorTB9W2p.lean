/- a part of a proof of TraceBack -/
import Derived.Test.YtjjjihkifgdhgaaGreatDoorTB9W1p
set_option linter.all false
namespace Go.Proofs.YtjjjihkifgdhgaaGreatDoor
open Go.IntKind renaming wrap → wi0
open Go.Proofs.Tryz renaming prog → pg0
open Go.RowKit
set_option maxRecDepth 10000
open Tryz
set_option maxHeartbeats 4000000 in
theorem wB (g:Nat) (a0:fV) (D:Value) (s:(Int ⊕ (ie×fV))) (w:World) {μ0:gm} (h0:kz μ0 ((g,Ob #[D,(.bool a0.over)] 349)::[]) w) (i8:Sl (Pl (fW .u8)) 1 μ0 D a0.b) (hm:ly a0=some s) :
  gk false pg0 281 [(.pointer (some ⟨g,0,none⟩))] w μ0 ((g,Ob #[D,(.bool a0.over)] 349)::[]) s (λr v L1 μ1=>∃y1 y3 y5,v=(.agg #[(.int .i64 ((r.1).Kind)),(.int .i64 ((r.1).gY)),(.int .i64 ((r.1).E)),(.string ((r.1).Name)),y1,y3])∧L1=((g,Ob #[y5,(.bool ((r.2).over))] 349)::[])∧Sl (Pl fS) 2 μ1 y1 ((r.1).gA)∧Sl gr 10 μ1 y3 ((r.1).gv)∧Sl (Pl (fW .u8)) 1 μ1 y5 ((r.2).b)) (λx c L1 μ1=>∃y z,c=[{ v:=nu 354 g x,recovered:=false }]∧L1=((g,Ob #[y,z] 349)::[])):=by
 let c6:Value:=(.pointer (some ⟨g,0,none⟩))
 let b8:=((g,Ob #[D,(.bool a0.over)] 349)::[])
 have d:=ST.me (dd:=false) h0
 refine jQ (n:=55) func281 rfl rfl nb (sg (VE (gy d bq (λW2 b1 d=>lr (Wm (bS hm λu1 v2 hm=>?_))))))
 let g6:Value:=(.pointer (some ⟨b1,0,none⟩))
 rcases u1 with be | J
 ·have L:=d.size
  refine jP (.inl rfl) (iB (args:=[c6,(.int .i64 9223372036854775807)]) (caps:=#[]) _ _ d (Cb (Pb Pz) Cn) rfl dD (by exact jG rfl rfl) (λhH hN A eh=>nj.gV (gk.l (gF g a0 D 9223372036854775807 _ _ ⟨hH,hN,A⟩ (i8.mono (Pl.mono _) (gf.refl _)) v2))) (λW5 bd hb v7 d K aE hd=>?_))
  obtain ⟨bf,bh,v5,rfl⟩:=hd
  replace d:=d.perm (Tb Tn)
  refine ib (iU ?_)
  obtain rfl:=sj hm
  exact gQ.li ⟨_,_,_,rfl,(d.hU (Kb Sn)),K,aE,(ST.gp d (gX.mem (Kb Sn))),⟨_,_,v5,rfl⟩⟩
 have L:=d.size
 refine VE (eD d (Cb (Pb Pz) Cn) dD (λhh=>iC.gV (gk.r (gF g a0 D 9223372036854775807 _ _ hh (i8.mono (Pl.mono _) (gf.refl _)) v2))) ?_)
 rintro W5 v9 hb v7 d K aE ⟨h3,k3,rfl,c1⟩
 obtain rfl:=k3.symm
 replace d:=d.perm (Tb Tn)
 refine V (ia (v:=(.agg (C5 J.1).toArray)) (kA rfl) (gG bq aW (qV _ aW) kr)) (VE (gy d bq (λba e2 d=>VO (ga (.agg (C5 J.1).toArray) ((C5 J.1).toArray) d rfl rfl aO oc nb rfl (λbc d=>ln (gq (wu hm (λI E W=>∃b5 h6 b6 h7 Y b9 k4,gf hb b9∧Lo (gL b8) w hb b9∧ST false (gL b8) w W b9 ((e2,Ob #[(.int .i64 J.1),(.int .i64 I.1),(.int .i64 I.2.1),(.string I.2.2.1),b5,b6] 68)::((g,Ob #[Y,(.bool I.2.2.2.2.2.2)] 349)::((b1,Ol C3 68)::(h7++(h6++k4)))))∧E 0=c6∧E 2=g6∧E 3=(.pointer (some ⟨e2,0,none⟩))∧gB 27 fS 2 b5 I.2.2.2.1 h6∧jA 55 gr 10 b9 b6 I.2.2.2.2.1 h7∧Sl (Pl (fW .u8)) 1 b9 Y I.2.2.2.2.2.1) (λI i j=>?_) ?_)))))))
 ·let j1:Value:=(.pointer (some ⟨e2,0,none⟩))
  refine sg (Wf om (VB d Mh rfl rfl bY (ln (bg (Wi rfl (Wa (ln (CI i rfl (λn3 i=>?_) (λn3 i=>?_)))))))))
  ·refine sg (Wm (bS i λt5 j0 i=>?_))
   rcases t5 with s7 | b3
   ·have L:=d.size
    refine jP (.inl rfl) (iB (args:=[c6]) (caps:=#[]) _ _ d (Cb (Pb Pz) Cn) rfl eX (by exact lM rfl) (λhH hN A eh=>nj.gV (gk.l (kq g J.2 h3 _ _ ⟨hH,hN,A⟩ (c1.mono (Pl.mono _) (gf.refl _)) j0))) (λr2 x6 v0 q2 d a8 bs eN=>?_))
    obtain ⟨ad,am,o1,rfl⟩:=eN
    replace d:=d.perm (Tb Tn)
    refine ib (lD (ib (iU ?_)))
    obtain rfl:=sj i
    replace j:some (Sum.inl s7)=some s:=j
    obtain rfl:=sj j
    exact gQ.li ⟨_,_,_,rfl,(d.hU (Kb Sn)),(K.trans a8),(aE.trans bs),(ST.gp d (gX.mem (Kb Sn))),⟨_,_,o1,rfl⟩⟩
   have L:=d.size
   refine VE (eD d (Cb (Pb Pz) Cn) eX (λhh=>iC.gV (gk.r (kq g J.2 h3 _ _ hh (c1.mono (Pl.mono _) (gf.refl _)) j0))) ?_)
   rintro r2 z2 v0 q2 d a8 bs ⟨l8,g3,rfl,k1⟩
   obtain rfl:=g3.symm
   replace d:=d.perm (Tb Tn)
   refine Wf qo ?_
   replace d:=d.perm (Nb (Pb Pz) Nz)
   refine VO (ga (.string b3.1) (#[(.int .i64 J.1),(.int .i64 0),(.int .i64 0),(.string b3.1),(.slice none 0 0),(.slice none 0 0)]) d rfl rfl dm (vx b3.1) nb rfl (λw5 d=>ln (gn (Wm (bS i λt4 j3 i=>?_)))))
   rcases t4 with s8 | i3
   ·have L:=d.size
    refine jP (.inl rfl) (iB (args:=[c6,(.int .i64 2)]) (caps:=#[]) _ _ d (Cb (Pb Pz) Cn) rfl dD (by exact jG rfl rfl) (λhH hN A eh=>nj.gV (gk.l (gF g b3.2 l8 2 _ _ ⟨hH,hN,A⟩ (k1.mono (Pl.mono _) (gf.refl _)) j3))) (λr4 x7 l9 q3 d d9 cp eR=>?_))
    obtain ⟨ae,an,o2,rfl⟩:=eR
    replace d:=d.perm (Tb Tn)
    refine lD (ib (iU ?_))
    obtain rfl:=sj i
    replace j:some (Sum.inl s8)=some s:=j
    obtain rfl:=sj j
    exact gQ.li ⟨_,_,_,rfl,(d.hU (Kb Sn)),((K.trans a8).trans d9),((aE.trans bs).trans cp),(ST.gp d (gX.mem (Kb Sn))),⟨_,_,o2,rfl⟩⟩
   have L:=d.size
   refine VE (eD d (Cb (Pb Pz) Cn) dD (λhh=>iC.gV (gk.r (gF g b3.2 l8 2 _ _ hh (k1.mono (Pl.mono _) (gf.refl _)) j3))) ?_)
   rintro r4 z3 l9 q3 d d9 cp ⟨u2,g4,rfl,p5⟩
   obtain rfl:=g4.symm
   replace d:=d.perm (Tb Tn)
   refine Wf pw ?_
   replace d:=d.perm (Nb (Pb Pz) Nz)
   refine VO (ga (.int .i64 i3.1) (#[(.int .i64 J.1),(.int .i64 i3.1),(.int .i64 0),(.string b3.1),(.slice none 0 0),(.slice none 0 0)]) d rfl rfl eo (qF _ i3.1) nb rfl (λw6 d=>gJ (ig (gj ?_))))
   obtain rfl:=sj i
   exact ⟨_,rfl,(.slice none 0 0),[],(.slice none 0 0),[],u2,l9,_,(a8.trans d9),(bs.trans cp),(d.fR St),rfl,rfl,rfl,(gB.nil _ _ _),(jA.nil _ _ _ _),p5⟩
  refine sg (Wi rfl (Wa (ln (CI i rfl (λn4 i=>?_) (λn4 i=>?_)))))
  ·refine gq (sg (Wm (bS i λt9 j4 i=>?_)))
   rcases t9 with s9 | f0
   ·have L:=d.size
    refine jP (.inl rfl) (iB (args:=[c6,(.int .i64 16)]) (caps:=#[]) _ _ d (Cb (Pb Pz) Cn) rfl dD (by exact jG rfl rfl) (λhH hN A eh=>nj.gV (gk.l (gF g J.2 h3 16 _ _ ⟨hH,hN,A⟩ (c1.mono (Pl.mono _) (gf.refl _)) j4))) (λr5 x8 f7 q4 d M O fb=>?_))
    obtain ⟨af,ao,o3,rfl⟩:=fb
    replace d:=d.perm (Tb Tn)
    refine ib (ib (lD (ib (iU ?_))))
    obtain rfl:=sj i
    replace j:some (Sum.inl s9)=some s:=j
    obtain rfl:=sj j
    exact gQ.li ⟨_,_,_,rfl,(d.hU (Kb Sn)),(K.trans M),(aE.trans O),(ST.gp d (gX.mem (Kb Sn))),⟨_,_,o3,rfl⟩⟩
   have L:=d.size
   refine VE (eD d (Cb (Pb Pz) Cn) dD (λhh=>iC.gV (gk.r (gF g J.2 h3 16 _ _ hh (c1.mono (Pl.mono _) (gf.refl _)) j4))) ?_)
   rintro r5 z4 f7 q4 d M O ⟨u3,g7,rfl,p6⟩
   obtain rfl:=g7.symm
   replace d:=d.perm (Tb Tn)
   refine Wm (ln (jS (pj (λm E W=>∃f5 N i1 T Z U a4 d5 k5,gf f7 d5∧Lo (gL b8) w f7 d5∧ST false (gL b8) w W d5 ((e2,Ob #[(.int .i64 J.1),(.int .i64 0),(.int .i64 0),(.string zS),N,(.slice none 0 0)] 68)::((g,Ob #[Z,(.bool a4)] 349)::((b1,Ol C3 68)::(T++k5))))∧E 0=c6∧E 2=g6∧E 3=j1∧E 20=(.int .i64 f0.1)∧E 21=(.int .i64 f5)∧gB 27 fS 2 N i1 T∧Sl (Pl (fW .u8)) 1 d5 Z U∧kB f0 m f5 i1 U a4=some I) iq ⟨0,(.slice none 0 0),([]),[],u3,((f0.2).b),((f0.2).over),f7,_,(gf.refl _),Lo.refl,(d.fR (Sb (Pb Pz) St)),rfl,rfl,rfl,rfl,rfl,(gB.nil _ _ _),p6,i⟩ ?_)))
   rintro m E W ⟨f5,N,i1,T,Z,U,a4,d5,k5,Q,P,d,e5,k9,e6,l0,l1,j9,d1,k⟩
   let i5:=(⟨U,a4⟩:fV)
   cases m with
   | zero=>rw [kB] at k; cases k
   | succ s5=>
    refine sg (V (iJ l1 l0 rfl) (ln (gq (CI k rfl (λn5 k=>?_) (λn5 k=>?_)))))
    ·refine kn (gq (jS ?_))
     replace d:=d.drew
     have p:=d.has.fR Sn
     have q:=d.has.fR (Kb Sn)
     refine vN 7 p q gK (lh 0 rfl kr (.inl rfl) rfl dc (λ_ _ h=>⟨h.1,mu br h.2⟩) ⟨p,λ_=>q⟩ (λ_ _ _ _=>fZ nG e6) (lh 1 rfl kr (.inl rfl) rfl dc (λ_ _ h=>⟨h.1,mu br h.2⟩) ⟨p,λ_=>q⟩ (λl W hc hs=>have hS:=(hs.2 (hc.B6 7 [1] kr rfl)); fU rfl (gh hS Mh rfl eV)) (lh 2 rfl kr (.inl rfl) rfl dc (λ_ _ h=>⟨h.1,mu br h.2⟩) ⟨p,λ_=>q⟩ (λ_ _ _ _=>gl e5) (bS k λt6 j5 k=>?_))))
     rcases t6 with t0 | b4
     ·have L:=d.size
      refine Hx 3 rfl kr (.inl rfl) (iB (args:=[c6]) (caps:=#[]) _ _ d (Cb (Pb Pz) Cn) rfl ep (by exact lM rfl) (λhH hN A eh=>nj.gV (gk.l (jy g i5 Z _ _ ⟨hH,hN,A⟩ (d1.mono (Pl.mono _) (gf.refl _)) j5))) (λr6 x9 m0 q5 d G dk fk=>?_))
      obtain ⟨ag,ap,o4,rfl⟩:=fk
      replace d:=d.perm (Tb Tn)
      refine lD (ib (ib (lD (ib (lD (ib (iU ?_)))))))
      obtain rfl:=sj k
      replace j:some (Sum.inl t0)=some s:=j
      obtain rfl:=sj j
      exact gQ.li ⟨_,_,_,rfl,(d.hU (Kb Sn)),(((K.trans M).trans Q).trans G),(((aE.trans O).trans P).trans dk),(ST.gp d (gX.mem (Kb Sn))),⟨_,_,o4,rfl⟩⟩
     have L:=d.size
     refine XE 3 rfl (eD d (Cb (Pb Pz) Cn) ep (λhh=>iC.gV (gk.r (jy g i5 Z _ _ hh (d1.mono (Pl.mono _) (gf.refl _)) j5))) ?_)
     rintro r6 z5 m0 q5 d G dk ⟨u4,g8,rfl,p7⟩
     obtain rfl:=g8.symm
     replace d:=d.perm (Tb Tn)
     have p:=d.has.jn G Sn
     have q:=d.has.jn G (Db (Kb Sn))
     refine ⟨⟨p,λ_=>q⟩,(XE 4 rfl (iy (cs:=(fS b4.1).toArray) d (kA rfl) (lH aP aD bL) (λw7 s0 d=>?_)))⟩
     have p:=d.has.jn G Sn
     have q:=d.has.jn G (Db (Db (Kb Sn)))
     refine ⟨⟨p,λ_=>q⟩,?_⟩
     replace d:=d.perm (Nr (Qb (Qb (Qb (Qb Qz)))) Nz)
     refine bS k λe8 n6 k=>XE 5 rfl (lg (enc:=fS) (v:=N) (vs:=(.slice (some ⟨s0,0,none⟩) 1 1)) (R:=T) d jl dc iH aP ob.1 ob.2.1 rfl ob.2.2.1 ob.2.2.2 rfl rfl j9 (Sl.lit (enc:=fS) (l:=[b4.1]) jl rfl nb rfl (d.at_ (Ma Mh))) n6 (λw8 z6 q9 d i6=>?_))
     have p:=d.has.jn G Sn
     have q:=d.has.jn G (Dr (Db (Db (Kb Sn))))
     refine ⟨⟨p,λ_=>q⟩,(lh 6 rfl kr (.inl rfl) rfl dc (λ_ _ h=>⟨h.1,mu br h.2⟩) ⟨p,λ_=>q⟩ (λ_ _ _ _=>fZ nG e6) ?_)⟩
     obtain ⟨h4,h8,rfl⟩:=i6.form
     replace d:=d.perm (Nb (Pr (Pb (Pb Pz))) Nz)
     refine XO 7 rfl (ga (.slice h4 e8.length h8) (#[(.int .i64 J.1),(.int .i64 0),(.int .i64 0),(.string zS),(.slice h4 e8.length h8),(.slice none 0 0)]) d rfl rfl sizeOf65 oc nb rfl (λw9 d=>?_))
     have p:=d.has.jn G Sn
     refine ⟨⟨p,λh=>vi kr h⟩,(iz kr (ig (gj ?_)))⟩
     replace d:=d.fR (Kb (Kr (Db St)))
     exact gn (V (iJ l1 rfl rfl) (Wm (ln ⟨s5,cU _,(wi0 .i64 (f5+1)),(.slice h4 e8.length h8),e8,q9,u4,((b4.2).b),((b4.2).over),m0,_,(Q.trans G),(P.trans dk),(d.fR (Kb (Sb (Pr Pz) (Sb (Pr Pz) St)))),e5,k9,e6,l0,rfl,i6,p7,k⟩)))
    refine pd (oA (oA (uo (gj (sg (Wh e5 (bS k λt8 j6 k=>?_)))))))
    rcases t8 with t1 | f1
    ·have L:=d.size
     refine jP (.inl rfl) (iB (args:=[c6,(.int .i64 8)]) (caps:=#[]) _ _ d (Cb (Pb Pz) Cn) rfl dD (by exact jG rfl rfl) (λhH hN A eh=>nj.gV (gk.l (gF g i5 Z 8 _ _ ⟨hH,hN,A⟩ (d1.mono (Pl.mono _) (gf.refl _)) j6))) (λr7 y0 c0 q6 d a9 cc fo=>?_))
     obtain ⟨ah,aq,o5,rfl⟩:=fo
     replace d:=d.perm (Tb Tn)
     refine ib (lD (ib (iU ?_)))
     obtain rfl:=sj k
     replace j:some (Sum.inl t1)=some s:=j
     obtain rfl:=sj j
     exact gQ.li ⟨_,_,_,rfl,(d.hU (Kb Sn)),(((K.trans M).trans Q).trans a9),(((aE.trans O).trans P).trans cc),(ST.gp d (gX.mem (Kb Sn))),⟨_,_,o5,rfl⟩⟩
    have L:=d.size
    refine VE (eD d (Cb (Pb Pz) Cn) dD (λhh=>iC.gV (gk.r (gF g i5 Z 8 _ _ hh (d1.mono (Pl.mono _) (gf.refl _)) j6))) ?_)
    rintro r7 z7 c0 q6 d a9 cc ⟨u5,g9,rfl,p8⟩
    obtain rfl:=g9.symm
    replace d:=d.perm (Tb Tn)
    refine Wm (ln (yt (wu k (λd3 E W=>∃f2 e3 f3 a5 k6,gf c0 a5∧Lo (gL b8) w c0 a5∧ST false (gL b8) w W a5 ((e2,Ob #[(.int .i64 J.1),(.int .i64 0),(.int .i64 0),(.string zS),N,f2] 68)::((g,Ob #[f3,(.bool d3.2.2)] 349)::((b1,Ol C3 68)::(e3++(T++k6)))))∧E 0=c6∧E 2=g6∧E 3=j1∧jA 55 gr 10 a5 f2 d3.1 e3∧Sl (Pl (fW .u8)) 1 a5 f3 d3.2.1) (λd3 o9 f8=>?_) ?_)))
    ·refine jS (pj (λm E W=>∃f6 f4 i2 c5 b7 d2 d4 a6 k7,gf c0 a6∧Lo (gL b8) w c0 a6∧ST false (gL b8) w W a6 ((e2,Ob #[(.int .i64 J.1),(.int .i64 0),(.int .i64 0),(.string zS),N,f4] 68)::((g,Ob #[b7,(.bool d4)] 349)::((b1,Ol C3 68)::(c5++(T++k7)))))∧E 0=c6∧E 2=g6∧E 3=j1∧E 32=(.int .i64 f1.1)∧E 33=(.int .i64 f6)∧jA 55 gr 10 a6 f4 i2 c5∧Sl (Pl (fW .u8)) 1 a6 b7 d2∧lq f1 m f6 i2 d2 d4=some d3) iq ⟨0,(.slice none 0 0),([]),[],u5,((f1.2).b),((f1.2).over),c0,_,(gf.refl _),Lo.refl,(d.fR (Sb (Pb Pz) St)),e5,k9,e6,rfl,rfl,(jA.nil _ _ _ _),p8,o9⟩ ?_)
     rintro m E W ⟨f6,f4,i2,c5,b7,d2,d4,a6,k7,e0,ds,d,i0,l2,e7,l3,l4,k0,g1,u⟩
     cases m with
     | zero=>rw [lq] at u; cases u
     | succ s6=>
      refine sg (V (iJ l4 l3 rfl) (ln (gq (CI u rfl (λn7 u=>?_) (λn7 u=>?_)))))
      ·refine kn (gq (jS ?_))
       replace d:=d.drew
       have p:=d.has.fR Sn
       have q:=d.has.fR (Kb Sn)
       refine vN 7 p q gK (lh 0 rfl kr (.inl rfl) rfl dc (λ_ _ h=>⟨h.1,mu br h.2⟩) ⟨p,λ_=>q⟩ (λ_ _ _ _=>fZ nC e7) (lh 1 rfl kr (.inl rfl) rfl dc (λ_ _ h=>⟨h.1,mu br h.2⟩) ⟨p,λ_=>q⟩ (λl W hc hs=>have hS:=(hs.2 (hc.B6 7 [1] kr rfl)); fU rfl (gh hS Mh rfl eW)) (lh 2 rfl kr (.inl rfl) rfl dc (λ_ _ h=>⟨h.1,mu br h.2⟩) ⟨p,λ_=>q⟩ (λ_ _ _ _=>gl i0) (bS u λt7 j7 u=>?_))))
       rcases t7 with l6 | a
       ·have L:=d.size
        refine Hx 3 rfl kr (.inl rfl) (iB (args:=[c6]) (caps:=#[]) _ _ d (Cb (Pb Pz) Cn) rfl call336 (by exact lM rfl) (λhH hN A eh=>nj.gV (gk.l (vL g (⟨d2,d4⟩:fV) b7 _ _ ⟨hH,hN,A⟩ (g1.mono (Pl.mono _) (gf.refl _)) j7))) (λr8 y2 m1 q7 d t ea fs=>?_))
        obtain ⟨aj,ar,o6,rfl⟩:=fs
        replace d:=d.perm (Tb Tn)
        refine lD (ib (ib (lD (ib (lD (ib (iU ?_)))))))
        obtain rfl:=sj u
        replace f8:some (Sum.inl (Sum.inl l6))=some I:=f8
        obtain rfl:=sj f8
        replace j:some (Sum.inl l6)=some s:=j
        obtain rfl:=sj j
        exact gQ.li ⟨_,_,_,rfl,(d.hU (Kb Sn)),(((((K.trans M).trans Q).trans a9).trans e0).trans t),(((((aE.trans O).trans P).trans cc).trans ds).trans ea),(ST.gp d (gX.mem (Kb Sn))),⟨_,_,o6,rfl⟩⟩
       have L:=d.size
       refine XE 3 rfl (eD d (Cb (Pb Pz) Cn) call336 (λhh=>iC.gV (gk.r (vL g (⟨d2,d4⟩:fV) b7 _ _ hh (g1.mono (Pl.mono _) (gf.refl _)) j7))) ?_)
       rintro r8 z8 m1 q7 d t ea ⟨ai,u6,h1,rfl,k2,p9⟩
       obtain rfl:=h1.symm
       replace d:=d.perm (Tb Tn)
       have p:=d.has.jn t Sn
       have q:=d.has.jn t (Db (Kb Sn))
       refine ⟨⟨p,λ_=>q⟩,?_⟩
       obtain ⟨c4,c9,rfl⟩:=k2.form
       let j2:Value:=(.slice c4 ((a.1).Tag).length c9)
       let m4:=(((a.1).fP).Head)
       refine XE 4 rfl (iy (cs:=#[(.int .i64 (((a.1).fP).Kind)),(.string (m4.fX)),(.string (m4.Word)),(.string (((a.1).fP).ir)),(.string ((((a.1).fP).B).fX)),(.string ((((a.1).fP).B).Word)),(.string ((((a.1).fP).C).fX)),(.string ((((a.1).fP).C).Word)),(.string (((a.1).fP).gT)),j2]) d (kA rfl) (lH bH bR cW) (λx0 x4 d=>?_))
       have p:=d.has.jn t Sn
       have q:=d.has.jn t (Db (Db (Kb Sn)))
       refine ⟨⟨p,λ_=>q⟩,?_⟩
       replace d:=d.perm (Nr (Qb (Qb (Qb (Qb Qz)))) Nz)
       refine bS u λe9 n8 u=>XE 5 rfl (yM (B:=c5) gO d dc bH rj.1 rj.2.1 rfl rj.2.2.1 rj.2.2.2 rfl rfl (k0.mono gO t) (xr.lit gO (l:=[a.1]) (.cons (ys:=[(.int .i64 (((a.1).fP).Kind)),(.string (m4.fX)),(.string (m4.Word)),(.string (((a.1).fP).ir)),(.string ((((a.1).fP).B).fX)),(.string ((((a.1).fP).B).Word)),(.string ((((a.1).fP).C).fX)),(.string ((((a.1).fP).C).Word)),(.string (((a.1).fP).gT)),j2]) (gr.mk ⟨j2,rfl,k2⟩) .nil) rfl nb (d.at_ (Ma Mh))) n8 (λx1 z9 r0 d i7=>?_))
       have p:=d.has.jn t Sn
       have q:=d.has.jn t (Dr (Db (Db (Kb Sn))))
       refine ⟨⟨p,λ_=>q⟩,(lh 6 rfl kr (.inl rfl) rfl dc (λ_ _ h=>⟨h.1,mu br h.2⟩) ⟨p,λ_=>q⟩ (λ_ _ _ _=>fZ nC e7) ?_)⟩
       obtain ⟨h5,h9,rfl⟩:=i7.form
       replace d:=d.perm (Nb (Pr (Pb (Pb Pz))) Nz)
       refine XO 7 rfl (ga (.slice h5 e9.length h9) (#[(.int .i64 J.1),(.int .i64 0),(.int .i64 0),(.string zS),N,(.slice h5 e9.length h9)]) d rfl rfl sizeOf66 oc nb rfl (λx2 d=>?_))
       have p:=d.has.jn t Sn
       refine ⟨⟨p,λh=>vi kr h⟩,(iz kr (ig (gj ?_)))⟩
       replace d:=d.fR (Kb (Kr (Db St)))
       exact gn (V (iJ l4 rfl rfl) (Wm (ln ⟨s6,cU _,(wi0 .i64 (f6+1)),(.slice h5 e9.length h9),e9,r0,u6,((a.2).b),((a.2).over),m1,_,(e0.trans t),(ds.trans ea),(d.fR (Kb (Sb (Pr Pz) (Sb (Pr Pz) St)))),i0,l2,e7,l3,rfl,i7,p9,u⟩)))
      refine pd (oA (oA (uo (gj ?_))))
      obtain rfl:=sj u
      exact ⟨_,rfl,f4,c5,b7,a6,_,e0,ds,(d.fR St),i0,l2,e7,k0,g1⟩
    rintro ⟨y6,y7,ab⟩ E W ⟨f2,e3,f3,a5,k6,m3,ha,d,s2,s3,s4,p3,p4⟩ o8
    refine ig (gj ?_)
    obtain rfl:=sj o8
    exact ⟨_,rfl,N,T,f2,e3,f3,a5,_,(((M.trans Q).trans a9).trans m3),(((O.trans P).trans cc).trans ha),(d.fR St),s2,s3,s4,j9,p3,p4⟩
  refine sg (Wi rfl (Wa (ln (CI i rfl (λn9 i=>?_) (λn9 i=>?_)))))
  ·refine gn (Wm (bS i λu0 j8 i=>?_))
   rcases u0 with t2 | i4
   ·have L:=d.size
    refine jP (.inl rfl) (iB (args:=[c6,(.int .i64 99)]) (caps:=#[]) _ _ d (Cb (Pb Pz) Cn) rfl dD (by exact jG rfl rfl) (λhH hN A eh=>nj.gV (gk.l (gF g J.2 h3 99 _ _ ⟨hH,hN,A⟩ (c1.mono (Pl.mono _) (gf.refl _)) j8))) (λr9 y4 m2 q8 d e1 eb fv=>?_))
    obtain ⟨ak,au,o7,rfl⟩:=fv
    replace d:=d.perm (Tb Tn)
    refine lD (ib (iU ?_))
    obtain rfl:=sj i
    replace j:some (Sum.inl t2)=some s:=j
    obtain rfl:=sj j
    exact gQ.li ⟨_,_,_,rfl,(d.hU (Kb Sn)),(K.trans e1),(aE.trans eb),(ST.gp d (gX.mem (Kb Sn))),⟨_,_,o7,rfl⟩⟩
   have L:=d.size
   refine VE (eD d (Cb (Pb Pz) Cn) dD (λhh=>iC.gV (gk.r (gF g J.2 h3 99 _ _ hh (c1.mono (Pl.mono _) (gf.refl _)) j8))) ?_)
   rintro r9 aa m2 q8 d e1 eb ⟨u7,h2,rfl,q0⟩
   obtain rfl:=h2.symm
   replace d:=d.perm (Tb Tn)
   refine Wf qk ?_
   replace d:=d.perm (Nb (Pb Pz) Nz)
   refine VO (ga (.int .i64 i4.1) (#[(.int .i64 J.1),(.int .i64 0),(.int .i64 i4.1),(.string zS),(.slice none 0 0),(.slice none 0 0)]) d rfl rfl eo (qF _ i4.1) nb rfl (λx3 d=>gJ (ig (gj ?_))))
   obtain rfl:=sj i
   exact ⟨_,rfl,(.slice none 0 0),[],(.slice none 0 0),[],u7,m2,_,e1,eb,(d.fR St),rfl,rfl,rfl,(gB.nil _ _ _),(jA.nil _ _ _ _),q0⟩
  refine iD (ig (gj ?_))
  obtain rfl:=sj i
  exact ⟨_,rfl,(.slice none 0 0),[],(.slice none 0 0),[],h3,hb,_,(gf.refl _),Lo.refl,(d.fR St),rfl,rfl,rfl,(gB.nil _ _ _),(jA.nil _ _ _ _),c1⟩
 rintro ⟨a1,a2,a3,b0,b2,l5,l7⟩ E W ⟨b5,h6,b6,h7,Y,b9,k4,d6,cf,d,s1,e4,k8,f9,g0,d0⟩ H
 refine gq (sg (V (fU k8 (fY d.has Mh [(.int .i64 J.1),(.int .i64 a1),(.int .i64 a2),(.string a3),b5,b6] rfl bx aO)) (bS H λy9 p0 H=>VE (Eg d call31 (pC (⟨J.1,a1,a2,a3,b0,b2⟩:ie) b5 b6 _ _ (f9.sl jl (λb o hq=>d.at_ (Mt (Mt (Mt (Ma (Ml hq))))))) (g0.sl gO d.gd (λb o hq=>d.at_ (Mt (Mt (Mt (Ml hq)))))) p0) (λw2 d=>V (kj rfl) (ln (CI H rfl (λn2 H=>?_) (λn2 H=>?_))))))))
 ·refine sg (Wh s1 (bS H λt3 i9 H=>?_))
  rcases t3 with y8 | z0
  ·have L:=d.size
   refine jP (.inl rfl) (iB (args:=[c6,(.int .i64 11)]) (caps:=#[]) _ _ d (Cb (Pb Pz) Cn) rfl cI (by exact jG rfl rfl) (λhH hN A eh=>nj.gV (gk.l (gu g (⟨l5,l7⟩:fV) Y 11 _ _ ⟨hH,hN,A⟩ (d0.mono (Pl.mono _) (gf.refl _)) i9))) (λr1 x5 u9 q1 d a7 cm eI=>?_))
   obtain ⟨ac,al,o0,rfl⟩:=eI
   replace d:=d.perm (Tb Tn)
   refine ib (ib (iU ?_))
   obtain rfl:=sj H
   exact gQ.li ⟨_,_,_,rfl,(d.hU (Kb Sn)),((K.trans d6).trans a7),((aE.trans cf).trans cm),(ST.gp d (gX.mem (Kb Sn))),⟨_,_,o0,rfl⟩⟩
  have L:=d.size
  refine VE (eD d (Cb (Pb Pz) Cn) cI (λhh=>iC.gV (gk.r (gu g (⟨l5,l7⟩:fV) Y 11 _ _ hh (d0.mono (Pl.mono _) (gf.refl _)) i9))) ?_)
  rintro r1 z1 u9 q1 d a7 cm ⟨g2,rfl⟩
  obtain rfl:=g2.symm
  replace d:=d.perm (Tb Tn)
  refine ln ?_
  replace d:=d.fR (Kb (Db (Kb (Dr (Dr St)))))
  refine sg (V (ia (v:=(.agg C3.toArray)) lb (gG bq aW (qV _ aW) kr)) ?_)
  replace d:=d.perm (Nb (Pb Pz) Nz)
  refine VO (ga (.agg C3.toArray) (C3.toArray) d e4 rfl aO oc nb rfl (λw3 d=>lt (gN (lK ?_))))
  obtain rfl:=sj H
  exact iX (v:=(.agg C3.toArray)) rfl e4 (fY d.has Mh C3 rfl bx aO) (gQ.ri ⟨_,_,_,rfl,(d.hU (Db (Kb Sn))),((K.trans d6).trans a7),((aE.trans cf).trans cm),(ST.gp d (gX.mem (Db (Kb Sn)))),(.slice none 0 0),(.slice none 0 0),Y,rfl,rfl,(Sl.nil _ _ _),(Sl.nil _ _ _),(d0.mono (Pl.mono _) a7)⟩)
 refine kg (V (fU k8 (fY d.has Mh [(.int .i64 J.1),(.int .i64 a1),(.int .i64 a2),(.string a3),b5,b6] rfl bx aO)) ?_)
 obtain ⟨c2,c7,rfl⟩:=f9.form
 obtain ⟨c3,c8,rfl⟩:=g0.form
 let g5:=(C2 J.1 a1 a2 a3 c2 b0.length c7 c3 b2.length c8)
 replace d:=d.perm (Nb (Pb (Pb Pz)) Nz)
 refine VO (ga (.agg g5.toArray) (g5.toArray) d e4 rfl aO oc nb rfl (λw4 d=>ln ?_))
 replace d:=d.fR (Kb (Db St))
 refine gC (lK ?_)
 obtain rfl:=sj H
 refine iX (v:=(.agg g5.toArray)) rfl e4 (fY d.has Mh g5 rfl bx aO) ?_
 replace d:=d.perm (Nr (Qb (Qb (Qr Qz))) Nz)
 obtain ⟨av,d,d7,gg,p1⟩:=ST.uG d f9 jl
 replace d:=d.perm (Nr (Qb (Qb Qz)) Nz)
 obtain ⟨aw,d,d8,gR,p2⟩:=ST.HN gO d (g0.mono gO d7)
 exact gQ.ri ⟨_,_,_,rfl,(d.hU (Db (Kb Sn))),(((K.trans d6).trans d7).trans d8),(((aE.trans cf).trans gg).trans gR),(ST.gp d (gX.mem (Db (Kb Sn)))),(.slice c2 b0.length c7),(.slice c3 b2.length c8),Y,rfl,rfl,(p1.mono (Pl.mono _) d8),p2,(d0.mono (Pl.mono _) (d7.trans d8))⟩
theorem xA (i:Nat) (H:fV) (j:Value) (u:Nat) (k:ie) (g a:Value) (s:(Int ⊕ (fV×ie))) (w:World) {T:gm} (h0:kz T ((i,Ob #[j,(.bool H.over)] 349)::((u,Ob #[(.int .i64 k.Kind),(.int .i64 k.gY),(.int .i64 k.E),(.string k.Name),g,a] 68)::[])) w) (B:Sl (Pl (fW .u8)) 1 T j H.b) (Y:Sl (Pl fS) 2 T g k.gA) (U:Sl gr 10 T a k.gv) (hm:qp H k=some s) :
  gk false pg0 280 [(.pointer (some ⟨i,0,none⟩)),(.pointer (some ⟨u,0,none⟩))] w T ((i,Ob #[j,(.bool H.over)] 349)::((u,Ob #[(.int .i64 k.Kind),(.int .i64 k.gY),(.int .i64 k.E),(.string k.Name),g,a] 68)::[])) s (λr v L1 Z=>∃O P R,v=(.tuple #[])∧L1=((i,Ob #[O,(.bool ((r.1).over))] 349)::((u,Ob #[(.int .i64 ((r.2).Kind)),(.int .i64 ((r.2).gY)),(.int .i64 ((r.2).E)),(.string ((r.2).Name)),P,R] 68)::[]))∧Sl (Pl (fW .u8)) 1 Z O ((r.1).b)∧Sl (Pl fS) 2 Z P ((r.2).gA)∧Sl gr 10 Z R ((r.2).gv)) (λx c L1 Z=>∃y z,c=[{ v:=nu 354 i x,recovered:=false }]∧L1=((i,Ob #[y,z] 349)::((u,Ob #[(.int .i64 k.Kind),(.int .i64 k.gY),(.int .i64 k.E),(.string k.Name),g,a] 68)::[]))):=by
 have d:=ST.me (dd:=false) h0
 refine jQ (n:=5) func280 rfl rfl nb (gn (Wm (bS hm λW L hm=>?_)))
 rcases W with b7 | t
 ·have q:=d.size
  refine jP (.inl rfl) (iB (args:=[(.pointer (some ⟨i,0,none⟩))]) (caps:=#[]) _ _ d (Cb Pz Cn) rfl call281 (by exact lM rfl) (λhH hN p a7=>(gk.l (wB i H j _ _ ⟨hH,hN,p⟩ (B.mono (Pl.mono _) (gf.refl _)) L))) (λW3 b6 A L9 d D h o=>?_))
  obtain ⟨c2,c3,a3,rfl⟩:=o
  replace d:=d.perm (Tb Tn)
  refine iU ?_
  obtain rfl:=sj hm
  exact gQ.li ⟨_,_,_,rfl,(d.hU (Kb (Kb Sn))),D,h,(ST.gp d (gX.mem (Kb (Kb Sn)))),⟨_,_,a3,rfl⟩⟩
 have q:=d.size
 refine VE (eD d (Cb Pz Cn) call281 (λhh=>(gk.r (wB i H j _ _ hh (B.mono (Pl.mono _) (gf.refl _)) L))) ?_)
 rintro W3 v7 A L9 d D h ⟨b9,c1,a8,G,rfl,N,Q,a4⟩
 obtain rfl:=G.symm
 replace d:=d.perm (Tb Tn)
 obtain ⟨I,K,rfl⟩:=N.form
 let a0:Value:=(.slice I ((t.1).gA).length K)
 obtain ⟨J,M,rfl⟩:=Q.form
 let a2:Value:=(.slice J ((t.1).gv).length M)
 replace d:=d.perm (Nb (Pb Pz) Nz)
 refine VO (ga (.agg #[(.int .i64 ((t.1).Kind)),(.int .i64 ((t.1).gY)),(.int .i64 ((t.1).E)),(.string ((t.1).Name)),a0,a2]) (#[(.int .i64 ((t.1).Kind)),(.int .i64 ((t.1).gY)),(.int .i64 ((t.1).E)),(.string ((t.1).Name)),a0,a2]) d rfl rfl aO oc nb rfl (λb5 d=>gJ (wb (ub ?_))))
 obtain rfl:=sj hm
 exact tU rfl (gQ.ri ⟨_,_,_,rfl,(d.hU (Sb (Pb Pz) (Kb Sn))),D,h,(ST.gp d (gX.mem (Sb (Pb Pz) (Kb Sn)))),a8,a0,a2,rfl,rfl,a4,N,Q⟩)
theorem ul (H:Value) (M:List Int) (i:Nat) (j:ie) (g a:Value) (r:(Int×ie)) (w:World) {K:gm} (I:kz K ((i,Ob #[(.int .i64 j.Kind),(.int .i64 j.gY),(.int .i64 j.E),(.string j.Name),g,a] 68)::[]) w) (N:Sl (Pl (fW .u8)) 1 K H M) (t:Sl (Pl fS) 2 K g j.gA) (k:Sl gr 10 K a j.gv) (hm:nV M j=some r) :
  iC false pg0 275 [H,(.func (.func 280) #[] #[(.pointer (some ⟨i,0,none⟩))])] w K ((i,Ob #[(.int .i64 j.Kind),(.int .i64 j.gY),(.int .i64 j.E),(.string j.Name),g,a] 68)::[]) (λv G D=>∃u B,v=(.int .i64 (r.1))∧G=((i,Ob #[(.int .i64 ((r.2).Kind)),(.int .i64 ((r.2).gY)),(.int .i64 ((r.2).E)),(.string ((r.2).Name)),u,B] 68)::[])∧Sl (Pl fS) 2 D u ((r.2).gA)∧Sl gr 10 D B ((r.2).gv)):=by
 refine bS hm λl h hm=>bS hm λs n hm=>?_
 obtain rfl:=sj hm
 refine iC.mono (wi 280 #[(.pointer (some ⟨i,0,none⟩))] H M l s (λr=>(r.1).b) w I N h (λr G D=>∃u B,G=((i,Ob #[(.int .i64 ((r.2).Kind)),(.int .i64 ((r.2).gY)),(.int .i64 ((r.2).E)),(.string ((r.2).Name)),u,B] 68)::[])∧Sl (Pl fS) 2 D u ((r.2).gA)∧Sl gr 10 D B ((r.2).gv)) (λx G D=>G=((i,Ob #[(.int .i64 j.Kind),(.int .i64 j.gY),(.int .i64 j.E),(.string j.Name),g,a] 68)::[])) call280 (λP μ' O o J hle A=>gk.mono (xA O (⟨l,false⟩:fV) o i j g a s P J A (t.mono (Pl.mono _) hle) (k.mono gO.mono hle) n) ?_ ?_)) ?_
 ·rintro r v G D ⟨T,u,B,R,d,Q,I,J⟩; exact ⟨_,_,_,d,Q,u,B,rfl,I,J⟩
 ·rintro x c G D ⟨y,z,L,d⟩; exact ⟨y,z,_,L,d,rfl⟩
 rintro v G D q ⟨rfl,p⟩
 cases s with
 | inl x=>exact ⟨g,a,rfl,p,(t.mono (Pl.mono _) q),(k.mono gO.mono q)⟩
 | inr r=>obtain ⟨u,B,d,I,J⟩:=p; exact ⟨u,B,rfl,d,I,J⟩
theorem Dc (t:Value) (z:List Int) (r:(ie×Int)) (w:World) {H:gm} (Y:kz H [] w) (D:Sl (Pl (fW .u8)) 1 H t z) (hm:ql z=some r) :
  iC false pg0 219 [t] w H [] (λv T Q=>∃J N,v=(.tuple #[(.agg #[(.int .i64 ((r.1).Kind)),(.int .i64 ((r.1).gY)),(.int .i64 ((r.1).E)),(.string ((r.1).Name)),J,N]),(.int .i64 (r.2))])∧T=[]∧Sl (Pl fS) 2 Q J ((r.1).gA)∧Sl gr 10 Q N ((r.1).gv)):=by
 refine yX Y 14 func219 rfl (λd=>sg (VE (gy d bq (λW2 L d=>Wa (lr (VE (gy d bq (λW4 U d=>lr (Wm ?_)))))))))
 refine V (wE (by exact lM rfl) rfl) (bS hm λa I hm=>?_)
 let q:Value:=(.int .i64 ((a.2).E))
 let p:Value:=(.string ((a.2).Name))
 let o:Value:=(.int .i64 ((a.2).gY))
 let n:Value:=(.int .i64 ((a.2).Kind))
 refine VE (eD d (Cb Pz Cn) call275 (λs=>(ul t z U (⟨0,0,0,zS,[],[]⟩:ie) (.slice none 0 0) (.slice none 0 0) _ _ s (D.mono (Pl.mono _) (gf.refl _)) (Sl.nil _ _ _) (Sl.nil _ _ _) I)) ?_)
 rintro _ a5 A a2 d u h ⟨K,M,k,rfl,x,y⟩
 obtain rfl:=k.symm
 replace d:=d.perm (Tb Tn)
 refine Wa (lS (Wm (Wi rfl (ln (CI hm rfl (λG hm=>?_) (λG hm=>?_))))))
 ·refine sg (V (ia (v:=(.agg C3.toArray)) lb (gG bq aW (qV _ aW) kr)) (Wm ?_))
  replace d:=d.perm (Nb (Pb Pz) Nz)
  refine VO (ga (.agg C3.toArray) (C3.toArray) d rfl rfl aO oc nb rfl (λa3 d=>Wa (ln ?_)))
  replace d:=d.fR (Kb (Db St))
  refine gC (gN ?_)
  obtain rfl:=sj hm
  exact nD (v0:=(.agg C3.toArray)) (v1:=(.int .i64 a.1)) rfl rfl (fY d.has Mh C3 rfl bx aO) rfl ⟨_,_,_,rfl,(d.hU Sn),u,h,(ST.gp d (gX.mem Sn)),(.slice none 0 0),(.slice none 0 0),rfl,rfl,(Sl.nil _ _ _),(Sl.nil _ _ _)⟩
 refine kg (VA d Mh [n,o,q,p,K,M] bx aO ?_)
 obtain ⟨c,i,rfl⟩:=x.form
 let Z:Value:=(.slice c ((a.2).gA).length i)
 obtain ⟨g,j,rfl⟩:=y.form
 let a0:Value:=(.slice g ((a.2).gv).length j)
 let B:Value:=(.agg #[n,o,q,p,Z,a0])
 replace d:=d.perm (Nb (Pb Pz) Nz)
 refine VO (ga B (#[n,o,q,p,Z,a0]) d rfl rfl aO oc nb rfl (λa4 d=>Wa (ln ?_)))
 replace d:=d.fR (Kb (Db St))
 refine gC ?_
 obtain rfl:=sj hm
 exact nD (v0:=B) (v1:=(.int .i64 0)) rfl rfl (fY d.has Mh [n,o,q,p,Z,a0] rfl bx aO) rfl ⟨_,_,_,rfl,(d.hU Sn),u,h,(ST.gp d (gX.mem Sn)),Z,a0,rfl,rfl,x,y⟩
theorem Af (N:Value) (a0:List Int) (r:(Int×ie×Int)) (w:World) {μ0:gm} (h0:kz μ0 [] w) (a3:Sl (Pl (fW .u8)) 1 μ0 N a0) (hm:nK a0=some r) :
  iC false pg0 162 [N] w μ0 [] (λv L1 μ1=>∃y1 y3,v=(.tuple #[(.int .i64 (r.1)),(.agg #[(.int .i64 ((r.2.1).Kind)),(.int .i64 ((r.2.1).gY)),(.int .i64 ((r.2.1).E)),(.string ((r.2.1).Name)),y1,y3]),(.int .i64 (r.2.2))])∧L1=[]∧Sl (Pl fS) 2 μ1 y1 ((r.2.1).gA)∧Sl gr 10 μ1 y3 ((r.2.1).gv)):=by
 refine yX h0 46 func162 rfl (λd=>sg (Wa (VE (gy d bq (λW2 P d=>Wa (lS (Wm (V (iI aG rfl a3) (Wi rfl (gJ ?_))))))))))
 refine gj (CI hm rfl (λd8 hm=>?_) (λd8 hm=>?_))
 ·refine sg (V (ia (v:=(.agg C3.toArray)) lb (gG bq aW (qV _ aW) kr)) (Wa (VO (ga (.agg C3.toArray) (C3.toArray) d rfl rfl aO oc nb rfl (λW4 d=>Wa (lt (gN ?_)))))))
  obtain rfl:=sj hm
  exact uK (v0:=(.int .i64 0)) (v1:=(.agg C3.toArray)) (v2:=(.int .i64 12)) rfl rfl rfl (fY d.has Mh C3 rfl bx aO) rfl ⟨_,_,_,rfl,(d.hU Sn),(gf.refl _),Lo.refl,(ST.gp d (gX.mem Sn)),(.slice none 0 0),(.slice none 0 0),rfl,rfl,(Sl.nil _ _ _),(Sl.nil _ _ _)⟩
 refine kg (Wm (bS hm λJ d9 hm=>?_))
 refine VE (eD d (cj _) call218 (λhh=>iC.gV (zn N a0 _ _ hh (a3.mono (Pl.mono _) (gf.refl _)) d9)) ?_ (L0:=[]))
 rintro _ g2 s f4 d D n ⟨T,e2,K,rfl,a4,c8⟩
 obtain rfl:=K.symm
 refine Wm (Wx rfl (Wx rfl (Wx rfl (Wx rfl (Wa (Wa (Wa (Wa (ln (gq (CJ hm (λa7 E W=>∃U b7,gf s U∧Lo (gL []) w s U∧ST false (gL []) w W U ((P,Ol C3 68)::b7)∧E 3=(.pointer (some ⟨P,0,none⟩))∧E 5=(.int .i64 J.1)∧E 6=T∧E 8=(.int .i64 a7)) (λa7 b4=>?_) ?_)))))))))))
 ·refine sg (Wm (Wi rfl (Wm (LJ b4 (λa8 E W=>∃k Y,gf s k∧Lo (gL []) w s k∧ST false (gL []) w W k ((P,Ol C3 68)::Y)∧E 3=(.pointer (some ⟨P,0,none⟩))∧E 5=(.int .i64 J.1)∧E 6=T∧E 8=(.int .i64 J.2.2.2)∧E 30=(.bool a8)) 7 ?_ (λa8 g I=>?_)))))
  ·rintro f3 E W ⟨k,Y,G,p,d,Z,a1,a2,c1,c2⟩ j
   refine ln (CI j c2 (λb3 j=>?_) (λb3 j=>?_))
   ·refine gn (Wa (ln ?_))
    obtain rfl:=sj j
    exact ⟨k,_,G,p,(d.fR St),Z,a1,a2,rfl⟩
   refine kn ?_
   obtain rfl:=sj j
   exact ⟨k,_,G,p,(d.fR St),Z,a1,a2,c1⟩
  refine bC g (λc g=>?_) (λc g=>?_)
  ·refine ug c (gl rfl) (ug c (gl rfl) (ug c (gl rfl) (bS g λc9 b5 g=>nN c (nJ d call172 (iF.gV (wz J.1 T J.2.1 _ _ (a4.mono (Pl.mono _) d.gd) b5)) (λe9 d2 d5 e7 d H L b2=>bS g λf2 b6 g=>nN c (Eg d call72 (gz.gV (ve e2 J.2.2.1 d2 c9 _ _ (c8.mono (Pl.mono _) (H.trans d.gd)) (b2.sl (λ_=>rfl) (λb o hq=>d.at_ (Ml hq))) b6)) (λf0 d=>ug c (kj rfl) (V (gx (cB c) rfl) ?_))))))))
   obtain rfl:=sj g
   exact I _ _ ⟨d5,_,H,L,(d.fR (Dr St)),rfl,rfl,rfl,rfl,rfl⟩
  refine un c (un c (un c (un c (un c (un c (V (gw (cB c) rfl) ?_))))))
  obtain rfl:=sj g
  exact I _ _ ⟨s,_,(gf.refl _),Lo.refl,(d.fR St),rfl,rfl,rfl,rfl,rfl⟩
 rintro e0 E W ⟨U,b7,z,q,d,B,d6,d7,b9⟩ i
 refine gq (sg (Wh b9 (Wi rfl (ln (CI i rfl (λc5 i=>?_) (λc5 i=>?_))))))
 ·refine sg (V (ia (v:=(.agg C3.toArray)) lb (gG bq aW (qV _ aW) kr)) (Wh b9 (Wa (VO (ga (.agg C3.toArray) (C3.toArray) d B rfl aO oc nb rfl (λf6 d=>Wa (lt (gN ?_))))))))
  obtain rfl:=sj i
  exact uK (v0:=(.int .i64 0)) (v1:=(.agg C3.toArray)) (v2:=(.int .i64 e0)) rfl rfl B (fY d.has Mh C3 rfl bx aO) rfl ⟨_,_,_,rfl,(d.hU Sn),(D.trans z),(n.trans q),(ST.gp d (gX.mem Sn)),(.slice none 0 0),(.slice none 0 0),rfl,rfl,(Sl.nil _ _ _),(Sl.nil _ _ _)⟩
 refine kg (Wh d7 (bS i λa c7 i=>?_))
 let d1:Value:=(.int .i64 ((a.1).E))
 let d0:Value:=(.string ((a.1).Name))
 let c4:Value:=(.int .i64 ((a.1).gY))
 let R:Value:=(.int .i64 ((a.1).Kind))
 refine VE (eD d (cj _) call219 (λhh=>(Dc T J.2.1 _ _ hh (a4.mono (Pl.mono _) z) c7)) ?_ (L0:=[]))
 rintro _ g3 g8 f5 d Q A ⟨g4,g7,M,rfl,a5,a6⟩
 obtain rfl:=M.symm
 refine Wm (Wx rfl (Wx rfl (VE (gy d bq (λf8 g1 d=>?_)))))
 obtain ⟨t,x,rfl⟩:=a5.form
 let b8:Value:=(.slice t ((a.1).gA).length x)
 obtain ⟨u,y,rfl⟩:=a6.form
 let O:Value:=(.slice u ((a.1).gv).length y)
 let b0:=(#[R,c4,d1,d0,b8,O])
 let a9:Value:=(.agg #[R,c4,d1,d0,b8,O])
 refine VO (ga a9 b0 d rfl rfl aO oc nb rfl (λf9 d=>Wa (lS (Wm (Wi rfl (ln (CI i rfl (λc6 i=>?_) (λc6 i=>?_))))))))
 ·refine sg (V (ia (v:=(.agg C3.toArray)) lb (gG bq aW (qV _ aW) kr)) (Wm (Wa ?_)))
  replace d:=d.perm (Nb (Pb Pz) Nz)
  refine VO (ga (.agg C3.toArray) (C3.toArray) d B rfl aO oc nb rfl (λg0 d=>Wa (ln ?_)))
  replace d:=d.fR (Kb (Db St))
  refine gC (gN ?_)
  obtain rfl:=sj i
  exact uK (v0:=(.int .i64 0)) (v1:=(.agg C3.toArray)) (v2:=(.int .i64 a.2)) rfl rfl B (fY d.has Mh C3 rfl bx aO) rfl ⟨_,_,_,rfl,(d.hU Sn),((D.trans z).trans Q),((n.trans q).trans A),(ST.gp d (gX.mem Sn)),(.slice none 0 0),(.slice none 0 0),rfl,rfl,(Sl.nil _ _ _),(Sl.nil _ _ _)⟩
 refine kn (gq ?_)
 replace d:=d.drew
 have h:=d.has.fR (Kb Sn)
 refine ic h gK (X 0 rfl h (gl d6) (XH 1 rfl h (λ_ hS=>fU rfl (fY hS Mh [R,c4,d1,d0,b8,O] rfl bx aO)) (X 2 rfl h (iM rfl) ?_)))
 replace d:=d.perm (Nb (Pb Pz) Nz)
 refine XO 3 rfl (ga a9 b0 d B rfl aO oc nb rfl (λe8 d=>?_))
 have h:=d.has.fR (Db (Kb Sn))
 refine ⟨h,(X 4 rfl h (iM rfl) (iz kr (gj ?_)))⟩
 replace d:=d.fR (Kb (Db St))
 refine gC ?_
 obtain rfl:=sj i
 exact uK (v0:=(.int .i64 J.1)) (v1:=a9) (v2:=(.int .i64 0)) rfl rfl B (fY d.has Mh [R,c4,d1,d0,b8,O] rfl bx aO) rfl ⟨_,_,_,rfl,(d.hU Sn),((D.trans z).trans Q),((n.trans q).trans A),(ST.gp d (gX.mem Sn)),b8,O,rfl,rfl,a5,a6⟩
theorem uT (g:Value) (B:List Int) (r:ByteArray) (w:World) (x:ny pg0 (hp w)) (D:Sl (Pl (fW .u8)) 1 (hp w) g B) (hm:ot B=some r) :
  gz false pg0 91 [g] w (.string r):=by
 refine cG 20 func91 rfl (λd=>sg (Wa (lr (Wm (bS hm λa N hm=>?_)))))
 let p:Value:=(.int .i64 ((a.2.1).E))
 let a9:Value:=(.string ((a.2.1).Name))
 let o:Value:=(.int .i64 ((a.2.1).gY))
 let n:Value:=(.int .i64 ((a.2.1).Kind))
 refine VE (eD d (cj _) call162 (λs=>(Af g B _ _ s (D.mono (Pl.mono _) (gf.refl _)) N)) ?_ (L0:=[]))
 rintro _ v7 A L9 d u v ⟨a5,O,c,rfl,y,z⟩
 obtain rfl:=c.symm
 refine Wm (Wx rfl (Wx rfl (Wx rfl (VE (gy d bq (λQ Z d=>Wa ?_))))))
 obtain ⟨i,k,rfl⟩:=y.form
 let M:Value:=(.slice i ((a.2.1).gA).length k)
 obtain ⟨j,t,rfl⟩:=z.form
 let a0:Value:=(.slice j ((a.2.1).gv).length t)
 refine VO (ga (.agg #[n,o,p,a9,M,a0]) (#[n,o,p,a9,M,a0]) d rfl rfl aO oc nb rfl (λT d=>Wa (lS (Wm (Wi rfl (ln (CI hm rfl (λG hm=>?_) (λG hm=>?_))))))))
 ·refine sg (Wa (ln ?_))
  replace d:=d.fR (Db St)
  refine gC (gN ?_)
  obtain rfl:=sj hm
  exact rP d
 refine kn (gq ?_)
 replace d:=d.drew
 have h:=d.has.fR (Kb Sn)
 refine ic h gK (X 0 rfl h (gl rfl) (XH 3 rfl h (λ_ q=>fU rfl (fY q Mh [n,o,p,a9,M,a0] rfl bx aO)) (bS hm λL H hm=>XE 1 rfl (Eg d call50 (gz.gV (A5 a.1 _ _ (x.mono (u.trans d.gd)) H)) (λU d=>?_)))))
 have h:=d.has.fR (Kb Sn)
 refine ⟨h,(bS hm λa3 J hm=>X 2 rfl h (kW rfl rfl J) (bS hm λa2 I hm=>XE 4 rfl (Eg d call33 (qX a.2.1 M a0 _ _ (x.mono (u.trans d.gd)) (y.mono (Pl.mono _) d.gd) (z.mono gO.mono d.gd) I) (λY d=>?_))))⟩
 have h:=d.has.fR (Kb Sn)
 refine ⟨h,(bS hm λa4 K hm=>X 5 rfl h (kW rfl rfl K) (X 6 rfl h (iM rfl) (iz kr (gj ?_))))⟩
 exact gC (rQ hm d)
theorem FH:iE pg0 93 0 0:=hY underlying93 rfl sizeOf91 (by decide) rfl
theorem CO:iE pg0 93 1 1:=hY underlying93 rfl cL (by decide) rfl
theorem De:Tryz.prog.info? 5=some Tryz.t5∧Tryz.t5.zero=some (.int .u8 0)∧Tryz.t5.size=1∧Tryz.t5.bytes=1:=⟨by kernel_rfl,rfl,rfl,rfl⟩
theorem Am:Tryz.prog.info? 93=some Tryz.t93∧Tryz.t93.size≠0:=⟨by kernel_rfl,by decide⟩
theorem HY:liesAt pg0 Tryz.prog.depth 93 (2 / Tryz.prog.cellsOf 93) 0 93 1=true:=by kernel_rfl
theorem Hk (x:Value) (w:World):(callFunc 189 [x].toArray).run pg0 w= .ok (.value x) w:=by
 rw [dX (e:=Extern.AbiNoEscape.same) func189 (by kernel_rfl) (by kernel_rfl) (by kernel_rfl) (by kernel_rfl)]
 rfl
theorem CY (b:Nat) (a u:Value) (w:World) {i:gm} (g:kz i ((b,Ob #[a,u] 93)::[]) w) (ha:a= .pointer none∨a= .pointer (some ⟨b,0,none⟩)) :
  iu true pg0 121 [(.pointer (some ⟨b,0,none⟩))] w ((b,Ob #[a,u] 93)::[]) (λv c W'=>v=(.tuple #[])∧c=((b,Ob #[(.pointer (some ⟨b,0,none⟩)),u] 93)::[])):=by
 let k:Value:=(.pointer (some ⟨b,0,none⟩))
 refine wo g 20 func121 rfl (λd=>sg (Wm (Wn (Wf FH (VB d Mh rfl rfl isAgg91 ?_)))))
 rcases ha with rfl | rfl
 ·refine V (lB eY rfl rfl) (ln (qf rfl (gn (Wm (Wm ?_)))))
  have h:=(d.box b _ (.head _)).1
  exact V (EF rfl (Go.Lib.run_to_unsafe (P:=pg0) _ ⟨b,0,none⟩ eY underlying233 Am.1 Am.2 (wS h) nb)) (VE (zB (args:=[k]) rfl (by exact lM rfl) (Hk _ _) (V (EF rfl (Go.Lib.run_from_unsafe (P:=pg0) _ ⟨b,0,none⟩ underlying233 eY Am.1 (wS h) HY)) (Wn (Wf FH (VO (ga k (#[k,u]) d rfl rfl sizeOf91 oc nb rfl (λj d=>gJ (ub (tU rfl ⟨_,_,rfl,(d.hU (Kb Sn)),rfl,rfl⟩))))))))))
 ·refine V (lB eY rfl rfl) (ln (kH rfl (sg (Wm (Wn (Wf FH (VB d Mh rfl rfl isAgg91 (Wm (V (wy eY sizeOf93 rfl rfl) (ln (kH rfl ?_)))))))))))
  exact iD (ub (tU rfl ⟨_,_,rfl,(d.hU (Kb Sn)),rfl,rfl⟩))
theorem Cx (k:Value) (D:ByteArray) (i:LO) (z r:ByteArray) (w:World) {K:gm} (I:kz K (i++[]) w) (B:Av 93 5 k D i) (hm:vR D z=some r) :
  iu true pg0 49 [k,(.string z)] w (i++[]) (λv H W'=>∃y S,v=y∧H=S++[]∧Av 93 5 k r S):=by
 obtain ⟨b,a,u,S,rfl,ha,rfl,s,P⟩:=B
 have d:=ST.me (dd:=true) I
 have q:=λh=>Fa (r:=r) hm h
 have hm:=Ff hm
 refine cF 19 func49 rfl (sg (Wa (Wa (lr (Wm ?_)))))
 refine VE (eM d (Cb Pz Cn) call121 (λL _=>(CY b a u _ L ha)) ?_)
 rintro _ Y Z M d J O p ⟨j,rfl⟩
 obtain rfl:=j.symm
 replace d:=d.perm (Tb Tn)
 refine lr (Wm (Wm (Wn (Wf CO (VB d Mh rfl rfl bX (Wm (VE (Bf (v:=u) (str:=z) [(b,Ob #[(.pointer (some ⟨b,0,none⟩)),u] 93)] d aG aI De.1 De.2.1 De.2.2.1 De.2.2.2 rfl rfl s hm (λN T t d x n=>Wn (Wf CO ?_))))))))))
 have o:=λh:r.size=0=>n (P (q h).1) (q h).2
 obtain ⟨c,g,rfl⟩:=x.form
 let U:Value:=(.slice c (iA r).length g)
 let G:=(#[(.pointer (some ⟨b,0,none⟩)),U]:Array Value)
 let a0:=((b,Obj.cells G 93 (0,0))::(t++[]))
 refine VO (ga U (#[(.pointer (some ⟨b,0,none⟩)),U]) d rfl rfl cL oc nb rfl (λQ d=>lr (Wm (V (iR aI rfl) (Wa (Wa (lt (Hi (v:=.int .i64 (z.size:Int)) (u:=.nilIface) rfl rfl rfl ?_))))))))
 have A:gX a0 a0:=Kb (Kr Sn)
 exact ⟨_,_,rfl,d.hU A,_,((b,Obj.cells G 93 (0,0))::t),rfl,rfl,⟨b,_,_,_,rfl,.inr rfl,rfl,x,o⟩⟩
theorem Bg (k:Value) (i:ByteArray) (g:LO) (r:ByteArray) (w:World) {D:gm} (t:kz D (g++[]) w) (x:Av 93 5 k i g) (hm:HF i=some r) :
  iu true pg0 51 [k] w (g++[]) (λv z W'=>v=(.string r)∧z=[]):=by
 obtain ⟨b,a,u,S,rfl,ha,rfl,o,q⟩:=x
 obtain rfl:=dE hm
 have h:=ST.me (dd:=true) t
 obtain ⟨A,c,rfl⟩:=o.form
 refine cF 14 func51 rfl (sg (Wa (ln (gq ?_))))
 replace h:=h.drew
 have d:=h.has.fR (A:=[(b,Ob #[a,.slice A (iA i).length c] 93)]) (Kb Sn)
 have n:A=none∨c≠0:=by
  by_cases t:i.size=0
  ·have q:=q t
   injection q with j
   exact .inl j
  ·rcases o with ⟨j,_,_⟩ | ⟨I,cap,s,j,_,B,_,_,_⟩
   ·injection j with y; exact .inl y
   ·injection j with _ _ y
    rw [iG] at B
    exact .inr (by omega)
 refine ic d gK (X 0 rfl d (gl rfl) (X 1 rfl d (pb rfl) (X 2 rfl d (fZ CO rfl) (XH 3 rfl d (λ_ p=>fU rfl (gh p Mh rfl bX)) (X 4 rfl d (Fo rfl ⟨A,_,c,rfl,n,rfl⟩) (X 5 rfl d (gl rfl) (X 6 rfl d (pb rfl) (X 7 rfl d (fZ CO rfl) (XH 8 rfl d (λ_ p=>fU rfl (gh p Mh rfl bX)) (X 9 rfl d (oM aG rfl o) ?_))))))))))
 replace h:=h.perm (L':=S++[(b,Ob #[a,.slice A (iA i).length c] 93)]) (by rw [bQ]; exact eA (l₁:=[_]) (l₂:=S))
 refine XE 10 rfl (Bu (l:=i) h underlying179 kr rfl rfl o (λG h=>?_))
 have d:=h.has
 exact ⟨d,X 11 rfl d (iM rfl) (iz kr (gj (gC (gZ (v:=.string i) rfl rfl ⟨_,_,rfl,(h.hU Sn),rfl,rfl⟩))))⟩
theorem sk (K:Value) (N:List rH) (r:ByteArray) (w:World) (b2:ny pg0 (hp w)) (J:Sl pz 2 (hp w) K N) (hm:nE N=some r) :
  gz false pg0 36 [K] w (.string r):=by
 refine cG 23 func36 rfl (λd=>sg (Wa (lr (VE (Cz (e:=5) d zeroValue93 (λW1 v4 R2 d b7=>lS (Wm ?_)))))))
 refine V (iI eH rfl J) (Wm (ln (jb (λi E W=>∃k j z G,(E 8= .int .i64 (i:Nat)∧E 7= .int .i64 (N.length:Nat))∧gf (hp w) z∧ST false iv w W z (j++G)∧E 3=v4∧E 6=K∧Av 93 5 v4 k j∧mX (N.drop i) k=some r) N.length J.len ⟨zS,R2,(hp w),_,⟨rfl,rfl⟩,(gf.refl _),(d.fR St),rfl,rfl,b7,hm⟩ dc dc dc (λ_ _ _ h=>by obtain ⟨_,_,_,_,q,_⟩:=h; exact q) ?_ ?_)))
 ·rintro b3 E W U ⟨k,j,z,G,⟨p,O⟩,g,d,t,I,u,a⟩
  obtain ⟨c,c0,T,R,a8⟩:=iK U
  rw [T] at a
  refine bg (VQ (nZ (i:=(b3:Int)) (x0:=c) pz.out eH dj I p (J.mono wX.mono g) (aV _) R) (λd1 ⟨_,⟨d6,rfl,M⟩,Y⟩=>V (fU rfl (kf d.has Y isAgg79 dj)) (VE (gy d cr (λc4 d0 d=>?_)))))
  obtain ⟨D,H,rfl⟩:=M.form
  let Q:Value:=(.slice D c.B.length H)
  refine VO (ga (.agg #[(.bool c.Out),Q]) (#[(.bool c.Out),Q]) d rfl rfl dj oc nb rfl (λc5 d=>ln ?_))
  replace d:=d.drew
  have n:=d.has.fR (Kb Sn)
  refine ic n gK (X 0 rfl n (fZ AU rfl) (XH 1 rfl n (λ_ s=>fU rfl (gh s Mh rfl isAgg4)) (X 3 rfl n (fZ xo rfl) (XH 4 rfl n (λ_ s=>fU rfl (gh s Mh rfl bX)) (bS a λd2 Z a=>XE 2 rfl (Eg d call104 (gz.gV (Al c.Out _ _  Z)) (λc6 d=>?_)))))))
  have n:=d.has.fR (Kb Sn)
  refine ⟨n,(bS a λd3 P a=>XE 5 rfl (Eg d call91 (uT Q c.B _ _ (b2.mono (g.trans d.gd)) (M.mono (Pl.mono _) d.gd) P) (λc7 d=>?_)))⟩
  have n:=d.has.fR (Kb Sn)
  refine ⟨n,(bS a λd5 a4 a=>X 6 rfl n (kW rfl rfl a4) (bS a λb5 a5 a=>X 7 rfl n (kW rfl rfl a5) (bS a λb4 a2 a=>?_)))⟩
  refine XE 8 rfl (eM d (Cr (Qb Qz) Cn) call49 (λv _=>iu.gV (Cx v4 k j b5 _ _ v u a2)) ?_ (ha:=I6 t rfl))
  rintro _ d7 b6 c1 d B A o ⟨d9,b1,x,rfl,a9⟩
  obtain rfl:=x.symm
  replace d:=d.perm (Tr Tn)
  have n:=d.has.jn B (Dr (Kb Sn))
  refine ⟨n,(iz kr (ig (gj ?_)))⟩
  replace d:=d.fR (Kr (Db St))
  exact ⟨p,b4,b1,b6,_,⟨rfl,O⟩,(g.trans B),(d.fR St),t,I,a9,(by rw [a8]; exact a)⟩
 rintro E W ⟨k,j,z,G,⟨p,O⟩,g,d,t,I,u,a⟩
 rw [aZ] at a
 refine gj (sg (bS a λd4 a3 a=>?_))
 refine VE (eM d (Cr Qz Cn) call51 (λv _=>iu.gV (Bg v4 k j _ _ v u a3)) ?_ (ha:=Jp t))
 rintro _ d8 e0 c2 d b9 L o ⟨y,rfl⟩
 obtain rfl:=y.symm
 exact Wa (lt (rQ a d))
theorem uV (a0:ByteArray) (r:(rH×Bool)) (w:World) {μ0:gm} (h0:kz μ0 [] w) (c9:ny pg0 μ0) (hm:od a0=some r) :
  iC false pg0 37 [(.string a0)] w μ0 [] (λv L1 μ1=>∃y1,v=(.tuple #[(.agg #[(.bool ((r.1).Out)),y1]),(.bool (r.2))])∧L1=[]∧Sl (Pl (fW .u8)) 1 μ1 y1 ((r.1).B)):=by
 refine yX h0 56 func37 rfl (λd=>sg (VE (gy d cr (λW2 b1 d=>Wa (lr (Wm (Wm (V (iR aI rfl) (V (HS (k:=.i64) rfl rfl) (bS hm λx3 j3 hm=>V (rq (s:=a0) (i:=(if 2 < (a0.size:Int) then 2 else (a0.size:Int))) aI rfl rfl j3) ?_))))))))))
 refine bS hm λr5 i9 hm=>VE (Eg d fO (gz.gV (pU x3 (⟨#[58,32]⟩:ByteArray) _ _ (c9.mono d.gd) i9)) (λW7 d=>Wm (Wx rfl (Wx rfl (Wx rfl (Wa (Wa (Wa (lr (Wm (bS hm λr8 j0 hm=>?_)))))))))))
 refine VE (Eg d call106 (gz.gV (yK r5.1 _ _  j0)) (λm7 d=>Wm (Wx rfl (Wx rfl (Wa (Wa (lr (Wm (bS hm λa i1 hm=>?_)))))))))
 let j2:Value:=(.int .i64 ((a.1).E))
 let j1:Value:=(.string ((a.1).Name))
 let i2:Value:=(.int .i64 ((a.1).gY))
 let i0:Value:=(.int .i64 ((a.1).Kind))
 refine VE (eD d (cj _) call32 (λhh=>(pO r5.2.1 _ _ hh (c9.mono (gf.refl _)) i1)) ?_ (L0:=[]))
 rintro _ n1 g3 m6 d a8 A ⟨n2,n3,d0,rfl,a9,b0⟩
 obtain rfl:=d0.symm
 refine Wm (Wx rfl (Wx rfl (VE (gy d bq (λm9 i8 d=>?_)))))
 obtain ⟨J,M,rfl⟩:=a9.form
 let a4:Value:=(.slice J ((a.1).gA).length M)
 obtain ⟨K,N,rfl⟩:=b0.form
 let b8:Value:=(.slice K ((a.1).gv).length N)
 let g2:Value:=(.agg #[i0,i2,j2,j1,a4,b8])
 refine VO (ga g2 (#[i0,i2,j2,j1,a4,b8]) d rfl rfl aO oc nb rfl (λn0 d=>Wa (ln (gq ?_))))
 replace d:=d.drew
 have h:=d.has.fR (Kb Sn)
 refine ic h gK (X 0 rfl h (gl rfl) (X 2 rfl h (gl rfl) (XH 3 rfl h (λ_ hS=>fU rfl (fY hS Mh [i0,i2,j2,j1,a4,b8] rfl bx aO)) (PJ hm (λa2 E W=>∃G d5 a5 b3 D e2,gf g3 D∧Lo (gL []) w g3 D∧ST false (gL []) w W D ((G,Ob #[(.bool a2.2.2.1),b3] 79)::((i8,Ob #[i0,i2,j2,j1,a4,b8] 68)::((b1,Ob #[(.bool false),(.slice none 0 0)] 79)::(a5++e2))))∧E 0=(.string a0)∧E 2=(.pointer (some ⟨b1,0,none⟩))∧E 10=(.bool a.2)∧E 11=(.pointer (some ⟨G,0,none⟩))∧E 37=(.agg #[(.bool a2.1),d5])∧gB 5 (fW .u8) 1 d5 a2.2.1 a5∧Sl (Pl (fW .u8)) 1 D b3 a2.2.2.2∧Fr w.heap.size b3) (bm 8 127) 1 ?_ (λa2 g Z=>?_)))))
 ·let j4:=(#[(.bool false),(.slice none 0 0)]:Array Value)
  let g5:Value:=(.agg #[(.bool false),(.slice none 0 0)])
  rintro ⟨j,u,m1,l3⟩ E W ⟨G,d5,a5,b3,D,e2,B,n,d,e5,e6,h4,a6,h5,Q,j7,j6⟩ f2
  obtain ⟨y,z,rfl⟩:=Q.form
  let q:Value:=(.slice y u.length z)
  refine XO 7 rfl (ga (.agg #[(.bool j),q]) (#[(.bool j),q]) d a6 h5 dj oc nb rfl (λj9 d=>?_))
  have h:=d.has.jn B (Db (Kb Sn))
  refine ⟨h,(iz kr (gj ?_))⟩
  replace d:=d.fR (Kb (Db St))
  refine gq (sg (Wh h4 (V (kj rfl) (Wm (LJ f2 (λf0 E W=>∃e3,ST false (gL []) w W D ((G,Ob #[(.bool j),q] 79)::((b1,Obj.cells j4 79 (0,0))::(a5++e3)))∧E 0=(.string a0)∧E 2=(.pointer (some ⟨b1,0,none⟩))∧E 11=(.pointer (some ⟨G,0,none⟩))∧E 45=(.bool f0)) 5 ?_ (λf0 I c1=>?_))))))
  ·rintro m2 E W ⟨e3,d,h6,e7,c8,h7⟩ f3
   refine Wh h7 (LJ f3 (λd4 E W=>∃b4 a3 e4,gf D a3∧Lo (gL []) w D a3∧ST false (gL []) w W a3 ((G,Ob #[(.bool j),b4] 79)::((b1,Obj.cells j4 79 (0,0))::e4))∧E 2=(.pointer (some ⟨b1,0,none⟩))∧E 11=(.pointer (some ⟨G,0,none⟩))∧E 53=(.bool d4.1)∧Sl (Pl (fW .u8)) 1 a3 b4 d4.2) 7 ?_ (λd4 x c0=>?_))
   ·rintro ⟨m3,a1⟩ E W ⟨b4,a3,e4,b5,p,d,a7,h8,h9,d9⟩ H
    refine ln (CI H h9 (λf1 H=>?_) (λf1 H=>?_))
    ·refine sg (V (ia (v:=g5) lb (gG cr cx (zY _ cx) kr)) ?_)
     replace d:=d.perm (Nb (Pb Pz) Nz)
     refine VO (ga g5 (#[(.bool false),(.slice none 0 0)]) d a7 rfl dj oc nb rfl (λk0 d=>Wa (ln ?_)))
     replace d:=d.fR (Kb (Db St))
     refine gC (gN ?_)
     obtain rfl:=sj H
     exact nD (v0:=g5) (v1:=(.bool false)) rfl a7 (fY d.has Mh [(.bool false),(.slice none 0 0)] rfl isAgg79 dj) rfl ⟨_,_,_,rfl,(d.hU Sn),((a8.trans B).trans b5),((A.trans n).trans p),(ST.gp d (gX.mem Sn)),(.slice none 0 0),rfl,rfl,(Sl.nil _ _ _)⟩
    refine kg (V (fU h8 (fY d.has Mh [(.bool j),b4] rfl isAgg79 dj)) ?_)
    obtain ⟨T,U,rfl⟩:=d9.form
    let g6:Value:=(.slice T a1.length U)
    replace d:=d.perm (Nb (Pb Pz) Nz)
    refine VO (ga (.agg #[(.bool j),g6]) (#[(.bool j),g6]) d a7 rfl dj oc nb rfl (λk1 d=>Wa (ln ?_)))
    replace d:=d.fR (Kb (Db St))
    refine gC ?_
    obtain rfl:=sj H
    exact nD (v0:=(.agg #[(.bool j),g6])) (v1:=(.bool true)) rfl a7 (fY d.has Mh [(.bool j),g6] rfl isAgg79 dj) rfl ⟨_,_,_,rfl,(d.hU Sn),((a8.trans B).trans b5),((A.trans n).trans p),(ST.gp d (gX.mem Sn)),g6,rfl,rfl,d9⟩
   refine bC x (λc x=>?_) (λc x=>?_)
   ·refine un c (un c (un c (un c (un c (un c (V (gx (cB c) rfl) ?_))))))
    obtain rfl:=sj x
    replace d:=d.perm (Nr (Qb (Qb Qz)) Nz)
    obtain ⟨i3,d,e8,L,g0⟩:=ST.uG d Q (λ_=>rfl)
    exact c0 _ _ ⟨q,i3,_,e8,L,(d.fR St),e7,c8,rfl,g0⟩
   refine ug c (fU c8 (fY d.has Mh [(.bool j),q] rfl isAgg79 dj)) ?_
   replace d:=d.perm (Nr (Qb (Qb Qz)) Nz)
   obtain ⟨i4,d,b6,O,e0⟩:=ST.uG d Q (λ_=>rfl)
   refine nN c (iy (cs:=#[(.bool j),q]) d (kA rfl) (lH eH dj cr) (λk2 g9 d=>bS x λl4 f4 x=>nN c (Eg d call36 (sk (.slice (some ⟨g9,0,none⟩) 1 1) ([(⟨j,u⟩:rH)]) _ _ (c9.mono (((a8.trans B).trans b6).trans d.gd)) ((jA.lit wX (l:=[(⟨j,u⟩:rH)]) (.cons (ys:=[(.bool j),q]) (pz.mk ⟨q,rfl,e0⟩) .nil) rfl nb rfl).sl wX d.gd (λb o hq=>(by rw [aM] at hq; cases hq; exact d.at_ Mh))) f4) (λk3 d=>ug c (gl h6) (bS x λl5 g1 x=>ug c (kW rfl rfl g1) (ug c (lA rfl rfl rfl) (V (gw (cB c) rfl) ?_)))))))
   obtain rfl:=sj x
   exact c0 _ _ ⟨q,i4,_,b6,O,(d.fR (Db St)),e7,c8,rfl,e0⟩
  refine bC I (λt I=>?_) (λt I=>?_)
  ·refine un t (un t (un t (un t (V (gx (cB t) rfl) ?_))))
   obtain rfl:=sj I
   exact c1 _ _ ⟨_,(d.fR St),e5,e6,a6,rfl⟩
  refine ug t (fZ xo a6) (ug t (fU rfl (gh d.has Mh rfl bX)) (ug t (oM aG rfl Q) (ug t (iJ rfl rfl rfl) (V (gw (cB t) rfl) ?_))))
  obtain rfl:=sj I
  exact c1 _ _ ⟨_,(d.fR St),e5,e6,a6,rfl⟩
 refine xL 1 6 rfl rfl kr (.inl rfl) (.inl rfl) rfl rfl dc dc ?_ ?_
 ·refine bS g λb2 f5 g=>Cp (args:=[(.string a0),(.string K5)]) d rfl call107 (by exact jG rfl rfl) (gz.gV (qH a0 K5 _ _  f5)) (λk4 d=>?_)
  have h:=d.has.fR (Kb Sn)
  refine ⟨h,(xL 4 6 rfl rfl kr (.inl rfl) (.inl rfl) rfl rfl dc dc ?_ ?_)⟩
  ·refine bS g λd1 f6 g=>ui (args:=[(.int .i64 r8),g2]) _ d rfl call35 (by exact jG rfl rfl) (nz r8 a.1 a4 b8 _ _ (a9.mono (Pl.mono _) d.gd) (b0.mono gO.mono d.gd) f6) (λk5 l8 i5 g4 d Y P d6=>?_)
   have h:=d.has.jn Y (Dr (Kb Sn))
   refine ⟨h,?_⟩
   obtain ⟨c2,c5,rfl⟩:=d6.form
   refine X 5 rfl h (ia (v:=(.agg #[(.bool b2),(.slice c2 d1.length c5)])) (mY rfl rfl) (gG cr cx (zY _ cx) kr)) (XE 6 rfl (gy d cr (λk6 h1 d=>?_)))
   have h:=d.has.jn Y (Db (Dr (Kb Sn)))
   refine ⟨h,?_⟩
   obtain rfl:=sj g
   refine jj kr (Z _ _ ⟨h1,(.slice c2 d1.length c5),g4,(.slice none 0 0),i5,_,Y,P,(d.fR (Kb (Sb (Pr Pz) (Sb (Pr Pz) St)))),rfl,rfl,rfl,rfl,rfl,d6,(Sl.nil _ _ _),(Fr.nil _)⟩)
  ·refine gy d cr (λk7 h2 d=>?_)
   have h:=d.has.fR (Db (Kb Sn))
   refine ⟨h,(bS g λd2 f7 g=>XE 4 rfl (nJ d call35 (nz r8 a.1 a4 b8 _ _ (a9.mono (Pl.mono _) d.gd) (b0.mono gO.mono d.gd) f7) (λk8 l9 i6 g7 d b7 R d7=>?_)))⟩
   have h:=d.has.jn b7 (Dr (Db (Kb Sn)))
   refine ⟨h,?_⟩
   obtain ⟨c3,c6,rfl⟩:=d7.form
   refine X 5 rfl h (ia (v:=(.agg #[(.bool b2),(.slice c3 d2.length c6)])) (mY rfl rfl) (gG cr cx (zY _ cx) kr)) ?_
   obtain rfl:=sj g
   refine jj kr (Z _ _ ⟨h2,(.slice c3 d2.length c6),g7,(.slice none 0 0),i6,_,b7,R,(d.fR (Sb (Pr Pz) (Sb (Pr Pz) (Sb (Pr Pz) St)))),rfl,rfl,rfl,rfl,rfl,d7,(Sl.nil _ _ _),(Fr.nil _)⟩)
 ·refine gy d cr (λk9 h3 d=>?_)
  have h:=d.has.fR (Db (Kb Sn))
  refine ⟨h,(bS g λe9 f8 g=>XE 1 rfl (Eg d call107 (gz.gV (qH a0 K5 _ _  f8)) (λl0 d=>?_)))⟩
  have h:=d.has.fR (Db (Kb Sn))
  refine ⟨h,(bS g λd3 f9 g=>XE 4 rfl (nJ d call35 (nz r8 a.1 a4 b8 _ _ (a9.mono (Pl.mono _) d.gd) (b0.mono gO.mono d.gd) f9) (λl1 m0 i7 g8 d b9 aa d8=>?_)))⟩
  have h:=d.has.jn b9 (Dr (Db (Kb Sn)))
  refine ⟨h,?_⟩
  obtain ⟨c4,c7,rfl⟩:=d8.form
  refine X 5 rfl h (ia (v:=(.agg #[(.bool e9),(.slice c4 d3.length c7)])) (mY rfl rfl) (gG cr cx (zY _ cx) kr)) ?_
  obtain rfl:=sj g
  refine jj kr (Z _ _ ⟨h3,(.slice c4 d3.length c7),g8,(.slice none 0 0),i7,_,b9,aa,(d.fR (Sb (Pr Pz) (Sb (Pr Pz) (Sb (Pr Pz) St)))),rfl,rfl,rfl,rfl,rfl,d8,(Sl.nil _ _ _),(Fr.nil _)⟩)
set_option maxHeartbeats 4000000 in
theorem zA (r:Bool) (w:World) (a9:ny pg0 (hp w)) (hm:pL =some r) :
  gz false pg0 29 [] w (.bool r):=by
 refine cG 65 func29 rfl (λh=>sg (Wa (lr (bS hm λa l6 hm=>?_))))
 let P:Value:=(.int .i64 ((a.1).E))
 let O:Value:=(.string ((a.1).Name))
 let L:Value:=(.int .i64 ((a.1).gY))
 let A:Value:=(.int .i64 ((a.1).Kind))
 refine VE (FX h (cj _) call32 (λhH hN q aa=>(pO (⟨#[104,101,108,108,111,32,97,110,110,32,101,97,103,101,114]⟩:ByteArray) _ _ ⟨hH,hN,q⟩ (a9.mono (gf.refl _)) l6)) (λW3 v7 ah L9 h b2 ag l5=>?_) (L0:=[]))
 obtain ⟨p5,p6,d2,rfl,b6,b7⟩:=l5
 replace d2:=d2.symm; subst d2
 replace h:=h.perm Tn
 refine Wm (Wx rfl (Wx rfl (VE (gy h bq (λo4 M h=>?_)))))
 obtain ⟨u,z,rfl⟩:=b6.form
 let g6:Value:=(.slice u ((a.1).gA).length z)
 obtain ⟨x,B,rfl⟩:=b7.form
 let j1:Value:=(.slice x ((a.1).gv).length B)
 refine VO (ga (.agg #[A,L,P,O,g6,j1]) (#[A,L,P,O,g6,j1]) h rfl rfl aO oc nb rfl (λo5 h=>Wa (lr (bS hm λa0 k9 hm=>?_))))
 refine VE (FX h (cj _) call32 (λhH hN q aa=>(pO (⟨#[104,101,108,108,111,32,97,110,110]⟩:ByteArray) _ _ ⟨hH,hN,q⟩ (a9.mono b2) k9)) (λo6 p3 q0 o2 h t ae k7=>?_) (L0:=[]))
 obtain ⟨p7,p8,d3,rfl,l1,l2⟩:=k7
 replace d3:=d3.symm; subst d3
 replace h:=h.perm Tn
 refine Wm (Wx rfl (Wx rfl (VE (gy h bq (λo7 p2 h=>?_)))))
 obtain ⟨i8,j0,rfl⟩:=l1.form
 obtain ⟨i9,j3,rfl⟩:=l2.form
 refine VO (ga (.agg #[(.int .i64 ((a0.1).Kind)),(.int .i64 ((a0.1).gY)),(.int .i64 ((a0.1).E)),(.string ((a0.1).Name)),(.slice i8 ((a0.1).gA).length j0),(.slice i9 ((a0.1).gv).length j3)]) (#[(.int .i64 ((a0.1).Kind)),(.int .i64 ((a0.1).gY)),(.int .i64 ((a0.1).E)),(.string ((a0.1).Name)),(.slice i8 ((a0.1).gA).length j0),(.slice i9 ((a0.1).gv).length j3)]) h rfl rfl aO oc nb rfl (λo8 h=>Wa (ln ?_)))
 replace h:=h.fR (Db St)
 refine sg (bS hm λg l0 hm=>?_)
 let R:Value:=(.bool ((g.1).Out))
 refine VE (FX h (cj _) call37 (λhH hN q aa=>(uV (⟨#[62,32,49,58,32,104,101,108,108,111,32,97,110,110,32,101,97,103,101,114]⟩:ByteArray) _ _ ⟨hH,hN,q⟩ (a9.mono (b2.trans t)) l0)) (λo9 p4 s o3 h K af k8=>?_) (L0:=[]))
 obtain ⟨p9,d4,rfl,b3⟩:=k8
 replace d4:=d4.symm; subst d4
 replace h:=h.perm Tn
 refine Wm (Wx rfl (Wx rfl (VE (gy h cr (λp0 G h=>?_)))))
 obtain ⟨y,D,rfl⟩:=b3.form
 let j2:Value:=(.slice y ((g.1).B).length D)
 refine VO (ga (.agg #[R,j2]) (#[R,j2]) h rfl rfl dj oc nb rfl (λp1 h=>Wa (ln (gq ?_))))
 replace h:=h.drew
 have d:=h.has.fR (Kb (Kb Sn))
 refine ic d gK (X 0 rfl d (gl rfl) (X 1 rfl d (gl rfl) (PJ hm (λh1 E W=>∃d6,ST false iv w W s ((G,Ob #[R,j2] 79)::((M,Ob #[A,L,P,O,g6,j1] 68)::d6))∧E 0=(.bool false)∧E 1=(.pointer (some ⟨M,0,none⟩))∧E 5=(.pointer (some ⟨G,0,none⟩))∧E 6=(.bool g.2)∧E 23=(.bool h1)) (bm 47 31) 42 ?_ (λh1 a7 c7=>?_))))
 ·let q3:Value:=(.pointer (some ⟨M,0,none⟩))
  let l4:Value:=(.pointer (some ⟨G,0,none⟩))
  let g5:=(#[R,j2]:Array Value)
  let b8:=(#[A,L,P,O,g6,j1]:Array Value)
  rintro n3 E W ⟨d6,h,e5,c8,e6,e7,j5⟩ h4
  have d:=h.has.fR (Kb (Kb Sn))
  refine X 5 rfl d (gl j5) (PJ h4 (λh0 E W=>∃d7,ST false iv w W s ((G,Obj.cells g5 79 (0,0))::((M,Obj.cells b8 68 (0,0))::d7))∧E 0=(.bool false)∧E 1=q3∧E 5=l4∧E 6=(.bool g.2)∧E 28=(.bool h0)) (bm 47 1023) 37 ?_ (λh0 a6 c6=>?_))
  ·rintro n4 E W ⟨d7,h,e8,c9,e9,f0,j6⟩ h5
   have d:=h.has.fR (Kb (Kb Sn))
   refine X 10 rfl d (gl j6) (PJ h5 (λg9 E W=>∃d8,ST false iv w W s ((G,Obj.cells g5 79 (0,0))::((M,Obj.cells b8 68 (0,0))::d8))∧E 0=(.bool false)∧E 1=q3∧E 5=l4∧E 6=(.bool g.2)∧E 33=(.bool g9)) (bm 47 32767) 32 ?_ (λg9 a5 c5=>?_))
   ·rintro n5 E W ⟨d8,h,f1,d0,f2,f3,j7⟩ h6
    have d:=h.has.fR (Kb (Kb Sn))
    refine X 15 rfl d (gl j7) (PJ h6 (λg8 E W=>∃d9,ST false iv w W s ((G,Obj.cells g5 79 (0,0))::((M,Obj.cells b8 68 (0,0))::d9))∧E 0=(.bool false)∧E 1=q3∧E 5=l4∧E 6=(.bool g.2)∧E 38=(.bool g8)) (bm 47 1048575) 27 ?_ (λg8 Z c4=>?_))
    ·rintro n6 E W ⟨d9,h,f4,f5,f6,j8,j9⟩ h7
     have d:=h.has.fR (Kb (Kb Sn))
     refine X 20 rfl d (gl j9) (PJ h7 (λg7 E W=>∃e0,ST false iv w W s ((G,Obj.cells g5 79 (0,0))::((M,Obj.cells b8 68 (0,0))::e0))∧E 0=(.bool false)∧E 1=q3∧E 5=l4∧E 41=(.bool g7)) (bm 47 8388607) 24 ?_ (λg7 a4 c3=>?_))
     ·rintro n7 E W ⟨e0,h,f7,f8,d1,k0⟩ h8
      have d:=h.has.fR (Kb (Kb Sn))
      refine X 23 rfl d (gl k0) (PJ h8 (λg4 E W=>∃e1,ST false iv w W s ((G,Obj.cells g5 79 (0,0))::((M,Obj.cells b8 68 (0,0))::e1))∧E 0=(.bool false)∧E 1=q3∧E 5=l4∧E 45=(.bool g4)) (bm 47 134217727) 20 ?_ (λg4 a3 c2=>?_))
      ·rintro n8 E W ⟨e1,h,b5,k1,b1,k2⟩ h9
       have d:=h.has.fR (Kb (Kb Sn))
       refine X 27 rfl d (gl k2) (PJ h9 (λg3 E W=>∃b4 e2,gf s b4∧ST false iv w W b4 ((G,Obj.cells g5 79 (0,0))::((M,Obj.cells b8 68 (0,0))::e2))∧E 0=(.bool false)∧E 5=l4∧E 54=(.bool g3)) (bm 47 68719476735) 11 ?_ (λg3 k a8=>?_))
       ·rintro n9 E W ⟨b4,e2,j,h,f9,k3,k4⟩ i0
        have d:=h.has.jn j (Kb (Kb Sn))
        refine X 36 rfl d (gl k4) (PJ i0 (λg2 E W=>∃e3,ST false iv w W b4 ((G,Obj.cells g5 79 (0,0))::((M,Obj.cells b8 68 (0,0))::e3))∧E 0=(.bool false)∧E 60=(.bool g2)) (bm 47 4398046511103) 5 ?_ (λg2 Y c1=>?_))
        ·rintro o0 E W ⟨e3,h,g0,k5⟩ i1
         have d:=h.has.jn j (Kb (Kb Sn))
         refine X 42 rfl d (gl k5) (PJ i1 (λg1 E W=>∃e4,ST false iv w W b4 ((G,Obj.cells g5 79 (0,0))::((M,Obj.cells b8 68 (0,0))::e4))∧E 0=(.bool false)∧E 64=(.bool g1)) (bm 47 70368744177663) 1 ?_ (λg1 U c0=>?_))
         ·rintro o1 E W ⟨e4,h,m5,k6⟩ i2
          have d:=h.has.jn j (Kb (Kb Sn))
          refine X 46 rfl d (iM k6) (iz kr (gj ?_))
          exact gC (rQ i2 h)
         refine bC U (λT U=>?_) (λT U=>?_)
         ·refine bS U λm6 i3 U=>yO 43 rfl rfl (cB T) (Eg h call91 (uT (.slice none 0 0) ([]) _ _ (a9.mono ((((b2.trans t).trans K).trans j).trans h.gd)) (Sl.nil _ _ _) i3) (λl9 h=>?_))
          have d:=h.has.jn j (Kb (Kb Sn))
          refine ⟨d,(Xg 44 rfl rfl (cB T) d (lA rfl rfl rfl) (X 45 rfl d (gx (cB T) rfl) ?_))⟩
          obtain rfl:=sj U
          refine jj kr (c0 _ _ ⟨_,(h.fR St),g0,rfl⟩)
         refine Xn 43 rfl rfl (cB T) d (Xn 44 rfl rfl (cB T) d (X 45 rfl d (gw (cB T) rfl) ?_))
         obtain rfl:=sj U
         refine jj kr (c0 _ _ ⟨_,(h.fR St),g0,rfl⟩)
        refine bC Y (λi Y=>?_) (λi Y=>?_)
        ·refine uW 37 rfl rfl (cB i) d (λ_ n=>fU k3 (fY n Mh [R,j2] rfl isAgg79 dj)) (yO 38 rfl rfl (cB i) (iy (cs:=#[R,j2]) h (kA rfl) (lH eH dj cr) (λm0 j4 h=>?_)))
         have d:=h.has.jn j (Db (Kb (Kb Sn)))
         refine ⟨d,(bS Y λm7 i4 Y=>yO 39 rfl rfl (cB i) (Eg h call36 (sk (.slice (some ⟨j4,0,none⟩) 1 1) ([g.1]) _ _ (a9.mono ((((b2.trans t).trans K).trans j).trans h.gd)) ((jA.lit wX (l:=[g.1]) (.cons (ys:=[R,j2]) (pz.mk ⟨j2,rfl,(b3.mono (Pl.mono _) j)⟩) .nil) rfl nb rfl).sl wX h.gd (λb o v=>(by rw [aM] at v; cases v; exact h.at_ Mh))) i4) (λm1 h=>?_)))⟩
         have d:=h.has.jn j (Db (Kb (Kb Sn)))
         refine ⟨d,(Xg 40 rfl rfl (cB i) d (lA rfl rfl rfl) (X 41 rfl d (gx (cB i) rfl) ?_))⟩
         obtain rfl:=sj Y
         refine jj kr (c1 _ _ ⟨_,(h.fR (Db St)),f9,rfl⟩)
        refine Xn 37 rfl rfl (cB i) d (Xn 38 rfl rfl (cB i) d (Xn 39 rfl rfl (cB i) d (Xn 40 rfl rfl (cB i) d (X 41 rfl d (gw (cB i) rfl) ?_))))
        obtain rfl:=sj Y
        refine jj kr (c1 _ _ ⟨_,(h.fR St),f9,rfl⟩)
       refine bC k (λc k=>?_) (λc k=>?_)
       ·refine Xg 28 rfl rfl (cB c) d (fZ xo b1) (uW 29 rfl rfl (cB c) d (λ_ n=>fU rfl (gh n Mh rfl bX)) (uW 31 rfl rfl (cB c) d (λ_ n=>fU k1 (fY n (Mt Mh) [A,L,P,O,g6,j1] rfl bx aO)) (xL 30 32 rfl rfl kr (.inr ⟨27,true,46,rfl,rfl,by decide,(cB c)⟩) (.inr ⟨27,true,46,rfl,rfl,by decide,(cB c)⟩) rfl rfl dc dc ?_ ?_)))
        ·refine .inl ⟨_,_,mT aG bK aI rfl (b3.mono (Pl.mono _) h.gd),⟨d,(bS k λm8 i5 k=>yO 32 rfl rfl (cB c) (nJ h call35 (nz 1 a.1 g6 j1 _ _ (b6.mono (Pl.mono _) ((t.trans K).trans h.gd)) (b7.mono gO.mono ((t.trans K).trans h.gd)) i5) (λm2 n1 l3 l7 h b9 ab h3=>?_)))⟩⟩
         have d:=h.has.jn b9 (Dr (Kb (Kb Sn)))
         refine ⟨d,(AV 33 rfl kr (.inr ⟨27,true,46,rfl,rfl,by decide,(cB c)⟩) rfl dc (.inl ⟨_,_,mT aG bK aI rfl (h3.BM (λ_=>rfl) h (λp v=>(Ml v))),⟨d,(Xg 34 rfl rfl (cB c) d (lA rfl rfl rfl) (X 35 rfl d (gx (cB c) rfl) ?_))⟩⟩))⟩
         obtain rfl:=sj k
         refine jj kr (a8 _ _ ⟨l3,_,b9,(h.fR (Dr St)),b5,b1,rfl⟩)
        ·refine bS k λm9 i6 k=>ui (args:=[(.int .i64 1),(.agg #[A,L,P,O,g6,j1])]) _ h rfl call35 (by exact jG rfl rfl) (nz 1 a.1 g6 j1 _ _ (b6.mono (Pl.mono _) ((t.trans K).trans h.gd)) (b7.mono gO.mono ((t.trans K).trans h.gd)) i6) (λm3 n2 h2 l8 h a1 ad d5=>?_)
         have d:=h.has.jn a1 (Dr (Kb (Kb Sn)))
         refine ⟨d,(xL 30 33 rfl rfl kr (.inr ⟨27,true,46,rfl,rfl,by decide,(cB c)⟩) (.inr ⟨27,true,46,rfl,rfl,by decide,(cB c)⟩) rfl rfl dc dc ?_ ?_)⟩
         ·refine .inl ⟨_,_,mT aG bK aI rfl (b3.mono (Pl.mono _) (a1.trans h.gd)),⟨d,(AV 33 rfl kr (.inr ⟨27,true,46,rfl,rfl,by decide,(cB c)⟩) rfl dc (.inl ⟨_,_,mT aG bK aI rfl (d5.BM (λ_=>rfl) h (λp v=>(Ml v))),⟨d,(Xg 34 rfl rfl (cB c) d (lA rfl rfl rfl) (X 35 rfl d (gx (cB c) rfl) ?_))⟩⟩))⟩⟩
          obtain rfl:=sj k
          refine jj kr (a8 _ _ ⟨h2,_,a1,(h.fR (Dr St)),b5,b1,rfl⟩)
         ·refine .inl ⟨_,_,mT aG bK aI rfl (d5.BM (λ_=>rfl) h (λp v=>(Ml v))),⟨d,(AV 30 rfl kr (.inr ⟨27,true,46,rfl,rfl,by decide,(cB c)⟩) rfl dc (.inl ⟨_,_,mT aG bK aI rfl (b3.mono (Pl.mono _) (a1.trans h.gd)),⟨d,(Xg 34 rfl rfl (cB c) d (lA rfl rfl rfl) (X 35 rfl d (gx (cB c) rfl) ?_))⟩⟩))⟩⟩
          obtain rfl:=sj k
          refine jj kr (a8 _ _ ⟨h2,_,a1,(h.fR (Dr St)),b5,b1,rfl⟩)
       refine Xn 28 rfl rfl (cB c) d (Xn 29 rfl rfl (cB c) d (Xn 30 rfl rfl (cB c) d (Xn 31 rfl rfl (cB c) d (Xn 32 rfl rfl (cB c) d (Xn 33 rfl rfl (cB c) d (Xn 34 rfl rfl (cB c) d (X 35 rfl d (gw (cB c) rfl) ?_)))))))
       obtain rfl:=sj k
       refine jj kr (a8 _ _ ⟨s,_,(gf.refl _),(h.fR St),b5,b1,rfl⟩)
      refine bC a3 (λQ a3=>?_) (λQ a3=>?_)
      ·refine Xg 24 rfl rfl (cB Q) d (fZ AU d1) (uW 25 rfl rfl (cB Q) d (λ_ n=>fU rfl (gh n Mh rfl isAgg4)) (X 26 rfl d (gx (cB Q) rfl) ?_))
       obtain rfl:=sj a3
       refine jj kr (c2 _ _ ⟨_,(h.fR St),f7,f8,d1,rfl⟩)
      refine Xn 24 rfl rfl (cB Q) d (Xn 25 rfl rfl (cB Q) d (X 26 rfl d (gw (cB Q) rfl) ?_))
      obtain rfl:=sj a3
      refine jj kr (c2 _ _ ⟨_,(h.fR St),f7,f8,d1,rfl⟩)
     refine bC a4 (λa2 a4=>?_) (λa2 a4=>?_)
     ·refine Xg 21 rfl rfl (cB a2) d (gl j8) (X 22 rfl d (gx (cB a2) rfl) ?_)
      obtain rfl:=sj a4
      refine jj kr (c3 _ _ ⟨_,(h.fR St),f4,f5,f6,rfl⟩)
     refine Xn 21 rfl rfl (cB a2) d (X 22 rfl d (gw (cB a2) rfl) ?_)
     obtain rfl:=sj a4
     refine jj kr (c3 _ _ ⟨_,(h.fR St),f4,f5,f6,rfl⟩)
    refine bC Z (λJ Z=>?_) (λJ Z=>?_)
    ·refine uW 16 rfl rfl (cB J) d (λ_ n=>fU d0 (fY n (Mt Mh) [A,L,P,O,g6,j1] rfl bx aO)) (bS Z λn0 i7 Z=>yO 17 rfl rfl (cB J) (Eg h call33 (qX a.1 g6 j1 _ _ (a9.mono (((b2.trans t).trans K).trans h.gd)) (b6.mono (Pl.mono _) ((t.trans K).trans h.gd)) (b7.mono gO.mono ((t.trans K).trans h.gd)) i7) (λm4 h=>?_)))
     have d:=h.has.fR (Kb (Kb Sn))
     refine ⟨d,(Xg 18 rfl rfl (cB J) d (lA rfl rfl rfl) (X 19 rfl d (gx (cB J) rfl) ?_))⟩
     obtain rfl:=sj Z
     refine jj kr (c4 _ _ ⟨_,(h.fR St),f1,d0,f2,f3,rfl⟩)
    refine Xn 16 rfl rfl (cB J) d (Xn 17 rfl rfl (cB J) d (Xn 18 rfl rfl (cB J) d (X 19 rfl d (gw (cB J) rfl) ?_)))
    obtain rfl:=sj Z
    refine jj kr (c4 _ _ ⟨_,(h.fR St),f1,d0,f2,f3,rfl⟩)
   refine bC a5 (λI a5=>?_) (λI a5=>?_)
   ·refine Xg 11 rfl rfl (cB I) d (fZ pw c9) (uW 12 rfl rfl (cB I) d (λ_ n=>fU rfl (gh n (Mt Mh) rfl bY)) (Xg 13 rfl rfl (cB I) d (iJ rfl rfl rfl) (X 14 rfl d (gx (cB I) rfl) ?_)))
    obtain rfl:=sj a5
    refine jj kr (c5 _ _ ⟨_,(h.fR St),e8,c9,e9,f0,rfl⟩)
   refine Xn 11 rfl rfl (cB I) d (Xn 12 rfl rfl (cB I) d (Xn 13 rfl rfl (cB I) d (X 14 rfl d (gw (cB I) rfl) ?_)))
   obtain rfl:=sj a5
   refine jj kr (c5 _ _ ⟨_,(h.fR St),e8,c9,e9,f0,rfl⟩)
  refine bC a6 (λH a6=>?_) (λH a6=>?_)
  ·refine Xg 6 rfl rfl (cB H) d (fZ om c8) (uW 7 rfl rfl (cB H) d (λ_ n=>fU rfl (gh n (Mt Mh) rfl bY)) (Xg 8 rfl rfl (cB H) d (iJ rfl rfl rfl) (X 9 rfl d (gx (cB H) rfl) ?_)))
   obtain rfl:=sj a6
   refine jj kr (c6 _ _ ⟨_,(h.fR St),e5,c8,e6,e7,rfl⟩)
  refine Xn 6 rfl rfl (cB H) d (Xn 7 rfl rfl (cB H) d (Xn 8 rfl rfl (cB H) d (X 9 rfl d (gw (cB H) rfl) ?_)))
  obtain rfl:=sj a6
  refine jj kr (c6 _ _ ⟨_,(h.fR St),e5,c8,e6,e7,rfl⟩)
 refine bC a7 (λN a7=>?_) (λN a7=>?_)
 ·refine Xg 2 rfl rfl (cB N) d (gl rfl) (Xg 3 rfl rfl (cB N) d (kj rfl) (X 4 rfl d (gx (cB N) rfl) ?_))
  obtain rfl:=sj a7
  refine jj kr (c7 _ _ ⟨_,(h.fR St),rfl,rfl,rfl,rfl,rfl⟩)
 refine Xn 2 rfl rfl (cB N) d (Xn 3 rfl rfl (cB N) d (X 4 rfl d (gw (cB N) rfl) ?_))
 obtain rfl:=sj a7
 refine jj kr (c7 _ _ ⟨_,(h.fR St),rfl,rfl,rfl,rfl,rfl⟩)
theorem zz (k:Value) (u:List fP) (r:Int) (w:World) (j:Sl (Pl gb) 9 (hp w) k u) (hm:mU u=some r) :
  gz true pg0 108 [k] w (.int .i64 r):=by
 refine cG 54 func108 rfl (λd=>sg (Wa (lr (Wa (lS (Wm ?_))))))
 refine V (iI underlying45 rfl j) (Wm (ln (jb (λi E W=>∃g t,(E 8= .int .i64 (i:Nat)∧E 7= .int .i64 (u.length:Nat))∧ST true iv w W (hp w) t∧E 3=(.int .i64 g)∧E 6=k∧jR (u.drop i) g=some r) u.length j.len ⟨0,_,⟨rfl,rfl⟩,(d.fR St),rfl,rfl,hm⟩ dc dc dc (λ_ _ _ h=>by obtain ⟨_,_,o,_⟩:=h; exact o) ?_ ?_)))
 ·rintro I E W z ⟨g,t,⟨n,p⟩,d,x,y,c⟩
  obtain ⟨a,J,G,D,H⟩:=iK z
  rw [G] at c
  refine bg (VQ (ll (enc:=gb) (i:=(I:Int)) (x0:=a) underlying45 bj y n j (aV _) D) (λQ B=>V (fU rfl (kf d.has B ca bj)) (VE (gy d bO (λK N d=>VO (ga (.agg (gb a).toArray) ((gb a).toArray) d rfl rfl bj (lp a) nb rfl (λM d=>ln (gn (Wh x (Wf rA (Wf oY (VB d Mh rfl rfl bG (V (iR aI rfl) ?_)))))))))))))
  refine Wi rfl (Wf rA (Wf qm (VB d Mh rfl rfl bG (V (iR aI rfl) (Wi rfl (Wf rZ (VB d Mh rfl rfl bG (V (iR aI rfl) (Wi rfl (Wf kb (Wf oY (VB d Mh rfl rfl bG (V (iR aI rfl) (Wi rfl ?_))))))))))))))
  refine Wf kb (Wf qm (VB d Mh rfl rfl bG (V (iR aI rfl) (Wi rfl (Wf qh (Wf oY (VB d Mh rfl rfl bG (V (iR aI rfl) (Wi rfl (Wf qh (Wf qm (VB d Mh rfl rfl bG (V (iR aI rfl) (Wi rfl ?_))))))))))))))
  refine Wf sh (VB d Mh rfl rfl bG (V (iR aI rfl) (Wi rfl (Wi rfl (Wa (gJ (ig (gj ?_))))))))
  replace d:=d.fR (Db St)
  exact ⟨n,(wi0 .i64 (g+(wi0 .i64 ((wi0 .i64 ((wi0 .i64 ((wi0 .i64 ((wi0 .i64 ((wi0 .i64 ((wi0 .i64 ((wi0 .i64 (20+(a.Head.fX.size:Int)))+(a.Head.Word.size:Int)))+(a.ir.size:Int)))+(a.B.fX.size:Int)))+(a.B.Word.size:Int)))+(a.C.fX.size:Int)))+(a.C.Word.size:Int)))+(a.gT.size:Int))))),_,⟨rfl,p⟩,(d.fR St),rfl,y,(by rw [H]; exact c)⟩
 rintro E W ⟨g,t,⟨n,p⟩,d,x,y,c⟩
 rw [aZ] at c
 exact gj (sg (Wh x (Wa (lt (rQ c d)))))
theorem zo (H:Value) (Q:List Key) (u:Value) (J:List Signed) (r:Int) (w:World) (B:Sl tB 2 (hp w) H Q) (D:Sl gr 10 (hp w) u J) (hm:lZ Q J=some r) :
  gz true pg0 40 [H,u] w (.int .i64 r):=by
 refine cG 45 func40 rfl (λd=>sg (Wa (lr (Wa (lS (Wm ?_))))))
 refine V (iI underlying32 rfl B) (Wm (ln (jb (λi E W=>∃t N,(E 12= .int .i64 (i:Nat)∧E 11= .int .i64 (Q.length:Nat))∧ST true iv w W (hp w) N∧E 1=u∧E 5=(.int .i64 t)∧E 10=H∧mD J (Q.drop i) t=some r) Q.length B.len ⟨0,_,⟨rfl,rfl⟩,(d.fR St),rfl,rfl,rfl,hm⟩ dc dc dc (λ_ _ _ h=>by obtain ⟨_,_,p,_⟩:=h; exact p) ?_ ?_)))
 ·rintro c3 E W b5 ⟨t,N,⟨o,q⟩,d,U,Y,Z,g⟩
  obtain ⟨k,d4,b9,b7,c0⟩:=iK b5
  rw [b9] at g
  refine bg (VQ (nZ (i:=(c3:Int)) (x0:=k) tB.out underlying32 sizeOf119 Z o B (aV _) b7) (λd8 ⟨_,⟨d9,rfl,a2⟩,b6⟩=>V (fU rfl (kf d.has b6 isAgg119 sizeOf119)) (VE (gy d zeroValue119 (λd5 d7 d=>?_)))))
  obtain ⟨v,A,rfl⟩:=a2.form
  refine VO (ga (.agg #[(.string k.ir),(.slice v k.Key.length A)]) (#[(.string k.ir),(.slice v k.Key.length A)]) d rfl rfl sizeOf119 oc nb rfl (λd6 d=>ln (gn (Wh Y (Wf GP (VB d Mh rfl rfl bG (V (iR aI rfl) (Wi rfl (Wf Gy (VB d Mh rfl rfl bX (V (iI aG rfl a2) (Wi rfl (Wi rfl (Wa ?_))))))))))))))
  refine gJ (ig (gj ?_))
  replace d:=d.fR (Db St)
  exact ⟨o,(wi0 .i64 (t+(wi0 .i64 ((wi0 .i64 (10+(k.ir.size:Int)))+(k.Key.length:Int))))),_,⟨rfl,q⟩,(d.fR St),U,rfl,Z,(by rw [c0]; exact g)⟩
 rintro E W ⟨t,N,⟨o,q⟩,d,U,Y,Z,g⟩
 rw [aZ] at g
 refine gj (gq (sg (Wh U (V (iI bH rfl D) (Wm (ln (CJ g (λG E W=>∃M,ST true iv w W (hp w) M∧E 5=(.int .i64 G)) (λG a5=>?_) ?_)))))))
 ·refine jb (λi E W=>∃j x,(E 29= .int .i64 (i:Nat)∧E 28= .int .i64 (J.length:Nat))∧ST true iv w W (hp w) x∧E 5=(.int .i64 j)∧E 27=u∧ky (J.drop i) j=some G) J.length D.len ⟨t,_,⟨rfl,rfl⟩,(d.fR St),Y,rfl,a5⟩ dc dc dc (λ_ _ _ h=>by obtain ⟨_,_,p,_⟩:=h; exact p) ?_ ?_
  ·rintro c1 E W a3 ⟨j,x,⟨o,q⟩,d,y,z,c⟩
   obtain ⟨a,c4,a9,P,R⟩:=iK a3
   rw [a9] at c
   refine bg (VQ (nZ (i:=(c1:Int)) (x0:=a) gr.out bH bR z o D (aV _) P) (λd0 ⟨_,⟨d1,rfl,I⟩,L⟩=>V (fU rfl (kf d.has L eG bR)) (VE (gy d cW (λc5 c9 d=>?_)))))
   obtain ⟨K,T,rfl⟩:=I.form
   let a0:=(C1 a.fP.Kind a.fP.Head.fX a.fP.Head.Word a.fP.ir a.fP.B.fX a.fP.B.Word a.fP.C.fX a.fP.C.Word a.fP.gT K a.Tag.length T)
   refine VO (ga (.agg a0.toArray) (a0.toArray) d rfl rfl bR oc nb rfl (λc6 d=>ln ?_))
   replace d:=d.drew
   have n:=d.has.fR (Kb Sn)
   refine ic n gK (X 0 rfl n (gl y) (X 1 rfl n (fZ qg rfl) (XH 2 rfl n (λ_ s=>fU rfl (fY s Mh (gb a.fP) rfl ca bj)) (X 5 rfl n (fZ ss rfl) (XH 6 rfl n (λ_ s=>fU rfl (gh s Mh rfl bX)) (X 7 rfl n (iI aG rfl I) (XE 3 rfl (iy (cs:=(gb a.fP).toArray) d (kA rfl) (lH underlying45 bj bO) (λc7 b3 d=>?_)))))))))
   have n:=d.has.fR (Db (Kb Sn))
   refine ⟨n,(bS c λc2 O c=>XE 4 rfl (Eg d call108 (zz (.slice (some ⟨b3,0,none⟩) 1 1) ([a.fP]) _ _ (Sl.lit (enc:=gb) (l:=[a.fP]) GR rfl nb rfl (d.at_ Mh)) O) (λc8 d=>?_)))⟩
   have n:=d.has.fR (Db (Kb Sn))
   refine ⟨n,(X 8 rfl n (iJ rfl rfl rfl) (X 9 rfl n (iJ rfl rfl rfl) (X 10 rfl n (iM rfl) (iz kr (ig (gj ?_))))))⟩
   replace d:=d.fR (Db (Db St))
   exact ⟨o,(wi0 .i64 (j+(wi0 .i64 (c2+(a.Tag.length:Int))))),_,⟨rfl,q⟩,(d.fR St),rfl,z,(by rw [R]; exact c)⟩
  rintro E W ⟨j,x,⟨o,q⟩,d,y,z,c⟩
  rw [aZ] at c
  refine gj ?_
  obtain rfl:=sj c
  exact ⟨_,(d.fR St),y⟩
 rintro d3 E W ⟨M,d,b4⟩ a4
 exact sg (Wh b4 (Wa (lt (rQ a4 d))))
theorem zk (c:ie) (t k:Value) (r:Int) (w:World) (a:Sl (Pl fS) 2 (hp w) t c.gA) (j:Sl gr 10 (hp w) k c.gv) (hm:pM c=some r) :
  gz true pg0 30 [(.agg #[(.int .i64 c.Kind),(.int .i64 c.gY),(.int .i64 c.E),(.string c.Name),t,k])] w (.int .i64 r):=by
 refine cG 32 func30 rfl (λd=>sg ?_)
 obtain ⟨M,Q,rfl⟩:=a.form
 obtain ⟨N,T,rfl⟩:=j.form
 refine VE (jr d rfl (λW6 A d=>Wa (ln (gq ?_))))
 replace d:=d.drew
 have n:=d.has.fR (Kb Sn)
 refine ic n gK (X 0 rfl n (fZ qo rfl) (XH 1 rfl n (λ_ q=>fU rfl (gh q Mh rfl bG)) (X 2 rfl n (iR aI rfl) (X 3 rfl n (fZ nC rfl) (XH 4 rfl n (λ_ q=>fU rfl (gh q Mh rfl eW)) (bS hm λY H hm=>XE 5 rfl (Eg d call40 (zo (.slice none 0 0) ([]) (.slice N c.gv.length T) c.gv _ _ (Sl.nil _ _ _) (j.mono gO.mono d.gd) H) (λv d=>?_))))))))
 have n:=d.has.fR (Kb Sn)
 refine ⟨n,(X 6 rfl n (iJ rfl rfl rfl) (X 7 rfl n (iM rfl) (iz kr (gj (gq (sg (Wf nG (VB d Mh rfl rfl eV (V (iI aP rfl a) (Wm (ln ?_)))))))))))⟩
 replace d:=d.fR (Db St)
 refine jb (λi E W=>∃x y,(E 16= .int .i64 (i:Nat)∧E 15= .int .i64 (c.gA.length:Nat))∧ST true iv w W (hp w) y∧E 3=(.int .i64 x)∧E 14=(.slice M c.gA.length Q)∧mF (c.gA.drop i) x=some r) c.gA.length a.len ⟨(wi0 .i64 ((c.Name.size:Int)+Y)),_,⟨rfl,rfl⟩,(d.fR St),rfl,rfl,hm⟩ dc dc dc (λ_ _ _ h=>by obtain ⟨_,_,p,_⟩:=h; exact p) ?_ ?_
 ·rintro U E W D ⟨x,y,⟨o,s⟩,d,z,B,g⟩
  obtain ⟨u,Z,J,I,K⟩:=iK D
  rw [J] at g
  refine bg (VQ (ll (enc:=fS) (i:=(U:Int)) (x0:=u) aP aD B o a (aV _) I) (λa5 G=>V (fU rfl (kf d.has G aX aD)) (VE (gy d bL (λa2 a4 d=>VO (ga (.agg (fS u).toArray) ((fS u).toArray) d rfl rfl aD (iH u) nb rfl (λa3 d=>ln (gn (Wh z (Wf oY (VB d Mh rfl rfl bG (V (iR aI rfl) (Wi rfl ?_)))))))))))))
  refine Wf qm (VB d Mh rfl rfl bG (V (iR aI rfl) (Wi rfl (Wi rfl (Wa (gJ (ig (gj ?_))))))))
  replace d:=d.fR (Db St)
  exact ⟨o,(wi0 .i64 (x+(wi0 .i64 ((wi0 .i64 (5+(u.fX.size:Int)))+(u.Word.size:Int))))),_,⟨rfl,s⟩,(d.fR St),rfl,B,(by rw [K]; exact g)⟩
 rintro E W ⟨x,y,⟨o,s⟩,d,z,B,g⟩
 rw [aZ] at g
 exact gj (sg (Wh z (Wa (lt (rQ g d)))))
theorem wg (c:ie) (N M:Value) (h:Int) (a2 r:Bool) (w:World) (a5:ny pg0 (hp w)) (t:Sl (Pl fS) 2 (hp w) N c.gA) (k:Sl gr 10 (hp w) M c.gv) (hm:nw c h a2=some r) :
  gz false pg0 9 [(.agg #[(.int .i64 c.Kind),(.int .i64 c.gY),(.int .i64 c.E),(.string c.Name),N,M]),(.int .u16 h),(.bool a2)] w (.bool r):=by
 refine cG 74 func9 rfl (λd=>sg ?_)
 obtain ⟨Q,U,rfl⟩:=t.form
 let a4:Value:=(.slice Q c.gA.length U)
 obtain ⟨T,Y,rfl⟩:=k.form
 let b8:Value:=(.slice T c.gv.length Y)
 let a0:=(C2 c.Kind c.gY c.E c.Name Q c.gA.length U T c.gv.length Y)
 refine VE (jr d rfl (λW6 A d=>Wa (lS (bS hm λr7 h6 hm=>VE (Eg d call29 (zA  _ _ (a5.mono d.gd) h6) (λW9 d=>V (kj rfl) (ln (CI hm rfl (λf8 hm=>?_) (λf8 hm=>?_)))))))))
 ·refine sg (Wa (ln ?_))
  replace d:=d.fR (Db St)
  refine gC (gN ?_)
  obtain rfl:=sj hm
  exact rP d
 refine kS (VA d Mh a0 bx aO (bS hm λk5 g2 hm=>VE (Eg d call30 (gz.gV (zk c a4 b8 _ _ (t.mono (Pl.mono _) d.gd) (k.mono gO.mono d.gd) g2)) (λj4 d=>Wi rfl (Wm (LJ hm (λd7 E W=>∃e4,ST false iv w W (hp w) ((A,Ol a0 68)::e4)∧E 1=(.int .u16 h)∧E 2=(.bool a2)∧E 3=(.pointer (some ⟨A,0,none⟩))∧E 22=(.bool d7)) 4 ?_ (λd7 D b0=>?_)))))))
 ·rintro k9 E W ⟨e4,d,e7,e8,L,h2⟩ G
  refine ln (CI G h2 (λf9 G=>?_) (λf9 G=>?_))
  ·refine sg (Wa (ln ?_))
   replace d:=d.fR (Db St)
   refine gC (gN ?_)
   obtain rfl:=sj G
   exact rP d
  refine kg (V (fU L (fY d.has Mh a0 rfl bx aO)) (bS G λh7 g3 G=>VE (Eg d call33 (qX c a4 b8 _ _ (a5.mono d.gd) (t.mono (Pl.mono _) d.gd) (k.mono gO.mono d.gd) g3) (λj5 d=>bS G λu g4 G=>?_))))
  let f7:Value:=(.int .i64 ((u.1).gY))
  let f6:Value:=(.int .i64 ((u.1).Kind))
  refine VE (eD d (cj _) call32 (λhh=>(pO h7 _ _ hh (a5.mono (gf.refl _)) g4)) ?_ (L0:=[]))
  rintro _ k6 h9 i9 d H aa ⟨l1,l2,b4,rfl,d1,d2⟩
  obtain rfl:=b4.symm
  refine Wm (Wx rfl (Wx rfl (VE (gy d bq (λj7 k4 d=>?_)))))
  obtain ⟨b7,c0,rfl⟩:=d1.form
  let c2:Value:=(.slice b7 ((u.1).gA).length c0)
  obtain ⟨b9,c1,rfl⟩:=d2.form
  let O:Value:=(.slice b9 ((u.1).gv).length c1)
  refine VO (ga (.agg #[f6,f7,(.int .i64 ((u.1).E)),(.string ((u.1).Name)),c2,O]) (#[f6,f7,(.int .i64 ((u.1).E)),(.string ((u.1).Name)),c2,O]) d rfl rfl aO oc nb rfl (λj8 d=>Wa (lS (Wm (V (kj rfl) (Wm (LJ G (λd6 E W=>∃e5,ST false iv w W h9 ((A,Ol a0 68)::e5)∧E 1=(.int .u16 h)∧E 2=(.bool a2)∧E 3=(.pointer (some ⟨A,0,none⟩))∧E 36=(.bool d6)) 5 ?_ (λd6 B a9=>?_))))))))
  ·rintro l0 E W ⟨e5,d,h3,e9,h4,h5⟩ i
   refine ln (CI i h5 (λg0 i=>?_) (λg0 i=>?_))
   ·refine sg (Wa (ln ?_))
    replace d:=d.fR (Db St)
    refine gC (gN ?_)
    obtain rfl:=sj i
    exact rP d
   refine kg (Wh h3 (V (pa (k':=.u16) (a:=h) underlying69 eK rfl) (Wi rfl (V (fU h4 (fY d.has Mh a0 rfl bx aO)) (bS i λI g7 i=>VE (nJ d call35 (nz (wi0 .i64 ((wi0 .i64 h)+1)) c a4 b8 _ _ (t.mono (Pl.mono _) (H.trans d.gd)) (k.mono gO.mono (H.trans d.gd)) g7) (λj9 k7 l4 j3 d c5 ab R=>Wa (ln ?_))))))))
   replace d:=d.fR (Kr (Db St))
   refine sg (Wh e9 (Wm ?_))
   obtain ⟨Z,a3,rfl⟩:=R.form
   let n:Value:=(.slice Z I.length a3)
   refine V (ia (v:=(.agg #[(.bool a2),n])) (mY rfl rfl) (gG cr cx (zY _ cx) kr)) ?_
   have i4:=R.Hj d (λp P=>(Ml P))
   obtain ⟨l5,d,c6,ad,d0⟩:=ST.uG d R (λ_=>rfl)
   refine VE (iy (cs:=#[(.bool a2),n]) d (kA rfl) (lH eH dj cr) (λk0 h1 d=>bS i λf0 g8 i=>VE (Eg d call36 (sk (.slice (some ⟨h1,0,none⟩) 1 1) ([(⟨a2,I⟩:rH)]) _ _ (a5.mono (((H.trans c5).trans c6).trans d.gd)) ((jA.lit wX (l:=[(⟨a2,I⟩:rH)]) (.cons (ys:=[(.bool a2),n]) (pz.mk ⟨n,rfl,d0⟩) .nil) rfl nb rfl).sl wX d.gd (λb o P=>(by rw [aM] at P; cases P; exact d.at_ Mh))) g8) (λk1 d=>Wa (ln ?_)))))
   replace d:=d.fR (Db St)
   refine gq (sg (Wm (V (iR aI rfl) (Wi rfl (ln (CI i rfl (λg1 i=>?_) (λg1 i=>?_)))))))
   ·refine sg (Wa (lt (gN ?_)))
    obtain rfl:=sj i
    exact rP d
   refine kg (Wm (Wm (V (iR aI rfl) (Wi rfl (bS i λh8 h0 i=>V (sW (s:=f0) (j:=(wi0 .i64 ((f0.size:Int)-1))) aI rfl rfl h0) (bS i λq g9 i=>?_))))))
   refine VE (eD d (cj _) call37 (λhh=>(uV h8 _ _ hh (a5.mono ((H.trans c5).trans c6)) g9)) ?_ (L0:=[]))
   rintro _ k8 f1 j0 d d9 ae ⟨l3,b6,rfl,d3⟩
   obtain rfl:=b6.symm
   refine Wm (Wx rfl (Wx rfl (VE (gy d cr (λk3 e6 d=>?_)))))
   obtain ⟨b1,b2,rfl⟩:=d3.form
   let d8:Value:=(.slice b1 ((q.1).B).length b2)
   refine VO (ga (.agg #[(.bool ((q.1).Out)),d8]) (#[(.bool ((q.1).Out)),d8]) d rfl rfl dj oc nb rfl (λi1 d=>Wa (lr (Wm (Wm (LJ i (λd5 E W=>∃c8,ST false iv w W f1 ((e6,Ob #[(.bool ((q.1).Out)),d8] 79)::c8)∧E 9=n∧E 11=(.pointer (some ⟨e6,0,none⟩))∧E 65=(.bool d5)) 5 ?_ (λd5 K a8=>?_)))))))
   ·rintro i7 E W ⟨c8,d,f2,f3,f4⟩ e0
    refine Wh f4 (LJ e0 (λd4 E W=>∃c9,ST false iv w W f1 c9∧E 73=(.bool d4)) 7 ?_ (λd4 J a7=>?_))
    ·rintro i8 E W ⟨c9,d,f5⟩ e1
     exact Wg f5 (lt (rQ e1 d))
    refine bC J (λg J=>?_) (λg J=>?_)
    ·refine ug g (fZ xo f3) (ug g (fU rfl (gh d.has Mh rfl bX)) (ug g (mT aG bK aI rfl (d3.mono (Pl.mono _) d.gd)) (ug g (gl f2) (ug g (mT aG bK aI rfl (d0.mono (Pl.mono _) (d9.trans d.gd))) (ug g (lA rfl rfl rfl) (V (gx (cB g) rfl) ?_))))))
     obtain rfl:=sj J
     exact a7 _ _ ⟨_,(d.fR (Db St)),rfl⟩
    refine un g (un g (un g (un g (un g (un g (V (gw (cB g) rfl) ?_))))))
    obtain rfl:=sj J
    exact a7 _ _ ⟨_,(d.fR (Db St)),rfl⟩
   refine bC K (λx K=>?_) (λx K=>?_)
   ·refine ug x (fZ AU rfl) (ug x (fU rfl (gh d.has Mh rfl isAgg4)) (ug x (gl e9) (ug x (GQ underlying4 rfl rfl rfl) (V (gx (cB x) rfl) ?_))))
    obtain rfl:=sj K
    exact a8 _ _ ⟨_,(d.fR St),rfl,rfl,rfl⟩
   refine un x (un x (un x (un x (V (gw (cB x) rfl) ?_))))
   obtain rfl:=sj K
   exact a8 _ _ ⟨_,(d.fR St),rfl,rfl,rfl⟩
  refine bC B (λy B=>?_) (λy B=>?_)
  ·refine un y (un y (un y (un y (V (gx (cB y) rfl) ?_))))
   obtain rfl:=sj B
   exact a9 _ _ ⟨_,(d.fR (Db St)),e7,e8,L,rfl⟩
  refine ug y (fU rfl (fY d.has Mh [f6,f7,(.int .i64 ((u.1).E)),(.string ((u.1).Name)),c2,O] rfl bx aO)) (ug y (fU L (fY d.has (Mt Mh) a0 rfl bx aO)) (bS B λi5 e2 B=>nN y (Eg d call34 (xl u.1 c2 O c a4 b8 _ _ (d1.mono (Pl.mono _) d.gd) (d2.mono gO.mono d.gd) (t.mono (Pl.mono _) (H.trans d.gd)) (k.mono gO.mono (H.trans d.gd)) e2) (λi2 d=>ug y (kj rfl) (V (gw (cB y) rfl) ?_)))))
  obtain rfl:=sj B
  exact a9 _ _ ⟨_,(d.fR (Db St)),e7,e8,L,rfl⟩
 refine bC D (λz D=>?_) (λz D=>?_)
 ·refine un z (un z (un z (V (gx (cB z) rfl) ?_)))
  obtain rfl:=sj D
  exact b0 _ _ ⟨_,(d.fR St),rfl,rfl,rfl,rfl⟩
 refine ug z (fU rfl (fY d.has Mh a0 rfl bx aO)) (bS D λi6 e3 D=>nN z (Eg d call31 (pC c a4 b8 _ _ (t.mono (Pl.mono _) d.gd) (k.mono gO.mono d.gd) e3) (λi3 d=>ug z (kj rfl) (V (gw (cB z) rfl) ?_))))
 obtain rfl:=sj D
 exact b0 _ _ ⟨_,(d.fR St),rfl,rfl,rfl,rfl⟩
end Go.Proofs.YtjjjihkifgdhgaaGreatDoor
