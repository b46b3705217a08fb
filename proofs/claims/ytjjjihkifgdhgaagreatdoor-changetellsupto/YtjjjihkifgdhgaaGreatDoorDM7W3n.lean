/- a part of a proof of ChangeTells -/
import Derived.Test.YtjjjihkifgdhgaaGreatDoorDM7W2n
set_option linter.all false
namespace Go.Proofs.YtjjjihkifgdhgaaGreatDoor
open Go.IntKind renaming wrap → wi0
open Go.Proofs.Tryz renaming prog → pg0
open Go.RowKit
set_option maxRecDepth 10000
open Tryz
theorem Gj (I:(List Formula)→Option Int) (N:∀(j:Value) (u:List Formula) (r:Int) (w:World) (t:Sl kD 5 (hp w) j u),I u=some r→la false pg0 39 [j] w (.int .i64 r)) (j:Value) (u:List Formula) (r:Int) (w:World) (t:Sl kD 5 (hp w) j u) (hm:xC I u=some r) :
  la false pg0 39 [j] w (.int .i64 r):=by
 refine cG 31 func39 rfl (λn=>sg (Wa (lr (Wa (lS (Wm ?_))))))
 refine V (mx aH rfl t) (Wm (ln (mj (λi E W=>∃x z,(E 8= .int .i64 (i:Nat)∧E 7= .int .i64 (u.length:Nat))∧ST false lD w W (hp w) z∧E 3=(.int .i64 x)∧E 6=j∧tu I (u.drop i) x=some r) u.length t.len ⟨0,_,⟨rfl,rfl⟩,(n.kB St),rfl,rfl,hm⟩ dc dc dc (λ_ _ _ h=>by obtain ⟨_,_,s,_⟩:=h; exact s) ?_ ?_)))
 ·rintro Z E W M ⟨x,z,⟨q,L⟩,n,D,G,g⟩
  obtain ⟨c,R,T,Q,U⟩:=lX M
  let a0:=((c.kz.kA.size:Int)+(c.kz.Word.size:Int))
  rw [T] at g
  refine bg (VQ (mo (i:=(Z:Int)) (x0:=c) kD.out aH aG G q t (aM _) Q) (λa5 ⟨_,⟨P,rfl,H⟩,J⟩=>V (kF rfl (lx n.has J aZ aG)) (VE (lT n bG (λO a4 n=>?_)))))
  obtain ⟨y,B,rfl⟩:=H.form
  let A:=(C2 c.Op c.K c.kz.kA c.kz.Word y c.Kids.length B)
  refine VO (lp (.agg A.toArray) (A.toArray) n rfl rfl aG oc nb rfl (λa2 n=>ln ?_))
  replace n:=n.drew
  have d:=n.has.kB (Kb Sn)
  refine lC d lj (X 0 rfl d (kH D) (X 1 rfl d (kJ ux rfl) (X 2 rfl d (kJ qR rfl) (XH 3 rfl d (λ_ p=>kF rfl (kV p Mh rfl bT)) (X 4 rfl d (pL bN rfl) (X 5 rfl d (kJ ux rfl) (X 6 rfl d (kJ sU rfl) (XH 7 rfl d (λ_ p=>kF rfl (kV p Mh rfl bT)) (X 8 rfl d (pL bN rfl) (X 9 rfl d (lE rfl rfl rfl) (X 10 rfl d (J5 (k:=.i64) (a:=(wi0 .i64 a0)) (b:=16) (v:=(.int .i64 (wi0 .i64 (Int.tdiv (wi0 .i64 a0) 16)))) rfl rfl dc rfl) (X 11 rfl d (lE rfl rfl rfl) (X 12 rfl d (kJ pS rfl) (XH 13 rfl d (λ_ p=>kF rfl (kV p Mh rfl eZ)) ?_))))))))))))))
  refine bS g λY K g=>XE 14 rfl (Eg n call39 (N (.slice y c.Kids.length B) c.Kids _ _ (H.mono kT.mono n.kG) K) (λa3 n=>?_))
  have d:=n.has.kB (Kb Sn)
  refine ⟨d,(X 15 rfl d (lE rfl rfl rfl) (X 16 rfl d (lE rfl rfl rfl) (X 17 rfl d (mU rfl) (lH kr (lI (kP ?_))))))⟩
  replace n:=n.kB (Db St)
  exact ⟨q,(wi0 .i64 (x+(wi0 .i64 ((wi0 .i64 (1+(wi0 .i64 (Int.tdiv (wi0 .i64 a0) 16))))+Y)))),_,⟨rfl,L⟩,(n.kB St),rfl,G,(by rw [U]; exact g)⟩
 rintro E W ⟨x,z,⟨q,L⟩,n,D,G,g⟩
 rw [aO] at g
 exact kP (sg (Wh D (Wa (lt (rQ g n)))))
theorem ze:∀(n:Nat) (a:Value) (c:List Formula) (r:Int) (w:World) (g:Sl kD 5 (hp w) a c) (_:qu n c=some r),
  la false pg0 39 [a] w (.int .i64 r)
 | 0=>by intros; rename_i h; simp only [qu] at h; cases h
 | n+1=>Gj (qu n) (ze n)
set_option maxHeartbeats 4000000 in
theorem wT (x:lZ) (J N:Value) (r:Int) (w:World) (y:Sl kX 15 (hp w) J x.kM) (G:Sl ls 8 (hp w) N x.kU) (hm:xc x=some r) :
  la false pg0 38 [(.agg #[(.string x.Name),J,N])] w (.int .i64 r):=by
 refine cG 61 func38 rfl (λd=>sg ?_)
 obtain ⟨A1,c2,rfl⟩:=y.form
 obtain ⟨A3,c4,rfl⟩:=G.form
 let g6:=(C4 x.Name A1 x.kM.length c2 A3 x.kU.length c4)
 refine VE (ly d rfl (λW6 P d=>Wa (lr (Wf vE (VB d Mh rfl rfl bT (V (pL bN rfl) (Wa (lS ?_))))))))
 refine Wf sV (VB d Mh rfl rfl gL (V (mx cS rfl y) (Wm (ln (mj (λi E W=>∃I b1,(E 14= .int .i64 (i:Nat)∧E 13= .int .i64 (x.kM.length:Nat))∧ST false lD w W (hp w) ((P,Ol g6 25)::b1)∧E 1=(.pointer (some ⟨P,0,none⟩))∧E 3=(.int .i64 I)∧E 12=(.slice A1 x.kM.length c2)∧tm x (x.kM.drop i) I=some r) x.kM.length y.len ⟨(x.Name.size:Int),_,⟨rfl,rfl⟩,(d.kB St),rfl,rfl,rfl,hm⟩ dc dc dc (λ_ _ _ h=>by obtain ⟨_,_,A,_⟩:=h; exact A) ?_ ?_)))))
 ·rintro d5 E W e1 ⟨I,b1,⟨s,L⟩,d,U,M,Y,H⟩
  obtain ⟨a,h9,e9,e8,f0⟩:=lX e1
  rw [e9] at H
  refine bg (VQ (mo (i:=(d5:Int)) (x0:=a) kX.out cS cO Y s y (aM _) e8) (λj4 ⟨_,⟨j8,j9,rfl,Q,T⟩,e2⟩=>V (kF rfl (lx d.has e2 fP cO)) (VE (lT d fL (λi0 f4 d=>?_)))))
  obtain ⟨t,u,rfl⟩:=Q.form
  let g5:Value:=(.slice t a.Signed.Tag.length u)
  let b8:=(Pq a.Signed.kC.Kind a.Signed.kC.Head.kA a.Signed.kC.Head.Word a.Signed.kC.mC a.Signed.kC.B.kA a.Signed.kC.B.Word a.Signed.kC.C.kA a.Signed.kC.C.Word a.Signed.kC.mA t a.Signed.Tag.length u)
  obtain ⟨g,j,rfl⟩:=T.form
  let d9:Value:=(.slice g a.kE.Kids.length j)
  let v:=(C2 a.kE.Op a.kE.K a.kE.kz.kA a.kE.kz.Word g a.kE.Kids.length j)
  let a0:=(C3 a.Signed.kC.Kind a.Signed.kC.Head.kA a.Signed.kC.Head.Word a.Signed.kC.mC a.Signed.kC.B.kA a.Signed.kC.B.Word a.Signed.kC.C.kA a.Signed.kC.C.Word a.Signed.kC.mA t a.Signed.Tag.length u a.kE.Op a.kE.K a.kE.kz.kA a.kE.kz.Word g a.kE.Kids.length j)
  refine VO (lp (.agg a0.toArray) (a0.toArray) d rfl rfl cO oc nb rfl (λi1 d=>ln ?_))
  replace d:=d.drew
  have n:=d.has.kB (Kb Sn)
  refine lC n lj (X 0 rfl n (kH M) (X 1 rfl n (kJ vg rfl) (XH 2 rfl n (λ_ q=>kF rfl (kL q Mh b8 rfl isAgg55 jR)) (X 5 rfl n (kJ Cy rfl) (XH 6 rfl n (λ_ q=>kF rfl (kL q Mh v rfl aZ aG)) (PJ H (λb4 E W=>∃O b2 b9,ST false lD w W (hp w) ((f4,Ol a0 57)::((P,Ol g6 25)::(b2++b9)))∧E 1=(.pointer (some ⟨P,0,none⟩))∧E 3=(.int .i64 I)∧E 12=(.slice A1 x.kM.length c2)∧E 13=(.int .i64 (x.kM.length:Int))∧E 14=(.int .i64 (d5:Int))∧E 18=(.int .i64 I)∧E 22=(.int .i64 b4.1)∧E 25=O∧ml 30 kD 5 (hp w) O b4.2 b2) (bm 13 255) 5 ?_ (λb4 z Z=>?_)))))))
  ·rintro ⟨g7,g3⟩ E W ⟨O,b2,b9,d,f6,j3,f7,f8,f9,g0,g1,g2,e7⟩ R
   refine bS R λg4 e3 R=>XE 8 rfl (Eg d call39 ((ze li) O g3 _ _ (e7.sl kT d.kG (λb o p=>d.at_ (Mt (Mt (Ml p))))) e3) (λi2 d=>?_) (ha:=Nk g2))
   have n:=d.has.kB (Kb Sn)
   refine ⟨n,(X 9 rfl n (lE rfl rfl rfl) (X 10 rfl n (lE g1 rfl rfl) (X 11 rfl n (lE g0 rfl rfl) (X 12 rfl n (mU rfl) (lH kr (lI (kP ?_)))))))⟩
   replace d:=d.kB (Db (Kb (Dr St)))
   exact ⟨f9,(wi0 .i64 (I+(wi0 .i64 (g7+(wi0 .i64 (20*g4)))))),_,⟨rfl,f8⟩,(d.kB St),f6,rfl,f7,(by rw [f0]; exact R)⟩
  refine D8 3 7 rfl rfl kr (.inl rfl) (.inl rfl) rfl rfl dc dc ?_ ?_
  ·refine lJ (cs:=b8.toArray) d (nL rfl) (oa jW jR ko) (λi3 b3 d=>?_)
   let d8:Value:=(.slice (some ⟨b3,0,none⟩) 1 1)
   have n:=d.has.kB (Db (Kb Sn))
   refine ⟨n,(D8 4 7 rfl rfl kr (.inl rfl) (.inl rfl) rfl rfl dc dc ?_ ?_)⟩
   ·refine bS z λj5 e4 z=>Gy (args:=[(.slice none 0 0),d8]) d rfl call40 (by exact qJ rfl rfl) (la.mK (yS (.slice none 0 0) ([]) d8 ([a.Signed]) _ _ (Sl.nil _ _ _) ((ml.lit BS (l:=[a.Signed]) (.cons (ys:=Pq a.Signed.kC.Kind a.Signed.kC.Head.kA a.Signed.kC.Head.Word a.Signed.kC.mC a.Signed.kC.B.kA a.Signed.kC.B.Word a.Signed.kC.C.kA a.Signed.kC.C.Word a.Signed.kC.mA t a.Signed.Tag.length u) (uI.mk ⟨g5,rfl,Q⟩) .nil) rfl nb rfl).sl BS d.kG (λb o p=>(by rw [bH] at p; cases p; exact d.at_ Mh))) e4)) (λi4 d=>?_)
    have n:=d.has.kB (Db (Kb Sn))
    refine ⟨n,(XE 7 rfl (lJ (cs:=v.toArray) d (nL rfl) (oa aH aG bG) (λi5 c0 d=>?_)))⟩
    have n:=d.has.kB (Db (Db (Kb Sn)))
    refine ⟨n,?_⟩
    obtain rfl:=sj z
    replace d:=d.F4
    refine nf kr (Z _ _ ⟨(.slice (some ⟨c0,0,none⟩) 1 1),[(c0,Ol v 30)],_,(d.kB (Sb (Pr (Pb Pz)) (Sb (Pr (Pb Pz)) (Kr (Db St))))),U,M,Y,L,s,rfl,rfl,rfl,(ml.lit kT (l:=[a.kE]) (.cons (ys:=C2 a.kE.Op a.kE.K a.kE.kz.kA a.kE.kz.Word g a.kE.Kids.length j) (kD.mk ⟨d9,rfl,T⟩) .nil) rfl nb rfl)⟩)
   ·refine lJ (cs:=v.toArray) d (nL rfl) (oa aH aG bG) (λi6 c1 d=>?_)
    have n:=d.has.kB (Db (Db (Kb Sn)))
    refine ⟨n,(bS z λj6 e5 z=>XE 4 rfl (Eg d call40 (la.mK (yS (.slice none 0 0) ([]) d8 ([a.Signed]) _ _ (Sl.nil _ _ _) ((ml.lit BS (l:=[a.Signed]) (.cons (ys:=Pq a.Signed.kC.Kind a.Signed.kC.Head.kA a.Signed.kC.Head.Word a.Signed.kC.mC a.Signed.kC.B.kA a.Signed.kC.B.Word a.Signed.kC.C.kA a.Signed.kC.C.Word a.Signed.kC.mA t a.Signed.Tag.length u) (uI.mk ⟨g5,rfl,Q⟩) .nil) rfl nb rfl).sl BS d.kG (λb o p=>(by rw [bH] at p; cases p; exact d.at_ (Mt Mh)))) e5)) (λi7 d=>?_)))⟩
    have n:=d.has.kB (Db (Db (Kb Sn)))
    refine ⟨n,?_⟩
    obtain rfl:=sj z
    replace d:=d.F4
    refine nf kr (Z _ _ ⟨(.slice (some ⟨c1,0,none⟩) 1 1),[(c1,Ol v 30)],_,(d.kB (Sb (Pr (Pb Pz)) (Sb (Pr (Pb Pz)) (Kr (Db St))))),U,M,Y,L,s,rfl,rfl,rfl,(ml.lit kT (l:=[a.kE]) (.cons (ys:=C2 a.kE.Op a.kE.K a.kE.kz.kA a.kE.kz.Word g a.kE.Kids.length j) (kD.mk ⟨d9,rfl,T⟩) .nil) rfl nb rfl)⟩)
  ·refine lJ (cs:=v.toArray) d (nL rfl) (oa aH aG bG) (λi8 c3 d=>?_)
   have n:=d.has.kB (Db (Kb Sn))
   refine ⟨n,(XE 3 rfl (lJ (cs:=b8.toArray) d (nL rfl) (oa jW jR ko) (λi9 f5 d=>?_)))⟩
   have n:=d.has.kB (Db (Db (Kb Sn)))
   refine ⟨n,(bS z λj7 e6 z=>XE 4 rfl (Eg d call40 (la.mK (yS (.slice none 0 0) ([]) (.slice (some ⟨f5,0,none⟩) 1 1) ([a.Signed]) _ _ (Sl.nil _ _ _) ((ml.lit BS (l:=[a.Signed]) (.cons (ys:=Pq a.Signed.kC.Kind a.Signed.kC.Head.kA a.Signed.kC.Head.Word a.Signed.kC.mC a.Signed.kC.B.kA a.Signed.kC.B.Word a.Signed.kC.C.kA a.Signed.kC.C.Word a.Signed.kC.mA t a.Signed.Tag.length u) (uI.mk ⟨g5,rfl,Q⟩) .nil) rfl nb rfl).sl BS d.kG (λb o p=>(by rw [bH] at p; cases p; exact d.at_ Mh))) e6)) (λj0 d=>?_)))⟩
   have n:=d.has.kB (Db (Db (Kb Sn)))
   refine ⟨n,?_⟩
   obtain rfl:=sj z
   replace d:=d.perm (Nb (Pb Pz) Nz)
   replace d:=d.F4
   refine nf kr (Z _ _ ⟨(.slice (some ⟨c3,0,none⟩) 1 1),[(c3,Ol v 30)],_,(d.kB (Sb (Pr (Pb Pz)) (Sb (Pr (Pb Pz)) (Kr (Db St))))),U,M,Y,L,s,rfl,rfl,rfl,(ml.lit kT (l:=[a.kE]) (.cons (ys:=C2 a.kE.Op a.kE.K a.kE.kz.kA a.kE.kz.Word g a.kE.Kids.length j) (kD.mk ⟨d9,rfl,T⟩) .nil) rfl nb rfl)⟩)
 rintro E W ⟨I,b1,⟨s,L⟩,d,U,M,Y,H⟩
 rw [aO] at H
 refine kP (kQ (sg (V (kJ uY U) (VB d Mh rfl rfl ie (V (mx cH rfl G) (Wm (ln ?_)))))))
 replace d:=d.kB (Db St)
 refine CJ H (λa7 E W=>∃b6,ST false lD w W (hp w) b6∧E 3=(.int .i64 a7)) (λa7 c8=>?_) ?_
 ·refine mj (λi E W=>∃K a2,(E 34= .int .i64 (i:Nat)∧E 33= .int .i64 (x.kU.length:Nat))∧ST false lD w W (hp w) a2∧E 3=(.int .i64 K)∧E 32=(.slice A3 x.kU.length c4)∧tC (x.kU.drop i) K=some a7) x.kU.length G.len ⟨I,_,⟨rfl,rfl⟩,(d.kB St),M,rfl,c8⟩ dc dc dc (λ_ _ _ h=>by obtain ⟨_,_,A,_⟩:=h; exact A) ?_ ?_
  ·rintro f1 E W c6 ⟨K,a2,⟨s,L⟩,d,a4,a5,k⟩
   obtain ⟨c,g8,d3,d2,d4⟩:=lX c6
   rw [d3] at k
   refine bg (VQ (mo (i:=(f1:Int)) (x0:=c) ls.out cH cD a5 s G (aM _) d2) (λh5 ⟨_,⟨h6,h7,rfl,a9,b0⟩,c9⟩=>V (kF rfl (lx d.has c9 fB cD)) (VE (lT d fQ (λg9 h4 d=>?_)))))
   obtain ⟨B,D,rfl⟩:=a9.form
   let d6:=(C2 c.kE.Op c.kE.K c.kE.kz.kA c.kE.kz.Word B c.kE.Kids.length D)
   obtain ⟨a1,a3,rfl⟩:=b0.form
   let c5:=(C5 c.kz.kA c.kz.Word c.kE.Op c.kE.K c.kE.kz.kA c.kE.kz.Word B c.kE.Kids.length D a1 c.lN.length a3)
   refine VO (lp (.agg c5.toArray) (c5.toArray) d rfl rfl cD oc nb rfl (λh0 d=>ln ?_))
   replace d:=d.drew
   have n:=d.has.kB (Kb Sn)
   refine lC n lj (X 0 rfl n (kH a4) (X 1 rfl n (kJ ya rfl) (X 2 rfl n (kJ qR rfl) (XH 3 rfl n (λ_ q=>kF rfl (kV q Mh rfl bT)) (X 4 rfl n (pL bN rfl) (X 5 rfl n (kJ ya rfl) (X 6 rfl n (kJ sU rfl) (XH 7 rfl n (λ_ q=>kF rfl (kV q Mh rfl bT)) (X 8 rfl n (pL bN rfl) (X 9 rfl n (lE rfl rfl rfl) (X 10 rfl n (kJ AG rfl) (XH 11 rfl n (λ_ q=>kF rfl (kL q Mh d6 rfl aZ aG)) (X 16 rfl n (kJ zt rfl) (XH 17 rfl n (λ_ q=>kF rfl (kV q Mh rfl iZ)) ?_))))))))))))))
   refine XE 12 rfl (lJ (cs:=d6.toArray) d (nL rfl) (oa aH aG bG) (λh1 d7 d=>?_))
   have n:=d.has.kB (Db (Kb Sn))
   refine ⟨n,(bS k λf2 d0 k=>XE 13 rfl (Eg d call39 ((ze li) (.slice (some ⟨d7,0,none⟩) 1 1) ([c.kE]) _ _ ((ml.lit kT (l:=[c.kE]) (.cons (ys:=C2 c.kE.Op c.kE.K c.kE.kz.kA c.kE.kz.Word B c.kE.Kids.length D) (kD.mk ⟨(.slice B c.kE.Kids.length D),rfl,a9⟩) .nil) rfl nb rfl).sl kT d.kG (λb o p=>(by rw [bH] at p; cases p; exact d.at_ Mh))) d0) (λh2 d=>?_)))⟩
   have n:=d.has.kB (Db (Kb Sn))
   refine ⟨n,(X 14 rfl n (lE rfl rfl rfl) (X 15 rfl n (lE rfl rfl rfl) (bS k λf3 d1 k=>XE 18 rfl (Eg d call108 (la.mK (Fh (.slice a1 c.lN.length a3) c.lN _ _ (b0.mono (Pl.mono _) d.kG) d1)) (λh3 d=>?_)))))⟩
   have n:=d.has.kB (Db (Kb Sn))
   refine ⟨n,(X 19 rfl n (lE rfl rfl rfl) (X 20 rfl n (lE rfl rfl rfl) (X 21 rfl n (mU rfl) (lH kr (lI (kP ?_))))))⟩
   replace d:=d.kB (Db (Db St))
   exact ⟨s,(wi0 .i64 (K+(wi0 .i64 ((wi0 .i64 ((wi0 .i64 ((c.kz.kA.size:Int)+(c.kz.Word.size:Int)))+(wi0 .i64 (20*f2))))+f3)))),_,⟨rfl,L⟩,(d.kB St),rfl,a5,(by rw [d4]; exact k)⟩
  rintro E W ⟨K,a2,⟨s,L⟩,d,a4,a5,k⟩
  rw [aO] at k
  refine kP ?_
  obtain rfl:=sj k
  exact ⟨_,(d.kB St),a4⟩
 rintro h8 E W ⟨b6,d,e0⟩ c7
 exact sg (Wh e0 (Wa (lt (rQ c7 d))))
theorem Fl (a:nA) (B D x z y J:Value) (r:Int) (w:World) (t:Sl kX 15 (hp w) B a.kA.kM) (u:Sl ls 8 (hp w) D a.kA.kU) (c:Sl kX 15 (hp w) x a.Client.kM) (i:Sl ls 8 (hp w) z a.Client.kU) (g:Sl kD 5 (hp w) y a.Formula.Kids) (I:Sl oF 2 (hp w) J a.Keys) (hm:xd a=some r) :
  la false pg0 11 [(.agg #[(.string a.kA.Name),B,D,(.string a.Client.Name),x,z,(.int .i64 a.Formula.Op),(.int .i64 a.Formula.K),(.string a.Formula.kz.kA),(.string a.Formula.kz.Word),y,(.int .i64 a.oA),(.int .i64 a.lA.oH),(.int .i64 a.lA.ow),(.int .i64 a.my),(.int .i64 a.nz),(.int .i64 a.mW),J])] w (.int .i64 r):=by
 refine cG 20 func11 rfl (λd=>sg ?_)
 obtain ⟨A1,c2,rfl⟩:=t.form
 obtain ⟨A3,q,rfl⟩:=u.form
 let a3:=(C4 a.kA.Name A1 a.kA.kM.length c2 A3 a.kA.kU.length q)
 obtain ⟨N,U,rfl⟩:=c.form
 let a5:Value:=(.slice N a.Client.kM.length U)
 obtain ⟨Q,Y,rfl⟩:=i.form
 let b8:Value:=(.slice Q a.Client.kU.length Y)
 let a4:=(C4 a.Client.Name N a.Client.kM.length U Q a.Client.kU.length Y)
 obtain ⟨G,k,rfl⟩:=g.form
 let v:Value:=(.slice G a.Formula.Kids.length k)
 let a0:=(C2 a.Formula.Op a.Formula.K a.Formula.kz.kA a.Formula.kz.Word G a.Formula.Kids.length k)
 obtain ⟨s,a2,rfl⟩:=I.form
 refine VE (ly d rfl (λe8 c7 d=>Wa (ln (kQ ?_))))
 replace d:=d.drew
 have n:=d.has.kB (Kb Sn)
 refine lC n lj (X 0 rfl n (kJ uX rfl) (XH 1 rfl n (λ_ p=>kF rfl (kL p Mh a3 rfl dJ cV)) (X 3 rfl n (kJ sW rfl) (XH 4 rfl n (λ_ p=>kF rfl (kL p Mh a4 rfl dJ cV)) (X 7 rfl n (kJ Ad rfl) (XH 8 rfl n (λ_ p=>kF rfl (kL p Mh a0 rfl aZ aG)) (X 13 rfl n (kJ wY rfl) (XH 14 rfl n (λ_ p=>kF rfl (kV p Mh rfl iQ)) (PJ hm (λZ E W=>∃M T A,ST false lD w W (hp w) ((c7,Ol (C1 a.kA.Name A1 a.kA.kM.length c2 A3 a.kA.kU.length q a.Client.Name N a.Client.kM.length U Q a.Client.kU.length Y a.Formula.Op a.Formula.K a.Formula.kz.kA a.Formula.kz.Word G a.Formula.Kids.length k a.oA a.lA.oH a.lA.ow a.my a.nz a.mW s a.Keys.length a2) 34)::(T++A))∧E 2=(.int .i64 0)∧E 9=(.int .i64 Z.1)∧E 12=M∧E 17=(.slice s a.Keys.length a2)∧ml 30 kD 5 (hp w) M Z.2 T) (bm 18 25599) 6 ?_ (λZ j K=>?_))))))))))
 ·rintro ⟨e7,c5⟩ E W ⟨M,T,A,d,d9,c0,c1,c3,b9⟩ H
  refine bS H λe0 P H=>XE 10 rfl (Eg d call39 ((ze li) M c5 _ _ (b9.sl kT d.kG (λb o hq=>d.at_ (Mt (Ml hq)))) P) (λc9 d=>?_) (ha:=Nk c1))
  have n:=d.has.kB (Kb Sn)
  refine ⟨n,(X 11 rfl n (lE rfl rfl rfl) (X 12 rfl n (lE c0 rfl rfl) (bS H λe1 R H=>XE 15 rfl (Eg d call40 (la.mK (yS (.slice s a.Keys.length a2) a.Keys (.slice none 0 0) ([]) _ _ (I.mono xi.mono d.kG) (Sl.nil _ _ _) R)) (λd0 d=>?_) (ha:=Su c3 rfl)))))⟩
  have n:=d.has.kB (Kb Sn)
  refine ⟨n,(X 16 rfl n (lE rfl rfl rfl) (X 17 rfl n (mU rfl) (lH kr (kP ?_))))⟩
  exact lB (rQ H d)
 refine D8 2 9 rfl rfl kr (.inl rfl) (.inl rfl) rfl rfl dc dc ?_ ?_
 ·refine bS j λe2 b3 j=>Gy (args:=[(.agg a3.toArray)]) d rfl call38 (by exact pk rfl) (wT a.kA (.slice A1 a.kA.kM.length c2) (.slice A3 a.kA.kU.length q) _ _ (t.mono lg.mono d.kG) (u.mono mf.mono d.kG) b3) (λd1 d=>?_)
  have n:=d.has.kB (Kb Sn)
  refine ⟨n,(D8 5 9 rfl rfl kr (.inl rfl) (.inl rfl) rfl rfl dc dc ?_ ?_)⟩
  ·refine bS j λe3 b4 j=>Gy (args:=[(.agg a4.toArray)]) d rfl call38 (by exact pk rfl) (wT a.Client a5 b8 _ _ (c.mono lg.mono d.kG) (i.mono mf.mono d.kG) b4) (λd2 d=>?_)
   have n:=d.has.kB (Kb Sn)
   refine ⟨n,(X 6 rfl n (lE rfl rfl rfl) (XE 9 rfl (lJ (cs:=a0.toArray) d (nL rfl) (oa aH aG bG) (λd3 L d=>?_))))⟩
   have n:=d.has.kB (Db (Kb Sn))
   refine ⟨n,?_⟩
   obtain rfl:=sj j
   replace d:=d.F4
   refine nf kr (K _ _ ⟨(.slice (some ⟨L,0,none⟩) 1 1),[(L,Ol a0 30)],_,(d.kB (Sb (Pr Pz) St)),rfl,rfl,rfl,rfl,(ml.lit kT (l:=[a.Formula]) (.cons (ys:=C2 a.Formula.Op a.Formula.K a.Formula.kz.kA a.Formula.kz.Word G a.Formula.Kids.length k) (kD.mk ⟨v,rfl,g⟩) .nil) rfl nb rfl)⟩)
  ·refine lJ (cs:=a0.toArray) d (nL rfl) (oa aH aG bG) (λd4 a9 d=>?_)
   have n:=d.has.kB (Db (Kb Sn))
   refine ⟨n,(bS j λe4 b5 j=>XE 5 rfl (Eg d call38 (wT a.Client a5 b8 _ _ (c.mono lg.mono d.kG) (i.mono mf.mono d.kG) b5) (λd5 d=>?_)))⟩
   have n:=d.has.kB (Db (Kb Sn))
   refine ⟨n,(X 6 rfl n (lE rfl rfl rfl) ?_)⟩
   obtain rfl:=sj j
   replace d:=d.F4
   refine nf kr (K _ _ ⟨(.slice (some ⟨a9,0,none⟩) 1 1),[(a9,Ol a0 30)],_,(d.kB (Sb (Pr Pz) St)),rfl,rfl,rfl,rfl,(ml.lit kT (l:=[a.Formula]) (.cons (ys:=C2 a.Formula.Op a.Formula.K a.Formula.kz.kA a.Formula.kz.Word G a.Formula.Kids.length k) (kD.mk ⟨v,rfl,g⟩) .nil) rfl nb rfl)⟩)
 ·refine lJ (cs:=a0.toArray) d (nL rfl) (oa aH aG bG) (λd6 O d=>?_)
  have n:=d.has.kB (Db (Kb Sn))
  refine ⟨n,(bS j λe5 b6 j=>XE 2 rfl (Eg d call38 (wT a.kA (.slice A1 a.kA.kM.length c2) (.slice A3 a.kA.kU.length q) _ _ (t.mono lg.mono d.kG) (u.mono mf.mono d.kG) b6) (λd7 d=>?_)))⟩
  have n:=d.has.kB (Db (Kb Sn))
  refine ⟨n,(bS j λe6 b7 j=>XE 5 rfl (Eg d call38 (wT a.Client a5 b8 _ _ (c.mono lg.mono d.kG) (i.mono mf.mono d.kG) b7) (λd8 d=>?_)))⟩
  have n:=d.has.kB (Db (Kb Sn))
  refine ⟨n,(X 6 rfl n (lE rfl rfl rfl) ?_)⟩
  obtain rfl:=sj j
  replace d:=d.F4
  refine nf kr (K _ _ ⟨(.slice (some ⟨O,0,none⟩) 1 1),[(O,Ol a0 30)],_,(d.kB (Sb (Pr Pz) St)),rfl,rfl,rfl,rfl,(ml.lit kT (l:=[a.Formula]) (.cons (ys:=C2 a.Formula.Op a.Formula.K a.Formula.kz.kA a.Formula.kz.Word G a.Formula.Kids.length k) (kD.mk ⟨v,rfl,g⟩) .nil) rfl nb rfl)⟩)
theorem BK (a:Value) (g:List mn) (c:Value) (i:mn→Option Bool) (r:Bool) (w:World) (j:Sl ls 8 (hp w) a g) (k:ud pg0 c (hp w) (qn ls) (λ(r:Bool)=>(.bool r)) i) (hm:sh g i=some r) :
  la false pg0 203 [a,c] w (.bool r):=by
 refine cG 9 func203 rfl (λd=>sg (Wa (lr (Wm (Wm (bS hm λx t hm=>VE (Eg d call147 (vN a g c i _ _ (j.mono mf.mono d.kG) (k.mono d.kG) t) (λu d=>Wi rfl (Wa (lu ?_))))))))))
 exact kP (lB (rQ hm d))
theorem Ib (c:mn) (a i:Value) (r:Bool) (w:World) (j:Sl kD 5 (hp w) a c.kE.Kids) (g:Sl (Pl kI) 9 (hp w) i c.lN) (hm:xm c=some r) :
  la true pg0 204 [(.agg #[(.string c.kz.kA),(.string c.kz.Word),(.int .i64 c.kE.Op),(.int .i64 c.kE.K),(.string c.kE.kz.kA),(.string c.kE.kz.Word),a,i])] w (.bool r):=by
 refine cG 7 func204 rfl (λd=>sg ?_)
 obtain ⟨k,u,rfl⟩:=j.form
 obtain ⟨t,x,rfl⟩:=g.form
 refine VE (ly d rfl (λy z d=>Wa (lr (Wf zt (VB d Mh rfl rfl iZ (V (mx aX rfl g) (Wi rfl (Wa (ln ?_)))))))))
 exact lB (rQ hm d)
theorem KM (u:lZ) (k t:Value) (r:Bool) (w:World) (j:Sl kX 15 (hp w) k u.kM) (c:Sl ls 8 (hp w) t u.kU) (hm:Ap u=some r) :
  la false pg0 132 [(.agg #[(.string u.Name),k,t])] w (.bool r):=by
 refine cG 18 func132 rfl (λd=>sg ?_)
 obtain ⟨T,Z,rfl⟩:=j.form
 obtain ⟨J,K,rfl⟩:=c.form
 refine VE (ly d rfl (λW6 Y d=>Wa (lr (Wf sV (VB d Mh rfl rfl gL (V (mx cS rfl j) (Wi rfl (Wm (LJ hm (λI E W=>∃U,ST false lD w W (hp w) ((Y,Ol (C4 u.Name T u.kM.length Z J u.kU.length K) 25)::U)∧E 1=(.pointer (some ⟨Y,0,none⟩))∧E 2=(.bool false)∧E 12=(.bool I)) 5 ?_ (λI y B=>?_))))))))))
 ·rintro x8 E W ⟨U,d,n,G,a2⟩ M
  refine Wh a2 (LJ M (λH E W=>∃D,ST false lD w W (hp w) D∧E 2=(.bool false)∧E 17=(.bool H)) 4 ?_ (λH i z=>?_))
  ·rintro P E W ⟨D,d,O,a3⟩ N
   exact Wg a3 (lt (rQ N d))
  refine bC i (λa i=>?_) (λa i=>?_)
  ·refine un a (un a (un a (V (lb (cB a) rfl) ?_)))
   obtain rfl:=sj i
   exact z _ _ ⟨_,(d.kB (Db St)),G,rfl⟩
  refine ug a (kJ uY n) (ug a (kF rfl (kV d.has Mh rfl ie)) (bS i λa9 Q i=>rU a (Eg d call203 (BK (.slice J u.kU.length K) u.kU (.func (.func 204) #[] #[]) (λ(x:mn)=>xm x) _ _ (c.mono mf.mono d.kG) ⟨204,#[],#[],rfl,call204,λW x vs r R p hm=>by obtain ⟨_,rfl,a4⟩:=p; obtain ⟨v,A,rfl,q,s⟩:=a4.out; exact (Ib x v A r W q s hm).mK⟩ Q) (λL d=>V (lf (cB a) rfl) ?_))))
  obtain rfl:=sj i
  exact z _ _ ⟨_,(d.kB (Db St)),G,rfl⟩
 refine bC y (λg y=>?_) (λg y=>?_)
 ·refine un g (un g (un g (un g (V (lb (cB g) rfl) ?_))))
  obtain rfl:=sj y
  exact B _ _ ⟨_,(d.kB St),rfl,rfl,rfl⟩
 refine ug g (kJ uY rfl) (ug g (kF rfl (kV d.has Mh rfl ie)) (ug g (mx cH rfl c) (ug g (lE rfl rfl rfl) (V (lf (cB g) rfl) ?_))))
 obtain rfl:=sj y
 exact B _ _ ⟨_,(d.kB St),rfl,rfl,rfl⟩
theorem Eo (a:Value) (g:List kC) (r:Bool) (w:World) (c:Sl (Pl kI) 9 (hp w) a g) (hm:wc g=some r) :
  la false pg0 205 [a] w (.bool r):=by
 refine cG 7 func205 rfl (λd=>sg (Wa (lr (Wm (bS hm λu t hm=>VE (As d call125 (Ii a g _ _ (c.mono (Pl.mono _) d.kG) t) (λD x G B d i n k=>Wm (bS hm λz j hm=>VE (Eg d call58 (la.mK (vk x u a g _ _ (k.sl mQ (λb o p=>d.at_ (Ml p))) (c.mono (Pl.mono _) (i.trans d.kG)) j)) (λy d=>Wa ?_))))))))))
 refine ln ?_
 exact lB (rQ hm d)
theorem JO (z:lZ) (x B:Value) (r:Bool) (w:World) (g:Sl kX 15 (hp w) x z.kM) (M:Sl ls 8 (hp w) B z.kU) (hm:BA z=some r) :
  la false pg0 133 [(.agg #[(.string z.Name),x,B])] w (.bool r):=by
 refine cG 33 func133 rfl (λd=>sg ?_)
 obtain ⟨A1,c2,rfl⟩:=g.form
 obtain ⟨A3,c4,rfl⟩:=M.form
 refine VE (ly d rfl (λW6 b5 d=>Wa (lr (Wa (lS (Wf sV (VB d Mh rfl rfl gL (V (mx cS rfl g) ?_))))))))
 refine Wm (ln ?_)
 replace d:=d.kB (Db St)
 refine mj (λi E W=>∃u H y T,(E 9= .int .i64 (i:Nat)∧E 8= .int .i64 (z.kM.length:Nat))∧ST false lD w W (hp w) (y++T)∧E 3=u∧E 7=(.slice A1 z.kM.length c2)∧lm 52 kI 9 u H y∧tf (z.kM.drop i) H=some r) z.kM.length g.len ⟨(.slice none 0 0),([]),[],_,⟨rfl,rfl⟩,(d.kB St),rfl,rfl,(lm.nil _ _ _),hm⟩ dc dc dc (λ_ _ _ h=>by obtain ⟨_,_,_,_,p,_⟩:=h; exact p) ?_ ?_
 ·rintro a3 E W O ⟨u,H,y,T,⟨n,q⟩,d,I,J,K,j⟩
  obtain ⟨a,d1,b3,b2,b4⟩:=lX O
  rw [b3] at j
  refine bg (VQ (mo (i:=(a3:Int)) (x0:=a) kX.out cS cO J n g (aM _) b2) (λe0 ⟨_,⟨e3,e4,rfl,Y,Z⟩,a9⟩=>V (kF rfl (lx d.has a9 fP cO)) (VE (lT d fL (λd3 a2 d=>?_)))))
  obtain ⟨Q,U,rfl⟩:=Y.form
  obtain ⟨D,G,rfl⟩:=Z.form
  let a0:=(C3 a.Signed.kC.Kind a.Signed.kC.Head.kA a.Signed.kC.Head.Word a.Signed.kC.mC a.Signed.kC.B.kA a.Signed.kC.B.Word a.Signed.kC.C.kA a.Signed.kC.C.Word a.Signed.kC.mA Q a.Signed.Tag.length U a.kE.Op a.kE.K a.kE.kz.kA a.kE.kz.Word D a.kE.Kids.length G)
  refine VO (lp (.agg a0.toArray) (a0.toArray) d rfl rfl cO oc nb rfl (λd4 d=>lS (Wf vg (Wf D6 (VB d Mh rfl rfl gI (V (mx cC rfl Y) (Wi rfl (Wm (LJ j (λa4 E W=>∃s,ST false lD w W (hp w) ((a2,Ol a0 57)::(y++s))∧E 3=u∧E 5=(.pointer (some ⟨a2,0,none⟩))∧E 7=(.slice A1 z.kM.length c2)∧E 8=(.int .i64 (z.kM.length:Int))∧E 9=(.int .i64 (a3:Int))∧E 23=(.bool a4)) 5 ?_ (λa4 t N=>?_))))))))))
  ·rintro e5 E W ⟨s,d,c1,c3,c5,c6,c7,c8⟩ k
   refine ln (CI k c8 (λA k=>?_) (λA k=>?_))
   ·refine sg (Wa (ln ?_))
    replace d:=d.kB (Db (Dr St))
    refine lB (lV (nU (lV (nU (lV ?_)))))
    obtain rfl:=sj k
    exact rP d
   refine kn (kR (Wh c1 (V (kJ vg c3) (Wf yD (VA d Mh (kI a.Signed.kC) cA aR (VE (lJ (cs:=(kI a.Signed.kC).toArray) d (nL rfl) (oa aX aR dT) (λd5 b9 d=>?_))))))))
   replace d:=d.perm (Nr (Qb (Qb Qz)) Nz)
   refine bS k λc9 L k=>VE (pK (enc:=kI) (v:=u) (vs:=(.slice (some ⟨b9,0,none⟩) 1 1)) (R:=y) d mQ dc qM aX qG.1 qG.2.1 rfl qG.2.2.1 qG.2.2.2 rfl rfl K (Sl.lit (enc:=kI) (l:=[a.Signed.kC]) mQ rfl nb rfl (d.at_ (Ma Mh))) L (λd6 d0 b7 d a5=>Wa (lu (lI (kP ?_)))))
   replace d:=d.kB (Kr (Db (Db St)))
   exact ⟨c7,d0,c9,b7,_,⟨rfl,c6⟩,(d.kB St),rfl,c5,a5,(by rw [b4]; exact k)⟩
  refine bC t (λc t=>?_) (λc t=>?_)
  ·refine un c (un c (un c (un c (V (lb (cB c) rfl) ?_))))
   obtain rfl:=sj t
   exact N _ _ ⟨_,(d.kB St),I,rfl,J,q,n,rfl⟩
  refine ug c (kJ Cy rfl) (ug c (kF rfl (kL d.has Mh (C2 a.kE.Op a.kE.K a.kE.kz.kA a.kE.kz.Word D a.kE.Kids.length G) rfl aZ aG)) (bS t λe1 P t=>rU c (Eg d kw (sv a.kE (.slice D a.kE.Kids.length G) _ _ (Z.mono kT.mono d.kG) P) (λd7 d=>ug c (nv rfl) (V (lf (cB c) rfl) ?_)))))
  obtain rfl:=sj t
  exact N _ _ ⟨_,(d.kB St),I,rfl,J,q,n,rfl⟩
 rintro E W ⟨u,H,y,T,⟨n,q⟩,d,I,J,K,j⟩
 rw [aO] at j
 refine kP (sg (Wh I (bS j λe2 b1 j=>VE (Eg d call205 (Eo u H _ _ (K.sl mQ (λb o hq=>d.at_ (Ml hq))) b1) (λd8 d=>Wa (ln ?_))))))
 exact lB (rQ j d)
theorem LL (x:Value) (T:List mn) (r:Bool) (w:World) (s:Sl ls 8 (hp w) x T) (hm:B0 T=some r) :
  la false pg0 134 [x] w (.bool r):=by
 refine cG 45 func134 rfl (λn=>sg (Wa (lS (Wm (V (mx cH rfl s) (Wm (ln (mj (λi E W=>∃a2,(E 7= .int .i64 (i:Nat)∧E 6= .int .i64 (T.length:Nat))∧ST false lD w W (hp w) a2∧E 0=x∧E 5=x∧um T (T.drop i) i=some r) T.length s.len ⟨_,⟨rfl,rfl⟩,(n.kB St),rfl,rfl,hm⟩ dc dc dc (λ_ _ _ h=>by obtain ⟨_,L,_⟩:=h; exact L) ?_ ?_))))))))
 ·rintro G E W c9 ⟨a2,⟨q,O⟩,n,a3,N,t⟩
  obtain ⟨a,g0,e1,e0,e2⟩:=lX c9
  rw [e1] at t
  refine bg (Wh q (VQ (mo (i:=(G:Int)) (x0:=a) ls.out cH cD N q s (aM _) e0) (λg9 ⟨_,⟨h6,h7,rfl,R,b1⟩,d3⟩=>V (kF rfl (lx n.has d3 fB cD)) (VE (lT n fQ (λg1 M n=>Wa ?_))))))
  let g5:Value:=(.int .i64 (T.length:Int))
  let b8:Value:=(.int .i64 (G:Int))
  obtain ⟨B,D,rfl⟩:=R.form
  obtain ⟨H,I,rfl⟩:=b1.form
  let a0:=(C5 a.kz.kA a.kz.Word a.kE.Op a.kE.K a.kE.kz.kA a.kE.kz.Word B a.kE.Kids.length D H a.lN.length I)
  refine VO (lp (.agg a0.toArray) (a0.toArray) n rfl rfl cD oc nb rfl (λg2 n=>ln (kQ ?_)))
  replace n:=n.drew
  have d:=n.has.kB (Kb Sn)
  refine lC d lj (X 0 rfl d (kJ ya rfl) (XH 1 rfl d (λ_ p=>kF rfl (kL p Mh (kN a.kz) rfl bI aP)) (bS t λh2 d6 t=>XE 2 rfl (Eg n jU (la.mK (tY a.kz _ _  d6)) (λg3 n=>?_)))))
  have d:=n.has.kB (Kb Sn)
  refine ⟨d,(X 3 rfl d (nv rfl) (X 4 rfl d (kH rfl) (PJ t (λc7 E W=>∃b3,ST false lD w W (hp w) ((M,Ol a0 132)::b3)∧E 0=x∧E 3=b8∧E 4=(.pointer (some ⟨M,0,none⟩))∧E 5=x∧E 6=g5∧E 7=b8∧E 21=(.bool c7)) (bm 32 1023) 22 ?_ (λc7 z P=>?_))))⟩
  ·rintro i0 E W ⟨b3,n,b7,b9,a4,c0,c1,c2,e3⟩ d0
   have d:=n.has.kB (Kb Sn)
   refine X 10 rfl d (kH e3) (PJ d0 (λc6 E W=>∃b4,ST false lD w W (hp w) ((M,Ol a0 132)::b4)∧E 0=x∧E 3=b8∧E 4=(.pointer (some ⟨M,0,none⟩))∧E 5=x∧E 6=g5∧E 7=b8∧E 27=(.bool c6)) (bm 32 65535) 16 ?_ (λc6 y Z=>?_))
   ·rintro f7 E W ⟨b4,n,Q,c3,e4,a5,v,A,e5⟩ d1
    have d:=n.has.kB (Kb Sn)
    refine X 16 rfl d (kH e5) (PJ d1 (λc4 E W=>∃b5,ST false lD w W (hp w) ((M,Ol a0 132)::b5)∧E 0=x∧E 5=x∧E 6=g5∧E 7=b8∧E 43=(.bool c4)) (bm 32 4294967295) 0 ?_ (λc4 K U=>?_))
    ·rintro i1 E W ⟨b5,n,e6,e7,e8,e9,f0⟩ J
     refine lH kr (kP ?_)
     replace n:=n.kB (Db St)
     refine CI J f0 (λc8 J=>?_) (λc8 J=>?_)
     ·refine sg (Wa (lt (nU (lV (nU (lV ?_))))))
      obtain rfl:=sj J
      exact rP n
     exact mM (lI (kP ⟨e9,_,⟨rfl,e8⟩,(n.kB St),e6,e7,(by rw [e2]; exact J)⟩))
    refine bC K (λg K=>?_) (λg K=>?_)
    ·refine Xn 17 rfl rfl (cB g) d (Xn 18 rfl rfl (cB g) d (Xn 19 rfl rfl (cB g) d (Xu 20 rfl rfl rfl d (Xu 21 rfl rfl rfl d (Xu 22 rfl rfl rfl d (Xu 23 rfl rfl rfl d (Xu 24 rfl rfl rfl d (Xu 25 rfl rfl rfl d (Xu 26 rfl rfl rfl d (Xu 27 rfl rfl rfl d (Xu 28 rfl rfl rfl d (Xu 29 rfl rfl rfl d (Xn 30 rfl rfl (cB g) d (X 31 rfl d (lb (cB g) rfl) ?_))))))))))))))
     obtain rfl:=sj K
     refine nf kr (U _ _ ⟨_,(n.kB St),Q,a5,v,A,rfl⟩)
    refine Xg 17 rfl rfl (cB g) d (kH c3) (Xg 18 rfl rfl (cB g) d (lE rfl rfl rfl) (Xg 19 rfl rfl (cB g) d (kH rfl) (PJ K (λc5 E W=>∃b6,ST false lD w W (hp w) ((M,Ol a0 132)::b6)∧E 0=x∧E 5=x∧E 6=g5∧E 7=b8∧E 28=(.bool f7)∧E 42=(.bool c5)) (bm 32 2147483647) 1 ?_ (λc5 u Y=>?_))))
    ·rintro i2 E W ⟨b6,n,f1,f2,f3,f4,f5,f6⟩ d2
     have d:=n.has.kB (Kb Sn)
     refine X 31 rfl d (lf (f5.trans (cB g)) f6) ?_
     obtain rfl:=sj d2
     refine nf kr (U _ _ ⟨_,(n.kB St),f1,f2,f3,f4,rfl⟩)
    refine bC u (λc u=>?_) (λc u=>?_)
    ·refine Xg 20 rfl rfl (cB c) d (kH Q) (Xg 21 rfl rfl (cB c) d (kH c3) (Xg 22 rfl rfl (cB c) d (lE rfl rfl rfl) (bS u λa9 b2 u=>np 23 rfl kr (.inr ⟨19,true,31,rfl,rfl,by decide,(cB c)⟩) rfl dc (λ_ _ h=>h) d (mo (i:=(wi0 .i64 ((G:Int)-1))) (x0:=a9) ls.out cH cD rfl rfl s (kZ b2) (kY b2)) (λh0 ⟨_,⟨h8,h9,rfl,f8,f9⟩,d4⟩=>np 24 rfl kr (.inr ⟨19,true,31,rfl,rfl,by decide,(cB c)⟩) rfl dc (λ_ _ h=>h) d (pE (kN a9.kz) ya rfl d4 rfl) (λh1 d5=>pu 25 rfl rfl (cB c) d (λ_ p=>kF rfl (lx p d5 bI aP)) (Xg 26 rfl rfl (cB c) d (kJ ya e4) (pu 27 rfl rfl (cB c) d (λ_ p=>kF rfl (kL p Mh (kN a.kz) rfl bI aP)) (bS u λh3 d7 u=>yq 28 rfl rfl (cB c) (Eg n call83 (la.mK (AF a9.kz a.kz _ _  d7)) (λg4 n=>?_))))))))))
     have d:=n.has.kB (Kb Sn)
     refine ⟨d,(Xg 29 rfl rfl (cB c) d (lE rfl rfl rfl) (Xg 30 rfl rfl (cB g) d (lb (cB c) rfl) ?_))⟩
     obtain rfl:=sj u
     refine nf kr (Y _ _ ⟨_,(n.kB St),Q,a5,v,A,rfl,rfl⟩)
    refine Xn 20 rfl rfl (cB c) d (Xn 21 rfl rfl (cB c) d (Xn 22 rfl rfl (cB c) d (Xn 23 rfl rfl (cB c) d (Xn 24 rfl rfl (cB c) d (Xn 25 rfl rfl (cB c) d (Xn 26 rfl rfl (cB c) d (Xn 27 rfl rfl (cB c) d (Xn 28 rfl rfl (cB c) d (Xn 29 rfl rfl (cB c) d (Xg 30 rfl rfl (cB g) d (lf (cB c) rfl) ?_))))))))))
    obtain rfl:=sj u
    refine nf kr (Y _ _ ⟨_,(n.kB St),Q,a5,v,A,rfl,rfl⟩)
   refine bC y (λk y=>?_) (λk y=>?_)
   ·refine Xn 11 rfl rfl (cB k) d (Xn 12 rfl rfl (cB k) d (Xn 13 rfl rfl (cB k) d (Xn 14 rfl rfl (cB k) d (X 15 rfl d (lb (cB k) rfl) ?_))))
    obtain rfl:=sj y
    refine nf kr (Z _ _ ⟨_,(n.kB St),b7,b9,a4,c0,c1,c2,rfl⟩)
   refine Xg 11 rfl rfl (cB k) d (kJ zt a4) (pu 12 rfl rfl (cB k) d (λ_ p=>kF rfl (kV p Mh rfl iZ)) (bS y λh4 d8 y=>yq 13 rfl rfl (cB k) (Eg n call205 (Eo (.slice H a.lN.length I) a.lN _ _ (b1.mono (Pl.mono _) n.kG) d8) (λg7 n=>?_))))
   have d:=n.has.kB (Kb Sn)
   refine ⟨d,(Xg 14 rfl rfl (cB k) d (nv rfl) (X 15 rfl d (lf (cB k) rfl) ?_))⟩
   obtain rfl:=sj y
   refine nf kr (Z _ _ ⟨_,(n.kB St),b7,b9,a4,c0,c1,c2,rfl⟩)
  refine bC z (λj z=>?_) (λj z=>?_)
  ·refine Xn 5 rfl rfl (cB j) d (Xn 6 rfl rfl (cB j) d (Xn 7 rfl rfl (cB j) d (Xn 8 rfl rfl (cB j) d (X 9 rfl d (lb (cB j) rfl) ?_))))
   obtain rfl:=sj z
   refine nf kr (P _ _ ⟨_,(n.kB St),a3,rfl,rfl,N,O,q,rfl⟩)
  refine Xg 5 rfl rfl (cB j) d (kJ AG rfl) (pu 6 rfl rfl (cB j) d (λ_ p=>kF rfl (kL p Mh (C2 a.kE.Op a.kE.K a.kE.kz.kA a.kE.kz.Word B a.kE.Kids.length D) rfl aZ aG)) (bS z λh5 d9 z=>yq 7 rfl rfl (cB j) (Eg n kw (sv a.kE (.slice B a.kE.Kids.length D) _ _ (R.mono kT.mono n.kG) d9) (λg8 n=>?_))))
  have d:=n.has.kB (Kb Sn)
  refine ⟨d,(Xg 8 rfl rfl (cB j) d (nv rfl) (X 9 rfl d (lf (cB j) rfl) ?_))⟩
  obtain rfl:=sj z
  refine nf kr (P _ _ ⟨_,(n.kB St),a3,rfl,rfl,N,O,q,rfl⟩)
 rintro E W ⟨a2,⟨q,O⟩,n,a3,N,t⟩
 rw [aO] at t
 exact kP (sg (Wa (lt (rQ t n))))
theorem Ax (a:Value) (g:List lh) (c:Value) (i:lh→Option Bool) (r:Bool) (w:World) (j:Sl kX 15 (hp w) a g) (k:ud pg0 c (hp w) (qn kX) (λ(r:Bool)=>(.bool r)) i) (hm:qN g i=some r) :
  la false pg0 207 [a,c] w (.bool r):=by
 refine cG 9 func207 rfl (λd=>sg (Wa (lr (Wm (Wm (bS hm λx t hm=>VE (Eg d call142 (uq a g c i _ _ (j.mono lg.mono d.kG) (k.mono d.kG) t) (λu d=>Wi rfl (Wa (lu ?_))))))))))
 exact kP (lB (rQ hm d))
theorem GV (a:lh) (g c:Value) (H:Nat) (y:ByteArray) (i:Value) (t:List lh) (j:Value) (x:List mn) (r:Bool) (w:World) (u:Sl (Pl (lP .u8)) 1 (hp w) g a.Signed.Tag) (k:Sl kD 5 (hp w) c a.kE.Kids) (B:Sl kX 15 (hp w) i t) (D:Sl ls 8 (hp w) j x) (I:At (hp w) (.pointer (some ⟨H,0,none⟩)) [(.string y),i,j]) (hm:vS a y t x=some r) :
  la false pg0 208 [(.agg #[(.int .i64 a.Signed.kC.Kind),(.string a.Signed.kC.Head.kA),(.string a.Signed.kC.Head.Word),(.string a.Signed.kC.mC),(.string a.Signed.kC.B.kA),(.string a.Signed.kC.B.Word),(.string a.Signed.kC.C.kA),(.string a.Signed.kC.C.Word),(.string a.Signed.kC.mA),g,(.int .i64 a.kE.Op),(.int .i64 a.kE.K),(.string a.kE.kz.kA),(.string a.kE.kz.Word),c]),(.pointer (some ⟨H,0,none⟩))] w (.bool r):=by
 refine cG 16 func208 rfl (λd=>sg ?_)
 obtain ⟨U,Z,rfl⟩:=u.form
 obtain ⟨Y,E,rfl⟩:=k.form
 refine VE (ly d rfl (λW6 A d=>Wa (lr (V (kF rfl (lx d.has I dJ cV)) (Wf vg (Wf yD (VA d Mh (kI a.Signed.kC) cA aR (bS hm λz Q hm=>?_))))))))
 refine VE (eD d (cM _) call124 (λp=>(Iy (⟨y,t,x⟩:lZ) i j a.Signed.kC _ _ p (B.mono lg.mono (lz.refl _)) (D.mono mf.mono (lz.refl _)) Q)) ?_ (L0:=[]))
 rintro _ q v a2 d T n ⟨s,G,rfl,N⟩
 obtain rfl:=G.symm
 refine Wm (Wx rfl (Wx rfl (VE (lT d bG (λa3 a5 d=>?_)))))
 obtain ⟨J,K,rfl⟩:=N.form
 refine VO (lp (.agg #[(.int .i64 ((z.1).Op)),(.int .i64 ((z.1).K)),(.string (((z.1).kz).kA)),(.string (((z.1).kz).Word)),(.slice J ((z.1).Kids).length K)]) (#[(.int .i64 ((z.1).Op)),(.int .i64 ((z.1).K)),(.string (((z.1).kz).kA)),(.string (((z.1).kz).Word)),(.slice J ((z.1).Kids).length K)]) d rfl rfl aG oc nb rfl (λa4 d=>Wa (ln ?_)))
 replace d:=d.kB (Db (Db St))
 exact sg (Wm (Wi rfl (Wa (lt (rQ hm d)))))
theorem I0 (c:lZ) (g j:Value) (r:Bool) (w:World) (a:Sl kX 15 (hp w) g c.kM) (i:Sl ls 8 (hp w) j c.kU) (hm:xZ c=some r) :
  la false pg0 135 [(.agg #[(.string c.Name),g,j])] w (.bool r):=by
 refine cG 8 func135 rfl (λd=>sg ?_)
 obtain ⟨k,u,rfl⟩:=a.form
 obtain ⟨y,z,rfl⟩:=i.form
 refine VE (ly d rfl (λI t d=>Wa (lr (Wf sV (VB d Mh rfl rfl gL (V (qz (by exact pk rfl) rfl) (bS hm λK D hm=>VE (Eg d call207 (Ax (.slice k c.kM.length u) c.kM (.func (.func 208) #[] #[(.pointer (some ⟨t,0,none⟩))]) (λ(x:lh)=>vS x c.Name c.kM c.kU) _ _ (a.mono lg.mono d.kG) ⟨208,#[],#[(.pointer (some ⟨t,0,none⟩))],rfl,call208,λW x vs r n p hm=>by obtain ⟨_,rfl,B⟩:=p; obtain ⟨G,H,rfl,q,s⟩:=B.out; exact GV x G H t c.Name (.slice k c.kM.length u) c.kM (.slice y c.kU.length z) c.kU r W q s (a.mono lg.mono (d.kG.trans n)) (i.mono mf.mono (d.kG.trans n)) (At.of (n _ _ (d.at_ Mh)) _ rfl) hm⟩ D) (λJ d=>V (nv rfl) (Wa (ln ?_)))))))))))
 exact lB (rQ hm d)
theorem E7 (a:lZ) (u x:Value) (r:Int) (w:World) (g:Sl kX 15 (hp w) u a.kM) (c:Sl ls 8 (hp w) x a.kU) (hm:wR a=some r) :
  la false pg0 59 [(.agg #[(.string a.Name),u,x])] w (.int .i64 r):=by
 refine cG 26 func59 rfl (λd=>sg ?_)
 obtain ⟨D,G,rfl⟩:=g.form
 let b8:Value:=(.slice D a.kM.length G)
 obtain ⟨z,B,rfl⟩:=c.form
 let a4:Value:=(.slice z a.kU.length B)
 let a0:=(C4 a.Name D a.kM.length G z a.kU.length B)
 refine VE (ly d rfl (λW6 n d=>Wa (ln (kQ (bg (Wf vE (VB d Mh rfl rfl bT (bS hm λr7 v hm=>VE (Eg d call93 (la.mK (vT a.Name _ _  v)) (λW9 d=>V (nv rfl) (Wa (lu ?_))))))))))))
 refine kP (CI hm rfl (λQ hm=>?_) (λQ hm=>?_))
 ·refine sg (Wa (ln ?_))
  replace d:=d.kB (Db St)
  refine lB (nU (lV ?_))
  obtain rfl:=sj hm
  exact rP d
 refine sg (VA d Mh a0 dJ cV (bS hm λP Z hm=>VE (Eg d call132 (KM a b8 a4 _ _ (g.mono lg.mono d.kG) (c.mono mf.mono d.kG) Z) (λa9 d=>Wa (ln (CI hm rfl (λT hm=>?_) (λT hm=>?_)))))))
 ·refine sg (Wa (ln ?_))
  replace d:=d.kB (Db St)
  refine lB (nU (lV ?_))
  obtain rfl:=sj hm
  exact rP d
 refine sg (VA d Mh a0 dJ cV (bS hm λR p hm=>VE (Eg d call133 (JO a b8 a4 _ _ (g.mono lg.mono d.kG) (c.mono mf.mono d.kG) p) (λA d=>V (nv rfl) (Wm (LJ hm (λN E W=>∃J,ST false lD w W (hp w) ((n,Ol a0 25)::J)∧E 1=(.pointer (some ⟨n,0,none⟩))∧E 20=(.bool N)) 5 ?_ (λN t I=>?_)))))))
 ·rintro b9 E W ⟨J,d,a5,q⟩ Y
  refine Wh q (LJ Y (λM E W=>∃K,ST false lD w W (hp w) K∧E 25=(.bool M)) 4 ?_ (λM k H=>?_))
  ·rintro c0 E W ⟨K,d,s⟩ y
   refine Wg s (ln (CI y rfl (λU y=>?_) (λU y=>?_)))
   ·refine sg (Wa (lt (nU (lV ?_))))
    obtain rfl:=sj y
    exact rP d
   exact mM (lI (kP (sg (Wa (lt (rQ y d))))))
  refine bC k (λj k=>?_) (λj k=>?_)
  ·refine un j (un j (un j (V (lb (cB j) rfl) ?_)))
   obtain rfl:=sj k
   exact H _ _ ⟨_,(d.kB (Db St)),rfl⟩
  refine ug j (kF a5 (kL d.has Mh a0 rfl dJ cV)) (bS k λb6 a2 k=>rU j (Eg d call135 (I0 a b8 a4 _ _ (g.mono lg.mono d.kG) (c.mono mf.mono d.kG) a2) (λL d=>ug j (nv rfl) (V (lf (cB j) rfl) ?_))))
  obtain rfl:=sj k
  exact H _ _ ⟨_,(d.kB (Db St)),rfl⟩
 refine bC t (λi t=>?_) (λi t=>?_)
 ·refine un i (un i (un i (un i (V (lb (cB i) rfl) ?_))))
  obtain rfl:=sj t
  exact I _ _ ⟨_,(d.kB St),rfl,rfl⟩
 refine ug i (kJ uY rfl) (ug i (kF rfl (kV d.has Mh rfl ie)) (bS t λb7 a3 t=>rU i (Eg d call134 (LL a4 a.kU _ _ (c.mono mf.mono d.kG) a3) (λO d=>ug i (nv rfl) (V (lf (cB i) rfl) ?_)))))
 obtain rfl:=sj t
 exact I _ _ ⟨_,(d.kB St),rfl,rfl⟩
theorem JV (I:Value) (Y:List nA) (r:Bool) (w:World) (M:Sl yi 18 (hp w) I Y) (hm:yR Y=some r) :
  la false pg0 24 [I] w (.bool r):=by
 refine cG 22 func24 rfl (λd=>sg (Wa (lS (Wm (V (mx underlying108 rfl M) (Wm (ln (mj (λi E W=>∃K,(E 7= .int .i64 (i:Nat)∧E 6= .int .i64 (Y.length:Nat))∧ST false lD w W (hp w) K∧E 5=I∧tD (Y.drop i)=some r) Y.length M.len ⟨_,⟨rfl,rfl⟩,(d.kB St),rfl,hm⟩ dc dc dc (λ_ _ _ h=>by obtain ⟨_,p,_⟩:=h; exact p) ?_ ?_))))))))
 ·rintro a5 E W L ⟨K,⟨n,q⟩,d,H,g⟩
  obtain ⟨a,c2,b5,b4,b6⟩:=lX L
  rw [b5] at g
  refine bg (VQ (mo (i:=(a5:Int)) (x0:=a) yi.out underlying108 dQ H n M (aM _) b4) (λc8 ⟨_,⟨d1,d2,d3,d4,d5,d6,rfl,N,Q,T,U,R,b3⟩,a9⟩=>V (kF rfl (lx d.has a9 fD dQ)) (VE (lT d jD (λc3 c7 d=>?_)))))
  obtain ⟨t,z,rfl⟩:=N.form
  obtain ⟨u,B,rfl⟩:=Q.form
  obtain ⟨x,D,rfl⟩:=T.form
  obtain ⟨y,G,rfl⟩:=U.form
  obtain ⟨Z,a3,rfl⟩:=R.form
  obtain ⟨v,a4,rfl⟩:=b3.form
  let a0:=(C1 a.kA.Name t a.kA.kM.length z u a.kA.kU.length B a.Client.Name x a.Client.kM.length D y a.Client.kU.length G a.Formula.Op a.Formula.K a.Formula.kz.kA a.Formula.kz.Word Z a.Formula.Kids.length a3 a.oA a.lA.oH a.lA.ow a.my a.nz a.mW v a.Keys.length a4)
  refine VO (lp (.agg a0.toArray) (a0.toArray) d rfl rfl dQ oc nb rfl (λc4 d=>lr (Wf uX (VA d Mh (C4 a.kA.Name t a.kA.kM.length z u a.kA.kU.length B) dJ cV (bS g λc9 O g=>VE (Eg d call59 (E7 a.kA (.slice t a.kA.kM.length z) (.slice u a.kA.kU.length B) _ _ (N.mono lg.mono d.kG) (Q.mono mf.mono d.kG) O) (λc5 d=>Wi rfl (Wm (LJ g (λs E W=>∃a2,ST false lD w W (hp w) a2∧E 5=I∧E 6=(.int .i64 (Y.length:Int))∧E 7=(.int .i64 (a5:Int))∧E 20=(.bool s)) 5 ?_ (λs j J=>?_))))))))))
  ·rintro d7 E W ⟨a2,d,b7,b9,c0,c1⟩ k
   refine ln (CI k c1 (λA k=>?_) (λA k=>?_))
   ·refine sg (Wa (lt (nU (lV (nU (lV ?_))))))
    obtain rfl:=sj k
    exact rP d
   exact mM (lI (kP ⟨c0,_,⟨rfl,b9⟩,(d.kB St),b7,(by rw [b6]; exact k)⟩))
  refine bC j (λc j=>?_) (λc j=>?_)
  ·refine un c (un c (un c (un c (V (lb (cB c) rfl) ?_))))
   obtain rfl:=sj j
   exact J _ _ ⟨_,(d.kB (Db St)),H,q,n,rfl⟩
  refine ug c (kJ sW rfl) (ug c (kF rfl (kL d.has Mh (C4 a.Client.Name x a.Client.kM.length D y a.Client.kU.length G) rfl dJ cV)) (bS j λd0 P j=>rU c (Eg d call59 (E7 a.Client (.slice x a.Client.kM.length D) (.slice y a.Client.kU.length G) _ _ (T.mono lg.mono d.kG) (U.mono mf.mono d.kG) P) (λc6 d=>ug c (lE rfl rfl rfl) (V (lf (cB c) rfl) ?_)))))
  obtain rfl:=sj j
  exact J _ _ ⟨_,(d.kB (Db St)),H,q,n,rfl⟩
 rintro E W ⟨K,⟨n,q⟩,d,H,g⟩
 rw [aO] at g
 exact kP (sg (Wa (lt (rQ g d))))
theorem yY (M:ByteArray) (r:Bool) (w:World) (hm:us M=some r) :
  la true pg0 216 [(.string M)] w (.bool r):=by
 refine cG 49 func216 rfl (λd=>sg (Wa (lS (Wm (V (qe rfl rfl rfl) (Wm (LJ hm (λc7 E W=>∃L3,ST true lD w W (hp w) L3∧E 0=(.string M)∧E 11=(.bool c7)) 4 ?_ (λc7 K a5=>?_))))))))
 ·rintro x2 E W ⟨L3,d,v,e6⟩ f7
  refine Wh e6 (LJ f7 (λc6 E W=>∃d3,ST true lD w W (hp w) d3∧E 0=(.string M)∧E 16=(.bool c6)) 4 ?_ (λc6 x a4=>?_))
  ·rintro g4 E W ⟨d3,d,s,f4⟩ f0
   refine Wh f4 (LJ f0 (λc5 E W=>∃d4,ST true lD w W (hp w) d4∧E 0=(.string M)∧E 21=(.bool c5)) 4 ?_ (λc5 u a3=>?_))
   ·rintro g7 E W ⟨d4,d,f5,f6⟩ Q
    refine ln (CI Q f6 (λe9 Q=>?_) (λe9 Q=>?_))
    ·refine sg (Wa (lt (lV ?_)))
     obtain rfl:=sj Q
     exact rP d
    refine kS (Wa (ln (me (nn (λm E W=>∃y P,ST true lD w W (hp w) P∧E 0=(.string M)∧E 3=(.int .i64 y)∧rE M m y=some r) li ⟨0,_,(d.kB St),f5,rfl,Q⟩ ?_))))
    rintro m E W ⟨y,P,d,T,U,c⟩
    cases m with
    | zero=>rw [rE] at c; cases c
    | succ f1=>
     refine kQ (sg (Wh U (Wh T (V (pL bN rfl) (Wi rfl (ln (CI c rfl (λc8 c=>?_) (λc8 c=>?_))))))))
     ·refine kn (kQ (bg (Wh T (Wh U (bS c λn a9 c=>V (BQ (i:=y) bN rfl rfl (Bg a9) (ET a9)) (Wa (lr ?_)))))))
      refine Wm (Wi rfl (Wm (LJ c (λc4 E W=>∃R,ST true lD w W (hp w) R∧E 0=(.string M)∧E 3=(.int .i64 y)∧E 4=(.int .u8 (n.toNat:Int))∧E 36=(.bool c4)) 3 ?_ (λc4 J a2=>?_))))
      ·rintro f2 E W ⟨R,d,p,q,N,d5⟩ d0
       refine Wh d5 (LJ d0 (λc2 E W=>∃b4,ST true lD w W (hp w) b4∧E 0=(.string M)∧E 3=(.int .i64 y)∧E 4=(.int .u8 (n.toNat:Int))∧E 44=(.bool c2)) 7 ?_ (λc2 H Z=>?_))
       ·rintro g1 E W ⟨b4,d,b9,c0,d6,d7⟩ d1
        refine Wh d7 (LJ d1 (λc1 E W=>∃b5,ST true lD w W (hp w) b5∧E 0=(.string M)∧E 3=(.int .i64 y)∧E 48=(.bool c1)) 3 ?_ (λc1 G Y=>?_))
        ·rintro g2 E W ⟨b5,d,d8,d9,e0⟩ D
         refine ln (CI D e0 (λc9 D=>?_) (λc9 D=>?_))
         ·refine sg (Wa (lt (nU (lV (lV (nU (lV ?_)))))))
          obtain rfl:=sj D
          exact rP d
         exact mM (lI (kP (kR (Wh d9 (Wi rfl (Wa (ln ⟨f1,aT _,(wi0 .i64 (y+1)),_,(d.kB St),d8,rfl,D⟩)))))))
        refine bC G (λk G=>?_) (λk G=>?_)
        ·refine ug k (kH d6) (ug k (lE rfl rfl rfl) (V (lb (cB k) rfl) ?_))
         obtain rfl:=sj G
         exact Y _ _ ⟨_,(d.kB St),b9,c0,rfl⟩
        refine un k (un k (V (lf (cB k) rfl) ?_))
        obtain rfl:=sj G
        exact Y _ _ ⟨_,(d.kB St),b9,c0,rfl⟩
       refine bC H (λa H=>?_) (λa H=>?_)
       ·refine ug a (kH N) (ug a (lE rfl rfl rfl) (ug a (kH rfl) (LJ H (λc3 E W=>∃b6,ST true lD w W (hp w) b6∧E 0=(.string M)∧E 3=(.int .i64 y)∧E 4=(.int .u8 (n.toNat:Int))∧E 37=(.bool f2)∧E 43=(.bool c3)) 3 ?_ (λc3 I A=>?_))))
        ·rintro g3 E W ⟨b6,d,e1,e2,e3,e4,e7⟩ d2
         refine V (lb (e4.trans (cB a)) e7) ?_
         obtain rfl:=sj d2
         exact Z _ _ ⟨_,(d.kB St),e1,e2,e3,rfl⟩
        refine bC I (λt I=>?_) (λt I=>?_)
        ·refine un t (un t (ug a (lb (cB t) rfl) ?_))
         obtain rfl:=sj I
         exact A _ _ ⟨_,(d.kB St),p,q,N,rfl,rfl⟩
        refine ug t (kH N) (ug t (lE rfl rfl rfl) (ug a (lf (cB t) rfl) ?_))
        obtain rfl:=sj I
        exact A _ _ ⟨_,(d.kB St),p,q,N,rfl,rfl⟩
       refine un a (un a (un a (Vu rfl rfl (Vu rfl rfl (un a (V (lf (cB a) rfl) ?_))))))
       obtain rfl:=sj H
       exact Z _ _ ⟨_,(d.kB St),p,q,N,rfl⟩
      refine bC J (λj J=>?_) (λj J=>?_)
      ·refine un j (un j (V (lb (cB j) rfl) ?_))
       obtain rfl:=sj J
       exact a2 _ _ ⟨_,(d.kB St),T,U,rfl,rfl⟩
      refine ug j (kH rfl) (ug j (lE rfl rfl rfl) (V (lf (cB j) rfl) ?_))
      obtain rfl:=sj J
      exact a2 _ _ ⟨_,(d.kB St),T,U,rfl,rfl⟩
     exact nu (ng (ng (pM (kP (sg (Wa (lt (rQ c d))))))))
   refine bC u (λg u=>?_) (λg u=>?_)
   ·refine un g (un g (un g (V (lb (cB g) rfl) ?_)))
    obtain rfl:=sj u
    exact a3 _ _ ⟨_,(d.kB St),s,rfl⟩
   refine ug g (kH s) (bS u λf8 L u=>ug g (BQ (i:=0) bN rfl rfl (Bg L) (ET L)) (ug g (lE rfl rfl rfl) (V (lf (cB g) rfl) ?_)))
   obtain rfl:=sj u
   exact a3 _ _ ⟨_,(d.kB St),s,rfl⟩
  refine bC x (λB x=>?_) (λB x=>?_)
  ·refine un B (un B (un B (V (lb (cB B) rfl) ?_)))
   obtain rfl:=sj x
   exact a4 _ _ ⟨_,(d.kB St),v,rfl⟩
  refine ug B (kH v) (bS x λf9 O x=>ug B (BQ (i:=0) bN rfl rfl (Bg O) (ET O)) (ug B (lE rfl rfl rfl) (V (lf (cB B) rfl) ?_)))
  obtain rfl:=sj x
  exact a4 _ _ ⟨_,(d.kB St),v,rfl⟩
 refine bC K (λz K=>?_) (λz K=>?_)
 ·refine un z (un z (un z (V (lb (cB z) rfl) ?_)))
  obtain rfl:=sj K
  exact a5 _ _ ⟨_,(d.kB St),rfl,rfl⟩
 refine ug z (kH rfl) (ug z (pL bN rfl) (ug z (lE rfl rfl rfl) (V (lf (cB z) rfl) ?_)))
 obtain rfl:=sj K
 exact a5 _ _ ⟨_,(d.kB St),rfl,rfl⟩
theorem wQ (i:kz) (r:Bool) (w:World) (hm:sN i=some r) :
  la true pg0 160 [(.agg (kN i).toArray)] w (.bool r):=by
 refine cG 11 func160 rfl (λd=>sg (VE (ly d rfl (λH J d=>Wa (lr (Wf qR (VB d Mh rfl rfl bT (bS hm λK y hm=>VE (Eg d call216 (yY i.kA _ _  y) (λI d=>Wm (LJ hm (λk E W=>∃j,ST true lD w W (hp w) j∧E 2=(.bool false)∧E 10=(.bool k)) 4 ?_ (λk a g=>?_))))))))))))
 ·rintro G E W ⟨j,d,B,x⟩ t
  exact Wg x (lt (rQ t d))
 refine bC a (λc a=>?_) (λc a=>?_)
 ·refine ug c (kJ sU rfl) (ug c (kF rfl (kV d.has Mh rfl bT)) (bS a λD u a=>rU c (Eg d call216 (yY i.Word _ _  u) (λz d=>V (lb (cB c) rfl) ?_))))
  obtain rfl:=sj a
  exact g _ _ ⟨_,(d.kB (Db St)),rfl,rfl⟩
 refine un c (un c (un c (V (lf (cB c) rfl) ?_)))
 obtain rfl:=sj a
 exact g _ _ ⟨_,(d.kB (Db St)),rfl,rfl⟩
theorem Co (t u:kz) (r:Bool) (w:World) (hm:vZ t u=some r) :
  la true pg0 161 [(.agg (kN t).toArray),(.agg (kN u).toArray)] w (.bool r):=by
 refine cG 24 func161 rfl (λd=>sg (VE (ly d rfl (λT Y d=>VE (ly d rfl (λU Z d=>Wa (lr (Wf qR (VB d (Mt Mh) rfl rfl bT (Wf qR (VB d Mh rfl rfl bT (V (qe rfl rfl rfl) ?_))))))))))))
 refine Wm (LJ hm (λz E W=>∃x,ST true lD w W (hp w) x∧E 4=(.bool false)∧E 23=(.bool z)) 13 ?_ (λz g j=>?_))
 ·rintro N E W ⟨x,d,M,H⟩ D
  exact Wg H (lt (rQ D d))
 refine bC g (λa g=>?_) (λa g=>?_)
 ·refine un a (un a (un a (un a (un a (un a (Vu rfl rfl (Vu rfl rfl (Vu rfl rfl (Vu rfl rfl (Vu rfl rfl (un a (V (lb (cB a) rfl) ?_))))))))))))
  obtain rfl:=sj g
  exact j _ _ ⟨_,(d.kB (Db (Db St))),rfl,rfl⟩
 refine ug a (kJ qR rfl) (ug a (kF rfl (kV d.has (Mt Mh) rfl bT)) (ug a (kJ qR rfl) (ug a (kF rfl (kV d.has Mh rfl bT)) (ug a (qe rfl rfl rfl) (ug a (kH rfl) (LJ g (λB E W=>∃y,ST true lD w W (hp w) y∧E 4=(.bool false)∧E 10=(.bool (zy t.kA u.kA))∧E 22=(.bool B)) 6 ?_ (λB i k=>?_)))))))
 ·rintro Q E W ⟨y,d,I,J,K⟩ G
  refine V (lf (J.trans (cB a)) K) ?_
  obtain rfl:=sj G
  exact j _ _ ⟨_,(d.kB St),I,rfl⟩
 refine bC i (λc i=>?_) (λc i=>?_)
 ·refine ug c (kJ sU rfl) (ug c (kF rfl (kV d.has (Mt Mh) rfl bT)) (ug c (kJ sU rfl) (ug c (kF rfl (kV d.has Mh rfl bT)) (ug c (qe rfl rfl rfl) (ug a (lb (cB c) rfl) ?_)))))
  obtain rfl:=sj i
  exact k _ _ ⟨_,(d.kB (Db (Db St))),rfl,rfl,rfl⟩
 refine un c (un c (un c (un c (un c (ug a (lf (cB c) rfl) ?_)))))
 obtain rfl:=sj i
 exact k _ _ ⟨_,(d.kB (Db (Db St))),rfl,rfl,rfl⟩
theorem Fk (g:kC) (r:Bool) (w:World) (hm:wZ g=some r) :
  la true pg0 157 [(.agg (kI g).toArray)] w (.bool r):=by
 refine cG 93 func157 rfl (λd=>sg (VE (ly d rfl (λW2 M d=>Wa (lr (VE (lT d fR (λW4 p d=>lS ?_))))))))
 refine Wf vF (VA d (Mt Mh) (kN g.Head) bI aP (bS hm λr5 h4 hm=>VE (Eg d call160 (wQ g.Head _ _  h4) (λW7 d=>V (nv rfl) (ln (CI hm rfl (λh2 hm=>?_) (λh2 hm=>?_)))))))
 ·refine sg (Wa (ln ?_))
  replace d:=d.kB (Db (Db St))
  refine lB (lV ?_)
  obtain rfl:=sj hm
  exact rP d
 refine kS (Wf rY (VB d (Mt Mh) rfl rfl bX (Wi rfl (ln (CI hm rfl (λh3 hm=>?_) (λh3 hm=>?_))))))
 ·refine sg (Wf xL (VB d (Mt Mh) rfl rfl bT (bS hm λi6 f7 hm=>VE (Eg d call216 (yY g.mC _ _  f7) (λi3 d=>Wm (LJ hm (λe1 E W=>∃c8,ST true lD w W (hp w) ((p,Ol (kN K0) 27)::((M,Ol (kI g) 52)::c8))∧E 1=(.pointer (some ⟨M,0,none⟩))∧E 2=(.bool false)∧E 3=(.pointer (some ⟨p,0,none⟩))∧E 19=(.bool e1)) 5 ?_ (λe1 T A=>?_)))))))
  ·rintro i8 E W ⟨c8,d,q,d6,f9,g0⟩ f0
   refine Wh g0 (LJ f0 (λe0 E W=>∃c9,ST true lD w W (hp w) ((M,Ol (kI g) 52)::c9)∧E 1=(.pointer (some ⟨M,0,none⟩))∧E 2=(.bool false)∧E 25=(.bool e0)) 5 ?_ (λe0 Q a5=>?_))
   ·rintro i9 E W ⟨c9,d,g1,d7,g2⟩ f1
    refine Wh g2 (LJ f1 (λd9 E W=>∃d0,ST true lD w W (hp w) d0∧E 2=(.bool false)∧E 30=(.bool d9)) 4 ?_ (λd9 N a4=>?_))
    ·rintro j0 E W ⟨d0,d,i5,g3⟩ f2
     refine Wg g3 (lt (lV ?_))
     obtain rfl:=sj f2
     exact rP d
    refine bC N (λx N=>?_) (λx N=>?_)
    ·refine ug x (kJ wW g1) (ug x (kF rfl (kV d.has Mh rfl bT)) (ug x (qe rfl rfl rfl) (V (lb (cB x) rfl) ?_)))
     obtain rfl:=sj N
     exact a4 _ _ ⟨_,(d.kB (Db St)),d7,rfl⟩
    refine un x (un x (un x (V (lf (cB x) rfl) ?_)))
    obtain rfl:=sj N
    exact a4 _ _ ⟨_,(d.kB (Db St)),d7,rfl⟩
   refine bC Q (λk Q=>?_) (λk Q=>?_)
   ·refine ug k (kJ uR q) (ug k (kF rfl (kL d.has (Mt Mh) (kN g.C) rfl bI aP)) (ug k (kF f9 (kL d.has Mh (kN K0) rfl bI aP)) (ug k (wD rfl rfl (oX fI) (tE (rD _ g.C K0))) (V (lb (cB k) rfl) ?_))))
    obtain rfl:=sj Q
    exact a5 _ _ ⟨_,(d.kB (Db St)),q,d6,rfl⟩
   refine un k (un k (un k (un k (V (lf (cB k) rfl) ?_))))
   obtain rfl:=sj Q
   exact a5 _ _ ⟨_,(d.kB (Db St)),q,d6,rfl⟩
  refine bC T (λj T=>?_) (λj T=>?_)
  ·refine ug j (kJ qq rfl) (ug j (kF rfl (kL d.has (Mt Mh) (kN g.B) rfl bI aP)) (ug j (kF rfl (kL d.has Mh (kN K0) rfl bI aP)) (ug j (wD rfl rfl (oX fI) (tE (rD _ g.B K0))) (V (lb (cB j) rfl) ?_))))
   obtain rfl:=sj T
   exact A _ _ ⟨_,(d.kB St),rfl,rfl,rfl,rfl⟩
  refine un j (un j (un j (un j (V (lf (cB j) rfl) ?_))))
  obtain rfl:=sj T
  exact A _ _ ⟨_,(d.kB St),rfl,rfl,rfl,rfl⟩
 let a0:=((kI g).toArray:Array Value)
 let n:Value:=(.pointer (some ⟨M,0,none⟩))
 refine kS (Wf xL (VB d (Mt Mh) rfl rfl bT (V (qe rfl rfl rfl) (Wm (LJ hm (λc1 E W=>∃d1,ST true lD w W (hp w) ((p,Ol (kN K0) 27)::((M,Obj.cells a0 52 (0,0))::d1))∧E 1=n∧E 3=(.pointer (some ⟨p,0,none⟩))∧E 39=(.bool c1)) 5 ?_ (λc1 I a3=>?_))))))
 ·rintro j3 E W ⟨d1,d,u,d8,g4⟩ i
  refine ln (CI i g4 (λe7 i=>?_) (λe7 i=>?_))
  ·refine sg (Wa (ln ?_))
   replace d:=d.kB (Db (Db St))
   refine lB (lV ?_)
   obtain rfl:=sj i
   exact rP d
  refine kS (V (kJ rY u) (VB d (Mt Mh) rfl rfl bX (Wi rfl (ln (CI i rfl (λe8 i=>?_) (λe8 i=>?_))))))
  ·refine sg (V (kJ uR u) (VA d (Mt Mh) (kN g.C) bI aP (V (kF d8 (kL d.has Mh (kN K0) rfl bI aP)) (V (wD rfl rfl (oX fI) (tE (rD _ g.C K0))) (Wm (LJ i (λe2 E W=>∃d2,ST true lD w W (hp w) d2∧E 51=(.bool e2)) 4 ?_ (λe2 U L=>?_)))))))
   ·rintro j4 E W ⟨d2,d,g7⟩ f3
    refine Wg g7 (lt (lV ?_))
    obtain rfl:=sj f3
    exact rP d
   refine bC U (λy U=>?_) (λy U=>?_)
   ·refine ug y (kJ wW u) (ug y (kF rfl (kV d.has (Mt Mh) rfl bT)) (ug y (qe rfl rfl rfl) (V (lb (cB y) rfl) ?_)))
    obtain rfl:=sj U
    exact L _ _ ⟨_,(d.kB (Db (Db St))),rfl⟩
   refine un y (un y (un y (V (lf (cB y) rfl) ?_)))
   obtain rfl:=sj U
   exact L _ _ ⟨_,(d.kB (Db (Db St))),rfl⟩
  refine kS (V (kJ rY u) (VB d (Mt Mh) rfl rfl bX (Wi rfl (ln (CI i rfl (λe9 i=>?_) (λe9 i=>?_))))))
  ·refine sg (V (kJ uR u) (VA d (Mt Mh) (kN g.C) bI aP (V (kF d8 (kL d.has Mh (kN K0) rfl bI aP)) (V (wD rfl rfl (oX fI) (tE (rD _ g.C K0))) (Wm (LJ i (λe4 E W=>∃d3,ST true lD w W (hp w) ((M,Obj.cells a0 52 (0,0))::d3)∧E 1=n∧E 67=(.bool e4)) 8 ?_ (λe4 Y a9=>?_)))))))
   ·rintro j5 E W ⟨d3,d,g8,g9⟩ f4
    refine Wh g9 (LJ f4 (λe3 E W=>∃d4,ST true lD w W (hp w) d4∧E 72=(.bool e3)) 4 ?_ (λe3 J O=>?_))
    ·rintro j6 E W ⟨d4,d,h0⟩ f5
     refine Wg h0 (lt (lV ?_))
     obtain rfl:=sj f5
     exact rP d
    refine bC J (λz J=>?_) (λz J=>?_)
    ·refine ug z (kJ wW g8) (ug z (kF rfl (kV d.has Mh rfl bT)) (bS J λi7 f8 J=>rU z (Eg d call216 (yY g.mA _ _  f8) (λi4 d=>V (lb (cB z) rfl) ?_))))
     obtain rfl:=sj J
     exact O _ _ ⟨_,(d.kB (Db St)),rfl⟩
    refine un z (un z (un z (V (lf (cB z) rfl) ?_)))
    obtain rfl:=sj J
    exact O _ _ ⟨_,(d.kB (Db St)),rfl⟩
   refine bC Y (λa Y=>?_) (λa Y=>?_)
   ·refine ug a (kJ qq u) (ug a (kJ qR rfl) (ug a (kF rfl (kV d.has (Mt Mh) rfl bT)) (ug a (kJ vF u) (ug a (kJ qR rfl) (ug a (kF rfl (kV d.has (Mt Mh) rfl bT)) (ug a (qe rfl rfl rfl) (V (lb (cB a) rfl) ?_)))))))
    obtain rfl:=sj Y
    exact a9 _ _ ⟨_,(d.kB (Db St)),u,rfl⟩
   refine un a (un a (un a (un a (un a (un a (un a (V (lf (cB a) rfl) ?_)))))))
   obtain rfl:=sj Y
   exact a9 _ _ ⟨_,(d.kB (Db St)),u,rfl⟩
  refine kn ?_
  replace d:=d.kB (Db St)
  refine sg (V (kJ rY u) (VB d Mh rfl rfl bX (Wi rfl (Wm (LJ i (λc0 E W=>∃d5,ST true lD w W (hp w) ((M,Obj.cells a0 52 (0,0))::d5)∧E 1=n∧E 80=(.bool c0)) 4 ?_ (λc0 K a2=>?_))))))
  ·rintro j7 E W ⟨d5,d,s,h1⟩ f6
   refine Wh h1 (LJ f6 (λb9 E W=>∃P,ST true lD w W (hp w) ((M,Obj.cells a0 52 (0,0))::P)∧E 1=n∧E 85=(.bool b9)) 4 ?_ (λb9 H v=>?_))
   ·rintro i1 E W ⟨P,d,b4,e5⟩ c3
    refine Wh e5 (LJ c3 (λb7 E W=>∃R,ST true lD w W (hp w) R∧E 92=(.bool b7)) 6 ?_ (λb7 G Z=>?_))
    ·rintro i2 E W ⟨R,d,e6⟩ c4
     exact Wg e6 (lt (rQ c4 d))
    refine bC G (λc G=>?_) (λc G=>?_)
    ·refine ug c (kJ qq b4) (ug c (kF rfl (kL d.has Mh (kN g.B) rfl bI aP)) (ug c (kJ uR b4) (ug c (kF rfl (kL d.has Mh (kN g.C) rfl bI aP)) (bS G λh8 c5 G=>rU c (Eg d call161 (Co g.B g.C _ _  c5) (λh5 d=>V (lb (cB c) rfl) ?_))))))
     obtain rfl:=sj G
     exact Z _ _ ⟨_,(d.kB (Db St)),rfl⟩
    refine un c (un c (un c (un c (un c (V (lf (cB c) rfl) ?_)))))
    obtain rfl:=sj G
    exact Z _ _ ⟨_,(d.kB (Db St)),rfl⟩
   refine bC H (λD H=>?_) (λD H=>?_)
   ·refine ug D (kJ uR s) (ug D (kF rfl (kL d.has Mh (kN g.C) rfl bI aP)) (bS H λh9 c6 H=>rU D (Eg d call160 (wQ g.C _ _  c6) (λh6 d=>V (lb (cB D) rfl) ?_))))
    obtain rfl:=sj H
    exact v _ _ ⟨_,(d.kB St),s,rfl⟩
   refine un D (un D (un D (V (lf (cB D) rfl) ?_)))
   obtain rfl:=sj H
   exact v _ _ ⟨_,(d.kB St),s,rfl⟩
  refine bC K (λB K=>?_) (λB K=>?_)
  ·refine ug B (kJ wW u) (ug B (kF rfl (kV d.has Mh rfl bT)) (ug B (qe rfl rfl rfl) (V (lb (cB B) rfl) ?_)))
   obtain rfl:=sj K
   exact a2 _ _ ⟨_,(d.kB St),u,rfl⟩
  refine un B (un B (un B (V (lf (cB B) rfl) ?_)))
  obtain rfl:=sj K
  exact a2 _ _ ⟨_,(d.kB St),u,rfl⟩
 refine bC I (λt I=>?_) (λt I=>?_)
 ·refine un t (un t (un t (un t (V (lb (cB t) rfl) ?_))))
  obtain rfl:=sj I
  exact a3 _ _ ⟨_,(d.kB St),rfl,rfl,rfl⟩
 refine ug t (kJ qq rfl) (ug t (kF rfl (kL d.has (Mt Mh) (kN g.B) rfl bI aP)) (bS I λi0 c7 I=>rU t (Eg d call160 (wQ g.B _ _  c7) (λh7 d=>ug t (nv rfl) (V (lf (cB t) rfl) ?_)))))
 obtain rfl:=sj I
 exact a3 _ _ ⟨_,(d.kB St),rfl,rfl,rfl⟩
theorem Ea (x:Int) (r:ByteArray) (w:World) (hm:wx x=some r) :
  la true pg0 328 [(.int .i64 x)] w (.string r):=by
 refine cG 22 func328 rfl (λd=>sg (Wa (lr (Wa (ln (kQ (me (nn (λm E W=>∃c j t,ST true lD w W (hp w) t∧E 0=(.int .i64 c)∧E 3=(.string j)∧uE m c j=some r) li ⟨x,zS,_,(d.kB St),rfl,rfl,hm⟩ ?_))))))))
 rintro m E W ⟨c,j,t,d,i,u,g⟩
 let N:=(Int.tmod c 128)
 cases m with
 | zero=>rw [uE] at g; cases g
 | succ D=>
  refine kQ (sg (Wh i (Wi rfl (ln (CI g rfl (λy g=>?_) (λy g=>?_))))))
  ·refine kn (bg (Wh u (Wh i (V (J5 (k:=.i64) (a:=c) (b:=128) (v:=(.int .i64 N)) rfl rfl dc rfl) (Wi rfl (V (pc (k':=.i64) (a:=(wi0 .i64 (128+N))) dH dU rfl) (VE (lJ (cs:=[(.int .u8 (IntKind.u8.wrap (wi0 .i64 (128+N))))].toArray) d (nL rfl) (oa cC kv jt) (λH J d=>V (uO cC dU bN rfl (Sl.lit (enc:=(lP .u8)) (l:=[(IntKind.u8.wrap (wi0 .i64 (128+N)))]) (λ_=>rfl) rfl nb rfl (d.at_ Mh))) (bS g λG z g=>V (lU rfl rfl z) (Wa ?_)))))))))))
   refine ln ?_
   replace d:=d.kB (Db St)
   exact kR (Wh i (V (J5 (k:=.i64) (a:=c) (b:=128) (v:=(.int .i64 (wi0 .i64 (Int.tdiv c 128)))) rfl rfl dc rfl) (Wa (lu (lI (kP ⟨D,aT _,(wi0 .i64 (Int.tdiv c 128)),G,_,(d.kB St),rfl,rfl,g⟩))))))
  refine nu (ng (ng (pM (kP (sg (Wh u (Wh i (V (pc (k':=.i64) (a:=c) dH dU rfl) (VE (lJ (cs:=[(.int .u8 (IntKind.u8.wrap c))].toArray) d (nL rfl) (oa cC kv jt) (λI K d=>V (uO cC dU bN rfl (Sl.lit (enc:=(lP .u8)) (l:=[(IntKind.u8.wrap c)]) (λ_=>rfl) rfl nb rfl (d.at_ Mh))) (bS g λM B g=>V (lU rfl rfl B) (Wa (ln ?_))))))))))))))
  exact lB (rQ g d)
theorem Aw (a r:ByteArray) (w:World) (hm:ve a=some r) :
  la true pg0 330 [(.string a)] w (.string r):=by
 refine cG 8 func330 rfl (λd=>sg (Wa (lr (Wm (V (pL bN rfl) (bS hm λj c hm=>VE (Eg d call328 (Ea (a.size:Int) _ _  c) (λi d=>Wm (bS hm λk g hm=>V (lU rfl rfl g) ?_)))))))))
 exact Wa (lt (rQ hm d))
theorem Bw (a:kz) (r:ByteArray) (w:World) (hm:vy a=some r) :
  la true pg0 329 [(.agg (kN a).toArray)] w (.string r):=by
 refine cG 10 func329 rfl (λd=>sg (VE (ly d rfl (λy z d=>Wa (ln (kQ ?_))))))
 replace d:=d.drew
 have n:=d.has.kB (Kb Sn)
 refine lC n lj (X 0 rfl n (kJ qR rfl) (XH 1 rfl n (λ_ p=>kF rfl (kV p Mh rfl bT)) (X 3 rfl n (kJ sU rfl) (XH 4 rfl n (λ_ p=>kF rfl (kV p Mh rfl bT)) (bS hm λt c hm=>XE 2 rfl (Eg d call330 (Aw a.kA _ _  c) (λj d=>?_)))))))
 have n:=d.has.kB (Kb Sn)
 refine ⟨n,(bS hm λu g hm=>XE 5 rfl (Eg d call330 (Aw a.Word _ _  g) (λk d=>?_)))⟩
 have n:=d.has.kB (Kb Sn)
 refine ⟨n,(bS hm λx i hm=>X 6 rfl n (lU rfl rfl i) (X 7 rfl n (mU rfl) (lH kr (kP ?_))))⟩
 exact lB (rQ hm d)
theorem JT (g:kC) (r:ByteArray) (w:World) (hm:Bx g=some r) :
  la true pg0 274 [(.agg (kI g).toArray)] w (.string r):=by
 refine cG 41 func274 rfl (λd=>sg (VE (ly d rfl (λW2 q d=>Wa (ln (kQ ?_))))))
 replace d:=d.drew
 have n:=d.has.kB (Kb Sn)
 refine lC n lj (X 0 rfl n (kJ rY rfl) (XH 1 rfl n (λ_ p=>kF rfl (kV p Mh rfl bX)) (X 3 rfl n (kJ vF rfl) (XH 4 rfl n (λ_ p=>kF rfl (kL p Mh (kN g.Head) rfl bI aP)) (bS hm λa9 H hm=>XE 2 rfl (Eg d call328 (Ea g.Kind _ _  H) (λa3 d=>?_)))))))
 have n:=d.has.kB (Kb Sn)
 refine ⟨n,(bS hm λL I hm=>XE 5 rfl (Eg d call329 (Bw g.Head _ _  I) (λa4 d=>?_)))⟩
 have n:=d.has.kB (Kb Sn)
 refine ⟨n,(bS hm λb6 Q hm=>X 6 rfl n (lU rfl rfl Q) (X 7 rfl n (mU rfl) (lH kr (kP (kQ (sg (Wf rY (VB d Mh rfl rfl bX (Wi rfl (ln (CI hm rfl (λy hm=>?_) (λy hm=>?_))))))))))))⟩
 ·refine sg (Wm (Wf xL (VB d Mh rfl rfl bT (bS hm λO J hm=>VE (Eg d call330 (Aw g.mC _ _  J) (λa5 d=>bS hm λb7 T hm=>V (lU rfl rfl T) (Wa (ln ?_))))))))
  replace d:=d.kB (Db St)
  refine lB (lV ?_)
  obtain rfl:=sj hm
  exact rP d
 refine kg (Wm (Wf qq (VA d Mh (kN g.B) bI aP (bS hm λP K hm=>VE (Eg d call329 (Bw g.B _ _  K) (λs d=>bS hm λb9 U hm=>V (lU rfl rfl U) (Wa (ln (kQ ?_)))))))))
 refine CJ hm (λx E W=>∃i,ST true lD w W (hp w) ((q,Ol (kI g) 52)::i)∧E 1=(.pointer (some ⟨q,0,none⟩))∧E 3=(.string x)) (λx c=>?_) ?_
 ·refine sg (Wf rY (VB d Mh rfl rfl bX (Wi rfl (ln (CI c rfl (λB c=>?_) (λB c=>?_))))))
  ·refine kR (Wm (Wf wW (VB d Mh rfl rfl bT (bS c λb5 N c=>VE (Eg d call330 (Aw g.mA _ _  N) (λA d=>bS c λc1 Z c=>V (lU rfl rfl Z) (Wa (ln ?_))))))))
   obtain rfl:=sj c
   exact ⟨_,(d.kB St),rfl,rfl⟩
  refine kn ?_
  obtain rfl:=sj c
  exact ⟨_,(d.kB St),rfl,rfl⟩
 rintro c2 E W ⟨i,d,k,t⟩ D
 refine kQ (CJ D (λu E W=>∃j,ST true lD w W (hp w) j∧E 3=(.string u)) (λu a=>?_) ?_)
 ·refine sg (V (kJ rY k) (VB d Mh rfl rfl bX (Wi rfl (ln (CI a rfl (λz a=>?_) (λz a=>?_))))))
  ·refine kR (Wh t (V (kJ uR k) (VA d Mh (kN g.C) bI aP (bS a λR M a=>VE (Eg d call329 (Bw g.C _ _  M) (λv d=>bS a λc0 Y a=>V (lU rfl rfl Y) (Wa (ln ?_))))))))
   obtain rfl:=sj a
   exact ⟨_,(d.kB (Db St)),rfl⟩
  refine kn ?_
  obtain rfl:=sj a
  exact ⟨_,(d.kB (Db St)),t⟩
 rintro c3 E W ⟨j,d,a2⟩ G
 exact sg (Wh a2 (Wa (lt (rQ G d))))
theorem Fc (a:kC) (r:ByteArray) (w:World) (hm:wO a=some r) :
  la true pg0 217 [(.agg (kI a).toArray)] w (.string r):=by
 refine cG 8 func217 rfl (λd=>sg (VE (ly d rfl (λj u d=>Wa (lS (VA d Mh (kI a) cA aR (bS hm λx g hm=>VE (Eg d call157 (Fk a _ _  g) (λk d=>V (nv rfl) (lu ?_))))))))))
 refine kP (CI hm rfl (λc hm=>?_) (λc hm=>?_))
 ·refine sg (Wa (ln ?_))
  replace d:=d.kB (Db St)
  refine lB (lV ?_)
  obtain rfl:=sj hm
  exact rP d
 refine kg (VA d Mh (kI a) cA aR (bS hm λy i hm=>VE (Eg d call274 (JT a _ _  i) (λt d=>Wa (ln ?_)))))
 exact lB (rQ hm d)
theorem De (a c:kC) (r:Int) (w:World) (hm:uj a c=some r) :
  la true pg0 158 [(.agg (kI a).toArray),(.agg (kI c).toArray)] w (.int .i64 r):=by
 refine cG 17 func158 rfl (λd=>sg (VE (ly d rfl (λu z d=>VE (ly d rfl (λx B d=>Wa (lr (VA d (Mt Mh) (kI a) cA aR (bS hm λD j hm=>VE (Eg d call217 (Fc a _ _  j) (λy d=>Wa (lu ?_))))))))))))
 refine kP ?_
 replace d:=d.kB (Kb (Db St))
 refine sg (VA d Mh (kI c) cA aR (bS hm λG k hm=>VE (Eg d call217 (Fc c _ _  k) (λt d=>Wa (ln ?_)))))
 replace d:=d.kB (Db St)
 refine kQ (sg (Wm (Wm (V (qe rfl rfl rfl) (ln (CI hm rfl (λg hm=>?_) (λg hm=>?_)))))))
 ·refine sg (Wa (lt (lV ?_)))
  obtain rfl:=sj hm
  exact rP d
 refine kS (Wm (Wm (V (qe rfl rfl rfl) (ln (CI hm rfl (λi hm=>?_) (λi hm=>?_))))))
 ·refine sg (Wa (lt (lV ?_)))
  obtain rfl:=sj hm
  exact rP d
 exact kg (Wa (lt (rQ hm d)))
theorem LP (D:Value) (a0 r:List kC) (w:World) (e3:Sl (Pl kI) 9 (hp w) D a0) (hm:DQ a0=some r) :
  oU true pg0 84 [D] w 52 kI 9 r:=by
 refine Az 51 func84 rfl (λn=>sg (Wa (lr (Wa (ln (rZ (me (nn (λm E W=>∃x a3 u c5,ST true lD w W (hp w) (u++c5)∧E 0=D∧E 3=x∧lm 52 kI 9 x a3 u∧uP a0 m a3=some r) li ⟨(.slice none 0 0),([]),[],_,(n.kB St),rfl,rfl,(lm.nil _ _ _),hm⟩ ?_))))))))
 rintro m E W ⟨x,a3,u,c5,n,d1,g2,J,a5⟩
 cases m with
 | zero=>rw [uP] at a5; cases a5
 | succ j5=>
  refine bg (VE (lT n dT (λk0 t n=>lr (Wa (lS (Wh d1 ?_))))))
  let b8:Value:=(.pointer (some ⟨t,0,none⟩))
  refine V (mx aX rfl e3) (Wm (ln (CJ a5 (λa9 E W=>∃c6,ST true lD w W (hp w) ((t,Ol (kI a9.2) 52)::(u++c6))∧E 0=D∧E 3=x∧E 4=b8∧E 5=(.bool a9.1)) (λa9 e9=>?_) ?_)))
  ·refine mj (λi E W=>∃G y b1,(E 10= .int .i64 (i:Nat)∧E 9= .int .i64 (a0.length:Nat))∧ST true lD w W (hp w) ((t,Ol (kI y) 52)::(u++b1))∧E 0=D∧E 3=x∧E 4=b8∧E 5=(.bool G)∧E 8=D∧tq a3 (a0.drop i) G y=some a9) a0.length e3.len ⟨false,R5,_,⟨rfl,rfl⟩,(n.kB St),d1,g2,rfl,rfl,rfl,e9⟩ dc dc dc (λ_ _ _ h=>by obtain ⟨_,_,_,aa,_⟩:=h; exact aa) ?_ ?_
   ·rintro a2 E W e8 ⟨G,y,b1,⟨A,eN⟩,n,U,M,Y,Z,s,z⟩
    let g5:=((kI y).toArray:Array Value)
    obtain ⟨c,j9,f9,f8,c4⟩:=lX e8
    let c3:=((kI c).toArray:Array Value)
    rw [f9] at z
    refine bg (VQ (th (enc:=kI) (i:=(a2:Int)) (x0:=c) aX aR s A e3 (aM _) f8) (λk9 f3=>V (kF rfl (lx n.has f3 cA aR)) (VE (lT n dT (λk3 K n=>VO (lp (.agg (kI c).toArray) ((kI c).toArray) n rfl rfl aR (qM c) nb rfl (λk4 n=>ln (kQ ?_))))))))
    let j2:Value:=(.int .i64 (a2:Int))
    let j1:Value:=(.int .i64 (a0.length:Int))
    let g6:Value:=(.pointer (some ⟨K,0,none⟩))
    replace n:=n.drew
    have d:=n.has.kB (Kb (Kb (Kr Sn)))
    refine lC d lj (XH 0 rfl d (λ_ q=>kF rfl (kL q Mh (kI c) rfl cA aR)) (bS z λj6 f5 z=>XE 1 rfl (Eg n call157 (Fk c _ _  f5) (λk5 n=>?_))))
    have d:=n.has.kB (Kb (Kb (Kr Sn)))
    refine ⟨d,(X 2 rfl d (kH rfl) (PJ z (λe0 E W=>∃c7,ST true lD w W (hp w) ((K,Obj.cells c3 52 (0,0))::((t,Obj.cells g5 52 (0,0))::(u++c7)))∧E 0=D∧E 3=x∧E 4=b8∧E 5=(.bool G)∧E 7=g6∧E 8=D∧E 9=j1∧E 10=j2∧E 31=(.bool e0)) (bm 28 262143) 10 ?_ (λe0 T c1=>?_)))⟩
    ·rintro j8 E W ⟨c7,n,b2,b3,L,O,P,b4,b5,b6,g8⟩ f0
     have d:=n.has.kB (Kb (Kb (Kr Sn)))
     refine X 18 rfl d (kH g8) (PJ f0 (λd8 E W=>∃c8,ST true lD w W (hp w) ((K,Obj.cells c3 52 (0,0))::((t,Obj.cells g5 52 (0,0))::(u++c8)))∧E 0=D∧E 3=x∧E 4=b8∧E 5=(.bool G)∧E 7=g6∧E 8=D∧E 9=j1∧E 10=j2∧E 41=(.bool d8)) (bm 28 268435455) 0 ?_ (λd8 Q b9=>?_))
     ·rintro l4 E W ⟨c8,n,d3,d4,b7,g9,h0,d5,d6,d7,h1⟩ N
      refine lH kr (kP (CI N h1 (λe7 N=>?_) (λe7 N=>?_)))
      ·refine sg (V (kF h0 (kL n.has Mh (kI c) rfl cA aR)) ?_)
       replace n:=n.perm (Nb (Pb Pz) Nz)
       refine VO (lp (.agg (kI c).toArray) ((kI c).toArray) n b7 rfl aR (qM c) nb rfl (λk6 n=>ln ?_))
       replace n:=n.kB (Kb (Db St))
       exact kR (Wa (lu (lI (kP ⟨d7,true,c,_,⟨rfl,d6⟩,(n.kB St),d3,d4,b7,rfl,d5,(by rw [c4]; exact N)⟩))))
      refine mM (lI (kP ?_))
      replace n:=n.kB (Db St)
      exact ⟨d7,G,y,_,⟨rfl,d6⟩,(n.kB St),d3,d4,b7,g9,d5,(by rw [c4]; exact N)⟩
     refine bC Q (λj Q=>?_) (λj Q=>?_)
     ·refine Xg 19 rfl rfl (cB j) d (kH O) (Xg 20 rfl rfl (cB j) d (nv rfl) (Xg 21 rfl rfl (cB j) d (kH rfl) (PJ Q (λd9 E W=>∃c9,ST true lD w W (hp w) ((K,Obj.cells c3 52 (0,0))::((t,Obj.cells g5 52 (0,0))::(u++c9)))∧E 0=D∧E 3=x∧E 4=b8∧E 5=(.bool G)∧E 7=g6∧E 8=D∧E 9=j1∧E 10=j2∧E 32=(.bool j8)∧E 40=(.bool d9)) (bm 28 134217727) 1 ?_ (λd9 I c0=>?_))))
      ·rintro l5 E W ⟨c9,n,h2,h3,h4,h5,h6,h7,h8,h9,i0,i1⟩ f1
       have d:=n.has.kB (Kb (Kb (Kr Sn)))
       refine X 27 rfl d (lb (i0.trans (cB j)) i1) ?_
       obtain rfl:=sj f1
       refine nf kr (b9 _ _ ⟨_,(n.kB St),h2,h3,h4,h5,h6,h7,h8,h9,rfl⟩)
      refine bC I (λk I=>?_) (λk I=>?_)
      ·refine Xn 22 rfl rfl (cB k) d (Xn 23 rfl rfl (cB k) d (Xn 24 rfl rfl (cB k) d (Xn 25 rfl rfl (cB k) d (Xg 26 rfl rfl (cB j) d (lb (cB k) rfl) ?_))))
       obtain rfl:=sj I
       refine nf kr (c0 _ _ ⟨_,(n.kB St),b2,b3,L,O,P,b4,b5,b6,rfl,rfl⟩)
      refine pu 22 rfl rfl (cB k) d (λ_ q=>kF P (kL q Mh (kI c) rfl cA aR)) (pu 23 rfl rfl (cB k) d (λ_ q=>kF L (kL q (Mt Mh) (kI y) rfl cA aR)) (bS I λl1 f6 I=>yq 24 rfl rfl (cB k) (Eg n call158 (De c y _ _  f6) (λk7 n=>?_))))
      have d:=n.has.kB (Kb (Kb (Kr Sn)))
      refine ⟨d,(Xg 25 rfl rfl (cB k) d (lE rfl rfl rfl) (Xg 26 rfl rfl (cB j) d (lf (cB k) rfl) ?_))⟩
      obtain rfl:=sj I
      refine nf kr (c0 _ _ ⟨_,(n.kB St),b2,b3,L,O,P,b4,b5,b6,rfl,rfl⟩)
     refine Xn 19 rfl rfl (cB j) d (Xn 20 rfl rfl (cB j) d (Xn 21 rfl rfl (cB j) d (Xu 22 rfl rfl rfl d (Xu 23 rfl rfl rfl d (Xu 24 rfl rfl rfl d (Xu 25 rfl rfl rfl d (Xn 26 rfl rfl (cB j) d (X 27 rfl d (lf (cB j) rfl) ?_))))))))
     obtain rfl:=sj Q
     refine nf kr (b9 _ _ ⟨_,(n.kB St),b2,b3,L,O,P,b4,b5,b6,rfl⟩)
    refine bC T (λg T=>?_) (λg T=>?_)
    ·refine Xg 3 rfl rfl (cB g) d (kH M) (Xg 4 rfl rfl (cB g) d (qm aX rfl J) (Xg 5 rfl rfl (cB g) d (lE rfl rfl rfl) (Xg 6 rfl rfl (cB g) d (kH rfl) (PJ T (λe1 E W=>∃d0,ST true lD w W (hp w) ((K,Obj.cells c3 52 (0,0))::((t,Obj.cells g5 52 (0,0))::(u++d0)))∧E 0=D∧E 3=x∧E 4=b8∧E 5=(.bool G)∧E 7=g6∧E 8=D∧E 9=j1∧E 10=j2∧E 16=(.bool j6)∧E 30=(.bool e1)) (bm 28 131071) 11 ?_ (λe1 B c2=>?_)))))
     ·rintro l6 E W ⟨d0,n,i2,i3,i4,i5,i6,i7,i8,i9,j0,j3⟩ f2
      have d:=n.has.kB (Kb (Kb (Kr Sn)))
      refine X 17 rfl d (lb (j0.trans (cB g)) j3) ?_
      obtain rfl:=sj f2
      refine nf kr (c1 _ _ ⟨_,(n.kB St),i2,i3,i4,i5,i6,i7,i8,i9,rfl⟩)
     refine bC B (λa B=>?_) (λa B=>?_)
     ·refine Xn 7 rfl rfl (cB a) d (Xn 8 rfl rfl (cB a) d (Xn 9 rfl rfl (cB a) d (Xn 10 rfl rfl (cB a) d (Xn 11 rfl rfl (cB a) d (Xn 12 rfl rfl (cB a) d (Xn 13 rfl rfl (cB a) d (Xn 14 rfl rfl (cB a) d (Xn 15 rfl rfl (cB a) d (Xg 16 rfl rfl (cB g) d (lb (cB a) rfl) ?_)))))))))
      obtain rfl:=sj B
      refine nf kr (c2 _ _ ⟨_,(n.kB St),U,M,Y,Z,rfl,s,eN,A,rfl,rfl⟩)
     refine Xg 7 rfl rfl (cB a) d (kH M) (Xg 8 rfl rfl (cB a) d (kH M) (Xg 9 rfl rfl (cB a) d (qm aX rfl J) (Xg 10 rfl rfl (cB a) d (lE rfl rfl rfl) (bS B λe2 b0 B=>np 11 rfl kr (.inr ⟨6,false,20,rfl,rfl,by decide,(cB a)⟩) rfl dc (λ_ _ h=>h) d (mh (i:=(wi0 .i64 ((a3.length:Int)-1))) (x0:=e2) aX aR rfl rfl J (kZ b0) (kY b0)) (λl0 f4=>pu 12 rfl rfl (cB a) d (λ_ q=>kF rfl (nC q (λp hq=>(Mt (Mt (Ml hq)))) J mQ f4 (kY b0) cA aR)) (pu 13 rfl rfl (cB a) d (λ_ q=>kF rfl (kL q Mh (kI c) rfl cA aR)) (bS B λl2 f7 B=>yq 14 rfl rfl (cB a) (Eg n call158 (De e2 c _ _  f7) (λk8 n=>?_)))))))))
     have d:=n.has.kB (Kb (Kb (Kr Sn)))
     refine ⟨d,(Xg 15 rfl rfl (cB a) d (lE rfl rfl rfl) (Xg 16 rfl rfl (cB g) d (lf (cB a) rfl) ?_))⟩
     obtain rfl:=sj B
     refine nf kr (c2 _ _ ⟨_,(n.kB St),U,M,Y,Z,rfl,s,eN,A,rfl,rfl⟩)
    refine Xn 3 rfl rfl (cB g) d (Xn 4 rfl rfl (cB g) d (Xn 5 rfl rfl (cB g) d (Xn 6 rfl rfl (cB g) d (Xu 7 rfl rfl rfl d (Xu 8 rfl rfl rfl d (Xu 9 rfl rfl rfl d (Xu 10 rfl rfl rfl d (Xu 11 rfl rfl rfl d (Xu 12 rfl rfl rfl d (Xu 13 rfl rfl rfl d (Xu 14 rfl rfl rfl d (Xu 15 rfl rfl rfl d (Xn 16 rfl rfl (cB g) d (X 17 rfl d (lf (cB g) rfl) ?_))))))))))))))
    obtain rfl:=sj T
    refine nf kr (c1 _ _ ⟨_,(n.kB St),U,M,Y,Z,rfl,s,eN,A,rfl⟩)
   rintro E W ⟨G,y,b1,⟨A,eN⟩,n,U,M,Y,Z,s,z⟩
   rw [aO] at z
   refine kP ?_
   obtain rfl:=sj z
   exact ⟨_,(n.kB St),U,M,Y,Z⟩
  rintro ⟨l3,a4⟩ E W ⟨c6,n,g3,d2,g4,g7⟩ H
  refine kQ (sg (Wh g7 (V (nv rfl) (ln (CI H rfl (λe5 H=>?_) (λe5 H=>?_))))))
  ·refine sg (Wh d2 (Wa (ln ?_)))
   replace n:=n.kB (Db St)
   refine lB (lV (nU (lV (nU (lV ?_)))))
   obtain rfl:=sj H
   exact nq (v:=x) rfl rfl ⟨_,u,rfl,n.sI (λp hq=>(Ml hq)) J.nd,J⟩
  refine kn (kR (Wh d2 (V (kF g4 (kL n.has Mh (kI a4) rfl cA aR)) (VE (lJ (cs:=(kI a4).toArray) n (nL rfl) (oa aX aR dT) (λk1 g1 n=>?_))))))
  replace n:=n.perm (Nr (Qb (Qb Qz)) Nz)
  refine bS H λj4 e6 H=>VE (pK (enc:=kI) (v:=x) (vs:=(.slice (some ⟨g1,0,none⟩) 1 1)) (R:=u) n mQ dc qM aX qG.1 qG.2.1 rfl qG.2.2.1 qG.2.2.2 rfl rfl J (Sl.lit (enc:=kI) (l:=[a4]) mQ rfl nb rfl (n.at_ (Ma Mh))) e6 (λk2 j7 g0 n e4=>Wa (lu (lI (kP ?_)))))
  replace n:=n.kB (Kr (Db (Db St)))
  exact ⟨j5,aT _,j7,j4,g0,_,(n.kB St),g3,rfl,e4,H⟩
theorem FL (x:Value) (B:List lh) (j:kC) (r:Int) (w:World) (u:Sl kX 15 (hp w) x B) (hm:Ao B j=some r) :
  la true pg0 85 [x,(.agg (kI j).toArray)] w (.int .i64 r):=by
 refine cG 21 func85 rfl (λd=>sg (VE (ly d rfl (λW2 U d=>Wa (lS (Wm (V (mx cS rfl u) (Wm (ln ?_)))))))))
 refine mj (λi E W=>∃g,(E 9= .int .i64 (i:Nat)∧E 8= .int .i64 (B.length:Nat))∧ST true lD w W (hp w) ((U,Ol (kI j) 52)::g)∧E 3=(.pointer (some ⟨U,0,none⟩))∧E 7=x∧uk j (B.drop i) i=some r) B.length u.len ⟨_,⟨rfl,rfl⟩,(d.kB St),rfl,rfl,hm⟩ dc dc dc (λ_ _ _ h=>by obtain ⟨_,p,_⟩:=h; exact p) ?_ ?_
 ·rintro Y E W M ⟨g,⟨n,q⟩,d,k,t,c⟩
  obtain ⟨a,v,Q,N,T⟩:=lX M
  rw [Q] at c
  refine bg (Wh n (VQ (mo (i:=(Y:Int)) (x0:=a) kX.out cS cO t n u (aM _) N) (λa4 ⟨_,⟨a5,s,rfl,J,K⟩,I⟩=>V (kF rfl (lx d.has I fP cO)) (VE (lT d fL (λZ a3 d=>Wa ?_))))))
  obtain ⟨y,D,rfl⟩:=J.form
  obtain ⟨z,G,rfl⟩:=K.form
  let a0:=(C3 a.Signed.kC.Kind a.Signed.kC.Head.kA a.Signed.kC.Head.Word a.Signed.kC.mC a.Signed.kC.B.kA a.Signed.kC.B.Word a.Signed.kC.C.kA a.Signed.kC.C.Word a.Signed.kC.mA y a.Signed.Tag.length D a.kE.Op a.kE.K a.kE.kz.kA a.kE.kz.Word z a.kE.Kids.length G)
  refine VO (lp (.agg a0.toArray) (a0.toArray) d rfl rfl cO oc nb rfl (λa2 d=>lr (Wf vg (Wf yD (VA d Mh (kI a.Signed.kC) cA aR (V (kF k (kL d.has (Mt Mh) (kI j) rfl cA aR)) (V (wD rfl rfl (oX gm) (tE (wJ _ a.Signed.kC j))) (ln ?_))))))))
  replace d:=d.kB (Db St)
  refine CI c rfl (λH c=>?_) (λH c=>?_)
  ·refine sg (Wm (Wa (ln ?_)))
   replace d:=d.kB (Db St)
   refine lB (nU (lV (nU (lV ?_))))
   obtain rfl:=sj c
   exact rP d
  exact mM (lI (kP ⟨n,_,⟨rfl,q⟩,(d.kB St),k,t,(by rw [T]; exact c)⟩))
 rintro E W ⟨g,⟨n,q⟩,d,k,t,c⟩
 rw [aO] at c
 refine kP ?_
 replace d:=d.kB (Db St)
 exact sg (Wa (lt (rQ c d)))
theorem GX (L:Formula→Formula→Option Bool) (d8:∀(a:Formula) (u:Value) (c:Formula) (x:Value) (r:Bool) (w:World) (k:Sl kD 5 (hp w) u a.Kids) (y:Sl kD 5 (hp w) x c.Kids),L a c=some r→la false pg0 66 [(.agg #[(.int .i64 a.Op),(.int .i64 a.K),(.string a.kz.kA),(.string a.kz.Word),u]),(.agg #[(.int .i64 c.Op),(.int .i64 c.K),(.string c.kz.kA),(.string c.kz.Word),x])] w (.bool r)) (a:Formula) (u:Value) (c:Formula) (x:Value) (r:Bool) (w:World) (k:Sl kD 5 (hp w) u a.Kids) (y:Sl kD 5 (hp w) x c.Kids) (hm:yw L a c=some r) :
  la false pg0 66 [(.agg #[(.int .i64 a.Op),(.int .i64 a.K),(.string a.kz.kA),(.string a.kz.Word),u]),(.agg #[(.int .i64 c.Op),(.int .i64 c.K),(.string c.kz.kA),(.string c.kz.Word),x])] w (.bool r):=by
 refine cG 53 func66 rfl (λd=>sg ?_)
 obtain ⟨Z,c2,rfl⟩:=k.form
 let q:=(C2 a.Op a.K a.kz.kA a.kz.Word Z a.Kids.length c2)
 refine VE (ly d rfl (λW4 I d=>?_))
 obtain ⟨A5,c6,rfl⟩:=y.form
 let a0:=(C2 c.Op c.K c.kz.kA c.kz.Word A5 c.Kids.length c6)
 refine VE (ly d rfl (λW8 J d=>Wa (lS (Wf qt (VB d (Mt Mh) rfl rfl bX (Wf qt (VB d Mh rfl rfl bX (Wi rfl (Wm (LJ hm (λb4 E W=>∃d1,ST false lD w W (hp w) ((J,Ol a0 30)::((I,Ol q 30)::d1))∧E 2=(.pointer (some ⟨I,0,none⟩))∧E 3=(.pointer (some ⟨J,0,none⟩))∧E 17=(.bool b4)) 6 ?_ (λb4 G N=>?_)))))))))))
 ·let a3:Value:=(.pointer (some ⟨J,0,none⟩))
  let a2:Value:=(.pointer (some ⟨I,0,none⟩))
  rintro f1 E W ⟨d1,d,a5,s,e1⟩ d6
  refine Wh e1 (LJ d6 (λb2 E W=>∃d2,ST false lD w W (hp w) ((J,Ol a0 30)::((I,Ol q 30)::d2))∧E 2=a2∧E 3=a3∧E 24=(.bool b2)) 6 ?_ (λb2 D M=>?_))
  ·rintro f2 E W ⟨d2,d,v,A,e2⟩ d7
   refine Wh e2 (LJ d7 (λR E W=>∃d3,ST false lD w W (hp w) ((J,Ol a0 30)::((I,Ol q 30)::d3))∧E 2=a2∧E 3=a3∧E 33=(.bool R)) 8 ?_ (λR B K=>?_))
   ·rintro f3 E W ⟨d3,d,d4,e3,e4⟩ H
    refine ln (CI H e4 (λd5 H=>?_) (λd5 H=>?_))
    ·refine sg (Wa (ln ?_))
     replace d:=d.kB (Db (Db St))
     refine lB (lV ?_)
     obtain rfl:=sj H
     exact rP d
    refine kS (V (kJ pS d4) (VB d (Mt Mh) rfl rfl eZ (V (mx aH rfl k) (Wm (ln (mj (λi E W=>∃Q,(E 37= .int .i64 (i:Nat)∧E 36= .int .i64 (a.Kids.length:Nat))∧ST false lD w W (hp w) ((J,Ol a0 30)::((I,Ol q 30)::Q))∧E 2=a2∧E 3=a3∧uh c L (a.Kids.drop i) i=some r) a.Kids.length k.len ⟨_,⟨rfl,rfl⟩,(d.kB St),d4,e3,H⟩ dc dc dc (λ_ _ _ h=>by obtain ⟨_,P,_⟩:=h; exact P) ?_ ?_))))))
    ·rintro a9 E W c0 ⟨Q,⟨O,eN⟩,d,T,U,g⟩
     obtain ⟨b5,e5,c9,c8,d0⟩:=lX c0
     rw [c9] at g
     refine bg (Wh O (Wa (ln (kQ ?_))))
     replace d:=d.drew
     have n:=d.has.kB (Kb (Kb Sn))
     refine lC n lj (X 0 rfl n (kJ pS T) (XH 1 rfl n (λ_ p=>kF rfl (kV p (Mt Mh) rfl eZ)) (X 2 rfl n (kH rfl) (XQ 3 rfl n (mo (i:=(a9:Int)) (x0:=b5) kD.out aH aG rfl rfl k (aM _) c8) (λe7 ⟨_,⟨d9,rfl,c5⟩,c1⟩=>XH 4 rfl n (λ_ p=>kF rfl (lx p c1 aZ aG)) (X 5 rfl n (kJ pS U) (XH 6 rfl n (λ_ p=>kF rfl (kV p Mh rfl eZ)) (X 7 rfl n (kH rfl) (bS g λb6 Y g=>XQ 8 rfl n (mo (i:=(a9:Int)) (x0:=b6) kD.out aH aG rfl rfl y (kZ Y) (kY Y)) (λe8 ⟨_,⟨e0,rfl,c7⟩,c3⟩=>XH 9 rfl n (λ_ p=>kF rfl (lx p c3 aZ aG)) (bS g λe9 c4 g=>XE 10 rfl (Eg d call66 (d8 b5 d9 b6 e0 _ _ (c5.mono kT.mono d.kG) (c7.mono kT.mono d.kG) c4) (λe6 d=>?_)))))))))))))
     have n:=d.has.kB (Kb (Kb Sn))
     refine ⟨n,(X 11 rfl n (nv rfl) (lH kr (kP (CI g rfl (λb9 g=>?_) (λb9 g=>?_)))))⟩
     ·refine sg (Wa (ln ?_))
      replace d:=d.kB (Db (Db St))
      refine lB (nU (lV (nU (lV ?_))))
      obtain rfl:=sj g
      exact rP d
     exact mM (lI (kP ⟨O,_,⟨rfl,eN⟩,(d.kB St),T,U,(by rw [d0]; exact g)⟩))
    rintro E W ⟨Q,⟨O,eN⟩,d,T,U,g⟩
    rw [aO] at g
    refine kP ?_
    replace d:=d.kB (Db (Db St))
    exact sg (Wa (lt (rQ g d)))
   refine bC B (λj B=>?_) (λj B=>?_)
   ·refine un j (un j (un j (un j (un j (un j (un j (V (lb (cB j) rfl) ?_)))))))
    obtain rfl:=sj B
    exact K _ _ ⟨_,(d.kB St),v,A,rfl⟩
   refine ug j (kJ pS v) (ug j (kF rfl (kV d.has (Mt Mh) rfl eZ)) (ug j (mx aH rfl k) (ug j (kJ pS A) (ug j (kF rfl (kV d.has Mh rfl eZ)) (ug j (mx aH rfl y) (ug j (lE rfl rfl rfl) (V (lf (cB j) rfl) ?_)))))))
   obtain rfl:=sj B
   exact K _ _ ⟨_,(d.kB St),v,A,rfl⟩
  refine bC D (λt D=>?_) (λt D=>?_)
  ·refine un t (un t (un t (un t (un t (V (lb (cB t) rfl) ?_)))))
   obtain rfl:=sj D
   exact M _ _ ⟨_,(d.kB St),a5,s,rfl⟩
  refine ug t (kJ ux a5) (ug t (kF rfl (kL d.has (Mt Mh) (kN a.kz) rfl bI aP)) (ug t (kJ ux s) (ug t (kF rfl (kL d.has Mh (kN c.kz) rfl bI aP)) (ug t (E1 rfl rfl (oX fI) (AK (rD _ a.kz c.kz))) (V (lf (cB t) rfl) ?_)))))
  obtain rfl:=sj D
  exact M _ _ ⟨_,(d.kB St),a5,s,rfl⟩
 refine bC G (λz G=>?_) (λz G=>?_)
 ·refine un z (un z (un z (un z (un z (V (lb (cB z) rfl) ?_)))))
  obtain rfl:=sj G
  exact N _ _ ⟨_,(d.kB St),rfl,rfl,rfl⟩
 refine ug z (kJ uA rfl) (ug z (kF rfl (kV d.has (Mt Mh) rfl bX)) (ug z (kJ uA rfl) (ug z (kF rfl (kV d.has Mh rfl bX)) (ug z (lE rfl rfl rfl) (V (lf (cB z) rfl) ?_)))))
 obtain rfl:=sj G
 exact N _ _ ⟨_,(d.kB St),rfl,rfl,rfl⟩
theorem Al:∀(n:Nat) (g:Formula) (a:Value) (i:Formula) (c:Value) (r:Bool) (w:World) (j:Sl kD 5 (hp w) a g.Kids) (k:Sl kD 5 (hp w) c i.Kids) (_:pj n g i=some r),
  la false pg0 66 [(.agg #[(.int .i64 g.Op),(.int .i64 g.K),(.string g.kz.kA),(.string g.kz.Word),a]),(.agg #[(.int .i64 i.Op),(.int .i64 i.K),(.string i.kz.kA),(.string i.kz.Word),c])] w (.bool r)
 | 0=>by intros; rename_i h; simp only [pj] at h; cases h
 | n+1=>GX (pj n) (Al n)
theorem F6 (a c:Int) (g:Bool) (r:ByteArray) (w:World) (hm:xE a c g=some r) :
  la true pg0 86 [(.int .i64 a),(.int .i64 c),(.bool g)] w (.string r):=by
 refine cG 13 func86 rfl (λd=>sg (Wa (lS (Wm (Wi rfl (ln (CI hm rfl (λi hm=>?_) (λi hm=>?_))))))))
 ·refine sg (Wa (lt (lV ?_)))
  obtain rfl:=sj hm
  exact rP d
 refine kS (Wm (Wi rfl (ln (CI hm rfl (λj hm=>?_) (λj hm=>?_)))))
 ·refine sg (Wa (lt (lV ?_)))
  obtain rfl:=sj hm
  exact rP d
 refine kS (Wm (V (nv rfl) (ln (CI hm rfl (λk hm=>?_) (λk hm=>?_)))))
 ·refine sg (Wa (lt (lV ?_)))
  obtain rfl:=sj hm
  exact rP d
 exact kg (Wa (lt (rQ hm d)))
theorem Ca (a:kz) (r:ByteArray) (w:World) (hm:tV a=some r) :
  la true pg0 159 [(.agg (kN a).toArray)] w (.string r):=by
 refine cG 9 func159 rfl (λd=>sg (VE (ly d rfl (λi j d=>Wa (lr (Wf qR (VB d Mh rfl rfl bT (bS hm λk c hm=>V (lU rfl rfl c) (Wf sU (VB d Mh rfl rfl bT ?_))))))))))
 refine bS hm λt g hm=>V (lU rfl rfl g) (Wa (ln ?_))
 exact lB (rQ hm d)
theorem Kd (g:kC) (r:ByteArray) (w:World) (hm:zK g=some r) :
  la true pg0 87 [(.agg (kI g).toArray)] w (.string r):=by
 refine cG 38 func87 rfl (λd=>sg (VE (ly d rfl (λW2 T d=>Wa (lr (Wf vF (VA d Mh (kN g.Head) bI aP (bS hm λO Z hm=>VE (Eg d call159 (Ca g.Head _ _  Z) (λW5 d=>bS hm λP n hm=>V (lU rfl rfl n) ?_))))))))))
 refine Wa (lS (Wf rY (VB d Mh rfl rfl bX (Wi rfl (ln (CI hm rfl (λY hm=>?_) (λY hm=>?_)))))))
 ·refine sg (Wm (Wf xL (VB d Mh rfl rfl bT (bS hm λR I hm=>V (lU rfl rfl I) (Wa (ln ?_))))))
  replace d:=d.kB (Db St)
  refine lB (lV ?_)
  obtain rfl:=sj hm
  exact rP d
 refine kg (Wm (Wf qq (VA d Mh (kN g.B) bI aP (bS hm λa4 G hm=>VE (Eg d call159 (Ca g.B _ _  G) (λa2 d=>bS hm λp J hm=>V (lU rfl rfl J) (Wa (ln (kQ ?_)))))))))
 refine CJ hm (λx E W=>∃i,ST true lD w W (hp w) ((T,Ol (kI g) 52)::i)∧E 1=(.pointer (some ⟨T,0,none⟩))∧E 3=(.string x)) (λx c=>?_) ?_
 ·refine sg (Wf rY (VB d Mh rfl rfl bX (Wi rfl (ln (CI c rfl (λz c=>?_) (λz c=>?_))))))
  ·refine kR (Wm (Wf wW (VB d Mh rfl rfl bT (bS c λa9 N c=>V (lU rfl rfl N) (bS c λv Q c=>V (lU rfl rfl Q) (Wa (ln ?_)))))))
   obtain rfl:=sj c
   exact ⟨_,(d.kB St),rfl,rfl⟩
  refine kn ?_
  obtain rfl:=sj c
  exact ⟨_,(d.kB St),rfl,rfl⟩
 rintro A E W ⟨i,d,k,t⟩ B
 refine kQ (CJ B (λu E W=>∃j,ST true lD w W (hp w) j∧E 3=(.string u)) (λu a=>?_) ?_)
 ·refine sg (V (kJ rY k) (VB d Mh rfl rfl bX (Wi rfl (ln (CI a rfl (λy a=>?_) (λy a=>?_))))))
  ·refine kR (Wh t (V (kJ uR k) (VA d Mh (kN g.C) bI aP (bS a λa5 H a=>VE (Eg d call159 (Ca g.C _ _  H) (λa3 d=>bS a λq K a=>V (lU rfl rfl K) (bS a λs M a=>V (lU rfl rfl M) (Wa (ln ?_)))))))))
   obtain rfl:=sj a
   exact ⟨_,(d.kB (Db St)),rfl⟩
  refine kn ?_
  obtain rfl:=sj a
  exact ⟨_,(d.kB (Db St)),t⟩
 rintro L E W ⟨j,d,U⟩ D
 exact sg (Wh U (Wa (lt (rQ D d))))
theorem Me (D:Value) (a0 r:List kz) (w:World) (e3:Sl (Pl kN) 2 (hp w) D a0) (hm:DJ a0=some r) :
  oU true pg0 88 [D] w 27 kN 2 r:=by
 refine Az 49 func88 rfl (λn=>sg (Wa (lr (Wa (ln (rZ (me (nn (λm E W=>∃u a3 t c5,ST true lD w W (hp w) (t++c5)∧E 0=D∧E 3=u∧lm 27 kN 2 u a3 t∧uQ a0 m a3=some r) li ⟨(.slice none 0 0),([]),[],_,(n.kB St),rfl,rfl,(lm.nil _ _ _),hm⟩ ?_))))))))
 rintro m E W ⟨u,a3,t,c5,n,d1,g2,J,a5⟩
 cases m with
 | zero=>rw [uQ] at a5; cases a5
 | succ j5=>
  refine bg (VE (lT n fR (λk0 k n=>lr (Wa (lS (Wh d1 ?_))))))
  let b8:Value:=(.pointer (some ⟨k,0,none⟩))
  refine V (mx eX rfl e3) (Wm (ln (CJ a5 (λa9 E W=>∃c6,ST true lD w W (hp w) ((k,Ol (kN a9.2) 27)::(t++c6))∧E 0=D∧E 3=u∧E 4=b8∧E 5=(.bool a9.1)) (λa9 e9=>?_) ?_)))
  ·refine mj (λi E W=>∃G x b1,(E 10= .int .i64 (i:Nat)∧E 9= .int .i64 (a0.length:Nat))∧ST true lD w W (hp w) ((k,Ol (kN x) 27)::(t++b1))∧E 0=D∧E 3=u∧E 4=b8∧E 5=(.bool G)∧E 8=D∧te a3 (a0.drop i) G x=some a9) a0.length e3.len ⟨false,K0,_,⟨rfl,rfl⟩,(n.kB St),d1,g2,rfl,rfl,rfl,e9⟩ dc dc dc (λ_ _ _ h=>by obtain ⟨_,_,_,aa,_⟩:=h; exact aa) ?_ ?_
   ·rintro a2 E W e8 ⟨G,x,b1,⟨A,eN⟩,n,U,M,Y,Z,s,z⟩
    let g5:=((kN x).toArray:Array Value)
    obtain ⟨c,j9,f9,f8,c4⟩:=lX e8
    let c3:=((kN c).toArray:Array Value)
    rw [f9] at z
    refine bg (VQ (th (enc:=kN) (i:=(a2:Int)) (x0:=c) eX aP s A e3 (aM _) f8) (λk9 f3=>V (kF rfl (lx n.has f3 bI aP)) (VE (lT n fR (λk3 K n=>VO (lp (.agg (kN c).toArray) ((kN c).toArray) n rfl rfl aP (wo c) nb rfl (λk4 n=>ln (kQ ?_))))))))
    let j2:Value:=(.int .i64 (a2:Int))
    let j1:Value:=(.int .i64 (a0.length:Int))
    let g6:Value:=(.pointer (some ⟨K,0,none⟩))
    replace n:=n.drew
    have d:=n.has.kB (Kb (Kb (Kr Sn)))
    refine lC d lj (XH 0 rfl d (λ_ q=>kF rfl (kL q Mh (kN c) rfl bI aP)) (bS z λj6 f5 z=>XE 1 rfl (Eg n call160 (wQ c _ _  f5) (λk5 n=>?_))))
    have d:=n.has.kB (Kb (Kb (Kr Sn)))
    refine ⟨d,(X 2 rfl d (kH rfl) (PJ z (λe0 E W=>∃c7,ST true lD w W (hp w) ((K,Obj.cells c3 27 (0,0))::((k,Obj.cells g5 27 (0,0))::(t++c7)))∧E 0=D∧E 3=u∧E 4=b8∧E 5=(.bool G)∧E 7=g6∧E 8=D∧E 9=j1∧E 10=j2∧E 30=(.bool e0)) (bm 26 131071) 9 ?_ (λe0 T c1=>?_)))⟩
    ·rintro j8 E W ⟨c7,n,b2,b3,L,O,P,b4,b5,b6,g8⟩ f0
     have d:=n.has.kB (Kb (Kb (Kr Sn)))
     refine X 17 rfl d (kH g8) (PJ f0 (λd8 E W=>∃c8,ST true lD w W (hp w) ((K,Obj.cells c3 27 (0,0))::((k,Obj.cells g5 27 (0,0))::(t++c8)))∧E 0=D∧E 3=u∧E 4=b8∧E 5=(.bool G)∧E 7=g6∧E 8=D∧E 9=j1∧E 10=j2∧E 39=(.bool d8)) (bm 26 67108863) 0 ?_ (λd8 Q b9=>?_))
     ·rintro l4 E W ⟨c8,n,d3,d4,b7,g9,h0,d5,d6,d7,h1⟩ N
      refine lH kr (kP (CI N h1 (λe7 N=>?_) (λe7 N=>?_)))
      ·refine sg (V (kF h0 (kL n.has Mh (kN c) rfl bI aP)) ?_)
       replace n:=n.perm (Nb (Pb Pz) Nz)
       refine VO (lp (.agg (kN c).toArray) ((kN c).toArray) n b7 rfl aP (wo c) nb rfl (λk6 n=>ln ?_))
       replace n:=n.kB (Kb (Db St))
       exact kR (Wa (lu (lI (kP ⟨d7,true,c,_,⟨rfl,d6⟩,(n.kB St),d3,d4,b7,rfl,d5,(by rw [c4]; exact N)⟩))))
      refine mM (lI (kP ?_))
      replace n:=n.kB (Db St)
      exact ⟨d7,G,x,_,⟨rfl,d6⟩,(n.kB St),d3,d4,b7,g9,d5,(by rw [c4]; exact N)⟩
     refine bC Q (λj Q=>?_) (λj Q=>?_)
     ·refine Xg 18 rfl rfl (cB j) d (kH O) (Xg 19 rfl rfl (cB j) d (nv rfl) (Xg 20 rfl rfl (cB j) d (kH rfl) (PJ Q (λd9 E W=>∃c9,ST true lD w W (hp w) ((K,Obj.cells c3 27 (0,0))::((k,Obj.cells g5 27 (0,0))::(t++c9)))∧E 0=D∧E 3=u∧E 4=b8∧E 5=(.bool G)∧E 7=g6∧E 8=D∧E 9=j1∧E 10=j2∧E 31=(.bool j8)∧E 38=(.bool d9)) (bm 26 33554431) 1 ?_ (λd9 I c0=>?_))))
      ·rintro l5 E W ⟨c9,n,h2,h3,h4,h5,h6,h7,h8,h9,i0,i1⟩ f1
       have d:=n.has.kB (Kb (Kb (Kr Sn)))
       refine X 25 rfl d (lb (i0.trans (cB j)) i1) ?_
       obtain rfl:=sj f1
       refine nf kr (b9 _ _ ⟨_,(n.kB St),h2,h3,h4,h5,h6,h7,h8,h9,rfl⟩)
      refine bC I (λy I=>?_) (λy I=>?_)
      ·refine Xn 21 rfl rfl (cB y) d (Xn 22 rfl rfl (cB y) d (Xn 23 rfl rfl (cB y) d (Xg 24 rfl rfl (cB j) d (lb (cB y) rfl) ?_)))
       obtain rfl:=sj I
       refine nf kr (c0 _ _ ⟨_,(n.kB St),b2,b3,L,O,P,b4,b5,b6,rfl,rfl⟩)
      refine pu 21 rfl rfl (cB y) d (λ_ q=>kF P (kL q Mh (kN c) rfl bI aP)) (pu 22 rfl rfl (cB y) d (λ_ q=>kF L (kL q (Mt Mh) (kN x) rfl bI aP)) (bS I λl1 f6 I=>yq 23 rfl rfl (cB y) (Eg n call161 (Co c x _ _  f6) (λk7 n=>?_))))
      have d:=n.has.kB (Kb (Kb (Kr Sn)))
      refine ⟨d,(Xg 24 rfl rfl (cB j) d (lf (cB y) rfl) ?_)⟩
      obtain rfl:=sj I
      refine nf kr (c0 _ _ ⟨_,(n.kB St),b2,b3,L,O,P,b4,b5,b6,rfl,rfl⟩)
     refine Xn 18 rfl rfl (cB j) d (Xn 19 rfl rfl (cB j) d (Xn 20 rfl rfl (cB j) d (Xu 21 rfl rfl rfl d (Xu 22 rfl rfl rfl d (Xu 23 rfl rfl rfl d (Xn 24 rfl rfl (cB j) d (X 25 rfl d (lf (cB j) rfl) ?_)))))))
     obtain rfl:=sj Q
     refine nf kr (b9 _ _ ⟨_,(n.kB St),b2,b3,L,O,P,b4,b5,b6,rfl⟩)
    refine bC T (λg T=>?_) (λg T=>?_)
    ·refine Xg 3 rfl rfl (cB g) d (kH M) (Xg 4 rfl rfl (cB g) d (qm eX rfl J) (Xg 5 rfl rfl (cB g) d (lE rfl rfl rfl) (Xg 6 rfl rfl (cB g) d (kH rfl) (PJ T (λe1 E W=>∃d0,ST true lD w W (hp w) ((K,Obj.cells c3 27 (0,0))::((k,Obj.cells g5 27 (0,0))::(t++d0)))∧E 0=D∧E 3=u∧E 4=b8∧E 5=(.bool G)∧E 7=g6∧E 8=D∧E 9=j1∧E 10=j2∧E 16=(.bool j6)∧E 29=(.bool e1)) (bm 26 65535) 10 ?_ (λe1 B c2=>?_)))))
     ·rintro l6 E W ⟨d0,n,i2,i3,i4,i5,i6,i7,i8,i9,j0,j3⟩ f2
      have d:=n.has.kB (Kb (Kb (Kr Sn)))
      refine X 16 rfl d (lb (j0.trans (cB g)) j3) ?_
      obtain rfl:=sj f2
      refine nf kr (c1 _ _ ⟨_,(n.kB St),i2,i3,i4,i5,i6,i7,i8,i9,rfl⟩)
     refine bC B (λa B=>?_) (λa B=>?_)
     ·refine Xn 7 rfl rfl (cB a) d (Xn 8 rfl rfl (cB a) d (Xn 9 rfl rfl (cB a) d (Xn 10 rfl rfl (cB a) d (Xn 11 rfl rfl (cB a) d (Xn 12 rfl rfl (cB a) d (Xn 13 rfl rfl (cB a) d (Xn 14 rfl rfl (cB a) d (Xg 15 rfl rfl (cB g) d (lb (cB a) rfl) ?_))))))))
      obtain rfl:=sj B
      refine nf kr (c2 _ _ ⟨_,(n.kB St),U,M,Y,Z,rfl,s,eN,A,rfl,rfl⟩)
     refine Xg 7 rfl rfl (cB a) d (kH M) (Xg 8 rfl rfl (cB a) d (kH M) (Xg 9 rfl rfl (cB a) d (qm eX rfl J) (Xg 10 rfl rfl (cB a) d (lE rfl rfl rfl) (bS B λe2 b0 B=>np 11 rfl kr (.inr ⟨6,false,20,rfl,rfl,by decide,(cB a)⟩) rfl dc (λ_ _ h=>h) d (mh (i:=(wi0 .i64 ((a3.length:Int)-1))) (x0:=e2) eX aP rfl rfl J (kZ b0) (kY b0)) (λl0 f4=>pu 12 rfl rfl (cB a) d (λ_ q=>kF rfl (nC q (λp hq=>(Mt (Mt (Ml hq)))) J zx f4 (kY b0) bI aP)) (pu 13 rfl rfl (cB a) d (λ_ q=>kF rfl (kL q Mh (kN c) rfl bI aP)) (bS B λl2 f7 B=>yq 14 rfl rfl (cB a) (Eg n call161 (Co e2 c _ _  f7) (λk8 n=>?_)))))))))
     have d:=n.has.kB (Kb (Kb (Kr Sn)))
     refine ⟨d,(Xg 15 rfl rfl (cB g) d (lf (cB a) rfl) ?_)⟩
     obtain rfl:=sj B
     refine nf kr (c2 _ _ ⟨_,(n.kB St),U,M,Y,Z,rfl,s,eN,A,rfl,rfl⟩)
    refine Xn 3 rfl rfl (cB g) d (Xn 4 rfl rfl (cB g) d (Xn 5 rfl rfl (cB g) d (Xn 6 rfl rfl (cB g) d (Xu 7 rfl rfl rfl d (Xu 8 rfl rfl rfl d (Xu 9 rfl rfl rfl d (Xu 10 rfl rfl rfl d (Xu 11 rfl rfl rfl d (Xu 12 rfl rfl rfl d (Xu 13 rfl rfl rfl d (Xu 14 rfl rfl rfl d (Xn 15 rfl rfl (cB g) d (X 16 rfl d (lf (cB g) rfl) ?_)))))))))))))
    obtain rfl:=sj T
    refine nf kr (c1 _ _ ⟨_,(n.kB St),U,M,Y,Z,rfl,s,eN,A,rfl⟩)
   rintro E W ⟨G,x,b1,⟨A,eN⟩,n,U,M,Y,Z,s,z⟩
   rw [aO] at z
   refine kP ?_
   obtain rfl:=sj z
   exact ⟨_,(n.kB St),U,M,Y,Z⟩
  rintro ⟨l3,a4⟩ E W ⟨c6,n,g3,d2,g4,g7⟩ H
  refine kQ (sg (Wh g7 (V (nv rfl) (ln (CI H rfl (λe5 H=>?_) (λe5 H=>?_))))))
  ·refine sg (Wh d2 (Wa (ln ?_)))
   replace n:=n.kB (Db St)
   refine lB (lV (nU (lV (nU (lV ?_)))))
   obtain rfl:=sj H
   exact nq (v:=u) rfl rfl ⟨_,t,rfl,n.sI (λp hq=>(Ml hq)) J.nd,J⟩
  refine kn (kR (Wh d2 (V (kF g4 (kL n.has Mh (kN a4) rfl bI aP)) (VE (lJ (cs:=(kN a4).toArray) n (nL rfl) (oa eX aP fR) (λk1 g1 n=>?_))))))
  replace n:=n.perm (Nr (Qb (Qb Qz)) Nz)
  refine bS H λj4 e6 H=>VE (pK (enc:=kN) (v:=u) (vs:=(.slice (some ⟨g1,0,none⟩) 1 1)) (R:=t) n zx dc wo eX Bp.1 Bp.2.1 rfl Bp.2.2.1 Bp.2.2.2 rfl rfl J (Sl.lit (enc:=kN) (l:=[a4]) zx rfl nb rfl (n.at_ (Ma Mh))) e6 (λk2 j7 g0 n e4=>Wa (lu (lI (kP ?_)))))
  replace n:=n.kB (Kr (Db (Db St)))
  exact ⟨j5,aT _,j7,j4,g0,_,(n.kB St),g3,rfl,e4,H⟩
theorem Fg (x:Value) (B:List mn) (j:kz) (r:Int) (w:World) (u:Sl ls 8 (hp w) x B) (hm:zd B j=some r) :
  la true pg0 89 [x,(.agg (kN j).toArray)] w (.int .i64 r):=by
 refine cG 20 func89 rfl (λd=>sg (VE (ly d rfl (λW2 U d=>Wa (lS (Wm (V (mx cH rfl u) (Wm (ln ?_)))))))))
 refine mj (λi E W=>∃g,(E 9= .int .i64 (i:Nat)∧E 8= .int .i64 (B.length:Nat))∧ST true lD w W (hp w) ((U,Ol (kN j) 27)::g)∧E 3=(.pointer (some ⟨U,0,none⟩))∧E 7=x∧tF j (B.drop i) i=some r) B.length u.len ⟨_,⟨rfl,rfl⟩,(d.kB St),rfl,rfl,hm⟩ dc dc dc (λ_ _ _ h=>by obtain ⟨_,p,_⟩:=h; exact p) ?_ ?_
 ·rintro Y E W M ⟨g,⟨n,q⟩,d,k,t,a⟩
  obtain ⟨c,v,Q,N,T⟩:=lX M
  rw [Q] at a
  refine bg (Wh n (VQ (mo (i:=(Y:Int)) (x0:=c) ls.out cH cD t n u (aM _) N) (λa4 ⟨_,⟨a5,s,rfl,J,K⟩,I⟩=>V (kF rfl (lx d.has I fB cD)) (VE (lT d fQ (λZ a3 d=>Wa ?_))))))
  obtain ⟨y,D,rfl⟩:=J.form
  obtain ⟨z,G,rfl⟩:=K.form
  let a0:=(C5 c.kz.kA c.kz.Word c.kE.Op c.kE.K c.kE.kz.kA c.kE.kz.Word y c.kE.Kids.length D z c.lN.length G)
  refine VO (lp (.agg a0.toArray) (a0.toArray) d rfl rfl cD oc nb rfl (λa2 d=>lr (Wf ya (VA d Mh (kN c.kz) bI aP (V (kF k (kL d.has (Mt Mh) (kN j) rfl bI aP)) (V (wD rfl rfl (oX fI) (tE (rD _ c.kz j))) (ln ?_)))))))
  replace d:=d.kB (Db St)
  refine CI a rfl (λH a=>?_) (λH a=>?_)
  ·refine sg (Wm (Wa (ln ?_)))
   replace d:=d.kB (Db St)
   refine lB (nU (lV (nU (lV ?_))))
   obtain rfl:=sj a
   exact rP d
  exact mM (lI (kP ⟨n,_,⟨rfl,q⟩,(d.kB St),k,t,(by rw [T]; exact a)⟩))
 rintro E W ⟨g,⟨n,q⟩,d,k,t,a⟩
 rw [aO] at a
 refine kP ?_
 replace d:=d.kB (Db St)
 exact sg (Wa (lt (rQ a d)))
theorem Ln (t:Value) (y:List kC) (u:Value) (K:List kC) (r:Bool) (w:World) (c:Sl (Pl kI) 9 (hp w) t y) (z:Sl (Pl kI) 9 (hp w) u K) (hm:vX y K=some r) :
  la true pg0 90 [t,u] w (.bool r):=by
 refine cG 26 func90 rfl (λn=>sg (Wa (lS (Wm (V (mx aX rfl c) (Wm (V (mx aX rfl z) (Wi rfl (lu ?_)))))))))
 refine kP (CI hm rfl (λU hm=>?_) (λU hm=>?_))
 ·refine sg (Wa (lt (lV ?_)))
  obtain rfl:=sj hm
  exact rP n
 refine kS (Wm (V (mx aX rfl c) (Wm (ln (mj (λi E W=>∃g,(E 13= .int .i64 (i:Nat)∧E 12= .int .i64 (y.length:Nat))∧ST true lD w W (hp w) g∧E 0=t∧E 1=u∧ui K (y.drop i) i=some r) y.length c.len ⟨_,⟨rfl,rfl⟩,(n.kB St),rfl,rfl,hm⟩ dc dc dc (λ_ _ _ h=>by obtain ⟨_,q,_⟩:=h; exact q) ?_ ?_)))))
 ·rintro I E W M ⟨g,⟨p,v⟩,n,j,k,a⟩
  obtain ⟨J,a3,Q,N,T⟩:=lX M
  rw [Q] at a
  refine bg (Wh p (Wa (ln (kQ ?_))))
  replace n:=n.drew
  have d:=n.has.kB Sn
  refine lC d lj (X 0 rfl d (kH j) (X 1 rfl d (kH rfl) (XQ 2 rfl d (th (enc:=kI) (i:=(I:Int)) (x0:=J) aX aR rfl rfl c (aM _) N) (λY G=>XH 3 rfl d (λ_ s=>kF rfl (lx s G cA aR)) (X 4 rfl d (kH k) (X 5 rfl d (kH rfl) (bS a λB x a=>XQ 6 rfl d (th (enc:=kI) (i:=(I:Int)) (x0:=B) aX aR rfl rfl z (kZ x) (kY x)) (λZ H=>XH 7 rfl d (λ_ s=>kF rfl (lx s H cA aR)) (X 8 rfl d (E1 rfl rfl (oX gm) (AK (wJ _ J B))) (lH kr (kP (CI a rfl (λD a=>?_) (λD a=>?_)))))))))))))
  ·refine sg (Wa (lt (nU (lV (nU (lV ?_))))))
   obtain rfl:=sj a
   exact rP n
  exact mM (lI (kP ⟨p,_,⟨rfl,v⟩,(n.kB St),j,k,(by rw [T]; exact a)⟩))
 rintro E W ⟨g,⟨p,v⟩,n,j,k,a⟩
 rw [aO] at a
 exact kP (sg (Wa (lt (rQ a n))))
set_option maxHeartbeats 4000000 in
theorem yW (x:lZ) (e7 f3:Value) (z:lZ) (e8 f4:Value) (r:ByteArray) (w:World) (U:Sl kX 15 (hp w) e7 x.kM) (a6:Sl ls 8 (hp w) f3 x.kU) (Y:Sl kX 15 (hp w) e8 z.kM) (a7:Sl ls 8 (hp w) f4 z.kU) (hm:qY x z=some r) :
  la false pg0 28 [(.agg #[(.string x.Name),e7,f3]),(.agg #[(.string z.Name),e8,f4])] w (.string r):=by
 refine cG 201 func28 rfl (λn=>sg ?_)
 obtain ⟨A1,c2,rfl⟩:=U.form
 obtain ⟨A3,c4,rfl⟩:=a6.form
 refine VE (ly n rfl (λW6 L n=>?_))
 obtain ⟨A7,c8,rfl⟩:=Y.form
 obtain ⟨A9,b2,rfl⟩:=a7.form
 refine VE (ly n rfl (λhk H n=>Wa (lr (Wa (ln (kQ (kQ ?_)))))))
 replace n:=n.drew
 have d:=n.has.kB (Kb (Kb Sn))
 refine lC d lj (X 1 rfl d (kJ sV rfl) (XH 2 rfl d (λ_ q=>kF rfl (kV q (Mt Mh) rfl gL)) (X 4 rfl d (kJ sV rfl) (XH 5 rfl d (λ_ q=>kF rfl (kV q Mh rfl gL)) (X 8 rfl d (kH rfl) (XE 0 rfl (lJ (cs:=#[]) n uC (A0 [] cS cO fL dc rfl (by simp) rfl rfl) (λhl db n=>?_))))))))
 have d:=n.has.kB (Db (Kb (Kb Sn)))
 refine ⟨d,(bS hm λhr cu hm=>XE 3 rfl (tX (B:=[(db,Ob #[] 57)]) lg n dc cS Bu.1 Bu.2.1 rfl Bu.2.2.1 Bu.2.2.2 rfl rfl (ml.lit lg (l:=[]) .nil rfl nb rfl) (AB.sl lg U n.kG) cu (λhn hs cz n ct=>?_)))⟩
 let P:=((C4 x.Name A1 x.kM.length c2 A3 x.kU.length c4).toArray:Array Value)
 let a0:=((C4 z.Name A7 z.kM.length c8 A9 z.kU.length b2).toArray:Array Value)
 have d:=n.has.kB (Dr (Kb (Kb Sn)))
 refine ⟨d,(bS hm λau cv hm=>XE 6 rfl (tX (B:=cz) lg n dc cS Bu.1 Bu.2.1 rfl Bu.2.2.1 Bu.2.2.2 rfl rfl ct (AB.sl lg Y n.kG) cv (λho dn da n o4=>?_)))⟩
 have d:=n.has.kB (Dr (Kb (Kb Sn)))
 refine ⟨d,(X 7 rfl d (wA cS rfl o4) (lH kr (kP (mj (λi E W=>∃f2 h8 h4 n9,(E 32= .int .i64 (i:Nat)∧E 31= .int .i64 (au.length:Nat))∧ST false lD w W (hp w) ((H,Obj.cells a0 25 (0,0))::((L,Obj.cells P 25 (0,0))::(h4++(da++n9))))∧E 2=(.pointer (some ⟨L,0,none⟩))∧E 3=(.pointer (some ⟨H,0,none⟩))∧E 5=f2∧E 30=dn∧lm 52 kI 9 f2 h8 h4∧rG x z (au.drop i) h8=some r) au.length o4.len ⟨(.slice none 0 0),([]),[],_,⟨rfl,rfl⟩,(n.kB (Sb (Pr Pz) (Sb (Pr Pz) St))),rfl,rfl,rfl,rfl,(lm.nil _ _ _),hm⟩ dc dc dc (λ_ _ _ h=>by obtain ⟨_,_,_,_,A,_⟩:=h; exact A) ?_ ?_))))⟩
 ·rintro cw E W bz ⟨f2,h8,h4,n9,⟨s,O⟩,n,o0,o1,o2,o3,l3,Z⟩
  obtain ⟨k,ha,cf,ce,cg⟩:=lX bz
  rw [cf] at Z
  refine bg (VQ (mS (i:=(cw:Int)) kX.out cS cO o3 s o4 (aM _) ce) (λhh ⟨_,⟨hi,hj,rfl,cc,cd⟩,ca,ep⟩=>V (kF rfl (lx (pB.hp _) (ca.mono (nZ (λb o hq=>n.has.2 b o (Mt (Mt (Ma (Ml hq))))))) fP cO)) (VE (lT n fL (λhb hg n=>?_)))))
  obtain ⟨u0,u2,rfl⟩:=cc.form
  obtain ⟨u1,u3,rfl⟩:=cd.form
  let d7:=(C3 k.Signed.kC.Kind k.Signed.kC.Head.kA k.Signed.kC.Head.Word k.Signed.kC.mC k.Signed.kC.B.kA k.Signed.kC.B.Word k.Signed.kC.C.kA k.Signed.kC.C.Word k.Signed.kC.mA u0 k.Signed.Tag.length u2 k.kE.Op k.kE.K k.kE.kz.kA k.kE.kz.Word u1 k.kE.Kids.length u3)
  refine VO (lp (.agg d7.toArray) (d7.toArray) n rfl rfl cO oc nb rfl (λhc n=>ln (kR (Wh o2 (Wf vg (Wf yD (VA n Mh (kI k.Signed.kC) cA aR (VE (lJ (cs:=(kI k.Signed.kC).toArray) n (nL rfl) (oa aX aR dT) (λhd cr n=>?_))))))))))
  replace n:=n.perm (Nr (Qb (Qb (Qb (Qb Qz)))) Nz)
  refine bS Z λcx bx Z=>VE (pK (enc:=kI) (v:=f2) (vs:=(.slice (some ⟨cr,0,none⟩) 1 1)) (R:=h4) n mQ dc qM aX qG.1 qG.2.1 rfl qG.2.2.1 qG.2.2.2 rfl rfl l3 (Sl.lit (enc:=kI) (l:=[k.Signed.kC]) mQ rfl nb rfl (n.at_ (Ma Mh))) bx (λhe cy cq n bw=>Wa (lu (lI (kP ?_)))))
  replace n:=n.kB (Kr (Db (Db St)))
  exact ⟨s,cy,cx,cq,_,⟨rfl,O⟩,(n.kB (Sb (Pr Pz) (Sb (Pr Pz) St))),o0,o1,rfl,o3,bw,(by rw [cg]; exact Z)⟩
 rintro E W ⟨f2,h8,h4,n9,⟨s,O⟩,n,o0,o1,o2,o3,l3,Z⟩
 rw [aO] at Z
 refine kP ?_
 replace n:=n.kB (Kb (Kb (Kr (Dr St))))
 refine sg (Wa (lS (Wh o2 (bS Z λf1 cb Z=>VE (As n call84 (oU.mK (LP f2 h8 _ _ (l3.sl mQ (λb o hq=>n.at_ (Mt (Mt (Ml hq))))) cb)) (λhf l8 d6 i8 n G eR g8=>V (qm aX rfl g8) (Wm (ln ?_))))))))
 let e3:Value:=(.int .i64 (f1.length:Int))
 replace n:=n.kB (Kr (Kb (Kb (Dr St))))
 let a8:Value:=(.pointer (some ⟨L,0,none⟩))
 let b8:Value:=(.pointer (some ⟨H,0,none⟩))
 refine CJ Z (λl7 E W=>∃o7,ST false lD w W d6 ((H,Obj.cells a0 25 (0,0))::((L,Obj.cells P 25 (0,0))::o7))∧E 2=a8∧E 3=b8∧E 8=(.string l7)) (λl7 v9=>?_) ?_
 ·refine mj (λi E W=>∃b4 i6,(E 46= .int .i64 (i:Nat)∧E 45= .int .i64 (f1.length:Nat))∧ST false lD w W d6 ((H,Obj.cells a0 25 (0,0))::((L,Obj.cells P 25 (0,0))::(i8++i6)))∧E 2=a8∧E 3=b8∧E 8=(.string b4)∧E 44=l8∧rH x z (f1.drop i) b4=some l7) f1.length g8.len ⟨zS,_,⟨rfl,rfl⟩,(n.kB (Sb (Pr Pz) (Sb (Pr Pz) St))),o0,o1,rfl,rfl,v9⟩ dc dc dc (λ_ _ _ h=>by obtain ⟨_,_,A,_⟩:=h; exact A) ?_ ?_
  ·rintro h0 E W v3 ⟨b4,i6,⟨s,O⟩,n,e4,e5,g0,g1,M⟩
   let g6:Value:=(.int .i64 (h0:Int))
   obtain ⟨Q,dr,ar,n3,n4⟩:=lX v3
   let e0:=((kI Q).toArray:Array Value)
   rw [ar] at M
   refine bg (VQ (mh (i:=(h0:Int)) (x0:=Q) aX aR g1 s g8 (aM _) n3) (λfd x3=>V (kF rfl (nC n.has (λp hq=>(Mt (Mt (Ml hq)))) g8 mQ x3 n3 cA aR)) (VE (lT n dT (λeh c3 n=>VO (lp (.agg (kI Q).toArray) ((kI Q).toArray) n rfl rfl aR (qM Q) nb rfl (λei n=>ln (kQ ?_))))))))
   let e1:Value:=(.pointer (some ⟨c3,0,none⟩))
   replace n:=n.drew
   have d:=n.has.kB (Kb (Kb (Kb Sn)))
   refine lC d lj (X 0 rfl d (kJ sV e4) (XH 1 rfl d (λ_ q=>kF rfl (kV q (Mt (Mt Mh)) rfl gL)) (XH 2 rfl d (λ_ q=>kF rfl (kL q Mh (kI Q) rfl cA aR)) (X 4 rfl d (kJ sV e5) (XH 5 rfl d (λ_ q=>kF rfl (kV q (Mt Mh) rfl gL)) (XH 6 rfl d (λ_ q=>kF rfl (kL q Mh (kI Q) rfl cA aR)) (bS M λc9 z0 M=>XE 3 rfl (Eg n call85 (la.mK (FL (.slice A1 x.kM.length c2) x.kM Q _ _ (U.mono lg.mono (G.trans n.kG)) z0)) (λej n=>?_)))))))))
   have d:=n.has.kB (Kb (Kb (Kb Sn)))
   refine ⟨d,(bS M λd0 z1 M=>XE 7 rfl (Eg n call85 (la.mK (FL (.slice A7 z.kM.length c8) z.kM Q _ _ (Y.mono lg.mono (G.trans n.kG)) z1)) (λek n=>?_)))⟩
   have d:=n.has.kB (Kb (Kb (Kb Sn)))
   refine ⟨d,(X 8 rfl d (mU rfl) (X 9 rfl d (mU rfl) (lH kr (kP (kQ ?_)))))⟩
   replace n:=n.drew
   have d:=n.has.kB (Db (Kb (Kb Sn)))
   refine lC d lj (X 0 rfl d (kH rfl) (X 1 rfl d (lE rfl rfl rfl) (X 2 rfl d (kH rfl) (PJ M (λt3 E W=>∃p3,ST false lD w W d6 ((c3,Obj.cells e0 52 (0,0))::((H,Obj.cells a0 25 (0,0))::((L,Obj.cells P 25 (0,0))::(i8++p3))))∧E 2=a8∧E 3=b8∧E 8=(.string b4)∧E 10=e1∧E 11=(.int .i64 c9)∧E 12=(.int .i64 d0)∧E 44=l8∧E 45=e3∧E 46=g6∧E 63=(.bool t3)) (bm 41 63) 35 ?_ (λt3 b9 i3=>?_)))))
   ·rintro gy E W ⟨p3,n,g2,g3,k4,k5,g4,g7,k6,k7,k8,bp⟩ w0
    have d:=n.has.kB (Db (Kb (Kb Sn)))
    refine X 6 rfl d (kH bp) (PJ w0 (λt2 E W=>∃p4,ST false lD w W d6 ((c3,Obj.cells e0 52 (0,0))::((H,Obj.cells a0 25 (0,0))::((L,Obj.cells P 25 (0,0))::(i8++p4))))∧E 2=a8∧E 3=b8∧E 8=(.string b4)∧E 10=e1∧E 11=(.int .i64 c9)∧E 12=(.int .i64 d0)∧E 44=l8∧E 45=e3∧E 46=g6∧E 82=(.bool t2)) (bm 41 33554431) 16 ?_ (λt2 T f0=>?_))
    ·rintro gz E W ⟨p4,n,k9,l0,r7,r8,l1,l2,r9,s0,s1,bq⟩ w1
     have d:=n.has.kB (Db (Kb (Kb Sn)))
     refine X 25 rfl d (kH bq) (PJ w1 (λt1 E W=>∃p5,ST false lD w W d6 ((c3,Obj.cells e0 52 (0,0))::((H,Obj.cells a0 25 (0,0))::((L,Obj.cells P 25 (0,0))::(i8++p5))))∧E 2=a8∧E 3=b8∧E 8=(.string b4)∧E 10=e1∧E 11=(.int .i64 c9)∧E 12=(.int .i64 d0)∧E 44=l8∧E 45=e3∧E 46=g6∧E 97=(.bool t1)) (bm 41 1099511627775) 1 ?_ (λt1 N i2=>?_))
     ·rintro cp E W ⟨p5,n,s2,s3,s4,bs,bt,bu,s5,s6,s7,bv⟩ D
      have d:=n.has.kB (Db (Kb (Kb Sn)))
      refine X 40 rfl d (mU bv) (lH kr (kP (sg (Wh bt (Wh bu (Wm (bS D λfu z2 D=>VE (Eg n call86 (la.mK (F6 c9 d0 cp _ _  z2)) (λel n=>Wa (lr ?_))))))))))
      refine Wm (V (qe rfl rfl rfl) (ln (CI D rfl (λv0 D=>?_) (λv0 D=>?_))))
      ·refine kR (Wh s4 (Wm (V (kF bs (kL n.has Mh (kI Q) rfl cA aR)) (bS D λfv z3 D=>VE (Eg n call87 (la.mK (Kd Q _ _  z3)) (λem n=>bS D λgd ai D=>V (lU rfl rfl ai) (bS D λge aj D=>V (lU rfl rfl aj) (bS D λcl ak D=>V (lU rfl rfl ak) (Wa (lu (lI ?_)))))))))))
       refine kP ?_
       replace n:=n.kB (Db St)
       exact ⟨s7,cl,_,⟨rfl,s6⟩,(n.kB St),s2,s3,rfl,s5,(by rw [n4]; exact D)⟩
      refine mM (lI (kP ?_))
      replace n:=n.kB (Db St)
      exact ⟨s7,b4,_,⟨rfl,s6⟩,(n.kB St),s2,s3,s4,s5,(by rw [n4]; exact D)⟩
     refine bC N (λj N=>?_) (λj N=>?_)
     ·refine Xg 26 rfl rfl (cB j) d (kJ sV k9) (pu 27 rfl rfl (cB j) d (λ_ q=>kF rfl (kV q (Mt Mh) rfl gL)) (Xg 28 rfl rfl (cB j) d (kH l1) (bS N λd4 n5 N=>np 29 rfl kr (.inr ⟨25,true,83,rfl,rfl,by decide,(cB j)⟩) rfl dc (λ_ _ h=>h) d (mo (i:=c9) (x0:=d4) kX.out cS cO rfl rfl (U.mono lg.mono G) (kZ n5) (kY n5)) (λfe ⟨_,⟨go,t6,rfl,dj,al⟩,x4⟩=>np 30 rfl kr (.inr ⟨25,true,83,rfl,rfl,by decide,(cB j)⟩) rfl dc (λ_ _ h=>h) d (pE [(.int .i64 d4.kE.Op),(.int .i64 d4.kE.K),(.string d4.kE.kz.kA),(.string d4.kE.kz.Word),t6] Cy rfl x4 rfl) (λff x5=>pu 31 rfl rfl (cB j) d (λ_ q=>kF rfl (lx q x5 aZ aG)) (Xg 32 rfl rfl (cB j) d (kJ sV l0) (pu 33 rfl rfl (cB j) d (λ_ q=>kF rfl (kV q Mh rfl gL)) (Xg 34 rfl rfl (cB j) d (kH l2) (bS N λd5 n6 N=>np 35 rfl kr (.inr ⟨25,true,83,rfl,rfl,by decide,(cB j)⟩) rfl dc (λ_ _ h=>h) d (mo (i:=d0) (x0:=d5) kX.out cS cO rfl rfl (Y.mono lg.mono G) (kZ n6) (kY n6)) (λfg ⟨_,⟨gq,t7,rfl,dk,am⟩,x6⟩=>np 36 rfl kr (.inr ⟨25,true,83,rfl,rfl,by decide,(cB j)⟩) rfl dc (λ_ _ h=>h) d (pE [(.int .i64 d5.kE.Op),(.int .i64 d5.kE.K),(.string d5.kE.kz.kA),(.string d5.kE.kz.Word),t7] Cy rfl x6 rfl) (λfh x7=>pu 37 rfl rfl (cB j) d (λ_ q=>kF rfl (lx q x7 aZ aG)) (bS N λfw z4 N=>?_))))))))))))
      refine yq 38 rfl rfl (cB j) (Eg n call66 ((Al li) d4.kE t6 d5.kE t7 _ _ (al.mono kT.mono n.kG) (am.mono kT.mono n.kG) z4) (λen n=>?_))
      have d:=n.has.kB (Db (Kb (Kb Sn)))
      refine ⟨d,(X 39 rfl d (lb (cB j) rfl) ?_)⟩
      obtain rfl:=sj N
      refine nf kr (i2 _ _ ⟨_,(n.kB St),k9,l0,r7,r8,l1,l2,r9,s0,s1,rfl⟩)
     refine Xn 26 rfl rfl (cB j) d (Xn 27 rfl rfl (cB j) d (Xn 28 rfl rfl (cB j) d (Xn 29 rfl rfl (cB j) d (Xn 30 rfl rfl (cB j) d (Xn 31 rfl rfl (cB j) d (Xn 32 rfl rfl (cB j) d (Xn 33 rfl rfl (cB j) d (Xn 34 rfl rfl (cB j) d (Xn 35 rfl rfl (cB j) d (Xn 36 rfl rfl (cB j) d (Xn 37 rfl rfl (cB j) d (Xn 38 rfl rfl (cB j) d (X 39 rfl d (lf (cB j) rfl) ?_)))))))))))))
     obtain rfl:=sj N
     refine nf kr (i2 _ _ ⟨_,(n.kB St),k9,l0,r7,r8,l1,l2,r9,s0,s1,rfl⟩)
    refine bC T (λa T=>?_) (λa T=>?_)
    ·refine Xg 7 rfl rfl (cB a) d (kJ sV g2) (pu 8 rfl rfl (cB a) d (λ_ q=>kF rfl (kV q (Mt Mh) rfl gL)) (Xg 9 rfl rfl (cB a) d (kH g4) (bS T λa4 n7 T=>np 10 rfl kr (.inr ⟨6,true,64,rfl,rfl,by decide,(cB a)⟩) rfl dc (λ_ _ h=>h) d (mo (i:=c9) (x0:=a4) kX.out cS cO rfl rfl (U.mono lg.mono G) (kZ n7) (kY n7)) (λfi ⟨_,⟨m1,gr,rfl,m5,dl⟩,x8⟩=>np 11 rfl kr (.inr ⟨6,true,64,rfl,rfl,by decide,(cB a)⟩) rfl dc (λ_ _ h=>h) d (pE [(.int .i64 a4.Signed.kC.Kind),(.string a4.Signed.kC.Head.kA),(.string a4.Signed.kC.Head.Word),(.string a4.Signed.kC.mC),(.string a4.Signed.kC.B.kA),(.string a4.Signed.kC.B.Word),(.string a4.Signed.kC.C.kA),(.string a4.Signed.kC.C.Word),(.string a4.Signed.kC.mA),m1] vg rfl x8 rfl) (λfj x9=>np 12 rfl kr (.inr ⟨6,true,64,rfl,rfl,by decide,(cB a)⟩) rfl dc (λ_ _ h=>h) d (pE [m1] D6 rfl x9 rfl) (λfk y0=>pu 13 rfl rfl (cB a) d (λ_ q=>kF rfl (pO q (y:=m1) y0 gI)) (Xg 15 rfl rfl (cB a) d (kJ sV g3) (pu 16 rfl rfl (cB a) d (λ_ q=>kF rfl (kV q Mh rfl gL)) (Xg 17 rfl rfl (cB a) d (kH g7) (bS T λa5 n8 T=>np 18 rfl kr (.inr ⟨6,true,64,rfl,rfl,by decide,(cB a)⟩) rfl dc (λ_ _ h=>h) d (mo (i:=d0) (x0:=a5) kX.out cS cO rfl rfl (Y.mono lg.mono G) (kZ n8) (kY n8)) (λfl ⟨_,⟨m2,gs,rfl,m6,dm⟩,y1⟩=>np 19 rfl kr (.inr ⟨6,true,64,rfl,rfl,by decide,(cB a)⟩) rfl dc (λ_ _ h=>h) d (pE [(.int .i64 a5.Signed.kC.Kind),(.string a5.Signed.kC.Head.kA),(.string a5.Signed.kC.Head.Word),(.string a5.Signed.kC.mC),(.string a5.Signed.kC.B.kA),(.string a5.Signed.kC.B.Word),(.string a5.Signed.kC.C.kA),(.string a5.Signed.kC.C.Word),(.string a5.Signed.kC.mA),m2] vg rfl y1 rfl) (λfo y2=>np 20 rfl kr (.inr ⟨6,true,64,rfl,rfl,by decide,(cB a)⟩) rfl dc (λ_ _ h=>h) d (pE [m2] D6 rfl y2 rfl) (λfp y3=>?_)))))))))))))
     refine pu 21 rfl rfl (cB a) d (λ_ q=>kF rfl (pO q (y:=m2) y3 gI)) (D8 14 22 rfl rfl kr (.inr ⟨6,true,64,rfl,rfl,by decide,(cB a)⟩) (.inr ⟨6,true,64,rfl,rfl,by decide,(cB a)⟩) rfl rfl dc dc ?_ ?_)
     ·refine .inl ⟨_,_,uO cC dU bN rfl (m5.mono (Pl.mono _) n.kG),⟨d,(IY 22 rfl kr (.inr ⟨6,true,64,rfl,rfl,by decide,(cB a)⟩) rfl dc (.inl ⟨_,_,uO cC dU bN rfl (m6.mono (Pl.mono _) n.kG),⟨d,(Xg 23 rfl rfl (cB a) d (qe rfl rfl rfl) (X 24 rfl d (lb (cB a) rfl) ?_))⟩⟩))⟩⟩
      obtain rfl:=sj T
      refine nf kr (f0 _ _ ⟨_,(n.kB St),g2,g3,k4,k5,g4,g7,k6,k7,k8,rfl⟩)
     ·refine .inl ⟨_,_,uO cC dU bN rfl (m6.mono (Pl.mono _) n.kG),⟨d,(IY 14 rfl kr (.inr ⟨6,true,64,rfl,rfl,by decide,(cB a)⟩) rfl dc (.inl ⟨_,_,uO cC dU bN rfl (m5.mono (Pl.mono _) n.kG),⟨d,(Xg 23 rfl rfl (cB a) d (qe rfl rfl rfl) (X 24 rfl d (lb (cB a) rfl) ?_))⟩⟩))⟩⟩
      obtain rfl:=sj T
      refine nf kr (f0 _ _ ⟨_,(n.kB St),g2,g3,k4,k5,g4,g7,k6,k7,k8,rfl⟩)
    refine Xn 7 rfl rfl (cB a) d (Xn 8 rfl rfl (cB a) d (Xn 9 rfl rfl (cB a) d (Xn 10 rfl rfl (cB a) d (Xn 11 rfl rfl (cB a) d (Xn 12 rfl rfl (cB a) d (Xn 13 rfl rfl (cB a) d (Xn 14 rfl rfl (cB a) d (Xn 15 rfl rfl (cB a) d (Xn 16 rfl rfl (cB a) d (Xn 17 rfl rfl (cB a) d (Xn 18 rfl rfl (cB a) d (Xn 19 rfl rfl (cB a) d (Xn 20 rfl rfl (cB a) d (Xn 21 rfl rfl (cB a) d ?_))))))))))))))
    refine Xn 22 rfl rfl (cB a) d (Xn 23 rfl rfl (cB a) d (X 24 rfl d (lf (cB a) rfl) ?_))
    obtain rfl:=sj T
    refine nf kr (f0 _ _ ⟨_,(n.kB St),g2,g3,k4,k5,g4,g7,k6,k7,k8,rfl⟩)
   refine bC b9 (λb1 b9=>?_) (λb1 b9=>?_)
   ·refine Xg 3 rfl rfl (cB b1) d (kH rfl) (Xg 4 rfl rfl (cB b1) d (lE rfl rfl rfl) (X 5 rfl d (lb (cB b1) rfl) ?_))
    obtain rfl:=sj b9
    refine nf kr (i3 _ _ ⟨_,(n.kB St),e4,e5,g0,rfl,rfl,rfl,g1,O,s,rfl⟩)
   refine Xn 3 rfl rfl (cB b1) d (Xn 4 rfl rfl (cB b1) d (X 5 rfl d (lf (cB b1) rfl) ?_))
   obtain rfl:=sj b9
   refine nf kr (i3 _ _ ⟨_,(n.kB St),e4,e5,g0,rfl,rfl,rfl,g1,O,s,rfl⟩)
  rintro E W ⟨b4,i6,⟨s,O⟩,n,e4,e5,g0,g1,M⟩
  rw [aO] at M
  refine kP ?_
  obtain rfl:=sj M
  exact ⟨_,(n.kB (Kb (Kb (Dr St)))),e4,e5,g0⟩
 rintro m4 E W ⟨o7,n,p8,p9,bc⟩ b6
 refine sg (Wa (ln (kQ (kQ ?_))))
 replace n:=n.drew
 have d:=n.has.kB (Kb (Kb Sn))
 refine lC d lj (X 1 rfl d (kJ uY p8) (XH 2 rfl d (λ_ q=>kF rfl (kV q (Mt Mh) rfl ie)) (X 4 rfl d (kJ uY p9) (XH 5 rfl d (λ_ q=>kF rfl (kV q Mh rfl ie)) (X 8 rfl d (kH rfl) (XE 0 rfl (lJ (cs:=#[]) n uC (A0 [] cH cD fQ dc rfl (by simp) rfl rfl) (λds az n=>?_))))))))
 have d:=n.has.kB (Db (Kb (Kb Sn)))
 refine ⟨d,(bS b6 λer u6 b6=>XE 3 rfl (tX (B:=[(az,Ob #[] 132)]) mf n dc cH vw.1 vw.2.1 rfl vw.2.2.1 vw.2.2.2 rfl rfl (ml.lit mf (l:=[]) .nil rfl nb rfl) (AB.sl mf (a6.mono mf.mono G) n.kG) u6 (λdt gf av n u4=>?_)))⟩
 have d:=n.has.kB (Dr (Kb (Kb Sn)))
 refine ⟨d,(bS b6 λl4 u7 b6=>XE 6 rfl (tX (B:=av) mf n dc cH vw.1 vw.2.1 rfl vw.2.2.1 vw.2.2.2 rfl rfl u4 (AB.sl mf (a7.mono mf.mono G) n.kG) u7 (λdu cm aw n h5=>?_)))⟩
 have d:=n.has.kB (Dr (Kb (Kb Sn)))
 refine ⟨d,(X 7 rfl d (wA cH rfl h5) (lH kr (kP (CJ b6 (λl6 E W=>∃h2 i7 o8,ST false lD w W d6 ((H,Obj.cells a0 25 (0,0))::((L,Obj.cells P 25 (0,0))::(i7++o8)))∧E 2=a8∧E 3=b8∧E 8=(.string m4)∧E 15=h2∧lm 27 kN 2 h2 l6 i7) (λl6 v8=>?_) ?_))))⟩
 ·refine mj (λi E W=>∃d1 h1 c0 i5,(E 120= .int .i64 (i:Nat)∧E 119= .int .i64 (l4.length:Nat))∧ST false lD w W d6 ((H,Obj.cells a0 25 (0,0))::((L,Obj.cells P 25 (0,0))::(c0++(aw++i5))))∧E 2=a8∧E 3=b8∧E 8=(.string m4)∧E 15=d1∧E 118=cm∧lm 27 kN 2 d1 h1 c0∧tp (l4.drop i) h1=some l6) l4.length h5.len ⟨(.slice none 0 0),([]),[],_,⟨rfl,rfl⟩,(n.kB (Sb (Pr Pz) (Sb (Pr Pz) St))),p8,p9,bc,rfl,rfl,(lm.nil _ _ _),v8⟩ dc dc dc (λ_ _ _ h=>by obtain ⟨_,_,_,_,A,_⟩:=h; exact A) ?_ ?_
  ·rintro ch E W v2 ⟨d1,h1,c0,i5,⟨s,O⟩,n,j9,k0,k1,k2,k3,h7,a2⟩
   obtain ⟨u,dq,ap,ao,aq⟩:=lX v2
   rw [ap] at a2
   refine bg (VQ (mS (i:=(ch:Int)) ls.out cH cD k3 s h5 (aM _) ao) (λfc ⟨_,⟨gl,gn,rfl,ag,ah⟩,x2,de⟩=>V (kF rfl (lx (pB.hp _) (x2.mono (nZ (λb o hq=>n.has.2 b o (Mt (Mt (Ma (Ml hq))))))) fB cD)) (VE (lT n fQ (λed eo n=>?_)))))
   obtain ⟨o5,p6,rfl⟩:=ag.form
   obtain ⟨o6,p7,rfl⟩:=ah.form
   let d8:=(C5 u.kz.kA u.kz.Word u.kE.Op u.kE.K u.kE.kz.kA u.kE.kz.Word o5 u.kE.Kids.length p6 o6 u.lN.length p7)
   refine VO (lp (.agg d8.toArray) (d8.toArray) n rfl rfl cD oc nb rfl (λee n=>ln (kR (Wh k2 (Wf ya (VA n Mh (kN u.kz) bI aP (VE (lJ (cs:=(kN u.kz).toArray) n (nL rfl) (oa eX aP fR) (λef ba n=>?_)))))))))
   replace n:=n.perm (Nr (Qb (Qb (Qb (Qb Qz)))) Nz)
   refine bS a2 λcj u9 a2=>VE (pK (enc:=kN) (v:=d1) (vs:=(.slice (some ⟨ba,0,none⟩) 1 1)) (R:=c0) n zx dc wo eX Bp.1 Bp.2.1 rfl Bp.2.2.1 Bp.2.2.2 rfl rfl h7 (Sl.lit (enc:=kN) (l:=[u.kz]) zx rfl nb rfl (n.at_ (Ma Mh))) u9 (λeg cn ay n u5=>Wa (lu (lI (kP ?_)))))
   replace n:=n.kB (Kr (Db (Db St)))
   exact ⟨s,cn,cj,ay,_,⟨rfl,O⟩,(n.kB (Sb (Pr Pz) (Sb (Pr Pz) St))),j9,k0,k1,rfl,k3,u5,(by rw [aq]; exact a2)⟩
  rintro E W ⟨d1,h1,c0,i5,⟨s,O⟩,n,j9,k0,k1,k2,k3,h7,a2⟩
  rw [aO] at a2
  refine kP ?_
  obtain rfl:=sj a2
  exact ⟨d1,c0,_,(n.kB (Kb (Kb (Kr (Dr St))))),j9,k0,k1,k2,h7⟩
 rintro ci E W ⟨h2,i7,o8,n,bd,be,bf,bh,z5⟩ h6
 refine kQ (sg (Wh bh (bS h6 λc5 y4 h6=>VE (As n call88 (oU.mK (Me h2 ci _ _ (z5.sl zx (λb o hq=>n.at_ (Mt (Mt (Ml hq))))) y4)) (λdv h3 e9 f5 n a9 aE e6=>V (qm eX rfl e6) (Wm (ln ?_)))))))
 let g5:Value:=(.int .i64 (c5.length:Int))
 replace n:=n.kB (Kr (Kb (Kb (Dr St))))
 refine CJ h6 (λl5 E W=>∃o9,ST false lD w W e9 o9∧E 8=(.string l5)) (λl5 v5=>?_) ?_
 ·refine mj (λi E W=>∃b3 i4,(E 133= .int .i64 (i:Nat)∧E 132= .int .i64 (c5.length:Nat))∧ST false lD w W e9 ((H,Obj.cells a0 25 (0,0))::((L,Obj.cells P 25 (0,0))::(f5++i4)))∧E 2=a8∧E 3=b8∧E 8=(.string b3)∧E 131=h3∧rL x z (c5.drop i) b3=some l5) c5.length e6.len ⟨m4,_,⟨rfl,rfl⟩,(n.kB (Sb (Pr Pz) (Sb (Pr Pz) St))),bd,be,bf,rfl,v5⟩ dc dc dc (λ_ _ _ h=>by obtain ⟨_,_,A,_⟩:=h; exact A) ?_ ?_
  ·rintro g9 E W v1 ⟨b3,i4,⟨s,O⟩,n,f6,f7,f8,f9,I⟩
   let j1:Value:=(.int .i64 (g9:Int))
   obtain ⟨a3,dp,an,m7,m8⟩:=lX v1
   let d9:=((kN a3).toArray:Array Value)
   rw [an] at I
   refine bg (VQ (mh (i:=(g9:Int)) (x0:=a3) eX aP f9 s e6 (aM _) m7) (λes w2=>V (kF rfl (nC n.has (λp hq=>(Mt (Mt (Ml hq)))) e6 zx w2 m7 bI aP)) (VE (lT n fR (λdw c1 n=>VO (lp (.agg (kN a3).toArray) ((kN a3).toArray) n rfl rfl aP (wo a3) nb rfl (λdx n=>ln (kQ ?_))))))))
   let e2:Value:=(.pointer (some ⟨c1,0,none⟩))
   replace n:=n.drew
   have d:=n.has.kB (Kb (Kb (Kb Sn)))
   refine lC d lj (X 0 rfl d (kJ uY f6) (XH 1 rfl d (λ_ q=>kF rfl (kV q (Mt (Mt Mh)) rfl ie)) (XH 2 rfl d (λ_ q=>kF rfl (kL q Mh (kN a3) rfl bI aP)) (X 4 rfl d (kJ uY f7) (XH 5 rfl d (λ_ q=>kF rfl (kV q (Mt Mh) rfl ie)) (XH 6 rfl d (λ_ q=>kF rfl (kL q Mh (kN a3) rfl bI aP)) (bS I λc6 y5 I=>XE 3 rfl (Eg n call89 (la.mK (Fg (.slice A3 x.kU.length c4) x.kU a3 _ _ (a6.mono mf.mono ((G.trans a9).trans n.kG)) y5)) (λdy n=>?_)))))))))
   have d:=n.has.kB (Kb (Kb (Kb Sn)))
   refine ⟨d,(bS I λc7 y6 I=>XE 7 rfl (Eg n call89 (la.mK (Fg (.slice A9 z.kU.length b2) z.kU a3 _ _ (a7.mono mf.mono ((G.trans a9).trans n.kG)) y6)) (λdz n=>?_)))⟩
   have d:=n.has.kB (Kb (Kb (Kb Sn)))
   refine ⟨d,(X 8 rfl d (mU rfl) (X 9 rfl d (mU rfl) (lH kr (kP (kQ ?_)))))⟩
   replace n:=n.drew
   have d:=n.has.kB (Db (Kb (Kb Sn)))
   refine lC d lj (X 0 rfl d (kH rfl) (X 1 rfl d (lE rfl rfl rfl) (X 2 rfl d (kH rfl) (PJ I (λt0 E W=>∃p0,ST false lD w W e9 ((c1,Obj.cells d9 27 (0,0))::((H,Obj.cells a0 25 (0,0))::((L,Obj.cells P 25 (0,0))::(f5++p0))))∧E 2=a8∧E 3=b8∧E 8=(.string b3)∧E 19=e2∧E 20=(.int .i64 c6)∧E 21=(.int .i64 c7)∧E 131=h3∧E 132=g5∧E 133=j1∧E 150=(.bool t0)) (bm 37 63) 31 ?_ (λt0 b7 i1=>?_)))))
   ·rintro gu E W ⟨p0,n,i9,j0,q0,q1,j3,j4,q2,q3,q4,bj⟩ v6
    have d:=n.has.kB (Db (Kb (Kb Sn)))
    refine X 6 rfl d (kH bj) (PJ v6 (λs9 E W=>∃p1,ST false lD w W e9 ((c1,Obj.cells d9 27 (0,0))::((H,Obj.cells a0 25 (0,0))::((L,Obj.cells P 25 (0,0))::(f5++p1))))∧E 2=a8∧E 3=b8∧E 8=(.string b3)∧E 19=e2∧E 20=(.int .i64 c6)∧E 21=(.int .i64 c7)∧E 131=h3∧E 132=g5∧E 133=j1∧E 165=(.bool s9)) (bm 37 2097151) 16 ?_ (λs9 K i0=>?_))
    ·rintro gw E W ⟨p1,n,j5,j6,q5,q6,j7,j8,q7,q8,q9,bk⟩ v7
     have d:=n.has.kB (Db (Kb (Kb Sn)))
     refine X 21 rfl d (kH bk) (PJ v7 (λs8 E W=>∃p2,ST false lD w W e9 ((c1,Obj.cells d9 27 (0,0))::((H,Obj.cells a0 25 (0,0))::((L,Obj.cells P 25 (0,0))::(f5++p2))))∧E 2=a8∧E 3=b8∧E 8=(.string b3)∧E 19=e2∧E 20=(.int .i64 c6)∧E 21=(.int .i64 c7)∧E 131=h3∧E 132=g5∧E 133=j1∧E 180=(.bool s8)) (bm 37 68719476735) 1 ?_ (λs8 J h9=>?_))
     ·rintro co E W ⟨p2,n,r0,r1,r2,r3,bl,bn,r4,r5,r6,bo⟩ t
      have d:=n.has.kB (Db (Kb (Kb Sn)))
      refine X 36 rfl d (mU bo) (lH kr (kP (sg (Wh bl (Wh bn (Wm (bS t λfq y7 t=>VE (Eg n call86 (la.mK (F6 c6 c7 co _ _  y7)) (λea n=>Wa (lr ?_))))))))))
      refine Wm (V (qe rfl rfl rfl) (ln (CI t rfl (λu8 t=>?_) (λu8 t=>?_))))
      ·refine kR (Wh r2 (Wm (bS t λfx z6 t=>V (lU rfl rfl z6) (V (kJ qR r3) (VB n Mh rfl rfl bT (bS t λfy z7 t=>V (lU rfl rfl z7) (bS t λfz z8 t=>V (lU rfl rfl z8) (V (kJ sU r3) (VB n Mh rfl rfl bT (bS t λga z9 t=>V (lU rfl rfl z9) ?_))))))))))
       refine bS t λgb aa t=>V (lU rfl rfl aa) (bS t λck ab t=>V (lU rfl rfl ab) (Wa (lu (lI (kP ?_)))))
       replace n:=n.kB (Db St)
       exact ⟨r6,ck,_,⟨rfl,r5⟩,(n.kB St),r0,r1,rfl,r4,(by rw [m8]; exact t)⟩
      refine mM (lI (kP ?_))
      replace n:=n.kB (Db St)
      exact ⟨r6,b3,_,⟨rfl,r5⟩,(n.kB St),r0,r1,r2,r4,(by rw [m8]; exact t)⟩
     refine bC J (λg J=>?_) (λg J=>?_)
     ·refine Xg 22 rfl rfl (cB g) d (kJ uY j5) (pu 23 rfl rfl (cB g) d (λ_ q=>kF rfl (kV q (Mt Mh) rfl ie)) (Xg 24 rfl rfl (cB g) d (kH j7) (bS J λt8 m9 J=>np 25 rfl kr (.inr ⟨21,true,166,rfl,rfl,by decide,(cB g)⟩) rfl dc (λ_ _ h=>h) d (mo (i:=c6) (x0:=t8) ls.out cH cD rfl rfl (a6.mono mf.mono (G.trans a9)) (kZ m9) (kY m9)) (λet ⟨_,⟨gg,l9,rfl,df,ac⟩,w3⟩=>np 26 rfl kr (.inr ⟨21,true,166,rfl,rfl,by decide,(cB g)⟩) rfl dc (λ_ _ h=>h) d (pE [l9] zt rfl w3 rfl) (λeu w4=>pu 27 rfl rfl (cB g) d (λ_ q=>kF rfl (pO q (y:=l9) w4 iZ)) (Xg 28 rfl rfl (cB g) d (kJ uY j6) (pu 29 rfl rfl (cB g) d (λ_ q=>kF rfl (kV q Mh rfl ie)) (Xg 30 rfl rfl (cB g) d (kH j8) (bS J λt9 n0 J=>np 31 rfl kr (.inr ⟨21,true,166,rfl,rfl,by decide,(cB g)⟩) rfl dc (λ_ _ h=>h) d (mo (i:=c7) (x0:=t9) ls.out cH cD rfl rfl (a7.mono mf.mono (G.trans a9)) (kZ n0) (kY n0)) (λev ⟨_,⟨gh,m0,rfl,dg,ad⟩,w5⟩=>np 32 rfl kr (.inr ⟨21,true,166,rfl,rfl,by decide,(cB g)⟩) rfl dc (λ_ _ h=>h) d (pE [m0] zt rfl w5 rfl) (λew w6=>pu 33 rfl rfl (cB g) d (λ_ q=>kF rfl (pO q (y:=m0) w6 iZ)) (bS J λfs y8 J=>?_))))))))))))
      refine yq 34 rfl rfl (cB g) (Eg n call90 (la.mK (Ln l9 t8.lN m0 t9.lN _ _ (ac.mono (Pl.mono _) n.kG) (ad.mono (Pl.mono _) n.kG) y8)) (λeb n=>?_))
      have d:=n.has.kB (Db (Kb (Kb Sn)))
      refine ⟨d,(X 35 rfl d (lb (cB g) rfl) ?_)⟩
      obtain rfl:=sj J
      refine nf kr (h9 _ _ ⟨_,(n.kB St),j5,j6,q5,q6,j7,j8,q7,q8,q9,rfl⟩)
     refine Xn 22 rfl rfl (cB g) d (Xn 23 rfl rfl (cB g) d (Xn 24 rfl rfl (cB g) d (Xn 25 rfl rfl (cB g) d (Xn 26 rfl rfl (cB g) d (Xn 27 rfl rfl (cB g) d (Xn 28 rfl rfl (cB g) d (Xn 29 rfl rfl (cB g) d (Xn 30 rfl rfl (cB g) d (Xn 31 rfl rfl (cB g) d (Xn 32 rfl rfl (cB g) d (Xn 33 rfl rfl (cB g) d (Xn 34 rfl rfl (cB g) d (X 35 rfl d (lf (cB g) rfl) ?_)))))))))))))
     obtain rfl:=sj J
     refine nf kr (h9 _ _ ⟨_,(n.kB St),j5,j6,q5,q6,j7,j8,q7,q8,q9,rfl⟩)
    refine bC K (λc K=>?_) (λc K=>?_)
    ·refine Xg 7 rfl rfl (cB c) d (kJ uY i9) (pu 8 rfl rfl (cB c) d (λ_ q=>kF rfl (kV q (Mt Mh) rfl ie)) (Xg 9 rfl rfl (cB c) d (kH j3) (bS K λd2 n1 K=>np 10 rfl kr (.inr ⟨6,true,151,rfl,rfl,by decide,(cB c)⟩) rfl dc (λ_ _ h=>h) d (mo (i:=c6) (x0:=d2) ls.out cH cD rfl rfl (a6.mono mf.mono (G.trans a9)) (kZ n1) (kY n1)) (λey ⟨_,⟨t4,gi,rfl,ae,dh⟩,w7⟩=>np 11 rfl kr (.inr ⟨6,true,151,rfl,rfl,by decide,(cB c)⟩) rfl dc (λ_ _ h=>h) d (pE [(.int .i64 d2.kE.Op),(.int .i64 d2.kE.K),(.string d2.kE.kz.kA),(.string d2.kE.kz.Word),t4] AG rfl w7 rfl) (λez w8=>pu 12 rfl rfl (cB c) d (λ_ q=>kF rfl (lx q w8 aZ aG)) (Xg 13 rfl rfl (cB c) d (kJ uY j0) (pu 14 rfl rfl (cB c) d (λ_ q=>kF rfl (kV q Mh rfl ie)) (Xg 15 rfl rfl (cB c) d (kH j4) (bS K λd3 n2 K=>np 16 rfl kr (.inr ⟨6,true,151,rfl,rfl,by decide,(cB c)⟩) rfl dc (λ_ _ h=>h) d (mo (i:=c7) (x0:=d3) ls.out cH cD rfl rfl (a7.mono mf.mono (G.trans a9)) (kZ n2) (kY n2)) (λfa ⟨_,⟨t5,gj,rfl,af,di⟩,w9⟩=>np 17 rfl kr (.inr ⟨6,true,151,rfl,rfl,by decide,(cB c)⟩) rfl dc (λ_ _ h=>h) d (pE [(.int .i64 d3.kE.Op),(.int .i64 d3.kE.K),(.string d3.kE.kz.kA),(.string d3.kE.kz.Word),t5] AG rfl w9 rfl) (λfb x1=>pu 18 rfl rfl (cB c) d (λ_ q=>kF rfl (lx q x1 aZ aG)) (bS K λft y9 K=>?_))))))))))))
     refine yq 19 rfl rfl (cB c) (Eg n call66 ((Al li) d2.kE t4 d3.kE t5 _ _ (ae.mono kT.mono n.kG) (af.mono kT.mono n.kG) y9) (λec n=>?_))
     have d:=n.has.kB (Db (Kb (Kb Sn)))
     refine ⟨d,(X 20 rfl d (lb (cB c) rfl) ?_)⟩
     obtain rfl:=sj K
     refine nf kr (i0 _ _ ⟨_,(n.kB St),i9,j0,q0,q1,j3,j4,q2,q3,q4,rfl⟩)
    refine Xn 7 rfl rfl (cB c) d (Xn 8 rfl rfl (cB c) d (Xn 9 rfl rfl (cB c) d (Xn 10 rfl rfl (cB c) d (Xn 11 rfl rfl (cB c) d (Xn 12 rfl rfl (cB c) d (Xn 13 rfl rfl (cB c) d (Xn 14 rfl rfl (cB c) d (Xn 15 rfl rfl (cB c) d (Xn 16 rfl rfl (cB c) d (Xn 17 rfl rfl (cB c) d (Xn 18 rfl rfl (cB c) d (Xn 19 rfl rfl (cB c) d (X 20 rfl d (lf (cB c) rfl) ?_)))))))))))))
    obtain rfl:=sj K
    refine nf kr (i0 _ _ ⟨_,(n.kB St),i9,j0,q0,q1,j3,j4,q2,q3,q4,rfl⟩)
   refine bC b7 (λb0 b7=>?_) (λb0 b7=>?_)
   ·refine Xg 3 rfl rfl (cB b0) d (kH rfl) (Xg 4 rfl rfl (cB b0) d (lE rfl rfl rfl) (X 5 rfl d (lb (cB b0) rfl) ?_))
    obtain rfl:=sj b7
    refine nf kr (i1 _ _ ⟨_,(n.kB St),f6,f7,f8,rfl,rfl,rfl,f9,O,s,rfl⟩)
   refine Xn 3 rfl rfl (cB b0) d (Xn 4 rfl rfl (cB b0) d (X 5 rfl d (lf (cB b0) rfl) ?_))
   obtain rfl:=sj b7
   refine nf kr (i1 _ _ ⟨_,(n.kB St),f6,f7,f8,rfl,rfl,rfl,f9,O,s,rfl⟩)
  rintro E W ⟨b3,i4,⟨s,O⟩,n,f6,f7,f8,f9,I⟩
  rw [aO] at I
  refine kP ?_
  obtain rfl:=sj I
  exact ⟨_,(n.kB (Db (Db (Dr St)))),f8⟩
 rintro gt E W ⟨o9,n,bi⟩ v4
 exact sg (Wh bi (Wa (lt (rQ v4 n))))
theorem F2 (G:Formula→Option Int) (K:∀(j:Formula) (g:Value) (r:Int) (w:World) (c:Sl kD 5 (hp w) g j.Kids),G j=some r→la false pg0 138 [(.agg #[(.int .i64 j.Op),(.int .i64 j.K),(.string j.kz.kA),(.string j.kz.Word),g])] w (.int .i64 r)) (j:Formula) (g:Value) (r:Int) (w:World) (c:Sl kD 5 (hp w) g j.Kids) (hm:xM G j=some r) :
  la false pg0 138 [(.agg #[(.int .i64 j.Op),(.int .i64 j.K),(.string j.kz.kA),(.string j.kz.Word),g])] w (.int .i64 r):=by
 refine cG 19 func138 rfl (λd=>sg ?_)
 obtain ⟨U,Y,rfl⟩:=c.form
 refine VE (ly d rfl (λW4 L d=>Wa (lr (Wa (lS (Wf pS (VB d Mh rfl rfl eZ (V (mx aH rfl c) ?_))))))))
 refine Wm (ln ?_)
 replace d:=d.kB (Db St)
 refine mj (λi E W=>∃x z,(E 9= .int .i64 (i:Nat)∧E 8= .int .i64 (j.Kids.length:Nat))∧ST false lD w W (hp w) z∧E 3=(.int .i64 x)∧E 7=(.slice U j.Kids.length Y)∧tz G (j.Kids.drop i) x=some r) j.Kids.length c.len ⟨1,_,⟨rfl,rfl⟩,(d.kB St),rfl,rfl,hm⟩ dc dc dc (λ_ _ _ h=>by obtain ⟨_,_,p,_⟩:=h; exact p) ?_ ?_
 ·rintro Z E W J ⟨x,z,⟨n,q⟩,d,B,D,k⟩
  obtain ⟨a,A,N,M,Q⟩:=lX J
  rw [N] at k
  refine bg (VQ (mo (i:=(Z:Int)) (x0:=a) kD.out aH aG D n c (aM _) M) (λa5 ⟨_,⟨v,rfl,y⟩,H⟩=>V (kF rfl (lx d.has H aZ aG)) (VE (lT d bG (λs a4 d=>?_)))))
  obtain ⟨t,u,rfl⟩:=y.form
  let a0:=(C2 a.Op a.K a.kz.kA a.kz.Word t a.Kids.length u)
  refine VO (lp (.agg a0.toArray) (a0.toArray) d rfl rfl aG oc nb rfl (λa2 d=>ln (kR (Wh B (VA d Mh a0 aZ aG (bS k λT I k=>VE (Eg d call138 (K a (.slice t a.Kids.length u) _ _ (y.mono kT.mono d.kG) I) (λa3 d=>Wi rfl (Wa (lu (lI (kP ?_))))))))))))
  replace d:=d.kB (Db St)
  exact ⟨n,(wi0 .i64 (x+T)),_,⟨rfl,q⟩,(d.kB St),rfl,D,(by rw [Q]; exact k)⟩
 rintro E W ⟨x,z,⟨n,q⟩,d,B,D,k⟩
 rw [aO] at k
 exact kP (sg (Wh B (Wa (lt (rQ k d)))))
theorem Fa:∀(n:Nat) (c:Formula) (a:Value) (r:Int) (w:World) (g:Sl kD 5 (hp w) a c.Kids) (_:sJ n c=some r),
  la false pg0 138 [(.agg #[(.int .i64 c.Op),(.int .i64 c.K),(.string c.kz.kA),(.string c.kz.Word),a])] w (.int .i64 r)
 | 0=>by intros; rename_i h; simp only [sJ] at h; cases h
 | n+1=>F2 (sJ n) (Fa n)
theorem G2 (I:Formula→Option Int) (N:∀(j:Formula) (g:Value) (r:Int) (w:World) (c:Sl kD 5 (hp w) g j.Kids),I j=some r→la false pg0 139 [(.agg #[(.int .i64 j.Op),(.int .i64 j.K),(.string j.kz.kA),(.string j.kz.Word),g])] w (.int .i64 r)) (j:Formula) (g:Value) (r:Int) (w:World) (c:Sl kD 5 (hp w) g j.Kids) (hm:yy I j=some r) :
  la false pg0 139 [(.agg #[(.int .i64 j.Op),(.int .i64 j.K),(.string j.kz.kA),(.string j.kz.Word),g])] w (.int .i64 r):=by
 refine cG 20 func139 rfl (λd=>sg ?_)
 obtain ⟨Y,Z,rfl⟩:=c.form
 refine VE (ly d rfl (λW4 O d=>Wa (lr (Wa (lS (Wf pS (VB d Mh rfl rfl eZ (V (mx aH rfl c) ?_))))))))
 refine Wm (ln ?_)
 replace d:=d.kB (Db St)
 refine mj (λi E W=>∃u B,(E 9= .int .i64 (i:Nat)∧E 8= .int .i64 (j.Kids.length:Nat))∧ST false lD w W (hp w) B∧E 3=(.int .i64 u)∧E 7=(.slice Y j.Kids.length Z)∧uc I (j.Kids.drop i) u=some r) j.Kids.length c.len ⟨0,_,⟨rfl,rfl⟩,(d.kB St),rfl,rfl,hm⟩ dc dc dc (λ_ _ _ h=>by obtain ⟨_,_,p,_⟩:=h; exact p) ?_ ?_
 ·rintro s E W M ⟨u,B,⟨n,q⟩,d,D,G,t⟩
  obtain ⟨a,L,T,Q,U⟩:=lX M
  rw [T] at t
  refine bg (VQ (mo (i:=(s:Int)) (x0:=a) kD.out aH aG G n c (aM _) Q) (λv ⟨_,⟨A,rfl,z⟩,J⟩=>V (kF rfl (lx d.has J aZ aG)) (VE (lT d bG (λa2 a5 d=>?_)))))
  obtain ⟨x,y,rfl⟩:=z.form
  let a0:=(C2 a.Op a.K a.kz.kA a.kz.Word x a.Kids.length y)
  refine VO (lp (.agg a0.toArray) (a0.toArray) d rfl rfl aG oc nb rfl (λa3 d=>ln (kR (Wh D (VA d Mh a0 aZ aG (bS t λH K t=>VE (Eg d call139 (N a (.slice x a.Kids.length y) _ _ (z.mono kT.mono d.kG) K) (λa4 d=>V (O3 (k:=.i64) rfl rfl) (Wa (lu (lI (kP ?_))))))))))))
  replace d:=d.kB (Db St)
  exact ⟨n,(if H > u then H else u),_,⟨rfl,q⟩,(d.kB St),rfl,G,(by rw [U]; exact t)⟩
 rintro E W ⟨u,B,⟨n,q⟩,d,D,G,t⟩
 rw [aO] at t
 exact kP (sg (Wh D (Wi rfl (Wa (lt (rQ t d))))))
theorem FQ:∀(n:Nat) (c:Formula) (a:Value) (r:Int) (w:World) (g:Sl kD 5 (hp w) a c.Kids) (_:tR n c=some r),
  la false pg0 139 [(.agg #[(.int .i64 c.Op),(.int .i64 c.K),(.string c.kz.kA),(.string c.kz.Word),a])] w (.int .i64 r)
 | 0=>by intros; rename_i h; simp only [tR] at h; cases h
 | n+1=>G2 (tR n) (FQ n)
set_option maxHeartbeats 4000000 in
theorem G1 (d8:Formula→Option Bool) (i9:∀(a:Formula) (x:Value) (r:Bool) (w:World) (k:Sl kD 5 (hp w) x a.Kids),d8 a=some r→la false pg0 140 [(.agg #[(.int .i64 a.Op),(.int .i64 a.K),(.string a.kz.kA),(.string a.kz.Word),x])] w (.bool r)) (a:Formula) (x:Value) (r:Bool) (w:World) (k:Sl kD 5 (hp w) x a.Kids) (hm:yt d8 a=some r) :
  la false pg0 140 [(.agg #[(.int .i64 a.Op),(.int .i64 a.K),(.string a.kz.kA),(.string a.kz.Word),x])] w (.bool r):=by
 refine cG 81 func140 rfl (λd=>sg ?_)
 obtain ⟨A1,c2,rfl⟩:=k.form
 let b8:=(C2 a.Op a.K a.kz.kA a.kz.Word A1 a.Kids.length c2)
 refine VE (ly d rfl (λW4 H d=>Wa (lr (Wf pS (VB d Mh rfl rfl eZ (V (mx aH rfl k) (Wa (lS ?_))))))))
 refine Wf qt (VB d Mh rfl rfl bX (Wi rfl (ln (CI hm rfl (λk0 hm=>?_) (λk0 hm=>?_)))))
 ·refine sg (Wf ux (VA d Mh (kN a.kz) bI aP (bS hm λr6 k1 hm=>VE (Eg d call160 (la.mK (wQ a.kz _ _  k1)) (λW8 d=>Wm (LJ hm (λh2 E W=>∃f9,ST false lD w W (hp w) ((H,Ol b8 30)::f9)∧E 1=(.pointer (some ⟨H,0,none⟩))∧E 2=(.bool false)∧E 18=(.bool h2)) 3 ?_ (λh2 q c8=>?_)))))))
  ·rintro l5 E W ⟨f9,d,j3,g7,j4⟩ i4
   refine Wh j4 (LJ i4 (λh1 E W=>∃g0,ST false lD w W (hp w) g0∧E 2=(.bool false)∧E 23=(.bool h1)) 4 ?_ (λh1 a5 c7=>?_))
   ·rintro l6 E W ⟨g0,d,l4,j5⟩ i5
    refine Wg j5 (lt (lV ?_))
    obtain rfl:=sj i5
    exact rP d
   refine bC a5 (λB a5=>?_) (λB a5=>?_)
   ·refine ug B (kJ uA j3) (ug B (kF rfl (kV d.has Mh rfl bX)) (ug B (lE rfl rfl rfl) (V (lb (cB B) rfl) ?_)))
    obtain rfl:=sj a5
    exact c7 _ _ ⟨_,(d.kB (Db St)),g7,rfl⟩
   refine un B (un B (un B (V (lf (cB B) rfl) ?_)))
   obtain rfl:=sj a5
   exact c7 _ _ ⟨_,(d.kB (Db St)),g7,rfl⟩
  refine bC q (λa4 q=>?_) (λa4 q=>?_)
  ·refine ug a4 (kH rfl) (ug a4 (lE rfl rfl rfl) (V (lb (cB a4) rfl) ?_))
   obtain rfl:=sj q
   exact c8 _ _ ⟨_,(d.kB St),rfl,rfl,rfl⟩
  refine un a4 (un a4 (V (lf (cB a4) rfl) ?_))
  obtain rfl:=sj q
  exact c8 _ _ ⟨_,(d.kB St),rfl,rfl,rfl⟩
 let a0:=(b8.toArray:Array Value)
 let n:Value:=(.pointer (some ⟨H,0,none⟩))
 refine kS (Wf qt (VB d Mh rfl rfl bX (Wi rfl (Wm (LJ hm (λe6 E W=>∃g1,ST false lD w W (hp w) ((H,Obj.cells a0 30 (0,0))::g1)∧E 1=n∧E 3=(.int .i64 (a.Kids.length:Int))∧E 31=(.bool e6)) 4 ?_ (λe6 Z c0=>?_))))))
 ·let A:Value:=(.int .i64 (a.Kids.length:Int))
  rintro l7 E W ⟨g1,d,d5,g8,j6⟩ i6
  refine Wh j6 (LJ i6 (λe5 E W=>∃g2,ST false lD w W (hp w) ((H,Obj.cells a0 30 (0,0))::g2)∧E 1=n∧E 3=A∧E 37=(.bool e5)) 5 ?_ (λe5 Y b9=>?_))
  ·rintro l8 E W ⟨g2,d,g9,d6,j7⟩ i7
   refine Wh j7 (LJ i7 (λe4 E W=>∃g3,ST false lD w W (hp w) ((H,Obj.cells a0 30 (0,0))::g3)∧E 1=n∧E 3=A∧E 41=(.bool e4)) 3 ?_ (λe4 U b7=>?_))
   ·rintro l9 E W ⟨g3,d,L,h0,j8⟩ s
    refine ln (CI s j8 (λi3 s=>?_) (λi3 s=>?_))
    ·refine sg (Wa (ln ?_))
     replace d:=d.kB (Db St)
     refine lB (lV ?_)
     obtain rfl:=sj s
     exact rP d
    refine kS (V (kJ qt L) (VB d Mh rfl rfl bX (Wi rfl (Wm (LJ s (λe3 E W=>∃g4,ST false lD w W (hp w) ((H,Obj.cells a0 30 (0,0))::g4)∧E 1=n∧E 3=A∧E 49=(.bool e3)) 4 ?_ (λe3 T b6=>?_))))))
    ·rintro R E W ⟨g4,d,p,d7,j9⟩ i8
     refine Wh j9 (LJ i8 (λd9 E W=>∃c9,ST false lD w W (hp w) ((H,Obj.cells a0 30 (0,0))::c9)∧E 1=n∧E 69=(.bool d9)) 19 ?_ (λd9 K b1=>?_))
     ·rintro l0 E W ⟨c9,d,h3,h4⟩ J
      refine ln (CI J h4 (λe8 J=>?_) (λe8 J=>?_))
      ·refine sg (Wa (ln ?_))
       replace d:=d.kB (Db St)
       refine lB (lV ?_)
       obtain rfl:=sj J
       exact rP d
      refine kS (V (kJ pS h3) (VB d Mh rfl rfl eZ (V (mx aH rfl k) (Wm (ln ?_)))))
      replace d:=d.kB (Db St)
      refine mj (λi E W=>∃c1,(E 73= .int .i64 (i:Nat)∧E 72= .int .i64 (a.Kids.length:Nat))∧ST false lD w W (hp w) c1∧E 71=(.slice A1 a.Kids.length c2)∧ul d8 (a.Kids.drop i)=some r) a.Kids.length k.len ⟨_,⟨rfl,rfl⟩,(d.kB St),rfl,J⟩ dc dc dc (λ_ _ _ h=>by obtain ⟨_,aa,_⟩:=h; exact aa) ?_ ?_
      ·rintro j0 E W f0 ⟨c1,⟨eI,eN⟩,d,O,j⟩
       obtain ⟨g,k2,f7,f6,f8⟩:=lX f0
       rw [f7] at j
       refine bg (VQ (mo (i:=(j0:Int)) (x0:=g) kD.out aH aG O eI k (aM _) f6) (λk7 ⟨_,⟨k9,rfl,c6⟩,f4⟩=>V (kF rfl (lx d.has f4 aZ aG)) (VE (lT d bG (λk3 k6 d=>?_)))))
       obtain ⟨a9,b0,rfl⟩:=c6.form
       let a2:=(C2 g.Op g.K g.kz.kA g.kz.Word a9 g.Kids.length b0)
       refine VO (lp (.agg a2.toArray) (a2.toArray) d rfl rfl aG oc nb rfl (λk4 d=>lr (VA d Mh a2 aZ aG (bS j λk8 f5 j=>VE (Eg d call140 (i9 g (.slice a9 g.Kids.length b0) _ _ (c6.mono kT.mono d.kG) f5) (λk5 d=>V (nv rfl) (ln ?_)))))))
       replace d:=d.kB (Db St)
       refine CI j rfl (λe9 j=>?_) (λe9 j=>?_)
       ·refine sg (Wa (lt (nU (lV (nU (lV ?_))))))
        obtain rfl:=sj j
        exact rP d
       exact mM (lI (kP ⟨eI,_,⟨rfl,eN⟩,(d.kB St),O,(by rw [f8]; exact j)⟩))
      rintro E W ⟨c1,⟨eI,eN⟩,d,O,j⟩
      rw [aO] at j
      exact kP (sg (Wa (lt (rQ j d))))
     refine bC K (λu K=>?_) (λu K=>?_)
     ·refine un u (un u (un u (un u (Vu rfl rfl (Vu rfl rfl (Vu rfl rfl (Vu rfl rfl (Vu rfl rfl (Vu rfl rfl (Vu rfl rfl (Vu rfl rfl (Vu rfl rfl (Vu rfl rfl (Vu rfl rfl ?_))))))))))))))
      refine Vu rfl rfl (Vu rfl rfl (un u (V (lb (cB u) rfl) ?_)))
      obtain rfl:=sj K
      exact b1 _ _ ⟨_,(d.kB St),p,rfl⟩
     refine ug u (kJ qt p) (ug u (kF rfl (kV d.has Mh rfl bX)) (ug u (lE rfl rfl rfl) (ug u (kH rfl) (LJ K (λe0 E W=>∃d0,ST false lD w W (hp w) ((H,Obj.cells a0 30 (0,0))::d0)∧E 1=n∧E 50=(.bool R)∧E 68=(.bool e0)) 14 ?_ (λe0 M b2=>?_)))))
     ·rintro l1 E W ⟨d0,d,h5,h6,h7⟩ f1
      refine V (lf (h6.trans (cB u)) h7) ?_
      obtain rfl:=sj f1
      exact b1 _ _ ⟨_,(d.kB St),h5,rfl⟩
     refine bC M (λc M=>?_) (λc M=>?_)
     ·refine ug c (kH d7) (ug c (lE rfl rfl rfl) (ug c (kH rfl) (LJ M (λe2 E W=>∃d1,ST false lD w W (hp w) ((H,Obj.cells a0 30 (0,0))::d1)∧E 1=n∧E 3=A∧E 50=(.bool R)∧E 54=(.bool (a.Op==4))∧E 61=(.bool e2)) 4 ?_ (λe2 Q b5=>?_))))
      ·rintro l2 E W ⟨d1,d,P,h8,d3,a3,h9⟩ f2
       refine Vg rfl (a3.trans (cB c)) (kH h9) (LJ f2 (λe1 E W=>∃d2,ST false lD w W (hp w) ((H,Obj.cells a0 30 (0,0))::d2)∧E 1=n∧E 50=(.bool R)∧E 54=(.bool (a.Op==4))∧E 67=(.bool e1)) 5 ?_ (λe1 N b4=>?_))
       ·rintro l3 E W ⟨d2,d,i0,d4,i1,i2⟩ f3
        refine Vg rfl (d4.trans (cB u)) (lb (i1.trans (cB c)) i2) ?_
        obtain rfl:=sj f3
        exact b2 _ _ ⟨_,(d.kB St),i0,d4,rfl⟩
       refine bC N (λt N=>?_) (λt N=>?_)
       ·refine un t (un t (un t (un t (Vg rfl (a3.trans (cB c)) (lb (cB t) rfl) ?_))))
        obtain rfl:=sj N
        exact b4 _ _ ⟨_,(d.kB St),P,d3,a3,rfl⟩
       refine ug t (kJ uA P) (ug t (kF rfl (kV d.has Mh rfl bX)) (ug t (kH h8) (ug t (lE rfl rfl rfl) (Vg rfl (a3.trans (cB c)) (lf (cB t) rfl) ?_))))
       obtain rfl:=sj N
       exact b4 _ _ ⟨_,(d.kB St),P,d3,a3,rfl⟩
      refine bC Q (λy Q=>?_) (λy Q=>?_)
      ·refine un y (un y (un y (ug c (lb (cB y) rfl) ?_)))
       obtain rfl:=sj Q
       exact b5 _ _ ⟨_,(d.kB St),p,d7,rfl,rfl,rfl⟩
      refine ug y (kJ uA p) (ug y (kF rfl (kV d.has Mh rfl bX)) (ug y (lE rfl rfl rfl) (ug c (lf (cB y) rfl) ?_)))
      obtain rfl:=sj Q
      exact b5 _ _ ⟨_,(d.kB St),p,d7,rfl,rfl,rfl⟩
     refine un c (un c (un c (Vu rfl rfl (Vu rfl rfl (Vu rfl rfl (un c (un c (Vu rfl rfl (Vu rfl rfl (Vu rfl rfl (Vu rfl rfl (un c (ug u (lf (cB c) rfl) ?_)))))))))))))
     obtain rfl:=sj M
     exact b2 _ _ ⟨_,(d.kB St),p,rfl,rfl⟩
    refine bC T (λG T=>?_) (λG T=>?_)
    ·refine ug G (kJ uA L) (ug G (kF rfl (kV d.has Mh rfl bX)) (ug G (lE rfl rfl rfl) (V (lb (cB G) rfl) ?_)))
     obtain rfl:=sj T
     exact b6 _ _ ⟨_,(d.kB St),L,h0,rfl⟩
    refine un G (un G (un G (V (lf (cB G) rfl) ?_)))
    obtain rfl:=sj T
    exact b6 _ _ ⟨_,(d.kB St),L,h0,rfl⟩
   refine bC U (λI U=>?_) (λI U=>?_)
   ·refine un I (un I (V (lb (cB I) rfl) ?_))
    obtain rfl:=sj U
    exact b7 _ _ ⟨_,(d.kB St),g9,d6,rfl⟩
   refine ug I (kH d6) (ug I (lE rfl rfl rfl) (V (lf (cB I) rfl) ?_))
   obtain rfl:=sj U
   exact b7 _ _ ⟨_,(d.kB St),g9,d6,rfl⟩
  refine bC Y (λz Y=>?_) (λz Y=>?_)
  ·refine un z (un z (un z (un z (V (lb (cB z) rfl) ?_))))
   obtain rfl:=sj Y
   exact b9 _ _ ⟨_,(d.kB St),d5,g8,rfl⟩
  refine ug z (kJ ux d5) (ug z (kF rfl (kL d.has Mh (kN a.kz) rfl bI aP)) (ug z (nB (v:=(.agg (kN K0).toArray)) uC (nk fR eV (PE _ eV) kr)) (ug z (E1 rfl rfl (oX fI) (AK (rD _ a.kz K0))) (V (lf (cB z) rfl) ?_))))
  obtain rfl:=sj Y
  exact b9 _ _ ⟨_,(d.kB St),d5,g8,rfl⟩
 refine bC Z (λD Z=>?_) (λD Z=>?_)
 ·refine un D (un D (un D (V (lb (cB D) rfl) ?_)))
  obtain rfl:=sj Z
  exact c0 _ _ ⟨_,(d.kB St),rfl,rfl,rfl⟩
 refine ug D (kJ qt rfl) (ug D (kF rfl (kV d.has Mh rfl bX)) (ug D (lE rfl rfl rfl) (V (lf (cB D) rfl) ?_)))
 obtain rfl:=sj Z
 exact c0 _ _ ⟨_,(d.kB St),rfl,rfl,rfl⟩
theorem Ga:∀(n:Nat) (c:Formula) (a:Value) (r:Bool) (w:World) (g:Sl kD 5 (hp w) a c.Kids) (_:tZ n c=some r),
  la false pg0 140 [(.agg #[(.int .i64 c.Op),(.int .i64 c.K),(.string c.kz.kA),(.string c.kz.Word),a])] w (.bool r)
 | 0=>by intros; rename_i h; simp only [tZ] at h; cases h
 | n+1=>G1 (tZ n) (Ga n)
theorem J1 (a:Formula) (t:Value) (r:Bool) (w:World) (c:Sl kD 5 (hp w) t a.Kids) (hm:wN a=some r) :
  la false pg0 67 [(.agg #[(.int .i64 a.Op),(.int .i64 a.K),(.string a.kz.kA),(.string a.kz.Word),t])] w (.bool r):=by
 refine cG 15 func67 rfl (λd=>sg ?_)
 obtain ⟨u,x,rfl⟩:=c.form
 let n:Value:=(.slice u a.Kids.length x)
 let a0:=(C2 a.Op a.K a.kz.kA a.kz.Word u a.Kids.length x)
 refine VE (ly d rfl (λW4 Q d=>Wa (lr (VA d Mh a0 aZ aG (bS hm λv Z hm=>VE (Eg d call138 ((Fa li) a n _ _ (c.mono kT.mono d.kG) Z) (λW7 d=>Wi rfl (Wm (LJ hm (λI E W=>∃B,ST false lD w W (hp w) ((Q,Ol a0 30)::B)∧E 1=(.pointer (some ⟨Q,0,none⟩))∧E 2=(.bool false)∧E 10=(.bool I)) 4 ?_ (λI j z=>?_))))))))))
 ·rintro q E W ⟨B,d,T,G,U⟩ J
  refine Wh U (LJ J (λH E W=>∃D,ST false lD w W (hp w) D∧E 2=(.bool false)∧E 14=(.bool H)) 3 ?_ (λH i y=>?_))
  ·rintro s E W ⟨D,d,a3,Y⟩ K
   exact Wg Y (lt (rQ K d))
  refine bC i (λg i=>?_) (λg i=>?_)
  ·refine ug g (kF T (kL d.has Mh a0 rfl aZ aG)) (bS i λa4 M i=>rU g (Eg d call140 ((Ga li) a n _ _ (c.mono kT.mono d.kG) M) (λp d=>V (lb (cB g) rfl) ?_)))
   obtain rfl:=sj i
   exact y _ _ ⟨_,(d.kB (Db St)),G,rfl⟩
  refine un g (un g (V (lf (cB g) rfl) ?_))
  obtain rfl:=sj i
  exact y _ _ ⟨_,(d.kB (Db St)),G,rfl⟩
 refine bC j (λk j=>?_) (λk j=>?_)
 ·refine ug k (kF rfl (kL d.has Mh a0 rfl aZ aG)) (bS j λa5 N j=>rU k (Eg d call139 ((FQ li) a n _ _ (c.mono kT.mono d.kG) N) (λa2 d=>ug k (lE rfl rfl rfl) (V (lb (cB k) rfl) ?_))))
  obtain rfl:=sj j
  exact z _ _ ⟨_,(d.kB St),rfl,rfl,rfl⟩
 refine un k (un k (un k (V (lf (cB k) rfl) ?_)))
 obtain rfl:=sj j
 exact z _ _ ⟨_,(d.kB St),rfl,rfl,rfl⟩
theorem G3 (Z:Formula→Option ByteArray) (d1:∀(g:Formula) (k:Value) (r:ByteArray) (w:World) (j:Sl kD 5 (hp w) k g.Kids),Z g=some r→la false pg0 68 [(.agg #[(.int .i64 g.Op),(.int .i64 g.K),(.string g.kz.kA),(.string g.kz.Word),k])] w (.string r)) (g:Formula) (k:Value) (r:ByteArray) (w:World) (j:Sl kD 5 (hp w) k g.Kids) (hm:yx Z g=some r) :
  la false pg0 68 [(.agg #[(.int .i64 g.Op),(.int .i64 g.K),(.string g.kz.kA),(.string g.kz.Word),k])] w (.string r):=by
 refine cG 50 func68 rfl (λd=>sg ?_)
 obtain ⟨N,U,rfl⟩:=j.form
 let a4:=(C2 g.Op g.K g.kz.kA g.kz.Word N g.Kids.length U)
 refine VE (ly d rfl (λW4 p d=>Wa (lS (Wf qt (VB d Mh rfl rfl bX (Wi rfl (ln (CI hm rfl (λd6 hm=>?_) (λd6 hm=>?_)))))))))
 ·refine sg (Wf ux (Wf qR (VB d Mh rfl rfl bT (bS hm λs6 d7 hm=>V (lU rfl rfl d7) (Wf ux (Wf sU (VB d Mh rfl rfl bT (bS hm λs8 d8 hm=>V (lU rfl rfl d8) (Wa (ln ?_))))))))))
  replace d:=d.kB (Db St)
  refine lB (lV ?_)
  obtain rfl:=sj hm
  exact rP d
 refine kg (Wa (ln (kQ (CJ hm (λa3 E W=>∃c1,ST false lD w W (hp w) ((p,Ol a4 30)::c1)∧E 1=(.pointer (some ⟨p,0,none⟩))∧E 3=(.string a3)) (λa3 z=>?_) ?_))))
 ·refine sg (Wf qt (VB d Mh rfl rfl bX (Wi rfl (ln (CI z rfl (λO z=>?_) (λO z=>?_))))))
  ·refine kR (Wa (ln ?_))
   obtain rfl:=sj z
   exact ⟨_,(d.kB St),rfl,rfl⟩
  refine kn ?_
  obtain rfl:=sj z
  exact ⟨_,(d.kB St),rfl,rfl⟩
 rintro f4 E W ⟨c1,d,K,d3⟩ c9
 refine kQ (CJ c9 (λa2 E W=>∃A,ST false lD w W (hp w) ((p,Ol a4 30)::A)∧E 1=(.pointer (some ⟨p,0,none⟩))∧E 3=(.string a2)) (λa2 u=>?_) ?_)
 ·refine sg (V (kJ qt K) (VB d Mh rfl rfl bX (Wi rfl (ln (CI u rfl (λL u=>?_) (λL u=>?_))))))
  ·refine kR (V (kJ uA K) (VB d Mh rfl rfl bX (Wi rfl (V (pc (k':=.i64) (a:=(wi0 .i64 (48+g.K))) dH dU rfl) (VE (lJ (cs:=[(.int .u8 (IntKind.u8.wrap (wi0 .i64 (48+g.K))))].toArray) d (nL rfl) (oa cC kv jt) (λe4 e5 d=>V (uO cC dU bN rfl (Sl.lit (enc:=(lP .u8)) (l:=[(IntKind.u8.wrap (wi0 .i64 (48+g.K)))]) (λ_=>rfl) rfl nb rfl (d.at_ Mh))) (bS u λf0 b5 u=>V (lU rfl rfl b5) (bS u λf1 b6 u=>V (lU rfl rfl b6) (Wa (ln ?_)))))))))))
   obtain rfl:=sj u
   exact ⟨_,(d.kB (Db St)),K,rfl⟩
  refine kn ?_
  obtain rfl:=sj u
  exact ⟨_,(d.kB St),K,d3⟩
 rintro d9 E W ⟨A,d,d4,d5⟩ d0
 refine kQ (sg (V (kJ pS d4) (VB d Mh rfl rfl eZ (V (mx aH rfl j) (Wm (ln ?_))))))
 replace d:=d.kB (Db St)
 refine mj (λi E W=>∃I J,(E 34= .int .i64 (i:Nat)∧E 33= .int .i64 (g.Kids.length:Nat))∧ST false lD w W (hp w) J∧E 3=(.string I)∧E 32=(.slice N g.Kids.length U)∧pZ Z (g.Kids.drop i) i I=some r) g.Kids.length j.len ⟨d9,_,⟨rfl,rfl⟩,(d.kB St),d5,rfl,d0⟩ dc dc dc (λ_ _ _ h=>by obtain ⟨_,_,q,_⟩:=h; exact q) ?_ ?_
 ·rintro Y E W P ⟨I,J,⟨n,s⟩,d,G,H,t⟩
  obtain ⟨c,e0,b9,b7,c0⟩:=lX P
  rw [b9] at t
  refine bg (Wh n (VQ (mo (i:=(Y:Int)) (x0:=c) kD.out aH aG H n j (aM _) b7) (λe6 ⟨_,⟨f2,rfl,M⟩,a9⟩=>V (kF rfl (lx d.has a9 aZ aG)) (VE (lT d bG (λe1 T d=>Wa ?_))))))
  obtain ⟨B,D,rfl⟩:=M.form
  let a0:=(C2 c.Op c.K c.kz.kA c.kz.Word B c.Kids.length D)
  refine VO (lp (.agg a0.toArray) (a0.toArray) d rfl rfl aG oc nb rfl (λe2 d=>ln (kQ (CJ t (λv E W=>∃Q,ST false lD w W (hp w) ((T,Ol a0 30)::Q)∧E 3=(.string v)∧E 5=(.pointer (some ⟨T,0,none⟩))∧E 32=(.slice N g.Kids.length U)∧E 33=(.int .i64 (g.Kids.length:Int))∧E 34=(.int .i64 (Y:Int))) (λv x=>?_) ?_))))
  ·refine sg (Wm (Wi rfl (ln (CI x rfl (λa5 x=>?_) (λa5 x=>?_)))))
   ·refine kR (Wh G (bS x λe8 b2 x=>V (lU rfl rfl b2) (Wa (ln ?_))))
    obtain rfl:=sj x
    exact ⟨_,(d.kB St),rfl,rfl,H,s,n⟩
   refine kn ?_
   obtain rfl:=sj x
   exact ⟨_,(d.kB St),G,rfl,H,s,n⟩
  rintro f3 E W ⟨Q,d,c4,c5,c6,c7,c8⟩ y
  refine kR (Wh c4 (V (kF c5 (kL d.has Mh a0 rfl aZ aG)) (bS y λe7 R y=>VE (Eg d call68 (d1 c (.slice B c.Kids.length D) _ _ (M.mono kT.mono d.kG) R) (λe3 d=>bS y λd2 b1 y=>V (lU rfl rfl b1) (Wa (lu (lI (kP ?_)))))))))
  replace d:=d.kB (Db St)
  exact ⟨c8,d2,_,⟨rfl,c7⟩,(d.kB St),rfl,c6,(by rw [c0]; exact y)⟩
 rintro E W ⟨I,J,⟨n,s⟩,d,G,H,t⟩
 rw [aO] at t
 exact kP (sg (Wh G (bS t λe9 b4 t=>V (lU rfl rfl b4) (Wa (lt (rQ t d))))))
theorem Gn:∀(n:Nat) (c:Formula) (a:Value) (r:ByteArray) (w:World) (g:Sl kD 5 (hp w) a c.Kids) (_:qO n c=some r),
  la false pg0 68 [(.agg #[(.int .i64 c.Op),(.int .i64 c.K),(.string c.kz.kA),(.string c.kz.Word),a])] w (.string r)
 | 0=>by intros; rename_i h; simp only [qO] at h; cases h
 | n+1=>G3 (qO n) (Gn n)
set_option maxHeartbeats 4000000 in
theorem Kx (c:nA) (d6 e1 b4 d5 b5 g1:Value) (a:nA) (d8 e2 b6 d7 b7 g2:Value) (r:ByteArray) (w:World) (f6:zf pg0 (hp w)) (c7:Sl kX 15 (hp w) d6 c.kA.kM) (d9:Sl ls 8 (hp w) e1 c.kA.kU) (b1:Sl kX 15 (hp w) b4 c.Client.kM) (c5:Sl ls 8 (hp w) d5 c.Client.kU) (b2:Sl kD 5 (hp w) b5 c.Formula.Kids) (T:Sl oF 2 (hp w) g1 c.Keys) (d0:Sl kX 15 (hp w) d8 a.kA.kM) (e0:Sl ls 8 (hp w) e2 a.kA.kU) (b3:Sl kX 15 (hp w) b6 a.Client.kM) (c9:Sl ls 8 (hp w) d7 a.Client.kU) (B:Sl kD 5 (hp w) b7 a.Formula.Kids) (a9:Sl oF 2 (hp w) g2 a.Keys) (hm:zY c a=some r) :
  la false pg0 26 [(.agg #[(.string c.kA.Name),d6,e1,(.string c.Client.Name),b4,d5,(.int .i64 c.Formula.Op),(.int .i64 c.Formula.K),(.string c.Formula.kz.kA),(.string c.Formula.kz.Word),b5,(.int .i64 c.oA),(.int .i64 c.lA.oH),(.int .i64 c.lA.ow),(.int .i64 c.my),(.int .i64 c.nz),(.int .i64 c.mW),g1]),(.agg #[(.string a.kA.Name),d8,e2,(.string a.Client.Name),b6,d7,(.int .i64 a.Formula.Op),(.int .i64 a.Formula.K),(.string a.Formula.kz.kA),(.string a.Formula.kz.Word),b7,(.int .i64 a.oA),(.int .i64 a.lA.oH),(.int .i64 a.lA.ow),(.int .i64 a.my),(.int .i64 a.nz),(.int .i64 a.mW),g2])] w (.string r):=by
 refine cG 203 func26 rfl (λd=>sg ?_)
 obtain ⟨A1,c2,rfl⟩:=c7.form
 obtain ⟨A3,c4,rfl⟩:=d9.form
 obtain ⟨A5,c6,rfl⟩:=b1.form
 obtain ⟨A7,c8,rfl⟩:=c5.form
 obtain ⟨A9,a4,rfl⟩:=b2.form
 obtain ⟨b9,c1,rfl⟩:=T.form
 let a0:=(C1 c.kA.Name A1 c.kA.kM.length c2 A3 c.kA.kU.length c4 c.Client.Name A5 c.Client.kM.length c6 A7 c.Client.kU.length c8 c.Formula.Op c.Formula.K c.Formula.kz.kA c.Formula.kz.Word A9 c.Formula.Kids.length a4 c.oA c.lA.oH c.lA.ow c.my c.nz c.mW b9 c.Keys.length c1)
 refine VE (ly d rfl (λcv x d=>?_))
 obtain ⟨Y,a5,rfl⟩:=d0.form
 obtain ⟨Z,a6,rfl⟩:=e0.form
 obtain ⟨a2,a7,rfl⟩:=b3.form
 obtain ⟨a3,a8,rfl⟩:=c9.form
 obtain ⟨N,Q,rfl⟩:=B.form
 let e6:Value:=(.slice N a.Formula.Kids.length Q)
 let e5:=(C2 a.Formula.Op a.Formula.K a.Formula.kz.kA a.Formula.kz.Word N a.Formula.Kids.length Q)
 obtain ⟨c0,c3,rfl⟩:=a9.form
 let q:=(C1 a.kA.Name Y a.kA.kM.length a5 Z a.kA.kU.length a6 a.Client.Name a2 a.Client.kM.length a7 a3 a.Client.kU.length a8 a.Formula.Op a.Formula.K a.Formula.kz.kA a.Formula.kz.Word N a.Formula.Kids.length Q a.oA a.lA.oH a.lA.ow a.my a.nz a.mW c0 a.Keys.length c3)
 refine VE (ly d rfl (λcw z d=>Wa (lr (Wa (ln (kQ (CJ hm (λm8 E W=>∃x9,ST false lD w W (hp w) ((z,Ol q 34)::((x,Ol a0 34)::x9))∧E 2=(.pointer (some ⟨x,0,none⟩))∧E 3=(.pointer (some ⟨z,0,none⟩))∧E 5=(.string m8)) (λm8 h1=>?_) ?_)))))))
 ·refine sg (Wf uX (VA d (Mt Mh) (C4 c.kA.Name A1 c.kA.kM.length c2 A3 c.kA.kU.length c4) dJ cV (Wf uX (VA d Mh (C4 a.kA.Name Y a.kA.kM.length a5 Z a.kA.kU.length a6) dJ cV (bS h1 λx6 r8 h1=>VE (Eg d call28 (yW c.kA (.slice A1 c.kA.kM.length c2) (.slice A3 c.kA.kU.length c4) a.kA (.slice Y a.kA.kM.length a5) (.slice Z a.kA.kU.length a6) _ _ (c7.mono lg.mono d.kG) (d9.mono mf.mono d.kG) (d0.mono lg.mono d.kG) (e0.mono mf.mono d.kG) r8) (λac d=>Wa (lr (Wm (V (qe rfl rfl rfl) ?_))))))))))
  refine Wm (LJ h1 (λm9 E W=>∃k7,ST false lD w W (hp w) ((z,Ol q 34)::((x,Ol a0 34)::k7))∧E 2=(.pointer (some ⟨x,0,none⟩))∧E 3=(.pointer (some ⟨z,0,none⟩))∧E 5=(.string zS)∧E 6=(.string x6)∧E 26=(.bool m9)) 8 ?_ (λm9 f4 h5=>?_))
  ·rintro cp E W ⟨k7,d,l1,i6,l2,w6,w7⟩ M
   refine ln (CI M w7 (λp4 M=>?_) (λp4 M=>?_))
   ·refine kR (Wh l2 (V (kJ uX i6) (Wf vE (VB d Mh rfl rfl bT (bS M λcf u6 M=>V (lU rfl rfl u6) (bS M λcg u7 M=>V (lU rfl rfl u7) (Wh w6 (bS M λch u8 M=>V (lU rfl rfl u8) (bS M λci u9 M=>V (lU rfl rfl u9) (Wa ?_))))))))))
    refine ln ?_
    obtain rfl:=sj M
    exact ⟨_,(d.kB St),l1,i6,rfl⟩
   refine kn ?_
   obtain rfl:=sj M
   exact ⟨_,(d.kB St),l1,i6,l2⟩
  refine bC f4 (λu f4=>?_) (λu f4=>?_)
  ·refine un u (un u (un u (un u (un u (un u (un u (V (lb (cB u) rfl) ?_)))))))
   obtain rfl:=sj f4
   exact h5 _ _ ⟨_,(d.kB St),rfl,rfl,rfl,rfl,rfl⟩
  refine ug u (kJ uX rfl) (ug u (kJ vE rfl) (ug u (kF rfl (kV d.has (Mt Mh) rfl bT)) (ug u (kJ uX rfl) (ug u (kJ vE rfl) (ug u (kF rfl (kV d.has Mh rfl bT)) (ug u (qe rfl rfl rfl) (V (lf (cB u) rfl) ?_)))))))
  obtain rfl:=sj f4
  exact h5 _ _ ⟨_,(d.kB St),rfl,rfl,rfl,rfl,rfl⟩
 rintro y8 E W ⟨x9,d,l3,l4,y1⟩ y3
 let b8:Value:=(.pointer (some ⟨x,0,none⟩))
 let s:Value:=(.pointer (some ⟨z,0,none⟩))
 refine kQ (CJ y3 (λm6 E W=>∃y0,ST false lD w W (hp w) ((z,Ol q 34)::((x,Ol a0 34)::y0))∧E 2=b8∧E 3=s∧E 5=(.string m6)) (λm6 h0=>?_) ?_)
 ·refine sg (V (kJ sW l3) (VA d (Mt Mh) (C4 c.Client.Name A5 c.Client.kM.length c6 A7 c.Client.kU.length c8) dJ cV (V (kJ sW l4) (VA d Mh (C4 a.Client.Name a2 a.Client.kM.length a7 a3 a.Client.kU.length a8) dJ cV (bS h0 λx5 r7 h0=>VE (Eg d call28 (yW c.Client (.slice A5 c.Client.kM.length c6) (.slice A7 c.Client.kU.length c8) a.Client (.slice a2 a.Client.kM.length a7) (.slice a3 a.Client.kU.length a8) _ _ (b1.mono lg.mono d.kG) (c5.mono mf.mono d.kG) (b3.mono lg.mono d.kG) (c9.mono mf.mono d.kG) r7) (λab d=>Wa (lr (Wm (V (qe rfl rfl rfl) ?_))))))))))
  refine Wm (LJ h0 (λm7 E W=>∃k6,ST false lD w W (hp w) ((z,Ol q 34)::((x,Ol a0 34)::k6))∧E 2=b8∧E 3=s∧E 5=(.string y8)∧E 7=(.string x5)∧E 51=(.bool m7)) 8 ?_ (λm7 f3 h4=>?_))
  ·rintro co E W ⟨k6,d,k9,i5,l0,w4,w5⟩ K
   refine ln (CI K w5 (λp3 K=>?_) (λp3 K=>?_))
   ·refine kR (Wh l0 (V (kJ sW i5) (Wf vE (VB d Mh rfl rfl bT (bS K λcb u2 K=>V (lU rfl rfl u2) (bS K λcc u3 K=>V (lU rfl rfl u3) (Wh w4 (bS K λcd u4 K=>V (lU rfl rfl u4) (bS K λce u5 K=>V (lU rfl rfl u5) (Wa ?_))))))))))
    refine ln ?_
    obtain rfl:=sj K
    exact ⟨_,(d.kB St),k9,i5,rfl⟩
   refine kn ?_
   obtain rfl:=sj K
   exact ⟨_,(d.kB St),k9,i5,l0⟩
  refine bC f3 (λt f3=>?_) (λt f3=>?_)
  ·refine un t (un t (un t (un t (un t (un t (un t (V (lb (cB t) rfl) ?_)))))))
   obtain rfl:=sj f3
   exact h4 _ _ ⟨_,(d.kB St),l3,l4,y1,rfl,rfl⟩
  refine ug t (kJ sW l3) (ug t (kJ vE rfl) (ug t (kF rfl (kV d.has (Mt Mh) rfl bT)) (ug t (kJ sW l4) (ug t (kJ vE rfl) (ug t (kF rfl (kV d.has Mh rfl bT)) (ug t (qe rfl rfl rfl) (V (lf (cB t) rfl) ?_)))))))
  obtain rfl:=sj f3
  exact h4 _ _ ⟨_,(d.kB St),l3,l4,y1,rfl,rfl⟩
 rintro y9 E W ⟨y0,d,l5,A,o4⟩ y4
 refine kQ (CJ y4 (λm4 E W=>∃n2,ST false lD w W (hp w) ((z,Ol q 34)::((x,Ol a0 34)::n2))∧E 2=b8∧E 3=s∧E 5=(.string m4)) (λm4 d3=>?_) ?_)
 ·refine sg (V (kJ Ad l5) (VA d (Mt Mh) (C2 c.Formula.Op c.Formula.K c.Formula.kz.kA c.Formula.kz.Word A9 c.Formula.Kids.length a4) aZ aG (V (kJ Ad A) (VA d Mh e5 aZ aG (bS d3 λav r4 d3=>VE (Eg d call66 ((Al li) c.Formula (.slice A9 c.Formula.Kids.length a4) a.Formula e6 _ _ (b2.mono kT.mono d.kG) (B.mono kT.mono d.kG) r4) (λz8 d=>V (nv rfl) (ln (CI d3 rfl (λp1 d3=>?_) (λp1 d3=>?_))))))))))
  ·refine sg (Wa (ln (kQ (CJ d3 (λm5 E W=>∃k5,ST false lD w W (hp w) ((z,Ol q 34)::((x,Ol a0 34)::k5))∧E 2=b8∧E 3=s∧E 5=(.string y9)∧E 8=(.string m5)) (λm5 U=>?_) ?_))))
   ·refine sg (V (kJ Ad A) (VA d Mh e5 aZ aG (bS U λaw r5 U=>VE (Eg d call67 (J1 a.Formula e6 _ _ (B.mono kT.mono d.kG) r5) (λz9 d=>ln (CI U rfl (λp2 U=>?_) (λp2 U=>?_)))))))
    ·refine kR (V (kJ Ad A) (VA d Mh e5 aZ aG (bS U λay r6 U=>VE (Eg d call68 ((Gn li) a.Formula e6 _ _ (B.mono kT.mono d.kG) r6) (λaa d=>Wa (ln ?_))))))
     obtain rfl:=sj U
     exact ⟨_,(d.kB St),l5,A,o4,rfl⟩
    refine kn ?_
    obtain rfl:=sj U
    exact ⟨_,(d.kB St),l5,A,o4,rfl⟩
   rintro cn E W ⟨k5,d,w0,w1,w2,w3⟩ d4
   refine kR (Wh w2 (Wh w3 (bS d4 λbx t9 d4=>V (lU rfl rfl t9) (bS d4 λbz u0 d4=>V (lU rfl rfl u0) (bS d4 λca u1 d4=>V (lU rfl rfl u1) (Wa (ln ?_)))))))
   obtain rfl:=sj d4
   exact ⟨_,(d.kB St),w0,w1,rfl⟩
  refine kn ?_
  obtain rfl:=sj d3
  exact ⟨_,(d.kB St),l5,A,o4⟩
 rintro cq E W ⟨n2,d,j6,P,n8⟩ w8
 refine kQ (CJ w8 (λm3 E W=>∃n3,ST false lD w W (hp w) ((z,Ol q 34)::((x,Ol a0 34)::n3))∧E 2=b8∧E 3=s∧E 5=(.string m3)) (λm3 J=>?_) ?_)
 ·refine sg (V (kJ H9 j6) (VB d (Mt Mh) rfl rfl bX (V (kJ H9 P) (VB d Mh rfl rfl bX (Wi rfl (ln (CI J rfl (λp0 J=>?_) (λp0 J=>?_))))))))
  ·refine kR (Wh n8 (V (kJ H9 P) (VB d Mh rfl rfl bX (bS J λau r3 J=>VE (Eg d iP (la.mK (rI a.oA _ _ (f6.mono d.kG) r3)) (λz7 d=>bS J λbu t6 J=>V (lU rfl rfl t6) (bS J λbv t7 J=>V (lU rfl rfl t7) (bS J λbw t8 J=>V (lU rfl rfl t8) (Wa (ln ?_))))))))))
   obtain rfl:=sj J
   exact ⟨_,(d.kB St),j6,P,rfl⟩
  refine kn ?_
  obtain rfl:=sj J
  exact ⟨_,(d.kB St),j6,P,n8⟩
 rintro cr E W ⟨n3,d,j7,g9,n9⟩ w9
 refine kQ (CJ w9 (λm2 E W=>∃n4,ST false lD w W (hp w) ((z,Ol q 34)::((x,Ol a0 34)::n4))∧E 2=b8∧E 3=s∧E 5=(.string m2)) (λm2 k=>?_) ?_)
 ·refine sg (V (kJ D9 j7) (VA d (Mt Mh) (wH c.lA) isAgg31 sizeOf31 (V (kJ D9 g9) (VA d Mh (wH a.lA) isAgg31 sizeOf31 (V (E1 rfl rfl (oX eqGuardType31) (AK (Mj _ c.lA a.lA))) (ln (CI k rfl (λo9 k=>?_) (λo9 k=>?_))))))))
  ·replace d:=d.drew
   have n:=d.has.kB (Kb Sn)
   refine lC n lj (X 0 rfl n (kH n9) (X 1 rfl n (kJ D9 g9) (X 2 rfl n (yg (i:=0) jh gS rfl rfl dc dc) (XH 3 rfl n (λ_ p=>kF rfl (kV p Mh rfl bX)) (X 7 rfl n (kJ D9 g9) (X 8 rfl n (yg (i:=1) jh gS rfl rfl dc dc) (XH 9 rfl n (λ_ p=>kF rfl (kV p Mh rfl bX)) (bS k λaq r1 k=>XE 4 rfl (Eg d iP (la.mK (rI a.lA.oH _ _ (f6.mono d.kG) r1)) (λz5 d=>?_))))))))))
   have n:=d.has.kB (Kb Sn)
   refine ⟨n,(bS k λbo t1 k=>X 5 rfl n (lU rfl rfl t1) (bS k λbp t2 k=>X 6 rfl n (lU rfl rfl t2) (bS k λar r2 k=>XE 10 rfl (Eg d iP (la.mK (rI a.lA.ow _ _ (f6.mono d.kG) r2)) (λz6 d=>?_)))))⟩
   have n:=d.has.kB (Kb Sn)
   refine ⟨n,(bS k λbq t3 k=>X 11 rfl n (lU rfl rfl t3) (bS k λbs t4 k=>X 12 rfl n (lU rfl rfl t4) (bS k λbt t5 k=>X 13 rfl n (lU rfl rfl t5) (X 14 rfl n (mU rfl) (lH kr (kP ?_))))))⟩
   obtain rfl:=sj k
   exact ⟨_,(d.kB St),j7,g9,rfl⟩
  refine kn ?_
  obtain rfl:=sj k
  exact ⟨_,(d.kB St),j7,g9,n9⟩
 rintro cs E W ⟨n4,d,j8,R,o0⟩ x1
 refine kQ (CJ x1 (λm1 E W=>∃n5,ST false lD w W (hp w) ((z,Ol q 34)::((x,Ol a0 34)::n5))∧E 2=b8∧E 3=s∧E 5=(.string m1)) (λm1 I=>?_) ?_)
 ·refine sg (V (kJ H0 j8) (VB d (Mt Mh) rfl rfl bX (V (kJ H0 R) (VB d Mh rfl rfl bX (Wi rfl (ln (CI I rfl (λo8 I=>?_) (λo8 I=>?_))))))))
  ·refine kR (Wh o0 (V (kJ H0 R) (VB d Mh rfl rfl bX (bS I λap r0 I=>VE (Eg d iP (la.mK (rI a.my _ _ (f6.mono d.kG) r0)) (λz4 d=>bS I λbk s8 I=>V (lU rfl rfl s8) (bS I λbl s9 I=>V (lU rfl rfl s9) (bS I λbn t0 I=>V (lU rfl rfl t0) (Wa (ln ?_))))))))))
   obtain rfl:=sj I
   exact ⟨_,(d.kB St),j8,R,rfl⟩
  refine kn ?_
  obtain rfl:=sj I
  exact ⟨_,(d.kB St),j8,R,o0⟩
 rintro ct E W ⟨n5,d,j9,i3,o1⟩ x2
 refine kQ (CJ x2 (λm0 E W=>∃n6,ST false lD w W (hp w) ((z,Ol q 34)::((x,Ol a0 34)::n6))∧E 2=b8∧E 3=s∧E 5=(.string m0)) (λm0 H=>?_) ?_)
 ·refine sg (V (kJ HW j9) (VB d (Mt Mh) rfl rfl bX (V (kJ HW i3) (VB d Mh rfl rfl bX (Wi rfl (ln (CI H rfl (λo7 H=>?_) (λo7 H=>?_))))))))
  ·refine kR (Wh o1 (V (kJ HW i3) (VB d Mh rfl rfl bX (bS H λao q9 H=>VE (Eg d iP (la.mK (rI a.nz _ _ (f6.mono d.kG) q9)) (λz3 d=>bS H λbh s5 H=>V (lU rfl rfl s5) (bS H λbi s6 H=>V (lU rfl rfl s6) (bS H λbj s7 H=>V (lU rfl rfl s7) (Wa (ln ?_))))))))))
   obtain rfl:=sj H
   exact ⟨_,(d.kB St),j9,i3,rfl⟩
  refine kn ?_
  obtain rfl:=sj H
  exact ⟨_,(d.kB St),j9,i3,o1⟩
 rintro cu E W ⟨n6,d,k0,i4,o2⟩ x3
 refine kQ (CJ x3 (λl9 E W=>∃n7,ST false lD w W (hp w) ((z,Ol q 34)::((x,Ol a0 34)::n7))∧E 2=b8∧E 3=s∧E 5=(.string l9)) (λl9 G=>?_) ?_)
 ·refine sg (V (kJ Ic k0) (VB d (Mt Mh) rfl rfl bX (V (kJ Ic i4) (VB d Mh rfl rfl bX (Wi rfl (ln (CI G rfl (λo6 G=>?_) (λo6 G=>?_))))))))
  ·refine kR (Wh o2 (V (kJ Ic i4) (VB d Mh rfl rfl bX (bS G λan q8 G=>VE (Eg d iP (la.mK (rI a.mW _ _ (f6.mono d.kG) q8)) (λz2 d=>bS G λbd s2 G=>V (lU rfl rfl s2) (bS G λbe s3 G=>V (lU rfl rfl s3) (bS G λbf s4 G=>V (lU rfl rfl s4) (Wa (ln ?_))))))))))
   obtain rfl:=sj G
   exact ⟨_,(d.kB St),k0,i4,rfl⟩
  refine kn ?_
  obtain rfl:=sj G
  exact ⟨_,(d.kB St),k0,i4,o2⟩
 rintro i8 E W ⟨n7,d,k1,o3,y2⟩ x4
 refine sg (V (kJ wY k1) (VB d (Mt Mh) rfl rfl iQ (V (mx eF rfl T) (V (kJ wY o3) (VB d Mh rfl rfl iQ (V (mx eF rfl a9) (Wi rfl (Wa (lS ?_)))))))))
 refine V (kJ wY k1) (VB d (Mt Mh) rfl rfl iQ (V (mx eF rfl T) (Wm (ln (mj (λi E W=>∃f5 h6,(E 155= .int .i64 (i:Nat)∧E 154= .int .i64 (c.Keys.length:Nat))∧ST false lD w W (hp w) ((z,Ol q 34)::((x,Ol a0 34)::h6))∧E 2=b8∧E 3=s∧E 5=(.string i8)∧E 9=(.bool f5)∧nV a i8 (c.Keys.drop i) i f5=some r) c.Keys.length T.len ⟨((c.Keys.length:Int)==(a.Keys.length:Int)),_,⟨rfl,rfl⟩,(d.kB St),k1,o3,y2,rfl,x4⟩ dc dc dc (λ_ _ _ h=>by obtain ⟨_,_,aE,_⟩:=h; exact aE) ?_ ?_)))))
 ·rintro L E W p5 ⟨f5,h6,⟨O,eN⟩,d,g3,f7,f8,f9,d1⟩
  let e7:Value:=(.int .i64 (L:Int))
  obtain ⟨g8,z0,v0,j3,v1⟩:=lX p5
  rw [v0] at d1
  refine bg (Wh O (Wa (ln ?_)))
  replace d:=d.drew
  have n:=d.has.kB (Kb (Kb Sn))
  refine lC n lj (X 0 rfl n (kH f9) (X 1 rfl n (kH rfl) (PJ d1 (λl7 E W=>∃k2,ST false lD w W (hp w) ((z,Ol q 34)::((x,Ol a0 34)::k2))∧E 2=b8∧E 3=s∧E 5=(.string i8)∧E 9=(.bool f5)∧E 10=e7∧E 154=(.int .i64 (c.Keys.length:Int))∧E 155=e7∧E 173=(.bool l7)) (bm 34 65535) 18 ?_ (λl7 d2 h3=>?_))))
  ·rintro cl E W ⟨k2,d,g4,g7,h9,i0,k8,i1,i2,v2⟩ p6
   have n:=d.has.kB (Kb (Kb Sn))
   refine X 16 rfl n (kH v2) (PJ p6 (λl6 E W=>∃k3,ST false lD w W (hp w) ((z,Ol q 34)::((x,Ol a0 34)::k3))∧E 2=b8∧E 3=s∧E 5=(.string i8)∧E 9=(.bool f5)∧E 154=(.int .i64 (c.Keys.length:Int))∧E 155=e7∧E 190=(.bool l6)) (bm 34 8589934591) 1 ?_ (λl6 v g0=>?_))
   ·rintro x7 E W ⟨k3,d,v3,v4,v5,ad,v6,v7,v8⟩ p7
    have n:=d.has.kB (Kb (Kb Sn))
    exact X 33 rfl n (mU v8) (lH kr (lI (kP ⟨v7,x7,_,⟨rfl,v6⟩,(d.kB St),v3,v4,v5,rfl,(by rw [v1]; exact p7)⟩)))
   refine bC v (λg v=>?_) (λg v=>?_)
   ·refine Xg 17 rfl rfl (cB g) n (kJ wY g4) (pu 18 rfl rfl (cB g) n (λ_ p=>kF rfl (kV p (Mt Mh) rfl iQ)) (Xg 19 rfl rfl (cB g) n (kH k8) (np 20 rfl kr (.inr ⟨16,true,174,rfl,rfl,by decide,(cB g)⟩) rfl dc (λ_ _ h=>h) n (mo (i:=(L:Int)) (x0:=g8) oF.out eF fT rfl rfl T (aM _) j3) (λae ⟨_,⟨n0,rfl,i9⟩,p9⟩=>np 21 rfl kr (.inr ⟨16,true,174,rfl,rfl,by decide,(cB g)⟩) rfl dc (λ_ _ h=>h) n (pE [n0] El rfl p9 rfl) (λaf q0=>pu 22 rfl rfl (cB g) n (λ_ p=>kF rfl (pO p (y:=n0) q0 gI)) (Xg 24 rfl rfl (cB g) n (kJ wY g7) (pu 25 rfl rfl (cB g) n (λ_ p=>kF rfl (kV p Mh rfl iQ)) (Xg 26 rfl rfl (cB g) n (kH k8) (bS v λx8 j4 v=>np 27 rfl kr (.inr ⟨16,true,174,rfl,rfl,by decide,(cB g)⟩) rfl dc (λ_ _ h=>h) n (mo (i:=(L:Int)) (x0:=x8) oF.out eF fT rfl rfl a9 (kZ j4) (kY j4)) (λag ⟨_,⟨n1,rfl,j0⟩,q1⟩=>np 28 rfl kr (.inr ⟨16,true,174,rfl,rfl,by decide,(cB g)⟩) rfl dc (λ_ _ h=>h) n (pE [n1] El rfl q1 rfl) (λah q2=>pu 29 rfl rfl (cB g) n (λ_ p=>kF rfl (pO p (y:=n1) q2 gI)) (D8 23 30 rfl rfl kr (.inr ⟨16,true,174,rfl,rfl,by decide,(cB g)⟩) (.inr ⟨16,true,174,rfl,rfl,by decide,(cB g)⟩) rfl rfl dc dc ?_ ?_))))))))))))
    ·refine .inl ⟨_,_,uO cC dU bN rfl (i9.mono (Pl.mono _) d.kG),⟨n,(IY 30 rfl kr (.inr ⟨16,true,174,rfl,rfl,by decide,(cB g)⟩) rfl dc (.inl ⟨_,_,uO cC dU bN rfl (j0.mono (Pl.mono _) d.kG),⟨n,(Xg 31 rfl rfl (cB g) n (qe rfl rfl rfl) (X 32 rfl n (lb (cB g) rfl) ?_))⟩⟩))⟩⟩
     obtain rfl:=sj v
     refine nf kr (g0 _ _ ⟨_,(d.kB St),g4,g7,h9,i0,i1,i2,rfl⟩)
    ·refine .inl ⟨_,_,uO cC dU bN rfl (j0.mono (Pl.mono _) d.kG),⟨n,(IY 23 rfl kr (.inr ⟨16,true,174,rfl,rfl,by decide,(cB g)⟩) rfl dc (.inl ⟨_,_,uO cC dU bN rfl (i9.mono (Pl.mono _) d.kG),⟨n,(Xg 31 rfl rfl (cB g) n (qe rfl rfl rfl) (X 32 rfl n (lb (cB g) rfl) ?_))⟩⟩))⟩⟩
     obtain rfl:=sj v
     refine nf kr (g0 _ _ ⟨_,(d.kB St),g4,g7,h9,i0,i1,i2,rfl⟩)
   refine Xn 17 rfl rfl (cB g) n (Xn 18 rfl rfl (cB g) n (Xn 19 rfl rfl (cB g) n (Xn 20 rfl rfl (cB g) n (Xn 21 rfl rfl (cB g) n (Xn 22 rfl rfl (cB g) n (Xn 23 rfl rfl (cB g) n (Xn 24 rfl rfl (cB g) n (Xn 25 rfl rfl (cB g) n (Xn 26 rfl rfl (cB g) n (Xn 27 rfl rfl (cB g) n (Xn 28 rfl rfl (cB g) n (Xn 29 rfl rfl (cB g) n (Xn 30 rfl rfl (cB g) n (Xn 31 rfl rfl (cB g) n ?_))))))))))))))
   refine X 32 rfl n (lf (cB g) rfl) ?_
   obtain rfl:=sj v
   refine nf kr (g0 _ _ ⟨_,(d.kB St),g4,g7,h9,i0,i1,i2,rfl⟩)
  refine bC d2 (λj d2=>?_) (λj d2=>?_)
  ·refine Xg 2 rfl rfl (cB j) n (kJ wY g3) (pu 3 rfl rfl (cB j) n (λ_ p=>kF rfl (kV p (Mt Mh) rfl iQ)) (Xg 4 rfl rfl (cB j) n (kH rfl) (np 5 rfl kr (.inr ⟨1,true,159,rfl,rfl,by decide,(cB j)⟩) rfl dc (λ_ _ h=>h) n (mo (i:=(L:Int)) (x0:=g8) oF.out eF fT rfl rfl T (aM _) j3) (λai ⟨_,⟨cj,rfl,y6⟩,q3⟩=>np 6 rfl kr (.inr ⟨1,true,159,rfl,rfl,by decide,(cB j)⟩) rfl dc (λ_ _ h=>h) n (pE [(.string g8.mC)] Eu rfl q3 rfl) (λaj q4=>pu 7 rfl rfl (cB j) n (λ_ p=>kF rfl (pO p (y:=(.string g8.mC)) q4 bT)) (Xg 8 rfl rfl (cB j) n (kJ wY f7) (pu 9 rfl rfl (cB j) n (λ_ p=>kF rfl (kV p Mh rfl iQ)) (Xg 10 rfl rfl (cB j) n (kH rfl) (bS d2 λi7 j5 d2=>np 11 rfl kr (.inr ⟨1,true,159,rfl,rfl,by decide,(cB j)⟩) rfl dc (λ_ _ h=>h) n (mo (i:=(L:Int)) (x0:=i7) oF.out eF fT rfl rfl a9 (kZ j5) (kY j5)) (λak ⟨_,⟨ck,rfl,y7⟩,q5⟩=>np 12 rfl kr (.inr ⟨1,true,159,rfl,rfl,by decide,(cB j)⟩) rfl dc (λ_ _ h=>h) n (pE [(.string i7.mC)] Eu rfl q5 rfl) (λal q6=>pu 13 rfl rfl (cB j) n (λ_ p=>kF rfl (pO p (y:=(.string i7.mC)) q6 bT)) (Xg 14 rfl rfl (cB j) n (qe rfl rfl rfl) (X 15 rfl n (lb (cB j) rfl) ?_)))))))))))))
   obtain rfl:=sj d2
   refine nf kr (h3 _ _ ⟨_,(d.kB St),g3,f7,f8,f9,rfl,eN,O,rfl⟩)
  refine Xn 2 rfl rfl (cB j) n (Xn 3 rfl rfl (cB j) n (Xn 4 rfl rfl (cB j) n (Xn 5 rfl rfl (cB j) n (Xn 6 rfl rfl (cB j) n (Xn 7 rfl rfl (cB j) n (Xn 8 rfl rfl (cB j) n (Xn 9 rfl rfl (cB j) n (Xn 10 rfl rfl (cB j) n (Xn 11 rfl rfl (cB j) n (Xn 12 rfl rfl (cB j) n (Xn 13 rfl rfl (cB j) n (Xn 14 rfl rfl (cB j) n (X 15 rfl n (lf (cB j) rfl) ?_)))))))))))))
  obtain rfl:=sj d2
  refine nf kr (h3 _ _ ⟨_,(d.kB St),g3,f7,f8,f9,rfl,eN,O,rfl⟩)
 rintro E W ⟨f5,h6,⟨O,eN⟩,d,g3,f7,f8,f9,d1⟩
 rw [aO] at d1
 refine kP ?_
 replace d:=d.kB (Kb (Db St))
 refine kQ (CJ d1 (λl8 E W=>∃k4,ST false lD w W (hp w) k4∧E 5=(.string l8)) (λl8 D=>?_) ?_)
 ·refine sg (Wh f9 (V (nv rfl) (ln (CI D rfl (λo5 D=>?_) (λo5 D=>?_)))))
  ·refine kR (Wh f8 (V (kJ wY f7) (VB d Mh rfl rfl iQ (V (mx eF rfl a9) (bS D λam q7 D=>VE (Eg d iP (la.mK (rI (a.Keys.length:Int) _ _ (f6.mono d.kG) q7)) (λz1 d=>bS D λaz r9 D=>V (lU rfl rfl r9) (bS D λba s0 D=>V (lU rfl rfl s0) (bS D λbc s1 D=>V (lU rfl rfl s1) (Wa (lu ?_)))))))))))
   refine kP ?_
   obtain rfl:=sj D
   exact ⟨_,(d.kB (Db St)),rfl⟩
  refine kn ?_
  obtain rfl:=sj D
  exact ⟨_,(d.kB (Db St)),f8⟩
 rintro cm E W ⟨k4,d,v9⟩ p8
 exact sg (Wh v9 (Wa (lt (rQ p8 d))))
set_option maxHeartbeats 4000000 in
theorem Ft (a:nA) (b7 c1 a9 b6 b0 d9:Value) (c:nA) (c0 c3 b1 b9 b2 e0:Value) (r:Bool) (w:World) (e6:zf pg0 (hp w)) (u:Sl kX 15 (hp w) b7 a.kA.kM) (z:Sl ls 8 (hp w) c1 a.kA.kU) (g:Sl kX 15 (hp w) a9 a.Client.kM) (t:Sl ls 8 (hp w) b6 a.Client.kU) (D:Sl kD 5 (hp w) b0 a.Formula.Kids) (Y:Sl oF 2 (hp w) d9 a.Keys) (y:Sl kX 15 (hp w) c0 c.kA.kM) (B:Sl ls 8 (hp w) c3 c.kA.kU) (i:Sl kX 15 (hp w) b1 c.Client.kM) (x:Sl ls 8 (hp w) b9 c.Client.kU) (G:Sl kD 5 (hp w) b2 c.Formula.Kids) (Z:Sl oF 2 (hp w) e0 c.Keys) (hm:vj a c=some r) :
  la false pg0 7 [(.agg #[(.string a.kA.Name),b7,c1,(.string a.Client.Name),a9,b6,(.int .i64 a.Formula.Op),(.int .i64 a.Formula.K),(.string a.Formula.kz.kA),(.string a.Formula.kz.Word),b0,(.int .i64 a.oA),(.int .i64 a.lA.oH),(.int .i64 a.lA.ow),(.int .i64 a.my),(.int .i64 a.nz),(.int .i64 a.mW),d9]),(.agg #[(.string c.kA.Name),c0,c3,(.string c.Client.Name),b1,b9,(.int .i64 c.Formula.Op),(.int .i64 c.Formula.K),(.string c.Formula.kz.kA),(.string c.Formula.kz.Word),b2,(.int .i64 c.oA),(.int .i64 c.lA.oH),(.int .i64 c.lA.ow),(.int .i64 c.my),(.int .i64 c.nz),(.int .i64 c.mW),e0])] w (.bool r):=by
 refine cG 53 func7 rfl (λd=>sg ?_)
 obtain ⟨A1,c2,rfl⟩:=u.form
 let L:Value:=(.slice A1 a.kA.kM.length c2)
 obtain ⟨A3,c4,rfl⟩:=z.form
 let j2:=(C4 a.kA.Name A1 a.kA.kM.length c2 A3 a.kA.kU.length c4)
 let P:Value:=(.slice A3 a.kA.kU.length c4)
 obtain ⟨A5,c6,rfl⟩:=g.form
 let b8:Value:=(.slice A5 a.Client.kM.length c6)
 obtain ⟨A7,c8,rfl⟩:=t.form
 let j1:=(C4 a.Client.Name A5 a.Client.kM.length c6 A7 a.Client.kU.length c8)
 let O:Value:=(.slice A7 a.Client.kU.length c8)
 obtain ⟨A9,a5,rfl⟩:=D.form
 let d4:Value:=(.slice A9 a.Formula.Kids.length a5)
 obtain ⟨a2,a6,rfl⟩:=Y.form
 let g5:Value:=(.slice a2 a.Keys.length a6)
 let a0:=(C1 a.kA.Name A1 a.kA.kM.length c2 A3 a.kA.kU.length c4 a.Client.Name A5 a.Client.kM.length c6 A7 a.Client.kU.length c8 a.Formula.Op a.Formula.K a.Formula.kz.kA a.Formula.kz.Word A9 a.Formula.Kids.length a5 a.oA a.lA.oH a.lA.ow a.my a.nz a.mW a2 a.Keys.length a6)
 refine VE (ly d rfl (λj4 R d=>?_))
 obtain ⟨H,M,rfl⟩:=y.form
 let d1:Value:=(.slice H c.kA.kM.length M)
 obtain ⟨I,N,rfl⟩:=B.form
 let k4:=(C4 c.kA.Name H c.kA.kM.length M I c.kA.kU.length N)
 let d3:Value:=(.slice I c.kA.kU.length N)
 obtain ⟨J,Q,rfl⟩:=i.form
 let d0:Value:=(.slice J c.Client.kM.length Q)
 obtain ⟨K,T,rfl⟩:=x.form
 let k3:=(C4 c.Client.Name J c.Client.kM.length Q K c.Client.kU.length T)
 let d2:Value:=(.slice K c.Client.kU.length T)
 obtain ⟨a3,a7,rfl⟩:=G.form
 let d6:Value:=(.slice a3 c.Formula.Kids.length a7)
 obtain ⟨a4,a8,rfl⟩:=Z.form
 let g6:Value:=(.slice a4 c.Keys.length a8)
 let A:=(C1 c.kA.Name H c.kA.kM.length M I c.kA.kU.length N c.Client.Name J c.Client.kM.length Q K c.Client.kU.length T c.Formula.Op c.Formula.K c.Formula.kz.kA c.Formula.kz.Word a3 c.Formula.Kids.length a7 c.oA c.lA.oH c.lA.ow c.my c.nz c.mW a4 c.Keys.length a8)
 refine VE (ly d rfl (λj5 e2 d=>Wa (lS (bS hm λj9 h2 hm=>VE (Eg d call20 (JM  _ _ (e6.mono d.kG) h2) (λj6 d=>V (nv rfl) (ln (CI hm rfl (λh1 hm=>?_) (λh1 hm=>?_)))))))))
 ·refine sg (Wa (ln ?_))
  replace d:=d.kB (Db (Db St))
  refine lB (lV ?_)
  obtain rfl:=sj hm
  exact rP d
 refine kn (kQ (kQ ?_))
 replace d:=d.drew
 have n:=d.has.kB (Kb (Kb Sn))
 refine lC n lj (XH 0 rfl n (λ_ p=>kF rfl (kL p (Mt Mh) a0 rfl fD dQ)) (XH 2 rfl n (λ_ p=>kF rfl (kL p Mh A rfl fD dQ)) (bS hm λk0 h3 hm=>XE 1 rfl (Eg d call11 (Fl a L P b8 O d4 g5 _ _ (u.mono lg.mono d.kG) (z.mono mf.mono d.kG) (g.mono lg.mono d.kG) (t.mono mf.mono d.kG) (D.mono kT.mono d.kG) (Y.mono xi.mono d.kG) h3) (λj7 d=>?_)))))
 have n:=d.has.kB (Kb (Kb Sn))
 refine ⟨n,(bS hm λk1 h4 hm=>XE 3 rfl (Eg d call11 (Fl c d1 d3 d0 d2 d6 g6 _ _ (y.mono lg.mono d.kG) (B.mono mf.mono d.kG) (i.mono lg.mono d.kG) (x.mono mf.mono d.kG) (G.mono kT.mono d.kG) (Z.mono xi.mono d.kG) h4) (λj8 d=>?_)))⟩
 have n:=d.has.kB (Kb (Kb Sn))
 refine ⟨n,(X 4 rfl n (lE rfl rfl rfl) (X 5 rfl n (lE rfl rfl rfl) (X 6 rfl n (kH rfl) (PJ hm (λf4 E W=>∃e7,ST false lD w W (hp w) ((e2,Ol A 34)::((R,Ol a0 34)::e7))∧E 2=(.pointer (some ⟨R,0,none⟩))∧E 3=(.pointer (some ⟨e2,0,none⟩))∧E 19=(.bool f4)) (bm 13 8191) 0 ?_ (λf4 d5 e5=>?_)))))⟩
 ·rintro k2 E W ⟨e7,d,d7,d8,g8⟩ q
  refine lH kr (kP (CI q g8 (λf5 q=>?_) (λf5 q=>?_)))
  ·refine sg (Wa (ln ?_))
   replace d:=d.kB (Db (Db St))
   refine lB (lV ?_)
   obtain rfl:=sj q
   exact rP d
  refine kn (kQ ?_)
  replace d:=d.drew
  have n:=d.has.kB (Kb (Kb Sn))
  refine lC n lj (XH 0 rfl n (λ_ p=>kF d7 (kL p (Mt Mh) a0 rfl fD dQ)) (XH 1 rfl n (λ_ p=>kF d8 (kL p Mh A rfl fD dQ)) (XH 3 rfl n (λ_ p=>kF d7 (kL p (Mt Mh) a0 rfl fD dQ)) (XH 4 rfl n (λ_ p=>kF d8 (kL p Mh A rfl fD dQ)) (bS q λi3 f8 q=>XE 2 rfl (Eg d call25 (Fi a L P b8 O d4 g5 c d1 d3 d0 d2 d6 g6 _ _ (e6.mono d.kG) (u.mono lg.mono d.kG) (z.mono mf.mono d.kG) (g.mono lg.mono d.kG) (t.mono mf.mono d.kG) (D.mono kT.mono d.kG) (Y.mono xi.mono d.kG) (y.mono lg.mono d.kG) (B.mono mf.mono d.kG) (i.mono lg.mono d.kG) (x.mono mf.mono d.kG) (G.mono kT.mono d.kG) (Z.mono xi.mono d.kG) f8) (λh5 d=>?_)))))))
  have n:=d.has.kB (Kb (Kb Sn))
  refine ⟨n,(bS q λi4 f9 q=>XE 5 rfl (Eg d call26 (Kx a L P b8 O d4 g5 c d1 d3 d0 d2 d6 g6 _ _ (e6.mono d.kG) (u.mono lg.mono d.kG) (z.mono mf.mono d.kG) (g.mono lg.mono d.kG) (t.mono mf.mono d.kG) (D.mono kT.mono d.kG) (Y.mono xi.mono d.kG) (y.mono lg.mono d.kG) (B.mono mf.mono d.kG) (i.mono lg.mono d.kG) (x.mono mf.mono d.kG) (G.mono kT.mono d.kG) (Z.mono xi.mono d.kG) f9) (λh6 d=>?_)))⟩
  have n:=d.has.kB (Kb (Kb Sn))
  refine ⟨n,(X 6 rfl n (qe rfl rfl rfl) (X 7 rfl n (kH rfl) (PJ q (λf3 E W=>∃e8,ST false lD w W (hp w) ((e2,Ol A 34)::((R,Ol a0 34)::e8))∧E 2=(.pointer (some ⟨R,0,none⟩))∧E 3=(.pointer (some ⟨e2,0,none⟩))∧E 39=(.bool f3)) (bm 34 1048575) 14 ?_ (λf3 v e4=>?_))))⟩
  ·rintro j0 E W ⟨e8,d,f0,f1,g9⟩ f6
   have n:=d.has.kB (Kb (Kb Sn))
   refine X 20 rfl n (kH g9) (PJ f6 (λf2 E W=>∃e9,ST false lD w W (hp w) ((e2,Ol A 34)::((R,Ol a0 34)::e9))∧E 52=(.bool f2)) (bm 34 8589934591) 1 ?_ (λf2 s e3=>?_))
   ·rintro j3 E W ⟨e9,d,h0⟩ f7
    have n:=d.has.kB (Kb (Kb Sn))
    refine X 33 rfl n (mU h0) (lH kr (kP ?_))
    exact lB (rQ f7 d)
   refine bC s (λk s=>?_) (λk s=>?_)
   ·refine Xg 21 rfl rfl (cB k) n (kJ uX f0) (pu 22 rfl rfl (cB k) n (λ_ p=>kF rfl (kL p (Mt Mh) j2 rfl dJ cV)) (Xg 23 rfl rfl (cB k) n (kJ uX f1) (pu 24 rfl rfl (cB k) n (λ_ p=>kF rfl (kL p Mh k4 rfl dJ cV)) (Xg 26 rfl rfl (cB k) n (kJ uX f0) (pu 27 rfl rfl (cB k) n (λ_ p=>kF rfl (kL p (Mt Mh) j2 rfl dJ cV)) (Xg 28 rfl rfl (cB k) n (kJ uX f1) (pu 29 rfl rfl (cB k) n (λ_ p=>kF rfl (kL p Mh k4 rfl dJ cV)) (bS s λi5 g0 s=>yq 25 rfl rfl (cB k) (Eg d call27 (yd a.kA L P c.kA d1 d3 _ _ (u.mono lg.mono d.kG) (z.mono mf.mono d.kG) (y.mono lg.mono d.kG) (B.mono mf.mono d.kG) g0) (λh7 d=>?_))))))))))
    have n:=d.has.kB (Kb (Kb Sn))
    refine ⟨n,(bS s λi6 g1 s=>yq 30 rfl rfl (cB k) (Eg d call28 (yW a.kA L P c.kA d1 d3 _ _ (u.mono lg.mono d.kG) (z.mono mf.mono d.kG) (y.mono lg.mono d.kG) (B.mono mf.mono d.kG) g1) (λh8 d=>?_)))⟩
    have n:=d.has.kB (Kb (Kb Sn))
    refine ⟨n,(Xg 31 rfl rfl (cB k) n (qe rfl rfl rfl) (X 32 rfl n (lb (cB k) rfl) ?_))⟩
    obtain rfl:=sj s
    refine nf kr (e3 _ _ ⟨_,(d.kB St),rfl⟩)
   refine Xn 21 rfl rfl (cB k) n (Xn 22 rfl rfl (cB k) n (Xn 23 rfl rfl (cB k) n (Xn 24 rfl rfl (cB k) n (Xn 25 rfl rfl (cB k) n (Xn 26 rfl rfl (cB k) n (Xn 27 rfl rfl (cB k) n (Xn 28 rfl rfl (cB k) n (Xn 29 rfl rfl (cB k) n (Xn 30 rfl rfl (cB k) n (Xn 31 rfl rfl (cB k) n (X 32 rfl n (lf (cB k) rfl) ?_)))))))))))
   obtain rfl:=sj s
   refine nf kr (e3 _ _ ⟨_,(d.kB St),rfl⟩)
  refine bC v (λj v=>?_) (λj v=>?_)
  ·refine Xg 8 rfl rfl (cB j) n (kJ sW d7) (pu 9 rfl rfl (cB j) n (λ_ p=>kF rfl (kL p (Mt Mh) j1 rfl dJ cV)) (Xg 10 rfl rfl (cB j) n (kJ sW d8) (pu 11 rfl rfl (cB j) n (λ_ p=>kF rfl (kL p Mh k3 rfl dJ cV)) (Xg 13 rfl rfl (cB j) n (kJ sW d7) (pu 14 rfl rfl (cB j) n (λ_ p=>kF rfl (kL p (Mt Mh) j1 rfl dJ cV)) (Xg 15 rfl rfl (cB j) n (kJ sW d8) (pu 16 rfl rfl (cB j) n (λ_ p=>kF rfl (kL p Mh k3 rfl dJ cV)) (bS v λi7 g2 v=>yq 12 rfl rfl (cB j) (Eg d call27 (yd a.Client b8 O c.Client d0 d2 _ _ (g.mono lg.mono d.kG) (t.mono mf.mono d.kG) (i.mono lg.mono d.kG) (x.mono mf.mono d.kG) g2) (λh9 d=>?_))))))))))
   have n:=d.has.kB (Kb (Kb Sn))
   refine ⟨n,(bS v λi8 g3 v=>yq 17 rfl rfl (cB j) (Eg d call28 (yW a.Client b8 O c.Client d0 d2 _ _ (g.mono lg.mono d.kG) (t.mono mf.mono d.kG) (i.mono lg.mono d.kG) (x.mono mf.mono d.kG) g3) (λi0 d=>?_)))⟩
   have n:=d.has.kB (Kb (Kb Sn))
   refine ⟨n,(Xg 18 rfl rfl (cB j) n (qe rfl rfl rfl) (X 19 rfl n (lb (cB j) rfl) ?_))⟩
   obtain rfl:=sj v
   refine nf kr (e4 _ _ ⟨_,(d.kB St),d7,d8,rfl⟩)
  refine Xn 8 rfl rfl (cB j) n (Xn 9 rfl rfl (cB j) n (Xn 10 rfl rfl (cB j) n (Xn 11 rfl rfl (cB j) n (Xn 12 rfl rfl (cB j) n (Xn 13 rfl rfl (cB j) n (Xn 14 rfl rfl (cB j) n (Xn 15 rfl rfl (cB j) n (Xn 16 rfl rfl (cB j) n (Xn 17 rfl rfl (cB j) n (Xn 18 rfl rfl (cB j) n (X 19 rfl n (lf (cB j) rfl) ?_)))))))))))
  obtain rfl:=sj v
  refine nf kr (e4 _ _ ⟨_,(d.kB St),d7,d8,rfl⟩)
 refine bC d5 (λU d5=>?_) (λU d5=>?_)
 ·refine Xn 7 rfl rfl (cB U) n (Xn 8 rfl rfl (cB U) n (Xn 9 rfl rfl (cB U) n (Xn 10 rfl rfl (cB U) n (Xn 11 rfl rfl (cB U) n (X 12 rfl n (lb (cB U) rfl) ?_)))))
  obtain rfl:=sj d5
  refine nf kr (e5 _ _ ⟨_,(d.kB St),rfl,rfl,rfl⟩)
 refine pu 7 rfl rfl (cB U) n (λ_ p=>kF rfl (kL p (Mt Mh) a0 rfl fD dQ)) (pu 8 rfl rfl (cB U) n (λ_ p=>kF rfl (kL p Mh A rfl fD dQ)) (yq 9 rfl rfl (cB U) (lJ (cs:=#[(.string a.kA.Name),L,P,(.string a.Client.Name),b8,O,(.int .i64 a.Formula.Op),(.int .i64 a.Formula.K),(.string a.Formula.kz.kA),(.string a.Formula.kz.Word),d4,(.int .i64 a.oA),(.int .i64 a.lA.oH),(.int .i64 a.lA.ow),(.int .i64 a.my),(.int .i64 a.nz),(.int .i64 a.mW),g5,(.string c.kA.Name),d1,d3,(.string c.Client.Name),d0,d2,(.int .i64 c.Formula.Op),(.int .i64 c.Formula.K),(.string c.Formula.kz.kA),(.string c.Formula.kz.Word),d6,(.int .i64 c.oA),(.int .i64 c.lA.oH),(.int .i64 c.lA.ow),(.int .i64 c.my),(.int .i64 c.nz),(.int .i64 c.mW),g6]) d (uB rfl rfl) (oa underlying108 dQ jD) (λi1 g7 d=>?_))))
 have n:=d.has.kB (Db (Kb (Kb Sn)))
 refine ⟨n,(bS d5 λi9 g4 d5=>yq 10 rfl rfl (cB U) (Eg d call24 (JV (.slice (some ⟨g7,0,none⟩) 2 2) ([a,c]) _ _ ((ml.lit Q3 (l:=[a,c]) (.cons (ys:=C1 a.kA.Name A1 a.kA.kM.length c2 A3 a.kA.kU.length c4 a.Client.Name A5 a.Client.kM.length c6 A7 a.Client.kU.length c8 a.Formula.Op a.Formula.K a.Formula.kz.kA a.Formula.kz.Word A9 a.Formula.Kids.length a5 a.oA a.lA.oH a.lA.ow a.my a.nz a.mW a2 a.Keys.length a6) (yi.mk ⟨L,P,b8,O,d4,g5,rfl,u,z,g,t,D,Y⟩) (.cons (ys:=C1 c.kA.Name H c.kA.kM.length M I c.kA.kU.length N c.Client.Name J c.Client.kM.length Q K c.Client.kU.length T c.Formula.Op c.Formula.K c.Formula.kz.kA c.Formula.kz.Word a3 c.Formula.Kids.length a7 c.oA c.lA.oH c.lA.ow c.my c.nz c.mW a4 c.Keys.length a8) (yi.mk ⟨d1,d3,d0,d2,d6,g6,rfl,y,B,i,x,G,Z⟩) .nil)) rfl nb rfl).sl Q3 d.kG (λb o hq=>(by rw [bH] at hq; cases hq; exact d.at_ Mh))) g4) (λi2 d=>?_)))⟩
 have n:=d.has.kB (Db (Kb (Kb Sn)))
 refine ⟨n,(Xg 11 rfl rfl (cB U) n (nv rfl) (X 12 rfl n (lf (cB U) rfl) ?_))⟩
 obtain rfl:=sj d5
 refine nf kr (e5 _ _ ⟨_,(d.kB (Db St)),rfl,rfl,rfl⟩)
end Go.Proofs.YtjjjihkifgdhgaaGreatDoor
