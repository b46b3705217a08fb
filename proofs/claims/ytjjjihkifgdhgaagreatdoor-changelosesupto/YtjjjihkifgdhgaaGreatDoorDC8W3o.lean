/- a part of a proof of ChangeLoses -/
import Derived.Test.YtjjjihkifgdhgaaGreatDoorDC8W2o
set_option linter.all false
namespace Go.Proofs.YtjjjihkifgdhgaaGreatDoor
open Go.IntKind renaming wrap → wi0
open Go.Proofs.Tryz renaming prog → pg0
open Go.RowKit
set_option maxRecDepth 10000
open Tryz
theorem Mc (N:ku) (Q D:Nat) (t:Value) (B:List (ku×(List (ByteArray×Bool)))) (a:Value) (j:List kv) (i:Value) (z:List (ku×(List kv))) (c:Value) (k:List (ByteArray×(List kv))) (g:Value) (u:List kV) (I:Int) (T:Nat) (Y:ByteArray) (r:Bool) (w:World) (M:tR (λ(x:ku)=>(.agg (kJ x).toArray)) (nz Value.string (λ(x:Bool)=>(Value.bool x))) (hp w) t B) (G:Sl (Pl kF) 9 (hp w) a j) (K:tR (λ(x:ku)=>(.agg (kJ x).toArray)) (lh 52 kF 9) (hp w) i z) (H:tR Value.string (lh 52 kF 9) (hp w) c k) (J:Sl (Pl nB) 3 (hp w) g u) (U:At (hp w) (.pointer (some ⟨D,0,none⟩)) [t,a,i,c,g,(.int .i64 I)]) (Z:At (hp w) (.pointer (some ⟨Q,0,none⟩)) [(.pointer (some ⟨D,0,none⟩))]) (n:At (hp w) (.pointer (some ⟨T,0,none⟩)) [(.string Y)]) (hm:sT N B j z k u I Y=some r) :
  lC true pg0 191 [(.agg (kJ N).toArray),(.pointer (some ⟨Q,0,none⟩)),(.pointer (some ⟨T,0,none⟩))] w (.bool r):=by
 refine cG 9 func191 rfl (λd=>sg (VE (lM d rfl (λW2 p d=>Wa (lr (V (kB rfl (sJ d.has (y:=(.pointer (some ⟨D,0,none⟩))) Z isAgg183)) (VA d Mh (kJ N) bZ bF (V (kB rfl (sJ d.has (y:=(.string Y)) n cN)) (bS hm λv a2 hm=>VE (Eg d call128 (FJ D t B a j i z c k g u I N Y _ _ (M.mono d.kC) (G.mono (Pl.mono _) d.kC) (K.mono d.kC) (H.mono d.kC) (J.mono (Pl.mono _) d.kC) (U.mono d.kC) a2) (λW5 d=>Wa ?_)))))))))))
 refine ln ?_
 exact lJ (rQ hm d)
theorem Ij (g:Value) (i r:List kv) (w:World) (a:Sl (Pl kF) 9 (hp w) g i) (hm:uL i=some r) :
  pH true pg0 196 [g] w 52 kF 9 r:=by
 unfold uL at hm
 refine Dg 8 func196 rfl (λd=>sg (Wa (lS (Wm ?_))))
 obtain ⟨y,B,rfl⟩:=a.form
 refine V (F5 bJ rfl rfl) (ln ?_)
 rcases y with _ | z
 ·have u:=a.isNil
  replace hm:some []=some r:=by rw [u] at hm; simpa [nm,maxLen] using hm
  refine yR (rfl) (sg (Wa (lt (mL ?_))))
  obtain rfl:=sj hm
  exact nC (v:=(.slice none 0 0)) rfl rfl ⟨_,[],rfl,d.uA (λp n=>by cases n) (by simp),lh.nil _ _ _⟩
 ·refine sX (rfl) (kg (VE (lZ (cs:=#[]) d xV (Fb [] bJ bE dU dc rfl (by simp) rfl rfl) (λG k d=>Wm (bS hm λH t hm=>VE (qF (enc:=kF) (v:=(.slice (some ⟨k,0,none⟩) 0 0)) (vs:=(.slice (some z) i.length B)) (R:=[(k,Ob #[] 52)]) d mR dc su bJ rH.1 rH.2.1 rfl rH.2.2.1 rH.2.2.2 rfl rfl (lh.lit (l:=[]) (enc:=kF) rfl dc rfl rfl) (a.mono (Pl.mono _) d.kC) t (λD x j d c=>Wa (lt ?_))))))))
  obtain rfl:=sj hm
  exact nC (v:=x) rfl rfl ⟨_,j,rfl,d.uA (λp n=>(Ml n)) c.nd,c⟩
theorem Bc (g:Value) (t:List kv) (j:Value) (B:kv→Option Bool) (r:Int) (w:World) (c:Sl (Pl kF) 9 (hp w) g t) (D:sI pg0 j (hp w) (λ(x:kv)=>[(.agg (kF x).toArray)]) (λ(r:Bool)=>(.bool r)) B) (hm:sF t B=some r) :
  lC false pg0 180 [g,j] w (.int .i64 r):=by
 refine cG 19 func180 rfl (λd=>sg (Wa (lS (Wm (V (nv bJ rfl c) (Wm (ln (mV (λi E W=>∃k,(E 8= .int .i64 (i:Nat)∧E 7= .int .i64 (t.length:Nat))∧ST false mN w W (hp w) k∧E 0=g∧E 1=j∧ri B (t.drop i) i=some r) t.length c.len ⟨_,⟨rfl,rfl⟩,(d.kA St),rfl,rfl,hm⟩ dc dc dc (λ_ _ _ h=>by obtain ⟨_,p,_⟩:=h; exact p) ?_ ?_))))))))
 ·rintro Q E W H ⟨k,⟨n,v⟩,d,u,y,a⟩
  obtain ⟨z,T,M,K,N⟩:=mC H
  rw [M] at a
  refine bg (Wh n (Wa (lr (Wh y (Wh u (Wm (VQ (uR (enc:=kF) (i:=(Q:Int)) (x0:=z) bJ bE rfl rfl c (aX _) K) (λY I=>V (kB rfl (lL d.has I cU bE)) (bS a λZ J a=>?_)))))))))
  refine VE (DL z d D (lx.refl _) rfl (pR rfl) J (λU d=>ln (CI a rfl (λG a=>?_) (λG a=>?_))))
  ·refine sg (Wm (Wa (lt (pO (mL (pO (mL ?_)))))))
   obtain rfl:=sj a
   exact rP d
  exact nf (lG (kL ⟨n,_,⟨rfl,v⟩,(d.kA St),u,y,(by rw [N]; exact a)⟩))
 rintro E W ⟨k,⟨n,v⟩,d,u,y,a⟩
 rw [bo] at a
 exact kL (sg (Wa (lt (rQ a d))))
theorem FQ (j:Value) (a0:List kv) (t:LO) (H:Value) (f1:kv→Option Bool) (r:List kv) (w:World) {μ0:lE} (h0:pn μ0 (t++[]) w) (T:lh 52 kF 9 j a0 t) (a4:sI pg0 H μ0 (λ(x:kv)=>[(.agg (kF x).toArray)]) (λ(r:Bool)=>(.bool r)) f1) (hm:ul a0 f1=some r) :
  mi false pg0 195 [j,H] w (t++[]) (λv L1 W'=>∃L S2,v=L∧L1=(S2++[])∧lh 52 kF 9 L r S2):=by
 refine xq h0 42 func195 rfl (λd=>sg (Wa (lr (Wm (Wm (bS hm λr1 d3 hm=>VE (Eg d call180 (Bc j a0 H f1 _ _ (T.sl mR (λb o n=>d.at_ (Ml n))) (a4.mono d.kC) d3) (λW3 d=>Wa (ln ?_)))))))))
 refine kM (sg (Wm (Wi rfl (ln (CI hm rfl (λd2 hm=>?_) (λd2 hm=>?_))))))
 ·refine sg (Wm (Wa (lt (mL ?_))))
  obtain rfl:=sj hm
  exact nC (v:=j) rfl rfl ⟨_,_,rfl,(d.nK (Kr Sn)),j,t,rfl,rfl,T⟩
 refine kS (Wm (Wi rfl (Wa (ln (ma (nn (λm E W=>∃U I B D a2,ST false (keys (t++[])) w W μ0 (I++a2)∧E 0=j∧E 1=H∧E 5=(.int .i64 B)∧E 6=(.int .i64 D)∧lh 52 kF 9 j U I∧pX f1 m U B D=some r) kY ⟨a0,t,r1,(wi0 .i64 (r1+1)),_,(d.kA St),rfl,rfl,rfl,rfl,T,hm⟩ ?_))))))
 rintro m E W ⟨U,I,B,D,a2,d,y,Q,G,K,g,a⟩
 cases m with
 | zero=>rw [pX] at a; cases a
 | succ c8=>
  refine kM (sg (Wh K (Wh y (V (tI bJ rfl g) (Wi rfl (ln (CI a rfl (λP a=>?_) (λP a=>?_))))))))
  ·refine kn (kM (CJ a (λY E W=>∃J a3,ST false (keys (t++[])) w W μ0 (J++a3)∧E 0=j∧E 1=H∧E 5=(.int .i64 Y.2)∧E 6=(.int .i64 D)∧lh 52 kF 9 j Y.1 J) (λY c=>?_) ?_))
   ·refine bg (Wh y (Wh K (bS c λk M c=>VQ (lI (i:=D) (x0:=k) bJ bE rfl rfl g (kW M) (kO M)) (λe4 b3=>V (kB rfl (na d.has (λp n=>(Ml n)) g mR b3 (kO M) cU bE)) (VE (ml d dU (λd7 e2 d=>VO (lA (.agg (kF k).toArray) ((kF k).toArray) d rfl rfl bE (su k) nb rfl (λd8 d=>lr (Wh Q ?_))))))))))
    refine VA d Mh (kF k) cU bE (bS c λe6 b5 c=>VE (DL k d a4 (lx.refl _) rfl (pR rfl) b5 (λd9 d=>V (oF rfl) (ln (CI c rfl (λR c=>?_) (λR c=>?_))))))
    ·refine sg (Wh y (Wh G (VA d Mh (kF k) cU bE (bS c λd0 N c=>VQ (lI (i:=B) (x0:=d0) bJ bE rfl rfl g (kW N) (kO N)) (λe5 b4=>?_)))))
     replace d:=d.perm (Nr (Qb Qz) Nz)
     refine VO (pD (u:=(.agg (kF k).toArray)) (x1:=k)  d g mR su rfl rfl rfl b4 (kO N) bE (λe0 c1 d O=>ln ?_))
     replace d:=d.kA (Kr (Db St))
     refine kK (Wh G (Wi rfl (Wa (lu (lG (kL ?_))))))
     obtain rfl:=sj c
     exact ⟨c1,_,(d.kA St),y,Q,rfl,K,O⟩
    refine nf (lG (kL ?_))
    obtain rfl:=sj c
    exact ⟨I,_,(d.kA (Db St)),y,Q,G,K,g⟩
   rintro ⟨c7,c9⟩ E W ⟨J,a3,d,c3,c4,c5,c6,b6⟩ b2
   exact kK (Wh c6 (Wi rfl (Wa (ln ⟨c8,aQ _,c7,J,c9,(wi0 .i64 (D+1)),_,(d.kA St),c3,c4,c5,rfl,b6,b2⟩))))
  refine mX (mD (mD (pE (kL (sg (Wh y (Wh G (bS a λ_ Z a=>VQ (DV (i:=B) bJ bE rfl rfl g (A6 Z) (AL Z)) (λe7 b7=>VO (GU (z:=K20)  d g mR su bJ dU b7 rfl rfl (λe1 c2 d a9=>lr (Wh y ?_))))))))))))
  refine Wh G (bS a λ_ A a=>VQ (IK (i:=B) bJ bE rfl rfl a9 mR (A6 A) (AL A)) (λa5 b9=>Wa (lt ?_)))
  obtain rfl:=sj a
  exact nC (v:=a5) rfl rfl ⟨_,_,rfl,(d.nK (Kr Sn)),a5,c2,rfl,rfl,b9⟩
theorem Oe (a:kv) (r:Bool) (w:World) (hm:BK a=some r) :
  lC true pg0 197 [(.agg (kF a).toArray)] w (.bool r):=by
 refine cG 6 func197 rfl (λd=>sg (VE (lM d rfl (λg j d=>Wa (lr (VA d Mh (kF a) cU bE (bS hm λk c hm=>VE (Eg d call144 (Av a _ _  c) (λi d=>V (oF rfl) (Wa (lu ?_)))))))))))
 refine kL ?_
 exact lJ (rQ hm d)
theorem Ta (c:Value) (k:List kv) (a:LO) (g:Value) (t:(kv×kv)→Option Int) (r:List kv) (w:World) {y:lE} (u:pn y (a++[]) w) (i:lh 52 kF 9 c k a) (j:PU pg0 g y (λ(x:(kv×kv))=>[(.agg (kF x.1).toArray),(.agg (kF x.2).toArray)]) (λ(r:Int)=>(.int .i64 r)) t) (hm:DZ t k=some r) :
  mi true pg0 198 [c,g] w (a++[]) (λv z W'=>∃S,v=(.tuple #[])∧z=(S++[])∧lh 52 kF 9 c r S):=QY (P:=pg0) (ρ:=UW) Z7 9 cU bE kF mR su u.H u.S i j hm
theorem Hm (j:Value) (a0:List kv) (x:LO) (r:List kv) (w:World) {μ0:lE} (h0:pn μ0 (x++[]) w) (B:lh 52 kF 9 j a0 x) (hm:vO a0=some r) :
  mi true pg0 199 [j] w (x++[]) (λv L1 W'=>∃y1 S2,v=y1∧L1=(S2++[])∧lh 52 kF 9 y1 r S2):=by
 refine xq h0 61 func199 rfl (λd=>sg (Wa (lS (Wm (V (tI bJ rfl B) (Wi rfl (ln (CI hm rfl (λg0 hm=>?_) (λg0 hm=>?_)))))))))
 ·refine sg (Wm (Wa (lt (mL ?_))))
  obtain rfl:=sj hm
  exact nC (v:=j) rfl rfl ⟨_,_,rfl,(d.nK (Kr Sn)),j,x,rfl,rfl,B⟩
 refine kS (Wa (ln (ma (nn (λm E W=>∃t b4,ST true (keys (x++[])) w W μ0 (x++b4)∧E 0=j∧E 3=(.int .i64 t)∧qM a0 m t=some r) kY ⟨1,_,(d.kA St),rfl,rfl,hm⟩ ?_))))
 rintro m E W ⟨t,b4,d,D,H,a⟩
 cases m with
 | zero=>rw [qM] at a; cases a
 | succ f5=>
  refine kM (sg (Wh H (Wh D (V (tI bJ rfl B) (Wi rfl (ln (CI a rfl (λd0 a=>?_) (λd0 a=>?_))))))))
  ·refine kn (kM (ma (kM ?_)))
   replace d:=d.drew
   have n:=d.has.kA (Kr Sn)
   refine lU n li (X 0 rfl n (kD D) (X 1 rfl n (kD H) (bS a λc3 Z a=>XQ 2 rfl n (lI (i:=t) (x0:=c3) bJ bE rfl rfl B (kW Z) (kO Z)) (λg7 d6=>XH 3 rfl n (λ_ L=>kB rfl (na L (λp A=>(Ml A)) B mR d6 (kO Z) cU bE)) (X 4 rfl n (kD D) (X 5 rfl n (kD H) (X 6 rfl n (lY rfl rfl rfl) (bS a λc4 O a=>XQ 7 rfl n (lI (i:=(wi0 .i64 (t-1))) (x0:=c4) bJ bE rfl rfl B (kW O) (kO O)) (λg8 d7=>XH 8 rfl n (λ_ L=>kB rfl (na L (λp A=>(Ml A)) B mR d7 (kO O) cU bE)) (X 9 rfl n (ER rfl rfl (uC gh) (AY (B9 _ c3 c4))) (lX kr (kL ?_))))))))))))
   refine CI a rfl (λd1 a=>?_) (λd1 a=>?_)
   ·refine sg (Wh D (Wh H (bS a λ_ b0 a=>VQ (DV (i:=t) bJ bE rfl rfl B (A6 b0) (AL b0)) (λc1 M=>Wa (lS (Wa (ln ?_)))))))
    refine CJ a (λU E W=>∃P b5,ST true (keys (x++[])) w W μ0 (P++b5)∧E 0=j∧E 3=(.int .i64 U.2)∧lh 52 kF 9 j U.1 P) (λU d4=>?_) ?_
    ·refine ma (nn (λm E W=>∃R K Y y b6,ST true (keys (x++[])) w W μ0 (K++b6)∧E 0=j∧E 3=(.int .i64 Y)∧E 4=c1∧E 5=(.int .i64 y)∧lh 52 kF 9 j R K∧qJ t m R Y y=some U) kY ⟨a0,x,t,1,_,(d.kA St),D,H,rfl,rfl,B,d4⟩ ?_)
     rintro m E W ⟨R,K,Y,y,b6,d,Q,T,I,J,g,k⟩
     cases m with
     | zero=>rw [qJ] at k; cases k
     | succ f6=>
      refine kM (sg (Wh J (Wh I (V (NI bJ rfl M g) (Wi rfl (ln (CI k rfl (λd2 k=>?_) (λd2 k=>?_))))))))
      ·refine kn (kM (CJ k (λa8 E W=>∃N b7,ST true (keys (x++[])) w W μ0 (N++b7)∧E 0=j∧E 3=(.int .i64 a8.2)∧E 4=c1∧E 5=(.int .i64 y)∧lh 52 kF 9 j a8.1 N) (λa8 c=>?_) ?_))
       ·refine ma (kM ?_)
        replace d:=d.drew
        have n:=d.has.kA (Kr Sn)
        refine lU n li (X 0 rfl n (kD I) (X 1 rfl n (kD J) (bS c λc6 a2 c=>XQ 2 rfl n (D3 (i:=y) (x0:=c6) bJ bE rfl rfl g M (kW a2) (kO a2)) (λg9 d8=>XH 3 rfl n (λ_ L=>kB rfl (na L (λp A=>(Ml A)) g mR d8 (FL (kO a2)) cU bE)) (X 4 rfl n (kD I) (X 5 rfl n (kD J) (X 6 rfl n (lY rfl rfl rfl) (bS c λc7 a3 c=>XQ 7 rfl n (D3 (i:=(wi0 .i64 (y-1))) (x0:=c7) bJ bE rfl rfl g M (kW a3) (kO a3)) (λh1 d9=>XH 8 rfl n (λ_ L=>kB rfl (na L (λp A=>(Ml A)) g mR d9 (FL (kO a3)) cU bE)) (X 9 rfl n (TH rfl rfl (uC gh) (MV (B9 _ c6 c7))) (lX kr (kL ?_))))))))))))
        refine CI c rfl (λd3 c=>?_) (λd3 c=>?_)
        ·refine sg (Wh Q (Wh T (Wh I (Wh J (bS c λa9 a4 c=>VQ (D3 (i:=y) (x0:=a9) bJ bE rfl rfl g M (kW a4) (kO a4)) (λh2 e0=>V (kB rfl (na d.has (λp A=>(Ml A)) g mR e0 (FL (kO a4)) cU bE)) (bS c λf8 a5 c=>VQ (lI (i:=Y) (x0:=f8) bJ bE rfl rfl g (kW a5) (kO a5)) (λh3 e1=>VO (pD (u:=(.agg (kF a9).toArray)) (x1:=a9)  d g mR su rfl rfl rfl e1 (kO a5) bE (λg3 e8 d c9=>ln (kK ?_)))))))))))
         refine Wh T (Wi rfl (Wa (lu (lG (kL ?_)))))
         obtain rfl:=sj c
         exact ⟨e8,_,(d.kA St),Q,rfl,I,J,c9⟩
        refine nf (lG (kL ?_))
        obtain rfl:=sj c
        exact ⟨K,_,(d.kA St),Q,T,I,J,g⟩
       rintro ⟨f4,f7⟩ E W ⟨N,b7,d,f0,f1,f2,f3,e4⟩ d5
       exact kK (Wh f3 (Wi rfl (Wa (ln ⟨f6,aQ _,f4,N,f7,(wi0 .i64 (y+1)),_,(d.kA St),f0,f1,f2,rfl,e4,d5⟩))))
      refine mX (mD (mD (pE (kL ?_))))
      obtain rfl:=sj k
      exact ⟨K,_,(d.kA St),Q,T,g⟩
    rintro ⟨g4,c5⟩ E W ⟨P,b5,d,b9,c0,b3⟩ G
    refine sg (Wh b9 (Wh c0 (bS G λ_ b1 G=>VQ (DV (i:=c5) bJ bE rfl rfl b3 (A6 b1) (AL b1)) (λh4 e2=>VO (GU (z:=K20)  d b3 mR su bJ dU e2 rfl rfl (λg2 e7 d c8=>lr (Wh b9 (Wh c0 (bS G λ_ b2 G=>VQ (IK (i:=c5) bJ bE rfl rfl c8 mR (A6 b2) (AL b2)) (λc2 e3=>?_))))))))))
    refine Wa (lt (pO (mL (mL (pO (mL ?_))))))
    obtain rfl:=sj G
    exact nC (v:=c2) rfl rfl ⟨_,_,rfl,(d.nK (Kr Sn)),c2,e7,rfl,rfl,e3⟩
   exact nf (lG (kL (kK (Wh H (Wi rfl (Wa (ln ⟨f5,aQ _,(wi0 .i64 (t+1)),_,(d.kA St),D,rfl,a⟩)))))))
  refine mX (mD (mD (pE (kL (sg (Wh D (Wa (lt ?_))))))))
  obtain rfl:=sj a
  exact nC (v:=j) rfl rfl ⟨_,_,rfl,(d.nK (Kr Sn)),j,x,rfl,rfl,B⟩
theorem LG (i:Value) (t r:List kv) (w:World) (B:Sl (Pl kF) 9 (hp w) i t) (hm:AQ t=some r) :
  pH false pg0 125 [i] w 52 kF 9 r:=by
 refine Dg 11 func125 rfl (λd=>sg (Wa (lr (Wm (bS hm λr1 T hm=>VE (Ct d call196 (pH.nx (Ij i t _ _ (B.mono (Pl.mono _) d.kC) T)) (λW3 v7 R R8 d a5 L Q=>bS hm λU D hm=>?_)))))))
 refine VE (eM d (Cr Qz Cn) call195 (λu _=>(FQ v7 r1 R8 (.func (.func 197) #[] #[]) (λ(x:kv)=>BK x) _ _ u Q ⟨197,#[],#[],rfl,call197,λW x r P hm=>(Oe x r W  hm).nx⟩ D)) ?_)
 rintro _ b5 b9 a8 d a1 z n ⟨k,K,a,rfl,I⟩
 obtain rfl:=a.symm
 replace d:=d.perm (Tr Tn)
 refine Wa (lr (Wm (bS hm λY G hm=>?_)))
 refine VE (eM d (Cr Qz Cn) call198 (λu _=>mi.nx (Ta k U K (.func (.func 81) #[] #[]) (λ(x:(kv×kv))=>px x.1 x.2) _ _ u I ⟨81,#[],rfl,call81,λW x r P hm=>G1 x.1 x.2 r W  hm⟩ G)) ?_)
 rintro _ b6 c0 a9 d a2 A n ⟨M,c,rfl,J⟩
 obtain rfl:=c.symm
 replace d:=d.perm (Tr Tn)
 refine lr (Wm (bS hm λb4 H hm=>?_))
 refine VE (eM d (Cr Qz Cn) call199 (λu _=>mi.nx (Hm k Y M _ _ u J H)) ?_)
 rintro _ b7 c1 b0 d a3 E n ⟨Z,N,g,rfl,j⟩
 obtain rfl:=g.symm
 replace d:=d.perm (Tr Tn)
 refine Wa (lt ?_)
 obtain rfl:=sj hm
 exact nC (v:=Z) rfl rfl ⟨_,N,rfl,d.uA (λp O=>(Ml O)) j.nd,j⟩
theorem IJ (k:lB) (H K c1:Value) (a1:List kv) (a2:ByteArray) (r:List kv) (w:World) (g:Sl kX 15 (hp w) H k.kE) (J:Sl lH 8 (hp w) K k.kQ) (h5:Sl (Pl kF) 9 (hp w) c1 a1) (hm:vy k a1 a2=some r) :
  pH false pg0 52 [(.agg #[(.string k.Name),H,K]),c1,(.string a2)] w 52 kF 9 r:=by
 refine Dg 47 func52 rfl (λd=>sg ?_)
 obtain ⟨A1,c2,rfl⟩:=g.form
 let c8:Value:=(.slice A1 k.kE.length c2)
 obtain ⟨A3,c4,rfl⟩:=J.form
 let b1:=(C6 k.Name A1 k.kE.length c2 A3 k.kQ.length c4)
 refine VE (lM d rfl (λW6 P d=>Wa (lr (Wm (Wm (bS hm λB i5 hm=>?_))))))
 refine VE (Df d (cM _) call123 (λ_ _ _ _=>(P7 c1 a1 a2 _ _ (h5.mono (Pl.mono _) d.kC) i5)) (λW9 l1 g4 l0 d a5 af ae h4=>?_) (L0:=[]))
 obtain ⟨N,L,e0,f9,e1,g0,e2,g1,e3,g2,e4,g3,Q,c0,rfl,h6,h7,h8,h9,i0⟩:=h4
 replace c0:=c0.symm; subst c0
 replace d:=d.perm (Tb (Tb (Tb (Tr (Tr (Tr (Tr (Tr Tn))))))))
 refine Wa (lr (Wa (lS (Wf uh (VB d (Mt (Mt (Mt (Ma (Ma (Ma (Ma (Ma Mh)))))))) rfl rfl gE (V (nv dm rfl g) (Wm ?_)))))))
 refine ln (mV (λi E W=>∃D I G O b4,(E 19= .int .i64 (i:Nat)∧E 18= .int .i64 (k.kE.length:Nat))∧lx g4 O∧ST false mN w W O ((N,Ob #[(.pointer (some ⟨L,0,none⟩))] 183)::((L,Ob #[e0,e1,e2,e3,e4,(.int .i64 B.2.2.2.2.2.1)] 246)::((Q,Ob #[(.string B.2.2.2.2.2.2)] 9)::((P,Ol b1 25)::(G++(f9++(g0++(g1++(g2++(g3++b4))))))))))∧E 3=(.pointer (some ⟨P,0,none⟩))∧E 7=(.func (.func 191) #[] #[(.pointer (some ⟨N,0,none⟩)),(.pointer (some ⟨Q,0,none⟩))])∧E 8=D∧E 17=c8∧lh 52 kF 9 D I G∧uo k B (k.kE.drop i) I=some r) k.kE.length g.len ⟨(.slice none 0 0),([]),[],g4,_,⟨rfl,rfl⟩,(lx.refl _),(d.kA (Kb (Kb (Kb (Sb (Pr (Pr (Pr (Pr (Pr Pz))))) St))))),rfl,rfl,rfl,rfl,(lh.nil _ _ _),hm⟩ dc dc dc (λ_ _ _ h=>by obtain ⟨_,_,_,_,_,aa,_⟩:=h; exact aa) ?_ ?_)
 ·let b6:Value:=(.func (.func 191) #[] #[(.pointer (some ⟨N,0,none⟩)),(.pointer (some ⟨Q,0,none⟩))])
  rintro d8 E W f0 ⟨D,I,G,O,b4,⟨eI,eN⟩,u,d,Y,Z,a3,a4,M,j⟩
  obtain ⟨a,i6,f8,f7,c6⟩:=mC f0
  rw [f8] at j
  refine bg (VQ (nN (i:=(d8:Int)) (x0:=a) kX.out dm cY a4 eI (g.mono kZ.mono (a5.trans u)) (aX _) f7) (λk1 ⟨_,⟨k4,k5,rfl,f5,f6⟩,f1⟩=>V (kB rfl (lL d.has f1 eJ cY)) (VE (ml d eA (λi9 d0 d=>?_)))))
  obtain ⟨b2,b7,rfl⟩:=f5.form
  obtain ⟨b3,b9,rfl⟩:=f6.form
  let a0:=(C3 a.Signed.kv.Kind a.Signed.kv.Head.kw a.Signed.kv.Head.Word a.Signed.kv.lO a.Signed.kv.B.kw a.Signed.kv.B.Word a.Signed.kv.C.kw a.Signed.kv.C.Word a.Signed.kv.mg b2 a.Signed.Tag.length b7 a.ky.Op a.ky.K a.ky.ku.kw a.ky.ku.Word b3 a.ky.Kids.length b9)
  refine VO (lA (.agg a0.toArray) (a0.toArray) d rfl rfl cY oc nb rfl (λj0 d=>lr (V (kB Y (kI d.has (Mt (Mt (Mt (Mt Mh)))) b1 rfl dW dC)) (Wf Au (Wf D5 (VA d Mh (kF a.Signed.kv) cU bE (bS j λc f2 j=>?_)))))))
  let e5:Value:=(.string (((c.1).ku).Word))
  let d1:Value:=(.string (((c.1).ku).kw))
  refine VE (eD d (cM _) call124 (λhh=>(Mg k c8 (.slice A3 k.kQ.length c4) a.Signed.kv _ _ hh (g.mono kZ.mono (a5.trans u)) (J.mono mB.mono (a5.trans u)) f2)) ?_ (L0:=[]))
  rintro _ k6 c3 i8 d a9 ab ⟨k8,a6,rfl,c7⟩
  obtain rfl:=a6.symm
  refine Wm (Wx rfl (Wx rfl (VE (ml d bR (λj4 k0 d=>?_)))))
  obtain ⟨T,U,rfl⟩:=c7.form
  let b8:Value:=(.slice T ((c.1).Kids).length U)
  refine VO (lA (.agg #[(.int .i64 ((c.1).Op)),(.int .i64 ((c.1).K)),d1,e5,b8]) (#[(.int .i64 ((c.1).Op)),(.int .i64 ((c.1).K)),d1,e5,b8]) d rfl rfl aH oc nb rfl (λj5 d=>Wa (lr (Wm (Wi rfl (Wm (LJ j (λd9 E W=>∃c9,ST false mN w W c3 ((d0,Ol a0 57)::((N,Ob #[(.pointer (some ⟨L,0,none⟩))] 183)::((L,Ob #[e0,e1,e2,e3,e4,(.int .i64 B.2.2.2.2.2.1)] 246)::((Q,Ob #[(.string B.2.2.2.2.2.2)] 9)::((P,Ol b1 25)::(G++(f9++(g0++(g1++(g2++(g3++c9)))))))))))∧E 3=(.pointer (some ⟨P,0,none⟩))∧E 7=b6∧E 8=D∧E 10=(.pointer (some ⟨d0,0,none⟩))∧E 17=c8∧E 18=(.int .i64 (k.kE.length:Int))∧E 19=(.int .i64 (d8:Int))∧E 37=(.bool d9)) 4 ?_ (λd9 z b0=>?_))))))))
  ·rintro k7 E W ⟨c9,d,d2,d3,d4,h2,d5,d6,d7,h3⟩ y
   refine ln (CI y h3 (λe8 y=>?_) (λe8 y=>?_))
   ·refine kK (Wh d4 (V (kN Au h2) (Wf D5 (VA d Mh (kF a.Signed.kv) cU bE (VE (lZ (cs:=(kF a.Signed.kv).toArray) d (og rfl) (oE bJ bE dU) (λj6 h1 d=>?_)))))))
    replace d:=d.perm (Nr (Qb (Qb (Qb (Qb (Qb (Qb Qz)))))) Nz)
    refine bS y λi1 e9 y=>VE (qF (enc:=kF) (v:=D) (vs:=(.slice (some ⟨h1,0,none⟩) 1 1)) (R:=G) d mR dc su bJ rH.1 rH.2.1 rfl rH.2.2.1 rH.2.2.2 rfl rfl M (Sl.lit (enc:=kF) (l:=[a.Signed.kv]) mR rfl nb rfl (d.at_ (Ma Mh))) e9 (λj7 i2 g7 d e7=>Wa (lu (lG (kL ?_)))))
    replace d:=d.kA (Kr (Db (Db St)))
    exact ⟨d7,i2,i1,g7,c3,_,⟨rfl,d6⟩,(u.trans a9),(d.kA (Sb (Pr Pz) (Sb (Pr Pz) (Sb (Pr Pz) (Sb (Pr Pz) St))))),d2,d3,rfl,d5,e7,(by rw [c6]; exact y)⟩
   refine nf (lG (kL ?_))
   replace d:=d.kA (Db St)
   exact ⟨d7,D,I,G,c3,_,⟨rfl,d6⟩,(u.trans a9),(d.kA St),d2,d3,d4,d5,M,(by rw [c6]; exact y)⟩
  refine bC z (λt z=>?_) (λt z=>?_)
  ·refine ug t (kB rfl (kI d.has Mh [(.int .i64 ((c.1).Op)),(.int .i64 ((c.1).K)),d1,e5,b8] rfl bL aH)) (ug t (kD Z) (bS z λk2 f3 z=>ue t (Eg d call54 (G3 c.1 b8 b6 (λ(x:ku)=>sT x B.1 B.2.1 B.2.2.1 B.2.2.2.1 B.2.2.2.2.1 B.2.2.2.2.2.1 B.2.2.2.2.2.2) _ _ (c7.mono kT.mono d.kC) ⟨191,#[],#[(.pointer (some ⟨N,0,none⟩)),(.pointer (some ⟨Q,0,none⟩))],rfl,call191,λW x r A hm=>(Mc x N L e0 B.1 e1 B.2.1 e2 B.2.2.1 e3 B.2.2.2.1 e4 B.2.2.2.2.1 B.2.2.2.2.2.1 Q B.2.2.2.2.2.2 r W (h6.at (λb o n=>A _ _ ((λb o n=>d.at_ (Mt (Mt (Mt (Mt (Mt (Mt (Ma (Ml n))))))))) b o n))) (h7.sl mR (λb o n=>A _ _ ((λb o n=>d.at_ (Mt (Mt (Mt (Mt (Mt (Mt (Ma (Ma (Ml n)))))))))) b o n))) (h8.at (λb o n=>A _ _ ((λb o n=>d.at_ (Mt (Mt (Mt (Mt (Mt (Mt (Ma (Ma (Ma (Ml n))))))))))) b o n))) (h9.at (λb o n=>A _ _ ((λb o n=>d.at_ (Mt (Mt (Mt (Mt (Mt (Mt (Ma (Ma (Ma (Ma (Ml n)))))))))))) b o n))) ((i0.H9 Cl).mono (Pl.mono _) (nV (λb o n=>A _ _ ((λb o n=>d.at_ (Mt (Mt (Mt (Mt (Mt (Mt (Ma (Ma (Ma (Ma (Ma (Ml n))))))))))))) b o n)))) (At.of (A _ _ (d.at_ (Mt (Mt (Mt Mh))))) _ rfl) (At.of (A _ _ (d.at_ (Mt (Mt Mh)))) _ rfl) (At.of (A _ _ (d.at_ (Mt (Mt (Mt (Mt Mh)))))) _ rfl) hm).nx⟩ f3) (λj8 d=>V (lK (cB t) rfl) ?_))))
   obtain rfl:=sj z
   exact b0 _ _ ⟨_,(d.kA (Db St)),Y,Z,a3,rfl,a4,eN,eI,rfl⟩
  refine un t (un t (un t (V (lN (cB t) rfl) ?_)))
  obtain rfl:=sj z
  exact b0 _ _ ⟨_,(d.kA (Db St)),Y,Z,a3,rfl,a4,eN,eI,rfl⟩
 rintro E W ⟨D,I,G,O,b4,⟨eI,eN⟩,u,d,Y,Z,a3,a4,M,j⟩
 rw [bo] at j
 refine kL ?_
 replace d:=d.kA (Db (Db (Db (Db (Kr (Dr (Dr (Dr (Dr (Dr St))))))))))
 refine sg (Wh a3 (bS j λk3 f4 j=>VE (Ct d call125 (LG D I _ _ (M.sl mR (λb o n=>d.at_ (Ml n))) f4) (λj9 i3 k9 g8 d i4 ad c5=>Wa (ln ?_)))))
 replace d:=d.kA (Kr (Dr St))
 refine lJ ?_
 obtain rfl:=sj j
 exact nC (v:=i3) rfl rfl ⟨_,g8,rfl,d.uA (λp n=>(Ml n)) c5.nd,c5⟩
theorem Kd (g:lB) (D K:Value) (i:lB) (G M:Value) (r:((List kv)×(List kv)×Int)) (w:World) (x:Sl kX 15 (hp w) D g.kE) (I:Sl lH 8 (hp w) K g.kQ) (y:Sl kX 15 (hp w) G i.kE) (J:Sl lH 8 (hp w) M i.kQ) (hm:zt g i=some r) :
  mi false pg0 17 [(.agg #[(.string g.Name),D,K]),(.agg #[(.string i.Name),G,M])] w [] (λv L1 W'=>∃y1 S2 y4 S5,v=(.tuple #[y1,y4,(.int .i64 (r.2.2))])∧L1=(S2++(S5++[]))∧lh 52 kF 9 y1 r.1 S2∧lh 52 kF 9 y4 r.2.1 S5):=by
 refine Dg 41 func17 rfl (λd=>sg ?_)
 obtain ⟨A1,c2,rfl⟩:=x.form
 obtain ⟨A3,c4,rfl⟩:=I.form
 let O:=(C6 g.Name A1 g.kE.length c2 A3 g.kQ.length c4)
 refine VE (lM d rfl (λW6 L d=>?_))
 obtain ⟨A7,c8,rfl⟩:=y.form
 obtain ⟨A9,a6,rfl⟩:=J.form
 let a0:=(C6 i.Name A7 i.kE.length c8 A9 i.kQ.length a6)
 refine VE (lM d rfl (λf8 A d=>Wa (Wa (Wa (lr (Wa (Wa (lr (Wa ?_)))))))))
 refine ln (sW (ma (nn (λm E W=>∃t a4 N u a5 Q H a9 b9,lx (hp w) a9∧ST false mN w W a9 ((A,Ol a0 25)::((L,Ol O 25)::(Q++(N++b9))))∧E 2=(.pointer (some ⟨L,0,none⟩))∧E 3=(.pointer (some ⟨A,0,none⟩))∧E 7=t∧E 8=u∧E 9=(.int .i64 H)∧lh 52 kF 9 t a4 N∧lh 52 kF 9 u a5 Q∧sr g i m a4 a5 H=some r) kY ⟨(.slice none 0 0),([]),[],(.slice none 0 0),([]),[],0,(hp w),_,(lx.refl _),(d.kA St),rfl,rfl,rfl,rfl,rfl,(lh.nil _ _ _),(lh.nil _ _ _),hm⟩ ?_)))
 rintro m E W ⟨t,a4,N,u,a5,Q,H,a9,b9,j,d,T,U,Y,Z,c9,a2,a3,c⟩
 cases m with
 | zero=>rw [sr] at c; cases c
 | succ e6=>
  refine kM (ma (kM ?_))
  replace d:=d.drew
  have n:=d.has.kA (Kb (Kb Sn))
  refine lU n li (XH 0 rfl n (λ_ p=>kB T (kI p (Mt Mh) O rfl dW dC)) (X 1 rfl n (kD Z) (X 2 rfl n (kN Ec U) (XH 3 rfl n (λ_ p=>kB rfl (lg p Mh rfl cN)) (XH 5 rfl n (λ_ p=>kB U (kI p Mh a0 rfl dW dC)) (X 6 rfl n (kD Y) (X 7 rfl n (kN Ec T) (XH 8 rfl n (λ_ p=>kB rfl (lg p (Mt Mh) rfl cN)) (bS c λe7 d7 c=>XE 4 rfl (Ct d call52 (IJ g (.slice A1 g.kE.length c2) (.slice A3 g.kQ.length c4) u a5 i.Name _ _ (x.mono kZ.mono (j.trans d.kC)) (I.mono mB.mono (j.trans d.kC)) (a3.sl mR (λb o hq=>d.at_ (Mt (Mt (Ml hq))))) d7) (λf4 d2 f7 c1 d k P b1=>?_)))))))))))
  have n:=d.has.Ew k (Dr (Kb (Kb Sn)))
  refine ⟨n,(bS c λe8 d8 c=>XE 9 rfl (Ct d call52 (IJ i (.slice A7 i.kE.length c8) (.slice A9 i.kQ.length a6) t a4 g.Name _ _ (y.mono kZ.mono ((j.trans k).trans d.kC)) (J.mono mB.mono ((j.trans k).trans d.kC)) (a2.sl mR (λb o hq=>d.at_ (Ma (Mt (Mt (Ma (Ml hq))))))) d8) (λf5 d3 d4 c3 d a7 R b2=>?_)))⟩
  have n:=d.has.Ew (k.trans a7) (Dr (Dr (Kb (Kb Sn))))
  refine ⟨n,(X 10 rfl n (oe rfl) (X 11 rfl n (oe rfl) (lX kr (kL (kM (sg (Wm (V (tI bJ rfl b1) (Wh Y (V (tI bJ rfl a2) (Wi rfl (Wm (LJ c (λd1 E W=>∃c0,ST false mN w W d4 ((A,Ol a0 25)::((L,Ol O 25)::(c3++(c1++(Q++(N++c0))))))∧E 2=(.pointer (some ⟨L,0,none⟩))∧E 3=(.pointer (some ⟨A,0,none⟩))∧E 7=t∧E 8=u∧E 9=(.int .i64 H)∧E 10=d2∧E 11=d3∧E 35=(.bool d1)) 6 ?_ (λd1 B a8=>?_))))))))))))))⟩
  ·rintro f6 E W ⟨c0,d,d9,e0,e1,e2,d0,e3,e4,e5⟩ z
   refine ln (CI z e5 (λd6 z=>?_) (λd6 z=>?_))
   ·refine sg (Wh e1 (Wh e2 (Wh d0 (Wa (Wa (Wa (ln ?_)))))))
    replace d:=d.kA (Db (Db (Dr (Dr St))))
    refine lJ (mL (pO (mL (mL (pO (mL ?_))))))
    obtain rfl:=sj z
    exact Qo (v0:=t) (v1:=u) (v2:=(.int .i64 H)) rfl rfl rfl rfl ⟨_,_,rfl,(d.RH (Sr (Qr Qz) (Kr Sn))),t,N,u,Q,rfl,rfl,a2,a3⟩
   refine kn ?_
   replace d:=d.kA (Kb (Kb (Kr (Kr (Dr (Dr St))))))
   exact kK (Wh e3 (Wh e4 (Wa (Wa (lu (lG (kL (kK (Wh d0 (Wi rfl (Wa (ln ⟨e6,aQ _,d2,e7,c1,d3,e8,c3,(wi0 .i64 (H+1)),d4,_,((j.trans k).trans a7),(d.kA St),d9,e0,rfl,rfl,rfl,b1,b2,z⟩))))))))))))
  refine bC B (λa B=>?_) (λa B=>?_)
  ·refine ug a (kD rfl) (ug a (tI bJ rfl b2) (ug a (kD Z) (ug a (tI bJ rfl a3) (ug a (lY rfl rfl rfl) (V (lK (cB a) rfl) ?_)))))
   obtain rfl:=sj B
   exact a8 _ _ ⟨_,(d.kA (Sb (Pr (Pr Pz)) (Sb (Pr (Pr Pz)) St))),T,U,Y,Z,c9,rfl,rfl,rfl⟩
  refine un a (un a (un a (un a (un a (V (lN (cB a) rfl) ?_)))))
  obtain rfl:=sj B
  exact a8 _ _ ⟨_,(d.kA (Sb (Pr (Pr Pz)) (Sb (Pr (Pr Pz)) St))),T,U,Y,Z,c9,rfl,rfl,rfl⟩
theorem Ov (k:lB) (j B:Value) (t:lB) (a c:Value) (r:((List kv)×(List (ku×(List (ByteArray×Bool))))×(List kv)×(List (ku×(List kv)))×(List (ByteArray×(List kv)))×(List kV)×Int×ByteArray)) (w:World) (g:Sl kX 15 (hp w) j k.kE) (y:Sl lH 8 (hp w) B k.kQ) (i:Sl kX 15 (hp w) a t.kE) (z:Sl lH 8 (hp w) c t.kQ) (hm:Eo k t=some r) :
  mi false pg0 53 [(.agg #[(.string k.Name),j,B]),(.agg #[(.string t.Name),a,c])] w [] (λv L1 W'=>∃R S2 A p W S7 y9 M a2 N a3 Q a4 T Y,v=(.tuple #[R,(.func (.func 127) #[] #[(.pointer (some ⟨A,0,none⟩)),(.pointer (some ⟨Y,0,none⟩))])])∧L1=((A,Ob #[(.pointer (some ⟨p,0,none⟩))] 183)::((p,Ob #[W,y9,a2,a3,a4,(.int .i64 (r.2.2.2.2.2.2.1))] 246)::((Y,Ob #[(.string (r.2.2.2.2.2.2.2)),a,c] 25)::(S2++(S7++(M++(N++(Q++(T++[])))))))))∧lh 52 kF 9 R r.1 S2∧nA (λ(x:ku)=>(.agg (kJ x).toArray)) (nz Value.string (λ(x:Bool)=>(Value.bool x))) W r.2.1 S7∧lh 52 kF 9 y9 r.2.2.1 M∧nA (λ(x:ku)=>(.agg (kJ x).toArray)) (lh 52 kF 9) a2 r.2.2.2.1 N∧nA Value.string (lh 52 kF 9) a3 r.2.2.2.2.1 Q∧sP 285 nB 3 a4 r.2.2.2.2.2.1 T):=by
 refine Dg 21 func53 rfl (λd=>sg ?_)
 obtain ⟨A1,c2,rfl⟩:=g.form
 obtain ⟨A3,E,rfl⟩:=y.form
 refine VE (lM d rfl (λW6 p d=>?_))
 obtain ⟨A7,L,rfl⟩:=i.form
 obtain ⟨A9,I,rfl⟩:=z.form
 refine VE (lM d rfl (λf4 U d=>Wa (Wa (lr (VA d (Mt Mh) (C6 k.Name A1 k.kE.length c2 A3 k.kQ.length E) dW dC (VA d Mh (C6 t.Name A7 t.kE.length L A9 t.kQ.length I) dW dC (bS hm λd7 b7 hm=>?_)))))))
 refine VE (Df d (cM _) call17 (λ_ _ _ _=>(Kd k (.slice A1 k.kE.length c2) (.slice A3 k.kQ.length E) t (.slice A7 t.kE.length L) (.slice A9 t.kQ.length I) _ _ (g.mono kZ.mono d.kC) (y.mono mB.mono d.kC) (i.mono kZ.mono d.kC) (z.mono mB.mono d.kC) b7)) (λf5 g0 g3 f1 d e6 O n b3=>?_) (L0:=[]))
 obtain ⟨g2,f3,K,c9,D,rfl,f0,J⟩:=b3
 replace D:=D.symm; subst D
 replace d:=d.perm (Tr (Tr Tn))
 refine Wm (Wx rfl (Wx rfl (Wx rfl (Wa (Wa (Wa (ln ?_)))))))
 replace d:=d.kA (Dr (Kr (Kb (Db St))))
 refine sg (Wm (bS hm λf9 b9 hm=>?_))
 refine VE (Df d (cM _) call126 (λ_ _ _ _=>(Mz K d7.2.1 _ _ (J.sl mR (λb o hq=>d.at_ (Ml hq))) b9)) (λf6 g1 g4 f2 d e7 P n b6=>?_) (L0:=[]))
 obtain ⟨H,d9,d0,e0,d1,e1,d2,e2,d3,e3,d4,G,rfl,c0,c1,c3,c5,c6⟩:=b6
 replace G:=G.symm; subst G
 replace d:=d.perm (Tb (Tr (Tr (Tr (Tr (Tr Tn))))))
 refine VE (ml d zeroValue183 (λf7 Z d=>VO (lA (.pointer (some ⟨H,0,none⟩)) (#[(.pointer (some ⟨H,0,none⟩))]) d rfl rfl sizeOf183 oc nb rfl (λf8 d=>lr (Wm (V (qR (by exact qT rfl rfl) rfl) (Wa (Wa (lt ?_)))))))))
 obtain rfl:=sj hm
 exact IG (v:=K) (u:=(.func (.func 127) #[] #[(.pointer (some ⟨Z,0,none⟩)),(.pointer (some ⟨U,0,none⟩))])) rfl rfl rfl ⟨_,_,rfl,(d.RH (Kb (Kb (Sb (Pr (Pr (Pr (Pr (Pr (Pr Pz)))))) (Sr (Qr (Qr (Qr (Qr (Qr Qz))))) (Kr (Kr (Kr (Kr (Kr Sn)))))))))),K,c9,Z,H,d9,d0,e0,d1,e1,d2,e2,d3,e3,d4,U,rfl,rfl,J,c0,c1,c3,c5,c6⟩
theorem Ky (Z:ku) (n I:Nat) (u:Value) (G:List (ku×(List (ByteArray×Bool)))) (a:Value) (k:List kv) (j:Value) (B:List (ku×(List kv))) (c:Value) (t:List (ByteArray×(List kv))) (i:Value) (z:List kV) (Q:Int) (a2:Nat) (g:ByteArray) (D:Value) (J:List kU) (H:Value) (N:List mr) (r:Bool) (w:World) (Y:tR (λ(x:ku)=>(.agg (kJ x).toArray)) (nz Value.string (λ(x:Bool)=>(Value.bool x))) (hp w) u G) (K:Sl (Pl kF) 9 (hp w) a k) (U:tR (λ(x:ku)=>(.agg (kJ x).toArray)) (lh 52 kF 9) (hp w) j B) (M:tR Value.string (lh 52 kF 9) (hp w) c t) (T:Sl (Pl nB) 3 (hp w) i z) (a3:At (hp w) (.pointer (some ⟨I,0,none⟩)) [u,a,j,c,i,(.int .i64 Q)]) (a4:At (hp w) (.pointer (some ⟨n,0,none⟩)) [(.pointer (some ⟨I,0,none⟩))]) (v:Sl kX 15 (hp w) D J) (A:Sl lH 8 (hp w) H N) (a5:At (hp w) (.pointer (some ⟨a2,0,none⟩)) [(.string g),D,H]) (hm:za Z G k B t z Q g J N=some r) :
  lC true pg0 127 [(.agg (kJ Z).toArray),(.pointer (some ⟨n,0,none⟩)),(.pointer (some ⟨a2,0,none⟩))] w (.bool r):=by
 refine cG 10 func127 rfl (λd=>sg (VE (lM d rfl (λW2 E d=>Wa (lr (V (kB rfl (sJ d.has (y:=(.pointer (some ⟨I,0,none⟩))) a4 isAgg183)) (VA d Mh (kJ Z) bZ bF (VQ (Em [(.string g)] Ec rfl a5 rfl) (λL p=>V (kB rfl (sJ d.has (y:=(.string g)) p cN)) (bS hm λO a9 hm=>VE (Eg d call128 (FJ I u G a k j B c t i z Q Z g _ _ (Y.mono d.kC) (K.mono (Pl.mono _) d.kC) (U.mono d.kC) (M.mono d.kC) (T.mono (Pl.mono _) d.kC) (a3.mono d.kC) a9) (λW8 d=>?_))))))))))))
 refine Wa (ln ?_)
 exact lJ (rQ hm d)
theorem L8 (y:lB) (t D:Value) (c:lB) (u G:Value) (i:Formula) (H:Value) (r:Bool) (w:World) (k:Sl kX 15 (hp w) t y.kE) (z:Sl lH 8 (hp w) D y.kQ) (g:Sl kX 15 (hp w) u c.kE) (j:Sl lH 8 (hp w) G c.kQ) (B:Sl kz 5 (hp w) H i.Kids) (hm:xU y c i=some r) :
  lC false pg0 19 [(.agg #[(.string y.Name),t,D]),(.agg #[(.string c.Name),u,G]),(.agg #[(.int .i64 i.Op),(.int .i64 i.K),(.string i.ku.kw),(.string i.ku.Word),H])] w (.bool r):=by
 refine cG 18 func19 rfl (λd=>sg ?_)
 obtain ⟨A1,c2,rfl⟩:=k.form
 obtain ⟨A3,A,rfl⟩:=z.form
 refine VE (lM d rfl (λW6 b5 d=>?_))
 obtain ⟨U,Z,rfl⟩:=g.form
 obtain ⟨Y,K,rfl⟩:=j.form
 refine VE (lM d rfl (λd4 d8 d=>?_))
 obtain ⟨M,T,rfl⟩:=B.form
 refine VE (lM d rfl (λd5 d9 d=>Wa (lr (VA d (Mt (Mt Mh)) (C6 y.Name A1 y.kE.length c2 A3 y.kQ.length A) dW dC (VA d (Mt Mh) (C6 c.Name U c.kE.length Z Y c.kQ.length K) dW dC (bS hm λa O hm=>?_))))))
 refine VE (Df d (cM _) call53 (λ_ _ _ _=>(Ov y (.slice A1 y.kE.length c2) (.slice A3 y.kQ.length A) c (.slice U c.kE.length Z) (.slice Y c.kQ.length K) _ _ (k.mono kZ.mono d.kC) (z.mono mB.mono d.kC) (g.mono kZ.mono d.kC) (j.mono mB.mono d.kC) O)) (λd6 e1 e3 c6 d I E v L=>?_) (L0:=[]))
 obtain ⟨e2,c7,N,b6,b7,c9,b9,d0,c0,d1,c1,d2,c3,d3,Q,J,rfl,c5,P,R,b2,b3,b4⟩:=L
 replace J:=J.symm; subst J
 replace d:=d.perm (Tb (Tb (Tb (Tr (Tr (Tr (Tr (Tr (Tr Tn)))))))))
 refine Wm (Wx rfl (Wx rfl (Wa (Wa (ln ?_)))))
 replace d:=d.kA (Kb (Kb (Kb (Dr (Kr (Kr (Kr (Kr (Kr (Kb (Db (Db St))))))))))))
 refine sg (VA d (Mt (Mt (Mt (Ma (Ma (Ma (Ma (Ma Mh)))))))) (C2 i.Op i.K i.ku.kw i.ku.Word M i.Kids.length T) bL aH (Wm (bS hm λe0 a9 hm=>VE (Eg d call54 (G3 i (.slice M i.Kids.length T) (.func (.func 127) #[] #[(.pointer (some ⟨N,0,none⟩)),(.pointer (some ⟨Q,0,none⟩))]) (λ(x:ku)=>za x a.2.1 a.2.2.1 a.2.2.2.1 a.2.2.2.2.1 a.2.2.2.2.2.1 a.2.2.2.2.2.2.1 a.2.2.2.2.2.2.2 c.kE c.kQ) _ _ (B.mono kT.mono (I.trans d.kC)) ⟨127,#[],#[(.pointer (some ⟨N,0,none⟩)),(.pointer (some ⟨Q,0,none⟩))],rfl,call127,λW x r p hm=>(Ky x N b6 b7 a.2.1 b9 a.2.2.1 c0 a.2.2.2.1 c1 a.2.2.2.2.1 c3 a.2.2.2.2.2.1 a.2.2.2.2.2.2.1 Q a.2.2.2.2.2.2.2 (.slice U c.kE.length Z) c.kE (.slice Y c.kQ.length K) c.kQ r W (P.at (λb o n=>p _ _ ((λb o n=>d.at_ (Mt (Mt (Mt (Ml n))))) b o n))) (R.sl mR (λb o n=>p _ _ ((λb o n=>d.at_ (Mt (Mt (Mt (Ma (Ml n)))))) b o n))) (b2.at (λb o n=>p _ _ ((λb o n=>d.at_ (Mt (Mt (Mt (Ma (Ma (Ml n))))))) b o n))) (b3.at (λb o n=>p _ _ ((λb o n=>d.at_ (Mt (Mt (Mt (Ma (Ma (Ma (Ml n)))))))) b o n))) ((b4.H9 Cl).mono (Pl.mono _) (nV (λb o n=>p _ _ ((λb o n=>d.at_ (Mt (Mt (Mt (Ma (Ma (Ma (Ma (Ml n))))))))) b o n)))) (At.of (p _ _ (d.at_ (Mt Mh))) _ rfl) (At.of (p _ _ (d.at_ Mh)) _ rfl) (g.mono kZ.mono ((I.trans d.kC).trans p)) (j.mono mB.mono ((I.trans d.kC).trans p)) (At.of (p _ _ (d.at_ (Mt (Mt Mh)))) _ rfl) hm).nx⟩ a9) (λd7 d=>Wa (ln ?_))))))
 exact lJ (rQ hm d)
theorem BQ (a:mY) (y z t x u D:Value) (r:((List kv)×(List kv)×Bool)) (w:World) (i:Sl kX 15 (hp w) y a.kw.kE) (j:Sl lH 8 (hp w) z a.kw.kQ) (c:Sl kX 15 (hp w) t a.Client.kE) (g:Sl lH 8 (hp w) x a.Client.kQ) (k:Sl kz 5 (hp w) u a.Formula.Kids) (G:Sl qb 2 (hp w) D a.Keys) (hm:uE a=some r) :
  mi false pg0 56 [(.agg #[(.string a.kw.Name),y,z,(.string a.Client.Name),t,x,(.int .i64 a.Formula.Op),(.int .i64 a.Formula.K),(.string a.Formula.ku.kw),(.string a.Formula.ku.Word),u,(.int .i64 a.pj),(.int .i64 a.lP.pJ),(.int .i64 a.lP.pw),(.int .i64 a.mO),(.int .i64 a.nZ),(.int .i64 a.ny),D])] w [] (λv L1 W'=>∃E S2 L S5,v=(.tuple #[E,L,(.bool (r.2.2))])∧L1=(S2++(S5++[]))∧lh 52 kF 9 E r.1 S2∧lh 52 kF 9 L r.2.1 S5):=by
 refine Dg 26 func56 rfl (λd=>sg ?_)
 obtain ⟨I,Q,rfl⟩:=i.form
 obtain ⟨J,T,rfl⟩:=j.form
 let a2:=(C6 a.kw.Name I a.kw.kE.length Q J a.kw.kQ.length T)
 obtain ⟨K,U,rfl⟩:=c.form
 obtain ⟨M,Y,rfl⟩:=g.form
 let a0:=(C6 a.Client.Name K a.Client.kE.length U M a.Client.kQ.length Y)
 obtain ⟨A9,N,rfl⟩:=k.form
 obtain ⟨a8,b3,rfl⟩:=G.form
 refine VE (lM d rfl (λc0 c5 d=>Wa (Wa (Wa (lr (Wf yA (VA d Mh a2 dW dC (Wf wP (VA d Mh a0 dW dC (bS hm λc7 a4 hm=>?_))))))))))
 refine VE (Df d (cM _) call17 (λ_ _ _ _=>(Kd a.kw (.slice I a.kw.kE.length Q) (.slice J a.kw.kQ.length T) a.Client (.slice K a.Client.kE.length U) (.slice M a.Client.kQ.length Y) _ _ (i.mono kZ.mono d.kC) (j.mono mB.mono d.kC) (c.mono kZ.mono d.kC) (g.mono mB.mono d.kC) a4)) (λc1 c9 d0 b9 d B A n a3=>?_) (L0:=[]))
 obtain ⟨Z,R,p,W,H,rfl,O,P⟩:=a3
 replace H:=H.symm; subst H
 replace d:=d.perm (Tr (Tr Tn))
 refine Wm (Wx rfl (Wx rfl (Wx rfl (Wa (Wa (Wa (lr (Wm (Wm (Wf yA (VA d (Ma (Ma Mh)) a2 dW dC ?_)))))))))))
 refine Wf wP (VA d (Ma (Ma Mh)) a0 dW dC (Wf I9 (VA d (Ma (Ma Mh)) (C2 a.Formula.Op a.Formula.K a.Formula.ku.kw a.Formula.ku.Word A9 a.Formula.Kids.length N) bL aH (bS hm λb4 a5 hm=>VE (Eg d call19 (L8 a.kw (.slice I a.kw.kE.length Q) (.slice J a.kw.kQ.length T) a.Client (.slice K a.Client.kE.length U) (.slice M a.Client.kQ.length Y) a.Formula (.slice A9 a.Formula.Kids.length N) _ _ (i.mono kZ.mono (B.trans d.kC)) (j.mono mB.mono (B.trans d.kC)) (c.mono kZ.mono (B.trans d.kC)) (g.mono mB.mono (B.trans d.kC)) (k.mono kT.mono (B.trans d.kC)) a5) (λc3 d=>Wa (Wa (Wa (ln ?_)))))))))
 replace d:=d.kA (Kr (Kr (Db St)))
 refine lJ ?_
 obtain rfl:=sj hm
 exact Qo (v0:=Z) (v1:=p) (v2:=(.bool b4)) rfl rfl rfl rfl ⟨_,_,rfl,(d.RH (Kr (Kr Sn))),Z,R,p,W,rfl,rfl,O,P⟩
theorem DF (a:mY) (K U t J u A:Value) (c:mY) (N Y x M y L:Value) (r:Bool) (w:World) (B:Sl kX 15 (hp w) K a.kw.kE) (Q:Sl lH 8 (hp w) U a.kw.kQ) (g:Sl kX 15 (hp w) t a.Client.kE) (z:Sl lH 8 (hp w) J a.Client.kQ) (i:Sl kz 5 (hp w) u a.Formula.Kids) (a4:Sl qb 2 (hp w) A a.Keys) (G:Sl kX 15 (hp w) N c.kw.kE) (T:Sl lH 8 (hp w) Y c.kw.kQ) (j:Sl kX 15 (hp w) x c.Client.kE) (D:Sl lH 8 (hp w) M c.Client.kQ) (k:Sl kz 5 (hp w) y c.Formula.Kids) (a5:Sl qb 2 (hp w) L c.Keys) (hm:wH a c=some r) :
  lC false pg0 23 [(.agg #[(.string a.kw.Name),K,U,(.string a.Client.Name),t,J,(.int .i64 a.Formula.Op),(.int .i64 a.Formula.K),(.string a.Formula.ku.kw),(.string a.Formula.ku.Word),u,(.int .i64 a.pj),(.int .i64 a.lP.pJ),(.int .i64 a.lP.pw),(.int .i64 a.mO),(.int .i64 a.nZ),(.int .i64 a.ny),A]),(.agg #[(.string c.kw.Name),N,Y,(.string c.Client.Name),x,M,(.int .i64 c.Formula.Op),(.int .i64 c.Formula.K),(.string c.Formula.ku.kw),(.string c.Formula.ku.Word),y,(.int .i64 c.pj),(.int .i64 c.lP.pJ),(.int .i64 c.lP.pw),(.int .i64 c.mO),(.int .i64 c.nZ),(.int .i64 c.ny),L])] w (.bool r):=by
 refine cG 38 func23 rfl (λd=>sg ?_)
 obtain ⟨A1,c2,rfl⟩:=B.form
 obtain ⟨A3,c4,rfl⟩:=Q.form
 obtain ⟨A5,c6,rfl⟩:=g.form
 obtain ⟨A7,c8,rfl⟩:=z.form
 obtain ⟨A9,c0,rfl⟩:=i.form
 obtain ⟨R,c1,rfl⟩:=a4.form
 refine VE (lM d rfl (λh9 i5 d=>?_))
 obtain ⟨b3,c3,rfl⟩:=G.form
 obtain ⟨b4,c5,rfl⟩:=T.form
 obtain ⟨b5,c7,rfl⟩:=j.form
 obtain ⟨b6,c9,rfl⟩:=D.form
 obtain ⟨b7,d0,rfl⟩:=k.form
 obtain ⟨b9,d1,rfl⟩:=a5.form
 refine VE (lM d rfl (λi0 i6 d=>Wa (lr (VA d (Mt Mh) (C1 a.kw.Name A1 a.kw.kE.length c2 A3 a.kw.kQ.length c4 a.Client.Name A5 a.Client.kE.length c6 A7 a.Client.kQ.length c8 a.Formula.Op a.Formula.K a.Formula.ku.kw a.Formula.ku.Word A9 a.Formula.Kids.length c0 a.pj a.lP.pJ a.lP.pw a.mO a.nZ a.ny R a.Keys.length c1) ej dD (bS hm λd5 f5 hm=>?_)))))
 refine VE (Df d (cM _) call56 (λ_ _ _ _=>(BQ a (.slice A1 a.kw.kE.length c2) (.slice A3 a.kw.kQ.length c4) (.slice A5 a.Client.kE.length c6) (.slice A7 a.Client.kQ.length c8) (.slice A9 a.Formula.Kids.length c0) (.slice R a.Keys.length c1) _ _ (B.mono kZ.mono d.kC) (Q.mono mB.mono d.kC) (g.mono kZ.mono d.kC) (z.mono mB.mono d.kC) (i.mono kT.mono d.kC) (a4.mono ye.mono d.kC) f5)) (λi1 j0 j6 h5 d Z a1 n f1=>?_) (L0:=[]))
 obtain ⟨h1,h7,d9,g3,v,rfl,f9,g0⟩:=f1
 replace v:=v.symm; subst v
 replace d:=d.perm (Tr (Tr Tn))
 refine Wm (Wx rfl (Wx rfl (Wx rfl (Wa (Wa (Wa (ln ?_)))))))
 replace d:=d.kA (Kr (Kr (Kb (Db St))))
 refine sg (VA d (Ma (Ma Mh)) (C1 c.kw.Name b3 c.kw.kE.length c3 b4 c.kw.kQ.length c5 c.Client.Name b5 c.Client.kE.length c7 b6 c.Client.kQ.length c9 c.Formula.Op c.Formula.K c.Formula.ku.kw c.Formula.ku.Word b7 c.Formula.Kids.length d0 c.pj c.lP.pJ c.lP.pw c.mO c.nZ c.ny b9 c.Keys.length d1) ej dD (bS hm λd6 f6 hm=>?_))
 refine VE (Df d (cM _) call56 (λ_ _ _ _=>(BQ c (.slice b3 c.kw.kE.length c3) (.slice b4 c.kw.kQ.length c5) (.slice b5 c.Client.kE.length c7) (.slice b6 c.Client.kQ.length c9) (.slice b7 c.Formula.Kids.length d0) (.slice b9 c.Keys.length d1) _ _ (G.mono kZ.mono (Z.trans d.kC)) (T.mono mB.mono (Z.trans d.kC)) (j.mono kZ.mono (Z.trans d.kC)) (D.mono mB.mono (Z.trans d.kC)) (k.mono kT.mono (Z.trans d.kC)) (a5.mono ye.mono (Z.trans d.kC)) f6)) (λi2 j3 e1 h6 d h3 aa n f2=>?_) (L0:=[]))
 obtain ⟨h2,h8,e0,g4,a9,rfl,g1,g2⟩:=f2
 replace a9:=a9.symm; subst a9
 replace d:=d.perm (Tr (Tr Tn))
 refine Wm (Wx rfl (Wx rfl (Wx rfl (Wa (Wa (Wa (ln ?_)))))))
 replace d:=d.kA (Kr (Kr (Kr (Kr (Db St)))))
 refine sg (Wm (Wm (V (WG underlying4 rfl rfl rfl) (Wm (LJ hm (λd8 E W=>∃d2,ST false mN w W e1 (g4++(g3++d2))∧E 4=(.bool false)∧E 6=d9∧E 9=e0∧E 31=(.bool d8)) 5 ?_ (λd8 a3 P=>?_))))))
 ·rintro j4 E W ⟨d2,d,d4,g7,g8,g9⟩ f3
  refine Wh g9 (LJ f3 (λd7 E W=>∃d3,ST false mN w W e1 d3∧E 4=(.bool false)∧E 37=(.bool d7)) 5 ?_ (λd7 a2 O=>?_))
  ·rintro j5 E W ⟨d3,d,i7,h0⟩ f4
   exact Wg h0 (lt (rQ f4 d))
  refine bC a2 (λI a2=>?_) (λI a2=>?_)
  ·refine un I (un I (un I (un I (V (lK (cB I) rfl) ?_))))
   obtain rfl:=sj a2
   exact O _ _ ⟨_,(d.kA (Dr (Dr St))),d4,rfl⟩
  refine ug I (kD g7) (ug I (kD g8) (bS a2 λi8 f7 a2=>ue I (Eg d call58 (lC.nx (xh d9 d5.2.1 e0 d6.2.1 _ _ (g0.sl mR (λb o p=>d.at_ (Ma (Ml p)))) (g2.sl mR (λb o p=>d.at_ (Ml p))) f7)) (λi3 d=>ug I (oF rfl) (V (lN (cB I) rfl) ?_)))))
  obtain rfl:=sj a2
  exact O _ _ ⟨_,(d.kA (Dr (Dr St))),d4,rfl⟩
 refine bC a3 (λH a3=>?_) (λH a3=>?_)
 ·refine un H (un H (un H (un H (V (lK (cB H) rfl) ?_))))
  obtain rfl:=sj a3
  exact P _ _ ⟨_,(d.kA (Dr (Kr (Dr St)))),rfl,rfl,rfl,rfl⟩
 refine ug H (kD rfl) (ug H (kD rfl) (bS a3 λi9 f8 a3=>ue H (Eg d call58 (lC.nx (xh h1 d5.1 h2 d6.1 _ _ (f9.sl mR (λb o p=>d.at_ (Ma (Ma (Ml p))))) (g1.sl mR (λb o p=>d.at_ (Ml p))) f8)) (λi4 d=>ug H (oF rfl) (V (lN (cB H) rfl) ?_)))))
 obtain rfl:=sj a3
 exact P _ _ ⟨_,(d.kA (Dr (Kr (Dr St)))),rfl,rfl,rfl,rfl⟩
theorem Et (a:Value) (g:List kv) (c:Value) (i:kv→Option Bool) (r:Bool) (w:World) (j:Sl (Pl kF) 9 (hp w) a g) (k:sI pg0 c (hp w) (λ(x:kv)=>[(.agg (kF x).toArray)]) (λ(r:Bool)=>(.bool r)) i) (hm:tC g i=some r) :
  lC false pg0 112 [a,c] w (.bool r):=by
 refine cG 9 func112 rfl (λd=>sg (Wa (lr (Wm (Wm (bS hm λy t hm=>VE (Eg d call180 (Bc a g c i _ _ (j.mono (Pl.mono _) d.kC) (k.mono d.kC) t) (λu d=>Wi rfl (Wa (lu ?_))))))))))
 exact kL (lJ (rQ hm d))
theorem IV (c:kv) (g:Nat) (a:Value) (j:List kv) (r:Bool) (w:World) (k:Sl (Pl kF) 9 (hp w) a j) (i:At (hp w) (.pointer (some ⟨g,0,none⟩)) [a]) (hm:xJ c j=some r) :
  lC true pg0 131 [(.agg (kF c).toArray),(.pointer (some ⟨g,0,none⟩))] w (.bool r):=by
 refine cG 8 func131 rfl (λd=>sg (VE (lM d rfl (λu z d=>Wa (lr (V (kB rfl (sJ d.has (y:=a) i jA)) (VA d Mh (kF c) cU bE (bS hm λB t hm=>VE (Eg d call111 (Hy a j c _ _ (k.mono (Pl.mono _) d.kC) t) (λx d=>V (oF rfl) (Wa ?_)))))))))))
 refine ln ?_
 exact lJ (rQ hm d)
theorem Gp (a:Value) (j:List kv) (i:Value) (c:List kv) (r:Bool) (w:World) (t:Sl (Pl kF) 9 (hp w) a j) (g:Sl (Pl kF) 9 (hp w) i c) (hm:xG j c=some r) :
  lC false pg0 57 [a,i] w (.bool r):=by
 refine cG 9 func57 rfl (λd=>sg ?_)
 obtain ⟨u,y,rfl⟩:=g.form
 refine VE (lM d rfl (λB k d=>Wa (lr (Wm (V (qR (by exact pR rfl) rfl) (bS hm λG z hm=>VE (Eg d call112 (Et a j (.func (.func 131) #[] #[(.pointer (some ⟨k,0,none⟩))]) (λ(x:kv)=>xJ x c) _ _ (t.mono (Pl.mono _) d.kC) ⟨131,#[],#[(.pointer (some ⟨k,0,none⟩))],rfl,call131,λW x r n hm=>(IV x k (.slice u c.length y) c r W (g.mono (Pl.mono _) (d.kC.trans n)) (At.of (n _ _ (d.at_ Mh)) _ rfl) hm).nx⟩ z) (λD d=>V (oF rfl) (Wa (ln ?_))))))))))
 exact lJ (rQ hm d)
theorem xW (a:mY) (I Q t H u P:Value) (c:mY) (K T x J y R:Value) (r:Bool) (w:World) (B:Sl kX 15 (hp w) I a.kw.kE) (M:Sl lH 8 (hp w) Q a.kw.kQ) (g:Sl kX 15 (hp w) t a.Client.kE) (z:Sl lH 8 (hp w) H a.Client.kQ) (i:Sl kz 5 (hp w) u a.Formula.Kids) (a5:Sl qb 2 (hp w) P a.Keys) (G:Sl kX 15 (hp w) K c.kw.kE) (N:Sl lH 8 (hp w) T c.kw.kQ) (j:Sl kX 15 (hp w) x c.Client.kE) (D:Sl lH 8 (hp w) J c.Client.kQ) (k:Sl kz 5 (hp w) y c.Formula.Kids) (O:Sl qb 2 (hp w) R c.Keys) (hm:qU a c=some r) :
  lC false pg0 22 [(.agg #[(.string a.kw.Name),I,Q,(.string a.Client.Name),t,H,(.int .i64 a.Formula.Op),(.int .i64 a.Formula.K),(.string a.Formula.ku.kw),(.string a.Formula.ku.Word),u,(.int .i64 a.pj),(.int .i64 a.lP.pJ),(.int .i64 a.lP.pw),(.int .i64 a.mO),(.int .i64 a.nZ),(.int .i64 a.ny),P]),(.agg #[(.string c.kw.Name),K,T,(.string c.Client.Name),x,J,(.int .i64 c.Formula.Op),(.int .i64 c.Formula.K),(.string c.Formula.ku.kw),(.string c.Formula.ku.Word),y,(.int .i64 c.pj),(.int .i64 c.lP.pJ),(.int .i64 c.lP.pw),(.int .i64 c.mO),(.int .i64 c.nZ),(.int .i64 c.ny),R])] w (.bool r):=by
 refine cG 38 func22 rfl (λd=>sg ?_)
 obtain ⟨A1,c2,rfl⟩:=B.form
 obtain ⟨A3,c4,rfl⟩:=M.form
 obtain ⟨A5,c6,rfl⟩:=g.form
 obtain ⟨A7,c8,rfl⟩:=z.form
 obtain ⟨A9,c5,rfl⟩:=i.form
 obtain ⟨b5,c7,rfl⟩:=a5.form
 refine VE (lM d rfl (λj3 j8 d=>?_))
 obtain ⟨b6,c9,rfl⟩:=G.form
 obtain ⟨b7,d0,rfl⟩:=N.form
 obtain ⟨b9,d1,rfl⟩:=j.form
 obtain ⟨c0,d2,rfl⟩:=D.form
 obtain ⟨c1,d3,rfl⟩:=k.form
 obtain ⟨c3,d4,rfl⟩:=O.form
 refine VE (lM d rfl (λj4 j9 d=>Wa (lr (VA d (Mt Mh) (C1 a.kw.Name A1 a.kw.kE.length c2 A3 a.kw.kQ.length c4 a.Client.Name A5 a.Client.kE.length c6 A7 a.Client.kQ.length c8 a.Formula.Op a.Formula.K a.Formula.ku.kw a.Formula.ku.Word A9 a.Formula.Kids.length c5 a.pj a.lP.pJ a.lP.pw a.mO a.nZ a.ny b5 a.Keys.length c7) ej dD (bS hm λd6 g3 hm=>?_)))))
 refine VE (Df d (cM _) call56 (λ_ _ _ _=>(BQ a (.slice A1 a.kw.kE.length c2) (.slice A3 a.kw.kQ.length c4) (.slice A5 a.Client.kE.length c6) (.slice A7 a.Client.kQ.length c8) (.slice A9 a.Formula.Kids.length c5) (.slice b5 a.Keys.length c7) _ _ (B.mono kZ.mono d.kC) (M.mono mB.mono d.kC) (g.mono kZ.mono d.kC) (z.mono mB.mono d.kC) (i.mono kT.mono d.kC) (a5.mono ye.mono d.kC) g3)) (λj5 k2 k6 i5 d a2 a1 n f8=>?_) (L0:=[]))
 obtain ⟨h7,i7,h8,i8,v,rfl,g8,g9⟩:=f8
 replace v:=v.symm; subst v
 replace d:=d.perm (Tr (Tr Tn))
 refine Wm (Wx rfl (Wx rfl (Wx rfl (Wa (Wa (Wa (ln ?_)))))))
 replace d:=d.kA (Kr (Kr (Kb (Db St))))
 refine sg (VA d (Ma (Ma Mh)) (C1 c.kw.Name b6 c.kw.kE.length c9 b7 c.kw.kQ.length d0 c.Client.Name b9 c.Client.kE.length d1 c0 c.Client.kQ.length d2 c.Formula.Op c.Formula.K c.Formula.ku.kw c.Formula.ku.Word c1 c.Formula.Kids.length d3 c.pj c.lP.pJ c.lP.pw c.mO c.nZ c.ny c3 c.Keys.length d4) ej dD (bS hm λd7 g4 hm=>?_))
 refine VE (Df d (cM _) call56 (λ_ _ _ _=>(BQ c (.slice b6 c.kw.kE.length c9) (.slice b7 c.kw.kQ.length d0) (.slice b9 c.Client.kE.length d1) (.slice c0 c.Client.kQ.length d2) (.slice c1 c.Formula.Kids.length d3) (.slice c3 c.Keys.length d4) _ _ (G.mono kZ.mono (a2.trans d.kC)) (N.mono mB.mono (a2.trans d.kC)) (j.mono kZ.mono (a2.trans d.kC)) (D.mono mB.mono (a2.trans d.kC)) (k.mono kT.mono (a2.trans d.kC)) (O.mono ye.mono (a2.trans d.kC)) g4)) (λj6 k3 L i6 d i1 aa n f9=>?_) (L0:=[]))
 obtain ⟨h9,i9,i0,j0,A,rfl,h0,h1⟩:=f9
 replace A:=A.symm; subst A
 replace d:=d.perm (Tr (Tr Tn))
 refine Wm (Wx rfl (Wx rfl (Wx rfl (Wa (Wa (Wa (ln ?_)))))))
 replace d:=d.kA (Kr (Kr (Kr (Kr (Db St)))))
 refine sg (Wm (Wm (bS hm λk1 g7 hm=>VE (Eg d call57 (Gp h9 d7.1 h7 d6.1 _ _ (h0.sl mR (λb o p=>d.at_ (Ml p))) (g8.sl mR (λb o p=>d.at_ (Ma (Ma (Ml p))))) g7) (λj7 d=>Wm (LJ hm (λd9 E W=>∃e2,ST false mN w W L e2∧E 4=(.bool false)∧E 7=(.bool d6.2.2)∧E 10=(.bool d7.2.2)∧E 30=(.bool d9)) 4 ?_ (λd9 Z b1=>?_)))))))
 ·rintro h6 E W ⟨e2,d,d5,h2,h3,h4⟩ g0
  refine Wh h4 (LJ g0 (λe5 E W=>∃e3,ST false mN w W L e3∧E 4=(.bool false)∧E 37=(.bool e5)) 6 ?_ (λe5 a9 b4=>?_))
  ·rintro k4 E W ⟨e3,d,k0,h5⟩ g1
   exact Wg h5 (lt (rQ g1 d))
  refine bC a9 (λU a9=>?_) (λU a9=>?_)
  ·refine ug U (kD h2) (ug U (kD rfl) (LJ a9 (λd8 E W=>∃e4,ST false mN w W L e4∧E 4=(.bool false)∧E 31=(.bool h6)∧E 36=(.bool d8)) 3 ?_ (λd8 a4 b0=>?_)))
   ·rintro k5 E W ⟨e4,d,f5,f6,f7⟩ g2
    refine V (lK (f6.trans (cB U)) f7) ?_
    obtain rfl:=sj g2
    exact b4 _ _ ⟨_,(d.kA St),f5,rfl⟩
   refine bC a4 (λa3 a4=>?_) (λa3 a4=>?_)
   ·refine un a3 (un a3 (ug U (lK (cB a3) rfl) ?_))
    obtain rfl:=sj a4
    exact b0 _ _ ⟨_,(d.kA St),d5,rfl,rfl⟩
   refine ug a3 (kD h3) (ug a3 (oF rfl) (ug U (lN (cB a3) rfl) ?_))
   obtain rfl:=sj a4
   exact b0 _ _ ⟨_,(d.kA St),d5,rfl,rfl⟩
  refine un U (un U (Vu rfl rfl (Vu rfl rfl (un U (V (lN (cB U) rfl) ?_)))))
  obtain rfl:=sj a9
  exact b4 _ _ ⟨_,(d.kA St),d5,rfl⟩
 refine bC Z (λY Z=>?_) (λY Z=>?_)
 ·refine ug Y (kD rfl) (ug Y (kD rfl) (bS Z λi4 e1 Z=>ue Y (Eg d call57 (Gp i0 d7.2.1 h8 d6.2.1 _ _ (h1.sl mR (λb o p=>d.at_ (Ma (Ml p)))) (g9.sl mR (λb o p=>d.at_ (Ma (Ma (Ma (Ml p)))))) e1) (λi3 d=>V (lK (cB Y) rfl) ?_))))
  obtain rfl:=sj Z
  exact b1 _ _ ⟨_,(d.kA (Dr (Dr (Dr (Dr St))))),rfl,rfl,rfl,rfl⟩
 refine un Y (un Y (un Y (V (lN (cB Y) rfl) ?_)))
 obtain rfl:=sj Z
 exact b1 _ _ ⟨_,(d.kA (Dr (Dr (Dr (Dr St))))),rfl,rfl,rfl,rfl⟩
set_option maxHeartbeats 4000000 in
theorem Oa (r:Bool) (w:World) (e1:Cx pg0 (hp w)) (hm:BH =some r) :
  lC false pg0 20 [] w (.bool r):=by
 refine cG 55 func20 rfl (λd=>sg (Wa (lr (V (nP (v:=(.agg (kJ F4).toArray)) (vC rfl rfl) (nt fO er (Vz _ er) kr)) (V (nP (v:=(.agg (kF RX).toArray)) (BD rfl rfl rfl) (nt dU et (Z8 _ et) kr)) (VE (ml d dU (λW2 b1 d=>VO (lA (.agg (kF RX).toArray) ((kF RX).toArray) d rfl rfl bE (su RX) nb rfl (λW3 d=>ln (kM ?_)))))))))))
 refine kK (V (nP (v:=(.agg #[(.string K4),(.slice none 0 0),(.slice none 0 0)])) (og rfl) (nt zeroValue25 fQ (ZP _ fQ) kr)) (V (nP (v:=(.agg #[(.string K3),(.slice none 0 0),(.slice none 0 0)])) (og rfl) (nt zeroValue25 fQ (ZP _ fQ) kr)) (Wf xL (VA d Mh (kJ F4) bZ bF (V (nP (v:=(.agg #[(.int .i64 1),(.int .i64 0),(.string (F4.kw)),(.string (F4.Word)),(.slice none 0 0)])) (vC rfl rfl) (nt bR cP (Ey _ cP) kr)) (V (nP (v:=(.agg C4.toArray)) (BD rfl rfl rfl) (nt iN eF (aa4 _ eF) kr)) (VE (ml d iN (λW5 K d=>VO (lA (.agg C4.toArray) (C4.toArray) d rfl rfl dD oc nb rfl (λW6 d=>lr (VA d Mh C4 ej dD (VE (ml d iN (λW8 M d=>?_)))))))))))))))
 let g6:Value:=(.pointer (some ⟨M,0,none⟩))
 let g5:Value:=(.pointer (some ⟨K,0,none⟩))
 refine VO (lA (.agg C4.toArray) (C4.toArray) d rfl rfl dD oc nb rfl (λW9 d=>ln (kM ?_)))
 replace d:=d.drew
 have n:=d.has.kA (Db (Db (Kb Sn)))
 refine lU n li (XH 0 rfl n (λ_ hS=>kB rfl (kI hS Mh (kF RX) rfl cU bE)) (X 3 rfl n (nP (v:=(.agg RG.toArray)) (og rfl) (nt bR cP (Ey _ cP) kr)) (bS hm λa d6 hm=>XE 1 rfl (QD (enc:=(mh .u8)) (z:=0) d (λ_=>rfl) dc dz vN.1 vN.2.1 vN.2.2.1 vN.2.2.2 rfl rfl rfl d6 (λf9 g4 f8 d a0=>?_)))))
 let L:=(⟨(⟨RX,a⟩:Signed),K19⟩:kU)
 let P:=(⟨K17,(⟨K3,[L],[]⟩:lB),K22,0,K9,0,0,0,[]⟩:mY)
 have n:=d.has.kA (Dr (Db (Db (Kb Sn))))
 refine ⟨n,?_⟩
 obtain ⟨g,i,rfl⟩:=a0.form
 let h1:Value:=(.slice g a.length i)
 refine X 2 rfl n (nP (v:=(.agg #[(.int .i64 1),(.string (F4.kw)),(.string (F4.Word)),(.string K3),(.string (K0.kw)),(.string (K0.Word)),(.string (K0.kw)),(.string (K0.Word)),(.string zS),h1])) (vC rfl rfl) (nt kj iZ (aaT _ iZ) kr)) (X 4 rfl n (nP (v:=(.agg (C7 g a.length i).toArray)) (vC rfl rfl) (nt eA gA (Zh _ gA) kr)) ?_)
 have f1:=a0.Xc d (λp A=>(Ml A))
 obtain ⟨Z,d,I,aa,J⟩:=ST.VJ d a0 (λ_=>rfl)
 refine XE 5 rfl (lZ (cs:=(C7 g a.length i).toArray) d (og rfl) (oE dm cY eA) (λg0 k d=>?_))
 let b8:Value:=(.slice (some ⟨k,0,none⟩) 1 1)
 have n:=d.has.Ew I (Db (Db (Db (Kb Sn))))
 refine ⟨n,(X 6 rfl n (kN wP rfl) (X 7 rfl n (kN uh rfl) ?_))⟩
 replace d:=d.perm (Nb (Pb Pz) Nz)
 refine XO 8 rfl (lA b8 ((C8 k).toArray) d rfl rfl ke oc nb rfl (λg1 d=>?_))
 have n:=d.has.Ew I (Db (Db (Db (Kb Sn))))
 refine ⟨n,(lX kr (kL ?_))⟩
 replace d:=d.kA (Kb (Kb (Kb (Db St))))
 refine sg (VA d (Mt (Mt Mh)) C4 ej dD (VA d Mh (C8 k) ej dD (bS hm λg3 e0 hm=>VE (Eg d call25 (Ib RK (.slice none 0 0) (.slice none 0 0) (.slice none 0 0) (.slice none 0 0) (.slice none 0 0) (.slice none 0 0) P (.slice none 0 0) (.slice none 0 0) b8 (.slice none 0 0) (.slice none 0 0) (.slice none 0 0) _ _ (e1.mono (I.trans d.kC)) (Sl.nil _ _ _) (Sl.nil _ _ _) (Sl.nil _ _ _) (Sl.nil _ _ _) (Sl.nil _ _ _) (Sl.nil _ _ _) (Sl.nil _ _ _) (Sl.nil _ _ _) ((mn.lit kZ (l:=[L]) (.cons (ys:=C7 g a.length i) (kX.mk ⟨h1,(.slice none 0 0),rfl,J,(Sl.nil _ _ _)⟩) .nil) rfl nb rfl).sl kZ d.kC (λb o A=>(by rw [bO] at A; cases A; exact d.at_ (Mt Mh)))) (Sl.nil _ _ _) (Sl.nil _ _ _) (Sl.nil _ _ _) e0) (λg2 d=>V (Gt rfl rfl rfl) (Wm (LJ hm (λb3 E W=>∃c4,ST false mN w W Z ((M,Ol (C8 k) 34)::((k,Ol (C7 g a.length i) 57)::((K,Ol C4 34)::c4)))∧E 0=(.bool false)∧E 2=g5∧E 3=g6∧E 32=(.bool b3)) 7 ?_ (λb3 H Y=>?_))))))))
 ·let h3:=((C8 k).toArray:Array Value)
  let h2:=((C7 g a.length i).toArray:Array Value)
  rintro g7 E W ⟨c4,d,c8,a4,a5,e2⟩ d7
  refine Wh e2 (LJ d7 (λb2 E W=>∃c5,ST false mN w W Z ((M,Obj.cells h3 34 (0,0))::((k,Obj.cells h2 57 (0,0))::((K,Ol C4 34)::c5)))∧E 0=(.bool false)∧E 2=g5∧E 3=g6∧E 37=(.bool b2)) 4 ?_ (λb2 G U=>?_))
  ·rintro g8 E W ⟨c5,d,c9,O,d0,e3⟩ d8
   refine Wh e3 (LJ d8 (λb0 E W=>∃c6,ST false mN w W Z ((M,Obj.cells h3 34 (0,0))::((k,Obj.cells h2 57 (0,0))::((K,Ol C4 34)::c6)))∧E 0=(.bool false)∧E 2=g5∧E 3=g6∧E 43=(.bool b0)) 5 ?_ (λb0 D T=>?_))
   ·rintro g9 E W ⟨c6,d,d1,R,a7,e4⟩ d9
    refine Wh e4 (LJ d9 (λa9 E W=>∃c7,ST false mN w W Z ((M,Obj.cells h3 34 (0,0))::((k,Obj.cells h2 57 (0,0))::((K,Ol C4 34)::c7)))∧E 0=(.bool false)∧E 2=g5∧E 3=g6∧E 48=(.bool a9)) 4 ?_ (λa9 B Q=>?_))
    ·rintro h0 E W ⟨c7,d,a3,d2,d3,d4⟩ b5
     refine Wh d4 (LJ b5 (λa8 E W=>∃a2,ST false mN w W Z a2∧E 0=(.bool false)∧E 54=(.bool a8)) 5 ?_ (λa8 y N=>?_))
     ·rintro f7 E W ⟨a2,d,f0,d5⟩ b6
      exact Wg d5 (lt (rQ b6 d))
     refine bC y (λj y=>?_) (λj y=>?_)
     ·refine ug j (kB d2 (kI d.has (Mt (Mt Mh)) C4 rfl ej dD)) (ug j (kB d3 (kI d.has Mh (C8 k) rfl ej dD)) (bS y λf2 b9 y=>ue j (Eg d call22 (xW RK (.slice none 0 0) (.slice none 0 0) (.slice none 0 0) (.slice none 0 0) (.slice none 0 0) (.slice none 0 0) P (.slice none 0 0) (.slice none 0 0) b8 (.slice none 0 0) (.slice none 0 0) (.slice none 0 0) _ _ (Sl.nil _ _ _) (Sl.nil _ _ _) (Sl.nil _ _ _) (Sl.nil _ _ _) (Sl.nil _ _ _) (Sl.nil _ _ _) (Sl.nil _ _ _) (Sl.nil _ _ _) ((mn.lit kZ (l:=[L]) (.cons (ys:=C7 g a.length i) (kX.mk ⟨h1,(.slice none 0 0),rfl,J,(Sl.nil _ _ _)⟩) .nil) rfl nb rfl).sl kZ d.kC (λb o A=>(by rw [bO] at A; cases A; exact d.at_ (Mt Mh)))) (Sl.nil _ _ _) (Sl.nil _ _ _) (Sl.nil _ _ _) b9) (λe5 d=>ug j (oF rfl) (V (lK (cB j) rfl) ?_)))))
      obtain rfl:=sj y
      exact N _ _ ⟨_,(d.kA (Db (Db (Db St)))),a3,rfl⟩
     refine un j (un j (un j (un j (V (lN (cB j) rfl) ?_))))
     obtain rfl:=sj y
     exact N _ _ ⟨_,(d.kA (Db (Db (Db St)))),a3,rfl⟩
    refine bC B (λx B=>?_) (λx B=>?_)
    ·refine ug x (kB a7 (kI d.has Mh (C8 k) rfl ej dD)) (ug x (kB R (kI d.has (Mt (Mt Mh)) C4 rfl ej dD)) (bS B λf3 c0 B=>ue x (Eg d call22 (xW P (.slice none 0 0) (.slice none 0 0) b8 (.slice none 0 0) (.slice none 0 0) (.slice none 0 0) RK (.slice none 0 0) (.slice none 0 0) (.slice none 0 0) (.slice none 0 0) (.slice none 0 0) (.slice none 0 0) _ _ (Sl.nil _ _ _) (Sl.nil _ _ _) ((mn.lit kZ (l:=[L]) (.cons (ys:=C7 g a.length i) (kX.mk ⟨h1,(.slice none 0 0),rfl,J,(Sl.nil _ _ _)⟩) .nil) rfl nb rfl).sl kZ d.kC (λb o A=>(by rw [bO] at A; cases A; exact d.at_ (Mt Mh)))) (Sl.nil _ _ _) (Sl.nil _ _ _) (Sl.nil _ _ _) (Sl.nil _ _ _) (Sl.nil _ _ _) (Sl.nil _ _ _) (Sl.nil _ _ _) (Sl.nil _ _ _) (Sl.nil _ _ _) c0) (λe6 d=>V (lK (cB x) rfl) ?_))))
     obtain rfl:=sj B
     exact Q _ _ ⟨_,(d.kA St),d1,R,a7,rfl⟩
    refine un x (un x (un x (V (lN (cB x) rfl) ?_)))
    obtain rfl:=sj B
    exact Q _ _ ⟨_,(d.kA St),d1,R,a7,rfl⟩
   refine bC D (λt D=>?_) (λt D=>?_)
   ·refine ug t (kB O (kI d.has (Mt (Mt Mh)) C4 rfl ej dD)) (ug t (kB O (kI d.has (Mt (Mt Mh)) C4 rfl ej dD)) (bS D λf4 c1 D=>ue t (Eg d call23 (DF RK (.slice none 0 0) (.slice none 0 0) (.slice none 0 0) (.slice none 0 0) (.slice none 0 0) (.slice none 0 0) RK (.slice none 0 0) (.slice none 0 0) (.slice none 0 0) (.slice none 0 0) (.slice none 0 0) (.slice none 0 0) _ _ (Sl.nil _ _ _) (Sl.nil _ _ _) (Sl.nil _ _ _) (Sl.nil _ _ _) (Sl.nil _ _ _) (Sl.nil _ _ _) (Sl.nil _ _ _) (Sl.nil _ _ _) (Sl.nil _ _ _) (Sl.nil _ _ _) (Sl.nil _ _ _) (Sl.nil _ _ _) c1) (λe7 d=>ug t (oF rfl) (V (lK (cB t) rfl) ?_)))))
    obtain rfl:=sj D
    exact T _ _ ⟨_,(d.kA St),c9,O,d0,rfl⟩
   refine un t (un t (un t (un t (V (lN (cB t) rfl) ?_))))
   obtain rfl:=sj D
   exact T _ _ ⟨_,(d.kA St),c9,O,d0,rfl⟩
  refine bC G (λu G=>?_) (λu G=>?_)
  ·refine ug u (kB a4 (kI d.has (Mt (Mt Mh)) C4 rfl ej dD)) (ug u (kB a5 (kI d.has Mh (C8 k) rfl ej dD)) (bS G λf5 c2 G=>ue u (Eg d call23 (DF RK (.slice none 0 0) (.slice none 0 0) (.slice none 0 0) (.slice none 0 0) (.slice none 0 0) (.slice none 0 0) P (.slice none 0 0) (.slice none 0 0) b8 (.slice none 0 0) (.slice none 0 0) (.slice none 0 0) _ _ (Sl.nil _ _ _) (Sl.nil _ _ _) (Sl.nil _ _ _) (Sl.nil _ _ _) (Sl.nil _ _ _) (Sl.nil _ _ _) (Sl.nil _ _ _) (Sl.nil _ _ _) ((mn.lit kZ (l:=[L]) (.cons (ys:=C7 g a.length i) (kX.mk ⟨h1,(.slice none 0 0),rfl,J,(Sl.nil _ _ _)⟩) .nil) rfl nb rfl).sl kZ d.kC (λb o A=>(by rw [bO] at A; cases A; exact d.at_ (Mt Mh)))) (Sl.nil _ _ _) (Sl.nil _ _ _) (Sl.nil _ _ _) c2) (λe8 d=>V (lK (cB u) rfl) ?_))))
   obtain rfl:=sj G
   exact U _ _ ⟨_,(d.kA St),c8,a4,a5,rfl⟩
  refine un u (un u (un u (V (lN (cB u) rfl) ?_)))
  obtain rfl:=sj G
  exact U _ _ ⟨_,(d.kA St),c8,a4,a5,rfl⟩
 refine bC H (λc H=>?_) (λc H=>?_)
 ·refine ug c (kN wP rfl) (ug c (kB rfl (kI d.has (Mt (Mt Mh)) [(.string K3),(.slice none 0 0),(.slice none 0 0)] rfl dW dC)) (ug c (kN wP rfl) (ug c (kB rfl (kI d.has (Mt (Mt Mh)) [(.string K3),(.slice none 0 0),(.slice none 0 0)] rfl dW dC)) (bS H λf6 c3 H=>ue c (Eg d call27 (AO Zy (.slice none 0 0) (.slice none 0 0) Zy (.slice none 0 0) (.slice none 0 0) _ _ (Sl.nil _ _ _) (Sl.nil _ _ _) (Sl.nil _ _ _) (Sl.nil _ _ _) c3) (λe9 d=>ug c (Gt rfl rfl rfl) (V (lK (cB c) rfl) ?_)))))))
  obtain rfl:=sj H
  exact Y _ _ ⟨_,(d.kA St),rfl,rfl,rfl,rfl⟩
 refine un c (un c (un c (un c (un c (un c (V (lN (cB c) rfl) ?_))))))
 obtain rfl:=sj H
 exact Y _ _ ⟨_,(d.kA St),rfl,rfl,rfl,rfl⟩
theorem Ia (k:Value) (u:List kv) (r:Int) (w:World) (j:Sl (Pl kF) 9 (hp w) k u) (hm:zf u=some r) :
  lC true pg0 108 [k] w (.int .i64 r):=by
 refine cG 54 func108 rfl (λd=>sg (Wa (lr (Wa (lS (Wm ?_))))))
 refine V (nv bJ rfl j) (Wm (ln (mV (λi E W=>∃g t,(E 8= .int .i64 (i:Nat)∧E 7= .int .i64 (u.length:Nat))∧ST true mN w W (hp w) t∧E 3=(.int .i64 g)∧E 6=k∧uT (u.drop i) g=some r) u.length j.len ⟨0,_,⟨rfl,rfl⟩,(d.kA St),rfl,rfl,hm⟩ dc dc dc (λ_ _ _ h=>by obtain ⟨_,_,p,_⟩:=h; exact p) ?_ ?_)))
 ·rintro I E W z ⟨g,t,⟨n,v⟩,d,x,y,c⟩
  obtain ⟨a,J,G,D,H⟩:=mC z
  rw [G] at c
  refine bg (VQ (uR (enc:=kF) (i:=(I:Int)) (x0:=a) bJ bE y n j (aX _) D) (λQ B=>V (kB rfl (lL d.has B cU bE)) (VE (ml d dU (λK N d=>VO (lA (.agg (kF a).toArray) ((kF a).toArray) d rfl rfl bE (su a) nb rfl (λM d=>ln (kK (Wh x (Wf xL (Wf yB (VB d Mh rfl rfl cN (V (rU cO rfl) ?_)))))))))))))
  refine Wi rfl (Wf xL (Wf Ae (VB d Mh rfl rfl cN (V (rU cO rfl) (Wi rfl (Wf FA (VB d Mh rfl rfl cN (V (rU cO rfl) (Wi rfl (Wf rK (Wf yB (VB d Mh rfl rfl cN (V (rU cO rfl) (Wi rfl ?_))))))))))))))
  refine Wf rK (Wf Ae (VB d Mh rfl rfl cN (V (rU cO rfl) (Wi rfl (Wf Bm (Wf yB (VB d Mh rfl rfl cN (V (rU cO rfl) (Wi rfl (Wf Bm (Wf Ae (VB d Mh rfl rfl cN (V (rU cO rfl) (Wi rfl ?_))))))))))))))
  refine Wf CT (VB d Mh rfl rfl cN (V (rU cO rfl) (Wi rfl (Wi rfl (Wa (lu (lG (kL ?_))))))))
  replace d:=d.kA (Db St)
  exact ⟨n,(wi0 .i64 (g+(wi0 .i64 ((wi0 .i64 ((wi0 .i64 ((wi0 .i64 ((wi0 .i64 ((wi0 .i64 ((wi0 .i64 ((wi0 .i64 (20+(a.Head.kw.size:Int)))+(a.Head.Word.size:Int)))+(a.lO.size:Int)))+(a.B.kw.size:Int)))+(a.B.Word.size:Int)))+(a.C.kw.size:Int)))+(a.C.Word.size:Int)))+(a.mg.size:Int))))),_,⟨rfl,v⟩,(d.kA St),rfl,y,(by rw [H]; exact c)⟩
 rintro E W ⟨g,t,⟨n,v⟩,d,x,y,c⟩
 rw [bo] at c
 exact kL (sg (Wh x (Wa (lt (rQ c d)))))
theorem BG (H:Value) (Q:List Key) (u:Value) (J:List Signed) (r:Int) (w:World) (B:Sl qb 2 (hp w) H Q) (D:Sl wB 10 (hp w) u J) (hm:xE Q J=some r) :
  lC true pg0 40 [H,u] w (.int .i64 r):=by
 refine cG 45 func40 rfl (λd=>sg (Wa (lr (Wa (lS (Wm ?_))))))
 refine V (nv fS rfl B) (Wm (ln (mV (λi E W=>∃t N,(E 12= .int .i64 (i:Nat)∧E 11= .int .i64 (Q.length:Nat))∧ST true mN w W (hp w) N∧E 1=u∧E 5=(.int .i64 t)∧E 10=H∧tJ J (Q.drop i) t=some r) Q.length B.len ⟨0,_,⟨rfl,rfl⟩,(d.kA St),rfl,rfl,rfl,hm⟩ dc dc dc (λ_ _ _ h=>by obtain ⟨_,_,v,_⟩:=h; exact v) ?_ ?_)))
 ·rintro c3 E W b5 ⟨t,N,⟨p,A⟩,d,U,Y,Z,g⟩
  obtain ⟨k,d4,b9,b7,c0⟩:=mC b5
  rw [b9] at g
  refine bg (VQ (nN (i:=(c3:Int)) (x0:=k) qb.out fS gi Z p B (aX _) b7) (λd8 ⟨_,⟨d9,rfl,a2⟩,b6⟩=>V (kB rfl (lL d.has b6 isAgg119 gi)) (VE (ml d zeroValue119 (λd5 d7 d=>?_)))))
  obtain ⟨O,P,rfl⟩:=a2.form
  refine VO (lA (.agg #[(.string k.lO),(.slice O k.Key.length P)]) (#[(.string k.lO),(.slice O k.Key.length P)]) d rfl rfl gi oc nb rfl (λd6 d=>ln (kK (Wh Y (Wf Nt (VB d Mh rfl rfl cN (V (rU cO rfl) (Wi rfl (Wf No (VB d Mh rfl rfl gC (V (nv dz rfl a2) (Wi rfl (Wi rfl (Wa ?_))))))))))))))
  refine lu (lG (kL ?_))
  replace d:=d.kA (Db St)
  exact ⟨p,(wi0 .i64 (t+(wi0 .i64 ((wi0 .i64 (10+(k.lO.size:Int)))+(k.Key.length:Int))))),_,⟨rfl,A⟩,(d.kA St),U,rfl,Z,(by rw [c0]; exact g)⟩
 rintro E W ⟨t,N,⟨p,A⟩,d,U,Y,Z,g⟩
 rw [bo] at g
 refine kL (kM (sg (Wh U (V (nv jV rfl D) (Wm (ln (CJ g (λG E W=>∃M,ST true mN w W (hp w) M∧E 5=(.int .i64 G)) (λG a5=>?_) ?_)))))))
 ·refine mV (λi E W=>∃j x,(E 29= .int .i64 (i:Nat)∧E 28= .int .i64 (J.length:Nat))∧ST true mN w W (hp w) x∧E 5=(.int .i64 j)∧E 27=u∧vc (J.drop i) j=some G) J.length D.len ⟨t,_,⟨rfl,rfl⟩,(d.kA St),Y,rfl,a5⟩ dc dc dc (λ_ _ _ h=>by obtain ⟨_,_,v,_⟩:=h; exact v) ?_ ?_
  ·rintro c1 E W a3 ⟨j,x,⟨p,A⟩,d,y,z,c⟩
   obtain ⟨a,c4,a9,a8,b0⟩:=mC a3
   rw [a9] at c
   refine bg (VQ (nN (i:=(c1:Int)) (x0:=a) wB.out jV jK z p D (aX _) a8) (λd0 ⟨_,⟨d1,rfl,I⟩,R⟩=>V (kB rfl (lL d.has R isAgg55 jK)) (VE (ml d kj (λc5 c9 d=>?_)))))
   obtain ⟨K,T,rfl⟩:=I.form
   let a0:=(Vi a.kv.Kind a.kv.Head.kw a.kv.Head.Word a.kv.lO a.kv.B.kw a.kv.B.Word a.kv.C.kw a.kv.C.Word a.kv.mg K a.Tag.length T)
   refine VO (lA (.agg a0.toArray) (a0.toArray) d rfl rfl jK oc nb rfl (λc6 d=>ln ?_))
   replace d:=d.drew
   have n:=d.has.kA (Kb Sn)
   refine lU n li (X 0 rfl n (kD y) (X 1 rfl n (kN D5 rfl) (XH 2 rfl n (λ_ L=>kB rfl (kI L Mh (kF a.kv) rfl cU bE)) (X 5 rfl n (kN LV rfl) (XH 6 rfl n (λ_ L=>kB rfl (lg L Mh rfl gC)) (X 7 rfl n (nv dz rfl I) (XE 3 rfl (lZ (cs:=(kF a.kv).toArray) d (og rfl) (oE bJ bE dU) (λc7 b3 d=>?_)))))))))
   have n:=d.has.kA (Db (Kb Sn))
   refine ⟨n,(bS c λc2 a7 c=>XE 4 rfl (Eg d call108 (Ia (.slice (some ⟨b3,0,none⟩) 1 1) ([a.kv]) _ _ (Sl.lit (enc:=kF) (l:=[a.kv]) mR rfl nb rfl (d.at_ Mh)) a7) (λc8 d=>?_)))⟩
   have n:=d.has.kA (Db (Kb Sn))
   refine ⟨n,(X 8 rfl n (lY rfl rfl rfl) (X 9 rfl n (lY rfl rfl rfl) (X 10 rfl n (oe rfl) (lX kr (lG (kL ?_))))))⟩
   replace d:=d.kA (Db (Db St))
   exact ⟨p,(wi0 .i64 (j+(wi0 .i64 (c2+(a.Tag.length:Int))))),_,⟨rfl,A⟩,(d.kA St),rfl,z,(by rw [b0]; exact c)⟩
  rintro E W ⟨j,x,⟨p,A⟩,d,y,z,c⟩
  rw [bo] at c
  refine kL ?_
  obtain rfl:=sj c
  exact ⟨_,(d.kA St),y⟩
 rintro d3 E W ⟨M,d,b4⟩ a4
 exact sg (Wh b4 (Wa (lt (rQ a4 d))))
theorem Jj (I:(List Formula)→Option Int) (N:∀(j:Value) (u:List Formula) (r:Int) (w:World) (t:Sl kz 5 (hp w) j u),I u=some r→lC false pg0 39 [j] w (.int .i64 r)) (j:Value) (u:List Formula) (r:Int) (w:World) (t:Sl kz 5 (hp w) j u) (hm:Af I u=some r) :
  lC false pg0 39 [j] w (.int .i64 r):=by
 refine cG 31 func39 rfl (λn=>sg (Wa (lr (Wa (lS (Wm ?_))))))
 refine V (nv aN rfl t) (Wm (ln (mV (λi E W=>∃x z,(E 8= .int .i64 (i:Nat)∧E 7= .int .i64 (u.length:Nat))∧ST false mN w W (hp w) z∧E 3=(.int .i64 x)∧E 6=j∧uZ I (u.drop i) x=some r) u.length t.len ⟨0,_,⟨rfl,rfl⟩,(n.kA St),rfl,rfl,hm⟩ dc dc dc (λ_ _ _ h=>by obtain ⟨_,_,L,_⟩:=h; exact L) ?_ ?_)))
 ·rintro Z E W M ⟨x,z,⟨A,P⟩,n,D,G,g⟩
  obtain ⟨c,a7,T,Q,U⟩:=mC M
  let a0:=((c.ku.kw.size:Int)+(c.ku.Word.size:Int))
  rw [T] at g
  refine bg (VQ (nN (i:=(Z:Int)) (x0:=c) kz.out aN aH G A t (aX _) Q) (λa5 ⟨_,⟨a6,rfl,H⟩,J⟩=>V (kB rfl (lL n.has J bL aH)) (VE (ml n bR (λR a4 n=>?_)))))
  obtain ⟨y,B,rfl⟩:=H.form
  let O:=(C2 c.Op c.K c.ku.kw c.ku.Word y c.Kids.length B)
  refine VO (lA (.agg O.toArray) (O.toArray) n rfl rfl aH oc nb rfl (λa2 n=>ln ?_))
  replace n:=n.drew
  have d:=n.has.kA (Kb Sn)
  refine lU d li (X 0 rfl d (kD D) (X 1 rfl d (kN Br rfl) (X 2 rfl d (kN yB rfl) (XH 3 rfl d (λ_ p=>kB rfl (lg p Mh rfl cN)) (X 4 rfl d (rU cO rfl) (X 5 rfl d (kN Br rfl) (X 6 rfl d (kN Ae rfl) (XH 7 rfl d (λ_ p=>kB rfl (lg p Mh rfl cN)) (X 8 rfl d (rU cO rfl) (X 9 rfl d (lY rfl rfl rfl) (X 10 rfl d (Xm (k:=.i64) (a:=(wi0 .i64 a0)) (b:=16) (v:=(.int .i64 (wi0 .i64 (Int.tdiv (wi0 .i64 a0) 16)))) rfl rfl dc rfl) (X 11 rfl d (lY rfl rfl rfl) (X 12 rfl d (kN vA rfl) (XH 13 rfl d (λ_ p=>kB rfl (lg p Mh rfl fJ)) ?_))))))))))))))
  refine bS g λY K g=>XE 14 rfl (Eg n call39 (N (.slice y c.Kids.length B) c.Kids _ _ (H.mono kT.mono n.kC) K) (λa3 n=>?_))
  have d:=n.has.kA (Kb Sn)
  refine ⟨d,(X 15 rfl d (lY rfl rfl rfl) (X 16 rfl d (lY rfl rfl rfl) (X 17 rfl d (oe rfl) (lX kr (lG (kL ?_))))))⟩
  replace n:=n.kA (Db St)
  exact ⟨A,(wi0 .i64 (x+(wi0 .i64 ((wi0 .i64 (1+(wi0 .i64 (Int.tdiv (wi0 .i64 a0) 16))))+Y)))),_,⟨rfl,P⟩,(n.kA St),rfl,G,(by rw [U]; exact g)⟩
 rintro E W ⟨x,z,⟨A,P⟩,n,D,G,g⟩
 rw [bo] at g
 exact kL (sg (Wh D (Wa (lt (rQ g n)))))
theorem BX:∀(n:Nat) (a:Value) (c:List Formula) (r:Int) (w:World) (g:Sl kz 5 (hp w) a c) (_:rn n c=some r),
  lC false pg0 39 [a] w (.int .i64 r)
 | 0=>by intros; rename_i h; simp only [rn] at h; cases h
 | n+1=>Jj (rn n) (BX n)
set_option maxHeartbeats 4000000 in
theorem zk (x:lB) (J N:Value) (r:Int) (w:World) (y:Sl kX 15 (hp w) J x.kE) (G:Sl lH 8 (hp w) N x.kQ) (hm:zp x=some r) :
  lC false pg0 38 [(.agg #[(.string x.Name),J,N])] w (.int .i64 r):=by
 refine cG 61 func38 rfl (λd=>sg ?_)
 obtain ⟨A1,c2,rfl⟩:=y.form
 obtain ⟨A3,c4,rfl⟩:=G.form
 let g6:=(C6 x.Name A1 x.kE.length c2 A3 x.kQ.length c4)
 refine VE (lM d rfl (λW6 b5 d=>Wa (lr (Wf Ec (VB d Mh rfl rfl cN (V (rU cO rfl) (Wa (lS ?_))))))))
 refine Wf uh (VB d Mh rfl rfl gE (V (nv dm rfl y) (Wm (ln (mV (λi E W=>∃I b1,(E 14= .int .i64 (i:Nat)∧E 13= .int .i64 (x.kE.length:Nat))∧ST false mN w W (hp w) ((b5,Ol g6 25)::b1)∧E 1=(.pointer (some ⟨b5,0,none⟩))∧E 3=(.int .i64 I)∧E 12=(.slice A1 x.kE.length c2)∧uW x (x.kE.drop i) I=some r) x.kE.length y.len ⟨(x.Name.size:Int),_,⟨rfl,rfl⟩,(d.kA St),rfl,rfl,rfl,hm⟩ dc dc dc (λ_ _ _ h=>by obtain ⟨_,_,O,_⟩:=h; exact O) ?_ ?_)))))
 ·rintro d5 E W e1 ⟨I,b1,⟨A,P⟩,d,U,M,Y,H⟩
  obtain ⟨a,h9,e9,e8,f0⟩:=mC e1
  rw [e9] at H
  refine bg (VQ (nN (i:=(d5:Int)) (x0:=a) kX.out dm cY Y A y (aX _) e8) (λj4 ⟨_,⟨j8,j9,rfl,Q,T⟩,e2⟩=>V (kB rfl (lL d.has e2 eJ cY)) (VE (ml d eA (λi0 f4 d=>?_)))))
  obtain ⟨t,u,rfl⟩:=Q.form
  let g5:Value:=(.slice t a.Signed.Tag.length u)
  let b8:=(Vi a.Signed.kv.Kind a.Signed.kv.Head.kw a.Signed.kv.Head.Word a.Signed.kv.lO a.Signed.kv.B.kw a.Signed.kv.B.Word a.Signed.kv.C.kw a.Signed.kv.C.Word a.Signed.kv.mg t a.Signed.Tag.length u)
  obtain ⟨g,j,rfl⟩:=T.form
  let d9:Value:=(.slice g a.ky.Kids.length j)
  let L:=(C2 a.ky.Op a.ky.K a.ky.ku.kw a.ky.ku.Word g a.ky.Kids.length j)
  let a0:=(C3 a.Signed.kv.Kind a.Signed.kv.Head.kw a.Signed.kv.Head.Word a.Signed.kv.lO a.Signed.kv.B.kw a.Signed.kv.B.Word a.Signed.kv.C.kw a.Signed.kv.C.Word a.Signed.kv.mg t a.Signed.Tag.length u a.ky.Op a.ky.K a.ky.ku.kw a.ky.ku.Word g a.ky.Kids.length j)
  refine VO (lA (.agg a0.toArray) (a0.toArray) d rfl rfl cY oc nb rfl (λi1 d=>ln ?_))
  replace d:=d.drew
  have n:=d.has.kA (Kb Sn)
  refine lU n li (X 0 rfl n (kD M) (X 1 rfl n (kN Au rfl) (XH 2 rfl n (λ_ v=>kB rfl (kI v Mh b8 rfl isAgg55 jK)) (X 5 rfl n (kN I8 rfl) (XH 6 rfl n (λ_ v=>kB rfl (kI v Mh L rfl bL aH)) (PJ H (λb4 E W=>∃R b2 b9,ST false mN w W (hp w) ((f4,Ol a0 57)::((b5,Ol g6 25)::(b2++b9)))∧E 1=(.pointer (some ⟨b5,0,none⟩))∧E 3=(.int .i64 I)∧E 12=(.slice A1 x.kE.length c2)∧E 13=(.int .i64 (x.kE.length:Int))∧E 14=(.int .i64 (d5:Int))∧E 18=(.int .i64 I)∧E 22=(.int .i64 b4.1)∧E 25=R∧mn 30 kz 5 (hp w) R b4.2 b2) (bm 13 255) 5 ?_ (λb4 z Z=>?_)))))))
  ·rintro ⟨g7,g3⟩ E W ⟨R,b2,b9,d,f6,j3,f7,f8,f9,g0,g1,g2,e7⟩ a6
   refine bS a6 λg4 e3 a6=>XE 8 rfl (Eg d call39 ((BX kY) R g3 _ _ (e7.sl kT d.kC (λb o p=>d.at_ (Mt (Mt (Ml p))))) e3) (λi2 d=>?_) (ha:=XD g2))
   have n:=d.has.kA (Kb Sn)
   refine ⟨n,(X 9 rfl n (lY rfl rfl rfl) (X 10 rfl n (lY g1 rfl rfl) (X 11 rfl n (lY g0 rfl rfl) (X 12 rfl n (oe rfl) (lX kr (lG (kL ?_)))))))⟩
   replace d:=d.kA (Db (Kb (Dr St)))
   exact ⟨f9,(wi0 .i64 (I+(wi0 .i64 (g7+(wi0 .i64 (20*g4)))))),_,⟨rfl,f8⟩,(d.kA St),f6,rfl,f7,(by rw [f0]; exact a6)⟩
  refine LY 3 7 rfl rfl kr (.inl rfl) (.inl rfl) rfl rfl dc dc ?_ ?_
  ·refine lZ (cs:=b8.toArray) d (og rfl) (oE jV jK kj) (λi3 b3 d=>?_)
   let d8:Value:=(.slice (some ⟨b3,0,none⟩) 1 1)
   have n:=d.has.kA (Db (Kb Sn))
   refine ⟨n,(LY 4 7 rfl rfl kr (.inl rfl) (.inl rfl) rfl rfl dc dc ?_ ?_)⟩
   ·refine bS z λj5 e4 z=>Jw (args:=[(.slice none 0 0),d8]) d rfl call40 (by exact qT rfl rfl) (lC.nx (BG (.slice none 0 0) ([]) d8 ([a.Signed]) _ _ (Sl.nil _ _ _) ((mn.lit E2 (l:=[a.Signed]) (.cons (ys:=Vi a.Signed.kv.Kind a.Signed.kv.Head.kw a.Signed.kv.Head.Word a.Signed.kv.lO a.Signed.kv.B.kw a.Signed.kv.B.Word a.Signed.kv.C.kw a.Signed.kv.C.Word a.Signed.kv.mg t a.Signed.Tag.length u) (wB.mk ⟨g5,rfl,Q⟩) .nil) rfl nb rfl).sl E2 d.kC (λb o p=>(by rw [bO] at p; cases p; exact d.at_ Mh))) e4)) (λi4 d=>?_)
    have n:=d.has.kA (Db (Kb Sn))
    refine ⟨n,(XE 7 rfl (lZ (cs:=L.toArray) d (og rfl) (oE aN aH bR) (λi5 c0 d=>?_)))⟩
    have n:=d.has.kA (Db (Db (Kb Sn)))
    refine ⟨n,?_⟩
    obtain rfl:=sj z
    replace d:=d.I3
    refine rN kr (Z _ _ ⟨(.slice (some ⟨c0,0,none⟩) 1 1),[(c0,Ol L 30)],_,(d.kA (Sb (Pr (Pb Pz)) (Sb (Pr (Pb Pz)) (Kr (Db St))))),U,M,Y,P,A,rfl,rfl,rfl,(mn.lit kT (l:=[a.ky]) (.cons (ys:=C2 a.ky.Op a.ky.K a.ky.ku.kw a.ky.ku.Word g a.ky.Kids.length j) (kz.mk ⟨d9,rfl,T⟩) .nil) rfl nb rfl)⟩)
   ·refine lZ (cs:=L.toArray) d (og rfl) (oE aN aH bR) (λi6 c1 d=>?_)
    have n:=d.has.kA (Db (Db (Kb Sn)))
    refine ⟨n,(bS z λj6 e5 z=>XE 4 rfl (Eg d call40 (lC.nx (BG (.slice none 0 0) ([]) d8 ([a.Signed]) _ _ (Sl.nil _ _ _) ((mn.lit E2 (l:=[a.Signed]) (.cons (ys:=Vi a.Signed.kv.Kind a.Signed.kv.Head.kw a.Signed.kv.Head.Word a.Signed.kv.lO a.Signed.kv.B.kw a.Signed.kv.B.Word a.Signed.kv.C.kw a.Signed.kv.C.Word a.Signed.kv.mg t a.Signed.Tag.length u) (wB.mk ⟨g5,rfl,Q⟩) .nil) rfl nb rfl).sl E2 d.kC (λb o p=>(by rw [bO] at p; cases p; exact d.at_ (Mt Mh)))) e5)) (λi7 d=>?_)))⟩
    have n:=d.has.kA (Db (Db (Kb Sn)))
    refine ⟨n,?_⟩
    obtain rfl:=sj z
    replace d:=d.I3
    refine rN kr (Z _ _ ⟨(.slice (some ⟨c1,0,none⟩) 1 1),[(c1,Ol L 30)],_,(d.kA (Sb (Pr (Pb Pz)) (Sb (Pr (Pb Pz)) (Kr (Db St))))),U,M,Y,P,A,rfl,rfl,rfl,(mn.lit kT (l:=[a.ky]) (.cons (ys:=C2 a.ky.Op a.ky.K a.ky.ku.kw a.ky.ku.Word g a.ky.Kids.length j) (kz.mk ⟨d9,rfl,T⟩) .nil) rfl nb rfl)⟩)
  ·refine lZ (cs:=L.toArray) d (og rfl) (oE aN aH bR) (λi8 c3 d=>?_)
   have n:=d.has.kA (Db (Kb Sn))
   refine ⟨n,(XE 3 rfl (lZ (cs:=b8.toArray) d (og rfl) (oE jV jK kj) (λi9 f5 d=>?_)))⟩
   have n:=d.has.kA (Db (Db (Kb Sn)))
   refine ⟨n,(bS z λj7 e6 z=>XE 4 rfl (Eg d call40 (lC.nx (BG (.slice none 0 0) ([]) (.slice (some ⟨f5,0,none⟩) 1 1) ([a.Signed]) _ _ (Sl.nil _ _ _) ((mn.lit E2 (l:=[a.Signed]) (.cons (ys:=Vi a.Signed.kv.Kind a.Signed.kv.Head.kw a.Signed.kv.Head.Word a.Signed.kv.lO a.Signed.kv.B.kw a.Signed.kv.B.Word a.Signed.kv.C.kw a.Signed.kv.C.Word a.Signed.kv.mg t a.Signed.Tag.length u) (wB.mk ⟨g5,rfl,Q⟩) .nil) rfl nb rfl).sl E2 d.kC (λb o p=>(by rw [bO] at p; cases p; exact d.at_ Mh))) e6)) (λj0 d=>?_)))⟩
   have n:=d.has.kA (Db (Db (Kb Sn)))
   refine ⟨n,?_⟩
   obtain rfl:=sj z
   replace d:=d.perm (Nb (Pb Pz) Nz)
   replace d:=d.I3
   refine rN kr (Z _ _ ⟨(.slice (some ⟨c3,0,none⟩) 1 1),[(c3,Ol L 30)],_,(d.kA (Sb (Pr (Pb Pz)) (Sb (Pr (Pb Pz)) (Kr (Db St))))),U,M,Y,P,A,rfl,rfl,rfl,(mn.lit kT (l:=[a.ky]) (.cons (ys:=C2 a.ky.Op a.ky.K a.ky.ku.kw a.ky.ku.Word g a.ky.Kids.length j) (kz.mk ⟨d9,rfl,T⟩) .nil) rfl nb rfl)⟩)
 rintro E W ⟨I,b1,⟨A,P⟩,d,U,M,Y,H⟩
 rw [bo] at H
 refine kL (kM (sg (V (kN Fz U) (VB d Mh rfl rfl ko (V (nv dp rfl G) (Wm (ln ?_)))))))
 replace d:=d.kA (Db St)
 refine CJ H (λa7 E W=>∃b6,ST false mN w W (hp w) b6∧E 3=(.int .i64 a7)) (λa7 c8=>?_) ?_
 ·refine mV (λi E W=>∃K a2,(E 34= .int .i64 (i:Nat)∧E 33= .int .i64 (x.kQ.length:Nat))∧ST false mN w W (hp w) a2∧E 3=(.int .i64 K)∧E 32=(.slice A3 x.kQ.length c4)∧vd (x.kQ.drop i) K=some a7) x.kQ.length G.len ⟨I,_,⟨rfl,rfl⟩,(d.kA St),M,rfl,c8⟩ dc dc dc (λ_ _ _ h=>by obtain ⟨_,_,O,_⟩:=h; exact O) ?_ ?_
  ·rintro f1 E W c6 ⟨K,a2,⟨A,P⟩,d,a4,a5,k⟩
   obtain ⟨c,g8,d3,d2,d4⟩:=mC c6
   rw [d3] at k
   refine bg (VQ (nN (i:=(f1:Int)) (x0:=c) lH.out dp cW a5 A G (aX _) d2) (λh5 ⟨_,⟨h6,h7,rfl,a9,b0⟩,c9⟩=>V (kB rfl (lL d.has c9 eG cW)) (VE (ml d fR (λg9 h4 d=>?_)))))
   obtain ⟨B,D,rfl⟩:=a9.form
   let d6:=(C2 c.ky.Op c.ky.K c.ky.ku.kw c.ky.ku.Word B c.ky.Kids.length D)
   obtain ⟨a1,a3,rfl⟩:=b0.form
   let c5:=(C5 c.ku.kw c.ku.Word c.ky.Op c.ky.K c.ky.ku.kw c.ky.ku.Word B c.ky.Kids.length D a1 c.lT.length a3)
   refine VO (lA (.agg c5.toArray) (c5.toArray) d rfl rfl cW oc nb rfl (λh0 d=>ln ?_))
   replace d:=d.drew
   have n:=d.has.kA (Kb Sn)
   refine lU n li (X 0 rfl n (kD a4) (X 1 rfl n (kN Du rfl) (X 2 rfl n (kN yB rfl) (XH 3 rfl n (λ_ v=>kB rfl (lg v Mh rfl cN)) (X 4 rfl n (rU cO rfl) (X 5 rfl n (kN Du rfl) (X 6 rfl n (kN Ae rfl) (XH 7 rfl n (λ_ v=>kB rfl (lg v Mh rfl cN)) (X 8 rfl n (rU cO rfl) (X 9 rfl n (lY rfl rfl rfl) (X 10 rfl n (kN GW rfl) (XH 11 rfl n (λ_ v=>kB rfl (kI v Mh d6 rfl bL aH)) (X 16 rfl n (kN E5 rfl) (XH 17 rfl n (λ_ v=>kB rfl (lg v Mh rfl jA)) ?_))))))))))))))
   refine XE 12 rfl (lZ (cs:=d6.toArray) d (og rfl) (oE aN aH bR) (λh1 d7 d=>?_))
   have n:=d.has.kA (Db (Kb Sn))
   refine ⟨n,(bS k λf2 d0 k=>XE 13 rfl (Eg d call39 ((BX kY) (.slice (some ⟨d7,0,none⟩) 1 1) ([c.ky]) _ _ ((mn.lit kT (l:=[c.ky]) (.cons (ys:=C2 c.ky.Op c.ky.K c.ky.ku.kw c.ky.ku.Word B c.ky.Kids.length D) (kz.mk ⟨(.slice B c.ky.Kids.length D),rfl,a9⟩) .nil) rfl nb rfl).sl kT d.kC (λb o p=>(by rw [bO] at p; cases p; exact d.at_ Mh))) d0) (λh2 d=>?_)))⟩
   have n:=d.has.kA (Db (Kb Sn))
   refine ⟨n,(X 14 rfl n (lY rfl rfl rfl) (X 15 rfl n (lY rfl rfl rfl) (bS k λf3 d1 k=>XE 18 rfl (Eg d call108 (lC.nx (Ia (.slice a1 c.lT.length a3) c.lT _ _ (b0.mono (Pl.mono _) d.kC) d1)) (λh3 d=>?_)))))⟩
   have n:=d.has.kA (Db (Kb Sn))
   refine ⟨n,(X 19 rfl n (lY rfl rfl rfl) (X 20 rfl n (lY rfl rfl rfl) (X 21 rfl n (oe rfl) (lX kr (lG (kL ?_))))))⟩
   replace d:=d.kA (Db (Db St))
   exact ⟨A,(wi0 .i64 (K+(wi0 .i64 ((wi0 .i64 ((wi0 .i64 ((c.ku.kw.size:Int)+(c.ku.Word.size:Int)))+(wi0 .i64 (20*f2))))+f3)))),_,⟨rfl,P⟩,(d.kA St),rfl,a5,(by rw [d4]; exact k)⟩
  rintro E W ⟨K,a2,⟨A,P⟩,d,a4,a5,k⟩
  rw [bo] at k
  refine kL ?_
  obtain rfl:=sj k
  exact ⟨_,(d.kA St),a4⟩
 rintro h8 E W ⟨b6,d,e0⟩ c7
 exact sg (Wh e0 (Wa (lt (rQ c7 d))))
theorem Ou (a:mY) (B D x z y J:Value) (r:Int) (w:World) (t:Sl kX 15 (hp w) B a.kw.kE) (u:Sl lH 8 (hp w) D a.kw.kQ) (c:Sl kX 15 (hp w) x a.Client.kE) (i:Sl lH 8 (hp w) z a.Client.kQ) (g:Sl kz 5 (hp w) y a.Formula.Kids) (I:Sl qb 2 (hp w) J a.Keys) (hm:BW a=some r) :
  lC false pg0 11 [(.agg #[(.string a.kw.Name),B,D,(.string a.Client.Name),x,z,(.int .i64 a.Formula.Op),(.int .i64 a.Formula.K),(.string a.Formula.ku.kw),(.string a.Formula.ku.Word),y,(.int .i64 a.pj),(.int .i64 a.lP.pJ),(.int .i64 a.lP.pw),(.int .i64 a.mO),(.int .i64 a.nZ),(.int .i64 a.ny),J])] w (.int .i64 r):=by
 refine cG 20 func11 rfl (λd=>sg ?_)
 obtain ⟨A1,c2,rfl⟩:=t.form
 obtain ⟨A3,v,rfl⟩:=u.form
 let a3:=(C6 a.kw.Name A1 a.kw.kE.length c2 A3 a.kw.kQ.length v)
 obtain ⟨N,U,rfl⟩:=c.form
 let a5:Value:=(.slice N a.Client.kE.length U)
 obtain ⟨Q,Y,rfl⟩:=i.form
 let b8:Value:=(.slice Q a.Client.kQ.length Y)
 let a4:=(C6 a.Client.Name N a.Client.kE.length U Q a.Client.kQ.length Y)
 obtain ⟨G,k,rfl⟩:=g.form
 let L:Value:=(.slice G a.Formula.Kids.length k)
 let a0:=(C2 a.Formula.Op a.Formula.K a.Formula.ku.kw a.Formula.ku.Word G a.Formula.Kids.length k)
 obtain ⟨A,a2,rfl⟩:=I.form
 refine VE (lM d rfl (λe8 c7 d=>Wa (ln (kM ?_))))
 replace d:=d.drew
 have n:=d.has.kA (Kb Sn)
 refine lU n li (X 0 rfl n (kN yA rfl) (XH 1 rfl n (λ_ p=>kB rfl (kI p Mh a3 rfl dW dC)) (X 3 rfl n (kN wP rfl) (XH 4 rfl n (λ_ p=>kB rfl (kI p Mh a4 rfl dW dC)) (X 7 rfl n (kN I9 rfl) (XH 8 rfl n (λ_ p=>kB rfl (kI p Mh a0 rfl bL aH)) (X 13 rfl n (kN Mj rfl) (XH 14 rfl n (λ_ p=>kB rfl (lg p Mh rfl isAgg32)) (PJ hm (λZ E W=>∃M T O,ST false mN w W (hp w) ((c7,Ol (C1 a.kw.Name A1 a.kw.kE.length c2 A3 a.kw.kQ.length v a.Client.Name N a.Client.kE.length U Q a.Client.kQ.length Y a.Formula.Op a.Formula.K a.Formula.ku.kw a.Formula.ku.Word G a.Formula.Kids.length k a.pj a.lP.pJ a.lP.pw a.mO a.nZ a.ny A a.Keys.length a2) 34)::(T++O))∧E 2=(.int .i64 0)∧E 9=(.int .i64 Z.1)∧E 12=M∧E 17=(.slice A a.Keys.length a2)∧mn 30 kz 5 (hp w) M Z.2 T) (bm 18 25599) 6 ?_ (λZ j K=>?_))))))))))
 ·rintro ⟨e7,c5⟩ E W ⟨M,T,O,d,d9,c0,c1,c3,b9⟩ H
  refine bS H λe0 b1 H=>XE 10 rfl (Eg d call39 ((BX kY) M c5 _ _ (b9.sl kT d.kC (λb o hq=>d.at_ (Mt (Ml hq)))) b1) (λc9 d=>?_) (ha:=XD c1))
  have n:=d.has.kA (Kb Sn)
  refine ⟨n,(X 11 rfl n (lY rfl rfl rfl) (X 12 rfl n (lY c0 rfl rfl) (bS H λe1 b2 H=>XE 15 rfl (Eg d call40 (lC.nx (BG (.slice A a.Keys.length a2) a.Keys (.slice none 0 0) ([]) _ _ (I.mono ye.mono d.kC) (Sl.nil _ _ _) b2)) (λd0 d=>?_) (ha:=Zr c3 rfl)))))⟩
  have n:=d.has.kA (Kb Sn)
  refine ⟨n,(X 16 rfl n (lY rfl rfl rfl) (X 17 rfl n (oe rfl) (lX kr (kL ?_))))⟩
  exact lJ (rQ H d)
 refine LY 2 9 rfl rfl kr (.inl rfl) (.inl rfl) rfl rfl dc dc ?_ ?_
 ·refine bS j λe2 b3 j=>Jw (args:=[(.agg a3.toArray)]) d rfl call38 (by exact pR rfl) (zk a.kw (.slice A1 a.kw.kE.length c2) (.slice A3 a.kw.kQ.length v) _ _ (t.mono kZ.mono d.kC) (u.mono mB.mono d.kC) b3) (λd1 d=>?_)
  have n:=d.has.kA (Kb Sn)
  refine ⟨n,(LY 5 9 rfl rfl kr (.inl rfl) (.inl rfl) rfl rfl dc dc ?_ ?_)⟩
  ·refine bS j λe3 b4 j=>Jw (args:=[(.agg a4.toArray)]) d rfl call38 (by exact pR rfl) (zk a.Client a5 b8 _ _ (c.mono kZ.mono d.kC) (i.mono mB.mono d.kC) b4) (λd2 d=>?_)
   have n:=d.has.kA (Kb Sn)
   refine ⟨n,(X 6 rfl n (lY rfl rfl rfl) (XE 9 rfl (lZ (cs:=a0.toArray) d (og rfl) (oE aN aH bR) (λd3 P d=>?_))))⟩
   have n:=d.has.kA (Db (Kb Sn))
   refine ⟨n,?_⟩
   obtain rfl:=sj j
   replace d:=d.I3
   refine rN kr (K _ _ ⟨(.slice (some ⟨P,0,none⟩) 1 1),[(P,Ol a0 30)],_,(d.kA (Sb (Pr Pz) St)),rfl,rfl,rfl,rfl,(mn.lit kT (l:=[a.Formula]) (.cons (ys:=C2 a.Formula.Op a.Formula.K a.Formula.ku.kw a.Formula.ku.Word G a.Formula.Kids.length k) (kz.mk ⟨L,rfl,g⟩) .nil) rfl nb rfl)⟩)
  ·refine lZ (cs:=a0.toArray) d (og rfl) (oE aN aH bR) (λd4 a9 d=>?_)
   have n:=d.has.kA (Db (Kb Sn))
   refine ⟨n,(bS j λe4 b5 j=>XE 5 rfl (Eg d call38 (zk a.Client a5 b8 _ _ (c.mono kZ.mono d.kC) (i.mono mB.mono d.kC) b5) (λd5 d=>?_)))⟩
   have n:=d.has.kA (Db (Kb Sn))
   refine ⟨n,(X 6 rfl n (lY rfl rfl rfl) ?_)⟩
   obtain rfl:=sj j
   replace d:=d.I3
   refine rN kr (K _ _ ⟨(.slice (some ⟨a9,0,none⟩) 1 1),[(a9,Ol a0 30)],_,(d.kA (Sb (Pr Pz) St)),rfl,rfl,rfl,rfl,(mn.lit kT (l:=[a.Formula]) (.cons (ys:=C2 a.Formula.Op a.Formula.K a.Formula.ku.kw a.Formula.ku.Word G a.Formula.Kids.length k) (kz.mk ⟨L,rfl,g⟩) .nil) rfl nb rfl)⟩)
 ·refine lZ (cs:=a0.toArray) d (og rfl) (oE aN aH bR) (λd6 R d=>?_)
  have n:=d.has.kA (Db (Kb Sn))
  refine ⟨n,(bS j λe5 b6 j=>XE 2 rfl (Eg d call38 (zk a.kw (.slice A1 a.kw.kE.length c2) (.slice A3 a.kw.kQ.length v) _ _ (t.mono kZ.mono d.kC) (u.mono mB.mono d.kC) b6) (λd7 d=>?_)))⟩
  have n:=d.has.kA (Db (Kb Sn))
  refine ⟨n,(bS j λe6 b7 j=>XE 5 rfl (Eg d call38 (zk a.Client a5 b8 _ _ (c.mono kZ.mono d.kC) (i.mono mB.mono d.kC) b7) (λd8 d=>?_)))⟩
  have n:=d.has.kA (Db (Kb Sn))
  refine ⟨n,(X 6 rfl n (lY rfl rfl rfl) ?_)⟩
  obtain rfl:=sj j
  replace d:=d.I3
  refine rN kr (K _ _ ⟨(.slice (some ⟨R,0,none⟩) 1 1),[(R,Ol a0 30)],_,(d.kA (Sb (Pr Pz) St)),rfl,rfl,rfl,rfl,(mn.lit kT (l:=[a.Formula]) (.cons (ys:=C2 a.Formula.Op a.Formula.K a.Formula.ku.kw a.Formula.ku.Word G a.Formula.Kids.length k) (kz.mk ⟨L,rfl,g⟩) .nil) rfl nb rfl)⟩)
theorem ET (a:Value) (g:List mr) (c:Value) (i:mr→Option Bool) (r:Bool) (w:World) (j:Sl lH 8 (hp w) a g) (k:vL pg0 c (hp w) (re lH) (λ(r:Bool)=>(.bool r)) i) (hm:tW g i=some r) :
  lC false pg0 203 [a,c] w (.bool r):=by
 refine cG 9 func203 rfl (λd=>sg (Wa (lr (Wm (Wm (bS hm λx t hm=>VE (Eg d call147 (yd a g c i _ _ (j.mono mB.mono d.kC) (k.mono d.kC) t) (λu d=>Wi rfl (Wa (lu ?_))))))))))
 exact kL (lJ (rQ hm d))
theorem LA (c:mr) (a i:Value) (r:Bool) (w:World) (j:Sl kz 5 (hp w) a c.ky.Kids) (g:Sl (Pl kF) 9 (hp w) i c.lT) (hm:zN c=some r) :
  lC true pg0 204 [(.agg #[(.string c.ku.kw),(.string c.ku.Word),(.int .i64 c.ky.Op),(.int .i64 c.ky.K),(.string c.ky.ku.kw),(.string c.ky.ku.Word),a,i])] w (.bool r):=by
 refine cG 7 func204 rfl (λd=>sg ?_)
 obtain ⟨k,u,rfl⟩:=j.form
 obtain ⟨t,x,rfl⟩:=g.form
 refine VE (lM d rfl (λy z d=>Wa (lr (Wf E5 (VB d Mh rfl rfl jA (V (nv bJ rfl g) (Wi rfl (Wa (ln ?_)))))))))
 exact lJ (rQ hm d)
theorem Pu (u:lB) (k t:Value) (r:Bool) (w:World) (j:Sl kX 15 (hp w) k u.kE) (c:Sl lH 8 (hp w) t u.kQ) (hm:CX u=some r) :
  lC false pg0 132 [(.agg #[(.string u.Name),k,t])] w (.bool r):=by
 refine cG 18 func132 rfl (λd=>sg ?_)
 obtain ⟨T,Z,rfl⟩:=j.form
 obtain ⟨J,K,rfl⟩:=c.form
 refine VE (lM d rfl (λW6 Y d=>Wa (lr (Wf uh (VB d Mh rfl rfl gE (V (nv dm rfl j) (Wi rfl (Wm (LJ hm (λI E W=>∃U,ST false mN w W (hp w) ((Y,Ol (C6 u.Name T u.kE.length Z J u.kQ.length K) 25)::U)∧E 1=(.pointer (some ⟨Y,0,none⟩))∧E 2=(.bool false)∧E 12=(.bool I)) 5 ?_ (λI y B=>?_))))))))))
 ·rintro x8 E W ⟨U,d,n,G,a2⟩ M
  refine Wh a2 (LJ M (λH E W=>∃D,ST false mN w W (hp w) D∧E 2=(.bool false)∧E 17=(.bool H)) 4 ?_ (λH i z=>?_))
  ·rintro b0 E W ⟨D,d,R,a3⟩ N
   exact Wg a3 (lt (rQ N d))
  refine bC i (λa i=>?_) (λa i=>?_)
  ·refine un a (un a (un a (V (lK (cB a) rfl) ?_)))
   obtain rfl:=sj i
   exact z _ _ ⟨_,(d.kA (Db St)),G,rfl⟩
  refine ug a (kN Fz n) (ug a (kB rfl (lg d.has Mh rfl ko)) (bS i λa9 Q i=>ue a (Eg d call203 (ET (.slice J u.kQ.length K) u.kQ (.func (.func 204) #[] #[]) (λ(x:mr)=>zN x) _ _ (c.mono mB.mono d.kC) ⟨204,#[],#[],rfl,call204,λW x vs r hs p hm=>by obtain ⟨_,rfl,a4⟩:=p; obtain ⟨L,O,rfl,v,A⟩:=a4.out; exact (LA x L O r W v A hm).nx⟩ Q) (λP d=>V (lN (cB a) rfl) ?_))))
  obtain rfl:=sj i
  exact z _ _ ⟨_,(d.kA (Db St)),G,rfl⟩
 refine bC y (λg y=>?_) (λg y=>?_)
 ·refine un g (un g (un g (un g (V (lK (cB g) rfl) ?_))))
  obtain rfl:=sj y
  exact B _ _ ⟨_,(d.kA St),rfl,rfl,rfl⟩
 refine ug g (kN Fz rfl) (ug g (kB rfl (lg d.has Mh rfl ko)) (ug g (nv dp rfl c) (ug g (lY rfl rfl rfl) (V (lN (cB g) rfl) ?_))))
 obtain rfl:=sj y
 exact B _ _ ⟨_,(d.kA St),rfl,rfl,rfl⟩
theorem Hj (a:Value) (g:List kv) (r:Bool) (w:World) (c:Sl (Pl kF) 9 (hp w) a g) (hm:yD g=some r) :
  lC false pg0 205 [a] w (.bool r):=by
 refine cG 7 func205 rfl (λd=>sg (Wa (lr (Wm (bS hm λu t hm=>VE (Ct d call125 (LG a g _ _ (c.mono (Pl.mono _) d.kC) t) (λD x G B d i n k=>Wm (bS hm λz j hm=>VE (Eg d call58 (lC.nx (xh x u a g _ _ (k.sl mR (λb o p=>d.at_ (Ml p))) (c.mono (Pl.mono _) (i.trans d.kC)) j)) (λy d=>Wa ?_))))))))))
 refine ln ?_
 exact lJ (rQ hm d)
theorem Od (z:lB) (x B:Value) (r:Bool) (w:World) (g:Sl kX 15 (hp w) x z.kE) (M:Sl lH 8 (hp w) B z.kQ) (hm:Ev z=some r) :
  lC false pg0 133 [(.agg #[(.string z.Name),x,B])] w (.bool r):=by
 refine cG 33 func133 rfl (λd=>sg ?_)
 obtain ⟨A1,c2,rfl⟩:=g.form
 obtain ⟨A3,c4,rfl⟩:=M.form
 refine VE (lM d rfl (λW6 b5 d=>Wa (lr (Wa (lS (Wf uh (VB d Mh rfl rfl gE (V (nv dm rfl g) ?_))))))))
 refine Wm (ln ?_)
 replace d:=d.kA (Db St)
 refine mV (λi E W=>∃u H y T,(E 9= .int .i64 (i:Nat)∧E 8= .int .i64 (z.kE.length:Nat))∧ST false mN w W (hp w) (y++T)∧E 3=u∧E 7=(.slice A1 z.kE.length c2)∧lh 52 kF 9 u H y∧uN (z.kE.drop i) H=some r) z.kE.length g.len ⟨(.slice none 0 0),([]),[],_,⟨rfl,rfl⟩,(d.kA St),rfl,rfl,(lh.nil _ _ _),hm⟩ dc dc dc (λ_ _ _ h=>by obtain ⟨_,_,_,_,p,_⟩:=h; exact p) ?_ ?_
 ·rintro a3 E W a8 ⟨u,H,y,T,⟨n,A⟩,d,I,J,K,j⟩
  obtain ⟨a,d1,b3,b2,b4⟩:=mC a8
  rw [b3] at j
  refine bg (VQ (nN (i:=(a3:Int)) (x0:=a) kX.out dm cY J n g (aX _) b2) (λe0 ⟨_,⟨e3,e4,rfl,Y,Z⟩,a9⟩=>V (kB rfl (lL d.has a9 eJ cY)) (VE (ml d eA (λd3 a2 d=>?_)))))
  obtain ⟨Q,U,rfl⟩:=Y.form
  obtain ⟨D,G,rfl⟩:=Z.form
  let a0:=(C3 a.Signed.kv.Kind a.Signed.kv.Head.kw a.Signed.kv.Head.Word a.Signed.kv.lO a.Signed.kv.B.kw a.Signed.kv.B.Word a.Signed.kv.C.kw a.Signed.kv.C.Word a.Signed.kv.mg Q a.Signed.Tag.length U a.ky.Op a.ky.K a.ky.ku.kw a.ky.ku.Word D a.ky.Kids.length G)
  refine VO (lA (.agg a0.toArray) (a0.toArray) d rfl rfl cY oc nb rfl (λd4 d=>lS (Wf Au (Wf LV (VB d Mh rfl rfl gC (V (nv dz rfl Y) (Wi rfl (Wm (LJ j (λa4 E W=>∃L,ST false mN w W (hp w) ((a2,Ol a0 57)::(y++L))∧E 3=u∧E 5=(.pointer (some ⟨a2,0,none⟩))∧E 7=(.slice A1 z.kE.length c2)∧E 8=(.int .i64 (z.kE.length:Int))∧E 9=(.int .i64 (a3:Int))∧E 23=(.bool a4)) 5 ?_ (λa4 t N=>?_))))))))))
  ·rintro e5 E W ⟨L,d,c1,c3,c5,c6,c7,c8⟩ k
   refine ln (CI k c8 (λO k=>?_) (λO k=>?_))
   ·refine sg (Wa (ln ?_))
    replace d:=d.kA (Db (Dr St))
    refine lJ (mL (pO (mL (pO (mL ?_)))))
    obtain rfl:=sj k
    exact rP d
   refine kn (kK (Wh c1 (V (kN Au c3) (Wf D5 (VA d Mh (kF a.Signed.kv) cU bE (VE (lZ (cs:=(kF a.Signed.kv).toArray) d (og rfl) (oE bJ bE dU) (λd5 b9 d=>?_))))))))
   replace d:=d.perm (Nr (Qb (Qb Qz)) Nz)
   refine bS k λc9 P k=>VE (qF (enc:=kF) (v:=u) (vs:=(.slice (some ⟨b9,0,none⟩) 1 1)) (R:=y) d mR dc su bJ rH.1 rH.2.1 rfl rH.2.2.1 rH.2.2.2 rfl rfl K (Sl.lit (enc:=kF) (l:=[a.Signed.kv]) mR rfl nb rfl (d.at_ (Ma Mh))) P (λd6 d0 b7 d a5=>Wa (lu (lG (kL ?_)))))
   replace d:=d.kA (Kr (Db (Db St)))
   exact ⟨c7,d0,c9,b7,_,⟨rfl,c6⟩,(d.kA St),rfl,c5,a5,(by rw [b4]; exact k)⟩
  refine bC t (λc t=>?_) (λc t=>?_)
  ·refine un c (un c (un c (un c (V (lK (cB c) rfl) ?_))))
   obtain rfl:=sj t
   exact N _ _ ⟨_,(d.kA St),I,rfl,J,A,n,rfl⟩
  refine ug c (kN I8 rfl) (ug c (kB rfl (kI d.has Mh (C2 a.ky.Op a.ky.K a.ky.ku.kw a.ky.ku.Word D a.ky.Kids.length G) rfl bL aH)) (bS t λe1 b0 t=>ue c (Eg d kp (uf a.ky (.slice D a.ky.Kids.length G) _ _ (Z.mono kT.mono d.kC) b0) (λd7 d=>ug c (oF rfl) (V (lN (cB c) rfl) ?_)))))
  obtain rfl:=sj t
  exact N _ _ ⟨_,(d.kA St),I,rfl,J,A,n,rfl⟩
 rintro E W ⟨u,H,y,T,⟨n,A⟩,d,I,J,K,j⟩
 rw [bo] at j
 refine kL (sg (Wh I (bS j λe2 b1 j=>VE (Eg d call205 (Hj u H _ _ (K.sl mR (λb o hq=>d.at_ (Ml hq))) b1) (λd8 d=>Wa (ln ?_))))))
 exact lJ (rQ j d)
theorem Qy (x:Value) (T:List mr) (r:Bool) (w:World) (A:Sl lH 8 (hp w) x T) (hm:Ff T=some r) :
  lC false pg0 134 [x] w (.bool r):=by
 refine cG 45 func134 rfl (λn=>sg (Wa (lS (Wm (V (nv dp rfl A) (Wm (ln (mV (λi E W=>∃a2,(E 7= .int .i64 (i:Nat)∧E 6= .int .i64 (T.length:Nat))∧ST false mN w W (hp w) a2∧E 0=x∧E 5=x∧vS T (T.drop i) i=some r) T.length A.len ⟨_,⟨rfl,rfl⟩,(n.kA St),rfl,rfl,hm⟩ dc dc dc (λ_ _ _ h=>by obtain ⟨_,P,_⟩:=h; exact P) ?_ ?_))))))))
 ·rintro G E W c9 ⟨a2,⟨v,R⟩,n,a3,N,t⟩
  obtain ⟨a,g0,e1,e0,e2⟩:=mC c9
  rw [e1] at t
  refine bg (Wh v (VQ (nN (i:=(G:Int)) (x0:=a) lH.out dp cW N v A (aX _) e0) (λg9 ⟨_,⟨h6,h7,rfl,b0,b1⟩,d3⟩=>V (kB rfl (lL n.has d3 eG cW)) (VE (ml n fR (λg1 M n=>Wa ?_))))))
  let g5:Value:=(.int .i64 (T.length:Int))
  let b8:Value:=(.int .i64 (G:Int))
  obtain ⟨B,D,rfl⟩:=b0.form
  obtain ⟨H,I,rfl⟩:=b1.form
  let a0:=(C5 a.ku.kw a.ku.Word a.ky.Op a.ky.K a.ky.ku.kw a.ky.ku.Word B a.ky.Kids.length D H a.lT.length I)
  refine VO (lA (.agg a0.toArray) (a0.toArray) n rfl rfl cW oc nb rfl (λg2 n=>ln (kM ?_)))
  replace n:=n.drew
  have d:=n.has.kA (Kb Sn)
  refine lU d li (X 0 rfl d (kN Du rfl) (XH 1 rfl d (λ_ p=>kB rfl (kI p Mh (kJ a.ku) rfl bZ bF)) (bS t λh2 d6 t=>XE 2 rfl (Eg n jS (lC.nx (vH a.ku _ _  d6)) (λg3 n=>?_)))))
  have d:=n.has.kA (Kb Sn)
  refine ⟨d,(X 3 rfl d (oF rfl) (X 4 rfl d (kD rfl) (PJ t (λc7 E W=>∃b3,ST false mN w W (hp w) ((M,Ol a0 132)::b3)∧E 0=x∧E 3=b8∧E 4=(.pointer (some ⟨M,0,none⟩))∧E 5=x∧E 6=g5∧E 7=b8∧E 21=(.bool c7)) (bm 32 1023) 22 ?_ (λc7 z a1=>?_))))⟩
  ·rintro i0 E W ⟨b3,n,b7,b9,a4,c0,c1,c2,e3⟩ d0
   have d:=n.has.kA (Kb Sn)
   refine X 10 rfl d (kD e3) (PJ d0 (λc6 E W=>∃b4,ST false mN w W (hp w) ((M,Ol a0 132)::b4)∧E 0=x∧E 3=b8∧E 4=(.pointer (some ⟨M,0,none⟩))∧E 5=x∧E 6=g5∧E 7=b8∧E 27=(.bool c6)) (bm 32 65535) 16 ?_ (λc6 y Z=>?_))
   ·rintro f7 E W ⟨b4,n,Q,c3,e4,a5,L,O,e5⟩ d1
    have d:=n.has.kA (Kb Sn)
    refine X 16 rfl d (kD e5) (PJ d1 (λc4 E W=>∃b5,ST false mN w W (hp w) ((M,Ol a0 132)::b5)∧E 0=x∧E 5=x∧E 6=g5∧E 7=b8∧E 43=(.bool c4)) (bm 32 4294967295) 0 ?_ (λc4 K U=>?_))
    ·rintro i1 E W ⟨b5,n,e6,e7,e8,e9,f0⟩ J
     refine lX kr (kL ?_)
     replace n:=n.kA (Db St)
     refine CI J f0 (λc8 J=>?_) (λc8 J=>?_)
     ·refine sg (Wa (lt (pO (mL (pO (mL ?_))))))
      obtain rfl:=sj J
      exact rP n
     exact nf (lG (kL ⟨e9,_,⟨rfl,e8⟩,(n.kA St),e6,e7,(by rw [e2]; exact J)⟩))
    refine bC K (λg K=>?_) (λg K=>?_)
    ·refine Xn 17 rfl rfl (cB g) d (Xn 18 rfl rfl (cB g) d (Xn 19 rfl rfl (cB g) d (Xu 20 rfl rfl rfl d (Xu 21 rfl rfl rfl d (Xu 22 rfl rfl rfl d (Xu 23 rfl rfl rfl d (Xu 24 rfl rfl rfl d (Xu 25 rfl rfl rfl d (Xu 26 rfl rfl rfl d (Xu 27 rfl rfl rfl d (Xu 28 rfl rfl rfl d (Xu 29 rfl rfl rfl d (Xn 30 rfl rfl (cB g) d (X 31 rfl d (lK (cB g) rfl) ?_))))))))))))))
     obtain rfl:=sj K
     refine rN kr (U _ _ ⟨_,(n.kA St),Q,a5,L,O,rfl⟩)
    refine Xg 17 rfl rfl (cB g) d (kD c3) (Xg 18 rfl rfl (cB g) d (lY rfl rfl rfl) (Xg 19 rfl rfl (cB g) d (kD rfl) (PJ K (λc5 E W=>∃b6,ST false mN w W (hp w) ((M,Ol a0 132)::b6)∧E 0=x∧E 5=x∧E 6=g5∧E 7=b8∧E 28=(.bool f7)∧E 42=(.bool c5)) (bm 32 2147483647) 1 ?_ (λc5 u Y=>?_))))
    ·rintro i2 E W ⟨b6,n,f1,f2,f3,f4,f5,f6⟩ d2
     have d:=n.has.kA (Kb Sn)
     refine X 31 rfl d (lN (f5.trans (cB g)) f6) ?_
     obtain rfl:=sj d2
     refine rN kr (U _ _ ⟨_,(n.kA St),f1,f2,f3,f4,rfl⟩)
    refine bC u (λc u=>?_) (λc u=>?_)
    ·refine Xg 20 rfl rfl (cB c) d (kD Q) (Xg 21 rfl rfl (cB c) d (kD c3) (Xg 22 rfl rfl (cB c) d (lY rfl rfl rfl) (bS u λa9 b2 u=>oM 23 rfl kr (.inr ⟨19,true,31,rfl,rfl,by decide,(cB c)⟩) rfl dc (λ_ _ h=>h) d (nN (i:=(wi0 .i64 ((G:Int)-1))) (x0:=a9) lH.out dp cW rfl rfl A (kW b2) (kO b2)) (λh0 ⟨_,⟨h8,h9,rfl,f8,f9⟩,d4⟩=>oM 24 rfl kr (.inr ⟨19,true,31,rfl,rfl,by decide,(cB c)⟩) rfl dc (λ_ _ h=>h) d (Em (kJ a9.ku) Du rfl d4 rfl) (λh1 d5=>Aj 25 rfl rfl (cB c) d (λ_ p=>kB rfl (lL p d5 bZ bF)) (Xg 26 rfl rfl (cB c) d (kN Du e4) (Aj 27 rfl rfl (cB c) d (λ_ p=>kB rfl (kI p Mh (kJ a.ku) rfl bZ bF)) (bS u λh3 d7 u=>Mf 28 rfl rfl (cB c) (Eg n call83 (lC.nx (Dn a9.ku a.ku _ _  d7)) (λg4 n=>?_))))))))))
     have d:=n.has.kA (Kb Sn)
     refine ⟨d,(Xg 29 rfl rfl (cB c) d (lY rfl rfl rfl) (Xg 30 rfl rfl (cB g) d (lK (cB c) rfl) ?_))⟩
     obtain rfl:=sj u
     refine rN kr (Y _ _ ⟨_,(n.kA St),Q,a5,L,O,rfl,rfl⟩)
    refine Xn 20 rfl rfl (cB c) d (Xn 21 rfl rfl (cB c) d (Xn 22 rfl rfl (cB c) d (Xn 23 rfl rfl (cB c) d (Xn 24 rfl rfl (cB c) d (Xn 25 rfl rfl (cB c) d (Xn 26 rfl rfl (cB c) d (Xn 27 rfl rfl (cB c) d (Xn 28 rfl rfl (cB c) d (Xn 29 rfl rfl (cB c) d (Xg 30 rfl rfl (cB g) d (lN (cB c) rfl) ?_))))))))))
    obtain rfl:=sj u
    refine rN kr (Y _ _ ⟨_,(n.kA St),Q,a5,L,O,rfl,rfl⟩)
   refine bC y (λk y=>?_) (λk y=>?_)
   ·refine Xn 11 rfl rfl (cB k) d (Xn 12 rfl rfl (cB k) d (Xn 13 rfl rfl (cB k) d (Xn 14 rfl rfl (cB k) d (X 15 rfl d (lK (cB k) rfl) ?_))))
    obtain rfl:=sj y
    refine rN kr (Z _ _ ⟨_,(n.kA St),b7,b9,a4,c0,c1,c2,rfl⟩)
   refine Xg 11 rfl rfl (cB k) d (kN E5 a4) (Aj 12 rfl rfl (cB k) d (λ_ p=>kB rfl (lg p Mh rfl jA)) (bS y λh4 d8 y=>Mf 13 rfl rfl (cB k) (Eg n call205 (Hj (.slice H a.lT.length I) a.lT _ _ (b1.mono (Pl.mono _) n.kC) d8) (λg7 n=>?_))))
   have d:=n.has.kA (Kb Sn)
   refine ⟨d,(Xg 14 rfl rfl (cB k) d (oF rfl) (X 15 rfl d (lN (cB k) rfl) ?_))⟩
   obtain rfl:=sj y
   refine rN kr (Z _ _ ⟨_,(n.kA St),b7,b9,a4,c0,c1,c2,rfl⟩)
  refine bC z (λj z=>?_) (λj z=>?_)
  ·refine Xn 5 rfl rfl (cB j) d (Xn 6 rfl rfl (cB j) d (Xn 7 rfl rfl (cB j) d (Xn 8 rfl rfl (cB j) d (X 9 rfl d (lK (cB j) rfl) ?_))))
   obtain rfl:=sj z
   refine rN kr (a1 _ _ ⟨_,(n.kA St),a3,rfl,rfl,N,R,v,rfl⟩)
  refine Xg 5 rfl rfl (cB j) d (kN GW rfl) (Aj 6 rfl rfl (cB j) d (λ_ p=>kB rfl (kI p Mh (C2 a.ky.Op a.ky.K a.ky.ku.kw a.ky.ku.Word B a.ky.Kids.length D) rfl bL aH)) (bS z λh5 d9 z=>Mf 7 rfl rfl (cB j) (Eg n kp (uf a.ky (.slice B a.ky.Kids.length D) _ _ (b0.mono kT.mono n.kC) d9) (λg8 n=>?_))))
  have d:=n.has.kA (Kb Sn)
  refine ⟨d,(Xg 8 rfl rfl (cB j) d (oF rfl) (X 9 rfl d (lN (cB j) rfl) ?_))⟩
  obtain rfl:=sj z
  refine rN kr (a1 _ _ ⟨_,(n.kA St),a3,rfl,rfl,N,R,v,rfl⟩)
 rintro E W ⟨a2,⟨v,R⟩,n,a3,N,t⟩
 rw [bo] at t
 exact kL (sg (Wa (lt (rQ t n))))
theorem Dd (a:Value) (g:List kU) (c:Value) (i:kU→Option Bool) (r:Bool) (w:World) (j:Sl kX 15 (hp w) a g) (k:vL pg0 c (hp w) (re kX) (λ(r:Bool)=>(.bool r)) i) (hm:rO g i=some r) :
  lC false pg0 207 [a,c] w (.bool r):=by
 refine cG 9 func207 rfl (λd=>sg (Wa (lr (Wm (Wm (bS hm λx t hm=>VE (Eg d call142 (vU a g c i _ _ (j.mono kZ.mono d.kC) (k.mono d.kC) t) (λu d=>Wi rfl (Wa (lu ?_))))))))))
 exact kL (lJ (rQ hm d))
theorem JQ (a:kU) (g c:Value) (H:Nat) (y:ByteArray) (i:Value) (t:List kU) (j:Value) (x:List mr) (r:Bool) (w:World) (u:Sl (Pl (mh .u8)) 1 (hp w) g a.Signed.Tag) (k:Sl kz 5 (hp w) c a.ky.Kids) (B:Sl kX 15 (hp w) i t) (D:Sl lH 8 (hp w) j x) (I:At (hp w) (.pointer (some ⟨H,0,none⟩)) [(.string y),i,j]) (hm:ym a y t x=some r) :
  lC false pg0 208 [(.agg #[(.int .i64 a.Signed.kv.Kind),(.string a.Signed.kv.Head.kw),(.string a.Signed.kv.Head.Word),(.string a.Signed.kv.lO),(.string a.Signed.kv.B.kw),(.string a.Signed.kv.B.Word),(.string a.Signed.kv.C.kw),(.string a.Signed.kv.C.Word),(.string a.Signed.kv.mg),g,(.int .i64 a.ky.Op),(.int .i64 a.ky.K),(.string a.ky.ku.kw),(.string a.ky.ku.Word),c]),(.pointer (some ⟨H,0,none⟩))] w (.bool r):=by
 refine cG 16 func208 rfl (λd=>sg ?_)
 obtain ⟨U,Z,rfl⟩:=u.form
 obtain ⟨Y,M,rfl⟩:=k.form
 refine VE (lM d rfl (λW6 L d=>Wa (lr (V (kB rfl (lL d.has I dW dC)) (Wf Au (Wf D5 (VA d Mh (kF a.Signed.kv) cU bE (bS hm λz Q hm=>?_))))))))
 refine VE (eD d (cM _) call124 (λp=>(Mg (⟨y,t,x⟩:lB) i j a.Signed.kv _ _ p (B.mono kZ.mono (lx.refl _)) (D.mono mB.mono (lx.refl _)) Q)) ?_ (L0:=[]))
 rintro _ v E a2 d T n ⟨A,G,rfl,N⟩
 obtain rfl:=G.symm
 refine Wm (Wx rfl (Wx rfl (VE (ml d bR (λa3 a5 d=>?_)))))
 obtain ⟨J,K,rfl⟩:=N.form
 refine VO (lA (.agg #[(.int .i64 ((z.1).Op)),(.int .i64 ((z.1).K)),(.string (((z.1).ku).kw)),(.string (((z.1).ku).Word)),(.slice J ((z.1).Kids).length K)]) (#[(.int .i64 ((z.1).Op)),(.int .i64 ((z.1).K)),(.string (((z.1).ku).kw)),(.string (((z.1).ku).Word)),(.slice J ((z.1).Kids).length K)]) d rfl rfl aH oc nb rfl (λa4 d=>Wa (ln ?_)))
 replace d:=d.kA (Db (Db St))
 exact sg (Wm (Wi rfl (Wa (lt (rQ hm d)))))
theorem M7 (c:lB) (g j:Value) (r:Bool) (w:World) (a:Sl kX 15 (hp w) g c.kE) (i:Sl lH 8 (hp w) j c.kQ) (hm:AH c=some r) :
  lC false pg0 135 [(.agg #[(.string c.Name),g,j])] w (.bool r):=by
 refine cG 8 func135 rfl (λd=>sg ?_)
 obtain ⟨k,u,rfl⟩:=a.form
 obtain ⟨y,z,rfl⟩:=i.form
 refine VE (lM d rfl (λI t d=>Wa (lr (Wf uh (VB d Mh rfl rfl gE (V (qR (by exact pR rfl) rfl) (bS hm λK D hm=>VE (Eg d call207 (Dd (.slice k c.kE.length u) c.kE (.func (.func 208) #[] #[(.pointer (some ⟨t,0,none⟩))]) (λ(x:kU)=>ym x c.Name c.kE c.kQ) _ _ (a.mono kZ.mono d.kC) ⟨208,#[],#[(.pointer (some ⟨t,0,none⟩))],rfl,call208,λW x vs r n p hm=>by obtain ⟨_,rfl,B⟩:=p; obtain ⟨G,H,rfl,v,A⟩:=B.out; exact JQ x G H t c.Name (.slice k c.kE.length u) c.kE (.slice y c.kQ.length z) c.kQ r W v A (a.mono kZ.mono (d.kC.trans n)) (i.mono mB.mono (d.kC.trans n)) (At.of (n _ _ (d.at_ Mh)) _ rfl) hm⟩ D) (λJ d=>V (oF rfl) (Wa (ln ?_)))))))))))
 exact lJ (rQ hm d)
theorem H2 (a:lB) (u x:Value) (r:Int) (w:World) (g:Sl kX 15 (hp w) u a.kE) (c:Sl lH 8 (hp w) x a.kQ) (hm:zi a=some r) :
  lC false pg0 59 [(.agg #[(.string a.Name),u,x])] w (.int .i64 r):=by
 refine cG 26 func59 rfl (λd=>sg ?_)
 obtain ⟨D,G,rfl⟩:=g.form
 let b8:Value:=(.slice D a.kE.length G)
 obtain ⟨z,B,rfl⟩:=c.form
 let a4:Value:=(.slice z a.kQ.length B)
 let a0:=(C6 a.Name D a.kE.length G z a.kQ.length B)
 refine VE (lM d rfl (λW6 n d=>Wa (ln (kM (bg (Wf Ec (VB d Mh rfl rfl cN (bS hm λr7 L hm=>VE (Eg d call93 (lC.nx (yo a.Name _ _  L)) (λW9 d=>V (oF rfl) (Wa (lu ?_))))))))))))
 refine kL (CI hm rfl (λQ hm=>?_) (λQ hm=>?_))
 ·refine sg (Wa (ln ?_))
  replace d:=d.kA (Db St)
  refine lJ (pO (mL ?_))
  obtain rfl:=sj hm
  exact rP d
 refine sg (VA d Mh a0 dW dC (bS hm λb3 Z hm=>VE (Eg d call132 (Pu a b8 a4 _ _ (g.mono kZ.mono d.kC) (c.mono mB.mono d.kC) Z) (λa9 d=>Wa (ln (CI hm rfl (λT hm=>?_) (λT hm=>?_)))))))
 ·refine sg (Wa (ln ?_))
  replace d:=d.kA (Db St)
  refine lJ (pO (mL ?_))
  obtain rfl:=sj hm
  exact rP d
 refine sg (VA d Mh a0 dW dC (bS hm λb4 p hm=>VE (Eg d call133 (Od a b8 a4 _ _ (g.mono kZ.mono d.kC) (c.mono mB.mono d.kC) p) (λO d=>V (oF rfl) (Wm (LJ hm (λN E W=>∃J,ST false mN w W (hp w) ((n,Ol a0 25)::J)∧E 1=(.pointer (some ⟨n,0,none⟩))∧E 20=(.bool N)) 5 ?_ (λN t I=>?_)))))))
 ·rintro b9 E W ⟨J,d,a5,v⟩ Y
  refine Wh v (LJ Y (λM E W=>∃K,ST false mN w W (hp w) K∧E 25=(.bool M)) 4 ?_ (λM k H=>?_))
  ·rintro c0 E W ⟨K,d,A⟩ y
   refine Wg A (ln (CI y rfl (λU y=>?_) (λU y=>?_)))
   ·refine sg (Wa (lt (pO (mL ?_))))
    obtain rfl:=sj y
    exact rP d
   exact nf (lG (kL (sg (Wa (lt (rQ y d))))))
  refine bC k (λj k=>?_) (λj k=>?_)
  ·refine un j (un j (un j (V (lK (cB j) rfl) ?_)))
   obtain rfl:=sj k
   exact H _ _ ⟨_,(d.kA (Db St)),rfl⟩
  refine ug j (kB a5 (kI d.has Mh a0 rfl dW dC)) (bS k λb6 a2 k=>ue j (Eg d call135 (M7 a b8 a4 _ _ (g.mono kZ.mono d.kC) (c.mono mB.mono d.kC) a2) (λP d=>ug j (oF rfl) (V (lN (cB j) rfl) ?_))))
  obtain rfl:=sj k
  exact H _ _ ⟨_,(d.kA (Db St)),rfl⟩
 refine bC t (λi t=>?_) (λi t=>?_)
 ·refine un i (un i (un i (un i (V (lK (cB i) rfl) ?_))))
  obtain rfl:=sj t
  exact I _ _ ⟨_,(d.kA St),rfl,rfl⟩
 refine ug i (kN Fz rfl) (ug i (kB rfl (lg d.has Mh rfl ko)) (bS t λb7 a3 t=>ue i (Eg d call134 (Qy a4 a.kQ _ _ (c.mono mB.mono d.kC) a3) (λR d=>ug i (oF rfl) (V (lN (cB i) rfl) ?_)))))
 obtain rfl:=sj t
 exact I _ _ ⟨_,(d.kA St),rfl,rfl⟩
theorem Om (I:Value) (Y:List mY) (r:Bool) (w:World) (M:Sl Cm 18 (hp w) I Y) (hm:BE Y=some r) :
  lC false pg0 24 [I] w (.bool r):=by
 refine cG 22 func24 rfl (λd=>sg (Wa (lS (Wm (V (nv underlying108 rfl M) (Wm (ln (mV (λi E W=>∃K,(E 7= .int .i64 (i:Nat)∧E 6= .int .i64 (Y.length:Nat))∧ST false mN w W (hp w) K∧E 5=I∧wX (Y.drop i)=some r) Y.length M.len ⟨_,⟨rfl,rfl⟩,(d.kA St),rfl,hm⟩ dc dc dc (λ_ _ _ h=>by obtain ⟨_,p,_⟩:=h; exact p) ?_ ?_))))))))
 ·rintro a5 E W P ⟨K,⟨n,v⟩,d,H,g⟩
  obtain ⟨a,c2,b5,b4,b6⟩:=mC P
  rw [b5] at g
  refine bg (VQ (nN (i:=(a5:Int)) (x0:=a) Cm.out underlying108 dD H n M (aX _) b4) (λc8 ⟨_,⟨d1,d2,d3,d4,d5,d6,rfl,N,Q,T,U,b2,b3⟩,a9⟩=>V (kB rfl (lL d.has a9 ej dD)) (VE (ml d iN (λc3 c7 d=>?_)))))
  obtain ⟨t,z,rfl⟩:=N.form
  obtain ⟨u,B,rfl⟩:=Q.form
  obtain ⟨x,D,rfl⟩:=T.form
  obtain ⟨y,G,rfl⟩:=U.form
  obtain ⟨Z,a3,rfl⟩:=b2.form
  obtain ⟨L,a4,rfl⟩:=b3.form
  let a0:=(C1 a.kw.Name t a.kw.kE.length z u a.kw.kQ.length B a.Client.Name x a.Client.kE.length D y a.Client.kQ.length G a.Formula.Op a.Formula.K a.Formula.ku.kw a.Formula.ku.Word Z a.Formula.Kids.length a3 a.pj a.lP.pJ a.lP.pw a.mO a.nZ a.ny L a.Keys.length a4)
  refine VO (lA (.agg a0.toArray) (a0.toArray) d rfl rfl dD oc nb rfl (λc4 d=>lr (Wf yA (VA d Mh (C6 a.kw.Name t a.kw.kE.length z u a.kw.kQ.length B) dW dC (bS g λc9 R g=>VE (Eg d call59 (H2 a.kw (.slice t a.kw.kE.length z) (.slice u a.kw.kQ.length B) _ _ (N.mono kZ.mono d.kC) (Q.mono mB.mono d.kC) R) (λc5 d=>Wi rfl (Wm (LJ g (λA E W=>∃a2,ST false mN w W (hp w) a2∧E 5=I∧E 6=(.int .i64 (Y.length:Int))∧E 7=(.int .i64 (a5:Int))∧E 20=(.bool A)) 5 ?_ (λA j J=>?_))))))))))
  ·rintro d7 E W ⟨a2,d,b7,b9,c0,c1⟩ k
   refine ln (CI k c1 (λO k=>?_) (λO k=>?_))
   ·refine sg (Wa (lt (pO (mL (pO (mL ?_))))))
    obtain rfl:=sj k
    exact rP d
   exact nf (lG (kL ⟨c0,_,⟨rfl,b9⟩,(d.kA St),b7,(by rw [b6]; exact k)⟩))
  refine bC j (λc j=>?_) (λc j=>?_)
  ·refine un c (un c (un c (un c (V (lK (cB c) rfl) ?_))))
   obtain rfl:=sj j
   exact J _ _ ⟨_,(d.kA (Db St)),H,v,n,rfl⟩
  refine ug c (kN wP rfl) (ug c (kB rfl (kI d.has Mh (C6 a.Client.Name x a.Client.kE.length D y a.Client.kQ.length G) rfl dW dC)) (bS j λd0 b1 j=>ue c (Eg d call59 (H2 a.Client (.slice x a.Client.kE.length D) (.slice y a.Client.kQ.length G) _ _ (T.mono kZ.mono d.kC) (U.mono mB.mono d.kC) b1) (λc6 d=>ug c (lY rfl rfl rfl) (V (lN (cB c) rfl) ?_)))))
  obtain rfl:=sj j
  exact J _ _ ⟨_,(d.kA (Db St)),H,v,n,rfl⟩
 rintro E W ⟨K,⟨n,v⟩,d,H,g⟩
 rw [bo] at g
 exact kL (sg (Wa (lt (rQ g d))))
set_option maxHeartbeats 4000000 in
theorem Im (a:mY) (c1 c5 b3 c0 b4 e5 e9:Value) (a1:List Bool) (r:Bool) (w:World) (l7:Cx pg0 (hp w)) (j:Sl kX 15 (hp w) c1 a.kw.kE) (t:Sl lH 8 (hp w) c5 a.kw.kQ) (k:Sl kX 15 (hp w) b3 a.Client.kE) (g:Sl lH 8 (hp w) c0 a.Client.kQ) (u:Sl kz 5 (hp w) b4 a.Formula.Kids) (G:Sl qb 2 (hp w) e5 a.Keys) (l6:Sl (Pl Zx) 1 (hp w) e9 a1) (hm:xm a a1=some r) :
  lC false pg0 8 [(.agg #[(.string a.kw.Name),c1,c5,(.string a.Client.Name),b3,c0,(.int .i64 a.Formula.Op),(.int .i64 a.Formula.K),(.string a.Formula.ku.kw),(.string a.Formula.ku.Word),b4,(.int .i64 a.pj),(.int .i64 a.lP.pJ),(.int .i64 a.lP.pw),(.int .i64 a.mO),(.int .i64 a.nZ),(.int .i64 a.ny),e5]),e9] w (.bool r):=by
 let z4:Value:=(.int .i64 a.pj)
 let z3:Value:=(.int .i64 a.nZ)
 let z2:Value:=(.int .i64 a.ny)
 let z1:Value:=(.int .i64 a.mO)
 let z0:Value:=(.int .i64 a.lP.pw)
 let y9:Value:=(.int .i64 a.lP.pJ)
 let y8:Value:=(.int .i64 a.Formula.K)
 let y7:Value:=(.int .i64 a.Formula.Op)
 let y6:Value:=(.string a.kw.Name)
 let y3:Value:=(.string a.Client.Name)
 let p9:Value:=(.string a.Formula.ku.Word)
 let j2:Value:=(.string a.Formula.ku.kw)
 refine cG 122 func8 rfl (λd=>sg ?_)
 obtain ⟨U,Y,rfl⟩:=j.form
 let j1:Value:=(.slice U a.kw.kE.length Y)
 obtain ⟨H,J,rfl⟩:=t.form
 let A:Value:=(.slice H a.kw.kQ.length J)
 obtain ⟨Q,T,rfl⟩:=k.form
 let g6:Value:=(.slice Q a.Client.kE.length T)
 obtain ⟨I,K,rfl⟩:=g.form
 let p:Value:=(.slice I a.Client.kQ.length K)
 obtain ⟨M,z,rfl⟩:=u.form
 let L:Value:=(.slice M a.Formula.Kids.length z)
 obtain ⟨x,D,rfl⟩:=G.form
 let g5:Value:=(.slice x a.Keys.length D)
 let a0:=(C1 a.kw.Name U a.kw.kE.length Y H a.kw.kQ.length J a.Client.Name Q a.Client.kE.length T I a.Client.kQ.length K a.Formula.Op a.Formula.K a.Formula.ku.kw a.Formula.ku.Word M a.Formula.Kids.length z a.pj a.lP.pJ a.lP.pw a.mO a.nZ a.ny x a.Keys.length D)
 refine VE (lM d rfl (λw7 c3 d=>Wa (lS (bS hm λx9 r6 hm=>VE (Eg d call20 (Oa  _ _ (l7.mono d.kC) r6) (λw8 d=>V (oF rfl) (ln (CI hm rfl (λr2 hm=>?_) (λr2 hm=>?_)))))))))
 ·refine sg (Wa (ln ?_))
  replace d:=d.kA (Db St)
  refine lJ (mL ?_)
  obtain rfl:=sj hm
  exact rP d
 refine kS (VA d Mh a0 ej dD (bS hm λy0 r7 hm=>VE (Eg d call11 (Ou a j1 A g6 p L g5 _ _ (j.mono kZ.mono d.kC) (t.mono mB.mono d.kC) (k.mono kZ.mono d.kC) (g.mono mB.mono d.kC) (u.mono kT.mono d.kC) (G.mono ye.mono d.kC) r7) (λw9 d=>Wi rfl (Wm (LJ hm (λm3 E W=>∃p3,ST false mN w W (hp w) ((c3,Ol a0 34)::p3)∧E 1=e9∧E 2=(.pointer (some ⟨c3,0,none⟩))∧E 22=(.bool m3)) 5 ?_ (λm3 d3 h0=>?_)))))))
 ·let y4:Value:=(.pointer (some ⟨c3,0,none⟩))
  rintro y2 E W ⟨p3,d,s1,i8,s2⟩ c7
  refine ln (CI c7 s2 (λr3 c7=>?_) (λr3 c7=>?_))
  ·refine sg (Wa (ln ?_))
   replace d:=d.kA (Db St)
   refine lJ (mL ?_)
   obtain rfl:=sj c7
   exact rP d
  refine kg (V (kB i8 (kI d.has Mh a0 rfl ej dD)) (VE (ml d iN (λx1 d4 d=>VO (lA (.agg a0.toArray) (a0.toArray) d rfl rfl dD oc nb rfl (λx2 d=>lr (Wf yA (Wf uh (VO (lA (.slice none 0 0) (#[y6,(.slice none 0 0),A,y3,g6,p,y7,y8,j2,p9,L,z4,y9,z0,z1,z3,z2,g5]) d rfl rfl ke oc nb rfl (λx3 d=>Wf wP ?_)))))))))))
  let y5:Value:=(.pointer (some ⟨d4,0,none⟩))
  refine Wf uh (VO (lA (.slice none 0 0) (#[y6,(.slice none 0 0),A,y3,(.slice none 0 0),p,y7,y8,j2,p9,L,z4,y9,z0,z1,z3,z2,g5]) d rfl rfl ke oc nb rfl (λx4 d=>lr (Wa (ln (kM (kM ?_)))))))
  replace d:=d.drew
  have n:=d.has.kA (Db (Kb Sn))
  refine lU n li (X 1 rfl n (kN yA i8) (X 2 rfl n (kN uh rfl) (XH 3 rfl n (λ_ hS=>kB rfl (lg hS Mh rfl gE)) (X 5 rfl n (kN wP i8) (X 6 rfl n (kN uh rfl) (XH 7 rfl n (λ_ hS=>kB rfl (lg hS Mh rfl gE)) (X 10 rfl n (kD rfl) (XE 0 rfl (lZ (cs:=#[]) d xV (Fb [] dm cY eA dc rfl (by simp) rfl rfl) (λx5 s0 d=>?_))))))))))
  have n:=d.has.kA (Db (Db (Kb Sn)))
  refine ⟨n,(bS c7 λx8 r4 c7=>XE 4 rfl (vG (B:=[(s0,Ob #[] 57)]) kZ d dc dm wo.1 wo.2.1 rfl wo.2.2.1 wo.2.2.2 rfl rfl (mn.lit kZ (l:=[]) .nil rfl nb rfl) (Dj.sl kZ j d.kC) r4 (λx6 y1 r9 d r1=>?_)))⟩
  have n:=d.has.kA (Dr (Db (Kb Sn)))
  refine ⟨n,(bS c7 λj6 r5 c7=>XE 8 rfl (vG (B:=r9) kZ d dc dm wo.1 wo.2.1 rfl wo.2.2.1 wo.2.2.2 rfl rfl r1 (Dj.sl kZ k d.kC) r5 (λx7 p5 p4 d i5=>?_)))⟩
  have n:=d.has.kA (Dr (Db (Kb Sn)))
  refine ⟨n,(X 9 rfl n (AE dm rfl i5) (lX kr (kL (mV (λi E W=>∃O a2 d5 P a3 d6 R f1,(E 38= .int .i64 (i:Nat)∧E 37= .int .i64 (j6.length:Nat))∧ST false mN w W (hp w) ((d4,Ob #[y6,a2,A,y3,a3,p,y7,y8,j2,p9,L,z4,y9,z0,z1,z3,z2,g5] 34)::((c3,Ol a0 34)::(P++(R++(p4++f1)))))∧E 1=e9∧E 2=y4∧E 5=y5∧E 6=(.int .i64 O)∧E 36=p5∧mn 57 kX 15 (hp w) a2 d5 P∧mn 57 kX 15 (hp w) a3 d6 R∧nr a1 a (j6.drop i) i O d5 d6=some r) j6.length i5.len ⟨0,(.slice none 0 0),([]),[],(.slice none 0 0),([]),[],_,⟨rfl,rfl⟩,(d.kA (Sb (Pr Pz) (Sb (Pr Pz) St))),s1,i8,rfl,rfl,rfl,(mn.nil _ _ _ _),(mn.nil _ _ _ _),c7⟩ dc dc dc (λ_ _ _ h=>by obtain ⟨_,_,_,_,_,_,_,_,ad,_⟩:=h; exact ad) ?_ ?_))))⟩
  ·rintro g0 E W n3 ⟨O,a2,d5,P,a3,d6,R,f1,⟨eI,eN⟩,d,e8,e2,e3,f2,f3,d7,d8,N⟩
   obtain ⟨c,s4,p2,p1,f9⟩:=mC n3
   rw [p2] at N
   refine bg (Wh eI (VQ (nj (i:=(g0:Int)) kX.out dm cY f3 eI i5 (aX _) p1) (λu6 ⟨_,⟨v8,v9,rfl,f7,f8⟩,n9,s3⟩=>V (kB rfl (lL (ql.hp _) (n9.mono (nV (λb o hq=>d.has.2 b o (Mt (Mt (Ma (Ma (Ml hq)))))))) eJ cY)) (VE (ml d eA (λs5 k6 d=>Wa ?_))))))
   obtain ⟨a4,a6,rfl⟩:=f7.form
   obtain ⟨a5,a7,rfl⟩:=f8.form
   let b8:=(C3 c.Signed.kv.Kind c.Signed.kv.Head.kw c.Signed.kv.Head.Word c.Signed.kv.lO c.Signed.kv.B.kw c.Signed.kv.B.Word c.Signed.kv.C.kw c.Signed.kv.C.Word c.Signed.kv.mg a4 c.Signed.Tag.length a6 c.ky.Op c.ky.K c.ky.ku.kw c.ky.ku.Word a5 c.ky.Kids.length a7)
   refine VO (lA (.agg b8.toArray) (b8.toArray) d rfl rfl cY oc nb rfl (λs6 d=>lS (Wm (Wh e8 (V (nv underlying63 rfl l6) (Wi rfl (Wm (LJ N (λl8 E W=>∃j8,ST false mN w W (hp w) ((k6,Ol b8 57)::((d4,Ob #[y6,a2,A,y3,a3,p,y7,y8,j2,p9,L,z4,y9,z0,z1,z3,z2,g5] 34)::((c3,Ol a0 34)::(P++(R++(p4++j8))))))∧E 1=e9∧E 2=y4∧E 5=y5∧E 6=(.int .i64 O)∧E 7=(.int .i64 (g0:Int))∧E 8=(.pointer (some ⟨k6,0,none⟩))∧E 36=p5∧E 37=(.int .i64 (j6.length:Int))∧E 38=(.int .i64 (g0:Int))∧E 52=(.bool l8)) 5 ?_ (λl8 c9 g3=>?_)))))))))
   ·rintro w2 E W ⟨j8,d,h6,f4,d9,h7,q1,k7,h8,h9,i0,q2⟩ Z
    refine ln (CI Z q2 (λm8 Z=>?_) (λm8 Z=>?_))
    ·refine sg (Wh h7 (Wi rfl (Wa (ln ?_))))
     replace d:=d.kA (Db St)
     exact mX (mD (pE (kL ⟨i0,(wi0 .i64 (O+1)),a2,d5,P,a3,d6,R,_,⟨rfl,h9⟩,(d.kA St),h6,f4,d9,rfl,h8,d7,d8,(by rw [f9]; exact Z)⟩)))
    refine kg (Wh q1 (V (kN yA f4) (Wf uh (VB d (Mt (Mt Mh)) rfl rfl gE (V (nv dm rfl j) (Wi rfl (ln (CI Z rfl (λm9 Z=>?_) (λm9 Z=>?_)))))))))
    ·refine kK (V (kN yA d9) (Wf uh (VB d (Mt Mh) rfl rfl gE (V (kB k7 (kI d.has Mh b8 rfl eJ cY)) (VE (lZ (cs:=b8.toArray) d (og rfl) (oE dm cY eA) (λs7 u3 d=>?_)))))))
     replace d:=d.perm (Nr (Qb (Qb (Qb (Qb Qz)))) Nz)
     refine bS Z λg1 n0 Z=>VE (vG (B:=P) kZ d dc dm wo.1 wo.2.1 rfl wo.2.2.1 wo.2.2.2 rfl rfl d7 (Dj.lit kZ (l:=[c]) (.cons (ys:=C3 c.Signed.kv.Kind c.Signed.kv.Head.kw c.Signed.kv.Head.Word c.Signed.kv.lO c.Signed.kv.B.kw c.Signed.kv.B.Word c.Signed.kv.C.kw c.Signed.kv.C.Word c.Signed.kv.mg a4 c.Signed.Tag.length a6 c.ky.Op c.ky.K c.ky.ku.kw c.ky.ku.Word a5 c.ky.Kids.length a7) (kX.mk ⟨(.slice a4 c.Signed.Tag.length a6),(.slice a5 c.ky.Kids.length a7),rfl,f7,f8⟩) .nil) rfl nb (d.at_ (Ma Mh))) n0 (λs8 w0 p6 d j0=>V (kN yA d9) (Wf uh ?_)))
     obtain ⟨h1,h4,rfl⟩:=j0.form
     replace d:=d.perm (Nb (Pr (Pb (Pb Pz))) Nz)
     refine VO (lA (.slice h1 g1.length h4) (#[y6,(.slice h1 g1.length h4),A,y3,a3,p,y7,y8,j2,p9,L,z4,y9,z0,z1,z3,z2,g5]) d rfl rfl ke oc nb rfl (λs9 d=>lu (lG (kL ?_))))
     replace d:=d.kA (Kb (Kr (Db (Db St))))
     exact ⟨i0,O,(.slice h1 g1.length h4),g1,p6,a3,d6,R,_,⟨rfl,h9⟩,(d.kA (Kb (Sb (Pr Pz) St))),h6,f4,d9,h7,h8,j0,d8,(by rw [f9]; exact Z)⟩
    refine kK (V (kN wP d9) (Wf uh (VB d (Mt Mh) rfl rfl gE (V (kB k7 (kI d.has Mh b8 rfl eJ cY)) (VE (lZ (cs:=b8.toArray) d (og rfl) (oE dm cY eA) (λt0 u4 d=>?_)))))))
    replace d:=d.perm (Nr (Qb (Qb (Qb (Qb (Qr Qz))))) Nz)
    refine bS Z λg2 n1 Z=>VE (vG (B:=R) kZ d dc dm wo.1 wo.2.1 rfl wo.2.2.1 wo.2.2.2 rfl rfl d8 (Dj.lit kZ (l:=[c]) (.cons (ys:=C3 c.Signed.kv.Kind c.Signed.kv.Head.kw c.Signed.kv.Head.Word c.Signed.kv.lO c.Signed.kv.B.kw c.Signed.kv.B.Word c.Signed.kv.C.kw c.Signed.kv.C.Word c.Signed.kv.mg a4 c.Signed.Tag.length a6 c.ky.Op c.ky.K c.ky.ku.kw c.ky.ku.Word a5 c.ky.Kids.length a7) (kX.mk ⟨(.slice a4 c.Signed.Tag.length a6),(.slice a5 c.ky.Kids.length a7),rfl,f7,f8⟩) .nil) rfl nb (d.at_ (Ma Mh))) n1 (λt1 w1 p7 d j3=>V (kN wP d9) (Wf uh ?_)))
    obtain ⟨h2,h5,rfl⟩:=j3.form
    replace d:=d.perm (Nb (Pr (Pb (Pb Pz))) Nz)
    refine VO (lA (.slice h2 g2.length h5) (#[y6,a2,A,y3,(.slice h2 g2.length h5),p,y7,y8,j2,p9,L,z4,y9,z0,z1,z3,z2,g5]) d rfl rfl ke oc nb rfl (λt2 d=>lu (lG (kL ?_))))
    replace d:=d.kA (Kb (Kr (Db (Db St))))
    exact ⟨i0,O,a2,d5,P,(.slice h2 g2.length h5),g2,p7,_,⟨rfl,h9⟩,(d.kA (Kb (Sb (Pr Pz) (Sr (Qr Qz) St)))),h6,f4,d9,h7,h8,d7,j3,(by rw [f9]; exact Z)⟩
   refine bC c9 (λa8 c9=>?_) (λa8 c9=>?_)
   ·refine ug a8 (kD e8) (ug a8 (kD rfl) (bS c9 λm5 j5 c9=>ugQ a8 (uR (enc:=Zx) (i:=(g0:Int)) (x0:=m5) underlying63 sizeOf4 rfl rfl l6 (kW j5) (kO j5)) (λu7 o0=>ug a8 (kB rfl (sJ d.has (y:=(.bool m5)) o0 isAgg4)) (V (lK (cB a8) rfl) ?_))))
    obtain rfl:=sj c9
    exact g3 _ _ ⟨_,(d.kA St),e8,e2,e3,f2,rfl,rfl,f3,eN,eI,rfl⟩
   refine un a8 (un a8 (un a8 (un a8 (V (lN (cB a8) rfl) ?_))))
   obtain rfl:=sj c9
   exact g3 _ _ ⟨_,(d.kA St),e8,e2,e3,f2,rfl,rfl,f3,eN,eI,rfl⟩
  rintro E W ⟨O,a2,d5,P,a3,d6,R,f1,⟨eI,eN⟩,d,e8,e2,e3,f2,f3,d7,d8,N⟩
  rw [bo] at N
  refine kL ?_
  replace d:=d.kA (Kb (Kb (Kr (Kr (Dr St)))))
  refine sg (Wa (ln (kM (kM ?_))))
  replace d:=d.drew
  have n:=d.has.kA (Kb (Kb Sn))
  let z6:=(⟨a.kw.Name,d5,a.kw.kQ⟩:lB)
  refine lU n li (X 0 rfl n (kN yA e2) (XH 1 rfl n (λ_ hS=>kB rfl (kI hS (Mt Mh) (C6 a.kw.Name U a.kw.kE.length Y H a.kw.kQ.length J) rfl dW dC)) (X 2 rfl n (kN yA e3) (XH 3 rfl n (λ_ hS=>kB rfl (kI hS Mh [y6,a2,A] rfl dW dC)) (X 5 rfl n (kN wP e2) (XH 6 rfl n (λ_ hS=>kB rfl (kI hS (Mt Mh) (C6 a.Client.Name Q a.Client.kE.length T I a.Client.kQ.length K) rfl dW dC)) (X 7 rfl n (kN wP e3) (XH 8 rfl n (λ_ hS=>kB rfl (kI hS Mh [y3,a3,p] rfl dW dC)) (bS N λu9 o2 N=>XE 4 rfl (Eg d call27 (AO a.kw j1 A (z6) a2 A _ _ (j.mono kZ.mono d.kC) (t.mono mB.mono d.kC) (d7.sl kZ d.kC (λb o hq=>d.at_ (Mt (Mt (Ml hq))))) (t.mono mB.mono d.kC) o2) (λt3 d=>?_)))))))))))
  have n:=d.has.kA (Kb (Kb Sn))
  let z5:=(⟨a.Client.Name,d6,a.Client.kQ⟩:lB)
  refine ⟨n,(bS N λv0 o3 N=>XE 9 rfl (Eg d call27 (AO a.Client g6 p (z5) a3 p _ _ (k.mono kZ.mono d.kC) (g.mono mB.mono d.kC) (d8.sl kZ d.kC (λb o hq=>d.at_ (Mt (Mt (Ma (Ml hq)))))) (g.mono mB.mono d.kC) o3) (λt4 d=>?_)))⟩
  have n:=d.has.kA (Kb (Kb Sn))
  refine ⟨n,(bS N λv6 p0 N=>X 10 rfl n (pP rfl rfl p0) (bS N λr8 o4 N=>XE 11 rfl (WR cO d rfl o4 (λt5 m4 p8 d m6=>?_))))⟩
  replace d:=d.perm (Nb (Pr Pz) (Nb (Pr Pz) (Nr (Qr Qz) (Nr (Qr Qz) Nz))))
  have n:=d.has.kA (Kb (Kb Sn))
  let c2:=(#[y6,a2,A,y3,a3,p,y7,y8,j2,p9,L,z4,y9,z0,z1,z3,z2,g5]:Array Value)
  refine ⟨n,(lX kr (kL (CJ N (λi6 E W=>∃j9,ST false mN w W (hp w) ((d4,Obj.cells c2 34 (0,0))::((c3,Ol a0 34)::(P++(R++j9))))∧E 2=y4∧E 5=y5∧E 6=(.int .i64 O)∧E 9=(.int .i64 i6)) (λi6 n8=>?_) ?_)))⟩
  ·refine ma (nn (λm E W=>∃f0 k4 e7 h3,m=e7.length∧ST false mN w W (hp w) ((d4,Obj.cells c2 34 (0,0))::((c3,Ol a0 34)::(P++(R++(h3++k4)))))∧E 2=y4∧E 5=y5∧E 6=(.int .i64 O)∧E 9=(.int .i64 f0)∧E 89=m4∧JE m4 e7 h3∧ry e7 f0=some i6) _ ⟨0,f1,r8,p8,rfl,(d.kA St),e2,e3,f2,rfl,rfl,m6,n8⟩ ?_)
   rintro m E W ⟨f0,k4,e7,h3,rfl,d,i1,i2,i3,i4,aa,m7,e6⟩
   refine sg (VD (.inl rfl) rfl dc (Yd (d.perm (Qb (Qb (Qr (Qr Qz))))) m7 aa (λab=>?_) (λu0 k5 u8 j7 u5 o1 d i9=>?_)))
   ·subst ab
    refine IW (.inl rfl) rfl dc (Ei (v:=.bool false) rfl rfl) (ln (kM (sX rfl (mX (mD (mD (pE (kL ?_))))))))
    obtain rfl:=sj e6
    exact ⟨_,(d.kA St),i1,i2,i3,i4⟩
   replace d:=d.perm (Nb (Pr Pz) (Nb (Pr Pz) (Nr (Qr Qz) (Nr (Qr Qz) Nz))))
   subst o1
   refine bS e6 λv7 e1 j4=>IW (.inl rfl) rfl dc (Ei (v:=.bool true) rfl rfl) (ln (kM (yR rfl (kn (bg (Wx rfl (Wa (lr (Wm (Wi rfl (ln ?_)))))))))))
   refine CI e1 rfl (λn2 e1=>?_) (λn2 e1=>?_)
   ·refine kK (Wh i4 (Wi rfl (Wa (lu (lG (kL ?_))))))
    obtain rfl:=sj e1
    exact ⟨_,by simp,(wi0 .i64 (f0+1)),_,j7,k5,rfl,(d.kA St),i1,i2,i3,rfl,aa,i9,j4⟩
   refine nf (lG (kL ?_))
   obtain rfl:=sj e1
   exact ⟨_,by simp,f0,_,j7,k5,rfl,(d.kA St),i1,i2,i3,i4,aa,i9,j4⟩
  rintro i7 E W ⟨j9,d,e4,k8,k9,l0⟩ f6
  refine sg (V (kB e4 (kI d.has (Mt Mh) a0 rfl ej dD)) (V (kB e4 (kI d.has (Mt Mh) a0 rfl ej dD)) (bS f6 λv1 o5 f6=>VE (Eg d call25 (Ib a j1 A g6 p L g5 a j1 A g6 p L g5 _ _ (l7.mono d.kC) (j.mono kZ.mono d.kC) (t.mono mB.mono d.kC) (k.mono kZ.mono d.kC) (g.mono mB.mono d.kC) (u.mono kT.mono d.kC) (G.mono ye.mono d.kC) (j.mono kZ.mono d.kC) (t.mono mB.mono d.kC) (k.mono kZ.mono d.kC) (g.mono mB.mono d.kC) (u.mono kT.mono d.kC) (G.mono ye.mono d.kC) o5) (λt6 d=>V (Gt rfl rfl rfl) (Wm (LJ f6 (λm2 E W=>∃k0,ST false mN w W (hp w) ((d4,Obj.cells c2 34 (0,0))::((c3,Ol a0 34)::(P++(R++k0))))∧E 2=y4∧E 5=y5∧E 6=(.int .i64 O)∧E 9=(.int .i64 i7)∧E 106=(.bool m2)) 5 ?_ (λm2 d2 g9=>?_))))))))
  ·rintro w3 E W ⟨k0,d,f5,l1,l2,l3,q3⟩ n4
   refine Wh q3 (LJ n4 (λm1 E W=>∃k1,ST false mN w W (hp w) ((d4,Obj.cells c2 34 (0,0))::((c3,Ol a0 34)::(P++(R++k1))))∧E 2=y4∧E 5=y5∧E 6=(.int .i64 O)∧E 9=(.int .i64 i7)∧E 111=(.bool m1)) 4 ?_ (λm1 d1 g8=>?_))
   ·rintro w4 E W ⟨k1,d,q4,q5,l4,l5,q6⟩ n5
    refine Wh q6 (LJ n5 (λm0 E W=>∃k2,ST false mN w W (hp w) k2∧E 6=(.int .i64 O)∧E 9=(.int .i64 i7)∧E 116=(.bool m0)) 4 ?_ (λm0 d0 g7=>?_))
    ·rintro w5 E W ⟨k2,d,q7,q8,q9⟩ n6
     refine Wh q9 (LJ n6 (λl9 E W=>∃k3,ST false mN w W (hp w) k3∧E 121=(.bool l9)) 4 ?_ (λl9 e0 g4=>?_))
     ·rintro w6 E W ⟨k3,d,r0⟩ n7
      exact Wg r0 (lt (rQ n7 d))
     refine bC e0 (λb7 e0=>?_) (λb7 e0=>?_)
     ·refine ug b7 (kD q8) (ug b7 (kD q7) (ug b7 (lY rfl rfl rfl) (V (lK (cB b7) rfl) ?_)))
      obtain rfl:=sj e0
      exact g4 _ _ ⟨_,(d.kA St),rfl⟩
     refine un b7 (un b7 (un b7 (V (lN (cB b7) rfl) ?_)))
     obtain rfl:=sj e0
     exact g4 _ _ ⟨_,(d.kA St),rfl⟩
    refine bC d0 (λb6 d0=>?_) (λb6 d0=>?_)
    ·refine ug b6 (kB q4 (kI d.has (Mt Mh) a0 rfl ej dD)) (ug b6 (kB q5 (kI d.has Mh [y6,a2,A,y3,a3,p,y7,y8,j2,p9,L,z4,y9,z0,z1,z3,z2,g5] rfl ej dD)) (bS d0 λv2 o6 d0=>ue b6 (Eg d call22 (xW a j1 A g6 p L g5 (⟨z6,z5,a.Formula,a.pj,a.lP,a.mO,a.nZ,a.ny,a.Keys⟩:mY) a2 A a3 p L g5 _ _ (j.mono kZ.mono d.kC) (t.mono mB.mono d.kC) (k.mono kZ.mono d.kC) (g.mono mB.mono d.kC) (u.mono kT.mono d.kC) (G.mono ye.mono d.kC) (d7.sl kZ d.kC (λb o hq=>d.at_ (Mt (Mt (Ml hq))))) (t.mono mB.mono d.kC) (d8.sl kZ d.kC (λb o hq=>d.at_ (Mt (Mt (Ma (Ml hq)))))) (g.mono mB.mono d.kC) (u.mono kT.mono d.kC) (G.mono ye.mono d.kC) o6) (λt7 d=>V (lK (cB b6) rfl) ?_))))
     obtain rfl:=sj d0
     exact g7 _ _ ⟨_,(d.kA (Db (Db (Dr (Dr St))))),l4,l5,rfl⟩
    refine un b6 (un b6 (un b6 (V (lN (cB b6) rfl) ?_)))
    obtain rfl:=sj d0
    exact g7 _ _ ⟨_,(d.kA (Db (Db (Dr (Dr St))))),l4,l5,rfl⟩
   refine bC d1 (λb5 d1=>?_) (λb5 d1=>?_)
   ·refine ug b5 (kB f5 (kI d.has (Mt Mh) a0 rfl ej dD)) (ug b5 (kB f5 (kI d.has (Mt Mh) a0 rfl ej dD)) (bS d1 λv3 o7 d1=>ue b5 (Eg d call22 (xW a j1 A g6 p L g5 a j1 A g6 p L g5 _ _ (j.mono kZ.mono d.kC) (t.mono mB.mono d.kC) (k.mono kZ.mono d.kC) (g.mono mB.mono d.kC) (u.mono kT.mono d.kC) (G.mono ye.mono d.kC) (j.mono kZ.mono d.kC) (t.mono mB.mono d.kC) (k.mono kZ.mono d.kC) (g.mono mB.mono d.kC) (u.mono kT.mono d.kC) (G.mono ye.mono d.kC) o7) (λt8 d=>V (lK (cB b5) rfl) ?_))))
    obtain rfl:=sj d1
    exact g8 _ _ ⟨_,(d.kA St),f5,l1,l2,l3,rfl⟩
   refine un b5 (un b5 (un b5 (V (lN (cB b5) rfl) ?_)))
   obtain rfl:=sj d1
   exact g8 _ _ ⟨_,(d.kA St),f5,l1,l2,l3,rfl⟩
  refine bC d2 (λa9 d2=>?_) (λa9 d2=>?_)
  ·refine ug a9 (kB e4 (kI d.has (Mt Mh) a0 rfl ej dD)) (ug a9 (kB e4 (kI d.has (Mt Mh) a0 rfl ej dD)) (bS d2 λv4 o8 d2=>ue a9 (Eg d call23 (DF a j1 A g6 p L g5 a j1 A g6 p L g5 _ _ (j.mono kZ.mono d.kC) (t.mono mB.mono d.kC) (k.mono kZ.mono d.kC) (g.mono mB.mono d.kC) (u.mono kT.mono d.kC) (G.mono ye.mono d.kC) (j.mono kZ.mono d.kC) (t.mono mB.mono d.kC) (k.mono kZ.mono d.kC) (g.mono mB.mono d.kC) (u.mono kT.mono d.kC) (G.mono ye.mono d.kC) o8) (λt9 d=>ug a9 (oF rfl) (V (lK (cB a9) rfl) ?_)))))
   obtain rfl:=sj d2
   exact g9 _ _ ⟨_,(d.kA St),e4,k8,k9,l0,rfl⟩
  refine un a9 (un a9 (un a9 (un a9 (V (lN (cB a9) rfl) ?_))))
  obtain rfl:=sj d2
  exact g9 _ _ ⟨_,(d.kA St),e4,k8,k9,l0,rfl⟩
 refine bC d3 (λb9 d3=>?_) (λb9 d3=>?_)
 ·refine un b9 (un b9 (un b9 (un b9 (V (lK (cB b9) rfl) ?_))))
  obtain rfl:=sj d3
  exact h0 _ _ ⟨_,(d.kA St),rfl,rfl,rfl⟩
 refine ug b9 (kB rfl (kI d.has Mh a0 rfl ej dD)) (ue b9 (lZ (cs:=a0.toArray) d (og rfl) (oE underlying108 dD iN) (λu1 q0 d=>bS d3 λv5 o9 d3=>ue b9 (Eg d call24 (Om (.slice (some ⟨q0,0,none⟩) 1 1) ([a]) _ _ ((mn.lit Xs (l:=[a]) (.cons (ys:=C1 a.kw.Name U a.kw.kE.length Y H a.kw.kQ.length J a.Client.Name Q a.Client.kE.length T I a.Client.kQ.length K a.Formula.Op a.Formula.K a.Formula.ku.kw a.Formula.ku.Word M a.Formula.Kids.length z a.pj a.lP.pJ a.lP.pw a.mO a.nZ a.ny x a.Keys.length D) (Cm.mk ⟨j1,A,g6,p,L,g5,rfl,j,t,k,g,u,G⟩) .nil) rfl nb rfl).sl Xs d.kC (λb o hq=>(by rw [bO] at hq; cases hq; exact d.at_ Mh))) o9) (λu2 d=>ug b9 (oF rfl) (V (lN (cB b9) rfl) ?_))))))
 obtain rfl:=sj d3
 exact h0 _ _ ⟨_,(d.kA (Db St)),rfl,rfl,rfl⟩
end Go.Proofs.YtjjjihkifgdhgaaGreatDoor
