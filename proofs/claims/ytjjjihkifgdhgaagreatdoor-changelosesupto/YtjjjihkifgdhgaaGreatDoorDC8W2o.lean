/- a part of a proof of ChangeLoses -/
import Derived.Test.YtjjjihkifgdhgaaGreatDoorDC8W1o
set_option linter.all false
namespace Go.Proofs.YtjjjihkifgdhgaaGreatDoor
open Go.IntKind renaming wrap → wi0
open Go.Proofs.Tryz renaming prog → pg0
open Go.RowKit
set_option maxRecDepth 10000
open Tryz
theorem MT (a:Formula) (H:Value) (r:Bool) (w:World) (t:Sl kz 5 (hp w) H a.Kids) (hm:AP a=some r) :
  lC true pg0 265 [(.agg #[(.int .i64 a.Op),(.int .i64 a.K),(.string a.ku.kw),(.string a.ku.Word),H])] w (.bool r):=by
 refine cG 63 func265 rfl (λd=>sg ?_)
 obtain ⟨A1,c2,rfl⟩:=t.form
 let A:=(C2 a.Op a.K a.ku.kw a.ku.Word A1 a.Kids.length c2)
 refine VE (lM d rfl (λW4 N d=>Wa (lr (V (nP (v:=(.agg (kJ K0).toArray)) xV (nt fO er (Vz _ er) kr)) (VE (ml d fO (λW6 b5 d=>VO (lA (.agg (kJ K0).toArray) ((kJ K0).toArray) d rfl rfl bF (AZ K0) nb rfl (λW7 d=>lS (Wf xc ?_))))))))))
 refine VB d (Mt Mh) rfl rfl dJ (ln (bg (Wi rfl (Wa (ln (CI hm rfl (λd9 hm=>?_) (λd9 hm=>?_)))))))
 ·refine sg (Wf Br (VA d (Mt Mh) (kJ a.ku) bZ bF (bS hm λf7 e5 hm=>VE (Eg d jS (vH a.ku _ _  e5) (λf5 d=>Wm (LJ hm (λd2 E W=>∃c4,ST true mN w W (hp w) ((N,Ol A 30)::c4)∧E 1=(.pointer (some ⟨N,0,none⟩))∧E 2=(.bool false)∧E 17=(.bool d2)) 5 ?_ (λd2 J a4=>?_)))))))
  ·rintro f8 E W ⟨c4,d,e7,c9,e8⟩ e1
   refine Wh e8 (LJ e1 (λd1 E W=>∃c5,ST true mN w W (hp w) c5∧E 2=(.bool false)∧E 22=(.bool d1)) 4 ?_ (λd1 I a3=>?_))
   ·rintro f9 E W ⟨c5,d,f6,e9⟩ e2
    refine Wg e9 (lt (pO (mL ?_)))
    obtain rfl:=sj e2
    exact rP d
   refine bC I (λu I=>?_) (λu I=>?_)
   ·refine ug u (kN Bw e7) (ug u (kB rfl (lg d.has Mh rfl dJ)) (ug u (lY rfl rfl rfl) (V (lK (cB u) rfl) ?_)))
    obtain rfl:=sj I
    exact a3 _ _ ⟨_,(d.kA (Db St)),c9,rfl⟩
   refine un u (un u (un u (V (lN (cB u) rfl) ?_)))
   obtain rfl:=sj I
   exact a3 _ _ ⟨_,(d.kA (Db St)),c9,rfl⟩
  refine bC J (λj J=>?_) (λj J=>?_)
  ·refine ug j (kN vA rfl) (ug j (kB rfl (lg d.has (Mt Mh) rfl fJ)) (ug j (nv aN rfl t) (ug j (lY rfl rfl rfl) (V (lK (cB j) rfl) ?_))))
   obtain rfl:=sj J
   exact a4 _ _ ⟨_,(d.kA (Db St)),rfl,rfl,rfl⟩
  refine un j (un j (un j (un j (V (lN (cB j) rfl) ?_))))
  obtain rfl:=sj J
  exact a4 _ _ ⟨_,(d.kA (Db St)),rfl,rfl,rfl⟩
 let a0:=(A.toArray:Array Value)
 let n:Value:=(.pointer (some ⟨N,0,none⟩))
 refine kM (CJ hm (λb7 E W=>∃c6,ST true mN w W (hp w) ((b5,Ol (kJ K0) 27)::((N,Obj.cells a0 30 (0,0))::c6))∧E 1=n∧E 3=(.pointer (some ⟨b5,0,none⟩))∧E 23=(.bool b7)) (λb7 G=>?_) ?_)
 ·refine sg (Wi rfl (Wa (ln (CI G rfl (λb9 G=>?_) (λb9 G=>?_)))))
  ·refine kn ?_
   obtain rfl:=sj G
   exact ⟨_,(d.kA St),rfl,rfl,rfl⟩
  refine kK (Wi rfl (Wa (ln ?_)))
  obtain rfl:=sj G
  exact ⟨_,(d.kA St),rfl,rfl,rfl⟩
 rintro g0 E W ⟨c6,d,Q,d0,f0⟩ K
 refine CI K f0 (λe0 K=>?_) (λe0 K=>?_)
 ·refine sg (V (kN Br Q) (VA d (Mt Mh) (kJ a.ku) bZ bF (V (kB d0 (kI d.has Mh (kJ K0) rfl bZ bF)) (V (ER rfl rfl (uC jH) (AY (Ab _ a.ku K0))) (Wm (LJ K (λd3 E W=>∃c7,ST true mN w W (hp w) c7∧E 34=(.bool d3)) 4 ?_ (λd3 M a5=>?_)))))))
  ·rintro g1 E W ⟨c7,d,f1⟩ e3
   refine Wg f1 (lt (pO (mL ?_)))
   obtain rfl:=sj e3
   exact rP d
  refine bC M (λx M=>?_) (λx M=>?_)
  ·refine ug x (kN Bw Q) (ug x (kB rfl (lg d.has (Mt Mh) rfl dJ)) (ug x (lY rfl rfl rfl) (V (lK (cB x) rfl) ?_)))
   obtain rfl:=sj M
   exact a5 _ _ ⟨_,(d.kA (Db (Db St))),rfl⟩
  refine un x (un x (un x (V (lN (cB x) rfl) ?_)))
  obtain rfl:=sj M
  exact a5 _ _ ⟨_,(d.kA (Db (Db St))),rfl⟩
 refine nf (lG (kL (sg (V (kN xc Q) (VB d (Mt Mh) rfl rfl dJ (Wi rfl (Wm (LJ K (λb6 E W=>∃c8,ST true mN w W (hp w) ((N,Obj.cells a0 30 (0,0))::c8)∧E 1=n∧E 43=(.bool b6)) 5 ?_ (λb6 D p=>?_)))))))))
 ·rintro g2 E W ⟨c8,d,a2,d4⟩ e4
  refine Wh d4 (LJ e4 (λb4 E W=>∃L,ST true mN w W (hp w) ((N,Obj.cells a0 30 (0,0))::L)∧E 1=n∧E 48=(.bool b4)) 4 ?_ (λb4 B Z=>?_))
  ·rintro f2 E W ⟨L,d,T,d5⟩ c0
   refine Wh d5 (LJ c0 (λR E W=>∃a9,ST true mN w W (hp w) ((N,Obj.cells a0 30 (0,0))::a9)∧E 1=n∧E 56=(.bool R)) 7 ?_ (λR z Y=>?_))
   ·rintro f3 E W ⟨a9,d,d6,d7⟩ c1
    refine Wh d7 (LJ c1 (λP E W=>∃O,ST true mN w W (hp w) O∧E 62=(.bool P)) 5 ?_ (λP y U=>?_))
    ·rintro f4 E W ⟨O,d,d8⟩ c3
     exact Wg d8 (lt (rQ c3 d))
    refine bC y (λg y=>?_) (λg y=>?_)
    ·refine ug g (kN vA d6) (ug g (kB rfl (lg d.has Mh rfl fJ)) (ug g (nv aN rfl t) (ug g (lY rfl rfl rfl) (V (lK (cB g) rfl) ?_))))
     obtain rfl:=sj y
     exact U _ _ ⟨_,(d.kA (Db St)),rfl⟩
    refine un g (un g (un g (un g (V (lN (cB g) rfl) ?_))))
    obtain rfl:=sj y
    exact U _ _ ⟨_,(d.kA (Db St)),rfl⟩
   refine bC z (λc z=>?_) (λc z=>?_)
   ·refine ug c (kN Bw T) (ug c (kB rfl (lg d.has Mh rfl dJ)) (ug c (kN vA T) (ug c (kB rfl (lg d.has Mh rfl fJ)) (ug c (nv aN rfl t) (ug c (lY rfl rfl rfl) (V (lK (cB c) rfl) ?_))))))
    obtain rfl:=sj z
    exact Y _ _ ⟨_,(d.kA St),T,rfl⟩
   refine un c (un c (un c (un c (un c (un c (V (lN (cB c) rfl) ?_))))))
   obtain rfl:=sj z
   exact Y _ _ ⟨_,(d.kA St),T,rfl⟩
  refine bC B (λi B=>?_) (λi B=>?_)
  ·refine ug i (kN Bw a2) (ug i (kB rfl (lg d.has Mh rfl dJ)) (ug i (lY rfl rfl rfl) (V (lK (cB i) rfl) ?_)))
   obtain rfl:=sj B
   exact Z _ _ ⟨_,(d.kA St),a2,rfl⟩
  refine un i (un i (un i (V (lN (cB i) rfl) ?_)))
  obtain rfl:=sj B
  exact Z _ _ ⟨_,(d.kA St),a2,rfl⟩
 refine bC D (λk D=>?_) (λk D=>?_)
 ·refine ug k (kN Br Q) (ug k (kB rfl (kI d.has (Mt Mh) (kJ a.ku) rfl bZ bF)) (ug k (kB d0 (kI d.has Mh (kJ K0) rfl bZ bF)) (ug k (ER rfl rfl (uC jH) (AY (Ab _ a.ku K0))) (V (lK (cB k) rfl) ?_))))
  obtain rfl:=sj D
  exact p _ _ ⟨_,(d.kA (Db St)),Q,rfl⟩
 refine un k (un k (un k (un k (V (lN (cB k) rfl) ?_))))
 obtain rfl:=sj D
 exact p _ _ ⟨_,(d.kA (Db St)),Q,rfl⟩
theorem Ep (g:Value) (t:List Formula) (j:Value) (z:Formula→Option Bool) (r:Int) (w:World) (c:Sl kz 5 (hp w) g t) (B:vL pg0 j (hp w) (re kz) (λ(r:Bool)=>(.bool r)) z) (hm:vV t z=some r) :
  lC false pg0 324 [g,j] w (.int .i64 r):=by
 refine cG 19 func324 rfl (λd=>sg (Wa (lS (Wm (V (nv aN rfl c) (Wm (ln (mV (λi E W=>∃k,(E 8= .int .i64 (i:Nat)∧E 7= .int .i64 (t.length:Nat))∧ST false mN w W (hp w) k∧E 0=g∧E 1=j∧pB z (t.drop i) i=some r) t.length c.len ⟨_,⟨rfl,rfl⟩,(d.kA St),rfl,rfl,hm⟩ dc dc dc (λ_ _ _ h=>by obtain ⟨_,p,_⟩:=h; exact p) ?_ ?_))))))))
 ·rintro Q E W G ⟨k,⟨n,v⟩,d,u,x,a⟩
  obtain ⟨y,U,M,K,N⟩:=mC G
  rw [M] at a
  refine bg (Wh n (Wa (lr (Wh x (Wh u (Wm (VQ (nN (i:=(Q:Int)) (x0:=y) kz.out aN aH rfl rfl c (aX _) K) (λZ ⟨_,⟨T,rfl,J⟩,H⟩=>V (kB rfl (lL d.has H bL aH)) (bS a λA I a=>?_)))))))))
  refine VE (qQ y d B (lx.refl _) (re.mk kT (kz.mk ⟨T,rfl,J⟩) d.kC) rfl (pR rfl) I (λY d=>ln (CI a rfl (λD a=>?_) (λD a=>?_))))
  ·refine sg (Wm (Wa (lt (pO (mL (pO (mL ?_)))))))
   obtain rfl:=sj a
   exact rP d
  exact nf (lG (kL ⟨n,_,⟨rfl,v⟩,(d.kA St),u,x,(by rw [N]; exact a)⟩))
 rintro E W ⟨k,⟨n,v⟩,d,u,x,a⟩
 rw [bo] at a
 exact kL (sg (Wa (lt (rQ a d))))
theorem yi (a:Value) (g:List Formula) (c:Value) (i:Formula→Option Bool) (r:Bool) (w:World) (j:Sl kz 5 (hp w) a g) (k:vL pg0 c (hp w) (re kz) (λ(r:Bool)=>(.bool r)) i) (hm:qt g i=some r) :
  lC false pg0 266 [a,c] w (.bool r):=by
 refine cG 9 func266 rfl (λd=>sg (Wa (lr (Wm (Wm (bS hm λx t hm=>VE (Eg d call324 (Ep a g c i _ _ (j.mono kT.mono d.kC) (k.mono d.kC) t) (λu d=>Wi rfl (Wa (lu ?_))))))))))
 exact kL (lJ (rQ hm d))
theorem II (i:Formula→Option Bool) (t:∀(c:Formula) (a:Value) (r:Bool) (w:World) (g:Sl kz 5 (hp w) a c.Kids),i c=some r→lC false pg0 202 [(.agg #[(.int .i64 c.Op),(.int .i64 c.K),(.string c.ku.kw),(.string c.ku.Word),a])] w (.bool r)) (c:Formula) (a:Value) (r:Bool) (w:World) (g:Sl kz 5 (hp w) a c.Kids) (hm:xH i c=some r) :
  lC false pg0 267 [(.agg #[(.int .i64 c.Op),(.int .i64 c.K),(.string c.ku.kw),(.string c.ku.Word),a])] w (.bool r):=by
 refine cG 6 func267 rfl (λd=>sg ?_)
 obtain ⟨j,k,rfl⟩:=g.form
 refine VE (lM d rfl (λx z d=>Wa (lr (VA d Mh (C2 c.Op c.K c.ku.kw c.ku.Word j c.Kids.length k) bL aH (bS hm λB u hm=>VE (Eg d call202 (t c (.slice j c.Kids.length k) _ _ (g.mono kT.mono d.kC) u) (λy d=>V (oF rfl) (Wa (ln ?_)))))))))
 exact lJ (rQ hm d)
theorem Hw (z:Formula→Option Bool) (T:∀(a:Formula) (g:Value) (r:Bool) (w:World) (c:Sl kz 5 (hp w) g a.Kids),z a=some r→lC false pg0 202 [(.agg #[(.int .i64 a.Op),(.int .i64 a.K),(.string a.ku.kw),(.string a.ku.Word),g])] w (.bool r)) (a:Formula) (g:Value) (r:Bool) (w:World) (c:Sl kz 5 (hp w) g a.Kids) (hm:yX z a=some r) :
  lC false pg0 202 [(.agg #[(.int .i64 a.Op),(.int .i64 a.K),(.string a.ku.kw),(.string a.ku.Word),g])] w (.bool r):=by
 refine cG 17 func202 rfl (λd=>sg ?_)
 obtain ⟨B,D,rfl⟩:=c.form
 let a0:=(C2 a.Op a.K a.ku.kw a.ku.Word B a.Kids.length D)
 refine VE (lM d rfl (λW4 U d=>Wa (lr (VA d Mh a0 bL aH (bS hm λr5 a3 hm=>VE (Eg d call265 (lC.nx (MT a (.slice B a.Kids.length D) _ _ (c.mono kT.mono d.kC) a3)) (λW7 d=>Wm (LJ hm (λK E W=>∃G,ST false mN w W (hp w) ((U,Ol a0 30)::G)∧E 1=(.pointer (some ⟨U,0,none⟩))∧E 2=(.bool false)∧E 10=(.bool K)) 5 ?_ (λK t y=>?_)))))))))
 ·rintro x9 E W ⟨G,d,Y,I,Z⟩ M
  refine Wh Z (LJ M (λJ E W=>∃H,ST false mN w W (hp w) H∧E 2=(.bool false)∧E 16=(.bool J)) 5 ?_ (λJ k u=>?_))
  ·rintro P E W ⟨H,d,L,n⟩ N
   exact Wg n (lt (rQ N d))
  refine bC k (λi k=>?_) (λi k=>?_)
  ·refine ug i (kN vA Y) (ug i (kB rfl (lg d.has Mh rfl fJ)) (bS k λO Q k=>ue i (Eg d call266 (yi (.slice B a.Kids.length D) a.Kids (.func (.func 267) #[] #[]) (λ(x:Formula)=>xH z x) _ _ (c.mono kT.mono d.kC) ⟨267,#[],#[],rfl,call267,λW x vs r R p hm=>by obtain ⟨_,rfl,a2⟩:=p; obtain ⟨A,rfl,v⟩:=a2.out; exact II z T x A r W v hm⟩ Q) (λa5 d=>ug i (oF rfl) (V (lK (cB i) rfl) ?_)))))
   obtain rfl:=sj k
   exact u _ _ ⟨_,(d.kA (Db St)),I,rfl⟩
  refine un i (un i (un i (un i (V (lN (cB i) rfl) ?_))))
  obtain rfl:=sj k
  exact u _ _ ⟨_,(d.kA (Db St)),I,rfl⟩
 refine bC t (λj t=>?_) (λj t=>?_)
 ·refine ug j (kN vA rfl) (ug j (kB rfl (lg d.has Mh rfl fJ)) (ug j (nv aN rfl c) (ug j (lY rfl rfl rfl) (V (lK (cB j) rfl) ?_))))
  obtain rfl:=sj t
  exact y _ _ ⟨_,(d.kA St),rfl,rfl,rfl⟩
 refine un j (un j (un j (un j (V (lN (cB j) rfl) ?_))))
 obtain rfl:=sj t
 exact y _ _ ⟨_,(d.kA St),rfl,rfl,rfl⟩
theorem Gi:∀(n:Nat) (c:Formula) (a:Value) (r:Bool) (w:World) (g:Sl kz 5 (hp w) a c.Kids) (_:ux n c=some r),
  lC false pg0 202 [(.agg #[(.int .i64 c.Op),(.int .i64 c.K),(.string c.ku.kw),(.string c.ku.Word),a])] w (.bool r)
 | 0=>by intros; rename_i h; simp only [ux] at h; cases h
 | n+1=>Hw (ux n) (Gi n)
theorem uf (a:Formula) (k:Value) (r:Bool) (w:World) (c:Sl kz 5 (hp w) k a.Kids) (hm:qS a=some r) :
  lC false pg0 129 [(.agg #[(.int .i64 a.Op),(.int .i64 a.K),(.string a.ku.kw),(.string a.ku.Word),k])] w (.bool r):=by
 refine cG 24 func129 rfl (λd=>sg ?_)
 obtain ⟨y,z,rfl⟩:=c.form
 let a0:=(C2 a.Op a.K a.ku.kw a.ku.Word y a.Kids.length z)
 refine VE (lM d rfl (λW4 H d=>Wa (lr (VA d Mh a0 bL aH (bS hm λL a9 hm=>VE (Eg d call201 (M5 a (.slice y a.Kids.length z) _ _ (c.mono kT.mono d.kC) a9) (λW7 d=>Wm (Wx rfl (Wx rfl (Wa (Wa (lu ?_))))))))))))
 refine kL (sg (Wm (Wi rfl (Wm (LJ hm (λY E W=>∃I,ST false mN w W (hp w) ((H,Ol a0 30)::I)∧E 1=(.pointer (some ⟨H,0,none⟩))∧E 2=(.bool false)∧E 4=(.int .i64 L.2)∧E 15=(.bool Y)) 3 ?_ (λY x G=>?_))))))
 ·rintro x9 E W ⟨I,d,M,N,a4,a5⟩ Z
  refine Wh a5 (LJ Z (λU E W=>∃J,ST false mN w W (hp w) ((H,Ol a0 30)::J)∧E 1=(.pointer (some ⟨H,0,none⟩))∧E 2=(.bool false)∧E 19=(.bool U)) 3 ?_ (λU u D=>?_))
  ·rintro b5 E W ⟨J,d,p,Q,v⟩ n
   refine Wh v (LJ n (λT E W=>∃K,ST false mN w W (hp w) K∧E 2=(.bool false)∧E 23=(.bool T)) 3 ?_ (λT j B=>?_))
   ·rintro b6 E W ⟨K,d,P,A⟩ a2
    exact Wg A (lt (rQ a2 d))
   refine bC j (λi j=>?_) (λi j=>?_)
   ·refine ug i (kB p (kI d.has Mh a0 rfl bL aH)) (bS j λR a3 j=>ue i (Eg d call202 ((Gi kY) a (.slice y a.Kids.length z) _ _ (c.mono kT.mono d.kC) a3) (λO d=>V (lK (cB i) rfl) ?_)))
    obtain rfl:=sj j
    exact B _ _ ⟨_,(d.kA (Db St)),Q,rfl⟩
   refine un i (un i (V (lN (cB i) rfl) ?_))
   obtain rfl:=sj j
   exact B _ _ ⟨_,(d.kA (Db St)),Q,rfl⟩
  refine bC u (λg u=>?_) (λg u=>?_)
  ·refine ug g (kD a4) (ug g (lY rfl rfl rfl) (V (lK (cB g) rfl) ?_))
   obtain rfl:=sj u
   exact D _ _ ⟨_,(d.kA St),M,N,rfl⟩
  refine un g (un g (V (lN (cB g) rfl) ?_))
  obtain rfl:=sj u
  exact D _ _ ⟨_,(d.kA St),M,N,rfl⟩
 refine bC x (λt x=>?_) (λt x=>?_)
 ·refine ug t (kD rfl) (ug t (lY rfl rfl rfl) (V (lK (cB t) rfl) ?_))
  obtain rfl:=sj x
  exact G _ _ ⟨_,(d.kA St),rfl,rfl,rfl,rfl⟩
 refine un t (un t (V (lN (cB t) rfl) ?_))
 obtain rfl:=sj x
 exact G _ _ ⟨_,(d.kA St),rfl,rfl,rfl,rfl⟩
theorem Am (c:Int) (r:ByteArray) (w:World) (a:Cx pg0 (hp w)) (hm:ur c=some r) :
  lC true pg0 50 [(.int .i64 c)] w (.string r):=TE Zc rfl a hm
theorem U5 (a:Value) (g:List ByteArray) (i r:ByteArray) (w:World) (c:Sl (Pl BJ) 1 (hp w) a g) (hm:Jo g i=some r) :
  lC false pg0 209 [a,(.string i)] w (.string r):=SC YB aa8 rfl c hm
theorem JL (T:Formula→Option ByteArray) (c7:∀(j:Formula) (t:Value) (r:ByteArray) (w:World) (N:Cx pg0 (hp w)) (k:Sl kz 5 (hp w) t j.Kids),T j=some r→lC false pg0 137 [(.agg #[(.int .i64 j.Op),(.int .i64 j.K),(.string j.ku.kw),(.string j.ku.Word),t])] w (.string r)) (j:Formula) (t:Value) (r:ByteArray) (w:World) (N:Cx pg0 (hp w)) (k:Sl kz 5 (hp w) t j.Kids) (hm:Bg T j=some r) :
  lC false pg0 137 [(.agg #[(.int .i64 j.Op),(.int .i64 j.K),(.string j.ku.kw),(.string j.ku.Word),t])] w (.string r):=by
 refine cG 41 func137 rfl (λd=>sg ?_)
 obtain ⟨A1,c2,rfl⟩:=k.form
 refine VE (lM d rfl (λW4 A d=>Wa (lr (Wa (ln (kM (CJs hm (λU E W=>∃L,ST false mN w W (hp w) ((A,Ol (C2 j.Op j.K j.ku.kw j.ku.Word A1 j.Kids.length c2) 30)::L)∧E 1=(.pointer (some ⟨A,0,none⟩))∧E 3=(.string U)) (λU c D=>?_) ?_)))))))
 ·refine sg (Wf xc (VB d Mh rfl rfl dJ (ln (bg (Wi rfl (Wa (ln (CI c rfl (λa1 c=>?_) (λa1 c=>?_)))))))))
  ·refine sg (Wf Br (VA d Mh (kJ j.ku) bZ bF (bS c λd0 a8 c=>VE (Eg d call79 (lC.nx (yb j.ku _ _  a8)) (λe2 d=>Wa (ln ?_))))))
   replace d:=d.kA (Db St)
   refine lJ (pO (mL ?_))
   obtain rfl:=sj c
   replace D:some d0=some r:=D
   obtain rfl:=sj D
   exact rP d
  refine sg (Wi rfl (Wa (ln (CI c rfl (λa2 c=>?_) (λa2 c=>?_)))))
  ·refine kK (Wa (lu (lG (kL ?_))))
   obtain rfl:=sj c
   exact ⟨_,rfl,_,(d.kA St),rfl,rfl⟩
  refine sg (Wi rfl (Wa (ln (CI c rfl (λa3 c=>?_) (λa3 c=>?_)))))
  ·refine kK (Wa (lu (lG (kL ?_))))
   obtain rfl:=sj c
   exact ⟨_,rfl,_,(d.kA St),rfl,rfl⟩
  refine kK (Wf Bw (VB d Mh rfl rfl dJ (bS c λe7 a9 c=>VE (Eg d call50 (lC.nx (Am j.K _ _ (N.mono d.kC) a9)) (λe3 d=>bS c λf1 b4 c=>V (pP rfl rfl b4) (Wa (lu (lG (kL ?_)))))))))
  obtain rfl:=sj c
  exact ⟨_,rfl,_,(d.kA St),rfl,rfl⟩
 rintro O E W ⟨L,d,d3,d4⟩ c6
 refine sg (Wa (lS (V (kN vA d3) (VB d Mh rfl rfl fJ (V (nv aN rfl k) (Wm (ln ?_)))))))
 replace d:=d.kA (Db St)
 refine mV (λi E W=>∃u y x I,(E 25= .int .i64 (i:Nat)∧E 24= .int .i64 (j.Kids.length:Nat))∧ST false mN w W (hp w) (x++I)∧E 3=(.string O)∧E 4=u∧E 23=(.slice A1 j.Kids.length c2)∧lh 9 BJ 1 u y x∧uy T O (j.Kids.drop i) y=some r) j.Kids.length k.len ⟨(.slice none 0 0),([]),[],_,⟨rfl,rfl⟩,(d.kA St),d4,rfl,rfl,(lh.nil _ _ _),c6⟩ dc dc dc (λ_ _ _ h=>by obtain ⟨_,_,_,_,p,_⟩:=h; exact p) ?_ ?_
 ·rintro c8 E W a4 ⟨u,y,x,I,⟨n,P⟩,d,J,K,M,G,a⟩
  obtain ⟨g,d5,b6,b5,b7⟩:=mC a4
  rw [b6] at a
  refine bg (VQ (nN (i:=(c8:Int)) (x0:=g) kz.out aN aH M n k (aX _) b5) (λe5 ⟨_,⟨f2,rfl,Q⟩,a5⟩=>V (kB rfl (lL d.has a5 bL aH)) (VE (ml d bR (λd6 e4 d=>?_)))))
  obtain ⟨z,B,rfl⟩:=Q.form
  let a0:=(C2 g.Op g.K g.ku.kw g.ku.Word z g.Kids.length B)
  refine VO (lA (.agg a0.toArray) (a0.toArray) d rfl rfl aH oc nb rfl (λd7 d=>ln (kK (Wh K (VA d Mh a0 bL aH (bS a λH a6 a=>VE (Eg d call137 (c7 g (.slice z g.Kids.length B) _ _ (N.mono d.kC) (Q.mono kT.mono d.kC) a6) (λd8 d=>VE (lZ (cs:=[(.string H)].toArray) d (og rfl) (oE gN eH zeroValue9) (λd9 c4 d=>?_))))))))))
  replace d:=d.perm (Nr (Qb (Qb Qz)) Nz)
  refine bS a λc9 Z a=>VE (qF (enc:=BJ) (v:=u) (vs:=(.slice (some ⟨c4,0,none⟩) 1 1)) (R:=x) d (λ_=>rfl) dc V8 gN Mw.1 Mw.2.1 rfl Mw.2.2.1 Mw.2.2.2 rfl rfl G (Sl.lit (enc:=BJ) (l:=[H]) (λ_=>rfl) rfl nb rfl (d.at_ (Ma Mh))) Z (λe0 d1 c3 d Y=>Wa (lu (lG (kL ?_)))))
  replace d:=d.kA (Kr (Db (Db St)))
  exact ⟨n,d1,c9,c3,_,⟨rfl,P⟩,(d.kA St),J,rfl,M,Y,(by rw [b7]; exact a)⟩
 rintro E W ⟨u,y,x,I,⟨n,P⟩,d,J,K,M,G,a⟩
 rw [bo] at a
 refine kL (sg (Wh J (bS a λe8 b0 a=>V (pP rfl rfl b0) (Wh K (bS a λe6 a7 a=>VE (Eg d call209 (U5 u y (⟨#[44,32]⟩:ByteArray) _ _ (G.sl (λ_=>rfl) (λb o hq=>d.at_ (Ml hq))) a7) (λe1 d=>bS a λe9 b1 a=>V (pP rfl rfl b1) (bS a λf0 b2 a=>V (pP rfl rfl b2) (Wa (lu ?_))))))))))
 refine kL ?_
 exact lJ (rQ a d)
theorem Iz:∀(n:Nat) (c:Formula) (a:Value) (r:ByteArray) (w:World) (i:Cx pg0 (hp w)) (g:Sl kz 5 (hp w) a c.Kids) (_:qG n c=some r),
  lC false pg0 137 [(.agg #[(.int .i64 c.Op),(.int .i64 c.K),(.string c.ku.kw),(.string c.ku.Word),a])] w (.string r)
 | 0=>by intros; rename_i h; simp only [qG] at h; cases h
 | n+1=>JL (qG n) (Iz n)
theorem P9 (a:Formula) (g:Value) (r:ByteArray) (w:World) (t:Cx pg0 (hp w)) (c:Sl kz 5 (hp w) g a.Kids) (hm:CB a=some r) :
  lC false pg0 62 [(.agg #[(.int .i64 a.Op),(.int .i64 a.K),(.string a.ku.kw),(.string a.ku.Word),g])] w (.string r):=by
 refine cG 8 func62 rfl (λd=>sg ?_)
 obtain ⟨i,j,rfl⟩:=c.form
 let I:=(C2 a.Op a.K a.ku.kw a.ku.Word i a.Kids.length j)
 refine VE (lM d rfl (λz D d=>Wa (lS (VA d Mh I bL aH (bS hm λG x hm=>VE (Eg d kp (uf a (.slice i a.Kids.length j) _ _ (c.mono kT.mono d.kC) x) (λB d=>V (oF rfl) (ln (CI hm rfl (λu hm=>?_) (λu hm=>?_))))))))))
 ·refine sg (Wa (ln ?_))
  replace d:=d.kA (Db St)
  refine lJ (mL ?_)
  obtain rfl:=sj hm
  exact rP d
 refine kg (VA d Mh I bL aH (bS hm λH k hm=>VE (Eg d call137 ((Iz kY) a (.slice i a.Kids.length j) _ _ (t.mono d.kC) (c.mono kT.mono d.kC) k) (λy d=>Wa (ln ?_)))))
 exact lJ (rQ hm d)
theorem FP (a:mY) (k t c j g G:Value) (r:List mK) (w:World) (D:Cx pg0 (hp w)) (z:Sl kX 15 (hp w) k a.kw.kE) (B:Sl lH 8 (hp w) t a.kw.kQ) (u:Sl kX 15 (hp w) c a.Client.kE) (y:Sl lH 8 (hp w) j a.Client.kQ) (x:Sl kz 5 (hp w) g a.Formula.Kids) (N:Sl qb 2 (hp w) G a.Keys) (hm:wN a=some r) :
  pH true pg0 63 [(.agg #[(.string a.kw.Name),k,t,(.string a.Client.Name),c,j,(.int .i64 a.Formula.Op),(.int .i64 a.Formula.K),(.string a.Formula.ku.kw),(.string a.Formula.ku.Word),g,(.int .i64 a.pj),(.int .i64 a.lP.pJ),(.int .i64 a.lP.pw),(.int .i64 a.mO),(.int .i64 a.nZ),(.int .i64 a.ny),G])] w 116 ou 2 r:=by
 refine Dg 38 func63 rfl (λn=>sg ?_)
 obtain ⟨A1,c2,rfl⟩:=z.form
 obtain ⟨A3,c4,rfl⟩:=B.form
 obtain ⟨A5,c6,rfl⟩:=u.form
 obtain ⟨A7,c8,rfl⟩:=y.form
 obtain ⟨A9,O,rfl⟩:=x.form
 obtain ⟨a5,P,rfl⟩:=N.form
 refine VE (lM n rfl (λR d0 n=>Wa (lr (Wa (ln (kM ?_))))))
 replace n:=n.drew
 have d:=n.has.kA (Kb Sn)
 refine lU d li (X 0 rfl d (kD rfl) (X 1 rfl d (kN Y6 rfl) (XH 2 rfl d (λ_ A=>kB rfl (lg A Mh rfl dJ)) (X 5 rfl d (kD rfl) (X 6 rfl d (kN Un rfl) (X 7 rfl d (EU (i:=0) underlying31 gz rfl rfl dc dc) (XH 8 rfl d (λ_ A=>kB rfl (lg A Mh rfl dJ)) (X 11 rfl d (kD rfl) (X 12 rfl d (kN Un rfl) (X 13 rfl d (EU (i:=1) underlying31 gz rfl rfl dc dc) (XH 14 rfl d (λ_ A=>kB rfl (lg A Mh rfl dJ)) (X 18 rfl d (kD rfl) (X 19 rfl d (kN YZ rfl) (XH 20 rfl d (λ_ A=>kB rfl (lg A Mh rfl dJ)) ?_))))))))))))))
 refine X 23 rfl d (kD rfl) (X 24 rfl d (kN YS rfl) (XH 25 rfl d (λ_ A=>kB rfl (lg A Mh rfl dJ)) (X 28 rfl d (kD rfl) (X 29 rfl d (kN Zb rfl) (XH 30 rfl d (λ_ A=>kB rfl (lg A Mh rfl dJ)) (bS hm λH T hm=>XE 3 rfl (Eg n call50 (Am a.pj _ _ (D.mono n.kC) T) (λW n=>?_))))))))
 have d:=n.has.kA (Kb Sn)
 refine ⟨d,(X 4 rfl d (nP (v:=(.agg (ou (⟨Xj,H⟩:mK)).toArray)) (vC rfl rfl) (CL gF fG eH kr)) (bS hm λd1 U hm=>XE 9 rfl (Eg n call50 (Am a.lP.pJ _ _ (D.mono n.kC) U) (λc0 n=>?_))))⟩
 have d:=n.has.kA (Kb Sn)
 refine ⟨d,(bS hm λd3 a3 hm=>X 10 rfl d (pP rfl rfl a3) (bS hm λd2 Y hm=>XE 15 rfl (Eg n call50 (Am a.lP.pw _ _ (D.mono n.kC) Y) (λc1 n=>?_))))⟩
 have d:=n.has.kA (Kb Sn)
 refine ⟨d,(bS hm λM a4 hm=>X 16 rfl d (pP rfl rfl a4) (X 17 rfl d (nP (v:=(.agg (ou (⟨Xl,M⟩:mK)).toArray)) (vC rfl rfl) (CL gF fG eH kr)) (bS hm λI Z hm=>XE 21 rfl (Eg n call50 (Am a.mO _ _ (D.mono n.kC) Z) (λc3 n=>?_)))))⟩
 have d:=n.has.kA (Kb Sn)
 refine ⟨d,(X 22 rfl d (nP (v:=(.agg (ou (⟨Xi,I⟩:mK)).toArray)) (vC rfl rfl) (CL gF fG eH kr)) (bS hm λJ L hm=>XE 26 rfl (Eg n call50 (Am a.nZ _ _ (D.mono n.kC) L) (λc5 n=>?_))))⟩
 have d:=n.has.kA (Kb Sn)
 refine ⟨d,(X 27 rfl d (nP (v:=(.agg (ou (⟨XC,J⟩:mK)).toArray)) (vC rfl rfl) (CL gF fG eH kr)) (bS hm λK a2 hm=>XE 31 rfl (Eg n call50 (Am a.ny _ _ (D.mono n.kC) a2) (λc7 n=>?_))))⟩
 have d:=n.has.kA (Kb Sn)
 refine ⟨d,(X 32 rfl d (nP (v:=(.agg (ou (⟨W0,K⟩:mK)).toArray)) (vC rfl rfl) (CL gF fG eH kr)) (XE 33 rfl (lZ (cs:=#[(.string Xj),(.string H),(.string Xl),(.string M),(.string Xi),(.string I),(.string XC),(.string J),(.string W0),(.string K)]) n (ZJ rfl rfl rfl rfl rfl) (oE jI jb gF) (λc9 Q n=>?_))))⟩
 have d:=n.has.kA (Db (Kb Sn))
 refine ⟨d,(X 34 rfl d (oe rfl) (lX kr (kL ?_)))⟩
 replace n:=n.kA (Kb (Db St))
 refine lJ ?_
 obtain rfl:=sj hm
 exact nC (v:=(.slice (some ⟨Q,0,none⟩) 5 5)) rfl rfl ⟨_,[(Q,Ob #[(.string Xj),(.string H),(.string Xl),(.string M),(.string Xi),(.string I),(.string XC),(.string J),(.string W0),(.string K)] 116)],rfl,n.uA (λp E=>by rw [bO] at E; subst E; exact Mh) (by simp),(lh.lit (l:=[(⟨Xj,H⟩:mK),(⟨Xl,M⟩:mK),(⟨Xi,I⟩:mK),(⟨XC,J⟩:mK),(⟨W0,K⟩:mK)]) (enc:=ou) rfl dc rfl rfl)⟩
theorem xu (G:Value) (N:List Key) (H:Value) (p:List Key) (I:Value) (f2:(Key×Key)→Option Bool) (r:Bool) (w:World) (x:Sl qb 2 (hp w) G N) (Q:Sl qb 2 (hp w) H p) (L:vL pg0 I (hp w) (vY qb qb) (λ(r:Bool)=>(.bool r)) f2) (hm:oW N p f2=some r) :
  lC false pg0 64 [G,H,I] w (.bool r):=by
 refine cG 32 func64 rfl (λd=>sg (Wa (lS (Wm (V (nv fS rfl x) (Wm (V (nv fS rfl Q) (Wi rfl (lu ?_)))))))))
 refine kL (CI hm rfl (λP hm=>?_) (λP hm=>?_))
 ·refine sg (Wa (lt (mL ?_)))
  obtain rfl:=sj hm
  exact rP d
 refine kS (Wm (V (nv fS rfl x) (Wm (ln (mV (λi E W=>∃y,(E 17= .int .i64 (i:Nat)∧E 16= .int .i64 (N.length:Nat))∧ST false mN w W (hp w) y∧E 1=H∧E 2=I∧E 15=G∧ng p f2 (N.drop i) i=some r) N.length x.len ⟨_,⟨rfl,rfl⟩,(d.kA St),rfl,rfl,rfl,hm⟩ dc dc dc (λ_ _ _ h=>by obtain ⟨_,v,_⟩:=h; exact v) ?_ ?_)))))
 ·rintro a4 E W U ⟨y,⟨n,A⟩,d,z,B,D,a⟩
  obtain ⟨g,c5,a9,O,a3⟩:=mC U
  rw [a9] at a
  refine bg (Wh n (VQ (nN (i:=(a4:Int)) (x0:=g) qb.out fS gi D n x (aX _) O) (λb9 ⟨_,⟨c2,rfl,J⟩,Y⟩=>V (kB rfl (lL d.has Y isAgg119 gi)) (VE (ml d zeroValue119 (λR b6 d=>Wa ?_))))))
  obtain ⟨j,t,rfl⟩:=J.form
  let a0:Value:=(.slice j g.Key.length t)
  refine VO (lA (.agg #[(.string g.lO),a0]) (#[(.string g.lO),a0]) d rfl rfl gi oc nb rfl (λb2 d=>lr (Wh z (Wm (bS a λc M a=>VQ (nN (i:=(a4:Int)) (x0:=c) qb.out fS gi rfl rfl Q (kW M) (kO M)) (λc0 ⟨_,⟨c3,rfl,K⟩,Z⟩=>V (kB rfl (lL d.has Z isAgg119 gi)) (VE (ml d zeroValue119 (λb3 b7 d=>?_)))))))))
  obtain ⟨k,u,rfl⟩:=K.form
  let a5:Value:=(.slice k c.Key.length u)
  refine VO (lA (.agg #[(.string c.lO),a5]) (#[(.string c.lO),a5]) d rfl rfl gi oc nb rfl (λb4 d=>lr (Wh B (VA d (Mt Mh) [(.string g.lO),a0] isAgg119 gi (VA d Mh [(.string c.lO),a5] isAgg119 gi (bS a λc1 a2 a=>VE (qQ (g,c) d L (lx.refl _) (vY.mk ye ye (qb.mk ⟨a0,rfl,J⟩) (qb.mk ⟨a5,rfl,K⟩) d.kC) rfl (qT rfl rfl) a2 (λb5 d=>V (oF rfl) (ln ?_)))))))))
  replace d:=d.kA (Db (Db St))
  refine CI a rfl (λT a=>?_) (λT a=>?_)
  ·refine sg (Wa (lt (pO (mL (pO (mL ?_))))))
   obtain rfl:=sj a
   exact rP d
  exact nf (lG (kL ⟨n,_,⟨rfl,A⟩,(d.kA St),z,B,D,(by rw [a3]; exact a)⟩))
 rintro E W ⟨y,⟨n,A⟩,d,z,B,D,a⟩
 rw [bo] at a
 exact kL (sg (Wa (lt (rQ a d))))
theorem KA (t:Key) (j:Value) (u:Key) (k:Value) (r:Bool) (w:World) (g:Sl (Pl (mh .u8)) 1 (hp w) j t.Key) (i:Sl (Pl (mh .u8)) 1 (hp w) k u.Key) (hm:tL t u=some r) :
  lC true pg0 65 [(.agg #[(.string t.lO),j]),(.agg #[(.string u.lO),k])] w (.bool r):=by
 refine cG 17 func65 rfl (λd=>sg ?_)
 obtain ⟨G,I,rfl⟩:=g.form
 refine VE (lM d rfl (λU Z d=>?_))
 obtain ⟨H,J,rfl⟩:=i.form
 refine VE (lM d rfl (λY n d=>Wa (lr (Wf Nt (VB d (Mt Mh) rfl rfl cN (Wf Nt (VB d Mh rfl rfl cN (V (Gt rfl rfl rfl) (Wm (LJ hm (λz E W=>∃y,ST true mN w W (hp w) y∧E 4=(.bool false)∧E 16=(.bool z)) 6 ?_ (λz c x=>?_)))))))))))
 ·rintro T E W ⟨y,d,N,K⟩ B
  exact Wg K (lt (rQ B d))
 refine bC c (λa c=>?_) (λa c=>?_)
 ·refine ug a (kN No rfl) (ug a (kB rfl (lg d.has (Mt Mh) rfl gC)) (ug a (kN No rfl) (ug a (kB rfl (lg d.has Mh rfl gC)) (bS c λQ D c=>ue a (Eg d call72 (H7 (.slice G t.Key.length I) t.Key (.slice H u.Key.length J) u.Key _ _ (g.mono (Pl.mono _) d.kC) (i.mono (Pl.mono _) d.kC) D) (λM d=>V (lK (cB a) rfl) ?_))))))
  obtain rfl:=sj c
  exact x _ _ ⟨_,(d.kA (Db (Db St))),rfl,rfl⟩
 refine un a (un a (un a (un a (un a (V (lN (cB a) rfl) ?_)))))
 obtain rfl:=sj c
 exact x _ _ ⟨_,(d.kA (Db (Db St))),rfl,rfl⟩
set_option maxHeartbeats 4000000 in
theorem Ib (c:mY) (Y a4 M U N b0:Value) (a:mY) (a2 a5 Q Z T b1:Value) (r:ByteArray) (w:World) (d9:Cx pg0 (hp w)) (D:Sl kX 15 (hp w) Y c.kw.kE) (I:Sl lH 8 (hp w) a4 c.kw.kQ) (u:Sl kX 15 (hp w) M c.Client.kE) (B:Sl lH 8 (hp w) U c.Client.kQ) (y:Sl kz 5 (hp w) N c.Formula.Kids) (a6:Sl qb 2 (hp w) b0 c.Keys) (H:Sl kX 15 (hp w) a2 a.kw.kE) (J:Sl lH 8 (hp w) a5 a.kw.kQ) (z:Sl kX 15 (hp w) Q a.Client.kE) (G:Sl lH 8 (hp w) Z a.Client.kQ) (j:Sl kz 5 (hp w) T a.Formula.Kids) (a3:Sl qb 2 (hp w) b1 a.Keys) (hm:xA c a=some r) :
  lC false pg0 25 [(.agg #[(.string c.kw.Name),Y,a4,(.string c.Client.Name),M,U,(.int .i64 c.Formula.Op),(.int .i64 c.Formula.K),(.string c.Formula.ku.kw),(.string c.Formula.ku.Word),N,(.int .i64 c.pj),(.int .i64 c.lP.pJ),(.int .i64 c.lP.pw),(.int .i64 c.mO),(.int .i64 c.nZ),(.int .i64 c.ny),b0]),(.agg #[(.string a.kw.Name),a2,a5,(.string a.Client.Name),Q,Z,(.int .i64 a.Formula.Op),(.int .i64 a.Formula.K),(.string a.Formula.ku.kw),(.string a.Formula.ku.Word),T,(.int .i64 a.pj),(.int .i64 a.lP.pJ),(.int .i64 a.lP.pw),(.int .i64 a.mO),(.int .i64 a.nZ),(.int .i64 a.ny),b1])] w (.string r):=by
 refine cG 74 func25 rfl (λd=>sg ?_)
 obtain ⟨A1,c2,rfl⟩:=D.form
 obtain ⟨A3,c4,rfl⟩:=I.form
 obtain ⟨A5,c6,rfl⟩:=u.form
 obtain ⟨A7,c8,rfl⟩:=B.form
 obtain ⟨A9,b6,rfl⟩:=y.form
 obtain ⟨d0,d2,rfl⟩:=a6.form
 let a1:=(C1 c.kw.Name A1 c.kw.kE.length c2 A3 c.kw.kQ.length c4 c.Client.Name A5 c.Client.kE.length c6 A7 c.Client.kQ.length c8 c.Formula.Op c.Formula.K c.Formula.ku.kw c.Formula.ku.Word A9 c.Formula.Kids.length b6 c.pj c.lP.pJ c.lP.pw c.mO c.nZ c.ny d0 c.Keys.length d2)
 refine VE (lM d rfl (λn6 f1 d=>?_))
 obtain ⟨b2,b7,rfl⟩:=H.form
 obtain ⟨b3,b9,rfl⟩:=J.form
 obtain ⟨b4,c0,rfl⟩:=z.form
 obtain ⟨b5,c1,rfl⟩:=G.form
 obtain ⟨a7,a8,rfl⟩:=j.form
 let e1:Value:=(.slice a7 a.Formula.Kids.length a8)
 let b8:=(C2 a.Formula.Op a.Formula.K a.Formula.ku.kw a.Formula.ku.Word a7 a.Formula.Kids.length a8)
 obtain ⟨d1,d3,rfl⟩:=a3.form
 let a0:=(C1 a.kw.Name b2 a.kw.kE.length b7 b3 a.kw.kQ.length b9 a.Client.Name b4 a.Client.kE.length c0 b5 a.Client.kQ.length c1 a.Formula.Op a.Formula.K a.Formula.ku.kw a.Formula.ku.Word a7 a.Formula.Kids.length a8 a.pj a.lP.pJ a.lP.pw a.mO a.nZ a.ny d1 a.Keys.length d3)
 refine VE (lM d rfl (λn7 f2 d=>Wa (ln (kM ?_))))
 replace d:=d.drew
 have n:=d.has.kA (Kb (Kb Sn))
 refine lU n li (X 0 rfl n (kN yA rfl) (XH 1 rfl n (λ_ v=>kB rfl (kI v (Mt Mh) (C6 c.kw.Name A1 c.kw.kE.length c2 A3 c.kw.kQ.length c4) rfl dW dC)) (X 2 rfl n (kN yA rfl) (XH 3 rfl n (λ_ v=>kB rfl (kI v Mh (C6 a.kw.Name b2 a.kw.kE.length b7 b3 a.kw.kQ.length b9) rfl dW dC)) (X 5 rfl n (kN wP rfl) (XH 6 rfl n (λ_ v=>kB rfl (kI v (Mt Mh) (C6 c.Client.Name A5 c.Client.kE.length c6 A7 c.Client.kQ.length c8) rfl dW dC)) (X 7 rfl n (kN wP rfl) (XH 8 rfl n (λ_ v=>kB rfl (kI v Mh (C6 a.Client.Name b4 a.Client.kE.length c0 b5 a.Client.kQ.length c1) rfl dW dC)) (bS hm λo2 j4 hm=>XE 4 rfl (Eg d call60 (H3 (⟨#[111,119,110,101,114]⟩:ByteArray) c.kw (.slice A1 c.kw.kE.length c2) (.slice A3 c.kw.kQ.length c4) a.kw (.slice b2 a.kw.kE.length b7) (.slice b3 a.kw.kQ.length b9) _ _ (D.mono kZ.mono d.kC) (I.mono mB.mono d.kC) (H.mono kZ.mono d.kC) (J.mono mB.mono d.kC) j4) (λn8 d=>?_)))))))))))
 have n:=d.has.kA (Kb (Kb Sn))
 refine ⟨n,(bS hm λo3 j5 hm=>XE 9 rfl (Eg d call60 (H3 (⟨#[99,108,105,101,110,116]⟩:ByteArray) c.Client (.slice A5 c.Client.kE.length c6) (.slice A7 c.Client.kQ.length c8) a.Client (.slice b4 a.Client.kE.length c0) (.slice b5 a.Client.kQ.length c1) _ _ (u.mono kZ.mono d.kC) (B.mono mB.mono d.kC) (z.mono kZ.mono d.kC) (G.mono mB.mono d.kC) j5) (λn9 d=>?_)))⟩
 have n:=d.has.kA (Kb (Kb Sn))
 refine ⟨n,(bS hm λo4 j8 hm=>X 10 rfl n (pP rfl rfl j8) (X 11 rfl n (oe rfl) (lX kr (kL (kM (CJ hm (λg0 E W=>∃i6,ST false mN w W (hp w) ((f2,Ol a0 34)::((f1,Ol a1 34)::i6))∧E 2=(.pointer (some ⟨f1,0,none⟩))∧E 3=(.pointer (some ⟨f2,0,none⟩))∧E 5=(.string g0)) (λg0 t=>?_) ?_))))))⟩
 ·refine sg (Wf I9 (VA d (Mt Mh) (C2 c.Formula.Op c.Formula.K c.Formula.ku.kw c.Formula.ku.Word A9 c.Formula.Kids.length b6) bL aH (Wf I9 (VA d Mh b8 bL aH (bS t λm2 h3 t=>VE (Eg d call61 ((yG kY) c.Formula (.slice A9 c.Formula.Kids.length b6) a.Formula e1 _ _ (y.mono kT.mono d.kC) (j.mono kT.mono d.kC) h3) (λl5 d=>V (oF rfl) (ln (CI t rfl (λg4 t=>?_) (λg4 t=>?_))))))))))
  ·refine kK (Wm (Wf I9 (VA d Mh b8 bL aH (bS t λm3 h4 t=>VE (Eg d call62 (P9 a.Formula e1 _ _ (d9.mono d.kC) (j.mono kT.mono d.kC) h4) (λl6 d=>bS t λn0 i2 t=>V (pP rfl rfl i2) (bS t λn1 i3 t=>V (pP rfl rfl i3) (bS t λn2 i4 t=>V (pP rfl rfl i4) (Wa (ln ?_))))))))))
   obtain rfl:=sj t
   exact ⟨_,(d.kA St),rfl,rfl,rfl⟩
  refine kn ?_
  obtain rfl:=sj t
  exact ⟨_,(d.kA St),rfl,rfl,rfl⟩
 rintro k9 E W ⟨i6,d,i7,i8,k3⟩ O
 refine sg (V (kB i7 (kI d.has (Mt Mh) a1 rfl ej dD)) (bS O λk6 j6 O=>VE (Ct d call63 (pH.nx (FP c (.slice A1 c.kw.kE.length c2) (.slice A3 c.kw.kQ.length c4) (.slice A5 c.Client.kE.length c6) (.slice A7 c.Client.kQ.length c8) (.slice A9 c.Formula.Kids.length b6) (.slice d0 c.Keys.length d2) _ _ (d9.mono d.kC) (D.mono kZ.mono d.kC) (I.mono mB.mono d.kC) (u.mono kZ.mono d.kC) (B.mono mB.mono d.kC) (y.mono kT.mono d.kC) (a6.mono ye.mono d.kC) j6)) (λo0 k7 o5 k1 d K ab f6=>Wa (lS (V (kB i8 (kI d.has (Ma Mh) a0 rfl ej dD)) (bS O λf8 j7 O=>VE (Ct d call63 (pH.nx (FP a (.slice b2 a.kw.kE.length b7) (.slice b3 a.kw.kQ.length b9) (.slice b4 a.Client.kE.length c0) (.slice b5 a.Client.kQ.length c1) e1 (.slice d1 a.Keys.length d3) _ _ (d9.mono (K.trans d.kC)) (H.mono kZ.mono (K.trans d.kC)) (J.mono mB.mono (K.trans d.kC)) (z.mono kZ.mono (K.trans d.kC)) (G.mono mB.mono (K.trans d.kC)) (j.mono kT.mono (K.trans d.kC)) (a3.mono ye.mono (K.trans d.kC)) j7)) (λo1 k8 i9 k2 d d8 ad d7=>V (tI jI rfl d7) ?_)))))))))
 refine Wm (ln (mV (λi E W=>∃P e6,(E 38= .int .i64 (i:Nat)∧E 37= .int .i64 (f8.length:Nat))∧ST false mN w W i9 ((f2,Ol a0 34)::((f1,Ol a1 34)::(k2++(k1++e6))))∧E 2=(.pointer (some ⟨f1,0,none⟩))∧E 3=(.pointer (some ⟨f2,0,none⟩))∧E 5=(.string P)∧E 6=k7∧E 36=k8∧qZ k6 c a (f8.drop i) i P=some r) f8.length d7.len ⟨k9,_,⟨rfl,rfl⟩,(d.kA (Sb (Pr (Pr Pz)) (Sb (Pr (Pr Pz)) St))),i7,i8,k3,rfl,rfl,O⟩ dc dc dc (λ_ _ _ h=>by obtain ⟨_,_,aa,_⟩:=h; exact aa) ?_ ?_))
 ·rintro f7 E W g7 ⟨P,e6,⟨R,eN⟩,d,d4,A,L,d5,d6,g⟩
  obtain ⟨a9,l0,i5,f3,f4⟩:=mC g7
  rw [i5] at g
  refine bg (Wh R (VQ (lI (i:=(f7:Int)) (x0:=a9) jI jb d6 R d7 (aX _) f3) (λl8 g9=>V (kB rfl (na d.has (λp hq=>(Mt (Mt (Ml hq)))) d7 FF g9 f3 isAgg116 jb)) (VE (ml d gF (λl1 l7 d=>Wa (VO (lA (.agg (ou a9).toArray) ((ou a9).toArray) d rfl rfl jb (Ku a9) nb rfl (λl2 d=>ln (kM ?_))))))))))
  replace d:=d.drew
  have n:=d.has.kA (Kb (Db (Db (Dr (Kr Sn)))))
  refine lU n li (XH 0 rfl n (λ_ v=>kB rfl (kI v Mh (ou a9) rfl isAgg116 jb)) (X 1 rfl n (kD d5) (X 2 rfl n (kD rfl) (bS g λg1 e0 g=>XQ 3 rfl n (lI (i:=(f7:Int)) (x0:=g1) jI jb rfl rfl f6 (kW e0) (kO e0)) (λl9 h0=>XH 4 rfl n (λ_ v=>kB rfl (na v (λp hq=>(Mt (Ml hq))) f6 FF h0 (kO e0) isAgg116 jb)) (X 5 rfl n (TH rfl rfl (uC eqGuardType116) (MV (JS _ a9 g1))) (lX kr (kL (CI g rfl (λg2 g=>?_) (λg2 g=>?_))))))))))
  ·refine kK (Wh L (V (EU (i:=0) fG eH rfl rfl dc dc) (VB d Mh rfl rfl cN (bS g λm4 h5 g=>V (pP rfl rfl h5) (V (EU (i:=1) fG eH rfl rfl dc dc) (VB d Mh rfl rfl cN (bS g λm5 h6 g=>V (pP rfl rfl h6) (bS g λm6 h7 g=>V (pP rfl rfl h7) (bS g λj9 h8 g=>V (pP rfl rfl h8) (Wa ?_))))))))))
   refine lu (lG (kL ?_))
   replace d:=d.kA (Db St)
   exact ⟨R,j9,_,⟨rfl,eN⟩,(d.kA St),d4,A,rfl,d5,d6,(by rw [f4]; exact g)⟩
  refine nf (lG (kL ?_))
  replace d:=d.kA (Db St)
  exact ⟨R,P,_,⟨rfl,eN⟩,(d.kA St),d4,A,L,d5,d6,(by rw [f4]; exact g)⟩
 rintro E W ⟨P,e6,⟨R,eN⟩,d,d4,A,L,d5,d6,g⟩
 rw [bo] at g
 refine kL ?_
 replace d:=d.kA (Kb (Kb (Dr (Dr St))))
 refine kM (CJ g (λf9 E W=>∃f5,ST false mN w W i9 f5∧E 5=(.string f9)) (λf9 k=>?_) ?_)
 ·refine sg (V (kN Mj d4) (VB d (Mt Mh) rfl rfl isAgg32 (V (kN Mj A) (VB d Mh rfl rfl isAgg32 (bS k λm0 h1 k=>VE (Eg d call64 (xu (.slice d0 c.Keys.length d2) c.Keys (.slice d1 a.Keys.length d3) a.Keys (.func (.func 65) #[] #[]) (λ(x:(Key×Key))=>tL x.1 x.2) _ _ (a6.mono ye.mono ((K.trans d8).trans d.kC)) (a3.mono ye.mono ((K.trans d8).trans d.kC)) ⟨65,#[],#[],rfl,call65,λW x vs r hs hR hm=>by obtain ⟨_,_,rfl,k4,k5⟩:=hR; obtain ⟨u0,rfl,k0⟩:=k4.out; obtain ⟨t0,rfl,j0⟩:=k5.out; exact (KA x.1 u0 x.2 t0 r W k0 j0 hm).nx⟩ h1) (λl3 d=>V (oF rfl) (ln ?_))))))))
  replace d:=d.kA (Kb (Db St))
  refine CI k rfl (λg3 k=>?_) (λg3 k=>?_)
  ·refine kK (Wh L (V (kN Mj A) (VB d Mh rfl rfl isAgg32 (V (nv fS rfl a3) (bS k λm1 h2 k=>VE (Eg d call50 (lC.nx (Am (a.Keys.length:Int) _ _ (d9.mono ((K.trans d8).trans d.kC)) h2)) (λl4 d=>bS k λm7 h9 k=>V (pP rfl rfl h9) (bS k λm8 i0 k=>V (pP rfl rfl i0) (bS k λm9 i1 k=>V (pP rfl rfl i1) (Wa (lu ?_)))))))))))
   refine kL ?_
   obtain rfl:=sj k
   exact ⟨_,(d.kA (Db St)),rfl⟩
  refine kn ?_
  obtain rfl:=sj k
  exact ⟨_,(d.kA (Db St)),L⟩
 rintro n5 E W ⟨f5,d,j3⟩ g8
 exact sg (Wh j3 (Wa (lt (rQ g8 d))))
theorem Ik (j:Value) (t:List kv) (c:kv) (r:Int) (w:World) (g:Sl (Pl kF) 9 (hp w) j t) (hm:zK t c=some r) :
  lC true pg0 242 [j,(.agg (kF c).toArray)] w (.int .i64 r):=by
 refine cG 19 func242 rfl (λd=>sg (VE (lM d rfl (λQ J d=>Wa (lS (Wm (V (nv bJ rfl g) (Wm (ln ?_)))))))))
 refine mV (λi E W=>∃k,(E 8= .int .i64 (i:Nat)∧E 7= .int .i64 (t.length:Nat))∧ST true mN w W (hp w) ((J,Ol (kF c) 52)::k)∧E 0=j∧E 3=(.pointer (some ⟨J,0,none⟩))∧ta c (t.drop i) i=some r) t.length g.len ⟨_,⟨rfl,rfl⟩,(d.kA St),rfl,rfl,hm⟩ dc dc dc (λ_ _ _ h=>by obtain ⟨_,v,_⟩:=h; exact v) ?_ ?_
 ·rintro K E W B ⟨k,⟨p,L⟩,d,u,x,a⟩
  obtain ⟨y,M,H,G,I⟩:=mC B
  rw [H] at a
  refine bg (Wh p (Wa (ln (kM ?_))))
  replace d:=d.drew
  have n:=d.has.kA (Kb Sn)
  refine lU n li (XH 0 rfl n (λ_ A=>kB x (kI A Mh (kF c) rfl cU bE)) (X 1 rfl n (kD u) (X 2 rfl n (kD rfl) (XQ 3 rfl n (uR (enc:=kF) (i:=(K:Int)) (x0:=y) bJ bE rfl rfl g (aX _) G) (λN D=>XH 4 rfl n (λ_ A=>kB rfl (lL A D cU bE)) (X 5 rfl n (ER rfl rfl (uC gh) (AY (B9 _ c y))) (lX kr (kL (CI a rfl (λz a=>?_) (λz a=>?_))))))))))
  ·refine sg (Wm (Wa (ln ?_)))
   replace d:=d.kA (Db St)
   refine lJ (pO (mL (pO (mL ?_))))
   obtain rfl:=sj a
   exact rP d
  exact nf (lG (kL ⟨p,_,⟨rfl,L⟩,(d.kA St),u,x,(by rw [I]; exact a)⟩))
 rintro E W ⟨k,⟨p,L⟩,d,u,x,a⟩
 rw [bo] at a
 refine kL ?_
 replace d:=d.kA (Db St)
 exact sg (Wa (lt (rQ a d)))
theorem Gv (a:Value) (g:List kv) (c:kv) (r:Bool) (w:World) (i:Sl (Pl kF) 9 (hp w) a g) (hm:vo g c=some r) :
  lC true pg0 179 [a,(.agg (kF c).toArray)] w (.bool r):=by
 refine cG 9 func179 rfl (λd=>sg (VE (lM d rfl (λk u d=>Wa (lr (Wm (VA d Mh (kF c) cU bE (bS hm λx j hm=>VE (Eg d call242 (Ik a g c _ _ (i.mono (Pl.mono _) d.kC) j) (λt d=>Wi rfl (Wa ?_)))))))))))
 refine ln ?_
 exact lJ (rQ hm d)
theorem Hy (a:Value) (g:List kv) (c:kv) (r:Bool) (w:World) (i:Sl (Pl kF) 9 (hp w) a g) (hm:wA g c=some r) :
  lC true pg0 111 [a,(.agg (kF c).toArray)] w (.bool r):=by
 refine cG 8 func111 rfl (λd=>sg (VE (lM d rfl (λk u d=>Wa (lr (Wm (VA d Mh (kF c) cU bE (bS hm λx j hm=>VE (Eg d call179 (Gv a g c _ _ (i.mono (Pl.mono _) d.kC) j) (λt d=>Wa (lu ?_)))))))))))
 refine kL ?_
 exact lJ (rQ hm d)
theorem Qw (a:kv) (r:List ku) (w:World) (hm:CM a=some r) :
  pH true pg0 320 [(.agg (kF a).toArray)] w 27 kJ 2 r:=by
 refine Dg 27 func320 rfl (λd=>sg (VE (lM d rfl (λW2 A d=>Wa (lS (VA d Mh (kF a) cU bE (bS hm λr3 P hm=>VE (Eg d call144 (Av a _ _  P) (λW5 d=>V (oF rfl) (lu ?_))))))))))
 refine kL (CI hm rfl (λO hm=>?_) (λO hm=>?_))
 ·refine sg (Wa (ln ?_))
  replace d:=d.kA (Db St)
  refine lJ (mL ?_)
  obtain rfl:=sj hm
  exact nC (v:=(.slice none 0 0)) rfl rfl ⟨_,[],rfl,d.uA (λp n=>by cases n) (by simp),lh.nil _ _ _⟩
 refine kg (Wf xL (VA d Mh (kJ a.Head) bZ bF (VE (lZ (cs:=(kJ a.Head).toArray) d (og rfl) (oE fT bF fO) (λW8 y d=>Wa (ln (kM (CJ hm (λI E W=>∃j i z,ST true mN w W (hp w) ((A,Ol (kF a) 52)::(i++z))∧E 1=(.pointer (some ⟨A,0,none⟩))∧E 3=j∧lh 27 kJ 2 j I i) (λI g=>?_) ?_))))))))
 ·refine sg (Wf Bq (VB d (Mt Mh) rfl rfl dJ (Wi rfl (ln (CI g rfl (λQ g=>?_) (λQ g=>?_))))))
  ·refine kK (Wm (Wf rK (VA d (Mt Mh) (kJ a.B) bZ bF (VE (lZ (cs:=(kJ a.B).toArray) d (og rfl) (oE fT bF fO) (λb3 a4 d=>?_))))))
   replace d:=d.perm (Nb (Pb Pz) Nz)
   refine bS g λc0 T g=>VE (qF (enc:=kJ) (v:=(.slice (some ⟨y,0,none⟩) 1 1)) (vs:=(.slice (some ⟨a4,0,none⟩) 1 1)) (R:=[(y,Ol (kJ a.Head) 27)]) d Hc dc AZ fT Ee.1 Ee.2.1 rfl Ee.2.2.1 Ee.2.2.2 rfl rfl (lh.lit (l:=[a.Head]) (enc:=kJ) rfl dc rfl rfl) (Sl.lit (enc:=kJ) (l:=[a.B]) Hc rfl nb rfl (d.at_ (Mt Mh))) T (λb4 a9 L d K=>Wa (ln ?_)))
   obtain rfl:=sj g
   exact ⟨a9,L,_,(d.kA (Sb (Pr (Pb Pz)) (Kr (Db St)))),rfl,rfl,K⟩
  refine kn ?_
  obtain rfl:=sj g
  replace d:=d.I3
  exact ⟨(.slice (some ⟨y,0,none⟩) 1 1),[(y,Ol (kJ a.Head) 27)],_,(d.kA (Sb (Pr Pz) St)),rfl,rfl,(lh.lit (l:=[a.Head]) (enc:=kJ) rfl dc rfl rfl)⟩
 rintro b5 E W ⟨j,i,z,d,D,G,u⟩ U
 refine kM (CJ U (λH E W=>∃t k B,ST true mN w W (hp w) (k++B)∧E 3=t∧lh 27 kJ 2 t H k) (λH c=>?_) ?_)
 ·refine sg (V (kN Bq D) (VB d Mh rfl rfl dJ (Wi rfl (ln (CI c rfl (λM c=>?_) (λM c=>?_))))))
  ·refine kK (Wh G (V (kN Bm D) (VA d Mh (kJ a.C) bZ bF (VE (lZ (cs:=(kJ a.C).toArray) d (og rfl) (oE fT bF fO) (λb0 a3 d=>?_))))))
   replace d:=d.perm (Nr (Qb (Qb Qz)) Nz)
   refine bS c λb9 N c=>VE (qF (enc:=kJ) (v:=j) (vs:=(.slice (some ⟨a3,0,none⟩) 1 1)) (R:=i) d Hc dc AZ fT Ee.1 Ee.2.1 rfl Ee.2.2.1 Ee.2.2.2 rfl rfl u (Sl.lit (enc:=kJ) (l:=[a.C]) Hc rfl nb rfl (d.at_ (Ma Mh))) N (λb2 a8 Z d J=>Wa (ln ?_)))
   obtain rfl:=sj c
   exact ⟨a8,Z,_,(d.kA (Kr (Db (Db St)))),rfl,J⟩
  refine kn ?_
  obtain rfl:=sj c
  exact ⟨j,i,_,(d.kA (Db St)),G,u⟩
 rintro b6 E W ⟨t,k,B,d,a5,x⟩ Y
 refine sg (Wh a5 (Wa (lt ?_)))
 obtain rfl:=sj Y
 exact nC (v:=t) rfl rfl ⟨_,k,rfl,d.uA (λp n=>(Ml n)) x.nd,x⟩
theorem HV (M:Nat) (u:Value) (a9:List (ku×(List (ByteArray×Bool)))) (G:LO) (D:Value) (a0:List kv) (B:LO) (a:Value) (Y:List (ku×(List kv))) (I:LO) (c:Value) (K:List (ByteArray×(List kv))) (t:LO) (j:Value) (a4:List kV) (y:LO) (J:Int) (H:kv) (r:((List kv)×(List (ku×(List kv)))×(List (ByteArray×(List kv))))) (w:World) {μ0:lE} (h0:pn μ0 ((M,Ob #[u,D,a,c,j,(.int .i64 J)] 246)::(G++(B++(I++(t++(y++[])))))) w) (e9:nA (λ(x:ku)=>(.agg (kJ x).toArray)) (nz Value.string (λ(x:Bool)=>(Value.bool x))) u a9 G) (a6:lh 52 kF 9 D a0 B) (b2:nA (λ(x:ku)=>(.agg (kJ x).toArray)) (lh 52 kF 9) a Y I) (T:nA Value.string (lh 52 kF 9) c K t) (e1:sP 285 nB 3 j a4 y) (hm:wy a9 a0 Y K a4 J H=some r) :
  mi true pg0 261 [(.pointer (some ⟨M,0,none⟩)),(.agg (kF H).toArray)] w ((M,Ob #[u,D,a,c,j,(.int .i64 J)] 246)::(G++(B++(I++(t++(y++[])))))) (λv L1 W'=>∃y1 S2 S4 S6,v=(.tuple #[])∧L1=((M,Ob #[u,y1,a,c,j,(.int .i64 J)] 246)::(G++(S2++(S4++(S6++(y++[]))))))∧lh 52 kF 9 y1 r.1 S2∧nA (λ(x:ku)=>(.agg (kJ x).toArray)) (lh 52 kF 9) a r.2.1 S4∧nA Value.string (lh 52 kF 9) c r.2.2 S6):=by
 refine xq h0 55 func261 rfl (λd=>sg (VE (lM d rfl (λW2 b1 d=>ln (kM ?_)))))
 replace d:=d.drew
 have n:=d.has.kA (Kb Sn)
 have p:=d.has.kA (Db (Kb Sn))
 refine rC 10 n p li (lf 0 rfl kr (.inl rfl) rfl dc (λ_ _ h=>⟨h.1,lm br h.2⟩) ⟨n,λ_=>p⟩ (λ_ _ _ _=>kD rfl) (lf 1 rfl kr (.inl rfl) rfl dc (λ_ _ h=>⟨h.1,lm br h.2⟩) ⟨n,λ_=>p⟩ (λ_ _ _ _=>kD rfl) (lf 2 rfl kr (.inl rfl) rfl dc (λ_ _ h=>⟨h.1,lm br h.2⟩) ⟨n,λ_=>p⟩ (λ_ _ _ _=>oV rfl) (lf 3 rfl kr (.inl rfl) rfl dc (λ_ _ h=>⟨h.1,lm br h.2⟩) ⟨n,λ_=>p⟩ (λ_ _ _ _=>kN MM rfl) (lf 4 rfl kr (.inl rfl) rfl dc (λ_ _ h=>⟨h.1,lm br h.2⟩) ⟨n,λ_=>p⟩ (λl W L O=>have A:=(O.2 (L.yj 10 [4] kr rfl)); kB rfl (lg A Mh rfl jA)) (lf 5 rfl kr (.inl rfl) rfl dc (λ_ _ h=>⟨h.1,lm br h.2⟩) ⟨n,λ_=>p⟩ (λl W L O=>have A:=O.1; kB rfl (kI A Mh (kF H) rfl cU bE)) (XE 6 rfl (lZ (cs:=(kF H).toArray) d (og rfl) (oE bJ bE dU) (λk0 g0 d=>?_)))))))))
 have n:=d.has.kA (Db (Kb Sn))
 have p:=d.has.kA (Db (Db (Kb Sn)))
 refine ⟨⟨n,λ_=>p⟩,?_⟩
 replace d:=d.perm (Nr (Qb (Qb (Qb (Qr Qz)))) Nz)
 refine bS hm λa5 f0 hm=>XE 7 rfl (qF (enc:=kF) (v:=D) (vs:=(.slice (some ⟨g0,0,none⟩) 1 1)) (R:=B) d mR dc su bJ rH.1 rH.2.1 rfl rH.2.2.1 rH.2.2.2 rfl rfl a6 (Sl.lit (enc:=kF) (l:=[H]) mR rfl nb rfl (d.at_ (Ma Mh))) f0 (λk1 k4 b7 d b5=>?_))
 have n:=d.has.kA (Dr (Db (Kb Sn)))
 have p:=d.has.kA (Dr (Db (Db (Kb Sn))))
 refine ⟨⟨n,λ_=>p⟩,(lf 8 rfl kr (.inl rfl) rfl dc (λ_ _ h=>⟨h.1,lm br h.2⟩) ⟨n,λ_=>p⟩ (λ_ _ _ _=>oV rfl) (lf 9 rfl kr (.inl rfl) rfl dc (λ_ _ h=>⟨h.1,lm br h.2⟩) ⟨n,λ_=>p⟩ (λ_ _ _ _=>kN MM rfl) ?_))⟩
 obtain ⟨a8,b0,rfl⟩:=b5.form
 let P:Value:=(.slice a8 a5.length b0)
 replace d:=d.perm (Nb (Pr (Pb (Pb Pz))) Nz)
 refine XO 10 rfl (lA P (#[u,P,a,c,j,(.int .i64 J)]) d rfl rfl sizeOf45 oc nb rfl (λk2 d=>?_))
 have n:=d.has.kA (Db (Dr (Db (Kb Sn))))
 refine ⟨⟨n,λh=>tQ kr h⟩,(lX kr (kL ?_))⟩
 replace d:=d.kA (Kb (Kr (Db St)))
 refine kM (sg (VA d (Mt (Ma Mh)) (kF H) cU bE (bS hm λc1 f1 hm=>VE (Ct d call320 (Qw H _ _  f1) (λk3 k5 k6 j9 d g4 ab e8=>?_)))))
 let b8:=(c1.drop (Int.toNat 1))
 obtain ⟨g3,d,g7,ad,f2⟩:=ST.VJ d e8 Hc
 refine bS hm λ_ b9 hm=>VQ (J6 (i:=1) fT bF rfl rfl f2 (A6 b9) (AL b9)) (λg1 b6=>V (nv fT rfl b6.1) (Wm (ln (mV (λi E W=>∃a3 U b3,(E 20= .int .i64 (i:Nat)∧E 19= .int .i64 (b8.length:Nat))∧ST true (keys ((M,Ob #[u,D,a,c,j,(.int .i64 J)] 246)::(G++(B++(I++(t++(y++[]))))))) w W g3 ((M,Ob #[u,P,a,c,j,(.int .i64 J)] 246)::((b1,Ol (kF H) 52)::(U++(b7++(G++(t++(y++b3)))))))∧E 0=(.pointer (some ⟨M,0,none⟩))∧E 3=(.pointer (some ⟨b1,0,none⟩))∧E 18=g1∧nA (λ(x:ku)=>(.agg (kJ x).toArray)) (lh 52 kF 9) a a3 U∧qY H K a5 (b8.drop i) a3=some r) b8.length b6.1.len ⟨Y,I,_,⟨rfl,rfl⟩,(d.kA (Kb (Sb (Pr Pz) (Sr (Qr (Qr Qz)) St)))),rfl,rfl,rfl,b2,hm⟩ dc dc dc (λ_ _ _ h=>by obtain ⟨_,_,_,aa,_⟩:=h; exact aa) ?_ ?_))))
 ·rintro f3 E W d3 ⟨a3,U,b3,⟨eI,eN⟩,d,a2,N,b4,Z,g⟩
  obtain ⟨Q,h4,d8,d7,d9⟩:=mC d3
  rw [d8] at g
  refine bg (VQ (uR (enc:=kJ) (i:=(f3:Int)) (x0:=Q) fT bF b4 eI b6.1 (aX _) d7) (λj4 d4=>V (kB rfl (lL d.has d4 bZ bF)) (VE (ml d fO (λi1 j0 d=>VO (lA (.agg (kJ Q).toArray) ((kJ Q).toArray) d rfl rfl bF (AZ Q) nb rfl (λi2 d=>ln ?_)))))))
  replace d:=d.drew
  have n:=d.has.kA (Kb (Kb (Kb Sn)))
  refine lU n li (X 0 rfl n (kD a2) (X 1 rfl n (oV rfl) (X 2 rfl n (kN Ri rfl) (XH 3 rfl n (λ_ A=>kB rfl (lg A (Mt Mh) rfl isAgg243)) (XH 4 rfl n (λ_ A=>kB rfl (kI A Mh (kJ Q) rfl bZ bF)) (XH 5 rfl n (λ_ A=>kB N (kI A (Mt (Mt Mh)) (kF H) rfl cU bE)) (XE 6 rfl (lZ (cs:=(kF H).toArray) d (og rfl) (oE bJ bE dU) (λi3 e6 d=>?_)))))))))
  have n:=d.has.kA (Db (Kb (Kb (Kb Sn))))
  refine ⟨n,?_⟩
  obtain ⟨h1,d1⟩:=Z
  replace d:=d.perm (Nr (Qb (Qb (Qb (Qb Qz)))) Nz)
  refine XE 7 rfl (SZ (k:=Q) (x0:=[])  lj EA underlying243 ki (lh.nil _ _ _) d d1 rfl rfl (λi4 f5 h3 h6 e2 d c3 c2=>?_))
  have n:=d.has.kA (Dr (Dr (Db (Kb (Kb (Kb Sn))))))
  refine ⟨n,(X 8 rfl n (Ei rfl rfl) (X 10 rfl n (Ei rfl rfl) ?_))⟩
  replace d:=d.perm (Nr (Qr Qz) Nz)
  refine bS g λc0 c8 g=>XE 9 rfl (qF (enc:=kF) (v:=f5) (vs:=(.slice (some ⟨e6,0,none⟩) 1 1)) (R:=e2) d mR dc su bJ rH.1 rH.2.1 rfl rH.2.2.1 rH.2.2.2 rfl rfl c3 (Sl.lit (enc:=kF) (l:=[H]) mR rfl nb rfl (d.at_ (Ma (Ma Mh)))) c8 (λi5 j5 h7 d c4=>?_))
  have n:=d.has.kA (Dr (Dr (Db (Kb (Kb (Kb Sn))))))
  refine ⟨n,?_⟩
  replace d:=d.perm (Nr (Qr Qz) Nz)
  refine XO 11 rfl (Qs (e:=0) (z:=c0)  lj EA d c2 rfl rfl rfl c4 (λi6 h2 e3 d c5=>?_))
  have n:=d.has.kA (Dr (Db (Kb (Kb (Kb Sn)))))
  refine ⟨n,(lX kr (lG (kL ?_)))⟩
  replace d:=d.kA (Kr (Db (Db St)))
  exact ⟨eI,(qK kR a3 Q c0),e3,_,⟨rfl,eN⟩,(d.kA (Sb (Pr Pz) (Sb (Pr Pz) St))),a2,N,b4,c5.e,(by rw [d9]; exact g)⟩
 rintro E W ⟨a3,U,b3,⟨eI,eN⟩,d,a2,N,b4,Z,g⟩
 rw [bo] at g
 refine kL (sg (V (kN Bq N) (VB d (Mt Mh) rfl rfl dJ (Wi rfl (ln (CI g rfl (λc9 g=>?_) (λc9 g=>?_)))))))
 ·replace d:=d.drew
  have n:=d.has.kA (Kb (Kb Sn))
  have p:=d.has.kA (Db (Db (Dr (Dr (Dr (Kr Sn))))))
  refine rC 15 n p li (lf 0 rfl kr (.inl rfl) rfl dc (λ_ _ h=>⟨h.1,lm br h.2⟩) ⟨n,λ_=>p⟩ (λ_ _ _ _=>kD a2) (lf 1 rfl kr (.inl rfl) rfl dc (λ_ _ h=>⟨h.1,lm br h.2⟩) ⟨n,λ_=>p⟩ (λ_ _ _ _=>oV rfl) (lf 2 rfl kr (.inl rfl) rfl dc (λ_ _ h=>⟨h.1,lm br h.2⟩) ⟨n,λ_=>p⟩ (λ_ _ _ _=>kN ML rfl) (lf 3 rfl kr (.inl rfl) rfl dc (λ_ _ h=>⟨h.1,lm br h.2⟩) ⟨n,λ_=>p⟩ (λl W L O=>have A:=O.1; kB rfl (lg A Mh rfl isAgg244)) (lf 4 rfl kr (.inl rfl) rfl dc (λ_ _ h=>⟨h.1,lm br h.2⟩) ⟨n,λ_=>p⟩ (λ_ _ _ _=>kN CT N) (lf 5 rfl kr (.inl rfl) rfl dc (λ_ _ h=>⟨h.1,lm br h.2⟩) ⟨n,λ_=>p⟩ (λl W L O=>have A:=O.1; kB rfl (lg A (Mt Mh) rfl cN)) (lf 6 rfl kr (.inl rfl) rfl dc (λ_ _ h=>⟨h.1,lm br h.2⟩) ⟨n,λ_=>p⟩ (λ_ _ _ _=>kD a2) (lf 7 rfl kr (.inl rfl) rfl dc (λ_ _ h=>⟨h.1,lm br h.2⟩) ⟨n,λ_=>p⟩ (λ_ _ _ _=>oV rfl) (lf 8 rfl kr (.inl rfl) rfl dc (λ_ _ h=>⟨h.1,lm br h.2⟩) ⟨n,λ_=>p⟩ (λ_ _ _ _=>kN ML rfl) (lf 9 rfl kr (.inl rfl) rfl dc (λ_ _ h=>⟨h.1,lm br h.2⟩) ⟨n,λ_=>p⟩ (λl W L O=>have A:=O.1; kB rfl (lg A Mh rfl isAgg244)) (lf 10 rfl kr (.inl rfl) rfl dc (λ_ _ h=>⟨h.1,lm br h.2⟩) ⟨n,λ_=>p⟩ (λ_ _ _ _=>kN CT N) (lf 11 rfl kr (.inl rfl) rfl dc (λ_ _ h=>⟨h.1,lm br h.2⟩) ⟨n,λ_=>p⟩ (λl W L O=>have A:=O.1; kB rfl (lg A (Mt Mh) rfl cN)) ?_))))))))))))
  obtain ⟨e0,a7⟩:=T
  obtain ⟨h8,g8,g9⟩:=oP.rowAt nE.1 a7 H.mg
  refine lf 12 rfl kr (.inl rfl) rfl dc (λ_ _ h=>⟨h.1,lm br h.2⟩) ⟨n,λ_=>p⟩ (λl W L O=>have A:=(O.2 (L.yj 15 [12] kr rfl)); rV (k:=H.mg) (z:=(.slice none 0 0)) L7 underlying244 ki rfl rfl a7 (λb o hq=>A.2 b o (Ml hq))) (lf 13 rfl kr (.inl rfl) rfl dc (λ_ _ h=>⟨h.1,lm br h.2⟩) ⟨n,λ_=>p⟩ (λl W L O=>have A:=O.1; kB N (kI A (Mt Mh) (kF H) rfl cU bE)) (XE 14 rfl (lZ (cs:=(kF H).toArray) d (og rfl) (oE bJ bE dU) (λi7 e7 d=>?_))))
  have n:=d.has.kA (Db (Kb (Kb Sn)))
  have p:=d.has.kA (Db (Db (Db (Dr (Dr (Dr (Kr Sn)))))))
  refine ⟨⟨n,λ_=>p⟩,?_⟩
  replace d:=d.perm (Nr (Qb (Qb (Qb (Qr (Qr (Qr Qz)))))) Nz)
  obtain ⟨h9,e4,d5,d6,d2⟩:=oP.open nE.1 (lh.nil _ _ _) a7 H.mg
  replace d:=d.perm (Opn d5)
  replace d:=d.perm (Nr (Qr Qz) Nz)
  refine bS g λf4 d0 g=>XE 15 rfl (qF (enc:=kF) (v:=(uG lz e0 H.mg (.slice none 0 0))) (vs:=(.slice (some ⟨e7,0,none⟩) 1 1)) (R:=e4) d mR dc su bJ rH.1 rH.2.1 rfl rH.2.2.1 rH.2.2.2 rfl rfl d6 (Sl.lit (enc:=kF) (l:=[H]) mR rfl nb rfl (d.at_ (Ma (Ma Mh)))) d0 (λi8 j6 i0 d c6=>?_))
  have n:=d.has.kA (Dr (Dr (Db (Kb (Kb Sn)))))
  refine ⟨⟨n,λh=>tQ kr h⟩,?_⟩
  replace d:=d.perm (Nr (Qr Qz) Nz)
  refine XO 16 rfl (Y5 (k:=H.mg) (z:=f4)  L7 underlying244 d d2 rfl rfl rfl c6 (λi9 e5 d c7=>?_))
  have n:=d.has.kA (Dr (Db (Kb (Kb Sn))))
  refine ⟨⟨n,λh=>tQ kr h⟩,(lX kr (pc ?_))⟩
  obtain rfl:=sj g
  exact nY rfl ⟨_,_,rfl,(d.nK (Sb (Pr (Pb Pz)) (Sr (Qr (Qb (Qb (Qr (Qr Qz))))) (Sr (Qr (Qb (Qb (Qr Qz)))) (Sr (Qr (Qb (Qb Qz))) (Kr (Db (Db (Kr Sn))))))))),P,b7,U,e5,rfl,rfl,b5,Z,c7.e⟩
 refine nf (pc ?_)
 obtain rfl:=sj g
 exact nY rfl ⟨_,_,rfl,(d.nK (Kb (Db (Sr (Qr (Qr Qz)) (Sr (Qr Qz) (Kr (Kr (Kr Sn)))))))),P,b7,U,t,rfl,rfl,b5,Z,T⟩
theorem um (J:Nat) (g:Value) (a0:List (ku×(List (ByteArray×Bool)))) (D:LO) (a:Value) (M:List kv) (u:LO) (j:Value) (Z:List (ku×(List kv))) (B:LO) (c:Value) (N:List (ByteArray×(List kv))) (y:LO) (i:Value) (Y:List kV) (t:LO) (H:Int) (G:ku) (U:ByteArray) (r:((List (ku×(List (ByteArray×Bool))))×(List kV)×Int)) (w:World) {μ0:lE} (h0:pn μ0 ((J,Ob #[g,a,j,c,i,(.int .i64 H)] 246)::(D++(u++(B++(y++(t++[])))))) w) (a5:nA (λ(x:ku)=>(.agg (kJ x).toArray)) (nz Value.string (λ(x:Bool)=>(Value.bool x))) g a0 D) (b5:lh 52 kF 9 a M u) (c3:nA (λ(x:ku)=>(.agg (kJ x).toArray)) (lh 52 kF 9) j Z B) (b6:nA Value.string (lh 52 kF 9) c N y) (K:sP 285 nB 3 i Y t) (hm:qi a0 M Z N Y H G U=some r) :
  mi true pg0 321 [(.pointer (some ⟨J,0,none⟩)),(.agg (kJ G).toArray),(.string U)] w ((J,Ob #[g,a,j,c,i,(.int .i64 H)] 246)::(D++(u++(B++(y++(t++[])))))) (λv L1 W'=>∃S1 y3 S4,v=(.tuple #[])∧L1=((J,Ob #[g,a,j,c,y3,(.int .i64 (r.2.2))] 246)::(S1++(u++(B++(y++(S4++[]))))))∧nA (λ(x:ku)=>(.agg (kJ x).toArray)) (nz Value.string (λ(x:Bool)=>(Value.bool x))) g r.1 S1∧sP 285 nB 3 y3 r.2.1 S4):=by
 let a1:=(#[g,a,j,c,i,(.int .i64 H)]:Array Value)
 refine xq h0 53 func321 rfl (λn=>sg (VE (lM n rfl (λW2 b1 n=>ln (kM (kM ?_))))))
 replace n:=n.drew
 have d:=n.has.kA (Kb (Kb (Kr Sn)))
 refine lU d li (X 0 rfl d (kD rfl) (X 1 rfl d (oV rfl) (X 2 rfl d (kN AW rfl) (XH 3 rfl d (λ_ A=>kB rfl (lg A (Mt Mh) rfl iM)) (XH 4 rfl d (λ_ A=>kB rfl (kI A Mh (kJ G) rfl bZ bF)) ?_)))))
 obtain ⟨f4,Q⟩:=a5
 refine XH 5 rfl d (λ_ A=>rV (k:=G) (z:=(.map none)) EA fh fU rfl rfl Q (λb o hq=>A.2 b o (Mt (Mt (Ml hq))))) (X 6 rfl d (kD rfl) (XH 7 rfl d (λ_ A=>D6 (k:=U) (z:=false) (vf:=(λ(x:Bool)=>(Value.bool x))) L7 gj jT rfl rfl (oP.HL (μ:=hp _) lj.1 Q G (λb o hq=>A.2 b o (Mt (Mt (Ml hq)))))) (lX kr (kL (CI hm rfl (λd5 hm=>?_) (λd5 hm=>?_))))))
 ·refine lJ (mL ?_)
  obtain rfl:=sj hm
  exact nY rfl ⟨_,_,rfl,(n.nK (Db (Kb (Kr (Kr (Kr (Kr (Kr Sn)))))))),D,i,t,rfl,rfl,Q.e,K⟩
 refine kn (kM (CJ hm (λb2 E W=>∃a8 c0,ST true (keys ((J,Obj.cells a1 246 (0,0))::(D++(u++(B++(y++(t++[]))))))) w W μ0 ((b1,Ol (kJ G) 27)::((J,Obj.cells a1 246 (0,0))::(a8++(u++(B++(y++(t++c0)))))))∧E 0=(.pointer (some ⟨J,0,none⟩))∧E 2=(.string U)∧E 4=(.pointer (some ⟨b1,0,none⟩))∧nA (λ(x:ku)=>(.agg (kJ x).toArray)) (nz Value.string (λ(x:Bool)=>(Value.bool x))) g b2 a8) (λb2 I=>?_) ?_))
 ·refine kM ?_
  replace n:=n.drew
  have d:=n.has.kA (Kb (Kb (Kr Sn)))
  refine lU d li (X 0 rfl d (kD rfl) (X 1 rfl d (oV rfl) (X 2 rfl d (kN AW rfl) (XH 3 rfl d (λ_ A=>kB rfl (lg A (Mt Mh) rfl iM)) (XH 4 rfl d (λ_ A=>kB rfl (kI A Mh (kJ G) rfl bZ bF)) (XH 5 rfl d (λ_ A=>rV (k:=G) (z:=(.map none)) EA fh fU rfl rfl Q (λb o hq=>A.2 b o (Mt (Mt (Ml hq))))) (X 6 rfl d (QM lj.1 gj Q rfl rfl) (lX kr (kL (CI I rfl (λb7 I=>?_) (λb7 I=>?_)))))))))))
  ·replace n:=n.drew
   have d:=n.has.kA (Kb (Kb Sn))
   refine lU d li (X 0 rfl d (kD rfl) (X 1 rfl d (oV rfl) (X 2 rfl d (kN AW rfl) (XH 3 rfl d (λ_ A=>kB rfl (lg A (Mt Mh) rfl iM)) (XH 4 rfl d (λ_ A=>kB rfl (kI A Mh (kJ G) rfl bZ bF)) (XE 5 rfl (NE (P:=pg0) Value.string (λ(x:Bool)=>(Value.bool x)) n (λe1 e7 d9 n b3=>?_))))))))
   have d:=n.has.kA (Dr (Kb (Kb Sn)))
   refine ⟨d,?_⟩
   replace n:=n.perm (Nr (Qr (Qb (Qb Qz))) Nz)
   refine bS I λe4 b9 I=>XO 6 rfl (Vj (k:=G) (z:=([]))  EA fh n Q rfl rfl rfl b3 b9 (λe2 c4 n b4=>?_))
   have d:=n.has.kA (Dr (Kb (Kb Sn)))
   refine ⟨d,(lX kr (kL ?_))⟩
   obtain rfl:=sj I
   exact ⟨c4,_,(n.kA (Sb (Pr Pz) (Sb (Pr Pz) St))),rfl,rfl,rfl,b4.e⟩
  refine kn ?_
  obtain rfl:=sj I
  exact ⟨D,_,(n.kA St),rfl,rfl,rfl,Q.e⟩
 rintro f2 E W ⟨a8,c0,n,a6,c1,c2,c8⟩ T
 refine kM ?_
 replace n:=n.drew
 have d:=n.has.kA (Kb (Kb Sn))
 have p:=n.has.kA (Db (Db (Kr Sn)))
 refine rC 7 d p li (lf 0 rfl kr (.inl rfl) rfl dc (λ_ _ h=>⟨h.1,lm br h.2⟩) ⟨d,λ_=>p⟩ (λ_ _ _ _=>kD a6) (lf 1 rfl kr (.inl rfl) rfl dc (λ_ _ h=>⟨h.1,lm br h.2⟩) ⟨d,λ_=>p⟩ (λ_ _ _ _=>oV rfl) (lf 2 rfl kr (.inl rfl) rfl dc (λ_ _ h=>⟨h.1,lm br h.2⟩) ⟨d,λ_=>p⟩ (λ_ _ _ _=>kN AW rfl) (lf 3 rfl kr (.inl rfl) rfl dc (λ_ _ h=>⟨h.1,lm br h.2⟩) ⟨d,λ_=>p⟩ (λl W L O=>have A:=O.1; kB rfl (lg A (Mt Mh) rfl iM)) (lf 4 rfl kr (.inl rfl) rfl dc (λ_ _ h=>⟨h.1,lm br h.2⟩) ⟨d,λ_=>p⟩ (λl W L O=>have A:=O.1; kB c2 (kI A Mh (kJ G) rfl bZ bF)) ?_)))))
 obtain ⟨e5,a9⟩:=c8
 refine lf 5 rfl kr (.inl rfl) rfl dc (λ_ _ h=>⟨h.1,lm br h.2⟩) ⟨d,λ_=>p⟩ (λl W L O=>have A:=(O.2 (L.yj 7 [5] kr rfl)); rV (k:=G) (z:=(.map none)) EA fh fU rfl rfl a9 (λb o hq=>A.2 b o (Ml hq))) (lf 6 rfl kr (.inl rfl) rfl dc (λ_ _ h=>⟨h.1,lm br h.2⟩) ⟨d,λ_=>p⟩ (λ_ _ _ _=>kD c1) ?_)
 replace n:=n.perm (Nr (Qb (Qb Qz)) Nz)
 refine bS T λf3 c7 T=>XO 7 rfl (TM (k:=G) (v:=true) (vf:=(λ(x:Bool)=>(Value.bool x)))  lj.1 L7 gj n a9 rfl rfl rfl c7 (λe8 c9 n c5=>?_))
 have d:=n.has.kA (Dr (Kb (Kb Sn)))
 refine ⟨⟨d,λh=>tQ kr h⟩,(lX kr (kL (sg (Wh a6 (Wn (Wf JA (VB n (Ma (Mt Mh)) rfl rfl dJ (Wi rfl (Wn (Wf JA ?_))))))))))⟩
 replace n:=n.perm (Nb (Pr (Pb Pz)) Nz)
 refine VO (lA (.int .i64 (wi0 .i64 (H+1))) (#[g,a,j,c,i,(.int .i64 (wi0 .i64 (H+1)))]) n rfl rfl gz (Ld _ (wi0 .i64 (H+1))) nb rfl (λe9 n=>ln ?_))
 replace n:=n.drew
 have d:=n.has.kA (Db (Dr (Kb Sn)))
 have p:=n.has.kA (Kb Sn)
 refine rC 12 d p li (lf 0 rfl kr (.inl rfl) rfl dc (λ_ _ h=>⟨h.1,lm br h.2⟩) ⟨d,λ_=>p⟩ (λ_ _ _ _=>kD a6) (lf 1 rfl kr (.inl rfl) rfl dc (λ_ _ h=>⟨h.1,lm br h.2⟩) ⟨d,λ_=>p⟩ (λ_ _ _ _=>kD a6) (lf 2 rfl kr (.inl rfl) rfl dc (λ_ _ h=>⟨h.1,lm br h.2⟩) ⟨d,λ_=>p⟩ (λ_ _ _ _=>oV rfl) (lf 3 rfl kr (.inl rfl) rfl dc (λ_ _ h=>⟨h.1,lm br h.2⟩) ⟨d,λ_=>p⟩ (λ_ _ _ _=>kN E7 rfl) (lf 4 rfl kr (.inl rfl) rfl dc (λ_ _ h=>⟨h.1,lm br h.2⟩) ⟨d,λ_=>p⟩ (λl W L O=>have A:=(O.2 (L.yj 12 [4] kr rfl)); kB rfl (lg A Mh rfl isAgg226)) (lf 5 rfl kr (.inl rfl) rfl dc (λ_ _ h=>⟨h.1,lm br h.2⟩) ⟨d,λ_=>p⟩ (λl W L O=>have A:=O.1; kB c2 (kI A Mh (kJ G) rfl bZ bF)) (lf 6 rfl kr (.inl rfl) rfl dc (λ_ _ h=>⟨h.1,lm br h.2⟩) ⟨d,λ_=>p⟩ (λ_ _ _ _=>kD c1) (lf 7 rfl kr (.inl rfl) rfl dc (λ_ _ h=>⟨h.1,lm br h.2⟩) ⟨d,λ_=>p⟩ (λ_ _ _ _=>nP (v:=(.agg (nB (⟨G,U⟩:kV)).toArray)) (vC rfl rfl) (nt jU gf (WZ _ gf) kr)) (XE 8 rfl (lZ (cs:=(nB (⟨G,U⟩:kV)).toArray) n (og rfl) (oE iH jL jU) (λf0 d4 n=>?_)))))))))))
 have d:=n.has.kA (Db (Db (Dr (Kb Sn))))
 have p:=n.has.kA (Db (Kb Sn))
 refine ⟨⟨d,λ_=>p⟩,?_⟩
 replace n:=n.perm (Nr (Qb (Qb (Qr (Qb (Qr (Qr (Qr Qz))))))) Nz)
 refine bS T λb0 c6 T=>XE 9 rfl (QV (enc:=nB) (v:=i) (vs:=(.slice (some ⟨d4,0,none⟩) 1 1)) (R:=t) n Cl dc Rg iH Jr.1 Jr.2.1 rfl Jr.2.2.1 Jr.2.2.2 rfl rfl K (Sl.lit (enc:=nB) (l:=[(⟨G,U⟩:kV)]) Cl rfl nb rfl (n.at_ (Ma Mh))) c6 (λf1 e6 d0 n a7=>?_))
 have d:=n.has.kA (Dr (Db (Db (Dr (Kb Sn)))))
 have p:=n.has.kA (Dr (Db (Kb Sn)))
 refine ⟨⟨d,λ_=>p⟩,(lf 10 rfl kr (.inl rfl) rfl dc (λ_ _ h=>⟨h.1,lm br h.2⟩) ⟨d,λ_=>p⟩ (λ_ _ _ _=>oV rfl) (lf 11 rfl kr (.inl rfl) rfl dc (λ_ _ h=>⟨h.1,lm br h.2⟩) ⟨d,λ_=>p⟩ (λ_ _ _ _=>kN E7 rfl) ?_))⟩
 obtain ⟨a3,a4,rfl⟩:=a7.form
 let a2:Value:=(.slice a3 b0.length a4)
 replace n:=n.perm (Nb (Pr (Pb Pz)) Nz)
 refine XO 12 rfl (lA a2 (#[g,a,j,c,a2,(.int .i64 (wi0 .i64 (H+1)))]) n rfl rfl sizeOf226 oc nb rfl (λe0 n=>?_))
 have d:=n.has.kA (Db (Dr (Db (Dr (Kb Sn)))))
 refine ⟨⟨d,λh=>tQ kr h⟩,(lX kr (pc ?_))⟩
 obtain rfl:=sj T
 exact nY rfl ⟨_,_,rfl,(n.nK (Kb (Sr (Qr (Qb Qz)) (Sr (Qr (Qb (Qb Qz))) (Sr (Qr (Qb (Qb Qz))) (Sr (Qr (Qb (Qb Qz))) (Kr Sn))))))),c9,a2,d0,rfl,rfl,c5.e,a7⟩
theorem zj (a:Value) (g:List (ByteArray×Bool)) (r:Unit) (w:World) (c:zW Value.string (λ(x:Bool)=>(Value.bool x)) (hp w) a g) (hm:rl g=some r) :
  mi true pg0 362 [a] w [] (λv k W'=>∃i,v=(.func (.func 380) #[] #[(.pointer (some ⟨i,0,none⟩))])∧k=((i,Ob #[a] 247)::[])):=by
 refine Dg 4 func362 rfl (λd=>sg ?_)
 obtain ⟨t,rfl⟩:=c.form
 refine VE (lM d rfl (λu j d=>Wa (lr (V (qR (by exact pR rfl) rfl) (Wa (lt ?_))))))
 obtain rfl:=sj hm
 exact nC (v:=(.func (.func 380) #[] #[(.pointer (some ⟨j,0,none⟩))])) rfl rfl ⟨_,_,rfl,(d.RH (Kb Sn)),j,rfl,rfl⟩
theorem Nn {β:Type} {vf:β→Value} {l:List (ByteArray×β)} {b:Nat} {d:Value} {W:World} {r:List ByteArray} (hb:W.heap[b]? =some (.cells #[d] 247 (0,0))) (hm:zW Value.string vf (hp W) d l) (hk:Lp l=some r):pH false pg0 361 [.func (.func 380) #[] #[.pointer (some ⟨b,0,none⟩)]] W 9 BJ 1 r:=QB (P:=pg0) YD XS Ze rfl cO call380 call379 hb hm hk
theorem Cc (T:Nat) (a:Value) (u:List (ku×(List (ByteArray×Bool)))) (c:Value) (t:List kv) (j:Value) (G:List (ku×(List kv))) (g:Value) (B:List (ByteArray×(List kv))) (i:Value) (D:List kV) (Q:Int) (H:ku) (r:List ByteArray) (w:World) (J:tR (λ(x:ku)=>(.agg (kJ x).toArray)) (nz Value.string (λ(x:Bool)=>(Value.bool x))) (hp w) a u) (Z:Sl (Pl kF) 9 (hp w) c t) (a4:tR (λ(x:ku)=>(.agg (kJ x).toArray)) (lh 52 kF 9) (hp w) j G) (a0:tR Value.string (lh 52 kF 9) (hp w) g B) (a3:Sl (Pl nB) 3 (hp w) i D) (Y:At (hp w) (.pointer (some ⟨T,0,none⟩)) [a,c,j,g,i,(.int .i64 Q)]) (hm:tT u t G B D Q H=some r) :
  pH false pg0 322 [(.pointer (some ⟨T,0,none⟩)),(.agg (kJ H).toArray)] w 9 BJ 1 r:=by
 refine Dg 15 func322 rfl (λd=>sg (VE (lM d rfl (λW2 b1 d=>Wa (lS (Wm (V (xX underlying183 rfl rfl) (ln (sX rfl ?_)))))))))
 refine kn (kM ?_)
 replace d:=d.drew
 have n:=d.has.kA (Kb Sn)
 refine lU n li (X 0 rfl n (kD rfl) (X 1 rfl n (oV rfl) (XQ 2 rfl n (Em [a] AW rfl Y rfl) (λb9 R=>XH 3 rfl n (λ_ A=>kB rfl (sJ A (y:=a) R iM)) (XH 4 rfl n (λ_ A=>kB rfl (kI A Mh (kJ H) rfl bZ bF)) ?_)))))
 obtain ⟨a9,b4,K,M⟩:=J
 refine XH 5 rfl n (λ_ A=>rV (k:=H) (z:=(.map none)) EA fh fU rfl rfl K (λb o E=>A.1 b o (M b o E))) (bS hm λc0 W hm=>?_)
 refine XE 6 rfl (Df d (cM _) call362 (λ_ _ _ _=>mi.nx (zj (uG kR a9 H (.map none)) ((mJ kR u H).getD []) _ _ ((oP.HL lj.1 K H M).mono d.kC) W)) (λb5 c2 c3 b3 d I O L a5=>?_) (L0:=[]))
 obtain ⟨b7,N,rfl⟩:=a5
 replace N:=N.symm; subst N
 replace d:=d.perm (Tb Tn)
 have n:=d.has.Ew I (Db (Kb Sn))
 refine ⟨n,(bS hm λc1 a8 hm=>XE 7 rfl (Ct d call361 (Nn (vf:=(λ(x:Bool)=>(Value.bool x))) (d.has.2 _ _ Mh) ((oP.HL lj.1 K H M).mono (λb o E=>d.has.1 b o (I b o E))) a8) (λb6 b2 c4 b0 d a2 P U=>?_)))⟩
 have n:=d.has.Ew (I.trans a2) (Dr (Db (Kb Sn)))
 refine ⟨n,(X 8 rfl n (oe rfl) (lX kr (kL ?_)))⟩
 replace d:=d.kA (Kr (Db (Db St)))
 refine lJ ?_
 obtain rfl:=sj hm
 exact nC (v:=b2) rfl rfl ⟨_,b0,rfl,d.uA (λp E=>(Ml E)) U.nd,U⟩
theorem Ih (K:Nat) (g:Value) (N:List (ku×(List (ByteArray×Bool)))) (G:LO) (a:Value) (H:List kv) (k:LO) (j:Value) (J:List (ku×(List kv))) (u:LO) (c:Value) (I:List (ByteArray×(List kv))) (t:LO) (z:Value) (M:List kV) (B:LO) (Z:Int) (R a2:ku) (r:((List (ku×(List (ByteArray×Bool))))×(List kV)×Int)) (w:World) {μ0:lE} (h0:pn μ0 ((K,Ob #[g,a,j,c,z,(.int .i64 Z)] 246)::(G++(k++(u++(t++(B++[])))))) w) (a5:nA (λ(x:ku)=>(.agg (kJ x).toArray)) (nz Value.string (λ(x:Bool)=>(Value.bool x))) g N G) (Q:lh 52 kF 9 a H k) (a4:nA (λ(x:ku)=>(.agg (kJ x).toArray)) (lh 52 kF 9) j J u) (T:nA Value.string (lh 52 kF 9) c I t) (a3:sP 285 nB 3 z M B) (hm:xl N H J I M Z R a2=some r) :
  mi false pg0 363 [(.pointer (some ⟨K,0,none⟩)),(.agg (kJ R).toArray),(.agg (kJ a2).toArray)] w ((K,Ob #[g,a,j,c,z,(.int .i64 Z)] 246)::(G++(k++(u++(t++(B++[])))))) (λv L1 W'=>∃S1 y3 S4,v=(.tuple #[])∧L1=((K,Ob #[g,a,j,c,y3,(.int .i64 (r.2.2))] 246)::(S1++(k++(u++(t++(S4++[]))))))∧nA (λ(x:ku)=>(.agg (kJ x).toArray)) (nz Value.string (λ(x:Bool)=>(Value.bool x))) g r.1 S1∧sP 285 nB 3 y3 r.2.1 S4):=by
 refine xq h0 21 func363 rfl (λd=>sg (VE (lM d rfl (λW2 b1 d=>VE (lM d rfl (λW4 b3 d=>lr (Wm (VA d (Mt Mh) (kJ R) bZ bF (bS hm λr5 e6 hm=>VE (Ct d call322 (Cc K g N a H j J c I z M Z R _ _ (a5.at (λb o n=>d.at_ (Mt (Mt (Mt (Ml n)))))) (Q.sl mR (λb o n=>d.at_ (Mt (Mt (Mt (Ma (Ml n))))))) (a4.at (λb o n=>d.at_ (Mt (Mt (Mt (Ma (Ma (Ml n)))))))) (T.at (λb o n=>d.at_ (Mt (Mt (Mt (Ma (Ma (Ma (Ml n))))))))) ((a3.H9 Cl).mono (Pl.mono _) (nV (λb o n=>d.at_ (Mt (Mt (Mt (Ma (Ma (Ma (Ma (Ml n))))))))))) (At.of (d.at_ (Mt (Mt Mh))) _ rfl) e6) (λW7 e7 P e2 d f5 ae a9=>V (tI gN rfl a9) (Wm ?_))))))))))))
 refine ln ?_
 replace d:=d.kA (Kr (Kb (Db St)))
 refine sW (mV (λi E W=>∃A U a0 L Y O b5 b7,(E 12= .int .i64 (i:Nat)∧E 11= .int .i64 (r5.length:Nat))∧lx P b5∧ST false (keys ((K,Ob #[g,a,j,c,z,(.int .i64 Z)] 246)::(G++(k++(u++(t++(B++[]))))))) w W b5 ((K,Ob #[g,a,j,c,a0,(.int .i64 O)] 246)::((b3,Ol (kJ a2) 27)::(U++(k++(u++(t++(Y++(e2++b7))))))))∧E 0=(.pointer (some ⟨K,0,none⟩))∧E 5=(.pointer (some ⟨b3,0,none⟩))∧E 10=e7∧nA (λ(x:ku)=>(.agg (kJ x).toArray)) (nz Value.string (λ(x:Bool)=>(Value.bool x))) g A U∧sP 285 nB 3 a0 L Y∧te H J I a2 (r5.drop i) A L O=some r) r5.length a9.len ⟨N,G,z,M,B,Z,P,_,⟨rfl,rfl⟩,(lx.refl _),(d.kA (Sb (Pr (Pb Pz)) (Sb (Pr Pz) (Sr (Qr Qz) (Sr (Qr Qz) (Sr (Qr Qz) (Sr (Qr Qz) (Sr (Qr Qz) St)))))))),rfl,rfl,rfl,a5,a3,hm⟩ dc dc dc (λ_ _ _ h=>by obtain ⟨_,_,_,_,_,_,_,_,aa,_⟩:=h; exact aa) ?_ ?_)
 ·rintro d8 E W c9 ⟨A,U,a0,L,Y,O,b5,b7,⟨eI,eN⟩,b6,d,c0,c1,c2,b0,b2,D⟩
  obtain ⟨c4,f0,d2,c5,d3⟩:=mC c9
  rw [d2] at D
  refine bg (VQ (lI (i:=(d8:Int)) (x0:=c4) gN eH c2 eI a9 (aX _) c5) (λf6 d0=>V (kB rfl (OL d.has (λp n=>(Mt (Mt (Ma (Ma (Ma (Ma (Ma (Ml n))))))))) a9 (λ_=>rfl) d0 c5 (y:=(.string c4)) rfl cN)) (Wa (ln (kK (Wh c0 (V (kB c1 (kI d.has (Mt Mh) (kJ a2) rfl bZ bF)) (Wm (bS D λc3 d1 D=>?_)))))))))
  refine VE (eM d (Cb Pz (Cr (Qb Qz) (Cr (Qb Qz) (Cr (Qb Qz) (Cr (Qb Qz) (Cr (Qb Qz) Cn)))))) call321 (λhh _=>mi.nx (um K g A U a H k j J u c I t a0 L Y O a2 c4 _ _ hh b0 Q a4 T b2 d1)) ?_)
  rintro _ f7 e1 f2 d c7 ab ad ⟨d6,e0,d7,b4,rfl,d4,d5⟩
  obtain rfl:=b4.symm
  replace d:=d.perm (Tb (Tr (Tr (Tr (Tr (Tr Tn))))))
  exact lu (lG (kL ⟨eI,c3.1,d6,e0,c3.2.1,d7,c3.2.2,e1,_,⟨rfl,eN⟩,(b6.trans c7),(d.kA (Kb (Sb (Pr (Pr (Pr (Pr (Pr Pz))))) St))),c0,c1,c2,d4,d5,(by rw [d3]; exact D)⟩))
 rintro E W ⟨A,U,a0,L,Y,O,b5,b7,⟨eI,eN⟩,b6,d,c0,c1,c2,b0,b2,D⟩
 rw [bo] at D
 refine kL ?_
 replace d:=d.kA (Kb (Db (Kr (Kr (Kr (Kr (Kr (Dr St))))))))
 refine pc ?_
 obtain rfl:=sj D
 exact nY rfl ⟨_,_,rfl,(d.nK (Kb (Kr (Kr (Kr (Kr (Kr Sn))))))),U,a0,Y,rfl,rfl,b0,b2⟩
theorem Dk (K:Nat) (G:Value) (Z:List (ku×(List (ByteArray×Bool)))) (D:LO) (g:Value) (I:List kv) (a:LO) (B:Value) (N:List (ku×(List kv))) (y:LO) (i:Value) (J:List (ByteArray×(List kv))) (c:LO) (t:Value) (M:List kV) (j:LO) (a0:Int) (Q:kv) (a2:kV) (r:((List (ku×(List (ByteArray×Bool))))×(List kV)×Int)) (w:World) {μ0:lE} (h0:pn μ0 ((K,Ob #[G,g,B,i,t,(.int .i64 a0)] 246)::(D++(a++(y++(c++(j++[])))))) w) (U:nA (λ(x:ku)=>(.agg (kJ x).toArray)) (nz Value.string (λ(x:Bool)=>(Value.bool x))) G Z D) (T:lh 52 kF 9 g I a) (a3:nA (λ(x:ku)=>(.agg (kJ x).toArray)) (lh 52 kF 9) B N y) (Y:nA Value.string (lh 52 kF 9) i J c) (H:sP 285 nB 3 t M j) (hm:uJ Z I N J M a0 Q a2=some r) :
  mi false pg0 323 [(.pointer (some ⟨K,0,none⟩)),(.agg (kF Q).toArray),(.agg (nB a2).toArray)] w ((K,Ob #[G,g,B,i,t,(.int .i64 a0)] 246)::(D++(a++(y++(c++(j++[])))))) (λv L1 W'=>∃S1 y3 S4,v=(.tuple #[])∧L1=((K,Ob #[G,g,B,i,y3,(.int .i64 (r.2.2))] 246)::(S1++(a++(y++(c++(S4++[]))))))∧nA (λ(x:ku)=>(.agg (kJ x).toArray)) (nz Value.string (λ(x:Bool)=>(Value.bool x))) G r.1 S1∧sP 285 nB 3 y3 r.2.1 S4):=by
 let R:=(#[G,g,B,i,t,(.int .i64 a0)]:Array Value)
 refine xq h0 57 func323 rfl (λd=>sg (VE (lM d rfl (λW2 b1 d=>VE (lM d rfl (λW4 b3 d=>lr (Wf Bq (VB d (Mt Mh) rfl rfl dJ (ln (ma (kM ?_)))))))))))
 refine kK (Wi rfl (Wa (ln (CI hm rfl (λe5 hm=>?_) (λe5 hm=>?_)))))
 ·refine kK (Wm (Wf xL (VA d (Mt Mh) (kJ Q.Head) bZ bF (Wf E4 (VB d Mh rfl rfl cN (bS hm λr6 e6 hm=>?_))))))
  refine VE (eM d (Cb (Pb (Pb Pz)) (Cr (Qb (Qb Qz)) (Cr (Qb (Qb Qz)) (Cr (Qb (Qb Qz)) (Cr (Qb (Qb Qz)) (Cr (Qb (Qb Qz)) Cn)))))) call321 (λP _=>mi.nx (um K G Z D g I a B N y i J c t M j a0 Q.Head a2.lO _ _ P U T a3 Y H e6)) ?_)
  rintro _ g7 ad f8 d f2 a6 A ⟨d2,e7,d3,a8,rfl,c5,c6⟩
  obtain rfl:=a8.symm
  replace d:=d.perm (Tb (Tr (Tr (Tr (Tr (Tr Tn))))))
  refine lu (lG (pc ?_))
  obtain rfl:=sj hm
  exact nY rfl ⟨_,_,rfl,(d.nK (Kb (Kr (Kr (Kr (Kr (Kr Sn))))))),d2,e7,d3,rfl,rfl,c5,c6⟩
 refine sg (Wi rfl (Wa (ln (CI hm rfl (λc0 hm=>?_) (λc0 hm=>?_)))))
 ·refine kK (Wm (Wf E4 (VB d Mh rfl rfl cN (Wf CT (VB d (Mt Mh) rfl rfl cN (V (nP (v:=(.agg (kJ (⟨a2.lO,Q.mg⟩:ku)).toArray)) (vC rfl rfl) (nt fO er (Vz _ er) kr)) (Wf xL (VA d (Mt Mh) (kJ Q.Head) bZ bF (bS hm λg3 c3 hm=>?_)))))))))
  refine VE (eM d (Cb (Pb (Pb Pz)) (Cr (Qb (Qb Qz)) (Cr (Qb (Qb Qz)) (Cr (Qb (Qb Qz)) (Cr (Qb (Qb Qz)) (Cr (Qb (Qb Qz)) Cn)))))) call363 (λP _=>(Ih K G Z D g I a B N y i J c t M j a0 (⟨a2.lO,Q.mg⟩:ku) Q.Head _ _ P U T a3 Y H c3)) ?_)
  rintro _ g8 h2 f9 d f3 aa A ⟨d4,e9,d5,a9,rfl,c7,c8⟩
  obtain rfl:=a9.symm
  replace d:=d.perm (Tb (Tr (Tr (Tr (Tr (Tr Tn))))))
  refine lu (lG (pc ?_))
  obtain rfl:=sj hm
  exact nY rfl ⟨_,_,rfl,(d.nK (Kb (Kr (Kr (Kr (Kr (Kr Sn))))))),d4,e9,d5,rfl,rfl,c7,c8⟩
 refine sg (Wi rfl (Wa (ln (CI hm rfl (λc1 hm=>?_) (λc1 hm=>?_)))))
 ·refine kM ?_
  replace d:=d.drew
  have n:=d.has.kA (Kb (Kb (Kb (Kr Sn))))
  refine lU n li (X 0 rfl n (kD rfl) (X 1 rfl n (oV rfl) (X 2 rfl n (kN AW rfl) (XH 3 rfl n (λ_ p=>kB rfl (lg p (Mt (Mt Mh)) rfl iM)) (X 4 rfl n (kN rK rfl) (XH 5 rfl n (λ_ p=>kB rfl (kI p (Mt Mh) (kJ Q.B) rfl bZ bF)) ?_))))))
  obtain ⟨f7,a5⟩:=U
  refine XH 6 rfl n (λ_ p=>rV (k:=Q.B) (z:=(.map none)) EA fh fU rfl rfl a5 (λb o L=>p.2 b o (Mt (Mt (Mt (Ml L)))))) (X 7 rfl n (kN E4 rfl) (XH 8 rfl n (λ_ p=>kB rfl (lg p Mh rfl cN)) (XH 9 rfl n (λ_ p=>D6 (k:=a2.lO) (z:=false) (vf:=(λ(x:Bool)=>(Value.bool x))) L7 gj jT rfl rfl (oP.HL (μ:=hp _) lj.1 a5 Q.B (λb o L=>p.2 b o (Mt (Mt (Mt (Ml L))))))) (X 10 rfl n (kD rfl) (PJ hm (λb5 E W=>∃b4,ST false (keys ((K,Obj.cells R 246 (0,0))::(D++(a++(y++(c++(j++[]))))))) w W μ0 ((b3,Ol (nB a2) 285)::((b1,Ol (kF Q) 52)::((K,Obj.cells R 246 (0,0))::(D++(a++(y++(c++(j++b4))))))))∧E 0=(.pointer (some ⟨K,0,none⟩))∧E 4=(.pointer (some ⟨b1,0,none⟩))∧E 5=(.pointer (some ⟨b3,0,none⟩))∧E 50=(.bool b5)) (bm 22 4194303) 0 ?_ (λb5 O b2=>?_))))))
  ·rintro h1 E W ⟨b4,d,e1,e2,e3,e4⟩ a4
   refine lX kr (kL (CI a4 e4 (λc2 a4=>?_) (λc2 a4=>?_)))
   ·refine kK (Wh e1 (V (kN xL e2) (VA d (Mt Mh) (kJ Q.Head) bZ bF (V (kN E4 e3) (VB d Mh rfl rfl cN (bS a4 λg4 c4 a4=>?_))))))
    refine VE (eM d (Cb (Pb (Pb Pz)) (Cr (Qb (Qb Qz)) (Cr (Qb (Qb Qz)) (Cr (Qb (Qb Qz)) (Cr (Qb (Qb Qz)) (Cr (Qb (Qb Qz)) Cn)))))) call321 (λP _=>mi.nx (um K G Z D g I a B N y i J c t M j a0 Q.Head a2.lO _ _ P a5.e T a3 Y H c4)) ?_)
    rintro _ g9 h3 g0 d f4 ab A ⟨d7,f0,d8,b0,rfl,c9,d0⟩
    obtain rfl:=b0.symm
    replace d:=d.perm (Tb (Tr (Tr (Tr (Tr (Tr Tn))))))
    refine lu (lG (pc ?_))
    obtain rfl:=sj a4
    exact nY rfl ⟨_,_,rfl,(d.nK (Kb (Kr (Kr (Kr (Kr (Kr Sn))))))),d7,f0,d8,rfl,rfl,c9,d0⟩
   refine nf (lG (pc ?_))
   obtain rfl:=sj a4
   exact nY rfl ⟨_,_,rfl,(d.nK (Db (Db (Kb (Kr (Kr (Kr (Kr (Kr Sn))))))))),D,t,j,rfl,rfl,a5.e,H⟩
  refine bC O (λu O=>?_) (λu O=>?_)
  ·refine Xg 11 rfl rfl (cB u) n (kD rfl) (Xg 12 rfl rfl (cB u) n (oV rfl) (Xg 13 rfl rfl (cB u) n (kN AW rfl) (Aj 14 rfl rfl (cB u) n (λ_ p=>kB rfl (lg p (Mt (Mt Mh)) rfl iM)) (Xg 15 rfl rfl (cB u) n (kN Bm rfl) (Aj 16 rfl rfl (cB u) n (λ_ p=>kB rfl (kI p (Mt Mh) (kJ Q.C) rfl bZ bF)) (Aj 17 rfl rfl (cB u) n (λ_ p=>rV (k:=Q.C) (z:=(.map none)) EA fh fU rfl rfl a5 (λb o L=>p.2 b o (Mt (Mt (Mt (Ml L)))))) (Xg 18 rfl rfl (cB u) n (kN E4 rfl) (Aj 19 rfl rfl (cB u) n (λ_ p=>kB rfl (lg p Mh rfl cN)) (Aj 20 rfl rfl (cB u) n (λ_ p=>D6 (k:=a2.lO) (z:=false) (vf:=(λ(x:Bool)=>(Value.bool x))) L7 gj jT rfl rfl (oP.HL (μ:=hp _) lj.1 a5 Q.C (λb o L=>p.2 b o (Mt (Mt (Mt (Ml L))))))) (X 21 rfl n (lK (cB u) rfl) ?_))))))))))
   obtain rfl:=sj O
   refine rN kr (b2 _ _ ⟨_,(d.kA St),rfl,rfl,rfl,rfl⟩)
  refine Xn 11 rfl rfl (cB u) n (Xn 12 rfl rfl (cB u) n (Xn 13 rfl rfl (cB u) n (Xn 14 rfl rfl (cB u) n (Xn 15 rfl rfl (cB u) n (Xn 16 rfl rfl (cB u) n (Xn 17 rfl rfl (cB u) n (Xn 18 rfl rfl (cB u) n (Xn 19 rfl rfl (cB u) n (Xn 20 rfl rfl (cB u) n (X 21 rfl n (lN (cB u) rfl) ?_))))))))))
  obtain rfl:=sj O
  refine rN kr (b2 _ _ ⟨_,(d.kA St),rfl,rfl,rfl,rfl⟩)
 refine nf (lG (pc ?_))
 obtain rfl:=sj hm
 exact nY rfl ⟨_,_,rfl,(d.nK (Db (Db (Kb (Kr (Kr (Kr (Kr (Kr Sn))))))))),D,t,j,rfl,rfl,U,H⟩
theorem Hg (K:Nat) (g:Value) (T:List (ku×(List (ByteArray×Bool)))) (D:LO) (a:Value) (G:List kv) (j:LO) (t:Value) (J:List (ku×(List kv))) (u:LO) (c:Value) (H:List (ByteArray×(List kv))) (k:LO) (z:Value) (M:List kV) (B:LO) (a0:Int) (Z:kv) (r:((List (ku×(List (ByteArray×Bool))))×(List kV)×Int)) (w:World) {μ0:lE} (h0:pn μ0 ((K,Ob #[g,a,t,c,z,(.int .i64 a0)] 246)::(D++(j++(u++(k++(B++[])))))) w) (a2:nA (λ(x:ku)=>(.agg (kJ x).toArray)) (nz Value.string (λ(x:Bool)=>(Value.bool x))) g T D) (N:lh 52 kF 9 a G j) (Y:nA (λ(x:ku)=>(.agg (kJ x).toArray)) (lh 52 kF 9) t J u) (Q:nA Value.string (lh 52 kF 9) c H k) (U:sP 285 nB 3 z M B) (hm:vM T G J H M a0 Z=some r) :
  mi false pg0 262 [(.pointer (some ⟨K,0,none⟩)),(.agg (kF Z).toArray)] w ((K,Ob #[g,a,t,c,z,(.int .i64 a0)] 246)::(D++(j++(u++(k++(B++[])))))) (λv L1 W'=>∃S1 y3 S4,v=(.tuple #[])∧L1=((K,Ob #[g,a,t,c,y3,(.int .i64 (r.2.2))] 246)::(S1++(j++(u++(k++(S4++[]))))))∧nA (λ(x:ku)=>(.agg (kJ x).toArray)) (nz Value.string (λ(x:Bool)=>(Value.bool x))) g r.1 S1∧sP 285 nB 3 y3 r.2.1 S4):=by
 refine xq h0 33 func262 rfl (λd=>sg (VE (lM d rfl (λW2 b1 d=>lr (Wf Bq (VB d Mh rfl rfl dJ (ln (bg ?_))))))))
 refine Wi rfl (Wa (ln (CI hm rfl (λf1 hm=>?_) (λf1 hm=>?_))))
 ·refine kK (Wm (Wf xL (VA d Mh (kJ Z.Head) bZ bF (Wf FA (VB d Mh rfl rfl cN (bS hm λr4 f2 hm=>?_))))))
  refine VE (eM d (Cb (Pb Pz) (Cr (Qb Qz) (Cr (Qb Qz) (Cr (Qb Qz) (Cr (Qb Qz) (Cr (Qb Qz) Cn)))))) call321 (λhh _=>mi.nx (um K g T D a G j t J u c H k z M B a0 Z.Head Z.lO _ _ hh a2 N Y Q U f2)) ?_)
  rintro _ h1 ae g8 d g2 ad A ⟨e7,f4,e8,c2,rfl,e0,e1⟩
  obtain rfl:=c2.symm
  replace d:=d.perm (Tb (Tr (Tr (Tr (Tr (Tr Tn))))))
  refine lu (lG (pc ?_))
  obtain rfl:=sj hm
  exact nY rfl ⟨_,_,rfl,(d.nK (Kb (Kr (Kr (Kr (Kr (Kr Sn))))))),e7,f4,e8,rfl,rfl,e0,e1⟩
 refine sg (Wm (Wf rK (VA d Mh (kJ Z.B) bZ bF (bS hm λc6 d9 hm=>VE (Ct d call322 (Cc K g T a G t J c H z M a0 Z.B _ _ (a2.at (λb o n=>d.at_ (Mt (Mt (Ml n))))) (N.sl mR (λb o n=>d.at_ (Mt (Mt (Ma (Ml n)))))) (Y.at (λb o n=>d.at_ (Mt (Mt (Ma (Ma (Ml n))))))) (Q.at (λb o n=>d.at_ (Mt (Mt (Ma (Ma (Ma (Ml n)))))))) ((U.H9 Cl).mono (Pl.mono _) (nV (λb o n=>d.at_ (Mt (Mt (Ma (Ma (Ma (Ma (Ml n)))))))))) (At.of (d.at_ (Mt Mh)) _ rfl) d9) (λg9 f3 d5 e5 d f6 ab b2=>V (tI gN rfl b2) (Wm (ln (sW (mV (λi E W=>∃L a3 a5 O a4 a9 b6 b9,(E 13= .int .i64 (i:Nat)∧E 12= .int .i64 (c6.length:Nat))∧lx d5 b6∧ST false (keys ((K,Ob #[g,a,t,c,z,(.int .i64 a0)] 246)::(D++(j++(u++(k++(B++[]))))))) w W b6 ((K,Ob #[g,a,t,c,a5,(.int .i64 a9)] 246)::((b1,Ol (kF Z) 52)::(a3++(j++(u++(k++(a4++(e5++b9))))))))∧E 0=(.pointer (some ⟨K,0,none⟩))∧E 3=(.pointer (some ⟨b1,0,none⟩))∧E 11=f3∧nA (λ(x:ku)=>(.agg (kJ x).toArray)) (nz Value.string (λ(x:Bool)=>(Value.bool x))) g L a3∧sP 285 nB 3 a5 O a4∧rW G J H Z (c6.drop i) L O a9=some r) c6.length b2.len ⟨T,D,z,M,B,a0,d5,_,⟨rfl,rfl⟩,(lx.refl _),(d.kA (Sb (Pr (Pb Pz)) (Sb (Pr Pz) (Sr (Qr Qz) (Sr (Qr Qz) (Sr (Qr Qz) (Sr (Qr Qz) (Sr (Qr Qz) St)))))))),rfl,rfl,rfl,a2,U,hm⟩ dc dc dc (λ_ _ _ h=>by obtain ⟨_,_,_,_,_,_,_,_,a1,_⟩:=h; exact a1) ?_ ?_))))))))))
 ·rintro e2 E W c8 ⟨L,a3,a5,O,a4,a9,b6,b9,⟨eI,eN⟩,b7,d,c0,R,c1,b3,b4,I⟩
  obtain ⟨P,f7,d1,c4,d2⟩:=mC c8
  rw [d1] at I
  refine bg (VQ (lI (i:=(e2:Int)) (x0:=P) gN eH c1 eI b2 (aX _) c4) (λg3 c9=>V (kB rfl (OL d.has (λp n=>(Mt (Mt (Ma (Ma (Ma (Ma (Ma (Ml n))))))))) b2 (λ_=>rfl) c9 c4 (y:=(.string P)) rfl cN)) (Wa (ln (kK (Wh c0 (V (kB R (kI d.has (Mt Mh) (kF Z) rfl cU bE)) (V (kN rK R) (VA d (Mt Mh) (kJ Z.B) bZ bF (Wm (V (nP (v:=(.agg (nB (⟨Z.B,P⟩:kV)).toArray)) (vC rfl rfl) (nt jU gf (WZ _ gf) kr)) ?_)))))))))))
  refine bS I λc3 d0 I=>?_
  refine VE (eM d (Cb Pz (Cr (Qb Qz) (Cr (Qb Qz) (Cr (Qb Qz) (Cr (Qb Qz) (Cr (Qb Qz) Cn)))))) call323 (λhh _=>(Dk K g L a3 a G j t J u c H k a5 O a4 a9 Z (⟨Z.B,P⟩:kV) _ _ hh b3 N Y Q b4 d0)) ?_)
  rintro _ g4 e4 f9 d c5 aa A ⟨d6,e3,d7,b5,rfl,d3,d4⟩
  obtain rfl:=b5.symm
  replace d:=d.perm (Tb (Tr (Tr (Tr (Tr (Tr Tn))))))
  exact lu (lG (kL ⟨eI,c3.1,d6,e3,c3.2.1,d7,c3.2.2,e4,_,⟨rfl,eN⟩,(b7.trans c5),(d.kA (Kb (Sb (Pr (Pr (Pr (Pr (Pr Pz))))) St))),c0,R,c1,d3,d4,(by rw [d2]; exact I)⟩))
 rintro E W ⟨L,a3,a5,O,a4,a9,b6,b9,⟨eI,eN⟩,b7,d,c0,R,c1,b3,b4,I⟩
 rw [bo] at I
 refine kL ?_
 replace d:=d.kA (Kb (Db (Kr (Kr (Kr (Kr (Kr (Dr St))))))))
 refine lG (pc ?_)
 obtain rfl:=sj I
 exact nY rfl ⟨_,_,rfl,(d.nK (Kb (Kr (Kr (Kr (Kr (Kr Sn))))))),a3,a5,a4,rfl,rfl,b3,b4⟩
theorem GL (I:Nat) (a:Value) (e8:List (ku×(List (ByteArray×Bool)))) (K:LO) (c:Value) (Q:List kv) (j:LO) (u:Value) (N:List (ku×(List kv))) (y:LO) (g:Value) (H:List (ByteArray×(List kv))) (t:LO) (G:Value) (d4:List kV) (D:LO) (a0:Int) (r:((List (ku×(List (ByteArray×Bool))))×(List kV)×Int)) (w:World) {μ0:lE} (h0:pn μ0 ((I,Ob #[a,c,u,g,G,(.int .i64 a0)] 246)::(K++(j++(y++(t++(D++[])))))) w) (h4:nA (λ(x:ku)=>(.agg (kJ x).toArray)) (nz Value.string (λ(x:Bool)=>(Value.bool x))) a e8 K) (c1:lh 52 kF 9 c Q j) (g7:nA (λ(x:ku)=>(.agg (kJ x).toArray)) (lh 52 kF 9) u N y) (c2:nA Value.string (lh 52 kF 9) g H t) (g4:sP 285 nB 3 G d4 D) (hm:yc e8 Q N H d4 a0=some r) :
  mi false pg0 263 [(.pointer (some ⟨I,0,none⟩))] w ((I,Ob #[a,c,u,g,G,(.int .i64 a0)] 246)::(K++(j++(y++(t++(D++[])))))) (λv L1 W'=>∃S1 y3 S4,v=(.tuple #[])∧L1=((I,Ob #[a,c,u,g,y3,(.int .i64 (r.2.2))] 246)::(S1++(j++(y++(t++(S4++[]))))))∧nA (λ(x:ku)=>(.agg (kJ x).toArray)) (nz Value.string (λ(x:Bool)=>(Value.bool x))) a r.1 S1∧sP 285 nB 3 y3 r.2.1 S4):=by
 let g5:Value:=(.pointer (some ⟨I,0,none⟩))
 let b8:=((I,Ob #[a,c,u,g,G,(.int .i64 a0)] 246)::(K++(j++(y++(t++(D++[]))))))
 refine xq h0 75 func263 rfl (λd=>sW (ma (nn (λm E W=>∃e3 b7 e4 a1 b9 d1 b4 h5,lx μ0 b4∧ST false (keys b8) w W b4 ((I,Ob #[a,c,u,g,e4,(.int .i64 d1)] 246)::(b7++(j++(y++(t++(b9++h5))))))∧E 0=g5∧nA (λ(x:ku)=>(.agg (kJ x).toArray)) (nz Value.string (λ(x:Bool)=>(Value.bool x))) a e3 b7∧sP 285 nB 3 e4 a1 b9∧pF Q N H m e3 a1 d1=some r) kY ⟨e8,K,G,d4,D,a0,μ0,_,(lx.refl _),(d.kA St),rfl,h4,g4,hm⟩ ?_)))
 rintro m E W ⟨e3,b7,e4,a1,b9,d1,b4,h5,i0,d,R,g9,c5,M⟩
 cases m with
 | zero=>rw [pF] at M; cases M
 | succ n0=>
  refine kM (sg (Wh R (Wn (Wf E7 (VB d Mh rfl rfl isAgg226 (V (WQ iH rfl c5) (Wi rfl (ln (CI M rfl (λi7 M=>?_) (λi7 M=>?_))))))))))
  ·refine kn (bg (Wh R (Wn (Wf E7 (VB d Mh rfl rfl isAgg226 (bS M λB h2 M=>VQ (uR (enc:=nB) (i:=0) (x0:=B) iH jL rfl rfl (c5.H9 Cl) (kW h2) (kO h2)) (λq0 j7=>V (kB rfl (lL (ql.hp _) (j7.mono (nV (λb o A=>d.has.2 b o (Mt (Ma (Ma (Ma (Ma (Ml A))))))))) isAgg285 jL)) (VE (ml d jU (λo9 a5 d=>VO (lA (.agg (nB B).toArray) ((nB B).toArray) d rfl rfl jL (Rg B) nb rfl (λp0 d=>lu ?_))))))))))))
   let j2:=((mJ kR N B.ku).getD [])
   let j1:Value:=(.pointer (some ⟨a5,0,none⟩))
   let i6:=((nB B).toArray:Array Value)
   let i5:=((mJ lz H B.ku.Word).getD [])
   refine kL (sg (Wh R (Wh R (Wn (Wf E7 (VB d (Mt Mh) rfl rfl isAgg226 (bS M λ_ g8 M=>VQ (SU (i:=1) iH jL rfl rfl Cl c5 (A6 g8) (AL g8)) (λq3 h1=>Wn (Wf E7 ?_)))))))))
   obtain ⟨f7,g0,rfl⟩:=h1.form
   let g6:Value:=(.slice f7 (a1.drop (Int.toNat 1)).length g0)
   replace d:=d.perm (Nb (Pb Pz) Nz)
   refine VO (lA g6 (#[a,c,u,g,g6,(.int .i64 d1)]) d rfl rfl sizeOf226 oc nb rfl (λp1 d=>ln (kM (kM ?_))))
   replace d:=d.drew
   have n:=d.has.kA (Kb (Kb (Dr (Dr (Kr Sn)))))
   refine lU n li (X 0 rfl n (kD R) (X 1 rfl n (oV rfl) (X 2 rfl n (kN Ri rfl) (XH 3 rfl n (λ_ p=>kB rfl (lg p Mh rfl isAgg243)) (X 4 rfl n (kN Np rfl) (XH 5 rfl n (λ_ p=>kB rfl (kI p (Mt Mh) (kJ B.ku) rfl bZ bF)) ?_))))))
   obtain ⟨l7,c3⟩:=g7
   obtain ⟨o7,f0,k2⟩:=oP.rowAt lj.1 c3 B.ku
   refine XH 6 rfl n (λ_ p=>rV (k:=B.ku) (z:=(.slice none 0 0)) EA underlying243 ki rfl rfl c3 (λb o A=>p.2 b o (Mt (Mt (Ml A))))) (X 7 rfl n (nv bJ rfl (f0.H9 mR)) (X 8 rfl n (kD rfl) (lX kr (kL (CJ M (λd0 E W=>∃d6 e5 d7 b5 h6,lx b4 b5∧ST false (keys b8) w W b5 ((I,Ob #[a,c,u,g,e5,(.int .i64 d0.2.2)] 246)::((a5,Obj.cells i6 285 (0,0))::(d6++(j++(y++(t++(d7++h6)))))))∧E 0=g5∧E 2=j1∧nA (λ(x:ku)=>(.agg (kJ x).toArray)) (nz Value.string (λ(x:Bool)=>(Value.bool x))) a d0.1 d6∧sP 285 nB 3 e5 d0.2.1 d7) (λd0 j6=>?_) ?_)))))
   ·refine mV (λi E W=>∃c7 a3 b1 c8 a4 d2 d3 f9,(E 35= .int .i64 (i:Nat)∧E 34= .int .i64 (j2.length:Nat))∧lx b4 d3∧ST false (keys b8) w W d3 ((I,Ob #[a,c,u,g,b1,(.int .i64 d2)] 246)::((a5,Obj.cells i6 285 (0,0))::(a3++(j++(y++(t++(a4++f9)))))))∧E 0=g5∧E 2=j1∧E 33=(uG kR l7 B.ku (.slice none 0 0))∧nA (λ(x:ku)=>(.agg (kJ x).toArray)) (nz Value.string (λ(x:Bool)=>(Value.bool x))) a c7 a3∧sP 285 nB 3 b1 c8 a4∧rG Q N H B (j2.drop i) c7 c8 d2=some d0) j2.length (f0.H9 mR).len ⟨e3,b7,g6,(a1.drop (Int.toNat 1)),b9,d1,b4,_,⟨rfl,rfl⟩,(lx.refl _),(d.kA St),R,rfl,rfl,g9,h1,j6⟩ dc dc dc (λ_ _ _ h=>by obtain ⟨_,_,_,_,_,_,_,_,O,_⟩:=h; exact O) ?_ ?_
    ·rintro m5 E W j0 ⟨c7,a3,b1,c8,a4,d2,d3,f9,⟨L,eN⟩,d5,d,e1,e2,g1,f3,f4,T⟩
     obtain ⟨b3,o3,l1,l0,l2⟩:=mC j0
     rw [l1] at T
     refine bg (VQ (uR (enc:=kF) (i:=(m5:Int)) (x0:=b3) bJ bE g1 L (f0.H9 mR) (aX _) l0) (λq2 j9=>V (kB rfl (lL (ql.hp _) (j9.mono (nV (λb o A=>d.has.2 b o (Mt (Mt (Ma (Ma (Ml (k2 b o A))))))))) cU bE)) (VE (ml d dU (λp5 p9 d=>VO (lA (.agg (kF b3).toArray) ((kF b3).toArray) d rfl rfl bE (su b3) nb rfl (λp6 d=>ln (kK (Wh e1 (VA d Mh (kF b3) cU bE (V (kB e2 (kI d.has (Mt (Mt Mh)) (nB B) rfl isAgg285 jL)) (bS T λg3 k1 T=>?_))))))))))))
     refine VE (eM d (Cb (Pb Pz) (Cr (Qb (Qb Qz)) (Cr (Qb (Qb Qz)) (Cr (Qb (Qb Qz)) (Cr (Qb (Qb Qz)) (Cr (Qb (Qb Qz)) Cn)))))) call323 (λhh _=>(Dk I a c7 a3 c Q j u N y g H t b1 c8 a4 d2 b3 B _ _ hh f3 c1 c3.e c2 f4 k1)) ?_)
     rintro _ q5 n6 o6 d i4 ab P ⟨m1,n4,m2,f6,rfl,l5,l6⟩
     obtain rfl:=f6.symm
     replace d:=d.perm (Tb (Tr (Tr (Tr (Tr (Tr Tn))))))
     refine lu (lG (kL ?_))
     replace d:=d.kA (Kb (Kr (Kr (Kr (Kr (Kr (Db St)))))))
     exact ⟨L,g3.1,m1,n4,g3.2.1,m2,g3.2.2,n6,_,⟨rfl,eN⟩,(d5.trans i4),(d.kA (Kb (Sb (Pr (Pr (Pr (Pr (Pr Pz))))) St))),e1,e2,g1,l5,l6,(by rw [l2]; exact T)⟩
    rintro E W ⟨c7,a3,b1,c8,a4,d2,d3,f9,⟨L,eN⟩,d5,d,e1,e2,g1,f3,f4,T⟩
    rw [bo] at T
    refine kL ?_
    obtain rfl:=sj T
    exact ⟨a3,b1,a4,d3,_,d5,(d.kA St),e1,e2,f3,f4⟩
   rintro ⟨m6,m7,n1⟩ E W ⟨d6,e5,d7,b5,h6,i1,d,h8,h9,k3,k4⟩ j3
   refine kM ?_
   replace d:=d.drew
   have n:=d.has.kA (Kb (Kb (Dr (Dr (Dr (Kr Sn))))))
   refine lU n li (X 0 rfl n (kD h8) (X 1 rfl n (oV rfl) (X 2 rfl n (kN ML rfl) (XH 3 rfl n (λ_ p=>kB rfl (lg p Mh rfl isAgg244)) (X 4 rfl n (kN Np h9) (X 5 rfl n (kN Ae rfl) (XH 6 rfl n (λ_ p=>kB rfl (lg p (Mt Mh) rfl cN)) ?_)))))))
   obtain ⟨l8,e9⟩:=c2
   obtain ⟨o8,f1,k5⟩:=oP.rowAt nE.1 e9 B.ku.Word
   refine XH 7 rfl n (λ_ p=>rV (k:=B.ku.Word) (z:=(.slice none 0 0)) L7 underlying244 ki rfl rfl e9 (λb o A=>p.2 b o (Mt (Mt (Ml A))))) (X 8 rfl n (nv bJ rfl (f1.H9 mR)) (X 9 rfl n (kD rfl) (lX kr (kL (sW (CJ j3 (λc9 E W=>∃d8 e6 d9 e7 h7,lx b5 e7∧ST false (keys b8) w W e7 ((I,Ob #[a,c,u,g,e6,(.int .i64 c9.2.2)] 246)::(d8++(j++(y++(t++(d9++h7))))))∧E 0=g5∧nA (λ(x:ku)=>(.agg (kJ x).toArray)) (nz Value.string (λ(x:Bool)=>(Value.bool x))) a c9.1 d8∧sP 285 nB 3 e6 c9.2.1 d9) (λc9 j5=>?_) ?_))))))
   ·refine mV (λi E W=>∃a9 Y a2 b0 Z b2 b6 f8,(E 53= .int .i64 (i:Nat)∧E 52= .int .i64 (i5.length:Nat))∧lx b5 b6∧ST false (keys b8) w W b6 ((I,Ob #[a,c,u,g,a2,(.int .i64 b2)] 246)::((a5,Obj.cells i6 285 (0,0))::(Y++(j++(y++(t++(Z++f8)))))))∧E 0=g5∧E 2=j1∧E 51=(uG lz l8 B.ku.Word (.slice none 0 0))∧nA (λ(x:ku)=>(.agg (kJ x).toArray)) (nz Value.string (λ(x:Bool)=>(Value.bool x))) a a9 Y∧sP 285 nB 3 a2 b0 Z∧qo B Q N H (i5.drop i) a9 b0 b2=some c9) i5.length (f1.H9 mR).len ⟨m6,d6,e5,m7,d7,n1,b5,_,⟨rfl,rfl⟩,(lx.refl _),(d.kA St),h8,h9,rfl,k3,k4,j5⟩ dc dc dc (λ_ _ _ h=>by obtain ⟨_,_,_,_,_,_,_,_,O,_⟩:=h; exact O) ?_ ?_
    ·rintro m4 E W i9 ⟨a9,Y,a2,b0,Z,b2,b6,f8,⟨L,eN⟩,a8,d,a7,c0,e0,f2,c6,J⟩
     obtain ⟨U,o2,k9,k8,h3⟩:=mC i9
     rw [k9] at J
     refine bg (VQ (uR (enc:=kF) (i:=(m4:Int)) (x0:=U) bJ bE e0 L (f1.H9 mR) (aX _) k8) (λq1 j8=>V (kB rfl (lL (ql.hp _) (j8.mono (nV (λb o A=>d.has.2 b o (Mt (Mt (Ma (Ma (Ma (Ml (k5 b o A)))))))))) cU bE)) (VE (ml d dU (λp2 p8 d=>VO (lA (.agg (kF U).toArray) ((kF U).toArray) d rfl rfl bE (su U) nb rfl (λp3 d=>ln (kM ?_))))))))
     replace d:=d.drew
     have n:=d.has.kA (Kb (Kb (Kb (Kr Sn))))
     refine lU n li (X 0 rfl n (kD a7) (X 1 rfl n (oV rfl) (X 2 rfl n (kN AW rfl) (XH 3 rfl n (λ_ p=>kB rfl (lg p (Mt Mh) rfl iM)) (X 4 rfl n (kN rK rfl) (XH 5 rfl n (λ_ p=>kB rfl (kI p Mh (kJ U.B) rfl bZ bF)) ?_))))))
     obtain ⟨o0,c4⟩:=f2
     refine XH 6 rfl n (λ_ p=>rV (k:=U.B) (z:=(.map none)) EA fh fU rfl rfl c4 (λb o A=>p.2 b o (Mt (Mt (Mt (Ml A)))))) (X 7 rfl n (kN Np c0) (X 8 rfl n (kN yB rfl) (XH 9 rfl n (λ_ p=>kB rfl (lg p (Mt (Mt Mh)) rfl cN)) (XH 10 rfl n (λ_ p=>D6 (k:=B.ku.kw) (z:=false) (vf:=(λ(x:Bool)=>(Value.bool x))) L7 gj jT rfl rfl (oP.HL (μ:=hp _) lj.1 c4 U.B (λb o A=>p.2 b o (Mt (Mt (Mt (Ml A))))))) (lX kr (kL (CI J rfl (λi8 J=>?_) (λi8 J=>?_))))))))
     ·refine kK (Wh a7 (Wf xL (VA d Mh (kJ U.Head) bZ bF (V (kN E4 c0) (VB d (Mt (Mt Mh)) rfl rfl cN (bS J λg2 k0 J=>?_))))))
      refine VE (eM d (Cb (Pb Pz) (Cr (Qb (Qb Qz)) (Cr (Qb (Qb Qz)) (Cr (Qb (Qb Qz)) (Cr (Qb (Qb Qz)) (Cr (Qb (Qb Qz)) Cn)))))) call321 (λhh _=>mi.nx (um I a a9 Y c Q j u N y g H t a2 b0 Z b2 U.Head B.lO _ _ hh c4.e c1 c3.e e9.e c6 k0)) ?_)
      rintro _ q4 n5 o5 d i3 aa P ⟨l9,n3,m0,f5,rfl,l3,l4⟩
      obtain rfl:=f5.symm
      replace d:=d.perm (Tb (Tr (Tr (Tr (Tr (Tr Tn))))))
      refine lu (lG (kL ?_))
      replace d:=d.kA (Kb (Kr (Kr (Kr (Kr (Kr (Db St)))))))
      exact ⟨L,g2.1,l9,n3,g2.2.1,m0,g2.2.2,n5,_,⟨rfl,eN⟩,(a8.trans i3),(d.kA (Kb (Sb (Pr (Pr (Pr (Pr (Pr Pz))))) St))),a7,c0,e0,l3,l4,(by rw [h3]; exact J)⟩
     refine nf (lG (kL ?_))
     replace d:=d.kA (Db St)
     exact ⟨L,a9,Y,a2,b0,Z,b2,b6,_,⟨rfl,eN⟩,a8,(d.kA St),a7,c0,e0,c4.e,c6,(by rw [h3]; exact J)⟩
    rintro E W ⟨a9,Y,a2,b0,Z,b2,b6,f8,⟨L,eN⟩,a8,d,a7,c0,e0,f2,c6,J⟩
    rw [bo] at J
    refine kL ?_
    obtain rfl:=sj J
    exact ⟨Y,a2,Z,b6,_,a8,(d.kA (Kb (Db St))),a7,f2,c6⟩
   rintro ⟨m8,m9,n2⟩ E W ⟨d8,e6,d9,e7,h7,i2,d,m3,k6,k7⟩ j4
   exact lG (kL ⟨n0,aQ _,m8,d8,e6,m9,d9,n2,e7,_,((i0.trans i1).trans i2),(d.kA St),m3,k6,k7,j4⟩)
  refine mX (mD (mD (pE (kL (pc ?_)))))
  obtain rfl:=sj M
  exact nY rfl ⟨_,_,rfl,(d.nK (Kb (Kr (Kr (Kr (Kr (Kr Sn))))))),b7,e4,b9,rfl,rfl,g9,c5⟩
theorem Il (H:Nat) (g:Value) (c2:List (ku×(List (ByteArray×Bool)))) (G:LO) (u:Value) (a7:List kv) (k:LO) (c:Value) (b7:List (ku×(List kv))) (z:LO) (a:Value) (a8:List (ByteArray×(List kv))) (t:LO) (B:Value) (b6:List kV) (y:LO) (K:Int) (d1:Value) (L:List kv) (r:(Int×(List (ku×(List (ByteArray×Bool))))×(List kv)×(List (ku×(List kv)))×(List (ByteArray×(List kv)))×(List kV)×Int)) (w:World) {μ0:lE} (h0:pn μ0 ((H,Ob #[g,u,c,a,B,(.int .i64 K)] 246)::(G++(k++(z++(t++(y++[])))))) w) (d6:nA (λ(x:ku)=>(.agg (kJ x).toArray)) (nz Value.string (λ(x:Bool)=>(Value.bool x))) g c2 G) (c6:lh 52 kF 9 u a7 k) (d3:nA (λ(x:ku)=>(.agg (kJ x).toArray)) (lh 52 kF 9) c b7 z) (c7:nA Value.string (lh 52 kF 9) a a8 t) (d2:sP 285 nB 3 B b6 y) (d7:Sl (Pl kF) 9 μ0 d1 L) (hm:xj c2 a7 b7 a8 b6 K L=some r) :
  mi false pg0 200 [(.pointer (some ⟨H,0,none⟩)),d1] w ((H,Ob #[g,u,c,a,B,(.int .i64 K)] 246)::(G++(k++(z++(t++(y++[])))))) (λv L1 W'=>∃S1 y3 S4 S6 S8 i1 i0,v=(.int .i64 (r.1))∧L1=((H,Ob #[g,y3,c,a,i1,(.int .i64 (r.2.2.2.2.2.2))] 246)::(S1++(S4++(S6++(S8++(i0++[]))))))∧nA (λ(x:ku)=>(.agg (kJ x).toArray)) (nz Value.string (λ(x:Bool)=>(Value.bool x))) g r.2.1 S1∧lh 52 kF 9 y3 r.2.2.1 S4∧nA (λ(x:ku)=>(.agg (kJ x).toArray)) (lh 52 kF 9) c r.2.2.2.1 S6∧nA Value.string (lh 52 kF 9) a r.2.2.2.2.1 S8∧sP 285 nB 3 i1 r.2.2.2.2.2.1 i0):=by
 let b8:=((H,Ob #[g,u,c,a,B,(.int .i64 K)] 246)::(G++(k++(z++(t++(y++[]))))))
 refine xq h0 46 func200 rfl (λd=>sg (Wa (lS (Wm (V (xX underlying183 rfl rfl) (ln (sX rfl (nf ?_))))))))
 refine kL (sg (Wm (Wn (Wf JA (VB d Mh rfl rfl dJ (Wa (lS (Wm (V (nv bJ rfl d7) ?_)))))))))
 refine Wm (ln (mV (λi E W=>∃a3 N M a4 Q a9 T A U a0 a5 Y a2 c1 d5,(E 16= .int .i64 (i:Nat)∧E 15= .int .i64 (L.length:Nat))∧lx μ0 c1∧ST false (keys b8) w W c1 ((H,Ob #[g,M,c,a,a0,(.int .i64 a2)] 246)::(N++(Q++(T++(U++(Y++d5))))))∧E 0=(.pointer (some ⟨H,0,none⟩))∧E 5=(.int .i64 K)∧E 14=d1∧nA (λ(x:ku)=>(.agg (kJ x).toArray)) (nz Value.string (λ(x:Bool)=>(Value.bool x))) g a3 N∧lh 52 kF 9 M a4 Q∧nA (λ(x:ku)=>(.agg (kJ x).toArray)) (lh 52 kF 9) c a9 T∧nA Value.string (lh 52 kF 9) a A U∧sP 285 nB 3 a0 a5 Y∧qm K (L.drop i) a3 a4 a9 A a5 a2=some r) L.length d7.len ⟨c2,G,u,a7,k,b7,z,a8,t,B,b6,y,K,μ0,_,⟨rfl,rfl⟩,(lx.refl _),(d.kA St),rfl,rfl,rfl,d6,c6,d3,c7,d2,hm⟩ dc dc dc (λ_ _ _ h=>by obtain ⟨_,_,_,_,_,_,_,_,_,_,_,_,_,_,_,aa,_⟩:=h; exact aa) ?_ ?_))
 ·rintro f6 E W g3 ⟨a3,N,M,a4,Q,a9,T,A,U,a0,a5,Y,a2,c1,d5,⟨eI,eN⟩,b1,d,P,c3,c4,b2,O,b3,b4,b5,D⟩
  obtain ⟨I,j8,h4,h3,d9⟩:=mC g3
  rw [h4] at D
  refine bg (VQ (uR (enc:=kF) (i:=(f6:Int)) (x0:=I) bJ bE c4 eI (d7.mono (Pl.mono _) b1) (aX _) h3) (λl1 g4=>V (kB rfl (lL d.has g4 cU bE)) (VE (ml d dU (λk3 e8 d=>VO (lA (.agg (kF I).toArray) ((kF I).toArray) d rfl rfl bE (su I) nb rfl (λk4 d=>ln (kM ?_))))))))
  replace d:=d.drew
  have n:=d.has.kA (Kb (Kb Sn))
  refine lU n li (XH 0 rfl n (λ_ hS=>kB rfl (kI hS Mh (kF I) rfl cU bE)) (bS D λl2 g7 D=>XE 1 rfl (Eg d call144 (lC.nx (Av I _ _  g7)) (λk5 d=>?_))))
  have n:=d.has.kA (Kb (Kb Sn))
  refine ⟨n,(X 2 rfl n (kD rfl) (PJ D (λf7 E W=>∃e4,ST false (keys b8) w W c1 ((e8,Ol (kF I) 52)::((H,Ob #[g,M,c,a,a0,(.int .i64 a2)] 246)::(N++(Q++(T++(U++(Y++e4)))))))∧E 0=(.pointer (some ⟨H,0,none⟩))∧E 5=(.int .i64 K)∧E 7=(.pointer (some ⟨e8,0,none⟩))∧E 14=d1∧E 15=(.int .i64 (L.length:Int))∧E 16=(.int .i64 (f6:Int))∧E 30=(.bool f7)) (bm 11 2047) 0 ?_ (λf7 Z d4=>?_)))⟩
  ·rintro l7 E W ⟨e4,d,c5,e9,f0,f1,f2,f3,i6⟩ J
   refine lX kr (kL (CI J i6 (λg2 J=>?_) (λg2 J=>?_)))
   ·refine sg (Wh c5 (V (kB f0 (kI d.has Mh (kF I) rfl cU bE)) (bS J λR g8 J=>?_)))
    refine VE (eM d (Cb (Pb Pz) (Cr (Qb Qz) (Cr (Qb Qz) (Cr (Qb Qz) (Cr (Qb Qz) (Cr (Qb Qz) Cn)))))) call261 (λhh _=>mi.nx (HV H g a3 N M a4 Q c a9 T a A U a0 a5 Y a2 I _ _ hh b2 O b3 b4 b5 g8)) ?_)
    rintro _ l4 l8 k0 d f4 ab p ⟨f8,e5,e6,e7,c8,rfl,e0,e1,e2⟩
    obtain rfl:=c8.symm
    replace d:=d.perm (Tb (Tr (Tr (Tr (Tr (Tr Tn))))))
    refine ln (kK (Wh c5 (V (kB f0 (kI d.has (Mt (Ma (Ma (Ma (Ma (Ma Mh)))))) (kF I) rfl cU bE)) (bS J λd8 g9 J=>?_))))
    refine VE (eM d (Cb Pz (Cr Qz (Cr Qz (Cr Qz (Cr Qz (Cr Qz Cn)))))) call262 (λhh _=>(Hg H g a3 N f8 R.1 e5 c R.2.1 e6 a R.2.2 e7 a0 a5 Y a2 I _ _ hh b2 e0 e1 e2 b5 g9)) ?_)
    rintro _ l5 j0 k1 d f5 ad p ⟨i2,i8,i3,c9,rfl,h5,h6⟩
    obtain rfl:=c9.symm
    replace d:=d.perm (Tb (Tr (Tr (Tr (Tr (Tr Tn))))))
    refine lu (lG (kL ?_))
    replace d:=d.kA (Kb (Kr (Kr (Kr (Kr (Kr (Db St)))))))
    exact ⟨f3,d8.1,i2,f8,R.1,e5,R.2.1,e6,R.2.2,e7,i8,d8.2.1,i3,d8.2.2,j0,_,⟨rfl,f2⟩,((b1.trans f4).trans f5),(d.kA St),c5,e9,f1,h5,e0,e1,e2,h6,(by rw [d9]; exact J)⟩
   refine nf (lG (kL ?_))
   replace d:=d.kA (Db St)
   exact ⟨f3,a3,N,M,a4,Q,a9,T,A,U,a0,a5,Y,a2,c1,_,⟨rfl,f2⟩,b1,(d.kA St),c5,e9,f1,b2,O,b3,b4,b5,(by rw [d9]; exact J)⟩
  refine bC Z (λj Z=>?_) (λj Z=>?_)
  ·refine Xg 3 rfl rfl (cB j) n (kD P) (Xg 4 rfl rfl (cB j) n (oV rfl) (Xg 5 rfl rfl (cB j) n (kN MM rfl) (Aj 6 rfl rfl (cB j) n (λ_ hS=>kB rfl (lg hS (Mt Mh) rfl jA)) (Aj 7 rfl rfl (cB j) n (λ_ hS=>kB rfl (kI hS Mh (kF I) rfl cU bE)) (bS Z λl3 h1 Z=>Mf 8 rfl rfl (cB j) (Eg d call111 (lC.nx (Hy M a4 I _ _ (O.sl mR (λb o hq=>d.at_ (Mt (Mt (Ma (Ml hq)))))) h1)) (λk8 d=>?_)))))))
   have n:=d.has.kA (Kb (Kb Sn))
   refine ⟨n,(Xg 9 rfl rfl (cB j) n (oF rfl) (X 10 rfl n (lK (cB j) rfl) ?_))⟩
   obtain rfl:=sj Z
   refine rN kr (d4 _ _ ⟨_,(d.kA St),P,c3,rfl,c4,eN,eI,rfl⟩)
  refine Xn 3 rfl rfl (cB j) n (Xn 4 rfl rfl (cB j) n (Xn 5 rfl rfl (cB j) n (Xn 6 rfl rfl (cB j) n (Xn 7 rfl rfl (cB j) n (Xn 8 rfl rfl (cB j) n (Xn 9 rfl rfl (cB j) n (X 10 rfl n (lN (cB j) rfl) ?_)))))))
  obtain rfl:=sj Z
  refine rN kr (d4 _ _ ⟨_,(d.kA St),P,c3,rfl,c4,eN,eI,rfl⟩)
 rintro E W ⟨a3,N,M,a4,Q,a9,T,A,U,a0,a5,Y,a2,c1,d5,⟨eI,eN⟩,b1,d,P,c3,c4,b2,O,b3,b4,b5,D⟩
 rw [bo] at D
 refine kL (sg (Wh P (bS D λi7 h2 D=>?_)))
 refine VE (eM d (Cb Pz (Cr Qz (Cr Qz (Cr Qz (Cr Qz (Cr Qz Cn)))))) call263 (λhh _=>(GL H g a3 N M a4 Q c a9 T a A U a0 a5 Y a2 _ _ hh b2 O b3 b4 b5 h2)) ?_)
 rintro _ l6 l9 k2 d j6 ae p ⟨i4,i9,i5,d0,rfl,h7,h8⟩
 obtain rfl:=d0.symm
 replace d:=d.perm (Tb (Tr (Tr (Tr (Tr (Tr Tn))))))
 refine lr (Wh P (Wn (Wf JA (VB d Mh rfl rfl dJ (Wh c3 (Wi rfl (Wa (lt ?_))))))))
 obtain rfl:=sj D
 exact nC (v:=(.int .i64 (wi0 .i64 (i7.2.2-K)))) rfl rfl ⟨_,_,rfl,(d.nK (Kb (Kr (Kr (Kr (Kr (Kr Sn))))))),i4,M,Q,T,U,i9,i5,rfl,rfl,h7,O,b3,b4,h8⟩
theorem Mz (j:Value) (H:List kv) (r:((List (ku×(List (ByteArray×Bool))))×(List kv)×(List (ku×(List kv)))×(List (ByteArray×(List kv)))×(List kV)×Int)) (w:World) (J:Sl (Pl kF) 9 (hp w) j H) (hm:AI H=some r) :
  mi false pg0 126 [j] w [] (λv L1 W'=>∃A I S3 L S6 O S9 D u G y,v=(.pointer (some ⟨A,0,none⟩))∧L1=((A,Ob #[I,L,O,D,G,(.int .i64 (r.2.2.2.2.2))] 246)::(S3++(S6++(S9++(u++(y++[]))))))∧nA (λ(x:ku)=>(.agg (kJ x).toArray)) (nz Value.string (λ(x:Bool)=>(Value.bool x))) I r.1 S3∧lh 52 kF 9 L r.2.1 S6∧nA (λ(x:ku)=>(.agg (kJ x).toArray)) (lh 52 kF 9) O r.2.2.1 S9∧nA Value.string (lh 52 kF 9) D r.2.2.2.1 u∧sP 285 nB 3 G r.2.2.2.2.1 y):=by
 refine Dg 13 func126 rfl (λd=>sg (Wa (lr (VE (Hs (P:=pg0) (λ(x:ku)=>(.agg (kJ x).toArray)) (nz Value.string (λ(x:Bool)=>(Value.bool x))) d (λW1 v4 R2 d z=>VE (Hs (P:=pg0) (λ(x:ku)=>(.agg (kJ x).toArray)) (lh 52 kF 9) d (λW5 v8 R6 d B=>VE (Hs (P:=pg0) Value.string (lh 52 kF 9) d (λW9 c4 Y d t=>?_))))))))))
 obtain ⟨a,rfl⟩:=z.form
 obtain ⟨c,rfl⟩:=B.form
 obtain ⟨g,rfl⟩:=t.form
 refine V (nP (v:=(.agg #[(.map (some a)),(.slice none 0 0),(.map (some c)),(.map (some g)),(.slice none 0 0),(.int .i64 0)])) (BD rfl rfl rfl) (nt zeroValue246 fg (aaE _ fg) kr)) (VE (lM d rfl (λc1 k d=>Wa (lr (Wm (Wm (bS hm λc3 K hm=>?_)))))))
 refine VE (eM d (Cb Pz (Cr (Qr (Qr Qz)) (C0 (Cr (Qr Qz) (Cr Qz (C0 Cn)))))) call200 (λhh p=>(Il k (.map (some a)) ([]) R2 (.slice none 0 0) ([]) [] (.map (some c)) ([]) R6 (.map (some g)) ([]) Y (.slice none 0 0) ([]) [] 0 j H _ _ hh z (lh.nil _ _ _) B t (sP.nil _ _ _) (J.mono (Pl.mono _) p) K)) ?_)
 rintro _ c5 c6 c0 d b5 E n ⟨Z,R,a2,a3,a4,W,a5,i,rfl,M,N,Q,T,U⟩
 obtain rfl:=i.symm
 replace d:=d.perm (Tb (Tr (Tr (Tr (Tr (Tr Tn))))))
 refine lr (Wm (Wa (lt ?_)))
 obtain rfl:=sj hm
 exact nC (v:=(.pointer (some ⟨k,0,none⟩))) rfl rfl ⟨_,_,rfl,(d.RH (Kb (Kr (Kr (Kr (Kr (Kr Sn))))))),k,(.map (some a)),Z,R,a2,(.map (some c)),a3,(.map (some g)),a4,W,a5,rfl,rfl,M,N,Q,T,U⟩
theorem P7 (c:Value) (D:List kv) (G:ByteArray) (r:((List (ku×(List (ByteArray×Bool))))×(List kv)×(List (ku×(List kv)))×(List (ByteArray×(List kv)))×(List kV)×Int×ByteArray)) (w:World) (I:Sl (Pl kF) 9 (hp w) c D) (hm:yC D G=some r) :
  mi false pg0 123 [c,(.string G)] w [] (λv L1 W'=>∃g p A S4 E S7 L j z k B t u,v=(.func (.func 191) #[] #[(.pointer (some ⟨g,0,none⟩)),(.pointer (some ⟨u,0,none⟩))])∧L1=((g,Ob #[(.pointer (some ⟨p,0,none⟩))] 183)::((p,Ob #[A,E,L,z,B,(.int .i64 (r.2.2.2.2.2.1))] 246)::((u,Ob #[(.string (r.2.2.2.2.2.2))] 9)::(S4++(S7++(j++(k++(t++[]))))))))∧nA (λ(x:ku)=>(.agg (kJ x).toArray)) (nz Value.string (λ(x:Bool)=>(Value.bool x))) A r.1 S4∧lh 52 kF 9 E r.2.1 S7∧nA (λ(x:ku)=>(.agg (kJ x).toArray)) (lh 52 kF 9) L r.2.2.1 j∧nA Value.string (lh 52 kF 9) z r.2.2.2.1 k∧sP 285 nB 3 B r.2.2.2.2.1 t):=by
 refine Dg 9 func123 rfl (λd=>sg (VE (lM d rfl (λW2 g d=>Wa (lr (Wm (bS hm λr3 O hm=>?_)))))))
 refine VE (Df d (cM _) call126 (λ_ _ _ _=>(Mz c D _ _ (I.mono (Pl.mono _) d.kC) O)) (λW5 v9 aa c0 d b9 a1 n H=>?_) (L0:=[]))
 obtain ⟨i,P,T,R,U,a9,Y,W,Z,b3,a2,a,rfl,J,K,M,N,Q⟩:=H
 replace a:=a.symm; subst a
 replace d:=d.perm (Tb (Tr (Tr (Tr (Tr (Tr Tn))))))
 refine VE (ml d zeroValue183 (λc1 y d=>VO (lA (.pointer (some ⟨i,0,none⟩)) (#[(.pointer (some ⟨i,0,none⟩))]) d rfl rfl sizeOf183 oc nb rfl (λc2 d=>lr (V (qR (by exact qT rfl rfl) rfl) (Wa (lt ?_)))))))
 obtain rfl:=sj hm
 exact nC (v:=(.func (.func 191) #[] #[(.pointer (some ⟨y,0,none⟩)),(.pointer (some ⟨g,0,none⟩))])) rfl rfl ⟨_,_,rfl,(d.RH (Kb (Kb (Sb (Pr (Pr (Pr (Pr (Pr Pz))))) (Kr (Kr (Kr (Kr (Kr Sn))))))))),y,i,P,T,R,U,a9,Y,W,Z,b3,a2,g,rfl,rfl,J,K,M,N,Q⟩
theorem Lu (a:kU) (g c:Value) (k:Nat) (u:kv) (r:Bool) (w:World) (j:Sl (Pl (mh .u8)) 1 (hp w) g a.Signed.Tag) (i:Sl kz 5 (hp w) c a.ky.Kids) (t:At (hp w) (.pointer (some ⟨k,0,none⟩)) (kF u)) (hm:zT a u=some r) :
  lC true pg0 254 [(.agg #[(.int .i64 a.Signed.kv.Kind),(.string a.Signed.kv.Head.kw),(.string a.Signed.kv.Head.Word),(.string a.Signed.kv.lO),(.string a.Signed.kv.B.kw),(.string a.Signed.kv.B.Word),(.string a.Signed.kv.C.kw),(.string a.Signed.kv.C.Word),(.string a.Signed.kv.mg),g,(.int .i64 a.ky.Op),(.int .i64 a.ky.K),(.string a.ky.ku.kw),(.string a.ky.ku.Word),c]),(.pointer (some ⟨k,0,none⟩))] w (.bool r):=by
 refine cG 9 func254 rfl (λd=>sg ?_)
 obtain ⟨x,z,rfl⟩:=j.form
 obtain ⟨y,B,rfl⟩:=i.form
 refine VE (lM d rfl (λD G d=>Wa (lr (Wf Au (Wf D5 (VA d Mh (kF a.Signed.kv) cU bE (V (kB rfl (lL d.has t cU bE)) (V (ER rfl rfl (uC gh) (AY (B9 _ a.Signed.kv u))) (Wa (ln ?_))))))))))
 exact lJ (rQ hm d)
theorem Qq (k:lB) (g j:Value) (D:kv) (r:(kU×Bool)) (w:World) {J:lE} (A:pn J [] w) (c:Sl kX 15 J g k.kE) (B:Sl lH 8 J j k.kQ) (hm:CG k D=some r) :
  ol false pg0 192 [(.agg #[(.string k.Name),g,j]),(.agg (kF D).toArray)] w J [] (λv L1 μ1=>∃n p,v=(.tuple #[(.agg #[(.int .i64 ((((r.1).Signed).kv).Kind)),(.string (((((r.1).Signed).kv).Head).kw)),(.string (((((r.1).Signed).kv).Head).Word)),(.string ((((r.1).Signed).kv).lO)),(.string (((((r.1).Signed).kv).B).kw)),(.string (((((r.1).Signed).kv).B).Word)),(.string (((((r.1).Signed).kv).C).kw)),(.string (((((r.1).Signed).kv).C).Word)),(.string ((((r.1).Signed).kv).mg)),n,(.int .i64 (((r.1).ky).Op)),(.int .i64 (((r.1).ky).K)),(.string ((((r.1).ky).ku).kw)),(.string ((((r.1).ky).ku).Word)),p]),(.bool (r.2))])∧L1=[]∧Sl (Pl (mh .u8)) 1 μ1 n (((r.1).Signed).Tag)∧Sl kz 5 μ1 p (((r.1).ky).Kids)):=by
 refine Ak A 19 func192 rfl (λd=>sg ?_)
 obtain ⟨T,U,rfl⟩:=c.form
 obtain ⟨A3,c4,rfl⟩:=B.form
 refine VE (lM d rfl (λW6 b5 d=>VE (lM d rfl (λW8 K d=>VE (ml d eA (λb3 b9 d=>Wa (lr (Wf uh (VB d (Mt (Mt Mh)) rfl rfl gE (V (qR (by exact pR rfl) rfl) (bS hm λZ Q hm=>VE (Eg d call142 (vU (.slice T k.kE.length U) k.kE (.func (.func 254) #[] #[(.pointer (some ⟨K,0,none⟩))]) (λ(x:kU)=>zT x D) _ _ (c.mono kZ.mono d.kC) ⟨254,#[],#[(.pointer (some ⟨K,0,none⟩))],rfl,call254,λW x vs r L E hm=>by obtain ⟨_,rfl,Y⟩:=E; obtain ⟨R,u1,rfl,O,P⟩:=Y.out; exact (Lu x R u1 K D r W O P (At.of (L _ _ (d.at_ (Mt Mh))) _ rfl) hm).nx⟩ Q) (λb4 d=>Wa (lu ?_))))))))))))))
 refine kL ?_
 replace d:=d.kA (Kb (Db St))
 refine kM (sg (Wm (Wi rfl (ln (CI hm rfl (λM hm=>?_) (λM hm=>?_))))))
 ·refine sg (V (nP (v:=(.agg UL.toArray)) xV (nt eA gA (Zh _ gA) kr)) (VO (lA (.agg UL.toArray) (UL.toArray) d rfl rfl cY oc nb rfl (λb6 d=>Wa (ln ?_)))))
  replace d:=d.kA (Kb (Db St))
  refine lJ (mL ?_)
  obtain rfl:=sj hm
  exact zx (v0:=(.agg UL.toArray)) (v1:=(.bool false)) rfl rfl (kI d.has Mh UL rfl eJ cY) rfl ⟨_,_,_,rfl,(d.nK Sn),(lx.refl _),Lo.refl,(ST.nu d (pC.mem Sn)),(.slice none 0 0),(.slice none 0 0),rfl,rfl,(Sl.nil _ _ _),(Sl.nil _ _ _)⟩
 refine kg (Wf uh (VB d (Mt Mh) rfl rfl gE (Wm (bS hm λa I hm=>VQ (nN (i:=Z) (x0:=a) kX.out dm cY rfl rfl c (kW I) (kO I)) (λc1 ⟨_,⟨c3,c5,rfl,G,H⟩,N⟩=>V (kB rfl (lL d.has N eJ cY)) ?_)))))
 obtain ⟨t,y,rfl⟩:=G.form
 obtain ⟨u,z,rfl⟩:=H.form
 let a0:=(C3 a.Signed.kv.Kind a.Signed.kv.Head.kw a.Signed.kv.Head.Word a.Signed.kv.lO a.Signed.kv.B.kw a.Signed.kv.B.Word a.Signed.kv.C.kw a.Signed.kv.C.Word a.Signed.kv.mg t a.Signed.Tag.length y a.ky.Op a.ky.K a.ky.ku.kw a.ky.ku.Word u a.ky.Kids.length z)
 refine VO (lA (.agg a0.toArray) (a0.toArray) d rfl rfl cY oc nb rfl (λc0 d=>Wa (ln ?_)))
 replace d:=d.kA (Kb (Db St))
 refine lJ ?_
 obtain rfl:=sj hm
 exact zx (v0:=(.agg a0.toArray)) (v1:=(.bool true)) rfl rfl (kI d.has Mh a0 rfl eJ cY) rfl ⟨_,_,_,rfl,(d.nK Sn),(lx.refl _),Lo.refl,(ST.nu d (pC.mem Sn)),(.slice t a.Signed.Tag.length y),(.slice u a.ky.Kids.length z),rfl,rfl,G,H⟩
theorem I0 (c:Value) (u r:List mr) (w:World) {j:lE} (I:pn j [] w) (a:Sl lH 8 j c u) (hm:xM u=some r) :
  ol true pg0 256 [c] w j [] (λv G J=>∃z t,v=z∧G=(t++[])∧mn 132 lH 8 J z r t):=by
 unfold xM at hm
 refine Ak I 8 func256 rfl (λd=>sg (Wa (lS (Wm ?_))))
 obtain ⟨D,Q,rfl⟩:=a.form
 refine V (F5 dp rfl rfl) (ln ?_)
 rcases D with _ | M
 ·have y:=a.isNil
  replace hm:some []=some r:=by rw [y] at hm; simpa [nm,maxLen] using hm
  refine yR (rfl) (sg (Wa (lt (mL ?_))))
  obtain rfl:=sj hm
  refine nC (v:=(.slice none 0 0)) rfl rfl ?_
  replace d:=d.Zt
  exact ⟨_,_,_,rfl,(d.nK (Kr Sn)),(lx.refl _),Lo.refl,(ST.nu d (pC.mem (Kr Sn))),(.slice none 0 0),[],rfl,rfl,(mn.nil _ _ _ _)⟩
 ·refine sX (rfl) (kg (VE (lZ (cs:=#[]) d xV (Fb [] dp cW fR dc rfl (by simp) rfl rfl) (λN H d=>Wm (bS hm λT x hm=>VE (vG (B:=[(H,Ob #[] 132)]) mB d dc dp Jz.1 Jz.2.1 rfl Jz.2.2.1 Jz.2.2.2 rfl rfl (mn.lit mB (l:=[]) .nil rfl nb rfl) (Dj.sl mB a d.kC) x (λK g k d i=>Wa (lt ?_))))))))
  obtain rfl:=sj hm
  exact nC (v:=g) rfl rfl ⟨_,_,_,rfl,(d.nK (Kr Sn)),(lx.refl _),Lo.refl,(ST.nu d (pC.mem (Kr Sn))),g,k,rfl,rfl,i⟩
theorem FY (k:Value) (a0:List mr) (y:LO) (J:Value) (f1:mr→Option Bool) (r:List mr) (w:World) {Y:lE} (h0:pn Y (y++[]) w) (A:mn 132 lH 8 Y k a0 y) (a9:vL pg0 J Y (re lH) (λ(r:Bool)=>(.bool r)) f1) (hm:uI a0 f1=some r) :
  ol false pg0 255 [k,J] w Y (y++[]) (λv L1 μ1=>∃y1,v=y1∧L1=[]∧Sl lH 8 μ1 y1 (r)):=by
 refine Ak h0 42 func255 rfl (λd=>sg (Wa (lr (Wm (Wm (bS hm λr1 d7 hm=>VE (Eg d call147 (yd k a0 J f1 _ _ (A.sl mB d.kC (λb o O=>d.at_ (Ml O))) (a9.mono d.kC) d7) (λW3 d=>Wa (ln ?_)))))))))
 refine kM (sg (Wm (Wi rfl (ln (CI hm rfl (λd6 hm=>?_) (λd6 hm=>?_))))))
 ·refine sg (Wm (Wa (lt (mL ?_))))
  obtain rfl:=sj hm
  refine nC (v:=k) rfl rfl ?_
  obtain ⟨aa,d,d2,L,d8⟩:=ST.CO mB d A
  exact ⟨_,_,_,rfl,(d.nK Sn),d2,L,(ST.nu d (pC.mem Sn)),k,rfl,rfl,d8⟩
 refine kS (Wm (Wi rfl (Wa (ln (ma (nn (λm E W=>∃a2 K G H R,ST false (keys (y++[])) w W Y (K++R)∧E 0=k∧E 1=J∧E 5=(.int .i64 G)∧E 6=(.int .i64 H)∧mn 132 lH 8 Y k a2 K∧qf f1 m a2 G H=some r) kY ⟨a0,y,r1,(wi0 .i64 (r1+1)),_,(d.kA St),rfl,rfl,rfl,rfl,A,hm⟩ ?_))))))
 rintro m E W ⟨a2,K,G,H,R,d,t,Z,I,N,j,c⟩
 cases m with
 | zero=>rw [qf] at c; cases c
 | succ d4=>
  refine kM (sg (Wh N (Wh t (V (AE dp rfl j) (Wi rfl (ln (CI c rfl (λb6 c=>?_) (λb6 c=>?_))))))))
  ·refine kn (kM (CJ c (λa3 E W=>∃M a8,ST false (keys (y++[])) w W Y (M++a8)∧E 0=k∧E 1=J∧E 5=(.int .i64 a3.2)∧E 6=(.int .i64 H)∧mn 132 lH 8 Y k a3.1 M) (λa3 g=>?_) ?_))
   ·refine bg (Wh t (Wh N (bS g λa P g=>VQ (nj (i:=H) lH.out dp cW rfl rfl j (kW P) (kO P)) (λf5 ⟨_,⟨f8,f9,rfl,Q,T⟩,c1,e1⟩=>V (kB rfl (lL (ql.hp _) (c1.mono (nV (λb o O=>d.has.2 b o (Ml O)))) eG cW)) (VE (ml d fR (λe7 f3 d=>?_)))))))
    obtain ⟨u,B,rfl⟩:=Q.form
    obtain ⟨x,D,rfl⟩:=T.form
    let p:=(C5 a.ku.kw a.ku.Word a.ky.Op a.ky.K a.ky.ku.kw a.ky.ku.Word u a.ky.Kids.length B x a.lT.length D)
    refine VO (lA (.agg p.toArray) (p.toArray) d rfl rfl cW oc nb rfl (λe8 d=>lr (Wh Z (VA d Mh p eG cW (bS g λf7 c2 g=>VE (qQ a d a9 (lx.refl _) (re.mk mB (lH.mk ⟨(.slice u a.ky.Kids.length B),(.slice x a.lT.length D),rfl,Q,T⟩) d.kC) rfl (pR rfl) c2 (λe9 d=>V (oF rfl) (ln (CI g rfl (λb7 g=>?_) (λb7 g=>?_))))))))))
    ·refine sg (Wh t (Wh I (VA d Mh p eG cW (bS g λg3 U g=>VQ (nj (i:=G) lH.out dp cW rfl rfl j (kW U) (kO U)) (λf6 ⟨_,⟨g0,g1,rfl,e3,e4⟩,e2,b9⟩=>?_)))))
     replace d:=d.perm (Nr (Qb Qz) Nz)
     refine VO (uc (x1:=a) mB d j rfl rfl (lH.mk ⟨(.slice u a.ky.Kids.length B),(.slice x a.lT.length D),rfl,Q,T⟩) b9 (kO U) cW (λf0 c7 d b4=>ln ?_))
     replace d:=d.kA (Kr (Db St))
     refine kK (Wh I (Wi rfl (Wa (lu (lG (kL ?_))))))
     obtain rfl:=sj g
     exact ⟨c7,_,(d.kA St),t,Z,rfl,N,b4⟩
    refine nf (lG (kL ?_))
    obtain rfl:=sj g
    exact ⟨K,_,(d.kA (Db St)),t,Z,I,N,j⟩
   rintro ⟨d3,d5⟩ E W ⟨M,a8,d,c8,c9,d0,d1,c3⟩ c0
   exact kK (Wh d1 (Wi rfl (Wa (ln ⟨d4,aQ _,d3,M,d5,(wi0 .i64 (H+1)),_,(d.kA St),c8,c9,d0,rfl,c3,c0⟩))))
  refine mX (mD (mD (pE (kL (sg (Wh t (Wh I (bS c λ_ a4 c=>VQ (Fu (i:=G) dp cW rfl rfl j (A6 a4) (AL a4)) (λg2 c4=>VO (Is (z:=(⟨K0,(⟨0,0,K0,[]⟩:Formula),[]⟩:mr)) (zs:=[(.string zS),(.string zS),(.int .i64 0),(.int .i64 0),(.string zS),(.string zS),(.slice none 0 0),(.slice none 0 0)]) mB d j (lH.mk ⟨(.slice none 0 0),(.slice none 0 0),rfl,(Sl.nil _ _ _),(Sl.nil _ _ _)⟩) dp fR c4 rfl rfl (λf2 e6 d b5=>lr (Wh t ?_))))))))))))
  refine Wh I (bS c λ_ a5 c=>VQ (LF (i:=G) dp cW rfl rfl b5 (A6 a5) (AL a5)) (λb1 c5=>Wa (lt ?_)))
  obtain rfl:=sj c
  refine nC (v:=b1) rfl rfl ?_
  obtain ⟨g7,d,b0,n,c6⟩:=ST.CO mB d c5
  exact ⟨_,_,_,rfl,(d.nK Sn),b0,n,(ST.nu d (pC.mem Sn)),b1,rfl,rfl,c6⟩
theorem Kv (c:mr) (a i:Value) (k:Nat) (u:kv) (r:Bool) (w:World) (j:Sl kz 5 (hp w) a c.ky.Kids) (g:Sl (Pl kF) 9 (hp w) i c.lT) (t:At (hp w) (.pointer (some ⟨k,0,none⟩)) (kF u)) (hm:vh c u=some r) :
  lC true pg0 257 [(.agg #[(.string c.ku.kw),(.string c.ku.Word),(.int .i64 c.ky.Op),(.int .i64 c.ky.K),(.string c.ky.ku.kw),(.string c.ky.ku.Word),a,i]),(.pointer (some ⟨k,0,none⟩))] w (.bool r):=by
 refine cG 9 func257 rfl (λd=>sg ?_)
 obtain ⟨B,D,rfl⟩:=j.form
 obtain ⟨x,y,rfl⟩:=g.form
 refine VE (lM d rfl (λG I d=>Wa (lr (Wf E5 (VB d Mh rfl rfl jA (V (kB rfl (lL d.has t cU bE)) (bS hm λJ z hm=>VE (Eg d call111 (Hy (.slice x c.lT.length y) c.lT u _ _ (g.mono (Pl.mono _) d.kC) z) (λH d=>V (oF rfl) (Wa (ln ?_)))))))))))
 exact lJ (rQ hm d)
theorem Ot (i:lB) (a g:Value) (y:kv) (r:List mr) (w:World) {G:lE} (L:pn G [] w) (j:Sl kX 15 G a i.kE) (c:Sl lH 8 G g i.kQ) (hm:BP i y=some r) :
  ol false pg0 193 [(.agg #[(.string i.Name),a,g]),(.agg (kF y).toArray)] w G [] (λv L1 μ1=>∃I,v=I∧L1=[]∧Sl lH 8 μ1 I (r)):=by
 refine Ak L 10 func193 rfl (λd=>sg ?_)
 obtain ⟨A1,c2,rfl⟩:=j.form
 obtain ⟨Y,J,rfl⟩:=c.form
 refine VE (lM d rfl (λW6 b5 d=>VE (lM d rfl (λW8 z d=>Wa (lr (Wf Fz (VB d (Mt Mh) rfl rfl ko (bS hm λr9 N hm=>?_))))))))
 refine VE (eD d (cM _) call256 (λE=>ol.nx (I0 (.slice Y i.kQ.length J) i.kQ _ _ E (c.mono mB.mono (lx.refl _)) N)) ?_ (L0:=[]))
 rintro _ c3 c6 b4 d B n ⟨a5,Z,k,rfl,T⟩
 obtain rfl:=k.symm
 replace d:=d.perm (Tr Tn)
 refine V (qR (by exact pR rfl) rfl) ?_
 replace d:=d.perm (Nb (Pr Pz) Nz)
 obtain ⟨c7,d,u,p,M⟩:=ST.OT (R:=[(z,Ol (kF y) 52)]) d
 have K:=At.of (M _ _ (.head _)) _ rfl
 refine bS hm λc1 Q hm=>?_
 refine VE (eD d (Cr Qz Cn) call255 (λE=>(FY a5 r9 Z (.func (.func 257) #[] #[(.pointer (some ⟨z,0,none⟩))]) (λ(x:mr)=>vh x y) _ _ E (T.mono mB u) ⟨257,#[],#[(.pointer (some ⟨z,0,none⟩))],rfl,call257,λW x vs r P O hm=>by obtain ⟨_,rfl,a3⟩:=O; obtain ⟨u0,u1,rfl,k0,k1⟩:=a3.out; exact (Kv x u0 u1 z y r W k0 k1 (K.mono ((lx.refl _).trans P)) hm).nx⟩ Q)) ?_)
 rintro _ c5 c8 b6 d D A ⟨H,t,rfl,U⟩
 obtain rfl:=t.symm
 refine Wa (ln ?_)
 replace d:=d.kA (Db St)
 refine lJ ?_
 obtain rfl:=sj hm
 exact nC (v:=H) rfl rfl ⟨_,_,_,rfl,(d.nK Sn),((B.trans u).trans D),((n.trans p).trans A),(ST.nu d (pC.mem Sn)),H,rfl,rfl,U⟩
theorem DK (i:Formula) (g:Value) (x:Int) (r:Bool) (w:World) (c:Sl kz 5 (hp w) g i.Kids) (hm:wK i x=some r) :
  lC true pg0 297 [(.agg #[(.int .i64 i.Op),(.int .i64 i.K),(.string i.ku.kw),(.string i.ku.Word),g]),(.int .i64 x)] w (.bool r):=by
 refine cG 15 func297 rfl (λd=>sg ?_)
 obtain ⟨B,D,rfl⟩:=c.form
 refine VE (lM d rfl (λG H d=>Wa (lr (Wf xc (VB d Mh rfl rfl dJ (Wm (Wi rfl (Wm (LJ hm (λt E W=>∃u,ST true mN w W (hp w) u∧E 4=(.bool false)∧E 14=(.bool t)) 5 ?_ (λt j k=>?_))))))))))
 ·rintro J E W ⟨u,d,I,y⟩ z
  exact Wg y (lt (rQ z d))
 refine bC j (λa j=>?_) (λa j=>?_)
 ·refine ug a (kN vA rfl) (ug a (kB rfl (lg d.has Mh rfl fJ)) (ug a (nv aN rfl c) (ug a (lY rfl rfl rfl) (V (lK (cB a) rfl) ?_))))
  obtain rfl:=sj j
  exact k _ _ ⟨_,(d.kA (Db St)),rfl,rfl⟩
 refine un a (un a (un a (un a (V (lN (cB a) rfl) ?_))))
 obtain rfl:=sj j
 exact k _ _ ⟨_,(d.kA (Db St)),rfl,rfl⟩
theorem Ln (r:Formula) (w:World) {c:lE} (i:pn c [] w) (hm:CQ =some r) :
  ol true pg0 115 [] w c [] (λv g j=>∃a,v=(.agg #[(.int .i64 ((r).Op)),(.int .i64 ((r).K)),(.string (((r).ku).kw)),(.string (((r).ku).Word)),a])∧g=[]∧Sl kz 5 j a ((r).Kids)):=by
 refine Ak i 2 func115 rfl (λd=>sg (VE (ml d bR (λk u d=>lr (V (nP (v:=(.agg RG.toArray)) (og rfl) (nt bR cP (Ey _ cP) kr)) (VO (lA (.agg RG.toArray) (RG.toArray) d rfl rfl aH oc nb rfl (λt d=>lt ?_))))))))
 obtain rfl:=sj hm
 exact rY (v:=(.agg RG.toArray)) rfl rfl (kI d.has Mh RG rfl bL aH) ⟨_,_,_,rfl,(d.nK Sn),(lx.refl _),Lo.refl,(ST.nu d (pC.mem Sn)),(.slice none 0 0),rfl,rfl,(Sl.nil _ _ _)⟩
theorem MQ (r:Formula) (w:World) {c:lE} (i:pn c [] w) (hm:DG =some r) :
  ol true pg0 298 [] w c [] (λv g j=>∃a,v=(.agg #[(.int .i64 ((r).Op)),(.int .i64 ((r).K)),(.string (((r).ku).kw)),(.string (((r).ku).Word)),a])∧g=[]∧Sl kz 5 j a ((r).Kids)):=by
 refine Ak i 2 func298 rfl (λd=>sg (VE (ml d bR (λk u d=>lr (V (nP (v:=(.agg Ut.toArray)) (og rfl) (nt bR cP (Ey _ cP) kr)) (VO (lA (.agg Ut.toArray) (Ut.toArray) d rfl rfl aH oc nb rfl (λt d=>lt ?_))))))))
 obtain rfl:=sj hm
 exact rY (v:=(.agg Ut.toArray)) rfl rfl (kI d.has Mh Ut rfl bL aH) ⟨_,_,_,rfl,(d.nK Sn),(lx.refl _),Lo.refl,(ST.nu d (pC.mem Sn)),(.slice none 0 0),rfl,rfl,(Sl.nil _ _ _)⟩
theorem Oq (T:Int) (J:Value) (M r:List Formula) (w:World) {Q:lE} (h0:pn Q [] w) (I:Sl kz 5 Q J M) (hm:Ez T M=some r) :
  ol true pg0 300 [(.int .i64 T),J] w Q [] (λv L1 μ1=>∃O,v=O∧L1=[]∧Sl kz 5 μ1 O (r)):=by
 refine Ak h0 28 func300 rfl (λd=>sg (Wa (lr (Wa (lS (Wm ?_))))))
 refine V (nv aN rfl I) (Wm (ln (mV (λi E W=>∃t G k H,(E 10= .int .i64 (i:Nat)∧E 9= .int .i64 (M.length:Nat))∧ST true (keys []) w W Q (k++H)∧E 0=(.int .i64 T)∧E 5=t∧E 8=J∧mn 30 kz 5 Q t G k∧tM T (M.drop i) G=some r) M.length I.len ⟨(.slice none 0 0),([]),[],_,⟨rfl,rfl⟩,(d.kA St),rfl,rfl,rfl,(mn.nil _ _ _ _),hm⟩ dc dc dc (λ_ _ _ h=>by obtain ⟨_,_,_,_,A,_⟩:=h; exact A) ?_ ?_)))
 ·rintro b5 E W a4 ⟨t,G,k,H,⟨p,L⟩,d,x,y,z,u,c⟩
  obtain ⟨a,b7,a8,R,K⟩:=mC a4
  rw [a8] at c
  refine bg (VQ (nN (i:=(b5:Int)) (x0:=a) kz.out aN aH z p I (aX _) R) (λc8 ⟨_,⟨c9,rfl,D⟩,a5⟩=>V (kB rfl (lL d.has a5 bL aH)) (VE (ml d bR (λc0 c5 d=>?_)))))
  obtain ⟨g,j,rfl⟩:=D.form
  let a0:=(C2 a.Op a.K a.ku.kw a.ku.Word g a.Kids.length j)
  refine VO (lA (.agg a0.toArray) (a0.toArray) d rfl rfl aH oc nb rfl (λc1 d=>lr (Wf xc (VB d Mh rfl rfl dJ (Wh x (Wi rfl (ln (CI c rfl (λZ c=>?_) (λZ c=>?_)))))))))
  ·refine kK (Wh y (Wf vA (VB d Mh rfl rfl fJ ?_)))
   replace d:=d.perm (Nr (Qb Qz) Nz)
   refine bS c λb1 a2 c=>VE (vG (B:=k) kT d dc aN rF.1 rF.2.1 rfl rF.2.2.1 rF.2.2.2 rfl rfl u (Dj.sl kT D d.kC) a2 (λc2 b3 a9 d U=>Wa (lu (lG (kL ?_)))))
   replace d:=d.kA (Kr (Db St))
   exact ⟨p,b3,b1,a9,_,⟨rfl,L⟩,(d.kA St),x,rfl,z,U,(by rw [K]; exact c)⟩
  refine kK (Wh y (VA d Mh a0 bL aH (VE (lZ (cs:=a0.toArray) d (og rfl) (oE aN aH bR) (λc3 c6 d=>?_)))))
  replace d:=d.perm (Nr (Qb (Qb Qz)) Nz)
  refine bS c λb2 a3 c=>VE (vG (B:=k) kT d dc aN rF.1 rF.2.1 rfl rF.2.2.1 rF.2.2.2 rfl rfl u (Dj.lit kT (l:=[a]) (.cons (ys:=C2 a.Op a.K a.ku.kw a.ku.Word g a.Kids.length j) (kz.mk ⟨(.slice g a.Kids.length j),rfl,D⟩) .nil) rfl nb (d.at_ (Ma Mh))) a3 (λc4 b4 b0 d Y=>Wa (lu (lG (kL ?_)))))
  replace d:=d.kA (Kr (Db (Db St)))
  exact ⟨p,b4,b2,b0,_,⟨rfl,L⟩,(d.kA St),x,rfl,z,Y,(by rw [K]; exact c)⟩
 rintro E W ⟨t,G,k,H,⟨p,L⟩,d,x,y,z,u,c⟩
 rw [bo] at c
 refine kL (sg (Wh y (Wa (lt ?_))))
 obtain rfl:=sj c
 refine nC (v:=t) rfl rfl ?_
 obtain ⟨d1,d,N,n,P⟩:=ST.CO kT d u
 exact ⟨_,_,_,rfl,(d.nK Sn),N,n,(ST.nu d (pC.mem Sn)),t,rfl,rfl,P⟩
theorem EW (a:Formula) (g:Value) (i:Nat) (j:Int) (r:Bool) (w:World) (c:Sl kz 5 (hp w) g a.Kids) (k:At (hp w) (.pointer (some ⟨i,0,none⟩)) [(.int .i64 j)]) (hm:tU a j=some r) :
  lC true pg0 301 [(.agg #[(.int .i64 a.Op),(.int .i64 a.K),(.string a.ku.kw),(.string a.ku.Word),g]),(.pointer (some ⟨i,0,none⟩))] w (.bool r):=by
 refine cG 7 func301 rfl (λd=>sg ?_)
 obtain ⟨t,u,rfl⟩:=c.form
 refine VE (lM d rfl (λz D d=>Wa (lr (VA d Mh (C2 a.Op a.K a.ku.kw a.ku.Word t a.Kids.length u) bL aH (V (kB rfl (sJ d.has (y:=(.int .i64 j)) k dJ)) (bS hm λG x hm=>VE (Eg d call297 (DK a (.slice t a.Kids.length u) j _ _ (c.mono kT.mono d.kC) x) (λB d=>Wa (ln ?_)))))))))
 exact lJ (rQ hm d)
theorem GC (c:Value) (u r:List Formula) (w:World) {j:lE} (I:pn j [] w) (a:Sl kz 5 j c u) (hm:vm u=some r) :
  ol true pg0 351 [c] w j [] (λv G J=>∃z t,v=z∧G=(t++[])∧mn 30 kz 5 J z r t):=by
 unfold vm at hm
 refine Ak I 8 func351 rfl (λd=>sg (Wa (lS (Wm ?_))))
 obtain ⟨D,Q,rfl⟩:=a.form
 refine V (F5 aN rfl rfl) (ln ?_)
 rcases D with _ | M
 ·have y:=a.isNil
  replace hm:some []=some r:=by rw [y] at hm; simpa [nm,maxLen] using hm
  refine yR (rfl) (sg (Wa (lt (mL ?_))))
  obtain rfl:=sj hm
  refine nC (v:=(.slice none 0 0)) rfl rfl ?_
  replace d:=d.Zt
  exact ⟨_,_,_,rfl,(d.nK (Kr Sn)),(lx.refl _),Lo.refl,(ST.nu d (pC.mem (Kr Sn))),(.slice none 0 0),[],rfl,rfl,(mn.nil _ _ _ _)⟩
 ·refine sX (rfl) (kg (VE (lZ (cs:=#[]) d xV (Fb [] aN aH bR dc rfl (by simp) rfl rfl) (λN H d=>Wm (bS hm λT x hm=>VE (vG (B:=[(H,Ob #[] 30)]) kT d dc aN rF.1 rF.2.1 rfl rF.2.2.1 rF.2.2.2 rfl rfl (mn.lit kT (l:=[]) .nil rfl nb rfl) (Dj.sl kT a d.kC) x (λK g k d i=>Wa (lt ?_))))))))
  obtain rfl:=sj hm
  exact nC (v:=g) rfl rfl ⟨_,_,_,rfl,(d.nK (Kr Sn)),(lx.refl _),Lo.refl,(ST.nu d (pC.mem (Kr Sn))),g,k,rfl,rfl,i⟩
theorem vk (y:Value) (a0:List Formula) (D:LO) (A a2:Int) (T:Value) (f3:(Formula×Formula)→Option Int) (r:List Formula) (w:World) {μ0:lE} (h0:pn μ0 (D++[]) w) (h4:mn 30 kz 5 μ0 y a0 D) (h5:vL pg0 T μ0 (vY kz kz) (λ(r:Int)=>(.int .i64 r)) f3) (hm:pa a0 A a2 f3=some r) :
  ol false pg0 383 [y,(.int .i64 A),(.int .i64 a2),T] w μ0 (D++[]) (λv L1 μ1=>∃S1,v=(.tuple #[])∧L1=(S1++[])∧mn 30 kz 5 μ1 y r S1):=by
 refine Ak h0 53 func383 rfl (λn=>sg (Wm (Wi rfl (Wa (ln (sW (ma (nn (λm E W=>∃Y J x c9,ST false (keys (D++[])) w W μ0 (J++c9)∧E 0=y∧E 1=(.int .i64 A)∧E 2=(.int .i64 a2)∧E 3=T∧E 8=(.int .i64 x)∧mn 30 kz 5 μ0 y Y J∧mU a2 A f3 m Y x=some r) kY ⟨a0,D,(wi0 .i64 (A+1)),_,(n.kA St),rfl,rfl,rfl,rfl,rfl,h4,hm⟩ ?_))))))))
 rintro m E W ⟨Y,J,x,c9,n,f9,g0,d1,g1,R,c6,u⟩
 cases m with
 | zero=>rw [mU] at u; cases u
 | succ h2=>
  refine kM (sg (Wh R (Wh d1 (Wi rfl (ln (CI u rfl (λe9 u=>?_) (λe9 u=>?_)))))))
  ·refine kn (kM (bg (Wh R (Wa (ln (sW (CJ u (λb6 E W=>∃U d0,ST false (keys (D++[])) w W μ0 (U++d0)∧E 0=y∧E 1=(.int .i64 A)∧E 2=(.int .i64 a2)∧E 3=T∧E 8=(.int .i64 x)∧mn 30 kz 5 μ0 y b6 U) (λb6 f1=>?_) ?_)))))))
   ·refine ma (nn (λm E W=>∃M B j b7,ST false (keys (D++[])) w W μ0 (B++b7)∧E 0=y∧E 1=(.int .i64 A)∧E 2=(.int .i64 a2)∧E 3=T∧E 8=(.int .i64 x)∧E 9=(.int .i64 j)∧mn 30 kz 5 μ0 y M B∧nw A f3 m M j=some b6) kY ⟨Y,J,x,_,(n.kA St),f9,g0,d1,g1,R,rfl,c6,f1⟩ ?_)
    rintro m E W ⟨M,B,j,b7,n,K,Z,c0,a3,c1,G,t,I⟩
    cases m with
    | zero=>rw [nw] at I; cases I
    | succ f4=>
     refine kM (kM ?_)
     replace n:=n.drew
     have d:=n.has.kA (Kr Sn)
     refine lU d li (X 0 rfl d (kD G) (X 1 rfl d (kD Z) (X 2 rfl d (lY rfl rfl rfl) (X 3 rfl d (kD rfl) (PJ I (λc7 E W=>∃b9,ST false (keys (D++[])) w W μ0 (B++b9)∧E 0=y∧E 1=(.int .i64 A)∧E 2=(.int .i64 a2)∧E 3=T∧E 8=(.int .i64 x)∧E 9=(.int .i64 j)∧E 34=(.bool c7)) (bm 17 131071) 0 ?_ (λc7 g a4=>?_))))))
     ·rintro k2 E W ⟨b9,n,z,c2,c3,c4,c5,H,e8⟩ c
      have d:=n.has.kA (Kr Sn)
      refine lX kr (kL (CI c e8 (λd3 c=>?_) (λd3 c=>?_)))
      ·refine kn (kM (ma ?_))
       replace n:=n.drew
       have d:=n.has.kA Sn
       have p:=n.has.kA (Kr Sn)
       refine rC 15 d p li (lf 0 rfl kr (.inl rfl) rfl dc (λ_ _ h=>⟨h.1,lm br h.2⟩) ⟨d,λ_=>p⟩ (λ_ _ _ _=>kD z) (lf 1 rfl kr (.inl rfl) rfl dc (λ_ _ h=>⟨h.1,lm br h.2⟩) ⟨d,λ_=>p⟩ (λ_ _ _ _=>kD H) (lf 2 rfl kr (.inl rfl) rfl dc (λ_ _ h=>⟨h.1,lm br h.2⟩) ⟨d,λ_=>p⟩ (λ_ _ _ _=>kD z) (lf 3 rfl kr (.inl rfl) rfl dc (λ_ _ h=>⟨h.1,lm br h.2⟩) ⟨d,λ_=>p⟩ (λ_ _ _ _=>kD H) (lf 4 rfl kr (.inl rfl) rfl dc (λ_ _ h=>⟨h.1,lm br h.2⟩) ⟨d,λ_=>p⟩ (λ_ _ _ _=>lY rfl rfl rfl) (lf 5 rfl kr (.inl rfl) rfl dc (λ_ _ h=>⟨h.1,lm br h.2⟩) ⟨d,λ_=>p⟩ (λ_ _ _ _=>kD z) (lf 6 rfl kr (.inl rfl) rfl dc (λ_ _ h=>⟨h.1,lm br h.2⟩) ⟨d,λ_=>p⟩ (λ_ _ _ _=>kD H) (lf 7 rfl kr (.inl rfl) rfl dc (λ_ _ h=>⟨h.1,lm br h.2⟩) ⟨d,λ_=>p⟩ (λ_ _ _ _=>lY rfl rfl rfl) (bS c λa5 b0 c=>oM 8 rfl kr (.inl rfl) rfl dc (λ_ _ h=>⟨h.1,lm br h.2⟩) ⟨d,λ_=>p⟩ (nj (i:=(wi0 .i64 (j-1))) kz.out aN aH rfl rfl t (kW b0) (kO b0)) (λi9 ⟨_,⟨j8,rfl,a8⟩,d6,h6⟩=>lf 9 rfl kr (.inl rfl) rfl dc (λ_ _ h=>⟨h.1,lm br h.2⟩) ⟨d,λ_=>p⟩ (λl W O hs=>have L:=(hs.2 (O.yj 15 [9] kr rfl)); kB rfl (lL (ql.hp _) (d6.mono (nV (λb o P=>L.2 b o (Ml P)))) bL aH)) (lf 10 rfl kr (.inl rfl) rfl dc (λ_ _ h=>⟨h.1,lm br h.2⟩) ⟨d,λ_=>p⟩ (λ_ _ _ _=>kD z) (lf 11 rfl kr (.inl rfl) rfl dc (λ_ _ h=>⟨h.1,lm br h.2⟩) ⟨d,λ_=>p⟩ (λ_ _ _ _=>kD H) (bS c λk b1 c=>?_)))))))))))))
       refine oM 12 rfl kr (.inl rfl) rfl dc (λ_ _ h=>⟨h.1,lm br h.2⟩) ⟨d,λ_=>p⟩ (nj (i:=j) kz.out aN aH rfl rfl t (kW b1) (kO b1)) (λj0 ⟨_,⟨j9,rfl,a9⟩,d7,h7⟩=>lf 13 rfl kr (.inl rfl) rfl dc (λ_ _ h=>⟨h.1,lm br h.2⟩) ⟨d,λ_=>p⟩ (λl W O hs=>have L:=(hs.2 (O.yj 15 [13] kr rfl)); kB rfl (lL (ql.hp _) (d7.mono (nV (λb o P=>L.2 b o (Ml P)))) bL aH)) (bS c λk3 N c=>oM 14 rfl kr (.inl rfl) rfl dc (λ_ _ h=>⟨h.1,lm br h.2⟩) ⟨d,λ_=>p⟩ (nj (i:=j) kz.out aN aH rfl rfl t (kW N) (kO N)) (λj3 ⟨_,⟨k0,rfl,i2⟩,i0,d4⟩=>?_)))
       obtain ⟨e3,e6,rfl⟩:=a8.form
       refine XO 15 rfl (uc (x1:=a5) kT n t rfl rfl (kz.mk ⟨(.slice e3 a5.Kids.length e6),rfl,a8⟩) d4 (kO N) aH (λi6 i4 n a7=>?_))
       have d:=n.has.kA Sn
       refine ⟨⟨d,λh=>tQ kr h⟩,(bS c λk4 Q c=>oM 16 rfl kr (.inl rfl) rfl dc (λ_ _ h=>⟨h.1,lm br h.2⟩) ⟨d,λh=>tQ kr h⟩ (nj (i:=(wi0 .i64 (j-1))) kz.out aN aH rfl rfl a7 (kW Q) (kO Q)) (λj4 ⟨_,⟨k1,rfl,i3⟩,i1,d5⟩=>?_))⟩
       obtain ⟨e4,e7,rfl⟩:=a9.form
       refine XO 17 rfl (uc (x1:=(⟨k.Op,k.K,k.ku,k.Kids⟩:Formula)) kT n a7 rfl rfl (kz.mk ⟨(.slice e4 k.Kids.length e7),rfl,a9⟩) d5 (kO Q) aH (λi7 e5 n d2=>?_))
       have d:=n.has.kA Sn
       exact ⟨⟨d,λh=>tQ kr h⟩,(lX kr (lG (kL (kK (Wh H (Wi rfl (Wa (ln ⟨f4,aQ _,((M.set (Int.toNat j) a5).set (Int.toNat (wi0 .i64 (j-1))) (⟨k.Op,k.K,k.ku,k.Kids⟩:Formula)),e5,(wi0 .i64 (j-1)),_,(n.kA St),z,c2,c3,c4,c5,rfl,d2,c⟩))))))))⟩
      refine mX (mD (mD (pE (kL ?_))))
      obtain rfl:=sj c
      exact ⟨B,_,(n.kA St),z,c2,c3,c4,c5,t⟩
     refine bC g (λa g=>?_) (λa g=>?_)
     ·refine Xg 4 rfl rfl (cB a) d (kD a3) (Xg 5 rfl rfl (cB a) d (kD K) (Xg 6 rfl rfl (cB a) d (kD G) (bS g λf7 b2 g=>oM 7 rfl kr (.inr ⟨3,true,21,rfl,rfl,by decide,(cB a)⟩) rfl dc (λ_ _ h=>h) d (nj (i:=j) kz.out aN aH rfl rfl t (kW b2) (kO b2)) (λj5 ⟨_,⟨f5,rfl,e1⟩,d8,h8⟩=>Aj 8 rfl rfl (cB a) d (λ_ L=>kB rfl (lL (ql.hp _) (d8.mono (nV (λb o P=>L.2 b o (Ml P)))) bL aH)) (Xg 9 rfl rfl (cB a) d (kD K) (Xg 10 rfl rfl (cB a) d (kD G) (Xg 11 rfl rfl (cB a) d (lY rfl rfl rfl) (bS g λf8 b3 g=>oM 12 rfl kr (.inr ⟨3,true,21,rfl,rfl,by decide,(cB a)⟩) rfl dc (λ_ _ h=>h) d (nj (i:=(wi0 .i64 (j-1))) kz.out aN aH rfl rfl t (kW b3) (kO b3)) (λj6 ⟨_,⟨f6,rfl,e2⟩,d9,h9⟩=>Aj 13 rfl rfl (cB a) d (λ_ L=>kB rfl (lL (ql.hp _) (d9.mono (nV (λb o P=>L.2 b o (Ml P)))) bL aH)) (bS g λj7 e0 g=>Mf 14 rfl rfl (cB a) (qQ (f7,f8) n h5 (lx.refl _) (vY.mk kT kT (kz.mk ⟨f5,rfl,e1⟩) (kz.mk ⟨f6,rfl,e2⟩) n.kC) rfl (qT rfl rfl) e0 (λi8 n=>?_))))))))))))
      have d:=n.has.kA (Kr Sn)
      refine ⟨d,(Xg 15 rfl rfl (cB a) d (lY rfl rfl rfl) (X 16 rfl d (lK (cB a) rfl) ?_))⟩
      obtain rfl:=sj g
      refine rN kr (a4 _ _ ⟨_,(n.kA St),K,Z,c0,a3,c1,G,rfl⟩)
     refine Xn 4 rfl rfl (cB a) d (Xn 5 rfl rfl (cB a) d (Xn 6 rfl rfl (cB a) d (Xn 7 rfl rfl (cB a) d (Xn 8 rfl rfl (cB a) d (Xn 9 rfl rfl (cB a) d (Xn 10 rfl rfl (cB a) d (Xn 11 rfl rfl (cB a) d (Xn 12 rfl rfl (cB a) d (Xn 13 rfl rfl (cB a) d (Xn 14 rfl rfl (cB a) d (Xn 15 rfl rfl (cB a) d (X 16 rfl d (lN (cB a) rfl) ?_))))))))))))
     obtain rfl:=sj g
     refine rN kr (a4 _ _ ⟨_,(n.kA St),K,Z,c0,a3,c1,G,rfl⟩)
   rintro h1 E W ⟨U,d0,n,g2,g3,g4,g7,g8,f2⟩ f0
   exact lG (kL (kK (Wh g8 (Wi rfl (Wa (ln ⟨h2,aQ _,h1,U,(wi0 .i64 (x+1)),_,(n.kA St),g2,g3,g4,g7,rfl,f2,f0⟩))))))
  refine mX (mD (mD (pE (kL (pc ?_)))))
  obtain rfl:=sj u
  exact nY rfl ⟨_,_,_,rfl,(n.nK (Kr Sn)),(lx.refl _),Lo.refl,(ST.nu n (pC.mem (Kr Sn))),J,rfl,rfl,c6⟩
theorem tm (x:Value) (a0:List Formula) (t:LO) (G H a3:Int) (a5:Value) (f4:(Formula×Formula)→Option Int) (r:List Formula) (w:World) {Y:lE} (h0:pn Y (t++[]) w) (c0:mn 30 kz 5 Y x a0 t) (d5:vL pg0 a5 Y (vY kz kz) (λ(r:Int)=>(.int .i64 r)) f4) (hm:oS a0 G H a3 f4=some r) :
  ol true pg0 400 [x,(.int .i64 G),(.int .i64 H),(.int .i64 a3),a5] w Y (t++[]) (λv L1 μ1=>∃S1,v=(.tuple #[])∧L1=(S1++[])∧mn 30 kz 5 μ1 x r S1):=by
 refine Ak h0 38 func400 rfl (λp=>sg (Wa (ln (sW (ma (nn (λm E W=>∃D y c Z,ST true (keys (t++[])) w W Y (y++Z)∧E 0=x∧E 1=(.int .i64 G)∧E 2=(.int .i64 H)∧E 3=(.int .i64 a3)∧E 10=(.int .i64 c)∧mn 30 kz 5 Y x D y∧nO a3 H G m D c=some r) kY ⟨a0,t,0,_,(p.kA St),rfl,rfl,rfl,rfl,rfl,c0,hm⟩ ?_))))))
 rintro m E W ⟨D,y,c,Z,p,u,I,J,a4,k,j,a⟩
 cases m with
 | zero=>rw [nO] at a; cases a
 | succ c1=>
  refine kM (sg (Wh k (Wh a4 (Wi rfl (ln (CI a rfl (λa8 a=>?_) (λa8 a=>?_)))))))
  ·refine kn (kM (ma ?_))
   replace p:=p.drew
   have d:=p.has.kA Sn
   have n:=p.has.kA (Kr Sn)
   refine rC 21 d n li (lf 0 rfl kr (.inl rfl) rfl dc (λ_ _ h=>⟨h.1,lm br h.2⟩) ⟨d,λ_=>n⟩ (λ_ _ _ _=>kD u) (lf 1 rfl kr (.inl rfl) rfl dc (λ_ _ h=>⟨h.1,lm br h.2⟩) ⟨d,λ_=>n⟩ (λ_ _ _ _=>kD I) (lf 2 rfl kr (.inl rfl) rfl dc (λ_ _ h=>⟨h.1,lm br h.2⟩) ⟨d,λ_=>n⟩ (λ_ _ _ _=>kD k) (lf 3 rfl kr (.inl rfl) rfl dc (λ_ _ h=>⟨h.1,lm br h.2⟩) ⟨d,λ_=>n⟩ (λ_ _ _ _=>lY rfl rfl rfl) (lf 4 rfl kr (.inl rfl) rfl dc (λ_ _ h=>⟨h.1,lm br h.2⟩) ⟨d,λ_=>n⟩ (λ_ _ _ _=>kD u) (lf 5 rfl kr (.inl rfl) rfl dc (λ_ _ h=>⟨h.1,lm br h.2⟩) ⟨d,λ_=>n⟩ (λ_ _ _ _=>kD J) (lf 6 rfl kr (.inl rfl) rfl dc (λ_ _ h=>⟨h.1,lm br h.2⟩) ⟨d,λ_=>n⟩ (λ_ _ _ _=>kD k) (lf 7 rfl kr (.inl rfl) rfl dc (λ_ _ h=>⟨h.1,lm br h.2⟩) ⟨d,λ_=>n⟩ (λ_ _ _ _=>lY rfl rfl rfl) (lf 8 rfl kr (.inl rfl) rfl dc (λ_ _ h=>⟨h.1,lm br h.2⟩) ⟨d,λ_=>n⟩ (λ_ _ _ _=>kD u) (lf 9 rfl kr (.inl rfl) rfl dc (λ_ _ h=>⟨h.1,lm br h.2⟩) ⟨d,λ_=>n⟩ (λ_ _ _ _=>kD J) (lf 10 rfl kr (.inl rfl) rfl dc (λ_ _ h=>⟨h.1,lm br h.2⟩) ⟨d,λ_=>n⟩ (λ_ _ _ _=>kD k) (lf 11 rfl kr (.inl rfl) rfl dc (λ_ _ h=>⟨h.1,lm br h.2⟩) ⟨d,λ_=>n⟩ (λ_ _ _ _=>lY rfl rfl rfl) (bS a λK T a=>oM 12 rfl kr (.inl rfl) rfl dc (λ_ _ h=>⟨h.1,lm br h.2⟩) ⟨d,λ_=>n⟩ (nj (i:=(wi0 .i64 (H+c))) kz.out aN aH rfl rfl j (kW T) (kO T)) (λd6 ⟨_,⟨e0,rfl,N⟩,b1,c4⟩=>?_))))))))))))))
   refine lf 13 rfl kr (.inl rfl) rfl dc (λ_ _ h=>⟨h.1,lm br h.2⟩) ⟨d,λ_=>n⟩ (λl W A P=>have L:=(P.2 (A.yj 21 [13] kr rfl)); kB rfl (lL (ql.hp _) (b1.mono (nV (λb o O=>L.2 b o (Ml O)))) bL aH)) (lf 14 rfl kr (.inl rfl) rfl dc (λ_ _ h=>⟨h.1,lm br h.2⟩) ⟨d,λ_=>n⟩ (λ_ _ _ _=>kD u) (lf 15 rfl kr (.inl rfl) rfl dc (λ_ _ h=>⟨h.1,lm br h.2⟩) ⟨d,λ_=>n⟩ (λ_ _ _ _=>kD I) (lf 16 rfl kr (.inl rfl) rfl dc (λ_ _ h=>⟨h.1,lm br h.2⟩) ⟨d,λ_=>n⟩ (λ_ _ _ _=>kD k) (lf 17 rfl kr (.inl rfl) rfl dc (λ_ _ h=>⟨h.1,lm br h.2⟩) ⟨d,λ_=>n⟩ (λ_ _ _ _=>lY rfl rfl rfl) (bS a λg U a=>oM 18 rfl kr (.inl rfl) rfl dc (λ_ _ h=>⟨h.1,lm br h.2⟩) ⟨d,λ_=>n⟩ (nj (i:=(wi0 .i64 (G+c))) kz.out aN aH rfl rfl j (kW U) (kO U)) (λd7 ⟨_,⟨e1,rfl,Q⟩,b2,c5⟩=>lf 19 rfl kr (.inl rfl) rfl dc (λ_ _ h=>⟨h.1,lm br h.2⟩) ⟨d,λ_=>n⟩ (λl W A P=>have L:=(P.2 (A.yj 21 [19] kr rfl)); kB rfl (lL (ql.hp _) (b2.mono (nV (λb o O=>L.2 b o (Ml O)))) bL aH)) (bS a λe5 z a=>oM 20 rfl kr (.inl rfl) rfl dc (λ_ _ h=>⟨h.1,lm br h.2⟩) ⟨d,λ_=>n⟩ (nj (i:=(wi0 .i64 (G+c))) kz.out aN aH rfl rfl j (kW z) (kO z)) (λd8 ⟨_,⟨e2,rfl,c8⟩,c6,a9⟩=>?_))))))))
   let R:=(⟨g.Op,g.K,g.ku,g.Kids⟩:Formula)
   obtain ⟨b3,b7,rfl⟩:=N.form
   refine XO 21 rfl (uc (x1:=K) kT p j rfl rfl (kz.mk ⟨(.slice b3 K.Kids.length b7),rfl,N⟩) a9 (kO z) aH (λd2 d1 p M=>?_))
   have d:=p.has.kA Sn
   refine ⟨⟨d,λh=>tQ kr h⟩,(bS a λe6 B a=>oM 22 rfl kr (.inl rfl) rfl dc (λ_ _ h=>⟨h.1,lm br h.2⟩) ⟨d,λh=>tQ kr h⟩ (nj (i:=(wi0 .i64 (H+c))) kz.out aN aH rfl rfl M (kW B) (kO B)) (λd9 ⟨_,⟨e3,rfl,c9⟩,c7,b0⟩=>?_))⟩
   obtain ⟨b4,b9,rfl⟩:=Q.form
   refine XO 23 rfl (uc (x1:=R) kT p M rfl rfl (kz.mk ⟨(.slice b4 g.Kids.length b9),rfl,Q⟩) b0 (kO B) aH (λd3 b5 p a7=>?_))
   have d:=p.has.kA Sn
   exact ⟨⟨d,λh=>tQ kr h⟩,(lX kr (lG (kL (kK (Wh k (Wi rfl (Wa (ln ⟨c1,aQ _,((D.set (Int.toNat (wi0 .i64 (G+c))) K).set (Int.toNat (wi0 .i64 (H+c))) R),b5,(wi0 .i64 (c+1)),_,(p.kA St),u,I,J,a4,rfl,a7,a⟩))))))))⟩
  refine mX (mD (mD (pE (kL (pc ?_)))))
  obtain rfl:=sj a
  exact nY rfl ⟨_,_,_,rfl,(p.nK (Kr Sn)),(lx.refl _),Lo.refl,(ST.nu p (pC.mem (Kr Sn))),y,rfl,rfl,j⟩
theorem CC (k:Value) (a0:List Formula) (y:LO) (P D a3:Int) (B:Value) (U:(Formula×Formula)→Option Int) (r:List Formula) (w:World) {T:lE} (h0:pn T (y++[]) w) (c5:mn 30 kz 5 T k a0 y) (Q:vL pg0 B T (vY kz kz) (λ(r:Int)=>(.int .i64 r)) U) (hm:oI a0 P D a3 U=some r) :
  ol true pg0 389 [k,(.int .i64 P),(.int .i64 D),(.int .i64 a3),B] w T (y++[]) (λv L1 μ1=>∃S1,v=(.tuple #[])∧L1=(S1++[])∧mn 30 kz 5 μ1 k r S1):=by
 refine Ak h0 58 func389 rfl (λd=>sg (Wm (Wm (Wi rfl (Wa (lr (Wm (Wm (Wi rfl (Wa ?_))))))))))
 refine ln (kM (ma (nn (λm E W=>∃z x c t I Y,lx T I∧Lo (keys (y++[])) w T I∧ST true (keys (y++[])) w W I (x++Y)∧E 0=k∧E 2=(.int .i64 D)∧E 4=B∧E 10=(.int .i64 c)∧E 11=(.int .i64 t)∧mn 30 kz 5 I k z x∧oh D U m z c t=some r) kY ⟨a0,y,(wi0 .i64 (D-P)),(wi0 .i64 (a3-D)),T,_,(lx.refl _),Lo.refl,(d.kA St),rfl,rfl,rfl,rfl,rfl,c5,hm⟩ ?_)))
 rintro m E W ⟨z,x,c,t,I,Y,i,n,d,G,j,H,g,u,J,a⟩
 let a2:=(wi0 .i64 (D-c))
 cases m with
 | zero=>rw [oh] at a; cases a
 | succ R=>
  refine kM (sg (Wh g (Wh u (Wi rfl (ln (CI a rfl (λb0 a=>?_) (λb0 a=>?_)))))))
  ·refine kn (bg (Wh g (Wh u (Wi rfl (ln (CI a rfl (λb1 a=>?_) (λb1 a=>?_)))))))
   ·refine sg (Wh G (Wh j (Wh g (Wi rfl (Wh j (Wh u (Wh H (bS a λc6 b2 a=>?_))))))))
    refine VE (eD d (Cr Qz Cn) call400 (λO=>(tm k z x a2 D t B U _ _ O J (Q.mono i) b2)) ?_)
    rintro _ e0 c8 d2 d Z p ⟨b9,K,rfl,b5⟩
    obtain rfl:=K.symm
    replace d:=d.perm (Tr Tn)
    exact ln (kK (Wh g (Wh u (Wi rfl (Wa (lu (lG (kL ⟨R,aQ _,c6,b9,(wi0 .i64 (c-t)),t,c8,_,(i.trans Z),(n.trans p),(d.kA St),G,j,H,rfl,u,b5,a⟩))))))))
   refine sg (Wh G (Wh j (Wh g (Wi rfl (Wh j (Wh u (Wi rfl (Wh g (Wi rfl (Wh g (Wh H (bS a λc7 b3 a=>?_))))))))))))
   refine VE (eD d (Cr Qz Cn) call400 (λO=>(tm k z x a2 (wi0 .i64 ((wi0 .i64 (D+t))-c)) c B U _ _ O J (Q.mono i) b3)) ?_)
   rintro _ e1 c9 d3 d a4 A ⟨c0,M,rfl,b6⟩
   obtain rfl:=M.symm
   replace d:=d.perm (Tr Tn)
   exact ln (kK (Wh u (Wh g (Wi rfl (Wa (lu (lG (kL ⟨R,aQ _,c7,c0,c,(wi0 .i64 (t-c)),c9,_,(i.trans a4),(n.trans A),(d.kA St),G,j,H,g,rfl,b6,a⟩))))))))
  refine mX (mD (mD (pE (kL (kK (Wh G (Wh j (Wh g (Wi rfl (Wh j (Wh g (Wh H (bS a λd9 b4 a=>?_)))))))))))))
  refine VE (eD d (Cr Qz Cn) call400 (λO=>(tm k z x a2 D c B U _ _ O J (Q.mono i) b4)) ?_)
  rintro _ e2 e4 d4 d a5 L ⟨c1,N,rfl,b7⟩
  obtain rfl:=N.symm
  replace d:=d.perm (Tr Tn)
  refine lu (pc ?_)
  obtain rfl:=sj a
  exact nY rfl ⟨_,_,_,rfl,(d.nK (Kr Sn)),(i.trans a5),(n.trans L),(ST.nu d (pC.mem (Kr Sn))),c1,rfl,rfl,b7⟩
set_option maxHeartbeats 4000000 in
theorem Aa (t6:(List Formula)→Int→Int→Int→((Formula×Formula)→Option Int)→Option (List Formula)) (s6:∀(t:Value) (a0:List Formula) (c:LO) (z:Int) (M:Int) (B:Int) (D:Value) (f4:(Formula×Formula)→Option Int) (r:List Formula) (w:World) {U:lE} (h0:pn U (c++[]) w) (a5:mn 30 kz 5 U t a0 c) (c6:vL pg0 D U (vY kz kz) (λ(r:Int)=>(.int .i64 r)) f4),t6 a0 z M B f4=some r→ol false pg0 384 [t,(.int .i64 z),(.int .i64 M),(.int .i64 B),D] w U (c++[]) (λv L1 μ1=>∃S1,v=(.tuple #[])∧L1=(S1++[])∧mn 30 kz 5 μ1 t r S1)) (t:Value) (a0:List Formula) (c:LO) (z M B:Int) (D:Value) (f4:(Formula×Formula)→Option Int) (r:List Formula) (w:World) {U:lE} (h0:pn U (c++[]) w) (a5:mn 30 kz 5 U t a0 c) (c6:vL pg0 D U (vY kz kz) (λ(r:Int)=>(.int .i64 r)) f4) (hm:rM t6 a0 z M B f4=some r) :
  ol false pg0 384 [t,(.int .i64 z),(.int .i64 M),(.int .i64 B),D] w U (c++[]) (λv L1 μ1=>∃S1,v=(.tuple #[])∧L1=(S1++[])∧mn 30 kz 5 μ1 t r S1):=by
 refine Ak h0 220 func384 rfl (λd=>kM (sg (Wm (Wm (Wi rfl (Wi rfl (ln (CI hm rfl (λae hm=>?_) (λae hm=>?_)))))))))
 ·refine sg (Wm (Wa (lr (Wm (Wa (ln (kM (ma (nn (λm E W=>∃T a9 o3,ST false (keys (c++[])) w W U (c++o3)∧E 0=t∧E 1=(.int .i64 z)∧E 4=D∧E 10=(.int .i64 T)∧E 11=(.int .i64 a9)∧mG a0 z f4 m T a9=some r) kY ⟨M,B,_,(d.kA St),rfl,rfl,rfl,rfl,rfl,hm⟩ ?_)))))))))
  rintro m E W ⟨T,a9,o3,d,e4,h8,k3,h9,k4,y⟩
  cases m with
  | zero=>rw [mG] at y; cases y
  | succ t5=>
   refine kM (sg (Wh h9 (Wh k4 (Wi rfl (ln (CI y rfl (λw9 y=>?_) (λw9 y=>?_)))))))
   ·refine kn (bg (Wh h9 (Wh k4 (Wi rfl (V (oG (k':=.i64) (a:=(wi0 .i64 (T+a9))) dn dl rfl) (V (A4 (a:=(IntKind.u64.wrap (wi0 .i64 (T+a9)))) (b:=1) rfl rfl dc) (V (oG (k':=.u64) (a:=(Int.fdiv (IntKind.u64.wrap (wi0 .i64 (T+a9))) (2 ^ min (Int.toNat 1) (IntKind.bits .u64)))) dl dn rfl) (Wa (ln (kM ?_))))))))))
    let e3:=(Int.fdiv (IntKind.u64.wrap (wi0 .i64 (T+a9))) (2 ^ min (Int.toNat 1) (IntKind.bits .u64)))
    replace d:=d.drew
    have n:=d.has.kA (Kr Sn)
    refine lU n li (X 0 rfl n (kD k3) (X 1 rfl n (kD e4) (X 2 rfl n (kD rfl) (bS y λaa n1 y=>XQ 3 rfl n (nj (i:=(wi0 .i64 e3)) kz.out aN aH rfl rfl a5 (kW n1) (kO n1)) (λdi ⟨_,⟨z7,rfl,x7⟩,x4,bp⟩=>XH 4 rfl n (λ_ L=>kB rfl (lL (ql.hp _) (x4.mono (nV (λb o O=>L.2 b o (Ml O)))) bL aH)) (X 5 rfl n (kD e4) (X 6 rfl n (kD h8) (bS y λab n2 y=>XQ 7 rfl n (nj (i:=z) kz.out aN aH rfl rfl a5 (kW n2) (kO n2)) (λdj ⟨_,⟨z8,rfl,x8⟩,x5,bq⟩=>XH 8 rfl n (λ_ L=>kB rfl (lL (ql.hp _) (x5.mono (nV (λb o O=>L.2 b o (Ml O)))) bL aH)) (bS y λdk x6 y=>XE 9 rfl (qQ (aa,ab) d c6 (lx.refl _) (vY.mk kT kT (kz.mk ⟨z7,rfl,x7⟩) (kz.mk ⟨z8,rfl,x8⟩) d.kC) rfl (qT rfl rfl) x6 (λdg d=>?_))))))))))))
    have n:=d.has.kA (Kr Sn)
    refine ⟨n,(X 10 rfl n (lY rfl rfl rfl) (lX kr (kL (CI y rfl (λx0 y=>?_) (λx0 y=>?_)))))⟩
    ·exact kK (Wm (Wi rfl (Wa (lu (lG (kL ⟨t5,aQ _,(wi0 .i64 ((wi0 .i64 e3)+1)),a9,_,(d.kA St),e4,h8,k3,rfl,k4,y⟩))))))
    exact kK (Wm (Wa (lu (lG (kL ⟨t5,aQ _,T,(wi0 .i64 e3),_,(d.kA St),e4,h8,k3,h9,rfl,y⟩)))))
   refine mX (mD (mD (pE (kL (kM (sg (Wh h8 (Wa (ln (CJ y (λk5 E W=>∃f7 o4,ST false (keys (c++[])) w W U (f7++o4)∧mn 30 kz 5 U t k5 f7) (λk5 x3=>?_) ?_))))))))))
   ·refine ma (nn (λm E W=>∃i0 f8 b0 k6,ST false (keys (c++[])) w W U (f8++k6)∧E 0=t∧E 10=(.int .i64 T)∧E 13=(.int .i64 b0)∧mn 30 kz 5 U t i0 f8∧nT T m i0 b0=some k5) kY ⟨a0,c,z,_,(d.kA St),e4,h9,rfl,a5,x3⟩ ?_)
    rintro m E W ⟨i0,f8,b0,k6,d,c7,l7,c0,d1,u⟩
    cases m with
    | zero=>rw [nT] at u; cases u
    | succ y2=>
     refine kM (sg (Wh c0 (Wh l7 (Wi rfl (Wi rfl (ln (CI u rfl (λp1 u=>?_) (λp1 u=>?_))))))))
     ·refine kn (kM (ma ?_))
      replace d:=d.drew
      have n:=d.has.kA Sn
      have p:=d.has.kA (Kr Sn)
      refine rC 15 n p li (lf 0 rfl kr (.inl rfl) rfl dc (λ_ _ h=>⟨h.1,lm (by rfl) h.2⟩) ⟨n,λ_=>p⟩ (λ_ _ _ _=>kD c7) (lf 1 rfl kr (.inl rfl) rfl dc (λ_ _ h=>⟨h.1,lm (by rfl) h.2⟩) ⟨n,λ_=>p⟩ (λ_ _ _ _=>kD c0) (lf 2 rfl kr (.inl rfl) rfl dc (λ_ _ h=>⟨h.1,lm (by rfl) h.2⟩) ⟨n,λ_=>p⟩ (λ_ _ _ _=>kD c7) (lf 3 rfl kr (.inl rfl) rfl dc (λ_ _ h=>⟨h.1,lm (by rfl) h.2⟩) ⟨n,λ_=>p⟩ (λ_ _ _ _=>kD c0) (lf 4 rfl kr (.inl rfl) rfl dc (λ_ _ h=>⟨h.1,lm (by rfl) h.2⟩) ⟨n,λ_=>p⟩ (λ_ _ _ _=>lY rfl rfl rfl) (lf 5 rfl kr (.inl rfl) rfl dc (λ_ _ h=>⟨h.1,lm (by rfl) h.2⟩) ⟨n,λ_=>p⟩ (λ_ _ _ _=>kD c7) (lf 6 rfl kr (.inl rfl) rfl dc (λ_ _ h=>⟨h.1,lm (by rfl) h.2⟩) ⟨n,λ_=>p⟩ (λ_ _ _ _=>kD c0) (lf 7 rfl kr (.inl rfl) rfl dc (λ_ _ h=>⟨h.1,lm (by rfl) h.2⟩) ⟨n,λ_=>p⟩ (λ_ _ _ _=>lY rfl rfl rfl) (bS u λi3 j5 u=>oM 8 rfl kr (.inl rfl) rfl dc (λ_ _ h=>⟨h.1,lm (by rfl) h.2⟩) ⟨n,λ_=>p⟩ (nj (i:=(wi0 .i64 (b0+1))) kz.out aN aH rfl rfl d1 (kW j5) (kO j5)) (λbt ⟨_,⟨cl,rfl,i7⟩,r3,af⟩=>lf 9 rfl kr (.inl rfl) rfl dc (λ_ _ h=>⟨h.1,lm (by rfl) h.2⟩) ⟨n,λ_=>p⟩ (λl W P hs=>have L:=(hs.2 (P.yj 15 [9] kr rfl)); kB rfl (lL (ql.hp _) (r3.mono (nV (λb o O=>L.2 b o (Ml O)))) bL aH)) (lf 10 rfl kr (.inl rfl) rfl dc (λ_ _ h=>⟨h.1,lm (by rfl) h.2⟩) ⟨n,λ_=>p⟩ (λ_ _ _ _=>kD c7) (lf 11 rfl kr (.inl rfl) rfl dc (λ_ _ h=>⟨h.1,lm (by rfl) h.2⟩) ⟨n,λ_=>p⟩ (λ_ _ _ _=>kD c0) (bS u λY j6 u=>?_)))))))))))))
      refine oM 12 rfl kr (.inl rfl) rfl dc (λ_ _ h=>⟨h.1,lm (by rfl) h.2⟩) ⟨n,λ_=>p⟩ (nj (i:=b0) kz.out aN aH rfl rfl d1 (kW j6) (kO j6)) (λbu ⟨_,⟨cm,rfl,i8⟩,r4,ag⟩=>lf 13 rfl kr (.inl rfl) rfl dc (λ_ _ h=>⟨h.1,lm (by rfl) h.2⟩) ⟨n,λ_=>p⟩ (λl W P hs=>have L:=(hs.2 (P.yj 15 [13] kr rfl)); kB rfl (lL (ql.hp _) (r4.mono (nV (λb o O=>L.2 b o (Ml O)))) bL aH)) (bS u λcw e9 u=>oM 14 rfl kr (.inl rfl) rfl dc (λ_ _ h=>⟨h.1,lm (by rfl) h.2⟩) ⟨n,λ_=>p⟩ (nj (i:=b0) kz.out aN aH rfl rfl d1 (kW e9) (kO e9)) (λbv ⟨_,⟨cn,rfl,ar⟩,an,q2⟩=>?_)))
      obtain ⟨t7,u6,rfl⟩:=i7.form
      refine XO 15 rfl (uc (x1:=i3) kT d d1 rfl rfl (kz.mk ⟨(.slice t7 i3.Kids.length u6),rfl,i7⟩) q2 (kO e9) aH (λbe bc d i5=>?_))
      have n:=d.has.kA Sn
      refine ⟨⟨n,λh=>tQ kr h⟩,(bS u λcx f0 u=>oM 16 rfl kr (.inl rfl) rfl dc (λ_ _ h=>⟨h.1,lm (by rfl) h.2⟩) ⟨n,λh=>tQ kr h⟩ (nj (i:=(wi0 .i64 (b0+1))) kz.out aN aH rfl rfl i5 (kW f0) (kO f0)) (λbw ⟨_,⟨co,rfl,au⟩,ao,q3⟩=>?_))⟩
      obtain ⟨t8,u7,rfl⟩:=i8.form
      refine XO 17 rfl (uc (x1:=(⟨Y.Op,Y.K,Y.ku,Y.Kids⟩:Formula)) kT d i5 rfl rfl (kz.mk ⟨(.slice t8 Y.Kids.length u7),rfl,i8⟩) q3 (kO f0) aH (λbf u1 d o9=>?_))
      have n:=d.has.kA Sn
      exact ⟨⟨n,λh=>tQ kr h⟩,(lX kr (lG (kL (kK (Wh c0 (Wi rfl (Wa (ln ⟨y2,aQ _,((i0.set (Int.toNat b0) i3).set (Int.toNat (wi0 .i64 (b0+1))) (⟨Y.Op,Y.K,Y.ku,Y.Kids⟩:Formula)),u1,(wi0 .i64 (b0+1)),_,(d.kA St),c7,l7,rfl,o9,u⟩))))))))⟩
     refine mX (mD (mD (pE (kL ?_))))
     have A:=sj u; subst A
     exact ⟨f8,_,(d.kA St),d1⟩
   rintro dh E W ⟨f7,o4,d,x9⟩ x2
   refine lJ (mL ?_)
   have A:=sj x2; subst A
   exact nY rfl ⟨_,_,_,rfl,(d.nK (Kr Sn)),(lx.refl _),Lo.refl,(ST.nu d (pC.mem (Kr Sn))),f7,rfl,rfl,x9⟩
 refine kS (Wm (Wm (Wi rfl (Wi rfl (ln (CI hm rfl (λp2 hm=>?_) (λp2 hm=>?_)))))))
 ·refine sg (Wm (Wa (lr (Wm (Wa (ln (kM (ma (nn (λm E W=>∃G N k7,ST false (keys (c++[])) w W U (c++k7)∧E 0=t∧E 2=(.int .i64 M)∧E 4=D∧E 14=(.int .i64 G)∧E 15=(.int .i64 N)∧mH a0 M f4 m G N=some r) kY ⟨z,M,_,(d.kA St),rfl,rfl,rfl,rfl,rfl,hm⟩ ?_)))))))))
  rintro m E W ⟨G,N,k7,d,c8,d5,f9,d6,g0,j⟩
  let j1:=(IntKind.u64.wrap (wi0 .i64 (G+N)))
  let b8:=(Int.fdiv j1 (2 ^ min (Int.toNat 1) (IntKind.bits .u64)))
  cases m with
  | zero=>rw [mH] at j; cases j
  | succ n3=>
   refine kM (sg (Wh d6 (Wh g0 (Wi rfl (ln (CI j rfl (λp3 j=>?_) (λp3 j=>?_)))))))
   ·refine kn (bg (Wh d6 (Wh g0 (Wi rfl (V (oG (k':=.i64) (a:=(wi0 .i64 (G+N))) dn dl rfl) (V (A4 (a:=j1) (b:=1) rfl rfl dc) (V (oG (k':=.u64) (a:=(Int.fdiv j1 (2 ^ min (Int.toNat 1) (IntKind.bits .u64)))) dl dn rfl) (Wa (ln (kM ?_))))))))))
    replace d:=d.drew
    have n:=d.has.kA (Kr Sn)
    refine lU n li (X 0 rfl n (kD f9) (X 1 rfl n (kD c8) (X 2 rfl n (kD d5) (bS j λy8 j7 j=>XQ 3 rfl n (nj (i:=M) kz.out aN aH rfl rfl a5 (kW j7) (kO j7)) (λbx ⟨_,⟨y4,rfl,s7⟩,r5,ah⟩=>XH 4 rfl n (λ_ L=>kB rfl (lL (ql.hp _) (r5.mono (nV (λb o O=>L.2 b o (Ml O)))) bL aH)) (X 5 rfl n (kD c8) (X 6 rfl n (kD rfl) (bS j λy9 j8 j=>XQ 7 rfl n (nj (i:=(wi0 .i64 b8)) kz.out aN aH rfl rfl a5 (kW j8) (kO j8)) (λbz ⟨_,⟨y5,rfl,s8⟩,r6,ai⟩=>XH 8 rfl n (λ_ L=>kB rfl (lL (ql.hp _) (r6.mono (nV (λb o O=>L.2 b o (Ml O)))) bL aH)) (bS j λcg s1 j=>XE 9 rfl (qQ (y8,y9) d c6 (lx.refl _) (vY.mk kT kT (kz.mk ⟨y4,rfl,s7⟩) (kz.mk ⟨y5,rfl,s8⟩) d.kC) rfl (qT rfl rfl) s1 (λbh d=>?_))))))))))))
    have n:=d.has.kA (Kr Sn)
    refine ⟨n,(X 10 rfl n (lY rfl rfl rfl) (X 11 rfl n (oF rfl) (lX kr (kL (CI j rfl (λp4 j=>?_) (λp4 j=>?_))))))⟩
    ·exact kK (Wm (Wi rfl (Wa (lu (lG (kL ⟨n3,aQ _,(wi0 .i64 ((wi0 .i64 b8)+1)),N,_,(d.kA St),c8,d5,f9,rfl,g0,j⟩))))))
    exact kK (Wm (Wa (lu (lG (kL ⟨n3,aQ _,G,(wi0 .i64 b8),_,(d.kA St),c8,d5,f9,d6,rfl,j⟩)))))
   refine mX (mD (mD (pE (kL (kM (sg (Wh d5 (Wa (ln (CJ j (λi1 E W=>∃d3 k8,ST false (keys (c++[])) w W U (d3++k8)∧mn 30 kz 5 U t i1 d3) (λi1 q7=>?_) ?_))))))))))
   ·refine ma (nn (λm E W=>∃e2 d4 Q k9,ST false (keys (c++[])) w W U (d4++k9)∧E 0=t∧E 14=(.int .i64 G)∧E 17=(.int .i64 Q)∧mn 30 kz 5 U t e2 d4∧nQ G m e2 Q=some i1) kY ⟨a0,c,M,_,(d.kA St),c8,d6,rfl,a5,q7⟩ ?_)
    rintro m E W ⟨e2,d4,Q,k9,d,c9,l8,c1,b6,x⟩
    cases m with
    | zero=>rw [nQ] at x; cases x
    | succ y3=>
     refine kM (sg (Wh c1 (Wh l8 (Wi rfl (ln (CI x rfl (λp5 x=>?_) (λp5 x=>?_)))))))
     ·refine kn (kM (ma ?_))
      replace d:=d.drew
      have n:=d.has.kA Sn
      have p:=d.has.kA (Kr Sn)
      refine rC 15 n p li (lf 0 rfl kr (.inl rfl) rfl dc (λ_ _ h=>⟨h.1,lm (by rfl) h.2⟩) ⟨n,λ_=>p⟩ (λ_ _ _ _=>kD c9) (lf 1 rfl kr (.inl rfl) rfl dc (λ_ _ h=>⟨h.1,lm (by rfl) h.2⟩) ⟨n,λ_=>p⟩ (λ_ _ _ _=>kD c1) (lf 2 rfl kr (.inl rfl) rfl dc (λ_ _ h=>⟨h.1,lm (by rfl) h.2⟩) ⟨n,λ_=>p⟩ (λ_ _ _ _=>kD c9) (lf 3 rfl kr (.inl rfl) rfl dc (λ_ _ h=>⟨h.1,lm (by rfl) h.2⟩) ⟨n,λ_=>p⟩ (λ_ _ _ _=>kD c1) (lf 4 rfl kr (.inl rfl) rfl dc (λ_ _ h=>⟨h.1,lm (by rfl) h.2⟩) ⟨n,λ_=>p⟩ (λ_ _ _ _=>lY rfl rfl rfl) (lf 5 rfl kr (.inl rfl) rfl dc (λ_ _ h=>⟨h.1,lm (by rfl) h.2⟩) ⟨n,λ_=>p⟩ (λ_ _ _ _=>kD c9) (lf 6 rfl kr (.inl rfl) rfl dc (λ_ _ h=>⟨h.1,lm (by rfl) h.2⟩) ⟨n,λ_=>p⟩ (λ_ _ _ _=>kD c1) (lf 7 rfl kr (.inl rfl) rfl dc (λ_ _ h=>⟨h.1,lm (by rfl) h.2⟩) ⟨n,λ_=>p⟩ (λ_ _ _ _=>lY rfl rfl rfl) (bS x λi4 j9 x=>oM 8 rfl kr (.inl rfl) rfl dc (λ_ _ h=>⟨h.1,lm (by rfl) h.2⟩) ⟨n,λ_=>p⟩ (nj (i:=(wi0 .i64 (Q-1))) kz.out aN aH rfl rfl b6 (kW j9) (kO j9)) (λca ⟨_,⟨cp,rfl,i9⟩,r7,aj⟩=>lf 9 rfl kr (.inl rfl) rfl dc (λ_ _ h=>⟨h.1,lm (by rfl) h.2⟩) ⟨n,λ_=>p⟩ (λl W P hs=>have L:=(hs.2 (P.yj 15 [9] kr rfl)); kB rfl (lL (ql.hp _) (r7.mono (nV (λb o O=>L.2 b o (Ml O)))) bL aH)) (lf 10 rfl kr (.inl rfl) rfl dc (λ_ _ h=>⟨h.1,lm (by rfl) h.2⟩) ⟨n,λ_=>p⟩ (λ_ _ _ _=>kD c9) (lf 11 rfl kr (.inl rfl) rfl dc (λ_ _ h=>⟨h.1,lm (by rfl) h.2⟩) ⟨n,λ_=>p⟩ (λ_ _ _ _=>kD c1) (bS x λZ k0 x=>?_)))))))))))))
      refine oM 12 rfl kr (.inl rfl) rfl dc (λ_ _ h=>⟨h.1,lm (by rfl) h.2⟩) ⟨n,λ_=>p⟩ (nj (i:=Q) kz.out aN aH rfl rfl b6 (kW k0) (kO k0)) (λcb ⟨_,⟨cq,rfl,j0⟩,r8,ak⟩=>lf 13 rfl kr (.inl rfl) rfl dc (λ_ _ h=>⟨h.1,lm (by rfl) h.2⟩) ⟨n,λ_=>p⟩ (λl W P hs=>have L:=(hs.2 (P.yj 15 [13] kr rfl)); kB rfl (lL (ql.hp _) (r8.mono (nV (λb o O=>L.2 b o (Ml O)))) bL aH)) (bS x λcy f1 x=>oM 14 rfl kr (.inl rfl) rfl dc (λ_ _ h=>⟨h.1,lm (by rfl) h.2⟩) ⟨n,λ_=>p⟩ (nj (i:=Q) kz.out aN aH rfl rfl b6 (kW f1) (kO f1)) (λcc ⟨_,⟨cr,rfl,av⟩,ap,q4⟩=>?_)))
      obtain ⟨t9,u8,rfl⟩:=i9.form
      refine XO 15 rfl (uc (x1:=i4) kT d b6 rfl rfl (kz.mk ⟨(.slice t9 i4.Kids.length u8),rfl,i9⟩) q4 (kO f1) aH (λbi bd d i6=>?_))
      have n:=d.has.kA Sn
      refine ⟨⟨n,λh=>tQ kr h⟩,(bS x λcz f2 x=>oM 16 rfl kr (.inl rfl) rfl dc (λ_ _ h=>⟨h.1,lm (by rfl) h.2⟩) ⟨n,λh=>tQ kr h⟩ (nj (i:=(wi0 .i64 (Q-1))) kz.out aN aH rfl rfl i6 (kW f2) (kO f2)) (λcd ⟨_,⟨cs,rfl,aw⟩,aq,q5⟩=>?_))⟩
      obtain ⟨u0,u9,rfl⟩:=j0.form
      refine XO 17 rfl (uc (x1:=(⟨Z.Op,Z.K,Z.ku,Z.Kids⟩:Formula)) kT d i6 rfl rfl (kz.mk ⟨(.slice u0 Z.Kids.length u9),rfl,j0⟩) q5 (kO f2) aH (λbj u2 d p0=>?_))
      have n:=d.has.kA Sn
      exact ⟨⟨n,λh=>tQ kr h⟩,(lX kr (lG (kL (kK (Wh c1 (Wi rfl (Wa (ln ⟨y3,aQ _,((e2.set (Int.toNat Q) i4).set (Int.toNat (wi0 .i64 (Q-1))) (⟨Z.Op,Z.K,Z.ku,Z.Kids⟩:Formula)),u2,(wi0 .i64 (Q-1)),_,(d.kA St),c9,l8,rfl,p0,x⟩))))))))⟩
     refine mX (mD (mD (pE (kL ?_))))
     have A:=sj x; subst A
     exact ⟨d4,_,(d.kA St),b6⟩
   rintro bs E W ⟨d3,k8,d,s9⟩ q6
   refine lJ (mL ?_)
   have A:=sj q6; subst A
   exact nY rfl ⟨_,_,_,rfl,(d.nK (Kr Sn)),(lx.refl _),Lo.refl,(ST.nu d (pC.mem (Kr Sn))),d3,rfl,rfl,s9⟩
 let g5:=(IntKind.u64.wrap (wi0 .i64 (z+B)))
 refine kg (Wm (Wm (Wi rfl (V (oG (k':=.i64) (a:=(wi0 .i64 (z+B))) dn dl rfl) (V (A4 (a:=g5) (b:=1) rfl rfl dc) (V (oG (k':=.u64) (a:=(Int.fdiv g5 (2 ^ min (Int.toNat 1) (IntKind.bits .u64)))) dl dn rfl) (Wa (lr ?_))))))))
 let a1:=(wi0 .i64 (Int.fdiv g5 (2 ^ min (Int.toNat 1) (IntKind.bits .u64))))
 let e5:=(wi0 .i64 (a1+M))
 refine Wm (Wm (Wi rfl (Wa (lr (Wa (Wa (ln (kM (CJ hm (λi2 E W=>∃l0,ST false (keys (c++[])) w W U (c++l0)∧E 0=t∧E 1=(.int .i64 z)∧E 2=(.int .i64 M)∧E 3=(.int .i64 B)∧E 4=D∧E 18=(.int .i64 a1)∧E 19=(.int .i64 e5)∧E 20=(.int .i64 i2.1)∧E 21=(.int .i64 i2.2)) (λi2 b5=>?_) ?_)))))))))
 ·refine sg (Wm (Wm (Wi rfl (ln (CI b5 rfl (λq1 b5=>?_) (λq1 b5=>?_))))))
  ·refine sg (Wm (Wm (Wi rfl (Wa (ln (kK (Wm (Wa (ln ?_)))))))))
   have A:=sj b5; subst A
   exact ⟨_,(d.kA St),rfl,rfl,rfl,rfl,rfl,rfl,rfl,rfl,rfl⟩
  refine sg (Wm (Wa (ln (kK (Wm (Wa (ln ?_)))))))
  have A:=sj b5; subst A
  exact ⟨_,(d.kA St),rfl,rfl,rfl,rfl,rfl,rfl,rfl,rfl,rfl⟩
 rintro ⟨z0,z1⟩ E W ⟨l0,d,v0,v1,v2,v3,v4,v5,l9,v6,v7⟩ q8
 refine sg (Wh l9 (Wi rfl (Wa (ln (kM (ma (nn (λm E W=>∃g K l1,ST false (keys (c++[])) w W U (c++l1)∧E 0=t∧E 1=(.int .i64 z)∧E 2=(.int .i64 M)∧E 3=(.int .i64 B)∧E 4=D∧E 18=(.int .i64 a1)∧E 19=(.int .i64 e5)∧E 20=(.int .i64 g)∧E 21=(.int .i64 K)∧E 22=(.int .i64 (wi0 .i64 (e5-1)))∧mu a0 z B M f4 t6 m g K=some r) kY ⟨z0,z1,_,(d.kA St),v0,v1,v2,v3,v4,v5,l9,v6,v7,rfl,q8⟩ ?_)))))))
 rintro m E W ⟨g,K,l1,d,c2,d7,c3,d8,d0,d9,g1,b1,g2,g3,k⟩
 let g6:=(IntKind.u64.wrap (wi0 .i64 (g+K)))
 let a3:=(Int.fdiv g6 (2 ^ min (Int.toNat 1) (IntKind.bits .u64)))
 let j2:=(wi0 .i64 a3)
 let a2:=(wi0 .i64 (e5-g))
 cases m with
 | zero=>rw [mu] at k; cases k
 | succ n4=>
  refine kM (sg (Wh b1 (Wh g2 (Wi rfl (ln (CI k rfl (λp6 k=>?_) (λp6 k=>?_)))))))
  ·refine kn (bg (Wh b1 (Wh g2 (Wi rfl (V (oG (k':=.i64) (a:=(wi0 .i64 (g+K))) dn dl rfl) (V (A4 (a:=g6) (b:=1) rfl rfl dc) (V (oG (k':=.u64) (a:=(Int.fdiv g6 (2 ^ min (Int.toNat 1) (IntKind.bits .u64)))) dl dn rfl) (Wa (ln (kM ?_))))))))))
   replace d:=d.drew
   have n:=d.has.kA (Kr Sn)
   refine lU n li (X 0 rfl n (kD d0) (X 1 rfl n (kD c2) (X 2 rfl n (kD g3) (X 3 rfl n (kD rfl) (X 4 rfl n (lY rfl rfl rfl) (bS k λz2 k1 k=>XQ 5 rfl n (nj (i:=(wi0 .i64 ((wi0 .i64 (e5-1))-j2))) kz.out aN aH rfl rfl a5 (kW k1) (kO k1)) (λce ⟨_,⟨y6,rfl,t0⟩,r9,al⟩=>XH 6 rfl n (λ_ L=>kB rfl (lL (ql.hp _) (r9.mono (nV (λb o O=>L.2 b o (Ml O)))) bL aH)) (X 7 rfl n (kD c2) (X 8 rfl n (kD rfl) (bS k λz3 k2 k=>XQ 9 rfl n (nj (i:=(wi0 .i64 a3)) kz.out aN aH rfl rfl a5 (kW k2) (kO k2)) (λcf ⟨_,⟨y7,rfl,t1⟩,s0,am⟩=>XH 10 rfl n (λ_ L=>kB rfl (lL (ql.hp _) (s0.mono (nV (λb o O=>L.2 b o (Ml O)))) bL aH)) (bS k λch s2 k=>?_))))))))))))
   refine XE 11 rfl (qQ (z2,z3) d c6 (lx.refl _) (vY.mk kT kT (kz.mk ⟨y6,rfl,t0⟩) (kz.mk ⟨y7,rfl,t1⟩) d.kC) rfl (qT rfl rfl) s2 (λbk d=>?_))
   have n:=d.has.kA (Kr Sn)
   refine ⟨n,(X 12 rfl n (lY rfl rfl rfl) (X 13 rfl n (oF rfl) (lX kr (kL (CI k rfl (λp7 k=>?_) (λp7 k=>?_))))))⟩
   ·exact kK (Wm (Wi rfl (Wa (lu (lG (kL ⟨n4,aQ _,(wi0 .i64 (j2+1)),K,_,(d.kA St),c2,d7,c3,d8,d0,d9,g1,rfl,g2,g3,k⟩))))))
   exact kK (Wm (Wa (lu (lG (kL ⟨n4,aQ _,g,j2,_,(d.kA St),c2,d7,c3,d8,d0,d9,g1,b1,rfl,g3,k⟩)))))
  refine mX (mD (mD (pE (kL (sg (Wh g1 (Wh b1 (Wi rfl (Wa (ln (kM (CJ k (λn8 E W=>∃b7 a4 l2,lx U a4∧Lo (keys (c++[])) w U a4∧ST false (keys (c++[])) w W a4 (b7++l2)∧E 0=t∧E 1=(.int .i64 z)∧E 3=(.int .i64 B)∧E 4=D∧E 18=(.int .i64 a1)∧E 20=(.int .i64 g)∧E 24=(.int .i64 a2)∧mn 30 kz 5 a4 t n8 b7) (λn8 r2=>?_) ?_))))))))))))
  ·refine sg (Wh b1 (Wh c3 (Wi rfl (Wm (LJ r2 (λn9 E W=>∃l6,ST false (keys (c++[])) w W U (c++l6)∧E 0=t∧E 1=(.int .i64 z)∧E 2=(.int .i64 M)∧E 3=(.int .i64 B)∧E 4=D∧E 18=(.int .i64 a1)∧E 20=(.int .i64 g)∧E 24=(.int .i64 a2)∧E 185=(.bool n9)) 4 ?_ (λn9 b4 f6=>?_))))))
   ·rintro de E W ⟨l6,d,h4,m8,w7,m9,h5,n0,h6,h7,w8⟩ a8
    refine ln (CI a8 w8 (λq0 a8=>?_) (λq0 a8=>?_))
    ·refine kK (Wh h4 (Wh h6 (Wh w7 (Wh h7 (Wh h5 (bS a8 λck s5 a8=>?_))))))
     refine VE (eD d (Cr Qz Cn) call389 (λhh=>ol.nx (CC t a0 c g M a2 D f4 _ _ hh a5 (c6.mono (lx.refl _)) s5)) ?_)
     rintro _ cv z5 ba d o2 cS ⟨u5,e8,rfl,t4⟩
     obtain rfl:=e8.symm
     replace d:=d.perm (Tr Tn)
     refine ln ?_
     have A:=sj a8; subst A
     exact ⟨u5,z5,_,o2,cS,(d.kA St),h4,m8,m9,h5,n0,h6,h7,t4⟩
    refine kn ?_
    have A:=sj a8; subst A
    exact ⟨c,U,_,(lx.refl _),Lo.refl,(d.kA St),h4,m8,m9,h5,n0,h6,h7,a5⟩
   refine bC b4 (λJ b4=>?_) (λJ b4=>?_)
   ·refine ug J (kD c3) (ug J (kD rfl) (ug J (lY rfl rfl rfl) (V (lK (cB J) rfl) ?_)))
    have A:=sj b4; subst A
    exact f6 _ _ ⟨_,(d.kA St),c2,d7,c3,d8,d0,d9,b1,rfl,rfl⟩
   refine un J (un J (un J (V (lN (cB J) rfl) ?_)))
   have A:=sj b4; subst A
   exact f6 _ _ ⟨_,(d.kA St),c2,d7,c3,d8,d0,d9,b1,rfl,rfl⟩
  rintro y0 E W ⟨b7,a4,l2,c4,R,d,m0,g4,m1,m2,g7,e0,m3,j3⟩ q9
  refine kM (CJ q9 (λn6 E W=>∃b9 c5 l3,lx a4 c5∧Lo (keys (c++[])) w a4 c5∧ST false (keys (c++[])) w W c5 (b9++l3)∧E 0=t∧E 3=(.int .i64 B)∧E 4=D∧E 18=(.int .i64 a1)∧E 24=(.int .i64 a2)∧mn 30 kz 5 c5 t n6 b9) (λn6 r1=>?_) ?_)
  ·refine sg (Wh g4 (Wh e0 (Wi rfl (Wm (LJ r1 (λn7 E W=>∃l5,ST false (keys (c++[])) w W a4 (b7++l5)∧E 0=t∧E 1=(.int .i64 z)∧E 3=(.int .i64 B)∧E 4=D∧E 18=(.int .i64 a1)∧E 20=(.int .i64 g)∧E 24=(.int .i64 a2)∧E 199=(.bool n7)) 4 ?_ (λn7 b3 f5=>?_))))))
   ·rintro db E W ⟨l5,d,h1,w4,m6,h2,h3,w5,m7,w6⟩ a7
    refine ln (CI a7 w6 (λp9 a7=>?_) (λp9 a7=>?_))
    ·refine kK (Wh h1 (Wh w4 (Wh w5 (Wh h3 (Wh h2 (bS a7 λcj s4 a7=>?_))))))
     refine VE (eD d (Cr Qz Cn) call384 (λhh=>(s6 t y0 b7 z g a1 D f4 _ _ hh j3 (c6.mono c4) s4)) ?_)
     rintro _ cu z4 az d o1 bl ⟨u4,e7,rfl,t3⟩
     obtain rfl:=e7.symm
     replace d:=d.perm (Tr Tn)
     refine ln ?_
     have A:=sj a7; subst A
     exact ⟨u4,z4,_,o1,bl,(d.kA St),h1,m6,h2,h3,m7,t3⟩
    refine kn ?_
    have A:=sj a7; subst A
    exact ⟨b7,a4,_,(lx.refl _),Lo.refl,(d.kA St),h1,m6,h2,h3,m7,j3⟩
   refine bC b3 (λI b3=>?_) (λI b3=>?_)
   ·refine ug I (kD e0) (ug I (kD g7) (ug I (lY rfl rfl rfl) (V (lK (cB I) rfl) ?_)))
    have A:=sj b3; subst A
    exact f5 _ _ ⟨_,(d.kA St),m0,g4,m1,m2,g7,e0,m3,rfl⟩
   refine un I (un I (un I (V (lN (cB I) rfl) ?_)))
   have A:=sj b3; subst A
   exact f5 _ _ ⟨_,(d.kA St),m0,g4,m1,m2,g7,e0,m3,rfl⟩
  rintro y1 E W ⟨b9,c5,l3,d2,ad,d,m4,g8,m5,g9,e1,j4⟩ r0
  refine sg (Wh g9 (Wh e1 (Wi rfl (Wm (LJ r0 (λn5 E W=>∃l4,ST false (keys (c++[])) w W c5 (b9++l4)∧E 0=t∧E 3=(.int .i64 B)∧E 4=D∧E 18=(.int .i64 a1)∧E 24=(.int .i64 a2)∧E 213=(.bool n5)) 4 ?_ (λn5 b2 f3=>?_))))))
  ·rintro da E W ⟨l4,d,v8,v9,w0,w1,w2,w3⟩ a6
   refine ln (CI a6 w3 (λp8 a6=>?_) (λp8 a6=>?_))
   ·refine kK (Wh v8 (Wh w1 (Wh w2 (Wh v9 (Wh w0 (bS a6 λci s3 a6=>?_))))))
    refine VE (eD d (Cr Qz Cn) call384 (λhh=>(s6 t y1 b9 a1 a2 B D f4 _ _ hh j4 (c6.mono (c4.trans d2)) s3)) ?_)
    rintro _ ct df ay d o0 aE ⟨u3,e6,rfl,t2⟩
    obtain rfl:=e6.symm
    replace d:=d.perm (Tr Tn)
    refine lu (pc ?_)
    have A:=sj a6; subst A
    exact nY rfl ⟨_,_,_,rfl,(d.nK (Kr Sn)),((c4.trans d2).trans o0),((R.trans ad).trans aE),(ST.nu d (pC.mem (Kr Sn))),u3,rfl,rfl,t2⟩
   refine nf (pc ?_)
   have A:=sj a6; subst A
   exact nY rfl ⟨_,_,_,rfl,(d.nK (Kr Sn)),(c4.trans d2),(R.trans ad),(ST.nu d (pC.mem (Kr Sn))),b9,rfl,rfl,j4⟩
  refine bC b2 (λH b2=>?_) (λH b2=>?_)
  ·refine ug H (kD e1) (ug H (kD g8) (ug H (lY rfl rfl rfl) (V (lK (cB H) rfl) ?_)))
   have A:=sj b2; subst A
   exact f3 _ _ ⟨_,(d.kA St),m4,g8,m5,g9,e1,rfl⟩
  refine un H (un H (un H (V (lN (cB H) rfl) ?_)))
  have A:=sj b2; subst A
  exact f3 _ _ ⟨_,(d.kA St),m4,g8,m5,g9,e1,rfl⟩
theorem tG:∀(n:Nat) (c:Value) (k:List Formula) (a:LO) (t:Int) (u:Int) (x:Int) (g:Value) (y:(Formula×Formula)→Option Int) (r:List Formula) (w:World) {i:lE} (H:pn i (a++[]) w) (B:mn 30 kz 5 i c k a) (D:vL pg0 g i (vY kz kz) (λ(r:Int)=>(.int .i64 r)) y) (_:mW n k t u x y=some r),
  ol false pg0 384 [c,(.int .i64 t),(.int .i64 u),(.int .i64 x),g] w i (a++[]) (λv z G=>∃j,v=(.tuple #[])∧z=(j++[])∧mn 30 kz 5 G c r j)
 | 0=>by intros; rename_i h; simp only [mW] at h; cases h
 | n+1=>Aa (mW n) (tG n)
theorem CS (a:Value) (a0:List Formula) (c:LO) (Q:Int) (x:Value) (f2:(Formula×Formula)→Option Int) (r:List Formula) (w:World) {μ0:lE} (h0:pn μ0 (c++[]) w) (k4:mn 30 kz 5 μ0 a a0 c) (c7:vL pg0 x μ0 (vY kz kz) (λ(r:Int)=>(.int .i64 r)) f2) (hm:uq a0 Q f2=some r) :
  ol false pg0 375 [a,(.int .i64 Q),x] w μ0 (c++[]) (λv L1 μ1=>∃S1,v=(.tuple #[])∧L1=(S1++[])∧mn 30 kz 5 μ1 a r S1):=by
 refine Ak h0 63 func375 rfl (λd=>sg (Wa (lr (Wm (Wa (Wa (ln (kM (ma (nn (λm E W=>∃d4 d0 d5 b1 d6 f1,lx μ0 d6∧Lo (keys (c++[])) w μ0 d6∧ST false (keys (c++[])) w W d6 (d0++f1)∧E 0=a∧E 1=(.int .i64 Q)∧E 2=x∧E 6=(.int .i64 20)∧E 7=(.int .i64 d5)∧E 8=(.int .i64 b1)∧mn 30 kz 5 d6 a d4 d0∧nJ Q f2 m d4 d5 b1=some r) kY ⟨a0,c,0,20,μ0,_,(lx.refl _),Lo.refl,(d.kA St),rfl,rfl,rfl,rfl,rfl,rfl,k4,hm⟩ ?_))))))))))
 rintro m E W ⟨d4,d0,d5,b1,d6,f1,z,A,d,b4,b5,b6,d7,f4,b7,h1,i⟩
 cases m with
 | zero=>rw [nJ] at i; cases i
 | succ k5=>
  refine kM (sg (Wh b7 (Wh b5 (Wi rfl (ln (CI i rfl (λi4 i=>?_) (λi4 i=>?_)))))))
  ·refine kn (bg (Wh b4 (Wh f4 (Wh b7 (Wh b6 (bS i λk6 i7 i=>?_))))))
   refine VE (eD d (Cr Qz Cn) call383 (λhh=>(vk a d4 d0 d5 b1 x f2 _ _ hh h1 (c7.mono z) i7)) ?_)
   rintro _ m4 k8 l8 d g0 a1 ⟨k1,c8,rfl,j0⟩
   obtain rfl:=c8.symm
   replace d:=d.perm (Tr Tn)
   refine lr (Wh b7 (Wa (ln (kK (Wh b7 (Wh d7 (Wi rfl (Wa (lu (lG ?_))))))))))
   exact kL ⟨k5,aQ _,k6,k1,b1,(wi0 .i64 (b1+20)),k8,_,(z.trans g0),(A.trans a1),(d.kA St),b4,b5,b6,d7,rfl,rfl,j0,i⟩
  refine mX (mD (mD (pE (kL (sg (Wh b4 (Wh f4 (Wh b5 (Wh b6 (bS i λk7 i8 i=>?_))))))))))
  refine VE (eD d (Cr Qz Cn) call383 (λhh=>(vk a d4 d0 d5 Q x f2 _ _ hh h1 (c7.mono z) i8)) ?_)
  rintro _ m5 a8 l9 d a5 aa ⟨k2,c9,rfl,j3⟩
  obtain rfl:=c9.symm
  replace d:=d.perm (Tr Tn)
  refine ln (sW (CJ i (λd8 E W=>∃b2 a9 f3,lx a8 a9∧Lo (keys (c++[])) w a8 a9∧ST false (keys (c++[])) w W a9 (b2++f3)∧mn 30 kz 5 a9 a d8 b2) (λd8 i6=>?_) ?_))
  ·refine ma (nn (λm E W=>∃a2 I j k e0,lx a8 k∧Lo (keys (c++[])) w a8 k∧ST false (keys (c++[])) w W k (I++e0)∧E 0=a∧E 1=(.int .i64 Q)∧E 2=x∧E 6=(.int .i64 j)∧mn 30 kz 5 k a a2 I∧nI Q f2 m a2 j=some d8) kY ⟨k7,k2,20,a8,_,(lx.refl _),Lo.refl,(d.kA St),b4,b5,b6,d7,j3,i6⟩ ?_)
   rintro m E W ⟨a2,I,j,k,e0,B,n,d,h6,e4,h7,b3,d1,t⟩
   cases m with
   | zero=>rw [nI] at t; cases t
   | succ j6=>
    refine kM (sg (Wh b3 (Wh e4 (Wi rfl (ln (CI t rfl (λf7 t=>?_) (λf7 t=>?_)))))))
    ·refine kn (bg (Wh b3 (Wi rfl (Wa (Wa (ln (kM (CJ t (λa4 E W=>∃J y e1,lx k y∧Lo (keys (c++[])) w k y∧ST false (keys (c++[])) w W y (J++e1)∧E 0=a∧E 1=(.int .i64 Q)∧E 2=x∧E 6=(.int .i64 j)∧E 7=(.int .i64 a4.2)∧mn 30 kz 5 y a a4.1 J) (λa4 g4=>?_) ?_))))))))
     ·refine ma (nn (λm E W=>∃a3 K M D H e3,lx k H∧Lo (keys (c++[])) w k H∧ST false (keys (c++[])) w W H (K++e3)∧E 0=a∧E 1=(.int .i64 Q)∧E 2=x∧E 6=(.int .i64 j)∧E 7=(.int .i64 M)∧E 8=(.int .i64 D)∧mn 30 kz 5 H a a3 K∧ob Q j f2 m a3 M D=some a4) kY ⟨a2,I,0,(wi0 .i64 (2*j)),k,_,(lx.refl _),Lo.refl,(d.kA St),h6,e4,h7,b3,rfl,rfl,d1,g4⟩ ?_)
      rintro m E W ⟨a3,K,M,D,H,e3,N,p,d,c2,c3,c4,Y,c5,Z,d3,g⟩
      cases m with
      | zero=>rw [ob] at g; cases g
      | succ j7=>
       refine kM (sg (Wh Z (Wh c3 (Wi rfl (ln (CI g rfl (λf9 g=>?_) (λf9 g=>?_)))))))
       ·refine kn (bg (Wh c2 (Wh c5 (Wh c5 (Wh Y (Wi rfl (Wh Z (Wh c4 (bS g λj8 g8 g=>?_)))))))))
        refine VE (eD d (Cr Qz Cn) call384 (λhh=>((tG kY) a a3 K M (wi0 .i64 (M+j)) D x f2 _ _ hh d3 (c7.mono (((z.trans a5).trans B).trans N)) g8)) ?_)
        rintro _ l6 k0 l1 d f0 R ⟨h5,a7,rfl,h3⟩
        obtain rfl:=a7.symm
        replace d:=d.perm (Tr Tn)
        refine lr (Wh Z (Wa (ln (kK (Wh Z (Wh Y (Wi rfl (Wi rfl (Wa (lu ?_))))))))))
        exact lG (kL ⟨j7,aQ _,j8,h5,D,(wi0 .i64 (D+(wi0 .i64 (2*j)))),k0,_,(N.trans f0),(p.trans R),(d.kA St),c2,c3,c4,Y,rfl,rfl,h3,g⟩)
       refine mX (mD (mD (pE (kL ?_))))
       obtain rfl:=sj g
       exact ⟨K,H,_,N,p,(d.kA St),c2,c3,c4,Y,c5,d3⟩
     rintro ⟨j4,e7⟩ E W ⟨J,y,e1,b0,L,d,b9,U,c0,c1,e5,d2⟩ g2
     refine kM (CJ g2 (λe6 E W=>∃T G e2,lx y G∧Lo (keys (c++[])) w y G∧ST false (keys (c++[])) w W G (T++e2)∧E 0=a∧E 1=(.int .i64 Q)∧E 2=x∧E 6=(.int .i64 j)∧mn 30 kz 5 G a e6 T) (λe6 u=>?_) ?_)
     ·refine sg (Wh e5 (Wh c1 (Wi rfl (Wa (lr (Wm (Wh U (Wi rfl (ln ?_)))))))))
      refine CI u rfl (λf8 u=>?_) (λf8 u=>?_)
      ·refine kK (Wh b9 (Wh e5 (Wm (Wh U (Wh c0 (bS u λl4 g7 u=>?_))))))
       refine VE (eD d (Cr Qz Cn) call384 (λhh=>((tG kY) a j4 J e7 (wi0 .i64 (e7+j)) Q x f2 _ _ hh d2 (c7.mono (((z.trans a5).trans B).trans b0)) g7)) ?_)
       rintro _ l5 j9 l0 d e9 P ⟨h4,a6,rfl,h2⟩
       obtain rfl:=a6.symm
       replace d:=d.perm (Tr Tn)
       refine ln ?_
       obtain rfl:=sj u
       exact ⟨h4,j9,_,e9,P,(d.kA St),b9,U,c0,c1,h2⟩
      refine kn ?_
      obtain rfl:=sj u
      exact ⟨J,y,_,(lx.refl _),Lo.refl,(d.kA St),b9,U,c0,c1,d2⟩
     rintro j5 E W ⟨T,G,e2,e8,O,d,h8,h9,i0,i1,g9⟩ g3
     exact kK (Wh i1 (Wi rfl (Wa (lu (lG (kL ⟨j6,aQ _,j5,T,(wi0 .i64 (j*2)),G,_,((B.trans b0).trans e8),((n.trans L).trans O),(d.kA St),h8,h9,i0,rfl,g9,g3⟩))))))
    refine mX (mD (mD (pE (kL ?_))))
    obtain rfl:=sj t
    exact ⟨I,k,_,B,n,(d.kA St),d1⟩
  rintro m3 E W ⟨b2,a9,f3,g1,ab,d,i9⟩ i5
  refine pc ?_
  obtain rfl:=sj i5
  exact nY rfl ⟨_,_,_,rfl,(d.nK (Kr Sn)),((z.trans a5).trans g1),((A.trans aa).trans ab),(ST.nu d (pC.mem (Kr Sn))),b2,rfl,rfl,i9⟩
theorem Cv (c:Value) (k:List Formula) (a:LO) (i:Value) (u:(Formula×Formula)→Option Int) (r:List Formula) (w:World) {t:lE} (J:pn t (a++[]) w) (j:mn 30 kz 5 t c k a) (x:vL pg0 i t (vY kz kz) (λ(r:Int)=>(.int .i64 r)) u) (hm:rq k u=some r) :
  ol false pg0 352 [c,i] w t (a++[]) (λv I K=>∃B,v=(.tuple #[])∧I=(B++[])∧mn 30 kz 5 K c r B):=by
 refine Ak J 9 func352 rfl (λd=>kK (Wm (Wm (V (AE aN rfl j) (Wm (bS hm λQ H hm=>?_))))))
 refine VE (eD d (Cr Qz Cn) call375 (λp=>(CS c k a (k.length:Int) i u _ _ p j (x.mono (lx.refl _)) H)) ?_)
 rintro _ T U M d y n ⟨D,g,rfl,z⟩
 obtain rfl:=g.symm
 replace d:=d.perm (Tr Tn)
 refine lu (pc ?_)
 obtain rfl:=sj hm
 exact nY rfl ⟨_,_,_,rfl,(d.nK (Kr Sn)),y,n,(ST.nu d (pC.mem (Kr Sn))),D,rfl,rfl,z⟩
theorem HP (b4:(List Int)→Formula→Option (List Int)) (f2:∀(a:Nat) (k:Value) (B:List Int) (g:LO) (j:Formula) (u:Value) (r:List Int) (w:World) {μ0:lE} (h0:pn μ0 ((a,Ob #[k] 215)::(g++[])) w) (T:lh 5 (mh .u8) 1 k B g) (t:Sl kz 5 μ0 u j.Kids),b4 B j=some r→mi false pg0 390 [(.pointer (some ⟨a,0,none⟩)),(.agg #[(.int .i64 j.Op),(.int .i64 j.K),(.string j.ku.kw),(.string j.ku.Word),u])] w ((a,Ob #[k] 215)::(g++[])) (λv L1 W'=>∃A S2,v=(.tuple #[])∧L1=((a,Ob #[A] 215)::(S2++[]))∧lh 5 (mh .u8) 1 A r S2)) (a:Nat) (k:Value) (B:List Int) (g:LO) (j:Formula) (u:Value) (r:List Int) (w:World) {μ0:lE} (h0:pn μ0 ((a,Ob #[k] 215)::(g++[])) w) (T:lh 5 (mh .u8) 1 k B g) (t:Sl kz 5 μ0 u j.Kids) (hm:zb b4 B j=some r) :
  mi false pg0 390 [(.pointer (some ⟨a,0,none⟩)),(.agg #[(.int .i64 j.Op),(.int .i64 j.K),(.string j.ku.kw),(.string j.ku.Word),u])] w ((a,Ob #[k] 215)::(g++[])) (λv L1 W'=>∃A S2,v=(.tuple #[])∧L1=((a,Ob #[A] 215)::(S2++[]))∧lh 5 (mh .u8) 1 A r S2):=by
 let b0:=((a,Ob #[k] 215)::(g++[]))
 refine xq h0 40 func390 rfl (λd=>sg ?_)
 obtain ⟨A1,c2,rfl⟩:=t.form
 refine VE (lM d rfl (λW4 b3 d=>lr (Wm (Wf xc (VB d Mh rfl rfl dJ (bS hm λr5 g8 hm=>?_))))))
 refine VE (eM d (Cb (Pb Pz) (Cr (Qb Qz) Cn)) call170 (λp _=>mi.nx (uK a k B g j.Op _ _ p T g8)) ?_)
 rintro _ j8 L j0 d e9 af n ⟨b7,a9,a2,rfl,a5⟩
 obtain rfl:=a2.symm
 replace d:=d.perm (Tb (Tr Tn))
 refine lS (Wf xc (VB d (Mt (Ma Mh)) rfl rfl dJ (Wi rfl (ln (CI hm rfl (λe8 hm=>?_) (λe8 hm=>?_))))))
 ·refine sg (Wm (Wf Br (VA d (Mt (Ma Mh)) (kJ j.ku) bZ bF (bS hm λj7 f0 hm=>?_))))
  refine VE (eM d (Cb Pz (Cr Qz Cn)) call212 (λp _=>mi.nx (yO a b7 r5.2 a9 j.ku _ _ p a5 f0)) ?_)
  rintro _ j9 k1 j3 d h6 ag n ⟨h3,g2,a3,rfl,f4⟩
  obtain rfl:=a3.symm
  replace d:=d.perm (Tb (Tr Tn))
  refine ln ?_
  replace d:=d.kA (Kb (Kr (Db St)))
  refine lJ (mL ?_)
  obtain rfl:=sj hm
  exact nY rfl ⟨_,_,rfl,(d.nK (Kb (Kr Sn))),h3,g2,rfl,rfl,f4⟩
 refine kn (kM (CJ hm (λb5 E W=>∃P O c0 d6,lx L c0∧ST false (keys b0) w W c0 ((a,Ob #[P] 215)::((b3,Ol (C2 j.Op j.K j.ku.kw j.ku.Word A1 j.Kids.length c2) 30)::(O++d6)))∧E 0=(.pointer (some ⟨a,0,none⟩))∧E 3=(.pointer (some ⟨b3,0,none⟩))∧lh 5 (mh .u8) 1 P b5 O) (λb5 y=>?_) ?_))
 ·refine sg (Wf xc (VB d (Mt (Ma Mh)) rfl rfl dJ (Wi rfl (ln (CI y rfl (λc4 y=>?_) (λc4 y=>?_))))))
  ·refine kK (Wm (Wf Bw (VB d (Mt (Ma Mh)) rfl rfl dJ (bS y λi6 d0 y=>?_))))
   refine VE (eM d (Cb Pz (Cr Qz Cn)) call170 (λp _=>mi.nx (uK a b7 r5.2 a9 j.K _ _ p a5 d0)) ?_)
   rintro _ i9 g1 h9 d b2 ad n ⟨f9,e3,N,rfl,d5⟩
   obtain rfl:=N.symm
   replace d:=d.perm (Tb (Tr Tn))
   refine ln ?_
   obtain rfl:=sj y
   exact ⟨f9,e3,g1,_,b2,(d.kA (Kb (Sb (Pr Pz) St))),rfl,rfl,d5⟩
  refine kn ?_
  obtain rfl:=sj y
  exact ⟨b7,a9,L,_,(lx.refl _),(d.kA (Kb (Sb (Pr Pz) St))),rfl,rfl,a5⟩
 rintro g9 E W ⟨P,O,c0,d6,c6,d,d7,d8,f3⟩ a0
 refine sg (Wh d7 (V (kN vA d8) (VB d (Mt Mh) rfl rfl fJ (V (nv aN rfl t) (bS a0 λh2 f1 a0=>?_)))))
 refine VE (eM d (Cb Pz (Cr (Qb Qz) Cn)) call170 (λp _=>mi.nx (uK a P g9 O (j.Kids.length:Int) _ _ p f3 f1)) ?_)
 rintro _ k0 d9 j4 d c7 ah n ⟨h4,g3,a4,rfl,f5⟩
 obtain rfl:=a4.symm
 replace d:=d.perm (Tb (Tr Tn))
 refine lr (V (kN vA d8) (VB d (Mt (Ma Mh)) rfl rfl fJ (V (nv aN rfl t) (Wm (ln ?_)))))
 replace d:=d.kA (Kb (Kr (Db St)))
 refine sW (mV (λi E W=>∃D H z Q U,(E 32= .int .i64 (i:Nat)∧E 31= .int .i64 (j.Kids.length:Nat))∧lx d9 Q∧ST false (keys b0) w W Q ((a,Ob #[D] 215)::(z++U))∧E 0=(.pointer (some ⟨a,0,none⟩))∧E 30=(.slice A1 j.Kids.length c2)∧lh 5 (mh .u8) 1 D H z∧tN b4 (j.Kids.drop i) H=some r) j.Kids.length t.len ⟨h4,h2.2,g3,d9,_,⟨rfl,rfl⟩,(lx.refl _),(d.kA St),d7,rfl,f5,a0⟩ dc dc dc (λ_ _ _ h=>by obtain ⟨_,_,_,_,_,aa,_⟩:=h; exact aa) ?_ ?_)
 ·rintro f6 E W c5 ⟨D,H,z,Q,U,⟨eI,eN⟩,G,d,Y,Z,K,x⟩
  obtain ⟨c,h7,d2,d1,d3⟩:=mC c5
  rw [d2] at x
  refine bg (VQ (nN (i:=(f6:Int)) (x0:=c) kz.out aN aH Z eI (t.mono kT.mono (((e9.trans c6).trans c7).trans G)) (aX _) d1) (λi5 ⟨_,⟨i7,rfl,a7⟩,c8⟩=>V (kB rfl (lL d.has c8 bL aH)) (VE (ml d bR (λi0 i4 d=>?_)))))
  obtain ⟨I,J,rfl⟩:=a7.form
  let R:=(C2 c.Op c.K c.ku.kw c.ku.Word I c.Kids.length J)
  refine VO (lA (.agg R.toArray) (R.toArray) d rfl rfl aH oc nb rfl (λi1 d=>ln (kK (Wh Y (VA d Mh R bL aH (bS x λf7 c9 x=>?_))))))
  refine VE (eM d (Cb (Pb Pz) (Cr (Qb Qz) Cn)) call390 (λp ae=>(f2 a D H z c (.slice I c.Kids.length J) _ _ p K (a7.mono kT.mono ae) c9)) ?_)
  rintro _ i8 g0 h8 d b1 ab n ⟨f8,e2,M,rfl,d4⟩
  obtain rfl:=M.symm
  replace d:=d.perm (Tb (Tr Tn))
  refine lu (lG (kL ?_))
  replace d:=d.kA (Kb (Kr (Db St)))
  exact ⟨eI,f8,f7,e2,g0,_,⟨rfl,eN⟩,(G.trans b1),(d.kA St),Y,Z,d4,(by rw [d3]; exact x)⟩
 rintro E W ⟨D,H,z,Q,U,⟨eI,eN⟩,G,d,Y,Z,K,x⟩
 rw [bo] at x
 refine kL (pc ?_)
 obtain rfl:=sj x
 exact nY rfl ⟨_,_,rfl,(d.nK (Kb (Kr Sn))),D,z,rfl,rfl,K⟩
theorem Gn:∀(n:Nat) (i:Nat) (g:Value) (k:List Int) (c:LO) (j:Formula) (a:Value) (r:List Int) (w:World) {z:lE} (D:pn z ((i,Ob #[g] 215)::(c++[])) w) (x:lh 5 (mh .u8) 1 g k c) (t:Sl kz 5 z a j.Kids) (_:sQ n k j=some r),
  mi false pg0 390 [(.pointer (some ⟨i,0,none⟩)),(.agg #[(.int .i64 j.Op),(.int .i64 j.K),(.string j.ku.kw),(.string j.ku.Word),a])] w ((i,Ob #[g] 215)::(c++[])) (λv B W'=>∃y u,v=(.tuple #[])∧B=((i,Ob #[y] 215)::(u++[]))∧lh 5 (mh .u8) 1 y r u)
 | 0=>by intros; rename_i h; simp only [sQ] at h; cases h
 | n+1=>HP (sQ n) (Gn n)
theorem LU (k:Nat) (i:Value) (u:List Int) (c:LO) (a:Formula) (j:Value) (r:(Bool×(List Int))) (w:World) {Q:lE} (Y:pn Q ((k,Ob #[i] 215)::(c++[])) w) (t:lh 5 (mh .u8) 1 i u c) (g:Sl kz 5 Q j a.Kids) (hm:zU u a=some r) :
  mi false pg0 385 [(.pointer (some ⟨k,0,none⟩)),(.agg #[(.int .i64 a.Op),(.int .i64 a.K),(.string a.ku.kw),(.string a.ku.Word),j])] w ((k,Ob #[i] 215)::(c++[])) (λv U W'=>∃M I,v=(.bool (r.1))∧U=((k,Ob #[M] 215)::(I++[]))∧lh 5 (mh .u8) 1 M r.2 I):=by
 refine xq Y 15 func385 rfl (λd=>sg ?_)
 obtain ⟨y,z,rfl⟩:=g.form
 let B:=(C2 a.Op a.K a.ku.kw a.ku.Word y a.Kids.length z)
 refine VE (lM d rfl (λW4 L d=>Wa (lS (Wm (V (xX gM rfl rfl) (Wm (Vg rfl rfl (kB rfl (kI d.has Mh B rfl bL aH)) (bS hm λO K hm=>UZ rfl rfl (Eg d kp (uf a (.slice y a.Kids.length z) _ _ (g.mono kT.mono d.kC) K) (λW7 d=>Vg rfl rfl (oF rfl) (V (lN rfl rfl) ?_)))))))))))
 refine ln (CI hm rfl (λJ hm=>?_) (λJ hm=>?_))
 ·refine sg (Wa (ln ?_))
  replace d:=d.kA (Db St)
  refine lJ (mL ?_)
  obtain rfl:=sj hm
  exact nC (v:=(.bool false)) rfl rfl ⟨_,_,rfl,(d.nK (Kb (Kr Sn))),i,c,rfl,rfl,t⟩
 refine kg (Wm (VA d Mh B bL aH (bS hm λP D hm=>?_)))
 refine VE (eM d (Cb (Pb Pz) (Cr (Qb Qz) Cn)) call390 (λE p=>((Gn kY) k i u c a (.slice y a.Kids.length z) _ _ E t (g.mono kT.mono p) D)) ?_)
 rintro _ a2 a3 Z d T A n ⟨N,H,x,rfl,G⟩
 obtain rfl:=x.symm
 replace d:=d.perm (Tb (Tr Tn))
 refine ln ?_
 replace d:=d.kA (Kb (Kr (Db St)))
 refine sg (Wa (lt ?_))
 obtain rfl:=sj hm
 exact nC (v:=(.bool true)) rfl rfl ⟨_,_,rfl,(d.nK (Kb (Kr Sn))),N,H,rfl,rfl,G⟩
theorem EM (a:Formula) (g:Value) (r:List Int) (w:World) (c:Sl kz 5 (hp w) g a.Kids) (hm:wm a=some r) :
  pH false pg0 376 [(.agg #[(.int .i64 a.Op),(.int .i64 a.K),(.string a.ku.kw),(.string a.ku.Word),g])] w 5 (mh .u8) 1 r:=by
 refine Dg 11 func376 rfl (λd=>sg ?_)
 obtain ⟨k,t,rfl⟩:=c.form
 refine VE (lM d rfl (λW4 P d=>Wa (lr (V (nP (v:=(.agg #[(.slice none 0 0)])) xV (nt zeroValue215 gL (Xk _ gL) kr)) (VE (lM d rfl (λW6 B d=>Wa (lr (Wm (VA d (Mt Mh) (C2 a.Op a.K a.ku.kw a.ku.Word k a.Kids.length t) bL aH ?_))))))))))
 refine bS hm λK D hm=>?_
 refine VE (eM d (Cb Pz (C0 Cn)) call385 (λO A=>(LU B (.slice none 0 0) ([]) [] a (.slice k a.Kids.length t) _ _ O (lh.nil _ _ _) (c.mono kT.mono A) D)) ?_)
 rintro _ U Y M d I E n ⟨H,N,i,rfl,y⟩
 obtain rfl:=i.symm
 replace d:=d.perm (Tb (Tr Tn))
 refine ln ?_
 replace d:=d.kA (Kb (Kr (Db St)))
 refine sg (Wm (bS hm λT x hm=>VE (Ct d call173 (pH.nx (Fx B H K.2 _ _ (y.sl (λ_=>rfl) (λb o u=>d.at_ (Mt (Ml u)))) (At.of (d.at_ Mh) _ rfl) x)) (λQ G Z z d J L j=>Wa (ln ?_)))))
 replace d:=d.kA (Kr (Db (Dr St)))
 refine lJ ?_
 obtain rfl:=sj hm
 exact nC (v:=G) rfl rfl ⟨_,z,rfl,d.uA (λp u=>(Ml u)) j.nd,j⟩
theorem JN (a:Formula) (j:Value) (c:Formula) (k:Value) (r:Int) (w:World) (g:Sl kz 5 (hp w) j a.Kids) (i:Sl kz 5 (hp w) k c.Kids) (hm:wi a c=some r) :
  lC false pg0 353 [(.agg #[(.int .i64 a.Op),(.int .i64 a.K),(.string a.ku.kw),(.string a.ku.Word),j]),(.agg #[(.int .i64 c.Op),(.int .i64 c.K),(.string c.ku.kw),(.string c.ku.Word),k])] w (.int .i64 r):=by
 refine cG 10 func353 rfl (λd=>sg ?_)
 obtain ⟨x,z,rfl⟩:=g.form
 refine VE (lM d rfl (λW4 L d=>?_))
 obtain ⟨y,B,rfl⟩:=i.form
 refine VE (lM d rfl (λW8 O d=>Wa (ln (kM ?_))))
 replace d:=d.drew
 have n:=d.has.kA (Kb (Kb Sn))
 refine lU n li (XH 0 rfl n (λ_ p=>kB rfl (kI p (Mt Mh) (C2 a.Op a.K a.ku.kw a.ku.Word x a.Kids.length z) rfl bL aH)) (XH 2 rfl n (λ_ p=>kB rfl (kI p Mh (C2 c.Op c.K c.ku.kw c.ku.Word y c.Kids.length B) rfl bL aH)) (bS hm λK H hm=>XE 1 rfl (Ct d call376 (EM a (.slice x a.Kids.length z) _ _ (g.mono kT.mono d.kC) H) (λY N a4 T d t A D=>?_)))))
 have n:=d.has.Ew t (Dr (Kb (Kb Sn)))
 refine ⟨n,(bS hm λM I hm=>XE 3 rfl (Ct d call376 (EM c (.slice y c.Kids.length B) _ _ (i.mono kT.mono (t.trans d.kC)) I) (λZ Q a5 U d u E G=>?_)))⟩
 have n:=d.has.Ew (t.trans u) (Dr (Dr (Kb (Kb Sn))))
 refine ⟨n,(bS hm λa3 J hm=>XE 4 rfl (Eg d call151 (lC.nx (Gc N K Q M _ _ (D.sl (λ_=>rfl) (λb o v=>d.at_ (Ma (Ml v)))) (G.sl (λ_=>rfl) (λb o v=>d.at_ (Ml v))) J)) (λa2 d=>?_)))⟩
 have n:=d.has.Ew (t.trans u) (Dr (Dr (Kb (Kb Sn))))
 refine ⟨n,(X 5 rfl n (oe rfl) (lX kr (kL ?_)))⟩
 exact lJ (rQ hm d)
theorem G8 (g:Value) (k r:List Formula) (w:World) {G:lE} (Y:pn G [] w) (u:Sl kz 5 G g k) (hm:yI k=some r) :
  ol false pg0 299 [g] w G [] (λv U μ1=>∃T I,v=T∧U=(I++[])∧mn 30 kz 5 μ1 T r I):=by
 refine Ak Y 9 func299 rfl (λd=>sg (Wa (lr (Wm (bS hm λZ Q hm=>?_)))))
 refine VE (eD d (cM _) call351 (λp=>ol.nx (GC g k _ _ p (u.mono kT.mono (lx.refl _)) Q)) ?_ (L0:=[]))
 rintro _ v7 R L9 d y A ⟨i,H,a,rfl,B⟩
 obtain rfl:=a.symm
 replace d:=d.perm (Tr Tn)
 refine Wa (lr (Wm (bS hm λa5 z hm=>?_)))
 refine VE (eD d (Cr Qz Cn) call352 (λp=>(Cv i Z H (.func (.func 353) #[] #[]) (λ(x:(Formula×Formula))=>wi x.1 x.2) _ _ p B ⟨353,#[],#[],rfl,call353,λW x vs r hs E hm=>by obtain ⟨_,_,rfl,M,N⟩:=E; obtain ⟨P,rfl,O⟩:=M.out; obtain ⟨t0,rfl,L⟩:=N.out; exact JN x.1 P x.2 t0 r W O L hm⟩ z)) ?_)
 rintro _ a6 a7 a3 d j n ⟨J,c,rfl,D⟩
 obtain rfl:=c.symm
 replace d:=d.perm (Tr Tn)
 refine lr (Wm (Wa (lt ?_)))
 obtain rfl:=sj hm
 exact nC (v:=i) rfl rfl ⟨_,_,_,rfl,(d.nK (Kr Sn)),(y.trans j),(A.trans n),(ST.nu d (pC.mem (Kr Sn))),i,J,rfl,rfl,D⟩
theorem DI (g:Value) (a0:List Formula) (x:LO) (Z:Value) (f1:(Formula×Formula)→Option Bool) (r:List Formula) (w:World) {μ0:lE} (h0:pn μ0 (x++[]) w) (B:mn 30 kz 5 μ0 g a0 x) (d2:vL pg0 Z μ0 (vY kz kz) (λ(r:Bool)=>(.bool r)) f1) (hm:sC a0 f1=some r) :
  ol false pg0 302 [g,Z] w μ0 (x++[]) (λv L1 μ1=>∃y1,v=y1∧L1=[]∧Sl kz 5 μ1 y1 (r)):=by
 refine Ak h0 66 func302 rfl (λd=>sg (Wa (lS (Wm (V (AE aN rfl B) (Wi rfl (ln (CI hm rfl (λi3 hm=>?_) (λi3 hm=>?_)))))))))
 ·refine sg (Wm (Wa (lt (mL ?_))))
  obtain rfl:=sj hm
  refine nC (v:=g) rfl rfl ?_
  obtain ⟨a1,d,i2,R,j0⟩:=ST.CO kT d B
  exact ⟨_,_,_,rfl,(d.nK Sn),i2,R,(ST.nu d (pC.mem Sn)),g,rfl,rfl,j0⟩
 refine kS (Wa (ln (ma (nn (λm E W=>∃t b7,ST false (keys (x++[])) w W μ0 (x++b7)∧E 0=g∧E 1=Z∧E 5=(.int .i64 t)∧oz a0 f1 m t=some r) kY ⟨1,_,(d.kA St),rfl,rfl,rfl,hm⟩ ?_))))
 rintro m E W ⟨t,b7,d,y,a3,G,a⟩
 cases m with
 | zero=>rw [oz] at a; cases a
 | succ h1=>
  refine kM (sg (Wh G (Wh y (V (AE aN rfl B) (Wi rfl (ln (CI a rfl (λd3 a=>?_) (λd3 a=>?_))))))))
  ·refine kn (kM (ma (kM ?_)))
   replace d:=d.drew
   have n:=d.has.kA (Kr Sn)
   refine lU n li (X 0 rfl n (kD a3) (X 1 rfl n (kD y) (X 2 rfl n (kD G) (bS a λh7 b2 a=>XQ 3 rfl n (nj (i:=t) kz.out aN aH rfl rfl B (kW b2) (kO b2)) (λk1 ⟨_,⟨h3,rfl,e7⟩,e0,i4⟩=>XH 4 rfl n (λ_ O=>kB rfl (lL (ql.hp _) (e0.mono (nV (λb o L=>O.2 b o (Ml L)))) bL aH)) (X 5 rfl n (kD y) (X 6 rfl n (kD G) (X 7 rfl n (lY rfl rfl rfl) (bS a λh8 b3 a=>XQ 8 rfl n (nj (i:=(wi0 .i64 (t-1))) kz.out aN aH rfl rfl B (kW b3) (kO b3)) (λk2 ⟨_,⟨h4,rfl,e8⟩,e1,i5⟩=>XH 9 rfl n (λ_ O=>kB rfl (lL (ql.hp _) (e1.mono (nV (λb o L=>O.2 b o (Ml L)))) bL aH)) (bS a λk7 e5 a=>XE 10 rfl (qQ (h7,h8) d d2 (lx.refl _) (vY.mk kT kT (kz.mk ⟨h3,rfl,e7⟩) (kz.mk ⟨h4,rfl,e8⟩) d.kC) rfl (qT rfl rfl) e5 (λj6 d=>?_)))))))))))))
   have n:=d.has.kA (Kr Sn)
   refine ⟨n,(lX kr (kL (CI a rfl (λd4 a=>?_) (λd4 a=>?_))))⟩
   ·refine sg (Wh y (Wh G (bS a λ_ a7 a=>VQ (Fu (i:=t) aN aH rfl rfl B (A6 a7) (AL a7)) (λc4 K=>Wa (lS (Wa (ln ?_)))))))
    refine CJ a (λT E W=>∃a2 b9,ST false (keys (x++[])) w W μ0 (a2++b9)∧E 0=g∧E 5=(.int .i64 T.2)∧mn 30 kz 5 μ0 g T.1 a2) (λT d8=>?_) ?_
    ·refine ma (nn (λm E W=>∃a5 J U u c0,ST false (keys (x++[])) w W μ0 (J++c0)∧E 0=g∧E 1=Z∧E 5=(.int .i64 U)∧E 6=c4∧E 7=(.int .i64 u)∧mn 30 kz 5 μ0 g a5 J∧oB t f1 m a5 U u=some T) kY ⟨a0,x,t,1,_,(d.kA St),y,a3,G,rfl,rfl,B,d8⟩ ?_)
     rintro m E W ⟨a5,J,U,u,c0,d,N,a4,Q,H,I,k,j⟩
     cases m with
     | zero=>rw [oB] at j; cases j
     | succ h2=>
      refine kM (sg (Wh I (Wh H (V (SH aN rfl K k) (Wi rfl (ln (CI j rfl (λd5 j=>?_) (λd5 j=>?_))))))))
      ·refine kn (kM (CJ j (λP E W=>∃M c1,ST false (keys (x++[])) w W μ0 (M++c1)∧E 0=g∧E 1=Z∧E 5=(.int .i64 P.2)∧E 6=c4∧E 7=(.int .i64 u)∧mn 30 kz 5 μ0 g P.1 M) (λP c=>?_) ?_))
       ·refine ma (kM ?_)
        replace d:=d.drew
        have n:=d.has.kA (Kr Sn)
        refine lU n li (X 0 rfl n (kD a4) (X 1 rfl n (kD H) (X 2 rfl n (kD I) (bS c λi0 b4 c=>XQ 3 rfl n (FI (i:=u) kz.out aN aH rfl rfl k K (kW b4) (kO b4)) (λk3 ⟨_,⟨h5,rfl,f4⟩,e2,i6⟩=>XH 4 rfl n (λ_ O=>kB rfl (lL (ql.hp _) (e2.mono (nV (λb o L=>O.2 b o (Ml L)))) bL aH)) (X 5 rfl n (kD H) (X 6 rfl n (kD I) (X 7 rfl n (lY rfl rfl rfl) (bS c λi1 b5 c=>XQ 8 rfl n (FI (i:=(wi0 .i64 (u-1))) kz.out aN aH rfl rfl k K (kW b5) (kO b5)) (λk4 ⟨_,⟨h6,rfl,f5⟩,e3,i7⟩=>XH 9 rfl n (λ_ O=>kB rfl (lL (ql.hp _) (e3.mono (nV (λb o L=>O.2 b o (Ml L)))) bL aH)) (bS c λk8 e6 c=>XE 10 rfl (qQ (i0,i1) d d2 (lx.refl _) (vY.mk kT kT (kz.mk ⟨h5,rfl,f4⟩) (kz.mk ⟨h6,rfl,f5⟩) d.kC) rfl (qT rfl rfl) e6 (λj8 d=>?_)))))))))))))
        have n:=d.has.kA (Kr Sn)
        refine ⟨n,(X 11 rfl n (oF rfl) (lX kr (kL (CI c rfl (λd6 c=>?_) (λd6 c=>?_)))))⟩
        ·refine sg (Wh N (Wh Q (Wh H (Wh I (bS c λc7 b6 c=>VQ (FI (i:=u) kz.out aN aH rfl rfl k K (kW b6) (kO b6)) (λk5 ⟨_,⟨l0,rfl,b1⟩,e4,i8⟩=>V (kB rfl (lL (ql.hp _) (e4.mono (nV (λb o L=>d.has.2 b o (Ml L)))) bL aH)) (bS c λl2 Y c=>VQ (nj (i:=U) kz.out aN aH rfl rfl k (kW Y) (kO Y)) (λk6 ⟨_,⟨l1,rfl,j3⟩,i9,d7⟩=>?_))))))))
         obtain ⟨f7,g0,rfl⟩:=b1.form
         refine VO (uc (x1:=c7) kT d k rfl rfl (kz.mk ⟨(.slice f7 c7.Kids.length g0),rfl,b1⟩) d7 (kO Y) aH (λj9 f8 d d1=>ln (kK (Wh Q (Wi rfl (Wa (lu (lG (kL ?_)))))))))
         obtain rfl:=sj c
         exact ⟨f8,_,(d.kA St),N,a4,rfl,H,I,d1⟩
        refine nf (lG (kL ?_))
        obtain rfl:=sj c
        exact ⟨J,_,(d.kA St),N,a4,Q,H,I,k⟩
       rintro ⟨g9,h9⟩ E W ⟨M,c1,d,g1,g2,g3,g4,g7,f3⟩ d9
       exact kK (Wh g7 (Wi rfl (Wa (ln ⟨h2,aQ _,g9,M,h9,(wi0 .i64 (u+1)),_,(d.kA St),g1,g2,g3,g4,rfl,f3,d9⟩))))
      refine mX (mD (mD (pE (kL ?_))))
      obtain rfl:=sj j
      exact ⟨J,_,(d.kA St),N,Q,k⟩
    rintro ⟨k0,c6⟩ E W ⟨a2,b9,d,c2,c3,b0⟩ D
    refine sg (Wh c2 (Wh c3 (bS D λ_ a8 D=>VQ (Fu (i:=c6) aN aH rfl rfl b0 (A6 a8) (AL a8)) (λk9 e9=>VO (Is (z:=(⟨0,0,K0,[]⟩:Formula)) (zs:=C9) kT d b0 (kz.mk ⟨(.slice none 0 0),rfl,(Sl.nil _ _ _)⟩) aN bR e9 rfl rfl (λj7 j5 d d0=>lr (Wh c2 (Wh c3 (bS D λ_ a9 D=>VQ (LF (i:=c6) aN aH rfl rfl d0 (A6 a9) (AL a9)) (λc5 f0=>?_))))))))))
    refine Wa (lt (pO (mL (mL (pO (mL ?_))))))
    obtain rfl:=sj D
    refine nC (v:=c5) rfl rfl ?_
    obtain ⟨l3,d,c8,p,f2⟩:=ST.CO kT d f0
    exact ⟨_,_,_,rfl,(d.nK Sn),c8,p,(ST.nu d (pC.mem Sn)),c5,rfl,rfl,f2⟩
   exact nf (lG (kL (kK (Wh G (Wi rfl (Wa (ln ⟨h1,aQ _,(wi0 .i64 (t+1)),_,(d.kA St),y,a3,rfl,a⟩)))))))
  refine mX (mD (mD (pE (kL (sg (Wh y (Wa (lt ?_))))))))
  obtain rfl:=sj a
  refine nC (v:=g) rfl rfl ?_
  obtain ⟨l4,d,c9,A,f6⟩:=ST.CO kT d B
  exact ⟨_,_,_,rfl,(d.nK Sn),c9,A,(ST.nu d (pC.mem Sn)),g,rfl,rfl,f6⟩
theorem wT (j:Nat) (a0:mj) (c:Int) (K:Value) (a2:List Formula) (r:(Formula×mj)) (w:World) {μ0:lE} (h0:pn μ0 ((j,Ol (mZ a0) 224)::[]) w) (b5:Sl kz 5 μ0 K a2) (hm:qL a0 c a2=some r) :
  ol false pg0 244 [(.pointer (some ⟨j,0,none⟩)),(.int .i64 c),K] w μ0 ((j,Ol (mZ a0) 224)::[]) (λv L1 μ1=>∃y1,v=(.agg #[(.int .i64 ((r.1).Op)),(.int .i64 ((r.1).K)),(.string (((r.1).ku).kw)),(.string (((r.1).ku).Word)),y1])∧L1=((j,Ol (mZ (r.2)) 224)::[])∧Sl kz 5 μ1 y1 ((r.1).Kids)):=by
 refine Ak h0 37 func244 rfl (λd=>sg (VE (ml d bR (λW2 b1 d=>lr (Wm (Wi rfl (VE (ml d zeroValue3 (λW4 b3 d=>VO (lA (.int .i64 (wi0 .i64 (5-c))) (#[(.int .i64 (wi0 .i64 (5-c)))]) d rfl rfl gz (Ld _ (wi0 .i64 (5-c))) nb rfl (λW5 d=>ln (kM ?_))))))))))))
 let L:=(wi0 .i64 (5-c))
 let R:Value:=(.agg (YX L).toArray)
 refine kK (Wm (Wm (bS hm λr6 d1 hm=>?_)))
 refine VE (eD d (cM _) call300 (λO=>ol.nx (Oq c K a2 _ _ O (b5.mono kT.mono (lx.refl _)) d1)) ?_ (L0:=[]))
 rintro _ f4 aa e2 d B n ⟨a7,H,rfl,a3⟩
 obtain rfl:=H.symm
 refine Wa (lS (Wm (V (qR (by exact pR rfl) rfl) (bS hm λf3 c1 hm=>VE (Eg d call266 (yi a7 r6 (.func (.func 301) #[] #[(.pointer (some ⟨b3,0,none⟩))]) (λ(x:Formula)=>tU x L) _ _ (a3.mono kT.mono d.kC) ⟨301,#[],#[(.pointer (some ⟨b3,0,none⟩))],rfl,call301,λW x vs r hs hR hm=>by obtain ⟨_,rfl,U⟩:=hR; obtain ⟨u0,rfl,k0⟩:=U.out; exact (EW x u0 b3 L r W k0 (At.of (hs _ _ (d.at_ Mh)) _ rfl) hm).nx⟩ c1) (λe5 d=>ln (CI hm rfl (λb6 hm=>?_) (λb6 hm=>?_))))))))
 ·refine sg (VB d Mh rfl rfl dJ (V (nP (v:=R) (og rfl) (nt bR cP (Ey _ cP) kr)) ?_))
  replace d:=d.perm (Nb (Pb Pz) Nz)
  refine VO (lA R ((YX L).toArray) d rfl rfl aH oc nb rfl (λe6 d=>ln ?_))
  replace d:=d.kA (Kb (Db St))
  refine lJ (mL ?_)
  obtain rfl:=sj hm
  exact rY (v:=R) rfl rfl (kI d.has Mh (YX L) rfl bL aH) ⟨_,_,_,rfl,(d.nK (Db (Kb Sn))),B,n,(ST.nu d (pC.mem (Db (Kb Sn)))),(.slice none 0 0),rfl,rfl,(Sl.nil _ _ _)⟩
 refine kn ?_
 replace d:=d.kA (Db St)
 refine sg (Wm (bS hm λd2 c2 hm=>?_))
 refine VE (eD d (cM _) call299 (λO=>(G8 a7 r6 _ _ O (a3.mono kT.mono (lx.refl _)) c2)) ?_ (L0:=[]))
 rintro _ f5 f9 e3 d N p ⟨d5,c7,I,rfl,c4⟩
 obtain rfl:=I.symm
 replace d:=d.perm (Tr Tn)
 refine bS hm λz c3 hm=>?_
 refine VE (eD d (Cr Qz Cn) call302 (λO=>(DI d5 d2 c7 (.func (.func 61) #[] #[]) (λ(x:(Formula×Formula))=>pu kY x.1 x.2) _ _ O c4 ⟨61,#[],#[],rfl,call61,λW x vs r hs hR hm=>by obtain ⟨_,_,rfl,U,d0⟩:=hR; obtain ⟨u0,rfl,k0⟩:=U.out; obtain ⟨t0,rfl,j0⟩:=d0.out; exact (yG kY) x.1 u0 x.2 t0 r W k0 j0 hm⟩ c3)) ?_)
 rintro _ f6 d7 e4 d Q A ⟨d6,J,rfl,y⟩
 obtain rfl:=J.symm
 refine Wa (ln (kM (CJ hm (λa6 E W=>∃a5,ST false (keys ((j,Ol (mZ a0) 224)::[])) w W d7 ((b1,Ol C9 30)::((j,Ol (mZ a6) 224)::a5))∧E 1=(.int .i64 c)∧E 6=(.pointer (some ⟨b1,0,none⟩))∧E 8=d6) (λa6 u=>?_) ?_)))
 ·refine sg (Wm (V (nv aN rfl y) (Wi rfl (ln (CI u rfl (λb9 u=>?_) (λb9 u=>?_))))))
  ·refine kK (Wm (Wn (Wf Q8 ?_)))
   replace d:=d.perm (Nb (Pb Pz) Nz)
   refine VO (lA (.int .i64 12) ((mZ (⟨12⟩:mj)).toArray) d rfl rfl sizeOf109 (Ld _ 12) nb rfl (λf1 d=>ln ?_))
   obtain rfl:=sj u
   exact ⟨_,(d.kA (Sb (Pb Pz) St)),rfl,rfl,rfl⟩
  refine kn ?_
  obtain rfl:=sj u
  exact ⟨_,(d.kA St),rfl,rfl,rfl⟩
 rintro f8 E W ⟨a5,d,c9,M,T⟩ g
 refine kM (sg (Wh T (V (nv aN rfl y) (Wi rfl (ln (CI g rfl (λb7 g=>?_) (λb7 g=>?_)))))))
 ·refine sg (Wh T (bS g λa Z g=>VQ (nN (i:=0) (x0:=a) kz.out aN aH rfl rfl y (kW Z) (kO Z)) (λf2 ⟨_,⟨f7,rfl,Y⟩,c0⟩=>V (kB rfl (lL d.has c0 bL aH)) ?_)))
  obtain ⟨D,G,rfl⟩:=Y.form
  let a4:=(C2 a.Op a.K a.ku.kw a.ku.Word D a.Kids.length G)
  refine VO (lA (.agg a4.toArray) (a4.toArray) d M rfl aH oc nb rfl (λe9 d=>lt (mL ?_)))
  obtain rfl:=sj g
  exact rY (v:=(.agg a4.toArray)) rfl M (kI d.has Mh a4 rfl bL aH) ⟨_,_,_,rfl,(d.nK (Db (Kb Sn))),((B.trans N).trans Q),((n.trans p).trans A),(ST.nu d (pC.mem (Db (Kb Sn)))),(.slice D a.Kids.length G),rfl,rfl,Y⟩
 refine kg (Wh c9 (Wh T ?_))
 obtain ⟨k,t,rfl⟩:=y.form
 let a9:Value:=(.slice k z.length t)
 let P:Value:=(.agg #[(.int .i64 c),(.int .i64 0),(.string zS),(.string zS),a9])
 refine V (nP (v:=P) (vC rfl rfl) (nt bR cP (Ey _ cP) kr)) (VO (lA P (#[(.int .i64 c),(.int .i64 0),(.string zS),(.string zS),a9]) d M rfl aH oc nb rfl (λf0 d=>lt ?_)))
 obtain rfl:=sj g
 exact rY (v:=P) rfl M (kI d.has Mh [(.int .i64 c),(.int .i64 0),(.string zS),(.string zS),a9] rfl bL aH) ⟨_,_,_,rfl,(d.nK (Db (Kb Sn))),((B.trans N).trans Q),((n.trans p).trans A),(ST.nu d (pC.mem (Db (Kb Sn)))),a9,rfl,rfl,y⟩
theorem EO (G:Nat) (a0:mj) (a1:Int) (c2:Value) (a2:List Formula) (r:(Formula×mj)) (w:World) {μ0:lE} (h0:pn μ0 ((G,Ol (mZ a0) 224)::[]) w) (c1:Sl kz 5 μ0 c2 a2) (hm:tV a0 a1 a2=some r) :
  ol false pg0 243 [(.pointer (some ⟨G,0,none⟩)),(.int .i64 a1),c2] w μ0 ((G,Ol (mZ a0) 224)::[]) (λv L1 μ1=>∃y1,v=(.agg #[(.int .i64 ((r.1).Op)),(.int .i64 ((r.1).K)),(.string (((r.1).ku).kw)),(.string (((r.1).ku).Word)),y1])∧L1=((G,Ol (mZ (r.2)) 224)::[])∧Sl kz 5 μ1 y1 ((r.1).Kids)):=by
 let j8:=((mZ a0).toArray:Array Value)
 refine Ak h0 58 func243 rfl (λd=>sg (VE (ml d bR (λW2 b1 d=>lr (Wa (lS (Wm ?_)))))))
 refine V (nv aN rfl c1) (Wm (ln (mV (λi E W=>∃x K J N c0,(E 12= .int .i64 (i:Nat)∧E 11= .int .i64 (a2.length:Nat))∧ST false (keys ((G,Obj.cells j8 224 (0,0))::[])) w W μ0 ((b1,Ol C9 30)::((G,Obj.cells j8 224 (0,0))::(N++c0)))∧E 0=(.pointer (some ⟨G,0,none⟩))∧E 1=(.int .i64 x)∧E 6=(.pointer (some ⟨b1,0,none⟩))∧E 7=K∧E 10=c2∧mn 30 kz 5 μ0 K J N∧ow a0 (a2.drop i) x J=some r) a2.length c1.len ⟨a1,(.slice none 0 0),([]),[],_,⟨rfl,rfl⟩,(d.kA St),rfl,rfl,rfl,rfl,rfl,(mn.nil _ _ _ _),hm⟩ dc dc dc (λ_ _ _ h=>by obtain ⟨_,_,_,_,_,ae,_⟩:=h; exact ae) ?_ ?_)))
 ·rintro h2 E W f2 ⟨x,K,J,N,c0,⟨eI,eN⟩,d,U,H,u,I,b0,D,a⟩
  obtain ⟨c,h8,g8,g7,b7⟩:=mC f2
  rw [g8] at a
  refine bg (VQ (nN (i:=(h2:Int)) (x0:=c) kz.out aN aH b0 eI c1 (aX _) g7) (λk7 ⟨_,⟨l0,rfl,Y⟩,f3⟩=>V (kB rfl (lL d.has f3 bL aH)) (VE (ml d bR (λi6 k4 d=>?_)))))
  obtain ⟨y,z,rfl⟩:=Y.form
  let j6:Value:=(.slice y c.Kids.length z)
  let b8:=(C2 c.Op c.K c.ku.kw c.ku.Word y c.Kids.length z)
  refine VO (lA (.agg b8.toArray) (b8.toArray) d rfl rfl aH oc nb rfl (λi7 d=>ln (bg (VA d Mh b8 bL aH (bS a λk8 f4 a=>VE (Eg d call297 (lC.nx (DK c j6 2 _ _ (Y.mono kT.mono d.kC) f4)) (λi8 d=>Wa (ln (CI a rfl (λe5 a=>?_) (λe5 a=>?_))))))))))
  ·refine kK (Wh H (Wi rfl (Wa (lu (lG (lG (kL ?_)))))))
   replace d:=d.kA (Db St)
   exact ⟨eI,(wi0 .i64 (x-1)),K,J,N,_,⟨rfl,eN⟩,(d.kA St),U,rfl,u,I,b0,D,(by rw [b7]; exact a)⟩
  refine sg (VA d Mh b8 bL aH (bS a λk9 f5 a=>VE (Eg d call297 (lC.nx (DK c j6 3 _ _ (Y.mono kT.mono d.kC) f5)) (λi9 d=>V (oF rfl) (Wa (ln (CI a rfl (λe6 a=>?_) (λe6 a=>?_))))))))
  ·refine kK (Wh I (VA d Mh b8 bL aH (VE (lZ (cs:=b8.toArray) d (og rfl) (oE aN aH bR) (λj0 k5 d=>?_)))))
   replace d:=d.perm (Nr (Qb (Qb (Qb (Qb Qz)))) Nz)
   refine bS a λh3 e7 a=>VE (vG (B:=N) kT d dc aN rF.1 rF.2.1 rfl rF.2.2.1 rF.2.2.2 rfl rfl D (Dj.lit kT (l:=[c]) (.cons (ys:=C2 c.Op c.K c.ku.kw c.ku.Word y c.Kids.length z) (kz.mk ⟨j6,rfl,Y⟩) .nil) rfl nb (d.at_ (Ma Mh))) e7 (λj3 h4 g9 d e4=>Wa (lu (lG (lG (kL ?_))))))
   replace d:=d.kA (Kr (Db (Db St)))
   exact ⟨eI,x,h4,h3,g9,_,⟨rfl,eN⟩,(d.kA (Sb (Pr Pz) (Sb (Pr Pz) St))),U,H,u,rfl,b0,e4,(by rw [b7]; exact a)⟩
  refine nf (lG (lG (kL ?_)))
  replace d:=d.kA (Db St)
  exact ⟨eI,x,K,J,N,_,⟨rfl,eN⟩,(d.kA St),U,H,u,I,b0,D,(by rw [b7]; exact a)⟩
 rintro E W ⟨x,K,J,N,c0,⟨eI,eN⟩,d,U,H,u,I,b0,D,a⟩
 rw [bo] at a
 refine kL (kM (bg (Wh H (Wi rfl (Wa (ln (CI a rfl (λe8 a=>?_) (λe8 a=>?_))))))))
 ·refine sg (bS a λg f6 a=>?_)
  let j2:Value:=(.string (((g).ku).Word))
  let h9:Value:=(.string (((g).ku).kw))
  refine VE (eD d (cM _) call115 (λn=>ol.nx (Ln  _ _ n  f6)) ?_ (L0:=[]))
  rintro _ l1 m2 i0 d c9 p ⟨l6,b2,rfl,c3⟩
  obtain rfl:=b2.symm
  obtain ⟨Z,a6,rfl⟩:=c3.form
  let g5:Value:=(.slice Z ((g).Kids).length a6)
  let e0:Value:=(.agg #[(.int .i64 ((g).Op)),(.int .i64 ((g).K)),h9,j2,g5])
  refine VO (lA e0 (#[(.int .i64 ((g).Op)),(.int .i64 ((g).K)),h9,j2,g5]) d u rfl aH oc nb rfl (λj5 d=>ln ?_))
  replace d:=d.kA (Kb (Kb (Dr St)))
  refine lJ (pO (mL ?_))
  obtain rfl:=sj a
  exact rY (v:=e0) rfl u (kI d.has Mh [(.int .i64 ((g).Op)),(.int .i64 ((g).K)),h9,j2,g5] rfl bL aH) ⟨_,_,_,rfl,(d.nK (Db (Kb Sn))),c9,p,(ST.nu d (pC.mem (Db (Kb Sn)))),g5,rfl,rfl,c3⟩
 refine sg (Wh H (Wh I (V (AE aN rfl D) (Wi rfl (Wa (ln (CI a rfl (λe9 a=>?_) (λe9 a=>?_))))))))
 ·refine sg (bS a λj f7 a=>?_)
  let j4:Value:=(.string (((j).ku).Word))
  let j1:Value:=(.string (((j).ku).kw))
  refine VE (eD d (cM _) call298 (λn=>ol.nx (MQ  _ _ n  f7)) ?_ (L0:=[]))
  rintro _ l2 m3 i1 d d0 A ⟨l7,b3,rfl,c4⟩
  obtain rfl:=b3.symm
  obtain ⟨a3,a7,rfl⟩:=c4.form
  let e3:Value:=(.slice a3 ((j).Kids).length a7)
  let d9:Value:=(.agg #[(.int .i64 ((j).Op)),(.int .i64 ((j).K)),j1,j4,e3])
  refine VO (lA d9 (#[(.int .i64 ((j).Op)),(.int .i64 ((j).K)),j1,j4,e3]) d u rfl aH oc nb rfl (λj7 d=>ln ?_))
  replace d:=d.kA (Kb (Kb (Dr St)))
  refine lJ (pO (mL ?_))
  obtain rfl:=sj a
  exact rY (v:=d9) rfl u (kI d.has Mh [(.int .i64 ((j).Op)),(.int .i64 ((j).K)),j1,j4,e3] rfl bL aH) ⟨_,_,_,rfl,(d.nK (Db (Kb Sn))),d0,A,(ST.nu d (pC.mem (Db (Kb Sn)))),e3,rfl,rfl,c4⟩
 refine sg (Wh H (Wh I (V (AE aN rfl D) (Wi rfl (Wa (ln (CI a rfl (λf0 a=>?_) (λf0 a=>?_))))))))
 ·refine sg (Wh U (Wh I ?_))
  replace d:=d.perm (Nr (Qb (Qb Qz)) Nz)
  obtain ⟨m4,d,d1,L,g1⟩:=ST.CO kT d D
  refine bS a λk f8 a=>?_
  let h6:Value:=(.string (((k.1).ku).Word))
  let h1:Value:=(.string (((k.1).ku).kw))
  refine VE (eD d (Cb (Pb Pz) Cn) call244 (λn=>(wT G a0 2 K J _ _ n (g1.mono kT.mono (lx.refl _)) f8)) ?_)
  rintro _ l3 m5 i2 d d2 O ⟨l8,b4,rfl,c5⟩
  obtain rfl:=b4.symm
  replace d:=d.perm (Tb Tn)
  obtain ⟨a4,a8,rfl⟩:=c5.form
  let e1:Value:=(.slice a4 ((k.1).Kids).length a8)
  let c8:Value:=(.agg #[(.int .i64 ((k.1).Op)),(.int .i64 ((k.1).K)),h1,h6,e1])
  replace d:=d.perm (Nb (Pb Pz) Nz)
  refine VO (lA c8 (#[(.int .i64 ((k.1).Op)),(.int .i64 ((k.1).K)),h1,h6,e1]) d u rfl aH oc nb rfl (λj9 d=>lt (pO (mL ?_))))
  obtain rfl:=sj a
  exact rY (v:=c8) rfl u (kI d.has Mh [(.int .i64 ((k.1).Op)),(.int .i64 ((k.1).K)),h1,h6,e1] rfl bL aH) ⟨_,_,_,rfl,(d.nK (Db (Kb Sn))),(d1.trans d2),(L.trans O),(ST.nu d (pC.mem (Db (Kb Sn)))),e1,rfl,rfl,c5⟩
 refine sg (Wh H (Wi rfl (Wa (ln (CI a rfl (λf1 a=>?_) (λf1 a=>?_))))))
 ·refine sg (Wh U (Wh I ?_))
  replace d:=d.perm (Nr (Qb (Qb Qz)) Nz)
  obtain ⟨m6,d,d3,P,g2⟩:=ST.CO kT d D
  refine bS a λt f9 a=>?_
  let h7:Value:=(.string (((t.1).ku).Word))
  let h5:Value:=(.string (((t.1).ku).kw))
  refine VE (eD d (Cb (Pb Pz) Cn) call244 (λn=>(wT G a0 3 K J _ _ n (g2.mono kT.mono (lx.refl _)) f9)) ?_)
  rintro _ l4 m7 i3 d d4 R ⟨l9,b5,rfl,c6⟩
  obtain rfl:=b5.symm
  replace d:=d.perm (Tb Tn)
  obtain ⟨a5,a9,rfl⟩:=c6.form
  let e2:Value:=(.slice a5 ((t.1).Kids).length a9)
  let d8:Value:=(.agg #[(.int .i64 ((t.1).Op)),(.int .i64 ((t.1).K)),h5,h7,e2])
  replace d:=d.perm (Nb (Pb Pz) Nz)
  refine VO (lA d8 (#[(.int .i64 ((t.1).Op)),(.int .i64 ((t.1).K)),h5,h7,e2]) d u rfl aH oc nb rfl (λk1 d=>lt (pO (mL ?_))))
  obtain rfl:=sj a
  exact rY (v:=d8) rfl u (kI d.has Mh [(.int .i64 ((t.1).Op)),(.int .i64 ((t.1).K)),h5,h7,e2] rfl bL aH) ⟨_,_,_,rfl,(d.nK (Db (Kb Sn))),(d3.trans d4),(P.trans R),(ST.nu d (pC.mem (Db (Kb Sn)))),e2,rfl,rfl,c6⟩
 refine nf (lG (kL (sg (Wh H (Wh I ?_)))))
 replace d:=d.perm (Nr (Qb (Qb Qz)) Nz)
 obtain ⟨m8,d,d5,aa,g3⟩:=ST.CO kT d D
 refine bS a λT g0 a=>?_
 refine VE (eD d (cM _) call299 (λn=>(G8 K J _ _ n (g3.mono kT.mono (lx.refl _)) g0)) ?_ (L0:=[]))
 rintro _ l5 m9 i4 d d6 ab ⟨m0,i5,b6,rfl,c7⟩
 obtain rfl:=b6.symm
 replace d:=d.perm (Tr Tn)
 obtain ⟨M,Q,rfl⟩:=c7.form
 let g6:Value:=(.slice M T.length Q)
 let b9:Value:=(.agg #[(.int .i64 4),(.int .i64 x),(.string zS),(.string zS),g6])
 refine V (nP (v:=b9) (BD rfl rfl rfl) (nt bR cP (Ey _ cP) kr)) ?_
 replace d:=d.perm (Nb (Pr Pz) Nz)
 refine VO (lA b9 (#[(.int .i64 4),(.int .i64 x),(.string zS),(.string zS),g6]) d u rfl aH oc nb rfl (λk3 d=>lt ?_))
 obtain rfl:=sj a
 refine rY (v:=b9) rfl u (kI d.has Mh [(.int .i64 4),(.int .i64 x),(.string zS),(.string zS),g6] rfl bL aH) ?_
 replace d:=d.perm (Nr (Qb Qz) Nz)
 obtain ⟨n0,d,d7,ad,g4⟩:=ST.CO kT d c7
 exact ⟨_,_,_,rfl,(d.nK (Db (Kb Sn))),((d5.trans d6).trans d7),((aa.trans ab).trans ad),(ST.nu d (pC.mem (Db (Kb Sn)))),g6,rfl,rfl,g4⟩
theorem DO (c9:mj→Formula→Option (Formula×mj)) (e9:∀(u:Nat) (a0:mj) (a:Formula) (y:Value) (r:(Formula×mj)) (w:World) {μ0:lE} (h0:pn μ0 ((u,Ol (mZ a0) 224)::[]) w) (x:Sl kz 5 μ0 y a.Kids),c9 a0 a=some r→ol false pg0 181 [(.pointer (some ⟨u,0,none⟩)),(.agg #[(.int .i64 a.Op),(.int .i64 a.K),(.string a.ku.kw),(.string a.ku.Word),y])] w μ0 ((u,Ol (mZ a0) 224)::[]) (λv L1 μ1=>∃y1,v=(.agg #[(.int .i64 ((r.1).Op)),(.int .i64 ((r.1).K)),(.string (((r.1).ku).kw)),(.string (((r.1).ku).Word)),y1])∧L1=((u,Ol (mZ (r.2)) 224)::[])∧Sl kz 5 μ1 y1 ((r.1).Kids))) (u:Nat) (a0:mj) (a:Formula) (y:Value) (r:(Formula×mj)) (w:World) {μ0:lE} (h0:pn μ0 ((u,Ol (mZ a0) 224)::[]) w) (x:Sl kz 5 μ0 y a.Kids) (hm:vg c9 a0 a=some r) :
  ol false pg0 181 [(.pointer (some ⟨u,0,none⟩)),(.agg #[(.int .i64 a.Op),(.int .i64 a.K),(.string a.ku.kw),(.string a.ku.Word),y])] w μ0 ((u,Ol (mZ a0) 224)::[]) (λv L1 μ1=>∃y1,v=(.agg #[(.int .i64 ((r.1).Op)),(.int .i64 ((r.1).K)),(.string (((r.1).ku).kw)),(.string (((r.1).ku).Word)),y1])∧L1=((u,Ol (mZ (r.2)) 224)::[])∧Sl kz 5 μ1 y1 ((r.1).Kids)):=by
 let d0:=((u,Ol (mZ a0) 224)::[])
 refine Ak h0 39 func181 rfl (λd=>sg ?_)
 obtain ⟨A1,c2,rfl⟩:=x.form
 let R:=(C2 a.Op a.K a.ku.kw a.ku.Word A1 a.Kids.length c2)
 refine VE (lM d rfl (λW4 b3 d=>VE (ml d bR (λW6 b5 d=>lS (Wf xc (VB d (Mt Mh) rfl rfl dJ (Wi rfl (ln (CI hm rfl (λf8 hm=>?_) (λf8 hm=>?_))))))))))
 ·refine sg (VA d (Mt Mh) R bL aH (VO (lA (.agg R.toArray) (R.toArray) d rfl rfl aH oc nb rfl (λW8 d=>ln ?_))))
  replace d:=d.kA (Kb (Db St))
  refine lJ (mL ?_)
  obtain rfl:=sj hm
  exact rY (v:=(.agg R.toArray)) rfl rfl (kI d.has Mh R rfl bL aH) ⟨_,_,_,rfl,(d.nK (Db (Kb Sn))),(lx.refl _),Lo.refl,(ST.nu d (pC.mem (Db (Kb Sn)))),(.slice A1 a.Kids.length c2),rfl,rfl,x⟩
 refine kg (Wa (lS (Wf vA (VB d (Mt Mh) rfl rfl fJ (V (nv aN rfl x) (Wm (lu ?_)))))))
 refine kL (mV (λi E W=>∃I H T D J b7,(E 15= .int .i64 (i:Nat)∧E 14= .int .i64 (a.Kids.length:Nat))∧lx μ0 J∧Lo (keys d0) w μ0 J∧ST false (keys d0) w W J ((u,Ol (mZ D) 224)::((b5,Ol C9 30)::((b3,Ol R 30)::(T++b7))))∧E 0=(.pointer (some ⟨u,0,none⟩))∧E 3=(.pointer (some ⟨b3,0,none⟩))∧E 4=(.pointer (some ⟨b5,0,none⟩))∧E 5=I∧E 13=(.slice A1 a.Kids.length c2)∧mn 30 kz 5 J I H T∧qg c9 a (a.Kids.drop i) H D=some r) a.Kids.length x.len ⟨(.slice none 0 0),([]),[],a0,μ0,_,⟨rfl,rfl⟩,(lx.refl _),Lo.refl,(d.kA (Sb (Pb (Pb Pz)) St)),rfl,rfl,rfl,rfl,rfl,(mn.nil _ _ _ _),hm⟩ dc dc dc (λ_ _ _ h=>by obtain ⟨_,_,_,_,_,_,aa,_⟩:=h; exact aa) ?_ ?_)
 ·rintro f0 E W d7 ⟨I,H,T,D,J,b7,⟨eI,eN⟩,z,n,d,a2,a3,G,b0,b9,K,c⟩
  obtain ⟨t,f9,e5,e4,e6⟩:=mC d7
  rw [e5] at c
  refine bg (VQ (nN (i:=(f0:Int)) (x0:=t) kz.out aN aH b9 eI (x.mono kT.mono z) (aX _) e4) (λh7 ⟨_,⟨h8,rfl,c0⟩,d8⟩=>V (kB rfl (lL d.has d8 bL aH)) (VE (ml d bR (λg3 h5 d=>?_)))))
  obtain ⟨a7,a9,rfl⟩:=c0.form
  let a6:=(C2 t.Op t.K t.ku.kw t.ku.Word a7 t.Kids.length a9)
  refine VO (lA (.agg a6.toArray) (a6.toArray) d rfl rfl aH oc nb rfl (λg4 d=>ln (kK (Wh b0 (Wh a2 (VA d Mh a6 bL aH (bS c λg d9 c=>?_)))))))
  refine VE (eD d (Cb (Pb Pz) Cn) call181 (λhh=>(e9 u D t (.slice a7 t.Kids.length a9) _ _ hh (c0.mono kT.mono (lx.refl _)) d9)) ?_)
  rintro _ h9 f4 g0 d b6 p ⟨i2,b1,rfl,c1⟩
  obtain rfl:=b1.symm
  replace d:=d.perm (Tb Tn)
  obtain ⟨M,U,rfl⟩:=c1.form
  let d1:Value:=(.slice M ((g.1).Kids).length U)
  refine VE (lZ (cs:=#[(.int .i64 ((g.1).Op)),(.int .i64 ((g.1).K)),(.string (((g.1).ku).kw)),(.string (((g.1).ku).Word)),d1]) d (og rfl) (oE aN aH bR) (λg8 h6 d=>?_))
  replace d:=d.perm (Nr (Qb (Qb (Qb (Qb (Qb Qz))))) Nz)
  refine bS c λf1 d5 c=>VE (vG (B:=T) kT d dc aN rF.1 rF.2.1 rfl rF.2.2.1 rF.2.2.2 rfl rfl (K.mono kT b6) (Dj.lit kT (l:=[g.1]) (.cons (ys:=[(.int .i64 ((g.1).Op)),(.int .i64 ((g.1).K)),(.string (((g.1).ku).kw)),(.string (((g.1).ku).Word)),d1]) (kz.mk ⟨d1,rfl,c1⟩) .nil) rfl nb (d.at_ (Ma Mh))) d5 (λg9 f2 e8 d d4=>Wa (lu (lG (kL ?_)))))
  replace d:=d.kA (Kr (Db (Kb (Db St))))
  exact ⟨eI,f2,f1,e8,g.2,f4,_,⟨rfl,eN⟩,(z.trans b6),(n.trans p),(d.kA (Sb (Pr Pz) (Sb (Pr Pz) (Sb (Pr Pz) St)))),a2,a3,G,rfl,b9,d4,(by rw [e6]; exact c)⟩
 rintro E W ⟨I,H,T,D,J,b7,⟨eI,eN⟩,z,n,d,a2,a3,G,b0,b9,K,c⟩
 rw [bo] at c
 refine kL (kM (sg (V (kN xc a3) (VB d (Mt (Mt Mh)) rfl rfl dJ (Wi rfl (ln (CI c rfl (λd6 c=>?_) (λd6 c=>?_))))))))
 ·refine sg (Wh a2 (V (kN Bw a3) (VB d (Mt (Mt Mh)) rfl rfl dJ (Wh b0 ?_))))
  replace d:=d.perm (Nr (Qb (Qb (Qb Qz))) Nz)
  obtain ⟨i5,d,c5,A,e2⟩:=ST.CO kT d K
  refine bS c λj e0 c=>?_
  let f3:Value:=(.string (((j.1).ku).Word))
  let d3:Value:=(.string (((j.1).ku).kw))
  refine VE (eD d (Cb Pz Cn) call243 (λhh=>(EO u D a.K I H _ _ hh (e2.mono kT.mono (lx.refl _)) e0)) ?_)
  rintro _ i0 i6 g1 d c6 L ⟨i3,b2,rfl,c3⟩
  obtain rfl:=b2.symm
  replace d:=d.perm (Tb Tn)
  obtain ⟨N,Y,rfl⟩:=c3.form
  let b8:Value:=(.slice N ((j.1).Kids).length Y)
  let a5:Value:=(.agg #[(.int .i64 ((j.1).Op)),(.int .i64 ((j.1).K)),d3,f3,b8])
  replace d:=d.perm (Nb (Pb Pz) Nz)
  refine VO (lA a5 (#[(.int .i64 ((j.1).Op)),(.int .i64 ((j.1).K)),d3,f3,b8]) d G rfl aH oc nb rfl (λh2 d=>ln ?_))
  replace d:=d.kA (Kb (Kb (Db St)))
  refine lJ (mL ?_)
  obtain rfl:=sj c
  exact rY (v:=a5) rfl G (kI d.has Mh [(.int .i64 ((j.1).Op)),(.int .i64 ((j.1).K)),d3,f3,b8] rfl bL aH) ⟨_,_,_,rfl,(d.nK (Db (Kb Sn))),((z.trans c5).trans c6),((n.trans A).trans L),(ST.nu d (pC.mem (Db (Kb Sn)))),b8,rfl,rfl,c3⟩
 refine kg (Wh a2 (V (kN xc a3) (VB d (Mt (Mt Mh)) rfl rfl dJ (Wh b0 ?_))))
 replace d:=d.perm (Nr (Qb (Qb (Qb Qz))) Nz)
 obtain ⟨i7,d,c7,O,e3⟩:=ST.CO kT d K
 refine bS c λk e1 c=>?_
 let f5:Value:=(.int .i64 ((k.1).Op))
 let e7:Value:=(.string (((k.1).ku).Word))
 let d2:Value:=(.string (((k.1).ku).kw))
 refine VE (eD d (Cb Pz Cn) call244 (λhh=>(wT u D a.Op I H _ _ hh (e3.mono kT.mono (lx.refl _)) e1)) ?_)
 rintro _ i1 i8 g2 d c8 P ⟨i4,b4,rfl,c4⟩
 obtain rfl:=b4.symm
 replace d:=d.perm (Tb Tn)
 obtain ⟨Q,Z,rfl⟩:=c4.form
 let a8:Value:=(.slice Q ((k.1).Kids).length Z)
 let a4:Value:=(.agg #[f5,(.int .i64 ((k.1).K)),d2,e7,a8])
 replace d:=d.perm (Nb (Pb Pz) Nz)
 refine VO (lA a4 (#[f5,(.int .i64 ((k.1).K)),d2,e7,a8]) d G rfl aH oc nb rfl (λh4 d=>ln ?_))
 replace d:=d.kA (Kb (Kb (Db St)))
 refine lJ ?_
 obtain rfl:=sj c
 exact rY (v:=a4) rfl G (kI d.has Mh [f5,(.int .i64 ((k.1).K)),d2,e7,a8] rfl bL aH) ⟨_,_,_,rfl,(d.nK (Db (Kb Sn))),((z.trans c7).trans c8),((n.trans O).trans P),(ST.nu d (pC.mem (Db (Kb Sn)))),a8,rfl,rfl,c4⟩
theorem Bb:∀(n:Nat) (c:Nat) (j:mj) (g:Formula) (a:Value) (r:(Formula×mj)) (w:World) {k:lE} (y:pn k ((c,Ol (mZ j) 224)::[]) w) (i:Sl kz 5 k a g.Kids) (_:pA n j g=some r),
  ol false pg0 181 [(.pointer (some ⟨c,0,none⟩)),(.agg #[(.int .i64 g.Op),(.int .i64 g.K),(.string g.ku.kw),(.string g.ku.Word),a])] w k ((c,Ol (mZ j) 224)::[]) (λv u x=>∃t,v=(.agg #[(.int .i64 ((r.1).Op)),(.int .i64 ((r.1).K)),(.string (((r.1).ku).kw)),(.string (((r.1).ku).Word)),t])∧u=((c,Ol (mZ (r.2)) 224)::[])∧Sl kz 5 x t ((r.1).Kids))
 | 0=>by intros; rename_i h; simp only [pA] at h; cases h
 | n+1=>DO (pA n) (Bb n)
theorem J8 (c:Formula) (u:Value) (r:(Formula×Int)) (w:World) {Z:lE} (h0:pn Z [] w) (k:Sl kz 5 Z u c.Kids) (hm:BA c=some r) :
  ol false pg0 114 [(.agg #[(.int .i64 c.Op),(.int .i64 c.K),(.string c.ku.kw),(.string c.ku.Word),u])] w Z [] (λv L1 μ1=>∃R,v=(.tuple #[(.agg #[(.int .i64 ((r.1).Op)),(.int .i64 ((r.1).K)),(.string (((r.1).ku).kw)),(.string (((r.1).ku).Word)),R]),(.int .i64 (r.2))])∧L1=[]∧Sl kz 5 μ1 R ((r.1).Kids)):=by
 refine Ak h0 27 func114 rfl (λd=>sg ?_)
 obtain ⟨H,I,rfl⟩:=k.form
 let O:=(C2 c.Op c.K c.ku.kw c.ku.Word H c.Kids.length I)
 refine VE (lM d rfl (λW4 b3 d=>VE (ml d bR (λW6 P d=>Wa (lS (VA d (Mt Mh) O bL aH (bS hm λr7 a5 hm=>VE (Eg d kp (uf c (.slice H c.Kids.length I) _ _ (k.mono kT.mono d.kC) a5) (λW9 d=>V (oF rfl) (ln (CI hm rfl (λQ hm=>?_) (λQ hm=>?_))))))))))))
 ·refine sg (V (nP (v:=(.agg C9.toArray)) xV (nt bR cP (Ey _ cP) kr)) (VO (lA (.agg C9.toArray) (C9.toArray) d rfl rfl aH oc nb rfl (λb6 d=>Wa (ln ?_)))))
  replace d:=d.kA (Kb (Db St))
  refine lJ (mL ?_)
  obtain rfl:=sj hm
  exact zx (v0:=(.agg C9.toArray)) (v1:=(.int .i64 11)) rfl rfl (kI d.has Mh C9 rfl bL aH) rfl ⟨_,_,_,rfl,(d.nK Sn),(lx.refl _),Lo.refl,(ST.nu d (pC.mem Sn)),(.slice none 0 0),rfl,rfl,(Sl.nil _ _ _)⟩
 refine kg (V (nP (v:=(.agg (mZ K15).toArray)) xV (nt zeroValue224 jG (aak _ jG) kr)) (VE (lM d rfl (λb7 a1 d=>Wa (lr (Wm (VA d (Mt (Mt Mh)) O bL aH (bS hm λa U hm=>?_))))))))
 let L:Value:=(.int .i64 ((a.1).K))
 let A:Value:=(.int .i64 ((a.1).Op))
 let p:Value:=(.string (((a.1).ku).Word))
 let a2:Value:=(.string (((a.1).ku).kw))
 refine VE (eD d (Cb Pz Cn) call181 (λhh=>((Bb kY) a1 K15 c (.slice H c.Kids.length I) _ _ hh (k.mono kT.mono (lx.refl _)) U)) ?_)
 rintro _ c7 a9 b4 d D n ⟨c9,y,rfl,z⟩
 obtain rfl:=y.symm
 replace d:=d.perm (Tb Tn)
 refine VE (ml d bR (λc0 K d=>?_))
 obtain ⟨i,j,rfl⟩:=z.form
 let a0:Value:=(.slice i ((a.1).Kids).length j)
 let N:Value:=(.agg #[A,L,a2,p,a0])
 refine VO (lA N (#[A,L,a2,p,a0]) d rfl rfl aH oc nb rfl (λc1 d=>ln ?_))
 replace d:=d.kA (Kb (Kb (Kb (Db St))))
 refine kM (sg (Wm (Wn (Wf Q8 (VB d (Mt Mh) rfl rfl isAgg109 (Wi rfl (Wm (LJ hm (λM E W=>∃J,ST false (keys []) w W a9 ((K,Ob #[A,L,a2,p,a0] 30)::((P,Ol C9 30)::J))∧E 2=(.pointer (some ⟨P,0,none⟩))∧E 5=(.pointer (some ⟨K,0,none⟩))∧E 24=(.bool M)) 4 ?_ (λM t G=>?_)))))))))
 ·rintro c8 E W ⟨J,d,B,a3,a4⟩ x
  refine ln (CI x a4 (λT x=>?_) (λT x=>?_))
  ·refine sg (V (nP (v:=(.agg C9.toArray)) xV (nt bR cP (Ey _ cP) kr)) ?_)
   replace d:=d.perm (Nb (Pb Pz) Nz)
   refine VO (lA (.agg C9.toArray) (C9.toArray) d B rfl aH oc nb rfl (λc3 d=>Wa (ln ?_)))
   replace d:=d.kA (Kb (Db St))
   refine lJ (mL ?_)
   obtain rfl:=sj x
   exact zx (v0:=(.agg C9.toArray)) (v1:=(.int .i64 12)) rfl B (kI d.has Mh C9 rfl bL aH) rfl ⟨_,_,_,rfl,(d.nK Sn),D,n,(ST.nu d (pC.mem Sn)),(.slice none 0 0),rfl,rfl,(Sl.nil _ _ _)⟩
  refine kg (V (kB a3 (kI d.has Mh [A,L,a2,p,a0] rfl bL aH)) ?_)
  replace d:=d.perm (Nb (Pb Pz) Nz)
  refine VO (lA N (#[A,L,a2,p,a0]) d B rfl aH oc nb rfl (λc4 d=>Wa (ln ?_)))
  replace d:=d.kA (Kb (Db St))
  refine lJ ?_
  obtain rfl:=sj x
  exact zx (v0:=N) (v1:=(.int .i64 0)) rfl B (kI d.has Mh [A,L,a2,p,a0] rfl bL aH) rfl ⟨_,_,_,rfl,(d.nK Sn),D,n,(ST.nu d (pC.mem Sn)),a0,rfl,rfl,z⟩
 refine bC t (λg t=>?_) (λg t=>?_)
 ·refine un g (un g (un g (V (lK (cB g) rfl) ?_)))
  obtain rfl:=sj t
  exact G _ _ ⟨_,(d.kA (Kb (Db St))),rfl,rfl,rfl⟩
 refine ug g (kB rfl (kI d.has Mh [A,L,a2,p,a0] rfl bL aH)) (bS t λc6 Y t=>ue g (Eg d kp (uf a.1 a0 _ _ (z.mono kT.mono d.kC) Y) (λc5 d=>ug g (oF rfl) (V (lN (cB g) rfl) ?_))))
 obtain rfl:=sj t
 exact G _ _ ⟨_,(d.kA (Kb (Db St))),rfl,rfl,rfl⟩
theorem Oh (a:Formula) (k:Value) (c:Formula) (t:Value) (r:(Formula×Int)) (w:World) {N:lE} (O:pn N [] w) (i:Sl kz 5 N k a.Kids) (j:Sl kz 5 N t c.Kids) (hm:BL a c=some r) :
  ol false pg0 258 [(.agg #[(.int .i64 a.Op),(.int .i64 a.K),(.string a.ku.kw),(.string a.ku.Word),k]),(.agg #[(.int .i64 c.Op),(.int .i64 c.K),(.string c.ku.kw),(.string c.ku.Word),t])] w N [] (λv Z μ1=>∃Y,v=(.tuple #[(.agg #[(.int .i64 ((r.1).Op)),(.int .i64 ((r.1).K)),(.string (((r.1).ku).kw)),(.string (((r.1).ku).Word)),Y]),(.int .i64 (r.2))])∧Z=[]∧Sl kz 5 μ1 Y ((r.1).Kids)):=by
 refine Ak O 13 func258 rfl (λd=>sg ?_)
 obtain ⟨u,z,rfl⟩:=i.form
 let a3:Value:=(.slice u a.Kids.length z)
 refine VE (lM d rfl (λW4 b3 d=>?_))
 obtain ⟨y,G,rfl⟩:=j.form
 let E:Value:=(.slice y c.Kids.length G)
 refine VE (lM d rfl (λW8 b7 d=>VE (ml d bR (λa5 b9 d=>Wa (lr (VA d (Mt (Mt Mh)) (C2 a.Op a.K a.ku.kw a.ku.Word u a.Kids.length z) bL aH (VA d (Mt Mh) (C2 c.Op c.K c.ku.kw c.ku.Word y c.Kids.length G) bL aH (VE (lZ (cs:=#[(.int .i64 a.Op),(.int .i64 a.K),(.string a.ku.kw),(.string a.ku.Word),a3,(.int .i64 c.Op),(.int .i64 c.K),(.string c.ku.kw),(.string c.ku.Word),E]) d (vC rfl rfl) (oE aN aH bR) (λR I d=>V (nP (v:=(.agg #[(.int .i64 2),(.int .i64 0),(.string zS),(.string zS),(.slice (some ⟨I,0,none⟩) 2 2)])) (vC rfl rfl) (nt bR cP (Ey _ cP) kr)) ?_))))))))))
 obtain ⟨b1,d,K,n,U⟩:=ST.CO (B:=[(I,Ob #[(.int .i64 a.Op),(.int .i64 a.K),(.string a.ku.kw),(.string a.ku.Word),a3,(.int .i64 c.Op),(.int .i64 c.K),(.string c.ku.kw),(.string c.ku.Word),E] 30)]) kT d (mn.lit kT (l:=[a,c]) (.cons (ys:=C2 a.Op a.K a.ku.kw a.ku.Word u a.Kids.length z) (kz.mk ⟨a3,rfl,i⟩) (.cons (ys:=C2 c.Op c.K c.ku.kw c.ku.Word y c.Kids.length G) (kz.mk ⟨E,rfl,j⟩) .nil)) rfl nb rfl)
 refine bS hm λg T hm=>?_
 let L:Value:=(.int .i64 ((g.1).Op))
 let a2:Value:=(.string (((g.1).ku).Word))
 let A:Value:=(.string (((g.1).ku).kw))
 refine VE (eD d (cM _) call114 (λP=>(J8 (⟨2,0,K0,[a,c]⟩:Formula) (.slice (some ⟨I,0,none⟩) 2 2) _ _ P (U.mono kT.mono (lx.refl _)) T)) ?_ (L0:=[]))
 rintro _ a9 b2 a4 d M p ⟨b0,H,rfl,J⟩
 obtain rfl:=H.symm
 refine Wx rfl (Wx rfl ?_)
 obtain ⟨x,D,rfl⟩:=J.form
 let a0:Value:=(.slice x ((g.1).Kids).length D)
 let Q:Value:=(.agg #[L,(.int .i64 ((g.1).K)),A,a2,a0])
 refine VO (lA Q (#[L,(.int .i64 ((g.1).K)),A,a2,a0]) d rfl rfl aH oc nb rfl (λW d=>Wa (ln ?_)))
 replace d:=d.kA (Kb (Db (Db St)))
 refine lJ ?_
 obtain rfl:=sj hm
 exact zx (v0:=Q) (v1:=(.int .i64 g.2)) rfl rfl (kI d.has Mh [L,(.int .i64 ((g.1).K)),A,a2,a0] rfl bL aH) rfl ⟨_,_,_,rfl,(d.nK Sn),(K.trans M),(n.trans p),(ST.nu d (pC.mem Sn)),a0,rfl,rfl,J⟩
theorem QL (d1:Value) (a0:List Formula) (r:(Formula×Int)) (w:World) {μ0:lE} (h0:pn μ0 [] w) (c7:Sl kz 5 μ0 d1 a0) (hm:zu a0=some r) :
  ol false pg0 194 [d1] w μ0 [] (λv L1 μ1=>∃y1,v=(.tuple #[(.agg #[(.int .i64 ((r.1).Op)),(.int .i64 ((r.1).K)),(.string (((r.1).ku).kw)),(.string (((r.1).ku).Word)),y1]),(.int .i64 (r.2))])∧L1=[]∧Sl kz 5 μ1 y1 ((r.1).Kids)):=by
 let e5:=(a0.drop (Int.toNat 1))
 refine Ak h0 36 func194 rfl (λd=>sg (VE (ml d bR (λW2 b1 d=>Wa (lr (Wm (bS hm λx6 e3 hm=>VQ (nN (i:=0) (x0:=x6) kz.out aN aH rfl rfl c7 (kW e3) (kO e3)) (λp3 ⟨_,⟨v8,rfl,f2⟩,f1⟩=>V (kB rfl (lL d.has f1 bL aH)) (bS hm λj e6 hm=>?_)))))))))
 refine VE (eD d (cM _) call114 (λhh=>(J8 x6 v8 _ _ hh (f2.mono kT.mono (lx.refl _)) e6)) ?_ (L0:=[]))
 rintro _ i4 a9 i0 d a4 A ⟨i5,b6,rfl,d0⟩
 obtain rfl:=b6.symm
 refine Wm (Wx rfl (Wx rfl (VE (ml d bR (λi2 b7 d=>?_)))))
 obtain ⟨c2,c5,rfl⟩:=d0.form
 let d2:Value:=(.slice c2 ((j.1).Kids).length c5)
 refine VO (lA (.agg #[(.int .i64 ((j.1).Op)),(.int .i64 ((j.1).K)),(.string (((j.1).ku).kw)),(.string (((j.1).ku).Word)),d2]) (#[(.int .i64 ((j.1).Op)),(.int .i64 ((j.1).K)),(.string (((j.1).ku).kw)),(.string (((j.1).ku).Word)),d2]) d rfl rfl aH oc nb rfl (λi3 d=>Wa (lS (Wm (bS hm λ_ c8 hm=>VQ (J6 (i:=1) aN aH rfl rfl (c7.mono kT.mono a4) (A6 c8) (AL c8)) (λf3 b5=>V (nv aN rfl b5.1) (Wm (ln (CJ hm (λu E W=>∃P U c3,lx a9 U∧Lo (keys []) w a9 U∧ST false (keys []) w W U ((b7,Ob #[(.int .i64 u.2.1),(.int .i64 u.2.2.1),(.string u.2.2.2.1.kw),(.string u.2.2.2.1.Word),P] 30)::((b1,Ol C9 30)::c3))∧E 2=(.pointer (some ⟨b1,0,none⟩))∧E 4=(.pointer (some ⟨b7,0,none⟩))∧E 5=(.int .i64 u.1)∧Sl kz 5 U P u.2.2.2.2) (λu d7=>?_) ?_)))))))))
 ·refine mV (λi E W=>∃R G H y x N z b2,(E 18= .int .i64 (i:Nat)∧E 17= .int .i64 (e5.length:Nat))∧lx a9 z∧Lo (keys []) w a9 z∧ST false (keys []) w W z ((b7,Ob #[(.int .i64 G),(.int .i64 H),(.string y.kw),(.string y.Word),x] 30)::((b1,Ol C9 30)::b2))∧E 2=(.pointer (some ⟨b1,0,none⟩))∧E 4=(.pointer (some ⟨b7,0,none⟩))∧E 5=(.int .i64 R)∧E 16=f3∧Sl kz 5 z x N∧wG (e5.drop i) R G H y N=some u) e5.length b5.1.len ⟨j.2,((j.1).Op),((j.1).K),((j.1).ku),d2,((j.1).Kids),a9,_,⟨rfl,rfl⟩,(lx.refl _),Lo.refl,(d.kA St),rfl,rfl,rfl,rfl,d0,d7⟩ dc dc dc (λ_ _ _ h=>by obtain ⟨_,_,_,_,_,_,_,_,aa,_⟩:=h; exact aa) ?_ ?_
  ·rintro e7 E W d6 ⟨R,G,H,y,x,N,z,b2,⟨eI,eN⟩,t,n,d,a2,D,a3,b4,I,c⟩
   obtain ⟨a,f6,e1,e0,e2⟩:=mC d6
   rw [e1] at c
   refine bg (VQ (nN (i:=(e7:Int)) (x0:=a) kz.out aN aH b4 eI (b5.1.mono kT.mono t) (aX _) e0) (λh1 ⟨_,⟨h4,rfl,c0⟩,d8⟩=>V (kB rfl (lL d.has d8 bL aH)) (VE (ml d bR (λg2 g8 d=>?_)))))
   obtain ⟨Y,Z,rfl⟩:=c0.form
   let b8:=(C2 a.Op a.K a.ku.kw a.ku.Word Y a.Kids.length Z)
   refine VO (lA (.agg b8.toArray) (b8.toArray) d rfl rfl aH oc nb rfl (λg3 d=>lS (Wh a3 (Wi rfl (ln (CI c rfl (λd5 c=>?_) (λd5 c=>?_)))))))
   ·refine mX (mD (Z0 (by simp) (mD (pE (kL ?_)))))
    obtain rfl:=sj c
    exact ⟨x,z,_,t,n,(d.kA (Db St)),a2,D,a3,I⟩
   refine kn (kK (V (kB D (kI d.has (Mt Mh) [(.int .i64 G),(.int .i64 H),(.string y.kw),(.string y.Word),x] rfl bL aH)) (VA d Mh b8 bL aH (bS c λg d9 c=>?_))))
   refine VE (eD d (cM _) call258 (λhh=>(Oh (⟨G,H,y,N⟩:Formula) x a (.slice Y a.Kids.length Z) _ _ hh (I.mono kT.mono (lx.refl _)) (c0.mono kT.mono (lx.refl _)) d9)) ?_ (L0:=[]))
   rintro _ h5 f0 f9 d c9 L ⟨h8,a5,rfl,c1⟩
   obtain rfl:=a5.symm
   refine Wm (Wx rfl (Wx rfl ?_))
   obtain ⟨b0,b3,rfl⟩:=c1.form
   let d3:Value:=(.slice b0 ((g.1).Kids).length b3)
   replace d:=d.perm (Nb (Pb Pz) Nz)
   refine VO (lA (.agg #[(.int .i64 ((g.1).Op)),(.int .i64 ((g.1).K)),(.string (((g.1).ku).kw)),(.string (((g.1).ku).Word)),d3]) (#[(.int .i64 ((g.1).Op)),(.int .i64 ((g.1).K)),(.string (((g.1).ku).kw)),(.string (((g.1).ku).Word)),d3]) d D rfl aH oc nb rfl (λg7 d=>Wa (lu (lG (kL ?_)))))
   replace d:=d.kA (Kb (Db St))
   exact ⟨eI,g.2,((g.1).Op),((g.1).K),((g.1).ku),d3,((g.1).Kids),f0,_,⟨rfl,eN⟩,(t.trans c9),(n.trans L),(d.kA St),a2,D,rfl,b4,c1,(by rw [e2]; exact c)⟩
  rintro E W ⟨R,G,H,y,x,N,z,b2,⟨eI,eN⟩,t,n,d,a2,D,a3,b4,I,c⟩
  rw [bo] at c
  refine kL ?_
  obtain rfl:=sj c
  exact ⟨x,z,_,t,n,(d.kA St),a2,D,a3,I⟩
 rintro ⟨e8,Q,T,k,M⟩ E W ⟨P,U,c3,a8,p,d,O,e4,c6,b9⟩ B
 refine kM (sg (Wh c6 (Wi rfl (ln (CI B rfl (λd4 B=>?_) (λd4 B=>?_))))))
 ·refine sg (V (nP (v:=(.agg C9.toArray)) xV (nt bR cP (Ey _ cP) kr)) (Wh c6 ?_))
  replace d:=d.perm (Nb (Pb Pz) Nz)
  refine VO (lA (.agg C9.toArray) (C9.toArray) d O rfl aH oc nb rfl (λg0 d=>Wa (ln ?_)))
  replace d:=d.kA (Kb (Db St))
  refine lJ (mL ?_)
  obtain rfl:=sj B
  exact zx (v0:=(.agg C9.toArray)) (v1:=(.int .i64 e8)) rfl O (kI d.has Mh C9 rfl bL aH) rfl ⟨_,_,_,rfl,(d.nK Sn),(a4.trans a8),(A.trans p),(ST.nu d (pC.mem Sn)),(.slice none 0 0),rfl,rfl,(Sl.nil _ _ _)⟩
 refine kg (V (kB e4 (kI d.has Mh [(.int .i64 Q),(.int .i64 T),(.string k.kw),(.string k.Word),P] rfl bL aH)) ?_)
 obtain ⟨J,K,rfl⟩:=b9.form
 let c4:=(C2 Q T k.kw k.Word J M.length K)
 replace d:=d.perm (Nb (Pb Pz) Nz)
 refine VO (lA (.agg c4.toArray) (c4.toArray) d O rfl aH oc nb rfl (λg1 d=>Wa (ln ?_)))
 replace d:=d.kA (Kb (Db St))
 refine lJ ?_
 obtain rfl:=sj B
 exact zx (v0:=(.agg c4.toArray)) (v1:=(.int .i64 0)) rfl O (kI d.has Mh c4 rfl bL aH) rfl ⟨_,_,_,rfl,(d.nK Sn),(a4.trans a8),(A.trans p),(ST.nu d (pC.mem Sn)),(.slice J M.length K),rfl,rfl,b9⟩
theorem Mg (k:lB) (G H:Value) (L:kv) (r:(Formula×Int)) (w:World) {μ0:lE} (h0:pn μ0 [] w) (t:Sl kX 15 μ0 G k.kE) (y:Sl lH 8 μ0 H k.kQ) (hm:Da k L=some r) :
  ol false pg0 124 [(.agg #[(.string k.Name),G,H]),(.agg (kF L).toArray)] w μ0 [] (λv L1 μ1=>∃y1,v=(.tuple #[(.agg #[(.int .i64 ((r.1).Op)),(.int .i64 ((r.1).K)),(.string (((r.1).ku).kw)),(.string (((r.1).ku).Word)),y1]),(.int .i64 (r.2))])∧L1=[]∧Sl kz 5 μ1 y1 ((r.1).Kids)):=by
 refine Ak h0 41 func124 rfl (λd=>sg ?_)
 obtain ⟨A1,c2,rfl⟩:=t.form
 obtain ⟨A3,c4,rfl⟩:=y.form
 let f5:=(C6 k.Name A1 k.kE.length c2 A3 k.kQ.length c4)
 refine VE (lM d rfl (λW6 b5 d=>VE (lM d rfl (λW8 b7 d=>VE (ml d bR (λi4 b9 d=>Wa (lr (VA d (Mt (Mt Mh)) f5 dW dC (VA d (Mt Mh) (kF L) cU bE (bS hm λa e7 hm=>?_))))))))))
 let b8:Value:=(.int .i64 (((a.1).ky).K))
 let O:Value:=(.int .i64 (((a.1).ky).Op))
 let b1:=(((a.1).ky).ku)
 let P:Value:=(.string (b1.Word))
 let d8:Value:=(.string (b1.kw))
 let a0:=(((a.1).Signed).kv)
 refine VE (eD d (cM _) call192 (λR=>(Qq k (.slice A1 k.kE.length c2) (.slice A3 k.kQ.length c4) L _ _ R (t.mono kZ.mono (lx.refl _)) (y.mono mB.mono (lx.refl _)) e7)) ?_ (L0:=[]))
 rintro _ j4 j8 i2 d I n ⟨j6,j7,a5,rfl,e9,c5⟩
 obtain rfl:=a5.symm
 refine Wm (Wx rfl (Wx rfl (VE (ml d eA (λi6 j3 d=>?_)))))
 obtain ⟨d9,e1,rfl⟩:=e9.form
 let f8:Value:=(.slice d9 (((a.1).Signed).Tag).length e1)
 obtain ⟨z,D,rfl⟩:=c5.form
 let a2:Value:=(.slice z (((a.1).ky).Kids).length D)
 refine VO (lA (.agg #[(.int .i64 (a0.Kind)),(.string ((a0.Head).kw)),(.string ((a0.Head).Word)),(.string (a0.lO)),(.string ((a0.B).kw)),(.string ((a0.B).Word)),(.string ((a0.C).kw)),(.string ((a0.C).Word)),(.string (a0.mg)),f8,O,b8,d8,P,a2]) (#[(.int .i64 (a0.Kind)),(.string ((a0.Head).kw)),(.string ((a0.Head).Word)),(.string (a0.lO)),(.string ((a0.B).kw)),(.string ((a0.B).Word)),(.string ((a0.C).kw)),(.string ((a0.C).Word)),(.string (a0.mg)),f8,O,b8,d8,P,a2]) d rfl rfl cY oc nb rfl (λi7 d=>Wa (lS (Wm (V (oF rfl) (ln (CI hm rfl (λe6 hm=>?_) (λe6 hm=>?_))))))))
 ·refine sg (V (nP (v:=(.agg C9.toArray)) xV (nt bR cP (Ey _ cP) kr)) ?_)
  replace d:=d.perm (Nb (Pb Pz) Nz)
  refine VO (lA (.agg C9.toArray) (C9.toArray) d rfl rfl aH oc nb rfl (λi8 d=>Wa (ln ?_)))
  replace d:=d.kA (Kb (Db (Db (Db St))))
  refine lJ (mL ?_)
  obtain rfl:=sj hm
  exact zx (v0:=(.agg C9.toArray)) (v1:=(.int .i64 42)) rfl rfl (kI d.has Mh C9 rfl bL aH) rfl ⟨_,_,_,rfl,(d.nK Sn),I,n,(ST.nu d (pC.mem Sn)),(.slice none 0 0),rfl,rfl,(Sl.nil _ _ _)⟩
 refine kg (Wf I8 (VA d Mh [O,b8,d8,P,a2] bL aH (VE (lZ (cs:=#[O,b8,d8,P,a2]) d (og rfl) (oE aN aH bR) (λi9 e0 d=>Wa (ln ?_))))))
 replace d:=d.kA (Kb (Db St))
 refine kM (sg (VA d (Mt (Mt (Mt Mh))) f5 dW dC (VA d (Mt (Mt Mh)) (kF L) cU bE (bS hm λc6 e8 hm=>?_))))
 refine VE (eD d (cM _) call193 (λR=>(Ot k (.slice A1 k.kE.length c2) (.slice A3 k.kQ.length c4) L _ _ R (t.mono kZ.mono I) (y.mono mB.mono I) e8)) ?_ (L0:=[]))
 rintro _ j5 e2 i3 d a8 aa ⟨f6,a6,rfl,a7⟩
 obtain rfl:=a6.symm
 refine V (nv dp rfl a7) (Wm (ln ?_))
 replace d:=d.kA (Kb (Kb (Db (Db St))))
 replace d:=d.I3
 refine mV (λi E W=>∃Q N K Z,(E 27= .int .i64 (i:Nat)∧E 26= .int .i64 (c6.length:Nat))∧ST false (keys []) w W e2 ((b9,Ol C9 30)::(K++Z))∧E 4=(.pointer (some ⟨b9,0,none⟩))∧E 8=Q∧E 25=f6∧mn 30 kz 5 e2 Q N K∧xz (c6.drop i) N=some r) c6.length a7.len ⟨(.slice (some ⟨e0,0,none⟩) 1 1),([(a.1).ky]),[(e0,Ob #[O,b8,d8,P,a2] 30)],_,⟨rfl,rfl⟩,(d.kA (Sb (Pr Pz) St)),rfl,rfl,rfl,(mn.lit kT (l:=[(a.1).ky]) (.cons (ys:=[O,b8,d8,P,a2]) (kz.mk ⟨a2,rfl,(c5.mono kT.mono a8)⟩) .nil) rfl nb rfl),hm⟩ dc dc dc (λ_ _ _ h=>by obtain ⟨_,_,_,_,ab,_⟩:=h; exact ab) ?_ ?_
 ·rintro f0 E W d0 ⟨Q,N,K,Z,⟨eI,eN⟩,d,T,a3,a4,U,j⟩
  obtain ⟨c,f7,d6,d5,d7⟩:=mC d0
  rw [d6] at j
  refine bg (VQ (nN (i:=(f0:Int)) (x0:=c) lH.out dp cW a4 eI a7 (aX _) d5) (λh2 ⟨_,⟨h5,h6,rfl,a9,d3⟩,d1⟩=>V (kB rfl (lL d.has d1 eG cW)) (VE (ml d fR (λg0 g8 d=>?_)))))
  obtain ⟨u,x,rfl⟩:=a9.form
  let c7:=(C2 c.ky.Op c.ky.K c.ky.ku.kw c.ky.ku.Word u c.ky.Kids.length x)
  obtain ⟨b2,b6,rfl⟩:=d3.form
  let c0:=(C5 c.ku.kw c.ku.Word c.ky.Op c.ky.K c.ky.ku.kw c.ky.ku.Word u c.ky.Kids.length x b2 c.lT.length b6)
  refine VO (lA (.agg c0.toArray) (c0.toArray) d rfl rfl cW oc nb rfl (λg1 d=>ln (kK (Wh a3 (Wf GW (VA d Mh c7 bL aH (VE (lZ (cs:=c7.toArray) d (og rfl) (oE aN aH bR) (λg2 g9 d=>?_)))))))))
  replace d:=d.perm (Nr (Qb (Qb (Qb Qz))) Nz)
  refine bS j λf1 c9 j=>VE (vG (B:=K) kT d dc aN rF.1 rF.2.1 rfl rF.2.2.1 rF.2.2.2 rfl rfl U (Dj.lit kT (l:=[c.ky]) (.cons (ys:=C2 c.ky.Op c.ky.K c.ky.ku.kw c.ky.ku.Word u c.ky.Kids.length x) (kz.mk ⟨(.slice u c.ky.Kids.length x),rfl,a9⟩) .nil) rfl nb (d.at_ (Ma Mh))) c9 (λg3 f2 e3 d c8=>Wa (lu (lG (kL ?_)))))
  replace d:=d.kA (Kr (Db (Db St)))
  exact ⟨eI,f2,f1,e3,_,⟨rfl,eN⟩,(d.kA (Sb (Pr Pz) St)),T,rfl,a4,c8,(by rw [d7]; exact j)⟩
 rintro E W ⟨Q,N,K,Z,⟨eI,eN⟩,d,T,a3,a4,U,j⟩
 rw [bo] at j
 refine kL (sg (Wh a3 ?_))
 replace d:=d.perm (Nr (Qb Qz) Nz)
 obtain ⟨i0,d,c1,p,d4⟩:=ST.CO kT d U
 refine bS j λg d2 j=>?_
 let g4:Value:=(.int .i64 ((g.1).Op))
 let f4:Value:=(.string (((g.1).ku).Word))
 let f3:Value:=(.string (((g.1).ku).kw))
 refine VE (eD d (cM _) call194 (λR=>(QL Q N _ _ R (d4.mono kT.mono (lx.refl _)) d2)) ?_ (L0:=[]))
 rintro _ h7 i1 f9 d c3 A ⟨h8,Y,rfl,b0⟩
 obtain rfl:=Y.symm
 refine Wx rfl (Wx rfl ?_)
 obtain ⟨J,M,rfl⟩:=b0.form
 let e4:Value:=(.slice J ((g.1).Kids).length M)
 let b4:Value:=(.agg #[g4,(.int .i64 ((g.1).K)),f3,f4,e4])
 refine VO (lA b4 (#[g4,(.int .i64 ((g.1).K)),f3,f4,e4]) d T rfl aH oc nb rfl (λg7 d=>Wa (lt ?_)))
 obtain rfl:=sj j
 exact zx (v0:=b4) (v1:=(.int .i64 g.2)) rfl T (kI d.has Mh [g4,(.int .i64 ((g.1).K)),f3,f4,e4] rfl bL aH) rfl ⟨_,_,_,rfl,(d.nK Sn),(((I.trans a8).trans c1).trans c3),(((n.trans aa).trans p).trans A),(ST.nu d (pC.mem Sn)),e4,rfl,rfl,b0⟩
theorem HA (Q:Formula→(ku→Option Bool)→Option Bool) (a5:∀(g:Formula) (k:Value) (t:Value) (J:ku→Option Bool) (r:Bool) (w:World) (c:Sl kz 5 (hp w) k g.Kids) (K:sI pg0 t (hp w) (λ(x:ku)=>[(.agg (kJ x).toArray)]) (λ(r:Bool)=>(.bool r)) J),Q g J=some r→lC false pg0 130 [(.agg #[(.int .i64 g.Op),(.int .i64 g.K),(.string g.ku.kw),(.string g.ku.Word),k]),t] w (.bool r)) (g:Formula) (k t:Value) (J:ku→Option Bool) (r:Bool) (w:World) (c:Sl kz 5 (hp w) k g.Kids) (K:sI pg0 t (hp w) (λ(x:ku)=>[(.agg (kJ x).toArray)]) (λ(r:Bool)=>(.bool r)) J) (hm:yV Q g J=some r) :
  lC false pg0 130 [(.agg #[(.int .i64 g.Op),(.int .i64 g.K),(.string g.ku.kw),(.string g.ku.Word),k]),t] w (.bool r):=by
 refine cG 45 func130 rfl (λd=>sg ?_)
 obtain ⟨A1,c2,rfl⟩:=c.form
 refine VE (lM d rfl (λW4 A d=>Wa (lS (Wf xc (VB d Mh rfl rfl dJ (Wi rfl (ln (CI hm rfl (λa9 hm=>?_) (λa9 hm=>?_)))))))))
 ·refine sg (Wm (Wf Br (VA d Mh (kJ g.ku) bZ bF (bS hm λr6 R hm=>VE (DL g.ku d K (lx.refl _) rfl (pR rfl) R (λW8 d=>Wa (ln ?_)))))))
  replace d:=d.kA (Db St)
  refine lJ (mL ?_)
  obtain rfl:=sj hm
  exact rP d
 refine kg (Wa (lS (Wf vA (VB d Mh rfl rfl fJ (V (nv aN rfl c) (Wm (lu ?_)))))))
 refine kL (mV (λi E W=>∃z I,(E 18= .int .i64 (i:Nat)∧E 17= .int .i64 (g.Kids.length:Nat))∧ST false mN w W (hp w) ((A,Ol (C2 g.Op g.K g.ku.kw g.ku.Word A1 g.Kids.length c2) 30)::I)∧E 1=t∧E 2=(.pointer (some ⟨A,0,none⟩))∧E 5=(.int .i64 z)∧E 16=(.slice A1 g.Kids.length c2)∧sd Q J g (g.Kids.drop i) z=some r) g.Kids.length c.len ⟨0,_,⟨rfl,rfl⟩,(d.kA St),rfl,rfl,rfl,rfl,hm⟩ dc dc dc (λ_ _ _ h=>by obtain ⟨_,_,p,_⟩:=h; exact p) ?_ ?_)
 ·rintro b1 E W a4 ⟨z,I,⟨n,v⟩,d,G,u,y,H,a⟩
  obtain ⟨j,c1,P,O,N⟩:=mC a4
  rw [P] at a
  refine bg (VQ (nN (i:=(b1:Int)) (x0:=j) kz.out aN aH H n c (aX _) O) (λb7 ⟨_,⟨c0,rfl,M⟩,Z⟩=>V (kB rfl (lL d.has Z bL aH)) (VE (ml d bR (λb2 b6 d=>?_)))))
  obtain ⟨B,D,rfl⟩:=M.form
  let a0:=(C2 j.Op j.K j.ku.kw j.ku.Word B j.Kids.length D)
  refine VO (lA (.agg a0.toArray) (a0.toArray) d rfl rfl aH oc nb rfl (λb4 d=>lr (VA d Mh a0 bL aH (Wh G (bS a λb9 L a=>VE (Eg d call130 (a5 j (.slice B j.Kids.length D) t J _ _ (M.mono kT.mono d.kC) (K.mono d.kC) L) (λb5 d=>ln ?_)))))))
  replace d:=d.kA (Db St)
  refine CI a rfl (λT a=>?_) (λT a=>?_)
  ·exact kK (Wh y (Wi rfl (Wa (lu (lG (kL ⟨n,(wi0 .i64 (z+1)),_,⟨rfl,v⟩,(d.kA St),G,u,rfl,H,(by rw [N]; exact a)⟩))))))
  exact nf (lG (kL ⟨n,z,_,⟨rfl,v⟩,(d.kA St),G,u,y,H,(by rw [N]; exact a)⟩))
 rintro E W ⟨z,I,⟨n,v⟩,d,G,u,y,H,a⟩
 rw [bo] at a
 refine kL (kM (sg (V (kN xc u) (VB d Mh rfl rfl dJ (ln (bg (Wi rfl (Wa (ln ?_)))))))))
 refine CI a rfl (λU a=>?_) (λU a=>?_)
 ·refine sg (Wh y (V (kN vA u) (VB d Mh rfl rfl fJ (V (nv aN rfl c) (Wi rfl (Wa (ln ?_)))))))
  replace d:=d.kA (Db St)
  refine lJ (pO (mL ?_))
  obtain rfl:=sj a
  exact rP d
 refine sg (Wi rfl (Wa (ln (CI a rfl (λY a=>?_) (λY a=>?_)))))
 ·refine sg (Wh y (Wi rfl (Wa (ln ?_))))
  replace d:=d.kA (Db St)
  refine lJ (pO (mL ?_))
  obtain rfl:=sj a
  exact rP d
 refine nf (lG (kL (sg (Wh y (V (kN Bw u) (VB d Mh rfl rfl dJ (Wi rfl (Wa (ln ?_)))))))))
 exact lJ (rQ a d)
theorem Gs:∀(n:Nat) (c:Formula) (a:Value) (g:Value) (j:ku→Option Bool) (r:Bool) (w:World) (i:Sl kz 5 (hp w) a c.Kids) (k:sI pg0 g (hp w) (λ(x:ku)=>[(.agg (kJ x).toArray)]) (λ(r:Bool)=>(.bool r)) j) (_:sS n c j=some r),
  lC false pg0 130 [(.agg #[(.int .i64 c.Op),(.int .i64 c.K),(.string c.ku.kw),(.string c.ku.Word),a]),g] w (.bool r)
 | 0=>by intros; rename_i h; simp only [sS] at h; cases h
 | n+1=>HA (sS n) (Gs n)
theorem G3 (a:Formula) (j k:Value) (G:ku→Option Bool) (r:Bool) (w:World) (c:Sl kz 5 (hp w) j a.Kids) (z:sI pg0 k (hp w) (λ(x:ku)=>[(.agg (kJ x).toArray)]) (λ(r:Bool)=>(.bool r)) G) (hm:yH a G=some r) :
  lC false pg0 54 [(.agg #[(.int .i64 a.Op),(.int .i64 a.K),(.string a.ku.kw),(.string a.ku.Word),j]),k] w (.bool r):=by
 refine cG 16 func54 rfl (λd=>sg ?_)
 obtain ⟨u,y,rfl⟩:=c.form
 let a0:=(C2 a.Op a.K a.ku.kw a.ku.Word u a.Kids.length y)
 refine VE (lM d rfl (λU Z d=>Wa (lr (Wm (V (Vc underlying101 z.form rfl rfl) (Wm (Vg rfl rfl (kB rfl (kI d.has Mh a0 rfl bL aH)) (bS hm λn K hm=>UZ rfl rfl (Eg d kp (uf a (.slice u a.Kids.length y) _ _ (c.mono kT.mono d.kC) K) (λY d=>V (lK rfl rfl) (Wm (LJ hm (λD E W=>∃B,ST false mN w W (hp w) B∧E 4=(.bool false)∧E 15=(.bool D)) 4 ?_ (λD g t=>?_)))))))))))))
 ·rintro T E W ⟨B,d,N,J⟩ H
  exact Wg J (lt (rQ H d))
 refine bC g (λi g=>?_) (λi g=>?_)
 ·refine ug i (kB rfl (kI d.has Mh a0 rfl bL aH)) (ug i (kD rfl) (bS g λQ I g=>ue i (Eg d call130 ((Gs kY) a (.slice u a.Kids.length y) k G _ _ (c.mono kT.mono d.kC) (z.mono d.kC) I) (λM d=>V (lK (cB i) rfl) ?_))))
  obtain rfl:=sj g
  exact t _ _ ⟨_,(d.kA (Db St)),rfl,rfl⟩
 refine un i (un i (un i (V (lN (cB i) rfl) ?_)))
 obtain rfl:=sj g
 exact t _ _ ⟨_,(d.kA (Db St)),rfl,rfl⟩
theorem FJ (K:Nat) (a:Value) (G:List (ku×(List (ByteArray×Bool)))) (c:Value) (t:List kv) (j:Value) (D:List (ku×(List kv))) (g:Value) (u:List (ByteArray×(List kv))) (i:Value) (B:List kV) (J:Int) (I:ku) (a2:ByteArray) (r:Bool) (w:World) (H:tR (λ(x:ku)=>(.agg (kJ x).toArray)) (nz Value.string (λ(x:Bool)=>(Value.bool x))) (hp w) a G) (T:Sl (Pl kF) 9 (hp w) c t) (Z:tR (λ(x:ku)=>(.agg (kJ x).toArray)) (lh 52 kF 9) (hp w) j D) (U:tR Value.string (lh 52 kF 9) (hp w) g u) (Y:Sl (Pl nB) 3 (hp w) i B) (Q:At (hp w) (.pointer (some ⟨K,0,none⟩)) [a,c,j,g,i,(.int .i64 J)]) (hm:wV G t D u B J I a2=some r) :
  lC true pg0 128 [(.pointer (some ⟨K,0,none⟩)),(.agg (kJ I).toArray),(.string a2)] w (.bool r):=by
 refine cG 19 func128 rfl (λn=>sg (VE (lM n rfl (λW2 E n=>Wa (ln (kM ?_))))))
 replace n:=n.drew
 have d:=n.has.kA (Kb Sn)
 refine lU d li (X 0 rfl d (kD rfl) (X 1 rfl d (HU underlying183 rfl rfl) (X 2 rfl d (kD rfl) (Xg 3 rfl rfl rfl d (kD rfl) (Xg 4 rfl rfl rfl d (oV rfl) (oM 5 rfl kr (.inr ⟨2,true,9,rfl,rfl,by decide,rfl⟩) rfl dc (λ_ _ h=>h) d (Em [a] AW rfl Q rfl) (λA a3=>Aj 6 rfl rfl rfl d (λ_ p=>kB rfl (sJ p (y:=a) a3 iM)) (Aj 7 rfl rfl rfl d (λ_ p=>kB rfl (kI p Mh (kJ I) rfl bZ bF)) ?_))))))))
 obtain ⟨a4,a5,M,N⟩:=H
 refine Aj 8 rfl rfl rfl d (λ_ p=>rV (k:=I) (z:=(.map none)) EA fh fU rfl rfl M (λb o v=>p.1 b o (N b o v))) (Xg 9 rfl rfl rfl d (kD rfl) (Aj 10 rfl rfl rfl d (λ_ p=>D6 (k:=a2) (z:=false) (vf:=(λ(x:Bool)=>(Value.bool x))) L7 gj jT rfl rfl ((oP.HL lj.1 M I N).mono (λb o v=>p.1 b o v))) (X 11 rfl d (lK rfl rfl) (X 12 rfl d (oe rfl) (lX kr (kL ?_))))))
 exact lJ (rQ hm n)
end Go.Proofs.YtjjjihkifgdhgaaGreatDoor
