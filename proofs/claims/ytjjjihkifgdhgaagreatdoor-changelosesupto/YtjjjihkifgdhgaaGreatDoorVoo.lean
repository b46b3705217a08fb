/- a part of a proof of ChangeLoses -/
import Derived.Test.YtjjjihkifgdhgaaGreatDoorCards
import Derived.Test.YtjjjihkifgdhgaaGreatDoorTie
import Derived.Deep.DeepHandedRow
import Derived.Lib.LaidTab
import Derived.SevenTiedAt
import Derived.Test.YtjjjihkifgdhgaaGreatDoorLqo
import Derived.Test.YtjjjihkifgdhgaaGreatDoorDC8W3o
set_option linter.all false
namespace Go.Proofs.YtjjjihkifgdhgaaGreatDoor
open Go.Proofs.Tryz renaming prog → pg0
set_option maxRecDepth 10000
open Go.ChangeShapes Go.WideShapes Go.ChangeAt Go.RowKit
open Go.Proofs.YtjjjihkifgdhgaaGreatDoor Go.Proofs.YtjjjihkifgdhgaaGreatDoor.Lf
theorem X7:Tryz.prog.cellsOf 34=18:=by kernel_rfl
theorem YR {α:Type} {l:List α} (h:l.length=9):∃a0 d a2 a3 a4 a5 i j n,l=[a0,d,a2,a3,a4,a5,i,j,n]:=by
 match l,h with
 | [a0,d,a2,a3,a4,a5,i,j,n],_=>exact ⟨a0,d,a2,a3,a4,a5,i,j,n,rfl⟩
theorem aaz {α:Type} {l:List α} (h:l.length=18):∃a0 v a2 a3 a4 a5 w x z a9 d i a12 j n p u a17,l=[a0,v,a2,a3,a4,a5,w,x,z,a9,d,i,a12,j,n,p,u,a17]:=by
 match l,h with
 | [a0,v,a2,a3,a4,a5,w,x,z,a9,d,i,a12,j,n,p,u,a17],_=>exact ⟨a0,v,a2,a3,a4,a5,w,x,z,a9,d,i,a12,j,n,p,u,a17,rfl⟩
theorem YI:Tryz.prog.cellsOf 25=3:=by kernel_rfl
theorem WW {α:Type} {l:List α} (h:l.length=3):∃a0 d a2,l=[a0,d,a2]:=by
 match l,h with
 | [a0,d,a2],_=>exact ⟨a0,d,a2,rfl⟩
theorem IY:Tryz.prog.cellsOf 9=1:=by kernel_rfl
theorem KK:Km pg0 9 (λs:ByteArray=>[.string s]) (λs=>s.size):=SD Tryz.underlying9
theorem Re:Tryz.prog.cellsOf 22=1:=by kernel_rfl
theorem M9:Tryz.prog.cellsOf 57=15:=by kernel_rfl
theorem Jb {α:Type} {l:List α} (h:l.length=2):∃a0 d,l=[a0,d]:=by
 match l,h with
 | [a0,d],_=>exact ⟨a0,d,rfl⟩
theorem aaf {α:Type} {l:List α} (h:l.length=15):∃a0 p a2 a3 a4 a5 u v w a9 d i a12 j n,l=[a0,p,a2,a3,a4,a5,u,v,w,a9,d,i,a12,j,n]:=by
 match l,h with
 | [a0,p,a2,a3,a4,a5,u,v,w,a9,d,i,a12,j,n],_=>exact ⟨a0,p,a2,a3,a4,a5,u,v,w,a9,d,i,a12,j,n,rfl⟩
theorem YF:Tryz.prog.cellsOf 55=10:=by kernel_rfl
theorem M1:Tryz.prog.cellsOf 52=9:=by kernel_rfl
theorem VT:Km pg0 3 (λn:Int=>[.int .i64 n]) (λ_=>0):=Yi Tryz.underlying3
theorem LI:Tryz.prog.cellsOf 3=1:=by kernel_rfl
theorem Jp:Tryz.prog.cellsOf 27=2:=by kernel_rfl
def Bt (x:ku):Nat:=x.kw.size+x.Word.size
theorem Lz:Km pg0 27 kJ Bt:=by
 intro H p W base sp v fuel cs x h
 obtain ⟨xs,n,_,rfl,E,hlen,w⟩:=ei Tryz.underlying27 h
 obtain ⟨I,J,rfl⟩:=Jb hlen
 obtain ⟨d,c1,rfl⟩:=Jb (E.trans Jp)
 have u:DataW.trod p pg0 W base sp v n 9 (([d,c1].drop 0).take (Tryz.prog.cellsOf 9))=some I:=w 0 _ rfl
 have h1:DataW.trod p pg0 W base sp v n 9 (([d,c1].drop 1).take (Tryz.prog.cellsOf 9))=some J:=w 1 _ rfl
 simp only [IY,List.drop,List.take] at u h1
 obtain ⟨G,i,z⟩:=KK _ _ _ _ _ _ _ _ _ u
 obtain ⟨s1,j,A⟩:=KK _ _ _ _ _ _ _ _ _ h1
 simp only [aY,dL] at i j
 obtain rfl:=i
 obtain rfl:=j
 refine ⟨⟨G,s1⟩,rfl,?_⟩
 simp only [List.map,Rows.uptoBulk,Rows.uptoBulkAll,Bt] at z A ⊢
 omega
theorem aaK {α:Type} {l:List α} (h:l.length=6):∃a0 d a2 a3 a4 a5,l=[a0,d,a2,a3,a4,a5]:=by
 match l,h with
 | [a0,d,a2,a3,a4,a5],_=>exact ⟨a0,d,a2,a3,a4,a5,rfl⟩
def yM (x:kv):Nat:=Bt x.Head+x.lO.size+Bt x.B+Bt x.C+x.mg.size
theorem Xd:Km pg0 52 kF yM:=by
 intro H z W base sp A fuel cs x h
 obtain ⟨xs,n,_,rfl,hl,hlen,E⟩:=ei Tryz.underlying52 h
 obtain ⟨y0,y1,y2,y3,y4,y5,rfl⟩:=aaK hlen
 obtain ⟨d,c1,c2,i,j,p,u,v,w,rfl⟩:=YR (hl.trans M1)
 have P:DataW.trod z pg0 W base sp A n 3 (([d,c1,c2,i,j,p,u,v,w].drop 0).take (Tryz.prog.cellsOf 3))=some y0:=E 0 _ rfl
 have h1:DataW.trod z pg0 W base sp A n 27 (([d,c1,c2,i,j,p,u,v,w].drop 1).take (Tryz.prog.cellsOf 27))=some y1:=E 1 _ rfl
 have Q:DataW.trod z pg0 W base sp A n 9 (([d,c1,c2,i,j,p,u,v,w].drop 3).take (Tryz.prog.cellsOf 9))=some y2:=E 2 _ rfl
 have R:DataW.trod z pg0 W base sp A n 27 (([d,c1,c2,i,j,p,u,v,w].drop 4).take (Tryz.prog.cellsOf 27))=some y3:=E 3 _ rfl
 have T:DataW.trod z pg0 W base sp A n 27 (([d,c1,c2,i,j,p,u,v,w].drop 6).take (Tryz.prog.cellsOf 27))=some y4:=E 4 _ rfl
 have U:DataW.trod z pg0 W base sp A n 9 (([d,c1,c2,i,j,p,u,v,w].drop 8).take (Tryz.prog.cellsOf 9))=some y5:=E 5 _ rfl
 simp only [Jp,LI,IY,List.drop,List.take] at P h1 Q R T U
 obtain ⟨s0,G,Y⟩:=VT _ _ _ _ _ _ _ _ _ P
 obtain ⟨s1,I,Z⟩:=Lz _ _ _ _ _ _ _ _ _ h1
 obtain ⟨s2,J,b2⟩:=KK _ _ _ _ _ _ _ _ _ Q
 obtain ⟨s3,L,b3⟩:=Lz _ _ _ _ _ _ _ _ _ R
 obtain ⟨s4,M,b4⟩:=Lz _ _ _ _ _ _ _ _ _ T
 obtain ⟨s5,O,b5⟩:=KK _ _ _ _ _ _ _ _ _ U
 simp only [kJ,aY,dL] at G I J L M O
 obtain rfl:=G
 obtain ⟨rfl,rfl⟩:=I
 obtain rfl:=J
 obtain ⟨rfl,rfl⟩:=L
 obtain ⟨rfl,rfl⟩:=M
 obtain rfl:=O
 refine ⟨⟨s0,s1,s2,s3,s4,s5⟩,rfl,?_⟩
 simp only [List.map,Rows.uptoBulk,Rows.uptoBulkAll,yM] at Y Z b2 b3 b4 b5 ⊢
 omega
theorem Q3:Tryz.prog.cellsOf 53=1:=by kernel_rfl
theorem Ub:Tryz.prog.cellsOf 5=1:=by kernel_rfl
theorem Xq:FW pg0 5 (Ms (Pl (mh .u8)) (λx=>0≤x∧x < 256)) (λ_=>0):=Yl Tryz.underlying5
theorem Hi:Tryz.prog.cellsOf 30=5:=by kernel_rfl
theorem aa0 {α:Type} {l:List α} (h:l.length=4):∃a0 d a2 a3,l=[a0,d,a2,a3]:=by
 match l,h with
 | [a0,d,a2,a3],_=>exact ⟨a0,d,a2,a3,rfl⟩
theorem aaZ {α:Type} {l:List α} (h:l.length=5):∃a0 d a2 a3 a4,l=[a0,d,a2,a3,a4]:=by
 match l,h with
 | [a0,d,a2,a3,a4],_=>exact ⟨a0,d,a2,a3,a4,rfl⟩
theorem XI:Tryz.prog.cellsOf 28=1:=by kernel_rfl
theorem aaR {H:Type} {x:DataW H×List MemPlace} {ys:List (DataW H×List MemPlace)} {p:List MemPlace} (d:x=(.agg (ys.map (·.1)),p)) (i:Nat) {y:DataW H×List MemPlace} (h:ys[i]? =some y):SizeOf.sizeOf y.1 < SizeOf.sizeOf x.1:=by
 subst d
 have:=List.sizeOf_lt_of_mem (aS.2 ⟨y,cX h,rfl⟩:y.1∈ys.map (·.1))
 simp only [DataW.agg.sizeOf_spec]; omega
theorem PE:∀l:List Formula,szFL l≤vj Di l
 | []=>aR _
 | k::l=>by have:=PE l; rw [szFL]; simp only [vj,aU,fH] at this ⊢; omega
theorem ZZ:∀(N:Nat) (H:Type) (Z:TypeId×Value→H) (W:World) (base:Nat) (sp:Nat→Bool) (hd:Bool) (fuel:Nat) (cs:List Value) (x:DataW H×List MemPlace),
  DataW.trod Z pg0 W base sp hd fuel 30 cs=some x→SizeOf.sizeOf x.1 < N→∃a:Formula,kz (hp W) cs a∧Di a≤Rows.uptoBulk x.1:=by
 intro N
 induction N with
 | zero=>intro _ _ _ _ _ _ _ _ _ _ h; exact absurd h (Nat.not_lt_zero _)
 | succ N ih=>
  intro H Z W base sp hd fuel cs x h hN
  obtain ⟨a1,P,_,I,Q,G,u⟩:=ei Tryz.underlying30 h
  obtain ⟨J,L,M,O,rfl⟩:=aa0 G
  obtain ⟨d,i,j,n,p,rfl⟩:=aaZ (Q.trans Hi)
  have v:DataW.trod _ pg0 W _ _ _ P 3 (([d,i,j,n,p].drop 0).take (Tryz.prog.cellsOf 3))=some J:=u 0 _ rfl
  have w:DataW.trod _ pg0 W _ _ _ P 3 (([d,i,j,n,p].drop 1).take (Tryz.prog.cellsOf 3))=some L:=u 1 _ rfl
  have A:DataW.trod _ pg0 W _ _ _ P 27 (([d,i,j,n,p].drop 2).take (Tryz.prog.cellsOf 27))=some M:=u 2 _ rfl
  have E:DataW.trod _ pg0 W _ _ _ P 28 (([d,i,j,n,p].drop 4).take (Tryz.prog.cellsOf 28))=some O:=u 3 _ rfl
  simp only [Jp,XI,LI,List.drop,List.take] at v w A E
  obtain ⟨s2,R,b2⟩:=VT _ _ _ _ _ _ _ _ _ v
  simp only [aY,dL] at R
  obtain rfl:=R
  obtain ⟨s3,T,b3⟩:=VT _ _ _ _ _ _ _ _ _ w
  simp only [aY,dL] at T
  obtain rfl:=T
  obtain ⟨s4,U,b4⟩:=Lz _ _ _ _ _ _ _ _ _ A
  simp only [kJ,aY,dL] at U
  obtain ⟨rfl,rfl⟩:=U
  obtain ⟨v5,s5,Y,q5,b5⟩:=J0 Hi (by decide) Tryz.underlying28 (λf cs y h hz=>ih _ _ _ _ _ _ _ _ _ h (by have:=aaR I 3 rfl; omega)) E
  simp only [aY,dL] at Y
  obtain rfl:=Y
  have b1:=bA (λz=>Rows.uptoBulk z.1) I
  refine ⟨⟨s2,s3,s4,s5⟩,kz.mk ⟨_,rfl,q5⟩,?_⟩
  have hz:=PE s5
  simp only [List.map,Rows.uptoBulk,Rows.uptoBulkAll,Bt] at b2 b3 b4 b5 b1 ⊢
  rw [P8]
  simp only
  omega
theorem O3:FW pg0 30 kz Di:=λH d W base sp i fuel cs x h=>ZZ _ H d W base sp i fuel cs x h (aQ _)
def xZ (x:kU):Nat:=yM x.Signed.kv+vj (λ_:Int=>0) x.Signed.Tag+1+Di x.ky+1
def UX (x:kU):Prop:=(∀y∈x.Signed.Tag,0≤y∧y < 256)
theorem Ul:FW pg0 57 (Ms kX UX) xZ:=by
 intro H eh W base sp hd fuel cs x h
 obtain ⟨aj,n6,_,af,ae,T,a1⟩:=ei Tryz.underlying57 h
 obtain ⟨a7,a8,rfl⟩:=Jb T
 obtain ⟨d,i,j,n,p,u,v,w,A,E,G,I,J,L,M,rfl⟩:=aaf (ae.trans M9)
 have O:DataW.trod _ pg0 W _ _ _ n6 55 (([d,i,j,n,p,u,v,w,A,E,G,I,J,L,M].drop 0).take (Tryz.prog.cellsOf 55))=some a7:=a1 0 _ rfl
 have P:DataW.trod _ pg0 W _ _ _ n6 30 (([d,i,j,n,p,u,v,w,A,E,G,I,J,L,M].drop 10).take (Tryz.prog.cellsOf 30))=some a8:=a1 1 _ rfl
 simp only [Hi,YF,List.drop,List.take] at O P
 obtain ⟨ak,n7,_,ag,ai,U,a6⟩:=ei Tryz.underlying55 O
 obtain ⟨aa,ab,rfl⟩:=Jb U
 have Q:DataW.trod _ pg0 W _ _ _ n7 52 (([d,i,j,n,p,u,v,w,A,E].drop 0).take (Tryz.prog.cellsOf 52))=some aa:=a6 0 _ rfl
 have R:DataW.trod _ pg0 W _ _ _ n7 53 (([d,i,j,n,p,u,v,w,A,E].drop 9).take (Tryz.prog.cellsOf 53))=some ab:=a6 1 _ rfl
 simp only [M1,Q3,List.drop,List.take] at Q R
 obtain ⟨s8,e8,b8⟩:=Xd _ _ _ _ _ _ _ _ _ Q
 simp only [kF,kJ,aY,dL] at e8
 obtain ⟨rfl,rfl,rfl,rfl,rfl,rfl,rfl,rfl,rfl⟩:=e8
 obtain ⟨v9,s9,e9,q9,b9⟩:=vl Ub (by decide) Xq Tryz.underlying53 R
 simp only [aY,dL] at e9
 obtain rfl:=e9
 obtain ⟨q9,g9⟩:=Lf.Sl.all q9
 have b7:=bA (λz=>Rows.uptoBulk z.1) ag
 obtain ⟨ah,Y,ad⟩:=O3 _ _ _ _ _ _ _ _ _ P
 obtain ⟨v10,Z,Y⟩:=Y.out
 simp only [aY,dL] at Z
 obtain ⟨rfl,rfl,rfl,rfl,rfl⟩:=Z
 have b6:=bA (λz=>Rows.uptoBulk z.1) af
 refine ⟨⟨⟨s8,s9⟩,ah⟩,⟨kX.mk ⟨_,_,rfl,q9,Y⟩,g9⟩,?_⟩
 simp only [List.map,Rows.uptoBulk,Rows.uptoBulkAll,xZ] at b8 b9 b7 ad b6 ⊢
 omega
theorem RP:Tryz.prog.cellsOf 23=1:=by kernel_rfl
theorem KO:Tryz.prog.cellsOf 132=8:=by kernel_rfl
theorem aa5 {α:Type} {l:List α} (h:l.length=8):∃a0 d a2 a3 a4 a5 i j,l=[a0,d,a2,a3,a4,a5,i,j]:=by
 match l,h with
 | [a0,d,a2,a3,a4,a5,i,j],_=>exact ⟨a0,d,a2,a3,a4,a5,i,j,rfl⟩
theorem Yw:Tryz.prog.cellsOf 45=1:=by kernel_rfl
def BO (x:mr):Nat:=Bt x.ku+Di x.ky+vj yM x.lT+1
def aaC (x:mr):Prop:=True
theorem RY:FW pg0 132 (Ms lH aaC) BO:=by
 intro H eh W base sp hd fuel cs x h
 obtain ⟨ae,n11,_,Y,U,J,I⟩:=ei Tryz.underlying132 h
 obtain ⟨M,O,P,rfl⟩:=WW J
 obtain ⟨d,i,j,n,p,u,v,w,rfl⟩:=aa5 (U.trans KO)
 have A:DataW.trod _ pg0 W _ _ _ n11 27 (([d,i,j,n,p,u,v,w].drop 0).take (Tryz.prog.cellsOf 27))=some M:=I 0 _ rfl
 have E:DataW.trod _ pg0 W _ _ _ n11 30 (([d,i,j,n,p,u,v,w].drop 2).take (Tryz.prog.cellsOf 30))=some O:=I 1 _ rfl
 have G:DataW.trod _ pg0 W _ _ _ n11 45 (([d,i,j,n,p,u,v,w].drop 7).take (Tryz.prog.cellsOf 45))=some P:=I 2 _ rfl
 simp only [Jp,Hi,Yw,List.drop,List.take] at A E G
 obtain ⟨aa,Q,a1⟩:=Lz _ _ _ _ _ _ _ _ _ A
 simp only [kJ,aY,dL] at Q
 obtain ⟨rfl,rfl⟩:=Q
 obtain ⟨ab,L,a6⟩:=O3 _ _ _ _ _ _ _ _ _ E
 obtain ⟨af,R,L⟩:=L.out
 simp only [aY,dL] at R
 obtain ⟨rfl,rfl,rfl,rfl,rfl⟩:=R
 obtain ⟨ag,ad,T,a8,a7⟩:=vl M1 (by decide) Xd.rel Tryz.underlying45 G
 simp only [aY,dL] at T
 obtain rfl:=T
 have Z:=bA (λz=>Rows.uptoBulk z.1) Y
 refine ⟨⟨aa,ab,ad⟩,⟨lH.mk ⟨_,_,rfl,L,a8⟩,trivial⟩,?_⟩
 simp only [List.map,Rows.uptoBulk,Rows.uptoBulkAll,BO] at a1 a6 a7 Z ⊢
 omega
theorem R0:Tryz.prog.cellsOf 31=2:=by kernel_rfl
def N6 (x:uP):Nat:=0
theorem Yy:Tryz.prog.cellsOf 32=1:=by kernel_rfl
theorem PM:Tryz.prog.cellsOf 119=2:=by kernel_rfl
def Gh (x:Key):Nat:=x.lO.size+vj (λ_:Int=>0) x.Key+1
def aaB (x:Key):Prop:=(∀y∈x.Key,0≤y∧y < 256)
theorem YH:FW pg0 119 (Ms qb aaB) Gh:=by
 intro H T W base sp U fuel cs x h
 obtain ⟨R,n15,_,J,I,p,u⟩:=ei Tryz.underlying119 h
 obtain ⟨w,A,rfl⟩:=Jb p
 obtain ⟨d,i,rfl⟩:=Jb (I.trans PM)
 have j:DataW.trod _ pg0 W _ _ _ n15 9 (([d,i].drop 0).take (Tryz.prog.cellsOf 9))=some w:=u 0 _ rfl
 have n:DataW.trod _ pg0 W _ _ _ n15 53 (([d,i].drop 1).take (Tryz.prog.cellsOf 53))=some A:=u 1 _ rfl
 simp only [Q3,IY,List.drop,List.take] at j n
 obtain ⟨P,E,M⟩:=KK _ _ _ _ _ _ _ _ _ j
 simp only [aY,dL] at E
 obtain rfl:=E
 obtain ⟨v17,Q,G,v,O⟩:=vl Ub (by decide) Xq Tryz.underlying53 n
 simp only [aY,dL] at G
 obtain rfl:=G
 obtain ⟨v,g17⟩:=Lf.Sl.all v
 have L:=bA (λz=>Rows.uptoBulk z.1) J
 refine ⟨⟨P,Q⟩,⟨qb.mk ⟨_,rfl,v⟩,g17⟩,?_⟩
 simp only [List.map,Rows.uptoBulk,Rows.uptoBulkAll,Gh] at M O L ⊢
 omega
def L3 (x:mY):Nat:=x.kw.Name.size+vj xZ x.kw.kE+vj BO x.kw.kQ+1+x.Client.Name.size+vj xZ x.Client.kE+vj BO x.Client.kQ+1+Di x.Formula+N6 x.lP+vj Gh x.Keys+1
theorem Js:FW pg0 3 (Ms (Pl (mh .i64)) vu) (λ_=>0):=Vt Tryz.underlying3
theorem ZA:FW pg0 31 (Ms (Pl Mx) (λa=>vu a.pJ∧vu a.pw)) (λ_=>0):=by
 intro H p W base sp v fuel cs x h
 obtain ⟨xs,n,_,rfl,z,hlen,w⟩:=DataW.trod_array Tryz.underlying31 h
 obtain ⟨E,G,rfl⟩:=Jb hlen
 obtain ⟨d,c1,rfl⟩:=Jb (z.trans R0)
 have u:DataW.trod p pg0 W base sp v n 3 (([d,c1].drop (0*Tryz.prog.cellsOf 3)).take (Tryz.prog.cellsOf 3))=some E:=w 0 (by decide)
 have h1:DataW.trod p pg0 W base sp v n 3 (([d,c1].drop (1*Tryz.prog.cellsOf 3)).take (Tryz.prog.cellsOf 3))=some G:=w 1 (by decide)
 simp only [LI,List.drop,List.take,Nat.reduceMul] at u h1
 obtain ⟨A,⟨i,g0⟩,_⟩:=Js _ _ _ _ _ _ _ _ _ u
 simp only [Pl,mh,aY,dL] at i
 obtain rfl:=i
 obtain ⟨s1,⟨j,g1⟩,_⟩:=Js _ _ _ _ _ _ _ _ _ h1
 simp only [Pl,mh,aY,dL] at j
 obtain rfl:=j
 exact ⟨⟨A,s1⟩,⟨rfl,g0,g1⟩,dT _⟩
theorem aaO:Km pg0 4 (λb:Bool=>[.bool b]) (λ_=>0):=by
 intro H d W base sp i fuel cs x h
 obtain ⟨n,rfl,rfl,_⟩:=DataW.trod_bool Tryz.underlying4 h
 exact ⟨n,rfl,dT _⟩
theorem YQ:Tryz.prog.cellsOf 4=1:=by kernel_rfl
theorem aaN:Tryz.prog.readableRec 34=true∧34 < Tryz.prog.types.size:=⟨by kernel_rfl,iA (by kernel_rfl)⟩
theorem aaS:Tryz.prog.readableRec 63=true∧63 < Tryz.prog.types.size:=⟨by kernel_rfl,iA (by kernel_rfl)⟩
theorem HF (c:kv):BS c=yM c:=by unfold BS yM Bt; omega
theorem Rr {α:Type} (sz:α→Nat) (h:∀a,2≤sz a):∀l:List α,2*l.length≤vj sz l
 | []=>dT _
 | a::l=>by have:=Rr sz h l; have:=h a; simp only [vj,aU,fH,aG] at *; omega
theorem FB (y:kU):xZ y=yM y.Signed.kv+vj (λ_:Int=>0) y.Signed.Tag+1+Di y.ky+1:=rfl
theorem Qx (y:mr):BO y=Bt y.ku+Di y.ky+vj yM y.lT+1:=rfl
theorem Wz (y:Key):Gh y=y.lO.size+vj (λ_:Int=>0) y.Key+1:=rfl
theorem RD:∀l:List kv,B0 l≤21*vj yM l
 | []=>dT _
 | c::l=>by have:=RD l; rw [B0,HF]; simp only [vj,aU,fH] at *; omega
theorem RA:∀l:List kU,GD l≤21*vj xZ l
 | []=>dT _
 | x::l=>by
  have:=RA l
  have:=He (λ_:Int=>0) x.Signed.Tag
  rw [GD,HF]
  have e:=FB x
  simp only [vj,aU,fH] at *; omega
theorem Si:∀l:List mr,Fo l≤21*vj BO l
 | []=>dT _
 | x::l=>by
  have:=Si l
  have:=RD x.lT
  rw [Fo]
  have e:=Qx x
  unfold Bt at e
  have d:vj BO (x::l)=max 1 (BO x)+vj BO l:=rfl
  omega
theorem Sa:∀l:List Key,Fp l≤11*vj Gh l
 | []=>dT _
 | x::l=>by
  have:=Sa l
  have:=He (λ_:Int=>0) x.Key
  rw [Fp]
  have e:=Wz x
  have d:vj Gh (x::l)=max 1 (Gh x)+vj Gh l:=rfl
  omega
theorem PF (x:lB) (j:x.Name.size≤1048576) (h1:vj xZ x.kE≤1048576) (n:vj BO x.kQ≤1048576):PG x∧x.kE.length≤600000∧NL x≤1000000000:=by
 have c1:=Rr xZ (λy=>by rw [FB]; omega) x.kE
 have c2:=He BO x.kQ
 have g1:∀y∈x.kE,yM y.Signed.kv≤1048576∧lQ y.ky≤1048576:=λy d=>by
  have:=ME (sz:=xZ) d
  have e:=FB y
  have:=Gm y.ky
  omega
 have g2:∀y∈x.kQ,lQ y.ky≤1048576∧vj yM y.lT≤1048576:=λy d=>by
  have:=ME (sz:=BO) d
  have e:=Qx y
  have:=Gm y.ky
  omega
 refine ⟨{ BR:=by omega,Er:=by omega,rel:=λy d=>?_,HH:=λy d=>?_,Q9:=λy d=>?_,csz:=λy d=>?_,asz:=λy d c i=>?_ },by omega,?_⟩
 ·have:=(g1 y d).2; omega
 ·have:=(g2 y d).1; omega
 ·have:=(g2 y d).2; have:=He yM y.lT; omega
 ·have:=(g1 y d).1; rw [HF]; omega
 ·have:=(g2 y d).2; have:=ME (sz:=yM) i; rw [HF]; omega
 ·have:=RA x.kE; have:=Si x.kQ; unfold NL; omega
theorem YA (p:mY) (h:L3 p≤1048576):PQ p:=by
 unfold L3 at h
 have a:=PF p.kw (by omega) (by omega) (by omega)
 have b:=PF p.Client (by omega) (by omega) (by omega)
 have k:=Sa p.Keys
 have f:=Gm p.Formula
 exact { o:=a.1,c:=b.1,lo:=a.2.1,lc:=b.2.1,f:=by omega,go:=a.2.2,gc:=b.2.2,fs:=by omega,ks:=by omega }
theorem own:ownKnob Tryz.prog.godebug=none:=by kernel_rfl
theorem Wq:laidOutB pg0=true:=by kernel_rfl
theorem V4:Tryz.prog.globalNamed "internal/strconv.uint64pow10"=some 3:=by kernel_rfl
theorem Wy:(Tryz.prog.globals[3]?).map (·.type)=some 331:=by kernel_rfl
theorem Zg:Tryz.prog.cellsOf 331=20:=by kernel_rfl
theorem ZU:Tryz.prog.cellsOf 272=1:=by kernel_rfl
theorem OS {P:Program} {x:String×DataW Unit} {r:List (String×DataW Unit)} {w:World} (h:laidMet P (x::r) w):laidMet P r w:=by
 obtain ⟨ps,⟨g,t,cs,fuel,p,q,h1,n,u,v,d,rfl⟩,j,i⟩:=h
 exact ⟨q,d,(cD.1 j).2.1,λb off hb=>i b off (aO.2 (.inr hb))⟩
theorem aaM {W:World} (h:laidMetH pg0 Rows.changeLosesUptoRow.laid W):Cx pg0 (hp W):=by
 have i:laidMet pg0 [("math/bits.deBruijn32tab",Rows.laid_math_bits_deBruijn32tab),("math/bits.deBruijn64tab",Rows.laid_math_bits_deBruijn64tab),("internal/strconv.uint64pow10",Go.Lib.tabData .u64 Go.Lib.pow10Tab)] W:=h
 have h1:=Go.Lib.tabIs_of_head (rest:=[]) V4 Wy Tryz.underlying331 Tryz.underlying272 ZU Zg (OS (OS i))
 unfold Go.Lib.TabIs World.var? at h1
 rw [V4] at h1
 simp only [aA] at h1
 cases d:W.heap[3]? with
 | none=>rw [d] at h1; cases h1
 | some o=>
  rw [d] at h1
  cases o with
  | cells cs T fr=>
   obtain rfl:=fZ h1
   exact ⟨3,_,_,V4,d⟩
  | _=>exact absurd (show (none:Option (Array Value))=some _ from h1) (λh=>by cases h)
def aaA:DataW Unit→Array Value
 | .agg l=>(l.map λx=>match x with | .lit (.int k z)=>Value.int k z | _=>Value.nilIface).toArray
 | _=>#[]
def Pj (d:DataW Unit) (o:Obj):Obj:=match o with | .cells _ t frozen=>.cells (aaA d) t frozen | o=>o
theorem V7 (H:Type) (enc:TypeId×Value→H) (W:World) (base:Nat) (args:Array Value) (ds gs:List (DataW H)) (before:List MemPlace) (ao:∀(j:Nat) t v,Tryz.f8.params[j]? =some t→args[j]? =some v→Value.okWide pg0 W .any base t v) (hW:DataW.Whole enc pg0 Tryz.f8.params.toList Rows.changeLosesSpec.vars false W args.toList ds gs before) (hk:Rows.uptoSmall H (ds++gs)=true) (hL:laidMetH pg0 Rows.changeLosesUptoRow.laid W) :
  Calls pg0 8 args W λe W'=>∃v,e= .returned v∧Rows.changeLosesSpec.post enc pg0 Tryz.f8 false true false false W args v W':=by
 have e0:=hW
 obtain ⟨p,q,dk,hV,rfl,eI,eN⟩:=hW
 have hA:DataW.TrodAll enc pg0 W 0 (λ_=>true) true Tryz.f8.params.toList args.toList ds p:=dk
 have hr:∀t∈Tryz.f8.params.toList,Tryz.prog.readableRec t=true∧t < Tryz.prog.types.size:=by
  rw [Tryz.params8]
  intro t ht
  simp only [aP,dv,fl] at ht
  rcases ht with rfl | rfl
  ·exact aaN
  ·exact aaS
 rw [Tryz.params8] at hA ao
 obtain ⟨v0,eR,d0,ea,p0,q0,e1,rfl,rfl,h0,r0⟩:=trodAll_cons hA
 obtain ⟨v1,eS,d1,eb,p1,q1,rfl,rfl,rfl,h1,r1⟩:=trodAll_cons r0
 obtain ⟨rfl,rfl,rfl⟩:=trodAll_nil r1
 obtain rfl:args=#[v0,v1]:=by cases args; simp_all
 obtain ⟨rfl,rfl⟩:=trodVars_none hV
 have k0:=ao 0 34 v0 rfl rfl
 have k1:=ao 1 63 v1 rfl rfl
 obtain ⟨c5,rfl,_⟩:=okWide_struct Tryz.underlying34 k0
 obtain ⟨ec,cn⟩:=h0
 obtain ⟨e2,rfl⟩:∃l:List Value,c5=l.toArray:=⟨c5.toList,by simp⟩
 change DataW.trod _ _ _ _ _ _ _ _ e2=some _ at cn
 obtain ⟨e7,n18,_,cq,cp,aq,U⟩:=ei Tryz.underlying34 cn
 obtain ⟨bi,bj,bk,bl,bp,bq,bs,bt,bu,rfl⟩:=YR aq
 obtain ⟨A,d,i,E,n,u,P,Q,R,T,w,G,I,J,L,M,O,x,rfl⟩:=aaz (cp.trans X7)
 have Y:DataW.trod _ pg0 W _ _ _ n18 25 (([A,d,i,E,n,u,P,Q,R,T,w,G,I,J,L,M,O,x].drop 0).take (Tryz.prog.cellsOf 25))=some bi:=U 0 _ rfl
 have Z:DataW.trod _ pg0 W _ _ _ n18 25 (([A,d,i,E,n,u,P,Q,R,T,w,G,I,J,L,M,O,x].drop 3).take (Tryz.prog.cellsOf 25))=some bj:=U 1 _ rfl
 have a6:DataW.trod _ pg0 W _ _ _ n18 30 (([A,d,i,E,n,u,P,Q,R,T,w,G,I,J,L,M,O,x].drop 6).take (Tryz.prog.cellsOf 30))=some bk:=U 2 _ rfl
 have a7:DataW.trod _ pg0 W _ _ _ n18 3 (([A,d,i,E,n,u,P,Q,R,T,w,G,I,J,L,M,O,x].drop 11).take (Tryz.prog.cellsOf 3))=some bl:=U 3 _ rfl
 have a8:DataW.trod _ pg0 W _ _ _ n18 31 (([A,d,i,E,n,u,P,Q,R,T,w,G,I,J,L,M,O,x].drop 12).take (Tryz.prog.cellsOf 31))=some bp:=U 4 _ rfl
 have aa:DataW.trod _ pg0 W _ _ _ n18 3 (([A,d,i,E,n,u,P,Q,R,T,w,G,I,J,L,M,O,x].drop 14).take (Tryz.prog.cellsOf 3))=some bq:=U 5 _ rfl
 have ab:DataW.trod _ pg0 W _ _ _ n18 3 (([A,d,i,E,n,u,P,Q,R,T,w,G,I,J,L,M,O,x].drop 15).take (Tryz.prog.cellsOf 3))=some bs:=U 6 _ rfl
 have ad:DataW.trod _ pg0 W _ _ _ n18 3 (([A,d,i,E,n,u,P,Q,R,T,w,G,I,J,L,M,O,x].drop 16).take (Tryz.prog.cellsOf 3))=some bt:=U 7 _ rfl
 have ae:DataW.trod _ pg0 W _ _ _ n18 32 (([A,d,i,E,n,u,P,Q,R,T,w,G,I,J,L,M,O,x].drop 17).take (Tryz.prog.cellsOf 32))=some bu:=U 8 _ rfl
 simp only [YI,LI,Hi,R0,Yy,List.drop,List.take] at Y Z a6 a7 a8 aa ab ad ae
 obtain ⟨e8,n19,_,cr,e5,ar,al⟩:=ei Tryz.underlying25 Y
 obtain ⟨bw,bx,bz,rfl⟩:=WW ar
 have af:DataW.trod _ pg0 W _ _ _ n19 9 (([A,d,i].drop 0).take (Tryz.prog.cellsOf 9))=some bw:=al 0 _ rfl
 have ag:DataW.trod _ pg0 W _ _ _ n19 22 (([A,d,i].drop 1).take (Tryz.prog.cellsOf 22))=some bx:=al 1 _ rfl
 have ah:DataW.trod _ pg0 W _ _ _ n19 23 (([A,d,i].drop 2).take (Tryz.prog.cellsOf 23))=some bz:=al 2 _ rfl
 simp only [Re,RP,IY,List.drop,List.take] at af ag ah
 obtain ⟨av,c6,cv⟩:=KK _ _ _ _ _ _ _ _ _ af
 simp only [aY,dL] at c6
 obtain rfl:=c6
 obtain ⟨v21,aw,c7,b7,cw⟩:=vl M9 (by decide) Ul Tryz.underlying22 ag
 simp only [aY,dL] at c7
 obtain rfl:=c7
 obtain ⟨b7,g21⟩:=Lf.Sl.all b7
 obtain ⟨v22,ay,c8,b9,cx⟩:=vl KO (by decide) RY Tryz.underlying23 ah
 simp only [aY,dL] at c8
 obtain rfl:=c8
 obtain ⟨b9,g22⟩:=Lf.Sl.all b9
 have cu:=bA (λz=>Rows.uptoBulk z.1) cr
 obtain ⟨e9,n23,_,cs,e6,au,an⟩:=ei Tryz.underlying25 Z
 obtain ⟨c0,c3,c4,rfl⟩:=WW au
 have ai:DataW.trod _ pg0 W _ _ _ n23 9 (([E,n,u].drop 0).take (Tryz.prog.cellsOf 9))=some c0:=an 0 _ rfl
 have aj:DataW.trod _ pg0 W _ _ _ n23 22 (([E,n,u].drop 1).take (Tryz.prog.cellsOf 22))=some c3:=an 1 _ rfl
 have ak:DataW.trod _ pg0 W _ _ _ n23 23 (([E,n,u].drop 2).take (Tryz.prog.cellsOf 23))=some c4:=an 2 _ rfl
 simp only [Re,RP,IY,List.drop,List.take] at ai aj ak
 obtain ⟨az,c9,cz⟩:=KK _ _ _ _ _ _ _ _ _ ai
 simp only [aY,dL] at c9
 obtain rfl:=c9
 obtain ⟨v25,aE,ca,ba,cS⟩:=vl M9 (by decide) Ul Tryz.underlying22 aj
 simp only [aY,dL] at ca
 obtain rfl:=ca
 obtain ⟨ba,eg⟩:=Lf.Sl.all ba
 obtain ⟨v26,b0,cb,bc,da⟩:=vl KO (by decide) RY Tryz.underlying23 ak
 simp only [aY,dL] at cb
 obtain rfl:=cb
 obtain ⟨bc,eh⟩:=Lf.Sl.all bc
 have cy:=bA (λz=>Rows.uptoBulk z.1) cs
 obtain ⟨b1,bd,db⟩:=O3 _ _ _ _ _ _ _ _ _ a6
 obtain ⟨v27,cc,bd⟩:=bd.out
 simp only [aY,dL] at cc
 obtain ⟨rfl,rfl,rfl,rfl,rfl⟩:=cc
 obtain ⟨b2,⟨cd,df⟩,_⟩:=Js _ _ _ _ _ _ _ _ _ a7
 simp only [Pl,mh,aY,dL] at cd
 obtain rfl:=cd
 obtain ⟨ap,⟨cf,cm⟩,_⟩:=ZA _ _ _ _ _ _ _ _ _ a8
 simp only [Pl,Mx,aY,dL] at cf
 obtain ⟨rfl,rfl⟩:=cf
 have e4:N6 ap≤0:=aR _
 obtain ⟨b3,⟨cg,dh⟩,_⟩:=Js _ _ _ _ _ _ _ _ _ aa
 simp only [Pl,mh,aY,dL] at cg
 obtain rfl:=cg
 obtain ⟨b4,⟨ch,di⟩,_⟩:=Js _ _ _ _ _ _ _ _ _ ab
 simp only [Pl,mh,aY,dL] at ch
 obtain rfl:=ch
 obtain ⟨b5,⟨cj,dj⟩,_⟩:=Js _ _ _ _ _ _ _ _ _ ad
 simp only [Pl,mh,aY,dL] at cj
 obtain rfl:=cj
 obtain ⟨v33,b6,ck,bf,de⟩:=vl PM (by decide) YH Tryz.underlying32 ae
 simp only [aY,dL] at ck
 obtain rfl:=ck
 obtain ⟨bf,en⟩:=Lf.Sl.all bf
 have ct:=bA (λz=>Rows.uptoBulk z.1) cq
 simp only [List.map,Rows.uptoBulk,Rows.uptoBulkAll] at cv cw cx cu cz cS da cy db de ct
 have z0:L3 (⟨⟨av,aw,ay⟩,⟨az,aE,b0⟩,b1,b2,ap,b3,b4,b5,b6⟩:mY)≤Rows.uptoBulk d0:=by simp only [L3]; omega
 have bh:ZV (⟨⟨av,aw,ay⟩,⟨az,aE,b0⟩,b1,b2,ap,b3,b4,b5,b6⟩:mY):=⟨df,cm.1,cm.2,dh,di,dj⟩
 obtain ⟨a1,e3,z1⟩:=QT (k:=1) YQ (by decide) aaO Tryz.underlying63 k1 h1
 have hB:Rows.uptoBulkAll ([d0,d1]++[])≤1048576:=iA hk
 simp only [aT,Rows.uptoBulkAll] at hB
 have hm:xm (⟨⟨av,aw,ay⟩,⟨az,aE,b0⟩,b1,b2,ap,b3,b4,b5,b6⟩:mY) a1=some true:=Kx Yv _ _ (YA _ (by omega)) bh
 have hg:=Im (⟨⟨av,aw,ay⟩,⟨az,aE,b0⟩,b1,b2,ap,b3,b4,b5,b6⟩:mY) d i n u w x v1 a1 true W (aaM hL) b7 b9 ba bc bd bf e3 hm
 refine dA hg λe W' ⟨he,hx⟩=>?_
 subst he
 exact ⟨_,rfl,Sx Wq hr rfl e0 hx (λ_ _ _=>trodAll_cons_mk (shut_bool Tryz.underlying4 _) trodAll_mk0) rfl rfl (ok_one (by kernel_rfl) rfl (okWide_bool_mk Tryz.underlying4 _))⟩
noncomputable def It (os:Os):World :=
 { World.holding pg0 os ⟨#[],#[],[]⟩ with heap:=(((World.holding pg0 os ⟨#[],#[],[]⟩).heap.modify 4 (Pj Rows.laid_math_bits_deBruijn32tab)).modify 5 (Pj Rows.laid_math_bits_deBruijn64tab)).modify 3 (Pj Rows.laid_internal_strconv_uint64pow10) }
theorem Wr (os:Os):laidMet pg0 Rows.changeLosesUptoRow.laid ((It os).forCall (λ_ _=>0) ⟨#[],#[.agg #[.string ⟨#[]⟩,.slice none 0 0,.slice none 0 0,.string ⟨#[]⟩,.slice none 0 0,.slice none 0 0,.int .i64 0,.int .i64 0,.string ⟨#[]⟩,.string ⟨#[]⟩,.slice none 0 0,.int .i64 0,.int .i64 0,.int .i64 0,.int .i64 0,.int .i64 0,.int .i64 0,.slice none 0 0],.slice none 0 0],[]⟩).memory :=
 laidMet_of_run' 8 (by kernel_rfl) (by kernel_rfl)
theorem aah (os:Os) {H:Type} (enc:TypeId×Value→H):∃places,DataW.whole enc pg0 ((It os).forCall (λ_ _=>0) ⟨#[],#[.agg #[.string ⟨#[]⟩,.slice none 0 0,.slice none 0 0,.string ⟨#[]⟩,.slice none 0 0,.slice none 0 0,.int .i64 0,.int .i64 0,.string ⟨#[]⟩,.string ⟨#[]⟩,.slice none 0 0,.int .i64 0,.int .i64 0,.int .i64 0,.int .i64 0,.int .i64 0,.int .i64 0,.slice none 0 0],.slice none 0 0],[]⟩).memory Tryz.f8.params.toList Rows.changeLosesSpec.vars false #[.agg #[.string ⟨#[]⟩,.slice none 0 0,.slice none 0 0,.string ⟨#[]⟩,.slice none 0 0,.slice none 0 0,.int .i64 0,.int .i64 0,.string ⟨#[]⟩,.string ⟨#[]⟩,.slice none 0 0,.int .i64 0,.int .i64 0,.int .i64 0,.int .i64 0,.int .i64 0,.int .i64 0,.slice none 0 0],.slice none 0 0].toList 8=some ([.agg [.agg [.lit (.string []),.nil,.nil],.agg [.lit (.string []),.nil,.nil],.agg [.lit (.int .i64 0),.lit (.int .i64 0),.agg [.lit (.string []),.lit (.string [])],.nil],.lit (.int .i64 0),.agg [.lit (.int .i64 0),.lit (.int .i64 0)],.lit (.int .i64 0),.lit (.int .i64 0),.lit (.int .i64 0),.nil],.nil],[],places) :=
 ⟨[],by kernel_rfl⟩
set_option maxRecDepth 100000 in
theorem ZC (os:Os) (started:os.Started) (H:Type) (enc:TypeId×Value→H) (F:Stop.Interp) :
  ReturnsInHanded {} Tryz.checked os 8 .any ((Rows.OpenSpec.upto Rows.changeLosesSpec).preRow enc pg0 Tryz.f8 Rows.changeLosesUptoRow.domain false Rows.changeLosesUptoRow.laid) (((Rows.OpenSpec.upto Rows.changeLosesSpec).at F).post enc pg0 Tryz.f8 false true false false):=by
 obtain ⟨places,p⟩:=aah os enc
 refine returnsInHanded_of_row (C:=Tryz.checked) (s:=Rows.OpenSpec.upto Rows.changeLosesSpec) own started (by kernel_rfl) Tryz.func8
  (witness_row_at (enc:=enc) (C:=Tryz.checked) false (It os) #[.agg #[.string ⟨#[]⟩,.slice none 0 0,.slice none 0 0,.string ⟨#[]⟩,.slice none 0 0,.slice none 0 0,.int .i64 0,.int .i64 0,.string ⟨#[]⟩,.string ⟨#[]⟩,.slice none 0 0,.int .i64 0,.int .i64 0,.int .i64 0,.int .i64 0,.int .i64 0,.int .i64 0,.slice none 0 0],.slice none 0 0] rfl (by kernel_rfl) (by kernel_rfl) (by kernel_rfl)
   (OpenSpec.preRow_of_cond 8 p (by kernel_rfl) (λk hk=>by cases hk; kernel_rfl) (by kernel_rfl) (Wr os))) ?_
 intro W base args ds gs before i n _ d _ j _ _
 exact V7 H enc W base args ds gs before i n (d _ rfl) j
theorem aat {a b:Bool} (ha:a=true) (hb:b=true):(a&&b)=true:=by rw [ha,hb]; rfl
set_option maxHeartbeats 40000000 in
theorem XL:joinedFacts Tryz.checked.prog 8 Tryz.f8 (Rows.OpenSpec.upto Rows.changeLosesSpec).bare Rows.changeLosesUptoRow=true:=by
 unfold joinedFacts
 repeat' with_reducible refine aat ?_ ?_
 all_goals as_aux_lemma=>kernel_rfl
theorem aaP:Rows.ChangeLosesUptoSaid :=
 OpenClaim.holds_of_cond 8 Tryz.f8 rfl rfl rfl rfl rfl rfl rfl ⟨rfl,rfl,rfl,rfl,rfl⟩ rfl rfl rfl rfl rfl (by kernel_rfl) Tryz.func8 XL
  (iA (by kernel_rfl)) (by unfold Func.isWrapper; first | (rw [bD (by decide +kernel)]; kernel_rfl) | (rw [bG (by decide +kernel)]; exact ⟨rfl,rfl⟩))
  (λos started H enc _ F=>by rw [OpenClaim.pre_eq_preRow]; exact ZC os started H enc F)
theorem Zj (f:FuncId) (fn:Func) (p:Tryz.pinned.checked.prog.funcNamed "entente/ententelaw50.ChangeLoses"=some f) (i:Tryz.pinned.checked.prog.funcs[f]? =some fn) :
  true=Tryz.pinned.checked.prog.looks []∧∀(j:Nat) t,fn.params[j]? =some t→Tryz.pinned.checked.prog.wantsStandIn t=false:=by
 obtain rfl:f=8:=fZ ((show Tryz.prog.funcNamed "entente/ententelaw50.ChangeLoses"=some 8 by kernel_rfl).symm.trans p) |>.symm
 obtain rfl:fn=Tryz.f8:=(fZ (Tryz.func8.symm.trans i)).symm
 refine ⟨by kernel_rfl,λj t n=>?_⟩
 rw [Tryz.params8] at n
 have hm:t∈[34,63]:=by simpa using Array.mem_of_getElem? n
 have d:([34,63].all λu=>!Tryz.prog.wantsStandIn u)=true:=by kernel_rfl
 exact (show Tryz.prog.wantsStandIn t=false by simpa using dP.1 d t hm)
theorem ck1:Rows.changeLosesUptoRow.wfByText (Rows.OpenSpec.upto Rows.changeLosesSpec)=true:=by kernel_rfl
theorem ck2:Tryz.pinned.checked.prog.mainIs=some (Rows.changeLosesUptoCard.stood.harness.1,Rows.changeLosesUptoCard.stood.harness.2.toList):=by kernel_rfl
theorem ck3:false=Rows.changeLosesUptoRow.goesBy Tryz.pinned.checked.prog:=by kernel_rfl
theorem proved:Rows.ChangeLosesUptoCardSaid :=
 Claim7.holds_tied_plain_at .later [] _ _ _ _ aaP (λ_ h=>by cases h) ck1 (λ_ h=>by cases h) changeLosesUpto_row_tie rfl ⟨rfl,rfl⟩ ck2 rfl Zj ck3
end Go.Proofs.YtjjjihkifgdhgaaGreatDoor
