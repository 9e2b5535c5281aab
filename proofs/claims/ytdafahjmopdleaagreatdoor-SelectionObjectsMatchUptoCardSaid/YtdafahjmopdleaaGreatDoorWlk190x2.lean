/- Walks, as printed. -/
import Derived.Test.YtdafahjmopdleaaGreatDoorWlk190
import Derived.Test.YtdafahjmopdleaaGreatDoorProg
set_option linter.all false
set_option maxHeartbeats 4000000
set_option maxRecDepth 20000
set_option linter.unusedVariables false
namespace Go.Proofs.YtdafahjmopdleaaGreatDoor.Al
open Go.Proofs Go.Proofs.Tryz
set_option linter.defProp false
theorem mI{c1:List AC}{B:List AC}{C:List AC}{r:(List AC)}{j:Nat}{l:Nat}(h:Ri c1 B C=some r):Bf prog 144 2 [qa B,qa C,.fn 189 [.ptr 1000 j 0 0]] [(1000,some<|.box j 39 [.own 1001 l]),(1001,some<|.arr l 58 2<|c1.map AC.row)] (λE h'=>∃(i:Nat→Nat),E=.tup []∧h'=[(1000,some<|.box j 39 [.own 1001<|i 0]),(1001,some<|.arr (i 0) 58 2<|r.map AC.row)]):=by
 unfold Ri at h
 refine EI func144 R R ntmps144 (Zz R) λn0=>aU<|mA R<|mA R<|aZ<|Zf<|BJ h λo4 w av F=>IU (λ(I:Int) (J:Int) (o2:List AC) q=>⟨[(0,qa B),(1,qa C),(2,.fn 189 [.ptr 1000 j 0 0]),(6,rI I),(7,rI J)],[(1000,some<|.box j 39 [.own 1001<|q 0]),(1001,some<|.arr (q 0) 58 2<|o2.map AC.row)],(q 1),92⟩) (AH [l,n0]) w wk ?_
 intro I J o2 q v1 M O
 have h1:Qn B C I J o2=some v1:=M;unfold Qn at h1
 refine aT λC2=>aU<|mM R<|mM R<|xL Af R<|xS R<|mM R<|vM R<|vM R<|vQ R (Bq R Af.slice<|iR R)<|vQ R (B7 R (iR R)<|iR R)<|xO R<|aZ<|cI R h1 (λT=>?_) λT=>?_
 ·refine Zd<|C2 _<|Zf<|Zf<|aT λC4=>?_
  refine ZB BF (by kernel_rfl) ?_
  refine qP R (AK R iL)<|qP R (AK R iL)<|qP R (Bq R Af.slice iL)<|qP R (Aw R iL iL)<|qP R (AK R iL)<|qO R (AK R iL)<|qO R (AK R iL)<|qO R (Bq R Af.slice<|iR R)<|qO R (B7 R (iR R)<|iR R)<|qO R (AK R<|iR R)<|qT R (AK R iL)<|qT R (AK R iL)<|AE T λx1 U h3=>qT R (At R Af.slice (iR R) (iR R) (λ_=>R)<|AP U)<|qT R (A6 R Cb<|iR R)<|qT R (BV (d:=.str x1.Name) R BG (iR R) R)<|qT R (AK R iL)<|qT R (AK R iL)<|AE h3 λx2 V h4=>qT R (At R Af.slice (iR R) (iR R) (λ_=>R)<|AP V)<|qT R (A6 R Cb<|iR R)<|qT R (BV (d:=.str x2.Name) R BG (iR R) R)<|qT R (Lr R (iR R)<|iR R)<|qO R (BQ R (iR R)<|iR R)<|qP R (CB R iL<|iR R)<|qP R (DU R iL)<|AQ.nil<|C4 _<|cI R h4 (λX=>?_) λX=>?_
  ·refine aT λC5=>aG [0,1,2,6,7] [1000,1001] ?_
   refine aR<|mM R<|mM R<|mM R<|AE X λx3 Y h6=>xI Af R Y<|xB ((BL x3)) CO R ?_
   refine sQ R (BM R Fo (q:=[]) (by exact Za) (cs:=[.r<|.str [],.r<|.str []])<|by rfl) ?_
   refine AE h6 λw1 Z h7=>?_
   refine Zq [1000,1001] (hc:=[(1000,some<|.box j 39 [.own 1001<|q 0]),(1001,some<|.arr (q 0) 58 2<|o2.map AC.row)]) (bs:=(VS x3)) (caps:=[.ptr 1000 j 0 0]) R R R R iL R ⟨.inl ⟨iL,R⟩,.inl ⟨iL,R⟩,Za⟩ ⟨R,R,R,R,R,R,Za⟩ (by decide) (XS Z) ?_
   intro i8 n1
   refine BC [0,1,2,6,7,56,57,58,59,60,61,62] [1000,1001] ?_
   exact aZ<|C5 _<|aR<|mM R<|AE h7 λi9 a0 h8=>xA R a0<|mA R<|Zi<|Dv.mk h8 (AH [(i8 0),n1]) wk
  refine aT λC6=>aG [0,1,2,6,7] [1000,1001] ?_
  refine ZB BF (by kernel_rfl) ?_
  refine qP R (AK R iL)<|qP R (AK R iL)<|qP R (Bq R Af.slice iL)<|qP R (Aw R iL iL)<|qP R (AK R iL)<|qO R (AK R iL)<|qO R (AK R iL)<|AE X λx4 a2 h9=>qO R (At R Af.slice (iR R) (iR R) (λ_=>R)<|AP a2)<|qO R (A6 R Cb<|iR R)<|qO R (BV (d:=.str x4.Name) R BG (iR R) R)<|qO R (AK R iL)<|qO R (AK R iL)<|AE h9 λx5 a6 a7=>qO R (At R Af.slice (iR R) (iR R) (λ_=>R)<|AP a6)<|qO R (A6 R Cb<|iR R)<|qO R (BV (d:=.str x5.Name) R BG (iR R) R)<|qO R (Lr R (iR R)<|iR R)<|qP R (CB R iL<|iR R)<|qP R (DU R iL)<|AQ.nil<|C6 _<|cI R a7 (λu=>?_) λu=>?_
  ·refine aT λC7=>aR<|mM R ?_
   refine sQ R (BM R Fo (q:=[]) (by exact Za) (cs:=[.r<|.str [],.r<|.str []])<|by rfl) ?_
   refine mM R<|mM R<|AE u λx6 a8 aa=>xI Af R a8<|xB ((BL x6)) CO R<|AE aa λw2 ab ac=>?_
   refine Zq [1000,1001] (hc:=[(1000,some<|.box j 39 [.own 1001<|q 0]),(1001,some<|.arr (q 0) 58 2<|o2.map AC.row)]) (bs:=(Uk x6)) (caps:=[.ptr 1000 j 0 0]) R R R R iL R ⟨.inl ⟨iL,R⟩,.inl ⟨iL,R⟩,Za⟩ ⟨R,R,R,R,R,R,Za⟩ (by decide) (XS ab) ?_
   intro ad n2
   refine BC [0,1,2,6,7,65,66,67,68,69,70,82,83,84,85,86,87,88,89] [1000,1001] ?_
   refine aZ<|C7 _<|aG [0,1,2,6,7] [1000,1001] ?_
   exact aR<|mM R<|AE ac λj4 ae af=>xA R ae<|mA R<|Zi<|Dv.mk af (AH [(ad 0),n2]) wk
  refine aT λC8=>?_
  refine L5 9 BF (by kernel_rfl) R R ?_
  refine Zu R R R (AK R iL)<|Zu R R R (AK R iL)<|Zu R R R (AK R iL)<|AE u λx7 ag ah=>Zu R R R (At R Af.slice iL iL (λ_=>R) λ_=>ag)<|Zu R R R (CV (cs:=(BL x7)) R CO iL R R)<|Zu R R R (AK R iL)<|Zu R R R (AK R iL)<|AE ah λx8 ai aj=>Zu R R R (At R Af.slice iL iL (λ_=>R) λ_=>ai)<|Zu R R R (CV (cs:=(BL x8)) R CO iL R R)<|AT.nil<|AE aj λw3 ak al=>?_
  refine Zq [1000,1001] (hc:=[(1000,some<|.box j 39 [.own 1001<|q 0]),(1001,some<|.arr (q 0) 58 2<|o2.map AC.row)]) (bs:=[.agg<|BL x7,.agg<|BL x8]) (caps:=[.ptr 1000 j 0 0]) R R R R iL R ⟨.inl ⟨iL,R⟩,.inl ⟨iL,R⟩,Za⟩ ⟨R,R,R,R,R,R,Za⟩ (by decide) (XS ak) ?_
  intro an n3
  refine BC [0,1,2,6,7,18,19,20,21,22,23,24,25,26,27,65,66,67,68,69,70,82] [1000,1001] ?_
  refine aZ<|C8 _<|aG [0,1,2,6,7] [1000,1001] ?_
  exact aR<|mM R<|AE al λaw A ao=>xA R A<|mM R<|AE ao λj5 aq ar=>xA R aq<|mA R<|mA R<|Zi<|Dv.mk ar (AH [(an 0),n3]) wk
 refine Zn ?_
 exact CM.mk (s':=⟨[],[(1000,some<|.box j 39 [.own 1001<|q 0]),(1001,some<|.arr (q 0) 58 2<|o2.map AC.row)],(q 1),92⟩) wk<|Ck (λ(r:(List AC)) E h'=>∃(i:Nat→Nat),E=.tup []∧h'=[(1000,some<|.box j 39 [.own 1001<|i 0]),(1001,some<|.arr (i 0) 58 2<|r.map AC.row)]) (F _<|xH O T)<|by exact⟨.tup [],[(1000,some<|.box j 39 [.own 1001<|q 0]),(1001,some<|.arr (q 0) 58 2<|o2.map AC.row)],⟨_,R,Za⟩,⟨.inr R,.inr R,Za⟩,R,R,AH [(q 0)],R,R⟩
theorem rA{l q r}(h:QV l q=some r):AO prog 156 [qa l,qa q] (qa r):=by
 unfold QV at h
 refine mF func156 ntmps156 R λj=>aU<|mA R<|aZ<|aU<|sS R (BB (cs:=[cZ]) 5 R WB R R)<|aZ<|aT λw=>aR<|mM R<|mM R ?_
 refine sQ R (RD (bs:=[.ptr 5 j 0 0]) R<|by exact⟨iL,Za⟩) ?_
 refine AM.weak (Zm (ZN 5 0 3050 58 2 (by decide) R R<|by decide)<|by exact ZD (e':=[(0,qa l),(1,qa q),(4,cZ),(5,.ptr 5 j 0 0),(6,qa l),(7,qa q),(8,.fn 189 [.ptr 5 j 0 0])]) (h':=[(5,some<|.box j 39 [.own 3050<|j+1]),(3050,some<|.arr (j+1) 58 2<|([]:List AC).map AC.row)]) ⟨jL,jL,jL,jL,jL,jL,jL,Za⟩ ⟨.inl R,.inl R,Za⟩ nL) ?_
 refine AE h λC u A=>?_
 refine Zq [5,3050] (hc:=[(1000,some<|.box j 39 [.own 1001<|j+1]),(1001,some<|.arr (j+1) 58 2<|([]:List AC).map AC.row)]) (bs:=[qa l,qa q,.fn 189 [.ptr 1000 j 0 0]]) (caps:=[]) R R R R iL R ⟨.inl ⟨iL,R⟩,.inl ⟨iL,R⟩,.inl ⟨iL,R⟩,Za⟩ ⟨R,R,R,R,R,R,Za⟩ (by decide) (mI u) ?_
 intro B E
 refine BC [0,1,4,5,6,7,8,9] [5,3050] ?_
 exact aZ<|w _<|aU<|sQ R (AU (a:=.own 3050<|B 0) R BE iL R R)<|mA R<|aZ<|Zk<|DE (P:=prog) (λ(r:(List AC))=>qa r) A iL<|.t<|.one<|.own R
theorem pb{A c r}(h:O4 A c=some r):AO prog 157 [qb A,qa c] (qb r):=by
 unfold O4 at h
 refine mF func157 ntmps157 R λZ=>aU<|mA R<|aZ<|aU<|mM R<|xL Ar R<|AE h λa0 u h1=>sS R (Th 10 R Ar (f:=AG.row) (z0:=(AG.mk 0 0 [])) WG iL iL u)<|mA R<|aZ<|aS λK3 c3 F=>aU<|mM R<|xL Ar R<|mM R<|aZ<|Zf<|BA h1 λo1 B I=>?_
 have J1:∀(j:List AG) (E:NN),o1=j→K3 ⟨[(5,.own 10<|E 0)],[(10,some<|.arr (E 0) 51 3<|j.map AG.row)],(E 1),29⟩:=by
  intro j E e
  have h2:=I _ e
  exact c3 _<|aU<|mM R<|mA R<|aZ<|Zk<|DE (P:=prog) (λ(r:(List AG))=>qb r) h2 iL<|.t<|.one<|.own R
 refine DH (λ(J:Int) (l:List AG) q=>⟨[(1,qa c),(5,.own 10<|q 0),(11,qb A),(12,rL A),(13,rI J)],[(10,some<|.arr (q 0) 51 3<|l.map AG.row)],(q 1),29⟩) (AH [Z,(Z+1)]) B wk ?_
 intro J l q v1 M O
 have h3:KF A c J l=some v1:=M;unfold KF at h3
 refine aU<|xS R<|aZ<|aT λc7=>cI R h3 (λT=>?_) λT=>?_
 ·refine Zd<|c7 _<|aT λc8=>Zf<|aU<|mM R<|AE T λw U h5=>xI Ar R U<|xB ((Ag w)) Cf R<|sS R (BB (cs:=Ec) 7 R EV R R)<|mA R<|Zj R R (Ac (ds:=(Ag w)) R DK iL R iL R R R R)<|aZ<|aU<|lF Cr BE R R<|mM R<|AE h5 λV X h6=>sS R (B4 (r:=qa V) (caps:=[]) (bs:=[qa w.Attrs,qa c]) R iL R ⟨.inl ⟨iL,R⟩,.inl ⟨iL,R⟩,Za⟩ λ_=>YR<|X)<|sQ R (fB R Cr iL fR R)<|Zj R R (Ac (ds:=[rI w.Char,rI w.Ref,qa V]) R GZ iL R iL R R R R)<|aZ<|aG [1,5,6,7,11,12,13] [7,10] ?_
  exact aR<|mM R<|mM R<|xC Cf R<|AE h6 λx5 C h7=>sQ R (GB R Ar.slice iL R iL λ_=>C)<|Zj R R (Vd (v:=(AG.mk w.Char w.Ref V)) R DK iL R C iL R R R R)<|aZ<|c8 _<|aR<|AE h7 λx6 Y h8=>xA R Y<|mM R<|Zi<|ZL h8 (AH [(q 0),((q 1)+1)]) wk
 exact Zn<|F _ _ wk<|J1 _ (AH [(q 0),(q 1)])<|xH O T
theorem lU{B C r}(h:Nk B C=some r):AO prog 108 [qd B,qd C] (.tup [qd r.1,rI r.2]):=by
 unfold Nk at h
 refine mF func108 ntmps108 R λj=>aU<|mA R<|mA R<|aZ<|aT λc2=>aU<|mM R<|AE h λe1 b4 h1=>cL (Px<|b4) R<|mA R<|aZ<|aU<|mM R<|xU R<|aZ<|cI R h1 (λh2=>?_) λh2=>?_
 ·exact aU<|mM R<|mA R<|mA R<|aZ<|Zk<|Ct (P:=prog) (λ(r:(List AI) × Int)=>qd r.1) (λ(r:(List AI) × Int)=>rI r.2) h2 iL (.t<|.one<|.nil)<|.t<|.d R
 refine Zd<|c2 _<|aT λc6=>aU<|mM R<|AE h2 λe2 b5 h3=>cL (Px<|b5) R<|mA R<|aZ<|aT λc8=>aF [0,1,7] ?_
 refine aR<|mM R<|xU R<|aZ<|c8 _<|cI R h3 (λh4=>?_) λh4=>?_
 ·exact aU<|mM R<|mA R<|mA R<|aZ<|Zk<|Ct (P:=prog) (λ(r:(List AI) × Int)=>qd r.1) (λ(r:(List AI) × Int)=>rI r.2) h4 iL (.t<|.one<|.nil)<|.t<|.d R
 refine Zd<|c6 _<|aU<|mM R<|D2 h4 λr1 r2 b6 h5=>cL (TX<|b6) R<|mM R<|xX R<|xX R<|mA R<|mA R<|aZ<|aT λb7=>aT λb8=>aF [0,1,9] ?_
 refine aR<|mM R<|D2 h5 λr3 r4 b9 h6=>cL (TX<|b9) R<|mM R<|xX R<|xX R<|mA R<|mA R<|aZ<|b8 _<|aU<|mM R<|mM R<|xU R<|aZ<|cI R h6 (λh7=>?_) λh7=>?_
 ·refine aT λba=>aF [] ?_
  exact aR<|mA R<|mA R<|aZ<|ba _<|Zk<|Ct (P:=prog) (λ(r:(List AI) × Int)=>qd r.1) (λ(r:(List AI) × Int)=>rI r.2) h7 iL (.t<|.one<|.nil)<|.t<|.d R
 refine Zd<|b7 _<|aT λbb=>aF [0,1] ?_
 refine aR<|sS R (BB (cs:=N9) 12 R SB R R)<|aZ<|bb _<|aT λbc=>aR<|mM R ?_
 refine sQ R (BM R TA (q:=[(0,_)]) (by exact⟨R,R,R,iL,Za⟩) (cs:=[qd B,rI 0])<|by rfl) ?_
 refine sS R (Az (cs:=[qd B,rI 0]) 43 R iL R R)<|mM R ?_
 refine sQ R (BM R TA (q:=[(0,_)]) (by exact⟨R,R,R,iL,Za⟩) (cs:=[qd C,rI 0])<|by rfl) ?_
 refine sS R (Az (cs:=[qd C,rI 0]) 46 R iL R R)<|mA R<|mA R<|aZ<|bc _<|aS λbd be a8=>Zf<|BA h7 λo1 aa bf=>?_
 have J1:∀(I:Ah) (E:NN),o1=I→bd ⟨[(12,.ptr 12 j 0 0)],[(12,some<|.box j 193 [.own 3120<|E 0,.own 3121<|E 1,rI I.cut]),(3120,some<|.arr (E 0) 100 4<|I.out.map AI.row),(3121,some<|.arr (E 1) 51 3<|I.add.map AG.row)],(E 2),127⟩:=by
  intro I E e
  have h8:=bf _ e
  refine be _<|aT λbg=>aR<|Gl h8 λr5 r6 w5 bh h9=>?_
  refine Zq [12,3120,3121] (hc:=[(1000,some<|.box j 193 [.own 1001<|E 0,.own 1002<|E 1,rI I.cut]),(1001,some<|.arr (E 0) 100 4<|I.out.map AI.row),(1002,some<|.arr (E 1) 51 3<|I.add.map AG.row)]) (bs:=[.ptr 1000 j 0 0]) (caps:=[]) R R R R iL R ⟨.inl ⟨iL,R⟩,Za⟩ ⟨R,R,R,R,R,R,R,R,R,Za⟩ (by decide) (R6 bh) ?_
  intro i6 n1
  refine BC [12,124] [12] ?_
  exact xX R<|xX R<|mA R<|mA R<|aZ<|bg _<|Zk<|Ct (P:=prog) (λ(r:(List AI) × Int)=>qd r.1) (λ(r:(List AI) × Int)=>rI r.2) h9 iL (.t<|.d R)<|.t<|.d R
 refine IU (λ(u:Ah) (q:BX) (w:BX) l=>⟨[(12,.ptr 12 j 0 0),(13,.ptr 43 (j+1) 0 0),(14,.ptr 46 (j+2) 0 0)],[(12,some<|.box j 193 [.own 3120<|l 0,.own 3121<|l 1,rI u.cut]),(43,some<|.box (j+1) 196 [qd q.steps,rI q.used]),(46,some<|.box (j+2) 196 [qd w.steps,rI w.used]),(3120,some<|.arr (l 0) 100 4<|u.out.map AI.row),(3121,some<|.arr (l 1) 51 3<|u.add.map AG.row)],(l 2),127⟩) (AH [(j+3),(j+4),(j+5)]) aa (Zm (Zm (ZN 12 0 3120 100 4 (by decide) R R<|by decide)<|by exact ZD (e':=[(0,qd B),(1,qd C),(12,.ptr 12 j 0 0),(13,.ptr 43 (j+1) 0 0),(14,.ptr 46 (j+2) 0 0),(41,qd B),(42,.agg [qd B,rI 0]),(43,.ptr 43 (j+1) 0 0),(44,qd C),(45,.agg [qd C,rI 0]),(46,.ptr 46 (j+2) 0 0)]) (h':=[(12,some<|.box j 193 [.own 3120<|j+3,cZ,rI 0]),(43,some<|.box (j+1) 196 [qd B,rI 0]),(46,some<|.box (j+2) 196 [qd C,rI 0]),(3120,some<|.arr (j+3) 100 4<|([]:List AI).map AI.row)]) ⟨jL,jL,jL,jL,jL,jL,jL,jL,jL,jL,jL,Za⟩ ⟨.inl R,.inl R,.inl R,.inl R,Za⟩ nL)<|Zm (Zm (ZN 12 1 3121 51 3 (by decide) R R<|by decide)<|by exact ZD (e':=[(0,qd B),(1,qd C),(12,.ptr 12 j 0 0),(13,.ptr 43 (j+1) 0 0),(14,.ptr 46 (j+2) 0 0),(41,qd B),(42,.agg [qd B,rI 0]),(43,.ptr 43 (j+1) 0 0),(44,qd C),(45,.agg [qd C,rI 0]),(46,.ptr 46 (j+2) 0 0)]) (h':=[(12,some<|.box j 193 [.own 3120<|j+3,.own 3121<|j+4,rI 0]),(43,some<|.box (j+1) 196 [qd B,rI 0]),(46,some<|.box (j+2) 196 [qd C,rI 0]),(3120,some<|.arr (j+3) 100 4<|([]:List AI).map AI.row),(3121,some<|.arr (j+4) 51 3<|([]:List AG).map AG.row)]) ⟨jL,jL,jL,jL,jL,jL,jL,jL,jL,jL,jL,Za⟩ ⟨.inl R,.inl R,.inl R,.inl R,.inl R,Za⟩ nL) wk) ?_
 intro u q w l v1 bi bj
 have ab:Nd u q w=some v1:=bi;unfold Nd at ab
 refine aT λbk=>aS λbl bm J=>aR<|mM R<|AE ab λr7 ac bn=>?_
 refine Zq [43] (hc:=[(1000,some<|.box (j+1) 196 [qd q.steps,rI q.used])]) (bs:=[.ptr 1000 (j+1) 0 0]) (caps:=[]) R R R R iL R ⟨.inl ⟨iL,R⟩,Za⟩ ⟨R,R,R,Za⟩ (by decide) (Jv ac) ?_
 intro i7 n2
 refine BC [12,13,14,47,48] [12,43,46,3120,3121] ?_
 refine sQ R (Cv R iL iL)<|mM R<|vM R<|BA bn λp4 ad bo=>?_
 have J2:∀(x1:Bool) (i8:NN),p4=x1→bl ⟨[(12,.ptr 12 j 0 0),(13,.ptr 43 (j+1) 0 0),(14,.ptr 46 (j+2) 0 0),(54,rB x1)],[(12,some<|.box j 193 [.own 3120<|l 0,.own 3121<|l 1,rI u.cut]),(43,some<|.box (j+1) 196 [qd q.steps,rI q.used]),(46,some<|.box (j+2) 196 [qd w.steps,rI w.used]),(3120,some<|.arr (l 0) 100 4<|u.out.map AI.row),(3121,some<|.arr (l 1) 51 3<|u.add.map AG.row)],(i8 0),127⟩:=by
  intro x1 i8 e
  have bp:=bo _ e
  refine bm _<|cI R bp (λO=>?_) λO=>?_
  ·refine Zd<|bk _<|Zf<|aT λbq=>Zf<|aT λbr=>aR<|mM R ?_
   refine Zq [43] (hc:=[(1000,some<|.box (j+1) 196 [qd q.steps,rI q.used])]) (bs:=[.ptr 1000 (j+1) 0 0]) (caps:=[]) R R R R iL R ⟨.inl ⟨iL,R⟩,Za⟩ ⟨R,R,R,Za⟩ (by decide) (Jv ac) ?_
   intro i9 n3
   refine BC [12,13,14,54,56,57] [12,43,46,3120,3121] ?_
   refine xQ R<|mA R<|aZ<|br _<|cI R O (λT=>?_) λT=>?_
   ·refine aT λbs=>AE T λr9 bt bu=>D2 bu λF w6 ae bv=>?_
    refine rP 7 [pO 59<|.ptr 12 j 0 2,pO 60<|rI u.cut,pO 61<|.ptr 43 (j+1) 0 0,pO 62<|.ptr 43 (j+1) 0 0,pO 63<|rI r9,⟨some 64,(λ_=>.agg<|Bt F),some (43,(λ_=>some<|.box (j+1) 196 [qd w6.steps,rI w6.used])),[]⟩,pO 65<|rI F.N] BF R (by exact⟨oB [(12,.ptr 12 j 0 0)] [(12,some<|.box j 193 [.own 3120<|l 0,.own 3121<|l 1,rI u.cut])]<|fB R Fp (.inl R) (λ_=>R) R,oB [(59,.ptr 12 j 0 2)] [(12,some<|.box j 193 [.own 3120<|l 0,.own 3121<|l 1,rI u.cut])]<|AU (a:=rI u.cut) R AJ (.inl R) R R,oB [(13,.ptr 43 (j+1) 0 0)] [(43,some<|.box (j+1) 196 [qd q.steps,rI q.used])]<|AK R<|.inl R,oB [(13,.ptr 43 (j+1) 0 0)] [(43,some<|.box (j+1) 196 [qd q.steps,rI q.used])]<|AK R<|.inl R,Ug R R (by intro d h;cases h;rfl) R (λ_=>[(62,.ptr 43 (j+1) 0 0)]) (λ_=>[(43,some<|.box (j+1) 196 [qd q.steps,rI q.used])]) (λD G1 M=>⟨IF M 3 R R (by kernel_rfl) R R,Za⟩) (λD G1 M=>⟨Jb M (by kernel_rfl) R,Za⟩) (λ_ _=>R) λG1 e h' n=>⟨_,SU [43] (hc:=[(1000,some<|.box (j+1) 196 [qd q.steps,rI q.used])]) (bs:=[.ptr 1000 (j+1) 0 0]) (caps:=[]) R (.inl R) R (by exact⟨.inl ⟨(.inl R),R⟩,Za⟩) (by exact⟨R,R,R,Za⟩) (by decide)<|KS bt,YH R⟩,Rj R R (by intro d h;cases h;rfl) R (λ_=>[(61,.ptr 43 (j+1) 0 0),(63,rI r9)]) (λ_=>[(43,some<|.box (j+1) 196 [qd q.steps,rI q.used])]) (λD G1 M=>⟨IF M 2 R R (by kernel_rfl) R R,IF M 4 R R (by kernel_rfl) R R,Za⟩) (λD G1 M=>⟨Jb M (by kernel_rfl) R,Za⟩) λG1 e h' n=>SU [43] (hc:=[(1000,some<|.box (j+1) 196 [qd q.steps,rI q.used])]) (bs:=[.ptr 1000 (j+1) 0 0,rI r9]) (caps:=[]) R (.inl R) R (by exact⟨.inl ⟨(.inl R),R⟩,.inl ⟨(.inl R),R⟩,Za⟩) (by exact⟨R,R,R,Za⟩) (by decide)<|Jo ae,oB [(64,.agg<|Bt F)] []<|VU (a:=rI F.N) R tB (.inl R) R,Za⟩) λG1 n4=>?_
    refine BC [12,13,14,54,55,56,57,58,59,60,61,62,63,64,65] [12,43,46,3120,3121] ?_
    exact AE bv λx2 bw bx=>xA R bw<|sQ R (fB R Fp iL fR R)<|Zj R R (Ac (ds:=[.own 3120<|l 0,.own 3121<|l 1,rI x2]) R Fa iL R iL R R R R)<|aZ<|bs _<|Zn<|Dv.mk bx (AH [(l 0),(l 1),n4]) wk
   refine aT λbz=>aR<|mM R<|AE T λcv af c0=>?_
   refine Zq [46] (hc:=[(1000,some<|.box (j+2) 196 [qd w.steps,rI w.used])]) (bs:=[.ptr 1000 (j+2) 0 0]) (caps:=[]) R R R R iL R ⟨.inl ⟨iL,R⟩,Za⟩ ⟨R,R,R,Za⟩ (by decide) (Jv af) ?_
   intro cw n5
   refine BC [12,13,14,54,55,56,57,58,69,70] [12,43,46,3120,3121] ?_
   refine xQ R<|mA R<|aZ<|bz _<|cI R c0 (λU=>?_) λU=>?_
   ·refine aT λc1=>aG [12,13,14] [12,43,46,3120,3121] ?_
    refine aR<|mM R<|mM R<|AE U λc3 ag c4=>?_
    refine Zq [46] (hc:=[(1000,some<|.box (j+2) 196 [qd w.steps,rI w.used])]) (bs:=[.ptr 1000 (j+2) 0 0]) (caps:=[]) R R R R iL R ⟨.inl ⟨iL,R⟩,Za⟩ ⟨R,R,R,Za⟩ (by decide) (KS ag) ?_
    intro cx n6
    refine BC [12,13,14,72,73,74] [12,43,46,3120,3121] ?_
    refine D2 c4 λah w7 ai c5=>?_
    refine Zq [46] (hc:=[(1000,some<|.box (j+2) 196 [qd w.steps,rI w.used])]) (bs:=[.ptr 1000 (j+2) 0 0,rI c3]) (caps:=[]) R R R R iL R ⟨.inl ⟨iL,R⟩,.inl ⟨iL,R⟩,Za⟩ ⟨R,R,R,Za⟩ (by decide) (Jo ai) ?_
    intro cy n7
    refine BC [12,13,14,72,73,74,75] [12,43,46,3120,3121] ?_
    refine sQ R (VU (a:=qb ah.Elems) R mP iL R)<|AE c5 λw8 c7 c9=>?_
    refine Zq [12,3120,3121] (hc:=[(1000,some<|.box j 193 [.own 1001<|l 0,.own 1002<|l 1,rI u.cut]),(1001,some<|.arr (l 0) 100 4<|u.out.map AI.row),(1002,some<|.arr (l 1) 51 3<|u.add.map AG.row)]) (bs:=[.ptr 1000 j 0 0,qb ah.Elems]) (caps:=[]) R R R R iL R ⟨.inl ⟨iL,R⟩,.inl ⟨iL,R⟩,Za⟩ ⟨R,R,R,R,R,R,R,R,R,Za⟩ (by decide) (PD c7) ?_
    intro aj n8
    refine BC [12,13,14,72,73,74,75,76,77] [12,43,46,3120,3121] ?_
    exact aZ<|c1 _<|Zn<|Dv.mk c9 (AH [(aj 0),(aj 1),n8]) wk
   refine Zd<|bq _<|aT λca=>aG [12,13,14] [12,43,46,3120,3121] ?_
   refine aR<|mM R<|AE U λV ak cb=>?_
   refine Zq [43] (hc:=[(1000,some<|.box (j+1) 196 [qd q.steps,rI q.used])]) (bs:=[.ptr 1000 (j+1) 0 0]) (caps:=[]) R R R R iL R ⟨.inl ⟨iL,R⟩,Za⟩ ⟨R,R,R,Za⟩ (by decide) (KS ak) ?_
   intro cz n9
   refine BC [12,13,14,78,79] [12,43,46,3120,3121] ?_
   refine mM R<|AE cb λX al cc=>?_
   refine Zq [46] (hc:=[(1000,some<|.box (j+2) 196 [qd w.steps,rI w.used])]) (bs:=[.ptr 1000 (j+2) 0 0]) (caps:=[]) R R R R iL R ⟨.inl ⟨iL,R⟩,Za⟩ ⟨R,R,R,Za⟩ (by decide) (KS al) ?_
   intro d0 d1
   refine BC [12,13,14,78,79,80,81] [12,43,46,3120,3121] ?_
   refine sQ R (Kb R iL iL)<|mA R<|aZ<|ca _<|aT λcd=>aR<|mM R<|mM R<|D2 cc λY w9 an cf=>?_
   refine Zq [43] (hc:=[(1000,some<|.box (j+1) 196 [qd q.steps,rI q.used])]) (bs:=[.ptr 1000 (j+1) 0 0,rI<|(min V X)]) (caps:=[]) R R R R iL R ⟨.inl ⟨iL,R⟩,.inl ⟨iL,R⟩,Za⟩ ⟨R,R,R,Za⟩ (by decide) (Jo an) ?_
   intro i16 d2
   refine BC [12,13,14,15,78,79,80,81,82,83,84,85] [12,43,46,3120,3121] ?_
   refine mM R<|mM R<|D2 cf λZ d3 ao cg=>?_
   refine Zq [46] (hc:=[(1000,some<|.box (j+2) 196 [qd w.steps,rI w.used])]) (bs:=[.ptr 1000 (j+2) 0 0,rI<|(min V X)]) (caps:=[]) R R R R iL R ⟨.inl ⟨iL,R⟩,.inl ⟨iL,R⟩,Za⟩ ⟨R,R,R,Za⟩ (by decide) (Jo ao) ?_
   intro d4 aq
   refine BC [12,13,14,15,78,79,80,81,82,83,84,85,86,87,88] [12,43,46,3120,3121] ?_
   refine sS R (BB (cs:=EH) 16 R FM R R)<|sS R (BB (cs:=EH) 17 R FM R R)<|Zj R R (Ac (ds:=(Bt Y)) R FL iL R iL R R R R)<|Zj R R (Ac (ds:=(Bt Z)) R FL iL R iL R R R R)<|aZ<|cd _<|Zf<|aT λch=>aG [12,13,14,15,16,17] [12,16,17,43,46,3120,3121] ?_
   refine aR<|lF B9 AJ R R<|xQ R<|mM R<|vF B9 AJ R R<|vQ R (Aw R (iR R) iL)<|xN R<|mA R<|aZ<|ch _<|cI R cg (λa0=>?_) λa0=>?_
   ·refine aR<|mM R<|lF Dy BE R R<|lF Dy BE R R<|AE a0 λar av cj=>sS R (B4 (r:=qa ar) (caps:=[]) (bs:=[qa Y.Attrs,qa Z.Attrs]) R iL R ⟨.inl ⟨iL,R⟩,.inl ⟨iL,R⟩,Za⟩ λ_=>rA<|av)<|AE cj λd5 aw ck=>?_
    refine Zq [12,3120,3121] (hc:=[(1000,some<|.box j 193 [.own 1001<|l 0,.own 1002<|l 1,rI u.cut]),(1001,some<|.arr (l 0) 100 4<|u.out.map AI.row),(1002,some<|.arr (l 1) 51 3<|u.add.map AG.row)]) (bs:=[.ptr 1000 j 0 0,rI<|(min V X),qa ar]) (caps:=[]) R R R R iL R ⟨.inl ⟨iL,R⟩,.inl ⟨iL,R⟩,.inl ⟨iL,R⟩,Za⟩ ⟨R,R,R,R,R,R,R,R,R,Za⟩ (by decide) (NI aw) ?_
    intro ax cl
    refine BC [12,13,14,15,16,17,89,90,91,92,93,97,98,99,100,101,102,103,104] [12,16,17,43,46,3120,3121] ?_
    exact Zi<|Dv.mk ck (AH [(ax 0),(ax 1),cl]) wk
   refine aU<|lF B9 AJ R R<|xQ R<|mA R<|aZ<|cI R a0 (λa2=>?_) λa2=>?_
   ·refine aG [12,13,14,15] [12,43,46,3120,3121] ?_
    exact aR<|lF Fp AJ R R<|mM R<|AE a2 λx3 cm cn=>xA R cm<|sQ R (fB R Fp iL fR R)<|Zj R R (Ac (ds:=[.own 3120<|l 0,.own 3121<|l 1,rI x3]) R Fa iL R iL R R R R)<|Zi<|Dv.mk cn (AH [(l 0),(l 1),(aq+2)]) wk
   refine aT λcp=>aG [12,13,14,16,17] [12,16,17,43,46,3120,3121] ?_
   refine aR<|lF B9 AJ R R<|xQ R<|mA R<|aZ<|cp _<|cI R a2 (λa6=>?_) λa6=>?_
   ·refine aR<|lF EO B0 R R<|lF Dy BE R R<|AE a6 λay az cq=>sS R (B4 (r:=qb ay) (caps:=[]) (bs:=[qb Y.Elems,qa Z.Attrs]) R iL R ⟨.inl ⟨iL,R⟩,.inl ⟨iL,R⟩,Za⟩ λ_=>pb<|az)<|AE cq λd6 b0 cr=>?_
    refine Zq [12,3120,3121] (hc:=[(1000,some<|.box j 193 [.own 1001<|l 0,.own 1002<|l 1,rI u.cut]),(1001,some<|.arr (l 0) 100 4<|u.out.map AI.row),(1002,some<|.arr (l 1) 51 3<|u.add.map AG.row)]) (bs:=[.ptr 1000 j 0 0,qb ay]) (caps:=[]) R R R R iL R ⟨.inl ⟨iL,R⟩,.inl ⟨iL,R⟩,Za⟩ ⟨R,R,R,R,R,R,R,R,R,Za⟩ (by decide) (PD b0) ?_
    intro b2 cs
    refine BC [12,13,14,16,17,114,115,116,117,118,119,120,121,122,123] [12,16,17,43,46,3120,3121] ?_
    exact Zi<|Dv.mk cr (AH [(b2 0),(b2 1),cs]) wk
   exact Zd<|Dv.mk a6 (AH [(l 0),(l 1),(aq+2)]) wk
  exact Zn<|a8 _ _ wk<|J1 _ (AH [(l 0),(l 1),(i8 0)])<|xH bj O
 refine AM.split ((decide<|0≤r7)==false) (λA=>?_) λA=>?_
 ·have a7:=Bk A ad
  refine AM.weak (by exact Rk (e':=[(12,.ptr 12 j 0 0),(13,.ptr 43 (j+1) 0 0),(14,.ptr 46 (j+2) 0 0),(47,.ptr 43 (j+1) 0 0),(48,rI r7),(49,rB<|(decide<|0≤r7)),(50,rB<|(decide<|0≤r7)),(51,.ptr 46 (j+2) 0 0)]) A ⟨.inl R,.inl R,.inl R,.inl R,.inl R,.inl R,.inl R,.inr iL,Za⟩) ?_
  refine AE a7 λd7 b3 ct=>?_
  refine iy (.one R R R) A [46] (hc:=[(1000,some<|.box (j+2) 196 [qd w.steps,rI w.used])]) (bs:=[.ptr 1000 (j+2) 0 0]) (caps:=[]) R R R iL R ⟨.inl ⟨iL,R⟩,Za⟩ ⟨R,R,R,Za⟩ (by decide) (Jv b3) ?_
  intro d8 cu
  refine BC [12,13,14,47,48,49,50,51,52] [12,43,46,3120,3121] ?_
  exact IV (.one R R R) A R R (AR.spec (Cv R (.inl R)<|.inl R) _)<|sQ R (CB R iL iL)<|Zi<|J _ _ wk<|J2 _ (AH [cu]) (Zb ct).symm
 ·have a7:=Bn A ad
  exact GT (.one R R R) A R R<|GT (.one R R R) A R R<|xO R<|Zi<|J _ _ wk<|J2 _ (AH [n2]) (Zb a7).symm
theorem qM{w:Cd}{l:Am}{A:List AG}{r:(List Ai) × Am × Int}{j:Nat}(h:MP w l A=some r):Bf prog 52 1 [.ptr 1000 j 0 0,.agg<|Ab l,qb A] [(1000,some<|.box j 102<|Bi w)] (λM h'=>∃(i:Nat→Nat),M=.tup [qi r.1,.agg<|Ab r.2.1,rI r.2.2]∧h'=[(1000,some<|.box j 102<|Bi w)]):=by
 unfold MP at h
 refine EI func52 R R ntmps52 (Zz R) λq=>aU<|sS R (Az (cs:=(Ab l)) 4 R iL R R)<|mA R<|sS R (BB (cs:=[rI 0,rI 0,rI 0]) 7 R Lf R R)<|mA R<|aZ<|aU<|mM R<|sQ R (Bz (ob:=.box _ _ _) R iL fR R)<|sQ R (fB R OQ iL fR R)<|lF Em B0 R R<|mA R<|aZ<|aT λc3=>?_
 refine L5 14 BF (by kernel_rfl) R R ?_
 refine Zu R R R (AK R iL)<|Zu R R R (AK R iL)<|Zu R R R (Bz (ob:=.box _ _ _) R iL fR R)<|Zu R R R (fB R N2 iL fR R)<|Zu R R R (AU (a:=.r<|.sl<|w.shown.map<|Ak .i64) R OR iL R R)<|Zu R R R (fB R GW iL fR R)<|Zu R R R (AU (a:=rI l.From) R AJ iL R R)<|Zu R R R (fB R L7 iL fR R)<|Zu R R R (AU (a:=rI l.To) R AJ iL R R)<|AE h λl1 U h1=>?_
 refine Zu R R R (Qr R B8.slice iL (by exact⟨_,iL⟩) (by exact⟨_,iL⟩) (λ_=>R) λ_=>U) ?_
 refine Zu R R R (AK R iL)<|Zu R R R (Bz (ob:=.box _ _ _) R iL fR R)<|Zu R R R (fB R eG iL fR R)<|Zu R R R (AU (a:=rS w.author) R BG iL R R)<|AT.nil<|AE h1 λB F h2=>sS R (B4 (r:=qd B) (caps:=[]) (bs:=[qb w.node.Flow,.r<|.sl<|l1.map<|Ak .i64,rS w.author]) R iL R ⟨.inl ⟨iL,R⟩,.inl ⟨iL,R⟩,.inl ⟨iL,R⟩,Za⟩ λ_=>uf<|F)<|mA R<|aZ<|c3 _<|aT λc4=>aG [0,2,4,7,9,10] [4,7,1000] ?_
 refine ZB BF (by kernel_rfl) ?_
 refine qP R (AK R iL)<|qP R (Bz (ob:=.box _ _ _) R iL fR R)<|qP R (fB R N2 iL fR R)<|qP R (AU (a:=.r<|.sl<|w.shown.map<|Ak .i64) R OR iL R R)<|qP R (fB R GW iL fR R)<|qP R (AU (a:=rI l.From) R AJ iL R R)<|AE h2 λI O h3=>FZ R R R (r:=rI I) (caps:=[]) (bs:=[.r<|.sl<|w.shown.map<|Ak .i64,rI l.From]) R iL R ⟨⟨_,iL,.d R⟩,⟨_,iL,.d R⟩,Za⟩ (λ_=>pa<|O) R<|qP R (DU R iL)<|AQ.nil<|c4 _<|aU<|mM R<|mM R<|mM R<|mM R<|sQ R (Bz (ob:=.box _ _ _) R iL fR R)<|lF eG BG R R<|AE h3 λJ T h4=>sS R (B4 (r:=qd J) (caps:=[]) (bs:=[qb w.node.Flow,rI I,qb A,rS w.author]) R iL R ⟨.inl ⟨iL,R⟩,.inl ⟨iL,R⟩,.inl ⟨iL,R⟩,.inl ⟨iL,R⟩,Za⟩ λ_=>tQ<|T)<|mA R<|aZ<|aT λc6=>aG [2,4,7,10,12] [4,7,1000] ?_
 refine aR<|mM R<|mM R<|Gl h4 λr1 r2 V X h5=>sS R (B4 (r:=.tup [qd r1,qd r2,rI V]) (caps:=[]) (bs:=[qd J,qd B]) R iL R ⟨.inl ⟨iL,R⟩,.inl ⟨iL,R⟩,Za⟩ λ_=>o6<|X)<|mM R<|xX R<|xX R<|xX R<|mA R<|mA R<|mA R<|aZ<|c6 _<|aT λc7=>aT λc8=>aG [2,4,7,10,13,15] [4,7,1000] ?_
 refine aR<|mM R<|xU R<|aZ<|c8 _<|cI R h5 (λY=>?_) λY=>?_
 ·refine aT λc9=>aR ?_
  refine sQ R (BM R HL (q:=[]) (by exact Za) (cs:=[rI 0,rI 0,rI 0])<|by rfl) ?_
  refine mM R<|mA R<|Zj R R (Ac (ds:=[rI 0,rI 0,rI 0]) R Eo iL R iL R R R R)<|mA R<|oZ c9 ?_
  exact Zk<|CM.mk (s':=⟨[(6,.r<|.sl []),(7,.ptr 7 (q+1) 0 0),(8,rI V)],[(7,some<|.box (q+1) 26 [rI 0,rI 0,rI 0]),(1000,some<|.box j 102<|Bi w)],(q+2),89⟩) ((by exact ZD ⟨.inl<|.inr<|.inr ⟨R,R⟩,jL,jL,Za⟩ ⟨.inl R,.inl R,Za⟩ nL))<|Ck (λ(r:(List Ai) × Am × Int) M h'=>∃(i:Nat→Nat),M=.tup [qi r.1,.agg<|Ab r.2.1,rI r.2.2]∧h'=[(1000,some<|.box j 102<|Bi w)]) Y<|by exact⟨.tup [.r<|.sl [],.agg [rI 0,rI 0,rI 0],rI V],[(1000,some<|.box j 102<|Bi w)],⟨_,R,⟨R,.inr ⟨_,R,DN,_,_,_,R,R⟩,R,Za⟩⟩,⟨.inr R,Za⟩,R,R,AH [],R,R⟩
 refine Zd<|c7 _<|aU<|mM R<|mM R<|D2 Y λC Z a0 h7=>sS R (B4 (r:=.tup [qd C,rI Z]) (caps:=[]) (bs:=[qd B,qd r1]) R iL R ⟨.inl ⟨iL,R⟩,.inl ⟨iL,R⟩,Za⟩ λ_=>lU<|a0)<|mM R<|xX R<|xX R<|mA R<|mA R<|aZ<|aT λa1=>aT λa2=>aG [2,4,7,15,16] [4,7,1000] ?_
 refine aR<|mM R<|xU R<|aZ<|a2 _<|cI R h7 (λh8=>?_) λh8=>?_
 ·refine aT λa6=>aR ?_
  refine sQ R (BM R HL (q:=[]) (by exact Za) (cs:=[rI 0,rI 0,rI 0])<|by rfl) ?_
  refine mM R<|mA R<|Zj R R (Ac (ds:=[rI 0,rI 0,rI 0]) R Eo iL R iL R R R R)<|mA R<|oZ a6 ?_
  exact Zk<|CM.mk (s':=⟨[(6,.r<|.sl []),(7,.ptr 7 (q+1) 0 0),(8,rI Z)],[(7,some<|.box (q+1) 26 [rI 0,rI 0,rI 0]),(1000,some<|.box j 102<|Bi w)],(q+2),89⟩) ((by exact ZD ⟨.inl<|.inr<|.inr ⟨R,R⟩,jL,jL,Za⟩ ⟨.inl R,.inl R,Za⟩ nL))<|Ck (λ(r:(List Ai) × Am × Int) M h'=>∃(i:Nat→Nat),M=.tup [qi r.1,.agg<|Ab r.2.1,rI r.2.2]∧h'=[(1000,some<|.box j 102<|Bi w)]) h8<|by exact⟨.tup [.r<|.sl [],.agg [rI 0,rI 0,rI 0],rI Z],[(1000,some<|.box j 102<|Bi w)],⟨_,R,⟨R,.inr ⟨_,R,DN,_,_,_,R,R⟩,R,Za⟩⟩,⟨.inr R,Za⟩,R,R,AH [],R,R⟩
 refine Zd<|a1 _<|aU<|lF GW AJ R R<|mM R<|xL Ar R<|AE h8 λu a7 h9=>xA R a7<|mA R<|aZ<|aT λa8=>aG [4,7,16,17] [4,7,1000] ?_
 refine Hd 11 [pO 79<|.ptr 4 q 0 0,pO 80<|rI l.Node,pO 81<|qd C,pO 82<|.agg [rI 2,rI l.Node,rI 0,rI 0,cZ,cZ,rI 0,rI 0,cZ,cZ,cZ,cZ,qd C,cZ,cZ,cZ,cZ,cZ,cZ],⟨some 83,(λE=>.own 83<|E 4),some (83,(λE=>some<|.arr (E 4) 76 19<|[(Ai.mk 2 l.Node (AX.mk 0 0 [] [] (A1.mk 0 0 [] []) []) [] C (DW.mk [] [] [] [] []) [])].map Ai.row)),[4]⟩,pO 84<|.ptr 4 q 0 0,pO 85<|rI l.Node,pO 86<|rI u,pO 87<|rI u,pO 88<|.agg [rI l.Node,rI u,rI u],⟨some 6,(λE=>.own 83<|E 4),none,[4]⟩] BF (by kernel_rfl) (by exact⟨λ_ _ h=>⟨R,λ_ _ e=>by cases e⟩,λ_ _ h=>⟨R,λ_ _ e=>by cases e⟩,λ_ _ h=>⟨R,λ_ _ e=>by cases e⟩,λ_ _ h=>⟨R,λ_ _ e=>by cases e⟩,λ_ _ h=>⟨by simp only[h 4 R],λ_ _ e=>by cases e;simp only[h 4 R]⟩,λ_ _ h=>⟨R,λ_ _ e=>by cases e⟩,λ_ _ h=>⟨R,λ_ _ e=>by cases e⟩,λ_ _ h=>⟨R,λ_ _ e=>by cases e⟩,λ_ _ h=>⟨R,λ_ _ e=>by cases e⟩,λ_ _ h=>⟨R,λ_ _ e=>by cases e⟩,λ_ _ h=>⟨by simp only[h 4 R],λ_ _ e=>by cases e⟩,Za⟩) R (by exact⟨oB [(4,.ptr 4 q 0 0)] [(4,some<|.box q 26<|Ab l)]<|fB R Lz (.inl R) (λ_=>R) R,oB [(79,.ptr 4 q 0 0)] [(4,some<|.box q 26<|Ab l)]<|AU (a:=rI l.Node) R AJ (.inl R) R R,oB [(16,qd C)] []<|AK R<|.inl R,oB [(80,rI l.Node),(81,qd C)] []<|BM R YI (q:=[(0,_),(1,_),(12,_)]) (by exact⟨R,R,R,(.inl R),R,R,R,(.inl R),R,R,R,(.inl R),Za⟩) (cs:=[rI 2,rI l.Node,rI 0,rI 0,cZ,cZ,rI 0,rI 0,cZ,cZ,cZ,cZ,qd C,cZ,cZ,cZ,cZ,cZ,cZ])<|by rfl,oM (λ_=>[(82,.agg [rI 2,rI l.Node,rI 0,rI 0,cZ,cZ,rI 0,rI 0,cZ,cZ,cZ,cZ,qd C,cZ,cZ,cZ,cZ,cZ,cZ])]) (λ_=>[]) R λE e h' n=>Bm 83 R GG (f:=Ai.row) (l:=([(Ai.mk 2 l.Node (AX.mk 0 0 [] [] (A1.mk 0 0 [] []) []) [] C (DW.mk [] [] [] [] []) [])]:List Ai)) ⟨R,⟨_,(.inl R),R⟩,Za⟩ R (λ_=>R) R,oB [(4,.ptr 4 q 0 0)] [(4,some<|.box q 26<|Ab l)]<|fB R Lz (.inl R) (λ_=>R) R,oB [(84,.ptr 4 q 0 0)] [(4,some<|.box q 26<|Ab l)]<|AU (a:=rI l.Node) R AJ (.inl R) R R,oB [(17,rI u)] []<|AK R<|.inl R,oB [(17,rI u)] []<|AK R<|.inl R,oB [(85,rI l.Node),(86,rI u),(87,rI u)] []<|BM R HL (q:=[(0,_),(1,_),(2,_)]) (by exact⟨R,R,R,(.inl R),R,R,R,(.inl R),R,R,R,(.inl R),Za⟩) (cs:=[rI l.Node,rI u,rI u])<|by rfl,oC (λE=>[(83,.own 83<|E 4)]) (λE=>[(83,some<|.arr (E 4) 76 19<|[(Ai.mk 2 l.Node (AX.mk 0 0 [] [] (A1.mk 0 0 [] []) []) [] C (DW.mk [] [] [] [] []) [])].map Ai.row)]) λE e h'=>DU R<|.inl R,Za⟩) λE n2=>?_
 refine BC [4,6,7,16,17,79,80,81,82,83,84,85,86,87,88] [4,7,83,1000] ?_
 refine Zj R R (Ac (ds:=[rI l.Node,rI u,rI u]) R Eo iL R iL R R R R)<|mA R<|oZ a8 ?_
 exact Zk<|CM.mk (s':=⟨[(6,.r<|.sl<|[(Ai.mk 2 l.Node (AX.mk 0 0 [] [] (A1.mk 0 0 [] []) []) [] C (DW.mk [] [] [] [] []) [])].map Ai.row),(7,.ptr 7 (q+1) 0 0),(8,rI 0)],[(7,some<|.box (q+1) 26 [rI l.Node,rI u,rI u]),(1000,some<|.box j 102<|Bi w)],n2,89⟩) (Zm (by exact Ap.frz (e':=[(4,.ptr 4 q 0 0),(6,.r<|.sl<|[(Ai.mk 2 l.Node (AX.mk 0 0 [] [] (A1.mk 0 0 [] []) []) [] C (DW.mk [] [] [] [] []) [])].map Ai.row),(7,.ptr 7 (q+1) 0 0),(8,rI 0),(16,qd C),(17,rI u),(79,.ptr 4 q 0 0),(80,rI l.Node),(81,qd C),(82,.agg [rI 2,rI l.Node,rI 0,rI 0,cZ,cZ,rI 0,rI 0,cZ,cZ,cZ,cZ,qd C,cZ,cZ,cZ,cZ,cZ,cZ]),(83,.r<|.sl<|[(Ai.mk 2 l.Node (AX.mk 0 0 [] [] (A1.mk 0 0 [] []) []) [] C (DW.mk [] [] [] [] []) [])].map Ai.row),(84,.ptr 4 q 0 0),(85,rI l.Node),(86,rI u),(87,rI u),(88,.agg [rI l.Node,rI u,rI u])]) (h':=[(4,some<|.box q 26<|Ab l),(7,some<|.box (q+1) 26 [rI l.Node,rI u,rI u]),(1000,some<|.box j 102<|Bi w)]) 83 R ⟨jL,.inl<|.inr<|.inr ⟨R,R⟩,jL,jL,jL,jL,jL,jL,jL,jL,.inl<|.inr<|.inr ⟨R,R⟩,jL,jL,jL,jL,jL,Za⟩ ⟨R,.inl R,R,.inl R,R,.inl R,Za⟩) wk)<|Ck (λ(r:(List Ai) × Am × Int) M h'=>∃(i:Nat→Nat),M=.tup [qi r.1,.agg<|Ab r.2.1,rI r.2.2]∧h'=[(1000,some<|.box j 102<|Bi w)]) h9<|by exact⟨.tup [.r<|.sl<|[(Ai.mk 2 l.Node (AX.mk 0 0 [] [] (A1.mk 0 0 [] []) []) [] C (DW.mk [] [] [] [] []) [])].map Ai.row,.agg [rI l.Node,rI u,rI u],rI 0],[(1000,some<|.box j 102<|Bi w)],⟨_,R,⟨R,.inr ⟨_,R,DN,_,_,_,R,R⟩,R,Za⟩⟩,⟨.inr R,Za⟩,R,R,AH [],R,R⟩
theorem VT{d1 A n1 s b r}(h:HX d1 A n1 s b=some r):AO prog 84 [.agg [qg d1.Nodes],.agg<|Ab A,.agg<|BY n1,rI s,rS b] (.tup [qi r.1,.agg<|Ab r.2.1,rI r.2.2]):=by
 unfold HX at h
 refine mF func84 ntmps84 R λu=>aU<|sS R (Az (cs:=[qg d1.Nodes]) 5 R iL R R)<|sS R (Az (cs:=(Ab A)) 6 R iL R R)<|sS R (Az (cs:=(BY n1)) 7 R iL R R)<|mA R<|sS R (BB (cs:=[rI 0,rI 0,rI 0]) 11 R Lf R R)<|mA R<|aZ<|aU<|xC DT R<|xC DN R<|mM R<|D2 h λM r2 O h1=>sS R (B4 (r:=.tup [.agg<|Bi M,rI r2]) (caps:=[]) (bs:=[.agg [qg d1.Nodes],.agg<|Ab A,rS b]) R iL R ⟨.inl ⟨iL,R⟩,.inl ⟨iL,R⟩,.inl ⟨iL,R⟩,Za⟩ λ_=>qo<|O)<|mM R<|xX R<|xX R<|sS R (BB (cs:=GD) 13 R WJ R R)<|Zj R R (Ac (ds:=(Bi M)) R Jc iL R iL R R R R)<|mA R<|aZ<|aT λc3=>aT λc4=>aG [3,5,6,7,11,13,14] [5,6,7,11,13] ?_
 refine aR<|mM R<|xU R<|aZ<|c4 _<|cI R h1 (λT=>?_) λT=>?_
 ·refine aT λc5=>aR ?_
  refine sQ R (BM R HL (q:=[]) (by exact Za) (cs:=[rI 0,rI 0,rI 0])<|by rfl) ?_
  exact mM R<|mA R<|Zj R R (Ac (ds:=[rI 0,rI 0,rI 0]) R Eo iL R iL R R R R)<|mA R<|aZ<|c5 _<|Zk<|FY (P:=prog) (λ(r:(List Ai) × Am × Int)=>qi r.1) (λ(r:(List Ai) × Am × Int)=>.agg<|Ab r.2.1) (λ(r:(List Ai) × Am × Int)=>rI r.2.2) T iL (.t<|.one<|.nil) (.a DN R R R<|.g (cs:=[.int .i64 0,.int .i64 0,.int .i64 0]) R R)<|.t<|.d R
 refine Zd<|c3 _<|aT λc6=>aU<|sQ R (fB R OQ iL fR R)<|lF CR AJ R R<|lF CR AJ R R<|AE T λr3 U h3=>cL (aN<|U) R<|sQ R (A3 R iL)<|aZ<|cI R h3 (λV=>?_) λV=>?_
 ·refine aT λc8=>aG [11] [11] ?_
  refine aR ?_
  refine sQ R (BM R HL (q:=[]) (by exact Za) (cs:=[rI 0,rI 0,rI 0])<|by rfl) ?_
  exact mA R<|Zj R R (Ac (ds:=[rI 0,rI 0,rI 0]) R Eo iL R iL R R R R)<|mA R<|aZ<|c8 _<|Zk<|FY (P:=prog) (λ(r:(List Ai) × Am × Int)=>qi r.1) (λ(r:(List Ai) × Am × Int)=>.agg<|Ab r.2.1) (λ(r:(List Ai) × Am × Int)=>rI r.2.2) V iL (.t<|.one<|.nil) (.a DN R R R<|.g (cs:=[.int .i64 0,.int .i64 0,.int .i64 0]) R R)<|.t<|.d R
 refine Zd<|c6 _<|aT λc9=>aG [3,5,6,7,11,13] [5,6,7,11,13] ?_
 refine aR<|xC DT R<|mM R<|D2 V λq r5 X h5=>cL (gx<|X) R<|mM R<|xX R<|xX R<|mA R<|mA R<|aZ<|c9 _<|aT λY=>aU<|mM R<|xU R<|aZ<|cI R h5 (λZ=>?_) λZ=>?_
 ·refine aT λa0=>aG [11,14] [11] ?_
  refine aR ?_
  refine sQ R (BM R HL (q:=[]) (by exact Za) (cs:=[rI 0,rI 0,rI 0])<|by rfl) ?_
  exact mM R<|mA R<|Zj R R (Ac (ds:=[rI 0,rI 0,rI 0]) R Eo iL R iL R R R R)<|mA R<|aZ<|a0 _<|Zk<|FY (P:=prog) (λ(r:(List Ai) × Am × Int)=>qi r.1) (λ(r:(List Ai) × Am × Int)=>.agg<|Ab r.2.1) (λ(r:(List Ai) × Am × Int)=>rI r.2.2) Z iL (.t<|.one<|.nil) (.a DN R R R<|.g (cs:=[.int .i64 0,.int .i64 0,.int .i64 0]) R R)<|.t<|.d R
 refine Zd<|Y _<|aT λa1=>aG [6,7,11,13,15] [6,7,11,13] ?_
 refine aR<|mM R<|sQ R (fB R EQ iL fR R)<|Zj R R (Ac (ds:=[rI q,rI n1.Kind,qa n1.Attrs,qb n1.Flow,rI n1.Grid.Rows,rI n1.Grid.Cols,qe n1.Grid.Cells,qc n1.Grid.Merges,qf n1.Draw]) R Fa iL R iL R R R R)<|aZ<|a1 _<|aT λa2=>aU<|xC El R<|AE Z λe1 a6 h7=>cL (aE<|a6) R<|mA R<|aZ<|aU<|mM R<|xU R<|aZ<|cI R h7 (λh8=>?_) λh8=>?_
 ·refine aT λa7=>aG [11,16] [11] ?_
  refine aR ?_
  refine sQ R (BM R HL (q:=[]) (by exact Za) (cs:=[rI 0,rI 0,rI 0])<|by rfl) ?_
  exact mM R<|mA R<|Zj R R (Ac (ds:=[rI 0,rI 0,rI 0]) R Eo iL R iL R R R R)<|mA R<|aZ<|a7 _<|Zk<|FY (P:=prog) (λ(r:(List Ai) × Am × Int)=>qi r.1) (λ(r:(List Ai) × Am × Int)=>.agg<|Ab r.2.1) (λ(r:(List Ai) × Am × Int)=>rI r.2.2) h8 iL (.t<|.one<|.nil) (.a DN R R R<|.g (cs:=[.int .i64 0,.int .i64 0,.int .i64 0]) R R)<|.t<|.d R
 refine Zd<|a2 _<|aT λa8=>AE h8 λC aa h9=>Gl h9 λB w F ab ac=>?_
 refine Hd 15 [pO 57<|.agg<|Ab A,pO 58<|rI q,pO 59<|.ptr 6 (u+1) 0 1,pO 60<|rI A.From,pO 61<|qa C,pO 62<|.agg [rI 0,rI q,qa C],⟨some 63,(λ_=>.r<|.sl<|[(AG.mk 0 q C)].map AG.row),some (63,(λ_=>none)),[]⟩,pO 64<|.tup [qi B,.agg<|Ab w,rI F],pO 56<|.tup [qi B,.agg<|Ab w,rI F],pO 65<|qi B,pO 66<|.agg<|Ab w,pO 67<|rI F,⟨some 18,(λj=>.ptr 18 (j 12) 0 0),some (18,(λj=>some<|.box (j 12) 26 [rI 0,rI 0,rI 0])),[12]⟩,pO 17<|qi B,⟨none,(λ_=>.any),some (18,(λj=>some<|.box (j 12) 26<|Ab w)),[12]⟩] BF (by kernel_rfl) (by exact⟨λ_ _ h=>⟨R,λ_ _ e=>by cases e⟩,λ_ _ h=>⟨R,λ_ _ e=>by cases e⟩,λ_ _ h=>⟨R,λ_ _ e=>by cases e⟩,λ_ _ h=>⟨R,λ_ _ e=>by cases e⟩,λ_ _ h=>⟨R,λ_ _ e=>by cases e⟩,λ_ _ h=>⟨R,λ_ _ e=>by cases e⟩,λ_ _ h=>⟨R,λ_ _ e=>by cases e;rfl⟩,λ_ _ h=>⟨R,λ_ _ e=>by cases e⟩,λ_ _ h=>⟨R,λ_ _ e=>by cases e⟩,λ_ _ h=>⟨R,λ_ _ e=>by cases e⟩,λ_ _ h=>⟨R,λ_ _ e=>by cases e⟩,λ_ _ h=>⟨R,λ_ _ e=>by cases e⟩,λ_ _ h=>⟨by simp only[h 12 R],λ_ _ e=>by cases e;simp only[h 12 R]⟩,λ_ _ h=>⟨R,λ_ _ e=>by cases e⟩,λ_ _ h=>⟨R,λ_ _ e=>by cases e;simp only[h 12 R]⟩,Za⟩) R (by exact⟨oB [(6,.ptr 6 (u+1) 0 0)] [(6,some<|.box (u+1) 26<|Ab A)]<|D5 R DN (.inl R) R R,oB [(15,rI q)] []<|AK R<|.inl R,oB [(6,.ptr 6 (u+1) 0 0)] [(6,some<|.box (u+1) 26<|Ab A)]<|fB R GW (.inl R) (λ_=>R) R,oB [(59,.ptr 6 (u+1) 0 1)] [(6,some<|.box (u+1) 26<|Ab A)]<|AU (a:=rI A.From) R AJ (.inl R) R R,Ug R R (by intro d h;cases h;rfl) R (λ_=>[(13,.ptr 13 (u+4) 0 0),(60,rI A.From)]) (λ_=>[(13,some<|.box (u+4) 102<|Bi M)]) (λD j E=>⟨Ja R R,IF E 3 R R (by kernel_rfl) R R,Za⟩) (λD j E=>⟨JQ R R,Za⟩) (λ_ _=>R) λj e I n=>⟨_,SU [13] (hc:=[(1000,some<|.box (u+4) 102<|Bi M)]) (bs:=[.ptr 1000 (u+4) 0 0,rI A.From]) (caps:=[]) R (.inl R) R (by exact⟨.inl ⟨(.inl R),R⟩,.inl ⟨(.inl R),R⟩,Za⟩) (by exact⟨R,R,R,Za⟩) (by decide)<|ua aa,YH R⟩,oB [(58,rI q),(61,qa C)] []<|BM R JJ (q:=[(1,_),(2,_)]) (by exact⟨R,R,R,(.inl R),R,R,R,(.inl R),Za⟩) (cs:=[rI 0,rI q,qa C])<|by rfl,Rj R R (by intro d h;cases h;rfl) R (λ_=>[(62,.agg [rI 0,rI q,qa C])]) (λ_=>[]) (λD j E=>⟨IF E 5 R R (by kernel_rfl) R R,Za⟩) (λD j E=>Za) λj e I n=>Fj.frz<|BK.toN<|Bm 63 R Ar (f:=AG.row) (l:=([(AG.mk 0 q C)]:List AG)) ⟨R,⟨_,(.inl R),R⟩,Za⟩ R (λ_=>R) R,Ug R R (by intro d h;cases h;rfl) R (λ_=>[(13,.ptr 13 (u+4) 0 0),(57,.agg<|Ab A),(63,.r<|.sl<|[(AG.mk 0 q C)].map AG.row)]) (λ_=>[(13,some<|.box (u+4) 102<|Bi M)]) (λD j E=>⟨Ja R R,IF E 0 R R (by kernel_rfl) R R,IF E 6 R R (by kernel_rfl) R R,Za⟩) (λD j E=>⟨JQ R R,Za⟩) (λ_ _=>R) λj e I n=>⟨_,SU [13] (hc:=[(1000,some<|.box (u+4) 102<|Bi M)]) (bs:=[.ptr 1000 (u+4) 0 0,.agg<|Ab A,.r<|.sl<|[(AG.mk 0 q C)].map AG.row]) (caps:=[]) R (.inl R) R (by exact⟨.inl ⟨(.inl R),R⟩,.inl ⟨(.inl R),R⟩,.inl ⟨(.inl R),R⟩,Za⟩) (by exact⟨R,R,R,Za⟩) (by decide)<|qM ab,YH R⟩,oB [(64,.tup [qi B,.agg<|Ab w,rI F])] []<|AK R<|.inl R,oB [(56,.tup [qi B,.agg<|Ab w,rI F])] []<|Js (a:=qi B) R (.inl R) R,oB [(56,.tup [qi B,.agg<|Ab w,rI F])] []<|Js (a:=.agg<|Ab w) R (.inl R) R,oB [(56,.tup [qi B,.agg<|Ab w,rI F])] []<|Js (a:=rI F) R (.inl R) R,oM (λ_=>[]) (λ_=>[]) R λj e I n=>BB (cs:=[rI 0,rI 0,rI 0]) 18 R Lf R R,oB [(65,qi B)] []<|DU R<|.inl R,oM (λj=>[(18,.ptr 18 (j 12) 0 0),(66,.agg<|Ab w)]) (λj=>[(18,some<|.box (j 12) 26 [rI 0,rI 0,rI 0])]) R λj e I n=>Ac (ds:=(Ab w)) R Eo (.inl R) R (.inl R) R R R R,Za⟩) λj n2=>?_
 refine BC [6,7,11,13,15,16,17,18,48,49,50,51,52,53,56,57,58,59,60,61,62,63,64,65,66,67] [6,7,11,13,18] ?_
 refine mA R<|aZ<|a8 _<|aT λad=>aT λae=>aG [7,11,14,17,18] [7,11,18] ?_
 refine aR<|mM R<|xU R<|aZ<|ae _<|cI R ac (λJ=>?_) λJ=>?_
 ·refine aT λaf=>aR ?_
  refine sQ R (BM R HL (q:=[]) (by exact Za) (cs:=[rI 0,rI 0,rI 0])<|by rfl) ?_
  exact mM R<|mA R<|Zj R R (Ac (ds:=[rI 0,rI 0,rI 0]) R Eo iL R iL R R R R)<|mA R<|aZ<|af _<|Zk<|FY (P:=prog) (λ(r:(List Ai) × Am × Int)=>qi r.1) (λ(r:(List Ai) × Am × Int)=>.agg<|Ab r.2.1) (λ(r:(List Ai) × Am × Int)=>rI r.2.2) J iL (.t<|.one<|.nil) (.a DN R R R<|.g (cs:=[.int .i64 0,.int .i64 0,.int .i64 0]) R R)<|.t<|.d R
 refine Zd<|ad _<|aT λag=>AE J λl1 ah ai=>?_
 refine Hd 7 [pO 72<|.agg [rI q,rI n1.Kind,qa n1.Attrs,qb n1.Flow,rI n1.Grid.Rows,rI n1.Grid.Cols,qe n1.Grid.Cells,qc n1.Grid.Merges,qf n1.Draw],pO 73<|.agg [rI 0,rI 0,rI q,rI n1.Kind,qa n1.Attrs,qb n1.Flow,rI n1.Grid.Rows,rI n1.Grid.Cols,qe n1.Grid.Cells,qc n1.Grid.Merges,qf n1.Draw,cZ,cZ,cZ,cZ,cZ,cZ,cZ,cZ],⟨some 74,(λl=>.own 74<|l 2),some (74,(λl=>some<|.arr (l 2) 76 19<|[(Ai.mk 0 0 (AX.mk q n1.Kind n1.Attrs n1.Flow n1.Grid n1.Draw) [] [] (DW.mk [] [] [] [] []) [])].map Ai.row)),[2]⟩,pO 75<|qi B,⟨some 76,(λl=>.own 74<|l 4),some (74,(λl=>some<|.arr (l 4) 76 19<|l1.map Ai.row)),[4]⟩,pO 77<|.agg<|Ab w,⟨some 10,(λl=>.own 74<|l 4),none,[4]⟩] BF (by kernel_rfl) (by exact⟨λ_ _ h=>⟨R,λ_ _ e=>by cases e⟩,λ_ _ h=>⟨R,λ_ _ e=>by cases e⟩,λ_ _ h=>⟨by simp only[h 2 R],λ_ _ e=>by cases e;simp only[h 2 R]⟩,λ_ _ h=>⟨R,λ_ _ e=>by cases e⟩,λ_ _ h=>⟨by simp only[h 4 R],λ_ _ e=>by cases e;simp only[h 4 R]⟩,λ_ _ h=>⟨R,λ_ _ e=>by cases e⟩,λ_ _ h=>⟨by simp only[h 4 R],λ_ _ e=>by cases e⟩,Za⟩) R (by exact⟨oB [(7,.ptr 7 (u+2) 0 0)] [(7,some<|.box (u+2) 46 [rI q,rI n1.Kind,qa n1.Attrs,qb n1.Flow,rI n1.Grid.Rows,rI n1.Grid.Cols,qe n1.Grid.Cells,qc n1.Grid.Merges,qf n1.Draw])]<|D5 R El (.inl R) R R,oB [(72,.agg [rI q,rI n1.Kind,qa n1.Attrs,qb n1.Flow,rI n1.Grid.Rows,rI n1.Grid.Cols,qe n1.Grid.Cells,qc n1.Grid.Merges,qf n1.Draw])] []<|BM R YI (q:=[(0,_),(2,_)]) (by exact⟨R,R,R,(.inl R),R,R,R,(.inl R),Za⟩) (cs:=[rI 0,rI 0,rI q,rI n1.Kind,qa n1.Attrs,qb n1.Flow,rI n1.Grid.Rows,rI n1.Grid.Cols,qe n1.Grid.Cells,qc n1.Grid.Merges,qf n1.Draw,cZ,cZ,cZ,cZ,cZ,cZ,cZ,cZ])<|by rfl,oM (λ_=>[(73,.agg [rI 0,rI 0,rI q,rI n1.Kind,qa n1.Attrs,qb n1.Flow,rI n1.Grid.Rows,rI n1.Grid.Cols,qe n1.Grid.Cells,qc n1.Grid.Merges,qf n1.Draw,cZ,cZ,cZ,cZ,cZ,cZ,cZ,cZ])]) (λ_=>[]) R λl e I n=>Bm 74 R GG (f:=Ai.row) (l:=([(Ai.mk 0 0 (AX.mk q n1.Kind n1.Attrs n1.Flow n1.Grid n1.Draw) [] [] (DW.mk [] [] [] [] []) [])]:List Ai)) ⟨R,⟨_,(.inl R),R⟩,Za⟩ R (λ_=>R) R,oB [(17,qi B)] []<|AK R<|.inl R,oM (λl=>[(74,.own 74<|l 2),(75,qi B)]) (λl=>[(74,some<|.arr (l 2) 76 19<|[(Ai.mk 0 0 (AX.mk q n1.Kind n1.Attrs n1.Flow n1.Grid n1.Draw) [] [] (DW.mk [] [] [] [] []) [])].map Ai.row)]) R λl e I n=>Ci R GG (.inl R) R (.inl ⟨(.inl R),λ_=>R⟩) ah,oB [(18,.ptr 18 (j 12) 0 0)] [(18,some<|.box (j 12) 26<|Ab w)]<|D5 R DN (.inl R) R R,oC (λl=>[(76,.own 74<|l 4)]) (λl=>[(74,some<|.arr (l 4) 76 19<|l1.map Ai.row)]) λl e I=>DU R<|.inl R,Za⟩) λl n3=>?_
 refine BC [7,10,11,14,17,18,68,69,72,73,75,76,77] [7,11,18,74] ?_
 exact Zj R R (Ac (ds:=(Ab w)) R Eo iL R iL R R R R)<|mA R<|aZ<|ag _<|Zk<|FY (P:=prog) (λ(r:(List Ai) × Am × Int)=>qi r.1) (λ(r:(List Ai) × Am × Int)=>.agg<|Ab r.2.1) (λ(r:(List Ai) × Am × Int)=>rI r.2.2) ai iL (.t<|.one<|.own R) (.a DN R R R<|.g (cs:=[.int .i64 w.Node,.int .i64 w.From,.int .i64 w.To]) R R)<|.t<|.d R
theorem lD{d1 j b c s f r}(h:LG d1 j b c s f=some r):AO prog 31 [.agg [qg d1.Nodes],.agg<|Ab j,rI b,rI c,rI s,rS f] (.tup [qi r.1,.agg<|Ab r.2.1,rI r.2.2]):=by
 unfold LG at h
 refine mF func31 ntmps31 R λl=>aU<|sS R (Az (cs:=[qg d1.Nodes]) 6 R iL R R)<|sS R (Az (cs:=(Ab j)) 7 R iL R R)<|mA R<|sS R (BB (cs:=[rI 0,rI 0,rI 0]) 13 R Lf R R)<|mA R<|aZ<|aT λA=>aU<|mM R<|xS R<|mM R<|vM R<|vQ R (BD R (iR R) iL)<|xO R<|mM R<|vM R<|vQ R (B7 R (iR R) iL)<|xO R<|mM R<|vM R<|vQ R (BD R (iR R) iL)<|xO R<|aZ<|cI R h (λu=>?_) λu=>?_
 ·refine aT λB=>aG [13] [13] ?_
  refine aR ?_
  refine sQ R (BM R HL (q:=[]) (by exact Za) (cs:=[rI 0,rI 0,rI 0])<|by rfl) ?_
  exact mA R<|Zj R R (Ac (ds:=[rI 0,rI 0,rI 0]) R Eo iL R iL R R R R)<|mA R<|aZ<|B _<|Zk<|FY (P:=prog) (λ(r:(List Ai) × Am × Int)=>qi r.1) (λ(r:(List Ai) × Am × Int)=>.agg<|Ab r.2.1) (λ(r:(List Ai) × Am × Int)=>rI r.2.2) u iL (.t<|.one<|.nil) (.a DN R R R<|.g (cs:=[.int .i64 0,.int .i64 0,.int .i64 0]) R R)<|.t<|.d R
 refine Zd<|A _<|aT λC=>aG [2,3,4,5,6,7,13] [6,7,13] ?_
 refine aR<|xC DT R<|xC DN R<|mM R<|mM R ?_
 refine sQ R (BM R X9 (q:=[(0,_),(1,_)]) (by exact⟨R,R,R,iL,R,R,R,iL,Za⟩) (cs:=[rI b,rI c,cZ,cZ])<|by rfl) ?_
 refine sQ R (BM R Qx (q:=[(1,_),(4,_)]) (by exact⟨R,R,R,iL,R,R,R,iL,Za⟩) (cs:=[rI 0,rI 2,cZ,cZ,rI b,rI c,cZ,cZ,cZ])<|by rfl) ?_
 refine mM R<|mM R ?_
 refine AM.weak (by exact ZD (e':=[(2,rI b),(3,rI c),(4,rI s),(5,rS f),(6,.ptr 6 l 0 0),(7,.ptr 7 (l+1) 0 0),(13,.ptr 13 (l+2) 0 0),(30,.agg [qg d1.Nodes]),(31,.agg<|Ab j),(32,rI b),(33,rI c),(34,.agg [rI b,rI c,cZ,cZ]),(35,.agg [rI 0,rI 2,.r<|.sl [],.r<|.sl [],rI b,rI c,.r<|.sl [],.r<|.sl [],.r<|.sl []]),(36,rI s),(37,rS f)]) (h':=[(6,some<|.box l 24 [qg d1.Nodes]),(7,some<|.box (l+1) 26<|Ab j),(13,some<|.box (l+2) 26 [rI 0,rI 0,rI 0])]) ⟨jL,jL,jL,jL,jL,jL,jL,jL,jL,jL,jL,jL,.inr ⟨_,_,R,R,⟨.inl R,.inl R,.inr<|.inr ⟨R,R⟩,.inr<|.inr ⟨R,R⟩,.inl R,.inl R,.inr<|.inr ⟨R,R⟩,.inr<|.inr ⟨R,R⟩,.inr<|.inr ⟨R,R⟩,Za⟩⟩,jL,jL,Za⟩ ⟨.inl R,.inl R,.inl R,Za⟩ nL) ?_
 exact Gl u λE q F w I=>sS R (B4 (r:=.tup [qi E,.agg<|Ab q,rI F]) (caps:=[]) (bs:=[.agg [qg d1.Nodes],.agg<|Ab j,.agg [rI 0,rI 2,.r<|.sl [],.r<|.sl [],rI b,rI c,.r<|.sl [],.r<|.sl [],.r<|.sl []],rI s,rS f]) R iL R ⟨.inl ⟨iL,R⟩,.inl ⟨iL,R⟩,.inl ⟨iL,R⟩,.inl ⟨iL,R⟩,.inl ⟨iL,R⟩,Za⟩ λ_=>VT<|w)<|xX R<|xX R<|xX R<|mA R<|Zj R R (Ac (ds:=(Ab q)) R Eo iL R iL R R R R)<|mA R<|aZ<|C _<|Zk<|FY (P:=prog) (λ(r:(List Ai) × Am × Int)=>qi r.1) (λ(r:(List Ai) × Am × Int)=>.agg<|Ab r.2.1) (λ(r:(List Ai) × Am × Int)=>rI r.2.2) I iL (.t<|.d R) (.a DN R R R<|.g (cs:=[.int .i64 q.Node,.int .i64 q.From,.int .i64 q.To]) R R)<|.t<|.d R
theorem rG{d1 q b s c r}(h:LU d1 q b s c=some r):AO prog 33 [.agg [qg d1.Nodes],.agg<|Ab q,qa b,rI s,rS c] (.tup [qi r.1,.agg<|Ab r.2.1,rI r.2.2]):=by
 unfold LU at h
 refine mF func33 ntmps33 R λB=>aU<|sS R (Az (cs:=[qg d1.Nodes]) 5 R iL R R)<|sS R (Az (cs:=(Ab q)) 6 R iL R R)<|mA R<|sS R (BB (cs:=[rI 0,rI 0,rI 0]) 11 R Lf R R)<|mA R<|aZ<|aT λO=>aU<|mM R<|AE h λZ C T=>cL (Si<|C) R<|mA R<|aZ<|aU<|mM R<|xU R<|aZ<|cI R T (λE=>?_) λE=>?_
 ·refine aT λU=>aG [11,13] [11] ?_
  refine aR ?_
  refine sQ R (BM R HL (q:=[]) (by exact Za) (cs:=[rI 0,rI 0,rI 0])<|by rfl) ?_
  exact mM R<|mA R<|Zj R R (Ac (ds:=[rI 0,rI 0,rI 0]) R Eo iL R iL R R R R)<|mA R<|aZ<|U _<|Zk<|FY (P:=prog) (λ(r:(List Ai) × Am × Int)=>qi r.1) (λ(r:(List Ai) × Am × Int)=>.agg<|Ab r.2.1) (λ(r:(List Ai) × Am × Int)=>rI r.2.2) E iL (.t<|.one<|.nil) (.a DN R R R<|.g (cs:=[.int .i64 0,.int .i64 0,.int .i64 0]) R R)<|.t<|.d R
 refine Zd<|O _<|aT λV=>aG [2,3,4,5,6,11] [5,6,11] ?_
 refine AE E λl F X=>Gl X λu j w I Y=>?_
 refine rP 11 [pO 20<|.agg [qg d1.Nodes],pO 21<|.agg<|Ab q,pO 22<|qa b,⟨some 23,(λ_=>qa l),some (23,(λ_=>none)),[]⟩,pO 24<|.agg [rI 0,rI 5,qa l,.r<|.sl [],rI 0,rI 0,.r<|.sl [],.r<|.sl [],.r<|.sl []],pO 25<|rI s,pO 26<|rS c,pO 27<|.tup [qi u,.agg<|Ab j,rI w],pO 28<|qi u,pO 29<|.agg<|Ab j,pO 30<|rI w] BF R (by exact⟨oB [(5,.ptr 5 B 0 0)] [(5,some<|.box B 24 [qg d1.Nodes])]<|D5 R DT (.inl R) R R,oB [(6,.ptr 6 (B+1) 0 0)] [(6,some<|.box (B+1) 26<|Ab q)]<|D5 R DN (.inl R) R R,oB [(2,qa b)] []<|AK R<|.inl R,Rj R R (by intro d h;cases h;rfl) R (λ_=>[(22,qa b)]) (λ_=>[]) (λD A J=>⟨IF J 2 R R (by kernel_rfl) R R,Za⟩) (λD A J=>Za) λA e M n=>Fj.frz<|BK.toN<|Tp 23 (f:=AC.row) R Af (.inl R) (.inl ⟨(.inl R),λ_=>R⟩) F,oD (λ_=>[(23,qa l)]) (λ_=>[]) λA e M n=>vc (v:=.agg [rI 0,rI 5,qa l,cZ,rI 0,rI 0,cZ,cZ,cZ]) (.inr ⟨_,_,R,R,⟨.inl R,.inl R,.inl R,.inr<|.inr ⟨R,R⟩,.inl R,.inl R,.inr<|.inr ⟨R,R⟩,.inr<|.inr ⟨R,R⟩,.inr<|.inr ⟨R,R⟩,Za⟩⟩)<|AR.spec (v:=.agg [rI 0,rI 5,qa l,cZ,rI 0,rI 0,cZ,cZ,cZ]) (BM R Qx (q:=[(1,_),(2,_)]) (by exact⟨R,R,R,(.inl R),R,R,R,(.inl R),Za⟩) (cs:=[rI 0,rI 5,qa l,cZ,rI 0,rI 0,cZ,cZ,cZ])<|by rfl) _,oB [(3,rI s)] []<|AK R<|.inl R,oB [(4,rS c)] []<|AK R<|.inl R,oD (λ_=>[(20,.agg [qg d1.Nodes]),(21,.agg<|Ab q),(24,.agg [rI 0,rI 5,qa l,.r<|.sl [],rI 0,rI 0,.r<|.sl [],.r<|.sl [],.r<|.sl []]),(25,rI s),(26,rS c)]) (λ_=>[]) λA e M n=>B4 (r:=.tup [qi u,.agg<|Ab j,rI w]) (caps:=[]) (bs:=[.agg [qg d1.Nodes],.agg<|Ab q,.agg [rI 0,rI 5,qa l,.r<|.sl [],rI 0,rI 0,.r<|.sl [],.r<|.sl [],.r<|.sl []],rI s,rS c]) R (.inl R) R ⟨.inl ⟨(.inl R),R⟩,.inl ⟨(.inl R),R⟩,.inl ⟨(.inl R),R⟩,.inl ⟨(.inl R),R⟩,.inl ⟨(.inl R),R⟩,Za⟩ λ_=>VT<|I,oB [(27,.tup [qi u,.agg<|Ab j,rI w])] []<|Js (a:=qi u) R (.inl R) R,oB [(27,.tup [qi u,.agg<|Ab j,rI w])] []<|Js (a:=.agg<|Ab j) R (.inl R) R,oB [(27,.tup [qi u,.agg<|Ab j,rI w])] []<|Js (a:=rI w) R (.inl R) R,Za⟩) λA n1=>?_
 refine BC [2,3,4,5,6,11,20,21,22,23,24,25,26,27,28,29,30] [5,6,11] ?_
 exact mA R<|Zj R R (Ac (ds:=(Ab j)) R Eo iL R iL R R R R)<|mA R<|aZ<|V _<|Zk<|FY (P:=prog) (λ(r:(List Ai) × Am × Int)=>qi r.1) (λ(r:(List Ai) × Am × Int)=>.agg<|Ab r.2.1) (λ(r:(List Ai) × Am × Int)=>rI r.2.2) Y iL (.t<|.d R) (.a DN R R R<|.g (cs:=[.int .i64 j.Node,.int .i64 j.From,.int .i64 j.To]) R R)<|.t<|.d R
theorem re{d1 q b s c r}(h:PC d1 q b s c=some r):AO prog 34 [.agg [qg d1.Nodes],.agg<|Ab q,rB b,rI s,rS c] (.tup [qi r.1,.agg<|Ab r.2.1,rI r.2.2]):=by
 unfold PC at h
 refine mF func34 ntmps34 R λl=>aU<|sS R (Az (cs:=[qg d1.Nodes]) 5 R iL R R)<|sS R (Az (cs:=(Ab q)) 6 R iL R R)<|mA R<|sS R (BB (cs:=[rI 0,rI 0,rI 0]) 11 R Lf R R)<|mA R<|aZ<|aU<|mA R<|aZ<|aS λM O A=>aU<|mM R<|aZ<|BA h λT B E=>?_
 have J:∀(j:List UInt8) (u:NN),T=j→M ⟨[(3,rI s),(4,rS c),(5,.ptr 5 l 0 0),(6,.ptr 6 (l+1) 0 0),(11,.ptr 11 (l+2) 0 0),(13,rS j)],[(5,some<|.box l 24 [qg d1.Nodes]),(6,some<|.box (l+1) 26<|Ab q),(11,some<|.box (l+2) 26 [rI 0,rI 0,rI 0])],(u 0),29⟩:=by
  intro j u e
  have U:=E _ e
  refine O _<|aT λV=>aR<|xC DT R<|xC DN R<|mM R ?_
  refine sQ R (BM R Fo (q:=[(0,_),(1,_)]) (by exact⟨R,R,R,iL,R,R,R,iL,Za⟩) (cs:=[.r<|.str [107,105,110,100],rS j])<|by rfl) ?_
  refine sS R (Bm 19 R Af (f:=AC.row) (l:=([(AC.mk [107,105,110,100] j)]:List AC)) ⟨R,⟨_,iL,R⟩,Za⟩ R (λ_=>R) R) ?_
  refine sQ R (BM R JJ (q:=[(0,_)]) (by exact⟨R,R,R,iL,Za⟩) (cs:=GC)<|by rfl) ?_
  refine sS R (Bm 21 R Ar (f:=AG.row) (l:=([(AG.mk 10 0 [])]:List AG)) ⟨R,⟨_,iL,R⟩,Za⟩ R (λ_=>R) R) ?_
  refine sQ R (BM R Qx (q:=[(1,_),(2,_),(3,_)]) (by exact⟨R,R,R,iL,R,R,R,iL,R,R,R,iL,Za⟩) (cs:=[rI 0,rI 4,.own 19<|u 0,.own 21<|(u 0)+1,rI 0,rI 0,cZ,cZ,cZ])<|by rfl) ?_
  refine mM R<|mM R ?_
  refine AM.weak (by exact Ap.frz (e':=[(3,rI s),(4,rS c),(5,.ptr 5 l 0 0),(6,.ptr 6 (l+1) 0 0),(11,.ptr 11 (l+2) 0 0),(13,rS j),(15,.agg [qg d1.Nodes]),(16,.agg<|Ab q),(17,rS j),(18,.agg [.r<|.str [107,105,110,100],rS j]),(19,.r<|.sl<|[(AC.mk [107,105,110,100] j)].map AC.row),(20,.agg GC),(21,.own 21<|(u 0)+1),(22,.agg [rI 0,rI 4,.r<|.sl<|[(AC.mk [107,105,110,100] j)].map AC.row,.own 21<|(u 0)+1,rI 0,rI 0,cZ,cZ,cZ]),(23,rI s),(24,rS c)]) (h':=[(5,some<|.box l 24 [qg d1.Nodes]),(6,some<|.box (l+1) 26<|Ab q),(11,some<|.box (l+2) 26 [rI 0,rI 0,rI 0]),(21,some<|.arr ((u 0)+1) 51 3<|[(AG.mk 10 0 [])].map AG.row)]) 19 R ⟨jL,jL,jL,jL,jL,jL,jL,jL,jL,jL,.inl<|.inr<|.inr ⟨R,R⟩,jL,jL,.inr ⟨_,_,R,R,⟨.inl R,.inl R,.inr<|.inr ⟨R,R⟩,.inl R,.inl R,.inl R,.inl R,.inl R,.inl R,Za⟩⟩,jL,jL,Za⟩ ⟨R,.inl R,R,.inl R,R,.inl R,R,.inl R,Za⟩) ?_
  refine AM.weak (by exact Ap.frz (e':=[(3,rI s),(4,rS c),(5,.ptr 5 l 0 0),(6,.ptr 6 (l+1) 0 0),(11,.ptr 11 (l+2) 0 0),(13,rS j),(15,.agg [qg d1.Nodes]),(16,.agg<|Ab q),(17,rS j),(18,.agg [.r<|.str [107,105,110,100],rS j]),(19,.r<|.sl<|[(AC.mk [107,105,110,100] j)].map AC.row),(20,.agg GC),(21,.r<|.sl<|[(AG.mk 10 0 [])].map AG.row),(22,.agg [rI 0,rI 4,.r<|.sl<|[(AC.mk [107,105,110,100] j)].map AC.row,.r<|.sl<|[(AG.mk 10 0 [])].map AG.row,rI 0,rI 0,cZ,cZ,cZ]),(23,rI s),(24,rS c)]) (h':=[(5,some<|.box l 24 [qg d1.Nodes]),(6,some<|.box (l+1) 26<|Ab q),(11,some<|.box (l+2) 26 [rI 0,rI 0,rI 0])]) 21 R ⟨jL,jL,jL,jL,jL,jL,jL,jL,jL,jL,jL,jL,.inl<|.inr<|.inr ⟨R,R⟩,.inr ⟨_,_,R,R,⟨.inl R,.inl R,.inl R,.inr<|.inr ⟨R,R⟩,.inl R,.inl R,.inl R,.inl R,.inl R,Za⟩⟩,jL,jL,Za⟩ ⟨R,.inl R,R,.inl R,R,.inl R,Za⟩) ?_
  refine AM.weak (by exact ZD (e':=[(3,rI s),(4,rS c),(5,.ptr 5 l 0 0),(6,.ptr 6 (l+1) 0 0),(11,.ptr 11 (l+2) 0 0),(13,rS j),(15,.agg [qg d1.Nodes]),(16,.agg<|Ab q),(17,rS j),(18,.agg [.r<|.str [107,105,110,100],rS j]),(19,.r<|.sl<|[(AC.mk [107,105,110,100] j)].map AC.row),(20,.agg GC),(21,.r<|.sl<|[(AG.mk 10 0 [])].map AG.row),(22,.agg [rI 0,rI 4,.r<|.sl<|[(AC.mk [107,105,110,100] j)].map AC.row,.r<|.sl<|[(AG.mk 10 0 [])].map AG.row,rI 0,rI 0,.r<|.sl [],.r<|.sl [],.r<|.sl []]),(23,rI s),(24,rS c)]) (h':=[(5,some<|.box l 24 [qg d1.Nodes]),(6,some<|.box (l+1) 26<|Ab q),(11,some<|.box (l+2) 26 [rI 0,rI 0,rI 0])]) ⟨jL,jL,jL,jL,jL,jL,jL,jL,jL,jL,jL,jL,jL,.inr ⟨_,_,R,R,⟨.inl R,.inl R,.inl R,.inl R,.inl R,.inl R,.inr<|.inr ⟨R,R⟩,.inr<|.inr ⟨R,R⟩,.inr<|.inr ⟨R,R⟩,Za⟩⟩,jL,jL,Za⟩ ⟨.inl R,.inl R,.inl R,Za⟩ nL) ?_
  exact Gl U λX C Y F Z=>sS R (B4 (r:=.tup [qi X,.agg<|Ab C,rI Y]) (caps:=[]) (bs:=[.agg [qg d1.Nodes],.agg<|Ab q,.agg [rI 0,rI 4,.r<|.sl<|[(AC.mk [107,105,110,100] j)].map AC.row,.r<|.sl<|[(AG.mk 10 0 [])].map AG.row,rI 0,rI 0,.r<|.sl [],.r<|.sl [],.r<|.sl []],rI s,rS c]) R iL R ⟨.inl ⟨iL,R⟩,.inl ⟨iL,R⟩,.inl ⟨iL,R⟩,.inl ⟨iL,R⟩,.inl ⟨iL,R⟩,Za⟩ λ_=>VT<|F)<|xX R<|xX R<|xX R<|mA R<|Zj R R (Ac (ds:=(Ab C)) R Eo iL R iL R R R R)<|mA R<|aZ<|V _<|Zk<|FY (P:=prog) (λ(r:(List Ai) × Am × Int)=>qi r.1) (λ(r:(List Ai) × Am × Int)=>.agg<|Ab r.2.1) (λ(r:(List Ai) × Am × Int)=>rI r.2.2) Z iL (.t<|.d R) (.a DN R R R<|.g (cs:=[.int .i64 C.Node,.int .i64 C.From,.int .i64 C.To]) R R)<|.t<|.d R
 refine aC R (λw=>?_) λw=>?_
 ·have I:=Bk w B
  exact aR<|mA R<|Zi<|A _ _ wk<|J _ (AH [(l+3)]) (Zb I).symm
 ·have I:=Bn w B
  exact Zd<|A _ _ wk<|J _ (AH [(l+3)]) (Zb I).symm
theorem jS{r}(h:Vx=some r):AO prog 35 [] (.agg<|Ag r):=by
 unfold Vx at h
 refine mF func35 ntmps35 R λl=>aU<|sS R (BB (cs:=Ec) 0 R EV R R)<|aZ<|aT λj=>aR ?_
 refine sQ R (BM R JJ (q:=[(0,_)]) (by exact⟨R,R,R,iL,Za⟩) (cs:=GC)<|by rfl) ?_
 refine Zj R R (Ac (ds:=GC) R DK iL R iL R R R R)<|oZ j ?_
 exact Zk<|DE (P:=prog) (λ(r:AG)=>.agg<|Ag r) h iL<|.a Cf R R R<|.agg<|by exact⟨.closed _ R,.closed _ R,.nil,Za⟩
theorem Uj{j n r}(h:I3 j n=some r):AO prog 59 [qa j,rS n] (rS r):=by
 unfold I3 at h
 refine mF func59 ntmps59 R λY=>aU<|mA R<|aZ<|aS λZ c2 A=>aU<|mM R<|xL Af R<|mM R<|aZ<|Zf<|BJ h λo1 l B C=>?_
 have J1:∀(T:Unit) (U:NN),o1=.nrm T→Z ⟨[],[],(U 0),24⟩:=by
  intro T U e
  have h1:=B _ e
  exact c2 _<|aU<|mA R<|aZ<|Zk<|DE (P:=prog) (λ(r:(List UInt8))=>rS r) h1 iL<|.t<|.d R
 refine ZC (λ(E:Int) w=>⟨[(0,qa j),(1,rS n),(7,rL j),(8,rI E)],[],(w 0),24⟩) (AH [Y]) l wk ?_
 intro E w v1 F q
 have V:Rh j n E=some v1:=F;unfold Rh at V
 refine aU<|xS R<|aZ<|aT λc6=>cI R V (λI=>?_) λI=>?_
 ·refine Zd<|c6 _<|aT λc7=>Zf<|aU<|mM R<|mA R<|aZ<|aU<|mM R<|mM R<|AE I λX u h4=>xI Af R u<|sQ R (A6 R Cb iL)<|xV (.str X.Name) BG R<|mM R<|sQ R (CA R iL iL)<|aZ<|cI R h4 (λJ=>?_) λJ=>?_
  ·refine aT λM=>aF [0,5] ?_
   exact aR<|mM R<|mM R<|xI Af R u<|sQ R (A6 R IP iL)<|xV (.str X.Value) BG R<|mA R<|aZ<|M _<|Zk<|DE (P:=prog) (λ(r:(List UInt8))=>rS r) (C _<|xH q J) iL<|.t<|.d R
  refine Zd<|c7 _<|aF [0,1,7,8] ?_
  exact aR<|AE J λx5 O h6=>xA R O<|mM R<|Zi<|Zx h6 (AH [(w 0)]) wk
 exact Zn<|A _ _ wk<|J1 _ (AH [(w 0)])<|xH q I
theorem fb{j n r}(h:N5 j n=some r):AO prog 77 [qa j,rS n] (rB r):=by
 unfold N5 at h
 refine mF func77 ntmps77 R λV=>aU<|mA R<|aZ<|aS λX Y w=>aU<|mM R<|xL Af R<|mM R<|aZ<|Zf<|BJ h λZ l A B=>?_
 have J1:∀(O:Unit) (T:NN),Z=.nrm O→X ⟨[],[],(T 0),19⟩:=by
  intro O T e
  have h1:=A _ e
  exact Y _<|zB h1 R id
 refine ZC (λ(C:Int) u=>⟨[(0,qa j),(1,rS n),(7,rL j),(8,rI C)],[],(u 0),19⟩) (AH [V]) l wk ?_
 intro C u v1 E q
 have U:P8 j n C=some v1:=E;unfold P8 at U
 refine aU<|xS R<|aZ<|aT λc6=>cI R U (λF=>?_) λF=>?_
 ·refine Zd<|c6 _<|aT λc7=>Zf<|aU<|mM R<|mA R<|aZ<|aU<|mM R<|mM R<|AE F λx4 I h4=>xI Af R I<|sQ R (A6 R Cb iL)<|xV (.str x4.Name) BG R<|mM R<|sQ R (CA R iL iL)<|aZ<|cI R h4 (λJ=>?_) λJ=>?_
  ·exact zB (B _<|xH q J) R id
  refine Zd<|c7 _<|aF [0,1,7,8] ?_
  exact aR<|AE J λx5 M h6=>xA R M<|mM R<|Zi<|Zx h6 (AH [(u 0)]) wk
 exact Zn<|w _ _ wk<|J1 _ (AH [(u 0)])<|xH q F
theorem VP{q m r}(h:H7 q m=some r):AO prog 27 [qb q,rI m] (.r<|.sl<|r.map<|Ak .i64):=by
 unfold H7 at h
 refine mF func27 ntmps27 R λY=>aU<|mA R<|aZ<|aU<|mA R<|aZ<|aS λK3 c3 a0=>aU<|mM R<|xL Ar R<|mM R<|aZ<|Zf<|BA h λo1 O a1=>?_
 have J1:∀(u:List Int) (Z:NN),o1=u→K3 ⟨[(5,.own 5005<|Z 0)],[(5005,some<|.arr (Z 0) 3 1<|u.map<|Ak .i64)],(Z 1),58⟩:=by
  intro u Z e
  have h1:=a1 _ e
  exact c3 _<|aU<|mM R<|mA R<|aZ<|Zk<|DE (P:=prog) (λ(r:(List Int))=>.r<|.sl<|r.map<|Ak .i64) h1 iL<|.t<|.one<|.own R
 refine DH (λ(C:Int) (l:List Int) w=>⟨[(0,qb q),(1,rI m),(5,.own 5005<|w 0),(10,rL q),(11,rI C)],[(5005,some<|.arr (w 0) 3 1<|l.map<|Ak .i64)],(w 1),58⟩) (AH [Y,(Y+1)]) O (Zm (Zm (G8 5 5005 3 1 (by decide) R)<|by exact ZD (e':=[(0,qb q),(1,rI m),(4,cZ),(5,.own 5005 Y),(9,qb q),(10,rL q),(11,rI 0)]) (h':=[(5005,some<|.arr Y 3 1<|([]:List Int).map<|Ak .i64)]) ⟨jL,jL,jL,jL,jL,jL,jL,Za⟩ ⟨.inl R,Za⟩ nL) wk) ?_
 intro C l w v1 a2 a6
 have h2:NK q m C l=some v1:=a2;unfold NK at h2
 refine aU<|xS R<|aZ<|aT λc7=>cI R h2 (λh3=>?_) λh3=>?_
 ·refine Zd<|c7 _<|aS λK8 c8 T=>Zf<|BA h3 λp1 a7 a8=>?_
  have J2:∀(A:List Int) (M:NN),p1=A→K8 ⟨[(0,qb q),(1,rI m),(5,.own 5005<|M 0),(10,rL q),(11,rI C)],[(5005,some<|.arr (M 0) 3 1<|A.map<|Ak .i64)],(M 1),58⟩:=by
   intro A M e
   have h4:=a8 _ e
   exact c8 _<|aR<|AE h4 λx4 aa h5=>xA R aa<|mM R<|Zi<|ZL h5 (AH [(M 0),(M 1)]) wk
  refine aU<|mM R<|mA R<|aZ<|aU<|mM R<|mM R<|AE a7 λx5 U h6=>xI Ar R U<|sQ R (A6 R Cr iL)<|xV (.sl<|x5.Attrs.map AC.row) BE R<|mA R<|aZ<|aU<|mM R<|AE h6 λr1 ab h7=>cL (Uj<|ab) R<|sQ R (D7 R iL iL)<|mA R<|aZ<|aS λac ad B=>aT λae=>aG [0,1,5,6,7,8,10,11] [5005] ?_
  refine aR<|mM R<|xQ R<|mM R<|vM R<|AE h7 λr2 af h8=>vL (λhg=>fb<|AP af hg) R<|xN R<|mM R<|vM R<|vQ R (Aw R (iR R) iL)<|vQ R (AK R<|iR R)<|wQ R (AK R iL)<|AE h8 λr3 ag h9=>AM.stepW (.two R R R) R R (EG (r:=rB r3) (caps:=[]) (bs:=[qa x5.Attrs,.r<|.str [97,100,100]]) R iL R ⟨⟨_,(iR R),.d R⟩,⟨_,iL,.d R⟩,Za⟩ (λhg=>fb<|AP ag hg) R)<|vQ R (BQ R (iR R)<|iR R)<|xO R<|aZ<|ae _<|BA h9 λp2 V ah=>?_
  have J3:∀(j:Bool) (X:NN),p2=j→ac ⟨[(0,qb q),(1,rI m),(5,.own 5005<|w 0),(6,rI C),(8,rB j),(10,rL q),(11,rI C)],[(5005,some<|.arr (w 0) 3 1<|l.map<|Ak .i64)],(X 0),58⟩:=by
   intro j X e
   have ai:=ah _ e
   refine ad _<|aU<|mM R<|mM R<|vM R<|vM R<|vQ R (Bq R Ar.slice<|iR R)<|AE ai λx6 aj ak=>vQ R (B5 R (iR R) iL<|AP aj)<|vQ R (Aw R (iR R)<|iR R)<|vQ R (AK R<|iR R)<|wQ R (AK R iL)<|wQ R (AK R iL)<|wQ R (At R Ar.slice (iR R) (iR R) (λ_=>R) λ_=>U)<|wQ R (A6 R Eb<|iR R)<|wQ R (BV (d:=.int .i64 x5.Char) R AJ (iR R) R)<|wQ R (Aw R (iR R) iL)<|vQ R (BQ R (iR R)<|iR R)<|xO R<|aZ<|cI R ak (λE=>?_) λE=>?_
   ·exact aR<|mM R<|mM R<|sS R (Bm 54 R B8 (f:=(Ak .i64)) (l:=([C]:List Int)) ⟨R,⟨_,iL,R⟩,Za⟩ R (λ_=>R) R)<|AE E λan F al=>sS R (Ci R B8 iL R (.inr<|.inl ⟨_,_,iL,R⟩) F)<|mA R<|Zi<|T _ _ wk<|J2 _ (AH [((X 0)+1),((X 0)+2)]) (Zb al).symm
   exact Zd<|T _ _ wk<|J2 _ (AH [(w 0),(X 0)]) (Zb E).symm
  refine aC R (λI=>?_) λI=>?_
  ·have J:=Bk I V
   exact aR<|mA R<|Zi<|B _ _ wk<|J3 _ (AH [(w 1)]) (Zb J).symm
  ·have J:=Bn I V
   exact Zd<|B _ _ wk<|J3 _ (AH [(w 1)]) (Zb J).symm
 exact Zn<|a0 _ _ wk<|J1 _ (AH [(w 0),(w 1)])<|xH a6 h3
theorem nZ{d1 l r}(h:Nn d1 l=some r):AO prog 10 [.agg [qg d1.Nodes],.agg<|Ab l] (rI r):=by
 unfold Nn at h
 refine mF func10 ntmps10 R λn0=>aU<|sS R (Az (cs:=[qg d1.Nodes]) 2 R iL R R)<|sS R (Az (cs:=(Ab l)) 3 R iL R R)<|mA R<|aZ<|aT λU=>aU<|xC DT R<|AE h λe1 q V=>cL (gM<|q) R<|mA R<|aZ<|aU<|mM R<|xU R<|aZ<|cI R V (λu=>?_) λu=>?_
 ·refine aT λX=>aF [5] ?_
  exact aR<|mM R<|mA R<|aZ<|X _<|Zk<|yI u R
 refine Zd<|U _<|aU<|xC DT R<|lF Lz AJ R R<|AE u λi1 w Y=>cL (Ra<|w) R<|mA R<|aZ<|aT λZ=>aT λc8=>aG [2,3,6] [2,3] ?_
 refine aR<|mM R<|xS R<|aZ<|c8 _<|cI R Y (λA=>?_) λA=>?_
 ·exact zI A R id
 refine Zd<|Z _<|aT λB=>aU<|lF Dd DZ R R<|mM R<|AE A λC j h5=>xI C0 R j<|sQ R (A6 R CR iL)<|xV (.int .i64 C.Kind) AJ R<|AE h5 λr1 E h6=>cL (UH<|E) R<|sQ R (A3 R iL)<|aZ<|cI R h6 (λF=>?_) λF=>?_
 ·exact zI F R id
 refine Zd<|B _<|aT λI=>aT λJ=>aG [2,3,6] [2,3] ?_
 refine aR<|lF Dd DZ R R<|mM R<|xI C0 R j<|sQ R (A6 R Em iL)<|xV (.sl<|C.Flow.map AG.row) B0 R<|AE F λr2 M h8=>sS R (B4 (r:=.r<|.sl<|r2.map<|Ak .i64) (caps:=[]) (bs:=[qb C.Flow,rI 0]) R iL R ⟨.inl ⟨iL,R⟩,.inl ⟨iL,R⟩,Za⟩ λ_=>VP<|M)<|xL B8 R<|mA R<|aZ<|J _<|aT λO=>aG [3,7] [3] ?_
 refine aR<|lF GW AJ R R<|xS R<|mM R<|vF L7 AJ R R<|vF GW AJ R R<|vQ R (B7 R (iR R)<|iR R)<|xO R<|mM R<|vF L7 AJ R R<|vM R<|vQ R (Cv R (iR R)<|iR R)<|xO R<|aZ<|O _<|cI R h8 (λT=>?_) λT=>?_
 ·exact zI T R id
 exact Zd<|I _<|zI T R id
theorem nz{d1 j a r}(h:Gd d1 j a=some r):AO prog 14 [.agg [qg d1.Nodes],.agg<|Ab j,rS a] (rI r):=by
 unfold Gd at h
 refine mF func14 ntmps14 R λJ=>aU<|sS R (Az (cs:=[qg d1.Nodes]) 3 R iL R R)<|sS R (Az (cs:=(Ab j)) 4 R iL R R)<|mA R<|aZ<|aT λA=>aU<|xC DT R<|xC DN R<|AE h λM l B=>cL (nZ<|l) R<|mA R<|aZ<|aU<|mM R<|xU R<|aZ<|cI R B (λq=>?_) λq=>?_
 ·refine aT λC=>aF [7] ?_
  exact aR<|mM R<|mA R<|aZ<|C _<|Zk<|yI q R
 refine Zd<|A _<|aT λE=>aT λF=>aF [2] ?_
 refine aR<|mM R<|sQ R (D7 R iL iL)<|mM R<|vM R<|AE q λO u I=>vL (λhg=>Us<|AP u hg) R<|vQ R (A3 R<|iR R)<|xN R<|aZ<|F _<|cI R I (λw=>?_) λw=>?_
 ·exact zI w R id
 exact Zd<|E _<|zI w R id
theorem uF{w r}(h:LF w=some r):AO prog 17 [qb w] (qb r):=by
 unfold LF at h
 refine mF func17 ntmps17 R λC=>aU<|mA R<|aZ<|aU<|mA R<|aZ<|aU<|mM R<|AE h λq F h1=>sS R (B4 (r:=.r<|.sl<|q.map<|Ak .i64) (caps:=[]) (bs:=[qb w,rI 0]) R iL R ⟨.inl ⟨iL,R⟩,.inl ⟨iL,R⟩,Za⟩ λ_=>VP<|F)<|mA R<|aZ<|aS λK4 c4 I=>aU<|mM R<|xL B8 R<|mM R<|aZ<|Zf<|BA h1 λo1 B J=>?_
 have J1:∀(j:List AG) (E:NN),o1=j→K4 ⟨[(3,.own 5003<|E 0)],[(5003,some<|.arr (E 0) 51 3<|j.map AG.row)],(E 1),25⟩:=by
  intro j E e
  have h2:=J _ e
  exact c4 _<|aU<|mM R<|mA R<|aZ<|Zk<|DE (P:=prog) (λ(r:(List AG))=>qb r) h2 iL<|.t<|.one<|.own R
 refine DH (λ(M:Int) (l:List AG) u=>⟨[(0,qb w),(3,.own 5003<|u 0),(4,.r<|.sl<|q.map<|Ak .i64),(9,rL q),(10,rI M)],[(5003,some<|.arr (u 0) 51 3<|l.map AG.row)],(u 1),25⟩) (AH [C,(C+1)]) B (Zm (Zm (G8 3 5003 51 3 (by decide) R)<|by exact ZD (e':=[(0,qb w),(2,cZ),(3,.own 5003 C),(4,.r<|.sl<|q.map<|Ak .i64),(6,qb w),(7,.r<|.sl<|q.map<|Ak .i64),(8,.r<|.sl<|q.map<|Ak .i64),(9,rL q),(10,rI 0)]) (h':=[(5003,some<|.arr C 51 3<|([]:List AG).map AG.row)]) ⟨jL,jL,jL,jL,jL,jL,jL,jL,jL,Za⟩ ⟨.inl R,Za⟩ nL) wk) ?_
 intro M l u v1 O T
 have Z:MM w q M l=some v1:=O;unfold MM at Z
 refine aU<|xS R<|aZ<|aT λc8=>cI R Z (λU=>?_) λU=>?_
 ·refine Zd<|c8 _<|aT λc9=>Zf<|aU<|mM R<|mA R<|aZ<|aR<|mM R<|mM R<|mM R<|mM R<|AE U λx4 V h5=>xI B8 R V<|xV (.int .i64 x4) AJ R<|AE h5 λx5 X h6=>xI Ar R X<|xB ((Ag x5)) Cf R<|sS R (Bm 21 R Ar (f:=AG.row) (l:=([x5]:List AG)) ⟨R,⟨_,iL,R⟩,Za⟩ R (λ_=>R) R)<|AE h6 λa0 A h7=>sS R (Ci R Ar iL R (.inr<|.inl ⟨_,_,iL,R⟩) A)<|mA R<|aZ<|c9 _<|aG [0,3,4,9,10] [5003] ?_
  exact aR<|AE h7 λx6 Y h8=>xA R Y<|mM R<|Zi<|ZL h8 (AH [((u 1)+1),((u 1)+2)]) wk
 exact Zn<|I _ _ wk<|J1 _ (AH [(u 0),(u 1)])<|xH T U
theorem sO{n r}(h:PM n=some r):AO prog 56 [rS n] (rB r):=by
 unfold PM at h
 refine mF func56 ntmps56 R λl=>aU<|mA R<|aZ<|aT λZ=>aU<|mM R<|aZ<|Zf<|aS λK4 c4 j=>aU<|sQ R (CA R iL iL)<|mA R<|aZ<|BA h λp1 B C=>?_
 have q:∀(E:Bool) (Y:NN),p1=E→K4 ⟨[(4,rB E)],[],(Y 0),15⟩:=by
  intro E Y e
  have h1:=C _ e
  refine c4 _<|cI R h1 (λF=>?_) λF=>?_
  ·exact zB F R id
  exact Zd<|Z _<|zB F R id
 refine aC R (λu=>?_) λu=>?_
 ·have I:=Bk u B
  exact Zd<|j _ _ wk<|q _ (AH [l]) (Zb I).symm
 ·have I:=Bn u B
  refine aU<|sQ R (CA R iL iL)<|mA R<|aZ<|cI R I (λJ=>?_) λJ=>?_
  ·exact Zd<|j _ _ wk<|q _ (AH [l]) (Zb J).symm
  refine aU<|sQ R (CA R iL iL)<|mA R<|aZ<|cI R J (λM=>?_) λM=>?_
  ·exact Zd<|j _ _ wk<|q _ (AH [l]) (Zb M).symm
  refine aU<|sQ R (CA R iL iL)<|mA R<|aZ<|cI R M (λO=>?_) λO=>?_
  ·exact Zd<|j _ _ wk<|q _ (AH [l]) (Zb O).symm
  refine aU<|sQ R (CA R iL iL)<|mA R<|aZ<|cI R O (λT=>?_) λT=>?_
  ·exact Zd<|j _ _ wk<|q _ (AH [l]) (Zb T).symm
  refine aU<|sQ R (CA R iL iL)<|mA R<|aZ<|cI R T (λU=>?_) λU=>?_
  ·exact Zd<|j _ _ wk<|q _ (AH [l]) (Zb U).symm
  refine aT λV=>aF [3] ?_
  refine aR<|sQ R (CA R iL iL)<|mA R<|aZ<|V _<|cI R U (λX=>?_) λX=>?_
  ·exact Zd<|j _ _ wk<|q _ (AH [l]) (Zb X).symm
  refine aU<|sQ R (CA R iL iL)<|mA R<|aZ<|cI R X (λw=>?_) λw=>?_
  ·exact Zd<|j _ _ wk<|q _ (AH [l]) (Zb w).symm
  refine aU<|sQ R (CA R iL iL)<|mA R<|aZ<|cI R w (λA=>?_) λA=>?_
  ·exact Zd<|j _ _ wk<|q _ (AH [l]) (Zb A).symm
  exact aR<|sQ R (CA R iL iL)<|mA R<|Zi<|j _ _ wk<|q _ (AH [l]) (Zb A).symm
theorem Sd{B w r}(h:Ir B w=some r):AO prog 57 [qa B,.agg<|BL w] (qa r):=by
 unfold Ir at h
 refine mF func57 ntmps57 R λA=>aU<|sS R (Az (cs:=(BL w)) 3 R iL R R)<|mA R<|aZ<|aU<|mA R<|aZ<|aU<|mA R<|aZ<|aS λK4 c4 ad=>aU<|mM R<|xL Af R<|mM R<|aZ<|Zf<|Ks h λo1 a7 ae=>?_
 have J1:∀(j:Bool) (C:List AC) (T:NN),o1=(j,C)→K4 ⟨[(3,.ptr 3 A 0 0),(5,.own 5005<|T 0),(6,rB j)],[(3,some<|.box A 58<|BL w),(5005,some<|.arr (T 0) 58 2<|C.map AC.row)],(T 1),52⟩:=by
  intro j C T e
  have h1:=ae _ _ e
  refine c4 _<|aS λK6 c6 a8=>aU<|mM R<|sQ R (A3 R iL)<|aZ<|BA h1 λp1 aa af=>?_
  have J2:∀(E:List AC) (i6:NN),p1=E→K6 ⟨[(5,.own 5005<|i6 0)],[(5005,some<|.arr (i6 0) 58 2<|E.map AC.row)],(i6 1),52⟩:=by
   intro E i6 e
   have h2:=af _ e
   exact c6 _<|aU<|mM R<|mA R<|aZ<|Zk<|DE (P:=prog) (λ(r:(List AC))=>qa r) h2 iL<|.t<|.one<|.own R
  refine aC R (λX=>?_) λX=>?_
  ·have h3:=Bk X aa
   exact aR<|mM R<|xC CO R<|sS R (Bm 49 R Af (f:=AC.row) (l:=([w]:List AC)) ⟨R,⟨_,iL,R⟩,Za⟩ R (λ_=>R) R)<|AE h3 λb4 Y h4=>sS R (Ci R Af iL R (.inr<|.inl ⟨_,_,iL,R⟩) Y)<|mA R<|Zi<|a8 _ _ wk<|J2 _ (AH [((T 1)+1),((T 1)+2)]) (Zb h4).symm
  ·have h3:=Bn X aa
   exact Zd<|a8 _ _ wk<|J2 _ (AH [(T 0),(T 1)]) (Zb h3).symm
 refine IU (λ(l:Bool) (x2:Int) (F:List AC) M=>⟨[(0,qa B),(3,.ptr 3 A 0 0),(5,.own 5005<|M 0),(6,rB l),(9,rL B),(10,rI x2)],[(3,some<|.box A 58<|BL w),(5005,some<|.arr (M 0) 58 2<|F.map AC.row)],(M 1),52⟩) (AH [(A+1),(A+2)]) a7 (Zm (Zm (G8 5 5005 58 2 (by decide) R)<|by exact ZD (e':=[(0,qa B),(1,.agg<|BL w),(3,.ptr 3 A 0 0),(4,cZ),(5,.own 5005<|A+1),(6,rB false),(8,qa B),(9,rL B),(10,rI 0)]) (h':=[(3,some<|.box A 58<|BL w),(5005,some<|.arr (A+1) 58 2<|([]:List AC).map AC.row)]) ⟨jL,jL,jL,jL,jL,jL,jL,jL,jL,Za⟩ ⟨.inl R,.inl R,Za⟩ nL) wk) ?_
 intro l x2 F M v1 ag ah
 have h5:PR B w l x2 F=some v1:=ag;unfold PR at h5
 refine aU<|xS R<|aZ<|aT λai=>cI R h5 (λh6=>?_) λh6=>?_
 ·refine Zd<|ai _<|aS λaj ak U=>Zf<|Ks h6 λp2 al an=>?_
  have J3:∀(q:Bool) (I:List AC) (i7:NN),p2=(q,I)→aj ⟨[(0,qa B),(3,.ptr 3 A 0 0),(5,.own 5005<|i7 0),(6,rB q),(9,rL B),(10,rI x2)],[(3,some<|.box A 58<|BL w),(5005,some<|.arr (i7 0) 58 2<|I.map AC.row)],(i7 1),52⟩:=by
   intro q I i7 e
   have h7:=an _ _ e
   exact ak _<|aR<|AE h7 λx4 ao h8=>xA R ao<|mM R<|Zi<|Dv.mk h8 (AH [(i7 0),(i7 1)]) wk
  refine aU<|mM R<|mA R<|aZ<|aS λaq ar V=>aT λav=>?_
  refine ZB BF (by kernel_rfl) ?_
  refine qP R (AK R iL)<|qP R (A3 R iL)<|qP R (AK R iL)<|qO R (AK R iL)<|qO R (AK R iL)<|AE al λx5 aw h9=>qO R (At R Af.slice (iR R) (iR R) (λ_=>R)<|AP aw)<|qO R (A6 R Cb<|iR R)<|qO R (BV (d:=.str x5.Name) R BG (iR R) R)<|qO R (fB R Cb iL fR R)<|qO R (AU (a:=rS w.Name) R BG (iR R) R R)<|qO R (Xi R (iR R)<|iR R)<|qP R (BQ R iL<|iR R)<|AQ.nil<|av _<|Ks h9 λp3 ab ax=>?_
  have J4:∀(u:Bool) (J:List AC) (i8:NN),p3=(u,J)→aq ⟨[(0,qa B),(3,.ptr 3 A 0 0),(5,.own 5005<|i8 0),(6,rB u),(7,rI x2),(9,rL B),(10,rI x2)],[(3,some<|.box A 58<|BL w),(5005,some<|.arr (i8 0) 58 2<|J.map AC.row)],(i8 1),52⟩:=by
   intro u J i8 e
   have ay:=ax _ _ e
   refine ar _<|aT λaz=>?_
   refine ZB BF (by kernel_rfl) ?_
   refine qP R (AK R iL)<|qP R (AK R iL)<|AE ay λx6 ac b0=>qP R (At R Af.slice iL iL (λ_=>R) λ_=>ac)<|qP R (A6 R Cb iL)<|qP R (BV (d:=.str x6.Name) R BG iL R)<|qP R (fB R Cb iL fR R)<|qP R (AU (a:=rS w.Name) R BG iL R R)<|qP R (D7 R iL iL)<|AQ.nil<|az _<|cI R b0 (λZ=>?_) λZ=>?_
   ·exact aR<|mM R<|mM R<|mM R<|xI Af R ac<|xB ((BL x6)) CO R<|sS R (Bm 42 R Af (f:=AC.row) (l:=([x6]:List AC)) ⟨R,⟨_,iL,R⟩,Za⟩ R (λ_=>R) R)<|AE Z λb5 a0 b1=>sS R (Ci R Af iL R (.inr<|.inl ⟨_,_,iL,R⟩) a0)<|mA R<|Zi<|U _ _ wk<|J3 _ _ (AH [((i8 1)+1),((i8 1)+2)]) (Zb b1).symm
   exact Zd<|U _ _ wk<|J3 _ _ (AH [(i8 0),(i8 1)]) (Zb Z).symm
  refine aC R (λa2=>?_) λa2=>?_
  ·have a6:=Bk a2 ab
   refine aU<|mM R<|xC CO R<|sS R (Bm 27 R Af (f:=AC.row) (l:=([w]:List AC)) ⟨R,⟨_,iL,R⟩,Za⟩ R (λ_=>R) R)<|AE a6 λb2 O b3=>sS R (Ci R Af iL R (.inr<|.inl ⟨_,_,iL,R⟩) O)<|mA R<|aZ<|aG [0,3,5,7,9,10] [3,5005] ?_
   exact aR<|mA R<|Zi<|V _ _ wk<|J4 _ _ (AH [((M 1)+1),((M 1)+2)]) (Zb b3).symm
  ·have a6:=Bn a2 ab
   exact Zd<|V _ _ wk<|J4 _ _ (AH [(M 0),(M 1)]) (Zb a6).symm
 exact Zn<|ad _ _ wk<|J1 _ _ (AH [(M 0),(M 1)])<|xH ah h6
theorem Yu{l f r}(h:NO l f=some r):AO prog 110 [rS l,rS f] (rB r):=by
 unfold NO at h
 refine mF func110 ntmps110 R λw=>aU<|mA R<|aZ<|aT λq=>aR<|mM R<|sQ R (Dl R underlying9 iL)<|mM R<|sQ R (Dl R underlying9 iL)<|sQ R (BD R iL iL)<|mM R<|vM R<|vM R<|vQ R (Dl R underlying9<|iR R)<|AE h λA j u=>?_
 refine vQ R (Pe R underlying9 (iR R) (by exact R) (by exact⟨_,(iR R)⟩)<|AP j) ?_
 exact vM R<|vQ R (CA R (iR R)<|iR R)<|xN R<|mA R<|aZ<|q _<|Zk<|yB u R
theorem pv{n r}(h:O9 n=some r):AO prog 58 [rS n] (rB r):=by
 unfold O9 at h
 exact mF func58 ntmps58 R λw=>aU<|mA R<|aZ<|aU<|mM R<|sQ R (CA R iL iL)<|mM R<|vM R<|vQ R (CA R (iR R) iL)<|xO R<|mM R<|vM R<|AE h λA j q=>vL (λhg=>Yu<|AP j hg) R<|xO R<|mM R<|vM R<|AE q λB l u=>vL (λhg=>Yu<|AP l hg) R<|xO R<|mA R<|aZ<|Zk<|yB u R
theorem mY{v1 b r}(h:KL v1 b=some r):AO prog 18 [qb v1,rI b] (qa r):=by
 unfold KL at h
 refine mF func18 ntmps18 R λu=>aU<|mA R<|aZ<|aT λc2=>aR ?_
 refine sQ R (BM R JJ (q:=[(0,_)]) (by exact⟨R,R,R,iL,Za⟩) (cs:=GC)<|by rfl) ?_
 refine sQ R (BM R JJ (q:=[(0,_)]) (by exact⟨R,R,R,iL,Za⟩) (cs:=GC)<|by rfl) ?_
 refine sS R (BB (cs:=Ec) 5 R EV R R)<|sS R (BB (cs:=Ec) 6 R EV R R)<|Zj R R (Ac (ds:=GC) R DK iL R iL R R R R)<|Zj R R (Ac (ds:=GC) R DK iL R iL R R R R)<|aZ<|c2 _<|aS λK3 c3 ak=>aU<|mM R<|sQ R (BD R iL iL)<|aZ<|BA h λp1 al b6=>?_
 have J1:∀(l:AG) (i1:NN),p1=l→K3 ⟨[(0,qb v1),(1,rI b),(5,.ptr 5 u 0 0),(6,.ptr 6 (u+1) 0 0)],[(5,some<|.box u 51<|Ag l),(6,some<|.box (u+1) 51 GC)],(i1 0),89⟩:=by
  intro l i1 e
  have h1:=b6 _ e
  refine c3 _<|aS λK5 c5 an=>aU<|mM R<|mM R<|xL Ar R<|xS R<|aZ<|BA h1 λp2 ao b7=>?_
  have J2:∀(j:AG) (J:NN),p2=j→K5 ⟨[(1,rI b),(5,.ptr 5 u 0 0),(6,.ptr 6 (u+1) 0 0)],[(5,some<|.box u 51<|Ag l),(6,some<|.box (u+1) 51<|Ag j)],(J 0),89⟩:=by
   intro j J e
   have h2:=b7 _ e
   refine c5 _<|aU<|xC Cf R<|sS R (BB (cs:=Ec) 7 R EV R R)<|Zj R R (Ac (ds:=(Ag l)) R DK iL R iL R R R R)<|aZ<|aS λK8 c8 aq=>aU<|lF Eb AJ R R<|xQ R<|aZ<|BA h2 λp3 ar b8=>?_
   have J3:∀(q:AG) (i3:NN),p3=q→K8 ⟨[(1,rI b),(5,.ptr 5 u 0 0),(6,.ptr 6 (u+1) 0 0),(7,.ptr 7 (J 0) 0 0)],[(5,some<|.box u 51<|Ag l),(6,some<|.box (u+1) 51<|Ag j),(7,some<|.box (J 0) 51<|Ag q)],(i3 0),89⟩:=by
    intro q i3 e
    have h3:=b8 _ e
    refine c8 _<|aU<|mA R<|aZ<|aS λb9 ba O=>aU<|lF Eb AJ R R<|xU R<|aZ<|BA h3 λp4 av bb=>?_
    have J4:∀(C:List AC) (i4:NN),p4=C→b9 ⟨[(1,rI b),(5,.ptr 5 u 0 0),(6,.ptr 6 (u+1) 0 0),(8,qa C)],[(5,some<|.box u 51<|Ag l),(6,some<|.box (u+1) 51<|Ag j)],(i4 0),89⟩:=by
     intro C i4 e
     have h4:=bb _ e
     refine ba _<|aS λbc bd T=>aU<|mM R<|sQ R (BD R iL iL)<|aZ<|BA h4 λp5 aw be=>?_
     have J5:∀(E:List AC) (i5:NN),p5=E→bc ⟨[(8,qa E)],[],(i5 0),89⟩:=by
      intro E i5 e
      have h5:=be _ e
      exact bd _<|aU<|mM R<|mA R<|aZ<|Zk<|DE (P:=prog) (λ(r:(List AC))=>qa r) h5 iL<|.t<|.d R
     refine aC R (λZ=>?_) λZ=>?_
     ·have h6:=Bk Z aw
      refine aU<|lF Cr BE R R<|xL Af R<|mM R<|aZ<|Zf<|BJ h6 λo1 ax cm bf=>DH (λ(A:List AC) (x2:Int) i8=>⟨[(5,.ptr 5 u 0 0),(6,.ptr 6 (u+1) 0 0),(8,qa A),(62,rL l.Attrs),(63,rI x2)],[(5,some<|.box u 51<|Ag l),(6,some<|.box (u+1) 51<|Ag j)],(i8 0),89⟩) (AH [(i4 0)]) ax wk ?_
      intro A x2 i8 v2 bg bh
      have h7:Ku l j A x2=some v2:=bg;unfold Ku at h7
      refine aU<|xS R<|aZ<|aT λbi=>cI R h7 (λh8=>?_) λh8=>?_
      ·refine Zd<|bi _<|aS λbj bk U=>Zf<|BA h8 λp6 bl bm=>?_
       have J7:∀(F:List AC) (a0:NN),p6=F→bj ⟨[(5,.ptr 5 u 0 0),(6,.ptr 6 (u+1) 0 0),(8,qa F),(62,rL l.Attrs),(63,rI x2)],[(5,some<|.box u 51<|Ag l),(6,some<|.box (u+1) 51<|Ag j)],(a0 0),89⟩:=by
        intro F a0 e
        have h9:=bm _ e
        exact bk _<|aR<|AE h9 λx4 bn bo=>xA R bn<|mM R<|Zi<|ZL bo (AH [(a0 0)]) wk
       refine aU<|mM R<|mA R<|aZ<|aU<|lF Cr BE R R<|mM R<|AE bl λV bp bq=>xI Af R bp<|xB ((BL V)) CO R<|sS R (BB (cs:=[.r<|.str [],.r<|.str []]) 11 R P4 R R)<|Zj R R (Ac (ds:=(BL V)) R Nw iL R iL R R R R)<|aZ<|aT λbr=>?_
       refine ZB BF (by kernel_rfl) ?_
       refine qP R (fB R Cb iL fR R)<|qP R (AU (a:=rS V.Name) R BG iL R R)<|AE bq λr1 bs bt=>FZ R R R (r:=rB r1) (caps:=[]) (bs:=[rS V.Name]) R iL R ⟨⟨_,iL,.d R⟩,Za⟩ (λ_=>pv<|bs) R<|qP R (AK R iL)<|qO R (fB R Cr iL fR R)<|qO R (AU (a:=qa j.Attrs) R BE (iR R) R R)<|qO R (fB R Cb iL fR R)<|qO R (AU (a:=rS V.Name) R BG (iR R) R R)<|AE bt λr2 bu bv=>He (.one R R R) R R (r:=rS r2) (caps:=[]) (bs:=[qa j.Attrs,rS V.Name]) R iL R ⟨⟨_,(iR R),.d R⟩,⟨_,(iR R),.d R⟩,Za⟩ (λhg=>Uj<|AP bu hg) R<|qO R (fB R IP iL fR R)<|qO R (AU (a:=rS V.Value) R BG (iR R) R R)<|qO R (CA R (iR R)<|iR R)<|qP R (BQ R iL<|iR R)<|AQ.nil<|br _<|cI R bv (λa1=>?_) λa1=>?_
       ·refine aG [5,6,8,11,62,63] [5,6,11] ?_
        exact aR<|mM R<|xC CO R<|AE a1 λay a2 bw=>sS R (B4 (r:=qa ay) (caps:=[]) (bs:=[qa A,.agg<|BL V]) R iL R ⟨.inl ⟨iL,R⟩,.inl ⟨iL,R⟩,Za⟩ λ_=>Sd<|a2)<|mA R<|Zi<|U _ _ wk<|J7 _ (AH [((i8 0)+1)]) (Zb bw).symm
       exact Zd<|U _ _ wk<|J7 _ (AH [((i8 0)+1)]) (Zb a1).symm
      exact Zn<|T _ _ wk<|J5 _ (AH [(i8 0)]) (Zb<|bf _<|xH bh h8).symm
     ·have h6:=Bn Z aw
      exact Zd<|T _ _ wk<|J5 _ (AH [(i4 0)]) (Zb h6).symm
    refine aC R (λa6=>?_) λa6=>?_
    ·have a7:=Bk a6 av
     refine aU<|lF Cr BE R R<|xL Af R<|mM R<|aZ<|Zf<|BJ a7 λo2 az cn bx=>?_
     refine DH (λ(B:List AC) (x7:Int) I=>⟨[(1,rI b),(5,.ptr 5 u 0 0),(6,.ptr 6 (u+1) 0 0),(7,.ptr 7 (J 0) 0 0),(8,qa B),(39,rL q.Attrs),(40,rI x7)],[(5,some<|.box u 51<|Ag l),(6,some<|.box (u+1) 51<|Ag j),(7,some<|.box (J 0) 51<|Ag q)],(I 0),89⟩) (AH [(i3 0)]) az ((by exact ZD ⟨jL,jL,jL,jL,.inl<|.inr<|.inr ⟨R,R⟩,jL,jL,Za⟩ ⟨.inl R,.inl R,.inl R,Za⟩ nL)) ?_
     intro B x7 I v3 bz c0
     have b0:KZ q B x7=some v3:=bz;unfold KZ at b0
     refine aU<|xS R<|aZ<|aT λc1=>cI R b0 (λa8=>?_) λa8=>?_
     ·refine Zd<|c1 _<|aS λc4 c6 X=>Zf<|BA a8 λp7 c7 c9=>?_
      have J9:∀(w:List AC) (aa:NN),p7=w→c4 ⟨[(1,rI b),(5,.ptr 5 u 0 0),(6,.ptr 6 (u+1) 0 0),(7,.ptr 7 (J 0) 0 0),(8,qa w),(39,rL q.Attrs),(40,rI x7)],[(5,some<|.box u 51<|Ag l),(6,some<|.box (u+1) 51<|Ag j),(7,some<|.box (J 0) 51<|Ag q)],(aa 0),89⟩:=by
       intro w aa e
       have ca:=c9 _ e
       exact c6 _<|aR<|AE ca λx9 cb cc=>xA R cb<|mM R<|Zi<|ZL cc (AH [(aa 0)]) wk
      refine aU<|mM R<|mA R<|aZ<|aU<|lF Cr BE R R<|mM R<|AE c7 λab Y cd=>xI Af R Y<|sQ R (A6 R Cb iL)<|xV (.str ab.Name) BG R<|AE cd λr3 cf cg=>cL (sO<|cf) R<|aZ<|cI R cg (λac=>?_) λac=>?_
      ·refine aG [1,5,6,7,8,9,39,40] [5,6,7] ?_
       exact aR<|mM R<|lF Cr BE R R<|mM R<|xI Af R Y<|xB ((BL ab)) CO R<|AE ac λad M ch=>sS R (B4 (r:=qa ad) (caps:=[]) (bs:=[qa B,.agg<|BL ab]) R iL R ⟨.inl ⟨iL,R⟩,.inl ⟨iL,R⟩,Za⟩ λ_=>Sd<|M)<|mA R<|Zi<|X _ _ wk<|J9 _ (AH [(I 0)]) (Zb ch).symm
      exact Zd<|X _ _ wk<|J9 _ (AH [(I 0)]) (Zb ac).symm
     exact Zn<|O _ _ wk<|J4 _ (AH [(I 0)]) (Zb<|bx _<|xH c0 a8).symm
    ·have a7:=Bn a6 av
     refine Zd ?_
     exact O _ _ ((by exact ZD ⟨jL,jL,jL,.inl<|.inr<|.inr ⟨R,R⟩,Za⟩ ⟨.inl R,.inl R,Za⟩ nL))<|J4 _ (AH [(i3 0)]) (Zb a7).symm
   refine aC R (λae=>?_) λae=>?_
   ·have af:=Bk ae ar
    exact aR<|xC Cf R<|Zj R R (Ac (ds:=(Ag j)) R DK iL R iL R R R R)<|Zi<|aq _ _ wk<|J3 _ (AH [((J 0)+1)]) (Zb af).symm
   ·have af:=Bn ae ar
    exact Zd<|aq _ _ wk<|J3 _ (AH [((J 0)+1)]) (Zb af).symm
  refine aC R (λag=>?_) λag=>?_
  ·have ah:=Bk ag ao
   exact aR<|mM R<|mM R<|AE ah λb1 b2 cj=>xI Ar R b2<|xB ((Ag b1)) Cf R<|Zj R R (Ac (ds:=(Ag b1)) R DK iL R iL R R R R)<|Zi<|an _ _ wk<|J2 _ (AH [(i1 0)]) (Zb cj).symm
  ·have ah:=Bn ag ao
   refine Zd ?_
   exact an _ _ ((by exact ZD ⟨jL,jL,jL,Za⟩ ⟨.inl R,.inr<|.inr ⟨_,_,_,_,R,R,⟨.inl R,.inl R,.inr<|.inr ⟨R,R⟩,Za⟩⟩,Za⟩ nL))<|J2 _ (AH [(i1 0)]) (Zb ah).symm
 refine aC R (λai=>?_) λai=>?_
 ·have aj:=Bk ai al
  exact aR<|mM R<|mM R<|AE aj λcp b3 ck=>sQ R (B5 R iL iL λ_=>b3)<|AE ck λb4 b5 cl=>xI Ar R b5<|xB ((Ag b4)) Cf R<|Zj R R (Ac (ds:=(Ag b4)) R DK iL R iL R R R R)<|Zi<|ak _ _ wk<|J1 _ (AH [(u+2)]) (Zb cl).symm
 ·have aj:=Bn ai al
  refine Zd ?_
  exact ak _ _ ((by exact ZD ⟨jL,jL,jL,jL,Za⟩ ⟨.inr<|.inr ⟨_,_,_,_,R,R,⟨.inl R,.inl R,.inr<|.inr ⟨R,R⟩,Za⟩⟩,.inl R,Za⟩ nL))<|J1 _ (AH [(u+2)]) (Zb aj).symm
theorem NJ{j u r}(h:GI j u=some r):AO prog 78 [qa j,qa u] (rB r):=by
 unfold GI at h
 refine mF func78 ntmps78 R λn0=>aU<|mA R<|aZ<|aT λc2=>aU<|mM R<|xL Af R<|mM R<|xL Af R<|xU R<|aZ<|cI R h (λA=>?_) λA=>?_
 ·exact zB A R id
 refine Zd<|c2 _<|aS λK5 c5 B=>aU<|mM R<|xL Af R<|mM R<|aZ<|Zf<|BJ A λo1 l C E=>?_
 have J1:∀(Y:Unit) (Z:NN),o1=.nrm Y→K5 ⟨[],[],(Z 0),26⟩:=by
  intro Y Z e
  have h2:=C _ e
  exact c5 _<|zB h2 R id
 refine ZC (λ(F:Int) w=>⟨[(0,qa j),(1,qa u),(12,rL j),(13,rI F)],[],(w 0),26⟩) (AH [n0]) l wk ?_
 intro F w v1 I q
 have h3:O8 j u F=some v1:=I;unfold O8 at h3
 refine aU<|xS R<|aZ<|aT λc9=>cI R h3 (λJ=>?_) λJ=>?_
 ·refine Zd<|c9 _<|aT λM=>Zf<|aU<|mM R<|mA R<|aZ<|aT λO=>?_
  refine ZB BF (by kernel_rfl) ?_
  refine qP R (AK R iL)<|qP R (AK R iL)<|AE J λx4 T h5=>qP R (At R Af.slice iL iL (λ_=>R) λ_=>T)<|qP R (CV (cs:=(BL x4)) R CO iL R R)<|qP R (AK R iL)<|qP R (AK R iL)<|AE h5 λx5 U h6=>qP R (At R Af.slice iL iL (λ_=>R) λ_=>U)<|qP R (CV (cs:=(BL x5)) R CO iL R R)<|qP R (KN R ek iL iL R)<|AQ.nil<|O _<|cI R h6 (λV=>?_) λV=>?_
  ·exact zB (E _<|xH q V) R id
  refine Zd<|M _<|aF [0,1,12,13] ?_
  exact aR<|AE V λx6 X h8=>xA R X<|mM R<|Zi<|Zx h8 (AH [(w 0)]) wk
 exact Zn<|B _ _ wk<|J1 _ (AH [(w 0)])<|xH q J
theorem jg{j l r}(h:Ot j l=some r):AO prog 114 [.agg<|Ag j,.agg<|Ag l] (rB r):=by
 unfold Ot at h
 exact mF func114 ntmps114 R λw=>aU<|sS R (Az (cs:=(Ag j)) 2 R iL R R)<|sS R (Az (cs:=(Ag l)) 3 R iL R R)<|mA R<|aZ<|aU<|lF Eb AJ R R<|lF Eb AJ R R<|xQ R<|mM R<|vF Ek AJ R R<|vF Ek AJ R R<|vQ R (Aw R (iR R)<|iR R)<|xN R<|mM R<|vF Cr BE R R<|vF Cr BE R R<|AE h λA q u=>vL (λhg=>NJ<|AP q hg) R<|xN R<|mA R<|aZ<|Zk<|yB u R
theorem WY{j A r}(h:LS j A=some r):AO prog 62 [qb j,qb A] (rB r):=by
 unfold LS at h
 refine mF func62 ntmps62 R λn0=>aU<|mA R<|aZ<|aT λc2=>aU<|mM R<|xL Ar R<|mM R<|xL Ar R<|xU R<|aZ<|cI R h (λC=>?_) λC=>?_
 ·exact zB C R id
 refine Zd<|c2 _<|aS λK5 c5 E=>aU<|mM R<|xL Ar R<|mM R<|aZ<|Zf<|BJ C λo1 l F I=>?_
 have J1:∀(u2:Unit) (i5:NN),o1=.nrm u2→K5 ⟨[],[],(i5 0),27⟩:=by
  intro u2 i5 e
  have h2:=F _ e
  exact c5 _<|zB h2 R id
 refine ZC (λ(J:Int) B=>⟨[(0,qb j),(1,qb A),(12,rL j),(13,rI J)],[],(B 0),27⟩) (AH [n0]) l wk ?_
 intro J B v1 M q
 have h3:OP j A J=some v1:=M;unfold OP at h3
 refine aU<|xS R<|aZ<|aT λc9=>cI R h3 (λO=>?_) λO=>?_
 ·refine Zd<|c9 _<|aT λT=>Zf<|aU<|mM R<|mA R<|aZ<|aT λU=>?_
  refine ZB BF (by kernel_rfl) ?_
  refine qP R (AK R iL)<|qP R (AK R iL)<|AE O λu V h5=>qP R (At R Ar.slice iL iL (λ_=>R) λ_=>V)<|qP R (CV (cs:=(Ag u)) R Cf iL R R)<|qP R (AK R iL)<|qP R (AK R iL)<|AE h5 λw X h6=>qP R (At R Ar.slice iL iL (λ_=>R) λ_=>X)<|qP R (CV (cs:=(Ag w)) R Cf iL R R)<|AE h6 λr1 Y h7=>FZ R R R (r:=rB r1) (caps:=[]) (bs:=[.agg<|Ag u,.agg<|Ag w]) R iL R ⟨⟨_,iL,.g (cs:=[.int .i64 u.Char,.int .i64 u.Ref,.sl<|u.Attrs.map AC.row]) R R⟩,⟨_,iL,.g (cs:=[.int .i64 w.Char,.int .i64 w.Ref,.sl<|w.Attrs.map AC.row]) R R⟩,Za⟩ (λ_=>jg<|Y) R<|qP R (A3 R iL)<|AQ.nil<|U _<|cI R h7 (λZ=>?_) λZ=>?_
  ·exact zB (I _<|xH q Z) R id
  refine Zd<|T _<|aF [0,1,12,13] ?_
  exact aR<|AE Z λx6 a0 h9=>xA R a0<|mM R<|Zi<|Zx h9 (AH [(B 0)]) wk
 exact Zn<|E _ _ wk<|J1 _ (AH [(B 0)])<|xH q O
theorem lv{j l r}(h:QI j l=some r):AO prog 176 [.agg<|B6 j,.agg<|B6 l] (rB r):=by
 unfold QI at h
 exact mF func176 ntmps176 R λA=>aU<|sS R (Az (cs:=(B6 j)) 2 R iL R R)<|sS R (Az (cs:=(B6 l)) 3 R iL R R)<|mA R<|aZ<|aT λu=>aR<|lF GO AJ R R<|lF GO AJ R R<|xQ R<|mM R<|vF HE AJ R R<|vF HE AJ R R<|vQ R (Aw R (iR R)<|iR R)<|xN R<|mM R<|vF Hp BG R R<|vF Hp BG R R<|vQ R (CA R (iR R)<|iR R)<|xN R<|mM R<|vF Fg AJ R R<|vF Fg AJ R R<|vQ R (Aw R (iR R)<|iR R)<|xN R<|mM R<|vF Ht BE R R<|vF Ht BE R R<|AE h λB q w=>vL (λhg=>NJ<|AP q hg) R<|xN R<|mA R<|aZ<|u _<|Zk<|yB w R
theorem Zl{q A r}(h:M8 q A=some r):AO prog 133 [qe q,qe A] (rB r):=by
 unfold M8 at h
 refine mF func133 ntmps133 R λn0=>aU<|mA R<|aZ<|aT λc2=>aU<|mM R<|xL Cq R<|mM R<|xL Cq R<|xU R<|aZ<|cI R h (λC=>?_) λC=>?_
 ·exact zB C R id
 refine Zd<|c2 _<|aS λK5 c5 E=>aU<|mM R<|xL Cq R<|mM R<|aZ<|Zf<|BJ C λo1 u F I=>?_
 have J1:∀(u2:Unit) (i5:NN),o1=.nrm u2→K5 ⟨[],[],(i5 0),27⟩:=by
  intro u2 i5 e
  have h2:=F _ e
  exact c5 _<|zB h2 R id
 refine ZC (λ(J:Int) B=>⟨[(0,qe q),(1,qe A),(12,rL q),(13,rI J)],[],(B 0),27⟩) (AH [n0]) u wk ?_
 intro J B v1 M w
 have h3:P2 q A J=some v1:=M;unfold P2 at h3
 refine aU<|xS R<|aZ<|aT λc9=>cI R h3 (λO=>?_) λO=>?_
 ·refine Zd<|c9 _<|aT λT=>Zf<|aU<|mM R<|mA R<|aZ<|aT λU=>?_
  refine ZB BF (by kernel_rfl) ?_
  refine qP R (AK R iL)<|qP R (AK R iL)<|AE O λj V h5=>qP R (At R Cq.slice iL iL (λ_=>R) λ_=>V)<|qP R (CV (cs:=(B6 j)) R Fv iL R R)<|qP R (AK R iL)<|qP R (AK R iL)<|AE h5 λl X h6=>qP R (At R Cq.slice iL iL (λ_=>R) λ_=>X)<|qP R (CV (cs:=(B6 l)) R Fv iL R R)<|AE h6 λr1 Y h7=>FZ R R R (r:=rB r1) (caps:=[]) (bs:=[.agg<|B6 j,.agg<|B6 l]) R iL R ⟨⟨_,iL,.g (cs:=[.int .i64 j.Row,.int .i64 j.Col,.str j.Text,.int .i64 j.Ref,.sl<|j.Attrs.map AC.row]) R R⟩,⟨_,iL,.g (cs:=[.int .i64 l.Row,.int .i64 l.Col,.str l.Text,.int .i64 l.Ref,.sl<|l.Attrs.map AC.row]) R R⟩,Za⟩ (λ_=>lv<|Y) R<|qP R (A3 R iL)<|AQ.nil<|U _<|cI R h7 (λZ=>?_) λZ=>?_
  ·exact zB (I _<|xH w Z) R id
  refine Zd<|T _<|aF [0,1,12,13] ?_
  exact aR<|AE Z λx6 a0 h9=>xA R a0<|mM R<|Zi<|Zx h9 (AH [(B 0)]) wk
 exact Zn<|E _ _ wk<|J1 _ (AH [(B 0)])<|xH w O
theorem Xx{j u r}(h:LK j u=some r):AO prog 134 [qc j,qc u] (rB r):=by
 unfold LK at h
 refine mF func134 ntmps134 R λn0=>aU<|mA R<|aZ<|aT λc2=>aU<|mM R<|xL Cs R<|mM R<|xL Cs R<|xU R<|aZ<|cI R h (λA=>?_) λA=>?_
 ·exact zB A R id
 refine Zd<|c2 _<|aS λK5 c5 B=>aU<|mM R<|xL Cs R<|mM R<|aZ<|Zf<|BJ A λo1 l C E=>?_
 have J1:∀(Y:Unit) (Z:NN),o1=.nrm Y→K5 ⟨[],[],(Z 0),26⟩:=by
  intro Y Z e
  have h2:=C _ e
  exact c5 _<|zB h2 R id
 refine ZC (λ(F:Int) w=>⟨[(0,qc j),(1,qc u),(12,rL j),(13,rI F)],[],(w 0),26⟩) (AH [n0]) l wk ?_
 intro F w v1 I q
 have h3:Oa j u F=some v1:=I;unfold Oa at h3
 refine aU<|xS R<|aZ<|aT λc9=>cI R h3 (λJ=>?_) λJ=>?_
 ·refine Zd<|c9 _<|aT λM=>Zf<|aU<|mM R<|mA R<|aZ<|aT λO=>?_
  refine ZB BF (by kernel_rfl) ?_
  refine qP R (AK R iL)<|qP R (AK R iL)<|AE J λx4 T h5=>qP R (At R Cs.slice iL iL (λ_=>R) λ_=>T)<|qP R (CV (cs:=(BW x4)) R FB iL R R)<|qP R (AK R iL)<|qP R (AK R iL)<|AE h5 λx5 U h6=>qP R (At R Cs.slice iL iL (λ_=>R) λ_=>U)<|qP R (CV (cs:=(BW x5)) R FB iL R R)<|qP R (KN R iI iL iL R)<|AQ.nil<|O _<|cI R h6 (λV=>?_) λV=>?_
  ·exact zB (E _<|xH q V) R id
  refine Zd<|M _<|aF [0,1,12,13] ?_
  exact aR<|AE V λx6 X h8=>xA R X<|mM R<|Zi<|Zx h8 (AH [(w 0)]) wk
 exact Zn<|B _ _ wk<|J1 _ (AH [(w 0)])<|xH q J
theorem tJ{j l r}(h:QZ j l=some r):AO prog 131 [.agg<|Dh j,.agg<|Dh l] (rB r):=by
 unfold QZ at h
 exact mF func131 ntmps131 R λB=>aU<|sS R (Az (cs:=(Dh j)) 2 R iL R R)<|sS R (Az (cs:=(Dh l)) 3 R iL R R)<|mA R<|aZ<|aU<|lF Gg AJ R R<|lF Gg AJ R R<|xQ R<|mM R<|vF Gh AJ R R<|vF Gh AJ R R<|vQ R (Aw R (iR R)<|iR R)<|xN R<|mM R<|vF GK E0 R R<|vF GK E0 R R<|AE h λC q w=>vL (λhg=>Zl<|AP q hg) R<|xN R<|mM R<|vF Fs DQ R R<|vF Fs DQ R R<|AE w λE u A=>vL (λhg=>Xx<|AP u hg) R<|xN R<|mA R<|aZ<|Zk<|yB A R
theorem ZG{j u r}(h:Jy j u=some r):AO prog 89 [qf j,qf u] (rB r):=by
 unfold Jy at h
 refine mF func89 ntmps89 R λn0=>aU<|mA R<|aZ<|aT λc2=>aU<|mM R<|xL FW R<|mM R<|xL FW R<|xU R<|aZ<|cI R h (λA=>?_) λA=>?_
 ·exact zB A R id
 refine Zd<|c2 _<|aS λK5 c5 B=>aU<|mM R<|xL FW R<|mM R<|aZ<|Zf<|BJ A λo1 l C E=>?_
 have J1:∀(Y:Unit) (Z:NN),o1=.nrm Y→K5 ⟨[],[],(Z 0),26⟩:=by
  intro Y Z e
  have h2:=C _ e
  exact c5 _<|zB h2 R id
 refine ZC (λ(F:Int) w=>⟨[(0,qf j),(1,qf u),(12,rL j),(13,rI F)],[],(w 0),26⟩) (AH [n0]) l wk ?_
 intro F w v1 I q
 have h3:NS j u F=some v1:=I;unfold NS at h3
 refine aU<|xS R<|aZ<|aT λc9=>cI R h3 (λJ=>?_) λJ=>?_
 ·refine Zd<|c9 _<|aT λM=>Zf<|aU<|mM R<|mA R<|aZ<|aT λO=>?_
  refine ZB BF (by kernel_rfl) ?_
  refine qP R (AK R iL)<|qP R (AK R iL)<|AE J λx4 T h5=>qP R (At R FW.slice iL iL (λ_=>R) λ_=>T)<|qP R (CV (cs:=(Cm x4)) R Ic iL R R)<|qP R (AK R iL)<|qP R (AK R iL)<|AE h5 λx5 U h6=>qP R (At R FW.slice iL iL (λ_=>R) λ_=>U)<|qP R (CV (cs:=(Cm x5)) R Ic iL R R)<|qP R (KN R ts iL iL R)<|AQ.nil<|O _<|cI R h6 (λV=>?_) λV=>?_
  ·exact zB (E _<|xH q V) R id
  refine Zd<|M _<|aF [0,1,12,13] ?_
  exact aR<|AE V λx6 X h8=>xA R X<|mM R<|Zi<|Zx h8 (AH [(w 0)]) wk
 exact Zn<|B _ _ wk<|J1 _ (AH [(w 0)])<|xH q J
theorem gI{j l r}(h:JL j l=some r):AO prog 86 [.agg<|BY j,.agg<|BY l] (rB r):=by
 unfold JL at h
 exact mF func86 ntmps86 R λJ=>aU<|sS R (Az (cs:=(BY j)) 2 R iL R R)<|sS R (Az (cs:=(BY l)) 3 R iL R R)<|mA R<|aZ<|aT λB=>aR<|lF EQ AJ R R<|lF EQ AJ R R<|xQ R<|mM R<|vF CR AJ R R<|vF CR AJ R R<|vQ R (Aw R (iR R)<|iR R)<|xN R<|mM R<|vF NX BE R R<|vF NX BE R R<|AE h λM q C=>vL (λhg=>NJ<|AP q hg) R<|xN R<|mM R<|vF Em B0 R R<|vF Em B0 R R<|AE C λO u E=>vL (λhg=>WY<|AP u hg) R<|xN R<|mM R<|vQ R (fB R GA iL fR R)<|vQ R (Fm (ds:=(Dh j.Grid)) R Nc (iR R) R R R)<|vQ R (fB R GA iL fR R)<|vQ R (Fm (ds:=(Dh l.Grid)) R Nc (iR R) R R R)<|AE E λT w F=>vL (λhg=>tJ<|AP w hg) R<|xN R<|mM R<|vF JW Gx R R<|vF JW Gx R R<|AE F λU A I=>vL (λhg=>ZG<|AP A hg) R<|xN R<|mA R<|aZ<|B _<|Zk<|yB I R
theorem tV{w C r}(h:NP w C=some r):AO prog 87 [qd w,qd C] (rB r):=by
 unfold NP at h
 refine mF func87 ntmps87 R λn0=>aU<|mA R<|aZ<|aT λc2=>aU<|mM R<|xL Bw R<|mM R<|xL Bw R<|xU R<|aZ<|cI R h (λF=>?_) λF=>?_
 ·exact zB F R id
 refine Zd<|c2 _<|aS λK5 c5 I=>aU<|mM R<|xL Bw R<|mM R<|aZ<|Zf<|BJ F λo1 A J M=>?_
 have J1:∀(u2:Unit) (i5:NN),o1=.nrm u2→K5 ⟨[],[],(i5 0),69⟩:=by
  intro u2 i5 e
  have h2:=J _ e
  exact c5 _<|zB h2 R id
 refine ZC (λ(O:Int) E=>⟨[(0,qd w),(1,qd C),(12,rL w),(13,rI O)],[],(E 0),69⟩) (AH [n0]) A wk ?_
 intro O E v1 T B
 have h3:PQ w C O=some v1:=T;unfold PQ at h3
 refine aU<|xS R<|aZ<|aT λc9=>cI R h3 (λU=>?_) λU=>?_
 ·refine Zd<|c9 _<|aT λV=>Zf<|aU<|mM R<|mA R<|aZ<|aT λX=>?_
  refine ZB BF (by kernel_rfl) ?_
  refine qP R (AK R iL)<|qP R (AK R iL)<|AE U λq j h5=>qP R (At R Bw.slice iL iL (λ_=>R) λ_=>j)<|qP R (A6 R B9 iL)<|qP R (BV (d:=.int .i64 q.Kind) R AJ iL R)<|qP R (AK R iL)<|qP R (AK R iL)<|AE h5 λu l h6=>qP R (At R Bw.slice iL iL (λ_=>R) λ_=>l)<|qP R (A6 R B9 iL)<|qP R (BV (d:=.int .i64 u.Kind) R AJ iL R)<|qP R (Cc R iL iL)<|qP R (AK R iL)<|qO R (AK R iL)<|qO R (AK R iL)<|qO R (At R Bw.slice (iR R) (iR R) (λ_=>R) λ_=>j)<|qO R (A6 R EJ<|iR R)<|qO R (BV (d:=.int .i64 q.N) R AJ (iR R) R)<|qO R (AK R iL)<|qO R (AK R iL)<|qO R (At R Bw.slice (iR R) (iR R) (λ_=>R) λ_=>l)<|qO R (A6 R EJ<|iR R)<|qO R (BV (d:=.int .i64 u.N) R AJ (iR R) R)<|qO R (Cc R (iR R)<|iR R)<|qP R (CB R iL<|iR R)<|qP R (AK R iL)<|qO R (AK R iL)<|qO R (AK R iL)<|qO R (At R Bw.slice (iR R) (iR R) (λ_=>R) λ_=>j)<|qO R (A6 R Dy<|iR R)<|qO R (BV (d:=.sl<|q.Attrs.map AC.row) R BE (iR R) R)<|qO R (AK R iL)<|qO R (AK R iL)<|qO R (At R Bw.slice (iR R) (iR R) (λ_=>R) λ_=>l)<|qO R (A6 R Dy<|iR R)<|qO R (BV (d:=.sl<|u.Attrs.map AC.row) R BE (iR R) R)<|AE h6 λr1 Y h7=>He (.one R R R) R R (r:=rB r1) (caps:=[]) (bs:=[qa q.Attrs,qa u.Attrs]) R iL R ⟨⟨_,(iR R),.d R⟩,⟨_,(iR R),.d R⟩,Za⟩ (λhg=>NJ<|AP Y hg) R<|qO R (A3 R<|iR R)<|qP R (CB R iL<|iR R)<|qP R (AK R iL) ?_
  refine qO R (AK R iL)<|qO R (AK R iL)<|qO R (At R Bw.slice (iR R) (iR R) (λ_=>R) λ_=>j)<|qO R (A6 R EO<|iR R)<|qO R (BV (d:=.sl<|q.Elems.map AG.row) R B0 (iR R) R)<|qO R (AK R iL)<|qO R (AK R iL)<|qO R (At R Bw.slice (iR R) (iR R) (λ_=>R) λ_=>l)<|qO R (A6 R EO<|iR R)<|qO R (BV (d:=.sl<|u.Elems.map AG.row) R B0 (iR R) R)<|AE h7 λr2 Z h8=>He (.one R R R) R R (r:=rB r2) (caps:=[]) (bs:=[qb q.Elems,qb u.Elems]) R iL R ⟨⟨_,(iR R),.d R⟩,⟨_,(iR R),.d R⟩,Za⟩ (λhg=>WY<|AP Z hg) R<|qO R (A3 R<|iR R)<|qP R (CB R iL<|iR R)<|AQ.nil<|X _<|cI R h8 (λh9=>?_) λh9=>?_
  ·exact zB (M _<|xH B h9) R id
  refine Zd<|V _<|aF [0,1,12,13] ?_
  exact aR<|AE h9 λx6 a0 a2=>xA R a0<|mM R<|Zi<|Zx a2 (AH [(E 0)]) wk
 exact Zn<|I _ _ wk<|J1 _ (AH [(E 0)])<|xH B U
theorem Z8{j u r}(h:ND j u=some r):AO prog 132 [qh j,qh u] (rB r):=by
 unfold ND at h
 refine mF func132 ntmps132 R λn0=>aU<|mA R<|aZ<|aT λc2=>aU<|mM R<|xL Ej R<|mM R<|xL Ej R<|xU R<|aZ<|cI R h (λA=>?_) λA=>?_
 ·exact zB A R id
 refine Zd<|c2 _<|aS λK5 c5 B=>aU<|mM R<|xL Ej R<|mM R<|aZ<|Zf<|BJ A λo1 l C E=>?_
 have J1:∀(Y:Unit) (Z:NN),o1=.nrm Y→K5 ⟨[],[],(Z 0),26⟩:=by
  intro Y Z e
  have h2:=C _ e
  exact c5 _<|zB h2 R id
 refine ZC (λ(F:Int) w=>⟨[(0,qh j),(1,qh u),(12,rL j),(13,rI F)],[],(w 0),26⟩) (AH [n0]) l wk ?_
 intro F w v1 I q
 have h3:QE j u F=some v1:=I;unfold QE at h3
 refine aU<|xS R<|aZ<|aT λc9=>cI R h3 (λJ=>?_) λJ=>?_
 ·refine Zd<|c9 _<|aT λM=>Zf<|aU<|mM R<|mA R<|aZ<|aT λO=>?_
  refine ZB BF (by kernel_rfl) ?_
  refine qP R (AK R iL)<|qP R (AK R iL)<|AE J λx4 T h5=>qP R (At R Ej.slice iL iL (λ_=>R) λ_=>T)<|qP R (CV (cs:=[rI x4.Kind,rI x4.N]) R dI iL R R)<|qP R (AK R iL)<|qP R (AK R iL)<|AE h5 λx5 U h6=>qP R (At R Ej.slice iL iL (λ_=>R) λ_=>U)<|qP R (CV (cs:=[rI x5.Kind,rI x5.N]) R dI iL R R)<|qP R (KN R ja iL iL R)<|AQ.nil<|O _<|cI R h6 (λV=>?_) λV=>?_
  ·exact zB (E _<|xH q V) R id
  refine Zd<|M _<|aF [0,1,12,13] ?_
  exact aR<|AE V λx6 X h8=>xA R X<|mM R<|Zi<|Zx h8 (AH [(w 0)]) wk
 exact Zn<|B _ _ wk<|J1 _ (AH [(w 0)])<|xH q J
theorem td{j l r}(h:Pt j l=some r):AO prog 88 [.agg<|Dk j,.agg<|Dk l] (rB r):=by
 unfold Pt at h
 exact mF func88 ntmps88 R λO=>aU<|sS R (Az (cs:=(Dk j)) 2 R iL R R)<|sS R (Az (cs:=(Dk l)) 3 R iL R R)<|mA R<|aZ<|aT λC=>aR<|lF UW Jt R R<|lF UW Jt R R<|AE h λT q E=>cL (Z8<|q) R<|mM R<|vF SC Jt R R<|vF SC Jt R R<|AE E λU u F=>vL (λhg=>Z8<|AP u hg) R<|xN R<|mM R<|vF Ty E0 R R<|vF Ty E0 R R<|AE F λV w I=>vL (λhg=>Zl<|AP w hg) R<|xN R<|mM R<|vF Rg DQ R R<|vF Rg DQ R R<|AE I λX A J=>vL (λhg=>Xx<|AP A hg) R<|xN R<|mM R<|vF LN DQ R R<|vF LN DQ R R<|AE J λY B M=>vL (λhg=>Xx<|AP B hg) R<|xN R<|mA R<|aZ<|C _<|Zk<|yB M R
theorem o7{j l r}(h:IY j l=some r):AO prog 37 [.agg<|D9 j,.agg<|D9 l] (rB r):=by
 unfold IY at h
 exact mF func37 ntmps37 R λO=>aU<|sS R (Az (cs:=(D9 j)) 2 R iL R R)<|sS R (Az (cs:=(D9 l)) 3 R iL R R)<|mA R<|aZ<|aT λC=>aR<|lF Ln AJ R R<|lF Ln AJ R R<|xQ R<|mM R<|vF Pq AJ R R<|vF Pq AJ R R<|vQ R (Aw R (iR R)<|iR R)<|xN R<|mM R<|vQ R (fB R T9 iL fR R)<|vQ R (Fm (ds:=(BY j.New)) R El (iR R) R R R)<|vQ R (fB R T9 iL fR R)<|vQ R (Fm (ds:=(BY l.New)) R El (iR R) R R R)<|AE h λT q E=>vL (λhg=>gI<|AP q hg) R<|xN R<|mM R<|vF Sc BE R R<|vF Sc BE R R<|AE E λU u F=>vL (λhg=>NJ<|AP u hg) R<|xN R<|mM R<|vF ML EF R R<|vF ML EF R R<|AE F λV w I=>vL (λhg=>tV<|AP w hg) R<|xN R<|mM R<|vQ R (fB R Sv iL fR R)<|vQ R (Fm (ds:=(Dk j.Grid)) R Sx (iR R) R R R)<|vQ R (fB R Sv iL fR R)<|vQ R (Fm (ds:=(Dk l.Grid)) R Sx (iR R) R R R)<|AE I λX A J=>vL (λhg=>td<|AP A hg) R<|xN R<|mM R<|vF Tx Gx R R<|vF Tx Gx R R<|AE J λY B M=>vL (λhg=>ZG<|AP B hg) R<|xN R<|mA R<|aZ<|C _<|Zk<|yB M R
theorem Xb{Z c r}(h:H4 Z c=some r):AO prog 64 [qa Z,qa c] (qa r):=by
 unfold H4 at h
 refine mF func64 ntmps64 R λn0=>aU<|mA R<|aZ<|aU<|mA R<|aZ<|aS λK3 c3 ah=>aU<|mM R<|xL Af R<|mM R<|aZ<|Zf<|BA h λo1 a0 ai=>?_
 have J1:∀(E:List AC) (i5:NN),o1=E→K3 ⟨[(1,qa c),(5,qa E)],[],(i5 0),54⟩:=by
  intro E i5 e
  have h1:=ai _ e
  refine c3 _<|aS λK5 c5 aj=>aU<|mM R<|xL Af R<|mM R<|aZ<|Zf<|BA h1 λo2 a1 ak=>?_
  have J2:∀(j:List AC) (C:NN),o2=j→K5 ⟨[(5,qa j)],[],(C 0),54⟩:=by
   intro j C e
   have h2:=ak _ e
   refine c5 _<|aU<|mA R<|aZ<|aS λK8 c8 al=>aU<|mM R<|xL Af R<|mM R<|aZ<|Zf<|BA h2 λo3 a2 an=>?_
   have J3:∀(q:List AC) (F:NN),o3=q→K8 ⟨[(8,.own 5008<|F 0)],[(5008,some<|.arr (F 0) 58 2<|q.map AC.row)],(F 1),54⟩:=by
    intro q F e
    have h3:=an _ e
    exact c8 _<|aU<|mM R<|mA R<|aZ<|Zk<|DE (P:=prog) (λ(r:(List AC))=>qa r) h3 iL<|.t<|.one<|.own R
   refine DH (λ(x8:Int) (u:List AC) l=>⟨[(5,qa j),(8,.own 5008<|l 0),(35,rL j),(36,rI x8)],[(5008,some<|.arr (l 0) 58 2<|u.map AC.row)],(l 1),54⟩) (AH [(C 0),((C 0)+1)]) a2 (Zm (Zm (G8 8 5008 58 2 (by decide) R)<|by exact ZD (e':=[(5,qa j),(8,.own 5008<|C 0),(34,qa j),(35,rL j),(36,rI 0)]) (h':=[(5008,some<|.arr (C 0) 58 2<|([]:List AC).map AC.row)]) ⟨jL,jL,jL,jL,jL,Za⟩ ⟨.inl R,Za⟩ nL) wk) ?_
   intro x8 u l v1 ao aq
   have h4:OL j x8 u=some v1:=ao;unfold OL at h4
   refine aU<|xS R<|aZ<|aT λar=>cI R h4 (λh5=>?_) λh5=>?_
   ·refine Zd<|ar _<|aS λav aw M=>Zf<|BA h5 λp1 ax ay=>?_
    have J4:∀(w:List AC) (i16:NN),p1=w→av ⟨[(5,qa j),(8,.own 5008<|i16 0),(35,rL j),(36,rI x8)],[(5008,some<|.arr (i16 0) 58 2<|w.map AC.row)],(i16 1),54⟩:=by
     intro w i16 e
     have h6:=ay _ e
     exact aw _<|aR<|AE h6 λbf a6 h7=>xA R a6<|mM R<|Zi<|ZL h7 (AH [(i16 0),(i16 1)]) wk
    refine aU<|mM R<|mA R<|aZ<|aU<|mM R<|mM R<|AE ax λT O h8=>xI Af R O<|sQ R (A6 R IP iL)<|xV (.str T.Value) BG R<|sQ R (D7 R iL iL)<|aZ<|cI R h8 (λh9=>?_) λh9=>?_
    ·exact aR<|mM R<|mM R<|mM R<|xI Af R O<|xB ((BL T)) CO R<|sS R (Bm 50 R Af (f:=AC.row) (l:=([T]:List AC)) ⟨R,⟨_,iL,R⟩,Za⟩ R (λ_=>R) R)<|AE h9 λaz I b0=>sS R (Ci R Af iL R (.inr<|.inl ⟨_,_,iL,R⟩) I)<|mA R<|Zi<|M _ _ wk<|J4 _ (AH [((l 1)+1),((l 1)+2)]) (Zb b0).symm
    exact Zd<|M _ _ wk<|J4 _ (AH [(l 0),(l 1)]) (Zb h9).symm
   exact Zn<|al _ _ wk<|J3 _ (AH [(l 0),(l 1)])<|xH aq h5
  refine DH (λ(A:List AC) (x5:Int) i8=>⟨[(1,qa c),(5,qa A),(23,rL c),(24,rI x5)],[],(i8 0),54⟩) (AH [(i5 0)]) a1 wk ?_
  intro A x5 i8 v2 b1 b2
  have a7:PA c A x5=some v2:=b1;unfold PA at a7
  refine aU<|xS R<|aZ<|aT λb3=>cI R a7 (λU=>?_) λU=>?_
  ·refine Zd<|b3 _<|aT λb4=>Zf<|aU<|mM R<|mA R<|aZ<|aR<|mM R<|mM R<|mM R<|AE U λa8 aa b5=>xI Af R aa<|xB ((BL a8)) CO R<|AE b5 λab V b6=>sS R (B4 (r:=qa ab) (caps:=[]) (bs:=[qa A,.agg<|BL a8]) R iL R ⟨.inl ⟨iL,R⟩,.inl ⟨iL,R⟩,Za⟩ λ_=>Sd<|V)<|mA R<|aZ<|b4 _<|aF [1,5,23,24] ?_
   exact aR<|AE b6 λbg ac b7=>xA R ac<|mM R<|Zi<|ZL b7 (AH [(i8 0)]) wk
  exact Zn<|aj _ _ wk<|J2 _ (AH [(i8 0)])<|xH b2 U
 refine DH (λ(B:List AC) (x2:Int) i3=>⟨[(0,qa Z),(1,qa c),(5,qa B),(11,rL Z),(12,rI x2)],[],(i3 0),54⟩) (AH [n0]) a0 ((by exact ZD ⟨jL,jL,.inl<|.inr<|.inr ⟨R,R⟩,jL,jL,Za⟩ Za nL)) ?_
 intro B x2 i3 v3 b8 b9
 have ad:Qc Z B x2=some v3:=b8;unfold Qc at ad
 refine aU<|xS R<|aZ<|aT λba=>cI R ad (λX=>?_) λX=>?_
 ·refine Zd<|ba _<|aT λbb=>Zf<|aU<|mM R<|mA R<|aZ<|aR<|mM R<|mM R<|mM R<|AE X λae af bc=>xI Af R af<|xB ((BL ae)) CO R<|AE bc λY J bd=>sS R (B4 (r:=qa Y) (caps:=[]) (bs:=[qa B,.agg<|BL ae]) R iL R ⟨.inl ⟨iL,R⟩,.inl ⟨iL,R⟩,Za⟩ λ_=>Sd<|J)<|mA R<|aZ<|bb _<|aF [0,1,5,11,12] ?_
  exact aR<|AE bd λbh ag be=>xA R ag<|mM R<|Zi<|ZL be (AH [(i3 0)]) wk
 exact Zn<|ah _ _ wk<|J1 _ (AH [(i3 0)])<|xH b9 X
theorem sF{A a b c g r}(h:Kf A a b c g=some r):AO prog 21 [qb A,rI a,rI b,qb c,rS g] (qb r):=by
 unfold Kf at h
 refine mF func21 ntmps21 R λn0=>aU<|mA R<|aZ<|aU<|mM R<|AE h λj E h1=>sS R (B4 (r:=.r<|.sl<|j.map<|Ak .i64) (caps:=[]) (bs:=[qb A,rI 0]) R iL R ⟨.inl ⟨iL,R⟩,.inl ⟨iL,R⟩,Za⟩ λ_=>VP<|E)<|mA R<|aZ<|aU<|mA R<|aZ<|aS λK4 c4 aj=>aU<|mM R<|sQ R (BD R iL iL)<|aZ<|BA h1 λp1 ak b1=>?_
 have J1:∀(q:Int) (i1:NN),p1=q→K4 ⟨[(0,qb A),(1,rI a),(2,rI b),(3,qb c),(4,rS g),(11,.r<|.sl<|j.map<|Ak .i64),(12,rI q)],[],(i1 0),113⟩:=by
  intro q i1 e
  have h2:=b1 _ e
  refine c4 _<|aU<|mA R<|aZ<|aU<|mA R<|aZ<|aS λK8 c8 al=>aU<|mA R<|aZ<|Zf<|BA h2 λo1 an b2=>?_
  have J2:∀(F:List AG) (i9:NN),o1=F→K8 ⟨[(13,.own 5013<|i9 0)],[(5013,some<|.arr (i9 0) 51 3<|F.map AG.row)],(i9 1),113⟩:=by
   intro F i9 e
   have h3:=b2 _ e
   exact c8 _<|aU<|mM R<|mA R<|aZ<|Zk<|DE (P:=prog) (λ(r:(List AG))=>qb r) h3 iL<|.t<|.one<|.own R
  refine IU (λ(X:Int) (O:Int) (I:List AG) T=>⟨[(0,qb A),(1,rI a),(2,rI b),(3,qb c),(4,rS g),(11,.r<|.sl<|j.map<|Ak .i64),(12,rI q),(13,.own 5013<|T 0),(14,rI X),(15,rI O)],[(5013,some<|.arr (T 0) 51 3<|I.map AG.row)],(T 1),113⟩) (AH [(i1 0),((i1 0)+1)]) an (Zm (Zm (G8 13 5013 51 3 (by decide) R)<|by exact ZD (e':=[(0,qb A),(1,rI a),(2,rI b),(3,qb c),(4,rS g),(11,.r<|.sl<|j.map<|Ak .i64),(12,rI q),(13,.own 5013<|i1 0),(14,rI 0),(15,rI 0)]) (h':=[(5013,some<|.arr (i1 0) 51 3<|([]:List AG).map AG.row)]) ⟨jL,jL,jL,jL,jL,jL,jL,jL,jL,jL,Za⟩ ⟨.inl R,Za⟩ nL) wk) ?_
  intro X O I T v1 b3 ao
  have h4:Jp A a b c g j q X O I=some v1:=b3;unfold Jp at h4
  refine aT λb4=>aU<|mM R<|mM R<|xL Ar R<|sQ R (FJ R iL iL)<|aZ<|cI R h4 (λh5=>?_) λh5=>?_
  ·refine Zd<|b4 _<|aS λb5 b6 Y=>Zf<|JP h5 λp2 b7 b8 b9=>?_
   have J3:∀(k4:Int) (J:List AG) (C:NN),p2=.nrm (k4,J)→b5 ⟨[(0,qb A),(1,rI a),(2,rI b),(3,qb c),(4,rS g),(11,.r<|.sl<|j.map<|Ak .i64),(12,rI q),(13,.own 5013<|C 0),(14,rI k4),(15,rI O)],[(5013,some<|.arr (C 0) 51 3<|J.map AG.row)],(C 1),113⟩:=by
    intro k4 J C e
    have h6:=b8 _ _ e
    exact b6 _<|aR<|mM R<|AE h6 λcu aq h7=>xA R aq<|mA R<|Zi<|Dv.mk h7 (AH [(C 0),(C 1)]) wk
   refine aS λba bb Z=>aU<|mM R<|mM R<|xQ R<|aZ<|BA b7 λp3 ar bc=>?_
   have J4:∀(w:List AG) (l:NN),p3=w→ba ⟨[(0,qb A),(1,rI a),(2,rI b),(3,qb c),(4,rS g),(11,.r<|.sl<|j.map<|Ak .i64),(12,rI q),(13,.own 5013<|l 0),(14,rI X),(15,rI O)],[(5013,some<|.arr (l 0) 51 3<|w.map AG.row)],(l 1),113⟩:=by
    intro w l e
    have h8:=bc _ e
    refine bb _<|aT λbd=>aU<|mM R<|mM R<|xL Ar R<|xQ R<|aZ<|cI R h8 (λh9=>?_) λh9=>?_
    ·exact Zn<|al _ _ wk<|J2 _ (AH [(l 0),(l 1)])<|ao _ (Zb<|b9 _ (Zb h9).symm).symm
    refine Zd<|bd _<|aU<|mM R<|mM R<|AE h9 λx1 be bf=>xI Ar R be<|xB ((Ag x1)) Cf R<|sS R (BB (cs:=Ec) 18 R EV R R)<|Zj R R (Ac (ds:=(Ag x1)) R DK iL R iL R R R R)<|aZ<|aS λbg bh a0=>aU<|mM R<|mM R<|xL B8 R<|xS R<|mM R<|vM R<|vM R<|AE bf λx2 bi bj=>vQ R (At R B8.slice (iR R) (iR R) (λ_=>R)<|AP bi)<|vQ R (BV (d:=.int .i64 x2) R AJ (iR R) R)<|vM R<|vQ R (Aw R (iR R)<|iR R)<|xN R<|aZ<|JP bj λp4 av bk bl=>?_
    have J5:∀(k5:Int) (x3:AG) (U:NN),p4=.nrm (k5,x3)→bg ⟨[(0,qb A),(1,rI a),(2,rI b),(3,qb c),(4,rS g),(11,.r<|.sl<|j.map<|Ak .i64),(12,rI q),(13,.own 5013<|l 0),(14,rI k5),(15,rI O),(18,.ptr 18 (l 1) 0 0)],[(18,some<|.box (l 1) 51<|Ag x3),(5013,some<|.arr (l 0) 51 3<|w.map AG.row)],(U 0),113⟩:=by
     intro k5 x3 U e
     have bm:=bk _ _ e
     exact bh _<|aR<|mM R<|xC Cf R<|sS R (Bm 110 R Ar (f:=AG.row) (l:=([x3]:List AG)) ⟨R,⟨_,iL,R⟩,Za⟩ R (λ_=>R) R)<|AE bm λcs a2 bn=>sS R (Ci R Ar iL R (.inr<|.inl ⟨_,_,iL,R⟩) a2)<|mA R<|Zi<|Y _ _ wk<|J3 _ _ (AH [((U 0)+1),((U 0)+2)]) (Zb bn).symm
    refine aC R (λa6=>?_) λa6=>?_
    ·have a7:=Bk a6 av
     refine aS λbo bp a1=>aT λbq=>aG [0,1,2,3,4,11,12,13,14,15,18] [18,5013] ?_
     refine aR<|mM R<|mM R<|sQ R (Cv R iL iL)<|mM R<|vM R<|vM R<|vQ R (B7 R (iR R)<|iR R)<|xN R<|aZ<|bq _<|BJ a7 λp5 aw br bs=>?_
     have J6:∀(x4:AG) (a8:NN),p5=.nrm x4→bo ⟨[(0,qb A),(1,rI a),(2,rI b),(3,qb c),(4,rS g),(11,.r<|.sl<|j.map<|Ak .i64),(12,rI q),(13,.own 5013<|l 0),(14,rI X),(15,rI O),(18,.ptr 18 (l 1) 0 0)],[(18,some<|.box (l 1) 51<|Ag x4),(5013,some<|.arr (l 0) 51 3<|w.map AG.row)],(a8 0),113⟩:=by
      intro x4 a8 e
      have bt:=br _ e
      exact bp _<|aR<|mM R<|AE bt λk6 bu bv=>xA R bu<|mA R<|Zi<|a0 _ _ wk<|J5 _ _ (AH [(a8 0)]) (Zb bv).symm
     refine aC R (λaa=>?_) λaa=>?_
     ·have ab:=Bk aa aw
      refine aT λbw=>aU<|mM R<|sQ R (CA R iL iL)<|mM R<|vF Cr BE R R<|AE ab λr1 bx bz=>vL (λhg=>Uj<|AP bx hg) R<|vM R<|vQ R (CA R (iR R)<|iR R)<|xO R<|aZ<|cI R bz (λac=>?_) λac=>?_
      ·refine aT λc0=>aG [0,1,2,3,4,11,12,13,14,15] [5013] ?_
       exact aR<|mM R<|AE ac λk7 c1 c2=>xA R c1<|mA R<|aZ<|c0 _<|Zn<|Y _ _ wk<|J3 _ _ (AH [(l 0),((l 1)+1)]) (Zb<|bl _ (Zb<|bs _ (Zb c2).symm).symm).symm
      refine Zd<|bw _<|aG [0,1,2,3,4,11,12,13,14,15,18] [18,5013] ?_
      refine aR<|lF Cr BE R R<|mM R ?_
      refine sQ R (BM R Fo (q:=[(0,_),(1,_)]) (by exact⟨R,R,R,iL,R,R,R,iL,Za⟩) (cs:=[.r<|.str [99,117,116],rS g])<|by rfl) ?_
      refine sS R (Bm 103 R Af (f:=AC.row) (l:=([(AC.mk [99,117,116] g)]:List AC)) ⟨R,⟨_,iL,R⟩,Za⟩ R (λ_=>R) R) ?_
      refine AM.weak (by exact Ap.frz (e':=[(0,qb A),(1,rI a),(2,rI b),(3,qb c),(4,rS g),(11,.r<|.sl<|j.map<|Ak .i64),(12,rI q),(13,.own 5013<|l 0),(14,rI X),(15,rI O),(18,.ptr 18 (l 1) 0 0),(99,.ptr 18 (l 1) 0 2),(100,qa x1.Attrs),(101,rS g),(102,.agg [.r<|.str [99,117,116],rS g]),(103,.r<|.sl<|[(AC.mk [99,117,116] g)].map AC.row)]) (h':=[(18,some<|.box (l 1) 51<|Ag x1),(5013,some<|.arr (l 0) 51 3<|w.map AG.row)]) 103 R ⟨jL,jL,jL,jL,jL,jL,jL,jL,jL,jL,jL,jL,jL,jL,jL,.inl<|.inr<|.inr ⟨R,R⟩,Za⟩ ⟨R,.inl R,R,.inl R,Za⟩) ?_
      exact AE ac λr2 c3 c5=>sS R (B4 (r:=qa r2) (caps:=[]) (bs:=[qa x1.Attrs,.r<|.sl<|[(AC.mk [99,117,116] g)].map AC.row]) R iL R ⟨.inl ⟨iL,R⟩,.inl ⟨iL,R⟩,Za⟩ λ_=>Xb<|c3)<|sQ R (fB R Cr iL fR R)<|Zj R R (Ac (ds:=[rI x1.Char,rI x1.Ref,qa r2]) R GZ iL R iL R R R R)<|Zi<|a1 _ _ wk<|J6 _ (AH [((l 1)+2)]) (Zb c5).symm
     ·have ab:=Bn aa aw
      exact Zd<|a1 _ _ wk<|J6 _ (AH [((l 1)+1)]) (Zb ab).symm
    ·have a7:=Bn a6 av
     exact Zd<|a0 _ _ wk<|J5 _ _ (AH [((l 1)+1)]) (Zb a7).symm
   refine aC R (λad=>?_) λad=>?_
   ·have ae:=Bk ad ar
    refine aU<|mM R<|xL Ar R<|mM R<|aZ<|Zf<|BJ ae λo2 ax cv c6=>DH (λ(x6:Int) (B:List AG) u=>⟨[(0,qb A),(1,rI a),(2,rI b),(3,qb c),(4,rS g),(11,.r<|.sl<|j.map<|Ak .i64),(12,rI q),(13,.own 5013<|u 0),(14,rI X),(15,rI O),(39,rL c),(40,rI x6)],[(5013,some<|.arr (u 0) 51 3<|B.map AG.row)],(u 1),113⟩) (AH [(T 0),(T 1)]) ax wk ?_
    intro x6 B u v2 c7 c9
    have ay:Ij c g x6 B=some v2:=c7;unfold Ij at ay
    refine aU<|xS R<|aZ<|aT λca=>cI R ay (λaf=>?_) λaf=>?_
    ·refine Zd<|ca _<|aT λcb=>Zf<|aU<|mM R<|mA R<|aZ<|aU<|mM R<|mM R<|AE af λM cc cd=>xI Ar R cc<|xB ((Ag M)) Cf R<|sS R (BB (cs:=Ec) 17 R EV R R)<|Zj R R (Ac (ds:=(Ag M)) R DK iL R iL R R R R)<|aZ<|aT λcf=>aR<|lF Cr BE R R<|mM R ?_
     refine sQ R (BM R Fo (q:=[(0,_),(1,_)]) (by exact⟨R,R,R,iL,R,R,R,iL,Za⟩) (cs:=[.r<|.str [97,100,100],rS g])<|by rfl) ?_
     refine sQ R (BM R Fo (q:=[(0,_)]) (by exact⟨R,R,R,iL,Za⟩) (cs:=TV)<|by rfl) ?_
     refine sS R (Bm 52 R Af (f:=AC.row) (l:=([(AC.mk [97,100,100] g),(AC.mk [99,117,116] [])]:List AC)) ⟨R,⟨_,iL,R⟩,R,⟨_,iL,R⟩,Za⟩ R (λ_=>R) R) ?_
     refine AM.weak (by exact Ap.frz (e':=[(0,qb A),(1,rI a),(2,rI b),(3,qb c),(4,rS g),(11,.r<|.sl<|j.map<|Ak .i64),(12,rI q),(13,.own 5013<|u 0),(14,rI X),(15,rI O),(16,rI x6),(17,.ptr 17 (u 1) 0 0),(39,rL c),(40,rI x6),(41,rB<|(decide<|x6<(c.length:Int))),(42,rI x6),(43,qb c),(44,rI x6),(45,.rop (AG.row M) 0),(46,.agg<|Ag M),(47,.ptr 17 (u 1) 0 2),(48,qa M.Attrs),(49,rS g),(50,.agg [.r<|.str [97,100,100],rS g]),(51,.agg TV),(52,.r<|.sl<|[(AC.mk [97,100,100] g),(AC.mk [99,117,116] [])].map AC.row)]) (h':=[(17,some<|.box (u 1) 51<|Ag M),(5013,some<|.arr (u 0) 51 3<|B.map AG.row)]) 52 R ⟨jL,jL,jL,jL,jL,jL,jL,jL,jL,jL,jL,jL,jL,jL,jL,jL,jL,jL,jL,jL,jL,jL,jL,jL,jL,.inl<|.inr<|.inr ⟨R,R⟩,Za⟩ ⟨R,.inl R,R,.inl R,Za⟩) ?_
     refine AE cd λr3 cg ch=>sS R (B4 (r:=qa r3) (caps:=[]) (bs:=[qa M.Attrs,.r<|.sl<|[(AC.mk [97,100,100] g),(AC.mk [99,117,116] [])].map AC.row]) R iL R ⟨.inl ⟨iL,R⟩,.inl ⟨iL,R⟩,Za⟩ λ_=>Xb<|cg)<|sQ R (fB R Cr iL fR R)<|Zj R R (Ac (ds:=[rI M.Char,rI M.Ref,qa r3]) R GZ iL R iL R R R R)<|aZ<|cf _<|aG [0,1,2,3,4,11,12,13,14,15,17,39,40] [17,5013] ?_
     exact aR<|mM R<|xC Cf R<|sS R (Bm 57 R Ar (f:=AG.row) (l:=([(AG.mk M.Char M.Ref r3)]:List AG)) ⟨R,⟨_,iL,R⟩,Za⟩ R (λ_=>R) R)<|AE ch λcj V ck=>sS R (Ci R Ar iL R (.inr<|.inl ⟨_,_,iL,R⟩) V)<|mA R<|aZ<|cb _<|aR<|AE ck λx9 cl cm=>xA R cl<|mM R<|Zi<|ZL cm (AH [((u 1)+3),((u 1)+4)]) wk
    exact Zn<|Z _ _ wk<|J4 _ (AH [(u 0),(u 1)]) (Zb<|c6 _<|xH c9 af).symm
   ·have ae:=Bn ad ar
    exact Zd<|Z _ _ wk<|J4 _ (AH [(T 0),(T 1)]) (Zb ae).symm
  exact Zn<|al _ _ wk<|J2 _ (AH [(T 0),(T 1)])<|xH ao h5
 refine aC R (λag=>?_) λag=>?_
 ·have ah:=Bk ag ak
  exact aR<|mM R<|mM R<|AE ah λcw az cn=>sQ R (B5 R iL iL λ_=>az)<|AE cn λcp b0 cq=>xI B8 R b0<|xV (.int .i64 cp) AJ R<|AE cq λct ai cr=>xA R ai<|mA R<|Zi<|aj _ _ wk<|J1 _ (AH [n0]) (Zb cr).symm
 ·have ah:=Bn ag ak
  exact Zd<|aj _ _ wk<|J1 _ (AH [n0]) (Zb ah).symm
theorem uw{j r}(h:Re j=some r):AO prog 23 [qb j] (rI r):=by
 unfold Re at h
 refine mF func23 ntmps23 R λY=>aU<|mA R<|aZ<|aS λZ c2 w=>aU<|mM R<|xL Ar R<|mM R<|aZ<|Zf<|BJ h λo1 l A B=>?_
 have J1:∀(U:Unit) (V:NN),o1=.nrm U→Z ⟨[],[],(V 0),19⟩:=by
  intro U V e
  have h1:=A _ e
  exact c2 _<|zI h1 R id
 refine ZC (λ(C:Int) u=>⟨[(0,qb j),(6,rL j),(7,rI C)],[],(u 0),19⟩) (AH [Y]) l wk ?_
 intro C u v1 E q
 have X:O6 j C=some v1:=E;unfold O6 at X
 refine aU<|xS R<|aZ<|aT λc6=>cI R X (λF=>?_) λF=>?_
 ·refine Zd<|c6 _<|aT λc7=>Zf<|aU<|mM R<|mA R<|aZ<|aU<|mM R<|mM R<|AE F λx4 I h4=>xI Ar R I<|xB ((Ag x4)) Cf R<|AE h4 λe1 J h5=>cL (iK<|J) R<|mA R<|aZ<|aU<|mM R<|xU R<|aZ<|cI R h5 (λM=>?_) λM=>?_
  ·refine aT λO=>aF [4] ?_
   exact aR<|mM R<|mA R<|aZ<|O _<|Zk<|yI (B _<|xH q M) R
  refine Zd<|c7 _<|aF [0,6,7] ?_
  exact aR<|AE M λx5 T h7=>xA R T<|mM R<|Zi<|Zx h7 (AH [(u 0)]) wk
 exact Zn<|w _ _ wk<|J1 _ (AH [(u 0)])<|xH q F
theorem nN{j r}(h:RW j=some r):AO prog 158 (RX j) (rI r):=by
 unfold RW at h
 refine mF func158 ntmps158 R λn0=>aU<|sS R (Az (cs:=(Bt j)) 1 R iL R R)<|mA R<|aZ<|aT λY=>aU<|lF B9 AJ R R<|AE h λr1 l Z=>cL (DL<|l) R<|sQ R (A3 R iL)<|aZ<|cI R Z (λq=>?_) λq=>?_
 ·exact zI q R id
 refine Zd<|Y _<|aT λc5=>aU<|lF B9 AJ R R<|xQ R<|aZ<|cI R q (λu=>?_) λu=>?_
 ·refine aT λc7=>aT λc8=>aG [1] [1] ?_
  refine aR<|lF EJ AJ R R<|xU R<|mM R<|vF Dy BE R R<|vQ R (Bq R Af.slice<|iR R)<|vQ R (BD R (iR R) iL)<|xO R<|aZ<|c8 _<|cI R u (λw=>?_) λw=>?_
  ·exact zI w R id
  refine Zd<|c7 _<|aT λA=>aT λB=>aG [1] [1] ?_
  refine aR<|lF EO B0 R R<|xL Ar R<|xQ R<|aZ<|B _<|cI R w (λC=>?_) λC=>?_
  ·exact zI C R id
  exact Zd<|A _<|aU<|lF EO B0 R R<|AE C λr2 E h6=>cL (uw<|E) R<|mA R<|aZ<|Zk<|yI h6 R
 refine Zd<|c5 _<|aT λF=>aT λI=>aG [1] [1] ?_
 refine aR<|lF EO B0 R R<|xL Ar R<|sQ R (BD R iL iL)<|mM R<|vF B9 AJ R R<|vQ R (Aw R (iR R) iL)<|vQ R (AK R<|iR R)<|wQ R (fB R Dy iL fR R)<|wQ R (AU (a:=qa j.Attrs) R BE (iR R) R R)<|wQ R (Bq R Af.slice<|iR R)<|wQ R (BD R (iR R) iL)<|vQ R (BQ R (iR R)<|iR R)<|xO R<|aZ<|I _<|cI R u (λJ=>?_) λJ=>?_
 ·exact zI J R id
 refine Zd<|F _<|aT λM=>aT λO=>aG [1] [1] ?_
 refine aR<|lF EJ AJ R R<|AE J λr3 T h8=>cL (DL<|T) R<|sQ R (A3 R iL)<|aZ<|O _<|cI R h8 (λU=>?_) λU=>?_
 ·exact zI U R id
 exact Zd<|M _<|aU<|lF Dy BE R R<|AE U λr4 V X=>cL (Nb<|V) R<|mA R<|aZ<|Zk<|yI X R
theorem u9{d1 r}(h:NC d1=some r):AO prog 111 [qd d1] (rI r):=by
 unfold NC at h
 refine mF func111 ntmps111 R λn0=>aU<|mA R<|aZ<|aU<|mA R<|mA R<|aZ<|aS λK3 c3 ae=>aU<|mM R<|xL Bw R<|mM R<|aZ<|Zf<|JP h λo1 ab af I=>?_
 have J1:∀(u:Int) (w:Int) (i5:NN),o1=.nrm (u,w)→K3 ⟨[(3,rI u),(4,rI w)],[],(i5 0),85⟩:=by
  intro u w i5 e
  have h1:=af _ _ e
  refine c3 _<|aT λc5=>aU<|mM R<|sQ R (BD R iL iL)<|mM R<|vM R<|vQ R (BD R (iR R) iL)<|xO R<|aZ<|cI R h1 (λh2=>?_) λh2=>?_
  ·exact zI h2 R id
  exact Zd<|c5 _<|zI h2 R id
 refine IU (λ(l:Int) (j:Int) (x2:Int) A=>⟨[(0,qd d1),(3,rI l),(4,rI j),(10,rL d1),(11,rI x2)],[],(A 0),85⟩) (AH [n0]) ab wk ?_
 intro l j x2 A v1 ag B
 have h3:IX d1 l j x2=some v1:=ag;unfold IX at h3
 refine aU<|xS R<|aZ<|aT λah=>cI R h3 (λh4=>?_) λh4=>?_
 ·refine Zd<|ah _<|aS λai aj M=>Zf<|JP h4 λp1 ak al J=>?_
  have J2:∀(C:Int) (E:Int) (i6:NN),p1=.nrm (C,E)→ai ⟨[(0,qd d1),(3,rI C),(4,rI E),(10,rL d1),(11,rI x2)],[],(i6 0),85⟩:=by
   intro C E i6 e
   have h5:=al _ _ e
   exact aj _<|aR<|AE h5 λx4 an h6=>xA R an<|mM R<|Zi<|Dv.mk h6 (AH [(i6 0)]) wk
  refine aU<|mM R<|mA R<|aZ<|aU<|mM R<|mM R<|AE ak λx5 ao h7=>xI Bw R ao<|xB ((Bt x5)) Er R<|sS R (BB (cs:=EH) 6 R FM R R)<|Zj R R (Ac (ds:=(Bt x5)) R FL iL R iL R R R R)<|aZ<|aT λaq=>aU<|xC Er R<|AE h7 λe1 ar h8=>cL (nN<|ar) R<|mA R<|aZ<|aU<|mM R<|xU R<|aZ<|cI R h8 (λh9=>?_) λh9=>?_
  ·refine aT λav=>aF [7] ?_
   exact aR<|mM R<|mA R<|aZ<|av _<|Zk<|yI (I _<|B _ (Zb<|J _ (Zb h9).symm).symm) R
  refine Zd<|aq _<|aS λaw ax q=>aT λay=>aG [0,3,4,5,6,10,11] [6] ?_
  refine aR<|mM R<|sQ R (BD R iL iL)<|aZ<|ay _<|BJ h9 λp2 ac az T=>?_
  have J3:∀(u2:Unit) (i7:NN),p2=.nrm u2→aw ⟨[(0,qd d1),(3,rI l),(4,rI j),(6,.ptr 6 (A 0) 0 0),(10,rL d1),(11,rI x2)],[(6,some<|.box (A 0) 100<|Bt x5)],(i7 0),85⟩:=by
   intro u2 i7 e
   have b0:=az _ e
   refine ax _<|aS λb1 b2 O=>aU<|lF B9 AJ R R<|xU R<|mM R<|vM R<|vQ R (B7 R (iR R) iL)<|xN R<|aZ<|BA b0 λp3 ad b3=>?_
   have J4:∀(F:Int) (i8:NN),p3=F→b1 ⟨[(0,qd d1),(3,rI F),(4,rI j),(6,.ptr 6 (A 0) 0 0),(10,rL d1),(11,rI x2)],[(6,some<|.box (A 0) 100<|Bt x5)],(i8 0),85⟩:=by
    intro F i8 e
    have b4:=b3 _ e
    refine b2 _<|aU<|lF B9 AJ R R<|xU R<|mM R<|vM R<|vQ R (B7 R (iR R) iL)<|xN R<|aZ<|cI R b4 (λU=>?_) λU=>?_
    ·exact aR<|mM R<|lF EJ AJ R R<|lF EO B0 R R<|xL Ar R<|AE U λx6 b5 b6=>xA R b5<|AE b6 λbj V b7=>xA R V<|mA R<|Zi<|M _ _ wk<|J2 _ _ (AH [(i8 0)]) (Zb b7).symm
    exact Zd<|M _ _ wk<|J2 _ _ (AH [(i8 0)]) (Zb U).symm
   refine aC R (λX=>?_) λX=>?_
   ·have Y:=Bk X ad
    exact aR<|mM R<|lF EJ AJ R R<|AE Y λbk Z b8=>xA R Z<|mA R<|Zi<|O _ _ wk<|J4 _ (AH [(i7 0)]) (Zb b8).symm
   ·have Y:=Bn X ad
    exact Zd<|O _ _ wk<|J4 _ (AH [(i7 0)]) (Zb Y).symm
  refine aC R (λa0=>?_) λa0=>?_
  ·have a1:=Bk a0 ac
   refine aU<|mM R<|mM R<|AE a1 λx7 b9 ba=>sQ R (B5 R iL iL λ_=>b9)<|AE ba λx8 bb bc=>xI Bw R bb<|xB ((Bt x8)) Er R<|sS R (BB (cs:=EH) 8 R FM R R)<|Zj R R (Ac (ds:=(Bt x8)) R FL iL R iL R R R R)<|aZ<|aU<|lF B9 AJ R R<|aZ<|Zf<|aT λbd=>aG [0,3,4,6,8,10,11,31] [6,8] ?_
   refine aR<|xQ R<|mA R<|aZ<|bd _<|cI R bc (λa2=>?_) λa2=>?_
   ·refine aU<|lF B9 AJ R R<|xU R<|aZ<|cI R a2 (λa6=>?_) λa6=>?_
    ·refine aT λbe=>aF [] ?_
     exact aR<|mA R<|aZ<|be _<|Zk<|yI (I _<|B _ (Zb<|J _ (Zb<|T _ (Zb a6).symm).symm).symm) R
    exact Zd<|q _ _ wk<|J3 _ (AH [((A 0)+2)]) (Zb a6).symm
   refine aU<|xQ R<|mA R<|aZ<|cI R a2 (λa7=>?_) λa7=>?_
   ·refine aU<|lF B9 AJ R R<|xQ R<|aZ<|cI R a7 (λa8=>?_) λa8=>?_
    ·refine aT λbf=>aF [] ?_
     exact aR<|mA R<|aZ<|bf _<|Zk<|yI (I _<|B _ (Zb<|J _ (Zb<|T _ (Zb a8).symm).symm).symm) R
    exact Zd<|q _ _ wk<|J3 _ (AH [((A 0)+2)]) (Zb a8).symm
   refine aU<|lF B9 AJ R R<|xQ R<|mM R<|vF Dy BE R R<|vF Dy BE R R<|AE a7 λr1 bg bh=>vL (λhg=>NJ<|AP bg hg) R<|xN R<|aZ<|cI R bh (λaa=>?_) λaa=>?_
   ·refine aT λbi=>aF [] ?_
    exact aR<|mA R<|aZ<|bi _<|Zk<|yI (I _<|B _ (Zb<|J _ (Zb<|T _ (Zb aa).symm).symm).symm) R
   exact Zd<|q _ _ wk<|J3 _ (AH [((A 0)+2)]) (Zb aa).symm
  ·have a1:=Bn a0 ac
   exact Zd<|q _ _ wk<|J3 _ (AH [((A 0)+1)]) (Zb a1).symm
 exact Zn<|ae _ _ wk<|J1 _ _ (AH [(A 0)])<|xH B h4
theorem ZX{E r}(h:Uc E=some r):AO prog 159 [qh E] (rI r):=by
 unfold Uc at h
 refine mF func159 ntmps159 R λn0=>aU<|mA R<|aZ<|aU<|mA R<|mA R<|aZ<|aS λK3 c3 a8=>aU<|mM R<|xL Ej R<|mM R<|aZ<|Zf<|JP h λo1 a6 aa O=>?_
 have J1:∀(q:Int) (u:Int) (i5:NN),o1=.nrm (q,u)→K3 ⟨[(3,rI q),(4,rI u)],[],(i5 0),99⟩:=by
  intro q u i5 e
  have h1:=aa _ _ e
  refine c3 _<|aT λc5=>aU<|mM R<|sQ R (BD R iL iL)<|mM R<|vM R<|vQ R (BD R (iR R) iL)<|xO R<|aZ<|cI R h1 (λh2=>?_) λh2=>?_
  ·exact zI h2 R id
  exact Zd<|c5 _<|zI h2 R id
 refine IU (λ(w:Int) (l:Int) (x2:Int) i3=>⟨[(0,qh E),(3,rI w),(4,rI l),(7,rL E),(8,rI x2)],[],(i3 0),99⟩) (AH [n0]) a6 wk ?_
 intro w l x2 i3 v1 ab F
 have h3:WX E w l x2=some v1:=ab;unfold WX at h3
 refine aU<|xS R<|aZ<|aT λac=>cI R h3 (λh4=>?_) λh4=>?_
 ·refine Zd<|ac _<|aS λad ae I=>Zf<|JP h4 λp1 af ag T=>?_
  have J2:∀(A:Int) (B:Int) (i6:NN),p1=.nrm (A,B)→ad ⟨[(0,qh E),(3,rI A),(4,rI B),(7,rL E),(8,rI x2)],[],(i6 0),99⟩:=by
   intro A B i6 e
   have h5:=ag _ _ e
   exact ae _<|aR<|AE h5 λx4 ah h6=>xA R ah<|mM R<|Zi<|Dv.mk h6 (AH [(i6 0)]) wk
  refine aU<|mM R<|mA R<|aZ<|aT λai=>aU<|mM R<|mM R<|AE af λJ j h7=>xI Ej R j<|sQ R (A6 R LM iL)<|xV (.int .i64 J.Kind) AJ R<|AE h7 λr1 aj h8=>cL (DL<|aj) R<|sQ R (A3 R iL)<|aZ<|cI R h8 (λh9=>?_) λh9=>?_
  ·refine aT λak=>aF [] ?_
   exact aR<|mA R<|aZ<|ak _<|Zk<|yI (O _<|F _ (Zb<|T _ (Zb h9).symm).symm) R
  refine Zd<|ai _<|aT λal=>aT λan=>aF [0,3,4,5,7,8] ?_
  refine aR<|mM R<|mM R<|xI Ej R j<|sQ R (A6 R Vp iL)<|xV (.int .i64 J.N) AJ R<|AE h9 λr2 ao aq=>cL (DL<|ao) R<|sQ R (A3 R iL)<|aZ<|an _<|cI R aq (λU=>?_) λU=>?_
  ·refine aT λar=>aF [] ?_
   exact aR<|mA R<|aZ<|ar _<|Zk<|yI (O _<|F _ (Zb<|T _ (Zb U).symm).symm) R
  refine Zd<|al _<|aT λav=>aT λaw=>?_
  refine ZB BF (by kernel_rfl) ?_
  refine qP R (AK R iL)<|qP R (BD R iL iL)<|qP R (AK R iL)<|qO R (AK R iL)<|qO R (AK R iL)<|qO R (At R Ej.slice (iR R) (iR R) (λ_=>R) λ_=>j)<|qO R (A6 R LM<|iR R)<|qO R (BV (d:=.int .i64 J.Kind) R AJ (iR R) R)<|qO R (AK R iL)<|qO R (AK R iL)<|AE U λx6 ax ay=>qO R (B5 R (iR R) iL<|AP ax)<|AE ay λx7 az b0=>qO R (At R Ej.slice (iR R) (iR R) (λ_=>R)<|AP az)<|qO R (A6 R LM<|iR R)<|qO R (BV (d:=.int .i64 x7.Kind) R AJ (iR R) R)<|qO R (Aw R (iR R)<|iR R)<|qO R (AK R<|iR R)<|qT R (AK R iL)<|qT R (AK R iL)<|qT R (At R Ej.slice (iR R) (iR R) (λ_=>R) λ_=>j)<|qT R (A6 R LM<|iR R)<|qT R (BV (d:=.int .i64 J.Kind) R AJ (iR R) R)<|qT R (Aw R (iR R) iL)<|qT R (AK R<|iR R)<|qT R (AK R iL)<|qT R (AK R iL)<|AE b0 λx8 b1 b2=>qT R (B5 R (iR R) iL<|AP b1)<|AE b2 λx9 b3 b4=>qT R (At R Ej.slice (iR R) (iR R) (λ_=>R)<|AP b3)<|qT R (A6 R LM<|iR R)<|qT R (BV (d:=.int .i64 x9.Kind) R AJ (iR R) R)<|qT R (Aw R (iR R) iL)<|qT R (BQ R (iR R)<|iR R)<|qO R (CB R (iR R)<|iR R)<|qP R (BQ R iL<|iR R)<|AQ.nil<|aw _<|cI R b4 (λV=>?_) λV=>?_
  ·refine aT λb5=>aF [] ?_
   exact aR<|mA R<|aZ<|b5 _<|Zk<|yI (O _<|F _ (Zb<|T _ (Zb V).symm).symm) R
  refine Zd<|av _<|aS λb6 b7 M=>aT λb8=>aF [0,3,4,5,7,8] ?_
  refine aR<|mM R<|mM R<|xI Ej R j<|sQ R (A6 R LM iL)<|xV (.int .i64 J.Kind) AJ R<|xU R<|mM R<|vM R<|vQ R (B7 R (iR R) iL)<|xN R<|aZ<|b8 _<|BA V λp2 a7 b9=>?_
  have J3:∀(C:Int) (i7:NN),p2=C→b6 ⟨[(0,qh E),(3,rI C),(4,rI l),(5,rI x2),(7,rL E),(8,rI x2)],[],(i7 0),99⟩:=by
   intro C i7 e
   have ba:=b9 _ e
   refine b7 _<|aU<|mM R<|mM R<|xI Ej R j<|sQ R (A6 R LM iL)<|xV (.int .i64 J.Kind) AJ R<|xU R<|mM R<|vM R<|vQ R (B7 R (iR R) iL)<|xN R<|aZ<|cI R ba (λX=>?_) λX=>?_
   ·exact aR<|mM R<|mM R<|mM R<|xI Ej R j<|sQ R (A6 R Vp iL)<|xV (.int .i64 J.N) AJ R<|AE X λbd Y bb=>xA R Y<|mA R<|Zi<|I _ _ wk<|J2 _ _ (AH [(i7 0)]) (Zb bb).symm
   exact Zd<|I _ _ wk<|J2 _ _ (AH [(i7 0)]) (Zb X).symm
  refine aC R (λZ=>?_) λZ=>?_
  ·have a0:=Bk Z a7
   exact aR<|mM R<|mM R<|mM R<|xI Ej R j<|sQ R (A6 R Vp iL)<|xV (.int .i64 J.N) AJ R<|AE a0 λbe a2 bc=>xA R a2<|mA R<|Zi<|M _ _ wk<|J3 _ (AH [(i3 0)]) (Zb bc).symm
  ·have a0:=Bn Z a7
   exact Zd<|M _ _ wk<|J3 _ (AH [(i3 0)]) (Zb a0).symm
 exact Zn<|a8 _ _ wk<|J1 _ _ (AH [(i3 0)])<|xH F h4
theorem nF{e1 r}(h:W1 e1=some r):AO prog 112 [.agg<|Dk e1] (rI r):=by
 unfold W1 at h
 refine mF func112 ntmps112 R λj=>aU<|sS R (Az (cs:=(Dk e1)) 1 R iL R R)<|mA R<|aZ<|aT λc2=>aU<|lF UW Jt R R<|AE h λf1 Y h1=>cL (ZX<|Y) R<|mA R<|aZ<|aU<|mM R<|xU R<|aZ<|cI R h1 (λZ=>?_) λZ=>?_
 ·exact aU<|mM R<|mA R<|aZ<|Zk<|yI Z R
 refine Zd<|c2 _<|aT λc6=>aU<|lF SC Jt R R<|AE Z λf2 a0 h3=>cL (ZX<|a0) R<|mA R<|aZ<|aT λc8=>aG [1,4] [1] ?_
 refine aR<|mM R<|xU R<|aZ<|c8 _<|cI R h3 (λh4=>?_) λh4=>?_
 ·exact aU<|mM R<|mA R<|aZ<|Zk<|yI h4 R
 refine Zd<|c6 _<|aT λa1=>aU<|lF Ty E0 R R<|AE h4 λf3 a2 h5=>cL (fF<|a2) R<|mA R<|aZ<|aU<|mM R<|xU R<|aZ<|cI R h5 (λh6=>?_) λh6=>?_
 ·refine aT λa6=>aF [5] ?_
  exact aR<|mM R<|mA R<|aZ<|a6 _<|Zk<|yI h6 R
 refine Zd<|a1 _<|aS λa7 a8 E=>aT λaa=>aG [1] [1] ?_
 refine aR<|lF Rg DQ R R<|xL Cs R<|mM R<|aZ<|aa _<|Zf<|BJ h6 λo1 F ab ac=>?_
 have J1:∀(u2:Unit) (i5:NN),o1=.nrm u2→a7 ⟨[(1,.ptr 1 j 0 0)],[(1,some<|.box j 74<|Dk e1)],(i5 0),70⟩:=by
  intro u2 i5 e
  have h7:=ab _ e
  refine a8 _<|aS λad ae I=>aU<|lF LN DQ R R<|xL Cs R<|mM R<|aZ<|Zf<|BJ h7 λo2 J af M=>?_
  have J2:∀(u4:Unit) (O:NN),o2=.nrm u4→ad ⟨[],[],(O 0),70⟩:=by
   intro u4 O e
   have h8:=af _ e
   exact ae _<|zI h8 R id
  refine ZC (λ(x5:Int) i8=>⟨[(1,.ptr 1 j 0 0),(42,rL e1.Merge),(43,rI x5)],[(1,some<|.box j 74<|Dk e1)],(i8 0),70⟩) (AH [(i5 0)]) J wk ?_
  intro x5 i8 v1 ag l
  have h9:WU e1 x5=some v1:=ag;unfold WU at h9
  refine aU<|xS R<|aZ<|aT λah=>cI R h9 (λq=>?_) λq=>?_
  ·refine Zd<|ah _<|aT λai=>Zf<|aU<|mM R<|mA R<|aZ<|aT λaj=>aU<|lF LN DQ R R<|mM R<|AE q λx7 u ak=>xI Cs R u<|xB ((BW x7)) FB R<|AE ak λr1 al an=>cL (XX<|al) R<|sQ R (A3 R iL)<|aZ<|cI R an (λw=>?_) λw=>?_
   ·exact zI (M _<|xH l w) R id
   refine Zd<|aj _<|aT λao=>aG [1,7,42,43] [1] ?_
   refine aR<|lF LN DQ R R<|mM R<|xI Cs R u<|sQ R (A6 R H6 iL)<|xV (.int .i64 x7.H) AJ R<|xQ R<|mM R<|vF LN DQ R R<|vM R<|vQ R (At R Cs.slice (iR R) (iR R) (λ_=>R) λ_=>u)<|vQ R (A6 R IE<|iR R)<|vQ R (BV (d:=.int .i64 x7.W) R AJ (iR R) R)<|vQ R (Aw R (iR R) iL)<|xN R<|aZ<|ao _<|cI R w (λA=>?_) λA=>?_
   ·exact zI (M _<|xH l A) R id
   refine Zd<|ai _<|aG [1,42,43] [1] ?_
   exact aR<|AE A λx8 aq ar=>xA R aq<|mM R<|Zi<|Zx ar (AH [(i8 0)]) wk
  exact Zn<|I _ _ wk<|J2 _ (AH [(i8 0)])<|xH l q
 refine ZC (λ(x2:Int) X=>⟨[(1,.ptr 1 j 0 0),(28,rL e1.Split),(29,rI x2)],[(1,some<|.box j 74<|Dk e1)],(X 0),70⟩) (AH [(j+1)]) F wk ?_
 intro x2 X v2 av T
 have U:Wb e1 x2=some v2:=av;unfold Wb at U
 refine aU<|xS R<|aZ<|aT λaw=>cI R U (λB=>?_) λB=>?_
 ·refine Zd<|aw _<|aT λax=>Zf<|aU<|mM R<|mA R<|aZ<|aU<|lF Rg DQ R R<|mM R<|AE B λx9 ay az=>xI Cs R ay<|xB ((BW x9)) FB R<|AE az λr2 b0 b1=>cL (XX<|b0) R<|sQ R (A3 R iL)<|aZ<|cI R b1 (λC=>?_) λC=>?_
  ·exact zI (ac _<|xH T C) R id
  refine Zd<|ax _<|aG [1,28,29] [1] ?_
  exact aR<|AE C λb3 V b2=>xA R V<|mM R<|Zi<|Zx b2 (AH [(X 0)]) wk
 exact Zn<|E _ _ wk<|J1 _ (AH [(X 0)])<|xH T B
theorem uM{j r}(h:OM j=some r):AO prog 60 (lJ j) (rI r):=by
 unfold OM at h
 refine mF func60 ntmps60 R λl=>aU<|sS R (Az (cs:=(D9 j)) 1 R iL R R)<|mA R<|aZ<|aT λc2=>aU<|lF Ln AJ R R<|AE h λr1 X h1=>cL (DL<|X) R<|sQ R (A3 R iL)<|aZ<|cI R h1 (λY=>?_) λY=>?_
 ·exact zI Y R id
 refine Zd<|c2 _<|aU<|sQ R (fB R Sv iL fR R)<|sQ R (Fm (ds:=(Dk j.Grid)) R Sx iL R R R)<|sS R (BB (cs:=[cZ,cZ,cZ,cZ,cZ]) 3 R kk R R)<|Zj R R (Ac (ds:=(Dk j.Grid)) R rD iL R iL R R R R)<|aZ<|aT λc6=>AE Y λq Z h3=>AE h3 λx1 a0 h4=>AE h4 λx2 a1 h5=>AE h5 λx3 a2 h6=>AE h6 λu a6 h7=>?_
 refine Hd 39 [pO 12<|.ptr 1 l 0 2,pO 13<|.agg<|BY j.New,pO 14<|.agg I5,pO 15<|rB q,pO 16<|rB<|(!q),pO 17<|.ptr 1 l 0 11,pO 18<|qa j.Attrs,pO 19<|rL j.Attrs,pO 20<|rB<|(decide<|0<(j.Attrs.length:Int)),pO 21<|.ptr 1 l 0 12,pO 22<|qd j.Steps,pO 23<|rL j.Steps,pO 24<|rB<|(decide<|0<(j.Steps.length:Int)),pO 25<|.ptr 3 (l+1) 0 0,pO 26<|qh j.Grid.Rows,pO 27<|rL j.Grid.Rows,pO 28<|.ptr 3 (l+1) 0 1,pO 29<|qh j.Grid.Cols,pO 30<|rL j.Grid.Cols,pO 31<|rI x1,pO 32<|.ptr 3 (l+1) 0 2,pO 33<|qe j.Grid.Cells,pO 34<|rL j.Grid.Cells,pO 35<|rI x2,pO 36<|.ptr 3 (l+1) 0 3,pO 37<|qc j.Grid.Split,pO 38<|rL j.Grid.Split,pO 39<|rI x3,pO 40<|.ptr 3 (l+1) 0 4,pO 41<|qc j.Grid.Merge,pO 42<|rL j.Grid.Merge,pO 43<|rI u,pO 44<|rB<|(decide<|0<u),pO 45<|.ptr 1 l 0 18,pO 46<|qf j.Draw,pO 47<|rL j.Draw,pO 48<|rB<|(decide<|0<(j.Draw.length:Int)),pO 49<|.agg [rB<|(!q),rB<|(decide<|0<(j.Attrs.length:Int)),rB<|(decide<|0<(j.Steps.length:Int)),rB<|(decide<|0<u),rB<|(decide<|0<(j.Draw.length:Int))],⟨some 4,(λw=>.ptr 4 (w 38) 0 0),some (4,(λw=>some<|.box (w 38) 158 bO)),[38]⟩] BF (by kernel_rfl) (by exact⟨λ_ _ h=>⟨R,λ_ _ e=>by cases e⟩,λ_ _ h=>⟨R,λ_ _ e=>by cases e⟩,λ_ _ h=>⟨R,λ_ _ e=>by cases e⟩,λ_ _ h=>⟨R,λ_ _ e=>by cases e⟩,λ_ _ h=>⟨R,λ_ _ e=>by cases e⟩,λ_ _ h=>⟨R,λ_ _ e=>by cases e⟩,λ_ _ h=>⟨R,λ_ _ e=>by cases e⟩,λ_ _ h=>⟨R,λ_ _ e=>by cases e⟩,λ_ _ h=>⟨R,λ_ _ e=>by cases e⟩,λ_ _ h=>⟨R,λ_ _ e=>by cases e⟩,λ_ _ h=>⟨R,λ_ _ e=>by cases e⟩,λ_ _ h=>⟨R,λ_ _ e=>by cases e⟩,λ_ _ h=>⟨R,λ_ _ e=>by cases e⟩,λ_ _ h=>⟨R,λ_ _ e=>by cases e⟩,λ_ _ h=>⟨R,λ_ _ e=>by cases e⟩,λ_ _ h=>⟨R,λ_ _ e=>by cases e⟩,λ_ _ h=>⟨R,λ_ _ e=>by cases e⟩,λ_ _ h=>⟨R,λ_ _ e=>by cases e⟩,λ_ _ h=>⟨R,λ_ _ e=>by cases e⟩,λ_ _ h=>⟨R,λ_ _ e=>by cases e⟩,λ_ _ h=>⟨R,λ_ _ e=>by cases e⟩,λ_ _ h=>⟨R,λ_ _ e=>by cases e⟩,λ_ _ h=>⟨R,λ_ _ e=>by cases e⟩,λ_ _ h=>⟨R,λ_ _ e=>by cases e⟩,λ_ _ h=>⟨R,λ_ _ e=>by cases e⟩,λ_ _ h=>⟨R,λ_ _ e=>by cases e⟩,λ_ _ h=>⟨R,λ_ _ e=>by cases e⟩,λ_ _ h=>⟨R,λ_ _ e=>by cases e⟩,λ_ _ h=>⟨R,λ_ _ e=>by cases e⟩,λ_ _ h=>⟨R,λ_ _ e=>by cases e⟩,λ_ _ h=>⟨R,λ_ _ e=>by cases e⟩,λ_ _ h=>⟨R,λ_ _ e=>by cases e⟩,λ_ _ h=>⟨R,λ_ _ e=>by cases e⟩,λ_ _ h=>⟨R,λ_ _ e=>by cases e⟩,λ_ _ h=>⟨R,λ_ _ e=>by cases e⟩,λ_ _ h=>⟨R,λ_ _ e=>by cases e⟩,λ_ _ h=>⟨R,λ_ _ e=>by cases e⟩,λ_ _ h=>⟨R,λ_ _ e=>by cases e⟩,λ_ _ h=>⟨by simp only[h 38 R],λ_ _ e=>by cases e;simp only[h 38 R]⟩,Za⟩) R (by exact⟨oB [(1,.ptr 1 l 0 0)] [(1,some<|.box l 76<|D9 j)]<|fB R T9 (.inl R) (λ_=>R) R,oB [(12,.ptr 1 l 0 2)] [(1,some<|.box l 76<|D9 j)]<|Fm (ds:=(BY j.New)) R El (.inl R) R R R,oB [] []<|BM R Qx (q:=[]) (by exact Za) (cs:=I5)<|by rfl,oD (λ_=>[(13,.agg<|BY j.New),(14,.agg I5)]) (λ_=>[]) λw e h' n=>EG (r:=rB q) (caps:=[]) (bs:=[.agg<|BY j.New,.agg [rI 0,rI 0,.r<|.sl [],.r<|.sl [],rI 0,rI 0,.r<|.sl [],.r<|.sl [],.r<|.sl []]]) R (.inl R) R ⟨⟨_,(.inl R),.g (cs:=[.int .i64 j.New.ID,.int .i64 j.New.Kind,.sl<|j.New.Attrs.map AC.row,.sl<|j.New.Flow.map AG.row,.int .i64 j.New.Grid.Rows,.int .i64 j.New.Grid.Cols,.sl<|j.New.Grid.Cells.map A0.row,.sl<|j.New.Grid.Merges.map Ax.row,.sl<|j.New.Draw.map BS.row]) R R⟩,⟨_,(.inl R),.agg<|by exact⟨.closed _ R,.closed _ R,.nil,.nil,.closed _ R,.closed _ R,.nil,.nil,.nil,Za⟩⟩,Za⟩ (λ_=>gI<|Z) R,oB [(15,rB q)] []<|A3 R<|.inl R,oB [(1,.ptr 1 l 0 0)] [(1,some<|.box l 76<|D9 j)]<|fB R Sc (.inl R) (λ_=>R) R,oB [(17,.ptr 1 l 0 11)] [(1,some<|.box l 76<|D9 j)]<|AU (a:=qa j.Attrs) R BE (.inl R) R R,oB [(18,qa j.Attrs)] []<|Bq R Af.slice<|.inl R,oB [(19,rL j.Attrs)] []<|BD R (.inl R)<|.inl R,oB [(1,.ptr 1 l 0 0)] [(1,some<|.box l 76<|D9 j)]<|fB R ML (.inl R) (λ_=>R) R,oB [(21,.ptr 1 l 0 12)] [(1,some<|.box l 76<|D9 j)]<|AU (a:=qd j.Steps) R EF (.inl R) R R,oB [(22,qd j.Steps)] []<|Bq R Bw.slice<|.inl R,oB [(23,rL j.Steps)] []<|BD R (.inl R)<|.inl R,oB [(3,.ptr 3 (l+1) 0 0)] [(3,some<|.box (l+1) 74<|Dk j.Grid)]<|fB R UW (.inl R) (λ_=>R) R,oB [(25,.ptr 3 (l+1) 0 0)] [(3,some<|.box (l+1) 74<|Dk j.Grid)]<|AU (a:=qh j.Grid.Rows) R Jt (.inl R) R R,oB [(26,qh j.Grid.Rows)] []<|Bq R Ej.slice<|.inl R,oB [(3,.ptr 3 (l+1) 0 0)] [(3,some<|.box (l+1) 74<|Dk j.Grid)]<|fB R SC (.inl R) (λ_=>R) R,oB [(28,.ptr 3 (l+1) 0 1)] [(3,some<|.box (l+1) 74<|Dk j.Grid)]<|AU (a:=qh j.Grid.Cols) R Jt (.inl R) R R,oB [(29,qh j.Grid.Cols)] []<|Bq R Ej.slice<|.inl R,oB [(27,rL j.Grid.Rows),(30,rL j.Grid.Cols)] []<|Gj R (.inl R) (.inl R) λ_=>a0,oB [(3,.ptr 3 (l+1) 0 0)] [(3,some<|.box (l+1) 74<|Dk j.Grid)]<|fB R Ty (.inl R) (λ_=>R) R,oB [(32,.ptr 3 (l+1) 0 2)] [(3,some<|.box (l+1) 74<|Dk j.Grid)]<|AU (a:=qe j.Grid.Cells) R E0 (.inl R) R R,oB [(33,qe j.Grid.Cells)] []<|Bq R Cq.slice<|.inl R,oB [(31,rI x1),(34,rL j.Grid.Cells)] []<|Gj R (.inl R) (.inl R) λ_=>a1,oB [(3,.ptr 3 (l+1) 0 0)] [(3,some<|.box (l+1) 74<|Dk j.Grid)]<|fB R Rg (.inl R) (λ_=>R) R,oB [(36,.ptr 3 (l+1) 0 3)] [(3,some<|.box (l+1) 74<|Dk j.Grid)]<|AU (a:=qc j.Grid.Split) R DQ (.inl R) R R,oB [(37,qc j.Grid.Split)] []<|Bq R Cs.slice<|.inl R,oB [(35,rI x2),(38,rL j.Grid.Split)] []<|Gj R (.inl R) (.inl R) λ_=>a2,oB [(3,.ptr 3 (l+1) 0 0)] [(3,some<|.box (l+1) 74<|Dk j.Grid)]<|fB R LN (.inl R) (λ_=>R) R,oB [(40,.ptr 3 (l+1) 0 4)] [(3,some<|.box (l+1) 74<|Dk j.Grid)]<|AU (a:=qc j.Grid.Merge) R DQ (.inl R) R R,oB [(41,qc j.Grid.Merge)] []<|Bq R Cs.slice<|.inl R,oB [(39,rI x3),(42,rL j.Grid.Merge)] []<|Gj R (.inl R) (.inl R) λ_=>a6,oB [(43,rI u)] []<|BD R (.inl R)<|.inl R,oB [(1,.ptr 1 l 0 0)] [(1,some<|.box l 76<|D9 j)]<|fB R Tx (.inl R) (λ_=>R) R,oB [(45,.ptr 1 l 0 18)] [(1,some<|.box l 76<|D9 j)]<|AU (a:=qf j.Draw) R Gx (.inl R) R R,oB [(46,qf j.Draw)] []<|Bq R FW.slice<|.inl R,oB [(47,rL j.Draw)] []<|BD R (.inl R)<|.inl R,oB [(16,rB<|(!q)),(20,rB<|(decide<|0<(j.Attrs.length:Int))),(24,rB<|(decide<|0<(j.Steps.length:Int))),(44,rB<|(decide<|0<u)),(48,rB<|(decide<|0<(j.Draw.length:Int)))] []<|Y0 R ol (q:=[(0,_),(1,_),(2,_),(3,_),(4,_)]) (by exact⟨R,R,R,(.inl R),R,R,R,(.inl R),R,R,R,(.inl R),R,R,R,(.inl R),R,R,R,(.inl R),Za⟩) (cs:=[rB<|(!q),rB<|(decide<|0<(j.Attrs.length:Int)),rB<|(decide<|0<(j.Steps.length:Int)),rB<|(decide<|0<u),rB<|(decide<|0<(j.Draw.length:Int))])<|by rfl,oM (λ_=>[]) (λ_=>[]) R λw e h' n=>BB (cs:=bO) 4 R oy R R,Za⟩) λw n1=>?_
 refine BC [0,1,2,3,4,6,7,8,9,10,11,12,13,14,15,16,17,18,19,20,21,22,23,24,25,26,27,28,29,30,31,32,33,34,35,36,37,38,39,40,41,42,43,44,45,46,47,48,49] [1,3,4] ?_
 refine Zj R R (Ac (ds:=[rB<|(!q),rB<|(decide<|0<(j.Attrs.length:Int)),rB<|(decide<|0<(j.Steps.length:Int)),rB<|(decide<|0<u),rB<|(decide<|0<(j.Draw.length:Int))]) R pk iL R iL R R R R)<|aZ<|c6 _<|aS λK7 c7 a7=>aT λc8=>aG [1,4] [1,4] ?_
 refine aR<|mM R<|aZ<|c8 _<|Zf<|BJ h7 λo2 M a8 aa=>?_
 have J1:∀(u2:Unit) (i5:NN),o2=.nrm u2→K7 ⟨[(1,.ptr 1 l 0 0)],[(1,some<|.box l 76<|D9 j)],(i5 0),96⟩:=by
  intro u2 i5 e
  have h8:=a8 _ e
  refine c7 _<|aT λc9=>aU<|lF Ln AJ R R<|xQ R<|aZ<|cI R h8 (λh9=>?_) λh9=>?_
  ·refine aT λab=>aU<|lF Pq AJ R R<|xU R<|aZ<|cI R h9 (λA=>?_) λA=>?_
   ·exact zI A R id
   exact Zd<|ab _<|aU<|sQ R (fB R T9 iL fR R)<|sQ R (Fm (ds:=(BY j.New)) R El iL R R R)<|AE A λr3 ac ad=>cL (gb<|ac) R<|mA R<|aZ<|Zk<|yI ad R
  refine Zd<|c9 _<|aT λae=>aU<|lF Pq AJ R R<|AE h9 λr4 af ag=>cL (DL<|af) R<|sQ R (A3 R iL)<|aZ<|cI R ag (λB=>?_) λB=>?_
  ·exact zI B R id
  refine Zd<|ae _<|aT λah=>aU<|lF Ln AJ R R<|aZ<|Zf<|aU<|xQ R<|mA R<|aZ<|cI R B (λC=>?_) λC=>?_
  ·refine aT λai=>aG [1] [1] ?_
   exact aR<|lF Sc BE R R<|AE C λr5 aj ak=>cL (Nb<|aj) R<|mA R<|aZ<|ai _<|Zk<|yI ak R
  refine aT λal=>aG [1,77] [1] ?_
  refine aR<|xQ R<|mA R<|aZ<|al _<|cI R C (λE=>?_) λE=>?_
  ·exact aU<|lF ML EF R R<|AE E λr6 an ao=>cL (u9<|an) R<|mA R<|aZ<|Zk<|yI ao R
  refine aU<|xQ R<|mA R<|aZ<|cI R E (λF=>?_) λF=>?_
  ·exact aU<|sQ R (fB R Sv iL fR R)<|sQ R (Fm (ds:=(Dk j.Grid)) R Sx iL R R R)<|AE F λr7 aq ar=>cL (nF<|aq) R<|mA R<|aZ<|Zk<|yI ar R
  exact Zd<|ah _<|aU<|lF Tx Gx R R<|AE F λr8 av aw=>cL (cJ<|av) R<|mA R<|aZ<|Zk<|yI aw R
 refine ZC (λ(x6:Int) V=>⟨[(1,.ptr 1 l 0 0),(4,.ptr 4 (w 38) 0 0),(50,rI x6)],[(1,some<|.box l 76<|D9 j),(4,some<|.box (w 38) 158 [rB<|(!q),rB<|(decide<|0<(j.Attrs.length:Int)),rB<|(decide<|0<(j.Steps.length:Int)),rB<|(decide<|0<u),rB<|(decide<|0<(j.Draw.length:Int))])],(V 0),96⟩) (AH [n1]) M wk ?_
 intro x6 V v1 ax O
 have T:Kw j q u x6=some v1:=ax;unfold Kw at T
 refine aU<|xS R<|aZ<|aT λay=>cI R T (λI=>?_) λI=>?_
 ·refine Zd<|ay _<|aT λaz=>Zf<|aU<|mM R<|mA R<|aZ<|aU<|mM R<|AE I λx8 U b0=>sQ R (ri (l:=[(!q),(decide<|0<(j.Attrs.length:Int)),(decide<|0<(j.Steps.length:Int)),(decide<|0<u),(decide<|0<(j.Draw.length:Int))]) R nS iL R iL (λ_=>U) R)<|sQ R (nh (l:=[(!q),(decide<|0<(j.Attrs.length:Int)),(decide<|0<(j.Steps.length:Int)),(decide<|0<u),(decide<|0<(j.Draw.length:Int))]) R VX iL R R λ_=>U)<|mM R<|vM R<|vF Ln AJ R R<|vQ R (Cc R (iR R)<|iR R)<|xN R<|aZ<|cI R b0 (λJ=>?_) λJ=>?_
  ·exact zI (aa _<|xH O J) R id
  exact Zd<|az _<|aR<|AE J λx9 b1 b2=>xA R b1<|mM R<|Zi<|Zx b2 (AH [(V 0)]) wk
 exact Zn<|a7 _ _ wk<|J1 _ (AH [(V 0)])<|xH O I
theorem pN{d1 r}(h:NR d1=some r):AO prog 61 [qd d1] (rI r):=by
 unfold NR at h
 refine mF func61 ntmps61 R λU=>aU<|mA R<|aZ<|aU<|mA R<|aZ<|aS λV X q=>aU<|mM R<|xL Bw R<|mM R<|aZ<|Zf<|BA h λY j u=>?_
 have Z:∀(w:Int) (O:NN),Y=w→V ⟨[(3,rI w)],[],(O 0),19⟩:=by
  intro w O e
  have h1:=u _ e
  exact X _<|aU<|mM R<|mA R<|aZ<|Zk<|yI h1 R
 refine DH (λ(A:Int) (B:Int) l=>⟨[(0,qd d1),(3,rI A),(6,rL d1),(7,rI B)],[],(l 0),19⟩) (AH [U]) j wk ?_
 intro A B l v1 C E
 have T:Jw d1 A B=some v1:=C;unfold Jw at T
 refine aU<|xS R<|aZ<|aT λc7=>cI R T (λF=>?_) λF=>?_
 ·refine Zd<|c7 _<|aT λc8=>Zf<|aU<|mM R<|mA R<|aZ<|aR<|mM R<|mM R<|mM R<|AE F λx4 I h4=>xI Bw R I<|sQ R (A6 R EJ iL)<|xV (.int .i64 x4.N) AJ R<|AE h4 λn5 J h5=>xA R J<|mA R<|aZ<|c8 _<|aF [0,3,6,7] ?_
  exact aR<|AE h5 λx5 M h6=>xA R M<|mM R<|Zi<|ZL h6 (AH [(l 0)]) wk
 exact Zn<|q _ _ wk<|Z _ (AH [(l 0)])<|xH E F
theorem mR{d1 r}(h:QW d1=some r):AO prog 116 [qd d1] (.agg<|HU r):=by
 unfold QW at h
 refine mF func116 ntmps116 R λj=>aU<|sS R (BB (cs:=I1) 2 R Zg R R)<|aZ<|aT λc2=>aR<|sS R (Bm 7 R Jm (f:=(EE AG.row)) (l:=([[]]:List (List AG))) ⟨R,⟨_,iL,R⟩,Za⟩ R (λ_=>R) R) ?_
 refine sQ R (BM R qz (q:=[(0,_)]) (by exact⟨R,R,R,iL,Za⟩) (cs:=[.own 7<|j+1,cZ,cZ])<|by rfl) ?_
 refine sS R (BB (cs:=I1) 3 R Zg R R)<|Zj R R (Ac (ds:=[.own 7<|j+1,cZ,cZ]) R fX iL R iL R R R R)<|aZ<|c2 _<|aS λK3 c3 Z=>aU<|mM R<|xL Bw R<|mM R<|aZ<|Zf<|BA h λo1 M a0=>?_
 have J1:∀(a4:Bo) (C:NN),o1=a4→K3 ⟨[(2,.ptr 2 j 0 0),(3,.ptr 3 (j+2) 0 0)],[(2,some<|.box j 69 I1),(3,some<|.box (j+2) 69 [.own 7<|C 0,.own 54<|C 1,.own 61<|C 2]),(7,some<|.arr (C 0) 36 1<|a4.Adds.map<|EE AG.row),(54,some<|.arr (C 1) 4 1<|a4.Cuts.map En),(61,some<|.arr (C 2) 39 1<|a4.Attrs.map<|EE AC.row)],(C 3),66⟩:=by
  intro a4 C e
  have h1:=a0 _ e
  refine c3 _<|aU<|xC eC R<|Zj R R (Ac (ds:=[.own 7<|C 0,.own 54<|C 1,.own 61<|C 2]) R fX iL R iL R R R R)<|aZ ?_
  exact Zk<|DE (P:=prog) (λ(r:Bo)=>.agg<|HU r) h1 iL<|.a eC R R R<|.agg<|by exact⟨.own R,.own R,.own R,Za⟩
 refine DH (λ(J:Int) (E:Bo) l=>⟨[(0,qd d1),(2,.ptr 2 j 0 0),(3,.ptr 3 (j+2) 0 0),(10,rL d1),(11,rI J)],[(2,some<|.box j 69 I1),(3,some<|.box (j+2) 69 [.own 7<|l 0,.own 54<|l 1,.own 61<|l 2]),(7,some<|.arr (l 0) 36 1<|E.Adds.map<|EE AG.row),(54,some<|.arr (l 1) 4 1<|E.Cuts.map En),(61,some<|.arr (l 2) 39 1<|E.Attrs.map<|EE AC.row)],(l 3),66⟩) (AH [(j+1),(j+3),(j+4),(j+5)]) M (Zm (Zm (ZN 3 1 54 4 1 (by decide) R R<|by decide)<|by exact ZD (e':=[(0,qd d1),(2,.ptr 2 j 0 0),(3,.ptr 3 (j+2) 0 0),(7,.own 7<|j+1),(8,.agg [.own 7<|j+1,cZ,cZ]),(9,qd d1),(10,rL d1),(11,rI 0)]) (h':=[(2,some<|.box j 69 I1),(3,some<|.box (j+2) 69 [.own 7<|j+1,.own 54<|j+3,cZ]),(7,some<|.arr (j+1) 36 1<|[[]].map<|EE AG.row),(54,some<|.arr (j+3) 4 1<|([]:List Bool).map En)]) ⟨jL,jL,jL,jL,jL,jL,jL,jL,Za⟩ ⟨.inl R,.inl R,.inl R,.inl R,Za⟩ nL)<|Zm (Zm (ZN 3 2 61 39 1 (by decide) R R<|by decide)<|by exact ZD (e':=[(0,qd d1),(2,.ptr 2 j 0 0),(3,.ptr 3 (j+2) 0 0),(7,.own 7<|j+1),(8,.agg [.own 7<|j+1,cZ,cZ]),(9,qd d1),(10,rL d1),(11,rI 0)]) (h':=[(2,some<|.box j 69 I1),(3,some<|.box (j+2) 69 [.own 7<|j+1,.own 54<|j+3,.own 61<|j+4]),(7,some<|.arr (j+1) 36 1<|[[]].map<|EE AG.row),(54,some<|.arr (j+3) 4 1<|([]:List Bool).map En),(61,some<|.arr (j+4) 39 1<|([]:List (List AC)).map<|EE AC.row)]) ⟨jL,jL,jL,jL,jL,jL,jL,jL,Za⟩ ⟨.inl R,.inl R,.inl R,.inl R,.inl R,Za⟩ nL) wk) ?_
 intro J E l v1 a1 a6
 have h2:JU d1 J E=some v1:=a1;unfold JU at h2
 refine aU<|xS R<|aZ<|aT λc7=>cI R h2 (λh3=>?_) λh3=>?_
 ·refine Zd<|c7 _<|aS λK8 c8 O=>Zf<|BA h3 λp1 a8 aa=>?_
  have J2:∀(a5:Bo) (B:NN),p1=a5→K8 ⟨[(0,qd d1),(2,.ptr 2 j 0 0),(3,.ptr 3 (j+2) 0 0),(10,rL d1),(11,rI J)],[(2,some<|.box j 69 I1),(3,some<|.box (j+2) 69 [.own 7<|B 0,.own 54<|B 1,.own 61<|B 2]),(7,some<|.arr (B 0) 36 1<|a5.Adds.map<|EE AG.row),(54,some<|.arr (B 1) 4 1<|a5.Cuts.map En),(61,some<|.arr (B 2) 39 1<|a5.Attrs.map<|EE AC.row)],(B 3),66⟩:=by
   intro a5 B e
   have h4:=aa _ e
   exact c8 _<|aR<|AE h4 λx4 ab h5=>xA R ab<|mM R<|Zi<|ZL h5 (AH [(B 0),(B 1),(B 2),(B 3)]) wk
  refine aU<|mM R<|mA R<|aZ<|aU<|mM R<|mM R<|AE a8 λw ac h6=>xI Bw R ac<|xB ((Bt w)) Er R<|sS R (BB (cs:=EH) 5 R FM R R)<|Zj R R (Ac (ds:=(Bt w)) R FL iL R iL R R R R)<|aZ<|aT λad=>aU<|lF B9 AJ R R<|xQ R<|aZ<|cI R h6 (λh7=>?_) λh7=>?_
  ·refine aT λae=>aG [0,2,3,5,10,11] [2,3,5,7,54,61] ?_
   refine aR<|lF KW NT R R<|sQ R (Ss R Jm.slice iL R)<|AE h7 λA af h8=>sQ R (B5 R iL iL λ_=>af)<|mA R<|aZ<|ae _<|aT λag=>AE h8 λY F h9=>AE h9 λl1 ah ai=>AE ai λl2 aj ak=>?_
   refine Hd 13 [pO 25<|.ptr 3 (j+2) 0 0,pO 26<|.own 7<|l 0,pO 27<|rI A,⟨some 28,(λu=>.own 28<|u 3),some (28,(λu=>some<|.arr (u 3) 51 3<|([]:List AG).map AG.row)),[3]⟩,pO 29<|.ptr 3 (j+2) 0 0,pO 30<|.own 7<|l 0,pO 31<|rI A,pO 32<|.ptr 7 (l 0) A.toNat 0,pO 33<|qb Y,⟨some 34,(λu=>.own 28<|u 9),some (28,(λu=>some<|.arr (u 9) 51 3<|l1.map AG.row)),[9]⟩,pO 35<|.ptr 5 (l 3) 0 3,pO 36<|qb w.Elems,⟨some 37,(λu=>.own 28<|u 12),some (28,(λu=>some<|.arr (u 12) 51 3<|l2.map AG.row)),[12]⟩] BF (by kernel_rfl) (by exact⟨λ_ _ h=>⟨R,λ_ _ e=>by cases e⟩,λ_ _ h=>⟨R,λ_ _ e=>by cases e⟩,λ_ _ h=>⟨R,λ_ _ e=>by cases e⟩,λ_ _ h=>⟨by simp only[h 3 R],λ_ _ e=>by cases e;simp only[h 3 R]⟩,λ_ _ h=>⟨R,λ_ _ e=>by cases e⟩,λ_ _ h=>⟨R,λ_ _ e=>by cases e⟩,λ_ _ h=>⟨R,λ_ _ e=>by cases e⟩,λ_ _ h=>⟨R,λ_ _ e=>by cases e⟩,λ_ _ h=>⟨R,λ_ _ e=>by cases e⟩,λ_ _ h=>⟨by simp only[h 9 R],λ_ _ e=>by cases e;simp only[h 9 R]⟩,λ_ _ h=>⟨R,λ_ _ e=>by cases e⟩,λ_ _ h=>⟨R,λ_ _ e=>by cases e⟩,λ_ _ h=>⟨by simp only[h 12 R],λ_ _ e=>by cases e;simp only[h 12 R]⟩,Za⟩) R (by exact⟨oB [(3,.ptr 3 (j+2) 0 0)] [(3,some<|.box (j+2) 69 [.own 7<|l 0,.own 54<|l 1,.own 61<|l 2])]<|fB R KW (.inl R) (λ_=>R) R,oB [(25,.ptr 3 (j+2) 0 0)] [(3,some<|.box (j+2) 69 [.own 7<|l 0,.own 54<|l 1,.own 61<|l 2])]<|AU (a:=.own 7<|l 0) R NT (.inl R) R R,oB [(6,rI A)] []<|AK R<|.inl R,oM (λ_=>[]) (λ_=>[]) R λu e h' n=>Bm 28 R Ar (f:=AG.row) (l:=([]:List AG)) Za R (λ_=>R) R,oB [(3,.ptr 3 (j+2) 0 0)] [(3,some<|.box (j+2) 69 [.own 7<|l 0,.own 54<|l 1,.own 61<|l 2])]<|fB R KW (.inl R) (λ_=>R) R,oB [(29,.ptr 3 (j+2) 0 0)] [(3,some<|.box (j+2) 69 [.own 7<|l 0,.own 54<|l 1,.own 61<|l 2])]<|AU (a:=.own 7<|l 0) R NT (.inl R) R R,oB [(6,rI A)] []<|AK R<|.inl R,oB [(30,.own 7<|l 0),(31,rI A)] [(7,some<|.arr (l 0) 36 1<|E.Adds.map<|EE AG.row)]<|GB R Jm.slice (.inl R) R (.inl R) λ_=>F,oB [(32,.ptr 7 (l 0) A.toNat 0)] [(7,some<|.arr (l 0) 36 1<|E.Adds.map<|EE AG.row)]<|Ml (d:=.sl<|Y.map AG.row) R B0 (.inl R) (λ_=>R) (λ_=>F) R,oM (λu=>[(28,.own 28<|u 3),(33,qb Y)]) (λu=>[(28,some<|.arr (u 3) 51 3<|([]:List AG).map AG.row)]) R λu e h' n=>Ci R Ar (.inl R) R (.inl ⟨(.inl R),λ_=>R⟩) ah,oB [(5,.ptr 5 (l 3) 0 0)] [(5,some<|.box (l 3) 100<|Bt w)]<|fB R EO (.inl R) (λ_=>R) R,oB [(35,.ptr 5 (l 3) 0 3)] [(5,some<|.box (l 3) 100<|Bt w)]<|AU (a:=qb w.Elems) R B0 (.inl R) R R,oM (λu=>[(34,.own 28<|u 9),(36,qb w.Elems)]) (λu=>[(28,some<|.arr (u 9) 51 3<|l1.map AG.row)]) R λu e h' n=>Ci R Ar (.inl R) R (.inl ⟨(.inl R),λ_=>R⟩) aj,Za⟩) λu n1=>?_
   refine BC [0,2,3,5,6,10,11,21,22,23,24,25,26,27,29,30,31,32,33,35,36,37] [2,3,5,7,28,54,61] ?_
   refine sQ R (GB R Jm.slice iL R iL λ_=>F) ?_
   refine AM.weak (by exact Ap.frz (e':=[(0,qd d1),(2,.ptr 2 j 0 0),(3,.ptr 3 (j+2) 0 0),(5,.ptr 5 (l 3) 0 0),(6,rI A),(10,rL d1),(11,rI J),(21,.ptr 3 (j+2) 0 0),(22,.own 7<|l 0),(23,rL E.Adds),(24,rI A),(25,.ptr 3 (j+2) 0 0),(26,.own 7<|l 0),(27,rI A),(29,.ptr 3 (j+2) 0 0),(30,.own 7<|l 0),(31,rI A),(32,.ptr 7 (l 0) A.toNat 0),(33,qb Y),(35,.ptr 5 (l 3) 0 3),(36,qb w.Elems),(37,qb l2),(38,.ptr 7 (l 0) A.toNat 0)]) (h':=[(2,some<|.box j 69 I1),(3,some<|.box (j+2) 69 [.own 7<|l 0,.own 54<|l 1,.own 61<|l 2]),(5,some<|.box (l 3) 100<|Bt w),(7,some<|.arr (l 0) 36 1<|E.Adds.map<|EE AG.row),(54,some<|.arr (l 1) 4 1<|E.Cuts.map En),(61,some<|.arr (l 2) 39 1<|E.Attrs.map<|EE AC.row)]) 28 R ⟨jL,jL,jL,jL,jL,jL,jL,jL,jL,jL,jL,jL,jL,jL,jL,jL,jL,jL,jL,jL,jL,.inl<|.inr<|.inr ⟨R,R⟩,jL,Za⟩ ⟨R,.inl R,R,.inl R,R,.inl R,R,.inl R,R,.inl R,R,.inl R,Za⟩) ?_
   exact Zj R R (Tf (v:=l2) R RB iL R F iL R R R R)<|aZ<|ag _<|Zn<|O _ _ wk<|J2 _ (AH [(l 0),(l 1),(l 2),n1]) (Zb ak).symm
  refine Zd<|ad _<|aT λal=>aG [0,2,3,5,10,11] [2,3,5,7,54,61] ?_
  refine aR<|lF EJ AJ R R<|mM R<|aZ<|al _<|Zf<|BJ h7 λo2 T b3 an=>DH (λ(x8:Int) (U:Bo) q=>⟨[(0,qd d1),(2,.ptr 2 j 0 0),(3,.ptr 3 (j+2) 0 0),(5,.ptr 5 (l 3) 0 0),(10,rL d1),(11,rI J),(40,rI w.N),(41,rI x8)],[(2,some<|.box j 69 I1),(3,some<|.box (j+2) 69 [.own 7<|q 0,.own 54<|q 1,.own 61<|q 2]),(5,some<|.box (l 3) 100<|Bt w),(7,some<|.arr (q 0) 36 1<|U.Adds.map<|EE AG.row),(54,some<|.arr (q 1) 4 1<|U.Cuts.map En),(61,some<|.arr (q 2) 39 1<|U.Attrs.map<|EE AC.row)],(q 3),66⟩) (AH [(l 0),(l 1),(l 2),((l 3)+1)]) T wk ?_
  intro x8 U q v2 ao aq
  have V:Jg w x8 U=some v2:=ao;unfold Jg at V
  refine aU<|xS R<|aZ<|aT λar=>cI R V (λI=>?_) λI=>?_
  ·refine Zd<|ar _<|aT λav=>Zf<|aU<|lF KW NT R R<|sS R (Bm 45 R Jm (f:=(EE AG.row)) (l:=([[]]:List (List AG))) ⟨R,⟨_,iL,R⟩,Za⟩ R (λ_=>R) R)<|AE I λl3 aw ax=>sS R (Ci R Jm iL R (.inr<|.inl ⟨_,_,iL,R⟩) aw)<|sQ R (fB R KW iL fR R)<|Zj R R (Ac (ds:=[.own 7<|(q 3)+1,.own 54<|q 1,.own 61<|q 2]) R rY iL R iL R R R R)<|aZ<|aU<|lF XT ey R R<|lF B9 AJ R R<|xQ R<|sS R (Bm 53 R N7 (f:=En) (l:=([(decide<|w.Kind=2)]:List Bool)) ⟨R,⟨_,iL,R⟩,Za⟩ R (λ_=>R) R)<|AE ax λl4 ay az=>sS R (Ci R N7 iL R (.inr<|.inl ⟨_,_,iL,R⟩) ay)<|sQ R (fB R XT iL fR R)<|Zj R R (Ac (ds:=[.own 7<|(q 3)+1,.own 54<|(q 3)+3,.own 61<|q 2]) R jQ iL R iL R R R R)<|aZ<|aG [0,2,3,5,10,11,40,41] [2,3,5,7,54,61] ?_
   exact aR<|lF Wt gh R R<|lF Dy BE R R<|sS R (Bm 60 R YY (f:=(EE AC.row)) (l:=([w.Attrs]:List (List AC))) ⟨R,⟨_,iL,R⟩,Za⟩ R (λ_=>R) R)<|AE az λl5 b0 b1=>sS R (Ci R YY iL R (.inr<|.inl ⟨_,_,iL,R⟩) b0)<|sQ R (fB R Wt iL fR R)<|Zj R R (Ac (ds:=[.own 7<|(q 3)+1,.own 54<|(q 3)+3,.own 61<|(q 3)+5]) R kV iL R iL R R R R)<|aZ<|av _<|aR<|AE b1 λb4 X b2=>xA R X<|mM R<|Zi<|ZL b2 (AH [((q 3)+1),((q 3)+3),((q 3)+5),((q 3)+6)]) wk
  exact Zn<|O _ _ wk<|J2 _ (AH [(q 0),(q 1),(q 2),(q 3)]) (Zb<|an _<|xH aq I).symm
 exact Zn<|Z _ _ wk<|J1 _ (AH [(l 0),(l 1),(l 2),(l 3)])<|xH a6 h3
theorem te{l A r}(h:Np l A=some r):AO prog 115 [qb l,.agg<|HU A] (qb r):=by
 unfold Np at h
 refine mF func115 ntmps115 R λj=>aU<|sS R (Az (cs:=(HU A)) 3 R iL R R)<|mA R<|aZ<|aU<|mA R<|aZ<|aS λK3 c3 V=>aU<|mM R<|xL Ar R<|mM R<|aZ<|Zf<|BA h λo1 M X=>?_
 have J1:∀(q:List AG) (T:NN),o1=q→K3 ⟨[(0,qb l),(3,.ptr 3 j 0 0),(5,.own 5005<|T 0)],[(3,some<|.box j 69<|HU A),(5005,some<|.arr (T 0) 51 3<|q.map AG.row)],(T 1),52⟩:=by
  intro q T e
  have h1:=X _ e
  exact c3 _<|aU<|mM R<|lF KW NT R R<|mM R<|xL Ar R<|AE h1 λx4 Y h2=>xI Jm R Y<|xV (.sl<|x4.map AG.row) B0 R<|AE h2 λl1 Z h3=>sS R (Ci R Ar iL R (.inl ⟨iL,λ_=>R⟩) Z)<|mA R<|aZ<|Zk<|DE (P:=prog) (λ(r:(List AG))=>qb r) h3 iL<|.t<|.one<|.own R
 refine DH (λ(U:Int) (u:List AG) B=>⟨[(0,qb l),(3,.ptr 3 j 0 0),(5,.own 5005<|B 0),(9,rL l),(10,rI U)],[(3,some<|.box j 69<|HU A),(5005,some<|.arr (B 0) 51 3<|u.map AG.row)],(B 1),52⟩) (AH [(j+1),(j+2)]) M (Zm (Zm (G8 5 5005 51 3 (by decide) R)<|by exact ZD (e':=[(0,qb l),(1,.agg<|HU A),(3,.ptr 3 j 0 0),(4,cZ),(5,.own 5005<|j+1),(8,qb l),(9,rL l),(10,rI 0)]) (h':=[(3,some<|.box j 69<|HU A),(5005,some<|.arr (j+1) 51 3<|([]:List AG).map AG.row)]) ⟨jL,jL,jL,jL,jL,jL,jL,jL,Za⟩ ⟨.inl R,.inl R,Za⟩ nL) wk) ?_
 intro U u B v1 a0 a2
 have h4:KH l A U u=some v1:=a0;unfold KH at h4
 refine aU<|xS R<|aZ<|aT λc7=>cI R h4 (λh5=>?_) λh5=>?_
 ·refine Zd<|c7 _<|aS λK8 c8 O=>Zf<|BA h5 λp1 a6 a7=>?_
  have J2:∀(w:List AG) (J:NN),p1=w→K8 ⟨[(0,qb l),(3,.ptr 3 j 0 0),(5,.own 5005<|J 0),(9,rL l),(10,rI U)],[(3,some<|.box j 69<|HU A),(5005,some<|.arr (J 0) 51 3<|w.map AG.row)],(J 1),52⟩:=by
   intro w J e
   have h6:=a7 _ e
   exact c8 _<|aR<|AE h6 λx5 a8 h7=>xA R a8<|mM R<|Zi<|ZL h7 (AH [(J 0),(J 1)]) wk
  refine aU<|mM R<|mA R<|aZ<|aU<|mM R<|lF KW NT R R<|mM R<|AE a6 λx6 aa h8=>xI Jm R aa<|xV (.sl<|x6.map AG.row) B0 R<|AE h8 λan E h9=>sS R (Ci R Ar iL R (.inl ⟨iL,λ_=>R⟩) E)<|mA R<|aZ<|aU<|lF XT ey R R<|mM R<|AE h9 λx7 ab ac=>xI N7 R ab<|xV (.bool x7) VX R<|sQ R (A3 R iL)<|aZ<|cI R ac (λF=>?_) λF=>?_
  ·refine aT λad=>aG [0,3,5,6,9,10] [3,5005] ?_
   refine aR<|mM R<|mM R<|AE F λC ae af=>xI Ar R ae<|xB ((Ag C)) Cf R<|sS R (BB (cs:=Ec) 7 R EV R R)<|Zj R R (Ac (ds:=(Ag C)) R DK iL R iL R R R R)<|aZ<|ad _<|aT λag=>?_
   refine L5 7 BF (by kernel_rfl) R R ?_
   refine Zu R R R (fB R Cr iL fR R)<|Zu R R R (AU (a:=qa C.Attrs) R BE iL R R)<|Zu R R R (fB R Wt iL fR R)<|Zu R R R (AU (a:=.r<|.sl<|A.Attrs.map<|EE AC.row) R gh iL R R)<|Zu R R R (AK R iL)<|AE af λx9 ah ai=>Zu R R R (At R YY.slice iL iL (λ_=>R) λ_=>ah)<|Zu R R R (BV (d:=.sl<|x9.map AC.row) R BE iL R)<|AT.nil<|AE ai λr1 aj ak=>sS R (B4 (r:=qa r1) (caps:=[]) (bs:=[qa C.Attrs,qa x9]) R iL R ⟨.inl ⟨iL,R⟩,.inl ⟨iL,R⟩,Za⟩ λ_=>Xb<|aj)<|sQ R (fB R Cr iL fR R)<|Zj R R (Ac (ds:=[rI C.Char,rI C.Ref,qa r1]) R GZ iL R iL R R R R)<|aZ<|ag _<|aG [0,3,5,7,9,10] [3,7,5005] ?_
   exact aR<|mM R<|xC Cf R<|sS R (Bm 41 R Ar (f:=AG.row) (l:=([(AG.mk C.Char C.Ref r1)]:List AG)) ⟨R,⟨_,iL,R⟩,Za⟩ R (λ_=>R) R)<|AE ak λao I al=>sS R (Ci R Ar iL R (.inr<|.inl ⟨_,_,iL,R⟩) I)<|mA R<|Zi<|O _ _ wk<|J2 _ (AH [((B 1)+3),((B 1)+4)]) (Zb al).symm
  exact Zd<|O _ _ wk<|J2 _ (AH [(B 1),((B 1)+1)]) (Zb F).symm
 exact Zn<|V _ _ wk<|J1 _ (AH [(B 0),(B 1)])<|xH a2 h5
theorem lV{j d1 r}(h:NZ j d1=some r):AO prog 63 [qb j,qd d1] (qb r):=by
 unfold NZ at h
 exact mF func63 ntmps63 R λC=>aU<|mA R<|aZ<|aU<|mM R<|mM R<|AE h λu l w=>sS R (B4 (r:=.agg<|HU u) (caps:=[]) (bs:=[qd d1]) R iL R ⟨.inl ⟨iL,R⟩,Za⟩ λ_=>mR<|l)<|AE w λA q B=>sS R (B4 (r:=qb A) (caps:=[]) (bs:=[qb j,.agg<|HU u]) R iL R ⟨.inl ⟨iL,R⟩,.inl ⟨iL,R⟩,Za⟩ λ_=>te<|q)<|mA R<|aZ<|Zk<|DE (P:=prog) (λ(r:(List AG))=>qb r) B iL<|.t<|.d R
theorem la{d1 C n w r}(h:Kq d1 C n w=some r):AO prog 20 [.agg [qg d1.Nodes],qi C,rI n,qb w] (rB r):=by
 unfold Kq at h
 refine mF func20 ntmps20 R λn0=>aU<|sS R (Az (cs:=[qg d1.Nodes]) 4 R iL R R)<|mA R<|aZ<|aT λC2=>aU<|mM R<|xL GG R<|xU R<|mM R<|vM R<|AE h λx1 I h1=>vQ R (At R GG.slice (iR R) iL (λ_=>R)<|AP I)<|vQ R (A6 R Ln<|iR R)<|vQ R (BV (d:=.int .i64 x1.Kind) R AJ (iR R) R)<|vQ R (Cc R (iR R) iL)<|xO R<|mM R<|vM R<|AE h1 λx2 J h2=>vQ R (At R GG.slice (iR R) iL (λ_=>R)<|AP J)<|vQ R (A6 R Pq<|iR R)<|vQ R (BV (d:=.int .i64 x2.Node) R AJ (iR R) R)<|vM R<|vQ R (Cc R (iR R)<|iR R)<|xO R<|aZ<|cI R h2 (λM=>?_) λM=>?_
 ·exact zB M R id
 refine Zd<|C2 _<|aT λC5=>aG [1,2,3,4] [4] ?_
 refine ZB BF (by kernel_rfl) ?_
 refine qP R (fB R Dd iL fR R)<|qP R (AU (a:=qg d1.Nodes) R DZ iL R R)<|qP R (D5 R DT iL R R)<|qP R (AK R iL)<|AE M λr1 O h4=>FZ R R R (r:=rI r1) (caps:=[]) (bs:=[.agg [qg d1.Nodes],rI n]) R iL R ⟨⟨_,iL,.g (cs:=[.sl<|d1.Nodes.map AX.row]) R R⟩,⟨_,iL,.d R⟩,Za⟩ (λ_=>Ra<|O) R<|AE h4 λq T h5=>qP R (At R C0.slice iL iL (λ_=>R) λ_=>T)<|qP R (A6 R Em iL)<|qP R (BV (d:=.sl<|q.Flow.map AG.row) R B0 iL R)<|qP R (DU R iL)<|AQ.nil<|C5 _<|aS λK6 C6 E=>aF [1,3,9] ?_
 refine aR<|mM R<|AE h5 λl u h6=>xI GG R u<|xB ((D9 l)) ge R<|AE h6 λB U h7=>cL (uM<|U) R<|xQ R<|mM R<|vM R<|vQ R (At R GG.slice (iR R) iL (λ_=>R) λ_=>u)<|vQ R (A6 R ML<|iR R)<|vQ R (BV (d:=.sl<|l.Steps.map AI.row) R EF (iR R) R)<|AE h7 λV X h8=>vL (λhg=>pN<|AP X hg) R<|vM R<|vQ R (Bq R Ar.slice<|iR R)<|vQ R (Aw R (iR R)<|iR R)<|xN R<|mM R<|vM R<|vM R<|vQ R (At R GG.slice (iR R) iL (λ_=>R) λ_=>u)<|vQ R (A6 R ML<|iR R)<|vQ R (BV (d:=.sl<|l.Steps.map AI.row) R EF (iR R) R)<|BA h8 λp1 F Y=>?_
 have J1:∀(Z:Bool) (i1:NN),p1=Z→K6 ⟨[(8,rB Z)],[],(i1 0),61⟩:=by
  intro Z i1 e
  have h9:=Y _ e
  exact C6 _<|Zk<|yB h9 R
 refine AM.split (((B=0)&&(V=(q.Flow.length:Int)))==true) (λj=>?_) λj=>?_
 ·have A:=Bk j F
  refine AM.weak (by exact Rk (e':=[(1,qi C),(3,qb w),(9,qb q.Flow),(36,qi C),(37,.rop (Ai.row l) 0),(38,.agg<|D9 l),(39,rI B),(40,rB<|(decide<|B=0)),(41,rB<|(decide<|B=0)),(50,rB<|((B=0)&&(V=(q.Flow.length:Int)))),(51,rB<|((B=0)&&(V=(q.Flow.length:Int)))),(52,qb q.Flow),(53,qi C),(54,.rop (Ai.row l) 0),(55,.rop (Ai.row l) 12),(56,qd l.Steps)]) j ⟨.inl R,.inl R,.inl R,.inl R,.inl R,.inl R,.inl R,.inl R,.inl R,.inl R,.inl R,.inr iL,.inr iL,.inr iL,.inr iL,.inr iL,Za⟩) ?_
  exact AE A λr4 a0 a1=>IV (.one R R R) j R R (B4 (r:=qb r4) (caps:=[]) (bs:=[qb q.Flow,qd l.Steps]) R (.inl R) R ⟨.inl ⟨(.inl R),R⟩,.inl ⟨(.inl R),R⟩,Za⟩ λ_=>lV<|a0)<|IV (.one R R R) j R R (AR.spec (AK R<|.inl R) _)<|AE a1 λr5 a2 a6=>IV (.one R R R) j R R (EG (r:=rB r5) (caps:=[]) (bs:=[qb r4,qb w]) R (.inl R) R ⟨⟨_,(.inl R),.d R⟩,⟨_,(.inl R),.d R⟩,Za⟩ (λ_=>WY<|a2) R)<|sQ R (BQ R iL iL)<|mA R<|Zi<|E _ _ wk<|J1 _ (AH [(n0+1)]) (Zb a6).symm
 ·have A:=Bn j F
  exact GT (.one R R R) j R R<|GT (.one R R R) j R R<|GT (.one R R R) j R R<|xN R<|mA R<|Zi<|E _ _ wk<|J1 _ (AH [(n0+1)]) (Zb A).symm
theorem u5{d1 E b c s i j r}(h:T8 d1 E b c s i j=some r):AO prog 6 [.agg [qg d1.Nodes],.agg<|Ab E,rI b,rI c,rI s,qa i,rS j] (rB r):=by
 unfold T8 at h
 refine mF func6 ntmps6 R λw=>aU<|sS R (Az (cs:=[qg d1.Nodes]) 7 R iL R R)<|sS R (Az (cs:=(Ab E)) 8 R iL R R)<|mA R<|aZ<|aT λC2=>aU<|AE h λr1 bl h1=>cL (ng<|bl) R<|sQ R (A3 R iL)<|aZ<|cI R h1 (λh2=>?_) λh2=>?_
 ·exact zB h2 R id
 refine Zd<|C2 _<|aU<|xC DT R<|AE h2 λg1 bm h3=>cL (gM<|bm) R<|mA R<|mA R<|aZ<|aS λK6 C6 b0=>aU<|mM R<|xQ R<|aZ<|Ks h3 λp1 b1 bn=>?_
 have J1:∀(l:Int) (g2:Int) (i1:NN),p1=(l,g2)→K6 ⟨[(2,rI b),(3,rI c),(4,rI s),(5,qa i),(6,rS j),(7,.ptr 7 w 0 0),(8,.ptr 8 (w+1) 0 0),(15,rI l),(16,rI g2)],[(7,some<|.box w 24 [qg d1.Nodes]),(8,some<|.box (w+1) 26<|Ab E)],(i1 0),209⟩:=by
  intro l g2 i1 e
  have h4:=bn _ _ e
  refine C6 _<|aS λK8 C8 bo=>aU<|mM R<|aZ<|Zf<|BJ h4 λo1 b2 bp b3=>?_
  have J2:∀(u2:Unit) (i6:NN),o1=.nrm u2→K8 ⟨[],[],(i6 0),209⟩:=by
   intro u2 i6 e
   have h5:=bp _ e
   exact C8 _<|zB h5 R id
  refine ZC (λ(T:Int) A=>⟨[(2,rI b),(3,rI c),(4,rI s),(5,qa i),(6,rS j),(7,.ptr 7 w 0 0),(8,.ptr 8 (w+1) 0 0),(15,rI l),(16,rI g2),(37,rI T)],[(7,some<|.box w 24 [qg d1.Nodes]),(8,some<|.box (w+1) 26<|Ab E)],(A 0),209⟩) (AH [(i1 0)]) b2 wk ?_
  intro T A v1 bq ab
  have h6:GE d1 E b c s i j l g2 T=some v1:=bq;unfold GE at h6
  refine aU<|xS R<|aZ<|aT λbr=>cI R h6 (λh7=>?_) λh7=>?_
  ·refine Zd<|br _<|aS λbs bt a6=>Zf<|BJ h7 λp2 bu bv b4=>?_
   have J3:∀(u3:Unit) (i7:NN),p2=.nrm u3→bs ⟨[(2,rI b),(3,rI c),(4,rI s),(5,qa i),(6,rS j),(7,.ptr 7 w 0 0),(8,.ptr 8 (w+1) 0 0),(15,rI l),(16,rI g2),(37,rI T)],[(7,some<|.box w 24 [qg d1.Nodes]),(8,some<|.box (w+1) 26<|Ab E)],(i7 0),209⟩:=by
    intro u3 i7 e
    have h8:=bv _ e
    exact bt _<|aR<|AE h8 λx4 bw h9=>xA R bw<|mM R<|Zi<|Zx h9 (AH [(i7 0)]) wk
   refine aU<|mM R<|mA R<|aZ<|aU<|mA R<|aZ<|aU<|sS R (BB (cs:=[rI 0,rI 0,rI 0]) 19 R Lf R R)<|aZ<|aU<|mA R<|mA R<|aZ<|aT λbx=>aR<|mM R ?_
   refine sQ R (BM R Qx (q:=[(0,_)]) (by exact⟨R,R,R,iL,Za⟩) (cs:=[rI l,rI 0,cZ,cZ,rI 0,rI 0,cZ,cZ,cZ])<|by rfl) ?_
   refine sS R (BB (cs:=I5) 22 R O2 R R)<|Zj R R (Ac (ds:=[rI l,rI 0,cZ,cZ,rI 0,rI 0,cZ,cZ,cZ]) R QH iL R iL R R R R)<|aZ<|bx _<|aS λbz c0 U=>aU<|mM R<|aZ<|Zf<|l7 bu λp3 b5 c2=>?_
   have J4:∀(u:List Ai) (q:Int) (f1:Int) (C:Am) (I:AX) (i8:NN),p3=(u,q,f1,C,I)→bz ⟨[(2,rI b),(3,rI c),(4,rI s),(5,qa i),(6,rS j),(7,.ptr 7 w 0 0),(8,.ptr 8 (w+1) 0 0),(15,rI l),(16,rI g2),(18,qi u),(19,.ptr 19 (A 0) 0 0),(20,rI q),(21,rI f1),(22,.ptr 22 ((A 0)+1) 0 0),(37,rI T)],[(7,some<|.box w 24 [qg d1.Nodes]),(8,some<|.box (w+1) 26<|Ab E),(19,some<|.box (A 0) 26<|Ab C),(22,some<|.box ((A 0)+1) 46 [rI I.ID,rI I.Kind,qa I.Attrs,.own 55<|i8 0,rI I.Grid.Rows,rI I.Grid.Cols,cZ,cZ,cZ]),(55,some<|.arr (i8 0) 51 3<|I.Flow.map AG.row)],(i8 1),209⟩:=by
    intro u q f1 C I i8 e
    have c3:=c2 _ _ _ _ _ e
    refine c0 _<|aS λc4 c5 a7=>aU<|mM R<|xQ R<|aZ<|BA c3 λp4 b6 c6=>?_
    have J5:∀(f2:Int) (i9:NN),p4=f2→c4 ⟨[(2,rI b),(3,rI c),(4,rI s),(5,qa i),(6,rS j),(7,.ptr 7 w 0 0),(8,.ptr 8 (w+1) 0 0),(15,rI l),(16,rI g2),(18,qi u),(19,.ptr 19 (A 0) 0 0),(20,rI q),(21,rI f2),(22,.ptr 22 ((A 0)+1) 0 0),(37,rI T)],[(7,some<|.box w 24 [qg d1.Nodes]),(8,some<|.box (w+1) 26<|Ab E),(19,some<|.box (A 0) 26<|Ab C),(22,some<|.box ((A 0)+1) 46 [rI I.ID,rI I.Kind,qa I.Attrs,.own 55<|i8 0,rI I.Grid.Rows,rI I.Grid.Cols,cZ,cZ,cZ]),(55,some<|.arr (i8 0) 51 3<|I.Flow.map AG.row)],(i9 0),209⟩:=by
     intro f2 i9 e
     have c7:=c6 _ e
     refine c5 _<|aS λc8 c9 a8=>aT λca=>?_
     refine ZB BF (by kernel_rfl) ?_
     refine qP R (AK R iL)<|qP R (Aw R iL iL)<|qP R (AK R iL)<|qO R (fB R Dd iL fR R)<|qO R (AU (a:=qg d1.Nodes) R DZ (iR R) R R)<|qO R (D5 R DT iL R R)<|qO R (fB R Lz iL fR R)<|qO R (AU (a:=rI E.Node) R AJ (iR R) R R)<|AE c7 λr2 cb cc=>He (.one R R R) R R (r:=rI r2) (caps:=[]) (bs:=[.agg [qg d1.Nodes],rI E.Node]) R iL R ⟨⟨_,(iR R),.g (cs:=[.sl<|d1.Nodes.map AX.row]) R R⟩,⟨_,(iR R),.d R⟩,Za⟩ (λhg=>Ra<|AP cb hg) R<|AE cc λx5 cd cf=>qO R (At R C0.slice (iR R) (iR R) (λ_=>R)<|AP cd)<|qO R (A6 R CR<|iR R)<|qO R (BV (d:=.int .i64 x5.Kind) R AJ (iR R) R)<|qO R (fB R CR iL fR R)<|qO R (AU (a:=rI I.Kind) R AJ (iR R) R R)<|AE cf λr3 cg ch=>He (.one R R R) R R (r:=rB r3) (caps:=[]) (bs:=[rI x5.Kind,rI I.Kind]) R iL R ⟨⟨_,(iR R),.d R⟩,⟨_,(iR R),.d R⟩,Za⟩ (λhg=>fE<|AP cg hg) R<|qO R (A3 R<|iR R)<|qP R (BQ R iL<|iR R)<|AQ.nil<|ca _<|BA ch λp5 b7 cj=>?_
     have J6:∀(f3:Int) (Z:NN),p5=f3→c8 ⟨[(2,rI b),(3,rI c),(4,rI s),(5,qa i),(6,rS j),(7,.ptr 7 w 0 0),(8,.ptr 8 (w+1) 0 0),(15,rI l),(16,rI g2),(18,qi u),(19,.ptr 19 (A 0) 0 0),(20,rI q),(21,rI f3),(22,.ptr 22 ((A 0)+1) 0 0),(37,rI T)],[(7,some<|.box w 24 [qg d1.Nodes]),(8,some<|.box (w+1) 26<|Ab E),(19,some<|.box (A 0) 26<|Ab C),(22,some<|.box ((A 0)+1) 46 [rI I.ID,rI I.Kind,qa I.Attrs,.own 55<|i8 0,rI I.Grid.Rows,rI I.Grid.Cols,cZ,cZ,cZ]),(55,some<|.arr (i8 0) 51 3<|I.Flow.map AG.row)],(Z 0),209⟩:=by
      intro f3 Z e
      have ck:=cj _ e
      refine c9 _<|aS λcl cm aa=>aU<|mM R<|xQ R<|aZ<|BA ck λp6 b8 cn=>?_
      have J7:∀(f4:Int) (ac:NN),p6=f4→cl ⟨[(2,rI b),(3,rI c),(4,rI s),(5,qa i),(6,rS j),(7,.ptr 7 w 0 0),(8,.ptr 8 (w+1) 0 0),(15,rI l),(16,rI g2),(18,qi u),(19,.ptr 19 (A 0) 0 0),(20,rI q),(21,rI f4),(22,.ptr 22 ((A 0)+1) 0 0),(37,rI T)],[(7,some<|.box w 24 [qg d1.Nodes]),(8,some<|.box (w+1) 26<|Ab E),(19,some<|.box (A 0) 26<|Ab C),(22,some<|.box ((A 0)+1) 46 [rI I.ID,rI I.Kind,qa I.Attrs,.own 55<|i8 0,rI I.Grid.Rows,rI I.Grid.Cols,cZ,cZ,cZ]),(55,some<|.arr (i8 0) 51 3<|I.Flow.map AG.row)],(ac 0),209⟩:=by
       intro f4 ac e
       have cp:=cn _ e
       refine cm _<|aT λcq=>aU<|mM R<|xU R<|aZ<|cI R cp (λad=>?_) λad=>?_
       ·refine aT λcr=>aT λcs=>aR<|mM R<|mM R<|xU R<|mM R<|vM R<|vQ R (Bq R GG.slice<|iR R)<|vQ R (Cc R (iR R) iL)<|xO R<|mM R<|vQ R (D5 R DN iL R R) ?_
        refine vQ R (BM R HL (q:=[]) (by exact Za) (cs:=[rI 0,rI 0,rI 0])<|by rfl) ?_
        refine vQ R (KN R rq (iR R) (iR R) R)<|xO R<|aZ<|cs _<|cI R ad (λae=>?_) λae=>?_
        ·refine aT λct=>aF [] ?_
         exact aR<|mA R<|aZ<|ct _<|Zk<|yB (b3 _<|ab _ (Zb<|b4 _ (Zb ae).symm).symm) R
        exact Zd<|cr _<|Zn<|a6 _ _ wk<|J3 _ (AH [(ac 0)]) (Zb ae).symm
       refine Zd<|cq _<|aT λcu=>AE ad λr4 cv cw=>AE cw λO cx cy=>?_
       refine Hd 9 [pO 149<|.ptr 7 w 0 0,pO 150<|qg d1.Nodes,pO 151<|.agg [qg d1.Nodes],pO 152<|.ptr 8 (w+1) 0 0,pO 153<|rI E.Node,pO 154<|rI r4,pO 155<|.rop (AX.row O) 0,pO 156<|.agg<|BY O,⟨some 23,(λM=>.ptr 23 (M 8) 0 0),some (23,(λM=>some<|.box (M 8) 46 I5)),[8]⟩] BF (by kernel_rfl) (by exact⟨λ_ _ h=>⟨R,λ_ _ e=>by cases e⟩,λ_ _ h=>⟨R,λ_ _ e=>by cases e⟩,λ_ _ h=>⟨R,λ_ _ e=>by cases e⟩,λ_ _ h=>⟨R,λ_ _ e=>by cases e⟩,λ_ _ h=>⟨R,λ_ _ e=>by cases e⟩,λ_ _ h=>⟨R,λ_ _ e=>by cases e⟩,λ_ _ h=>⟨R,λ_ _ e=>by cases e⟩,λ_ _ h=>⟨R,λ_ _ e=>by cases e⟩,λ_ _ h=>⟨by simp only[h 8 R],λ_ _ e=>by cases e;simp only[h 8 R]⟩,Za⟩) R (by exact⟨oB [(7,.ptr 7 w 0 0)] [(7,some<|.box w 24 [qg d1.Nodes])]<|fB R Dd (.inl R) (λ_=>R) R,oB [(149,.ptr 7 w 0 0)] [(7,some<|.box w 24 [qg d1.Nodes])]<|AU (a:=qg d1.Nodes) R DZ (.inl R) R R,oB [(7,.ptr 7 w 0 0)] [(7,some<|.box w 24 [qg d1.Nodes])]<|D5 R DT (.inl R) R R,oB [(8,.ptr 8 (w+1) 0 0)] [(8,some<|.box (w+1) 26<|Ab E)]<|fB R Lz (.inl R) (λ_=>R) R,oB [(152,.ptr 8 (w+1) 0 0)] [(8,some<|.box (w+1) 26<|Ab E)]<|AU (a:=rI E.Node) R AJ (.inl R) R R,oD (λ_=>[(151,.agg [qg d1.Nodes]),(153,rI E.Node)]) (λ_=>[]) λM e h' n=>EG (r:=rI r4) (caps:=[]) (bs:=[.agg [qg d1.Nodes],rI E.Node]) R (.inl R) R ⟨⟨_,(.inl R),.g (cs:=[.sl<|d1.Nodes.map AX.row]) R R⟩,⟨_,(.inl R),.d R⟩,Za⟩ (λ_=>Ra<|cv) R,oB [(150,qg d1.Nodes),(154,rI r4)] []<|At R C0.slice (.inl R) (.inl R) (λ_=>R) λ_=>cx,oB [(155,.rop (AX.row O) 0)] []<|CV (cs:=(BY O)) R El (.inl R) R R,oM (λ_=>[]) (λ_=>[]) R λM e h' n=>BB (cs:=I5) 23 R O2 R R,Za⟩) λM n2=>?_
       refine BC [2,3,4,5,6,7,8,15,16,18,19,20,21,22,23,37,134,135,149,150,151,152,153,154,155,156] [7,8,19,22,23,55] ?_
       refine Zj R R (Ac (ds:=(BY O)) R QH iL R iL R R R R)<|aZ<|cu _<|aT λcz=>aG [2,3,4,5,6,7,8,15,16,18,19,20,22,23,37] [7,8,19,22,23,55] ?_
       refine AE cy λr5 d0 d2=>AE d2 λY d3 d4=>?_
       refine rP 7 [pO 157<|rI l,pO 158<|.ptr 23 (M 8) 0 3,pO 159<|qb O.Flow,pO 160<|qb r5,pO 161<|.ptr 8 (w+1) 0 1,pO 162<|rI E.From,pO 163<|qa Y] BF R (by exact⟨oB [(15,rI l)] []<|AK R<|.inl R,oB [(23,.ptr 23 (M 8) 0 0)] [(23,some<|.box (M 8) 46<|BY O)]<|fB R Em (.inl R) (λ_=>R) R,oB [(158,.ptr 23 (M 8) 0 3)] [(23,some<|.box (M 8) 46<|BY O)]<|AU (a:=qb O.Flow) R B0 (.inl R) R R,oD (λ_=>[(159,qb O.Flow)]) (λ_=>[]) λG2 e h' n=>B4 (r:=qb r5) (caps:=[]) (bs:=[qb O.Flow]) R (.inl R) R ⟨.inl ⟨(.inl R),R⟩,Za⟩ λ_=>uF<|d0,oB [(8,.ptr 8 (w+1) 0 0)] [(8,some<|.box (w+1) 26<|Ab E)]<|fB R GW (.inl R) (λ_=>R) R,oB [(161,.ptr 8 (w+1) 0 1)] [(8,some<|.box (w+1) 26<|Ab E)]<|AU (a:=rI E.From) R AJ (.inl R) R R,oD (λ_=>[(160,qb r5),(162,rI E.From)]) (λ_=>[]) λG2 e h' n=>B4 (r:=qa Y) (caps:=[]) (bs:=[qb r5,rI E.From]) R (.inl R) R ⟨.inl ⟨(.inl R),R⟩,.inl ⟨(.inl R),R⟩,Za⟩ λ_=>mY<|d3,Za⟩) λG2 n3=>?_
       refine BC [2,3,4,5,6,7,8,15,16,18,19,20,22,23,37,157,158,159,160,161,162,163] [7,8,19,22,23,55] ?_
       refine sQ R (BM R JJ (q:=[(1,_),(2,_)]) (by exact⟨R,R,R,iL,R,R,R,iL,Za⟩) (cs:=[rI 0,rI l,qa Y])<|by rfl) ?_
       refine sS R (Bm 165 R Ar (f:=AG.row) (l:=([(AG.mk 0 l Y)]:List AG)) ⟨R,⟨_,iL,R⟩,Za⟩ R (λ_=>R) R)<|mA R<|aZ<|cz _<|aT λd5=>aG [2,3,4,5,6,7,8,15,16,18,19,20,22,23,24,37] [7,8,19,22,23,55,165] ?_
       refine AW.weak (by exact Ap.frz (e':=[(2,rI b),(3,rI c),(4,rI s),(5,qa i),(6,rS j),(7,.ptr 7 w 0 0),(8,.ptr 8 (w+1) 0 0),(15,rI l),(16,rI g2),(18,qi u),(19,.ptr 19 (A 0) 0 0),(20,rI q),(22,.ptr 22 ((A 0)+1) 0 0),(23,.ptr 23 (M 8) 0 0),(24,.own 165 n3),(37,rI T)]) (h':=[(7,some<|.box w 24 [qg d1.Nodes]),(8,some<|.box (w+1) 26<|Ab E),(19,some<|.box (A 0) 26<|Ab C),(22,some<|.box ((A 0)+1) 46<|Oy I),(23,some<|.box (M 8) 46<|BY O),(165,some<|.arr n3 51 3<|[(AG.mk 0 l Y)].map AG.row)]) 55 R ⟨jL,jL,jL,jL,jL,jL,jL,jL,jL,jL,jL,jL,jL,jL,jL,jL,Za⟩ ⟨R,.inl R,R,.inl R,R,.inl R,R,.inr<|.inr<|.inl ⟨_,_,_,_,R,R,⟨.inl R,.inl R,.inl R,.inr<|.inr ⟨R,R⟩,.inl R,.inl R,.inl R,.inl R,.inl R,Za⟩⟩,R,.inl R,R,.inl R,Za⟩) ?_
       refine AW.weak (by exact Ap.frz (e':=[(2,rI b),(3,rI c),(4,rI s),(5,qa i),(6,rS j),(7,.ptr 7 w 0 0),(8,.ptr 8 (w+1) 0 0),(15,rI l),(16,rI g2),(18,qi u),(19,.ptr 19 (A 0) 0 0),(20,rI q),(22,.ptr 22 ((A 0)+1) 0 0),(23,.ptr 23 (M 8) 0 0),(24,.r<|.sl<|[(AG.mk 0 l Y)].map AG.row),(37,rI T)]) (h':=[(7,some<|.box w 24 [qg d1.Nodes]),(8,some<|.box (w+1) 26<|Ab E),(19,some<|.box (A 0) 26<|Ab C),(22,some<|.box ((A 0)+1) 46<|Oy I),(23,some<|.box (M 8) 46<|BY O)]) 165 R ⟨jL,jL,jL,jL,jL,jL,jL,jL,jL,jL,jL,jL,jL,jL,.inl<|.inr<|.inr ⟨R,R⟩,jL,Za⟩ ⟨R,.inl R,R,.inl R,R,.inl R,R,.inl R,R,.inl R,Za⟩) ?_
       refine AE d4 λJ d6 d7=>AE d7 λB d8 d9=>AE d9 λF da db=>AE db λl1 dc dd=>AE dd λr8 de df=>?_
       refine rP 39 [pO 166<|rI q,pO 167<|rB<|(!(q=0)),pO 168<|rB<|(!(q=0)),pO 169<|.whn ((!(q=0))==false)<|qi u,pO 170<|.whn ((!(q=0))==false)<|rL u,pO 171<|.whn ((!(q=0))==false)<|rB<|(!((u.length:Int)=2)),pO 172<|rB<|((!(q=0))||(!((u.length:Int)=2))),pO 173<|rB<|((!(q=0))||(!((u.length:Int)=2))),pO 174<|.whn (((!(q=0))||(!((u.length:Int)=2)))==false)<|qi u,pO 175<|.whn (((!(q=0))||(!((u.length:Int)=2)))==false)<|.rop (Ai.row J) 0,pO 176<|.whn (((!(q=0))||(!((u.length:Int)=2)))==false)<|.agg<|D9 J,pO 177<|.whn (((!(q=0))||(!((u.length:Int)=2)))==false)<|.agg<|Oy I,pO 178<|.whn (((!(q=0))||(!((u.length:Int)=2)))==false)<|.agg<|YC I,pO 179<|.whn (((!(q=0))||(!((u.length:Int)=2)))==false)<|rB B,pO 180<|.whn (((!(q=0))||(!((u.length:Int)=2)))==false)<|rB<|(!B),pO 181<|rB<|(((!(q=0))||(!((u.length:Int)=2)))||(!B)),pO 182<|rB<|(((!(q=0))||(!((u.length:Int)=2)))||(!B)),pO 183<|.whn ((((!(q=0))||(!((u.length:Int)=2)))||(!B))==false)<|.ptr 19 (A 0) 0 1,pO 184<|.whn ((((!(q=0))||(!((u.length:Int)=2)))||(!B))==false)<|rI C.From,pO 185<|.whn ((((!(q=0))||(!((u.length:Int)=2)))||(!B))==false)<|.ptr 8 (w+1) 0 1,pO 186<|.whn ((((!(q=0))||(!((u.length:Int)=2)))||(!B))==false)<|rI E.From,pO 187<|.whn ((((!(q=0))||(!((u.length:Int)=2)))||(!B))==false)<|rI F,pO 188<|.whn ((((!(q=0))||(!((u.length:Int)=2)))||(!B))==false)<|rB<|(!(C.From=F)),pO 189<|rB<|((((!(q=0))||(!((u.length:Int)=2)))||(!B))||(!(C.From=F))),pO 190<|rB<|((((!(q=0))||(!((u.length:Int)=2)))||(!B))||(!(C.From=F))),pO 191<|.whn (((((!(q=0))||(!((u.length:Int)=2)))||(!B))||(!(C.From=F)))==false)<|.agg [qg d1.Nodes],pO 192<|.whn (((((!(q=0))||(!((u.length:Int)=2)))||(!B))||(!(C.From=F)))==false)<|qi u,pO 193<|.whn (((((!(q=0))||(!((u.length:Int)=2)))||(!B))||(!(C.From=F)))==false)<|qi l1,pO 194<|.whn (((((!(q=0))||(!((u.length:Int)=2)))||(!B))||(!(C.From=F)))==false)<|.ptr 8 (w+1) 0 0,pO 195<|.whn (((((!(q=0))||(!((u.length:Int)=2)))||(!B))||(!(C.From=F)))==false)<|rI E.Node,pO 196<|.whn (((((!(q=0))||(!((u.length:Int)=2)))||(!B))||(!(C.From=F)))==false)<|.ptr 23 (M 8) 0 3,pO 197<|.whn (((((!(q=0))||(!((u.length:Int)=2)))||(!B))||(!(C.From=F)))==false)<|qb O.Flow,pO 198<|.whn (((((!(q=0))||(!((u.length:Int)=2)))||(!B))||(!(C.From=F)))==false)<|.ptr 8 (w+1) 0 1,pO 199<|.whn (((((!(q=0))||(!((u.length:Int)=2)))||(!B))||(!(C.From=F)))==false)<|rI E.From,pO 200<|.whn (((((!(q=0))||(!((u.length:Int)=2)))||(!B))||(!(C.From=F)))==false)<|.ptr 8 (w+1) 0 2,pO 201<|.whn (((((!(q=0))||(!((u.length:Int)=2)))||(!B))||(!(C.From=F)))==false)<|rI E.To,pO 202<|.whn (((((!(q=0))||(!((u.length:Int)=2)))||(!B))||(!(C.From=F)))==false)<|.r<|.sl<|[(AG.mk 0 l Y)].map AG.row,pO 203<|.whn (((((!(q=0))||(!((u.length:Int)=2)))||(!B))||(!(C.From=F)))==false)<|rS j,pO 204<|.whn (((((!(q=0))||(!((u.length:Int)=2)))||(!B))||(!(C.From=F)))==false)<|qb r8] BF R (by exact⟨oB [(20,rI q)] []<|AK R<|.inl R,oB [(166,rI q)] []<|Cc R (.inl R)<|.inl R,oB [(167,rB<|(!(q=0)))] []<|AK R<|.inl R,oG [(18,qi u),(168,rB<|(!(q=0)))] [] (λ_ _=>R)<|AK R<|.inl R,oG [(168,rB<|(!(q=0))),(169,.whn ((!(q=0))==false)<|qi u)] [] (λ_ _=>R)<|Bq R GG.slice<|.inr ⟨_,(by exact id),R⟩,oG [(168,rB<|(!(q=0))),(170,.whn ((!(q=0))==false)<|rL u)] [] (λ_ _=>R)<|Cc R (.inr ⟨_,(by exact id),R⟩)<|.inl R,oB [(168,rB<|(!(q=0))),(171,.whn ((!(q=0))==false)<|rB<|(!((u.length:Int)=2)))] []<|CB R (.inl R)<|.inr ⟨_,(by exact id),R⟩,oB [(172,rB<|((!(q=0))||(!((u.length:Int)=2))))] []<|AK R<|.inl R,oG [(18,qi u),(173,rB<|((!(q=0))||(!((u.length:Int)=2))))] [] (λ_ _=>R)<|AK R<|.inl R,oG [(173,rB<|((!(q=0))||(!((u.length:Int)=2)))),(174,.whn (((!(q=0))||(!((u.length:Int)=2)))==false)<|qi u)] [] (λ_ _=>R)<|At R GG.slice (.inr ⟨_,(by exact id),R⟩) (.inl R) (λ_=>R)<|AP d6,oG [(173,rB<|((!(q=0))||(!((u.length:Int)=2)))),(175,.whn (((!(q=0))||(!((u.length:Int)=2)))==false)<|.rop (Ai.row J) 0)] [] (λ_ _=>R)<|CV (cs:=(D9 J)) R ge (.inr ⟨_,(by exact id),R⟩) R R,oG [(22,.ptr 22 ((A 0)+1) 0 0),(173,rB<|((!(q=0))||(!((u.length:Int)=2))))] [(22,some<|.box ((A 0)+1) 46<|Oy I)] (λ_ _=>R)<|D5 R El (.inl R) R R,oG [(173,rB<|((!(q=0))||(!((u.length:Int)=2)))),(177,.whn (((!(q=0))||(!((u.length:Int)=2)))==false)<|.agg<|Oy I)] [] (λ_ _=>R)<|BM R YI (q:=[(0,_),(2,_)]) (by exact⟨R,R,R,(.inl R),R,R,R,(.inr ⟨_,(by exact id),R⟩),Za⟩) (cs:=(YC I))<|by rfl,oH (λ_=>[(173,rB<|((!(q=0))||(!((u.length:Int)=2)))),(176,.whn (((!(q=0))||(!((u.length:Int)=2)))==false)<|.agg<|D9 J),(178,.whn (((!(q=0))||(!((u.length:Int)=2)))==false)<|.agg<|YC I)]) (λ_=>[]) (λ_ _=>R) λG3 e h' n=>EG (r:=rB B) (caps:=[]) (bs:=[.agg<|D9 J,.agg [rI 0,rI 0,rI I.ID,rI I.Kind,qa I.Attrs,qb I.Flow,rI I.Grid.Rows,rI I.Grid.Cols,.r<|.sl [],.r<|.sl [],.r<|.sl [],.r<|.sl [],.r<|.sl [],.r<|.sl [],.r<|.sl [],.r<|.sl [],.r<|.sl [],.r<|.sl [],.r<|.sl []]]) R (.inl R) R ⟨⟨_,(.inr ⟨_,(by exact id),R⟩),.g (cs:=[.int .i64 J.Kind,.int .i64 J.Node,.int .i64 J.New.ID,.int .i64 J.New.Kind,.sl<|J.New.Attrs.map AC.row,.sl<|J.New.Flow.map AG.row,.int .i64 J.New.Grid.Rows,.int .i64 J.New.Grid.Cols,.sl<|J.New.Grid.Cells.map A0.row,.sl<|J.New.Grid.Merges.map Ax.row,.sl<|J.New.Draw.map BS.row,.sl<|J.Attrs.map AC.row,.sl<|J.Steps.map AI.row,.sl<|J.Grid.Rows.map Db.row,.sl<|J.Grid.Cols.map Db.row,.sl<|J.Grid.Cells.map A0.row,.sl<|J.Grid.Split.map Ax.row,.sl<|J.Grid.Merge.map Ax.row,.sl<|J.Draw.map BS.row]) R R⟩,⟨_,(.inr ⟨_,(by exact id),R⟩),.agg<|by exact⟨.closed _ R,.closed _ R,.closed _ R,.closed _ R,.closed _ R,.closed _ R,.closed _ R,.closed _ R,.nil,.nil,.nil,.nil,.nil,.nil,.nil,.nil,.nil,.nil,.nil,Za⟩⟩,Za⟩ (λhg=>o7<|AP d8 hg) R,oG [(173,rB<|((!(q=0))||(!((u.length:Int)=2)))),(179,.whn (((!(q=0))||(!((u.length:Int)=2)))==false)<|rB B)] [] (λ_ _=>R)<|A3 R<|.inr ⟨_,(by exact id),R⟩,oB [(173,rB<|((!(q=0))||(!((u.length:Int)=2)))),(180,.whn (((!(q=0))||(!((u.length:Int)=2)))==false)<|rB<|(!B))] []<|CB R (.inl R)<|.inr ⟨_,(by exact id),R⟩,oB [(181,rB<|(((!(q=0))||(!((u.length:Int)=2)))||(!B)))] []<|AK R<|.inl R,oG [(19,.ptr 19 (A 0) 0 0),(182,rB<|(((!(q=0))||(!((u.length:Int)=2)))||(!B)))] [(19,some<|.box (A 0) 26<|Ab C)] (λ_ _=>R)<|fB R GW (.inl R) (λ_=>R) R,oG [(182,rB<|(((!(q=0))||(!((u.length:Int)=2)))||(!B))),(183,.whn ((((!(q=0))||(!((u.length:Int)=2)))||(!B))==false)<|.ptr 19 (A 0) 0 1)] [(19,some<|.box (A 0) 26<|Ab C)] (λ_ _=>R)<|AU (a:=rI C.From) R AJ (.inr ⟨_,(by exact id),R⟩) R R,oG [(8,.ptr 8 (w+1) 0 0),(182,rB<|(((!(q=0))||(!((u.length:Int)=2)))||(!B)))] [(8,some<|.box (w+1) 26<|Ab E)] (λ_ _=>R)<|fB R GW (.inl R) (λ_=>R) R,oG [(182,rB<|(((!(q=0))||(!((u.length:Int)=2)))||(!B))),(185,.whn ((((!(q=0))||(!((u.length:Int)=2)))||(!B))==false)<|.ptr 8 (w+1) 0 1)] [(8,some<|.box (w+1) 26<|Ab E)] (λ_ _=>R)<|AU (a:=rI E.From) R AJ (.inr ⟨_,(by exact id),R⟩) R R,oG [(182,rB<|(((!(q=0))||(!((u.length:Int)=2)))||(!B))),(186,.whn ((((!(q=0))||(!((u.length:Int)=2)))||(!B))==false)<|rI E.From)] [] (λ_ _=>R)<|Gj R (.inr ⟨_,(by exact id),R⟩) (.inl R)<|AP da,oG [(182,rB<|(((!(q=0))||(!((u.length:Int)=2)))||(!B))),(184,.whn ((((!(q=0))||(!((u.length:Int)=2)))||(!B))==false)<|rI C.From),(187,.whn ((((!(q=0))||(!((u.length:Int)=2)))||(!B))==false)<|rI F)] [] (λ_ _=>R)<|Cc R (.inr ⟨_,(by exact id),R⟩)<|.inr ⟨_,(by exact id),R⟩,oB [(182,rB<|(((!(q=0))||(!((u.length:Int)=2)))||(!B))),(188,.whn ((((!(q=0))||(!((u.length:Int)=2)))||(!B))==false)<|rB<|(!(C.From=F)))] []<|CB R (.inl R)<|.inr ⟨_,(by exact id),R⟩,oB [(189,rB<|((((!(q=0))||(!((u.length:Int)=2)))||(!B))||(!(C.From=F))))] []<|AK R<|.inl R,oG [(7,.ptr 7 w 0 0),(190,rB<|((((!(q=0))||(!((u.length:Int)=2)))||(!B))||(!(C.From=F))))] [(7,some<|.box w 24 [qg d1.Nodes])] (λ_ _=>R)<|D5 R DT (.inl R) R R,oG [(18,qi u),(190,rB<|((((!(q=0))||(!((u.length:Int)=2)))||(!B))||(!(C.From=F))))] [] (λ_ _=>R)<|AK R<|.inl R,oG [(190,rB<|((((!(q=0))||(!((u.length:Int)=2)))||(!B))||(!(C.From=F)))),(192,.whn (((((!(q=0))||(!((u.length:Int)=2)))||(!B))||(!(C.From=F)))==false)<|qi u)] [] (λ_ _=>R)<|Qr R GG.slice (.inr ⟨_,(by exact id),R⟩) (by exact⟨_,(.inl R)⟩) (by exact R) (λ_=>R)<|AP dc,oG [(8,.ptr 8 (w+1) 0 0),(190,rB<|((((!(q=0))||(!((u.length:Int)=2)))||(!B))||(!(C.From=F))))] [(8,some<|.box (w+1) 26<|Ab E)] (λ_ _=>R)<|fB R Lz (.inl R) (λ_=>R) R,oG [(190,rB<|((((!(q=0))||(!((u.length:Int)=2)))||(!B))||(!(C.From=F)))),(194,.whn (((((!(q=0))||(!((u.length:Int)=2)))||(!B))||(!(C.From=F)))==false)<|.ptr 8 (w+1) 0 0)] [(8,some<|.box (w+1) 26<|Ab E)] (λ_ _=>R)<|AU (a:=rI E.Node) R AJ (.inr ⟨_,(by exact id),R⟩) R R,oG [(23,.ptr 23 (M 8) 0 0),(190,rB<|((((!(q=0))||(!((u.length:Int)=2)))||(!B))||(!(C.From=F))))] [(23,some<|.box (M 8) 46<|BY O)] (λ_ _=>R)<|fB R Em (.inl R) (λ_=>R) R,oG [(190,rB<|((((!(q=0))||(!((u.length:Int)=2)))||(!B))||(!(C.From=F)))),(196,.whn (((((!(q=0))||(!((u.length:Int)=2)))||(!B))||(!(C.From=F)))==false)<|.ptr 23 (M 8) 0 3)] [(23,some<|.box (M 8) 46<|BY O)] (λ_ _=>R)<|AU (a:=qb O.Flow) R B0 (.inr ⟨_,(by exact id),R⟩) R R,oG [(8,.ptr 8 (w+1) 0 0),(190,rB<|((((!(q=0))||(!((u.length:Int)=2)))||(!B))||(!(C.From=F))))] [(8,some<|.box (w+1) 26<|Ab E)] (λ_ _=>R)<|fB R GW (.inl R) (λ_=>R) R,oG [(190,rB<|((((!(q=0))||(!((u.length:Int)=2)))||(!B))||(!(C.From=F)))),(198,.whn (((((!(q=0))||(!((u.length:Int)=2)))||(!B))||(!(C.From=F)))==false)<|.ptr 8 (w+1) 0 1)] [(8,some<|.box (w+1) 26<|Ab E)] (λ_ _=>R)<|AU (a:=rI E.From) R AJ (.inr ⟨_,(by exact id),R⟩) R R,oG [(8,.ptr 8 (w+1) 0 0),(190,rB<|((((!(q=0))||(!((u.length:Int)=2)))||(!B))||(!(C.From=F))))] [(8,some<|.box (w+1) 26<|Ab E)] (λ_ _=>R)<|fB R L7 (.inl R) (λ_=>R) R,oG [(190,rB<|((((!(q=0))||(!((u.length:Int)=2)))||(!B))||(!(C.From=F)))),(200,.whn (((((!(q=0))||(!((u.length:Int)=2)))||(!B))||(!(C.From=F)))==false)<|.ptr 8 (w+1) 0 2)] [(8,some<|.box (w+1) 26<|Ab E)] (λ_ _=>R)<|AU (a:=rI E.To) R AJ (.inr ⟨_,(by exact id),R⟩) R R,oG [(24,.r<|.sl<|[(AG.mk 0 l Y)].map AG.row),(190,rB<|((((!(q=0))||(!((u.length:Int)=2)))||(!B))||(!(C.From=F))))] [] (λ_ _=>R)<|AK R<|.inl R,oG [(6,rS j),(190,rB<|((((!(q=0))||(!((u.length:Int)=2)))||(!B))||(!(C.From=F))))] [] (λ_ _=>R)<|AK R<|.inl R,oH (λ_=>[(190,rB<|((((!(q=0))||(!((u.length:Int)=2)))||(!B))||(!(C.From=F)))),(197,.whn (((((!(q=0))||(!((u.length:Int)=2)))||(!B))||(!(C.From=F)))==false)<|qb O.Flow),(199,.whn (((((!(q=0))||(!((u.length:Int)=2)))||(!B))||(!(C.From=F)))==false)<|rI E.From),(201,.whn (((((!(q=0))||(!((u.length:Int)=2)))||(!B))||(!(C.From=F)))==false)<|rI E.To),(202,.whn (((((!(q=0))||(!((u.length:Int)=2)))||(!B))||(!(C.From=F)))==false)<|.r<|.sl<|[(AG.mk 0 l Y)].map AG.row),(203,.whn (((((!(q=0))||(!((u.length:Int)=2)))||(!B))||(!(C.From=F)))==false)<|rS j)]) (λ_=>[]) (λ_ _=>R) λG3 e h' n=>B4 (r:=qb r8) (caps:=[]) (bs:=[qb O.Flow,rI E.From,rI E.To,.r<|.sl<|[(AG.mk 0 l Y)].map AG.row,rS j]) R (.inl R) R ⟨.inl ⟨(.inr ⟨_,(by exact id),R⟩),R⟩,.inl ⟨(.inr ⟨_,(by exact id),R⟩),R⟩,.inl ⟨(.inr ⟨_,(by exact id),R⟩),R⟩,.inl ⟨(.inr ⟨_,(by exact id),R⟩),R⟩,.inl ⟨(.inr ⟨_,(by exact id),R⟩),R⟩,Za⟩ λhg=>sF<|AP de hg,Za⟩) λG3 n4=>?_
       refine BC [2,3,4,5,6,7,8,15,16,18,19,20,22,23,24,37,166,167,168,169,170,171,172,173,174,175,176,177,178,179,180,181,182,183,184,185,186,187,188,189,190,191,192,193,194,195,196,197,198,199,200,201,202,203,204] [7,8,19,22,23] ?_
       refine AE df λr9 dg dh=>vL (λhg=>la<|AP dg hg) R<|vQ R (A3 R<|iR R)<|xO R<|aZ<|d5 _<|cI R dh (λaf=>?_) λaf=>?_
       ·refine aT λdi=>aF [] ?_
        exact aR<|mA R<|aZ<|di _<|Zk<|yB (b3 _<|ab _ (Zb<|b4 _ (Zb af).symm).symm) R
       exact Zd<|a6 _ _ wk<|J3 _ (AH [n4]) (Zb af).symm
      refine aC R (λag=>?_) λag=>?_
      ·have ah:=Bk ag b8
       exact aR<|mM R<|mA R<|Zi<|aa _ _ wk<|J7 _ (AH [(Z 0)]) (Zb ah).symm
      ·have ah:=Bn ag b8
       exact Zd<|aa _ _ wk<|J7 _ (AH [(Z 0)]) (Zb ah).symm
     refine aC R (λai=>?_) λai=>?_
     ·have aj:=Bk ai b7
      exact aR<|mA R<|Zi<|a8 _ _ wk<|J6 _ (AH [(i9 0)]) (Zb aj).symm
     ·have aj:=Bn ai b7
      exact Zd<|a8 _ _ wk<|J6 _ (AH [(i9 0)]) (Zb aj).symm
    refine aC R (λak=>?_) λak=>?_
    ·have al:=Bk ak b6
     exact aR<|xC DT R<|xC DN R<|mM R<|AE al λf5 dj dk=>cL (nz<|dj) R<|mA R<|Zi<|a7 _ _ wk<|J5 _ (AH [(i8 1)]) (Zb dk).symm
    ·have al:=Bn ak b6
     exact Zd<|a7 _ _ wk<|J5 _ (AH [(i8 1)]) (Zb al).symm
   refine aU<|xQ R<|mA R<|aZ<|aC R (λan=>?_) λan=>?_
   ·have ao:=Bk an b5
    refine aT λdm=>aG [2,3,4,5,6,7,8,15,16,19,21,22,37] [7,8,19,22] ?_
    refine aR<|xC DT R<|xC DN R<|mM R<|mM R<|mM R<|mM R<|Gl ao λaq a0 ar b9 dn=>sS R (B4 (r:=.tup [qi aq,.agg<|Ab a0,rI ar]) (caps:=[]) (bs:=[.agg [qg d1.Nodes],.agg<|Ab E,rI b,rI c,rI s,rS j]) R iL R ⟨.inl ⟨iL,R⟩,.inl ⟨iL,R⟩,.inl ⟨iL,R⟩,.inl ⟨iL,R⟩,.inl ⟨iL,R⟩,.inl ⟨iL,R⟩,Za⟩ λ_=>lD<|b9)<|mM R<|xX R<|xX R<|xX R<|mA R<|Zj R R (Ac (ds:=(Ab a0)) R Eo iL R iL R R R R)<|mA R<|aZ<|dm _<|aT λdp=>aG [2,3,4,5,6,7,8,15,16,18,19,20,21,22,37] [7,8,19,22] ?_
    refine aR<|mM R<|mM R ?_
    refine sQ R (BM R X9 (q:=[(0,_),(1,_)]) (by exact⟨R,R,R,iL,R,R,R,iL,Za⟩) (cs:=[rI b,rI c,cZ,cZ])<|by rfl) ?_
    refine sQ R (fB R CR iL fR R)<|Zj R R (Ac (ds:=[rI l,rI 2,cZ,cZ,rI 0,rI 0,cZ,cZ,cZ]) R Fa iL R iL R R R R)<|sQ R (fB R GA iL fR R)<|Zj R R (Ac (ds:=[rI l,rI 2,cZ,cZ,rI b,rI c,cZ,cZ,cZ]) R qm iL R iL R R R R)<|aZ<|dp _<|aU<|mM R<|AE dn λa1 ba dq=>cL (DL<|ba) R<|sQ R (A3 R iL)<|mM R<|vM R<|AE dq λdr bb ds=>vL (λhg=>DL<|AP bb hg) R<|vQ R (A3 R<|iR R)<|xO R<|aZ<|cI R ds (λav=>?_) λav=>?_
    ·refine aG [2,3,4,5,6,7,8,15,16,18,19,20,22,37] [7,8,19,22] ?_
     refine aR<|mA R<|Zi ?_
     exact U _ _ (Zm (Zm (ZN 22 3 55 51 3 (by decide) R R<|by decide)<|by exact ZD (e':=[(2,rI b),(3,rI c),(4,rI s),(5,qa i),(6,rS j),(7,.ptr 7 w 0 0),(8,.ptr 8 (w+1) 0 0),(15,rI l),(16,rI g2),(18,qi aq),(19,.ptr 19 (A 0) 0 0),(20,rI ar),(21,rI 2),(22,.ptr 22 ((A 0)+1) 0 0),(37,rI T)]) (h':=[(7,some<|.box w 24 [qg d1.Nodes]),(8,some<|.box (w+1) 26<|Ab E),(19,some<|.box (A 0) 26<|Ab a0),(22,some<|.box ((A 0)+1) 46 [rI l,rI 2,cZ,.own 55<|(A 0)+2,rI b,rI c,cZ,cZ,cZ]),(55,some<|.arr ((A 0)+2) 51 3<|([]:List AG).map AG.row)]) ⟨jL,jL,jL,jL,jL,jL,jL,jL,jL,jL,jL,jL,jL,jL,jL,Za⟩ ⟨.inl R,.inl R,.inl R,.inl R,.inl R,Za⟩ nL)<|by exact ZD ⟨jL,jL,jL,jL,jL,jL,jL,jL,jL,jL,jL,jL,jL,jL,jL,Za⟩ ⟨.inl R,.inl R,.inl R,.inr<|.inr ⟨_,_,_,_,R,R,⟨.inl R,.inl R,.inr<|.inr ⟨R,R⟩,.inl R,.inl R,.inl R,.inl R,.inl R,.inl R,Za⟩⟩,.inl R,Za⟩ nL)<|J4 _ _ _ _ _ (AH [((A 0)+2),((A 0)+3)]) (Zb av).symm
    refine Zd ?_
    exact U _ _ (Zm (Zm (ZN 22 3 55 51 3 (by decide) R R<|by decide)<|by exact ZD (e':=[(2,rI b),(3,rI c),(4,rI s),(5,qa i),(6,rS j),(7,.ptr 7 w 0 0),(8,.ptr 8 (w+1) 0 0),(15,rI l),(16,rI g2),(18,qi aq),(19,.ptr 19 (A 0) 0 0),(20,rI ar),(21,rI 0),(22,.ptr 22 ((A 0)+1) 0 0),(37,rI T),(78,rI b),(79,rI c),(80,.agg [rI b,rI c,cZ,cZ]),(81,.ptr 22 ((A 0)+1) 0 1),(82,.ptr 22 ((A 0)+1) 0 4),(83,rI b),(84,rB a1),(85,rB<|(!a1)),(86,rB<|(!a1)),(90,rB<|((!a1)||(!dr)))]) (h':=[(7,some<|.box w 24 [qg d1.Nodes]),(8,some<|.box (w+1) 26<|Ab E),(19,some<|.box (A 0) 26<|Ab a0),(22,some<|.box ((A 0)+1) 46 [rI l,rI 2,cZ,.own 55<|(A 0)+2,rI b,rI c,cZ,cZ,cZ]),(55,some<|.arr ((A 0)+2) 51 3<|([]:List AG).map AG.row)]) ⟨jL,jL,jL,jL,jL,jL,jL,jL,jL,jL,jL,jL,jL,jL,jL,jL,jL,jL,jL,jL,jL,jL,jL,jL,jL,Za⟩ ⟨.inl R,.inl R,.inl R,.inl R,.inl R,Za⟩ nL)<|by exact ZD ⟨jL,jL,jL,jL,jL,jL,jL,jL,jL,jL,jL,jL,jL,jL,jL,Za⟩ ⟨.inl R,.inl R,.inl R,.inr<|.inr ⟨_,_,_,_,R,R,⟨.inl R,.inl R,.inr<|.inr ⟨R,R⟩,.inl R,.inl R,.inl R,.inl R,.inl R,.inl R,Za⟩⟩,.inl R,Za⟩ nL)<|J4 _ _ _ _ _ (AH [((A 0)+2),((A 0)+3)]) (Zb av).symm
   ·have ao:=Bn an b5
    refine aU<|xQ R<|mA R<|aZ<|cI R ao (λaw=>?_) λaw=>?_
    ·refine aT λdt=>aG [2,3,4,5,6,7,8,15,16,19,22,37] [7,8,19,22] ?_
     refine aR<|xC DT R<|xC DN R<|mM R<|mM R<|mM R<|Gl aw λbc ax bd be du=>sS R (B4 (r:=.tup [qi bc,.agg<|Ab ax,rI bd]) (caps:=[]) (bs:=[.agg [qg d1.Nodes],.agg<|Ab E,qa i,rI s,rS j]) R iL R ⟨.inl ⟨iL,R⟩,.inl ⟨iL,R⟩,.inl ⟨iL,R⟩,.inl ⟨iL,R⟩,.inl ⟨iL,R⟩,Za⟩ λ_=>rG<|be)<|mM R<|xX R<|xX R<|xX R<|mA R<|Zj R R (Ac (ds:=(Ab ax)) R Eo iL R iL R R R R)<|mA R<|aZ<|dt _<|aT λdv=>aG [2,3,4,5,6,7,8,15,16,18,19,20,22,37] [7,8,19,22] ?_
     refine aR<|mM R<|sQ R (fB R CR iL fR R)<|Zj R R (Ac (ds:=[rI l,rI 5,cZ,cZ,rI 0,rI 0,cZ,cZ,cZ]) R Fa iL R iL R R R R)<|sQ R (fB R NX iL fR R)<|Zj R R (Ac (ds:=[rI l,rI 5,qa i,cZ,rI 0,rI 0,cZ,cZ,cZ]) R GZ iL R iL R R R R)<|aZ<|dv _<|aR<|mM R<|AE du λf6 dw dx=>cL (Nb<|dw) R<|mA R<|Zi ?_
     exact U _ _ (Zm (Zm (ZN 22 3 55 51 3 (by decide) R R<|by decide)<|by exact ZD (e':=[(2,rI b),(3,rI c),(4,rI s),(5,qa i),(6,rS j),(7,.ptr 7 w 0 0),(8,.ptr 8 (w+1) 0 0),(15,rI l),(16,rI g2),(18,qi bc),(19,.ptr 19 (A 0) 0 0),(20,rI bd),(21,rI f6),(22,.ptr 22 ((A 0)+1) 0 0),(37,rI T),(103,qa i),(104,.ptr 22 ((A 0)+1) 0 1),(105,.ptr 22 ((A 0)+1) 0 2),(106,qa i),(107,rI f6)]) (h':=[(7,some<|.box w 24 [qg d1.Nodes]),(8,some<|.box (w+1) 26<|Ab E),(19,some<|.box (A 0) 26<|Ab ax),(22,some<|.box ((A 0)+1) 46 [rI l,rI 5,qa i,.own 55<|(A 0)+2,rI 0,rI 0,cZ,cZ,cZ]),(55,some<|.arr ((A 0)+2) 51 3<|([]:List AG).map AG.row)]) ⟨jL,jL,jL,jL,jL,jL,jL,jL,jL,jL,jL,jL,jL,jL,jL,jL,jL,jL,jL,jL,Za⟩ ⟨.inl R,.inl R,.inl R,.inl R,.inl R,Za⟩ nL) wk)<|J4 _ _ _ _ _ (AH [((A 0)+2),((A 0)+3)]) (Zb dx).symm
    refine aT λdy=>aG [2,3,4,5,6,7,8,15,16,17,19,21,22,37] [7,8,19,22] ?_
    refine aR<|xC DT R<|xC DN R<|mM R<|xQ R<|mM R<|mM R<|Gl aw λbf ay bg bh dz=>sS R (B4 (r:=.tup [qi bf,.agg<|Ab ay,rI bg]) (caps:=[]) (bs:=[.agg [qg d1.Nodes],.agg<|Ab E,rB<|(decide<|T=2),rI s,rS j]) R iL R ⟨.inl ⟨iL,R⟩,.inl ⟨iL,R⟩,.inl ⟨iL,R⟩,.inl ⟨iL,R⟩,.inl ⟨iL,R⟩,Za⟩ λ_=>re<|bh)<|mM R<|xX R<|xX R<|xX R<|mA R<|Zj R R (Ac (ds:=(Ab ay)) R Eo iL R iL R R R R)<|mA R<|aZ<|dy _<|aT λe0=>aG [2,3,4,5,6,7,8,15,16,17,18,19,20,21,22,37] [7,8,19,22] ?_
    refine aR<|AE dz λa2 bi e2=>sS R (B4 (r:=.agg<|Ag a2) (caps:=[]) (bs:=[]) R iL R Za λ_=>jS<|bi)<|sS R (Bm 55 R Ar (f:=AG.row) (l:=([a2]:List AG)) ⟨R,⟨_,iL,R⟩,Za⟩ R (λ_=>R) R)<|sQ R (fB R CR iL fR R)<|Zj R R (Ac (ds:=[rI l,rI 4,cZ,cZ,rI 0,rI 0,cZ,cZ,cZ]) R Fa iL R iL R R R R)<|sQ R (fB R Em iL fR R)<|Zj R R (Ac (ds:=[rI l,rI 4,cZ,.own 55<|(A 0)+2,rI 0,rI 0,cZ,cZ,cZ]) R RB iL R iL R R R R)<|aZ<|e0 _<|aR ?_
    refine sQ R (Y0 R rm (q:=[(0,_),(1,_)]) (by exact⟨R,R,R,iL,R,R,R,iL,Za⟩) (cs:=[.r<|.str [102,111,111,116],.r<|.str [101,110,100]])<|by rfl) ?_
    refine mM R<|AE e2 λx9 e3 e4=>sQ R (B5 R iL iL λ_=>e3)<|AE e4 λV bj e5=>sQ R (uU (f:=λa=>rS a) (l:=[[102,111,111,116],[101,110,100]]) R je (.inl R) (.inl R) R λ_=>bj) ?_
    refine sQ R (BM R Fo (q:=[(0,_),(1,_)]) (by exact⟨R,R,R,iL,R,R,R,iL,Za⟩) (cs:=[.r<|.str [107,105,110,100],rS V])<|by rfl) ?_
    refine sS R (Bm 63 R Af (f:=AC.row) (l:=([(AC.mk [107,105,110,100] V)]:List AC)) ⟨R,⟨_,iL,R⟩,Za⟩ R (λ_=>R) R)<|sQ R (fB R NX iL fR R)<|Zj R R (Ac (ds:=[rI l,rI 4,.own 63<|(A 0)+3,.own 55<|(A 0)+2,rI 0,rI 0,cZ,cZ,cZ]) R GZ iL R iL R R R R)<|Zi ?_
    exact U _ _ (Zm (by exact Ap.frz (e':=[(2,rI b),(3,rI c),(4,rI s),(5,qa i),(6,rS j),(7,.ptr 7 w 0 0),(8,.ptr 8 (w+1) 0 0),(15,rI l),(16,rI g2),(17,rI T),(18,qi bf),(19,.ptr 19 (A 0) 0 0),(20,rI bg),(21,rI 0),(22,.ptr 22 ((A 0)+1) 0 0),(37,rI T),(54,.agg<|Ag a2),(55,.own 55<|(A 0)+2),(56,.ptr 22 ((A 0)+1) 0 1),(57,.ptr 22 ((A 0)+1) 0 3),(58,.agg [.r<|.str [102,111,111,116],.r<|.str [101,110,100]]),(59,rI T),(60,rI x9),(61,rS V),(62,.agg [.r<|.str [107,105,110,100],rS V]),(63,.r<|.sl<|[(AC.mk [107,105,110,100] V)].map AC.row),(64,.ptr 22 ((A 0)+1) 0 2)]) (h':=[(7,some<|.box w 24 [qg d1.Nodes]),(8,some<|.box (w+1) 26<|Ab E),(19,some<|.box (A 0) 26<|Ab ay),(22,some<|.box ((A 0)+1) 46 [rI l,rI 4,.r<|.sl<|[(AC.mk [107,105,110,100] V)].map AC.row,.own 55<|(A 0)+2,rI 0,rI 0,cZ,cZ,cZ]),(55,some<|.arr ((A 0)+2) 51 3<|[a2].map AG.row)]) 63 R ⟨jL,jL,jL,jL,jL,jL,jL,jL,jL,jL,jL,jL,jL,jL,jL,jL,jL,jL,jL,jL,jL,jL,jL,jL,jL,.inl<|.inr<|.inr ⟨R,R⟩,jL,Za⟩ ⟨R,.inl R,R,.inl R,R,.inl R,R,.inr<|.inr<|.inl ⟨_,_,_,_,R,R,⟨.inl R,.inl R,.inr<|.inr ⟨R,R⟩,.inl R,.inl R,.inl R,.inl R,.inl R,.inl R,Za⟩⟩,R,.inl R,Za⟩) wk)<|J4 _ _ _ _ _ (AH [((A 0)+2),((A 0)+4)]) (Zb e5).symm
  exact Zn<|bo _ _ wk<|J2 _ (AH [(A 0)])<|xH ab h7
 refine aC R (λX=>?_) λX=>?_
 ·have az:=Bk X b1
  refine aG [2,3,4,5,6,7,8] [7,8] ?_
  exact aR<|xC DT R<|mM R<|D2 az λe7 e8 bk e6=>cL (gx<|bk) R<|mM R<|xX R<|xX R<|mA R<|mA R<|Zi<|b0 _ _ wk<|J1 _ _ (AH [(w+2)]) (Zb e6).symm
 ·have az:=Bn X b1
  exact Zd<|b0 _ _ wk<|J1 _ _ (AH [(w+2)]) (Zb az).symm



end Go.Proofs.YtdafahjmopdleaaGreatDoor.Al
