/- Walks, as printed. -/
import Derived.Test.YtmogkkigacadpaaGreatDoorWlk242
import Derived.Test.YtmogkkigacadpaaGreatDoorProg
set_option linter.all false
set_option maxHeartbeats 4000000
set_option maxRecDepth 20000
set_option linter.unusedVariables false
namespace Go.Proofs.YtmogkkigacadpaaGreatDoor.Al
open Go.Proofs Go.Proofs.Tryz
set_option linter.defProp false
theorem Vd{B w r}(h:JV B w=some r):AX prog 152 [qb B,.agg<|B3 w] (qb r):=by
 unfold JV at h
 refine mF func152 ntmps152 R λA=>aU<|sS R (A4 (cs:=(B3 w)) 3 R iL R R)<|mA R<|aZ<|aU<|mA R<|aZ<|aU<|mA R<|aZ<|aS λK4 c4 ae=>aU<|mM R<|xL A8 R<|mM R<|aZ<|Ze<|GU h λo1 a8 af=>?_
 have J1:∀(j:Bool) (C:List AG) (T:NN),o1=(j,C)→K4 ⟨[(3,.ptr 3 A 0 0),(5,.own 5005<|T 0),(6,rB j)],[(3,some<|.box A 123<|B3 w),(5005,some<|.arr (T 0) 123 2<|C.map AG.row)],(T 1),52⟩:=by
  intro j C T e
  have h1:=af _ _ e
  refine c4 _<|aS λK6 c6 aa=>aU<|mM R<|sQ R (A6 R iL)<|aZ<|BP h1 λp1 ab ag=>?_
  have J2:∀(E:List AG) (i6:NN),p1=E→K6 ⟨[(5,.own 5005<|i6 0)],[(5005,some<|.arr (i6 0) 123 2<|E.map AG.row)],(i6 1),52⟩:=by
   intro E i6 e
   have h2:=ag _ e
   exact c6 _<|aU<|mM R<|mA R<|aZ<|Zi<|Cf (P:=prog) (λ(r:(List AG))=>qb r) h2 iL<|.t<|.one<|.own R
  refine aC R (λX=>?_) λX=>?_
  ·have h3:=Dz X ab
   exact aR<|mM R<|xC D5 R<|sS R (Bu 49 R A8 (f:=AG.row) (l:=([w]:List AG)) ⟨R,⟨_,iL,R⟩,Za⟩ R (λ_=>R) R)<|AE h3 λb4 Z h4=>sS R (DL R A8 iL R (.inr<|.inl ⟨_,_,iL,R⟩) Z)<|mA R<|Zh<|aa _ _ wk<|J2 _ (AH [((T 1)+1),((T 1)+2)]) (Zf h4).symm
  ·have h3:=D6 X ab
   exact Zc<|aa _ _ wk<|J2 _ (AH [(T 0),(T 1)]) (Zf h3).symm
 refine Hy (λ(l:Bool) (x2:Int) (F:List AG) M=>⟨[(0,qb B),(3,.ptr 3 A 0 0),(5,.own 5005<|M 0),(6,rB l),(9,rL B),(10,rI x2)],[(3,some<|.box A 123<|B3 w),(5005,some<|.arr (M 0) 123 2<|F.map AG.row)],(M 1),52⟩) (AH [(A+1),(A+2)]) a8 (Zx (Zx (G0 5 5005 123 2 (by decide) R)<|by exact Am.cv (e':=[(0,qb B),(1,.agg<|B3 w),(3,.ptr 3 A 0 0),(4,cZ),(5,.own 5005<|A+1),(6,rB false),(8,qb B),(9,rL B),(10,rI 0)]) (h':=[(3,some<|.box A 123<|B3 w),(5005,some<|.arr (A+1) 123 2<|([]:List AG).map AG.row)]) ⟨jL,jL,jL,jL,jL,jL,jL,jL,jL,Za⟩ ⟨.inl R,.inl R,Za⟩ nL) wk) ?_
 intro l x2 F M v1 ah ai
 have h5:NB B w l x2 F=some v1:=ah;unfold NB at h5
 refine aU<|xS R<|aZ<|aT λaj=>cI R h5 (λh6=>?_) λh6=>?_
 ·refine Zc<|aj _<|aS λak al U=>Ze<|GU h6 λp2 an ao=>?_
  have J3:∀(m:Bool) (I:List AG) (i7:NN),p2=(m,I)→ak ⟨[(0,qb B),(3,.ptr 3 A 0 0),(5,.own 5005<|i7 0),(6,rB m),(9,rL B),(10,rI x2)],[(3,some<|.box A 123<|B3 w),(5005,some<|.arr (i7 0) 123 2<|I.map AG.row)],(i7 1),52⟩:=by
   intro m I i7 e
   have h7:=ao _ _ e
   exact al _<|aR<|AE h7 λx4 aq h8=>xA R aq<|mM R<|Zh<|E9.mk h8 (AH [(i7 0),(i7 1)]) wk
  refine aU<|mM R<|mA R<|aZ<|aS λar au V=>aT λav=>?_
  refine ZA BY (by kernel_rfl) ?_
  refine qP R (AN R iL)<|qP R (A6 R iL)<|qP R (AN R iL)<|qO R (AN R iL)<|qO R (AN R iL)<|AE an λx5 aw h9=>qO R (BA R A8.slice (iR R) (iR R) (λ_=>R)<|Ae aw)<|qO R (BJ R EN<|iR R)<|qO R (Bs (d:=.str x5.Name) R BB (iR R) R)<|qO R (fB R EN iL fR R)<|qO R (Ab (a:=rS w.Name) R BB (iR R) R R)<|qO R (Tw R (iR R)<|iR R)<|qP R (Bb R iL<|iR R)<|AQ.nil<|av _<|GU h9 λp3 ac ax=>?_
  have J4:∀(q:Bool) (J:List AG) (i8:NN),p3=(q,J)→ar ⟨[(0,qb B),(3,.ptr 3 A 0 0),(5,.own 5005<|i8 0),(6,rB q),(7,rI x2),(9,rL B),(10,rI x2)],[(3,some<|.box A 123<|B3 w),(5005,some<|.arr (i8 0) 123 2<|J.map AG.row)],(i8 1),52⟩:=by
   intro q J i8 e
   have ay:=ax _ _ e
   refine au _<|aT λaz=>?_
   refine ZA BY (by kernel_rfl) ?_
   refine qP R (AN R iL)<|qP R (AN R iL)<|AE ay λx6 ad b0=>qP R (BA R A8.slice iL iL (λ_=>R) λ_=>ad)<|qP R (BJ R EN iL)<|qP R (Bs (d:=.str x6.Name) R BB iL R)<|qP R (fB R EN iL fR R)<|qP R (Ab (a:=rS w.Name) R BB iL R R)<|qP R (D2 R iL iL)<|AQ.nil<|az _<|cI R b0 (λa0=>?_) λa0=>?_
   ·exact aR<|mM R<|mM R<|mM R<|xI A8 R ad<|xB ((B3 x6)) D5 R<|sS R (Bu 42 R A8 (f:=AG.row) (l:=([x6]:List AG)) ⟨R,⟨_,iL,R⟩,Za⟩ R (λ_=>R) R)<|AE a0 λb5 a2 b1=>sS R (DL R A8 iL R (.inr<|.inl ⟨_,_,iL,R⟩) a2)<|mA R<|Zh<|U _ _ wk<|J3 _ _ (AH [((i8 1)+1),((i8 1)+2)]) (Zf b1).symm
   exact Zc<|U _ _ wk<|J3 _ _ (AH [(i8 0),(i8 1)]) (Zf a0).symm
  refine aC R (λa6=>?_) λa6=>?_
  ·have a7:=Dz a6 ac
   refine aU<|mM R<|xC D5 R<|sS R (Bu 27 R A8 (f:=AG.row) (l:=([w]:List AG)) ⟨R,⟨_,iL,R⟩,Za⟩ R (λ_=>R) R)<|AE a7 λb2 O b3=>sS R (DL R A8 iL R (.inr<|.inl ⟨_,_,iL,R⟩) O)<|mA R<|aZ<|aG [0,3,5,7,9,10] [3,5005] ?_
   exact aR<|mA R<|Zh<|V _ _ wk<|J4 _ _ (AH [((M 1)+1),((M 1)+2)]) (Zf b3).symm
  ·have a7:=D6 a6 ac
   exact Zc<|V _ _ wk<|J4 _ _ (AH [(M 0),(M 1)]) (Zf a7).symm
 exact Zm<|ae _ _ wk<|J1 _ _ (AH [(M 0),(M 1)])<|xH ai h6
theorem ZQ{l1 c r}(h:Kd l1 c=some r):AX prog 127 [qb l1,qb c] (qb r):=by
 unfold Kd at h
 refine mF func127 ntmps127 R λn0=>aU<|mA R<|aZ<|aU<|mA R<|aZ<|aS λK3 c3 ah=>aU<|mM R<|xL A8 R<|mM R<|aZ<|Ze<|BP h λo1 a0 ai=>?_
 have J1:∀(E:List AG) (i5:NN),o1=E→K3 ⟨[(1,qb c),(5,qb E)],[],(i5 0),54⟩:=by
  intro E i5 e
  have h1:=ai _ e
  refine c3 _<|aS λK5 c5 aj=>aU<|mM R<|xL A8 R<|mM R<|aZ<|Ze<|BP h1 λo2 a1 ak=>?_
  have J2:∀(j:List AG) (C:NN),o2=j→K5 ⟨[(5,qb j)],[],(C 0),54⟩:=by
   intro j C e
   have h2:=ak _ e
   refine c5 _<|aU<|mA R<|aZ<|aS λK8 c8 al=>aU<|mM R<|xL A8 R<|mM R<|aZ<|Ze<|BP h2 λo3 a2 an=>?_
   have J3:∀(m:List AG) (F:NN),o3=m→K8 ⟨[(8,.own 5008<|F 0)],[(5008,some<|.arr (F 0) 123 2<|m.map AG.row)],(F 1),54⟩:=by
    intro m F e
    have h3:=an _ e
    exact c8 _<|aU<|mM R<|mA R<|aZ<|Zi<|Cf (P:=prog) (λ(r:(List AG))=>qb r) h3 iL<|.t<|.one<|.own R
   refine CX (λ(x8:Int) (q:List AG) l=>⟨[(5,qb j),(8,.own 5008<|l 0),(35,rL j),(36,rI x8)],[(5008,some<|.arr (l 0) 123 2<|q.map AG.row)],(l 1),54⟩) (AH [(C 0),((C 0)+1)]) a2 (Zx (Zx (G0 8 5008 123 2 (by decide) R)<|by exact Am.cv (e':=[(5,qb j),(8,.own 5008<|C 0),(34,qb j),(35,rL j),(36,rI 0)]) (h':=[(5008,some<|.arr (C 0) 123 2<|([]:List AG).map AG.row)]) ⟨jL,jL,jL,jL,jL,Za⟩ ⟨.inl R,Za⟩ nL) wk) ?_
   intro x8 q l v1 ao aq
   have h4:N9 j x8 q=some v1:=ao;unfold N9 at h4
   refine aU<|xS R<|aZ<|aT λar=>cI R h4 (λh5=>?_) λh5=>?_
   ·refine Zc<|ar _<|aS λau av M=>Ze<|BP h5 λp1 aw ax=>?_
    have J4:∀(w:List AG) (i16:NN),p1=w→au ⟨[(5,qb j),(8,.own 5008<|i16 0),(35,rL j),(36,rI x8)],[(5008,some<|.arr (i16 0) 123 2<|w.map AG.row)],(i16 1),54⟩:=by
     intro w i16 e
     have h6:=ax _ e
     exact av _<|aR<|AE h6 λbe a6 h7=>xA R a6<|mM R<|Zh<|ZF h7 (AH [(i16 0),(i16 1)]) wk
    refine aU<|mM R<|mA R<|aZ<|aU<|mM R<|mM R<|AE aw λT O h8=>xI A8 R O<|sQ R (BJ R II iL)<|xV (.str T.Value) BB R<|sQ R (D2 R iL iL)<|aZ<|cI R h8 (λh9=>?_) λh9=>?_
    ·exact aR<|mM R<|mM R<|mM R<|xI A8 R O<|xB ((B3 T)) D5 R<|sS R (Bu 50 R A8 (f:=AG.row) (l:=([T]:List AG)) ⟨R,⟨_,iL,R⟩,Za⟩ R (λ_=>R) R)<|AE h9 λay I az=>sS R (DL R A8 iL R (.inr<|.inl ⟨_,_,iL,R⟩) I)<|mA R<|Zh<|M _ _ wk<|J4 _ (AH [((l 1)+1),((l 1)+2)]) (Zf az).symm
    exact Zc<|M _ _ wk<|J4 _ (AH [(l 0),(l 1)]) (Zf h9).symm
   exact Zm<|al _ _ wk<|J3 _ (AH [(l 0),(l 1)])<|xH aq h5
  refine CX (λ(A:List AG) (x5:Int) i8=>⟨[(1,qb c),(5,qb A),(23,rL c),(24,rI x5)],[],(i8 0),54⟩) (AH [(i5 0)]) a1 wk ?_
  intro A x5 i8 v2 b0 b1
  have a7:MM c A x5=some v2:=b0;unfold MM at a7
  refine aU<|xS R<|aZ<|aT λb2=>cI R a7 (λU=>?_) λU=>?_
  ·refine Zc<|b2 _<|aT λb3=>Ze<|aU<|mM R<|mA R<|aZ<|aR<|mM R<|mM R<|mM R<|AE U λa8 aa b4=>xI A8 R aa<|xB ((B3 a8)) D5 R<|AE b4 λab V b5=>sS R (DK (r:=qb ab) (caps:=[]) (bs:=[qb A,.agg<|B3 a8]) R iL R ⟨.inl ⟨iL,R⟩,.inl ⟨iL,R⟩,Za⟩ λ_=>Vd<|V)<|mA R<|aZ<|b3 _<|aF [1,5,23,24] ?_
   exact aR<|AE b5 λbf ac b6=>xA R ac<|mM R<|Zh<|ZF b6 (AH [(i8 0)]) wk
  exact Zm<|aj _ _ wk<|J2 _ (AH [(i8 0)])<|xH b1 U
 refine CX (λ(B:List AG) (x2:Int) i3=>⟨[(0,qb l1),(1,qb c),(5,qb B),(11,rL l1),(12,rI x2)],[],(i3 0),54⟩) (AH [n0]) a0 ((by exact Am.cv ⟨jL,jL,.inl<|.inr<|.inr ⟨R,R⟩,jL,jL,Za⟩ Za nL)) ?_
 intro B x2 i3 v3 b7 b8
 have ad:Lp l1 B x2=some v3:=b7;unfold Lp at ad
 refine aU<|xS R<|aZ<|aT λb9=>cI R ad (λX=>?_) λX=>?_
 ·refine Zc<|b9 _<|aT λba=>Ze<|aU<|mM R<|mA R<|aZ<|aR<|mM R<|mM R<|mM R<|AE X λae af bb=>xI A8 R af<|xB ((B3 ae)) D5 R<|AE bb λZ J bc=>sS R (DK (r:=qb Z) (caps:=[]) (bs:=[qb B,.agg<|B3 ae]) R iL R ⟨.inl ⟨iL,R⟩,.inl ⟨iL,R⟩,Za⟩ λ_=>Vd<|J)<|mA R<|aZ<|ba _<|aF [0,1,5,11,12] ?_
  exact aR<|AE bc λbg ag bd=>xA R ag<|mM R<|Zh<|ZF bd (AH [(i3 0)]) wk
 exact Zm<|ah _ _ wk<|J1 _ (AH [(i3 0)])<|xH b8 X
theorem dN{w i a r}(h:Ks w i a=some r):AX prog 128 [qg w,rI i,rI a] (rB r):=by
 unfold Ks at h
 refine mF func128 ntmps128 R λn0=>aU<|mA R<|aZ<|aS λK2 c2 B=>aU<|mM R<|xL BM R<|AE h λZ C h1=>xA R C<|mM R<|aZ<|Ze<|BK h1 λo1 m E q=>?_
 have J1:∀(u2:Unit) (i5:NN),o1=.nrm u2→K2 ⟨[],[],(i5 0),27⟩:=by
  intro u2 i5 e
  have h2:=E _ e
  exact c2 _<|zB h2 R id
 refine CX (λ(j:Int) (F:Int) A=>⟨[(0,qg w),(1,rI j),(2,rI a),(10,rI Z),(11,rI F)],[],(A 0),27⟩) (AH [n0]) m wk ?_
 intro j F A v1 I l
 have h3:F7 w a Z j F=some v1:=I;unfold F7 at h3
 refine aU<|xS R<|aZ<|aT λc6=>cI R h3 (λJ=>?_) λJ=>?_
 ·refine Zc<|c6 _<|aT λc7=>Ze<|aT λc8=>aU<|mM R<|mM R<|xQ R<|aZ<|cI R J (λM=>?_) λM=>?_
  ·exact zB (q _<|xH l M) R id
  refine Zc<|c8 _<|aU<|mM R<|mM R<|AE M λi6 O h6=>cL (Mr<|O) R<|mA R<|aZ<|aT λT=>aU<|mM R<|xS R<|aZ<|cI R h6 (λU=>?_) λU=>?_
  ·exact zB (q _<|xH l U) R id
  refine Zc<|T _<|aF [0,2,7,10,11] ?_
  exact aR<|mM R<|mM R<|AE U λx5 V h8=>xI BM R V<|sQ R (BJ R LQ iL)<|xV (.int .i64 x5.Parent) AI R<|mA R<|aZ<|c7 _<|aR<|AE h8 λx6 X h9=>xA R X<|mM R<|Zh<|ZF h9 (AH [(A 0)]) wk
 exact Zm<|B _ _ wk<|J1 _ (AH [(A 0)])<|xH l J
theorem cB{I r}(h:KQ I=some r):AX prog 94 [qf I] (.tup [qg r.1,qg r.2]):=by
 unfold KQ at h
 refine mF func94 ntmps94 R λn0=>aU<|mA R<|mA R<|aZ<|aU<|mA R<|mA R<|aZ<|aS λK3 c3 b0=>aU<|mM R<|xL Da R<|mM R<|aZ<|Ze<|GU h λo1 an b1=>?_
 have J1:∀(q:List AC) (l:List AC) (V:NN),o1=(q,l)→K3 ⟨[(4,.own 5004<|V 0),(5,.own 5005<|V 1)],[(5004,some<|.arr (V 0) 103 4<|q.map AC.row),(5005,some<|.arr (V 1) 103 4<|l.map AC.row)],(V 2),121⟩:=by
  intro q l V e
  have h1:=b1 _ _ e
  refine c3 _<|aS λK5 c5 b2=>aU<|mM R<|sQ R (IX R BM.slice iL R)<|mM R<|aZ<|Ze<|BP h1 λo2 ao b3=>?_
  have J2:∀(J:List AC) (a8:NN),o2=J→K5 ⟨[(4,.own 5004<|a8 0),(5,.own 5005<|V 1)],[(5004,some<|.arr (a8 0) 103 4<|J.map AC.row),(5005,some<|.arr (V 1) 103 4<|l.map AC.row)],(a8 1),121⟩:=by
   intro J a8 e
   have h2:=b3 _ e
   exact c5 _<|aU<|mM R<|mM R<|mA R<|mA R<|aZ<|Zi<|Cy (P:=prog) (λ(r:(List AC) × (List AC))=>qg r.1) (λ(r:(List AC) × (List AC))=>qg r.2) h2 iL (.t<|.one<|.own R)<|.t<|.one<|.own R
  refine CX (λ(x5:Int) (M:List AC) i8=>⟨[(4,.own 5004<|i8 0),(5,.own 5005<|V 1),(96,rL q),(97,rI x5)],[(5004,some<|.arr (i8 0) 103 4<|M.map AC.row),(5005,some<|.arr (V 1) 103 4<|l.map AC.row)],(i8 1),121⟩) (AH [(V 0),(V 2)]) ao wk ?_
  intro x5 M i8 v1 b4 b5
  have h3:G8 q l x5 M=some v1:=b4;unfold G8 at h3
  refine aU<|xS R<|aZ<|aT λc9=>cI R h3 (λh4=>?_) λh4=>?_
  ·refine Zc<|c9 _<|aS λb6 b7 ab=>Ze<|BP h4 λp1 b8 b9=>?_
   have J3:∀(O:List AC) (Z:NN),p1=O→b6 ⟨[(4,.own 5004<|Z 0),(5,.own 5005<|V 1),(96,rL q),(97,rI x5)],[(5004,some<|.arr (Z 0) 103 4<|O.map AC.row),(5005,some<|.arr (V 1) 103 4<|l.map AC.row)],(Z 1),121⟩:=by
    intro O Z e
    have h5:=b9 _ e
    exact b7 _<|aR<|AE h5 λx7 ba h6=>xA R ba<|mM R<|Zh<|ZF h6 (AH [(Z 0),(Z 1)]) wk
   refine aU<|mM R<|mA R<|aZ<|aU<|mM R<|mM R<|mM R<|AE b8 λx8 aa h7=>sQ R (Ew R BM.slice iL R iL λ_=>aa)<|sQ R (HG (ob:=.arr _ _ _ _) R EG iL fR R)<|sQ R (Rd (d:=.int .i64 x8.Item) R AI iL fR (λ_=>aa) R)<|AE h7 λk1 bb h8=>cL (Mr<|bb) R<|mA R<|aZ<|aT λbc=>aG [4,5,10,11,96,97] [5004,5005] ?_
   refine aR<|mM R<|sQ R (Cd R iL iL)<|aZ<|bc _<|cI R h8 (λh9=>?_) λh9=>?_
   ·exact aR<|mM R<|mM R<|mM R<|mM R<|AE h9 λx9 aq bd=>sQ R (Ew R BM.slice iL R iL λ_=>aq)<|sQ R (HG (ob:=.arr _ _ _ _) R Jp iL fR R)<|sQ R (Rd (d:=.sl<|x9.Attrs.map AG.row) R CP iL fR (λ_=>aq) R)<|sQ R (Ew R BM.slice iL R iL λ_=>aa)<|sQ R (HG (ob:=.arr _ _ _ _) R Jp iL fR R)<|Zk R R (Q3 (v:=(AC.mk x8.Item x8.Parent x8.Place x9.Attrs)) R JK iL R aa iL R R R R)<|Zh<|ab _ _ wk<|J3 _ (AH [(i8 0),(i8 1)]) (Zf bd).symm
   exact Zc<|ab _ _ wk<|J3 _ (AH [(i8 0),(i8 1)]) (Zf h9).symm
  exact Zm<|b2 _ _ wk<|J2 _ (AH [(i8 0),(i8 1)])<|xH b5 h4
 refine Hy (λ(x2:Int) (w:List AC) (B:List AC) m=>⟨[(0,qf I),(4,.own 5004<|m 0),(5,.own 5005<|m 1),(13,rL I),(14,rI x2)],[(5004,some<|.arr (m 0) 103 4<|w.map AC.row),(5005,some<|.arr (m 1) 103 4<|B.map AC.row)],(m 2),121⟩) (AH [n0,(n0+1),(n0+2)]) an (Zx (Zx (G0 4 5004 103 4 (by decide) R)<|by exact Am.cv (e':=[(0,qf I),(2,cZ),(3,cZ),(4,.own 5004 n0),(5,cZ),(12,qf I),(13,rL I),(14,rI 0)]) (h':=[(5004,some<|.arr n0 103 4<|([]:List AC).map AC.row)]) ⟨jL,jL,jL,jL,jL,jL,jL,jL,Za⟩ ⟨.inl R,Za⟩ nL)<|Zx (Zx (G0 5 5005 103 4 (by decide) R)<|by exact Am.cv (e':=[(0,qf I),(2,cZ),(3,cZ),(4,.own 5004 n0),(5,.own 5005<|n0+1),(12,qf I),(13,rL I),(14,rI 0)]) (h':=[(5004,some<|.arr n0 103 4<|([]:List AC).map AC.row),(5005,some<|.arr (n0+1) 103 4<|([]:List AC).map AC.row)]) ⟨jL,jL,jL,jL,jL,jL,jL,jL,Za⟩ ⟨.inl R,.inl R,Za⟩ nL) wk) ?_
 intro x2 w B m v2 be bf
 have ar:HT I x2 w B=some v2:=be;unfold HT at ar
 refine aU<|xS R<|aZ<|aT λbg=>cI R ar (λaf=>?_) λaf=>?_
 ·refine Zc<|bg _<|aS λbh bi a6=>Ze<|GU af λp2 bj bk=>?_
  have J4:∀(E:List AC) (T:List AC) (U:NN),p2=(E,T)→bh ⟨[(0,qf I),(4,.own 5004<|U 0),(5,.own 5005<|U 1),(13,rL I),(14,rI x2)],[(5004,some<|.arr (U 0) 103 4<|E.map AC.row),(5005,some<|.arr (U 1) 103 4<|T.map AC.row)],(U 2),121⟩:=by
   intro E T U e
   have bl:=bk _ _ e
   exact bi _<|aR<|AE bl λck au bm=>xA R au<|mM R<|Zh<|E9.mk bm (AH [(U 0),(U 1),(U 2)]) wk
  refine aU<|mM R<|mA R<|aZ<|aU<|mM R<|mM R<|AE bj λj av bn=>xI Da R av<|xB ((BW j)) GG R<|sS R (BD (cs:=OS) 7 R PL R R)<|Zk R R (A0 (ds:=(BW j)) R P7 iL R iL R R R R)<|aZ<|aT λbo=>aU<|lF FO AI R R<|xQ R<|aZ<|cI R bn (λag=>?_) λag=>?_
  ·refine aT λbp=>aG [0,4,5,7,13,14] [7,5004,5005] ?_
   refine aR<|mM R<|lF Ex AI R R<|AE ag λk2 bq br=>cL (Mr<|bq) R<|mA R<|aZ<|bp _<|aS λbs bt ac=>aU<|mM R<|xS R<|aZ<|GU br λp3 aw bu=>?_
   have J5:∀(k3:Int) (C:List AC) (A:NN),p3=(k3,C)→bs ⟨[(0,qf I),(4,.own 5004<|m 0),(5,.own 5005<|A 0),(7,.ptr 7 (m 2) 0 0),(8,rI k3),(13,rL I),(14,rI x2)],[(7,some<|.box (m 2) 129<|BW j),(5004,some<|.arr (m 0) 103 4<|w.map AC.row),(5005,some<|.arr (A 0) 103 4<|C.map AC.row)],(A 1),121⟩:=by
    intro k3 C A e
    have bv:=bu _ _ e
    refine bt _<|aT λbw=>?_
    refine S6 [0,1] [2,3,4,5,6,7,8,9,10,11] [12] 13 BY (by kernel_rfl) R R R R R ?_
    refine Ff.move R R R R<|Ff.move R R R R<|Ff.nil<|ZG R R R (AN R iL)<|ZG R R R (AN R iL)<|AE bv λa0 X bx=>ZG R R R (Ew R BM.slice iL R iL λ_=>X)<|ZG R R R (HG (ob:=.arr _ _ _ _) R Jp iL fR R)<|ZG R R R (Rd (d:=.sl<|a0.Attrs.map AG.row) R CP iL fR (λ_=>X) R)<|ZG R R R (fB R Kf iL fR R)<|ZG R R R (Ab (a:=rS j.Name) R BB iL R R)<|ZG R R R (fB R Ii iL fR R)<|ZG R R R (Ab (a:=rS j.Value) R BB iL R R) ?_
    refine ZG R R R (B7 R Pk (q:=[(0,_),(1,_)]) (by exact⟨R,R,R,iL,R,R,R,iL,Za⟩) (cs:=[rS j.Name,rS j.Value])<|by rfl) ?_
    refine AF.nil<|AA.step R R R (TR 50 R A8 (f:=AG.row) (l:=([(AG.mk j.Name j.Value)]:List AG)) ⟨R,⟨_,iL,R⟩,Za⟩ R (λ_=>R) R)<|AA.nil ?_
    refine AO.weak (by exact Am.frz (e':=[(0,qf I),(4,.own 5004<|m 0),(5,.own 5005<|A 0),(7,.ptr 7 (m 2) 0 0),(8,rI k3),(13,rL I),(14,rI x2),(38,.own 5005<|A 0),(39,rI k3),(40,.own 5005<|A 0),(41,rI k3),(42,.ptr 5005 (A 0) k3.toNat 0),(43,.ptr 5005 (A 0) k3.toNat 3),(44,qb a0.Attrs),(45,.ptr 7 (m 2) 0 6),(46,rS j.Name),(47,.ptr 7 (m 2) 0 7),(48,rS j.Value),(49,.agg [rS j.Name,rS j.Value]),(50,.r<|.sl<|[(AG.mk j.Name j.Value)].map AG.row)]) (h':=[(7,some<|.box (m 2) 129<|BW j),(5004,some<|.arr (m 0) 103 4<|w.map AC.row),(5005,some<|.arr (A 0) 103 4<|C.map AC.row)]) 50 R ⟨jL,jL,jL,jL,jL,jL,jL,jL,jL,jL,jL,jL,jL,jL,jL,jL,jL,jL,jL,.inl<|.inr<|.inr ⟨R,R⟩,Za⟩ ⟨R,.inl R,R,.inl R,R,.inl R,Za⟩) ?_
    exact AE bx λr1 bz c0=>sS R (DK (r:=qb r1) (caps:=[]) (bs:=[qb a0.Attrs,.r<|.sl<|[(AG.mk j.Name j.Value)].map AG.row]) R iL R ⟨.inl ⟨iL,R⟩,.inl ⟨iL,R⟩,Za⟩ λ_=>ZQ<|bz)<|sQ R (Ew R BM.slice iL R iL λ_=>X)<|sQ R (HG (ob:=.arr _ _ _ _) R Jp iL fR R)<|Zk R R (Q3 (v:=(AC.mk a0.Item a0.Parent a0.Place r1)) R JK iL R X iL R R R R)<|aZ<|bw _<|Zm<|a6 _ _ wk<|J4 _ _ (AH [(m 0),(A 0),((A 1)+1)]) (Zf c0).symm
   refine aC R (λah=>?_) λah=>?_
   ·have ai:=Dz ah aw
    refine aU<|mM R<|sQ R (IX R BM.slice iL R)<|mA R<|aZ<|aR<|mM R<|lF Ex AI R R ?_
    refine sQ R (B7 R QH (q:=[(0,_)]) (by exact⟨R,R,R,iL,Za⟩) (cs:=[rI j.Item,rI 0,.r<|.str [],cZ])<|by rfl) ?_
    exact sS R (Bu 36 R BM (f:=AC.row) (l:=([(AC.mk j.Item 0 [] [])]:List AC)) ⟨R,⟨_,iL,R⟩,Za⟩ R (λ_=>R) R)<|AE ai λaz a7 c1=>sS R (DL R BM iL R (.inr<|.inl ⟨_,_,iL,R⟩) a7)<|mA R<|Zh<|ac _ _ wk<|J5 _ _ (AH [((m 2)+2),((m 2)+3)]) (Zf c1).symm
   ·have ai:=D6 ah aw
    exact Zc<|ac _ _ wk<|J5 _ _ (AH [(m 1),((m 2)+1)]) (Zf ai).symm
  refine Zc<|bo _<|aT λc2=>aT λc4=>aG [0,4,5,7,13,14] [7,5004,5005] ?_
  refine aR<|lF Fy AI R R<|lF Ex AI R R<|xQ R<|mM R<|vF Fy AI R R<|vQ R (BU R (iR R) iL)<|vQ R (AN R<|iR R)<|wQ R (AN R iL)<|wQ R (fB R Fy iL fR R)<|wQ R (Ab (a:=rI j.Parent) R AI (iR R) R R)<|wQ R (fB R Ex iL fR R)<|wQ R (Ab (a:=rI j.Item) R AI (iR R) R R)<|AE ag λr2 c6 c7=>AO.stepW (.two R R R) R R (EJ (r:=rB r2) (caps:=[]) (bs:=[qg w,rI j.Parent,rI j.Item]) R iL R ⟨⟨_,(iR R),.one<|.own R⟩,⟨_,(iR R),.d R⟩,⟨_,(iR R),.d R⟩,Za⟩ (λhg=>dN<|Ae c6 hg) R)<|vQ R (Bb R (iR R)<|iR R)<|xO R<|aZ<|c4 _<|cI R c7 (λaj=>?_) λaj=>?_
  ·exact Zm<|a6 _ _ wk<|J4 _ _ (AH [(m 0),(m 1),((m 2)+1)]) (Zf aj).symm
  refine Zc<|c2 _<|aU<|mM R<|lF Ex AI R R<|AE aj λk4 c8 ca=>cL (Mr<|c8) R<|mA R<|aZ<|aS λcb cc ad=>aT λcd=>aG [0,4,5,7,9,13,14] [7,5004,5005] ?_
  refine aR<|mM R<|xS R<|aZ<|cd _<|GU ca λp4 ax cf=>?_
  have J6:∀(k5:Int) (F:List AC) (a1:NN),p4=(k5,F)→cb ⟨[(0,qf I),(4,.own 5004<|a1 0),(5,.own 5005<|m 1),(7,.ptr 7 (m 2) 0 0),(9,rI k5),(13,rL I),(14,rI x2)],[(7,some<|.box (m 2) 129<|BW j),(5004,some<|.arr (a1 0) 103 4<|F.map AC.row),(5005,some<|.arr (m 1) 103 4<|B.map AC.row)],(a1 1),121⟩:=by
   intro k5 F a1 e
   have cg:=cf _ _ e
   refine cc _<|aR<|mM R<|mM R<|lF Ex AI R R<|lF Fy AI R R<|lF Kv BB R R ?_
   refine sQ R (B7 R QH (q:=[(0,_),(1,_),(2,_)]) (by exact⟨R,R,R,iL,R,R,R,iL,R,R,R,iL,Za⟩) (cs:=[rI j.Item,rI j.Parent,rS j.Place,cZ])<|by rfl) ?_
   exact AE cg λcl ae ch=>sQ R (Ew R BM.slice iL R iL λ_=>ae)<|Zk R R (QP (v:=(AC.mk j.Item j.Parent j.Place [])) R Kg iL R ae iL R R R R)<|Zh<|a6 _ _ wk<|J4 _ _ (AH [(a1 0),(m 1),(a1 1)]) (Zf ch).symm
  refine aC R (λak=>?_) λak=>?_
  ·have al:=Dz ak ax
   refine aU<|mM R<|sQ R (IX R BM.slice iL R)<|mA R<|aZ<|aR<|mM R ?_
   refine sQ R (B7 R QH (q:=[]) (by exact Za) (cs:=LO)<|by rfl) ?_
   exact sS R (Bu 82 R BM (f:=AC.row) (l:=([(AC.mk 0 0 [] [])]:List AC)) ⟨R,⟨_,iL,R⟩,Za⟩ R (λ_=>R) R)<|AE al λay a2 cj=>sS R (DL R BM iL R (.inr<|.inl ⟨_,_,iL,R⟩) a2)<|mA R<|Zh<|ad _ _ wk<|J6 _ _ (AH [((m 2)+2),((m 2)+3)]) (Zf cj).symm
  ·have al:=D6 ak ax
   exact Zc<|ad _ _ wk<|J6 _ _ (AH [(m 0),((m 2)+1)]) (Zf al).symm
 exact Zm<|b0 _ _ wk<|J1 _ _ (AH [(m 0),(m 1),(m 2)])<|xH bf af
theorem dv{self:(List AC)→(List AC)→Int→Option (List AC)}(M:∀ {A:List AC} {I:List AC} {j:Int} {r:(List AC)} {l:Nat},self A I j=some r→A9 prog 95 1 [qg I,rI j,.own 1000 l] [(1000,some<|.arr l 103 4<|A.map AC.row)] (λrr h'=>∃(i:Nat→Nat),rr=.own 1000 (i 0)∧h'=[(1000,some<|.arr (i 0) 103 4<|r.map AC.row)])){A:List AC}{I:List AC}{j:Int}{r:(List AC)}{l:Nat}(h:IE self A I j=some r):A9 prog 95 1 [qg I,rI j,.own 1000 l] [(1000,some<|.arr l 103 4<|A.map AC.row)] (λrr h'=>∃(i:Nat→Nat),rr=.own 1000 (i 0)∧h'=[(1000,some<|.arr (i 0) 103 4<|r.map AC.row)]):=by
 unfold IE at h
 refine EB func95 R R ntmps95 (Zo R) λn0=>aU<|mA R<|aZ<|aU<|mA R<|mA R<|aZ<|Ze<|BK h λo1 a0 az a6=>Hy (λ(m:List UInt8) (q:Int) (w:List AC) B=>⟨[(0,qg I),(1,rI j),(2,.own 1000<|B 0),(7,rS m),(8,rI q)],[(1000,some<|.arr (B 0) 103 4<|w.map AC.row)],(B 1),100⟩) (AH [l,n0]) a0 wk ?_
 intro m q w B v1 a7 a8
 have h1:Fg I j self m q w=some v1:=a7;unfold Fg at h1
 refine Ze<|aU<|mA R<|aZ<|aS λK4 c4 aa=>aU<|mM R<|xL BM R<|mM R<|aZ<|Ze<|BP h1 λo2 a1 ab=>?_
 have J2:∀(C:Int) (i9:NN),o2=C→K4 ⟨[(0,qg I),(1,rI j),(2,.own 1000<|B 0),(9,rI C)],[(1000,some<|.arr (B 0) 103 4<|w.map AC.row)],(i9 0),100⟩:=by
  intro C i9 e
  have h2:=ab _ e
  refine c4 _<|aT λc6=>aU<|mM R<|xS R<|aZ<|cI R h2 (λh3=>?_) λh3=>?_
  ·refine aU<|mM R<|mA R<|aZ ?_
   exact Zi<|Zy (s':=⟨[(6,.own 1000<|B 0)],[(1000,some<|.arr (B 0) 103 4<|w.map AC.row)],(i9 0),100⟩) wk<|CI (λ(r:(List AC)) rr h'=>∃(i:Nat→Nat),rr=.own 1000 (i 0)∧h'=[(1000,some<|.arr (i 0) 103 4<|r.map AC.row)]) (a6 _<|xH a8 h3)<|by exact⟨.own 1000<|B 0,[(1000,some<|.arr (B 0) 103 4<|w.map AC.row)],R,⟨.inr R,Za⟩,R,R,AH [(B 0)],R,R⟩
  refine Zc<|c6 _<|aT λc9=>?_
  refine ZA BY (by kernel_rfl) ?_
  refine qP R (AN R iL)<|qP R (AN R iL)<|AE h3 λx4 O h4=>qP R (BA R BM.slice iL iL (λ_=>R) λ_=>O)<|qP R (BJ R Hj iL)<|qP R (Bs (d:=.str x4.Place) R BB iL R)<|qP R (AN R iL)<|qP R (AN R iL)<|qP R (BA R BM.slice iL iL (λ_=>R) λ_=>O)<|qP R (BJ R EG iL)<|qP R (Bs (d:=.int .i64 x4.Item) R AI iL R)<|qP R (EI R iL)<|qP R (EI R iL)<|AQ.nil<|c9 _<|aG [0,1,2,7,8,9] [1000] ?_
  refine aR<|mM R<|mM R<|mM R<|mM R<|mM R<|xI BM R O<|xB ((B6 x4)) GE R<|sS R (Bu 97 R BM (f:=AC.row) (l:=([x4]:List AC)) ⟨R,⟨_,iL,R⟩,Za⟩ R (λ_=>R) R)<|AE h4 λl2 ac h5=>sS R (DL R BM iL R (.inr<|.inl ⟨_,_,iL,R⟩) ac)<|AE h5 λw1 ad h6=>?_
  refine Zu [1000] (hc:=[(1000,some<|.arr ((i9 0)+1) 103 4<|l2.map AC.row)]) (bs:=[qg I,rI x4.Item,.own 1000<|(i9 0)+1]) (caps:=[]) R R R R iL R ⟨.inl ⟨iL,R⟩,.inl ⟨iL,R⟩,.inl ⟨iL,R⟩,Za⟩ ⟨R,R,R,Za⟩ (by decide) (M ad) ?_
  intro ae n1
  refine Bg [0,1,7,8,9,90,91,93,94,95,96,97,99] [97,1000] ?_
  exact mA R<|Zh<|E9.mk h6 (AH [(ae 0),n1]) wk
 refine CX (λ(E:Int) (x2:Int) X=>⟨[(0,qg I),(1,rI j),(2,.own 1000<|B 0),(7,rS m),(8,rI q),(9,rI E),(13,rL I),(14,rI x2)],[(1000,some<|.arr (B 0) 103 4<|w.map AC.row)],(X 0),100⟩) (AH [(B 1)]) a1 wk ?_
 intro E x2 X v2 af ag
 have h7:G9 I j m q E x2=some v2:=af;unfold G9 at h7
 refine aU<|xS R<|aZ<|aT λah=>cI R h7 (λh8=>?_) λh8=>?_
 ·refine Zc<|ah _<|aS λai aj J=>Ze<|BP h8 λp1 ak al=>?_
  have J3:∀(F:Int) (T:NN),p1=F→ai ⟨[(0,qg I),(1,rI j),(2,.own 1000<|B 0),(7,rS m),(8,rI q),(9,rI F),(13,rL I),(14,rI x2)],[(1000,some<|.arr (B 0) 103 4<|w.map AC.row)],(T 0),100⟩:=by
   intro F T e
   have h9:=al _ e
   exact aj _<|aR<|AE h9 λx5 an ao=>xA R an<|mM R<|Zh<|ZF ao (AH [(T 0)]) wk
  refine aU<|mM R<|mA R<|aZ<|aU<|mM R<|mM R<|AE ak λZ aq ar=>xI BM R aq<|xB ((B6 Z)) GE R<|sS R (BD (cs:=LO) 11 R MB R R)<|Zk R R (A0 (ds:=(B6 Z)) R Kg iL R iL R R R R)<|aZ<|aT λau=>aU<|lF LQ AI R R<|mM R<|xU R<|mM R<|vF Hj BB R R<|vM R<|vQ R (NJ R (iR R)<|iR R)<|xO R<|mM R<|vF Hj BB R R<|vM R<|vQ R (E5 R (iR R)<|iR R)<|vQ R (AN R<|iR R)<|wQ R (fB R EG iL fR R)<|wQ R (Ab (a:=rI Z.Item) R AI (iR R) R R)<|wQ R (AN R iL)<|wQ R (En R (iR R)<|iR R)<|vQ R (Bb R (iR R)<|iR R)<|xO R<|aZ<|cI R ar (λU=>?_) λU=>?_
  ·exact Zm<|J _ _ wk<|J3 _ (AH [((X 0)+1)]) (Zf U).symm
  refine Zc<|au _<|aT λav=>aG [0,1,2,7,8,9,10,11,13,14] [11,1000] ?_
  refine ZA BY (by kernel_rfl) ?_
  refine qP R (AN R iL)<|qP R (B1 R iL iL)<|qP R (AN R iL)<|qO R (fB R Hj iL fR R)<|qO R (Ab (a:=rS Z.Place) R BB (iR R) R R)<|qO R (AN R iL)<|qO R (AN R iL)<|AE U λx7 aw ax=>qO R (BA R BM.slice (iR R) (iR R) (λ_=>R)<|Ae aw)<|qO R (BJ R Hj<|iR R)<|qO R (Bs (d:=.str x7.Place) R BB (iR R) R)<|qO R (NJ R (iR R)<|iR R)<|qP R (Cm R iL<|iR R)<|qP R (AN R iL)<|qO R (fB R Hj iL fR R)<|qO R (Ab (a:=rS Z.Place) R BB (iR R) R R)<|qO R (AN R iL)<|qO R (AN R iL)<|AE ax λx8 a2 ay=>qO R (BA R BM.slice (iR R) (iR R) (λ_=>R)<|Ae a2)<|qO R (BJ R Hj<|iR R)<|qO R (Bs (d:=.str x8.Place) R BB (iR R) R)<|qO R (E5 R (iR R)<|iR R)<|qO R (AN R<|iR R)<|qT R (fB R EG iL fR R)<|qT R (Ab (a:=rI Z.Item) R AI (iR R) R R)<|qT R (AN R iL)<|qT R (AN R iL)<|qT R (BA R BM.slice (iR R) (iR R) (λ_=>R) λh=>Ae a2 (pU.1 h).1)<|qT R (BJ R EG<|iR R)<|qT R (Bs (d:=.int .i64 x8.Item) R AI (iR R) R)<|qT R (B1 R (iR R)<|iR R)<|qO R (Bb R (iR R)<|iR R)<|qP R (Cm R iL<|iR R)<|AQ.nil<|av _<|cI R ay (λV=>?_) λV=>?_
  ·exact aR<|mM R<|mA R<|Zh<|J _ _ wk<|J3 _ (AH [((X 0)+1)]) (Zf V).symm
  exact Zc<|J _ _ wk<|J3 _ (AH [((X 0)+1)]) (Zf V).symm
 exact Zm<|aa _ _ wk<|J2 _ (AH [(X 0)])<|xH ag h8
theorem gw(n:Nat):∀ {m:List AC} {q:List AC} {j:Int} {r:(List AC)} {l:Nat},DR n m q j=some r→A9 prog 95 1 [qg q,rI j,.own 1000 l] [(1000,some<|.arr l 103 4<|m.map AC.row)] (λw h'=>∃(i:Nat→Nat),w=.own 1000 (i 0)∧h'=[(1000,some<|.arr (i 0) 103 4<|r.map AC.row)]):=by
 induction n with
 | zero=>intro m q j r l h;exact absurd (show(none:Option ((List AC)))=some r from h)<|by simp
 | succ n A=>intro m q j r l h;exact dv (self:=λm q j=>DR n m q j) (λB=>A B) h
theorem XB{m:List AC}{q:List AC}{j:Int}{r:(List AC)}{l:Nat}(h:MS m q j=some r):A9 prog 95 1 [qg q,rI j,.own 1000 l] [(1000,some<|.arr l 103 4<|m.map AC.row)] (λA h'=>∃(i:Nat→Nat),A=.own 1000 (i 0)∧h'=[(1000,some<|.arr (i 0) 103 4<|r.map AC.row)]):=by
 unfold MS at h
 by_cases w:∃n r,DR n m q j=some r
 ·rw[pr w] at h;exact gw _ h
 ·rw[dif_neg w] at h;cases h
theorem l7{l1 r}(h:JF l1=some r):AX prog 58 [qf l1] (.tup [qg r.1,rI r.2]):=by
 unfold JF at h
 refine mF func58 ntmps58 R λn0=>aU<|mA R<|mA R<|aZ<|aU<|mM R<|Eu h λB r2 a0 h1=>sS R (DK (r:=.tup [qg B,qg r2]) (caps:=[]) (bs:=[qf l1]) R iL R ⟨.inl ⟨iL,R⟩,Za⟩ λ_=>cB<|a0)<|mM R<|xX R<|xX R<|mA R<|mA R<|aZ<|aT λc3=>aF [4] ?_
 refine aR<|mM R<|AE h1 λF a1 h2=>?_
 refine W6 7918 103 4 R [7918] (hc:=[(1000,some<|.arr n0 103 4<|([]:List AC).map AC.row)]) (bs:=[qg B,rI 0,.own 1000 n0]) (caps:=[]) R R R R iL R ⟨.inl<|.inl ⟨iL,R⟩,.inl<|.inl ⟨iL,R⟩,.inr ⟨iL,R,R⟩,Za⟩ ⟨R,R,R,Za⟩ (by decide) (XB a1) ?_
 intro i1 n1
 refine Bg [4,17,18] [7918] ?_
 refine mA R<|aZ<|c3 _<|aU<|mM R<|sQ R (IX R BM.slice iL R)<|mA R<|aZ<|aU<|mA R<|aZ<|Ze<|BK h2 λo1 O ay a2=>CX (λ(j:Int) (l:List AC) A=>⟨[(4,qg B),(6,.own 7918<|A 0),(7,rL F),(8,rI j)],[(7918,some<|.arr (A 0) 103 4<|l.map AC.row)],(A 1),73⟩) (AH [(i1 0),n1]) O wk ?_
 intro j l A v1 a6 a7
 have h3:Hm B F j l=some v1:=a6;unfold Hm at h3
 refine Ze<|aU<|mA R<|aZ<|aS λK7 c7 a8=>aU<|mM R<|xL BM R<|mM R<|aZ<|Ze<|BP h3 λo2 T aa=>?_
 have J2:∀(m:Int) (C:NN),o2=m→K7 ⟨[(4,qg B),(6,.own 7918<|A 0),(7,rL F),(9,rI m)],[(7918,some<|.arr (A 0) 103 4<|l.map AC.row)],(C 0),73⟩:=by
  intro m C e
  have h4:=aa _ e
  refine c7 _<|aT λc9=>aU<|mM R<|xS R<|aZ<|cI R h4 (λh5=>?_) λh5=>?_
  ·exact aU<|mM R<|mM R<|mA R<|mA R<|aZ<|Zi<|Cy (P:=prog) (λ(r:(List AC) × Int)=>qg r.1) (λ(r:(List AC) × Int)=>rI r.2) (a2 _<|xH a7 h5) iL (.t<|.one<|.own R)<|.t<|.d R
  exact Zc<|c9 _<|aU<|mM R<|mM R<|AE h5 λx4 U h6=>xI BM R U<|sQ R (BJ R EG iL)<|xV (.int .i64 x4.Item) AI R<|mA R<|aZ<|aR<|mM R<|mM R<|mM R<|xI BM R U<|xB ((B6 x4)) GE R<|sS R (Bu 71 R BM (f:=AC.row) (l:=([x4]:List AC)) ⟨R,⟨_,iL,R⟩,Za⟩ R (λ_=>R) R)<|AE h6 λax I h7=>sS R (DL R BM iL R (.inr<|.inl ⟨_,_,iL,R⟩) I)<|mA R<|Zh<|ZF h7 (AH [((C 0)+1),((C 0)+2)]) wk
 refine CX (λ(q:Int) (Z:Int) i8=>⟨[(4,qg B),(6,.own 7918<|A 0),(7,rL F),(8,rI j),(9,rI q),(22,rL B),(23,rI Z)],[(7918,some<|.arr (A 0) 103 4<|l.map AC.row)],(i8 0),73⟩) (AH [(A 1)]) T wk ?_
 intro q Z i8 v2 ab ac
 have h8:Ig B F j l q Z=some v2:=ab;unfold Ig at h8
 refine aU<|xS R<|aZ<|aT λad=>cI R h8 (λh9=>?_) λh9=>?_
 ·refine Zc<|ad _<|aS λae af E=>Ze<|BP h9 λp1 ag ah=>?_
  have J3:∀(w:Int) (J:NN),p1=w→ae ⟨[(4,qg B),(6,.own 7918<|A 0),(7,rL F),(8,rI j),(9,rI w),(22,rL B),(23,rI Z)],[(7918,some<|.arr (A 0) 103 4<|l.map AC.row)],(J 0),73⟩:=by
   intro w J e
   have ai:=ah _ e
   exact af _<|aR<|AE ai λx5 aj ak=>xA R aj<|mM R<|Zh<|ZF ak (AH [(J 0)]) wk
  refine aU<|mM R<|mA R<|aZ<|aU<|mM R<|mM R<|AE ag λx6 al an=>xI BM R al<|sQ R (BJ R EG iL)<|xV (.int .i64 x6.Item) AI R<|mA R<|aZ<|aT λao=>aR<|mM R<|mM R<|sQ R (BU R iL iL)<|mM R<|vM R<|vM R<|AE an λl2 V aq=>vQ R (ef R BM.slice (iR R) R ⟨_,(iR R)⟩<|Ae V)<|vM R<|AE aq λr3 ar au=>AO.stepW (.one R R R) R R (EJ (r:=rI r3) (caps:=[]) (bs:=[.r<|.sl<|(l.take (F.length:Int).toNat).map AC.row,rI x6.Item]) R iL R ⟨⟨_,(iR R),.one<|.pre R R⟩,⟨_,(iR R),.d R⟩,Za⟩ (λX=>(eJ<|(Ae V) X) ▸ (λhg=>Mr<|Ae ar hg) X) R)<|vQ R (B1 R (iR R) iL)<|xN R<|mM R<|vM R<|vQ R (B1 R (iR R) iL)<|vQ R (AN R<|iR R)<|wQ R (AN R iL)<|wQ R (AN R iL)<|wQ R (AN R iL)<|AE au λx7 av aw=>wQ R (BA R BM.slice (iR R) (iR R) (λ_=>R)<|Ae av)<|wQ R (BJ R EG<|iR R)<|wQ R (Bs (d:=.int .i64 x7.Item) R AI (iR R) R)<|wQ R (B1 R (iR R)<|iR R)<|vQ R (Cm R (iR R)<|iR R)<|xN R<|aZ<|ao _<|cI R aw (λM=>?_) λM=>?_
  ·refine aG [4,6,7,8,10,22,23] [7918] ?_
   exact aR<|mM R<|mA R<|Zh<|E _ _ wk<|J3 _ (AH [(i8 0)]) (Zf M).symm
  exact Zc<|E _ _ wk<|J3 _ (AH [(i8 0)]) (Zf M).symm
 exact Zm<|a8 _ _ wk<|J2 _ (AH [(i8 0)])<|xH ac h9
theorem Zr{j n r}(h:Ny j n=some r):AX prog 60 [qb j,rS n] (rS r):=by
 unfold Ny at h
 refine mF func60 ntmps60 R λZ=>aU<|mA R<|aZ<|aS λK2 c2 A=>aU<|mM R<|xL A8 R<|mM R<|aZ<|Ze<|BK h λo1 l B C=>?_
 have J1:∀(T:Unit) (U:NN),o1=.nrm T→K2 ⟨[],[],(U 0),24⟩:=by
  intro T U e
  have h1:=B _ e
  exact c2 _<|aU<|mA R<|aZ<|Zi<|Cf (P:=prog) (λ(r:(List UInt8))=>rS r) h1 iL<|.t<|.d R
 refine Zw (λ(E:Int) w=>⟨[(0,qb j),(1,rS n),(7,rL j),(8,rI E)],[],(w 0),24⟩) (AH [Z]) l wk ?_
 intro E w v1 F m
 have V:Nr j n E=some v1:=F;unfold Nr at V
 refine aU<|xS R<|aZ<|aT λc6=>cI R V (λI=>?_) λI=>?_
 ·refine Zc<|c6 _<|aT λc7=>Ze<|aU<|mM R<|mA R<|aZ<|aU<|mM R<|mM R<|AE I λX q h4=>xI A8 R q<|sQ R (BJ R EN iL)<|xV (.str X.Name) BB R<|mM R<|sQ R (E5 R iL iL)<|aZ<|cI R h4 (λJ=>?_) λJ=>?_
  ·refine aT λM=>aF [0,5] ?_
   exact aR<|mM R<|mM R<|xI A8 R q<|sQ R (BJ R II iL)<|xV (.str X.Value) BB R<|mA R<|aZ<|M _<|Zi<|Cf (P:=prog) (λ(r:(List UInt8))=>rS r) (C _<|xH m J) iL<|.t<|.d R
  refine Zc<|c7 _<|aF [0,1,7,8] ?_
  exact aR<|AE J λx5 O h6=>xA R O<|mM R<|Zh<|Zt h6 (AH [(w 0)]) wk
 exact Zm<|A _ _ wk<|J1 _ (AH [(w 0)])<|xH m I
theorem fj{l r}(h:MH l=some r):AX prog 59 [rS l] (rI r):=by
 unfold MH at h
 refine mF func59 ntmps59 R λn0=>aU<|mA R<|aZ<|aT λc2=>aU<|mM R<|sQ R (E5 R iL iL)<|mM R<|vM R<|vQ R (DT R underlying9<|iR R)<|vQ R (BU R (iR R) iL)<|xO R<|mM R<|vM R<|AE h λa7 m h1=>vQ R (CM R underlying9 (iR R) iL<|Ae m)<|vQ R (A5 R (iR R) iL)<|vQ R (AN R<|iR R)<|wQ R (AN R iL)<|wQ R (DT R underlying9<|iR R)<|wQ R (BU R (iR R) iL)<|vQ R (Bb R (iR R)<|iR R)<|xO R<|aZ<|cI R h1 (λB=>?_) λB=>?_
 ·exact zI B R id
 refine Zc<|c2 _<|aT λc5=>aF [0] ?_
 refine aR<|mA R<|aZ<|c5 _<|aS λK6 c6 C=>aU<|mM R<|sQ R (DT R underlying9 iL)<|mM R<|aZ<|Ze<|BK B λo1 q E F=>?_
 have J1:∀(I:Int) (i5:NN),o1=.nrm I→K6 ⟨[(3,rI I)],[],(i5 0),47⟩:=by
  intro I i5 e
  have h3:=E _ e
  exact c6 _<|aU<|mM R<|mA R<|aZ<|Zi<|yI h3 R
 refine CX (λ(J:Int) (M:Int) A=>⟨[(0,rS l),(3,rI J),(23,rL l),(24,rI M)],[],(A 0),47⟩) (AH [n0]) q wk ?_
 intro J M A v1 O w
 have h4:Gg l J M=some v1:=O;unfold Gg at h4
 refine aU<|xS R<|aZ<|aT λT=>cI R h4 (λU=>?_) λU=>?_
 ·refine Zc<|T _<|aT λV=>Ze<|aU<|mM R<|mA R<|aZ<|aT λX=>aU<|mM R<|mM R<|AE U λa8 j h6=>sQ R (CM R underlying9 iL iL λ_=>j)<|xS R<|mM R<|vM R<|vM R<|vQ R (CM R underlying9 (iR R) (iR R) λ_=>j)<|vQ R (BU R (iR R) iL)<|xO R<|aZ<|cI R h6 (λZ=>?_) λZ=>?_
  ·exact zI (F _<|xH w Z) R id
  refine Zc<|X _<|aR<|mM R<|AE Z λx4 a0 h8=>sQ R (Ws R iL iL λ_=>a0)<|mM R<|mM R<|sQ R (CM R underlying9 iL iL λ_=>j)<|sQ R (l9 R iL iL)<|sQ R (Dw R underlying5 underlying3 iL)<|AE h8 λn5 a1 h9=>xA R a1<|mA R<|aZ<|V _<|aF [0,3,23,24] ?_
  exact aR<|AE h9 λx5 a2 a6=>xA R a2<|mM R<|Zh<|ZF a6 (AH [(A 0)]) wk
 exact Zm<|C _ _ wk<|J1 _ (AH [(A 0)])<|xH w U
theorem aD{self:(List AY)→AM→AY→Option (List AY)}(J:∀ {q:List AY} {d1:AM} {m:AY} {r:(List AY)} {j:Nat},self q d1 m=some r→A9 prog 30 1 [.agg [qa d1.Nodes],.agg<|Ek m,.own 1000 j] [(1000,some<|.arr j 38 3<|q.map AY.row)] (λrr h'=>∃(i:Nat→Nat),rr=.own 1000 (i 0)∧h'=[(1000,some<|.arr (i 0) 38 3<|r.map AY.row)])){q:List AY}{d1:AM}{m:AY}{r:(List AY)}{j:Nat}(h:IP self q d1 m=some r):A9 prog 30 1 [.agg [qa d1.Nodes],.agg<|Ek m,.own 1000 j] [(1000,some<|.arr j 38 3<|q.map AY.row)] (λrr h'=>∃(i:Nat→Nat),rr=.own 1000 (i 0)∧h'=[(1000,some<|.arr (i 0) 38 3<|r.map AY.row)]):=by
 unfold IP at h
 refine EB func30 R R ntmps30 (Zo R) λl=>aU<|sS R (A4 (cs:=[qa d1.Nodes]) 3 R iL R R)<|sS R (A4 (cs:=(Ek m)) 4 R iL R R)<|mA R<|aZ<|aT λc2=>aU<|mM R<|lF LJ AI R R<|AE h λr1 b2 h1=>cL (TM<|b2) R<|sQ R (Cd R iL iL)<|aZ<|cI R h1 (λh2=>?_) λh2=>?_
 ·refine aT λc4=>aG [2] [1000] ?_
  refine aR<|mM R<|mA R<|oZ c4 ?_
  exact Zi<|Zy (s':=⟨[(6,.own 1000 j)],[(1000,some<|.arr j 38 3<|q.map AY.row)],(l+2),157⟩) wk<|CI (λ(r:(List AY)) rr h'=>∃(i:Nat→Nat),rr=.own 1000 (i 0)∧h'=[(1000,some<|.arr (i 0) 38 3<|r.map AY.row)]) h2<|by exact⟨.own 1000 j,[(1000,some<|.arr j 38 3<|q.map AY.row)],R,⟨.inr R,Za⟩,R,R,AH [j],R,R⟩
 refine Zc<|c2 _<|aU<|mM R<|xC bO R<|sS R (Bu 25 R OO (f:=AY.row) (l:=([m]:List AY)) ⟨R,⟨_,iL,R⟩,Za⟩ R (λ_=>R) R)<|AE h2 λd2 ac h3=>sS R (DL R OO iL R (.inr<|.inl ⟨_,_,iL,R⟩) ac)<|mA R<|aZ<|aT λc6=>aG [2,3,4] [3,4,1000] ?_
 refine AE h3 λr2 b3 h4=>AE h4 λA b4 h5=>?_
 refine Lk 9 [pO 27<|.ptr 3 l 0 0,pO 28<|qa d1.Nodes,pO 29<|.agg [qa d1.Nodes],pO 30<|.ptr 4 (l+1) 0 0,pO 31<|rI m.ID,pO 32<|rI r2,pO 33<|.rop (AK.row A) 0,pO 34<|.agg<|Ax A,⟨some 7,(λI=>.ptr 7 (I 8) 0 0),some (7,(λI=>some<|.box (I 8) 47 FF)),[8]⟩] BY (by kernel_rfl) (by exact⟨λ_ _ h=>⟨R,λ_ _ e=>by cases e⟩,λ_ _ h=>⟨R,λ_ _ e=>by cases e⟩,λ_ _ h=>⟨R,λ_ _ e=>by cases e⟩,λ_ _ h=>⟨R,λ_ _ e=>by cases e⟩,λ_ _ h=>⟨R,λ_ _ e=>by cases e⟩,λ_ _ h=>⟨R,λ_ _ e=>by cases e⟩,λ_ _ h=>⟨R,λ_ _ e=>by cases e⟩,λ_ _ h=>⟨R,λ_ _ e=>by cases e⟩,λ_ _ h=>⟨by simp only[h 8 R],λ_ _ e=>by cases e;simp only[h 8 R]⟩,Za⟩) R (by exact⟨oB [(3,.ptr 3 l 0 0)] [(3,some<|.box l 24 [qa d1.Nodes])]<|fB R Bi (.inl R) (λ_=>R) R,oB [(27,.ptr 3 l 0 0)] [(3,some<|.box l 24 [qa d1.Nodes])]<|Ab (a:=qa d1.Nodes) R Bk (.inl R) R R,oB [(3,.ptr 3 l 0 0)] [(3,some<|.box l 24 [qa d1.Nodes])]<|EK R CG (.inl R) R R,oB [(4,.ptr 4 (l+1) 0 0)] [(4,some<|.box (l+1) 38<|Ek m)]<|fB R LJ (.inl R) (λ_=>R) R,oB [(30,.ptr 4 (l+1) 0 0)] [(4,some<|.box (l+1) 38<|Ek m)]<|Ab (a:=rI m.ID) R AI (.inl R) R R,oD (λ_=>[(29,.agg [qa d1.Nodes]),(31,rI m.ID)]) (λ_=>[]) λI e h' n=>EJ (r:=rI r2) (caps:=[]) (bs:=[.agg [qa d1.Nodes],rI m.ID]) R (.inl R) R ⟨⟨_,(.inl R),.g (cs:=[.sl<|d1.Nodes.map AK.row]) R R⟩,⟨_,(.inl R),.d R⟩,Za⟩ (λ_=>RO<|b3) R,oB [(28,qa d1.Nodes),(32,rI r2)] []<|BA R BH.slice (.inl R) (.inl R) (λ_=>R) λ_=>b4,oB [(33,.rop (AK.row A) 0)] []<|CV (cs:=(Ax A)) R Cs (.inl R) R R,oM (λ_=>[]) (λ_=>[]) R λI e h' n=>BD (cs:=FF) 7 R HJ R R,Za⟩) λI n1=>?_
 refine Bg [2,3,4,7,27,28,29,30,31,32,33,34] [3,4,7,1000] ?_
 refine Zk R R (A0 (ds:=(Ax A)) R GS iL R iL R R R R)<|aZ<|c6 _<|aS λK7 c7 b5=>aU<|lF ET Ea R R<|xL Bx R<|mM R<|aZ<|Ze<|BP h5 λo1 aj b6=>?_
 have J1:∀(a2:List AY) (i5:NN),o1=a2→K7 ⟨[(2,.own 1000<|i5 0),(3,.ptr 3 l 0 0),(4,.ptr 4 (l+1) 0 0),(7,.ptr 7 (I 8) 0 0)],[(3,some<|.box l 24 [qa d1.Nodes]),(4,some<|.box (l+1) 38<|Ek m),(7,some<|.box (I 8) 47<|Ax A),(1000,some<|.arr (i5 0) 38 3<|a2.map AY.row)],(i5 1),157⟩:=by
  intro a2 i5 e
  have h6:=b6 _ e
  refine c7 _<|aS λK9 c9 b7=>aU<|sQ R (fB R Ds iL fR R)<|lF Df Dr R R<|xL Bt R<|mM R<|aZ<|Ze<|BP h6 λo2 ak b8=>?_
  have J2:∀(M:List AY) (Z:NN),o2=M→K9 ⟨[(2,.own 1000<|Z 0),(3,.ptr 3 l 0 0),(4,.ptr 4 (l+1) 0 0),(7,.ptr 7 (I 8) 0 0)],[(3,some<|.box l 24 [qa d1.Nodes]),(4,some<|.box (l+1) 38<|Ek m),(7,some<|.box (I 8) 47<|Ax A),(1000,some<|.arr (Z 0) 38 3<|M.map AY.row)],(Z 1),157⟩:=by
   intro M Z e
   have h7:=b8 _ e
   refine c9 _<|aU<|lF FX GL R R<|Eu h7 λr3 r4 b9 h8=>sS R (DK (r:=.tup [qg r3,rI r4]) (caps:=[]) (bs:=[qf A.Draw]) R iL R ⟨.inl ⟨iL,R⟩,Za⟩ λ_=>l7<|b9)<|mM R<|xX R<|xX R<|mA R<|mA R<|aZ<|aS λba bb al=>aU<|mM R<|mM R<|aZ<|Ze<|BP h8 λo3 an bc=>?_
   have J3:∀(w:List AY) (B:NN),o3=w→ba ⟨[(2,.own 1000<|B 0)],[(1000,some<|.arr (B 0) 38 3<|w.map AY.row)],(B 1),157⟩:=by
    intro w B e
    have h9:=bc _ e
    refine bb _<|aU<|mM R<|mA R<|aZ ?_
    exact Zi<|Zy (s':=⟨[(6,.own 1000<|B 0)],[(1000,some<|.arr (B 0) 38 3<|w.map AY.row)],(B 1),157⟩) wk<|CI (λ(r:(List AY)) rr h'=>∃(i:Nat→Nat),rr=.own 1000 (i 0)∧h'=[(1000,some<|.arr (i 0) 38 3<|r.map AY.row)]) h9<|by exact⟨.own 1000<|B 0,[(1000,some<|.arr (B 0) 38 3<|w.map AY.row)],R,⟨.inr R,Za⟩,R,R,AH [(B 0)],R,R⟩
   refine CX (λ(x9:Int) (F:List AY) C=>⟨[(2,.own 1000<|C 0),(3,.ptr 3 l 0 0),(4,.ptr 4 (l+1) 0 0),(12,qg r3),(117,rI r4),(118,rI x9)],[(3,some<|.box l 24 [qa d1.Nodes]),(4,some<|.box (l+1) 38<|Ek m),(1000,some<|.arr (C 0) 38 3<|F.map AY.row)],(C 1),157⟩) (AH [(Z 0),(Z 1)]) an wk ?_
   intro x9 F C v1 bd be
   have ao:FR d1 m self r3 r4 x9 F=some v1:=bd;unfold FR at ao
   refine aU<|xS R<|aZ<|aT λbf=>cI R ao (λad=>?_) λad=>?_
   ·refine Zc<|bf _<|aS λbg bh a7=>Ze<|BP ad λp1 bi bj=>?_
    have J4:∀(O:List AY) (i16:NN),p1=O→bg ⟨[(2,.own 1000<|i16 0),(3,.ptr 3 l 0 0),(4,.ptr 4 (l+1) 0 0),(12,qg r3),(117,rI r4),(118,rI x9)],[(3,some<|.box l 24 [qa d1.Nodes]),(4,some<|.box (l+1) 38<|Ek m),(1000,some<|.arr (i16 0) 38 3<|O.map AY.row)],(i16 1),157⟩:=by
     intro O i16 e
     have bk:=bj _ e
     exact bh _<|aR<|AE bk λd3 aq bl=>xA R aq<|mM R<|Zh<|ZF bl (AH [(i16 0),(i16 1)]) wk
    refine aU<|mM R<|mA R<|aZ<|aU<|mM R<|mM R<|AE bi λbm ar bn=>xI BM R ar<|sQ R (BJ R Jp iL)<|xV (.sl<|bm.Attrs.map AG.row) CP R<|AE bn λr5 bo bp=>cL (Zr<|bo) R<|AE bp λau av bq=>cL (fj<|av) R<|mA R<|aZ<|aT λbr=>aG [2,3,4,12,15,117,118] [3,4,1000] ?_
    refine aR<|xC CG R<|mM R<|AE bq λk1 bs bt=>cL (RO<|bs) R<|mA R<|aZ<|br _<|aU<|mM R<|sQ R (BU R iL iL)<|mM R<|vM R<|vQ R (Cd R (iR R) iL)<|xN R<|mM R<|vF Bi Bk R R<|vM R<|AE bt λbu aw bv=>vQ R (BA R BH.slice (iR R) (iR R) (λ_=>R)<|Ae aw)<|vQ R (BJ R CO<|iR R)<|vQ R (Bs (d:=.int .i64 bu.Kind) R AI (iR R) R)<|vQ R (A5 R (iR R) iL)<|xN R<|aZ<|cI R bv (λae=>?_) λae=>?_
    ·refine aG [2,3,4,12,15,117,118] [3,4,1000] ?_
     refine aR<|xC CG R<|mM R<|lF LJ AI R R<|lF So Kz R R ?_
     refine sQ R (B7 R PE (q:=[(0,_),(1,_),(2,_)]) (by exact⟨R,R,R,iL,R,R,R,iL,R,R,R,iL,Za⟩) (cs:=[rI au,rI m.ID,rB m.Visible])<|by rfl) ?_
     refine mM R<|AE ae λw1 bw bx=>?_
     refine Zu [1000] (hc:=[(1000,some<|.arr (C 0) 38 3<|F.map AY.row)]) (bs:=[.agg [qa d1.Nodes],.agg [rI au,rI m.ID,rB m.Visible],.own 1000<|C 0]) (caps:=[]) R R R R iL R ⟨.inl ⟨iL,R⟩,.inl ⟨iL,R⟩,.inl ⟨iL,R⟩,Za⟩ ⟨R,R,R,Za⟩ (by decide) (J bw) ?_
     intro bz n2
     refine Bg [3,4,12,15,117,118,146,147,148,149,150,151,152,154] [3,4,1000] ?_
     exact mA R<|Zh<|a7 _ _ wk<|J4 _ (AH [(bz 0),n2]) (Zf bx).symm
    exact Zc<|a7 _ _ wk<|J4 _ (AH [(C 0),(C 1)]) (Zf ae).symm
   exact Zm<|al _ _ wk<|J3 _ (AH [(C 0),(C 1)])<|xH be ad
  refine CX (λ(x6:Int) (V:List AY) i8=>⟨[(2,.own 1000<|i8 0),(3,.ptr 3 l 0 0),(4,.ptr 4 (l+1) 0 0),(7,.ptr 7 (I 8) 0 0),(66,rL A.Grid.Cells),(67,rI x6)],[(3,some<|.box l 24 [qa d1.Nodes]),(4,some<|.box (l+1) 38<|Ek m),(7,some<|.box (I 8) 47<|Ax A),(1000,some<|.arr (i8 0) 38 3<|V.map AY.row)],(i8 1),157⟩) (AH [(i5 0),(i5 1)]) ak wk ?_
  intro x6 V i8 v2 c0 c1
  have ax:FM d1 m self A x6 V=some v2:=c0;unfold FM at ax
  refine aU<|xS R<|aZ<|aT λc3=>cI R ax (λaf=>?_) λaf=>?_
  ·refine Zc<|c3 _<|aS λc5 c8 a8=>Ze<|BP af λp2 ca cb=>?_
   have J5:∀(T:List AY) (a0:NN),p2=T→c5 ⟨[(2,.own 1000<|a0 0),(3,.ptr 3 l 0 0),(4,.ptr 4 (l+1) 0 0),(7,.ptr 7 (I 8) 0 0),(66,rL A.Grid.Cells),(67,rI x6)],[(3,some<|.box l 24 [qa d1.Nodes]),(4,some<|.box (l+1) 38<|Ek m),(7,some<|.box (I 8) 47<|Ax A),(1000,some<|.arr (a0 0) 38 3<|T.map AY.row)],(a0 1),157⟩:=by
    intro T a0 e
    have cc:=cb _ e
    exact c8 _<|aR<|AE cc λd4 ay cd=>xA R ay<|mM R<|Zh<|ZF cd (AH [(a0 0),(a0 1)]) wk
   refine aU<|mM R<|mA R<|aZ<|aU<|sQ R (fB R Ds iL fR R)<|lF Df Dr R R<|mM R<|AE ca λE az cf=>xI Bt R az<|xB ((BR E)) EO R<|sS R (BD (cs:=HO) 10 R Hx R R)<|Zk R R (A0 (ds:=(BR E)) R Hw iL R iL R R R R)<|aZ<|aT λcg=>aG [2,3,4,7,10,66,67] [3,4,7,10,1000] ?_
   refine aR<|lF Dj AI R R<|xU R<|aZ<|cg _<|cI R cf (λag=>?_) λag=>?_
   ·refine aU<|sQ R (fB R Ds iL fR R)<|sQ R (Hg (ds:=(By A.Grid)) R Gb iL R R R)<|lF EP AI R R<|lF Ef AI R R<|AE ag λr6 ch cj=>sS R (DK (r:=.agg<|A3 r6) (caps:=[]) (bs:=[.agg<|By A.Grid,rI E.Row,rI E.Col]) R iL R ⟨.inl ⟨iL,R⟩,.inl ⟨iL,R⟩,.inl ⟨iL,R⟩,Za⟩ λ_=>jE<|ch)<|sS R (BD (cs:=FC) 11 R Hq R R)<|Zk R R (A0 (ds:=(A3 r6)) R GM iL R iL R R R R)<|aZ<|aG [2,3,4,7,10,11,66,67] [3,4,7,10,11,1000] ?_
    refine aR<|xC CG R<|lF Dj AI R R<|lF LJ AI R R<|lF So Kz R R<|mM R<|vF CY AI R R<|vF EP AI R R<|vQ R (A5 R (iR R)<|iR R)<|xN R<|mM R<|vF DB AI R R<|vF Ef AI R R<|vQ R (A5 R (iR R)<|iR R)<|xN R ?_
    refine sQ R (B7 R PE (q:=[(0,_),(1,_),(2,_)]) (by exact⟨R,R,R,iL,R,R,R,iL,R,R,R,iL,Za⟩) (cs:=[rI E.Ref,rI m.ID,rB<|((m.Visible&&(r6.Row=E.Row))&&(r6.Col=E.Col))])<|by rfl) ?_
    refine mM R<|AE cj λw2 ck cl=>?_
    refine Zu [1000] (hc:=[(1000,some<|.arr (i8 0) 38 3<|V.map AY.row)]) (bs:=[.agg [qa d1.Nodes],.agg [rI E.Ref,rI m.ID,rB<|((m.Visible&&(r6.Row=E.Row))&&(r6.Col=E.Col))],.own 1000<|i8 0]) (caps:=[]) R R R R iL R ⟨.inl ⟨iL,R⟩,.inl ⟨iL,R⟩,.inl ⟨iL,R⟩,Za⟩ ⟨R,R,R,Za⟩ (by decide) (J ck) ?_
    intro cm n3
    refine Bg [3,4,7,10,11,66,67,86,87,88,89,90,91,92,93,99,100,106,107,109] [3,4,7,10,11,1000] ?_
    exact mA R<|Zh<|a8 _ _ wk<|J5 _ (AH [(cm 0),n3]) (Zf cl).symm
   exact Zc<|a8 _ _ wk<|J5 _ (AH [(i8 0),((i8 1)+1)]) (Zf ag).symm
  exact Zm<|b7 _ _ wk<|J2 _ (AH [(i8 0),(i8 1)])<|xH c1 af
 refine CX (λ(x3:Int) (X:List AY) i3=>⟨[(2,.own 1000<|i3 0),(3,.ptr 3 l 0 0),(4,.ptr 4 (l+1) 0 0),(7,.ptr 7 (I 8) 0 0),(37,rL A.Flow),(38,rI x3)],[(3,some<|.box l 24 [qa d1.Nodes]),(4,some<|.box (l+1) 38<|Ek m),(7,some<|.box (I 8) 47<|Ax A),(1000,some<|.arr (i3 0) 38 3<|X.map AY.row)],(i3 1),157⟩) (AH [(l+3),n1]) aj wk ?_
 intro x3 X i3 v3 cn cp
 have b0:FQ d1 m self A x3 X=some v3:=cn;unfold FQ at b0
 refine aU<|xS R<|aZ<|aT λcq=>cI R b0 (λah=>?_) λah=>?_
 ·refine Zc<|cq _<|aS λcr cs aa=>Ze<|BP ah λp3 ct cu=>?_
  have J6:∀(U:List AY) (a1:NN),p3=U→cr ⟨[(2,.own 1000<|a1 0),(3,.ptr 3 l 0 0),(4,.ptr 4 (l+1) 0 0),(7,.ptr 7 (I 8) 0 0),(37,rL A.Flow),(38,rI x3)],[(3,some<|.box l 24 [qa d1.Nodes]),(4,some<|.box (l+1) 38<|Ek m),(7,some<|.box (I 8) 47<|Ax A),(1000,some<|.arr (a1 0) 38 3<|U.map AY.row)],(a1 1),157⟩:=by
   intro U a1 e
   have cv:=cu _ e
   exact cs _<|aR<|AE cv λd5 b1 cw=>xA R b1<|mM R<|Zh<|ZF cw (AH [(a1 0),(a1 1)]) wk
  refine aU<|mM R<|mA R<|aZ<|aU<|lF ET Ea R R<|mM R<|AE ct λa6 ab cx=>xI Bx R ab<|sQ R (BJ R DU iL)<|xV (.int .i64 a6.Ref) AI R<|xU R<|aZ<|cI R cx (λai=>?_) λai=>?_
  ·refine aG [2,3,4,7,8,37,38] [3,4,7,1000] ?_
   refine W5 13 BY (by kernel_rfl) R R ?_
   refine AT.step R R R (EK R CG iL R R)<|AT.step R R R (fB R ET iL fR R)<|AT.step R R R (Ab (a:=qe A.Flow) R Ea iL R R)<|AT.step R R R (AN R iL)<|AT.step R R R (BA R Bx.slice iL iL (λ_=>R) λ_=>ab)<|AT.step R R R (BJ R DU iL)<|AT.step R R R (Bs (d:=.int .i64 a6.Ref) R AI iL R)<|AT.step R R R (fB R LJ iL fR R)<|AT.step R R R (Ab (a:=rI m.ID) R AI iL R R)<|AT.step R R R (fB R So iL fR R)<|AT.step R R R (Ab (a:=rB m.Visible) R Kz iL R R) ?_
   refine AT.step R R R (B7 R PE (q:=[(0,_),(1,_),(2,_)]) (by exact⟨R,R,R,iL,R,R,R,iL,R,R,R,iL,Za⟩) (cs:=[rI a6.Ref,rI m.ID,rB m.Visible])<|by rfl) ?_
   refine AT.step R R R (AN R iL)<|AT.nil<|AE ai λw3 cy cz=>?_
   refine Zu [1000] (hc:=[(1000,some<|.arr (i3 0) 38 3<|X.map AY.row)]) (bs:=[.agg [qa d1.Nodes],.agg [rI a6.Ref,rI m.ID,rB m.Visible],.own 1000<|i3 0]) (caps:=[]) R R R R iL R ⟨.inl ⟨iL,R⟩,.inl ⟨iL,R⟩,.inl ⟨iL,R⟩,Za⟩ ⟨R,R,R,Za⟩ (by decide) (J cy) ?_
   intro d0 n4
   refine Bg [3,4,7,8,37,38,48,49,50,51,52,53,54,55,56,57,58,59,61] [3,4,7,1000] ?_
   exact mA R<|Zh<|aa _ _ wk<|J6 _ (AH [(d0 0),n4]) (Zf cz).symm
  exact Zc<|aa _ _ wk<|J6 _ (AH [(i3 0),(i3 1)]) (Zf ai).symm
 exact Zm<|b5 _ _ wk<|J1 _ (AH [(i3 0),(i3 1)])<|xH cp ah
theorem ZD(n:Nat):∀ {l:List AY} {d1:AM} {m:AY} {r:(List AY)} {j:Nat},CA n l d1 m=some r→A9 prog 30 1 [.agg [qa d1.Nodes],.agg<|Ek m,.own 1000 j] [(1000,some<|.arr j 38 3<|l.map AY.row)] (λq h'=>∃(i:Nat→Nat),q=.own 1000 (i 0)∧h'=[(1000,some<|.arr (i 0) 38 3<|r.map AY.row)]):=by
 induction n with
 | zero=>intro l d1 m r j h;exact absurd (show(none:Option ((List AY)))=some r from h)<|by simp
 | succ n w=>intro l d1 m r j h;exact aD (self:=λl d1 m=>CA n l d1 m) (λA=>w A) h
theorem Xj{l:List AY}{d1:AM}{m:AY}{r:(List AY)}{j:Nat}(h:On l d1 m=some r):A9 prog 30 1 [.agg [qa d1.Nodes],.agg<|Ek m,.own 1000 j] [(1000,some<|.arr j 38 3<|l.map AY.row)] (λw h'=>∃(i:Nat→Nat),w=.own 1000 (i 0)∧h'=[(1000,some<|.arr (i 0) 38 3<|r.map AY.row)]):=by
 unfold On at h
 by_cases q:∃n r,CA n l d1 m=some r
 ·rw[pr q] at h;exact ZD _ h
 ·rw[dif_neg q] at h;cases h
theorem gR{d1 r}(h:KP d1=some r):AX prog 10 [.agg [qa d1.Nodes]] (qh r):=by
 unfold KP at h
 refine mF func10 ntmps10 R λl=>aU<|sS R (A4 (cs:=[qa d1.Nodes]) 1 R iL R R)<|mA R<|aZ<|aT λm=>aR<|xC CG R ?_
 refine sQ R (B7 R PE (q:=[(0,_),(1,_),(2,_)]) (by exact⟨R,R,R,iL,R,R,R,iL,R,R,R,iL,Za⟩) (cs:=[rI 1,rI 0,rB true])<|by rfl) ?_
 refine AE h λw j q=>?_
 refine W6 7905 38 3 R [7905] (hc:=[(1000,some<|.arr (l+1) 38 3<|([]:List AY).map AY.row)]) (bs:=[.agg [qa d1.Nodes],.agg [rI 1,rI 0,rB true],.own 1000<|l+1]) (caps:=[]) R R R R iL R ⟨.inl<|.inl ⟨iL,R⟩,.inl<|.inl ⟨iL,R⟩,.inr ⟨iL,R,R⟩,Za⟩ ⟨R,R,R,Za⟩ (by decide) (Xj j) ?_
 intro A B
 refine Bg [0,1,2,3,4,5] [1,7905] ?_
 exact mA R<|aZ<|m _<|Zi<|Cf (P:=prog) (λ(r:(List AY))=>qh r) q iL<|.t<|.one<|.own R
theorem XC{i r}(h:Pm i=some r):AX prog 31 [rI i] (rI r):=by
 unfold Pm at h
 exact mF func31 ntmps31 R λj=>aU<|mA R<|aZ<|aU<|mM R<|sQ R (Pc (b:=16) R iL iL)<|mA R<|aZ<|Zi<|yI h R
theorem iB{d1 s r}(h:Fe d1 s=some r):AX prog 13 [.agg [qa d1.Nodes],rI s] (.tup [rI r.1,rI r.2]):=by
 unfold Fe at h
 refine mF func13 ntmps13 R λn0=>aU<|sS R (A4 (cs:=[qa d1.Nodes]) 2 R iL R R)<|mA R<|mA R<|aZ<|aT λc2=>aU<|xC CG R<|AE h λe1 F h1=>cL (SB<|F) R<|mA R<|aZ<|aU<|mM R<|xU R<|aZ<|cI R h1 (λI=>?_) λI=>?_
 ·refine aT λc5=>aF [6] ?_
  exact aR<|mM R<|mA R<|mA R<|aZ<|c5 _<|Zi<|Cy (P:=prog) (λ(r:Int × Int)=>rI r.1) (λ(r:Int × Int)=>rI r.2) I iL (.t<|.d R)<|.t<|.d R
 refine Zc<|c2 _<|aT λc6=>aU<|mM R<|xS R<|mM R<|vM R<|vQ R (BU R (iR R) iL)<|xO R<|aZ<|cI R I (λJ=>?_) λJ=>?_
 ·refine aT λc8=>aF [] ?_
  exact aR<|mA R<|mA R<|aZ<|c8 _<|Zi<|Cy (P:=prog) (λ(r:Int × Int)=>rI r.1) (λ(r:Int × Int)=>rI r.2) J iL (.t<|.d R)<|.t<|.d R
 refine Zc<|c6 _<|aT λc9=>aG [1,2] [2] ?_
 refine aR<|mM R<|sQ R (IZ (b:=16) R iL iL)<|mA R<|aZ<|c9 _<|aS λM O A=>aU<|lF Bi Bk R R<|xL BH R<|mM R<|aZ<|Ze<|BP J λo1 B T=>?_
 have J1:∀(j:Int) (i5:NN),o1=j→M ⟨[(7,rI j)],[],(i5 0),43⟩:=by
  intro j i5 e
  have h4:=T _ e
  refine O _<|aT λU=>aU<|mM R<|sQ R (Fq R iL iL)<|xQ R<|aZ<|cI R h4 (λV=>?_) λV=>?_
  ·exact aU<|mA R<|mA R<|aZ<|Zi<|Cy (P:=prog) (λ(r:Int × Int)=>rI r.1) (λ(r:Int × Int)=>rI r.2) V iL (.t<|.d R)<|.t<|.d R
  exact Zc<|U _<|aU<|mM R<|AE V λx4 X h6=>xA R X<|mA R<|mA R<|aZ<|Zi<|Cy (P:=prog) (λ(r:Int × Int)=>rI r.1) (λ(r:Int × Int)=>rI r.2) h6 iL (.t<|.d R)<|.t<|.d R
 refine CX (λ(l:Int) (E:Int) C=>⟨[(1,rI s),(7,rI l),(24,qa d1.Nodes),(25,rL d1.Nodes),(26,rI E)],[],(C 0),43⟩) (AH [(n0+1)]) B wk ?_
 intro l E C v1 Z a0
 have h7:HM d1 s l E=some v1:=Z;unfold HM at h7
 refine aU<|xS R<|aZ<|aT λa1=>cI R h7 (λh8=>?_) λh8=>?_
 ·refine Zc<|a1 _<|aS λa2 a6 q=>Ze<|BP h8 λp1 a7 a8=>?_
  have J2:∀(m:Int) (i6:NN),p1=m→a2 ⟨[(1,rI s),(7,rI m),(24,qa d1.Nodes),(25,rL d1.Nodes),(26,rI E)],[],(i6 0),43⟩:=by
   intro m i6 e
   have h9:=a8 _ e
   exact a6 _<|aR<|AE h9 λx5 aa ab=>xA R aa<|mM R<|Zh<|ZF ab (AH [(i6 0)]) wk
  refine aU<|AE a7 λx6 ac ad=>xI BH R ac<|xB ((Ax x6)) Cs R<|sS R (BD (cs:=FF) 9 R HJ R R)<|Zk R R (A0 (ds:=(Ax x6)) R GS iL R iL R R R R)<|aZ<|aU<|lF Cn AI R R<|AE ad λr1 ae af=>cL (XC<|ae) R<|mM R<|xQ R<|aZ<|cI R af (λw=>?_) λw=>?_
  ·refine aG [1,9,24,25,26] [9] ?_
   exact aR<|lF Cn AI R R<|mA R<|Zh<|q _ _ wk<|J2 _ (AH [((C 0)+1)]) (Zf w).symm
  exact Zc<|q _ _ wk<|J2 _ (AH [((C 0)+1)]) (Zf w).symm
 exact Zm<|A _ _ wk<|J1 _ (AH [(C 0)])<|xH a0 h8
theorem dO{d1 r}(h:Ln d1=some r):A9 prog 21 1 [.agg [qa d1.Nodes]] [] (λF h'=>∃(i:Nat→Nat),F=.agg [.own 1000<|i 0]∧h'=[(1000,some<|.arr (i 0) 47 9<|r.map AK.row)]):=by
 unfold Ln at h
 refine EB func21 R R ntmps21 (Zo R) λj=>aU<|sS R (A4 (cs:=[qa d1.Nodes]) 1 R iL R R)<|sS R (BD (cs:=[cZ]) 2 R Ij R R)<|aZ<|aT λc2=>aR<|lF Bi Bk R R<|xL BH R<|AE h λl1 I h1=>sS R (Tk 1000 R BH (f:=AK.row) (z0:=(AK.mk 0 0 [] [] (Av.mk 0 0 [] []) [])) UH iL iL I) ?_
 refine sQ R (B7 R P3 (q:=[(0,_)]) (by exact⟨R,R,R,iL,Za⟩) (cs:=[.own 1000<|j+2])<|by rfl) ?_
 refine sS R (BD (cs:=[cZ]) 3 R Ij R R)<|Zk R R (A0 (ds:=[.own 1000<|j+2]) R Hz iL R iL R R R R)<|aZ<|c2 _<|aS λK3 c3 J=>aU<|lF Bi Bk R R<|xL BH R<|mM R<|aZ<|Ze<|BP h1 λo1 B M=>?_
 have J1:∀(l:AM) (q:NN),o1=l→K3 ⟨[(2,.ptr 2 (j+1) 0 0),(3,.ptr 3 (j+3) 0 0)],[(2,some<|.box (j+1) 24 [cZ]),(3,some<|.box (j+3) 24 [.own 1000<|q 0]),(1000,some<|.arr (q 0) 47 9<|l.Nodes.map AK.row)],(q 1),27⟩:=by
  intro l q e
  have h2:=M _ e
  refine c3 _<|aU<|xC CG R<|Zk R R (A0 (ds:=[.own 1000<|q 0]) R Hz iL R iL R R R R)<|aZ ?_
  exact Zi<|Zy (s':=⟨[(2,.ptr 2 (j+1) 0 0)],[(2,some<|.box (j+1) 24 [.own 1000<|q 0]),(1000,some<|.arr (q 0) 47 9<|l.Nodes.map AK.row)],(q 1),27⟩) wk<|CI (λ(r:(List AK)) F h'=>∃(i:Nat→Nat),F=.agg [.own 1000<|i 0]∧h'=[(1000,some<|.arr (i 0) 47 9<|r.map AK.row)]) h2<|by exact⟨.agg [.own 1000<|q 0],[(1000,some<|.arr (q 0) 47 9<|l.Nodes.map AK.row)],.inr ⟨_,R,CG,_,_,_,R,R⟩,⟨.inr R,Za⟩,R,R,AH [(q 0)],R,R⟩
 refine CX (λ(C:Int) (w:AM) m=>⟨[(2,.ptr 2 (j+1) 0 0),(3,.ptr 3 (j+3) 0 0),(12,qa d1.Nodes),(13,rL d1.Nodes),(14,rI C)],[(2,some<|.box (j+1) 24 [cZ]),(3,some<|.box (j+3) 24 [.own 1000<|m 0]),(1000,some<|.arr (m 0) 47 9<|w.Nodes.map AK.row)],(m 1),27⟩) (AH [(j+2),(j+4)]) B wk ?_
 intro C w m v1 O T
 have h3:Of d1 C w=some v1:=O;unfold Of at h3
 refine aU<|xS R<|aZ<|aT λc7=>cI R h3 (λU=>?_) λU=>?_
 ·refine Zc<|c7 _<|aT λc8=>Ze<|aU<|mM R<|AE U λA V h5=>xI BH R V<|xB ((Ax A)) Cs R<|sS R (BD (cs:=FF) 5 R HJ R R)<|mA R<|Zk R R (A0 (ds:=(Ax A)) R GS iL R iL R R R R)<|aZ<|AE h5 λX Z h6=>?_
  refine rP 5 [pO 19<|.ptr 3 (j+3) 0 0,pO 20<|.own 1000<|m 0,pO 21<|rI C,pO 22<|.agg<|Ax A,pO 23<|.agg<|Ax X] BY R (by exact⟨oB [(3,.ptr 3 (j+3) 0 0)] [(3,some<|.box (j+3) 24 [.own 1000<|m 0])]<|fB R Bi (.inl R) (λ_=>R) R,oB [(19,.ptr 3 (j+3) 0 0)] [(3,some<|.box (j+3) 24 [.own 1000<|m 0])]<|Ab (a:=.own 1000<|m 0) R Bk (.inl R) R R,oB [(4,rI C)] []<|AN R<|.inl R,oB [(5,.ptr 5 (m 1) 0 0)] [(5,some<|.box (m 1) 47<|Ax A)]<|EK R Cs (.inl R) R R,oD (λ_=>[(22,.agg<|Ax A)]) (λ_=>[]) λG1 e h' n=>DK (r:=.agg<|Ax X) (caps:=[]) (bs:=(Gc A)) R (.inl R) R ⟨.inl ⟨(.inl R),R⟩,Za⟩ λ_=>ke<|Z,Za⟩) λG1 n1=>?_
  refine Bg [2,3,4,5,12,13,14,15,16,17,18,19,20,21,22,23] [2,3,5,1000] ?_
  refine AE h6 λx5 E h7=>sQ R (Ew R BH.slice iL R iL λ_=>E)<|Zk R R (QP (v:=X) R GS iL R E iL R R R R)<|aZ<|c8 _<|aG [2,3,12,13,14] [2,3,1000] ?_
  exact aR<|AE h7 λx6 a0 h8=>xA R a0<|mM R<|Zh<|ZF h8 (AH [(m 0),n1]) wk
 exact Zm<|J _ _ wk<|J1 _ (AH [(m 0),(m 1)])<|xH T U
theorem VP{l:List Int}{n1:AK}{r:Bool}{j:Nat}(h:JH l n1=some r):A9 prog 33 1 [.agg<|Ax n1,.ptr 1000 j 0 0] [(1000,some<|.box j 26 [.r<|.sl<|l.map<|Ad .i64])] (λm h'=>∃(i:Nat→Nat),m=rB r∧h'=[(1000,some<|.box j 26 [.r<|.sl<|l.map<|Ad .i64])]):=by
 unfold JH at h
 refine EB func33 R R ntmps33 (Zo R) λA=>aU<|sS R (A4 (cs:=(Ax n1)) 2 R iL R R)<|mA R<|aZ<|aU<|sQ R (Ab (a:=.r<|.sl<|l.map<|Ad .i64) R dH iL R R)<|lF Cn AI R R<|AE h λw q B=>cL (Wa<|q) R<|mA R<|aZ ?_
 exact Zi<|Zy (s':=⟨[(3,rB w)],[(1000,some<|.box j 26 [.r<|.sl<|l.map<|Ad .i64])],(A+1),8⟩) wk<|CI (λ(r:Bool) m h'=>∃(i:Nat→Nat),m=rB r∧h'=[(1000,some<|.box j 26 [.r<|.sl<|l.map<|Ad .i64])]) B<|by exact⟨rB w,[(1000,some<|.box j 26 [.r<|.sl<|l.map<|Ad .i64])],R,⟨.inr R,Za⟩,R,R,AH [],R,R⟩
theorem kz{m:List AK}{q:List Int}{r:Int}{l:Nat}{j:Nat}(h:Ke m q=some r):A9 prog 61 2 [.own 1000 l,.fn 33 [.ptr 1001 j 0 0]] [(1000,some<|.arr l 47 9<|m.map AK.row),(1001,some<|.box j 26 [.r<|.sl<|q.map<|Ad .i64])] (λw h'=>∃(i:Nat→Nat),w=rI r∧h'=[(1000,some<|.arr l 47 9<|m.map AK.row),(1001,some<|.box j 26 [.r<|.sl<|q.map<|Ad .i64])]):=by
 unfold Ke at h
 refine EB func61 R R ntmps61 (Zo R) λn0=>aU<|mA R<|aZ<|aS λK2 C2 F=>aU<|mM R<|sQ R (IX R BH.slice iL R)<|mM R<|aZ<|Ze<|BK h λo1 A I J=>?_
 have J1:∀(u2:Unit) (M:NN),o1=.nrm u2→K2 ⟨[],[(1000,some<|.arr l 47 9<|m.map AK.row),(1001,some<|.box j 26 [.r<|.sl<|q.map<|Ad .i64])],(M 0),19⟩:=by
  intro u2 M e
  have h1:=I _ e
  refine C2 _<|aU<|mA R<|aZ ?_
  exact Zi<|Zy (s':=⟨[(4,rI<|(-1))],[(1000,some<|.arr l 47 9<|m.map AK.row),(1001,some<|.box j 26 [.r<|.sl<|q.map<|Ad .i64])],(M 0),19⟩) wk<|CI (λ(r:Int) w h'=>∃(i:Nat→Nat),w=rI r∧h'=[(1000,some<|.arr l 47 9<|m.map AK.row),(1001,some<|.box j 26 [.r<|.sl<|q.map<|Ad .i64])]) h1<|by exact⟨rI<|(-1),[(1000,some<|.arr l 47 9<|m.map AK.row),(1001,some<|.box j 26 [.r<|.sl<|q.map<|Ad .i64])],R,⟨.inr R,.inr R,Za⟩,R,R,AH [],R,R⟩
 refine Zw (λ(B:Int) O=>⟨[(0,.own 1000 l),(1,.fn 33 [.ptr 1001 j 0 0]),(7,rL m),(8,rI B)],[(1000,some<|.arr l 47 9<|m.map AK.row),(1001,some<|.box j 26 [.r<|.sl<|q.map<|Ad .i64])],(O 0),19⟩) (AH [n0]) A wk ?_
 intro B O v1 T C
 have h2:LH m q B=some v1:=T;unfold LH at h2
 refine aU<|xS R<|aZ<|aT λC6=>cI R h2 (λU=>?_) λU=>?_
 ·refine Zc<|C6 _<|aT λC7=>Ze<|aU<|mM R<|mA R<|aZ<|aT λC9=>aR<|mM R<|mM R<|mM R<|AE U λx4 E h4=>sQ R (Ew R BH.slice iL R iL λ_=>E)<|sQ R (QO (cs:=(Ax x4)) R Cs iL fR (λ_=>E) R)<|AE h4 λr1 V h5=>?_
  refine Zu [1001] (hc:=[(1000,some<|.box j 26 [.r<|.sl<|q.map<|Ad .i64])]) (bs:=(Gc x4)) (caps:=[.ptr 1000 j 0 0]) R R R R iL R ⟨.inl ⟨iL,R⟩,Za⟩ ⟨R,R,R,Za⟩ (by decide) (VP V) ?_
  intro i6 n1
  refine Bg [0,1,5,7,8,9,10,11,12,13,15,16] [1000,1001] ?_
  refine aZ<|C9 _<|cI R h5 (λX=>?_) λX=>?_
  ·refine aT λZ=>aG [5] [1000,1001] ?_
   refine aR<|mM R<|mA R<|oZ Z ?_
   exact Zi<|Zy (s':=⟨[(4,rI B)],[(1000,some<|.arr l 47 9<|m.map AK.row),(1001,some<|.box j 26 [.r<|.sl<|q.map<|Ad .i64])],n1,19⟩) wk<|CI (λ(r:Int) w h'=>∃(i:Nat→Nat),w=rI r∧h'=[(1000,some<|.arr l 47 9<|m.map AK.row),(1001,some<|.box j 26 [.r<|.sl<|q.map<|Ad .i64])]) (J _<|xH C X)<|by exact⟨rI B,[(1000,some<|.arr l 47 9<|m.map AK.row),(1001,some<|.box j 26 [.r<|.sl<|q.map<|Ad .i64])],R,⟨.inr R,.inr R,Za⟩,R,R,AH [],R,R⟩
  exact Zc<|C7 _<|aR<|AE X λx5 a0 h7=>xA R a0<|mM R<|Zh<|Zt h7 (AH [n1]) wk
 exact Zm<|F _ _ wk<|J1 _ (AH [(O 0)])<|xH C U
theorem YG{B:List AK}{m:List Int}{r:(List AK)}{l:Nat}{j:Nat}(h:NR B m=some r):A9 prog 32 2 [.own 1000 l,.fn 33 [.ptr 1001 j 0 0]] [(1000,some<|.arr l 47 9<|B.map AK.row),(1001,some<|.box j 26 [.r<|.sl<|m.map<|Ad .i64])] (λJ h'=>∃(i:Nat→Nat),J=qa r∧h'=[(1001,some<|.box j 26 [.r<|.sl<|m.map<|Ad .i64])]):=by
 unfold NR at h
 refine EB func32 R R ntmps32 (Zo R) λn0=>aU<|mA R<|aZ<|aT λC2=>aR<|mM R<|mM R<|AE h λV a0 h1=>?_
 refine Zu [1000,1001] (hc:=[(1000,some<|.arr l 47 9<|B.map AK.row),(1001,some<|.box j 26 [.r<|.sl<|m.map<|Ad .i64])]) (bs:=[.own 1000 l,.fn 33 [.ptr 1001 j 0 0]]) (caps:=[]) R R R R iL R ⟨.inl ⟨iL,R⟩,.inl ⟨iL,R⟩,Za⟩ ⟨R,R,R,R,R,R,Za⟩ (by decide) (kz a0) ?_
 intro i2 n1
 refine Bg [0,1,4,8,9,10] [1000,1001] ?_
 refine mA R<|aZ<|C2 _<|aT λC3=>aU<|mM R<|xQ R<|aZ<|cI R h1 (λh2=>?_) λh2=>?_
 ·refine aU<|mM R<|mA R<|aZ ?_
  exact Zi<|Zy (s':=⟨[(4,qa B)],[(1001,some<|.box j 26 [.r<|.sl<|m.map<|Ad .i64])],n1,42⟩) (Zx (by exact Am.frz (e':=[(0,qa B),(1,.fn 33 [.ptr 1001 j 0 0]),(4,qa B),(5,rI V),(8,qa B),(9,.fn 33 [.ptr 1001 j 0 0]),(10,rI V),(11,rI V),(12,rB<|(decide<|V=(-1))),(13,qa B)]) (h':=[(1001,some<|.box j 26 [.r<|.sl<|m.map<|Ad .i64])]) 1000 R ⟨.inl<|.inr<|.inr ⟨R,R⟩,jL,.inl<|.inr<|.inr ⟨R,R⟩,jL,.inl<|.inr<|.inr ⟨R,R⟩,jL,jL,jL,jL,.inl<|.inr<|.inr ⟨R,R⟩,Za⟩ ⟨R,.inl R,Za⟩) wk)<|CI (λ(r:(List AK)) J h'=>∃(i:Nat→Nat),J=qa r∧h'=[(1001,some<|.box j 26 [.r<|.sl<|m.map<|Ad .i64])]) h2<|by exact⟨qa B,[(1001,some<|.box j 26 [.r<|.sl<|m.map<|Ad .i64])],R,⟨.inr R,Za⟩,R,R,AH [],R,R⟩
 refine Zc<|C3 _<|aS λK6 C6 a1=>aU<|mM R<|AE h2 λj1 a2 h3=>xA R a2<|mA R<|aZ<|Ze<|GU h3 λo1 M a6=>?_
 have J1:∀(q:Int) (s5:List AK) (A:NN),o1=(q,s5)→K6 ⟨[(0,.own 1000<|A 0),(5,rI q)],[(1000,some<|.arr (A 0) 47 9<|s5.map AK.row),(1001,some<|.box j 26 [.r<|.sl<|m.map<|Ad .i64])],(A 1),42⟩:=by
  intro q s5 A e
  have h4:=a6 _ _ e
  refine C6 _<|aU<|mM R<|mM R<|AE h4 λl1 a7 h5=>mX (f:=AK.row) (z0:=(AK.mk 0 0 [] [] (Av.mk 0 0 [] []) [])) R R R R R R R BH UH iL R ⟨_,iL⟩ a7<|aZ<|aT λC9=>aR<|mM R<|mM R ?_
  refine AO.weak (by exact Am.frz (e':=[(0,qa l1),(5,rI q),(36,qa l1),(37,rI q),(39,qa l1),(40,rI q)]) (h':=[(1001,some<|.box j 26 [.r<|.sl<|m.map<|Ad .i64])]) 1000 R ⟨.inl<|.inr<|.inr ⟨R,R⟩,jL,.inl<|.inr<|.inr ⟨R,R⟩,jL,.inl<|.inr<|.inr ⟨R,R⟩,jL,Za⟩ ⟨R,.inl R,Za⟩) ?_
  refine AE h5 λl2 a8 h6=>?_
  refine sQ R (RU R BH.slice iL (by exact R) (by exact⟨_,iL⟩) (λ_=>R) λ_=>a8) ?_
  refine mA R<|oZ C9 ?_
  exact Zi<|Zy (s':=⟨[(4,qa l2)],[(1001,some<|.box j 26 [.r<|.sl<|m.map<|Ad .i64])],(A 1),42⟩) wk<|CI (λ(r:(List AK)) J h'=>∃(i:Nat→Nat),J=qa r∧h'=[(1001,some<|.box j 26 [.r<|.sl<|m.map<|Ad .i64])]) h6<|by exact⟨qa l2,[(1001,some<|.box j 26 [.r<|.sl<|m.map<|Ad .i64])],R,⟨.inr R,Za⟩,R,R,AH [],R,R⟩
 refine Hy (λ(i6:Int) (X:Int) (s3:List AK) C=>⟨[(0,.own 1000<|C 0),(1,.fn 33 [.ptr 1001 j 0 0]),(5,rI i6),(6,rI X)],[(1000,some<|.arr (C 0) 47 9<|s3.map AK.row),(1001,some<|.box j 26 [.r<|.sl<|m.map<|Ad .i64])],(C 1),42⟩) (AH [l,n1]) M wk ?_
 intro i6 X s3 C v1 aa ab
 have h7:I2 m i6 X s3=some v1:=aa;unfold I2 at h7
 refine aT λac=>aU<|mM R<|mM R<|sQ R (IX R BH.slice iL R)<|xS R<|aZ<|cI R h7 (λh8=>?_) λh8=>?_
 ·refine Zc<|ac _<|aS λad ae E=>Ze<|GU h8 λp1 af ag=>?_
  have J2:∀(F:Int) (s6:List AK) (w:NN),p1=(F,s6)→ad ⟨[(0,.own 1000<|w 0),(1,.fn 33 [.ptr 1001 j 0 0]),(5,rI F),(6,rI X)],[(1000,some<|.arr (w 0) 47 9<|s6.map AK.row),(1001,some<|.box j 26 [.r<|.sl<|m.map<|Ad .i64])],(w 1),42⟩:=by
   intro F s6 w e
   have h9:=ag _ _ e
   exact ae _<|aR<|mM R<|AE h9 λj5 ah ai=>xA R ah<|mA R<|Zh<|E9.mk ai (AH [(w 0),(w 1)]) wk
  refine aU<|mM R<|mM R<|AE af λZ O aj=>sQ R (Ew R BH.slice iL R iL λ_=>O)<|sQ R (QO (cs:=(Ax Z)) R Cs iL fR (λ_=>O) R)<|sS R (BD (cs:=FF) 7 R HJ R R)<|Zk R R (A0 (ds:=(Ax Z)) R GS iL R iL R R R R)<|aZ<|aT λak=>aR<|mM R<|xC Cs R<|AE aj λr1 al an=>?_
  refine Zu [1001] (hc:=[(1000,some<|.box j 26 [.r<|.sl<|m.map<|Ad .i64])]) (bs:=(Gc Z)) (caps:=[.ptr 1000 j 0 0]) R R R R iL R ⟨.inl ⟨iL,R⟩,Za⟩ ⟨R,R,R,Za⟩ (by decide) (VP al) ?_
  intro au n2
  refine Bg [0,1,5,6,7,16,17,18,19,22,23,25,26,27,28] [7,1000,1001] ?_
  refine sQ R (A6 R iL)<|aZ<|ak _<|cI R an (λI=>?_) λI=>?_
  ·refine aT λao=>aG [0,1,5,6,7] [7,1000,1001] ?_
   exact aR<|mM R<|mM R<|xC Cs R<|AE I λx2 T aq=>sQ R (Ew R BH.slice iL R iL λ_=>T)<|Zk R R (QP (v:=Z) R GS iL R T iL R R R R)<|aZ<|ao _<|aR<|mM R<|AE aq λav U ar=>xA R U<|mA R<|Zh<|E _ _ wk<|J2 _ _ (AH [(C 0),n2]) (Zf ar).symm
  exact Zc<|E _ _ wk<|J2 _ _ (AH [(C 0),n2]) (Zf I).symm
 exact Zm<|a1 _ _ wk<|J1 _ _ (AH [(C 0),(C 1)])<|xH ab h8
theorem d6{d1 r}(h:JG d1=some r):AX prog 14 [.agg [qa d1.Nodes]] (.tup [.agg [qa r.1.Nodes],rI r.2]):=by
 unfold JG at h
 refine mF func14 ntmps14 R λj=>aU<|sS R (A4 (cs:=[qa d1.Nodes]) 1 R iL R R)<|sS R (BD (cs:=[cZ]) 2 R Ij R R)<|mA R<|aZ<|aU<|xC CG R<|Eu h λl E m F=>sS R (DK (r:=.tup [.r<|.sl<|l.map<|Ad .i64,rI E]) (caps:=[]) (bs:=[.agg [qa d1.Nodes]]) R iL R ⟨.inl ⟨iL,R⟩,Za⟩ λ_=>lL<|m)<|mM R<|xX R<|xX R<|sS R (BD (cs:=[cZ]) 4 R iZ R R)<|Zk R R (A0 (ds:=[.r<|.sl<|l.map<|Ad .i64]) R Z5 iL R iL R R R R)<|mA R<|aZ<|aT λI=>aU<|mM R<|xU R<|aZ<|cI R F (λq=>?_) λq=>?_
 ·refine aT λJ=>aG [2,5] [2] ?_
  refine aR ?_
  refine sQ R (B7 R P3 (q:=[]) (by exact Za) (cs:=[cZ])<|by rfl) ?_
  refine mM R<|Zk R R (A0 (ds:=[cZ]) R Hz iL R iL R R R R)<|mA R<|oZ J ?_
  exact Zi<|Cy (P:=prog) (λ(r:AM × Int)=>.agg [qa r.1.Nodes]) (λ(r:AM × Int)=>rI r.2) q iL (.a CG R R R<|.agg<|by exact⟨.nil,Za⟩)<|.t<|.d R
 refine Zc<|I _<|aT λM=>aG [1,2,4] [1,2,4] ?_
 refine aR<|xC CG R<|AE q λO w T=>?_
 refine Zu [17] (hc:=[]) (bs:=[.agg [qa d1.Nodes]]) (caps:=[]) R R R R iL R ⟨.inl ⟨iL,R⟩,Za⟩ Za (by decide) (dO w) ?_
 intro A X
 refine Bg [1,2,4,16,17] [1,2,4,17] ?_
 refine sS R (BD (cs:=[cZ]) 6 R Ij R R)<|Zk R R (A0 (ds:=[.own 17<|A 0]) R Hz iL R iL R R R R)<|aZ<|M _<|aT λU=>aR<|lF Bi Bk R R ?_
 refine sQ R (Km (bs:=[.ptr 4 (j+2) 0 0]) R<|by exact⟨iL,Za⟩) ?_
 refine AE T λB C V=>?_
 refine Zu [17,4] (hc:=[(1000,some<|.arr (A 0) 47 9<|O.map AK.row),(1001,some<|.box (j+2) 26 [.r<|.sl<|l.map<|Ad .i64])]) (bs:=[.own 1000<|A 0,.fn 33 [.ptr 1001 (j+2) 0 0]]) (caps:=[]) R R R R iL R ⟨.inl ⟨iL,R⟩,.inl ⟨iL,R⟩,Za⟩ ⟨R,R,R,R,R,R,Za⟩ (by decide) (YG C) ?_
 intro Z n2
 refine Bg [1,2,4,6,16,18,20,21] [1,2,4,6] ?_
 exact sQ R (fB R Bi iL fR R)<|Zk R R (A0 (ds:=[qa B]) R WS iL R iL R R R R)<|aZ<|U _<|aU<|xC CG R<|Zk R R (A0 (ds:=[qa B]) R Hz iL R iL R R R R)<|mA R<|aZ<|Zi<|Cy (P:=prog) (λ(r:AM × Int)=>.agg [qa r.1.Nodes]) (λ(r:AM × Int)=>rI r.2) V iL (.a CG R R R<|.g (cs:=[.sl<|B.map AK.row]) R R)<|.t<|.d R
theorem ZI{d1 s r}(h:O6 d1 s=some r):AX prog 4 [.agg [qa d1.Nodes],rI s] (rB r):=by
 unfold O6 at h
 refine mF func4 ntmps4 R λj=>aU<|sS R (A4 (cs:=[qa d1.Nodes]) 2 R iL R R)<|mA R<|aZ<|aT λc2=>aU<|AE h λr1 al h1=>cL (fD<|al) R<|sQ R (A6 R iL)<|aZ<|cI R h1 (λh2=>?_) λh2=>?_
 ·exact zB h2 R id
 refine Zc<|c2 _<|aU<|xC CG R<|mM R<|Eu h2 λU V an h3=>cL (iB<|an) R<|mM R<|xX R<|xX R<|mA R<|mA R<|aZ<|aT λc6=>aG [1,2,5,6] [2] ?_
 refine aR<|xC CG R<|Eu h3 λJ r5 ao h4=>sS R (DK (r:=.tup [.agg [qa J.Nodes],rI r5]) (caps:=[]) (bs:=[.agg [qa d1.Nodes]]) R iL R ⟨.inl ⟨iL,R⟩,Za⟩ λ_=>d6<|ao)<|mM R<|xX R<|xX R<|sS R (BD (cs:=[cZ]) 7 R Ij R R)<|Zk R R (A0 (ds:=[qa J.Nodes]) R Hz iL R iL R R R R)<|mA R<|aZ<|c6 _<|aT λc7=>aU<|xC CG R<|AE h4 λf1 aq h5=>cL (dP<|aq) R<|mA R<|aZ<|aU<|mM R<|xU R<|aZ<|cI R h5 (λh6=>?_) λh6=>?_
 ·refine aT λar=>aG [5,6,7,8,9] [7] ?_
  exact aR<|mM R<|mM R<|xQ R<|mM R<|vM R<|vM R<|vQ R (A5 R (iR R)<|iR R)<|xN R<|mM R<|vM R<|vQ R (A5 R (iR R) iL)<|xN R<|mM R<|vF Bi Bk R R<|vQ R (DP R BH.slice<|iR R)<|vQ R (A5 R (iR R) iL)<|xN R<|mA R<|aZ<|ar _<|Zi<|yB h6 R
 refine Zc<|c7 _<|aT λau=>aG [1,2,5,6,7,8] [2,7] ?_
 refine aR<|xC CG R<|AE h6 λt1 av h7=>sS R (DK (r:=qh t1) (caps:=[]) (bs:=[.agg [qa d1.Nodes]]) R iL R ⟨.inl ⟨iL,R⟩,Za⟩ λ_=>gR<|av)<|mA R<|aZ<|au _<|aU<|sS R (BD (cs:=[cZ]) 11 R Ij R R)<|aZ<|aS λaw ax ab=>aU<|lF Bi Bk R R<|xL BH R<|mM R<|aZ<|Ze<|BP h7 λo1 ac ay=>?_
 have J1:∀(l:AM) (i5:NN),o1=l→aw ⟨[(1,rI s),(2,.ptr 2 j 0 0),(5,rI U),(6,rI V),(7,.ptr 7 (j+1) 0 0),(8,rI r5),(11,.ptr 11 (j+2) 0 0)],[(2,some<|.box j 24 [qa d1.Nodes]),(7,some<|.box (j+1) 24 [qa J.Nodes]),(11,some<|.box (j+2) 24 [.own 76<|i5 0]),(76,some<|.arr (i5 0) 47 9<|l.Nodes.map AK.row)],(i5 1),140⟩:=by
  intro l i5 e
  have h8:=ay _ e
  refine ax _<|aT λaz=>aT λb0=>aR<|mM R<|xU R<|mM R<|vQ R (EK R CG iL R R)<|vQ R (EK R CG iL R R)<|AE h8 λr6 b1 h9=>?_
  refine AO.stepW (.one R R R) R R (EJ (r:=rB r6) (caps:=[]) (bs:=[.agg [qa J.Nodes],.agg [qa l.Nodes]]) R iL R ⟨⟨_,(iR R),.g (cs:=[.sl<|J.Nodes.map AK.row]) R R⟩,⟨_,(iR R),.agg<|by exact⟨.own R,Za⟩⟩,Za⟩ (λhg=>Vr<|Ae b1 hg) R) ?_
  refine vQ R (A6 R<|iR R)<|xO R<|aZ<|b0 _<|cI R h9 (λX=>?_) λX=>?_
  ·exact zB X R id
  refine Zc<|az _<|aT λb2=>aT λb3=>aG [1,2,5,6] [2] ?_
  refine aR<|mM R<|AE X λr7 b4 b5=>cL (DF<|b4) R<|sQ R (A6 R iL)<|aZ<|b3 _<|cI R b5 (λZ=>?_) λZ=>?_
  ·exact aU<|mM R<|xQ R<|mM R<|vM R<|vQ R (A5 R (iR R) iL)<|xN R<|mA R<|aZ<|Zi<|yB Z R
  refine Zc<|b2 _<|aU<|mM R<|AE Z λx4 b6 b7=>sQ R (Ws R iL iL λ_=>b6)<|AE b7 λb8 F b9=>xA R F<|mA R<|aZ<|aS λba bb ad=>aU<|lF Bi Bk R R<|xL BH R<|mM R<|aZ<|Ze<|BP b9 λo2 ae bc=>?_
  have J2:∀(m:Int) (af:NN),o2=m→ba ⟨[(1,rI s),(5,rI U),(6,rI V),(13,rI m)],[],(af 0),140⟩:=by
   intro m af e
   have bd:=bc _ e
   refine bb _<|aT λbe=>aU<|mM R<|AE bd λx8 bf bg=>sQ R (Ul R iL iL λ_=>bf)<|mM R<|xU R<|aZ<|cI R bg (λa0=>?_) λa0=>?_
   ·exact aU<|mM R<|xQ R<|mM R<|vM R<|vQ R (A5 R (iR R) iL)<|xN R<|mA R<|aZ<|Zi<|yB a0 R
   exact Zc<|be _<|aU<|mM R<|xQ R<|mM R<|vM R<|vM R<|vQ R (A5 R (iR R)<|iR R)<|xN R<|mA R<|aZ<|Zi<|yB a0 R
  refine CX (λ(q:Int) (x6:Int) i8=>⟨[(1,rI s),(2,.ptr 2 j 0 0),(5,rI U),(6,rI V),(13,rI q),(101,rL d1.Nodes),(102,rI x6)],[(2,some<|.box j 24 [qa d1.Nodes])],(i8 0),140⟩) (AH [(i5 1)]) ae wk ?_
  intro q x6 i8 v1 bh bi
  have ag:Hs d1 s q x6=some v1:=bh;unfold Hs at ag
  refine aU<|xS R<|aZ<|aT λbj=>cI R ag (λa1=>?_) λa1=>?_
  ·refine Zc<|bj _<|aS λbk bl M=>Ze<|BP a1 λp1 bm bn=>?_
   have J3:∀(w:Int) (a2:NN),p1=w→bk ⟨[(1,rI s),(2,.ptr 2 j 0 0),(5,rI U),(6,rI V),(13,rI w),(101,rL d1.Nodes),(102,rI x6)],[(2,some<|.box j 24 [qa d1.Nodes])],(a2 0),140⟩:=by
    intro w a2 e
    have bo:=bn _ e
    exact bl _<|aR<|AE bo λx9 bp bq=>xA R bp<|mM R<|Zh<|ZF bq (AH [(a2 0)]) wk
   refine aU<|mM R<|mA R<|aZ<|aU<|lF Bi Bk R R<|mM R<|AE bm λbr ah bs=>xI BH R ah<|sQ R (BJ R Cn iL)<|xV (.int .i64 br.ID) AI R<|mA R<|aZ<|aT λbt=>aG [1,2,5,6,13,15,101,102] [2] ?_
   refine aR<|mM R<|AE bs λcg ai bu=>sQ R (Ul R iL iL λ_=>ai)<|mM R<|xQ R<|mM R<|vM R<|vM R<|vQ R (Cd R (iR R)<|iR R)<|xN R<|aZ<|bt _<|cI R bu (λa6=>?_) λa6=>?_
   ·exact aR<|mM R<|AE a6 λbv I bw=>xA R I<|mA R<|Zh<|M _ _ wk<|J3 _ (AH [(i8 0)]) (Zf bw).symm
   exact Zc<|M _ _ wk<|J3 _ (AH [(i8 0)]) (Zf a6).symm
  exact Zm<|ad _ _ wk<|J2 _ (AH [(i8 0)])<|xH bi a1
 refine CX (λ(x2:Int) (A:AM) E=>⟨[(1,rI s),(2,.ptr 2 j 0 0),(5,rI U),(6,rI V),(7,.ptr 7 (j+1) 0 0),(8,rI r5),(10,qh t1),(11,.ptr 11 (j+2) 0 0),(55,rL d1.Nodes),(56,rI x2)],[(2,some<|.box j 24 [qa d1.Nodes]),(7,some<|.box (j+1) 24 [qa J.Nodes]),(11,some<|.box (j+2) 24 [.own 76<|E 0]),(76,some<|.arr (E 0) 47 9<|A.Nodes.map AK.row)],(E 1),140⟩) (AH [(j+3),(j+4)]) ac (Zx (Zx (S4 11 0 76 47 9 (by decide) R R<|by decide)<|by exact Am.cv (e':=[(1,rI s),(2,.ptr 2 j 0 0),(5,rI U),(6,rI V),(7,.ptr 7 (j+1) 0 0),(8,rI r5),(10,qh t1),(11,.ptr 11 (j+2) 0 0),(51,.agg [qa d1.Nodes]),(52,qh t1),(53,.ptr 2 j 0 0),(54,qa d1.Nodes),(55,rL d1.Nodes),(56,rI 0)]) (h':=[(2,some<|.box j 24 [qa d1.Nodes]),(7,some<|.box (j+1) 24 [qa J.Nodes]),(11,some<|.box (j+2) 24 [.own 76<|j+3]),(76,some<|.arr (j+3) 47 9<|([]:List AK).map AK.row)]) ⟨jL,jL,jL,jL,jL,jL,jL,jL,jL,jL,jL,jL,jL,jL,Za⟩ ⟨.inl R,.inl R,.inl R,.inl R,Za⟩ nL) wk) ?_
 intro x2 A E v2 bx bz
 have aj:HX d1 t1 x2 A=some v2:=bx;unfold HX at aj
 refine aU<|xS R<|aZ<|aT λc0=>cI R aj (λa7=>?_) λa7=>?_
 ·refine Zc<|c0 _<|aS λc1 c3 O=>Ze<|BP a7 λp2 c4 c5=>?_
  have J4:∀(B:AM) (C:NN),p2=B→c1 ⟨[(1,rI s),(2,.ptr 2 j 0 0),(5,rI U),(6,rI V),(7,.ptr 7 (j+1) 0 0),(8,rI r5),(10,qh t1),(11,.ptr 11 (j+2) 0 0),(55,rL d1.Nodes),(56,rI x2)],[(2,some<|.box j 24 [qa d1.Nodes]),(7,some<|.box (j+1) 24 [qa J.Nodes]),(11,some<|.box (j+2) 24 [.own 76<|C 0]),(76,some<|.arr (C 0) 47 9<|B.Nodes.map AK.row)],(C 1),140⟩:=by
   intro B C e
   have c8:=c5 _ e
   exact c3 _<|aR<|AE c8 λch ak c9=>xA R ak<|mM R<|Zh<|ZF c9 (AH [(C 0),(C 1)]) wk
  refine aU<|mM R<|mA R<|aZ<|aU<|mM R<|lF Bi Bk R R<|mM R<|AE c4 λa8 T ca=>xI BH R T<|sQ R (BJ R Cn iL)<|xV (.int .i64 a8.ID) AI R<|AE ca λr8 cb cc=>cL (TM<|cb) R<|sQ R (Cd R iL iL)<|aZ<|cI R cc (λaa=>?_) λaa=>?_
  ·refine aG [1,2,5,6,7,8,10,11,12,55,56] [2,7,11,76] ?_
   refine S6 [] [0,1,2,3,4,5,6] [7] 8 BY (by kernel_rfl) R R R R R ?_
   exact Ff.nil<|ZG R R R (fB R Bi iL fR R)<|ZG R R R (Ab (a:=.own 76<|E 0) R Bk iL R R)<|ZG R R R (fB R Bi iL fR R)<|ZG R R R (Ab (a:=qa d1.Nodes) R Bk iL R R)<|ZG R R R (AN R iL)<|ZG R R R (BA R BH.slice iL iL (λ_=>R) λ_=>T)<|ZG R R R (CV (cs:=(Ax a8)) R Cs iL R R)<|AF.nil<|AA.step R R R (TR 75 R BH (f:=AK.row) (l:=([a8]:List AK)) ⟨R,⟨_,iL,R⟩,Za⟩ R (λ_=>R) R)<|AA.nil<|AE aa λl1 cd cf=>AO.step R R R (DL R BH iL R (.inr<|.inl ⟨_,_,iL,R⟩) cd)<|sQ R (fB R Bi iL fR R)<|Zk R R (A0 (ds:=[.own 76<|(E 1)+1]) R WS iL R iL R R R R)<|Zh<|O _ _ wk<|J4 _ (AH [((E 1)+1),((E 1)+2)]) (Zf cf).symm
  exact Zc<|O _ _ wk<|J4 _ (AH [(E 0),(E 1)]) (Zf aa).symm
 exact Zm<|ab _ _ wk<|J1 _ (AH [(E 0),(E 1)])<|xH bz a7



end Go.Proofs.YtmogkkigacadpaaGreatDoor.Al
