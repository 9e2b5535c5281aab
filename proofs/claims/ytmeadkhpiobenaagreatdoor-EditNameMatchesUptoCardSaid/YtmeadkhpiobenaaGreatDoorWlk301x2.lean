/- Walks, as printed. -/
import Derived.Test.YtmeadkhpiobenaaGreatDoorWlk301
import Derived.Test.YtmeadkhpiobenaaGreatDoorProg
set_option linter.all false
set_option maxHeartbeats 4000000
set_option maxRecDepth 20000
set_option linter.unusedVariables false
namespace Go.Proofs.YtmeadkhpiobenaaGreatDoor.Al
open Go.Proofs Go.Proofs.Tryz
set_option linter.defProp false
theorem mx{I r}(h:MG I=some r):AS prog 100 [qf I] (.tup [qg r.1,qg r.2]):=by
 unfold MG at h
 refine mF func100 ntmps100 R λn0=>aU<|mA R<|mA R<|aZ<|aU<|mA R<|mA R<|aZ<|aS λK3 c3 b0=>aU<|mM R<|xL E0 R<|mM R<|aZ<|Zg<|Hi h λo1 an b1=>?_
 have J1:∀(q:List AB) (l:List AB) (V:NN),o1=(q,l)→K3 ⟨[(4,.own 5004<|V 0),(5,.own 5005<|V 1)],[(5004,some<|.arr (V 0) 121 4<|q.map AB.row),(5005,some<|.arr (V 1) 121 4<|l.map AB.row)],(V 2),121⟩:=by
  intro q l V e
  have h1:=b1 _ _ e
  refine c3 _<|aS λK5 c5 b2=>aU<|mM R<|sQ R (LF R BM.slice iL R)<|mM R<|aZ<|Zg<|Bd h1 λo2 ao b3=>?_
  have J2:∀(J:List AB) (a8:NN),o2=J→K5 ⟨[(4,.own 5004<|a8 0),(5,.own 5005<|V 1)],[(5004,some<|.arr (a8 0) 121 4<|J.map AB.row),(5005,some<|.arr (V 1) 121 4<|l.map AB.row)],(a8 1),121⟩:=by
   intro J a8 e
   have h2:=b3 _ e
   exact c5 _<|aU<|mM R<|mM R<|mA R<|mA R<|aZ<|Zj<|E4 (P:=prog) (λ(r:(List AB) × (List AB))=>qg r.1) (λ(r:(List AB) × (List AB))=>qg r.2) h2 iL (.t<|.one<|.own R)<|.t<|.one<|.own R
  refine Cw (λ(x5:Int) (M:List AB) i8=>⟨[(4,.own 5004<|i8 0),(5,.own 5005<|V 1),(96,rL q),(97,rI x5)],[(5004,some<|.arr (i8 0) 121 4<|M.map AB.row),(5005,some<|.arr (V 1) 121 4<|l.map AB.row)],(i8 1),121⟩) (AH [(V 0),(V 2)]) ao wk ?_
  intro x5 M i8 v1 b4 b5
  have h3:HX q l x5 M=some v1:=b4;unfold HX at h3
  refine aU<|xS R<|aZ<|aT λc9=>cI R h3 (λh4=>?_) λh4=>?_
  ·refine Zc<|c9 _<|aS λb6 b7 ab=>Zg<|Bd h4 λp1 b8 b9=>?_
   have J3:∀(O:List AB) (Z:NN),p1=O→b6 ⟨[(4,.own 5004<|Z 0),(5,.own 5005<|V 1),(96,rL q),(97,rI x5)],[(5004,some<|.arr (Z 0) 121 4<|O.map AB.row),(5005,some<|.arr (V 1) 121 4<|l.map AB.row)],(Z 1),121⟩:=by
    intro O Z e
    have h5:=b9 _ e
    exact b7 _<|aR<|AG h5 λx7 ba h6=>xA R ba<|mM R<|Zh<|CU.mk h6 (AH [(Z 0),(Z 1)]) wk
   refine aU<|mM R<|mA R<|aZ<|aU<|mM R<|mM R<|mM R<|AG b8 λx8 aa h7=>sQ R (GP R BM.slice iL R iL λ_=>aa)<|sQ R (HB (ob:=.arr _ _ _ _) R EX iL fR R)<|sQ R (Te (d:=.int .i64 x8.Item) R AI iL fR (λ_=>aa) R)<|AG h7 λk1 bb h8=>cL (M7<|bb) R<|mA R<|aZ<|aT λbc=>aG [4,5,10,11,96,97] [5004,5005] ?_
   refine aR<|mM R<|sQ R (Cq R iL iL)<|aZ<|bc _<|cI R h8 (λh9=>?_) λh9=>?_
   ·exact aR<|mM R<|mM R<|mM R<|mM R<|AG h9 λx9 aq bd=>sQ R (GP R BM.slice iL R iL λ_=>aq)<|sQ R (HB (ob:=.arr _ _ _ _) R KP iL fR R)<|sQ R (Te (d:=.sl<|x9.Attrs.map AE.row) R Ci iL fR (λ_=>aq) R)<|sQ R (GP R BM.slice iL R iL λ_=>aa)<|sQ R (HB (ob:=.arr _ _ _ _) R KP iL fR R)<|Zl R R (Uw (v:=(AB.mk x8.Item x8.Parent x8.Place x9.Attrs)) R Ks iL R aa iL R R R R)<|Zh<|ab _ _ wk<|J3 _ (AH [(i8 0),(i8 1)]) (Zf bd).symm
   exact Zc<|ab _ _ wk<|J3 _ (AH [(i8 0),(i8 1)]) (Zf h9).symm
  exact Zm<|b2 _ _ wk<|J2 _ (AH [(i8 0),(i8 1)])<|xH b5 h4
 refine JU (λ(x2:Int) (w:List AB) (B:List AB) m=>⟨[(0,qf I),(4,.own 5004<|m 0),(5,.own 5005<|m 1),(13,rL I),(14,rI x2)],[(5004,some<|.arr (m 0) 121 4<|w.map AB.row),(5005,some<|.arr (m 1) 121 4<|B.map AB.row)],(m 2),121⟩) (AH [n0,(n0+1),(n0+2)]) an (Zw (Zw (IT 4 5004 121 4 (by decide) R)<|by exact Ah.cv (e':=[(0,qf I),(2,cZ),(3,cZ),(4,.own 5004 n0),(5,cZ),(12,qf I),(13,rL I),(14,rI 0)]) (h':=[(5004,some<|.arr n0 121 4<|([]:List AB).map AB.row)]) ⟨jL,jL,jL,jL,jL,jL,jL,jL,Za⟩ ⟨.inl R,Za⟩ nL)<|Zw (Zw (IT 5 5005 121 4 (by decide) R)<|by exact Ah.cv (e':=[(0,qf I),(2,cZ),(3,cZ),(4,.own 5004 n0),(5,.own 5005<|n0+1),(12,qf I),(13,rL I),(14,rI 0)]) (h':=[(5004,some<|.arr n0 121 4<|([]:List AB).map AB.row),(5005,some<|.arr (n0+1) 121 4<|([]:List AB).map AB.row)]) ⟨jL,jL,jL,jL,jL,jL,jL,jL,Za⟩ ⟨.inl R,.inl R,Za⟩ nL) wk) ?_
 intro x2 w B m v2 be bf
 have ar:Hr I x2 w B=some v2:=be;unfold Hr at ar
 refine aU<|xS R<|aZ<|aT λbg=>cI R ar (λaf=>?_) λaf=>?_
 ·refine Zc<|bg _<|aS λbh bi a6=>Zg<|Hi af λp2 bj bk=>?_
  have J4:∀(E:List AB) (T:List AB) (U:NN),p2=(E,T)→bh ⟨[(0,qf I),(4,.own 5004<|U 0),(5,.own 5005<|U 1),(13,rL I),(14,rI x2)],[(5004,some<|.arr (U 0) 121 4<|E.map AB.row),(5005,some<|.arr (U 1) 121 4<|T.map AB.row)],(U 2),121⟩:=by
   intro E T U e
   have bl:=bk _ _ e
   exact bi _<|aR<|AG bl λck au bm=>xA R au<|mM R<|Zh<|FX.mk bm (AH [(U 0),(U 1),(U 2)]) wk
  refine aU<|mM R<|mA R<|aZ<|aU<|mM R<|mM R<|AG bj λj av bn=>xI E0 R av<|xB ((Bc j)) HV R<|sS R (BN (cs:=Q6) 7 R Qv R R)<|Zl R R (A6 (ds:=(Bc j)) R Pg iL R iL R R R R)<|aZ<|aT λbo=>aU<|lF FZ AI R R<|xQ R<|aZ<|cI R bn (λag=>?_) λag=>?_
  ·refine aT λbp=>aG [0,4,5,7,13,14] [7,5004,5005] ?_
   refine aR<|mM R<|lF FL AI R R<|AG ag λk2 bq br=>cL (M7<|bq) R<|mA R<|aZ<|bp _<|aS λbs bt ac=>aU<|mM R<|xS R<|aZ<|Hi br λp3 aw bu=>?_
   have J5:∀(k3:Int) (C:List AB) (A:NN),p3=(k3,C)→bs ⟨[(0,qf I),(4,.own 5004<|m 0),(5,.own 5005<|A 0),(7,.ptr 7 (m 2) 0 0),(8,rI k3),(13,rL I),(14,rI x2)],[(7,some<|.box (m 2) 119<|Bc j),(5004,some<|.arr (m 0) 121 4<|w.map AB.row),(5005,some<|.arr (A 0) 121 4<|C.map AB.row)],(A 1),121⟩:=by
    intro k3 C A e
    have bv:=bu _ _ e
    refine bt _<|aT λbw=>?_
    refine aX [0,1] [2,3,4,5,6,7,8,9,10,11] [12] 13 BZ (by kernel_rfl) R R R R R ?_
    refine GE.move R R R R<|GE.move R R R R<|GE.nil<|AF.step R R R (AL R iL)<|AF.step R R R (AL R iL)<|AG bv λa0 X bx=>AF.step R R R (GP R BM.slice iL R iL λ_=>X)<|AF.step R R R (HB (ob:=.arr _ _ _ _) R KP iL fR R)<|AF.step R R R (Te (d:=.sl<|a0.Attrs.map AE.row) R Ci iL fR (λ_=>X) R)<|AF.step R R R (fB R Ln iL fR R)<|AF.step R R R (Ab (a:=rS j.Name) R A9 iL R R)<|AF.step R R R (fB R Ih iL fR R)<|AF.step R R R (Ab (a:=rS j.Value) R A9 iL R R) ?_
    refine AF.step R R R (DL R QL (q:=[(0,_),(1,_)]) (by exact⟨R,R,R,iL,R,R,R,iL,Za⟩) (cs:=[rS j.Name,rS j.Value])<|by rfl) ?_
    refine AF.nil<|AA.step R R R (hM 50 R BD (f:=AE.row) (l:=([(AE.mk j.Name j.Value)]:List AE)) ⟨R,⟨_,iL,R⟩,Za⟩ R (λ_=>R) R)<|AA.nil ?_
    refine AK.weak (by exact Ah.frz (e':=[(0,qf I),(4,.own 5004<|m 0),(5,.own 5005<|A 0),(7,.ptr 7 (m 2) 0 0),(8,rI k3),(13,rL I),(14,rI x2),(38,.own 5005<|A 0),(39,rI k3),(40,.own 5005<|A 0),(41,rI k3),(42,.ptr 5005 (A 0) k3.toNat 0),(43,.ptr 5005 (A 0) k3.toNat 3),(44,qa a0.Attrs),(45,.ptr 7 (m 2) 0 6),(46,rS j.Name),(47,.ptr 7 (m 2) 0 7),(48,rS j.Value),(49,.agg [rS j.Name,rS j.Value]),(50,.r<|.sl<|[(AE.mk j.Name j.Value)].map AE.row)]) (h':=[(7,some<|.box (m 2) 119<|Bc j),(5004,some<|.arr (m 0) 121 4<|w.map AB.row),(5005,some<|.arr (A 0) 121 4<|C.map AB.row)]) 50 R ⟨jL,jL,jL,jL,jL,jL,jL,jL,jL,jL,jL,jL,jL,jL,jL,jL,jL,jL,jL,.inl<|.inr<|.inr ⟨R,R⟩,Za⟩ ⟨R,.inl R,R,.inl R,R,.inl R,Za⟩) ?_
    exact AG bx λr1 bz c0=>sS R (EA (r:=qa r1) (caps:=[]) (bs:=[qa a0.Attrs,.r<|.sl<|[(AE.mk j.Name j.Value)].map AE.row]) R iL R ⟨.inl ⟨iL,R⟩,.inl ⟨iL,R⟩,Za⟩ λ_=>nF<|bz)<|sQ R (GP R BM.slice iL R iL λ_=>X)<|sQ R (HB (ob:=.arr _ _ _ _) R KP iL fR R)<|Zl R R (Uw (v:=(AB.mk a0.Item a0.Parent a0.Place r1)) R Ks iL R X iL R R R R)<|aZ<|bw _<|Zm<|a6 _ _ wk<|J4 _ _ (AH [(m 0),(A 0),((A 1)+1)]) (Zf c0).symm
   refine aC R (λah=>?_) λah=>?_
   ·have ai:=EQ ah aw
    refine aU<|mM R<|sQ R (LF R BM.slice iL R)<|mA R<|aZ<|aR<|mM R<|lF FL AI R R ?_
    refine sQ R (DL R Qt (q:=[(0,_)]) (by exact⟨R,R,R,iL,Za⟩) (cs:=[rI j.Item,rI 0,.r<|.str [],cZ])<|by rfl) ?_
    exact sS R (CG 36 R BM (f:=AB.row) (l:=([(AB.mk j.Item 0 [] [])]:List AB)) ⟨R,⟨_,iL,R⟩,Za⟩ R (λ_=>R) R)<|AG ai λaz a7 c1=>sS R (Dp R BM iL R (.inr<|.inl ⟨_,_,iL,R⟩) a7)<|mA R<|Zh<|ac _ _ wk<|J5 _ _ (AH [((m 2)+2),((m 2)+3)]) (Zf c1).symm
   ·have ai:=EM ah aw
    exact Zc<|ac _ _ wk<|J5 _ _ (AH [(m 1),((m 2)+1)]) (Zf ai).symm
  refine Zc<|bo _<|aT λc2=>aT λc4=>aG [0,4,5,7,13,14] [7,5004,5005] ?_
  refine aR<|lF GC AI R R<|lF FL AI R R<|xQ R<|mM R<|vF GC AI R R<|vQ R (BU R (iR R) iL)<|vQ R (AL R<|iR R)<|wQ R (AL R iL)<|wQ R (fB R GC iL fR R)<|wQ R (Ab (a:=rI j.Parent) R AI (iR R) R R)<|wQ R (fB R FL iL fR R)<|wQ R (Ab (a:=rI j.Item) R AI (iR R) R R)<|AG ag λr2 c6 c7=>AK.stepW (.two R R R) R R (Dz (r:=rB r2) (caps:=[]) (bs:=[qg w,rI j.Parent,rI j.Item]) R iL R ⟨⟨_,(iR R),.one<|.own R⟩,⟨_,(iR R),.d R⟩,⟨_,(iR R),.d R⟩,Za⟩ (λhg=>dM<|Ad c6 hg) R)<|vQ R (BS R (iR R)<|iR R)<|xO R<|aZ<|c4 _<|cI R c7 (λaj=>?_) λaj=>?_
  ·exact Zm<|a6 _ _ wk<|J4 _ _ (AH [(m 0),(m 1),((m 2)+1)]) (Zf aj).symm
  refine Zc<|c2 _<|aU<|mM R<|lF FL AI R R<|AG aj λk4 c8 ca=>cL (M7<|c8) R<|mA R<|aZ<|aS λcb cc ad=>aT λcd=>aG [0,4,5,7,9,13,14] [7,5004,5005] ?_
  refine aR<|mM R<|xS R<|aZ<|cd _<|Hi ca λp4 ax cf=>?_
  have J6:∀(k5:Int) (F:List AB) (a1:NN),p4=(k5,F)→cb ⟨[(0,qf I),(4,.own 5004<|a1 0),(5,.own 5005<|m 1),(7,.ptr 7 (m 2) 0 0),(9,rI k5),(13,rL I),(14,rI x2)],[(7,some<|.box (m 2) 119<|Bc j),(5004,some<|.arr (a1 0) 121 4<|F.map AB.row),(5005,some<|.arr (m 1) 121 4<|B.map AB.row)],(a1 1),121⟩:=by
   intro k5 F a1 e
   have cg:=cf _ _ e
   refine cc _<|aR<|mM R<|mM R<|lF FL AI R R<|lF GC AI R R<|lF MN A9 R R ?_
   refine sQ R (DL R Qt (q:=[(0,_),(1,_),(2,_)]) (by exact⟨R,R,R,iL,R,R,R,iL,R,R,R,iL,Za⟩) (cs:=[rI j.Item,rI j.Parent,rS j.Place,cZ])<|by rfl) ?_
   exact AG cg λcl ae ch=>sQ R (GP R BM.slice iL R iL λ_=>ae)<|Zl R R (Ss (v:=(AB.mk j.Item j.Parent j.Place [])) R LX iL R ae iL R R R R)<|Zh<|a6 _ _ wk<|J4 _ _ (AH [(a1 0),(m 1),(a1 1)]) (Zf ch).symm
  refine aC R (λak=>?_) λak=>?_
  ·have al:=EQ ak ax
   refine aU<|mM R<|sQ R (LF R BM.slice iL R)<|mA R<|aZ<|aR<|mM R ?_
   refine sQ R (DL R Qt (q:=[]) (by exact Za) (cs:=Lf)<|by rfl) ?_
   exact sS R (CG 82 R BM (f:=AB.row) (l:=([(AB.mk 0 0 [] [])]:List AB)) ⟨R,⟨_,iL,R⟩,Za⟩ R (λ_=>R) R)<|AG al λay a2 cj=>sS R (Dp R BM iL R (.inr<|.inl ⟨_,_,iL,R⟩) a2)<|mA R<|Zh<|ad _ _ wk<|J6 _ _ (AH [((m 2)+2),((m 2)+3)]) (Zf cj).symm
  ·have al:=EM ak ax
   exact Zc<|ad _ _ wk<|J6 _ _ (AH [(m 0),((m 2)+1)]) (Zf al).symm
 exact Zm<|b0 _ _ wk<|J1 _ _ (AH [(m 0),(m 1),(m 2)])<|xH bf af
theorem pP{self:(List AB)→(List AB)→Int→Option (List AB)}(M:∀ {A:List AB} {I:List AB} {j:Int} {r:(List AB)} {l:Nat},self A I j=some r→BH prog 101 1 [qg I,rI j,.own 1000 l] [(1000,some<|.arr l 121 4<|A.map AB.row)] (λrr h'=>∃(i:Nat→Nat),rr=.own 1000 (i 0)∧h'=[(1000,some<|.arr (i 0) 121 4<|r.map AB.row)])){A:List AB}{I:List AB}{j:Int}{r:(List AB)}{l:Nat}(h:Ib self A I j=some r):BH prog 101 1 [qg I,rI j,.own 1000 l] [(1000,some<|.arr l 121 4<|A.map AB.row)] (λrr h'=>∃(i:Nat→Nat),rr=.own 1000 (i 0)∧h'=[(1000,some<|.arr (i 0) 121 4<|r.map AB.row)]):=by
 unfold Ib at h
 refine Em func101 R R ntmps101 (Zt R) λn0=>aU<|mA R<|aZ<|aU<|mA R<|mA R<|aZ<|Zg<|BV h λo1 a0 az a6=>JU (λ(m:List UInt8) (q:Int) (w:List AB) B=>⟨[(0,qg I),(1,rI j),(2,.own 1000<|B 0),(7,rS m),(8,rI q)],[(1000,some<|.arr (B 0) 121 4<|w.map AB.row)],(B 1),100⟩) (AH [l,n0]) a0 wk ?_
 intro m q w B v1 a7 a8
 have h1:Fy I j self m q w=some v1:=a7;unfold Fy at h1
 refine Zg<|aU<|mA R<|aZ<|aS λK4 c4 aa=>aU<|mM R<|xL BM R<|mM R<|aZ<|Zg<|Bd h1 λo2 a1 ab=>?_
 have J2:∀(C:Int) (i9:NN),o2=C→K4 ⟨[(0,qg I),(1,rI j),(2,.own 1000<|B 0),(9,rI C)],[(1000,some<|.arr (B 0) 121 4<|w.map AB.row)],(i9 0),100⟩:=by
  intro C i9 e
  have h2:=ab _ e
  refine c4 _<|aT λc6=>aU<|mM R<|xS R<|aZ<|cI R h2 (λh3=>?_) λh3=>?_
  ·refine aU<|mM R<|mA R<|aZ ?_
   exact Zj<|B9.mk (s':=⟨[(6,.own 1000<|B 0)],[(1000,some<|.arr (B 0) 121 4<|w.map AB.row)],(i9 0),100⟩) wk<|CX (λ(r:(List AB)) rr h'=>∃(i:Nat→Nat),rr=.own 1000 (i 0)∧h'=[(1000,some<|.arr (i 0) 121 4<|r.map AB.row)]) (a6 _<|xH a8 h3)<|by exact⟨.own 1000<|B 0,[(1000,some<|.arr (B 0) 121 4<|w.map AB.row)],R,⟨.inr R,Za⟩,R,R,AH [(B 0)],R,R⟩
  refine Zc<|c6 _<|aT λc9=>?_
  refine Zz BZ (by kernel_rfl) ?_
  refine qP R (AL R iL)<|qP R (AL R iL)<|AG h3 λx4 O h4=>qP R (BK R BM.slice iL iL (λ_=>R) λ_=>O)<|qP R (BI R Hj iL)<|qP R (Bj (d:=.str x4.Place) R A9 iL R)<|qP R (AL R iL)<|qP R (AL R iL)<|qP R (BK R BM.slice iL iL (λ_=>R) λ_=>O)<|qP R (BI R EX iL)<|qP R (Bj (d:=.int .i64 x4.Item) R AI iL R)<|qP R (D7 R iL)<|qP R (D7 R iL)<|AQ.nil<|c9 _<|aG [0,1,2,7,8,9] [1000] ?_
  refine aR<|mM R<|mM R<|mM R<|mM R<|mM R<|xI BM R O<|xB ((B4 x4)) GK R<|sS R (CG 97 R BM (f:=AB.row) (l:=([x4]:List AB)) ⟨R,⟨_,iL,R⟩,Za⟩ R (λ_=>R) R)<|AG h4 λl2 ac h5=>sS R (Dp R BM iL R (.inr<|.inl ⟨_,_,iL,R⟩) ac)<|AG h5 λw1 ad h6=>?_
  refine ZA [1000] (hc:=[(1000,some<|.arr ((i9 0)+1) 121 4<|l2.map AB.row)]) (bs:=[qg I,rI x4.Item,.own 1000<|(i9 0)+1]) (caps:=[]) R R R R iL R ⟨.inl ⟨iL,R⟩,.inl ⟨iL,R⟩,.inl ⟨iL,R⟩,Za⟩ ⟨R,R,R,Za⟩ (by decide) (M ad) ?_
  intro ae n1
  refine Bm [0,1,7,8,9,90,91,93,94,95,96,97,99] [97,1000] ?_
  exact mA R<|Zh<|FX.mk h6 (AH [(ae 0),n1]) wk
 refine Cw (λ(E:Int) (x2:Int) X=>⟨[(0,qg I),(1,rI j),(2,.own 1000<|B 0),(7,rS m),(8,rI q),(9,rI E),(13,rL I),(14,rI x2)],[(1000,some<|.arr (B 0) 121 4<|w.map AB.row)],(X 0),100⟩) (AH [(B 1)]) a1 wk ?_
 intro E x2 X v2 af ag
 have h7:Hk I j m q E x2=some v2:=af;unfold Hk at h7
 refine aU<|xS R<|aZ<|aT λah=>cI R h7 (λh8=>?_) λh8=>?_
 ·refine Zc<|ah _<|aS λai aj J=>Zg<|Bd h8 λp1 ak al=>?_
  have J3:∀(F:Int) (T:NN),p1=F→ai ⟨[(0,qg I),(1,rI j),(2,.own 1000<|B 0),(7,rS m),(8,rI q),(9,rI F),(13,rL I),(14,rI x2)],[(1000,some<|.arr (B 0) 121 4<|w.map AB.row)],(T 0),100⟩:=by
   intro F T e
   have h9:=al _ e
   exact aj _<|aR<|AG h9 λx5 an ao=>xA R an<|mM R<|Zh<|CU.mk ao (AH [(T 0)]) wk
  refine aU<|mM R<|mA R<|aZ<|aU<|mM R<|mM R<|AG ak λZ aq ar=>xI BM R aq<|xB ((B4 Z)) GK R<|sS R (BN (cs:=Lf) 11 R M1 R R)<|Zl R R (A6 (ds:=(B4 Z)) R LX iL R iL R R R R)<|aZ<|aT λau=>aU<|lF Lg AI R R<|mM R<|xU R<|mM R<|vF Hj A9 R R<|vM R<|vQ R (ME R (iR R)<|iR R)<|xO R<|mM R<|vF Hj A9 R R<|vM R<|vQ R (D3 R (iR R)<|iR R)<|vQ R (AL R<|iR R)<|wQ R (fB R EX iL fR R)<|wQ R (Ab (a:=rI Z.Item) R AI (iR R) R R)<|wQ R (AL R iL)<|wQ R (Ei R (iR R)<|iR R)<|vQ R (BS R (iR R)<|iR R)<|xO R<|aZ<|cI R ar (λU=>?_) λU=>?_
  ·exact Zm<|J _ _ wk<|J3 _ (AH [((X 0)+1)]) (Zf U).symm
  refine Zc<|au _<|aT λav=>aG [0,1,2,7,8,9,10,11,13,14] [11,1000] ?_
  refine Zz BZ (by kernel_rfl) ?_
  refine qP R (AL R iL)<|qP R (Bu R iL iL)<|qP R (AL R iL)<|qO R (fB R Hj iL fR R)<|qO R (Ab (a:=rS Z.Place) R A9 (iR R) R R)<|qO R (AL R iL)<|qO R (AL R iL)<|AG U λx7 aw ax=>qO R (BK R BM.slice (iR R) (iR R) (λ_=>R)<|Ad aw)<|qO R (BI R Hj<|iR R)<|qO R (Bj (d:=.str x7.Place) R A9 (iR R) R)<|qO R (ME R (iR R)<|iR R)<|qP R (CN R iL<|iR R)<|qP R (AL R iL)<|qO R (fB R Hj iL fR R)<|qO R (Ab (a:=rS Z.Place) R A9 (iR R) R R)<|qO R (AL R iL)<|qO R (AL R iL)<|AG ax λx8 a2 ay=>qO R (BK R BM.slice (iR R) (iR R) (λ_=>R)<|Ad a2)<|qO R (BI R Hj<|iR R)<|qO R (Bj (d:=.str x8.Place) R A9 (iR R) R)<|qO R (D3 R (iR R)<|iR R)<|qO R (AL R<|iR R)<|qT R (fB R EX iL fR R)<|qT R (Ab (a:=rI Z.Item) R AI (iR R) R R)<|qT R (AL R iL)<|qT R (AL R iL)<|qT R (BK R BM.slice (iR R) (iR R) (λ_=>R) λh=>Ad a2 (tR.1 h).1)<|qT R (BI R EX<|iR R)<|qT R (Bj (d:=.int .i64 x8.Item) R AI (iR R) R)<|qT R (Bu R (iR R)<|iR R)<|qO R (BS R (iR R)<|iR R)<|qP R (CN R iL<|iR R)<|AQ.nil<|av _<|cI R ay (λV=>?_) λV=>?_
  ·exact aR<|mM R<|mA R<|Zh<|J _ _ wk<|J3 _ (AH [((X 0)+1)]) (Zf V).symm
  exact Zc<|J _ _ wk<|J3 _ (AH [((X 0)+1)]) (Zf V).symm
 exact Zm<|aa _ _ wk<|J2 _ (AH [(X 0)])<|xH ag h8
theorem gW(n:Nat):∀ {m:List AB} {q:List AB} {j:Int} {r:(List AB)} {l:Nat},DZ n m q j=some r→BH prog 101 1 [qg q,rI j,.own 1000 l] [(1000,some<|.arr l 121 4<|m.map AB.row)] (λw h'=>∃(i:Nat→Nat),w=.own 1000 (i 0)∧h'=[(1000,some<|.arr (i 0) 121 4<|r.map AB.row)]):=by
 induction n with
 | zero=>intro m q j r l h;exact absurd (show(none:Option ((List AB)))=some r from h)<|by simp
 | succ n A=>intro m q j r l h;exact pP (self:=λm q j=>DZ n m q j) (λB=>A B) h
theorem gP{m:List AB}{q:List AB}{j:Int}{r:(List AB)}{l:Nat}(h:OX m q j=some r):BH prog 101 1 [qg q,rI j,.own 1000 l] [(1000,some<|.arr l 121 4<|m.map AB.row)] (λA h'=>∃(i:Nat→Nat),A=.own 1000 (i 0)∧h'=[(1000,some<|.arr (i 0) 121 4<|r.map AB.row)]):=by
 unfold OX at h
 by_cases w:∃n r,DZ n m q j=some r
 ·rw[tv w] at h;exact gW _ h
 ·rw[dif_neg w] at h;cases h
theorem gC{l1 r}(h:Ke l1=some r):AS prog 56 [qf l1] (.tup [qg r.1,rI r.2]):=by
 unfold Ke at h
 refine mF func56 ntmps56 R λn0=>aU<|mA R<|mA R<|aZ<|aU<|mM R<|FY h λB r2 a0 h1=>sS R (EA (r:=.tup [qg B,qg r2]) (caps:=[]) (bs:=[qf l1]) R iL R ⟨.inl ⟨iL,R⟩,Za⟩ λ_=>mx<|a0)<|mM R<|xX R<|xX R<|mA R<|mA R<|aZ<|aT λc3=>aF [4] ?_
 refine aR<|mM R<|AG h1 λF a1 h2=>?_
 refine bA 7918 121 4 R [7918] (hc:=[(1000,some<|.arr n0 121 4<|([]:List AB).map AB.row)]) (bs:=[qg B,rI 0,.own 1000 n0]) (caps:=[]) R R R R iL R ⟨.inl<|.inl ⟨iL,R⟩,.inl<|.inl ⟨iL,R⟩,.inr ⟨iL,R,R⟩,Za⟩ ⟨R,R,R,Za⟩ (by decide) (gP a1) ?_
 intro i1 n1
 refine Bm [4,17,18] [7918] ?_
 refine mA R<|aZ<|c3 _<|aU<|mM R<|sQ R (LF R BM.slice iL R)<|mA R<|aZ<|aU<|mA R<|aZ<|Zg<|BV h2 λo1 O ay a2=>Cw (λ(j:Int) (l:List AB) A=>⟨[(4,qg B),(6,.own 7918<|A 0),(7,rL F),(8,rI j)],[(7918,some<|.arr (A 0) 121 4<|l.map AB.row)],(A 1),73⟩) (AH [(i1 0),n1]) O wk ?_
 intro j l A v1 a6 a7
 have h3:IJ B F j l=some v1:=a6;unfold IJ at h3
 refine Zg<|aU<|mA R<|aZ<|aS λK7 c7 a8=>aU<|mM R<|xL BM R<|mM R<|aZ<|Zg<|Bd h3 λo2 T aa=>?_
 have J2:∀(m:Int) (C:NN),o2=m→K7 ⟨[(4,qg B),(6,.own 7918<|A 0),(7,rL F),(9,rI m)],[(7918,some<|.arr (A 0) 121 4<|l.map AB.row)],(C 0),73⟩:=by
  intro m C e
  have h4:=aa _ e
  refine c7 _<|aT λc9=>aU<|mM R<|xS R<|aZ<|cI R h4 (λh5=>?_) λh5=>?_
  ·exact aU<|mM R<|mM R<|mA R<|mA R<|aZ<|Zj<|E4 (P:=prog) (λ(r:(List AB) × Int)=>qg r.1) (λ(r:(List AB) × Int)=>rI r.2) (a2 _<|xH a7 h5) iL (.t<|.one<|.own R)<|.t<|.d R
  exact Zc<|c9 _<|aU<|mM R<|mM R<|AG h5 λx4 U h6=>xI BM R U<|sQ R (BI R EX iL)<|xV (.int .i64 x4.Item) AI R<|mA R<|aZ<|aR<|mM R<|mM R<|mM R<|xI BM R U<|xB ((B4 x4)) GK R<|sS R (CG 71 R BM (f:=AB.row) (l:=([x4]:List AB)) ⟨R,⟨_,iL,R⟩,Za⟩ R (λ_=>R) R)<|AG h6 λax I h7=>sS R (Dp R BM iL R (.inr<|.inl ⟨_,_,iL,R⟩) I)<|mA R<|Zh<|CU.mk h7 (AH [((C 0)+1),((C 0)+2)]) wk
 refine Cw (λ(q:Int) (Z:Int) i8=>⟨[(4,qg B),(6,.own 7918<|A 0),(7,rL F),(8,rI j),(9,rI q),(22,rL B),(23,rI Z)],[(7918,some<|.arr (A 0) 121 4<|l.map AB.row)],(i8 0),73⟩) (AH [(A 1)]) T wk ?_
 intro q Z i8 v2 ab ac
 have h8:Iu B F j l q Z=some v2:=ab;unfold Iu at h8
 refine aU<|xS R<|aZ<|aT λad=>cI R h8 (λh9=>?_) λh9=>?_
 ·refine Zc<|ad _<|aS λae af E=>Zg<|Bd h9 λp1 ag ah=>?_
  have J3:∀(w:Int) (J:NN),p1=w→ae ⟨[(4,qg B),(6,.own 7918<|A 0),(7,rL F),(8,rI j),(9,rI w),(22,rL B),(23,rI Z)],[(7918,some<|.arr (A 0) 121 4<|l.map AB.row)],(J 0),73⟩:=by
   intro w J e
   have ai:=ah _ e
   exact af _<|aR<|AG ai λx5 aj ak=>xA R aj<|mM R<|Zh<|CU.mk ak (AH [(J 0)]) wk
  refine aU<|mM R<|mA R<|aZ<|aU<|mM R<|mM R<|AG ag λx6 al an=>xI BM R al<|sQ R (BI R EX iL)<|xV (.int .i64 x6.Item) AI R<|mA R<|aZ<|aT λao=>aR<|mM R<|mM R<|sQ R (BU R iL iL)<|mM R<|vM R<|vM R<|AG an λl2 V aq=>vQ R (kx R BM.slice (iR R) R ⟨_,(iR R)⟩<|Ad V)<|vM R<|AG aq λr3 ar au=>AK.stepW (.one R R R) R R (Dz (r:=rI r3) (caps:=[]) (bs:=[.r<|.sl<|(l.take (F.length:Int).toNat).map AB.row,rI x6.Item]) R iL R ⟨⟨_,(iR R),.one<|.pre R R⟩,⟨_,(iR R),.d R⟩,Za⟩ (λX=>(ot<|(Ad V) X) ▸ (λhg=>M7<|Ad ar hg) X) R)<|vQ R (Bu R (iR R) iL)<|xN R<|mM R<|vM R<|vQ R (Bu R (iR R) iL)<|vQ R (AL R<|iR R)<|wQ R (AL R iL)<|wQ R (AL R iL)<|wQ R (AL R iL)<|AG au λx7 av aw=>wQ R (BK R BM.slice (iR R) (iR R) (λ_=>R)<|Ad av)<|wQ R (BI R EX<|iR R)<|wQ R (Bj (d:=.int .i64 x7.Item) R AI (iR R) R)<|wQ R (Bu R (iR R)<|iR R)<|vQ R (CN R (iR R)<|iR R)<|xN R<|aZ<|ao _<|cI R aw (λM=>?_) λM=>?_
  ·refine aG [4,6,7,8,10,22,23] [7918] ?_
   exact aR<|mM R<|mA R<|Zh<|E _ _ wk<|J3 _ (AH [(i8 0)]) (Zf M).symm
  exact Zc<|E _ _ wk<|J3 _ (AH [(i8 0)]) (Zf M).symm
 exact Zm<|a8 _ _ wk<|J2 _ (AH [(i8 0)])<|xH ac h9
theorem Sg{j n r}(h:Jo j n=some r):AS prog 12 [qa j,rS n] (rS r):=by
 unfold Jo at h
 refine mF func12 ntmps12 R λZ=>aU<|mA R<|aZ<|aS λK2 c2 A=>aU<|mM R<|xL BD R<|mM R<|aZ<|Zg<|BV h λo1 l B C=>?_
 have J1:∀(T:Unit) (U:NN),o1=.nrm T→K2 ⟨[],[],(U 0),24⟩:=by
  intro T U e
  have h1:=B _ e
  exact c2 _<|aU<|mA R<|aZ<|Zj<|Cb (P:=prog) (λ(r:(List UInt8))=>rS r) h1 iL<|.t<|.d R
 refine Zu (λ(E:Int) w=>⟨[(0,qa j),(1,rS n),(7,rL j),(8,rI E)],[],(w 0),24⟩) (AH [Z]) l wk ?_
 intro E w v1 F m
 have V:NI j n E=some v1:=F;unfold NI at V
 refine aU<|xS R<|aZ<|aT λc6=>cI R V (λI=>?_) λI=>?_
 ·refine Zc<|c6 _<|aT λc7=>Zg<|aU<|mM R<|mA R<|aZ<|aU<|mM R<|mM R<|AG I λX q h4=>xI BD R q<|sQ R (BI R ES iL)<|xV (.str X.Name) A9 R<|mM R<|sQ R (D3 R iL iL)<|aZ<|cI R h4 (λJ=>?_) λJ=>?_
  ·refine aT λM=>aF [0,5] ?_
   exact aR<|mM R<|mM R<|xI BD R q<|sQ R (BI R JD iL)<|xV (.str X.Value) A9 R<|mA R<|aZ<|M _<|Zj<|Cb (P:=prog) (λ(r:(List UInt8))=>rS r) (C _<|xH m J) iL<|.t<|.d R
  refine Zc<|c7 _<|aF [0,1,7,8] ?_
  exact aR<|AG J λx5 O h6=>xA R O<|mM R<|Zh<|Zr h6 (AH [(w 0)]) wk
 exact Zm<|A _ _ wk<|J1 _ (AH [(w 0)])<|xH m I
theorem nI{l r}(h:Mv l=some r):AS prog 63 [rS l] (rI r):=by
 unfold Mv at h
 refine mF func63 ntmps63 R λn0=>aU<|mA R<|aZ<|aT λc2=>aU<|mM R<|sQ R (D3 R iL iL)<|mM R<|vM R<|vQ R (DQ R underlying9<|iR R)<|vQ R (BU R (iR R) iL)<|xO R<|mM R<|vM R<|AG h λa7 m h1=>vQ R (CT R underlying9 (iR R) iL<|Ad m)<|vQ R (BE R (iR R) iL)<|vQ R (AL R<|iR R)<|wQ R (AL R iL)<|wQ R (DQ R underlying9<|iR R)<|wQ R (BU R (iR R) iL)<|vQ R (BS R (iR R)<|iR R)<|xO R<|aZ<|cI R h1 (λB=>?_) λB=>?_
 ·exact zI B R id
 refine Zc<|c2 _<|aT λc5=>aF [0] ?_
 refine aR<|mA R<|aZ<|c5 _<|aS λK6 c6 C=>aU<|mM R<|sQ R (DQ R underlying9 iL)<|mM R<|aZ<|Zg<|BV B λo1 q E F=>?_
 have J1:∀(I:Int) (i5:NN),o1=.nrm I→K6 ⟨[(3,rI I)],[],(i5 0),47⟩:=by
  intro I i5 e
  have h3:=E _ e
  exact c6 _<|aU<|mM R<|mA R<|aZ<|Zj<|yI h3 R
 refine Cw (λ(J:Int) (M:Int) A=>⟨[(0,rS l),(3,rI J),(23,rL l),(24,rI M)],[],(A 0),47⟩) (AH [n0]) q wk ?_
 intro J M A v1 O w
 have h4:G7 l J M=some v1:=O;unfold G7 at h4
 refine aU<|xS R<|aZ<|aT λT=>cI R h4 (λU=>?_) λU=>?_
 ·refine Zc<|T _<|aT λV=>Zg<|aU<|mM R<|mA R<|aZ<|aT λX=>aU<|mM R<|mM R<|AG U λa8 j h6=>sQ R (CT R underlying9 iL iL λ_=>j)<|xS R<|mM R<|vM R<|vM R<|vQ R (CT R underlying9 (iR R) (iR R) λ_=>j)<|vQ R (BU R (iR R) iL)<|xO R<|aZ<|cI R h6 (λZ=>?_) λZ=>?_
  ·exact zI (F _<|xH w Z) R id
  refine Zc<|X _<|aR<|mM R<|AG Z λx4 a0 h8=>sQ R (ci R iL iL λ_=>a0)<|mM R<|mM R<|sQ R (CT R underlying9 iL iL λ_=>j)<|sQ R (Zv R iL iL)<|sQ R (D1 R underlying5 underlying3 iL)<|AG h8 λn5 a1 h9=>xA R a1<|mA R<|aZ<|V _<|aF [0,3,23,24] ?_
  exact aR<|AG h9 λx5 a2 a6=>xA R a2<|mM R<|Zh<|CU.mk a6 (AH [(A 0)]) wk
 exact Zm<|C _ _ wk<|J1 _ (AH [(A 0)])<|xH w U
theorem ll{self:(List AZ)→Aa→AZ→Option (List AZ)}(J:∀ {q:List AZ} {d1:Aa} {m:AZ} {r:(List AZ)} {j:Nat},self q d1 m=some r→BH prog 40 1 [.agg [qb d1.Nodes],.agg<|Eo m,.own 1000 j] [(1000,some<|.arr j 44 3<|q.map AZ.row)] (λrr h'=>∃(i:Nat→Nat),rr=.own 1000 (i 0)∧h'=[(1000,some<|.arr (i 0) 44 3<|r.map AZ.row)])){q:List AZ}{d1:Aa}{m:AZ}{r:(List AZ)}{j:Nat}(h:IZ self q d1 m=some r):BH prog 40 1 [.agg [qb d1.Nodes],.agg<|Eo m,.own 1000 j] [(1000,some<|.arr j 44 3<|q.map AZ.row)] (λrr h'=>∃(i:Nat→Nat),rr=.own 1000 (i 0)∧h'=[(1000,some<|.arr (i 0) 44 3<|r.map AZ.row)]):=by
 unfold IZ at h
 refine Em func40 R R ntmps40 (Zt R) λl=>aU<|sS R (BC (cs:=[qb d1.Nodes]) 3 R iL R R)<|sS R (BC (cs:=(Eo m)) 4 R iL R R)<|mA R<|aZ<|aT λc2=>aU<|mM R<|lF KE AI R R<|AG h λr1 b2 h1=>cL (WU<|b2) R<|sQ R (Cq R iL iL)<|aZ<|cI R h1 (λh2=>?_) λh2=>?_
 ·refine aT λc4=>aG [2] [1000] ?_
  refine aR<|mM R<|mA R<|oZ c4 ?_
  exact Zj<|B9.mk (s':=⟨[(6,.own 1000 j)],[(1000,some<|.arr j 44 3<|q.map AZ.row)],(l+2),157⟩) wk<|CX (λ(r:(List AZ)) rr h'=>∃(i:Nat→Nat),rr=.own 1000 (i 0)∧h'=[(1000,some<|.arr (i 0) 44 3<|r.map AZ.row)]) h2<|by exact⟨.own 1000 j,[(1000,some<|.arr j 44 3<|q.map AZ.row)],R,⟨.inr R,Za⟩,R,R,AH [j],R,R⟩
 refine Zc<|c2 _<|aU<|mM R<|xC kp R<|sS R (CG 25 R NY (f:=AZ.row) (l:=([m]:List AZ)) ⟨R,⟨_,iL,R⟩,Za⟩ R (λ_=>R) R)<|AG h2 λd2 ac h3=>sS R (Dp R NY iL R (.inr<|.inl ⟨_,_,iL,R⟩) ac)<|mA R<|aZ<|aT λc6=>aG [2,3,4] [3,4,1000] ?_
 refine AG h3 λr2 b3 h4=>AG h4 λA b4 h5=>?_
 refine JT 9 [pO 27<|.ptr 3 l 0 0,pO 28<|qb d1.Nodes,pO 29<|.agg [qb d1.Nodes],pO 30<|.ptr 4 (l+1) 0 0,pO 31<|rI m.ID,pO 32<|rI r2,pO 33<|.rop (Ac.row A) 0,pO 34<|.agg<|A5 A,⟨some 7,(λI=>.ptr 7 (I 8) 0 0),some (7,(λI=>some<|.box (I 8) 40 FF)),[8]⟩] BZ (by kernel_rfl) (by exact⟨λ_ _ h=>⟨R,λ_ _ e=>by cases e⟩,λ_ _ h=>⟨R,λ_ _ e=>by cases e⟩,λ_ _ h=>⟨R,λ_ _ e=>by cases e⟩,λ_ _ h=>⟨R,λ_ _ e=>by cases e⟩,λ_ _ h=>⟨R,λ_ _ e=>by cases e⟩,λ_ _ h=>⟨R,λ_ _ e=>by cases e⟩,λ_ _ h=>⟨R,λ_ _ e=>by cases e⟩,λ_ _ h=>⟨R,λ_ _ e=>by cases e⟩,λ_ _ h=>⟨by simp only[h 8 R],λ_ _ e=>by cases e;simp only[h 8 R]⟩,Za⟩) R (by exact⟨oB [(3,.ptr 3 l 0 0)] [(3,some<|.box l 24 [qb d1.Nodes])]<|fB R CD (.inl R) (λ_=>R) R,oB [(27,.ptr 3 l 0 0)] [(3,some<|.box l 24 [qb d1.Nodes])]<|Ab (a:=qb d1.Nodes) R CJ (.inl R) R R,oB [(3,.ptr 3 l 0 0)] [(3,some<|.box l 24 [qb d1.Nodes])]<|Dr R CV (.inl R) R R,oB [(4,.ptr 4 (l+1) 0 0)] [(4,some<|.box (l+1) 44<|Eo m)]<|fB R KE (.inl R) (λ_=>R) R,oB [(30,.ptr 4 (l+1) 0 0)] [(4,some<|.box (l+1) 44<|Eo m)]<|Ab (a:=rI m.ID) R AI (.inl R) R R,oD (λ_=>[(29,.agg [qb d1.Nodes]),(31,rI m.ID)]) (λ_=>[]) λI e h' n=>Dz (r:=rI r2) (caps:=[]) (bs:=[.agg [qb d1.Nodes],rI m.ID]) R (.inl R) R ⟨⟨_,(.inl R),.g (cs:=[.sl<|d1.Nodes.map Ac.row]) R R⟩,⟨_,(.inl R),.d R⟩,Za⟩ (λ_=>Lj<|b3) R,oB [(28,qb d1.Nodes),(32,rI r2)] []<|BK R Bs.slice (.inl R) (.inl R) (λ_=>R) λ_=>b4,oB [(33,.rop (Ac.row A) 0)] []<|ET (cs:=(A5 A)) R ER (.inl R) R R,oM (λ_=>[]) (λ_=>[]) R λI e h' n=>BN (cs:=FF) 7 R I2 R R,Za⟩) λI n1=>?_
 refine Bm [2,3,4,7,27,28,29,30,31,32,33,34] [3,4,7,1000] ?_
 refine Zl R R (A6 (ds:=(A5 A)) R IM iL R iL R R R R)<|aZ<|c6 _<|aS λK7 c7 b5=>aU<|lF FI FP R R<|xL CZ R<|mM R<|aZ<|Zg<|Bd h5 λo1 aj b6=>?_
 have J1:∀(a2:List AZ) (i5:NN),o1=a2→K7 ⟨[(2,.own 1000<|i5 0),(3,.ptr 3 l 0 0),(4,.ptr 4 (l+1) 0 0),(7,.ptr 7 (I 8) 0 0)],[(3,some<|.box l 24 [qb d1.Nodes]),(4,some<|.box (l+1) 44<|Eo m),(7,some<|.box (I 8) 40<|A5 A),(1000,some<|.arr (i5 0) 44 3<|a2.map AZ.row)],(i5 1),157⟩:=by
  intro a2 i5 e
  have h6:=b6 _ e
  refine c7 _<|aS λK9 c9 b7=>aU<|sQ R (fB R EU iL fR R)<|lF EF EH R R<|xL B2 R<|mM R<|aZ<|Zg<|Bd h6 λo2 ak b8=>?_
  have J2:∀(M:List AZ) (Z:NN),o2=M→K9 ⟨[(2,.own 1000<|Z 0),(3,.ptr 3 l 0 0),(4,.ptr 4 (l+1) 0 0),(7,.ptr 7 (I 8) 0 0)],[(3,some<|.box l 24 [qb d1.Nodes]),(4,some<|.box (l+1) 44<|Eo m),(7,some<|.box (I 8) 40<|A5 A),(1000,some<|.arr (Z 0) 44 3<|M.map AZ.row)],(Z 1),157⟩:=by
   intro M Z e
   have h7:=b8 _ e
   refine c9 _<|aU<|lF HG Hd R R<|FY h7 λr3 r4 b9 h8=>sS R (EA (r:=.tup [qg r3,rI r4]) (caps:=[]) (bs:=[qf A.Draw]) R iL R ⟨.inl ⟨iL,R⟩,Za⟩ λ_=>gC<|b9)<|mM R<|xX R<|xX R<|mA R<|mA R<|aZ<|aS λba bb al=>aU<|mM R<|mM R<|aZ<|Zg<|Bd h8 λo3 an bc=>?_
   have J3:∀(w:List AZ) (B:NN),o3=w→ba ⟨[(2,.own 1000<|B 0)],[(1000,some<|.arr (B 0) 44 3<|w.map AZ.row)],(B 1),157⟩:=by
    intro w B e
    have h9:=bc _ e
    refine bb _<|aU<|mM R<|mA R<|aZ ?_
    exact Zj<|B9.mk (s':=⟨[(6,.own 1000<|B 0)],[(1000,some<|.arr (B 0) 44 3<|w.map AZ.row)],(B 1),157⟩) wk<|CX (λ(r:(List AZ)) rr h'=>∃(i:Nat→Nat),rr=.own 1000 (i 0)∧h'=[(1000,some<|.arr (i 0) 44 3<|r.map AZ.row)]) h9<|by exact⟨.own 1000<|B 0,[(1000,some<|.arr (B 0) 44 3<|w.map AZ.row)],R,⟨.inr R,Za⟩,R,R,AH [(B 0)],R,R⟩
   refine Cw (λ(x9:Int) (F:List AZ) C=>⟨[(2,.own 1000<|C 0),(3,.ptr 3 l 0 0),(4,.ptr 4 (l+1) 0 0),(12,qg r3),(117,rI r4),(118,rI x9)],[(3,some<|.box l 24 [qb d1.Nodes]),(4,some<|.box (l+1) 44<|Eo m),(1000,some<|.arr (C 0) 44 3<|F.map AZ.row)],(C 1),157⟩) (AH [(Z 0),(Z 1)]) an wk ?_
   intro x9 F C v1 bd be
   have ao:FT d1 m self r3 r4 x9 F=some v1:=bd;unfold FT at ao
   refine aU<|xS R<|aZ<|aT λbf=>cI R ao (λad=>?_) λad=>?_
   ·refine Zc<|bf _<|aS λbg bh a7=>Zg<|Bd ad λp1 bi bj=>?_
    have J4:∀(O:List AZ) (i16:NN),p1=O→bg ⟨[(2,.own 1000<|i16 0),(3,.ptr 3 l 0 0),(4,.ptr 4 (l+1) 0 0),(12,qg r3),(117,rI r4),(118,rI x9)],[(3,some<|.box l 24 [qb d1.Nodes]),(4,some<|.box (l+1) 44<|Eo m),(1000,some<|.arr (i16 0) 44 3<|O.map AZ.row)],(i16 1),157⟩:=by
     intro O i16 e
     have bk:=bj _ e
     exact bh _<|aR<|AG bk λd3 aq bl=>xA R aq<|mM R<|Zh<|CU.mk bl (AH [(i16 0),(i16 1)]) wk
    refine aU<|mM R<|mA R<|aZ<|aU<|mM R<|mM R<|AG bi λbm ar bn=>xI BM R ar<|sQ R (BI R KP iL)<|xV (.sl<|bm.Attrs.map AE.row) Ci R<|AG bn λr5 bo bp=>cL (Sg<|bo) R<|AG bp λau av bq=>cL (nI<|av) R<|mA R<|aZ<|aT λbr=>aG [2,3,4,12,15,117,118] [3,4,1000] ?_
    refine aR<|xC CV R<|mM R<|AG bq λk1 bs bt=>cL (Lj<|bs) R<|mA R<|aZ<|br _<|aU<|mM R<|sQ R (BU R iL iL)<|mM R<|vM R<|vQ R (Cq R (iR R) iL)<|xN R<|mM R<|vF CD CJ R R<|vM R<|AG bt λbu aw bv=>vQ R (BK R Bs.slice (iR R) (iR R) (λ_=>R)<|Ad aw)<|vQ R (BI R CF<|iR R)<|vQ R (Bj (d:=.int .i64 bu.Kind) R AI (iR R) R)<|vQ R (BE R (iR R) iL)<|xN R<|aZ<|cI R bv (λae=>?_) λae=>?_
    ·refine aG [2,3,4,12,15,117,118] [3,4,1000] ?_
     refine aR<|xC CV R<|mM R<|lF KE AI R R<|lF Uc L9 R R ?_
     refine sQ R (DL R RX (q:=[(0,_),(1,_),(2,_)]) (by exact⟨R,R,R,iL,R,R,R,iL,R,R,R,iL,Za⟩) (cs:=[rI au,rI m.ID,rB m.Visible])<|by rfl) ?_
     refine mM R<|AG ae λw1 bw bx=>?_
     refine ZA [1000] (hc:=[(1000,some<|.arr (C 0) 44 3<|F.map AZ.row)]) (bs:=[.agg [qb d1.Nodes],.agg [rI au,rI m.ID,rB m.Visible],.own 1000<|C 0]) (caps:=[]) R R R R iL R ⟨.inl ⟨iL,R⟩,.inl ⟨iL,R⟩,.inl ⟨iL,R⟩,Za⟩ ⟨R,R,R,Za⟩ (by decide) (J bw) ?_
     intro bz n2
     refine Bm [3,4,12,15,117,118,146,147,148,149,150,151,152,154] [3,4,1000] ?_
     exact mA R<|Zh<|a7 _ _ wk<|J4 _ (AH [(bz 0),n2]) (Zf bx).symm
    exact Zc<|a7 _ _ wk<|J4 _ (AH [(C 0),(C 1)]) (Zf ae).symm
   exact Zm<|al _ _ wk<|J3 _ (AH [(C 0),(C 1)])<|xH be ad
  refine Cw (λ(x6:Int) (V:List AZ) i8=>⟨[(2,.own 1000<|i8 0),(3,.ptr 3 l 0 0),(4,.ptr 4 (l+1) 0 0),(7,.ptr 7 (I 8) 0 0),(66,rL A.Grid.Cells),(67,rI x6)],[(3,some<|.box l 24 [qb d1.Nodes]),(4,some<|.box (l+1) 44<|Eo m),(7,some<|.box (I 8) 40<|A5 A),(1000,some<|.arr (i8 0) 44 3<|V.map AZ.row)],(i8 1),157⟩) (AH [(i5 0),(i5 1)]) ak wk ?_
  intro x6 V i8 v2 c0 c1
  have ax:Fb d1 m self A x6 V=some v2:=c0;unfold Fb at ax
  refine aU<|xS R<|aZ<|aT λc3=>cI R ax (λaf=>?_) λaf=>?_
  ·refine Zc<|c3 _<|aS λc5 c8 a8=>Zg<|Bd af λp2 ca cb=>?_
   have J5:∀(T:List AZ) (a0:NN),p2=T→c5 ⟨[(2,.own 1000<|a0 0),(3,.ptr 3 l 0 0),(4,.ptr 4 (l+1) 0 0),(7,.ptr 7 (I 8) 0 0),(66,rL A.Grid.Cells),(67,rI x6)],[(3,some<|.box l 24 [qb d1.Nodes]),(4,some<|.box (l+1) 44<|Eo m),(7,some<|.box (I 8) 40<|A5 A),(1000,some<|.arr (a0 0) 44 3<|T.map AZ.row)],(a0 1),157⟩:=by
    intro T a0 e
    have cc:=cb _ e
    exact c8 _<|aR<|AG cc λd4 ay cd=>xA R ay<|mM R<|Zh<|CU.mk cd (AH [(a0 0),(a0 1)]) wk
   refine aU<|mM R<|mA R<|aZ<|aU<|sQ R (fB R EU iL fR R)<|lF EF EH R R<|mM R<|AG ca λE az cf=>xI B2 R az<|xB ((Bg E)) E7 R<|sS R (BN (cs:=IA) 10 R Hg R R)<|Zl R R (A6 (ds:=(Bg E)) R IN iL R iL R R R R)<|aZ<|aT λcg=>aG [2,3,4,7,10,66,67] [3,4,7,10,1000] ?_
   refine aR<|lF EO AI R R<|xU R<|aZ<|cg _<|cI R cf (λag=>?_) λag=>?_
   ·refine aU<|sQ R (fB R EU iL fR R)<|sQ R (Ja (ds:=(CR A.Grid)) R Ix iL R R R)<|lF E5 AI R R<|lF FW AI R R<|AG ag λr6 ch cj=>sS R (EA (r:=.agg<|Ay r6) (caps:=[]) (bs:=[.agg<|CR A.Grid,rI E.Row,rI E.Col]) R iL R ⟨.inl ⟨iL,R⟩,.inl ⟨iL,R⟩,.inl ⟨iL,R⟩,Za⟩ λ_=>oS<|ch)<|sS R (BN (cs:=Fd) 11 R II R R)<|Zl R R (A6 (ds:=(Ay r6)) R GG iL R iL R R R R)<|aZ<|aG [2,3,4,7,10,11,66,67] [3,4,7,10,11,1000] ?_
    refine aR<|xC CV R<|lF EO AI R R<|lF KE AI R R<|lF Uc L9 R R<|mM R<|vF Ca AI R R<|vF E5 AI R R<|vQ R (BE R (iR R)<|iR R)<|xN R<|mM R<|vF DG AI R R<|vF FW AI R R<|vQ R (BE R (iR R)<|iR R)<|xN R ?_
    refine sQ R (DL R RX (q:=[(0,_),(1,_),(2,_)]) (by exact⟨R,R,R,iL,R,R,R,iL,R,R,R,iL,Za⟩) (cs:=[rI E.Ref,rI m.ID,rB<|((m.Visible&&(r6.Row=E.Row))&&(r6.Col=E.Col))])<|by rfl) ?_
    refine mM R<|AG cj λw2 ck cl=>?_
    refine ZA [1000] (hc:=[(1000,some<|.arr (i8 0) 44 3<|V.map AZ.row)]) (bs:=[.agg [qb d1.Nodes],.agg [rI E.Ref,rI m.ID,rB<|((m.Visible&&(r6.Row=E.Row))&&(r6.Col=E.Col))],.own 1000<|i8 0]) (caps:=[]) R R R R iL R ⟨.inl ⟨iL,R⟩,.inl ⟨iL,R⟩,.inl ⟨iL,R⟩,Za⟩ ⟨R,R,R,Za⟩ (by decide) (J ck) ?_
    intro cm n3
    refine Bm [3,4,7,10,11,66,67,86,87,88,89,90,91,92,93,99,100,106,107,109] [3,4,7,10,11,1000] ?_
    exact mA R<|Zh<|a8 _ _ wk<|J5 _ (AH [(cm 0),n3]) (Zf cl).symm
   exact Zc<|a8 _ _ wk<|J5 _ (AH [(i8 0),((i8 1)+1)]) (Zf ag).symm
  exact Zm<|b7 _ _ wk<|J2 _ (AH [(i8 0),(i8 1)])<|xH c1 af
 refine Cw (λ(x3:Int) (X:List AZ) i3=>⟨[(2,.own 1000<|i3 0),(3,.ptr 3 l 0 0),(4,.ptr 4 (l+1) 0 0),(7,.ptr 7 (I 8) 0 0),(37,rL A.Flow),(38,rI x3)],[(3,some<|.box l 24 [qb d1.Nodes]),(4,some<|.box (l+1) 44<|Eo m),(7,some<|.box (I 8) 40<|A5 A),(1000,some<|.arr (i3 0) 44 3<|X.map AZ.row)],(i3 1),157⟩) (AH [(l+3),n1]) aj wk ?_
 intro x3 X i3 v3 cn cp
 have b0:FQ d1 m self A x3 X=some v3:=cn;unfold FQ at b0
 refine aU<|xS R<|aZ<|aT λcq=>cI R b0 (λah=>?_) λah=>?_
 ·refine Zc<|cq _<|aS λcr cs aa=>Zg<|Bd ah λp3 ct cu=>?_
  have J6:∀(U:List AZ) (a1:NN),p3=U→cr ⟨[(2,.own 1000<|a1 0),(3,.ptr 3 l 0 0),(4,.ptr 4 (l+1) 0 0),(7,.ptr 7 (I 8) 0 0),(37,rL A.Flow),(38,rI x3)],[(3,some<|.box l 24 [qb d1.Nodes]),(4,some<|.box (l+1) 44<|Eo m),(7,some<|.box (I 8) 40<|A5 A),(1000,some<|.arr (a1 0) 44 3<|U.map AZ.row)],(a1 1),157⟩:=by
   intro U a1 e
   have cv:=cu _ e
   exact cs _<|aR<|AG cv λd5 b1 cw=>xA R b1<|mM R<|Zh<|CU.mk cw (AH [(a1 0),(a1 1)]) wk
  refine aU<|mM R<|mA R<|aZ<|aU<|lF FI FP R R<|mM R<|AG ct λa6 ab cx=>xI CZ R ab<|sQ R (BI R Du iL)<|xV (.int .i64 a6.Ref) AI R<|xU R<|aZ<|cI R cx (λai=>?_) λai=>?_
  ·refine aG [2,3,4,7,8,37,38] [3,4,7,1000] ?_
   refine bC 13 BZ (by kernel_rfl) R R ?_
   refine AT.step R R R (Dr R CV iL R R)<|AT.step R R R (fB R FI iL fR R)<|AT.step R R R (Ab (a:=qe A.Flow) R FP iL R R)<|AT.step R R R (AL R iL)<|AT.step R R R (BK R CZ.slice iL iL (λ_=>R) λ_=>ab)<|AT.step R R R (BI R Du iL)<|AT.step R R R (Bj (d:=.int .i64 a6.Ref) R AI iL R)<|AT.step R R R (fB R KE iL fR R)<|AT.step R R R (Ab (a:=rI m.ID) R AI iL R R)<|AT.step R R R (fB R Uc iL fR R)<|AT.step R R R (Ab (a:=rB m.Visible) R L9 iL R R) ?_
   refine AT.step R R R (DL R RX (q:=[(0,_),(1,_),(2,_)]) (by exact⟨R,R,R,iL,R,R,R,iL,R,R,R,iL,Za⟩) (cs:=[rI a6.Ref,rI m.ID,rB m.Visible])<|by rfl) ?_
   refine AT.step R R R (AL R iL)<|AT.nil<|AG ai λw3 cy cz=>?_
   refine ZA [1000] (hc:=[(1000,some<|.arr (i3 0) 44 3<|X.map AZ.row)]) (bs:=[.agg [qb d1.Nodes],.agg [rI a6.Ref,rI m.ID,rB m.Visible],.own 1000<|i3 0]) (caps:=[]) R R R R iL R ⟨.inl ⟨iL,R⟩,.inl ⟨iL,R⟩,.inl ⟨iL,R⟩,Za⟩ ⟨R,R,R,Za⟩ (by decide) (J cy) ?_
   intro d0 n4
   refine Bm [3,4,7,8,37,38,48,49,50,51,52,53,54,55,56,57,58,59,61] [3,4,7,1000] ?_
   exact mA R<|Zh<|aa _ _ wk<|J6 _ (AH [(d0 0),n4]) (Zf cz).symm
  exact Zc<|aa _ _ wk<|J6 _ (AH [(i3 0),(i3 1)]) (Zf ai).symm
 exact Zm<|b5 _ _ wk<|J1 _ (AH [(i3 0),(i3 1)])<|xH cp ah
theorem dR(n:Nat):∀ {l:List AZ} {d1:Aa} {m:AZ} {r:(List AZ)} {j:Nat},CA n l d1 m=some r→BH prog 40 1 [.agg [qb d1.Nodes],.agg<|Eo m,.own 1000 j] [(1000,some<|.arr j 44 3<|l.map AZ.row)] (λq h'=>∃(i:Nat→Nat),q=.own 1000 (i 0)∧h'=[(1000,some<|.arr (i 0) 44 3<|r.map AZ.row)]):=by
 induction n with
 | zero=>intro l d1 m r j h;exact absurd (show(none:Option ((List AZ)))=some r from h)<|by simp
 | succ n w=>intro l d1 m r j h;exact ll (self:=λl d1 m=>CA n l d1 m) (λA=>w A) h
theorem nz{l:List AZ}{d1:Aa}{m:AZ}{r:(List AZ)}{j:Nat}(h:Qi l d1 m=some r):BH prog 40 1 [.agg [qb d1.Nodes],.agg<|Eo m,.own 1000 j] [(1000,some<|.arr j 44 3<|l.map AZ.row)] (λw h'=>∃(i:Nat→Nat),w=.own 1000 (i 0)∧h'=[(1000,some<|.arr (i 0) 44 3<|r.map AZ.row)]):=by
 unfold Qi at h
 by_cases q:∃n r,CA n l d1 m=some r
 ·rw[tv q] at h;exact dR _ h
 ·rw[dif_neg q] at h;cases h
theorem ov{d1 r}(h:MZ d1=some r):AS prog 9 [.agg [qb d1.Nodes]] (qh r):=by
 unfold MZ at h
 refine mF func9 ntmps9 R λl=>aU<|sS R (BC (cs:=[qb d1.Nodes]) 1 R iL R R)<|mA R<|aZ<|aT λm=>aR<|xC CV R ?_
 refine sQ R (DL R RX (q:=[(0,_),(1,_),(2,_)]) (by exact⟨R,R,R,iL,R,R,R,iL,R,R,R,iL,Za⟩) (cs:=[rI 1,rI 0,rB true])<|by rfl) ?_
 refine AG h λw j q=>?_
 refine bA 7905 44 3 R [7905] (hc:=[(1000,some<|.arr (l+1) 44 3<|([]:List AZ).map AZ.row)]) (bs:=[.agg [qb d1.Nodes],.agg [rI 1,rI 0,rB true],.own 1000<|l+1]) (caps:=[]) R R R R iL R ⟨.inl<|.inl ⟨iL,R⟩,.inl<|.inl ⟨iL,R⟩,.inr ⟨iL,R,R⟩,Za⟩ ⟨R,R,R,Za⟩ (by decide) (nz j) ?_
 intro A B
 refine Bm [0,1,2,3,4,5] [1,7905] ?_
 exact mA R<|aZ<|m _<|Zj<|Cb (P:=prog) (λ(r:(List AZ))=>qh r) q iL<|.t<|.one<|.own R
theorem bN{d1 i r}(h:Pi d1 i=some r):AS prog 3 [.agg [qb d1.Nodes],rI i] (rB r):=by
 unfold Pi at h
 refine mF func3 ntmps3 R λq=>aU<|sS R (BC (cs:=[qb d1.Nodes]) 2 R iL R R)<|mA R<|aZ<|aT λc2=>aU<|AG h λr1 a0 h1=>cL (dx<|a0) R<|sQ R (BB R iL)<|aZ<|cI R h1 (λh2=>?_) λh2=>?_
 ·exact zB h2 R id
 refine Zc<|c2 _<|aU<|xC CV R<|mM R<|AG h2 λs1 a1 h3=>cL (eG<|a1) R<|mA R<|aZ<|aT λc6=>aU<|xC CV R<|AG h3 λr2 a2 h4=>cL (jX<|a2) R<|xU R<|aZ<|cI R h4 (λh5=>?_) λh5=>?_
 ·refine aT λc8=>aF [5] ?_
  exact aR<|mM R<|sQ R (D3 R iL iL)<|mA R<|aZ<|c8 _<|Zj<|yB h5 R
 refine Zc<|c6 _<|aT λc9=>aG [1,2,5] [2] ?_
 refine aR<|xC CV R<|AG h5 λC a6 h6=>sS R (EA (r:=qh C) (caps:=[]) (bs:=[.agg [qb d1.Nodes]]) R iL R ⟨.inl ⟨iL,R⟩,Za⟩ λ_=>ov<|a6)<|mA R<|aZ<|c9 _<|aU<|mM R<|mM R<|AG h6 λE U h7=>cL (WU<|U) R<|mA R<|aZ<|aT λa7=>aT λa8=>?_
 refine Zz BZ (by kernel_rfl) ?_
 refine qP R (AL R iL)<|qP R (Bu R iL iL)<|qP R (AL R iL)<|qO R (fB R CD iL fR R)<|qO R (Ab (a:=qb d1.Nodes) R CJ (iR R) R R)<|qO R (Dr R CV iL R R)<|qO R (AL R iL)<|AG h7 λr3 aa h8=>Kw (.one R R R) R R (r:=rI r3) (caps:=[]) (bs:=[.agg [qb d1.Nodes],rI i]) R iL R ⟨⟨_,(iR R),.g (cs:=[.sl<|d1.Nodes.map Ac.row]) R R⟩,⟨_,(iR R),.d R⟩,Za⟩ (λhg=>Lj<|Ad aa hg) R<|AG h8 λx1 ab h9=>qO R (BK R Bs.slice (iR R) (iR R) (λ_=>R)<|Ad ab)<|qO R (BI R CF<|iR R)<|qO R (Bj (d:=.int .i64 x1.Kind) R AI (iR R) R)<|qO R (C0 R (iR R) iL)<|qP R (CN R iL<|iR R)<|AQ.nil<|a8 _<|cI R h9 (λF=>?_) λF=>?_
 ·refine aT λac=>aF [5] ?_
  exact aR<|mM R<|sQ R (D3 R iL iL)<|mA R<|aZ<|ac _<|Zj<|yB F R
 refine Zc<|a7 _<|aT λad=>aG [1,2,5,6,7] [2] ?_
 refine Zz BZ (by kernel_rfl) ?_
 refine qP R (fB R CD iL fR R)<|qP R (Ab (a:=qb d1.Nodes) R CJ iL R R)<|qP R (Dr R CV iL R R)<|qP R (AL R iL)<|AG F λr4 ae af=>AQ.stepC R R R (r:=rI r4) (caps:=[]) (bs:=[.agg [qb d1.Nodes],rI i]) R iL R ⟨⟨_,iL,.g (cs:=[.sl<|d1.Nodes.map Ac.row]) R R⟩,⟨_,iL,.d R⟩,Za⟩ (λ_=>Lj<|ae) R<|AG af λx2 ag ah=>qP R (BK R Bs.slice iL iL (λ_=>R) λ_=>ag)<|qP R (BI R Il iL)<|qP R (Bj (d:=.sl<|x2.Attrs.map AE.row) R Ci iL R)<|AG ah λI w ai=>AQ.stepC R R R (r:=rS I) (caps:=[]) (bs:=[qa x2.Attrs,.r<|.str [110,97,109,101]]) R iL R ⟨⟨_,iL,.d R⟩,⟨_,iL,.d R⟩,Za⟩ (λ_=>Sg<|w) R<|qP R (D7 R iL)<|AQ.nil<|ad _<|aS λaj ak V=>aT λal=>aG [2,5,6,7,8] [2] ?_
 refine aR<|mM R<|mM R<|aZ<|al _<|Zg<|Bd ai λo1 X an=>?_
 have J1:∀(j:List UInt8) (i5:NN),o1=j→aj ⟨[(5,rS s1),(8,rS j)],[],(i5 0),79⟩:=by
  intro j i5 e
  have ao:=an _ e
  exact ak _<|aU<|mM R<|mM R<|sQ R (D3 R iL iL)<|mA R<|aZ<|Zj<|yB ao R
 refine Cw (λ(l:List UInt8) (J:Int) i3=>⟨[(2,.ptr 2 q 0 0),(5,rS s1),(6,qh C),(8,rS l),(50,rI E),(51,rI J)],[(2,some<|.box q 24 [qb d1.Nodes])],(i3 0),79⟩) (AH [(q+1)]) X wk ?_
 intro l J i3 v1 aq ar
 have Z:Gy d1 C E l J=some v1:=aq;unfold Gy at Z
 refine aU<|xS R<|aZ<|aT λau=>cI R Z (λM=>?_) λM=>?_
 ·refine Zc<|au _<|aS λav aw A=>Zg<|Bd M λp1 ax ay=>?_
  have J2:∀(m:List UInt8) (i6:NN),p1=m→av ⟨[(2,.ptr 2 q 0 0),(5,rS s1),(6,qh C),(8,rS m),(50,rI E),(51,rI J)],[(2,some<|.box q 24 [qb d1.Nodes])],(i6 0),79⟩:=by
   intro m i6 e
   have az:=ay _ e
   exact aw _<|aR<|AG az λx6 b0 b1=>xA R b0<|mM R<|Zh<|CU.mk b1 (AH [(i6 0)]) wk
  refine aU<|mM R<|mA R<|aZ<|aT λb2=>AG ax λB b3 b4=>AG b4 λr5 b5 b6=>AG b6 λx8 b7 b8=>?_
  refine JT 12 [pO 54<|.ptr 2 q 0 0,pO 55<|qb d1.Nodes,pO 56<|.agg [qb d1.Nodes],pO 57<|qh C,pO 58<|rI J,pO 59<|.rop (AZ.row B) 0,pO 60<|.rop (AZ.row B) 0,pO 61<|rI B.ID,pO 62<|rI r5,pO 63<|.rop (Ac.row x8) 0,pO 64<|.agg<|A5 x8,⟨some 10,(λT=>.ptr 10 (T 11) 0 0),some (10,(λT=>some<|.box (T 11) 40 FF)),[11]⟩] BZ (by kernel_rfl) (by exact⟨λ_ _ h=>⟨R,λ_ _ e=>by cases e⟩,λ_ _ h=>⟨R,λ_ _ e=>by cases e⟩,λ_ _ h=>⟨R,λ_ _ e=>by cases e⟩,λ_ _ h=>⟨R,λ_ _ e=>by cases e⟩,λ_ _ h=>⟨R,λ_ _ e=>by cases e⟩,λ_ _ h=>⟨R,λ_ _ e=>by cases e⟩,λ_ _ h=>⟨R,λ_ _ e=>by cases e⟩,λ_ _ h=>⟨R,λ_ _ e=>by cases e⟩,λ_ _ h=>⟨R,λ_ _ e=>by cases e⟩,λ_ _ h=>⟨R,λ_ _ e=>by cases e⟩,λ_ _ h=>⟨R,λ_ _ e=>by cases e⟩,λ_ _ h=>⟨by simp only[h 11 R],λ_ _ e=>by cases e;simp only[h 11 R]⟩,Za⟩) R (by exact⟨oB [(2,.ptr 2 q 0 0)] [(2,some<|.box q 24 [qb d1.Nodes])]<|fB R CD (.inl R) (λ_=>R) R,oB [(54,.ptr 2 q 0 0)] [(2,some<|.box q 24 [qb d1.Nodes])]<|Ab (a:=qb d1.Nodes) R CJ (.inl R) R R,oB [(2,.ptr 2 q 0 0)] [(2,some<|.box q 24 [qb d1.Nodes])]<|Dr R CV (.inl R) R R,oB [(6,qh C)] []<|AL R<|.inl R,oB [(9,rI J)] []<|AL R<|.inl R,oB [(57,qh C),(58,rI J)] []<|BK R NY.slice (.inl R) (.inl R) (λ_=>R) λ_=>b3,oB [(59,.rop (AZ.row B) 0)] []<|BI R KE<|.inl R,oB [(60,.rop (AZ.row B) 0)] []<|Bj (d:=.int .i64 B.ID) R AI (.inl R) R,oD (λ_=>[(56,.agg [qb d1.Nodes]),(61,rI B.ID)]) (λ_=>[]) λT e h' n=>Dz (r:=rI r5) (caps:=[]) (bs:=[.agg [qb d1.Nodes],rI B.ID]) R (.inl R) R ⟨⟨_,(.inl R),.g (cs:=[.sl<|d1.Nodes.map Ac.row]) R R⟩,⟨_,(.inl R),.d R⟩,Za⟩ (λ_=>Lj<|b5) R,oB [(55,qb d1.Nodes),(62,rI r5)] []<|BK R Bs.slice (.inl R) (.inl R) (λ_=>R) λ_=>b7,oB [(63,.rop (Ac.row x8) 0)] []<|ET (cs:=(A5 x8)) R ER (.inl R) R R,oM (λ_=>[]) (λ_=>[]) R λT e h' n=>BN (cs:=FF) 10 R I2 R R,Za⟩) λT n1=>?_
  refine Bm [2,5,6,8,9,10,50,51,52,53,54,55,56,57,58,59,60,61,62,63,64] [2,10] ?_
  refine Zl R R (A6 (ds:=(A5 x8)) R IM iL R iL R R R R)<|aZ<|b2 _<|aT λb9=>aG [2,5,6,8,10,50,51] [2,10] ?_
  refine aR<|lF CF AI R R<|xQ R<|mM R<|vF Il Ci R R<|AG b8 λr6 ba bb=>vL (λhg=>Sg<|Ad ba hg) R<|vM R<|vQ R (D3 R (iR R)<|iR R)<|xN R<|aZ<|b9 _<|cI R bb (λO=>?_) λO=>?_
  ·exact aR<|mA R<|Zh<|A _ _ wk<|J2 _ (AH [n1]) (Zf O).symm
  exact Zc<|A _ _ wk<|J2 _ (AH [n1]) (Zf O).symm
 exact Zm<|V _ _ wk<|J1 _ (AH [(i3 0)])<|xH ar M



end Go.Proofs.YtmeadkhpiobenaaGreatDoor.Al
