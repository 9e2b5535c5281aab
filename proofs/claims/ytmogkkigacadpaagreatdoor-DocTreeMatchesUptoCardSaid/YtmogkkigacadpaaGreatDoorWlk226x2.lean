/- Walks, as printed. -/
import Derived.Test.YtmogkkigacadpaaGreatDoorWlk226
import Derived.Test.YtmogkkigacadpaaGreatDoorProg
set_option linter.all false
set_option maxHeartbeats 4000000
set_option maxRecDepth 20000
set_option linter.unusedVariables false
namespace Go.Proofs.YtmogkkigacadpaaGreatDoor.Al
open Go.Proofs Go.Proofs.Tryz
set_option linter.defProp false
theorem eP{j r}(h:N8 j=some r):AZ prog 52 (Qo j) (rI r):=by
 unfold N8 at h
 refine mF func52 ntmps52 R λA=>aU<|sS R (Aw (cs:=(Bs j)) 1 R iL R R)<|mA R<|aZ<|aT λc2=>aU<|lF Fp AI R R<|AE h λr1 aa h1=>cL (DX<|aa) R<|sQ R (A4 R iL)<|mM R<|vF F3 AI R R<|AE h1 λr2 ab h2=>vL (λhg=>DX<|Af ab hg) R<|vQ R (A4 R<|iR R)<|xO R<|aZ<|cI R h2 (λh3=>?_) λh3=>?_
 ·exact zI h3 R id
 refine Zc<|c2 _<|aT λc5=>aT λc6=>aG [1] [1] ?_
 refine aR<|lF DS Dc R R<|lF Fp AI R R<|lF F3 AI R R<|AE h3 λe1 ac h4=>cL (fL<|ac) R<|mA R<|aZ<|c6 _<|aU<|mM R<|xU R<|aZ<|cI R h4 (λh5=>?_) λh5=>?_
 ·refine aT λc8=>aF [3] ?_
  exact aR<|mM R<|mA R<|aZ<|c8 _<|Zi<|yI h5 R
 refine Zc<|c5 _<|aS λK9 c9 ad=>aT λae=>aG [1] [1] ?_
 refine aR<|lF Dx EB R R<|xL CW R<|mM R<|aZ<|ae _<|Zf<|BI h5 λo1 U af w=>?_
 have J1:∀(u2:Unit) (i5:NN),o1=.nrm u2→K9 ⟨[],[],(i5 0),104⟩:=by
  intro u2 i5 e
  have h6:=af _ e
  exact c9 _<|zI h6 R id
 refine Zv (λ(B:Int) T=>⟨[(1,.ptr 1 A 0 0),(29,rL j.Merges),(30,rI B)],[(1,some<|.box A 44<|Bs j)],(T 0),104⟩) (AH [(A+1)]) U wk ?_
 intro B T v1 ag q
 have h7:MZ j B=some v1:=ag;unfold MZ at h7
 refine aU<|xS R<|aZ<|aT λah=>cI R h7 (λh8=>?_) λh8=>?_
 ·refine Zc<|ah _<|aS λai aj V=>Zf<|aU<|mM R<|mA R<|aZ<|aU<|lF Dx EB R R<|mM R<|AE h8 λm ak h9=>xI CW R ak<|xB ((A3 m)) C3 R<|sS R (BB (cs:=Ek) 5 R GS R R)<|Zj R R (Az (ds:=(A3 m)) R Fc iL R iL R R R R)<|aZ<|aT λal=>aU<|xC C3 R<|lF Fp AI R R<|lF F3 AI R R<|AE h9 λr3 an ao=>cL (fp<|an) R<|sQ R (A4 R iL)<|aZ<|cI R ao (λC=>?_) λC=>?_
  ·exact zI (w _<|xH q C) R id
  refine Zc<|al _<|aT λaq=>aT λar=>aG [1,4,5,29,30] [1,5] ?_
  refine aR<|lF Gg AI R R<|xQ R<|mM R<|vF GB AI R R<|vQ R (A8 R (iR R) iL)<|xN R<|aZ<|ar _<|cI R C (λE=>?_) λE=>?_
  ·exact zI (w _<|xH q E) R id
  refine Zc<|aq _<|aT λau=>aT λav=>?_
  refine Zz BV (by kernel_rfl) ?_
  refine qP R (AK R iL)<|qP R (BY R iL iL)<|qP R (AK R iL)<|qO R (fB R CV iL fR R)<|qO R (AU (a:=rI m.Row) R AI (iR R) R R)<|qO R (fB R Dx iL fR R)<|qO R (AU (a:=qd j.Merges) R EB (iR R) R R)<|qO R (AK R iL)<|AE E λx5 X aw=>qO R (CQ R (iR R) iL<|Af X)<|AE aw λx6 Z ax=>qO R (A9 R CW.slice (iR R) (iR R) (λ_=>R)<|Af Z)<|qO R (BH R CV<|iR R)<|qO R (Bc (d:=.int .i64 x6.Row) R AI (iR R) R)<|qO R (Bz R (iR R)<|iR R)<|qO R (AK R<|iR R)<|qT R (fB R CV iL fR R)<|qT R (AU (a:=rI m.Row) R AI (iR R) R R)<|qT R (fB R Dx iL fR R)<|qT R (AU (a:=qd j.Merges) R EB (iR R) R R)<|qT R (AK R iL)<|qT R (CQ R (iR R) iL λh=>Af X (pp.1 h).1)<|qT R (A9 R CW.slice (iR R) (iR R) (λ_=>R) λh=>Af Z (pp.1 h).1)<|qT R (BH R CV<|iR R)<|qT R (Bc (d:=.int .i64 x6.Row) R AI (iR R) R)<|qT R (A8 R (iR R)<|iR R)<|qT R (AK R<|iR R)<|qT R (fB R Cv iL fR R)<|qT R (AU (a:=rI m.Col) R AI (iR R) R R)<|qT R (fB R Dx iL fR R)<|qT R (AU (a:=qd j.Merges) R EB (iR R) R R)<|qT R (AK R iL)<|AE ax λx7 ay az=>qT R (CQ R (iR R) iL<|Af ay)<|AE az λx8 b0 b1=>qT R (A9 R CW.slice (iR R) (iR R) (λ_=>R)<|Af b0)<|qT R (BH R Cv<|iR R)<|qT R (Bc (d:=.int .i64 x8.Col) R AI (iR R) R)<|qT R (Ey R (iR R)<|iR R)<|qT R (BK R (iR R)<|iR R)<|qO R (Ct R (iR R)<|iR R)<|qP R (BK R iL<|iR R)<|AQ.nil<|av _<|cI R b1 (λF=>?_) λF=>?_
  ·exact zI (w _<|xH q F) R id
  refine Zc<|au _<|aT λb2=>aG [1,4,5,29,30] [1,5] ?_
  refine aR<|mM R<|mM R<|aZ<|b2 _<|Zf<|BI F λo2 a0 b3 b4=>?_
  have J2:∀(u4:Unit) (I:NN),o2=.nrm u4→ai ⟨[(1,.ptr 1 A 0 0),(29,rL j.Merges),(30,rI B)],[(1,some<|.box A 44<|Bs j)],(I 0),104⟩:=by
   intro u4 I e
   have b5:=b3 _ e
   exact aj _<|aR<|AE b5 λbg a1 b6=>xA R a1<|mM R<|Zh<|Zr b6 (AH [(I 0)]) wk
  refine Zv (λ(J:Int) i8=>⟨[(1,.ptr 1 A 0 0),(5,.ptr 5 (T 0) 0 0),(29,rL j.Merges),(30,rI B),(91,rI B),(92,rI J)],[(1,some<|.box A 44<|Bs j),(5,some<|.box (T 0) 86<|A3 m)],(i8 0),104⟩) (AH [((T 0)+1)]) a0 wk ?_
  intro J i8 v2 b7 a2
  have a6:Ny j B m J=some v2:=b7;unfold Ny at a6
  refine aU<|xS R<|aZ<|aT λb8=>cI R a6 (λM=>?_) λM=>?_
  ·refine Zc<|b8 _<|aT λb9=>Zf<|aU<|mM R<|mA R<|aZ<|aT λba=>?_
   refine Zz BV (by kernel_rfl) ?_
   refine qP R (DU R C3 iL R R)<|qP R (fB R Dx iL fR R)<|qP R (AU (a:=qd j.Merges) R EB iL R R)<|qP R (AK R iL)<|AE M λl a7 bb=>qP R (A9 R CW.slice iL iL (λ_=>R) λ_=>a7)<|qP R (Cf (cs:=(A3 l)) R C3 iL R R)<|AE bb λr4 bc bd=>AQ.stepC R R R (r:=rB r4) (caps:=[]) (bs:=[.agg<|A3 m,.agg<|A3 l]) R iL R ⟨⟨_,iL,.g (cs:=[.int .i64 m.Row,.int .i64 m.Col,.int .i64 m.H,.int .i64 m.W]) R R⟩,⟨_,iL,.g (cs:=[.int .i64 l.Row,.int .i64 l.Col,.int .i64 l.H,.int .i64 l.W]) R R⟩,Za⟩ (λ_=>Xt<|bc) R<|AQ.nil<|ba _<|cI R bd (λO=>?_) λO=>?_
   ·refine aT λbe=>aF [] ?_
    exact aR<|mA R<|aZ<|be _<|Zi<|yI (w _<|q _ (Zg<|b4 _<|xH a2 O).symm) R
   refine Zc<|b9 _<|aG [1,5,29,30,91,92] [1,5] ?_
   exact aR<|AE O λbh a8 bf=>xA R a8<|mM R<|Zh<|Zr bf (AH [(i8 0)]) wk
  exact Zm<|V _ _ wk<|J2 _ (AH [(i8 0)])<|xH a2 M
 exact Zm<|ad _ _ wk<|J1 _ (AH [(T 0)])<|xH q h8
theorem YQ{k j r}(h:MP k j=some r):AZ prog 53 [rI k,qc j] (rI r):=by
 unfold MP at h
 refine mF func53 ntmps53 R λZ=>aU<|mA R<|aZ<|aS λK2 c2 A=>aU<|mM R<|xL Bm R<|mM R<|aZ<|Zf<|BI h λo1 l B C=>?_
 have J1:∀(T:Unit) (U:NN),o1=.nrm T→K2 ⟨[],[],(U 0),43⟩:=by
  intro T U e
  have h1:=B _ e
  exact c2 _<|zI h1 R id
 refine Zv (λ(E:Int) w=>⟨[(0,rI k),(1,qc j),(7,rL j),(8,rI E)],[],(w 0),43⟩) (AH [Z]) l wk ?_
 intro E w v1 F m
 have V:Ml k j E=some v1:=F;unfold Ml at V
 refine aU<|xS R<|aZ<|aT λc6=>cI R V (λI=>?_) λI=>?_
 ·refine Zc<|c6 _<|aT λc7=>Zf<|aU<|mM R<|mA R<|aZ<|aT λc9=>aR<|mM R<|xQ R<|mM R<|vM R<|vM R<|AE I λX q h4=>vQ R (A9 R Bm.slice (iR R) (iR R) (λ_=>R)<|Af q)<|vQ R (BH R HK<|iR R)<|vQ R (Bc (d:=.str X.Text) R BE (iR R) R)<|vQ R (EA R (iR R) iL)<|vQ R (AK R<|iR R)<|wQ R (AK R iL)<|wQ R (AK R iL)<|wQ R (A9 R Bm.slice (iR R) (iR R) (λ_=>R) λh=>Af q (pp.1 h).1)<|wQ R (BH R Fv<|iR R)<|wQ R (Bc (d:=.sl<|X.Attrs.map AG.row) R Ca (iR R) R)<|wQ R (DM R BA.slice<|iR R)<|wQ R (BY R (iR R) iL)<|vQ R (Ct R (iR R)<|iR R)<|xN R<|mM R<|vM R<|vQ R (A8 R (iR R) iL)<|vQ R (AK R<|iR R)<|wQ R (AK R iL)<|wQ R (AK R iL)<|AE h4 λx5 J h5=>wQ R (A9 R Bm.slice (iR R) (iR R) (λ_=>R)<|Af J)<|wQ R (BH R DG<|iR R)<|wQ R (Bc (d:=.int .i64 x5.Ref) R AI (iR R) R)<|wQ R (DK R (iR R) iL)<|vQ R (BK R (iR R)<|iR R)<|xO R<|aZ<|c9 _<|cI R h5 (λM=>?_) λM=>?_
  ·exact zI (C _<|xH m M) R id
  refine Zc<|c7 _<|aF [0,1,7,8] ?_
  exact aR<|AE M λx6 O h7=>xA R O<|mM R<|Zh<|Zr h7 (AH [(w 0)]) wk
 exact Zm<|A _ _ wk<|J1 _ (AH [(w 0)])<|xH m I
theorem iA{l r}(h:OJ l=some r):AZ prog 92 [rS l] (rB r):=by
 unfold OJ at h
 refine mF func92 ntmps92 R λZ=>aU<|mA R<|aZ<|aS λK2 c2 B=>aU<|mM R<|sQ R (Db R underlying9 iL)<|mM R<|aZ<|Zf<|BI h λo1 m C E=>?_
 have J1:∀(U:Unit) (V:NN),o1=.nrm U→K2 ⟨[(0,rS l)],[],(V 0),36⟩:=by
  intro U V e
  have h1:=C _ e
  exact c2 _<|aU<|mM R<|sQ R (Db R underlying9 iL)<|sQ R (Cw R iL iL)<|mM R<|vM R<|vQ R (Db R underlying9<|iR R)<|vQ R (Ey R (iR R) iL)<|xN R<|mM R<|vM R<|vM R<|vQ R (Db R underlying9<|iR R)<|AE h1 λx4 F h2=>vQ R (CQ R (iR R) iL<|Af F)<|AE h2 λa0 q h3=>vQ R (CP R underlying9 (iR R) (iR R)<|Af q)<|vQ R (DK R (iR R) iL)<|xN R<|mA R<|aZ<|Zi<|yB h3 R
 refine Zv (λ(I:Int) A=>⟨[(0,rS l),(5,rL l),(6,rI I)],[],(A 0),36⟩) (AH [Z]) m wk ?_
 intro I A v1 J w
 have X:JZ l I=some v1:=J;unfold JZ at X
 refine aU<|xS R<|aZ<|aT λc6=>cI R X (λM=>?_) λM=>?_
 ·refine Zc<|c6 _<|aT λc7=>Zf<|aU<|mM R<|mA R<|aZ<|aU<|mM R<|mM R<|AE M λa1 j h6=>sQ R (CP R underlying9 iL iL λ_=>j)<|xS R<|mM R<|vM R<|vM R<|vQ R (CP R underlying9 (iR R) (iR R) λ_=>j)<|vQ R (BY R (iR R) iL)<|xO R<|aZ<|cI R h6 (λO=>?_) λO=>?_
  ·exact zB (E _<|xH w O) R id
  refine Zc<|c7 _<|aF [0,5,6] ?_
  exact aR<|AE O λx5 T h8=>xA R T<|mM R<|Zh<|Zr h8 (AH [(A 0)]) wk
 exact Zm<|B _ _ wk<|J1 _ (AH [(A 0)])<|xH w M
theorem fd{j l r}(h:KZ j l=some r):AZ prog 93 [.agg<|BX j,.agg<|BX l] (rB r):=by
 unfold KZ at h
 exact mF func93 ntmps93 R λm=>aU<|sS R (Aw (cs:=(BX j)) 2 R iL R R)<|sS R (Aw (cs:=(BX l)) 3 R iL R R)<|mA R<|aZ<|aU<|lF Hm AI R R<|lF Hm AI R R<|xS R<|mM R<|vF Hm AI R R<|vF Hm AI R R<|vQ R (A8 R (iR R)<|iR R)<|vQ R (AK R<|iR R)<|wQ R (fB R Jt iL fR R)<|wQ R (AU (a:=rI j.Site) R AI (iR R) R R)<|wQ R (fB R Jt iL fR R)<|wQ R (AU (a:=rI l.Site) R AI (iR R) R R)<|wQ R (Bz R (iR R)<|iR R)<|vQ R (BK R (iR R)<|iR R)<|xO R<|mA R<|aZ<|Zi<|yB h R
theorem ZB{B r}(h:M8 B=some r):AZ prog 54 [qf B] (rI r):=by
 unfold M8 at h
 refine mF func54 ntmps54 R λn0=>aU<|mA R<|aZ<|aS λK2 c2 a1=>aU<|mM R<|xL Dq R<|mM R<|aZ<|Zf<|BI h λo1 X a2 l=>?_
 have J1:∀(u2:Unit) (i5:NN),o1=.nrm u2→K2 ⟨[],[],(i5 0),91⟩:=by
  intro u2 i5 e
  have h1:=a2 _ e
  exact c2 _<|zI h1 R id
 refine Zv (λ(Z:Int) C=>⟨[(0,qf B),(6,rL B),(7,rI Z)],[],(C 0),91⟩) (AH [n0]) X wk ?_
 intro Z C v1 a6 j
 have h2:Mv B Z=some v1:=a6;unfold Mv at h2
 refine aU<|xS R<|aZ<|aT λc6=>cI R h2 (λh3=>?_) λh3=>?_
 ·refine Zc<|c6 _<|aT λc7=>Zf<|aU<|mM R<|mA R<|aZ<|aU<|mM R<|mM R<|AE h3 λq a7 h4=>xI Dq R a7<|xB ((BX q)) GI R<|sS R (BB (cs:=PE) 4 R Pg R R)<|Zj R R (Az (ds:=(BX q)) R QJ iL R iL R R R R)<|aZ<|aT λa8=>aU<|lF FO AI R R<|xU R<|mM R<|vF FO AI R R<|vQ R (DK R (iR R) iL)<|xN R<|aZ<|cI R h4 (λh5=>?_) λh5=>?_
  ·exact zI (l _<|xH j h5) R id
  refine Zc<|a8 _<|aT λaa=>aT λab=>aG [0,3,4,6,7] [4] ?_
  refine aR<|lF Hm AI R R<|AE h5 λr1 ac h6=>cL (DX<|ac) R<|sQ R (A4 R iL)<|mM R<|vF Jt AI R R<|AE h6 λr2 ad h7=>vL (λhg=>DX<|Af ad hg) R<|vQ R (A4 R<|iR R)<|xO R<|mM R<|vF FF AI R R<|AE h7 λr3 ae h8=>vL (λhg=>DX<|Af ae hg) R<|vQ R (A4 R<|iR R)<|xO R<|aZ<|ab _<|cI R h8 (λh9=>?_) λh9=>?_
  ·exact zI (l _<|xH j h9) R id
  refine Zc<|aa _<|aS λaf ag A=>aU<|lF FO AI R R<|xQ R<|aZ<|BI h9 λp1 a0 ah m=>?_
  have J2:∀(u3:Unit) (i6:NN),p1=.nrm u3→af ⟨[(0,qf B),(3,rI Z),(4,.ptr 4 (C 0) 0 0),(6,rL B),(7,rI Z)],[(4,some<|.box (C 0) 129<|BX q)],(i6 0),91⟩:=by
   intro u3 i6 e
   have ai:=ah _ e
   refine ag _<|aT λaj=>?_
   refine Zz BV (by kernel_rfl) ?_
   refine qP R (AK R iL)<|qP R (BY R iL iL)<|qP R (AK R iL)<|qO R (AK R iL)<|qO R (AK R iL)<|AE ai λx5 ak al=>qO R (CQ R (iR R) iL<|Af ak)<|AE al λw an ao=>qO R (A9 R Dq.slice (iR R) (iR R) (λ_=>R)<|Af an)<|qO R (Cf (cs:=(BX w)) R GI (iR R) R R)<|qO R (DU R GI iL R R)<|AE ao λr4 aq ar=>OY (.one R R R) R R (r:=rB r4) (caps:=[]) (bs:=[.agg<|BX w,.agg<|BX q]) R iL R ⟨⟨_,(iR R),.g (cs:=[.int .i64 w.Clock,.int .i64 w.Site,.int .i64 w.Kind,.int .i64 w.Item,.int .i64 w.Parent,.str w.Place,.str w.Name,.str w.Value]) R R⟩,⟨_,(iR R),.g (cs:=[.int .i64 q.Clock,.int .i64 q.Site,.int .i64 q.Kind,.int .i64 q.Item,.int .i64 q.Parent,.str q.Place,.str q.Name,.str q.Value]) R R⟩,Za⟩ (λhg=>fd<|Af aq hg) R<|qO R (A4 R<|iR R)<|qP R (BK R iL<|iR R)<|AQ.nil<|aj _<|cI R ar (λE=>?_) λE=>?_
   ·exact zI (l _<|xH j E) R id
   exact Zc<|c7 _<|aR<|AE E λx7 au av=>xA R au<|mM R<|Zh<|Zr av (AH [(i6 0)]) wk
  refine aC R (λF=>?_) λF=>?_
  ·have I:=Cd F a0
   refine aT λaw=>aT λax=>aG [0,3,4,6,7] [4] ?_
   refine aR<|lF LQ BE R R<|sQ R (EA R iL iL)<|mM R<|vF If BE R R<|vQ R (EA R (iR R) iL)<|xO R<|aZ<|ax _<|cI R I (λJ=>?_) λJ=>?_
   ·refine aT λay=>aF [] ?_
    exact aR<|mA R<|aZ<|ay _<|Zi<|yI (l _<|j _ (Zg<|m _ (Zg J).symm).symm) R
   refine Zc<|aw _<|aT λaz=>aU<|lF GZ AI R R<|AE J λr5 b0 b1=>cL (DX<|b0) R<|sQ R (A4 R iL)<|aZ<|cI R b1 (λM=>?_) λM=>?_
   ·refine aT λb2=>aF [] ?_
    exact aR<|mA R<|aZ<|b2 _<|Zi<|yI (l _<|j _ (Zg<|m _ (Zg M).symm).symm) R
   refine Zc<|az _<|aT λb3=>aG [0,3,4,6,7] [4] ?_
   refine aR<|lF LH BE R R<|AE M λr6 b4 b5=>cL (iA<|b4) R<|sQ R (A4 R iL)<|aZ<|b3 _<|cI R b5 (λO=>?_) λO=>?_
   ·refine aT λb6=>aF [] ?_
    exact aR<|mA R<|aZ<|b6 _<|Zi<|yI (l _<|j _ (Zg<|m _ (Zg O).symm).symm) R
   exact Zc<|A _ _ wk<|J2 _ (AH [((C 0)+1)]) (Zg O).symm
  ·have I:=CY F a0
   refine aT λb7=>aT λb8=>aG [0,3,4,6,7] [4] ?_
   refine aR<|lF GZ AI R R<|xU R<|mM R<|vF LH BE R R<|vQ R (EA R (iR R) iL)<|xO R<|aZ<|b8 _<|cI R I (λT=>?_) λT=>?_
   ·refine aT λb9=>aF [] ?_
    exact aR<|mA R<|aZ<|b9 _<|Zi<|yI (l _<|j _ (Zg<|m _ (Zg T).symm).symm) R
   refine Zc<|b7 _<|aT λba=>aU<|lF LQ BE R R<|AE T λr7 bb bc=>cL (U4<|bb) R<|sQ R (A4 R iL)<|aZ<|cI R bc (λU=>?_) λU=>?_
   ·refine aT λbd=>aF [] ?_
    exact aR<|mA R<|aZ<|bd _<|Zi<|yI (l _<|j _ (Zg<|m _ (Zg U).symm).symm) R
   refine Zc<|ba _<|aT λbe=>aG [0,3,4,6,7] [4] ?_
   refine aR<|lF If BE R R<|sQ R (EA R iL iL)<|mM R<|vF If BE R R<|AE U λr8 bf bg=>vL (λhg=>V8<|Af bf hg) R<|vQ R (A4 R<|iR R)<|xN R<|aZ<|be _<|cI R bg (λV=>?_) λV=>?_
   ·refine aT λbh=>aF [] ?_
    exact aR<|mA R<|aZ<|bh _<|Zi<|yI (l _<|j _ (Zg<|m _ (Zg V).symm).symm) R
   exact Zc<|A _ _ wk<|J2 _ (AH [((C 0)+1)]) (Zg V).symm
 exact Zm<|a1 _ _ wk<|J1 _ (AH [(C 0)])<|xH j h3
theorem gF{n1 r}(h:ND n1=some r):AZ prog 26 (Io n1) (rI r):=by
 unfold ND at h
 refine mF func26 ntmps26 R λn0=>aU<|sS R (Aw (cs:=(At n1)) 1 R iL R R)<|mA R<|aZ<|aT λc2=>aU<|lF Dp AI R R<|AE h λr1 E h1=>cL (DX<|E) R<|sQ R (A4 R iL)<|aZ<|cI R h1 (λF=>?_) λF=>?_
 ·exact zI F R id
 refine Zc<|c2 _<|aT λc5=>aU<|lF CT AI R R<|AE F λr2 I h3=>cL (DX<|I) R<|sQ R (A4 R iL)<|mM R<|vF Dp AI R R<|vQ R (A8 R (iR R) iL)<|vQ R (AK R<|iR R)<|wQ R (fB R CT iL fR R)<|wQ R (AU (a:=rI n1.Kind) R AI (iR R) R R)<|wQ R (DK R (iR R) iL)<|vQ R (BK R (iR R)<|iR R)<|xO R<|mM R<|vF Dp AI R R<|vQ R (DK R (iR R) iL)<|vQ R (AK R<|iR R)<|wQ R (fB R CT iL fR R)<|wQ R (AU (a:=rI n1.Kind) R AI (iR R) R R)<|wQ R (A8 R (iR R) iL)<|vQ R (BK R (iR R)<|iR R)<|xO R<|aZ<|cI R h3 (λJ=>?_) λJ=>?_
 ·exact zI J R id
 refine Zc<|c5 _<|aT λc8=>aT λc9=>aG [1] [1] ?_
 refine aR<|lF Kz Ca R R<|AE J λe1 M h5=>cL (SM<|M) R<|mA R<|aZ<|c9 _<|aU<|mM R<|xU R<|aZ<|cI R h5 (λO=>?_) λO=>?_
 ·exact aU<|mM R<|mA R<|aZ<|Zi<|yI O R
 refine Zc<|c8 _<|aU<|lF CT AI R R<|AE O λr3 w h7=>cL (SK<|w) R<|mM R<|vF CT AI R R<|AE h7 λr4 T h8=>vL (λhg=>ja<|Af T hg) R<|xO R<|mA R<|aZ<|aT λU=>aT λV=>aG [1,4] [1] ?_
 refine aR<|lF EH EN R R<|xL B1 R<|sQ R (BY R iL iL)<|mM R<|vM R<|vQ R (A4 R<|iR R)<|xN R<|mM R<|vQ R (fB R DF iL fR R)<|vQ R (GL (ds:=(Bs n1.Grid)) R Fm (iR R) R R R)<|AE h8 λr5 X h9=>vL (λhg=>Y8<|Af X hg) R<|vQ R (A4 R<|iR R)<|vQ R (AK R<|iR R)<|wQ R (fB R CT iL fR R)<|wQ R (AU (a:=rI n1.Kind) R AI (iR R) R R)<|AE h9 λr6 Z a0=>AL.stepW (.two R R R) R R (DJ (r:=rB r6) (caps:=[]) (bs:=[rI n1.Kind]) R iL R ⟨⟨_,(iR R),.d R⟩,Za⟩ (λhg=>Ta<|Af Z hg) R)<|wQ R (A4 R<|iR R)<|vQ R (BK R (iR R)<|iR R)<|xO R<|mM R<|vF Fw GM R R<|vQ R (DM R Dq.slice<|iR R)<|vQ R (BY R (iR R) iL)<|vQ R (AK R<|iR R)<|wQ R (fB R CT iL fR R)<|wQ R (AU (a:=rI n1.Kind) R AI (iR R) R R)<|AE a0 λr7 a1 a2=>AL.stepW (.two R R R) R R (DJ (r:=rB r7) (caps:=[]) (bs:=[rI n1.Kind]) R iL R ⟨⟨_,(iR R),.d R⟩,Za⟩ (λhg=>gQ<|Af a1 hg) R)<|wQ R (A4 R<|iR R)<|vQ R (BK R (iR R)<|iR R)<|xO R<|aZ<|V _<|cI R a2 (λj=>?_) λj=>?_
 ·exact zI j R id
 refine Zc<|U _<|aT λa6=>aT λa7=>aG [1,4] [1] ?_
 refine aR<|mM R<|aZ<|a7 _<|cI R j (λl=>?_) λl=>?_
 ·refine aT λa8=>?_
  refine Zz BV (by kernel_rfl) ?_
  exact qP R (fB R EH iL fR R)<|qP R (AU (a:=qe n1.Flow) R EN iL R R)<|qP R (fB R CT iL fR R)<|qP R (AU (a:=rI n1.Kind) R AI iL R R)<|AQ.stepC R R R (r:=rB r3) (caps:=[]) (bs:=[rI n1.Kind]) R iL R ⟨⟨_,iL,.d R⟩,Za⟩ (λ_=>SK<|w) R<|AE l λr9 aa ab=>AQ.stepC R R R (r:=rI r9) (caps:=[]) (bs:=[qe n1.Flow,rB r3]) R iL R ⟨⟨_,iL,.d R⟩,⟨_,iL,.d R⟩,Za⟩ (λ_=>iV<|aa) R<|qP R (EF R iL)<|AQ.nil<|a8 _<|Zi<|yI ab R
 refine Zc<|a6 _<|aT λac=>aU<|lF CT AI R R<|AE l λal A ad=>cL (Ta<|A) R<|aZ<|cI R ad (λm=>?_) λm=>?_
 ·refine aT λae=>aU<|sQ R (fB R DF iL fR R)<|sQ R (GL (ds:=(Bs n1.Grid)) R Fm iL R R R)<|AE m λe2 af ag=>cL (eP<|af) R<|mA R<|aZ<|aU<|mM R<|xU R<|aZ<|cI R ag (λq=>?_) λq=>?_
  ·refine aT λah=>aF [5] ?_
   exact aR<|mM R<|mA R<|aZ<|ah _<|Zi<|yI q R
  refine Zc<|ae _<|aT λai=>aG [1] [1] ?_
  exact aR<|lF CT AI R R<|sQ R (fB R DF iL fR R)<|lF DS Dc R R<|AE q λan B aj=>cL (YQ<|B) R<|mA R<|aZ<|ai _<|Zi<|yI aj R
 exact Zc<|ac _<|aU<|lF Fw GM R R<|AE m λao C ak=>cL (ZB<|C) R<|mA R<|aZ<|Zi<|yI ak R
theorem fx{n1 r}(h:N9 n1=some r):AZ prog 28 (Io n1) (.r<|.sl<|r.map<|AY .i64):=by
 unfold N9 at h
 refine mF func28 ntmps28 R λj=>aU<|sS R (Aw (cs:=(At n1)) 1 R iL R R)<|mA R<|aZ<|aU<|mA R<|aZ<|aS λK3 c3 a7=>aU<|lF EH EN R R<|xL B1 R<|mM R<|aZ<|Zf<|Ba h λo1 a0 a8=>?_
 have J1:∀(w:List Int) (i5:NN),o1=w→K3 ⟨[(1,.ptr 1 j 0 0),(3,.own 5003<|i5 0)],[(1,some<|.box j 47<|At n1),(5003,some<|.arr (i5 0) 3 1<|w.map<|AY .i64)],(i5 1),56⟩:=by
  intro w i5 e
  have h1:=a8 _ e
  refine c3 _<|aS λK5 c5 aa=>aU<|sQ R (fB R DF iL fR R)<|lF DS Dc R R<|xL Bm R<|mM R<|aZ<|Zf<|Ba h1 λo2 a1 ab=>?_
  have J2:∀(A:List Int) (I:NN),o2=A→K5 ⟨[(3,.own 5003<|I 0)],[(5003,some<|.arr (I 0) 3 1<|A.map<|AY .i64)],(I 1),56⟩:=by
   intro A I e
   have h2:=ab _ e
   exact c5 _<|aU<|mM R<|mA R<|aZ<|Zi<|CG (P:=prog) (λ(r:(List Int))=>.r<|.sl<|r.map<|AY .i64) h2 iL<|.t<|.one<|.own R
  refine Ch (λ(x5:Int) (B:List Int) i8=>⟨[(1,.ptr 1 j 0 0),(3,.own 5003<|i8 0),(32,rL n1.Grid.Cells),(33,rI x5)],[(1,some<|.box j 47<|At n1),(5003,some<|.arr (i8 0) 3 1<|B.map<|AY .i64)],(i8 1),56⟩) (AH [(i5 0),(i5 1)]) a1 wk ?_
  intro x5 B i8 v1 ac ad
  have h3:Ow n1 x5 B=some v1:=ac;unfold Ow at h3
  refine aU<|xS R<|aZ<|aT λc9=>cI R h3 (λh4=>?_) λh4=>?_
  ·refine Zc<|c9 _<|aS λae af O=>Zf<|Ba h4 λp1 ag ah=>?_
   have J3:∀(C:List Int) (m:NN),p1=C→ae ⟨[(1,.ptr 1 j 0 0),(3,.own 5003<|m 0),(32,rL n1.Grid.Cells),(33,rI x5)],[(1,some<|.box j 47<|At n1),(5003,some<|.arr (m 0) 3 1<|C.map<|AY .i64)],(m 1),56⟩:=by
    intro C m e
    have h5:=ah _ e
    exact af _<|aR<|AE h5 λx7 ai h6=>xA R ai<|mM R<|Zh<|ZG h6 (AH [(m 0),(m 1)]) wk
   refine aU<|mM R<|mA R<|aZ<|aU<|sQ R (fB R DF iL fR R)<|lF DS Dc R R<|mM R<|AE ag λx8 a2 h7=>xI Bm R a2<|sQ R (BH R DG iL)<|xV (.int .i64 x8.Ref) AI R<|xU R<|aZ<|cI R h7 (λh8=>?_) λh8=>?_
   ·refine aG [1,3,5,32,33] [1,5003] ?_
    exact aR<|mM R<|sQ R (fB R DF iL fR R)<|lF DS Dc R R<|mM R<|xI Bm R a2<|sQ R (BH R DG iL)<|xV (.int .i64 x8.Ref) AI R<|sS R (Bo 52 R BL (f:=(AY .i64)) (l:=([x8.Ref]:List Int)) ⟨R,⟨_,iL,R⟩,Za⟩ R (λ_=>R) R)<|AE h8 λaj J h9=>sS R (DB R BL iL R (.inr<|.inl ⟨_,_,iL,R⟩) J)<|mA R<|Zh<|O _ _ wk<|J3 _ (AH [((i8 1)+1),((i8 1)+2)]) (Zg h9).symm
   exact Zc<|O _ _ wk<|J3 _ (AH [(i8 0),(i8 1)]) (Zg h8).symm
  exact Zm<|aa _ _ wk<|J2 _ (AH [(i8 0),(i8 1)])<|xH ad h4
 refine Ch (λ(x2:Int) (E:List Int) F=>⟨[(1,.ptr 1 j 0 0),(3,.own 5003<|F 0),(8,rL n1.Flow),(9,rI x2)],[(1,some<|.box j 47<|At n1),(5003,some<|.arr (F 0) 3 1<|E.map<|AY .i64)],(F 1),56⟩) (AH [(j+1),(j+2)]) a0 (Zx (Zx (F9 3 5003 3 1 (by decide) R)<|by exact Ae.cv (e':=[(0,.agg<|At n1),(1,.ptr 1 j 0 0),(2,cZ),(3,.own 5003<|j+1),(6,.ptr 1 j 0 3),(7,qe n1.Flow),(8,rL n1.Flow),(9,rI 0)]) (h':=[(1,some<|.box j 47<|At n1),(5003,some<|.arr (j+1) 3 1<|([]:List Int).map<|AY .i64)]) ⟨jL,jL,jL,jL,jL,jL,jL,jL,Za⟩ ⟨.inl R,.inl R,Za⟩ nL) wk) ?_
 intro x2 E F v2 ak al
 have a6:P0 n1 x2 E=some v2:=ak;unfold P0 at a6
 refine aU<|xS R<|aZ<|aT λan=>cI R a6 (λV=>?_) λV=>?_
 ·refine Zc<|an _<|aS λao aq T=>Zf<|Ba V λp2 ar au=>?_
  have J4:∀(l:List Int) (q:NN),p2=l→ao ⟨[(1,.ptr 1 j 0 0),(3,.own 5003<|q 0),(8,rL n1.Flow),(9,rI x2)],[(1,some<|.box j 47<|At n1),(5003,some<|.arr (q 0) 3 1<|l.map<|AY .i64)],(q 1),56⟩:=by
   intro l q e
   have av:=au _ e
   exact aq _<|aR<|AE av λx9 aw ax=>xA R aw<|mM R<|Zh<|ZG ax (AH [(q 0),(q 1)]) wk
  refine aU<|mM R<|mA R<|aZ<|aU<|lF EH EN R R<|mM R<|AE ar λX U ay=>xI B1 R U<|sQ R (BH R Dh iL)<|xV (.int .i64 X.Ref) AI R<|xU R<|aZ<|cI R ay (λZ=>?_) λZ=>?_
  ·refine aG [1,3,4,8,9] [1,5003] ?_
   exact aR<|mM R<|lF EH EN R R<|mM R<|xI B1 R U<|sQ R (BH R Dh iL)<|xV (.int .i64 X.Ref) AI R<|sS R (Bo 26 R BL (f:=(AY .i64)) (l:=([X.Ref]:List Int)) ⟨R,⟨_,iL,R⟩,Za⟩ R (λ_=>R) R)<|AE Z λaz M b0=>sS R (DB R BL iL R (.inr<|.inl ⟨_,_,iL,R⟩) M)<|mA R<|Zh<|T _ _ wk<|J4 _ (AH [((F 1)+1),((F 1)+2)]) (Zg b0).symm
  exact Zc<|T _ _ wk<|J4 _ (AH [(F 0),(F 1)]) (Zg Z).symm
 exact Zm<|a7 _ _ wk<|J1 _ (AH [(F 0),(F 1)])<|xH al V
theorem R7{d1 i r}(h:IL d1 i=some r):AZ prog 55 [.agg [qb d1.Nodes],rI i] (rI r):=by
 unfold IL at h
 refine mF func55 ntmps55 R λq=>aU<|sS R (Aw (cs:=[qb d1.Nodes]) 2 R iL R R)<|mA R<|aZ<|aS λX Z w=>aU<|lF B8 B6 R R<|xL Bh R<|mM R<|aZ<|Zf<|BI h λo1 j A B=>?_
 have J1:∀(T:Unit) (U:NN),o1=.nrm T→X ⟨[],[],(U 0),22⟩:=by
  intro T U e
  have h1:=A _ e
  exact Z _<|zI h1 R id
 refine Zv (λ(C:Int) m=>⟨[(1,rI i),(2,.ptr 2 q 0 0),(8,rL d1.Nodes),(9,rI C)],[(2,some<|.box q 24 [qb d1.Nodes])],(m 0),22⟩) (AH [(q+1)]) j wk ?_
 intro C m v1 E l
 have V:NG d1 i C=some v1:=E;unfold NG at V
 refine aU<|xS R<|aZ<|aT λc6=>cI R V (λF=>?_) λF=>?_
 ·refine Zc<|c6 _<|aT λc7=>Zf<|aU<|mM R<|mA R<|aZ<|aU<|lF B8 B6 R R<|mM R<|AE F λx4 I h4=>xI Bh R I<|sQ R (BH R Dp iL)<|xV (.int .i64 x4.ID) AI R<|mM R<|xQ R<|aZ<|cI R h4 (λJ=>?_) λJ=>?_
  ·refine aT λM=>aF [5] ?_
   exact aR<|mM R<|mA R<|aZ<|M _<|Zi<|yI (B _<|xH l J) R
  refine Zc<|c7 _<|aG [1,2,8,9] [2] ?_
  exact aR<|AE J λx5 O h6=>xA R O<|mM R<|Zh<|Zr h6 (AH [(m 0)]) wk
 exact Zm<|w _ _ wk<|J1 _ (AH [(m 0)])<|xH l F
theorem jo{p k r}(h:NO p k=some r):AZ prog 56 [rI p,rI k] (rB r):=by
 unfold NO at h
 refine mF func56 ntmps56 R λI=>aU<|mA R<|aZ<|aT λc2=>aU<|mM R<|aZ<|Zf<|aS λK4 c4 j=>aU<|xQ R<|mA R<|aZ<|Ba h λp1 J U=>?_
 have M:∀(V:Bool) (T:NN),p1=V→K4 ⟨[(0,rI p),(5,rI k),(6,rB V)],[],(T 0),51⟩:=by
  intro V T e
  have h1:=U _ e
  refine c4 _<|cI R h1 (λX=>?_) λX=>?_
  ·exact aU<|mM R<|xQ R<|mA R<|aZ<|Zi<|yB X R
  refine aU<|xQ R<|mA R<|aZ<|cI R X (λZ=>?_) λZ=>?_
  ·exact aU<|mM R<|xQ R<|mM R<|vM R<|vQ R (A8 R (iR R) iL)<|xO R<|mM R<|vM R<|vQ R (A8 R (iR R) iL)<|xO R<|mA R<|aZ<|Zi<|yB Z R
  refine aU<|xQ R<|mA R<|aZ<|cI R Z (λh4=>?_) λh4=>?_
  ·exact aU<|mM R<|xQ R<|mA R<|aZ<|Zi<|yB h4 R
  refine aU<|xQ R<|mA R<|aZ<|cI R h4 (λh5=>?_) λh5=>?_
  ·exact aU<|mM R<|xQ R<|mM R<|vM R<|vQ R (A8 R (iR R) iL)<|xO R<|mA R<|aZ<|Zi<|yB h5 R
  refine aU<|xQ R<|mA R<|aZ<|cI R h5 (λh6=>?_) λh6=>?_
  ·refine aT λa0=>aF [0] ?_
   exact aR<|mM R<|AE h6 λr1 a1 h7=>cL (SK<|a1) R<|mA R<|aZ<|a0 _<|Zi<|yB h7 R
  refine aT λa2=>aF [0,5] ?_
  refine aR<|xQ R<|mA R<|aZ<|a2 _<|cI R h6 (λh8=>?_) λh8=>?_
  ·exact aU<|mM R<|xQ R<|mA R<|aZ<|Zi<|yB h8 R
  refine aS λa6 a7 l=>aU<|xQ R<|mA R<|aZ<|Ba h8 λp2 O a8=>?_
  have J2:∀(x2:Bool) (i2:NN),p2=x2→a6 ⟨[(0,rI p),(46,rB x2)],[],(i2 0),51⟩:=by
   intro x2 i2 e
   have h9:=a8 _ e
   refine a7 _<|cI R h9 (λm=>?_) λm=>?_
   ·exact aU<|mM R<|xQ R<|mA R<|aZ<|Zi<|yB m R
   exact Zc<|c2 _<|zB m R id
  refine aC R (λq=>?_) λq=>?_
  ·have w:=Cd q O
   exact Zc<|l _ _ wk<|J2 _ (AH [(T 0)]) (Zg w).symm
  ·have w:=CY q O
   exact aR<|xQ R<|mA R<|Zh<|l _ _ wk<|J2 _ (AH [(T 0)]) (Zg w).symm
 refine aC R (λA=>?_) λA=>?_
 ·have B:=Cd A J
  exact Zc<|j _ _ wk<|M _ (AH [I]) (Zg B).symm
 ·have B:=CY A J
  refine aU<|xQ R<|mA R<|aZ<|cI R B (λC=>?_) λC=>?_
  ·exact Zc<|j _ _ wk<|M _ (AH [I]) (Zg C).symm
  refine aU<|xQ R<|mA R<|aZ<|cI R C (λE=>?_) λE=>?_
  ·exact Zc<|j _ _ wk<|M _ (AH [I]) (Zg E).symm
  refine aU<|xQ R<|mA R<|aZ<|cI R E (λF=>?_) λF=>?_
  ·exact Zc<|j _ _ wk<|M _ (AH [I]) (Zg F).symm
  exact aR<|xQ R<|mA R<|Zh<|j _ _ wk<|M _ (AH [I]) (Zg F).symm
theorem Xu{d1 k a r}(h:Lv d1 k a=some r):AZ prog 27 [.agg [qb d1.Nodes],rI k,.r<|.sl<|a.map<|AY .i64] (rI r):=by
 unfold Lv at h
 refine mF func27 ntmps27 R λw=>aU<|sS R (Aw (cs:=[qb d1.Nodes]) 3 R iL R R)<|mA R<|aZ<|aS λK2 c2 A=>aU<|mM R<|xL BL R<|mM R<|aZ<|Zf<|BI h λo1 l B m=>?_
 have J1:∀(u2:Unit) (i5:NN),o1=.nrm u2→K2 ⟨[],[],(i5 0),32⟩:=by
  intro u2 i5 e
  have h1:=B _ e
  exact c2 _<|zI h1 R id
 refine Zv (λ(C:Int) q=>⟨[(1,rI k),(2,.r<|.sl<|a.map<|AY .i64),(3,.ptr 3 w 0 0),(10,rL a),(11,rI C)],[(3,some<|.box w 24 [qb d1.Nodes])],(q 0),32⟩) (AH [(w+1)]) l wk ?_
 intro C q v1 E j
 have h2:Lg d1 k a C=some v1:=E;unfold Lg at h2
 refine aU<|xS R<|aZ<|aT λc6=>cI R h2 (λF=>?_) λF=>?_
 ·refine Zc<|c6 _<|aT λc7=>Zf<|aU<|mM R<|mA R<|aZ<|aT λc9=>?_
  refine Zz BV (by kernel_rfl) ?_
  refine qP R (DU R B7 iL R R)<|qP R (AK R iL)<|qP R (AK R iL)<|AE F λx4 I h4=>qP R (A9 R BL.slice iL iL (λ_=>R) λ_=>I)<|qP R (Bc (d:=.int .i64 x4) R AI iL R)<|AE h4 λk1 J h5=>AQ.stepC R R R (r:=rI k1) (caps:=[]) (bs:=[.agg [qb d1.Nodes],rI x4]) R iL R ⟨⟨_,iL,.g (cs:=[.sl<|d1.Nodes.map AX.row]) R R⟩,⟨_,iL,.d R⟩,Za⟩ (λ_=>R7<|J) R<|qP R (EF R iL)<|AQ.nil<|c9 _<|aT λM=>aT λO=>aG [1,2,3,8,10,11] [3] ?_
  refine aR<|mM R<|xS R<|aZ<|O _<|cI R h5 (λT=>?_) λT=>?_
  ·exact zI (m _<|xH j T) R id
  refine Zc<|M _<|aU<|mM R<|lF B8 B6 R R<|mM R<|AE T λx5 U h7=>xI Bh R U<|sQ R (BH R CT iL)<|xV (.int .i64 x5.Kind) AI R<|AE h7 λr1 V h8=>cL (jo<|V) R<|sQ R (A4 R iL)<|aZ<|cI R h8 (λX=>?_) λX=>?_
  ·exact zI (m _<|xH j X) R id
  refine Zc<|c7 _<|aG [1,2,3,10,11] [3] ?_
  exact aR<|AE X λx6 Z a0=>xA R Z<|mM R<|Zh<|Zr a0 (AH [(q 0)]) wk
 exact Zm<|A _ _ wk<|J1 _ (AH [(q 0)])<|xH j F
theorem aK{d1 r}(h:MN d1=some r):AZ prog 8 [.agg [qb d1.Nodes]] (rI r):=by
 unfold MN at h
 refine mF func8 ntmps8 R λj=>aU<|sS R (Aw (cs:=[qb d1.Nodes]) 1 R iL R R)<|mA R<|aZ<|aT λc2=>aU<|lF B8 B6 R R<|xL Bh R<|xQ R<|aZ<|cI R h (λh1=>?_) λh1=>?_
 ·exact zI h1 R id
 refine Zc<|c2 _<|aS λK5 c5 a0=>aU<|lF B8 B6 R R<|xL Bh R<|mM R<|aZ<|Zf<|BI h1 λo1 C a1 E=>?_
 have J1:∀(u2:Unit) (i5:NN),o1=.nrm u2→K5 ⟨[(1,.ptr 1 j 0 0)],[(1,some<|.box j 24 [qb d1.Nodes])],(i5 0),81⟩:=by
  intro u2 i5 e
  have h2:=a1 _ e
  refine c5 _<|aS λK7 c7 a2=>aU<|lF B8 B6 R R<|xL Bh R<|mM R<|aZ<|Zf<|BI h2 λo2 F a6 a7=>?_
  have J2:∀(u4:Unit) (I:NN),o2=.nrm u4→K7 ⟨[],[],(I 0),81⟩:=by
   intro u4 I e
   have h3:=a6 _ e
   exact c7 _<|zI h3 R id
  refine Zv (λ(m:Int) i8=>⟨[(1,.ptr 1 j 0 0),(59,rL d1.Nodes),(60,rI m)],[(1,some<|.box j 24 [qb d1.Nodes])],(i8 0),81⟩) (AH [(i5 0)]) F wk ?_
  intro m i8 v1 a8 J
  have h4:KL d1 m=some v1:=a8;unfold KL at h4
  refine aU<|xS R<|aZ<|aT λaa=>cI R h4 (λh5=>?_) λh5=>?_
  ·refine Zc<|aa _<|aT λab=>Zf<|aU<|mM R<|mA R<|aZ<|aT λac=>AE h5 λl M h6=>AE h6 λr1 ad h7=>?_
   refine rP 13 [pO 63<|.agg [qb d1.Nodes],pO 64<|.ptr 1 j 0 0,pO 65<|qb d1.Nodes,pO 66<|rI m,pO 67<|.rop (AX.row l) 0,pO 68<|.rop (AX.row l) 1,pO 69<|rI l.Kind,pO 70<|.ptr 1 j 0 0,pO 71<|qb d1.Nodes,pO 72<|rI m,pO 73<|.rop (AX.row l) 0,pO 74<|.agg<|At l,pO 75<|.r<|.sl<|r1.map<|AY .i64] BV R (by exact⟨oB [(1,.ptr 1 j 0 0)] [(1,some<|.box j 24 [qb d1.Nodes])]<|DU R B7 (.inl R) R R,oB [(1,.ptr 1 j 0 0)] [(1,some<|.box j 24 [qb d1.Nodes])]<|fB R B8 (.inl R) (λ_=>R) R,oB [(64,.ptr 1 j 0 0)] [(1,some<|.box j 24 [qb d1.Nodes])]<|AU (a:=qb d1.Nodes) R B6 (.inl R) R R,oB [(5,rI m)] []<|AK R<|.inl R,oB [(65,qb d1.Nodes),(66,rI m)] []<|A9 R Bh.slice (.inl R) (.inl R) (λ_=>R) λ_=>M,oB [(67,.rop (AX.row l) 0)] []<|BH R CT<|.inl R,oB [(68,.rop (AX.row l) 1)] []<|Bc (d:=.int .i64 l.Kind) R AI (.inl R) R,oB [(1,.ptr 1 j 0 0)] [(1,some<|.box j 24 [qb d1.Nodes])]<|fB R B8 (.inl R) (λ_=>R) R,oB [(70,.ptr 1 j 0 0)] [(1,some<|.box j 24 [qb d1.Nodes])]<|AU (a:=qb d1.Nodes) R B6 (.inl R) R R,oB [(5,rI m)] []<|AK R<|.inl R,oB [(71,qb d1.Nodes),(72,rI m)] []<|A9 R Bh.slice (.inl R) (.inl R) (λ_=>R) λ_=>M,oB [(73,.rop (AX.row l) 0)] []<|Cf (cs:=(At l)) R DO (.inl R) R R,oD (λ_=>[(74,.agg<|At l)]) (λ_=>[]) λG1 e h' n=>Cb (r:=.r<|.sl<|r1.map<|AY .i64) (caps:=[]) (bs:=(Io l)) R (.inl R) R ⟨.inl ⟨(.inl R),R⟩,Za⟩ λ_=>fx<|ad,Za⟩) λG1 n1=>?_
   refine BU [1,5,59,60,61,62,63,64,65,66,67,68,69,70,71,72,73,74,75] [1] ?_
   refine AE h7 λe1 ae h8=>cL (Xu<|ae) R<|mA R<|aZ<|ac _<|aT λaf=>aG [1,6,59,60] [1] ?_
   refine aR<|mM R<|xU R<|aZ<|af _<|cI R h8 (λh9=>?_) λh9=>?_
   ·exact aU<|mM R<|mA R<|aZ<|Zi<|yI (a7 _<|xH J h9) R
   exact Zc<|ab _<|aR<|AE h9 λx8 ag ah=>xA R ag<|mM R<|Zh<|Zr ah (AH [n1]) wk
  exact Zm<|a2 _ _ wk<|J2 _ (AH [(i8 0)])<|xH J h5
 refine Zv (λ(x2:Int) i3=>⟨[(1,.ptr 1 j 0 0),(13,rL d1.Nodes),(14,rI x2)],[(1,some<|.box j 24 [qb d1.Nodes])],(i3 0),81⟩) (AH [(j+1)]) C wk ?_
 intro x2 i3 v2 ai q
 have O:LB d1 x2=some v2:=ai;unfold LB at O
 refine aU<|xS R<|aZ<|aT λaj=>cI R O (λw=>?_) λw=>?_
 ·refine Zc<|aj _<|aT λak=>Zf<|aU<|mM R<|mA R<|aZ<|aT λal=>aU<|lF B8 B6 R R<|mM R<|AE w λx9 T an=>xI Bh R T<|xB ((At x9)) DO R<|AE an λe2 ao aq=>cL (gF<|ao) R<|mA R<|aZ<|aU<|mM R<|xU R<|aZ<|cI R aq (λA=>?_) λA=>?_
  ·refine aT λar=>aF [4] ?_
   exact aR<|mM R<|mA R<|aZ<|ar _<|Zi<|yI (E _<|xH q A) R
  refine Zc<|al _<|aT λau=>aG [1,3,13,14] [1] ?_
  refine Zz BV (by kernel_rfl) ?_
  refine qP R (AK R iL)<|qP R (A8 R iL iL)<|qP R (AK R iL)<|qO R (fB R B8 iL fR R)<|qO R (AU (a:=qb d1.Nodes) R B6 (iR R) R R)<|AE A λav U aw=>qO R (A9 R Bh.slice (iR R) iL (λ_=>R)<|Af U)<|qO R (BH R Dp<|iR R)<|qO R (Bc (d:=.int .i64 av.ID) R AI (iR R) R)<|qO R (DK R (iR R) iL)<|qP R (BK R iL<|iR R)<|qP R (AK R iL)<|qO R (AK R iL)<|qO R (BY R (iR R) iL)<|qO R (AK R<|iR R)<|qT R (fB R B8 iL fR R)<|qT R (AU (a:=qb d1.Nodes) R B6 (iR R) R R)<|qT R (AK R iL)<|qT R (A9 R Bh.slice (iR R) (iR R) (λ_=>R) λ_=>T)<|qT R (BH R Dp<|iR R)<|qT R (Bc (d:=.int .i64 x9.ID) R AI (iR R) R)<|qT R (fB R B8 iL fR R)<|qT R (AU (a:=qb d1.Nodes) R B6 (iR R) R R)<|qT R (AK R iL)<|AE aw λb1 V ax=>qT R (CQ R (iR R) iL<|Af V)<|AE ax λay X az=>qT R (A9 R Bh.slice (iR R) (iR R) (λ_=>R)<|Af X)<|qT R (BH R Dp<|iR R)<|qT R (Bc (d:=.int .i64 ay.ID) R AI (iR R) R)<|qT R (Ey R (iR R)<|iR R)<|qO R (BK R (iR R)<|iR R)<|qP R (Ct R iL<|iR R)<|AQ.nil<|au _<|cI R az (λB=>?_) λB=>?_
  ·exact zI (E _<|xH q B) R id
  exact Zc<|ak _<|aR<|AE B λb2 Z b0=>xA R Z<|mM R<|Zh<|Zr b0 (AH [(i3 0)]) wk
 exact Zm<|a0 _ _ wk<|J1 _ (AH [(i3 0)])<|xH q w
theorem dX{m:Int}{M:Bool}{v1:Ab}{r:Bool × Bool}{j:Nat}{l:Nat}(h:FJ m M v1=some r):Ax prog 29 2 [.agg<|Bj v1,.ptr 1000 j 0 0,.ptr 1001 l 0 0] [(1000,some<|.box j 3 [rI m]),(1001,some<|.box l 4 [rB M])] (λE h'=>∃(i:Nat→Nat),E=rB r.1∧h'=[(1000,some<|.box j 3 [rI m]),(1001,some<|.box l 4 [rB r.2])]):=by
 unfold FJ at h
 refine DV func29 R R ntmps29 (Zq R) λC=>aU<|sS R (Aw (cs:=(Bj v1)) 3 R iL R R)<|mA R<|aZ<|aS λT U w=>aU<|lF DT AI R R<|sQ R (AU (a:=rI m) R AI iL R R)<|xQ R<|aZ<|Ba h λV A F=>?_
 have O:∀(B:Bool) (I:NN),V=B→T ⟨[(1,.ptr 1000 j 0 0),(3,.ptr 3 C 0 0)],[(3,some<|.box C 66<|Bj v1),(1000,some<|.box j 3 [rI m]),(1001,some<|.box l 4 [rB B])],(I 0),15⟩:=by
  intro B I e
  have X:=F _ e
  refine U _<|aU<|lF DT AI R R<|sQ R (AU (a:=rI m) R AI iL R R)<|xU R<|mA R<|aZ ?_
  exact Zi<|ZA (s':=⟨[(4,rB<|(!(v1.id=m)))],[(1000,some<|.box j 3 [rI m]),(1001,some<|.box l 4 [rB B])],(I 0),15⟩) wk<|Bf (λ(r:Bool × Bool) E h'=>∃(i:Nat→Nat),E=rB r.1∧h'=[(1000,some<|.box j 3 [rI m]),(1001,some<|.box l 4 [rB r.2])]) X<|by exact⟨rB<|(!(v1.id=m)),[(1000,some<|.box j 3 [rI m]),(1001,some<|.box l 4 [rB B])],R,⟨.inr R,.inr R,Za⟩,R,R,AH [],R,R⟩
 refine aC R (λq=>?_) λq=>?_
 ·have J:=Cd q A
  exact aR<|lF G9 Em R R<|Zj R R (Az (ds:=[rB v1.visible]) R Wv iL R iL R R R R)<|Zh<|w _ _ wk<|O _ (AH [(C+1)]) (Zg J).symm
 ·have J:=CY q A
  exact Zc<|w _ _ wk<|O _ (AH [(C+1)]) (Zg J).symm
theorem co{self:(List<|Int × Bool)→Int→Bool→AN→Ab→Option (Bool × (List<|Int × Bool) × Bool)}(T:∀ {m1:List (Int × Bool)} {E:Int} {c2:Bool} {F:AN} {v1:Ab} {r:Bool × (List<|Int × Bool) × Bool} {m:Nat} {B:Nat} {q:Nat} {w:Nat} {A:Nat} {l:Nat} {j:Nat},self m1 E c2 F v1=some r→Ax prog 40 7 [.agg<|Bj v1,.ptr 1000 m 0 0,.ptr 1002 q 0 0,.ptr 1005 l 0 0,.ptr 1006 j 0 0] [(1000,some<|.box m 68 [.mref 1001 B]),(1001,some<|.md B<|AJ RV.bool m1),(1002,some<|.box q 67 [.fn 29 [.ptr 1003 w 0 0,.ptr 1004 A 0 0]]),(1003,some<|.box w 3 [rI E]),(1004,some<|.box A 4 [rB c2]),(1005,some<|.box l 24 [qb F.Nodes]),(1006,some<|.box j 67 [.fn 40 [.ptr 1000 m 0 0,.ptr 1002 q 0 0,.ptr 1005 l 0 0,.ptr 1006 j 0 0]])] (λU h'=>∃(i:Nat→Nat),U=rB r.1∧h'=[(1000,some<|.box m 68 [.mref 1001 B]),(1001,some<|.md B<|AJ RV.bool r.2.1),(1002,some<|.box q 67 [.fn 29 [.ptr 1003 w 0 0,.ptr 1004 A 0 0]]),(1003,some<|.box w 3 [rI E]),(1004,some<|.box A 4 [rB r.2.2]),(1005,some<|.box l 24 [qb F.Nodes]),(1006,some<|.box j 67 [.fn 40 [.ptr 1000 m 0 0,.ptr 1002 q 0 0,.ptr 1005 l 0 0,.ptr 1006 j 0 0]])])){m1:List (Int × Bool)}{E:Int}{c2:Bool}{F:AN}{v1:Ab}{r:Bool × (List<|Int × Bool) × Bool}{m:Nat}{B:Nat}{q:Nat}{w:Nat}{A:Nat}{l:Nat}{j:Nat}(h:O5 self m1 E c2 F v1=some r):Ax prog 40 7 [.agg<|Bj v1,.ptr 1000 m 0 0,.ptr 1002 q 0 0,.ptr 1005 l 0 0,.ptr 1006 j 0 0] [(1000,some<|.box m 68 [.mref 1001 B]),(1001,some<|.md B<|AJ RV.bool m1),(1002,some<|.box q 67 [.fn 29 [.ptr 1003 w 0 0,.ptr 1004 A 0 0]]),(1003,some<|.box w 3 [rI E]),(1004,some<|.box A 4 [rB c2]),(1005,some<|.box l 24 [qb F.Nodes]),(1006,some<|.box j 67 [.fn 40 [.ptr 1000 m 0 0,.ptr 1002 q 0 0,.ptr 1005 l 0 0,.ptr 1006 j 0 0]])] (λU h'=>∃(i:Nat→Nat),U=rB r.1∧h'=[(1000,some<|.box m 68 [.mref 1001 B]),(1001,some<|.md B<|AJ RV.bool r.2.1),(1002,some<|.box q 67 [.fn 29 [.ptr 1003 w 0 0,.ptr 1004 A 0 0]]),(1003,some<|.box w 3 [rI E]),(1004,some<|.box A 4 [rB r.2.2]),(1005,some<|.box l 24 [qb F.Nodes]),(1006,some<|.box j 67 [.fn 40 [.ptr 1000 m 0 0,.ptr 1002 q 0 0,.ptr 1005 l 0 0,.ptr 1006 j 0 0]])]):=by
 unfold O5 at h
 refine DV func40 R R ntmps40 (Zq R) λO=>aU<|sS R (Aw (cs:=(Bj v1)) 5 R iL R R)<|mA R<|aZ<|aT λC2=>aU<|sQ R (AU (a:=.mref 1001 B) R G3 iL R R)<|lF DT AI R R<|sQ R (I0 (rd:=RV.bool) false (.bool false) false R underlying68 underlying3 (F2 KH) (λ_ _=>.bool _) (.inl R) (.inl R) R)<|aZ<|cI R h (λh1=>?_) λh1=>?_
 ·refine aT λC4=>aG [] [1000,1001,1002,1003,1004,1005,1006] ?_
  refine aR<|mA R<|oZ C4 ?_
  exact Zi<|ZA (s':=⟨[(6,rB true)],[(1000,some<|.box m 68 [.mref 1001 B]),(1001,some<|.md B<|AJ RV.bool m1),(1002,some<|.box q 67 [.fn 29 [.ptr 1003 w 0 0,.ptr 1004 A 0 0]]),(1003,some<|.box w 3 [rI E]),(1004,some<|.box A 4 [rB c2]),(1005,some<|.box l 24 [qb F.Nodes]),(1006,some<|.box j 67 [.fn 40 [.ptr 1000 m 0 0,.ptr 1002 q 0 0,.ptr 1005 l 0 0,.ptr 1006 j 0 0]])],(O+1),121⟩) wk<|Bf (λ(r:Bool × (List<|Int × Bool) × Bool) U h'=>∃(i:Nat→Nat),U=rB r.1∧h'=[(1000,some<|.box m 68 [.mref 1001 B]),(1001,some<|.md B<|AJ RV.bool r.2.1),(1002,some<|.box q 67 [.fn 29 [.ptr 1003 w 0 0,.ptr 1004 A 0 0]]),(1003,some<|.box w 3 [rI E]),(1004,some<|.box A 4 [rB r.2.2]),(1005,some<|.box l 24 [qb F.Nodes]),(1006,some<|.box j 67 [.fn 40 [.ptr 1000 m 0 0,.ptr 1002 q 0 0,.ptr 1005 l 0 0,.ptr 1006 j 0 0]])]) h1<|by exact⟨rB true,[(1000,some<|.box m 68 [.mref 1001 B]),(1001,some<|.md B<|AJ RV.bool m1),(1002,some<|.box q 67 [.fn 29 [.ptr 1003 w 0 0,.ptr 1004 A 0 0]]),(1003,some<|.box w 3 [rI E]),(1004,some<|.box A 4 [rB c2]),(1005,some<|.box l 24 [qb F.Nodes]),(1006,some<|.box j 67 [.fn 40 [.ptr 1000 m 0 0,.ptr 1002 q 0 0,.ptr 1005 l 0 0,.ptr 1006 j 0 0]])],R,⟨.inr R,.inr R,.inr R,.inr R,.inr R,.inr R,.inr R,Za⟩,R,R,AH [],R,R⟩
 refine Zc<|C2 _<|aU<|sQ R (AU (a:=.mref 1001 B) R G3 iL R R)<|lF DT AI R R<|Zj R R (Il (rd:=RV.bool) (a:=true) iL underlying68 underlying3 iL iL iL R)<|aZ<|aT λC6=>aT λC7=>aG [2,3,4,5] [5,1000,1001,1002,1003,1004,1005,1006] ?_
 refine aR<|sQ R (AU (a:=.fn 29 [.ptr 1003 w 0 0,.ptr 1004 A 0 0]) R E0 iL R R)<|xC SG R<|Ee h1 λr1 w2 ba h2=>?_
 refine Zw [1003,1004] (hc:=[(1000,some<|.box w 3 [rI E]),(1001,some<|.box A 4 [rB c2])]) (bs:=[.agg<|Bj v1]) (caps:=[.ptr 1000 w 0 0,.ptr 1001 A 0 0]) R R R R iL R ⟨.inl ⟨iL,R⟩,Za⟩ ⟨R,R,R,R,R,R,Za⟩ (by decide) (dX ba) ?_
 intro i1 V
 refine BU [2,3,4,5,24,25,26] [5,1000,1001,1002,1003,1004,1005,1006] ?_
 refine sQ R (A4 R iL)<|aZ<|C7 _<|cI R h2 (λh3=>?_) λh3=>?_
 ·refine aU<|mA R<|aZ ?_
  exact Zi<|ZA (s':=⟨[(6,rB false)],[(1000,some<|.box m 68 [.mref 1001 B]),(1001,some<|.md B<|AJ RV.bool<|Ai m1 v1.id true),(1002,some<|.box q 67 [.fn 29 [.ptr 1003 w 0 0,.ptr 1004 A 0 0]]),(1003,some<|.box w 3 [rI E]),(1004,some<|.box A 4 [rB w2]),(1005,some<|.box l 24 [qb F.Nodes]),(1006,some<|.box j 67 [.fn 40 [.ptr 1000 m 0 0,.ptr 1002 q 0 0,.ptr 1005 l 0 0,.ptr 1006 j 0 0]])],V,121⟩) wk<|Bf (λ(r:Bool × (List<|Int × Bool) × Bool) U h'=>∃(i:Nat→Nat),U=rB r.1∧h'=[(1000,some<|.box m 68 [.mref 1001 B]),(1001,some<|.md B<|AJ RV.bool r.2.1),(1002,some<|.box q 67 [.fn 29 [.ptr 1003 w 0 0,.ptr 1004 A 0 0]]),(1003,some<|.box w 3 [rI E]),(1004,some<|.box A 4 [rB r.2.2]),(1005,some<|.box l 24 [qb F.Nodes]),(1006,some<|.box j 67 [.fn 40 [.ptr 1000 m 0 0,.ptr 1002 q 0 0,.ptr 1005 l 0 0,.ptr 1006 j 0 0]])]) h3<|by exact⟨rB false,[(1000,some<|.box m 68 [.mref 1001 B]),(1001,some<|.md B<|AJ RV.bool<|Ai m1 v1.id true),(1002,some<|.box q 67 [.fn 29 [.ptr 1003 w 0 0,.ptr 1004 A 0 0]]),(1003,some<|.box w 3 [rI E]),(1004,some<|.box A 4 [rB w2]),(1005,some<|.box l 24 [qb F.Nodes]),(1006,some<|.box j 67 [.fn 40 [.ptr 1000 m 0 0,.ptr 1002 q 0 0,.ptr 1005 l 0 0,.ptr 1006 j 0 0]])],R,⟨.inr R,.inr R,.inr R,.inr R,.inr R,.inr R,.inr R,Za⟩,R,R,AH [],R,R⟩
 refine Zc<|C6 _<|aU<|xC B7 R<|lF DT AI R R<|Ee h3 λr2 r3 bb h4=>cL (OU<|bb) R<|mM R<|xX R<|xX R<|mA R<|mA R<|aZ<|aT λbc=>aG [3,4,5,7] [5,1000,1001,1002,1003,1004,1005,1006] ?_
 refine aR<|lF B8 B6 R R<|mM R<|AE h4 λJ bd h5=>xI Bh R bd<|xB ((At J)) DO R<|sS R (BB (cs:=FT) 9 R Hs R R)<|Zj R R (Az (ds:=(At J)) R Gw iL R iL R R R R)<|aZ<|bc _<|aS λbe bf ao=>aU<|lF EH EN R R<|AE h5 λr4 bg h6=>sS R (Cb (r:=.r<|.sl<|r4.map<|AY .i64) (caps:=[]) (bs:=[qe J.Flow]) R iL R ⟨.inl ⟨iL,R⟩,Za⟩ λ_=>So<|bg)<|xL BL R<|mM R<|aZ<|Zf<|HQ h6 λo5 aq bh bi=>?_
 have J1:∀(m5:List (Int × Bool)) (o4:Bool) (i6:NN),o5=.nrm (m5,o4)→be ⟨[(3,.ptr 1005 l 0 0),(4,.ptr 1006 j 0 0),(5,.ptr 5 O 0 0),(9,.ptr 9 V 0 0)],[(5,some<|.box O 66<|Bj v1),(9,some<|.box V 47<|At J),(1000,some<|.box m 68 [.mref 1001 B]),(1001,some<|.md B<|AJ RV.bool m5),(1002,some<|.box q 67 [.fn 29 [.ptr 1003 w 0 0,.ptr 1004 A 0 0]]),(1003,some<|.box w 3 [rI E]),(1004,some<|.box A 4 [rB o4]),(1005,some<|.box l 24 [qb F.Nodes]),(1006,some<|.box j 67 [.fn 40 [.ptr 1000 m 0 0,.ptr 1002 q 0 0,.ptr 1005 l 0 0,.ptr 1006 j 0 0]])],(i6 0),121⟩:=by
  intro m5 o4 i6 e
  have h7:=bh _ _ e
  refine bf _<|aS λbj bk ar=>aU<|sQ R (fB R DF iL fR R)<|lF DS Dc R R<|xL Bm R<|mM R<|aZ<|Zf<|HQ h7 λbl au bm bn=>?_
  have J2:∀(m9:List (Int × Bool)) (o9:Bool) (ab:NN),bl=.nrm (m9,o9)→bj ⟨[(3,.ptr 1005 l 0 0),(4,.ptr 1006 j 0 0),(5,.ptr 5 O 0 0),(9,.ptr 9 V 0 0)],[(5,some<|.box O 66<|Bj v1),(9,some<|.box V 47<|At J),(1000,some<|.box m 68 [.mref 1001 B]),(1001,some<|.md B<|AJ RV.bool m9),(1002,some<|.box q 67 [.fn 29 [.ptr 1003 w 0 0,.ptr 1004 A 0 0]]),(1003,some<|.box w 3 [rI E]),(1004,some<|.box A 4 [rB o9]),(1005,some<|.box l 24 [qb F.Nodes]),(1006,some<|.box j 67 [.fn 40 [.ptr 1000 m 0 0,.ptr 1002 q 0 0,.ptr 1005 l 0 0,.ptr 1006 j 0 0]])],(ab 0),121⟩:=by
   intro m9 o9 ab e
   have h8:=bm _ _ e
   refine bk _<|aS λbo bp av=>aU<|xC B7 R<|xC DO R<|AE h8 λr5 bq h9=>sS R (Cb (r:=.r<|.sl<|r5.map<|AY .i64) (caps:=[]) (bs:=[.agg [qb F.Nodes],.agg<|At J]) R iL R ⟨.inl ⟨iL,R⟩,.inl ⟨iL,R⟩,Za⟩ λ_=>SW<|bq)<|xL BL R<|mM R<|aZ<|Zf<|HQ h9 λbr aw bs bt=>?_
   have J3:∀(Z:List (Int × Bool)) (a0:Bool) (i16:NN),br=.nrm (Z,a0)→bo ⟨[],[(1000,some<|.box m 68 [.mref 1001 B]),(1001,some<|.md B<|AJ RV.bool Z),(1002,some<|.box q 67 [.fn 29 [.ptr 1003 w 0 0,.ptr 1004 A 0 0]]),(1003,some<|.box w 3 [rI E]),(1004,some<|.box A 4 [rB a0]),(1005,some<|.box l 24 [qb F.Nodes]),(1006,some<|.box j 67 [.fn 40 [.ptr 1000 m 0 0,.ptr 1002 q 0 0,.ptr 1005 l 0 0,.ptr 1006 j 0 0]])],(i16 0),121⟩:=by
    intro Z a0 i16 e
    have bu:=bs _ _ e
    refine bp _<|aU<|mA R<|aZ ?_
    exact Zi<|ZA (s':=⟨[(6,rB true)],[(1000,some<|.box m 68 [.mref 1001 B]),(1001,some<|.md B<|AJ RV.bool Z),(1002,some<|.box q 67 [.fn 29 [.ptr 1003 w 0 0,.ptr 1004 A 0 0]]),(1003,some<|.box w 3 [rI E]),(1004,some<|.box A 4 [rB a0]),(1005,some<|.box l 24 [qb F.Nodes]),(1006,some<|.box j 67 [.fn 40 [.ptr 1000 m 0 0,.ptr 1002 q 0 0,.ptr 1005 l 0 0,.ptr 1006 j 0 0]])],(i16 0),121⟩) wk<|Bf (λ(r:Bool × (List<|Int × Bool) × Bool) U h'=>∃(i:Nat→Nat),U=rB r.1∧h'=[(1000,some<|.box m 68 [.mref 1001 B]),(1001,some<|.md B<|AJ RV.bool r.2.1),(1002,some<|.box q 67 [.fn 29 [.ptr 1003 w 0 0,.ptr 1004 A 0 0]]),(1003,some<|.box w 3 [rI E]),(1004,some<|.box A 4 [rB r.2.2]),(1005,some<|.box l 24 [qb F.Nodes]),(1006,some<|.box j 67 [.fn 40 [.ptr 1000 m 0 0,.ptr 1002 q 0 0,.ptr 1005 l 0 0,.ptr 1006 j 0 0]])]) bu<|by exact⟨rB true,[(1000,some<|.box m 68 [.mref 1001 B]),(1001,some<|.md B<|AJ RV.bool Z),(1002,some<|.box q 67 [.fn 29 [.ptr 1003 w 0 0,.ptr 1004 A 0 0]]),(1003,some<|.box w 3 [rI E]),(1004,some<|.box A 4 [rB a0]),(1005,some<|.box l 24 [qb F.Nodes]),(1006,some<|.box j 67 [.fn 40 [.ptr 1000 m 0 0,.ptr 1002 q 0 0,.ptr 1005 l 0 0,.ptr 1006 j 0 0]])],R,⟨.inr R,.inr R,.inr R,.inr R,.inr R,.inr R,.inr R,Za⟩,R,R,AH [],R,R⟩
   refine FI (λ(x9:Int) (a6:List (Int × Bool)) (a7:Bool) ac=>⟨[(4,.ptr 1006 j 0 0),(5,.ptr 5 O 0 0),(105,.r<|.sl<|r5.map<|AY .i64),(106,rL r5),(107,rI x9)],[(5,some<|.box O 66<|Bj v1),(1000,some<|.box m 68 [.mref 1001 B]),(1001,some<|.md B<|AJ RV.bool a6),(1002,some<|.box q 67 [.fn 29 [.ptr 1003 w 0 0,.ptr 1004 A 0 0]]),(1003,some<|.box w 3 [rI E]),(1004,some<|.box A 4 [rB a7]),(1005,some<|.box l 24 [qb F.Nodes]),(1006,some<|.box j 67 [.fn 40 [.ptr 1000 m 0 0,.ptr 1002 q 0 0,.ptr 1005 l 0 0,.ptr 1006 j 0 0]])],(ac 0),121⟩) (AH [(ab 0)]) aw wk ?_
   intro x9 a6 a7 ac v2 bv ax
   have ay:R2 E F v1 self r5 x9 a6 a7=some v2:=bv;unfold R2 at ay
   refine aU<|xS R<|aZ<|aT λbw=>cI R ay (λad=>?_) λad=>?_
   ·refine Zc<|bw _<|aT λbx=>Zf<|aU<|AE ad λae az bz=>xI BL R az<|xV (.int .i64 ae) AI R<|mA R<|aZ<|aT λc0=>aR<|sQ R (AU (a:=.fn 40 [.ptr 1000 m 0 0,.ptr 1002 q 0 0,.ptr 1005 l 0 0,.ptr 1006 j 0 0]) R E0 iL R R)<|mM R<|lF DT AI R R<|lF G9 Em R R ?_
    refine sQ R (Bq R F0 (q:=[(0,_),(1,_),(2,_)]) (by exact⟨R,R,R,iL,R,R,R,iL,R,R,R,iL,Za⟩) (cs:=[rI ae,rI v1.id,rB v1.visible])<|by rfl) ?_
    refine E9 bz λr6 w3 w4 c3 c4=>?_
    refine Zw [1000,1001,1002,1003,1004,1005,1006] (hc:=[(1000,some<|.box m 68 [.mref 1001 B]),(1001,some<|.md B<|AJ RV.bool a6),(1002,some<|.box q 67 [.fn 29 [.ptr 1003 w 0 0,.ptr 1004 A 0 0]]),(1003,some<|.box w 3 [rI E]),(1004,some<|.box A 4 [rB a7]),(1005,some<|.box l 24 [qb F.Nodes]),(1006,some<|.box j 67 [.fn 40 [.ptr 1000 m 0 0,.ptr 1002 q 0 0,.ptr 1005 l 0 0,.ptr 1006 j 0 0]])]) (bs:=[.agg [rI ae,rI v1.id,rB v1.visible]]) (caps:=[.ptr 1000 m 0 0,.ptr 1002 q 0 0,.ptr 1005 l 0 0,.ptr 1006 j 0 0]) R R R R iL R ⟨.inl ⟨iL,R⟩,Za⟩ ⟨R,R,R,R,R,R,R,R,R,R,R,R,R,R,R,R,R,R,R,R,R,Za⟩ (by decide) (T c3) ?_
    intro cw n2
    refine BU [4,5,16,105,106,107,108,109,110,111,112,113,114,115,116,117,118] [5,1000,1001,1002,1003,1004,1005,1006] ?_
    refine sQ R (A4 R iL)<|aZ<|c0 _<|cI R c4 (λaf=>?_) λaf=>?_
    ·refine aT λc5=>aG [] [1000,1001,1002,1003,1004,1005,1006] ?_
     refine aR<|mA R<|oZ c5 ?_
     exact Zi<|ZA (s':=⟨[(6,rB false)],[(1000,some<|.box m 68 [.mref 1001 B]),(1001,some<|.md B<|AJ RV.bool w3),(1002,some<|.box q 67 [.fn 29 [.ptr 1003 w 0 0,.ptr 1004 A 0 0]]),(1003,some<|.box w 3 [rI E]),(1004,some<|.box A 4 [rB w4]),(1005,some<|.box l 24 [qb F.Nodes]),(1006,some<|.box j 67 [.fn 40 [.ptr 1000 m 0 0,.ptr 1002 q 0 0,.ptr 1005 l 0 0,.ptr 1006 j 0 0]])],n2,121⟩) wk<|Bf (λ(r:Bool × (List<|Int × Bool) × Bool) U h'=>∃(i:Nat→Nat),U=rB r.1∧h'=[(1000,some<|.box m 68 [.mref 1001 B]),(1001,some<|.md B<|AJ RV.bool r.2.1),(1002,some<|.box q 67 [.fn 29 [.ptr 1003 w 0 0,.ptr 1004 A 0 0]]),(1003,some<|.box w 3 [rI E]),(1004,some<|.box A 4 [rB r.2.2]),(1005,some<|.box l 24 [qb F.Nodes]),(1006,some<|.box j 67 [.fn 40 [.ptr 1000 m 0 0,.ptr 1002 q 0 0,.ptr 1005 l 0 0,.ptr 1006 j 0 0]])]) (bt _<|xH ax af)<|by exact⟨rB false,[(1000,some<|.box m 68 [.mref 1001 B]),(1001,some<|.md B<|AJ RV.bool w3),(1002,some<|.box q 67 [.fn 29 [.ptr 1003 w 0 0,.ptr 1004 A 0 0]]),(1003,some<|.box w 3 [rI E]),(1004,some<|.box A 4 [rB w4]),(1005,some<|.box l 24 [qb F.Nodes]),(1006,some<|.box j 67 [.fn 40 [.ptr 1000 m 0 0,.ptr 1002 q 0 0,.ptr 1005 l 0 0,.ptr 1006 j 0 0]])],R,⟨.inr R,.inr R,.inr R,.inr R,.inr R,.inr R,.inr R,Za⟩,R,R,AH [],R,R⟩
    refine Zc<|bx _<|aG [4,5,105,106,107] [5,1000,1001,1002,1003,1004,1005,1006] ?_
    exact aR<|AE af λcx b0 c6=>xA R b0<|mM R<|Zh<|D0.mk c6 (AH [n2]) wk
   exact Zm<|av _ _ wk<|J3 _ _ (AH [(ac 0)])<|xH ax ad
  refine FI (λ(x6:Int) (m7:List (Int × Bool)) (o7:Bool) X=>⟨[(3,.ptr 1005 l 0 0),(4,.ptr 1006 j 0 0),(5,.ptr 5 O 0 0),(9,.ptr 9 V 0 0),(60,qc J.Grid.Cells),(61,rL J.Grid.Cells),(62,rI x6)],[(5,some<|.box O 66<|Bj v1),(9,some<|.box V 47<|At J),(1000,some<|.box m 68 [.mref 1001 B]),(1001,some<|.md B<|AJ RV.bool m7),(1002,some<|.box q 67 [.fn 29 [.ptr 1003 w 0 0,.ptr 1004 A 0 0]]),(1003,some<|.box w 3 [rI E]),(1004,some<|.box A 4 [rB o7]),(1005,some<|.box l 24 [qb F.Nodes]),(1006,some<|.box j 67 [.fn 40 [.ptr 1000 m 0 0,.ptr 1002 q 0 0,.ptr 1005 l 0 0,.ptr 1006 j 0 0]])],(X 0),121⟩) (AH [(i6 0)]) au wk ?_
  intro x6 m7 o7 X v3 c7 b1
  have b2:R5 E F v1 self J x6 m7 o7=some v3:=c7;unfold R5 at b2
  refine aU<|xS R<|aZ<|aT λc8=>cI R b2 (λag=>?_) λag=>?_
  ·refine Zc<|c8 _<|aT λc9=>Zf<|aU<|AE ag λC b3 ca=>xI Bm R b3<|xB ((BN C)) Dy R<|sS R (BB (cs:=GD) 13 R GE R R)<|Zj R R (Az (ds:=(BN C)) R GO iL R iL R R R R)<|aZ<|aU<|sQ R (fB R DF iL fR R)<|sQ R (GL (ds:=(Bs J.Grid)) R Fm iL R R R)<|lF Dg AI R R<|lF Dt AI R R<|AE ca λI cb cc=>sS R (Cb (r:=.agg<|A3 I) (caps:=[]) (bs:=[.agg<|Bs J.Grid,rI C.Row,rI C.Col]) R iL R ⟨.inl ⟨iL,R⟩,.inl ⟨iL,R⟩,.inl ⟨iL,R⟩,Za⟩ λ_=>Sw<|cb)<|sS R (BB (cs:=Ek) 14 R GS R R)<|Zj R R (Az (ds:=(A3 I)) R Fc iL R iL R R R R)<|aZ<|aS λcd cf aa=>aG [3,4,5,9,13,14,60,61,62] [5,9,13,14,1000,1001,1002,1003,1004,1005,1006] ?_
   refine aR<|lF DG AI R R<|xU R<|mM R<|vQ R (AU (a:=.fn 40 [.ptr 1000 m 0 0,.ptr 1002 q 0 0,.ptr 1005 l 0 0,.ptr 1006 j 0 0]) R E0 iL R R)<|vF DG AI R R<|vF DT AI R R<|vF G9 Em R R<|vQ R (AK R<|iR R)<|wQ R (fB R CV iL fR R)<|wQ R (AU (a:=rI I.Row) R AI (iR R) R R)<|wQ R (fB R Dg iL fR R)<|wQ R (AU (a:=rI C.Row) R AI (iR R) R R)<|wQ R (A8 R (iR R)<|iR R)<|vQ R (BK R (iR R)<|iR R)<|vQ R (AK R<|iR R)<|wQ R (fB R Cv iL fR R)<|wQ R (AU (a:=rI I.Col) R AI (iR R) R R)<|wQ R (fB R Dt iL fR R)<|wQ R (AU (a:=rI C.Col) R AI (iR R) R R)<|wQ R (A8 R (iR R)<|iR R)<|vQ R (BK R (iR R)<|iR R) ?_
   refine vQ R (Bq R F0 (q:=[(0,_),(1,_),(2,_)]) (by exact⟨R,R,R,(iR R),R,R,R,(iR R),R,R,R,(iR R),Za⟩) (cs:=[rI C.Ref,rI v1.id,rB<|((v1.visible&&(I.Row=C.Row))&&(I.Col=C.Col))])<|by rfl) ?_
   refine R6 cc λp1 b4 cg=>?_
   have J4:∀(ah:Bool) (a1:List (Int × Bool)) (a2:Bool) (a8:NN),p1=(ah,a1,a2)→cd ⟨[(3,.ptr 1005 l 0 0),(4,.ptr 1006 j 0 0),(5,.ptr 5 O 0 0),(9,.ptr 9 V 0 0),(60,qc J.Grid.Cells),(61,rL J.Grid.Cells),(62,rI x6),(101,rB ah)],[(5,some<|.box O 66<|Bj v1),(9,some<|.box V 47<|At J),(1000,some<|.box m 68 [.mref 1001 B]),(1001,some<|.md B<|AJ RV.bool a1),(1002,some<|.box q 67 [.fn 29 [.ptr 1003 w 0 0,.ptr 1004 A 0 0]]),(1003,some<|.box w 3 [rI E]),(1004,some<|.box A 4 [rB a2]),(1005,some<|.box l 24 [qb F.Nodes]),(1006,some<|.box j 67 [.fn 40 [.ptr 1000 m 0 0,.ptr 1002 q 0 0,.ptr 1005 l 0 0,.ptr 1006 j 0 0]])],(a8 0),121⟩:=by
    intro ah a1 a2 a8 e
    have ch:=cg _ _ _ e
    refine cf _<|cI R ch (λai=>?_) λai=>?_
    ·refine aU<|mA R<|aZ ?_
     exact Zi<|ZA (s':=⟨[(6,rB false)],[(1000,some<|.box m 68 [.mref 1001 B]),(1001,some<|.md B<|AJ RV.bool a1),(1002,some<|.box q 67 [.fn 29 [.ptr 1003 w 0 0,.ptr 1004 A 0 0]]),(1003,some<|.box w 3 [rI E]),(1004,some<|.box A 4 [rB a2]),(1005,some<|.box l 24 [qb F.Nodes]),(1006,some<|.box j 67 [.fn 40 [.ptr 1000 m 0 0,.ptr 1002 q 0 0,.ptr 1005 l 0 0,.ptr 1006 j 0 0]])],(a8 0),121⟩) wk<|Bf (λ(r:Bool × (List<|Int × Bool) × Bool) U h'=>∃(i:Nat→Nat),U=rB r.1∧h'=[(1000,some<|.box m 68 [.mref 1001 B]),(1001,some<|.md B<|AJ RV.bool r.2.1),(1002,some<|.box q 67 [.fn 29 [.ptr 1003 w 0 0,.ptr 1004 A 0 0]]),(1003,some<|.box w 3 [rI E]),(1004,some<|.box A 4 [rB r.2.2]),(1005,some<|.box l 24 [qb F.Nodes]),(1006,some<|.box j 67 [.fn 40 [.ptr 1000 m 0 0,.ptr 1002 q 0 0,.ptr 1005 l 0 0,.ptr 1006 j 0 0]])]) (bn _<|xH b1 ai)<|by exact⟨rB false,[(1000,some<|.box m 68 [.mref 1001 B]),(1001,some<|.md B<|AJ RV.bool a1),(1002,some<|.box q 67 [.fn 29 [.ptr 1003 w 0 0,.ptr 1004 A 0 0]]),(1003,some<|.box w 3 [rI E]),(1004,some<|.box A 4 [rB a2]),(1005,some<|.box l 24 [qb F.Nodes]),(1006,some<|.box j 67 [.fn 40 [.ptr 1000 m 0 0,.ptr 1002 q 0 0,.ptr 1005 l 0 0,.ptr 1006 j 0 0]])],R,⟨.inr R,.inr R,.inr R,.inr R,.inr R,.inr R,.inr R,Za⟩,R,R,AH [],R,R⟩
    exact Zc<|c9 _<|aR<|AE ai λcy b5 cj=>xA R b5<|mM R<|Zh<|D0.mk cj (AH [(a8 0)]) wk
   refine AL.split ((!(C.Ref=0))==true) (λM=>?_) λM=>?_
   ·have aj:=Cd M b4
    refine AL.weak (by exact Lj (e':=[(3,.ptr 1005 l 0 0),(4,.ptr 1006 j 0 0),(5,.ptr 5 O 0 0),(9,.ptr 9 V 0 0),(13,.ptr 13 (X 0) 0 0),(14,.ptr 14 ((X 0)+1) 0 0),(60,qc J.Grid.Cells),(61,rL J.Grid.Cells),(62,rI x6),(73,.ptr 13 (X 0) 0 3),(74,rI C.Ref),(75,rB<|(!(C.Ref=0))),(76,rB<|(!(C.Ref=0))),(77,.fn 40 [.ptr 1000 m 0 0,.ptr 1002 q 0 0,.ptr 1005 l 0 0,.ptr 1006 j 0 0]),(78,.ptr 13 (X 0) 0 3),(79,rI C.Ref),(80,.ptr 5 O 0 0),(81,rI v1.id),(82,.ptr 5 O 0 2),(83,rB v1.visible),(84,rB v1.visible),(85,.whn (v1.visible==true)<|.ptr 14 ((X 0)+1) 0 0),(86,.whn (v1.visible==true)<|rI I.Row),(87,.whn (v1.visible==true)<|.ptr 13 (X 0) 0 0),(88,.whn (v1.visible==true)<|rI C.Row),(89,.whn (v1.visible==true)<|rB<|(decide<|I.Row=C.Row)),(90,rB<|(v1.visible&&(I.Row=C.Row))),(91,rB<|(v1.visible&&(I.Row=C.Row))),(92,.whn ((v1.visible&&(I.Row=C.Row))==true)<|.ptr 14 ((X 0)+1) 0 1),(93,.whn ((v1.visible&&(I.Row=C.Row))==true)<|rI I.Col),(94,.whn ((v1.visible&&(I.Row=C.Row))==true)<|.ptr 13 (X 0) 0 1),(95,.whn ((v1.visible&&(I.Row=C.Row))==true)<|rI C.Col),(96,.whn ((v1.visible&&(I.Row=C.Row))==true)<|rB<|(decide<|I.Col=C.Col)),(97,rB<|((v1.visible&&(I.Row=C.Row))&&(I.Col=C.Col))),(98,.agg [rI C.Ref,rI v1.id,rB<|((v1.visible&&(I.Row=C.Row))&&(I.Col=C.Col))])]) M ⟨.inl R,.inl R,.inl R,.inl R,.inl R,.inl R,.inl R,.inl R,.inl R,.inl R,.inl R,.inl R,.inl R,.inr iL,.inr iL,.inr iL,.inr iL,.inr iL,.inr iL,.inr iL,.inr iL,.inr<|.inr<|.inl ⟨_,_,R,R⟩,.inr<|.inr<|.inl ⟨_,_,R,R⟩,.inr<|.inr<|.inl ⟨_,_,R,R⟩,.inr<|.inr<|.inl ⟨_,_,R,R⟩,.inr<|.inr<|.inl ⟨_,_,R,R⟩,.inr iL,.inr iL,.inr<|.inr<|.inl ⟨_,_,R,R⟩,.inr<|.inr<|.inl ⟨_,_,R,R⟩,.inr<|.inr<|.inl ⟨_,_,R,R⟩,.inr<|.inr<|.inl ⟨_,_,R,R⟩,.inr<|.inr<|.inl ⟨_,_,R,R⟩,.inr iL,.inr iL,Za⟩) ?_
    refine E9 aj λr8 w5 w6 ck cl=>?_
    refine TJ (.one R R R) M [1000,1001,1002,1003,1004,1005,1006] (hc:=[(1000,some<|.box m 68 [.mref 1001 B]),(1001,some<|.md B<|AJ RV.bool m7),(1002,some<|.box q 67 [.fn 29 [.ptr 1003 w 0 0,.ptr 1004 A 0 0]]),(1003,some<|.box w 3 [rI E]),(1004,some<|.box A 4 [rB o7]),(1005,some<|.box l 24 [qb F.Nodes]),(1006,some<|.box j 67 [.fn 40 [.ptr 1000 m 0 0,.ptr 1002 q 0 0,.ptr 1005 l 0 0,.ptr 1006 j 0 0]])]) (bs:=[.agg [rI C.Ref,rI v1.id,rB<|((v1.visible&&(I.Row=C.Row))&&(I.Col=C.Col))]]) (caps:=[.ptr 1000 m 0 0,.ptr 1002 q 0 0,.ptr 1005 l 0 0,.ptr 1006 j 0 0]) R R R iL R ⟨.inl ⟨iL,R⟩,Za⟩ ⟨R,R,R,R,R,R,R,R,R,R,R,R,R,R,R,R,R,R,R,R,R,Za⟩ (by decide) (T ck) ?_
    intro cz n3
    refine BU [3,4,5,9,13,14,60,61,62,73,74,75,76,77,78,79,80,81,82,83,84,90,91,97,98,99] [5,9,13,14,1000,1001,1002,1003,1004,1005,1006] ?_
    exact F8 (.one R R R) M R R (CS (A4 R<|.inl R) _)<|sQ R (BK R iL iL)<|Zh<|aa _ _ wk<|J4 _ _ _ (AH [n3]) (Zg cl).symm
   ·have aj:=CY M b4
    exact Eh (.one R R R) M R R<|Eh (.one R R R) M R R<|xN R<|Zh<|aa _ _ wk<|J4 _ _ _ (AH [((X 0)+2)]) (Zg aj).symm
  exact Zm<|ar _ _ wk<|J2 _ _ (AH [(X 0)])<|xH b1 ag
 refine FI (λ(x3:Int) (m3:List (Int × Bool)) (o2:Bool) i4=>⟨[(3,.ptr 1005 l 0 0),(4,.ptr 1006 j 0 0),(5,.ptr 5 O 0 0),(9,.ptr 9 V 0 0),(42,.r<|.sl<|r4.map<|AY .i64),(43,rL r4),(44,rI x3)],[(5,some<|.box O 66<|Bj v1),(9,some<|.box V 47<|At J),(1000,some<|.box m 68 [.mref 1001 B]),(1001,some<|.md B<|AJ RV.bool m3),(1002,some<|.box q 67 [.fn 29 [.ptr 1003 w 0 0,.ptr 1004 A 0 0]]),(1003,some<|.box w 3 [rI E]),(1004,some<|.box A 4 [rB o2]),(1005,some<|.box l 24 [qb F.Nodes]),(1006,some<|.box j 67 [.fn 40 [.ptr 1000 m 0 0,.ptr 1002 q 0 0,.ptr 1005 l 0 0,.ptr 1006 j 0 0]])],(i4 0),121⟩) (AH [(V+1)]) aq wk ?_
 intro x3 m3 o2 i4 v4 cm b6
 have b7:Sp E F v1 self r4 x3 m3 o2=some v4:=cm;unfold Sp at b7
 refine aU<|xS R<|aZ<|aT λcn=>cI R b7 (λak=>?_) λak=>?_
 ·refine Zc<|cn _<|aT λcp=>Zf<|aU<|AE ak λal b8 cq=>xI BL R b8<|xV (.int .i64 al) AI R<|mA R<|aZ<|aT λcr=>aR<|sQ R (AU (a:=.fn 40 [.ptr 1000 m 0 0,.ptr 1002 q 0 0,.ptr 1005 l 0 0,.ptr 1006 j 0 0]) R E0 iL R R)<|mM R<|lF DT AI R R<|lF G9 Em R R ?_
  refine sQ R (Bq R F0 (q:=[(0,_),(1,_),(2,_)]) (by exact⟨R,R,R,iL,R,R,R,iL,R,R,R,iL,Za⟩) (cs:=[rI al,rI v1.id,rB v1.visible])<|by rfl) ?_
  refine E9 cq λr9 w7 w8 cs ct=>?_
  refine Zw [1000,1001,1002,1003,1004,1005,1006] (hc:=[(1000,some<|.box m 68 [.mref 1001 B]),(1001,some<|.md B<|AJ RV.bool m3),(1002,some<|.box q 67 [.fn 29 [.ptr 1003 w 0 0,.ptr 1004 A 0 0]]),(1003,some<|.box w 3 [rI E]),(1004,some<|.box A 4 [rB o2]),(1005,some<|.box l 24 [qb F.Nodes]),(1006,some<|.box j 67 [.fn 40 [.ptr 1000 m 0 0,.ptr 1002 q 0 0,.ptr 1005 l 0 0,.ptr 1006 j 0 0]])]) (bs:=[.agg [rI al,rI v1.id,rB v1.visible]]) (caps:=[.ptr 1000 m 0 0,.ptr 1002 q 0 0,.ptr 1005 l 0 0,.ptr 1006 j 0 0]) R R R R iL R ⟨.inl ⟨iL,R⟩,Za⟩ ⟨R,R,R,R,R,R,R,R,R,R,R,R,R,R,R,R,R,R,R,R,R,Za⟩ (by decide) (T cs) ?_
  intro d0 n4
  refine BU [3,4,5,9,11,42,43,44,45,46,47,48,49,50,51,52,53,54,55] [5,9,1000,1001,1002,1003,1004,1005,1006] ?_
  refine sQ R (A4 R iL)<|aZ<|cr _<|cI R ct (λan=>?_) λan=>?_
  ·refine aT λcu=>aG [] [1000,1001,1002,1003,1004,1005,1006] ?_
   refine aR<|mA R<|oZ cu ?_
   exact Zi<|ZA (s':=⟨[(6,rB false)],[(1000,some<|.box m 68 [.mref 1001 B]),(1001,some<|.md B<|AJ RV.bool w7),(1002,some<|.box q 67 [.fn 29 [.ptr 1003 w 0 0,.ptr 1004 A 0 0]]),(1003,some<|.box w 3 [rI E]),(1004,some<|.box A 4 [rB w8]),(1005,some<|.box l 24 [qb F.Nodes]),(1006,some<|.box j 67 [.fn 40 [.ptr 1000 m 0 0,.ptr 1002 q 0 0,.ptr 1005 l 0 0,.ptr 1006 j 0 0]])],n4,121⟩) wk<|Bf (λ(r:Bool × (List<|Int × Bool) × Bool) U h'=>∃(i:Nat→Nat),U=rB r.1∧h'=[(1000,some<|.box m 68 [.mref 1001 B]),(1001,some<|.md B<|AJ RV.bool r.2.1),(1002,some<|.box q 67 [.fn 29 [.ptr 1003 w 0 0,.ptr 1004 A 0 0]]),(1003,some<|.box w 3 [rI E]),(1004,some<|.box A 4 [rB r.2.2]),(1005,some<|.box l 24 [qb F.Nodes]),(1006,some<|.box j 67 [.fn 40 [.ptr 1000 m 0 0,.ptr 1002 q 0 0,.ptr 1005 l 0 0,.ptr 1006 j 0 0]])]) (bi _<|xH b6 an)<|by exact⟨rB false,[(1000,some<|.box m 68 [.mref 1001 B]),(1001,some<|.md B<|AJ RV.bool w7),(1002,some<|.box q 67 [.fn 29 [.ptr 1003 w 0 0,.ptr 1004 A 0 0]]),(1003,some<|.box w 3 [rI E]),(1004,some<|.box A 4 [rB w8]),(1005,some<|.box l 24 [qb F.Nodes]),(1006,some<|.box j 67 [.fn 40 [.ptr 1000 m 0 0,.ptr 1002 q 0 0,.ptr 1005 l 0 0,.ptr 1006 j 0 0]])],R,⟨.inr R,.inr R,.inr R,.inr R,.inr R,.inr R,.inr R,Za⟩,R,R,AH [],R,R⟩
  refine Zc<|cp _<|aG [3,4,5,9,42,43,44] [5,9,1000,1001,1002,1003,1004,1005,1006] ?_
  exact aR<|AE an λd1 b9 cv=>xA R b9<|mM R<|Zh<|D0.mk cv (AH [n4]) wk
 exact Zm<|ao _ _ wk<|J1 _ _ (AH [(i4 0)])<|xH b6 ak
theorem Zb(n:Nat):∀ {F:List (Int × Bool)} {C:Int} {I:Bool} {E:AN} {v1:Ab} {r:Bool × (List<|Int × Bool) × Bool} {j:Nat} {w:Nat} {l:Nat} {A:Nat} {B:Nat} {m:Nat} {q:Nat},Gt n F C I E v1=some r→Ax prog 40 7 [.agg<|Bj v1,.ptr 1000 j 0 0,.ptr 1002 l 0 0,.ptr 1005 m 0 0,.ptr 1006 q 0 0] [(1000,some<|.box j 68 [.mref 1001 w]),(1001,some<|.md w<|AJ RV.bool F),(1002,some<|.box l 67 [.fn 29 [.ptr 1003 A 0 0,.ptr 1004 B 0 0]]),(1003,some<|.box A 3 [rI C]),(1004,some<|.box B 4 [rB I]),(1005,some<|.box m 24 [qb E.Nodes]),(1006,some<|.box q 67 [.fn 40 [.ptr 1000 j 0 0,.ptr 1002 l 0 0,.ptr 1005 m 0 0,.ptr 1006 q 0 0]])] (λJ h'=>∃(i:Nat→Nat),J=rB r.1∧h'=[(1000,some<|.box j 68 [.mref 1001 w]),(1001,some<|.md w<|AJ RV.bool r.2.1),(1002,some<|.box l 67 [.fn 29 [.ptr 1003 A 0 0,.ptr 1004 B 0 0]]),(1003,some<|.box A 3 [rI C]),(1004,some<|.box B 4 [rB r.2.2]),(1005,some<|.box m 24 [qb E.Nodes]),(1006,some<|.box q 67 [.fn 40 [.ptr 1000 j 0 0,.ptr 1002 l 0 0,.ptr 1005 m 0 0,.ptr 1006 q 0 0]])]):=by
 induction n with
 | zero=>intro F C I E v1 r j w l A B m q h;exact absurd (show(none:Option (Bool × (List<|Int × Bool) × Bool))=some r from h)<|by simp
 | succ n M=>intro F C I E v1 r j w l A B m q h;exact co (self:=λF C I E v1=>Gt n F C I E v1) (λO=>M O) h
theorem lW{F:List (Int × Bool)}{C:Int}{I:Bool}{E:AN}{v1:Ab}{r:Bool × (List<|Int × Bool) × Bool}{j:Nat}{w:Nat}{l:Nat}{A:Nat}{B:Nat}{m:Nat}{q:Nat}(h:PP F C I E v1=some r):Ax prog 40 7 [.agg<|Bj v1,.ptr 1000 j 0 0,.ptr 1002 l 0 0,.ptr 1005 m 0 0,.ptr 1006 q 0 0] [(1000,some<|.box j 68 [.mref 1001 w]),(1001,some<|.md w<|AJ RV.bool F),(1002,some<|.box l 67 [.fn 29 [.ptr 1003 A 0 0,.ptr 1004 B 0 0]]),(1003,some<|.box A 3 [rI C]),(1004,some<|.box B 4 [rB I]),(1005,some<|.box m 24 [qb E.Nodes]),(1006,some<|.box q 67 [.fn 40 [.ptr 1000 j 0 0,.ptr 1002 l 0 0,.ptr 1005 m 0 0,.ptr 1006 q 0 0]])] (λM h'=>∃(i:Nat→Nat),M=rB r.1∧h'=[(1000,some<|.box j 68 [.mref 1001 w]),(1001,some<|.md w<|AJ RV.bool r.2.1),(1002,some<|.box l 67 [.fn 29 [.ptr 1003 A 0 0,.ptr 1004 B 0 0]]),(1003,some<|.box A 3 [rI C]),(1004,some<|.box B 4 [rB r.2.2]),(1005,some<|.box m 24 [qb E.Nodes]),(1006,some<|.box q 67 [.fn 40 [.ptr 1000 j 0 0,.ptr 1002 l 0 0,.ptr 1005 m 0 0,.ptr 1006 q 0 0]])]):=by
 unfold PP at h
 by_cases J:∃n r,Gt n F C I E v1=some r
 ·rw[qD J] at h;exact Zb _ h
 ·rw[qw J] at h;cases h
theorem Xg{q:Int}{w:Bool}{d1:AN}{r:Bool}{j:Nat}{l:Nat}(h:M1 q w d1=some r):Ax prog 23 2 [.agg [qb d1.Nodes],.fn 29 [.ptr 1000 j 0 0,.ptr 1001 l 0 0]] [(1000,some<|.box j 3 [rI q]),(1001,some<|.box l 4 [rB w])] (λA h'=>∃(i:Nat→Nat),A=.tup []∧h'=[(1000,some<|.box j 3 [rI q]),(1001,some<|.box l 4 [rB r])]):=by
 unfold M1 at h
 refine DV func23 R R ntmps23 (Zq R) λm=>aU<|sS R (Aw (cs:=[qb d1.Nodes]) 2 R iL R R)<|sS R (Aw (cs:=[.fn 29 [.ptr 1000 j 0 0,.ptr 1001 l 0 0]]) 3 R iL R R)<|aZ<|aU<|sS R (Jn RV.bool 6 R)<|sS R (BB (cs:=[.cst<|.map none]) 4 R MJ R R)<|Zj R R (Az (ds:=[.mref 6<|m+2]) R My iL R iL R R R R)<|aZ<|aU<|sS R (BB (cs:=[.cst<|.nilFunc]) 5 R Qu R R)<|aZ<|aT λE=>aR ?_
 refine sQ R (HD (bs:=[.ptr 4 (m+3) 0 0,.ptr 3 (m+1) 0 0,.ptr 2 m 0 0,.ptr 5 (m+4) 0 0]) R<|by exact⟨iL,iL,iL,iL,Za⟩) ?_
 refine Zj R R (Az (ds:=[.fn 40 [.ptr 4 (m+3) 0 0,.ptr 3 (m+1) 0 0,.ptr 2 m 0 0,.ptr 5 (m+4) 0 0]]) R SE iL R iL R R R R)<|aZ<|E _<|aR<|sQ R (AU (a:=.fn 40 [.ptr 4 (m+3) 0 0,.ptr 3 (m+1) 0 0,.ptr 2 m 0 0,.ptr 5 (m+4) 0 0]) R E0 iL R R) ?_
 refine sQ R (Bq R F0 (q:=[(0,_),(1,_),(2,_)]) (by exact⟨R,R,R,iL,R,R,R,iL,R,R,R,iL,Za⟩) (cs:=[rI 1,rI 0,rB true])<|by rfl) ?_
 refine E9 h λJ M C B F=>?_
 refine Zw [4,6,3,1000,1001,2,5] (hc:=[(1000,some<|.box (m+3) 68 [.mref 1001<|m+2]),(1001,some<|.md (m+2)<|AJ RV.bool ([]:List (Int × Bool))),(1002,some<|.box (m+1) 67 [.fn 29 [.ptr 1003 j 0 0,.ptr 1004 l 0 0]]),(1003,some<|.box j 3 [rI q]),(1004,some<|.box l 4 [rB w]),(1005,some<|.box m 24 [qb d1.Nodes]),(1006,some<|.box (m+4) 67 [.fn 40 [.ptr 1000 (m+3) 0 0,.ptr 1002 (m+1) 0 0,.ptr 1005 m 0 0,.ptr 1006 (m+4) 0 0]])]) (bs:=[.agg [rI 1,rI 0,rB true]]) (caps:=[.ptr 1000 (m+3) 0 0,.ptr 1002 (m+1) 0 0,.ptr 1005 m 0 0,.ptr 1006 (m+4) 0 0]) R R R R iL R ⟨.inl ⟨iL,R⟩,Za⟩ ⟨R,R,R,R,R,R,R,R,R,R,R,R,R,R,R,R,R,R,R,R,R,Za⟩ (by decide) (lW B) ?_
 intro O I
 refine BU [0,1,2,3,4,5,6,7,8,9,10] [2,3,4,5,6,1000,1001] ?_
 refine Zh ?_
 exact ZA (s':=⟨[],[(1000,some<|.box j 3 [rI q]),(1001,some<|.box l 4 [rB C])],I,11⟩) wk<|Bf (λ(r:Bool) A h'=>∃(i:Nat→Nat),A=.tup []∧h'=[(1000,some<|.box j 3 [rI q]),(1001,some<|.box l 4 [rB r])]) F<|by exact⟨.tup [],[(1000,some<|.box j 3 [rI q]),(1001,some<|.box l 4 [rB C])],⟨_,R,Za⟩,⟨.inr R,.inr R,Za⟩,R,R,AH [],R,R⟩
theorem RU{d1 i r}(h:G6 d1 i=some r):AZ prog 9 [.agg [qb d1.Nodes],rI i] (rB r):=by
 unfold G6 at h
 refine mF func9 ntmps9 R λj=>aU<|sS R (Aw (cs:=[qb d1.Nodes]) 2 R iL R R)<|sS R (Aw (cs:=[rI i]) 3 R iL R R)<|mA R<|aZ<|aU<|sS R (BB (cs:=[rB false]) 5 R KH R R)<|Zj R R (Az (ds:=[rB false]) R Wv iL R iL R R R R)<|aZ<|aT λw=>aU<|xC B7 R<|AE h λI l A=>cL (PQ<|l) R<|xU R<|aZ<|cI R A (λm=>?_) λm=>?_
 ·exact zB m R id
 refine Zc<|w _<|aT λB=>aR<|xC B7 R ?_
 refine sQ R (HD (bs:=[.ptr 3 (j+1) 0 0,.ptr 5 (j+2) 0 0]) R<|by exact⟨iL,iL,Za⟩) ?_
 refine AE m λC q E=>?_
 refine Zw [3,5] (hc:=[(1000,some<|.box (j+1) 3 [rI i]),(1001,some<|.box (j+2) 4 [rB false])]) (bs:=[.agg [qb d1.Nodes],.fn 29 [.ptr 1000 (j+1) 0 0,.ptr 1001 (j+2) 0 0]]) (caps:=[]) R R R R iL R ⟨.inl ⟨iL,R⟩,.inl ⟨iL,R⟩,Za⟩ ⟨R,R,R,R,R,R,Za⟩ (by decide) (Xg q) ?_
 intro J M
 refine BU [0,1,2,3,4,5,6,7,8,9,10,11] [2,3,5] ?_
 refine aZ<|B _<|aT λF=>aG [5] [5] ?_
 exact aR<|sQ R (AU (a:=rB C) R Em iL R R)<|mA R<|aZ<|F _<|Zi<|yB E R
theorem VW{j i r}(h:KO j i=some r):AZ prog 11 [qh j,rI i] (rI r):=by
 unfold KO at h
 refine mF func11 ntmps11 R λX=>aU<|mA R<|aZ<|aS λZ c2 w=>aU<|mM R<|xL H4 R<|mM R<|aZ<|Zf<|BI h λo1 l A B=>?_
 have J1:∀(T:Unit) (U:NN),o1=.nrm T→Z ⟨[],[],(U 0),20⟩:=by
  intro T U e
  have h1:=A _ e
  exact c2 _<|zI h1 R id
 refine Zv (λ(C:Int) q=>⟨[(0,qh j),(1,rI i),(7,rL j),(8,rI C)],[],(q 0),20⟩) (AH [X]) l wk ?_
 intro C q v1 E m
 have V:Kp j i C=some v1:=E;unfold Kp at V
 refine aU<|xS R<|aZ<|aT λc6=>cI R V (λF=>?_) λF=>?_
 ·refine Zc<|c6 _<|aT λc7=>Zf<|aU<|mM R<|mA R<|aZ<|aU<|mM R<|mM R<|AE F λx4 I h4=>xI H4 R I<|sQ R (BH R I3 iL)<|xV (.int .i64 x4.ID) AI R<|mM R<|xQ R<|aZ<|cI R h4 (λJ=>?_) λJ=>?_
  ·refine aT λM=>aF [5] ?_
   exact aR<|mM R<|mA R<|aZ<|M _<|Zi<|yI (B _<|xH m J) R
  refine Zc<|c7 _<|aF [0,1,7,8] ?_
  exact aR<|AE J λx5 O h6=>xA R O<|mM R<|Zh<|Zr h6 (AH [(q 0)]) wk
 exact Zm<|w _ _ wk<|J1 _ (AH [(q 0)])<|xH m F
theorem fw{q b c r}(h:ML q b c=some r):AZ prog 57 [.agg<|Bs q,rI b,rI c] (.agg<|A3 r):=by
 unfold ML at h
 refine mF func57 ntmps57 R λj=>aU<|sS R (Aw (cs:=(Bs q)) 3 R iL R R)<|sS R (BB (cs:=Ek) 6 R GS R R)<|aZ<|aS λK2 c2 C=>aU<|lF Dx EB R R<|xL CW R<|mM R<|aZ<|Zf<|BI h λo1 w E F=>?_
 have J1:∀(u2:Unit) (i5:NN),o1=.nrm u2→K2 ⟨[(1,rI b),(2,rI c),(6,.ptr 6 (j+1) 0 0)],[(6,some<|.box (j+1) 86 Ek)],(i5 0),47⟩:=by
  intro u2 i5 e
  have h1:=E _ e
  refine c2 _<|aT λc4=>aR<|mM R<|mM R ?_
  refine sQ R (Bq R Tn (q:=[(0,_),(1,_),(2,_),(3,_)]) (by exact⟨R,R,R,iL,R,R,R,iL,R,R,R,iL,R,R,R,iL,Za⟩) (cs:=[rI b,rI c,rI 1,rI 1])<|by rfl) ?_
  exact Zj R R (Az (ds:=[rI b,rI c,rI 1,rI 1]) R Fc iL R iL R R R R)<|aZ<|c4 _<|Zi<|CG (P:=prog) (λ(r:Ak)=>.agg<|A3 r) h1 iL<|.a C3 R R R<|.g (cs:=[.int .i64 b,.int .i64 c,.int .i64 1,.int .i64 1]) R R
 refine Zv (λ(I:Int) B=>⟨[(1,rI b),(2,rI c),(3,.ptr 3 j 0 0),(6,.ptr 6 (j+1) 0 0),(11,rL q.Merges),(12,rI I)],[(3,some<|.box j 44<|Bs q),(6,some<|.box (j+1) 86 Ek)],(B 0),47⟩) (AH [(j+2)]) w wk ?_
 intro I B v1 J A
 have h2:IM q b c I=some v1:=J;unfold IM at h2
 refine aU<|xS R<|aZ<|aT λc6=>cI R h2 (λM=>?_) λM=>?_
 ·refine Zc<|c6 _<|aT λc7=>Zf<|aU<|mM R<|mA R<|aZ<|aU<|lF Dx EB R R<|mM R<|AE M λl O h4=>xI CW R O<|xB ((A3 l)) C3 R<|sS R (BB (cs:=Ek) 8 R GS R R)<|Zj R R (Az (ds:=(A3 l)) R Fc iL R iL R R R R)<|aZ<|aT λT=>aR<|mM R<|lF CV AI R R<|lF CV AI R R<|lF Gg AI R R<|AE h4 λx5 U h5=>xA R U<|AE h5 λx6 V h6=>sQ R (CQ R iL iL λ_=>V)<|AE h6 λr1 X h7=>cL (DX<|X) R<|mM R<|vM R<|vF Cv AI R R<|vF Cv AI R R<|vF GB AI R R<|AE h7 λx7 Z h8=>vQ R (HO R (iR R) (iR R)<|Af Z)<|AE h8 λx8 a0 h9=>vQ R (CQ R (iR R) iL<|Af a0)<|AE h9 λr2 a1 a2=>vL (λhg=>DX<|Af a1 hg) R<|xN R<|aZ<|T _<|cI R a2 (λm=>?_) λm=>?_
  ·refine aT λa6=>aG [6,8] [6,8] ?_
   exact aR<|xC C3 R<|Zj R R (Az (ds:=(A3 l)) R Fc iL R iL R R R R)<|aZ<|a6 _<|Zi<|CG (P:=prog) (λ(r:Ak)=>.agg<|A3 r) (F _<|xH A m) iL<|.a C3 R R R<|.g (cs:=[.int .i64 l.Row,.int .i64 l.Col,.int .i64 l.H,.int .i64 l.W]) R R
  refine Zc<|c7 _<|aG [1,2,3,6,11,12] [3,6] ?_
  exact aR<|AE m λx9 a7 a8=>xA R a7<|mM R<|Zh<|Zr a8 (AH [((B 0)+1)]) wk
 exact Zm<|C _ _ wk<|J1 _ (AH [(B 0)])<|xH A M
theorem N4{j i r}(h:H3 j i=some r):AZ prog 96 [qg j,rI i] (rI r):=by
 unfold H3 at h
 refine mF func96 ntmps96 R λX=>aU<|mA R<|aZ<|aS λZ c2 w=>aU<|mM R<|xL BP R<|mM R<|aZ<|Zf<|BI h λo1 l A B=>?_
 have J1:∀(T:Unit) (U:NN),o1=.nrm T→Z ⟨[],[],(U 0),20⟩:=by
  intro T U e
  have h1:=A _ e
  exact c2 _<|zI h1 R id
 refine Zv (λ(C:Int) q=>⟨[(0,qg j),(1,rI i),(7,rL j),(8,rI C)],[],(q 0),20⟩) (AH [X]) l wk ?_
 intro C q v1 E m
 have V:Hw j i C=some v1:=E;unfold Hw at V
 refine aU<|xS R<|aZ<|aT λc6=>cI R V (λF=>?_) λF=>?_
 ·refine Zc<|c6 _<|aT λc7=>Zf<|aU<|mM R<|mA R<|aZ<|aU<|mM R<|mM R<|AE F λx4 I h4=>xI BP R I<|sQ R (BH R EV iL)<|xV (.int .i64 x4.Item) AI R<|mM R<|xQ R<|aZ<|cI R h4 (λJ=>?_) λJ=>?_
  ·refine aT λM=>aF [5] ?_
   exact aR<|mM R<|mA R<|aZ<|M _<|Zi<|yI (B _<|xH m J) R
  refine Zc<|c7 _<|aF [0,1,7,8] ?_
  exact aR<|AE J λx5 O h6=>xA R O<|mM R<|Zh<|Zr h6 (AH [(q 0)]) wk
 exact Zm<|w _ _ wk<|J1 _ (AH [(q 0)])<|xH m F
theorem WG{B w r}(h:Jf B w=some r):AZ prog 152 [qa B,.agg<|CA w] (qa r):=by
 unfold Jf at h
 refine mF func152 ntmps152 R λA=>aU<|sS R (Aw (cs:=(CA w)) 3 R iL R R)<|mA R<|aZ<|aU<|mA R<|aZ<|aU<|mA R<|aZ<|aS λK4 c4 ae=>aU<|mM R<|xL BA R<|mM R<|aZ<|Zf<|H8 h λo1 a8 af=>?_
 have J1:∀(j:Bool) (C:List AG) (T:NN),o1=(j,C)→K4 ⟨[(3,.ptr 3 A 0 0),(5,.own 5005<|T 0),(6,rB j)],[(3,some<|.box A 123<|CA w),(5005,some<|.arr (T 0) 123 2<|C.map AG.row)],(T 1),52⟩:=by
  intro j C T e
  have h1:=af _ _ e
  refine c4 _<|aS λK6 c6 aa=>aU<|mM R<|sQ R (A4 R iL)<|aZ<|Ba h1 λp1 ab ag=>?_
  have J2:∀(E:List AG) (i6:NN),p1=E→K6 ⟨[(5,.own 5005<|i6 0)],[(5005,some<|.arr (i6 0) 123 2<|E.map AG.row)],(i6 1),52⟩:=by
   intro E i6 e
   have h2:=ag _ e
   exact c6 _<|aU<|mM R<|mA R<|aZ<|Zi<|CG (P:=prog) (λ(r:(List AG))=>qa r) h2 iL<|.t<|.one<|.own R
  refine aC R (λX=>?_) λX=>?_
  ·have h3:=Cd X ab
   exact aR<|mM R<|xC EG R<|sS R (Bo 49 R BA (f:=AG.row) (l:=([w]:List AG)) ⟨R,⟨_,iL,R⟩,Za⟩ R (λ_=>R) R)<|AE h3 λb4 Z h4=>sS R (DB R BA iL R (.inr<|.inl ⟨_,_,iL,R⟩) Z)<|mA R<|Zh<|aa _ _ wk<|J2 _ (AH [((T 1)+1),((T 1)+2)]) (Zg h4).symm
  ·have h3:=CY X ab
   exact Zc<|aa _ _ wk<|J2 _ (AH [(T 0),(T 1)]) (Zg h3).symm
 refine FI (λ(l:Bool) (x2:Int) (F:List AG) M=>⟨[(0,qa B),(3,.ptr 3 A 0 0),(5,.own 5005<|M 0),(6,rB l),(9,rL B),(10,rI x2)],[(3,some<|.box A 123<|CA w),(5005,some<|.arr (M 0) 123 2<|F.map AG.row)],(M 1),52⟩) (AH [(A+1),(A+2)]) a8 (Zx (Zx (F9 5 5005 123 2 (by decide) R)<|by exact Ae.cv (e':=[(0,qa B),(1,.agg<|CA w),(3,.ptr 3 A 0 0),(4,cZ),(5,.own 5005<|A+1),(6,rB false),(8,qa B),(9,rL B),(10,rI 0)]) (h':=[(3,some<|.box A 123<|CA w),(5005,some<|.arr (A+1) 123 2<|([]:List AG).map AG.row)]) ⟨jL,jL,jL,jL,jL,jL,jL,jL,jL,Za⟩ ⟨.inl R,.inl R,Za⟩ nL) wk) ?_
 intro l x2 F M v1 ah ai
 have h5:N5 B w l x2 F=some v1:=ah;unfold N5 at h5
 refine aU<|xS R<|aZ<|aT λaj=>cI R h5 (λh6=>?_) λh6=>?_
 ·refine Zc<|aj _<|aS λak al U=>Zf<|H8 h6 λp2 an ao=>?_
  have J3:∀(m:Bool) (I:List AG) (i7:NN),p2=(m,I)→ak ⟨[(0,qa B),(3,.ptr 3 A 0 0),(5,.own 5005<|i7 0),(6,rB m),(9,rL B),(10,rI x2)],[(3,some<|.box A 123<|CA w),(5005,some<|.arr (i7 0) 123 2<|I.map AG.row)],(i7 1),52⟩:=by
   intro m I i7 e
   have h7:=ao _ _ e
   exact al _<|aR<|AE h7 λx4 aq h8=>xA R aq<|mM R<|Zh<|D0.mk h8 (AH [(i7 0),(i7 1)]) wk
  refine aU<|mM R<|mA R<|aZ<|aS λar au V=>aT λav=>?_
  refine Zz BV (by kernel_rfl) ?_
  refine qP R (AK R iL)<|qP R (A4 R iL)<|qP R (AK R iL)<|qO R (AK R iL)<|qO R (AK R iL)<|AE an λx5 aw h9=>qO R (A9 R BA.slice (iR R) (iR R) (λ_=>R)<|Af aw)<|qO R (BH R EX<|iR R)<|qO R (Bc (d:=.str x5.Name) R BE (iR R) R)<|qO R (fB R EX iL fR R)<|qO R (AU (a:=rS w.Name) R BE (iR R) R R)<|qO R (Tz R (iR R)<|iR R)<|qP R (BK R iL<|iR R)<|AQ.nil<|av _<|H8 h9 λp3 ac ax=>?_
  have J4:∀(q:Bool) (J:List AG) (i8:NN),p3=(q,J)→ar ⟨[(0,qa B),(3,.ptr 3 A 0 0),(5,.own 5005<|i8 0),(6,rB q),(7,rI x2),(9,rL B),(10,rI x2)],[(3,some<|.box A 123<|CA w),(5005,some<|.arr (i8 0) 123 2<|J.map AG.row)],(i8 1),52⟩:=by
   intro q J i8 e
   have ay:=ax _ _ e
   refine au _<|aT λaz=>?_
   refine Zz BV (by kernel_rfl) ?_
   refine qP R (AK R iL)<|qP R (AK R iL)<|AE ay λx6 ad b0=>qP R (A9 R BA.slice iL iL (λ_=>R) λ_=>ad)<|qP R (BH R EX iL)<|qP R (Bc (d:=.str x6.Name) R BE iL R)<|qP R (fB R EX iL fR R)<|qP R (AU (a:=rS w.Name) R BE iL R R)<|qP R (EA R iL iL)<|AQ.nil<|az _<|cI R b0 (λa0=>?_) λa0=>?_
   ·exact aR<|mM R<|mM R<|mM R<|xI BA R ad<|xB ((CA x6)) EG R<|sS R (Bo 42 R BA (f:=AG.row) (l:=([x6]:List AG)) ⟨R,⟨_,iL,R⟩,Za⟩ R (λ_=>R) R)<|AE a0 λb5 a2 b1=>sS R (DB R BA iL R (.inr<|.inl ⟨_,_,iL,R⟩) a2)<|mA R<|Zh<|U _ _ wk<|J3 _ _ (AH [((i8 1)+1),((i8 1)+2)]) (Zg b1).symm
   exact Zc<|U _ _ wk<|J3 _ _ (AH [(i8 0),(i8 1)]) (Zg a0).symm
  refine aC R (λa6=>?_) λa6=>?_
  ·have a7:=Cd a6 ac
   refine aU<|mM R<|xC EG R<|sS R (Bo 27 R BA (f:=AG.row) (l:=([w]:List AG)) ⟨R,⟨_,iL,R⟩,Za⟩ R (λ_=>R) R)<|AE a7 λb2 O b3=>sS R (DB R BA iL R (.inr<|.inl ⟨_,_,iL,R⟩) O)<|mA R<|aZ<|aG [0,3,5,7,9,10] [3,5005] ?_
   exact aR<|mA R<|Zh<|V _ _ wk<|J4 _ _ (AH [((M 1)+1),((M 1)+2)]) (Zg b3).symm
  ·have a7:=CY a6 ac
   exact Zc<|V _ _ wk<|J4 _ _ (AH [(M 0),(M 1)]) (Zg a7).symm
 exact Zm<|ae _ _ wk<|J1 _ _ (AH [(M 0),(M 1)])<|xH ai h6
theorem ko{l1 c r}(h:Ki l1 c=some r):AZ prog 127 [qa l1,qa c] (qa r):=by
 unfold Ki at h
 refine mF func127 ntmps127 R λn0=>aU<|mA R<|aZ<|aU<|mA R<|aZ<|aS λK3 c3 ah=>aU<|mM R<|xL BA R<|mM R<|aZ<|Zf<|Ba h λo1 a0 ai=>?_
 have J1:∀(E:List AG) (i5:NN),o1=E→K3 ⟨[(1,qa c),(5,qa E)],[],(i5 0),54⟩:=by
  intro E i5 e
  have h1:=ai _ e
  refine c3 _<|aS λK5 c5 aj=>aU<|mM R<|xL BA R<|mM R<|aZ<|Zf<|Ba h1 λo2 a1 ak=>?_
  have J2:∀(j:List AG) (C:NN),o2=j→K5 ⟨[(5,qa j)],[],(C 0),54⟩:=by
   intro j C e
   have h2:=ak _ e
   refine c5 _<|aU<|mA R<|aZ<|aS λK8 c8 al=>aU<|mM R<|xL BA R<|mM R<|aZ<|Zf<|Ba h2 λo3 a2 an=>?_
   have J3:∀(m:List AG) (F:NN),o3=m→K8 ⟨[(8,.own 5008<|F 0)],[(5008,some<|.arr (F 0) 123 2<|m.map AG.row)],(F 1),54⟩:=by
    intro m F e
    have h3:=an _ e
    exact c8 _<|aU<|mM R<|mA R<|aZ<|Zi<|CG (P:=prog) (λ(r:(List AG))=>qa r) h3 iL<|.t<|.one<|.own R
   refine Ch (λ(x8:Int) (q:List AG) l=>⟨[(5,qa j),(8,.own 5008<|l 0),(35,rL j),(36,rI x8)],[(5008,some<|.arr (l 0) 123 2<|q.map AG.row)],(l 1),54⟩) (AH [(C 0),((C 0)+1)]) a2 (Zx (Zx (F9 8 5008 123 2 (by decide) R)<|by exact Ae.cv (e':=[(5,qa j),(8,.own 5008<|C 0),(34,qa j),(35,rL j),(36,rI 0)]) (h':=[(5008,some<|.arr (C 0) 123 2<|([]:List AG).map AG.row)]) ⟨jL,jL,jL,jL,jL,Za⟩ ⟨.inl R,Za⟩ nL) wk) ?_
   intro x8 q l v1 ao aq
   have h4:OS j x8 q=some v1:=ao;unfold OS at h4
   refine aU<|xS R<|aZ<|aT λar=>cI R h4 (λh5=>?_) λh5=>?_
   ·refine Zc<|ar _<|aS λau av M=>Zf<|Ba h5 λp1 aw ax=>?_
    have J4:∀(w:List AG) (i16:NN),p1=w→au ⟨[(5,qa j),(8,.own 5008<|i16 0),(35,rL j),(36,rI x8)],[(5008,some<|.arr (i16 0) 123 2<|w.map AG.row)],(i16 1),54⟩:=by
     intro w i16 e
     have h6:=ax _ e
     exact av _<|aR<|AE h6 λbe a6 h7=>xA R a6<|mM R<|Zh<|ZG h7 (AH [(i16 0),(i16 1)]) wk
    refine aU<|mM R<|mA R<|aZ<|aU<|mM R<|mM R<|AE aw λT O h8=>xI BA R O<|sQ R (BH R Ii iL)<|xV (.str T.Value) BE R<|sQ R (EA R iL iL)<|aZ<|cI R h8 (λh9=>?_) λh9=>?_
    ·exact aR<|mM R<|mM R<|mM R<|xI BA R O<|xB ((CA T)) EG R<|sS R (Bo 50 R BA (f:=AG.row) (l:=([T]:List AG)) ⟨R,⟨_,iL,R⟩,Za⟩ R (λ_=>R) R)<|AE h9 λay I az=>sS R (DB R BA iL R (.inr<|.inl ⟨_,_,iL,R⟩) I)<|mA R<|Zh<|M _ _ wk<|J4 _ (AH [((l 1)+1),((l 1)+2)]) (Zg az).symm
    exact Zc<|M _ _ wk<|J4 _ (AH [(l 0),(l 1)]) (Zg h9).symm
   exact Zm<|al _ _ wk<|J3 _ (AH [(l 0),(l 1)])<|xH aq h5
  refine Ch (λ(A:List AG) (x5:Int) i8=>⟨[(1,qa c),(5,qa A),(23,rL c),(24,rI x5)],[],(i8 0),54⟩) (AH [(i5 0)]) a1 wk ?_
  intro A x5 i8 v2 b0 b1
  have a7:Mp c A x5=some v2:=b0;unfold Mp at a7
  refine aU<|xS R<|aZ<|aT λb2=>cI R a7 (λU=>?_) λU=>?_
  ·refine Zc<|b2 _<|aT λb3=>Zf<|aU<|mM R<|mA R<|aZ<|aR<|mM R<|mM R<|mM R<|AE U λa8 aa b4=>xI BA R aa<|xB ((CA a8)) EG R<|AE b4 λab V b5=>sS R (Cb (r:=qa ab) (caps:=[]) (bs:=[qa A,.agg<|CA a8]) R iL R ⟨.inl ⟨iL,R⟩,.inl ⟨iL,R⟩,Za⟩ λ_=>WG<|V)<|mA R<|aZ<|b3 _<|aF [1,5,23,24] ?_
   exact aR<|AE b5 λbf ac b6=>xA R ac<|mM R<|Zh<|ZG b6 (AH [(i8 0)]) wk
  exact Zm<|aj _ _ wk<|J2 _ (AH [(i8 0)])<|xH b1 U
 refine Ch (λ(B:List AG) (x2:Int) i3=>⟨[(0,qa l1),(1,qa c),(5,qa B),(11,rL l1),(12,rI x2)],[],(i3 0),54⟩) (AH [n0]) a0 ((by exact Ae.cv ⟨jL,jL,.inl<|.inr<|.inr ⟨R,R⟩,jL,jL,Za⟩ Za nL)) ?_
 intro B x2 i3 v3 b7 b8
 have ad:Nn l1 B x2=some v3:=b7;unfold Nn at ad
 refine aU<|xS R<|aZ<|aT λb9=>cI R ad (λX=>?_) λX=>?_
 ·refine Zc<|b9 _<|aT λba=>Zf<|aU<|mM R<|mA R<|aZ<|aR<|mM R<|mM R<|mM R<|AE X λae af bb=>xI BA R af<|xB ((CA ae)) EG R<|AE bb λZ J bc=>sS R (Cb (r:=qa Z) (caps:=[]) (bs:=[qa B,.agg<|CA ae]) R iL R ⟨.inl ⟨iL,R⟩,.inl ⟨iL,R⟩,Za⟩ λ_=>WG<|J)<|mA R<|aZ<|ba _<|aF [0,1,5,11,12] ?_
  exact aR<|AE bc λbg ag bd=>xA R ag<|mM R<|Zh<|ZG bd (AH [(i3 0)]) wk
 exact Zm<|ah _ _ wk<|J1 _ (AH [(i3 0)])<|xH b8 X
theorem jg{w i a r}(h:Kl w i a=some r):AZ prog 128 [qg w,rI i,rI a] (rB r):=by
 unfold Kl at h
 refine mF func128 ntmps128 R λn0=>aU<|mA R<|aZ<|aS λK2 c2 B=>aU<|mM R<|xL BP R<|AE h λZ C h1=>xA R C<|mM R<|aZ<|Zf<|BI h1 λo1 m E q=>?_
 have J1:∀(u2:Unit) (i5:NN),o1=.nrm u2→K2 ⟨[],[],(i5 0),27⟩:=by
  intro u2 i5 e
  have h2:=E _ e
  exact c2 _<|zB h2 R id
 refine Ch (λ(j:Int) (F:Int) A=>⟨[(0,qg w),(1,rI j),(2,rI a),(10,rI Z),(11,rI F)],[],(A 0),27⟩) (AH [n0]) m wk ?_
 intro j F A v1 I l
 have h3:Gk w a Z j F=some v1:=I;unfold Gk at h3
 refine aU<|xS R<|aZ<|aT λc6=>cI R h3 (λJ=>?_) λJ=>?_
 ·refine Zc<|c6 _<|aT λc7=>Zf<|aT λc8=>aU<|mM R<|mM R<|xQ R<|aZ<|cI R J (λM=>?_) λM=>?_
  ·exact zB (q _<|xH l M) R id
  refine Zc<|c8 _<|aU<|mM R<|mM R<|AE M λi6 O h6=>cL (N4<|O) R<|mA R<|aZ<|aT λT=>aU<|mM R<|xS R<|aZ<|cI R h6 (λU=>?_) λU=>?_
  ·exact zB (q _<|xH l U) R id
  refine Zc<|T _<|aF [0,2,7,10,11] ?_
  exact aR<|mM R<|mM R<|AE U λx5 V h8=>xI BP R V<|sQ R (BH R LW iL)<|xV (.int .i64 x5.Parent) AI R<|mA R<|aZ<|c7 _<|aR<|AE h8 λx6 X h9=>xA R X<|mM R<|Zh<|ZG h9 (AH [(A 0)]) wk
 exact Zm<|B _ _ wk<|J1 _ (AH [(A 0)])<|xH l J
theorem dS{I r}(h:LU I=some r):AZ prog 94 [qf I] (.tup [qg r.1,qg r.2]):=by
 unfold LU at h
 refine mF func94 ntmps94 R λn0=>aU<|mA R<|mA R<|aZ<|aU<|mA R<|mA R<|aZ<|aS λK3 c3 b0=>aU<|mM R<|xL Dq R<|mM R<|aZ<|Zf<|H8 h λo1 an b1=>?_
 have J1:∀(q:List AB) (l:List AB) (V:NN),o1=(q,l)→K3 ⟨[(4,.own 5004<|V 0),(5,.own 5005<|V 1)],[(5004,some<|.arr (V 0) 103 4<|q.map AB.row),(5005,some<|.arr (V 1) 103 4<|l.map AB.row)],(V 2),121⟩:=by
  intro q l V e
  have h1:=b1 _ _ e
  refine c3 _<|aS λK5 c5 b2=>aU<|mM R<|sQ R (Jv R BP.slice iL R)<|mM R<|aZ<|Zf<|Ba h1 λo2 ao b3=>?_
  have J2:∀(J:List AB) (a8:NN),o2=J→K5 ⟨[(4,.own 5004<|a8 0),(5,.own 5005<|V 1)],[(5004,some<|.arr (a8 0) 103 4<|J.map AB.row),(5005,some<|.arr (V 1) 103 4<|l.map AB.row)],(a8 1),121⟩:=by
   intro J a8 e
   have h2:=b3 _ e
   exact c5 _<|aU<|mM R<|mM R<|mA R<|mA R<|aZ<|Zi<|EP (P:=prog) (λ(r:(List AB) × (List AB))=>qg r.1) (λ(r:(List AB) × (List AB))=>qg r.2) h2 iL (.t<|.one<|.own R)<|.t<|.one<|.own R
  refine Ch (λ(x5:Int) (M:List AB) i8=>⟨[(4,.own 5004<|i8 0),(5,.own 5005<|V 1),(96,rL q),(97,rI x5)],[(5004,some<|.arr (i8 0) 103 4<|M.map AB.row),(5005,some<|.arr (V 1) 103 4<|l.map AB.row)],(i8 1),121⟩) (AH [(V 0),(V 2)]) ao wk ?_
  intro x5 M i8 v1 b4 b5
  have h3:Hi q l x5 M=some v1:=b4;unfold Hi at h3
  refine aU<|xS R<|aZ<|aT λc9=>cI R h3 (λh4=>?_) λh4=>?_
  ·refine Zc<|c9 _<|aS λb6 b7 ab=>Zf<|Ba h4 λp1 b8 b9=>?_
   have J3:∀(O:List AB) (Z:NN),p1=O→b6 ⟨[(4,.own 5004<|Z 0),(5,.own 5005<|V 1),(96,rL q),(97,rI x5)],[(5004,some<|.arr (Z 0) 103 4<|O.map AB.row),(5005,some<|.arr (V 1) 103 4<|l.map AB.row)],(Z 1),121⟩:=by
    intro O Z e
    have h5:=b9 _ e
    exact b7 _<|aR<|AE h5 λx7 ba h6=>xA R ba<|mM R<|Zh<|ZG h6 (AH [(Z 0),(Z 1)]) wk
   refine aU<|mM R<|mA R<|aZ<|aU<|mM R<|mM R<|mM R<|AE b8 λx8 aa h7=>sQ R (GT R BP.slice iL R iL λ_=>aa)<|sQ R (H5 (ob:=.arr _ _ _ _) R EV iL fR R)<|sQ R (Rx (d:=.int .i64 x8.Item) R AI iL fR (λ_=>aa) R)<|AE h7 λk1 bb h8=>cL (N4<|bb) R<|mA R<|aZ<|aT λbc=>aG [4,5,10,11,96,97] [5004,5005] ?_
   refine aR<|mM R<|sQ R (Cw R iL iL)<|aZ<|bc _<|cI R h8 (λh9=>?_) λh9=>?_
   ·exact aR<|mM R<|mM R<|mM R<|mM R<|AE h9 λx9 aq bd=>sQ R (GT R BP.slice iL R iL λ_=>aq)<|sQ R (H5 (ob:=.arr _ _ _ _) R JO iL fR R)<|sQ R (Rx (d:=.sl<|x9.Attrs.map AG.row) R Ca iL fR (λ_=>aq) R)<|sQ R (GT R BP.slice iL R iL λ_=>aa)<|sQ R (H5 (ob:=.arr _ _ _ _) R JO iL fR R)<|Zj R R (TC (v:=(AB.mk x8.Item x8.Parent x8.Place x9.Attrs)) R Jq iL R aa iL R R R R)<|Zh<|ab _ _ wk<|J3 _ (AH [(i8 0),(i8 1)]) (Zg bd).symm
   exact Zc<|ab _ _ wk<|J3 _ (AH [(i8 0),(i8 1)]) (Zg h9).symm
  exact Zm<|b2 _ _ wk<|J2 _ (AH [(i8 0),(i8 1)])<|xH b5 h4
 refine FI (λ(x2:Int) (w:List AB) (B:List AB) m=>⟨[(0,qf I),(4,.own 5004<|m 0),(5,.own 5005<|m 1),(13,rL I),(14,rI x2)],[(5004,some<|.arr (m 0) 103 4<|w.map AB.row),(5005,some<|.arr (m 1) 103 4<|B.map AB.row)],(m 2),121⟩) (AH [n0,(n0+1),(n0+2)]) an (Zx (Zx (F9 4 5004 103 4 (by decide) R)<|by exact Ae.cv (e':=[(0,qf I),(2,cZ),(3,cZ),(4,.own 5004 n0),(5,cZ),(12,qf I),(13,rL I),(14,rI 0)]) (h':=[(5004,some<|.arr n0 103 4<|([]:List AB).map AB.row)]) ⟨jL,jL,jL,jL,jL,jL,jL,jL,Za⟩ ⟨.inl R,Za⟩ nL)<|Zx (Zx (F9 5 5005 103 4 (by decide) R)<|by exact Ae.cv (e':=[(0,qf I),(2,cZ),(3,cZ),(4,.own 5004 n0),(5,.own 5005<|n0+1),(12,qf I),(13,rL I),(14,rI 0)]) (h':=[(5004,some<|.arr n0 103 4<|([]:List AB).map AB.row),(5005,some<|.arr (n0+1) 103 4<|([]:List AB).map AB.row)]) ⟨jL,jL,jL,jL,jL,jL,jL,jL,Za⟩ ⟨.inl R,.inl R,Za⟩ nL) wk) ?_
 intro x2 w B m v2 be bf
 have ar:Hk I x2 w B=some v2:=be;unfold Hk at ar
 refine aU<|xS R<|aZ<|aT λbg=>cI R ar (λaf=>?_) λaf=>?_
 ·refine Zc<|bg _<|aS λbh bi a6=>Zf<|H8 af λp2 bj bk=>?_
  have J4:∀(E:List AB) (T:List AB) (U:NN),p2=(E,T)→bh ⟨[(0,qf I),(4,.own 5004<|U 0),(5,.own 5005<|U 1),(13,rL I),(14,rI x2)],[(5004,some<|.arr (U 0) 103 4<|E.map AB.row),(5005,some<|.arr (U 1) 103 4<|T.map AB.row)],(U 2),121⟩:=by
   intro E T U e
   have bl:=bk _ _ e
   exact bi _<|aR<|AE bl λck au bm=>xA R au<|mM R<|Zh<|D0.mk bm (AH [(U 0),(U 1),(U 2)]) wk
  refine aU<|mM R<|mA R<|aZ<|aU<|mM R<|mM R<|AE bj λj av bn=>xI Dq R av<|xB ((BX j)) GI R<|sS R (BB (cs:=PE) 7 R Pg R R)<|Zj R R (Az (ds:=(BX j)) R QJ iL R iL R R R R)<|aZ<|aT λbo=>aU<|lF FO AI R R<|xQ R<|aZ<|cI R bn (λag=>?_) λag=>?_
  ·refine aT λbp=>aG [0,4,5,7,13,14] [7,5004,5005] ?_
   refine aR<|mM R<|lF FF AI R R<|AE ag λk2 bq br=>cL (N4<|bq) R<|mA R<|aZ<|bp _<|aS λbs bt ac=>aU<|mM R<|xS R<|aZ<|H8 br λp3 aw bu=>?_
   have J5:∀(k3:Int) (C:List AB) (A:NN),p3=(k3,C)→bs ⟨[(0,qf I),(4,.own 5004<|m 0),(5,.own 5005<|A 0),(7,.ptr 7 (m 2) 0 0),(8,rI k3),(13,rL I),(14,rI x2)],[(7,some<|.box (m 2) 129<|BX j),(5004,some<|.arr (m 0) 103 4<|w.map AB.row),(5005,some<|.arr (A 0) 103 4<|C.map AB.row)],(A 1),121⟩:=by
    intro k3 C A e
    have bv:=bu _ _ e
    refine bt _<|aT λbw=>?_
    refine TG [0,1] [2,3,4,5,6,7,8,9,10,11] [12] 13 BV (by kernel_rfl) R R R R R ?_
    refine Fa.move R R R R<|Fa.move R R R R<|Fa.nil<|AF.step R R R (AK R iL)<|AF.step R R R (AK R iL)<|AE bv λa0 X bx=>AF.step R R R (GT R BP.slice iL R iL λ_=>X)<|AF.step R R R (H5 (ob:=.arr _ _ _ _) R JO iL fR R)<|AF.step R R R (Rx (d:=.sl<|a0.Attrs.map AG.row) R Ca iL fR (λ_=>X) R)<|AF.step R R R (fB R LQ iL fR R)<|AF.step R R R (AU (a:=rS j.Name) R BE iL R R)<|AF.step R R R (fB R If iL fR R)<|AF.step R R R (AU (a:=rS j.Value) R BE iL R R) ?_
    refine AF.step R R R (Bq R QV (q:=[(0,_),(1,_)]) (by exact⟨R,R,R,iL,R,R,R,iL,Za⟩) (cs:=[rS j.Name,rS j.Value])<|by rfl) ?_
    refine AF.nil<|AA.step R R R (dA 50 R BA (f:=AG.row) (l:=([(AG.mk j.Name j.Value)]:List AG)) ⟨R,⟨_,iL,R⟩,Za⟩ R (λ_=>R) R)<|AA.nil ?_
    refine AL.weak (by exact Ae.frz (e':=[(0,qf I),(4,.own 5004<|m 0),(5,.own 5005<|A 0),(7,.ptr 7 (m 2) 0 0),(8,rI k3),(13,rL I),(14,rI x2),(38,.own 5005<|A 0),(39,rI k3),(40,.own 5005<|A 0),(41,rI k3),(42,.ptr 5005 (A 0) k3.toNat 0),(43,.ptr 5005 (A 0) k3.toNat 3),(44,qa a0.Attrs),(45,.ptr 7 (m 2) 0 6),(46,rS j.Name),(47,.ptr 7 (m 2) 0 7),(48,rS j.Value),(49,.agg [rS j.Name,rS j.Value]),(50,.r<|.sl<|[(AG.mk j.Name j.Value)].map AG.row)]) (h':=[(7,some<|.box (m 2) 129<|BX j),(5004,some<|.arr (m 0) 103 4<|w.map AB.row),(5005,some<|.arr (A 0) 103 4<|C.map AB.row)]) 50 R ⟨jL,jL,jL,jL,jL,jL,jL,jL,jL,jL,jL,jL,jL,jL,jL,jL,jL,jL,jL,.inl<|.inr<|.inr ⟨R,R⟩,Za⟩ ⟨R,.inl R,R,.inl R,R,.inl R,Za⟩) ?_
    exact AE bx λr1 bz c0=>sS R (Cb (r:=qa r1) (caps:=[]) (bs:=[qa a0.Attrs,.r<|.sl<|[(AG.mk j.Name j.Value)].map AG.row]) R iL R ⟨.inl ⟨iL,R⟩,.inl ⟨iL,R⟩,Za⟩ λ_=>ko<|bz)<|sQ R (GT R BP.slice iL R iL λ_=>X)<|sQ R (H5 (ob:=.arr _ _ _ _) R JO iL fR R)<|Zj R R (TC (v:=(AB.mk a0.Item a0.Parent a0.Place r1)) R Jq iL R X iL R R R R)<|aZ<|bw _<|Zm<|a6 _ _ wk<|J4 _ _ (AH [(m 0),(A 0),((A 1)+1)]) (Zg c0).symm
   refine aC R (λah=>?_) λah=>?_
   ·have ai:=Cd ah aw
    refine aU<|mM R<|sQ R (Jv R BP.slice iL R)<|mA R<|aZ<|aR<|mM R<|lF FF AI R R ?_
    refine sQ R (Bq R Og (q:=[(0,_)]) (by exact⟨R,R,R,iL,Za⟩) (cs:=[rI j.Item,rI 0,.r<|.str [],cZ])<|by rfl) ?_
    exact sS R (Bo 36 R BP (f:=AB.row) (l:=([(AB.mk j.Item 0 [] [])]:List AB)) ⟨R,⟨_,iL,R⟩,Za⟩ R (λ_=>R) R)<|AE ai λaz a7 c1=>sS R (DB R BP iL R (.inr<|.inl ⟨_,_,iL,R⟩) a7)<|mA R<|Zh<|ac _ _ wk<|J5 _ _ (AH [((m 2)+2),((m 2)+3)]) (Zg c1).symm
   ·have ai:=CY ah aw
    exact Zc<|ac _ _ wk<|J5 _ _ (AH [(m 1),((m 2)+1)]) (Zg ai).symm
  refine Zc<|bo _<|aT λc2=>aT λc4=>aG [0,4,5,7,13,14] [7,5004,5005] ?_
  refine aR<|lF GZ AI R R<|lF FF AI R R<|xQ R<|mM R<|vF GZ AI R R<|vQ R (BY R (iR R) iL)<|vQ R (AK R<|iR R)<|wQ R (AK R iL)<|wQ R (fB R GZ iL fR R)<|wQ R (AU (a:=rI j.Parent) R AI (iR R) R R)<|wQ R (fB R FF iL fR R)<|wQ R (AU (a:=rI j.Item) R AI (iR R) R R)<|AE ag λr2 c6 c7=>AL.stepW (.two R R R) R R (DJ (r:=rB r2) (caps:=[]) (bs:=[qg w,rI j.Parent,rI j.Item]) R iL R ⟨⟨_,(iR R),.one<|.own R⟩,⟨_,(iR R),.d R⟩,⟨_,(iR R),.d R⟩,Za⟩ (λhg=>jg<|Af c6 hg) R)<|vQ R (BK R (iR R)<|iR R)<|xO R<|aZ<|c4 _<|cI R c7 (λaj=>?_) λaj=>?_
  ·exact Zm<|a6 _ _ wk<|J4 _ _ (AH [(m 0),(m 1),((m 2)+1)]) (Zg aj).symm
  refine Zc<|c2 _<|aU<|mM R<|lF FF AI R R<|AE aj λk4 c8 ca=>cL (N4<|c8) R<|mA R<|aZ<|aS λcb cc ad=>aT λcd=>aG [0,4,5,7,9,13,14] [7,5004,5005] ?_
  refine aR<|mM R<|xS R<|aZ<|cd _<|H8 ca λp4 ax cf=>?_
  have J6:∀(k5:Int) (F:List AB) (a1:NN),p4=(k5,F)→cb ⟨[(0,qf I),(4,.own 5004<|a1 0),(5,.own 5005<|m 1),(7,.ptr 7 (m 2) 0 0),(9,rI k5),(13,rL I),(14,rI x2)],[(7,some<|.box (m 2) 129<|BX j),(5004,some<|.arr (a1 0) 103 4<|F.map AB.row),(5005,some<|.arr (m 1) 103 4<|B.map AB.row)],(a1 1),121⟩:=by
   intro k5 F a1 e
   have cg:=cf _ _ e
   refine cc _<|aR<|mM R<|mM R<|lF FF AI R R<|lF GZ AI R R<|lF LH BE R R ?_
   refine sQ R (Bq R Og (q:=[(0,_),(1,_),(2,_)]) (by exact⟨R,R,R,iL,R,R,R,iL,R,R,R,iL,Za⟩) (cs:=[rI j.Item,rI j.Parent,rS j.Place,cZ])<|by rfl) ?_
   exact AE cg λcl ae ch=>sQ R (GT R BP.slice iL R iL λ_=>ae)<|Zj R R (SS (v:=(AB.mk j.Item j.Parent j.Place [])) R KP iL R ae iL R R R R)<|Zh<|a6 _ _ wk<|J4 _ _ (AH [(a1 0),(m 1),(a1 1)]) (Zg ch).symm
  refine aC R (λak=>?_) λak=>?_
  ·have al:=Cd ak ax
   refine aU<|mM R<|sQ R (Jv R BP.slice iL R)<|mA R<|aZ<|aR<|mM R ?_
   refine sQ R (Bq R Og (q:=[]) (by exact Za) (cs:=Kc)<|by rfl) ?_
   exact sS R (Bo 82 R BP (f:=AB.row) (l:=([(AB.mk 0 0 [] [])]:List AB)) ⟨R,⟨_,iL,R⟩,Za⟩ R (λ_=>R) R)<|AE al λay a2 cj=>sS R (DB R BP iL R (.inr<|.inl ⟨_,_,iL,R⟩) a2)<|mA R<|Zh<|ad _ _ wk<|J6 _ _ (AH [((m 2)+2),((m 2)+3)]) (Zg cj).symm
  ·have al:=CY ak ax
   exact Zc<|ad _ _ wk<|J6 _ _ (AH [(m 0),((m 2)+1)]) (Zg al).symm
 exact Zm<|b0 _ _ wk<|J1 _ _ (AH [(m 0),(m 1),(m 2)])<|xH bf af
theorem ZK{self:(List AB)→(List AB)→Int→Option (List AB)}(M:∀ {A:List AB} {I:List AB} {j:Int} {r:(List AB)} {l:Nat},self A I j=some r→Ax prog 95 1 [qg I,rI j,.own 1000 l] [(1000,some<|.arr l 103 4<|A.map AB.row)] (λrr h'=>∃(i:Nat→Nat),rr=.own 1000 (i 0)∧h'=[(1000,some<|.arr (i 0) 103 4<|r.map AB.row)])){A:List AB}{I:List AB}{j:Int}{r:(List AB)}{l:Nat}(h:IP self A I j=some r):Ax prog 95 1 [qg I,rI j,.own 1000 l] [(1000,some<|.arr l 103 4<|A.map AB.row)] (λrr h'=>∃(i:Nat→Nat),rr=.own 1000 (i 0)∧h'=[(1000,some<|.arr (i 0) 103 4<|r.map AB.row)]):=by
 unfold IP at h
 refine DV func95 R R ntmps95 (Zq R) λn0=>aU<|mA R<|aZ<|aU<|mA R<|mA R<|aZ<|Zf<|BI h λo1 a0 az a6=>FI (λ(m:List UInt8) (q:Int) (w:List AB) B=>⟨[(0,qg I),(1,rI j),(2,.own 1000<|B 0),(7,rS m),(8,rI q)],[(1000,some<|.arr (B 0) 103 4<|w.map AB.row)],(B 1),100⟩) (AH [l,n0]) a0 wk ?_
 intro m q w B v1 a7 a8
 have h1:Fl I j self m q w=some v1:=a7;unfold Fl at h1
 refine Zf<|aU<|mA R<|aZ<|aS λK4 c4 aa=>aU<|mM R<|xL BP R<|mM R<|aZ<|Zf<|Ba h1 λo2 a1 ab=>?_
 have J2:∀(C:Int) (i9:NN),o2=C→K4 ⟨[(0,qg I),(1,rI j),(2,.own 1000<|B 0),(9,rI C)],[(1000,some<|.arr (B 0) 103 4<|w.map AB.row)],(i9 0),100⟩:=by
  intro C i9 e
  have h2:=ab _ e
  refine c4 _<|aT λc6=>aU<|mM R<|xS R<|aZ<|cI R h2 (λh3=>?_) λh3=>?_
  ·refine aU<|mM R<|mA R<|aZ ?_
   exact Zi<|ZA (s':=⟨[(6,.own 1000<|B 0)],[(1000,some<|.arr (B 0) 103 4<|w.map AB.row)],(i9 0),100⟩) wk<|Bf (λ(r:(List AB)) rr h'=>∃(i:Nat→Nat),rr=.own 1000 (i 0)∧h'=[(1000,some<|.arr (i 0) 103 4<|r.map AB.row)]) (a6 _<|xH a8 h3)<|by exact⟨.own 1000<|B 0,[(1000,some<|.arr (B 0) 103 4<|w.map AB.row)],R,⟨.inr R,Za⟩,R,R,AH [(B 0)],R,R⟩
  refine Zc<|c6 _<|aT λc9=>?_
  refine Zz BV (by kernel_rfl) ?_
  refine qP R (AK R iL)<|qP R (AK R iL)<|AE h3 λx4 O h4=>qP R (A9 R BP.slice iL iL (λ_=>R) λ_=>O)<|qP R (BH R Hj iL)<|qP R (Bc (d:=.str x4.Place) R BE iL R)<|qP R (AK R iL)<|qP R (AK R iL)<|qP R (A9 R BP.slice iL iL (λ_=>R) λ_=>O)<|qP R (BH R EV iL)<|qP R (Bc (d:=.int .i64 x4.Item) R AI iL R)<|qP R (EF R iL)<|qP R (EF R iL)<|AQ.nil<|c9 _<|aG [0,1,2,7,8,9] [1000] ?_
  refine aR<|mM R<|mM R<|mM R<|mM R<|mM R<|xI BP R O<|xB ((CB x4)) GP R<|sS R (Bo 97 R BP (f:=AB.row) (l:=([x4]:List AB)) ⟨R,⟨_,iL,R⟩,Za⟩ R (λ_=>R) R)<|AE h4 λl2 ac h5=>sS R (DB R BP iL R (.inr<|.inl ⟨_,_,iL,R⟩) ac)<|AE h5 λw1 ad h6=>?_
  refine Zw [1000] (hc:=[(1000,some<|.arr ((i9 0)+1) 103 4<|l2.map AB.row)]) (bs:=[qg I,rI x4.Item,.own 1000<|(i9 0)+1]) (caps:=[]) R R R R iL R ⟨.inl ⟨iL,R⟩,.inl ⟨iL,R⟩,.inl ⟨iL,R⟩,Za⟩ ⟨R,R,R,Za⟩ (by decide) (M ad) ?_
  intro ae n1
  refine BU [0,1,7,8,9,90,91,93,94,95,96,97,99] [97,1000] ?_
  exact mA R<|Zh<|D0.mk h6 (AH [(ae 0),n1]) wk
 refine Ch (λ(E:Int) (x2:Int) X=>⟨[(0,qg I),(1,rI j),(2,.own 1000<|B 0),(7,rS m),(8,rI q),(9,rI E),(13,rL I),(14,rI x2)],[(1000,some<|.arr (B 0) 103 4<|w.map AB.row)],(X 0),100⟩) (AH [(B 1)]) a1 wk ?_
 intro E x2 X v2 af ag
 have h7:H0 I j m q E x2=some v2:=af;unfold H0 at h7
 refine aU<|xS R<|aZ<|aT λah=>cI R h7 (λh8=>?_) λh8=>?_
 ·refine Zc<|ah _<|aS λai aj J=>Zf<|Ba h8 λp1 ak al=>?_
  have J3:∀(F:Int) (T:NN),p1=F→ai ⟨[(0,qg I),(1,rI j),(2,.own 1000<|B 0),(7,rS m),(8,rI q),(9,rI F),(13,rL I),(14,rI x2)],[(1000,some<|.arr (B 0) 103 4<|w.map AB.row)],(T 0),100⟩:=by
   intro F T e
   have h9:=al _ e
   exact aj _<|aR<|AE h9 λx5 an ao=>xA R an<|mM R<|Zh<|ZG ao (AH [(T 0)]) wk
  refine aU<|mM R<|mA R<|aZ<|aU<|mM R<|mM R<|AE ak λZ aq ar=>xI BP R aq<|xB ((CB Z)) GP R<|sS R (BB (cs:=Kc) 11 R L9 R R)<|Zj R R (Az (ds:=(CB Z)) R KP iL R iL R R R R)<|aZ<|aT λau=>aU<|lF LW AI R R<|mM R<|xU R<|mM R<|vF Hj BE R R<|vM R<|vQ R (Nh R (iR R)<|iR R)<|xO R<|mM R<|vF Hj BE R R<|vM R<|vQ R (E5 R (iR R)<|iR R)<|vQ R (AK R<|iR R)<|wQ R (fB R EV iL fR R)<|wQ R (AU (a:=rI Z.Item) R AI (iR R) R R)<|wQ R (AK R iL)<|wQ R (Ey R (iR R)<|iR R)<|vQ R (BK R (iR R)<|iR R)<|xO R<|aZ<|cI R ar (λU=>?_) λU=>?_
  ·exact Zm<|J _ _ wk<|J3 _ (AH [((X 0)+1)]) (Zg U).symm
  refine Zc<|au _<|aT λav=>aG [0,1,2,7,8,9,10,11,13,14] [11,1000] ?_
  refine Zz BV (by kernel_rfl) ?_
  refine qP R (AK R iL)<|qP R (Bz R iL iL)<|qP R (AK R iL)<|qO R (fB R Hj iL fR R)<|qO R (AU (a:=rS Z.Place) R BE (iR R) R R)<|qO R (AK R iL)<|qO R (AK R iL)<|AE U λx7 aw ax=>qO R (A9 R BP.slice (iR R) (iR R) (λ_=>R)<|Af aw)<|qO R (BH R Hj<|iR R)<|qO R (Bc (d:=.str x7.Place) R BE (iR R) R)<|qO R (Nh R (iR R)<|iR R)<|qP R (Ct R iL<|iR R)<|qP R (AK R iL)<|qO R (fB R Hj iL fR R)<|qO R (AU (a:=rS Z.Place) R BE (iR R) R R)<|qO R (AK R iL)<|qO R (AK R iL)<|AE ax λx8 a2 ay=>qO R (A9 R BP.slice (iR R) (iR R) (λ_=>R)<|Af a2)<|qO R (BH R Hj<|iR R)<|qO R (Bc (d:=.str x8.Place) R BE (iR R) R)<|qO R (E5 R (iR R)<|iR R)<|qO R (AK R<|iR R)<|qT R (fB R EV iL fR R)<|qT R (AU (a:=rI Z.Item) R AI (iR R) R R)<|qT R (AK R iL)<|qT R (AK R iL)<|qT R (A9 R BP.slice (iR R) (iR R) (λ_=>R) λh=>Af a2 (pp.1 h).1)<|qT R (BH R EV<|iR R)<|qT R (Bc (d:=.int .i64 x8.Item) R AI (iR R) R)<|qT R (Bz R (iR R)<|iR R)<|qO R (BK R (iR R)<|iR R)<|qP R (Ct R iL<|iR R)<|AQ.nil<|av _<|cI R ay (λV=>?_) λV=>?_
  ·exact aR<|mM R<|mA R<|Zh<|J _ _ wk<|J3 _ (AH [((X 0)+1)]) (Zg V).symm
  exact Zc<|J _ _ wk<|J3 _ (AH [((X 0)+1)]) (Zg V).symm
 exact Zm<|aa _ _ wk<|J2 _ (AH [(X 0)])<|xH ag h8
theorem Yz(n:Nat):∀ {m:List AB} {q:List AB} {j:Int} {r:(List AB)} {l:Nat},DW n m q j=some r→Ax prog 95 1 [qg q,rI j,.own 1000 l] [(1000,some<|.arr l 103 4<|m.map AB.row)] (λw h'=>∃(i:Nat→Nat),w=.own 1000 (i 0)∧h'=[(1000,some<|.arr (i 0) 103 4<|r.map AB.row)]):=by
 induction n with
 | zero=>intro m q j r l h;exact absurd (show(none:Option ((List AB)))=some r from h)<|by simp
 | succ n A=>intro m q j r l h;exact ZK (self:=λm q j=>DW n m q j) (λB=>A B) h
theorem fZ{m:List AB}{q:List AB}{j:Int}{r:(List AB)}{l:Nat}(h:Lt m q j=some r):Ax prog 95 1 [qg q,rI j,.own 1000 l] [(1000,some<|.arr l 103 4<|m.map AB.row)] (λA h'=>∃(i:Nat→Nat),A=.own 1000 (i 0)∧h'=[(1000,some<|.arr (i 0) 103 4<|r.map AB.row)]):=by
 unfold Lt at h
 by_cases w:∃n r,DW n m q j=some r
 ·rw[qD w] at h;exact Yz _ h
 ·rw[qw w] at h;cases h
theorem em{l1 r}(h:Jy l1=some r):AZ prog 58 [qf l1] (.tup [qg r.1,rI r.2]):=by
 unfold Jy at h
 refine mF func58 ntmps58 R λn0=>aU<|mA R<|mA R<|aZ<|aU<|mM R<|Ee h λB r2 a0 h1=>sS R (Cb (r:=.tup [qg B,qg r2]) (caps:=[]) (bs:=[qf l1]) R iL R ⟨.inl ⟨iL,R⟩,Za⟩ λ_=>dS<|a0)<|mM R<|xX R<|xX R<|mA R<|mA R<|aZ<|aT λc3=>aF [4] ?_
 refine aR<|mM R<|AE h1 λF a1 h2=>?_
 refine XH 7918 103 4 R [7918] (hc:=[(1000,some<|.arr n0 103 4<|([]:List AB).map AB.row)]) (bs:=[qg B,rI 0,.own 1000 n0]) (caps:=[]) R R R R iL R ⟨.inl<|.inl ⟨iL,R⟩,.inl<|.inl ⟨iL,R⟩,.inr ⟨iL,R,R⟩,Za⟩ ⟨R,R,R,Za⟩ (by decide) (fZ a1) ?_
 intro i1 n1
 refine BU [4,17,18] [7918] ?_
 refine mA R<|aZ<|c3 _<|aU<|mM R<|sQ R (Jv R BP.slice iL R)<|mA R<|aZ<|aU<|mA R<|aZ<|Zf<|BI h2 λo1 O ay a2=>Ch (λ(j:Int) (l:List AB) A=>⟨[(4,qg B),(6,.own 7918<|A 0),(7,rL F),(8,rI j)],[(7918,some<|.arr (A 0) 103 4<|l.map AB.row)],(A 1),73⟩) (AH [(i1 0),n1]) O wk ?_
 intro j l A v1 a6 a7
 have h3:IB B F j l=some v1:=a6;unfold IB at h3
 refine Zf<|aU<|mA R<|aZ<|aS λK7 c7 a8=>aU<|mM R<|xL BP R<|mM R<|aZ<|Zf<|Ba h3 λo2 T aa=>?_
 have J2:∀(m:Int) (C:NN),o2=m→K7 ⟨[(4,qg B),(6,.own 7918<|A 0),(7,rL F),(9,rI m)],[(7918,some<|.arr (A 0) 103 4<|l.map AB.row)],(C 0),73⟩:=by
  intro m C e
  have h4:=aa _ e
  refine c7 _<|aT λc9=>aU<|mM R<|xS R<|aZ<|cI R h4 (λh5=>?_) λh5=>?_
  ·exact aU<|mM R<|mM R<|mA R<|mA R<|aZ<|Zi<|EP (P:=prog) (λ(r:(List AB) × Int)=>qg r.1) (λ(r:(List AB) × Int)=>rI r.2) (a2 _<|xH a7 h5) iL (.t<|.one<|.own R)<|.t<|.d R
  exact Zc<|c9 _<|aU<|mM R<|mM R<|AE h5 λx4 U h6=>xI BP R U<|sQ R (BH R EV iL)<|xV (.int .i64 x4.Item) AI R<|mA R<|aZ<|aR<|mM R<|mM R<|mM R<|xI BP R U<|xB ((CB x4)) GP R<|sS R (Bo 71 R BP (f:=AB.row) (l:=([x4]:List AB)) ⟨R,⟨_,iL,R⟩,Za⟩ R (λ_=>R) R)<|AE h6 λax I h7=>sS R (DB R BP iL R (.inr<|.inl ⟨_,_,iL,R⟩) I)<|mA R<|Zh<|ZG h7 (AH [((C 0)+1),((C 0)+2)]) wk
 refine Ch (λ(q:Int) (Z:Int) i8=>⟨[(4,qg B),(6,.own 7918<|A 0),(7,rL F),(8,rI j),(9,rI q),(22,rL B),(23,rI Z)],[(7918,some<|.arr (A 0) 103 4<|l.map AB.row)],(i8 0),73⟩) (AH [(A 1)]) T wk ?_
 intro q Z i8 v2 ab ac
 have h8:Ij B F j l q Z=some v2:=ab;unfold Ij at h8
 refine aU<|xS R<|aZ<|aT λad=>cI R h8 (λh9=>?_) λh9=>?_
 ·refine Zc<|ad _<|aS λae af E=>Zf<|Ba h9 λp1 ag ah=>?_
  have J3:∀(w:Int) (J:NN),p1=w→ae ⟨[(4,qg B),(6,.own 7918<|A 0),(7,rL F),(8,rI j),(9,rI w),(22,rL B),(23,rI Z)],[(7918,some<|.arr (A 0) 103 4<|l.map AB.row)],(J 0),73⟩:=by
   intro w J e
   have ai:=ah _ e
   exact af _<|aR<|AE ai λx5 aj ak=>xA R aj<|mM R<|Zh<|ZG ak (AH [(J 0)]) wk
  refine aU<|mM R<|mA R<|aZ<|aU<|mM R<|mM R<|AE ag λx6 al an=>xI BP R al<|sQ R (BH R EV iL)<|xV (.int .i64 x6.Item) AI R<|mA R<|aZ<|aT λao=>aR<|mM R<|mM R<|sQ R (BY R iL iL)<|mM R<|vM R<|vM R<|AE an λl2 V aq=>vQ R (jn R BP.slice (iR R) R ⟨_,(iR R)⟩<|Af V)<|vM R<|AE aq λr3 ar au=>AL.stepW (.one R R R) R R (DJ (r:=rI r3) (caps:=[]) (bs:=[.r<|.sl<|(l.take (F.length:Int).toNat).map AB.row,rI x6.Item]) R iL R ⟨⟨_,(iR R),.one<|.pre R R⟩,⟨_,(iR R),.d R⟩,Za⟩ (λX=>(Yy<|(Af V) X) ▸ (λhg=>N4<|Af ar hg) X) R)<|vQ R (Bz R (iR R) iL)<|xN R<|mM R<|vM R<|vQ R (Bz R (iR R) iL)<|vQ R (AK R<|iR R)<|wQ R (AK R iL)<|wQ R (AK R iL)<|wQ R (AK R iL)<|AE au λx7 av aw=>wQ R (A9 R BP.slice (iR R) (iR R) (λ_=>R)<|Af av)<|wQ R (BH R EV<|iR R)<|wQ R (Bc (d:=.int .i64 x7.Item) R AI (iR R) R)<|wQ R (Bz R (iR R)<|iR R)<|vQ R (Ct R (iR R)<|iR R)<|xN R<|aZ<|ao _<|cI R aw (λM=>?_) λM=>?_
  ·refine aG [4,6,7,8,10,22,23] [7918] ?_
   exact aR<|mM R<|mA R<|Zh<|E _ _ wk<|J3 _ (AH [(i8 0)]) (Zg M).symm
  exact Zc<|E _ _ wk<|J3 _ (AH [(i8 0)]) (Zg M).symm
 exact Zm<|a8 _ _ wk<|J2 _ (AH [(i8 0)])<|xH ac h9
theorem eQ{j n r}(h:MI j n=some r):AZ prog 60 [qa j,rS n] (rS r):=by
 unfold MI at h
 refine mF func60 ntmps60 R λZ=>aU<|mA R<|aZ<|aS λK2 c2 A=>aU<|mM R<|xL BA R<|mM R<|aZ<|Zf<|BI h λo1 l B C=>?_
 have J1:∀(T:Unit) (U:NN),o1=.nrm T→K2 ⟨[],[],(U 0),24⟩:=by
  intro T U e
  have h1:=B _ e
  exact c2 _<|aU<|mA R<|aZ<|Zi<|CG (P:=prog) (λ(r:(List UInt8))=>rS r) h1 iL<|.t<|.d R
 refine Zv (λ(E:Int) w=>⟨[(0,qa j),(1,rS n),(7,rL j),(8,rI E)],[],(w 0),24⟩) (AH [Z]) l wk ?_
 intro E w v1 F m
 have V:Lz j n E=some v1:=F;unfold Lz at V
 refine aU<|xS R<|aZ<|aT λc6=>cI R V (λI=>?_) λI=>?_
 ·refine Zc<|c6 _<|aT λc7=>Zf<|aU<|mM R<|mA R<|aZ<|aU<|mM R<|mM R<|AE I λX q h4=>xI BA R q<|sQ R (BH R EX iL)<|xV (.str X.Name) BE R<|mM R<|sQ R (E5 R iL iL)<|aZ<|cI R h4 (λJ=>?_) λJ=>?_
  ·refine aT λM=>aF [0,5] ?_
   exact aR<|mM R<|mM R<|xI BA R q<|sQ R (BH R Ii iL)<|xV (.str X.Value) BE R<|mA R<|aZ<|M _<|Zi<|CG (P:=prog) (λ(r:(List UInt8))=>rS r) (C _<|xH m J) iL<|.t<|.d R
  refine Zc<|c7 _<|aF [0,1,7,8] ?_
  exact aR<|AE J λx5 O h6=>xA R O<|mM R<|Zh<|Zr h6 (AH [(w 0)]) wk
 exact Zm<|A _ _ wk<|J1 _ (AH [(w 0)])<|xH m I
theorem Yo{l r}(h:OH l=some r):AZ prog 59 [rS l] (rI r):=by
 unfold OH at h
 refine mF func59 ntmps59 R λn0=>aU<|mA R<|aZ<|aT λc2=>aU<|mM R<|sQ R (E5 R iL iL)<|mM R<|vM R<|vQ R (Db R underlying9<|iR R)<|vQ R (BY R (iR R) iL)<|xO R<|mM R<|vM R<|AE h λa7 m h1=>vQ R (CP R underlying9 (iR R) iL<|Af m)<|vQ R (A8 R (iR R) iL)<|vQ R (AK R<|iR R)<|wQ R (AK R iL)<|wQ R (Db R underlying9<|iR R)<|wQ R (BY R (iR R) iL)<|vQ R (BK R (iR R)<|iR R)<|xO R<|aZ<|cI R h1 (λB=>?_) λB=>?_
 ·exact zI B R id
 refine Zc<|c2 _<|aT λc5=>aF [0] ?_
 refine aR<|mA R<|aZ<|c5 _<|aS λK6 c6 C=>aU<|mM R<|sQ R (Db R underlying9 iL)<|mM R<|aZ<|Zf<|BI B λo1 q E F=>?_
 have J1:∀(I:Int) (i5:NN),o1=.nrm I→K6 ⟨[(3,rI I)],[],(i5 0),47⟩:=by
  intro I i5 e
  have h3:=E _ e
  exact c6 _<|aU<|mM R<|mA R<|aZ<|Zi<|yI h3 R
 refine Ch (λ(J:Int) (M:Int) A=>⟨[(0,rS l),(3,rI J),(23,rL l),(24,rI M)],[],(A 0),47⟩) (AH [n0]) q wk ?_
 intro J M A v1 O w
 have h4:HJ l J M=some v1:=O;unfold HJ at h4
 refine aU<|xS R<|aZ<|aT λT=>cI R h4 (λU=>?_) λU=>?_
 ·refine Zc<|T _<|aT λV=>Zf<|aU<|mM R<|mA R<|aZ<|aT λX=>aU<|mM R<|mM R<|AE U λa8 j h6=>sQ R (CP R underlying9 iL iL λ_=>j)<|xS R<|mM R<|vM R<|vM R<|vQ R (CP R underlying9 (iR R) (iR R) λ_=>j)<|vQ R (BY R (iR R) iL)<|xO R<|aZ<|cI R h6 (λZ=>?_) λZ=>?_
  ·exact zI (F _<|xH w Z) R id
  refine Zc<|X _<|aR<|mM R<|AE Z λx4 a0 h8=>sQ R (X3 R iL iL λ_=>a0)<|mM R<|mM R<|sQ R (CP R underlying9 iL iL λ_=>j)<|sQ R (dL R iL iL)<|sQ R (D8 R underlying5 underlying3 iL)<|AE h8 λn5 a1 h9=>xA R a1<|mA R<|aZ<|V _<|aF [0,3,23,24] ?_
  exact aR<|AE h9 λx5 a2 a6=>xA R a2<|mM R<|Zh<|ZG a6 (AH [(A 0)]) wk
 exact Zm<|C _ _ wk<|J1 _ (AH [(A 0)])<|xH w U
theorem Yi{self:(List Ac)→AN→Ac→Option (List Ac)}(J:∀ {q:List Ac} {d1:AN} {m:Ac} {r:(List Ac)} {j:Nat},self q d1 m=some r→Ax prog 30 1 [.agg [qb d1.Nodes],.agg<|En m,.own 1000 j] [(1000,some<|.arr j 38 3<|q.map Ac.row)] (λrr h'=>∃(i:Nat→Nat),rr=.own 1000 (i 0)∧h'=[(1000,some<|.arr (i 0) 38 3<|r.map Ac.row)])){q:List Ac}{d1:AN}{m:Ac}{r:(List Ac)}{j:Nat}(h:In self q d1 m=some r):Ax prog 30 1 [.agg [qb d1.Nodes],.agg<|En m,.own 1000 j] [(1000,some<|.arr j 38 3<|q.map Ac.row)] (λrr h'=>∃(i:Nat→Nat),rr=.own 1000 (i 0)∧h'=[(1000,some<|.arr (i 0) 38 3<|r.map Ac.row)]):=by
 unfold In at h
 refine DV func30 R R ntmps30 (Zq R) λl=>aU<|sS R (Aw (cs:=[qb d1.Nodes]) 3 R iL R R)<|sS R (Aw (cs:=(En m)) 4 R iL R R)<|mA R<|aZ<|aT λc2=>aU<|mM R<|lF I3 AI R R<|AE h λr1 b2 h1=>cL (VW<|b2) R<|sQ R (Cw R iL iL)<|aZ<|cI R h1 (λh2=>?_) λh2=>?_
 ·refine aT λc4=>aG [2] [1000] ?_
  refine aR<|mM R<|mA R<|oZ c4 ?_
  exact Zi<|ZA (s':=⟨[(6,.own 1000 j)],[(1000,some<|.arr j 38 3<|q.map Ac.row)],(l+2),157⟩) wk<|Bf (λ(r:(List Ac)) rr h'=>∃(i:Nat→Nat),rr=.own 1000 (i 0)∧h'=[(1000,some<|.arr (i 0) 38 3<|r.map Ac.row)]) h2<|by exact⟨.own 1000 j,[(1000,some<|.arr j 38 3<|q.map Ac.row)],R,⟨.inr R,Za⟩,R,R,AH [j],R,R⟩
 refine Zc<|c2 _<|aU<|mM R<|xC jD R<|sS R (Bo 25 R H4 (f:=Ac.row) (l:=([m]:List Ac)) ⟨R,⟨_,iL,R⟩,Za⟩ R (λ_=>R) R)<|AE h2 λd2 ac h3=>sS R (DB R H4 iL R (.inr<|.inl ⟨_,_,iL,R⟩) ac)<|mA R<|aZ<|aT λc6=>aG [2,3,4] [3,4,1000] ?_
 refine AE h3 λr2 b3 h4=>AE h4 λA b4 h5=>?_
 refine Li 9 [pO 27<|.ptr 3 l 0 0,pO 28<|qb d1.Nodes,pO 29<|.agg [qb d1.Nodes],pO 30<|.ptr 4 (l+1) 0 0,pO 31<|rI m.ID,pO 32<|rI r2,pO 33<|.rop (AX.row A) 0,pO 34<|.agg<|At A,⟨some 7,(λI=>.ptr 7 (I 8) 0 0),some (7,(λI=>some<|.box (I 8) 47 FT)),[8]⟩] BV (by kernel_rfl) (by exact⟨λ_ _ h=>⟨R,λ_ _ e=>by cases e⟩,λ_ _ h=>⟨R,λ_ _ e=>by cases e⟩,λ_ _ h=>⟨R,λ_ _ e=>by cases e⟩,λ_ _ h=>⟨R,λ_ _ e=>by cases e⟩,λ_ _ h=>⟨R,λ_ _ e=>by cases e⟩,λ_ _ h=>⟨R,λ_ _ e=>by cases e⟩,λ_ _ h=>⟨R,λ_ _ e=>by cases e⟩,λ_ _ h=>⟨R,λ_ _ e=>by cases e⟩,λ_ _ h=>⟨by simp only[h 8 R],λ_ _ e=>by cases e;simp only[h 8 R]⟩,Za⟩) R (by exact⟨oB [(3,.ptr 3 l 0 0)] [(3,some<|.box l 24 [qb d1.Nodes])]<|fB R B8 (.inl R) (λ_=>R) R,oB [(27,.ptr 3 l 0 0)] [(3,some<|.box l 24 [qb d1.Nodes])]<|AU (a:=qb d1.Nodes) R B6 (.inl R) R R,oB [(3,.ptr 3 l 0 0)] [(3,some<|.box l 24 [qb d1.Nodes])]<|DU R B7 (.inl R) R R,oB [(4,.ptr 4 (l+1) 0 0)] [(4,some<|.box (l+1) 38<|En m)]<|fB R I3 (.inl R) (λ_=>R) R,oB [(30,.ptr 4 (l+1) 0 0)] [(4,some<|.box (l+1) 38<|En m)]<|AU (a:=rI m.ID) R AI (.inl R) R R,oD (λ_=>[(29,.agg [qb d1.Nodes]),(31,rI m.ID)]) (λ_=>[]) λI e h' n=>DJ (r:=rI r2) (caps:=[]) (bs:=[.agg [qb d1.Nodes],rI m.ID]) R (.inl R) R ⟨⟨_,(.inl R),.g (cs:=[.sl<|d1.Nodes.map AX.row]) R R⟩,⟨_,(.inl R),.d R⟩,Za⟩ (λ_=>R7<|b3) R,oB [(28,qb d1.Nodes),(32,rI r2)] []<|A9 R Bh.slice (.inl R) (.inl R) (λ_=>R) λ_=>b4,oB [(33,.rop (AX.row A) 0)] []<|Cf (cs:=(At A)) R DO (.inl R) R R,oM (λ_=>[]) (λ_=>[]) R λI e h' n=>BB (cs:=FT) 7 R Hs R R,Za⟩) λI n1=>?_
 refine BU [2,3,4,7,27,28,29,30,31,32,33,34] [3,4,7,1000] ?_
 refine Zj R R (Az (ds:=(At A)) R Gw iL R iL R R R R)<|aZ<|c6 _<|aS λK7 c7 b5=>aU<|lF EH EN R R<|xL B1 R<|mM R<|aZ<|Zf<|Ba h5 λo1 aj b6=>?_
 have J1:∀(a2:List Ac) (i5:NN),o1=a2→K7 ⟨[(2,.own 1000<|i5 0),(3,.ptr 3 l 0 0),(4,.ptr 4 (l+1) 0 0),(7,.ptr 7 (I 8) 0 0)],[(3,some<|.box l 24 [qb d1.Nodes]),(4,some<|.box (l+1) 38<|En m),(7,some<|.box (I 8) 47<|At A),(1000,some<|.arr (i5 0) 38 3<|a2.map Ac.row)],(i5 1),157⟩:=by
  intro a2 i5 e
  have h6:=b6 _ e
  refine c7 _<|aS λK9 c9 b7=>aU<|sQ R (fB R DF iL fR R)<|lF DS Dc R R<|xL Bm R<|mM R<|aZ<|Zf<|Ba h6 λo2 ak b8=>?_
  have J2:∀(M:List Ac) (Z:NN),o2=M→K9 ⟨[(2,.own 1000<|Z 0),(3,.ptr 3 l 0 0),(4,.ptr 4 (l+1) 0 0),(7,.ptr 7 (I 8) 0 0)],[(3,some<|.box l 24 [qb d1.Nodes]),(4,some<|.box (l+1) 38<|En m),(7,some<|.box (I 8) 47<|At A),(1000,some<|.arr (Z 0) 38 3<|M.map Ac.row)],(Z 1),157⟩:=by
   intro M Z e
   have h7:=b8 _ e
   refine c9 _<|aU<|lF Fw GM R R<|Ee h7 λr3 r4 b9 h8=>sS R (Cb (r:=.tup [qg r3,rI r4]) (caps:=[]) (bs:=[qf A.Draw]) R iL R ⟨.inl ⟨iL,R⟩,Za⟩ λ_=>em<|b9)<|mM R<|xX R<|xX R<|mA R<|mA R<|aZ<|aS λba bb al=>aU<|mM R<|mM R<|aZ<|Zf<|Ba h8 λo3 an bc=>?_
   have J3:∀(w:List Ac) (B:NN),o3=w→ba ⟨[(2,.own 1000<|B 0)],[(1000,some<|.arr (B 0) 38 3<|w.map Ac.row)],(B 1),157⟩:=by
    intro w B e
    have h9:=bc _ e
    refine bb _<|aU<|mM R<|mA R<|aZ ?_
    exact Zi<|ZA (s':=⟨[(6,.own 1000<|B 0)],[(1000,some<|.arr (B 0) 38 3<|w.map Ac.row)],(B 1),157⟩) wk<|Bf (λ(r:(List Ac)) rr h'=>∃(i:Nat→Nat),rr=.own 1000 (i 0)∧h'=[(1000,some<|.arr (i 0) 38 3<|r.map Ac.row)]) h9<|by exact⟨.own 1000<|B 0,[(1000,some<|.arr (B 0) 38 3<|w.map Ac.row)],R,⟨.inr R,Za⟩,R,R,AH [(B 0)],R,R⟩
   refine Ch (λ(x9:Int) (F:List Ac) C=>⟨[(2,.own 1000<|C 0),(3,.ptr 3 l 0 0),(4,.ptr 4 (l+1) 0 0),(12,qg r3),(117,rI r4),(118,rI x9)],[(3,some<|.box l 24 [qb d1.Nodes]),(4,some<|.box (l+1) 38<|En m),(1000,some<|.arr (C 0) 38 3<|F.map Ac.row)],(C 1),157⟩) (AH [(Z 0),(Z 1)]) an wk ?_
   intro x9 F C v1 bd be
   have ao:FK d1 m self r3 r4 x9 F=some v1:=bd;unfold FK at ao
   refine aU<|xS R<|aZ<|aT λbf=>cI R ao (λad=>?_) λad=>?_
   ·refine Zc<|bf _<|aS λbg bh a7=>Zf<|Ba ad λp1 bi bj=>?_
    have J4:∀(O:List Ac) (i16:NN),p1=O→bg ⟨[(2,.own 1000<|i16 0),(3,.ptr 3 l 0 0),(4,.ptr 4 (l+1) 0 0),(12,qg r3),(117,rI r4),(118,rI x9)],[(3,some<|.box l 24 [qb d1.Nodes]),(4,some<|.box (l+1) 38<|En m),(1000,some<|.arr (i16 0) 38 3<|O.map Ac.row)],(i16 1),157⟩:=by
     intro O i16 e
     have bk:=bj _ e
     exact bh _<|aR<|AE bk λd3 aq bl=>xA R aq<|mM R<|Zh<|ZG bl (AH [(i16 0),(i16 1)]) wk
    refine aU<|mM R<|mA R<|aZ<|aU<|mM R<|mM R<|AE bi λbm ar bn=>xI BP R ar<|sQ R (BH R JO iL)<|xV (.sl<|bm.Attrs.map AG.row) Ca R<|AE bn λr5 bo bp=>cL (eQ<|bo) R<|AE bp λau av bq=>cL (Yo<|av) R<|mA R<|aZ<|aT λbr=>aG [2,3,4,12,15,117,118] [3,4,1000] ?_
    refine aR<|xC B7 R<|mM R<|AE bq λk1 bs bt=>cL (R7<|bs) R<|mA R<|aZ<|br _<|aU<|mM R<|sQ R (BY R iL iL)<|mM R<|vM R<|vQ R (Cw R (iR R) iL)<|xN R<|mM R<|vF B8 B6 R R<|vM R<|AE bt λbu aw bv=>vQ R (A9 R Bh.slice (iR R) (iR R) (λ_=>R)<|Af aw)<|vQ R (BH R CT<|iR R)<|vQ R (Bc (d:=.int .i64 bu.Kind) R AI (iR R) R)<|vQ R (A8 R (iR R) iL)<|xN R<|aZ<|cI R bv (λae=>?_) λae=>?_
    ·refine aG [2,3,4,12,15,117,118] [3,4,1000] ?_
     refine aR<|xC B7 R<|mM R<|lF I3 AI R R<|lF P2 Em R R ?_
     refine sQ R (Bq R O0 (q:=[(0,_),(1,_),(2,_)]) (by exact⟨R,R,R,iL,R,R,R,iL,R,R,R,iL,Za⟩) (cs:=[rI au,rI m.ID,rB m.Visible])<|by rfl) ?_
     refine mM R<|AE ae λw1 bw bx=>?_
     refine Zw [1000] (hc:=[(1000,some<|.arr (C 0) 38 3<|F.map Ac.row)]) (bs:=[.agg [qb d1.Nodes],.agg [rI au,rI m.ID,rB m.Visible],.own 1000<|C 0]) (caps:=[]) R R R R iL R ⟨.inl ⟨iL,R⟩,.inl ⟨iL,R⟩,.inl ⟨iL,R⟩,Za⟩ ⟨R,R,R,Za⟩ (by decide) (J bw) ?_
     intro bz n2
     refine BU [3,4,12,15,117,118,146,147,148,149,150,151,152,154] [3,4,1000] ?_
     exact mA R<|Zh<|a7 _ _ wk<|J4 _ (AH [(bz 0),n2]) (Zg bx).symm
    exact Zc<|a7 _ _ wk<|J4 _ (AH [(C 0),(C 1)]) (Zg ae).symm
   exact Zm<|al _ _ wk<|J3 _ (AH [(C 0),(C 1)])<|xH be ad
  refine Ch (λ(x6:Int) (V:List Ac) i8=>⟨[(2,.own 1000<|i8 0),(3,.ptr 3 l 0 0),(4,.ptr 4 (l+1) 0 0),(7,.ptr 7 (I 8) 0 0),(66,rL A.Grid.Cells),(67,rI x6)],[(3,some<|.box l 24 [qb d1.Nodes]),(4,some<|.box (l+1) 38<|En m),(7,some<|.box (I 8) 47<|At A),(1000,some<|.arr (i8 0) 38 3<|V.map Ac.row)],(i8 1),157⟩) (AH [(i5 0),(i5 1)]) ak wk ?_
  intro x6 V i8 v2 c0 c1
  have ax:Fb d1 m self A x6 V=some v2:=c0;unfold Fb at ax
  refine aU<|xS R<|aZ<|aT λc3=>cI R ax (λaf=>?_) λaf=>?_
  ·refine Zc<|c3 _<|aS λc5 c8 a8=>Zf<|Ba af λp2 ca cb=>?_
   have J5:∀(T:List Ac) (a0:NN),p2=T→c5 ⟨[(2,.own 1000<|a0 0),(3,.ptr 3 l 0 0),(4,.ptr 4 (l+1) 0 0),(7,.ptr 7 (I 8) 0 0),(66,rL A.Grid.Cells),(67,rI x6)],[(3,some<|.box l 24 [qb d1.Nodes]),(4,some<|.box (l+1) 38<|En m),(7,some<|.box (I 8) 47<|At A),(1000,some<|.arr (a0 0) 38 3<|T.map Ac.row)],(a0 1),157⟩:=by
    intro T a0 e
    have cc:=cb _ e
    exact c8 _<|aR<|AE cc λd4 ay cd=>xA R ay<|mM R<|Zh<|ZG cd (AH [(a0 0),(a0 1)]) wk
   refine aU<|mM R<|mA R<|aZ<|aU<|sQ R (fB R DF iL fR R)<|lF DS Dc R R<|mM R<|AE ca λE az cf=>xI Bm R az<|xB ((BN E)) Dy R<|sS R (BB (cs:=GD) 10 R GE R R)<|Zj R R (Az (ds:=(BN E)) R GO iL R iL R R R R)<|aZ<|aT λcg=>aG [2,3,4,7,10,66,67] [3,4,7,10,1000] ?_
   refine aR<|lF DG AI R R<|xU R<|aZ<|cg _<|cI R cf (λag=>?_) λag=>?_
   ·refine aU<|sQ R (fB R DF iL fR R)<|sQ R (GL (ds:=(Bs A.Grid)) R Fm iL R R R)<|lF Dg AI R R<|lF Dt AI R R<|AE ag λr6 ch cj=>sS R (Cb (r:=.agg<|A3 r6) (caps:=[]) (bs:=[.agg<|Bs A.Grid,rI E.Row,rI E.Col]) R iL R ⟨.inl ⟨iL,R⟩,.inl ⟨iL,R⟩,.inl ⟨iL,R⟩,Za⟩ λ_=>fw<|ch)<|sS R (BB (cs:=Ek) 11 R GS R R)<|Zj R R (Az (ds:=(A3 r6)) R Fc iL R iL R R R R)<|aZ<|aG [2,3,4,7,10,11,66,67] [3,4,7,10,11,1000] ?_
    refine aR<|xC B7 R<|lF DG AI R R<|lF I3 AI R R<|lF P2 Em R R<|mM R<|vF CV AI R R<|vF Dg AI R R<|vQ R (A8 R (iR R)<|iR R)<|xN R<|mM R<|vF Cv AI R R<|vF Dt AI R R<|vQ R (A8 R (iR R)<|iR R)<|xN R ?_
    refine sQ R (Bq R O0 (q:=[(0,_),(1,_),(2,_)]) (by exact⟨R,R,R,iL,R,R,R,iL,R,R,R,iL,Za⟩) (cs:=[rI E.Ref,rI m.ID,rB<|((m.Visible&&(r6.Row=E.Row))&&(r6.Col=E.Col))])<|by rfl) ?_
    refine mM R<|AE cj λw2 ck cl=>?_
    refine Zw [1000] (hc:=[(1000,some<|.arr (i8 0) 38 3<|V.map Ac.row)]) (bs:=[.agg [qb d1.Nodes],.agg [rI E.Ref,rI m.ID,rB<|((m.Visible&&(r6.Row=E.Row))&&(r6.Col=E.Col))],.own 1000<|i8 0]) (caps:=[]) R R R R iL R ⟨.inl ⟨iL,R⟩,.inl ⟨iL,R⟩,.inl ⟨iL,R⟩,Za⟩ ⟨R,R,R,Za⟩ (by decide) (J ck) ?_
    intro cm n3
    refine BU [3,4,7,10,11,66,67,86,87,88,89,90,91,92,93,99,100,106,107,109] [3,4,7,10,11,1000] ?_
    exact mA R<|Zh<|a8 _ _ wk<|J5 _ (AH [(cm 0),n3]) (Zg cl).symm
   exact Zc<|a8 _ _ wk<|J5 _ (AH [(i8 0),((i8 1)+1)]) (Zg ag).symm
  exact Zm<|b7 _ _ wk<|J2 _ (AH [(i8 0),(i8 1)])<|xH c1 af
 refine Ch (λ(x3:Int) (X:List Ac) i3=>⟨[(2,.own 1000<|i3 0),(3,.ptr 3 l 0 0),(4,.ptr 4 (l+1) 0 0),(7,.ptr 7 (I 8) 0 0),(37,rL A.Flow),(38,rI x3)],[(3,some<|.box l 24 [qb d1.Nodes]),(4,some<|.box (l+1) 38<|En m),(7,some<|.box (I 8) 47<|At A),(1000,some<|.arr (i3 0) 38 3<|X.map Ac.row)],(i3 1),157⟩) (AH [(l+3),n1]) aj wk ?_
 intro x3 X i3 v3 cn cp
 have b0:FL d1 m self A x3 X=some v3:=cn;unfold FL at b0
 refine aU<|xS R<|aZ<|aT λcq=>cI R b0 (λah=>?_) λah=>?_
 ·refine Zc<|cq _<|aS λcr cs aa=>Zf<|Ba ah λp3 ct cu=>?_
  have J6:∀(U:List Ac) (a1:NN),p3=U→cr ⟨[(2,.own 1000<|a1 0),(3,.ptr 3 l 0 0),(4,.ptr 4 (l+1) 0 0),(7,.ptr 7 (I 8) 0 0),(37,rL A.Flow),(38,rI x3)],[(3,some<|.box l 24 [qb d1.Nodes]),(4,some<|.box (l+1) 38<|En m),(7,some<|.box (I 8) 47<|At A),(1000,some<|.arr (a1 0) 38 3<|U.map Ac.row)],(a1 1),157⟩:=by
   intro U a1 e
   have cv:=cu _ e
   exact cs _<|aR<|AE cv λd5 b1 cw=>xA R b1<|mM R<|Zh<|ZG cw (AH [(a1 0),(a1 1)]) wk
  refine aU<|mM R<|mA R<|aZ<|aU<|lF EH EN R R<|mM R<|AE ct λa6 ab cx=>xI B1 R ab<|sQ R (BH R Dh iL)<|xV (.int .i64 a6.Ref) AI R<|xU R<|aZ<|cI R cx (λai=>?_) λai=>?_
  ·refine aG [2,3,4,7,8,37,38] [3,4,7,1000] ?_
   refine XF 13 BV (by kernel_rfl) R R ?_
   refine AT.step R R R (DU R B7 iL R R)<|AT.step R R R (fB R EH iL fR R)<|AT.step R R R (AU (a:=qe A.Flow) R EN iL R R)<|AT.step R R R (AK R iL)<|AT.step R R R (A9 R B1.slice iL iL (λ_=>R) λ_=>ab)<|AT.step R R R (BH R Dh iL)<|AT.step R R R (Bc (d:=.int .i64 a6.Ref) R AI iL R)<|AT.step R R R (fB R I3 iL fR R)<|AT.step R R R (AU (a:=rI m.ID) R AI iL R R)<|AT.step R R R (fB R P2 iL fR R)<|AT.step R R R (AU (a:=rB m.Visible) R Em iL R R) ?_
   refine AT.step R R R (Bq R O0 (q:=[(0,_),(1,_),(2,_)]) (by exact⟨R,R,R,iL,R,R,R,iL,R,R,R,iL,Za⟩) (cs:=[rI a6.Ref,rI m.ID,rB m.Visible])<|by rfl) ?_
   refine AT.step R R R (AK R iL)<|AT.nil<|AE ai λw3 cy cz=>?_
   refine Zw [1000] (hc:=[(1000,some<|.arr (i3 0) 38 3<|X.map Ac.row)]) (bs:=[.agg [qb d1.Nodes],.agg [rI a6.Ref,rI m.ID,rB m.Visible],.own 1000<|i3 0]) (caps:=[]) R R R R iL R ⟨.inl ⟨iL,R⟩,.inl ⟨iL,R⟩,.inl ⟨iL,R⟩,Za⟩ ⟨R,R,R,Za⟩ (by decide) (J cy) ?_
   intro d0 n4
   refine BU [3,4,7,8,37,38,48,49,50,51,52,53,54,55,56,57,58,59,61] [3,4,7,1000] ?_
   exact mA R<|Zh<|aa _ _ wk<|J6 _ (AH [(d0 0),n4]) (Zg cz).symm
  exact Zc<|aa _ _ wk<|J6 _ (AH [(i3 0),(i3 1)]) (Zg ai).symm
 exact Zm<|b5 _ _ wk<|J1 _ (AH [(i3 0),(i3 1)])<|xH cp ah
theorem kb(n:Nat):∀ {l:List Ac} {d1:AN} {m:Ac} {r:(List Ac)} {j:Nat},CH n l d1 m=some r→Ax prog 30 1 [.agg [qb d1.Nodes],.agg<|En m,.own 1000 j] [(1000,some<|.arr j 38 3<|l.map Ac.row)] (λq h'=>∃(i:Nat→Nat),q=.own 1000 (i 0)∧h'=[(1000,some<|.arr (i 0) 38 3<|r.map Ac.row)]):=by
 induction n with
 | zero=>intro l d1 m r j h;exact absurd (show(none:Option ((List Ac)))=some r from h)<|by simp
 | succ n w=>intro l d1 m r j h;exact Yi (self:=λl d1 m=>CH n l d1 m) (λA=>w A) h
theorem me{l:List Ac}{d1:AN}{m:Ac}{r:(List Ac)}{j:Nat}(h:QY l d1 m=some r):Ax prog 30 1 [.agg [qb d1.Nodes],.agg<|En m,.own 1000 j] [(1000,some<|.arr j 38 3<|l.map Ac.row)] (λw h'=>∃(i:Nat→Nat),w=.own 1000 (i 0)∧h'=[(1000,some<|.arr (i 0) 38 3<|r.map Ac.row)]):=by
 unfold QY at h
 by_cases q:∃n r,CH n l d1 m=some r
 ·rw[qD q] at h;exact kb _ h
 ·rw[qw q] at h;cases h
theorem Zs{d1 r}(h:Ni d1=some r):AZ prog 10 [.agg [qb d1.Nodes]] (qh r):=by
 unfold Ni at h
 refine mF func10 ntmps10 R λl=>aU<|sS R (Aw (cs:=[qb d1.Nodes]) 1 R iL R R)<|mA R<|aZ<|aT λm=>aR<|xC B7 R ?_
 refine sQ R (Bq R O0 (q:=[(0,_),(1,_),(2,_)]) (by exact⟨R,R,R,iL,R,R,R,iL,R,R,R,iL,Za⟩) (cs:=[rI 1,rI 0,rB true])<|by rfl) ?_
 refine AE h λw j q=>?_
 refine XH 7905 38 3 R [7905] (hc:=[(1000,some<|.arr (l+1) 38 3<|([]:List Ac).map Ac.row)]) (bs:=[.agg [qb d1.Nodes],.agg [rI 1,rI 0,rB true],.own 1000<|l+1]) (caps:=[]) R R R R iL R ⟨.inl<|.inl ⟨iL,R⟩,.inl<|.inl ⟨iL,R⟩,.inr ⟨iL,R,R⟩,Za⟩ ⟨R,R,R,Za⟩ (by decide) (me j) ?_
 intro A B
 refine BU [0,1,2,3,4,5] [1,7905] ?_
 exact mA R<|aZ<|m _<|Zi<|CG (P:=prog) (λ(r:(List Ac))=>qh r) q iL<|.t<|.one<|.own R
theorem Vf{j q r}(h:KJ j q=some r):AZ prog 12 [.r<|.sl<|j.map<|AY .i64,.r<|.sl<|q.map<|AY .i64] (rB r):=by
 unfold KJ at h
 refine mF func12 ntmps12 R λn0=>aU<|mA R<|aZ<|aT λc2=>aU<|mM R<|xL BL R<|mM R<|xL BL R<|xU R<|aZ<|cI R h (λA=>?_) λA=>?_
 ·exact zB A R id
 refine Zc<|c2 _<|aS λK5 c5 B=>aU<|mM R<|xL BL R<|mM R<|aZ<|Zf<|BI A λo1 l C E=>?_
 have J1:∀(Z:Unit) (i5:NN),o1=.nrm Z→K5 ⟨[],[],(i5 0),26⟩:=by
  intro Z i5 e
  have h2:=C _ e
  exact c5 _<|zB h2 R id
 refine Zv (λ(F:Int) w=>⟨[(0,.r<|.sl<|j.map<|AY .i64),(1,.r<|.sl<|q.map<|AY .i64),(12,rL j),(13,rI F)],[],(w 0),26⟩) (AH [n0]) l wk ?_
 intro F w v1 I m
 have h3:MH j q F=some v1:=I;unfold MH at h3
 refine aU<|xS R<|aZ<|aT λc9=>cI R h3 (λJ=>?_) λJ=>?_
 ·refine Zc<|c9 _<|aT λM=>Zf<|aU<|mM R<|mA R<|aZ<|aT λO=>?_
  refine Zz BV (by kernel_rfl) ?_
  refine qP R (AK R iL)<|qP R (AK R iL)<|AE J λx4 T h5=>qP R (A9 R BL.slice iL iL (λ_=>R) λ_=>T)<|qP R (Bc (d:=.int .i64 x4) R AI iL R)<|qP R (AK R iL)<|qP R (AK R iL)<|AE h5 λx5 U h6=>qP R (A9 R BL.slice iL iL (λ_=>R) λ_=>U)<|qP R (Bc (d:=.int .i64 x5) R AI iL R)<|qP R (DK R iL iL)<|AQ.nil<|O _<|cI R h6 (λV=>?_) λV=>?_
  ·exact zB (E _<|xH m V) R id
  refine Zc<|M _<|aF [0,1,12,13] ?_
  exact aR<|AE V λx6 X h8=>xA R X<|mM R<|Zh<|Zr h8 (AH [(w 0)]) wk
 exact Zm<|B _ _ wk<|J1 _ (AH [(w 0)])<|xH m J
theorem eD{d1:AN}{r:Bool}(h:QN d1=some r):AZ prog 3 [.agg [qb d1.Nodes]] (rB<|r):=by
 unfold QN at h
 refine XK func3 rfl rfl ntmps3 rfl (pF rfl) λj=>?_
 refine aS λK1 bu ea=>aR<|AL.step rfl rfl rfl (Aw (cs:=[qb d1.Nodes]) 1 rfl iL rfl rfl)<|sA rfl rfl<|aZ<|bu _ ?_
 refine aS λK2 bv eb=>aS λK3 bw ec=>aR<|AE h λr1 bx h1=>AL.step rfl rfl rfl (DJ (r:=rB<|r1) (caps:=[]) (bs:=[]) rfl iL rfl trivial (λ_=>cB<|bx) rfl)<|sQ rfl (A4 rfl iL)<|aZ<|bw _ ?_
 refine aC rfl (λa8=>?_) λa8=>?_
 ·have h2:=Cd a8 h1
  refine aS λK4 bz ed=>aR<|sA rfl rfl<|aZ<|bz _ ?_
  refine AW.ret ?_
  exact CG (P:=prog) (λ(r:Bool)=>rB<|r) h2 iL<|.t<|.d rfl
 ·have h2:=CY a8 h1
  refine AW.skip ?_
  refine bv _ ?_
  refine aS λK5 c0 ee=>aR<|AL.step rfl rfl rfl (BB (cs:=[.cst<|.slice none 0 0]) 3 rfl gj rfl rfl)<|aZ<|c0 _ ?_
  refine aS λK6 c1 ef=>aS λK7 c2 eg=>aR<|sQ rfl (DU rfl B7 iL rfl rfl)<|AE h2 λw1 c3 h3=>?_
  refine XC [18] (hc:=[]) (bs:=[.agg [qb d1.Nodes]]) (caps:=[]) rfl rfl rfl rfl iL rfl ⟨.inl ⟨iL,rfl⟩,trivial⟩ trivial (by decide) (jP c3) ?_
  intro i1 E
  refine AL.weak (s':=⟨[(0,.agg [qb d1.Nodes]),(1,.ptr 1 j 0 0),(2,rB<|false),(3,.ptr 3 (j+1) 0 0),(15,rB<|r1),(16,rB<|(!r1)),(17,.agg [qb d1.Nodes]),(18,.fn 22 [.ptr 18 (i1 0) 0 0])],[(1,some<|.box j 24 [qb d1.Nodes]),(3,some<|.box (j+1) 26 [.cst<|.slice none 0 0]),(18,some<|.box (i1 0) 24 [qb w1.Nodes])],E,121⟩) (by exact Ae.cv ⟨jL,jL,jL,jL,jL,jL,jL,jL,trivial⟩ ⟨.inl rfl,.inl rfl,.inl rfl,trivial⟩ nL) ?_
  refine aZ<|c2 _ ?_
  refine AW.block ?_
  refine AW.weak (s':=⟨[(0,.agg [qb d1.Nodes]),(1,.ptr 1 j 0 0),(2,rB<|false),(3,.ptr 3 (j+1) 0 0),(15,rB<|r1),(16,rB<|(!r1)),(17,.agg [qb d1.Nodes]),(18,.fn 22 [.ptr 18 (i1 0) 0 0])],[(1,some<|.box j 24 [qb d1.Nodes]),(3,some<|.box (j+1) 26 [.own 25 E]),(18,some<|.box (i1 0) 24 [qb w1.Nodes]),(25,some<|.arr E 3 1<|([]:List Int).map<|AY .i64)],(E+1),121⟩) (Ae.trans (Ae.trans (TF 3 0 25 3 1 (by decide) rfl rfl<|by decide)<|by exact Ae.cv (e':=[(0,.agg [qb d1.Nodes]),(1,.ptr 1 j 0 0),(2,rB<|false),(3,.ptr 3 (j+1) 0 0),(15,rB<|r1),(16,rB<|(!r1)),(17,.agg [qb d1.Nodes]),(18,.fn 22 [.ptr 18 (i1 0) 0 0])]) (h':=[(1,some<|.box j 24 [qb d1.Nodes]),(3,some<|.box (j+1) 26 [.own 25 E]),(18,some<|.box (i1 0) 24 [qb w1.Nodes]),(25,some<|.arr E 3 1<|([]:List Int).map<|AY .i64)]) ⟨jL,jL,jL,jL,jL,jL,jL,jL,trivial⟩ ⟨.inl rfl,.inl rfl,.inl rfl,.inl rfl,trivial⟩ nL)<|by exact Ae.cv ⟨jL,jL,jL,jL,jL,jL,jL,jL,trivial⟩ ⟨.inl rfl,.inl rfl,.inl rfl,.inl rfl,trivial⟩ nL) ?_
  refine AE h3 λq c4 h7=>?_
  refine AW.rng2 (it:=λA=>FN A [] w1) (L:=[18]) (hB:=[(1001,some<|.box (i1 0) 24 [qb w1.Nodes])]) (caps:=[.ptr 1001 (i1 0) 0 0]) 0 (λ(U:(List Int)) l=>[(1,some<|.box j 24 [qb d1.Nodes]),(3,some<|.box (j+1) 26 [.own 25<|l 0]),(25,some<|.arr (l 0) 3 1<|U.map<|AY .i64)]) (λl=>(E+2)+(l 1)) (AH [E,0]) c4 rfl rfl (by exact⟨rfl,rfl,rfl,trivial⟩) rfl (by decide) rfl (by exact⟨.inr rfl,.inr rfl,.inr rfl,trivial⟩) rfl (λ_ _=>rfl) nL (λi=>nm (pc _)<|Nat.le_add_right _ _) rfl rfl ⟨_,func22,rfl,rfl⟩ (λW ys hP hi=>⟨_,Yx hi ⟨hP,rfl⟩,λrr h' ⟨i,e1,e2⟩=>by rw[e2];rfl⟩) ?_ ?_
  ·intro E1 A0 B0 eh ei (U) aa C c5 l h4
   have h5:G7 U aa C=some c5:=h4;unfold G7 at h5
   refine AW.weak (s':=⟨[(0,.agg [qb d1.Nodes]),(1,.ptr 1 j 0 0),(2,rB<|false),(3,.ptr 3 (j+1) 0 0),(15,rB<|r1),(16,rB<|(!r1)),(17,.agg [qb d1.Nodes]),(19,rI<|aa),(20,rI<|C)],[(0,some<|.lp (E+1) E1 121 [19,20] A0 B0 .ready none),(1,some<|.box j 24 [qb d1.Nodes]),(3,some<|.box (j+1) 26 [.own 25<|l 0]),(25,some<|.arr (l 0) 3 1<|U.map<|AY .i64)],((E+2)+(l 1)),121⟩) (by exact Ae.cv ⟨jL,jL,jL,jL,jL,jL,jL,jL,jL,trivial⟩ ⟨.inl rfl,.inl rfl,.inl rfl,.inl rfl,trivial⟩ nL) ?_
   refine aS λK8 c6 ej=>aR<|sA rfl rfl<|aZ<|c6 _ ?_
   refine aR<|sA rfl rfl ?_
   refine AL.nil ?_
   refine nO rfl<|XI ?_
   refine AW.block<|aR<|sQ rfl (AU (a:=.own 25<|l 0) rfl Ri iL rfl rfl)<|sM rfl rfl<|sM rfl rfl<|AL.step rfl rfl rfl (Bo 24 rfl BL (f:=(AY .i64)) (l:=([aa,C]:List Int)) ⟨rfl,⟨_,iL,rfl⟩,rfl,⟨_,iL,rfl⟩,trivial⟩ rfl (λ_=>rfl) rfl)<|AE h5 λl1 c7 h6=>AL.step rfl rfl rfl (DB rfl BL iL rfl (.inr<|.inl ⟨_,_,iL,rfl⟩) c7)<|XG rfl rfl (Az (ds:=[.own 25<|((E+2)+(l 1))+1]) rfl lT iL rfl iL rfl rfl rfl rfl) ?_
   refine AL.nil ?_
   exact⟨_,(show Ae _ ⟨[],[(0,some<|.lp (E+1) E1 121 [19,20] A0 B0 .busy none),(1,some<|.box j 24 [qb d1.Nodes]),(3,some<|.box (j+1) 26 [.own 25<|((E+2)+(l 1))+1]),(25,some<|.arr (((E+2)+(l 1))+1) 3 1<|l1.map<|AY .i64)],(((E+2)+(l 1))+2),121⟩ from(by exact Ae.cv trivial ⟨.inl rfl,.inl rfl,.inl rfl,.inl rfl,trivial⟩ nL)),nP h6 (AH [(((E+2)+(l 1))+1),(((E+2)+(l 1))+2)]) rfl<|Nat.le_add_left _ _⟩
  intro l
  refine c1 _ ?_
  refine aS λK9 c8 ek=>aR<|sQ rfl (DU rfl B7 iL rfl rfl)<|Ee h7 λV Z c9 h8=>AL.step rfl rfl rfl (Cb (r:=.tup [.r<|.sl<|V.map<|AY .i64,rI<|Z]) (caps:=[]) (bs:=[.agg [qb d1.Nodes]]) rfl iL rfl ⟨.inl ⟨iL,rfl⟩,trivial⟩ λ_=>kx<|c9)<|sM rfl rfl<|sQ rfl (Nv (a:=.r<|.sl<|V.map<|AY .i64) rfl iL rfl)<|sQ rfl (Nv (a:=rI<|Z) rfl iL rfl)<|sA rfl rfl<|sA rfl rfl<|aZ<|c8 _ ?_
  refine aS λel ar dh=>aS λen au di=>?_
  refine AW.weak (s':=⟨[(1,.ptr 1 j 0 0),(3,.ptr 3 (j+1) 0 0),(6,.r<|.sl<|V.map<|AY .i64),(7,rI<|Z)],[(1,some<|.box j 24 [qb d1.Nodes]),(3,some<|.box (j+1) 26 [.own 25<|l 0]),(25,some<|.arr (l 0) 3 1<|q.map<|AY .i64)],((E+2)+(l 1)),121⟩) (by exact Ae.cv ⟨jL,jL,jL,jL,trivial⟩ ⟨.inl rfl,.inl rfl,.inl rfl,trivial⟩ nL) ?_
  refine aR<|sQ rfl (DU rfl B7 iL rfl rfl)<|AE h8 λf1 ca h9=>AL.step rfl rfl rfl (DJ (r:=rI<|f1) (caps:=[]) (bs:=[.agg [qb d1.Nodes]]) rfl iL rfl ⟨⟨_,iL,.g (cs:=[.sl<|d1.Nodes.map AX.row]) rfl rfl⟩,trivial⟩ (λ_=>aK<|ca) rfl)<|sA rfl rfl<|aZ<|au _ ?_
  refine aS λeo av dj=>aR<|sM rfl rfl<|sQ rfl (DK rfl iL iL)<|aZ<|av _ ?_
  refine aC rfl (λab=>?_) λab=>?_
  ·have ac:=Cd ab h9
   refine aS λep aw dk=>aR<|sM rfl rfl<|sM rfl rfl<|sQ rfl (A8 rfl iL iL)<|sM rfl rfl<|sV rfl rfl rfl (AU (a:=.own 25<|l 0) rfl Ri iL rfl rfl)<|sV rfl rfl rfl (Jv rfl BL.slice (iR rfl) rfl)<|sV rfl rfl rfl (AK rfl iL)<|sV rfl rfl rfl (DM rfl BL.slice<|iR rfl)<|AE ac λx1 cb cc=>sV rfl rfl rfl (HO rfl (iR rfl) (iR rfl)<|Af cb)<|sV rfl rfl rfl (A8 rfl (iR rfl) iL)<|sQ rfl (BK rfl iL<|iR rfl)<|sM rfl rfl<|sV rfl rfl rfl (DU rfl B7 iL rfl rfl)<|AE cc λr4 cd cf=>?_
   refine AL.stepW (.one rfl rfl rfl) rfl rfl (DJ (r:=rB<|r4) (caps:=[]) (bs:=[.agg [qb d1.Nodes],rI<|1]) rfl iL rfl ⟨⟨_,(iR rfl),.g (cs:=[.sl<|d1.Nodes.map AX.row]) rfl rfl⟩,⟨_,iL,.d rfl⟩,trivial⟩ (λhg=>RU<|Af cd hg) rfl) ?_
   refine sV rfl rfl rfl (A4 rfl<|iR rfl)<|sQ rfl (BK rfl iL<|iR rfl)<|sA rfl rfl<|aZ<|aw _ ?_
   refine AW.ret ?_
   exact CG (P:=prog) (λ(r:Bool)=>rB<|r) cf iL<|.t<|.d rfl
  ·have ac:=CY ab h9
   refine AW.skip ?_
   refine ar _ ?_
   refine aS λer ax dm=>aR<|sA rfl rfl<|sA rfl rfl<|aZ<|ax _ ?_
   refine aS λes ay dn=>aR<|sQ rfl (DU rfl B7 iL rfl rfl)<|AE ac λF cg ch=>AL.step rfl rfl rfl (Cb (r:=qh F) (caps:=[]) (bs:=[.agg [qb d1.Nodes]]) rfl iL rfl ⟨.inl ⟨iL,rfl⟩,trivial⟩ λ_=>Zs<|cg)<|sA rfl rfl<|aZ<|ay _ ?_
   refine aS λcj az b0=>aS λet b1 dp=>aR<|sM rfl rfl<|sQ rfl (DM rfl H4.slice iL)<|sM rfl rfl<|aZ<|b1 _ ?_
   refine AW.block ?_
   refine BI ch λo3 b2 ck cl=>?_
   have J1:∀(m:List Int) (w:Nat→Nat),o3=.nrm m→cj ⟨[(1,.ptr 1 j 0 0),(3,.ptr 3 (j+1) 0 0),(6,.r<|.sl<|V.map<|AY .i64),(7,rI<|Z),(9,.own 5009<|w 0),(10,.cst<|.slice none 0 0),(11,qh F)],[(1,some<|.box j 24 [qb d1.Nodes]),(3,some<|.box (j+1) 26 [.own 25<|l 0]),(25,some<|.arr (l 0) 3 1<|q.map<|AY .i64),(5009,some<|.arr (w 0) 3 1<|m.map<|AY .i64)],(w 1),121⟩:=by
    intro m w e
    have cm:=ck _ e
    refine az _ ?_
    refine aS λcn b3 b4=>aS λeu b5 dq=>aR<|sQ rfl (fB rfl B8 iL fR rfl)<|sQ rfl (AU (a:=qb d1.Nodes) rfl B6 iL rfl rfl)<|sQ rfl (DM rfl Bh.slice iL)<|sM rfl rfl<|aZ<|b5 _ ?_
    refine AW.block ?_
    refine BI cm λo4 b6 cp cq=>?_
    have J2:∀(I:List Int) (a1:Nat→Nat),o4=.nrm I→cn ⟨[(3,.ptr 3 (j+1) 0 0),(6,.r<|.sl<|V.map<|AY .i64),(7,rI<|Z),(9,.own 5009<|w 0),(10,.own 5010<|a1 0)],[(3,some<|.box (j+1) 26 [.own 25<|l 0]),(25,some<|.arr (l 0) 3 1<|q.map<|AY .i64),(5009,some<|.arr (w 0) 3 1<|m.map<|AY .i64),(5010,some<|.arr (a1 0) 3 1<|I.map<|AY .i64)],(a1 1),121⟩:=by
     intro I a1 e
     have cr:=cp _ e
     refine b3 _ ?_
     refine aS λev b7 dr=>aR<|sM rfl rfl<|sQ rfl (A8 rfl iL iL)<|sM rfl rfl<|sV rfl rfl rfl (AU (a:=.own 25<|l 0) rfl Ri iL rfl rfl)<|sV rfl rfl rfl (AK rfl iL)<|AE cr λr5 cs ct=>?_
     refine AL.stepW (.one rfl rfl rfl) rfl rfl (DJ (r:=rB<|r5) (caps:=[]) (bs:=[.r<|.sl<|q.map<|AY .i64,.r<|.sl<|m.map<|AY .i64]) rfl iL rfl ⟨⟨_,(iR rfl),.one<|.own rfl⟩,⟨_,(iR rfl),.one<|.own rfl⟩,trivial⟩ (λhg=>Vf<|Af cs hg) rfl) ?_
     refine sQ rfl (BK rfl iL<|iR rfl)<|sM rfl rfl<|sV rfl rfl rfl (AK rfl iL)<|sV rfl rfl rfl (AK rfl iL)<|AE ct λr6 cu cv=>?_
     refine AL.stepW (.one rfl rfl rfl) rfl rfl (DJ (r:=rB<|r6) (caps:=[]) (bs:=[.r<|.sl<|V.map<|AY .i64,.r<|.sl<|I.map<|AY .i64]) rfl iL rfl ⟨⟨_,(iR rfl),.d rfl⟩,⟨_,(iR rfl),.one<|.own rfl⟩,trivial⟩ (λhg=>Vf<|Af cu hg) rfl) ?_
     refine sQ rfl (BK rfl iL<|iR rfl)<|sA rfl rfl<|aZ<|b7 _ ?_
     refine AW.ret ?_
     exact CG (P:=prog) (λ(r:Bool)=>rB<|r) cv iL<|.t<|.d rfl
    refine Ch (λ(x6:Int) (J:List Int) B=>⟨[(1,.ptr 1 j 0 0),(3,.ptr 3 (j+1) 0 0),(6,.r<|.sl<|V.map<|AY .i64),(7,rI<|Z),(9,.own 5009<|w 0),(10,.own 5010<|B 0),(11,qh F),(87,rI<|(d1.Nodes.length:Int)),(88,rI<|x6)],[(1,some<|.box j 24 [qb d1.Nodes]),(3,some<|.box (j+1) 26 [.own 25<|l 0]),(25,some<|.arr (l 0) 3 1<|q.map<|AY .i64),(5009,some<|.arr (w 0) 3 1<|m.map<|AY .i64),(5010,some<|.arr (B 0) 3 1<|J.map<|AY .i64)],(B 1),121⟩) (AH [(w 1),((w 1)+1)]) b6 (Ae.trans (Ae.trans (F9 10 5010 3 1 (by decide) rfl)<|by exact Ae.cv (e':=[(1,.ptr 1 j 0 0),(3,.ptr 3 (j+1) 0 0),(6,.r<|.sl<|V.map<|AY .i64),(7,rI<|Z),(9,.own 5009<|w 0),(10,.own 5010<|w 1),(11,qh F),(85,.ptr 1 j 0 0),(86,qb d1.Nodes),(87,rI<|(d1.Nodes.length:Int)),(88,rI<|0)]) (h':=[(1,some<|.box j 24 [qb d1.Nodes]),(3,some<|.box (j+1) 26 [.own 25<|l 0]),(25,some<|.arr (l 0) 3 1<|q.map<|AY .i64),(5009,some<|.arr (w 0) 3 1<|m.map<|AY .i64),(5010,some<|.arr (w 1) 3 1<|([]:List Int).map<|AY .i64)]) ⟨jL,jL,jL,jL,jL,jL,jL,jL,jL,jL,jL,trivial⟩ ⟨.inl rfl,.inl rfl,.inl rfl,.inl rfl,.inl rfl,trivial⟩ nL)<|by exact Ae.cv ⟨jL,jL,jL,jL,jL,jL,jL,jL,jL,trivial⟩ ⟨.inl rfl,.inl rfl,.inl rfl,.inl rfl,.inl rfl,trivial⟩ nL) ?_
    intro x6 J B v1 cw b8
    have ad:Hg d1 F x6 J=some v1:=cw;unfold Hg at ad
    refine aS λew b9 ds=>aR<|sQ rfl (Bz rfl iL iL)<|aZ<|b9 _ ?_
    refine aS λex ba dt=>?_
    refine aC rfl (λae=>?_) λae=>?_
    ·have af:=Cd ae ad
     refine AW.skip ?_
     refine ba _ ?_
     refine aS λcx bb a7=>AW.block ?_
     refine BI af λp1 cy cz d0=>?_
     have J3:∀(M:List Int) (i16:Nat→Nat),p1=.nrm M→cx ⟨[(1,.ptr 1 j 0 0),(3,.ptr 3 (j+1) 0 0),(6,.r<|.sl<|V.map<|AY .i64),(7,rI<|Z),(9,.own 5009<|w 0),(10,.own 5010<|i16 0),(11,qh F),(87,rI<|(d1.Nodes.length:Int)),(88,rI<|x6)],[(1,some<|.box j 24 [qb d1.Nodes]),(3,some<|.box (j+1) 26 [.own 25<|l 0]),(25,some<|.arr (l 0) 3 1<|q.map<|AY .i64),(5009,some<|.arr (w 0) 3 1<|m.map<|AY .i64),(5010,some<|.arr (i16 0) 3 1<|M.map<|AY .i64)],(i16 1),121⟩:=by
      intro M i16 e
      have d2:=cz _ e
      refine bb _ ?_
      refine aR<|AE d2 λx8 d3 d4=>sQ rfl (HO rfl iL iL λ_=>d3)<|sM rfl rfl ?_
      refine AL.nil ?_
      exact Lh.mk d4 (AH [(i16 0),(i16 1)])<|(by exact Ae.cv ⟨jL,jL,jL,jL,jL,jL,jL,jL,jL,trivial⟩ ⟨.inl rfl,.inl rfl,.inl rfl,.inl rfl,.inl rfl,trivial⟩ nL)
     refine aS λey bc du=>aR<|sM rfl rfl<|sA rfl rfl<|aZ<|bc _ ?_
     refine aS λez bd dv=>aR<|sQ rfl (fB rfl B8 iL fR rfl)<|sQ rfl (AU (a:=qb d1.Nodes) rfl B6 iL rfl rfl)<|sM rfl rfl<|AE cy λx9 d5 d6=>sQ rfl (A9 rfl Bh.slice iL iL (λ_=>rfl) λ_=>d5)<|sQ rfl (BH rfl Dp iL)<|sQ rfl (Bc (d:=.int .i64 x9.ID) rfl AI iL rfl)<|sA rfl rfl<|aZ<|bd _ ?_
     refine aS λf0 be dw=>?_
     refine AW.weak (s':=⟨[(1,.ptr 1 j 0 0),(3,.ptr 3 (j+1) 0 0),(6,.r<|.sl<|V.map<|AY .i64),(7,rI<|Z),(9,.own 5009<|w 0),(10,.own 5010<|B 0),(11,qh F),(14,rI<|x9.ID),(87,rI<|(d1.Nodes.length:Int)),(88,rI<|x6)],[(1,some<|.box j 24 [qb d1.Nodes]),(3,some<|.box (j+1) 26 [.own 25<|l 0]),(25,some<|.arr (l 0) 3 1<|q.map<|AY .i64),(5009,some<|.arr (w 0) 3 1<|m.map<|AY .i64),(5010,some<|.arr (B 0) 3 1<|J.map<|AY .i64)],(B 1),121⟩) (by exact Ae.cv ⟨jL,jL,jL,jL,jL,jL,jL,jL,jL,jL,trivial⟩ ⟨.inl rfl,.inl rfl,.inl rfl,.inl rfl,.inl rfl,trivial⟩ nL) ?_
     refine aR<|sM rfl rfl<|sM rfl rfl<|AE d6 λr7 d7 bf=>AL.step rfl rfl rfl (DJ (r:=rI<|r7) (caps:=[]) (bs:=[qh F,rI<|x9.ID]) rfl iL rfl ⟨⟨_,iL,.d rfl⟩,⟨_,iL,.d rfl⟩,trivial⟩ (λ_=>VW<|d7) rfl)<|sQ rfl (Bz rfl iL iL)<|aZ<|be _ ?_
     refine aC rfl (λag=>?_) λag=>?_
     ·have ah:=Cd ag bf
      refine aS λf2 bg dx=>aR<|sM rfl rfl<|sM rfl rfl<|AL.step rfl rfl rfl (Bo 103 rfl BL (f:=(AY .i64)) (l:=([x9.ID]:List Int)) ⟨rfl,⟨_,iL,rfl⟩,trivial⟩ rfl (λ_=>rfl) rfl)<|AE ah λd8 a2 d9=>AL.step rfl rfl rfl (DB rfl BL iL rfl (.inr<|.inl ⟨_,_,iL,rfl⟩) a2)<|sA rfl rfl<|aZ<|bg _ ?_
      refine aS λf3 bh dy=>aR<|sQ rfl (DU rfl B7 iL rfl rfl)<|sM rfl rfl<|AE d9 λr8 da bi=>AL.step rfl rfl rfl (DJ (r:=rB<|r8) (caps:=[]) (bs:=[.agg [qb d1.Nodes],rI<|x9.ID]) rfl iL rfl ⟨⟨_,iL,.g (cs:=[.sl<|d1.Nodes.map AX.row]) rfl rfl⟩,⟨_,iL,.d rfl⟩,trivial⟩ (λ_=>RU<|da) rfl)<|aZ<|bh _ ?_
      refine aC rfl (λai=>?_) λai=>?_
      ·have aj:=Cd ai bi
       refine aS λf4 bj dz=>?_
       refine AW.weak (s':=⟨[],[],((B 1)+2),121⟩) (by exact Ae.cv trivial trivial nL) ?_
       refine aR<|sA rfl rfl<|aZ<|bj _ ?_
       refine AW.ret ?_
       exact CG (P:=prog) (λ(r:Bool)=>rB<|r) (cq _<|b8 _ (n8<|d0 _ (n8 aj).symm).symm) iL<|.t<|.d rfl
      ·have aj:=CY ai bi
       refine AW.skip ?_
       exact a7 _ _ ((by exact Ae.cv ⟨jL,jL,jL,jL,jL,jL,jL,jL,jL,trivial⟩ ⟨.inl rfl,.inl rfl,.inl rfl,.inl rfl,.inl rfl,trivial⟩ nL))<|J3 _ (AH [((B 1)+1),((B 1)+2)]) (n8 aj).symm
     ·have ah:=CY ag bf
      refine AW.skip ?_
      exact a7 _ _ ((by exact Ae.cv ⟨jL,jL,jL,jL,jL,jL,jL,jL,jL,trivial⟩ ⟨.inl rfl,.inl rfl,.inl rfl,.inl rfl,.inl rfl,trivial⟩ nL))<|J3 _ (AH [(B 0),(B 1)]) (n8 ah).symm
    ·have af:=CY ae ad
     refine AW.exit ?_
     exact b4 _ _ ((by exact Ae.cv ⟨jL,jL,jL,jL,jL,trivial⟩ ⟨.inl rfl,.inl rfl,.inl rfl,.inl rfl,trivial⟩ nL))<|J2 _ (AH [(B 0),(B 1)])<|b8 _ (n8 af).symm
   refine Ch (λ(x3:Int) (O:List Int) i8=>⟨[(1,.ptr 1 j 0 0),(3,.ptr 3 (j+1) 0 0),(6,.r<|.sl<|V.map<|AY .i64),(7,rI<|Z),(9,.own 5009<|i8 0),(10,.cst<|.slice none 0 0),(11,qh F),(54,rI<|(F.length:Int)),(55,rI<|x3)],[(1,some<|.box j 24 [qb d1.Nodes]),(3,some<|.box (j+1) 26 [.own 25<|l 0]),(25,some<|.arr (l 0) 3 1<|q.map<|AY .i64),(5009,some<|.arr (i8 0) 3 1<|O.map<|AY .i64)],(i8 1),121⟩) (AH [((E+2)+(l 1)),(((E+2)+(l 1))+1)]) b2 (Ae.trans (Ae.trans (F9 9 5009 3 1 (by decide) rfl)<|by exact Ae.cv (e':=[(1,.ptr 1 j 0 0),(3,.ptr 3 (j+1) 0 0),(6,.r<|.sl<|V.map<|AY .i64),(7,rI<|Z),(8,rI<|f1),(9,.own 5009<|(E+2)+(l 1)),(10,.cst<|.slice none 0 0),(11,qh F),(31,.agg [qb d1.Nodes]),(32,rI<|f1),(33,rI<|f1),(34,rB<|(!(f1=0))),(51,.agg [qb d1.Nodes]),(52,qh F),(53,qh F),(54,rI<|(F.length:Int)),(55,rI<|0)]) (h':=[(1,some<|.box j 24 [qb d1.Nodes]),(3,some<|.box (j+1) 26 [.own 25<|l 0]),(25,some<|.arr (l 0) 3 1<|q.map<|AY .i64),(5009,some<|.arr ((E+2)+(l 1)) 3 1<|([]:List Int).map<|AY .i64)]) ⟨jL,jL,jL,jL,jL,jL,jL,jL,jL,jL,jL,jL,jL,jL,jL,jL,jL,trivial⟩ ⟨.inl rfl,.inl rfl,.inl rfl,.inl rfl,trivial⟩ nL)<|by exact Ae.cv ⟨jL,jL,jL,jL,jL,jL,jL,jL,jL,trivial⟩ ⟨.inl rfl,.inl rfl,.inl rfl,.inl rfl,trivial⟩ nL) ?_
   intro x3 O i8 v2 db bk
   have ak:Hv d1 F x3 O=some v2:=db;unfold Hv at ak
   refine aS λf5 bl e3=>aR<|sQ rfl (Bz rfl iL iL)<|aZ<|bl _ ?_
   refine aS λf6 bm e4=>?_
   refine aC rfl (λal=>?_) λal=>?_
   ·have an:=Cd al ak
    refine AW.skip ?_
    refine bm _ ?_
    refine aS λf7 bn e5=>AW.block<|aS λf8 bo e6=>aR<|sM rfl rfl<|sA rfl rfl<|aZ<|bo _ ?_
    refine aS λf9 bp e7=>?_
    refine TG [0] [1,2,3,4,5,6,7,8,9,10] [] 11 BV (by kernel_rfl) rfl rfl rfl rfl rfl ?_
    refine Fa.move rfl rfl rfl rfl ?_
    refine Fa.nil ?_
    refine AF.step rfl rfl rfl (AK rfl iL) ?_
    refine AF.step rfl rfl rfl (AK rfl iL) ?_
    refine AE an λT X dc=>?_
    refine AF.step rfl rfl rfl (A9 rfl H4.slice iL iL (λ_=>rfl) λ_=>X) ?_
    refine AF.step rfl rfl rfl (BH rfl I3 iL) ?_
    refine AF.step rfl rfl rfl (Bc (d:=.int .i64 T.ID) rfl AI iL rfl) ?_
    refine AF.step rfl rfl rfl (AK rfl iL) ?_
    refine AF.step rfl rfl rfl (AK rfl iL) ?_
    refine AF.step rfl rfl rfl (A9 rfl H4.slice iL iL (λ_=>rfl) λ_=>X) ?_
    refine AF.step rfl rfl rfl (BH rfl mZ iL) ?_
    refine AF.step rfl rfl rfl (Bc (d:=.int .i64 T.Parent) rfl AI iL rfl) ?_
    refine AF.nil ?_
    refine AA.nil ?_
    refine AL.step rfl rfl rfl (Bo 69 rfl BL (f:=(AY .i64)) (l:=([T.ID,T.Parent]:List Int)) ⟨rfl,⟨_,iL,rfl⟩,rfl,⟨_,iL,rfl⟩,trivial⟩ rfl (λ_=>rfl) rfl)<|AE dc λa0 a6 dd=>AL.step rfl rfl rfl (DB rfl BL iL rfl (.inr<|.inl ⟨_,_,iL,rfl⟩) a6)<|sA rfl rfl<|aZ<|bp _ ?_
    refine aS λfa bq e8=>?_
    refine AW.weak (s':=⟨[(1,.ptr 1 j 0 0),(3,.ptr 3 (j+1) 0 0),(6,.r<|.sl<|V.map<|AY .i64),(7,rI<|Z),(9,.own 5009<|(i8 1)+1),(10,.cst<|.slice none 0 0),(11,qh F),(12,rI<|x3),(54,rI<|(F.length:Int)),(55,rI<|x3)],[(1,some<|.box j 24 [qb d1.Nodes]),(3,some<|.box (j+1) 26 [.own 25<|l 0]),(25,some<|.arr (l 0) 3 1<|q.map<|AY .i64),(5009,some<|.arr ((i8 1)+1) 3 1<|a0.map<|AY .i64)],((i8 1)+2),121⟩) (by exact Ae.cv ⟨jL,jL,jL,jL,jL,jL,jL,jL,jL,jL,trivial⟩ ⟨.inl rfl,.inl rfl,.inl rfl,.inl rfl,trivial⟩ nL) ?_
    refine XA BV (by kernel_rfl) ?_
    refine AQ.step rfl rfl rfl (DU rfl B7 iL rfl rfl)<|AQ.step rfl rfl rfl (AK rfl iL)<|AQ.step rfl rfl rfl (AK rfl iL)<|AQ.step rfl rfl rfl (A9 rfl H4.slice iL iL (λ_=>rfl) λ_=>X)<|AQ.step rfl rfl rfl (BH rfl I3 iL)<|AQ.step rfl rfl rfl (Bc (d:=.int .i64 T.ID) rfl AI iL rfl)<|AE dd λr9 de br=>?_
    refine AQ.stepC rfl rfl rfl (r:=rB<|r9) (caps:=[]) (bs:=[.agg [qb d1.Nodes],rI<|T.ID]) rfl iL rfl ⟨⟨_,iL,.g (cs:=[.sl<|d1.Nodes.map AX.row]) rfl rfl⟩,⟨_,iL,.d rfl⟩,trivial⟩ (λ_=>RU<|de) rfl ?_
    refine AQ.step rfl rfl rfl (AK rfl iL)<|AQ.step rfl rfl rfl (AK rfl iL)<|AQ.step rfl rfl rfl (A9 rfl H4.slice iL iL (λ_=>rfl) λ_=>X)<|AQ.step rfl rfl rfl (BH rfl P2 iL)<|AQ.step rfl rfl rfl (Bc (d:=.bool T.Visible) rfl Em iL rfl)<|AQ.step rfl rfl rfl (WO rfl underlying4 iL iL) ?_
    refine AQ.nil ?_
    refine bq _ ?_
    refine aC rfl (λao=>?_) λao=>?_
    ·have aq:=Cd ao br
     refine aS λfb bs e9=>?_
     refine AW.weak (s':=⟨[],[],((i8 1)+2),121⟩) (by exact Ae.cv trivial trivial nL) ?_
     refine aR<|sA rfl rfl<|aZ<|bs _ ?_
     refine AW.ret ?_
     exact CG (P:=prog) (λ(r:Bool)=>rB<|r) (cl _<|bk _ (n8 aq).symm) iL<|.t<|.d rfl
    ·have aq:=CY ao br
     refine AW.skip ?_
     refine bn _ ?_
     refine AW.weak (s':=⟨[(1,.ptr 1 j 0 0),(3,.ptr 3 (j+1) 0 0),(6,.r<|.sl<|V.map<|AY .i64),(7,rI<|Z),(9,.own 5009<|(i8 1)+1),(10,.cst<|.slice none 0 0),(11,qh F),(54,rI<|(F.length:Int)),(55,rI<|x3)],[(1,some<|.box j 24 [qb d1.Nodes]),(3,some<|.box (j+1) 26 [.own 25<|l 0]),(25,some<|.arr (l 0) 3 1<|q.map<|AY .i64),(5009,some<|.arr ((i8 1)+1) 3 1<|a0.map<|AY .i64)],((i8 1)+2),121⟩) (by exact Ae.cv ⟨jL,jL,jL,jL,jL,jL,jL,jL,jL,trivial⟩ ⟨.inl rfl,.inl rfl,.inl rfl,.inl rfl,trivial⟩ nL) ?_
     refine aR<|AE aq λfc bt df=>sQ rfl (HO rfl iL iL λ_=>bt)<|sM rfl rfl ?_
     refine AL.nil ?_
     exact Lh.mk df (AH [((i8 1)+1),((i8 1)+2)])<|(by exact Ae.cv ⟨jL,jL,jL,jL,jL,jL,jL,jL,jL,trivial⟩ ⟨.inl rfl,.inl rfl,.inl rfl,.inl rfl,trivial⟩ nL)
   ·have an:=CY al ak
    refine AW.exit ?_
    exact b0 _ _ ((by exact Ae.cv ⟨jL,jL,jL,jL,jL,jL,jL,trivial⟩ ⟨.inl rfl,.inl rfl,.inl rfl,.inl rfl,trivial⟩ nL))<|J1 _ (AH [(i8 0),(i8 1)])<|bk _ (n8 an).symm



end Go.Proofs.YtmogkkigacadpaaGreatDoor.Al
