/- Walks, as printed. -/
import Derived.Test.YtgcalnmhoifpoaaGreatDoorWlk351
import Derived.Test.YtgcalnmhoifpoaaGreatDoorProg
set_option linter.all false
set_option maxHeartbeats 4000000
set_option maxRecDepth 20000
set_option linter.unusedVariables false
namespace Go.Proofs.YtgcalnmhoifpoaaGreatDoor.Al
open Go.Proofs Go.Proofs.Tryz
theorem rp{j r}(h:PC j=some r):AS prog 110 (XE j) (rI r):=by
 unfold PC at h
 refine mF func110 ntmps110 R λA=>aU<|sS R (A2 (cs:=(DZ j)) 1 R iL R R)<|mA R<|aZ<|aT λc2=>aU<|lF GT AJ R R<|AG h λr1 a8 h1=>cL (DX<|a8) R<|sQ R (A3 R iL)<|mM R<|vF GO AJ R R<|AG h1 λr2 aa h2=>vL (λhg=>DX<|AU aa hg) R<|vQ R (A3 R<|iR R)<|xO R<|aZ<|cI R h2 (λh3=>?_) λh3=>?_
 ·exact zI h3 R id
 refine Zd<|c2 _<|aT λc5=>aT λc6=>aG [1] [1] ?_
 refine aR<|lF F2 FR R R<|lF GT AJ R R<|lF GO AJ R R<|AG h3 λe1 ab h4=>cL (eQ<|ab) R<|mA R<|aZ<|c6 _<|aU<|mM R<|xU R<|aZ<|cI R h4 (λh5=>?_) λh5=>?_
 ·refine aT λc8=>aF [3] ?_
  exact aR<|mM R<|mA R<|aZ<|c8 _<|Zj<|yI h5 R
 refine Zd<|c5 _<|aS λK9 c9 ac=>aT λad=>aG [1] [1] ?_
 refine aR<|lF Fl D2 R R<|xL Cp R<|mM R<|aZ<|ad _<|Zf<|BP h5 λo1 U ae w=>?_
 have J1:∀(u2:Unit) (i5:NN),o1=.nrm u2→K9 ⟨[],[],(i5 0),104⟩:=by
  intro u2 i5 e
  have h6:=ae _ e
  exact c9 _<|zI h6 R id
 refine Zz (λ(B:Int) T=>⟨[(1,.ptr 1 A 0 0),(29,rL j.Merges),(30,rI B)],[(1,some<|.box A 43<|DZ j)],(T 0),104⟩) (AH [(A+1)]) U wk ?_
 intro B T v1 af u
 have h7:Pj j B=some v1:=af;unfold Pj at h7
 refine aU<|xS R<|aZ<|aT λag=>cI R h7 (λh8=>?_) λh8=>?_
 ·refine Zd<|ag _<|aS λah ai V=>Zf<|aU<|mM R<|mA R<|aZ<|aU<|lF Fl D2 R R<|mM R<|AG h8 λq aj h9=>xI Cp R aj<|xB ((BR q)) El R<|sS R (BF (cs:=[rI 0,rI 0,rI 0,rI 0]) 5 R dT R R)<|Zk R R (Aj (ds:=(BR q)) R fL iL R iL R R R R)<|aZ<|aT λak=>aU<|xC El R<|lF GT AJ R R<|lF GO AJ R R<|AG h9 λr3 al an=>cL (Wm<|al) R<|sQ R (A3 R iL)<|aZ<|cI R an (λC=>?_) λC=>?_
  ·exact zI (w _<|xH u C) R id
  refine Zd<|ak _<|aT λao=>aT λaq=>aG [1,4,5,29,30] [1,5] ?_
  refine aR<|lF HP AJ R R<|xQ R<|mM R<|vF Hj AJ R R<|vQ R (Am R (iR R) iL)<|xN R<|aZ<|aq _<|cI R C (λE=>?_) λE=>?_
  ·exact zI (w _<|xH u E) R id
  refine Zd<|ao _<|aT λar=>aT λav=>?_
  refine ZA BA (by kernel_rfl) ?_
  refine qP R (AK R iL)<|qP R (A9 R iL iL)<|qP R (AK R iL)<|qO R (fB R EC iL fR R)<|qO R (AZ (a:=rI q.Row) R AJ (iR R) R R)<|qO R (fB R Fl iL fR R)<|qO R (AZ (a:=qd j.Merges) R D2 (iR R) R R)<|qO R (AK R iL)<|AG E λx5 X aw=>qO R (CG R (iR R) iL<|AU X)<|AG aw λx6 Y ax=>qO R (Az R Cp.slice (iR R) (iR R) (λ_=>R)<|AU Y)<|qO R (A4 R EC<|iR R)<|qO R (Bc (d:=.int .i64 x6.Row) R AJ (iR R) R)<|qO R (B5 R (iR R)<|iR R)<|qO R (AK R<|iR R)<|qT R (fB R EC iL fR R)<|qT R (AZ (a:=rI q.Row) R AJ (iR R) R R)<|qT R (fB R Fl iL fR R)<|qT R (AZ (a:=qd j.Merges) R D2 (iR R) R R)<|qT R (AK R iL)<|qT R (CG R (iR R) iL λh=>AU X (yV.1 h).1)<|qT R (Az R Cp.slice (iR R) (iR R) (λ_=>R) λh=>AU Y (yV.1 h).1)<|qT R (A4 R EC<|iR R)<|qT R (Bc (d:=.int .i64 x6.Row) R AJ (iR R) R)<|qT R (Am R (iR R)<|iR R)<|qT R (AK R<|iR R)<|qT R (fB R Eg iL fR R)<|qT R (AZ (a:=rI q.Col) R AJ (iR R) R R)<|qT R (fB R Fl iL fR R)<|qT R (AZ (a:=qd j.Merges) R D2 (iR R) R R)<|qT R (AK R iL)<|AG ax λx7 ay az=>qT R (CG R (iR R) iL<|AU ay)<|AG az λx8 b0 b1=>qT R (Az R Cp.slice (iR R) (iR R) (λ_=>R)<|AU b0)<|qT R (A4 R Eg<|iR R)<|qT R (Bc (d:=.int .i64 x8.Col) R AJ (iR R) R)<|qT R (FG R (iR R)<|iR R)<|qT R (BI R (iR R)<|iR R)<|qO R (CW R (iR R)<|iR R)<|qP R (BI R iL<|iR R)<|AQ.nil<|av _<|cI R b1 (λF=>?_) λF=>?_
  ·exact zI (w _<|xH u F) R id
  refine Zd<|ar _<|aT λb2=>aG [1,4,5,29,30] [1,5] ?_
  refine aR<|mM R<|mM R<|aZ<|b2 _<|Zf<|BP F λo2 Z b3 b4=>?_
  have J2:∀(u4:Unit) (I:NN),o2=.nrm u4→ah ⟨[(1,.ptr 1 A 0 0),(29,rL j.Merges),(30,rI B)],[(1,some<|.box A 43<|DZ j)],(I 0),104⟩:=by
   intro u4 I e
   have b5:=b3 _ e
   exact ai _<|aR<|AG b5 λbg a0 b6=>xA R a0<|mM R<|Zh<|Zx b6 (AH [(I 0)]) wk
  refine Zz (λ(J:Int) i8=>⟨[(1,.ptr 1 A 0 0),(5,.ptr 5 (T 0) 0 0),(29,rL j.Merges),(30,rI B),(91,rI B),(92,rI J)],[(1,some<|.box A 43<|DZ j),(5,some<|.box (T 0) 163<|BR q)],(i8 0),104⟩) (AH [((T 0)+1)]) Z wk ?_
  intro J i8 v2 b7 a1
  have a2:PL j B q J=some v2:=b7;unfold PL at a2
  refine aU<|xS R<|aZ<|aT λb8=>cI R a2 (λM=>?_) λM=>?_
  ·refine Zd<|b8 _<|aT λb9=>Zf<|aU<|mM R<|mA R<|aZ<|aT λba=>?_
   refine ZA BA (by kernel_rfl) ?_
   refine qP R (FT R El iL R R)<|qP R (fB R Fl iL fR R)<|qP R (AZ (a:=qd j.Merges) R D2 iL R R)<|qP R (AK R iL)<|AG M λl a6 bb=>qP R (Az R Cp.slice iL iL (λ_=>R) λ_=>a6)<|qP R (Ci (cs:=(BR l)) R El iL R R)<|AG bb λr4 bc bd=>Fw R R R (r:=rB r4) (caps:=[]) (bs:=[.agg<|BR q,.agg<|BR l]) R iL R ⟨⟨_,iL,.g (cs:=[.int .i64 q.Row,.int .i64 q.Col,.int .i64 q.H,.int .i64 q.W]) R R⟩,⟨_,iL,.g (cs:=[.int .i64 l.Row,.int .i64 l.Col,.int .i64 l.H,.int .i64 l.W]) R R⟩,Za⟩ (λ_=>uK<|bc) R<|AQ.nil<|ba _<|cI R bd (λO=>?_) λO=>?_
   ·refine aT λbe=>aF [] ?_
    exact aR<|mA R<|aZ<|be _<|Zj<|yI (w _<|u _ (Zc<|b4 _<|xH a1 O).symm) R
   refine Zd<|b9 _<|aG [1,5,29,30,91,92] [1,5] ?_
   exact aR<|AG O λbh a7 bf=>xA R a7<|mM R<|Zh<|Zx bf (AH [(i8 0)]) wk
  exact Zn<|V _ _ wk<|J2 _ (AH [(i8 0)])<|xH a1 M
 exact Zn<|ac _ _ wk<|J1 _ (AH [(T 0)])<|xH u h8
theorem ic{k j r}(h:PF k j=some r):AS prog 111 [rI k,qe j] (rI r):=by
 unfold PF at h
 refine mF func111 ntmps111 R λY=>aU<|mA R<|aZ<|aS λZ c2 A=>aU<|mM R<|xL Cm R<|mM R<|aZ<|Zf<|BP h λo1 l B C=>?_
 have J1:∀(T:Unit) (U:NN),o1=.nrm T→Z ⟨[],[],(U 0),43⟩:=by
  intro T U e
  have h1:=B _ e
  exact c2 _<|zI h1 R id
 refine Zz (λ(E:Int) w=>⟨[(0,rI k),(1,qe j),(7,rL j),(8,rI E)],[],(w 0),43⟩) (AH [Y]) l wk ?_
 intro E w v1 F q
 have V:Nr k j E=some v1:=F;unfold Nr at V
 refine aU<|xS R<|aZ<|aT λc6=>cI R V (λI=>?_) λI=>?_
 ·refine Zd<|c6 _<|aT λc7=>Zf<|aU<|mM R<|mA R<|aZ<|aT λc9=>aR<|mM R<|xQ R<|mM R<|vM R<|vM R<|AG I λX u h4=>vQ R (Az R Cm.slice (iR R) (iR R) (λ_=>R)<|AU u)<|vQ R (A4 R HV<|iR R)<|vQ R (Bc (d:=.str X.Text) R A6 (iR R) R)<|vQ R (DJ R (iR R) iL)<|vQ R (AK R<|iR R)<|wQ R (AK R iL)<|wQ R (AK R iL)<|wQ R (Az R Cm.slice (iR R) (iR R) (λ_=>R) λh=>AU u (yV.1 h).1)<|wQ R (A4 R Hf<|iR R)<|wQ R (Bc (d:=.sl<|X.Attrs.map AC.row) R BD (iR R) R)<|wQ R (Bk R Ac.slice<|iR R)<|wQ R (A9 R (iR R) iL)<|vQ R (CW R (iR R)<|iR R)<|xN R<|mM R<|vM R<|vQ R (Am R (iR R) iL)<|vQ R (AK R<|iR R)<|wQ R (AK R iL)<|wQ R (AK R iL)<|AG h4 λx5 J h5=>wQ R (Az R Cm.slice (iR R) (iR R) (λ_=>R)<|AU J)<|wQ R (A4 R Fb<|iR R)<|wQ R (Bc (d:=.int .i64 x5.Ref) R AJ (iR R) R)<|wQ R (Ct R (iR R) iL)<|vQ R (BI R (iR R)<|iR R)<|xO R<|aZ<|c9 _<|cI R h5 (λM=>?_) λM=>?_
  ·exact zI (C _<|xH q M) R id
  refine Zd<|c7 _<|aF [0,1,7,8] ?_
  exact aR<|AG M λx6 O h7=>xA R O<|mM R<|Zh<|Zx h7 (AH [(w 0)]) wk
 exact Zn<|A _ _ wk<|J1 _ (AH [(w 0)])<|xH q I
theorem oc{l r}(h:OR l=some r):AS prog 116 [rS l] (rB r):=by
 unfold OR at h
 refine mF func116 ntmps116 R λY=>aU<|mA R<|aZ<|aS λZ c2 B=>aU<|mM R<|sQ R (Ds R underlying9 iL)<|mM R<|aZ<|Zf<|BP h λo1 q C E=>?_
 have J1:∀(U:Unit) (V:NN),o1=.nrm U→Z ⟨[(0,rS l)],[],(V 0),36⟩:=by
  intro U V e
  have h1:=C _ e
  exact c2 _<|aU<|mM R<|sQ R (Ds R underlying9 iL)<|sQ R (C1 R iL iL)<|mM R<|vM R<|vQ R (Ds R underlying9<|iR R)<|vQ R (FG R (iR R) iL)<|xN R<|mM R<|vM R<|vM R<|vQ R (Ds R underlying9<|iR R)<|AG h1 λx4 F h2=>vQ R (CG R (iR R) iL<|AU F)<|AG h2 λa0 u h3=>vQ R (DL R underlying9 (iR R) (iR R)<|AU u)<|vQ R (Ct R (iR R) iL)<|xN R<|mA R<|aZ<|Zj<|yB h3 R
 refine Zz (λ(I:Int) A=>⟨[(0,rS l),(5,rL l),(6,rI I)],[],(A 0),36⟩) (AH [Y]) q wk ?_
 intro I A v1 J w
 have X:LC l I=some v1:=J;unfold LC at X
 refine aU<|xS R<|aZ<|aT λc6=>cI R X (λM=>?_) λM=>?_
 ·refine Zd<|c6 _<|aT λc7=>Zf<|aU<|mM R<|mA R<|aZ<|aU<|mM R<|mM R<|AG M λa1 j h6=>sQ R (DL R underlying9 iL iL λ_=>j)<|xS R<|mM R<|vM R<|vM R<|vQ R (DL R underlying9 (iR R) (iR R) λ_=>j)<|vQ R (A9 R (iR R) iL)<|xO R<|aZ<|cI R h6 (λO=>?_) λO=>?_
  ·exact zB (E _<|xH w O) R id
  refine Zd<|c7 _<|aF [0,5,6] ?_
  exact aR<|AG O λx5 T h8=>xA R T<|mM R<|Zh<|Zx h8 (AH [(A 0)]) wk
 exact Zn<|B _ _ wk<|J1 _ (AH [(A 0)])<|xH w M
theorem rh{j l r}(h:MC j l=some r):AS prog 117 [.agg<|Cf j,.agg<|Cf l] (rB r):=by
 unfold MC at h
 exact mF func117 ntmps117 R λq=>aU<|sS R (A2 (cs:=(Cf j)) 2 R iL R R)<|sS R (A2 (cs:=(Cf l)) 3 R iL R R)<|mA R<|aZ<|aU<|lF IG AJ R R<|lF IG AJ R R<|xS R<|mM R<|vF IG AJ R R<|vF IG AJ R R<|vQ R (Am R (iR R)<|iR R)<|vQ R (AK R<|iR R)<|wQ R (fB R KB iL fR R)<|wQ R (AZ (a:=rI j.Site) R AJ (iR R) R R)<|wQ R (fB R KB iL fR R)<|wQ R (AZ (a:=rI l.Site) R AJ (iR R) R R)<|wQ R (B5 R (iR R)<|iR R)<|vQ R (BI R (iR R)<|iR R)<|xO R<|mA R<|aZ<|Zj<|yB h R
theorem Ym{B r}(h:Lw B=some r):AS prog 63 [qf B] (rI r):=by
 unfold Lw at h
 refine mF func63 ntmps63 R λn0=>aU<|mA R<|aZ<|aS λK2 c2 a0=>aU<|mM R<|xL Eu R<|mM R<|aZ<|Zf<|BP h λo1 X a1 l=>?_
 have J1:∀(u2:Unit) (i5:NN),o1=.nrm u2→K2 ⟨[],[],(i5 0),91⟩:=by
  intro u2 i5 e
  have h1:=a1 _ e
  exact c2 _<|zI h1 R id
 refine Zz (λ(Y:Int) C=>⟨[(0,qf B),(6,rL B),(7,rI Y)],[],(C 0),91⟩) (AH [n0]) X wk ?_
 intro Y C v1 a2 j
 have h2:Pi B Y=some v1:=a2;unfold Pi at h2
 refine aU<|xS R<|aZ<|aT λc6=>cI R h2 (λh3=>?_) λh3=>?_
 ·refine Zd<|c6 _<|aT λc7=>Zf<|aU<|mM R<|mA R<|aZ<|aU<|mM R<|mM R<|AG h3 λu a6 h4=>xI Eu R a6<|xB ((Cf u)) Ig R<|sS R (BF (cs:=[rI 0,rI 0,rI 0,rI 0,rI 0,.r<|.str [],.r<|.str [],.r<|.str []]) 4 R ZS R R)<|Zk R R (Aj (ds:=(Cf u)) R YQ iL R iL R R R R)<|aZ<|aT λa7=>aU<|lF Gy AJ R R<|xU R<|mM R<|vF Gy AJ R R<|vQ R (Ct R (iR R) iL)<|xN R<|aZ<|cI R h4 (λh5=>?_) λh5=>?_
  ·exact zI (l _<|xH j h5) R id
  refine Zd<|a7 _<|aT λa8=>aT λaa=>aG [0,3,4,6,7] [4] ?_
  refine aR<|lF IG AJ R R<|AG h5 λr1 ab h6=>cL (DX<|ab) R<|sQ R (A3 R iL)<|mM R<|vF KB AJ R R<|AG h6 λr2 ac h7=>vL (λhg=>DX<|AU ac hg) R<|vQ R (A3 R<|iR R)<|xO R<|mM R<|vF W9 AJ R R<|AG h7 λr3 ad h8=>vL (λhg=>DX<|AU ad hg) R<|vQ R (A3 R<|iR R)<|xO R<|aZ<|aa _<|cI R h8 (λh9=>?_) λh9=>?_
  ·exact zI (l _<|xH j h9) R id
  refine Zd<|a8 _<|aS λae af A=>aU<|lF Gy AJ R R<|xQ R<|aZ<|BP h9 λp1 Z ag q=>?_
  have J2:∀(u3:Unit) (i6:NN),p1=.nrm u3→ae ⟨[(0,qf B),(3,rI Y),(4,.ptr 4 (C 0) 0 0),(6,rL B),(7,rI Y)],[(4,some<|.box (C 0) 165<|Cf u)],(i6 0),91⟩:=by
   intro u3 i6 e
   have ah:=ag _ e
   refine af _<|aT λai=>?_
   refine ZA BA (by kernel_rfl) ?_
   refine qP R (AK R iL)<|qP R (A9 R iL iL)<|qP R (AK R iL)<|qO R (AK R iL)<|qO R (AK R iL)<|AG ah λx5 aj ak=>qO R (CG R (iR R) iL<|AU aj)<|AG ak λw al an=>qO R (Az R Eu.slice (iR R) (iR R) (λ_=>R)<|AU al)<|qO R (Ci (cs:=(Cf w)) R Ig (iR R) R R)<|qO R (FT R Ig iL R R)<|AG an λr4 ao aq=>Q2 (.one R R R) R R (r:=rB r4) (caps:=[]) (bs:=[.agg<|Cf w,.agg<|Cf u]) R iL R ⟨⟨_,(iR R),.g (cs:=[.int .i64 w.Clock,.int .i64 w.Site,.int .i64 w.Kind,.int .i64 w.Item,.int .i64 w.Parent,.str w.Place,.str w.Name,.str w.Value]) R R⟩,⟨_,(iR R),.g (cs:=[.int .i64 u.Clock,.int .i64 u.Site,.int .i64 u.Kind,.int .i64 u.Item,.int .i64 u.Parent,.str u.Place,.str u.Name,.str u.Value]) R R⟩,Za⟩ (λhg=>rh<|AU ao hg) R<|qO R (A3 R<|iR R)<|qP R (BI R iL<|iR R)<|AQ.nil<|ai _<|cI R aq (λE=>?_) λE=>?_
   ·exact zI (l _<|xH j E) R id
   exact Zd<|c7 _<|aR<|AG E λx7 ar av=>xA R ar<|mM R<|Zh<|Zx av (AH [(i6 0)]) wk
  refine aC R (λF=>?_) λF=>?_
  ·have I:=CF F Z
   refine aT λaw=>aT λax=>aG [0,3,4,6,7] [4] ?_
   refine aR<|lF RG A6 R R<|sQ R (DJ R iL iL)<|mM R<|vF L7 A6 R R<|vQ R (DJ R (iR R) iL)<|xO R<|aZ<|ax _<|cI R I (λJ=>?_) λJ=>?_
   ·refine aT λay=>aF [] ?_
    exact aR<|mA R<|aZ<|ay _<|Zj<|yI (l _<|j _ (Zc<|q _ (Zc J).symm).symm) R
   refine Zd<|aw _<|aT λaz=>aU<|lF Oo AJ R R<|AG J λr5 b0 b1=>cL (DX<|b0) R<|sQ R (A3 R iL)<|aZ<|cI R b1 (λM=>?_) λM=>?_
   ·refine aT λb2=>aF [] ?_
    exact aR<|mA R<|aZ<|b2 _<|Zj<|yI (l _<|j _ (Zc<|q _ (Zc M).symm).symm) R
   refine Zd<|az _<|aT λb3=>aG [0,3,4,6,7] [4] ?_
   refine aR<|lF TX A6 R R<|AG M λr6 b4 b5=>cL (oc<|b4) R<|sQ R (A3 R iL)<|aZ<|b3 _<|cI R b5 (λO=>?_) λO=>?_
   ·refine aT λb6=>aF [] ?_
    exact aR<|mA R<|aZ<|b6 _<|Zj<|yI (l _<|j _ (Zc<|q _ (Zc O).symm).symm) R
   exact Zd<|A _ _ wk<|J2 _ (AH [((C 0)+1)]) (Zc O).symm
  ·have I:=CA F Z
   refine aT λb7=>aT λb8=>aG [0,3,4,6,7] [4] ?_
   refine aR<|lF Oo AJ R R<|xU R<|mM R<|vF TX A6 R R<|vQ R (DJ R (iR R) iL)<|xO R<|aZ<|b8 _<|cI R I (λT=>?_) λT=>?_
   ·refine aT λb9=>aF [] ?_
    exact aR<|mA R<|aZ<|b9 _<|Zj<|yI (l _<|j _ (Zc<|q _ (Zc T).symm).symm) R
   refine Zd<|b7 _<|aT λba=>aU<|lF RG A6 R R<|AG T λr7 bb bc=>cL (Zi<|bb) R<|sQ R (A3 R iL)<|aZ<|cI R bc (λU=>?_) λU=>?_
   ·refine aT λbd=>aF [] ?_
    exact aR<|mA R<|aZ<|bd _<|Zj<|yI (l _<|j _ (Zc<|q _ (Zc U).symm).symm) R
   refine Zd<|ba _<|aT λbe=>aG [0,3,4,6,7] [4] ?_
   refine aR<|lF L7 A6 R R<|sQ R (DJ R iL iL)<|mM R<|vF L7 A6 R R<|AG U λr8 bf bg=>vL (λhg=>Uv<|AU bf hg) R<|vQ R (A3 R<|iR R)<|xN R<|aZ<|be _<|cI R bg (λV=>?_) λV=>?_
   ·refine aT λbh=>aF [] ?_
    exact aR<|mA R<|aZ<|bh _<|Zj<|yI (l _<|j _ (Zc<|q _ (Zc V).symm).symm) R
   exact Zd<|A _ _ wk<|J2 _ (AH [((C 0)+1)]) (Zc V).symm
 exact Zn<|a0 _ _ wk<|J1 _ (AH [(C 0)])<|xH j h3
theorem ZH{n1 r}(h:Mf n1=some r):AS prog 60 (NG n1) (rI r):=by
 unfold Mf at h
 refine mF func60 ntmps60 R λn0=>aU<|sS R (A2 (cs:=(Bp n1)) 1 R iL R R)<|mA R<|aZ<|aT λc2=>aU<|lF Ei AJ R R<|AG h λr1 E h1=>cL (DX<|E) R<|sQ R (A3 R iL)<|aZ<|cI R h1 (λF=>?_) λF=>?_
 ·exact zI F R id
 refine Zd<|c2 _<|aT λc5=>aU<|lF Cy AJ R R<|AG F λr2 I h3=>cL (DX<|I) R<|sQ R (A3 R iL)<|mM R<|vF Ei AJ R R<|vQ R (Am R (iR R) iL)<|vQ R (AK R<|iR R)<|wQ R (fB R Cy iL fR R)<|wQ R (AZ (a:=rI n1.Kind) R AJ (iR R) R R)<|wQ R (Ct R (iR R) iL)<|vQ R (BI R (iR R)<|iR R)<|xO R<|mM R<|vF Ei AJ R R<|vQ R (Ct R (iR R) iL)<|vQ R (AK R<|iR R)<|wQ R (fB R Cy iL fR R)<|wQ R (AZ (a:=rI n1.Kind) R AJ (iR R) R R)<|wQ R (Am R (iR R) iL)<|vQ R (BI R (iR R)<|iR R)<|xO R<|aZ<|cI R h3 (λJ=>?_) λJ=>?_
 ·exact zI J R id
 refine Zd<|c5 _<|aT λc8=>aT λc9=>aG [1] [1] ?_
 refine aR<|lF TZ BD R R<|AG J λe1 M h5=>cL (O1<|M) R<|mA R<|aZ<|c9 _<|aU<|mM R<|xU R<|aZ<|cI R h5 (λO=>?_) λO=>?_
 ·exact aU<|mM R<|mA R<|aZ<|Zj<|yI O R
 refine Zd<|c8 _<|aU<|lF Cy AJ R R<|AG O λr3 w h7=>cL (R8<|w) R<|mM R<|vF Cy AJ R R<|AG h7 λr4 T h8=>vL (λhg=>oK<|AU T hg) R<|xO R<|mA R<|aZ<|aT λU=>aT λV=>aG [1,4] [1] ?_
 refine aR<|lF FP B9 R R<|xL Ah R<|sQ R (A9 R iL iL)<|mM R<|vM R<|vQ R (A3 R<|iR R)<|xN R<|mM R<|vQ R (fB R Ga iL fR R)<|vQ R (HQ (ds:=(DZ n1.Grid)) R ME (iR R) R R R)<|AG h8 λr5 X h9=>vL (λhg=>tN<|AU X hg) R<|vQ R (A3 R<|iR R)<|vQ R (AK R<|iR R)<|wQ R (fB R Cy iL fR R)<|wQ R (AZ (a:=rI n1.Kind) R AJ (iR R) R R)<|AG h9 λr6 Y Z=>AL.stepW (.two R R R) R R (Dy (r:=rB r6) (caps:=[]) (bs:=[rI n1.Kind]) R iL R ⟨⟨_,(iR R),.d R⟩,Za⟩ (λhg=>eB<|AU Y hg) R)<|wQ R (A3 R<|iR R)<|vQ R (BI R (iR R)<|iR R)<|xO R<|mM R<|vF JQ HM R R<|vQ R (Bk R Eu.slice<|iR R)<|vQ R (A9 R (iR R) iL)<|vQ R (AK R<|iR R)<|wQ R (fB R Cy iL fR R)<|wQ R (AZ (a:=rI n1.Kind) R AJ (iR R) R R)<|AG Z λr7 a0 a1=>AL.stepW (.two R R R) R R (Dy (r:=rB r7) (caps:=[]) (bs:=[rI n1.Kind]) R iL R ⟨⟨_,(iR R),.d R⟩,Za⟩ (λhg=>me<|AU a0 hg) R)<|wQ R (A3 R<|iR R)<|vQ R (BI R (iR R)<|iR R)<|xO R<|aZ<|V _<|cI R a1 (λj=>?_) λj=>?_
 ·exact zI j R id
 refine Zd<|U _<|aT λa2=>aT λa6=>aG [1,4] [1] ?_
 refine aR<|mM R<|aZ<|a6 _<|cI R j (λl=>?_) λl=>?_
 ·refine aT λa7=>?_
  refine ZA BA (by kernel_rfl) ?_
  exact qP R (fB R FP iL fR R)<|qP R (AZ (a:=qb n1.Flow) R B9 iL R R)<|qP R (fB R Cy iL fR R)<|qP R (AZ (a:=rI n1.Kind) R AJ iL R R)<|Fw R R R (r:=rB r3) (caps:=[]) (bs:=[rI n1.Kind]) R iL R ⟨⟨_,iL,.d R⟩,Za⟩ (λ_=>R8<|w) R<|AG l λr9 a8 aa=>Fw R R R (r:=rI r9) (caps:=[]) (bs:=[qb n1.Flow,rB r3]) R iL R ⟨⟨_,iL,.d R⟩,⟨_,iL,.d R⟩,Za⟩ (λ_=>jR<|a8) R<|qP R (Dj R iL)<|AQ.nil<|a7 _<|Zj<|yI aa R
 refine Zd<|a2 _<|aT λab=>aU<|lF Cy AJ R R<|AG l λak A ac=>cL (eB<|A) R<|aZ<|cI R ac (λq=>?_) λq=>?_
 ·refine aT λad=>aU<|sQ R (fB R Ga iL fR R)<|sQ R (HQ (ds:=(DZ n1.Grid)) R ME iL R R R)<|AG q λe2 ae af=>cL (rp<|ae) R<|mA R<|aZ<|aU<|mM R<|xU R<|aZ<|cI R af (λu=>?_) λu=>?_
  ·refine aT λag=>aF [5] ?_
   exact aR<|mM R<|mA R<|aZ<|ag _<|Zj<|yI u R
  refine Zd<|ad _<|aT λah=>aG [1] [1] ?_
  exact aR<|lF Cy AJ R R<|sQ R (fB R Ga iL fR R)<|lF F2 FR R R<|AG u λal B ai=>cL (ic<|B) R<|mA R<|aZ<|ah _<|Zj<|yI ai R
 exact Zd<|ab _<|aU<|lF JQ HM R R<|AG q λan C aj=>cL (Ym<|C) R<|mA R<|aZ<|Zj<|yI aj R
theorem ms{n1 r}(h:Ov n1=some r):AS prog 102 (NG n1) (.r<|.sl<|r.map<|Ai .i64):=by
 unfold Ov at h
 refine mF func102 ntmps102 R λj=>aU<|sS R (A2 (cs:=(Bp n1)) 1 R iL R R)<|mA R<|aZ<|aU<|mA R<|aZ<|aS λK3 c3 a7=>aU<|lF FP B9 R R<|xL Ah R<|mM R<|aZ<|Zf<|BH h λo1 a0 a8=>?_
 have J1:∀(w:List Int) (Z:NN),o1=w→K3 ⟨[(1,.ptr 1 j 0 0),(3,.own 5003<|Z 0)],[(1,some<|.box j 46<|Bp n1),(5003,some<|.arr (Z 0) 3 1<|w.map<|Ai .i64)],(Z 1),56⟩:=by
  intro w Z e
  have h1:=a8 _ e
  refine c3 _<|aS λK5 c5 aa=>aU<|sQ R (fB R Ga iL fR R)<|lF F2 FR R R<|xL Cm R<|mM R<|aZ<|Zf<|BH h1 λo2 a1 ab=>?_
  have J2:∀(A:List Int) (I:NN),o2=A→K5 ⟨[(3,.own 5003<|I 0)],[(5003,some<|.arr (I 0) 3 1<|A.map<|Ai .i64)],(I 1),56⟩:=by
   intro A I e
   have h2:=ab _ e
   exact c5 _<|aU<|mM R<|mA R<|aZ<|Zj<|DU (P:=prog) (λ(r:(List Int))=>.r<|.sl<|r.map<|Ai .i64) h2 iL<|.t<|.one<|.own R
  refine Dd (λ(x5:Int) (B:List Int) i8=>⟨[(1,.ptr 1 j 0 0),(3,.own 5003<|i8 0),(32,rL n1.Grid.Cells),(33,rI x5)],[(1,some<|.box j 46<|Bp n1),(5003,some<|.arr (i8 0) 3 1<|B.map<|Ai .i64)],(i8 1),56⟩) (AH [(Z 0),(Z 1)]) a1 wk ?_
  intro x5 B i8 v1 ac ad
  have h3:Si n1 x5 B=some v1:=ac;unfold Si at h3
  refine aU<|xS R<|aZ<|aT λc9=>cI R h3 (λh4=>?_) λh4=>?_
  ·refine Zd<|c9 _<|aS λae af O=>Zf<|BH h4 λp1 ag ah=>?_
   have J3:∀(C:List Int) (q:NN),p1=C→ae ⟨[(1,.ptr 1 j 0 0),(3,.own 5003<|q 0),(32,rL n1.Grid.Cells),(33,rI x5)],[(1,some<|.box j 46<|Bp n1),(5003,some<|.arr (q 0) 3 1<|C.map<|Ai .i64)],(q 1),56⟩:=by
    intro C q e
    have h5:=ah _ e
    exact af _<|aR<|AG h5 λx7 ai h6=>xA R ai<|mM R<|Zh<|ZI h6 (AH [(q 0),(q 1)]) wk
   refine aU<|mM R<|mA R<|aZ<|aU<|sQ R (fB R Ga iL fR R)<|lF F2 FR R R<|mM R<|AG ag λx8 a2 h7=>xI Cm R a2<|sQ R (A4 R Fb iL)<|xV (.int .i64 x8.Ref) AJ R<|xU R<|aZ<|cI R h7 (λh8=>?_) λh8=>?_
   ·refine aG [1,3,5,32,33] [1,5003] ?_
    exact aR<|mM R<|sQ R (fB R Ga iL fR R)<|lF F2 FR R R<|mM R<|xI Cm R a2<|sQ R (A4 R Fb iL)<|xV (.int .i64 x8.Ref) AJ R<|sS R (B3 52 R CN (f:=(Ai .i64)) (l:=([x8.Ref]:List Int)) ⟨R,⟨_,iL,R⟩,Za⟩ R (λ_=>R) R)<|AG h8 λaj J h9=>sS R (Cj R CN iL R (.inr<|.inl ⟨_,_,iL,R⟩) J)<|mA R<|Zh<|O _ _ wk<|J3 _ (AH [((i8 1)+1),((i8 1)+2)]) (Zc h9).symm
   exact Zd<|O _ _ wk<|J3 _ (AH [(i8 0),(i8 1)]) (Zc h8).symm
  exact Zn<|aa _ _ wk<|J2 _ (AH [(i8 0),(i8 1)])<|xH ad h4
 refine Dd (λ(x2:Int) (E:List Int) F=>⟨[(1,.ptr 1 j 0 0),(3,.own 5003<|F 0),(8,rL n1.Flow),(9,rI x2)],[(1,some<|.box j 46<|Bp n1),(5003,some<|.arr (F 0) 3 1<|E.map<|Ai .i64)],(F 1),56⟩) (AH [(j+1),(j+2)]) a0 (Zm (Zm (IE 3 5003 3 1 (by decide) R)<|by exact ZE (e':=[(0,.agg<|Bp n1),(1,.ptr 1 j 0 0),(2,cZ),(3,.own 5003<|j+1),(6,.ptr 1 j 0 3),(7,qb n1.Flow),(8,rL n1.Flow),(9,rI 0)]) (h':=[(1,some<|.box j 46<|Bp n1),(5003,some<|.arr (j+1) 3 1<|([]:List Int).map<|Ai .i64)]) ⟨jL,jL,jL,jL,jL,jL,jL,jL,Za⟩ ⟨.inl R,.inl R,Za⟩ nL) wk) ?_
 intro x2 E F v2 ak al
 have a6:TI n1 x2 E=some v2:=ak;unfold TI at a6
 refine aU<|xS R<|aZ<|aT λan=>cI R a6 (λV=>?_) λV=>?_
 ·refine Zd<|an _<|aS λao aq T=>Zf<|BH V λp2 ar av=>?_
  have J4:∀(l:List Int) (u:NN),p2=l→ao ⟨[(1,.ptr 1 j 0 0),(3,.own 5003<|u 0),(8,rL n1.Flow),(9,rI x2)],[(1,some<|.box j 46<|Bp n1),(5003,some<|.arr (u 0) 3 1<|l.map<|Ai .i64)],(u 1),56⟩:=by
   intro l u e
   have aw:=av _ e
   exact aq _<|aR<|AG aw λx9 ax ay=>xA R ax<|mM R<|Zh<|ZI ay (AH [(u 0),(u 1)]) wk
  refine aU<|mM R<|mA R<|aZ<|aU<|lF FP B9 R R<|mM R<|AG ar λX U az=>xI Ah R U<|sQ R (A4 R D9 iL)<|xV (.int .i64 X.Ref) AJ R<|xU R<|aZ<|cI R az (λY=>?_) λY=>?_
  ·refine aG [1,3,4,8,9] [1,5003] ?_
   exact aR<|mM R<|lF FP B9 R R<|mM R<|xI Ah R U<|sQ R (A4 R D9 iL)<|xV (.int .i64 X.Ref) AJ R<|sS R (B3 26 R CN (f:=(Ai .i64)) (l:=([X.Ref]:List Int)) ⟨R,⟨_,iL,R⟩,Za⟩ R (λ_=>R) R)<|AG Y λb0 M b1=>sS R (Cj R CN iL R (.inr<|.inl ⟨_,_,iL,R⟩) M)<|mA R<|Zh<|T _ _ wk<|J4 _ (AH [((F 1)+1),((F 1)+2)]) (Zc b1).symm
  exact Zd<|T _ _ wk<|J4 _ (AH [(F 0),(F 1)]) (Zc Y).symm
 exact Zn<|a7 _ _ wk<|J1 _ (AH [(F 0),(F 1)])<|xH al V
theorem TW{d1 i r}(h:HO d1 i=some r):AS prog 8 [.agg [qg d1.Nodes],rI i] (rI r):=by
 unfold HO at h
 refine mF func8 ntmps8 R λu=>aU<|sS R (A2 (cs:=[qg d1.Nodes]) 2 R iL R R)<|mA R<|aZ<|aS λX Y w=>aU<|lF Dq Dt R R<|xL DI R<|mM R<|aZ<|Zf<|BP h λZ j A B=>?_
 have J1:∀(T:Unit) (U:NN),Z=.nrm T→X ⟨[],[],(U 0),22⟩:=by
  intro T U e
  have h1:=A _ e
  exact Y _<|zI h1 R id
 refine Zz (λ(C:Int) q=>⟨[(1,rI i),(2,.ptr 2 u 0 0),(8,rL d1.Nodes),(9,rI C)],[(2,some<|.box u 24 [qg d1.Nodes])],(q 0),22⟩) (AH [(u+1)]) j wk ?_
 intro C q v1 E l
 have V:PP d1 i C=some v1:=E;unfold PP at V
 refine aU<|xS R<|aZ<|aT λc6=>cI R V (λF=>?_) λF=>?_
 ·refine Zd<|c6 _<|aT λc7=>Zf<|aU<|mM R<|mA R<|aZ<|aU<|lF Dq Dt R R<|mM R<|AG F λx4 I h4=>xI DI R I<|sQ R (A4 R Ei iL)<|xV (.int .i64 x4.ID) AJ R<|mM R<|xQ R<|aZ<|cI R h4 (λJ=>?_) λJ=>?_
  ·refine aT λM=>aF [5] ?_
   exact aR<|mM R<|mA R<|aZ<|M _<|Zj<|yI (B _<|xH l J) R
  refine Zd<|c7 _<|aG [1,2,8,9] [2] ?_
  exact aR<|AG J λx5 O h6=>xA R O<|mM R<|Zh<|Zx h6 (AH [(q 0)]) wk
 exact Zn<|w _ _ wk<|J1 _ (AH [(q 0)])<|xH l F
theorem oo{p k r}(h:PG p k=some r):AS prog 151 [rI p,rI k] (rB r):=by
 unfold PG at h
 refine mF func151 ntmps151 R λI=>aU<|mA R<|aZ<|aT λc2=>aU<|mM R<|aZ<|Zf<|aS λK4 c4 j=>aU<|xQ R<|mA R<|aZ<|BH h λp1 J U=>?_
 have M:∀(V:Bool) (T:NN),p1=V→K4 ⟨[(0,rI p),(5,rI k),(6,rB V)],[],(T 0),51⟩:=by
  intro V T e
  have h1:=U _ e
  refine c4 _<|cI R h1 (λX=>?_) λX=>?_
  ·exact aU<|mM R<|xQ R<|mA R<|aZ<|Zj<|yB X R
  refine aU<|xQ R<|mA R<|aZ<|cI R X (λY=>?_) λY=>?_
  ·exact aU<|mM R<|xQ R<|mM R<|vM R<|vQ R (Am R (iR R) iL)<|xO R<|mM R<|vM R<|vQ R (Am R (iR R) iL)<|xO R<|mA R<|aZ<|Zj<|yB Y R
  refine aU<|xQ R<|mA R<|aZ<|cI R Y (λZ=>?_) λZ=>?_
  ·exact aU<|mM R<|xQ R<|mA R<|aZ<|Zj<|yB Z R
  refine aU<|xQ R<|mA R<|aZ<|cI R Z (λh5=>?_) λh5=>?_
  ·exact aU<|mM R<|xQ R<|mM R<|vM R<|vQ R (Am R (iR R) iL)<|xO R<|mA R<|aZ<|Zj<|yB h5 R
  refine aU<|xQ R<|mA R<|aZ<|cI R h5 (λh6=>?_) λh6=>?_
  ·refine aT λa0=>aF [0] ?_
   exact aR<|mM R<|AG h6 λr1 a1 h7=>cL (R8<|a1) R<|mA R<|aZ<|a0 _<|Zj<|yB h7 R
  refine aT λa2=>aF [0,5] ?_
  refine aR<|xQ R<|mA R<|aZ<|a2 _<|cI R h6 (λh8=>?_) λh8=>?_
  ·exact aU<|mM R<|xQ R<|mA R<|aZ<|Zj<|yB h8 R
  refine aS λa6 a7 l=>aU<|xQ R<|mA R<|aZ<|BH h8 λp2 O a8=>?_
  have J2:∀(x2:Bool) (i2:NN),p2=x2→a6 ⟨[(0,rI p),(46,rB x2)],[],(i2 0),51⟩:=by
   intro x2 i2 e
   have h9:=a8 _ e
   refine a7 _<|cI R h9 (λq=>?_) λq=>?_
   ·exact aU<|mM R<|xQ R<|mA R<|aZ<|Zj<|yB q R
   exact Zd<|c2 _<|zB q R id
  refine aC R (λu=>?_) λu=>?_
  ·have w:=CF u O
   exact Zd<|l _ _ wk<|J2 _ (AH [(T 0)]) (Zc w).symm
  ·have w:=CA u O
   exact aR<|xQ R<|mA R<|Zh<|l _ _ wk<|J2 _ (AH [(T 0)]) (Zc w).symm
 refine aC R (λA=>?_) λA=>?_
 ·have B:=CF A J
  exact Zd<|j _ _ wk<|M _ (AH [I]) (Zc B).symm
 ·have B:=CA A J
  refine aU<|xQ R<|mA R<|aZ<|cI R B (λC=>?_) λC=>?_
  ·exact Zd<|j _ _ wk<|M _ (AH [I]) (Zc C).symm
  refine aU<|xQ R<|mA R<|aZ<|cI R C (λE=>?_) λE=>?_
  ·exact Zd<|j _ _ wk<|M _ (AH [I]) (Zc E).symm
  refine aU<|xQ R<|mA R<|aZ<|cI R E (λF=>?_) λF=>?_
  ·exact Zd<|j _ _ wk<|M _ (AH [I]) (Zc F).symm
  exact aR<|xQ R<|mA R<|Zh<|j _ _ wk<|M _ (AH [I]) (Zc F).symm
theorem jh{d1 k a r}(h:QM d1 k a=some r):AS prog 101 [.agg [qg d1.Nodes],rI k,.r<|.sl<|a.map<|Ai .i64] (rI r):=by
 unfold QM at h
 refine mF func101 ntmps101 R λw=>aU<|sS R (A2 (cs:=[qg d1.Nodes]) 3 R iL R R)<|mA R<|aZ<|aS λK2 c2 A=>aU<|mM R<|xL CN R<|mM R<|aZ<|Zf<|BP h λo1 l B q=>?_
 have J1:∀(u2:Unit) (i5:NN),o1=.nrm u2→K2 ⟨[],[],(i5 0),32⟩:=by
  intro u2 i5 e
  have h1:=B _ e
  exact c2 _<|zI h1 R id
 refine Zz (λ(C:Int) u=>⟨[(1,rI k),(2,.r<|.sl<|a.map<|Ai .i64),(3,.ptr 3 w 0 0),(10,rL a),(11,rI C)],[(3,some<|.box w 24 [qg d1.Nodes])],(u 0),32⟩) (AH [(w+1)]) l wk ?_
 intro C u v1 E j
 have h2:Nb d1 k a C=some v1:=E;unfold Nb at h2
 refine aU<|xS R<|aZ<|aT λc6=>cI R h2 (λF=>?_) λF=>?_
 ·refine Zd<|c6 _<|aT λc7=>Zf<|aU<|mM R<|mA R<|aZ<|aT λc9=>?_
  refine ZA BA (by kernel_rfl) ?_
  refine qP R (FT R E5 iL R R)<|qP R (AK R iL)<|qP R (AK R iL)<|AG F λx4 I h4=>qP R (Az R CN.slice iL iL (λ_=>R) λ_=>I)<|qP R (Bc (d:=.int .i64 x4) R AJ iL R)<|AG h4 λk1 J h5=>Fw R R R (r:=rI k1) (caps:=[]) (bs:=[.agg [qg d1.Nodes],rI x4]) R iL R ⟨⟨_,iL,.g (cs:=[.sl<|d1.Nodes.map Ak.row]) R R⟩,⟨_,iL,.d R⟩,Za⟩ (λ_=>TW<|J) R<|qP R (Dj R iL)<|AQ.nil<|c9 _<|aT λM=>aT λO=>aG [1,2,3,8,10,11] [3] ?_
  refine aR<|mM R<|xS R<|aZ<|O _<|cI R h5 (λT=>?_) λT=>?_
  ·exact zI (q _<|xH j T) R id
  refine Zd<|M _<|aU<|mM R<|lF Dq Dt R R<|mM R<|AG T λx5 U h7=>xI DI R U<|sQ R (A4 R Cy iL)<|xV (.int .i64 x5.Kind) AJ R<|AG h7 λr1 V h8=>cL (oo<|V) R<|sQ R (A3 R iL)<|aZ<|cI R h8 (λX=>?_) λX=>?_
  ·exact zI (q _<|xH j X) R id
  refine Zd<|c7 _<|aG [1,2,3,10,11] [3] ?_
  exact aR<|AG X λx6 Y Z=>xA R Y<|mM R<|Zh<|Zx Z (AH [(u 0)]) wk
 exact Zn<|A _ _ wk<|J1 _ (AH [(u 0)])<|xH j F
theorem iY{d1 r}(h:Nt d1=some r):AS prog 54 [.agg [qg d1.Nodes]] (rI r):=by
 unfold Nt at h
 refine mF func54 ntmps54 R λj=>aU<|sS R (A2 (cs:=[qg d1.Nodes]) 1 R iL R R)<|mA R<|aZ<|aT λc2=>aU<|lF Dq Dt R R<|xL DI R<|xQ R<|aZ<|cI R h (λh1=>?_) λh1=>?_
 ·exact zI h1 R id
 refine Zd<|c2 _<|aS λK5 c5 a0=>aU<|lF Dq Dt R R<|xL DI R<|mM R<|aZ<|Zf<|BP h1 λo1 C a1 E=>?_
 have J1:∀(u2:Unit) (i5:NN),o1=.nrm u2→K5 ⟨[(1,.ptr 1 j 0 0)],[(1,some<|.box j 24 [qg d1.Nodes])],(i5 0),81⟩:=by
  intro u2 i5 e
  have h2:=a1 _ e
  refine c5 _<|aS λK7 c7 a2=>aU<|lF Dq Dt R R<|xL DI R<|mM R<|aZ<|Zf<|BP h2 λo2 F a6 a7=>?_
  have J2:∀(u4:Unit) (I:NN),o2=.nrm u4→K7 ⟨[],[],(I 0),81⟩:=by
   intro u4 I e
   have h3:=a6 _ e
   exact c7 _<|zI h3 R id
  refine Zz (λ(q:Int) i8=>⟨[(1,.ptr 1 j 0 0),(59,rL d1.Nodes),(60,rI q)],[(1,some<|.box j 24 [qg d1.Nodes])],(i8 0),81⟩) (AH [(i5 0)]) F wk ?_
  intro q i8 v1 a8 J
  have h4:Kh d1 q=some v1:=a8;unfold Kh at h4
  refine aU<|xS R<|aZ<|aT λaa=>cI R h4 (λh5=>?_) λh5=>?_
  ·refine Zd<|aa _<|aT λab=>Zf<|aU<|mM R<|mA R<|aZ<|aT λac=>AG h5 λl M h6=>AG h6 λr1 ad h7=>?_
   refine rP 13 [pO 63<|.agg [qg d1.Nodes],pO 64<|.ptr 1 j 0 0,pO 65<|qg d1.Nodes,pO 66<|rI q,pO 67<|.rop (Ak.row l) 0,pO 68<|.rop (Ak.row l) 1,pO 69<|rI l.Kind,pO 70<|.ptr 1 j 0 0,pO 71<|qg d1.Nodes,pO 72<|rI q,pO 73<|.rop (Ak.row l) 0,pO 74<|.agg<|Bp l,pO 75<|.r<|.sl<|r1.map<|Ai .i64] BA R (by exact⟨oB [(1,.ptr 1 j 0 0)] [(1,some<|.box j 24 [qg d1.Nodes])]<|FT R E5 (.inl R) R R,oB [(1,.ptr 1 j 0 0)] [(1,some<|.box j 24 [qg d1.Nodes])]<|fB R Dq (.inl R) (λ_=>R) R,oB [(64,.ptr 1 j 0 0)] [(1,some<|.box j 24 [qg d1.Nodes])]<|AZ (a:=qg d1.Nodes) R Dt (.inl R) R R,oB [(5,rI q)] []<|AK R<|.inl R,oB [(65,qg d1.Nodes),(66,rI q)] []<|Az R DI.slice (.inl R) (.inl R) (λ_=>R) λ_=>M,oB [(67,.rop (Ak.row l) 0)] []<|A4 R Cy<|.inl R,oB [(68,.rop (Ak.row l) 1)] []<|Bc (d:=.int .i64 l.Kind) R AJ (.inl R) R,oB [(1,.ptr 1 j 0 0)] [(1,some<|.box j 24 [qg d1.Nodes])]<|fB R Dq (.inl R) (λ_=>R) R,oB [(70,.ptr 1 j 0 0)] [(1,some<|.box j 24 [qg d1.Nodes])]<|AZ (a:=qg d1.Nodes) R Dt (.inl R) R R,oB [(5,rI q)] []<|AK R<|.inl R,oB [(71,qg d1.Nodes),(72,rI q)] []<|Az R DI.slice (.inl R) (.inl R) (λ_=>R) λ_=>M,oB [(73,.rop (Ak.row l) 0)] []<|Ci (cs:=(Bp l)) R Gc (.inl R) R R,oD (λ_=>[(74,.agg<|Bp l)]) (λ_=>[]) λG1 e h' n=>C0 (r:=.r<|.sl<|r1.map<|Ai .i64) (caps:=[]) (bs:=(NG l)) R (.inl R) R ⟨.inl ⟨(.inl R),R⟩,Za⟩ λ_=>ms<|ad,Za⟩) λG1 n1=>?_
   refine A8 [1,5,59,60,61,62,63,64,65,66,67,68,69,70,71,72,73,74,75] [1] ?_
   refine AG h7 λe1 ae h8=>cL (jh<|ae) R<|mA R<|aZ<|ac _<|aT λaf=>aG [1,6,59,60] [1] ?_
   refine aR<|mM R<|xU R<|aZ<|af _<|cI R h8 (λh9=>?_) λh9=>?_
   ·exact aU<|mM R<|mA R<|aZ<|Zj<|yI (a7 _<|xH J h9) R
   exact Zd<|ab _<|aR<|AG h9 λx8 ag ah=>xA R ag<|mM R<|Zh<|Zx ah (AH [n1]) wk
  exact Zn<|a2 _ _ wk<|J2 _ (AH [(i8 0)])<|xH J h5
 refine Zz (λ(x2:Int) Z=>⟨[(1,.ptr 1 j 0 0),(13,rL d1.Nodes),(14,rI x2)],[(1,some<|.box j 24 [qg d1.Nodes])],(Z 0),81⟩) (AH [(j+1)]) C wk ?_
 intro x2 Z v2 ai u
 have O:MV d1 x2=some v2:=ai;unfold MV at O
 refine aU<|xS R<|aZ<|aT λaj=>cI R O (λw=>?_) λw=>?_
 ·refine Zd<|aj _<|aT λak=>Zf<|aU<|mM R<|mA R<|aZ<|aT λal=>aU<|lF Dq Dt R R<|mM R<|AG w λx9 T an=>xI DI R T<|xB ((Bp x9)) Gc R<|AG an λe2 ao aq=>cL (ZH<|ao) R<|mA R<|aZ<|aU<|mM R<|xU R<|aZ<|cI R aq (λA=>?_) λA=>?_
  ·refine aT λar=>aF [4] ?_
   exact aR<|mM R<|mA R<|aZ<|ar _<|Zj<|yI (E _<|xH u A) R
  refine Zd<|al _<|aT λav=>aG [1,3,13,14] [1] ?_
  refine ZA BA (by kernel_rfl) ?_
  refine qP R (AK R iL)<|qP R (Am R iL iL)<|qP R (AK R iL)<|qO R (fB R Dq iL fR R)<|qO R (AZ (a:=qg d1.Nodes) R Dt (iR R) R R)<|AG A λaw U ax=>qO R (Az R DI.slice (iR R) iL (λ_=>R)<|AU U)<|qO R (A4 R Ei<|iR R)<|qO R (Bc (d:=.int .i64 aw.ID) R AJ (iR R) R)<|qO R (Ct R (iR R) iL)<|qP R (BI R iL<|iR R)<|qP R (AK R iL)<|qO R (AK R iL)<|qO R (A9 R (iR R) iL)<|qO R (AK R<|iR R)<|qT R (fB R Dq iL fR R)<|qT R (AZ (a:=qg d1.Nodes) R Dt (iR R) R R)<|qT R (AK R iL)<|qT R (Az R DI.slice (iR R) (iR R) (λ_=>R) λ_=>T)<|qT R (A4 R Ei<|iR R)<|qT R (Bc (d:=.int .i64 x9.ID) R AJ (iR R) R)<|qT R (fB R Dq iL fR R)<|qT R (AZ (a:=qg d1.Nodes) R Dt (iR R) R R)<|qT R (AK R iL)<|AG ax λb2 V ay=>qT R (CG R (iR R) iL<|AU V)<|AG ay λaz X b0=>qT R (Az R DI.slice (iR R) (iR R) (λ_=>R)<|AU X)<|qT R (A4 R Ei<|iR R)<|qT R (Bc (d:=.int .i64 az.ID) R AJ (iR R) R)<|qT R (FG R (iR R)<|iR R)<|qO R (BI R (iR R)<|iR R)<|qP R (CW R iL<|iR R)<|AQ.nil<|av _<|cI R b0 (λB=>?_) λB=>?_
  ·exact zI (E _<|xH u B) R id
  exact Zd<|ak _<|aR<|AG B λb3 Y b1=>xA R Y<|mM R<|Zh<|Zx b1 (AH [(Z 0)]) wk
 exact Zn<|a0 _ _ wk<|J1 _ (AH [(Z 0)])<|xH u w
theorem fO{j n r}(h:Ko j n=some r):AS prog 33 [qa j,rS n] (rS r):=by
 unfold Ko at h
 refine mF func33 ntmps33 R λY=>aU<|mA R<|aZ<|aS λZ c2 A=>aU<|mM R<|xL Ac R<|mM R<|aZ<|Zf<|BP h λo1 l B C=>?_
 have J1:∀(T:Unit) (U:NN),o1=.nrm T→Z ⟨[],[],(U 0),24⟩:=by
  intro T U e
  have h1:=B _ e
  exact c2 _<|aU<|mA R<|aZ<|Zj<|DU (P:=prog) (λ(r:(List UInt8))=>rS r) h1 iL<|.t<|.d R
 refine Zz (λ(E:Int) w=>⟨[(0,qa j),(1,rS n),(7,rL j),(8,rI E)],[],(w 0),24⟩) (AH [Y]) l wk ?_
 intro E w v1 F q
 have V:QO j n E=some v1:=F;unfold QO at V
 refine aU<|xS R<|aZ<|aT λc6=>cI R V (λI=>?_) λI=>?_
 ·refine Zd<|c6 _<|aT λc7=>Zf<|aU<|mM R<|mA R<|aZ<|aU<|mM R<|mM R<|AG I λX u h4=>xI Ac R u<|sQ R (A4 R B1 iL)<|xV (.str X.Name) A6 R<|mM R<|sQ R (Cz R iL iL)<|aZ<|cI R h4 (λJ=>?_) λJ=>?_
  ·refine aT λM=>aF [0,5] ?_
   exact aR<|mM R<|mM R<|xI Ac R u<|sQ R (A4 R Jo iL)<|xV (.str X.Value) A6 R<|mA R<|aZ<|M _<|Zj<|DU (P:=prog) (λ(r:(List UInt8))=>rS r) (C _<|xH q J) iL<|.t<|.d R
  refine Zd<|c7 _<|aF [0,1,7,8] ?_
  exact aR<|AG J λx5 O h6=>xA R O<|mM R<|Zh<|Zx h6 (AH [(w 0)]) wk
 exact Zn<|A _ _ wk<|J1 _ (AH [(w 0)])<|xH q I
theorem YU{j n r}(h:Ma j n=some r):AS prog 67 [qa j,rS n] (rB r):=by
 unfold Ma at h
 refine mF func67 ntmps67 R λV=>aU<|mA R<|aZ<|aS λX Y w=>aU<|mM R<|xL Ac R<|mM R<|aZ<|Zf<|BP h λZ l A B=>?_
 have J1:∀(O:Unit) (T:NN),Z=.nrm O→X ⟨[],[],(T 0),19⟩:=by
  intro O T e
  have h1:=A _ e
  exact Y _<|zB h1 R id
 refine Zz (λ(C:Int) u=>⟨[(0,qa j),(1,rS n),(7,rL j),(8,rI C)],[],(u 0),19⟩) (AH [V]) l wk ?_
 intro C u v1 E q
 have U:Nu j n C=some v1:=E;unfold Nu at U
 refine aU<|xS R<|aZ<|aT λc6=>cI R U (λF=>?_) λF=>?_
 ·refine Zd<|c6 _<|aT λc7=>Zf<|aU<|mM R<|mA R<|aZ<|aU<|mM R<|mM R<|AG F λx4 I h4=>xI Ac R I<|sQ R (A4 R B1 iL)<|xV (.str x4.Name) A6 R<|mM R<|sQ R (Cz R iL iL)<|aZ<|cI R h4 (λJ=>?_) λJ=>?_
  ·exact zB (B _<|xH q J) R id
  refine Zd<|c7 _<|aF [0,1,7,8] ?_
  exact aR<|AG J λx5 M h6=>xA R M<|mM R<|Zh<|Zx h6 (AH [(u 0)]) wk
 exact Zn<|w _ _ wk<|J1 _ (AH [(u 0)])<|xH q F
theorem ec{f1 m r}(h:I1 f1 m=some r):AS prog 31 [qb f1,rI m] (.r<|.sl<|r.map<|Ai .i64):=by
 unfold I1 at h
 refine mF func31 ntmps31 R λX=>aU<|mA R<|aZ<|aU<|mA R<|aZ<|aS λK3 c3 Z=>aU<|mM R<|xL Ah R<|mM R<|aZ<|Zf<|BH h λo1 M a0=>?_
 have J1:∀(q:List Int) (Y:NN),o1=q→K3 ⟨[(5,.own 5005<|Y 0)],[(5005,some<|.arr (Y 0) 3 1<|q.map<|Ai .i64)],(Y 1),58⟩:=by
  intro q Y e
  have h1:=a0 _ e
  exact c3 _<|aU<|mM R<|mA R<|aZ<|Zj<|DU (P:=prog) (λ(r:(List Int))=>.r<|.sl<|r.map<|Ai .i64) h1 iL<|.t<|.one<|.own R
 refine Dd (λ(B:Int) (l:List Int) u=>⟨[(0,qb f1),(1,rI m),(5,.own 5005<|u 0),(10,rL f1),(11,rI B)],[(5005,some<|.arr (u 0) 3 1<|l.map<|Ai .i64)],(u 1),58⟩) (AH [X,(X+1)]) M (Zm (Zm (IE 5 5005 3 1 (by decide) R)<|by exact ZE (e':=[(0,qb f1),(1,rI m),(4,cZ),(5,.own 5005 X),(9,qb f1),(10,rL f1),(11,rI 0)]) (h':=[(5005,some<|.arr X 3 1<|([]:List Int).map<|Ai .i64)]) ⟨jL,jL,jL,jL,jL,jL,jL,Za⟩ ⟨.inl R,Za⟩ nL) wk) ?_
 intro B l u v1 a1 a2
 have h2:MG f1 m B l=some v1:=a1;unfold MG at h2
 refine aU<|xS R<|aZ<|aT λc7=>cI R h2 (λh3=>?_) λh3=>?_
 ·refine Zd<|c7 _<|aS λK8 c8 O=>Zf<|BH h3 λp1 a6 a7=>?_
  have J2:∀(w:List Int) (J:NN),p1=w→K8 ⟨[(0,qb f1),(1,rI m),(5,.own 5005<|J 0),(10,rL f1),(11,rI B)],[(5005,some<|.arr (J 0) 3 1<|w.map<|Ai .i64)],(J 1),58⟩:=by
   intro w J e
   have h4:=a7 _ e
   exact c8 _<|aR<|AG h4 λx4 a8 h5=>xA R a8<|mM R<|Zh<|ZI h5 (AH [(J 0),(J 1)]) wk
  refine aU<|mM R<|mA R<|aZ<|aU<|mM R<|mM R<|AG a6 λx5 T h6=>xI Ah R T<|sQ R (A4 R DA iL)<|xV (.sl<|x5.Attrs.map AC.row) BD R<|mA R<|aZ<|aU<|mM R<|AG h6 λr1 aa h7=>cL (fO<|aa) R<|sQ R (DJ R iL iL)<|mA R<|aZ<|aS λab ac A=>aT λad=>aG [0,1,5,6,7,8,10,11] [5005] ?_
  refine aR<|mM R<|xQ R<|mM R<|vM R<|AG h7 λr2 ae h8=>vL (λhg=>YU<|AU ae hg) R<|xN R<|mM R<|vM R<|vQ R (Am R (iR R) iL)<|vQ R (AK R<|iR R)<|wQ R (AK R iL)<|AG h8 λr3 af h9=>AL.stepW (.two R R R) R R (Dy (r:=rB r3) (caps:=[]) (bs:=[qa x5.Attrs,.r<|.str [97,100,100]]) R iL R ⟨⟨_,(iR R),.d R⟩,⟨_,iL,.d R⟩,Za⟩ (λhg=>YU<|AU af hg) R)<|vQ R (BI R (iR R)<|iR R)<|xO R<|aZ<|ad _<|BH h9 λp2 U ag=>?_
  have J3:∀(j:Bool) (V:NN),p2=j→ab ⟨[(0,qb f1),(1,rI m),(5,.own 5005<|u 0),(6,rI B),(8,rB j),(10,rL f1),(11,rI B)],[(5005,some<|.arr (u 0) 3 1<|l.map<|Ai .i64)],(V 0),58⟩:=by
   intro j V e
   have ah:=ag _ e
   refine ac _<|aU<|mM R<|mM R<|vM R<|vM R<|vQ R (Bk R Ah.slice<|iR R)<|AG ah λx6 ai aj=>vQ R (CG R (iR R) iL<|AU ai)<|vQ R (Am R (iR R)<|iR R)<|vQ R (AK R<|iR R)<|wQ R (AK R iL)<|wQ R (AK R iL)<|wQ R (Az R Ah.slice (iR R) (iR R) (λ_=>R) λ_=>T)<|wQ R (A4 R Ek<|iR R)<|wQ R (Bc (d:=.int .i64 x5.Char) R AJ (iR R) R)<|wQ R (Am R (iR R) iL)<|vQ R (BI R (iR R)<|iR R)<|xO R<|aZ<|cI R aj (λC=>?_) λC=>?_
   ·exact aR<|mM R<|mM R<|sS R (B3 54 R CN (f:=(Ai .i64)) (l:=([B]:List Int)) ⟨R,⟨_,iL,R⟩,Za⟩ R (λ_=>R) R)<|AG C λal E ak=>sS R (Cj R CN iL R (.inr<|.inl ⟨_,_,iL,R⟩) E)<|mA R<|Zh<|O _ _ wk<|J2 _ (AH [((V 0)+1),((V 0)+2)]) (Zc ak).symm
   exact Zd<|O _ _ wk<|J2 _ (AH [(u 0),(V 0)]) (Zc C).symm
  refine aC R (λF=>?_) λF=>?_
  ·have I:=CF F U
   exact aR<|mA R<|Zh<|A _ _ wk<|J3 _ (AH [(u 1)]) (Zc I).symm
  ·have I:=CA F U
   exact Zd<|A _ _ wk<|J3 _ (AH [(u 1)]) (Zc I).symm
 exact Zn<|Z _ _ wk<|J1 _ (AH [(u 0),(u 1)])<|xH a2 h3
theorem s9{d1 l r}(h:Ms d1 l=some r):AS prog 24 [.agg [qg d1.Nodes],.agg<|A0 l] (rI r):=by
 unfold Ms at h
 refine mF func24 ntmps24 R λn0=>aU<|sS R (A2 (cs:=[qg d1.Nodes]) 2 R iL R R)<|sS R (A2 (cs:=(A0 l)) 3 R iL R R)<|mA R<|aZ<|aT λU=>aU<|xC E5 R<|AG h λe1 q V=>cL (iY<|q) R<|mA R<|aZ<|aU<|mM R<|xU R<|aZ<|cI R V (λu=>?_) λu=>?_
 ·refine aT λX=>aF [5] ?_
  exact aR<|mM R<|mA R<|aZ<|X _<|Zj<|yI u R
 refine Zd<|U _<|aU<|xC E5 R<|lF Ni AJ R R<|AG u λi1 w Y=>cL (TW<|w) R<|mA R<|aZ<|aT λZ=>aT λc8=>aG [2,3,6] [2,3] ?_
 refine aR<|mM R<|xS R<|aZ<|c8 _<|cI R Y (λA=>?_) λA=>?_
 ·exact zI A R id
 refine Zd<|Z _<|aT λB=>aU<|lF Dq Dt R R<|mM R<|AG A λC j h5=>xI DI R j<|sQ R (A4 R Cy iL)<|xV (.int .i64 C.Kind) AJ R<|AG h5 λr1 E h6=>cL (R8<|E) R<|sQ R (A3 R iL)<|aZ<|cI R h6 (λF=>?_) λF=>?_
 ·exact zI F R id
 refine Zd<|B _<|aT λI=>aT λJ=>aG [2,3,6] [2,3] ?_
 refine aR<|lF Dq Dt R R<|mM R<|xI DI R j<|sQ R (A4 R FP iL)<|xV (.sl<|C.Flow.map AD.row) B9 R<|AG F λr2 M h8=>sS R (C0 (r:=.r<|.sl<|r2.map<|Ai .i64) (caps:=[]) (bs:=[qb C.Flow,rI 0]) R iL R ⟨.inl ⟨iL,R⟩,.inl ⟨iL,R⟩,Za⟩ λ_=>ec<|M)<|xL CN R<|mA R<|aZ<|J _<|aT λO=>aG [3,7] [3] ?_
 refine aR<|lF Gl AJ R R<|xS R<|mM R<|vF Kn AJ R R<|vF Gl AJ R R<|vQ R (B5 R (iR R)<|iR R)<|xO R<|mM R<|vF Kn AJ R R<|vM R<|vQ R (C1 R (iR R)<|iR R)<|xO R<|aZ<|O _<|cI R h8 (λT=>?_) λT=>?_
 ·exact zI T R id
 exact Zd<|I _<|zI T R id
theorem ss{d1 j a r}(h:JB d1 j a=some r):AS prog 6 [.agg [qg d1.Nodes],.agg<|A0 j,rS a] (rI r):=by
 unfold JB at h
 refine mF func6 ntmps6 R λJ=>aU<|sS R (A2 (cs:=[qg d1.Nodes]) 3 R iL R R)<|sS R (A2 (cs:=(A0 j)) 4 R iL R R)<|mA R<|aZ<|aT λA=>aU<|xC E5 R<|xC Fg R<|AG h λM l B=>cL (s9<|l) R<|mA R<|aZ<|aU<|mM R<|xU R<|aZ<|cI R B (λq=>?_) λq=>?_
 ·refine aT λC=>aF [7] ?_
  exact aR<|mM R<|mA R<|aZ<|C _<|Zj<|yI q R
 refine Zd<|A _<|aT λE=>aT λF=>aF [2] ?_
 refine aR<|mM R<|sQ R (DJ R iL iL)<|mM R<|vM R<|AG q λO u I=>vL (λhg=>Uv<|AU u hg) R<|vQ R (A3 R<|iR R)<|xN R<|aZ<|F _<|cI R I (λw=>?_) λw=>?_
 ·exact zI w R id
 exact Zd<|E _<|zI w R id
theorem aQ{f1 r}(h:JV f1=some r):AS prog 7 [qb f1] (rI r):=by
 unfold JV at h
 refine mF func7 ntmps7 R λX=>aU<|mA R<|aZ<|aS λY Z u=>aU<|mM R<|xL Ah R<|mM R<|aZ<|Zf<|BP h λo1 j w A=>?_
 have J1:∀(T:Unit) (U:NN),o1=.nrm T→Y ⟨[],[],(U 0),19⟩:=by
  intro T U e
  have h1:=w _ e
  exact Z _<|zI h1 R id
 refine Zz (λ(B:Int) q=>⟨[(0,qb f1),(6,rL f1),(7,rI B)],[],(q 0),19⟩) (AH [X]) j wk ?_
 intro B q v1 C l
 have V:Pv f1 B=some v1:=C;unfold Pv at V
 refine aU<|xS R<|aZ<|aT λc6=>cI R V (λE=>?_) λE=>?_
 ·refine Zd<|c6 _<|aT λc7=>Zf<|aU<|mM R<|mA R<|aZ<|aU<|mM R<|mM R<|AG E λx4 F h4=>xI Ah R F<|xB ((A5 x4)) Dc R<|AG h4 λe1 I h5=>cL (aN<|I) R<|mA R<|aZ<|aU<|mM R<|xU R<|aZ<|cI R h5 (λJ=>?_) λJ=>?_
  ·refine aT λM=>aF [4] ?_
   exact aR<|mM R<|mA R<|aZ<|M _<|Zj<|yI (A _<|xH l J) R
  refine Zd<|c7 _<|aF [0,6,7] ?_
  exact aR<|AG J λx5 O h7=>xA R O<|mM R<|Zh<|Zx h7 (AH [(q 0)]) wk
 exact Zn<|u _ _ wk<|J1 _ (AH [(q 0)])<|xH l E
theorem Z3{B w r}(h:KW B w=some r):AS prog 68 [qa B,.agg<|BO w] (qa r):=by
 unfold KW at h
 refine mF func68 ntmps68 R λA=>aU<|sS R (A2 (cs:=(BO w)) 3 R iL R R)<|mA R<|aZ<|aU<|mA R<|aZ<|aU<|mA R<|aZ<|aS λK4 c4 ad=>aU<|mM R<|xL Ac R<|mM R<|aZ<|Zf<|IF h λo1 a7 ae=>?_
 have J1:∀(j:Bool) (C:List AC) (T:NN),o1=(j,C)→K4 ⟨[(3,.ptr 3 A 0 0),(5,.own 5005<|T 0),(6,rB j)],[(3,some<|.box A 39<|BO w),(5005,some<|.arr (T 0) 39 2<|C.map AC.row)],(T 1),52⟩:=by
  intro j C T e
  have h1:=ae _ _ e
  refine c4 _<|aS λK6 c6 a8=>aU<|mM R<|sQ R (A3 R iL)<|aZ<|BH h1 λp1 aa af=>?_
  have J2:∀(E:List AC) (i6:NN),p1=E→K6 ⟨[(5,.own 5005<|i6 0)],[(5005,some<|.arr (i6 0) 39 2<|E.map AC.row)],(i6 1),52⟩:=by
   intro E i6 e
   have h2:=af _ e
   exact c6 _<|aU<|mM R<|mA R<|aZ<|Zj<|DU (P:=prog) (λ(r:(List AC))=>qa r) h2 iL<|.t<|.one<|.own R
  refine aC R (λX=>?_) λX=>?_
  ·have h3:=CF X aa
   exact aR<|mM R<|xC CV R<|sS R (B3 49 R Ac (f:=AC.row) (l:=([w]:List AC)) ⟨R,⟨_,iL,R⟩,Za⟩ R (λ_=>R) R)<|AG h3 λb4 Y h4=>sS R (Cj R Ac iL R (.inr<|.inl ⟨_,_,iL,R⟩) Y)<|mA R<|Zh<|a8 _ _ wk<|J2 _ (AH [((T 1)+1),((T 1)+2)]) (Zc h4).symm
  ·have h3:=CA X aa
   exact Zd<|a8 _ _ wk<|J2 _ (AH [(T 0),(T 1)]) (Zc h3).symm
 refine Gk (λ(l:Bool) (x2:Int) (F:List AC) M=>⟨[(0,qa B),(3,.ptr 3 A 0 0),(5,.own 5005<|M 0),(6,rB l),(9,rL B),(10,rI x2)],[(3,some<|.box A 39<|BO w),(5005,some<|.arr (M 0) 39 2<|F.map AC.row)],(M 1),52⟩) (AH [(A+1),(A+2)]) a7 (Zm (Zm (IE 5 5005 39 2 (by decide) R)<|by exact ZE (e':=[(0,qa B),(1,.agg<|BO w),(3,.ptr 3 A 0 0),(4,cZ),(5,.own 5005<|A+1),(6,rB false),(8,qa B),(9,rL B),(10,rI 0)]) (h':=[(3,some<|.box A 39<|BO w),(5005,some<|.arr (A+1) 39 2<|([]:List AC).map AC.row)]) ⟨jL,jL,jL,jL,jL,jL,jL,jL,jL,Za⟩ ⟨.inl R,.inl R,Za⟩ nL) wk) ?_
 intro l x2 F M v1 ag ah
 have h5:PW B w l x2 F=some v1:=ag;unfold PW at h5
 refine aU<|xS R<|aZ<|aT λai=>cI R h5 (λh6=>?_) λh6=>?_
 ·refine Zd<|ai _<|aS λaj ak U=>Zf<|IF h6 λp2 al an=>?_
  have J3:∀(q:Bool) (I:List AC) (i7:NN),p2=(q,I)→aj ⟨[(0,qa B),(3,.ptr 3 A 0 0),(5,.own 5005<|i7 0),(6,rB q),(9,rL B),(10,rI x2)],[(3,some<|.box A 39<|BO w),(5005,some<|.arr (i7 0) 39 2<|I.map AC.row)],(i7 1),52⟩:=by
   intro q I i7 e
   have h7:=an _ _ e
   exact ak _<|aR<|AG h7 λx4 ao h8=>xA R ao<|mM R<|Zh<|DN.mk h8 (AH [(i7 0),(i7 1)]) wk
  refine aU<|mM R<|mA R<|aZ<|aS λaq ar V=>aT λav=>?_
  refine ZA BA (by kernel_rfl) ?_
  refine qP R (AK R iL)<|qP R (A3 R iL)<|qP R (AK R iL)<|qO R (AK R iL)<|qO R (AK R iL)<|AG al λx5 aw h9=>qO R (Az R Ac.slice (iR R) (iR R) (λ_=>R)<|AU aw)<|qO R (A4 R B1<|iR R)<|qO R (Bc (d:=.str x5.Name) R A6 (iR R) R)<|qO R (fB R B1 iL fR R)<|qO R (AZ (a:=rS w.Name) R A6 (iR R) R R)<|qO R (Wy R (iR R)<|iR R)<|qP R (BI R iL<|iR R)<|AQ.nil<|av _<|IF h9 λp3 ab ax=>?_
  have J4:∀(u:Bool) (J:List AC) (i8:NN),p3=(u,J)→aq ⟨[(0,qa B),(3,.ptr 3 A 0 0),(5,.own 5005<|i8 0),(6,rB u),(7,rI x2),(9,rL B),(10,rI x2)],[(3,some<|.box A 39<|BO w),(5005,some<|.arr (i8 0) 39 2<|J.map AC.row)],(i8 1),52⟩:=by
   intro u J i8 e
   have ay:=ax _ _ e
   refine ar _<|aT λaz=>?_
   refine ZA BA (by kernel_rfl) ?_
   refine qP R (AK R iL)<|qP R (AK R iL)<|AG ay λx6 ac b0=>qP R (Az R Ac.slice iL iL (λ_=>R) λ_=>ac)<|qP R (A4 R B1 iL)<|qP R (Bc (d:=.str x6.Name) R A6 iL R)<|qP R (fB R B1 iL fR R)<|qP R (AZ (a:=rS w.Name) R A6 iL R R)<|qP R (DJ R iL iL)<|AQ.nil<|az _<|cI R b0 (λZ=>?_) λZ=>?_
   ·exact aR<|mM R<|mM R<|mM R<|xI Ac R ac<|xB ((BO x6)) CV R<|sS R (B3 42 R Ac (f:=AC.row) (l:=([x6]:List AC)) ⟨R,⟨_,iL,R⟩,Za⟩ R (λ_=>R) R)<|AG Z λb5 a0 b1=>sS R (Cj R Ac iL R (.inr<|.inl ⟨_,_,iL,R⟩) a0)<|mA R<|Zh<|U _ _ wk<|J3 _ _ (AH [((i8 1)+1),((i8 1)+2)]) (Zc b1).symm
   exact Zd<|U _ _ wk<|J3 _ _ (AH [(i8 0),(i8 1)]) (Zc Z).symm
  refine aC R (λa2=>?_) λa2=>?_
  ·have a6:=CF a2 ab
   refine aU<|mM R<|xC CV R<|sS R (B3 27 R Ac (f:=AC.row) (l:=([w]:List AC)) ⟨R,⟨_,iL,R⟩,Za⟩ R (λ_=>R) R)<|AG a6 λb2 O b3=>sS R (Cj R Ac iL R (.inr<|.inl ⟨_,_,iL,R⟩) O)<|mA R<|aZ<|aG [0,3,5,7,9,10] [3,5005] ?_
   exact aR<|mA R<|Zh<|V _ _ wk<|J4 _ _ (AH [((M 1)+1),((M 1)+2)]) (Zc b3).symm
  ·have a6:=CA a2 ab
   exact Zd<|V _ _ wk<|J4 _ _ (AH [(M 0),(M 1)]) (Zc a6).symm
 exact Zn<|ad _ _ wk<|J1 _ _ (AH [(M 0),(M 1)])<|xH ah h6
theorem WJ{Z c r}(h:H4 Z c=some r):AS prog 32 [qa Z,qa c] (qa r):=by
 unfold H4 at h
 refine mF func32 ntmps32 R λn0=>aU<|mA R<|aZ<|aU<|mA R<|aZ<|aS λK3 c3 ah=>aU<|mM R<|xL Ac R<|mM R<|aZ<|Zf<|BH h λo1 a0 ai=>?_
 have J1:∀(E:List AC) (i5:NN),o1=E→K3 ⟨[(1,qa c),(5,qa E)],[],(i5 0),54⟩:=by
  intro E i5 e
  have h1:=ai _ e
  refine c3 _<|aS λK5 c5 aj=>aU<|mM R<|xL Ac R<|mM R<|aZ<|Zf<|BH h1 λo2 a1 ak=>?_
  have J2:∀(j:List AC) (C:NN),o2=j→K5 ⟨[(5,qa j)],[],(C 0),54⟩:=by
   intro j C e
   have h2:=ak _ e
   refine c5 _<|aU<|mA R<|aZ<|aS λK8 c8 al=>aU<|mM R<|xL Ac R<|mM R<|aZ<|Zf<|BH h2 λo3 a2 an=>?_
   have J3:∀(q:List AC) (F:NN),o3=q→K8 ⟨[(8,.own 5008<|F 0)],[(5008,some<|.arr (F 0) 39 2<|q.map AC.row)],(F 1),54⟩:=by
    intro q F e
    have h3:=an _ e
    exact c8 _<|aU<|mM R<|mA R<|aZ<|Zj<|DU (P:=prog) (λ(r:(List AC))=>qa r) h3 iL<|.t<|.one<|.own R
   refine Dd (λ(x8:Int) (u:List AC) l=>⟨[(5,qa j),(8,.own 5008<|l 0),(35,rL j),(36,rI x8)],[(5008,some<|.arr (l 0) 39 2<|u.map AC.row)],(l 1),54⟩) (AH [(C 0),((C 0)+1)]) a2 (Zm (Zm (IE 8 5008 39 2 (by decide) R)<|by exact ZE (e':=[(5,qa j),(8,.own 5008<|C 0),(34,qa j),(35,rL j),(36,rI 0)]) (h':=[(5008,some<|.arr (C 0) 39 2<|([]:List AC).map AC.row)]) ⟨jL,jL,jL,jL,jL,Za⟩ ⟨.inl R,Za⟩ nL) wk) ?_
   intro x8 u l v1 ao aq
   have h4:Qx j x8 u=some v1:=ao;unfold Qx at h4
   refine aU<|xS R<|aZ<|aT λar=>cI R h4 (λh5=>?_) λh5=>?_
   ·refine Zd<|ar _<|aS λav aw M=>Zf<|BH h5 λp1 ax ay=>?_
    have J4:∀(w:List AC) (i16:NN),p1=w→av ⟨[(5,qa j),(8,.own 5008<|i16 0),(35,rL j),(36,rI x8)],[(5008,some<|.arr (i16 0) 39 2<|w.map AC.row)],(i16 1),54⟩:=by
     intro w i16 e
     have h6:=ay _ e
     exact aw _<|aR<|AG h6 λbf a6 h7=>xA R a6<|mM R<|Zh<|ZI h7 (AH [(i16 0),(i16 1)]) wk
    refine aU<|mM R<|mA R<|aZ<|aU<|mM R<|mM R<|AG ax λT O h8=>xI Ac R O<|sQ R (A4 R Jo iL)<|xV (.str T.Value) A6 R<|sQ R (DJ R iL iL)<|aZ<|cI R h8 (λh9=>?_) λh9=>?_
    ·exact aR<|mM R<|mM R<|mM R<|xI Ac R O<|xB ((BO T)) CV R<|sS R (B3 50 R Ac (f:=AC.row) (l:=([T]:List AC)) ⟨R,⟨_,iL,R⟩,Za⟩ R (λ_=>R) R)<|AG h9 λaz I b0=>sS R (Cj R Ac iL R (.inr<|.inl ⟨_,_,iL,R⟩) I)<|mA R<|Zh<|M _ _ wk<|J4 _ (AH [((l 1)+1),((l 1)+2)]) (Zc b0).symm
    exact Zd<|M _ _ wk<|J4 _ (AH [(l 0),(l 1)]) (Zc h9).symm
   exact Zn<|al _ _ wk<|J3 _ (AH [(l 0),(l 1)])<|xH aq h5
  refine Dd (λ(A:List AC) (x5:Int) i8=>⟨[(1,qa c),(5,qa A),(23,rL c),(24,rI x5)],[],(i8 0),54⟩) (AH [(i5 0)]) a1 wk ?_
  intro A x5 i8 v2 b1 b2
  have a7:QS c A x5=some v2:=b1;unfold QS at a7
  refine aU<|xS R<|aZ<|aT λb3=>cI R a7 (λU=>?_) λU=>?_
  ·refine Zd<|b3 _<|aT λb4=>Zf<|aU<|mM R<|mA R<|aZ<|aR<|mM R<|mM R<|mM R<|AG U λa8 aa b5=>xI Ac R aa<|xB ((BO a8)) CV R<|AG b5 λab V b6=>sS R (C0 (r:=qa ab) (caps:=[]) (bs:=[qa A,.agg<|BO a8]) R iL R ⟨.inl ⟨iL,R⟩,.inl ⟨iL,R⟩,Za⟩ λ_=>Z3<|V)<|mA R<|aZ<|b4 _<|aF [1,5,23,24] ?_
   exact aR<|AG b6 λbg ac b7=>xA R ac<|mM R<|Zh<|ZI b7 (AH [(i8 0)]) wk
  exact Zn<|aj _ _ wk<|J2 _ (AH [(i8 0)])<|xH b2 U
 refine Dd (λ(B:List AC) (x2:Int) i3=>⟨[(0,qa Z),(1,qa c),(5,qa B),(11,rL Z),(12,rI x2)],[],(i3 0),54⟩) (AH [n0]) a0 ((by exact ZE ⟨jL,jL,.inl<|.inr<|.inr ⟨R,R⟩,jL,jL,Za⟩ Za nL)) ?_
 intro B x2 i3 v3 b8 b9
 have ad:OH Z B x2=some v3:=b8;unfold OH at ad
 refine aU<|xS R<|aZ<|aT λba=>cI R ad (λX=>?_) λX=>?_
 ·refine Zd<|ba _<|aT λbb=>Zf<|aU<|mM R<|mA R<|aZ<|aR<|mM R<|mM R<|mM R<|AG X λae af bc=>xI Ac R af<|xB ((BO ae)) CV R<|AG bc λY J bd=>sS R (C0 (r:=qa Y) (caps:=[]) (bs:=[qa B,.agg<|BO ae]) R iL R ⟨.inl ⟨iL,R⟩,.inl ⟨iL,R⟩,Za⟩ λ_=>Z3<|J)<|mA R<|aZ<|bb _<|aF [0,1,5,11,12] ?_
  exact aR<|AG bd λbh ag be=>xA R ag<|mM R<|Zh<|ZI be (AH [(i3 0)]) wk
 exact Zn<|ah _ _ wk<|J1 _ (AH [(i3 0)])<|xH b9 X
theorem tO{f1 a b c g r}(h:Og f1 a b c g=some r):AS prog 10 [qb f1,rI a,rI b,qb c,rS g] (qb r):=by
 unfold Og at h
 refine mF func10 ntmps10 R λn0=>aU<|mA R<|aZ<|aU<|mM R<|AG h λj C h1=>sS R (C0 (r:=.r<|.sl<|j.map<|Ai .i64) (caps:=[]) (bs:=[qb f1,rI 0]) R iL R ⟨.inl ⟨iL,R⟩,.inl ⟨iL,R⟩,Za⟩ λ_=>ec<|C)<|mA R<|aZ<|aU<|mA R<|aZ<|aS λK4 c4 ai=>aU<|mM R<|sQ R (A9 R iL iL)<|aZ<|BH h1 λp1 aj b0=>?_
 have J1:∀(q:Int) (i1:NN),p1=q→K4 ⟨[(0,qb f1),(1,rI a),(2,rI b),(3,qb c),(4,rS g),(11,.r<|.sl<|j.map<|Ai .i64),(12,rI q)],[],(i1 0),113⟩:=by
  intro q i1 e
  have h2:=b0 _ e
  refine c4 _<|aU<|mA R<|aZ<|aU<|mA R<|aZ<|aS λK8 c8 ak=>aU<|mA R<|aZ<|Zf<|BH h2 λo1 al b1=>?_
  have J2:∀(E:List AD) (i9:NN),o1=E→K8 ⟨[(13,.own 5013<|i9 0)],[(5013,some<|.arr (i9 0) 37 3<|E.map AD.row)],(i9 1),113⟩:=by
   intro E i9 e
   have h3:=b1 _ e
   exact c8 _<|aU<|mM R<|mA R<|aZ<|Zj<|DU (P:=prog) (λ(r:(List AD))=>qb r) h3 iL<|.t<|.one<|.own R
  refine Gk (λ(V:Int) (M:Int) (F:List AD) O=>⟨[(0,qb f1),(1,rI a),(2,rI b),(3,qb c),(4,rS g),(11,.r<|.sl<|j.map<|Ai .i64),(12,rI q),(13,.own 5013<|O 0),(14,rI V),(15,rI M)],[(5013,some<|.arr (O 0) 37 3<|F.map AD.row)],(O 1),113⟩) (AH [(i1 0),((i1 0)+1)]) al (Zm (Zm (IE 13 5013 37 3 (by decide) R)<|by exact ZE (e':=[(0,qb f1),(1,rI a),(2,rI b),(3,qb c),(4,rS g),(11,.r<|.sl<|j.map<|Ai .i64),(12,rI q),(13,.own 5013<|i1 0),(14,rI 0),(15,rI 0)]) (h':=[(5013,some<|.arr (i1 0) 37 3<|([]:List AD).map AD.row)]) ⟨jL,jL,jL,jL,jL,jL,jL,jL,jL,jL,Za⟩ ⟨.inl R,Za⟩ nL) wk) ?_
  intro V M F O v1 b2 an
  have h4:Jh f1 a b c g j q V M F=some v1:=b2;unfold Jh at h4
  refine aT λb3=>aU<|mM R<|mM R<|xL Ah R<|sQ R (FG R iL iL)<|aZ<|cI R h4 (λh5=>?_) λh5=>?_
  ·refine Zd<|b3 _<|aS λb4 b5 X=>Zf<|Jn h5 λp2 b6 b7 b8=>?_
   have J3:∀(k4:Int) (I:List AD) (B:NN),p2=.nrm (k4,I)→b4 ⟨[(0,qb f1),(1,rI a),(2,rI b),(3,qb c),(4,rS g),(11,.r<|.sl<|j.map<|Ai .i64),(12,rI q),(13,.own 5013<|B 0),(14,rI k4),(15,rI M)],[(5013,some<|.arr (B 0) 37 3<|I.map AD.row)],(B 1),113⟩:=by
    intro k4 I B e
    have h6:=b7 _ _ e
    exact b5 _<|aR<|mM R<|AG h6 λct ao h7=>xA R ao<|mA R<|Zh<|DN.mk h7 (AH [(B 0),(B 1)]) wk
   refine aS λb9 ba Y=>aU<|mM R<|mM R<|xQ R<|aZ<|BH b6 λp3 aq bb=>?_
   have J4:∀(w:List AD) (l:NN),p3=w→b9 ⟨[(0,qb f1),(1,rI a),(2,rI b),(3,qb c),(4,rS g),(11,.r<|.sl<|j.map<|Ai .i64),(12,rI q),(13,.own 5013<|l 0),(14,rI V),(15,rI M)],[(5013,some<|.arr (l 0) 37 3<|w.map AD.row)],(l 1),113⟩:=by
    intro w l e
    have h8:=bb _ e
    refine ba _<|aT λbc=>aU<|mM R<|mM R<|xL Ah R<|xQ R<|aZ<|cI R h8 (λh9=>?_) λh9=>?_
    ·exact Zn<|ak _ _ wk<|J2 _ (AH [(l 0),(l 1)])<|an _ (Zc<|b8 _ (Zc h9).symm).symm
    refine Zd<|bc _<|aU<|mM R<|mM R<|AG h9 λx1 bd be=>xI Ah R bd<|xB ((A5 x1)) Dc R<|sS R (BF (cs:=Fh) 18 R Ft R R)<|Zk R R (Aj (ds:=(A5 x1)) R EY iL R iL R R R R)<|aZ<|aS λbf bg Z=>aU<|mM R<|mM R<|xL CN R<|xS R<|mM R<|vM R<|vM R<|AG be λx2 bh bi=>vQ R (Az R CN.slice (iR R) (iR R) (λ_=>R)<|AU bh)<|vQ R (Bc (d:=.int .i64 x2) R AJ (iR R) R)<|vM R<|vQ R (Am R (iR R)<|iR R)<|xN R<|aZ<|Jn bi λp4 ar bj bk=>?_
    have J5:∀(k5:Int) (x3:AD) (T:NN),p4=.nrm (k5,x3)→bf ⟨[(0,qb f1),(1,rI a),(2,rI b),(3,qb c),(4,rS g),(11,.r<|.sl<|j.map<|Ai .i64),(12,rI q),(13,.own 5013<|l 0),(14,rI k5),(15,rI M),(18,.ptr 18 (l 1) 0 0)],[(18,some<|.box (l 1) 37<|A5 x3),(5013,some<|.arr (l 0) 37 3<|w.map AD.row)],(T 0),113⟩:=by
     intro k5 x3 T e
     have bl:=bj _ _ e
     exact bg _<|aR<|mM R<|xC Dc R<|sS R (B3 110 R Ah (f:=AD.row) (l:=([x3]:List AD)) ⟨R,⟨_,iL,R⟩,Za⟩ R (λ_=>R) R)<|AG bl λcr a1 bm=>sS R (Cj R Ah iL R (.inr<|.inl ⟨_,_,iL,R⟩) a1)<|mA R<|Zh<|X _ _ wk<|J3 _ _ (AH [((T 0)+1),((T 0)+2)]) (Zc bm).symm
    refine aC R (λa2=>?_) λa2=>?_
    ·have a6:=CF a2 ar
     refine aS λbn bo a0=>aT λbp=>aG [0,1,2,3,4,11,12,13,14,15,18] [18,5013] ?_
     refine aR<|mM R<|mM R<|sQ R (C1 R iL iL)<|mM R<|vM R<|vM R<|vQ R (B5 R (iR R)<|iR R)<|xN R<|aZ<|bp _<|BP a6 λp5 av bq br=>?_
     have J6:∀(x4:AD) (a7:NN),p5=.nrm x4→bn ⟨[(0,qb f1),(1,rI a),(2,rI b),(3,qb c),(4,rS g),(11,.r<|.sl<|j.map<|Ai .i64),(12,rI q),(13,.own 5013<|l 0),(14,rI V),(15,rI M),(18,.ptr 18 (l 1) 0 0)],[(18,some<|.box (l 1) 37<|A5 x4),(5013,some<|.arr (l 0) 37 3<|w.map AD.row)],(a7 0),113⟩:=by
      intro x4 a7 e
      have bs:=bq _ e
      exact bo _<|aR<|mM R<|AG bs λk6 bt bu=>xA R bt<|mA R<|Zh<|Z _ _ wk<|J5 _ _ (AH [(a7 0)]) (Zc bu).symm
     refine aC R (λa8=>?_) λa8=>?_
     ·have aa:=CF a8 av
      refine aT λbv=>aU<|mM R<|sQ R (Cz R iL iL)<|mM R<|vF DA BD R R<|AG aa λr1 bw bx=>vL (λhg=>fO<|AU bw hg) R<|vM R<|vQ R (Cz R (iR R)<|iR R)<|xO R<|aZ<|cI R bx (λab=>?_) λab=>?_
      ·refine aT λbz=>aG [0,1,2,3,4,11,12,13,14,15] [5013] ?_
       exact aR<|mM R<|AG ab λk7 c0 c1=>xA R c0<|mA R<|aZ<|bz _<|Zn<|X _ _ wk<|J3 _ _ (AH [(l 0),((l 1)+1)]) (Zc<|bk _ (Zc<|br _ (Zc c1).symm).symm).symm
      refine Zd<|bv _<|aG [0,1,2,3,4,11,12,13,14,15,18] [18,5013] ?_
      refine aR<|lF DA BD R R<|mM R ?_
      refine sQ R (Bt R GJ (q:=[(0,_),(1,_)]) (by exact⟨R,R,R,iL,R,R,R,iL,Za⟩) (cs:=[.r<|.str [99,117,116],rS g])<|by rfl) ?_
      refine sS R (B3 103 R Ac (f:=AC.row) (l:=([(AC.mk [99,117,116] g)]:List AC)) ⟨R,⟨_,iL,R⟩,Za⟩ R (λ_=>R) R) ?_
      refine AL.weak (by exact Ae.frz (e':=[(0,qb f1),(1,rI a),(2,rI b),(3,qb c),(4,rS g),(11,.r<|.sl<|j.map<|Ai .i64),(12,rI q),(13,.own 5013<|l 0),(14,rI V),(15,rI M),(18,.ptr 18 (l 1) 0 0),(99,.ptr 18 (l 1) 0 2),(100,qa x1.Attrs),(101,rS g),(102,.agg [.r<|.str [99,117,116],rS g]),(103,.r<|.sl<|[(AC.mk [99,117,116] g)].map AC.row)]) (h':=[(18,some<|.box (l 1) 37<|A5 x1),(5013,some<|.arr (l 0) 37 3<|w.map AD.row)]) 103 R ⟨jL,jL,jL,jL,jL,jL,jL,jL,jL,jL,jL,jL,jL,jL,jL,.inl<|.inr<|.inr ⟨R,R⟩,Za⟩ ⟨R,.inl R,R,.inl R,Za⟩) ?_
      exact AG ab λr2 c2 c3=>sS R (C0 (r:=qa r2) (caps:=[]) (bs:=[qa x1.Attrs,.r<|.sl<|[(AC.mk [99,117,116] g)].map AC.row]) R iL R ⟨.inl ⟨iL,R⟩,.inl ⟨iL,R⟩,Za⟩ λ_=>WJ<|c2)<|sQ R (fB R DA iL fR R)<|Zk R R (Aj (ds:=[rI x1.Char,rI x1.Ref,qa r2]) R Gf iL R iL R R R R)<|Zh<|a0 _ _ wk<|J6 _ (AH [((l 1)+2)]) (Zc c3).symm
     ·have aa:=CA a8 av
      exact Zd<|a0 _ _ wk<|J6 _ (AH [((l 1)+1)]) (Zc aa).symm
    ·have a6:=CA a2 ar
     exact Zd<|Z _ _ wk<|J5 _ _ (AH [((l 1)+1)]) (Zc a6).symm
   refine aC R (λac=>?_) λac=>?_
   ·have ad:=CF ac aq
    refine aU<|mM R<|xL Ah R<|mM R<|aZ<|Zf<|BP ad λo2 aw cu c5=>Dd (λ(x6:Int) (A:List AD) u=>⟨[(0,qb f1),(1,rI a),(2,rI b),(3,qb c),(4,rS g),(11,.r<|.sl<|j.map<|Ai .i64),(12,rI q),(13,.own 5013<|u 0),(14,rI V),(15,rI M),(39,rL c),(40,rI x6)],[(5013,some<|.arr (u 0) 37 3<|A.map AD.row)],(u 1),113⟩) (AH [(O 0),(O 1)]) aw wk ?_
    intro x6 A u v2 c6 c7
    have ax:Ij c g x6 A=some v2:=c6;unfold Ij at ax
    refine aU<|xS R<|aZ<|aT λc9=>cI R ax (λae=>?_) λae=>?_
    ·refine Zd<|c9 _<|aT λca=>Zf<|aU<|mM R<|mA R<|aZ<|aU<|mM R<|mM R<|AG ae λJ cb cc=>xI Ah R cb<|xB ((A5 J)) Dc R<|sS R (BF (cs:=Fh) 17 R Ft R R)<|Zk R R (Aj (ds:=(A5 J)) R EY iL R iL R R R R)<|aZ<|aT λcd=>aR<|lF DA BD R R<|mM R ?_
     refine sQ R (Bt R GJ (q:=[(0,_),(1,_)]) (by exact⟨R,R,R,iL,R,R,R,iL,Za⟩) (cs:=[.r<|.str [97,100,100],rS g])<|by rfl) ?_
     refine sQ R (Bt R GJ (q:=[(0,_)]) (by exact⟨R,R,R,iL,Za⟩) (cs:=TV)<|by rfl) ?_
     refine sS R (B3 52 R Ac (f:=AC.row) (l:=([(AC.mk [97,100,100] g),(AC.mk [99,117,116] [])]:List AC)) ⟨R,⟨_,iL,R⟩,R,⟨_,iL,R⟩,Za⟩ R (λ_=>R) R) ?_
     refine AL.weak (by exact Ae.frz (e':=[(0,qb f1),(1,rI a),(2,rI b),(3,qb c),(4,rS g),(11,.r<|.sl<|j.map<|Ai .i64),(12,rI q),(13,.own 5013<|u 0),(14,rI V),(15,rI M),(16,rI x6),(17,.ptr 17 (u 1) 0 0),(39,rL c),(40,rI x6),(41,rB<|(decide<|x6<(c.length:Int))),(42,rI x6),(43,qb c),(44,rI x6),(45,.rop (AD.row J) 0),(46,.agg<|A5 J),(47,.ptr 17 (u 1) 0 2),(48,qa J.Attrs),(49,rS g),(50,.agg [.r<|.str [97,100,100],rS g]),(51,.agg TV),(52,.r<|.sl<|[(AC.mk [97,100,100] g),(AC.mk [99,117,116] [])].map AC.row)]) (h':=[(17,some<|.box (u 1) 37<|A5 J),(5013,some<|.arr (u 0) 37 3<|A.map AD.row)]) 52 R ⟨jL,jL,jL,jL,jL,jL,jL,jL,jL,jL,jL,jL,jL,jL,jL,jL,jL,jL,jL,jL,jL,jL,jL,jL,jL,.inl<|.inr<|.inr ⟨R,R⟩,Za⟩ ⟨R,.inl R,R,.inl R,Za⟩) ?_
     refine AG cc λr3 cf cg=>sS R (C0 (r:=qa r3) (caps:=[]) (bs:=[qa J.Attrs,.r<|.sl<|[(AC.mk [97,100,100] g),(AC.mk [99,117,116] [])].map AC.row]) R iL R ⟨.inl ⟨iL,R⟩,.inl ⟨iL,R⟩,Za⟩ λ_=>WJ<|cf)<|sQ R (fB R DA iL fR R)<|Zk R R (Aj (ds:=[rI J.Char,rI J.Ref,qa r3]) R Gf iL R iL R R R R)<|aZ<|cd _<|aG [0,1,2,3,4,11,12,13,14,15,17,39,40] [17,5013] ?_
     exact aR<|mM R<|xC Dc R<|sS R (B3 57 R Ah (f:=AD.row) (l:=([(AD.mk J.Char J.Ref r3)]:List AD)) ⟨R,⟨_,iL,R⟩,Za⟩ R (λ_=>R) R)<|AG cg λch U cj=>sS R (Cj R Ah iL R (.inr<|.inl ⟨_,_,iL,R⟩) U)<|mA R<|aZ<|ca _<|aR<|AG cj λx9 ck cl=>xA R ck<|mM R<|Zh<|ZI cl (AH [((u 1)+3),((u 1)+4)]) wk
    exact Zn<|Y _ _ wk<|J4 _ (AH [(u 0),(u 1)]) (Zc<|c5 _<|xH c7 ae).symm
   ·have ad:=CA ac aq
    exact Zd<|Y _ _ wk<|J4 _ (AH [(O 0),(O 1)]) (Zc ad).symm
  exact Zn<|ak _ _ wk<|J2 _ (AH [(O 0),(O 1)])<|xH an h5
 refine aC R (λaf=>?_) λaf=>?_
 ·have ag:=CF af aj
  exact aR<|mM R<|mM R<|AG ag λcv ay cm=>sQ R (CG R iL iL λ_=>ay)<|AG cm λcn az cp=>xI CN R az<|xV (.int .i64 cn) AJ R<|AG cp λcs ah cq=>xA R ah<|mA R<|Zh<|ai _ _ wk<|J1 _ (AH [n0]) (Zc cq).symm
 ·have ag:=CA af aj
  exact Zd<|ai _ _ wk<|J1 _ (AH [n0]) (Zc ag).symm
theorem SB{j u r}(h:Hi j u=some r):AS prog 40 [qa j,qa u] (rB r):=by
 unfold Hi at h
 refine mF func40 ntmps40 R λn0=>aU<|mA R<|aZ<|aT λc2=>aU<|mM R<|xL Ac R<|mM R<|xL Ac R<|xU R<|aZ<|cI R h (λA=>?_) λA=>?_
 ·exact zB A R id
 refine Zd<|c2 _<|aS λK5 c5 B=>aU<|mM R<|xL Ac R<|mM R<|aZ<|Zf<|BP A λo1 l C E=>?_
 have J1:∀(Y:Unit) (Z:NN),o1=.nrm Y→K5 ⟨[],[],(Z 0),26⟩:=by
  intro Y Z e
  have h2:=C _ e
  exact c5 _<|zB h2 R id
 refine Zz (λ(F:Int) w=>⟨[(0,qa j),(1,qa u),(12,rL j),(13,rI F)],[],(w 0),26⟩) (AH [n0]) l wk ?_
 intro F w v1 I q
 have h3:OW j u F=some v1:=I;unfold OW at h3
 refine aU<|xS R<|aZ<|aT λc9=>cI R h3 (λJ=>?_) λJ=>?_
 ·refine Zd<|c9 _<|aT λM=>Zf<|aU<|mM R<|mA R<|aZ<|aT λO=>?_
  refine ZA BA (by kernel_rfl) ?_
  refine qP R (AK R iL)<|qP R (AK R iL)<|AG J λx4 T h5=>qP R (Az R Ac.slice iL iL (λ_=>R) λ_=>T)<|qP R (Ci (cs:=(BO x4)) R CV iL R R)<|qP R (AK R iL)<|qP R (AK R iL)<|AG h5 λx5 U h6=>qP R (Az R Ac.slice iL iL (λ_=>R) λ_=>U)<|qP R (Ci (cs:=(BO x5)) R CV iL R R)<|qP R (L6 R Ya iL iL R)<|AQ.nil<|O _<|cI R h6 (λV=>?_) λV=>?_
  ·exact zB (E _<|xH q V) R id
  refine Zd<|M _<|aF [0,1,12,13] ?_
  exact aR<|AG V λx6 X h8=>xA R X<|mM R<|Zh<|Zx h8 (AH [(w 0)]) wk
 exact Zn<|B _ _ wk<|J1 _ (AH [(w 0)])<|xH q J
theorem nY{j l r}(h:Qu j l=some r):AS prog 64 [.agg<|A5 j,.agg<|A5 l] (rB r):=by
 unfold Qu at h
 exact mF func64 ntmps64 R λw=>aU<|sS R (A2 (cs:=(A5 j)) 2 R iL R R)<|sS R (A2 (cs:=(A5 l)) 3 R iL R R)<|mA R<|aZ<|aU<|lF Ek AJ R R<|lF Ek AJ R R<|xQ R<|mM R<|vF D9 AJ R R<|vF D9 AJ R R<|vQ R (Am R (iR R)<|iR R)<|xN R<|mM R<|vF DA BD R R<|vF DA BD R R<|AG h λA q u=>vL (λhg=>SB<|AU q hg) R<|xN R<|mA R<|aZ<|Zj<|yB u R
theorem cW{j A r}(h:L3 j A=some r):AS prog 29 [qb j,qb A] (rB r):=by
 unfold L3 at h
 refine mF func29 ntmps29 R λn0=>aU<|mA R<|aZ<|aT λc2=>aU<|mM R<|xL Ah R<|mM R<|xL Ah R<|xU R<|aZ<|cI R h (λC=>?_) λC=>?_
 ·exact zB C R id
 refine Zd<|c2 _<|aS λK5 c5 E=>aU<|mM R<|xL Ah R<|mM R<|aZ<|Zf<|BP C λo1 l F I=>?_
 have J1:∀(u2:Unit) (i5:NN),o1=.nrm u2→K5 ⟨[],[],(i5 0),27⟩:=by
  intro u2 i5 e
  have h2:=F _ e
  exact c5 _<|zB h2 R id
 refine Zz (λ(J:Int) B=>⟨[(0,qb j),(1,qb A),(12,rL j),(13,rI J)],[],(B 0),27⟩) (AH [n0]) l wk ?_
 intro J B v1 M q
 have h3:OK j A J=some v1:=M;unfold OK at h3
 refine aU<|xS R<|aZ<|aT λc9=>cI R h3 (λO=>?_) λO=>?_
 ·refine Zd<|c9 _<|aT λT=>Zf<|aU<|mM R<|mA R<|aZ<|aT λU=>?_
  refine ZA BA (by kernel_rfl) ?_
  refine qP R (AK R iL)<|qP R (AK R iL)<|AG O λu V h5=>qP R (Az R Ah.slice iL iL (λ_=>R) λ_=>V)<|qP R (Ci (cs:=(A5 u)) R Dc iL R R)<|qP R (AK R iL)<|qP R (AK R iL)<|AG h5 λw X h6=>qP R (Az R Ah.slice iL iL (λ_=>R) λ_=>X)<|qP R (Ci (cs:=(A5 w)) R Dc iL R R)<|AG h6 λr1 Y h7=>Fw R R R (r:=rB r1) (caps:=[]) (bs:=[.agg<|A5 u,.agg<|A5 w]) R iL R ⟨⟨_,iL,.g (cs:=[.int .i64 u.Char,.int .i64 u.Ref,.sl<|u.Attrs.map AC.row]) R R⟩,⟨_,iL,.g (cs:=[.int .i64 w.Char,.int .i64 w.Ref,.sl<|w.Attrs.map AC.row]) R R⟩,Za⟩ (λ_=>nY<|Y) R<|qP R (A3 R iL)<|AQ.nil<|U _<|cI R h7 (λZ=>?_) λZ=>?_
  ·exact zB (I _<|xH q Z) R id
  refine Zd<|T _<|aF [0,1,12,13] ?_
  exact aR<|AG Z λx6 a0 h9=>xA R a0<|mM R<|Zh<|Zx h9 (AH [(B 0)]) wk
 exact Zn<|E _ _ wk<|J1 _ (AH [(B 0)])<|xH q O
theorem nK{j l r}(h:O3 j l=some r):AS prog 168 [.agg<|B0 j,.agg<|B0 l] (rB r):=by
 unfold O3 at h
 exact mF func168 ntmps168 R λA=>aU<|sS R (A2 (cs:=(B0 j)) 2 R iL R R)<|sS R (A2 (cs:=(B0 l)) 3 R iL R R)<|mA R<|aZ<|aT λu=>aR<|lF GA AJ R R<|lF GA AJ R R<|xQ R<|mM R<|vF HD AJ R R<|vF HD AJ R R<|vQ R (Am R (iR R)<|iR R)<|xN R<|mM R<|vF HV A6 R R<|vF HV A6 R R<|vQ R (Cz R (iR R)<|iR R)<|xN R<|mM R<|vF Fb AJ R R<|vF Fb AJ R R<|vQ R (Am R (iR R)<|iR R)<|xN R<|mM R<|vF Hf BD R R<|vF Hf BD R R<|AG h λB q w=>vL (λhg=>SB<|AU q hg) R<|xN R<|mA R<|aZ<|u _<|Zj<|yB w R
theorem lR{q A r}(h:O4 q A=some r):AS prog 131 [qe q,qe A] (rB r):=by
 unfold O4 at h
 refine mF func131 ntmps131 R λn0=>aU<|mA R<|aZ<|aT λc2=>aU<|mM R<|xL Cm R<|mM R<|xL Cm R<|xU R<|aZ<|cI R h (λC=>?_) λC=>?_
 ·exact zB C R id
 refine Zd<|c2 _<|aS λK5 c5 E=>aU<|mM R<|xL Cm R<|mM R<|aZ<|Zf<|BP C λo1 u F I=>?_
 have J1:∀(u2:Unit) (i5:NN),o1=.nrm u2→K5 ⟨[],[],(i5 0),27⟩:=by
  intro u2 i5 e
  have h2:=F _ e
  exact c5 _<|zB h2 R id
 refine Zz (λ(J:Int) B=>⟨[(0,qe q),(1,qe A),(12,rL q),(13,rI J)],[],(B 0),27⟩) (AH [n0]) u wk ?_
 intro J B v1 M w
 have h3:Nw q A J=some v1:=M;unfold Nw at h3
 refine aU<|xS R<|aZ<|aT λc9=>cI R h3 (λO=>?_) λO=>?_
 ·refine Zd<|c9 _<|aT λT=>Zf<|aU<|mM R<|mA R<|aZ<|aT λU=>?_
  refine ZA BA (by kernel_rfl) ?_
  refine qP R (AK R iL)<|qP R (AK R iL)<|AG O λj V h5=>qP R (Az R Cm.slice iL iL (λ_=>R) λ_=>V)<|qP R (Ci (cs:=(B0 j)) R Fc iL R R)<|qP R (AK R iL)<|qP R (AK R iL)<|AG h5 λl X h6=>qP R (Az R Cm.slice iL iL (λ_=>R) λ_=>X)<|qP R (Ci (cs:=(B0 l)) R Fc iL R R)<|AG h6 λr1 Y h7=>Fw R R R (r:=rB r1) (caps:=[]) (bs:=[.agg<|B0 j,.agg<|B0 l]) R iL R ⟨⟨_,iL,.g (cs:=[.int .i64 j.Row,.int .i64 j.Col,.str j.Text,.int .i64 j.Ref,.sl<|j.Attrs.map AC.row]) R R⟩,⟨_,iL,.g (cs:=[.int .i64 l.Row,.int .i64 l.Col,.str l.Text,.int .i64 l.Ref,.sl<|l.Attrs.map AC.row]) R R⟩,Za⟩ (λ_=>nK<|Y) R<|qP R (A3 R iL)<|AQ.nil<|U _<|cI R h7 (λZ=>?_) λZ=>?_
  ·exact zB (I _<|xH w Z) R id
  refine Zd<|T _<|aF [0,1,12,13] ?_
  exact aR<|AG Z λx6 a0 h9=>xA R a0<|mM R<|Zh<|Zx h9 (AH [(B 0)]) wk
 exact Zn<|E _ _ wk<|J1 _ (AH [(B 0)])<|xH w O
theorem oL{j u r}(h:Qs j u=some r):AS prog 132 [qd j,qd u] (rB r):=by
 unfold Qs at h
 refine mF func132 ntmps132 R λn0=>aU<|mA R<|aZ<|aT λc2=>aU<|mM R<|xL Cp R<|mM R<|xL Cp R<|xU R<|aZ<|cI R h (λA=>?_) λA=>?_
 ·exact zB A R id
 refine Zd<|c2 _<|aS λK5 c5 B=>aU<|mM R<|xL Cp R<|mM R<|aZ<|Zf<|BP A λo1 l C E=>?_
 have J1:∀(Y:Unit) (Z:NN),o1=.nrm Y→K5 ⟨[],[],(Z 0),26⟩:=by
  intro Y Z e
  have h2:=C _ e
  exact c5 _<|zB h2 R id
 refine Zz (λ(F:Int) w=>⟨[(0,qd j),(1,qd u),(12,rL j),(13,rI F)],[],(w 0),26⟩) (AH [n0]) l wk ?_
 intro F w v1 I q
 have h3:P6 j u F=some v1:=I;unfold P6 at h3
 refine aU<|xS R<|aZ<|aT λc9=>cI R h3 (λJ=>?_) λJ=>?_
 ·refine Zd<|c9 _<|aT λM=>Zf<|aU<|mM R<|mA R<|aZ<|aT λO=>?_
  refine ZA BA (by kernel_rfl) ?_
  refine qP R (AK R iL)<|qP R (AK R iL)<|AG J λx4 T h5=>qP R (Az R Cp.slice iL iL (λ_=>R) λ_=>T)<|qP R (Ci (cs:=(BR x4)) R El iL R R)<|qP R (AK R iL)<|qP R (AK R iL)<|AG h5 λx5 U h6=>qP R (Az R Cp.slice iL iL (λ_=>R) λ_=>U)<|qP R (Ci (cs:=(BR x5)) R El iL R R)<|qP R (L6 R YZ iL iL R)<|AQ.nil<|O _<|cI R h6 (λV=>?_) λV=>?_
  ·exact zB (E _<|xH q V) R id
  refine Zd<|M _<|aF [0,1,12,13] ?_
  exact aR<|AG V λx6 X h8=>xA R X<|mM R<|Zh<|Zx h8 (AH [(w 0)]) wk
 exact Zn<|B _ _ wk<|J1 _ (AH [(w 0)])<|xH q J
theorem qM{j l r}(h:Qe j l=some r):AS prog 104 [.agg<|DZ j,.agg<|DZ l] (rB r):=by
 unfold Qe at h
 exact mF func104 ntmps104 R λB=>aU<|sS R (A2 (cs:=(DZ j)) 2 R iL R R)<|sS R (A2 (cs:=(DZ l)) 3 R iL R R)<|mA R<|aZ<|aU<|lF GT AJ R R<|lF GT AJ R R<|xQ R<|mM R<|vF GO AJ R R<|vF GO AJ R R<|vQ R (Am R (iR R)<|iR R)<|xN R<|mM R<|vF F2 FR R R<|vF F2 FR R R<|AG h λC q w=>vL (λhg=>lR<|AU q hg) R<|xN R<|mM R<|vF Fl D2 R R<|vF Fl D2 R R<|AG w λE u A=>vL (λhg=>oL<|AU u hg) R<|xN R<|mA R<|aZ<|Zj<|yB A R
theorem pz{j u r}(h:Ph j u=some r):AS prog 83 [qf j,qf u] (rB r):=by
 unfold Ph at h
 refine mF func83 ntmps83 R λn0=>aU<|mA R<|aZ<|aT λc2=>aU<|mM R<|xL Eu R<|mM R<|xL Eu R<|xU R<|aZ<|cI R h (λA=>?_) λA=>?_
 ·exact zB A R id
 refine Zd<|c2 _<|aS λK5 c5 B=>aU<|mM R<|xL Eu R<|mM R<|aZ<|Zf<|BP A λo1 l C E=>?_
 have J1:∀(Y:Unit) (Z:NN),o1=.nrm Y→K5 ⟨[],[],(Z 0),26⟩:=by
  intro Y Z e
  have h2:=C _ e
  exact c5 _<|zB h2 R id
 refine Zz (λ(F:Int) w=>⟨[(0,qf j),(1,qf u),(12,rL j),(13,rI F)],[],(w 0),26⟩) (AH [n0]) l wk ?_
 intro F w v1 I q
 have h3:Qm j u F=some v1:=I;unfold Qm at h3
 refine aU<|xS R<|aZ<|aT λc9=>cI R h3 (λJ=>?_) λJ=>?_
 ·refine Zd<|c9 _<|aT λM=>Zf<|aU<|mM R<|mA R<|aZ<|aT λO=>?_
  refine ZA BA (by kernel_rfl) ?_
  refine qP R (AK R iL)<|qP R (AK R iL)<|AG J λx4 T h5=>qP R (Az R Eu.slice iL iL (λ_=>R) λ_=>T)<|qP R (Ci (cs:=(Cf x4)) R Ig iL R R)<|qP R (AK R iL)<|qP R (AK R iL)<|AG h5 λx5 U h6=>qP R (Az R Eu.slice iL iL (λ_=>R) λ_=>U)<|qP R (Ci (cs:=(Cf x5)) R Ig iL R R)<|qP R (L6 R tM iL iL R)<|AQ.nil<|O _<|cI R h6 (λV=>?_) λV=>?_
  ·exact zB (E _<|xH q V) R id
  refine Zd<|M _<|aF [0,1,12,13] ?_
  exact aR<|AG V λx6 X h8=>xA R X<|mM R<|Zh<|Zx h8 (AH [(w 0)]) wk
 exact Zn<|B _ _ wk<|J1 _ (AH [(w 0)])<|xH q J
theorem im{j l r}(h:LG j l=some r):AS prog 59 [.agg<|Bp j,.agg<|Bp l] (rB r):=by
 unfold LG at h
 exact mF func59 ntmps59 R λJ=>aU<|sS R (A2 (cs:=(Bp j)) 2 R iL R R)<|sS R (A2 (cs:=(Bp l)) 3 R iL R R)<|mA R<|aZ<|aT λB=>aR<|lF Ei AJ R R<|lF Ei AJ R R<|xQ R<|mM R<|vF Cy AJ R R<|vF Cy AJ R R<|vQ R (Am R (iR R)<|iR R)<|xN R<|mM R<|vF TZ BD R R<|vF TZ BD R R<|AG h λM q C=>vL (λhg=>SB<|AU q hg) R<|xN R<|mM R<|vF FP B9 R R<|vF FP B9 R R<|AG C λO u E=>vL (λhg=>cW<|AU u hg) R<|xN R<|mM R<|vQ R (fB R Ga iL fR R)<|vQ R (HQ (ds:=(DZ j.Grid)) R ME (iR R) R R R)<|vQ R (fB R Ga iL fR R)<|vQ R (HQ (ds:=(DZ l.Grid)) R ME (iR R) R R R)<|AG E λT w F=>vL (λhg=>qM<|AU w hg) R<|xN R<|mM R<|vF JQ HM R R<|vF JQ HM R R<|AG F λU A I=>vL (λhg=>pz<|AU A hg) R<|xN R<|mA R<|aZ<|B _<|Zj<|yB I R
theorem la{j r}(h:Pc j=some r):AS prog 112 (PZ j) (rI r):=by
 unfold Pc at h
 refine mF func112 ntmps112 R λn0=>aU<|sS R (A2 (cs:=(Bn j)) 1 R iL R R)<|mA R<|aZ<|aT λY=>aU<|lF CH AJ R R<|AG h λr1 l Z=>cL (DX<|l) R<|sQ R (A3 R iL)<|aZ<|cI R Z (λq=>?_) λq=>?_
 ·exact zI q R id
 refine Zd<|Y _<|aT λc5=>aU<|lF CH AJ R R<|xQ R<|aZ<|cI R q (λu=>?_) λu=>?_
 ·refine aT λc7=>aT λc8=>aG [1] [1] ?_
  refine aR<|lF Ed AJ R R<|xU R<|mM R<|vF D7 BD R R<|vQ R (Bk R Ac.slice<|iR R)<|vQ R (A9 R (iR R) iL)<|xO R<|aZ<|c8 _<|cI R u (λw=>?_) λw=>?_
  ·exact zI w R id
  refine Zd<|c7 _<|aT λA=>aT λB=>aG [1] [1] ?_
  refine aR<|lF Ef B9 R R<|xL Ah R<|xQ R<|aZ<|B _<|cI R w (λC=>?_) λC=>?_
  ·exact zI C R id
  exact Zd<|A _<|aU<|lF Ef B9 R R<|AG C λr2 E h6=>cL (aQ<|E) R<|mA R<|aZ<|Zj<|yI h6 R
 refine Zd<|c5 _<|aT λF=>aT λI=>aG [1] [1] ?_
 refine aR<|lF Ef B9 R R<|xL Ah R<|sQ R (A9 R iL iL)<|mM R<|vF CH AJ R R<|vQ R (Am R (iR R) iL)<|vQ R (AK R<|iR R)<|wQ R (fB R D7 iL fR R)<|wQ R (AZ (a:=qa j.Attrs) R BD (iR R) R R)<|wQ R (Bk R Ac.slice<|iR R)<|wQ R (A9 R (iR R) iL)<|vQ R (BI R (iR R)<|iR R)<|xO R<|aZ<|I _<|cI R u (λJ=>?_) λJ=>?_
 ·exact zI J R id
 refine Zd<|F _<|aT λM=>aT λO=>aG [1] [1] ?_
 refine aR<|lF Ed AJ R R<|AG J λr3 T h8=>cL (DX<|T) R<|sQ R (A3 R iL)<|aZ<|O _<|cI R h8 (λU=>?_) λU=>?_
 ·exact zI U R id
 exact Zd<|M _<|aU<|lF D7 BD R R<|AG U λr4 V X=>cL (O1<|V) R<|mA R<|aZ<|Zj<|yI X R
theorem kg{d1 r}(h:L8 d1=some r):AS prog 61 [qc d1] (rI r):=by
 unfold L8 at h
 refine mF func61 ntmps61 R λn0=>aU<|mA R<|aZ<|aU<|mA R<|mA R<|aZ<|aS λK3 c3 ae=>aU<|mM R<|xL CT R<|mM R<|aZ<|Zf<|Jn h λo1 ab af I=>?_
 have J1:∀(u:Int) (w:Int) (i5:NN),o1=.nrm (u,w)→K3 ⟨[(3,rI u),(4,rI w)],[],(i5 0),85⟩:=by
  intro u w i5 e
  have h1:=af _ _ e
  refine c3 _<|aT λc5=>aU<|mM R<|sQ R (A9 R iL iL)<|mM R<|vM R<|vQ R (A9 R (iR R) iL)<|xO R<|aZ<|cI R h1 (λh2=>?_) λh2=>?_
  ·exact zI h2 R id
  exact Zd<|c5 _<|zI h2 R id
 refine Gk (λ(l:Int) (j:Int) (x2:Int) A=>⟨[(0,qc d1),(3,rI l),(4,rI j),(10,rL d1),(11,rI x2)],[],(A 0),85⟩) (AH [n0]) ab wk ?_
 intro l j x2 A v1 ag B
 have h3:Iq d1 l j x2=some v1:=ag;unfold Iq at h3
 refine aU<|xS R<|aZ<|aT λah=>cI R h3 (λh4=>?_) λh4=>?_
 ·refine Zd<|ah _<|aS λai aj M=>Zf<|Jn h4 λp1 ak al J=>?_
  have J2:∀(C:Int) (E:Int) (i6:NN),p1=.nrm (C,E)→ai ⟨[(0,qc d1),(3,rI C),(4,rI E),(10,rL d1),(11,rI x2)],[],(i6 0),85⟩:=by
   intro C E i6 e
   have h5:=al _ _ e
   exact aj _<|aR<|AG h5 λx4 an h6=>xA R an<|mM R<|Zh<|DN.mk h6 (AH [(i6 0)]) wk
  refine aU<|mM R<|mA R<|aZ<|aU<|mM R<|mM R<|AG ak λx5 ao h7=>xI CT R ao<|xB ((Bn x5)) EX R<|sS R (BF (cs:=EB) 6 R E8 R R)<|Zk R R (Aj (ds:=(Bn x5)) R FE iL R iL R R R R)<|aZ<|aT λaq=>aU<|xC EX R<|AG h7 λe1 ar h8=>cL (la<|ar) R<|mA R<|aZ<|aU<|mM R<|xU R<|aZ<|cI R h8 (λh9=>?_) λh9=>?_
  ·refine aT λav=>aF [7] ?_
   exact aR<|mM R<|mA R<|aZ<|av _<|Zj<|yI (I _<|B _ (Zc<|J _ (Zc h9).symm).symm) R
  refine Zd<|aq _<|aS λaw ax q=>aT λay=>aG [0,3,4,5,6,10,11] [6] ?_
  refine aR<|mM R<|sQ R (A9 R iL iL)<|aZ<|ay _<|BP h9 λp2 ac az T=>?_
  have J3:∀(u2:Unit) (i7:NN),p2=.nrm u2→aw ⟨[(0,qc d1),(3,rI l),(4,rI j),(6,.ptr 6 (A 0) 0 0),(10,rL d1),(11,rI x2)],[(6,some<|.box (A 0) 56<|Bn x5)],(i7 0),85⟩:=by
   intro u2 i7 e
   have b0:=az _ e
   refine ax _<|aS λb1 b2 O=>aU<|lF CH AJ R R<|xU R<|mM R<|vM R<|vQ R (B5 R (iR R) iL)<|xN R<|aZ<|BH b0 λp3 ad b3=>?_
   have J4:∀(F:Int) (i8:NN),p3=F→b1 ⟨[(0,qc d1),(3,rI F),(4,rI j),(6,.ptr 6 (A 0) 0 0),(10,rL d1),(11,rI x2)],[(6,some<|.box (A 0) 56<|Bn x5)],(i8 0),85⟩:=by
    intro F i8 e
    have b4:=b3 _ e
    refine b2 _<|aU<|lF CH AJ R R<|xU R<|mM R<|vM R<|vQ R (B5 R (iR R) iL)<|xN R<|aZ<|cI R b4 (λU=>?_) λU=>?_
    ·exact aR<|mM R<|lF Ed AJ R R<|lF Ef B9 R R<|xL Ah R<|AG U λx6 b5 b6=>xA R b5<|AG b6 λbj V b7=>xA R V<|mA R<|Zh<|M _ _ wk<|J2 _ _ (AH [(i8 0)]) (Zc b7).symm
    exact Zd<|M _ _ wk<|J2 _ _ (AH [(i8 0)]) (Zc U).symm
   refine aC R (λX=>?_) λX=>?_
   ·have Y:=CF X ad
    exact aR<|mM R<|lF Ed AJ R R<|AG Y λbk Z b8=>xA R Z<|mA R<|Zh<|O _ _ wk<|J4 _ (AH [(i7 0)]) (Zc b8).symm
   ·have Y:=CA X ad
    exact Zd<|O _ _ wk<|J4 _ (AH [(i7 0)]) (Zc Y).symm
  refine aC R (λa0=>?_) λa0=>?_
  ·have a1:=CF a0 ac
   refine aU<|mM R<|mM R<|AG a1 λx7 b9 ba=>sQ R (CG R iL iL λ_=>b9)<|AG ba λx8 bb bc=>xI CT R bb<|xB ((Bn x8)) EX R<|sS R (BF (cs:=EB) 8 R E8 R R)<|Zk R R (Aj (ds:=(Bn x8)) R FE iL R iL R R R R)<|aZ<|aU<|lF CH AJ R R<|aZ<|Zf<|aT λbd=>aG [0,3,4,6,8,10,11,31] [6,8] ?_
   refine aR<|xQ R<|mA R<|aZ<|bd _<|cI R bc (λa2=>?_) λa2=>?_
   ·refine aU<|lF CH AJ R R<|xU R<|aZ<|cI R a2 (λa6=>?_) λa6=>?_
    ·refine aT λbe=>aF [] ?_
     exact aR<|mA R<|aZ<|be _<|Zj<|yI (I _<|B _ (Zc<|J _ (Zc<|T _ (Zc a6).symm).symm).symm) R
    exact Zd<|q _ _ wk<|J3 _ (AH [((A 0)+2)]) (Zc a6).symm
   refine aU<|xQ R<|mA R<|aZ<|cI R a2 (λa7=>?_) λa7=>?_
   ·refine aU<|lF CH AJ R R<|xQ R<|aZ<|cI R a7 (λa8=>?_) λa8=>?_
    ·refine aT λbf=>aF [] ?_
     exact aR<|mA R<|aZ<|bf _<|Zj<|yI (I _<|B _ (Zc<|J _ (Zc<|T _ (Zc a8).symm).symm).symm) R
    exact Zd<|q _ _ wk<|J3 _ (AH [((A 0)+2)]) (Zc a8).symm
   refine aU<|lF CH AJ R R<|xQ R<|mM R<|vF D7 BD R R<|vF D7 BD R R<|AG a7 λr1 bg bh=>vL (λhg=>SB<|AU bg hg) R<|xN R<|aZ<|cI R bh (λaa=>?_) λaa=>?_
   ·refine aT λbi=>aF [] ?_
    exact aR<|mA R<|aZ<|bi _<|Zj<|yI (I _<|B _ (Zc<|J _ (Zc<|T _ (Zc aa).symm).symm).symm) R
   exact Zd<|q _ _ wk<|J3 _ (AH [((A 0)+2)]) (Zc aa).symm
  ·have a1:=CA a0 ac
   exact Zd<|q _ _ wk<|J3 _ (AH [((A 0)+1)]) (Zc a1).symm
 exact Zn<|ae _ _ wk<|J1 _ _ (AH [(A 0)])<|xH B h4
theorem aH{E r}(h:Q8 E=some r):AS prog 113 [qh E] (rI r):=by
 unfold Q8 at h
 refine mF func113 ntmps113 R λn0=>aU<|mA R<|aZ<|aU<|mA R<|mA R<|aZ<|aS λK3 c3 a8=>aU<|mM R<|xL F7 R<|mM R<|aZ<|Zf<|Jn h λo1 a6 aa O=>?_
 have J1:∀(q:Int) (u:Int) (i5:NN),o1=.nrm (q,u)→K3 ⟨[(3,rI q),(4,rI u)],[],(i5 0),99⟩:=by
  intro q u i5 e
  have h1:=aa _ _ e
  refine c3 _<|aT λc5=>aU<|mM R<|sQ R (A9 R iL iL)<|mM R<|vM R<|vQ R (A9 R (iR R) iL)<|xO R<|aZ<|cI R h1 (λh2=>?_) λh2=>?_
  ·exact zI h2 R id
  exact Zd<|c5 _<|zI h2 R id
 refine Gk (λ(w:Int) (l:Int) (x2:Int) i3=>⟨[(0,qh E),(3,rI w),(4,rI l),(7,rL E),(8,rI x2)],[],(i3 0),99⟩) (AH [n0]) a6 wk ?_
 intro w l x2 i3 v1 ab F
 have h3:WM E w l x2=some v1:=ab;unfold WM at h3
 refine aU<|xS R<|aZ<|aT λac=>cI R h3 (λh4=>?_) λh4=>?_
 ·refine Zd<|ac _<|aS λad ae I=>Zf<|Jn h4 λp1 af ag T=>?_
  have J2:∀(A:Int) (B:Int) (i6:NN),p1=.nrm (A,B)→ad ⟨[(0,qh E),(3,rI A),(4,rI B),(7,rL E),(8,rI x2)],[],(i6 0),99⟩:=by
   intro A B i6 e
   have h5:=ag _ _ e
   exact ae _<|aR<|AG h5 λx4 ah h6=>xA R ah<|mM R<|Zh<|DN.mk h6 (AH [(i6 0)]) wk
  refine aU<|mM R<|mA R<|aZ<|aT λai=>aU<|mM R<|mM R<|AG af λJ j h7=>xI F7 R j<|sQ R (A4 R Kx iL)<|xV (.int .i64 J.Kind) AJ R<|AG h7 λr1 aj h8=>cL (DX<|aj) R<|sQ R (A3 R iL)<|aZ<|cI R h8 (λh9=>?_) λh9=>?_
  ·refine aT λak=>aF [] ?_
   exact aR<|mA R<|aZ<|ak _<|Zj<|yI (O _<|F _ (Zc<|T _ (Zc h9).symm).symm) R
  refine Zd<|ai _<|aT λal=>aT λan=>aF [0,3,4,5,7,8] ?_
  refine aR<|mM R<|mM R<|xI F7 R j<|sQ R (A4 R Vd iL)<|xV (.int .i64 J.N) AJ R<|AG h9 λr2 ao aq=>cL (DX<|ao) R<|sQ R (A3 R iL)<|aZ<|an _<|cI R aq (λU=>?_) λU=>?_
  ·refine aT λar=>aF [] ?_
   exact aR<|mA R<|aZ<|ar _<|Zj<|yI (O _<|F _ (Zc<|T _ (Zc U).symm).symm) R
  refine Zd<|al _<|aT λav=>aT λaw=>?_
  refine ZA BA (by kernel_rfl) ?_
  refine qP R (AK R iL)<|qP R (A9 R iL iL)<|qP R (AK R iL)<|qO R (AK R iL)<|qO R (AK R iL)<|qO R (Az R F7.slice (iR R) (iR R) (λ_=>R) λ_=>j)<|qO R (A4 R Kx<|iR R)<|qO R (Bc (d:=.int .i64 J.Kind) R AJ (iR R) R)<|qO R (AK R iL)<|qO R (AK R iL)<|AG U λx6 ax ay=>qO R (CG R (iR R) iL<|AU ax)<|AG ay λx7 az b0=>qO R (Az R F7.slice (iR R) (iR R) (λ_=>R)<|AU az)<|qO R (A4 R Kx<|iR R)<|qO R (Bc (d:=.int .i64 x7.Kind) R AJ (iR R) R)<|qO R (Am R (iR R)<|iR R)<|qO R (AK R<|iR R)<|qT R (AK R iL)<|qT R (AK R iL)<|qT R (Az R F7.slice (iR R) (iR R) (λ_=>R) λ_=>j)<|qT R (A4 R Kx<|iR R)<|qT R (Bc (d:=.int .i64 J.Kind) R AJ (iR R) R)<|qT R (Am R (iR R) iL)<|qT R (AK R<|iR R)<|qT R (AK R iL)<|qT R (AK R iL)<|AG b0 λx8 b1 b2=>qT R (CG R (iR R) iL<|AU b1)<|AG b2 λx9 b3 b4=>qT R (Az R F7.slice (iR R) (iR R) (λ_=>R)<|AU b3)<|qT R (A4 R Kx<|iR R)<|qT R (Bc (d:=.int .i64 x9.Kind) R AJ (iR R) R)<|qT R (Am R (iR R) iL)<|qT R (BI R (iR R)<|iR R)<|qO R (CW R (iR R)<|iR R)<|qP R (BI R iL<|iR R)<|AQ.nil<|aw _<|cI R b4 (λV=>?_) λV=>?_
  ·refine aT λb5=>aF [] ?_
   exact aR<|mA R<|aZ<|b5 _<|Zj<|yI (O _<|F _ (Zc<|T _ (Zc V).symm).symm) R
  refine Zd<|av _<|aS λb6 b7 M=>aT λb8=>aF [0,3,4,5,7,8] ?_
  refine aR<|mM R<|mM R<|xI F7 R j<|sQ R (A4 R Kx iL)<|xV (.int .i64 J.Kind) AJ R<|xU R<|mM R<|vM R<|vQ R (B5 R (iR R) iL)<|xN R<|aZ<|b8 _<|BH V λp2 a7 b9=>?_
  have J3:∀(C:Int) (i7:NN),p2=C→b6 ⟨[(0,qh E),(3,rI C),(4,rI l),(5,rI x2),(7,rL E),(8,rI x2)],[],(i7 0),99⟩:=by
   intro C i7 e
   have ba:=b9 _ e
   refine b7 _<|aU<|mM R<|mM R<|xI F7 R j<|sQ R (A4 R Kx iL)<|xV (.int .i64 J.Kind) AJ R<|xU R<|mM R<|vM R<|vQ R (B5 R (iR R) iL)<|xN R<|aZ<|cI R ba (λX=>?_) λX=>?_
   ·exact aR<|mM R<|mM R<|mM R<|xI F7 R j<|sQ R (A4 R Vd iL)<|xV (.int .i64 J.N) AJ R<|AG X λbd Y bb=>xA R Y<|mA R<|Zh<|I _ _ wk<|J2 _ _ (AH [(i7 0)]) (Zc bb).symm
   exact Zd<|I _ _ wk<|J2 _ _ (AH [(i7 0)]) (Zc X).symm
  refine aC R (λZ=>?_) λZ=>?_
  ·have a0:=CF Z a7
   exact aR<|mM R<|mM R<|mM R<|xI F7 R j<|sQ R (A4 R Vd iL)<|xV (.int .i64 J.N) AJ R<|AG a0 λbe a2 bc=>xA R a2<|mA R<|Zh<|M _ _ wk<|J3 _ (AH [(i3 0)]) (Zc bc).symm
  ·have a0:=CA Z a7
   exact Zd<|M _ _ wk<|J3 _ (AH [(i3 0)]) (Zc a0).symm
 exact Zn<|a8 _ _ wk<|J1 _ _ (AH [(i3 0)])<|xH F h4
theorem jT{e1 r}(h:Vm e1=some r):AS prog 62 [.agg<|Ee e1] (rI r):=by
 unfold Vm at h
 refine mF func62 ntmps62 R λj=>aU<|sS R (A2 (cs:=(Ee e1)) 1 R iL R R)<|mA R<|aZ<|aT λc2=>aU<|lF X0 SZ R R<|AG h λf1 Y h1=>cL (aH<|Y) R<|mA R<|aZ<|aU<|mM R<|xU R<|aZ<|cI R h1 (λZ=>?_) λZ=>?_
 ·exact aU<|mM R<|mA R<|aZ<|Zj<|yI Z R
 refine Zd<|c2 _<|aT λc6=>aU<|lF ek SZ R R<|AG Z λf2 a0 h3=>cL (aH<|a0) R<|mA R<|aZ<|aT λc8=>aG [1,4] [1] ?_
 refine aR<|mM R<|xU R<|aZ<|c8 _<|cI R h3 (λh4=>?_) λh4=>?_
 ·exact aU<|mM R<|mA R<|aZ<|Zj<|yI h4 R
 refine Zd<|c6 _<|aT λa1=>aU<|lF ft FR R R<|AG h4 λf3 a2 h5=>cL (eQ<|a2) R<|mA R<|aZ<|aU<|mM R<|xU R<|aZ<|cI R h5 (λh6=>?_) λh6=>?_
 ·refine aT λa6=>aF [5] ?_
  exact aR<|mM R<|mA R<|aZ<|a6 _<|Zj<|yI h6 R
 refine Zd<|a1 _<|aS λa7 a8 E=>aT λaa=>aG [1] [1] ?_
 refine aR<|lF W3 D2 R R<|xL Cp R<|mM R<|aZ<|aa _<|Zf<|BP h6 λo1 F ab ac=>?_
 have J1:∀(u2:Unit) (i5:NN),o1=.nrm u2→a7 ⟨[(1,.ptr 1 j 0 0)],[(1,some<|.box j 60<|Ee e1)],(i5 0),70⟩:=by
  intro u2 i5 e
  have h7:=ab _ e
  refine a8 _<|aS λad ae I=>aU<|lF Ns D2 R R<|xL Cp R<|mM R<|aZ<|Zf<|BP h7 λo2 J af M=>?_
  have J2:∀(u4:Unit) (O:NN),o2=.nrm u4→ad ⟨[],[],(O 0),70⟩:=by
   intro u4 O e
   have h8:=af _ e
   exact ae _<|zI h8 R id
  refine Zz (λ(x5:Int) i8=>⟨[(1,.ptr 1 j 0 0),(42,rL e1.Merge),(43,rI x5)],[(1,some<|.box j 60<|Ee e1)],(i8 0),70⟩) (AH [(i5 0)]) J wk ?_
  intro x5 i8 v1 ag l
  have h9:V4 e1 x5=some v1:=ag;unfold V4 at h9
  refine aU<|xS R<|aZ<|aT λah=>cI R h9 (λq=>?_) λq=>?_
  ·refine Zd<|ah _<|aT λai=>Zf<|aU<|mM R<|mA R<|aZ<|aT λaj=>aU<|lF Ns D2 R R<|mM R<|AG q λx7 u ak=>xI Cp R u<|xB ((BR x7)) El R<|AG ak λr1 al an=>cL (Wm<|al) R<|sQ R (A3 R iL)<|aZ<|cI R an (λw=>?_) λw=>?_
   ·exact zI (M _<|xH l w) R id
   refine Zd<|aj _<|aT λao=>aG [1,7,42,43] [1] ?_
   refine aR<|lF Ns D2 R R<|mM R<|xI Cp R u<|sQ R (A4 R HP iL)<|xV (.int .i64 x7.H) AJ R<|xQ R<|mM R<|vF Ns D2 R R<|vM R<|vQ R (Az R Cp.slice (iR R) (iR R) (λ_=>R) λ_=>u)<|vQ R (A4 R Hj<|iR R)<|vQ R (Bc (d:=.int .i64 x7.W) R AJ (iR R) R)<|vQ R (Am R (iR R) iL)<|xN R<|aZ<|ao _<|cI R w (λA=>?_) λA=>?_
   ·exact zI (M _<|xH l A) R id
   refine Zd<|ai _<|aG [1,42,43] [1] ?_
   exact aR<|AG A λx8 aq ar=>xA R aq<|mM R<|Zh<|Zx ar (AH [(i8 0)]) wk
  exact Zn<|I _ _ wk<|J2 _ (AH [(i8 0)])<|xH l q
 refine Zz (λ(x2:Int) X=>⟨[(1,.ptr 1 j 0 0),(28,rL e1.Split),(29,rI x2)],[(1,some<|.box j 60<|Ee e1)],(X 0),70⟩) (AH [(j+1)]) F wk ?_
 intro x2 X v2 av T
 have U:XK e1 x2=some v2:=av;unfold XK at U
 refine aU<|xS R<|aZ<|aT λaw=>cI R U (λB=>?_) λB=>?_
 ·refine Zd<|aw _<|aT λax=>Zf<|aU<|mM R<|mA R<|aZ<|aU<|lF W3 D2 R R<|mM R<|AG B λx9 ay az=>xI Cp R ay<|xB ((BR x9)) El R<|AG az λr2 b0 b1=>cL (Wm<|b0) R<|sQ R (A3 R iL)<|aZ<|cI R b1 (λC=>?_) λC=>?_
  ·exact zI (ac _<|xH T C) R id
  refine Zd<|ax _<|aG [1,28,29] [1] ?_
  exact aR<|AG C λb3 V b2=>xA R V<|mM R<|Zh<|Zx b2 (AH [(X 0)]) wk
 exact Zn<|E _ _ wk<|J1 _ (AH [(X 0)])<|xH T B
theorem jD{j r}(h:PQ j=some r):AS prog 27 (iQ j) (rI r):=by
 unfold PQ at h
 refine mF func27 ntmps27 R λl=>aU<|sS R (A2 (cs:=(F4 j)) 1 R iL R R)<|mA R<|aZ<|aT λc2=>aU<|lF QB AJ R R<|AG h λr1 X h1=>cL (DX<|X) R<|sQ R (A3 R iL)<|aZ<|cI R h1 (λY=>?_) λY=>?_
 ·exact zI Y R id
 refine Zd<|c2 _<|aU<|sQ R (fB R dP iL fR R)<|sQ R (HQ (ds:=(Ee j.Grid)) R ee iL R R R)<|sS R (BF (cs:=[cZ,cZ,cZ,cZ,cZ]) 3 R tL R R)<|Zk R R (Aj (ds:=(Ee j.Grid)) R jK iL R iL R R R R)<|aZ<|aT λc6=>AG Y λq Z h3=>AG h3 λx1 a0 h4=>AG h4 λx2 a1 h5=>AG h5 λx3 a2 h6=>AG h6 λu a6 h7=>?_
 refine IA 39 [pO 12<|.ptr 1 l 0 2,pO 13<|.agg<|Bp j.New,pO 14<|.agg KO,pO 15<|rB q,pO 16<|rB<|(!q),pO 17<|.ptr 1 l 0 11,pO 18<|qa j.Attrs,pO 19<|rL j.Attrs,pO 20<|rB<|(decide<|0<(j.Attrs.length:Int)),pO 21<|.ptr 1 l 0 12,pO 22<|qc j.Steps,pO 23<|rL j.Steps,pO 24<|rB<|(decide<|0<(j.Steps.length:Int)),pO 25<|.ptr 3 (l+1) 0 0,pO 26<|qh j.Grid.Rows,pO 27<|rL j.Grid.Rows,pO 28<|.ptr 3 (l+1) 0 1,pO 29<|qh j.Grid.Cols,pO 30<|rL j.Grid.Cols,pO 31<|rI x1,pO 32<|.ptr 3 (l+1) 0 2,pO 33<|qe j.Grid.Cells,pO 34<|rL j.Grid.Cells,pO 35<|rI x2,pO 36<|.ptr 3 (l+1) 0 3,pO 37<|qd j.Grid.Split,pO 38<|rL j.Grid.Split,pO 39<|rI x3,pO 40<|.ptr 3 (l+1) 0 4,pO 41<|qd j.Grid.Merge,pO 42<|rL j.Grid.Merge,pO 43<|rI u,pO 44<|rB<|(decide<|0<u),pO 45<|.ptr 1 l 0 18,pO 46<|qf j.Draw,pO 47<|rL j.Draw,pO 48<|rB<|(decide<|0<(j.Draw.length:Int)),pO 49<|.agg [rB<|(!q),rB<|(decide<|0<(j.Attrs.length:Int)),rB<|(decide<|0<(j.Steps.length:Int)),rB<|(decide<|0<u),rB<|(decide<|0<(j.Draw.length:Int))],⟨some 4,(λw=>.ptr 4 (w 38) 0 0),some (4,(λw=>some<|.box (w 38) 105 cO)),[38]⟩] BA (by kernel_rfl) (by exact⟨λ_ _ h=>⟨R,λ_ _ e=>by cases e⟩,λ_ _ h=>⟨R,λ_ _ e=>by cases e⟩,λ_ _ h=>⟨R,λ_ _ e=>by cases e⟩,λ_ _ h=>⟨R,λ_ _ e=>by cases e⟩,λ_ _ h=>⟨R,λ_ _ e=>by cases e⟩,λ_ _ h=>⟨R,λ_ _ e=>by cases e⟩,λ_ _ h=>⟨R,λ_ _ e=>by cases e⟩,λ_ _ h=>⟨R,λ_ _ e=>by cases e⟩,λ_ _ h=>⟨R,λ_ _ e=>by cases e⟩,λ_ _ h=>⟨R,λ_ _ e=>by cases e⟩,λ_ _ h=>⟨R,λ_ _ e=>by cases e⟩,λ_ _ h=>⟨R,λ_ _ e=>by cases e⟩,λ_ _ h=>⟨R,λ_ _ e=>by cases e⟩,λ_ _ h=>⟨R,λ_ _ e=>by cases e⟩,λ_ _ h=>⟨R,λ_ _ e=>by cases e⟩,λ_ _ h=>⟨R,λ_ _ e=>by cases e⟩,λ_ _ h=>⟨R,λ_ _ e=>by cases e⟩,λ_ _ h=>⟨R,λ_ _ e=>by cases e⟩,λ_ _ h=>⟨R,λ_ _ e=>by cases e⟩,λ_ _ h=>⟨R,λ_ _ e=>by cases e⟩,λ_ _ h=>⟨R,λ_ _ e=>by cases e⟩,λ_ _ h=>⟨R,λ_ _ e=>by cases e⟩,λ_ _ h=>⟨R,λ_ _ e=>by cases e⟩,λ_ _ h=>⟨R,λ_ _ e=>by cases e⟩,λ_ _ h=>⟨R,λ_ _ e=>by cases e⟩,λ_ _ h=>⟨R,λ_ _ e=>by cases e⟩,λ_ _ h=>⟨R,λ_ _ e=>by cases e⟩,λ_ _ h=>⟨R,λ_ _ e=>by cases e⟩,λ_ _ h=>⟨R,λ_ _ e=>by cases e⟩,λ_ _ h=>⟨R,λ_ _ e=>by cases e⟩,λ_ _ h=>⟨R,λ_ _ e=>by cases e⟩,λ_ _ h=>⟨R,λ_ _ e=>by cases e⟩,λ_ _ h=>⟨R,λ_ _ e=>by cases e⟩,λ_ _ h=>⟨R,λ_ _ e=>by cases e⟩,λ_ _ h=>⟨R,λ_ _ e=>by cases e⟩,λ_ _ h=>⟨R,λ_ _ e=>by cases e⟩,λ_ _ h=>⟨R,λ_ _ e=>by cases e⟩,λ_ _ h=>⟨R,λ_ _ e=>by cases e⟩,λ_ _ h=>⟨by simp only[h 38 R],λ_ _ e=>by cases e;simp only[h 38 R]⟩,Za⟩) R (by exact⟨oB [(1,.ptr 1 l 0 0)] [(1,some<|.box l 62<|F4 j)]<|fB R Z5 (.inl R) (λ_=>R) R,oB [(12,.ptr 1 l 0 2)] [(1,some<|.box l 62<|F4 j)]<|HQ (ds:=(Bp j.New)) R Gc (.inl R) R R R,oB [] []<|Bt R sH (q:=[]) (by exact Za) (cs:=KO)<|by rfl,oD (λ_=>[(13,.agg<|Bp j.New),(14,.agg KO)]) (λ_=>[]) λw e h' n=>Dy (r:=rB q) (caps:=[]) (bs:=[.agg<|Bp j.New,.agg [rI 0,rI 0,.r<|.sl [],.r<|.sl [],rI 0,rI 0,.r<|.sl [],.r<|.sl [],.r<|.sl []]]) R (.inl R) R ⟨⟨_,(.inl R),.g (cs:=[.int .i64 j.New.ID,.int .i64 j.New.Kind,.sl<|j.New.Attrs.map AC.row,.sl<|j.New.Flow.map AD.row,.int .i64 j.New.Grid.Rows,.int .i64 j.New.Grid.Cols,.sl<|j.New.Grid.Cells.map Av.row,.sl<|j.New.Grid.Merges.map As.row,.sl<|j.New.Draw.map BQ.row]) R R⟩,⟨_,(.inl R),.agg<|by exact⟨.closed _ R,.closed _ R,.nil,.nil,.closed _ R,.closed _ R,.nil,.nil,.nil,Za⟩⟩,Za⟩ (λ_=>im<|Z) R,oB [(15,rB q)] []<|A3 R<|.inl R,oB [(1,.ptr 1 l 0 0)] [(1,some<|.box l 62<|F4 j)]<|fB R eh (.inl R) (λ_=>R) R,oB [(17,.ptr 1 l 0 11)] [(1,some<|.box l 62<|F4 j)]<|AZ (a:=qa j.Attrs) R BD (.inl R) R R,oB [(18,qa j.Attrs)] []<|Bk R Ac.slice<|.inl R,oB [(19,rL j.Attrs)] []<|A9 R (.inl R)<|.inl R,oB [(1,.ptr 1 l 0 0)] [(1,some<|.box l 62<|F4 j)]<|fB R Sm (.inl R) (λ_=>R) R,oB [(21,.ptr 1 l 0 12)] [(1,some<|.box l 62<|F4 j)]<|AZ (a:=qc j.Steps) R EM (.inl R) R R,oB [(22,qc j.Steps)] []<|Bk R CT.slice<|.inl R,oB [(23,rL j.Steps)] []<|A9 R (.inl R)<|.inl R,oB [(3,.ptr 3 (l+1) 0 0)] [(3,some<|.box (l+1) 60<|Ee j.Grid)]<|fB R X0 (.inl R) (λ_=>R) R,oB [(25,.ptr 3 (l+1) 0 0)] [(3,some<|.box (l+1) 60<|Ee j.Grid)]<|AZ (a:=qh j.Grid.Rows) R SZ (.inl R) R R,oB [(26,qh j.Grid.Rows)] []<|Bk R F7.slice<|.inl R,oB [(3,.ptr 3 (l+1) 0 0)] [(3,some<|.box (l+1) 60<|Ee j.Grid)]<|fB R ek (.inl R) (λ_=>R) R,oB [(28,.ptr 3 (l+1) 0 1)] [(3,some<|.box (l+1) 60<|Ee j.Grid)]<|AZ (a:=qh j.Grid.Cols) R SZ (.inl R) R R,oB [(29,qh j.Grid.Cols)] []<|Bk R F7.slice<|.inl R,oB [(27,rL j.Grid.Rows),(30,rL j.Grid.Cols)] []<|Gh R (.inl R) (.inl R) λ_=>a0,oB [(3,.ptr 3 (l+1) 0 0)] [(3,some<|.box (l+1) 60<|Ee j.Grid)]<|fB R ft (.inl R) (λ_=>R) R,oB [(32,.ptr 3 (l+1) 0 2)] [(3,some<|.box (l+1) 60<|Ee j.Grid)]<|AZ (a:=qe j.Grid.Cells) R FR (.inl R) R R,oB [(33,qe j.Grid.Cells)] []<|Bk R Cm.slice<|.inl R,oB [(31,rI x1),(34,rL j.Grid.Cells)] []<|Gh R (.inl R) (.inl R) λ_=>a1,oB [(3,.ptr 3 (l+1) 0 0)] [(3,some<|.box (l+1) 60<|Ee j.Grid)]<|fB R W3 (.inl R) (λ_=>R) R,oB [(36,.ptr 3 (l+1) 0 3)] [(3,some<|.box (l+1) 60<|Ee j.Grid)]<|AZ (a:=qd j.Grid.Split) R D2 (.inl R) R R,oB [(37,qd j.Grid.Split)] []<|Bk R Cp.slice<|.inl R,oB [(35,rI x2),(38,rL j.Grid.Split)] []<|Gh R (.inl R) (.inl R) λ_=>a2,oB [(3,.ptr 3 (l+1) 0 0)] [(3,some<|.box (l+1) 60<|Ee j.Grid)]<|fB R Ns (.inl R) (λ_=>R) R,oB [(40,.ptr 3 (l+1) 0 4)] [(3,some<|.box (l+1) 60<|Ee j.Grid)]<|AZ (a:=qd j.Grid.Merge) R D2 (.inl R) R R,oB [(41,qd j.Grid.Merge)] []<|Bk R Cp.slice<|.inl R,oB [(39,rI x3),(42,rL j.Grid.Merge)] []<|Gh R (.inl R) (.inl R) λ_=>a6,oB [(43,rI u)] []<|A9 R (.inl R)<|.inl R,oB [(1,.ptr 1 l 0 0)] [(1,some<|.box l 62<|F4 j)]<|fB R dR (.inl R) (λ_=>R) R,oB [(45,.ptr 1 l 0 18)] [(1,some<|.box l 62<|F4 j)]<|AZ (a:=qf j.Draw) R HM (.inl R) R R,oB [(46,qf j.Draw)] []<|Bk R Eu.slice<|.inl R,oB [(47,rL j.Draw)] []<|A9 R (.inl R)<|.inl R,oB [(16,rB<|(!q)),(20,rB<|(decide<|0<(j.Attrs.length:Int))),(24,rB<|(decide<|0<(j.Steps.length:Int))),(44,rB<|(decide<|0<u)),(48,rB<|(decide<|0<(j.Draw.length:Int)))] []<|m8 R lZ (q:=[(0,_),(1,_),(2,_),(3,_),(4,_)]) (by exact⟨R,R,R,(.inl R),R,R,R,(.inl R),R,R,R,(.inl R),R,R,R,(.inl R),R,R,R,(.inl R),Za⟩) (cs:=[rB<|(!q),rB<|(decide<|0<(j.Attrs.length:Int)),rB<|(decide<|0<(j.Steps.length:Int)),rB<|(decide<|0<u),rB<|(decide<|0<(j.Draw.length:Int))])<|by rfl,oM (λ_=>[]) (λ_=>[]) R λw e h' n=>BF (cs:=cO) 4 R lb R R,Za⟩) λw n1=>?_
 refine A8 [0,1,2,3,4,6,7,8,9,10,11,12,13,14,15,16,17,18,19,20,21,22,23,24,25,26,27,28,29,30,31,32,33,34,35,36,37,38,39,40,41,42,43,44,45,46,47,48,49] [1,3,4] ?_
 refine Zk R R (Aj (ds:=[rB<|(!q),rB<|(decide<|0<(j.Attrs.length:Int)),rB<|(decide<|0<(j.Steps.length:Int)),rB<|(decide<|0<u),rB<|(decide<|0<(j.Draw.length:Int))]) R th iL R iL R R R R)<|aZ<|c6 _<|aS λK7 c7 a7=>aT λc8=>aG [1,4] [1,4] ?_
 refine aR<|mM R<|aZ<|c8 _<|Zf<|BP h7 λo2 M a8 aa=>?_
 have J1:∀(u2:Unit) (i5:NN),o2=.nrm u2→K7 ⟨[(1,.ptr 1 l 0 0)],[(1,some<|.box l 62<|F4 j)],(i5 0),96⟩:=by
  intro u2 i5 e
  have h8:=a8 _ e
  refine c7 _<|aT λc9=>aU<|lF QB AJ R R<|xQ R<|aZ<|cI R h8 (λh9=>?_) λh9=>?_
  ·refine aT λab=>aU<|lF VH AJ R R<|xU R<|aZ<|cI R h9 (λA=>?_) λA=>?_
   ·exact zI A R id
   exact Zd<|ab _<|aU<|sQ R (fB R Z5 iL fR R)<|sQ R (HQ (ds:=(Bp j.New)) R Gc iL R R R)<|AG A λr3 ac ad=>cL (ZH<|ac) R<|mA R<|aZ<|Zj<|yI ad R
  refine Zd<|c9 _<|aT λae=>aU<|lF VH AJ R R<|AG h9 λr4 af ag=>cL (DX<|af) R<|sQ R (A3 R iL)<|aZ<|cI R ag (λB=>?_) λB=>?_
  ·exact zI B R id
  refine Zd<|ae _<|aT λah=>aU<|lF QB AJ R R<|aZ<|Zf<|aU<|xQ R<|mA R<|aZ<|cI R B (λC=>?_) λC=>?_
  ·refine aT λai=>aG [1] [1] ?_
   exact aR<|lF eh BD R R<|AG C λr5 aj ak=>cL (O1<|aj) R<|mA R<|aZ<|ai _<|Zj<|yI ak R
  refine aT λal=>aG [1,77] [1] ?_
  refine aR<|xQ R<|mA R<|aZ<|al _<|cI R C (λE=>?_) λE=>?_
  ·exact aU<|lF Sm EM R R<|AG E λr6 an ao=>cL (kg<|an) R<|mA R<|aZ<|Zj<|yI ao R
  refine aU<|xQ R<|mA R<|aZ<|cI R E (λF=>?_) λF=>?_
  ·exact aU<|sQ R (fB R dP iL fR R)<|sQ R (HQ (ds:=(Ee j.Grid)) R ee iL R R R)<|AG F λr7 aq ar=>cL (jT<|aq) R<|mA R<|aZ<|Zj<|yI ar R
  exact Zd<|ah _<|aU<|lF dR HM R R<|AG F λr8 av aw=>cL (Ym<|av) R<|mA R<|aZ<|Zj<|yI aw R
 refine Zz (λ(x6:Int) V=>⟨[(1,.ptr 1 l 0 0),(4,.ptr 4 (w 38) 0 0),(50,rI x6)],[(1,some<|.box l 62<|F4 j),(4,some<|.box (w 38) 105 [rB<|(!q),rB<|(decide<|0<(j.Attrs.length:Int)),rB<|(decide<|0<(j.Steps.length:Int)),rB<|(decide<|0<u),rB<|(decide<|0<(j.Draw.length:Int))])],(V 0),96⟩) (AH [n1]) M wk ?_
 intro x6 V v1 ax O
 have T:KA j q u x6=some v1:=ax;unfold KA at T
 refine aU<|xS R<|aZ<|aT λay=>cI R T (λI=>?_) λI=>?_
 ·refine Zd<|ay _<|aT λaz=>Zf<|aU<|mM R<|mA R<|aZ<|aU<|mM R<|AG I λx8 U b0=>sQ R (lm (l:=[(!q),(decide<|0<(j.Attrs.length:Int)),(decide<|0<(j.Steps.length:Int)),(decide<|0<u),(decide<|0<(j.Draw.length:Int))]) R qU iL R iL (λ_=>U) R)<|sQ R (tA (l:=[(!q),(decide<|0<(j.Attrs.length:Int)),(decide<|0<(j.Steps.length:Int)),(decide<|0<u),(decide<|0<(j.Draw.length:Int))]) R UW iL R R λ_=>U)<|mM R<|vM R<|vF QB AJ R R<|vQ R (Ct R (iR R)<|iR R)<|xN R<|aZ<|cI R b0 (λJ=>?_) λJ=>?_
  ·exact zI (aa _<|xH O J) R id
  exact Zd<|az _<|aR<|AG J λx9 b1 b2=>xA R b1<|mM R<|Zh<|Zx b2 (AH [(V 0)]) wk
 exact Zn<|a7 _ _ wk<|J1 _ (AH [(V 0)])<|xH O I
theorem s0{d1 r}(h:ND d1=some r):AS prog 28 [qc d1] (rI r):=by
 unfold ND at h
 refine mF func28 ntmps28 R λU=>aU<|mA R<|aZ<|aU<|mA R<|aZ<|aS λV X q=>aU<|mM R<|xL CT R<|mM R<|aZ<|Zf<|BH h λY j u=>?_
 have Z:∀(w:Int) (O:NN),Y=w→V ⟨[(3,rI w)],[],(O 0),19⟩:=by
  intro w O e
  have h1:=u _ e
  exact X _<|aU<|mM R<|mA R<|aZ<|Zj<|yI h1 R
 refine Dd (λ(A:Int) (B:Int) l=>⟨[(0,qc d1),(3,rI A),(6,rL d1),(7,rI B)],[],(l 0),19⟩) (AH [U]) j wk ?_
 intro A B l v1 C E
 have T:Jf d1 A B=some v1:=C;unfold Jf at T
 refine aU<|xS R<|aZ<|aT λc7=>cI R T (λF=>?_) λF=>?_
 ·refine Zd<|c7 _<|aT λc8=>Zf<|aU<|mM R<|mA R<|aZ<|aR<|mM R<|mM R<|mM R<|AG F λx4 I h4=>xI CT R I<|sQ R (A4 R Ed iL)<|xV (.int .i64 x4.N) AJ R<|AG h4 λn5 J h5=>xA R J<|mA R<|aZ<|c8 _<|aF [0,3,6,7] ?_
  exact aR<|AG h5 λx5 M h6=>xA R M<|mM R<|Zh<|ZI h6 (AH [(l 0)]) wk
 exact Zn<|q _ _ wk<|Z _ (AH [(l 0)])<|xH E F
theorem pj{d1 r}(h:Nk d1=some r):AS prog 66 [qc d1] (.agg<|Gw r):=by
 unfold Nk at h
 refine mF func66 ntmps66 R λj=>aU<|sS R (BF (cs:=Im) 2 R am R R)<|aZ<|aT λc2=>aR<|sS R (B3 7 R Iz (f:=(D4 AD.row)) (l:=([[]]:List (List AD))) ⟨R,⟨_,iL,R⟩,Za⟩ R (λ_=>R) R) ?_
 refine sQ R (Bt R rW (q:=[(0,_)]) (by exact⟨R,R,R,iL,Za⟩) (cs:=[.own 7<|j+1,cZ,cZ])<|by rfl) ?_
 refine sS R (BF (cs:=Im) 3 R am R R)<|Zk R R (Aj (ds:=[.own 7<|j+1,cZ,cZ]) R fi iL R iL R R R R)<|aZ<|c2 _<|aS λK3 c3 Z=>aU<|mM R<|xL CT R<|mM R<|aZ<|Zf<|BH h λo1 M a0=>?_
 have J1:∀(a4:Bh) (C:NN),o1=a4→K3 ⟨[(2,.ptr 2 j 0 0),(3,.ptr 3 (j+2) 0 0)],[(2,some<|.box j 116 Im),(3,some<|.box (j+2) 116 [.own 7<|C 0,.own 54<|C 1,.own 61<|C 2]),(7,some<|.arr (C 0) 27 1<|a4.Adds.map<|D4 AD.row),(54,some<|.arr (C 1) 4 1<|a4.Cuts.map EZ),(61,some<|.arr (C 2) 35 1<|a4.Attrs.map<|D4 AC.row)],(C 3),66⟩:=by
  intro a4 C e
  have h1:=a0 _ e
  refine c3 _<|aU<|xC dD R<|Zk R R (Aj (ds:=[.own 7<|C 0,.own 54<|C 1,.own 61<|C 2]) R fi iL R iL R R R R)<|aZ ?_
  exact Zj<|DU (P:=prog) (λ(r:Bh)=>.agg<|Gw r) h1 iL<|.a dD R R R<|.agg<|by exact⟨.own R,.own R,.own R,Za⟩
 refine Dd (λ(J:Int) (E:Bh) l=>⟨[(0,qc d1),(2,.ptr 2 j 0 0),(3,.ptr 3 (j+2) 0 0),(10,rL d1),(11,rI J)],[(2,some<|.box j 116 Im),(3,some<|.box (j+2) 116 [.own 7<|l 0,.own 54<|l 1,.own 61<|l 2]),(7,some<|.arr (l 0) 27 1<|E.Adds.map<|D4 AD.row),(54,some<|.arr (l 1) 4 1<|E.Cuts.map EZ),(61,some<|.arr (l 2) 35 1<|E.Attrs.map<|D4 AC.row)],(l 3),66⟩) (AH [(j+1),(j+3),(j+4),(j+5)]) M (Zm (Zm (ZK 3 1 54 4 1 (by decide) R R<|by decide)<|by exact ZE (e':=[(0,qc d1),(2,.ptr 2 j 0 0),(3,.ptr 3 (j+2) 0 0),(7,.own 7<|j+1),(8,.agg [.own 7<|j+1,cZ,cZ]),(9,qc d1),(10,rL d1),(11,rI 0)]) (h':=[(2,some<|.box j 116 Im),(3,some<|.box (j+2) 116 [.own 7<|j+1,.own 54<|j+3,cZ]),(7,some<|.arr (j+1) 27 1<|[[]].map<|D4 AD.row),(54,some<|.arr (j+3) 4 1<|([]:List Bool).map EZ)]) ⟨jL,jL,jL,jL,jL,jL,jL,jL,Za⟩ ⟨.inl R,.inl R,.inl R,.inl R,Za⟩ nL)<|Zm (Zm (ZK 3 2 61 35 1 (by decide) R R<|by decide)<|by exact ZE (e':=[(0,qc d1),(2,.ptr 2 j 0 0),(3,.ptr 3 (j+2) 0 0),(7,.own 7<|j+1),(8,.agg [.own 7<|j+1,cZ,cZ]),(9,qc d1),(10,rL d1),(11,rI 0)]) (h':=[(2,some<|.box j 116 Im),(3,some<|.box (j+2) 116 [.own 7<|j+1,.own 54<|j+3,.own 61<|j+4]),(7,some<|.arr (j+1) 27 1<|[[]].map<|D4 AD.row),(54,some<|.arr (j+3) 4 1<|([]:List Bool).map EZ),(61,some<|.arr (j+4) 35 1<|([]:List (List AC)).map<|D4 AC.row)]) ⟨jL,jL,jL,jL,jL,jL,jL,jL,Za⟩ ⟨.inl R,.inl R,.inl R,.inl R,.inl R,Za⟩ nL) wk) ?_
 intro J E l v1 a1 a6
 have h2:Jl d1 J E=some v1:=a1;unfold Jl at h2
 refine aU<|xS R<|aZ<|aT λc7=>cI R h2 (λh3=>?_) λh3=>?_
 ·refine Zd<|c7 _<|aS λK8 c8 O=>Zf<|BH h3 λp1 a8 aa=>?_
  have J2:∀(a5:Bh) (B:NN),p1=a5→K8 ⟨[(0,qc d1),(2,.ptr 2 j 0 0),(3,.ptr 3 (j+2) 0 0),(10,rL d1),(11,rI J)],[(2,some<|.box j 116 Im),(3,some<|.box (j+2) 116 [.own 7<|B 0,.own 54<|B 1,.own 61<|B 2]),(7,some<|.arr (B 0) 27 1<|a5.Adds.map<|D4 AD.row),(54,some<|.arr (B 1) 4 1<|a5.Cuts.map EZ),(61,some<|.arr (B 2) 35 1<|a5.Attrs.map<|D4 AC.row)],(B 3),66⟩:=by
   intro a5 B e
   have h4:=aa _ e
   exact c8 _<|aR<|AG h4 λx4 ab h5=>xA R ab<|mM R<|Zh<|ZI h5 (AH [(B 0),(B 1),(B 2),(B 3)]) wk
  refine aU<|mM R<|mA R<|aZ<|aU<|mM R<|mM R<|AG a8 λw ac h6=>xI CT R ac<|xB ((Bn w)) EX R<|sS R (BF (cs:=EB) 5 R E8 R R)<|Zk R R (Aj (ds:=(Bn w)) R FE iL R iL R R R R)<|aZ<|aT λad=>aU<|lF CH AJ R R<|xQ R<|aZ<|cI R h6 (λh7=>?_) λh7=>?_
  ·refine aT λae=>aG [0,2,3,5,10,11] [2,3,5,7,54,61] ?_
   refine aR<|lF KK Mv R R<|sQ R (N0 R Iz.slice iL R)<|AG h7 λA af h8=>sQ R (CG R iL iL λ_=>af)<|mA R<|aZ<|ae _<|aT λag=>AG h8 λY F h9=>AG h9 λl1 ah ai=>AG ai λl2 aj ak=>?_
   refine IA 13 [pO 25<|.ptr 3 (j+2) 0 0,pO 26<|.own 7<|l 0,pO 27<|rI A,⟨some 28,(λu=>.own 28<|u 3),some (28,(λu=>some<|.arr (u 3) 37 3<|([]:List AD).map AD.row)),[3]⟩,pO 29<|.ptr 3 (j+2) 0 0,pO 30<|.own 7<|l 0,pO 31<|rI A,pO 32<|.ptr 7 (l 0) A.toNat 0,pO 33<|qb Y,⟨some 34,(λu=>.own 28<|u 9),some (28,(λu=>some<|.arr (u 9) 37 3<|l1.map AD.row)),[9]⟩,pO 35<|.ptr 5 (l 3) 0 3,pO 36<|qb w.Elems,⟨some 37,(λu=>.own 28<|u 12),some (28,(λu=>some<|.arr (u 12) 37 3<|l2.map AD.row)),[12]⟩] BA (by kernel_rfl) (by exact⟨λ_ _ h=>⟨R,λ_ _ e=>by cases e⟩,λ_ _ h=>⟨R,λ_ _ e=>by cases e⟩,λ_ _ h=>⟨R,λ_ _ e=>by cases e⟩,λ_ _ h=>⟨by simp only[h 3 R],λ_ _ e=>by cases e;simp only[h 3 R]⟩,λ_ _ h=>⟨R,λ_ _ e=>by cases e⟩,λ_ _ h=>⟨R,λ_ _ e=>by cases e⟩,λ_ _ h=>⟨R,λ_ _ e=>by cases e⟩,λ_ _ h=>⟨R,λ_ _ e=>by cases e⟩,λ_ _ h=>⟨R,λ_ _ e=>by cases e⟩,λ_ _ h=>⟨by simp only[h 9 R],λ_ _ e=>by cases e;simp only[h 9 R]⟩,λ_ _ h=>⟨R,λ_ _ e=>by cases e⟩,λ_ _ h=>⟨R,λ_ _ e=>by cases e⟩,λ_ _ h=>⟨by simp only[h 12 R],λ_ _ e=>by cases e;simp only[h 12 R]⟩,Za⟩) R (by exact⟨oB [(3,.ptr 3 (j+2) 0 0)] [(3,some<|.box (j+2) 116 [.own 7<|l 0,.own 54<|l 1,.own 61<|l 2])]<|fB R KK (.inl R) (λ_=>R) R,oB [(25,.ptr 3 (j+2) 0 0)] [(3,some<|.box (j+2) 116 [.own 7<|l 0,.own 54<|l 1,.own 61<|l 2])]<|AZ (a:=.own 7<|l 0) R Mv (.inl R) R R,oB [(6,rI A)] []<|AK R<|.inl R,oM (λ_=>[]) (λ_=>[]) R λu e h' n=>B3 28 R Ah (f:=AD.row) (l:=([]:List AD)) Za R (λ_=>R) R,oB [(3,.ptr 3 (j+2) 0 0)] [(3,some<|.box (j+2) 116 [.own 7<|l 0,.own 54<|l 1,.own 61<|l 2])]<|fB R KK (.inl R) (λ_=>R) R,oB [(29,.ptr 3 (j+2) 0 0)] [(3,some<|.box (j+2) 116 [.own 7<|l 0,.own 54<|l 1,.own 61<|l 2])]<|AZ (a:=.own 7<|l 0) R Mv (.inl R) R R,oB [(6,rI A)] []<|AK R<|.inl R,oB [(30,.own 7<|l 0),(31,rI A)] [(7,some<|.arr (l 0) 27 1<|E.Adds.map<|D4 AD.row)]<|FY R Iz.slice (.inl R) R (.inl R) λ_=>F,oB [(32,.ptr 7 (l 0) A.toNat 0)] [(7,some<|.arr (l 0) 27 1<|E.Adds.map<|D4 AD.row)]<|Ll (d:=.sl<|Y.map AD.row) R B9 (.inl R) (λ_=>R) (λ_=>F) R,oM (λu=>[(28,.own 28<|u 3),(33,qb Y)]) (λu=>[(28,some<|.arr (u 3) 37 3<|([]:List AD).map AD.row)]) R λu e h' n=>Cj R Ah (.inl R) R (.inl ⟨(.inl R),λ_=>R⟩) ah,oB [(5,.ptr 5 (l 3) 0 0)] [(5,some<|.box (l 3) 56<|Bn w)]<|fB R Ef (.inl R) (λ_=>R) R,oB [(35,.ptr 5 (l 3) 0 3)] [(5,some<|.box (l 3) 56<|Bn w)]<|AZ (a:=qb w.Elems) R B9 (.inl R) R R,oM (λu=>[(34,.own 28<|u 9),(36,qb w.Elems)]) (λu=>[(28,some<|.arr (u 9) 37 3<|l1.map AD.row)]) R λu e h' n=>Cj R Ah (.inl R) R (.inl ⟨(.inl R),λ_=>R⟩) aj,Za⟩) λu n1=>?_
   refine A8 [0,2,3,5,6,10,11,21,22,23,24,25,26,27,29,30,31,32,33,35,36,37] [2,3,5,7,28,54,61] ?_
   refine sQ R (FY R Iz.slice iL R iL λ_=>F) ?_
   refine AL.weak (by exact Ae.frz (e':=[(0,qc d1),(2,.ptr 2 j 0 0),(3,.ptr 3 (j+2) 0 0),(5,.ptr 5 (l 3) 0 0),(6,rI A),(10,rL d1),(11,rI J),(21,.ptr 3 (j+2) 0 0),(22,.own 7<|l 0),(23,rL E.Adds),(24,rI A),(25,.ptr 3 (j+2) 0 0),(26,.own 7<|l 0),(27,rI A),(29,.ptr 3 (j+2) 0 0),(30,.own 7<|l 0),(31,rI A),(32,.ptr 7 (l 0) A.toNat 0),(33,qb Y),(35,.ptr 5 (l 3) 0 3),(36,qb w.Elems),(37,qb l2),(38,.ptr 7 (l 0) A.toNat 0)]) (h':=[(2,some<|.box j 116 Im),(3,some<|.box (j+2) 116 [.own 7<|l 0,.own 54<|l 1,.own 61<|l 2]),(5,some<|.box (l 3) 56<|Bn w),(7,some<|.arr (l 0) 27 1<|E.Adds.map<|D4 AD.row),(54,some<|.arr (l 1) 4 1<|E.Cuts.map EZ),(61,some<|.arr (l 2) 35 1<|E.Attrs.map<|D4 AC.row)]) 28 R ⟨jL,jL,jL,jL,jL,jL,jL,jL,jL,jL,jL,jL,jL,jL,jL,jL,jL,jL,jL,jL,jL,.inl<|.inr<|.inr ⟨R,R⟩,jL,Za⟩ ⟨R,.inl R,R,.inl R,R,.inl R,R,.inl R,R,.inl R,R,.inl R,Za⟩) ?_
   exact Zk R R (Tn (v:=l2) R Tx iL R F iL R R R R)<|aZ<|ag _<|Zn<|O _ _ wk<|J2 _ (AH [(l 0),(l 1),(l 2),n1]) (Zc ak).symm
  refine Zd<|ad _<|aT λal=>aG [0,2,3,5,10,11] [2,3,5,7,54,61] ?_
  refine aR<|lF Ed AJ R R<|mM R<|aZ<|al _<|Zf<|BP h7 λo2 T b3 an=>Dd (λ(x8:Int) (U:Bh) q=>⟨[(0,qc d1),(2,.ptr 2 j 0 0),(3,.ptr 3 (j+2) 0 0),(5,.ptr 5 (l 3) 0 0),(10,rL d1),(11,rI J),(40,rI w.N),(41,rI x8)],[(2,some<|.box j 116 Im),(3,some<|.box (j+2) 116 [.own 7<|q 0,.own 54<|q 1,.own 61<|q 2]),(5,some<|.box (l 3) 56<|Bn w),(7,some<|.arr (q 0) 27 1<|U.Adds.map<|D4 AD.row),(54,some<|.arr (q 1) 4 1<|U.Cuts.map EZ),(61,some<|.arr (q 2) 35 1<|U.Attrs.map<|D4 AC.row)],(q 3),66⟩) (AH [(l 0),(l 1),(l 2),((l 3)+1)]) T wk ?_
  intro x8 U q v2 ao aq
  have V:Je w x8 U=some v2:=ao;unfold Je at V
  refine aU<|xS R<|aZ<|aT λar=>cI R V (λI=>?_) λI=>?_
  ·refine Zd<|ar _<|aT λav=>Zf<|aU<|lF KK Mv R R<|sS R (B3 45 R Iz (f:=(D4 AD.row)) (l:=([[]]:List (List AD))) ⟨R,⟨_,iL,R⟩,Za⟩ R (λ_=>R) R)<|AG I λl3 aw ax=>sS R (Cj R Iz iL R (.inr<|.inl ⟨_,_,iL,R⟩) aw)<|sQ R (fB R KK iL fR R)<|Zk R R (Aj (ds:=[.own 7<|(q 3)+1,.own 54<|q 1,.own 61<|q 2]) R sD iL R iL R R R R)<|aZ<|aU<|lF Vh cS R R<|lF CH AJ R R<|xQ R<|sS R (B3 53 R Ng (f:=EZ) (l:=([(decide<|w.Kind=2)]:List Bool)) ⟨R,⟨_,iL,R⟩,Za⟩ R (λ_=>R) R)<|AG ax λl4 ay az=>sS R (Cj R Ng iL R (.inr<|.inl ⟨_,_,iL,R⟩) ay)<|sQ R (fB R Vh iL fR R)<|Zk R R (Aj (ds:=[.own 7<|(q 3)+1,.own 54<|(q 3)+3,.own 61<|q 2]) R nO iL R iL R R R R)<|aZ<|aG [0,2,3,5,10,11,40,41] [2,3,5,7,54,61] ?_
   exact aR<|lF U6 X8 R R<|lF D7 BD R R<|sS R (B3 60 R Ve (f:=(D4 AC.row)) (l:=([w.Attrs]:List (List AC))) ⟨R,⟨_,iL,R⟩,Za⟩ R (λ_=>R) R)<|AG az λl5 b0 b1=>sS R (Cj R Ve iL R (.inr<|.inl ⟨_,_,iL,R⟩) b0)<|sQ R (fB R U6 iL fR R)<|Zk R R (Aj (ds:=[.own 7<|(q 3)+1,.own 54<|(q 3)+3,.own 61<|(q 3)+5]) R pE iL R iL R R R R)<|aZ<|av _<|aR<|AG b1 λb4 X b2=>xA R X<|mM R<|Zh<|ZI b2 (AH [((q 3)+1),((q 3)+3),((q 3)+5),((q 3)+6)]) wk
  exact Zn<|O _ _ wk<|J2 _ (AH [(q 0),(q 1),(q 2),(q 3)]) (Zc<|an _<|xH aq I).symm
 exact Zn<|Z _ _ wk<|J1 _ (AH [(l 0),(l 1),(l 2),(l 3)])<|xH a6 h3
theorem iI{f1 w r}(h:NI f1 w=some r):AS prog 65 [qb f1,.agg<|Gw w] (qb r):=by
 unfold NI at h
 refine mF func65 ntmps65 R λj=>aU<|sS R (A2 (cs:=(Gw w)) 3 R iL R R)<|mA R<|aZ<|aU<|mA R<|aZ<|aS λK3 c3 U=>aU<|mM R<|xL Ah R<|mM R<|aZ<|Zf<|BH h λo1 J V=>?_
 have J1:∀(l:List AD) (O:NN),o1=l→K3 ⟨[(0,qb f1),(3,.ptr 3 j 0 0),(5,.own 5005<|O 0)],[(3,some<|.box j 116<|Gw w),(5005,some<|.arr (O 0) 37 3<|l.map AD.row)],(O 1),52⟩:=by
  intro l O e
  have h1:=V _ e
  exact c3 _<|aU<|mM R<|lF KK Mv R R<|mM R<|xL Ah R<|AG h1 λx4 X h2=>xI Iz R X<|xV (.sl<|x4.map AD.row) B9 R<|AG h2 λl1 Y h3=>sS R (Cj R Ah iL R (.inl ⟨iL,λ_=>R⟩) Y)<|mA R<|aZ<|Zj<|DU (P:=prog) (λ(r:(List AD))=>qb r) h3 iL<|.t<|.one<|.own R
 refine Dd (λ(T:Int) (q:List AD) A=>⟨[(0,qb f1),(3,.ptr 3 j 0 0),(5,.own 5005<|A 0),(9,rL f1),(10,rI T)],[(3,some<|.box j 116<|Gw w),(5005,some<|.arr (A 0) 37 3<|q.map AD.row)],(A 1),52⟩) (AH [(j+1),(j+2)]) J (Zm (Zm (IE 5 5005 37 3 (by decide) R)<|by exact ZE (e':=[(0,qb f1),(1,.agg<|Gw w),(3,.ptr 3 j 0 0),(4,cZ),(5,.own 5005<|j+1),(8,qb f1),(9,rL f1),(10,rI 0)]) (h':=[(3,some<|.box j 116<|Gw w),(5005,some<|.arr (j+1) 37 3<|([]:List AD).map AD.row)]) ⟨jL,jL,jL,jL,jL,jL,jL,jL,Za⟩ ⟨.inl R,.inl R,Za⟩ nL) wk) ?_
 intro T q A v1 Z a0
 have h4:I3 f1 w T q=some v1:=Z;unfold I3 at h4
 refine aU<|xS R<|aZ<|aT λc7=>cI R h4 (λh5=>?_) λh5=>?_
 ·refine Zd<|c7 _<|aS λK8 c8 M=>Zf<|BH h5 λp1 a2 a6=>?_
  have J2:∀(u:List AD) (I:NN),p1=u→K8 ⟨[(0,qb f1),(3,.ptr 3 j 0 0),(5,.own 5005<|I 0),(9,rL f1),(10,rI T)],[(3,some<|.box j 116<|Gw w),(5005,some<|.arr (I 0) 37 3<|u.map AD.row)],(I 1),52⟩:=by
   intro u I e
   have h6:=a6 _ e
   exact c8 _<|aR<|AG h6 λx5 a7 h7=>xA R a7<|mM R<|Zh<|ZI h7 (AH [(I 0),(I 1)]) wk
  refine aU<|mM R<|mA R<|aZ<|aU<|mM R<|lF KK Mv R R<|mM R<|AG a2 λx6 a8 h8=>xI Iz R a8<|xV (.sl<|x6.map AD.row) B9 R<|AG h8 λal C h9=>sS R (Cj R Ah iL R (.inl ⟨iL,λ_=>R⟩) C)<|mA R<|aZ<|aU<|lF Vh cS R R<|mM R<|AG h9 λx7 aa ab=>xI Ng R aa<|xV (.bool x7) UW R<|sQ R (A3 R iL)<|aZ<|cI R ab (λE=>?_) λE=>?_
  ·refine aT λac=>aG [0,3,5,6,9,10] [3,5005] ?_
   refine aR<|mM R<|mM R<|AG E λB ad ae=>xI Ah R ad<|xB ((A5 B)) Dc R<|sS R (BF (cs:=Fh) 7 R Ft R R)<|Zk R R (Aj (ds:=(A5 B)) R EY iL R iL R R R R)<|aZ<|ac _<|aT λaf=>?_
   refine Nj 7 BA (by kernel_rfl) R R ?_
   refine Zw R R R (fB R DA iL fR R)<|Zw R R R (AZ (a:=qa B.Attrs) R BD iL R R)<|Zw R R R (fB R U6 iL fR R)<|Zw R R R (AZ (a:=.r<|.sl<|w.Attrs.map<|D4 AC.row) R X8 iL R R)<|Zw R R R (AK R iL)<|AG ae λx9 ag ah=>Zw R R R (Az R Ve.slice iL iL (λ_=>R) λ_=>ag)<|Zw R R R (Bc (d:=.sl<|x9.map AC.row) R BD iL R)<|AT.nil<|AG ah λr1 ai aj=>sS R (C0 (r:=qa r1) (caps:=[]) (bs:=[qa B.Attrs,qa x9]) R iL R ⟨.inl ⟨iL,R⟩,.inl ⟨iL,R⟩,Za⟩ λ_=>WJ<|ai)<|sQ R (fB R DA iL fR R)<|Zk R R (Aj (ds:=[rI B.Char,rI B.Ref,qa r1]) R Gf iL R iL R R R R)<|aZ<|af _<|aG [0,3,5,7,9,10] [3,7,5005] ?_
   exact aR<|mM R<|xC Dc R<|sS R (B3 41 R Ah (f:=AD.row) (l:=([(AD.mk B.Char B.Ref r1)]:List AD)) ⟨R,⟨_,iL,R⟩,Za⟩ R (λ_=>R) R)<|AG aj λan F ak=>sS R (Cj R Ah iL R (.inr<|.inl ⟨_,_,iL,R⟩) F)<|mA R<|Zh<|M _ _ wk<|J2 _ (AH [((A 1)+3),((A 1)+4)]) (Zc ak).symm
  exact Zd<|M _ _ wk<|J2 _ (AH [(A 1),((A 1)+1)]) (Zc E).symm
 exact Zn<|U _ _ wk<|J1 _ (AH [(A 0),(A 1)])<|xH a0 h5
theorem ig{f1 d1 r}(h:Mu f1 d1=some r):AS prog 30 [qb f1,qc d1] (qb r):=by
 unfold Mu at h
 exact mF func30 ntmps30 R λB=>aU<|mA R<|aZ<|aU<|mM R<|mM R<|AG h λq j u=>sS R (C0 (r:=.agg<|Gw q) (caps:=[]) (bs:=[qc d1]) R iL R ⟨.inl ⟨iL,R⟩,Za⟩ λ_=>pj<|j)<|AG u λw l A=>sS R (C0 (r:=qb w) (caps:=[]) (bs:=[qb f1,.agg<|Gw q]) R iL R ⟨.inl ⟨iL,R⟩,.inl ⟨iL,R⟩,Za⟩ λ_=>iI<|l)<|mA R<|aZ<|Zj<|DU (P:=prog) (λ(r:(List AD))=>qb r) A iL<|.t<|.d R
theorem iX{d1 C n w r}(h:Ps d1 C n w=some r):AS prog 9 [.agg [qg d1.Nodes],qi C,rI n,qb w] (rB r):=by
 unfold Ps at h
 refine mF func9 ntmps9 R λn0=>aU<|sS R (A2 (cs:=[qg d1.Nodes]) 4 R iL R R)<|mA R<|aZ<|aT λC2=>aU<|mM R<|xL I7 R<|xU R<|mM R<|vM R<|AG h λx1 I h1=>vQ R (Az R I7.slice (iR R) iL (λ_=>R)<|AU I)<|vQ R (A4 R QB<|iR R)<|vQ R (Bc (d:=.int .i64 x1.Kind) R AJ (iR R) R)<|vQ R (Ct R (iR R) iL)<|xO R<|mM R<|vM R<|AG h1 λx2 J h2=>vQ R (Az R I7.slice (iR R) iL (λ_=>R)<|AU J)<|vQ R (A4 R VH<|iR R)<|vQ R (Bc (d:=.int .i64 x2.Node) R AJ (iR R) R)<|vM R<|vQ R (Ct R (iR R)<|iR R)<|xO R<|aZ<|cI R h2 (λM=>?_) λM=>?_
 ·exact zB M R id
 refine Zd<|C2 _<|aT λC5=>aG [1,2,3,4] [4] ?_
 refine ZA BA (by kernel_rfl) ?_
 refine qP R (fB R Dq iL fR R)<|qP R (AZ (a:=qg d1.Nodes) R Dt iL R R)<|qP R (FT R E5 iL R R)<|qP R (AK R iL)<|AG M λr1 O h4=>Fw R R R (r:=rI r1) (caps:=[]) (bs:=[.agg [qg d1.Nodes],rI n]) R iL R ⟨⟨_,iL,.g (cs:=[.sl<|d1.Nodes.map Ak.row]) R R⟩,⟨_,iL,.d R⟩,Za⟩ (λ_=>TW<|O) R<|AG h4 λq T h5=>qP R (Az R DI.slice iL iL (λ_=>R) λ_=>T)<|qP R (A4 R FP iL)<|qP R (Bc (d:=.sl<|q.Flow.map AD.row) R B9 iL R)<|qP R (Dj R iL)<|AQ.nil<|C5 _<|aS λK6 C6 E=>aF [1,3,9] ?_
 refine aR<|mM R<|AG h5 λl u h6=>xI I7 R u<|xB ((F4 l)) ji R<|AG h6 λB U h7=>cL (jD<|U) R<|xQ R<|mM R<|vM R<|vQ R (Az R I7.slice (iR R) iL (λ_=>R) λ_=>u)<|vQ R (A4 R Sm<|iR R)<|vQ R (Bc (d:=.sl<|l.Steps.map AI.row) R EM (iR R) R)<|AG h7 λV X h8=>vL (λhg=>s0<|AU X hg) R<|vM R<|vQ R (Bk R Ah.slice<|iR R)<|vQ R (Am R (iR R)<|iR R)<|xN R<|mM R<|vM R<|vM R<|vQ R (Az R I7.slice (iR R) iL (λ_=>R) λ_=>u)<|vQ R (A4 R Sm<|iR R)<|vQ R (Bc (d:=.sl<|l.Steps.map AI.row) R EM (iR R) R)<|BH h8 λp1 F Y=>?_
 have J1:∀(Z:Bool) (i1:NN),p1=Z→K6 ⟨[(8,rB Z)],[],(i1 0),61⟩:=by
  intro Z i1 e
  have h9:=Y _ e
  exact C6 _<|Zj<|yB h9 R
 refine AL.split (((B=0)&&(V=(q.Flow.length:Int)))==true) (λj=>?_) λj=>?_
 ·have A:=CF j F
  refine AL.weak (by exact Q3 (e':=[(1,qi C),(3,qb w),(9,qb q.Flow),(36,qi C),(37,.rop (BS.row l) 0),(38,.agg<|F4 l),(39,rI B),(40,rB<|(decide<|B=0)),(41,rB<|(decide<|B=0)),(50,rB<|((B=0)&&(V=(q.Flow.length:Int)))),(51,rB<|((B=0)&&(V=(q.Flow.length:Int)))),(52,qb q.Flow),(53,qi C),(54,.rop (BS.row l) 0),(55,.rop (BS.row l) 12),(56,qc l.Steps)]) j ⟨.inl R,.inl R,.inl R,.inl R,.inl R,.inl R,.inl R,.inl R,.inl R,.inl R,.inl R,.inr iL,.inr iL,.inr iL,.inr iL,.inr iL,Za⟩) ?_
  exact AG A λr4 a0 a1=>IB (.one R R R) j R R (C0 (r:=qb r4) (caps:=[]) (bs:=[qb q.Flow,qc l.Steps]) R (.inl R) R ⟨.inl ⟨(.inl R),R⟩,.inl ⟨(.inl R),R⟩,Za⟩ λ_=>ig<|a0)<|IB (.one R R R) j R R (AR.spec (AK R<|.inl R) _)<|AG a1 λr5 a2 a6=>IB (.one R R R) j R R (Dy (r:=rB r5) (caps:=[]) (bs:=[qb r4,qb w]) R (.inl R) R ⟨⟨_,(.inl R),.d R⟩,⟨_,(.inl R),.d R⟩,Za⟩ (λ_=>cW<|a2) R)<|sQ R (BI R iL iL)<|mA R<|Zh<|E _ _ wk<|J1 _ (AH [(n0+1)]) (Zc a6).symm
 ·have A:=CA j F
  exact GC (.one R R R) j R R<|GC (.one R R R) j R R<|GC (.one R R R) j R R<|xN R<|mA R<|Zh<|E _ _ wk<|J1 _ (AH [(n0+1)]) (Zc A).symm
theorem iw{d1 w b c r}(h:MB d1 w b c=some r):AS prog 3 [.agg [qg d1.Nodes],.agg<|A0 w,qb b,rS c] (rB r):=by
 unfold MB at h
 refine mF func3 ntmps3 R λl=>aU<|sS R (A2 (cs:=[qg d1.Nodes]) 4 R iL R R)<|sS R (A2 (cs:=(A0 w)) 5 R iL R R)<|mA R<|aZ<|aT λc2=>aU<|AG h λr1 b0 h1=>cL (lw<|b0) R<|sQ R (A3 R iL)<|aZ<|cI R h1 (λh2=>?_) λh2=>?_
 ·exact zB h2 R id
 refine Zd<|c2 _<|aU<|xC E5 R<|xC Fg R<|mM R<|mM R<|Kc h2 λF j q b1 h3=>sS R (C0 (r:=.tup [qi F,.agg<|A0 j,rI q]) (caps:=[]) (bs:=[.agg [qg d1.Nodes],.agg<|A0 w,qb b,rS c]) R iL R ⟨.inl ⟨iL,R⟩,.inl ⟨iL,R⟩,.inl ⟨iL,R⟩,.inl ⟨iL,R⟩,Za⟩ λ_=>pi<|b1)<|mM R<|xX R<|xX R<|xX R<|sS R (BF (cs:=[rI 0,rI 0,rI 0]) 10 R Vs R R)<|mA R<|Zk R R (Aj (ds:=(A0 j)) R Is iL R iL R R R R)<|mA R<|aZ<|aT λc6=>aG [2,3,4,5,9,10,11] [4,5,10] ?_
 refine aR<|xC E5 R<|xC Fg R<|mM R<|AG h3 λf1 b2 h4=>cL (ss<|b2) R<|mA R<|aZ<|c6 _<|aS λK7 c7 ag=>aU<|mM R<|xQ R<|aZ<|BH h4 λp1 ah b3=>?_
 have J1:∀(f2:Int) (i1:NN),p1=f2→K7 ⟨[(2,qb b),(3,rS c),(4,.ptr 4 l 0 0),(5,.ptr 5 (l+1) 0 0),(9,qi F),(10,.ptr 10 (l+2) 0 0),(11,rI q),(12,rI f2)],[(4,some<|.box l 24 [qg d1.Nodes]),(5,some<|.box (l+1) 26<|A0 w),(10,some<|.box (l+2) 26<|A0 j)],(i1 0),191⟩:=by
  intro f2 i1 e
  have h5:=b3 _ e
  refine c7 _<|aS λK9 c9 ai=>aU<|mM R<|xQ R<|mM R<|vM R<|vQ R (Bk R Ah.slice<|iR R)<|vQ R (A9 R (iR R) iL)<|xN R<|aZ<|BH h5 λp2 aj b4=>?_
  have J2:∀(f3:Int) (i2:NN),p2=f3→K9 ⟨[(2,qb b),(3,rS c),(4,.ptr 4 l 0 0),(5,.ptr 5 (l+1) 0 0),(9,qi F),(10,.ptr 10 (l+2) 0 0),(11,rI q),(12,rI f3)],[(4,some<|.box l 24 [qg d1.Nodes]),(5,some<|.box (l+1) 26<|A0 w),(10,some<|.box (l+2) 26<|A0 j)],(i2 0),191⟩:=by
   intro f3 i2 e
   have h6:=b4 _ e
   refine c9 _<|aU<|mA R<|aZ<|aS λb5 b6 ak=>aU<|mM R<|xL Ah R<|mM R<|aZ<|Zf<|IF h6 λo1 al b7=>?_
   have J3:∀(f7:Int) (J:List AD) (i7:NN),o1=(f7,J)→b5 ⟨[(3,rS c),(4,.ptr 4 l 0 0),(5,.ptr 5 (l+1) 0 0),(9,qi F),(10,.ptr 10 (l+2) 0 0),(11,rI q),(12,rI f7),(13,.own 5013<|i7 0)],[(4,some<|.box l 24 [qg d1.Nodes]),(5,some<|.box (l+1) 26<|A0 w),(10,some<|.box (l+2) 26<|A0 j),(5013,some<|.arr (i7 0) 37 3<|J.map AD.row)],(i7 1),191⟩:=by
    intro f7 J i7 e
    have h7:=b7 _ _ e
    refine b6 _<|aT λb8=>aU<|mM R<|xU R<|aZ<|cI R h7 (λh8=>?_) λh8=>?_
    ·refine aT λb9=>aR<|mM R<|mM R<|xQ R<|mM R<|vM R<|vQ R (Bk R I7.slice<|iR R)<|vQ R (Am R (iR R) iL)<|xN R<|mM R<|vQ R (FT R Fg iL R R) ?_
     refine vQ R (Bt R JI (q:=[]) (by exact Za) (cs:=[rI 0,rI 0,rI 0])<|by rfl) ?_
     exact vQ R (Yk R lL (iR R) (iR R) R)<|xN R<|mA R<|aZ<|b9 _<|Zj<|yB h8 R
    refine Zd<|b8 _<|aT λba=>AG h8 λr5 bb h9=>AG h9 λV bc bd=>?_
    refine IA 9 [pO 148<|.ptr 4 l 0 0,pO 149<|qg d1.Nodes,pO 150<|.agg [qg d1.Nodes],pO 151<|.ptr 5 (l+1) 0 0,pO 152<|rI w.Node,pO 153<|rI r5,pO 154<|.rop (Ak.row V) 0,pO 155<|.agg<|Bp V,⟨some 19,(λM=>.ptr 19 (M 8) 0 0),some (19,(λM=>some<|.box (M 8) 46 KO)),[8]⟩] BA (by kernel_rfl) (by exact⟨λ_ _ h=>⟨R,λ_ _ e=>by cases e⟩,λ_ _ h=>⟨R,λ_ _ e=>by cases e⟩,λ_ _ h=>⟨R,λ_ _ e=>by cases e⟩,λ_ _ h=>⟨R,λ_ _ e=>by cases e⟩,λ_ _ h=>⟨R,λ_ _ e=>by cases e⟩,λ_ _ h=>⟨R,λ_ _ e=>by cases e⟩,λ_ _ h=>⟨R,λ_ _ e=>by cases e⟩,λ_ _ h=>⟨R,λ_ _ e=>by cases e⟩,λ_ _ h=>⟨by simp only[h 8 R],λ_ _ e=>by cases e;simp only[h 8 R]⟩,Za⟩) R (by exact⟨oB [(4,.ptr 4 l 0 0)] [(4,some<|.box l 24 [qg d1.Nodes])]<|fB R Dq (.inl R) (λ_=>R) R,oB [(148,.ptr 4 l 0 0)] [(4,some<|.box l 24 [qg d1.Nodes])]<|AZ (a:=qg d1.Nodes) R Dt (.inl R) R R,oB [(4,.ptr 4 l 0 0)] [(4,some<|.box l 24 [qg d1.Nodes])]<|FT R E5 (.inl R) R R,oB [(5,.ptr 5 (l+1) 0 0)] [(5,some<|.box (l+1) 26<|A0 w)]<|fB R Ni (.inl R) (λ_=>R) R,oB [(151,.ptr 5 (l+1) 0 0)] [(5,some<|.box (l+1) 26<|A0 w)]<|AZ (a:=rI w.Node) R AJ (.inl R) R R,oD (λ_=>[(150,.agg [qg d1.Nodes]),(152,rI w.Node)]) (λ_=>[]) λM e h' n=>Dy (r:=rI r5) (caps:=[]) (bs:=[.agg [qg d1.Nodes],rI w.Node]) R (.inl R) R ⟨⟨_,(.inl R),.g (cs:=[.sl<|d1.Nodes.map Ak.row]) R R⟩,⟨_,(.inl R),.d R⟩,Za⟩ (λ_=>TW<|bb) R,oB [(149,qg d1.Nodes),(153,rI r5)] []<|Az R DI.slice (.inl R) (.inl R) (λ_=>R) λ_=>bc,oB [(154,.rop (Ak.row V) 0)] []<|Ci (cs:=(Bp V)) R Gc (.inl R) R R,oM (λ_=>[]) (λ_=>[]) R λM e h' n=>BF (cs:=KO) 19 R UY R R,Za⟩) λM n1=>?_
    refine A8 [3,4,5,9,10,11,12,13,19,133,134,148,149,150,151,152,153,154,155] [4,5,10,19,5013] ?_
    refine Zk R R (Aj (ds:=(Bp V)) R WO iL R iL R R R R)<|aZ<|ba _<|aT λbe=>aG [3,4,5,9,10,11,13,19] [4,5,10,19,5013] ?_
    refine AW.weak (by exact Ae.frz (e':=[(3,rS c),(4,.ptr 4 l 0 0),(5,.ptr 5 (l+1) 0 0),(9,qi F),(10,.ptr 10 (l+2) 0 0),(11,rI q),(13,qb J),(19,.ptr 19 (M 8) 0 0)]) (h':=[(4,some<|.box l 24 [qg d1.Nodes]),(5,some<|.box (l+1) 26<|A0 w),(10,some<|.box (l+2) 26<|A0 j),(19,some<|.box (M 8) 46<|Bp V)]) 5013 R ⟨jL,jL,jL,jL,jL,jL,.inl<|.inr<|.inr ⟨R,R⟩,jL,Za⟩ ⟨R,.inl R,R,.inl R,R,.inl R,R,.inl R,Za⟩) ?_
    refine AG bd λu bf bg=>AG bg λr6 bh bi=>?_
    refine rP 33 [pO 156<|rI q,pO 157<|rB<|(decide<|q=0),pO 158<|rB<|(decide<|q=0),pO 159<|.whn ((decide<|q=0)==true)<|.ptr 10 (l+2) 0 1,pO 160<|.whn ((decide<|q=0)==true)<|rI j.From,pO 161<|.whn ((decide<|q=0)==true)<|.ptr 5 (l+1) 0 1,pO 162<|.whn ((decide<|q=0)==true)<|rI w.From,pO 163<|.whn ((decide<|q=0)==true)<|qb J,pO 164<|.whn ((decide<|q=0)==true)<|rL J,pO 165<|.whn ((decide<|q=0)==true)<|rI u,pO 166<|.whn ((decide<|q=0)==true)<|rB<|(decide<|j.From=u),pO 167<|rB<|((q=0)&&(j.From=u)),pO 168<|rB<|((q=0)&&(j.From=u)),pO 169<|.whn (((q=0)&&(j.From=u))==true)<|.ptr 10 (l+2) 0 2,pO 170<|.whn (((q=0)&&(j.From=u))==true)<|rI j.To,pO 171<|.whn (((q=0)&&(j.From=u))==true)<|.ptr 10 (l+2) 0 1,pO 172<|.whn (((q=0)&&(j.From=u))==true)<|rI j.From,pO 173<|.whn (((q=0)&&(j.From=u))==true)<|rB<|(decide<|j.To=j.From),pO 174<|rB<|(((q=0)&&(j.From=u))&&(j.To=j.From)),pO 175<|rB<|(((q=0)&&(j.From=u))&&(j.To=j.From)),pO 176<|.whn ((((q=0)&&(j.From=u))&&(j.To=j.From))==true)<|.agg [qg d1.Nodes],pO 177<|.whn ((((q=0)&&(j.From=u))&&(j.To=j.From))==true)<|qi F,pO 178<|.whn ((((q=0)&&(j.From=u))&&(j.To=j.From))==true)<|.ptr 5 (l+1) 0 0,pO 179<|.whn ((((q=0)&&(j.From=u))&&(j.To=j.From))==true)<|rI w.Node,pO 180<|.whn ((((q=0)&&(j.From=u))&&(j.To=j.From))==true)<|.ptr 19 (M 8) 0 3,pO 181<|.whn ((((q=0)&&(j.From=u))&&(j.To=j.From))==true)<|qb V.Flow,pO 182<|.whn ((((q=0)&&(j.From=u))&&(j.To=j.From))==true)<|.ptr 5 (l+1) 0 1,pO 183<|.whn ((((q=0)&&(j.From=u))&&(j.To=j.From))==true)<|rI w.From,pO 184<|.whn ((((q=0)&&(j.From=u))&&(j.To=j.From))==true)<|.ptr 5 (l+1) 0 2,pO 185<|.whn ((((q=0)&&(j.From=u))&&(j.To=j.From))==true)<|rI w.To,pO 186<|.whn ((((q=0)&&(j.From=u))&&(j.To=j.From))==true)<|qb J,pO 187<|.whn ((((q=0)&&(j.From=u))&&(j.To=j.From))==true)<|rS c,pO 188<|.whn ((((q=0)&&(j.From=u))&&(j.To=j.From))==true)<|qb r6] BA R (by exact⟨oB [(11,rI q)] []<|AK R<|.inl R,oB [(156,rI q)] []<|Am R (.inl R)<|.inl R,oB [(157,rB<|(decide<|q=0))] []<|AK R<|.inl R,oG [(10,.ptr 10 (l+2) 0 0),(158,rB<|(decide<|q=0))] [(10,some<|.box (l+2) 26<|A0 j)] (λ_ _=>R)<|fB R Gl (.inl R) (λ_=>R) R,oG [(158,rB<|(decide<|q=0)),(159,.whn ((decide<|q=0)==true)<|.ptr 10 (l+2) 0 1)] [(10,some<|.box (l+2) 26<|A0 j)] (λ_ _=>R)<|AZ (a:=rI j.From) R AJ (.inr ⟨_,(by exact id),R⟩) R R,oG [(5,.ptr 5 (l+1) 0 0),(158,rB<|(decide<|q=0))] [(5,some<|.box (l+1) 26<|A0 w)] (λ_ _=>R)<|fB R Gl (.inl R) (λ_=>R) R,oG [(158,rB<|(decide<|q=0)),(161,.whn ((decide<|q=0)==true)<|.ptr 5 (l+1) 0 1)] [(5,some<|.box (l+1) 26<|A0 w)] (λ_ _=>R)<|AZ (a:=rI w.From) R AJ (.inr ⟨_,(by exact id),R⟩) R R,oG [(13,qb J),(158,rB<|(decide<|q=0))] [] (λ_ _=>R)<|AK R<|.inl R,oG [(158,rB<|(decide<|q=0)),(163,.whn ((decide<|q=0)==true)<|qb J)] [] (λ_ _=>R)<|Bk R Ah.slice<|.inr ⟨_,(by exact id),R⟩,oG [(158,rB<|(decide<|q=0)),(162,.whn ((decide<|q=0)==true)<|rI w.From),(164,.whn ((decide<|q=0)==true)<|rL J)] [] (λ_ _=>R)<|Gh R (.inr ⟨_,(by exact id),R⟩) (.inr ⟨_,(by exact id),R⟩)<|AU bf,oG [(158,rB<|(decide<|q=0)),(160,.whn ((decide<|q=0)==true)<|rI j.From),(165,.whn ((decide<|q=0)==true)<|rI u)] [] (λ_ _=>R)<|Am R (.inr ⟨_,(by exact id),R⟩)<|.inr ⟨_,(by exact id),R⟩,oB [(158,rB<|(decide<|q=0)),(166,.whn ((decide<|q=0)==true)<|rB<|(decide<|j.From=u))] []<|BI R (.inl R)<|.inr ⟨_,(by exact id),R⟩,oB [(167,rB<|((q=0)&&(j.From=u)))] []<|AK R<|.inl R,oG [(10,.ptr 10 (l+2) 0 0),(168,rB<|((q=0)&&(j.From=u)))] [(10,some<|.box (l+2) 26<|A0 j)] (λ_ _=>R)<|fB R Kn (.inl R) (λ_=>R) R,oG [(168,rB<|((q=0)&&(j.From=u))),(169,.whn (((q=0)&&(j.From=u))==true)<|.ptr 10 (l+2) 0 2)] [(10,some<|.box (l+2) 26<|A0 j)] (λ_ _=>R)<|AZ (a:=rI j.To) R AJ (.inr ⟨_,(by exact id),R⟩) R R,oG [(10,.ptr 10 (l+2) 0 0),(168,rB<|((q=0)&&(j.From=u)))] [(10,some<|.box (l+2) 26<|A0 j)] (λ_ _=>R)<|fB R Gl (.inl R) (λ_=>R) R,oG [(168,rB<|((q=0)&&(j.From=u))),(171,.whn (((q=0)&&(j.From=u))==true)<|.ptr 10 (l+2) 0 1)] [(10,some<|.box (l+2) 26<|A0 j)] (λ_ _=>R)<|AZ (a:=rI j.From) R AJ (.inr ⟨_,(by exact id),R⟩) R R,oG [(168,rB<|((q=0)&&(j.From=u))),(170,.whn (((q=0)&&(j.From=u))==true)<|rI j.To),(172,.whn (((q=0)&&(j.From=u))==true)<|rI j.From)] [] (λ_ _=>R)<|Am R (.inr ⟨_,(by exact id),R⟩)<|.inr ⟨_,(by exact id),R⟩,oB [(168,rB<|((q=0)&&(j.From=u))),(173,.whn (((q=0)&&(j.From=u))==true)<|rB<|(decide<|j.To=j.From))] []<|BI R (.inl R)<|.inr ⟨_,(by exact id),R⟩,oB [(174,rB<|(((q=0)&&(j.From=u))&&(j.To=j.From)))] []<|AK R<|.inl R,oG [(4,.ptr 4 l 0 0),(175,rB<|(((q=0)&&(j.From=u))&&(j.To=j.From)))] [(4,some<|.box l 24 [qg d1.Nodes])] (λ_ _=>R)<|FT R E5 (.inl R) R R,oG [(9,qi F),(175,rB<|(((q=0)&&(j.From=u))&&(j.To=j.From)))] [] (λ_ _=>R)<|AK R<|.inl R,oG [(5,.ptr 5 (l+1) 0 0),(175,rB<|(((q=0)&&(j.From=u))&&(j.To=j.From)))] [(5,some<|.box (l+1) 26<|A0 w)] (λ_ _=>R)<|fB R Ni (.inl R) (λ_=>R) R,oG [(175,rB<|(((q=0)&&(j.From=u))&&(j.To=j.From))),(178,.whn ((((q=0)&&(j.From=u))&&(j.To=j.From))==true)<|.ptr 5 (l+1) 0 0)] [(5,some<|.box (l+1) 26<|A0 w)] (λ_ _=>R)<|AZ (a:=rI w.Node) R AJ (.inr ⟨_,(by exact id),R⟩) R R,oG [(19,.ptr 19 (M 8) 0 0),(175,rB<|(((q=0)&&(j.From=u))&&(j.To=j.From)))] [(19,some<|.box (M 8) 46<|Bp V)] (λ_ _=>R)<|fB R FP (.inl R) (λ_=>R) R,oG [(175,rB<|(((q=0)&&(j.From=u))&&(j.To=j.From))),(180,.whn ((((q=0)&&(j.From=u))&&(j.To=j.From))==true)<|.ptr 19 (M 8) 0 3)] [(19,some<|.box (M 8) 46<|Bp V)] (λ_ _=>R)<|AZ (a:=qb V.Flow) R B9 (.inr ⟨_,(by exact id),R⟩) R R,oG [(5,.ptr 5 (l+1) 0 0),(175,rB<|(((q=0)&&(j.From=u))&&(j.To=j.From)))] [(5,some<|.box (l+1) 26<|A0 w)] (λ_ _=>R)<|fB R Gl (.inl R) (λ_=>R) R,oG [(175,rB<|(((q=0)&&(j.From=u))&&(j.To=j.From))),(182,.whn ((((q=0)&&(j.From=u))&&(j.To=j.From))==true)<|.ptr 5 (l+1) 0 1)] [(5,some<|.box (l+1) 26<|A0 w)] (λ_ _=>R)<|AZ (a:=rI w.From) R AJ (.inr ⟨_,(by exact id),R⟩) R R,oG [(5,.ptr 5 (l+1) 0 0),(175,rB<|(((q=0)&&(j.From=u))&&(j.To=j.From)))] [(5,some<|.box (l+1) 26<|A0 w)] (λ_ _=>R)<|fB R Kn (.inl R) (λ_=>R) R,oG [(175,rB<|(((q=0)&&(j.From=u))&&(j.To=j.From))),(184,.whn ((((q=0)&&(j.From=u))&&(j.To=j.From))==true)<|.ptr 5 (l+1) 0 2)] [(5,some<|.box (l+1) 26<|A0 w)] (λ_ _=>R)<|AZ (a:=rI w.To) R AJ (.inr ⟨_,(by exact id),R⟩) R R,oG [(13,qb J),(175,rB<|(((q=0)&&(j.From=u))&&(j.To=j.From)))] [] (λ_ _=>R)<|AK R<|.inl R,oG [(3,rS c),(175,rB<|(((q=0)&&(j.From=u))&&(j.To=j.From)))] [] (λ_ _=>R)<|AK R<|.inl R,oH (λ_=>[(175,rB<|(((q=0)&&(j.From=u))&&(j.To=j.From))),(181,.whn ((((q=0)&&(j.From=u))&&(j.To=j.From))==true)<|qb V.Flow),(183,.whn ((((q=0)&&(j.From=u))&&(j.To=j.From))==true)<|rI w.From),(185,.whn ((((q=0)&&(j.From=u))&&(j.To=j.From))==true)<|rI w.To),(186,.whn ((((q=0)&&(j.From=u))&&(j.To=j.From))==true)<|qb J),(187,.whn ((((q=0)&&(j.From=u))&&(j.To=j.From))==true)<|rS c)]) (λ_=>[]) (λ_ _=>R) λG2 e h' n=>C0 (r:=qb r6) (caps:=[]) (bs:=[qb V.Flow,rI w.From,rI w.To,qb J,rS c]) R (.inl R) R ⟨.inl ⟨(.inr ⟨_,(by exact id),R⟩),R⟩,.inl ⟨(.inr ⟨_,(by exact id),R⟩),R⟩,.inl ⟨(.inr ⟨_,(by exact id),R⟩),R⟩,.inl ⟨(.inr ⟨_,(by exact id),R⟩),R⟩,.inl ⟨(.inr ⟨_,(by exact id),R⟩),R⟩,Za⟩ λhg=>tO<|AU bh hg,Za⟩) λG2 n2=>?_
    refine A8 [3,4,5,9,10,11,13,19,156,157,158,159,160,161,162,163,164,165,166,167,168,169,170,171,172,173,174,175,176,177,178,179,180,181,182,183,184,185,186,187,188] [4,5,10,19] ?_
    exact AG bi λr7 bj bk=>vL (λhg=>iX<|AU bj hg) R<|xN R<|mA R<|aZ<|be _<|Zj<|yB bk R
   refine Gk (λ(f5:Int) (O:Int) (Y:List AD) B=>⟨[(2,qb b),(3,rS c),(4,.ptr 4 l 0 0),(5,.ptr 5 (l+1) 0 0),(9,qi F),(10,.ptr 10 (l+2) 0 0),(11,rI q),(12,rI f5),(13,.own 5013<|B 0),(47,rL b),(48,rI O)],[(4,some<|.box l 24 [qg d1.Nodes]),(5,some<|.box (l+1) 26<|A0 w),(10,some<|.box (l+2) 26<|A0 j),(5013,some<|.arr (B 0) 37 3<|Y.map AD.row)],(B 1),191⟩) (AH [(i2 0),((i2 0)+1)]) al (Zm (Zm (IE 13 5013 37 3 (by decide) R)<|by exact ZE (e':=[(2,qb b),(3,rS c),(4,.ptr 4 l 0 0),(5,.ptr 5 (l+1) 0 0),(9,qi F),(10,.ptr 10 (l+2) 0 0),(11,rI q),(12,rI f3),(13,.own 5013<|i2 0),(46,qb b),(47,rL b),(48,rI 0)]) (h':=[(4,some<|.box l 24 [qg d1.Nodes]),(5,some<|.box (l+1) 26<|A0 w),(10,some<|.box (l+2) 26<|A0 j),(5013,some<|.arr (i2 0) 37 3<|([]:List AD).map AD.row)]) ⟨jL,jL,jL,jL,jL,jL,jL,jL,jL,jL,jL,jL,Za⟩ ⟨.inl R,.inl R,.inl R,.inl R,Za⟩ nL) wk) ?_
   intro f5 O Y B v1 bl bm
   have an:KJ b f5 O Y=some v1:=bl;unfold KJ at an
   refine aU<|xS R<|aZ<|aT λbn=>cI R an (λa6=>?_) λa6=>?_
   ·refine Zd<|bn _<|aT λbo=>Zf<|aU<|mM R<|mA R<|aZ<|aS λbp bq a1=>aU<|mM R<|xQ R<|mM R<|vM R<|vM R<|AG a6 λx6 br bs=>vQ R (Az R Ah.slice (iR R) (iR R) (λ_=>R)<|AU br)<|vQ R (A4 R D9<|iR R)<|vQ R (Bc (d:=.int .i64 x6.Ref) R AJ (iR R) R)<|vQ R (Ct R (iR R) iL)<|xN R<|aZ<|BH bs λp3 ao bt=>?_
    have J4:∀(f8:Int) (i8:NN),p3=f8→bp ⟨[(2,qb b),(3,rS c),(4,.ptr 4 l 0 0),(5,.ptr 5 (l+1) 0 0),(9,qi F),(10,.ptr 10 (l+2) 0 0),(11,rI q),(12,rI f8),(13,.own 5013<|B 0),(14,rI O),(47,rL b),(48,rI O)],[(4,some<|.box l 24 [qg d1.Nodes]),(5,some<|.box (l+1) 26<|A0 w),(10,some<|.box (l+2) 26<|A0 j),(5013,some<|.arr (B 0) 37 3<|Y.map AD.row)],(i8 0),191⟩:=by
     intro f8 i8 e
     have bu:=bt _ e
     refine bq _<|aT λbv=>aR<|mM R<|mM R<|AG bu λC aq bw=>xI Ah R aq<|sQ R (A4 R Ek iL)<|xV (.int .i64 C.Char) AJ R ?_
     refine sQ R (Bt R SP (q:=[(0,_)]) (by exact⟨R,R,R,iL,Za⟩) (cs:=[rI C.Char,rI 0,cZ])<|by rfl) ?_
     refine sS R (BF (cs:=Fh) 15 R Ft R R)<|Zk R R (Aj (ds:=[rI C.Char,rI 0,cZ]) R EY iL R iL R R R R)<|aZ<|bv _<|aS λbx bz ar=>aU<|mM R<|mM R<|xI Ah R aq<|sQ R (A4 R DA iL)<|xV (.sl<|C.Attrs.map AC.row) BD R<|xL Ac R<|mM R<|aZ<|Zf<|BH bw λo2 av c0=>?_
     have J5:∀(E:AD) (T:NN),o2=E→bx ⟨[(2,qb b),(3,rS c),(4,.ptr 4 l 0 0),(5,.ptr 5 (l+1) 0 0),(9,qi F),(10,.ptr 10 (l+2) 0 0),(11,rI q),(12,rI f8),(13,.own 5013<|B 0),(15,.ptr 15 (i8 0) 0 0),(47,rL b),(48,rI O)],[(4,some<|.box l 24 [qg d1.Nodes]),(5,some<|.box (l+1) 26<|A0 w),(10,some<|.box (l+2) 26<|A0 j),(15,some<|.box (i8 0) 37 [rI E.Char,rI E.Ref,.own 125<|T 0]),(125,some<|.arr (T 0) 39 2<|E.Attrs.map AC.row),(5013,some<|.arr (B 0) 37 3<|Y.map AD.row)],(T 1),191⟩:=by
      intro E T e
      have c1:=c0 _ e
      refine bz _<|aR<|mM R<|xC Dc R ?_
      refine AL.weak (by exact Ae.frz (e':=[(2,qb b),(3,rS c),(4,.ptr 4 l 0 0),(5,.ptr 5 (l+1) 0 0),(9,qi F),(10,.ptr 10 (l+2) 0 0),(11,rI q),(12,rI f8),(13,.own 5013<|B 0),(15,.ptr 15 (i8 0) 0 0),(47,rL b),(48,rI O),(128,.own 5013<|B 0),(129,.agg<|A5 E)]) (h':=[(4,some<|.box l 24 [qg d1.Nodes]),(5,some<|.box (l+1) 26<|A0 w),(10,some<|.box (l+2) 26<|A0 j),(15,some<|.box (i8 0) 37<|A5 E),(5013,some<|.arr (B 0) 37 3<|Y.map AD.row)]) 125 R ⟨jL,jL,jL,jL,jL,jL,jL,jL,jL,jL,jL,jL,jL,.inr ⟨_,_,R,R,⟨.inl R,.inl R,.inr<|.inr ⟨R,R⟩,Za⟩⟩,Za⟩ ⟨R,.inl R,R,.inl R,R,.inl R,R,.inr<|.inr<|.inl ⟨_,_,_,_,R,R,⟨.inl R,.inl R,.inr<|.inr ⟨R,R⟩,Za⟩⟩,R,.inl R,Za⟩) ?_
      exact sS R (B3 130 R Ah (f:=AD.row) (l:=([E]:List AD)) ⟨R,⟨_,iL,R⟩,Za⟩ R (λ_=>R) R)<|AG c1 λl5 c3 c4=>sS R (Cj R Ah iL R (.inr<|.inl ⟨_,_,iL,R⟩) c3)<|mA R<|aZ<|bo _<|aR<|AG c4 λcw aw c5=>xA R aw<|mM R<|Zh<|DN.mk c5 (AH [((T 1)+1),((T 1)+2)]) wk
     refine Dd (λ(Z:Int) (I:AD) A=>⟨[(2,qb b),(3,rS c),(4,.ptr 4 l 0 0),(5,.ptr 5 (l+1) 0 0),(9,qi F),(10,.ptr 10 (l+2) 0 0),(11,rI q),(12,rI f8),(13,.own 5013<|B 0),(15,.ptr 15 (i8 0) 0 0),(47,rL b),(48,rI O),(71,qa C.Attrs),(72,rL C.Attrs),(73,rI Z)],[(4,some<|.box l 24 [qg d1.Nodes]),(5,some<|.box (l+1) 26<|A0 w),(10,some<|.box (l+2) 26<|A0 j),(15,some<|.box (i8 0) 37 [rI I.Char,rI I.Ref,.own 125<|A 0]),(125,some<|.arr (A 0) 39 2<|I.Attrs.map AC.row),(5013,some<|.arr (B 0) 37 3<|Y.map AD.row)],(A 1),191⟩) (AH [((i8 0)+1),((i8 0)+2)]) av (Zm (Zm (ZK 15 2 125 39 2 (by decide) R R<|by decide)<|by exact ZE (e':=[(2,qb b),(3,rS c),(4,.ptr 4 l 0 0),(5,.ptr 5 (l+1) 0 0),(9,qi F),(10,.ptr 10 (l+2) 0 0),(11,rI q),(12,rI f8),(13,.own 5013<|B 0),(14,rI O),(15,.ptr 15 (i8 0) 0 0),(47,rL b),(48,rI O),(61,qb b),(62,rI O),(63,.rop (AD.row C) 0),(64,.rop (AD.row C) 0),(65,rI C.Char),(66,.agg [rI C.Char,rI 0,cZ]),(67,qb b),(68,rI O),(69,.rop (AD.row C) 0),(70,.rop (AD.row C) 2),(71,qa C.Attrs),(72,rL C.Attrs),(73,rI 0)]) (h':=[(4,some<|.box l 24 [qg d1.Nodes]),(5,some<|.box (l+1) 26<|A0 w),(10,some<|.box (l+2) 26<|A0 j),(15,some<|.box (i8 0) 37 [rI C.Char,rI 0,.own 125<|(i8 0)+1]),(125,some<|.arr ((i8 0)+1) 39 2<|([]:List AC).map AC.row),(5013,some<|.arr (B 0) 37 3<|Y.map AD.row)]) ⟨jL,jL,jL,jL,jL,jL,jL,jL,jL,jL,jL,jL,jL,jL,jL,jL,jL,jL,jL,jL,jL,jL,jL,jL,jL,jL,Za⟩ ⟨.inl R,.inl R,.inl R,.inl R,.inl R,.inl R,Za⟩ nL) wk) ?_
     intro Z I A v2 c8 ca
     have ax:IK C Z I=some v2:=c8;unfold IK at ax
     refine aU<|xS R<|aZ<|aT λcb=>cI R ax (λa7=>?_) λa7=>?_
     ·refine Zd<|cb _<|aS λcc cd a2=>Zf<|BH a7 λp4 cf cg=>?_
      have J6:∀(X:AD) (U:NN),p4=X→cc ⟨[(2,qb b),(3,rS c),(4,.ptr 4 l 0 0),(5,.ptr 5 (l+1) 0 0),(9,qi F),(10,.ptr 10 (l+2) 0 0),(11,rI q),(12,rI f8),(13,.own 5013<|B 0),(15,.ptr 15 (i8 0) 0 0),(47,rL b),(48,rI O),(71,qa C.Attrs),(72,rL C.Attrs),(73,rI Z)],[(4,some<|.box l 24 [qg d1.Nodes]),(5,some<|.box (l+1) 26<|A0 w),(10,some<|.box (l+2) 26<|A0 j),(15,some<|.box (i8 0) 37 [rI X.Char,rI X.Ref,.own 125<|U 0]),(125,some<|.arr (U 0) 39 2<|X.Attrs.map AC.row),(5013,some<|.arr (B 0) 37 3<|Y.map AD.row)],(U 1),191⟩:=by
       intro X U e
       have ch:=cg _ e
       exact cd _<|aR<|AG ch λcx ay cj=>xA R ay<|mM R<|Zh<|ZI cj (AH [(U 0),(U 1)]) wk
      refine aU<|AG cf λa0 az ck=>xI Ac R az<|xB ((BO a0)) CV R<|sS R (BF (cs:=[.r<|.str [],.r<|.str []]) 17 R Sv R R)<|Zk R R (Aj (ds:=(BO a0)) R Lt iL R iL R R R R)<|aZ<|aT λcl=>aR<|lF B1 A6 R R<|sQ R (Ds R underlying9 iL)<|sQ R (A9 R iL iL)<|mM R<|vF B1 A6 R R<|AG ck λs2 cm cn=>?_
      refine vQ R (Mi R underlying9 (iR R) (by exact R) (by exact⟨_,iL⟩)<|AU cm) ?_
      refine vQ R (Cz R (iR R) iL)<|xN R<|mM R<|vF B1 A6 R R<|vQ R (Ds R underlying9<|iR R)<|vQ R (A9 R (iR R) iL)<|vQ R (AK R<|iR R)<|wQ R (fB R B1 iL fR R)<|wQ R (AZ (a:=rS a0.Name) R A6 (iR R) R R)<|AG cn λs3 cp cq=>?_
      refine wQ R (Mi R underlying9 (iR R) (by exact R) (by exact⟨_,iL⟩)<|AU cp) ?_
      refine wQ R (Cz R (iR R) iL)<|vQ R (BI R (iR R)<|iR R)<|xO R<|mA R<|aZ<|cl _<|aT λcr=>aG [2,3,4,5,9,10,11,12,13,15,17,18,47,48,71,72,73] [4,5,10,15,17,125,5013] ?_
      refine aR<|lF B1 A6 R R<|sQ R (DJ R iL iL)<|mM R<|vF B1 A6 R R<|vQ R (DJ R (iR R) iL)<|xN R<|mM R<|vF B1 A6 R R<|vQ R (DJ R (iR R) iL)<|xN R<|mM R<|vF B1 A6 R R<|vQ R (DJ R (iR R) iL)<|xN R<|mM R<|vM R<|vQ R (A3 R<|iR R)<|xN R<|aZ<|cr _<|cI R cq (λa8=>?_) λa8=>?_
      ·refine aG [2,3,4,5,9,10,11,12,13,15,17,47,48,71,72,73] [4,5,10,15,17,125,5013] ?_
       exact aR<|lF DA BD R R<|xC CV R<|sS R (B3 124 R Ac (f:=AC.row) (l:=([a0]:List AC)) ⟨R,⟨_,iL,R⟩,Za⟩ R (λ_=>R) R)<|AG a8 λl6 cs ct=>sS R (Cj R Ac iL R (.inr<|.inl ⟨_,_,iL,R⟩) cs)<|sQ R (fB R DA iL fR R)<|Zk R R (Aj (ds:=[rI I.Char,rI I.Ref,.own 125<|(A 1)+2]) R Gf iL R iL R R R R)<|Zh<|a2 _ _ wk<|J6 _ (AH [((A 1)+2),((A 1)+3)]) (Zc ct).symm
      exact Zd<|a2 _ _ wk<|J6 _ (AH [(A 0),((A 1)+1)]) (Zc a8).symm
     exact Zn<|ar _ _ wk<|J5 _ (AH [(A 0),(A 1)])<|xH ca a7
    refine aC R (λaa=>?_) λaa=>?_
    ·have ab:=CF aa ao
     exact aR<|mA R<|Zh<|a1 _ _ wk<|J4 _ (AH [(B 1)]) (Zc ab).symm
    ·have ab:=CA aa ao
     exact Zd<|a1 _ _ wk<|J4 _ (AH [(B 1)]) (Zc ab).symm
   exact Zn<|ak _ _ wk<|J3 _ _ (AH [(B 0),(B 1)])<|xH bm a6
  refine aC R (λac=>?_) λac=>?_
  ·have ad:=CF ac aj
   exact aR<|mA R<|Zh<|ai _ _ wk<|J2 _ (AH [(i1 0)]) (Zc ad).symm
  ·have ad:=CA ac aj
   exact Zd<|ai _ _ wk<|J2 _ (AH [(i1 0)]) (Zc ad).symm
 refine aC R (λae=>?_) λae=>?_
 ·have af:=CF ae ah
  exact aR<|mM R<|AG af λf9 cu cv=>cL (aQ<|cu) R<|mA R<|Zh<|ag _ _ wk<|J1 _ (AH [(l+3)]) (Zc cv).symm
 ·have af:=CA ae ah
  exact Zd<|ag _ _ wk<|J1 _ (AH [(l+3)]) (Zc af).symm



end Go.Proofs.YtgcalnmhoifpoaaGreatDoor.Al
