/- Walks, as printed. -/
import Derived.Test.YtifgmfoihehlbaaGreatDoorWlk332
import Derived.Test.YtifgmfoihehlbaaGreatDoorProg
set_option linter.all false
set_option maxHeartbeats 4000000
set_option maxRecDepth 20000
set_option linter.unusedVariables false
namespace Go.Proofs.YtifgmfoihehlbaaGreatDoor.Al
open Go.Proofs Go.Proofs.Tryz
theorem WD{l r}(h:Lq l=some r):AR prog 47 [rS l] (rB r):=by
 unfold Lq at h
 refine mF func47 ntmps47 R λV=>aU<|mA R<|aZ<|aS λX Z A=>aU<|mM R<|sQ R (DJ R underlying9 iL)<|mM R<|aZ<|Ze<|BM h λo1 m B C=>?_
 have J1:∀(O:Unit) (T:NN),o1=.nrm O→X ⟨[(0,rS l)],[],(T 0),28⟩:=by
  intro O T e
  have h1:=B _ e
  exact Z _<|aU<|mM R<|sQ R (DJ R underlying9 iL)<|sQ R (Cq R iL iL)<|mM R<|vM R<|vQ R (DJ R underlying9<|iR R)<|vQ R (FG R (iR R) iL)<|xN R<|mA R<|aZ<|Zi<|yB h1 R
 refine Zt (λ(E:Int) w=>⟨[(0,rS l),(5,rL l),(6,rI E)],[],(w 0),28⟩) (AH [V]) m wk ?_
 intro E w v1 F q
 have U:Nv l E=some v1:=F;unfold Nv at U
 refine aU<|xS R<|aZ<|aT λc6=>cI R U (λI=>?_) λI=>?_
 ·refine Zc<|c6 _<|aT λc7=>Ze<|aU<|mM R<|mA R<|aZ<|aU<|mM R<|mM R<|AG I λa0 j h4=>sQ R (Ck R underlying9 iL iL λ_=>j)<|xS R<|mM R<|vM R<|vM R<|vQ R (Ck R underlying9 (iR R) (iR R) λ_=>j)<|vQ R (Bh R (iR R) iL)<|xO R<|aZ<|cI R h4 (λJ=>?_) λJ=>?_
  ·exact zB (C _<|xH q J) R id
  refine Zc<|c7 _<|aF [0,5,6] ?_
  exact aR<|AG J λx4 M h6=>xA R M<|mM R<|Zh<|Zq h6 (AH [(w 0)]) wk
 exact Zm<|A _ _ wk<|J1 _ (AH [(w 0)])<|xH q I
theorem RI{w c r}(h:Ja w c=some r):AR prog 17 [qa w,rB c] (rI r):=by
 unfold Ja at h
 refine mF func17 ntmps17 R λn0=>aU<|mA R<|aZ<|aS λK2 c2 E=>aU<|mM R<|xL Ay R<|mM R<|aZ<|Ze<|BM h λo1 A F m=>?_
 have J1:∀(u2:Unit) (i5:NN),o1=.nrm u2→K2 ⟨[],[],(i5 0),54⟩:=by
  intro u2 i5 e
  have h1:=F _ e
  exact c2 _<|zI h1 R id
 refine Zt (λ(I:Int) B=>⟨[(0,qa w),(1,rB c),(7,rL w),(8,rI I)],[],(B 0),54⟩) (AH [n0]) A wk ?_
 intro I B v1 J j
 have h2:Ml w c I=some v1:=J;unfold Ml at h2
 refine aU<|xS R<|aZ<|aT λc6=>cI R h2 (λM=>?_) λM=>?_
 ·refine Zc<|c6 _<|aT λc7=>Ze<|aU<|mM R<|mA R<|aZ<|aT λc9=>aU<|mM R<|mM R<|AG M λC l h4=>xI Ay R l<|sQ R (BK R Cz iL)<|xV (.str C.Name) A6 R<|AG h4 λr1 O h5=>cL (TT<|O) R<|sQ R (BD R iL)<|aZ<|cI R h5 (λT=>?_) λT=>?_
  ·exact zI (m _<|xH j T) R id
  refine Zc<|c9 _<|aT λU=>aT λV=>aF [0,1,5,7,8] ?_
  refine aR<|mM R<|mM R<|xI Ay R l<|sQ R (BK R Hk iL)<|xV (.str C.Value) A6 R<|AG T λr2 X h7=>cL (WD<|X) R<|sQ R (BD R iL)<|mM R<|vM R<|vM R<|vQ R (BB R Ay.slice (iR R) (iR R) (λ_=>R) λ_=>l)<|vQ R (BK R Hk<|iR R)<|vQ R (Bt (d:=.str C.Value) R A6 (iR R) R)<|vQ R (Dt R (iR R) iL)<|vQ R (AK R<|iR R)<|wQ R (AK R iL)<|wQ R (BD R<|iR R)<|vQ R (CZ R (iR R)<|iR R)<|xN R<|aZ<|V _<|cI R h7 (λZ=>?_) λZ=>?_
  ·exact zI (m _<|xH j Z) R id
  refine Zc<|U _<|aT λa0=>aF [0,1,5,7,8] ?_
  refine ZB BR (by kernel_rfl) ?_
  refine qP R (AK R iL)<|qP R (Bh R iL iL)<|qP R (AK R iL)<|qO R (AK R iL)<|qO R (AK R iL)<|AG Z λx5 a1 h9=>qO R (CS R (iR R) iL<|Ad a1)<|AG h9 λx6 a2 a6=>qO R (BB R Ay.slice (iR R) (iR R) (λ_=>R)<|Ad a2)<|qO R (BK R Cz<|iR R)<|qO R (Bt (d:=.str x6.Name) R A6 (iR R) R)<|qO R (AK R iL)<|qO R (AK R iL)<|qO R (BB R Ay.slice (iR R) (iR R) (λ_=>R) λ_=>l)<|qO R (BK R Cz<|iR R)<|qO R (Bt (d:=.str C.Name) R A6 (iR R) R)<|qO R (Wp R (iR R)<|iR R)<|qP R (Bb R iL<|iR R)<|AQ.nil<|a0 _<|cI R a6 (λq=>?_) λq=>?_
  ·exact zI (m _<|xH j q) R id
  exact Zc<|c7 _<|aR<|AG q λx7 a7 a8=>xA R a7<|mM R<|Zh<|Zq a8 (AH [(B 0)]) wk
 exact Zm<|E _ _ wk<|J1 _ (AH [(B 0)])<|xH j M
theorem Uf{k r}(h:Lj k=some r):AR prog 31 [rI k] (rB r):=by
 unfold Lj at h
 exact mF func31 ntmps31 R λj=>aU<|mA R<|aZ<|aU<|mM R<|xQ R<|mM R<|vM R<|vQ R (A9 R (iR R) iL)<|xO R<|mM R<|vM R<|vQ R (A9 R (iR R) iL)<|xO R<|mM R<|vM R<|vQ R (A9 R (iR R) iL)<|xO R<|mA R<|aZ<|Zi<|yB h R
theorem cC{k r}(h:SV k=some r):AR prog 71 [rI k] (rB r):=by
 unfold SV at h
 exact mF func71 ntmps71 R λj=>aU<|mA R<|aZ<|aU<|mM R<|xQ R<|mM R<|vM R<|vQ R (A9 R (iR R) iL)<|xO R<|mA R<|aZ<|Zi<|yB h R
theorem oI{j r}(h:PB j=some r):AR prog 72 (VB j) (rB r):=by
 unfold PB at h
 exact mF func72 ntmps72 R λl=>aU<|sS R (At (cs:=(CG j)) 1 R iL R R)<|mA R<|aZ<|aU<|lF GZ AJ R R<|xQ R<|mM R<|vF GD AJ R R<|vQ R (A9 R (iR R) iL)<|xN R<|mM R<|vF D4 EK R R<|vQ R (Cv R B8.slice<|iR R)<|vQ R (A9 R (iR R) iL)<|xN R<|mM R<|vF EL EY R R<|vQ R (Cv R Cp.slice<|iR R)<|vQ R (A9 R (iR R) iL)<|xN R<|mA R<|aZ<|Zi<|yB h R
theorem WI{k r}(h:OQ k=some r):AR prog 73 [rI k] (rB r):=by
 unfold OQ at h
 exact mF func73 ntmps73 R λj=>aU<|mA R<|aZ<|aU<|mM R<|xQ R<|mM R<|vM R<|vQ R (A9 R (iR R) iL)<|xO R<|mA R<|aZ<|Zi<|yB h R
theorem iQ{k r}(h:SM k=some r):AR prog 74 [rI k] (rB r):=by
 unfold SM at h
 exact mF func74 ntmps74 R λj=>aU<|mA R<|aZ<|aU<|mM R<|xQ R<|mM R<|vM R<|vQ R (A9 R (iR R) iL)<|xO R<|mM R<|vM R<|vQ R (A9 R (iR R) iL)<|xO R<|mA R<|aZ<|Zi<|yB h R
theorem X9{q r}(h:Mq q=some r):AR prog 44 [rI q] (rB r):=by
 unfold Mq at h
 exact mF func44 ntmps44 R λC=>aU<|mA R<|aZ<|aU<|mM R<|xQ R<|mM R<|vM R<|vQ R (A9 R (iR R) iL)<|xO R<|mM R<|vM R<|AG h λE j w=>vL (λhg=>Dm<|Ad j hg) R<|xO R<|mM R<|vM R<|AG w λF l A=>vL (λhg=>Dm<|Ad l hg) R<|xO R<|mM R<|vM R<|AG A λI m B=>vL (λhg=>Dm<|Ad m hg) R<|xO R<|mA R<|aZ<|Zi<|yB B R
theorem X3{j r}(h:Mu j=some r):AR prog 16 (V3 j) (rI r):=by
 unfold Mu at h
 refine mF func16 ntmps16 R λT=>aU<|sS R (At (cs:=(Bf j)) 1 R iL R R)<|mA R<|aZ<|aT λB=>aU<|lF Ge AJ R R<|xQ R<|mM R<|vF Ds AJ R R<|vQ R (A9 R (iR R) iL)<|xN R<|mM R<|vF Ge AJ R R<|vQ R (DL R (iR R) iL)<|vQ R (AK R<|iR R)<|wQ R (fB R Ds iL fR R)<|wQ R (Aa (a:=rI j.Ref) R AJ (iR R) R R)<|wQ R (DL R (iR R) iL)<|vQ R (Bb R (iR R)<|iR R)<|xO R<|aZ<|cI R h (λl=>?_) λl=>?_
 ·exact zI l R id
 refine Zc<|B _<|aT λC=>aT λE=>aG [1] [1] ?_
 refine aR<|lF Ge AJ R R<|xU R<|mM R<|vF Ge AJ R R<|AG l λU m F=>vL (λhg=>X9<|Ad m hg) R<|vQ R (BD R<|iR R)<|xN R<|mM R<|vF Ds AJ R R<|vQ R (DL R (iR R) iL)<|vQ R (AK R<|iR R)<|wQ R (fB R Ds iL fR R)<|wQ R (Aa (a:=rI j.Ref) R AJ (iR R) R R)<|AG F λI q J=>AX.stepW (.two R R R) R R (Cw (r:=rB I) (caps:=[]) (bs:=[rI j.Ref,rI 1,rI 1073741824]) R iL R ⟨⟨_,(iR R),.d R⟩,⟨_,iL,.d R⟩,⟨_,iL,.d R⟩,Za⟩ (λhg=>Dm<|Ad q hg) R)<|wQ R (BD R<|iR R)<|vQ R (Bb R (iR R)<|iR R)<|xO R<|aZ<|E _<|cI R J (λw=>?_) λw=>?_
 ·exact zI w R id
 refine Zc<|C _<|aT λM=>aG [1] [1] ?_
 exact aR<|lF LK Bw R R<|AG w λV A O=>cL (RI<|A) R<|mA R<|aZ<|M _<|Zi<|yI O R
theorem gh{m a r}(h:JQ m a=some r):AR prog 75 [qe m,rB a] (rI r):=by
 unfold JQ at h
 refine mF func75 ntmps75 R λn0=>aU<|mA R<|aZ<|aS λK2 c2 C=>aU<|mM R<|xL Bu R<|mM R<|aZ<|Ze<|BM h λo1 q E w=>?_
 have J1:∀(u2:Unit) (i5:NN),o1=.nrm u2→K2 ⟨[(0,qe m),(1,rB a)],[],(i5 0),47⟩:=by
  intro u2 i5 e
  have h1:=E _ e
  refine c2 _<|aT λc4=>aU<|mM R<|mM R<|vM R<|vQ R (Cv R Bu.slice<|iR R)<|vQ R (A9 R (iR R) iL)<|vQ R (AK R<|iR R)<|wQ R (AK R iL)<|wQ R (AK R iL)<|wQ R (Cv R Bu.slice<|iR R)<|AG h1 λx4 F h2=>wQ R (CS R (iR R) iL<|Ad F)<|AG h2 λx5 I h3=>wQ R (BB R Bu.slice (iR R) (iR R) (λ_=>R)<|Ad I)<|wQ R (BK R Ge<|iR R)<|wQ R (Bt (d:=.int .i64 x5.Char) R AJ (iR R) R)<|wQ R (DL R (iR R) iL)<|vQ R (CZ R (iR R)<|iR R)<|xN R<|aZ<|cI R h3 (λJ=>?_) λJ=>?_
  ·exact zI J R id
  exact Zc<|c4 _<|zI J R id
 refine Zt (λ(M:Int) B=>⟨[(0,qe m),(1,rB a),(8,rL m),(9,rI M)],[],(B 0),47⟩) (AH [n0]) q wk ?_
 intro M B v1 O j
 have h5:Kr m a M=some v1:=O;unfold Kr at h5
 refine aU<|xS R<|aZ<|aT λc9=>cI R h5 (λT=>?_) λT=>?_
 ·refine Zc<|c9 _<|aT λU=>Ze<|aU<|mM R<|mA R<|aZ<|aT λV=>aU<|mM R<|mM R<|AG T λx6 A h7=>xI Bu R A<|xB ((Bf x6)) FR R<|AG h7 λe1 X h8=>cL (X3<|X) R<|mA R<|aZ<|aU<|mM R<|xU R<|aZ<|cI R h8 (λZ=>?_) λZ=>?_
  ·refine aT λa0=>aF [6] ?_
   exact aR<|mM R<|mA R<|aZ<|a0 _<|Zi<|yI (w _<|xH j Z) R
  refine Zc<|V _<|aT λa1=>aF [0,1,5,8,9] ?_
  refine aR<|mM R<|sQ R (BD R iL)<|mM R<|vM R<|vM R<|vQ R (BB R Bu.slice (iR R) (iR R) (λ_=>R) λ_=>A)<|vQ R (BK R Ge<|iR R)<|vQ R (Bt (d:=.int .i64 x6.Char) R AJ (iR R) R)<|vQ R (DL R (iR R) iL)<|xN R<|aZ<|a1 _<|cI R Z (λl=>?_) λl=>?_
  ·exact zI (w _<|xH j l) R id
  exact Zc<|U _<|aR<|AG l λx7 a2 a6=>xA R a2<|mM R<|Zh<|Zq a6 (AH [(B 0)]) wk
 exact Zm<|C _ _ wk<|J1 _ (AH [(B 0)])<|xH j T
theorem eu{j r}(h:Rt j=some r):AR prog 160 [rS j] (rB r):=by
 unfold Rt at h
 exact ql jn R R R ⟨_,func160,R,R⟩ h
theorem pj{l r}(h:Py l=some r):AR prog 138 [rS l] (rB r):=by
 unfold Py at h
 refine mF func138 ntmps138 R λE=>aU<|mA R<|aZ<|aT λc2=>aU<|mM R<|AG h λr1 F h1=>cL (eu<|F) R<|sQ R (BD R iL)<|aZ<|cI R h1 (λI=>?_) λI=>?_
 ·exact zB I R id
 refine Zc<|c2 _<|aS λK5 c5 J=>aU<|mM R<|sS R (my 9 R underlying9 iL)<|aZ<|Ze<|BM I λo1 m M O=>?_
 have J1:∀(u2:Unit) (i5:NN),o1=.nrm u2→K5 ⟨[],[],(i5 0),21⟩:=by
  intro u2 i5 e
  have h3:=M _ e
  exact c5 _<|zB h3 R id
 refine Zt (λ(B:(Nat)) C=>⟨[(9,.ptr 9 E 0 0)],[(9,some<|.it E l B)],(C 0),21⟩) (AH [(E+1)]) m wk ?_
 intro B C v1 T q
 have U:FY l B=some v1:=T;unfold FY at U
 refine aT λc8=>AW.split (decide<|B<l.length) (λj=>?_) λj=>?_
 ·have V:=DN j U
  refine aR<|sS R (fA R iL R λ_=>j)<|xX R<|aZ<|c8 _<|aT λc9=>aC R (λw=>?_) λw=>by cases w
  refine Zc<|c9 _<|Ze<|aU<|xX R<|mA R<|aZ<|aU<|mM R<|xQ R<|mM R<|vM R<|vQ R (Ea R underlying21 underlying3<|iR R)<|AG V λr2 X h6=>vL (λhg=>X9<|Ad X hg) R<|vQ R (BD R<|iR R)<|xO R<|aZ<|cI R h6 (λZ=>?_) λZ=>?_
  ·exact zB (O _<|xH q Z) R id
  exact Zc<|Zq Z (AH [(C 0)]) wk
 ·have V:=DH j U
  exact aR<|sS R (lb R iL R λ_=>j)<|xX R<|aZ<|c8 _<|aT λa0=>aC R (λA=>by cases A) λA=>Zm<|J _ _ wk<|J1 _ (AH [(C 0)])<|xH q V
theorem fz{j r}(h:Pg j=some r):AR prog 139 (Yt j) (rB r):=by
 unfold Pg at h
 exact mF func139 ntmps139 R λl=>aU<|sS R (At (cs:=(Be j)) 1 R iL R R)<|mA R<|aZ<|aU<|lF Hm A6 R R<|sQ R (Dp R iL iL)<|mM R<|vF EA AJ R R<|vQ R (A9 R (iR R) iL)<|xN R<|mM R<|vF GL Bw R R<|vQ R (Cv R Ay.slice<|iR R)<|vQ R (A9 R (iR R) iL)<|xN R<|mA R<|aZ<|Zi<|yB h R
theorem bI{C b c n r}(h:Pv C b c n=some r):AR prog 110 [qc C,rI b,rI c,rB n] (rI r):=by
 unfold Pv at h
 refine mF func110 ntmps110 R λn0=>aU<|mA R<|aZ<|aS λK2 c2 U=>aU<|mM R<|xL B8 R<|mM R<|aZ<|Ze<|BM h λo1 E V l=>?_
 have J1:∀(u2:Unit) (i5:NN),o1=.nrm u2→K2 ⟨[],[],(i5 0),93⟩:=by
  intro u2 i5 e
  have h1:=V _ e
  exact c2 _<|zI h1 R id
 refine Zt (λ(X:Int) T=>⟨[(0,qc C),(1,rI b),(2,rI c),(3,rB n),(13,rL C),(14,rI X)],[],(T 0),93⟩) (AH [n0]) E wk ?_
 intro X T v1 Z j
 have h2:M7 C b c n X=some v1:=Z;unfold M7 at h2
 refine aU<|xS R<|aZ<|aT λc6=>cI R h2 (λh3=>?_) λh3=>?_
 ·refine Zc<|c6 _<|aT λc7=>Ze<|aU<|mM R<|mA R<|aZ<|aU<|mM R<|mM R<|AG h3 λF a0 h4=>xI B8 R a0<|xB ((Be F)) Er R<|sS R (BH (cs:=Hw) 10 R Iq R R)<|Zl R R (A4 (ds:=(Be F)) R IN iL R iL R R R R)<|aZ<|aT λa1=>aT λa2=>aR<|lF Ei AJ R R<|mM R<|AG h4 λx5 a6 h5=>sQ R (CS R iL iL λ_=>a6)<|AG h5 λr1 a7 h6=>cL (Dm<|a7) R<|sQ R (BD R iL)<|mM R<|vF FA AJ R R<|vM R<|AG h6 λx6 a8 h7=>vQ R (CS R (iR R) iL<|Ad a8)<|AG h7 λr2 aa h8=>vL (λhg=>Dm<|Ad aa hg) R<|vQ R (BD R<|iR R)<|xO R<|mM R<|vF EA AJ R R<|AG h8 λr3 ab h9=>vL (λhg=>Dm<|Ad ab hg) R<|vQ R (BD R<|iR R)<|xO R<|aZ<|a2 _<|cI R h9 (λm=>?_) λm=>?_
  ·exact zI (l _<|xH j m) R id
  refine Zc<|a1 _<|aT λac=>aT λad=>aG [0,1,2,3,9,10,13,14] [10] ?_
  refine aR<|lF Hm A6 R R<|AG m λr4 ae af=>cL (pj<|ae) R<|sQ R (BD R iL)<|aZ<|ad _<|cI R af (λq=>?_) λq=>?_
  ·exact zI (l _<|xH j q) R id
  refine Zc<|ac _<|aT λag=>aU<|lF GL Bw R R<|AG q λe1 ah ai=>cL (RI<|ah) R<|mA R<|aZ<|aU<|mM R<|xU R<|aZ<|cI R ai (λw=>?_) λw=>?_
  ·refine aT λaj=>aF [11] ?_
   exact aR<|mM R<|mA R<|aZ<|aj _<|Zi<|yI (l _<|xH j w) R
  refine Zc<|ag _<|aT λak=>aT λal=>aG [0,1,2,3,9,10,13,14] [10] ?_
  refine aR<|mM R<|sQ R (BD R iL)<|mM R<|vQ R (DG R Er iL R R)<|AG w λr5 an ao=>vL (λhg=>fz<|Ad an hg) R<|xN R<|aZ<|al _<|cI R ao (λA=>?_) λA=>?_
  ·exact zI (l _<|xH j A) R id
  refine Zc<|ak _<|aT λaq=>?_
  refine ZB BR (by kernel_rfl) ?_
  refine qP R (AK R iL)<|qP R (Bh R iL iL)<|qP R (AK R iL)<|qO R (fB R Ei iL fR R)<|qO R (Aa (a:=rI F.Row) R AJ (iR R) R R)<|qO R (AK R iL)<|qO R (AK R iL)<|AG A λx7 I ar=>qO R (CS R (iR R) iL<|Ad I)<|AG ar λx8 J au=>qO R (BB R B8.slice (iR R) (iR R) (λ_=>R)<|Ad J)<|qO R (BK R Ei<|iR R)<|qO R (Bt (d:=.int .i64 x8.Row) R AJ (iR R) R)<|qO R (CN R (iR R)<|iR R)<|qO R (AK R<|iR R)<|qT R (fB R Ei iL fR R)<|qT R (Aa (a:=rI F.Row) R AJ (iR R) R R)<|qT R (AK R iL)<|qT R (AK R iL)<|qT R (CS R (iR R) iL λh=>Ad I (tc.1 h).1)<|qT R (BB R B8.slice (iR R) (iR R) (λ_=>R) λh=>Ad J (tc.1 h).1)<|qT R (BK R Ei<|iR R)<|qT R (Bt (d:=.int .i64 x8.Row) R AJ (iR R) R)<|qT R (A9 R (iR R)<|iR R)<|qT R (AK R<|iR R)<|qT R (fB R FA iL fR R)<|qT R (Aa (a:=rI F.Col) R AJ (iR R) R R)<|qT R (AK R iL)<|qT R (AK R iL)<|AG au λx9 av aw=>qT R (CS R (iR R) iL<|Ad av)<|AG aw λax M ay=>qT R (BB R B8.slice (iR R) (iR R) (λ_=>R)<|Ad M)<|qT R (BK R FA<|iR R)<|qT R (Bt (d:=.int .i64 ax.Col) R AJ (iR R) R)<|qT R (FG R (iR R)<|iR R)<|qT R (Bb R (iR R)<|iR R)<|qO R (CZ R (iR R)<|iR R)<|qP R (Bb R iL<|iR R)<|AQ.nil<|aq _<|cI R ay (λB=>?_) λB=>?_
  ·exact zI (l _<|xH j B) R id
  refine Zc<|c7 _<|aF [0,1,2,3,13,14] ?_
  exact aR<|AG B λb0 O az=>xA R O<|mM R<|Zh<|Zq az (AH [((T 0)+1)]) wk
 exact Zm<|U _ _ wk<|J1 _ (AH [(T 0)])<|xH j h3
theorem bE{j a c r}(h:M0 j a c=some r):AR prog 111 [.agg<|BA j,rI a,rI c] (rB r):=by
 unfold M0 at h
 exact mF func111 ntmps111 R λZ=>aU<|sS R (At (cs:=(BA j)) 3 R iL R R)<|mA R<|aZ<|aT λF=>aR<|lF Ct AJ R R<|mM R<|AG h λx1 l I=>sQ R (CS R iL iL λ_=>l)<|AG I λr2 m J=>cL (Dm<|m) R<|mM R<|vF DW AJ R R<|vM R<|AG J λx2 q M=>vQ R (CS R (iR R) iL<|Ad q)<|AG M λr3 w O=>vL (λhg=>Dm<|Ad w hg) R<|xN R<|mM R<|vF Gf AJ R R<|vM R<|vF Ct AJ R R<|AG O λx3 A T=>vQ R (CS R (iR R) (iR R)<|Ad A)<|AG T λr4 B U=>vL (λhg=>Dm<|Ad B hg) R<|xN R<|mM R<|vF Gx AJ R R<|vM R<|vF DW AJ R R<|AG U λx4 C V=>vQ R (CS R (iR R) (iR R)<|Ad C)<|AG V λr5 E X=>vL (λhg=>Dm<|Ad E hg) R<|xN R<|mA R<|aZ<|F _<|Zi<|yB X R
theorem gH{j l r}(h:Pm j l=some r):AR prog 112 [.agg<|BA j,.agg<|BA l] (rB r):=by
 unfold Pm at h
 refine mF func112 ntmps112 R λM=>aU<|sS R (At (cs:=(BA j)) 2 R iL R R)<|sS R (At (cs:=(BA l)) 3 R iL R R)<|mA R<|aZ<|aT λB=>?_
 refine ZB BR (by kernel_rfl) ?_
 refine qP R (fB R Ct iL fR R)<|qP R (Aa (a:=rI j.Row) R AJ iL R R)<|qP R (fB R Ct iL fR R)<|qP R (Aa (a:=rI l.Row) R AJ iL R R)<|qP R (W5 R iL iL)<|qP R (fB R DW iL fR R)<|qP R (Aa (a:=rI j.Col) R AJ iL R R)<|qP R (fB R DW iL fR R)<|qP R (Aa (a:=rI l.Col) R AJ iL R R)<|qP R (W5 R iL iL)<|qP R (Ek R iL)<|qP R (Ek R iL)<|AQ.nil<|B _<|aT λC=>aG [2,3,5,6] [2,3] ?_
 exact aR<|mM R<|lF Ct AJ R R<|lF Gf AJ R R<|AG h λO m E=>xA R m<|lF Ct AJ R R<|lF Gf AJ R R<|AG E λT q F=>xA R q<|sQ R (XO R iL iL)<|xS R<|mM R<|vM R<|vF DW AJ R R<|vF Gx AJ R R<|AG F λU w I=>vQ R (Iu R (iR R) (iR R)<|Ad w)<|vF DW AJ R R<|vF Gx AJ R R<|AG I λV A J=>vQ R (Iu R (iR R) (iR R)<|Ad A)<|vQ R (XO R (iR R)<|iR R)<|vQ R (CN R (iR R)<|iR R)<|xN R<|mA R<|aZ<|C _<|Zi<|yB J R
theorem cD{j r}(h:NW j=some r):AR prog 76 (VB j) (rI r):=by
 unfold NW at h
 refine mF func76 ntmps76 R λA=>aU<|sS R (At (cs:=(CG j)) 1 R iL R R)<|mA R<|aZ<|aT λc2=>aU<|lF GZ AJ R R<|AG h λr1 aa h1=>cL (Dm<|aa) R<|sQ R (BD R iL)<|mM R<|vF GD AJ R R<|AG h1 λr2 ab h2=>vL (λhg=>Dm<|Ad ab hg) R<|vQ R (BD R<|iR R)<|xO R<|aZ<|cI R h2 (λh3=>?_) λh3=>?_
 ·exact zI h3 R id
 refine Zc<|c2 _<|aT λc5=>aT λc6=>aG [1] [1] ?_
 refine aR<|lF D4 EK R R<|lF GZ AJ R R<|lF GD AJ R R<|AG h3 λe1 ac h4=>cL (bI<|ac) R<|mA R<|aZ<|c6 _<|aU<|mM R<|xU R<|aZ<|cI R h4 (λh5=>?_) λh5=>?_
 ·refine aT λc8=>aF [3] ?_
  exact aR<|mM R<|mA R<|aZ<|c8 _<|Zi<|yI h5 R
 refine Zc<|c5 _<|aS λK9 c9 ad=>aT λae=>aG [1] [1] ?_
 refine aR<|lF EL EY R R<|xL Cp R<|mM R<|aZ<|ae _<|Ze<|BM h5 λo1 U af w=>?_
 have J1:∀(u2:Unit) (i5:NN),o1=.nrm u2→K9 ⟨[],[],(i5 0),104⟩:=by
  intro u2 i5 e
  have h6:=af _ e
  exact c9 _<|zI h6 R id
 refine Zt (λ(B:Int) T=>⟨[(1,.ptr 1 A 0 0),(29,rL j.Merges),(30,rI B)],[(1,some<|.box A 51<|CG j)],(T 0),104⟩) (AH [(A+1)]) U wk ?_
 intro B T v1 ag q
 have h7:Mz j B=some v1:=ag;unfold Mz at h7
 refine aU<|xS R<|aZ<|aT λah=>cI R h7 (λh8=>?_) λh8=>?_
 ·refine Zc<|ah _<|aS λai aj V=>Ze<|aU<|mM R<|mA R<|aZ<|aU<|lF EL EY R R<|mM R<|AG h8 λm ak h9=>xI Cp R ak<|xB ((BA m)) DU R<|sS R (BH (cs:=Fr) 5 R H0 R R)<|Zl R R (A4 (ds:=(BA m)) R HL iL R iL R R R R)<|aZ<|aT λal=>aU<|xC DU R<|lF GZ AJ R R<|lF GD AJ R R<|AG h9 λr3 an ao=>cL (bE<|an) R<|sQ R (BD R iL)<|aZ<|cI R ao (λC=>?_) λC=>?_
  ·exact zI (w _<|xH q C) R id
  refine Zc<|al _<|aT λaq=>aT λar=>aG [1,4,5,29,30] [1,5] ?_
  refine aR<|lF Gf AJ R R<|xQ R<|mM R<|vF Gx AJ R R<|vQ R (A9 R (iR R) iL)<|xN R<|aZ<|ar _<|cI R C (λE=>?_) λE=>?_
  ·exact zI (w _<|xH q E) R id
  refine Zc<|aq _<|aT λau=>aT λav=>?_
  refine ZB BR (by kernel_rfl) ?_
  refine qP R (AK R iL)<|qP R (Bh R iL iL)<|qP R (AK R iL)<|qO R (fB R Ct iL fR R)<|qO R (Aa (a:=rI m.Row) R AJ (iR R) R R)<|qO R (fB R EL iL fR R)<|qO R (Aa (a:=qd j.Merges) R EY (iR R) R R)<|qO R (AK R iL)<|AG E λx5 X aw=>qO R (CS R (iR R) iL<|Ad X)<|AG aw λx6 Z ax=>qO R (BB R Cp.slice (iR R) (iR R) (λ_=>R)<|Ad Z)<|qO R (BK R Ct<|iR R)<|qO R (Bt (d:=.int .i64 x6.Row) R AJ (iR R) R)<|qO R (CN R (iR R)<|iR R)<|qO R (AK R<|iR R)<|qT R (fB R Ct iL fR R)<|qT R (Aa (a:=rI m.Row) R AJ (iR R) R R)<|qT R (fB R EL iL fR R)<|qT R (Aa (a:=qd j.Merges) R EY (iR R) R R)<|qT R (AK R iL)<|qT R (CS R (iR R) iL λh=>Ad X (tc.1 h).1)<|qT R (BB R Cp.slice (iR R) (iR R) (λ_=>R) λh=>Ad Z (tc.1 h).1)<|qT R (BK R Ct<|iR R)<|qT R (Bt (d:=.int .i64 x6.Row) R AJ (iR R) R)<|qT R (A9 R (iR R)<|iR R)<|qT R (AK R<|iR R)<|qT R (fB R DW iL fR R)<|qT R (Aa (a:=rI m.Col) R AJ (iR R) R R)<|qT R (fB R EL iL fR R)<|qT R (Aa (a:=qd j.Merges) R EY (iR R) R R)<|qT R (AK R iL)<|AG ax λx7 ay az=>qT R (CS R (iR R) iL<|Ad ay)<|AG az λx8 b0 b1=>qT R (BB R Cp.slice (iR R) (iR R) (λ_=>R)<|Ad b0)<|qT R (BK R DW<|iR R)<|qT R (Bt (d:=.int .i64 x8.Col) R AJ (iR R) R)<|qT R (FG R (iR R)<|iR R)<|qT R (Bb R (iR R)<|iR R)<|qO R (CZ R (iR R)<|iR R)<|qP R (Bb R iL<|iR R)<|AQ.nil<|av _<|cI R b1 (λF=>?_) λF=>?_
  ·exact zI (w _<|xH q F) R id
  refine Zc<|au _<|aT λb2=>aG [1,4,5,29,30] [1,5] ?_
  refine aR<|mM R<|mM R<|aZ<|b2 _<|Ze<|BM F λo2 a0 b3 b4=>?_
  have J2:∀(u4:Unit) (I:NN),o2=.nrm u4→ai ⟨[(1,.ptr 1 A 0 0),(29,rL j.Merges),(30,rI B)],[(1,some<|.box A 51<|CG j)],(I 0),104⟩:=by
   intro u4 I e
   have b5:=b3 _ e
   exact aj _<|aR<|AG b5 λbg a1 b6=>xA R a1<|mM R<|Zh<|Zq b6 (AH [(I 0)]) wk
  refine Zt (λ(J:Int) i8=>⟨[(1,.ptr 1 A 0 0),(5,.ptr 5 (T 0) 0 0),(29,rL j.Merges),(30,rI B),(91,rI B),(92,rI J)],[(1,some<|.box A 51<|CG j),(5,some<|.box (T 0) 109<|BA m)],(i8 0),104⟩) (AH [((T 0)+1)]) a0 wk ?_
  intro J i8 v2 b7 a2
  have a6:OF j B m J=some v2:=b7;unfold OF at a6
  refine aU<|xS R<|aZ<|aT λb8=>cI R a6 (λM=>?_) λM=>?_
  ·refine Zc<|b8 _<|aT λb9=>Ze<|aU<|mM R<|mA R<|aZ<|aT λba=>?_
   refine ZB BR (by kernel_rfl) ?_
   refine qP R (DG R DU iL R R)<|qP R (fB R EL iL fR R)<|qP R (Aa (a:=qd j.Merges) R EY iL R R)<|qP R (AK R iL)<|AG M λl a7 bb=>qP R (BB R Cp.slice iL iL (λ_=>R) λ_=>a7)<|qP R (Ce (cs:=(BA l)) R DU iL R R)<|AG bb λr4 bc bd=>AQ.stepC R R R (r:=rB r4) (caps:=[]) (bs:=[.agg<|BA m,.agg<|BA l]) R iL R ⟨⟨_,iL,.g (cs:=[.int .i64 m.Row,.int .i64 m.Col,.int .i64 m.H,.int .i64 m.W]) R R⟩,⟨_,iL,.g (cs:=[.int .i64 l.Row,.int .i64 l.Col,.int .i64 l.H,.int .i64 l.W]) R R⟩,Za⟩ (λ_=>gH<|bc) R<|AQ.nil<|ba _<|cI R bd (λO=>?_) λO=>?_
   ·refine aT λbe=>aF [] ?_
    exact aR<|mA R<|aZ<|be _<|Zi<|yI (w _<|q _ (Zf<|b4 _<|xH a2 O).symm) R
   refine Zc<|b9 _<|aG [1,5,29,30,91,92] [1,5] ?_
   exact aR<|AG O λbh a8 bf=>xA R a8<|mM R<|Zh<|Zq bf (AH [(i8 0)]) wk
  exact Zm<|V _ _ wk<|J2 _ (AH [(i8 0)])<|xH a2 M
 exact Zm<|ad _ _ wk<|J1 _ (AH [(T 0)])<|xH q h8
theorem Z7{k j r}(h:Pw k j=some r):AR prog 77 [rI k,qc j] (rI r):=by
 unfold Pw at h
 refine mF func77 ntmps77 R λZ=>aU<|mA R<|aZ<|aS λK2 c2 A=>aU<|mM R<|xL B8 R<|mM R<|aZ<|Ze<|BM h λo1 l B C=>?_
 have J1:∀(T:Unit) (U:NN),o1=.nrm T→K2 ⟨[],[],(U 0),43⟩:=by
  intro T U e
  have h1:=B _ e
  exact c2 _<|zI h1 R id
 refine Zt (λ(E:Int) w=>⟨[(0,rI k),(1,qc j),(7,rL j),(8,rI E)],[],(w 0),43⟩) (AH [Z]) l wk ?_
 intro E w v1 F m
 have V:M1 k j E=some v1:=F;unfold M1 at V
 refine aU<|xS R<|aZ<|aT λc6=>cI R V (λI=>?_) λI=>?_
 ·refine Zc<|c6 _<|aT λc7=>Ze<|aU<|mM R<|mA R<|aZ<|aT λc9=>aR<|mM R<|xQ R<|mM R<|vM R<|vM R<|AG I λX q h4=>vQ R (BB R B8.slice (iR R) (iR R) (λ_=>R)<|Ad q)<|vQ R (BK R Hm<|iR R)<|vQ R (Bt (d:=.str X.Text) R A6 (iR R) R)<|vQ R (Dt R (iR R) iL)<|vQ R (AK R<|iR R)<|wQ R (AK R iL)<|wQ R (AK R iL)<|wQ R (BB R B8.slice (iR R) (iR R) (λ_=>R) λh=>Ad q (tc.1 h).1)<|wQ R (BK R GL<|iR R)<|wQ R (Bt (d:=.sl<|X.Attrs.map AC.row) R Bw (iR R) R)<|wQ R (Cv R Ay.slice<|iR R)<|wQ R (Bh R (iR R) iL)<|vQ R (CZ R (iR R)<|iR R)<|xN R<|mM R<|vM R<|vQ R (A9 R (iR R) iL)<|vQ R (AK R<|iR R)<|wQ R (AK R iL)<|wQ R (AK R iL)<|AG h4 λx5 J h5=>wQ R (BB R B8.slice (iR R) (iR R) (λ_=>R)<|Ad J)<|wQ R (BK R EA<|iR R)<|wQ R (Bt (d:=.int .i64 x5.Ref) R AJ (iR R) R)<|wQ R (DL R (iR R) iL)<|vQ R (Bb R (iR R)<|iR R)<|xO R<|aZ<|c9 _<|cI R h5 (λM=>?_) λM=>?_
  ·exact zI (C _<|xH m M) R id
  refine Zc<|c7 _<|aF [0,1,7,8] ?_
  exact aR<|AG M λx6 O h7=>xA R O<|mM R<|Zh<|Zq h7 (AH [(w 0)]) wk
 exact Zm<|A _ _ wk<|J1 _ (AH [(w 0)])<|xH m I
theorem jX{l r}(h:N8 l=some r):AR prog 113 [rS l] (rB r):=by
 unfold N8 at h
 refine mF func113 ntmps113 R λZ=>aU<|mA R<|aZ<|aS λK2 c2 B=>aU<|mM R<|sQ R (DJ R underlying9 iL)<|mM R<|aZ<|Ze<|BM h λo1 m C E=>?_
 have J1:∀(U:Unit) (V:NN),o1=.nrm U→K2 ⟨[(0,rS l)],[],(V 0),36⟩:=by
  intro U V e
  have h1:=C _ e
  exact c2 _<|aU<|mM R<|sQ R (DJ R underlying9 iL)<|sQ R (Cq R iL iL)<|mM R<|vM R<|vQ R (DJ R underlying9<|iR R)<|vQ R (FG R (iR R) iL)<|xN R<|mM R<|vM R<|vM R<|vQ R (DJ R underlying9<|iR R)<|AG h1 λx4 F h2=>vQ R (CS R (iR R) iL<|Ad F)<|AG h2 λa0 q h3=>vQ R (Ck R underlying9 (iR R) (iR R)<|Ad q)<|vQ R (DL R (iR R) iL)<|xN R<|mA R<|aZ<|Zi<|yB h3 R
 refine Zt (λ(I:Int) A=>⟨[(0,rS l),(5,rL l),(6,rI I)],[],(A 0),36⟩) (AH [Z]) m wk ?_
 intro I A v1 J w
 have X:LB l I=some v1:=J;unfold LB at X
 refine aU<|xS R<|aZ<|aT λc6=>cI R X (λM=>?_) λM=>?_
 ·refine Zc<|c6 _<|aT λc7=>Ze<|aU<|mM R<|mA R<|aZ<|aU<|mM R<|mM R<|AG M λa1 j h6=>sQ R (Ck R underlying9 iL iL λ_=>j)<|xS R<|mM R<|vM R<|vM R<|vQ R (Ck R underlying9 (iR R) (iR R) λ_=>j)<|vQ R (Bh R (iR R) iL)<|xO R<|aZ<|cI R h6 (λO=>?_) λO=>?_
  ·exact zB (E _<|xH w O) R id
  refine Zc<|c7 _<|aF [0,5,6] ?_
  exact aR<|AG O λx5 T h8=>xA R T<|mM R<|Zh<|Zq h8 (AH [(A 0)]) wk
 exact Zm<|B _ _ wk<|J1 _ (AH [(A 0)])<|xH w M
theorem ff{j l r}(h:Mc j l=some r):AR prog 114 [.agg<|Bm j,.agg<|Bm l] (rB r):=by
 unfold Mc at h
 exact mF func114 ntmps114 R λm=>aU<|sS R (At (cs:=(Bm j)) 2 R iL R R)<|sS R (At (cs:=(Bm l)) 3 R iL R R)<|mA R<|aZ<|aU<|lF IY AJ R R<|lF IY AJ R R<|xS R<|mM R<|vF IY AJ R R<|vF IY AJ R R<|vQ R (A9 R (iR R)<|iR R)<|vQ R (AK R<|iR R)<|wQ R (fB R Kh iL fR R)<|wQ R (Aa (a:=rI j.Site) R AJ (iR R) R R)<|wQ R (fB R Kh iL fR R)<|wQ R (Aa (a:=rI l.Site) R AJ (iR R) R R)<|wQ R (CN R (iR R)<|iR R)<|vQ R (Bb R (iR R)<|iR R)<|xO R<|mA R<|aZ<|Zi<|yB h R
theorem jA{B r}(h:Nl B=some r):AR prog 78 [qf B] (rI r):=by
 unfold Nl at h
 refine mF func78 ntmps78 R λn0=>aU<|mA R<|aZ<|aS λK2 c2 a1=>aU<|mM R<|xL D9 R<|mM R<|aZ<|Ze<|BM h λo1 X a2 l=>?_
 have J1:∀(u2:Unit) (i5:NN),o1=.nrm u2→K2 ⟨[],[],(i5 0),91⟩:=by
  intro u2 i5 e
  have h1:=a2 _ e
  exact c2 _<|zI h1 R id
 refine Zt (λ(Z:Int) C=>⟨[(0,qf B),(6,rL B),(7,rI Z)],[],(C 0),91⟩) (AH [n0]) X wk ?_
 intro Z C v1 a6 j
 have h2:Nr B Z=some v1:=a6;unfold Nr at h2
 refine aU<|xS R<|aZ<|aT λc6=>cI R h2 (λh3=>?_) λh3=>?_
 ·refine Zc<|c6 _<|aT λc7=>Ze<|aU<|mM R<|mA R<|aZ<|aU<|mM R<|mM R<|AG h3 λq a7 h4=>xI D9 R a7<|xB ((Bm q)) G3 R<|sS R (BH (cs:=Rg) 4 R P5 R R)<|Zl R R (A4 (ds:=(Bm q)) R Qs iL R iL R R R R)<|aZ<|aT λa8=>aU<|lF Fu AJ R R<|xU R<|mM R<|vF Fu AJ R R<|vQ R (DL R (iR R) iL)<|xN R<|aZ<|cI R h4 (λh5=>?_) λh5=>?_
  ·exact zI (l _<|xH j h5) R id
  refine Zc<|a8 _<|aT λaa=>aT λab=>aG [0,3,4,6,7] [4] ?_
  refine aR<|lF IY AJ R R<|AG h5 λr1 ac h6=>cL (Dm<|ac) R<|sQ R (BD R iL)<|mM R<|vF Kh AJ R R<|AG h6 λr2 ad h7=>vL (λhg=>Dm<|Ad ad hg) R<|vQ R (BD R<|iR R)<|xO R<|mM R<|vF Fa AJ R R<|AG h7 λr3 ae h8=>vL (λhg=>Dm<|Ad ae hg) R<|vQ R (BD R<|iR R)<|xO R<|aZ<|ab _<|cI R h8 (λh9=>?_) λh9=>?_
  ·exact zI (l _<|xH j h9) R id
  refine Zc<|aa _<|aS λaf ag A=>aU<|lF Fu AJ R R<|xQ R<|aZ<|BM h9 λp1 a0 ah m=>?_
  have J2:∀(u3:Unit) (i6:NN),p1=.nrm u3→af ⟨[(0,qf B),(3,rI Z),(4,.ptr 4 (C 0) 0 0),(6,rL B),(7,rI Z)],[(4,some<|.box (C 0) 146<|Bm q)],(i6 0),91⟩:=by
   intro u3 i6 e
   have ai:=ah _ e
   refine ag _<|aT λaj=>?_
   refine ZB BR (by kernel_rfl) ?_
   refine qP R (AK R iL)<|qP R (Bh R iL iL)<|qP R (AK R iL)<|qO R (AK R iL)<|qO R (AK R iL)<|AG ai λx5 ak al=>qO R (CS R (iR R) iL<|Ad ak)<|AG al λw an ao=>qO R (BB R D9.slice (iR R) (iR R) (λ_=>R)<|Ad an)<|qO R (Ce (cs:=(Bm w)) R G3 (iR R) R R)<|qO R (DG R G3 iL R R)<|AG ao λr4 aq ar=>P2 (.one R R R) R R (r:=rB r4) (caps:=[]) (bs:=[.agg<|Bm w,.agg<|Bm q]) R iL R ⟨⟨_,(iR R),.g (cs:=[.int .i64 w.Clock,.int .i64 w.Site,.int .i64 w.Kind,.int .i64 w.Item,.int .i64 w.Parent,.str w.Place,.str w.Name,.str w.Value]) R R⟩,⟨_,(iR R),.g (cs:=[.int .i64 q.Clock,.int .i64 q.Site,.int .i64 q.Kind,.int .i64 q.Item,.int .i64 q.Parent,.str q.Place,.str q.Name,.str q.Value]) R R⟩,Za⟩ (λhg=>ff<|Ad aq hg) R<|qO R (BD R<|iR R)<|qP R (Bb R iL<|iR R)<|AQ.nil<|aj _<|cI R ar (λE=>?_) λE=>?_
   ·exact zI (l _<|xH j E) R id
   exact Zc<|c7 _<|aR<|AG E λx7 au av=>xA R au<|mM R<|Zh<|Zq av (AH [(i6 0)]) wk
  refine aC R (λF=>?_) λF=>?_
  ·have I:=DN F a0
   refine aT λaw=>aT λax=>aG [0,3,4,6,7] [4] ?_
   refine aR<|lF L6 A6 R R<|sQ R (Dt R iL iL)<|mM R<|vF Jm A6 R R<|vQ R (Dt R (iR R) iL)<|xO R<|aZ<|ax _<|cI R I (λJ=>?_) λJ=>?_
   ·refine aT λay=>aF [] ?_
    exact aR<|mA R<|aZ<|ay _<|Zi<|yI (l _<|j _ (Zf<|m _ (Zf J).symm).symm) R
   refine Zc<|aw _<|aT λaz=>aU<|lF G8 AJ R R<|AG J λr5 b0 b1=>cL (Dm<|b0) R<|sQ R (BD R iL)<|aZ<|cI R b1 (λM=>?_) λM=>?_
   ·refine aT λb2=>aF [] ?_
    exact aR<|mA R<|aZ<|b2 _<|Zi<|yI (l _<|j _ (Zf<|m _ (Zf M).symm).symm) R
   refine Zc<|az _<|aT λb3=>aG [0,3,4,6,7] [4] ?_
   refine aR<|lF Lw A6 R R<|AG M λr6 b4 b5=>cL (jX<|b4) R<|sQ R (BD R iL)<|aZ<|b3 _<|cI R b5 (λO=>?_) λO=>?_
   ·refine aT λb6=>aF [] ?_
    exact aR<|mA R<|aZ<|b6 _<|Zi<|yI (l _<|j _ (Zf<|m _ (Zf O).symm).symm) R
   exact Zc<|A _ _ wk<|J2 _ (AH [((C 0)+1)]) (Zf O).symm
  ·have I:=DH F a0
   refine aT λb7=>aT λb8=>aG [0,3,4,6,7] [4] ?_
   refine aR<|lF G8 AJ R R<|xU R<|mM R<|vF Lw A6 R R<|vQ R (Dt R (iR R) iL)<|xO R<|aZ<|b8 _<|cI R I (λT=>?_) λT=>?_
   ·refine aT λb9=>aF [] ?_
    exact aR<|mA R<|aZ<|b9 _<|Zi<|yI (l _<|j _ (Zf<|m _ (Zf T).symm).symm) R
   refine Zc<|b7 _<|aT λba=>aU<|lF L6 A6 R R<|AG T λr7 bb bc=>cL (TT<|bb) R<|sQ R (BD R iL)<|aZ<|cI R bc (λU=>?_) λU=>?_
   ·refine aT λbd=>aF [] ?_
    exact aR<|mA R<|aZ<|bd _<|Zi<|yI (l _<|j _ (Zf<|m _ (Zf U).symm).symm) R
   refine Zc<|ba _<|aT λbe=>aG [0,3,4,6,7] [4] ?_
   refine aR<|lF Jm A6 R R<|sQ R (Dt R iL iL)<|mM R<|vF Jm A6 R R<|AG U λr8 bf bg=>vL (λhg=>WD<|Ad bf hg) R<|vQ R (BD R<|iR R)<|xN R<|aZ<|be _<|cI R bg (λV=>?_) λV=>?_
   ·refine aT λbh=>aF [] ?_
    exact aR<|mA R<|aZ<|bh _<|Zi<|yI (l _<|j _ (Zf<|m _ (Zf V).symm).symm) R
   exact Zc<|A _ _ wk<|J2 _ (AH [((C 0)+1)]) (Zf V).symm
 exact Zm<|a1 _ _ wk<|J1 _ (AH [(C 0)])<|xH j h3
theorem nB{n1 r}(h:NA n1=some r):AR prog 40 (IA n1) (rI r):=by
 unfold NA at h
 refine mF func40 ntmps40 R λn0=>aU<|sS R (At (cs:=(Af n1)) 1 R iL R R)<|mA R<|aZ<|aT λc2=>aU<|lF Dk AJ R R<|AG h λr1 E h1=>cL (Dm<|E) R<|sQ R (BD R iL)<|aZ<|cI R h1 (λF=>?_) λF=>?_
 ·exact zI F R id
 refine Zc<|c2 _<|aT λc5=>aU<|lF Cd AJ R R<|AG F λr2 I h3=>cL (Dm<|I) R<|sQ R (BD R iL)<|mM R<|vF Dk AJ R R<|vQ R (A9 R (iR R) iL)<|vQ R (AK R<|iR R)<|wQ R (fB R Cd iL fR R)<|wQ R (Aa (a:=rI n1.Kind) R AJ (iR R) R R)<|wQ R (DL R (iR R) iL)<|vQ R (Bb R (iR R)<|iR R)<|xO R<|mM R<|vF Dk AJ R R<|vQ R (DL R (iR R) iL)<|vQ R (AK R<|iR R)<|wQ R (fB R Cd iL fR R)<|wQ R (Aa (a:=rI n1.Kind) R AJ (iR R) R R)<|wQ R (A9 R (iR R) iL)<|vQ R (Bb R (iR R)<|iR R)<|xO R<|aZ<|cI R h3 (λJ=>?_) λJ=>?_
 ·exact zI J R id
 refine Zc<|c5 _<|aT λc8=>aT λc9=>aG [1] [1] ?_
 refine aR<|lF Eg Bw R R<|AG J λe1 M h5=>cL (RI<|M) R<|mA R<|aZ<|c9 _<|aU<|mM R<|xU R<|aZ<|cI R h5 (λO=>?_) λO=>?_
 ·exact aU<|mM R<|mA R<|aZ<|Zi<|yI O R
 refine Zc<|c8 _<|aU<|lF Cd AJ R R<|AG O λr3 w h7=>cL (Uf<|w) R<|mM R<|vF Cd AJ R R<|AG h7 λr4 T h8=>vL (λhg=>cC<|Ad T hg) R<|xO R<|mA R<|aZ<|aT λU=>aT λV=>aG [1,4] [1] ?_
 refine aR<|lF ET E0 R R<|xL Bu R<|sQ R (Bh R iL iL)<|mM R<|vM R<|vQ R (BD R<|iR R)<|xN R<|mM R<|vQ R (fB R EH iL fR R)<|vQ R (IO (ds:=(CG n1.Grid)) R HV (iR R) R R R)<|AG h8 λr5 X h9=>vL (λhg=>oI<|Ad X hg) R<|vQ R (BD R<|iR R)<|vQ R (AK R<|iR R)<|wQ R (fB R Cd iL fR R)<|wQ R (Aa (a:=rI n1.Kind) R AJ (iR R) R R)<|AG h9 λr6 Z a0=>AX.stepW (.two R R R) R R (Cw (r:=rB r6) (caps:=[]) (bs:=[rI n1.Kind]) R iL R ⟨⟨_,(iR R),.d R⟩,Za⟩ (λhg=>WI<|Ad Z hg) R)<|wQ R (BD R<|iR R)<|vQ R (Bb R (iR R)<|iR R)<|xO R<|mM R<|vF GW HA R R<|vQ R (Cv R D9.slice<|iR R)<|vQ R (Bh R (iR R) iL)<|vQ R (AK R<|iR R)<|wQ R (fB R Cd iL fR R)<|wQ R (Aa (a:=rI n1.Kind) R AJ (iR R) R R)<|AG a0 λr7 a1 a2=>AX.stepW (.two R R R) R R (Cw (r:=rB r7) (caps:=[]) (bs:=[rI n1.Kind]) R iL R ⟨⟨_,(iR R),.d R⟩,Za⟩ (λhg=>iQ<|Ad a1 hg) R)<|wQ R (BD R<|iR R)<|vQ R (Bb R (iR R)<|iR R)<|xO R<|aZ<|V _<|cI R a2 (λj=>?_) λj=>?_
 ·exact zI j R id
 refine Zc<|U _<|aT λa6=>aT λa7=>aG [1,4] [1] ?_
 refine aR<|mM R<|aZ<|a7 _<|cI R j (λl=>?_) λl=>?_
 ·refine aT λa8=>?_
  refine ZB BR (by kernel_rfl) ?_
  exact qP R (fB R ET iL fR R)<|qP R (Aa (a:=qe n1.Flow) R E0 iL R R)<|qP R (fB R Cd iL fR R)<|qP R (Aa (a:=rI n1.Kind) R AJ iL R R)<|AQ.stepC R R R (r:=rB r3) (caps:=[]) (bs:=[rI n1.Kind]) R iL R ⟨⟨_,iL,.d R⟩,Za⟩ (λ_=>Uf<|w) R<|AG l λr9 aa ab=>AQ.stepC R R R (r:=rI r9) (caps:=[]) (bs:=[qe n1.Flow,rB r3]) R iL R ⟨⟨_,iL,.d R⟩,⟨_,iL,.d R⟩,Za⟩ (λ_=>gh<|aa) R<|qP R (Ek R iL)<|AQ.nil<|a8 _<|Zi<|yI ab R
 refine Zc<|a6 _<|aT λac=>aU<|lF Cd AJ R R<|AG l λal A ad=>cL (WI<|A) R<|aZ<|cI R ad (λm=>?_) λm=>?_
 ·refine aT λae=>aU<|sQ R (fB R EH iL fR R)<|sQ R (IO (ds:=(CG n1.Grid)) R HV iL R R R)<|AG m λe2 af ag=>cL (cD<|af) R<|mA R<|aZ<|aU<|mM R<|xU R<|aZ<|cI R ag (λq=>?_) λq=>?_
  ·refine aT λah=>aF [5] ?_
   exact aR<|mM R<|mA R<|aZ<|ah _<|Zi<|yI q R
  refine Zc<|ae _<|aT λai=>aG [1] [1] ?_
  exact aR<|lF Cd AJ R R<|sQ R (fB R EH iL fR R)<|lF D4 EK R R<|AG q λan B aj=>cL (Z7<|B) R<|mA R<|aZ<|ai _<|Zi<|yI aj R
 exact Zc<|ac _<|aU<|lF GW HA R R<|AG m λao C ak=>cL (jA<|C) R<|mA R<|aZ<|Zi<|yI ak R
theorem fX{n1 r}(h:No n1=some r):AR prog 42 (IA n1) (.r<|.sl<|r.map<|A3 .i64):=by
 unfold No at h
 refine mF func42 ntmps42 R λj=>aU<|sS R (At (cs:=(Af n1)) 1 R iL R R)<|mA R<|aZ<|aU<|mA R<|aZ<|aS λK3 c3 a7=>aU<|lF ET E0 R R<|xL Bu R<|mM R<|aZ<|Ze<|BS h λo1 a0 a8=>?_
 have J1:∀(w:List Int) (i5:NN),o1=w→K3 ⟨[(1,.ptr 1 j 0 0),(3,.own 5003<|i5 0)],[(1,some<|.box j 54<|Af n1),(5003,some<|.arr (i5 0) 3 1<|w.map<|A3 .i64)],(i5 1),56⟩:=by
  intro w i5 e
  have h1:=a8 _ e
  refine c3 _<|aS λK5 c5 aa=>aU<|sQ R (fB R EH iL fR R)<|lF D4 EK R R<|xL B8 R<|mM R<|aZ<|Ze<|BS h1 λo2 a1 ab=>?_
  have J2:∀(A:List Int) (I:NN),o2=A→K5 ⟨[(3,.own 5003<|I 0)],[(5003,some<|.arr (I 0) 3 1<|A.map<|A3 .i64)],(I 1),56⟩:=by
   intro A I e
   have h2:=ab _ e
   exact c5 _<|aU<|mM R<|mA R<|aZ<|Zi<|Bz (P:=prog) (λ(r:(List Int))=>.r<|.sl<|r.map<|A3 .i64) h2 iL<|.t<|.one<|.own R
  refine ZK (λ(x5:Int) (B:List Int) i8=>⟨[(1,.ptr 1 j 0 0),(3,.own 5003<|i8 0),(32,rL n1.Grid.Cells),(33,rI x5)],[(1,some<|.box j 54<|Af n1),(5003,some<|.arr (i8 0) 3 1<|B.map<|A3 .i64)],(i8 1),56⟩) (AH [(i5 0),(i5 1)]) a1 wk ?_
  intro x5 B i8 v1 ac ad
  have h3:Q1 n1 x5 B=some v1:=ac;unfold Q1 at h3
  refine aU<|xS R<|aZ<|aT λc9=>cI R h3 (λh4=>?_) λh4=>?_
  ·refine Zc<|c9 _<|aS λae af O=>Ze<|BS h4 λp1 ag ah=>?_
   have J3:∀(C:List Int) (m:NN),p1=C→ae ⟨[(1,.ptr 1 j 0 0),(3,.own 5003<|m 0),(32,rL n1.Grid.Cells),(33,rI x5)],[(1,some<|.box j 54<|Af n1),(5003,some<|.arr (m 0) 3 1<|C.map<|A3 .i64)],(m 1),56⟩:=by
    intro C m e
    have h5:=ah _ e
    exact af _<|aR<|AG h5 λx7 ai h6=>xA R ai<|mM R<|Zh<|ZI h6 (AH [(m 0),(m 1)]) wk
   refine aU<|mM R<|mA R<|aZ<|aU<|sQ R (fB R EH iL fR R)<|lF D4 EK R R<|mM R<|AG ag λx8 a2 h7=>xI B8 R a2<|sQ R (BK R EA iL)<|xV (.int .i64 x8.Ref) AJ R<|xU R<|aZ<|cI R h7 (λh8=>?_) λh8=>?_
   ·refine aG [1,3,5,32,33] [1,5003] ?_
    exact aR<|mM R<|sQ R (fB R EH iL fR R)<|lF D4 EK R R<|mM R<|xI B8 R a2<|sQ R (BK R EA iL)<|xV (.int .i64 x8.Ref) AJ R<|sS R (BZ 52 R CU (f:=(A3 .i64)) (l:=([x8.Ref]:List Int)) ⟨R,⟨_,iL,R⟩,Za⟩ R (λ_=>R) R)<|AG h8 λaj J h9=>sS R (Cs R CU iL R (.inr<|.inl ⟨_,_,iL,R⟩) J)<|mA R<|Zh<|O _ _ wk<|J3 _ (AH [((i8 1)+1),((i8 1)+2)]) (Zf h9).symm
   exact Zc<|O _ _ wk<|J3 _ (AH [(i8 0),(i8 1)]) (Zf h8).symm
  exact Zm<|aa _ _ wk<|J2 _ (AH [(i8 0),(i8 1)])<|xH ad h4
 refine ZK (λ(x2:Int) (E:List Int) F=>⟨[(1,.ptr 1 j 0 0),(3,.own 5003<|F 0),(8,rL n1.Flow),(9,rI x2)],[(1,some<|.box j 54<|Af n1),(5003,some<|.arr (F 0) 3 1<|E.map<|A3 .i64)],(F 1),56⟩) (AH [(j+1),(j+2)]) a0 (Zw (Zw (Fd 3 5003 3 1 (by decide) R)<|by exact AZ.cv (e':=[(0,.agg<|Af n1),(1,.ptr 1 j 0 0),(2,cZ),(3,.own 5003<|j+1),(6,.ptr 1 j 0 3),(7,qe n1.Flow),(8,rL n1.Flow),(9,rI 0)]) (h':=[(1,some<|.box j 54<|Af n1),(5003,some<|.arr (j+1) 3 1<|([]:List Int).map<|A3 .i64)]) ⟨jL,jL,jL,jL,jL,jL,jL,jL,Za⟩ ⟨.inl R,.inl R,Za⟩ nL) wk) ?_
 intro x2 E F v2 ak al
 have a6:QK n1 x2 E=some v2:=ak;unfold QK at a6
 refine aU<|xS R<|aZ<|aT λan=>cI R a6 (λV=>?_) λV=>?_
 ·refine Zc<|an _<|aS λao aq T=>Ze<|BS V λp2 ar au=>?_
  have J4:∀(l:List Int) (q:NN),p2=l→ao ⟨[(1,.ptr 1 j 0 0),(3,.own 5003<|q 0),(8,rL n1.Flow),(9,rI x2)],[(1,some<|.box j 54<|Af n1),(5003,some<|.arr (q 0) 3 1<|l.map<|A3 .i64)],(q 1),56⟩:=by
   intro l q e
   have av:=au _ e
   exact aq _<|aR<|AG av λx9 aw ax=>xA R aw<|mM R<|Zh<|ZI ax (AH [(q 0),(q 1)]) wk
  refine aU<|mM R<|mA R<|aZ<|aU<|lF ET E0 R R<|mM R<|AG ar λX U ay=>xI Bu R U<|sQ R (BK R Ds iL)<|xV (.int .i64 X.Ref) AJ R<|xU R<|aZ<|cI R ay (λZ=>?_) λZ=>?_
  ·refine aG [1,3,4,8,9] [1,5003] ?_
   exact aR<|mM R<|lF ET E0 R R<|mM R<|xI Bu R U<|sQ R (BK R Ds iL)<|xV (.int .i64 X.Ref) AJ R<|sS R (BZ 26 R CU (f:=(A3 .i64)) (l:=([X.Ref]:List Int)) ⟨R,⟨_,iL,R⟩,Za⟩ R (λ_=>R) R)<|AG Z λaz M b0=>sS R (Cs R CU iL R (.inr<|.inl ⟨_,_,iL,R⟩) M)<|mA R<|Zh<|T _ _ wk<|J4 _ (AH [((F 1)+1),((F 1)+2)]) (Zf b0).symm
  exact Zc<|T _ _ wk<|J4 _ (AH [(F 0),(F 1)]) (Zf Z).symm
 exact Zm<|a7 _ _ wk<|J1 _ (AH [(F 0),(F 1)])<|xH al V
theorem QM{d1 i r}(h:IG d1 i=some r):AR prog 30 [.agg [qb d1.Nodes],rI i] (rI r):=by
 unfold IG at h
 refine mF func30 ntmps30 R λq=>aU<|sS R (At (cs:=[qb d1.Nodes]) 2 R iL R R)<|mA R<|aZ<|aS λX Z w=>aU<|lF CH B7 R R<|xL A8 R<|mM R<|aZ<|Ze<|BM h λo1 j A B=>?_
 have J1:∀(T:Unit) (U:NN),o1=.nrm T→X ⟨[],[],(U 0),22⟩:=by
  intro T U e
  have h1:=A _ e
  exact Z _<|zI h1 R id
 refine Zt (λ(C:Int) m=>⟨[(1,rI i),(2,.ptr 2 q 0 0),(8,rL d1.Nodes),(9,rI C)],[(2,some<|.box q 24 [qb d1.Nodes])],(m 0),22⟩) (AH [(q+1)]) j wk ?_
 intro C m v1 E l
 have V:Ph d1 i C=some v1:=E;unfold Ph at V
 refine aU<|xS R<|aZ<|aT λc6=>cI R V (λF=>?_) λF=>?_
 ·refine Zc<|c6 _<|aT λc7=>Ze<|aU<|mM R<|mA R<|aZ<|aU<|lF CH B7 R R<|mM R<|AG F λx4 I h4=>xI A8 R I<|sQ R (BK R Dk iL)<|xV (.int .i64 x4.ID) AJ R<|mM R<|xQ R<|aZ<|cI R h4 (λJ=>?_) λJ=>?_
  ·refine aT λM=>aF [5] ?_
   exact aR<|mM R<|mA R<|aZ<|M _<|Zi<|yI (B _<|xH l J) R
  refine Zc<|c7 _<|aG [1,2,8,9] [2] ?_
  exact aR<|AG J λx5 O h6=>xA R O<|mM R<|Zh<|Zq h6 (AH [(m 0)]) wk
 exact Zm<|w _ _ wk<|J1 _ (AH [(m 0)])<|xH l F
theorem gm{p k r}(h:Po p k=some r):AR prog 79 [rI p,rI k] (rB r):=by
 unfold Po at h
 refine mF func79 ntmps79 R λI=>aU<|mA R<|aZ<|aT λc2=>aU<|mM R<|aZ<|Ze<|aS λK4 c4 j=>aU<|xQ R<|mA R<|aZ<|BS h λp1 J U=>?_
 have M:∀(V:Bool) (T:NN),p1=V→K4 ⟨[(0,rI p),(5,rI k),(6,rB V)],[],(T 0),51⟩:=by
  intro V T e
  have h1:=U _ e
  refine c4 _<|cI R h1 (λX=>?_) λX=>?_
  ·exact aU<|mM R<|xQ R<|mA R<|aZ<|Zi<|yB X R
  refine aU<|xQ R<|mA R<|aZ<|cI R X (λZ=>?_) λZ=>?_
  ·exact aU<|mM R<|xQ R<|mM R<|vM R<|vQ R (A9 R (iR R) iL)<|xO R<|mM R<|vM R<|vQ R (A9 R (iR R) iL)<|xO R<|mA R<|aZ<|Zi<|yB Z R
  refine aU<|xQ R<|mA R<|aZ<|cI R Z (λh4=>?_) λh4=>?_
  ·exact aU<|mM R<|xQ R<|mA R<|aZ<|Zi<|yB h4 R
  refine aU<|xQ R<|mA R<|aZ<|cI R h4 (λh5=>?_) λh5=>?_
  ·exact aU<|mM R<|xQ R<|mM R<|vM R<|vQ R (A9 R (iR R) iL)<|xO R<|mA R<|aZ<|Zi<|yB h5 R
  refine aU<|xQ R<|mA R<|aZ<|cI R h5 (λh6=>?_) λh6=>?_
  ·refine aT λa0=>aF [0] ?_
   exact aR<|mM R<|AG h6 λr1 a1 h7=>cL (Uf<|a1) R<|mA R<|aZ<|a0 _<|Zi<|yB h7 R
  refine aT λa2=>aF [0,5] ?_
  refine aR<|xQ R<|mA R<|aZ<|a2 _<|cI R h6 (λh8=>?_) λh8=>?_
  ·exact aU<|mM R<|xQ R<|mA R<|aZ<|Zi<|yB h8 R
  refine aS λa6 a7 l=>aU<|xQ R<|mA R<|aZ<|BS h8 λp2 O a8=>?_
  have J2:∀(x2:Bool) (i2:NN),p2=x2→a6 ⟨[(0,rI p),(46,rB x2)],[],(i2 0),51⟩:=by
   intro x2 i2 e
   have h9:=a8 _ e
   refine a7 _<|cI R h9 (λm=>?_) λm=>?_
   ·exact aU<|mM R<|xQ R<|mA R<|aZ<|Zi<|yB m R
   exact Zc<|c2 _<|zB m R id
  refine aC R (λq=>?_) λq=>?_
  ·have w:=DN q O
   exact Zc<|l _ _ wk<|J2 _ (AH [(T 0)]) (Zf w).symm
  ·have w:=DH q O
   exact aR<|xQ R<|mA R<|Zh<|l _ _ wk<|J2 _ (AH [(T 0)]) (Zf w).symm
 refine aC R (λA=>?_) λA=>?_
 ·have B:=DN A J
  exact Zc<|j _ _ wk<|M _ (AH [I]) (Zf B).symm
 ·have B:=DH A J
  refine aU<|xQ R<|mA R<|aZ<|cI R B (λC=>?_) λC=>?_
  ·exact Zc<|j _ _ wk<|M _ (AH [I]) (Zf C).symm
  refine aU<|xQ R<|mA R<|aZ<|cI R C (λE=>?_) λE=>?_
  ·exact Zc<|j _ _ wk<|M _ (AH [I]) (Zf E).symm
  refine aU<|xQ R<|mA R<|aZ<|cI R E (λF=>?_) λF=>?_
  ·exact Zc<|j _ _ wk<|M _ (AH [I]) (Zf F).symm
  exact aR<|xQ R<|mA R<|Zh<|j _ _ wk<|M _ (AH [I]) (Zf F).symm
theorem gy{d1 k a r}(h:Nt d1 k a=some r):AR prog 41 [.agg [qb d1.Nodes],rI k,.r<|.sl<|a.map<|A3 .i64] (rI r):=by
 unfold Nt at h
 refine mF func41 ntmps41 R λw=>aU<|sS R (At (cs:=[qb d1.Nodes]) 3 R iL R R)<|mA R<|aZ<|aS λK2 c2 A=>aU<|mM R<|xL CU R<|mM R<|aZ<|Ze<|BM h λo1 l B m=>?_
 have J1:∀(u2:Unit) (i5:NN),o1=.nrm u2→K2 ⟨[],[],(i5 0),32⟩:=by
  intro u2 i5 e
  have h1:=B _ e
  exact c2 _<|zI h1 R id
 refine Zt (λ(C:Int) q=>⟨[(1,rI k),(2,.r<|.sl<|a.map<|A3 .i64),(3,.ptr 3 w 0 0),(10,rL a),(11,rI C)],[(3,some<|.box w 24 [qb d1.Nodes])],(q 0),32⟩) (AH [(w+1)]) l wk ?_
 intro C q v1 E j
 have h2:Lh d1 k a C=some v1:=E;unfold Lh at h2
 refine aU<|xS R<|aZ<|aT λc6=>cI R h2 (λF=>?_) λF=>?_
 ·refine Zc<|c6 _<|aT λc7=>Ze<|aU<|mM R<|mA R<|aZ<|aT λc9=>?_
  refine ZB BR (by kernel_rfl) ?_
  refine qP R (DG R Bs iL R R)<|qP R (AK R iL)<|qP R (AK R iL)<|AG F λx4 I h4=>qP R (BB R CU.slice iL iL (λ_=>R) λ_=>I)<|qP R (Bt (d:=.int .i64 x4) R AJ iL R)<|AG h4 λk1 J h5=>AQ.stepC R R R (r:=rI k1) (caps:=[]) (bs:=[.agg [qb d1.Nodes],rI x4]) R iL R ⟨⟨_,iL,.g (cs:=[.sl<|d1.Nodes.map AI.row]) R R⟩,⟨_,iL,.d R⟩,Za⟩ (λ_=>QM<|J) R<|qP R (Ek R iL)<|AQ.nil<|c9 _<|aT λM=>aT λO=>aG [1,2,3,8,10,11] [3] ?_
  refine aR<|mM R<|xS R<|aZ<|O _<|cI R h5 (λT=>?_) λT=>?_
  ·exact zI (m _<|xH j T) R id
  refine Zc<|M _<|aU<|mM R<|lF CH B7 R R<|mM R<|AG T λx5 U h7=>xI A8 R U<|sQ R (BK R Cd iL)<|xV (.int .i64 x5.Kind) AJ R<|AG h7 λr1 V h8=>cL (gm<|V) R<|sQ R (BD R iL)<|aZ<|cI R h8 (λX=>?_) λX=>?_
  ·exact zI (m _<|xH j X) R id
  refine Zc<|c7 _<|aG [1,2,3,10,11] [3] ?_
  exact aR<|AG X λx6 Z a0=>xA R Z<|mM R<|Zh<|Zq a0 (AH [(q 0)]) wk
 exact Zm<|A _ _ wk<|J1 _ (AH [(q 0)])<|xH j F
theorem nJ{d1 r}(h:Nh d1=some r):AR prog 13 [.agg [qb d1.Nodes]] (rI r):=by
 unfold Nh at h
 refine mF func13 ntmps13 R λj=>aU<|sS R (At (cs:=[qb d1.Nodes]) 1 R iL R R)<|mA R<|aZ<|aT λc2=>aU<|lF CH B7 R R<|xL A8 R<|xQ R<|aZ<|cI R h (λh1=>?_) λh1=>?_
 ·exact zI h1 R id
 refine Zc<|c2 _<|aS λK5 c5 a0=>aU<|lF CH B7 R R<|xL A8 R<|mM R<|aZ<|Ze<|BM h1 λo1 C a1 E=>?_
 have J1:∀(u2:Unit) (i5:NN),o1=.nrm u2→K5 ⟨[(1,.ptr 1 j 0 0)],[(1,some<|.box j 24 [qb d1.Nodes])],(i5 0),81⟩:=by
  intro u2 i5 e
  have h2:=a1 _ e
  refine c5 _<|aS λK7 c7 a2=>aU<|lF CH B7 R R<|xL A8 R<|mM R<|aZ<|Ze<|BM h2 λo2 F a6 a7=>?_
  have J2:∀(u4:Unit) (I:NN),o2=.nrm u4→K7 ⟨[],[],(I 0),81⟩:=by
   intro u4 I e
   have h3:=a6 _ e
   exact c7 _<|zI h3 R id
  refine Zt (λ(m:Int) i8=>⟨[(1,.ptr 1 j 0 0),(59,rL d1.Nodes),(60,rI m)],[(1,some<|.box j 24 [qb d1.Nodes])],(i8 0),81⟩) (AH [(i5 0)]) F wk ?_
  intro m i8 v1 a8 J
  have h4:KJ d1 m=some v1:=a8;unfold KJ at h4
  refine aU<|xS R<|aZ<|aT λaa=>cI R h4 (λh5=>?_) λh5=>?_
  ·refine Zc<|aa _<|aT λab=>Ze<|aU<|mM R<|mA R<|aZ<|aT λac=>AG h5 λl M h6=>AG h6 λr1 ad h7=>?_
   refine rP 13 [pO 63<|.agg [qb d1.Nodes],pO 64<|.ptr 1 j 0 0,pO 65<|qb d1.Nodes,pO 66<|rI m,pO 67<|.rop (AI.row l) 0,pO 68<|.rop (AI.row l) 1,pO 69<|rI l.Kind,pO 70<|.ptr 1 j 0 0,pO 71<|qb d1.Nodes,pO 72<|rI m,pO 73<|.rop (AI.row l) 0,pO 74<|.agg<|Af l,pO 75<|.r<|.sl<|r1.map<|A3 .i64] BR R (by exact⟨oB [(1,.ptr 1 j 0 0)] [(1,some<|.box j 24 [qb d1.Nodes])]<|DG R Bs (.inl R) R R,oB [(1,.ptr 1 j 0 0)] [(1,some<|.box j 24 [qb d1.Nodes])]<|fB R CH (.inl R) (λ_=>R) R,oB [(64,.ptr 1 j 0 0)] [(1,some<|.box j 24 [qb d1.Nodes])]<|Aa (a:=qb d1.Nodes) R B7 (.inl R) R R,oB [(5,rI m)] []<|AK R<|.inl R,oB [(65,qb d1.Nodes),(66,rI m)] []<|BB R A8.slice (.inl R) (.inl R) (λ_=>R) λ_=>M,oB [(67,.rop (AI.row l) 0)] []<|BK R Cd<|.inl R,oB [(68,.rop (AI.row l) 1)] []<|Bt (d:=.int .i64 l.Kind) R AJ (.inl R) R,oB [(1,.ptr 1 j 0 0)] [(1,some<|.box j 24 [qb d1.Nodes])]<|fB R CH (.inl R) (λ_=>R) R,oB [(70,.ptr 1 j 0 0)] [(1,some<|.box j 24 [qb d1.Nodes])]<|Aa (a:=qb d1.Nodes) R B7 (.inl R) R R,oB [(5,rI m)] []<|AK R<|.inl R,oB [(71,qb d1.Nodes),(72,rI m)] []<|BB R A8.slice (.inl R) (.inl R) (λ_=>R) λ_=>M,oB [(73,.rop (AI.row l) 0)] []<|Ce (cs:=(Af l)) R Cf (.inl R) R R,oD (λ_=>[(74,.agg<|Af l)]) (λ_=>[]) λG1 e h' n=>BJ (r:=.r<|.sl<|r1.map<|A3 .i64) (caps:=[]) (bs:=(IA l)) R (.inl R) R ⟨.inl ⟨(.inl R),R⟩,Za⟩ λ_=>fX<|ad,Za⟩) λG1 n1=>?_
   refine BV [1,5,59,60,61,62,63,64,65,66,67,68,69,70,71,72,73,74,75] [1] ?_
   refine AG h7 λe1 ae h8=>cL (gy<|ae) R<|mA R<|aZ<|ac _<|aT λaf=>aG [1,6,59,60] [1] ?_
   refine aR<|mM R<|xU R<|aZ<|af _<|cI R h8 (λh9=>?_) λh9=>?_
   ·exact aU<|mM R<|mA R<|aZ<|Zi<|yI (a7 _<|xH J h9) R
   exact Zc<|ab _<|aR<|AG h9 λx8 ag ah=>xA R ag<|mM R<|Zh<|Zq ah (AH [n1]) wk
  exact Zm<|a2 _ _ wk<|J2 _ (AH [(i8 0)])<|xH J h5
 refine Zt (λ(x2:Int) i3=>⟨[(1,.ptr 1 j 0 0),(13,rL d1.Nodes),(14,rI x2)],[(1,some<|.box j 24 [qb d1.Nodes])],(i3 0),81⟩) (AH [(j+1)]) C wk ?_
 intro x2 i3 v2 ai q
 have O:LT d1 x2=some v2:=ai;unfold LT at O
 refine aU<|xS R<|aZ<|aT λaj=>cI R O (λw=>?_) λw=>?_
 ·refine Zc<|aj _<|aT λak=>Ze<|aU<|mM R<|mA R<|aZ<|aT λal=>aU<|lF CH B7 R R<|mM R<|AG w λx9 T an=>xI A8 R T<|xB ((Af x9)) Cf R<|AG an λe2 ao aq=>cL (nB<|ao) R<|mA R<|aZ<|aU<|mM R<|xU R<|aZ<|cI R aq (λA=>?_) λA=>?_
  ·refine aT λar=>aF [4] ?_
   exact aR<|mM R<|mA R<|aZ<|ar _<|Zi<|yI (E _<|xH q A) R
  refine Zc<|al _<|aT λau=>aG [1,3,13,14] [1] ?_
  refine ZB BR (by kernel_rfl) ?_
  refine qP R (AK R iL)<|qP R (A9 R iL iL)<|qP R (AK R iL)<|qO R (fB R CH iL fR R)<|qO R (Aa (a:=qb d1.Nodes) R B7 (iR R) R R)<|AG A λav U aw=>qO R (BB R A8.slice (iR R) iL (λ_=>R)<|Ad U)<|qO R (BK R Dk<|iR R)<|qO R (Bt (d:=.int .i64 av.ID) R AJ (iR R) R)<|qO R (DL R (iR R) iL)<|qP R (Bb R iL<|iR R)<|qP R (AK R iL)<|qO R (AK R iL)<|qO R (Bh R (iR R) iL)<|qO R (AK R<|iR R)<|qT R (fB R CH iL fR R)<|qT R (Aa (a:=qb d1.Nodes) R B7 (iR R) R R)<|qT R (AK R iL)<|qT R (BB R A8.slice (iR R) (iR R) (λ_=>R) λ_=>T)<|qT R (BK R Dk<|iR R)<|qT R (Bt (d:=.int .i64 x9.ID) R AJ (iR R) R)<|qT R (fB R CH iL fR R)<|qT R (Aa (a:=qb d1.Nodes) R B7 (iR R) R R)<|qT R (AK R iL)<|AG aw λb1 V ax=>qT R (CS R (iR R) iL<|Ad V)<|AG ax λay X az=>qT R (BB R A8.slice (iR R) (iR R) (λ_=>R)<|Ad X)<|qT R (BK R Dk<|iR R)<|qT R (Bt (d:=.int .i64 ay.ID) R AJ (iR R) R)<|qT R (FG R (iR R)<|iR R)<|qO R (Bb R (iR R)<|iR R)<|qP R (CZ R iL<|iR R)<|AQ.nil<|au _<|cI R az (λB=>?_) λB=>?_
  ·exact zI (E _<|xH q B) R id
  exact Zc<|ak _<|aR<|AG B λb2 Z b0=>xA R Z<|mM R<|Zh<|Zq b0 (AH [(i3 0)]) wk
 exact Zm<|a0 _ _ wk<|J1 _ (AH [(i3 0)])<|xH q w
theorem mx{j i r}(h:Om j i=some r):AR prog 61 [qh j,rI i] (rI r):=by
 unfold Om at h
 refine mF func61 ntmps61 R λX=>aU<|mA R<|aZ<|aS λZ c2 w=>aU<|mM R<|xL LZ R<|mM R<|aZ<|Ze<|BM h λo1 l A B=>?_
 have J1:∀(T:Unit) (U:NN),o1=.nrm T→Z ⟨[],[],(U 0),20⟩:=by
  intro T U e
  have h1:=A _ e
  exact c2 _<|zI h1 R id
 refine Zt (λ(C:Int) q=>⟨[(0,qh j),(1,rI i),(7,rL j),(8,rI C)],[],(q 0),20⟩) (AH [X]) l wk ?_
 intro C q v1 E m
 have V:Ld j i C=some v1:=E;unfold Ld at V
 refine aU<|xS R<|aZ<|aT λc6=>cI R V (λF=>?_) λF=>?_
 ·refine Zc<|c6 _<|aT λc7=>Ze<|aU<|mM R<|mA R<|aZ<|aU<|mM R<|mM R<|AG F λx4 I h4=>xI LZ R I<|sQ R (BK R KQ iL)<|xV (.int .i64 x4.ID) AJ R<|mM R<|xQ R<|aZ<|cI R h4 (λJ=>?_) λJ=>?_
  ·refine aT λM=>aF [5] ?_
   exact aR<|mM R<|mA R<|aZ<|M _<|Zi<|yI (B _<|xH m J) R
  refine Zc<|c7 _<|aF [0,1,7,8] ?_
  exact aR<|AG J λx5 O h6=>xA R O<|mM R<|Zh<|Zq h6 (AH [(q 0)]) wk
 exact Zm<|w _ _ wk<|J1 _ (AH [(q 0)])<|xH m F
theorem mt{q b c r}(h:OG q b c=some r):AR prog 62 [.agg<|CG q,rI b,rI c] (.agg<|BA r):=by
 unfold OG at h
 refine mF func62 ntmps62 R λj=>aU<|sS R (At (cs:=(CG q)) 3 R iL R R)<|sS R (BH (cs:=Fr) 6 R H0 R R)<|aZ<|aS λK2 c2 C=>aU<|lF EL EY R R<|xL Cp R<|mM R<|aZ<|Ze<|BM h λo1 w E F=>?_
 have J1:∀(u2:Unit) (i5:NN),o1=.nrm u2→K2 ⟨[(1,rI b),(2,rI c),(6,.ptr 6 (j+1) 0 0)],[(6,some<|.box (j+1) 109 Fr)],(i5 0),47⟩:=by
  intro u2 i5 e
  have h1:=E _ e
  refine c2 _<|aT λc4=>aR<|mM R<|mM R ?_
  refine sQ R (Bj R WZ (q:=[(0,_),(1,_),(2,_),(3,_)]) (by exact⟨R,R,R,iL,R,R,R,iL,R,R,R,iL,R,R,R,iL,Za⟩) (cs:=[rI b,rI c,rI 1,rI 1])<|by rfl) ?_
  exact Zl R R (A4 (ds:=[rI b,rI c,rI 1,rI 1]) R HL iL R iL R R R R)<|aZ<|c4 _<|Zi<|Bz (P:=prog) (λ(r:Ai)=>.agg<|BA r) h1 iL<|.a DU R R R<|.g (cs:=[.int .i64 b,.int .i64 c,.int .i64 1,.int .i64 1]) R R
 refine Zt (λ(I:Int) B=>⟨[(1,rI b),(2,rI c),(3,.ptr 3 j 0 0),(6,.ptr 6 (j+1) 0 0),(11,rL q.Merges),(12,rI I)],[(3,some<|.box j 51<|CG q),(6,some<|.box (j+1) 109 Fr)],(B 0),47⟩) (AH [(j+2)]) w wk ?_
 intro I B v1 J A
 have h2:JM q b c I=some v1:=J;unfold JM at h2
 refine aU<|xS R<|aZ<|aT λc6=>cI R h2 (λM=>?_) λM=>?_
 ·refine Zc<|c6 _<|aT λc7=>Ze<|aU<|mM R<|mA R<|aZ<|aU<|lF EL EY R R<|mM R<|AG M λl O h4=>xI Cp R O<|xB ((BA l)) DU R<|sS R (BH (cs:=Fr) 8 R H0 R R)<|Zl R R (A4 (ds:=(BA l)) R HL iL R iL R R R R)<|aZ<|aT λT=>aR<|mM R<|lF Ct AJ R R<|lF Ct AJ R R<|lF Gf AJ R R<|AG h4 λx5 U h5=>xA R U<|AG h5 λx6 V h6=>sQ R (CS R iL iL λ_=>V)<|AG h6 λr1 X h7=>cL (Dm<|X) R<|mM R<|vM R<|vF DW AJ R R<|vF DW AJ R R<|vF Gx AJ R R<|AG h7 λx7 Z h8=>vQ R (Iu R (iR R) (iR R)<|Ad Z)<|AG h8 λx8 a0 h9=>vQ R (CS R (iR R) iL<|Ad a0)<|AG h9 λr2 a1 a2=>vL (λhg=>Dm<|Ad a1 hg) R<|xN R<|aZ<|T _<|cI R a2 (λm=>?_) λm=>?_
  ·refine aT λa6=>aG [6,8] [6,8] ?_
   exact aR<|xC DU R<|Zl R R (A4 (ds:=(BA l)) R HL iL R iL R R R R)<|aZ<|a6 _<|Zi<|Bz (P:=prog) (λ(r:Ai)=>.agg<|BA r) (F _<|xH A m) iL<|.a DU R R R<|.g (cs:=[.int .i64 l.Row,.int .i64 l.Col,.int .i64 l.H,.int .i64 l.W]) R R
  refine Zc<|c7 _<|aG [1,2,3,6,11,12] [3,6] ?_
  exact aR<|AG m λx9 a7 a8=>xA R a7<|mM R<|Zh<|Zq a8 (AH [((B 0)+1)]) wk
 exact Zm<|C _ _ wk<|J1 _ (AH [(B 0)])<|xH A M
theorem O1{j i r}(h:H3 j i=some r):AR prog 159 [qg j,rI i] (rI r):=by
 unfold H3 at h
 refine mF func159 ntmps159 R λX=>aU<|mA R<|aZ<|aS λZ c2 w=>aU<|mM R<|xL BU R<|mM R<|aZ<|Ze<|BM h λo1 l A B=>?_
 have J1:∀(T:Unit) (U:NN),o1=.nrm T→Z ⟨[],[],(U 0),20⟩:=by
  intro T U e
  have h1:=A _ e
  exact c2 _<|zI h1 R id
 refine Zt (λ(C:Int) q=>⟨[(0,qg j),(1,rI i),(7,rL j),(8,rI C)],[],(q 0),20⟩) (AH [X]) l wk ?_
 intro C q v1 E m
 have V:II j i C=some v1:=E;unfold II at V
 refine aU<|xS R<|aZ<|aT λc6=>cI R V (λF=>?_) λF=>?_
 ·refine Zc<|c6 _<|aT λc7=>Ze<|aU<|mM R<|mA R<|aZ<|aU<|mM R<|mM R<|AG F λx4 I h4=>xI BU R I<|sQ R (BK R Ec iL)<|xV (.int .i64 x4.Item) AJ R<|mM R<|xQ R<|aZ<|cI R h4 (λJ=>?_) λJ=>?_
  ·refine aT λM=>aF [5] ?_
   exact aR<|mM R<|mA R<|aZ<|M _<|Zi<|yI (B _<|xH m J) R
  refine Zc<|c7 _<|aF [0,1,7,8] ?_
  exact aR<|AG J λx5 O h6=>xA R O<|mM R<|Zh<|Zq h6 (AH [(q 0)]) wk
 exact Zm<|w _ _ wk<|J1 _ (AH [(q 0)])<|xH m F
theorem U2{B w r}(h:Ir B w=some r):AR prog 80 [qa B,.agg<|CD w] (qa r):=by
 unfold Ir at h
 refine mF func80 ntmps80 R λA=>aU<|sS R (At (cs:=(CD w)) 3 R iL R R)<|mA R<|aZ<|aU<|mA R<|aZ<|aU<|mA R<|aZ<|aS λK4 c4 ae=>aU<|mM R<|xL Ay R<|mM R<|aZ<|Ze<|IR h λo1 a8 af=>?_
 have J1:∀(j:Bool) (C:List AC) (T:NN),o1=(j,C)→K4 ⟨[(3,.ptr 3 A 0 0),(5,.own 5005<|T 0),(6,rB j)],[(3,some<|.box A 71<|CD w),(5005,some<|.arr (T 0) 71 2<|C.map AC.row)],(T 1),52⟩:=by
  intro j C T e
  have h1:=af _ _ e
  refine c4 _<|aS λK6 c6 aa=>aU<|mM R<|sQ R (BD R iL)<|aZ<|BS h1 λp1 ab ag=>?_
  have J2:∀(E:List AC) (i6:NN),p1=E→K6 ⟨[(5,.own 5005<|i6 0)],[(5005,some<|.arr (i6 0) 71 2<|E.map AC.row)],(i6 1),52⟩:=by
   intro E i6 e
   have h2:=ag _ e
   exact c6 _<|aU<|mM R<|mA R<|aZ<|Zi<|Bz (P:=prog) (λ(r:(List AC))=>qa r) h2 iL<|.t<|.one<|.own R
  refine aC R (λX=>?_) λX=>?_
  ·have h3:=DN X ab
   exact aR<|mM R<|xC D7 R<|sS R (BZ 49 R Ay (f:=AC.row) (l:=([w]:List AC)) ⟨R,⟨_,iL,R⟩,Za⟩ R (λ_=>R) R)<|AG h3 λb4 Z h4=>sS R (Cs R Ay iL R (.inr<|.inl ⟨_,_,iL,R⟩) Z)<|mA R<|Zh<|aa _ _ wk<|J2 _ (AH [((T 1)+1),((T 1)+2)]) (Zf h4).symm
  ·have h3:=DH X ab
   exact Zc<|aa _ _ wk<|J2 _ (AH [(T 0),(T 1)]) (Zf h3).symm
 refine J0 (λ(l:Bool) (x2:Int) (F:List AC) M=>⟨[(0,qa B),(3,.ptr 3 A 0 0),(5,.own 5005<|M 0),(6,rB l),(9,rL B),(10,rI x2)],[(3,some<|.box A 71<|CD w),(5005,some<|.arr (M 0) 71 2<|F.map AC.row)],(M 1),52⟩) (AH [(A+1),(A+2)]) a8 (Zw (Zw (Fd 5 5005 71 2 (by decide) R)<|by exact AZ.cv (e':=[(0,qa B),(1,.agg<|CD w),(3,.ptr 3 A 0 0),(4,cZ),(5,.own 5005<|A+1),(6,rB false),(8,qa B),(9,rL B),(10,rI 0)]) (h':=[(3,some<|.box A 71<|CD w),(5005,some<|.arr (A+1) 71 2<|([]:List AC).map AC.row)]) ⟨jL,jL,jL,jL,jL,jL,jL,jL,jL,Za⟩ ⟨.inl R,.inl R,Za⟩ nL) wk) ?_
 intro l x2 F M v1 ah ai
 have h5:Nj B w l x2 F=some v1:=ah;unfold Nj at h5
 refine aU<|xS R<|aZ<|aT λaj=>cI R h5 (λh6=>?_) λh6=>?_
 ·refine Zc<|aj _<|aS λak al U=>Ze<|IR h6 λp2 an ao=>?_
  have J3:∀(m:Bool) (I:List AC) (i7:NN),p2=(m,I)→ak ⟨[(0,qa B),(3,.ptr 3 A 0 0),(5,.own 5005<|i7 0),(6,rB m),(9,rL B),(10,rI x2)],[(3,some<|.box A 71<|CD w),(5005,some<|.arr (i7 0) 71 2<|I.map AC.row)],(i7 1),52⟩:=by
   intro m I i7 e
   have h7:=ao _ _ e
   exact al _<|aR<|AG h7 λx4 aq h8=>xA R aq<|mM R<|Zh<|F9.mk h8 (AH [(i7 0),(i7 1)]) wk
  refine aU<|mM R<|mA R<|aZ<|aS λar au V=>aT λav=>?_
  refine ZB BR (by kernel_rfl) ?_
  refine qP R (AK R iL)<|qP R (BD R iL)<|qP R (AK R iL)<|qO R (AK R iL)<|qO R (AK R iL)<|AG an λx5 aw h9=>qO R (BB R Ay.slice (iR R) (iR R) (λ_=>R)<|Ad aw)<|qO R (BK R Cz<|iR R)<|qO R (Bt (d:=.str x5.Name) R A6 (iR R) R)<|qO R (fB R Cz iL fR R)<|qO R (Aa (a:=rS w.Name) R A6 (iR R) R R)<|qO R (Wp R (iR R)<|iR R)<|qP R (Bb R iL<|iR R)<|AQ.nil<|av _<|IR h9 λp3 ac ax=>?_
  have J4:∀(q:Bool) (J:List AC) (i8:NN),p3=(q,J)→ar ⟨[(0,qa B),(3,.ptr 3 A 0 0),(5,.own 5005<|i8 0),(6,rB q),(7,rI x2),(9,rL B),(10,rI x2)],[(3,some<|.box A 71<|CD w),(5005,some<|.arr (i8 0) 71 2<|J.map AC.row)],(i8 1),52⟩:=by
   intro q J i8 e
   have ay:=ax _ _ e
   refine au _<|aT λaz=>?_
   refine ZB BR (by kernel_rfl) ?_
   refine qP R (AK R iL)<|qP R (AK R iL)<|AG ay λx6 ad b0=>qP R (BB R Ay.slice iL iL (λ_=>R) λ_=>ad)<|qP R (BK R Cz iL)<|qP R (Bt (d:=.str x6.Name) R A6 iL R)<|qP R (fB R Cz iL fR R)<|qP R (Aa (a:=rS w.Name) R A6 iL R R)<|qP R (Dt R iL iL)<|AQ.nil<|az _<|cI R b0 (λa0=>?_) λa0=>?_
   ·exact aR<|mM R<|mM R<|mM R<|xI Ay R ad<|xB ((CD x6)) D7 R<|sS R (BZ 42 R Ay (f:=AC.row) (l:=([x6]:List AC)) ⟨R,⟨_,iL,R⟩,Za⟩ R (λ_=>R) R)<|AG a0 λb5 a2 b1=>sS R (Cs R Ay iL R (.inr<|.inl ⟨_,_,iL,R⟩) a2)<|mA R<|Zh<|U _ _ wk<|J3 _ _ (AH [((i8 1)+1),((i8 1)+2)]) (Zf b1).symm
   exact Zc<|U _ _ wk<|J3 _ _ (AH [(i8 0),(i8 1)]) (Zf a0).symm
  refine aC R (λa6=>?_) λa6=>?_
  ·have a7:=DN a6 ac
   refine aU<|mM R<|xC D7 R<|sS R (BZ 27 R Ay (f:=AC.row) (l:=([w]:List AC)) ⟨R,⟨_,iL,R⟩,Za⟩ R (λ_=>R) R)<|AG a7 λb2 O b3=>sS R (Cs R Ay iL R (.inr<|.inl ⟨_,_,iL,R⟩) O)<|mA R<|aZ<|aG [0,3,5,7,9,10] [3,5005] ?_
   exact aR<|mA R<|Zh<|V _ _ wk<|J4 _ _ (AH [((M 1)+1),((M 1)+2)]) (Zf b3).symm
  ·have a7:=DH a6 ac
   exact Zc<|V _ _ wk<|J4 _ _ (AH [(M 0),(M 1)]) (Zf a7).symm
 exact Zm<|ae _ _ wk<|J1 _ _ (AH [(M 0),(M 1)])<|xH ai h6
theorem PR{l1 c r}(h:Gg l1 c=some r):AR prog 48 [qa l1,qa c] (qa r):=by
 unfold Gg at h
 refine mF func48 ntmps48 R λn0=>aU<|mA R<|aZ<|aU<|mA R<|aZ<|aS λK3 c3 ah=>aU<|mM R<|xL Ay R<|mM R<|aZ<|Ze<|BS h λo1 a0 ai=>?_
 have J1:∀(E:List AC) (i5:NN),o1=E→K3 ⟨[(1,qa c),(5,qa E)],[],(i5 0),54⟩:=by
  intro E i5 e
  have h1:=ai _ e
  refine c3 _<|aS λK5 c5 aj=>aU<|mM R<|xL Ay R<|mM R<|aZ<|Ze<|BS h1 λo2 a1 ak=>?_
  have J2:∀(j:List AC) (C:NN),o2=j→K5 ⟨[(5,qa j)],[],(C 0),54⟩:=by
   intro j C e
   have h2:=ak _ e
   refine c5 _<|aU<|mA R<|aZ<|aS λK8 c8 al=>aU<|mM R<|xL Ay R<|mM R<|aZ<|Ze<|BS h2 λo3 a2 an=>?_
   have J3:∀(m:List AC) (F:NN),o3=m→K8 ⟨[(8,.own 5008<|F 0)],[(5008,some<|.arr (F 0) 71 2<|m.map AC.row)],(F 1),54⟩:=by
    intro m F e
    have h3:=an _ e
    exact c8 _<|aU<|mM R<|mA R<|aZ<|Zi<|Bz (P:=prog) (λ(r:(List AC))=>qa r) h3 iL<|.t<|.one<|.own R
   refine ZK (λ(x8:Int) (q:List AC) l=>⟨[(5,qa j),(8,.own 5008<|l 0),(35,rL j),(36,rI x8)],[(5008,some<|.arr (l 0) 71 2<|q.map AC.row)],(l 1),54⟩) (AH [(C 0),((C 0)+1)]) a2 (Zw (Zw (Fd 8 5008 71 2 (by decide) R)<|by exact AZ.cv (e':=[(5,qa j),(8,.own 5008<|C 0),(34,qa j),(35,rL j),(36,rI 0)]) (h':=[(5008,some<|.arr (C 0) 71 2<|([]:List AC).map AC.row)]) ⟨jL,jL,jL,jL,jL,Za⟩ ⟨.inl R,Za⟩ nL) wk) ?_
   intro x8 q l v1 ao aq
   have h4:OP j x8 q=some v1:=ao;unfold OP at h4
   refine aU<|xS R<|aZ<|aT λar=>cI R h4 (λh5=>?_) λh5=>?_
   ·refine Zc<|ar _<|aS λau av M=>Ze<|BS h5 λp1 aw ax=>?_
    have J4:∀(w:List AC) (i16:NN),p1=w→au ⟨[(5,qa j),(8,.own 5008<|i16 0),(35,rL j),(36,rI x8)],[(5008,some<|.arr (i16 0) 71 2<|w.map AC.row)],(i16 1),54⟩:=by
     intro w i16 e
     have h6:=ax _ e
     exact av _<|aR<|AG h6 λbe a6 h7=>xA R a6<|mM R<|Zh<|ZI h7 (AH [(i16 0),(i16 1)]) wk
    refine aU<|mM R<|mA R<|aZ<|aU<|mM R<|mM R<|AG aw λT O h8=>xI Ay R O<|sQ R (BK R Hk iL)<|xV (.str T.Value) A6 R<|sQ R (Dt R iL iL)<|aZ<|cI R h8 (λh9=>?_) λh9=>?_
    ·exact aR<|mM R<|mM R<|mM R<|xI Ay R O<|xB ((CD T)) D7 R<|sS R (BZ 50 R Ay (f:=AC.row) (l:=([T]:List AC)) ⟨R,⟨_,iL,R⟩,Za⟩ R (λ_=>R) R)<|AG h9 λay I az=>sS R (Cs R Ay iL R (.inr<|.inl ⟨_,_,iL,R⟩) I)<|mA R<|Zh<|M _ _ wk<|J4 _ (AH [((l 1)+1),((l 1)+2)]) (Zf az).symm
    exact Zc<|M _ _ wk<|J4 _ (AH [(l 0),(l 1)]) (Zf h9).symm
   exact Zm<|al _ _ wk<|J3 _ (AH [(l 0),(l 1)])<|xH aq h5
  refine ZK (λ(A:List AC) (x5:Int) i8=>⟨[(1,qa c),(5,qa A),(23,rL c),(24,rI x5)],[],(i8 0),54⟩) (AH [(i5 0)]) a1 wk ?_
  intro A x5 i8 v2 b0 b1
  have a7:Oa c A x5=some v2:=b0;unfold Oa at a7
  refine aU<|xS R<|aZ<|aT λb2=>cI R a7 (λU=>?_) λU=>?_
  ·refine Zc<|b2 _<|aT λb3=>Ze<|aU<|mM R<|mA R<|aZ<|aR<|mM R<|mM R<|mM R<|AG U λa8 aa b4=>xI Ay R aa<|xB ((CD a8)) D7 R<|AG b4 λab V b5=>sS R (BJ (r:=qa ab) (caps:=[]) (bs:=[qa A,.agg<|CD a8]) R iL R ⟨.inl ⟨iL,R⟩,.inl ⟨iL,R⟩,Za⟩ λ_=>U2<|V)<|mA R<|aZ<|b3 _<|aF [1,5,23,24] ?_
   exact aR<|AG b5 λbf ac b6=>xA R ac<|mM R<|Zh<|ZI b6 (AH [(i8 0)]) wk
  exact Zm<|aj _ _ wk<|J2 _ (AH [(i8 0)])<|xH b1 U
 refine ZK (λ(B:List AC) (x2:Int) i3=>⟨[(0,qa l1),(1,qa c),(5,qa B),(11,rL l1),(12,rI x2)],[],(i3 0),54⟩) (AH [n0]) a0 ((by exact AZ.cv ⟨jL,jL,.inl<|.inr<|.inr ⟨R,R⟩,jL,jL,Za⟩ Za nL)) ?_
 intro B x2 i3 v3 b7 b8
 have ad:NS l1 B x2=some v3:=b7;unfold NS at ad
 refine aU<|xS R<|aZ<|aT λb9=>cI R ad (λX=>?_) λX=>?_
 ·refine Zc<|b9 _<|aT λba=>Ze<|aU<|mM R<|mA R<|aZ<|aR<|mM R<|mM R<|mM R<|AG X λae af bb=>xI Ay R af<|xB ((CD ae)) D7 R<|AG bb λZ J bc=>sS R (BJ (r:=qa Z) (caps:=[]) (bs:=[qa B,.agg<|CD ae]) R iL R ⟨.inl ⟨iL,R⟩,.inl ⟨iL,R⟩,Za⟩ λ_=>U2<|J)<|mA R<|aZ<|ba _<|aF [0,1,5,11,12] ?_
  exact aR<|AG bc λbg ag bd=>xA R ag<|mM R<|Zh<|ZI bd (AH [(i3 0)]) wk
 exact Zm<|ah _ _ wk<|J1 _ (AH [(i3 0)])<|xH b8 X
theorem jV{w i a r}(h:MJ w i a=some r):AR prog 173 [qg w,rI i,rI a] (rB r):=by
 unfold MJ at h
 refine mF func173 ntmps173 R λn0=>aU<|mA R<|aZ<|aS λK2 c2 B=>aU<|mM R<|xL BU R<|AG h λZ C h1=>xA R C<|mM R<|aZ<|Ze<|BM h1 λo1 m E q=>?_
 have J1:∀(u2:Unit) (i5:NN),o1=.nrm u2→K2 ⟨[],[],(i5 0),27⟩:=by
  intro u2 i5 e
  have h2:=E _ e
  exact c2 _<|zB h2 R id
 refine ZK (λ(j:Int) (F:Int) A=>⟨[(0,qg w),(1,rI j),(2,rI a),(10,rI Z),(11,rI F)],[],(A 0),27⟩) (AH [n0]) m wk ?_
 intro j F A v1 I l
 have h3:HB w a Z j F=some v1:=I;unfold HB at h3
 refine aU<|xS R<|aZ<|aT λc6=>cI R h3 (λJ=>?_) λJ=>?_
 ·refine Zc<|c6 _<|aT λc7=>Ze<|aT λc8=>aU<|mM R<|mM R<|xQ R<|aZ<|cI R J (λM=>?_) λM=>?_
  ·exact zB (q _<|xH l M) R id
  refine Zc<|c8 _<|aU<|mM R<|mM R<|AG M λi6 O h6=>cL (O1<|O) R<|mA R<|aZ<|aT λT=>aU<|mM R<|xS R<|aZ<|cI R h6 (λU=>?_) λU=>?_
  ·exact zB (q _<|xH l U) R id
  refine Zc<|T _<|aF [0,2,7,10,11] ?_
  exact aR<|mM R<|mM R<|AG U λx5 V h8=>xI BU R V<|sQ R (BK R Mg iL)<|xV (.int .i64 x5.Parent) AJ R<|mA R<|aZ<|c7 _<|aR<|AG h8 λx6 X h9=>xA R X<|mM R<|Zh<|ZI h9 (AH [(A 0)]) wk
 exact Zm<|B _ _ wk<|J1 _ (AH [(A 0)])<|xH l J
theorem nV{I r}(h:LU I=some r):AR prog 157 [qf I] (.tup [qg r.1,qg r.2]):=by
 unfold LU at h
 refine mF func157 ntmps157 R λn0=>aU<|mA R<|mA R<|aZ<|aU<|mA R<|mA R<|aZ<|aS λK3 c3 b0=>aU<|mM R<|xL D9 R<|mM R<|aZ<|Ze<|IR h λo1 an b1=>?_
 have J1:∀(q:List AE) (l:List AE) (V:NN),o1=(q,l)→K3 ⟨[(4,.own 5004<|V 0),(5,.own 5005<|V 1)],[(5004,some<|.arr (V 0) 167 4<|q.map AE.row),(5005,some<|.arr (V 1) 167 4<|l.map AE.row)],(V 2),121⟩:=by
  intro q l V e
  have h1:=b1 _ _ e
  refine c3 _<|aS λK5 c5 b2=>aU<|mM R<|sQ R (JL R BU.slice iL R)<|mM R<|aZ<|Ze<|BS h1 λo2 ao b3=>?_
  have J2:∀(J:List AE) (a8:NN),o2=J→K5 ⟨[(4,.own 5004<|a8 0),(5,.own 5005<|V 1)],[(5004,some<|.arr (a8 0) 167 4<|J.map AE.row),(5005,some<|.arr (V 1) 167 4<|l.map AE.row)],(a8 1),121⟩:=by
   intro J a8 e
   have h2:=b3 _ e
   exact c5 _<|aU<|mM R<|mM R<|mA R<|mA R<|aZ<|Zi<|DC (P:=prog) (λ(r:(List AE) × (List AE))=>qg r.1) (λ(r:(List AE) × (List AE))=>qg r.2) h2 iL (.t<|.one<|.own R)<|.t<|.one<|.own R
  refine ZK (λ(x5:Int) (M:List AE) i8=>⟨[(4,.own 5004<|i8 0),(5,.own 5005<|V 1),(96,rL q),(97,rI x5)],[(5004,some<|.arr (i8 0) 167 4<|M.map AE.row),(5005,some<|.arr (V 1) 167 4<|l.map AE.row)],(i8 1),121⟩) (AH [(V 0),(V 2)]) ao wk ?_
  intro x5 M i8 v1 b4 b5
  have h3:Hx q l x5 M=some v1:=b4;unfold Hx at h3
  refine aU<|xS R<|aZ<|aT λc9=>cI R h3 (λh4=>?_) λh4=>?_
  ·refine Zc<|c9 _<|aS λb6 b7 ab=>Ze<|BS h4 λp1 b8 b9=>?_
   have J3:∀(O:List AE) (Z:NN),p1=O→b6 ⟨[(4,.own 5004<|Z 0),(5,.own 5005<|V 1),(96,rL q),(97,rI x5)],[(5004,some<|.arr (Z 0) 167 4<|O.map AE.row),(5005,some<|.arr (V 1) 167 4<|l.map AE.row)],(Z 1),121⟩:=by
    intro O Z e
    have h5:=b9 _ e
    exact b7 _<|aR<|AG h5 λx7 ba h6=>xA R ba<|mM R<|Zh<|ZI h6 (AH [(Z 0),(Z 1)]) wk
   refine aU<|mM R<|mA R<|aZ<|aU<|mM R<|mM R<|mM R<|AG b8 λx8 aa h7=>sQ R (Fs R BU.slice iL R iL λ_=>aa)<|sQ R (GK (ob:=.arr _ _ _ _) R Ec iL fR R)<|sQ R (SH (d:=.int .i64 x8.Item) R AJ iL fR (λ_=>aa) R)<|AG h7 λk1 bb h8=>cL (O1<|bb) R<|mA R<|aZ<|aT λbc=>aG [4,5,10,11,96,97] [5004,5005] ?_
   refine aR<|mM R<|sQ R (Cq R iL iL)<|aZ<|bc _<|cI R h8 (λh9=>?_) λh9=>?_
   ·exact aR<|mM R<|mM R<|mM R<|mM R<|AG h9 λx9 aq bd=>sQ R (Fs R BU.slice iL R iL λ_=>aq)<|sQ R (GK (ob:=.arr _ _ _ _) R Kz iL fR R)<|sQ R (SH (d:=.sl<|x9.Attrs.map AC.row) R Bw iL fR (λ_=>aq) R)<|sQ R (Fs R BU.slice iL R iL λ_=>aa)<|sQ R (GK (ob:=.arr _ _ _ _) R Kz iL fR R)<|Zl R R (SE (v:=(AE.mk x8.Item x8.Parent x8.Place x9.Attrs)) R I2 iL R aa iL R R R R)<|Zh<|ab _ _ wk<|J3 _ (AH [(i8 0),(i8 1)]) (Zf bd).symm
   exact Zc<|ab _ _ wk<|J3 _ (AH [(i8 0),(i8 1)]) (Zf h9).symm
  exact Zm<|b2 _ _ wk<|J2 _ (AH [(i8 0),(i8 1)])<|xH b5 h4
 refine J0 (λ(x2:Int) (w:List AE) (B:List AE) m=>⟨[(0,qf I),(4,.own 5004<|m 0),(5,.own 5005<|m 1),(13,rL I),(14,rI x2)],[(5004,some<|.arr (m 0) 167 4<|w.map AE.row),(5005,some<|.arr (m 1) 167 4<|B.map AE.row)],(m 2),121⟩) (AH [n0,(n0+1),(n0+2)]) an (Zw (Zw (Fd 4 5004 167 4 (by decide) R)<|by exact AZ.cv (e':=[(0,qf I),(2,cZ),(3,cZ),(4,.own 5004 n0),(5,cZ),(12,qf I),(13,rL I),(14,rI 0)]) (h':=[(5004,some<|.arr n0 167 4<|([]:List AE).map AE.row)]) ⟨jL,jL,jL,jL,jL,jL,jL,jL,Za⟩ ⟨.inl R,Za⟩ nL)<|Zw (Zw (Fd 5 5005 167 4 (by decide) R)<|by exact AZ.cv (e':=[(0,qf I),(2,cZ),(3,cZ),(4,.own 5004 n0),(5,.own 5005<|n0+1),(12,qf I),(13,rL I),(14,rI 0)]) (h':=[(5004,some<|.arr n0 167 4<|([]:List AE).map AE.row),(5005,some<|.arr (n0+1) 167 4<|([]:List AE).map AE.row)]) ⟨jL,jL,jL,jL,jL,jL,jL,jL,Za⟩ ⟨.inl R,.inl R,Za⟩ nL) wk) ?_
 intro x2 w B m v2 be bf
 have ar:H4 I x2 w B=some v2:=be;unfold H4 at ar
 refine aU<|xS R<|aZ<|aT λbg=>cI R ar (λaf=>?_) λaf=>?_
 ·refine Zc<|bg _<|aS λbh bi a6=>Ze<|IR af λp2 bj bk=>?_
  have J4:∀(E:List AE) (T:List AE) (U:NN),p2=(E,T)→bh ⟨[(0,qf I),(4,.own 5004<|U 0),(5,.own 5005<|U 1),(13,rL I),(14,rI x2)],[(5004,some<|.arr (U 0) 167 4<|E.map AE.row),(5005,some<|.arr (U 1) 167 4<|T.map AE.row)],(U 2),121⟩:=by
   intro E T U e
   have bl:=bk _ _ e
   exact bi _<|aR<|AG bl λck au bm=>xA R au<|mM R<|Zh<|F9.mk bm (AH [(U 0),(U 1),(U 2)]) wk
  refine aU<|mM R<|mA R<|aZ<|aU<|mM R<|mM R<|AG bj λj av bn=>xI D9 R av<|xB ((Bm j)) G3 R<|sS R (BH (cs:=Rg) 7 R P5 R R)<|Zl R R (A4 (ds:=(Bm j)) R Qs iL R iL R R R R)<|aZ<|aT λbo=>aU<|lF Fu AJ R R<|xQ R<|aZ<|cI R bn (λag=>?_) λag=>?_
  ·refine aT λbp=>aG [0,4,5,7,13,14] [7,5004,5005] ?_
   refine aR<|mM R<|lF Fa AJ R R<|AG ag λk2 bq br=>cL (O1<|bq) R<|mA R<|aZ<|bp _<|aS λbs bt ac=>aU<|mM R<|xS R<|aZ<|IR br λp3 aw bu=>?_
   have J5:∀(k3:Int) (C:List AE) (A:NN),p3=(k3,C)→bs ⟨[(0,qf I),(4,.own 5004<|m 0),(5,.own 5005<|A 0),(7,.ptr 7 (m 2) 0 0),(8,rI k3),(13,rL I),(14,rI x2)],[(7,some<|.box (m 2) 146<|Bm j),(5004,some<|.arr (m 0) 167 4<|w.map AE.row),(5005,some<|.arr (A 0) 167 4<|C.map AE.row)],(A 1),121⟩:=by
    intro k3 C A e
    have bv:=bu _ _ e
    refine bt _<|aT λbw=>?_
    refine VL [0,1] [2,3,4,5,6,7,8,9,10,11] [12] 13 BR (by kernel_rfl) R R R R R ?_
    refine Fy.move R R R R<|Fy.move R R R R<|Fy.nil<|AF.step R R R (AK R iL)<|AF.step R R R (AK R iL)<|AG bv λa0 X bx=>AF.step R R R (Fs R BU.slice iL R iL λ_=>X)<|AF.step R R R (GK (ob:=.arr _ _ _ _) R Kz iL fR R)<|AF.step R R R (SH (d:=.sl<|a0.Attrs.map AC.row) R Bw iL fR (λ_=>X) R)<|AF.step R R R (fB R L6 iL fR R)<|AF.step R R R (Aa (a:=rS j.Name) R A6 iL R R)<|AF.step R R R (fB R Jm iL fR R)<|AF.step R R R (Aa (a:=rS j.Value) R A6 iL R R) ?_
    refine AF.step R R R (Bj R Fg (q:=[(0,_),(1,_)]) (by exact⟨R,R,R,iL,R,R,R,iL,Za⟩) (cs:=[rS j.Name,rS j.Value])<|by rfl) ?_
    refine AF.nil<|AA.step R R R (ei 50 R Ay (f:=AC.row) (l:=([(AC.mk j.Name j.Value)]:List AC)) ⟨R,⟨_,iL,R⟩,Za⟩ R (λ_=>R) R)<|AA.nil ?_
    refine ZJ (by exact AZ.frz (e':=[(0,qf I),(4,.own 5004<|m 0),(5,.own 5005<|A 0),(7,.ptr 7 (m 2) 0 0),(8,rI k3),(13,rL I),(14,rI x2),(38,.own 5005<|A 0),(39,rI k3),(40,.own 5005<|A 0),(41,rI k3),(42,.ptr 5005 (A 0) k3.toNat 0),(43,.ptr 5005 (A 0) k3.toNat 3),(44,qa a0.Attrs),(45,.ptr 7 (m 2) 0 6),(46,rS j.Name),(47,.ptr 7 (m 2) 0 7),(48,rS j.Value),(49,.agg [rS j.Name,rS j.Value]),(50,.r<|.sl<|[(AC.mk j.Name j.Value)].map AC.row)]) (h':=[(7,some<|.box (m 2) 146<|Bm j),(5004,some<|.arr (m 0) 167 4<|w.map AE.row),(5005,some<|.arr (A 0) 167 4<|C.map AE.row)]) 50 R ⟨jL,jL,jL,jL,jL,jL,jL,jL,jL,jL,jL,jL,jL,jL,jL,jL,jL,jL,jL,.inl<|.inr<|.inr ⟨R,R⟩,Za⟩ ⟨R,.inl R,R,.inl R,R,.inl R,Za⟩) ?_
    exact AG bx λr1 bz c0=>sS R (BJ (r:=qa r1) (caps:=[]) (bs:=[qa a0.Attrs,.r<|.sl<|[(AC.mk j.Name j.Value)].map AC.row]) R iL R ⟨.inl ⟨iL,R⟩,.inl ⟨iL,R⟩,Za⟩ λ_=>PR<|bz)<|sQ R (Fs R BU.slice iL R iL λ_=>X)<|sQ R (GK (ob:=.arr _ _ _ _) R Kz iL fR R)<|Zl R R (SE (v:=(AE.mk a0.Item a0.Parent a0.Place r1)) R I2 iL R X iL R R R R)<|aZ<|bw _<|Zm<|a6 _ _ wk<|J4 _ _ (AH [(m 0),(A 0),((A 1)+1)]) (Zf c0).symm
   refine aC R (λah=>?_) λah=>?_
   ·have ai:=DN ah aw
    refine aU<|mM R<|sQ R (JL R BU.slice iL R)<|mA R<|aZ<|aR<|mM R<|lF Fa AJ R R ?_
    refine sQ R (Bj R RD (q:=[(0,_)]) (by exact⟨R,R,R,iL,Za⟩) (cs:=[rI j.Item,rI 0,.r<|.str [],cZ])<|by rfl) ?_
    exact sS R (BZ 36 R BU (f:=AE.row) (l:=([(AE.mk j.Item 0 [] [])]:List AE)) ⟨R,⟨_,iL,R⟩,Za⟩ R (λ_=>R) R)<|AG ai λaz a7 c1=>sS R (Cs R BU iL R (.inr<|.inl ⟨_,_,iL,R⟩) a7)<|mA R<|Zh<|ac _ _ wk<|J5 _ _ (AH [((m 2)+2),((m 2)+3)]) (Zf c1).symm
   ·have ai:=DH ah aw
    exact Zc<|ac _ _ wk<|J5 _ _ (AH [(m 1),((m 2)+1)]) (Zf ai).symm
  refine Zc<|bo _<|aT λc2=>aT λc4=>aG [0,4,5,7,13,14] [7,5004,5005] ?_
  refine aR<|lF G8 AJ R R<|lF Fa AJ R R<|xQ R<|mM R<|vF G8 AJ R R<|vQ R (Bh R (iR R) iL)<|vQ R (AK R<|iR R)<|wQ R (AK R iL)<|wQ R (fB R G8 iL fR R)<|wQ R (Aa (a:=rI j.Parent) R AJ (iR R) R R)<|wQ R (fB R Fa iL fR R)<|wQ R (Aa (a:=rI j.Item) R AJ (iR R) R R)<|AG ag λr2 c6 c7=>AX.stepW (.two R R R) R R (Cw (r:=rB r2) (caps:=[]) (bs:=[qg w,rI j.Parent,rI j.Item]) R iL R ⟨⟨_,(iR R),.one<|.own R⟩,⟨_,(iR R),.d R⟩,⟨_,(iR R),.d R⟩,Za⟩ (λhg=>jV<|Ad c6 hg) R)<|vQ R (Bb R (iR R)<|iR R)<|xO R<|aZ<|c4 _<|cI R c7 (λaj=>?_) λaj=>?_
  ·exact Zm<|a6 _ _ wk<|J4 _ _ (AH [(m 0),(m 1),((m 2)+1)]) (Zf aj).symm
  refine Zc<|c2 _<|aU<|mM R<|lF Fa AJ R R<|AG aj λk4 c8 ca=>cL (O1<|c8) R<|mA R<|aZ<|aS λcb cc ad=>aT λcd=>aG [0,4,5,7,9,13,14] [7,5004,5005] ?_
  refine aR<|mM R<|xS R<|aZ<|cd _<|IR ca λp4 ax cf=>?_
  have J6:∀(k5:Int) (F:List AE) (a1:NN),p4=(k5,F)→cb ⟨[(0,qf I),(4,.own 5004<|a1 0),(5,.own 5005<|m 1),(7,.ptr 7 (m 2) 0 0),(9,rI k5),(13,rL I),(14,rI x2)],[(7,some<|.box (m 2) 146<|Bm j),(5004,some<|.arr (a1 0) 167 4<|F.map AE.row),(5005,some<|.arr (m 1) 167 4<|B.map AE.row)],(a1 1),121⟩:=by
   intro k5 F a1 e
   have cg:=cf _ _ e
   refine cc _<|aR<|mM R<|mM R<|lF Fa AJ R R<|lF G8 AJ R R<|lF Lw A6 R R ?_
   refine sQ R (Bj R RD (q:=[(0,_),(1,_),(2,_)]) (by exact⟨R,R,R,iL,R,R,R,iL,R,R,R,iL,Za⟩) (cs:=[rI j.Item,rI j.Parent,rS j.Place,cZ])<|by rfl) ?_
   exact AG cg λcl ae ch=>sQ R (Fs R BU.slice iL R iL λ_=>ae)<|Zl R R (S9 (v:=(AE.mk j.Item j.Parent j.Place [])) R Ll iL R ae iL R R R R)<|Zh<|a6 _ _ wk<|J4 _ _ (AH [(a1 0),(m 1),(a1 1)]) (Zf ch).symm
  refine aC R (λak=>?_) λak=>?_
  ·have al:=DN ak ax
   refine aU<|mM R<|sQ R (JL R BU.slice iL R)<|mA R<|aZ<|aR<|mM R ?_
   refine sQ R (Bj R RD (q:=[]) (by exact Za) (cs:=Mb)<|by rfl) ?_
   exact sS R (BZ 82 R BU (f:=AE.row) (l:=([(AE.mk 0 0 [] [])]:List AE)) ⟨R,⟨_,iL,R⟩,Za⟩ R (λ_=>R) R)<|AG al λay a2 cj=>sS R (Cs R BU iL R (.inr<|.inl ⟨_,_,iL,R⟩) a2)<|mA R<|Zh<|ad _ _ wk<|J6 _ _ (AH [((m 2)+2),((m 2)+3)]) (Zf cj).symm
  ·have al:=DH ak ax
   exact Zc<|ad _ _ wk<|J6 _ _ (AH [(m 0),((m 2)+1)]) (Zf al).symm
 exact Zm<|b0 _ _ wk<|J1 _ _ (AH [(m 0),(m 1),(m 2)])<|xH bf af
theorem nz{self:(List AE)→(List AE)→Int→Option (List AE)}(M:∀ {A:List AE} {I:List AE} {j:Int} {r:(List AE)} {l:Nat},self A I j=some r→BC prog 158 1 [qg I,rI j,.own 1000 l] [(1000,some<|.arr l 167 4<|A.map AE.row)] (λrr h'=>∃(i:Nat→Nat),rr=.own 1000 (i 0)∧h'=[(1000,some<|.arr (i 0) 167 4<|r.map AE.row)])){A:List AE}{I:List AE}{j:Int}{r:(List AE)}{l:Nat}(h:Jc self A I j=some r):BC prog 158 1 [qg I,rI j,.own 1000 l] [(1000,some<|.arr l 167 4<|A.map AE.row)] (λrr h'=>∃(i:Nat→Nat),rr=.own 1000 (i 0)∧h'=[(1000,some<|.arr (i 0) 167 4<|r.map AE.row)]):=by
 unfold Jc at h
 refine Dx func158 R R ntmps158 (Zr R) λn0=>aU<|mA R<|aZ<|aU<|mA R<|mA R<|aZ<|Ze<|BM h λo1 a0 az a6=>J0 (λ(m:List UInt8) (q:Int) (w:List AE) B=>⟨[(0,qg I),(1,rI j),(2,.own 1000<|B 0),(7,rS m),(8,rI q)],[(1000,some<|.arr (B 0) 167 4<|w.map AE.row)],(B 1),100⟩) (AH [l,n0]) a0 wk ?_
 intro m q w B v1 a7 a8
 have h1:GS I j self m q w=some v1:=a7;unfold GS at h1
 refine Ze<|aU<|mA R<|aZ<|aS λK4 c4 aa=>aU<|mM R<|xL BU R<|mM R<|aZ<|Ze<|BS h1 λo2 a1 ab=>?_
 have J2:∀(C:Int) (i9:NN),o2=C→K4 ⟨[(0,qg I),(1,rI j),(2,.own 1000<|B 0),(9,rI C)],[(1000,some<|.arr (B 0) 167 4<|w.map AE.row)],(i9 0),100⟩:=by
  intro C i9 e
  have h2:=ab _ e
  refine c4 _<|aT λc6=>aU<|mM R<|xS R<|aZ<|cI R h2 (λh3=>?_) λh3=>?_
  ·refine aU<|mM R<|mA R<|aZ ?_
   exact Zi<|CE.mk (s':=⟨[(6,.own 1000<|B 0)],[(1000,some<|.arr (B 0) 167 4<|w.map AE.row)],(i9 0),100⟩) wk<|CP (λ(r:(List AE)) rr h'=>∃(i:Nat→Nat),rr=.own 1000 (i 0)∧h'=[(1000,some<|.arr (i 0) 167 4<|r.map AE.row)]) (a6 _<|xH a8 h3)<|by exact⟨.own 1000<|B 0,[(1000,some<|.arr (B 0) 167 4<|w.map AE.row)],R,⟨.inr R,Za⟩,R,R,AH [(B 0)],R,R⟩
  refine Zc<|c6 _<|aT λc9=>?_
  refine ZB BR (by kernel_rfl) ?_
  refine qP R (AK R iL)<|qP R (AK R iL)<|AG h3 λx4 O h4=>qP R (BB R BU.slice iL iL (λ_=>R) λ_=>O)<|qP R (BK R If iL)<|qP R (Bt (d:=.str x4.Place) R A6 iL R)<|qP R (AK R iL)<|qP R (AK R iL)<|qP R (BB R BU.slice iL iL (λ_=>R) λ_=>O)<|qP R (BK R Ec iL)<|qP R (Bt (d:=.int .i64 x4.Item) R AJ iL R)<|qP R (Ek R iL)<|qP R (Ek R iL)<|AQ.nil<|c9 _<|aG [0,1,2,7,8,9] [1000] ?_
  refine aR<|mM R<|mM R<|mM R<|mM R<|mM R<|xI BU R O<|xB ((CV x4)) G4 R<|sS R (BZ 97 R BU (f:=AE.row) (l:=([x4]:List AE)) ⟨R,⟨_,iL,R⟩,Za⟩ R (λ_=>R) R)<|AG h4 λl2 ac h5=>sS R (Cs R BU iL R (.inr<|.inl ⟨_,_,iL,R⟩) ac)<|AG h5 λw1 ad h6=>?_
  refine ZA [1000] (hc:=[(1000,some<|.arr ((i9 0)+1) 167 4<|l2.map AE.row)]) (bs:=[qg I,rI x4.Item,.own 1000<|(i9 0)+1]) (caps:=[]) R R R R iL R ⟨.inl ⟨iL,R⟩,.inl ⟨iL,R⟩,.inl ⟨iL,R⟩,Za⟩ ⟨R,R,R,Za⟩ (by decide) (M ad) ?_
  intro ae n1
  refine BV [0,1,7,8,9,90,91,93,94,95,96,97,99] [97,1000] ?_
  exact mA R<|Zh<|F9.mk h6 (AH [(ae 0),n1]) wk
 refine ZK (λ(E:Int) (x2:Int) X=>⟨[(0,qg I),(1,rI j),(2,.own 1000<|B 0),(7,rS m),(8,rI q),(9,rI E),(13,rL I),(14,rI x2)],[(1000,some<|.arr (B 0) 167 4<|w.map AE.row)],(X 0),100⟩) (AH [(B 1)]) a1 wk ?_
 intro E x2 X v2 af ag
 have h7:H8 I j m q E x2=some v2:=af;unfold H8 at h7
 refine aU<|xS R<|aZ<|aT λah=>cI R h7 (λh8=>?_) λh8=>?_
 ·refine Zc<|ah _<|aS λai aj J=>Ze<|BS h8 λp1 ak al=>?_
  have J3:∀(F:Int) (T:NN),p1=F→ai ⟨[(0,qg I),(1,rI j),(2,.own 1000<|B 0),(7,rS m),(8,rI q),(9,rI F),(13,rL I),(14,rI x2)],[(1000,some<|.arr (B 0) 167 4<|w.map AE.row)],(T 0),100⟩:=by
   intro F T e
   have h9:=al _ e
   exact aj _<|aR<|AG h9 λx5 an ao=>xA R an<|mM R<|Zh<|ZI ao (AH [(T 0)]) wk
  refine aU<|mM R<|mA R<|aZ<|aU<|mM R<|mM R<|AG ak λZ aq ar=>xI BU R aq<|xB ((CV Z)) G4 R<|sS R (BH (cs:=Mb) 11 R Ov R R)<|Zl R R (A4 (ds:=(CV Z)) R Ll iL R iL R R R R)<|aZ<|aT λau=>aU<|lF Mg AJ R R<|mM R<|xU R<|mM R<|vF If A6 R R<|vM R<|vQ R (N5 R (iR R)<|iR R)<|xO R<|mM R<|vF If A6 R R<|vM R<|vQ R (Dp R (iR R)<|iR R)<|vQ R (AK R<|iR R)<|wQ R (fB R Ec iL fR R)<|wQ R (Aa (a:=rI Z.Item) R AJ (iR R) R R)<|wQ R (AK R iL)<|wQ R (FG R (iR R)<|iR R)<|vQ R (Bb R (iR R)<|iR R)<|xO R<|aZ<|cI R ar (λU=>?_) λU=>?_
  ·exact Zm<|J _ _ wk<|J3 _ (AH [((X 0)+1)]) (Zf U).symm
  refine Zc<|au _<|aT λav=>aG [0,1,2,7,8,9,10,11,13,14] [11,1000] ?_
  refine ZB BR (by kernel_rfl) ?_
  refine qP R (AK R iL)<|qP R (CN R iL iL)<|qP R (AK R iL)<|qO R (fB R If iL fR R)<|qO R (Aa (a:=rS Z.Place) R A6 (iR R) R R)<|qO R (AK R iL)<|qO R (AK R iL)<|AG U λx7 aw ax=>qO R (BB R BU.slice (iR R) (iR R) (λ_=>R)<|Ad aw)<|qO R (BK R If<|iR R)<|qO R (Bt (d:=.str x7.Place) R A6 (iR R) R)<|qO R (N5 R (iR R)<|iR R)<|qP R (CZ R iL<|iR R)<|qP R (AK R iL)<|qO R (fB R If iL fR R)<|qO R (Aa (a:=rS Z.Place) R A6 (iR R) R R)<|qO R (AK R iL)<|qO R (AK R iL)<|AG ax λx8 a2 ay=>qO R (BB R BU.slice (iR R) (iR R) (λ_=>R)<|Ad a2)<|qO R (BK R If<|iR R)<|qO R (Bt (d:=.str x8.Place) R A6 (iR R) R)<|qO R (Dp R (iR R)<|iR R)<|qO R (AK R<|iR R)<|qT R (fB R Ec iL fR R)<|qT R (Aa (a:=rI Z.Item) R AJ (iR R) R R)<|qT R (AK R iL)<|qT R (AK R iL)<|qT R (BB R BU.slice (iR R) (iR R) (λ_=>R) λh=>Ad a2 (tc.1 h).1)<|qT R (BK R Ec<|iR R)<|qT R (Bt (d:=.int .i64 x8.Item) R AJ (iR R) R)<|qT R (CN R (iR R)<|iR R)<|qO R (Bb R (iR R)<|iR R)<|qP R (CZ R iL<|iR R)<|AQ.nil<|av _<|cI R ay (λV=>?_) λV=>?_
  ·exact aR<|mM R<|mA R<|Zh<|J _ _ wk<|J3 _ (AH [((X 0)+1)]) (Zf V).symm
  exact Zc<|J _ _ wk<|J3 _ (AH [((X 0)+1)]) (Zf V).symm
 exact Zm<|aa _ _ wk<|J2 _ (AH [(X 0)])<|xH ag h8
theorem qB(n:Nat):∀ {m:List AE} {q:List AE} {j:Int} {r:(List AE)} {l:Nat},Dn n m q j=some r→BC prog 158 1 [qg q,rI j,.own 1000 l] [(1000,some<|.arr l 167 4<|m.map AE.row)] (λw h'=>∃(i:Nat→Nat),w=.own 1000 (i 0)∧h'=[(1000,some<|.arr (i 0) 167 4<|r.map AE.row)]):=by
 induction n with
 | zero=>intro m q j r l h;exact absurd (show(none:Option ((List AE)))=some r from h)<|by simp
 | succ n A=>intro m q j r l h;exact nz (self:=λm q j=>Dn n m q j) (λB=>A B) h
theorem iS{m:List AE}{q:List AE}{j:Int}{r:(List AE)}{l:Nat}(h:OJ m q j=some r):BC prog 158 1 [qg q,rI j,.own 1000 l] [(1000,some<|.arr l 167 4<|m.map AE.row)] (λA h'=>∃(i:Nat→Nat),A=.own 1000 (i 0)∧h'=[(1000,some<|.arr (i 0) 167 4<|r.map AE.row)]):=by
 unfold OJ at h
 by_cases w:∃n r,Dn n m q j=some r
 ·rw[uB w] at h;exact qB _ h
 ·rw[dif_neg w] at h;cases h
theorem ik{l1 r}(h:Iz l1=some r):AR prog 135 [qf l1] (.tup [qg r.1,rI r.2]):=by
 unfold Iz at h
 refine mF func135 ntmps135 R λn0=>aU<|mA R<|mA R<|aZ<|aU<|mM R<|Ed h λB r2 a0 h1=>sS R (BJ (r:=.tup [qg B,qg r2]) (caps:=[]) (bs:=[qf l1]) R iL R ⟨.inl ⟨iL,R⟩,Za⟩ λ_=>nV<|a0)<|mM R<|xX R<|xX R<|mA R<|mA R<|aZ<|aT λc3=>aF [4] ?_
 refine aR<|mM R<|AG h1 λF a1 h2=>?_
 refine Zb 7918 167 4 R [7918] (hc:=[(1000,some<|.arr n0 167 4<|([]:List AE).map AE.row)]) (bs:=[qg B,rI 0,.own 1000 n0]) (caps:=[]) R R R R iL R ⟨.inl<|.inl ⟨iL,R⟩,.inl<|.inl ⟨iL,R⟩,.inr ⟨iL,R,R⟩,Za⟩ ⟨R,R,R,Za⟩ (by decide) (iS a1) ?_
 intro i1 n1
 refine BV [4,17,18] [7918] ?_
 refine mA R<|aZ<|c3 _<|aU<|mM R<|sQ R (JL R BU.slice iL R)<|mA R<|aZ<|aU<|mA R<|aZ<|Ze<|BM h2 λo1 O ay a2=>ZK (λ(j:Int) (l:List AE) A=>⟨[(4,qg B),(6,.own 7918<|A 0),(7,rL F),(8,rI j)],[(7918,some<|.arr (A 0) 167 4<|l.map AE.row)],(A 1),73⟩) (AH [(i1 0),n1]) O wk ?_
 intro j l A v1 a6 a7
 have h3:H9 B F j l=some v1:=a6;unfold H9 at h3
 refine Ze<|aU<|mA R<|aZ<|aS λK7 c7 a8=>aU<|mM R<|xL BU R<|mM R<|aZ<|Ze<|BS h3 λo2 T aa=>?_
 have J2:∀(m:Int) (C:NN),o2=m→K7 ⟨[(4,qg B),(6,.own 7918<|A 0),(7,rL F),(9,rI m)],[(7918,some<|.arr (A 0) 167 4<|l.map AE.row)],(C 0),73⟩:=by
  intro m C e
  have h4:=aa _ e
  refine c7 _<|aT λc9=>aU<|mM R<|xS R<|aZ<|cI R h4 (λh5=>?_) λh5=>?_
  ·exact aU<|mM R<|mM R<|mA R<|mA R<|aZ<|Zi<|DC (P:=prog) (λ(r:(List AE) × Int)=>qg r.1) (λ(r:(List AE) × Int)=>rI r.2) (a2 _<|xH a7 h5) iL (.t<|.one<|.own R)<|.t<|.d R
  exact Zc<|c9 _<|aU<|mM R<|mM R<|AG h5 λx4 U h6=>xI BU R U<|sQ R (BK R Ec iL)<|xV (.int .i64 x4.Item) AJ R<|mA R<|aZ<|aR<|mM R<|mM R<|mM R<|xI BU R U<|xB ((CV x4)) G4 R<|sS R (BZ 71 R BU (f:=AE.row) (l:=([x4]:List AE)) ⟨R,⟨_,iL,R⟩,Za⟩ R (λ_=>R) R)<|AG h6 λax I h7=>sS R (Cs R BU iL R (.inr<|.inl ⟨_,_,iL,R⟩) I)<|mA R<|Zh<|ZI h7 (AH [((C 0)+1),((C 0)+2)]) wk
 refine ZK (λ(q:Int) (Z:Int) i8=>⟨[(4,qg B),(6,.own 7918<|A 0),(7,rL F),(8,rI j),(9,rI q),(22,rL B),(23,rI Z)],[(7918,some<|.arr (A 0) 167 4<|l.map AE.row)],(i8 0),73⟩) (AH [(A 1)]) T wk ?_
 intro q Z i8 v2 ab ac
 have h8:Iy B F j l q Z=some v2:=ab;unfold Iy at h8
 refine aU<|xS R<|aZ<|aT λad=>cI R h8 (λh9=>?_) λh9=>?_
 ·refine Zc<|ad _<|aS λae af E=>Ze<|BS h9 λp1 ag ah=>?_
  have J3:∀(w:Int) (J:NN),p1=w→ae ⟨[(4,qg B),(6,.own 7918<|A 0),(7,rL F),(8,rI j),(9,rI w),(22,rL B),(23,rI Z)],[(7918,some<|.arr (A 0) 167 4<|l.map AE.row)],(J 0),73⟩:=by
   intro w J e
   have ai:=ah _ e
   exact af _<|aR<|AG ai λx5 aj ak=>xA R aj<|mM R<|Zh<|ZI ak (AH [(J 0)]) wk
  refine aU<|mM R<|mA R<|aZ<|aU<|mM R<|mM R<|AG ag λx6 al an=>xI BU R al<|sQ R (BK R Ec iL)<|xV (.int .i64 x6.Item) AJ R<|mA R<|aZ<|aT λao=>aR<|mM R<|mM R<|sQ R (Bh R iL iL)<|mM R<|vM R<|vM R<|AG an λl2 V aq=>vQ R (bN R BU.slice (iR R) R ⟨_,(iR R)⟩<|Ad V)<|vM R<|AG aq λr3 ar au=>AX.stepW (.one R R R) R R (Cw (r:=rI r3) (caps:=[]) (bs:=[.r<|.sl<|(l.take (F.length:Int).toNat).map AE.row,rI x6.Item]) R iL R ⟨⟨_,(iR R),.one<|.pre R R⟩,⟨_,(iR R),.d R⟩,Za⟩ (λX=>(pl<|(Ad V) X) ▸ (λhg=>O1<|Ad ar hg) X) R)<|vQ R (CN R (iR R) iL)<|xN R<|mM R<|vM R<|vQ R (CN R (iR R) iL)<|vQ R (AK R<|iR R)<|wQ R (AK R iL)<|wQ R (AK R iL)<|wQ R (AK R iL)<|AG au λx7 av aw=>wQ R (BB R BU.slice (iR R) (iR R) (λ_=>R)<|Ad av)<|wQ R (BK R Ec<|iR R)<|wQ R (Bt (d:=.int .i64 x7.Item) R AJ (iR R) R)<|wQ R (CN R (iR R)<|iR R)<|vQ R (CZ R (iR R)<|iR R)<|xN R<|aZ<|ao _<|cI R aw (λM=>?_) λM=>?_
  ·refine aG [4,6,7,8,10,22,23] [7918] ?_
   exact aR<|mM R<|mA R<|Zh<|E _ _ wk<|J3 _ (AH [(i8 0)]) (Zf M).symm
  exact Zc<|E _ _ wk<|J3 _ (AH [(i8 0)]) (Zf M).symm
 exact Zm<|a8 _ _ wk<|J2 _ (AH [(i8 0)])<|xH ac h9
theorem JX{j n r}(h:Fb j n=some r):AR prog 15 [qa j,rS n] (rS r):=by
 unfold Fb at h
 refine mF func15 ntmps15 R λZ=>aU<|mA R<|aZ<|aS λK2 c2 A=>aU<|mM R<|xL Ay R<|mM R<|aZ<|Ze<|BM h λo1 l B C=>?_
 have J1:∀(T:Unit) (U:NN),o1=.nrm T→K2 ⟨[],[],(U 0),24⟩:=by
  intro T U e
  have h1:=B _ e
  exact c2 _<|aU<|mA R<|aZ<|Zi<|Bz (P:=prog) (λ(r:(List UInt8))=>rS r) h1 iL<|.t<|.d R
 refine Zt (λ(E:Int) w=>⟨[(0,qa j),(1,rS n),(7,rL j),(8,rI E)],[],(w 0),24⟩) (AH [Z]) l wk ?_
 intro E w v1 F m
 have V:NY j n E=some v1:=F;unfold NY at V
 refine aU<|xS R<|aZ<|aT λc6=>cI R V (λI=>?_) λI=>?_
 ·refine Zc<|c6 _<|aT λc7=>Ze<|aU<|mM R<|mA R<|aZ<|aU<|mM R<|mM R<|AG I λX q h4=>xI Ay R q<|sQ R (BK R Cz iL)<|xV (.str X.Name) A6 R<|mM R<|sQ R (Dp R iL iL)<|aZ<|cI R h4 (λJ=>?_) λJ=>?_
  ·refine aT λM=>aF [0,5] ?_
   exact aR<|mM R<|mM R<|xI Ay R q<|sQ R (BK R Hk iL)<|xV (.str X.Value) A6 R<|mA R<|aZ<|M _<|Zi<|Bz (P:=prog) (λ(r:(List UInt8))=>rS r) (C _<|xH m J) iL<|.t<|.d R
  refine Zc<|c7 _<|aF [0,1,7,8] ?_
  exact aR<|AG J λx5 O h6=>xA R O<|mM R<|Zh<|Zq h6 (AH [(w 0)]) wk
 exact Zm<|A _ _ wk<|J1 _ (AH [(w 0)])<|xH m I
theorem cA{l r}(h:Pk l=some r):AR prog 136 [rS l] (rI r):=by
 unfold Pk at h
 refine mF func136 ntmps136 R λn0=>aU<|mA R<|aZ<|aT λc2=>aU<|mM R<|sQ R (Dp R iL iL)<|mM R<|vM R<|vQ R (DJ R underlying9<|iR R)<|vQ R (Bh R (iR R) iL)<|xO R<|mM R<|vM R<|AG h λa7 m h1=>vQ R (Ck R underlying9 (iR R) iL<|Ad m)<|vQ R (A9 R (iR R) iL)<|vQ R (AK R<|iR R)<|wQ R (AK R iL)<|wQ R (DJ R underlying9<|iR R)<|wQ R (Bh R (iR R) iL)<|vQ R (Bb R (iR R)<|iR R)<|xO R<|aZ<|cI R h1 (λB=>?_) λB=>?_
 ·exact zI B R id
 refine Zc<|c2 _<|aT λc5=>aF [0] ?_
 refine aR<|mA R<|aZ<|c5 _<|aS λK6 c6 C=>aU<|mM R<|sQ R (DJ R underlying9 iL)<|mM R<|aZ<|Ze<|BM B λo1 q E F=>?_
 have J1:∀(I:Int) (i5:NN),o1=.nrm I→K6 ⟨[(3,rI I)],[],(i5 0),47⟩:=by
  intro I i5 e
  have h3:=E _ e
  exact c6 _<|aU<|mM R<|mA R<|aZ<|Zi<|yI h3 R
 refine ZK (λ(J:Int) (M:Int) A=>⟨[(0,rS l),(3,rI J),(23,rL l),(24,rI M)],[],(A 0),47⟩) (AH [n0]) q wk ?_
 intro J M A v1 O w
 have h4:Hp l J M=some v1:=O;unfold Hp at h4
 refine aU<|xS R<|aZ<|aT λT=>cI R h4 (λU=>?_) λU=>?_
 ·refine Zc<|T _<|aT λV=>Ze<|aU<|mM R<|mA R<|aZ<|aT λX=>aU<|mM R<|mM R<|AG U λa8 j h6=>sQ R (Ck R underlying9 iL iL λ_=>j)<|xS R<|mM R<|vM R<|vM R<|vQ R (Ck R underlying9 (iR R) (iR R) λ_=>j)<|vQ R (Bh R (iR R) iL)<|xO R<|aZ<|cI R h6 (λZ=>?_) λZ=>?_
  ·exact zI (F _<|xH w Z) R id
  refine Zc<|X _<|aR<|mM R<|AG Z λx4 a0 h8=>sQ R (pe R iL iL λ_=>a0)<|mM R<|mM R<|sQ R (Ck R underlying9 iL iL λ_=>j)<|sQ R (eF R iL iL)<|sQ R (Ea R underlying5 underlying3 iL)<|AG h8 λn5 a1 h9=>xA R a1<|mA R<|aZ<|V _<|aF [0,3,23,24] ?_
  exact aR<|AG h9 λx5 a2 a6=>xA R a2<|mM R<|Zh<|ZI a6 (AH [(A 0)]) wk
 exact Zm<|C _ _ wk<|J1 _ (AH [(A 0)])<|xH w U
theorem cN{self:(List Ac)→AP→Ac→Option (List Ac)}(J:∀ {q:List Ac} {d1:AP} {m:Ac} {r:(List Ac)} {j:Nat},self q d1 m=some r→BC prog 102 1 [.agg [qb d1.Nodes],.agg<|E7 m,.own 1000 j] [(1000,some<|.arr j 105 3<|q.map Ac.row)] (λrr h'=>∃(i:Nat→Nat),rr=.own 1000 (i 0)∧h'=[(1000,some<|.arr (i 0) 105 3<|r.map Ac.row)])){q:List Ac}{d1:AP}{m:Ac}{r:(List Ac)}{j:Nat}(h:Jr self q d1 m=some r):BC prog 102 1 [.agg [qb d1.Nodes],.agg<|E7 m,.own 1000 j] [(1000,some<|.arr j 105 3<|q.map Ac.row)] (λrr h'=>∃(i:Nat→Nat),rr=.own 1000 (i 0)∧h'=[(1000,some<|.arr (i 0) 105 3<|r.map Ac.row)]):=by
 unfold Jr at h
 refine Dx func102 R R ntmps102 (Zr R) λl=>aU<|sS R (At (cs:=[qb d1.Nodes]) 3 R iL R R)<|sS R (At (cs:=(E7 m)) 4 R iL R R)<|mA R<|aZ<|aT λc2=>aU<|mM R<|lF KQ AJ R R<|AG h λr1 b2 h1=>cL (mx<|b2) R<|sQ R (Cq R iL iL)<|aZ<|cI R h1 (λh2=>?_) λh2=>?_
 ·refine aT λc4=>aG [2] [1000] ?_
  refine aR<|mM R<|mA R<|oZ c4 ?_
  exact Zi<|CE.mk (s':=⟨[(6,.own 1000 j)],[(1000,some<|.arr j 105 3<|q.map Ac.row)],(l+2),157⟩) wk<|CP (λ(r:(List Ac)) rr h'=>∃(i:Nat→Nat),rr=.own 1000 (i 0)∧h'=[(1000,some<|.arr (i 0) 105 3<|r.map Ac.row)]) h2<|by exact⟨.own 1000 j,[(1000,some<|.arr j 105 3<|q.map Ac.row)],R,⟨.inr R,Za⟩,R,R,AH [j],R,R⟩
 refine Zc<|c2 _<|aU<|mM R<|xC jg R<|sS R (BZ 25 R LZ (f:=Ac.row) (l:=([m]:List Ac)) ⟨R,⟨_,iL,R⟩,Za⟩ R (λ_=>R) R)<|AG h2 λd2 ac h3=>sS R (Cs R LZ iL R (.inr<|.inl ⟨_,_,iL,R⟩) ac)<|mA R<|aZ<|aT λc6=>aG [2,3,4] [3,4,1000] ?_
 refine AG h3 λr2 b3 h4=>AG h4 λA b4 h5=>?_
 refine Iw 9 [pO 27<|.ptr 3 l 0 0,pO 28<|qb d1.Nodes,pO 29<|.agg [qb d1.Nodes],pO 30<|.ptr 4 (l+1) 0 0,pO 31<|rI m.ID,pO 32<|rI r2,pO 33<|.rop (AI.row A) 0,pO 34<|.agg<|Af A,⟨some 7,(λI=>.ptr 7 (I 8) 0 0),some (7,(λI=>some<|.box (I 8) 54 De)),[8]⟩] BR (by kernel_rfl) (by exact⟨λ_ _ h=>⟨R,λ_ _ e=>by cases e⟩,λ_ _ h=>⟨R,λ_ _ e=>by cases e⟩,λ_ _ h=>⟨R,λ_ _ e=>by cases e⟩,λ_ _ h=>⟨R,λ_ _ e=>by cases e⟩,λ_ _ h=>⟨R,λ_ _ e=>by cases e⟩,λ_ _ h=>⟨R,λ_ _ e=>by cases e⟩,λ_ _ h=>⟨R,λ_ _ e=>by cases e⟩,λ_ _ h=>⟨R,λ_ _ e=>by cases e⟩,λ_ _ h=>⟨by simp only[h 8 R],λ_ _ e=>by cases e;simp only[h 8 R]⟩,Za⟩) R (by exact⟨oB [(3,.ptr 3 l 0 0)] [(3,some<|.box l 24 [qb d1.Nodes])]<|fB R CH (.inl R) (λ_=>R) R,oB [(27,.ptr 3 l 0 0)] [(3,some<|.box l 24 [qb d1.Nodes])]<|Aa (a:=qb d1.Nodes) R B7 (.inl R) R R,oB [(3,.ptr 3 l 0 0)] [(3,some<|.box l 24 [qb d1.Nodes])]<|DG R Bs (.inl R) R R,oB [(4,.ptr 4 (l+1) 0 0)] [(4,some<|.box (l+1) 105<|E7 m)]<|fB R KQ (.inl R) (λ_=>R) R,oB [(30,.ptr 4 (l+1) 0 0)] [(4,some<|.box (l+1) 105<|E7 m)]<|Aa (a:=rI m.ID) R AJ (.inl R) R R,oD (λ_=>[(29,.agg [qb d1.Nodes]),(31,rI m.ID)]) (λ_=>[]) λI e h' n=>Cw (r:=rI r2) (caps:=[]) (bs:=[.agg [qb d1.Nodes],rI m.ID]) R (.inl R) R ⟨⟨_,(.inl R),.g (cs:=[.sl<|d1.Nodes.map AI.row]) R R⟩,⟨_,(.inl R),.d R⟩,Za⟩ (λ_=>QM<|b3) R,oB [(28,qb d1.Nodes),(32,rI r2)] []<|BB R A8.slice (.inl R) (.inl R) (λ_=>R) λ_=>b4,oB [(33,.rop (AI.row A) 0)] []<|Ce (cs:=(Af A)) R Cf (.inl R) R R,oM (λ_=>[]) (λ_=>[]) R λI e h' n=>BH (cs:=De) 7 R GA R R,Za⟩) λI n1=>?_
 refine BV [2,3,4,7,27,28,29,30,31,32,33,34] [3,4,7,1000] ?_
 refine Zl R R (A4 (ds:=(Af A)) R E8 iL R iL R R R R)<|aZ<|c6 _<|aS λK7 c7 b5=>aU<|lF ET E0 R R<|xL Bu R<|mM R<|aZ<|Ze<|BS h5 λo1 aj b6=>?_
 have J1:∀(a2:List Ac) (i5:NN),o1=a2→K7 ⟨[(2,.own 1000<|i5 0),(3,.ptr 3 l 0 0),(4,.ptr 4 (l+1) 0 0),(7,.ptr 7 (I 8) 0 0)],[(3,some<|.box l 24 [qb d1.Nodes]),(4,some<|.box (l+1) 105<|E7 m),(7,some<|.box (I 8) 54<|Af A),(1000,some<|.arr (i5 0) 105 3<|a2.map Ac.row)],(i5 1),157⟩:=by
  intro a2 i5 e
  have h6:=b6 _ e
  refine c7 _<|aS λK9 c9 b7=>aU<|sQ R (fB R EH iL fR R)<|lF D4 EK R R<|xL B8 R<|mM R<|aZ<|Ze<|BS h6 λo2 ak b8=>?_
  have J2:∀(M:List Ac) (Z:NN),o2=M→K9 ⟨[(2,.own 1000<|Z 0),(3,.ptr 3 l 0 0),(4,.ptr 4 (l+1) 0 0),(7,.ptr 7 (I 8) 0 0)],[(3,some<|.box l 24 [qb d1.Nodes]),(4,some<|.box (l+1) 105<|E7 m),(7,some<|.box (I 8) 54<|Af A),(1000,some<|.arr (Z 0) 105 3<|M.map Ac.row)],(Z 1),157⟩:=by
   intro M Z e
   have h7:=b8 _ e
   refine c9 _<|aU<|lF GW HA R R<|Ed h7 λr3 r4 b9 h8=>sS R (BJ (r:=.tup [qg r3,rI r4]) (caps:=[]) (bs:=[qf A.Draw]) R iL R ⟨.inl ⟨iL,R⟩,Za⟩ λ_=>ik<|b9)<|mM R<|xX R<|xX R<|mA R<|mA R<|aZ<|aS λba bb al=>aU<|mM R<|mM R<|aZ<|Ze<|BS h8 λo3 an bc=>?_
   have J3:∀(w:List Ac) (B:NN),o3=w→ba ⟨[(2,.own 1000<|B 0)],[(1000,some<|.arr (B 0) 105 3<|w.map Ac.row)],(B 1),157⟩:=by
    intro w B e
    have h9:=bc _ e
    refine bb _<|aU<|mM R<|mA R<|aZ ?_
    exact Zi<|CE.mk (s':=⟨[(6,.own 1000<|B 0)],[(1000,some<|.arr (B 0) 105 3<|w.map Ac.row)],(B 1),157⟩) wk<|CP (λ(r:(List Ac)) rr h'=>∃(i:Nat→Nat),rr=.own 1000 (i 0)∧h'=[(1000,some<|.arr (i 0) 105 3<|r.map Ac.row)]) h9<|by exact⟨.own 1000<|B 0,[(1000,some<|.arr (B 0) 105 3<|w.map Ac.row)],R,⟨.inr R,Za⟩,R,R,AH [(B 0)],R,R⟩
   refine ZK (λ(x9:Int) (F:List Ac) C=>⟨[(2,.own 1000<|C 0),(3,.ptr 3 l 0 0),(4,.ptr 4 (l+1) 0 0),(12,qg r3),(117,rI r4),(118,rI x9)],[(3,some<|.box l 24 [qb d1.Nodes]),(4,some<|.box (l+1) 105<|E7 m),(1000,some<|.arr (C 0) 105 3<|F.map Ac.row)],(C 1),157⟩) (AH [(Z 0),(Z 1)]) an wk ?_
   intro x9 F C v1 bd be
   have ao:F3 d1 m self r3 r4 x9 F=some v1:=bd;unfold F3 at ao
   refine aU<|xS R<|aZ<|aT λbf=>cI R ao (λad=>?_) λad=>?_
   ·refine Zc<|bf _<|aS λbg bh a7=>Ze<|BS ad λp1 bi bj=>?_
    have J4:∀(O:List Ac) (i16:NN),p1=O→bg ⟨[(2,.own 1000<|i16 0),(3,.ptr 3 l 0 0),(4,.ptr 4 (l+1) 0 0),(12,qg r3),(117,rI r4),(118,rI x9)],[(3,some<|.box l 24 [qb d1.Nodes]),(4,some<|.box (l+1) 105<|E7 m),(1000,some<|.arr (i16 0) 105 3<|O.map Ac.row)],(i16 1),157⟩:=by
     intro O i16 e
     have bk:=bj _ e
     exact bh _<|aR<|AG bk λd3 aq bl=>xA R aq<|mM R<|Zh<|ZI bl (AH [(i16 0),(i16 1)]) wk
    refine aU<|mM R<|mA R<|aZ<|aU<|mM R<|mM R<|AG bi λbm ar bn=>xI BU R ar<|sQ R (BK R Kz iL)<|xV (.sl<|bm.Attrs.map AC.row) Bw R<|AG bn λr5 bo bp=>cL (JX<|bo) R<|AG bp λau av bq=>cL (cA<|av) R<|mA R<|aZ<|aT λbr=>aG [2,3,4,12,15,117,118] [3,4,1000] ?_
    refine aR<|xC Bs R<|mM R<|AG bq λk1 bs bt=>cL (QM<|bs) R<|mA R<|aZ<|br _<|aU<|mM R<|sQ R (Bh R iL iL)<|mM R<|vM R<|vQ R (Cq R (iR R) iL)<|xN R<|mM R<|vF CH B7 R R<|vM R<|AG bt λbu aw bv=>vQ R (BB R A8.slice (iR R) (iR R) (λ_=>R)<|Ad aw)<|vQ R (BK R Cd<|iR R)<|vQ R (Bt (d:=.int .i64 bu.Kind) R AJ (iR R) R)<|vQ R (A9 R (iR R) iL)<|xN R<|aZ<|cI R bv (λae=>?_) λae=>?_
    ·refine aG [2,3,4,12,15,117,118] [3,4,1000] ?_
     refine aR<|xC Bs R<|mM R<|lF KQ AJ R R<|lF S5 Ms R R ?_
     refine sQ R (Bj R QC (q:=[(0,_),(1,_),(2,_)]) (by exact⟨R,R,R,iL,R,R,R,iL,R,R,R,iL,Za⟩) (cs:=[rI au,rI m.ID,rB m.Visible])<|by rfl) ?_
     refine mM R<|AG ae λw1 bw bx=>?_
     refine ZA [1000] (hc:=[(1000,some<|.arr (C 0) 105 3<|F.map Ac.row)]) (bs:=[.agg [qb d1.Nodes],.agg [rI au,rI m.ID,rB m.Visible],.own 1000<|C 0]) (caps:=[]) R R R R iL R ⟨.inl ⟨iL,R⟩,.inl ⟨iL,R⟩,.inl ⟨iL,R⟩,Za⟩ ⟨R,R,R,Za⟩ (by decide) (J bw) ?_
     intro bz n2
     refine BV [3,4,12,15,117,118,146,147,148,149,150,151,152,154] [3,4,1000] ?_
     exact mA R<|Zh<|a7 _ _ wk<|J4 _ (AH [(bz 0),n2]) (Zf bx).symm
    exact Zc<|a7 _ _ wk<|J4 _ (AH [(C 0),(C 1)]) (Zf ae).symm
   exact Zm<|al _ _ wk<|J3 _ (AH [(C 0),(C 1)])<|xH be ad
  refine ZK (λ(x6:Int) (V:List Ac) i8=>⟨[(2,.own 1000<|i8 0),(3,.ptr 3 l 0 0),(4,.ptr 4 (l+1) 0 0),(7,.ptr 7 (I 8) 0 0),(66,rL A.Grid.Cells),(67,rI x6)],[(3,some<|.box l 24 [qb d1.Nodes]),(4,some<|.box (l+1) 105<|E7 m),(7,some<|.box (I 8) 54<|Af A),(1000,some<|.arr (i8 0) 105 3<|V.map Ac.row)],(i8 1),157⟩) (AH [(i5 0),(i5 1)]) ak wk ?_
  intro x6 V i8 v2 c0 c1
  have ax:F0 d1 m self A x6 V=some v2:=c0;unfold F0 at ax
  refine aU<|xS R<|aZ<|aT λc3=>cI R ax (λaf=>?_) λaf=>?_
  ·refine Zc<|c3 _<|aS λc5 c8 a8=>Ze<|BS af λp2 ca cb=>?_
   have J5:∀(T:List Ac) (a0:NN),p2=T→c5 ⟨[(2,.own 1000<|a0 0),(3,.ptr 3 l 0 0),(4,.ptr 4 (l+1) 0 0),(7,.ptr 7 (I 8) 0 0),(66,rL A.Grid.Cells),(67,rI x6)],[(3,some<|.box l 24 [qb d1.Nodes]),(4,some<|.box (l+1) 105<|E7 m),(7,some<|.box (I 8) 54<|Af A),(1000,some<|.arr (a0 0) 105 3<|T.map Ac.row)],(a0 1),157⟩:=by
    intro T a0 e
    have cc:=cb _ e
    exact c8 _<|aR<|AG cc λd4 ay cd=>xA R ay<|mM R<|Zh<|ZI cd (AH [(a0 0),(a0 1)]) wk
   refine aU<|mM R<|mA R<|aZ<|aU<|sQ R (fB R EH iL fR R)<|lF D4 EK R R<|mM R<|AG ca λE az cf=>xI B8 R az<|xB ((Be E)) Er R<|sS R (BH (cs:=Hw) 10 R Iq R R)<|Zl R R (A4 (ds:=(Be E)) R IN iL R iL R R R R)<|aZ<|aT λcg=>aG [2,3,4,7,10,66,67] [3,4,7,10,1000] ?_
   refine aR<|lF EA AJ R R<|xU R<|aZ<|cg _<|cI R cf (λag=>?_) λag=>?_
   ·refine aU<|sQ R (fB R EH iL fR R)<|sQ R (IO (ds:=(CG A.Grid)) R HV iL R R R)<|lF Ei AJ R R<|lF FA AJ R R<|AG ag λr6 ch cj=>sS R (BJ (r:=.agg<|BA r6) (caps:=[]) (bs:=[.agg<|CG A.Grid,rI E.Row,rI E.Col]) R iL R ⟨.inl ⟨iL,R⟩,.inl ⟨iL,R⟩,.inl ⟨iL,R⟩,Za⟩ λ_=>mt<|ch)<|sS R (BH (cs:=Fr) 11 R H0 R R)<|Zl R R (A4 (ds:=(BA r6)) R HL iL R iL R R R R)<|aZ<|aG [2,3,4,7,10,11,66,67] [3,4,7,10,11,1000] ?_
    refine aR<|xC Bs R<|lF EA AJ R R<|lF KQ AJ R R<|lF S5 Ms R R<|mM R<|vF Ct AJ R R<|vF Ei AJ R R<|vQ R (A9 R (iR R)<|iR R)<|xN R<|mM R<|vF DW AJ R R<|vF FA AJ R R<|vQ R (A9 R (iR R)<|iR R)<|xN R ?_
    refine sQ R (Bj R QC (q:=[(0,_),(1,_),(2,_)]) (by exact⟨R,R,R,iL,R,R,R,iL,R,R,R,iL,Za⟩) (cs:=[rI E.Ref,rI m.ID,rB<|((m.Visible&&(r6.Row=E.Row))&&(r6.Col=E.Col))])<|by rfl) ?_
    refine mM R<|AG cj λw2 ck cl=>?_
    refine ZA [1000] (hc:=[(1000,some<|.arr (i8 0) 105 3<|V.map Ac.row)]) (bs:=[.agg [qb d1.Nodes],.agg [rI E.Ref,rI m.ID,rB<|((m.Visible&&(r6.Row=E.Row))&&(r6.Col=E.Col))],.own 1000<|i8 0]) (caps:=[]) R R R R iL R ⟨.inl ⟨iL,R⟩,.inl ⟨iL,R⟩,.inl ⟨iL,R⟩,Za⟩ ⟨R,R,R,Za⟩ (by decide) (J ck) ?_
    intro cm n3
    refine BV [3,4,7,10,11,66,67,86,87,88,89,90,91,92,93,99,100,106,107,109] [3,4,7,10,11,1000] ?_
    exact mA R<|Zh<|a8 _ _ wk<|J5 _ (AH [(cm 0),n3]) (Zf cl).symm
   exact Zc<|a8 _ _ wk<|J5 _ (AH [(i8 0),((i8 1)+1)]) (Zf ag).symm
  exact Zm<|b7 _ _ wk<|J2 _ (AH [(i8 0),(i8 1)])<|xH c1 af
 refine ZK (λ(x3:Int) (X:List Ac) i3=>⟨[(2,.own 1000<|i3 0),(3,.ptr 3 l 0 0),(4,.ptr 4 (l+1) 0 0),(7,.ptr 7 (I 8) 0 0),(37,rL A.Flow),(38,rI x3)],[(3,some<|.box l 24 [qb d1.Nodes]),(4,some<|.box (l+1) 105<|E7 m),(7,some<|.box (I 8) 54<|Af A),(1000,some<|.arr (i3 0) 105 3<|X.map Ac.row)],(i3 1),157⟩) (AH [(l+3),n1]) aj wk ?_
 intro x3 X i3 v3 cn cp
 have b0:Fi d1 m self A x3 X=some v3:=cn;unfold Fi at b0
 refine aU<|xS R<|aZ<|aT λcq=>cI R b0 (λah=>?_) λah=>?_
 ·refine Zc<|cq _<|aS λcr cs aa=>Ze<|BS ah λp3 ct cu=>?_
  have J6:∀(U:List Ac) (a1:NN),p3=U→cr ⟨[(2,.own 1000<|a1 0),(3,.ptr 3 l 0 0),(4,.ptr 4 (l+1) 0 0),(7,.ptr 7 (I 8) 0 0),(37,rL A.Flow),(38,rI x3)],[(3,some<|.box l 24 [qb d1.Nodes]),(4,some<|.box (l+1) 105<|E7 m),(7,some<|.box (I 8) 54<|Af A),(1000,some<|.arr (a1 0) 105 3<|U.map Ac.row)],(a1 1),157⟩:=by
   intro U a1 e
   have cv:=cu _ e
   exact cs _<|aR<|AG cv λd5 b1 cw=>xA R b1<|mM R<|Zh<|ZI cw (AH [(a1 0),(a1 1)]) wk
  refine aU<|mM R<|mA R<|aZ<|aU<|lF ET E0 R R<|mM R<|AG ct λa6 ab cx=>xI Bu R ab<|sQ R (BK R Ds iL)<|xV (.int .i64 a6.Ref) AJ R<|xU R<|aZ<|cI R cx (λai=>?_) λai=>?_
  ·refine aG [2,3,4,7,8,37,38] [3,4,7,1000] ?_
   refine VK 13 BR (by kernel_rfl) R R ?_
   refine AT.step R R R (DG R Bs iL R R)<|AT.step R R R (fB R ET iL fR R)<|AT.step R R R (Aa (a:=qe A.Flow) R E0 iL R R)<|AT.step R R R (AK R iL)<|AT.step R R R (BB R Bu.slice iL iL (λ_=>R) λ_=>ab)<|AT.step R R R (BK R Ds iL)<|AT.step R R R (Bt (d:=.int .i64 a6.Ref) R AJ iL R)<|AT.step R R R (fB R KQ iL fR R)<|AT.step R R R (Aa (a:=rI m.ID) R AJ iL R R)<|AT.step R R R (fB R S5 iL fR R)<|AT.step R R R (Aa (a:=rB m.Visible) R Ms iL R R) ?_
   refine AT.step R R R (Bj R QC (q:=[(0,_),(1,_),(2,_)]) (by exact⟨R,R,R,iL,R,R,R,iL,R,R,R,iL,Za⟩) (cs:=[rI a6.Ref,rI m.ID,rB m.Visible])<|by rfl) ?_
   refine AT.step R R R (AK R iL)<|AT.nil<|AG ai λw3 cy cz=>?_
   refine ZA [1000] (hc:=[(1000,some<|.arr (i3 0) 105 3<|X.map Ac.row)]) (bs:=[.agg [qb d1.Nodes],.agg [rI a6.Ref,rI m.ID,rB m.Visible],.own 1000<|i3 0]) (caps:=[]) R R R R iL R ⟨.inl ⟨iL,R⟩,.inl ⟨iL,R⟩,.inl ⟨iL,R⟩,Za⟩ ⟨R,R,R,Za⟩ (by decide) (J cy) ?_
   intro d0 n4
   refine BV [3,4,7,8,37,38,48,49,50,51,52,53,54,55,56,57,58,59,61] [3,4,7,1000] ?_
   exact mA R<|Zh<|aa _ _ wk<|J6 _ (AH [(d0 0),n4]) (Zf cz).symm
  exact Zc<|aa _ _ wk<|J6 _ (AH [(i3 0),(i3 1)]) (Zf ai).symm
 exact Zm<|b5 _ _ wk<|J1 _ (AH [(i3 0),(i3 1)])<|xH cp ah
theorem nU(n:Nat):∀ {l:List Ac} {d1:AP} {m:Ac} {r:(List Ac)} {j:Nat},Ca n l d1 m=some r→BC prog 102 1 [.agg [qb d1.Nodes],.agg<|E7 m,.own 1000 j] [(1000,some<|.arr j 105 3<|l.map Ac.row)] (λq h'=>∃(i:Nat→Nat),q=.own 1000 (i 0)∧h'=[(1000,some<|.arr (i 0) 105 3<|r.map Ac.row)]):=by
 induction n with
 | zero=>intro l d1 m r j h;exact absurd (show(none:Option ((List Ac)))=some r from h)<|by simp
 | succ n w=>intro l d1 m r j h;exact cN (self:=λl d1 m=>Ca n l d1 m) (λA=>w A) h
theorem gu{l:List Ac}{d1:AP}{m:Ac}{r:(List Ac)}{j:Nat}(h:QS l d1 m=some r):BC prog 102 1 [.agg [qb d1.Nodes],.agg<|E7 m,.own 1000 j] [(1000,some<|.arr j 105 3<|l.map Ac.row)] (λw h'=>∃(i:Nat→Nat),w=.own 1000 (i 0)∧h'=[(1000,some<|.arr (i 0) 105 3<|r.map Ac.row)]):=by
 unfold QS at h
 by_cases q:∃n r,Ca n l d1 m=some r
 ·rw[uB q] at h;exact nU _ h
 ·rw[dif_neg q] at h;cases h
theorem ef{d1 r}(h:O0 d1=some r):AR prog 59 [.agg [qb d1.Nodes]] (qh r):=by
 unfold O0 at h
 refine mF func59 ntmps59 R λl=>aU<|sS R (At (cs:=[qb d1.Nodes]) 1 R iL R R)<|mA R<|aZ<|aT λm=>aR<|xC Bs R ?_
 refine sQ R (Bj R QC (q:=[(0,_),(1,_),(2,_)]) (by exact⟨R,R,R,iL,R,R,R,iL,R,R,R,iL,Za⟩) (cs:=[rI 1,rI 0,rB true])<|by rfl) ?_
 refine AG h λw j q=>?_
 refine Zb 7905 105 3 R [7905] (hc:=[(1000,some<|.arr (l+1) 105 3<|([]:List Ac).map Ac.row)]) (bs:=[.agg [qb d1.Nodes],.agg [rI 1,rI 0,rB true],.own 1000<|l+1]) (caps:=[]) R R R R iL R ⟨.inl<|.inl ⟨iL,R⟩,.inl<|.inl ⟨iL,R⟩,.inr ⟨iL,R,R⟩,Za⟩ ⟨R,R,R,Za⟩ (by decide) (gu j) ?_
 intro A B
 refine BV [0,1,2,3,4,5] [1,7905] ?_
 exact mA R<|aZ<|m _<|Zi<|Bz (P:=prog) (λ(r:(List Ac))=>qh r) q iL<|.t<|.one<|.own R
theorem bT{d1 r}(h:OS d1=some r):AR prog 43 [.agg [qb d1.Nodes]] (qb r):=by
 unfold OS at h
 refine mF func43 ntmps43 R λj=>aU<|sS R (At (cs:=[qb d1.Nodes]) 1 R iL R R)<|mA R<|aZ<|aU<|mA R<|aZ<|aU<|xC Bs R<|AG h λl V h1=>sS R (BJ (r:=qh l) (caps:=[]) (bs:=[.agg [qb d1.Nodes]]) R iL R ⟨.inl ⟨iL,R⟩,Za⟩ λ_=>ef<|V)<|mA R<|aZ<|aS λK4 c4 X=>aU<|mM R<|xL LZ R<|mM R<|aZ<|Ze<|BS h1 λo1 O Z=>?_
 have J1:∀(m:List AI) (U:NN),o1=m→K4 ⟨[(3,.own 5003<|U 0)],[(5003,some<|.arr (U 0) 54 9<|m.map AI.row)],(U 1),34⟩:=by
  intro m U e
  have h2:=Z _ e
  exact c4 _<|aU<|mM R<|mA R<|aZ<|Zi<|Bz (P:=prog) (λ(r:(List AI))=>qb r) h2 iL<|.t<|.one<|.own R
 refine ZK (λ(B:Int) (q:List AI) C=>⟨[(1,.ptr 1 j 0 0),(3,.own 5003<|C 0),(4,qh l),(10,rL l),(11,rI B)],[(1,some<|.box j 24 [qb d1.Nodes]),(5003,some<|.arr (C 0) 54 9<|q.map AI.row)],(C 1),34⟩) (AH [(j+1),(j+2)]) O (Zw (Zw (Fd 3 5003 54 9 (by decide) R)<|by exact AZ.cv (e':=[(0,.agg [qb d1.Nodes]),(1,.ptr 1 j 0 0),(2,cZ),(3,.own 5003<|j+1),(4,qh l),(7,.agg [qb d1.Nodes]),(8,qh l),(9,qh l),(10,rL l),(11,rI 0)]) (h':=[(1,some<|.box j 24 [qb d1.Nodes]),(5003,some<|.arr (j+1) 54 9<|([]:List AI).map AI.row)]) ⟨jL,jL,jL,jL,jL,jL,jL,jL,jL,jL,Za⟩ ⟨.inl R,.inl R,Za⟩ nL) wk) ?_
 intro B q C v1 a0 a1
 have h3:IP d1 l B q=some v1:=a0;unfold IP at h3
 refine aU<|xS R<|aZ<|aT λc8=>cI R h3 (λh4=>?_) λh4=>?_
 ·refine Zc<|c8 _<|aS λK9 c9 T=>Ze<|BS h4 λp1 a2 a6=>?_
  have J2:∀(w:List AI) (I:NN),p1=w→K9 ⟨[(1,.ptr 1 j 0 0),(3,.own 5003<|I 0),(4,qh l),(10,rL l),(11,rI B)],[(1,some<|.box j 24 [qb d1.Nodes]),(5003,some<|.arr (I 0) 54 9<|w.map AI.row)],(I 1),34⟩:=by
   intro w I e
   have h5:=a6 _ e
   exact c9 _<|aR<|AG h5 λx4 a7 h6=>xA R a7<|mM R<|Zh<|ZI h6 (AH [(I 0),(I 1)]) wk
  refine aU<|mM R<|mA R<|aZ<|aT λa8=>AG a2 λA aa h7=>AG h7 λr1 ab h8=>AG h8 λJ ac h9=>?_
  refine Iw 12 [pO 14<|.ptr 1 j 0 0,pO 15<|qb d1.Nodes,pO 16<|.agg [qb d1.Nodes],pO 17<|qh l,pO 18<|rI B,pO 19<|.rop (Ac.row A) 0,pO 20<|.rop (Ac.row A) 0,pO 21<|rI A.ID,pO 22<|rI r1,pO 23<|.rop (AI.row J) 0,pO 24<|.agg<|Af J,⟨some 6,(λM=>.ptr 6 (M 11) 0 0),some (6,(λM=>some<|.box (M 11) 54 De)),[11]⟩] BR (by kernel_rfl) (by exact⟨λ_ _ h=>⟨R,λ_ _ e=>by cases e⟩,λ_ _ h=>⟨R,λ_ _ e=>by cases e⟩,λ_ _ h=>⟨R,λ_ _ e=>by cases e⟩,λ_ _ h=>⟨R,λ_ _ e=>by cases e⟩,λ_ _ h=>⟨R,λ_ _ e=>by cases e⟩,λ_ _ h=>⟨R,λ_ _ e=>by cases e⟩,λ_ _ h=>⟨R,λ_ _ e=>by cases e⟩,λ_ _ h=>⟨R,λ_ _ e=>by cases e⟩,λ_ _ h=>⟨R,λ_ _ e=>by cases e⟩,λ_ _ h=>⟨R,λ_ _ e=>by cases e⟩,λ_ _ h=>⟨R,λ_ _ e=>by cases e⟩,λ_ _ h=>⟨by simp only[h 11 R],λ_ _ e=>by cases e;simp only[h 11 R]⟩,Za⟩) R (by exact⟨oB [(1,.ptr 1 j 0 0)] [(1,some<|.box j 24 [qb d1.Nodes])]<|fB R CH (.inl R) (λ_=>R) R,oB [(14,.ptr 1 j 0 0)] [(1,some<|.box j 24 [qb d1.Nodes])]<|Aa (a:=qb d1.Nodes) R B7 (.inl R) R R,oB [(1,.ptr 1 j 0 0)] [(1,some<|.box j 24 [qb d1.Nodes])]<|DG R Bs (.inl R) R R,oB [(4,qh l)] []<|AK R<|.inl R,oB [(5,rI B)] []<|AK R<|.inl R,oB [(17,qh l),(18,rI B)] []<|BB R LZ.slice (.inl R) (.inl R) (λ_=>R) λ_=>aa,oB [(19,.rop (Ac.row A) 0)] []<|BK R KQ<|.inl R,oB [(20,.rop (Ac.row A) 0)] []<|Bt (d:=.int .i64 A.ID) R AJ (.inl R) R,oD (λ_=>[(16,.agg [qb d1.Nodes]),(21,rI A.ID)]) (λ_=>[]) λM e h' n=>Cw (r:=rI r1) (caps:=[]) (bs:=[.agg [qb d1.Nodes],rI A.ID]) R (.inl R) R ⟨⟨_,(.inl R),.g (cs:=[.sl<|d1.Nodes.map AI.row]) R R⟩,⟨_,(.inl R),.d R⟩,Za⟩ (λ_=>QM<|ab) R,oB [(15,qb d1.Nodes),(22,rI r1)] []<|BB R A8.slice (.inl R) (.inl R) (λ_=>R) λ_=>ac,oB [(23,.rop (AI.row J) 0)] []<|Ce (cs:=(Af J)) R Cf (.inl R) R R,oM (λ_=>[]) (λ_=>[]) R λM e h' n=>BH (cs:=De) 6 R GA R R,Za⟩) λM n1=>?_
  refine BV [1,3,4,5,6,10,11,12,13,14,15,16,17,18,19,20,21,22,23,24] [1,6,5003] ?_
  refine Zl R R (A4 (ds:=(Af J)) R E8 iL R iL R R R R)<|aZ<|a8 _<|aT λad=>aG [1,3,4,6,10,11] [1,6,5003] ?_
  refine aR<|lF Cd AJ R R<|xQ R<|aZ<|ad _<|cI R h9 (λE=>?_) λE=>?_
  ·exact aR<|mM R<|xC Cf R<|sS R (BZ 30 R A8 (f:=AI.row) (l:=([J]:List AI)) ⟨R,⟨_,iL,R⟩,Za⟩ R (λ_=>R) R)<|AG E λaf F ae=>sS R (Cs R A8 iL R (.inr<|.inl ⟨_,_,iL,R⟩) F)<|mA R<|Zh<|T _ _ wk<|J2 _ (AH [(n1+1),(n1+2)]) (Zf ae).symm
  exact Zc<|T _ _ wk<|J2 _ (AH [(C 0),n1]) (Zf E).symm
 exact Zm<|X _ _ wk<|J1 _ (AH [(C 0),(C 1)])<|xH a1 h4
theorem XB{d1 n o r}(h:LY d1 n o=some r):AR prog 14 [.agg [qb d1.Nodes],rS n,rS o] (qb r):=by
 unfold LY at h
 refine mF func14 ntmps14 R λZ=>aU<|sS R (At (cs:=[qb d1.Nodes]) 3 R iL R R)<|mA R<|aZ<|aU<|mA R<|aZ<|aU<|xC Bs R<|AG h λw ag h1=>sS R (BJ (r:=qb w) (caps:=[]) (bs:=[.agg [qb d1.Nodes]]) R iL R ⟨.inl ⟨iL,R⟩,Za⟩ λ_=>bT<|ag)<|mA R<|aZ<|Ze<|BM h1 λo1 a0 bm a1=>?_
 refine ZK (λ(l:List UInt8) (j:List AI) m=>⟨[(1,rS l),(2,rS o),(7,.own 5007<|m 0),(8,qb w)],[(5007,some<|.arr (m 0) 54 9<|j.map AI.row)],(m 1),78⟩) (AH [(Z+1),(Z+2)]) a0 (Zw (Zw (Fd 7 5007 54 9 (by decide) R)<|by exact AZ.cv (e':=[(0,.agg [qb d1.Nodes]),(1,rS n),(2,rS o),(3,.ptr 3 Z 0 0),(6,cZ),(7,.own 5007<|Z+1),(8,qb w),(12,.agg [qb d1.Nodes]),(13,qb w)]) (h':=[(3,some<|.box Z 24 [qb d1.Nodes]),(5007,some<|.arr (Z+1) 54 9<|([]:List AI).map AI.row)]) ⟨jL,jL,jL,jL,jL,jL,jL,jL,jL,Za⟩ ⟨.inl R,.inl R,Za⟩ nL) wk) ?_
 intro l j m v1 ah a2
 have h2:Ln o w l j=some v1:=ah;unfold Ln at h2
 refine Ze<|aU<|mA R<|aZ<|aS λK5 c5 ai=>aU<|mM R<|xL A8 R<|AG h2 λi5 aj h3=>sQ R (CS R iL iL λ_=>aj)<|mA R<|aZ<|Ze<|BS h3 λo2 a6 ak=>?_
 have J2:∀(q:Int) (F:NN),o2=q→K5 ⟨[(2,rS o),(7,.own 5007<|m 0),(8,qb w),(9,rI q)],[(5007,some<|.arr (m 0) 54 9<|j.map AI.row)],(F 0),78⟩:=by
  intro q F e
  have h4:=ak _ e
  refine c5 _<|aT λc7=>aU<|mM R<|xS R<|aZ<|cI R h4 (λh5=>?_) λh5=>?_
  ·exact aU<|mM R<|mA R<|aZ<|Zi<|Bz (P:=prog) (λ(r:(List AI))=>qb r) (a1 _<|xH a2 h5) iL<|.t<|.one<|.own R
  refine Zc<|c7 _<|aS λal an a7=>aU<|mM R<|sQ R (JL R A8.slice iL R)<|mM R<|aZ<|Ze<|BM h5 λo3 a8 ao aq=>?_
  have J3:∀(u5:Unit) (B:NN),o3=.nrm u5→al ⟨[(2,rS o),(7,.own 5007<|m 0),(8,qb w),(9,rI q)],[(5007,some<|.arr (m 0) 54 9<|j.map AI.row)],(B 0),78⟩:=by
   intro u5 B e
   have h6:=ao _ e
   exact an _<|aU<|mM R<|mM R<|mM R<|AG h6 λx4 aa h7=>xI A8 R aa<|xB ((Af x4)) Cf R<|sS R (BZ 70 R A8 (f:=AI.row) (l:=([x4]:List AI)) ⟨R,⟨_,iL,R⟩,Za⟩ R (λ_=>R) R)<|AG h7 λbl I h8=>sS R (Cs R A8 iL R (.inr<|.inl ⟨_,_,iL,R⟩) I)<|mA R<|aZ<|aR<|mM R<|mM R<|xI A8 R aa<|sQ R (BK R Eg iL)<|xV (.sl<|x4.Attrs.map AC.row) Bw R<|AG h8 λar C h9=>cL (JX<|C) R<|mA R<|Zh<|ZI h9 (AH [((B 0)+1),((B 0)+2)]) wk
  refine Zt (λ(x2:Int) i16=>⟨[(2,rS o),(7,.own 5007<|m 0),(8,qb w),(9,rI q),(48,rL j),(49,rI x2)],[(5007,some<|.arr (m 0) 54 9<|j.map AI.row)],(i16 0),78⟩) (AH [(F 0)]) a8 wk ?_
  intro x2 i16 v2 au ab
  have ac:Gy w j q x2=some v2:=au;unfold Gy at ac
  refine aU<|xS R<|aZ<|aT λav=>cI R ac (λJ=>?_) λJ=>?_
  ·refine Zc<|av _<|aT λaw=>Ze<|aU<|mM R<|mA R<|aZ<|aT λax=>?_
   refine ZB BR (by kernel_rfl) ?_
   refine qP R (AK R iL)<|qP R (AK R iL)<|AG J λx5 ad ay=>qP R (Fs R A8.slice iL R iL λ_=>ad)<|qP R (GK (ob:=.arr _ _ _ _) R Dk iL fR R)<|qP R (SH (d:=.int .i64 x5.ID) R AJ iL fR (λ_=>ad) R)<|qP R (AK R iL)<|qP R (AK R iL)<|AG ay λx6 az b0=>qP R (BB R A8.slice iL iL (λ_=>R) λ_=>az)<|qP R (BK R Dk iL)<|qP R (Bt (d:=.int .i64 x6.ID) R AJ iL R)<|qP R (A9 R iL iL)<|AQ.nil<|ax _<|cI R b0 (λM=>?_) λM=>?_
   ·refine aT λb1=>aG [7] [5007] ?_
    exact aR<|mM R<|mA R<|aZ<|b1 _<|Zi<|Bz (P:=prog) (λ(r:(List AI))=>qb r) (a1 _<|a2 _ (Zf<|aq _<|xH ab M).symm) iL<|.t<|.one<|.own R
   refine Zc<|aw _<|aG [2,7,8,9,48,49] [5007] ?_
   exact aR<|AG M λx7 b2 b3=>xA R b2<|mM R<|Zh<|Zq b3 (AH [(i16 0)]) wk
  exact Zm<|a7 _ _ wk<|J3 _ (AH [(i16 0)])<|xH ab J
 refine ZK (λ(O:Int) (i9:Int) A=>⟨[(1,rS l),(2,rS o),(7,.own 5007<|m 0),(8,qb w),(9,rI O),(10,rI i9)],[(5007,some<|.arr (m 0) 54 9<|j.map AI.row)],(A 0),78⟩) (AH [(m 1)]) a6 wk ?_
 intro O i9 A v3 b4 b5
 have ae:H2 o w l O i9=some v3:=b4;unfold H2 at ae
 refine aT λb6=>aU<|mM R<|sQ R (Cq R iL iL)<|aZ<|cI R ae (λT=>?_) λT=>?_
 ·refine Zc<|b6 _<|aS λb7 b8 E=>Ze<|BS T λp1 b9 ba=>?_
  have J4:∀(U:Int) (V:NN),p1=U→b7 ⟨[(1,rS l),(2,rS o),(7,.own 5007<|m 0),(8,qb w),(9,rI U),(10,rI i9)],[(5007,some<|.arr (m 0) 54 9<|j.map AI.row)],(V 0),78⟩:=by
   intro U V e
   have bb:=ba _ e
   exact b8 _<|aR<|mM R<|AG bb λbn af bc=>sQ R (CS R iL iL λ_=>af)<|mA R<|Zh<|ZI bc (AH [(V 0)]) wk
  refine aU<|mM R<|sQ R (Dt R iL iL)<|mM R<|vM R<|vM R<|AG b9 λx8 bd be=>vQ R (BB R A8.slice (iR R) (iR R) (λ_=>R)<|Ad bd)<|vQ R (BK R Eg<|iR R)<|vQ R (Bt (d:=.sl<|x8.Attrs.map AC.row) R Bw (iR R) R)<|AG be λr1 bf bg=>vL (λhg=>JX<|Ad bf hg) R<|vM R<|vQ R (Dp R (iR R)<|iR R)<|xN R<|mM R<|vM R<|vM R<|AG bg λx9 bh bi=>vQ R (BB R A8.slice (iR R) (iR R) (λ_=>R)<|Ad bh)<|vQ R (BK R Eg<|iR R)<|vQ R (Bt (d:=.sl<|x9.Attrs.map AC.row) R Bw (iR R) R)<|AG bi λr2 bj bk=>vL (λhg=>JX<|Ad bj hg) R<|vM R<|vQ R (Dp R (iR R)<|iR R)<|xN R<|aZ<|cI R bk (λX=>?_) λX=>?_
  ·refine aG [1,2,7,8,10] [5007] ?_
   exact aR<|mM R<|mA R<|Zh<|E _ _ wk<|J4 _ (AH [(A 0)]) (Zf X).symm
  exact Zc<|E _ _ wk<|J4 _ (AH [(A 0)]) (Zf X).symm
 exact Zm<|ai _ _ wk<|J2 _ (AH [(A 0)])<|xH b5 T
theorem mu{l f r}(h:MU l f=some r):AR prog 81 [rS l,rS f] (rB r):=by
 unfold MU at h
 refine mF func81 ntmps81 R λw=>aU<|mA R<|aZ<|aT λm=>aR<|mM R<|sQ R (DJ R underlying9 iL)<|mM R<|sQ R (DJ R underlying9 iL)<|sQ R (Bh R iL iL)<|mM R<|vM R<|vM R<|vQ R (DJ R underlying9<|iR R)<|AG h λA j q=>?_
 refine vQ R (JZ R underlying9 (iR R) (by exact R) (by exact⟨_,(iR R)⟩)<|Ad j) ?_
 exact vM R<|vQ R (Dp R (iR R)<|iR R)<|xN R<|mA R<|aZ<|m _<|Zi<|yB q R
theorem ms{j n r}(h:Lm j n=some r):AR prog 82 [qa j,rS n] (rB r):=by
 unfold Lm at h
 refine mF func82 ntmps82 R λV=>aU<|mA R<|aZ<|aS λX Z w=>aU<|mM R<|xL Ay R<|mM R<|aZ<|Ze<|BM h λo1 l A B=>?_
 have J1:∀(O:Unit) (T:NN),o1=.nrm O→X ⟨[],[],(T 0),19⟩:=by
  intro O T e
  have h1:=A _ e
  exact Z _<|zB h1 R id
 refine Zt (λ(C:Int) q=>⟨[(0,qa j),(1,rS n),(7,rL j),(8,rI C)],[],(q 0),19⟩) (AH [V]) l wk ?_
 intro C q v1 E m
 have U:NR j n C=some v1:=E;unfold NR at U
 refine aU<|xS R<|aZ<|aT λc6=>cI R U (λF=>?_) λF=>?_
 ·refine Zc<|c6 _<|aT λc7=>Ze<|aU<|mM R<|mA R<|aZ<|aU<|mM R<|mM R<|AG F λx4 I h4=>xI Ay R I<|sQ R (BK R Cz iL)<|xV (.str x4.Name) A6 R<|mM R<|sQ R (Dp R iL iL)<|aZ<|cI R h4 (λJ=>?_) λJ=>?_
  ·exact zB (B _<|xH m J) R id
  refine Zc<|c7 _<|aF [0,1,7,8] ?_
  exact aR<|AG J λx5 M h6=>xA R M<|mM R<|Zh<|Zq h6 (AH [(q 0)]) wk
 exact Zm<|w _ _ wk<|J1 _ (AH [(q 0)])<|xH m F
theorem UN{d1 n o r}(h:Gw d1 n o=some r):AR prog 50 [.agg [qb d1.Nodes],rS n,rS o] (qa r):=by
 unfold Gw at h
 refine mF func50 ntmps50 R λn0=>aU<|sS R (At (cs:=[qb d1.Nodes]) 3 R iL R R)<|mA R<|aZ<|aU<|mA R<|aZ<|aU<|xC Bs R<|mM R<|mM R<|AG h λB a0 h1=>sS R (BJ (r:=qb B) (caps:=[]) (bs:=[.agg [qb d1.Nodes],rS n,rS o]) R iL R ⟨.inl ⟨iL,R⟩,.inl ⟨iL,R⟩,.inl ⟨iL,R⟩,Za⟩ λ_=>XB<|a0)<|mA R<|aZ<|aS λK4 c4 a1=>aT λc5=>aF [7,8] ?_
 refine aR<|mM R<|xL A8 R<|mM R<|aZ<|c5 _<|Ze<|BS h1 λo1 T a2=>?_
 have J1:∀(m:List AC) (i5:NN),o1=m→K4 ⟨[(7,qa m)],[],(i5 0),66⟩:=by
  intro m i5 e
  have h2:=a2 _ e
  exact c4 _<|aU<|mM R<|mA R<|aZ<|Zi<|Bz (P:=prog) (λ(r:(List AC))=>qa r) h2 iL<|.t<|.d R
 refine ZK (λ(q:List AC) (E:Int) i3=>⟨[(7,qa q),(8,qb B),(17,rL B),(18,rI E)],[],(i3 0),66⟩) (AH [(n0+1)]) T ((by exact AZ.cv ⟨.inl<|.inr<|.inr ⟨R,R⟩,jL,jL,jL,Za⟩ Za nL)) ?_
 intro q E i3 v1 a6 a7
 have h3:IC B q E=some v1:=a6;unfold IC at h3
 refine aU<|xS R<|aZ<|aT λc8=>cI R h3 (λh4=>?_) λh4=>?_
 ·refine Zc<|c8 _<|aS λK9 c9 a8=>Ze<|aU<|mM R<|mA R<|aZ<|aU<|mM R<|mM R<|AG h4 λU V h5=>xI A8 R V<|sQ R (BK R Eg iL)<|xV (.sl<|U.Attrs.map AC.row) Bw R<|xL Ay R<|mM R<|aZ<|Ze<|BS h5 λo2 X aa=>?_
  have J2:∀(w:List AC) (I:NN),o2=w→K9 ⟨[(7,qa w),(8,qb B),(17,rL B),(18,rI E)],[],(I 0),66⟩:=by
   intro w I e
   have h6:=aa _ e
   exact c9 _<|aR<|AG h6 λx8 ab h7=>xA R ab<|mM R<|Zh<|ZI h7 (AH [(I 0)]) wk
  refine ZK (λ(j:List AC) (x6:Int) i8=>⟨[(7,qa j),(8,qb B),(9,rI E),(17,rL B),(18,rI E),(26,rL U.Attrs),(27,rI x6)],[],(i8 0),66⟩) (AH [(i3 0)]) X wk ?_
  intro j x6 i8 v2 ac ad
  have h8:Ho U j x6=some v2:=ac;unfold Ho at h8
  refine aU<|xS R<|aZ<|aT λae=>cI R h8 (λh9=>?_) λh9=>?_
  ·refine Zc<|ae _<|aS λaf ag F=>Ze<|BS h9 λp1 ah ai=>?_
   have J3:∀(A:List AC) (J:NN),p1=A→af ⟨[(7,qa A),(8,qb B),(9,rI E),(17,rL B),(18,rI E),(26,rL U.Attrs),(27,rI x6)],[],(J 0),66⟩:=by
    intro A J e
    have aj:=ai _ e
    exact ag _<|aR<|AG aj λx9 ak al=>xA R ak<|mM R<|Zh<|ZI al (AH [(J 0)]) wk
   refine aU<|mM R<|mA R<|aZ<|aU<|mM R<|mM R<|xI A8 R V<|sQ R (BK R Eg iL)<|xV (.sl<|U.Attrs.map AC.row) Bw R<|mM R<|AG ah λl Z an=>xI Ay R Z<|xB ((CD l)) D7 R<|sS R (BH (cs:=[.r<|.str [],.r<|.str []]) 11 R SL R R)<|Zl R R (A4 (ds:=(CD l)) R Q4 iL R iL R R R R)<|aZ<|aT λao=>aG [7,8,9,11,17,18,26,27] [11] ?_
   refine aR<|lF Cz A6 R R<|AG an λr1 aq ar=>cL (mu<|aq) R<|mM R<|vF Cz A6 R R<|AG ar λs1 au av=>?_
   refine vQ R (JZ R underlying9 (iR R) (by exact⟨_,iL⟩) (by exact R)<|Ad au) ?_
   refine AG av λr2 aw ax=>vL (λhg=>TT<|Ad aw hg) R<|xN R<|mM R<|vM R<|vF Cz A6 R R<|AG ax λs2 ay az=>?_
   refine vQ R (JZ R underlying9 (iR R) (by exact⟨_,iL⟩) (by exact R)<|Ad ay) ?_
   refine AG az λr3 b0 b1=>vL (λhg=>ms<|Ad b0 hg) R<|vQ R (BD R<|iR R)<|xN R<|aZ<|ao _<|cI R b1 (λM=>?_) λM=>?_
   ·refine VK 7 BR (by kernel_rfl) R R ?_
    refine AT.step R R R (AK R iL)<|AT.step R R R (fB R Cz iL fR R)<|AT.step R R R (Aa (a:=rS l.Name) R A6 iL R R)<|AG M λs3 b2 b3=>?_
    refine AT.step R R R (JZ R underlying9 iL (by exact⟨_,iL⟩) (by exact R) λ_=>b2) ?_
    refine AT.step R R R (fB R Hk iL fR R)<|AT.step R R R (Aa (a:=rS l.Value) R A6 iL R R) ?_
    refine AT.step R R R (Bj R Fg (q:=[(0,_),(1,_)]) (by exact⟨R,R,R,iL,R,R,R,iL,Za⟩) (cs:=[rS s3,rS l.Value])<|by rfl) ?_
    exact AT.nil<|AG b3 λO C b4=>sS R (BJ (r:=qa O) (caps:=[]) (bs:=[qa j,.agg [rS s3,rS l.Value]]) R iL R ⟨.inl ⟨iL,R⟩,.inl ⟨iL,R⟩,Za⟩ λ_=>U2<|C)<|mA R<|Zh<|F _ _ wk<|J3 _ (AH [((i8 0)+1)]) (Zf b4).symm
   exact Zc<|F _ _ wk<|J3 _ (AH [((i8 0)+1)]) (Zf M).symm
  exact Zm<|a8 _ _ wk<|J2 _ (AH [(i8 0)])<|xH ad h9
 exact Zm<|a1 _ _ wk<|J1 _ (AH [(i3 0)])<|xH a7 h4
theorem Ok{j r}(h:IS j=some r):AR prog 49 [qa j] (qa r):=by
 unfold IS at h
 refine mF func49 ntmps49 R λA=>aU<|mA R<|aZ<|aT λm=>aR<|mM R ?_
 refine sQ R (Bj R Fg (q:=[(0,_)]) (by exact⟨R,R,R,iL,Za⟩) (cs:=Rz)<|by rfl) ?_
 refine sS R (BZ 5 R Ay (f:=AC.row) (l:=([(AC.mk [115,116,121,108,101] [])]:List AC)) ⟨R,⟨_,iL,R⟩,Za⟩ R (λ_=>R) R) ?_
 refine ZJ (by exact AZ.frz (e':=[(0,qa j),(2,cZ),(3,qa j),(4,.agg Rz),(5,.r<|.sl<|[(AC.mk [115,116,121,108,101] [])].map AC.row)]) (h':=[]) 5 R ⟨jL,jL,jL,jL,.inl<|.inr<|.inr ⟨R,R⟩,Za⟩ Za) ?_
 exact AG h λq l w=>sS R (BJ (r:=qa q) (caps:=[]) (bs:=[qa j,.r<|.sl<|[(AC.mk [115,116,121,108,101] [])].map AC.row]) R iL R ⟨.inl ⟨iL,R⟩,.inl ⟨iL,R⟩,Za⟩ λ_=>PR<|l)<|mA R<|aZ<|m _<|Zi<|Bz (P:=prog) (λ(r:(List AC))=>qa r) w iL<|.t<|.d R
theorem oY{d1 a r}(h:Oi d1 a=some r):AR prog 19 [.agg [qb d1.Nodes],qa a] (qa r):=by
 unfold Oi at h
 refine mF func19 ntmps19 R λF=>aU<|sS R (At (cs:=[qb d1.Nodes]) 2 R iL R R)<|mA R<|aZ<|aT λM=>AG h λj m O=>AG O λl q T=>AG T λw A U=>?_
 refine rP 6 [pO 5<|.agg [qb d1.Nodes],pO 6<|qa a,pO 7<|rS j,pO 8<|qa l,pO 9<|qa w,pO 10<|qa a] BR R (by exact⟨oB [(2,.ptr 2 F 0 0)] [(2,some<|.box F 24 [qb d1.Nodes])]<|DG R Bs (.inl R) R R,oB [(1,qa a)] []<|AK R<|.inl R,oD (λ_=>[(6,qa a)]) (λ_=>[]) λB e I n=>Cw (r:=rS j) (caps:=[]) (bs:=[qa a,.r<|.str [115,116,121,108,101]]) R (.inl R) R ⟨⟨_,(.inl R),.d R⟩,⟨_,(.inl R),.d R⟩,Za⟩ (λ_=>JX<|m) R,oD (λ_=>[(5,.agg [qb d1.Nodes]),(7,rS j)]) (λ_=>[]) λB e I n=>BJ (r:=qa l) (caps:=[]) (bs:=[.agg [qb d1.Nodes],rS j,.r<|.str [112,97,114,97,103,114,97,112,104]]) R (.inl R) R ⟨.inl ⟨(.inl R),R⟩,.inl ⟨(.inl R),R⟩,.inl ⟨(.inl R),R⟩,Za⟩ λ_=>UN<|q,oD (λ_=>[(8,qa l)]) (λ_=>[]) λB e I n=>BJ (r:=qa w) (caps:=[]) (bs:=[qa l]) R (.inl R) R ⟨.inl ⟨(.inl R),R⟩,Za⟩ λ_=>Ok<|A,oB [(1,qa a)] []<|AK R<|.inl R,Za⟩) λB n1=>?_
 refine BV [0,1,2,4,5,6,7,8,9,10] [2] ?_
 exact AG U λJ C V=>sS R (BJ (r:=qa J) (caps:=[]) (bs:=[qa a]) R iL R ⟨.inl ⟨iL,R⟩,Za⟩ λ_=>Ok<|C)<|AG V λX E Z=>sS R (BJ (r:=qa X) (caps:=[]) (bs:=[qa w,qa J]) R iL R ⟨.inl ⟨iL,R⟩,.inl ⟨iL,R⟩,Za⟩ λ_=>PR<|E)<|mA R<|aZ<|M _<|Zi<|Bz (P:=prog) (λ(r:(List AC))=>qa r) Z iL<|.t<|.d R
theorem om{d1 m a r}(h:Oc d1 m a=some r):AR prog 20 [.agg [qb d1.Nodes],qa m,qa a] (qa r):=by
 unfold Oc at h
 refine mF func20 ntmps20 R λA=>aU<|sS R (At (cs:=[qb d1.Nodes]) 3 R iL R R)<|mA R<|aZ<|aT λc2=>AG h λE F h1=>?_
 refine rP 3 [pO 8<|.agg [qb d1.Nodes],pO 9<|qa a,pO 10<|rS E] BR R (by exact⟨oB [(3,.ptr 3 A 0 0)] [(3,some<|.box A 24 [qb d1.Nodes])]<|DG R Bs (.inl R) R R,oB [(2,qa a)] []<|AK R<|.inl R,oD (λ_=>[(9,qa a)]) (λ_=>[]) λG1 e I n=>Cw (r:=rS E) (caps:=[]) (bs:=[qa a,.r<|.str [115,116,121,108,101]]) R (.inl R) R ⟨⟨_,(.inl R),.d R⟩,⟨_,(.inl R),.d R⟩,Za⟩ (λ_=>JX<|F) R,Za⟩) λG1 n1=>?_
 refine BV [0,1,2,3,6,8,9,10] [3] ?_
 refine AG h1 λr2 J h2=>sS R (BJ (r:=qa r2) (caps:=[]) (bs:=[.agg [qb d1.Nodes],rS E,.r<|.str [112,97,114,97,103,114,97,112,104]]) R iL R ⟨.inl ⟨iL,R⟩,.inl ⟨iL,R⟩,.inl ⟨iL,R⟩,Za⟩ λ_=>UN<|J)<|AG h2 λj q h3=>sS R (BJ (r:=qa j) (caps:=[]) (bs:=[qa r2]) R iL R ⟨.inl ⟨iL,R⟩,Za⟩ λ_=>Ok<|q)<|mA R<|aZ<|c2 _<|aT λc3=>AG h3 λB M h4=>AG h4 λC O h5=>AG h5 λT U h6=>?_
 refine rP 6 [pO 13<|qa j,pO 14<|.agg [qb d1.Nodes],pO 15<|qa m,pO 16<|rS B,pO 17<|qa C,pO 18<|qa T] BR R (by exact⟨oB [(7,qa j)] []<|AK R<|.inl R,oB [(3,.ptr 3 A 0 0)] [(3,some<|.box A 24 [qb d1.Nodes])]<|DG R Bs (.inl R) R R,oB [(1,qa m)] []<|AK R<|.inl R,oD (λ_=>[(15,qa m)]) (λ_=>[]) λV e I n=>Cw (r:=rS B) (caps:=[]) (bs:=[qa m,.r<|.str [115,116,121,108,101]]) R (.inl R) R ⟨⟨_,(.inl R),.d R⟩,⟨_,(.inl R),.d R⟩,Za⟩ (λ_=>JX<|M) R,oD (λ_=>[(14,.agg [qb d1.Nodes]),(16,rS B)]) (λ_=>[]) λV e I n=>BJ (r:=qa C) (caps:=[]) (bs:=[.agg [qb d1.Nodes],rS B,.r<|.str [116,101,120,116]]) R (.inl R) R ⟨.inl ⟨(.inl R),R⟩,.inl ⟨(.inl R),R⟩,.inl ⟨(.inl R),R⟩,Za⟩ λ_=>UN<|O,oD (λ_=>[(17,qa C)]) (λ_=>[]) λV e I n=>BJ (r:=qa T) (caps:=[]) (bs:=[qa C]) R (.inl R) R ⟨.inl ⟨(.inl R),R⟩,Za⟩ λ_=>Ok<|U,Za⟩) λV n2=>?_
 refine BV [0,1,2,3,6,7,8,9,10,11,12,13,14,15,16,17,18] [3] ?_
 refine AG h6 λl w h7=>sS R (BJ (r:=qa l) (caps:=[]) (bs:=[qa j,qa T]) R iL R ⟨.inl ⟨iL,R⟩,.inl ⟨iL,R⟩,Za⟩ λ_=>PR<|w)<|mA R<|aZ<|c3 _<|aT λc4=>aF [1,7] ?_
 exact aR<|mM R<|mM R<|AG h7 λr6 X h8=>sS R (BJ (r:=qa r6) (caps:=[]) (bs:=[qa m]) R iL R ⟨.inl ⟨iL,R⟩,Za⟩ λ_=>Ok<|X)<|AG h8 λr7 Z h9=>sS R (BJ (r:=qa r7) (caps:=[]) (bs:=[qa l,qa r6]) R iL R ⟨.inl ⟨iL,R⟩,.inl ⟨iL,R⟩,Za⟩ λ_=>PR<|Z)<|mA R<|aZ<|c4 _<|Zi<|Bz (P:=prog) (λ(r:(List AC))=>qa r) h9 iL<|.t<|.d R
theorem gY{d1 I l n o r}(h:SW d1 I l n o=some r):AR prog 4 [.agg [qb d1.Nodes],.agg<|Bf I,qa l,rS n,rS o] (rB r):=by
 unfold SW at h
 refine mF func4 ntmps4 R λq=>aU<|sS R (At (cs:=[qb d1.Nodes]) 5 R iL R R)<|sS R (At (cs:=(Bf I)) 6 R iL R R)<|mA R<|aZ<|aT λc2=>aU<|AG h λr1 au h1=>cL (eA<|au) R<|sQ R (BD R iL)<|aZ<|cI R h1 (λh2=>?_) λh2=>?_
 ·exact zB h2 R id
 refine Zc<|c2 _<|aU<|xC Bs R<|mM R<|mM R<|Ed h2 λr2 r3 av h3=>sS R (BJ (r:=.tup [.r<|.sl<|r2.map IZ,rI r3]) (caps:=[]) (bs:=[.agg [qb d1.Nodes],rS n,rS o]) R iL R ⟨.inl ⟨iL,R⟩,.inl ⟨iL,R⟩,.inl ⟨iL,R⟩,Za⟩ λ_=>lZ<|av)<|mM R<|xX R<|xX R<|mA R<|mA R<|aZ<|aT λc6=>aG [2,3,4,5,6,11,12] [5,6] ?_
 refine aR<|xC Bs R<|xC FR R<|mM R<|Ed h3 λM J aw h4=>sS R (BJ (r:=.tup [qa M,rI J]) (caps:=[]) (bs:=[.agg [qb d1.Nodes],.agg<|Bf I,qa l]) R iL R ⟨.inl ⟨iL,R⟩,.inl ⟨iL,R⟩,.inl ⟨iL,R⟩,Za⟩ λ_=>Xx<|aw)<|mM R<|xX R<|xX R<|mA R<|mA R<|aZ<|c6 _<|aU<|xC Bs R<|mM R<|Ed h4 λC m ax h5=>sS R (BJ (r:=.tup [qa C,rI m]) (caps:=[]) (bs:=[.agg [qb d1.Nodes],qa l]) R iL R ⟨.inl ⟨iL,R⟩,.inl ⟨iL,R⟩,Za⟩ λ_=>g8<|ax)<|mM R<|xX R<|xX R<|mA R<|mA R<|aZ<|aT λc8=>aT λc9=>aG [2,3,4,5,6,11,12,13,14,15,16] [5,6] ?_
 refine aR<|xC Bs R<|AG h5 λf1 ay h6=>cL (nJ<|ay) R<|mA R<|aZ<|c9 _<|aU<|mM R<|xU R<|aZ<|cI R h6 (λh7=>?_) λh7=>?_
 ·refine aT λaz=>aF [11,12,13,14,15,16,17] ?_
  exact aR<|mM R<|mM R<|xQ R<|mM R<|vM R<|vM R<|vQ R (A9 R (iR R)<|iR R)<|xN R<|mM R<|vM R<|vM R<|vQ R (A9 R (iR R)<|iR R)<|xN R<|mM R<|vM R<|vQ R (Cv R Ly.slice<|iR R)<|vM R<|vQ R (Cv R Ay.slice<|iR R)<|AG h7 λx2 b0 h8=>vQ R (Iu R (iR R) (iR R)<|Ad b0)<|vM R<|vQ R (Cv R Ay.slice<|iR R)<|AG h8 λx3 b1 h9=>vQ R (Iu R (iR R) (iR R)<|Ad b1)<|vQ R (A9 R (iR R) iL)<|xN R<|mA R<|aZ<|az _<|Zi<|yB h9 R
 refine Zc<|c8 _<|aU<|xC Bs R<|mM R<|mM R<|AG h7 λl1 b2 b3=>sS R (BJ (r:=qb l1) (caps:=[]) (bs:=[.agg [qb d1.Nodes],rS n,rS o]) R iL R ⟨.inl ⟨iL,R⟩,.inl ⟨iL,R⟩,.inl ⟨iL,R⟩,Za⟩ λ_=>XB<|b2)<|mA R<|aZ<|aT λb4=>aT λb5=>aG [2,5,6,11,12,13,14,15,16,18] [5,6] ?_
 refine aR<|mM R<|xU R<|mM R<|vM R<|vQ R (Cv R Ly.slice<|iR R)<|vM R<|vQ R (Cv R A8.slice<|iR R)<|vQ R (DL R (iR R)<|iR R)<|xO R<|aZ<|b5 _<|cI R b3 (λX=>?_) λX=>?_
 ·exact zB X R id
 refine Zc<|b4 _<|aS λb6 b7 ac=>aT λb8=>aG [2,5,6,11,13,14,15,16,18] [5,6] ?_
 refine aR<|mM R<|xL Ly R<|mM R<|aZ<|b8 _<|Ze<|BM X λo1 ad b9 ba=>?_
 have J1:∀(u2:Unit) (i5:NN),o1=.nrm u2→b6 ⟨[(2,qa l),(5,.ptr 5 q 0 0),(6,.ptr 6 (q+1) 0 0),(13,qa M),(14,rI J),(15,qa C),(16,rI m)],[(5,some<|.box q 24 [qb d1.Nodes]),(6,some<|.box (q+1) 37<|Bf I)],(i5 0),158⟩:=by
  intro u2 i5 e
  have bb:=b9 _ e
  refine b7 _<|aU<|xC FR R<|AG bb λZ bc bd=>cL (X3<|bc) R<|mM R<|AG bd λj be bf=>cL (RI<|be) R<|mA R<|mA R<|aZ<|aT λbg=>aS λbh bi F=>aR<|mM R<|xU R<|mM R<|vM R<|vM R<|vQ R (DL R (iR R)<|iR R)<|vQ R (AK R<|iR R)<|wQ R (AK R iL)<|wQ R (Cv R Ay.slice<|iR R)<|wQ R (DL R (iR R) iL)<|vQ R (CZ R (iR R)<|iR R)<|xN R<|mM R<|vM R<|vQ R (A9 R (iR R) iL)<|vQ R (AK R<|iR R)<|wQ R (AK R iL)<|wQ R (DL R (iR R) iL)<|wQ R (AK R<|iR R)<|wQ R (AK R iL)<|wQ R (DG R Bs iL R R)<|wQ R (AK R iL)<|BS bf λp2 ae bj=>?_
  have J2:∀(x7:Bool) (i6:NN),p2=x7→bh ⟨[(2,qa l),(5,.ptr 5 q 0 0),(6,.ptr 6 (q+1) 0 0),(13,qa M),(14,rI J),(20,rI Z),(21,rI j),(133,rB x7)],[(5,some<|.box q 24 [qb d1.Nodes]),(6,some<|.box (q+1) 37<|Bf I)],(i6 0),158⟩:=by
   intro x7 i6 e
   have bk:=bj _ e
   refine bi _<|cI R bk (λa0=>?_) λa0=>?_
   ·exact zB a0 R id
   refine Zc<|bg _<|aS λbl bm U=>aU<|mM R<|xQ R<|aZ<|BS a0 λp4 af bn=>?_
   have J3:∀(p3:Int) (i7:NN),p4=p3→bl ⟨[(2,qa l),(5,.ptr 5 q 0 0),(6,.ptr 6 (q+1) 0 0),(13,qa M),(14,rI J),(20,rI p3)],[(5,some<|.box q 24 [qb d1.Nodes]),(6,some<|.box (q+1) 37<|Bf I)],(i7 0),158⟩:=by
    intro p3 i7 e
    have bo:=bn _ e
    refine bm _<|aT λbp=>aU<|mM R<|xU R<|aZ<|cI R bo (λa1=>?_) λa1=>?_
    ·exact aU<|mM R<|mM R<|xQ R<|mM R<|vM R<|vQ R (Cv R Ay.slice<|iR R)<|vQ R (A9 R (iR R) iL)<|xN R<|mA R<|aZ<|Zi<|yB a1 R
    refine Zc<|bp _<|aS λbq br V=>aR<|mM R<|xQ R<|mM R<|vM R<|vQ R (DG R Bs iL R R)<|vF LK Bw R R<|vM R<|BS a1 λp5 ag bs=>?_
    have J4:∀(x8:Bool) (i8:NN),p5=x8→bq ⟨[(10,rB x8)],[],(i8 0),158⟩:=by
     intro x8 i8 e
     have bt:=bs _ e
     exact br _<|Zi<|yB bt R
    refine AX.split ((decide<|J=0)==true) (λE=>?_) λE=>?_
    ·have a2:=DN E ag
     refine ZJ (by exact Ht (e':=[(2,qa l),(5,.ptr 5 q 0 0),(6,.ptr 6 (q+1) 0 0),(13,qa M),(14,rI J),(20,rI p3),(137,rI p3),(138,rB<|(!(p3=0))),(147,rI J),(148,rB<|(decide<|J=0)),(149,rB<|(decide<|J=0)),(150,qa M),(151,.agg [qb d1.Nodes]),(152,.ptr 6 (q+1) 0 2),(153,qa I.Attrs),(154,qa l)]) E ⟨.inl R,.inl R,.inl R,.inl R,.inl R,.inl R,.inl R,.inl R,.inl R,.inl R,.inl R,.inr iL,.inr iL,.inr iL,.inr iL,.inr iL,Za⟩) ?_
     exact AG a2 λr8 bu bv=>ZN (.one R R R) E R R (BJ (r:=qa r8) (caps:=[]) (bs:=[.agg [qb d1.Nodes],qa I.Attrs,qa l]) R (.inl R) R ⟨.inl ⟨(.inl R),R⟩,.inl ⟨(.inl R),R⟩,.inl ⟨(.inl R),R⟩,Za⟩ λ_=>om<|bu)<|AG bv λr9 bw bx=>ZN (.one R R R) E R R (Cw (r:=rB r9) (caps:=[]) (bs:=[qa M,qa r8]) R (.inl R) R ⟨⟨_,(.inl R),.d R⟩,⟨_,(.inl R),.d R⟩,Za⟩ (λ_=>MP<|bw) R)<|sQ R (Bb R iL iL)<|mA R<|Zh<|V _ _ wk<|J4 _ (AH [(i7 0)]) (Zf bx).symm
    ·have a2:=DH E ag
     exact Zy (.one R R R) E R R<|Zy (.one R R R) E R R<|xN R<|mA R<|Zh<|V _ _ wk<|J4 _ (AH [(i7 0)]) (Zf a2).symm
   refine aC R (λa6=>?_) λa6=>?_
   ·have a7:=DN a6 af
    exact aR<|mM R<|mA R<|Zh<|U _ _ wk<|J3 _ (AH [(i6 0)]) (Zf a7).symm
   ·have a7:=DH a6 af
    exact Zc<|U _ _ wk<|J3 _ (AH [(i6 0)]) (Zf a7).symm
  refine AX.split (((!(j=0))&&((!(m=j))||(!((C.length:Int)=0))))==false) (λw=>?_) λw=>?_
  ·have O:=DN w ae
   refine ZJ (by exact Ht (e':=[(2,qa l),(5,.ptr 5 q 0 0),(6,.ptr 6 (q+1) 0 0),(13,qa M),(14,rI J),(15,qa C),(16,rI m),(20,rI Z),(21,rI j),(102,.agg<|Bf I),(103,rI Z),(104,qa l),(105,rI j),(106,rI j),(107,rB<|(!(j=0))),(108,rB<|(!(j=0))),(117,rB<|((!(j=0))&&((!(m=j))||(!((C.length:Int)=0))))),(118,rB<|((!(j=0))&&((!(m=j))||(!((C.length:Int)=0))))),(119,rI j),(120,rB<|(decide<|j=0)),(121,rB<|(decide<|j=0)),(122,.whn ((decide<|j=0)==true)<|rI m),(123,.whn ((decide<|j=0)==true)<|rB<|(!(m=0))),(124,.whn ((decide<|j=0)==true)<|rB<|(!(m=0))),(125,.whn (((decide<|j=0)==true)&&((!(m=0))==false))<|qa C),(126,.whn (((decide<|j=0)==true)&&((!(m=0))==false))<|.agg [qb d1.Nodes]),(127,.whn (((decide<|j=0)==true)&&((!(m=0))==false))<|qa l)]) w ⟨.inl R,.inl R,.inl R,.inl R,.inl R,.inl R,.inl R,.inl R,.inl R,.inl R,.inl R,.inl R,.inl R,.inl R,.inl R,.inl R,.inl R,.inl R,.inr iL,.inr iL,.inr iL,.inr<|.inr<|.inl ⟨_,_,R,R⟩,.inr<|.inr<|.inl ⟨_,_,R,R⟩,.inr<|.inr<|.inl ⟨_,_,R,R⟩,.inr<|.inr<|.inr ⟨_,_,_,R,R⟩,.inr<|.inr<|.inr ⟨_,_,_,R,R⟩,.inr<|.inr<|.inr ⟨_,_,_,R,R⟩,Za⟩) ?_
   refine AX.split ((decide<|j=0)==true) (λA=>?_) λA=>?_
   ·have T:=DN A O
    refine ZJ (by exact Ht (e':=[(2,qa l),(5,.ptr 5 q 0 0),(6,.ptr 6 (q+1) 0 0),(13,qa M),(14,rI J),(15,qa C),(16,rI m),(20,rI Z),(21,rI j),(102,.agg<|Bf I),(103,rI Z),(104,qa l),(105,rI j),(106,rI j),(107,rB<|(!(j=0))),(108,rB<|(!(j=0))),(117,rB<|((!(j=0))&&((!(m=j))||(!((C.length:Int)=0))))),(118,rB<|((!(j=0))&&((!(m=j))||(!((C.length:Int)=0))))),(119,rI j),(120,rB<|(decide<|j=0)),(121,rB<|(decide<|j=0)),(122,rI m),(123,rB<|(!(m=0))),(124,rB<|(!(m=0))),(125,.whn ((!(m=0))==false)<|qa C),(126,.whn ((!(m=0))==false)<|.agg [qb d1.Nodes]),(127,.whn ((!(m=0))==false)<|qa l)]) A ⟨.inl R,.inl R,.inl R,.inl R,.inl R,.inl R,.inl R,.inl R,.inl R,.inl R,.inl R,.inl R,.inl R,.inl R,.inl R,.inl R,.inl R,.inl R,.inl R,.inl R,.inl R,.inr iL,.inr iL,.inr iL,.inr<|.inr<|.inl ⟨_,_,R,R⟩,.inr<|.inr<|.inl ⟨_,_,R,R⟩,.inr<|.inr<|.inl ⟨_,_,R,R⟩,Za⟩) ?_
    refine AX.split ((!(m=0))==false) (λB=>?_) λB=>?_
    ·have a8:=DN B T
     refine ZJ (by exact Ht (e':=[(2,qa l),(5,.ptr 5 q 0 0),(6,.ptr 6 (q+1) 0 0),(13,qa M),(14,rI J),(15,qa C),(16,rI m),(20,rI Z),(21,rI j),(102,.agg<|Bf I),(103,rI Z),(104,qa l),(105,rI j),(106,rI j),(107,rB<|(!(j=0))),(108,rB<|(!(j=0))),(117,rB<|((!(j=0))&&((!(m=j))||(!((C.length:Int)=0))))),(118,rB<|((!(j=0))&&((!(m=j))||(!((C.length:Int)=0))))),(119,rI j),(120,rB<|(decide<|j=0)),(121,rB<|(decide<|j=0)),(122,rI m),(123,rB<|(!(m=0))),(124,rB<|(!(m=0))),(125,qa C),(126,.agg [qb d1.Nodes]),(127,qa l)]) B ⟨.inl R,.inl R,.inl R,.inl R,.inl R,.inl R,.inl R,.inl R,.inl R,.inl R,.inl R,.inl R,.inl R,.inl R,.inl R,.inl R,.inl R,.inl R,.inl R,.inl R,.inl R,.inl R,.inl R,.inl R,.inr iL,.inr iL,.inr iL,Za⟩) ?_
     exact AG a8 λah ai bz=>ZN (.one R R R) B R R (BJ (r:=qa ah) (caps:=[]) (bs:=[.agg [qb d1.Nodes],qa l]) R (.inl R) R ⟨.inl ⟨(.inl R),R⟩,.inl ⟨(.inl R),R⟩,Za⟩ λ_=>oY<|ai)<|AG bz λc0 aj c1=>ZN (.one R R R) B R R (Cw (r:=rB c0) (caps:=[]) (bs:=[qa C,qa ah]) R (.inl R) R ⟨⟨_,(.inl R),.d R⟩,⟨_,(.inl R),.d R⟩,Za⟩ (λ_=>MP<|aj) R)<|ZN (.one R R R) B R R (B2 (BD R<|.inl R) _)<|ZN (.one R R R) A R R (B2 (CZ R (.inl R)<|.inl R) _)<|ZN (.one R R R) w R R (B2 (Bb R (.inl R)<|.inl R) _)<|sQ R (CZ R iL iL)<|Zh<|F _ _ wk<|J2 _ (AH [(i5 0)]) (Zf c1).symm
    ·have a8:=DH B T
     exact Zy (.one R R R) B R R<|Zy (.one R R R) B R R<|Zy (.one R R R) B R R<|ZN (.one R R R) A R R (B2 (CZ R (.inl R)<|iR R) _)<|ZN (.one R R R) w R R (B2 (Bb R (.inl R)<|.inl R) _)<|sQ R (CZ R iL iL)<|Zh<|F _ _ wk<|J2 _ (AH [(i5 0)]) (Zf a8).symm
   ·have T:=DH A O
    exact Zy (.two R R R) (GU A) R R<|Zy (.two R R R) (GU A) R R<|Zy (.two R R R) (GU A) R R<|Zy (.one R R R) A R R<|ZN (.one R R R) w R R (B2 (Bb R (.inl R)<|iR R) _)<|sQ R (CZ R iL iL)<|Zh<|F _ _ wk<|J2 _ (AH [(i5 0)]) (Zf T).symm
  ·have O:=DH w ae
   exact Zy (.two R R R) (GU<|GU w) R R<|Zy (.two R R R) (GU<|GU w) R R<|Zy (.two R R R) (GU<|GU w) R R<|Zy (.two R R R) (GU w) R R<|Zy (.one R R R) w R R<|xO R<|Zh<|F _ _ wk<|J2 _ (AH [(i5 0)]) (Zf O).symm
 refine Zt (λ(x5:Int) i3=>⟨[(2,qa l),(5,.ptr 5 q 0 0),(6,.ptr 6 (q+1) 0 0),(11,.r<|.sl<|r2.map IZ),(13,qa M),(14,rI J),(15,qa C),(16,rI m),(18,qb l1),(86,rL r2),(87,rI x5)],[(5,some<|.box q 24 [qb d1.Nodes]),(6,some<|.box (q+1) 37<|Bf I)],(i3 0),158⟩) (AH [(q+2)]) ad wk ?_
 intro x5 i3 v1 c3 ak
 have al:HS r2 l1 x5=some v1:=c3;unfold HS at al
 refine aU<|xS R<|aZ<|aT λc4=>cI R al (λaa=>?_) λaa=>?_
 ·refine Zc<|c4 _<|aT λc5=>Ze<|aU<|mM R<|mA R<|aZ<|aT λc7=>?_
  refine ZB BR (by kernel_rfl) ?_
  refine qP R (AK R iL)<|qP R (AK R iL)<|AG aa λx9 ca cb=>qP R (BB R Ly.slice iL iL (λ_=>R) λ_=>ca)<|qP R (Bt (d:=.str x9) R A6 iL R)<|qP R (AK R iL)<|qP R (AK R iL)<|AG cb λan ao cc=>qP R (BB R A8.slice iL iL (λ_=>R) λ_=>ao)<|qP R (BK R Eg iL)<|qP R (Bt (d:=.sl<|an.Attrs.map AC.row) R Bw iL R)<|AG cc λcd aq cf=>AQ.stepC R R R (r:=rS cd) (caps:=[]) (bs:=[qa an.Attrs,.r<|.str [110,97,109,101]]) R iL R ⟨⟨_,iL,.d R⟩,⟨_,iL,.d R⟩,Za⟩ (λ_=>JX<|aq) R<|qP R (Dt R iL iL)<|AQ.nil<|c7 _<|cI R cf (λab=>?_) λab=>?_
  ·exact zB (ba _<|xH ak ab) R id
  refine Zc<|c5 _<|aG [2,5,6,11,13,14,15,16,18,86,87] [5,6] ?_
  exact aR<|AG ab λch ar cg=>xA R ar<|mM R<|Zh<|Zq cg (AH [(i3 0)]) wk
 exact Zm<|ac _ _ wk<|J1 _ (AH [(i3 0)])<|xH ak aa



end Go.Proofs.YtifgmfoihehlbaaGreatDoor.Al
