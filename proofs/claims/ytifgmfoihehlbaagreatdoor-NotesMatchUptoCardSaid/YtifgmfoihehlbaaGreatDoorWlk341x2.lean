/- Walks, as printed. -/
import Derived.Test.YtifgmfoihehlbaaGreatDoorWlk341
import Derived.Test.YtifgmfoihehlbaaGreatDoorProg
set_option linter.all false
set_option maxHeartbeats 4000000
set_option maxRecDepth 20000
set_option linter.unusedVariables false
namespace Go.Proofs.YtifgmfoihehlbaaGreatDoor.Al
open Go.Proofs Go.Proofs.Tryz
theorem Z1{r}(h:M4=some r):Aa prog 5 [] (rB r):=by
 unfold M4 at h
 refine mF func5 ntmps5 R λn0=>aU<|mA R<|aZ<|aT λO=>aR ?_
 refine sQ R (Bu R Kb (q:=[(1,_)]) (by exact⟨R,R,R,iL,Za⟩) (cs:=Yi)<|by rfl) ?_
 refine AE h λj q T=>sS R (Cb (r:=.agg<|Bg j) (caps:=[]) (bs:=[]) R iL R Za λ_=>T1<|q)<|sS R (Bj 6 R Bb (f:=AN.row) (l:=([(AN.mk 0 3 []),j]:List AN)) ⟨R,⟨_,iL,R⟩,R,⟨_,iL,R⟩,Za⟩ R (λ_=>R) R) ?_
 refine AS.weak (by exact Am.frz (e':=[(0,rB false),(4,.agg Yi),(5,.agg<|Bg j),(6,.r<|.sl<|[(AN.mk 0 3 []),j].map AN.row)]) (h':=[]) 6 R ⟨jL,jL,jL,.inl<|.inr<|.inr ⟨R,R⟩,Za⟩ Za) ?_
 refine AE T λw1 A U=>?_
 refine Zy [7] (hc:=[]) (bs:=[.r<|.sl<|[(AN.mk 0 3 []),j].map AN.row]) (caps:=[]) R R R R iL R ⟨.inl ⟨iL,R⟩,Za⟩ Za (by decide) (dW A) ?_
 intro w m
 refine BZ [0,4,5,6,7] [7] ?_
 refine sS R (BI (cs:=[cZ]) 1 R MK R R)<|Zj R R (A5 (ds:=[.own 7<|w 0]) R Kr iL R iL R R R R)<|aZ<|O _<|aT λV=>?_
 refine GJ 6 [pO 8<|.ptr 1 m 0 0,pO 9<|.own 7<|w 0,pO 10<|.agg<|Bg j,⟨some 11,(λ_=>.r<|.sl<|[j].map AN.row),some (11,(λ_=>none)),[]⟩,pO 12<|.agg [rI 3,rI 4,cZ,.r<|.sl<|[j].map AN.row,rI 0,rI 0,cZ,cZ,cZ],⟨some 13,(λl=>.own 13<|l 5),some (13,(λl=>some<|.arr (l 5) 54 9<|[(AO.mk 3 4 [] [j] (Av.mk 0 0 [] []) [])].map AO.row)),[5]⟩] BM (by kernel_rfl) (by exact⟨λ_ _ h=>⟨R,λ_ _ e=>by cases e⟩,λ_ _ h=>⟨R,λ_ _ e=>by cases e⟩,λ_ _ h=>⟨R,λ_ _ e=>by cases e⟩,λ_ _ h=>⟨R,λ_ _ e=>by cases e;rfl⟩,λ_ _ h=>⟨R,λ_ _ e=>by cases e⟩,λ_ _ h=>⟨by simp only[h 5 R],λ_ _ e=>by cases e;simp only[h 5 R]⟩,Za⟩) R (by exact⟨oB [(1,.ptr 1 m 0 0)] [(1,some<|.box m 24 [.own 7<|w 0])]<|fB R B6 (.inl R) (λ_=>R) R,oB [(8,.ptr 1 m 0 0)] [(1,some<|.box m 24 [.own 7<|w 0])]<|AY (a:=.own 7<|w 0) R CA (.inl R) R R,oD (λ_=>[]) (λ_=>[]) λl e h' n=>Cb (r:=.agg<|Bg j) (caps:=[]) (bs:=[]) R (.inl R) R Za λ_=>T1<|q,Uj R R (by intro d h;cases h;rfl) R (λ_=>[(10,.agg<|Bg j)]) (λ_=>[]) (λD l M=>⟨Tq M 2 R R (by kernel_rfl) R R,Za⟩) (λD l M=>Za) λl e h' n=>Fy.frz<|Bc.toN<|Bj 11 R Bb (f:=AN.row) (l:=([j]:List AN)) ⟨R,⟨_,(.inl R),R⟩,Za⟩ R (λ_=>R) R,oB [(11,.r<|.sl<|[j].map AN.row)] []<|Bu R Kq (q:=[(0,_),(1,_),(3,_)]) (by exact⟨R,R,R,(.inl R),R,R,R,(.inl R),R,R,R,(.inl R),Za⟩) (cs:=[rI 3,rI 4,cZ,.r<|.sl<|[j].map AN.row,rI 0,rI 0,cZ,cZ,cZ])<|by rfl,oM (λ_=>[(12,.agg [rI 3,rI 4,cZ,.r<|.sl<|[j].map AN.row,rI 0,rI 0,cZ,cZ,cZ])]) (λ_=>[]) R λl e h' n=>Bj 13 R Bh (f:=AO.row) (l:=([(AO.mk 3 4 [] [j] (Av.mk 0 0 [] []) [])]:List AO)) ⟨R,⟨_,(.inl R),R⟩,Za⟩ R (λ_=>R) R,Za⟩) λl X=>?_
 refine BZ [0,1,4,5,6,7,8,9,10,11,12,13] [1,7,13] ?_
 refine AE U λB C Z=>sS R (Cj R Bh iL R (.inr<|.inl ⟨_,_,iL,R⟩) C)<|sQ R (fB R B6 iL fR R)<|Zj R R (A5 (ds:=[.own 7 X]) R pY iL R iL R R R R)<|aZ<|V _<|aT λc4=>aG [1] [1,7] ?_
 refine aR<|xC Bz R ?_
 refine AS.weak (by exact Am.frz (e':=[(1,.ptr 1 m 0 0),(17,.agg [qb B])]) (h':=[(1,some<|.box m 24 [qb B])]) 7 R ⟨jL,.inr ⟨_,_,R,R,⟨.inr<|.inr ⟨R,R⟩,Za⟩⟩,Za⟩ ⟨R,.inr<|.inr<|.inl ⟨_,_,_,_,R,R,⟨.inr<|.inr ⟨R,R⟩,Za⟩⟩,Za⟩) ?_
 refine E4 Z λr3 r4 E h4=>sS R (Cb (r:=.tup [qi r3,rI r4]) (caps:=[]) (bs:=[.agg [qb B],rI 2]) R iL R ⟨.inl ⟨iL,R⟩,.inl ⟨iL,R⟩,Za⟩ λ_=>VO<|E)<|mM R<|xX R<|xX R<|mA R<|mA R<|aZ<|c4 _<|aT λc5=>aR<|AE h4 λr5 F h5=>cL (jE<|F) R<|mM R<|vM R<|vQ R (A4 R (iR R) iL)<|xN R<|mM R<|vM R<|vQ R (DK R FE.slice<|iR R)<|vQ R (A4 R (iR R) iL)<|xN R<|mM R<|vM R<|AE h5 λI J h6=>vQ R (A9 R FE.slice (iR R) iL (λ_=>R)<|Ag J)<|vQ R (CN (cs:=[rI I.Node,rI I.Number,rB I.End]) R S8 (iR R) R R) ?_
 refine vQ R (Bu R Mw (q:=[(0,_),(1,_)]) (by exact⟨R,R,R,iL,R,R,R,iL,Za⟩) (cs:=[rI 3,rI 1,rB false])<|by rfl) ?_
 exact vQ R (ew R Uo (iR R) (iR R) R)<|xN R<|mA R<|aZ<|c5 _<|Zl<|yB h6 R
theorem Dr{j l a r}(h:DF j l a=some r):Aa prog 45 [rI j,rI l,rI a] (rB r):=by
 unfold DF at h
 exact mF func45 ntmps45 R λm=>aU<|mA R<|aZ<|aU<|mM R<|mM R<|sQ R (DT R iL iL)<|mM R<|vM R<|vM R<|vQ R (FT R (iR R)<|iR R)<|xN R<|mA R<|aZ<|Zl<|yB h R
theorem W6{l r}(h:Mi l=some r):Aa prog 46 [rS l] (rB r):=by
 unfold Mi at h
 refine mF func46 ntmps46 R λX=>aU<|mA R<|aZ<|aS λZ c2 A=>aU<|mM R<|sQ R (Dq R underlying9 iL)<|mM R<|aZ<|Zg<|BS h λo1 m B C=>?_
 have J1:∀(T:Unit) (U:NN),o1=.nrm T→Z ⟨[(0,rS l)],[],(U 0),59⟩:=by
  intro T U e
  have h1:=B _ e
  exact c2 _<|aU<|mM R<|sQ R (Dq R underlying9 iL)<|sQ R (DT R iL iL)<|mM R<|vM R<|vQ R (Dq R underlying9<|iR R)<|vQ R (FT R (iR R) iL)<|xN R<|mA R<|aZ<|Zl<|yB h1 R
 refine Zu (λ(E:Int) w=>⟨[(0,rS l),(6,rL l),(7,rI E)],[],(w 0),59⟩) (AH [X]) m wk ?_
 intro E w v1 F q
 have V:Lx l E=some v1:=F;unfold Lx at V
 refine aU<|xS R<|aZ<|aT λc6=>cI R V (λI=>?_) λI=>?_
 ·refine Zc<|c6 _<|aT λc7=>Zg<|aU<|mM R<|mA R<|aZ<|aU<|mM R<|mM R<|AE I λa0 j h4=>sQ R (Co R underlying9 iL iL λ_=>j)<|sQ R (DT R iL iL)<|mM R<|vM R<|vM R<|vQ R (Co R underlying9 (iR R) (iR R) λ_=>j)<|vQ R (FT R (iR R) iL)<|xN R<|mA R<|aZ<|aT λJ=>aR<|mM R<|sQ R (BE R iL)<|mM R<|vM R<|vQ R (A4 R (iR R) iL)<|vQ R (AM R<|iR R)<|wQ R (AM R iL)<|wQ R (AM R iL)<|wQ R (Co R underlying9 (iR R) (iR R) λ_=>j)<|wQ R (DJ R (iR R) iL)<|wQ R (AM R<|iR R)<|wQ R (AM R iL)<|wQ R (AM R iL)<|wQ R (Co R underlying9 (iR R) (iR R) λ_=>j)<|wQ R (DJ R (iR R) iL)<|wQ R (Bd R (iR R)<|iR R)<|wQ R (AM R<|iR R)<|wQ R (AM R iL)<|wQ R (AM R iL)<|wQ R (Co R underlying9 (iR R) (iR R) λ_=>j)<|wQ R (CO R (iR R) iL)<|wQ R (AM R<|iR R)<|wQ R (AM R iL)<|wQ R (AM R iL)<|wQ R (Co R underlying9 (iR R) (iR R) λ_=>j)<|wQ R (Bk R (iR R) iL)<|wQ R (Cp R (iR R)<|iR R)<|wQ R (Bd R (iR R)<|iR R)<|vQ R (Cp R (iR R)<|iR R)<|xN R<|aZ<|J _<|cI R h4 (λM=>?_) λM=>?_
  ·exact zB (C _<|xH q M) R id
  refine Zc<|c7 _<|aF [0,6,7] ?_
  exact aR<|AE M λx4 O h6=>xA R O<|mM R<|Zh<|Zr h6 (AH [(w 0)]) wk
 exact Zm<|A _ _ wk<|J1 _ (AH [(w 0)])<|xH q I
theorem XA{l r}(h:MF l=some r):Aa prog 47 [rS l] (rB r):=by
 unfold MF at h
 refine mF func47 ntmps47 R λV=>aU<|mA R<|aZ<|aS λX Z A=>aU<|mM R<|sQ R (Dq R underlying9 iL)<|mM R<|aZ<|Zg<|BS h λo1 m B C=>?_
 have J1:∀(O:Unit) (T:NN),o1=.nrm O→X ⟨[(0,rS l)],[],(T 0),28⟩:=by
  intro O T e
  have h1:=B _ e
  exact Z _<|aU<|mM R<|sQ R (Dq R underlying9 iL)<|sQ R (DT R iL iL)<|mM R<|vM R<|vQ R (Dq R underlying9<|iR R)<|vQ R (FT R (iR R) iL)<|xN R<|mA R<|aZ<|Zl<|yB h1 R
 refine Zu (λ(E:Int) w=>⟨[(0,rS l),(5,rL l),(6,rI E)],[],(w 0),28⟩) (AH [V]) m wk ?_
 intro E w v1 F q
 have U:PQ l E=some v1:=F;unfold PQ at U
 refine aU<|xS R<|aZ<|aT λc6=>cI R U (λI=>?_) λI=>?_
 ·refine Zc<|c6 _<|aT λc7=>Zg<|aU<|mM R<|mA R<|aZ<|aU<|mM R<|mM R<|AE I λa0 j h4=>sQ R (Co R underlying9 iL iL λ_=>j)<|xS R<|mM R<|vM R<|vM R<|vQ R (Co R underlying9 (iR R) (iR R) λ_=>j)<|vQ R (Bk R (iR R) iL)<|xO R<|aZ<|cI R h4 (λJ=>?_) λJ=>?_
  ·exact zB (C _<|xH q J) R id
  refine Zc<|c7 _<|aF [0,5,6] ?_
  exact aR<|AE J λx4 M h6=>xA R M<|mM R<|Zh<|Zr h6 (AH [(w 0)]) wk
 exact Zm<|A _ _ wk<|J1 _ (AH [(w 0)])<|xH q I
theorem TR{w c r}(h:Kl w c=some r):Aa prog 17 [qa w,rB c] (rI r):=by
 unfold Kl at h
 refine mF func17 ntmps17 R λn0=>aU<|mA R<|aZ<|aS λK2 c2 E=>aU<|mM R<|xL BH R<|mM R<|aZ<|Zg<|BS h λo1 A F m=>?_
 have J1:∀(u2:Unit) (i5:NN),o1=.nrm u2→K2 ⟨[],[],(i5 0),54⟩:=by
  intro u2 i5 e
  have h1:=F _ e
  exact c2 _<|zI h1 R id
 refine Zu (λ(I:Int) B=>⟨[(0,qa w),(1,rB c),(7,rL w),(8,rI I)],[],(B 0),54⟩) (AH [n0]) A wk ?_
 intro I B v1 J j
 have h2:LN w c I=some v1:=J;unfold LN at h2
 refine aU<|xS R<|aZ<|aT λc6=>cI R h2 (λM=>?_) λM=>?_
 ·refine Zc<|c6 _<|aT λc7=>Zg<|aU<|mM R<|mA R<|aZ<|aT λc9=>aU<|mM R<|mM R<|AE M λC l h4=>xI BH R l<|sQ R (BL R Ek iL)<|xV (.str C.Name) BK R<|AE h4 λr1 O h5=>cL (W6<|O) R<|sQ R (BE R iL)<|aZ<|cI R h5 (λT=>?_) λT=>?_
  ·exact zI (m _<|xH j T) R id
  refine Zc<|c9 _<|aT λU=>aT λV=>aF [0,1,5,7,8] ?_
  refine aR<|mM R<|mM R<|xI BH R l<|sQ R (BL R JQ iL)<|xV (.str C.Value) BK R<|AE T λr2 X h7=>cL (XA<|X) R<|sQ R (BE R iL)<|mM R<|vM R<|vM R<|vQ R (A9 R BH.slice (iR R) (iR R) (λ_=>R) λ_=>l)<|vQ R (BL R JQ<|iR R)<|vQ R (Bs (d:=.str C.Value) R BK (iR R) R)<|vQ R (D1 R (iR R) iL)<|vQ R (AM R<|iR R)<|wQ R (AM R iL)<|wQ R (BE R<|iR R)<|vQ R (Cp R (iR R)<|iR R)<|xN R<|aZ<|V _<|cI R h7 (λZ=>?_) λZ=>?_
  ·exact zI (m _<|xH j Z) R id
  refine Zc<|U _<|aT λa0=>aF [0,1,5,7,8] ?_
  refine Zx BM (by kernel_rfl) ?_
  refine qP R (AM R iL)<|qP R (Bk R iL iL)<|qP R (AM R iL)<|qO R (AM R iL)<|qO R (AM R iL)<|AE Z λx5 a1 h9=>qO R (CX R (iR R) iL<|Ag a1)<|AE h9 λx6 a2 a6=>qO R (A9 R BH.slice (iR R) (iR R) (λ_=>R)<|Ag a2)<|qO R (BL R Ek<|iR R)<|qO R (Bs (d:=.str x6.Name) R BK (iR R) R)<|qO R (AM R iL)<|qO R (AM R iL)<|qO R (A9 R BH.slice (iR R) (iR R) (λ_=>R) λ_=>l)<|qO R (BL R Ek<|iR R)<|qO R (Bs (d:=.str C.Name) R BK (iR R) R)<|qO R (Xo R (iR R)<|iR R)<|qP R (Bd R iL<|iR R)<|AQ.nil<|a0 _<|cI R a6 (λq=>?_) λq=>?_
  ·exact zI (m _<|xH j q) R id
  exact Zc<|c7 _<|aR<|AE q λx7 a7 a8=>xA R a7<|mM R<|Zh<|Zr a8 (AH [(B 0)]) wk
 exact Zm<|E _ _ wk<|J1 _ (AH [(B 0)])<|xH j M
theorem Qb{k r}(h:Ko k=some r):Aa prog 31 [rI k] (rB r):=by
 unfold Ko at h
 exact mF func31 ntmps31 R λj=>aU<|mA R<|aZ<|aU<|mM R<|xQ R<|mM R<|vM R<|vQ R (A4 R (iR R) iL)<|xO R<|mM R<|vM R<|vQ R (A4 R (iR R) iL)<|xO R<|mM R<|vM R<|vQ R (A4 R (iR R) iL)<|xO R<|mA R<|aZ<|Zl<|yB h R
theorem gL{k r}(h:Q9 k=some r):Aa prog 71 [rI k] (rB r):=by
 unfold Q9 at h
 exact mF func71 ntmps71 R λj=>aU<|mA R<|aZ<|aU<|mM R<|xQ R<|mM R<|vM R<|vQ R (A4 R (iR R) iL)<|xO R<|mA R<|aZ<|Zl<|yB h R
theorem oO{j r}(h:NZ j=some r):Aa prog 72 (Sl j) (rB r):=by
 unfold NZ at h
 exact mF func72 ntmps72 R λl=>aU<|sS R (A6 (cs:=(B7 j)) 1 R iL R R)<|mA R<|aZ<|aU<|lF Gc AI R R<|xQ R<|mM R<|vF GZ AI R R<|vQ R (A4 R (iR R) iL)<|xN R<|mM R<|vF DX Dc R R<|vQ R (DK R Bx.slice<|iR R)<|vQ R (A4 R (iR R) iL)<|xN R<|mM R<|vF EP Ei R R<|vQ R (DK R Cz.slice<|iR R)<|vQ R (A4 R (iR R) iL)<|xN R<|mA R<|aZ<|Zl<|yB h R
theorem WN{k r}(h:Pe k=some r):Aa prog 73 [rI k] (rB r):=by
 unfold Pe at h
 exact mF func73 ntmps73 R λj=>aU<|mA R<|aZ<|aU<|mM R<|xQ R<|mM R<|vM R<|vQ R (A4 R (iR R) iL)<|xO R<|mA R<|aZ<|Zl<|yB h R
theorem fd{k r}(h:Rc k=some r):Aa prog 74 [rI k] (rB r):=by
 unfold Rc at h
 exact mF func74 ntmps74 R λj=>aU<|mA R<|aZ<|aU<|mM R<|xQ R<|mM R<|vM R<|vQ R (A4 R (iR R) iL)<|xO R<|mM R<|vM R<|vQ R (A4 R (iR R) iL)<|xO R<|mA R<|aZ<|Zl<|yB h R
theorem Vy{c1 r}(h:Mp c1=some r):Aa prog 44 [rI c1] (rB r):=by
 unfold Mp at h
 exact mF func44 ntmps44 R λB=>aU<|mA R<|aZ<|aU<|mM R<|xQ R<|mM R<|vM R<|vQ R (A4 R (iR R) iL)<|xO R<|mM R<|vM R<|AE h λC j q=>vL (λhg=>Dr<|Ag j hg) R<|xO R<|mM R<|vM R<|AE q λE l w=>vL (λhg=>Dr<|Ag l hg) R<|xO R<|mM R<|vM R<|AE w λF m A=>vL (λhg=>Dr<|Ag m hg) R<|xO R<|mA R<|aZ<|Zl<|yB A R
theorem lZ{j r}(h:M3 j=some r):Aa prog 16 (XE j) (rI r):=by
 unfold M3 at h
 refine mF func16 ntmps16 R λT=>aU<|sS R (A6 (cs:=(Bg j)) 1 R iL R R)<|mA R<|aZ<|aT λB=>aU<|lF Fh AI R R<|xQ R<|mM R<|vF Cm AI R R<|vQ R (A4 R (iR R) iL)<|xN R<|mM R<|vF Fh AI R R<|vQ R (DJ R (iR R) iL)<|vQ R (AM R<|iR R)<|wQ R (fB R Cm iL fR R)<|wQ R (AY (a:=rI j.Ref) R AI (iR R) R R)<|wQ R (DJ R (iR R) iL)<|vQ R (Bd R (iR R)<|iR R)<|xO R<|aZ<|cI R h (λl=>?_) λl=>?_
 ·exact zI l R id
 refine Zc<|B _<|aT λC=>aT λE=>aG [1] [1] ?_
 refine aR<|lF Fh AI R R<|xU R<|mM R<|vF Fh AI R R<|AE l λU m F=>vL (λhg=>Vy<|Ag m hg) R<|vQ R (BE R<|iR R)<|xN R<|mM R<|vF Cm AI R R<|vQ R (DJ R (iR R) iL)<|vQ R (AM R<|iR R)<|wQ R (fB R Cm iL fR R)<|wQ R (AY (a:=rI j.Ref) R AI (iR R) R R)<|AE F λI q J=>AS.stepW (.two R R R) R R (DU (r:=rB I) (caps:=[]) (bs:=[rI j.Ref,rI 1,rI 1073741824]) R iL R ⟨⟨_,(iR R),.d R⟩,⟨_,iL,.d R⟩,⟨_,iL,.d R⟩,Za⟩ (λhg=>Dr<|Ag q hg) R)<|wQ R (BE R<|iR R)<|vQ R (Bd R (iR R)<|iR R)<|xO R<|aZ<|E _<|cI R J (λw=>?_) λw=>?_
 ·exact zI w R id
 refine Zc<|C _<|aT λM=>aG [1] [1] ?_
 exact aR<|lF H9 CR R R<|AE w λV A O=>cL (TR<|A) R<|mA R<|aZ<|M _<|Zl<|yI O R
theorem gi{m a r}(h:Iy m a=some r):Aa prog 75 [qe m,rB a] (rI r):=by
 unfold Iy at h
 refine mF func75 ntmps75 R λn0=>aU<|mA R<|aZ<|aS λK2 c2 C=>aU<|mM R<|xL Bb R<|mM R<|aZ<|Zg<|BS h λo1 q E w=>?_
 have J1:∀(u2:Unit) (i5:NN),o1=.nrm u2→K2 ⟨[(0,qe m),(1,rB a)],[],(i5 0),47⟩:=by
  intro u2 i5 e
  have h1:=E _ e
  refine c2 _<|aT λc4=>aU<|mM R<|mM R<|vM R<|vQ R (DK R Bb.slice<|iR R)<|vQ R (A4 R (iR R) iL)<|vQ R (AM R<|iR R)<|wQ R (AM R iL)<|wQ R (AM R iL)<|wQ R (DK R Bb.slice<|iR R)<|AE h1 λx4 F h2=>wQ R (CX R (iR R) iL<|Ag F)<|AE h2 λx5 I h3=>wQ R (A9 R Bb.slice (iR R) (iR R) (λ_=>R)<|Ag I)<|wQ R (BL R Fh<|iR R)<|wQ R (Bs (d:=.int .i64 x5.Char) R AI (iR R) R)<|wQ R (DJ R (iR R) iL)<|vQ R (Cp R (iR R)<|iR R)<|xN R<|aZ<|cI R h3 (λJ=>?_) λJ=>?_
  ·exact zI J R id
  exact Zc<|c4 _<|zI J R id
 refine Zu (λ(M:Int) B=>⟨[(0,qe m),(1,rB a),(8,rL m),(9,rI M)],[],(B 0),47⟩) (AH [n0]) q wk ?_
 intro M B v1 O j
 have h5:KT m a M=some v1:=O;unfold KT at h5
 refine aU<|xS R<|aZ<|aT λc9=>cI R h5 (λT=>?_) λT=>?_
 ·refine Zc<|c9 _<|aT λU=>Zg<|aU<|mM R<|mA R<|aZ<|aT λV=>aU<|mM R<|mM R<|AE T λx6 A h7=>xI Bb R A<|xB ((Bg x6)) Fr R<|AE h7 λe1 X h8=>cL (lZ<|X) R<|mA R<|aZ<|aU<|mM R<|xU R<|aZ<|cI R h8 (λZ=>?_) λZ=>?_
  ·refine aT λa0=>aF [6] ?_
   exact aR<|mM R<|mA R<|aZ<|a0 _<|Zl<|yI (w _<|xH j Z) R
  refine Zc<|V _<|aT λa1=>aF [0,1,5,8,9] ?_
  refine aR<|mM R<|sQ R (BE R iL)<|mM R<|vM R<|vM R<|vQ R (A9 R Bb.slice (iR R) (iR R) (λ_=>R) λ_=>A)<|vQ R (BL R Fh<|iR R)<|vQ R (Bs (d:=.int .i64 x6.Char) R AI (iR R) R)<|vQ R (DJ R (iR R) iL)<|xN R<|aZ<|a1 _<|cI R Z (λl=>?_) λl=>?_
  ·exact zI (w _<|xH j l) R id
  exact Zc<|U _<|aR<|AE l λx7 a2 a6=>xA R a2<|mM R<|Zh<|Zr a6 (AH [(B 0)]) wk
 exact Zm<|C _ _ wk<|J1 _ (AH [(B 0)])<|xH j T
theorem ki{j r}(h:RM j=some r):Aa prog 160 [rS j] (rB r):=by
 unfold RM at h
 exact qS nF R R R ⟨_,func160,R,R⟩ h
theorem aL{l r}(h:O0 l=some r):Aa prog 138 [rS l] (rB r):=by
 unfold O0 at h
 refine mF func138 ntmps138 R λE=>aU<|mA R<|aZ<|aT λc2=>aU<|mM R<|AE h λr1 F h1=>cL (ki<|F) R<|sQ R (BE R iL)<|aZ<|cI R h1 (λI=>?_) λI=>?_
 ·exact zB I R id
 refine Zc<|c2 _<|aS λK5 c5 J=>aU<|mM R<|sS R (Y0 9 R underlying9 iL)<|aZ<|Zg<|BS I λo1 m M O=>?_
 have J1:∀(u2:Unit) (i5:NN),o1=.nrm u2→K5 ⟨[],[],(i5 0),21⟩:=by
  intro u2 i5 e
  have h3:=M _ e
  exact c5 _<|zB h3 R id
 refine Zu (λ(B:(Nat)) C=>⟨[(9,.ptr 9 E 0 0)],[(9,some<|.it E l B)],(C 0),21⟩) (AH [(E+1)]) m wk ?_
 intro B C v1 T q
 have U:Fd l B=some v1:=T;unfold Fd at U
 refine aT λc8=>AW.split (decide<|B<l.length) (λj=>?_) λj=>?_
 ·have V:=ET j U
  refine aR<|sS R (pp R iL R λ_=>j)<|xX R<|aZ<|c8 _<|aT λc9=>aC R (λw=>?_) λw=>by cases w
  refine Zc<|c9 _<|Zg<|aU<|xX R<|mA R<|aZ<|aU<|mM R<|xQ R<|mM R<|vM R<|vQ R (Ep R underlying21 underlying3<|iR R)<|AE V λr2 X h6=>vL (λhg=>Vy<|Ag X hg) R<|vQ R (BE R<|iR R)<|xO R<|aZ<|cI R h6 (λZ=>?_) λZ=>?_
  ·exact zB (O _<|xH q Z) R id
  exact Zc<|Zr Z (AH [(C 0)]) wk
 ·have V:=EJ j U
  exact aR<|sS R (fi R iL R λ_=>j)<|xX R<|aZ<|c8 _<|aT λa0=>aC R (λA=>by cases A) λA=>Zm<|J _ _ wk<|J1 _ (AH [(C 0)])<|xH q V
theorem fU{c1 r}(h:PK c1=some r):Aa prog 139 (YK c1) (rB r):=by
 unfold PK at h
 exact mF func139 ntmps139 R λj=>aU<|sS R (A6 (cs:=(BP c1)) 1 R iL R R)<|mA R<|aZ<|aU<|lF He BK R R<|sQ R (EZ R iL iL)<|mM R<|vF Ce AI R R<|vQ R (A4 R (iR R) iL)<|xN R<|mM R<|vF GX CR R R<|vQ R (DK R BH.slice<|iR R)<|vQ R (A4 R (iR R) iL)<|xN R<|mA R<|aZ<|Zl<|yB h R
theorem oH{C b c n r}(h:NC C b c n=some r):Aa prog 110 [qc C,rI b,rI c,rB n] (rI r):=by
 unfold NC at h
 refine mF func110 ntmps110 R λn0=>aU<|mA R<|aZ<|aS λK2 c2 U=>aU<|mM R<|xL Bx R<|mM R<|aZ<|Zg<|BS h λo1 E V l=>?_
 have J1:∀(u2:Unit) (i5:NN),o1=.nrm u2→K2 ⟨[],[],(i5 0),93⟩:=by
  intro u2 i5 e
  have h1:=V _ e
  exact c2 _<|zI h1 R id
 refine Zu (λ(X:Int) T=>⟨[(0,qc C),(1,rI b),(2,rI c),(3,rB n),(13,rL C),(14,rI X)],[],(T 0),93⟩) (AH [n0]) E wk ?_
 intro X T v1 Z j
 have h2:Oa C b c n X=some v1:=Z;unfold Oa at h2
 refine aU<|xS R<|aZ<|aT λc6=>cI R h2 (λh3=>?_) λh3=>?_
 ·refine Zc<|c6 _<|aT λc7=>Zg<|aU<|mM R<|mA R<|aZ<|aU<|mM R<|mM R<|AE h3 λF a0 h4=>xI Bx R a0<|xB ((BP F)) EM R<|sS R (BI (cs:=HS) 10 R G8 R R)<|Zj R R (A5 (ds:=(BP F)) R HV iL R iL R R R R)<|aZ<|aT λa1=>aT λa2=>aR<|lF D5 AI R R<|mM R<|AE h4 λx5 a6 h5=>sQ R (CX R iL iL λ_=>a6)<|AE h5 λr1 a7 h6=>cL (Dr<|a7) R<|sQ R (BE R iL)<|mM R<|vF ES AI R R<|vM R<|AE h6 λx6 a8 h7=>vQ R (CX R (iR R) iL<|Ag a8)<|AE h7 λr2 aa h8=>vL (λhg=>Dr<|Ag aa hg) R<|vQ R (BE R<|iR R)<|xO R<|mM R<|vF Ce AI R R<|AE h8 λr3 ab h9=>vL (λhg=>Dr<|Ag ab hg) R<|vQ R (BE R<|iR R)<|xO R<|aZ<|a2 _<|cI R h9 (λm=>?_) λm=>?_
  ·exact zI (l _<|xH j m) R id
  refine Zc<|a1 _<|aT λac=>aT λad=>aG [0,1,2,3,9,10,13,14] [10] ?_
  refine aR<|lF He BK R R<|AE m λr4 ae af=>cL (aL<|ae) R<|sQ R (BE R iL)<|aZ<|ad _<|cI R af (λq=>?_) λq=>?_
  ·exact zI (l _<|xH j q) R id
  refine Zc<|ac _<|aT λag=>aU<|lF GX CR R R<|AE q λe1 ah ai=>cL (TR<|ah) R<|mA R<|aZ<|aU<|mM R<|xU R<|aZ<|cI R ai (λw=>?_) λw=>?_
  ·refine aT λaj=>aF [11] ?_
   exact aR<|mM R<|mA R<|aZ<|aj _<|Zl<|yI (l _<|xH j w) R
  refine Zc<|ag _<|aT λak=>aT λal=>aG [0,1,2,3,9,10,13,14] [10] ?_
  refine aR<|mM R<|sQ R (BE R iL)<|mM R<|vQ R (Dm R EM iL R R)<|AE w λr5 an ao=>vL (λhg=>fU<|Ag an hg) R<|xN R<|aZ<|al _<|cI R ao (λA=>?_) λA=>?_
  ·exact zI (l _<|xH j A) R id
  refine Zc<|ak _<|aT λaq=>?_
  refine Zx BM (by kernel_rfl) ?_
  refine qP R (AM R iL)<|qP R (Bk R iL iL)<|qP R (AM R iL)<|qO R (fB R D5 iL fR R)<|qO R (AY (a:=rI F.Row) R AI (iR R) R R)<|qO R (AM R iL)<|qO R (AM R iL)<|AE A λx7 I ar=>qO R (CX R (iR R) iL<|Ag I)<|AE ar λx8 J au=>qO R (A9 R Bx.slice (iR R) (iR R) (λ_=>R)<|Ag J)<|qO R (BL R D5<|iR R)<|qO R (Bs (d:=.int .i64 x8.Row) R AI (iR R) R)<|qO R (CO R (iR R)<|iR R)<|qO R (AM R<|iR R)<|qT R (fB R D5 iL fR R)<|qT R (AY (a:=rI F.Row) R AI (iR R) R R)<|qT R (AM R iL)<|qT R (AM R iL)<|qT R (CX R (iR R) iL λh=>Ag I (tK.1 h).1)<|qT R (A9 R Bx.slice (iR R) (iR R) (λ_=>R) λh=>Ag J (tK.1 h).1)<|qT R (BL R D5<|iR R)<|qT R (Bs (d:=.int .i64 x8.Row) R AI (iR R) R)<|qT R (A4 R (iR R)<|iR R)<|qT R (AM R<|iR R)<|qT R (fB R ES iL fR R)<|qT R (AY (a:=rI F.Col) R AI (iR R) R R)<|qT R (AM R iL)<|qT R (AM R iL)<|AE au λx9 av aw=>qT R (CX R (iR R) iL<|Ag av)<|AE aw λax M ay=>qT R (A9 R Bx.slice (iR R) (iR R) (λ_=>R)<|Ag M)<|qT R (BL R ES<|iR R)<|qT R (Bs (d:=.int .i64 ax.Col) R AI (iR R) R)<|qT R (FT R (iR R)<|iR R)<|qT R (Bd R (iR R)<|iR R)<|qO R (Cp R (iR R)<|iR R)<|qP R (Bd R iL<|iR R)<|AQ.nil<|aq _<|cI R ay (λB=>?_) λB=>?_
  ·exact zI (l _<|xH j B) R id
  refine Zc<|c7 _<|aF [0,1,2,3,13,14] ?_
  exact aR<|AE B λb0 O az=>xA R O<|mM R<|Zh<|Zr az (AH [((T 0)+1)]) wk
 exact Zm<|U _ _ wk<|J1 _ (AH [(T 0)])<|xH j h3
theorem Y4{j a c r}(h:Ms j a c=some r):Aa prog 111 [.agg<|A8 j,rI a,rI c] (rB r):=by
 unfold Ms at h
 exact mF func111 ntmps111 R λZ=>aU<|sS R (A6 (cs:=(A8 j)) 3 R iL R R)<|mA R<|aZ<|aT λF=>aR<|lF Cu AI R R<|mM R<|AE h λx1 l I=>sQ R (CX R iL iL λ_=>l)<|AE I λr2 m J=>cL (Dr<|m) R<|mM R<|vF DQ AI R R<|vM R<|AE J λx2 q M=>vQ R (CX R (iR R) iL<|Ag q)<|AE M λr3 w O=>vL (λhg=>Dr<|Ag w hg) R<|xN R<|mM R<|vF G0 AI R R<|vM R<|vF Cu AI R R<|AE O λx3 A T=>vQ R (CX R (iR R) (iR R)<|Ag A)<|AE T λr4 B U=>vL (λhg=>Dr<|Ag B hg) R<|xN R<|mM R<|vF Gr AI R R<|vM R<|vF DQ AI R R<|AE U λx4 C V=>vQ R (CX R (iR R) (iR R)<|Ag C)<|AE V λr5 E X=>vL (λhg=>Dr<|Ag E hg) R<|xN R<|mA R<|aZ<|F _<|Zl<|yB X R
theorem mT{j b1 r}(h:PC j b1=some r):Aa prog 112 [.agg<|A8 j,.agg<|A8 b1] (rB r):=by
 unfold PC at h
 refine mF func112 ntmps112 R λJ=>aU<|sS R (A6 (cs:=(A8 j)) 2 R iL R R)<|sS R (A6 (cs:=(A8 b1)) 3 R iL R R)<|mA R<|aZ<|aT λA=>?_
 refine Zx BM (by kernel_rfl) ?_
 refine qP R (fB R Cu iL fR R)<|qP R (AY (a:=rI j.Row) R AI iL R R)<|qP R (fB R Cu iL fR R)<|qP R (AY (a:=rI b1.Row) R AI iL R R)<|qP R (WV R iL iL)<|qP R (fB R DQ iL fR R)<|qP R (AY (a:=rI j.Col) R AI iL R R)<|qP R (fB R DQ iL fR R)<|qP R (AY (a:=rI b1.Col) R AI iL R R)<|qP R (WV R iL iL)<|qP R (EL R iL)<|qP R (EL R iL)<|AQ.nil<|A _<|aT λB=>aG [2,3,5,6] [2,3] ?_
 exact aR<|mM R<|lF Cu AI R R<|lF G0 AI R R<|AE h λM l C=>xA R l<|lF Cu AI R R<|lF G0 AI R R<|AE C λO m E=>xA R m<|sQ R (Xj R iL iL)<|xS R<|mM R<|vM R<|vF DQ AI R R<|vF Gr AI R R<|AE E λT q F=>vQ R (LF R (iR R) (iR R)<|Ag q)<|vF DQ AI R R<|vF Gr AI R R<|AE F λU w I=>vQ R (LF R (iR R) (iR R)<|Ag w)<|vQ R (Xj R (iR R)<|iR R)<|vQ R (CO R (iR R)<|iR R)<|xN R<|mA R<|aZ<|B _<|Zl<|yB I R
theorem ko{j r}(h:Nj j=some r):Aa prog 76 (Sl j) (rI r):=by
 unfold Nj at h
 refine mF func76 ntmps76 R λA=>aU<|sS R (A6 (cs:=(B7 j)) 1 R iL R R)<|mA R<|aZ<|aT λc2=>aU<|lF Gc AI R R<|AE h λr1 aa h1=>cL (Dr<|aa) R<|sQ R (BE R iL)<|mM R<|vF GZ AI R R<|AE h1 λr2 ab h2=>vL (λhg=>Dr<|Ag ab hg) R<|vQ R (BE R<|iR R)<|xO R<|aZ<|cI R h2 (λh3=>?_) λh3=>?_
 ·exact zI h3 R id
 refine Zc<|c2 _<|aT λc5=>aT λc6=>aG [1] [1] ?_
 refine aR<|lF DX Dc R R<|lF Gc AI R R<|lF GZ AI R R<|AE h3 λe1 ac h4=>cL (oH<|ac) R<|mA R<|aZ<|c6 _<|aU<|mM R<|xU R<|aZ<|cI R h4 (λh5=>?_) λh5=>?_
 ·refine aT λc8=>aF [3] ?_
  exact aR<|mM R<|mA R<|aZ<|c8 _<|Zl<|yI h5 R
 refine Zc<|c5 _<|aS λK9 c9 ad=>aT λae=>aG [1] [1] ?_
 refine aR<|lF EP Ei R R<|xL Cz R<|mM R<|aZ<|ae _<|Zg<|BS h5 λo1 U af w=>?_
 have J1:∀(u2:Unit) (i5:NN),o1=.nrm u2→K9 ⟨[],[],(i5 0),104⟩:=by
  intro u2 i5 e
  have h6:=af _ e
  exact c9 _<|zI h6 R id
 refine Zu (λ(B:Int) T=>⟨[(1,.ptr 1 A 0 0),(29,rL j.Merges),(30,rI B)],[(1,some<|.box A 51<|B7 j)],(T 0),104⟩) (AH [(A+1)]) U wk ?_
 intro B T v1 ag q
 have h7:O8 j B=some v1:=ag;unfold O8 at h7
 refine aU<|xS R<|aZ<|aT λah=>cI R h7 (λh8=>?_) λh8=>?_
 ·refine Zc<|ah _<|aS λai aj V=>Zg<|aU<|mM R<|mA R<|aZ<|aU<|lF EP Ei R R<|mM R<|AE h8 λm ak h9=>xI Cz R ak<|xB ((A8 m)) DW R<|sS R (BI (cs:=FP) 5 R Gw R R)<|Zj R R (A5 (ds:=(A8 m)) R F0 iL R iL R R R R)<|aZ<|aT λal=>aU<|xC DW R<|lF Gc AI R R<|lF GZ AI R R<|AE h9 λr3 an ao=>cL (Y4<|an) R<|sQ R (BE R iL)<|aZ<|cI R ao (λC=>?_) λC=>?_
  ·exact zI (w _<|xH q C) R id
  refine Zc<|al _<|aT λaq=>aT λar=>aG [1,4,5,29,30] [1,5] ?_
  refine aR<|lF G0 AI R R<|xQ R<|mM R<|vF Gr AI R R<|vQ R (A4 R (iR R) iL)<|xN R<|aZ<|ar _<|cI R C (λE=>?_) λE=>?_
  ·exact zI (w _<|xH q E) R id
  refine Zc<|aq _<|aT λau=>aT λav=>?_
  refine Zx BM (by kernel_rfl) ?_
  refine qP R (AM R iL)<|qP R (Bk R iL iL)<|qP R (AM R iL)<|qO R (fB R Cu iL fR R)<|qO R (AY (a:=rI m.Row) R AI (iR R) R R)<|qO R (fB R EP iL fR R)<|qO R (AY (a:=qd j.Merges) R Ei (iR R) R R)<|qO R (AM R iL)<|AE E λx5 X aw=>qO R (CX R (iR R) iL<|Ag X)<|AE aw λx6 Z ax=>qO R (A9 R Cz.slice (iR R) (iR R) (λ_=>R)<|Ag Z)<|qO R (BL R Cu<|iR R)<|qO R (Bs (d:=.int .i64 x6.Row) R AI (iR R) R)<|qO R (CO R (iR R)<|iR R)<|qO R (AM R<|iR R)<|qT R (fB R Cu iL fR R)<|qT R (AY (a:=rI m.Row) R AI (iR R) R R)<|qT R (fB R EP iL fR R)<|qT R (AY (a:=qd j.Merges) R Ei (iR R) R R)<|qT R (AM R iL)<|qT R (CX R (iR R) iL λh=>Ag X (tK.1 h).1)<|qT R (A9 R Cz.slice (iR R) (iR R) (λ_=>R) λh=>Ag Z (tK.1 h).1)<|qT R (BL R Cu<|iR R)<|qT R (Bs (d:=.int .i64 x6.Row) R AI (iR R) R)<|qT R (A4 R (iR R)<|iR R)<|qT R (AM R<|iR R)<|qT R (fB R DQ iL fR R)<|qT R (AY (a:=rI m.Col) R AI (iR R) R R)<|qT R (fB R EP iL fR R)<|qT R (AY (a:=qd j.Merges) R Ei (iR R) R R)<|qT R (AM R iL)<|AE ax λx7 ay az=>qT R (CX R (iR R) iL<|Ag ay)<|AE az λx8 b0 b4=>qT R (A9 R Cz.slice (iR R) (iR R) (λ_=>R)<|Ag b0)<|qT R (BL R DQ<|iR R)<|qT R (Bs (d:=.int .i64 x8.Col) R AI (iR R) R)<|qT R (FT R (iR R)<|iR R)<|qT R (Bd R (iR R)<|iR R)<|qO R (Cp R (iR R)<|iR R)<|qP R (Bd R iL<|iR R)<|AQ.nil<|av _<|cI R b4 (λF=>?_) λF=>?_
  ·exact zI (w _<|xH q F) R id
  refine Zc<|au _<|aT λb5=>aG [1,4,5,29,30] [1,5] ?_
  refine aR<|mM R<|mM R<|aZ<|b5 _<|Zg<|BS F λo2 a0 b6 b7=>?_
  have J2:∀(u4:Unit) (I:NN),o2=.nrm u4→ai ⟨[(1,.ptr 1 A 0 0),(29,rL j.Merges),(30,rI B)],[(1,some<|.box A 51<|B7 j)],(I 0),104⟩:=by
   intro u4 I e
   have b8:=b6 _ e
   exact aj _<|aR<|AE b8 λbj a1 b9=>xA R a1<|mM R<|Zh<|Zr b9 (AH [(I 0)]) wk
  refine Zu (λ(J:Int) i8=>⟨[(1,.ptr 1 A 0 0),(5,.ptr 5 (T 0) 0 0),(29,rL j.Merges),(30,rI B),(91,rI B),(92,rI J)],[(1,some<|.box A 51<|B7 j),(5,some<|.box (T 0) 109<|A8 m)],(i8 0),104⟩) (AH [((T 0)+1)]) a0 wk ?_
  intro J i8 v2 ba a2
  have a6:PZ j B m J=some v2:=ba;unfold PZ at a6
  refine aU<|xS R<|aZ<|aT λbb=>cI R a6 (λM=>?_) λM=>?_
  ·refine Zc<|bb _<|aT λbc=>Zg<|aU<|mM R<|mA R<|aZ<|aT λbd=>?_
   refine Zx BM (by kernel_rfl) ?_
   refine qP R (Dm R DW iL R R)<|qP R (fB R EP iL fR R)<|qP R (AY (a:=qd j.Merges) R Ei iL R R)<|qP R (AM R iL)<|AE M λl a7 be=>qP R (A9 R Cz.slice iL iL (λ_=>R) λ_=>a7)<|qP R (CN (cs:=(A8 l)) R DW iL R R)<|AE be λr4 bf bg=>AQ.stepC R R R (r:=rB r4) (caps:=[]) (bs:=[.agg<|A8 m,.agg<|A8 l]) R iL R ⟨⟨_,iL,.g (cs:=[.int .i64 m.Row,.int .i64 m.Col,.int .i64 m.H,.int .i64 m.W]) R R⟩,⟨_,iL,.g (cs:=[.int .i64 l.Row,.int .i64 l.Col,.int .i64 l.H,.int .i64 l.W]) R R⟩,Za⟩ (λ_=>mT<|bf) R<|AQ.nil<|bd _<|cI R bg (λO=>?_) λO=>?_
   ·refine aT λbh=>aF [] ?_
    exact aR<|mA R<|aZ<|bh _<|Zl<|yI (w _<|q _ (Zf<|b7 _<|xH a2 O).symm) R
   refine Zc<|bc _<|aG [1,5,29,30,91,92] [1,5] ?_
   exact aR<|AE O λbk a8 bi=>xA R a8<|mM R<|Zh<|Zr bi (AH [(i8 0)]) wk
  exact Zm<|V _ _ wk<|J2 _ (AH [(i8 0)])<|xH a2 M
 exact Zm<|ad _ _ wk<|J1 _ (AH [(T 0)])<|xH q h8
theorem jP{k j r}(h:Ow k j=some r):Aa prog 77 [rI k,qc j] (rI r):=by
 unfold Ow at h
 refine mF func77 ntmps77 R λZ=>aU<|mA R<|aZ<|aS λK2 c2 A=>aU<|mM R<|xL Bx R<|mM R<|aZ<|Zg<|BS h λo1 l B C=>?_
 have J1:∀(T:Unit) (U:NN),o1=.nrm T→K2 ⟨[],[],(U 0),43⟩:=by
  intro T U e
  have h1:=B _ e
  exact c2 _<|zI h1 R id
 refine Zu (λ(E:Int) w=>⟨[(0,rI k),(1,qc j),(7,rL j),(8,rI E)],[],(w 0),43⟩) (AH [Z]) l wk ?_
 intro E w v1 F m
 have V:PS k j E=some v1:=F;unfold PS at V
 refine aU<|xS R<|aZ<|aT λc6=>cI R V (λI=>?_) λI=>?_
 ·refine Zc<|c6 _<|aT λc7=>Zg<|aU<|mM R<|mA R<|aZ<|aT λc9=>aR<|mM R<|xQ R<|mM R<|vM R<|vM R<|AE I λX q h4=>vQ R (A9 R Bx.slice (iR R) (iR R) (λ_=>R)<|Ag q)<|vQ R (BL R He<|iR R)<|vQ R (Bs (d:=.str X.Text) R BK (iR R) R)<|vQ R (D1 R (iR R) iL)<|vQ R (AM R<|iR R)<|wQ R (AM R iL)<|wQ R (AM R iL)<|wQ R (A9 R Bx.slice (iR R) (iR R) (λ_=>R) λh=>Ag q (tK.1 h).1)<|wQ R (BL R GX<|iR R)<|wQ R (Bs (d:=.sl<|X.Attrs.map AG.row) R CR (iR R) R)<|wQ R (DK R BH.slice<|iR R)<|wQ R (Bk R (iR R) iL)<|vQ R (Cp R (iR R)<|iR R)<|xN R<|mM R<|vM R<|vQ R (A4 R (iR R) iL)<|vQ R (AM R<|iR R)<|wQ R (AM R iL)<|wQ R (AM R iL)<|AE h4 λx5 J h5=>wQ R (A9 R Bx.slice (iR R) (iR R) (λ_=>R)<|Ag J)<|wQ R (BL R Ce<|iR R)<|wQ R (Bs (d:=.int .i64 x5.Ref) R AI (iR R) R)<|wQ R (DJ R (iR R) iL)<|vQ R (Bd R (iR R)<|iR R)<|xO R<|aZ<|c9 _<|cI R h5 (λM=>?_) λM=>?_
  ·exact zI (C _<|xH m M) R id
  refine Zc<|c7 _<|aF [0,1,7,8] ?_
  exact aR<|AE M λx6 O h7=>xA R O<|mM R<|Zh<|Zr h7 (AH [(w 0)]) wk
 exact Zm<|A _ _ wk<|J1 _ (AH [(w 0)])<|xH m I
theorem iV{l r}(h:Ox l=some r):Aa prog 113 [rS l] (rB r):=by
 unfold Ox at h
 refine mF func113 ntmps113 R λZ=>aU<|mA R<|aZ<|aS λK2 c2 B=>aU<|mM R<|sQ R (Dq R underlying9 iL)<|mM R<|aZ<|Zg<|BS h λo1 m C E=>?_
 have J1:∀(U:Unit) (V:NN),o1=.nrm U→K2 ⟨[(0,rS l)],[],(V 0),36⟩:=by
  intro U V e
  have h1:=C _ e
  exact c2 _<|aU<|mM R<|sQ R (Dq R underlying9 iL)<|sQ R (DT R iL iL)<|mM R<|vM R<|vQ R (Dq R underlying9<|iR R)<|vQ R (FT R (iR R) iL)<|xN R<|mM R<|vM R<|vM R<|vQ R (Dq R underlying9<|iR R)<|AE h1 λx4 F h2=>vQ R (CX R (iR R) iL<|Ag F)<|AE h2 λa0 q h3=>vQ R (Co R underlying9 (iR R) (iR R)<|Ag q)<|vQ R (DJ R (iR R) iL)<|xN R<|mA R<|aZ<|Zl<|yB h3 R
 refine Zu (λ(I:Int) A=>⟨[(0,rS l),(5,rL l),(6,rI I)],[],(A 0),36⟩) (AH [Z]) m wk ?_
 intro I A v1 J w
 have X:Jw l I=some v1:=J;unfold Jw at X
 refine aU<|xS R<|aZ<|aT λc6=>cI R X (λM=>?_) λM=>?_
 ·refine Zc<|c6 _<|aT λc7=>Zg<|aU<|mM R<|mA R<|aZ<|aU<|mM R<|mM R<|AE M λa1 j h6=>sQ R (Co R underlying9 iL iL λ_=>j)<|xS R<|mM R<|vM R<|vM R<|vQ R (Co R underlying9 (iR R) (iR R) λ_=>j)<|vQ R (Bk R (iR R) iL)<|xO R<|aZ<|cI R h6 (λO=>?_) λO=>?_
  ·exact zB (E _<|xH w O) R id
  refine Zc<|c7 _<|aF [0,5,6] ?_
  exact aR<|AE O λx5 T h8=>xA R T<|mM R<|Zh<|Zr h8 (AH [(A 0)]) wk
 exact Zm<|B _ _ wk<|J1 _ (AH [(A 0)])<|xH w M
theorem eZ{j b1 r}(h:LP j b1=some r):Aa prog 114 [.agg<|Bl j,.agg<|Bl b1] (rB r):=by
 unfold LP at h
 exact mF func114 ntmps114 R λl=>aU<|sS R (A6 (cs:=(Bl j)) 2 R iL R R)<|sS R (A6 (cs:=(Bl b1)) 3 R iL R R)<|mA R<|aZ<|aU<|lF IB AI R R<|lF IB AI R R<|xS R<|mM R<|vF IB AI R R<|vF IB AI R R<|vQ R (A4 R (iR R)<|iR R)<|vQ R (AM R<|iR R)<|wQ R (fB R Kh iL fR R)<|wQ R (AY (a:=rI j.Site) R AI (iR R) R R)<|wQ R (fB R Kh iL fR R)<|wQ R (AY (a:=rI b1.Site) R AI (iR R) R R)<|wQ R (CO R (iR R)<|iR R)<|vQ R (Bd R (iR R)<|iR R)<|xO R<|mA R<|aZ<|Zl<|yB h R
theorem mJ{B r}(h:NW B=some r):Aa prog 78 [qf B] (rI r):=by
 unfold NW at h
 refine mF func78 ntmps78 R λn0=>aU<|mA R<|aZ<|aS λK2 c2 a1=>aU<|mM R<|xL EB R<|mM R<|aZ<|Zg<|BS h λo1 X a2 l=>?_
 have J1:∀(u2:Unit) (i5:NN),o1=.nrm u2→K2 ⟨[],[],(i5 0),91⟩:=by
  intro u2 i5 e
  have h1:=a2 _ e
  exact c2 _<|zI h1 R id
 refine Zu (λ(Z:Int) C=>⟨[(0,qf B),(6,rL B),(7,rI Z)],[],(C 0),91⟩) (AH [n0]) X wk ?_
 intro Z C v1 a6 j
 have h2:N5 B Z=some v1:=a6;unfold N5 at h2
 refine aU<|xS R<|aZ<|aT λc6=>cI R h2 (λh3=>?_) λh3=>?_
 ·refine Zc<|c6 _<|aT λc7=>Zg<|aU<|mM R<|mA R<|aZ<|aU<|mM R<|mM R<|AE h3 λq a7 h4=>xI EB R a7<|xB ((Bl q)) HL R<|sS R (BI (cs:=QK) 4 R Rh R R)<|Zj R R (A5 (ds:=(Bl q)) R Qn iL R iL R R R R)<|aZ<|aT λa8=>aU<|lF Fp AI R R<|xU R<|mM R<|vF Fp AI R R<|vQ R (DJ R (iR R) iL)<|xN R<|aZ<|cI R h4 (λh5=>?_) λh5=>?_
  ·exact zI (l _<|xH j h5) R id
  refine Zc<|a8 _<|aT λaa=>aT λab=>aG [0,3,4,6,7] [4] ?_
  refine aR<|lF IB AI R R<|AE h5 λr1 ac h6=>cL (Dr<|ac) R<|sQ R (BE R iL)<|mM R<|vF Kh AI R R<|AE h6 λr2 ad h7=>vL (λhg=>Dr<|Ag ad hg) R<|vQ R (BE R<|iR R)<|xO R<|mM R<|vF Fa AI R R<|AE h7 λr3 ae h8=>vL (λhg=>Dr<|Ag ae hg) R<|vQ R (BE R<|iR R)<|xO R<|aZ<|ab _<|cI R h8 (λh9=>?_) λh9=>?_
  ·exact zI (l _<|xH j h9) R id
  refine Zc<|aa _<|aS λaf ag A=>aU<|lF Fp AI R R<|xQ R<|aZ<|BS h9 λp1 a0 ah m=>?_
  have J2:∀(u3:Unit) (i6:NN),p1=.nrm u3→af ⟨[(0,qf B),(3,rI Z),(4,.ptr 4 (C 0) 0 0),(6,rL B),(7,rI Z)],[(4,some<|.box (C 0) 146<|Bl q)],(i6 0),91⟩:=by
   intro u3 i6 e
   have ai:=ah _ e
   refine ag _<|aT λaj=>?_
   refine Zx BM (by kernel_rfl) ?_
   refine qP R (AM R iL)<|qP R (Bk R iL iL)<|qP R (AM R iL)<|qO R (AM R iL)<|qO R (AM R iL)<|AE ai λx5 ak al=>qO R (CX R (iR R) iL<|Ag ak)<|AE al λw an ao=>qO R (A9 R EB.slice (iR R) (iR R) (λ_=>R)<|Ag an)<|qO R (CN (cs:=(Bl w)) R HL (iR R) R R)<|qO R (Dm R HL iL R R)<|AE ao λr4 aq ar=>Pf (.one R R R) R R (r:=rB r4) (caps:=[]) (bs:=[.agg<|Bl w,.agg<|Bl q]) R iL R ⟨⟨_,(iR R),.g (cs:=[.int .i64 w.Clock,.int .i64 w.Site,.int .i64 w.Kind,.int .i64 w.Item,.int .i64 w.Parent,.str w.Place,.str w.Name,.str w.Value]) R R⟩,⟨_,(iR R),.g (cs:=[.int .i64 q.Clock,.int .i64 q.Site,.int .i64 q.Kind,.int .i64 q.Item,.int .i64 q.Parent,.str q.Place,.str q.Name,.str q.Value]) R R⟩,Za⟩ (λhg=>eZ<|Ag aq hg) R<|qO R (BE R<|iR R)<|qP R (Bd R iL<|iR R)<|AQ.nil<|aj _<|cI R ar (λE=>?_) λE=>?_
   ·exact zI (l _<|xH j E) R id
   exact Zc<|c7 _<|aR<|AE E λx7 au av=>xA R au<|mM R<|Zh<|Zr av (AH [(i6 0)]) wk
  refine aC R (λF=>?_) λF=>?_
  ·have I:=ET F a0
   refine aT λaw=>aT λax=>aG [0,3,4,6,7] [4] ?_
   refine aR<|lF MB BK R R<|sQ R (D1 R iL iL)<|mM R<|vF JI BK R R<|vQ R (D1 R (iR R) iL)<|xO R<|aZ<|ax _<|cI R I (λJ=>?_) λJ=>?_
   ·refine aT λay=>aF [] ?_
    exact aR<|mA R<|aZ<|ay _<|Zl<|yI (l _<|j _ (Zf<|m _ (Zf J).symm).symm) R
   refine Zc<|aw _<|aT λaz=>aU<|lF HQ AI R R<|AE J λr5 b0 b4=>cL (Dr<|b0) R<|sQ R (BE R iL)<|aZ<|cI R b4 (λM=>?_) λM=>?_
   ·refine aT λb5=>aF [] ?_
    exact aR<|mA R<|aZ<|b5 _<|Zl<|yI (l _<|j _ (Zf<|m _ (Zf M).symm).symm) R
   refine Zc<|az _<|aT λb6=>aG [0,3,4,6,7] [4] ?_
   refine aR<|lF MV BK R R<|AE M λr6 b7 b8=>cL (iV<|b7) R<|sQ R (BE R iL)<|aZ<|b6 _<|cI R b8 (λO=>?_) λO=>?_
   ·refine aT λb9=>aF [] ?_
    exact aR<|mA R<|aZ<|b9 _<|Zl<|yI (l _<|j _ (Zf<|m _ (Zf O).symm).symm) R
   exact Zc<|A _ _ wk<|J2 _ (AH [((C 0)+1)]) (Zf O).symm
  ·have I:=EJ F a0
   refine aT λba=>aT λbb=>aG [0,3,4,6,7] [4] ?_
   refine aR<|lF HQ AI R R<|xU R<|mM R<|vF MV BK R R<|vQ R (D1 R (iR R) iL)<|xO R<|aZ<|bb _<|cI R I (λT=>?_) λT=>?_
   ·refine aT λbc=>aF [] ?_
    exact aR<|mA R<|aZ<|bc _<|Zl<|yI (l _<|j _ (Zf<|m _ (Zf T).symm).symm) R
   refine Zc<|ba _<|aT λbd=>aU<|lF MB BK R R<|AE T λr7 be bf=>cL (W6<|be) R<|sQ R (BE R iL)<|aZ<|cI R bf (λU=>?_) λU=>?_
   ·refine aT λbg=>aF [] ?_
    exact aR<|mA R<|aZ<|bg _<|Zl<|yI (l _<|j _ (Zf<|m _ (Zf U).symm).symm) R
   refine Zc<|bd _<|aT λbh=>aG [0,3,4,6,7] [4] ?_
   refine aR<|lF JI BK R R<|sQ R (D1 R iL iL)<|mM R<|vF JI BK R R<|AE U λr8 bi bj=>vL (λhg=>XA<|Ag bi hg) R<|vQ R (BE R<|iR R)<|xN R<|aZ<|bh _<|cI R bj (λV=>?_) λV=>?_
   ·refine aT λbk=>aF [] ?_
    exact aR<|mA R<|aZ<|bk _<|Zl<|yI (l _<|j _ (Zf<|m _ (Zf V).symm).symm) R
   exact Zc<|A _ _ wk<|J2 _ (AH [((C 0)+1)]) (Zf V).symm
 exact Zm<|a1 _ _ wk<|J1 _ (AH [(C 0)])<|xH j h3
theorem fj{n1 r}(h:OY n1=some r):Aa prog 40 (Ho n1) (rI r):=by
 unfold OY at h
 refine mF func40 ntmps40 R λn0=>aU<|sS R (A6 (cs:=(Ai n1)) 1 R iL R R)<|mA R<|aZ<|aT λc2=>aU<|lF Da AI R R<|AE h λr1 E h1=>cL (Dr<|E) R<|sQ R (BE R iL)<|aZ<|cI R h1 (λF=>?_) λF=>?_
 ·exact zI F R id
 refine Zc<|c2 _<|aT λc5=>aU<|lF CP AI R R<|AE F λr2 I h3=>cL (Dr<|I) R<|sQ R (BE R iL)<|mM R<|vF Da AI R R<|vQ R (A4 R (iR R) iL)<|vQ R (AM R<|iR R)<|wQ R (fB R CP iL fR R)<|wQ R (AY (a:=rI n1.Kind) R AI (iR R) R R)<|wQ R (DJ R (iR R) iL)<|vQ R (Bd R (iR R)<|iR R)<|xO R<|mM R<|vF Da AI R R<|vQ R (DJ R (iR R) iL)<|vQ R (AM R<|iR R)<|wQ R (fB R CP iL fR R)<|wQ R (AY (a:=rI n1.Kind) R AI (iR R) R R)<|wQ R (A4 R (iR R) iL)<|vQ R (Bd R (iR R)<|iR R)<|xO R<|aZ<|cI R h3 (λJ=>?_) λJ=>?_
 ·exact zI J R id
 refine Zc<|c5 _<|aT λc8=>aT λc9=>aG [1] [1] ?_
 refine aR<|lF Ji CR R R<|AE J λe1 M h5=>cL (TR<|M) R<|mA R<|aZ<|c9 _<|aU<|mM R<|xU R<|aZ<|cI R h5 (λO=>?_) λO=>?_
 ·exact aU<|mM R<|mA R<|aZ<|Zl<|yI O R
 refine Zc<|c8 _<|aU<|lF CP AI R R<|AE O λr3 w h7=>cL (Qb<|w) R<|mM R<|vF CP AI R R<|AE h7 λr4 T h8=>vL (λhg=>gL<|Ag T hg) R<|xO R<|mA R<|aZ<|aT λU=>aT λV=>aG [1,4] [1] ?_
 refine aR<|lF Dk D0 R R<|xL Bb R<|sQ R (Bk R iL iL)<|mM R<|vM R<|vQ R (BE R<|iR R)<|xN R<|mM R<|vQ R (fB R DS iL fR R)<|vQ R (GH (ds:=(B7 n1.Grid)) R GM (iR R) R R R)<|AE h8 λr5 X h9=>vL (λhg=>oO<|Ag X hg) R<|vQ R (BE R<|iR R)<|vQ R (AM R<|iR R)<|wQ R (fB R CP iL fR R)<|wQ R (AY (a:=rI n1.Kind) R AI (iR R) R R)<|AE h9 λr6 Z a0=>AS.stepW (.two R R R) R R (DU (r:=rB r6) (caps:=[]) (bs:=[rI n1.Kind]) R iL R ⟨⟨_,(iR R),.d R⟩,Za⟩ (λhg=>WN<|Ag Z hg) R)<|wQ R (BE R<|iR R)<|vQ R (Bd R (iR R)<|iR R)<|xO R<|mM R<|vF Ga HM R R<|vQ R (DK R EB.slice<|iR R)<|vQ R (Bk R (iR R) iL)<|vQ R (AM R<|iR R)<|wQ R (fB R CP iL fR R)<|wQ R (AY (a:=rI n1.Kind) R AI (iR R) R R)<|AE a0 λr7 a1 a2=>AS.stepW (.two R R R) R R (DU (r:=rB r7) (caps:=[]) (bs:=[rI n1.Kind]) R iL R ⟨⟨_,(iR R),.d R⟩,Za⟩ (λhg=>fd<|Ag a1 hg) R)<|wQ R (BE R<|iR R)<|vQ R (Bd R (iR R)<|iR R)<|xO R<|aZ<|V _<|cI R a2 (λj=>?_) λj=>?_
 ·exact zI j R id
 refine Zc<|U _<|aT λa6=>aT λa7=>aG [1,4] [1] ?_
 refine aR<|mM R<|aZ<|a7 _<|cI R j (λl=>?_) λl=>?_
 ·refine aT λa8=>?_
  refine Zx BM (by kernel_rfl) ?_
  exact qP R (fB R Dk iL fR R)<|qP R (AY (a:=qe n1.Flow) R D0 iL R R)<|qP R (fB R CP iL fR R)<|qP R (AY (a:=rI n1.Kind) R AI iL R R)<|AQ.stepC R R R (r:=rB r3) (caps:=[]) (bs:=[rI n1.Kind]) R iL R ⟨⟨_,iL,.d R⟩,Za⟩ (λ_=>Qb<|w) R<|AE l λr9 aa ab=>AQ.stepC R R R (r:=rI r9) (caps:=[]) (bs:=[qe n1.Flow,rB r3]) R iL R ⟨⟨_,iL,.d R⟩,⟨_,iL,.d R⟩,Za⟩ (λ_=>gi<|aa) R<|qP R (EL R iL)<|AQ.nil<|a8 _<|Zl<|yI ab R
 refine Zc<|a6 _<|aT λac=>aU<|lF CP AI R R<|AE l λal A ad=>cL (WN<|A) R<|aZ<|cI R ad (λm=>?_) λm=>?_
 ·refine aT λae=>aU<|sQ R (fB R DS iL fR R)<|sQ R (GH (ds:=(B7 n1.Grid)) R GM iL R R R)<|AE m λe2 af ag=>cL (ko<|af) R<|mA R<|aZ<|aU<|mM R<|xU R<|aZ<|cI R ag (λq=>?_) λq=>?_
  ·refine aT λah=>aF [5] ?_
   exact aR<|mM R<|mA R<|aZ<|ah _<|Zl<|yI q R
  refine Zc<|ae _<|aT λai=>aG [1] [1] ?_
  exact aR<|lF CP AI R R<|sQ R (fB R DS iL fR R)<|lF DX Dc R R<|AE q λan B aj=>cL (jP<|B) R<|mA R<|aZ<|ai _<|Zl<|yI aj R
 exact Zc<|ac _<|aU<|lF Ga HM R R<|AE m λao C ak=>cL (mJ<|C) R<|mA R<|aZ<|Zl<|yI ak R
theorem iq{n1 r}(h:N3 n1=some r):Aa prog 42 (Ho n1) (.r<|.sl<|r.map<|Ab .i64):=by
 unfold N3 at h
 refine mF func42 ntmps42 R λj=>aU<|sS R (A6 (cs:=(Ai n1)) 1 R iL R R)<|mA R<|aZ<|aU<|mA R<|aZ<|aS λK3 c3 a7=>aU<|lF Dk D0 R R<|xL Bb R<|mM R<|aZ<|Zg<|BV h λo1 a0 a8=>?_
 have J1:∀(w:List Int) (i5:NN),o1=w→K3 ⟨[(1,.ptr 1 j 0 0),(3,.own 5003<|i5 0)],[(1,some<|.box j 54<|Ai n1),(5003,some<|.arr (i5 0) 3 1<|w.map<|Ab .i64)],(i5 1),56⟩:=by
  intro w i5 e
  have h1:=a8 _ e
  refine c3 _<|aS λK5 c5 aa=>aU<|sQ R (fB R DS iL fR R)<|lF DX Dc R R<|xL Bx R<|mM R<|aZ<|Zg<|BV h1 λo2 a1 ab=>?_
  have J2:∀(A:List Int) (I:NN),o2=A→K5 ⟨[(3,.own 5003<|I 0)],[(5003,some<|.arr (I 0) 3 1<|A.map<|Ab .i64)],(I 1),56⟩:=by
   intro A I e
   have h2:=ab _ e
   exact c5 _<|aU<|mM R<|mA R<|aZ<|Zl<|Cg (P:=prog) (λ(r:(List Int))=>.r<|.sl<|r.map<|Ab .i64) h2 iL<|.t<|.one<|.own R
  refine Cs (λ(x5:Int) (B:List Int) i8=>⟨[(1,.ptr 1 j 0 0),(3,.own 5003<|i8 0),(32,rL n1.Grid.Cells),(33,rI x5)],[(1,some<|.box j 54<|Ai n1),(5003,some<|.arr (i8 0) 3 1<|B.map<|Ab .i64)],(i8 1),56⟩) (AH [(i5 0),(i5 1)]) a1 wk ?_
  intro x5 B i8 v1 ac ad
  have h3:QN n1 x5 B=some v1:=ac;unfold QN at h3
  refine aU<|xS R<|aZ<|aT λc9=>cI R h3 (λh4=>?_) λh4=>?_
  ·refine Zc<|c9 _<|aS λae af O=>Zg<|BV h4 λp1 ag ah=>?_
   have J3:∀(C:List Int) (m:NN),p1=C→ae ⟨[(1,.ptr 1 j 0 0),(3,.own 5003<|m 0),(32,rL n1.Grid.Cells),(33,rI x5)],[(1,some<|.box j 54<|Ai n1),(5003,some<|.arr (m 0) 3 1<|C.map<|Ab .i64)],(m 1),56⟩:=by
    intro C m e
    have h5:=ah _ e
    exact af _<|aR<|AE h5 λx7 ai h6=>xA R ai<|mM R<|Zh<|ZJ h6 (AH [(m 0),(m 1)]) wk
   refine aU<|mM R<|mA R<|aZ<|aU<|sQ R (fB R DS iL fR R)<|lF DX Dc R R<|mM R<|AE ag λx8 a2 h7=>xI Bx R a2<|sQ R (BL R Ce iL)<|xV (.int .i64 x8.Ref) AI R<|xU R<|aZ<|cI R h7 (λh8=>?_) λh8=>?_
   ·refine aG [1,3,5,32,33] [1,5003] ?_
    exact aR<|mM R<|sQ R (fB R DS iL fR R)<|lF DX Dc R R<|mM R<|xI Bx R a2<|sQ R (BL R Ce iL)<|xV (.int .i64 x8.Ref) AI R<|sS R (Bj 52 R Bi (f:=(Ab .i64)) (l:=([x8.Ref]:List Int)) ⟨R,⟨_,iL,R⟩,Za⟩ R (λ_=>R) R)<|AE h8 λaj J h9=>sS R (Cj R Bi iL R (.inr<|.inl ⟨_,_,iL,R⟩) J)<|mA R<|Zh<|O _ _ wk<|J3 _ (AH [((i8 1)+1),((i8 1)+2)]) (Zf h9).symm
   exact Zc<|O _ _ wk<|J3 _ (AH [(i8 0),(i8 1)]) (Zf h8).symm
  exact Zm<|aa _ _ wk<|J2 _ (AH [(i8 0),(i8 1)])<|xH ad h4
 refine Cs (λ(x2:Int) (E:List Int) F=>⟨[(1,.ptr 1 j 0 0),(3,.own 5003<|F 0),(8,rL n1.Flow),(9,rI x2)],[(1,some<|.box j 54<|Ai n1),(5003,some<|.arr (F 0) 3 1<|E.map<|Ab .i64)],(F 1),56⟩) (AH [(j+1),(j+2)]) a0 (Zv (Zv (GI 3 5003 3 1 (by decide) R)<|by exact Am.cv (e':=[(0,.agg<|Ai n1),(1,.ptr 1 j 0 0),(2,cZ),(3,.own 5003<|j+1),(6,.ptr 1 j 0 3),(7,qe n1.Flow),(8,rL n1.Flow),(9,rI 0)]) (h':=[(1,some<|.box j 54<|Ai n1),(5003,some<|.arr (j+1) 3 1<|([]:List Int).map<|Ab .i64)]) ⟨jL,jL,jL,jL,jL,jL,jL,jL,Za⟩ ⟨.inl R,.inl R,Za⟩ nL) wk) ?_
 intro x2 E F v2 ak al
 have a6:QT n1 x2 E=some v2:=ak;unfold QT at a6
 refine aU<|xS R<|aZ<|aT λan=>cI R a6 (λV=>?_) λV=>?_
 ·refine Zc<|an _<|aS λao aq T=>Zg<|BV V λp2 ar au=>?_
  have J4:∀(l:List Int) (q:NN),p2=l→ao ⟨[(1,.ptr 1 j 0 0),(3,.own 5003<|q 0),(8,rL n1.Flow),(9,rI x2)],[(1,some<|.box j 54<|Ai n1),(5003,some<|.arr (q 0) 3 1<|l.map<|Ab .i64)],(q 1),56⟩:=by
   intro l q e
   have av:=au _ e
   exact aq _<|aR<|AE av λx9 aw ax=>xA R aw<|mM R<|Zh<|ZJ ax (AH [(q 0),(q 1)]) wk
  refine aU<|mM R<|mA R<|aZ<|aU<|lF Dk D0 R R<|mM R<|AE ar λX U ay=>xI Bb R U<|sQ R (BL R Cm iL)<|xV (.int .i64 X.Ref) AI R<|xU R<|aZ<|cI R ay (λZ=>?_) λZ=>?_
  ·refine aG [1,3,4,8,9] [1,5003] ?_
   exact aR<|mM R<|lF Dk D0 R R<|mM R<|xI Bb R U<|sQ R (BL R Cm iL)<|xV (.int .i64 X.Ref) AI R<|sS R (Bj 26 R Bi (f:=(Ab .i64)) (l:=([X.Ref]:List Int)) ⟨R,⟨_,iL,R⟩,Za⟩ R (λ_=>R) R)<|AE Z λaz M b0=>sS R (Cj R Bi iL R (.inr<|.inl ⟨_,_,iL,R⟩) M)<|mA R<|Zh<|T _ _ wk<|J4 _ (AH [((F 1)+1),((F 1)+2)]) (Zf b0).symm
  exact Zc<|T _ _ wk<|J4 _ (AH [(F 0),(F 1)]) (Zf Z).symm
 exact Zm<|a7 _ _ wk<|J1 _ (AH [(F 0),(F 1)])<|xH al V
theorem Jz{d1 i r}(h:GS d1 i=some r):Aa prog 30 [.agg [qb d1.Nodes],rI i] (rI r):=by
 unfold GS at h
 refine mF func30 ntmps30 R λq=>aU<|sS R (A6 (cs:=[qb d1.Nodes]) 2 R iL R R)<|mA R<|aZ<|aS λX Z w=>aU<|lF B6 CA R R<|xL Bh R<|mM R<|aZ<|Zg<|BS h λo1 j A B=>?_
 have J1:∀(T:Unit) (U:NN),o1=.nrm T→X ⟨[],[],(U 0),22⟩:=by
  intro T U e
  have h1:=A _ e
  exact Z _<|zI h1 R id
 refine Zu (λ(C:Int) m=>⟨[(1,rI i),(2,.ptr 2 q 0 0),(8,rL d1.Nodes),(9,rI C)],[(2,some<|.box q 24 [qb d1.Nodes])],(m 0),22⟩) (AH [(q+1)]) j wk ?_
 intro C m v1 E l
 have V:O3 d1 i C=some v1:=E;unfold O3 at V
 refine aU<|xS R<|aZ<|aT λc6=>cI R V (λF=>?_) λF=>?_
 ·refine Zc<|c6 _<|aT λc7=>Zg<|aU<|mM R<|mA R<|aZ<|aU<|lF B6 CA R R<|mM R<|AE F λx4 I h4=>xI Bh R I<|sQ R (BL R Da iL)<|xV (.int .i64 x4.ID) AI R<|mM R<|xQ R<|aZ<|cI R h4 (λJ=>?_) λJ=>?_
  ·refine aT λM=>aF [5] ?_
   exact aR<|mM R<|mA R<|aZ<|M _<|Zl<|yI (B _<|xH l J) R
  refine Zc<|c7 _<|aG [1,2,8,9] [2] ?_
  exact aR<|AE J λx5 O h6=>xA R O<|mM R<|Zh<|Zr h6 (AH [(m 0)]) wk
 exact Zm<|w _ _ wk<|J1 _ (AH [(m 0)])<|xH l F
theorem ox{p k r}(h:NG p k=some r):Aa prog 79 [rI p,rI k] (rB r):=by
 unfold NG at h
 refine mF func79 ntmps79 R λI=>aU<|mA R<|aZ<|aT λc2=>aU<|mM R<|aZ<|Zg<|aS λK4 c4 j=>aU<|xQ R<|mA R<|aZ<|BV h λp1 J U=>?_
 have M:∀(V:Bool) (T:NN),p1=V→K4 ⟨[(0,rI p),(5,rI k),(6,rB V)],[],(T 0),51⟩:=by
  intro V T e
  have h1:=U _ e
  refine c4 _<|cI R h1 (λX=>?_) λX=>?_
  ·exact aU<|mM R<|xQ R<|mA R<|aZ<|Zl<|yB X R
  refine aU<|xQ R<|mA R<|aZ<|cI R X (λZ=>?_) λZ=>?_
  ·exact aU<|mM R<|xQ R<|mM R<|vM R<|vQ R (A4 R (iR R) iL)<|xO R<|mM R<|vM R<|vQ R (A4 R (iR R) iL)<|xO R<|mA R<|aZ<|Zl<|yB Z R
  refine aU<|xQ R<|mA R<|aZ<|cI R Z (λh4=>?_) λh4=>?_
  ·exact aU<|mM R<|xQ R<|mA R<|aZ<|Zl<|yB h4 R
  refine aU<|xQ R<|mA R<|aZ<|cI R h4 (λh5=>?_) λh5=>?_
  ·exact aU<|mM R<|xQ R<|mM R<|vM R<|vQ R (A4 R (iR R) iL)<|xO R<|mA R<|aZ<|Zl<|yB h5 R
  refine aU<|xQ R<|mA R<|aZ<|cI R h5 (λh6=>?_) λh6=>?_
  ·refine aT λa0=>aF [0] ?_
   exact aR<|mM R<|AE h6 λr1 a1 h7=>cL (Qb<|a1) R<|mA R<|aZ<|a0 _<|Zl<|yB h7 R
  refine aT λa2=>aF [0,5] ?_
  refine aR<|xQ R<|mA R<|aZ<|a2 _<|cI R h6 (λh8=>?_) λh8=>?_
  ·exact aU<|mM R<|xQ R<|mA R<|aZ<|Zl<|yB h8 R
  refine aS λa6 a7 l=>aU<|xQ R<|mA R<|aZ<|BV h8 λp2 O a8=>?_
  have J2:∀(x2:Bool) (i2:NN),p2=x2→a6 ⟨[(0,rI p),(46,rB x2)],[],(i2 0),51⟩:=by
   intro x2 i2 e
   have h9:=a8 _ e
   refine a7 _<|cI R h9 (λm=>?_) λm=>?_
   ·exact aU<|mM R<|xQ R<|mA R<|aZ<|Zl<|yB m R
   exact Zc<|c2 _<|zB m R id
  refine aC R (λq=>?_) λq=>?_
  ·have w:=ET q O
   exact Zc<|l _ _ wk<|J2 _ (AH [(T 0)]) (Zf w).symm
  ·have w:=EJ q O
   exact aR<|xQ R<|mA R<|Zh<|l _ _ wk<|J2 _ (AH [(T 0)]) (Zf w).symm
 refine aC R (λA=>?_) λA=>?_
 ·have B:=ET A J
  exact Zc<|j _ _ wk<|M _ (AH [I]) (Zf B).symm
 ·have B:=EJ A J
  refine aU<|xQ R<|mA R<|aZ<|cI R B (λC=>?_) λC=>?_
  ·exact Zc<|j _ _ wk<|M _ (AH [I]) (Zf C).symm
  refine aU<|xQ R<|mA R<|aZ<|cI R C (λE=>?_) λE=>?_
  ·exact Zc<|j _ _ wk<|M _ (AH [I]) (Zf E).symm
  refine aU<|xQ R<|mA R<|aZ<|cI R E (λF=>?_) λF=>?_
  ·exact Zc<|j _ _ wk<|M _ (AH [I]) (Zf F).symm
  exact aR<|xQ R<|mA R<|Zh<|j _ _ wk<|M _ (AH [I]) (Zf F).symm
theorem cV{d1 k a r}(h:OE d1 k a=some r):Aa prog 41 [.agg [qb d1.Nodes],rI k,.r<|.sl<|a.map<|Ab .i64] (rI r):=by
 unfold OE at h
 refine mF func41 ntmps41 R λw=>aU<|sS R (A6 (cs:=[qb d1.Nodes]) 3 R iL R R)<|mA R<|aZ<|aS λK2 c2 A=>aU<|mM R<|xL Bi R<|mM R<|aZ<|Zg<|BS h λo1 l B m=>?_
 have J1:∀(u2:Unit) (i5:NN),o1=.nrm u2→K2 ⟨[],[],(i5 0),32⟩:=by
  intro u2 i5 e
  have h1:=B _ e
  exact c2 _<|zI h1 R id
 refine Zu (λ(C:Int) q=>⟨[(1,rI k),(2,.r<|.sl<|a.map<|Ab .i64),(3,.ptr 3 w 0 0),(10,rL a),(11,rI C)],[(3,some<|.box w 24 [qb d1.Nodes])],(q 0),32⟩) (AH [(w+1)]) l wk ?_
 intro C q v1 E j
 have h2:L4 d1 k a C=some v1:=E;unfold L4 at h2
 refine aU<|xS R<|aZ<|aT λc6=>cI R h2 (λF=>?_) λF=>?_
 ·refine Zc<|c6 _<|aT λc7=>Zg<|aU<|mM R<|mA R<|aZ<|aT λc9=>?_
  refine Zx BM (by kernel_rfl) ?_
  refine qP R (Dm R Bz iL R R)<|qP R (AM R iL)<|qP R (AM R iL)<|AE F λx4 I h4=>qP R (A9 R Bi.slice iL iL (λ_=>R) λ_=>I)<|qP R (Bs (d:=.int .i64 x4) R AI iL R)<|AE h4 λk1 J h5=>AQ.stepC R R R (r:=rI k1) (caps:=[]) (bs:=[.agg [qb d1.Nodes],rI x4]) R iL R ⟨⟨_,iL,.g (cs:=[.sl<|d1.Nodes.map AO.row]) R R⟩,⟨_,iL,.d R⟩,Za⟩ (λ_=>Jz<|J) R<|qP R (EL R iL)<|AQ.nil<|c9 _<|aT λM=>aT λO=>aG [1,2,3,8,10,11] [3] ?_
  refine aR<|mM R<|xS R<|aZ<|O _<|cI R h5 (λT=>?_) λT=>?_
  ·exact zI (m _<|xH j T) R id
  refine Zc<|M _<|aU<|mM R<|lF B6 CA R R<|mM R<|AE T λx5 U h7=>xI Bh R U<|sQ R (BL R CP iL)<|xV (.int .i64 x5.Kind) AI R<|AE h7 λr1 V h8=>cL (ox<|V) R<|sQ R (BE R iL)<|aZ<|cI R h8 (λX=>?_) λX=>?_
  ·exact zI (m _<|xH j X) R id
  refine Zc<|c7 _<|aG [1,2,3,10,11] [3] ?_
  exact aR<|AE X λx6 Z a0=>xA R Z<|mM R<|Zh<|Zr a0 (AH [(q 0)]) wk
 exact Zm<|A _ _ wk<|J1 _ (AH [(q 0)])<|xH j F
theorem ZF{d1 r}(h:L0 d1=some r):Aa prog 13 [.agg [qb d1.Nodes]] (rI r):=by
 unfold L0 at h
 refine mF func13 ntmps13 R λj=>aU<|sS R (A6 (cs:=[qb d1.Nodes]) 1 R iL R R)<|mA R<|aZ<|aT λc2=>aU<|lF B6 CA R R<|xL Bh R<|xQ R<|aZ<|cI R h (λh1=>?_) λh1=>?_
 ·exact zI h1 R id
 refine Zc<|c2 _<|aS λK5 c5 a0=>aU<|lF B6 CA R R<|xL Bh R<|mM R<|aZ<|Zg<|BS h1 λo1 C a1 E=>?_
 have J1:∀(u2:Unit) (i5:NN),o1=.nrm u2→K5 ⟨[(1,.ptr 1 j 0 0)],[(1,some<|.box j 24 [qb d1.Nodes])],(i5 0),81⟩:=by
  intro u2 i5 e
  have h2:=a1 _ e
  refine c5 _<|aS λK7 c7 a2=>aU<|lF B6 CA R R<|xL Bh R<|mM R<|aZ<|Zg<|BS h2 λo2 F a6 a7=>?_
  have J2:∀(u4:Unit) (I:NN),o2=.nrm u4→K7 ⟨[],[],(I 0),81⟩:=by
   intro u4 I e
   have h3:=a6 _ e
   exact c7 _<|zI h3 R id
  refine Zu (λ(m:Int) i8=>⟨[(1,.ptr 1 j 0 0),(59,rL d1.Nodes),(60,rI m)],[(1,some<|.box j 24 [qb d1.Nodes])],(i8 0),81⟩) (AH [(i5 0)]) F wk ?_
  intro m i8 v1 a8 J
  have h4:Ju d1 m=some v1:=a8;unfold Ju at h4
  refine aU<|xS R<|aZ<|aT λaa=>cI R h4 (λh5=>?_) λh5=>?_
  ·refine Zc<|aa _<|aT λab=>Zg<|aU<|mM R<|mA R<|aZ<|aT λac=>AE h5 λl M h6=>AE h6 λr1 ad h7=>?_
   refine rP 13 [pO 63<|.agg [qb d1.Nodes],pO 64<|.ptr 1 j 0 0,pO 65<|qb d1.Nodes,pO 66<|rI m,pO 67<|.rop (AO.row l) 0,pO 68<|.rop (AO.row l) 1,pO 69<|rI l.Kind,pO 70<|.ptr 1 j 0 0,pO 71<|qb d1.Nodes,pO 72<|rI m,pO 73<|.rop (AO.row l) 0,pO 74<|.agg<|Ai l,pO 75<|.r<|.sl<|r1.map<|Ab .i64] BM R (by exact⟨oB [(1,.ptr 1 j 0 0)] [(1,some<|.box j 24 [qb d1.Nodes])]<|Dm R Bz (.inl R) R R,oB [(1,.ptr 1 j 0 0)] [(1,some<|.box j 24 [qb d1.Nodes])]<|fB R B6 (.inl R) (λ_=>R) R,oB [(64,.ptr 1 j 0 0)] [(1,some<|.box j 24 [qb d1.Nodes])]<|AY (a:=qb d1.Nodes) R CA (.inl R) R R,oB [(5,rI m)] []<|AM R<|.inl R,oB [(65,qb d1.Nodes),(66,rI m)] []<|A9 R Bh.slice (.inl R) (.inl R) (λ_=>R) λ_=>M,oB [(67,.rop (AO.row l) 0)] []<|BL R CP<|.inl R,oB [(68,.rop (AO.row l) 1)] []<|Bs (d:=.int .i64 l.Kind) R AI (.inl R) R,oB [(1,.ptr 1 j 0 0)] [(1,some<|.box j 24 [qb d1.Nodes])]<|fB R B6 (.inl R) (λ_=>R) R,oB [(70,.ptr 1 j 0 0)] [(1,some<|.box j 24 [qb d1.Nodes])]<|AY (a:=qb d1.Nodes) R CA (.inl R) R R,oB [(5,rI m)] []<|AM R<|.inl R,oB [(71,qb d1.Nodes),(72,rI m)] []<|A9 R Bh.slice (.inl R) (.inl R) (λ_=>R) λ_=>M,oB [(73,.rop (AO.row l) 0)] []<|CN (cs:=(Ai l)) R C0 (.inl R) R R,oD (λ_=>[(74,.agg<|Ai l)]) (λ_=>[]) λG1 e h' n=>Cb (r:=.r<|.sl<|r1.map<|Ab .i64) (caps:=[]) (bs:=(Ho l)) R (.inl R) R ⟨.inl ⟨(.inl R),R⟩,Za⟩ λ_=>iq<|ad,Za⟩) λG1 n1=>?_
   refine BZ [1,5,59,60,61,62,63,64,65,66,67,68,69,70,71,72,73,74,75] [1] ?_
   refine AE h7 λe1 ae h8=>cL (cV<|ae) R<|mA R<|aZ<|ac _<|aT λaf=>aG [1,6,59,60] [1] ?_
   refine aR<|mM R<|xU R<|aZ<|af _<|cI R h8 (λh9=>?_) λh9=>?_
   ·exact aU<|mM R<|mA R<|aZ<|Zl<|yI (a7 _<|xH J h9) R
   exact Zc<|ab _<|aR<|AE h9 λx8 ag ah=>xA R ag<|mM R<|Zh<|Zr ah (AH [n1]) wk
  exact Zm<|a2 _ _ wk<|J2 _ (AH [(i8 0)])<|xH J h5
 refine Zu (λ(x2:Int) i3=>⟨[(1,.ptr 1 j 0 0),(13,rL d1.Nodes),(14,rI x2)],[(1,some<|.box j 24 [qb d1.Nodes])],(i3 0),81⟩) (AH [(j+1)]) C wk ?_
 intro x2 i3 v2 ai q
 have O:Mb d1 x2=some v2:=ai;unfold Mb at O
 refine aU<|xS R<|aZ<|aT λaj=>cI R O (λw=>?_) λw=>?_
 ·refine Zc<|aj _<|aT λak=>Zg<|aU<|mM R<|mA R<|aZ<|aT λal=>aU<|lF B6 CA R R<|mM R<|AE w λx9 T an=>xI Bh R T<|xB ((Ai x9)) C0 R<|AE an λe2 ao aq=>cL (fj<|ao) R<|mA R<|aZ<|aU<|mM R<|xU R<|aZ<|cI R aq (λA=>?_) λA=>?_
  ·refine aT λar=>aF [4] ?_
   exact aR<|mM R<|mA R<|aZ<|ar _<|Zl<|yI (E _<|xH q A) R
  refine Zc<|al _<|aT λau=>aG [1,3,13,14] [1] ?_
  refine Zx BM (by kernel_rfl) ?_
  refine qP R (AM R iL)<|qP R (A4 R iL iL)<|qP R (AM R iL)<|qO R (fB R B6 iL fR R)<|qO R (AY (a:=qb d1.Nodes) R CA (iR R) R R)<|AE A λav U aw=>qO R (A9 R Bh.slice (iR R) iL (λ_=>R)<|Ag U)<|qO R (BL R Da<|iR R)<|qO R (Bs (d:=.int .i64 av.ID) R AI (iR R) R)<|qO R (DJ R (iR R) iL)<|qP R (Bd R iL<|iR R)<|qP R (AM R iL)<|qO R (AM R iL)<|qO R (Bk R (iR R) iL)<|qO R (AM R<|iR R)<|qT R (fB R B6 iL fR R)<|qT R (AY (a:=qb d1.Nodes) R CA (iR R) R R)<|qT R (AM R iL)<|qT R (A9 R Bh.slice (iR R) (iR R) (λ_=>R) λ_=>T)<|qT R (BL R Da<|iR R)<|qT R (Bs (d:=.int .i64 x9.ID) R AI (iR R) R)<|qT R (fB R B6 iL fR R)<|qT R (AY (a:=qb d1.Nodes) R CA (iR R) R R)<|qT R (AM R iL)<|AE aw λb4 V ax=>qT R (CX R (iR R) iL<|Ag V)<|AE ax λay X az=>qT R (A9 R Bh.slice (iR R) (iR R) (λ_=>R)<|Ag X)<|qT R (BL R Da<|iR R)<|qT R (Bs (d:=.int .i64 ay.ID) R AI (iR R) R)<|qT R (FT R (iR R)<|iR R)<|qO R (Bd R (iR R)<|iR R)<|qP R (Cp R iL<|iR R)<|AQ.nil<|au _<|cI R az (λB=>?_) λB=>?_
  ·exact zI (E _<|xH q B) R id
  exact Zc<|ak _<|aR<|AE B λb5 Z b0=>xA R Z<|mM R<|Zh<|Zr b0 (AH [(i3 0)]) wk
 exact Zm<|a0 _ _ wk<|J1 _ (AH [(i3 0)])<|xH q w
theorem dl{d1 n r}(h:KP d1 n=some r):Aa prog 7 [.agg [qb d1.Nodes],rI n] (rI r):=by
 unfold KP at h
 refine mF func7 ntmps7 R λV=>aU<|sS R (A6 (cs:=[qb d1.Nodes]) 2 R iL R R)<|mA R<|aZ<|aT λE=>aU<|xC Bz R<|AE h λX j F=>cL (ZF<|j) R<|mA R<|aZ<|aU<|mM R<|xU R<|aZ<|cI R F (λl=>?_) λl=>?_
 ·exact aU<|mM R<|mA R<|aZ<|Zl<|yI l R
 refine Zc<|E _<|aU<|xC Bz R<|mM R<|AE l λZ m I=>cL (Jz<|m) R<|mA R<|aZ<|aT λJ=>aT λM=>aG [2,6] [2] ?_
 refine aR<|mM R<|xS R<|aZ<|M _<|cI R I (λq=>?_) λq=>?_
 ·exact zI q R id
 refine Zc<|J _<|aT λw=>aU<|lF B6 CA R R<|mM R<|AE q λO A T=>xI Bh R A<|sQ R (BL R CP iL)<|xV (.int .i64 O.Kind) AI R<|AE T λr1 B U=>cL (Qb<|B) R<|sQ R (BE R iL)<|aZ<|cI R U (λC=>?_) λC=>?_
 ·exact zI C R id
 exact Zc<|w _<|zI C R id
theorem OO{j i r}(h:Dx j i=some r):Aa prog 61 [qh j,rI i] (rI r):=by
 unfold Dx at h
 refine mF func61 ntmps61 R λX=>aU<|mA R<|aZ<|aS λZ c2 w=>aU<|mM R<|xL LV R<|mM R<|aZ<|Zg<|BS h λo1 l A B=>?_
 have J1:∀(T:Unit) (U:NN),o1=.nrm T→Z ⟨[],[],(U 0),20⟩:=by
  intro T U e
  have h1:=A _ e
  exact c2 _<|zI h1 R id
 refine Zu (λ(C:Int) q=>⟨[(0,qh j),(1,rI i),(7,rL j),(8,rI C)],[],(q 0),20⟩) (AH [X]) l wk ?_
 intro C q v1 E m
 have V:H8 j i C=some v1:=E;unfold H8 at V
 refine aU<|xS R<|aZ<|aT λc6=>cI R V (λF=>?_) λF=>?_
 ·refine Zc<|c6 _<|aT λc7=>Zg<|aU<|mM R<|mA R<|aZ<|aU<|mM R<|mM R<|AE F λx4 I h4=>xI LV R I<|sQ R (BL R MS iL)<|xV (.int .i64 x4.ID) AI R<|mM R<|xQ R<|aZ<|cI R h4 (λJ=>?_) λJ=>?_
  ·refine aT λM=>aF [5] ?_
   exact aR<|mM R<|mA R<|aZ<|M _<|Zl<|yI (B _<|xH m J) R
  refine Zc<|c7 _<|aF [0,1,7,8] ?_
  exact aR<|AE J λx5 O h6=>xA R O<|mM R<|Zh<|Zr h6 (AH [(q 0)]) wk
 exact Zm<|w _ _ wk<|J1 _ (AH [(q 0)])<|xH m F
theorem VX{q b c r}(h:MH q b c=some r):Aa prog 62 [.agg<|B7 q,rI b,rI c] (.agg<|A8 r):=by
 unfold MH at h
 refine mF func62 ntmps62 R λj=>aU<|sS R (A6 (cs:=(B7 q)) 3 R iL R R)<|sS R (BI (cs:=FP) 6 R Gw R R)<|aZ<|aS λK2 c2 C=>aU<|lF EP Ei R R<|xL Cz R<|mM R<|aZ<|Zg<|BS h λo1 w E F=>?_
 have J1:∀(u2:Unit) (i5:NN),o1=.nrm u2→K2 ⟨[(1,rI b),(2,rI c),(6,.ptr 6 (j+1) 0 0)],[(6,some<|.box (j+1) 109 FP)],(i5 0),47⟩:=by
  intro u2 i5 e
  have h1:=E _ e
  refine c2 _<|aT λc4=>aR<|mM R<|mM R ?_
  refine sQ R (Bu R Wv (q:=[(0,_),(1,_),(2,_),(3,_)]) (by exact⟨R,R,R,iL,R,R,R,iL,R,R,R,iL,R,R,R,iL,Za⟩) (cs:=[rI b,rI c,rI 1,rI 1])<|by rfl) ?_
  exact Zj R R (A5 (ds:=[rI b,rI c,rI 1,rI 1]) R F0 iL R iL R R R R)<|aZ<|c4 _<|Zl<|Cg (P:=prog) (λ(r:Ap)=>.agg<|A8 r) h1 iL<|.a DW R R R<|.g (cs:=[.int .i64 b,.int .i64 c,.int .i64 1,.int .i64 1]) R R
 refine Zu (λ(I:Int) B=>⟨[(1,rI b),(2,rI c),(3,.ptr 3 j 0 0),(6,.ptr 6 (j+1) 0 0),(11,rL q.Merges),(12,rI I)],[(3,some<|.box j 51<|B7 q),(6,some<|.box (j+1) 109 FP)],(B 0),47⟩) (AH [(j+2)]) w wk ?_
 intro I B v1 J A
 have h2:JU q b c I=some v1:=J;unfold JU at h2
 refine aU<|xS R<|aZ<|aT λc6=>cI R h2 (λM=>?_) λM=>?_
 ·refine Zc<|c6 _<|aT λc7=>Zg<|aU<|mM R<|mA R<|aZ<|aU<|lF EP Ei R R<|mM R<|AE M λl O h4=>xI Cz R O<|xB ((A8 l)) DW R<|sS R (BI (cs:=FP) 8 R Gw R R)<|Zj R R (A5 (ds:=(A8 l)) R F0 iL R iL R R R R)<|aZ<|aT λT=>aR<|mM R<|lF Cu AI R R<|lF Cu AI R R<|lF G0 AI R R<|AE h4 λx5 U h5=>xA R U<|AE h5 λx6 V h6=>sQ R (CX R iL iL λ_=>V)<|AE h6 λr1 X h7=>cL (Dr<|X) R<|mM R<|vM R<|vF DQ AI R R<|vF DQ AI R R<|vF Gr AI R R<|AE h7 λx7 Z h8=>vQ R (LF R (iR R) (iR R)<|Ag Z)<|AE h8 λx8 a0 h9=>vQ R (CX R (iR R) iL<|Ag a0)<|AE h9 λr2 a1 a2=>vL (λhg=>Dr<|Ag a1 hg) R<|xN R<|aZ<|T _<|cI R a2 (λm=>?_) λm=>?_
  ·refine aT λa6=>aG [6,8] [6,8] ?_
   exact aR<|xC DW R<|Zj R R (A5 (ds:=(A8 l)) R F0 iL R iL R R R R)<|aZ<|a6 _<|Zl<|Cg (P:=prog) (λ(r:Ap)=>.agg<|A8 r) (F _<|xH A m) iL<|.a DW R R R<|.g (cs:=[.int .i64 l.Row,.int .i64 l.Col,.int .i64 l.H,.int .i64 l.W]) R R
  refine Zc<|c7 _<|aG [1,2,3,6,11,12] [3,6] ?_
  exact aR<|AE m λx9 a7 a8=>xA R a7<|mM R<|Zh<|Zr a8 (AH [((B 0)+1)]) wk
 exact Zm<|C _ _ wk<|J1 _ (AH [(B 0)])<|xH A M
theorem PL{j i r}(h:In j i=some r):Aa prog 159 [qg j,rI i] (rI r):=by
 unfold In at h
 refine mF func159 ntmps159 R λX=>aU<|mA R<|aZ<|aS λZ c2 w=>aU<|mM R<|xL BX R<|mM R<|aZ<|Zg<|BS h λo1 l A B=>?_
 have J1:∀(T:Unit) (U:NN),o1=.nrm T→Z ⟨[],[],(U 0),20⟩:=by
  intro T U e
  have h1:=A _ e
  exact c2 _<|zI h1 R id
 refine Zu (λ(C:Int) q=>⟨[(0,qg j),(1,rI i),(7,rL j),(8,rI C)],[],(q 0),20⟩) (AH [X]) l wk ?_
 intro C q v1 E m
 have V:IG j i C=some v1:=E;unfold IG at V
 refine aU<|xS R<|aZ<|aT λc6=>cI R V (λF=>?_) λF=>?_
 ·refine Zc<|c6 _<|aT λc7=>Zg<|aU<|mM R<|mA R<|aZ<|aU<|mM R<|mM R<|AE F λx4 I h4=>xI BX R I<|sQ R (BL R Et iL)<|xV (.int .i64 x4.Item) AI R<|mM R<|xQ R<|aZ<|cI R h4 (λJ=>?_) λJ=>?_
  ·refine aT λM=>aF [5] ?_
   exact aR<|mM R<|mA R<|aZ<|M _<|Zl<|yI (B _<|xH m J) R
  refine Zc<|c7 _<|aF [0,1,7,8] ?_
  exact aR<|AE J λx5 O h6=>xA R O<|mM R<|Zh<|Zr h6 (AH [(q 0)]) wk
 exact Zm<|w _ _ wk<|J1 _ (AH [(q 0)])<|xH m F
theorem X5{B w r}(h:Km B w=some r):Aa prog 80 [qa B,.agg<|CS w] (qa r):=by
 unfold Km at h
 refine mF func80 ntmps80 R λA=>aU<|sS R (A6 (cs:=(CS w)) 3 R iL R R)<|mA R<|aZ<|aU<|mA R<|aZ<|aU<|mA R<|aZ<|aS λK4 c4 ae=>aU<|mM R<|xL BH R<|mM R<|aZ<|Zg<|IU h λo1 a8 af=>?_
 have J1:∀(j:Bool) (C:List AG) (T:NN),o1=(j,C)→K4 ⟨[(3,.ptr 3 A 0 0),(5,.own 5005<|T 0),(6,rB j)],[(3,some<|.box A 71<|CS w),(5005,some<|.arr (T 0) 71 2<|C.map AG.row)],(T 1),52⟩:=by
  intro j C T e
  have h1:=af _ _ e
  refine c4 _<|aS λK6 c6 aa=>aU<|mM R<|sQ R (BE R iL)<|aZ<|BV h1 λp1 ab ag=>?_
  have J2:∀(E:List AG) (i6:NN),p1=E→K6 ⟨[(5,.own 5005<|i6 0)],[(5005,some<|.arr (i6 0) 71 2<|E.map AG.row)],(i6 1),52⟩:=by
   intro E i6 e
   have h2:=ag _ e
   exact c6 _<|aU<|mM R<|mA R<|aZ<|Zl<|Cg (P:=prog) (λ(r:(List AG))=>qa r) h2 iL<|.t<|.one<|.own R
  refine aC R (λX=>?_) λX=>?_
  ·have h3:=ET X ab
   exact aR<|mM R<|xC En R<|sS R (Bj 49 R BH (f:=AG.row) (l:=([w]:List AG)) ⟨R,⟨_,iL,R⟩,Za⟩ R (λ_=>R) R)<|AE h3 λb7 Z h4=>sS R (Cj R BH iL R (.inr<|.inl ⟨_,_,iL,R⟩) Z)<|mA R<|Zh<|aa _ _ wk<|J2 _ (AH [((T 1)+1),((T 1)+2)]) (Zf h4).symm
  ·have h3:=EJ X ab
   exact Zc<|aa _ _ wk<|J2 _ (AH [(T 0),(T 1)]) (Zf h3).symm
 refine Jn (λ(l:Bool) (x2:Int) (F:List AG) M=>⟨[(0,qa B),(3,.ptr 3 A 0 0),(5,.own 5005<|M 0),(6,rB l),(9,rL B),(10,rI x2)],[(3,some<|.box A 71<|CS w),(5005,some<|.arr (M 0) 71 2<|F.map AG.row)],(M 1),52⟩) (AH [(A+1),(A+2)]) a8 (Zv (Zv (GI 5 5005 71 2 (by decide) R)<|by exact Am.cv (e':=[(0,qa B),(1,.agg<|CS w),(3,.ptr 3 A 0 0),(4,cZ),(5,.own 5005<|A+1),(6,rB false),(8,qa B),(9,rL B),(10,rI 0)]) (h':=[(3,some<|.box A 71<|CS w),(5005,some<|.arr (A+1) 71 2<|([]:List AG).map AG.row)]) ⟨jL,jL,jL,jL,jL,jL,jL,jL,jL,Za⟩ ⟨.inl R,.inl R,Za⟩ nL) wk) ?_
 intro l x2 F M v1 ah ai
 have h5:NY B w l x2 F=some v1:=ah;unfold NY at h5
 refine aU<|xS R<|aZ<|aT λaj=>cI R h5 (λh6=>?_) λh6=>?_
 ·refine Zc<|aj _<|aS λak al U=>Zg<|IU h6 λp2 an ao=>?_
  have J3:∀(m:Bool) (I:List AG) (i7:NN),p2=(m,I)→ak ⟨[(0,qa B),(3,.ptr 3 A 0 0),(5,.own 5005<|i7 0),(6,rB m),(9,rL B),(10,rI x2)],[(3,some<|.box A 71<|CS w),(5005,some<|.arr (i7 0) 71 2<|I.map AG.row)],(i7 1),52⟩:=by
   intro m I i7 e
   have h7:=ao _ _ e
   exact al _<|aR<|AE h7 λx4 aq h8=>xA R aq<|mM R<|Zh<|Fl.mk h8 (AH [(i7 0),(i7 1)]) wk
  refine aU<|mM R<|mA R<|aZ<|aS λar au V=>aT λav=>?_
  refine Zx BM (by kernel_rfl) ?_
  refine qP R (AM R iL)<|qP R (BE R iL)<|qP R (AM R iL)<|qO R (AM R iL)<|qO R (AM R iL)<|AE an λx5 aw h9=>qO R (A9 R BH.slice (iR R) (iR R) (λ_=>R)<|Ag aw)<|qO R (BL R Ek<|iR R)<|qO R (Bs (d:=.str x5.Name) R BK (iR R) R)<|qO R (fB R Ek iL fR R)<|qO R (AY (a:=rS w.Name) R BK (iR R) R R)<|qO R (Xo R (iR R)<|iR R)<|qP R (Bd R iL<|iR R)<|AQ.nil<|av _<|IU h9 λp3 ac ax=>?_
  have J4:∀(q:Bool) (J:List AG) (i8:NN),p3=(q,J)→ar ⟨[(0,qa B),(3,.ptr 3 A 0 0),(5,.own 5005<|i8 0),(6,rB q),(7,rI x2),(9,rL B),(10,rI x2)],[(3,some<|.box A 71<|CS w),(5005,some<|.arr (i8 0) 71 2<|J.map AG.row)],(i8 1),52⟩:=by
   intro q J i8 e
   have ay:=ax _ _ e
   refine au _<|aT λaz=>?_
   refine Zx BM (by kernel_rfl) ?_
   refine qP R (AM R iL)<|qP R (AM R iL)<|AE ay λx6 ad b0=>qP R (A9 R BH.slice iL iL (λ_=>R) λ_=>ad)<|qP R (BL R Ek iL)<|qP R (Bs (d:=.str x6.Name) R BK iL R)<|qP R (fB R Ek iL fR R)<|qP R (AY (a:=rS w.Name) R BK iL R R)<|qP R (D1 R iL iL)<|AQ.nil<|az _<|cI R b0 (λa0=>?_) λa0=>?_
   ·exact aR<|mM R<|mM R<|mM R<|xI BH R ad<|xB ((CS x6)) En R<|sS R (Bj 42 R BH (f:=AG.row) (l:=([x6]:List AG)) ⟨R,⟨_,iL,R⟩,Za⟩ R (λ_=>R) R)<|AE a0 λb8 a2 b4=>sS R (Cj R BH iL R (.inr<|.inl ⟨_,_,iL,R⟩) a2)<|mA R<|Zh<|U _ _ wk<|J3 _ _ (AH [((i8 1)+1),((i8 1)+2)]) (Zf b4).symm
   exact Zc<|U _ _ wk<|J3 _ _ (AH [(i8 0),(i8 1)]) (Zf a0).symm
  refine aC R (λa6=>?_) λa6=>?_
  ·have a7:=ET a6 ac
   refine aU<|mM R<|xC En R<|sS R (Bj 27 R BH (f:=AG.row) (l:=([w]:List AG)) ⟨R,⟨_,iL,R⟩,Za⟩ R (λ_=>R) R)<|AE a7 λb5 O b6=>sS R (Cj R BH iL R (.inr<|.inl ⟨_,_,iL,R⟩) O)<|mA R<|aZ<|aG [0,3,5,7,9,10] [3,5005] ?_
   exact aR<|mA R<|Zh<|V _ _ wk<|J4 _ _ (AH [((M 1)+1),((M 1)+2)]) (Zf b6).symm
  ·have a7:=EJ a6 ac
   exact Zc<|V _ _ wk<|J4 _ _ (AH [(M 0),(M 1)]) (Zf a7).symm
 exact Zm<|ae _ _ wk<|J1 _ _ (AH [(M 0),(M 1)])<|xH ai h6
theorem pw{l1 c r}(h:Lw l1 c=some r):Aa prog 48 [qa l1,qa c] (qa r):=by
 unfold Lw at h
 refine mF func48 ntmps48 R λn0=>aU<|mA R<|aZ<|aU<|mA R<|aZ<|aS λK3 c3 ah=>aU<|mM R<|xL BH R<|mM R<|aZ<|Zg<|BV h λo1 a0 ai=>?_
 have J1:∀(E:List AG) (i5:NN),o1=E→K3 ⟨[(1,qa c),(5,qa E)],[],(i5 0),54⟩:=by
  intro E i5 e
  have h1:=ai _ e
  refine c3 _<|aS λK5 c5 aj=>aU<|mM R<|xL BH R<|mM R<|aZ<|Zg<|BV h1 λo2 a1 ak=>?_
  have J2:∀(j:List AG) (C:NN),o2=j→K5 ⟨[(5,qa j)],[],(C 0),54⟩:=by
   intro j C e
   have h2:=ak _ e
   refine c5 _<|aU<|mA R<|aZ<|aS λK8 c8 al=>aU<|mM R<|xL BH R<|mM R<|aZ<|Zg<|BV h2 λo3 a2 an=>?_
   have J3:∀(m:List AG) (F:NN),o3=m→K8 ⟨[(8,.own 5008<|F 0)],[(5008,some<|.arr (F 0) 71 2<|m.map AG.row)],(F 1),54⟩:=by
    intro m F e
    have h3:=an _ e
    exact c8 _<|aU<|mM R<|mA R<|aZ<|Zl<|Cg (P:=prog) (λ(r:(List AG))=>qa r) h3 iL<|.t<|.one<|.own R
   refine Cs (λ(x8:Int) (q:List AG) l=>⟨[(5,qa j),(8,.own 5008<|l 0),(35,rL j),(36,rI x8)],[(5008,some<|.arr (l 0) 71 2<|q.map AG.row)],(l 1),54⟩) (AH [(C 0),((C 0)+1)]) a2 (Zv (Zv (GI 8 5008 71 2 (by decide) R)<|by exact Am.cv (e':=[(5,qa j),(8,.own 5008<|C 0),(34,qa j),(35,rL j),(36,rI 0)]) (h':=[(5008,some<|.arr (C 0) 71 2<|([]:List AG).map AG.row)]) ⟨jL,jL,jL,jL,jL,Za⟩ ⟨.inl R,Za⟩ nL) wk) ?_
   intro x8 q l v1 ao aq
   have h4:Mt j x8 q=some v1:=ao;unfold Mt at h4
   refine aU<|xS R<|aZ<|aT λar=>cI R h4 (λh5=>?_) λh5=>?_
   ·refine Zc<|ar _<|aS λau av M=>Zg<|BV h5 λp1 aw ax=>?_
    have J4:∀(w:List AG) (i16:NN),p1=w→au ⟨[(5,qa j),(8,.own 5008<|i16 0),(35,rL j),(36,rI x8)],[(5008,some<|.arr (i16 0) 71 2<|w.map AG.row)],(i16 1),54⟩:=by
     intro w i16 e
     have h6:=ax _ e
     exact av _<|aR<|AE h6 λbh a6 h7=>xA R a6<|mM R<|Zh<|ZJ h7 (AH [(i16 0),(i16 1)]) wk
    refine aU<|mM R<|mA R<|aZ<|aU<|mM R<|mM R<|AE aw λT O h8=>xI BH R O<|sQ R (BL R JQ iL)<|xV (.str T.Value) BK R<|sQ R (D1 R iL iL)<|aZ<|cI R h8 (λh9=>?_) λh9=>?_
    ·exact aR<|mM R<|mM R<|mM R<|xI BH R O<|xB ((CS T)) En R<|sS R (Bj 50 R BH (f:=AG.row) (l:=([T]:List AG)) ⟨R,⟨_,iL,R⟩,Za⟩ R (λ_=>R) R)<|AE h9 λay I az=>sS R (Cj R BH iL R (.inr<|.inl ⟨_,_,iL,R⟩) I)<|mA R<|Zh<|M _ _ wk<|J4 _ (AH [((l 1)+1),((l 1)+2)]) (Zf az).symm
    exact Zc<|M _ _ wk<|J4 _ (AH [(l 0),(l 1)]) (Zf h9).symm
   exact Zm<|al _ _ wk<|J3 _ (AH [(l 0),(l 1)])<|xH aq h5
  refine Cs (λ(A:List AG) (x5:Int) i8=>⟨[(1,qa c),(5,qa A),(23,rL c),(24,rI x5)],[],(i8 0),54⟩) (AH [(i5 0)]) a1 wk ?_
  intro A x5 i8 v2 b0 b4
  have a7:OQ c A x5=some v2:=b0;unfold OQ at a7
  refine aU<|xS R<|aZ<|aT λb5=>cI R a7 (λU=>?_) λU=>?_
  ·refine Zc<|b5 _<|aT λb6=>Zg<|aU<|mM R<|mA R<|aZ<|aR<|mM R<|mM R<|mM R<|AE U λa8 aa b7=>xI BH R aa<|xB ((CS a8)) En R<|AE b7 λab V b8=>sS R (Cb (r:=qa ab) (caps:=[]) (bs:=[qa A,.agg<|CS a8]) R iL R ⟨.inl ⟨iL,R⟩,.inl ⟨iL,R⟩,Za⟩ λ_=>X5<|V)<|mA R<|aZ<|b6 _<|aF [1,5,23,24] ?_
   exact aR<|AE b8 λbi ac b9=>xA R ac<|mM R<|Zh<|ZJ b9 (AH [(i8 0)]) wk
  exact Zm<|aj _ _ wk<|J2 _ (AH [(i8 0)])<|xH b4 U
 refine Cs (λ(B:List AG) (x2:Int) i3=>⟨[(0,qa l1),(1,qa c),(5,qa B),(11,rL l1),(12,rI x2)],[],(i3 0),54⟩) (AH [n0]) a0 ((by exact Am.cv ⟨jL,jL,.inl<|.inr<|.inr ⟨R,R⟩,jL,jL,Za⟩ Za nL)) ?_
 intro B x2 i3 v3 ba bb
 have ad:NU l1 B x2=some v3:=ba;unfold NU at ad
 refine aU<|xS R<|aZ<|aT λbc=>cI R ad (λX=>?_) λX=>?_
 ·refine Zc<|bc _<|aT λbd=>Zg<|aU<|mM R<|mA R<|aZ<|aR<|mM R<|mM R<|mM R<|AE X λae af be=>xI BH R af<|xB ((CS ae)) En R<|AE be λZ J bf=>sS R (Cb (r:=qa Z) (caps:=[]) (bs:=[qa B,.agg<|CS ae]) R iL R ⟨.inl ⟨iL,R⟩,.inl ⟨iL,R⟩,Za⟩ λ_=>X5<|J)<|mA R<|aZ<|bd _<|aF [0,1,5,11,12] ?_
  exact aR<|AE bf λbj ag bg=>xA R ag<|mM R<|Zh<|ZJ bg (AH [(i3 0)]) wk
 exact Zm<|ah _ _ wk<|J1 _ (AH [(i3 0)])<|xH bb X
theorem pR{w i a r}(h:MQ w i a=some r):Aa prog 173 [qg w,rI i,rI a] (rB r):=by
 unfold MQ at h
 refine mF func173 ntmps173 R λn0=>aU<|mA R<|aZ<|aS λK2 c2 B=>aU<|mM R<|xL BX R<|AE h λZ C h1=>xA R C<|mM R<|aZ<|Zg<|BS h1 λo1 m E q=>?_
 have J1:∀(u2:Unit) (i5:NN),o1=.nrm u2→K2 ⟨[],[],(i5 0),27⟩:=by
  intro u2 i5 e
  have h2:=E _ e
  exact c2 _<|zB h2 R id
 refine Cs (λ(j:Int) (F:Int) A=>⟨[(0,qg w),(1,rI j),(2,rI a),(10,rI Z),(11,rI F)],[],(A 0),27⟩) (AH [n0]) m wk ?_
 intro j F A v1 I l
 have h3:Gp w a Z j F=some v1:=I;unfold Gp at h3
 refine aU<|xS R<|aZ<|aT λc6=>cI R h3 (λJ=>?_) λJ=>?_
 ·refine Zc<|c6 _<|aT λc7=>Zg<|aT λc8=>aU<|mM R<|mM R<|xQ R<|aZ<|cI R J (λM=>?_) λM=>?_
  ·exact zB (q _<|xH l M) R id
  refine Zc<|c8 _<|aU<|mM R<|mM R<|AE M λi6 O h6=>cL (PL<|O) R<|mA R<|aZ<|aT λT=>aU<|mM R<|xS R<|aZ<|cI R h6 (λU=>?_) λU=>?_
  ·exact zB (q _<|xH l U) R id
  refine Zc<|T _<|aF [0,2,7,10,11] ?_
  exact aR<|mM R<|mM R<|AE U λx5 V h8=>xI BX R V<|sQ R (BL R Lj iL)<|xV (.int .i64 x5.Parent) AI R<|mA R<|aZ<|c7 _<|aR<|AE h8 λx6 X h9=>xA R X<|mM R<|Zh<|ZJ h9 (AH [(A 0)]) wk
 exact Zm<|B _ _ wk<|J1 _ (AH [(A 0)])<|xH l J
theorem kJ{I r}(h:Lo I=some r):Aa prog 157 [qf I] (.tup [qg r.1,qg r.2]):=by
 unfold Lo at h
 refine mF func157 ntmps157 R λn0=>aU<|mA R<|mA R<|aZ<|aU<|mA R<|mA R<|aZ<|aS λK3 c3 b0=>aU<|mM R<|xL EB R<|mM R<|aZ<|Zg<|IU h λo1 an b4=>?_
 have J1:∀(q:List AC) (l:List AC) (V:NN),o1=(q,l)→K3 ⟨[(4,.own 5004<|V 0),(5,.own 5005<|V 1)],[(5004,some<|.arr (V 0) 167 4<|q.map AC.row),(5005,some<|.arr (V 1) 167 4<|l.map AC.row)],(V 2),121⟩:=by
  intro q l V e
  have h1:=b4 _ _ e
  refine c3 _<|aS λK5 c5 b5=>aU<|mM R<|sQ R (MY R BX.slice iL R)<|mM R<|aZ<|Zg<|BV h1 λo2 ao b6=>?_
  have J2:∀(J:List AC) (a8:NN),o2=J→K5 ⟨[(4,.own 5004<|a8 0),(5,.own 5005<|V 1)],[(5004,some<|.arr (a8 0) 167 4<|J.map AC.row),(5005,some<|.arr (V 1) 167 4<|l.map AC.row)],(a8 1),121⟩:=by
   intro J a8 e
   have h2:=b6 _ e
   exact c5 _<|aU<|mM R<|mM R<|mA R<|mA R<|aZ<|Zl<|EH (P:=prog) (λ(r:(List AC) × (List AC))=>qg r.1) (λ(r:(List AC) × (List AC))=>qg r.2) h2 iL (.t<|.one<|.own R)<|.t<|.one<|.own R
  refine Cs (λ(x5:Int) (M:List AC) i8=>⟨[(4,.own 5004<|i8 0),(5,.own 5005<|V 1),(96,rL q),(97,rI x5)],[(5004,some<|.arr (i8 0) 167 4<|M.map AC.row),(5005,some<|.arr (V 1) 167 4<|l.map AC.row)],(i8 1),121⟩) (AH [(V 0),(V 2)]) ao wk ?_
  intro x5 M i8 v1 b7 b8
  have h3:IW q l x5 M=some v1:=b7;unfold IW at h3
  refine aU<|xS R<|aZ<|aT λc9=>cI R h3 (λh4=>?_) λh4=>?_
  ·refine Zc<|c9 _<|aS λb9 ba ab=>Zg<|BV h4 λp1 bb bc=>?_
   have J3:∀(O:List AC) (Z:NN),p1=O→b9 ⟨[(4,.own 5004<|Z 0),(5,.own 5005<|V 1),(96,rL q),(97,rI x5)],[(5004,some<|.arr (Z 0) 167 4<|O.map AC.row),(5005,some<|.arr (V 1) 167 4<|l.map AC.row)],(Z 1),121⟩:=by
    intro O Z e
    have h5:=bc _ e
    exact ba _<|aR<|AE h5 λx7 bd h6=>xA R bd<|mM R<|Zh<|ZJ h6 (AH [(Z 0),(Z 1)]) wk
   refine aU<|mM R<|mA R<|aZ<|aU<|mM R<|mM R<|mM R<|AE bb λx8 aa h7=>sQ R (Gv R BX.slice iL R iL λ_=>aa)<|sQ R (IJ (ob:=.arr _ _ _ _) R Et iL fR R)<|sQ R (UF (d:=.int .i64 x8.Item) R AI iL fR (λ_=>aa) R)<|AE h7 λk1 be h8=>cL (PL<|be) R<|mA R<|aZ<|aT λbf=>aG [4,5,10,11,96,97] [5004,5005] ?_
   refine aR<|mM R<|sQ R (DT R iL iL)<|aZ<|bf _<|cI R h8 (λh9=>?_) λh9=>?_
   ·exact aR<|mM R<|mM R<|mM R<|mM R<|AE h9 λx9 aq bg=>sQ R (Gv R BX.slice iL R iL λ_=>aq)<|sQ R (IJ (ob:=.arr _ _ _ _) R Ks iL fR R)<|sQ R (UF (d:=.sl<|x9.Attrs.map AG.row) R CR iL fR (λ_=>aq) R)<|sQ R (Gv R BX.slice iL R iL λ_=>aa)<|sQ R (IJ (ob:=.arr _ _ _ _) R Ks iL fR R)<|Zj R R (TK (v:=(AC.mk x8.Item x8.Parent x8.Place x9.Attrs)) R KJ iL R aa iL R R R R)<|Zh<|ab _ _ wk<|J3 _ (AH [(i8 0),(i8 1)]) (Zf bg).symm
   exact Zc<|ab _ _ wk<|J3 _ (AH [(i8 0),(i8 1)]) (Zf h9).symm
  exact Zm<|b5 _ _ wk<|J2 _ (AH [(i8 0),(i8 1)])<|xH b8 h4
 refine Jn (λ(x2:Int) (w:List AC) (B:List AC) m=>⟨[(0,qf I),(4,.own 5004<|m 0),(5,.own 5005<|m 1),(13,rL I),(14,rI x2)],[(5004,some<|.arr (m 0) 167 4<|w.map AC.row),(5005,some<|.arr (m 1) 167 4<|B.map AC.row)],(m 2),121⟩) (AH [n0,(n0+1),(n0+2)]) an (Zv (Zv (GI 4 5004 167 4 (by decide) R)<|by exact Am.cv (e':=[(0,qf I),(2,cZ),(3,cZ),(4,.own 5004 n0),(5,cZ),(12,qf I),(13,rL I),(14,rI 0)]) (h':=[(5004,some<|.arr n0 167 4<|([]:List AC).map AC.row)]) ⟨jL,jL,jL,jL,jL,jL,jL,jL,Za⟩ ⟨.inl R,Za⟩ nL)<|Zv (Zv (GI 5 5005 167 4 (by decide) R)<|by exact Am.cv (e':=[(0,qf I),(2,cZ),(3,cZ),(4,.own 5004 n0),(5,.own 5005<|n0+1),(12,qf I),(13,rL I),(14,rI 0)]) (h':=[(5004,some<|.arr n0 167 4<|([]:List AC).map AC.row),(5005,some<|.arr (n0+1) 167 4<|([]:List AC).map AC.row)]) ⟨jL,jL,jL,jL,jL,jL,jL,jL,Za⟩ ⟨.inl R,.inl R,Za⟩ nL) wk) ?_
 intro x2 w B m v2 bh bi
 have ar:IR I x2 w B=some v2:=bh;unfold IR at ar
 refine aU<|xS R<|aZ<|aT λbj=>cI R ar (λaf=>?_) λaf=>?_
 ·refine Zc<|bj _<|aS λbk bl a6=>Zg<|IU af λp2 bm bn=>?_
  have J4:∀(E:List AC) (T:List AC) (U:NN),p2=(E,T)→bk ⟨[(0,qf I),(4,.own 5004<|U 0),(5,.own 5005<|U 1),(13,rL I),(14,rI x2)],[(5004,some<|.arr (U 0) 167 4<|E.map AC.row),(5005,some<|.arr (U 1) 167 4<|T.map AC.row)],(U 2),121⟩:=by
   intro E T U e
   have bo:=bn _ _ e
   exact bl _<|aR<|AE bo λcp au bp=>xA R au<|mM R<|Zh<|Fl.mk bp (AH [(U 0),(U 1),(U 2)]) wk
  refine aU<|mM R<|mA R<|aZ<|aU<|mM R<|mM R<|AE bm λj av bq=>xI EB R av<|xB ((Bl j)) HL R<|sS R (BI (cs:=QK) 7 R Rh R R)<|Zj R R (A5 (ds:=(Bl j)) R Qn iL R iL R R R R)<|aZ<|aT λbr=>aU<|lF Fp AI R R<|xQ R<|aZ<|cI R bq (λag=>?_) λag=>?_
  ·refine aT λbs=>aG [0,4,5,7,13,14] [7,5004,5005] ?_
   refine aR<|mM R<|lF Fa AI R R<|AE ag λk2 bt bu=>cL (PL<|bt) R<|mA R<|aZ<|bs _<|aS λbv bw ac=>aU<|mM R<|xS R<|aZ<|IU bu λp3 aw bx=>?_
   have J5:∀(k3:Int) (C:List AC) (A:NN),p3=(k3,C)→bv ⟨[(0,qf I),(4,.own 5004<|m 0),(5,.own 5005<|A 0),(7,.ptr 7 (m 2) 0 0),(8,rI k3),(13,rL I),(14,rI x2)],[(7,some<|.box (m 2) 146<|Bl j),(5004,some<|.arr (m 0) 167 4<|w.map AC.row),(5005,some<|.arr (A 0) 167 4<|C.map AC.row)],(A 1),121⟩:=by
    intro k3 C A e
    have bz:=bx _ _ e
    refine bw _<|aT λc0=>?_
    refine Ry [0,1] [2,3,4,5,6,7,8,9,10,11] [12] 13 BM (by kernel_rfl) R R R R R ?_
    refine F5.move R R R R<|F5.move R R R R<|F5.nil<|ZG R R R (AM R iL)<|ZG R R R (AM R iL)<|AE bz λa0 X c2=>ZG R R R (Gv R BX.slice iL R iL λ_=>X)<|ZG R R R (IJ (ob:=.arr _ _ _ _) R Ks iL fR R)<|ZG R R R (UF (d:=.sl<|a0.Attrs.map AG.row) R CR iL fR (λ_=>X) R)<|ZG R R R (fB R MB iL fR R)<|ZG R R R (AY (a:=rS j.Name) R BK iL R R)<|ZG R R R (fB R JI iL fR R)<|ZG R R R (AY (a:=rS j.Value) R BK iL R R) ?_
    refine ZG R R R (Bu R QY (q:=[(0,_),(1,_)]) (by exact⟨R,R,R,iL,R,R,R,iL,Za⟩) (cs:=[rS j.Name,rS j.Value])<|by rfl) ?_
    refine AF.nil<|AA.step R R R (TV 50 R BH (f:=AG.row) (l:=([(AG.mk j.Name j.Value)]:List AG)) ⟨R,⟨_,iL,R⟩,Za⟩ R (λ_=>R) R)<|AA.nil ?_
    refine AS.weak (by exact Am.frz (e':=[(0,qf I),(4,.own 5004<|m 0),(5,.own 5005<|A 0),(7,.ptr 7 (m 2) 0 0),(8,rI k3),(13,rL I),(14,rI x2),(38,.own 5005<|A 0),(39,rI k3),(40,.own 5005<|A 0),(41,rI k3),(42,.ptr 5005 (A 0) k3.toNat 0),(43,.ptr 5005 (A 0) k3.toNat 3),(44,qa a0.Attrs),(45,.ptr 7 (m 2) 0 6),(46,rS j.Name),(47,.ptr 7 (m 2) 0 7),(48,rS j.Value),(49,.agg [rS j.Name,rS j.Value]),(50,.r<|.sl<|[(AG.mk j.Name j.Value)].map AG.row)]) (h':=[(7,some<|.box (m 2) 146<|Bl j),(5004,some<|.arr (m 0) 167 4<|w.map AC.row),(5005,some<|.arr (A 0) 167 4<|C.map AC.row)]) 50 R ⟨jL,jL,jL,jL,jL,jL,jL,jL,jL,jL,jL,jL,jL,jL,jL,jL,jL,jL,jL,.inl<|.inr<|.inr ⟨R,R⟩,Za⟩ ⟨R,.inl R,R,.inl R,R,.inl R,Za⟩) ?_
    exact AE c2 λr1 c4 c6=>sS R (Cb (r:=qa r1) (caps:=[]) (bs:=[qa a0.Attrs,.r<|.sl<|[(AG.mk j.Name j.Value)].map AG.row]) R iL R ⟨.inl ⟨iL,R⟩,.inl ⟨iL,R⟩,Za⟩ λ_=>pw<|c4)<|sQ R (Gv R BX.slice iL R iL λ_=>X)<|sQ R (IJ (ob:=.arr _ _ _ _) R Ks iL fR R)<|Zj R R (TK (v:=(AC.mk a0.Item a0.Parent a0.Place r1)) R KJ iL R X iL R R R R)<|aZ<|c0 _<|Zm<|a6 _ _ wk<|J4 _ _ (AH [(m 0),(A 0),((A 1)+1)]) (Zf c6).symm
   refine aC R (λah=>?_) λah=>?_
   ·have ai:=ET ah aw
    refine aU<|mM R<|sQ R (MY R BX.slice iL R)<|mA R<|aZ<|aR<|mM R<|lF Fa AI R R ?_
    refine sQ R (Bu R RD (q:=[(0,_)]) (by exact⟨R,R,R,iL,Za⟩) (cs:=[rI j.Item,rI 0,.r<|.str [],cZ])<|by rfl) ?_
    exact sS R (Bj 36 R BX (f:=AC.row) (l:=([(AC.mk j.Item 0 [] [])]:List AC)) ⟨R,⟨_,iL,R⟩,Za⟩ R (λ_=>R) R)<|AE ai λaz a7 c7=>sS R (Cj R BX iL R (.inr<|.inl ⟨_,_,iL,R⟩) a7)<|mA R<|Zh<|ac _ _ wk<|J5 _ _ (AH [((m 2)+2),((m 2)+3)]) (Zf c7).symm
   ·have ai:=EJ ah aw
    exact Zc<|ac _ _ wk<|J5 _ _ (AH [(m 1),((m 2)+1)]) (Zf ai).symm
  refine Zc<|br _<|aT λc8=>aT λca=>aG [0,4,5,7,13,14] [7,5004,5005] ?_
  refine aR<|lF HQ AI R R<|lF Fa AI R R<|xQ R<|mM R<|vF HQ AI R R<|vQ R (Bk R (iR R) iL)<|vQ R (AM R<|iR R)<|wQ R (AM R iL)<|wQ R (fB R HQ iL fR R)<|wQ R (AY (a:=rI j.Parent) R AI (iR R) R R)<|wQ R (fB R Fa iL fR R)<|wQ R (AY (a:=rI j.Item) R AI (iR R) R R)<|AE ag λr2 cb cc=>AS.stepW (.two R R R) R R (DU (r:=rB r2) (caps:=[]) (bs:=[qg w,rI j.Parent,rI j.Item]) R iL R ⟨⟨_,(iR R),.one<|.own R⟩,⟨_,(iR R),.d R⟩,⟨_,(iR R),.d R⟩,Za⟩ (λhg=>pR<|Ag cb hg) R)<|vQ R (Bd R (iR R)<|iR R)<|xO R<|aZ<|ca _<|cI R cc (λaj=>?_) λaj=>?_
  ·exact Zm<|a6 _ _ wk<|J4 _ _ (AH [(m 0),(m 1),((m 2)+1)]) (Zf aj).symm
  refine Zc<|c8 _<|aU<|mM R<|lF Fa AI R R<|AE aj λk4 cd cf=>cL (PL<|cd) R<|mA R<|aZ<|aS λcg ch ad=>aT λcj=>aG [0,4,5,7,9,13,14] [7,5004,5005] ?_
  refine aR<|mM R<|xS R<|aZ<|cj _<|IU cf λp4 ax ck=>?_
  have J6:∀(k5:Int) (F:List AC) (a1:NN),p4=(k5,F)→cg ⟨[(0,qf I),(4,.own 5004<|a1 0),(5,.own 5005<|m 1),(7,.ptr 7 (m 2) 0 0),(9,rI k5),(13,rL I),(14,rI x2)],[(7,some<|.box (m 2) 146<|Bl j),(5004,some<|.arr (a1 0) 167 4<|F.map AC.row),(5005,some<|.arr (m 1) 167 4<|B.map AC.row)],(a1 1),121⟩:=by
   intro k5 F a1 e
   have cl:=ck _ _ e
   refine ch _<|aR<|mM R<|mM R<|lF Fa AI R R<|lF HQ AI R R<|lF MV BK R R ?_
   refine sQ R (Bu R RD (q:=[(0,_),(1,_),(2,_)]) (by exact⟨R,R,R,iL,R,R,R,iL,R,R,R,iL,Za⟩) (cs:=[rI j.Item,rI j.Parent,rS j.Place,cZ])<|by rfl) ?_
   exact AE cl λcq ae cm=>sQ R (Gv R BX.slice iL R iL λ_=>ae)<|Zj R R (UM (v:=(AC.mk j.Item j.Parent j.Place [])) R Lu iL R ae iL R R R R)<|Zh<|a6 _ _ wk<|J4 _ _ (AH [(a1 0),(m 1),(a1 1)]) (Zf cm).symm
  refine aC R (λak=>?_) λak=>?_
  ·have al:=ET ak ax
   refine aU<|mM R<|sQ R (MY R BX.slice iL R)<|mA R<|aZ<|aR<|mM R ?_
   refine sQ R (Bu R RD (q:=[]) (by exact Za) (cs:=ME)<|by rfl) ?_
   exact sS R (Bj 82 R BX (f:=AC.row) (l:=([(AC.mk 0 0 [] [])]:List AC)) ⟨R,⟨_,iL,R⟩,Za⟩ R (λ_=>R) R)<|AE al λay a2 cn=>sS R (Cj R BX iL R (.inr<|.inl ⟨_,_,iL,R⟩) a2)<|mA R<|Zh<|ad _ _ wk<|J6 _ _ (AH [((m 2)+2),((m 2)+3)]) (Zf cn).symm
  ·have al:=EJ ak ax
   exact Zc<|ad _ _ wk<|J6 _ _ (AH [(m 0),((m 2)+1)]) (Zf al).symm
 exact Zm<|b0 _ _ wk<|J1 _ _ (AH [(m 0),(m 1),(m 2)])<|xH bi af
theorem o5{self:(List AC)→(List AC)→Int→Option (List AC)}(M:∀ {A:List AC} {I:List AC} {j:Int} {r:(List AC)} {l:Nat},self A I j=some r→BC prog 158 1 [qg I,rI j,.own 1000 l] [(1000,some<|.arr l 167 4<|A.map AC.row)] (λrr h'=>∃(i:Nat→Nat),rr=.own 1000 (i 0)∧h'=[(1000,some<|.arr (i 0) 167 4<|r.map AC.row)])){A:List AC}{I:List AC}{j:Int}{r:(List AC)}{l:Nat}(h:JO self A I j=some r):BC prog 158 1 [qg I,rI j,.own 1000 l] [(1000,some<|.arr l 167 4<|A.map AC.row)] (λrr h'=>∃(i:Nat→Nat),rr=.own 1000 (i 0)∧h'=[(1000,some<|.arr (i 0) 167 4<|r.map AC.row)]):=by
 unfold JO at h
 refine D7 func158 R R ntmps158 (Zs R) λn0=>aU<|mA R<|aZ<|aU<|mA R<|mA R<|aZ<|Zg<|BS h λo1 a0 az a6=>Jn (λ(m:List UInt8) (q:Int) (w:List AC) B=>⟨[(0,qg I),(1,rI j),(2,.own 1000<|B 0),(7,rS m),(8,rI q)],[(1000,some<|.arr (B 0) 167 4<|w.map AC.row)],(B 1),100⟩) (AH [l,n0]) a0 wk ?_
 intro m q w B v1 a7 a8
 have h1:GT I j self m q w=some v1:=a7;unfold GT at h1
 refine Zg<|aU<|mA R<|aZ<|aS λK4 c4 aa=>aU<|mM R<|xL BX R<|mM R<|aZ<|Zg<|BV h1 λo2 a1 ab=>?_
 have J2:∀(C:Int) (i9:NN),o2=C→K4 ⟨[(0,qg I),(1,rI j),(2,.own 1000<|B 0),(9,rI C)],[(1000,some<|.arr (B 0) 167 4<|w.map AC.row)],(i9 0),100⟩:=by
  intro C i9 e
  have h2:=ab _ e
  refine c4 _<|aT λc6=>aU<|mM R<|xS R<|aZ<|cI R h2 (λh3=>?_) λh3=>?_
  ·refine aU<|mM R<|mA R<|aZ ?_
   exact Zl<|B8.mk (s':=⟨[(6,.own 1000<|B 0)],[(1000,some<|.arr (B 0) 167 4<|w.map AC.row)],(i9 0),100⟩) wk<|CM (λ(r:(List AC)) rr h'=>∃(i:Nat→Nat),rr=.own 1000 (i 0)∧h'=[(1000,some<|.arr (i 0) 167 4<|r.map AC.row)]) (a6 _<|xH a8 h3)<|by exact⟨.own 1000<|B 0,[(1000,some<|.arr (B 0) 167 4<|w.map AC.row)],R,⟨.inr R,Za⟩,R,R,AH [(B 0)],R,R⟩
  refine Zc<|c6 _<|aT λc9=>?_
  refine Zx BM (by kernel_rfl) ?_
  refine qP R (AM R iL)<|qP R (AM R iL)<|AE h3 λx4 O h4=>qP R (A9 R BX.slice iL iL (λ_=>R) λ_=>O)<|qP R (BL R H5 iL)<|qP R (Bs (d:=.str x4.Place) R BK iL R)<|qP R (AM R iL)<|qP R (AM R iL)<|qP R (A9 R BX.slice iL iL (λ_=>R) λ_=>O)<|qP R (BL R Et iL)<|qP R (Bs (d:=.int .i64 x4.Item) R AI iL R)<|qP R (EL R iL)<|qP R (EL R iL)<|AQ.nil<|c9 _<|aG [0,1,2,7,8,9] [1000] ?_
  refine aR<|mM R<|mM R<|mM R<|mM R<|mM R<|xI BX R O<|xB ((CT x4)) Gz R<|sS R (Bj 97 R BX (f:=AC.row) (l:=([x4]:List AC)) ⟨R,⟨_,iL,R⟩,Za⟩ R (λ_=>R) R)<|AE h4 λl2 ac h5=>sS R (Cj R BX iL R (.inr<|.inl ⟨_,_,iL,R⟩) ac)<|AE h5 λw1 ad h6=>?_
  refine Zy [1000] (hc:=[(1000,some<|.arr ((i9 0)+1) 167 4<|l2.map AC.row)]) (bs:=[qg I,rI x4.Item,.own 1000<|(i9 0)+1]) (caps:=[]) R R R R iL R ⟨.inl ⟨iL,R⟩,.inl ⟨iL,R⟩,.inl ⟨iL,R⟩,Za⟩ ⟨R,R,R,Za⟩ (by decide) (M ad) ?_
  intro ae n1
  refine BZ [0,1,7,8,9,90,91,93,94,95,96,97,99] [97,1000] ?_
  exact mA R<|Zh<|Fl.mk h6 (AH [(ae 0),n1]) wk
 refine Cs (λ(E:Int) (x2:Int) X=>⟨[(0,qg I),(1,rI j),(2,.own 1000<|B 0),(7,rS m),(8,rI q),(9,rI E),(13,rL I),(14,rI x2)],[(1000,some<|.arr (B 0) 167 4<|w.map AC.row)],(X 0),100⟩) (AH [(B 1)]) a1 wk ?_
 intro E x2 X v2 af ag
 have h7:IP I j m q E x2=some v2:=af;unfold IP at h7
 refine aU<|xS R<|aZ<|aT λah=>cI R h7 (λh8=>?_) λh8=>?_
 ·refine Zc<|ah _<|aS λai aj J=>Zg<|BV h8 λp1 ak al=>?_
  have J3:∀(F:Int) (T:NN),p1=F→ai ⟨[(0,qg I),(1,rI j),(2,.own 1000<|B 0),(7,rS m),(8,rI q),(9,rI F),(13,rL I),(14,rI x2)],[(1000,some<|.arr (B 0) 167 4<|w.map AC.row)],(T 0),100⟩:=by
   intro F T e
   have h9:=al _ e
   exact aj _<|aR<|AE h9 λx5 an ao=>xA R an<|mM R<|Zh<|ZJ ao (AH [(T 0)]) wk
  refine aU<|mM R<|mA R<|aZ<|aU<|mM R<|mM R<|AE ak λZ aq ar=>xI BX R aq<|xB ((CT Z)) Gz R<|sS R (BI (cs:=ME) 11 R PI R R)<|Zj R R (A5 (ds:=(CT Z)) R Lu iL R iL R R R R)<|aZ<|aT λau=>aU<|lF Lj AI R R<|mM R<|xU R<|mM R<|vF H5 BK R R<|vM R<|vQ R (OX R (iR R)<|iR R)<|xO R<|mM R<|vF H5 BK R R<|vM R<|vQ R (EZ R (iR R)<|iR R)<|vQ R (AM R<|iR R)<|wQ R (fB R Et iL fR R)<|wQ R (AY (a:=rI Z.Item) R AI (iR R) R R)<|wQ R (AM R iL)<|wQ R (FT R (iR R)<|iR R)<|vQ R (Bd R (iR R)<|iR R)<|xO R<|aZ<|cI R ar (λU=>?_) λU=>?_
  ·exact Zm<|J _ _ wk<|J3 _ (AH [((X 0)+1)]) (Zf U).symm
  refine Zc<|au _<|aT λav=>aG [0,1,2,7,8,9,10,11,13,14] [11,1000] ?_
  refine Zx BM (by kernel_rfl) ?_
  refine qP R (AM R iL)<|qP R (CO R iL iL)<|qP R (AM R iL)<|qO R (fB R H5 iL fR R)<|qO R (AY (a:=rS Z.Place) R BK (iR R) R R)<|qO R (AM R iL)<|qO R (AM R iL)<|AE U λx7 aw ax=>qO R (A9 R BX.slice (iR R) (iR R) (λ_=>R)<|Ag aw)<|qO R (BL R H5<|iR R)<|qO R (Bs (d:=.str x7.Place) R BK (iR R) R)<|qO R (OX R (iR R)<|iR R)<|qP R (Cp R iL<|iR R)<|qP R (AM R iL)<|qO R (fB R H5 iL fR R)<|qO R (AY (a:=rS Z.Place) R BK (iR R) R R)<|qO R (AM R iL)<|qO R (AM R iL)<|AE ax λx8 a2 ay=>qO R (A9 R BX.slice (iR R) (iR R) (λ_=>R)<|Ag a2)<|qO R (BL R H5<|iR R)<|qO R (Bs (d:=.str x8.Place) R BK (iR R) R)<|qO R (EZ R (iR R)<|iR R)<|qO R (AM R<|iR R)<|qT R (fB R Et iL fR R)<|qT R (AY (a:=rI Z.Item) R AI (iR R) R R)<|qT R (AM R iL)<|qT R (AM R iL)<|qT R (A9 R BX.slice (iR R) (iR R) (λ_=>R) λh=>Ag a2 (tK.1 h).1)<|qT R (BL R Et<|iR R)<|qT R (Bs (d:=.int .i64 x8.Item) R AI (iR R) R)<|qT R (CO R (iR R)<|iR R)<|qO R (Bd R (iR R)<|iR R)<|qP R (Cp R iL<|iR R)<|AQ.nil<|av _<|cI R ay (λV=>?_) λV=>?_
  ·exact aR<|mM R<|mA R<|Zh<|J _ _ wk<|J3 _ (AH [((X 0)+1)]) (Zf V).symm
  exact Zc<|J _ _ wk<|J3 _ (AH [((X 0)+1)]) (Zf V).symm
 exact Zm<|aa _ _ wk<|J2 _ (AH [(X 0)])<|xH ag h8
theorem nO(n:Nat):∀ {m:List AC} {q:List AC} {j:Int} {r:(List AC)} {l:Nat},D3 n m q j=some r→BC prog 158 1 [qg q,rI j,.own 1000 l] [(1000,some<|.arr l 167 4<|m.map AC.row)] (λw h'=>∃(i:Nat→Nat),w=.own 1000 (i 0)∧h'=[(1000,some<|.arr (i 0) 167 4<|r.map AC.row)]):=by
 induction n with
 | zero=>intro m q j r l h;exact absurd (show(none:Option ((List AC)))=some r from h)<|by simp
 | succ n A=>intro m q j r l h;exact o5 (self:=λm q j=>D3 n m q j) (λB=>A B) h
theorem fX{m:List AC}{q:List AC}{j:Int}{r:(List AC)}{l:Nat}(h:Od m q j=some r):BC prog 158 1 [qg q,rI j,.own 1000 l] [(1000,some<|.arr l 167 4<|m.map AC.row)] (λA h'=>∃(i:Nat→Nat),A=.own 1000 (i 0)∧h'=[(1000,some<|.arr (i 0) 167 4<|r.map AC.row)]):=by
 unfold Od at h
 by_cases w:∃n r,D3 n m q j=some r
 ·rw[tW w] at h;exact nO _ h
 ·rw[uM w] at h;cases h
theorem iw{l1 r}(h:Iv l1=some r):Aa prog 135 [qf l1] (.tup [qg r.1,rI r.2]):=by
 unfold Iv at h
 refine mF func135 ntmps135 R λn0=>aU<|mA R<|mA R<|aZ<|aU<|mM R<|E4 h λB r2 a0 h1=>sS R (Cb (r:=.tup [qg B,qg r2]) (caps:=[]) (bs:=[qf l1]) R iL R ⟨.inl ⟨iL,R⟩,Za⟩ λ_=>kJ<|a0)<|mM R<|xX R<|xX R<|mA R<|mA R<|aZ<|aT λc3=>aF [4] ?_
 refine aR<|mM R<|AE h1 λF a1 h2=>?_
 refine Yz 7918 167 4 R [7918] (hc:=[(1000,some<|.arr n0 167 4<|([]:List AC).map AC.row)]) (bs:=[qg B,rI 0,.own 1000 n0]) (caps:=[]) R R R R iL R ⟨.inl<|.inl ⟨iL,R⟩,.inl<|.inl ⟨iL,R⟩,.inr ⟨iL,R,R⟩,Za⟩ ⟨R,R,R,Za⟩ (by decide) (fX a1) ?_
 intro i1 n1
 refine BZ [4,17,18] [7918] ?_
 refine mA R<|aZ<|c3 _<|aU<|mM R<|sQ R (MY R BX.slice iL R)<|mA R<|aZ<|aU<|mA R<|aZ<|Zg<|BS h2 λo1 O ay a2=>Cs (λ(j:Int) (l:List AC) A=>⟨[(4,qg B),(6,.own 7918<|A 0),(7,rL F),(8,rI j)],[(7918,some<|.arr (A 0) 167 4<|l.map AC.row)],(A 1),73⟩) (AH [(i1 0),n1]) O wk ?_
 intro j l A v1 a6 a7
 have h3:Iq B F j l=some v1:=a6;unfold Iq at h3
 refine Zg<|aU<|mA R<|aZ<|aS λK7 c7 a8=>aU<|mM R<|xL BX R<|mM R<|aZ<|Zg<|BV h3 λo2 T aa=>?_
 have J2:∀(m:Int) (C:NN),o2=m→K7 ⟨[(4,qg B),(6,.own 7918<|A 0),(7,rL F),(9,rI m)],[(7918,some<|.arr (A 0) 167 4<|l.map AC.row)],(C 0),73⟩:=by
  intro m C e
  have h4:=aa _ e
  refine c7 _<|aT λc9=>aU<|mM R<|xS R<|aZ<|cI R h4 (λh5=>?_) λh5=>?_
  ·exact aU<|mM R<|mM R<|mA R<|mA R<|aZ<|Zl<|EH (P:=prog) (λ(r:(List AC) × Int)=>qg r.1) (λ(r:(List AC) × Int)=>rI r.2) (a2 _<|xH a7 h5) iL (.t<|.one<|.own R)<|.t<|.d R
  exact Zc<|c9 _<|aU<|mM R<|mM R<|AE h5 λx4 U h6=>xI BX R U<|sQ R (BL R Et iL)<|xV (.int .i64 x4.Item) AI R<|mA R<|aZ<|aR<|mM R<|mM R<|mM R<|xI BX R U<|xB ((CT x4)) Gz R<|sS R (Bj 71 R BX (f:=AC.row) (l:=([x4]:List AC)) ⟨R,⟨_,iL,R⟩,Za⟩ R (λ_=>R) R)<|AE h6 λax I h7=>sS R (Cj R BX iL R (.inr<|.inl ⟨_,_,iL,R⟩) I)<|mA R<|Zh<|ZJ h7 (AH [((C 0)+1),((C 0)+2)]) wk
 refine Cs (λ(q:Int) (Z:Int) i8=>⟨[(4,qg B),(6,.own 7918<|A 0),(7,rL F),(8,rI j),(9,rI q),(22,rL B),(23,rI Z)],[(7918,some<|.arr (A 0) 167 4<|l.map AC.row)],(i8 0),73⟩) (AH [(A 1)]) T wk ?_
 intro q Z i8 v2 ab ac
 have h8:I2 B F j l q Z=some v2:=ab;unfold I2 at h8
 refine aU<|xS R<|aZ<|aT λad=>cI R h8 (λh9=>?_) λh9=>?_
 ·refine Zc<|ad _<|aS λae af E=>Zg<|BV h9 λp1 ag ah=>?_
  have J3:∀(w:Int) (J:NN),p1=w→ae ⟨[(4,qg B),(6,.own 7918<|A 0),(7,rL F),(8,rI j),(9,rI w),(22,rL B),(23,rI Z)],[(7918,some<|.arr (A 0) 167 4<|l.map AC.row)],(J 0),73⟩:=by
   intro w J e
   have ai:=ah _ e
   exact af _<|aR<|AE ai λx5 aj ak=>xA R aj<|mM R<|Zh<|ZJ ak (AH [(J 0)]) wk
  refine aU<|mM R<|mA R<|aZ<|aU<|mM R<|mM R<|AE ag λx6 al an=>xI BX R al<|sQ R (BL R Et iL)<|xV (.int .i64 x6.Item) AI R<|mA R<|aZ<|aT λao=>aR<|mM R<|mM R<|sQ R (Bk R iL iL)<|mM R<|vM R<|vM R<|AE an λl2 V aq=>vQ R (pf R BX.slice (iR R) R ⟨_,(iR R)⟩<|Ag V)<|vM R<|AE aq λr3 ar au=>AS.stepW (.one R R R) R R (DU (r:=rI r3) (caps:=[]) (bs:=[.r<|.sl<|(l.take (F.length:Int).toNat).map AC.row,rI x6.Item]) R iL R ⟨⟨_,(iR R),.one<|.pre R R⟩,⟨_,(iR R),.d R⟩,Za⟩ (λX=>(jr<|(Ag V) X) ▸ (λhg=>PL<|Ag ar hg) X) R)<|vQ R (CO R (iR R) iL)<|xN R<|mM R<|vM R<|vQ R (CO R (iR R) iL)<|vQ R (AM R<|iR R)<|wQ R (AM R iL)<|wQ R (AM R iL)<|wQ R (AM R iL)<|AE au λx7 av aw=>wQ R (A9 R BX.slice (iR R) (iR R) (λ_=>R)<|Ag av)<|wQ R (BL R Et<|iR R)<|wQ R (Bs (d:=.int .i64 x7.Item) R AI (iR R) R)<|wQ R (CO R (iR R)<|iR R)<|vQ R (Cp R (iR R)<|iR R)<|xN R<|aZ<|ao _<|cI R aw (λM=>?_) λM=>?_
  ·refine aG [4,6,7,8,10,22,23] [7918] ?_
   exact aR<|mM R<|mA R<|Zh<|E _ _ wk<|J3 _ (AH [(i8 0)]) (Zf M).symm
  exact Zc<|E _ _ wk<|J3 _ (AH [(i8 0)]) (Zf M).symm
 exact Zm<|a8 _ _ wk<|J2 _ (AH [(i8 0)])<|xH ac h9
theorem SV{j n r}(h:Jv j n=some r):Aa prog 15 [qa j,rS n] (rS r):=by
 unfold Jv at h
 refine mF func15 ntmps15 R λZ=>aU<|mA R<|aZ<|aS λK2 c2 A=>aU<|mM R<|xL BH R<|mM R<|aZ<|Zg<|BS h λo1 l B C=>?_
 have J1:∀(T:Unit) (U:NN),o1=.nrm T→K2 ⟨[],[],(U 0),24⟩:=by
  intro T U e
  have h1:=B _ e
  exact c2 _<|aU<|mA R<|aZ<|Zl<|Cg (P:=prog) (λ(r:(List UInt8))=>rS r) h1 iL<|.t<|.d R
 refine Zu (λ(E:Int) w=>⟨[(0,qa j),(1,rS n),(7,rL j),(8,rI E)],[],(w 0),24⟩) (AH [Z]) l wk ?_
 intro E w v1 F m
 have V:OV j n E=some v1:=F;unfold OV at V
 refine aU<|xS R<|aZ<|aT λc6=>cI R V (λI=>?_) λI=>?_
 ·refine Zc<|c6 _<|aT λc7=>Zg<|aU<|mM R<|mA R<|aZ<|aU<|mM R<|mM R<|AE I λX q h4=>xI BH R q<|sQ R (BL R Ek iL)<|xV (.str X.Name) BK R<|mM R<|sQ R (EZ R iL iL)<|aZ<|cI R h4 (λJ=>?_) λJ=>?_
  ·refine aT λM=>aF [0,5] ?_
   exact aR<|mM R<|mM R<|xI BH R q<|sQ R (BL R JQ iL)<|xV (.str X.Value) BK R<|mA R<|aZ<|M _<|Zl<|Cg (P:=prog) (λ(r:(List UInt8))=>rS r) (C _<|xH m J) iL<|.t<|.d R
  refine Zc<|c7 _<|aF [0,1,7,8] ?_
  exact aR<|AE J λx5 O h6=>xA R O<|mM R<|Zh<|Zr h6 (AH [(w 0)]) wk
 exact Zm<|A _ _ wk<|J1 _ (AH [(w 0)])<|xH m I
theorem kz{l r}(h:N0 l=some r):Aa prog 136 [rS l] (rI r):=by
 unfold N0 at h
 refine mF func136 ntmps136 R λn0=>aU<|mA R<|aZ<|aT λc2=>aU<|mM R<|sQ R (EZ R iL iL)<|mM R<|vM R<|vQ R (Dq R underlying9<|iR R)<|vQ R (Bk R (iR R) iL)<|xO R<|mM R<|vM R<|AE h λa7 m h1=>vQ R (Co R underlying9 (iR R) iL<|Ag m)<|vQ R (A4 R (iR R) iL)<|vQ R (AM R<|iR R)<|wQ R (AM R iL)<|wQ R (Dq R underlying9<|iR R)<|wQ R (Bk R (iR R) iL)<|vQ R (Bd R (iR R)<|iR R)<|xO R<|aZ<|cI R h1 (λB=>?_) λB=>?_
 ·exact zI B R id
 refine Zc<|c2 _<|aT λc5=>aF [0] ?_
 refine aR<|mA R<|aZ<|c5 _<|aS λK6 c6 C=>aU<|mM R<|sQ R (Dq R underlying9 iL)<|mM R<|aZ<|Zg<|BS B λo1 q E F=>?_
 have J1:∀(I:Int) (i5:NN),o1=.nrm I→K6 ⟨[(3,rI I)],[],(i5 0),47⟩:=by
  intro I i5 e
  have h3:=E _ e
  exact c6 _<|aU<|mM R<|mA R<|aZ<|Zl<|yI h3 R
 refine Cs (λ(J:Int) (M:Int) A=>⟨[(0,rS l),(3,rI J),(23,rL l),(24,rI M)],[],(A 0),47⟩) (AH [n0]) q wk ?_
 intro J M A v1 O w
 have h4:Hi l J M=some v1:=O;unfold Hi at h4
 refine aU<|xS R<|aZ<|aT λT=>cI R h4 (λU=>?_) λU=>?_
 ·refine Zc<|T _<|aT λV=>Zg<|aU<|mM R<|mA R<|aZ<|aT λX=>aU<|mM R<|mM R<|AE U λa8 j h6=>sQ R (Co R underlying9 iL iL λ_=>j)<|xS R<|mM R<|vM R<|vM R<|vQ R (Co R underlying9 (iR R) (iR R) λ_=>j)<|vQ R (Bk R (iR R) iL)<|xO R<|aZ<|cI R h6 (λZ=>?_) λZ=>?_
  ·exact zI (F _<|xH w Z) R id
  refine Zc<|X _<|aR<|mM R<|AE Z λx4 a0 h8=>sQ R (ik R iL iL λ_=>a0)<|mM R<|mM R<|sQ R (Co R underlying9 iL iL λ_=>j)<|sQ R (nj R iL iL)<|sQ R (Ep R underlying5 underlying3 iL)<|AE h8 λn5 a1 h9=>xA R a1<|mA R<|aZ<|V _<|aF [0,3,23,24] ?_
  exact aR<|AE h9 λx5 a2 a6=>xA R a2<|mM R<|Zh<|ZJ a6 (AH [(A 0)]) wk
 exact Zm<|C _ _ wk<|J1 _ (AH [(A 0)])<|xH w U
theorem ZQ{self:(List Ae)→AR→Ae→Option (List Ae)}(J:∀ {q:List Ae} {d1:AR} {m:Ae} {r:(List Ae)} {j:Nat},self q d1 m=some r→BC prog 102 1 [.agg [qb d1.Nodes],.agg<|FL m,.own 1000 j] [(1000,some<|.arr j 105 3<|q.map Ae.row)] (λrr h'=>∃(i:Nat→Nat),rr=.own 1000 (i 0)∧h'=[(1000,some<|.arr (i 0) 105 3<|r.map Ae.row)])){q:List Ae}{d1:AR}{m:Ae}{r:(List Ae)}{j:Nat}(h:Jm self q d1 m=some r):BC prog 102 1 [.agg [qb d1.Nodes],.agg<|FL m,.own 1000 j] [(1000,some<|.arr j 105 3<|q.map Ae.row)] (λrr h'=>∃(i:Nat→Nat),rr=.own 1000 (i 0)∧h'=[(1000,some<|.arr (i 0) 105 3<|r.map Ae.row)]):=by
 unfold Jm at h
 refine D7 func102 R R ntmps102 (Zs R) λl=>aU<|sS R (A6 (cs:=[qb d1.Nodes]) 3 R iL R R)<|sS R (A6 (cs:=(FL m)) 4 R iL R R)<|mA R<|aZ<|aT λc2=>aU<|mM R<|lF MS AI R R<|AE h λr1 b5 h1=>cL (OO<|b5) R<|sQ R (DT R iL iL)<|aZ<|cI R h1 (λh2=>?_) λh2=>?_
 ·refine aT λc4=>aG [2] [1000] ?_
  refine aR<|mM R<|mA R<|oZ c4 ?_
  exact Zl<|B8.mk (s':=⟨[(6,.own 1000 j)],[(1000,some<|.arr j 105 3<|q.map Ae.row)],(l+2),157⟩) wk<|CM (λ(r:(List Ae)) rr h'=>∃(i:Nat→Nat),rr=.own 1000 (i 0)∧h'=[(1000,some<|.arr (i 0) 105 3<|r.map Ae.row)]) h2<|by exact⟨.own 1000 j,[(1000,some<|.arr j 105 3<|q.map Ae.row)],R,⟨.inr R,Za⟩,R,R,AH [j],R,R⟩
 refine Zc<|c2 _<|aU<|mM R<|xC mc R<|sS R (Bj 25 R LV (f:=Ae.row) (l:=([m]:List Ae)) ⟨R,⟨_,iL,R⟩,Za⟩ R (λ_=>R) R)<|AE h2 λd6 ac h3=>sS R (Cj R LV iL R (.inr<|.inl ⟨_,_,iL,R⟩) ac)<|mA R<|aZ<|aT λc6=>aG [2,3,4] [3,4,1000] ?_
 refine AE h3 λr2 b6 h4=>AE h4 λA b7 h5=>?_
 refine GJ 9 [pO 27<|.ptr 3 l 0 0,pO 28<|qb d1.Nodes,pO 29<|.agg [qb d1.Nodes],pO 30<|.ptr 4 (l+1) 0 0,pO 31<|rI m.ID,pO 32<|rI r2,pO 33<|.rop (AO.row A) 0,pO 34<|.agg<|Ai A,⟨some 7,(λI=>.ptr 7 (I 8) 0 0),some (7,(λI=>some<|.box (I 8) 54 EC)),[8]⟩] BM (by kernel_rfl) (by exact⟨λ_ _ h=>⟨R,λ_ _ e=>by cases e⟩,λ_ _ h=>⟨R,λ_ _ e=>by cases e⟩,λ_ _ h=>⟨R,λ_ _ e=>by cases e⟩,λ_ _ h=>⟨R,λ_ _ e=>by cases e⟩,λ_ _ h=>⟨R,λ_ _ e=>by cases e⟩,λ_ _ h=>⟨R,λ_ _ e=>by cases e⟩,λ_ _ h=>⟨R,λ_ _ e=>by cases e⟩,λ_ _ h=>⟨R,λ_ _ e=>by cases e⟩,λ_ _ h=>⟨by simp only[h 8 R],λ_ _ e=>by cases e;simp only[h 8 R]⟩,Za⟩) R (by exact⟨oB [(3,.ptr 3 l 0 0)] [(3,some<|.box l 24 [qb d1.Nodes])]<|fB R B6 (.inl R) (λ_=>R) R,oB [(27,.ptr 3 l 0 0)] [(3,some<|.box l 24 [qb d1.Nodes])]<|AY (a:=qb d1.Nodes) R CA (.inl R) R R,oB [(3,.ptr 3 l 0 0)] [(3,some<|.box l 24 [qb d1.Nodes])]<|Dm R Bz (.inl R) R R,oB [(4,.ptr 4 (l+1) 0 0)] [(4,some<|.box (l+1) 105<|FL m)]<|fB R MS (.inl R) (λ_=>R) R,oB [(30,.ptr 4 (l+1) 0 0)] [(4,some<|.box (l+1) 105<|FL m)]<|AY (a:=rI m.ID) R AI (.inl R) R R,oD (λ_=>[(29,.agg [qb d1.Nodes]),(31,rI m.ID)]) (λ_=>[]) λI e h' n=>DU (r:=rI r2) (caps:=[]) (bs:=[.agg [qb d1.Nodes],rI m.ID]) R (.inl R) R ⟨⟨_,(.inl R),.g (cs:=[.sl<|d1.Nodes.map AO.row]) R R⟩,⟨_,(.inl R),.d R⟩,Za⟩ (λ_=>Jz<|b6) R,oB [(28,qb d1.Nodes),(32,rI r2)] []<|A9 R Bh.slice (.inl R) (.inl R) (λ_=>R) λ_=>b7,oB [(33,.rop (AO.row A) 0)] []<|CN (cs:=(Ai A)) R C0 (.inl R) R R,oM (λ_=>[]) (λ_=>[]) R λI e h' n=>BI (cs:=EC) 7 R Gq R R,Za⟩) λI n1=>?_
 refine BZ [2,3,4,7,27,28,29,30,31,32,33,34] [3,4,7,1000] ?_
 refine Zj R R (A5 (ds:=(Ai A)) R GY iL R iL R R R R)<|aZ<|c6 _<|aS λK7 c7 b8=>aU<|lF Dk D0 R R<|xL Bb R<|mM R<|aZ<|Zg<|BV h5 λo1 aj b9=>?_
 have J1:∀(a2:List Ae) (i5:NN),o1=a2→K7 ⟨[(2,.own 1000<|i5 0),(3,.ptr 3 l 0 0),(4,.ptr 4 (l+1) 0 0),(7,.ptr 7 (I 8) 0 0)],[(3,some<|.box l 24 [qb d1.Nodes]),(4,some<|.box (l+1) 105<|FL m),(7,some<|.box (I 8) 54<|Ai A),(1000,some<|.arr (i5 0) 105 3<|a2.map Ae.row)],(i5 1),157⟩:=by
  intro a2 i5 e
  have h6:=b9 _ e
  refine c7 _<|aS λK9 c9 ba=>aU<|sQ R (fB R DS iL fR R)<|lF DX Dc R R<|xL Bx R<|mM R<|aZ<|Zg<|BV h6 λo2 ak bb=>?_
  have J2:∀(M:List Ae) (Z:NN),o2=M→K9 ⟨[(2,.own 1000<|Z 0),(3,.ptr 3 l 0 0),(4,.ptr 4 (l+1) 0 0),(7,.ptr 7 (I 8) 0 0)],[(3,some<|.box l 24 [qb d1.Nodes]),(4,some<|.box (l+1) 105<|FL m),(7,some<|.box (I 8) 54<|Ai A),(1000,some<|.arr (Z 0) 105 3<|M.map Ae.row)],(Z 1),157⟩:=by
   intro M Z e
   have h7:=bb _ e
   refine c9 _<|aU<|lF Ga HM R R<|E4 h7 λr3 r4 bc h8=>sS R (Cb (r:=.tup [qg r3,rI r4]) (caps:=[]) (bs:=[qf A.Draw]) R iL R ⟨.inl ⟨iL,R⟩,Za⟩ λ_=>iw<|bc)<|mM R<|xX R<|xX R<|mA R<|mA R<|aZ<|aS λbd be al=>aU<|mM R<|mM R<|aZ<|Zg<|BV h8 λo3 an bf=>?_
   have J3:∀(w:List Ae) (B:NN),o3=w→bd ⟨[(2,.own 1000<|B 0)],[(1000,some<|.arr (B 0) 105 3<|w.map Ae.row)],(B 1),157⟩:=by
    intro w B e
    have h9:=bf _ e
    refine be _<|aU<|mM R<|mA R<|aZ ?_
    exact Zl<|B8.mk (s':=⟨[(6,.own 1000<|B 0)],[(1000,some<|.arr (B 0) 105 3<|w.map Ae.row)],(B 1),157⟩) wk<|CM (λ(r:(List Ae)) rr h'=>∃(i:Nat→Nat),rr=.own 1000 (i 0)∧h'=[(1000,some<|.arr (i 0) 105 3<|r.map Ae.row)]) h9<|by exact⟨.own 1000<|B 0,[(1000,some<|.arr (B 0) 105 3<|w.map Ae.row)],R,⟨.inr R,Za⟩,R,R,AH [(B 0)],R,R⟩
   refine Cs (λ(x9:Int) (F:List Ae) C=>⟨[(2,.own 1000<|C 0),(3,.ptr 3 l 0 0),(4,.ptr 4 (l+1) 0 0),(12,qg r3),(117,rI r4),(118,rI x9)],[(3,some<|.box l 24 [qb d1.Nodes]),(4,some<|.box (l+1) 105<|FL m),(1000,some<|.arr (C 0) 105 3<|F.map Ae.row)],(C 1),157⟩) (AH [(Z 0),(Z 1)]) an wk ?_
   intro x9 F C v1 bg bh
   have ao:Ft d1 m self r3 r4 x9 F=some v1:=bg;unfold Ft at ao
   refine aU<|xS R<|aZ<|aT λbi=>cI R ao (λad=>?_) λad=>?_
   ·refine Zc<|bi _<|aS λbj bk a7=>Zg<|BV ad λp1 bl bm=>?_
    have J4:∀(O:List Ae) (i16:NN),p1=O→bj ⟨[(2,.own 1000<|i16 0),(3,.ptr 3 l 0 0),(4,.ptr 4 (l+1) 0 0),(12,qg r3),(117,rI r4),(118,rI x9)],[(3,some<|.box l 24 [qb d1.Nodes]),(4,some<|.box (l+1) 105<|FL m),(1000,some<|.arr (i16 0) 105 3<|O.map Ae.row)],(i16 1),157⟩:=by
     intro O i16 e
     have bn:=bm _ e
     exact bk _<|aR<|AE bn λd7 aq bo=>xA R aq<|mM R<|Zh<|ZJ bo (AH [(i16 0),(i16 1)]) wk
    refine aU<|mM R<|mA R<|aZ<|aU<|mM R<|mM R<|AE bl λbp ar bq=>xI BX R ar<|sQ R (BL R Ks iL)<|xV (.sl<|bp.Attrs.map AG.row) CR R<|AE bq λr5 br bs=>cL (SV<|br) R<|AE bs λau av bt=>cL (kz<|av) R<|mA R<|aZ<|aT λbu=>aG [2,3,4,12,15,117,118] [3,4,1000] ?_
    refine aR<|xC Bz R<|mM R<|AE bt λk1 bv bw=>cL (Jz<|bv) R<|mA R<|aZ<|bu _<|aU<|mM R<|sQ R (Bk R iL iL)<|mM R<|vM R<|vQ R (DT R (iR R) iL)<|xN R<|mM R<|vF B6 CA R R<|vM R<|AE bw λbx aw bz=>vQ R (A9 R Bh.slice (iR R) (iR R) (λ_=>R)<|Ag aw)<|vQ R (BL R CP<|iR R)<|vQ R (Bs (d:=.int .i64 bx.Kind) R AI (iR R) R)<|vQ R (A4 R (iR R) iL)<|xN R<|aZ<|cI R bz (λae=>?_) λae=>?_
    ·refine aG [2,3,4,12,15,117,118] [3,4,1000] ?_
     refine aR<|xC Bz R<|mM R<|lF MS AI R R<|lF T9 Mm R R ?_
     refine sQ R (Bu R RH (q:=[(0,_),(1,_),(2,_)]) (by exact⟨R,R,R,iL,R,R,R,iL,R,R,R,iL,Za⟩) (cs:=[rI au,rI m.ID,rB m.Visible])<|by rfl) ?_
     refine mM R<|AE ae λw1 c0 c3=>?_
     refine Zy [1000] (hc:=[(1000,some<|.arr (C 0) 105 3<|F.map Ae.row)]) (bs:=[.agg [qb d1.Nodes],.agg [rI au,rI m.ID,rB m.Visible],.own 1000<|C 0]) (caps:=[]) R R R R iL R ⟨.inl ⟨iL,R⟩,.inl ⟨iL,R⟩,.inl ⟨iL,R⟩,Za⟩ ⟨R,R,R,Za⟩ (by decide) (J c0) ?_
     intro c5 n2
     refine BZ [3,4,12,15,117,118,146,147,148,149,150,151,152,154] [3,4,1000] ?_
     exact mA R<|Zh<|a7 _ _ wk<|J4 _ (AH [(c5 0),n2]) (Zf c3).symm
    exact Zc<|a7 _ _ wk<|J4 _ (AH [(C 0),(C 1)]) (Zf ae).symm
   exact Zm<|al _ _ wk<|J3 _ (AH [(C 0),(C 1)])<|xH bh ad
  refine Cs (λ(x6:Int) (V:List Ae) i8=>⟨[(2,.own 1000<|i8 0),(3,.ptr 3 l 0 0),(4,.ptr 4 (l+1) 0 0),(7,.ptr 7 (I 8) 0 0),(66,rL A.Grid.Cells),(67,rI x6)],[(3,some<|.box l 24 [qb d1.Nodes]),(4,some<|.box (l+1) 105<|FL m),(7,some<|.box (I 8) 54<|Ai A),(1000,some<|.arr (i8 0) 105 3<|V.map Ae.row)],(i8 1),157⟩) (AH [(i5 0),(i5 1)]) ak wk ?_
  intro x6 V i8 v2 c8 ca
  have ax:F1 d1 m self A x6 V=some v2:=c8;unfold F1 at ax
  refine aU<|xS R<|aZ<|aT λcb=>cI R ax (λaf=>?_) λaf=>?_
  ·refine Zc<|cb _<|aS λcc cd a8=>Zg<|BV af λp2 cf cg=>?_
   have J5:∀(T:List Ae) (a0:NN),p2=T→cc ⟨[(2,.own 1000<|a0 0),(3,.ptr 3 l 0 0),(4,.ptr 4 (l+1) 0 0),(7,.ptr 7 (I 8) 0 0),(66,rL A.Grid.Cells),(67,rI x6)],[(3,some<|.box l 24 [qb d1.Nodes]),(4,some<|.box (l+1) 105<|FL m),(7,some<|.box (I 8) 54<|Ai A),(1000,some<|.arr (a0 0) 105 3<|T.map Ae.row)],(a0 1),157⟩:=by
    intro T a0 e
    have ch:=cg _ e
    exact cd _<|aR<|AE ch λd8 ay cj=>xA R ay<|mM R<|Zh<|ZJ cj (AH [(a0 0),(a0 1)]) wk
   refine aU<|mM R<|mA R<|aZ<|aU<|sQ R (fB R DS iL fR R)<|lF DX Dc R R<|mM R<|AE cf λE az ck=>xI Bx R az<|xB ((BP E)) EM R<|sS R (BI (cs:=HS) 10 R G8 R R)<|Zj R R (A5 (ds:=(BP E)) R HV iL R iL R R R R)<|aZ<|aT λcl=>aG [2,3,4,7,10,66,67] [3,4,7,10,1000] ?_
   refine aR<|lF Ce AI R R<|xU R<|aZ<|cl _<|cI R ck (λag=>?_) λag=>?_
   ·refine aU<|sQ R (fB R DS iL fR R)<|sQ R (GH (ds:=(B7 A.Grid)) R GM iL R R R)<|lF D5 AI R R<|lF ES AI R R<|AE ag λr6 cm cn=>sS R (Cb (r:=.agg<|A8 r6) (caps:=[]) (bs:=[.agg<|B7 A.Grid,rI E.Row,rI E.Col]) R iL R ⟨.inl ⟨iL,R⟩,.inl ⟨iL,R⟩,.inl ⟨iL,R⟩,Za⟩ λ_=>VX<|cm)<|sS R (BI (cs:=FP) 11 R Gw R R)<|Zj R R (A5 (ds:=(A8 r6)) R F0 iL R iL R R R R)<|aZ<|aG [2,3,4,7,10,11,66,67] [3,4,7,10,11,1000] ?_
    refine aR<|xC Bz R<|lF Ce AI R R<|lF MS AI R R<|lF T9 Mm R R<|mM R<|vF Cu AI R R<|vF D5 AI R R<|vQ R (A4 R (iR R)<|iR R)<|xN R<|mM R<|vF DQ AI R R<|vF ES AI R R<|vQ R (A4 R (iR R)<|iR R)<|xN R ?_
    refine sQ R (Bu R RH (q:=[(0,_),(1,_),(2,_)]) (by exact⟨R,R,R,iL,R,R,R,iL,R,R,R,iL,Za⟩) (cs:=[rI E.Ref,rI m.ID,rB<|((m.Visible&&(r6.Row=E.Row))&&(r6.Col=E.Col))])<|by rfl) ?_
    refine mM R<|AE cn λw2 cp cq=>?_
    refine Zy [1000] (hc:=[(1000,some<|.arr (i8 0) 105 3<|V.map Ae.row)]) (bs:=[.agg [qb d1.Nodes],.agg [rI E.Ref,rI m.ID,rB<|((m.Visible&&(r6.Row=E.Row))&&(r6.Col=E.Col))],.own 1000<|i8 0]) (caps:=[]) R R R R iL R ⟨.inl ⟨iL,R⟩,.inl ⟨iL,R⟩,.inl ⟨iL,R⟩,Za⟩ ⟨R,R,R,Za⟩ (by decide) (J cp) ?_
    intro cr n3
    refine BZ [3,4,7,10,11,66,67,86,87,88,89,90,91,92,93,99,100,106,107,109] [3,4,7,10,11,1000] ?_
    exact mA R<|Zh<|a8 _ _ wk<|J5 _ (AH [(cr 0),n3]) (Zf cq).symm
   exact Zc<|a8 _ _ wk<|J5 _ (AH [(i8 0),((i8 1)+1)]) (Zf ag).symm
  exact Zm<|ba _ _ wk<|J2 _ (AH [(i8 0),(i8 1)])<|xH ca af
 refine Cs (λ(x3:Int) (X:List Ae) i3=>⟨[(2,.own 1000<|i3 0),(3,.ptr 3 l 0 0),(4,.ptr 4 (l+1) 0 0),(7,.ptr 7 (I 8) 0 0),(37,rL A.Flow),(38,rI x3)],[(3,some<|.box l 24 [qb d1.Nodes]),(4,some<|.box (l+1) 105<|FL m),(7,some<|.box (I 8) 54<|Ai A),(1000,some<|.arr (i3 0) 105 3<|X.map Ae.row)],(i3 1),157⟩) (AH [(l+3),n1]) aj wk ?_
 intro x3 X i3 v3 cs ct
 have b0:GG d1 m self A x3 X=some v3:=cs;unfold GG at b0
 refine aU<|xS R<|aZ<|aT λcu=>cI R b0 (λah=>?_) λah=>?_
 ·refine Zc<|cu _<|aS λcv cw aa=>Zg<|BV ah λp3 cx cy=>?_
  have J6:∀(U:List Ae) (a1:NN),p3=U→cv ⟨[(2,.own 1000<|a1 0),(3,.ptr 3 l 0 0),(4,.ptr 4 (l+1) 0 0),(7,.ptr 7 (I 8) 0 0),(37,rL A.Flow),(38,rI x3)],[(3,some<|.box l 24 [qb d1.Nodes]),(4,some<|.box (l+1) 105<|FL m),(7,some<|.box (I 8) 54<|Ai A),(1000,some<|.arr (a1 0) 105 3<|U.map Ae.row)],(a1 1),157⟩:=by
   intro U a1 e
   have cz:=cy _ e
   exact cw _<|aR<|AE cz λd9 b4 d0=>xA R b4<|mM R<|Zh<|ZJ d0 (AH [(a1 0),(a1 1)]) wk
  refine aU<|mM R<|mA R<|aZ<|aU<|lF Dk D0 R R<|mM R<|AE cx λa6 ab d2=>xI Bb R ab<|sQ R (BL R Cm iL)<|xV (.int .i64 a6.Ref) AI R<|xU R<|aZ<|cI R d2 (λai=>?_) λai=>?_
  ·refine aG [2,3,4,7,8,37,38] [3,4,7,1000] ?_
   refine Mr 13 BM (by kernel_rfl) R R ?_
   refine ZB R R R (Dm R Bz iL R R)<|ZB R R R (fB R Dk iL fR R)<|ZB R R R (AY (a:=qe A.Flow) R D0 iL R R)<|ZB R R R (AM R iL)<|ZB R R R (A9 R Bb.slice iL iL (λ_=>R) λ_=>ab)<|ZB R R R (BL R Cm iL)<|ZB R R R (Bs (d:=.int .i64 a6.Ref) R AI iL R)<|ZB R R R (fB R MS iL fR R)<|ZB R R R (AY (a:=rI m.ID) R AI iL R R)<|ZB R R R (fB R T9 iL fR R)<|ZB R R R (AY (a:=rB m.Visible) R Mm iL R R) ?_
   refine ZB R R R (Bu R RH (q:=[(0,_),(1,_),(2,_)]) (by exact⟨R,R,R,iL,R,R,R,iL,R,R,R,iL,Za⟩) (cs:=[rI a6.Ref,rI m.ID,rB m.Visible])<|by rfl) ?_
   refine ZB R R R (AM R iL)<|AT.nil<|AE ai λw3 d3 d4=>?_
   refine Zy [1000] (hc:=[(1000,some<|.arr (i3 0) 105 3<|X.map Ae.row)]) (bs:=[.agg [qb d1.Nodes],.agg [rI a6.Ref,rI m.ID,rB m.Visible],.own 1000<|i3 0]) (caps:=[]) R R R R iL R ⟨.inl ⟨iL,R⟩,.inl ⟨iL,R⟩,.inl ⟨iL,R⟩,Za⟩ ⟨R,R,R,Za⟩ (by decide) (J d3) ?_
   intro d5 n4
   refine BZ [3,4,7,8,37,38,48,49,50,51,52,53,54,55,56,57,58,59,61] [3,4,7,1000] ?_
   exact mA R<|Zh<|aa _ _ wk<|J6 _ (AH [(d5 0),n4]) (Zf d4).symm
  exact Zc<|aa _ _ wk<|J6 _ (AH [(i3 0),(i3 1)]) (Zf ai).symm
 exact Zm<|b8 _ _ wk<|J1 _ (AH [(i3 0),(i3 1)])<|xH ct ah
theorem iI(n:Nat):∀ {l:List Ae} {d1:AR} {m:Ae} {r:(List Ae)} {j:Nat},Cc n l d1 m=some r→BC prog 102 1 [.agg [qb d1.Nodes],.agg<|FL m,.own 1000 j] [(1000,some<|.arr j 105 3<|l.map Ae.row)] (λq h'=>∃(i:Nat→Nat),q=.own 1000 (i 0)∧h'=[(1000,some<|.arr (i 0) 105 3<|r.map Ae.row)]):=by
 induction n with
 | zero=>intro l d1 m r j h;exact absurd (show(none:Option ((List Ae)))=some r from h)<|by simp
 | succ n w=>intro l d1 m r j h;exact ZQ (self:=λl d1 m=>Cc n l d1 m) (λA=>w A) h
theorem pM{l:List Ae}{d1:AR}{m:Ae}{r:(List Ae)}{j:Nat}(h:P3 l d1 m=some r):BC prog 102 1 [.agg [qb d1.Nodes],.agg<|FL m,.own 1000 j] [(1000,some<|.arr j 105 3<|l.map Ae.row)] (λw h'=>∃(i:Nat→Nat),w=.own 1000 (i 0)∧h'=[(1000,some<|.arr (i 0) 105 3<|r.map Ae.row)]):=by
 unfold P3 at h
 by_cases q:∃n r,Cc n l d1 m=some r
 ·rw[tW q] at h;exact iI _ h
 ·rw[uM q] at h;cases h
theorem pU{d1 r}(h:Nh d1=some r):Aa prog 59 [.agg [qb d1.Nodes]] (qh r):=by
 unfold Nh at h
 refine mF func59 ntmps59 R λl=>aU<|sS R (A6 (cs:=[qb d1.Nodes]) 1 R iL R R)<|mA R<|aZ<|aT λm=>aR<|xC Bz R ?_
 refine sQ R (Bu R RH (q:=[(0,_),(1,_),(2,_)]) (by exact⟨R,R,R,iL,R,R,R,iL,R,R,R,iL,Za⟩) (cs:=[rI 1,rI 0,rB true])<|by rfl) ?_
 refine AE h λw j q=>?_
 refine Yz 7905 105 3 R [7905] (hc:=[(1000,some<|.arr (l+1) 105 3<|([]:List Ae).map Ae.row)]) (bs:=[.agg [qb d1.Nodes],.agg [rI 1,rI 0,rB true],.own 1000<|l+1]) (caps:=[]) R R R R iL R ⟨.inl<|.inl ⟨iL,R⟩,.inl<|.inl ⟨iL,R⟩,.inr ⟨iL,R,R⟩,Za⟩ ⟨R,R,R,Za⟩ (by decide) (pM j) ?_
 intro A B
 refine BZ [0,1,2,3,4,5] [1,7905] ?_
 exact mA R<|aZ<|m _<|Zl<|Cg (P:=prog) (λ(r:(List Ae))=>qh r) q iL<|.t<|.one<|.own R
theorem Wk{j n r}(h:LS j n=some r):Aa prog 82 [qa j,rS n] (rB r):=by
 unfold LS at h
 refine mF func82 ntmps82 R λV=>aU<|mA R<|aZ<|aS λX Z w=>aU<|mM R<|xL BH R<|mM R<|aZ<|Zg<|BS h λo1 l A B=>?_
 have J1:∀(O:Unit) (T:NN),o1=.nrm O→X ⟨[],[],(T 0),19⟩:=by
  intro O T e
  have h1:=A _ e
  exact Z _<|zB h1 R id
 refine Zu (λ(C:Int) q=>⟨[(0,qa j),(1,rS n),(7,rL j),(8,rI C)],[],(q 0),19⟩) (AH [V]) l wk ?_
 intro C q v1 E m
 have U:Nz j n C=some v1:=E;unfold Nz at U
 refine aU<|xS R<|aZ<|aT λc6=>cI R U (λF=>?_) λF=>?_
 ·refine Zc<|c6 _<|aT λc7=>Zg<|aU<|mM R<|mA R<|aZ<|aU<|mM R<|mM R<|AE F λx4 I h4=>xI BH R I<|sQ R (BL R Ek iL)<|xV (.str x4.Name) BK R<|mM R<|sQ R (EZ R iL iL)<|aZ<|cI R h4 (λJ=>?_) λJ=>?_
  ·exact zB (B _<|xH m J) R id
  refine Zc<|c7 _<|aF [0,1,7,8] ?_
  exact aR<|AE J λx5 M h6=>xA R M<|mM R<|Zh<|Zr h6 (AH [(q 0)]) wk
 exact Zm<|w _ _ wk<|J1 _ (AH [(q 0)])<|xH m F
theorem nt{q m r}(h:Np q m=some r):Aa prog 60 [qe q,rI m] (.r<|.sl<|r.map<|Ab .i64):=by
 unfold Np at h
 refine mF func60 ntmps60 R λn0=>aU<|mA R<|aZ<|aU<|mA R<|aZ<|aS λK3 c3 a0=>aU<|mM R<|xL Bb R<|mM R<|aZ<|Zg<|BV h λo1 T a1=>?_
 have J1:∀(w:List Int) (i5:NN),o1=w→K3 ⟨[(5,.own 5005<|i5 0)],[(5005,some<|.arr (i5 0) 3 1<|w.map<|Ab .i64)],(i5 1),58⟩:=by
  intro w i5 e
  have h1:=a1 _ e
  exact c3 _<|aU<|mM R<|mA R<|aZ<|Zl<|Cg (P:=prog) (λ(r:(List Int))=>.r<|.sl<|r.map<|Ab .i64) h1 iL<|.t<|.one<|.own R
 refine Cs (λ(E:Int) (l:List Int) A=>⟨[(0,qe q),(1,rI m),(5,.own 5005<|A 0),(10,rL q),(11,rI E)],[(5005,some<|.arr (A 0) 3 1<|l.map<|Ab .i64)],(A 1),58⟩) (AH [n0,(n0+1)]) T (Zv (Zv (GI 5 5005 3 1 (by decide) R)<|by exact Am.cv (e':=[(0,qe q),(1,rI m),(4,cZ),(5,.own 5005 n0),(9,qe q),(10,rL q),(11,rI 0)]) (h':=[(5005,some<|.arr n0 3 1<|([]:List Int).map<|Ab .i64)]) ⟨jL,jL,jL,jL,jL,jL,jL,Za⟩ ⟨.inl R,Za⟩ nL) wk) ?_
 intro E l A v1 a2 a6
 have h2:La q m E l=some v1:=a2;unfold La at h2
 refine aU<|xS R<|aZ<|aT λc7=>cI R h2 (λh3=>?_) λh3=>?_
 ·refine Zc<|c7 _<|aS λK8 c8 U=>Zg<|BV h3 λp1 a7 a8=>?_
  have J2:∀(B:List Int) (O:NN),p1=B→K8 ⟨[(0,qe q),(1,rI m),(5,.own 5005<|O 0),(10,rL q),(11,rI E)],[(5005,some<|.arr (O 0) 3 1<|B.map<|Ab .i64)],(O 1),58⟩:=by
   intro B O e
   have h4:=a8 _ e
   exact c8 _<|aR<|AE h4 λx4 aa h5=>xA R aa<|mM R<|Zh<|ZJ h5 (AH [(O 0),(O 1)]) wk
  refine aU<|mM R<|mA R<|aZ<|aU<|mM R<|mM R<|AE a7 λx5 V h6=>xI Bb R V<|sQ R (BL R H9 iL)<|xV (.sl<|x5.Attrs.map AG.row) CR R<|mA R<|aZ<|aU<|mM R<|AE h6 λr1 ab h7=>cL (SV<|ab) R<|sQ R (D1 R iL iL)<|mA R<|aZ<|aS λac ad C=>aT λae=>aG [0,1,5,6,7,8,10,11] [5005] ?_
  refine aR<|mM R<|xQ R<|mM R<|vM R<|AE h7 λr2 af h8=>vL (λhg=>Wk<|Ag af hg) R<|xN R<|mM R<|vM R<|vQ R (A4 R (iR R) iL)<|vQ R (AM R<|iR R)<|wQ R (AM R iL)<|AE h8 λr3 ag h9=>AS.stepW (.two R R R) R R (DU (r:=rB r3) (caps:=[]) (bs:=[qa x5.Attrs,.r<|.str [97,100,100]]) R iL R ⟨⟨_,(iR R),.d R⟩,⟨_,iL,.d R⟩,Za⟩ (λhg=>Wk<|Ag ag hg) R)<|vQ R (Bd R (iR R)<|iR R)<|xO R<|aZ<|ae _<|BV h9 λp2 X ah=>?_
  have J3:∀(j:Bool) (Z:NN),p2=j→ac ⟨[(0,qe q),(1,rI m),(5,.own 5005<|A 0),(6,rI E),(8,rB j),(10,rL q),(11,rI E)],[(5005,some<|.arr (A 0) 3 1<|l.map<|Ab .i64)],(Z 0),58⟩:=by
   intro j Z e
   have ai:=ah _ e
   refine ad _<|aU<|mM R<|mM R<|vM R<|vM R<|vQ R (DK R Bb.slice<|iR R)<|AE ai λx6 aj ak=>vQ R (CX R (iR R) iL<|Ag aj)<|vQ R (A4 R (iR R)<|iR R)<|vQ R (AM R<|iR R)<|wQ R (AM R iL)<|wQ R (AM R iL)<|wQ R (A9 R Bb.slice (iR R) (iR R) (λ_=>R) λ_=>V)<|wQ R (BL R Fh<|iR R)<|wQ R (Bs (d:=.int .i64 x5.Char) R AI (iR R) R)<|wQ R (A4 R (iR R) iL)<|vQ R (Bd R (iR R)<|iR R)<|xO R<|aZ<|cI R ak (λF=>?_) λF=>?_
   ·exact aR<|mM R<|mM R<|sS R (Bj 54 R Bi (f:=(Ab .i64)) (l:=([E]:List Int)) ⟨R,⟨_,iL,R⟩,Za⟩ R (λ_=>R) R)<|AE F λan I al=>sS R (Cj R Bi iL R (.inr<|.inl ⟨_,_,iL,R⟩) I)<|mA R<|Zh<|U _ _ wk<|J2 _ (AH [((Z 0)+1),((Z 0)+2)]) (Zf al).symm
   exact Zc<|U _ _ wk<|J2 _ (AH [(A 0),(Z 0)]) (Zf F).symm
  refine aC R (λJ=>?_) λJ=>?_
  ·have M:=ET J X
   exact aR<|mA R<|Zh<|C _ _ wk<|J3 _ (AH [(A 1)]) (Zf M).symm
  ·have M:=EJ J X
   exact Zc<|C _ _ wk<|J3 _ (AH [(A 1)]) (Zf M).symm
 exact Zm<|a0 _ _ wk<|J1 _ (AH [(A 0),(A 1)])<|xH a6 h3
theorem jp{self:AR→Int→Option (List Int)}(ac:∀ {d1:AR} {q:Int} {r:(List Int)},self d1 q=some r→Aa prog 32 [.agg [qb d1.Nodes],rI q] (.r<|.sl<|r.map<|Ab .i64)){d1:AR}{q:Int}{r:(List Int)}(h:JB self d1 q=some r):Aa prog 32 [.agg [qb d1.Nodes],rI q] (.r<|.sl<|r.map<|Ab .i64):=by
 unfold JB at h
 refine mF func32 ntmps32 R λw=>aU<|sS R (A6 (cs:=[qb d1.Nodes]) 2 R iL R R)<|mA R<|aZ<|aU<|xC Bz R<|AE h λt1 bb h1=>sS R (Cb (r:=qh t1) (caps:=[]) (bs:=[.agg [qb d1.Nodes]]) R iL R ⟨.inl ⟨iL,R⟩,Za⟩ λ_=>pU<|bb)<|mA R<|aZ<|aT λc3=>AE h1 λr1 bc h2=>AE h2 λF bd h3=>?_
 refine GJ 8 [pO 20<|.ptr 2 w 0 0,pO 21<|qb d1.Nodes,pO 22<|.agg [qb d1.Nodes],pO 23<|rI q,pO 24<|rI r1,pO 25<|.rop (AO.row F) 0,pO 26<|.agg<|Ai F,⟨some 6,(λC=>.ptr 6 (C 7) 0 0),some (6,(λC=>some<|.box (C 7) 54 EC)),[7]⟩] BM (by kernel_rfl) (by exact⟨λ_ _ h=>⟨R,λ_ _ e=>by cases e⟩,λ_ _ h=>⟨R,λ_ _ e=>by cases e⟩,λ_ _ h=>⟨R,λ_ _ e=>by cases e⟩,λ_ _ h=>⟨R,λ_ _ e=>by cases e⟩,λ_ _ h=>⟨R,λ_ _ e=>by cases e⟩,λ_ _ h=>⟨R,λ_ _ e=>by cases e⟩,λ_ _ h=>⟨R,λ_ _ e=>by cases e⟩,λ_ _ h=>⟨by simp only[h 7 R],λ_ _ e=>by cases e;simp only[h 7 R]⟩,Za⟩) R (by exact⟨oB [(2,.ptr 2 w 0 0)] [(2,some<|.box w 24 [qb d1.Nodes])]<|fB R B6 (.inl R) (λ_=>R) R,oB [(20,.ptr 2 w 0 0)] [(2,some<|.box w 24 [qb d1.Nodes])]<|AY (a:=qb d1.Nodes) R CA (.inl R) R R,oB [(2,.ptr 2 w 0 0)] [(2,some<|.box w 24 [qb d1.Nodes])]<|Dm R Bz (.inl R) R R,oB [(1,rI q)] []<|AM R<|.inl R,oD (λ_=>[(22,.agg [qb d1.Nodes]),(23,rI q)]) (λ_=>[]) λC e h' n=>DU (r:=rI r1) (caps:=[]) (bs:=[.agg [qb d1.Nodes],rI q]) R (.inl R) R ⟨⟨_,(.inl R),.g (cs:=[.sl<|d1.Nodes.map AO.row]) R R⟩,⟨_,(.inl R),.d R⟩,Za⟩ (λ_=>Jz<|bc) R,oB [(21,qb d1.Nodes),(24,rI r1)] []<|A9 R Bh.slice (.inl R) (.inl R) (λ_=>R) λ_=>bd,oB [(25,.rop (AO.row F) 0)] []<|CN (cs:=(Ai F)) R C0 (.inl R) R R,oM (λ_=>[]) (λ_=>[]) R λC e h' n=>BI (cs:=EC) 6 R Gq R R,Za⟩) λC n1=>?_
 refine BZ [0,1,2,4,5,6,18,19,20,21,22,23,24,25,26] [2,6] ?_
 refine Zj R R (A5 (ds:=(Ai F)) R GY iL R iL R R R R)<|aZ<|c3 _<|aT λc4=>aG [1,2,5,6] [2,6] ?_
 refine aR<|lF Dk D0 R R<|AE h3 λj a0 h4=>sS R (Cb (r:=.r<|.sl<|j.map<|Ab .i64) (caps:=[]) (bs:=[qe F.Flow,rI 0]) R iL R ⟨.inl ⟨iL,R⟩,.inl ⟨iL,R⟩,Za⟩ λ_=>nt<|a0)<|mA R<|aZ<|c4 _<|aU<|mA R<|aZ<|aS λK6 c6 be=>aU<|mM R<|xL Bi R<|mM R<|aZ<|Zg<|BV h4 λo1 ao bf=>?_
 have J1:∀(a1:List Int) (i5:NN),o1=a1→K6 ⟨[(8,.own 5008<|i5 0)],[(5008,some<|.arr (i5 0) 3 1<|a1.map<|Ab .i64)],(i5 1),184⟩:=by
  intro a1 i5 e
  have h5:=bf _ e
  exact c6 _<|aU<|mM R<|mA R<|aZ<|Zl<|Cg (P:=prog) (λ(r:(List Int))=>.r<|.sl<|r.map<|Ab .i64) h5 iL<|.t<|.one<|.own R
 refine Cs (λ(x3:Int) (O:List Int) V=>⟨[(1,rI q),(2,.ptr 2 w 0 0),(5,qh t1),(6,.ptr 6 (C 7) 0 0),(7,.r<|.sl<|j.map<|Ab .i64),(8,.own 5008<|V 0),(31,rL j),(32,rI x3)],[(2,some<|.box w 24 [qb d1.Nodes]),(6,some<|.box (C 7) 54<|Ai F),(5008,some<|.arr (V 0) 3 1<|O.map<|Ab .i64)],(V 1),184⟩) (AH [n1,(n1+1)]) ao (Zv (Zv (GI 8 5008 3 1 (by decide) R)<|by exact Am.cv (e':=[(1,rI q),(2,.ptr 2 w 0 0),(5,qh t1),(6,.ptr 6 (C 7) 0 0),(7,.r<|.sl<|j.map<|Ab .i64),(8,.own 5008 n1),(27,.ptr 6 (C 7) 0 3),(28,qe F.Flow),(29,.r<|.sl<|j.map<|Ab .i64),(30,.r<|.sl<|j.map<|Ab .i64),(31,rL j),(32,rI 0)]) (h':=[(2,some<|.box w 24 [qb d1.Nodes]),(6,some<|.box (C 7) 54<|Ai F),(5008,some<|.arr n1 3 1<|([]:List Int).map<|Ab .i64)]) ⟨jL,jL,jL,jL,jL,jL,jL,jL,jL,jL,jL,jL,Za⟩ ⟨.inl R,.inl R,.inl R,Za⟩ nL) wk) ?_
 intro x3 O V v1 bg bh
 have h6:Hk d1 q self t1 F j x3 O=some v1:=bg;unfold Hk at h6
 refine aU<|xS R<|aZ<|aT λbi=>cI R h6 (λh7=>?_) λh7=>?_
 ·refine Zc<|bi _<|aS λbj bk X=>Zg<|BV h7 λp1 bl bm=>?_
  have J2:∀(a2:List Int) (i6:NN),p1=a2→bj ⟨[(1,rI q),(2,.ptr 2 w 0 0),(5,qh t1),(6,.ptr 6 (C 7) 0 0),(7,.r<|.sl<|j.map<|Ab .i64),(8,.own 5008<|i6 0),(31,rL j),(32,rI x3)],[(2,some<|.box w 24 [qb d1.Nodes]),(6,some<|.box (C 7) 54<|Ai F),(5008,some<|.arr (i6 0) 3 1<|a2.map<|Ab .i64)],(i6 1),184⟩:=by
   intro a2 i6 e
   have h8:=bm _ e
   exact bk _<|aR<|AE h8 λx5 bn h9=>xA R bn<|mM R<|Zh<|ZJ h9 (AH [(i6 0),(i6 1)]) wk
  refine aU<|mM R<|mA R<|aZ<|aT λbo=>?_
  refine Zx BM (by kernel_rfl) ?_
  refine qP R (fB R Dk iL fR R)<|qP R (AY (a:=qe F.Flow) R D0 iL R R)<|qP R (AM R iL)<|qP R (AM R iL)<|AE bl λx6 aq bp=>qP R (A9 R Bi.slice iL iL (λ_=>R) λ_=>aq)<|qP R (Bs (d:=.int .i64 x6) R AI iL R)<|AE bp λZ bq br=>qP R (A9 R Bb.slice iL iL (λ_=>R) λ_=>bq)<|qP R (BL R Cm iL)<|qP R (Bs (d:=.int .i64 Z.Ref) R AI iL R)<|qP R (EL R iL)<|AQ.nil<|bo _<|aT λbs=>aT λbt=>aG [1,2,5,6,7,8,9,10,31,32] [2,6,5008] ?_
  refine aR<|mM R<|xQ R<|mM R<|vM R<|vM R<|AE br λr2 bu bv=>vL (λhg=>OO<|Ag bu hg) R<|vQ R (CO R (iR R) iL)<|xO R<|mM R<|vM R<|vM R<|vM R<|AE bv λr3 bw bx=>vL (λhg=>OO<|Ag bw hg) R<|AE bx λx8 bz c0=>vQ R (A9 R LV.slice (iR R) (iR R) (λ_=>R)<|Ag bz)<|vQ R (BL R Vo<|iR R)<|vQ R (Bs (d:=.int .i64 x8.Parent) R AI (iR R) R)<|vM R<|vQ R (DJ R (iR R)<|iR R)<|xO R<|aZ<|bt _<|cI R c0 (λad=>?_) λad=>?_
  ·exact Zm<|X _ _ wk<|J2 _ (AH [(V 0),(V 1)]) (Zf ad).symm
  refine Zc<|bs _<|aU<|mA R<|aZ<|aS λc2 c5 ar=>Zg<|BV ad λo2 au c7=>?_
  have J3:∀(I:Int) (a6:NN),o2=I→c2 ⟨[(1,rI q),(2,.ptr 2 w 0 0),(5,qh t1),(6,.ptr 6 (C 7) 0 0),(7,.r<|.sl<|j.map<|Ab .i64),(8,.own 5008<|V 0),(9,rI x3),(10,rI Z.Ref),(11,rI I),(31,rL j),(32,rI x3)],[(2,some<|.box w 24 [qb d1.Nodes]),(6,some<|.box (C 7) 54<|Ai F),(5008,some<|.arr (V 0) 3 1<|O.map<|Ab .i64)],(a6 0),184⟩:=by
   intro I a6 e
   have c8:=c7 _ e
   refine c5 _<|aT λc9=>aU<|mM R<|mM R<|mM R<|xI Bi R aq<|xV (.int .i64 x6) AI R<|xU R<|aZ<|cI R c8 (λae=>?_) λae=>?_
   ·exact Zm<|X _ _ wk<|J2 _ (AH [(V 0),(a6 0)]) (Zf ae).symm
   refine Zc<|c9 _<|aU<|mM R<|mM R<|sS R (Bj 81 R Bi (f:=(Ab .i64)) (l:=([Z.Ref]:List Int)) ⟨R,⟨_,iL,R⟩,Za⟩ R (λ_=>R) R)<|AE ae λdw af ca=>sS R (Cj R Bi iL R (.inr<|.inl ⟨_,_,iL,R⟩) af)<|mA R<|aZ<|aT λcb=>aG [1,2,5,6,7,8,10,31,32] [2,6,5008] ?_
   refine AE ca λr4 cc cd=>AE cd λM cf cg=>?_
   refine GJ 8 [pO 83<|.ptr 2 w 0 0,pO 84<|qb d1.Nodes,pO 85<|.agg [qb d1.Nodes],pO 86<|rI Z.Ref,pO 87<|rI r4,pO 88<|.rop (AO.row M) 0,pO 89<|.agg<|Ai M,⟨some 12,(λG2=>.ptr 12 (G2 7) 0 0),some (12,(λG2=>some<|.box (G2 7) 54 EC)),[7]⟩] BM (by kernel_rfl) (by exact⟨λ_ _ h=>⟨R,λ_ _ e=>by cases e⟩,λ_ _ h=>⟨R,λ_ _ e=>by cases e⟩,λ_ _ h=>⟨R,λ_ _ e=>by cases e⟩,λ_ _ h=>⟨R,λ_ _ e=>by cases e⟩,λ_ _ h=>⟨R,λ_ _ e=>by cases e⟩,λ_ _ h=>⟨R,λ_ _ e=>by cases e⟩,λ_ _ h=>⟨R,λ_ _ e=>by cases e⟩,λ_ _ h=>⟨by simp only[h 7 R],λ_ _ e=>by cases e;simp only[h 7 R]⟩,Za⟩) R (by exact⟨oB [(2,.ptr 2 w 0 0)] [(2,some<|.box w 24 [qb d1.Nodes])]<|fB R B6 (.inl R) (λ_=>R) R,oB [(83,.ptr 2 w 0 0)] [(2,some<|.box w 24 [qb d1.Nodes])]<|AY (a:=qb d1.Nodes) R CA (.inl R) R R,oB [(2,.ptr 2 w 0 0)] [(2,some<|.box w 24 [qb d1.Nodes])]<|Dm R Bz (.inl R) R R,oB [(10,rI Z.Ref)] []<|AM R<|.inl R,oD (λ_=>[(85,.agg [qb d1.Nodes]),(86,rI Z.Ref)]) (λ_=>[]) λG2 e h' n=>DU (r:=rI r4) (caps:=[]) (bs:=[.agg [qb d1.Nodes],rI Z.Ref]) R (.inl R) R ⟨⟨_,(.inl R),.g (cs:=[.sl<|d1.Nodes.map AO.row]) R R⟩,⟨_,(.inl R),.d R⟩,Za⟩ (λ_=>Jz<|cc) R,oB [(84,qb d1.Nodes),(87,rI r4)] []<|A9 R Bh.slice (.inl R) (.inl R) (λ_=>R) λ_=>cf,oB [(88,.rop (AO.row M) 0)] []<|CN (cs:=(Ai M)) R C0 (.inl R) R R,oM (λ_=>[]) (λ_=>[]) R λG2 e h' n=>BI (cs:=EC) 12 R Gq R R,Za⟩) λG2 n2=>?_
   refine BZ [1,2,5,6,7,8,10,12,31,32,83,84,85,86,87,88,89] [2,6,12,5008] ?_
   refine Zj R R (A5 (ds:=(Ai M)) R GY iL R iL R R R R)<|aZ<|cb _<|aT λch=>aU<|lF CP AI R R<|xU R<|aZ<|cI R cg (λag=>?_) λag=>?_
   ·exact Zm<|X _ _ wk<|J2 _ (AH [((a6 0)+1),n2]) (Zf ag).symm
   refine Zc<|ch _<|aT λcj=>aG [1,2,5,6,7,8,10,12,31,32] [2,6,12,5008] ?_
   refine aR<|sQ R (fB R DS iL fR R)<|lF DX Dc R R<|xL Bx R<|mM R<|aZ<|cj _<|Zg<|BS ag λo3 av dx ck=>Cs (λ(T:Int) (E:List Int) l=>⟨[(1,rI q),(2,.ptr 2 w 0 0),(5,qh t1),(6,.ptr 6 (C 7) 0 0),(7,.r<|.sl<|j.map<|Ab .i64),(8,.own 5008<|l 0),(10,rI Z.Ref),(12,.ptr 12 (G2 7) 0 0),(31,rL j),(32,rI x3),(96,rL M.Grid.Cells),(97,rI T)],[(2,some<|.box w 24 [qb d1.Nodes]),(6,some<|.box (C 7) 54<|Ai F),(12,some<|.box (G2 7) 54<|Ai M),(5008,some<|.arr (l 0) 3 1<|E.map<|Ab .i64)],(l 1),184⟩) (AH [((a6 0)+1),n2]) av wk ?_
   intro T E l v2 cl cm
   have aw:Hu d1 self t1 Z M T E=some v2:=cl;unfold Hu at aw
   refine aU<|xS R<|aZ<|aT λcn=>cI R aw (λah=>?_) λah=>?_
   ·refine Zc<|cn _<|aS λcp cq ab=>Zg<|BV ah λp2 cr cs=>?_
    have J5:∀(U:List Int) (i16:NN),p2=U→cp ⟨[(1,rI q),(2,.ptr 2 w 0 0),(5,qh t1),(6,.ptr 6 (C 7) 0 0),(7,.r<|.sl<|j.map<|Ab .i64),(8,.own 5008<|i16 0),(10,rI Z.Ref),(12,.ptr 12 (G2 7) 0 0),(31,rL j),(32,rI x3),(96,rL M.Grid.Cells),(97,rI T)],[(2,some<|.box w 24 [qb d1.Nodes]),(6,some<|.box (C 7) 54<|Ai F),(12,some<|.box (G2 7) 54<|Ai M),(5008,some<|.arr (i16 0) 3 1<|U.map<|Ab .i64)],(i16 1),184⟩:=by
     intro U i16 e
     have ct:=cs _ e
     exact cq _<|aR<|AE ct λdy ax cu=>xA R ax<|mM R<|Zh<|ZJ cu (AH [(i16 0),(i16 1)]) wk
    refine aU<|mM R<|mA R<|aZ<|aU<|sQ R (fB R DS iL fR R)<|lF DX Dc R R<|mM R<|AE cr λm ay cv=>xI Bx R ay<|xB ((BP m)) EM R<|sS R (BI (cs:=HS) 14 R G8 R R)<|Zj R R (A5 (ds:=(BP m)) R HV iL R iL R R R R)<|aZ<|aU<|sQ R (fB R DS iL fR R)<|sQ R (GH (ds:=(B7 M.Grid)) R GM iL R R R)<|lF D5 AI R R<|lF ES AI R R<|AE cv λr5 cw cx=>sS R (Cb (r:=.agg<|A8 r5) (caps:=[]) (bs:=[.agg<|B7 M.Grid,rI m.Row,rI m.Col]) R iL R ⟨.inl ⟨iL,R⟩,.inl ⟨iL,R⟩,.inl ⟨iL,R⟩,Za⟩ λ_=>VX<|cw)<|sS R (BI (cs:=FP) 15 R Gw R R)<|Zj R R (A5 (ds:=(A8 r5)) R F0 iL R iL R R R R)<|aZ<|aT λcy=>aG [1,2,5,6,7,8,10,12,13,14,15,31,32,96,97] [2,6,12,14,15,5008] ?_
    refine aR<|mA R<|aZ<|cy _<|aS λcz d0 az=>aU<|mM R<|mM R<|aZ<|Zg<|BV cx λo4 b0 d2=>?_
    have J6:∀(A:Bool) (ai:NN),o4=A→cz ⟨[(1,rI q),(2,.ptr 2 w 0 0),(5,qh t1),(6,.ptr 6 (C 7) 0 0),(7,.r<|.sl<|j.map<|Ab .i64),(8,.own 5008<|l 0),(10,rI Z.Ref),(12,.ptr 12 (G2 7) 0 0),(14,.ptr 14 (l 1) 0 0),(15,.ptr 15 ((l 1)+1) 0 0),(16,rB A),(31,rL j),(32,rI x3),(96,rL M.Grid.Cells),(97,rI T)],[(2,some<|.box w 24 [qb d1.Nodes]),(6,some<|.box (C 7) 54<|Ai F),(12,some<|.box (G2 7) 54<|Ai M),(14,some<|.box (l 1) 107<|BP m),(15,some<|.box ((l 1)+1) 109<|A8 r5),(5008,some<|.arr (l 0) 3 1<|E.map<|Ab .i64)],(ai 0),184⟩:=by
     intro A ai e
     have d3:=d2 _ e
     refine d0 _<|aU<|lF Ce AI R R<|xU R<|mM R<|vM R<|vQ R (BE R<|iR R)<|xN R<|mM R<|vF Cu AI R R<|vF D5 AI R R<|vQ R (A4 R (iR R)<|iR R)<|xN R<|mM R<|vF DQ AI R R<|vF ES AI R R<|vQ R (A4 R (iR R)<|iR R)<|xN R<|mM R<|vM R<|vF Ce AI R R<|AE d3 λr6 d4 d5=>vL (λhg=>OO<|Ag d4 hg) R<|vQ R (DT R (iR R) iL)<|xN R<|mM R<|vM R<|vM R<|vF Ce AI R R<|AE d5 λr7 d6 d7=>vL (λhg=>OO<|Ag d6 hg) R<|AE d7 λd8 b4 d9=>vQ R (A9 R LV.slice (iR R) (iR R) (λ_=>R)<|Ag b4)<|vQ R (BL R Vo<|iR R)<|vQ R (Bs (d:=.int .i64 d8.Parent) R AI (iR R) R)<|vM R<|vQ R (A4 R (iR R)<|iR R)<|xN R<|aZ<|cI R d9 (λaj=>?_) λaj=>?_
     ·refine aG [1,2,5,6,7,8,10,12,14,31,32,96,97] [2,6,12,14,5008] ?_
      refine AE aj λl1 da db=>?_
      refine GJ 8 [pO 171<|.own 5008<|l 0,pO 172<|.ptr 14 (l 1) 0 3,pO 173<|rI m.Ref,⟨some 174,(λG3=>.own 174<|G3 3),some (174,(λG3=>some<|.arr (G3 3) 3 1<|[m.Ref].map<|Ab .i64)),[3]⟩,⟨some 175,(λG3=>.own 5008<|G3 4),some (5008,(λG3=>some<|.arr (G3 4) 3 1<|l1.map<|Ab .i64)),[4]⟩,pO 176<|.agg [qb d1.Nodes],pO 177<|.ptr 14 (l 1) 0 3,pO 178<|rI m.Ref] BM (by kernel_rfl) (by exact⟨λ_ _ h=>⟨R,λ_ _ e=>by cases e⟩,λ_ _ h=>⟨R,λ_ _ e=>by cases e⟩,λ_ _ h=>⟨R,λ_ _ e=>by cases e⟩,λ_ _ h=>⟨by simp only[h 3 R],λ_ _ e=>by cases e;simp only[h 3 R]⟩,λ_ _ h=>⟨by simp only[h 4 R],λ_ _ e=>by cases e;simp only[h 4 R]⟩,λ_ _ h=>⟨R,λ_ _ e=>by cases e⟩,λ_ _ h=>⟨R,λ_ _ e=>by cases e⟩,λ_ _ h=>⟨R,λ_ _ e=>by cases e⟩,Za⟩) R (by exact⟨oB [(8,.own 5008<|l 0)] [(5008,some<|.arr (l 0) 3 1<|E.map<|Ab .i64)]<|AM R<|.inl R,oB [(14,.ptr 14 (l 1) 0 0)] [(14,some<|.box (l 1) 107<|BP m)]<|fB R Ce (.inl R) (λ_=>R) R,oB [(172,.ptr 14 (l 1) 0 3)] [(14,some<|.box (l 1) 107<|BP m)]<|AY (a:=rI m.Ref) R AI (.inl R) R R,oM (λ_=>[(173,rI m.Ref)]) (λ_=>[]) R λG3 e h' n=>Bj 174 R Bi (f:=(Ab .i64)) (l:=([m.Ref]:List Int)) ⟨R,⟨_,(.inl R),R⟩,Za⟩ R (λ_=>R) R,oM (λG3=>[(171,.own 5008<|l 0),(174,.own 174<|G3 3)]) (λG3=>[(174,some<|.arr (G3 3) 3 1<|[m.Ref].map<|Ab .i64),(5008,some<|.arr (l 0) 3 1<|E.map<|Ab .i64)]) R λG3 e h' n=>Cj R Bi (.inl R) R (.inr<|.inl ⟨_,_,(.inl R),R⟩) da,oB [(2,.ptr 2 w 0 0)] [(2,some<|.box w 24 [qb d1.Nodes])]<|Dm R Bz (.inl R) R R,oB [(14,.ptr 14 (l 1) 0 0)] [(14,some<|.box (l 1) 107<|BP m)]<|fB R Ce (.inl R) (λ_=>R) R,oB [(177,.ptr 14 (l 1) 0 3)] [(14,some<|.box (l 1) 107<|BP m)]<|AY (a:=rI m.Ref) R AI (.inl R) R R,Za⟩) λG3 n3=>?_
      refine BZ [1,2,5,6,7,10,12,14,31,32,96,97,172,173,174,175,176,177,178] [2,6,12,14,174,5008] ?_
      exact AE db λr8 dc dd=>sS R (Cb (r:=.r<|.sl<|r8.map<|Ab .i64) (caps:=[]) (bs:=[.agg [qb d1.Nodes],rI m.Ref]) R iL R ⟨.inl ⟨iL,R⟩,.inl ⟨iL,R⟩,Za⟩ λ_=>ac<|dc)<|AE dd λde a8 df=>sS R (Cj R Bi iL R (.inl ⟨iL,λ_=>R⟩) a8)<|mA R<|Zh<|ab _ _ wk<|J5 _ (AH [n3,(n3+1)]) (Zf df).symm
     exact Zc<|ab _ _ wk<|J5 _ (AH [(l 0),(ai 0)]) (Zf aj).symm
    refine Cs (λ(B:Bool) (ak:Int) aa=>⟨[(1,rI q),(2,.ptr 2 w 0 0),(5,qh t1),(6,.ptr 6 (C 7) 0 0),(7,.r<|.sl<|j.map<|Ab .i64),(8,.own 5008<|l 0),(10,rI Z.Ref),(12,.ptr 12 (G2 7) 0 0),(14,.ptr 14 (l 1) 0 0),(15,.ptr 15 ((l 1)+1) 0 0),(16,rB B),(31,rL j),(32,rI x3),(96,rL M.Grid.Cells),(97,rI T),(113,rI T),(114,rI ak)],[(2,some<|.box w 24 [qb d1.Nodes]),(6,some<|.box (C 7) 54<|Ai F),(12,some<|.box (G2 7) 54<|Ai M),(14,some<|.box (l 1) 107<|BP m),(15,some<|.box ((l 1)+1) 109<|A8 r5),(5008,some<|.arr (l 0) 3 1<|E.map<|Ab .i64)],(aa 0),184⟩) (AH [((l 1)+2)]) b0 wk ?_
    intro B ak aa v3 dh di
    have b5:IM M T m B ak=some v3:=dh;unfold IM at b5
    refine aU<|xS R<|aZ<|aT λdj=>cI R b5 (λal=>?_) λal=>?_
    ·refine Zc<|dj _<|aT λdk=>Zg<|aU<|mM R<|mA R<|aZ ?_
     refine Zx BM (by kernel_rfl) ?_
     exact qP R (AM R iL)<|qP R (AM R iL)<|qO R (fB R DS iL fR R)<|qO R (fB R DX (iR R) fR R)<|qO R (AY (a:=qc M.Grid.Cells) R Dc (iR R) R R)<|qO R (AM R iL)<|AE al λdm b6 dn=>qO R (A9 R Bx.slice (iR R) (iR R) (λ_=>R)<|Ag b6)<|qO R (BL R Ce<|iR R)<|qO R (Bs (d:=.int .i64 dm.Ref) R AI (iR R) R)<|qO R (fB R Ce iL fR R)<|qO R (AY (a:=rI m.Ref) R AI (iR R) R R)<|qO R (A4 R (iR R)<|iR R)<|qP R (Cp R iL<|iR R)<|qP R (EL R iL)<|AQ.nil<|dk _<|aR<|AE dn λdz b7 dp=>xA R b7<|mM R<|Zh<|ZJ dp (AH [(aa 0)]) wk
    exact Zm<|az _ _ wk<|J6 _ (AH [(aa 0)])<|xH di al
   exact Zm<|X _ _ wk<|J2 _ (AH [(l 0),(l 1)]) (Zf<|ck _<|xH cm ah).symm
  refine Zu (λ(J:Int) i9=>⟨[(1,rI q),(2,.ptr 2 w 0 0),(5,qh t1),(6,.ptr 6 (C 7) 0 0),(7,.r<|.sl<|j.map<|Ab .i64),(8,.own 5008<|V 0),(9,rI x3),(10,rI Z.Ref),(11,rI J),(31,rL j),(32,rI x3)],[(2,some<|.box w 24 [qb d1.Nodes]),(6,some<|.box (C 7) 54<|Ai F),(5008,some<|.arr (V 0) 3 1<|O.map<|Ab .i64)],(i9 0),184⟩) (AH [(V 1)]) au wk ?_
  intro J i9 v4 dq dr
  have b8:HC F Z J=some v4:=dq;unfold HC at b8
  refine aT λds=>aU<|lF Dk D0 R R<|mM R<|AE b8 λdt b9 du=>xI Bb R b9<|sQ R (BL R Cm iL)<|xV (.int .i64 dt.Ref) AI R<|mM R<|xU R<|aZ<|cI R du (λan=>?_) λan=>?_
  ·exact Zc<|ds _<|Zg<|aR<|mM R<|AE an λba a7 dv=>xA R a7<|mA R<|Zh<|Zr dv (AH [(i9 0)]) wk
  exact Zm<|ar _ _ wk<|J3 _ (AH [(i9 0)])<|xH dr an
 exact Zm<|be _ _ wk<|J1 _ (AH [(V 0),(V 1)])<|xH bh h7
theorem pS(n:Nat):∀ {d1:AR} {j:Int} {r:(List Int)},D6 n d1 j=some r→Aa prog 32 [.agg [qb d1.Nodes],rI j] (.r<|.sl<|r.map<|Ab .i64):=by
 induction n with
 | zero=>intro d1 j r h;exact absurd (show(none:Option ((List Int)))=some r from h)<|by simp
 | succ n l=>intro d1 j r h;exact jp (self:=λd1 j=>D6 n d1 j) (λm=>l m) h
theorem kZ{d1 i r}(h:NK d1 i=some r):Aa prog 32 [.agg [qb d1.Nodes],rI i] (.r<|.sl<|r.map<|Ab .i64):=by
 unfold NK at h
 by_cases j:∃n r,D6 n d1 i=some r
 ·rw[tW j] at h;exact pS _ h
 ·rw[uM j] at h;cases h
theorem ZK{d1 i r}(h:Oc d1 i=some r):Aa prog 8 [.agg [qb d1.Nodes],rI i] (qi r):=by
 unfold Oc at h
 refine mF func8 ntmps8 R λj=>aU<|sS R (A6 (cs:=[qb d1.Nodes]) 2 R iL R R)<|mA R<|aZ<|aU<|mA R<|aZ<|aU<|mA R<|mA R<|aZ<|aU<|xC Bz R<|mM R<|AE h λq a6 h1=>sS R (Cb (r:=.r<|.sl<|q.map<|Ab .i64) (caps:=[]) (bs:=[.agg [qb d1.Nodes],rI i]) R iL R ⟨.inl ⟨iL,R⟩,.inl ⟨iL,R⟩,Za⟩ λ_=>kZ<|a6)<|mA R<|aZ<|aS λK5 c5 a7=>aU<|mM R<|xL Bi R<|mM R<|aZ<|Zg<|BV h1 λo1 a2 a8=>?_
 have J1:∀(w:List AP) (i5:NN),o1=w→K5 ⟨[(5,.own 5005<|i5 0)],[(5005,some<|.arr (i5 0) 33 3<|w.map AP.row)],(i5 1),56⟩:=by
  intro w i5 e
  have h2:=a8 _ e
  exact c5 _<|aU<|mM R<|mA R<|aZ<|Zl<|Cg (P:=prog) (λ(r:(List AP))=>qi r) h2 iL<|.t<|.one<|.own R
 refine Rx (λ(l:Int) (A:Int) (T:Int) (B:List AP) U=>⟨[(2,.ptr 2 j 0 0),(5,.own 5005<|U 0),(6,rI l),(7,rI A),(8,.r<|.sl<|q.map<|Ab .i64),(15,rL q),(16,rI T)],[(2,some<|.box j 24 [qb d1.Nodes]),(5005,some<|.arr (U 0) 33 3<|B.map AP.row)],(U 1),56⟩) (AH [(j+1),(j+2)]) a2 (Zv (Zv (GI 5 5005 33 3 (by decide) R)<|by exact Am.cv (e':=[(0,.agg [qb d1.Nodes]),(1,rI i),(2,.ptr 2 j 0 0),(4,cZ),(5,.own 5005<|j+1),(6,rI 0),(7,rI 0),(8,.r<|.sl<|q.map<|Ab .i64),(11,.agg [qb d1.Nodes]),(12,rI i),(13,.r<|.sl<|q.map<|Ab .i64),(14,.r<|.sl<|q.map<|Ab .i64),(15,rL q),(16,rI 0)]) (h':=[(2,some<|.box j 24 [qb d1.Nodes]),(5005,some<|.arr (j+1) 33 3<|([]:List AP).map AP.row)]) ⟨jL,jL,jL,jL,jL,jL,jL,jL,jL,jL,jL,jL,jL,jL,Za⟩ ⟨.inl R,.inl R,Za⟩ nL) wk) ?_
 intro l A T B U v1 aa ab
 have h3:II d1 q l A T B=some v1:=aa;unfold II at h3
 refine aU<|xS R<|aZ<|aT λc9=>cI R h3 (λh4=>?_) λh4=>?_
 ·refine Zc<|c9 _<|aS λac ad C=>Zg<|RN h4 λp1 ae af=>?_
  have J2:∀(m:Int) (E:Int) (F:List AP) (i6:NN),p1=(m,E,F)→ac ⟨[(2,.ptr 2 j 0 0),(5,.own 5005<|i6 0),(6,rI m),(7,rI E),(8,.r<|.sl<|q.map<|Ab .i64),(15,rL q),(16,rI T)],[(2,some<|.box j 24 [qb d1.Nodes]),(5005,some<|.arr (i6 0) 33 3<|F.map AP.row)],(i6 1),56⟩:=by
   intro m E F i6 e
   have h5:=af _ _ _ e
   exact ad _<|aR<|AE h5 λx4 ag h6=>xA R ag<|mM R<|Zh<|KB.mk h6 (AH [(i6 0),(i6 1)]) wk
  refine aU<|mM R<|mA R<|aZ<|aT λah=>AE ae λx5 ai h7=>AE h7 λr1 aj h8=>AE h8 λJ ak h9=>?_
  refine GJ 11 [pO 19<|.ptr 2 j 0 0,pO 20<|qb d1.Nodes,pO 21<|.agg [qb d1.Nodes],pO 22<|.r<|.sl<|q.map<|Ab .i64,pO 23<|rI T,pO 24<|.rop ((Ab .i64) x5) 0,pO 25<|rI x5,pO 26<|rI r1,pO 27<|.rop (AO.row J) 0,pO 28<|.agg<|Ai J,⟨some 10,(λG1=>.ptr 10 (G1 10) 0 0),some (10,(λG1=>some<|.box (G1 10) 54 EC)),[10]⟩] BM (by kernel_rfl) (by exact⟨λ_ _ h=>⟨R,λ_ _ e=>by cases e⟩,λ_ _ h=>⟨R,λ_ _ e=>by cases e⟩,λ_ _ h=>⟨R,λ_ _ e=>by cases e⟩,λ_ _ h=>⟨R,λ_ _ e=>by cases e⟩,λ_ _ h=>⟨R,λ_ _ e=>by cases e⟩,λ_ _ h=>⟨R,λ_ _ e=>by cases e⟩,λ_ _ h=>⟨R,λ_ _ e=>by cases e⟩,λ_ _ h=>⟨R,λ_ _ e=>by cases e⟩,λ_ _ h=>⟨R,λ_ _ e=>by cases e⟩,λ_ _ h=>⟨R,λ_ _ e=>by cases e⟩,λ_ _ h=>⟨by simp only[h 10 R],λ_ _ e=>by cases e;simp only[h 10 R]⟩,Za⟩) R (by exact⟨oB [(2,.ptr 2 j 0 0)] [(2,some<|.box j 24 [qb d1.Nodes])]<|fB R B6 (.inl R) (λ_=>R) R,oB [(19,.ptr 2 j 0 0)] [(2,some<|.box j 24 [qb d1.Nodes])]<|AY (a:=qb d1.Nodes) R CA (.inl R) R R,oB [(2,.ptr 2 j 0 0)] [(2,some<|.box j 24 [qb d1.Nodes])]<|Dm R Bz (.inl R) R R,oB [(8,.r<|.sl<|q.map<|Ab .i64)] []<|AM R<|.inl R,oB [(9,rI T)] []<|AM R<|.inl R,oB [(22,.r<|.sl<|q.map<|Ab .i64),(23,rI T)] []<|A9 R Bi.slice (.inl R) (.inl R) (λ_=>R) λ_=>ai,oB [(24,.rop ((Ab .i64) x5) 0)] []<|Bs (d:=.int .i64 x5) R AI (.inl R) R,oD (λ_=>[(21,.agg [qb d1.Nodes]),(25,rI x5)]) (λ_=>[]) λG1 e h' n=>DU (r:=rI r1) (caps:=[]) (bs:=[.agg [qb d1.Nodes],rI x5]) R (.inl R) R ⟨⟨_,(.inl R),.g (cs:=[.sl<|d1.Nodes.map AO.row]) R R⟩,⟨_,(.inl R),.d R⟩,Za⟩ (λ_=>Jz<|aj) R,oB [(20,qb d1.Nodes),(26,rI r1)] []<|A9 R Bh.slice (.inl R) (.inl R) (λ_=>R) λ_=>ak,oB [(27,.rop (AO.row J) 0)] []<|CN (cs:=(Ai J)) R C0 (.inl R) R R,oM (λ_=>[]) (λ_=>[]) R λG1 e h' n=>BI (cs:=EC) 10 R Gq R R,Za⟩) λG1 n1=>?_
  refine BZ [2,5,6,7,8,9,10,15,16,17,18,19,20,21,22,23,24,25,26,27,28] [2,10,5005] ?_
  refine Zj R R (A5 (ds:=(Ai J)) R GY iL R iL R R R R)<|aZ<|ah _<|aT λal=>aT λan=>aG [2,5,6,7,8,10,15,16] [2,10,5005] ?_
  refine aR<|lF CP AI R R<|xU R<|aZ<|an _<|cI R h9 (λV=>?_) λV=>?_
  ·exact Zm<|C _ _ wk<|J2 _ _ _ (AH [(U 0),n1]) (Zf V).symm
  refine Zc<|al _<|aU<|lF Ji CR R R<|AE V λr2 ao aq=>cL (SV<|ao) R<|sQ R (EZ R iL iL)<|aZ<|cI R aq (λX=>?_) λX=>?_
  ·refine aU<|mM R<|AE X λO Z ar=>xA R Z<|mA R<|aZ<|aG [2,5,6,7,8,10,15,16] [2,10,5005] ?_
   refine aR<|mM R<|lF Da AI R R<|mM R ?_
   refine sQ R (Bu R Mw (q:=[(0,_),(1,_),(2,_)]) (by exact⟨R,R,R,iL,R,R,R,iL,R,R,R,iL,Za⟩) (cs:=[rI J.ID,rI O,rB true])<|by rfl) ?_
   exact sS R (Bj 43 R FE (f:=AP.row) (l:=([(AP.mk J.ID O true)]:List AP)) ⟨R,⟨_,iL,R⟩,Za⟩ R (λ_=>R) R)<|AE ar λax a0 au=>sS R (Cj R FE iL R (.inr<|.inl ⟨_,_,iL,R⟩) a0)<|mA R<|Zh<|C _ _ wk<|J2 _ _ _ (AH [(n1+1),(n1+2)]) (Zf au).symm
  refine aU<|mM R<|AE X λI M av=>xA R M<|mA R<|aZ<|aG [2,5,6,7,8,10,15,16] [2,10,5005] ?_
  refine aR<|mM R<|lF Da AI R R<|mM R ?_
  refine sQ R (Bu R Mw (q:=[(0,_),(1,_)]) (by exact⟨R,R,R,iL,R,R,R,iL,Za⟩) (cs:=[rI J.ID,rI I,rB false])<|by rfl) ?_
  exact sS R (Bj 52 R FE (f:=AP.row) (l:=([(AP.mk J.ID I false)]:List AP)) ⟨R,⟨_,iL,R⟩,Za⟩ R (λ_=>R) R)<|AE av λay a1 aw=>sS R (Cj R FE iL R (.inr<|.inl ⟨_,_,iL,R⟩) a1)<|mA R<|Zh<|C _ _ wk<|J2 _ _ _ (AH [(n1+1),(n1+2)]) (Zf aw).symm
 exact Zm<|a7 _ _ wk<|J1 _ (AH [(U 0),(U 1)])<|xH ab h4
theorem ef{d1 n r}(h:Ri d1 n=some r):Aa prog 3 [.agg [qb d1.Nodes],rI n] (rB r):=by
 unfold Ri at h
 refine mF func3 ntmps3 R λn0=>aU<|sS R (A6 (cs:=[qb d1.Nodes]) 2 R iL R R)<|mA R<|aZ<|aT λc2=>aU<|AE h λr1 F h1=>cL (Z1<|F) R<|sQ R (BE R iL)<|aZ<|cI R h1 (λI=>?_) λI=>?_
 ·exact zB I R id
 refine Zc<|c2 _<|aU<|xC Bz R<|mM R<|E4 I λC r3 J h3=>sS R (Cb (r:=.tup [qi C,rI r3]) (caps:=[]) (bs:=[.agg [qb d1.Nodes],rI n]) R iL R ⟨.inl ⟨iL,R⟩,.inl ⟨iL,R⟩,Za⟩ λ_=>VO<|J)<|mM R<|xX R<|xX R<|mA R<|mA R<|aZ<|aT λc6=>aT λc7=>aG [1,2,5,6] [2] ?_
 refine aR<|xC Bz R<|mM R<|AE h3 λf1 M h4=>cL (dl<|M) R<|mA R<|aZ<|c7 _<|aU<|mM R<|xU R<|aZ<|cI R h4 (λO=>?_) λO=>?_
 ·exact aU<|mM R<|mM R<|xQ R<|mM R<|vM R<|vQ R (DK R FE.slice<|iR R)<|vQ R (A4 R (iR R) iL)<|xN R<|mA R<|aZ<|Zl<|yB O R
 refine Zc<|c6 _<|aU<|xC Bz R<|mM R<|AE O λj l h6=>sS R (Cb (r:=qi j) (caps:=[]) (bs:=[.agg [qb d1.Nodes],rI n]) R iL R ⟨.inl ⟨iL,R⟩,.inl ⟨iL,R⟩,Za⟩ λ_=>ZK<|l)<|mA R<|aZ<|aT λT=>aT λU=>aF [5,6,8] ?_
 refine aR<|mM R<|xU R<|mM R<|vM R<|vQ R (DK R FE.slice<|iR R)<|vM R<|vQ R (DK R FE.slice<|iR R)<|vQ R (DJ R (iR R)<|iR R)<|xO R<|aZ<|U _<|cI R h6 (λV=>?_) λV=>?_
 ·exact zB V R id
 refine Zc<|T _<|aS λX Z w=>aT λa0=>aF [5,8] ?_
 refine aR<|mM R<|xL FE R<|mM R<|aZ<|a0 _<|Zg<|BS V λo1 A a1 a2=>?_
 have J1:∀(u2:Unit) (i5:NN),o1=.nrm u2→X ⟨[],[],(i5 0),58⟩:=by
  intro u2 i5 e
  have h8:=a1 _ e
  exact Z _<|zB h8 R id
 refine Zu (λ(x2:Int) E=>⟨[(5,qi C),(8,qi j),(44,rL C),(45,rI x2)],[],(E 0),58⟩) (AH [(n0+1)]) A wk ?_
 intro x2 E v1 a6 B
 have h9:K0 C j x2=some v1:=a6;unfold K0 at h9
 refine aU<|xS R<|aZ<|aT λa7=>cI R h9 (λm=>?_) λm=>?_
 ·refine Zc<|a7 _<|aT λa8=>Zg<|aU<|mM R<|mA R<|aZ<|aT λaa=>?_
  refine Zx BM (by kernel_rfl) ?_
  refine qP R (AM R iL)<|qP R (AM R iL)<|AE m λx4 ab ac=>qP R (A9 R FE.slice iL iL (λ_=>R) λ_=>ab)<|qP R (CN (cs:=[rI x4.Node,rI x4.Number,rB x4.End]) R S8 iL R R)<|qP R (AM R iL)<|qP R (AM R iL)<|AE ac λx5 ad ae=>qP R (A9 R FE.slice iL iL (λ_=>R) λ_=>ad)<|qP R (CN (cs:=[rI x5.Node,rI x5.Number,rB x5.End]) R S8 iL R R)<|qP R (L3 R Uo iL iL R)<|AQ.nil<|aa _<|cI R ae (λq=>?_) λq=>?_
  ·exact zB (a2 _<|xH B q) R id
  refine Zc<|a8 _<|aF [5,8,44,45] ?_
  exact aR<|AE q λx6 af ag=>xA R af<|mM R<|Zh<|Zr ag (AH [(E 0)]) wk
 exact Zm<|w _ _ wk<|J1 _ (AH [(E 0)])<|xH B m



end Go.Proofs.YtifgmfoihehlbaaGreatDoor.Al
