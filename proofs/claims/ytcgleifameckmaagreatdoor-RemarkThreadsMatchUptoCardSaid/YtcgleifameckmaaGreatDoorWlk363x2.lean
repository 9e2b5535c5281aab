/- Walks, as printed. -/
import Derived.Test.YtcgleifameckmaaGreatDoorWlk363
import Derived.Test.YtcgleifameckmaaGreatDoorProg
set_option linter.all false
set_option maxHeartbeats 4000000
set_option maxRecDepth 20000
set_option linter.unusedVariables false
namespace Go.Proofs.YtcgleifameckmaaGreatDoor.Al
open Go.Proofs Go.Proofs.Tryz
theorem ln{self:(List AC)->(List AC)->Int->Option (List AC)}(M:∀ {A:List AC} {I:List AC} {j:Int} {r:(List AC)} {l:Nat},self A I j=some r->BI prog 115 1 [qg I,rI j,.own 1000 l] (EY l A) (λrr h'=>∃(i:Nat->Nat),rr=.own 1000 (i 0)/\h'=(EY (i 0) r))){A:List AC}{I:List AC}{j:Int}{r:(List AC)}{l:Nat}(h:Ju self A I j=some r):BI prog 115 1 [qg I,rI j,.own 1000 l] (EY l A) (λrr h'=>∃(i:Nat->Nat),rr=.own 1000 (i 0)/\h'=(EY (i 0) r)):=by
 unfold Ju at h
 refine E0 func115 R R ntmps115 (Zw R) λn0=>aU<|AG R<|aU<|mA R<|AG R<|Zg<|BU h λo1 a0 az a6=>IE (λ(m:List UInt8) (q:Int) (w:List AC) B=>⟨[(0,qg I),(1,rI j),(2,.own 1000<|B 0),(7,rS m),(8,rI q)],(EY (B 0) w),(B 1),100⟩) (AI [l,n0]) a0 wk ?_
 intro m q w B v1 a7 a8
 have h1:GC I j self m q w=some v1:=a7;unfold GC at h1
 refine Zg<|aU<|AG R<|aS λK4 c4 aa=>AK R<|xL BV R<|mM R<|aZ<|Zg<|Bb h1 λo2 a1 ab=>?_
 have J2:∀(C:Int) (i9:NN),o2=C->K4 ⟨[(0,qg I),(1,rI j),(2,.own 1000<|B 0),(9,rI C)],(EY (B 0) w),(i9 0),100⟩:=by
  intro C i9 e
  have h2:=ab _ e
  refine c4 _<|aT λc6=>AK R<|xS R<|aZ<|cI R h2 (λh3=>?_) λh3=>?_
  .refine AK R<|AG R ?_
   exact Zj<|CB.mk (s':=⟨[(6,.own 1000<|B 0)],(EY (B 0) w),(i9 0),100⟩) wk<|Cc (λ(r:(List AC)) rr h'=>∃(i:Nat->Nat),rr=.own 1000 (i 0)/\h'=(EY (i 0) r)) (a6 _<|xH a8 h3)<|by exact⟨.own 1000<|B 0,(EY (B 0) w),R,⟨.inr R,Za⟩,R,R,AI [(B 0)],R,R⟩
  refine Zc<|c6 _<|aT λc9=>?_
  refine Zz BP (by kernel_rfl) ?_
  refine qP R (AM R iL)<|qP R (AM R iL)<|AE h3 λx4 O h4=>qP R (BN R BV.slice iL iL (λ_=>R) λ_=>O)<|qP R (BL R IL iL)<|qP R (Bm (d:=.str x4.Place) R BO iL R)<|qP R (AM R iL)<|qP R (AM R iL)<|qP R (BN R BV.slice iL iL (λ_=>R) λ_=>O)<|qP R (BL R Ef iL)<|qP R (Bm (d:=.int .i64 x4.Item) R AJ iL R)<|qP R (EL R iL)<|qP R (EL R iL)<|AQ.nil<|c9 _<|aG [0,1,2,7,8,9] [1000] ?_
  refine Ah R<|mM R<|mM R<|mM R<|mM R<|xI BV R O<|xB ((Cw x4)) Gr R<|sS R (CA 97 R BV (f:=AC.row) (l:=([x4]:List AC)) ⟨R,⟨_,iL,R⟩,Za⟩ R (λ_=>R) R)<|AE h4 λl2 ac h5=>sS R (DN R BV iL R (.inr<|.inl ⟨_,_,iL,R⟩) ac)<|AE h5 λw1 ad h6=>?_
  refine ZB [1000] (hc:=(EY ((i9 0)+1) l2)) (bs:=[qg I,rI x4.Item,.own 1000<|(i9 0)+1]) (caps:=[]) R R R R iL R ⟨.inl ⟨iL,R⟩,.inl ⟨iL,R⟩,.inl ⟨iL,R⟩,Za⟩ ⟨R,R,R,Za⟩ (by decide) (M ad) ?_
  intro ae n1
  refine Bi [0,1,7,8,9,90,91,93,94,95,96,97,99] [97,1000] ?_
  exact mA R<|Zh<|FL.mk h6 (AI [(ae 0),n1]) wk
 refine C0 (λ(E:Int) (x2:Int) X=>⟨[(0,qg I),(1,rI j),(2,.own 1000<|B 0),(7,rS m),(8,rI q),(9,rI E),(13,rL I),(14,rI x2)],(EY (B 0) w),(X 0),100⟩) (AI [(B 1)]) a1 wk ?_
 intro E x2 X v2 af ag
 have h7:JH I j m q E x2=some v2:=af;unfold JH at h7
 refine aU<|xS R<|Ar λah=>cI R h7 (λh8=>?_) λh8=>?_
 .refine Zc<|ah _<|aS λai aj J=>Zg<|Bb h8 λp1 ak al=>?_
  have J3:∀(F:Int) (T:NN),p1=F->ai ⟨[(0,qg I),(1,rI j),(2,.own 1000<|B 0),(7,rS m),(8,rI q),(9,rI F),(13,rL I),(14,rI x2)],(EY (B 0) w),(T 0),100⟩:=by
   intro F T e
   have h9:=al _ e
   exact aj _<|aR<|AE h9 λx5 an ao=>xA R an<|mM R<|Zh<|ZE ao (AI [(T 0)]) wk
  refine AK R<|AG R<|AK R<|mM R<|AE ak λZ aq ar=>xI BV R aq<|xB ((Cw Z)) Gr R<|sS R (BT (cs:=M8) 11 R PV R R)<|Zk R R (BF (ds:=(Cw Z)) R MP iL R iL R R R R)<|Ar λau=>aU<|lF MU AJ R R<|mM R<|xU R<|mM R<|vF IL BO R R<|vM R<|vQ R (Nr R (iR R)<|iR R)<|xO R<|mM R<|vF IL BO R R<|vM R<|vQ R (EM R (iR R)<|iR R)<|vQ R (AM R<|iR R)<|wQ R (fB R Ef iL fR R)<|wQ R (Ab (a:=rI Z.Item) R AJ (iR R) R R)<|wQ R (AM R iL)<|wQ R (FA R (iR R)<|iR R)<|vQ R (BZ R (iR R)<|iR R)<|xO R<|aZ<|cI R ar (λU=>?_) λU=>?_
  .exact Zm<|J _ _ wk<|J3 _ (AI [((X 0)+1)]) (Zf U).symm
  refine Zc<|au _<|aT λav=>aG [0,1,2,7,8,9,10,11,13,14] [11,1000] ?_
  refine Zz BP (by kernel_rfl) ?_
  refine qP R (AM R iL)<|qP R (B6 R iL iL)<|qP R (AM R iL)<|qO R (fB R IL iL fR R)<|qO R (Ab (a:=rS Z.Place) R BO (iR R) R R)<|qO R (AM R iL)<|qO R (AM R iL)<|AE U λx7 aw ax=>qO R (BN R BV.slice (iR R) (iR R) (λ_=>R)<|Af aw)<|qO R (BL R IL<|iR R)<|qO R (Bm (d:=.str x7.Place) R BO (iR R) R)<|qO R (Nr R (iR R)<|iR R)<|qP R (CS R iL<|iR R)<|qP R (AM R iL)<|qO R (fB R IL iL fR R)<|qO R (Ab (a:=rS Z.Place) R BO (iR R) R R)<|qO R (AM R iL)<|qO R (AM R iL)<|AE ax λx8 a2 ay=>qO R (BN R BV.slice (iR R) (iR R) (λ_=>R)<|Af a2)<|qO R (BL R IL<|iR R)<|qO R (Bm (d:=.str x8.Place) R BO (iR R) R)<|qO R (EM R (iR R)<|iR R)<|qO R (AM R<|iR R)<|qT R (fB R Ef iL fR R)<|qT R (Ab (a:=rI Z.Item) R AJ (iR R) R R)<|qT R (AM R iL)<|qT R (AM R iL)<|qT R (BN R BV.slice (iR R) (iR R) (λ_=>R) λh=>Af a2 (yt.1 h).1)<|qT R (BL R Ef<|iR R)<|qT R (Bm (d:=.int .i64 x8.Item) R AJ (iR R) R)<|qT R (B6 R (iR R)<|iR R)<|qO R (BZ R (iR R)<|iR R)<|qP R (CS R iL<|iR R)<|AQ.nil<|av _<|cI R ay (λV=>?_) λV=>?_
  .exact Ah R<|mA R<|Zh<|J _ _ wk<|J3 _ (AI [((X 0)+1)]) (Zf V).symm
  exact Zc<|J _ _ wk<|J3 _ (AI [((X 0)+1)]) (Zf V).symm
 exact Zm<|aa _ _ wk<|J2 _ (AI [(X 0)])<|xH ag h8
theorem ne(n:Nat):∀ {m:List AC} {q:List AC} {j:Int} {r:(List AC)} {l:Nat},Dq n m q j=some r->BI prog 115 1 [qg q,rI j,.own 1000 l] (EY l m) (λrr h'=>∃(i:Nat->Nat),rr=.own 1000 (i 0)/\h'=(EY (i 0) r)):=by
 induction n with
 | zero=>intro m q j r l h;exact absurd (show(none:Option ((List AC)))=some r from h)<|by simp
 | succ n w=>intro m q j r l h;exact ln (self:=λm q j=>Dq n m q j) (λA=>w A) h
theorem ja{m:List AC}{q:List AC}{j:Int}{r:(List AC)}{l:Nat}(h:QX m q j=some r):BI prog 115 1 [qg q,rI j,.own 1000 l] (EY l m) (λrr h'=>∃(i:Nat->Nat),rr=.own 1000 (i 0)/\h'=(EY (i 0) r)):=by
 unfold QX at h
 by_cases w:∃n r,Dq n m q j=some r
 .rw[zU w] at h;exact ne _ h
 .rw[WAM w] at h;cases h
theorem qN{l1 r}(h:LZ l1=some r):AY prog 68 [qf l1] (.tup [qg r.1,rI r.2]):=by
 unfold LZ at h
 refine mF func68 ntmps68 R λn0=>aU<|mA R<|AG R<|AK R<|FD h λB r2 a0 h1=>sS R (Dz (r:=.tup [qg B,qg r2]) (caps:=[]) (bs:=[qf l1]) R iL R ⟨.inl ⟨iL,R⟩,Za⟩ λ_=>pU<|a0)<|mM R<|xX R<|xX R<|mA R<|AG R<|aT λc3=>aF [4] ?_
 refine Ah R<|AE h1 λF a1 h2=>?_
 refine iC 7918 133 4 R [7918] (hc:=(EY n0 ([]:List AC))) (bs:=[qg B,rI 0,.own 1000 n0]) (caps:=[]) R R R R iL R ⟨.inl<|.inl ⟨iL,R⟩,.inl<|.inl ⟨iL,R⟩,.inr ⟨iL,R,R⟩,Za⟩ ⟨R,R,R,Za⟩ (by decide) (ja a1) ?_
 intro i1 n1
 refine Bi [4,17,18] [7918] ?_
 refine AG R<|c3 _<|AK R<|sQ R (H1 R BV.slice iL R)<|AG R<|aU<|AG R<|Zg<|BU h2 λo1 O ay a2=>C0 (λ(j:Int) (l:List AC) A=>⟨[(4,qg B),(6,.own 7918<|A 0),(7,rL F),(8,rI j)],(Tk (A 0) l),(A 1),73⟩) (AI [(i1 0),n1]) O wk ?_
 intro j l A v1 a6 a7
 have h3:IZ B F j l=some v1:=a6;unfold IZ at h3
 refine Zg<|aU<|AG R<|aS λK7 c7 a8=>AK R<|xL BV R<|mM R<|aZ<|Zg<|Bb h3 λo2 T aa=>?_
 have J2:∀(m:Int) (C:NN),o2=m->K7 ⟨[(4,qg B),(6,.own 7918<|A 0),(7,rL F),(9,rI m)],(Tk (A 0) l),(C 0),73⟩:=by
  intro m C e
  have h4:=aa _ e
  refine c7 _<|aT λc9=>AK R<|xS R<|aZ<|cI R h4 (λh5=>?_) λh5=>?_
  .exact AK R<|mM R<|mA R<|AG R<|Zj<|EI (P:=prog) (λ(r:(List AC) × Int)=>qg r.1) (λ(r:(List AC) × Int)=>rI r.2) (a2 _<|xH a7 h5) iL (.t<|.one<|.own R)<|.t<|.d R
  exact Zc<|c9 _<|AK R<|mM R<|AE h5 λx4 U h6=>xI BV R U<|sQ R (BL R Ef iL)<|xV (.int .i64 x4.Item) AJ R<|AG R<|Ah R<|mM R<|mM R<|xI BV R U<|xB ((Cw x4)) Gr R<|sS R (CA 71 R BV (f:=AC.row) (l:=([x4]:List AC)) ⟨R,⟨_,iL,R⟩,Za⟩ R (λ_=>R) R)<|AE h6 λax I h7=>sS R (DN R BV iL R (.inr<|.inl ⟨_,_,iL,R⟩) I)<|mA R<|Zh<|ZE h7 (AI [((C 0)+1),((C 0)+2)]) wk
 refine C0 (λ(q:Int) (Z:Int) i8=>⟨[(4,qg B),(6,.own 7918<|A 0),(7,rL F),(8,rI j),(9,rI q),(22,rL B),(23,rI Z)],(Tk (A 0) l),(i8 0),73⟩) (AI [(A 1)]) T wk ?_
 intro q Z i8 v2 ab ac
 have h8:LC B F j l q Z=some v2:=ab;unfold LC at h8
 refine aU<|xS R<|Ar λad=>cI R h8 (λh9=>?_) λh9=>?_
 .refine Zc<|ad _<|aS λae af E=>Zg<|Bb h9 λp1 ag ah=>?_
  have J3:∀(w:Int) (J:NN),p1=w->ae ⟨[(4,qg B),(6,.own 7918<|A 0),(7,rL F),(8,rI j),(9,rI w),(22,rL B),(23,rI Z)],(Tk (A 0) l),(J 0),73⟩:=by
   intro w J e
   have ai:=ah _ e
   exact af _<|aR<|AE ai λx5 aj ak=>xA R aj<|mM R<|Zh<|ZE ak (AI [(J 0)]) wk
  refine AK R<|AG R<|AK R<|mM R<|AE ag λx6 al an=>xI BV R al<|sQ R (BL R Ef iL)<|xV (.int .i64 x6.Item) AJ R<|AG R<|aT λao=>Ah R<|mM R<|sQ R (Bd R iL iL)<|mM R<|vM R<|vM R<|AE an λl2 V aq=>vQ R (l7 R BV.slice (iR R) R ⟨_,(iR R)⟩<|Af V)<|vM R<|AE aq λr3 ar au=>AN.stepW (.one R R R) R R (Db (r:=rI r3) (caps:=[]) (bs:=[.r<|.sl<|(l.take (F.length:Int).toNat).map AC.row,rI x6.Item]) R iL R ⟨⟨_,(iR R),.one<|.pre R R⟩,⟨_,(iR R),.d R⟩,Za⟩ (λX=>(tp<|(Af V) X) ▸ (λhg=>Pz<|Af ar hg) X) R)<|vQ R (B6 R (iR R) iL)<|xN R<|mM R<|vM R<|vQ R (B6 R (iR R) iL)<|vQ R (AM R<|iR R)<|wQ R (AM R iL)<|wQ R (AM R iL)<|wQ R (AM R iL)<|AE au λx7 av aw=>wQ R (BN R BV.slice (iR R) (iR R) (λ_=>R)<|Af av)<|wQ R (BL R Ef<|iR R)<|wQ R (Bm (d:=.int .i64 x7.Item) R AJ (iR R) R)<|wQ R (B6 R (iR R)<|iR R)<|vQ R (CS R (iR R)<|iR R)<|xN R<|aZ<|ao _<|cI R aw (λM=>?_) λM=>?_
  .refine aG [4,6,7,8,10,22,23] [7918] ?_
   exact Ah R<|mA R<|Zh<|E _ _ wk<|J3 _ (AI [(i8 0)]) (Zf M).symm
  exact Zc<|E _ _ wk<|J3 _ (AI [(i8 0)]) (Zf M).symm
 exact Zm<|a8 _ _ wk<|J2 _ (AI [(i8 0)])<|xH ac h9
theorem RB{j n r}(h:JS j n=some r):AY prog 11 [qa j,rS n] (rS r):=by
 unfold JS at h
 refine mF func11 ntmps11 R λZ=>aU<|AG R<|aS λK2 c2 A=>AK R<|xL BK R<|mM R<|aZ<|Zg<|BU h λo1 l B C=>?_
 have J1:∀(T:Unit) (U:NN),o1=.nrm T->K2 ⟨[],[],(U 0),24⟩:=by
  intro T U e
  have h1:=B _ e
  exact c2 _<|aU<|AG R<|Zj<|C3 (P:=prog) (λ(r:(List UInt8))=>rS r) h1 iL<|.t<|.d R
 refine Zv (λ(E:Int) w=>⟨[(0,qa j),(1,rS n),(7,rL j),(8,rI E)],[],(w 0),24⟩) (AI [Z]) l wk ?_
 intro E w v1 F m
 have V:N7 j n E=some v1:=F;unfold N7 at V
 refine aU<|xS R<|Ar λc6=>cI R V (λI=>?_) λI=>?_
 .refine Zc<|c6 _<|aT λc7=>Zg<|AK R<|AG R<|AK R<|mM R<|AE I λX q h4=>xI BK R q<|sQ R (BL R Ep iL)<|xV (.str X.Name) BO R<|mM R<|sQ R (EM R iL iL)<|aZ<|cI R h4 (λJ=>?_) λJ=>?_
  .refine aT λM=>aF [0,5] ?_
   exact Ah R<|mM R<|xI BK R q<|sQ R (BL R Jd iL)<|xV (.str X.Value) BO R<|AG R<|M _<|Zj<|C3 (P:=prog) (λ(r:(List UInt8))=>rS r) (C _<|xH m J) iL<|.t<|.d R
  refine Zc<|c7 _<|aF [0,1,7,8] ?_
  exact aR<|AE J λx5 O h6=>xA R O<|mM R<|Zh<|Zr h6 (AI [(w 0)]) wk
 exact Zm<|A _ _ wk<|J1 _ (AI [(w 0)])<|xH m I
theorem dE{l r}(h:Mm l=some r):AY prog 32 [rS l] (rI r):=by
 unfold Mm at h
 refine mF func32 ntmps32 R λn0=>aU<|AG R<|aT λc2=>AK R<|sQ R (EM R iL iL)<|mM R<|vM R<|vQ R (Df R underlying9<|iR R)<|vQ R (Bd R (iR R) iL)<|xO R<|mM R<|vM R<|AE h λa7 m h1=>vQ R (Ce R underlying9 (iR R) iL<|Af m)<|vQ R (BB R (iR R) iL)<|vQ R (AM R<|iR R)<|wQ R (AM R iL)<|wQ R (Df R underlying9<|iR R)<|wQ R (Bd R (iR R) iL)<|vQ R (BZ R (iR R)<|iR R)<|xO R<|aZ<|cI R h1 (λB=>?_) λB=>?_
 .exact zI B R id
 refine Zc<|c2 _<|aT λc5=>aF [0] ?_
 refine aR<|AG R<|c5 _<|aS λK6 c6 C=>AK R<|sQ R (Df R underlying9 iL)<|mM R<|aZ<|Zg<|BU B λo1 q E F=>?_
 have J1:∀(I:Int) (i5:NN),o1=.nrm I->K6 ⟨[(3,rI I)],[],(i5 0),47⟩:=by
  intro I i5 e
  have h3:=E _ e
  exact c6 _<|AK R<|AG R<|Zj<|yI h3 R
 refine C0 (λ(J:Int) (M:Int) A=>⟨[(0,rS l),(3,rI J),(23,rL l),(24,rI M)],[],(A 0),47⟩) (AI [n0]) q wk ?_
 intro J M A v1 O w
 have h4:HX l J M=some v1:=O;unfold HX at h4
 refine aU<|xS R<|Ar λT=>cI R h4 (λU=>?_) λU=>?_
 .refine Zc<|T _<|aT λV=>Zg<|AK R<|AG R<|aT λX=>AK R<|mM R<|AE U λa8 j h6=>sQ R (Ce R underlying9 iL iL λ_=>j)<|xS R<|mM R<|vM R<|vM R<|vQ R (Ce R underlying9 (iR R) (iR R) λ_=>j)<|vQ R (Bd R (iR R) iL)<|xO R<|aZ<|cI R h6 (λZ=>?_) λZ=>?_
  .exact zI (F _<|xH w Z) R id
  refine Zc<|X _<|Ah R<|AE Z λx4 a0 h8=>sQ R (ly R iL iL λ_=>a0)<|mM R<|mM R<|sQ R (Ce R underlying9 iL iL λ_=>j)<|sQ R (X5 R iL iL)<|sQ R (D3 R underlying5 underlying3 iL)<|AE h8 λn5 a1 h9=>xA R a1<|AG R<|V _<|aF [0,3,23,24] ?_
  exact aR<|AE h9 λx5 a2 a6=>xA R a2<|mM R<|Zh<|ZE a6 (AI [(A 0)]) wk
 exact Zm<|C _ _ wk<|J1 _ (AI [(A 0)])<|xH w U
theorem tW{self:(List Aj)->Ac->Aj->Option (List Aj)}(J:∀ {q:List Aj} {d1:Ac} {m:Aj} {r:(List Aj)} {j:Nat},self q d1 m=some r->BI prog 31 1 [.agg [qb d1.Nodes],.agg<|H6 m,.own 1000 j] (EO j q) (λrr h'=>∃(i:Nat->Nat),rr=.own 1000 (i 0)/\h'=(EO (i 0) r))){q:List Aj}{d1:Ac}{m:Aj}{r:(List Aj)}{j:Nat}(h:JU self q d1 m=some r):BI prog 31 1 [.agg [qb d1.Nodes],.agg<|H6 m,.own 1000 j] (EO j q) (λrr h'=>∃(i:Nat->Nat),rr=.own 1000 (i 0)/\h'=(EO (i 0) r)):=by
 unfold JU at h
 refine E0 func31 R R ntmps31 (Zw R) λl=>aU<|sS R (BD (cs:=[qb d1.Nodes]) 3 R iL R R)<|sS R (BD (cs:=(H6 m)) 4 R iL R R)<|AG R<|aT λc2=>AK R<|lF LP AJ R R<|AE h λr1 b2 h1=>cL (mB<|b2) R<|sQ R (DE R iL iL)<|aZ<|cI R h1 (λh2=>?_) λh2=>?_
 .refine aT λc4=>aG [2] [1000] ?_
  refine Ah R<|mA R<|oZ c4 ?_
  exact Zj<|CB.mk (s':=⟨[(6,.own 1000 j)],(EO j q),(l+2),157⟩) wk<|Cc (λ(r:(List Aj)) rr h'=>∃(i:Nat->Nat),rr=.own 1000 (i 0)/\h'=(EO (i 0) r)) h2<|by exact⟨.own 1000 j,(EO j q),R,⟨.inr R,Za⟩,R,R,AI [j],R,R⟩
 refine Zc<|c2 _<|AK R<|xC sX R<|sS R (CA 25 R Np (f:=Aj.row) (l:=([m]:List Aj)) ⟨R,⟨_,iL,R⟩,Za⟩ R (λ_=>R) R)<|AE h2 λd2 ac h3=>sS R (DN R Np iL R (.inr<|.inl ⟨_,_,iL,R⟩) ac)<|AG R<|aT λc6=>aG [2,3,4] [3,4,1000] ?_
 refine AE h3 λr2 b3 h4=>AE h4 λA b4 h5=>?_
 refine GZ 9 [pO 27<|pT 3 l,pO 28<|qb d1.Nodes,pO 29<|.agg [qb d1.Nodes],pO 30<|pT 4<|l+1,pO 31<|rI m.ID,pO 32<|rI r2,pO 33<|.rop (Ad.row A) 0,pO 34<|.agg<|A8 A,⟨some 7,(λI=>pT 7<|I 8),some (7,(λI=>some<|.box (I 8) 44 E7)),[8]⟩] BP (by kernel_rfl) (by exact⟨zN,zN,zN,zN,zN,zN,zN,zN,zS 8,Za⟩) R (by exact⟨oB [(3,pT 3 l)] (O6 l<|qb d1.Nodes)<|fB R CZ (.inl R) (λ_=>R) R,oB [(27,pT 3 l)] (O6 l<|qb d1.Nodes)<|Ab (a:=qb d1.Nodes) R Cf (.inl R) R R,oB [(3,pT 3 l)] (O6 l<|qb d1.Nodes)<|EW R CG (.inl R) R R,oB [(4,pT 4<|l+1)] [bX 4 (l+1) 47<|H6 m]<|fB R LP (.inl R) (λ_=>R) R,oB [(30,pT 4<|l+1)] [bX 4 (l+1) 47<|H6 m]<|Ab (a:=rI m.ID) R AJ (.inl R) R R,oD (λ_=>[(29,.agg [qb d1.Nodes]),(31,rI m.ID)]) (λ_=>[]) λI e h' n=>Db (r:=rI r2) (caps:=[]) (bs:=[.agg [qb d1.Nodes],rI m.ID]) R (.inl R) R ⟨⟨_,(.inl R),.g (cs:=[.sl<|d1.Nodes.map Ad.row]) R R⟩,⟨_,(.inl R),.d R⟩,Za⟩ (λ_=>QN<|b3) R,oB [(28,qb d1.Nodes),(32,rI r2)] []<|BN R B7.slice (.inl R) (.inl R) (λ_=>R) λ_=>b4,oB [(33,.rop (Ad.row A) 0)] []<|EB (cs:=(A8 A)) R D8 (.inl R) R R,oM (λ_=>[]) (λ_=>[]) R λI e h' n=>BT (cs:=E7) 7 R Ia R R,Za⟩) λI n1=>?_
 refine Bi [2,3,4,7,27,28,29,30,31,32,33,34] [3,4,7,1000] ?_
 refine Zk R R (BF (ds:=(A8 A)) R HV iL R iL R R R R)<|aZ<|c6 _<|aS λK7 c7 b5=>aU<|lF Ew E5 R R<|xL CN R<|mM R<|aZ<|Zg<|Bb h5 λo1 aj b6=>?_
 have J1:∀(a2:List Aj) (i5:NN),o1=a2->K7 ⟨[(2,.own 1000<|i5 0),(3,pT 3 l),(4,pT 4<|l+1),(7,pT 7<|I 8)],(MN l (qb d1.Nodes) (l+1) m (I 8) A (i5 0) a2),(i5 1),157⟩:=by
  intro a2 i5 e
  have h6:=b6 _ e
  refine c7 _<|aS λK9 c9 b7=>aU<|sQ R (fB R Ej iL fR R)<|lF EU Ek R R<|xL CD R<|mM R<|aZ<|Zg<|Bb h6 λo2 ak b8=>?_
  have J2:∀(M:List Aj) (Z:NN),o2=M->K9 ⟨[(2,.own 1000<|Z 0),(3,pT 3 l),(4,pT 4<|l+1),(7,pT 7<|I 8)],(MN l (qb d1.Nodes) (l+1) m (I 8) A (Z 0) M),(Z 1),157⟩:=by
   intro M Z e
   have h7:=b8 _ e
   refine c9 _<|aU<|lF HF Ic R R<|FD h7 λr3 r4 b9 h8=>sS R (Dz (r:=.tup [qg r3,rI r4]) (caps:=[]) (bs:=[qf A.Draw]) R iL R ⟨.inl ⟨iL,R⟩,Za⟩ λ_=>qN<|b9)<|mM R<|xX R<|xX R<|mA R<|AG R<|aS λba bb al=>AK R<|mM R<|aZ<|Zg<|Bb h8 λo3 an bc=>?_
   have J3:∀(w:List Aj) (B:NN),o3=w->ba ⟨[(2,.own 1000<|B 0)],(EO (B 0) w),(B 1),157⟩:=by
    intro w B e
    have h9:=bc _ e
    refine bb _<|AK R<|AG R ?_
    exact Zj<|CB.mk (s':=⟨[(6,.own 1000<|B 0)],(EO (B 0) w),(B 1),157⟩) wk<|Cc (λ(r:(List Aj)) rr h'=>∃(i:Nat->Nat),rr=.own 1000 (i 0)/\h'=(EO (i 0) r)) h9<|by exact⟨.own 1000<|B 0,(EO (B 0) w),R,⟨.inr R,Za⟩,R,R,AI [(B 0)],R,R⟩
   refine C0 (λ(x9:Int) (F:List Aj) C=>⟨[(2,.own 1000<|C 0),(3,pT 3 l),(4,pT 4<|l+1),(12,qg r3),(117,rI r4),(118,rI x9)],[bX 3 l 24 [qb d1.Nodes],bX 4 (l+1) 47<|H6 m,aX 1000 (C 0) 47 3<|F.map Aj.row],(C 1),157⟩) (AI [(Z 0),(Z 1)]) an wk ?_
   intro x9 F C v1 bd be
   have ao:Fx d1 m self r3 r4 x9 F=some v1:=bd;unfold Fx at ao
   refine aU<|xS R<|Ar λbf=>cI R ao (λad=>?_) λad=>?_
   .refine Zc<|bf _<|aS λbg bh a7=>Zg<|Bb ad λp1 bi bj=>?_
    have J4:∀(O:List Aj) (i16:NN),p1=O->bg ⟨[(2,.own 1000<|i16 0),(3,pT 3 l),(4,pT 4<|l+1),(12,qg r3),(117,rI r4),(118,rI x9)],[bX 3 l 24 [qb d1.Nodes],bX 4 (l+1) 47<|H6 m,aX 1000 (i16 0) 47 3<|O.map Aj.row],(i16 1),157⟩:=by
     intro O i16 e
     have bk:=bj _ e
     exact bh _<|aR<|AE bk λd3 aq bl=>xA R aq<|mM R<|Zh<|ZE bl (AI [(i16 0),(i16 1)]) wk
    refine AK R<|AG R<|AK R<|mM R<|AE bi λbm ar bn=>xI BV R ar<|sQ R (BL R Kk iL)<|xV (.sl<|bm.Attrs.map AH.row) Cq R<|AE bn λr5 bo bp=>cL (RB<|bo) R<|AE bp λau av bq=>cL (dE<|av) R<|AG R<|aT λbr=>aG [2,3,4,12,15,117,118] [3,4,1000] ?_
    refine aR<|xC CG R<|mM R<|AE bq λk1 bs bt=>cL (QN<|bs) R<|AG R<|br _<|AK R<|sQ R (Bd R iL iL)<|mM R<|vM R<|vQ R (DE R (iR R) iL)<|xN R<|mM R<|vF CZ Cf R R<|vM R<|AE bt λbu aw bv=>vQ R (BN R B7.slice (iR R) (iR R) (λ_=>R)<|Af aw)<|vQ R (BL R CH<|iR R)<|vQ R (Bm (d:=.int .i64 bu.Kind) R AJ (iR R) R)<|vQ R (BB R (iR R) iL)<|xN R<|aZ<|cI R bv (λae=>?_) λae=>?_
    .refine aG [2,3,4,12,15,117,118] [3,4,1000] ?_
     refine aR<|xC CG R<|mM R<|lF LP AJ R R<|lF Ur JM R R ?_
     refine sQ R (Ch R Q0 (q:=[(0,_),(1,_),(2,_)]) (by exact⟨R,R,R,iL,R,R,R,iL,R,R,R,iL,Za⟩) (cs:=[rI au,rI m.ID,rB m.Visible])<|by rfl) ?_
     refine mM R<|AE ae λw1 bw bx=>?_
     refine ZB [1000] (hc:=(EO (C 0) F)) (bs:=[.agg [qb d1.Nodes],.agg [rI au,rI m.ID,rB m.Visible],.own 1000<|C 0]) (caps:=[]) R R R R iL R ⟨.inl ⟨iL,R⟩,.inl ⟨iL,R⟩,.inl ⟨iL,R⟩,Za⟩ ⟨R,R,R,Za⟩ (by decide) (J bw) ?_
     intro bz n2
     refine Bi [3,4,12,15,117,118,146,147,148,149,150,151,152,154] [3,4,1000] ?_
     exact mA R<|Zh<|a7 _ _ wk<|J4 _ (AI [(bz 0),n2]) (Zf bx).symm
    exact Zc<|a7 _ _ wk<|J4 _ (AI [(C 0),(C 1)]) (Zf ae).symm
   exact Zm<|al _ _ wk<|J3 _ (AI [(C 0),(C 1)])<|xH be ad
  refine C0 (λ(x6:Int) (V:List Aj) i8=>⟨[(2,.own 1000<|i8 0),(3,pT 3 l),(4,pT 4<|l+1),(7,pT 7<|I 8),(66,rL A.Grid.Cells),(67,rI x6)],(MN l (qb d1.Nodes) (l+1) m (I 8) A (i8 0) V),(i8 1),157⟩) (AI [(i5 0),(i5 1)]) ak wk ?_
  intro x6 V i8 v2 c0 c1
  have ax:F4 d1 m self A x6 V=some v2:=c0;unfold F4 at ax
  refine aU<|xS R<|Ar λc3=>cI R ax (λaf=>?_) λaf=>?_
  .refine Zc<|c3 _<|aS λc5 c8 a8=>Zg<|Bb af λp2 ca cb=>?_
   have J5:∀(T:List Aj) (a0:NN),p2=T->c5 ⟨[(2,.own 1000<|a0 0),(3,pT 3 l),(4,pT 4<|l+1),(7,pT 7<|I 8),(66,rL A.Grid.Cells),(67,rI x6)],(MN l (qb d1.Nodes) (l+1) m (I 8) A (a0 0) T),(a0 1),157⟩:=by
    intro T a0 e
    have cc:=cb _ e
    exact c8 _<|aR<|AE cc λd4 ay cd=>xA R ay<|mM R<|Zh<|ZE cd (AI [(a0 0),(a0 1)]) wk
   refine AK R<|AG R<|aU<|sQ R (fB R Ej iL fR R)<|lF EU Ek R R<|mM R<|AE ca λE az cf=>xI CD R az<|xB ((B2 E)) FR R<|sS R (BT (cs:=Iz) 10 R IP R R)<|Zk R R (BF (ds:=(B2 E)) R Ih iL R iL R R R R)<|Ar λcg=>aG [2,3,4,7,10,66,67] [3,4,7,10,1000] ?_
   refine aR<|lF Ez AJ R R<|xU R<|aZ<|cg _<|cI R cf (λag=>?_) λag=>?_
   .refine aU<|sQ R (fB R Ej iL fR R)<|sQ R (LN (ds:=(CY A.Grid)) R Jj iL R R R)<|lF FU AJ R R<|lF Ft AJ R R<|AE ag λr6 ch cj=>sS R (Dz (r:=.agg<|BY r6) (caps:=[]) (bs:=[.agg<|CY A.Grid,rI E.Row,rI E.Col]) R iL R ⟨.inl ⟨iL,R⟩,.inl ⟨iL,R⟩,.inl ⟨iL,R⟩,Za⟩ λ_=>oE<|ch)<|sS R (BT (cs:=F6) 11 R IW R R)<|Zk R R (BF (ds:=(BY r6)) R Gu iL R iL R R R R)<|aZ<|aG [2,3,4,7,10,11,66,67] [3,4,7,10,11,1000] ?_
    refine aR<|xC CG R<|lF Ez AJ R R<|lF LP AJ R R<|lF Ur JM R R<|mM R<|vF Cz AJ R R<|vF FU AJ R R<|vQ R (BB R (iR R)<|iR R)<|xN R<|mM R<|vF DV AJ R R<|vF Ft AJ R R<|vQ R (BB R (iR R)<|iR R)<|xN R ?_
    refine sQ R (Ch R Q0 (q:=[(0,_),(1,_),(2,_)]) (by exact⟨R,R,R,iL,R,R,R,iL,R,R,R,iL,Za⟩) (cs:=[rI E.Ref,rI m.ID,rB<|((m.Visible&&(r6.Row=E.Row))&&(r6.Col=E.Col))])<|by rfl) ?_
    refine mM R<|AE cj λw2 ck cl=>?_
    refine ZB [1000] (hc:=(EO (i8 0) V)) (bs:=[.agg [qb d1.Nodes],.agg [rI E.Ref,rI m.ID,rB<|((m.Visible&&(r6.Row=E.Row))&&(r6.Col=E.Col))],.own 1000<|i8 0]) (caps:=[]) R R R R iL R ⟨.inl ⟨iL,R⟩,.inl ⟨iL,R⟩,.inl ⟨iL,R⟩,Za⟩ ⟨R,R,R,Za⟩ (by decide) (J ck) ?_
    intro cm n3
    refine Bi [3,4,7,10,11,66,67,86,87,88,89,90,91,92,93,99,100,106,107,109] [3,4,7,10,11,1000] ?_
    exact mA R<|Zh<|a8 _ _ wk<|J5 _ (AI [(cm 0),n3]) (Zf cl).symm
   exact Zc<|a8 _ _ wk<|J5 _ (AI [(i8 0),((i8 1)+1)]) (Zf ag).symm
  exact Zm<|b7 _ _ wk<|J2 _ (AI [(i8 0),(i8 1)])<|xH c1 af
 refine C0 (λ(x3:Int) (X:List Aj) i3=>⟨[(2,.own 1000<|i3 0),(3,pT 3 l),(4,pT 4<|l+1),(7,pT 7<|I 8),(37,rL A.Flow),(38,rI x3)],(MN l (qb d1.Nodes) (l+1) m (I 8) A (i3 0) X),(i3 1),157⟩) (AI [(l+3),n1]) aj wk ?_
 intro x3 X i3 v3 cn cp
 have b0:Fw d1 m self A x3 X=some v3:=cn;unfold Fw at b0
 refine aU<|xS R<|Ar λcq=>cI R b0 (λah=>?_) λah=>?_
 .refine Zc<|cq _<|aS λcr cs aa=>Zg<|Bb ah λp3 ct cu=>?_
  have J6:∀(U:List Aj) (a1:NN),p3=U->cr ⟨[(2,.own 1000<|a1 0),(3,pT 3 l),(4,pT 4<|l+1),(7,pT 7<|I 8),(37,rL A.Flow),(38,rI x3)],(MN l (qb d1.Nodes) (l+1) m (I 8) A (a1 0) U),(a1 1),157⟩:=by
   intro U a1 e
   have cv:=cu _ e
   exact cs _<|aR<|AE cv λd5 b1 cw=>xA R b1<|mM R<|Zh<|ZE cw (AI [(a1 0),(a1 1)]) wk
  refine AK R<|AG R<|aU<|lF Ew E5 R R<|mM R<|AE ct λa6 ab cx=>xI CN R ab<|sQ R (BL R EP iL)<|xV (.int .i64 a6.Ref) AJ R<|xU R<|aZ<|cI R cx (λai=>?_) λai=>?_
  .refine aG [2,3,4,7,8,37,38] [3,4,7,1000] ?_
   refine iB 13 BP (by kernel_rfl) R R ?_
   refine AT.step R R R (EW R CG iL R R)<|AT.step R R R (fB R Ew iL fR R)<|AT.step R R R (Ab (a:=qe A.Flow) R E5 iL R R)<|AT.step R R R (AM R iL)<|AT.step R R R (BN R CN.slice iL iL (λ_=>R) λ_=>ab)<|AT.step R R R (BL R EP iL)<|AT.step R R R (Bm (d:=.int .i64 a6.Ref) R AJ iL R)<|AT.step R R R (fB R LP iL fR R)<|AT.step R R R (Ab (a:=rI m.ID) R AJ iL R R)<|AT.step R R R (fB R Ur iL fR R)<|AT.step R R R (Ab (a:=rB m.Visible) R JM iL R R) ?_
   refine AT.step R R R (Ch R Q0 (q:=[(0,_),(1,_),(2,_)]) (by exact⟨R,R,R,iL,R,R,R,iL,R,R,R,iL,Za⟩) (cs:=[rI a6.Ref,rI m.ID,rB m.Visible])<|by rfl) ?_
   refine AT.step R R R (AM R iL)<|AT.nil<|AE ai λw3 cy cz=>?_
   refine ZB [1000] (hc:=(EO (i3 0) X)) (bs:=[.agg [qb d1.Nodes],.agg [rI a6.Ref,rI m.ID,rB m.Visible],.own 1000<|i3 0]) (caps:=[]) R R R R iL R ⟨.inl ⟨iL,R⟩,.inl ⟨iL,R⟩,.inl ⟨iL,R⟩,Za⟩ ⟨R,R,R,Za⟩ (by decide) (J cy) ?_
   intro d0 n4
   refine Bi [3,4,7,8,37,38,48,49,50,51,52,53,54,55,56,57,58,59,61] [3,4,7,1000] ?_
   exact mA R<|Zh<|aa _ _ wk<|J6 _ (AI [(d0 0),n4]) (Zf cz).symm
  exact Zc<|aa _ _ wk<|J6 _ (AI [(i3 0),(i3 1)]) (Zf ai).symm
 exact Zm<|b5 _ _ wk<|J1 _ (AI [(i3 0),(i3 1)])<|xH cp ah
theorem nJ(n:Nat):∀ {l:List Aj} {d1:Ac} {m:Aj} {r:(List Aj)} {j:Nat},CM n l d1 m=some r->BI prog 31 1 [.agg [qb d1.Nodes],.agg<|H6 m,.own 1000 j] (EO j l) (λrr h'=>∃(i:Nat->Nat),rr=.own 1000 (i 0)/\h'=(EO (i 0) r)):=by
 induction n with
 | zero=>intro l d1 m r j h;exact absurd (show(none:Option ((List Aj)))=some r from h)<|by simp
 | succ n q=>intro l d1 m r j h;exact tW (self:=λl d1 m=>CM n l d1 m) (λw=>q w) h
theorem oL{l:List Aj}{d1:Ac}{m:Aj}{r:(List Aj)}{j:Nat}(h:TI l d1 m=some r):BI prog 31 1 [.agg [qb d1.Nodes],.agg<|H6 m,.own 1000 j] (EO j l) (λrr h'=>∃(i:Nat->Nat),rr=.own 1000 (i 0)/\h'=(EO (i 0) r)):=by
 unfold TI at h
 by_cases q:∃n r,CM n l d1 m=some r
 .rw[zU q] at h;exact nJ _ h
 .rw[WAM q] at h;cases h
theorem ts{d1 r}(h:QL d1=some r):AY prog 8 [.agg [qb d1.Nodes]] (qj r):=by
 unfold QL at h
 refine mF func8 ntmps8 R λl=>aU<|sS R (BD (cs:=[qb d1.Nodes]) 1 R iL R R)<|AG R<|aT λm=>aR<|xC CG R ?_
 refine sQ R (Ch R Q0 (q:=[(0,_),(1,_),(2,_)]) (by exact⟨R,R,R,iL,R,R,R,iL,R,R,R,iL,Za⟩) (cs:=[rI 1,rI 0,rB true])<|by rfl) ?_
 refine AE h λw j q=>?_
 refine iC 7905 47 3 R [7905] (hc:=(EO (l+1) ([]:List Aj))) (bs:=[.agg [qb d1.Nodes],.agg [rI 1,rI 0,rB true],.own 1000<|l+1]) (caps:=[]) R R R R iL R ⟨.inl<|.inl ⟨iL,R⟩,.inl<|.inl ⟨iL,R⟩,.inr ⟨iL,R,R⟩,Za⟩ ⟨R,R,R,Za⟩ (by decide) (oL j) ?_
 intro A B
 refine Bi [0,1,2,3,4,5] [1,7905] ?_
 exact AG R<|m _<|Zj<|C3 (P:=prog) (λ(r:(List Aj))=>qj r) q iL<|.t<|.one<|.own R
theorem ur{n1 r}(h:Om n1=some r):AY prog 12 [rI n1] (rS r):=by
 unfold Om at h
 refine mF func12 ntmps12 R λn0=>aU<|AG R<|aU<|AG R<|aS λK3 c3 B=>AK R<|xS R<|aZ<|Bb h λp1 C J=>?_
 have J1:∀(j:List UInt8) (M:NN),p1=j->K3 ⟨[(0,rI n1),(3,rS j)],[],(M 0),30⟩:=by
  intro j M e
  have h1:=J _ e
  refine c3 _<|aU<|AG R<|aS λK6 c6 O=>Zg<|Bb h1 λo1 E T=>?_
  have J2:∀(l:List UInt8) (i6:NN),o1=l->K6 ⟨[(3,rS j),(4,rS l)],[],(i6 0),30⟩:=by
   intro l i6 e
   have h2:=T _ e
   exact c6 _<|AK R<|mM R<|AE h2 λs1 U h3=>sQ R (R0 R iL iL λ_=>U)<|AG R<|Zj<|C3 (P:=prog) (λ(r:(List UInt8))=>rS r) h3 iL<|.t<|.d R
  refine C0 (λ(V:Int) (m:List UInt8) I=>⟨[(0,rI V),(3,rS j),(4,rS m)],[],(I 0),30⟩) (AI [(M 0)]) E wk ?_
  intro V m I v1 X Z
  have h4:GI V m=some v1:=X;unfold GI at h4
  refine aT λc8=>AK R<|sQ R (EM R iL iL)<|mM R<|vM R<|vQ R (Cm R (iR R) iL)<|xO R<|aZ<|cI R h4 (λh5=>?_) λh5=>?_
  .refine Zc<|c8 _<|Zg<|AK R<|AE h5 λx1 F h6=>sQ R (ZQ R iL iL λ_=>F)<|mM R<|sQ R (ZQ R iL iL λ_=>F)<|AE h6 λx2 a0 h7=>sQ R (uI R iL λ_=>a0)<|sQ R (R5 R iL iL)<|AE h7 λx3 a1 h8=>xA R a1<|sQ R (D3 R underlying3 underlying5 iL)<|sS R (CA 21 R oo (f:=(Ai .u8)) (l:=([(IntKind.u8.wrap x3)]:List Int)) ⟨R,⟨_,iL,R⟩,Za⟩ R (λ_=>R) R)<|sS R (kX (ys:=[(IntKind.u8.wrap x3)]) R underlying92 underlying5 underlying9<|.inr<|.inl ⟨_,_,iL,R⟩)<|mM R<|AE h8 λa7 q h9=>sQ R (R0 R iL iL λ_=>q)<|AG R<|aF [0,3,4] ?_
   exact Ah R<|AE h9 λn5 a2 a6=>sQ R (rV R iL iL λ_=>a2)<|mA R<|Zh<|ZE a6 (AI [((I 0)+1)]) wk
  exact Zm<|O _ _ wk<|J2 _ (AI [(I 0)])<|xH Z h5
 refine aC R (λw=>?_) λw=>?_
 .have A:=D2 w C
  exact aR<|mA R<|Zh<|B _ _ wk<|J1 _ (AI [n0]) (Zf A).symm
 .have A:=Dw w C
  exact Zc<|B _ _ wk<|J1 _ (AI [n0]) (Zf A).symm
theorem vb{w:List Ae}{n1:Ad}{r:(List Ae)}{j:Nat}(h:Ov w n1=some r):BI prog 13 1 [.own 1000 j,.agg<|A8 n1] (Hn j w) (λrr h'=>∃(i:Nat->Nat),rr=.own 1000 (i 0)/\h'=(Hn (i 0) r)):=by
 unfold Ov at h
 refine E0 func13 R R ntmps13 (Zw R) λl=>aU<|sS R (BD (cs:=(A8 n1)) 3 R iL R R)<|AG R<|aU<|lF KE Cq R R<|AE h λr1 aa h1=>cL (RB<|aa) R<|AE h1 λA V h2=>cL (dE<|V) R<|AG R<|aS λK3 c3 ab=>AK R<|sQ R (UI R De.slice iL R)<|mM R<|aZ<|Zg<|BU h2 λo1 X ac ad=>?_
 have J1:∀(u2:Unit) (i5:NN),o1=.nrm u2->K3 ⟨[(0,.own 1000 j),(3,pT 3 l)],(RG l n1 j w),(i5 0),74⟩:=by
  intro u2 i5 e
  have h3:=ac _ e
  refine c3 _<|aT λc5=>AE h3 λB ae h4=>?_
  refine GZ 9 [pO 64<|.own 1000 j,pO 65<|pT 3 l,pO 66<|rI n1.ID,pO 67<|.ptr 3 l 0 2,pO 68<|qa n1.Attrs,pO 69<|rS B,pO 70<|rB<|(decide<|B=[111,110]),pO 71<|.agg [rI n1.ID,cZ,rB<|(decide<|B=[111,110])],⟨some 72,(λJ=>.own 72<|J 8),some (72,(λJ=>some<|.rr (J 8) 60 3 1 3 1 none<|[(Ae.mk n1.ID []<|decide<|B=[111,110])].map Ae.row)),[8]⟩] BP (by kernel_rfl) (by exact⟨zN,zN,zN,zN,zN,zN,zN,zN,zS 8,Za⟩) R (by exact⟨oB [(0,.own 1000 j)] (Hn j w)<|AM R<|.inl R,oB [(3,pT 3 l)] (Q8 l n1)<|fB R Ea (.inl R) (λ_=>R) R,oB [(65,pT 3 l)] (Q8 l n1)<|Ab (a:=rI n1.ID) R AJ (.inl R) R R,oB [(3,pT 3 l)] (Q8 l n1)<|fB R KE (.inl R) (λ_=>R) R,oB [(67,.ptr 3 l 0 2)] (Q8 l n1)<|Ab (a:=qa n1.Attrs) R Cq (.inl R) R R,oD (λ_=>[(68,qa n1.Attrs)]) (λ_=>[]) λJ e h' n=>Db (r:=rS B) (caps:=[]) (bs:=[qa n1.Attrs,.r<|.str [100,111,110,101]]) R (.inl R) R ⟨⟨_,(.inl R),.d R⟩,⟨_,(.inl R),.d R⟩,Za⟩ (λ_=>RB<|ae) R,oB [(69,rS B)] []<|EM R (.inl R)<|.inl R,oB [(66,rI n1.ID),(70,rB<|(decide<|B=[111,110]))] []<|Ch R fU (q:=[(0,_),(2,_)]) (by exact⟨R,R,R,(.inl R),R,R,R,(.inl R),Za⟩) (cs:=[rI n1.ID,cZ,rB<|(decide<|B=[111,110])])<|by rfl,oM (λ_=>[(71,.agg [rI n1.ID,cZ,rB<|(decide<|B=[111,110])])]) (λ_=>[]) R λJ e h' n=>Z9 (e2:=3) (sz2:=1) (col:=1) (f:=Ae.row) (v:=(Ae.mk n1.ID []<|decide<|B=[111,110])) 72 R De R (.inl R) R R R R R R,Za⟩) λJ I=>?_
  refine Bi [0,3,64,65,66,67,68,69,70,71,72] [3,72,1000] ?_
  refine AN.weak (Zn (Qu (f:=Ae.row) (f2:=(Ai .i64)) 72 20072 (0:Int) R R R R R)<|by exact AZ.cv (e':=[(0,.own 1000 j),(3,pT 3 l),(64,.own 1000 j),(65,pT 3 l),(66,rI n1.ID),(67,.ptr 3 l 0 2),(68,qa n1.Attrs),(69,rS B),(70,rB<|(decide<|B=[111,110])),(71,.agg [rI n1.ID,cZ,rB<|(decide<|B=[111,110])]),(72,.own 72<|J 8)]) (h':=[bX 3 l 44<|A8 n1,(72,some<|.rr (J 8) 60 3 1 3 1 (some ((0:Int).toNat,20072,I))<|[(Ae.mk n1.ID []<|decide<|B=[111,110])].map Ae.row),(1000,some<|.rr j 60 3 1 3 1 none<|w.map Ae.row),aX 20072 I 3 1<|((Ae.mk n1.ID []<|decide<|B=[111,110]).Replies).map<|Ai .i64]) ⟨jL,jL,jL,jL,jL,jL,jL,jL,jL,jL,jL,Za⟩ ⟨.inl R,.inl R,.inl R,.inl R,Za⟩ nL) ?_
  refine AE h4 λl2 Z h5=>sS R (gV R De iL R iL R Z) ?_
  refine AN.weak (Zn (T4 (f:=Ae.row) (f2:=(Ai .i64)) 1000 20072 (w.length:Int) R R R (ci Z) R)<|by exact AZ.cv (e':=[(3,pT 3 l),(65,pT 3 l),(66,rI n1.ID),(67,.ptr 3 l 0 2),(68,qa n1.Attrs),(69,rS B),(70,rB<|(decide<|B=[111,110])),(71,.agg [rI n1.ID,cZ,rB<|(decide<|B=[111,110])]),(73,.own 1000<|I+1)]) (h':=(RG l n1 (I+1) l2)) ⟨jL,jL,jL,jL,jL,jL,jL,jL,jL,Za⟩ ⟨.inl R,.inl R,Za⟩ nL) ?_
  refine mA R<|oZ c5 ?_
  exact Zj<|CB.mk (s':=⟨[(4,.own 1000<|I+1)],(Hn (I+1) l2),(I+2),74⟩) wk<|Cc (λ(r:(List Ae)) rr h'=>∃(i:Nat->Nat),rr=.own 1000 (i 0)/\h'=(Hn (i 0) r)) h5<|by exact⟨.own 1000<|I+1,(Hn (I+1) l2),R,⟨.inr R,Za⟩,R,R,AI [(I+1)],R,R⟩
 refine Zv (λ(m:Int) M=>⟨[(0,.own 1000 j),(3,pT 3 l),(5,rI A),(14,rL w),(15,rI m)],(RG l n1 j w),(M 0),74⟩) (AI [(l+1)]) X wk ?_
 intro m M v1 af a0
 have h6:Kx w n1 A m=some v1:=af;unfold Kx at h6
 refine aU<|xS R<|Ar λc7=>cI R h6 (λh7=>?_) λh7=>?_
 .refine Zc<|c7 _<|aT λc8=>Zg<|AK R<|AG R<|AK R<|mM R<|AE h7 λC q h8=>sQ R (H9 R De.slice iL R iL λ_=>q)<|sQ R (CO (ob:=.rr _ _ _ _ _ _ _ _) R VG iL fR R)<|sQ R (XF (d:=.int .i64 C.Remark) R AJ iL R R (λ_=>q) R)<|mM R<|xQ R<|AG R<|aS λag ah a1=>aT λai=>aG [0,3,5,6,7,14,15] [3,1000] ?_
  refine Ah R<|mM R<|sQ R (H9 R De.slice iL R iL λ_=>q)<|sQ R (CO (ob:=.rr _ _ _ _ _ _ _ _) R Js iL fR R) ?_
  refine AN.weak (Zn (Qu (f:=Ae.row) (f2:=(Ai .i64)) 1000 21000 m R R R q R)<|by exact AZ.cv (e':=[(0,.own 1000 j),(3,pT 3 l),(5,rI A),(6,rI m),(7,rB<|(decide<|C.Remark=A)),(14,rL w),(15,rI m),(25,.own 1000 j),(26,rI m),(27,.ptr 1000 j m.toNat 0),(28,.ptr 1000 j m.toNat 1)]) (h':=(W6 l n1 j m.toNat (M 0) w<|C.Replies.map<|Ai .i64)) ⟨jL,jL,jL,jL,jL,jL,jL,jL,jL,jL,jL,Za⟩ ⟨.inl R,.inl R,.inl R,Za⟩ nL) ?_
  refine sQ R (OY R Ml iL R λ_=>q)<|sQ R (H1 R Bo.slice iL R)<|mM R<|aZ<|ai _<|Zg<|Bb h8 λo2 a2 aj=>?_
  have J2:∀(E:Bool) (F:NN),o2=E->ag ⟨[(0,.own 1000 j),(3,pT 3 l),(5,rI A),(6,rI m),(7,rB E),(14,rL w),(15,rI m)],(W6 l n1 j m.toNat (M 0) w<|C.Replies.map<|Ai .i64),(F 0),74⟩:=by
   intro E F e
   have h9:=aj _ e
   refine ah _<|AK R<|aZ<|cI R h9 (λO=>?_) λO=>?_
   .refine aT λak=>?_
    refine Xa [0,1] [2,3,4,5,6,7,8] [9] 10 BP (by kernel_rfl) R R R R R ?_
    refine Fj.move R R R R<|Fj.move R R R R<|Fj.nil<|AF.step R R R (AM R iL)<|AF.step R R R (AM R iL)<|AF.step R R R (H9 R De.slice iL R iL λ_=>q)<|AF.step R R R (CO (ob:=.rr _ _ _ _ _ _ _ _) R Js iL fR R)<|AF.step R R R (OY R Ml iL R λ_=>q)<|AF.step R R R (fB R Ea iL fR R)<|AF.step R R R (Ab (a:=rI n1.ID) R AJ iL R R)<|AF.nil<|AA.step R R R (dI 58 R Bo (f:=(Ai .i64)) (l:=([n1.ID]:List Int)) ⟨R,⟨_,iL,R⟩,Za⟩ R (λ_=>R) R)<|AA.nil<|AE O λl3 al an=>sS R (DN R Bo iL R (.inr<|.inl ⟨_,_,iL,R⟩) al)<|sQ R (H9 R De.slice iL R iL λ_=>q)<|sQ R (CO (ob:=.rr _ _ _ _ _ _ _ _) R Js iL fR R)<|Zk R R (cJ R gJ iL R q iL R) ?_
    refine AN.weak (Zn (gz (f:=Ae.row) (f2:=(Ai .i64)) (v:=(Ae.mk C.Remark l3 C.Done)) 1000 21000 m R R R q R)<|by exact AZ.cv (e':=[(0,.own 1000 j),(3,pT 3 l),(5,rI A),(6,rI m),(7,rB E),(14,rL w),(15,rI m),(48,rB E),(49,.own 1000 j),(50,rI m),(51,.own 1000 j),(52,rI m),(53,.ptr 1000 j m.toNat 0),(54,.ptr 1000 j m.toNat 1),(56,pT 3 l),(57,rI n1.ID),(58,.own 58<|F 0),(60,.ptr 1000 j m.toNat 0),(61,.ptr 1000 j m.toNat 1)]) (h':=[bX 3 l 44<|A8 n1,aX 58 (F 0) 3 1<|[n1.ID].map<|Ai .i64,(1000,some<|.rr j 60 3 1 3 1 none<|(w.set m.toNat<|Ae.mk C.Remark l3 C.Done).map Ae.row)]) ⟨jL,jL,jL,jL,jL,jL,jL,jL,jL,jL,jL,jL,jL,jL,jL,jL,jL,jL,jL,Za⟩ ⟨.inl R,.inl R,.inl R,Za⟩ nL) ?_
    refine aZ<|ak _<|aT λao=>aG [0] [1000] ?_
    refine Ah R<|mA R<|oZ ao ?_
    exact Zj<|CB.mk (s':=⟨[(4,.own 1000 j)],(Hn j<|w.set m.toNat<|Ae.mk C.Remark l3 C.Done),((F 0)+2),74⟩) wk<|Cc (λ(r:(List Ae)) rr h'=>∃(i:Nat->Nat),rr=.own 1000 (i 0)/\h'=(Hn (i 0) r)) (ad _<|xH a0 an)<|by exact⟨.own 1000 j,(Hn j<|w.set m.toNat<|Ae.mk C.Remark l3 C.Done),R,⟨.inr R,Za⟩,R,R,AI [j],R,R⟩
   refine Zc<|c8 _<|aR<|AE O λx8 aq ar=>xA R aq<|mM R<|Zh ?_
   exact Zr ar (AI [(F 0)])<|Zn (Zn (T4 (f:=Ae.row) (f2:=(Ai .i64)) 1000 21000 m R R R q R)<|by exact AZ.cv (e':=[(0,.own 1000 j),(3,pT 3 l),(5,rI A),(6,rI m),(7,rB E),(14,rL w),(15,rI x8),(48,rB E),(63,rI x8)]) (h':=(RG l n1 j w)) ⟨jL,jL,jL,jL,jL,jL,jL,jL,jL,Za⟩ ⟨.inl R,.inl R,Za⟩ nL) wk
  refine C0 (λ(T:Bool) (x6:Int) i8=>⟨[(0,.own 1000 j),(3,pT 3 l),(5,rI A),(6,rI m),(7,rB T),(14,rL w),(15,rI m),(30,rL C.Replies),(31,rI x6)],(W6 l n1 j m.toNat (M 0) w<|C.Replies.map<|Ai .i64),(i8 0),74⟩) (AI [((M 0)+1)]) a2 wk ?_
  intro T x6 i8 v2 au av
  have a6:JC A C T x6=some v2:=au;unfold JC at a6
  refine aU<|xS R<|Ar λaw=>cI R a6 (λU=>?_) λU=>?_
  .exact Zc<|aw _<|aT λax=>Zg<|AK R<|AG R<|Ah R<|mM R<|vM R<|vM R<|vQ R (H9 R De.slice (iR R) R (iR R) λ_=>q)<|vQ R (CO (ob:=.rr _ _ _ _ _ _ _ _) R Js (iR R) fR R)<|vQ R (OY R Ml (iR R) R λ_=>q)<|vM R<|AE U λx9 a7 ay=>vQ R (EE R Bo.slice (iR R) R (iR R)<|Af a7)<|vQ R (KO (d:=.int .i64 x9) R AJ (iR R) fR (Af a7) R)<|vM R<|vQ R (BB R (iR R)<|iR R)<|xO R<|AG R<|ax _<|aR<|AE ay λb0 a8 az=>xA R a8<|mM R<|Zh<|ZE az (AI [(i8 0)]) wk
  exact Zm<|a1 _ _ wk<|J2 _ (AI [(i8 0)])<|xH av U
 exact Zm<|ab _ _ wk<|J1 _ (AI [(M 0)])<|xH a0 h7
theorem pa{j q r}(h:Qf j q=some r):AY prog 14 [.r<|.sl<|j.map<|Ai .i64,.r<|.sl<|q.map<|Ai .i64] (rB r):=by
 unfold Qf at h
 refine mF func14 ntmps14 R λn0=>aU<|AG R<|aT λc2=>AK R<|xL Bo R<|mM R<|xL Bo R<|xU R<|aZ<|cI R h (λA=>?_) λA=>?_
 .exact zB A R id
 refine Zc<|c2 _<|aS λK5 c5 B=>AK R<|xL Bo R<|mM R<|aZ<|Zg<|BU A λo1 l C E=>?_
 have J1:∀(Z:Unit) (i5:NN),o1=.nrm Z->K5 ⟨[],[],(i5 0),26⟩:=by
  intro Z i5 e
  have h2:=C _ e
  exact c5 _<|zB h2 R id
 refine Zv (λ(F:Int) w=>⟨[(0,.r<|.sl<|j.map<|Ai .i64),(1,.r<|.sl<|q.map<|Ai .i64),(12,rL j),(13,rI F)],[],(w 0),26⟩) (AI [n0]) l wk ?_
 intro F w v1 I m
 have h3:QJ j q F=some v1:=I;unfold QJ at h3
 refine aU<|xS R<|Ar λc9=>cI R h3 (λJ=>?_) λJ=>?_
 .refine Zc<|c9 _<|aT λM=>Zg<|AK R<|AG R<|aT λO=>?_
  refine Zz BP (by kernel_rfl) ?_
  refine qP R (AM R iL)<|qP R (AM R iL)<|AE J λx4 T h5=>qP R (BN R Bo.slice iL iL (λ_=>R) λ_=>T)<|qP R (Bm (d:=.int .i64 x4) R AJ iL R)<|qP R (AM R iL)<|qP R (AM R iL)<|AE h5 λx5 U h6=>qP R (BN R Bo.slice iL iL (λ_=>R) λ_=>U)<|qP R (Bm (d:=.int .i64 x5) R AJ iL R)<|qP R (Cm R iL iL)<|AQ.nil<|O _<|cI R h6 (λV=>?_) λV=>?_
  .exact zB (E _<|xH m V) R id
  refine Zc<|M _<|aF [0,1,12,13] ?_
  exact aR<|AE V λx6 X h8=>xA R X<|mM R<|Zh<|Zr h8 (AI [(w 0)]) wk
 exact Zm<|B _ _ wk<|J1 _ (AI [(w 0)])<|xH m J
theorem sv{d1 i r}(h:Sc d1 i=some r):AY prog 3 [.agg [qb d1.Nodes],rI i] (rB r):=by
 unfold Sc at h
 refine mF func3 ntmps3 R λw=>aU<|sS R (BD (cs:=[qb d1.Nodes]) 2 R iL R R)<|AG R<|aT λc2=>aU<|AE h λr1 cc h1=>cL (pj<|cc) R<|sQ R (BC R iL)<|aZ<|cI R h1 (λh2=>?_) λh2=>?_
 .exact zB h2 R id
 refine Zc<|c2 _<|aU<|xC CG R<|mM R<|FD h2 λr2 r3 cd h3=>sS R (Dz (r:=.tup [qi r2,rI r3]) (caps:=[]) (bs:=[.agg [qb d1.Nodes],rI i]) R iL R ⟨.inl ⟨iL,R⟩,.inl ⟨iL,R⟩,Za⟩ λ_=>uY<|cd)<|mM R<|xX R<|xX R<|mA R<|AG R<|aT λc6=>aG [1,2,5,6] [2] ?_
 refine aR<|xC CG R<|FD h3 λI r5 cf h4=>sS R (Dz (r:=.tup [qh I,rI r5]) (caps:=[]) (bs:=[.agg [qb d1.Nodes]]) R iL R ⟨.inl ⟨iL,R⟩,Za⟩ λ_=>rG<|cf)<|mM R<|xX R<|xX R<|mA R<|AG R<|c6 _<|aT λc7=>aU<|xC CG R<|AE h4 λf1 cg h5=>cL (rY<|cg) R<|AG R<|AK R<|xU R<|aZ<|cI R h5 (λh6=>?_) λh6=>?_
 .refine aT λch=>aF [5,6,7,8,9] ?_
  exact Ah R<|mM R<|xQ R<|mM R<|vM R<|vM R<|vQ R (BB R (iR R)<|iR R)<|xN R<|mM R<|vM R<|vQ R (DA R D1.slice<|iR R)<|vM R<|vQ R (DA R De.slice<|iR R)<|AE h6 λx1 cj h7=>vQ R (Jn R (iR R) (iR R)<|Af cj)<|vQ R (BB R (iR R) iL)<|xN R<|AG R<|ch _<|Zj<|yB h7 R
 refine Zc<|c7 _<|aT λck=>aG [1,2,5,6,7,8] [2] ?_
 refine aR<|AG R<|ck _<|aT λcl=>aR<|mA R ?_
 refine AN.weak (Zn (Zn (HC 11 7011 60 3 (by decide) R)<|iA 7011 1 3 1 R R R)<|by exact AZ.cv (e':=[(1,rI i),(2,pT 2 w),(5,qi r2),(6,rI r3),(7,qh I),(8,rI r5),(10,cZ),(11,.own 7011<|w+1)]) (h':=[bX 2 w 24 [qb d1.Nodes],(7011,some<|.rr (w+1) 60 3 1 3 1 none<|([]:List Ae).map Ae.row)]) ⟨jL,jL,jL,jL,jL,jL,jL,jL,Za⟩ ⟨.inl R,.inl R,Za⟩ nL) ?_
 refine aZ<|cl _<|aU<|xC CG R<|AE h6 λJ cm h8=>sS R (Dz (r:=qj J) (caps:=[]) (bs:=[.agg [qb d1.Nodes]]) R iL R ⟨.inl ⟨iL,R⟩,Za⟩ λ_=>ts<|cm)<|AG R<|aS λcn cp ba=>AK R<|xL Np R<|mM R<|aZ<|Zg<|Gj h8 λo1 bb cq=>?_
 have J1:∀(q:List Ag) (j:List Ae) (C:NN),o1=(q,j)->cn ⟨[(1,rI i),(2,pT 2 w),(5,qi r2),(6,rI r3),(7,qh I),(8,rI r5),(10,.own 5010<|C 0),(11,.own 7011<|C 1)],(R4 w (qb d1.Nodes) (C 0) q (C 1) j),(C 2),238⟩:=by
  intro q j C e
  have h9:=cq _ _ e
  refine cp _<|aU<|xC CG R<|mM R<|AE h9 λi6 cr cs=>cL (QN<|cr) R<|AG R<|aS λct cu aa=>Zg<|BU cs λp1 bc cv ak=>?_
  have J2:∀(u2:Unit) (i7:NN),p1=.nrm u2->ct ⟨[(5,qi r2),(7,qh I),(8,rI r5),(10,.own 5010<|C 0),(11,.own 7011<|C 1)],[aX 5010 (C 0) 56 3<|q.map Ag.row,(7011,some<|.rr (C 1) 60 3 1 3 1 none<|j.map Ae.row)],(i7 0),238⟩:=by
   intro u2 i7 e
   have cw:=cv _ e
   refine cu _<|aS λcx cy bd=>AK R<|xL D1 R<|mM R<|aZ<|Zg<|BU cw λo2 be cz d0=>?_
   have J3:∀(u4:Unit) (al:NN),o2=.nrm u4->cx ⟨[(7,qh I),(8,rI r5),(11,.own 7011<|C 1)],(W4 (C 1) j),(al 0),238⟩:=by
    intro u4 al e
    have d2:=cz _ e
    refine cy _<|aT λd3=>AK R<|xU R<|mM R<|vM R<|vQ R (DA R De.slice<|iR R)<|vM R<|vQ R (UI R De.slice (iR R) R)<|vQ R (Cm R (iR R)<|iR R)<|xO R<|aZ<|cI R d2 (λan=>?_) λan=>?_
    .exact zB an R id
    refine Zc<|d3 _<|aS λd4 d5 bf=>aT λd6=>aG [7,11] [7011] ?_
    refine Ah R<|xL De R<|mM R<|aZ<|d6 _<|Zg<|BU an λo3 bg d7 d8=>?_
    have J4:∀(u6:Unit) (bh:NN),o3=.nrm u6->d4 ⟨[],[],(bh 0),238⟩:=by
     intro u6 bh e
     have d9:=d7 _ e
     exact d5 _<|zB d9 R id
    refine Zv (λ(x9:Int) a6=>⟨[(7,qh I),(11,.own 7011<|C 1),(195,rL I),(196,rI x9)],(W4 (C 1) j),(a6 0),238⟩) (AI [(al 0)]) bg wk ?_
    intro x9 a6 v1 da bi
    have bj:IT I j x9=some v1:=da;unfold IT at bj
    refine aU<|xS R<|Ar λdb=>cI R bj (λao=>?_) λao=>?_
    .refine Zc<|db _<|aT λdc=>Zg<|AK R<|AG R<|aT λdd=>AE ao λaf B de=>?_
     refine AW.weak (Zn (Qu (f:=Ae.row) (f2:=(Ai .i64)) 7011 27011 x9 R R R B R)<|by exact AZ.cv (e':=[(7,qh I),(11,.own 7011<|C 1),(20,rI x9),(195,rL I),(196,rI x9),(197,rB<|(decide<|x9<(I.length:Int))),(198,rI x9)]) (h':=[(7011,some<|.rr (C 1) 60 3 1 3 1 (some (x9.toNat,27011,(a6 0)))<|j.map Ae.row),aX 27011 (a6 0) 3 1<|af.Replies.map<|Ai .i64]) ⟨jL,jL,jL,jL,jL,jL,jL,Za⟩ ⟨.inl R,.inl R,Za⟩ nL) ?_
     refine Zz BP (by kernel_rfl) ?_
     refine qP R (AM R iL)<|qP R (AM R iL)<|AE de λag ab df=>qP R (BN R De.slice iL iL (λ_=>R) λ_=>ab)<|qP R (BL R VG iL)<|qP R (Bm (d:=.int .i64 ag.Remark) R AJ iL R)<|qP R (AM R iL)<|qP R (AM R iL)<|qP R (H9 R De.slice iL R iL λ_=>B)<|qP R (CO (ob:=.rr _ _ _ _ _ _ _ _) R VG iL fR R)<|qP R (XF (d:=.int .i64 af.Remark) R AJ iL R R (λ_=>B) R)<|qP R (Cm R iL iL)<|qP R (AM R iL)<|qO R (AM R iL)<|qO R (AM R iL)<|qO R (BN R De.slice (iR R) (iR R) (λ_=>R) λ_=>ab)<|qO R (BL R Ys<|iR R)<|qO R (Bm (d:=.bool ag.Done) R JM (iR R) R)<|qO R (AM R iL)<|qO R (AM R iL)<|qO R (H9 R De.slice (iR R) R (iR R) λ_=>B)<|qO R (CO (ob:=.rr _ _ _ _ _ _ _ _) R Ys (iR R) fR R)<|qO R (XF (d:=.bool af.Done) R JM (iR R) R R (λ_=>B) R)<|qO R (W2 R underlying4 (iR R)<|iR R)<|qP R (CS R iL<|iR R)<|qP R (AM R iL)<|qO R (AM R iL)<|qO R (AM R iL)<|qO R (BN R De.slice (iR R) (iR R) (λ_=>R) λ_=>ab)<|qO R (BL R Js<|iR R)<|qO R (Bm (d:=.sl<|ag.Replies.map<|Ai .i64) R Ml (iR R) R)<|qO R (AM R iL)<|qO R (AM R iL)<|qO R (H9 R De.slice (iR R) R (iR R) λ_=>B)<|qO R (CO (ob:=.rr _ _ _ _ _ _ _ _) R Js (iR R) fR R)<|qO R (OY R Ml (iR R) R λ_=>B)<|AE df λr6 dh di=>KR (.one R R R) R R (r:=rB r6) (caps:=[]) (bs:=[.r<|.sl<|ag.Replies.map<|Ai .i64,.r<|.sl<|af.Replies.map<|Ai .i64]) R iL R ⟨⟨_,(iR R),.d R⟩,⟨_,(iR R),.one<|.own R⟩,Za⟩ (λhg=>pa<|Af dh hg) R<|qO R (BC R<|iR R)<|qP R (CS R iL<|iR R)<|AQ.nil<|dd _ ?_
     refine cI R di (λaq=>?_) λaq=>?_
     .exact zB (d8 _<|xH bi aq) R id
     refine Zc<|dc _<|aG [7,11,195,196] [7011,27011] ?_
     refine aR<|AE aq λbk bl dj=>xA R bl<|mM R<|Zh ?_
     exact Zr dj (AI [((a6 0)+1)])<|Zn (Zn (T4 (f:=Ae.row) (f2:=(Ai .i64)) 7011 27011 x9 R R R B R)<|by exact AZ.cv (e':=[(7,qh I),(11,.own 7011<|C 1),(195,rL I),(196,rI bk),(237,rI bk)]) (h':=(W4 (C 1) j)) ⟨jL,jL,jL,jL,jL,Za⟩ ⟨.inl R,Za⟩ nL) wk
    exact Zm<|bf _ _ wk<|J4 _ (AI [(a6 0)])<|xH bi ao
   refine Zv (λ(x6:Int) ah=>⟨[(5,qi r2),(7,qh I),(8,rI r5),(10,.own 5010<|C 0),(11,.own 7011<|C 1),(171,rL r2),(172,rI x6)],[aX 5010 (C 0) 56 3<|q.map Ag.row,(7011,some<|.rr (C 1) 60 3 1 3 1 none<|j.map Ae.row)],(ah 0),238⟩) (AI [(i7 0)]) be wk ?_
   intro x6 ah v2 dk bm
   have bn:Ha r2 q x6=some v2:=dk;unfold Ha at bn
   refine aU<|xS R<|Ar λdm=>cI R bn (λar=>?_) λar=>?_
   .refine Zc<|dm _<|aT λdn=>Zg<|AK R<|AG R<|aT λdp=>?_
    refine Zz BP (by kernel_rfl) ?_
    refine qP R (AM R iL)<|qP R (AM R iL)<|AE ar λau bo dq=>qP R (BN R D1.slice iL iL (λ_=>R) λ_=>bo)<|qP R (EB (cs:=[rI au.Node,rI au.Span.From,rI au.Span.To]) R gZ iL R R)<|qP R (AM R iL)<|qP R (AM R iL)<|AE dq λav ai dr=>qP R (EE R D1.slice iL R iL λ_=>ai)<|qP R (VP (cs:=[rI av.Node,rI av.Span.From,rI av.Span.To]) R gZ iL fR (λ_=>ai) R)<|qP R (mn R iM iL iL R)<|AQ.nil<|dp _<|cI R dr (λaw=>?_) λaw=>?_
    .exact zB (d0 _<|xH bm aw) R id
    refine Zc<|dn _<|aG [5,7,8,10,11,171,172] [5010,7011] ?_
    exact aR<|AE aw λff bp ds=>xA R bp<|mM R<|Zh<|Zr ds (AI [(ah 0)]) wk
   exact Zm<|bd _ _ wk<|J3 _ (AI [(ah 0)])<|xH bm ar
  refine AK R<|xS R<|AG R<|aC R (λax=>?_) λax=>?_
  .have ay:=D2 ax bc
   refine aT λdt=>aG [5,6,7,8,10,11] [5010,7011] ?_
   refine Ah R<|xU R<|mM R<|vM R<|vQ R (DA R D1.slice<|iR R)<|vQ R (Cm R (iR R) iL)<|xO R<|aZ<|dt _<|cI R ay (λaz=>?_) λaz=>?_
   .exact zB (ak _ (Zf az).symm) R id
   exact Zc<|aa _ _ wk<|J2 _ (AI [(C 2)]) (Zf az).symm
  .have ay:=Dw ax bc
   refine aU<|lF CZ Cf R R<|mM R<|AE ay λdu bq dv=>xI B7 R bq<|sQ R (BL R CH iL)<|xV (.int .i64 du.Kind) AJ R<|xU R<|AG R<|cI R dv (λb0=>?_) λb0=>?_
   .refine aT λdw=>aG [5,6,7,8,10,11] [5010,7011] ?_
    refine Ah R<|xU R<|mM R<|vM R<|vQ R (DA R D1.slice<|iR R)<|vQ R (Cm R (iR R) iL)<|xO R<|aZ<|dw _<|cI R b0 (λb1=>?_) λb1=>?_
    .exact zB (ak _ (Zf b1).symm) R id
    exact Zc<|aa _ _ wk<|J2 _ (AI [(C 2)]) (Zf b1).symm
   refine aT λdx=>aG [5,6,7,8,10,11] [5010,7011] ?_
   refine Ah R<|xU R<|mM R<|vM R<|vQ R (DA R D1.slice<|iR R)<|vM R<|vQ R (H1 R D1.slice (iR R) R)<|vQ R (Cm R (iR R)<|iR R)<|xO R<|AG R<|dx _<|cI R b0 (λb2=>?_) λb2=>?_
   .exact zB (ak _ (Zf b2).symm) R id
   exact Zc<|aa _ _ wk<|J2 _ (AI [(C 2)]) (Zf b2).symm
 refine IE (λ(x3:Int) (M:List Ag) (l:List Ae) O=>⟨[(1,rI i),(2,pT 2 w),(5,qi r2),(6,rI r3),(7,qh I),(8,rI r5),(10,.own 5010<|O 0),(11,.own 7011<|O 1),(12,qj J),(57,rL J),(58,rI x3)],(R4 w (qb d1.Nodes) (O 0) M (O 1) l),(O 2),238⟩) (AI [(w+2),(w+1),(w+3)]) bb (Zn (Zn (HC 10 5010 56 3 (by decide) R)<|by exact AZ.cv (e':=[(1,rI i),(2,pT 2 w),(5,qi r2),(6,rI r3),(7,qh I),(8,rI r5),(10,.own 5010<|w+2),(11,.own 7011<|w+1),(12,qj J),(54,.agg [qb d1.Nodes]),(55,qj J),(56,qj J),(57,rL J),(58,rI 0)]) (h':=(R4 w (qb d1.Nodes) (w+2) ([]:List Ag) (w+1) ([]:List Ae))) ⟨jL,jL,jL,jL,jL,jL,jL,jL,jL,jL,jL,jL,jL,jL,Za⟩ ⟨.inl R,.inl R,.inl R,Za⟩ nL) wk) ?_
 intro x3 M l O v3 dy dz
 have br:Lm d1 i J x3 M l=some v3:=dy;unfold Lm at br
 refine aU<|xS R<|Ar λe1=>cI R br (λb3=>?_) λb3=>?_
 .refine Zc<|e1 _<|aS λe3 e4 aj=>Zg<|Gj b3 λp2 e5 e6=>?_
  have J5:∀(T:List Ag) (A:List Ae) (U:NN),p2=(T,A)->e3 ⟨[(1,rI i),(2,pT 2 w),(5,qi r2),(6,rI r3),(7,qh I),(8,rI r5),(10,.own 5010<|U 0),(11,.own 7011<|U 1),(12,qj J),(57,rL J),(58,rI x3)],(R4 w (qb d1.Nodes) (U 0) T (U 1) A),(U 2),238⟩:=by
   intro T A U e
   have e7:=e6 _ _ e
   exact e4 _<|aR<|AE e7 λfg bs e8=>xA R bs<|mM R<|Zh<|FL.mk e8 (AI [(U 0),(U 1),(U 2)]) wk
  refine AK R<|AG R<|aT λe9=>AE e5 λZ bt ea=>AE ea λr7 eb ec=>AE ec λm bu ed=>?_
  refine GZ 12 [pO 61<|pT 2 w,pO 62<|qb d1.Nodes,pO 63<|.agg [qb d1.Nodes],pO 64<|qj J,pO 65<|rI x3,pO 66<|.rop (Aj.row Z) 0,pO 67<|.rop (Aj.row Z) 0,pO 68<|rI Z.ID,pO 69<|rI r7,pO 70<|.rop (Ad.row m) 0,pO 71<|.agg<|A8 m,⟨some 14,(λG1=>pT 14<|G1 11),some (14,(λG1=>some<|.box (G1 11) 44 E7)),[11]⟩] BP (by kernel_rfl) (by exact⟨zN,zN,zN,zN,zN,zN,zN,zN,zN,zN,zN,zS 11,Za⟩) R (by exact⟨oB [(2,pT 2 w)] (Lb w<|qb d1.Nodes)<|fB R CZ (.inl R) (λ_=>R) R,oB [(61,pT 2 w)] (Lb w<|qb d1.Nodes)<|Ab (a:=qb d1.Nodes) R Cf (.inl R) R R,oB [(2,pT 2 w)] (Lb w<|qb d1.Nodes)<|EW R CG (.inl R) R R,oB [(12,qj J)] []<|AM R<|.inl R,oB [(13,rI x3)] []<|AM R<|.inl R,oB [(64,qj J),(65,rI x3)] []<|BN R Np.slice (.inl R) (.inl R) (λ_=>R) λ_=>bt,oB [(66,.rop (Aj.row Z) 0)] []<|BL R LP<|.inl R,oB [(67,.rop (Aj.row Z) 0)] []<|Bm (d:=.int .i64 Z.ID) R AJ (.inl R) R,oD (λ_=>[(63,.agg [qb d1.Nodes]),(68,rI Z.ID)]) (λ_=>[]) λG1 e h' n=>Db (r:=rI r7) (caps:=[]) (bs:=[.agg [qb d1.Nodes],rI Z.ID]) R (.inl R) R ⟨⟨_,(.inl R),.g (cs:=[.sl<|d1.Nodes.map Ad.row]) R R⟩,⟨_,(.inl R),.d R⟩,Za⟩ (λ_=>QN<|eb) R,oB [(62,qb d1.Nodes),(69,rI r7)] []<|BN R B7.slice (.inl R) (.inl R) (λ_=>R) λ_=>bu,oB [(70,.rop (Ad.row m) 0)] []<|EB (cs:=(A8 m)) R D8 (.inl R) R R,oM (λ_=>[]) (λ_=>[]) R λG1 e h' n=>BT (cs:=E7) 14 R Ia R R,Za⟩) λG1 n1=>?_
  refine Bi [1,2,5,6,7,8,10,11,12,13,14,57,58,59,60,61,62,63,64,65,66,67,68,69,70,71] [2,14,5010,7011] ?_
  refine Zk R R (BF (ds:=(A8 m)) R HV iL R iL R R R R)<|aZ<|e9 _<|aT λee=>aG [1,2,5,6,7,8,10,11,12,14,57,58] [2,14,5010,7011] ?_
  refine aR<|AG R<|ee _<|aS λef eg bv=>aU<|lF Ew E5 R R<|xL CN R<|mM R<|aZ<|Zg<|Bb ed λo4 bw eh=>?_
  have J6:∀(V:List Ag) (a0:NN),o4=V->ef ⟨[(1,rI i),(2,pT 2 w),(5,qi r2),(6,rI r3),(7,qh I),(8,rI r5),(10,.own 5010<|a0 0),(11,.own 7011<|O 1),(12,qj J),(14,pT 14<|G1 11),(57,rL J),(58,rI x3)],(U0 w (qb d1.Nodes) (G1 11) m (a0 0) V (O 1) l),(a0 1),238⟩:=by
   intro V a0 e
   have ei:=eh _ e
   refine eg _<|aU<|lF CH AJ R R<|xQ R<|aZ<|cI R ei (λb4=>?_) λb4=>?_
   .refine Ah R<|xC D8 R<|AE b4 λw1 ej ek=>?_
    refine ZB [7011] (hc:=(Hn (O 1) l)) (bs:=[.own 1000<|O 1,.agg<|A8 m]) (caps:=[]) R R R R iL R ⟨.inl ⟨iL,R⟩,.inl ⟨iL,R⟩,Za⟩ ⟨R,R,R,Za⟩ (by decide) (vb ej) ?_
    intro el n2
    refine Bi [1,2,5,6,7,8,10,12,14,57,58,125,126,127,129,130] [2,14,5010,7011] ?_
    exact mA R<|Zh<|aj _ _ wk<|J5 _ _ (AI [(a0 0),(el 0),n2]) (Zf ek).symm
   exact Zc<|aj _ _ wk<|J5 _ _ (AI [(a0 0),(O 1),(a0 1)]) (Zf b4).symm
  refine IE (λ(ac:Bool) (a1:Int) (X:List Ag) E=>⟨[(1,rI i),(2,pT 2 w),(5,qi r2),(6,rI r3),(7,qh I),(8,rI r5),(10,.own 5010<|E 0),(11,.own 7011<|O 1),(12,qj J),(14,pT 14<|G1 11),(15,rB ac),(57,rL J),(58,rI x3),(74,rL m.Flow),(75,rI a1)],(U0 w (qb d1.Nodes) (G1 11) m (E 0) X (O 1) l),(E 1),238⟩) (AI [(O 0),n1]) bw wk ?_
  intro ac a1 X E v4 en eo
  have bx:HU i m ac a1 X=some v4:=en;unfold HU at bx
  refine aU<|xS R<|Ar λep=>cI R bx (λb5=>?_) λb5=>?_
  .refine Zc<|ep _<|aT λer=>Zg<|AK R<|AG R<|aT λes=>?_
   refine Zz BP (by kernel_rfl) ?_
   refine qP R (fB R CH iL fR R)<|qP R (Ab (a:=rI m.Kind) R AJ iL R R)<|AE b5 λr8 et eu=>AQ.stepC R R R (r:=rB r8) (caps:=[]) (bs:=[rI m.Kind]) R iL R ⟨⟨_,iL,.d R⟩,Za⟩ (λ_=>T0<|et) R<|qP R (AM R iL)<|qO R (fB R Ew iL fR R)<|qO R (Ab (a:=qe m.Flow) R E5 (iR R) R R)<|qO R (AM R iL)<|AE eu λbz c0 ev=>qO R (BN R CN.slice (iR R) (iR R) (λ_=>R)<|Af c0)<|qO R (BL R QS<|iR R)<|qO R (Bm (d:=.sl<|bz.Attrs.map AH.row) R Cq (iR R) R)<|qO R (AM R iL)<|AE ev λr9 ew ex=>KR (.one R R R) R R (r:=rS r9) (caps:=[]) (bs:=[rI i]) R iL R ⟨⟨_,(iR R),.d R⟩,Za⟩ (λhg=>ur<|Af ew hg) R<|AE ex λs1 ey ez=>qO R (R0 R iL (iR R)<|Af ey)<|AE ez λc1 c3 f0=>KR (.one R R R) R R (r:=rS c1) (caps:=[]) (bs:=[qa bz.Attrs,rS s1]) R iL R ⟨⟨_,(iR R),.d R⟩,⟨_,(iR R),.d R⟩,Za⟩ (λhg=>RB<|Af c3 hg) R<|qO R (EM R (iR R) iL)<|qP R (BZ R iL<|iR R)<|qP R (EL R iL)<|AQ.nil<|es _<|aS λf3 f4 ad=>Zg<|Bb f0 λp3 c4 f5=>?_
   have J7:∀(F:List Ag) (a7:NN),p3=F->f3 ⟨[(1,rI i),(2,pT 2 w),(5,qi r2),(6,rI r3),(7,qh I),(8,rI r5),(10,.own 5010<|a7 0),(11,.own 7011<|O 1),(12,qj J),(14,pT 14<|G1 11),(17,rB<|(r8&&(c1=[111,110]))),(57,rL J),(58,rI x3),(74,rL m.Flow),(75,rI a1)],(U0 w (qb d1.Nodes) (G1 11) m (a7 0) F (O 1) l),(a7 1),238⟩:=by
    intro F a7 e
    have f6:=f5 _ e
    exact f4 _<|Ah R<|AG R<|er _<|aR<|AE f6 λfh c5 f7=>xA R c5<|mM R<|Zh<|FL.mk f7 (AI [(a7 0),(a7 1)]) wk
   refine AK R<|mM R<|vM R<|xN R<|AG R<|aC R (λae=>?_) λae=>?_
   .have b6:=D2 ae c4
    refine aG [1,2,5,6,7,8,10,11,12,14,17,57,58,74,75] [2,14,5010,7011] ?_
    exact Ah R<|mM R<|sQ R (H1 R D1.slice iL R)<|AE b6 λfi c8 f8=>sQ R (CJ R iL iL λ_=>c8)<|AE f8 λb7 a2 f9=>sQ R (EE R D1.slice iL R iL λ_=>a2)<|sQ R (CO (ob:=.arr _ _ _ _) R ON iL fR R)<|sQ R (CO (ob:=.arr _ _ _ _) R OE iL fR R)<|sQ R (KO (d:=.int .i64 b7.Span.To) R AJ iL fR (λ_=>a2) R)<|AE f9 λfa c9 fb=>xA R c9<|sQ R (EE R D1.slice iL R iL λ_=>a2)<|sQ R (CO (ob:=.arr _ _ _ _) R ON iL fR R)<|sQ R (CO (ob:=.arr _ _ _ _) R OE iL fR R)<|Zk R R (Ow (v:=(Ag.mk b7.Node<|FX.mk b7.Span.From fa)) R Yu iL R a2 iL R R R R)<|Zh<|ad _ _ wk<|J7 _ (AI [(E 0),(E 1)]) (Zf fb).symm
   .have b6:=Dw ae c4
    refine aT λfc=>aG [1,2,5,6,7,8,10,11,12,14,16,17,57,58,74,75] [2,14,5010,7011] ?_
    refine Ah R<|AG R<|fc _<|cI R b6 (λb8=>?_) λb8=>?_
    .refine Ah R<|lF Ea AJ R R<|mM R<|mM R<|AE b8 λb9 ca fd=>xA R ca ?_
     refine sQ R (Ch R X8 (q:=[(0,_),(1,_)]) (by exact⟨R,R,R,iL,R,R,R,iL,Za⟩) (cs:=[rI a1,rI b9])<|by rfl) ?_
     refine sQ R (Ch R eT (q:=[(0,_),(1,_)]) (by exact⟨R,R,R,iL,R,R,R,iL,Za⟩) (cs:=[rI m.ID,rI a1,rI b9])<|by rfl) ?_
     exact sS R (CA 121 R D1 (f:=Ag.row) (l:=([(Ag.mk m.ID<|FX.mk a1 b9)]:List Ag)) ⟨R,⟨_,iL,R⟩,Za⟩ R (λ_=>R) R)<|AE fd λcb a8 fe=>sS R (DN R D1 iL R (.inr<|.inl ⟨_,_,iL,R⟩) a8)<|mA R<|Zh<|ad _ _ wk<|J7 _ (AI [((E 1)+1),((E 1)+2)]) (Zf fe).symm
    exact Zc<|ad _ _ wk<|J7 _ (AI [(E 0),(E 1)]) (Zf b8).symm
  exact Zm<|bv _ _ wk<|J6 _ (AI [(E 0),(E 1)])<|xH eo b5
 exact Zm<|ba _ _ wk<|J1 _ _ (AI [(O 0),(O 1),(O 2)])<|xH dz b3



end Go.Proofs.YtcgleifameckmaaGreatDoor.Al
