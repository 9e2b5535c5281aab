/- Walks, as printed. -/
import Derived.Test.YtdafahjmopdleaaGreatDoorWlk131
import Derived.Test.YtdafahjmopdleaaGreatDoorProg
set_option maxHeartbeats 4000000
set_option maxRecDepth 20000
set_option linter.unusedVariables false
namespace Go.Proofs.YtdafahjmopdleaaGreatDoor.Al
open Go.Proofs Go.Proofs.Tryz
set_option linter.defProp false
theorem pr{q u r}(h:NU q u=some r):AM prog 107 [qd q,qd u] (.tup [qd r.1,qd r.2.1,rI r.2.2]):=by
 unfold NU at h
 refine mF func107 ntmps107 R λj=>aU<|mA R<|mA R<|mA R<|aZ<|aT λc2=>aU<|mM R<|Zc h λe1 b8 h1=>cL (Oc<|b8) R<|mA R<|aZ<|aU<|mM R<|xU R<|aZ<|cI R h1 (λh2=>?_) λh2=>?_
 ·refine aT λc5=>aF [7] ?_
  exact aR<|mM R<|mA R<|mA R<|mA R<|aZ<|c5 _<|Zj<|HE (P:=prog) (λ(r:(List AH) × (List AH) × Int)=>qd r.1) (λ(r:(List AH) × (List AH) × Int)=>qd r.2.1) (λ(r:(List AH) × (List AH) × Int)=>rI r.2.2) h2 iL (.t<|.one<|.nil) (.t<|.one<|.nil)<|.t<|.d R
 refine Zd<|c2 _<|aT λc6=>aU<|mM R<|Zc h2 λe2 b9 h3=>cL (Oc<|b9) R<|mA R<|aZ<|aT λc8=>aF [0,1,8] ?_
 refine aR<|mM R<|xU R<|aZ<|c8 _<|cI R h3 (λh4=>?_) λh4=>?_
 ·exact aU<|mM R<|mA R<|mA R<|mA R<|aZ<|Zj<|HE (P:=prog) (λ(r:(List AH) × (List AH) × Int)=>qd r.1) (λ(r:(List AH) × (List AH) × Int)=>qd r.2.1) (λ(r:(List AH) × (List AH) × Int)=>rI r.2.2) h4 iL (.t<|.one<|.nil) (.t<|.one<|.nil)<|.t<|.d R
 refine Zd<|c6 _<|aU<|mM R<|Ch h4 λr1 r2 ba h5=>cL (RZ<|ba) R<|mM R<|xX R<|xX R<|mA R<|mA R<|aZ<|aT λbb=>aT λbc=>aF [0,1,9] ?_
 refine aR<|mM R<|Ch h5 λr3 r4 bd h6=>cL (RZ<|bd) R<|mM R<|xX R<|xX R<|mA R<|mA R<|aZ<|bc _<|aU<|mM R<|mM R<|xU R<|aZ<|cI R h6 (λh7=>?_) λh7=>?_
 ·refine aT λbe=>aF [] ?_
  exact aR<|mA R<|mA R<|mA R<|aZ<|be _<|Zj<|HE (P:=prog) (λ(r:(List AH) × (List AH) × Int)=>qd r.1) (λ(r:(List AH) × (List AH) × Int)=>qd r.2.1) (λ(r:(List AH) × (List AH) × Int)=>rI r.2.2) h7 iL (.t<|.one<|.nil) (.t<|.one<|.nil)<|.t<|.d R
 refine Zd<|bb _<|aT λbf=>aF [0,1] ?_
 refine aR<|sS R (Zq (cs:=Me) 13 R Sl R R)<|sS R (Zq (cs:=Me) 14 R Sl R R)<|aZ<|bf _<|aT λbg=>aR<|mM R ?_
 refine sQ R (ZD R UD (q:=[(0,_)]) (by exact⟨R,R,R,iL,Za⟩) (cs:=[qd q,rI 0])<|by rfl) ?_
 refine sS R (Zv (cs:=[qd q,rI 0]) 51 R iL R R)<|mM R ?_
 refine sQ R (ZD R UD (q:=[(0,_)]) (by exact⟨R,R,R,iL,Za⟩) (cs:=[qd u,rI 0])<|by rfl) ?_
 refine sS R (Zv (cs:=[qd u,rI 0]) 54 R iL R R)<|mA R<|mA R<|aZ<|bg _<|aS λbh bi ac=>Zf<|Lb h7 λo1 ad bj=>?_
 have J1:∀(M:Ac) (O:Ac) (w:NN),o1=(M,O)→bh ⟨[(13,.ptr 13 j 0 0),(14,.ptr 14 (j+1) 0 0)],[(13,some<|.box j 193 [.own 3130<|w 0,.own 3131<|w 1,rI M.cut]),(14,some<|.box (j+1) 193 [.own 3140<|w 2,.own 3141<|w 3,rI O.cut]),(3130,some<|.arr (w 0) 100 4<|M.out.map AH.row),(3131,some<|.arr (w 1) 51 3<|M.add.map AC.row),(3140,some<|.arr (w 2) 100 4<|O.out.map AH.row),(3141,some<|.arr (w 3) 51 3<|O.add.map AC.row)],(w 4),158⟩:=by
  intro M O w e
  have h8:=bj _ _ e
  refine bi _<|aT λbk=>aR<|IA h8 λr5 r6 w1 bl h9=>?_
  refine Zo [13,3130,3131] (hc:=[(1000,some<|.box j 193 [.own 1001<|w 0,.own 1002<|w 1,rI M.cut]),(1001,some<|.arr (w 0) 100 4<|M.out.map AH.row),(1002,some<|.arr (w 1) 51 3<|M.add.map AC.row)]) (bs:=[.ptr 1000 j 0 0]) (caps:=[]) R R R R iL R ⟨.inl ⟨iL,R⟩,Za⟩ ⟨R,R,R,R,R,R,R,R,R,Za⟩ (by decide) (S0 bl) ?_
  intro i6 n1
  refine Ay [13,14,143] [13,14,3140,3141] ?_
  refine mM R<|xX R<|xX R<|mA R<|mA R<|aZ<|bk _<|aT λbm=>aR<|IA h9 λr7 r8 w2 bn bo=>?_
  refine Zo [14,3140,3141] (hc:=[(1000,some<|.box (j+1) 193 [.own 1001<|w 2,.own 1002<|w 3,rI O.cut]),(1001,some<|.arr (w 2) 100 4<|O.out.map AH.row),(1002,some<|.arr (w 3) 51 3<|O.add.map AC.row)]) (bs:=[.ptr 1000 (j+1) 0 0]) (caps:=[]) R R R R iL R ⟨.inl ⟨iL,R⟩,Za⟩ ⟨R,R,R,R,R,R,R,R,R,Za⟩ (by decide) (S0 bn) ?_
  intro i7 n2
  refine Ay [13,14,22,23,142,143,144,145,147] [13,14] ?_
  refine mM R<|xX R<|xX R<|mA R<|mA R<|aZ<|bm _<|aT λbp=>aT λbq=>aF [22,23,24,25] ?_
  refine aR<|mM R<|xU R<|mM R<|vM R<|vQ R (CP R (iR R) iL)<|xO R<|aZ<|bq _<|cI R bo (λU=>?_) λU=>?_
  ·refine aT λbr=>aF [] ?_
   exact aR<|mA R<|mA R<|mA R<|aZ<|br _<|Zj<|HE (P:=prog) (λ(r:(List AH) × (List AH) × Int)=>qd r.1) (λ(r:(List AH) × (List AH) × Int)=>qd r.2.1) (λ(r:(List AH) × (List AH) × Int)=>rI r.2.2) U iL (.t<|.one<|.nil) (.t<|.one<|.nil)<|.t<|.d R
  exact Zd<|bp _<|aU<|mM R<|mM R<|mA R<|mA R<|mA R<|aZ<|Zj<|HE (P:=prog) (λ(r:(List AH) × (List AH) × Int)=>qd r.1) (λ(r:(List AH) × (List AH) × Int)=>qd r.2.1) (λ(r:(List AH) × (List AH) × Int)=>rI r.2.2) U iL (.t<|.d R) (.t<|.d R)<|.t<|.d R
 refine vo (λ(C:Ac) (E:Ac) (A:BM) (B:BM) l=>⟨[(13,.ptr 13 j 0 0),(14,.ptr 14 (j+1) 0 0),(15,.ptr 51 (j+2) 0 0),(16,.ptr 54 (j+3) 0 0)],[(13,some<|.box j 193 [.own 3130<|l 0,.own 3131<|l 1,rI C.cut]),(14,some<|.box (j+1) 193 [.own 3140<|l 2,.own 3141<|l 3,rI E.cut]),(51,some<|.box (j+2) 196 [qd A.steps,rI A.used]),(54,some<|.box (j+3) 196 [qd B.steps,rI B.used]),(3130,some<|.arr (l 0) 100 4<|C.out.map AH.row),(3131,some<|.arr (l 1) 51 3<|C.add.map AC.row),(3140,some<|.arr (l 2) 100 4<|E.out.map AH.row),(3141,some<|.arr (l 3) 51 3<|E.add.map AC.row)],(l 4),158⟩) (AG [(j+4),(j+5),(j+6),(j+7),(j+8)]) ad (Zm (Zm (Ek 13 0 3130 100 4 (by decide) R R<|by decide)<|by exact ZC (e':=[(0,qd q),(1,qd u),(13,.ptr 13 j 0 0),(14,.ptr 14 (j+1) 0 0),(15,.ptr 51 (j+2) 0 0),(16,.ptr 54 (j+3) 0 0),(49,qd q),(50,.agg [qd q,rI 0]),(51,.ptr 51 (j+2) 0 0),(52,qd u),(53,.agg [qd u,rI 0]),(54,.ptr 54 (j+3) 0 0)]) (h':=[(13,some<|.box j 193 [.own 3130<|j+4,cZ,rI 0]),(14,some<|.box (j+1) 193 Me),(51,some<|.box (j+2) 196 [qd q,rI 0]),(54,some<|.box (j+3) 196 [qd u,rI 0]),(3130,some<|.arr (j+4) 100 4<|([]:List AH).map AH.row)]) ⟨jL,jL,jL,jL,jL,jL,jL,jL,jL,jL,jL,jL,Za⟩ ⟨.inl R,.inl R,.inl R,.inl R,.inl R,Za⟩ nL)<|Zm (Zm (Ek 13 1 3131 51 3 (by decide) R R<|by decide)<|by exact ZC (e':=[(0,qd q),(1,qd u),(13,.ptr 13 j 0 0),(14,.ptr 14 (j+1) 0 0),(15,.ptr 51 (j+2) 0 0),(16,.ptr 54 (j+3) 0 0),(49,qd q),(50,.agg [qd q,rI 0]),(51,.ptr 51 (j+2) 0 0),(52,qd u),(53,.agg [qd u,rI 0]),(54,.ptr 54 (j+3) 0 0)]) (h':=[(13,some<|.box j 193 [.own 3130<|j+4,.own 3131<|j+5,rI 0]),(14,some<|.box (j+1) 193 Me),(51,some<|.box (j+2) 196 [qd q,rI 0]),(54,some<|.box (j+3) 196 [qd u,rI 0]),(3130,some<|.arr (j+4) 100 4<|([]:List AH).map AH.row),(3131,some<|.arr (j+5) 51 3<|([]:List AC).map AC.row)]) ⟨jL,jL,jL,jL,jL,jL,jL,jL,jL,jL,jL,jL,Za⟩ ⟨.inl R,.inl R,.inl R,.inl R,.inl R,.inl R,Za⟩ nL)<|Zm (Zm (Ek 14 0 3140 100 4 (by decide) R R<|by decide)<|by exact ZC (e':=[(0,qd q),(1,qd u),(13,.ptr 13 j 0 0),(14,.ptr 14 (j+1) 0 0),(15,.ptr 51 (j+2) 0 0),(16,.ptr 54 (j+3) 0 0),(49,qd q),(50,.agg [qd q,rI 0]),(51,.ptr 51 (j+2) 0 0),(52,qd u),(53,.agg [qd u,rI 0]),(54,.ptr 54 (j+3) 0 0)]) (h':=[(13,some<|.box j 193 [.own 3130<|j+4,.own 3131<|j+5,rI 0]),(14,some<|.box (j+1) 193 [.own 3140<|j+6,cZ,rI 0]),(51,some<|.box (j+2) 196 [qd q,rI 0]),(54,some<|.box (j+3) 196 [qd u,rI 0]),(3130,some<|.arr (j+4) 100 4<|([]:List AH).map AH.row),(3131,some<|.arr (j+5) 51 3<|([]:List AC).map AC.row),(3140,some<|.arr (j+6) 100 4<|([]:List AH).map AH.row)]) ⟨jL,jL,jL,jL,jL,jL,jL,jL,jL,jL,jL,jL,Za⟩ ⟨.inl R,.inl R,.inl R,.inl R,.inl R,.inl R,.inl R,Za⟩ nL)<|Zm (Zm (Ek 14 1 3141 51 3 (by decide) R R<|by decide)<|by exact ZC (e':=[(0,qd q),(1,qd u),(13,.ptr 13 j 0 0),(14,.ptr 14 (j+1) 0 0),(15,.ptr 51 (j+2) 0 0),(16,.ptr 54 (j+3) 0 0),(49,qd q),(50,.agg [qd q,rI 0]),(51,.ptr 51 (j+2) 0 0),(52,qd u),(53,.agg [qd u,rI 0]),(54,.ptr 54 (j+3) 0 0)]) (h':=[(13,some<|.box j 193 [.own 3130<|j+4,.own 3131<|j+5,rI 0]),(14,some<|.box (j+1) 193 [.own 3140<|j+6,.own 3141<|j+7,rI 0]),(51,some<|.box (j+2) 196 [qd q,rI 0]),(54,some<|.box (j+3) 196 [qd u,rI 0]),(3130,some<|.arr (j+4) 100 4<|([]:List AH).map AH.row),(3131,some<|.arr (j+5) 51 3<|([]:List AC).map AC.row),(3140,some<|.arr (j+6) 100 4<|([]:List AH).map AH.row),(3141,some<|.arr (j+7) 51 3<|([]:List AC).map AC.row)]) ⟨jL,jL,jL,jL,jL,jL,jL,jL,jL,jL,jL,jL,Za⟩ ⟨.inl R,.inl R,.inl R,.inl R,.inl R,.inl R,.inl R,.inl R,Za⟩ nL) wk) ?_
 intro C E A B l v1 bs bt
 have ae:Mv C E A B=some v1:=bs;unfold Mv at ae
 refine aT λbu=>aS λbv bw T=>aR<|mM R<|Zc ae λr9 af bx=>?_
 refine Zo [51] (hc:=[(1000,some<|.box (j+2) 196 [qd A.steps,rI A.used])]) (bs:=[.ptr 1000 (j+2) 0 0]) (caps:=[]) R R R R iL R ⟨.inl ⟨iL,R⟩,Za⟩ ⟨R,R,R,Za⟩ (by decide) (JT af) ?_
 intro i8 n3
 refine Ay [13,14,15,16,55,56] [13,14,51,54,3130,3131,3140,3141] ?_
 refine sQ R (Ca R iL iL)<|mM R<|vM R<|Ar bx λp4 ag bz=>?_
 have J2:∀(x5:Bool) (i9:NN),p4=x5→bv ⟨[(13,.ptr 13 j 0 0),(14,.ptr 14 (j+1) 0 0),(15,.ptr 51 (j+2) 0 0),(16,.ptr 54 (j+3) 0 0),(62,rB x5)],[(13,some<|.box j 193 [.own 3130<|l 0,.own 3131<|l 1,rI C.cut]),(14,some<|.box (j+1) 193 [.own 3140<|l 2,.own 3141<|l 3,rI E.cut]),(51,some<|.box (j+2) 196 [qd A.steps,rI A.used]),(54,some<|.box (j+3) 196 [qd B.steps,rI B.used]),(3130,some<|.arr (l 0) 100 4<|C.out.map AH.row),(3131,some<|.arr (l 1) 51 3<|C.add.map AC.row),(3140,some<|.arr (l 2) 100 4<|E.out.map AH.row),(3141,some<|.arr (l 3) 51 3<|E.add.map AC.row)],(i9 0),158⟩:=by
  intro x5 i9 e
  have c0:=bz _ e
  refine bw _<|cI R c0 (λV=>?_) λV=>?_
  ·refine Zd<|bu _<|Zf<|aT λc1=>Zf<|aT λc3=>aR<|mM R ?_
   refine Zo [51] (hc:=[(1000,some<|.box (j+2) 196 [qd A.steps,rI A.used])]) (bs:=[.ptr 1000 (j+2) 0 0]) (caps:=[]) R R R R iL R ⟨.inl ⟨iL,R⟩,Za⟩ ⟨R,R,R,Za⟩ (by decide) (JT af) ?_
   intro dg n4
   refine Ay [13,14,15,16,62,64,65] [13,14,51,54,3130,3131,3140,3141] ?_
   refine xQ R<|mA R<|aZ<|c3 _<|cI R V (λX=>?_) λX=>?_
   ·refine aT λc4=>aR<|mM R<|mM R<|Zc X λc7 ah c9=>?_
    refine Zo [51] (hc:=[(1000,some<|.box (j+2) 196 [qd A.steps,rI A.used])]) (bs:=[.ptr 1000 (j+2) 0 0]) (caps:=[]) R R R R iL R ⟨.inl ⟨iL,R⟩,Za⟩ ⟨R,R,R,Za⟩ (by decide) (JB ah) ?_
    intro dh n5
    refine Ay [13,14,15,16,62,63,64,65,66,67,68,69] [13,14,51,54,3130,3131,3140,3141] ?_
    refine Ch c9 λY w3 ai ca=>?_
    refine Zo [51] (hc:=[(1000,some<|.box (j+2) 196 [qd A.steps,rI A.used])]) (bs:=[.ptr 1000 (j+2) 0 0,rI c7]) (caps:=[]) R R R R iL R ⟨.inl ⟨iL,R⟩,.inl ⟨iL,R⟩,Za⟩ ⟨R,R,R,Za⟩ (by decide) (I0 ai) ?_
    intro di n6
    refine Ay [13,14,15,16,62,63,64,65,66,67,68,69,70] [13,14,51,54,3130,3131,3140,3141] ?_
    refine sS R (Zq (cs:=Do) 17 R E0 R R)<|Zk R R (Zi (ds:=(BZ Y)) R E3 iL R iL R R R R)<|aZ<|c4 _<|aT λcb=>aG [13,14,15,16,17] [13,14,17,51,54,3130,3131,3140,3141] ?_
    refine aR<|lF Dz Br R R<|Zc ca λw4 cc cd=>?_
    refine Zo [13,3130,3131] (hc:=[(1000,some<|.box j 193 [.own 1001<|l 0,.own 1002<|l 1,rI C.cut]),(1001,some<|.arr (l 0) 100 4<|C.out.map AH.row),(1002,some<|.arr (l 1) 51 3<|C.add.map AC.row)]) (bs:=[.ptr 1000 j 0 0,qb Y.Elems]) (caps:=[]) R R R R iL R ⟨.inl ⟨iL,R⟩,.inl ⟨iL,R⟩,Za⟩ ⟨R,R,R,R,R,R,R,R,R,Za⟩ (by decide) (QN cc) ?_
    intro aj n7
    refine Ay [13,14,15,16,17,71,72,73] [13,14,17,51,54,3130,3131,3140,3141] ?_
    refine aZ<|cb _<|aT λcf=>aR<|lF Dz Br R R<|xL Ab R<|Zc cd λw5 cg ch=>?_
    refine Zo [14,3140,3141] (hc:=[(1000,some<|.box (j+1) 193 [.own 1001<|l 2,.own 1002<|l 3,rI E.cut]),(1001,some<|.arr (l 2) 100 4<|E.out.map AH.row),(1002,some<|.arr (l 3) 51 3<|E.add.map AC.row)]) (bs:=[.ptr 1000 (j+1) 0 0,rL Y.Elems,.r<|.sl []]) (caps:=[]) R R R R iL R ⟨.inl ⟨iL,R⟩,.inl ⟨iL,R⟩,.inr ⟨iL,R⟩,Za⟩ ⟨R,R,R,R,R,R,R,R,R,Za⟩ (by decide) (L0 cg) ?_
    intro ak n8
    refine Ay [13,14,15,16,17,71,72,73,74,75,76,77] [13,14,17,51,54,3130,3131,3140,3141] ?_
    exact aZ<|cf _<|Zn<|Ie.mk ch (AG [(aj 0),(aj 1),(ak 0),(ak 1),n8]) wk
   refine aT λcj=>aR<|mM R<|Zc X λdj al ck=>?_
   refine Zo [54] (hc:=[(1000,some<|.box (j+3) 196 [qd B.steps,rI B.used])]) (bs:=[.ptr 1000 (j+3) 0 0]) (caps:=[]) R R R R iL R ⟨.inl ⟨iL,R⟩,Za⟩ ⟨R,R,R,Za⟩ (by decide) (JT al) ?_
   intro dk n9
   refine Ay [13,14,15,16,62,63,64,65,66,79,80] [13,14,51,54,3130,3131,3140,3141] ?_
   refine xQ R<|mA R<|aZ<|cj _<|cI R ck (λZ=>?_) λZ=>?_
   ·refine aT λcl=>aG [13,14,15,16] [13,14,51,54,3130,3131,3140,3141] ?_
    refine aR<|mM R<|mM R<|Zc Z λcm an cn=>?_
    refine Zo [54] (hc:=[(1000,some<|.box (j+3) 196 [qd B.steps,rI B.used])]) (bs:=[.ptr 1000 (j+3) 0 0]) (caps:=[]) R R R R iL R ⟨.inl ⟨iL,R⟩,Za⟩ ⟨R,R,R,Za⟩ (by decide) (JB an) ?_
    intro i16 dm
    refine Ay [13,14,15,16,82,83,84] [13,14,51,54,3130,3131,3140,3141] ?_
    refine Ch cn λa0 w6 ao cp=>?_
    refine Zo [54] (hc:=[(1000,some<|.box (j+3) 196 [qd B.steps,rI B.used])]) (bs:=[.ptr 1000 (j+3) 0 0,rI cm]) (caps:=[]) R R R R iL R ⟨.inl ⟨iL,R⟩,.inl ⟨iL,R⟩,Za⟩ ⟨R,R,R,Za⟩ (by decide) (I0 ao) ?_
    intro dn dp
    refine Ay [13,14,15,16,82,83,84,85] [13,14,51,54,3130,3131,3140,3141] ?_
    refine sS R (Zq (cs:=Do) 18 R E0 R R)<|Zk R R (Zi (ds:=(BZ a0)) R E3 iL R iL R R R R)<|aZ<|cl _<|aT λcq=>aR<|lF Dz Br R R<|xL Ab R<|Zc cp λw7 cr cs=>?_
    refine Zo [13,3130,3131] (hc:=[(1000,some<|.box j 193 [.own 1001<|l 0,.own 1002<|l 1,rI C.cut]),(1001,some<|.arr (l 0) 100 4<|C.out.map AH.row),(1002,some<|.arr (l 1) 51 3<|C.add.map AC.row)]) (bs:=[.ptr 1000 j 0 0,rL a0.Elems,.r<|.sl []]) (caps:=[]) R R R R iL R ⟨.inl ⟨iL,R⟩,.inl ⟨iL,R⟩,.inr ⟨iL,R⟩,Za⟩ ⟨R,R,R,R,R,R,R,R,R,Za⟩ (by decide) (L0 cr) ?_
    intro aq dq
    refine Ay [13,14,15,16,18,82,83,84,85,86,87,88,89] [13,14,18,51,54,3130,3131,3140,3141] ?_
    refine aZ<|cq _<|aT λct=>aR<|lF Dz Br R R<|Zc cs λw8 cu cv=>?_
    refine Zo [14,3140,3141] (hc:=[(1000,some<|.box (j+1) 193 [.own 1001<|l 2,.own 1002<|l 3,rI E.cut]),(1001,some<|.arr (l 2) 100 4<|E.out.map AH.row),(1002,some<|.arr (l 3) 51 3<|E.add.map AC.row)]) (bs:=[.ptr 1000 (j+1) 0 0,qb a0.Elems]) (caps:=[]) R R R R iL R ⟨.inl ⟨iL,R⟩,.inl ⟨iL,R⟩,Za⟩ ⟨R,R,R,R,R,R,R,R,R,Za⟩ (by decide) (QN cu) ?_
    intro ar cw
    refine Ay [13,14,15,16,18,82,83,84,85,86,87,88,89,90,91,92] [13,14,18,51,54,3130,3131,3140,3141] ?_
    exact aZ<|ct _<|Zn<|Ie.mk cv (AG [(aq 0),(aq 1),(ar 0),(ar 1),cw]) wk
   refine Zd<|c1 _<|aT λcx=>aG [13,14,15,16] [13,14,51,54,3130,3131,3140,3141] ?_
   refine aR<|mM R<|Zc Z λI av cy=>?_
   refine Zo [51] (hc:=[(1000,some<|.box (j+2) 196 [qd A.steps,rI A.used])]) (bs:=[.ptr 1000 (j+2) 0 0]) (caps:=[]) R R R R iL R ⟨.inl ⟨iL,R⟩,Za⟩ ⟨R,R,R,Za⟩ (by decide) (JB av) ?_
   intro dr ds
   refine Ay [13,14,15,16,93,94] [13,14,51,54,3130,3131,3140,3141] ?_
   refine mM R<|Zc cy λJ aw cz=>?_
   refine Zo [54] (hc:=[(1000,some<|.box (j+3) 196 [qd B.steps,rI B.used])]) (bs:=[.ptr 1000 (j+3) 0 0]) (caps:=[]) R R R R iL R ⟨.inl ⟨iL,R⟩,Za⟩ ⟨R,R,R,Za⟩ (by decide) (JB aw) ?_
   intro dt du
   refine Ay [13,14,15,16,93,94,95,96] [13,14,51,54,3130,3131,3140,3141] ?_
   refine sQ R (LS R iL iL)<|mA R<|aZ<|cx _<|aT λd0=>aR<|mM R<|mM R<|Ch cz λax w9 ay d1=>?_
   refine Zo [51] (hc:=[(1000,some<|.box (j+2) 196 [qd A.steps,rI A.used])]) (bs:=[.ptr 1000 (j+2) 0 0,rI<|(min I J)]) (caps:=[]) R R R R iL R ⟨.inl ⟨iL,R⟩,.inl ⟨iL,R⟩,Za⟩ ⟨R,R,R,Za⟩ (by decide) (I0 ay) ?_
   intro dv dw
   refine Ay [13,14,15,16,19,93,94,95,96,97,98,99,100] [13,14,51,54,3130,3131,3140,3141] ?_
   refine mM R<|mM R<|Ch d1 λa2 dx az d2=>?_
   refine Zo [54] (hc:=[(1000,some<|.box (j+3) 196 [qd B.steps,rI B.used])]) (bs:=[.ptr 1000 (j+3) 0 0,rI<|(min I J)]) (caps:=[]) R R R R iL R ⟨.inl ⟨iL,R⟩,.inl ⟨iL,R⟩,Za⟩ ⟨R,R,R,Za⟩ (by decide) (I0 az) ?_
   intro dy a6
   refine Ay [13,14,15,16,19,93,94,95,96,97,98,99,100,101,102,103] [13,14,51,54,3130,3131,3140,3141] ?_
   refine sS R (Zq (cs:=Do) 20 R E0 R R)<|sS R (Zq (cs:=Do) 21 R E0 R R)<|Zk R R (Zi (ds:=(BZ ax)) R E3 iL R iL R R R R)<|Zk R R (Zi (ds:=(BZ a2)) R E3 iL R iL R R R R)<|aZ<|d0 _<|Zf<|aT λd3=>aG [13,14,15,16,19,20,21] [13,14,20,21,51,54,3130,3131,3140,3141] ?_
   refine aR<|lF Bt AI R R<|xQ R<|mM R<|vF Bt AI R R<|vQ R (Zs R (iR R) iL)<|xN R<|mA R<|aZ<|d3 _<|cI R d2 (λa7=>?_) λa7=>?_
   ·refine aT λd4=>aR<|mM R<|lF DZ A1 R R<|lF DZ A1 R R<|Zc a7 λb0 b2 d5=>sS R (ZJ (r:=qa b0) (caps:=[]) (bs:=[qa ax.Attrs,qa a2.Attrs]) R iL R ⟨.inl ⟨iL,R⟩,.inl ⟨iL,R⟩,Za⟩ λ_=>lZ<|b2)<|Zc d5 λdz b3 d6=>?_
    refine Zo [13,3130,3131] (hc:=[(1000,some<|.box j 193 [.own 1001<|l 0,.own 1002<|l 1,rI C.cut]),(1001,some<|.arr (l 0) 100 4<|C.out.map AH.row),(1002,some<|.arr (l 1) 51 3<|C.add.map AC.row)]) (bs:=[.ptr 1000 j 0 0,rI<|(min I J),qa b0]) (caps:=[]) R R R R iL R ⟨.inl ⟨iL,R⟩,.inl ⟨iL,R⟩,.inl ⟨iL,R⟩,Za⟩ ⟨R,R,R,R,R,R,R,R,R,Za⟩ (by decide) (L0 b3) ?_
    intro b4 e0
    refine Ay [13,14,15,16,19,20,21,104,105,106,107,108,112,113,114,115,116,117,118,119] [13,14,20,21,51,54,3130,3131,3140,3141] ?_
    refine aZ<|d4 _<|aG [13,14,15,16,19,21] [13,14,21,51,54,3130,3131,3140,3141] ?_
    refine aR<|mM R<|lF DZ A1 R R<|Zc d6 λe3 b5 d7=>?_
    refine Zo [14,3140,3141] (hc:=[(1000,some<|.box (j+1) 193 [.own 1001<|l 2,.own 1002<|l 3,rI E.cut]),(1001,some<|.arr (l 2) 100 4<|E.out.map AH.row),(1002,some<|.arr (l 3) 51 3<|E.add.map AC.row)]) (bs:=[.ptr 1000 (j+1) 0 0,rI<|(min I J),qa a2.Attrs]) (caps:=[]) R R R R iL R ⟨.inl ⟨iL,R⟩,.inl ⟨iL,R⟩,.inl ⟨iL,R⟩,Za⟩ ⟨R,R,R,R,R,R,R,R,R,Za⟩ (by decide) (L0 b5) ?_
    intro b6 d8
    refine Ay [13,14,15,16,19,21,120,121,122,123] [13,14,21,51,54,3130,3131,3140,3141] ?_
    exact Zh<|Ie.mk d7 (AG [(b4 0),(b4 1),(b6 0),(b6 1),d8]) wk
   refine aU<|lF Bt AI R R<|xQ R<|mA R<|aZ<|cI R a7 (λa8=>?_) λa8=>?_
   ·refine aG [13,14,15,16,19] [13,14,51,54,3130,3131,3140,3141] ?_
    exact aR<|lF FQ AI R R<|mM R<|Zc a8 λx6 d9 da=>xA R d9<|sQ R (fB R FQ iL fR R)<|Zk R R (Zi (ds:=[.own 3140<|l 2,.own 3141<|l 3,rI x6]) R Gl iL R iL R R R R)<|Zh<|Ie.mk da (AG [(l 0),(l 1),(l 2),(l 3),(a6+2)]) wk
   refine aT λdb=>aG [13,14,15,16,19,21] [13,14,21,51,54,3130,3131,3140,3141] ?_
   refine aR<|lF Bt AI R R<|xQ R<|mA R<|aZ<|db _<|cI R a8 (λaa=>?_) λaa=>?_
   ·exact aR<|lF FQ AI R R<|mM R<|Zc aa λx7 dc dd=>xA R dc<|sQ R (fB R FQ iL fR R)<|Zk R R (Zi (ds:=[.own 3130<|l 0,.own 3131<|l 1,rI x7]) R Gl iL R iL R R R R)<|Zh<|Ie.mk dd (AG [(l 0),(l 1),(l 2),(l 3),(a6+2)]) wk
   exact Zd<|Ie.mk aa (AG [(l 0),(l 1),(l 2),(l 3),(a6+2)]) wk
  exact Zn<|ac _ _ wk<|J1 _ _ (AG [(l 0),(l 1),(l 2),(l 3),(i9 0)])<|xH bt V
 refine AL.split ((decide<|0≤r9)==false) (λF=>?_) λF=>?_
 ·have ab:=Ba F ag
  refine AL.weak (by exact RS (e':=[(13,.ptr 13 j 0 0),(14,.ptr 14 (j+1) 0 0),(15,.ptr 51 (j+2) 0 0),(16,.ptr 54 (j+3) 0 0),(55,.ptr 51 (j+2) 0 0),(56,rI r9),(57,rB<|(decide<|0≤r9)),(58,rB<|(decide<|0≤r9)),(59,.ptr 54 (j+3) 0 0)]) F ⟨.inl R,.inl R,.inl R,.inl R,.inl R,.inl R,.inl R,.inl R,.inr iL,Za⟩) ?_
  refine Zc ab λe4 b7 de=>?_
  refine jK (.one R R R) F [54] (hc:=[(1000,some<|.box (j+3) 196 [qd B.steps,rI B.used])]) (bs:=[.ptr 1000 (j+3) 0 0]) (caps:=[]) R R R iL R ⟨.inl ⟨iL,R⟩,Za⟩ ⟨R,R,R,Za⟩ (by decide) (JT b7) ?_
  intro e5 df
  refine Ay [13,14,15,16,55,56,57,58,59,60] [13,14,51,54,3130,3131,3140,3141] ?_
  exact Hz (.one R R R) F R R (AP.spec (Ca R (.inl R)<|.inl R) _)<|sQ R (B1 R iL iL)<|Zh<|T _ _ wk<|J2 _ (AG [df]) (Zb de).symm
 ·have ab:=Be F ag
  exact Fv (.one R R R) F R R<|Fv (.one R R R) F R R<|xO R<|Zh<|T _ _ wk<|J2 _ (AG [n3]) (Zb ab).symm
theorem YF{F:List AD}{B:AD}{I:AD}{r:(List AD)}{j:Nat}{l:Nat}(h:Kh F B I=some r):BL prog 189 2 [.agg<|A4 B,.agg<|A4 I,.ptr 1000 j 0 0] [(1000,some<|.box j 39 [.own 1001 l]),(1001,some<|.arr l 58 2<|F.map AD.row)] (λJ h'=>∃(i:Nat→Nat),J=.tup []∧h'=[(1000,some<|.box j 39 [.own 1001<|i 0]),(1001,some<|.arr (i 0) 58 2<|r.map AD.row)]):=by
 unfold Kh at h
 refine DU func189 R R ntmps189 (Zw R) λC=>aU<|sS R (Zv (cs:=(A4 B)) 3 R iL R R)<|sS R (Zv (cs:=(A4 I)) 4 R iL R R)<|aZ<|aS λX Y w=>aU<|lF B0 A2 R R<|sQ R (ZI R iL iL)<|aZ<|Ar h λZ A M=>?_
 have U:∀(E:AD) (q:NN),Z=E→X ⟨[(2,.ptr 1000 j 0 0),(4,.ptr 4 (C+1) 0 0)],[(4,some<|.box (C+1) 58<|A4 E),(1000,some<|.box j 39 [.own 1001 l]),(1001,some<|.arr l 58 2<|F.map AD.row)],(q 0),13⟩:=by
  intro E q e
  have h1:=M _ e
  refine Y _<|aR<|sQ R (Zg (a:=.own 1001 l) R A1 iL R R)<|xC By R<|sS R (ZK 11 R AZ (f:=AD.row) (l:=([E]:List AD)) ⟨R,⟨_,iL,R⟩,Za⟩ R (λ_=>R) R)<|Zc h1 λV O h2=>sS R (B6 R AZ iL R (.inr<|.inl ⟨_,_,iL,R⟩) O)<|Zk R R (Zi (ds:=[.own 1001<|(q 0)+1]) R Fj iL R iL R R R R)<|Zh ?_
  exact ZM (s':=⟨[],[(1000,some<|.box j 39 [.own 1001<|(q 0)+1]),(1001,some<|.arr ((q 0)+1) 58 2<|V.map AD.row)],((q 0)+2),13⟩) wk<|ZE (λ(r:(List AD)) J h'=>∃(i:Nat→Nat),J=.tup []∧h'=[(1000,some<|.box j 39 [.own 1001<|i 0]),(1001,some<|.arr (i 0) 58 2<|r.map AD.row)]) h2<|by exact⟨.tup [],[(1000,some<|.box j 39 [.own 1001<|(q 0)+1]),(1001,some<|.arr ((q 0)+1) 58 2<|V.map AD.row)],⟨_,R,Za⟩,⟨.inr R,.inr R,Za⟩,R,R,AG [((q 0)+1)],R,R⟩
 refine aC R (λu=>?_) λu=>?_
 ·have T:=Ba u A
  exact aR<|xC By R<|Zk R R (Zi (ds:=(A4 B)) R I6 iL R iL R R R R)<|Zh<|w _ _ wk<|U _ (AG [(C+2)]) (Zb T).symm
 ·have T:=Be u A
  exact Zd<|w _ _ wk<|U _ (AG [(C+2)]) (Zb T).symm
theorem vT{c1:List AD}{B:List AD}{C:List AD}{r:(List AD)}{j:Nat}{l:Nat}(h:Ql c1 B C=some r):BL prog 144 2 [qa B,qa C,.fn 189 [.ptr 1000 j 0 0]] [(1000,some<|.box j 39 [.own 1001 l]),(1001,some<|.arr l 58 2<|c1.map AD.row)] (λE h'=>∃(i:Nat→Nat),E=.tup []∧h'=[(1000,some<|.box j 39 [.own 1001<|i 0]),(1001,some<|.arr (i 0) 58 2<|r.map AD.row)]):=by
 unfold Ql at h
 refine DU func144 R R ntmps144 (Zw R) λn0=>aU<|mA R<|mA R<|aZ<|Zf<|A5 h λo4 w av F=>H0 (λ(I:Int) (J:Int) (o2:List AD) q=>⟨[(0,qa B),(1,qa C),(2,.fn 189 [.ptr 1000 j 0 0]),(6,rI I),(7,rI J)],[(1000,some<|.box j 39 [.own 1001<|q 0]),(1001,some<|.arr (q 0) 58 2<|o2.map AD.row)],(q 1),92⟩) (AG [l,n0]) w wk ?_
 intro I J o2 q v1 M O
 have h1:PV B C I J o2=some v1:=M;unfold PV at h1
 refine aT λC2=>aU<|mM R<|mM R<|xL AZ R<|xS R<|mM R<|vM R<|vM R<|vQ R (Bd R AZ.slice<|iR R)<|vQ R (Bp R (iR R)<|iR R)<|xO R<|aZ<|cI R h1 (λT=>?_) λT=>?_
 ·refine Zd<|C2 _<|Zf<|Zf<|aT λC4=>?_
  refine ZA A8 (by kernel_rfl) ?_
  refine qP R (Ze R iL)<|qP R (Ze R iL)<|qP R (Bd R AZ.slice iL)<|qP R (Zs R iL iL)<|qP R (Ze R iL)<|qO R (Ze R iL)<|qO R (Ze R iL)<|qO R (Bd R AZ.slice<|iR R)<|qO R (Bp R (iR R)<|iR R)<|qO R (Ze R<|iR R)<|qT R (Ze R iL)<|qT R (Ze R iL)<|Zc T λx1 U h3=>qT R (Zr R AZ.slice (iR R) (iR R) (λ_=>R)<|AN U)<|qT R (Zl R B0<|iR R)<|qT R (ZB (d:=.str x1.Name) R A2 (iR R) R)<|qT R (Ze R iL)<|qT R (Ze R iL)<|Zc h3 λx2 V h4=>qT R (Zr R AZ.slice (iR R) (iR R) (λ_=>R)<|AN V)<|qT R (Zl R B0<|iR R)<|qT R (ZB (d:=.str x2.Name) R A2 (iR R) R)<|qT R (Jw R (iR R)<|iR R)<|qO R (ZG R (iR R)<|iR R)<|qP R (B1 R iL<|iR R)<|qP R (DQ R iL)<|AQ.nil<|C4 _<|cI R h4 (λX=>?_) λX=>?_
  ·refine aT λC5=>aG [0,1,2,6,7] [1000,1001] ?_
   refine aR<|mM R<|mM R<|mM R<|Zc X λx3 Y h6=>xI AZ R Y<|xB ((A4 x3)) By R ?_
   refine sQ R (ZD R Fy (q:=[]) (by exact Za) (cs:=[.r<|.str [],.r<|.str []])<|by rfl) ?_
   refine Zc h6 λw1 Z h7=>?_
   refine Zo [1000,1001] (hc:=[(1000,some<|.box j 39 [.own 1001<|q 0]),(1001,some<|.arr (q 0) 58 2<|o2.map AD.row)]) (bs:=(VS x3)) (caps:=[.ptr 1000 j 0 0]) R R R R iL R ⟨.inl ⟨iL,R⟩,.inl ⟨iL,R⟩,Za⟩ ⟨R,R,R,R,R,R,Za⟩ (by decide) (YF Z) ?_
   intro i8 n1
   refine Ay [0,1,2,6,7,56,57,58,59,60,61,62] [1000,1001] ?_
   exact aZ<|C5 _<|aR<|mM R<|Zc h7 λi9 a0 h8=>xA R a0<|mA R<|Zh<|DO.mk h8 (AG [(i8 0),n1]) wk
  refine aT λC6=>aG [0,1,2,6,7] [1000,1001] ?_
  refine ZA A8 (by kernel_rfl) ?_
  refine qP R (Ze R iL)<|qP R (Ze R iL)<|qP R (Bd R AZ.slice iL)<|qP R (Zs R iL iL)<|qP R (Ze R iL)<|qO R (Ze R iL)<|qO R (Ze R iL)<|Zc X λx4 a2 h9=>qO R (Zr R AZ.slice (iR R) (iR R) (λ_=>R)<|AN a2)<|qO R (Zl R B0<|iR R)<|qO R (ZB (d:=.str x4.Name) R A2 (iR R) R)<|qO R (Ze R iL)<|qO R (Ze R iL)<|Zc h9 λx5 a6 a7=>qO R (Zr R AZ.slice (iR R) (iR R) (λ_=>R)<|AN a6)<|qO R (Zl R B0<|iR R)<|qO R (ZB (d:=.str x5.Name) R A2 (iR R) R)<|qO R (Jw R (iR R)<|iR R)<|qP R (B1 R iL<|iR R)<|qP R (DQ R iL)<|AQ.nil<|C6 _<|cI R a7 (λu=>?_) λu=>?_
  ·refine aT λC7=>aR<|mM R ?_
   refine sQ R (ZD R Fy (q:=[]) (by exact Za) (cs:=[.r<|.str [],.r<|.str []])<|by rfl) ?_
   refine mM R<|mM R<|Zc u λx6 a8 aa=>xI AZ R a8<|xB ((A4 x6)) By R<|Zc aa λw2 ab ac=>?_
   refine Zo [1000,1001] (hc:=[(1000,some<|.box j 39 [.own 1001<|q 0]),(1001,some<|.arr (q 0) 58 2<|o2.map AD.row)]) (bs:=(Wr x6)) (caps:=[.ptr 1000 j 0 0]) R R R R iL R ⟨.inl ⟨iL,R⟩,.inl ⟨iL,R⟩,Za⟩ ⟨R,R,R,R,R,R,Za⟩ (by decide) (YF ab) ?_
   intro ad n2
   refine Ay [0,1,2,6,7,65,66,67,68,69,70,82,83,84,85,86,87,88,89] [1000,1001] ?_
   refine aZ<|C7 _<|aG [0,1,2,6,7] [1000,1001] ?_
   exact aR<|mM R<|Zc ac λj4 ae af=>xA R ae<|mA R<|Zh<|DO.mk af (AG [(ad 0),n2]) wk
  refine aT λC8=>?_
  refine Lm 9 A8 (by kernel_rfl) R R ?_
  refine Zt R R R (Ze R iL)<|Zt R R R (Ze R iL)<|Zt R R R (Ze R iL)<|Zc u λx7 ag ah=>Zt R R R (Zr R AZ.slice iL iL (λ_=>R) λ_=>ag)<|Zt R R R (ZN (cs:=(A4 x7)) R By iL R R)<|Zt R R R (Ze R iL)<|Zt R R R (Ze R iL)<|Zc ah λx8 ai aj=>Zt R R R (Zr R AZ.slice iL iL (λ_=>R) λ_=>ai)<|Zt R R R (ZN (cs:=(A4 x8)) R By iL R R)<|AT.nil<|Zc aj λw3 ak al=>?_
  refine Zo [1000,1001] (hc:=[(1000,some<|.box j 39 [.own 1001<|q 0]),(1001,some<|.arr (q 0) 58 2<|o2.map AD.row)]) (bs:=[.agg<|A4 x7,.agg<|A4 x8]) (caps:=[.ptr 1000 j 0 0]) R R R R iL R ⟨.inl ⟨iL,R⟩,.inl ⟨iL,R⟩,Za⟩ ⟨R,R,R,R,R,R,Za⟩ (by decide) (YF ak) ?_
  intro an n3
  refine Ay [0,1,2,6,7,18,19,20,21,22,23,24,25,26,27,65,66,67,68,69,70,82] [1000,1001] ?_
  refine aZ<|C8 _<|aG [0,1,2,6,7] [1000,1001] ?_
  exact aR<|mM R<|Zc al λaw A ao=>xA R A<|mM R<|Zc ao λj5 aq ar=>xA R aq<|mA R<|mA R<|Zh<|DO.mk ar (AG [(an 0),n3]) wk
 refine Zn ?_
 exact ZM (s':=⟨[],[(1000,some<|.box j 39 [.own 1001<|q 0]),(1001,some<|.arr (q 0) 58 2<|o2.map AD.row)],(q 1),92⟩) wk<|ZE (λ(r:(List AD)) E h'=>∃(i:Nat→Nat),E=.tup []∧h'=[(1000,some<|.box j 39 [.own 1001<|i 0]),(1001,some<|.arr (i 0) 58 2<|r.map AD.row)]) (F _<|xH O T)<|by exact⟨.tup [],[(1000,some<|.box j 39 [.own 1001<|q 0]),(1001,some<|.arr (q 0) 58 2<|o2.map AD.row)],⟨_,R,Za⟩,⟨.inr R,.inr R,Za⟩,R,R,AG [(q 0)],R,R⟩
theorem sF{l q r}(h:RD l q=some r):AM prog 156 [qa l,qa q] (qa r):=by
 unfold RD at h
 refine mF func156 ntmps156 R λj=>aU<|mA R<|aZ<|aU<|sS R (Zq (cs:=[cZ]) 5 R Xu R R)<|aZ<|aT λw=>aR<|mM R<|mM R ?_
 refine sQ R (N9 (bs:=[.ptr 5 j 0 0]) R<|by exact⟨iL,Za⟩) ?_
 refine AL.weak (Zm (Ek 5 0 3050 58 2 (by decide) R R<|by decide)<|by exact ZC (e':=[(0,qa l),(1,qa q),(4,cZ),(5,.ptr 5 j 0 0),(6,qa l),(7,qa q),(8,.fn 189 [.ptr 5 j 0 0])]) (h':=[(5,some<|.box j 39 [.own 3050<|j+1]),(3050,some<|.arr (j+1) 58 2<|([]:List AD).map AD.row)]) ⟨jL,jL,jL,jL,jL,jL,jL,Za⟩ ⟨.inl R,.inl R,Za⟩ nL) ?_
 refine Zc h λC u A=>?_
 refine Zo [5,3050] (hc:=[(1000,some<|.box j 39 [.own 1001<|j+1]),(1001,some<|.arr (j+1) 58 2<|([]:List AD).map AD.row)]) (bs:=[qa l,qa q,.fn 189 [.ptr 1000 j 0 0]]) (caps:=[]) R R R R iL R ⟨.inl ⟨iL,R⟩,.inl ⟨iL,R⟩,.inl ⟨iL,R⟩,Za⟩ ⟨R,R,R,R,R,R,Za⟩ (by decide) (vT u) ?_
 intro B E
 refine Ay [0,1,4,5,6,7,8,9] [5,3050] ?_
 exact aZ<|w _<|aU<|sQ R (Zg (a:=.own 3050<|B 0) R A1 iL R R)<|mA R<|aZ<|Zj<|CX (P:=prog) (λ(r:(List AD))=>qa r) A iL<|.t<|.one<|.own R
theorem kr{A c r}(h:Q6 A c=some r):AM prog 157 [qb A,qa c] (qb r):=by
 unfold Q6 at h
 refine mF func157 ntmps157 R λZ=>aU<|mA R<|aZ<|aU<|mM R<|xL Ab R<|Zc h λa0 u h1=>sS R (Sy 10 R Ab (f:=AC.row) (z0:=(AC.mk 0 0 [])) XV iL iL u)<|mA R<|aZ<|aS λK3 c3 F=>aU<|mM R<|xL Ab R<|mM R<|aZ<|Zf<|Ar h1 λo1 B I=>?_
 have J1:∀(j:List AC) (E:NN),o1=j→K3 ⟨[(5,.own 10<|E 0)],[(10,some<|.arr (E 0) 51 3<|j.map AC.row)],(E 1),29⟩:=by
  intro j E e
  have h2:=I _ e
  exact c3 _<|aU<|mM R<|mA R<|aZ<|Zj<|CX (P:=prog) (λ(r:(List AC))=>qb r) h2 iL<|.t<|.one<|.own R
 refine ZL (λ(J:Int) (l:List AC) q=>⟨[(1,qa c),(5,.own 10<|q 0),(11,qb A),(12,rL A),(13,rI J)],[(10,some<|.arr (q 0) 51 3<|l.map AC.row)],(q 1),29⟩) (AG [Z,(Z+1)]) B wk ?_
 intro J l q v1 M O
 have h3:JV A c J l=some v1:=M;unfold JV at h3
 refine aU<|xS R<|aZ<|aT λc7=>cI R h3 (λT=>?_) λT=>?_
 ·refine Zd<|c7 _<|aT λc8=>Zf<|aU<|mM R<|Zc T λw U h5=>xI Ab R U<|xB ((Aa w)) CK R<|sS R (Zq (cs:=EC) 7 R ED R R)<|mA R<|Zk R R (Zi (ds:=(Aa w)) R Cp iL R iL R R R R)<|aZ<|aU<|lF B9 A1 R R<|mM R<|Zc h5 λV X h6=>sS R (ZJ (r:=qa V) (caps:=[]) (bs:=[qa w.Attrs,qa c]) R iL R ⟨.inl ⟨iL,R⟩,.inl ⟨iL,R⟩,Za⟩ λ_=>XG<|X)<|sQ R (fB R B9 iL fR R)<|Zk R R (Zi (ds:=[rI w.Char,rI w.Ref,qa V]) R Fj iL R iL R R R R)<|aZ<|aG [1,5,6,7,11,12,13] [7,10] ?_
  exact aR<|mM R<|mM R<|xC CK R<|Zc h6 λx5 C h7=>sQ R (EJ R Ab.slice iL R iL λ_=>C)<|Zk R R (WS (v:=(AC.mk w.Char w.Ref V)) R Cp iL R C iL R R R R)<|aZ<|c8 _<|aR<|Zc h7 λx6 Y h8=>xA R Y<|mM R<|Zh<|ZH h8 (AG [(q 0),((q 1)+1)]) wk
 exact Zn<|F _ _ wk<|J1 _ (AG [(q 0),(q 1)])<|xH O T
theorem ku{B C r}(h:L5 B C=some r):AM prog 108 [qd B,qd C] (.tup [qd r.1,rI r.2]):=by
 unfold L5 at h
 refine mF func108 ntmps108 R λj=>aU<|mA R<|mA R<|aZ<|aT λc2=>aU<|mM R<|Zc h λe1 b4 h1=>cL (Oc<|b4) R<|mA R<|aZ<|aU<|mM R<|xU R<|aZ<|cI R h1 (λh2=>?_) λh2=>?_
 ·exact aU<|mM R<|mA R<|mA R<|aZ<|Zj<|CB (P:=prog) (λ(r:(List AH) × Int)=>qd r.1) (λ(r:(List AH) × Int)=>rI r.2) h2 iL (.t<|.one<|.nil)<|.t<|.d R
 refine Zd<|c2 _<|aT λc6=>aU<|mM R<|Zc h2 λe2 b5 h3=>cL (Oc<|b5) R<|mA R<|aZ<|aT λc8=>aF [0,1,7] ?_
 refine aR<|mM R<|xU R<|aZ<|c8 _<|cI R h3 (λh4=>?_) λh4=>?_
 ·exact aU<|mM R<|mA R<|mA R<|aZ<|Zj<|CB (P:=prog) (λ(r:(List AH) × Int)=>qd r.1) (λ(r:(List AH) × Int)=>rI r.2) h4 iL (.t<|.one<|.nil)<|.t<|.d R
 refine Zd<|c6 _<|aU<|mM R<|Ch h4 λr1 r2 b6 h5=>cL (RZ<|b6) R<|mM R<|xX R<|xX R<|mA R<|mA R<|aZ<|aT λb7=>aT λb8=>aF [0,1,9] ?_
 refine aR<|mM R<|Ch h5 λr3 r4 b9 h6=>cL (RZ<|b9) R<|mM R<|xX R<|xX R<|mA R<|mA R<|aZ<|b8 _<|aU<|mM R<|mM R<|xU R<|aZ<|cI R h6 (λh7=>?_) λh7=>?_
 ·refine aT λba=>aF [] ?_
  exact aR<|mA R<|mA R<|aZ<|ba _<|Zj<|CB (P:=prog) (λ(r:(List AH) × Int)=>qd r.1) (λ(r:(List AH) × Int)=>rI r.2) h7 iL (.t<|.one<|.nil)<|.t<|.d R
 refine Zd<|b7 _<|aT λbb=>aF [0,1] ?_
 refine aR<|sS R (Zq (cs:=Me) 12 R Sl R R)<|aZ<|bb _<|aT λbc=>aR<|mM R ?_
 refine sQ R (ZD R UD (q:=[(0,_)]) (by exact⟨R,R,R,iL,Za⟩) (cs:=[qd B,rI 0])<|by rfl) ?_
 refine sS R (Zv (cs:=[qd B,rI 0]) 43 R iL R R)<|mM R ?_
 refine sQ R (ZD R UD (q:=[(0,_)]) (by exact⟨R,R,R,iL,Za⟩) (cs:=[qd C,rI 0])<|by rfl) ?_
 refine sS R (Zv (cs:=[qd C,rI 0]) 46 R iL R R)<|mA R<|mA R<|aZ<|bc _<|aS λbd be a8=>Zf<|Ar h7 λo1 aa bf=>?_
 have J1:∀(I:Ac) (E:NN),o1=I→bd ⟨[(12,.ptr 12 j 0 0)],[(12,some<|.box j 193 [.own 3120<|E 0,.own 3121<|E 1,rI I.cut]),(3120,some<|.arr (E 0) 100 4<|I.out.map AH.row),(3121,some<|.arr (E 1) 51 3<|I.add.map AC.row)],(E 2),127⟩:=by
  intro I E e
  have h8:=bf _ e
  refine be _<|aT λbg=>aR<|IA h8 λr5 r6 w5 bh h9=>?_
  refine Zo [12,3120,3121] (hc:=[(1000,some<|.box j 193 [.own 1001<|E 0,.own 1002<|E 1,rI I.cut]),(1001,some<|.arr (E 0) 100 4<|I.out.map AH.row),(1002,some<|.arr (E 1) 51 3<|I.add.map AC.row)]) (bs:=[.ptr 1000 j 0 0]) (caps:=[]) R R R R iL R ⟨.inl ⟨iL,R⟩,Za⟩ ⟨R,R,R,R,R,R,R,R,R,Za⟩ (by decide) (S0 bh) ?_
  intro i6 n1
  refine Ay [12,124] [12] ?_
  exact xX R<|xX R<|mA R<|mA R<|aZ<|bg _<|Zj<|CB (P:=prog) (λ(r:(List AH) × Int)=>qd r.1) (λ(r:(List AH) × Int)=>rI r.2) h9 iL (.t<|.d R)<|.t<|.d R
 refine H0 (λ(u:Ac) (q:BM) (w:BM) l=>⟨[(12,.ptr 12 j 0 0),(13,.ptr 43 (j+1) 0 0),(14,.ptr 46 (j+2) 0 0)],[(12,some<|.box j 193 [.own 3120<|l 0,.own 3121<|l 1,rI u.cut]),(43,some<|.box (j+1) 196 [qd q.steps,rI q.used]),(46,some<|.box (j+2) 196 [qd w.steps,rI w.used]),(3120,some<|.arr (l 0) 100 4<|u.out.map AH.row),(3121,some<|.arr (l 1) 51 3<|u.add.map AC.row)],(l 2),127⟩) (AG [(j+3),(j+4),(j+5)]) aa (Zm (Zm (Ek 12 0 3120 100 4 (by decide) R R<|by decide)<|by exact ZC (e':=[(0,qd B),(1,qd C),(12,.ptr 12 j 0 0),(13,.ptr 43 (j+1) 0 0),(14,.ptr 46 (j+2) 0 0),(41,qd B),(42,.agg [qd B,rI 0]),(43,.ptr 43 (j+1) 0 0),(44,qd C),(45,.agg [qd C,rI 0]),(46,.ptr 46 (j+2) 0 0)]) (h':=[(12,some<|.box j 193 [.own 3120<|j+3,cZ,rI 0]),(43,some<|.box (j+1) 196 [qd B,rI 0]),(46,some<|.box (j+2) 196 [qd C,rI 0]),(3120,some<|.arr (j+3) 100 4<|([]:List AH).map AH.row)]) ⟨jL,jL,jL,jL,jL,jL,jL,jL,jL,jL,jL,Za⟩ ⟨.inl R,.inl R,.inl R,.inl R,Za⟩ nL)<|Zm (Zm (Ek 12 1 3121 51 3 (by decide) R R<|by decide)<|by exact ZC (e':=[(0,qd B),(1,qd C),(12,.ptr 12 j 0 0),(13,.ptr 43 (j+1) 0 0),(14,.ptr 46 (j+2) 0 0),(41,qd B),(42,.agg [qd B,rI 0]),(43,.ptr 43 (j+1) 0 0),(44,qd C),(45,.agg [qd C,rI 0]),(46,.ptr 46 (j+2) 0 0)]) (h':=[(12,some<|.box j 193 [.own 3120<|j+3,.own 3121<|j+4,rI 0]),(43,some<|.box (j+1) 196 [qd B,rI 0]),(46,some<|.box (j+2) 196 [qd C,rI 0]),(3120,some<|.arr (j+3) 100 4<|([]:List AH).map AH.row),(3121,some<|.arr (j+4) 51 3<|([]:List AC).map AC.row)]) ⟨jL,jL,jL,jL,jL,jL,jL,jL,jL,jL,jL,Za⟩ ⟨.inl R,.inl R,.inl R,.inl R,.inl R,Za⟩ nL) wk) ?_
 intro u q w l v1 bi bj
 have ab:NE u q w=some v1:=bi;unfold NE at ab
 refine aT λbk=>aS λbl bm J=>aR<|mM R<|Zc ab λr7 ac bn=>?_
 refine Zo [43] (hc:=[(1000,some<|.box (j+1) 196 [qd q.steps,rI q.used])]) (bs:=[.ptr 1000 (j+1) 0 0]) (caps:=[]) R R R R iL R ⟨.inl ⟨iL,R⟩,Za⟩ ⟨R,R,R,Za⟩ (by decide) (JT ac) ?_
 intro i7 n2
 refine Ay [12,13,14,47,48] [12,43,46,3120,3121] ?_
 refine sQ R (Ca R iL iL)<|mM R<|vM R<|Ar bn λp4 ad bo=>?_
 have J2:∀(x1:Bool) (i8:NN),p4=x1→bl ⟨[(12,.ptr 12 j 0 0),(13,.ptr 43 (j+1) 0 0),(14,.ptr 46 (j+2) 0 0),(54,rB x1)],[(12,some<|.box j 193 [.own 3120<|l 0,.own 3121<|l 1,rI u.cut]),(43,some<|.box (j+1) 196 [qd q.steps,rI q.used]),(46,some<|.box (j+2) 196 [qd w.steps,rI w.used]),(3120,some<|.arr (l 0) 100 4<|u.out.map AH.row),(3121,some<|.arr (l 1) 51 3<|u.add.map AC.row)],(i8 0),127⟩:=by
  intro x1 i8 e
  have bp:=bo _ e
  refine bm _<|cI R bp (λO=>?_) λO=>?_
  ·refine Zd<|bk _<|Zf<|aT λbq=>Zf<|aT λbr=>aR<|mM R ?_
   refine Zo [43] (hc:=[(1000,some<|.box (j+1) 196 [qd q.steps,rI q.used])]) (bs:=[.ptr 1000 (j+1) 0 0]) (caps:=[]) R R R R iL R ⟨.inl ⟨iL,R⟩,Za⟩ ⟨R,R,R,Za⟩ (by decide) (JT ac) ?_
   intro i9 n3
   refine Ay [12,13,14,54,56,57] [12,43,46,3120,3121] ?_
   refine xQ R<|mA R<|aZ<|br _<|cI R O (λT=>?_) λT=>?_
   ·refine aT λbs=>Zc T λr9 bt bu=>Ch bu λF w6 ae bv=>?_
    refine rP 7 [pO 59<|.ptr 12 j 0 2,pO 60<|rI u.cut,pO 61<|.ptr 43 (j+1) 0 0,pO 62<|.ptr 43 (j+1) 0 0,pO 63<|rI r9,⟨some 64,(λ_=>.agg<|BZ F),some (43,(λ_=>some<|.box (j+1) 196 [qd w6.steps,rI w6.used])),[]⟩,pO 65<|rI F.N] A8 R (by exact⟨oB [(12,.ptr 12 j 0 0)] [(12,some<|.box j 193 [.own 3120<|l 0,.own 3121<|l 1,rI u.cut])]<|fB R FQ (.inl R) (λ_=>R) R,oB [(59,.ptr 12 j 0 2)] [(12,some<|.box j 193 [.own 3120<|l 0,.own 3121<|l 1,rI u.cut])]<|Zg (a:=rI u.cut) R AI (.inl R) R R,oB [(13,.ptr 43 (j+1) 0 0)] [(43,some<|.box (j+1) 196 [qd q.steps,rI q.used])]<|Ze R<|.inl R,oB [(13,.ptr 43 (j+1) 0 0)] [(43,some<|.box (j+1) 196 [qd q.steps,rI q.used])]<|Ze R<|.inl R,jR R R (by intro d h;cases h;rfl) R (λ_=>[(62,.ptr 43 (j+1) 0 0)]) (λ_=>[(43,some<|.box (j+1) 196 [qd q.steps,rI q.used])]) (λD G1 M=>⟨QH M 3 R R (by kernel_rfl) R R,Za⟩) (λD G1 M=>⟨JI M (by kernel_rfl) R,Za⟩) (λ_ _=>R) λG1 e h' n=>⟨_,aM [43] (hc:=[(1000,some<|.box (j+1) 196 [qd q.steps,rI q.used])]) (bs:=[.ptr 1000 (j+1) 0 0]) (caps:=[]) R (.inl R) R (by exact⟨.inl ⟨(.inl R),R⟩,Za⟩) (by exact⟨R,R,R,Za⟩) (by decide)<|JB bt,rJ R⟩,YH R R (by intro d h;cases h;rfl) R (λ_=>[(61,.ptr 43 (j+1) 0 0),(63,rI r9)]) (λ_=>[(43,some<|.box (j+1) 196 [qd q.steps,rI q.used])]) (λD G1 M=>⟨QH M 2 R R (by kernel_rfl) R R,QH M 4 R R (by kernel_rfl) R R,Za⟩) (λD G1 M=>⟨JI M (by kernel_rfl) R,Za⟩) λG1 e h' n=>aM [43] (hc:=[(1000,some<|.box (j+1) 196 [qd q.steps,rI q.used])]) (bs:=[.ptr 1000 (j+1) 0 0,rI r9]) (caps:=[]) R (.inl R) R (by exact⟨.inl ⟨(.inl R),R⟩,.inl ⟨(.inl R),R⟩,Za⟩) (by exact⟨R,R,R,Za⟩) (by decide)<|I0 ae,oB [(64,.agg<|BZ F)] []<|OS (a:=rI F.N) R tq (.inl R) R,Za⟩) λG1 n4=>?_
    refine Ay [12,13,14,54,55,56,57,58,59,60,61,62,63,64,65] [12,43,46,3120,3121] ?_
    exact Zc bv λx2 bw bx=>xA R bw<|sQ R (fB R FQ iL fR R)<|Zk R R (Zi (ds:=[.own 3120<|l 0,.own 3121<|l 1,rI x2]) R Gl iL R iL R R R R)<|aZ<|bs _<|Zn<|DO.mk bx (AG [(l 0),(l 1),n4]) wk
   refine aT λbz=>aR<|mM R<|Zc T λcv af c0=>?_
   refine Zo [46] (hc:=[(1000,some<|.box (j+2) 196 [qd w.steps,rI w.used])]) (bs:=[.ptr 1000 (j+2) 0 0]) (caps:=[]) R R R R iL R ⟨.inl ⟨iL,R⟩,Za⟩ ⟨R,R,R,Za⟩ (by decide) (JT af) ?_
   intro cw n5
   refine Ay [12,13,14,54,55,56,57,58,69,70] [12,43,46,3120,3121] ?_
   refine xQ R<|mA R<|aZ<|bz _<|cI R c0 (λU=>?_) λU=>?_
   ·refine aT λc1=>aG [12,13,14] [12,43,46,3120,3121] ?_
    refine aR<|mM R<|mM R<|Zc U λc3 ag c4=>?_
    refine Zo [46] (hc:=[(1000,some<|.box (j+2) 196 [qd w.steps,rI w.used])]) (bs:=[.ptr 1000 (j+2) 0 0]) (caps:=[]) R R R R iL R ⟨.inl ⟨iL,R⟩,Za⟩ ⟨R,R,R,Za⟩ (by decide) (JB ag) ?_
    intro cx n6
    refine Ay [12,13,14,72,73,74] [12,43,46,3120,3121] ?_
    refine Ch c4 λah w7 ai c5=>?_
    refine Zo [46] (hc:=[(1000,some<|.box (j+2) 196 [qd w.steps,rI w.used])]) (bs:=[.ptr 1000 (j+2) 0 0,rI c3]) (caps:=[]) R R R R iL R ⟨.inl ⟨iL,R⟩,.inl ⟨iL,R⟩,Za⟩ ⟨R,R,R,Za⟩ (by decide) (I0 ai) ?_
    intro cy n7
    refine Ay [12,13,14,72,73,74,75] [12,43,46,3120,3121] ?_
    refine sQ R (OS (a:=qb ah.Elems) R nw iL R)<|Zc c5 λw8 c7 c9=>?_
    refine Zo [12,3120,3121] (hc:=[(1000,some<|.box j 193 [.own 1001<|l 0,.own 1002<|l 1,rI u.cut]),(1001,some<|.arr (l 0) 100 4<|u.out.map AH.row),(1002,some<|.arr (l 1) 51 3<|u.add.map AC.row)]) (bs:=[.ptr 1000 j 0 0,qb ah.Elems]) (caps:=[]) R R R R iL R ⟨.inl ⟨iL,R⟩,.inl ⟨iL,R⟩,Za⟩ ⟨R,R,R,R,R,R,R,R,R,Za⟩ (by decide) (QN c7) ?_
    intro aj n8
    refine Ay [12,13,14,72,73,74,75,76,77] [12,43,46,3120,3121] ?_
    exact aZ<|c1 _<|Zn<|DO.mk c9 (AG [(aj 0),(aj 1),n8]) wk
   refine Zd<|bq _<|aT λca=>aG [12,13,14] [12,43,46,3120,3121] ?_
   refine aR<|mM R<|Zc U λV ak cb=>?_
   refine Zo [43] (hc:=[(1000,some<|.box (j+1) 196 [qd q.steps,rI q.used])]) (bs:=[.ptr 1000 (j+1) 0 0]) (caps:=[]) R R R R iL R ⟨.inl ⟨iL,R⟩,Za⟩ ⟨R,R,R,Za⟩ (by decide) (JB ak) ?_
   intro cz n9
   refine Ay [12,13,14,78,79] [12,43,46,3120,3121] ?_
   refine mM R<|Zc cb λX al cc=>?_
   refine Zo [46] (hc:=[(1000,some<|.box (j+2) 196 [qd w.steps,rI w.used])]) (bs:=[.ptr 1000 (j+2) 0 0]) (caps:=[]) R R R R iL R ⟨.inl ⟨iL,R⟩,Za⟩ ⟨R,R,R,Za⟩ (by decide) (JB al) ?_
   intro d0 d1
   refine Ay [12,13,14,78,79,80,81] [12,43,46,3120,3121] ?_
   refine sQ R (LS R iL iL)<|mA R<|aZ<|ca _<|aT λcd=>aR<|mM R<|mM R<|Ch cc λY w9 an cf=>?_
   refine Zo [43] (hc:=[(1000,some<|.box (j+1) 196 [qd q.steps,rI q.used])]) (bs:=[.ptr 1000 (j+1) 0 0,rI<|(min V X)]) (caps:=[]) R R R R iL R ⟨.inl ⟨iL,R⟩,.inl ⟨iL,R⟩,Za⟩ ⟨R,R,R,Za⟩ (by decide) (I0 an) ?_
   intro i16 d2
   refine Ay [12,13,14,15,78,79,80,81,82,83,84,85] [12,43,46,3120,3121] ?_
   refine mM R<|mM R<|Ch cf λZ d3 ao cg=>?_
   refine Zo [46] (hc:=[(1000,some<|.box (j+2) 196 [qd w.steps,rI w.used])]) (bs:=[.ptr 1000 (j+2) 0 0,rI<|(min V X)]) (caps:=[]) R R R R iL R ⟨.inl ⟨iL,R⟩,.inl ⟨iL,R⟩,Za⟩ ⟨R,R,R,Za⟩ (by decide) (I0 ao) ?_
   intro d4 aq
   refine Ay [12,13,14,15,78,79,80,81,82,83,84,85,86,87,88] [12,43,46,3120,3121] ?_
   refine sS R (Zq (cs:=Do) 16 R E0 R R)<|sS R (Zq (cs:=Do) 17 R E0 R R)<|Zk R R (Zi (ds:=(BZ Y)) R E3 iL R iL R R R R)<|Zk R R (Zi (ds:=(BZ Z)) R E3 iL R iL R R R R)<|aZ<|cd _<|Zf<|aT λch=>aG [12,13,14,15,16,17] [12,16,17,43,46,3120,3121] ?_
   refine aR<|lF Bt AI R R<|xQ R<|mM R<|vF Bt AI R R<|vQ R (Zs R (iR R) iL)<|xN R<|mA R<|aZ<|ch _<|cI R cg (λa0=>?_) λa0=>?_
   ·refine aR<|mM R<|lF DZ A1 R R<|lF DZ A1 R R<|Zc a0 λar av cj=>sS R (ZJ (r:=qa ar) (caps:=[]) (bs:=[qa Y.Attrs,qa Z.Attrs]) R iL R ⟨.inl ⟨iL,R⟩,.inl ⟨iL,R⟩,Za⟩ λ_=>sF<|av)<|Zc cj λd5 aw ck=>?_
    refine Zo [12,3120,3121] (hc:=[(1000,some<|.box j 193 [.own 1001<|l 0,.own 1002<|l 1,rI u.cut]),(1001,some<|.arr (l 0) 100 4<|u.out.map AH.row),(1002,some<|.arr (l 1) 51 3<|u.add.map AC.row)]) (bs:=[.ptr 1000 j 0 0,rI<|(min V X),qa ar]) (caps:=[]) R R R R iL R ⟨.inl ⟨iL,R⟩,.inl ⟨iL,R⟩,.inl ⟨iL,R⟩,Za⟩ ⟨R,R,R,R,R,R,R,R,R,Za⟩ (by decide) (L0 aw) ?_
    intro ax cl
    refine Ay [12,13,14,15,16,17,89,90,91,92,93,97,98,99,100,101,102,103,104] [12,16,17,43,46,3120,3121] ?_
    exact Zh<|DO.mk ck (AG [(ax 0),(ax 1),cl]) wk
   refine aU<|lF Bt AI R R<|xQ R<|mA R<|aZ<|cI R a0 (λa2=>?_) λa2=>?_
   ·refine aG [12,13,14,15] [12,43,46,3120,3121] ?_
    exact aR<|lF FQ AI R R<|mM R<|Zc a2 λx3 cm cn=>xA R cm<|sQ R (fB R FQ iL fR R)<|Zk R R (Zi (ds:=[.own 3120<|l 0,.own 3121<|l 1,rI x3]) R Gl iL R iL R R R R)<|Zh<|DO.mk cn (AG [(l 0),(l 1),(aq+2)]) wk
   refine aT λcp=>aG [12,13,14,16,17] [12,16,17,43,46,3120,3121] ?_
   refine aR<|lF Bt AI R R<|xQ R<|mA R<|aZ<|cp _<|cI R a2 (λa6=>?_) λa6=>?_
   ·refine aR<|lF Dz Br R R<|lF DZ A1 R R<|Zc a6 λay az cq=>sS R (ZJ (r:=qb ay) (caps:=[]) (bs:=[qb Y.Elems,qa Z.Attrs]) R iL R ⟨.inl ⟨iL,R⟩,.inl ⟨iL,R⟩,Za⟩ λ_=>kr<|az)<|Zc cq λd6 b0 cr=>?_
    refine Zo [12,3120,3121] (hc:=[(1000,some<|.box j 193 [.own 1001<|l 0,.own 1002<|l 1,rI u.cut]),(1001,some<|.arr (l 0) 100 4<|u.out.map AH.row),(1002,some<|.arr (l 1) 51 3<|u.add.map AC.row)]) (bs:=[.ptr 1000 j 0 0,qb ay]) (caps:=[]) R R R R iL R ⟨.inl ⟨iL,R⟩,.inl ⟨iL,R⟩,Za⟩ ⟨R,R,R,R,R,R,R,R,R,Za⟩ (by decide) (QN b0) ?_
    intro b2 cs
    refine Ay [12,13,14,16,17,114,115,116,117,118,119,120,121,122,123] [12,16,17,43,46,3120,3121] ?_
    exact Zh<|DO.mk cr (AG [(b2 0),(b2 1),cs]) wk
   exact Zd<|DO.mk a6 (AG [(l 0),(l 1),(aq+2)]) wk
  exact Zn<|a8 _ _ wk<|J1 _ (AG [(l 0),(l 1),(i8 0)])<|xH bj O
 refine AL.split ((decide<|0≤r7)==false) (λA=>?_) λA=>?_
 ·have a7:=Ba A ad
  refine AL.weak (by exact RS (e':=[(12,.ptr 12 j 0 0),(13,.ptr 43 (j+1) 0 0),(14,.ptr 46 (j+2) 0 0),(47,.ptr 43 (j+1) 0 0),(48,rI r7),(49,rB<|(decide<|0≤r7)),(50,rB<|(decide<|0≤r7)),(51,.ptr 46 (j+2) 0 0)]) A ⟨.inl R,.inl R,.inl R,.inl R,.inl R,.inl R,.inl R,.inr iL,Za⟩) ?_
  refine Zc a7 λd7 b3 ct=>?_
  refine jK (.one R R R) A [46] (hc:=[(1000,some<|.box (j+2) 196 [qd w.steps,rI w.used])]) (bs:=[.ptr 1000 (j+2) 0 0]) (caps:=[]) R R R iL R ⟨.inl ⟨iL,R⟩,Za⟩ ⟨R,R,R,Za⟩ (by decide) (JT b3) ?_
  intro d8 cu
  refine Ay [12,13,14,47,48,49,50,51,52] [12,43,46,3120,3121] ?_
  exact Hz (.one R R R) A R R (AP.spec (Ca R (.inl R)<|.inl R) _)<|sQ R (B1 R iL iL)<|Zh<|J _ _ wk<|J2 _ (AG [cu]) (Zb ct).symm
 ·have a7:=Be A ad
  exact Fv (.one R R R) A R R<|Fv (.one R R R) A R R<|xO R<|Zh<|J _ _ wk<|J2 _ (AG [n2]) (Zb a7).symm
theorem jX{w:B2}{l:A9}{A:List AC}{r:(List A3) × A9 × Int}{j:Nat}(h:Qr w l A=some r):BL prog 52 1 [.ptr 1000 j 0 0,.agg<|Aw l,qb A] [(1000,some<|.box j 102<|A6 w)] (λM h'=>∃(i:Nat→Nat),M=.tup [qi r.1,.agg<|Aw r.2.1,rI r.2.2]∧h'=[(1000,some<|.box j 102<|A6 w)]):=by
 unfold Qr at h
 refine DU func52 R R ntmps52 (Zw R) λq=>aU<|sS R (Zv (cs:=(Aw l)) 4 R iL R R)<|mA R<|sS R (Zq (cs:=[rI 0,rI 0,rI 0]) 7 R Pe R R)<|mA R<|aZ<|aU<|mM R<|sQ R (Zp (ob:=.box _ _ _) R iL fR R)<|sQ R (fB R Rp iL fR R)<|lF EW Br R R<|mA R<|aZ<|aT λc3=>?_
 refine Lm 14 A8 (by kernel_rfl) R R ?_
 refine Zt R R R (Ze R iL)<|Zt R R R (Ze R iL)<|Zt R R R (Zp (ob:=.box _ _ _) R iL fR R)<|Zt R R R (fB R Nd iL fR R)<|Zt R R R (Zg (a:=.r<|.sl<|w.shown.map<|Ad .i64) R Ph iL R R)<|Zt R R R (fB R Gi iL fR R)<|Zt R R R (Zg (a:=rI l.From) R AI iL R R)<|Zt R R R (fB R Jb iL fR R)<|Zt R R R (Zg (a:=rI l.To) R AI iL R R)<|Zc h λl1 U h1=>?_
 refine Zt R R R (R7 R Bl.slice iL (by exact⟨_,iL⟩) (by exact⟨_,iL⟩) (λ_=>R) λ_=>U) ?_
 refine Zt R R R (Ze R iL)<|Zt R R R (Zp (ob:=.box _ _ _) R iL fR R)<|Zt R R R (fB R dO iL fR R)<|Zt R R R (Zg (a:=rS w.author) R A2 iL R R)<|AT.nil<|Zc h1 λB F h2=>sS R (ZJ (r:=qd B) (caps:=[]) (bs:=[qb w.node.Flow,.r<|.sl<|l1.map<|Ad .i64,rS w.author]) R iL R ⟨.inl ⟨iL,R⟩,.inl ⟨iL,R⟩,.inl ⟨iL,R⟩,Za⟩ λ_=>rj<|F)<|mA R<|aZ<|c3 _<|aT λc4=>aG [0,2,4,7,9,10] [4,7,1000] ?_
 refine ZA A8 (by kernel_rfl) ?_
 refine qP R (Ze R iL)<|qP R (Zp (ob:=.box _ _ _) R iL fR R)<|qP R (fB R Nd iL fR R)<|qP R (Zg (a:=.r<|.sl<|w.shown.map<|Ad .i64) R Ph iL R R)<|qP R (fB R Gi iL fR R)<|qP R (Zg (a:=rI l.From) R AI iL R R)<|Zc h2 λI O h3=>EQ R R R (r:=rI I) (caps:=[]) (bs:=[.r<|.sl<|w.shown.map<|Ad .i64,rI l.From]) R iL R ⟨⟨_,iL,.d R⟩,⟨_,iL,.d R⟩,Za⟩ (λ_=>u7<|O) R<|qP R (DQ R iL)<|AQ.nil<|c4 _<|aU<|mM R<|mM R<|mM R<|mM R<|sQ R (Zp (ob:=.box _ _ _) R iL fR R)<|lF dO A2 R R<|Zc h3 λJ T h4=>sS R (ZJ (r:=qd J) (caps:=[]) (bs:=[qb w.node.Flow,rI I,qb A,rS w.author]) R iL R ⟨.inl ⟨iL,R⟩,.inl ⟨iL,R⟩,.inl ⟨iL,R⟩,.inl ⟨iL,R⟩,Za⟩ λ_=>sp<|T)<|mA R<|aZ<|aT λc6=>aG [2,4,7,10,12] [4,7,1000] ?_
 refine aR<|mM R<|mM R<|IA h4 λr1 r2 V X h5=>sS R (ZJ (r:=.tup [qd r1,qd r2,rI V]) (caps:=[]) (bs:=[qd J,qd B]) R iL R ⟨.inl ⟨iL,R⟩,.inl ⟨iL,R⟩,Za⟩ λ_=>pr<|X)<|mM R<|xX R<|xX R<|xX R<|mA R<|mA R<|mA R<|aZ<|c6 _<|aT λc7=>aT λc8=>aG [2,4,7,10,13,15] [4,7,1000] ?_
 refine aR<|mM R<|xU R<|aZ<|c8 _<|cI R h5 (λY=>?_) λY=>?_
 ·refine aT λc9=>aR ?_
  refine sQ R (ZD R JP (q:=[]) (by exact Za) (cs:=[rI 0,rI 0,rI 0])<|by rfl) ?_
  refine mM R<|mA R<|Zk R R (Zi (ds:=[rI 0,rI 0,rI 0]) R Hd iL R iL R R R R)<|mA R<|oZ c9 ?_
  exact Zj<|ZM (s':=⟨[(6,.r<|.sl []),(7,.ptr 7 (q+1) 0 0),(8,rI V)],[(7,some<|.box (q+1) 26 [rI 0,rI 0,rI 0]),(1000,some<|.box j 102<|A6 w)],(q+2),89⟩) ((by exact ZC ⟨.inl<|.inr<|.inr ⟨R,R⟩,jL,jL,Za⟩ ⟨.inl R,.inl R,Za⟩ nL))<|ZE (λ(r:(List A3) × A9 × Int) M h'=>∃(i:Nat→Nat),M=.tup [qi r.1,.agg<|Aw r.2.1,rI r.2.2]∧h'=[(1000,some<|.box j 102<|A6 w)]) Y<|by exact⟨.tup [.r<|.sl [],.agg [rI 0,rI 0,rI 0],rI V],[(1000,some<|.box j 102<|A6 w)],⟨_,R,⟨R,.inr ⟨_,R,Df,_,_,_,R,R⟩,R,Za⟩⟩,⟨.inr R,Za⟩,R,R,AG [],R,R⟩
 refine Zd<|c7 _<|aU<|mM R<|mM R<|Ch Y λC Z a0 h7=>sS R (ZJ (r:=.tup [qd C,rI Z]) (caps:=[]) (bs:=[qd B,qd r1]) R iL R ⟨.inl ⟨iL,R⟩,.inl ⟨iL,R⟩,Za⟩ λ_=>ku<|a0)<|mM R<|xX R<|xX R<|mA R<|mA R<|aZ<|aT λa1=>aT λa2=>aG [2,4,7,15,16] [4,7,1000] ?_
 refine aR<|mM R<|xU R<|aZ<|a2 _<|cI R h7 (λh8=>?_) λh8=>?_
 ·refine aT λa6=>aR ?_
  refine sQ R (ZD R JP (q:=[]) (by exact Za) (cs:=[rI 0,rI 0,rI 0])<|by rfl) ?_
  refine mM R<|mA R<|Zk R R (Zi (ds:=[rI 0,rI 0,rI 0]) R Hd iL R iL R R R R)<|mA R<|oZ a6 ?_
  exact Zj<|ZM (s':=⟨[(6,.r<|.sl []),(7,.ptr 7 (q+1) 0 0),(8,rI Z)],[(7,some<|.box (q+1) 26 [rI 0,rI 0,rI 0]),(1000,some<|.box j 102<|A6 w)],(q+2),89⟩) ((by exact ZC ⟨.inl<|.inr<|.inr ⟨R,R⟩,jL,jL,Za⟩ ⟨.inl R,.inl R,Za⟩ nL))<|ZE (λ(r:(List A3) × A9 × Int) M h'=>∃(i:Nat→Nat),M=.tup [qi r.1,.agg<|Aw r.2.1,rI r.2.2]∧h'=[(1000,some<|.box j 102<|A6 w)]) h8<|by exact⟨.tup [.r<|.sl [],.agg [rI 0,rI 0,rI 0],rI Z],[(1000,some<|.box j 102<|A6 w)],⟨_,R,⟨R,.inr ⟨_,R,Df,_,_,_,R,R⟩,R,Za⟩⟩,⟨.inr R,Za⟩,R,R,AG [],R,R⟩
 refine Zd<|a1 _<|aU<|lF Gi AI R R<|mM R<|xL Ab R<|Zc h8 λu a7 h9=>xA R a7<|mA R<|aZ<|aT λa8=>aG [4,7,16,17] [4,7,1000] ?_
 refine Ip 11 [pO 79<|.ptr 4 q 0 0,pO 80<|rI l.Node,pO 81<|qd C,pO 82<|.agg [rI 2,rI l.Node,rI 0,rI 0,cZ,cZ,rI 0,rI 0,cZ,cZ,cZ,cZ,qd C,cZ,cZ,cZ,cZ,cZ,cZ],⟨some 83,(λE=>.own 83<|E 4),some (83,(λE=>some<|.arr (E 4) 76 19<|[(A3.mk 2 l.Node (Ae.mk 0 0 [] [] (BI.mk 0 0 [] []) []) [] C (D4.mk [] [] [] [] []) [])].map A3.row)),[4]⟩,pO 84<|.ptr 4 q 0 0,pO 85<|rI l.Node,pO 86<|rI u,pO 87<|rI u,pO 88<|.agg [rI l.Node,rI u,rI u],⟨some 6,(λE=>.own 83<|E 4),none,[4]⟩] A8 (by kernel_rfl) (by exact⟨λ_ _ h=>⟨R,λ_ _ e=>by cases e⟩,λ_ _ h=>⟨R,λ_ _ e=>by cases e⟩,λ_ _ h=>⟨R,λ_ _ e=>by cases e⟩,λ_ _ h=>⟨R,λ_ _ e=>by cases e⟩,λ_ _ h=>⟨by simp only[h 4 R],λ_ _ e=>by cases e;simp only[h 4 R]⟩,λ_ _ h=>⟨R,λ_ _ e=>by cases e⟩,λ_ _ h=>⟨R,λ_ _ e=>by cases e⟩,λ_ _ h=>⟨R,λ_ _ e=>by cases e⟩,λ_ _ h=>⟨R,λ_ _ e=>by cases e⟩,λ_ _ h=>⟨R,λ_ _ e=>by cases e⟩,λ_ _ h=>⟨by simp only[h 4 R],λ_ _ e=>by cases e⟩,Za⟩) R (by exact⟨oB [(4,.ptr 4 q 0 0)] [(4,some<|.box q 26<|Aw l)]<|fB R KJ (.inl R) (λ_=>R) R,oB [(79,.ptr 4 q 0 0)] [(4,some<|.box q 26<|Aw l)]<|Zg (a:=rI l.Node) R AI (.inl R) R R,oB [(16,qd C)] []<|Ze R<|.inl R,oB [(80,rI l.Node),(81,qd C)] []<|ZD R pg (q:=[(0,_),(1,_),(12,_)]) (by exact⟨R,R,R,(.inl R),R,R,R,(.inl R),R,R,R,(.inl R),Za⟩) (cs:=[rI 2,rI l.Node,rI 0,rI 0,cZ,cZ,rI 0,rI 0,cZ,cZ,cZ,cZ,qd C,cZ,cZ,cZ,cZ,cZ,cZ])<|by rfl,oM (λ_=>[(82,.agg [rI 2,rI l.Node,rI 0,rI 0,cZ,cZ,rI 0,rI 0,cZ,cZ,cZ,cZ,qd C,cZ,cZ,cZ,cZ,cZ,cZ])]) (λ_=>[]) R λE e h' n=>ZK 83 R Fu (f:=A3.row) (l:=([(A3.mk 2 l.Node (Ae.mk 0 0 [] [] (BI.mk 0 0 [] []) []) [] C (D4.mk [] [] [] [] []) [])]:List A3)) ⟨R,⟨_,(.inl R),R⟩,Za⟩ R (λ_=>R) R,oB [(4,.ptr 4 q 0 0)] [(4,some<|.box q 26<|Aw l)]<|fB R KJ (.inl R) (λ_=>R) R,oB [(84,.ptr 4 q 0 0)] [(4,some<|.box q 26<|Aw l)]<|Zg (a:=rI l.Node) R AI (.inl R) R R,oB [(17,rI u)] []<|Ze R<|.inl R,oB [(17,rI u)] []<|Ze R<|.inl R,oB [(85,rI l.Node),(86,rI u),(87,rI u)] []<|ZD R JP (q:=[(0,_),(1,_),(2,_)]) (by exact⟨R,R,R,(.inl R),R,R,R,(.inl R),R,R,R,(.inl R),Za⟩) (cs:=[rI l.Node,rI u,rI u])<|by rfl,oC (λE=>[(83,.own 83<|E 4)]) (λE=>[(83,some<|.arr (E 4) 76 19<|[(A3.mk 2 l.Node (Ae.mk 0 0 [] [] (BI.mk 0 0 [] []) []) [] C (D4.mk [] [] [] [] []) [])].map A3.row)]) λE e h'=>DQ R<|.inl R,Za⟩) λE n2=>?_
 refine Ay [4,6,7,16,17,79,80,81,82,83,84,85,86,87,88] [4,7,83,1000] ?_
 refine Zk R R (Zi (ds:=[rI l.Node,rI u,rI u]) R Hd iL R iL R R R R)<|mA R<|oZ a8 ?_
 exact Zj<|ZM (s':=⟨[(6,.r<|.sl<|[(A3.mk 2 l.Node (Ae.mk 0 0 [] [] (BI.mk 0 0 [] []) []) [] C (D4.mk [] [] [] [] []) [])].map A3.row),(7,.ptr 7 (q+1) 0 0),(8,rI 0)],[(7,some<|.box (q+1) 26 [rI l.Node,rI u,rI u]),(1000,some<|.box j 102<|A6 w)],n2,89⟩) (Zm (by exact Ag.frz (e':=[(4,.ptr 4 q 0 0),(6,.r<|.sl<|[(A3.mk 2 l.Node (Ae.mk 0 0 [] [] (BI.mk 0 0 [] []) []) [] C (D4.mk [] [] [] [] []) [])].map A3.row),(7,.ptr 7 (q+1) 0 0),(8,rI 0),(16,qd C),(17,rI u),(79,.ptr 4 q 0 0),(80,rI l.Node),(81,qd C),(82,.agg [rI 2,rI l.Node,rI 0,rI 0,cZ,cZ,rI 0,rI 0,cZ,cZ,cZ,cZ,qd C,cZ,cZ,cZ,cZ,cZ,cZ]),(83,.r<|.sl<|[(A3.mk 2 l.Node (Ae.mk 0 0 [] [] (BI.mk 0 0 [] []) []) [] C (D4.mk [] [] [] [] []) [])].map A3.row),(84,.ptr 4 q 0 0),(85,rI l.Node),(86,rI u),(87,rI u),(88,.agg [rI l.Node,rI u,rI u])]) (h':=[(4,some<|.box q 26<|Aw l),(7,some<|.box (q+1) 26 [rI l.Node,rI u,rI u]),(1000,some<|.box j 102<|A6 w)]) 83 R ⟨jL,.inl<|.inr<|.inr ⟨R,R⟩,jL,jL,jL,jL,jL,jL,jL,jL,.inl<|.inr<|.inr ⟨R,R⟩,jL,jL,jL,jL,jL,Za⟩ ⟨R,.inl R,R,.inl R,R,.inl R,Za⟩) wk)<|ZE (λ(r:(List A3) × A9 × Int) M h'=>∃(i:Nat→Nat),M=.tup [qi r.1,.agg<|Aw r.2.1,rI r.2.2]∧h'=[(1000,some<|.box j 102<|A6 w)]) h9<|by exact⟨.tup [.r<|.sl<|[(A3.mk 2 l.Node (Ae.mk 0 0 [] [] (BI.mk 0 0 [] []) []) [] C (D4.mk [] [] [] [] []) [])].map A3.row,.agg [rI l.Node,rI u,rI u],rI 0],[(1000,some<|.box j 102<|A6 w)],⟨_,R,⟨R,.inr ⟨_,R,Df,_,_,_,R,R⟩,R,Za⟩⟩,⟨.inr R,Za⟩,R,R,AG [],R,R⟩
theorem iA{d1 w b c r}(h:Eu d1 w b c=some r):AM prog 11 [.agg [qg d1.Nodes],.agg<|Aw w,rS b,rS c] (.tup [qi r.1,.agg<|Aw r.2.1,rI r.2.2]):=by
 unfold Eu at h
 refine mF func11 ntmps11 R λl=>aU<|sS R (Zv (cs:=[qg d1.Nodes]) 4 R iL R R)<|sS R (Zv (cs:=(Aw w)) 5 R iL R R)<|mA R<|sS R (Zq (cs:=[rI 0,rI 0,rI 0]) 9 R Pe R R)<|mA R<|aZ<|aU<|xC Dk R<|xC Df R<|mM R<|Ch h λA r2 X h1=>sS R (ZJ (r:=.tup [.agg<|A6 A,rI r2]) (caps:=[]) (bs:=[.agg [qg d1.Nodes],.agg<|Aw w,rS c]) R iL R ⟨.inl ⟨iL,R⟩,.inl ⟨iL,R⟩,.inl ⟨iL,R⟩,Za⟩ λ_=>ex<|X)<|mM R<|xX R<|xX R<|sS R (Zq (cs:=FV) 11 R SE R R)<|Zk R R (Zi (ds:=(A6 A)) R H1 iL R iL R R R R)<|mA R<|aZ<|aT λc3=>aT λc4=>aG [2,5,9,11,12] [5,9,11] ?_
 refine aR<|mM R<|xU R<|aZ<|c4 _<|cI R h1 (λY=>?_) λY=>?_
 ·refine aT λc5=>aR ?_
  refine sQ R (ZD R JP (q:=[]) (by exact Za) (cs:=[rI 0,rI 0,rI 0])<|by rfl) ?_
  exact mM R<|mA R<|Zk R R (Zi (ds:=[rI 0,rI 0,rI 0]) R Hd iL R iL R R R R)<|mA R<|aZ<|c5 _<|Zj<|HE (P:=prog) (λ(r:(List A3) × A9 × Int)=>qi r.1) (λ(r:(List A3) × A9 × Int)=>.agg<|Aw r.2.1) (λ(r:(List A3) × A9 × Int)=>rI r.2.2) Y iL (.t<|.one<|.nil) (.a Df R R R<|.g (cs:=[.int .i64 0,.int .i64 0,.int .i64 0]) R R)<|.t<|.d R
 refine Zd<|c3 _<|aT λc6=>aU<|mM R<|sQ R (ZO R underlying9 iL)<|sQ R (Zy R iL iL)<|aZ<|cI R Y (λZ=>?_) λZ=>?_
 ·refine aT λc8=>aG [9] [9] ?_
  refine aR ?_
  refine sQ R (ZD R JP (q:=[]) (by exact Za) (cs:=[rI 0,rI 0,rI 0])<|by rfl) ?_
  exact mA R<|Zk R R (Zi (ds:=[rI 0,rI 0,rI 0]) R Hd iL R iL R R R R)<|mA R<|aZ<|c8 _<|Zj<|HE (P:=prog) (λ(r:(List A3) × A9 × Int)=>qi r.1) (λ(r:(List A3) × A9 × Int)=>.agg<|Aw r.2.1) (λ(r:(List A3) × A9 × Int)=>rI r.2.2) Z iL (.t<|.one<|.nil) (.a Df R R R<|.g (cs:=[.int .i64 0,.int .i64 0,.int .i64 0]) R R)<|.t<|.d R
 refine Zd<|c6 _<|aT λc9=>aR<|mM R<|lF Gi AI R R<|Zc Z λr3 a0 h4=>?_
 refine Zo [11] (hc:=[(1000,some<|.box (l+3) 102<|A6 A)]) (bs:=[.ptr 1000 (l+3) 0 0,rI w.From]) (caps:=[]) R R R R iL R ⟨.inl ⟨iL,R⟩,.inl ⟨iL,R⟩,Za⟩ ⟨R,R,R,Za⟩ (by decide) (nZ a0) ?_
 intro i1 n1
 refine Ay [2,5,9,11,12,22,23,26,27,28,31,32,33,34] [5,9,11] ?_
 refine Ch h4 λr4 w1 a1 h5=>?_
 refine Zo [35] (hc:=[]) (bs:=[rS b,qa r3]) (caps:=[]) R R R R iL R ⟨.inl ⟨iL,R⟩,.inl ⟨iL,R⟩,Za⟩ Za (by decide) (nV a1) ?_
 intro i2 n2
 refine Ay [2,5,9,11,12,22,23,26,27,28,31,32,33,34,35] [5,9,11,35] ?_
 refine mM R<|xX R<|xX R<|mA R<|mA R<|aZ<|c9 _<|aT λa2=>aT λa6=>aG [5,9,11,12,13] [5,9,11,35] ?_
 refine aR<|mM R<|xU R<|aZ<|a6 _<|cI R h5 (λh6=>?_) λh6=>?_
 ·refine aT λa7=>aR ?_
  refine sQ R (ZD R JP (q:=[]) (by exact Za) (cs:=[rI 0,rI 0,rI 0])<|by rfl) ?_
  exact mM R<|mA R<|Zk R R (Zi (ds:=[rI 0,rI 0,rI 0]) R Hd iL R iL R R R R)<|mA R<|aZ<|a7 _<|Zj<|HE (P:=prog) (λ(r:(List A3) × A9 × Int)=>qi r.1) (λ(r:(List A3) × A9 × Int)=>.agg<|Aw r.2.1) (λ(r:(List A3) × A9 × Int)=>rI r.2.2) h6 iL (.t<|.one<|.nil) (.a Df R R R<|.g (cs:=[.int .i64 0,.int .i64 0,.int .i64 0]) R R)<|.t<|.d R
 refine Zd<|a2 _<|aS λa8 aa M=>aU<|mM R<|sQ R (Kx R Ab.slice iL R)<|mM R<|aZ<|Zf<|Ar h6 λo1 O ab=>?_
 have J1:∀(j:List AC) (T:NN),o1=j→a8 ⟨[(5,.ptr 5 (l+1) 0 0),(9,.ptr 9 (l+2) 0 0),(11,.ptr 11 (l+3) 0 0),(13,.own 35<|T 0)],[(5,some<|.box (l+1) 26<|Aw w),(9,some<|.box (l+2) 26 [rI 0,rI 0,rI 0]),(11,some<|.box (l+3) 102<|A6 A),(35,some<|.arr (T 0) 51 3<|j.map AC.row)],(T 1),67⟩:=by
  intro j T e
  have h7:=ab _ e
  refine aa _<|aT λac=>aR<|xC Df R<|mM R ?_
  refine AL.weak (by exact Ag.frz (e':=[(5,.ptr 5 (l+1) 0 0),(9,.ptr 9 (l+2) 0 0),(11,.ptr 11 (l+3) 0 0),(13,qb j),(61,.agg<|Aw w),(62,qb j)]) (h':=[(5,some<|.box (l+1) 26<|Aw w),(9,some<|.box (l+2) 26 [rI 0,rI 0,rI 0]),(11,some<|.box (l+3) 102<|A6 A)]) 35 R ⟨jL,jL,jL,.inl<|.inr<|.inr ⟨R,R⟩,jL,.inl<|.inr<|.inr ⟨R,R⟩,Za⟩ ⟨R,.inl R,R,.inl R,R,.inl R,Za⟩) ?_
  refine IA h7 λr5 U r7 ad h8=>?_
  refine Zo [11] (hc:=[(1000,some<|.box (l+3) 102<|A6 A)]) (bs:=[.ptr 1000 (l+3) 0 0,.agg<|Aw w,qb j]) (caps:=[]) R R R R iL R ⟨.inl ⟨iL,R⟩,.inl ⟨iL,R⟩,.inl ⟨iL,R⟩,Za⟩ ⟨R,R,R,Za⟩ (by decide) (jX ad) ?_
  intro i8 n3
  refine Ay [5,9,11,13,61,62,63] [5,9,11] ?_
  exact xX R<|xX R<|xX R<|mA R<|Zk R R (Zi (ds:=(Aw U)) R Hd iL R iL R R R R)<|mA R<|aZ<|ac _<|Zj<|HE (P:=prog) (λ(r:(List A3) × A9 × Int)=>qi r.1) (λ(r:(List A3) × A9 × Int)=>.agg<|Aw r.2.1) (λ(r:(List A3) × A9 × Int)=>rI r.2.2) h8 iL (.t<|.d R) (.a Df R R R<|.g (cs:=[.int .i64 U.Node,.int .i64 U.From,.int .i64 U.To]) R R)<|.t<|.d R
 refine ZL (λ(V:Int) (q:List AC) B=>⟨[(5,.ptr 5 (l+1) 0 0),(9,.ptr 9 (l+2) 0 0),(11,.ptr 11 (l+3) 0 0),(13,.own 35<|B 0),(43,rL w1),(44,rI V)],[(5,some<|.box (l+1) 26<|Aw w),(9,some<|.box (l+2) 26 [rI 0,rI 0,rI 0]),(11,some<|.box (l+3) 102<|A6 A),(35,some<|.arr (B 0) 51 3<|q.map AC.row)],(B 1),67⟩) (AG [(i2 0),n2]) O wk ?_
 intro V q B v1 ae af
 have h9:LX w A w1 V q=some v1:=ae;unfold LX at h9
 refine aU<|xS R<|aZ<|aT λag=>cI R h9 (λF=>?_) λF=>?_
 ·refine Zd<|ag _<|aS λah ai E=>Zf<|Ar F λp1 aj ak=>?_
  have J2:∀(u:List AC) (J:NN),p1=u→ah ⟨[(5,.ptr 5 (l+1) 0 0),(9,.ptr 9 (l+2) 0 0),(11,.ptr 11 (l+3) 0 0),(13,.own 35<|J 0),(43,rL w1),(44,rI V)],[(5,some<|.box (l+1) 26<|Aw w),(9,some<|.box (l+2) 26 [rI 0,rI 0,rI 0]),(11,some<|.box (l+3) 102<|A6 A),(35,some<|.arr (J 0) 51 3<|u.map AC.row)],(J 1),67⟩:=by
   intro u J e
   have al:=ak _ e
   exact ai _<|aR<|Zc al λx4 an ao=>xA R an<|mM R<|Zh<|ZH ao (AG [(J 0),(J 1)]) wk
  refine aU<|mM R<|mA R<|aZ<|aU<|mM R<|mM R<|Zc aj λx5 C aq=>sQ R (EJ R Ab.slice iL R iL λ_=>C)<|sQ R (FG (ob:=.arr _ _ _ _) R De iL fR R)<|sQ R (I3 (d:=.int .i64 x5.Char) R AI iL fR (λ_=>C) R)<|xQ R<|aZ<|cI R aq (λI=>?_) λI=>?_
  ·refine aR<|mM R<|mM R<|lF Jb AI R R<|Zc I λr8 ar av=>?_
   refine Zo [11] (hc:=[(1000,some<|.box (l+3) 102<|A6 A)]) (bs:=[.ptr 1000 (l+3) 0 0,rI w.To]) (caps:=[]) R R R R iL R ⟨.inl ⟨iL,R⟩,.inl ⟨iL,R⟩,Za⟩ ⟨R,R,R,Za⟩ (by decide) (nS ar) ?_
   intro aw n4
   refine Ay [5,9,11,13,14,43,44,45,46,47,48,51,52,53,54,55,56,57] [5,9,11,35] ?_
   exact sQ R (EJ R Ab.slice iL R iL λ_=>C)<|sQ R (FG (ob:=.arr _ _ _ _) R B9 iL fR R)<|Zk R R (Kq (v:=(AC.mk x5.Char x5.Ref r8)) R Fj iL R C iL R R R R)<|Zh<|E _ _ wk<|J2 _ (AG [(B 0),n4]) (Zb av).symm
  exact Zd<|E _ _ wk<|J2 _ (AG [(B 0),(B 1)]) (Zb I).symm
 exact Zn<|M _ _ wk<|J1 _ (AG [(B 0),(B 1)])<|xH af F
theorem lc{d1 l b r}(h:ND d1 l b=some r):AM prog 12 [.agg [qg d1.Nodes],.agg<|Aw l,rS b] (.tup [qi r.1,.agg<|Aw r.2.1,rI r.2.2]):=by
 unfold ND at h
 exact mF func12 ntmps12 R λB=>aU<|sS R (Zv (cs:=[qg d1.Nodes]) 3 R iL R R)<|sS R (Zv (cs:=(Aw l)) 4 R iL R R)<|mA R<|sS R (Zq (cs:=[rI 0,rI 0,rI 0]) 7 R Pe R R)<|mA R<|aZ<|aU<|xC Dk R<|xC Df R<|mM R<|IA h λu j w q A=>sS R (ZJ (r:=.tup [qi u,.agg<|Aw j,rI w]) (caps:=[]) (bs:=[.agg [qg d1.Nodes],.agg<|Aw l,.r<|.str [],rS b]) R iL R ⟨.inl ⟨iL,R⟩,.inl ⟨iL,R⟩,.inl ⟨iL,R⟩,.inl ⟨iL,R⟩,Za⟩ λ_=>iA<|q)<|xX R<|xX R<|xX R<|mA R<|Zk R R (Zi (ds:=(Aw j)) R Hd iL R iL R R R R)<|mA R<|aZ<|Zj<|HE (P:=prog) (λ(r:(List A3) × A9 × Int)=>qi r.1) (λ(r:(List A3) × A9 × Int)=>.agg<|Aw r.2.1) (λ(r:(List A3) × A9 × Int)=>rI r.2.2) A iL (.t<|.d R) (.a Df R R R<|.g (cs:=[.int .i64 j.Node,.int .i64 j.From,.int .i64 j.To]) R R)<|.t<|.d R
theorem L1{j u r}(h:Fe j u=some r):AM prog 78 [qa j,qa u] (rB r):=by
 unfold Fe at h
 refine mF func78 ntmps78 R λn0=>aU<|mA R<|aZ<|aT λc2=>aU<|mM R<|xL AZ R<|mM R<|xL AZ R<|xU R<|aZ<|cI R h (λA=>?_) λA=>?_
 ·exact zB A R id
 refine Zd<|c2 _<|aS λK5 c5 B=>aU<|mM R<|xL AZ R<|mM R<|aZ<|Zf<|A5 A λo1 l C E=>?_
 have J1:∀(Y:Unit) (Z:NN),o1=.nrm Y→K5 ⟨[],[],(Z 0),26⟩:=by
  intro Y Z e
  have h2:=C _ e
  exact c5 _<|zB h2 R id
 refine Zz (λ(F:Int) w=>⟨[(0,qa j),(1,qa u),(12,rL j),(13,rI F)],[],(w 0),26⟩) (AG [n0]) l wk ?_
 intro F w v1 I q
 have h3:O3 j u F=some v1:=I;unfold O3 at h3
 refine aU<|xS R<|aZ<|aT λc9=>cI R h3 (λJ=>?_) λJ=>?_
 ·refine Zd<|c9 _<|aT λM=>Zf<|aU<|mM R<|mA R<|aZ<|aT λO=>?_
  refine ZA A8 (by kernel_rfl) ?_
  refine qP R (Ze R iL)<|qP R (Ze R iL)<|Zc J λx4 T h5=>qP R (Zr R AZ.slice iL iL (λ_=>R) λ_=>T)<|qP R (ZN (cs:=(A4 x4)) R By iL R R)<|qP R (Ze R iL)<|qP R (Ze R iL)<|Zc h5 λx5 U h6=>qP R (Zr R AZ.slice iL iL (λ_=>R) λ_=>U)<|qP R (ZN (cs:=(A4 x5)) R By iL R R)<|qP R (Jo R Yg iL iL R)<|AQ.nil<|O _<|cI R h6 (λV=>?_) λV=>?_
  ·exact zB (E _<|xH q V) R id
  refine Zd<|M _<|aF [0,1,12,13] ?_
  exact aR<|Zc V λx6 X h8=>xA R X<|mM R<|Zh<|Zx h8 (AG [(w 0)]) wk
 exact Zn<|B _ _ wk<|J1 _ (AG [(w 0)])<|xH q J
theorem nX{j l r}(h:Pv j l=some r):AM prog 114 [.agg<|Aa j,.agg<|Aa l] (rB r):=by
 unfold Pv at h
 exact mF func114 ntmps114 R λw=>aU<|sS R (Zv (cs:=(Aa j)) 2 R iL R R)<|sS R (Zv (cs:=(Aa l)) 3 R iL R R)<|mA R<|aZ<|aU<|lF De AI R R<|lF De AI R R<|xQ R<|mM R<|vF D2 AI R R<|vF D2 AI R R<|vQ R (Zs R (iR R)<|iR R)<|xN R<|mM R<|vF B9 A1 R R<|vF B9 A1 R R<|Zc h λA q u=>vL (λhg=>L1<|AN q hg) R<|xN R<|mA R<|aZ<|Zj<|yB u R
theorem Wx{j A r}(h:LZ j A=some r):AM prog 62 [qb j,qb A] (rB r):=by
 unfold LZ at h
 refine mF func62 ntmps62 R λn0=>aU<|mA R<|aZ<|aT λc2=>aU<|mM R<|xL Ab R<|mM R<|xL Ab R<|xU R<|aZ<|cI R h (λC=>?_) λC=>?_
 ·exact zB C R id
 refine Zd<|c2 _<|aS λK5 c5 E=>aU<|mM R<|xL Ab R<|mM R<|aZ<|Zf<|A5 C λo1 l F I=>?_
 have J1:∀(u2:Unit) (i5:NN),o1=.nrm u2→K5 ⟨[],[],(i5 0),27⟩:=by
  intro u2 i5 e
  have h2:=F _ e
  exact c5 _<|zB h2 R id
 refine Zz (λ(J:Int) B=>⟨[(0,qb j),(1,qb A),(12,rL j),(13,rI J)],[],(B 0),27⟩) (AG [n0]) l wk ?_
 intro J B v1 M q
 have h3:PK j A J=some v1:=M;unfold PK at h3
 refine aU<|xS R<|aZ<|aT λc9=>cI R h3 (λO=>?_) λO=>?_
 ·refine Zd<|c9 _<|aT λT=>Zf<|aU<|mM R<|mA R<|aZ<|aT λU=>?_
  refine ZA A8 (by kernel_rfl) ?_
  refine qP R (Ze R iL)<|qP R (Ze R iL)<|Zc O λu V h5=>qP R (Zr R Ab.slice iL iL (λ_=>R) λ_=>V)<|qP R (ZN (cs:=(Aa u)) R CK iL R R)<|qP R (Ze R iL)<|qP R (Ze R iL)<|Zc h5 λw X h6=>qP R (Zr R Ab.slice iL iL (λ_=>R) λ_=>X)<|qP R (ZN (cs:=(Aa w)) R CK iL R R)<|Zc h6 λr1 Y h7=>EQ R R R (r:=rB r1) (caps:=[]) (bs:=[.agg<|Aa u,.agg<|Aa w]) R iL R ⟨⟨_,iL,.g (cs:=[.int .i64 u.Char,.int .i64 u.Ref,.sl<|u.Attrs.map AD.row]) R R⟩,⟨_,iL,.g (cs:=[.int .i64 w.Char,.int .i64 w.Ref,.sl<|w.Attrs.map AD.row]) R R⟩,Za⟩ (λ_=>nX<|Y) R<|qP R (Zu R iL)<|AQ.nil<|U _<|cI R h7 (λZ=>?_) λZ=>?_
  ·exact zB (I _<|xH q Z) R id
  refine Zd<|T _<|aF [0,1,12,13] ?_
  exact aR<|Zc Z λx6 a0 h9=>xA R a0<|mM R<|Zh<|Zx h9 (AG [(B 0)]) wk
 exact Zn<|E _ _ wk<|J1 _ (AG [(B 0)])<|xH q O
theorem uY{j l r}(h:Oi j l=some r):AM prog 176 [.agg<|Bs j,.agg<|Bs l] (rB r):=by
 unfold Oi at h
 exact mF func176 ntmps176 R λA=>aU<|sS R (Zv (cs:=(Bs j)) 2 R iL R R)<|sS R (Zv (cs:=(Bs l)) 3 R iL R R)<|mA R<|aZ<|aT λu=>aR<|lF Fl AI R R<|lF Fl AI R R<|xQ R<|mM R<|vF Gd AI R R<|vF Gd AI R R<|vQ R (Zs R (iR R)<|iR R)<|xN R<|mM R<|vF HN A2 R R<|vF HN A2 R R<|vQ R (ZI R (iR R)<|iR R)<|xN R<|mM R<|vF E8 AI R R<|vF E8 AI R R<|vQ R (Zs R (iR R)<|iR R)<|xN R<|mM R<|vF HY A1 R R<|vF HY A1 R R<|Zc h λB q w=>vL (λhg=>L1<|AN q hg) R<|xN R<|mA R<|aZ<|u _<|Zj<|yB w R
theorem fO{q A r}(h:Jm q A=some r):AM prog 133 [qe q,qe A] (rB r):=by
 unfold Jm at h
 refine mF func133 ntmps133 R λn0=>aU<|mA R<|aZ<|aT λc2=>aU<|mM R<|xL CT R<|mM R<|xL CT R<|xU R<|aZ<|cI R h (λC=>?_) λC=>?_
 ·exact zB C R id
 refine Zd<|c2 _<|aS λK5 c5 E=>aU<|mM R<|xL CT R<|mM R<|aZ<|Zf<|A5 C λo1 u F I=>?_
 have J1:∀(u2:Unit) (i5:NN),o1=.nrm u2→K5 ⟨[],[],(i5 0),27⟩:=by
  intro u2 i5 e
  have h2:=F _ e
  exact c5 _<|zB h2 R id
 refine Zz (λ(J:Int) B=>⟨[(0,qe q),(1,qe A),(12,rL q),(13,rI J)],[],(B 0),27⟩) (AG [n0]) u wk ?_
 intro J B v1 M w
 have h3:L2 q A J=some v1:=M;unfold L2 at h3
 refine aU<|xS R<|aZ<|aT λc9=>cI R h3 (λO=>?_) λO=>?_
 ·refine Zd<|c9 _<|aT λT=>Zf<|aU<|mM R<|mA R<|aZ<|aT λU=>?_
  refine ZA A8 (by kernel_rfl) ?_
  refine qP R (Ze R iL)<|qP R (Ze R iL)<|Zc O λj V h5=>qP R (Zr R CT.slice iL iL (λ_=>R) λ_=>V)<|qP R (ZN (cs:=(Bs j)) R FP iL R R)<|qP R (Ze R iL)<|qP R (Ze R iL)<|Zc h5 λl X h6=>qP R (Zr R CT.slice iL iL (λ_=>R) λ_=>X)<|qP R (ZN (cs:=(Bs l)) R FP iL R R)<|Zc h6 λr1 Y h7=>EQ R R R (r:=rB r1) (caps:=[]) (bs:=[.agg<|Bs j,.agg<|Bs l]) R iL R ⟨⟨_,iL,.g (cs:=[.int .i64 j.Row,.int .i64 j.Col,.str j.Text,.int .i64 j.Ref,.sl<|j.Attrs.map AD.row]) R R⟩,⟨_,iL,.g (cs:=[.int .i64 l.Row,.int .i64 l.Col,.str l.Text,.int .i64 l.Ref,.sl<|l.Attrs.map AD.row]) R R⟩,Za⟩ (λ_=>uY<|Y) R<|qP R (Zu R iL)<|AQ.nil<|U _<|cI R h7 (λZ=>?_) λZ=>?_
  ·exact zB (I _<|xH w Z) R id
  refine Zd<|T _<|aF [0,1,12,13] ?_
  exact aR<|Zc Z λx6 a0 h9=>xA R a0<|mM R<|Zh<|Zx h9 (AG [(B 0)]) wk
 exact Zn<|E _ _ wk<|J1 _ (AG [(B 0)])<|xH w O
theorem X2{j u r}(h:IB j u=some r):AM prog 134 [qc j,qc u] (rB r):=by
 unfold IB at h
 refine mF func134 ntmps134 R λn0=>aU<|mA R<|aZ<|aT λc2=>aU<|mM R<|xL CU R<|mM R<|xL CU R<|xU R<|aZ<|cI R h (λA=>?_) λA=>?_
 ·exact zB A R id
 refine Zd<|c2 _<|aS λK5 c5 B=>aU<|mM R<|xL CU R<|mM R<|aZ<|Zf<|A5 A λo1 l C E=>?_
 have J1:∀(Y:Unit) (Z:NN),o1=.nrm Y→K5 ⟨[],[],(Z 0),26⟩:=by
  intro Y Z e
  have h2:=C _ e
  exact c5 _<|zB h2 R id
 refine Zz (λ(F:Int) w=>⟨[(0,qc j),(1,qc u),(12,rL j),(13,rI F)],[],(w 0),26⟩) (AG [n0]) l wk ?_
 intro F w v1 I q
 have h3:Lw j u F=some v1:=I;unfold Lw at h3
 refine aU<|xS R<|aZ<|aT λc9=>cI R h3 (λJ=>?_) λJ=>?_
 ·refine Zd<|c9 _<|aT λM=>Zf<|aU<|mM R<|mA R<|aZ<|aT λO=>?_
  refine ZA A8 (by kernel_rfl) ?_
  refine qP R (Ze R iL)<|qP R (Ze R iL)<|Zc J λx4 T h5=>qP R (Zr R CU.slice iL iL (λ_=>R) λ_=>T)<|qP R (ZN (cs:=(BJ x4)) R Ee iL R R)<|qP R (Ze R iL)<|qP R (Ze R iL)<|Zc h5 λx5 U h6=>qP R (Zr R CU.slice iL iL (λ_=>R) λ_=>U)<|qP R (ZN (cs:=(BJ x5)) R Ee iL R R)<|qP R (Jo R cB iL iL R)<|AQ.nil<|O _<|cI R h6 (λV=>?_) λV=>?_
  ·exact zB (E _<|xH q V) R id
  refine Zd<|M _<|aF [0,1,12,13] ?_
  exact aR<|Zc V λx6 X h8=>xA R X<|mM R<|Zh<|Zx h8 (AG [(w 0)]) wk
 exact Zn<|B _ _ wk<|J1 _ (AG [(w 0)])<|xH q J
theorem mB{j l r}(h:QM j l=some r):AM prog 131 [.agg<|Cz j,.agg<|Cz l] (rB r):=by
 unfold QM at h
 exact mF func131 ntmps131 R λB=>aU<|sS R (Zv (cs:=(Cz j)) 2 R iL R R)<|sS R (Zv (cs:=(Cz l)) 3 R iL R R)<|mA R<|aZ<|aU<|lF GR AI R R<|lF GR AI R R<|xQ R<|mM R<|vF GD AI R R<|vF GD AI R R<|vQ R (Zs R (iR R)<|iR R)<|xN R<|mM R<|vF Fq Eb R R<|vF Fq Eb R R<|Zc h λC q w=>vL (λhg=>fO<|AN q hg) R<|xN R<|mM R<|vF FO Ct R R<|vF FO Ct R R<|Zc w λE u A=>vL (λhg=>X2<|AN u hg) R<|xN R<|mA R<|aZ<|Zj<|yB A R
theorem fi{j u r}(h:Is j u=some r):AM prog 89 [qf j,qf u] (rB r):=by
 unfold Is at h
 refine mF func89 ntmps89 R λn0=>aU<|mA R<|aZ<|aT λc2=>aU<|mM R<|xL E2 R<|mM R<|xL E2 R<|xU R<|aZ<|cI R h (λA=>?_) λA=>?_
 ·exact zB A R id
 refine Zd<|c2 _<|aS λK5 c5 B=>aU<|mM R<|xL E2 R<|mM R<|aZ<|Zf<|A5 A λo1 l C E=>?_
 have J1:∀(Y:Unit) (Z:NN),o1=.nrm Y→K5 ⟨[],[],(Z 0),26⟩:=by
  intro Y Z e
  have h2:=C _ e
  exact c5 _<|zB h2 R id
 refine Zz (λ(F:Int) w=>⟨[(0,qf j),(1,qf u),(12,rL j),(13,rI F)],[],(w 0),26⟩) (AG [n0]) l wk ?_
 intro F w v1 I q
 have h3:MB j u F=some v1:=I;unfold MB at h3
 refine aU<|xS R<|aZ<|aT λc9=>cI R h3 (λJ=>?_) λJ=>?_
 ·refine Zd<|c9 _<|aT λM=>Zf<|aU<|mM R<|mA R<|aZ<|aT λO=>?_
  refine ZA A8 (by kernel_rfl) ?_
  refine qP R (Ze R iL)<|qP R (Ze R iL)<|Zc J λx4 T h5=>qP R (Zr R E2.slice iL iL (λ_=>R) λ_=>T)<|qP R (ZN (cs:=(CN x4)) R Ic iL R R)<|qP R (Ze R iL)<|qP R (Ze R iL)<|Zc h5 λx5 U h6=>qP R (Zr R E2.slice iL iL (λ_=>R) λ_=>U)<|qP R (ZN (cs:=(CN x5)) R Ic iL R R)<|qP R (Jo R sq iL iL R)<|AQ.nil<|O _<|cI R h6 (λV=>?_) λV=>?_
  ·exact zB (E _<|xH q V) R id
  refine Zd<|M _<|aF [0,1,12,13] ?_
  exact aR<|Zc V λx6 X h8=>xA R X<|mM R<|Zh<|Zx h8 (AG [(w 0)]) wk
 exact Zn<|B _ _ wk<|J1 _ (AG [(w 0)])<|xH q J
theorem aP{j l r}(h:Hf j l=some r):AM prog 86 [.agg<|BR j,.agg<|BR l] (rB r):=by
 unfold Hf at h
 exact mF func86 ntmps86 R λJ=>aU<|sS R (Zv (cs:=(BR j)) 2 R iL R R)<|sS R (Zv (cs:=(BR l)) 3 R iL R R)<|mA R<|aZ<|aT λB=>aR<|lF Ea AI R R<|lF Ea AI R R<|xQ R<|mM R<|vF Cc AI R R<|vF Cc AI R R<|vQ R (Zs R (iR R)<|iR R)<|xN R<|mM R<|vF R8 A1 R R<|vF R8 A1 R R<|Zc h λM q C=>vL (λhg=>L1<|AN q hg) R<|xN R<|mM R<|vF EW Br R R<|vF EW Br R R<|Zc C λO u E=>vL (λhg=>Wx<|AN u hg) R<|xN R<|mM R<|vQ R (fB R F0 iL fR R)<|vQ R (FR (ds:=(Cz j.Grid)) R NF (iR R) R R R)<|vQ R (fB R F0 iL fR R)<|vQ R (FR (ds:=(Cz l.Grid)) R NF (iR R) R R R)<|Zc E λT w F=>vL (λhg=>mB<|AN w hg) R<|xN R<|mM R<|vF Iw Fx R R<|vF Iw Fx R R<|Zc F λU A I=>vL (λhg=>fi<|AN A hg) R<|xN R<|mA R<|aZ<|B _<|Zj<|yB I R
theorem tZ{w C r}(h:Jz w C=some r):AM prog 87 [qd w,qd C] (rB r):=by
 unfold Jz at h
 refine mF func87 ntmps87 R λn0=>aU<|mA R<|aZ<|aT λc2=>aU<|mM R<|xL Bh R<|mM R<|xL Bh R<|xU R<|aZ<|cI R h (λF=>?_) λF=>?_
 ·exact zB F R id
 refine Zd<|c2 _<|aS λK5 c5 I=>aU<|mM R<|xL Bh R<|mM R<|aZ<|Zf<|A5 F λo1 A J M=>?_
 have J1:∀(u2:Unit) (i5:NN),o1=.nrm u2→K5 ⟨[],[],(i5 0),69⟩:=by
  intro u2 i5 e
  have h2:=J _ e
  exact c5 _<|zB h2 R id
 refine Zz (λ(O:Int) E=>⟨[(0,qd w),(1,qd C),(12,rL w),(13,rI O)],[],(E 0),69⟩) (AG [n0]) A wk ?_
 intro O E v1 T B
 have h3:Qk w C O=some v1:=T;unfold Qk at h3
 refine aU<|xS R<|aZ<|aT λc9=>cI R h3 (λU=>?_) λU=>?_
 ·refine Zd<|c9 _<|aT λV=>Zf<|aU<|mM R<|mA R<|aZ<|aT λX=>?_
  refine ZA A8 (by kernel_rfl) ?_
  refine qP R (Ze R iL)<|qP R (Ze R iL)<|Zc U λq j h5=>qP R (Zr R Bh.slice iL iL (λ_=>R) λ_=>j)<|qP R (Zl R Bt iL)<|qP R (ZB (d:=.int .i64 q.Kind) R AI iL R)<|qP R (Ze R iL)<|qP R (Ze R iL)<|Zc h5 λu l h6=>qP R (Zr R Bh.slice iL iL (λ_=>R) λ_=>l)<|qP R (Zl R Bt iL)<|qP R (ZB (d:=.int .i64 u.Kind) R AI iL R)<|qP R (CP R iL iL)<|qP R (Ze R iL)<|qO R (Ze R iL)<|qO R (Ze R iL)<|qO R (Zr R Bh.slice (iR R) (iR R) (λ_=>R) λ_=>j)<|qO R (Zl R D3<|iR R)<|qO R (ZB (d:=.int .i64 q.N) R AI (iR R) R)<|qO R (Ze R iL)<|qO R (Ze R iL)<|qO R (Zr R Bh.slice (iR R) (iR R) (λ_=>R) λ_=>l)<|qO R (Zl R D3<|iR R)<|qO R (ZB (d:=.int .i64 u.N) R AI (iR R) R)<|qO R (CP R (iR R)<|iR R)<|qP R (B1 R iL<|iR R)<|qP R (Ze R iL)<|qO R (Ze R iL)<|qO R (Ze R iL)<|qO R (Zr R Bh.slice (iR R) (iR R) (λ_=>R) λ_=>j)<|qO R (Zl R DZ<|iR R)<|qO R (ZB (d:=.sl<|q.Attrs.map AD.row) R A1 (iR R) R)<|qO R (Ze R iL)<|qO R (Ze R iL)<|qO R (Zr R Bh.slice (iR R) (iR R) (λ_=>R) λ_=>l)<|qO R (Zl R DZ<|iR R)<|qO R (ZB (d:=.sl<|u.Attrs.map AD.row) R A1 (iR R) R)<|Zc h6 λr1 Y h7=>G0 (.one R R R) R R (r:=rB r1) (caps:=[]) (bs:=[qa q.Attrs,qa u.Attrs]) R iL R ⟨⟨_,(iR R),.d R⟩,⟨_,(iR R),.d R⟩,Za⟩ (λhg=>L1<|AN Y hg) R<|qO R (Zu R<|iR R)<|qP R (B1 R iL<|iR R)<|qP R (Ze R iL) ?_
  refine qO R (Ze R iL)<|qO R (Ze R iL)<|qO R (Zr R Bh.slice (iR R) (iR R) (λ_=>R) λ_=>j)<|qO R (Zl R Dz<|iR R)<|qO R (ZB (d:=.sl<|q.Elems.map AC.row) R Br (iR R) R)<|qO R (Ze R iL)<|qO R (Ze R iL)<|qO R (Zr R Bh.slice (iR R) (iR R) (λ_=>R) λ_=>l)<|qO R (Zl R Dz<|iR R)<|qO R (ZB (d:=.sl<|u.Elems.map AC.row) R Br (iR R) R)<|Zc h7 λr2 Z h8=>G0 (.one R R R) R R (r:=rB r2) (caps:=[]) (bs:=[qb q.Elems,qb u.Elems]) R iL R ⟨⟨_,(iR R),.d R⟩,⟨_,(iR R),.d R⟩,Za⟩ (λhg=>Wx<|AN Z hg) R<|qO R (Zu R<|iR R)<|qP R (B1 R iL<|iR R)<|AQ.nil<|X _<|cI R h8 (λh9=>?_) λh9=>?_
  ·exact zB (M _<|xH B h9) R id
  refine Zd<|V _<|aF [0,1,12,13] ?_
  exact aR<|Zc h9 λx6 a0 a2=>xA R a0<|mM R<|Zh<|Zx a2 (AG [(E 0)]) wk
 exact Zn<|I _ _ wk<|J1 _ (AG [(E 0)])<|xH B U
theorem iE{j u r}(h:KB j u=some r):AM prog 132 [qh j,qh u] (rB r):=by
 unfold KB at h
 refine mF func132 ntmps132 R λn0=>aU<|mA R<|aZ<|aT λc2=>aU<|mM R<|xL EE R<|mM R<|xL EE R<|xU R<|aZ<|cI R h (λA=>?_) λA=>?_
 ·exact zB A R id
 refine Zd<|c2 _<|aS λK5 c5 B=>aU<|mM R<|xL EE R<|mM R<|aZ<|Zf<|A5 A λo1 l C E=>?_
 have J1:∀(Y:Unit) (Z:NN),o1=.nrm Y→K5 ⟨[],[],(Z 0),26⟩:=by
  intro Y Z e
  have h2:=C _ e
  exact c5 _<|zB h2 R id
 refine Zz (λ(F:Int) w=>⟨[(0,qh j),(1,qh u),(12,rL j),(13,rI F)],[],(w 0),26⟩) (AG [n0]) l wk ?_
 intro F w v1 I q
 have h3:Q1 j u F=some v1:=I;unfold Q1 at h3
 refine aU<|xS R<|aZ<|aT λc9=>cI R h3 (λJ=>?_) λJ=>?_
 ·refine Zd<|c9 _<|aT λM=>Zf<|aU<|mM R<|mA R<|aZ<|aT λO=>?_
  refine ZA A8 (by kernel_rfl) ?_
  refine qP R (Ze R iL)<|qP R (Ze R iL)<|Zc J λx4 T h5=>qP R (Zr R EE.slice iL iL (λ_=>R) λ_=>T)<|qP R (ZN (cs:=[rI x4.Kind,rI x4.N]) R g8 iL R R)<|qP R (Ze R iL)<|qP R (Ze R iL)<|Zc h5 λx5 U h6=>qP R (Zr R EE.slice iL iL (λ_=>R) λ_=>U)<|qP R (ZN (cs:=[rI x5.Kind,rI x5.N]) R g8 iL R R)<|qP R (Jo R kS iL iL R)<|AQ.nil<|O _<|cI R h6 (λV=>?_) λV=>?_
  ·exact zB (E _<|xH q V) R id
  refine Zd<|M _<|aF [0,1,12,13] ?_
  exact aR<|Zc V λx6 X h8=>xA R X<|mM R<|Zh<|Zx h8 (AG [(w 0)]) wk
 exact Zn<|B _ _ wk<|J1 _ (AG [(w 0)])<|xH q J
theorem jm{j l r}(h:PY j l=some r):AM prog 88 [.agg<|DT j,.agg<|DT l] (rB r):=by
 unfold PY at h
 exact mF func88 ntmps88 R λO=>aU<|sS R (Zv (cs:=(DT j)) 2 R iL R R)<|sS R (Zv (cs:=(DT l)) 3 R iL R R)<|mA R<|aZ<|aT λC=>aR<|lF S2 JQ R R<|lF S2 JQ R R<|Zc h λT q E=>cL (iE<|q) R<|mM R<|vF TP JQ R R<|vF TP JQ R R<|Zc E λU u F=>vL (λhg=>iE<|AN u hg) R<|xN R<|mM R<|vF Sk Eb R R<|vF Sk Eb R R<|Zc F λV w I=>vL (λhg=>fO<|AN w hg) R<|xN R<|mM R<|vF OG Ct R R<|vF OG Ct R R<|Zc I λX A J=>vL (λhg=>X2<|AN A hg) R<|xN R<|mM R<|vF KK Ct R R<|vF KK Ct R R<|Zc J λY B M=>vL (λhg=>X2<|AN B hg) R<|xN R<|mA R<|aZ<|C _<|Zj<|yB M R
theorem kf{j l r}(h:M6 j l=some r):AM prog 37 [.agg<|Ds j,.agg<|Ds l] (rB r):=by
 unfold M6 at h
 exact mF func37 ntmps37 R λO=>aU<|sS R (Zv (cs:=(Ds j)) 2 R iL R R)<|sS R (Zv (cs:=(Ds l)) 3 R iL R R)<|mA R<|aZ<|aT λC=>aR<|lF KN AI R R<|lF KN AI R R<|xQ R<|mM R<|vF QI AI R R<|vF QI AI R R<|vQ R (Zs R (iR R)<|iR R)<|xN R<|mM R<|vQ R (fB R SY iL fR R)<|vQ R (FR (ds:=(BR j.New)) R FI (iR R) R R R)<|vQ R (fB R SY iL fR R)<|vQ R (FR (ds:=(BR l.New)) R FI (iR R) R R R)<|Zc h λT q E=>vL (λhg=>aP<|AN q hg) R<|xN R<|mM R<|vF Sn A1 R R<|vF Sn A1 R R<|Zc E λU u F=>vL (λhg=>L1<|AN u hg) R<|xN R<|mM R<|vF Nb Dl R R<|vF Nb Dl R R<|Zc F λV w I=>vL (λhg=>tZ<|AN w hg) R<|xN R<|mM R<|vQ R (fB R Sz iL fR R)<|vQ R (FR (ds:=(DT j.Grid)) R S1 (iR R) R R R)<|vQ R (fB R Sz iL fR R)<|vQ R (FR (ds:=(DT l.Grid)) R S1 (iR R) R R R)<|Zc I λX A J=>vL (λhg=>jm<|AN A hg) R<|xN R<|mM R<|vF SB Fx R R<|vF SB Fx R R<|Zc J λY B M=>vL (λhg=>fi<|AN B hg) R<|xN R<|mA R<|aZ<|C _<|Zj<|yB M R
theorem ms{q A r}(h:Hi q A=some r):AM prog 13 [qi q,qi A] (rB r):=by
 unfold Hi at h
 refine mF func13 ntmps13 R λn0=>aU<|mA R<|aZ<|aT λc2=>aU<|mM R<|xL Fu R<|mM R<|xL Fu R<|xU R<|aZ<|cI R h (λC=>?_) λC=>?_
 ·exact zB C R id
 refine Zd<|c2 _<|aS λK5 c5 E=>aU<|mM R<|xL Fu R<|mM R<|aZ<|Zf<|A5 C λo1 u F I=>?_
 have J1:∀(u2:Unit) (i5:NN),o1=.nrm u2→K5 ⟨[],[],(i5 0),27⟩:=by
  intro u2 i5 e
  have h2:=F _ e
  exact c5 _<|zB h2 R id
 refine Zz (λ(J:Int) B=>⟨[(0,qi q),(1,qi A),(12,rL q),(13,rI J)],[],(B 0),27⟩) (AG [n0]) u wk ?_
 intro J B v1 M w
 have h3:No q A J=some v1:=M;unfold No at h3
 refine aU<|xS R<|aZ<|aT λc9=>cI R h3 (λO=>?_) λO=>?_
 ·refine Zd<|c9 _<|aT λT=>Zf<|aU<|mM R<|mA R<|aZ<|aT λU=>?_
  refine ZA A8 (by kernel_rfl) ?_
  refine qP R (Ze R iL)<|qP R (Ze R iL)<|Zc O λj V h5=>qP R (Zr R Fu.slice iL iL (λ_=>R) λ_=>V)<|qP R (ZN (cs:=(Ds j)) R Vi iL R R)<|qP R (Ze R iL)<|qP R (Ze R iL)<|Zc h5 λl X h6=>qP R (Zr R Fu.slice iL iL (λ_=>R) λ_=>X)<|qP R (ZN (cs:=(Ds l)) R Vi iL R R)<|Zc h6 λr1 Y h7=>EQ R R R (r:=rB r1) (caps:=[]) (bs:=[.agg<|Ds j,.agg<|Ds l]) R iL R ⟨⟨_,iL,.g (cs:=[.int .i64 j.Kind,.int .i64 j.Node,.int .i64 j.New.ID,.int .i64 j.New.Kind,.sl<|j.New.Attrs.map AD.row,.sl<|j.New.Flow.map AC.row,.int .i64 j.New.Grid.Rows,.int .i64 j.New.Grid.Cols,.sl<|j.New.Grid.Cells.map Aq.row,.sl<|j.New.Grid.Merges.map An.row,.sl<|j.New.Draw.map BB.row,.sl<|j.Attrs.map AD.row,.sl<|j.Steps.map AH.row,.sl<|j.Grid.Rows.map Cq.row,.sl<|j.Grid.Cols.map Cq.row,.sl<|j.Grid.Cells.map Aq.row,.sl<|j.Grid.Split.map An.row,.sl<|j.Grid.Merge.map An.row,.sl<|j.Draw.map BB.row]) R R⟩,⟨_,iL,.g (cs:=[.int .i64 l.Kind,.int .i64 l.Node,.int .i64 l.New.ID,.int .i64 l.New.Kind,.sl<|l.New.Attrs.map AD.row,.sl<|l.New.Flow.map AC.row,.int .i64 l.New.Grid.Rows,.int .i64 l.New.Grid.Cols,.sl<|l.New.Grid.Cells.map Aq.row,.sl<|l.New.Grid.Merges.map An.row,.sl<|l.New.Draw.map BB.row,.sl<|l.Attrs.map AD.row,.sl<|l.Steps.map AH.row,.sl<|l.Grid.Rows.map Cq.row,.sl<|l.Grid.Cols.map Cq.row,.sl<|l.Grid.Cells.map Aq.row,.sl<|l.Grid.Split.map An.row,.sl<|l.Grid.Merge.map An.row,.sl<|l.Draw.map BB.row]) R R⟩,Za⟩ (λ_=>kf<|Y) R<|qP R (Zu R iL)<|AQ.nil<|U _<|cI R h7 (λZ=>?_) λZ=>?_
  ·exact zB (I _<|xH w Z) R id
  refine Zd<|T _<|aF [0,1,12,13] ?_
  exact aR<|Zc Z λx6 a0 h9=>xA R a0<|mM R<|Zh<|Zx h9 (AG [(B 0)]) wk
 exact Zn<|E _ _ wk<|J1 _ (AG [(B 0)])<|xH w O
theorem pA{d1 j a r}(h:Jg d1 j a=some r):AM prog 14 [.agg [qg d1.Nodes],.agg<|Aw j,rS a] (rI r):=by
 unfold Jg at h
 refine mF func14 ntmps14 R λJ=>aU<|sS R (Zv (cs:=[qg d1.Nodes]) 3 R iL R R)<|sS R (Zv (cs:=(Aw j)) 4 R iL R R)<|mA R<|aZ<|aT λA=>aU<|xC Dk R<|xC Df R<|Zc h λM l B=>cL (hP<|l) R<|mA R<|aZ<|aU<|mM R<|xU R<|aZ<|cI R B (λq=>?_) λq=>?_
 ·refine aT λC=>aF [7] ?_
  exact aR<|mM R<|mA R<|aZ<|C _<|Zj<|yI q R
 refine Zd<|A _<|aT λE=>aT λF=>aF [2] ?_
 refine aR<|mM R<|sQ R (DH R iL iL)<|mM R<|vM R<|Zc q λO u I=>vL (λhg=>Wd<|AN u hg) R<|vQ R (Zu R<|iR R)<|xN R<|aZ<|F _<|cI R I (λw=>?_) λw=>?_
 ·exact zI w R id
 exact Zd<|E _<|zI w R id
theorem wS{B a r}(h:dN B a=some r):AM prog 15 [rS B,qa a] (.tup [qb r.1,rI r.2]):=by
 unfold dN at h
 refine mF func15 ntmps15 R λF=>aU<|mA R<|mA R<|aZ<|aT λc2=>aU<|mM R<|Zc h λI J h1=>cL (KE<|J) R<|mA R<|aZ<|aU<|mM R<|xU R<|aZ<|cI R h1 (λM=>?_) λM=>?_
 ·exact aU<|mM R<|mA R<|mA R<|aZ<|Zj<|CB (P:=prog) (λ(r:(List AC) × Int)=>qb r.1) (λ(r:(List AC) × Int)=>rI r.2) M iL (.t<|.one<|.nil)<|.t<|.d R
 refine Zd<|c2 _<|aU<|mA R<|aZ<|aS λK7 c7 O=>aU<|mA R<|aZ<|Zf<|A5 M λo1 C T E=>?_
 have J1:∀(j:List AC) (i8:NN),o1=.nrm j→K7 ⟨[(7,.own 5007<|i8 0)],[(5007,some<|.arr (i8 0) 51 3<|j.map AC.row)],(i8 1),48⟩:=by
  intro j i8 e
  have h3:=T _ e
  exact c7 _<|aU<|mM R<|mA R<|mA R<|aZ<|Zj<|CB (P:=prog) (λ(r:(List AC) × Int)=>qb r.1) (λ(r:(List AC) × Int)=>rI r.2) h3 iL (.t<|.one<|.own R)<|.t<|.d R
 refine ZL (λ(U:Int) (l:List AC) q=>⟨[(0,rS B),(1,qa a),(7,.own 5007<|q 0),(8,rI U)],[(5007,some<|.arr (q 0) 51 3<|l.map AC.row)],(q 1),48⟩) (AG [F,(F+1)]) C (Zm (Zm (ZR 7 5007 51 3 (by decide) R)<|by exact ZC (e':=[(0,rS B),(1,qa a),(4,cZ),(5,rI 0),(6,rI I),(7,.own 5007 F),(8,rI 0),(11,qa a),(12,rI I),(13,rI I),(14,rB<|(!(I=0)))]) (h':=[(5007,some<|.arr F 51 3<|([]:List AC).map AC.row)]) ⟨jL,jL,jL,jL,jL,jL,jL,jL,jL,jL,jL,Za⟩ ⟨.inl R,Za⟩ nL) wk) ?_
 intro U l q v1 V u
 have h4:Wg B a U l=some v1:=V;unfold Wg at h4
 refine aT λX=>aU<|mM R<|mM R<|sQ R (ZO R underlying9 iL)<|xS R<|aZ<|cI R h4 (λY=>?_) λY=>?_
 ·refine Zd<|X _<|Zf<|aT λZ=>aR<|mM R<|mM R<|Zc Y λs2 a0 h6=>?_
  refine sQ R (IY R underlying9 iL (by exact⟨_,iL⟩) (by exact R) λ_=>a0) ?_
  refine Ch h6 λr1 r2 a1 h7=>cL (RO<|a1) R<|mM R<|xX R<|xX R<|mA R<|mA R<|aZ<|Z _<|aT λa2=>aT λa6=>aG [0,1,7,8,9,10] [5007] ?_
  refine aR<|mM R<|xQ R<|mM R<|vM R<|vQ R (Bp R (iR R) iL)<|xN R<|aZ<|a6 _<|cI R h7 (λh8=>?_) λh8=>?_
  ·refine aT λa7=>aF [] ?_
   exact aR<|mA R<|mA R<|aZ<|a7 _<|Zj<|CB (P:=prog) (λ(r:(List AC) × Int)=>qb r.1) (λ(r:(List AC) × Int)=>rI r.2) (E _<|xH u h8) iL (.t<|.one<|.nil)<|.t<|.d R
  refine Zd<|a2 _<|aT λa8=>aU<|mM R<|sQ R (ZF R underlying21 underlying3 iL)<|Zc h8 λr3 aa h9=>cL (UI<|aa) R<|sQ R (Zu R iL)<|aZ<|cI R h9 (λw=>?_) λw=>?_
  ·refine aT λab=>aF [] ?_
   exact aR<|mA R<|mA R<|aZ<|ab _<|Zj<|CB (P:=prog) (λ(r:(List AC) × Int)=>qb r.1) (λ(r:(List AC) × Int)=>rI r.2) (E _<|xH u w) iL (.t<|.one<|.nil)<|.t<|.d R
  refine Zd<|a8 _<|aT λac=>aR<|mM R<|mM R<|sQ R (ZF R underlying21 underlying3 iL)<|mM R ?_
  refine sQ R (ZD R H3 (q:=[(0,_),(2,_)]) (by exact⟨R,R,R,iL,R,R,R,iL,Za⟩) (cs:=[rI<|(IntKind.i64.wrap r1),rI 0,qa a])<|by rfl) ?_
  refine sS R (ZK 42 R Ab (f:=AC.row) (l:=([(AC.mk (IntKind.i64.wrap r1) 0 a)]:List AC)) ⟨R,⟨_,iL,R⟩,Za⟩ R (λ_=>R) R)<|Zc w λag A ad=>sS R (B6 R Ab iL R (.inr<|.inl ⟨_,_,iL,R⟩) A)<|mA R<|aZ<|ac _<|aG [0,1,7,8,10] [5007] ?_
  exact aR<|mM R<|mM R<|Zc ad λi9 ae af=>xA R ae<|mA R<|Zh<|ZH af (AG [((q 1)+1),((q 1)+2)]) wk
 exact Zn<|O _ _ wk<|J1 _ (AG [(q 0),(q 1)])<|xH u Y
theorem ry{f1 r}(h:PH f1=some r):AM prog 17 [qb f1] (qb r):=by
 unfold PH at h
 refine mF func17 ntmps17 R λB=>aU<|mA R<|aZ<|aU<|mA R<|aZ<|aU<|mM R<|Zc h λq E h1=>sS R (ZJ (r:=.r<|.sl<|q.map<|Ad .i64) (caps:=[]) (bs:=[qb f1,rI 0]) R iL R ⟨.inl ⟨iL,R⟩,.inl ⟨iL,R⟩,Za⟩ λ_=>X4<|E)<|mA R<|aZ<|aS λK4 c4 F=>aU<|mM R<|xL Bl R<|mM R<|aZ<|Zf<|Ar h1 λo1 A I=>?_
 have J1:∀(j:List AC) (C:NN),o1=j→K4 ⟨[(3,.own 5003<|C 0)],[(5003,some<|.arr (C 0) 51 3<|j.map AC.row)],(C 1),25⟩:=by
  intro j C e
  have h2:=I _ e
  exact c4 _<|aU<|mM R<|mA R<|aZ<|Zj<|CX (P:=prog) (λ(r:(List AC))=>qb r) h2 iL<|.t<|.one<|.own R
 refine ZL (λ(J:Int) (l:List AC) u=>⟨[(0,qb f1),(3,.own 5003<|u 0),(4,.r<|.sl<|q.map<|Ad .i64),(9,rL q),(10,rI J)],[(5003,some<|.arr (u 0) 51 3<|l.map AC.row)],(u 1),25⟩) (AG [B,(B+1)]) A (Zm (Zm (ZR 3 5003 51 3 (by decide) R)<|by exact ZC (e':=[(0,qb f1),(2,cZ),(3,.own 5003 B),(4,.r<|.sl<|q.map<|Ad .i64),(6,qb f1),(7,.r<|.sl<|q.map<|Ad .i64),(8,.r<|.sl<|q.map<|Ad .i64),(9,rL q),(10,rI 0)]) (h':=[(5003,some<|.arr B 51 3<|([]:List AC).map AC.row)]) ⟨jL,jL,jL,jL,jL,jL,jL,jL,jL,Za⟩ ⟨.inl R,Za⟩ nL) wk) ?_
 intro J l u v1 M O
 have Y:L9 f1 q J l=some v1:=M;unfold L9 at Y
 refine aU<|xS R<|aZ<|aT λc8=>cI R Y (λT=>?_) λT=>?_
 ·refine Zd<|c8 _<|aT λc9=>Zf<|aU<|mM R<|mA R<|aZ<|aR<|mM R<|mM R<|mM R<|mM R<|Zc T λx4 U h5=>xI Bl R U<|xV (.int .i64 x4) AI R<|Zc h5 λZ V h6=>xI Ab R V<|xB ((Aa Z)) CK R<|sS R (ZK 21 R Ab (f:=AC.row) (l:=([Z]:List AC)) ⟨R,⟨_,iL,R⟩,Za⟩ R (λ_=>R) R)<|Zc h6 λa0 w h7=>sS R (B6 R Ab iL R (.inr<|.inl ⟨_,_,iL,R⟩) w)<|mA R<|aZ<|c9 _<|aG [0,3,4,9,10] [5003] ?_
  exact aR<|Zc h7 λx6 X h8=>xA R X<|mM R<|Zh<|ZH h8 (AG [((u 1)+1),((u 1)+2)]) wk
 exact Zn<|F _ _ wk<|J1 _ (AG [(u 0),(u 1)])<|xH O T
theorem kK{n r}(h:O2 n=some r):AM prog 56 [rS n] (rB r):=by
 unfold O2 at h
 refine mF func56 ntmps56 R λl=>aU<|mA R<|aZ<|aT λZ=>aU<|mM R<|aZ<|Zf<|aS λK4 c4 j=>aU<|sQ R (ZI R iL iL)<|mA R<|aZ<|Ar h λp1 B C=>?_
 have q:∀(E:Bool) (Y:NN),p1=E→K4 ⟨[(4,rB E)],[],(Y 0),15⟩:=by
  intro E Y e
  have h1:=C _ e
  refine c4 _<|cI R h1 (λF=>?_) λF=>?_
  ·exact zB F R id
  exact Zd<|Z _<|zB F R id
 refine aC R (λu=>?_) λu=>?_
 ·have I:=Ba u B
  exact Zd<|j _ _ wk<|q _ (AG [l]) (Zb I).symm
 ·have I:=Be u B
  refine aU<|sQ R (ZI R iL iL)<|mA R<|aZ<|cI R I (λJ=>?_) λJ=>?_
  ·exact Zd<|j _ _ wk<|q _ (AG [l]) (Zb J).symm
  refine aU<|sQ R (ZI R iL iL)<|mA R<|aZ<|cI R J (λM=>?_) λM=>?_
  ·exact Zd<|j _ _ wk<|q _ (AG [l]) (Zb M).symm
  refine aU<|sQ R (ZI R iL iL)<|mA R<|aZ<|cI R M (λO=>?_) λO=>?_
  ·exact Zd<|j _ _ wk<|q _ (AG [l]) (Zb O).symm
  refine aU<|sQ R (ZI R iL iL)<|mA R<|aZ<|cI R O (λT=>?_) λT=>?_
  ·exact Zd<|j _ _ wk<|q _ (AG [l]) (Zb T).symm
  refine aU<|sQ R (ZI R iL iL)<|mA R<|aZ<|cI R T (λU=>?_) λU=>?_
  ·exact Zd<|j _ _ wk<|q _ (AG [l]) (Zb U).symm
  refine aT λV=>aF [3] ?_
  refine aR<|sQ R (ZI R iL iL)<|mA R<|aZ<|V _<|cI R U (λX=>?_) λX=>?_
  ·exact Zd<|j _ _ wk<|q _ (AG [l]) (Zb X).symm
  refine aU<|sQ R (ZI R iL iL)<|mA R<|aZ<|cI R X (λw=>?_) λw=>?_
  ·exact Zd<|j _ _ wk<|q _ (AG [l]) (Zb w).symm
  refine aU<|sQ R (ZI R iL iL)<|mA R<|aZ<|cI R w (λA=>?_) λA=>?_
  ·exact Zd<|j _ _ wk<|q _ (AG [l]) (Zb A).symm
  exact aR<|sQ R (ZI R iL iL)<|mA R<|Zh<|j _ _ wk<|q _ (AG [l]) (Zb A).symm
theorem PX{B w r}(h:G4 B w=some r):AM prog 57 [qa B,.agg<|A4 w] (qa r):=by
 unfold G4 at h
 refine mF func57 ntmps57 R λA=>aU<|sS R (Zv (cs:=(A4 w)) 3 R iL R R)<|mA R<|aZ<|aU<|mA R<|aZ<|aU<|mA R<|aZ<|aS λK4 c4 ad=>aU<|mM R<|xL AZ R<|mM R<|aZ<|Zf<|Lb h λo1 a7 ae=>?_
 have J1:∀(j:Bool) (C:List AD) (T:NN),o1=(j,C)→K4 ⟨[(3,.ptr 3 A 0 0),(5,.own 5005<|T 0),(6,rB j)],[(3,some<|.box A 58<|A4 w),(5005,some<|.arr (T 0) 58 2<|C.map AD.row)],(T 1),52⟩:=by
  intro j C T e
  have h1:=ae _ _ e
  refine c4 _<|aS λK6 c6 a8=>aU<|mM R<|sQ R (Zu R iL)<|aZ<|Ar h1 λp1 aa af=>?_
  have J2:∀(E:List AD) (i6:NN),p1=E→K6 ⟨[(5,.own 5005<|i6 0)],[(5005,some<|.arr (i6 0) 58 2<|E.map AD.row)],(i6 1),52⟩:=by
   intro E i6 e
   have h2:=af _ e
   exact c6 _<|aU<|mM R<|mA R<|aZ<|Zj<|CX (P:=prog) (λ(r:(List AD))=>qa r) h2 iL<|.t<|.one<|.own R
  refine aC R (λX=>?_) λX=>?_
  ·have h3:=Ba X aa
   exact aR<|mM R<|xC By R<|sS R (ZK 49 R AZ (f:=AD.row) (l:=([w]:List AD)) ⟨R,⟨_,iL,R⟩,Za⟩ R (λ_=>R) R)<|Zc h3 λb4 Y h4=>sS R (B6 R AZ iL R (.inr<|.inl ⟨_,_,iL,R⟩) Y)<|mA R<|Zh<|a8 _ _ wk<|J2 _ (AG [((T 1)+1),((T 1)+2)]) (Zb h4).symm
  ·have h3:=Be X aa
   exact Zd<|a8 _ _ wk<|J2 _ (AG [(T 0),(T 1)]) (Zb h3).symm
 refine H0 (λ(l:Bool) (x2:Int) (F:List AD) M=>⟨[(0,qa B),(3,.ptr 3 A 0 0),(5,.own 5005<|M 0),(6,rB l),(9,rL B),(10,rI x2)],[(3,some<|.box A 58<|A4 w),(5005,some<|.arr (M 0) 58 2<|F.map AD.row)],(M 1),52⟩) (AG [(A+1),(A+2)]) a7 (Zm (Zm (ZR 5 5005 58 2 (by decide) R)<|by exact ZC (e':=[(0,qa B),(1,.agg<|A4 w),(3,.ptr 3 A 0 0),(4,cZ),(5,.own 5005<|A+1),(6,rB false),(8,qa B),(9,rL B),(10,rI 0)]) (h':=[(3,some<|.box A 58<|A4 w),(5005,some<|.arr (A+1) 58 2<|([]:List AD).map AD.row)]) ⟨jL,jL,jL,jL,jL,jL,jL,jL,jL,Za⟩ ⟨.inl R,.inl R,Za⟩ nL) wk) ?_
 intro l x2 F M v1 ag ah
 have h5:RI B w l x2 F=some v1:=ag;unfold RI at h5
 refine aU<|xS R<|aZ<|aT λai=>cI R h5 (λh6=>?_) λh6=>?_
 ·refine Zd<|ai _<|aS λaj ak U=>Zf<|Lb h6 λp2 al an=>?_
  have J3:∀(q:Bool) (I:List AD) (i7:NN),p2=(q,I)→aj ⟨[(0,qa B),(3,.ptr 3 A 0 0),(5,.own 5005<|i7 0),(6,rB q),(9,rL B),(10,rI x2)],[(3,some<|.box A 58<|A4 w),(5005,some<|.arr (i7 0) 58 2<|I.map AD.row)],(i7 1),52⟩:=by
   intro q I i7 e
   have h7:=an _ _ e
   exact ak _<|aR<|Zc h7 λx4 ao h8=>xA R ao<|mM R<|Zh<|DO.mk h8 (AG [(i7 0),(i7 1)]) wk
  refine aU<|mM R<|mA R<|aZ<|aS λaq ar V=>aT λav=>?_
  refine ZA A8 (by kernel_rfl) ?_
  refine qP R (Ze R iL)<|qP R (Zu R iL)<|qP R (Ze R iL)<|qO R (Ze R iL)<|qO R (Ze R iL)<|Zc al λx5 aw h9=>qO R (Zr R AZ.slice (iR R) (iR R) (λ_=>R)<|AN aw)<|qO R (Zl R B0<|iR R)<|qO R (ZB (d:=.str x5.Name) R A2 (iR R) R)<|qO R (fB R B0 iL fR R)<|qO R (Zg (a:=rS w.Name) R A2 (iR R) R R)<|qO R (Wj R (iR R)<|iR R)<|qP R (ZG R iL<|iR R)<|AQ.nil<|av _<|Lb h9 λp3 ab ax=>?_
  have J4:∀(u:Bool) (J:List AD) (i8:NN),p3=(u,J)→aq ⟨[(0,qa B),(3,.ptr 3 A 0 0),(5,.own 5005<|i8 0),(6,rB u),(7,rI x2),(9,rL B),(10,rI x2)],[(3,some<|.box A 58<|A4 w),(5005,some<|.arr (i8 0) 58 2<|J.map AD.row)],(i8 1),52⟩:=by
   intro u J i8 e
   have ay:=ax _ _ e
   refine ar _<|aT λaz=>?_
   refine ZA A8 (by kernel_rfl) ?_
   refine qP R (Ze R iL)<|qP R (Ze R iL)<|Zc ay λx6 ac b0=>qP R (Zr R AZ.slice iL iL (λ_=>R) λ_=>ac)<|qP R (Zl R B0 iL)<|qP R (ZB (d:=.str x6.Name) R A2 iL R)<|qP R (fB R B0 iL fR R)<|qP R (Zg (a:=rS w.Name) R A2 iL R R)<|qP R (DH R iL iL)<|AQ.nil<|az _<|cI R b0 (λZ=>?_) λZ=>?_
   ·exact aR<|mM R<|mM R<|mM R<|xI AZ R ac<|xB ((A4 x6)) By R<|sS R (ZK 42 R AZ (f:=AD.row) (l:=([x6]:List AD)) ⟨R,⟨_,iL,R⟩,Za⟩ R (λ_=>R) R)<|Zc Z λb5 a0 b1=>sS R (B6 R AZ iL R (.inr<|.inl ⟨_,_,iL,R⟩) a0)<|mA R<|Zh<|U _ _ wk<|J3 _ _ (AG [((i8 1)+1),((i8 1)+2)]) (Zb b1).symm
   exact Zd<|U _ _ wk<|J3 _ _ (AG [(i8 0),(i8 1)]) (Zb Z).symm
  refine aC R (λa2=>?_) λa2=>?_
  ·have a6:=Ba a2 ab
   refine aU<|mM R<|xC By R<|sS R (ZK 27 R AZ (f:=AD.row) (l:=([w]:List AD)) ⟨R,⟨_,iL,R⟩,Za⟩ R (λ_=>R) R)<|Zc a6 λb2 O b3=>sS R (B6 R AZ iL R (.inr<|.inl ⟨_,_,iL,R⟩) O)<|mA R<|aZ<|aG [0,3,5,7,9,10] [3,5005] ?_
   exact aR<|mA R<|Zh<|V _ _ wk<|J4 _ _ (AG [((M 1)+1),((M 1)+2)]) (Zb b3).symm
  ·have a6:=Be a2 ab
   exact Zd<|V _ _ wk<|J4 _ _ (AG [(M 0),(M 1)]) (Zb a6).symm
 exact Zn<|ad _ _ wk<|J1 _ _ (AG [(M 0),(M 1)])<|xH ah h6
theorem aD{l f r}(h:Nq l f=some r):AM prog 110 [rS l,rS f] (rB r):=by
 unfold Nq at h
 refine mF func110 ntmps110 R λw=>aU<|mA R<|aZ<|aT λq=>aR<|mM R<|sQ R (ZO R underlying9 iL)<|mM R<|sQ R (ZO R underlying9 iL)<|sQ R (Zy R iL iL)<|mM R<|vM R<|vM R<|vQ R (ZO R underlying9<|iR R)<|Zc h λA j u=>?_
 refine vQ R (IY R underlying9 (iR R) (by exact R) (by exact⟨_,(iR R)⟩)<|AN j) ?_
 exact vM R<|vQ R (ZI R (iR R)<|iR R)<|xN R<|mA R<|aZ<|q _<|Zj<|yB u R
theorem fF{n r}(h:NY n=some r):AM prog 58 [rS n] (rB r):=by
 unfold NY at h
 exact mF func58 ntmps58 R λw=>aU<|mA R<|aZ<|aU<|mM R<|sQ R (ZI R iL iL)<|mM R<|vM R<|vQ R (ZI R (iR R) iL)<|xO R<|mM R<|vM R<|Zc h λA j q=>vL (λhg=>aD<|AN j hg) R<|xO R<|mM R<|vM R<|Zc q λB l u=>vL (λhg=>aD<|AN l hg) R<|xO R<|mA R<|aZ<|Zj<|yB u R
theorem kZ{v1 b r}(h:LW v1 b=some r):AM prog 18 [qb v1,rI b] (qa r):=by
 unfold LW at h
 refine mF func18 ntmps18 R λu=>aU<|mA R<|aZ<|aT λc2=>aR ?_
 refine sQ R (ZD R H3 (q:=[(0,_)]) (by exact⟨R,R,R,iL,Za⟩) (cs:=LK)<|by rfl) ?_
 refine sQ R (ZD R H3 (q:=[(0,_)]) (by exact⟨R,R,R,iL,Za⟩) (cs:=LK)<|by rfl) ?_
 refine sS R (Zq (cs:=EC) 5 R ED R R)<|sS R (Zq (cs:=EC) 6 R ED R R)<|Zk R R (Zi (ds:=LK) R Cp iL R iL R R R R)<|Zk R R (Zi (ds:=LK) R Cp iL R iL R R R R)<|aZ<|c2 _<|aS λK3 c3 ak=>aU<|mM R<|sQ R (Zy R iL iL)<|aZ<|Ar h λp1 al b6=>?_
 have J1:∀(l:AC) (i1:NN),p1=l→K3 ⟨[(0,qb v1),(1,rI b),(5,.ptr 5 u 0 0),(6,.ptr 6 (u+1) 0 0)],[(5,some<|.box u 51<|Aa l),(6,some<|.box (u+1) 51 LK)],(i1 0),89⟩:=by
  intro l i1 e
  have h1:=b6 _ e
  refine c3 _<|aS λK5 c5 an=>aU<|mM R<|mM R<|xL Ab R<|xS R<|aZ<|Ar h1 λp2 ao b7=>?_
  have J2:∀(j:AC) (J:NN),p2=j→K5 ⟨[(1,rI b),(5,.ptr 5 u 0 0),(6,.ptr 6 (u+1) 0 0)],[(5,some<|.box u 51<|Aa l),(6,some<|.box (u+1) 51<|Aa j)],(J 0),89⟩:=by
   intro j J e
   have h2:=b7 _ e
   refine c5 _<|aU<|xC CK R<|sS R (Zq (cs:=EC) 7 R ED R R)<|Zk R R (Zi (ds:=(Aa l)) R Cp iL R iL R R R R)<|aZ<|aS λK8 c8 aq=>aU<|lF De AI R R<|xQ R<|aZ<|Ar h2 λp3 ar b8=>?_
   have J3:∀(q:AC) (i3:NN),p3=q→K8 ⟨[(1,rI b),(5,.ptr 5 u 0 0),(6,.ptr 6 (u+1) 0 0),(7,.ptr 7 (J 0) 0 0)],[(5,some<|.box u 51<|Aa l),(6,some<|.box (u+1) 51<|Aa j),(7,some<|.box (J 0) 51<|Aa q)],(i3 0),89⟩:=by
    intro q i3 e
    have h3:=b8 _ e
    refine c8 _<|aU<|mA R<|aZ<|aS λb9 ba O=>aU<|lF De AI R R<|xU R<|aZ<|Ar h3 λp4 av bb=>?_
    have J4:∀(C:List AD) (i4:NN),p4=C→b9 ⟨[(1,rI b),(5,.ptr 5 u 0 0),(6,.ptr 6 (u+1) 0 0),(8,qa C)],[(5,some<|.box u 51<|Aa l),(6,some<|.box (u+1) 51<|Aa j)],(i4 0),89⟩:=by
     intro C i4 e
     have h4:=bb _ e
     refine ba _<|aS λbc bd T=>aU<|mM R<|sQ R (Zy R iL iL)<|aZ<|Ar h4 λp5 aw be=>?_
     have J5:∀(E:List AD) (i5:NN),p5=E→bc ⟨[(8,qa E)],[],(i5 0),89⟩:=by
      intro E i5 e
      have h5:=be _ e
      exact bd _<|aU<|mM R<|mA R<|aZ<|Zj<|CX (P:=prog) (λ(r:(List AD))=>qa r) h5 iL<|.t<|.d R
     refine aC R (λZ=>?_) λZ=>?_
     ·have h6:=Ba Z aw
      refine aU<|lF B9 A1 R R<|xL AZ R<|mM R<|aZ<|Zf<|A5 h6 λo1 ax cm bf=>ZL (λ(A:List AD) (x2:Int) i8=>⟨[(5,.ptr 5 u 0 0),(6,.ptr 6 (u+1) 0 0),(8,qa A),(62,rL l.Attrs),(63,rI x2)],[(5,some<|.box u 51<|Aa l),(6,some<|.box (u+1) 51<|Aa j)],(i8 0),89⟩) (AG [(i4 0)]) ax wk ?_
      intro A x2 i8 v2 bg bh
      have h7:La l j A x2=some v2:=bg;unfold La at h7
      refine aU<|xS R<|aZ<|aT λbi=>cI R h7 (λh8=>?_) λh8=>?_
      ·refine Zd<|bi _<|aS λbj bk U=>Zf<|Ar h8 λp6 bl bm=>?_
       have J7:∀(F:List AD) (a0:NN),p6=F→bj ⟨[(5,.ptr 5 u 0 0),(6,.ptr 6 (u+1) 0 0),(8,qa F),(62,rL l.Attrs),(63,rI x2)],[(5,some<|.box u 51<|Aa l),(6,some<|.box (u+1) 51<|Aa j)],(a0 0),89⟩:=by
        intro F a0 e
        have h9:=bm _ e
        exact bk _<|aR<|Zc h9 λx4 bn bo=>xA R bn<|mM R<|Zh<|ZH bo (AG [(a0 0)]) wk
       refine aU<|mM R<|mA R<|aZ<|aU<|lF B9 A1 R R<|mM R<|Zc bl λV bp bq=>xI AZ R bp<|xB ((A4 V)) By R<|sS R (Zq (cs:=[.r<|.str [],.r<|.str []]) 11 R Kf R R)<|Zk R R (Zi (ds:=(A4 V)) R I6 iL R iL R R R R)<|aZ<|aT λbr=>?_
       refine ZA A8 (by kernel_rfl) ?_
       refine qP R (fB R B0 iL fR R)<|qP R (Zg (a:=rS V.Name) R A2 iL R R)<|Zc bq λr1 bs bt=>EQ R R R (r:=rB r1) (caps:=[]) (bs:=[rS V.Name]) R iL R ⟨⟨_,iL,.d R⟩,Za⟩ (λ_=>fF<|bs) R<|qP R (Ze R iL)<|qO R (fB R B9 iL fR R)<|qO R (Zg (a:=qa j.Attrs) R A1 (iR R) R R)<|qO R (fB R B0 iL fR R)<|qO R (Zg (a:=rS V.Name) R A2 (iR R) R R)<|Zc bt λr2 bu bv=>G0 (.one R R R) R R (r:=rS r2) (caps:=[]) (bs:=[qa j.Attrs,rS V.Name]) R iL R ⟨⟨_,(iR R),.d R⟩,⟨_,(iR R),.d R⟩,Za⟩ (λhg=>Xk<|AN bu hg) R<|qO R (fB R Hw iL fR R)<|qO R (Zg (a:=rS V.Value) R A2 (iR R) R R)<|qO R (ZI R (iR R)<|iR R)<|qP R (ZG R iL<|iR R)<|AQ.nil<|br _<|cI R bv (λa1=>?_) λa1=>?_
       ·refine aG [5,6,8,11,62,63] [5,6,11] ?_
        exact aR<|mM R<|xC By R<|Zc a1 λay a2 bw=>sS R (ZJ (r:=qa ay) (caps:=[]) (bs:=[qa A,.agg<|A4 V]) R iL R ⟨.inl ⟨iL,R⟩,.inl ⟨iL,R⟩,Za⟩ λ_=>PX<|a2)<|mA R<|Zh<|U _ _ wk<|J7 _ (AG [((i8 0)+1)]) (Zb bw).symm
       exact Zd<|U _ _ wk<|J7 _ (AG [((i8 0)+1)]) (Zb a1).symm
      exact Zn<|T _ _ wk<|J5 _ (AG [(i8 0)]) (Zb<|bf _<|xH bh h8).symm
     ·have h6:=Be Z aw
      exact Zd<|T _ _ wk<|J5 _ (AG [(i4 0)]) (Zb h6).symm
    refine aC R (λa6=>?_) λa6=>?_
    ·have a7:=Ba a6 av
     refine aU<|lF B9 A1 R R<|xL AZ R<|mM R<|aZ<|Zf<|A5 a7 λo2 az cn bx=>?_
     refine ZL (λ(B:List AD) (x7:Int) I=>⟨[(1,rI b),(5,.ptr 5 u 0 0),(6,.ptr 6 (u+1) 0 0),(7,.ptr 7 (J 0) 0 0),(8,qa B),(39,rL q.Attrs),(40,rI x7)],[(5,some<|.box u 51<|Aa l),(6,some<|.box (u+1) 51<|Aa j),(7,some<|.box (J 0) 51<|Aa q)],(I 0),89⟩) (AG [(i3 0)]) az ((by exact ZC ⟨jL,jL,jL,jL,.inl<|.inr<|.inr ⟨R,R⟩,jL,jL,Za⟩ ⟨.inl R,.inl R,.inl R,Za⟩ nL)) ?_
     intro B x7 I v3 bz c0
     have b0:Lk q B x7=some v3:=bz;unfold Lk at b0
     refine aU<|xS R<|aZ<|aT λc1=>cI R b0 (λa8=>?_) λa8=>?_
     ·refine Zd<|c1 _<|aS λc4 c6 X=>Zf<|Ar a8 λp7 c7 c9=>?_
      have J9:∀(w:List AD) (aa:NN),p7=w→c4 ⟨[(1,rI b),(5,.ptr 5 u 0 0),(6,.ptr 6 (u+1) 0 0),(7,.ptr 7 (J 0) 0 0),(8,qa w),(39,rL q.Attrs),(40,rI x7)],[(5,some<|.box u 51<|Aa l),(6,some<|.box (u+1) 51<|Aa j),(7,some<|.box (J 0) 51<|Aa q)],(aa 0),89⟩:=by
       intro w aa e
       have ca:=c9 _ e
       exact c6 _<|aR<|Zc ca λx9 cb cc=>xA R cb<|mM R<|Zh<|ZH cc (AG [(aa 0)]) wk
      refine aU<|mM R<|mA R<|aZ<|aU<|lF B9 A1 R R<|mM R<|Zc c7 λab Y cd=>xI AZ R Y<|sQ R (Zl R B0 iL)<|xV (.str ab.Name) A2 R<|Zc cd λr3 cf cg=>cL (kK<|cf) R<|aZ<|cI R cg (λac=>?_) λac=>?_
      ·refine aG [1,5,6,7,8,9,39,40] [5,6,7] ?_
       exact aR<|mM R<|lF B9 A1 R R<|mM R<|xI AZ R Y<|xB ((A4 ab)) By R<|Zc ac λad M ch=>sS R (ZJ (r:=qa ad) (caps:=[]) (bs:=[qa B,.agg<|A4 ab]) R iL R ⟨.inl ⟨iL,R⟩,.inl ⟨iL,R⟩,Za⟩ λ_=>PX<|M)<|mA R<|Zh<|X _ _ wk<|J9 _ (AG [(I 0)]) (Zb ch).symm
      exact Zd<|X _ _ wk<|J9 _ (AG [(I 0)]) (Zb ac).symm
     exact Zn<|O _ _ wk<|J4 _ (AG [(I 0)]) (Zb<|bx _<|xH c0 a8).symm
    ·have a7:=Be a6 av
     refine Zd ?_
     exact O _ _ ((by exact ZC ⟨jL,jL,jL,.inl<|.inr<|.inr ⟨R,R⟩,Za⟩ ⟨.inl R,.inl R,Za⟩ nL))<|J4 _ (AG [(i3 0)]) (Zb a7).symm
   refine aC R (λae=>?_) λae=>?_
   ·have af:=Ba ae ar
    exact aR<|xC CK R<|Zk R R (Zi (ds:=(Aa j)) R Cp iL R iL R R R R)<|Zh<|aq _ _ wk<|J3 _ (AG [((J 0)+1)]) (Zb af).symm
   ·have af:=Be ae ar
    exact Zd<|aq _ _ wk<|J3 _ (AG [((J 0)+1)]) (Zb af).symm
  refine aC R (λag=>?_) λag=>?_
  ·have ah:=Ba ag ao
   exact aR<|mM R<|mM R<|Zc ah λb1 b2 cj=>xI Ab R b2<|xB ((Aa b1)) CK R<|Zk R R (Zi (ds:=(Aa b1)) R Cp iL R iL R R R R)<|Zh<|an _ _ wk<|J2 _ (AG [(i1 0)]) (Zb cj).symm
  ·have ah:=Be ag ao
   refine Zd ?_
   exact an _ _ ((by exact ZC ⟨jL,jL,jL,Za⟩ ⟨.inl R,.inr<|.inr ⟨_,_,_,_,R,R,⟨.inl R,.inl R,.inr<|.inr ⟨R,R⟩,Za⟩⟩,Za⟩ nL))<|J2 _ (AG [(i1 0)]) (Zb ah).symm
 refine aC R (λai=>?_) λai=>?_
 ·have aj:=Ba ai al
  exact aR<|mM R<|mM R<|Zc aj λcp b3 ck=>sQ R (Bu R iL iL λ_=>b3)<|Zc ck λb4 b5 cl=>xI Ab R b5<|xB ((Aa b4)) CK R<|Zk R R (Zi (ds:=(Aa b4)) R Cp iL R iL R R R R)<|Zh<|ak _ _ wk<|J1 _ (AG [(u+2)]) (Zb cl).symm
 ·have aj:=Be ai al
  refine Zd ?_
  exact ak _ _ ((by exact ZC ⟨jL,jL,jL,jL,Za⟩ ⟨.inr<|.inr ⟨_,_,_,_,R,R,⟨.inl R,.inl R,.inr<|.inr ⟨R,R⟩,Za⟩⟩,.inl R,Za⟩ nL))<|J1 _ (AG [(u+2)]) (Zb aj).symm
theorem ru{F a r}(h:Kp F a=some r):BL prog 15 1 [rS F,qa a] [] (λA h'=>∃(i:Nat→Nat),A=.tup [.own 1000<|i 0,rI r.1]∧h'=[(1000,some<|.arr (i 0) 51 3<|r.2.map AC.row)]):=by
 unfold Kp at h
 refine DU func15 R R ntmps15 (Zw R) λq=>aU<|mA R<|mA R<|aZ<|aT λc2=>aU<|mM R<|Zc h λu M h1=>cL (KE<|M) R<|mA R<|aZ<|aU<|mM R<|xU R<|aZ<|cI R h1 (λO=>?_) λO=>?_
 ·refine aU<|mM R<|mA R<|mA R<|aZ ?_
  exact Zj<|ZM (s':=⟨[(4,.own 1000 q),(5,rI u)],[(1000,some<|.arr q 51 3<|([]:List AC).map AC.row)],(q+1),48⟩) (Zm (Zm (ZR 4 1000 51 3 (by decide) R)<|by exact ZC (e':=[(0,rS F),(1,qa a),(4,.own 1000 q),(5,rI u),(6,rI u),(11,qa a),(12,rI u),(13,rI u),(14,rB<|(!(u=0))),(15,rI u)]) (h':=[(1000,some<|.arr q 51 3<|([]:List AC).map AC.row)]) ⟨jL,jL,jL,jL,jL,jL,jL,jL,jL,jL,Za⟩ ⟨.inl R,Za⟩ nL) wk)<|ZE (λ(r:Int × (List AC)) A h'=>∃(i:Nat→Nat),A=.tup [.own 1000<|i 0,rI r.1]∧h'=[(1000,some<|.arr (i 0) 51 3<|r.2.map AC.row)]) O<|by exact⟨.tup [.own 1000 q,rI u],[(1000,some<|.arr q 51 3<|([]:List AC).map AC.row)],⟨_,R,⟨R,R,Za⟩⟩,⟨.inr R,Za⟩,R,R,AG [q],R,R⟩
 refine Zd<|c2 _<|aU<|mA R<|aZ<|aS λK7 c7 T=>aU<|mA R<|aZ<|Zf<|A5 O λo1 I U J=>?_
 have J1:∀(l:List AC) (i8:NN),o1=.nrm l→K7 ⟨[(7,.own 5007<|i8 0)],[(5007,some<|.arr (i8 0) 51 3<|l.map AC.row)],(i8 1),48⟩:=by
  intro l i8 e
  have h3:=U _ e
  refine c7 _<|aU<|mM R<|mA R<|mA R<|aZ ?_
  exact Zj<|ZM (s':=⟨[(4,.own 1000<|i8 1),(5,rI 0)],[(1000,some<|.arr (i8 1) 51 3<|l.map AC.row)],((i8 1)+1),48⟩) (Zm (Zm (Ag.ren 4 5007 1000 R R R)<|by exact ZC (e':=[(4,.own 1000<|i8 1),(5,rI 0)]) (h':=[(1000,some<|.arr (i8 1) 51 3<|l.map AC.row)]) ⟨jL,jL,Za⟩ ⟨.inl R,Za⟩ nL) wk)<|ZE (λ(r:Int × (List AC)) A h'=>∃(i:Nat→Nat),A=.tup [.own 1000<|i 0,rI r.1]∧h'=[(1000,some<|.arr (i 0) 51 3<|r.2.map AC.row)]) h3<|by exact⟨.tup [.own 1000<|i8 1,rI 0],[(1000,some<|.arr (i8 1) 51 3<|l.map AC.row)],⟨_,R,⟨R,R,Za⟩⟩,⟨.inr R,Za⟩,R,R,AG [(i8 1)],R,R⟩
 refine ZL (λ(V:Int) (w:List AC) j=>⟨[(0,rS F),(1,qa a),(7,.own 5007<|j 0),(8,rI V)],[(5007,some<|.arr (j 0) 51 3<|w.map AC.row)],(j 1),48⟩) (AG [q,(q+1)]) I (Zm (Zm (ZR 7 5007 51 3 (by decide) R)<|by exact ZC (e':=[(0,rS F),(1,qa a),(4,cZ),(5,rI 0),(6,rI u),(7,.own 5007 q),(8,rI 0),(11,qa a),(12,rI u),(13,rI u),(14,rB<|(!(u=0)))]) (h':=[(5007,some<|.arr q 51 3<|([]:List AC).map AC.row)]) ⟨jL,jL,jL,jL,jL,jL,jL,jL,jL,jL,jL,Za⟩ ⟨.inl R,Za⟩ nL) wk) ?_
 intro V w j v1 X B
 have h4:GK F a V w=some v1:=X;unfold GK at h4
 refine aT λY=>aU<|mM R<|mM R<|sQ R (ZO R underlying9 iL)<|xS R<|aZ<|cI R h4 (λZ=>?_) λZ=>?_
 ·refine Zd<|Y _<|Zf<|aT λa0=>aR<|mM R<|mM R<|Zc Z λs2 a1 h6=>?_
  refine sQ R (IY R underlying9 iL (by exact⟨_,iL⟩) (by exact R) λ_=>a1) ?_
  refine Ch h6 λr1 r2 a2 h7=>cL (RO<|a2) R<|mM R<|xX R<|xX R<|mA R<|mA R<|aZ<|a0 _<|aT λa6=>aT λa7=>aG [0,1,7,8,9,10] [5007] ?_
  refine aR<|mM R<|xQ R<|mM R<|vM R<|vQ R (Bp R (iR R) iL)<|xN R<|aZ<|a7 _<|cI R h7 (λh8=>?_) λh8=>?_
  ·refine aT λa8=>aF [] ?_
   refine aR<|mA R<|mA R<|oZ a8 ?_
   exact Zj<|ZM (s':=⟨[(4,.own 1000<|j 1),(5,rI 10)],[(1000,some<|.arr (j 1) 51 3<|([]:List AC).map AC.row)],((j 1)+1),48⟩) (Zm (Zm (ZR 4 1000 51 3 (by decide) R)<|by exact ZC (e':=[(4,.own 1000<|j 1),(5,rI 10)]) (h':=[(1000,some<|.arr (j 1) 51 3<|([]:List AC).map AC.row)]) ⟨jL,jL,Za⟩ ⟨.inl R,Za⟩ nL) wk)<|ZE (λ(r:Int × (List AC)) A h'=>∃(i:Nat→Nat),A=.tup [.own 1000<|i 0,rI r.1]∧h'=[(1000,some<|.arr (i 0) 51 3<|r.2.map AC.row)]) (J _<|xH B h8)<|by exact⟨.tup [.own 1000<|j 1,rI 10],[(1000,some<|.arr (j 1) 51 3<|([]:List AC).map AC.row)],⟨_,R,⟨R,R,Za⟩⟩,⟨.inr R,Za⟩,R,R,AG [(j 1)],R,R⟩
  refine Zd<|a6 _<|aT λaa=>aU<|mM R<|sQ R (ZF R underlying21 underlying3 iL)<|Zc h8 λr3 ab h9=>cL (UI<|ab) R<|sQ R (Zu R iL)<|aZ<|cI R h9 (λC=>?_) λC=>?_
  ·refine aT λac=>aF [] ?_
   refine aR<|mA R<|mA R<|oZ ac ?_
   exact Zj<|ZM (s':=⟨[(4,.own 1000<|j 1),(5,rI 2)],[(1000,some<|.arr (j 1) 51 3<|([]:List AC).map AC.row)],((j 1)+1),48⟩) (Zm (Zm (ZR 4 1000 51 3 (by decide) R)<|by exact ZC (e':=[(4,.own 1000<|j 1),(5,rI 2)]) (h':=[(1000,some<|.arr (j 1) 51 3<|([]:List AC).map AC.row)]) ⟨jL,jL,Za⟩ ⟨.inl R,Za⟩ nL) wk)<|ZE (λ(r:Int × (List AC)) A h'=>∃(i:Nat→Nat),A=.tup [.own 1000<|i 0,rI r.1]∧h'=[(1000,some<|.arr (i 0) 51 3<|r.2.map AC.row)]) (J _<|xH B C)<|by exact⟨.tup [.own 1000<|j 1,rI 2],[(1000,some<|.arr (j 1) 51 3<|([]:List AC).map AC.row)],⟨_,R,⟨R,R,Za⟩⟩,⟨.inr R,Za⟩,R,R,AG [(j 1)],R,R⟩
  refine Zd<|aa _<|aT λad=>aR<|mM R<|mM R<|sQ R (ZF R underlying21 underlying3 iL)<|mM R ?_
  refine sQ R (ZD R H3 (q:=[(0,_),(2,_)]) (by exact⟨R,R,R,iL,R,R,R,iL,Za⟩) (cs:=[rI<|(IntKind.i64.wrap r1),rI 0,qa a])<|by rfl) ?_
  refine sS R (ZK 42 R Ab (f:=AC.row) (l:=([(AC.mk (IntKind.i64.wrap r1) 0 a)]:List AC)) ⟨R,⟨_,iL,R⟩,Za⟩ R (λ_=>R) R)<|Zc C λah E ae=>sS R (B6 R Ab iL R (.inr<|.inl ⟨_,_,iL,R⟩) E)<|mA R<|aZ<|ad _<|aG [0,1,7,8,10] [5007] ?_
  exact aR<|mM R<|mM R<|Zc ae λi9 af ag=>xA R af<|mA R<|Zh<|ZH ag (AG [((j 1)+1),((j 1)+2)]) wk
 exact Zn<|T _ _ wk<|J1 _ (AG [(j 0),(j 1)])<|xH B Z
theorem lW{v1 a r}(h:J8 v1 a=some r):AM prog 19 [qb v1,rI a] (qa r):=by
 unfold J8 at h
 refine mF func19 ntmps19 R λn0=>aU<|mA R<|aZ<|aS λK2 c2 ac=>Zf<|Ar h λo1 a0 ad=>?_
 have J1:∀(q:Int) (i5:NN),o1=q→K2 ⟨[(0,qb v1),(1,rI q)],[],(i5 0),62⟩:=by
  intro q i5 e
  have h1:=ad _ e
  refine c2 _<|aU<|mA R<|aZ<|aT λc4=>aU<|mM R<|mM R<|xL Ab R<|xQ R<|aZ<|cI R h1 (λh2=>?_) λh2=>?_
  ·exact aU<|mM R<|mA R<|aZ<|Zj<|CX (P:=prog) (λ(r:(List AD))=>qa r) h2 iL<|.t<|.one<|.nil
  refine Zd<|c4 _<|aS λK7 c7 ae=>aU<|mM R<|mM R<|Zc h2 λZ a1 h3=>xI Ab R a1<|sQ R (Zl R B9 iL)<|xV (.sl<|Z.Attrs.map AD.row) A1 R<|xL AZ R<|mM R<|aZ<|Zf<|Ar h3 λo2 a2 af=>?_
  have J2:∀(u:List AD) (a6:NN),o2=u→K7 ⟨[(5,qa u)],[],(a6 0),62⟩:=by
   intro u a6 e
   have h4:=af _ e
   exact c7 _<|aU<|mM R<|mA R<|aZ<|Zj<|CX (P:=prog) (λ(r:(List AD))=>qa r) h4 iL<|.t<|.d R
  refine ZL (λ(l:List AD) (x3:Int) i8=>⟨[(0,qb v1),(1,rI q),(5,qa l),(32,rL Z.Attrs),(33,rI x3)],[],(i8 0),62⟩) (AG [(i5 0)]) a2 ((by exact ZC ⟨jL,jL,.inl<|.inr<|.inr ⟨R,R⟩,jL,jL,Za⟩ Za nL)) ?_
  intro l x3 i8 v2 ag ah
  have h5:KF Z l x3=some v2:=ag;unfold KF at h5
  refine aU<|xS R<|aZ<|aT λai=>cI R h5 (λh6=>?_) λh6=>?_
  ·refine Zd<|ai _<|aS λaj ak w=>Zf<|Ar h6 λp1 al an=>?_
   have J3:∀(A:List AD) (C:NN),p1=A→aj ⟨[(0,qb v1),(1,rI q),(5,qa A),(32,rL Z.Attrs),(33,rI x3)],[],(C 0),62⟩:=by
    intro A C e
    have h7:=an _ e
    exact ak _<|aR<|Zc h7 λx5 ao h8=>xA R ao<|mM R<|Zh<|ZH h8 (AG [(C 0)]) wk
   refine aU<|mM R<|mA R<|aZ<|aU<|mM R<|mM R<|xI Ab R a1<|sQ R (Zl R B9 iL)<|xV (.sl<|Z.Attrs.map AD.row) A1 R<|mM R<|Zc al λx6 aq h9=>xI AZ R aq<|xB ((A4 x6)) By R<|sS R (Zq (cs:=[.r<|.str [],.r<|.str []]) 7 R Kf R R)<|Zk R R (Zi (ds:=(A4 x6)) R I6 iL R iL R R R R)<|aZ<|aT λar=>aT λav=>aG [0,1,5,7,32,33] [7] ?_
   refine aR<|lF B0 A2 R R<|aZ<|av _<|Zf<|aS λaw ax j=>aU<|sQ R (ZI R iL iL)<|mA R<|aZ<|Ar h9 λp2 a7 ay=>?_
   have J4:∀(x7:Bool) (B:NN),p2=x7→aw ⟨[(0,qb v1),(1,rI q),(5,qa l),(7,.ptr 7 (i8 0) 0 0),(32,rL Z.Attrs),(33,rI x3),(46,rB x7)],[(7,some<|.box (i8 0) 58<|A4 x6)],(B 0),62⟩:=by
    intro x7 B e
    have az:=ay _ e
    refine ax _<|cI R az (λE=>?_) λE=>?_
    ·exact Zn<|w _ _ wk<|J3 _ (AG [(B 0)]) (Zb E).symm
    refine Zd<|ar _<|aU<|lF B0 A2 R R<|Zc E λr1 b0 b1=>cL (fF<|b0) R<|sQ R (Zu R iL)<|aZ<|cI R b1 (λF=>?_) λF=>?_
    ·exact aR<|mM R<|xC By R<|Zc F λa8 I b2=>sS R (ZJ (r:=qa a8) (caps:=[]) (bs:=[qa l,.agg<|A4 x6]) R iL R ⟨.inl ⟨iL,R⟩,.inl ⟨iL,R⟩,Za⟩ λ_=>PX<|I)<|mA R<|Zh<|w _ _ wk<|J3 _ (AG [(B 0)]) (Zb b2).symm
    exact Zd<|w _ _ wk<|J3 _ (AG [(B 0)]) (Zb F).symm
   refine aC R (λJ=>?_) λJ=>?_
   ·have M:=Ba J a7
    exact Zd<|j _ _ wk<|J4 _ (AG [((i8 0)+1)]) (Zb M).symm
   ·have M:=Be J a7
    refine aU<|sQ R (ZI R iL iL)<|mA R<|aZ<|cI R M (λO=>?_) λO=>?_
    ·exact Zd<|j _ _ wk<|J4 _ (AG [((i8 0)+1)]) (Zb O).symm
    refine aU<|sQ R (ZI R iL iL)<|mA R<|aZ<|cI R O (λT=>?_) λT=>?_
    ·exact Zd<|j _ _ wk<|J4 _ (AG [((i8 0)+1)]) (Zb T).symm
    refine aU<|sQ R (ZI R iL iL)<|mA R<|aZ<|cI R T (λU=>?_) λU=>?_
    ·exact Zd<|j _ _ wk<|J4 _ (AG [((i8 0)+1)]) (Zb U).symm
    refine aU<|sQ R (ZI R iL iL)<|mA R<|aZ<|cI R U (λV=>?_) λV=>?_
    ·exact Zd<|j _ _ wk<|J4 _ (AG [((i8 0)+1)]) (Zb V).symm
    exact aR<|sQ R (ZI R iL iL)<|mA R<|Zh<|j _ _ wk<|J4 _ (AG [((i8 0)+1)]) (Zb V).symm
  exact Zn<|ae _ _ wk<|J2 _ (AG [(i8 0)])<|xH ah h6
 refine Zz (λ(X:Int) i3=>⟨[(0,qb v1),(1,rI X)],[],(i3 0),62⟩) (AG [n0]) a0 wk ?_
 intro X i3 v3 b3 b4
 have aa:T3 v1 X=some v3:=b3;unfold T3 at aa
 refine aT λb5=>aU<|mM R<|mM R<|xL Ab R<|xS R<|mM R<|vM R<|vM R<|Zc aa λx8 b6 b7=>vQ R (Zr R Ab.slice (iR R) (iR R) (λ_=>R)<|AN b6)<|vQ R (Zl R De<|iR R)<|vQ R (ZB (d:=.int .i64 x8.Char) R AI (iR R) R)<|vQ R (CP R (iR R) iL)<|xN R<|aZ<|cI R b7 (λY=>?_) λY=>?_
 ·exact Zd<|b5 _<|Zf<|aR<|mM R<|Zc Y λb9 ab b8=>xA R ab<|mA R<|Zh<|Zx b8 (AG [(i3 0)]) wk
 exact Zn<|ac _ _ wk<|J1 _ (AG [(i3 0)])<|xH b4 Y
theorem U2{Z c r}(h:Hj Z c=some r):AM prog 64 [qa Z,qa c] (qa r):=by
 unfold Hj at h
 refine mF func64 ntmps64 R λn0=>aU<|mA R<|aZ<|aU<|mA R<|aZ<|aS λK3 c3 ah=>aU<|mM R<|xL AZ R<|mM R<|aZ<|Zf<|Ar h λo1 a0 ai=>?_
 have J1:∀(E:List AD) (i5:NN),o1=E→K3 ⟨[(1,qa c),(5,qa E)],[],(i5 0),54⟩:=by
  intro E i5 e
  have h1:=ai _ e
  refine c3 _<|aS λK5 c5 aj=>aU<|mM R<|xL AZ R<|mM R<|aZ<|Zf<|Ar h1 λo2 a1 ak=>?_
  have J2:∀(j:List AD) (C:NN),o2=j→K5 ⟨[(5,qa j)],[],(C 0),54⟩:=by
   intro j C e
   have h2:=ak _ e
   refine c5 _<|aU<|mA R<|aZ<|aS λK8 c8 al=>aU<|mM R<|xL AZ R<|mM R<|aZ<|Zf<|Ar h2 λo3 a2 an=>?_
   have J3:∀(q:List AD) (F:NN),o3=q→K8 ⟨[(8,.own 5008<|F 0)],[(5008,some<|.arr (F 0) 58 2<|q.map AD.row)],(F 1),54⟩:=by
    intro q F e
    have h3:=an _ e
    exact c8 _<|aU<|mM R<|mA R<|aZ<|Zj<|CX (P:=prog) (λ(r:(List AD))=>qa r) h3 iL<|.t<|.one<|.own R
   refine ZL (λ(x8:Int) (u:List AD) l=>⟨[(5,qa j),(8,.own 5008<|l 0),(35,rL j),(36,rI x8)],[(5008,some<|.arr (l 0) 58 2<|u.map AD.row)],(l 1),54⟩) (AG [(C 0),((C 0)+1)]) a2 (Zm (Zm (ZR 8 5008 58 2 (by decide) R)<|by exact ZC (e':=[(5,qa j),(8,.own 5008<|C 0),(34,qa j),(35,rL j),(36,rI 0)]) (h':=[(5008,some<|.arr (C 0) 58 2<|([]:List AD).map AD.row)]) ⟨jL,jL,jL,jL,jL,Za⟩ ⟨.inl R,Za⟩ nL) wk) ?_
   intro x8 u l v1 ao aq
   have h4:QV j x8 u=some v1:=ao;unfold QV at h4
   refine aU<|xS R<|aZ<|aT λar=>cI R h4 (λh5=>?_) λh5=>?_
   ·refine Zd<|ar _<|aS λav aw M=>Zf<|Ar h5 λp1 ax ay=>?_
    have J4:∀(w:List AD) (i16:NN),p1=w→av ⟨[(5,qa j),(8,.own 5008<|i16 0),(35,rL j),(36,rI x8)],[(5008,some<|.arr (i16 0) 58 2<|w.map AD.row)],(i16 1),54⟩:=by
     intro w i16 e
     have h6:=ay _ e
     exact aw _<|aR<|Zc h6 λbf a6 h7=>xA R a6<|mM R<|Zh<|ZH h7 (AG [(i16 0),(i16 1)]) wk
    refine aU<|mM R<|mA R<|aZ<|aU<|mM R<|mM R<|Zc ax λT O h8=>xI AZ R O<|sQ R (Zl R Hw iL)<|xV (.str T.Value) A2 R<|sQ R (DH R iL iL)<|aZ<|cI R h8 (λh9=>?_) λh9=>?_
    ·exact aR<|mM R<|mM R<|mM R<|xI AZ R O<|xB ((A4 T)) By R<|sS R (ZK 50 R AZ (f:=AD.row) (l:=([T]:List AD)) ⟨R,⟨_,iL,R⟩,Za⟩ R (λ_=>R) R)<|Zc h9 λaz I b0=>sS R (B6 R AZ iL R (.inr<|.inl ⟨_,_,iL,R⟩) I)<|mA R<|Zh<|M _ _ wk<|J4 _ (AG [((l 1)+1),((l 1)+2)]) (Zb b0).symm
    exact Zd<|M _ _ wk<|J4 _ (AG [(l 0),(l 1)]) (Zb h9).symm
   exact Zn<|al _ _ wk<|J3 _ (AG [(l 0),(l 1)])<|xH aq h5
  refine ZL (λ(A:List AD) (x5:Int) i8=>⟨[(1,qa c),(5,qa A),(23,rL c),(24,rI x5)],[],(i8 0),54⟩) (AG [(i5 0)]) a1 wk ?_
  intro A x5 i8 v2 b1 b2
  have a7:Oa c A x5=some v2:=b1;unfold Oa at a7
  refine aU<|xS R<|aZ<|aT λb3=>cI R a7 (λU=>?_) λU=>?_
  ·refine Zd<|b3 _<|aT λb4=>Zf<|aU<|mM R<|mA R<|aZ<|aR<|mM R<|mM R<|mM R<|Zc U λa8 aa b5=>xI AZ R aa<|xB ((A4 a8)) By R<|Zc b5 λab V b6=>sS R (ZJ (r:=qa ab) (caps:=[]) (bs:=[qa A,.agg<|A4 a8]) R iL R ⟨.inl ⟨iL,R⟩,.inl ⟨iL,R⟩,Za⟩ λ_=>PX<|V)<|mA R<|aZ<|b4 _<|aF [1,5,23,24] ?_
   exact aR<|Zc b6 λbg ac b7=>xA R ac<|mM R<|Zh<|ZH b7 (AG [(i8 0)]) wk
  exact Zn<|aj _ _ wk<|J2 _ (AG [(i8 0)])<|xH b2 U
 refine ZL (λ(B:List AD) (x2:Int) i3=>⟨[(0,qa Z),(1,qa c),(5,qa B),(11,rL Z),(12,rI x2)],[],(i3 0),54⟩) (AG [n0]) a0 ((by exact ZC ⟨jL,jL,.inl<|.inr<|.inr ⟨R,R⟩,jL,jL,Za⟩ Za nL)) ?_
 intro B x2 i3 v3 b8 b9
 have ad:Pc Z B x2=some v3:=b8;unfold Pc at ad
 refine aU<|xS R<|aZ<|aT λba=>cI R ad (λX=>?_) λX=>?_
 ·refine Zd<|ba _<|aT λbb=>Zf<|aU<|mM R<|mA R<|aZ<|aR<|mM R<|mM R<|mM R<|Zc X λae af bc=>xI AZ R af<|xB ((A4 ae)) By R<|Zc bc λY J bd=>sS R (ZJ (r:=qa Y) (caps:=[]) (bs:=[qa B,.agg<|A4 ae]) R iL R ⟨.inl ⟨iL,R⟩,.inl ⟨iL,R⟩,Za⟩ λ_=>PX<|J)<|mA R<|aZ<|bb _<|aF [0,1,5,11,12] ?_
  exact aR<|Zc bd λbh ag be=>xA R ag<|mM R<|Zh<|ZH be (AG [(i3 0)]) wk
 exact Zn<|ah _ _ wk<|J1 _ (AG [(i3 0)])<|xH b9 X
theorem p9{f1 a b c g r}(h:P4 f1 a b c g=some r):AM prog 21 [qb f1,rI a,rI b,qb c,rS g] (qb r):=by
 unfold P4 at h
 refine mF func21 ntmps21 R λn0=>aU<|mA R<|aZ<|aU<|mM R<|Zc h λj C h1=>sS R (ZJ (r:=.r<|.sl<|j.map<|Ad .i64) (caps:=[]) (bs:=[qb f1,rI 0]) R iL R ⟨.inl ⟨iL,R⟩,.inl ⟨iL,R⟩,Za⟩ λ_=>X4<|C)<|mA R<|aZ<|aU<|mA R<|aZ<|aS λK4 c4 ai=>aU<|mM R<|sQ R (Zy R iL iL)<|aZ<|Ar h1 λp1 aj b0=>?_
 have J1:∀(q:Int) (i1:NN),p1=q→K4 ⟨[(0,qb f1),(1,rI a),(2,rI b),(3,qb c),(4,rS g),(11,.r<|.sl<|j.map<|Ad .i64),(12,rI q)],[],(i1 0),113⟩:=by
  intro q i1 e
  have h2:=b0 _ e
  refine c4 _<|aU<|mA R<|aZ<|aU<|mA R<|aZ<|aS λK8 c8 ak=>aU<|mA R<|aZ<|Zf<|Ar h2 λo1 al b1=>?_
  have J2:∀(E:List AC) (i9:NN),o1=E→K8 ⟨[(13,.own 5013<|i9 0)],[(5013,some<|.arr (i9 0) 51 3<|E.map AC.row)],(i9 1),113⟩:=by
   intro E i9 e
   have h3:=b1 _ e
   exact c8 _<|aU<|mM R<|mA R<|aZ<|Zj<|CX (P:=prog) (λ(r:(List AC))=>qb r) h3 iL<|.t<|.one<|.own R
  refine H0 (λ(V:Int) (M:Int) (F:List AC) O=>⟨[(0,qb f1),(1,rI a),(2,rI b),(3,qb c),(4,rS g),(11,.r<|.sl<|j.map<|Ad .i64),(12,rI q),(13,.own 5013<|O 0),(14,rI V),(15,rI M)],[(5013,some<|.arr (O 0) 51 3<|F.map AC.row)],(O 1),113⟩) (AG [(i1 0),((i1 0)+1)]) al (Zm (Zm (ZR 13 5013 51 3 (by decide) R)<|by exact ZC (e':=[(0,qb f1),(1,rI a),(2,rI b),(3,qb c),(4,rS g),(11,.r<|.sl<|j.map<|Ad .i64),(12,rI q),(13,.own 5013<|i1 0),(14,rI 0),(15,rI 0)]) (h':=[(5013,some<|.arr (i1 0) 51 3<|([]:List AC).map AC.row)]) ⟨jL,jL,jL,jL,jL,jL,jL,jL,jL,jL,Za⟩ ⟨.inl R,Za⟩ nL) wk) ?_
  intro V M F O v1 b2 an
  have h4:JD f1 a b c g j q V M F=some v1:=b2;unfold JD at h4
  refine aT λb3=>aU<|mM R<|mM R<|xL Ab R<|sQ R (Ez R iL iL)<|aZ<|cI R h4 (λh5=>?_) λh5=>?_
  ·refine Zd<|b3 _<|aS λb4 b5 X=>Zf<|Jd h5 λp2 b6 b7 b8=>?_
   have J3:∀(k4:Int) (I:List AC) (B:NN),p2=.nrm (k4,I)→b4 ⟨[(0,qb f1),(1,rI a),(2,rI b),(3,qb c),(4,rS g),(11,.r<|.sl<|j.map<|Ad .i64),(12,rI q),(13,.own 5013<|B 0),(14,rI k4),(15,rI M)],[(5013,some<|.arr (B 0) 51 3<|I.map AC.row)],(B 1),113⟩:=by
    intro k4 I B e
    have h6:=b7 _ _ e
    exact b5 _<|aR<|mM R<|Zc h6 λct ao h7=>xA R ao<|mA R<|Zh<|DO.mk h7 (AG [(B 0),(B 1)]) wk
   refine aS λb9 ba Y=>aU<|mM R<|mM R<|xQ R<|aZ<|Ar b6 λp3 aq bb=>?_
   have J4:∀(w:List AC) (l:NN),p3=w→b9 ⟨[(0,qb f1),(1,rI a),(2,rI b),(3,qb c),(4,rS g),(11,.r<|.sl<|j.map<|Ad .i64),(12,rI q),(13,.own 5013<|l 0),(14,rI V),(15,rI M)],[(5013,some<|.arr (l 0) 51 3<|w.map AC.row)],(l 1),113⟩:=by
    intro w l e
    have h8:=bb _ e
    refine ba _<|aT λbc=>aU<|mM R<|mM R<|xL Ab R<|xQ R<|aZ<|cI R h8 (λh9=>?_) λh9=>?_
    ·exact Zn<|ak _ _ wk<|J2 _ (AG [(l 0),(l 1)])<|an _ (Zb<|b8 _ (Zb h9).symm).symm
    refine Zd<|bc _<|aU<|mM R<|mM R<|Zc h9 λx1 bd be=>xI Ab R bd<|xB ((Aa x1)) CK R<|sS R (Zq (cs:=EC) 18 R ED R R)<|Zk R R (Zi (ds:=(Aa x1)) R Cp iL R iL R R R R)<|aZ<|aS λbf bg Z=>aU<|mM R<|mM R<|xL Bl R<|xS R<|mM R<|vM R<|vM R<|Zc be λx2 bh bi=>vQ R (Zr R Bl.slice (iR R) (iR R) (λ_=>R)<|AN bh)<|vQ R (ZB (d:=.int .i64 x2) R AI (iR R) R)<|vM R<|vQ R (Zs R (iR R)<|iR R)<|xN R<|aZ<|Jd bi λp4 ar bj bk=>?_
    have J5:∀(k5:Int) (x3:AC) (T:NN),p4=.nrm (k5,x3)→bf ⟨[(0,qb f1),(1,rI a),(2,rI b),(3,qb c),(4,rS g),(11,.r<|.sl<|j.map<|Ad .i64),(12,rI q),(13,.own 5013<|l 0),(14,rI k5),(15,rI M),(18,.ptr 18 (l 1) 0 0)],[(18,some<|.box (l 1) 51<|Aa x3),(5013,some<|.arr (l 0) 51 3<|w.map AC.row)],(T 0),113⟩:=by
     intro k5 x3 T e
     have bl:=bj _ _ e
     exact bg _<|aR<|mM R<|xC CK R<|sS R (ZK 110 R Ab (f:=AC.row) (l:=([x3]:List AC)) ⟨R,⟨_,iL,R⟩,Za⟩ R (λ_=>R) R)<|Zc bl λcr a1 bm=>sS R (B6 R Ab iL R (.inr<|.inl ⟨_,_,iL,R⟩) a1)<|mA R<|Zh<|X _ _ wk<|J3 _ _ (AG [((T 0)+1),((T 0)+2)]) (Zb bm).symm
    refine aC R (λa2=>?_) λa2=>?_
    ·have a6:=Ba a2 ar
     refine aS λbn bo a0=>aT λbp=>aG [0,1,2,3,4,11,12,13,14,15,18] [18,5013] ?_
     refine aR<|mM R<|mM R<|sQ R (Ca R iL iL)<|mM R<|vM R<|vM R<|vQ R (Bp R (iR R)<|iR R)<|xN R<|aZ<|bp _<|A5 a6 λp5 av bq br=>?_
     have J6:∀(x4:AC) (a7:NN),p5=.nrm x4→bn ⟨[(0,qb f1),(1,rI a),(2,rI b),(3,qb c),(4,rS g),(11,.r<|.sl<|j.map<|Ad .i64),(12,rI q),(13,.own 5013<|l 0),(14,rI V),(15,rI M),(18,.ptr 18 (l 1) 0 0)],[(18,some<|.box (l 1) 51<|Aa x4),(5013,some<|.arr (l 0) 51 3<|w.map AC.row)],(a7 0),113⟩:=by
      intro x4 a7 e
      have bs:=bq _ e
      exact bo _<|aR<|mM R<|Zc bs λk6 bt bu=>xA R bt<|mA R<|Zh<|Z _ _ wk<|J5 _ _ (AG [(a7 0)]) (Zb bu).symm
     refine aC R (λa8=>?_) λa8=>?_
     ·have aa:=Ba a8 av
      refine aT λbv=>aU<|mM R<|sQ R (ZI R iL iL)<|mM R<|vF B9 A1 R R<|Zc aa λr1 bw bx=>vL (λhg=>Xk<|AN bw hg) R<|vM R<|vQ R (ZI R (iR R)<|iR R)<|xO R<|aZ<|cI R bx (λab=>?_) λab=>?_
      ·refine aT λbz=>aG [0,1,2,3,4,11,12,13,14,15] [5013] ?_
       exact aR<|mM R<|Zc ab λk7 c0 c1=>xA R c0<|mA R<|aZ<|bz _<|Zn<|X _ _ wk<|J3 _ _ (AG [(l 0),((l 1)+1)]) (Zb<|bk _ (Zb<|br _ (Zb c1).symm).symm).symm
      refine Zd<|bv _<|aG [0,1,2,3,4,11,12,13,14,15,18] [18,5013] ?_
      refine aR<|lF B9 A1 R R<|mM R ?_
      refine sQ R (ZD R Fy (q:=[(0,_),(1,_)]) (by exact⟨R,R,R,iL,R,R,R,iL,Za⟩) (cs:=[.r<|.str [99,117,116],rS g])<|by rfl) ?_
      refine sS R (ZK 103 R AZ (f:=AD.row) (l:=([(AD.mk [99,117,116] g)]:List AD)) ⟨R,⟨_,iL,R⟩,Za⟩ R (λ_=>R) R) ?_
      refine AL.weak (by exact Ag.frz (e':=[(0,qb f1),(1,rI a),(2,rI b),(3,qb c),(4,rS g),(11,.r<|.sl<|j.map<|Ad .i64),(12,rI q),(13,.own 5013<|l 0),(14,rI V),(15,rI M),(18,.ptr 18 (l 1) 0 0),(99,.ptr 18 (l 1) 0 2),(100,qa x1.Attrs),(101,rS g),(102,.agg [.r<|.str [99,117,116],rS g]),(103,.r<|.sl<|[(AD.mk [99,117,116] g)].map AD.row)]) (h':=[(18,some<|.box (l 1) 51<|Aa x1),(5013,some<|.arr (l 0) 51 3<|w.map AC.row)]) 103 R ⟨jL,jL,jL,jL,jL,jL,jL,jL,jL,jL,jL,jL,jL,jL,jL,.inl<|.inr<|.inr ⟨R,R⟩,Za⟩ ⟨R,.inl R,R,.inl R,Za⟩) ?_
      exact Zc ab λr2 c2 c3=>sS R (ZJ (r:=qa r2) (caps:=[]) (bs:=[qa x1.Attrs,.r<|.sl<|[(AD.mk [99,117,116] g)].map AD.row]) R iL R ⟨.inl ⟨iL,R⟩,.inl ⟨iL,R⟩,Za⟩ λ_=>U2<|c2)<|sQ R (fB R B9 iL fR R)<|Zk R R (Zi (ds:=[rI x1.Char,rI x1.Ref,qa r2]) R Fj iL R iL R R R R)<|Zh<|a0 _ _ wk<|J6 _ (AG [((l 1)+2)]) (Zb c3).symm
     ·have aa:=Be a8 av
      exact Zd<|a0 _ _ wk<|J6 _ (AG [((l 1)+1)]) (Zb aa).symm
    ·have a6:=Be a2 ar
     exact Zd<|Z _ _ wk<|J5 _ _ (AG [((l 1)+1)]) (Zb a6).symm
   refine aC R (λac=>?_) λac=>?_
   ·have ad:=Ba ac aq
    refine aU<|mM R<|xL Ab R<|mM R<|aZ<|Zf<|A5 ad λo2 aw cu c5=>ZL (λ(x6:Int) (A:List AC) u=>⟨[(0,qb f1),(1,rI a),(2,rI b),(3,qb c),(4,rS g),(11,.r<|.sl<|j.map<|Ad .i64),(12,rI q),(13,.own 5013<|u 0),(14,rI V),(15,rI M),(39,rL c),(40,rI x6)],[(5013,some<|.arr (u 0) 51 3<|A.map AC.row)],(u 1),113⟩) (AG [(O 0),(O 1)]) aw wk ?_
    intro x6 A u v2 c6 c7
    have ax:Id c g x6 A=some v2:=c6;unfold Id at ax
    refine aU<|xS R<|aZ<|aT λc9=>cI R ax (λae=>?_) λae=>?_
    ·refine Zd<|c9 _<|aT λca=>Zf<|aU<|mM R<|mA R<|aZ<|aU<|mM R<|mM R<|Zc ae λJ cb cc=>xI Ab R cb<|xB ((Aa J)) CK R<|sS R (Zq (cs:=EC) 17 R ED R R)<|Zk R R (Zi (ds:=(Aa J)) R Cp iL R iL R R R R)<|aZ<|aT λcd=>aR<|lF B9 A1 R R<|mM R ?_
     refine sQ R (ZD R Fy (q:=[(0,_),(1,_)]) (by exact⟨R,R,R,iL,R,R,R,iL,Za⟩) (cs:=[.r<|.str [97,100,100],rS g])<|by rfl) ?_
     refine sQ R (ZD R Fy (q:=[(0,_)]) (by exact⟨R,R,R,iL,Za⟩) (cs:=Tl)<|by rfl) ?_
     refine sS R (ZK 52 R AZ (f:=AD.row) (l:=([(AD.mk [97,100,100] g),(AD.mk [99,117,116] [])]:List AD)) ⟨R,⟨_,iL,R⟩,R,⟨_,iL,R⟩,Za⟩ R (λ_=>R) R) ?_
     refine AL.weak (by exact Ag.frz (e':=[(0,qb f1),(1,rI a),(2,rI b),(3,qb c),(4,rS g),(11,.r<|.sl<|j.map<|Ad .i64),(12,rI q),(13,.own 5013<|u 0),(14,rI V),(15,rI M),(16,rI x6),(17,.ptr 17 (u 1) 0 0),(39,rL c),(40,rI x6),(41,rB<|(decide<|x6<(c.length:Int))),(42,rI x6),(43,qb c),(44,rI x6),(45,.rop (AC.row J) 0),(46,.agg<|Aa J),(47,.ptr 17 (u 1) 0 2),(48,qa J.Attrs),(49,rS g),(50,.agg [.r<|.str [97,100,100],rS g]),(51,.agg Tl),(52,.r<|.sl<|[(AD.mk [97,100,100] g),(AD.mk [99,117,116] [])].map AD.row)]) (h':=[(17,some<|.box (u 1) 51<|Aa J),(5013,some<|.arr (u 0) 51 3<|A.map AC.row)]) 52 R ⟨jL,jL,jL,jL,jL,jL,jL,jL,jL,jL,jL,jL,jL,jL,jL,jL,jL,jL,jL,jL,jL,jL,jL,jL,jL,.inl<|.inr<|.inr ⟨R,R⟩,Za⟩ ⟨R,.inl R,R,.inl R,Za⟩) ?_
     refine Zc cc λr3 cf cg=>sS R (ZJ (r:=qa r3) (caps:=[]) (bs:=[qa J.Attrs,.r<|.sl<|[(AD.mk [97,100,100] g),(AD.mk [99,117,116] [])].map AD.row]) R iL R ⟨.inl ⟨iL,R⟩,.inl ⟨iL,R⟩,Za⟩ λ_=>U2<|cf)<|sQ R (fB R B9 iL fR R)<|Zk R R (Zi (ds:=[rI J.Char,rI J.Ref,qa r3]) R Fj iL R iL R R R R)<|aZ<|cd _<|aG [0,1,2,3,4,11,12,13,14,15,17,39,40] [17,5013] ?_
     exact aR<|mM R<|xC CK R<|sS R (ZK 57 R Ab (f:=AC.row) (l:=([(AC.mk J.Char J.Ref r3)]:List AC)) ⟨R,⟨_,iL,R⟩,Za⟩ R (λ_=>R) R)<|Zc cg λch U cj=>sS R (B6 R Ab iL R (.inr<|.inl ⟨_,_,iL,R⟩) U)<|mA R<|aZ<|ca _<|aR<|Zc cj λx9 ck cl=>xA R ck<|mM R<|Zh<|ZH cl (AG [((u 1)+3),((u 1)+4)]) wk
    exact Zn<|Y _ _ wk<|J4 _ (AG [(u 0),(u 1)]) (Zb<|c5 _<|xH c7 ae).symm
   ·have ad:=Be ac aq
    exact Zd<|Y _ _ wk<|J4 _ (AG [(O 0),(O 1)]) (Zb ad).symm
  exact Zn<|ak _ _ wk<|J2 _ (AG [(O 0),(O 1)])<|xH an h5
 refine aC R (λaf=>?_) λaf=>?_
 ·have ag:=Ba af aj
  exact aR<|mM R<|mM R<|Zc ag λcv ay cm=>sQ R (Bu R iL iL λ_=>ay)<|Zc cm λcn az cp=>xI Bl R az<|xV (.int .i64 cn) AI R<|Zc cp λcs ah cq=>xA R ah<|mA R<|Zh<|ai _ _ wk<|J1 _ (AG [n0]) (Zb cq).symm
 ·have ag:=Be af aj
  exact Zd<|ai _ _ wk<|J1 _ (AG [n0]) (Zb ag).symm
theorem lH{f1 r}(h:OE f1=some r):AM prog 23 [qb f1] (rI r):=by
 unfold OE at h
 refine mF func23 ntmps23 R λX=>aU<|mA R<|aZ<|aS λY Z u=>aU<|mM R<|xL Ab R<|mM R<|aZ<|Zf<|A5 h λo1 j w A=>?_
 have J1:∀(T:Unit) (U:NN),o1=.nrm T→Y ⟨[],[],(U 0),19⟩:=by
  intro T U e
  have h1:=w _ e
  exact Z _<|zI h1 R id
 refine Zz (λ(B:Int) q=>⟨[(0,qb f1),(6,rL f1),(7,rI B)],[],(q 0),19⟩) (AG [X]) j wk ?_
 intro B q v1 C l
 have V:Py f1 B=some v1:=C;unfold Py at V
 refine aU<|xS R<|aZ<|aT λc6=>cI R V (λE=>?_) λE=>?_
 ·refine Zd<|c6 _<|aT λc7=>Zf<|aU<|mM R<|mA R<|aZ<|aU<|mM R<|mM R<|Zc E λx4 F h4=>xI Ab R F<|xB ((Aa x4)) CK R<|Zc h4 λe1 I h5=>cL (ed<|I) R<|mA R<|aZ<|aU<|mM R<|xU R<|aZ<|cI R h5 (λJ=>?_) λJ=>?_
  ·refine aT λM=>aF [4] ?_
   exact aR<|mM R<|mA R<|aZ<|M _<|Zj<|yI (A _<|xH l J) R
  refine Zd<|c7 _<|aF [0,6,7] ?_
  exact aR<|Zc J λx5 O h7=>xA R O<|mM R<|Zh<|Zx h7 (AG [(q 0)]) wk
 exact Zn<|u _ _ wk<|J1 _ (AG [(q 0)])<|xH l E
theorem kJ{j r}(h:Q2 j=some r):AM prog 158 (Ox j) (rI r):=by
 unfold Q2 at h
 refine mF func158 ntmps158 R λn0=>aU<|sS R (Zv (cs:=(BZ j)) 1 R iL R R)<|mA R<|aZ<|aT λY=>aU<|lF Bt AI R R<|Zc h λr1 l Z=>cL (C3<|l) R<|sQ R (Zu R iL)<|aZ<|cI R Z (λq=>?_) λq=>?_
 ·exact zI q R id
 refine Zd<|Y _<|aT λc5=>aU<|lF Bt AI R R<|xQ R<|aZ<|cI R q (λu=>?_) λu=>?_
 ·refine aT λc7=>aT λc8=>aG [1] [1] ?_
  refine aR<|lF D3 AI R R<|xU R<|mM R<|vF DZ A1 R R<|vQ R (Bd R AZ.slice<|iR R)<|vQ R (Zy R (iR R) iL)<|xO R<|aZ<|c8 _<|cI R u (λw=>?_) λw=>?_
  ·exact zI w R id
  refine Zd<|c7 _<|aT λA=>aT λB=>aG [1] [1] ?_
  refine aR<|lF Dz Br R R<|xL Ab R<|xQ R<|aZ<|B _<|cI R w (λC=>?_) λC=>?_
  ·exact zI C R id
  exact Zd<|A _<|aU<|lF Dz Br R R<|Zc C λr2 E h6=>cL (lH<|E) R<|mA R<|aZ<|Zj<|yI h6 R
 refine Zd<|c5 _<|aT λF=>aT λI=>aG [1] [1] ?_
 refine aR<|lF Dz Br R R<|xL Ab R<|sQ R (Zy R iL iL)<|mM R<|vF Bt AI R R<|vQ R (Zs R (iR R) iL)<|vQ R (Ze R<|iR R)<|wQ R (fB R DZ iL fR R)<|wQ R (Zg (a:=qa j.Attrs) R A1 (iR R) R R)<|wQ R (Bd R AZ.slice<|iR R)<|wQ R (Zy R (iR R) iL)<|vQ R (ZG R (iR R)<|iR R)<|xO R<|aZ<|I _<|cI R u (λJ=>?_) λJ=>?_
 ·exact zI J R id
 refine Zd<|F _<|aT λM=>aT λO=>aG [1] [1] ?_
 refine aR<|lF D3 AI R R<|Zc J λr3 T h8=>cL (C3<|T) R<|sQ R (Zu R iL)<|aZ<|O _<|cI R h8 (λU=>?_) λU=>?_
 ·exact zI U R id
 exact Zd<|M _<|aU<|lF DZ A1 R R<|Zc U λr4 V X=>cL (KE<|V) R<|mA R<|aZ<|Zj<|yI X R
theorem qq{d1 r}(h:Mc d1=some r):AM prog 111 [qd d1] (rI r):=by
 unfold Mc at h
 refine mF func111 ntmps111 R λn0=>aU<|mA R<|aZ<|aU<|mA R<|mA R<|aZ<|aS λK3 c3 ae=>aU<|mM R<|xL Bh R<|mM R<|aZ<|Zf<|Jd h λo1 ab af I=>?_
 have J1:∀(u:Int) (w:Int) (i5:NN),o1=.nrm (u,w)→K3 ⟨[(3,rI u),(4,rI w)],[],(i5 0),85⟩:=by
  intro u w i5 e
  have h1:=af _ _ e
  refine c3 _<|aT λc5=>aU<|mM R<|sQ R (Zy R iL iL)<|mM R<|vM R<|vQ R (Zy R (iR R) iL)<|xO R<|aZ<|cI R h1 (λh2=>?_) λh2=>?_
  ·exact zI h2 R id
  exact Zd<|c5 _<|zI h2 R id
 refine H0 (λ(l:Int) (j:Int) (x2:Int) A=>⟨[(0,qd d1),(3,rI l),(4,rI j),(10,rL d1),(11,rI x2)],[],(A 0),85⟩) (AG [n0]) ab wk ?_
 intro l j x2 A v1 ag B
 have h3:Ij d1 l j x2=some v1:=ag;unfold Ij at h3
 refine aU<|xS R<|aZ<|aT λah=>cI R h3 (λh4=>?_) λh4=>?_
 ·refine Zd<|ah _<|aS λai aj M=>Zf<|Jd h4 λp1 ak al J=>?_
  have J2:∀(C:Int) (E:Int) (i6:NN),p1=.nrm (C,E)→ai ⟨[(0,qd d1),(3,rI C),(4,rI E),(10,rL d1),(11,rI x2)],[],(i6 0),85⟩:=by
   intro C E i6 e
   have h5:=al _ _ e
   exact aj _<|aR<|Zc h5 λx4 an h6=>xA R an<|mM R<|Zh<|DO.mk h6 (AG [(i6 0)]) wk
  refine aU<|mM R<|mA R<|aZ<|aU<|mM R<|mM R<|Zc ak λx5 ao h7=>xI Bh R ao<|xB ((BZ x5)) EI R<|sS R (Zq (cs:=Do) 6 R E0 R R)<|Zk R R (Zi (ds:=(BZ x5)) R E3 iL R iL R R R R)<|aZ<|aT λaq=>aU<|xC EI R<|Zc h7 λe1 ar h8=>cL (kJ<|ar) R<|mA R<|aZ<|aU<|mM R<|xU R<|aZ<|cI R h8 (λh9=>?_) λh9=>?_
  ·refine aT λav=>aF [7] ?_
   exact aR<|mM R<|mA R<|aZ<|av _<|Zj<|yI (I _<|B _ (Zb<|J _ (Zb h9).symm).symm) R
  refine Zd<|aq _<|aS λaw ax q=>aT λay=>aG [0,3,4,5,6,10,11] [6] ?_
  refine aR<|mM R<|sQ R (Zy R iL iL)<|aZ<|ay _<|A5 h9 λp2 ac az T=>?_
  have J3:∀(u2:Unit) (i7:NN),p2=.nrm u2→aw ⟨[(0,qd d1),(3,rI l),(4,rI j),(6,.ptr 6 (A 0) 0 0),(10,rL d1),(11,rI x2)],[(6,some<|.box (A 0) 100<|BZ x5)],(i7 0),85⟩:=by
   intro u2 i7 e
   have b0:=az _ e
   refine ax _<|aS λb1 b2 O=>aU<|lF Bt AI R R<|xU R<|mM R<|vM R<|vQ R (Bp R (iR R) iL)<|xN R<|aZ<|Ar b0 λp3 ad b3=>?_
   have J4:∀(F:Int) (i8:NN),p3=F→b1 ⟨[(0,qd d1),(3,rI F),(4,rI j),(6,.ptr 6 (A 0) 0 0),(10,rL d1),(11,rI x2)],[(6,some<|.box (A 0) 100<|BZ x5)],(i8 0),85⟩:=by
    intro F i8 e
    have b4:=b3 _ e
    refine b2 _<|aU<|lF Bt AI R R<|xU R<|mM R<|vM R<|vQ R (Bp R (iR R) iL)<|xN R<|aZ<|cI R b4 (λU=>?_) λU=>?_
    ·exact aR<|mM R<|lF D3 AI R R<|lF Dz Br R R<|xL Ab R<|Zc U λx6 b5 b6=>xA R b5<|Zc b6 λbj V b7=>xA R V<|mA R<|Zh<|M _ _ wk<|J2 _ _ (AG [(i8 0)]) (Zb b7).symm
    exact Zd<|M _ _ wk<|J2 _ _ (AG [(i8 0)]) (Zb U).symm
   refine aC R (λX=>?_) λX=>?_
   ·have Y:=Ba X ad
    exact aR<|mM R<|lF D3 AI R R<|Zc Y λbk Z b8=>xA R Z<|mA R<|Zh<|O _ _ wk<|J4 _ (AG [(i7 0)]) (Zb b8).symm
   ·have Y:=Be X ad
    exact Zd<|O _ _ wk<|J4 _ (AG [(i7 0)]) (Zb Y).symm
  refine aC R (λa0=>?_) λa0=>?_
  ·have a1:=Ba a0 ac
   refine aU<|mM R<|mM R<|Zc a1 λx7 b9 ba=>sQ R (Bu R iL iL λ_=>b9)<|Zc ba λx8 bb bc=>xI Bh R bb<|xB ((BZ x8)) EI R<|sS R (Zq (cs:=Do) 8 R E0 R R)<|Zk R R (Zi (ds:=(BZ x8)) R E3 iL R iL R R R R)<|aZ<|aU<|lF Bt AI R R<|aZ<|Zf<|aT λbd=>aG [0,3,4,6,8,10,11,31] [6,8] ?_
   refine aR<|xQ R<|mA R<|aZ<|bd _<|cI R bc (λa2=>?_) λa2=>?_
   ·refine aU<|lF Bt AI R R<|xU R<|aZ<|cI R a2 (λa6=>?_) λa6=>?_
    ·refine aT λbe=>aF [] ?_
     exact aR<|mA R<|aZ<|be _<|Zj<|yI (I _<|B _ (Zb<|J _ (Zb<|T _ (Zb a6).symm).symm).symm) R
    exact Zd<|q _ _ wk<|J3 _ (AG [((A 0)+2)]) (Zb a6).symm
   refine aU<|xQ R<|mA R<|aZ<|cI R a2 (λa7=>?_) λa7=>?_
   ·refine aU<|lF Bt AI R R<|xQ R<|aZ<|cI R a7 (λa8=>?_) λa8=>?_
    ·refine aT λbf=>aF [] ?_
     exact aR<|mA R<|aZ<|bf _<|Zj<|yI (I _<|B _ (Zb<|J _ (Zb<|T _ (Zb a8).symm).symm).symm) R
    exact Zd<|q _ _ wk<|J3 _ (AG [((A 0)+2)]) (Zb a8).symm
   refine aU<|lF Bt AI R R<|xQ R<|mM R<|vF DZ A1 R R<|vF DZ A1 R R<|Zc a7 λr1 bg bh=>vL (λhg=>L1<|AN bg hg) R<|xN R<|aZ<|cI R bh (λaa=>?_) λaa=>?_
   ·refine aT λbi=>aF [] ?_
    exact aR<|mA R<|aZ<|bi _<|Zj<|yI (I _<|B _ (Zb<|J _ (Zb<|T _ (Zb aa).symm).symm).symm) R
   exact Zd<|q _ _ wk<|J3 _ (AG [((A 0)+2)]) (Zb aa).symm
  ·have a1:=Be a0 ac
   exact Zd<|q _ _ wk<|J3 _ (AG [((A 0)+1)]) (Zb a1).symm
 exact Zn<|ae _ _ wk<|J1 _ _ (AG [(A 0)])<|xH B h4
theorem bR{E r}(h:Rz E=some r):AM prog 159 [qh E] (rI r):=by
 unfold Rz at h
 refine mF func159 ntmps159 R λn0=>aU<|mA R<|aZ<|aU<|mA R<|mA R<|aZ<|aS λK3 c3 a8=>aU<|mM R<|xL EE R<|mM R<|aZ<|Zf<|Jd h λo1 a6 aa O=>?_
 have J1:∀(q:Int) (u:Int) (i5:NN),o1=.nrm (q,u)→K3 ⟨[(3,rI q),(4,rI u)],[],(i5 0),99⟩:=by
  intro q u i5 e
  have h1:=aa _ _ e
  refine c3 _<|aT λc5=>aU<|mM R<|sQ R (Zy R iL iL)<|mM R<|vM R<|vQ R (Zy R (iR R) iL)<|xO R<|aZ<|cI R h1 (λh2=>?_) λh2=>?_
  ·exact zI h2 R id
  exact Zd<|c5 _<|zI h2 R id
 refine H0 (λ(w:Int) (l:Int) (x2:Int) i3=>⟨[(0,qh E),(3,rI w),(4,rI l),(7,rL E),(8,rI x2)],[],(i3 0),99⟩) (AG [n0]) a6 wk ?_
 intro w l x2 i3 v1 ab F
 have h3:W4 E w l x2=some v1:=ab;unfold W4 at h3
 refine aU<|xS R<|aZ<|aT λac=>cI R h3 (λh4=>?_) λh4=>?_
 ·refine Zd<|ac _<|aS λad ae I=>Zf<|Jd h4 λp1 af ag T=>?_
  have J2:∀(A:Int) (B:Int) (i6:NN),p1=.nrm (A,B)→ad ⟨[(0,qh E),(3,rI A),(4,rI B),(7,rL E),(8,rI x2)],[],(i6 0),99⟩:=by
   intro A B i6 e
   have h5:=ag _ _ e
   exact ae _<|aR<|Zc h5 λx4 ah h6=>xA R ah<|mM R<|Zh<|DO.mk h6 (AG [(i6 0)]) wk
  refine aU<|mM R<|mA R<|aZ<|aT λai=>aU<|mM R<|mM R<|Zc af λJ j h7=>xI EE R j<|sQ R (Zl R Ki iL)<|xV (.int .i64 J.Kind) AI R<|Zc h7 λr1 aj h8=>cL (C3<|aj) R<|sQ R (Zu R iL)<|aZ<|cI R h8 (λh9=>?_) λh9=>?_
  ·refine aT λak=>aF [] ?_
   exact aR<|mA R<|aZ<|ak _<|Zj<|yI (O _<|F _ (Zb<|T _ (Zb h9).symm).symm) R
  refine Zd<|ai _<|aT λal=>aT λan=>aF [0,3,4,5,7,8] ?_
  refine aR<|mM R<|mM R<|xI EE R j<|sQ R (Zl R Wz iL)<|xV (.int .i64 J.N) AI R<|Zc h9 λr2 ao aq=>cL (C3<|ao) R<|sQ R (Zu R iL)<|aZ<|an _<|cI R aq (λU=>?_) λU=>?_
  ·refine aT λar=>aF [] ?_
   exact aR<|mA R<|aZ<|ar _<|Zj<|yI (O _<|F _ (Zb<|T _ (Zb U).symm).symm) R
  refine Zd<|al _<|aT λav=>aT λaw=>?_
  refine ZA A8 (by kernel_rfl) ?_
  refine qP R (Ze R iL)<|qP R (Zy R iL iL)<|qP R (Ze R iL)<|qO R (Ze R iL)<|qO R (Ze R iL)<|qO R (Zr R EE.slice (iR R) (iR R) (λ_=>R) λ_=>j)<|qO R (Zl R Ki<|iR R)<|qO R (ZB (d:=.int .i64 J.Kind) R AI (iR R) R)<|qO R (Ze R iL)<|qO R (Ze R iL)<|Zc U λx6 ax ay=>qO R (Bu R (iR R) iL<|AN ax)<|Zc ay λx7 az b0=>qO R (Zr R EE.slice (iR R) (iR R) (λ_=>R)<|AN az)<|qO R (Zl R Ki<|iR R)<|qO R (ZB (d:=.int .i64 x7.Kind) R AI (iR R) R)<|qO R (Zs R (iR R)<|iR R)<|qO R (Ze R<|iR R)<|qT R (Ze R iL)<|qT R (Ze R iL)<|qT R (Zr R EE.slice (iR R) (iR R) (λ_=>R) λ_=>j)<|qT R (Zl R Ki<|iR R)<|qT R (ZB (d:=.int .i64 J.Kind) R AI (iR R) R)<|qT R (Zs R (iR R) iL)<|qT R (Ze R<|iR R)<|qT R (Ze R iL)<|qT R (Ze R iL)<|Zc b0 λx8 b1 b2=>qT R (Bu R (iR R) iL<|AN b1)<|Zc b2 λx9 b3 b4=>qT R (Zr R EE.slice (iR R) (iR R) (λ_=>R)<|AN b3)<|qT R (Zl R Ki<|iR R)<|qT R (ZB (d:=.int .i64 x9.Kind) R AI (iR R) R)<|qT R (Zs R (iR R) iL)<|qT R (ZG R (iR R)<|iR R)<|qO R (B1 R (iR R)<|iR R)<|qP R (ZG R iL<|iR R)<|AQ.nil<|aw _<|cI R b4 (λV=>?_) λV=>?_
  ·refine aT λb5=>aF [] ?_
   exact aR<|mA R<|aZ<|b5 _<|Zj<|yI (O _<|F _ (Zb<|T _ (Zb V).symm).symm) R
  refine Zd<|av _<|aS λb6 b7 M=>aT λb8=>aF [0,3,4,5,7,8] ?_
  refine aR<|mM R<|mM R<|xI EE R j<|sQ R (Zl R Ki iL)<|xV (.int .i64 J.Kind) AI R<|xU R<|mM R<|vM R<|vQ R (Bp R (iR R) iL)<|xN R<|aZ<|b8 _<|Ar V λp2 a7 b9=>?_
  have J3:∀(C:Int) (i7:NN),p2=C→b6 ⟨[(0,qh E),(3,rI C),(4,rI l),(5,rI x2),(7,rL E),(8,rI x2)],[],(i7 0),99⟩:=by
   intro C i7 e
   have ba:=b9 _ e
   refine b7 _<|aU<|mM R<|mM R<|xI EE R j<|sQ R (Zl R Ki iL)<|xV (.int .i64 J.Kind) AI R<|xU R<|mM R<|vM R<|vQ R (Bp R (iR R) iL)<|xN R<|aZ<|cI R ba (λX=>?_) λX=>?_
   ·exact aR<|mM R<|mM R<|mM R<|xI EE R j<|sQ R (Zl R Wz iL)<|xV (.int .i64 J.N) AI R<|Zc X λbd Y bb=>xA R Y<|mA R<|Zh<|I _ _ wk<|J2 _ _ (AG [(i7 0)]) (Zb bb).symm
   exact Zd<|I _ _ wk<|J2 _ _ (AG [(i7 0)]) (Zb X).symm
  refine aC R (λZ=>?_) λZ=>?_
  ·have a0:=Ba Z a7
   exact aR<|mM R<|mM R<|mM R<|xI EE R j<|sQ R (Zl R Wz iL)<|xV (.int .i64 J.N) AI R<|Zc a0 λbe a2 bc=>xA R a2<|mA R<|Zh<|M _ _ wk<|J3 _ (AG [(i3 0)]) (Zb bc).symm
  ·have a0:=Be Z a7
   exact Zd<|M _ _ wk<|J3 _ (AG [(i3 0)]) (Zb a0).symm
 exact Zn<|a8 _ _ wk<|J1 _ _ (AG [(i3 0)])<|xH F h4
theorem tR{e1 r}(h:YB e1=some r):AM prog 112 [.agg<|DT e1] (rI r):=by
 unfold YB at h
 refine mF func112 ntmps112 R λj=>aU<|sS R (Zv (cs:=(DT e1)) 1 R iL R R)<|mA R<|aZ<|aT λc2=>aU<|lF S2 JQ R R<|Zc h λf1 Y h1=>cL (bR<|Y) R<|mA R<|aZ<|aU<|mM R<|xU R<|aZ<|cI R h1 (λZ=>?_) λZ=>?_
 ·exact aU<|mM R<|mA R<|aZ<|Zj<|yI Z R
 refine Zd<|c2 _<|aT λc6=>aU<|lF TP JQ R R<|Zc Z λf2 a0 h3=>cL (bR<|a0) R<|mA R<|aZ<|aT λc8=>aG [1,4] [1] ?_
 refine aR<|mM R<|xU R<|aZ<|c8 _<|cI R h3 (λh4=>?_) λh4=>?_
 ·exact aU<|mM R<|mA R<|aZ<|Zj<|yI h4 R
 refine Zd<|c6 _<|aT λa1=>aU<|lF Sk Eb R R<|Zc h4 λf3 a2 h5=>cL (YO<|a2) R<|mA R<|aZ<|aU<|mM R<|xU R<|aZ<|cI R h5 (λh6=>?_) λh6=>?_
 ·refine aT λa6=>aF [5] ?_
  exact aR<|mM R<|mA R<|aZ<|a6 _<|Zj<|yI h6 R
 refine Zd<|a1 _<|aS λa7 a8 E=>aT λaa=>aG [1] [1] ?_
 refine aR<|lF OG Ct R R<|xL CU R<|mM R<|aZ<|aa _<|Zf<|A5 h6 λo1 F ab ac=>?_
 have J1:∀(u2:Unit) (i5:NN),o1=.nrm u2→a7 ⟨[(1,.ptr 1 j 0 0)],[(1,some<|.box j 74<|DT e1)],(i5 0),70⟩:=by
  intro u2 i5 e
  have h7:=ab _ e
  refine a8 _<|aS λad ae I=>aU<|lF KK Ct R R<|xL CU R<|mM R<|aZ<|Zf<|A5 h7 λo2 J af M=>?_
  have J2:∀(u4:Unit) (O:NN),o2=.nrm u4→ad ⟨[],[],(O 0),70⟩:=by
   intro u4 O e
   have h8:=af _ e
   exact ae _<|zI h8 R id
  refine Zz (λ(x5:Int) i8=>⟨[(1,.ptr 1 j 0 0),(42,rL e1.Merge),(43,rI x5)],[(1,some<|.box j 74<|DT e1)],(i8 0),70⟩) (AG [(i5 0)]) J wk ?_
  intro x5 i8 v1 ag l
  have h9:U5 e1 x5=some v1:=ag;unfold U5 at h9
  refine aU<|xS R<|aZ<|aT λah=>cI R h9 (λq=>?_) λq=>?_
  ·refine Zd<|ah _<|aT λai=>Zf<|aU<|mM R<|mA R<|aZ<|aT λaj=>aU<|lF KK Ct R R<|mM R<|Zc q λx7 u ak=>xI CU R u<|xB ((BJ x7)) Ee R<|Zc ak λr1 al an=>cL (Uh<|al) R<|sQ R (Zu R iL)<|aZ<|cI R an (λw=>?_) λw=>?_
   ·exact zI (M _<|xH l w) R id
   refine Zd<|aj _<|aT λao=>aG [1,7,42,43] [1] ?_
   refine aR<|lF KK Ct R R<|mM R<|xI CU R u<|sQ R (Zl R HV iL)<|xV (.int .i64 x7.H) AI R<|xQ R<|mM R<|vF KK Ct R R<|vM R<|vQ R (Zr R CU.slice (iR R) (iR R) (λ_=>R) λ_=>u)<|vQ R (Zl R HZ<|iR R)<|vQ R (ZB (d:=.int .i64 x7.W) R AI (iR R) R)<|vQ R (Zs R (iR R) iL)<|xN R<|aZ<|ao _<|cI R w (λA=>?_) λA=>?_
   ·exact zI (M _<|xH l A) R id
   refine Zd<|ai _<|aG [1,42,43] [1] ?_
   exact aR<|Zc A λx8 aq ar=>xA R aq<|mM R<|Zh<|Zx ar (AG [(i8 0)]) wk
  exact Zn<|I _ _ wk<|J2 _ (AG [(i8 0)])<|xH l q
 refine Zz (λ(x2:Int) X=>⟨[(1,.ptr 1 j 0 0),(28,rL e1.Split),(29,rI x2)],[(1,some<|.box j 74<|DT e1)],(X 0),70⟩) (AG [(j+1)]) F wk ?_
 intro x2 X v2 av T
 have U:Xl e1 x2=some v2:=av;unfold Xl at U
 refine aU<|xS R<|aZ<|aT λaw=>cI R U (λB=>?_) λB=>?_
 ·refine Zd<|aw _<|aT λax=>Zf<|aU<|mM R<|mA R<|aZ<|aU<|lF OG Ct R R<|mM R<|Zc B λx9 ay az=>xI CU R ay<|xB ((BJ x9)) Ee R<|Zc az λr2 b0 b1=>cL (Uh<|b0) R<|sQ R (Zu R iL)<|aZ<|cI R b1 (λC=>?_) λC=>?_
  ·exact zI (ac _<|xH T C) R id
  refine Zd<|ax _<|aG [1,28,29] [1] ?_
  exact aR<|Zc C λb3 V b2=>xA R V<|mM R<|Zh<|Zx b2 (AG [(X 0)]) wk
 exact Zn<|E _ _ wk<|J1 _ (AG [(X 0)])<|xH T B
theorem pl{j r}(h:N0 j=some r):AM prog 60 (sT j) (rI r):=by
 unfold N0 at h
 refine mF func60 ntmps60 R λl=>aU<|sS R (Zv (cs:=(Ds j)) 1 R iL R R)<|mA R<|aZ<|aT λc2=>aU<|lF KN AI R R<|Zc h λr1 X h1=>cL (C3<|X) R<|sQ R (Zu R iL)<|aZ<|cI R h1 (λY=>?_) λY=>?_
 ·exact zI Y R id
 refine Zd<|c2 _<|aU<|sQ R (fB R Sz iL fR R)<|sQ R (FR (ds:=(DT j.Grid)) R S1 iL R R R)<|sS R (Zq (cs:=[cZ,cZ,cZ,cZ,cZ]) 3 R nN R R)<|Zk R R (Zi (ds:=(DT j.Grid)) R mQ iL R iL R R R R)<|aZ<|aT λc6=>Zc Y λq Z h3=>Zc h3 λx1 a0 h4=>Zc h4 λx2 a1 h5=>Zc h5 λx3 a2 h6=>Zc h6 λu a6 h7=>?_
 refine Ip 39 [pO 12<|.ptr 1 l 0 2,pO 13<|.agg<|BR j.New,pO 14<|.agg LD,pO 15<|rB q,pO 16<|rB<|(!q),pO 17<|.ptr 1 l 0 11,pO 18<|qa j.Attrs,pO 19<|rL j.Attrs,pO 20<|rB<|(decide<|0<(j.Attrs.length:Int)),pO 21<|.ptr 1 l 0 12,pO 22<|qd j.Steps,pO 23<|rL j.Steps,pO 24<|rB<|(decide<|0<(j.Steps.length:Int)),pO 25<|.ptr 3 (l+1) 0 0,pO 26<|qh j.Grid.Rows,pO 27<|rL j.Grid.Rows,pO 28<|.ptr 3 (l+1) 0 1,pO 29<|qh j.Grid.Cols,pO 30<|rL j.Grid.Cols,pO 31<|rI x1,pO 32<|.ptr 3 (l+1) 0 2,pO 33<|qe j.Grid.Cells,pO 34<|rL j.Grid.Cells,pO 35<|rI x2,pO 36<|.ptr 3 (l+1) 0 3,pO 37<|qc j.Grid.Split,pO 38<|rL j.Grid.Split,pO 39<|rI x3,pO 40<|.ptr 3 (l+1) 0 4,pO 41<|qc j.Grid.Merge,pO 42<|rL j.Grid.Merge,pO 43<|rI u,pO 44<|rB<|(decide<|0<u),pO 45<|.ptr 1 l 0 18,pO 46<|qf j.Draw,pO 47<|rL j.Draw,pO 48<|rB<|(decide<|0<(j.Draw.length:Int)),pO 49<|.agg [rB<|(!q),rB<|(decide<|0<(j.Attrs.length:Int)),rB<|(decide<|0<(j.Steps.length:Int)),rB<|(decide<|0<u),rB<|(decide<|0<(j.Draw.length:Int))],⟨some 4,(λw=>.ptr 4 (w 38) 0 0),some (4,(λw=>some<|.box (w 38) 158 YQ)),[38]⟩] A8 (by kernel_rfl) (by exact⟨λ_ _ h=>⟨R,λ_ _ e=>by cases e⟩,λ_ _ h=>⟨R,λ_ _ e=>by cases e⟩,λ_ _ h=>⟨R,λ_ _ e=>by cases e⟩,λ_ _ h=>⟨R,λ_ _ e=>by cases e⟩,λ_ _ h=>⟨R,λ_ _ e=>by cases e⟩,λ_ _ h=>⟨R,λ_ _ e=>by cases e⟩,λ_ _ h=>⟨R,λ_ _ e=>by cases e⟩,λ_ _ h=>⟨R,λ_ _ e=>by cases e⟩,λ_ _ h=>⟨R,λ_ _ e=>by cases e⟩,λ_ _ h=>⟨R,λ_ _ e=>by cases e⟩,λ_ _ h=>⟨R,λ_ _ e=>by cases e⟩,λ_ _ h=>⟨R,λ_ _ e=>by cases e⟩,λ_ _ h=>⟨R,λ_ _ e=>by cases e⟩,λ_ _ h=>⟨R,λ_ _ e=>by cases e⟩,λ_ _ h=>⟨R,λ_ _ e=>by cases e⟩,λ_ _ h=>⟨R,λ_ _ e=>by cases e⟩,λ_ _ h=>⟨R,λ_ _ e=>by cases e⟩,λ_ _ h=>⟨R,λ_ _ e=>by cases e⟩,λ_ _ h=>⟨R,λ_ _ e=>by cases e⟩,λ_ _ h=>⟨R,λ_ _ e=>by cases e⟩,λ_ _ h=>⟨R,λ_ _ e=>by cases e⟩,λ_ _ h=>⟨R,λ_ _ e=>by cases e⟩,λ_ _ h=>⟨R,λ_ _ e=>by cases e⟩,λ_ _ h=>⟨R,λ_ _ e=>by cases e⟩,λ_ _ h=>⟨R,λ_ _ e=>by cases e⟩,λ_ _ h=>⟨R,λ_ _ e=>by cases e⟩,λ_ _ h=>⟨R,λ_ _ e=>by cases e⟩,λ_ _ h=>⟨R,λ_ _ e=>by cases e⟩,λ_ _ h=>⟨R,λ_ _ e=>by cases e⟩,λ_ _ h=>⟨R,λ_ _ e=>by cases e⟩,λ_ _ h=>⟨R,λ_ _ e=>by cases e⟩,λ_ _ h=>⟨R,λ_ _ e=>by cases e⟩,λ_ _ h=>⟨R,λ_ _ e=>by cases e⟩,λ_ _ h=>⟨R,λ_ _ e=>by cases e⟩,λ_ _ h=>⟨R,λ_ _ e=>by cases e⟩,λ_ _ h=>⟨R,λ_ _ e=>by cases e⟩,λ_ _ h=>⟨R,λ_ _ e=>by cases e⟩,λ_ _ h=>⟨R,λ_ _ e=>by cases e⟩,λ_ _ h=>⟨by simp only[h 38 R],λ_ _ e=>by cases e;simp only[h 38 R]⟩,Za⟩) R (by exact⟨oB [(1,.ptr 1 l 0 0)] [(1,some<|.box l 76<|Ds j)]<|fB R SY (.inl R) (λ_=>R) R,oB [(12,.ptr 1 l 0 2)] [(1,some<|.box l 76<|Ds j)]<|FR (ds:=(BR j.New)) R FI (.inl R) R R R,oB [] []<|ZD R kk (q:=[]) (by exact Za) (cs:=LD)<|by rfl,oD (λ_=>[(13,.agg<|BR j.New),(14,.agg LD)]) (λ_=>[]) λw e h' n=>Du (r:=rB q) (caps:=[]) (bs:=[.agg<|BR j.New,.agg [rI 0,rI 0,.r<|.sl [],.r<|.sl [],rI 0,rI 0,.r<|.sl [],.r<|.sl [],.r<|.sl []]]) R (.inl R) R ⟨⟨_,(.inl R),.g (cs:=[.int .i64 j.New.ID,.int .i64 j.New.Kind,.sl<|j.New.Attrs.map AD.row,.sl<|j.New.Flow.map AC.row,.int .i64 j.New.Grid.Rows,.int .i64 j.New.Grid.Cols,.sl<|j.New.Grid.Cells.map Aq.row,.sl<|j.New.Grid.Merges.map An.row,.sl<|j.New.Draw.map BB.row]) R R⟩,⟨_,(.inl R),.agg<|by exact⟨.closed _ R,.closed _ R,.nil,.nil,.closed _ R,.closed _ R,.nil,.nil,.nil,Za⟩⟩,Za⟩ (λ_=>aP<|Z) R,oB [(15,rB q)] []<|Zu R<|.inl R,oB [(1,.ptr 1 l 0 0)] [(1,some<|.box l 76<|Ds j)]<|fB R Sn (.inl R) (λ_=>R) R,oB [(17,.ptr 1 l 0 11)] [(1,some<|.box l 76<|Ds j)]<|Zg (a:=qa j.Attrs) R A1 (.inl R) R R,oB [(18,qa j.Attrs)] []<|Bd R AZ.slice<|.inl R,oB [(19,rL j.Attrs)] []<|Zy R (.inl R)<|.inl R,oB [(1,.ptr 1 l 0 0)] [(1,some<|.box l 76<|Ds j)]<|fB R Nb (.inl R) (λ_=>R) R,oB [(21,.ptr 1 l 0 12)] [(1,some<|.box l 76<|Ds j)]<|Zg (a:=qd j.Steps) R Dl (.inl R) R R,oB [(22,qd j.Steps)] []<|Bd R Bh.slice<|.inl R,oB [(23,rL j.Steps)] []<|Zy R (.inl R)<|.inl R,oB [(3,.ptr 3 (l+1) 0 0)] [(3,some<|.box (l+1) 74<|DT j.Grid)]<|fB R S2 (.inl R) (λ_=>R) R,oB [(25,.ptr 3 (l+1) 0 0)] [(3,some<|.box (l+1) 74<|DT j.Grid)]<|Zg (a:=qh j.Grid.Rows) R JQ (.inl R) R R,oB [(26,qh j.Grid.Rows)] []<|Bd R EE.slice<|.inl R,oB [(3,.ptr 3 (l+1) 0 0)] [(3,some<|.box (l+1) 74<|DT j.Grid)]<|fB R TP (.inl R) (λ_=>R) R,oB [(28,.ptr 3 (l+1) 0 1)] [(3,some<|.box (l+1) 74<|DT j.Grid)]<|Zg (a:=qh j.Grid.Cols) R JQ (.inl R) R R,oB [(29,qh j.Grid.Cols)] []<|Bd R EE.slice<|.inl R,oB [(27,rL j.Grid.Rows),(30,rL j.Grid.Cols)] []<|Ga R (.inl R) (.inl R) λ_=>a0,oB [(3,.ptr 3 (l+1) 0 0)] [(3,some<|.box (l+1) 74<|DT j.Grid)]<|fB R Sk (.inl R) (λ_=>R) R,oB [(32,.ptr 3 (l+1) 0 2)] [(3,some<|.box (l+1) 74<|DT j.Grid)]<|Zg (a:=qe j.Grid.Cells) R Eb (.inl R) R R,oB [(33,qe j.Grid.Cells)] []<|Bd R CT.slice<|.inl R,oB [(31,rI x1),(34,rL j.Grid.Cells)] []<|Ga R (.inl R) (.inl R) λ_=>a1,oB [(3,.ptr 3 (l+1) 0 0)] [(3,some<|.box (l+1) 74<|DT j.Grid)]<|fB R OG (.inl R) (λ_=>R) R,oB [(36,.ptr 3 (l+1) 0 3)] [(3,some<|.box (l+1) 74<|DT j.Grid)]<|Zg (a:=qc j.Grid.Split) R Ct (.inl R) R R,oB [(37,qc j.Grid.Split)] []<|Bd R CU.slice<|.inl R,oB [(35,rI x2),(38,rL j.Grid.Split)] []<|Ga R (.inl R) (.inl R) λ_=>a2,oB [(3,.ptr 3 (l+1) 0 0)] [(3,some<|.box (l+1) 74<|DT j.Grid)]<|fB R KK (.inl R) (λ_=>R) R,oB [(40,.ptr 3 (l+1) 0 4)] [(3,some<|.box (l+1) 74<|DT j.Grid)]<|Zg (a:=qc j.Grid.Merge) R Ct (.inl R) R R,oB [(41,qc j.Grid.Merge)] []<|Bd R CU.slice<|.inl R,oB [(39,rI x3),(42,rL j.Grid.Merge)] []<|Ga R (.inl R) (.inl R) λ_=>a6,oB [(43,rI u)] []<|Zy R (.inl R)<|.inl R,oB [(1,.ptr 1 l 0 0)] [(1,some<|.box l 76<|Ds j)]<|fB R SB (.inl R) (λ_=>R) R,oB [(45,.ptr 1 l 0 18)] [(1,some<|.box l 76<|Ds j)]<|Zg (a:=qf j.Draw) R Fx (.inl R) R R,oB [(46,qf j.Draw)] []<|Bd R E2.slice<|.inl R,oB [(47,rL j.Draw)] []<|Zy R (.inl R)<|.inl R,oB [(16,rB<|(!q)),(20,rB<|(decide<|0<(j.Attrs.length:Int))),(24,rB<|(decide<|0<(j.Steps.length:Int))),(44,rB<|(decide<|0<u)),(48,rB<|(decide<|0<(j.Draw.length:Int)))] []<|mx R nz (q:=[(0,_),(1,_),(2,_),(3,_),(4,_)]) (by exact⟨R,R,R,(.inl R),R,R,R,(.inl R),R,R,R,(.inl R),R,R,R,(.inl R),R,R,R,(.inl R),Za⟩) (cs:=[rB<|(!q),rB<|(decide<|0<(j.Attrs.length:Int)),rB<|(decide<|0<(j.Steps.length:Int)),rB<|(decide<|0<u),rB<|(decide<|0<(j.Draw.length:Int))])<|by rfl,oM (λ_=>[]) (λ_=>[]) R λw e h' n=>Zq (cs:=YQ) 4 R uS R R,Za⟩) λw n1=>?_
 refine Ay [0,1,2,3,4,6,7,8,9,10,11,12,13,14,15,16,17,18,19,20,21,22,23,24,25,26,27,28,29,30,31,32,33,34,35,36,37,38,39,40,41,42,43,44,45,46,47,48,49] [1,3,4] ?_
 refine Zk R R (Zi (ds:=[rB<|(!q),rB<|(decide<|0<(j.Attrs.length:Int)),rB<|(decide<|0<(j.Steps.length:Int)),rB<|(decide<|0<u),rB<|(decide<|0<(j.Draw.length:Int))]) R jz iL R iL R R R R)<|aZ<|c6 _<|aS λK7 c7 a7=>aT λc8=>aG [1,4] [1,4] ?_
 refine aR<|mM R<|aZ<|c8 _<|Zf<|A5 h7 λo2 M a8 aa=>?_
 have J1:∀(u2:Unit) (i5:NN),o2=.nrm u2→K7 ⟨[(1,.ptr 1 l 0 0)],[(1,some<|.box l 76<|Ds j)],(i5 0),96⟩:=by
  intro u2 i5 e
  have h8:=a8 _ e
  refine c7 _<|aT λc9=>aU<|lF KN AI R R<|xQ R<|aZ<|cI R h8 (λh9=>?_) λh9=>?_
  ·refine aT λab=>aU<|lF QI AI R R<|xU R<|aZ<|cI R h9 (λA=>?_) λA=>?_
   ·exact zI A R id
   exact Zd<|ab _<|aU<|sQ R (fB R SY iL fR R)<|sQ R (FR (ds:=(BR j.New)) R FI iL R R R)<|Zc A λr3 ac ad=>cL (Y0<|ac) R<|mA R<|aZ<|Zj<|yI ad R
  refine Zd<|c9 _<|aT λae=>aU<|lF QI AI R R<|Zc h9 λr4 af ag=>cL (C3<|af) R<|sQ R (Zu R iL)<|aZ<|cI R ag (λB=>?_) λB=>?_
  ·exact zI B R id
  refine Zd<|ae _<|aT λah=>aU<|lF KN AI R R<|aZ<|Zf<|aU<|xQ R<|mA R<|aZ<|cI R B (λC=>?_) λC=>?_
  ·refine aT λai=>aG [1] [1] ?_
   exact aR<|lF Sn A1 R R<|Zc C λr5 aj ak=>cL (KE<|aj) R<|mA R<|aZ<|ai _<|Zj<|yI ak R
  refine aT λal=>aG [1,77] [1] ?_
  refine aR<|xQ R<|mA R<|aZ<|al _<|cI R C (λE=>?_) λE=>?_
  ·exact aU<|lF Nb Dl R R<|Zc E λr6 an ao=>cL (qq<|an) R<|mA R<|aZ<|Zj<|yI ao R
  refine aU<|xQ R<|mA R<|aZ<|cI R E (λF=>?_) λF=>?_
  ·exact aU<|sQ R (fB R Sz iL fR R)<|sQ R (FR (ds:=(DT j.Grid)) R S1 iL R R R)<|Zc F λr7 aq ar=>cL (tR<|aq) R<|mA R<|aZ<|Zj<|yI ar R
  exact Zd<|ah _<|aU<|lF SB Fx R R<|Zc F λr8 av aw=>cL (bV<|av) R<|mA R<|aZ<|Zj<|yI aw R
 refine Zz (λ(x6:Int) V=>⟨[(1,.ptr 1 l 0 0),(4,.ptr 4 (w 38) 0 0),(50,rI x6)],[(1,some<|.box l 76<|Ds j),(4,some<|.box (w 38) 158 [rB<|(!q),rB<|(decide<|0<(j.Attrs.length:Int)),rB<|(decide<|0<(j.Steps.length:Int)),rB<|(decide<|0<u),rB<|(decide<|0<(j.Draw.length:Int))])],(V 0),96⟩) (AG [n1]) M wk ?_
 intro x6 V v1 ax O
 have T:KA j q u x6=some v1:=ax;unfold KA at T
 refine aU<|xS R<|aZ<|aT λay=>cI R T (λI=>?_) λI=>?_
 ·refine Zd<|ay _<|aT λaz=>Zf<|aU<|mM R<|mA R<|aZ<|aU<|mM R<|Zc I λx8 U b0=>sQ R (qJ (l:=[(!q),(decide<|0<(j.Attrs.length:Int)),(decide<|0<(j.Steps.length:Int)),(decide<|0<u),(decide<|0<(j.Draw.length:Int))]) R uh iL R iL (λ_=>U) R)<|sQ R (rM (l:=[(!q),(decide<|0<(j.Attrs.length:Int)),(decide<|0<(j.Steps.length:Int)),(decide<|0<u),(decide<|0<(j.Draw.length:Int))]) R XZ iL R R λ_=>U)<|mM R<|vM R<|vF KN AI R R<|vQ R (CP R (iR R)<|iR R)<|xN R<|aZ<|cI R b0 (λJ=>?_) λJ=>?_
  ·exact zI (aa _<|xH O J) R id
  exact Zd<|az _<|aR<|Zc J λx9 b1 b2=>xA R b1<|mM R<|Zh<|Zx b2 (AG [(V 0)]) wk
 exact Zn<|a7 _ _ wk<|J1 _ (AG [(V 0)])<|xH O I
theorem sW{d1 r}(h:MX d1=some r):AM prog 61 [qd d1] (rI r):=by
 unfold MX at h
 refine mF func61 ntmps61 R λU=>aU<|mA R<|aZ<|aU<|mA R<|aZ<|aS λV X q=>aU<|mM R<|xL Bh R<|mM R<|aZ<|Zf<|Ar h λY j u=>?_
 have Z:∀(w:Int) (O:NN),Y=w→V ⟨[(3,rI w)],[],(O 0),19⟩:=by
  intro w O e
  have h1:=u _ e
  exact X _<|aU<|mM R<|mA R<|aZ<|Zj<|yI h1 R
 refine ZL (λ(A:Int) (B:Int) l=>⟨[(0,qd d1),(3,rI A),(6,rL d1),(7,rI B)],[],(l 0),19⟩) (AG [U]) j wk ?_
 intro A B l v1 C E
 have T:Jf d1 A B=some v1:=C;unfold Jf at T
 refine aU<|xS R<|aZ<|aT λc7=>cI R T (λF=>?_) λF=>?_
 ·refine Zd<|c7 _<|aT λc8=>Zf<|aU<|mM R<|mA R<|aZ<|aR<|mM R<|mM R<|mM R<|Zc F λx4 I h4=>xI Bh R I<|sQ R (Zl R D3 iL)<|xV (.int .i64 x4.N) AI R<|Zc h4 λn5 J h5=>xA R J<|mA R<|aZ<|c8 _<|aF [0,3,6,7] ?_
  exact aR<|Zc h5 λx5 M h6=>xA R M<|mM R<|Zh<|ZH h6 (AG [(l 0)]) wk
 exact Zn<|q _ _ wk<|Z _ (AG [(l 0)])<|xH E F
theorem rQ{d1 r}(h:OC d1=some r):AM prog 116 [qd d1] (.agg<|Gp r):=by
 unfold OC at h
 refine mF func116 ntmps116 R λj=>aU<|sS R (Zq (cs:=IZ) 2 R bX R R)<|aZ<|aT λc2=>aR<|sS R (ZK 7 R I5 (f:=(Dq AC.row)) (l:=([[]]:List (List AC))) ⟨R,⟨_,iL,R⟩,Za⟩ R (λ_=>R) R) ?_
 refine sQ R (ZD R l9 (q:=[(0,_)]) (by exact⟨R,R,R,iL,Za⟩) (cs:=[.own 7<|j+1,cZ,cZ])<|by rfl) ?_
 refine sS R (Zq (cs:=IZ) 3 R bX R R)<|Zk R R (Zi (ds:=[.own 7<|j+1,cZ,cZ]) R fY iL R iL R R R R)<|aZ<|c2 _<|aS λK3 c3 Z=>aU<|mM R<|xL Bh R<|mM R<|aZ<|Zf<|Ar h λo1 M a0=>?_
 have J1:∀(a4:BT) (C:NN),o1=a4→K3 ⟨[(2,.ptr 2 j 0 0),(3,.ptr 3 (j+2) 0 0)],[(2,some<|.box j 69 IZ),(3,some<|.box (j+2) 69 [.own 7<|C 0,.own 54<|C 1,.own 61<|C 2]),(7,some<|.arr (C 0) 36 1<|a4.Adds.map<|Dq AC.row),(54,some<|.arr (C 1) 4 1<|a4.Cuts.map EH),(61,some<|.arr (C 2) 39 1<|a4.Attrs.map<|Dq AD.row)],(C 3),66⟩:=by
  intro a4 C e
  have h1:=a0 _ e
  refine c3 _<|aU<|xC aJ R<|Zk R R (Zi (ds:=[.own 7<|C 0,.own 54<|C 1,.own 61<|C 2]) R fY iL R iL R R R R)<|aZ ?_
  exact Zj<|CX (P:=prog) (λ(r:BT)=>.agg<|Gp r) h1 iL<|.a aJ R R R<|.agg<|by exact⟨.own R,.own R,.own R,Za⟩
 refine ZL (λ(J:Int) (E:BT) l=>⟨[(0,qd d1),(2,.ptr 2 j 0 0),(3,.ptr 3 (j+2) 0 0),(10,rL d1),(11,rI J)],[(2,some<|.box j 69 IZ),(3,some<|.box (j+2) 69 [.own 7<|l 0,.own 54<|l 1,.own 61<|l 2]),(7,some<|.arr (l 0) 36 1<|E.Adds.map<|Dq AC.row),(54,some<|.arr (l 1) 4 1<|E.Cuts.map EH),(61,some<|.arr (l 2) 39 1<|E.Attrs.map<|Dq AD.row)],(l 3),66⟩) (AG [(j+1),(j+3),(j+4),(j+5)]) M (Zm (Zm (Ek 3 1 54 4 1 (by decide) R R<|by decide)<|by exact ZC (e':=[(0,qd d1),(2,.ptr 2 j 0 0),(3,.ptr 3 (j+2) 0 0),(7,.own 7<|j+1),(8,.agg [.own 7<|j+1,cZ,cZ]),(9,qd d1),(10,rL d1),(11,rI 0)]) (h':=[(2,some<|.box j 69 IZ),(3,some<|.box (j+2) 69 [.own 7<|j+1,.own 54<|j+3,cZ]),(7,some<|.arr (j+1) 36 1<|[[]].map<|Dq AC.row),(54,some<|.arr (j+3) 4 1<|([]:List Bool).map EH)]) ⟨jL,jL,jL,jL,jL,jL,jL,jL,Za⟩ ⟨.inl R,.inl R,.inl R,.inl R,Za⟩ nL)<|Zm (Zm (Ek 3 2 61 39 1 (by decide) R R<|by decide)<|by exact ZC (e':=[(0,qd d1),(2,.ptr 2 j 0 0),(3,.ptr 3 (j+2) 0 0),(7,.own 7<|j+1),(8,.agg [.own 7<|j+1,cZ,cZ]),(9,qd d1),(10,rL d1),(11,rI 0)]) (h':=[(2,some<|.box j 69 IZ),(3,some<|.box (j+2) 69 [.own 7<|j+1,.own 54<|j+3,.own 61<|j+4]),(7,some<|.arr (j+1) 36 1<|[[]].map<|Dq AC.row),(54,some<|.arr (j+3) 4 1<|([]:List Bool).map EH),(61,some<|.arr (j+4) 39 1<|([]:List (List AD)).map<|Dq AD.row)]) ⟨jL,jL,jL,jL,jL,jL,jL,jL,Za⟩ ⟨.inl R,.inl R,.inl R,.inl R,.inl R,Za⟩ nL) wk) ?_
 intro J E l v1 a1 a6
 have h2:JC d1 J E=some v1:=a1;unfold JC at h2
 refine aU<|xS R<|aZ<|aT λc7=>cI R h2 (λh3=>?_) λh3=>?_
 ·refine Zd<|c7 _<|aS λK8 c8 O=>Zf<|Ar h3 λp1 a8 aa=>?_
  have J2:∀(a5:BT) (B:NN),p1=a5→K8 ⟨[(0,qd d1),(2,.ptr 2 j 0 0),(3,.ptr 3 (j+2) 0 0),(10,rL d1),(11,rI J)],[(2,some<|.box j 69 IZ),(3,some<|.box (j+2) 69 [.own 7<|B 0,.own 54<|B 1,.own 61<|B 2]),(7,some<|.arr (B 0) 36 1<|a5.Adds.map<|Dq AC.row),(54,some<|.arr (B 1) 4 1<|a5.Cuts.map EH),(61,some<|.arr (B 2) 39 1<|a5.Attrs.map<|Dq AD.row)],(B 3),66⟩:=by
   intro a5 B e
   have h4:=aa _ e
   exact c8 _<|aR<|Zc h4 λx4 ab h5=>xA R ab<|mM R<|Zh<|ZH h5 (AG [(B 0),(B 1),(B 2),(B 3)]) wk
  refine aU<|mM R<|mA R<|aZ<|aU<|mM R<|mM R<|Zc a8 λw ac h6=>xI Bh R ac<|xB ((BZ w)) EI R<|sS R (Zq (cs:=Do) 5 R E0 R R)<|Zk R R (Zi (ds:=(BZ w)) R E3 iL R iL R R R R)<|aZ<|aT λad=>aU<|lF Bt AI R R<|xQ R<|aZ<|cI R h6 (λh7=>?_) λh7=>?_
  ·refine aT λae=>aG [0,2,3,5,10,11] [2,3,5,7,54,61] ?_
   refine aR<|lF Ka Lo R R<|sQ R (Kx R I5.slice iL R)<|Zc h7 λA af h8=>sQ R (Bu R iL iL λ_=>af)<|mA R<|aZ<|ae _<|aT λag=>Zc h8 λY F h9=>Zc h9 λl1 ah ai=>Zc ai λl2 aj ak=>?_
   refine Ip 13 [pO 25<|.ptr 3 (j+2) 0 0,pO 26<|.own 7<|l 0,pO 27<|rI A,⟨some 28,(λu=>.own 28<|u 3),some (28,(λu=>some<|.arr (u 3) 51 3<|([]:List AC).map AC.row)),[3]⟩,pO 29<|.ptr 3 (j+2) 0 0,pO 30<|.own 7<|l 0,pO 31<|rI A,pO 32<|.ptr 7 (l 0) A.toNat 0,pO 33<|qb Y,⟨some 34,(λu=>.own 28<|u 9),some (28,(λu=>some<|.arr (u 9) 51 3<|l1.map AC.row)),[9]⟩,pO 35<|.ptr 5 (l 3) 0 3,pO 36<|qb w.Elems,⟨some 37,(λu=>.own 28<|u 12),some (28,(λu=>some<|.arr (u 12) 51 3<|l2.map AC.row)),[12]⟩] A8 (by kernel_rfl) (by exact⟨λ_ _ h=>⟨R,λ_ _ e=>by cases e⟩,λ_ _ h=>⟨R,λ_ _ e=>by cases e⟩,λ_ _ h=>⟨R,λ_ _ e=>by cases e⟩,λ_ _ h=>⟨by simp only[h 3 R],λ_ _ e=>by cases e;simp only[h 3 R]⟩,λ_ _ h=>⟨R,λ_ _ e=>by cases e⟩,λ_ _ h=>⟨R,λ_ _ e=>by cases e⟩,λ_ _ h=>⟨R,λ_ _ e=>by cases e⟩,λ_ _ h=>⟨R,λ_ _ e=>by cases e⟩,λ_ _ h=>⟨R,λ_ _ e=>by cases e⟩,λ_ _ h=>⟨by simp only[h 9 R],λ_ _ e=>by cases e;simp only[h 9 R]⟩,λ_ _ h=>⟨R,λ_ _ e=>by cases e⟩,λ_ _ h=>⟨R,λ_ _ e=>by cases e⟩,λ_ _ h=>⟨by simp only[h 12 R],λ_ _ e=>by cases e;simp only[h 12 R]⟩,Za⟩) R (by exact⟨oB [(3,.ptr 3 (j+2) 0 0)] [(3,some<|.box (j+2) 69 [.own 7<|l 0,.own 54<|l 1,.own 61<|l 2])]<|fB R Ka (.inl R) (λ_=>R) R,oB [(25,.ptr 3 (j+2) 0 0)] [(3,some<|.box (j+2) 69 [.own 7<|l 0,.own 54<|l 1,.own 61<|l 2])]<|Zg (a:=.own 7<|l 0) R Lo (.inl R) R R,oB [(6,rI A)] []<|Ze R<|.inl R,oM (λ_=>[]) (λ_=>[]) R λu e h' n=>ZK 28 R Ab (f:=AC.row) (l:=([]:List AC)) Za R (λ_=>R) R,oB [(3,.ptr 3 (j+2) 0 0)] [(3,some<|.box (j+2) 69 [.own 7<|l 0,.own 54<|l 1,.own 61<|l 2])]<|fB R Ka (.inl R) (λ_=>R) R,oB [(29,.ptr 3 (j+2) 0 0)] [(3,some<|.box (j+2) 69 [.own 7<|l 0,.own 54<|l 1,.own 61<|l 2])]<|Zg (a:=.own 7<|l 0) R Lo (.inl R) R R,oB [(6,rI A)] []<|Ze R<|.inl R,oB [(30,.own 7<|l 0),(31,rI A)] [(7,some<|.arr (l 0) 36 1<|E.Adds.map<|Dq AC.row)]<|EJ R I5.slice (.inl R) R (.inl R) λ_=>F,oB [(32,.ptr 7 (l 0) A.toNat 0)] [(7,some<|.arr (l 0) 36 1<|E.Adds.map<|Dq AC.row)]<|I3 (d:=.sl<|Y.map AC.row) R Br (.inl R) (λ_=>R) (λ_=>F) R,oM (λu=>[(28,.own 28<|u 3),(33,qb Y)]) (λu=>[(28,some<|.arr (u 3) 51 3<|([]:List AC).map AC.row)]) R λu e h' n=>B6 R Ab (.inl R) R (.inl ⟨(.inl R),λ_=>R⟩) ah,oB [(5,.ptr 5 (l 3) 0 0)] [(5,some<|.box (l 3) 100<|BZ w)]<|fB R Dz (.inl R) (λ_=>R) R,oB [(35,.ptr 5 (l 3) 0 3)] [(5,some<|.box (l 3) 100<|BZ w)]<|Zg (a:=qb w.Elems) R Br (.inl R) R R,oM (λu=>[(34,.own 28<|u 9),(36,qb w.Elems)]) (λu=>[(28,some<|.arr (u 9) 51 3<|l1.map AC.row)]) R λu e h' n=>B6 R Ab (.inl R) R (.inl ⟨(.inl R),λ_=>R⟩) aj,Za⟩) λu n1=>?_
   refine Ay [0,2,3,5,6,10,11,21,22,23,24,25,26,27,29,30,31,32,33,35,36,37] [2,3,5,7,28,54,61] ?_
   refine sQ R (EJ R I5.slice iL R iL λ_=>F) ?_
   refine AL.weak (by exact Ag.frz (e':=[(0,qd d1),(2,.ptr 2 j 0 0),(3,.ptr 3 (j+2) 0 0),(5,.ptr 5 (l 3) 0 0),(6,rI A),(10,rL d1),(11,rI J),(21,.ptr 3 (j+2) 0 0),(22,.own 7<|l 0),(23,rL E.Adds),(24,rI A),(25,.ptr 3 (j+2) 0 0),(26,.own 7<|l 0),(27,rI A),(29,.ptr 3 (j+2) 0 0),(30,.own 7<|l 0),(31,rI A),(32,.ptr 7 (l 0) A.toNat 0),(33,qb Y),(35,.ptr 5 (l 3) 0 3),(36,qb w.Elems),(37,qb l2),(38,.ptr 7 (l 0) A.toNat 0)]) (h':=[(2,some<|.box j 69 IZ),(3,some<|.box (j+2) 69 [.own 7<|l 0,.own 54<|l 1,.own 61<|l 2]),(5,some<|.box (l 3) 100<|BZ w),(7,some<|.arr (l 0) 36 1<|E.Adds.map<|Dq AC.row),(54,some<|.arr (l 1) 4 1<|E.Cuts.map EH),(61,some<|.arr (l 2) 39 1<|E.Attrs.map<|Dq AD.row)]) 28 R ⟨jL,jL,jL,jL,jL,jL,jL,jL,jL,jL,jL,jL,jL,jL,jL,jL,jL,jL,jL,jL,jL,.inl<|.inr<|.inr ⟨R,R⟩,jL,Za⟩ ⟨R,.inl R,R,.inl R,R,.inl R,R,.inl R,R,.inl R,R,.inl R,Za⟩) ?_
   exact Zk R R (Kq (v:=l2) R T4 iL R F iL R R R R)<|aZ<|ag _<|Zn<|O _ _ wk<|J2 _ (AG [(l 0),(l 1),(l 2),n1]) (Zb ak).symm
  refine Zd<|ad _<|aT λal=>aG [0,2,3,5,10,11] [2,3,5,7,54,61] ?_
  refine aR<|lF D3 AI R R<|mM R<|aZ<|al _<|Zf<|A5 h7 λo2 T b3 an=>ZL (λ(x8:Int) (U:BT) q=>⟨[(0,qd d1),(2,.ptr 2 j 0 0),(3,.ptr 3 (j+2) 0 0),(5,.ptr 5 (l 3) 0 0),(10,rL d1),(11,rI J),(40,rI w.N),(41,rI x8)],[(2,some<|.box j 69 IZ),(3,some<|.box (j+2) 69 [.own 7<|q 0,.own 54<|q 1,.own 61<|q 2]),(5,some<|.box (l 3) 100<|BZ w),(7,some<|.arr (q 0) 36 1<|U.Adds.map<|Dq AC.row),(54,some<|.arr (q 1) 4 1<|U.Cuts.map EH),(61,some<|.arr (q 2) 39 1<|U.Attrs.map<|Dq AD.row)],(q 3),66⟩) (AG [(l 0),(l 1),(l 2),((l 3)+1)]) T wk ?_
  intro x8 U q v2 ao aq
  have V:JS w x8 U=some v2:=ao;unfold JS at V
  refine aU<|xS R<|aZ<|aT λar=>cI R V (λI=>?_) λI=>?_
  ·refine Zd<|ar _<|aT λav=>Zf<|aU<|lF Ka Lo R R<|sS R (ZK 45 R I5 (f:=(Dq AC.row)) (l:=([[]]:List (List AC))) ⟨R,⟨_,iL,R⟩,Za⟩ R (λ_=>R) R)<|Zc I λl3 aw ax=>sS R (B6 R I5 iL R (.inr<|.inl ⟨_,_,iL,R⟩) aw)<|sQ R (fB R Ka iL fR R)<|Zk R R (Zi (ds:=[.own 7<|(q 3)+1,.own 54<|q 1,.own 61<|q 2]) R uw iL R iL R R R R)<|aZ<|aU<|lF XS gE R R<|lF Bt AI R R<|xQ R<|sS R (ZK 53 R Mi (f:=EH) (l:=([(decide<|w.Kind=2)]:List Bool)) ⟨R,⟨_,iL,R⟩,Za⟩ R (λ_=>R) R)<|Zc ax λl4 ay az=>sS R (B6 R Mi iL R (.inr<|.inl ⟨_,_,iL,R⟩) ay)<|sQ R (fB R XS iL fR R)<|Zk R R (Zi (ds:=[.own 7<|(q 3)+1,.own 54<|(q 3)+3,.own 61<|q 2]) R mY iL R iL R R R R)<|aZ<|aG [0,2,3,5,10,11,40,41] [2,3,5,7,54,61] ?_
   exact aR<|lF Wf dS R R<|lF DZ A1 R R<|sS R (ZK 60 R X7 (f:=(Dq AD.row)) (l:=([w.Attrs]:List (List AD))) ⟨R,⟨_,iL,R⟩,Za⟩ R (λ_=>R) R)<|Zc az λl5 b0 b1=>sS R (B6 R X7 iL R (.inr<|.inl ⟨_,_,iL,R⟩) b0)<|sQ R (fB R Wf iL fR R)<|Zk R R (Zi (ds:=[.own 7<|(q 3)+1,.own 54<|(q 3)+3,.own 61<|(q 3)+5]) R mI iL R iL R R R R)<|aZ<|av _<|aR<|Zc b1 λb4 X b2=>xA R X<|mM R<|Zh<|ZH b2 (AG [((q 3)+1),((q 3)+3),((q 3)+5),((q 3)+6)]) wk
  exact Zn<|O _ _ wk<|J2 _ (AG [(q 0),(q 1),(q 2),(q 3)]) (Zb<|an _<|xH aq I).symm
 exact Zn<|Z _ _ wk<|J1 _ (AG [(l 0),(l 1),(l 2),(l 3)])<|xH a6 h3
theorem pL{f1 w r}(h:MT f1 w=some r):AM prog 115 [qb f1,.agg<|Gp w] (qb r):=by
 unfold MT at h
 refine mF func115 ntmps115 R λj=>aU<|sS R (Zv (cs:=(Gp w)) 3 R iL R R)<|mA R<|aZ<|aU<|mA R<|aZ<|aS λK3 c3 U=>aU<|mM R<|xL Ab R<|mM R<|aZ<|Zf<|Ar h λo1 J V=>?_
 have J1:∀(l:List AC) (O:NN),o1=l→K3 ⟨[(0,qb f1),(3,.ptr 3 j 0 0),(5,.own 5005<|O 0)],[(3,some<|.box j 69<|Gp w),(5005,some<|.arr (O 0) 51 3<|l.map AC.row)],(O 1),52⟩:=by
  intro l O e
  have h1:=V _ e
  exact c3 _<|aU<|mM R<|lF Ka Lo R R<|mM R<|xL Ab R<|Zc h1 λx4 X h2=>xI I5 R X<|xV (.sl<|x4.map AC.row) Br R<|Zc h2 λl1 Y h3=>sS R (B6 R Ab iL R (.inl ⟨iL,λ_=>R⟩) Y)<|mA R<|aZ<|Zj<|CX (P:=prog) (λ(r:(List AC))=>qb r) h3 iL<|.t<|.one<|.own R
 refine ZL (λ(T:Int) (q:List AC) A=>⟨[(0,qb f1),(3,.ptr 3 j 0 0),(5,.own 5005<|A 0),(9,rL f1),(10,rI T)],[(3,some<|.box j 69<|Gp w),(5005,some<|.arr (A 0) 51 3<|q.map AC.row)],(A 1),52⟩) (AG [(j+1),(j+2)]) J (Zm (Zm (ZR 5 5005 51 3 (by decide) R)<|by exact ZC (e':=[(0,qb f1),(1,.agg<|Gp w),(3,.ptr 3 j 0 0),(4,cZ),(5,.own 5005<|j+1),(8,qb f1),(9,rL f1),(10,rI 0)]) (h':=[(3,some<|.box j 69<|Gp w),(5005,some<|.arr (j+1) 51 3<|([]:List AC).map AC.row)]) ⟨jL,jL,jL,jL,jL,jL,jL,jL,Za⟩ ⟨.inl R,.inl R,Za⟩ nL) wk) ?_
 intro T q A v1 Z a0
 have h4:Iz f1 w T q=some v1:=Z;unfold Iz at h4
 refine aU<|xS R<|aZ<|aT λc7=>cI R h4 (λh5=>?_) λh5=>?_
 ·refine Zd<|c7 _<|aS λK8 c8 M=>Zf<|Ar h5 λp1 a2 a6=>?_
  have J2:∀(u:List AC) (I:NN),p1=u→K8 ⟨[(0,qb f1),(3,.ptr 3 j 0 0),(5,.own 5005<|I 0),(9,rL f1),(10,rI T)],[(3,some<|.box j 69<|Gp w),(5005,some<|.arr (I 0) 51 3<|u.map AC.row)],(I 1),52⟩:=by
   intro u I e
   have h6:=a6 _ e
   exact c8 _<|aR<|Zc h6 λx5 a7 h7=>xA R a7<|mM R<|Zh<|ZH h7 (AG [(I 0),(I 1)]) wk
  refine aU<|mM R<|mA R<|aZ<|aU<|mM R<|lF Ka Lo R R<|mM R<|Zc a2 λx6 a8 h8=>xI I5 R a8<|xV (.sl<|x6.map AC.row) Br R<|Zc h8 λal C h9=>sS R (B6 R Ab iL R (.inl ⟨iL,λ_=>R⟩) C)<|mA R<|aZ<|aU<|lF XS gE R R<|mM R<|Zc h9 λx7 aa ab=>xI Mi R aa<|xV (.bool x7) XZ R<|sQ R (Zu R iL)<|aZ<|cI R ab (λE=>?_) λE=>?_
  ·refine aT λac=>aG [0,3,5,6,9,10] [3,5005] ?_
   refine aR<|mM R<|mM R<|Zc E λB ad ae=>xI Ab R ad<|xB ((Aa B)) CK R<|sS R (Zq (cs:=EC) 7 R ED R R)<|Zk R R (Zi (ds:=(Aa B)) R Cp iL R iL R R R R)<|aZ<|ac _<|aT λaf=>?_
   refine Lm 7 A8 (by kernel_rfl) R R ?_
   refine Zt R R R (fB R B9 iL fR R)<|Zt R R R (Zg (a:=qa B.Attrs) R A1 iL R R)<|Zt R R R (fB R Wf iL fR R)<|Zt R R R (Zg (a:=.r<|.sl<|w.Attrs.map<|Dq AD.row) R dS iL R R)<|Zt R R R (Ze R iL)<|Zc ae λx9 ag ah=>Zt R R R (Zr R X7.slice iL iL (λ_=>R) λ_=>ag)<|Zt R R R (ZB (d:=.sl<|x9.map AD.row) R A1 iL R)<|AT.nil<|Zc ah λr1 ai aj=>sS R (ZJ (r:=qa r1) (caps:=[]) (bs:=[qa B.Attrs,qa x9]) R iL R ⟨.inl ⟨iL,R⟩,.inl ⟨iL,R⟩,Za⟩ λ_=>U2<|ai)<|sQ R (fB R B9 iL fR R)<|Zk R R (Zi (ds:=[rI B.Char,rI B.Ref,qa r1]) R Fj iL R iL R R R R)<|aZ<|af _<|aG [0,3,5,7,9,10] [3,7,5005] ?_
   exact aR<|mM R<|xC CK R<|sS R (ZK 41 R Ab (f:=AC.row) (l:=([(AC.mk B.Char B.Ref r1)]:List AC)) ⟨R,⟨_,iL,R⟩,Za⟩ R (λ_=>R) R)<|Zc aj λan F ak=>sS R (B6 R Ab iL R (.inr<|.inl ⟨_,_,iL,R⟩) F)<|mA R<|Zh<|M _ _ wk<|J2 _ (AG [((A 1)+3),((A 1)+4)]) (Zb ak).symm
  exact Zd<|M _ _ wk<|J2 _ (AG [(A 1),((A 1)+1)]) (Zb E).symm
 exact Zn<|U _ _ wk<|J1 _ (AG [(A 0),(A 1)])<|xH a0 h5
theorem kI{f1 d1 r}(h:Np f1 d1=some r):AM prog 63 [qb f1,qd d1] (qb r):=by
 unfold Np at h
 exact mF func63 ntmps63 R λB=>aU<|mA R<|aZ<|aU<|mM R<|mM R<|Zc h λq j u=>sS R (ZJ (r:=.agg<|Gp q) (caps:=[]) (bs:=[qd d1]) R iL R ⟨.inl ⟨iL,R⟩,Za⟩ λ_=>rQ<|j)<|Zc u λw l A=>sS R (ZJ (r:=qb w) (caps:=[]) (bs:=[qb f1,.agg<|Gp q]) R iL R ⟨.inl ⟨iL,R⟩,.inl ⟨iL,R⟩,Za⟩ λ_=>pL<|l)<|mA R<|aZ<|Zj<|CX (P:=prog) (λ(r:(List AC))=>qb r) A iL<|.t<|.d R
theorem pn{d1 C n w r}(h:P1 d1 C n w=some r):AM prog 20 [.agg [qg d1.Nodes],qi C,rI n,qb w] (rB r):=by
 unfold P1 at h
 refine mF func20 ntmps20 R λn0=>aU<|sS R (Zv (cs:=[qg d1.Nodes]) 4 R iL R R)<|mA R<|aZ<|aT λC2=>aU<|mM R<|xL Fu R<|xU R<|mM R<|vM R<|Zc h λx1 I h1=>vQ R (Zr R Fu.slice (iR R) iL (λ_=>R)<|AN I)<|vQ R (Zl R KN<|iR R)<|vQ R (ZB (d:=.int .i64 x1.Kind) R AI (iR R) R)<|vQ R (CP R (iR R) iL)<|xO R<|mM R<|vM R<|Zc h1 λx2 J h2=>vQ R (Zr R Fu.slice (iR R) iL (λ_=>R)<|AN J)<|vQ R (Zl R QI<|iR R)<|vQ R (ZB (d:=.int .i64 x2.Node) R AI (iR R) R)<|vM R<|vQ R (CP R (iR R)<|iR R)<|xO R<|aZ<|cI R h2 (λM=>?_) λM=>?_
 ·exact zB M R id
 refine Zd<|C2 _<|aT λC5=>aG [1,2,3,4] [4] ?_
 refine ZA A8 (by kernel_rfl) ?_
 refine qP R (fB R Da iL fR R)<|qP R (Zg (a:=qg d1.Nodes) R DY iL R R)<|qP R (ZQ R Dk iL R R)<|qP R (Ze R iL)<|Zc M λr1 O h4=>EQ R R R (r:=rI r1) (caps:=[]) (bs:=[.agg [qg d1.Nodes],rI n]) R iL R ⟨⟨_,iL,.g (cs:=[.sl<|d1.Nodes.map Ae.row]) R R⟩,⟨_,iL,.d R⟩,Za⟩ (λ_=>Sv<|O) R<|Zc h4 λq T h5=>qP R (Zr R Co.slice iL iL (λ_=>R) λ_=>T)<|qP R (Zl R EW iL)<|qP R (ZB (d:=.sl<|q.Flow.map AC.row) R Br iL R)<|qP R (DQ R iL)<|AQ.nil<|C5 _<|aS λK6 C6 E=>aF [1,3,9] ?_
 refine aR<|mM R<|Zc h5 λl u h6=>xI Fu R u<|xB ((Ds l)) Vi R<|Zc h6 λB U h7=>cL (pl<|U) R<|xQ R<|mM R<|vM R<|vQ R (Zr R Fu.slice (iR R) iL (λ_=>R) λ_=>u)<|vQ R (Zl R Nb<|iR R)<|vQ R (ZB (d:=.sl<|l.Steps.map AH.row) R Dl (iR R) R)<|Zc h7 λV X h8=>vL (λhg=>sW<|AN X hg) R<|vM R<|vQ R (Bd R Ab.slice<|iR R)<|vQ R (Zs R (iR R)<|iR R)<|xN R<|mM R<|vM R<|vM R<|vQ R (Zr R Fu.slice (iR R) iL (λ_=>R) λ_=>u)<|vQ R (Zl R Nb<|iR R)<|vQ R (ZB (d:=.sl<|l.Steps.map AH.row) R Dl (iR R) R)<|Ar h8 λp1 F Y=>?_
 have J1:∀(Z:Bool) (i1:NN),p1=Z→K6 ⟨[(8,rB Z)],[],(i1 0),61⟩:=by
  intro Z i1 e
  have h9:=Y _ e
  exact C6 _<|Zj<|yB h9 R
 refine AL.split (((B=0)&&(V=(q.Flow.length:Int)))==true) (λj=>?_) λj=>?_
 ·have A:=Ba j F
  refine AL.weak (by exact RS (e':=[(1,qi C),(3,qb w),(9,qb q.Flow),(36,qi C),(37,.rop (A3.row l) 0),(38,.agg<|Ds l),(39,rI B),(40,rB<|(decide<|B=0)),(41,rB<|(decide<|B=0)),(50,rB<|((B=0)&&(V=(q.Flow.length:Int)))),(51,rB<|((B=0)&&(V=(q.Flow.length:Int)))),(52,qb q.Flow),(53,qi C),(54,.rop (A3.row l) 0),(55,.rop (A3.row l) 12),(56,qd l.Steps)]) j ⟨.inl R,.inl R,.inl R,.inl R,.inl R,.inl R,.inl R,.inl R,.inl R,.inl R,.inl R,.inr iL,.inr iL,.inr iL,.inr iL,.inr iL,Za⟩) ?_
  exact Zc A λr4 a0 a1=>Hz (.one R R R) j R R (ZJ (r:=qb r4) (caps:=[]) (bs:=[qb q.Flow,qd l.Steps]) R (.inl R) R ⟨.inl ⟨(.inl R),R⟩,.inl ⟨(.inl R),R⟩,Za⟩ λ_=>kI<|a0)<|Hz (.one R R R) j R R (AP.spec (Ze R<|.inl R) _)<|Zc a1 λr5 a2 a6=>Hz (.one R R R) j R R (Du (r:=rB r5) (caps:=[]) (bs:=[qb r4,qb w]) R (.inl R) R ⟨⟨_,(.inl R),.d R⟩,⟨_,(.inl R),.d R⟩,Za⟩ (λ_=>Wx<|a2) R)<|sQ R (ZG R iL iL)<|mA R<|Zh<|E _ _ wk<|J1 _ (AG [(n0+1)]) (Zb a6).symm
 ·have A:=Be j F
  exact Fv (.one R R R) j R R<|Fv (.one R R R) j R R<|Fv (.one R R R) j R R<|xN R<|mA R<|Zh<|E _ _ wk<|J1 _ (AG [(n0+1)]) (Zb A).symm
theorem um{d1 q b c r}(h:M3 d1 q b c=some r):AM prog 3 [.agg [qg d1.Nodes],.agg<|Aw q,rS b,rS c] (rB r):=by
 unfold M3 at h
 refine mF func3 ntmps3 R λu=>aU<|sS R (Zv (cs:=[qg d1.Nodes]) 4 R iL R R)<|sS R (Zv (cs:=(Aw q)) 5 R iL R R)<|mA R<|aZ<|aT λc2=>aT λc3=>?_
 refine ZA A8 (by kernel_rfl) ?_
 refine Zc h λr1 ar h1=>EQ R R R (r:=rB r1) (caps:=[]) (bs:=[]) R iL R Za (λ_=>mu<|ar) R<|qP R (Zu R iL)<|qP R (Ze R iL)<|qO R (ZQ R Dk iL R R)<|qO R (ZQ R Df iL R R)<|Zc h1 λr2 av h2=>G0 (.one R R R) R R (r:=rI r2) (caps:=[]) (bs:=[.agg [qg d1.Nodes],.agg<|Aw q]) R iL R ⟨⟨_,(iR R),.g (cs:=[.sl<|d1.Nodes.map Ae.row]) R R⟩,⟨_,(iR R),.g (cs:=[.int .i64 q.Node,.int .i64 q.From,.int .i64 q.To]) R R⟩,Za⟩ (λhg=>sj<|AN av hg) R<|qO R (ZQ R Dk iL R R)<|qO R (ZQ R Df iL R R)<|Zc h2 λr3 aw h3=>G0 (.one R R R) R R (r:=rI r3) (caps:=[]) (bs:=[.agg [qg d1.Nodes],.agg<|Aw q]) R iL R ⟨⟨_,(iR R),.g (cs:=[.sl<|d1.Nodes.map Ae.row]) R R⟩,⟨_,(iR R),.g (cs:=[.int .i64 q.Node,.int .i64 q.From,.int .i64 q.To]) R R⟩,Za⟩ (λhg=>hP<|AN aw hg) R<|qO R (CP R (iR R)<|iR R)<|qP R (B1 R iL<|iR R)<|AQ.nil<|c3 _<|cI R h3 (λh4=>?_) λh4=>?_
 ·exact zB h4 R id
 refine Zd<|c2 _<|aT λc5=>aG [2,3,4,5] [4,5] ?_
 refine aR<|xC Dk R<|xC Df R<|mM R<|mM R<|IA h4 λC l w ax h5=>sS R (ZJ (r:=.tup [qi C,.agg<|Aw l,rI w]) (caps:=[]) (bs:=[.agg [qg d1.Nodes],.agg<|Aw q,rS b,rS c]) R iL R ⟨.inl ⟨iL,R⟩,.inl ⟨iL,R⟩,.inl ⟨iL,R⟩,.inl ⟨iL,R⟩,Za⟩ λ_=>iA<|ax)<|mM R<|xX R<|xX R<|xX R<|sS R (Zq (cs:=[rI 0,rI 0,rI 0]) 10 R Pe R R)<|mA R<|Zk R R (Zi (ds:=(Aw l)) R Hd iL R iL R R R R)<|mA R<|aZ<|c5 _<|aS λK6 c6 a6=>aT λc7=>aG [2,3,4,5,9,10,11] [4,5,10] ?_
 refine aR<|mM R<|sQ R (ZI R iL iL)<|aZ<|c7 _<|A5 h5 λp1 a7 ay az=>?_
 have J1:∀(u1:Unit) (i1:NN),p1=.nrm u1→K6 ⟨[(2,rS b),(3,rS c),(4,.ptr 4 u 0 0),(5,.ptr 5 (u+1) 0 0),(9,qi C),(10,.ptr 10 (u+2) 0 0),(11,rI w)],[(4,some<|.box u 24 [qg d1.Nodes]),(5,some<|.box (u+1) 26<|Aw q),(10,some<|.box (u+2) 26<|Aw l)],(i1 0),169⟩:=by
  intro u1 i1 e
  have h6:=ay _ e
  refine c6 _<|aU<|xC Dk R<|xC Df R<|mM R<|Zc h6 λf1 b0 h7=>cL (pA<|b0) R<|mA R<|aZ<|aS λK9 c9 a8=>aU<|mM R<|xQ R<|mM R<|vM R<|vQ R (ZO R underlying9<|iR R)<|vQ R (Zy R (iR R) iL)<|xN R<|aZ<|Ar h7 λp2 aa b1=>?_
  have J2:∀(f2:Int) (i2:NN),p2=f2→K9 ⟨[(2,rS b),(3,rS c),(4,.ptr 4 u 0 0),(5,.ptr 5 (u+1) 0 0),(9,qi C),(10,.ptr 10 (u+2) 0 0),(11,rI w),(15,rI f2)],[(4,some<|.box u 24 [qg d1.Nodes]),(5,some<|.box (u+1) 26<|Aw q),(10,some<|.box (u+2) 26<|Aw l)],(i2 0),169⟩:=by
   intro f2 i2 e
   have h8:=b1 _ e
   refine c9 _<|aU<|mA R<|aZ<|aS λb2 b3 J=>aU<|mM R<|xQ R<|aZ<|Lb h8 λp3 ab b4=>?_
   have J3:∀(f3:Int) (l1:List AC) (i3:NN),p3=(f3,l1)→b2 ⟨[(3,rS c),(4,.ptr 4 u 0 0),(5,.ptr 5 (u+1) 0 0),(9,qi C),(10,.ptr 10 (u+2) 0 0),(11,rI w),(15,rI f3),(16,.own 80<|i3 0)],[(4,some<|.box u 24 [qg d1.Nodes]),(5,some<|.box (u+1) 26<|Aw q),(10,some<|.box (u+2) 26<|Aw l),(80,some<|.arr (i3 0) 51 3<|l1.map AC.row)],(i3 1),169⟩:=by
    intro f3 l1 i3 e
    have h9:=b4 _ _ e
    refine b3 _<|aT λb5=>aU<|mM R<|xU R<|aZ<|cI R h9 (λO=>?_) λO=>?_
    ·refine aT λb6=>aR<|mM R<|mM R<|xQ R<|mM R<|vM R<|vQ R (Bd R Fu.slice<|iR R)<|vQ R (Zs R (iR R) iL)<|xN R<|mM R<|vQ R (ZQ R Df iL R R) ?_
     refine vQ R (ZD R JP (q:=[]) (by exact Za) (cs:=[rI 0,rI 0,rI 0])<|by rfl) ?_
     exact vQ R (Wl R V4 (iR R) (iR R) R)<|xN R<|mA R<|aZ<|b6 _<|Zj<|yB O R
    refine Zd<|b5 _<|aT λb7=>Zc O λr7 b8 b9=>Zc b9 λB ba bb=>?_
    refine Ip 9 [pO 98<|.ptr 4 u 0 0,pO 99<|qg d1.Nodes,pO 100<|.agg [qg d1.Nodes],pO 101<|.ptr 5 (u+1) 0 0,pO 102<|rI q.Node,pO 103<|rI r7,pO 104<|.rop (Ae.row B) 0,pO 105<|.agg<|BR B,⟨some 17,(λA=>.ptr 17 (A 8) 0 0),some (17,(λA=>some<|.box (A 8) 46 LD)),[8]⟩] A8 (by kernel_rfl) (by exact⟨λ_ _ h=>⟨R,λ_ _ e=>by cases e⟩,λ_ _ h=>⟨R,λ_ _ e=>by cases e⟩,λ_ _ h=>⟨R,λ_ _ e=>by cases e⟩,λ_ _ h=>⟨R,λ_ _ e=>by cases e⟩,λ_ _ h=>⟨R,λ_ _ e=>by cases e⟩,λ_ _ h=>⟨R,λ_ _ e=>by cases e⟩,λ_ _ h=>⟨R,λ_ _ e=>by cases e⟩,λ_ _ h=>⟨R,λ_ _ e=>by cases e⟩,λ_ _ h=>⟨by simp only[h 8 R],λ_ _ e=>by cases e;simp only[h 8 R]⟩,Za⟩) R (by exact⟨oB [(4,.ptr 4 u 0 0)] [(4,some<|.box u 24 [qg d1.Nodes])]<|fB R Da (.inl R) (λ_=>R) R,oB [(98,.ptr 4 u 0 0)] [(4,some<|.box u 24 [qg d1.Nodes])]<|Zg (a:=qg d1.Nodes) R DY (.inl R) R R,oB [(4,.ptr 4 u 0 0)] [(4,some<|.box u 24 [qg d1.Nodes])]<|ZQ R Dk (.inl R) R R,oB [(5,.ptr 5 (u+1) 0 0)] [(5,some<|.box (u+1) 26<|Aw q)]<|fB R KJ (.inl R) (λ_=>R) R,oB [(101,.ptr 5 (u+1) 0 0)] [(5,some<|.box (u+1) 26<|Aw q)]<|Zg (a:=rI q.Node) R AI (.inl R) R R,oD (λ_=>[(100,.agg [qg d1.Nodes]),(102,rI q.Node)]) (λ_=>[]) λA e h' n=>Du (r:=rI r7) (caps:=[]) (bs:=[.agg [qg d1.Nodes],rI q.Node]) R (.inl R) R ⟨⟨_,(.inl R),.g (cs:=[.sl<|d1.Nodes.map Ae.row]) R R⟩,⟨_,(.inl R),.d R⟩,Za⟩ (λ_=>Sv<|b8) R,oB [(99,qg d1.Nodes),(103,rI r7)] []<|Zr R Co.slice (.inl R) (.inl R) (λ_=>R) λ_=>ba,oB [(104,.rop (Ae.row B) 0)] []<|ZN (cs:=(BR B)) R FI (.inl R) R R,oM (λ_=>[]) (λ_=>[]) R λA e h' n=>Zq (cs:=LD) 17 R Ur R R,Za⟩) λA n1=>?_
    refine Ay [3,4,5,9,10,11,15,16,17,83,84,98,99,100,101,102,103,104,105] [4,5,10,17,80] ?_
    refine Zk R R (Zi (ds:=(BR B)) R Vj iL R iL R R R R)<|aZ<|b7 _<|aT λbc=>aG [3,4,5,9,10,11,16,17] [4,5,10,17,80] ?_
    refine aR<|lF EW Br R R<|Zc bb λv1 bd be=>sS R (ZJ (r:=qb v1) (caps:=[]) (bs:=[qb B.Flow]) R iL R ⟨.inl ⟨iL,R⟩,Za⟩ λ_=>ry<|bd)<|mA R<|aZ<|bc _<|aS λbf bg ac=>aU<|mM R<|sQ R (Kx R Ab.slice iL R)<|mM R<|aZ<|Zf<|Ar be λo1 ad bh=>?_
    have J4:∀(E:List AC) (i8:NN),o1=E→bf ⟨[(3,rS c),(4,.ptr 4 u 0 0),(5,.ptr 5 (u+1) 0 0),(9,qi C),(10,.ptr 10 (u+2) 0 0),(11,rI w),(16,.own 80<|i8 0),(17,.ptr 17 (A 8) 0 0)],[(4,some<|.box u 24 [qg d1.Nodes]),(5,some<|.box (u+1) 26<|Aw q),(10,some<|.box (u+2) 26<|Aw l),(17,some<|.box (A 8) 46<|BR B),(80,some<|.arr (i8 0) 51 3<|E.map AC.row)],(i8 1),169⟩:=by
     intro E i8 e
     have bi:=bh _ e
     refine bg _<|aU<|lF Gi AI R R<|mM R<|sQ R (Kx R Ab.slice iL R)<|Zc bi λj ae bj=>xA R ae<|mA R<|aZ<|aT λbk=>?_
     refine AW.weak (by exact Ag.frz (e':=[(3,rS c),(4,.ptr 4 u 0 0),(5,.ptr 5 (u+1) 0 0),(9,qi C),(10,.ptr 10 (u+2) 0 0),(11,rI w),(16,qb E),(17,.ptr 17 (A 8) 0 0),(20,rI j),(137,.ptr 5 (u+1) 0 1),(138,rI q.From),(139,qb E),(140,rL E),(141,rI j)]) (h':=[(4,some<|.box u 24 [qg d1.Nodes]),(5,some<|.box (u+1) 26<|Aw q),(10,some<|.box (u+2) 26<|Aw l),(17,some<|.box (A 8) 46<|BR B)]) 80 R ⟨jL,jL,jL,jL,jL,jL,.inl<|.inr<|.inr ⟨R,R⟩,jL,jL,jL,jL,.inl<|.inr<|.inr ⟨R,R⟩,jL,jL,Za⟩ ⟨R,.inl R,R,.inl R,R,.inl R,R,.inl R,Za⟩) ?_
     refine Zc bj λr8 bl bm=>?_
     refine rP 25 [pO 142<|rI w,pO 143<|rB<|(decide<|w=0),pO 144<|rB<|(decide<|w=0),pO 145<|.whn ((decide<|w=0)==true)<|.agg<|Aw l,pO 146<|.whn ((decide<|w=0)==true)<|.ptr 5 (u+1) 0 0,pO 147<|.whn ((decide<|w=0)==true)<|rI q.Node,pO 148<|.whn ((decide<|w=0)==true)<|rI j,pO 149<|.whn ((decide<|w=0)==true)<|rI j,pO 150<|.whn ((decide<|w=0)==true)<|.agg [rI q.Node,rI j,rI j],pO 151<|.whn ((decide<|w=0)==true)<|rB<|((l.Node=q.Node)&&((l.From=j)&&((l.To=j)&&true))),pO 152<|rB<|((w=0)&&((l.Node=q.Node)&&((l.From=j)&&((l.To=j)&&true)))),pO 153<|rB<|((w=0)&&((l.Node=q.Node)&&((l.From=j)&&((l.To=j)&&true)))),pO 154<|.whn (((w=0)&&((l.Node=q.Node)&&((l.From=j)&&((l.To=j)&&true))))==true)<|.agg [qg d1.Nodes],pO 155<|.whn (((w=0)&&((l.Node=q.Node)&&((l.From=j)&&((l.To=j)&&true))))==true)<|qi C,pO 156<|.whn (((w=0)&&((l.Node=q.Node)&&((l.From=j)&&((l.To=j)&&true))))==true)<|.ptr 5 (u+1) 0 0,pO 157<|.whn (((w=0)&&((l.Node=q.Node)&&((l.From=j)&&((l.To=j)&&true))))==true)<|rI q.Node,pO 158<|.whn (((w=0)&&((l.Node=q.Node)&&((l.From=j)&&((l.To=j)&&true))))==true)<|.ptr 17 (A 8) 0 3,pO 159<|.whn (((w=0)&&((l.Node=q.Node)&&((l.From=j)&&((l.To=j)&&true))))==true)<|qb B.Flow,pO 160<|.whn (((w=0)&&((l.Node=q.Node)&&((l.From=j)&&((l.To=j)&&true))))==true)<|.ptr 5 (u+1) 0 1,pO 161<|.whn (((w=0)&&((l.Node=q.Node)&&((l.From=j)&&((l.To=j)&&true))))==true)<|rI q.From,pO 162<|.whn (((w=0)&&((l.Node=q.Node)&&((l.From=j)&&((l.To=j)&&true))))==true)<|.ptr 5 (u+1) 0 2,pO 163<|.whn (((w=0)&&((l.Node=q.Node)&&((l.From=j)&&((l.To=j)&&true))))==true)<|rI q.To,pO 164<|.whn (((w=0)&&((l.Node=q.Node)&&((l.From=j)&&((l.To=j)&&true))))==true)<|qb E,pO 165<|.whn (((w=0)&&((l.Node=q.Node)&&((l.From=j)&&((l.To=j)&&true))))==true)<|rS c,pO 166<|.whn (((w=0)&&((l.Node=q.Node)&&((l.From=j)&&((l.To=j)&&true))))==true)<|qb r8] A8 R (by exact⟨oB [(11,rI w)] []<|Ze R<|.inl R,oB [(142,rI w)] []<|Zs R (.inl R)<|.inl R,oB [(143,rB<|(decide<|w=0))] []<|Ze R<|.inl R,oG [(10,.ptr 10 (u+2) 0 0),(144,rB<|(decide<|w=0))] [(10,some<|.box (u+2) 26<|Aw l)] (λ_ _=>R)<|ZQ R Df (.inl R) R R,oG [(5,.ptr 5 (u+1) 0 0),(144,rB<|(decide<|w=0))] [(5,some<|.box (u+1) 26<|Aw q)] (λ_ _=>R)<|fB R KJ (.inl R) (λ_=>R) R,oG [(144,rB<|(decide<|w=0)),(146,.whn ((decide<|w=0)==true)<|.ptr 5 (u+1) 0 0)] [(5,some<|.box (u+1) 26<|Aw q)] (λ_ _=>R)<|Zg (a:=rI q.Node) R AI (.inr ⟨_,(by exact id),R⟩) R R,oG [(20,rI j),(144,rB<|(decide<|w=0))] [] (λ_ _=>R)<|Ze R<|.inl R,oG [(20,rI j),(144,rB<|(decide<|w=0))] [] (λ_ _=>R)<|Ze R<|.inl R,oG [(144,rB<|(decide<|w=0)),(147,.whn ((decide<|w=0)==true)<|rI q.Node),(148,.whn ((decide<|w=0)==true)<|rI j),(149,.whn ((decide<|w=0)==true)<|rI j)] [] (λ_ _=>R)<|ZD R JP (q:=[(0,_),(1,_),(2,_)]) (by exact⟨R,R,R,(.inr ⟨_,(by exact id),R⟩),R,R,R,(.inr ⟨_,(by exact id),R⟩),R,R,R,(.inr ⟨_,(by exact id),R⟩),Za⟩) (cs:=[rI q.Node,rI j,rI j])<|by rfl,oG [(144,rB<|(decide<|w=0)),(145,.whn ((decide<|w=0)==true)<|.agg<|Aw l),(150,.whn ((decide<|w=0)==true)<|.agg [rI q.Node,rI j,rI j])] [] (λ_ _=>R)<|Wl R V4 (.inr ⟨_,(by exact id),R⟩) (.inr ⟨_,(by exact id),R⟩) R,oB [(144,rB<|(decide<|w=0)),(151,.whn ((decide<|w=0)==true)<|rB<|((l.Node=q.Node)&&((l.From=j)&&((l.To=j)&&true))))] []<|ZG R (.inl R)<|.inr ⟨_,(by exact id),R⟩,oB [(152,rB<|((w=0)&&((l.Node=q.Node)&&((l.From=j)&&((l.To=j)&&true)))))] []<|Ze R<|.inl R,oG [(4,.ptr 4 u 0 0),(153,rB<|((w=0)&&((l.Node=q.Node)&&((l.From=j)&&((l.To=j)&&true)))))] [(4,some<|.box u 24 [qg d1.Nodes])] (λ_ _=>R)<|ZQ R Dk (.inl R) R R,oG [(9,qi C),(153,rB<|((w=0)&&((l.Node=q.Node)&&((l.From=j)&&((l.To=j)&&true)))))] [] (λ_ _=>R)<|Ze R<|.inl R,oG [(5,.ptr 5 (u+1) 0 0),(153,rB<|((w=0)&&((l.Node=q.Node)&&((l.From=j)&&((l.To=j)&&true)))))] [(5,some<|.box (u+1) 26<|Aw q)] (λ_ _=>R)<|fB R KJ (.inl R) (λ_=>R) R,oG [(153,rB<|((w=0)&&((l.Node=q.Node)&&((l.From=j)&&((l.To=j)&&true))))),(156,.whn (((w=0)&&((l.Node=q.Node)&&((l.From=j)&&((l.To=j)&&true))))==true)<|.ptr 5 (u+1) 0 0)] [(5,some<|.box (u+1) 26<|Aw q)] (λ_ _=>R)<|Zg (a:=rI q.Node) R AI (.inr ⟨_,(by exact id),R⟩) R R,oG [(17,.ptr 17 (A 8) 0 0),(153,rB<|((w=0)&&((l.Node=q.Node)&&((l.From=j)&&((l.To=j)&&true)))))] [(17,some<|.box (A 8) 46<|BR B)] (λ_ _=>R)<|fB R EW (.inl R) (λ_=>R) R,oG [(153,rB<|((w=0)&&((l.Node=q.Node)&&((l.From=j)&&((l.To=j)&&true))))),(158,.whn (((w=0)&&((l.Node=q.Node)&&((l.From=j)&&((l.To=j)&&true))))==true)<|.ptr 17 (A 8) 0 3)] [(17,some<|.box (A 8) 46<|BR B)] (λ_ _=>R)<|Zg (a:=qb B.Flow) R Br (.inr ⟨_,(by exact id),R⟩) R R,oG [(5,.ptr 5 (u+1) 0 0),(153,rB<|((w=0)&&((l.Node=q.Node)&&((l.From=j)&&((l.To=j)&&true)))))] [(5,some<|.box (u+1) 26<|Aw q)] (λ_ _=>R)<|fB R Gi (.inl R) (λ_=>R) R,oG [(153,rB<|((w=0)&&((l.Node=q.Node)&&((l.From=j)&&((l.To=j)&&true))))),(160,.whn (((w=0)&&((l.Node=q.Node)&&((l.From=j)&&((l.To=j)&&true))))==true)<|.ptr 5 (u+1) 0 1)] [(5,some<|.box (u+1) 26<|Aw q)] (λ_ _=>R)<|Zg (a:=rI q.From) R AI (.inr ⟨_,(by exact id),R⟩) R R,oG [(5,.ptr 5 (u+1) 0 0),(153,rB<|((w=0)&&((l.Node=q.Node)&&((l.From=j)&&((l.To=j)&&true)))))] [(5,some<|.box (u+1) 26<|Aw q)] (λ_ _=>R)<|fB R Jb (.inl R) (λ_=>R) R,oG [(153,rB<|((w=0)&&((l.Node=q.Node)&&((l.From=j)&&((l.To=j)&&true))))),(162,.whn (((w=0)&&((l.Node=q.Node)&&((l.From=j)&&((l.To=j)&&true))))==true)<|.ptr 5 (u+1) 0 2)] [(5,some<|.box (u+1) 26<|Aw q)] (λ_ _=>R)<|Zg (a:=rI q.To) R AI (.inr ⟨_,(by exact id),R⟩) R R,oG [(16,qb E),(153,rB<|((w=0)&&((l.Node=q.Node)&&((l.From=j)&&((l.To=j)&&true)))))] [] (λ_ _=>R)<|Ze R<|.inl R,oG [(3,rS c),(153,rB<|((w=0)&&((l.Node=q.Node)&&((l.From=j)&&((l.To=j)&&true)))))] [] (λ_ _=>R)<|Ze R<|.inl R,oH (λ_=>[(153,rB<|((w=0)&&((l.Node=q.Node)&&((l.From=j)&&((l.To=j)&&true))))),(159,.whn (((w=0)&&((l.Node=q.Node)&&((l.From=j)&&((l.To=j)&&true))))==true)<|qb B.Flow),(161,.whn (((w=0)&&((l.Node=q.Node)&&((l.From=j)&&((l.To=j)&&true))))==true)<|rI q.From),(163,.whn (((w=0)&&((l.Node=q.Node)&&((l.From=j)&&((l.To=j)&&true))))==true)<|rI q.To),(164,.whn (((w=0)&&((l.Node=q.Node)&&((l.From=j)&&((l.To=j)&&true))))==true)<|qb E),(165,.whn (((w=0)&&((l.Node=q.Node)&&((l.From=j)&&((l.To=j)&&true))))==true)<|rS c)]) (λ_=>[]) (λ_ _=>R) λG2 e h' n=>ZJ (r:=qb r8) (caps:=[]) (bs:=[qb B.Flow,rI q.From,rI q.To,qb E,rS c]) R (.inl R) R ⟨.inl ⟨(.inr ⟨_,(by exact id),R⟩),R⟩,.inl ⟨(.inr ⟨_,(by exact id),R⟩),R⟩,.inl ⟨(.inr ⟨_,(by exact id),R⟩),R⟩,.inl ⟨(.inr ⟨_,(by exact id),R⟩),R⟩,.inl ⟨(.inr ⟨_,(by exact id),R⟩),R⟩,Za⟩ λhg=>p9<|AN bl hg,Za⟩) λG2 n2=>?_
     refine Ay [3,4,5,9,10,11,16,17,20,137,138,139,140,141,142,143,144,145,146,147,148,149,150,151,152,153,154,155,156,157,158,159,160,161,162,163,164,165,166] [4,5,10,17] ?_
     exact Zc bm λr9 bn bo=>vL (λhg=>pn<|AN bn hg) R<|xN R<|mA R<|aZ<|bk _<|Zj<|yB bo R
    refine ZL (λ(x3:Int) (l3:List AC) F=>⟨[(3,rS c),(4,.ptr 4 u 0 0),(5,.ptr 5 (u+1) 0 0),(9,qi C),(10,.ptr 10 (u+2) 0 0),(11,rI w),(16,.own 80<|F 0),(17,.ptr 17 (A 8) 0 0),(18,qb v1),(110,rL l1),(111,rI x3)],[(4,some<|.box u 24 [qg d1.Nodes]),(5,some<|.box (u+1) 26<|Aw q),(10,some<|.box (u+2) 26<|Aw l),(17,some<|.box (A 8) 46<|BR B),(80,some<|.arr (F 0) 51 3<|l3.map AC.row)],(F 1),169⟩) (AG [(i3 0),n1]) ad wk ?_
    intro x3 l3 F v2 bp bq
    have af:KU q l1 v1 x3 l3=some v2:=bp;unfold KU at af
    refine aU<|xS R<|aZ<|aT λbr=>cI R af (λT=>?_) λT=>?_
    ·refine Zd<|br _<|aS λbs bt M=>Zf<|Ar T λp4 bu bv=>?_
     have J5:∀(l6:List AC) (i9:NN),p4=l6→bs ⟨[(3,rS c),(4,.ptr 4 u 0 0),(5,.ptr 5 (u+1) 0 0),(9,qi C),(10,.ptr 10 (u+2) 0 0),(11,rI w),(16,.own 80<|i9 0),(17,.ptr 17 (A 8) 0 0),(18,qb v1),(110,rL l1),(111,rI x3)],[(4,some<|.box u 24 [qg d1.Nodes]),(5,some<|.box (u+1) 26<|Aw q),(10,some<|.box (u+2) 26<|Aw l),(17,some<|.box (A 8) 46<|BR B),(80,some<|.arr (i9 0) 51 3<|l6.map AC.row)],(i9 1),169⟩:=by
      intro l6 i9 e
      have bw:=bv _ e
      exact bt _<|aR<|Zc bw λx5 bx bz=>xA R bx<|mM R<|Zh<|ZH bz (AG [(i9 0),(i9 1)]) wk
     refine aU<|mM R<|mA R<|aZ<|aU<|mM R<|mM R<|mM R<|lF Gi AI R R<|Zc bu λag ah c0=>sS R (ZJ (r:=qa ag) (caps:=[]) (bs:=[qb v1,rI q.From]) R iL R ⟨.inl ⟨iL,R⟩,.inl ⟨iL,R⟩,Za⟩ λ_=>kZ<|ah)<|Zc c0 λx6 ai c1=>sQ R (EJ R Ab.slice iL R iL λ_=>ai)<|sQ R (FG (ob:=.arr _ _ _ _) R B9 iL fR R)<|Zk R R (Kq (v:=(AC.mk x6.Char x6.Ref ag)) R Fj iL R ai iL R R R R)<|aZ<|aT λc4=>aG [3,4,5,9,10,11,16,17,18,19,110,111] [4,5,10,17,80] ?_
     refine aR<|mM R<|mM R<|Zc c1 λx7 I c8=>sQ R (EJ R Ab.slice iL R iL λ_=>I)<|sQ R (FG (ob:=.arr _ _ _ _) R De iL fR R)<|sQ R (I3 (d:=.int .i64 x7.Char) R AI iL fR (λ_=>I) R)<|xQ R<|aZ<|c4 _<|cI R c8 (λU=>?_) λU=>?_
     ·exact aR<|mM R<|mM R<|mM R<|lF Jb AI R R<|Zc U λaj ak ca=>sS R (ZJ (r:=qa aj) (caps:=[]) (bs:=[qb v1,rI q.To]) R iL R ⟨.inl ⟨iL,R⟩,.inl ⟨iL,R⟩,Za⟩ λ_=>lW<|ak)<|sQ R (EJ R Ab.slice iL R iL λ_=>I)<|sQ R (FG (ob:=.arr _ _ _ _) R B9 iL fR R)<|Zk R R (Kq (v:=(AC.mk x7.Char x7.Ref aj)) R Fj iL R I iL R R R R)<|Zh<|M _ _ wk<|J5 _ (AG [(F 0),(F 1)]) (Zb ca).symm
     exact Zd<|M _ _ wk<|J5 _ (AG [(F 0),(F 1)]) (Zb U).symm
    exact Zn<|ac _ _ wk<|J4 _ (AG [(F 0),(F 1)])<|xH bq T
   refine aC R (λV=>?_) λV=>?_
   ·have X:=Ba V ab
    refine aR<|mM R<|Ch X λck w1 al cb=>?_
    refine Zo [80] (hc:=[]) (bs:=[rS b,.r<|.sl []]) (caps:=[]) R R R R iL R ⟨.inl ⟨iL,R⟩,.inr ⟨iL,R⟩,Za⟩ Za (by decide) (ru al) ?_
    intro cc n3
    refine Ay [2,3,4,5,9,10,11,15,16,76,77,79,80] [4,5,10,80] ?_
    exact mM R<|xX R<|xX R<|mA R<|mA R<|Zh<|J _ _ wk<|J3 _ _ (AG [(cc 0),n3]) (Zb cb).symm
   ·have X:=Be V ab
    refine Zd ?_
    exact J _ _ (Zm (Zm (ZR 16 80 51 3 (by decide) R)<|by exact ZC (e':=[(2,rS b),(3,rS c),(4,.ptr 4 u 0 0),(5,.ptr 5 (u+1) 0 0),(9,qi C),(10,.ptr 10 (u+2) 0 0),(11,rI w),(15,rI f2),(16,.own 80<|i2 0),(76,rI f2),(77,rB<|(decide<|f2=0))]) (h':=[(4,some<|.box u 24 [qg d1.Nodes]),(5,some<|.box (u+1) 26<|Aw q),(10,some<|.box (u+2) 26<|Aw l),(80,some<|.arr (i2 0) 51 3<|([]:List AC).map AC.row)]) ⟨jL,jL,jL,jL,jL,jL,jL,jL,jL,jL,jL,Za⟩ ⟨.inl R,.inl R,.inl R,.inl R,Za⟩ nL) wk)<|J3 _ _ (AG [(i2 0),((i2 0)+1)]) (Zb X).symm
  refine aC R (λY=>?_) λY=>?_
  ·have Z:=Ba Y aa
   refine aG [2,3,4,5,9,10,11] [4,5,10] ?_
   exact aR<|mA R<|Zh<|a8 _ _ wk<|J2 _ (AG [(i1 0)]) (Zb Z).symm
  ·have Z:=Be Y aa
   exact Zd<|a8 _ _ wk<|J2 _ (AG [(i1 0)]) (Zb Z).symm
 refine aC R (λa0=>?_) λa0=>?_
 ·have a1:=Ba a0 a7
  refine aU<|xC Dk R<|xC Df R<|mM R<|IA a1 λcd an cf ao cg=>sS R (ZJ (r:=.tup [qi cd,.agg<|Aw an,rI cf]) (caps:=[]) (bs:=[.agg [qg d1.Nodes],.agg<|Aw q,rS c]) R iL R ⟨.inl ⟨iL,R⟩,.inl ⟨iL,R⟩,.inl ⟨iL,R⟩,Za⟩ λ_=>lc<|ao)<|mM R<|xX R<|xX R<|xX R<|sS R (Zq (cs:=[rI 0,rI 0,rI 0]) 13 R Pe R R)<|mA R<|Zk R R (Zi (ds:=(Aw an)) R Hd iL R iL R R R R)<|mA R<|aZ<|aT λch=>aG [2,3,4,5,9,10,11,12,13,14] [4,5,10,13] ?_
  refine aR<|mM R<|mM R<|xU R<|mM R<|vQ R (ZQ R Df iL R R)<|vQ R (ZQ R Df iL R R)<|vQ R (Jo R V4 (iR R) (iR R) R)<|xO R<|mM R<|vM R<|vM R<|Zc cg λcl aq cj=>vL (λhg=>ms<|AN aq hg) R<|vQ R (Zu R<|iR R)<|xO R<|aZ<|ch _<|cI R cj (λa2=>?_) λa2=>?_
  ·exact zB (az _ (Zb a2).symm) R id
  exact Zd<|a6 _ _ wk<|J1 _ (AG [(u+4)]) (Zb a2).symm
 ·have a1:=Be a0 a7
  exact Zd<|a6 _ _ wk<|J1 _ (AG [(u+3)]) (Zb a1).symm


end Go.Proofs.YtdafahjmopdleaaGreatDoor.Al
