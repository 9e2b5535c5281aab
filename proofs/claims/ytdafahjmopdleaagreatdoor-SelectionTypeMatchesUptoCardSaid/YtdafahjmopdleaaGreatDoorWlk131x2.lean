/- Walks, as printed. -/
import Derived.Test.YtdafahjmopdleaaGreatDoorWlk131
import Derived.Test.YtdafahjmopdleaaGreatDoorProg
set_option linter.all false
set_option maxHeartbeats 4000000
set_option maxRecDepth 20000
set_option linter.unusedVariables false
namespace Go.Proofs.YtdafahjmopdleaaGreatDoor.Al
open Go.Proofs Go.Proofs.Tryz
set_option linter.defProp false
theorem nw{q u r}(h:M8 q u=some r):AO prog 107 [qd q,qd u] (.tup [qd r.1,qd r.2.1,rI r.2.2]):=by
 unfold M8 at h
 refine mF func107 ntmps107 R λj=>aU<|mA R<|mA R<|mA R<|aZ<|aT λc2=>aU<|mM R<|AG h λe1 b8 h1=>cL (Ri<|b8) R<|mA R<|aZ<|aU<|mM R<|xU R<|aZ<|cI R h1 (λh2=>?_) λh2=>?_
 ·refine aT λc5=>aF [7] ?_
  exact aR<|mM R<|mA R<|mA R<|mA R<|aZ<|c5 _<|Zj<|IG (P:=prog) (λ(r:(List AI) × (List AI) × Int)=>qd r.1) (λ(r:(List AI) × (List AI) × Int)=>qd r.2.1) (λ(r:(List AI) × (List AI) × Int)=>rI r.2.2) h2 iL (.t<|.one<|.nil) (.t<|.one<|.nil)<|.t<|.d R
 refine Zd<|c2 _<|aT λc6=>aU<|mM R<|AG h2 λe2 b9 h3=>cL (Ri<|b9) R<|mA R<|aZ<|aT λc8=>aF [0,1,8] ?_
 refine aR<|mM R<|xU R<|aZ<|c8 _<|cI R h3 (λh4=>?_) λh4=>?_
 ·exact aU<|mM R<|mA R<|mA R<|mA R<|aZ<|Zj<|IG (P:=prog) (λ(r:(List AI) × (List AI) × Int)=>qd r.1) (λ(r:(List AI) × (List AI) × Int)=>qd r.2.1) (λ(r:(List AI) × (List AI) × Int)=>rI r.2.2) h4 iL (.t<|.one<|.nil) (.t<|.one<|.nil)<|.t<|.d R
 refine Zd<|c6 _<|aU<|mM R<|DQ h4 λr1 r2 ba h5=>cL (Sa<|ba) R<|mM R<|xX R<|xX R<|mA R<|mA R<|aZ<|aT λbb=>aT λbc=>aF [0,1,9] ?_
 refine aR<|mM R<|DQ h5 λr3 r4 bd h6=>cL (Sa<|bd) R<|mM R<|xX R<|xX R<|mA R<|mA R<|aZ<|bc _<|aU<|mM R<|mM R<|xU R<|aZ<|cI R h6 (λh7=>?_) λh7=>?_
 ·refine aT λbe=>aF [] ?_
  exact aR<|mA R<|mA R<|mA R<|aZ<|be _<|Zj<|IG (P:=prog) (λ(r:(List AI) × (List AI) × Int)=>qd r.1) (λ(r:(List AI) × (List AI) × Int)=>qd r.2.1) (λ(r:(List AI) × (List AI) × Int)=>rI r.2.2) h7 iL (.t<|.one<|.nil) (.t<|.one<|.nil)<|.t<|.d R
 refine Zd<|bb _<|aT λbf=>aF [0,1] ?_
 refine aR<|sS R (BB (cs:=N6) 13 R UZ R R)<|sS R (BB (cs:=N6) 14 R UZ R R)<|aZ<|bf _<|aT λbg=>aR<|mM R ?_
 refine sQ R (Bg R Tz (q:=[(0,_)]) (by exact⟨R,R,R,iL,Za⟩) (cs:=[qd q,rI 0])<|by rfl) ?_
 refine sS R (Ay (cs:=[qd q,rI 0]) 51 R iL R R)<|mM R ?_
 refine sQ R (Bg R Tz (q:=[(0,_)]) (by exact⟨R,R,R,iL,Za⟩) (cs:=[qd u,rI 0])<|by rfl) ?_
 refine sS R (Ay (cs:=[qd u,rI 0]) 54 R iL R R)<|mA R<|mA R<|aZ<|bg _<|aS λbh bi ac=>Zf<|LN h7 λo1 ad bj=>?_
 have J1:∀(M:Ae) (O:Ae) (w:NN),o1=(M,O)→bh ⟨[(13,.ptr 13 j 0 0),(14,.ptr 14 (j+1) 0 0)],[(13,some<|.box j 193 [.own 3130<|w 0,.own 3131<|w 1,rI M.cut]),(14,some<|.box (j+1) 193 [.own 3140<|w 2,.own 3141<|w 3,rI O.cut]),(3130,some<|.arr (w 0) 100 4<|M.out.map AI.row),(3131,some<|.arr (w 1) 51 3<|M.add.map AD.row),(3140,some<|.arr (w 2) 100 4<|O.out.map AI.row),(3141,some<|.arr (w 3) 51 3<|O.add.map AD.row)],(w 4),158⟩:=by
  intro M O w e
  have h8:=bj _ _ e
  refine bi _<|aT λbk=>aR<|IW h8 λr5 r6 w1 bl h9=>?_
  refine Zo [13,3130,3131] (hc:=[(1000,some<|.box j 193 [.own 1001<|w 0,.own 1002<|w 1,rI M.cut]),(1001,some<|.arr (w 0) 100 4<|M.out.map AI.row),(1002,some<|.arr (w 1) 51 3<|M.add.map AD.row)]) (bs:=[.ptr 1000 j 0 0]) (caps:=[]) R R R R iL R ⟨.inl ⟨iL,R⟩,Za⟩ ⟨R,R,R,R,R,R,R,R,R,Za⟩ (by decide) (Td bl) ?_
  intro i6 n1
  refine A7 [13,14,143] [13,14,3140,3141] ?_
  refine mM R<|xX R<|xX R<|mA R<|mA R<|aZ<|bk _<|aT λbm=>aR<|IW h9 λr7 r8 w2 bn bo=>?_
  refine Zo [14,3140,3141] (hc:=[(1000,some<|.box (j+1) 193 [.own 1001<|w 2,.own 1002<|w 3,rI O.cut]),(1001,some<|.arr (w 2) 100 4<|O.out.map AI.row),(1002,some<|.arr (w 3) 51 3<|O.add.map AD.row)]) (bs:=[.ptr 1000 (j+1) 0 0]) (caps:=[]) R R R R iL R ⟨.inl ⟨iL,R⟩,Za⟩ ⟨R,R,R,R,R,R,R,R,R,Za⟩ (by decide) (Td bn) ?_
  intro i7 n2
  refine A7 [13,14,22,23,142,143,144,145,147] [13,14] ?_
  refine mM R<|xX R<|xX R<|mA R<|mA R<|aZ<|bm _<|aT λbp=>aT λbq=>aF [22,23,24,25] ?_
  refine aR<|mM R<|xU R<|mM R<|vM R<|vQ R (Cf R (iR R) iL)<|xO R<|aZ<|bq _<|cI R bo (λU=>?_) λU=>?_
  ·refine aT λbr=>aF [] ?_
   exact aR<|mA R<|mA R<|mA R<|aZ<|br _<|Zj<|IG (P:=prog) (λ(r:(List AI) × (List AI) × Int)=>qd r.1) (λ(r:(List AI) × (List AI) × Int)=>qd r.2.1) (λ(r:(List AI) × (List AI) × Int)=>rI r.2.2) U iL (.t<|.one<|.nil) (.t<|.one<|.nil)<|.t<|.d R
  exact Zd<|bp _<|aU<|mM R<|mM R<|mA R<|mA R<|mA R<|aZ<|Zj<|IG (P:=prog) (λ(r:(List AI) × (List AI) × Int)=>qd r.1) (λ(r:(List AI) × (List AI) × Int)=>qd r.2.1) (λ(r:(List AI) × (List AI) × Int)=>rI r.2.2) U iL (.t<|.d R) (.t<|.d R)<|.t<|.d R
 refine vJ (λ(C:Ae) (E:Ae) (A:BZ) (B:BZ) l=>⟨[(13,.ptr 13 j 0 0),(14,.ptr 14 (j+1) 0 0),(15,.ptr 51 (j+2) 0 0),(16,.ptr 54 (j+3) 0 0)],[(13,some<|.box j 193 [.own 3130<|l 0,.own 3131<|l 1,rI C.cut]),(14,some<|.box (j+1) 193 [.own 3140<|l 2,.own 3141<|l 3,rI E.cut]),(51,some<|.box (j+2) 196 [qd A.steps,rI A.used]),(54,some<|.box (j+3) 196 [qd B.steps,rI B.used]),(3130,some<|.arr (l 0) 100 4<|C.out.map AI.row),(3131,some<|.arr (l 1) 51 3<|C.add.map AD.row),(3140,some<|.arr (l 2) 100 4<|E.out.map AI.row),(3141,some<|.arr (l 3) 51 3<|E.add.map AD.row)],(l 4),158⟩) (AH [(j+4),(j+5),(j+6),(j+7),(j+8)]) ad (Zm (Zm (FB 13 0 3130 100 4 (by decide) R R<|by decide)<|by exact ZC (e':=[(0,qd q),(1,qd u),(13,.ptr 13 j 0 0),(14,.ptr 14 (j+1) 0 0),(15,.ptr 51 (j+2) 0 0),(16,.ptr 54 (j+3) 0 0),(49,qd q),(50,.agg [qd q,rI 0]),(51,.ptr 51 (j+2) 0 0),(52,qd u),(53,.agg [qd u,rI 0]),(54,.ptr 54 (j+3) 0 0)]) (h':=[(13,some<|.box j 193 [.own 3130<|j+4,cZ,rI 0]),(14,some<|.box (j+1) 193 N6),(51,some<|.box (j+2) 196 [qd q,rI 0]),(54,some<|.box (j+3) 196 [qd u,rI 0]),(3130,some<|.arr (j+4) 100 4<|([]:List AI).map AI.row)]) ⟨jL,jL,jL,jL,jL,jL,jL,jL,jL,jL,jL,jL,Za⟩ ⟨.inl R,.inl R,.inl R,.inl R,.inl R,Za⟩ nL)<|Zm (Zm (FB 13 1 3131 51 3 (by decide) R R<|by decide)<|by exact ZC (e':=[(0,qd q),(1,qd u),(13,.ptr 13 j 0 0),(14,.ptr 14 (j+1) 0 0),(15,.ptr 51 (j+2) 0 0),(16,.ptr 54 (j+3) 0 0),(49,qd q),(50,.agg [qd q,rI 0]),(51,.ptr 51 (j+2) 0 0),(52,qd u),(53,.agg [qd u,rI 0]),(54,.ptr 54 (j+3) 0 0)]) (h':=[(13,some<|.box j 193 [.own 3130<|j+4,.own 3131<|j+5,rI 0]),(14,some<|.box (j+1) 193 N6),(51,some<|.box (j+2) 196 [qd q,rI 0]),(54,some<|.box (j+3) 196 [qd u,rI 0]),(3130,some<|.arr (j+4) 100 4<|([]:List AI).map AI.row),(3131,some<|.arr (j+5) 51 3<|([]:List AD).map AD.row)]) ⟨jL,jL,jL,jL,jL,jL,jL,jL,jL,jL,jL,jL,Za⟩ ⟨.inl R,.inl R,.inl R,.inl R,.inl R,.inl R,Za⟩ nL)<|Zm (Zm (FB 14 0 3140 100 4 (by decide) R R<|by decide)<|by exact ZC (e':=[(0,qd q),(1,qd u),(13,.ptr 13 j 0 0),(14,.ptr 14 (j+1) 0 0),(15,.ptr 51 (j+2) 0 0),(16,.ptr 54 (j+3) 0 0),(49,qd q),(50,.agg [qd q,rI 0]),(51,.ptr 51 (j+2) 0 0),(52,qd u),(53,.agg [qd u,rI 0]),(54,.ptr 54 (j+3) 0 0)]) (h':=[(13,some<|.box j 193 [.own 3130<|j+4,.own 3131<|j+5,rI 0]),(14,some<|.box (j+1) 193 [.own 3140<|j+6,cZ,rI 0]),(51,some<|.box (j+2) 196 [qd q,rI 0]),(54,some<|.box (j+3) 196 [qd u,rI 0]),(3130,some<|.arr (j+4) 100 4<|([]:List AI).map AI.row),(3131,some<|.arr (j+5) 51 3<|([]:List AD).map AD.row),(3140,some<|.arr (j+6) 100 4<|([]:List AI).map AI.row)]) ⟨jL,jL,jL,jL,jL,jL,jL,jL,jL,jL,jL,jL,Za⟩ ⟨.inl R,.inl R,.inl R,.inl R,.inl R,.inl R,.inl R,Za⟩ nL)<|Zm (Zm (FB 14 1 3141 51 3 (by decide) R R<|by decide)<|by exact ZC (e':=[(0,qd q),(1,qd u),(13,.ptr 13 j 0 0),(14,.ptr 14 (j+1) 0 0),(15,.ptr 51 (j+2) 0 0),(16,.ptr 54 (j+3) 0 0),(49,qd q),(50,.agg [qd q,rI 0]),(51,.ptr 51 (j+2) 0 0),(52,qd u),(53,.agg [qd u,rI 0]),(54,.ptr 54 (j+3) 0 0)]) (h':=[(13,some<|.box j 193 [.own 3130<|j+4,.own 3131<|j+5,rI 0]),(14,some<|.box (j+1) 193 [.own 3140<|j+6,.own 3141<|j+7,rI 0]),(51,some<|.box (j+2) 196 [qd q,rI 0]),(54,some<|.box (j+3) 196 [qd u,rI 0]),(3130,some<|.arr (j+4) 100 4<|([]:List AI).map AI.row),(3131,some<|.arr (j+5) 51 3<|([]:List AD).map AD.row),(3140,some<|.arr (j+6) 100 4<|([]:List AI).map AI.row),(3141,some<|.arr (j+7) 51 3<|([]:List AD).map AD.row)]) ⟨jL,jL,jL,jL,jL,jL,jL,jL,jL,jL,jL,jL,Za⟩ ⟨.inl R,.inl R,.inl R,.inl R,.inl R,.inl R,.inl R,.inl R,Za⟩ nL) wk) ?_
 intro C E A B l v1 bs bt
 have ae:M0 C E A B=some v1:=bs;unfold M0 at ae
 refine aT λbu=>aS λbv bw T=>aR<|mM R<|AG ae λr9 af bx=>?_
 refine Zo [51] (hc:=[(1000,some<|.box (j+2) 196 [qd A.steps,rI A.used])]) (bs:=[.ptr 1000 (j+2) 0 0]) (caps:=[]) R R R R iL R ⟨.inl ⟨iL,R⟩,Za⟩ ⟨R,R,R,Za⟩ (by decide) (KH af) ?_
 intro i8 n3
 refine A7 [13,14,15,16,55,56] [13,14,51,54,3130,3131,3140,3141] ?_
 refine sQ R (Cs R iL iL)<|mM R<|vM R<|A3 bx λp4 ag bz=>?_
 have J2:∀(x5:Bool) (i9:NN),p4=x5→bv ⟨[(13,.ptr 13 j 0 0),(14,.ptr 14 (j+1) 0 0),(15,.ptr 51 (j+2) 0 0),(16,.ptr 54 (j+3) 0 0),(62,rB x5)],[(13,some<|.box j 193 [.own 3130<|l 0,.own 3131<|l 1,rI C.cut]),(14,some<|.box (j+1) 193 [.own 3140<|l 2,.own 3141<|l 3,rI E.cut]),(51,some<|.box (j+2) 196 [qd A.steps,rI A.used]),(54,some<|.box (j+3) 196 [qd B.steps,rI B.used]),(3130,some<|.arr (l 0) 100 4<|C.out.map AI.row),(3131,some<|.arr (l 1) 51 3<|C.add.map AD.row),(3140,some<|.arr (l 2) 100 4<|E.out.map AI.row),(3141,some<|.arr (l 3) 51 3<|E.add.map AD.row)],(i9 0),158⟩:=by
  intro x5 i9 e
  have c0:=bz _ e
  refine bw _<|cI R c0 (λV=>?_) λV=>?_
  ·refine Zd<|bu _<|Zf<|aT λc1=>Zf<|aT λc3=>aR<|mM R ?_
   refine Zo [51] (hc:=[(1000,some<|.box (j+2) 196 [qd A.steps,rI A.used])]) (bs:=[.ptr 1000 (j+2) 0 0]) (caps:=[]) R R R R iL R ⟨.inl ⟨iL,R⟩,Za⟩ ⟨R,R,R,Za⟩ (by decide) (KH af) ?_
   intro dg n4
   refine A7 [13,14,15,16,62,64,65] [13,14,51,54,3130,3131,3140,3141] ?_
   refine xQ R<|mA R<|aZ<|c3 _<|cI R V (λX=>?_) λX=>?_
   ·refine aT λc4=>aR<|mM R<|mM R<|AG X λc7 ah c9=>?_
    refine Zo [51] (hc:=[(1000,some<|.box (j+2) 196 [qd A.steps,rI A.used])]) (bs:=[.ptr 1000 (j+2) 0 0]) (caps:=[]) R R R R iL R ⟨.inl ⟨iL,R⟩,Za⟩ ⟨R,R,R,Za⟩ (by decide) (Jr ah) ?_
    intro dh n5
    refine A7 [13,14,15,16,62,63,64,65,66,67,68,69] [13,14,51,54,3130,3131,3140,3141] ?_
    refine DQ c9 λY w3 ai ca=>?_
    refine Zo [51] (hc:=[(1000,some<|.box (j+2) 196 [qd A.steps,rI A.used])]) (bs:=[.ptr 1000 (j+2) 0 0,rI c7]) (caps:=[]) R R R R iL R ⟨.inl ⟨iL,R⟩,.inl ⟨iL,R⟩,Za⟩ ⟨R,R,R,Za⟩ (by decide) (JG ai) ?_
    intro di n6
    refine A7 [13,14,15,16,62,63,64,65,66,67,68,69,70] [13,14,51,54,3130,3131,3140,3141] ?_
    refine sS R (BB (cs:=EH) 17 R FH R R)<|Zk R R (Af (ds:=(Bq Y)) R FT iL R iL R R R R)<|aZ<|c4 _<|aT λcb=>aG [13,14,15,16,17] [13,14,17,51,54,3130,3131,3140,3141] ?_
    refine aR<|lF EK B2 R R<|AG ca λw4 cc cd=>?_
    refine Zo [13,3130,3131] (hc:=[(1000,some<|.box j 193 [.own 1001<|l 0,.own 1002<|l 1,rI C.cut]),(1001,some<|.arr (l 0) 100 4<|C.out.map AI.row),(1002,some<|.arr (l 1) 51 3<|C.add.map AD.row)]) (bs:=[.ptr 1000 j 0 0,qb Y.Elems]) (caps:=[]) R R R R iL R ⟨.inl ⟨iL,R⟩,.inl ⟨iL,R⟩,Za⟩ ⟨R,R,R,R,R,R,R,R,R,Za⟩ (by decide) (RC cc) ?_
    intro aj n7
    refine A7 [13,14,15,16,17,71,72,73] [13,14,17,51,54,3130,3131,3140,3141] ?_
    refine aZ<|cb _<|aT λcf=>aR<|lF EK B2 R R<|xL Ah R<|AG cd λw5 cg ch=>?_
    refine Zo [14,3140,3141] (hc:=[(1000,some<|.box (j+1) 193 [.own 1001<|l 2,.own 1002<|l 3,rI E.cut]),(1001,some<|.arr (l 2) 100 4<|E.out.map AI.row),(1002,some<|.arr (l 3) 51 3<|E.add.map AD.row)]) (bs:=[.ptr 1000 (j+1) 0 0,rL Y.Elems,.r<|.sl []]) (caps:=[]) R R R R iL R ⟨.inl ⟨iL,R⟩,.inl ⟨iL,R⟩,.inr ⟨iL,R⟩,Za⟩ ⟨R,R,R,R,R,R,R,R,R,Za⟩ (by decide) (Mn cg) ?_
    intro ak n8
    refine A7 [13,14,15,16,17,71,72,73,74,75,76,77] [13,14,17,51,54,3130,3131,3140,3141] ?_
    exact aZ<|cf _<|Zn<|I3.mk ch (AH [(aj 0),(aj 1),(ak 0),(ak 1),n8]) wk
   refine aT λcj=>aR<|mM R<|AG X λdj al ck=>?_
   refine Zo [54] (hc:=[(1000,some<|.box (j+3) 196 [qd B.steps,rI B.used])]) (bs:=[.ptr 1000 (j+3) 0 0]) (caps:=[]) R R R R iL R ⟨.inl ⟨iL,R⟩,Za⟩ ⟨R,R,R,Za⟩ (by decide) (KH al) ?_
   intro dk n9
   refine A7 [13,14,15,16,62,63,64,65,66,79,80] [13,14,51,54,3130,3131,3140,3141] ?_
   refine xQ R<|mA R<|aZ<|cj _<|cI R ck (λZ=>?_) λZ=>?_
   ·refine aT λcl=>aG [13,14,15,16] [13,14,51,54,3130,3131,3140,3141] ?_
    refine aR<|mM R<|mM R<|AG Z λcm an cn=>?_
    refine Zo [54] (hc:=[(1000,some<|.box (j+3) 196 [qd B.steps,rI B.used])]) (bs:=[.ptr 1000 (j+3) 0 0]) (caps:=[]) R R R R iL R ⟨.inl ⟨iL,R⟩,Za⟩ ⟨R,R,R,Za⟩ (by decide) (Jr an) ?_
    intro i16 dm
    refine A7 [13,14,15,16,82,83,84] [13,14,51,54,3130,3131,3140,3141] ?_
    refine DQ cn λa0 w6 ao cp=>?_
    refine Zo [54] (hc:=[(1000,some<|.box (j+3) 196 [qd B.steps,rI B.used])]) (bs:=[.ptr 1000 (j+3) 0 0,rI cm]) (caps:=[]) R R R R iL R ⟨.inl ⟨iL,R⟩,.inl ⟨iL,R⟩,Za⟩ ⟨R,R,R,Za⟩ (by decide) (JG ao) ?_
    intro dn dp
    refine A7 [13,14,15,16,82,83,84,85] [13,14,51,54,3130,3131,3140,3141] ?_
    refine sS R (BB (cs:=EH) 18 R FH R R)<|Zk R R (Af (ds:=(Bq a0)) R FT iL R iL R R R R)<|aZ<|cl _<|aT λcq=>aR<|lF EK B2 R R<|xL Ah R<|AG cp λw7 cr cs=>?_
    refine Zo [13,3130,3131] (hc:=[(1000,some<|.box j 193 [.own 1001<|l 0,.own 1002<|l 1,rI C.cut]),(1001,some<|.arr (l 0) 100 4<|C.out.map AI.row),(1002,some<|.arr (l 1) 51 3<|C.add.map AD.row)]) (bs:=[.ptr 1000 j 0 0,rL a0.Elems,.r<|.sl []]) (caps:=[]) R R R R iL R ⟨.inl ⟨iL,R⟩,.inl ⟨iL,R⟩,.inr ⟨iL,R⟩,Za⟩ ⟨R,R,R,R,R,R,R,R,R,Za⟩ (by decide) (Mn cr) ?_
    intro aq dq
    refine A7 [13,14,15,16,18,82,83,84,85,86,87,88,89] [13,14,18,51,54,3130,3131,3140,3141] ?_
    refine aZ<|cq _<|aT λct=>aR<|lF EK B2 R R<|AG cs λw8 cu cv=>?_
    refine Zo [14,3140,3141] (hc:=[(1000,some<|.box (j+1) 193 [.own 1001<|l 2,.own 1002<|l 3,rI E.cut]),(1001,some<|.arr (l 2) 100 4<|E.out.map AI.row),(1002,some<|.arr (l 3) 51 3<|E.add.map AD.row)]) (bs:=[.ptr 1000 (j+1) 0 0,qb a0.Elems]) (caps:=[]) R R R R iL R ⟨.inl ⟨iL,R⟩,.inl ⟨iL,R⟩,Za⟩ ⟨R,R,R,R,R,R,R,R,R,Za⟩ (by decide) (RC cu) ?_
    intro ar cw
    refine A7 [13,14,15,16,18,82,83,84,85,86,87,88,89,90,91,92] [13,14,18,51,54,3130,3131,3140,3141] ?_
    exact aZ<|ct _<|Zn<|I3.mk cv (AH [(aq 0),(aq 1),(ar 0),(ar 1),cw]) wk
   refine Zd<|c1 _<|aT λcx=>aG [13,14,15,16] [13,14,51,54,3130,3131,3140,3141] ?_
   refine aR<|mM R<|AG Z λI av cy=>?_
   refine Zo [51] (hc:=[(1000,some<|.box (j+2) 196 [qd A.steps,rI A.used])]) (bs:=[.ptr 1000 (j+2) 0 0]) (caps:=[]) R R R R iL R ⟨.inl ⟨iL,R⟩,Za⟩ ⟨R,R,R,Za⟩ (by decide) (Jr av) ?_
   intro dr ds
   refine A7 [13,14,15,16,93,94] [13,14,51,54,3130,3131,3140,3141] ?_
   refine mM R<|AG cy λJ aw cz=>?_
   refine Zo [54] (hc:=[(1000,some<|.box (j+3) 196 [qd B.steps,rI B.used])]) (bs:=[.ptr 1000 (j+3) 0 0]) (caps:=[]) R R R R iL R ⟨.inl ⟨iL,R⟩,Za⟩ ⟨R,R,R,Za⟩ (by decide) (Jr aw) ?_
   intro dt du
   refine A7 [13,14,15,16,93,94,95,96] [13,14,51,54,3130,3131,3140,3141] ?_
   refine sQ R (Ku R iL iL)<|mA R<|aZ<|cx _<|aT λd0=>aR<|mM R<|mM R<|DQ cz λax w9 ay d1=>?_
   refine Zo [51] (hc:=[(1000,some<|.box (j+2) 196 [qd A.steps,rI A.used])]) (bs:=[.ptr 1000 (j+2) 0 0,rI<|(min I J)]) (caps:=[]) R R R R iL R ⟨.inl ⟨iL,R⟩,.inl ⟨iL,R⟩,Za⟩ ⟨R,R,R,Za⟩ (by decide) (JG ay) ?_
   intro dv dw
   refine A7 [13,14,15,16,19,93,94,95,96,97,98,99,100] [13,14,51,54,3130,3131,3140,3141] ?_
   refine mM R<|mM R<|DQ d1 λa2 dx az d2=>?_
   refine Zo [54] (hc:=[(1000,some<|.box (j+3) 196 [qd B.steps,rI B.used])]) (bs:=[.ptr 1000 (j+3) 0 0,rI<|(min I J)]) (caps:=[]) R R R R iL R ⟨.inl ⟨iL,R⟩,.inl ⟨iL,R⟩,Za⟩ ⟨R,R,R,Za⟩ (by decide) (JG az) ?_
   intro dy a6
   refine A7 [13,14,15,16,19,93,94,95,96,97,98,99,100,101,102,103] [13,14,51,54,3130,3131,3140,3141] ?_
   refine sS R (BB (cs:=EH) 20 R FH R R)<|sS R (BB (cs:=EH) 21 R FH R R)<|Zk R R (Af (ds:=(Bq ax)) R FT iL R iL R R R R)<|Zk R R (Af (ds:=(Bq a2)) R FT iL R iL R R R R)<|aZ<|d0 _<|Zf<|aT λd3=>aG [13,14,15,16,19,20,21] [13,14,20,21,51,54,3130,3131,3140,3141] ?_
   refine aR<|lF CG AJ R R<|xQ R<|mM R<|vF CG AJ R R<|vQ R (Aq R (iR R) iL)<|xN R<|mA R<|aZ<|d3 _<|cI R d2 (λa7=>?_) λa7=>?_
   ·refine aT λd4=>aR<|mM R<|lF Dt BA R R<|lF Dt BA R R<|AG a7 λb0 b2 d5=>sS R (CB (r:=qa b0) (caps:=[]) (bs:=[qa ax.Attrs,qa a2.Attrs]) R iL R ⟨.inl ⟨iL,R⟩,.inl ⟨iL,R⟩,Za⟩ λ_=>ud<|b2)<|AG d5 λdz b3 d6=>?_
    refine Zo [13,3130,3131] (hc:=[(1000,some<|.box j 193 [.own 1001<|l 0,.own 1002<|l 1,rI C.cut]),(1001,some<|.arr (l 0) 100 4<|C.out.map AI.row),(1002,some<|.arr (l 1) 51 3<|C.add.map AD.row)]) (bs:=[.ptr 1000 j 0 0,rI<|(min I J),qa b0]) (caps:=[]) R R R R iL R ⟨.inl ⟨iL,R⟩,.inl ⟨iL,R⟩,.inl ⟨iL,R⟩,Za⟩ ⟨R,R,R,R,R,R,R,R,R,Za⟩ (by decide) (Mn b3) ?_
    intro b4 e0
    refine A7 [13,14,15,16,19,20,21,104,105,106,107,108,112,113,114,115,116,117,118,119] [13,14,20,21,51,54,3130,3131,3140,3141] ?_
    refine aZ<|d4 _<|aG [13,14,15,16,19,21] [13,14,21,51,54,3130,3131,3140,3141] ?_
    refine aR<|mM R<|lF Dt BA R R<|AG d6 λe3 b5 d7=>?_
    refine Zo [14,3140,3141] (hc:=[(1000,some<|.box (j+1) 193 [.own 1001<|l 2,.own 1002<|l 3,rI E.cut]),(1001,some<|.arr (l 2) 100 4<|E.out.map AI.row),(1002,some<|.arr (l 3) 51 3<|E.add.map AD.row)]) (bs:=[.ptr 1000 (j+1) 0 0,rI<|(min I J),qa a2.Attrs]) (caps:=[]) R R R R iL R ⟨.inl ⟨iL,R⟩,.inl ⟨iL,R⟩,.inl ⟨iL,R⟩,Za⟩ ⟨R,R,R,R,R,R,R,R,R,Za⟩ (by decide) (Mn b5) ?_
    intro b6 d8
    refine A7 [13,14,15,16,19,21,120,121,122,123] [13,14,21,51,54,3130,3131,3140,3141] ?_
    exact Zh<|I3.mk d7 (AH [(b4 0),(b4 1),(b6 0),(b6 1),d8]) wk
   refine aU<|lF CG AJ R R<|xQ R<|mA R<|aZ<|cI R a7 (λa8=>?_) λa8=>?_
   ·refine aG [13,14,15,16,19] [13,14,51,54,3130,3131,3140,3141] ?_
    exact aR<|lF Ft AJ R R<|mM R<|AG a8 λx6 d9 da=>xA R d9<|sQ R (fB R Ft iL fR R)<|Zk R R (Af (ds:=[.own 3140<|l 2,.own 3141<|l 3,rI x6]) R G7 iL R iL R R R R)<|Zh<|I3.mk da (AH [(l 0),(l 1),(l 2),(l 3),(a6+2)]) wk
   refine aT λdb=>aG [13,14,15,16,19,21] [13,14,21,51,54,3130,3131,3140,3141] ?_
   refine aR<|lF CG AJ R R<|xQ R<|mA R<|aZ<|db _<|cI R a8 (λaa=>?_) λaa=>?_
   ·exact aR<|lF Ft AJ R R<|mM R<|AG aa λx7 dc dd=>xA R dc<|sQ R (fB R Ft iL fR R)<|Zk R R (Af (ds:=[.own 3130<|l 0,.own 3131<|l 1,rI x7]) R G7 iL R iL R R R R)<|Zh<|I3.mk dd (AH [(l 0),(l 1),(l 2),(l 3),(a6+2)]) wk
   exact Zd<|I3.mk aa (AH [(l 0),(l 1),(l 2),(l 3),(a6+2)]) wk
  exact Zn<|ac _ _ wk<|J1 _ _ (AH [(l 0),(l 1),(l 2),(l 3),(i9 0)])<|xH bt V
 refine AN.split ((decide<|0≤r9)==false) (λF=>?_) λF=>?_
 ·have ab:=Br F ag
  refine AN.weak (by exact Rn (e':=[(13,.ptr 13 j 0 0),(14,.ptr 14 (j+1) 0 0),(15,.ptr 51 (j+2) 0 0),(16,.ptr 54 (j+3) 0 0),(55,.ptr 51 (j+2) 0 0),(56,rI r9),(57,rB<|(decide<|0≤r9)),(58,rB<|(decide<|0≤r9)),(59,.ptr 54 (j+3) 0 0)]) F ⟨.inl R,.inl R,.inl R,.inl R,.inl R,.inl R,.inl R,.inl R,.inr iL,Za⟩) ?_
  refine AG ab λe4 b7 de=>?_
  refine iv (.one R R R) F [54] (hc:=[(1000,some<|.box (j+3) 196 [qd B.steps,rI B.used])]) (bs:=[.ptr 1000 (j+3) 0 0]) (caps:=[]) R R R iL R ⟨.inl ⟨iL,R⟩,Za⟩ ⟨R,R,R,Za⟩ (by decide) (KH b7) ?_
  intro e5 df
  refine A7 [13,14,15,16,55,56,57,58,59,60] [13,14,51,54,3130,3131,3140,3141] ?_
  exact IQ (.one R R R) F R R (AU.spec (Cs R (.inl R)<|.inl R) _)<|sQ R (CM R iL iL)<|Zh<|T _ _ wk<|J2 _ (AH [df]) (Zb de).symm
 ·have ab:=Bt F ag
  exact GM (.one R R R) F R R<|GM (.one R R R) F R R<|xO R<|Zh<|T _ _ wk<|J2 _ (AH [n3]) (Zb ab).symm
theorem V0{F:List AC}{B:AC}{I:AC}{r:(List AC)}{j:Nat}{l:Nat}(h:Ls F B I=some r):BY prog 189 2 [.agg<|BF B,.agg<|BF I,.ptr 1000 j 0 0] [(1000,some<|.box j 39 [.own 1001 l]),(1001,some<|.arr l 58 2<|F.map AC.row)] (λJ h'=>∃(i:Nat→Nat),J=.tup []∧h'=[(1000,some<|.box j 39 [.own 1001<|i 0]),(1001,some<|.arr (i 0) 58 2<|r.map AC.row)]):=by
 unfold Ls at h
 refine Dq func189 R R ntmps189 (Zw R) λC=>aU<|sS R (Ay (cs:=(BF B)) 3 R iL R R)<|sS R (Ay (cs:=(BF I)) 4 R iL R R)<|aZ<|aS λX Y w=>aU<|lF CO BC R R<|sQ R (Bo R iL iL)<|aZ<|A3 h λZ A M=>?_
 have U:∀(E:AC) (q:NN),Z=E→X ⟨[(2,.ptr 1000 j 0 0),(4,.ptr 4 (C+1) 0 0)],[(4,some<|.box (C+1) 58<|BF E),(1000,some<|.box j 39 [.own 1001 l]),(1001,some<|.arr l 58 2<|F.map AC.row)],(q 0),13⟩:=by
  intro E q e
  have h1:=M _ e
  refine Y _<|aR<|sQ R (AZ (a:=.own 1001 l) R BA iL R R)<|xC CJ R<|sS R (Bw 11 R Ac (f:=AC.row) (l:=([E]:List AC)) ⟨R,⟨_,iL,R⟩,Za⟩ R (λ_=>R) R)<|AG h1 λV O h2=>sS R (Ca R Ac iL R (.inr<|.inl ⟨_,_,iL,R⟩) O)<|Zk R R (Af (ds:=[.own 1001<|(q 0)+1]) R F9 iL R iL R R R R)<|Zh ?_
  exact ZM (s':=⟨[],[(1000,some<|.box j 39 [.own 1001<|(q 0)+1]),(1001,some<|.arr ((q 0)+1) 58 2<|V.map AC.row)],((q 0)+2),13⟩) wk<|B8 (λ(r:(List AC)) J h'=>∃(i:Nat→Nat),J=.tup []∧h'=[(1000,some<|.box j 39 [.own 1001<|i 0]),(1001,some<|.arr (i 0) 58 2<|r.map AC.row)]) h2<|by exact⟨.tup [],[(1000,some<|.box j 39 [.own 1001<|(q 0)+1]),(1001,some<|.arr ((q 0)+1) 58 2<|V.map AC.row)],⟨_,R,Za⟩,⟨.inr R,.inr R,Za⟩,R,R,AH [((q 0)+1)],R,R⟩
 refine aC R (λu=>?_) λu=>?_
 ·have T:=Br u A
  exact aR<|xC CJ R<|Zk R R (Af (ds:=(BF B)) R JU iL R iL R R R R)<|Zh<|w _ _ wk<|U _ (AH [(C+2)]) (Zb T).symm
 ·have T:=Bt u A
  exact Zd<|w _ _ wk<|U _ (AH [(C+2)]) (Zb T).symm
theorem mo{c1:List AC}{B:List AC}{C:List AC}{r:(List AC)}{j:Nat}{l:Nat}(h:PD c1 B C=some r):BY prog 144 2 [qa B,qa C,.fn 189 [.ptr 1000 j 0 0]] [(1000,some<|.box j 39 [.own 1001 l]),(1001,some<|.arr l 58 2<|c1.map AC.row)] (λE h'=>∃(i:Nat→Nat),E=.tup []∧h'=[(1000,some<|.box j 39 [.own 1001<|i 0]),(1001,some<|.arr (i 0) 58 2<|r.map AC.row)]):=by
 unfold PD at h
 refine Dq func144 R R ntmps144 (Zw R) λn0=>aU<|mA R<|mA R<|aZ<|Zf<|BI h λo4 w av F=>IP (λ(I:Int) (J:Int) (o2:List AC) q=>⟨[(0,qa B),(1,qa C),(2,.fn 189 [.ptr 1000 j 0 0]),(6,rI I),(7,rI J)],[(1000,some<|.box j 39 [.own 1001<|q 0]),(1001,some<|.arr (q 0) 58 2<|o2.map AC.row)],(q 1),92⟩) (AH [l,n0]) w wk ?_
 intro I J o2 q v1 M O
 have h1:Oh B C I J o2=some v1:=M;unfold Oh at h1
 refine aT λC2=>aU<|mM R<|mM R<|xL Ac R<|xS R<|mM R<|vM R<|vM R<|vQ R (Bu R Ac.slice<|iR R)<|vQ R (B7 R (iR R)<|iR R)<|xO R<|aZ<|cI R h1 (λT=>?_) λT=>?_
 ·refine Zd<|C2 _<|Zf<|Zf<|aT λC4=>?_
  refine ZA BJ (by kernel_rfl) ?_
  refine qP R (AK R iL)<|qP R (AK R iL)<|qP R (Bu R Ac.slice iL)<|qP R (Aq R iL iL)<|qP R (AK R iL)<|qO R (AK R iL)<|qO R (AK R iL)<|qO R (Bu R Ac.slice<|iR R)<|qO R (B7 R (iR R)<|iR R)<|qO R (AK R<|iR R)<|qT R (AK R iL)<|qT R (AK R iL)<|AG T λx1 U h3=>qT R (Ap R Ac.slice (iR R) (iR R) (λ_=>R)<|AP U)<|qT R (A2 R CO<|iR R)<|qT R (BU (d:=.str x1.Name) R BC (iR R) R)<|qT R (AK R iL)<|qT R (AK R iL)<|AG h3 λx2 V h4=>qT R (Ap R Ac.slice (iR R) (iR R) (λ_=>R)<|AP V)<|qT R (A2 R CO<|iR R)<|qT R (BU (d:=.str x2.Name) R BC (iR R) R)<|qT R (LH R (iR R)<|iR R)<|qO R (BP R (iR R)<|iR R)<|qP R (CM R iL<|iR R)<|qP R (Do R iL)<|AQ.nil<|C4 _<|cI R h4 (λX=>?_) λX=>?_
  ·refine aT λC5=>aG [0,1,2,6,7] [1000,1001] ?_
   refine aR<|mM R<|mM R<|mM R<|AG X λx3 Y h6=>xI Ac R Y<|xB ((BF x3)) CJ R ?_
   refine sQ R (Bg R GY (q:=[]) (by exact Za) (cs:=[.r<|.str [],.r<|.str []])<|by rfl) ?_
   refine AG h6 λw1 Z h7=>?_
   refine Zo [1000,1001] (hc:=[(1000,some<|.box j 39 [.own 1001<|q 0]),(1001,some<|.arr (q 0) 58 2<|o2.map AC.row)]) (bs:=(XQ x3)) (caps:=[.ptr 1000 j 0 0]) R R R R iL R ⟨.inl ⟨iL,R⟩,.inl ⟨iL,R⟩,Za⟩ ⟨R,R,R,R,R,R,Za⟩ (by decide) (V0 Z) ?_
   intro i8 n1
   refine A7 [0,1,2,6,7,56,57,58,59,60,61,62] [1000,1001] ?_
   exact aZ<|C5 _<|aR<|mM R<|AG h7 λi9 a0 h8=>xA R a0<|mA R<|Zh<|Dg.mk h8 (AH [(i8 0),n1]) wk
  refine aT λC6=>aG [0,1,2,6,7] [1000,1001] ?_
  refine ZA BJ (by kernel_rfl) ?_
  refine qP R (AK R iL)<|qP R (AK R iL)<|qP R (Bu R Ac.slice iL)<|qP R (Aq R iL iL)<|qP R (AK R iL)<|qO R (AK R iL)<|qO R (AK R iL)<|AG X λx4 a2 h9=>qO R (Ap R Ac.slice (iR R) (iR R) (λ_=>R)<|AP a2)<|qO R (A2 R CO<|iR R)<|qO R (BU (d:=.str x4.Name) R BC (iR R) R)<|qO R (AK R iL)<|qO R (AK R iL)<|AG h9 λx5 a6 a7=>qO R (Ap R Ac.slice (iR R) (iR R) (λ_=>R)<|AP a6)<|qO R (A2 R CO<|iR R)<|qO R (BU (d:=.str x5.Name) R BC (iR R) R)<|qO R (LH R (iR R)<|iR R)<|qP R (CM R iL<|iR R)<|qP R (Do R iL)<|AQ.nil<|C6 _<|cI R a7 (λu=>?_) λu=>?_
  ·refine aT λC7=>aR<|mM R ?_
   refine sQ R (Bg R GY (q:=[]) (by exact Za) (cs:=[.r<|.str [],.r<|.str []])<|by rfl) ?_
   refine mM R<|mM R<|AG u λx6 a8 aa=>xI Ac R a8<|xB ((BF x6)) CJ R<|AG aa λw2 ab ac=>?_
   refine Zo [1000,1001] (hc:=[(1000,some<|.box j 39 [.own 1001<|q 0]),(1001,some<|.arr (q 0) 58 2<|o2.map AC.row)]) (bs:=(Wk x6)) (caps:=[.ptr 1000 j 0 0]) R R R R iL R ⟨.inl ⟨iL,R⟩,.inl ⟨iL,R⟩,Za⟩ ⟨R,R,R,R,R,R,Za⟩ (by decide) (V0 ab) ?_
   intro ad n2
   refine A7 [0,1,2,6,7,65,66,67,68,69,70,82,83,84,85,86,87,88,89] [1000,1001] ?_
   refine aZ<|C7 _<|aG [0,1,2,6,7] [1000,1001] ?_
   exact aR<|mM R<|AG ac λj4 ae af=>xA R ae<|mA R<|Zh<|Dg.mk af (AH [(ad 0),n2]) wk
  refine aT λC8=>?_
  refine MA 9 BJ (by kernel_rfl) R R ?_
  refine Zt R R R (AK R iL)<|Zt R R R (AK R iL)<|Zt R R R (AK R iL)<|AG u λx7 ag ah=>Zt R R R (Ap R Ac.slice iL iL (λ_=>R) λ_=>ag)<|Zt R R R (CU (cs:=(BF x7)) R CJ iL R R)<|Zt R R R (AK R iL)<|Zt R R R (AK R iL)<|AG ah λx8 ai aj=>Zt R R R (Ap R Ac.slice iL iL (λ_=>R) λ_=>ai)<|Zt R R R (CU (cs:=(BF x8)) R CJ iL R R)<|AT.nil<|AG aj λw3 ak al=>?_
  refine Zo [1000,1001] (hc:=[(1000,some<|.box j 39 [.own 1001<|q 0]),(1001,some<|.arr (q 0) 58 2<|o2.map AC.row)]) (bs:=[.agg<|BF x7,.agg<|BF x8]) (caps:=[.ptr 1000 j 0 0]) R R R R iL R ⟨.inl ⟨iL,R⟩,.inl ⟨iL,R⟩,Za⟩ ⟨R,R,R,R,R,R,Za⟩ (by decide) (V0 ak) ?_
  intro an n3
  refine A7 [0,1,2,6,7,18,19,20,21,22,23,24,25,26,27,65,66,67,68,69,70,82] [1000,1001] ?_
  refine aZ<|C8 _<|aG [0,1,2,6,7] [1000,1001] ?_
  exact aR<|mM R<|AG al λaw A ao=>xA R A<|mM R<|AG ao λj5 aq ar=>xA R aq<|mA R<|mA R<|Zh<|Dg.mk ar (AH [(an 0),n3]) wk
 refine Zn ?_
 exact ZM (s':=⟨[],[(1000,some<|.box j 39 [.own 1001<|q 0]),(1001,some<|.arr (q 0) 58 2<|o2.map AC.row)],(q 1),92⟩) wk<|B8 (λ(r:(List AC)) E h'=>∃(i:Nat→Nat),E=.tup []∧h'=[(1000,some<|.box j 39 [.own 1001<|i 0]),(1001,some<|.arr (i 0) 58 2<|r.map AC.row)]) (F _<|xH O T)<|by exact⟨.tup [],[(1000,some<|.box j 39 [.own 1001<|q 0]),(1001,some<|.arr (q 0) 58 2<|o2.map AC.row)],⟨_,R,Za⟩,⟨.inr R,.inr R,Za⟩,R,R,AH [(q 0)],R,R⟩
theorem qw{l q r}(h:Of l q=some r):AO prog 156 [qa l,qa q] (qa r):=by
 unfold Of at h
 refine mF func156 ntmps156 R λj=>aU<|mA R<|aZ<|aU<|sS R (BB (cs:=[cZ]) 5 R YL R R)<|aZ<|aT λw=>aR<|mM R<|mM R ?_
 refine sQ R (QL (bs:=[.ptr 5 j 0 0]) R<|by exact⟨iL,Za⟩) ?_
 refine AN.weak (Zm (FB 5 0 3050 58 2 (by decide) R R<|by decide)<|by exact ZC (e':=[(0,qa l),(1,qa q),(4,cZ),(5,.ptr 5 j 0 0),(6,qa l),(7,qa q),(8,.fn 189 [.ptr 5 j 0 0])]) (h':=[(5,some<|.box j 39 [.own 3050<|j+1]),(3050,some<|.arr (j+1) 58 2<|([]:List AC).map AC.row)]) ⟨jL,jL,jL,jL,jL,jL,jL,Za⟩ ⟨.inl R,.inl R,Za⟩ nL) ?_
 refine AG h λC u A=>?_
 refine Zo [5,3050] (hc:=[(1000,some<|.box j 39 [.own 1001<|j+1]),(1001,some<|.arr (j+1) 58 2<|([]:List AC).map AC.row)]) (bs:=[qa l,qa q,.fn 189 [.ptr 1000 j 0 0]]) (caps:=[]) R R R R iL R ⟨.inl ⟨iL,R⟩,.inl ⟨iL,R⟩,.inl ⟨iL,R⟩,Za⟩ ⟨R,R,R,R,R,R,Za⟩ (by decide) (mo u) ?_
 intro B E
 refine A7 [0,1,4,5,6,7,8,9] [5,3050] ?_
 exact aZ<|w _<|aU<|sQ R (AZ (a:=.own 3050<|B 0) R BA iL R R)<|mA R<|aZ<|Zj<|Cz (P:=prog) (λ(r:(List AC))=>qa r) A iL<|.t<|.one<|.own R
theorem ri{A c r}(h:Ow A c=some r):AO prog 157 [qb A,qa c] (qb r):=by
 unfold Ow at h
 refine mF func157 ntmps157 R λZ=>aU<|mA R<|aZ<|aU<|mM R<|xL Ah R<|AG h λa0 u h1=>sS R (UU 10 R Ah (f:=AD.row) (z0:=(AD.mk 0 0 [])) WG iL iL u)<|mA R<|aZ<|aS λK3 c3 F=>aU<|mM R<|xL Ah R<|mM R<|aZ<|Zf<|A3 h1 λo1 B I=>?_
 have J1:∀(j:List AD) (E:NN),o1=j→K3 ⟨[(5,.own 10<|E 0)],[(10,some<|.arr (E 0) 51 3<|j.map AD.row)],(E 1),29⟩:=by
  intro j E e
  have h2:=I _ e
  exact c3 _<|aU<|mM R<|mA R<|aZ<|Zj<|Cz (P:=prog) (λ(r:(List AD))=>qb r) h2 iL<|.t<|.one<|.own R
 refine ZL (λ(J:Int) (l:List AD) q=>⟨[(1,qa c),(5,.own 10<|q 0),(11,qb A),(12,rL A),(13,rI J)],[(10,some<|.arr (q 0) 51 3<|l.map AD.row)],(q 1),29⟩) (AH [Z,(Z+1)]) B wk ?_
 intro J l q v1 M O
 have h3:KL A c J l=some v1:=M;unfold KL at h3
 refine aU<|xS R<|aZ<|aT λc7=>cI R h3 (λT=>?_) λT=>?_
 ·refine Zd<|c7 _<|aT λc8=>Zf<|aU<|mM R<|AG T λw U h5=>xI Ah R U<|xB ((Ad w)) Cj R<|sS R (BB (cs:=Eo) 7 R Ee R R)<|mA R<|Zk R R (Af (ds:=(Ad w)) R DT iL R iL R R R R)<|aZ<|aU<|lF CR BA R R<|mM R<|AG h5 λV X h6=>sS R (CB (r:=qa V) (caps:=[]) (bs:=[qa w.Attrs,qa c]) R iL R ⟨.inl ⟨iL,R⟩,.inl ⟨iL,R⟩,Za⟩ λ_=>U0<|X)<|sQ R (fB R CR iL fR R)<|Zk R R (Af (ds:=[rI w.Char,rI w.Ref,qa V]) R F9 iL R iL R R R R)<|aZ<|aG [1,5,6,7,11,12,13] [7,10] ?_
  exact aR<|mM R<|mM R<|xC Cj R<|AG h6 λx5 C h7=>sQ R (Em R Ah.slice iL R iL λ_=>C)<|Zk R R (VY (v:=(AD.mk w.Char w.Ref V)) R DT iL R C iL R R R R)<|aZ<|c8 _<|aR<|AG h7 λx6 Y h8=>xA R Y<|mM R<|Zh<|ZH h8 (AH [(q 0),((q 1)+1)]) wk
 exact Zn<|F _ _ wk<|J1 _ (AH [(q 0),(q 1)])<|xH O T
theorem rK{B C r}(h:Nr B C=some r):AO prog 108 [qd B,qd C] (.tup [qd r.1,rI r.2]):=by
 unfold Nr at h
 refine mF func108 ntmps108 R λj=>aU<|mA R<|mA R<|aZ<|aT λc2=>aU<|mM R<|AG h λe1 b4 h1=>cL (Ri<|b4) R<|mA R<|aZ<|aU<|mM R<|xU R<|aZ<|cI R h1 (λh2=>?_) λh2=>?_
 ·exact aU<|mM R<|mA R<|mA R<|aZ<|Zj<|DD (P:=prog) (λ(r:(List AI) × Int)=>qd r.1) (λ(r:(List AI) × Int)=>rI r.2) h2 iL (.t<|.one<|.nil)<|.t<|.d R
 refine Zd<|c2 _<|aT λc6=>aU<|mM R<|AG h2 λe2 b5 h3=>cL (Ri<|b5) R<|mA R<|aZ<|aT λc8=>aF [0,1,7] ?_
 refine aR<|mM R<|xU R<|aZ<|c8 _<|cI R h3 (λh4=>?_) λh4=>?_
 ·exact aU<|mM R<|mA R<|mA R<|aZ<|Zj<|DD (P:=prog) (λ(r:(List AI) × Int)=>qd r.1) (λ(r:(List AI) × Int)=>rI r.2) h4 iL (.t<|.one<|.nil)<|.t<|.d R
 refine Zd<|c6 _<|aU<|mM R<|DQ h4 λr1 r2 b6 h5=>cL (Sa<|b6) R<|mM R<|xX R<|xX R<|mA R<|mA R<|aZ<|aT λb7=>aT λb8=>aF [0,1,9] ?_
 refine aR<|mM R<|DQ h5 λr3 r4 b9 h6=>cL (Sa<|b9) R<|mM R<|xX R<|xX R<|mA R<|mA R<|aZ<|b8 _<|aU<|mM R<|mM R<|xU R<|aZ<|cI R h6 (λh7=>?_) λh7=>?_
 ·refine aT λba=>aF [] ?_
  exact aR<|mA R<|mA R<|aZ<|ba _<|Zj<|DD (P:=prog) (λ(r:(List AI) × Int)=>qd r.1) (λ(r:(List AI) × Int)=>rI r.2) h7 iL (.t<|.one<|.nil)<|.t<|.d R
 refine Zd<|b7 _<|aT λbb=>aF [0,1] ?_
 refine aR<|sS R (BB (cs:=N6) 12 R UZ R R)<|aZ<|bb _<|aT λbc=>aR<|mM R ?_
 refine sQ R (Bg R Tz (q:=[(0,_)]) (by exact⟨R,R,R,iL,Za⟩) (cs:=[qd B,rI 0])<|by rfl) ?_
 refine sS R (Ay (cs:=[qd B,rI 0]) 43 R iL R R)<|mM R ?_
 refine sQ R (Bg R Tz (q:=[(0,_)]) (by exact⟨R,R,R,iL,Za⟩) (cs:=[qd C,rI 0])<|by rfl) ?_
 refine sS R (Ay (cs:=[qd C,rI 0]) 46 R iL R R)<|mA R<|mA R<|aZ<|bc _<|aS λbd be a8=>Zf<|A3 h7 λo1 aa bf=>?_
 have J1:∀(I:Ae) (E:NN),o1=I→bd ⟨[(12,.ptr 12 j 0 0)],[(12,some<|.box j 193 [.own 3120<|E 0,.own 3121<|E 1,rI I.cut]),(3120,some<|.arr (E 0) 100 4<|I.out.map AI.row),(3121,some<|.arr (E 1) 51 3<|I.add.map AD.row)],(E 2),127⟩:=by
  intro I E e
  have h8:=bf _ e
  refine be _<|aT λbg=>aR<|IW h8 λr5 r6 w5 bh h9=>?_
  refine Zo [12,3120,3121] (hc:=[(1000,some<|.box j 193 [.own 1001<|E 0,.own 1002<|E 1,rI I.cut]),(1001,some<|.arr (E 0) 100 4<|I.out.map AI.row),(1002,some<|.arr (E 1) 51 3<|I.add.map AD.row)]) (bs:=[.ptr 1000 j 0 0]) (caps:=[]) R R R R iL R ⟨.inl ⟨iL,R⟩,Za⟩ ⟨R,R,R,R,R,R,R,R,R,Za⟩ (by decide) (Td bh) ?_
  intro i6 n1
  refine A7 [12,124] [12] ?_
  exact xX R<|xX R<|mA R<|mA R<|aZ<|bg _<|Zj<|DD (P:=prog) (λ(r:(List AI) × Int)=>qd r.1) (λ(r:(List AI) × Int)=>rI r.2) h9 iL (.t<|.d R)<|.t<|.d R
 refine IP (λ(u:Ae) (q:BZ) (w:BZ) l=>⟨[(12,.ptr 12 j 0 0),(13,.ptr 43 (j+1) 0 0),(14,.ptr 46 (j+2) 0 0)],[(12,some<|.box j 193 [.own 3120<|l 0,.own 3121<|l 1,rI u.cut]),(43,some<|.box (j+1) 196 [qd q.steps,rI q.used]),(46,some<|.box (j+2) 196 [qd w.steps,rI w.used]),(3120,some<|.arr (l 0) 100 4<|u.out.map AI.row),(3121,some<|.arr (l 1) 51 3<|u.add.map AD.row)],(l 2),127⟩) (AH [(j+3),(j+4),(j+5)]) aa (Zm (Zm (FB 12 0 3120 100 4 (by decide) R R<|by decide)<|by exact ZC (e':=[(0,qd B),(1,qd C),(12,.ptr 12 j 0 0),(13,.ptr 43 (j+1) 0 0),(14,.ptr 46 (j+2) 0 0),(41,qd B),(42,.agg [qd B,rI 0]),(43,.ptr 43 (j+1) 0 0),(44,qd C),(45,.agg [qd C,rI 0]),(46,.ptr 46 (j+2) 0 0)]) (h':=[(12,some<|.box j 193 [.own 3120<|j+3,cZ,rI 0]),(43,some<|.box (j+1) 196 [qd B,rI 0]),(46,some<|.box (j+2) 196 [qd C,rI 0]),(3120,some<|.arr (j+3) 100 4<|([]:List AI).map AI.row)]) ⟨jL,jL,jL,jL,jL,jL,jL,jL,jL,jL,jL,Za⟩ ⟨.inl R,.inl R,.inl R,.inl R,Za⟩ nL)<|Zm (Zm (FB 12 1 3121 51 3 (by decide) R R<|by decide)<|by exact ZC (e':=[(0,qd B),(1,qd C),(12,.ptr 12 j 0 0),(13,.ptr 43 (j+1) 0 0),(14,.ptr 46 (j+2) 0 0),(41,qd B),(42,.agg [qd B,rI 0]),(43,.ptr 43 (j+1) 0 0),(44,qd C),(45,.agg [qd C,rI 0]),(46,.ptr 46 (j+2) 0 0)]) (h':=[(12,some<|.box j 193 [.own 3120<|j+3,.own 3121<|j+4,rI 0]),(43,some<|.box (j+1) 196 [qd B,rI 0]),(46,some<|.box (j+2) 196 [qd C,rI 0]),(3120,some<|.arr (j+3) 100 4<|([]:List AI).map AI.row),(3121,some<|.arr (j+4) 51 3<|([]:List AD).map AD.row)]) ⟨jL,jL,jL,jL,jL,jL,jL,jL,jL,jL,jL,Za⟩ ⟨.inl R,.inl R,.inl R,.inl R,.inl R,Za⟩ nL) wk) ?_
 intro u q w l v1 bi bj
 have ab:Me u q w=some v1:=bi;unfold Me at ab
 refine aT λbk=>aS λbl bm J=>aR<|mM R<|AG ab λr7 ac bn=>?_
 refine Zo [43] (hc:=[(1000,some<|.box (j+1) 196 [qd q.steps,rI q.used])]) (bs:=[.ptr 1000 (j+1) 0 0]) (caps:=[]) R R R R iL R ⟨.inl ⟨iL,R⟩,Za⟩ ⟨R,R,R,Za⟩ (by decide) (KH ac) ?_
 intro i7 n2
 refine A7 [12,13,14,47,48] [12,43,46,3120,3121] ?_
 refine sQ R (Cs R iL iL)<|mM R<|vM R<|A3 bn λp4 ad bo=>?_
 have J2:∀(x1:Bool) (i8:NN),p4=x1→bl ⟨[(12,.ptr 12 j 0 0),(13,.ptr 43 (j+1) 0 0),(14,.ptr 46 (j+2) 0 0),(54,rB x1)],[(12,some<|.box j 193 [.own 3120<|l 0,.own 3121<|l 1,rI u.cut]),(43,some<|.box (j+1) 196 [qd q.steps,rI q.used]),(46,some<|.box (j+2) 196 [qd w.steps,rI w.used]),(3120,some<|.arr (l 0) 100 4<|u.out.map AI.row),(3121,some<|.arr (l 1) 51 3<|u.add.map AD.row)],(i8 0),127⟩:=by
  intro x1 i8 e
  have bp:=bo _ e
  refine bm _<|cI R bp (λO=>?_) λO=>?_
  ·refine Zd<|bk _<|Zf<|aT λbq=>Zf<|aT λbr=>aR<|mM R ?_
   refine Zo [43] (hc:=[(1000,some<|.box (j+1) 196 [qd q.steps,rI q.used])]) (bs:=[.ptr 1000 (j+1) 0 0]) (caps:=[]) R R R R iL R ⟨.inl ⟨iL,R⟩,Za⟩ ⟨R,R,R,Za⟩ (by decide) (KH ac) ?_
   intro i9 n3
   refine A7 [12,13,14,54,56,57] [12,43,46,3120,3121] ?_
   refine xQ R<|mA R<|aZ<|br _<|cI R O (λT=>?_) λT=>?_
   ·refine aT λbs=>AG T λr9 bt bu=>DQ bu λF w6 ae bv=>?_
    refine rP 7 [pO 59<|.ptr 12 j 0 2,pO 60<|rI u.cut,pO 61<|.ptr 43 (j+1) 0 0,pO 62<|.ptr 43 (j+1) 0 0,pO 63<|rI r9,⟨some 64,(λ_=>.agg<|Bq F),some (43,(λ_=>some<|.box (j+1) 196 [qd w6.steps,rI w6.used])),[]⟩,pO 65<|rI F.N] BJ R (by exact⟨oB [(12,.ptr 12 j 0 0)] [(12,some<|.box j 193 [.own 3120<|l 0,.own 3121<|l 1,rI u.cut])]<|fB R Ft (.inl R) (λ_=>R) R,oB [(59,.ptr 12 j 0 2)] [(12,some<|.box j 193 [.own 3120<|l 0,.own 3121<|l 1,rI u.cut])]<|AZ (a:=rI u.cut) R AJ (.inl R) R R,oB [(13,.ptr 43 (j+1) 0 0)] [(43,some<|.box (j+1) 196 [qd q.steps,rI q.used])]<|AK R<|.inl R,oB [(13,.ptr 43 (j+1) 0 0)] [(43,some<|.box (j+1) 196 [qd q.steps,rI q.used])]<|AK R<|.inl R,iy R R (by intro d h;cases h;rfl) R (λ_=>[(62,.ptr 43 (j+1) 0 0)]) (λ_=>[(43,some<|.box (j+1) 196 [qd q.steps,rI q.used])]) (λD G1 M=>⟨PK M 3 R R (by kernel_rfl) R R,Za⟩) (λD G1 M=>⟨JJ M (by kernel_rfl) R,Za⟩) (λ_ _=>R) λG1 e h' n=>⟨_,eV [43] (hc:=[(1000,some<|.box (j+1) 196 [qd q.steps,rI q.used])]) (bs:=[.ptr 1000 (j+1) 0 0]) (caps:=[]) R (.inl R) R (by exact⟨.inl ⟨(.inl R),R⟩,Za⟩) (by exact⟨R,R,R,Za⟩) (by decide)<|Jr bt,rx R⟩,Ye R R (by intro d h;cases h;rfl) R (λ_=>[(61,.ptr 43 (j+1) 0 0),(63,rI r9)]) (λ_=>[(43,some<|.box (j+1) 196 [qd q.steps,rI q.used])]) (λD G1 M=>⟨PK M 2 R R (by kernel_rfl) R R,PK M 4 R R (by kernel_rfl) R R,Za⟩) (λD G1 M=>⟨JJ M (by kernel_rfl) R,Za⟩) λG1 e h' n=>eV [43] (hc:=[(1000,some<|.box (j+1) 196 [qd q.steps,rI q.used])]) (bs:=[.ptr 1000 (j+1) 0 0,rI r9]) (caps:=[]) R (.inl R) R (by exact⟨.inl ⟨(.inl R),R⟩,.inl ⟨(.inl R),R⟩,Za⟩) (by exact⟨R,R,R,Za⟩) (by decide)<|JG ae,oB [(64,.agg<|Bq F)] []<|Ou (a:=rI F.N) R uC (.inl R) R,Za⟩) λG1 n4=>?_
    refine A7 [12,13,14,54,55,56,57,58,59,60,61,62,63,64,65] [12,43,46,3120,3121] ?_
    exact AG bv λx2 bw bx=>xA R bw<|sQ R (fB R Ft iL fR R)<|Zk R R (Af (ds:=[.own 3120<|l 0,.own 3121<|l 1,rI x2]) R G7 iL R iL R R R R)<|aZ<|bs _<|Zn<|Dg.mk bx (AH [(l 0),(l 1),n4]) wk
   refine aT λbz=>aR<|mM R<|AG T λcv af c0=>?_
   refine Zo [46] (hc:=[(1000,some<|.box (j+2) 196 [qd w.steps,rI w.used])]) (bs:=[.ptr 1000 (j+2) 0 0]) (caps:=[]) R R R R iL R ⟨.inl ⟨iL,R⟩,Za⟩ ⟨R,R,R,Za⟩ (by decide) (KH af) ?_
   intro cw n5
   refine A7 [12,13,14,54,55,56,57,58,69,70] [12,43,46,3120,3121] ?_
   refine xQ R<|mA R<|aZ<|bz _<|cI R c0 (λU=>?_) λU=>?_
   ·refine aT λc1=>aG [12,13,14] [12,43,46,3120,3121] ?_
    refine aR<|mM R<|mM R<|AG U λc3 ag c4=>?_
    refine Zo [46] (hc:=[(1000,some<|.box (j+2) 196 [qd w.steps,rI w.used])]) (bs:=[.ptr 1000 (j+2) 0 0]) (caps:=[]) R R R R iL R ⟨.inl ⟨iL,R⟩,Za⟩ ⟨R,R,R,Za⟩ (by decide) (Jr ag) ?_
    intro cx n6
    refine A7 [12,13,14,72,73,74] [12,43,46,3120,3121] ?_
    refine DQ c4 λah w7 ai c5=>?_
    refine Zo [46] (hc:=[(1000,some<|.box (j+2) 196 [qd w.steps,rI w.used])]) (bs:=[.ptr 1000 (j+2) 0 0,rI c3]) (caps:=[]) R R R R iL R ⟨.inl ⟨iL,R⟩,.inl ⟨iL,R⟩,Za⟩ ⟨R,R,R,Za⟩ (by decide) (JG ai) ?_
    intro cy n7
    refine A7 [12,13,14,72,73,74,75] [12,43,46,3120,3121] ?_
    refine sQ R (Ou (a:=qb ah.Elems) R lv iL R)<|AG c5 λw8 c7 c9=>?_
    refine Zo [12,3120,3121] (hc:=[(1000,some<|.box j 193 [.own 1001<|l 0,.own 1002<|l 1,rI u.cut]),(1001,some<|.arr (l 0) 100 4<|u.out.map AI.row),(1002,some<|.arr (l 1) 51 3<|u.add.map AD.row)]) (bs:=[.ptr 1000 j 0 0,qb ah.Elems]) (caps:=[]) R R R R iL R ⟨.inl ⟨iL,R⟩,.inl ⟨iL,R⟩,Za⟩ ⟨R,R,R,R,R,R,R,R,R,Za⟩ (by decide) (RC c7) ?_
    intro aj n8
    refine A7 [12,13,14,72,73,74,75,76,77] [12,43,46,3120,3121] ?_
    exact aZ<|c1 _<|Zn<|Dg.mk c9 (AH [(aj 0),(aj 1),n8]) wk
   refine Zd<|bq _<|aT λca=>aG [12,13,14] [12,43,46,3120,3121] ?_
   refine aR<|mM R<|AG U λV ak cb=>?_
   refine Zo [43] (hc:=[(1000,some<|.box (j+1) 196 [qd q.steps,rI q.used])]) (bs:=[.ptr 1000 (j+1) 0 0]) (caps:=[]) R R R R iL R ⟨.inl ⟨iL,R⟩,Za⟩ ⟨R,R,R,Za⟩ (by decide) (Jr ak) ?_
   intro cz n9
   refine A7 [12,13,14,78,79] [12,43,46,3120,3121] ?_
   refine mM R<|AG cb λX al cc=>?_
   refine Zo [46] (hc:=[(1000,some<|.box (j+2) 196 [qd w.steps,rI w.used])]) (bs:=[.ptr 1000 (j+2) 0 0]) (caps:=[]) R R R R iL R ⟨.inl ⟨iL,R⟩,Za⟩ ⟨R,R,R,Za⟩ (by decide) (Jr al) ?_
   intro d0 d1
   refine A7 [12,13,14,78,79,80,81] [12,43,46,3120,3121] ?_
   refine sQ R (Ku R iL iL)<|mA R<|aZ<|ca _<|aT λcd=>aR<|mM R<|mM R<|DQ cc λY w9 an cf=>?_
   refine Zo [43] (hc:=[(1000,some<|.box (j+1) 196 [qd q.steps,rI q.used])]) (bs:=[.ptr 1000 (j+1) 0 0,rI<|(min V X)]) (caps:=[]) R R R R iL R ⟨.inl ⟨iL,R⟩,.inl ⟨iL,R⟩,Za⟩ ⟨R,R,R,Za⟩ (by decide) (JG an) ?_
   intro i16 d2
   refine A7 [12,13,14,15,78,79,80,81,82,83,84,85] [12,43,46,3120,3121] ?_
   refine mM R<|mM R<|DQ cf λZ d3 ao cg=>?_
   refine Zo [46] (hc:=[(1000,some<|.box (j+2) 196 [qd w.steps,rI w.used])]) (bs:=[.ptr 1000 (j+2) 0 0,rI<|(min V X)]) (caps:=[]) R R R R iL R ⟨.inl ⟨iL,R⟩,.inl ⟨iL,R⟩,Za⟩ ⟨R,R,R,Za⟩ (by decide) (JG ao) ?_
   intro d4 aq
   refine A7 [12,13,14,15,78,79,80,81,82,83,84,85,86,87,88] [12,43,46,3120,3121] ?_
   refine sS R (BB (cs:=EH) 16 R FH R R)<|sS R (BB (cs:=EH) 17 R FH R R)<|Zk R R (Af (ds:=(Bq Y)) R FT iL R iL R R R R)<|Zk R R (Af (ds:=(Bq Z)) R FT iL R iL R R R R)<|aZ<|cd _<|Zf<|aT λch=>aG [12,13,14,15,16,17] [12,16,17,43,46,3120,3121] ?_
   refine aR<|lF CG AJ R R<|xQ R<|mM R<|vF CG AJ R R<|vQ R (Aq R (iR R) iL)<|xN R<|mA R<|aZ<|ch _<|cI R cg (λa0=>?_) λa0=>?_
   ·refine aR<|mM R<|lF Dt BA R R<|lF Dt BA R R<|AG a0 λar av cj=>sS R (CB (r:=qa ar) (caps:=[]) (bs:=[qa Y.Attrs,qa Z.Attrs]) R iL R ⟨.inl ⟨iL,R⟩,.inl ⟨iL,R⟩,Za⟩ λ_=>qw<|av)<|AG cj λd5 aw ck=>?_
    refine Zo [12,3120,3121] (hc:=[(1000,some<|.box j 193 [.own 1001<|l 0,.own 1002<|l 1,rI u.cut]),(1001,some<|.arr (l 0) 100 4<|u.out.map AI.row),(1002,some<|.arr (l 1) 51 3<|u.add.map AD.row)]) (bs:=[.ptr 1000 j 0 0,rI<|(min V X),qa ar]) (caps:=[]) R R R R iL R ⟨.inl ⟨iL,R⟩,.inl ⟨iL,R⟩,.inl ⟨iL,R⟩,Za⟩ ⟨R,R,R,R,R,R,R,R,R,Za⟩ (by decide) (Mn aw) ?_
    intro ax cl
    refine A7 [12,13,14,15,16,17,89,90,91,92,93,97,98,99,100,101,102,103,104] [12,16,17,43,46,3120,3121] ?_
    exact Zh<|Dg.mk ck (AH [(ax 0),(ax 1),cl]) wk
   refine aU<|lF CG AJ R R<|xQ R<|mA R<|aZ<|cI R a0 (λa2=>?_) λa2=>?_
   ·refine aG [12,13,14,15] [12,43,46,3120,3121] ?_
    exact aR<|lF Ft AJ R R<|mM R<|AG a2 λx3 cm cn=>xA R cm<|sQ R (fB R Ft iL fR R)<|Zk R R (Af (ds:=[.own 3120<|l 0,.own 3121<|l 1,rI x3]) R G7 iL R iL R R R R)<|Zh<|Dg.mk cn (AH [(l 0),(l 1),(aq+2)]) wk
   refine aT λcp=>aG [12,13,14,16,17] [12,16,17,43,46,3120,3121] ?_
   refine aR<|lF CG AJ R R<|xQ R<|mA R<|aZ<|cp _<|cI R a2 (λa6=>?_) λa6=>?_
   ·refine aR<|lF EK B2 R R<|lF Dt BA R R<|AG a6 λay az cq=>sS R (CB (r:=qb ay) (caps:=[]) (bs:=[qb Y.Elems,qa Z.Attrs]) R iL R ⟨.inl ⟨iL,R⟩,.inl ⟨iL,R⟩,Za⟩ λ_=>ri<|az)<|AG cq λd6 b0 cr=>?_
    refine Zo [12,3120,3121] (hc:=[(1000,some<|.box j 193 [.own 1001<|l 0,.own 1002<|l 1,rI u.cut]),(1001,some<|.arr (l 0) 100 4<|u.out.map AI.row),(1002,some<|.arr (l 1) 51 3<|u.add.map AD.row)]) (bs:=[.ptr 1000 j 0 0,qb ay]) (caps:=[]) R R R R iL R ⟨.inl ⟨iL,R⟩,.inl ⟨iL,R⟩,Za⟩ ⟨R,R,R,R,R,R,R,R,R,Za⟩ (by decide) (RC b0) ?_
    intro b2 cs
    refine A7 [12,13,14,16,17,114,115,116,117,118,119,120,121,122,123] [12,16,17,43,46,3120,3121] ?_
    exact Zh<|Dg.mk cr (AH [(b2 0),(b2 1),cs]) wk
   exact Zd<|Dg.mk a6 (AH [(l 0),(l 1),(aq+2)]) wk
  exact Zn<|a8 _ _ wk<|J1 _ (AH [(l 0),(l 1),(i8 0)])<|xH bj O
 refine AN.split ((decide<|0≤r7)==false) (λA=>?_) λA=>?_
 ·have a7:=Br A ad
  refine AN.weak (by exact Rn (e':=[(12,.ptr 12 j 0 0),(13,.ptr 43 (j+1) 0 0),(14,.ptr 46 (j+2) 0 0),(47,.ptr 43 (j+1) 0 0),(48,rI r7),(49,rB<|(decide<|0≤r7)),(50,rB<|(decide<|0≤r7)),(51,.ptr 46 (j+2) 0 0)]) A ⟨.inl R,.inl R,.inl R,.inl R,.inl R,.inl R,.inl R,.inr iL,Za⟩) ?_
  refine AG a7 λd7 b3 ct=>?_
  refine iv (.one R R R) A [46] (hc:=[(1000,some<|.box (j+2) 196 [qd w.steps,rI w.used])]) (bs:=[.ptr 1000 (j+2) 0 0]) (caps:=[]) R R R iL R ⟨.inl ⟨iL,R⟩,Za⟩ ⟨R,R,R,Za⟩ (by decide) (KH b3) ?_
  intro d8 cu
  refine A7 [12,13,14,47,48,49,50,51,52] [12,43,46,3120,3121] ?_
  exact IQ (.one R R R) A R R (AU.spec (Cs R (.inl R)<|.inl R) _)<|sQ R (CM R iL iL)<|Zh<|J _ _ wk<|J2 _ (AH [cu]) (Zb ct).symm
 ·have a7:=Bt A ad
  exact GM (.one R R R) A R R<|GM (.one R R R) A R R<|xO R<|Zh<|J _ _ wk<|J2 _ (AH [n2]) (Zb a7).symm
theorem oy{w:CN}{l:BK}{A:List AD}{r:(List BE) × BK × Int}{j:Nat}(h:Qy w l A=some r):BY prog 52 1 [.ptr 1000 j 0 0,.agg<|A5 l,qb A] [(1000,some<|.box j 102<|BG w)] (λM h'=>∃(i:Nat→Nat),M=.tup [qi r.1,.agg<|A5 r.2.1,rI r.2.2]∧h'=[(1000,some<|.box j 102<|BG w)]):=by
 unfold Qy at h
 refine Dq func52 R R ntmps52 (Zw R) λq=>aU<|sS R (Ay (cs:=(A5 l)) 4 R iL R R)<|mA R<|sS R (BB (cs:=[rI 0,rI 0,rI 0]) 7 R O3 R R)<|mA R<|aZ<|aU<|mM R<|sQ R (B1 (ob:=.box _ _ _) R iL fR R)<|sQ R (fB R TZ iL fR R)<|lF E8 B2 R R<|mA R<|aZ<|aT λc3=>?_
 refine MA 14 BJ (by kernel_rfl) R R ?_
 refine Zt R R R (AK R iL)<|Zt R R R (AK R iL)<|Zt R R R (B1 (ob:=.box _ _ _) R iL fR R)<|Zt R R R (fB R M9 iL fR R)<|Zt R R R (AZ (a:=.r<|.sl<|w.shown.map<|Aj .i64) R Ok iL R R)<|Zt R R R (fB R G4 iL fR R)<|Zt R R R (AZ (a:=rI l.From) R AJ iL R R)<|Zt R R R (fB R Je iL fR R)<|Zt R R R (AZ (a:=rI l.To) R AJ iL R R)<|AG h λl1 U h1=>?_
 refine Zt R R R (TC R B9.slice iL (by exact⟨_,iL⟩) (by exact⟨_,iL⟩) (λ_=>R) λ_=>U) ?_
 refine Zt R R R (AK R iL)<|Zt R R R (B1 (ob:=.box _ _ _) R iL fR R)<|Zt R R R (fB R cT iL fR R)<|Zt R R R (AZ (a:=rS w.author) R BC iL R R)<|AT.nil<|AG h1 λB F h2=>sS R (CB (r:=qd B) (caps:=[]) (bs:=[qb w.node.Flow,.r<|.sl<|l1.map<|Aj .i64,rS w.author]) R iL R ⟨.inl ⟨iL,R⟩,.inl ⟨iL,R⟩,.inl ⟨iL,R⟩,Za⟩ λ_=>tE<|F)<|mA R<|aZ<|c3 _<|aT λc4=>aG [0,2,4,7,9,10] [4,7,1000] ?_
 refine ZA BJ (by kernel_rfl) ?_
 refine qP R (AK R iL)<|qP R (B1 (ob:=.box _ _ _) R iL fR R)<|qP R (fB R M9 iL fR R)<|qP R (AZ (a:=.r<|.sl<|w.shown.map<|Aj .i64) R Ok iL R R)<|qP R (fB R G4 iL fR R)<|qP R (AZ (a:=rI l.From) R AJ iL R R)<|AG h2 λI O h3=>Ep R R R (r:=rI I) (caps:=[]) (bs:=[.r<|.sl<|w.shown.map<|Aj .i64,rI l.From]) R iL R ⟨⟨_,iL,.d R⟩,⟨_,iL,.d R⟩,Za⟩ (λ_=>rO<|O) R<|qP R (Do R iL)<|AQ.nil<|c4 _<|aU<|mM R<|mM R<|mM R<|mM R<|sQ R (B1 (ob:=.box _ _ _) R iL fR R)<|lF cT BC R R<|AG h3 λJ T h4=>sS R (CB (r:=qd J) (caps:=[]) (bs:=[qb w.node.Flow,rI I,qb A,rS w.author]) R iL R ⟨.inl ⟨iL,R⟩,.inl ⟨iL,R⟩,.inl ⟨iL,R⟩,.inl ⟨iL,R⟩,Za⟩ λ_=>nd<|T)<|mA R<|aZ<|aT λc6=>aG [2,4,7,10,12] [4,7,1000] ?_
 refine aR<|mM R<|mM R<|IW h4 λr1 r2 V X h5=>sS R (CB (r:=.tup [qd r1,qd r2,rI V]) (caps:=[]) (bs:=[qd J,qd B]) R iL R ⟨.inl ⟨iL,R⟩,.inl ⟨iL,R⟩,Za⟩ λ_=>nw<|X)<|mM R<|xX R<|xX R<|xX R<|mA R<|mA R<|mA R<|aZ<|c6 _<|aT λc7=>aT λc8=>aG [2,4,7,10,13,15] [4,7,1000] ?_
 refine aR<|mM R<|xU R<|aZ<|c8 _<|cI R h5 (λY=>?_) λY=>?_
 ·refine aT λc9=>aR ?_
  refine sQ R (Bg R KM (q:=[]) (by exact Za) (cs:=[rI 0,rI 0,rI 0])<|by rfl) ?_
  refine mM R<|mA R<|Zk R R (Af (ds:=[rI 0,rI 0,rI 0]) R IL iL R iL R R R R)<|mA R<|oZ c9 ?_
  exact Zj<|ZM (s':=⟨[(6,.r<|.sl []),(7,.ptr 7 (q+1) 0 0),(8,rI V)],[(7,some<|.box (q+1) 26 [rI 0,rI 0,rI 0]),(1000,some<|.box j 102<|BG w)],(q+2),89⟩) ((by exact ZC ⟨.inl<|.inr<|.inr ⟨R,R⟩,jL,jL,Za⟩ ⟨.inl R,.inl R,Za⟩ nL))<|B8 (λ(r:(List BE) × BK × Int) M h'=>∃(i:Nat→Nat),M=.tup [qi r.1,.agg<|A5 r.2.1,rI r.2.2]∧h'=[(1000,some<|.box j 102<|BG w)]) Y<|by exact⟨.tup [.r<|.sl [],.agg [rI 0,rI 0,rI 0],rI V],[(1000,some<|.box j 102<|BG w)],⟨_,R,⟨R,.inr ⟨_,R,D8,_,_,_,R,R⟩,R,Za⟩⟩,⟨.inr R,Za⟩,R,R,AH [],R,R⟩
 refine Zd<|c7 _<|aU<|mM R<|mM R<|DQ Y λC Z a0 h7=>sS R (CB (r:=.tup [qd C,rI Z]) (caps:=[]) (bs:=[qd B,qd r1]) R iL R ⟨.inl ⟨iL,R⟩,.inl ⟨iL,R⟩,Za⟩ λ_=>rK<|a0)<|mM R<|xX R<|xX R<|mA R<|mA R<|aZ<|aT λa1=>aT λa2=>aG [2,4,7,15,16] [4,7,1000] ?_
 refine aR<|mM R<|xU R<|aZ<|a2 _<|cI R h7 (λh8=>?_) λh8=>?_
 ·refine aT λa6=>aR ?_
  refine sQ R (Bg R KM (q:=[]) (by exact Za) (cs:=[rI 0,rI 0,rI 0])<|by rfl) ?_
  refine mM R<|mA R<|Zk R R (Af (ds:=[rI 0,rI 0,rI 0]) R IL iL R iL R R R R)<|mA R<|oZ a6 ?_
  exact Zj<|ZM (s':=⟨[(6,.r<|.sl []),(7,.ptr 7 (q+1) 0 0),(8,rI Z)],[(7,some<|.box (q+1) 26 [rI 0,rI 0,rI 0]),(1000,some<|.box j 102<|BG w)],(q+2),89⟩) ((by exact ZC ⟨.inl<|.inr<|.inr ⟨R,R⟩,jL,jL,Za⟩ ⟨.inl R,.inl R,Za⟩ nL))<|B8 (λ(r:(List BE) × BK × Int) M h'=>∃(i:Nat→Nat),M=.tup [qi r.1,.agg<|A5 r.2.1,rI r.2.2]∧h'=[(1000,some<|.box j 102<|BG w)]) h8<|by exact⟨.tup [.r<|.sl [],.agg [rI 0,rI 0,rI 0],rI Z],[(1000,some<|.box j 102<|BG w)],⟨_,R,⟨R,.inr ⟨_,R,D8,_,_,_,R,R⟩,R,Za⟩⟩,⟨.inr R,Za⟩,R,R,AH [],R,R⟩
 refine Zd<|a1 _<|aU<|lF G4 AJ R R<|mM R<|xL Ah R<|AG h8 λu a7 h9=>xA R a7<|mA R<|aZ<|aT λa8=>aG [4,7,16,17] [4,7,1000] ?_
 refine JC 11 [pO 79<|.ptr 4 q 0 0,pO 80<|rI l.Node,pO 81<|qd C,pO 82<|.agg [rI 2,rI l.Node,rI 0,rI 0,cZ,cZ,rI 0,rI 0,cZ,cZ,cZ,cZ,qd C,cZ,cZ,cZ,cZ,cZ,cZ],⟨some 83,(λE=>.own 83<|E 4),some (83,(λE=>some<|.arr (E 4) 76 19<|[(BE.mk 2 l.Node (Ag.mk 0 0 [] [] (BW.mk 0 0 [] []) []) [] C (EY.mk [] [] [] [] []) [])].map BE.row)),[4]⟩,pO 84<|.ptr 4 q 0 0,pO 85<|rI l.Node,pO 86<|rI u,pO 87<|rI u,pO 88<|.agg [rI l.Node,rI u,rI u],⟨some 6,(λE=>.own 83<|E 4),none,[4]⟩] BJ (by kernel_rfl) (by exact⟨λ_ _ h=>⟨R,λ_ _ e=>by cases e⟩,λ_ _ h=>⟨R,λ_ _ e=>by cases e⟩,λ_ _ h=>⟨R,λ_ _ e=>by cases e⟩,λ_ _ h=>⟨R,λ_ _ e=>by cases e⟩,λ_ _ h=>⟨by simp only[h 4 R],λ_ _ e=>by cases e;simp only[h 4 R]⟩,λ_ _ h=>⟨R,λ_ _ e=>by cases e⟩,λ_ _ h=>⟨R,λ_ _ e=>by cases e⟩,λ_ _ h=>⟨R,λ_ _ e=>by cases e⟩,λ_ _ h=>⟨R,λ_ _ e=>by cases e⟩,λ_ _ h=>⟨R,λ_ _ e=>by cases e⟩,λ_ _ h=>⟨by simp only[h 4 R],λ_ _ e=>by cases e⟩,Za⟩) R (by exact⟨oB [(4,.ptr 4 q 0 0)] [(4,some<|.box q 26<|A5 l)]<|fB R Ka (.inl R) (λ_=>R) R,oB [(79,.ptr 4 q 0 0)] [(4,some<|.box q 26<|A5 l)]<|AZ (a:=rI l.Node) R AJ (.inl R) R R,oB [(16,qd C)] []<|AK R<|.inl R,oB [(80,rI l.Node),(81,qd C)] []<|Bg R nF (q:=[(0,_),(1,_),(12,_)]) (by exact⟨R,R,R,(.inl R),R,R,R,(.inl R),R,R,R,(.inl R),Za⟩) (cs:=[rI 2,rI l.Node,rI 0,rI 0,cZ,cZ,rI 0,rI 0,cZ,cZ,cZ,cZ,qd C,cZ,cZ,cZ,cZ,cZ,cZ])<|by rfl,oM (λ_=>[(82,.agg [rI 2,rI l.Node,rI 0,rI 0,cZ,cZ,rI 0,rI 0,cZ,cZ,cZ,cZ,qd C,cZ,cZ,cZ,cZ,cZ,cZ])]) (λ_=>[]) R λE e h' n=>Bw 83 R GK (f:=BE.row) (l:=([(BE.mk 2 l.Node (Ag.mk 0 0 [] [] (BW.mk 0 0 [] []) []) [] C (EY.mk [] [] [] [] []) [])]:List BE)) ⟨R,⟨_,(.inl R),R⟩,Za⟩ R (λ_=>R) R,oB [(4,.ptr 4 q 0 0)] [(4,some<|.box q 26<|A5 l)]<|fB R Ka (.inl R) (λ_=>R) R,oB [(84,.ptr 4 q 0 0)] [(4,some<|.box q 26<|A5 l)]<|AZ (a:=rI l.Node) R AJ (.inl R) R R,oB [(17,rI u)] []<|AK R<|.inl R,oB [(17,rI u)] []<|AK R<|.inl R,oB [(85,rI l.Node),(86,rI u),(87,rI u)] []<|Bg R KM (q:=[(0,_),(1,_),(2,_)]) (by exact⟨R,R,R,(.inl R),R,R,R,(.inl R),R,R,R,(.inl R),Za⟩) (cs:=[rI l.Node,rI u,rI u])<|by rfl,oC (λE=>[(83,.own 83<|E 4)]) (λE=>[(83,some<|.arr (E 4) 76 19<|[(BE.mk 2 l.Node (Ag.mk 0 0 [] [] (BW.mk 0 0 [] []) []) [] C (EY.mk [] [] [] [] []) [])].map BE.row)]) λE e h'=>Do R<|.inl R,Za⟩) λE n2=>?_
 refine A7 [4,6,7,16,17,79,80,81,82,83,84,85,86,87,88] [4,7,83,1000] ?_
 refine Zk R R (Af (ds:=[rI l.Node,rI u,rI u]) R IL iL R iL R R R R)<|mA R<|oZ a8 ?_
 exact Zj<|ZM (s':=⟨[(6,.r<|.sl<|[(BE.mk 2 l.Node (Ag.mk 0 0 [] [] (BW.mk 0 0 [] []) []) [] C (EY.mk [] [] [] [] []) [])].map BE.row),(7,.ptr 7 (q+1) 0 0),(8,rI 0)],[(7,some<|.box (q+1) 26 [rI l.Node,rI u,rI u]),(1000,some<|.box j 102<|BG w)],n2,89⟩) (Zm (by exact Ak.frz (e':=[(4,.ptr 4 q 0 0),(6,.r<|.sl<|[(BE.mk 2 l.Node (Ag.mk 0 0 [] [] (BW.mk 0 0 [] []) []) [] C (EY.mk [] [] [] [] []) [])].map BE.row),(7,.ptr 7 (q+1) 0 0),(8,rI 0),(16,qd C),(17,rI u),(79,.ptr 4 q 0 0),(80,rI l.Node),(81,qd C),(82,.agg [rI 2,rI l.Node,rI 0,rI 0,cZ,cZ,rI 0,rI 0,cZ,cZ,cZ,cZ,qd C,cZ,cZ,cZ,cZ,cZ,cZ]),(83,.r<|.sl<|[(BE.mk 2 l.Node (Ag.mk 0 0 [] [] (BW.mk 0 0 [] []) []) [] C (EY.mk [] [] [] [] []) [])].map BE.row),(84,.ptr 4 q 0 0),(85,rI l.Node),(86,rI u),(87,rI u),(88,.agg [rI l.Node,rI u,rI u])]) (h':=[(4,some<|.box q 26<|A5 l),(7,some<|.box (q+1) 26 [rI l.Node,rI u,rI u]),(1000,some<|.box j 102<|BG w)]) 83 R ⟨jL,.inl<|.inr<|.inr ⟨R,R⟩,jL,jL,jL,jL,jL,jL,jL,jL,.inl<|.inr<|.inr ⟨R,R⟩,jL,jL,jL,jL,jL,Za⟩ ⟨R,.inl R,R,.inl R,R,.inl R,Za⟩) wk)<|B8 (λ(r:(List BE) × BK × Int) M h'=>∃(i:Nat→Nat),M=.tup [qi r.1,.agg<|A5 r.2.1,rI r.2.2]∧h'=[(1000,some<|.box j 102<|BG w)]) h9<|by exact⟨.tup [.r<|.sl<|[(BE.mk 2 l.Node (Ag.mk 0 0 [] [] (BW.mk 0 0 [] []) []) [] C (EY.mk [] [] [] [] []) [])].map BE.row,.agg [rI l.Node,rI u,rI u],rI 0],[(1000,some<|.box j 102<|BG w)],⟨_,R,⟨R,.inr ⟨_,R,D8,_,_,_,R,R⟩,R,Za⟩⟩,⟨.inr R,Za⟩,R,R,AH [],R,R⟩
theorem ei{d1 w b c r}(h:FO d1 w b c=some r):AO prog 11 [.agg [qg d1.Nodes],.agg<|A5 w,rS b,rS c] (.tup [qi r.1,.agg<|A5 r.2.1,rI r.2.2]):=by
 unfold FO at h
 refine mF func11 ntmps11 R λl=>aU<|sS R (Ay (cs:=[qg d1.Nodes]) 4 R iL R R)<|sS R (Ay (cs:=(A5 w)) 5 R iL R R)<|mA R<|sS R (BB (cs:=[rI 0,rI 0,rI 0]) 9 R O3 R R)<|mA R<|aZ<|aU<|xC EF R<|xC D8 R<|mM R<|DQ h λA r2 X h1=>sS R (CB (r:=.tup [.agg<|BG A,rI r2]) (caps:=[]) (bs:=[.agg [qg d1.Nodes],.agg<|A5 w,rS c]) R iL R ⟨.inl ⟨iL,R⟩,.inl ⟨iL,R⟩,.inl ⟨iL,R⟩,Za⟩ λ_=>fz<|X)<|mM R<|xX R<|xX R<|sS R (BB (cs:=Fp) 11 R T3 R R)<|Zk R R (Af (ds:=(BG A)) R Ih iL R iL R R R R)<|mA R<|aZ<|aT λc3=>aT λc4=>aG [2,5,9,11,12] [5,9,11] ?_
 refine aR<|mM R<|xU R<|aZ<|c4 _<|cI R h1 (λY=>?_) λY=>?_
 ·refine aT λc5=>aR ?_
  refine sQ R (Bg R KM (q:=[]) (by exact Za) (cs:=[rI 0,rI 0,rI 0])<|by rfl) ?_
  exact mM R<|mA R<|Zk R R (Af (ds:=[rI 0,rI 0,rI 0]) R IL iL R iL R R R R)<|mA R<|aZ<|c5 _<|Zj<|IG (P:=prog) (λ(r:(List BE) × BK × Int)=>qi r.1) (λ(r:(List BE) × BK × Int)=>.agg<|A5 r.2.1) (λ(r:(List BE) × BK × Int)=>rI r.2.2) Y iL (.t<|.one<|.nil) (.a D8 R R R<|.g (cs:=[.int .i64 0,.int .i64 0,.int .i64 0]) R R)<|.t<|.d R
 refine Zd<|c3 _<|aT λc6=>aU<|mM R<|sQ R (DE R underlying9 iL)<|sQ R (BD R iL iL)<|aZ<|cI R Y (λZ=>?_) λZ=>?_
 ·refine aT λc8=>aG [9] [9] ?_
  refine aR ?_
  refine sQ R (Bg R KM (q:=[]) (by exact Za) (cs:=[rI 0,rI 0,rI 0])<|by rfl) ?_
  exact mA R<|Zk R R (Af (ds:=[rI 0,rI 0,rI 0]) R IL iL R iL R R R R)<|mA R<|aZ<|c8 _<|Zj<|IG (P:=prog) (λ(r:(List BE) × BK × Int)=>qi r.1) (λ(r:(List BE) × BK × Int)=>.agg<|A5 r.2.1) (λ(r:(List BE) × BK × Int)=>rI r.2.2) Z iL (.t<|.one<|.nil) (.a D8 R R R<|.g (cs:=[.int .i64 0,.int .i64 0,.int .i64 0]) R R)<|.t<|.d R
 refine Zd<|c6 _<|aT λc9=>aR<|mM R<|lF G4 AJ R R<|AG Z λr3 a0 h4=>?_
 refine Zo [11] (hc:=[(1000,some<|.box (l+3) 102<|BG A)]) (bs:=[.ptr 1000 (l+3) 0 0,rI w.From]) (caps:=[]) R R R R iL R ⟨.inl ⟨iL,R⟩,.inl ⟨iL,R⟩,Za⟩ ⟨R,R,R,Za⟩ (by decide) (mL a0) ?_
 intro i1 n1
 refine A7 [2,5,9,11,12,22,23,26,27,28,31,32,33,34] [5,9,11] ?_
 refine DQ h4 λr4 w1 a1 h5=>?_
 refine Zo [35] (hc:=[]) (bs:=[rS b,qa r3]) (caps:=[]) R R R R iL R ⟨.inl ⟨iL,R⟩,.inl ⟨iL,R⟩,Za⟩ Za (by decide) (nG a1) ?_
 intro i2 n2
 refine A7 [2,5,9,11,12,22,23,26,27,28,31,32,33,34,35] [5,9,11,35] ?_
 refine mM R<|xX R<|xX R<|mA R<|mA R<|aZ<|c9 _<|aT λa2=>aT λa6=>aG [5,9,11,12,13] [5,9,11,35] ?_
 refine aR<|mM R<|xU R<|aZ<|a6 _<|cI R h5 (λh6=>?_) λh6=>?_
 ·refine aT λa7=>aR ?_
  refine sQ R (Bg R KM (q:=[]) (by exact Za) (cs:=[rI 0,rI 0,rI 0])<|by rfl) ?_
  exact mM R<|mA R<|Zk R R (Af (ds:=[rI 0,rI 0,rI 0]) R IL iL R iL R R R R)<|mA R<|aZ<|a7 _<|Zj<|IG (P:=prog) (λ(r:(List BE) × BK × Int)=>qi r.1) (λ(r:(List BE) × BK × Int)=>.agg<|A5 r.2.1) (λ(r:(List BE) × BK × Int)=>rI r.2.2) h6 iL (.t<|.one<|.nil) (.a D8 R R R<|.g (cs:=[.int .i64 0,.int .i64 0,.int .i64 0]) R R)<|.t<|.d R
 refine Zd<|a2 _<|aS λa8 aa M=>aU<|mM R<|sQ R (LK R Ah.slice iL R)<|mM R<|aZ<|Zf<|A3 h6 λo1 O ab=>?_
 have J1:∀(j:List AD) (T:NN),o1=j→a8 ⟨[(5,.ptr 5 (l+1) 0 0),(9,.ptr 9 (l+2) 0 0),(11,.ptr 11 (l+3) 0 0),(13,.own 35<|T 0)],[(5,some<|.box (l+1) 26<|A5 w),(9,some<|.box (l+2) 26 [rI 0,rI 0,rI 0]),(11,some<|.box (l+3) 102<|BG A),(35,some<|.arr (T 0) 51 3<|j.map AD.row)],(T 1),67⟩:=by
  intro j T e
  have h7:=ab _ e
  refine aa _<|aT λac=>aR<|xC D8 R<|mM R ?_
  refine AN.weak (by exact Ak.frz (e':=[(5,.ptr 5 (l+1) 0 0),(9,.ptr 9 (l+2) 0 0),(11,.ptr 11 (l+3) 0 0),(13,qb j),(61,.agg<|A5 w),(62,qb j)]) (h':=[(5,some<|.box (l+1) 26<|A5 w),(9,some<|.box (l+2) 26 [rI 0,rI 0,rI 0]),(11,some<|.box (l+3) 102<|BG A)]) 35 R ⟨jL,jL,jL,.inl<|.inr<|.inr ⟨R,R⟩,jL,.inl<|.inr<|.inr ⟨R,R⟩,Za⟩ ⟨R,.inl R,R,.inl R,R,.inl R,Za⟩) ?_
  refine IW h7 λr5 U r7 ad h8=>?_
  refine Zo [11] (hc:=[(1000,some<|.box (l+3) 102<|BG A)]) (bs:=[.ptr 1000 (l+3) 0 0,.agg<|A5 w,qb j]) (caps:=[]) R R R R iL R ⟨.inl ⟨iL,R⟩,.inl ⟨iL,R⟩,.inl ⟨iL,R⟩,Za⟩ ⟨R,R,R,Za⟩ (by decide) (oy ad) ?_
  intro i8 n3
  refine A7 [5,9,11,13,61,62,63] [5,9,11] ?_
  exact xX R<|xX R<|xX R<|mA R<|Zk R R (Af (ds:=(A5 U)) R IL iL R iL R R R R)<|mA R<|aZ<|ac _<|Zj<|IG (P:=prog) (λ(r:(List BE) × BK × Int)=>qi r.1) (λ(r:(List BE) × BK × Int)=>.agg<|A5 r.2.1) (λ(r:(List BE) × BK × Int)=>rI r.2.2) h8 iL (.t<|.d R) (.a D8 R R R<|.g (cs:=[.int .i64 U.Node,.int .i64 U.From,.int .i64 U.To]) R R)<|.t<|.d R
 refine ZL (λ(V:Int) (q:List AD) B=>⟨[(5,.ptr 5 (l+1) 0 0),(9,.ptr 9 (l+2) 0 0),(11,.ptr 11 (l+3) 0 0),(13,.own 35<|B 0),(43,rL w1),(44,rI V)],[(5,some<|.box (l+1) 26<|A5 w),(9,some<|.box (l+2) 26 [rI 0,rI 0,rI 0]),(11,some<|.box (l+3) 102<|BG A),(35,some<|.arr (B 0) 51 3<|q.map AD.row)],(B 1),67⟩) (AH [(i2 0),n2]) O wk ?_
 intro V q B v1 ae af
 have h9:Kc w A w1 V q=some v1:=ae;unfold Kc at h9
 refine aU<|xS R<|aZ<|aT λag=>cI R h9 (λF=>?_) λF=>?_
 ·refine Zd<|ag _<|aS λah ai E=>Zf<|A3 F λp1 aj ak=>?_
  have J2:∀(u:List AD) (J:NN),p1=u→ah ⟨[(5,.ptr 5 (l+1) 0 0),(9,.ptr 9 (l+2) 0 0),(11,.ptr 11 (l+3) 0 0),(13,.own 35<|J 0),(43,rL w1),(44,rI V)],[(5,some<|.box (l+1) 26<|A5 w),(9,some<|.box (l+2) 26 [rI 0,rI 0,rI 0]),(11,some<|.box (l+3) 102<|BG A),(35,some<|.arr (J 0) 51 3<|u.map AD.row)],(J 1),67⟩:=by
   intro u J e
   have al:=ak _ e
   exact ai _<|aR<|AG al λx4 an ao=>xA R an<|mM R<|Zh<|ZH ao (AH [(J 0),(J 1)]) wk
  refine aU<|mM R<|mA R<|aZ<|aU<|mM R<|mM R<|AG aj λx5 C aq=>sQ R (Em R Ah.slice iL R iL λ_=>C)<|sQ R (Fg (ob:=.arr _ _ _ _) R D1 iL fR R)<|sQ R (Ju (d:=.int .i64 x5.Char) R AJ iL fR (λ_=>C) R)<|xQ R<|aZ<|cI R aq (λI=>?_) λI=>?_
  ·refine aR<|mM R<|mM R<|lF Je AJ R R<|AG I λr8 ar av=>?_
   refine Zo [11] (hc:=[(1000,some<|.box (l+3) 102<|BG A)]) (bs:=[.ptr 1000 (l+3) 0 0,rI w.To]) (caps:=[]) R R R R iL R ⟨.inl ⟨iL,R⟩,.inl ⟨iL,R⟩,Za⟩ ⟨R,R,R,Za⟩ (by decide) (jy ar) ?_
   intro aw n4
   refine A7 [5,9,11,13,14,43,44,45,46,47,48,51,52,53,54,55,56,57] [5,9,11,35] ?_
   exact sQ R (Em R Ah.slice iL R iL λ_=>C)<|sQ R (Fg (ob:=.arr _ _ _ _) R CR iL fR R)<|Zk R R (Kw (v:=(AD.mk x5.Char x5.Ref r8)) R F9 iL R C iL R R R R)<|Zh<|E _ _ wk<|J2 _ (AH [(B 0),n4]) (Zb av).symm
  exact Zd<|E _ _ wk<|J2 _ (AH [(B 0),(B 1)]) (Zb I).symm
 exact Zn<|M _ _ wk<|J1 _ (AH [(B 0),(B 1)])<|xH af F
theorem p8{d1 l b r}(h:MC d1 l b=some r):AO prog 12 [.agg [qg d1.Nodes],.agg<|A5 l,rS b] (.tup [qi r.1,.agg<|A5 r.2.1,rI r.2.2]):=by
 unfold MC at h
 exact mF func12 ntmps12 R λB=>aU<|sS R (Ay (cs:=[qg d1.Nodes]) 3 R iL R R)<|sS R (Ay (cs:=(A5 l)) 4 R iL R R)<|mA R<|sS R (BB (cs:=[rI 0,rI 0,rI 0]) 7 R O3 R R)<|mA R<|aZ<|aU<|xC EF R<|xC D8 R<|mM R<|IW h λu j w q A=>sS R (CB (r:=.tup [qi u,.agg<|A5 j,rI w]) (caps:=[]) (bs:=[.agg [qg d1.Nodes],.agg<|A5 l,.r<|.str [],rS b]) R iL R ⟨.inl ⟨iL,R⟩,.inl ⟨iL,R⟩,.inl ⟨iL,R⟩,.inl ⟨iL,R⟩,Za⟩ λ_=>ei<|q)<|xX R<|xX R<|xX R<|mA R<|Zk R R (Af (ds:=(A5 j)) R IL iL R iL R R R R)<|mA R<|aZ<|Zj<|IG (P:=prog) (λ(r:(List BE) × BK × Int)=>qi r.1) (λ(r:(List BE) × BK × Int)=>.agg<|A5 r.2.1) (λ(r:(List BE) × BK × Int)=>rI r.2.2) A iL (.t<|.d R) (.a D8 R R R<|.g (cs:=[.int .i64 j.Node,.int .i64 j.From,.int .i64 j.To]) R R)<|.t<|.d R
theorem OA{j u r}(h:GC j u=some r):AO prog 78 [qa j,qa u] (rB r):=by
 unfold GC at h
 refine mF func78 ntmps78 R λn0=>aU<|mA R<|aZ<|aT λc2=>aU<|mM R<|xL Ac R<|mM R<|xL Ac R<|xU R<|aZ<|cI R h (λA=>?_) λA=>?_
 ·exact zB A R id
 refine Zd<|c2 _<|aS λK5 c5 B=>aU<|mM R<|xL Ac R<|mM R<|aZ<|Zf<|BI A λo1 l C E=>?_
 have J1:∀(Y:Unit) (Z:NN),o1=.nrm Y→K5 ⟨[],[],(Z 0),26⟩:=by
  intro Y Z e
  have h2:=C _ e
  exact c5 _<|zB h2 R id
 refine Zz (λ(F:Int) w=>⟨[(0,qa j),(1,qa u),(12,rL j),(13,rI F)],[],(w 0),26⟩) (AH [n0]) l wk ?_
 intro F w v1 I q
 have h3:Oa j u F=some v1:=I;unfold Oa at h3
 refine aU<|xS R<|aZ<|aT λc9=>cI R h3 (λJ=>?_) λJ=>?_
 ·refine Zd<|c9 _<|aT λM=>Zf<|aU<|mM R<|mA R<|aZ<|aT λO=>?_
  refine ZA BJ (by kernel_rfl) ?_
  refine qP R (AK R iL)<|qP R (AK R iL)<|AG J λx4 T h5=>qP R (Ap R Ac.slice iL iL (λ_=>R) λ_=>T)<|qP R (CU (cs:=(BF x4)) R CJ iL R R)<|qP R (AK R iL)<|qP R (AK R iL)<|AG h5 λx5 U h6=>qP R (Ap R Ac.slice iL iL (λ_=>R) λ_=>U)<|qP R (CU (cs:=(BF x5)) R CJ iL R R)<|qP R (KF R eL iL iL R)<|AQ.nil<|O _<|cI R h6 (λV=>?_) λV=>?_
  ·exact zB (E _<|xH q V) R id
  refine Zd<|M _<|aF [0,1,12,13] ?_
  exact aR<|AG V λx6 X h8=>xA R X<|mM R<|Zh<|Zx h8 (AH [(w 0)]) wk
 exact Zn<|B _ _ wk<|J1 _ (AH [(w 0)])<|xH q J
theorem sU{j l r}(h:QE j l=some r):AO prog 114 [.agg<|Ad j,.agg<|Ad l] (rB r):=by
 unfold QE at h
 exact mF func114 ntmps114 R λw=>aU<|sS R (Ay (cs:=(Ad j)) 2 R iL R R)<|sS R (Ay (cs:=(Ad l)) 3 R iL R R)<|mA R<|aZ<|aU<|lF D1 AJ R R<|lF D1 AJ R R<|xQ R<|mM R<|vF Ea AJ R R<|vF Ea AJ R R<|vQ R (Aq R (iR R)<|iR R)<|xN R<|mM R<|vF CR BA R R<|vF CR BA R R<|AG h λA q u=>vL (λhg=>OA<|AP q hg) R<|xN R<|mA R<|aZ<|Zj<|yB u R
theorem WM{j A r}(h:Lg j A=some r):AO prog 62 [qb j,qb A] (rB r):=by
 unfold Lg at h
 refine mF func62 ntmps62 R λn0=>aU<|mA R<|aZ<|aT λc2=>aU<|mM R<|xL Ah R<|mM R<|xL Ah R<|xU R<|aZ<|cI R h (λC=>?_) λC=>?_
 ·exact zB C R id
 refine Zd<|c2 _<|aS λK5 c5 E=>aU<|mM R<|xL Ah R<|mM R<|aZ<|Zf<|BI C λo1 l F I=>?_
 have J1:∀(u2:Unit) (i5:NN),o1=.nrm u2→K5 ⟨[],[],(i5 0),27⟩:=by
  intro u2 i5 e
  have h2:=F _ e
  exact c5 _<|zB h2 R id
 refine Zz (λ(J:Int) B=>⟨[(0,qb j),(1,qb A),(12,rL j),(13,rI J)],[],(B 0),27⟩) (AH [n0]) l wk ?_
 intro J B v1 M q
 have h3:Pc j A J=some v1:=M;unfold Pc at h3
 refine aU<|xS R<|aZ<|aT λc9=>cI R h3 (λO=>?_) λO=>?_
 ·refine Zd<|c9 _<|aT λT=>Zf<|aU<|mM R<|mA R<|aZ<|aT λU=>?_
  refine ZA BJ (by kernel_rfl) ?_
  refine qP R (AK R iL)<|qP R (AK R iL)<|AG O λu V h5=>qP R (Ap R Ah.slice iL iL (λ_=>R) λ_=>V)<|qP R (CU (cs:=(Ad u)) R Cj iL R R)<|qP R (AK R iL)<|qP R (AK R iL)<|AG h5 λw X h6=>qP R (Ap R Ah.slice iL iL (λ_=>R) λ_=>X)<|qP R (CU (cs:=(Ad w)) R Cj iL R R)<|AG h6 λr1 Y h7=>Ep R R R (r:=rB r1) (caps:=[]) (bs:=[.agg<|Ad u,.agg<|Ad w]) R iL R ⟨⟨_,iL,.g (cs:=[.int .i64 u.Char,.int .i64 u.Ref,.sl<|u.Attrs.map AC.row]) R R⟩,⟨_,iL,.g (cs:=[.int .i64 w.Char,.int .i64 w.Ref,.sl<|w.Attrs.map AC.row]) R R⟩,Za⟩ (λ_=>sU<|Y) R<|qP R (A0 R iL)<|AQ.nil<|U _<|cI R h7 (λZ=>?_) λZ=>?_
  ·exact zB (I _<|xH q Z) R id
  refine Zd<|T _<|aF [0,1,12,13] ?_
  exact aR<|AG Z λx6 a0 h9=>xA R a0<|mM R<|Zh<|Zx h9 (AH [(B 0)]) wk
 exact Zn<|E _ _ wk<|J1 _ (AH [(B 0)])<|xH q O
theorem um{j l r}(h:QO j l=some r):AO prog 176 [.agg<|CA j,.agg<|CA l] (rB r):=by
 unfold QO at h
 exact mF func176 ntmps176 R λA=>aU<|sS R (Ay (cs:=(CA j)) 2 R iL R R)<|sS R (Ay (cs:=(CA l)) 3 R iL R R)<|mA R<|aZ<|aT λu=>aR<|lF GE AJ R R<|lF GE AJ R R<|xQ R<|mM R<|vF HR AJ R R<|vF HR AJ R R<|vQ R (Aq R (iR R)<|iR R)<|xN R<|mM R<|vF Hp BC R R<|vF Hp BC R R<|vQ R (Bo R (iR R)<|iR R)<|xN R<|mM R<|vF FY AJ R R<|vF FY AJ R R<|vQ R (Aq R (iR R)<|iR R)<|xN R<|mM R<|vF HU BA R R<|vF HU BA R R<|AG h λB q w=>vL (λhg=>OA<|AP q hg) R<|xN R<|mA R<|aZ<|u _<|Zj<|yB w R
theorem dV{q A r}(h:Jk q A=some r):AO prog 133 [qe q,qe A] (rB r):=by
 unfold Jk at h
 refine mF func133 ntmps133 R λn0=>aU<|mA R<|aZ<|aT λc2=>aU<|mM R<|xL Cq R<|mM R<|xL Cq R<|xU R<|aZ<|cI R h (λC=>?_) λC=>?_
 ·exact zB C R id
 refine Zd<|c2 _<|aS λK5 c5 E=>aU<|mM R<|xL Cq R<|mM R<|aZ<|Zf<|BI C λo1 u F I=>?_
 have J1:∀(u2:Unit) (i5:NN),o1=.nrm u2→K5 ⟨[],[],(i5 0),27⟩:=by
  intro u2 i5 e
  have h2:=F _ e
  exact c5 _<|zB h2 R id
 refine Zz (λ(J:Int) B=>⟨[(0,qe q),(1,qe A),(12,rL q),(13,rI J)],[],(B 0),27⟩) (AH [n0]) u wk ?_
 intro J B v1 M w
 have h3:M2 q A J=some v1:=M;unfold M2 at h3
 refine aU<|xS R<|aZ<|aT λc9=>cI R h3 (λO=>?_) λO=>?_
 ·refine Zd<|c9 _<|aT λT=>Zf<|aU<|mM R<|mA R<|aZ<|aT λU=>?_
  refine ZA BJ (by kernel_rfl) ?_
  refine qP R (AK R iL)<|qP R (AK R iL)<|AG O λj V h5=>qP R (Ap R Cq.slice iL iL (λ_=>R) λ_=>V)<|qP R (CU (cs:=(CA j)) R Fx iL R R)<|qP R (AK R iL)<|qP R (AK R iL)<|AG h5 λl X h6=>qP R (Ap R Cq.slice iL iL (λ_=>R) λ_=>X)<|qP R (CU (cs:=(CA l)) R Fx iL R R)<|AG h6 λr1 Y h7=>Ep R R R (r:=rB r1) (caps:=[]) (bs:=[.agg<|CA j,.agg<|CA l]) R iL R ⟨⟨_,iL,.g (cs:=[.int .i64 j.Row,.int .i64 j.Col,.str j.Text,.int .i64 j.Ref,.sl<|j.Attrs.map AC.row]) R R⟩,⟨_,iL,.g (cs:=[.int .i64 l.Row,.int .i64 l.Col,.str l.Text,.int .i64 l.Ref,.sl<|l.Attrs.map AC.row]) R R⟩,Za⟩ (λ_=>um<|Y) R<|qP R (A0 R iL)<|AQ.nil<|U _<|cI R h7 (λZ=>?_) λZ=>?_
  ·exact zB (I _<|xH w Z) R id
  refine Zd<|T _<|aF [0,1,12,13] ?_
  exact aR<|AG Z λx6 a0 h9=>xA R a0<|mM R<|Zh<|Zx h9 (AH [(B 0)]) wk
 exact Zn<|E _ _ wk<|J1 _ (AH [(B 0)])<|xH w O
theorem Xo{j u r}(h:Ip j u=some r):AO prog 134 [qc j,qc u] (rB r):=by
 unfold Ip at h
 refine mF func134 ntmps134 R λn0=>aU<|mA R<|aZ<|aT λc2=>aU<|mM R<|xL Cn R<|mM R<|xL Cn R<|xU R<|aZ<|cI R h (λA=>?_) λA=>?_
 ·exact zB A R id
 refine Zd<|c2 _<|aS λK5 c5 B=>aU<|mM R<|xL Cn R<|mM R<|aZ<|Zf<|BI A λo1 l C E=>?_
 have J1:∀(Y:Unit) (Z:NN),o1=.nrm Y→K5 ⟨[],[],(Z 0),26⟩:=by
  intro Y Z e
  have h2:=C _ e
  exact c5 _<|zB h2 R id
 refine Zz (λ(F:Int) w=>⟨[(0,qc j),(1,qc u),(12,rL j),(13,rI F)],[],(w 0),26⟩) (AH [n0]) l wk ?_
 intro F w v1 I q
 have h3:NF j u F=some v1:=I;unfold NF at h3
 refine aU<|xS R<|aZ<|aT λc9=>cI R h3 (λJ=>?_) λJ=>?_
 ·refine Zd<|c9 _<|aT λM=>Zf<|aU<|mM R<|mA R<|aZ<|aT λO=>?_
  refine ZA BJ (by kernel_rfl) ?_
  refine qP R (AK R iL)<|qP R (AK R iL)<|AG J λx4 T h5=>qP R (Ap R Cn.slice iL iL (λ_=>R) λ_=>T)<|qP R (CU (cs:=(BT x4)) R E1 iL R R)<|qP R (AK R iL)<|qP R (AK R iL)<|AG h5 λx5 U h6=>qP R (Ap R Cn.slice iL iL (λ_=>R) λ_=>U)<|qP R (CU (cs:=(BT x5)) R E1 iL R R)<|qP R (KF R Yu iL iL R)<|AQ.nil<|O _<|cI R h6 (λV=>?_) λV=>?_
  ·exact zB (E _<|xH q V) R id
  refine Zd<|M _<|aF [0,1,12,13] ?_
  exact aR<|AG V λx6 X h8=>xA R X<|mM R<|Zh<|Zx h8 (AH [(w 0)]) wk
 exact Zn<|B _ _ wk<|J1 _ (AH [(w 0)])<|xH q J
theorem uK{j l r}(h:Qs j l=some r):AO prog 131 [.agg<|Da j,.agg<|Da l] (rB r):=by
 unfold Qs at h
 exact mF func131 ntmps131 R λB=>aU<|sS R (Ay (cs:=(Da j)) 2 R iL R R)<|sS R (Ay (cs:=(Da l)) 3 R iL R R)<|mA R<|aZ<|aU<|lF Ge AJ R R<|lF Ge AJ R R<|xQ R<|mM R<|vF Gr AJ R R<|vF Gr AJ R R<|vQ R (Aq R (iR R)<|iR R)<|xN R<|mM R<|vF GG FA R R<|vF GG FA R R<|AG h λC q w=>vL (λhg=>dV<|AP q hg) R<|xN R<|mM R<|vF Fh DR R R<|vF Fh DR R R<|AG w λE u A=>vL (λhg=>Xo<|AP u hg) R<|xN R<|mA R<|aZ<|Zj<|yB A R
theorem fZ{j u r}(h:Js j u=some r):AO prog 89 [qf j,qf u] (rB r):=by
 unfold Js at h
 refine mF func89 ntmps89 R λn0=>aU<|mA R<|aZ<|aT λc2=>aU<|mM R<|xL FI R<|mM R<|xL FI R<|xU R<|aZ<|cI R h (λA=>?_) λA=>?_
 ·exact zB A R id
 refine Zd<|c2 _<|aS λK5 c5 B=>aU<|mM R<|xL FI R<|mM R<|aZ<|Zf<|BI A λo1 l C E=>?_
 have J1:∀(Y:Unit) (Z:NN),o1=.nrm Y→K5 ⟨[],[],(Z 0),26⟩:=by
  intro Y Z e
  have h2:=C _ e
  exact c5 _<|zB h2 R id
 refine Zz (λ(F:Int) w=>⟨[(0,qf j),(1,qf u),(12,rL j),(13,rI F)],[],(w 0),26⟩) (AH [n0]) l wk ?_
 intro F w v1 I q
 have h3:Nh j u F=some v1:=I;unfold Nh at h3
 refine aU<|xS R<|aZ<|aT λc9=>cI R h3 (λJ=>?_) λJ=>?_
 ·refine Zd<|c9 _<|aT λM=>Zf<|aU<|mM R<|mA R<|aZ<|aT λO=>?_
  refine ZA BJ (by kernel_rfl) ?_
  refine qP R (AK R iL)<|qP R (AK R iL)<|AG J λx4 T h5=>qP R (Ap R FI.slice iL iL (λ_=>R) λ_=>T)<|qP R (CU (cs:=(Ck x4)) R Ij iL R R)<|qP R (AK R iL)<|qP R (AK R iL)<|AG h5 λx5 U h6=>qP R (Ap R FI.slice iL iL (λ_=>R) λ_=>U)<|qP R (CU (cs:=(Ck x5)) R Ij iL R R)<|qP R (KF R lO iL iL R)<|AQ.nil<|O _<|cI R h6 (λV=>?_) λV=>?_
  ·exact zB (E _<|xH q V) R id
  refine Zd<|M _<|aF [0,1,12,13] ?_
  exact aR<|AG V λx6 X h8=>xA R X<|mM R<|Zh<|Zx h8 (AH [(w 0)]) wk
 exact Zn<|B _ _ wk<|J1 _ (AH [(w 0)])<|xH q J
theorem ik{j l r}(h:IF j l=some r):AO prog 86 [.agg<|Bd j,.agg<|Bd l] (rB r):=by
 unfold IF at h
 exact mF func86 ntmps86 R λJ=>aU<|sS R (Ay (cs:=(Bd j)) 2 R iL R R)<|sS R (Ay (cs:=(Bd l)) 3 R iL R R)<|mA R<|aZ<|aT λB=>aR<|lF Ex AJ R R<|lF Ex AJ R R<|xQ R<|mM R<|vF Cy AJ R R<|vF Cy AJ R R<|vQ R (Aq R (iR R)<|iR R)<|xN R<|mM R<|vF Ub BA R R<|vF Ub BA R R<|AG h λM q C=>vL (λhg=>OA<|AP q hg) R<|xN R<|mM R<|vF E8 B2 R R<|vF E8 B2 R R<|AG C λO u E=>vL (λhg=>WM<|AP u hg) R<|xN R<|mM R<|vQ R (fB R GO iL fR R)<|vQ R (F0 (ds:=(Da j.Grid)) R No (iR R) R R R)<|vQ R (fB R GO iL fR R)<|vQ R (F0 (ds:=(Da l.Grid)) R No (iR R) R R R)<|AG E λT w F=>vL (λhg=>uK<|AP w hg) R<|xN R<|mM R<|vF KD Gk R R<|vF KD Gk R R<|AG F λU A I=>vL (λhg=>fZ<|AP A hg) R<|xN R<|mA R<|aZ<|B _<|Zj<|yB I R
theorem lK{w C r}(h:L2 w C=some r):AO prog 87 [qd w,qd C] (rB r):=by
 unfold L2 at h
 refine mF func87 ntmps87 R λn0=>aU<|mA R<|aZ<|aT λc2=>aU<|mM R<|xL Bx R<|mM R<|xL Bx R<|xU R<|aZ<|cI R h (λF=>?_) λF=>?_
 ·exact zB F R id
 refine Zd<|c2 _<|aS λK5 c5 I=>aU<|mM R<|xL Bx R<|mM R<|aZ<|Zf<|BI F λo1 A J M=>?_
 have J1:∀(u2:Unit) (i5:NN),o1=.nrm u2→K5 ⟨[],[],(i5 0),69⟩:=by
  intro u2 i5 e
  have h2:=J _ e
  exact c5 _<|zB h2 R id
 refine Zz (λ(O:Int) E=>⟨[(0,qd w),(1,qd C),(12,rL w),(13,rI O)],[],(E 0),69⟩) (AH [n0]) A wk ?_
 intro O E v1 T B
 have h3:Q5 w C O=some v1:=T;unfold Q5 at h3
 refine aU<|xS R<|aZ<|aT λc9=>cI R h3 (λU=>?_) λU=>?_
 ·refine Zd<|c9 _<|aT λV=>Zf<|aU<|mM R<|mA R<|aZ<|aT λX=>?_
  refine ZA BJ (by kernel_rfl) ?_
  refine qP R (AK R iL)<|qP R (AK R iL)<|AG U λq j h5=>qP R (Ap R Bx.slice iL iL (λ_=>R) λ_=>j)<|qP R (A2 R CG iL)<|qP R (BU (d:=.int .i64 q.Kind) R AJ iL R)<|qP R (AK R iL)<|qP R (AK R iL)<|AG h5 λu l h6=>qP R (Ap R Bx.slice iL iL (λ_=>R) λ_=>l)<|qP R (A2 R CG iL)<|qP R (BU (d:=.int .i64 u.Kind) R AJ iL R)<|qP R (Cf R iL iL)<|qP R (AK R iL)<|qO R (AK R iL)<|qO R (AK R iL)<|qO R (Ap R Bx.slice (iR R) (iR R) (λ_=>R) λ_=>j)<|qO R (A2 R EM<|iR R)<|qO R (BU (d:=.int .i64 q.N) R AJ (iR R) R)<|qO R (AK R iL)<|qO R (AK R iL)<|qO R (Ap R Bx.slice (iR R) (iR R) (λ_=>R) λ_=>l)<|qO R (A2 R EM<|iR R)<|qO R (BU (d:=.int .i64 u.N) R AJ (iR R) R)<|qO R (Cf R (iR R)<|iR R)<|qP R (CM R iL<|iR R)<|qP R (AK R iL)<|qO R (AK R iL)<|qO R (AK R iL)<|qO R (Ap R Bx.slice (iR R) (iR R) (λ_=>R) λ_=>j)<|qO R (A2 R Dt<|iR R)<|qO R (BU (d:=.sl<|q.Attrs.map AC.row) R BA (iR R) R)<|qO R (AK R iL)<|qO R (AK R iL)<|qO R (Ap R Bx.slice (iR R) (iR R) (λ_=>R) λ_=>l)<|qO R (A2 R Dt<|iR R)<|qO R (BU (d:=.sl<|u.Attrs.map AC.row) R BA (iR R) R)<|AG h6 λr1 Y h7=>HS (.one R R R) R R (r:=rB r1) (caps:=[]) (bs:=[qa q.Attrs,qa u.Attrs]) R iL R ⟨⟨_,(iR R),.d R⟩,⟨_,(iR R),.d R⟩,Za⟩ (λhg=>OA<|AP Y hg) R<|qO R (A0 R<|iR R)<|qP R (CM R iL<|iR R)<|qP R (AK R iL) ?_
  refine qO R (AK R iL)<|qO R (AK R iL)<|qO R (Ap R Bx.slice (iR R) (iR R) (λ_=>R) λ_=>j)<|qO R (A2 R EK<|iR R)<|qO R (BU (d:=.sl<|q.Elems.map AD.row) R B2 (iR R) R)<|qO R (AK R iL)<|qO R (AK R iL)<|qO R (Ap R Bx.slice (iR R) (iR R) (λ_=>R) λ_=>l)<|qO R (A2 R EK<|iR R)<|qO R (BU (d:=.sl<|u.Elems.map AD.row) R B2 (iR R) R)<|AG h7 λr2 Z h8=>HS (.one R R R) R R (r:=rB r2) (caps:=[]) (bs:=[qb q.Elems,qb u.Elems]) R iL R ⟨⟨_,(iR R),.d R⟩,⟨_,(iR R),.d R⟩,Za⟩ (λhg=>WM<|AP Z hg) R<|qO R (A0 R<|iR R)<|qP R (CM R iL<|iR R)<|AQ.nil<|X _<|cI R h8 (λh9=>?_) λh9=>?_
  ·exact zB (M _<|xH B h9) R id
  refine Zd<|V _<|aF [0,1,12,13] ?_
  exact aR<|AG h9 λx6 a0 a2=>xA R a0<|mM R<|Zh<|Zx a2 (AH [(E 0)]) wk
 exact Zn<|I _ _ wk<|J1 _ (AH [(E 0)])<|xH B U
theorem aP{j u r}(h:Kk j u=some r):AO prog 132 [qh j,qh u] (rB r):=by
 unfold Kk at h
 refine mF func132 ntmps132 R λn0=>aU<|mA R<|aZ<|aT λc2=>aU<|mM R<|xL Ej R<|mM R<|xL Ej R<|xU R<|aZ<|cI R h (λA=>?_) λA=>?_
 ·exact zB A R id
 refine Zd<|c2 _<|aS λK5 c5 B=>aU<|mM R<|xL Ej R<|mM R<|aZ<|Zf<|BI A λo1 l C E=>?_
 have J1:∀(Y:Unit) (Z:NN),o1=.nrm Y→K5 ⟨[],[],(Z 0),26⟩:=by
  intro Y Z e
  have h2:=C _ e
  exact c5 _<|zB h2 R id
 refine Zz (λ(F:Int) w=>⟨[(0,qh j),(1,qh u),(12,rL j),(13,rI F)],[],(w 0),26⟩) (AH [n0]) l wk ?_
 intro F w v1 I q
 have h3:RW j u F=some v1:=I;unfold RW at h3
 refine aU<|xS R<|aZ<|aT λc9=>cI R h3 (λJ=>?_) λJ=>?_
 ·refine Zd<|c9 _<|aT λM=>Zf<|aU<|mM R<|mA R<|aZ<|aT λO=>?_
  refine ZA BJ (by kernel_rfl) ?_
  refine qP R (AK R iL)<|qP R (AK R iL)<|AG J λx4 T h5=>qP R (Ap R Ej.slice iL iL (λ_=>R) λ_=>T)<|qP R (CU (cs:=[rI x4.Kind,rI x4.N]) R ZI iL R R)<|qP R (AK R iL)<|qP R (AK R iL)<|AG h5 λx5 U h6=>qP R (Ap R Ej.slice iL iL (λ_=>R) λ_=>U)<|qP R (CU (cs:=[rI x5.Kind,rI x5.N]) R ZI iL R R)<|qP R (KF R s7 iL iL R)<|AQ.nil<|O _<|cI R h6 (λV=>?_) λV=>?_
  ·exact zB (E _<|xH q V) R id
  refine Zd<|M _<|aF [0,1,12,13] ?_
  exact aR<|AG V λx6 X h8=>xA R X<|mM R<|Zh<|Zx h8 (AH [(w 0)]) wk
 exact Zn<|B _ _ wk<|J1 _ (AH [(w 0)])<|xH q J
theorem rR{j l r}(h:Pb j l=some r):AO prog 88 [.agg<|Di j,.agg<|Di l] (rB r):=by
 unfold Pb at h
 exact mF func88 ntmps88 R λO=>aU<|sS R (Ay (cs:=(Di j)) 2 R iL R R)<|sS R (Ay (cs:=(Di l)) 3 R iL R R)<|mA R<|aZ<|aT λC=>aR<|lF Sc JH R R<|lF Sc JH R R<|AG h λT q E=>cL (aP<|q) R<|mM R<|vF UH JH R R<|vF UH JH R R<|AG E λU u F=>vL (λhg=>aP<|AP u hg) R<|xN R<|mM R<|vF SV FA R R<|vF SV FA R R<|AG F λV w I=>vL (λhg=>dV<|AP w hg) R<|xN R<|mM R<|vF RP DR R R<|vF RP DR R R<|AG I λX A J=>vL (λhg=>Xo<|AP A hg) R<|xN R<|mM R<|vF Kq DR R R<|vF Kq DR R R<|AG J λY B M=>vL (λhg=>Xo<|AP B hg) R<|xN R<|mA R<|aZ<|C _<|Zj<|yB M R
theorem qK{j l r}(h:Na j l=some r):AO prog 37 [.agg<|EA j,.agg<|EA l] (rB r):=by
 unfold Na at h
 exact mF func37 ntmps37 R λO=>aU<|sS R (Ay (cs:=(EA j)) 2 R iL R R)<|sS R (Ay (cs:=(EA l)) 3 R iL R R)<|mA R<|aZ<|aT λC=>aR<|lF LP AJ R R<|lF LP AJ R R<|xQ R<|mM R<|vF P3 AJ R R<|vF P3 AJ R R<|vQ R (Aq R (iR R)<|iR R)<|xN R<|mM R<|vQ R (fB R T9 iL fR R)<|vQ R (F0 (ds:=(Bd j.New)) R Fs (iR R) R R R)<|vQ R (fB R T9 iL fR R)<|vQ R (F0 (ds:=(Bd l.New)) R Fs (iR R) R R R)<|AG h λT q E=>vL (λhg=>ik<|AP q hg) R<|xN R<|mM R<|vF R6 BA R R<|vF R6 BA R R<|AG E λU u F=>vL (λhg=>OA<|AP u hg) R<|xN R<|mM R<|vF Mt EE R R<|vF Mt EE R R<|AG F λV w I=>vL (λhg=>lK<|AP w hg) R<|xN R<|mM R<|vQ R (fB R Sf iL fR R)<|vQ R (F0 (ds:=(Di j.Grid)) R T7 (iR R) R R R)<|vQ R (fB R Sf iL fR R)<|vQ R (F0 (ds:=(Di l.Grid)) R T7 (iR R) R R R)<|AG I λX A J=>vL (λhg=>rR<|AP A hg) R<|xN R<|mM R<|vF S2 Gk R R<|vF S2 Gk R R<|AG J λY B M=>vL (λhg=>fZ<|AP B hg) R<|xN R<|mA R<|aZ<|C _<|Zj<|yB M R
theorem nv{q A r}(h:Ha q A=some r):AO prog 13 [qi q,qi A] (rB r):=by
 unfold Ha at h
 refine mF func13 ntmps13 R λn0=>aU<|mA R<|aZ<|aT λc2=>aU<|mM R<|xL GK R<|mM R<|xL GK R<|xU R<|aZ<|cI R h (λC=>?_) λC=>?_
 ·exact zB C R id
 refine Zd<|c2 _<|aS λK5 c5 E=>aU<|mM R<|xL GK R<|mM R<|aZ<|Zf<|BI C λo1 u F I=>?_
 have J1:∀(u2:Unit) (i5:NN),o1=.nrm u2→K5 ⟨[],[],(i5 0),27⟩:=by
  intro u2 i5 e
  have h2:=F _ e
  exact c5 _<|zB h2 R id
 refine Zz (λ(J:Int) B=>⟨[(0,qi q),(1,qi A),(12,rL q),(13,rI J)],[],(B 0),27⟩) (AH [n0]) u wk ?_
 intro J B v1 M w
 have h3:MH q A J=some v1:=M;unfold MH at h3
 refine aU<|xS R<|aZ<|aT λc9=>cI R h3 (λO=>?_) λO=>?_
 ·refine Zd<|c9 _<|aT λT=>Zf<|aU<|mM R<|mA R<|aZ<|aT λU=>?_
  refine ZA BJ (by kernel_rfl) ?_
  refine qP R (AK R iL)<|qP R (AK R iL)<|AG O λj V h5=>qP R (Ap R GK.slice iL iL (λ_=>R) λ_=>V)<|qP R (CU (cs:=(EA j)) R WQ iL R R)<|qP R (AK R iL)<|qP R (AK R iL)<|AG h5 λl X h6=>qP R (Ap R GK.slice iL iL (λ_=>R) λ_=>X)<|qP R (CU (cs:=(EA l)) R WQ iL R R)<|AG h6 λr1 Y h7=>Ep R R R (r:=rB r1) (caps:=[]) (bs:=[.agg<|EA j,.agg<|EA l]) R iL R ⟨⟨_,iL,.g (cs:=[.int .i64 j.Kind,.int .i64 j.Node,.int .i64 j.New.ID,.int .i64 j.New.Kind,.sl<|j.New.Attrs.map AC.row,.sl<|j.New.Flow.map AD.row,.int .i64 j.New.Grid.Rows,.int .i64 j.New.Grid.Cols,.sl<|j.New.Grid.Cells.map Aw.row,.sl<|j.New.Grid.Merges.map As.row,.sl<|j.New.Draw.map BN.row,.sl<|j.Attrs.map AC.row,.sl<|j.Steps.map AI.row,.sl<|j.Grid.Rows.map DK.row,.sl<|j.Grid.Cols.map DK.row,.sl<|j.Grid.Cells.map Aw.row,.sl<|j.Grid.Split.map As.row,.sl<|j.Grid.Merge.map As.row,.sl<|j.Draw.map BN.row]) R R⟩,⟨_,iL,.g (cs:=[.int .i64 l.Kind,.int .i64 l.Node,.int .i64 l.New.ID,.int .i64 l.New.Kind,.sl<|l.New.Attrs.map AC.row,.sl<|l.New.Flow.map AD.row,.int .i64 l.New.Grid.Rows,.int .i64 l.New.Grid.Cols,.sl<|l.New.Grid.Cells.map Aw.row,.sl<|l.New.Grid.Merges.map As.row,.sl<|l.New.Draw.map BN.row,.sl<|l.Attrs.map AC.row,.sl<|l.Steps.map AI.row,.sl<|l.Grid.Rows.map DK.row,.sl<|l.Grid.Cols.map DK.row,.sl<|l.Grid.Cells.map Aw.row,.sl<|l.Grid.Split.map As.row,.sl<|l.Grid.Merge.map As.row,.sl<|l.Draw.map BN.row]) R R⟩,Za⟩ (λ_=>qK<|Y) R<|qP R (A0 R iL)<|AQ.nil<|U _<|cI R h7 (λZ=>?_) λZ=>?_
  ·exact zB (I _<|xH w Z) R id
  refine Zd<|T _<|aF [0,1,12,13] ?_
  exact aR<|AG Z λx6 a0 h9=>xA R a0<|mM R<|Zh<|Zx h9 (AH [(B 0)]) wk
 exact Zn<|E _ _ wk<|J1 _ (AH [(B 0)])<|xH w O
theorem pk{d1 j a r}(h:JY d1 j a=some r):AO prog 14 [.agg [qg d1.Nodes],.agg<|A5 j,rS a] (rI r):=by
 unfold JY at h
 refine mF func14 ntmps14 R λJ=>aU<|sS R (Ay (cs:=[qg d1.Nodes]) 3 R iL R R)<|sS R (Ay (cs:=(A5 j)) 4 R iL R R)<|mA R<|aZ<|aT λA=>aU<|xC EF R<|xC D8 R<|AG h λM l B=>cL (Yn<|l) R<|mA R<|aZ<|aU<|mM R<|xU R<|aZ<|cI R B (λq=>?_) λq=>?_
 ·refine aT λC=>aF [7] ?_
  exact aR<|mM R<|mA R<|aZ<|C _<|Zj<|yI q R
 refine Zd<|A _<|aT λE=>aT λF=>aF [2] ?_
 refine aR<|mM R<|sQ R (Ds R iL iL)<|mM R<|vM R<|AG q λO u I=>vL (λhg=>XD<|AP u hg) R<|vQ R (A0 R<|iR R)<|xN R<|aZ<|F _<|cI R I (λw=>?_) λw=>?_
 ·exact zI w R id
 exact Zd<|E _<|zI w R id
theorem lf{f1 r}(h:PT f1=some r):AO prog 17 [qb f1] (qb r):=by
 unfold PT at h
 refine mF func17 ntmps17 R λB=>aU<|mA R<|aZ<|aU<|mA R<|aZ<|aU<|mM R<|AG h λq E h1=>sS R (CB (r:=.r<|.sl<|q.map<|Aj .i64) (caps:=[]) (bs:=[qb f1,rI 0]) R iL R ⟨.inl ⟨iL,R⟩,.inl ⟨iL,R⟩,Za⟩ λ_=>Vq<|E)<|mA R<|aZ<|aS λK4 c4 F=>aU<|mM R<|xL B9 R<|mM R<|aZ<|Zf<|A3 h1 λo1 A I=>?_
 have J1:∀(j:List AD) (C:NN),o1=j→K4 ⟨[(3,.own 5003<|C 0)],[(5003,some<|.arr (C 0) 51 3<|j.map AD.row)],(C 1),25⟩:=by
  intro j C e
  have h2:=I _ e
  exact c4 _<|aU<|mM R<|mA R<|aZ<|Zj<|Cz (P:=prog) (λ(r:(List AD))=>qb r) h2 iL<|.t<|.one<|.own R
 refine ZL (λ(J:Int) (l:List AD) u=>⟨[(0,qb f1),(3,.own 5003<|u 0),(4,.r<|.sl<|q.map<|Aj .i64),(9,rL q),(10,rI J)],[(5003,some<|.arr (u 0) 51 3<|l.map AD.row)],(u 1),25⟩) (AH [B,(B+1)]) A (Zm (Zm (ZR 3 5003 51 3 (by decide) R)<|by exact ZC (e':=[(0,qb f1),(2,cZ),(3,.own 5003 B),(4,.r<|.sl<|q.map<|Aj .i64),(6,qb f1),(7,.r<|.sl<|q.map<|Aj .i64),(8,.r<|.sl<|q.map<|Aj .i64),(9,rL q),(10,rI 0)]) (h':=[(5003,some<|.arr B 51 3<|([]:List AD).map AD.row)]) ⟨jL,jL,jL,jL,jL,jL,jL,jL,jL,Za⟩ ⟨.inl R,Za⟩ nL) wk) ?_
 intro J l u v1 M O
 have Y:MF f1 q J l=some v1:=M;unfold MF at Y
 refine aU<|xS R<|aZ<|aT λc8=>cI R Y (λT=>?_) λT=>?_
 ·refine Zd<|c8 _<|aT λc9=>Zf<|aU<|mM R<|mA R<|aZ<|aR<|mM R<|mM R<|mM R<|mM R<|AG T λx4 U h5=>xI B9 R U<|xV (.int .i64 x4) AJ R<|AG h5 λZ V h6=>xI Ah R V<|xB ((Ad Z)) Cj R<|sS R (Bw 21 R Ah (f:=AD.row) (l:=([Z]:List AD)) ⟨R,⟨_,iL,R⟩,Za⟩ R (λ_=>R) R)<|AG h6 λa0 w h7=>sS R (Ca R Ah iL R (.inr<|.inl ⟨_,_,iL,R⟩) w)<|mA R<|aZ<|c9 _<|aG [0,3,4,9,10] [5003] ?_
  exact aR<|AG h7 λx6 X h8=>xA R X<|mM R<|Zh<|ZH h8 (AH [((u 1)+1),((u 1)+2)]) wk
 exact Zn<|F _ _ wk<|J1 _ (AH [(u 0),(u 1)])<|xH O T
theorem nI{n r}(h:P0 n=some r):AO prog 56 [rS n] (rB r):=by
 unfold P0 at h
 refine mF func56 ntmps56 R λl=>aU<|mA R<|aZ<|aT λZ=>aU<|mM R<|aZ<|Zf<|aS λK4 c4 j=>aU<|sQ R (Bo R iL iL)<|mA R<|aZ<|A3 h λp1 B C=>?_
 have q:∀(E:Bool) (Y:NN),p1=E→K4 ⟨[(4,rB E)],[],(Y 0),15⟩:=by
  intro E Y e
  have h1:=C _ e
  refine c4 _<|cI R h1 (λF=>?_) λF=>?_
  ·exact zB F R id
  exact Zd<|Z _<|zB F R id
 refine aC R (λu=>?_) λu=>?_
 ·have I:=Br u B
  exact Zd<|j _ _ wk<|q _ (AH [l]) (Zb I).symm
 ·have I:=Bt u B
  refine aU<|sQ R (Bo R iL iL)<|mA R<|aZ<|cI R I (λJ=>?_) λJ=>?_
  ·exact Zd<|j _ _ wk<|q _ (AH [l]) (Zb J).symm
  refine aU<|sQ R (Bo R iL iL)<|mA R<|aZ<|cI R J (λM=>?_) λM=>?_
  ·exact Zd<|j _ _ wk<|q _ (AH [l]) (Zb M).symm
  refine aU<|sQ R (Bo R iL iL)<|mA R<|aZ<|cI R M (λO=>?_) λO=>?_
  ·exact Zd<|j _ _ wk<|q _ (AH [l]) (Zb O).symm
  refine aU<|sQ R (Bo R iL iL)<|mA R<|aZ<|cI R O (λT=>?_) λT=>?_
  ·exact Zd<|j _ _ wk<|q _ (AH [l]) (Zb T).symm
  refine aU<|sQ R (Bo R iL iL)<|mA R<|aZ<|cI R T (λU=>?_) λU=>?_
  ·exact Zd<|j _ _ wk<|q _ (AH [l]) (Zb U).symm
  refine aT λV=>aF [3] ?_
  refine aR<|sQ R (Bo R iL iL)<|mA R<|aZ<|V _<|cI R U (λX=>?_) λX=>?_
  ·exact Zd<|j _ _ wk<|q _ (AH [l]) (Zb X).symm
  refine aU<|sQ R (Bo R iL iL)<|mA R<|aZ<|cI R X (λw=>?_) λw=>?_
  ·exact Zd<|j _ _ wk<|q _ (AH [l]) (Zb w).symm
  refine aU<|sQ R (Bo R iL iL)<|mA R<|aZ<|cI R w (λA=>?_) λA=>?_
  ·exact Zd<|j _ _ wk<|q _ (AH [l]) (Zb A).symm
  exact aR<|sQ R (Bo R iL iL)<|mA R<|Zh<|j _ _ wk<|q _ (AH [l]) (Zb A).symm
theorem PF{B w r}(h:II B w=some r):AO prog 57 [qa B,.agg<|BF w] (qa r):=by
 unfold II at h
 refine mF func57 ntmps57 R λA=>aU<|sS R (Ay (cs:=(BF w)) 3 R iL R R)<|mA R<|aZ<|aU<|mA R<|aZ<|aU<|mA R<|aZ<|aS λK4 c4 ad=>aU<|mM R<|xL Ac R<|mM R<|aZ<|Zf<|LN h λo1 a7 ae=>?_
 have J1:∀(j:Bool) (C:List AC) (T:NN),o1=(j,C)→K4 ⟨[(3,.ptr 3 A 0 0),(5,.own 5005<|T 0),(6,rB j)],[(3,some<|.box A 58<|BF w),(5005,some<|.arr (T 0) 58 2<|C.map AC.row)],(T 1),52⟩:=by
  intro j C T e
  have h1:=ae _ _ e
  refine c4 _<|aS λK6 c6 a8=>aU<|mM R<|sQ R (A0 R iL)<|aZ<|A3 h1 λp1 aa af=>?_
  have J2:∀(E:List AC) (i6:NN),p1=E→K6 ⟨[(5,.own 5005<|i6 0)],[(5005,some<|.arr (i6 0) 58 2<|E.map AC.row)],(i6 1),52⟩:=by
   intro E i6 e
   have h2:=af _ e
   exact c6 _<|aU<|mM R<|mA R<|aZ<|Zj<|Cz (P:=prog) (λ(r:(List AC))=>qa r) h2 iL<|.t<|.one<|.own R
  refine aC R (λX=>?_) λX=>?_
  ·have h3:=Br X aa
   exact aR<|mM R<|xC CJ R<|sS R (Bw 49 R Ac (f:=AC.row) (l:=([w]:List AC)) ⟨R,⟨_,iL,R⟩,Za⟩ R (λ_=>R) R)<|AG h3 λb4 Y h4=>sS R (Ca R Ac iL R (.inr<|.inl ⟨_,_,iL,R⟩) Y)<|mA R<|Zh<|a8 _ _ wk<|J2 _ (AH [((T 1)+1),((T 1)+2)]) (Zb h4).symm
  ·have h3:=Bt X aa
   exact Zd<|a8 _ _ wk<|J2 _ (AH [(T 0),(T 1)]) (Zb h3).symm
 refine IP (λ(l:Bool) (x2:Int) (F:List AC) M=>⟨[(0,qa B),(3,.ptr 3 A 0 0),(5,.own 5005<|M 0),(6,rB l),(9,rL B),(10,rI x2)],[(3,some<|.box A 58<|BF w),(5005,some<|.arr (M 0) 58 2<|F.map AC.row)],(M 1),52⟩) (AH [(A+1),(A+2)]) a7 (Zm (Zm (ZR 5 5005 58 2 (by decide) R)<|by exact ZC (e':=[(0,qa B),(1,.agg<|BF w),(3,.ptr 3 A 0 0),(4,cZ),(5,.own 5005<|A+1),(6,rB false),(8,qa B),(9,rL B),(10,rI 0)]) (h':=[(3,some<|.box A 58<|BF w),(5005,some<|.arr (A+1) 58 2<|([]:List AC).map AC.row)]) ⟨jL,jL,jL,jL,jL,jL,jL,jL,jL,Za⟩ ⟨.inl R,.inl R,Za⟩ nL) wk) ?_
 intro l x2 F M v1 ag ah
 have h5:OY B w l x2 F=some v1:=ag;unfold OY at h5
 refine aU<|xS R<|aZ<|aT λai=>cI R h5 (λh6=>?_) λh6=>?_
 ·refine Zd<|ai _<|aS λaj ak U=>Zf<|LN h6 λp2 al an=>?_
  have J3:∀(q:Bool) (I:List AC) (i7:NN),p2=(q,I)→aj ⟨[(0,qa B),(3,.ptr 3 A 0 0),(5,.own 5005<|i7 0),(6,rB q),(9,rL B),(10,rI x2)],[(3,some<|.box A 58<|BF w),(5005,some<|.arr (i7 0) 58 2<|I.map AC.row)],(i7 1),52⟩:=by
   intro q I i7 e
   have h7:=an _ _ e
   exact ak _<|aR<|AG h7 λx4 ao h8=>xA R ao<|mM R<|Zh<|Dg.mk h8 (AH [(i7 0),(i7 1)]) wk
  refine aU<|mM R<|mA R<|aZ<|aS λaq ar V=>aT λav=>?_
  refine ZA BJ (by kernel_rfl) ?_
  refine qP R (AK R iL)<|qP R (A0 R iL)<|qP R (AK R iL)<|qO R (AK R iL)<|qO R (AK R iL)<|AG al λx5 aw h9=>qO R (Ap R Ac.slice (iR R) (iR R) (λ_=>R)<|AP aw)<|qO R (A2 R CO<|iR R)<|qO R (BU (d:=.str x5.Name) R BC (iR R) R)<|qO R (fB R CO iL fR R)<|qO R (AZ (a:=rS w.Name) R BC (iR R) R R)<|qO R (V8 R (iR R)<|iR R)<|qP R (BP R iL<|iR R)<|AQ.nil<|av _<|LN h9 λp3 ab ax=>?_
  have J4:∀(u:Bool) (J:List AC) (i8:NN),p3=(u,J)→aq ⟨[(0,qa B),(3,.ptr 3 A 0 0),(5,.own 5005<|i8 0),(6,rB u),(7,rI x2),(9,rL B),(10,rI x2)],[(3,some<|.box A 58<|BF w),(5005,some<|.arr (i8 0) 58 2<|J.map AC.row)],(i8 1),52⟩:=by
   intro u J i8 e
   have ay:=ax _ _ e
   refine ar _<|aT λaz=>?_
   refine ZA BJ (by kernel_rfl) ?_
   refine qP R (AK R iL)<|qP R (AK R iL)<|AG ay λx6 ac b0=>qP R (Ap R Ac.slice iL iL (λ_=>R) λ_=>ac)<|qP R (A2 R CO iL)<|qP R (BU (d:=.str x6.Name) R BC iL R)<|qP R (fB R CO iL fR R)<|qP R (AZ (a:=rS w.Name) R BC iL R R)<|qP R (Ds R iL iL)<|AQ.nil<|az _<|cI R b0 (λZ=>?_) λZ=>?_
   ·exact aR<|mM R<|mM R<|mM R<|xI Ac R ac<|xB ((BF x6)) CJ R<|sS R (Bw 42 R Ac (f:=AC.row) (l:=([x6]:List AC)) ⟨R,⟨_,iL,R⟩,Za⟩ R (λ_=>R) R)<|AG Z λb5 a0 b1=>sS R (Ca R Ac iL R (.inr<|.inl ⟨_,_,iL,R⟩) a0)<|mA R<|Zh<|U _ _ wk<|J3 _ _ (AH [((i8 1)+1),((i8 1)+2)]) (Zb b1).symm
   exact Zd<|U _ _ wk<|J3 _ _ (AH [(i8 0),(i8 1)]) (Zb Z).symm
  refine aC R (λa2=>?_) λa2=>?_
  ·have a6:=Br a2 ab
   refine aU<|mM R<|xC CJ R<|sS R (Bw 27 R Ac (f:=AC.row) (l:=([w]:List AC)) ⟨R,⟨_,iL,R⟩,Za⟩ R (λ_=>R) R)<|AG a6 λb2 O b3=>sS R (Ca R Ac iL R (.inr<|.inl ⟨_,_,iL,R⟩) O)<|mA R<|aZ<|aG [0,3,5,7,9,10] [3,5005] ?_
   exact aR<|mA R<|Zh<|V _ _ wk<|J4 _ _ (AH [((M 1)+1),((M 1)+2)]) (Zb b3).symm
  ·have a6:=Bt a2 ab
   exact Zd<|V _ _ wk<|J4 _ _ (AH [(M 0),(M 1)]) (Zb a6).symm
 exact Zn<|ad _ _ wk<|J1 _ _ (AH [(M 0),(M 1)])<|xH ah h6
theorem fw{l f r}(h:NU l f=some r):AO prog 110 [rS l,rS f] (rB r):=by
 unfold NU at h
 refine mF func110 ntmps110 R λw=>aU<|mA R<|aZ<|aT λq=>aR<|mM R<|sQ R (DE R underlying9 iL)<|mM R<|sQ R (DE R underlying9 iL)<|sQ R (BD R iL iL)<|mM R<|vM R<|vM R<|vQ R (DE R underlying9<|iR R)<|AG h λA j u=>?_
 refine vQ R (LT R underlying9 (iR R) (by exact R) (by exact⟨_,(iR R)⟩)<|AP j) ?_
 exact vM R<|vQ R (Bo R (iR R)<|iR R)<|xN R<|mA R<|aZ<|q _<|Zj<|yB u R
theorem aD{n r}(h:Mz n=some r):AO prog 58 [rS n] (rB r):=by
 unfold Mz at h
 exact mF func58 ntmps58 R λw=>aU<|mA R<|aZ<|aU<|mM R<|sQ R (Bo R iL iL)<|mM R<|vM R<|vQ R (Bo R (iR R) iL)<|xO R<|mM R<|vM R<|AG h λA j q=>vL (λhg=>fw<|AP j hg) R<|xO R<|mM R<|vM R<|AG q λB l u=>vL (λhg=>fw<|AP l hg) R<|xO R<|mA R<|aZ<|Zj<|yB u R
theorem oY{v1 b r}(h:Ld v1 b=some r):AO prog 18 [qb v1,rI b] (qa r):=by
 unfold Ld at h
 refine mF func18 ntmps18 R λu=>aU<|mA R<|aZ<|aT λc2=>aR ?_
 refine sQ R (Bg R KZ (q:=[(0,_)]) (by exact⟨R,R,R,iL,Za⟩) (cs:=LM)<|by rfl) ?_
 refine sQ R (Bg R KZ (q:=[(0,_)]) (by exact⟨R,R,R,iL,Za⟩) (cs:=LM)<|by rfl) ?_
 refine sS R (BB (cs:=Eo) 5 R Ee R R)<|sS R (BB (cs:=Eo) 6 R Ee R R)<|Zk R R (Af (ds:=LM) R DT iL R iL R R R R)<|Zk R R (Af (ds:=LM) R DT iL R iL R R R R)<|aZ<|c2 _<|aS λK3 c3 ak=>aU<|mM R<|sQ R (BD R iL iL)<|aZ<|A3 h λp1 al b6=>?_
 have J1:∀(l:AD) (i1:NN),p1=l→K3 ⟨[(0,qb v1),(1,rI b),(5,.ptr 5 u 0 0),(6,.ptr 6 (u+1) 0 0)],[(5,some<|.box u 51<|Ad l),(6,some<|.box (u+1) 51 LM)],(i1 0),89⟩:=by
  intro l i1 e
  have h1:=b6 _ e
  refine c3 _<|aS λK5 c5 an=>aU<|mM R<|mM R<|xL Ah R<|xS R<|aZ<|A3 h1 λp2 ao b7=>?_
  have J2:∀(j:AD) (J:NN),p2=j→K5 ⟨[(1,rI b),(5,.ptr 5 u 0 0),(6,.ptr 6 (u+1) 0 0)],[(5,some<|.box u 51<|Ad l),(6,some<|.box (u+1) 51<|Ad j)],(J 0),89⟩:=by
   intro j J e
   have h2:=b7 _ e
   refine c5 _<|aU<|xC Cj R<|sS R (BB (cs:=Eo) 7 R Ee R R)<|Zk R R (Af (ds:=(Ad l)) R DT iL R iL R R R R)<|aZ<|aS λK8 c8 aq=>aU<|lF D1 AJ R R<|xQ R<|aZ<|A3 h2 λp3 ar b8=>?_
   have J3:∀(q:AD) (i3:NN),p3=q→K8 ⟨[(1,rI b),(5,.ptr 5 u 0 0),(6,.ptr 6 (u+1) 0 0),(7,.ptr 7 (J 0) 0 0)],[(5,some<|.box u 51<|Ad l),(6,some<|.box (u+1) 51<|Ad j),(7,some<|.box (J 0) 51<|Ad q)],(i3 0),89⟩:=by
    intro q i3 e
    have h3:=b8 _ e
    refine c8 _<|aU<|mA R<|aZ<|aS λb9 ba O=>aU<|lF D1 AJ R R<|xU R<|aZ<|A3 h3 λp4 av bb=>?_
    have J4:∀(C:List AC) (i4:NN),p4=C→b9 ⟨[(1,rI b),(5,.ptr 5 u 0 0),(6,.ptr 6 (u+1) 0 0),(8,qa C)],[(5,some<|.box u 51<|Ad l),(6,some<|.box (u+1) 51<|Ad j)],(i4 0),89⟩:=by
     intro C i4 e
     have h4:=bb _ e
     refine ba _<|aS λbc bd T=>aU<|mM R<|sQ R (BD R iL iL)<|aZ<|A3 h4 λp5 aw be=>?_
     have J5:∀(E:List AC) (i5:NN),p5=E→bc ⟨[(8,qa E)],[],(i5 0),89⟩:=by
      intro E i5 e
      have h5:=be _ e
      exact bd _<|aU<|mM R<|mA R<|aZ<|Zj<|Cz (P:=prog) (λ(r:(List AC))=>qa r) h5 iL<|.t<|.d R
     refine aC R (λZ=>?_) λZ=>?_
     ·have h6:=Br Z aw
      refine aU<|lF CR BA R R<|xL Ac R<|mM R<|aZ<|Zf<|BI h6 λo1 ax cm bf=>ZL (λ(A:List AC) (x2:Int) i8=>⟨[(5,.ptr 5 u 0 0),(6,.ptr 6 (u+1) 0 0),(8,qa A),(62,rL l.Attrs),(63,rI x2)],[(5,some<|.box u 51<|Ad l),(6,some<|.box (u+1) 51<|Ad j)],(i8 0),89⟩) (AH [(i4 0)]) ax wk ?_
      intro A x2 i8 v2 bg bh
      have h7:Ly l j A x2=some v2:=bg;unfold Ly at h7
      refine aU<|xS R<|aZ<|aT λbi=>cI R h7 (λh8=>?_) λh8=>?_
      ·refine Zd<|bi _<|aS λbj bk U=>Zf<|A3 h8 λp6 bl bm=>?_
       have J7:∀(F:List AC) (a0:NN),p6=F→bj ⟨[(5,.ptr 5 u 0 0),(6,.ptr 6 (u+1) 0 0),(8,qa F),(62,rL l.Attrs),(63,rI x2)],[(5,some<|.box u 51<|Ad l),(6,some<|.box (u+1) 51<|Ad j)],(a0 0),89⟩:=by
        intro F a0 e
        have h9:=bm _ e
        exact bk _<|aR<|AG h9 λx4 bn bo=>xA R bn<|mM R<|Zh<|ZH bo (AH [(a0 0)]) wk
       refine aU<|mM R<|mA R<|aZ<|aU<|lF CR BA R R<|mM R<|AG bl λV bp bq=>xI Ac R bp<|xB ((BF V)) CJ R<|sS R (BB (cs:=[.r<|.str [],.r<|.str []]) 11 R KW R R)<|Zk R R (Af (ds:=(BF V)) R JU iL R iL R R R R)<|aZ<|aT λbr=>?_
       refine ZA BJ (by kernel_rfl) ?_
       refine qP R (fB R CO iL fR R)<|qP R (AZ (a:=rS V.Name) R BC iL R R)<|AG bq λr1 bs bt=>Ep R R R (r:=rB r1) (caps:=[]) (bs:=[rS V.Name]) R iL R ⟨⟨_,iL,.d R⟩,Za⟩ (λ_=>aD<|bs) R<|qP R (AK R iL)<|qO R (fB R CR iL fR R)<|qO R (AZ (a:=qa j.Attrs) R BA (iR R) R R)<|qO R (fB R CO iL fR R)<|qO R (AZ (a:=rS V.Name) R BC (iR R) R R)<|AG bt λr2 bu bv=>HS (.one R R R) R R (r:=rS r2) (caps:=[]) (bs:=[qa j.Attrs,rS V.Name]) R iL R ⟨⟨_,(iR R),.d R⟩,⟨_,(iR R),.d R⟩,Za⟩ (λhg=>YK<|AP bu hg) R<|qO R (fB R Hv iL fR R)<|qO R (AZ (a:=rS V.Value) R BC (iR R) R R)<|qO R (Bo R (iR R)<|iR R)<|qP R (BP R iL<|iR R)<|AQ.nil<|br _<|cI R bv (λa1=>?_) λa1=>?_
       ·refine aG [5,6,8,11,62,63] [5,6,11] ?_
        exact aR<|mM R<|xC CJ R<|AG a1 λay a2 bw=>sS R (CB (r:=qa ay) (caps:=[]) (bs:=[qa A,.agg<|BF V]) R iL R ⟨.inl ⟨iL,R⟩,.inl ⟨iL,R⟩,Za⟩ λ_=>PF<|a2)<|mA R<|Zh<|U _ _ wk<|J7 _ (AH [((i8 0)+1)]) (Zb bw).symm
       exact Zd<|U _ _ wk<|J7 _ (AH [((i8 0)+1)]) (Zb a1).symm
      exact Zn<|T _ _ wk<|J5 _ (AH [(i8 0)]) (Zb<|bf _<|xH bh h8).symm
     ·have h6:=Bt Z aw
      exact Zd<|T _ _ wk<|J5 _ (AH [(i4 0)]) (Zb h6).symm
    refine aC R (λa6=>?_) λa6=>?_
    ·have a7:=Br a6 av
     refine aU<|lF CR BA R R<|xL Ac R<|mM R<|aZ<|Zf<|BI a7 λo2 az cn bx=>?_
     refine ZL (λ(B:List AC) (x7:Int) I=>⟨[(1,rI b),(5,.ptr 5 u 0 0),(6,.ptr 6 (u+1) 0 0),(7,.ptr 7 (J 0) 0 0),(8,qa B),(39,rL q.Attrs),(40,rI x7)],[(5,some<|.box u 51<|Ad l),(6,some<|.box (u+1) 51<|Ad j),(7,some<|.box (J 0) 51<|Ad q)],(I 0),89⟩) (AH [(i3 0)]) az ((by exact ZC ⟨jL,jL,jL,jL,.inl<|.inr<|.inr ⟨R,R⟩,jL,jL,Za⟩ ⟨.inl R,.inl R,.inl R,Za⟩ nL)) ?_
     intro B x7 I v3 bz c0
     have b0:Lp q B x7=some v3:=bz;unfold Lp at b0
     refine aU<|xS R<|aZ<|aT λc1=>cI R b0 (λa8=>?_) λa8=>?_
     ·refine Zd<|c1 _<|aS λc4 c6 X=>Zf<|A3 a8 λp7 c7 c9=>?_
      have J9:∀(w:List AC) (aa:NN),p7=w→c4 ⟨[(1,rI b),(5,.ptr 5 u 0 0),(6,.ptr 6 (u+1) 0 0),(7,.ptr 7 (J 0) 0 0),(8,qa w),(39,rL q.Attrs),(40,rI x7)],[(5,some<|.box u 51<|Ad l),(6,some<|.box (u+1) 51<|Ad j),(7,some<|.box (J 0) 51<|Ad q)],(aa 0),89⟩:=by
       intro w aa e
       have ca:=c9 _ e
       exact c6 _<|aR<|AG ca λx9 cb cc=>xA R cb<|mM R<|Zh<|ZH cc (AH [(aa 0)]) wk
      refine aU<|mM R<|mA R<|aZ<|aU<|lF CR BA R R<|mM R<|AG c7 λab Y cd=>xI Ac R Y<|sQ R (A2 R CO iL)<|xV (.str ab.Name) BC R<|AG cd λr3 cf cg=>cL (nI<|cf) R<|aZ<|cI R cg (λac=>?_) λac=>?_
      ·refine aG [1,5,6,7,8,9,39,40] [5,6,7] ?_
       exact aR<|mM R<|lF CR BA R R<|mM R<|xI Ac R Y<|xB ((BF ab)) CJ R<|AG ac λad M ch=>sS R (CB (r:=qa ad) (caps:=[]) (bs:=[qa B,.agg<|BF ab]) R iL R ⟨.inl ⟨iL,R⟩,.inl ⟨iL,R⟩,Za⟩ λ_=>PF<|M)<|mA R<|Zh<|X _ _ wk<|J9 _ (AH [(I 0)]) (Zb ch).symm
      exact Zd<|X _ _ wk<|J9 _ (AH [(I 0)]) (Zb ac).symm
     exact Zn<|O _ _ wk<|J4 _ (AH [(I 0)]) (Zb<|bx _<|xH c0 a8).symm
    ·have a7:=Bt a6 av
     refine Zd ?_
     exact O _ _ ((by exact ZC ⟨jL,jL,jL,.inl<|.inr<|.inr ⟨R,R⟩,Za⟩ ⟨.inl R,.inl R,Za⟩ nL))<|J4 _ (AH [(i3 0)]) (Zb a7).symm
   refine aC R (λae=>?_) λae=>?_
   ·have af:=Br ae ar
    exact aR<|xC Cj R<|Zk R R (Af (ds:=(Ad j)) R DT iL R iL R R R R)<|Zh<|aq _ _ wk<|J3 _ (AH [((J 0)+1)]) (Zb af).symm
   ·have af:=Bt ae ar
    exact Zd<|aq _ _ wk<|J3 _ (AH [((J 0)+1)]) (Zb af).symm
  refine aC R (λag=>?_) λag=>?_
  ·have ah:=Br ag ao
   exact aR<|mM R<|mM R<|AG ah λb1 b2 cj=>xI Ah R b2<|xB ((Ad b1)) Cj R<|Zk R R (Af (ds:=(Ad b1)) R DT iL R iL R R R R)<|Zh<|an _ _ wk<|J2 _ (AH [(i1 0)]) (Zb cj).symm
  ·have ah:=Bt ag ao
   refine Zd ?_
   exact an _ _ ((by exact ZC ⟨jL,jL,jL,Za⟩ ⟨.inl R,.inr<|.inr ⟨_,_,_,_,R,R,⟨.inl R,.inl R,.inr<|.inr ⟨R,R⟩,Za⟩⟩,Za⟩ nL))<|J2 _ (AH [(i1 0)]) (Zb ah).symm
 refine aC R (λai=>?_) λai=>?_
 ·have aj:=Br ai al
  exact aR<|mM R<|mM R<|AG aj λcp b3 ck=>sQ R (CF R iL iL λ_=>b3)<|AG ck λb4 b5 cl=>xI Ah R b5<|xB ((Ad b4)) Cj R<|Zk R R (Af (ds:=(Ad b4)) R DT iL R iL R R R R)<|Zh<|ak _ _ wk<|J1 _ (AH [(u+2)]) (Zb cl).symm
 ·have aj:=Bt ai al
  refine Zd ?_
  exact ak _ _ ((by exact ZC ⟨jL,jL,jL,jL,Za⟩ ⟨.inr<|.inr ⟨_,_,_,_,R,R,⟨.inl R,.inl R,.inr<|.inr ⟨R,R⟩,Za⟩⟩,.inl R,Za⟩ nL))<|J1 _ (AH [(u+2)]) (Zb aj).symm
theorem ln{F a r}(h:LS F a=some r):BY prog 15 1 [rS F,qa a] [] (λA h'=>∃(i:Nat→Nat),A=.tup [.own 1000<|i 0,rI r.1]∧h'=[(1000,some<|.arr (i 0) 51 3<|r.2.map AD.row)]):=by
 unfold LS at h
 refine Dq func15 R R ntmps15 (Zw R) λq=>aU<|mA R<|mA R<|aZ<|aT λc2=>aU<|mM R<|AG h λu M h1=>cL (ML<|M) R<|mA R<|aZ<|aU<|mM R<|xU R<|aZ<|cI R h1 (λO=>?_) λO=>?_
 ·refine aU<|mM R<|mA R<|mA R<|aZ ?_
  exact Zj<|ZM (s':=⟨[(4,.own 1000 q),(5,rI u)],[(1000,some<|.arr q 51 3<|([]:List AD).map AD.row)],(q+1),48⟩) (Zm (Zm (ZR 4 1000 51 3 (by decide) R)<|by exact ZC (e':=[(0,rS F),(1,qa a),(4,.own 1000 q),(5,rI u),(6,rI u),(11,qa a),(12,rI u),(13,rI u),(14,rB<|(!(u=0))),(15,rI u)]) (h':=[(1000,some<|.arr q 51 3<|([]:List AD).map AD.row)]) ⟨jL,jL,jL,jL,jL,jL,jL,jL,jL,jL,Za⟩ ⟨.inl R,Za⟩ nL) wk)<|B8 (λ(r:Int × (List AD)) A h'=>∃(i:Nat→Nat),A=.tup [.own 1000<|i 0,rI r.1]∧h'=[(1000,some<|.arr (i 0) 51 3<|r.2.map AD.row)]) O<|by exact⟨.tup [.own 1000 q,rI u],[(1000,some<|.arr q 51 3<|([]:List AD).map AD.row)],⟨_,R,⟨R,R,Za⟩⟩,⟨.inr R,Za⟩,R,R,AH [q],R,R⟩
 refine Zd<|c2 _<|aU<|mA R<|aZ<|aS λK7 c7 T=>aU<|mA R<|aZ<|Zf<|BI O λo1 I U J=>?_
 have J1:∀(l:List AD) (i8:NN),o1=.nrm l→K7 ⟨[(7,.own 5007<|i8 0)],[(5007,some<|.arr (i8 0) 51 3<|l.map AD.row)],(i8 1),48⟩:=by
  intro l i8 e
  have h3:=U _ e
  refine c7 _<|aU<|mM R<|mA R<|mA R<|aZ ?_
  exact Zj<|ZM (s':=⟨[(4,.own 1000<|i8 1),(5,rI 0)],[(1000,some<|.arr (i8 1) 51 3<|l.map AD.row)],((i8 1)+1),48⟩) (Zm (Zm (Ak.ren 4 5007 1000 R R R)<|by exact ZC (e':=[(4,.own 1000<|i8 1),(5,rI 0)]) (h':=[(1000,some<|.arr (i8 1) 51 3<|l.map AD.row)]) ⟨jL,jL,Za⟩ ⟨.inl R,Za⟩ nL) wk)<|B8 (λ(r:Int × (List AD)) A h'=>∃(i:Nat→Nat),A=.tup [.own 1000<|i 0,rI r.1]∧h'=[(1000,some<|.arr (i 0) 51 3<|r.2.map AD.row)]) h3<|by exact⟨.tup [.own 1000<|i8 1,rI 0],[(1000,some<|.arr (i8 1) 51 3<|l.map AD.row)],⟨_,R,⟨R,R,Za⟩⟩,⟨.inr R,Za⟩,R,R,AH [(i8 1)],R,R⟩
 refine ZL (λ(V:Int) (w:List AD) j=>⟨[(0,rS F),(1,qa a),(7,.own 5007<|j 0),(8,rI V)],[(5007,some<|.arr (j 0) 51 3<|w.map AD.row)],(j 1),48⟩) (AH [q,(q+1)]) I (Zm (Zm (ZR 7 5007 51 3 (by decide) R)<|by exact ZC (e':=[(0,rS F),(1,qa a),(4,cZ),(5,rI 0),(6,rI u),(7,.own 5007 q),(8,rI 0),(11,qa a),(12,rI u),(13,rI u),(14,rB<|(!(u=0)))]) (h':=[(5007,some<|.arr q 51 3<|([]:List AD).map AD.row)]) ⟨jL,jL,jL,jL,jL,jL,jL,jL,jL,jL,jL,Za⟩ ⟨.inl R,Za⟩ nL) wk) ?_
 intro V w j v1 X B
 have h4:Gv F a V w=some v1:=X;unfold Gv at h4
 refine aT λY=>aU<|mM R<|mM R<|sQ R (DE R underlying9 iL)<|xS R<|aZ<|cI R h4 (λZ=>?_) λZ=>?_
 ·refine Zd<|Y _<|Zf<|aT λa0=>aR<|mM R<|mM R<|AG Z λs2 a1 h6=>?_
  refine sQ R (LT R underlying9 iL (by exact⟨_,iL⟩) (by exact R) λ_=>a1) ?_
  refine DQ h6 λr1 r2 a2 h7=>cL (Vl<|a2) R<|mM R<|xX R<|xX R<|mA R<|mA R<|aZ<|a0 _<|aT λa6=>aT λa7=>aG [0,1,7,8,9,10] [5007] ?_
  refine aR<|mM R<|xQ R<|mM R<|vM R<|vQ R (B7 R (iR R) iL)<|xN R<|aZ<|a7 _<|cI R h7 (λh8=>?_) λh8=>?_
  ·refine aT λa8=>aF [] ?_
   refine aR<|mA R<|mA R<|oZ a8 ?_
   exact Zj<|ZM (s':=⟨[(4,.own 1000<|j 1),(5,rI 10)],[(1000,some<|.arr (j 1) 51 3<|([]:List AD).map AD.row)],((j 1)+1),48⟩) (Zm (Zm (ZR 4 1000 51 3 (by decide) R)<|by exact ZC (e':=[(4,.own 1000<|j 1),(5,rI 10)]) (h':=[(1000,some<|.arr (j 1) 51 3<|([]:List AD).map AD.row)]) ⟨jL,jL,Za⟩ ⟨.inl R,Za⟩ nL) wk)<|B8 (λ(r:Int × (List AD)) A h'=>∃(i:Nat→Nat),A=.tup [.own 1000<|i 0,rI r.1]∧h'=[(1000,some<|.arr (i 0) 51 3<|r.2.map AD.row)]) (J _<|xH B h8)<|by exact⟨.tup [.own 1000<|j 1,rI 10],[(1000,some<|.arr (j 1) 51 3<|([]:List AD).map AD.row)],⟨_,R,⟨R,R,Za⟩⟩,⟨.inr R,Za⟩,R,R,AH [(j 1)],R,R⟩
  refine Zd<|a6 _<|aT λaa=>aU<|mM R<|sQ R (D2 R underlying21 underlying3 iL)<|AG h8 λr3 ab h9=>cL (Xp<|ab) R<|sQ R (A0 R iL)<|aZ<|cI R h9 (λC=>?_) λC=>?_
  ·refine aT λac=>aF [] ?_
   refine aR<|mA R<|mA R<|oZ ac ?_
   exact Zj<|ZM (s':=⟨[(4,.own 1000<|j 1),(5,rI 2)],[(1000,some<|.arr (j 1) 51 3<|([]:List AD).map AD.row)],((j 1)+1),48⟩) (Zm (Zm (ZR 4 1000 51 3 (by decide) R)<|by exact ZC (e':=[(4,.own 1000<|j 1),(5,rI 2)]) (h':=[(1000,some<|.arr (j 1) 51 3<|([]:List AD).map AD.row)]) ⟨jL,jL,Za⟩ ⟨.inl R,Za⟩ nL) wk)<|B8 (λ(r:Int × (List AD)) A h'=>∃(i:Nat→Nat),A=.tup [.own 1000<|i 0,rI r.1]∧h'=[(1000,some<|.arr (i 0) 51 3<|r.2.map AD.row)]) (J _<|xH B C)<|by exact⟨.tup [.own 1000<|j 1,rI 2],[(1000,some<|.arr (j 1) 51 3<|([]:List AD).map AD.row)],⟨_,R,⟨R,R,Za⟩⟩,⟨.inr R,Za⟩,R,R,AH [(j 1)],R,R⟩
  refine Zd<|aa _<|aT λad=>aR<|mM R<|mM R<|sQ R (D2 R underlying21 underlying3 iL)<|mM R ?_
  refine sQ R (Bg R KZ (q:=[(0,_),(2,_)]) (by exact⟨R,R,R,iL,R,R,R,iL,Za⟩) (cs:=[rI<|(IntKind.i64.wrap r1),rI 0,qa a])<|by rfl) ?_
  refine sS R (Bw 42 R Ah (f:=AD.row) (l:=([(AD.mk (IntKind.i64.wrap r1) 0 a)]:List AD)) ⟨R,⟨_,iL,R⟩,Za⟩ R (λ_=>R) R)<|AG C λah E ae=>sS R (Ca R Ah iL R (.inr<|.inl ⟨_,_,iL,R⟩) E)<|mA R<|aZ<|ad _<|aG [0,1,7,8,10] [5007] ?_
  exact aR<|mM R<|mM R<|AG ae λi9 af ag=>xA R af<|mA R<|Zh<|ZH ag (AH [((j 1)+1),((j 1)+2)]) wk
 exact Zn<|T _ _ wk<|J1 _ (AH [(j 0),(j 1)])<|xH B Z
theorem kb{v1 a r}(h:LO v1 a=some r):AO prog 19 [qb v1,rI a] (qa r):=by
 unfold LO at h
 refine mF func19 ntmps19 R λn0=>aU<|mA R<|aZ<|aS λK2 c2 ac=>Zf<|A3 h λo1 a0 ad=>?_
 have J1:∀(q:Int) (i5:NN),o1=q→K2 ⟨[(0,qb v1),(1,rI q)],[],(i5 0),62⟩:=by
  intro q i5 e
  have h1:=ad _ e
  refine c2 _<|aU<|mA R<|aZ<|aT λc4=>aU<|mM R<|mM R<|xL Ah R<|xQ R<|aZ<|cI R h1 (λh2=>?_) λh2=>?_
  ·exact aU<|mM R<|mA R<|aZ<|Zj<|Cz (P:=prog) (λ(r:(List AC))=>qa r) h2 iL<|.t<|.one<|.nil
  refine Zd<|c4 _<|aS λK7 c7 ae=>aU<|mM R<|mM R<|AG h2 λZ a1 h3=>xI Ah R a1<|sQ R (A2 R CR iL)<|xV (.sl<|Z.Attrs.map AC.row) BA R<|xL Ac R<|mM R<|aZ<|Zf<|A3 h3 λo2 a2 af=>?_
  have J2:∀(u:List AC) (a6:NN),o2=u→K7 ⟨[(5,qa u)],[],(a6 0),62⟩:=by
   intro u a6 e
   have h4:=af _ e
   exact c7 _<|aU<|mM R<|mA R<|aZ<|Zj<|Cz (P:=prog) (λ(r:(List AC))=>qa r) h4 iL<|.t<|.d R
  refine ZL (λ(l:List AC) (x3:Int) i8=>⟨[(0,qb v1),(1,rI q),(5,qa l),(32,rL Z.Attrs),(33,rI x3)],[],(i8 0),62⟩) (AH [(i5 0)]) a2 ((by exact ZC ⟨jL,jL,.inl<|.inr<|.inr ⟨R,R⟩,jL,jL,Za⟩ Za nL)) ?_
  intro l x3 i8 v2 ag ah
  have h5:Lc Z l x3=some v2:=ag;unfold Lc at h5
  refine aU<|xS R<|aZ<|aT λai=>cI R h5 (λh6=>?_) λh6=>?_
  ·refine Zd<|ai _<|aS λaj ak w=>Zf<|A3 h6 λp1 al an=>?_
   have J3:∀(A:List AC) (C:NN),p1=A→aj ⟨[(0,qb v1),(1,rI q),(5,qa A),(32,rL Z.Attrs),(33,rI x3)],[],(C 0),62⟩:=by
    intro A C e
    have h7:=an _ e
    exact ak _<|aR<|AG h7 λx5 ao h8=>xA R ao<|mM R<|Zh<|ZH h8 (AH [(C 0)]) wk
   refine aU<|mM R<|mA R<|aZ<|aU<|mM R<|mM R<|xI Ah R a1<|sQ R (A2 R CR iL)<|xV (.sl<|Z.Attrs.map AC.row) BA R<|mM R<|AG al λx6 aq h9=>xI Ac R aq<|xB ((BF x6)) CJ R<|sS R (BB (cs:=[.r<|.str [],.r<|.str []]) 7 R KW R R)<|Zk R R (Af (ds:=(BF x6)) R JU iL R iL R R R R)<|aZ<|aT λar=>aT λav=>aG [0,1,5,7,32,33] [7] ?_
   refine aR<|lF CO BC R R<|aZ<|av _<|Zf<|aS λaw ax j=>aU<|sQ R (Bo R iL iL)<|mA R<|aZ<|A3 h9 λp2 a7 ay=>?_
   have J4:∀(x7:Bool) (B:NN),p2=x7→aw ⟨[(0,qb v1),(1,rI q),(5,qa l),(7,.ptr 7 (i8 0) 0 0),(32,rL Z.Attrs),(33,rI x3),(46,rB x7)],[(7,some<|.box (i8 0) 58<|BF x6)],(B 0),62⟩:=by
    intro x7 B e
    have az:=ay _ e
    refine ax _<|cI R az (λE=>?_) λE=>?_
    ·exact Zn<|w _ _ wk<|J3 _ (AH [(B 0)]) (Zb E).symm
    refine Zd<|ar _<|aU<|lF CO BC R R<|AG E λr1 b0 b1=>cL (aD<|b0) R<|sQ R (A0 R iL)<|aZ<|cI R b1 (λF=>?_) λF=>?_
    ·exact aR<|mM R<|xC CJ R<|AG F λa8 I b2=>sS R (CB (r:=qa a8) (caps:=[]) (bs:=[qa l,.agg<|BF x6]) R iL R ⟨.inl ⟨iL,R⟩,.inl ⟨iL,R⟩,Za⟩ λ_=>PF<|I)<|mA R<|Zh<|w _ _ wk<|J3 _ (AH [(B 0)]) (Zb b2).symm
    exact Zd<|w _ _ wk<|J3 _ (AH [(B 0)]) (Zb F).symm
   refine aC R (λJ=>?_) λJ=>?_
   ·have M:=Br J a7
    exact Zd<|j _ _ wk<|J4 _ (AH [((i8 0)+1)]) (Zb M).symm
   ·have M:=Bt J a7
    refine aU<|sQ R (Bo R iL iL)<|mA R<|aZ<|cI R M (λO=>?_) λO=>?_
    ·exact Zd<|j _ _ wk<|J4 _ (AH [((i8 0)+1)]) (Zb O).symm
    refine aU<|sQ R (Bo R iL iL)<|mA R<|aZ<|cI R O (λT=>?_) λT=>?_
    ·exact Zd<|j _ _ wk<|J4 _ (AH [((i8 0)+1)]) (Zb T).symm
    refine aU<|sQ R (Bo R iL iL)<|mA R<|aZ<|cI R T (λU=>?_) λU=>?_
    ·exact Zd<|j _ _ wk<|J4 _ (AH [((i8 0)+1)]) (Zb U).symm
    refine aU<|sQ R (Bo R iL iL)<|mA R<|aZ<|cI R U (λV=>?_) λV=>?_
    ·exact Zd<|j _ _ wk<|J4 _ (AH [((i8 0)+1)]) (Zb V).symm
    exact aR<|sQ R (Bo R iL iL)<|mA R<|Zh<|j _ _ wk<|J4 _ (AH [((i8 0)+1)]) (Zb V).symm
  exact Zn<|ae _ _ wk<|J2 _ (AH [(i8 0)])<|xH ah h6
 refine Zz (λ(X:Int) i3=>⟨[(0,qb v1),(1,rI X)],[],(i3 0),62⟩) (AH [n0]) a0 wk ?_
 intro X i3 v3 b3 b4
 have aa:Rq v1 X=some v3:=b3;unfold Rq at aa
 refine aT λb5=>aU<|mM R<|mM R<|xL Ah R<|xS R<|mM R<|vM R<|vM R<|AG aa λx8 b6 b7=>vQ R (Ap R Ah.slice (iR R) (iR R) (λ_=>R)<|AP b6)<|vQ R (A2 R D1<|iR R)<|vQ R (BU (d:=.int .i64 x8.Char) R AJ (iR R) R)<|vQ R (Cf R (iR R) iL)<|xN R<|aZ<|cI R b7 (λY=>?_) λY=>?_
 ·exact Zd<|b5 _<|Zf<|aR<|mM R<|AG Y λb9 ab b8=>xA R ab<|mA R<|Zh<|Zx b8 (AH [(i3 0)]) wk
 exact Zn<|ac _ _ wk<|J1 _ (AH [(i3 0)])<|xH b4 Y
theorem W7{Z c r}(h:IE Z c=some r):AO prog 64 [qa Z,qa c] (qa r):=by
 unfold IE at h
 refine mF func64 ntmps64 R λn0=>aU<|mA R<|aZ<|aU<|mA R<|aZ<|aS λK3 c3 ah=>aU<|mM R<|xL Ac R<|mM R<|aZ<|Zf<|A3 h λo1 a0 ai=>?_
 have J1:∀(E:List AC) (i5:NN),o1=E→K3 ⟨[(1,qa c),(5,qa E)],[],(i5 0),54⟩:=by
  intro E i5 e
  have h1:=ai _ e
  refine c3 _<|aS λK5 c5 aj=>aU<|mM R<|xL Ac R<|mM R<|aZ<|Zf<|A3 h1 λo2 a1 ak=>?_
  have J2:∀(j:List AC) (C:NN),o2=j→K5 ⟨[(5,qa j)],[],(C 0),54⟩:=by
   intro j C e
   have h2:=ak _ e
   refine c5 _<|aU<|mA R<|aZ<|aS λK8 c8 al=>aU<|mM R<|xL Ac R<|mM R<|aZ<|Zf<|A3 h2 λo3 a2 an=>?_
   have J3:∀(q:List AC) (F:NN),o3=q→K8 ⟨[(8,.own 5008<|F 0)],[(5008,some<|.arr (F 0) 58 2<|q.map AC.row)],(F 1),54⟩:=by
    intro q F e
    have h3:=an _ e
    exact c8 _<|aU<|mM R<|mA R<|aZ<|Zj<|Cz (P:=prog) (λ(r:(List AC))=>qa r) h3 iL<|.t<|.one<|.own R
   refine ZL (λ(x8:Int) (u:List AC) l=>⟨[(5,qa j),(8,.own 5008<|l 0),(35,rL j),(36,rI x8)],[(5008,some<|.arr (l 0) 58 2<|u.map AC.row)],(l 1),54⟩) (AH [(C 0),((C 0)+1)]) a2 (Zm (Zm (ZR 8 5008 58 2 (by decide) R)<|by exact ZC (e':=[(5,qa j),(8,.own 5008<|C 0),(34,qa j),(35,rL j),(36,rI 0)]) (h':=[(5008,some<|.arr (C 0) 58 2<|([]:List AC).map AC.row)]) ⟨jL,jL,jL,jL,jL,Za⟩ ⟨.inl R,Za⟩ nL) wk) ?_
   intro x8 u l v1 ao aq
   have h4:O5 j x8 u=some v1:=ao;unfold O5 at h4
   refine aU<|xS R<|aZ<|aT λar=>cI R h4 (λh5=>?_) λh5=>?_
   ·refine Zd<|ar _<|aS λav aw M=>Zf<|A3 h5 λp1 ax ay=>?_
    have J4:∀(w:List AC) (i16:NN),p1=w→av ⟨[(5,qa j),(8,.own 5008<|i16 0),(35,rL j),(36,rI x8)],[(5008,some<|.arr (i16 0) 58 2<|w.map AC.row)],(i16 1),54⟩:=by
     intro w i16 e
     have h6:=ay _ e
     exact aw _<|aR<|AG h6 λbf a6 h7=>xA R a6<|mM R<|Zh<|ZH h7 (AH [(i16 0),(i16 1)]) wk
    refine aU<|mM R<|mA R<|aZ<|aU<|mM R<|mM R<|AG ax λT O h8=>xI Ac R O<|sQ R (A2 R Hv iL)<|xV (.str T.Value) BC R<|sQ R (Ds R iL iL)<|aZ<|cI R h8 (λh9=>?_) λh9=>?_
    ·exact aR<|mM R<|mM R<|mM R<|xI Ac R O<|xB ((BF T)) CJ R<|sS R (Bw 50 R Ac (f:=AC.row) (l:=([T]:List AC)) ⟨R,⟨_,iL,R⟩,Za⟩ R (λ_=>R) R)<|AG h9 λaz I b0=>sS R (Ca R Ac iL R (.inr<|.inl ⟨_,_,iL,R⟩) I)<|mA R<|Zh<|M _ _ wk<|J4 _ (AH [((l 1)+1),((l 1)+2)]) (Zb b0).symm
    exact Zd<|M _ _ wk<|J4 _ (AH [(l 0),(l 1)]) (Zb h9).symm
   exact Zn<|al _ _ wk<|J3 _ (AH [(l 0),(l 1)])<|xH aq h5
  refine ZL (λ(A:List AC) (x5:Int) i8=>⟨[(1,qa c),(5,qa A),(23,rL c),(24,rI x5)],[],(i8 0),54⟩) (AH [(i5 0)]) a1 wk ?_
  intro A x5 i8 v2 b1 b2
  have a7:QV c A x5=some v2:=b1;unfold QV at a7
  refine aU<|xS R<|aZ<|aT λb3=>cI R a7 (λU=>?_) λU=>?_
  ·refine Zd<|b3 _<|aT λb4=>Zf<|aU<|mM R<|mA R<|aZ<|aR<|mM R<|mM R<|mM R<|AG U λa8 aa b5=>xI Ac R aa<|xB ((BF a8)) CJ R<|AG b5 λab V b6=>sS R (CB (r:=qa ab) (caps:=[]) (bs:=[qa A,.agg<|BF a8]) R iL R ⟨.inl ⟨iL,R⟩,.inl ⟨iL,R⟩,Za⟩ λ_=>PF<|V)<|mA R<|aZ<|b4 _<|aF [1,5,23,24] ?_
   exact aR<|AG b6 λbg ac b7=>xA R ac<|mM R<|Zh<|ZH b7 (AH [(i8 0)]) wk
  exact Zn<|aj _ _ wk<|J2 _ (AH [(i8 0)])<|xH b2 U
 refine ZL (λ(B:List AC) (x2:Int) i3=>⟨[(0,qa Z),(1,qa c),(5,qa B),(11,rL Z),(12,rI x2)],[],(i3 0),54⟩) (AH [n0]) a0 ((by exact ZC ⟨jL,jL,.inl<|.inr<|.inr ⟨R,R⟩,jL,jL,Za⟩ Za nL)) ?_
 intro B x2 i3 v3 b8 b9
 have ad:Qh Z B x2=some v3:=b8;unfold Qh at ad
 refine aU<|xS R<|aZ<|aT λba=>cI R ad (λX=>?_) λX=>?_
 ·refine Zd<|ba _<|aT λbb=>Zf<|aU<|mM R<|mA R<|aZ<|aR<|mM R<|mM R<|mM R<|AG X λae af bc=>xI Ac R af<|xB ((BF ae)) CJ R<|AG bc λY J bd=>sS R (CB (r:=qa Y) (caps:=[]) (bs:=[qa B,.agg<|BF ae]) R iL R ⟨.inl ⟨iL,R⟩,.inl ⟨iL,R⟩,Za⟩ λ_=>PF<|J)<|mA R<|aZ<|bb _<|aF [0,1,5,11,12] ?_
  exact aR<|AG bd λbh ag be=>xA R ag<|mM R<|Zh<|ZH be (AH [(i3 0)]) wk
 exact Zn<|ah _ _ wk<|J1 _ (AH [(i3 0)])<|xH b9 X
theorem jN{f1 a b c g r}(h:Pu f1 a b c g=some r):AO prog 21 [qb f1,rI a,rI b,qb c,rS g] (qb r):=by
 unfold Pu at h
 refine mF func21 ntmps21 R λn0=>aU<|mA R<|aZ<|aU<|mM R<|AG h λj C h1=>sS R (CB (r:=.r<|.sl<|j.map<|Aj .i64) (caps:=[]) (bs:=[qb f1,rI 0]) R iL R ⟨.inl ⟨iL,R⟩,.inl ⟨iL,R⟩,Za⟩ λ_=>Vq<|C)<|mA R<|aZ<|aU<|mA R<|aZ<|aS λK4 c4 ai=>aU<|mM R<|sQ R (BD R iL iL)<|aZ<|A3 h1 λp1 aj b0=>?_
 have J1:∀(q:Int) (i1:NN),p1=q→K4 ⟨[(0,qb f1),(1,rI a),(2,rI b),(3,qb c),(4,rS g),(11,.r<|.sl<|j.map<|Aj .i64),(12,rI q)],[],(i1 0),113⟩:=by
  intro q i1 e
  have h2:=b0 _ e
  refine c4 _<|aU<|mA R<|aZ<|aU<|mA R<|aZ<|aS λK8 c8 ak=>aU<|mA R<|aZ<|Zf<|A3 h2 λo1 al b1=>?_
  have J2:∀(E:List AD) (i9:NN),o1=E→K8 ⟨[(13,.own 5013<|i9 0)],[(5013,some<|.arr (i9 0) 51 3<|E.map AD.row)],(i9 1),113⟩:=by
   intro E i9 e
   have h3:=b1 _ e
   exact c8 _<|aU<|mM R<|mA R<|aZ<|Zj<|Cz (P:=prog) (λ(r:(List AD))=>qb r) h3 iL<|.t<|.one<|.own R
  refine IP (λ(V:Int) (M:Int) (F:List AD) O=>⟨[(0,qb f1),(1,rI a),(2,rI b),(3,qb c),(4,rS g),(11,.r<|.sl<|j.map<|Aj .i64),(12,rI q),(13,.own 5013<|O 0),(14,rI V),(15,rI M)],[(5013,some<|.arr (O 0) 51 3<|F.map AD.row)],(O 1),113⟩) (AH [(i1 0),((i1 0)+1)]) al (Zm (Zm (ZR 13 5013 51 3 (by decide) R)<|by exact ZC (e':=[(0,qb f1),(1,rI a),(2,rI b),(3,qb c),(4,rS g),(11,.r<|.sl<|j.map<|Aj .i64),(12,rI q),(13,.own 5013<|i1 0),(14,rI 0),(15,rI 0)]) (h':=[(5013,some<|.arr (i1 0) 51 3<|([]:List AD).map AD.row)]) ⟨jL,jL,jL,jL,jL,jL,jL,jL,jL,jL,Za⟩ ⟨.inl R,Za⟩ nL) wk) ?_
  intro V M F O v1 b2 an
  have h4:Jh f1 a b c g j q V M F=some v1:=b2;unfold Jh at h4
  refine aT λb3=>aU<|mM R<|mM R<|xL Ah R<|sQ R (FC R iL iL)<|aZ<|cI R h4 (λh5=>?_) λh5=>?_
  ·refine Zd<|b3 _<|aS λb4 b5 X=>Zf<|Jg h5 λp2 b6 b7 b8=>?_
   have J3:∀(k4:Int) (I:List AD) (B:NN),p2=.nrm (k4,I)→b4 ⟨[(0,qb f1),(1,rI a),(2,rI b),(3,qb c),(4,rS g),(11,.r<|.sl<|j.map<|Aj .i64),(12,rI q),(13,.own 5013<|B 0),(14,rI k4),(15,rI M)],[(5013,some<|.arr (B 0) 51 3<|I.map AD.row)],(B 1),113⟩:=by
    intro k4 I B e
    have h6:=b7 _ _ e
    exact b5 _<|aR<|mM R<|AG h6 λct ao h7=>xA R ao<|mA R<|Zh<|Dg.mk h7 (AH [(B 0),(B 1)]) wk
   refine aS λb9 ba Y=>aU<|mM R<|mM R<|xQ R<|aZ<|A3 b6 λp3 aq bb=>?_
   have J4:∀(w:List AD) (l:NN),p3=w→b9 ⟨[(0,qb f1),(1,rI a),(2,rI b),(3,qb c),(4,rS g),(11,.r<|.sl<|j.map<|Aj .i64),(12,rI q),(13,.own 5013<|l 0),(14,rI V),(15,rI M)],[(5013,some<|.arr (l 0) 51 3<|w.map AD.row)],(l 1),113⟩:=by
    intro w l e
    have h8:=bb _ e
    refine ba _<|aT λbc=>aU<|mM R<|mM R<|xL Ah R<|xQ R<|aZ<|cI R h8 (λh9=>?_) λh9=>?_
    ·exact Zn<|ak _ _ wk<|J2 _ (AH [(l 0),(l 1)])<|an _ (Zb<|b8 _ (Zb h9).symm).symm
    refine Zd<|bc _<|aU<|mM R<|mM R<|AG h9 λx1 bd be=>xI Ah R bd<|xB ((Ad x1)) Cj R<|sS R (BB (cs:=Eo) 18 R Ee R R)<|Zk R R (Af (ds:=(Ad x1)) R DT iL R iL R R R R)<|aZ<|aS λbf bg Z=>aU<|mM R<|mM R<|xL B9 R<|xS R<|mM R<|vM R<|vM R<|AG be λx2 bh bi=>vQ R (Ap R B9.slice (iR R) (iR R) (λ_=>R)<|AP bh)<|vQ R (BU (d:=.int .i64 x2) R AJ (iR R) R)<|vM R<|vQ R (Aq R (iR R)<|iR R)<|xN R<|aZ<|Jg bi λp4 ar bj bk=>?_
    have J5:∀(k5:Int) (x3:AD) (T:NN),p4=.nrm (k5,x3)→bf ⟨[(0,qb f1),(1,rI a),(2,rI b),(3,qb c),(4,rS g),(11,.r<|.sl<|j.map<|Aj .i64),(12,rI q),(13,.own 5013<|l 0),(14,rI k5),(15,rI M),(18,.ptr 18 (l 1) 0 0)],[(18,some<|.box (l 1) 51<|Ad x3),(5013,some<|.arr (l 0) 51 3<|w.map AD.row)],(T 0),113⟩:=by
     intro k5 x3 T e
     have bl:=bj _ _ e
     exact bg _<|aR<|mM R<|xC Cj R<|sS R (Bw 110 R Ah (f:=AD.row) (l:=([x3]:List AD)) ⟨R,⟨_,iL,R⟩,Za⟩ R (λ_=>R) R)<|AG bl λcr a1 bm=>sS R (Ca R Ah iL R (.inr<|.inl ⟨_,_,iL,R⟩) a1)<|mA R<|Zh<|X _ _ wk<|J3 _ _ (AH [((T 0)+1),((T 0)+2)]) (Zb bm).symm
    refine aC R (λa2=>?_) λa2=>?_
    ·have a6:=Br a2 ar
     refine aS λbn bo a0=>aT λbp=>aG [0,1,2,3,4,11,12,13,14,15,18] [18,5013] ?_
     refine aR<|mM R<|mM R<|sQ R (Cs R iL iL)<|mM R<|vM R<|vM R<|vQ R (B7 R (iR R)<|iR R)<|xN R<|aZ<|bp _<|BI a6 λp5 av bq br=>?_
     have J6:∀(x4:AD) (a7:NN),p5=.nrm x4→bn ⟨[(0,qb f1),(1,rI a),(2,rI b),(3,qb c),(4,rS g),(11,.r<|.sl<|j.map<|Aj .i64),(12,rI q),(13,.own 5013<|l 0),(14,rI V),(15,rI M),(18,.ptr 18 (l 1) 0 0)],[(18,some<|.box (l 1) 51<|Ad x4),(5013,some<|.arr (l 0) 51 3<|w.map AD.row)],(a7 0),113⟩:=by
      intro x4 a7 e
      have bs:=bq _ e
      exact bo _<|aR<|mM R<|AG bs λk6 bt bu=>xA R bt<|mA R<|Zh<|Z _ _ wk<|J5 _ _ (AH [(a7 0)]) (Zb bu).symm
     refine aC R (λa8=>?_) λa8=>?_
     ·have aa:=Br a8 av
      refine aT λbv=>aU<|mM R<|sQ R (Bo R iL iL)<|mM R<|vF CR BA R R<|AG aa λr1 bw bx=>vL (λhg=>YK<|AP bw hg) R<|vM R<|vQ R (Bo R (iR R)<|iR R)<|xO R<|aZ<|cI R bx (λab=>?_) λab=>?_
      ·refine aT λbz=>aG [0,1,2,3,4,11,12,13,14,15] [5013] ?_
       exact aR<|mM R<|AG ab λk7 c0 c1=>xA R c0<|mA R<|aZ<|bz _<|Zn<|X _ _ wk<|J3 _ _ (AH [(l 0),((l 1)+1)]) (Zb<|bk _ (Zb<|br _ (Zb c1).symm).symm).symm
      refine Zd<|bv _<|aG [0,1,2,3,4,11,12,13,14,15,18] [18,5013] ?_
      refine aR<|lF CR BA R R<|mM R ?_
      refine sQ R (Bg R GY (q:=[(0,_),(1,_)]) (by exact⟨R,R,R,iL,R,R,R,iL,Za⟩) (cs:=[.r<|.str [99,117,116],rS g])<|by rfl) ?_
      refine sS R (Bw 103 R Ac (f:=AC.row) (l:=([(AC.mk [99,117,116] g)]:List AC)) ⟨R,⟨_,iL,R⟩,Za⟩ R (λ_=>R) R) ?_
      refine AN.weak (by exact Ak.frz (e':=[(0,qb f1),(1,rI a),(2,rI b),(3,qb c),(4,rS g),(11,.r<|.sl<|j.map<|Aj .i64),(12,rI q),(13,.own 5013<|l 0),(14,rI V),(15,rI M),(18,.ptr 18 (l 1) 0 0),(99,.ptr 18 (l 1) 0 2),(100,qa x1.Attrs),(101,rS g),(102,.agg [.r<|.str [99,117,116],rS g]),(103,.r<|.sl<|[(AC.mk [99,117,116] g)].map AC.row)]) (h':=[(18,some<|.box (l 1) 51<|Ad x1),(5013,some<|.arr (l 0) 51 3<|w.map AD.row)]) 103 R ⟨jL,jL,jL,jL,jL,jL,jL,jL,jL,jL,jL,jL,jL,jL,jL,.inl<|.inr<|.inr ⟨R,R⟩,Za⟩ ⟨R,.inl R,R,.inl R,Za⟩) ?_
      exact AG ab λr2 c2 c3=>sS R (CB (r:=qa r2) (caps:=[]) (bs:=[qa x1.Attrs,.r<|.sl<|[(AC.mk [99,117,116] g)].map AC.row]) R iL R ⟨.inl ⟨iL,R⟩,.inl ⟨iL,R⟩,Za⟩ λ_=>W7<|c2)<|sQ R (fB R CR iL fR R)<|Zk R R (Af (ds:=[rI x1.Char,rI x1.Ref,qa r2]) R F9 iL R iL R R R R)<|Zh<|a0 _ _ wk<|J6 _ (AH [((l 1)+2)]) (Zb c3).symm
     ·have aa:=Bt a8 av
      exact Zd<|a0 _ _ wk<|J6 _ (AH [((l 1)+1)]) (Zb aa).symm
    ·have a6:=Bt a2 ar
     exact Zd<|Z _ _ wk<|J5 _ _ (AH [((l 1)+1)]) (Zb a6).symm
   refine aC R (λac=>?_) λac=>?_
   ·have ad:=Br ac aq
    refine aU<|mM R<|xL Ah R<|mM R<|aZ<|Zf<|BI ad λo2 aw cu c5=>ZL (λ(x6:Int) (A:List AD) u=>⟨[(0,qb f1),(1,rI a),(2,rI b),(3,qb c),(4,rS g),(11,.r<|.sl<|j.map<|Aj .i64),(12,rI q),(13,.own 5013<|u 0),(14,rI V),(15,rI M),(39,rL c),(40,rI x6)],[(5013,some<|.arr (u 0) 51 3<|A.map AD.row)],(u 1),113⟩) (AH [(O 0),(O 1)]) aw wk ?_
    intro x6 A u v2 c6 c7
    have ax:I0 c g x6 A=some v2:=c6;unfold I0 at ax
    refine aU<|xS R<|aZ<|aT λc9=>cI R ax (λae=>?_) λae=>?_
    ·refine Zd<|c9 _<|aT λca=>Zf<|aU<|mM R<|mA R<|aZ<|aU<|mM R<|mM R<|AG ae λJ cb cc=>xI Ah R cb<|xB ((Ad J)) Cj R<|sS R (BB (cs:=Eo) 17 R Ee R R)<|Zk R R (Af (ds:=(Ad J)) R DT iL R iL R R R R)<|aZ<|aT λcd=>aR<|lF CR BA R R<|mM R ?_
     refine sQ R (Bg R GY (q:=[(0,_),(1,_)]) (by exact⟨R,R,R,iL,R,R,R,iL,Za⟩) (cs:=[.r<|.str [97,100,100],rS g])<|by rfl) ?_
     refine sQ R (Bg R GY (q:=[(0,_)]) (by exact⟨R,R,R,iL,Za⟩) (cs:=Sh)<|by rfl) ?_
     refine sS R (Bw 52 R Ac (f:=AC.row) (l:=([(AC.mk [97,100,100] g),(AC.mk [99,117,116] [])]:List AC)) ⟨R,⟨_,iL,R⟩,R,⟨_,iL,R⟩,Za⟩ R (λ_=>R) R) ?_
     refine AN.weak (by exact Ak.frz (e':=[(0,qb f1),(1,rI a),(2,rI b),(3,qb c),(4,rS g),(11,.r<|.sl<|j.map<|Aj .i64),(12,rI q),(13,.own 5013<|u 0),(14,rI V),(15,rI M),(16,rI x6),(17,.ptr 17 (u 1) 0 0),(39,rL c),(40,rI x6),(41,rB<|(decide<|x6<(c.length:Int))),(42,rI x6),(43,qb c),(44,rI x6),(45,.rop (AD.row J) 0),(46,.agg<|Ad J),(47,.ptr 17 (u 1) 0 2),(48,qa J.Attrs),(49,rS g),(50,.agg [.r<|.str [97,100,100],rS g]),(51,.agg Sh),(52,.r<|.sl<|[(AC.mk [97,100,100] g),(AC.mk [99,117,116] [])].map AC.row)]) (h':=[(17,some<|.box (u 1) 51<|Ad J),(5013,some<|.arr (u 0) 51 3<|A.map AD.row)]) 52 R ⟨jL,jL,jL,jL,jL,jL,jL,jL,jL,jL,jL,jL,jL,jL,jL,jL,jL,jL,jL,jL,jL,jL,jL,jL,jL,.inl<|.inr<|.inr ⟨R,R⟩,Za⟩ ⟨R,.inl R,R,.inl R,Za⟩) ?_
     refine AG cc λr3 cf cg=>sS R (CB (r:=qa r3) (caps:=[]) (bs:=[qa J.Attrs,.r<|.sl<|[(AC.mk [97,100,100] g),(AC.mk [99,117,116] [])].map AC.row]) R iL R ⟨.inl ⟨iL,R⟩,.inl ⟨iL,R⟩,Za⟩ λ_=>W7<|cf)<|sQ R (fB R CR iL fR R)<|Zk R R (Af (ds:=[rI J.Char,rI J.Ref,qa r3]) R F9 iL R iL R R R R)<|aZ<|cd _<|aG [0,1,2,3,4,11,12,13,14,15,17,39,40] [17,5013] ?_
     exact aR<|mM R<|xC Cj R<|sS R (Bw 57 R Ah (f:=AD.row) (l:=([(AD.mk J.Char J.Ref r3)]:List AD)) ⟨R,⟨_,iL,R⟩,Za⟩ R (λ_=>R) R)<|AG cg λch U cj=>sS R (Ca R Ah iL R (.inr<|.inl ⟨_,_,iL,R⟩) U)<|mA R<|aZ<|ca _<|aR<|AG cj λx9 ck cl=>xA R ck<|mM R<|Zh<|ZH cl (AH [((u 1)+3),((u 1)+4)]) wk
    exact Zn<|Y _ _ wk<|J4 _ (AH [(u 0),(u 1)]) (Zb<|c5 _<|xH c7 ae).symm
   ·have ad:=Bt ac aq
    exact Zd<|Y _ _ wk<|J4 _ (AH [(O 0),(O 1)]) (Zb ad).symm
  exact Zn<|ak _ _ wk<|J2 _ (AH [(O 0),(O 1)])<|xH an h5
 refine aC R (λaf=>?_) λaf=>?_
 ·have ag:=Br af aj
  exact aR<|mM R<|mM R<|AG ag λcv ay cm=>sQ R (CF R iL iL λ_=>ay)<|AG cm λcn az cp=>xI B9 R az<|xV (.int .i64 cn) AJ R<|AG cp λcs ah cq=>xA R ah<|mA R<|Zh<|ai _ _ wk<|J1 _ (AH [n0]) (Zb cq).symm
 ·have ag:=Bt af aj
  exact Zd<|ai _ _ wk<|J1 _ (AH [n0]) (Zb ag).symm
theorem uE{f1 r}(h:Oc f1=some r):AO prog 23 [qb f1] (rI r):=by
 unfold Oc at h
 refine mF func23 ntmps23 R λX=>aU<|mA R<|aZ<|aS λY Z u=>aU<|mM R<|xL Ah R<|mM R<|aZ<|Zf<|BI h λo1 j w A=>?_
 have J1:∀(T:Unit) (U:NN),o1=.nrm T→Y ⟨[],[],(U 0),19⟩:=by
  intro T U e
  have h1:=w _ e
  exact Z _<|zI h1 R id
 refine Zz (λ(B:Int) q=>⟨[(0,qb f1),(6,rL f1),(7,rI B)],[],(q 0),19⟩) (AH [X]) j wk ?_
 intro B q v1 C l
 have V:Qx f1 B=some v1:=C;unfold Qx at V
 refine aU<|xS R<|aZ<|aT λc6=>cI R V (λE=>?_) λE=>?_
 ·refine Zd<|c6 _<|aT λc7=>Zf<|aU<|mM R<|mA R<|aZ<|aU<|mM R<|mM R<|AG E λx4 F h4=>xI Ah R F<|xB ((Ad x4)) Cj R<|AG h4 λe1 I h5=>cL (cR<|I) R<|mA R<|aZ<|aU<|mM R<|xU R<|aZ<|cI R h5 (λJ=>?_) λJ=>?_
  ·refine aT λM=>aF [4] ?_
   exact aR<|mM R<|mA R<|aZ<|M _<|Zj<|yI (A _<|xH l J) R
  refine Zd<|c7 _<|aF [0,6,7] ?_
  exact aR<|AG J λx5 O h7=>xA R O<|mM R<|Zh<|Zx h7 (AH [(q 0)]) wk
 exact Zn<|u _ _ wk<|J1 _ (AH [(q 0)])<|xH l E
theorem jQ{j r}(h:RL j=some r):AO prog 158 (Rm j) (rI r):=by
 unfold RL at h
 refine mF func158 ntmps158 R λn0=>aU<|sS R (Ay (cs:=(Bq j)) 1 R iL R R)<|mA R<|aZ<|aT λY=>aU<|lF CG AJ R R<|AG h λr1 l Z=>cL (DX<|l) R<|sQ R (A0 R iL)<|aZ<|cI R Z (λq=>?_) λq=>?_
 ·exact zI q R id
 refine Zd<|Y _<|aT λc5=>aU<|lF CG AJ R R<|xQ R<|aZ<|cI R q (λu=>?_) λu=>?_
 ·refine aT λc7=>aT λc8=>aG [1] [1] ?_
  refine aR<|lF EM AJ R R<|xU R<|mM R<|vF Dt BA R R<|vQ R (Bu R Ac.slice<|iR R)<|vQ R (BD R (iR R) iL)<|xO R<|aZ<|c8 _<|cI R u (λw=>?_) λw=>?_
  ·exact zI w R id
  refine Zd<|c7 _<|aT λA=>aT λB=>aG [1] [1] ?_
  refine aR<|lF EK B2 R R<|xL Ah R<|xQ R<|aZ<|B _<|cI R w (λC=>?_) λC=>?_
  ·exact zI C R id
  exact Zd<|A _<|aU<|lF EK B2 R R<|AG C λr2 E h6=>cL (uE<|E) R<|mA R<|aZ<|Zj<|yI h6 R
 refine Zd<|c5 _<|aT λF=>aT λI=>aG [1] [1] ?_
 refine aR<|lF EK B2 R R<|xL Ah R<|sQ R (BD R iL iL)<|mM R<|vF CG AJ R R<|vQ R (Aq R (iR R) iL)<|vQ R (AK R<|iR R)<|wQ R (fB R Dt iL fR R)<|wQ R (AZ (a:=qa j.Attrs) R BA (iR R) R R)<|wQ R (Bu R Ac.slice<|iR R)<|wQ R (BD R (iR R) iL)<|vQ R (BP R (iR R)<|iR R)<|xO R<|aZ<|I _<|cI R u (λJ=>?_) λJ=>?_
 ·exact zI J R id
 refine Zd<|F _<|aT λM=>aT λO=>aG [1] [1] ?_
 refine aR<|lF EM AJ R R<|AG J λr3 T h8=>cL (DX<|T) R<|sQ R (A0 R iL)<|aZ<|O _<|cI R h8 (λU=>?_) λU=>?_
 ·exact zI U R id
 exact Zd<|M _<|aU<|lF Dt BA R R<|AG U λr4 V X=>cL (ML<|V) R<|mA R<|aZ<|Zj<|yI X R
theorem pg{d1 r}(h:Nz d1=some r):AO prog 111 [qd d1] (rI r):=by
 unfold Nz at h
 refine mF func111 ntmps111 R λn0=>aU<|mA R<|aZ<|aU<|mA R<|mA R<|aZ<|aS λK3 c3 ae=>aU<|mM R<|xL Bx R<|mM R<|aZ<|Zf<|Jg h λo1 ab af I=>?_
 have J1:∀(u:Int) (w:Int) (i5:NN),o1=.nrm (u,w)→K3 ⟨[(3,rI u),(4,rI w)],[],(i5 0),85⟩:=by
  intro u w i5 e
  have h1:=af _ _ e
  refine c3 _<|aT λc5=>aU<|mM R<|sQ R (BD R iL iL)<|mM R<|vM R<|vQ R (BD R (iR R) iL)<|xO R<|aZ<|cI R h1 (λh2=>?_) λh2=>?_
  ·exact zI h2 R id
  exact Zd<|c5 _<|zI h2 R id
 refine IP (λ(l:Int) (j:Int) (x2:Int) A=>⟨[(0,qd d1),(3,rI l),(4,rI j),(10,rL d1),(11,rI x2)],[],(A 0),85⟩) (AH [n0]) ab wk ?_
 intro l j x2 A v1 ag B
 have h3:Ib d1 l j x2=some v1:=ag;unfold Ib at h3
 refine aU<|xS R<|aZ<|aT λah=>cI R h3 (λh4=>?_) λh4=>?_
 ·refine Zd<|ah _<|aS λai aj M=>Zf<|Jg h4 λp1 ak al J=>?_
  have J2:∀(C:Int) (E:Int) (i6:NN),p1=.nrm (C,E)→ai ⟨[(0,qd d1),(3,rI C),(4,rI E),(10,rL d1),(11,rI x2)],[],(i6 0),85⟩:=by
   intro C E i6 e
   have h5:=al _ _ e
   exact aj _<|aR<|AG h5 λx4 an h6=>xA R an<|mM R<|Zh<|Dg.mk h6 (AH [(i6 0)]) wk
  refine aU<|mM R<|mA R<|aZ<|aU<|mM R<|mM R<|AG ak λx5 ao h7=>xI Bx R ao<|xB ((Bq x5)) En R<|sS R (BB (cs:=EH) 6 R FH R R)<|Zk R R (Af (ds:=(Bq x5)) R FT iL R iL R R R R)<|aZ<|aT λaq=>aU<|xC En R<|AG h7 λe1 ar h8=>cL (jQ<|ar) R<|mA R<|aZ<|aU<|mM R<|xU R<|aZ<|cI R h8 (λh9=>?_) λh9=>?_
  ·refine aT λav=>aF [7] ?_
   exact aR<|mM R<|mA R<|aZ<|av _<|Zj<|yI (I _<|B _ (Zb<|J _ (Zb h9).symm).symm) R
  refine Zd<|aq _<|aS λaw ax q=>aT λay=>aG [0,3,4,5,6,10,11] [6] ?_
  refine aR<|mM R<|sQ R (BD R iL iL)<|aZ<|ay _<|BI h9 λp2 ac az T=>?_
  have J3:∀(u2:Unit) (i7:NN),p2=.nrm u2→aw ⟨[(0,qd d1),(3,rI l),(4,rI j),(6,.ptr 6 (A 0) 0 0),(10,rL d1),(11,rI x2)],[(6,some<|.box (A 0) 100<|Bq x5)],(i7 0),85⟩:=by
   intro u2 i7 e
   have b0:=az _ e
   refine ax _<|aS λb1 b2 O=>aU<|lF CG AJ R R<|xU R<|mM R<|vM R<|vQ R (B7 R (iR R) iL)<|xN R<|aZ<|A3 b0 λp3 ad b3=>?_
   have J4:∀(F:Int) (i8:NN),p3=F→b1 ⟨[(0,qd d1),(3,rI F),(4,rI j),(6,.ptr 6 (A 0) 0 0),(10,rL d1),(11,rI x2)],[(6,some<|.box (A 0) 100<|Bq x5)],(i8 0),85⟩:=by
    intro F i8 e
    have b4:=b3 _ e
    refine b2 _<|aU<|lF CG AJ R R<|xU R<|mM R<|vM R<|vQ R (B7 R (iR R) iL)<|xN R<|aZ<|cI R b4 (λU=>?_) λU=>?_
    ·exact aR<|mM R<|lF EM AJ R R<|lF EK B2 R R<|xL Ah R<|AG U λx6 b5 b6=>xA R b5<|AG b6 λbj V b7=>xA R V<|mA R<|Zh<|M _ _ wk<|J2 _ _ (AH [(i8 0)]) (Zb b7).symm
    exact Zd<|M _ _ wk<|J2 _ _ (AH [(i8 0)]) (Zb U).symm
   refine aC R (λX=>?_) λX=>?_
   ·have Y:=Br X ad
    exact aR<|mM R<|lF EM AJ R R<|AG Y λbk Z b8=>xA R Z<|mA R<|Zh<|O _ _ wk<|J4 _ (AH [(i7 0)]) (Zb b8).symm
   ·have Y:=Bt X ad
    exact Zd<|O _ _ wk<|J4 _ (AH [(i7 0)]) (Zb Y).symm
  refine aC R (λa0=>?_) λa0=>?_
  ·have a1:=Br a0 ac
   refine aU<|mM R<|mM R<|AG a1 λx7 b9 ba=>sQ R (CF R iL iL λ_=>b9)<|AG ba λx8 bb bc=>xI Bx R bb<|xB ((Bq x8)) En R<|sS R (BB (cs:=EH) 8 R FH R R)<|Zk R R (Af (ds:=(Bq x8)) R FT iL R iL R R R R)<|aZ<|aU<|lF CG AJ R R<|aZ<|Zf<|aT λbd=>aG [0,3,4,6,8,10,11,31] [6,8] ?_
   refine aR<|xQ R<|mA R<|aZ<|bd _<|cI R bc (λa2=>?_) λa2=>?_
   ·refine aU<|lF CG AJ R R<|xU R<|aZ<|cI R a2 (λa6=>?_) λa6=>?_
    ·refine aT λbe=>aF [] ?_
     exact aR<|mA R<|aZ<|be _<|Zj<|yI (I _<|B _ (Zb<|J _ (Zb<|T _ (Zb a6).symm).symm).symm) R
    exact Zd<|q _ _ wk<|J3 _ (AH [((A 0)+2)]) (Zb a6).symm
   refine aU<|xQ R<|mA R<|aZ<|cI R a2 (λa7=>?_) λa7=>?_
   ·refine aU<|lF CG AJ R R<|xQ R<|aZ<|cI R a7 (λa8=>?_) λa8=>?_
    ·refine aT λbf=>aF [] ?_
     exact aR<|mA R<|aZ<|bf _<|Zj<|yI (I _<|B _ (Zb<|J _ (Zb<|T _ (Zb a8).symm).symm).symm) R
    exact Zd<|q _ _ wk<|J3 _ (AH [((A 0)+2)]) (Zb a8).symm
   refine aU<|lF CG AJ R R<|xQ R<|mM R<|vF Dt BA R R<|vF Dt BA R R<|AG a7 λr1 bg bh=>vL (λhg=>OA<|AP bg hg) R<|xN R<|aZ<|cI R bh (λaa=>?_) λaa=>?_
   ·refine aT λbi=>aF [] ?_
    exact aR<|mA R<|aZ<|bi _<|Zj<|yI (I _<|B _ (Zb<|J _ (Zb<|T _ (Zb aa).symm).symm).symm) R
   exact Zd<|q _ _ wk<|J3 _ (AH [((A 0)+2)]) (Zb aa).symm
  ·have a1:=Bt a0 ac
   exact Zd<|q _ _ wk<|J3 _ (AH [((A 0)+1)]) (Zb a1).symm
 exact Zn<|ae _ _ wk<|J1 _ _ (AH [(A 0)])<|xH B h4
theorem aB{E r}(h:TJ E=some r):AO prog 159 [qh E] (rI r):=by
 unfold TJ at h
 refine mF func159 ntmps159 R λn0=>aU<|mA R<|aZ<|aU<|mA R<|mA R<|aZ<|aS λK3 c3 a8=>aU<|mM R<|xL Ej R<|mM R<|aZ<|Zf<|Jg h λo1 a6 aa O=>?_
 have J1:∀(q:Int) (u:Int) (i5:NN),o1=.nrm (q,u)→K3 ⟨[(3,rI q),(4,rI u)],[],(i5 0),99⟩:=by
  intro q u i5 e
  have h1:=aa _ _ e
  refine c3 _<|aT λc5=>aU<|mM R<|sQ R (BD R iL iL)<|mM R<|vM R<|vQ R (BD R (iR R) iL)<|xO R<|aZ<|cI R h1 (λh2=>?_) λh2=>?_
  ·exact zI h2 R id
  exact Zd<|c5 _<|zI h2 R id
 refine IP (λ(w:Int) (l:Int) (x2:Int) i3=>⟨[(0,qh E),(3,rI w),(4,rI l),(7,rL E),(8,rI x2)],[],(i3 0),99⟩) (AH [n0]) a6 wk ?_
 intro w l x2 i3 v1 ab F
 have h3:VL E w l x2=some v1:=ab;unfold VL at h3
 refine aU<|xS R<|aZ<|aT λac=>cI R h3 (λh4=>?_) λh4=>?_
 ·refine Zd<|ac _<|aS λad ae I=>Zf<|Jg h4 λp1 af ag T=>?_
  have J2:∀(A:Int) (B:Int) (i6:NN),p1=.nrm (A,B)→ad ⟨[(0,qh E),(3,rI A),(4,rI B),(7,rL E),(8,rI x2)],[],(i6 0),99⟩:=by
   intro A B i6 e
   have h5:=ag _ _ e
   exact ae _<|aR<|AG h5 λx4 ah h6=>xA R ah<|mM R<|Zh<|Dg.mk h6 (AH [(i6 0)]) wk
  refine aU<|mM R<|mA R<|aZ<|aT λai=>aU<|mM R<|mM R<|AG af λJ j h7=>xI Ej R j<|sQ R (A2 R Le iL)<|xV (.int .i64 J.Kind) AJ R<|AG h7 λr1 aj h8=>cL (DX<|aj) R<|sQ R (A0 R iL)<|aZ<|cI R h8 (λh9=>?_) λh9=>?_
  ·refine aT λak=>aF [] ?_
   exact aR<|mA R<|aZ<|ak _<|Zj<|yI (O _<|F _ (Zb<|T _ (Zb h9).symm).symm) R
  refine Zd<|ai _<|aT λal=>aT λan=>aF [0,3,4,5,7,8] ?_
  refine aR<|mM R<|mM R<|xI Ej R j<|sQ R (A2 R Wq iL)<|xV (.int .i64 J.N) AJ R<|AG h9 λr2 ao aq=>cL (DX<|ao) R<|sQ R (A0 R iL)<|aZ<|an _<|cI R aq (λU=>?_) λU=>?_
  ·refine aT λar=>aF [] ?_
   exact aR<|mA R<|aZ<|ar _<|Zj<|yI (O _<|F _ (Zb<|T _ (Zb U).symm).symm) R
  refine Zd<|al _<|aT λav=>aT λaw=>?_
  refine ZA BJ (by kernel_rfl) ?_
  refine qP R (AK R iL)<|qP R (BD R iL iL)<|qP R (AK R iL)<|qO R (AK R iL)<|qO R (AK R iL)<|qO R (Ap R Ej.slice (iR R) (iR R) (λ_=>R) λ_=>j)<|qO R (A2 R Le<|iR R)<|qO R (BU (d:=.int .i64 J.Kind) R AJ (iR R) R)<|qO R (AK R iL)<|qO R (AK R iL)<|AG U λx6 ax ay=>qO R (CF R (iR R) iL<|AP ax)<|AG ay λx7 az b0=>qO R (Ap R Ej.slice (iR R) (iR R) (λ_=>R)<|AP az)<|qO R (A2 R Le<|iR R)<|qO R (BU (d:=.int .i64 x7.Kind) R AJ (iR R) R)<|qO R (Aq R (iR R)<|iR R)<|qO R (AK R<|iR R)<|qT R (AK R iL)<|qT R (AK R iL)<|qT R (Ap R Ej.slice (iR R) (iR R) (λ_=>R) λ_=>j)<|qT R (A2 R Le<|iR R)<|qT R (BU (d:=.int .i64 J.Kind) R AJ (iR R) R)<|qT R (Aq R (iR R) iL)<|qT R (AK R<|iR R)<|qT R (AK R iL)<|qT R (AK R iL)<|AG b0 λx8 b1 b2=>qT R (CF R (iR R) iL<|AP b1)<|AG b2 λx9 b3 b4=>qT R (Ap R Ej.slice (iR R) (iR R) (λ_=>R)<|AP b3)<|qT R (A2 R Le<|iR R)<|qT R (BU (d:=.int .i64 x9.Kind) R AJ (iR R) R)<|qT R (Aq R (iR R) iL)<|qT R (BP R (iR R)<|iR R)<|qO R (CM R (iR R)<|iR R)<|qP R (BP R iL<|iR R)<|AQ.nil<|aw _<|cI R b4 (λV=>?_) λV=>?_
  ·refine aT λb5=>aF [] ?_
   exact aR<|mA R<|aZ<|b5 _<|Zj<|yI (O _<|F _ (Zb<|T _ (Zb V).symm).symm) R
  refine Zd<|av _<|aS λb6 b7 M=>aT λb8=>aF [0,3,4,5,7,8] ?_
  refine aR<|mM R<|mM R<|xI Ej R j<|sQ R (A2 R Le iL)<|xV (.int .i64 J.Kind) AJ R<|xU R<|mM R<|vM R<|vQ R (B7 R (iR R) iL)<|xN R<|aZ<|b8 _<|A3 V λp2 a7 b9=>?_
  have J3:∀(C:Int) (i7:NN),p2=C→b6 ⟨[(0,qh E),(3,rI C),(4,rI l),(5,rI x2),(7,rL E),(8,rI x2)],[],(i7 0),99⟩:=by
   intro C i7 e
   have ba:=b9 _ e
   refine b7 _<|aU<|mM R<|mM R<|xI Ej R j<|sQ R (A2 R Le iL)<|xV (.int .i64 J.Kind) AJ R<|xU R<|mM R<|vM R<|vQ R (B7 R (iR R) iL)<|xN R<|aZ<|cI R ba (λX=>?_) λX=>?_
   ·exact aR<|mM R<|mM R<|mM R<|xI Ej R j<|sQ R (A2 R Wq iL)<|xV (.int .i64 J.N) AJ R<|AG X λbd Y bb=>xA R Y<|mA R<|Zh<|I _ _ wk<|J2 _ _ (AH [(i7 0)]) (Zb bb).symm
   exact Zd<|I _ _ wk<|J2 _ _ (AH [(i7 0)]) (Zb X).symm
  refine aC R (λZ=>?_) λZ=>?_
  ·have a0:=Br Z a7
   exact aR<|mM R<|mM R<|mM R<|xI Ej R j<|sQ R (A2 R Wq iL)<|xV (.int .i64 J.N) AJ R<|AG a0 λbe a2 bc=>xA R a2<|mA R<|Zh<|M _ _ wk<|J3 _ (AH [(i3 0)]) (Zb bc).symm
  ·have a0:=Bt Z a7
   exact Zd<|M _ _ wk<|J3 _ (AH [(i3 0)]) (Zb a0).symm
 exact Zn<|a8 _ _ wk<|J1 _ _ (AH [(i3 0)])<|xH F h4
theorem qm{e1 r}(h:YH e1=some r):AO prog 112 [.agg<|Di e1] (rI r):=by
 unfold YH at h
 refine mF func112 ntmps112 R λj=>aU<|sS R (Ay (cs:=(Di e1)) 1 R iL R R)<|mA R<|aZ<|aT λc2=>aU<|lF Sc JH R R<|AG h λf1 Y h1=>cL (aB<|Y) R<|mA R<|aZ<|aU<|mM R<|xU R<|aZ<|cI R h1 (λZ=>?_) λZ=>?_
 ·exact aU<|mM R<|mA R<|aZ<|Zj<|yI Z R
 refine Zd<|c2 _<|aT λc6=>aU<|lF UH JH R R<|AG Z λf2 a0 h3=>cL (aB<|a0) R<|mA R<|aZ<|aT λc8=>aG [1,4] [1] ?_
 refine aR<|mM R<|xU R<|aZ<|c8 _<|cI R h3 (λh4=>?_) λh4=>?_
 ·exact aU<|mM R<|mA R<|aZ<|Zj<|yI h4 R
 refine Zd<|c6 _<|aT λa1=>aU<|lF SV FA R R<|AG h4 λf3 a2 h5=>cL (iB<|a2) R<|mA R<|aZ<|aU<|mM R<|xU R<|aZ<|cI R h5 (λh6=>?_) λh6=>?_
 ·refine aT λa6=>aF [5] ?_
  exact aR<|mM R<|mA R<|aZ<|a6 _<|Zj<|yI h6 R
 refine Zd<|a1 _<|aS λa7 a8 E=>aT λaa=>aG [1] [1] ?_
 refine aR<|lF RP DR R R<|xL Cn R<|mM R<|aZ<|aa _<|Zf<|BI h6 λo1 F ab ac=>?_
 have J1:∀(u2:Unit) (i5:NN),o1=.nrm u2→a7 ⟨[(1,.ptr 1 j 0 0)],[(1,some<|.box j 74<|Di e1)],(i5 0),70⟩:=by
  intro u2 i5 e
  have h7:=ab _ e
  refine a8 _<|aS λad ae I=>aU<|lF Kq DR R R<|xL Cn R<|mM R<|aZ<|Zf<|BI h7 λo2 J af M=>?_
  have J2:∀(u4:Unit) (O:NN),o2=.nrm u4→ad ⟨[],[],(O 0),70⟩:=by
   intro u4 O e
   have h8:=af _ e
   exact ae _<|zI h8 R id
  refine Zz (λ(x5:Int) i8=>⟨[(1,.ptr 1 j 0 0),(42,rL e1.Merge),(43,rI x5)],[(1,some<|.box j 74<|Di e1)],(i8 0),70⟩) (AH [(i5 0)]) J wk ?_
  intro x5 i8 v1 ag l
  have h9:VM e1 x5=some v1:=ag;unfold VM at h9
  refine aU<|xS R<|aZ<|aT λah=>cI R h9 (λq=>?_) λq=>?_
  ·refine Zd<|ah _<|aT λai=>Zf<|aU<|mM R<|mA R<|aZ<|aT λaj=>aU<|lF Kq DR R R<|mM R<|AG q λx7 u ak=>xI Cn R u<|xB ((BT x7)) E1 R<|AG ak λr1 al an=>cL (XC<|al) R<|sQ R (A0 R iL)<|aZ<|cI R an (λw=>?_) λw=>?_
   ·exact zI (M _<|xH l w) R id
   refine Zd<|aj _<|aT λao=>aG [1,7,42,43] [1] ?_
   refine aR<|lF Kq DR R R<|mM R<|xI Cn R u<|sQ R (A2 R IN iL)<|xV (.int .i64 x7.H) AJ R<|xQ R<|mM R<|vF Kq DR R R<|vM R<|vQ R (Ap R Cn.slice (iR R) (iR R) (λ_=>R) λ_=>u)<|vQ R (A2 R H8<|iR R)<|vQ R (BU (d:=.int .i64 x7.W) R AJ (iR R) R)<|vQ R (Aq R (iR R) iL)<|xN R<|aZ<|ao _<|cI R w (λA=>?_) λA=>?_
   ·exact zI (M _<|xH l A) R id
   refine Zd<|ai _<|aG [1,42,43] [1] ?_
   exact aR<|AG A λx8 aq ar=>xA R aq<|mM R<|Zh<|Zx ar (AH [(i8 0)]) wk
  exact Zn<|I _ _ wk<|J2 _ (AH [(i8 0)])<|xH l q
 refine Zz (λ(x2:Int) X=>⟨[(1,.ptr 1 j 0 0),(28,rL e1.Split),(29,rI x2)],[(1,some<|.box j 74<|Di e1)],(X 0),70⟩) (AH [(j+1)]) F wk ?_
 intro x2 X v2 av T
 have U:WC e1 x2=some v2:=av;unfold WC at U
 refine aU<|xS R<|aZ<|aT λaw=>cI R U (λB=>?_) λB=>?_
 ·refine Zd<|aw _<|aT λax=>Zf<|aU<|mM R<|mA R<|aZ<|aU<|lF RP DR R R<|mM R<|AG B λx9 ay az=>xI Cn R ay<|xB ((BT x9)) E1 R<|AG az λr2 b0 b1=>cL (XC<|b0) R<|sQ R (A0 R iL)<|aZ<|cI R b1 (λC=>?_) λC=>?_
  ·exact zI (ac _<|xH T C) R id
  refine Zd<|ax _<|aG [1,28,29] [1] ?_
  exact aR<|AG C λb3 V b2=>xA R V<|mM R<|Zh<|Zx b2 (AH [(X 0)]) wk
 exact Zn<|E _ _ wk<|J1 _ (AH [(X 0)])<|xH T B
theorem ja{j r}(h:Oi j=some r):AO prog 60 (oP j) (rI r):=by
 unfold Oi at h
 refine mF func60 ntmps60 R λl=>aU<|sS R (Ay (cs:=(EA j)) 1 R iL R R)<|mA R<|aZ<|aT λc2=>aU<|lF LP AJ R R<|AG h λr1 X h1=>cL (DX<|X) R<|sQ R (A0 R iL)<|aZ<|cI R h1 (λY=>?_) λY=>?_
 ·exact zI Y R id
 refine Zd<|c2 _<|aU<|sQ R (fB R Sf iL fR R)<|sQ R (F0 (ds:=(Di j.Grid)) R T7 iL R R R)<|sS R (BB (cs:=[cZ,cZ,cZ,cZ,cZ]) 3 R sY R R)<|Zk R R (Af (ds:=(Di j.Grid)) R lJ iL R iL R R R R)<|aZ<|aT λc6=>AG Y λq Z h3=>AG h3 λx1 a0 h4=>AG h4 λx2 a1 h5=>AG h5 λx3 a2 h6=>AG h6 λu a6 h7=>?_
 refine JC 39 [pO 12<|.ptr 1 l 0 2,pO 13<|.agg<|Bd j.New,pO 14<|.agg Lf,pO 15<|rB q,pO 16<|rB<|(!q),pO 17<|.ptr 1 l 0 11,pO 18<|qa j.Attrs,pO 19<|rL j.Attrs,pO 20<|rB<|(decide<|0<(j.Attrs.length:Int)),pO 21<|.ptr 1 l 0 12,pO 22<|qd j.Steps,pO 23<|rL j.Steps,pO 24<|rB<|(decide<|0<(j.Steps.length:Int)),pO 25<|.ptr 3 (l+1) 0 0,pO 26<|qh j.Grid.Rows,pO 27<|rL j.Grid.Rows,pO 28<|.ptr 3 (l+1) 0 1,pO 29<|qh j.Grid.Cols,pO 30<|rL j.Grid.Cols,pO 31<|rI x1,pO 32<|.ptr 3 (l+1) 0 2,pO 33<|qe j.Grid.Cells,pO 34<|rL j.Grid.Cells,pO 35<|rI x2,pO 36<|.ptr 3 (l+1) 0 3,pO 37<|qc j.Grid.Split,pO 38<|rL j.Grid.Split,pO 39<|rI x3,pO 40<|.ptr 3 (l+1) 0 4,pO 41<|qc j.Grid.Merge,pO 42<|rL j.Grid.Merge,pO 43<|rI u,pO 44<|rB<|(decide<|0<u),pO 45<|.ptr 1 l 0 18,pO 46<|qf j.Draw,pO 47<|rL j.Draw,pO 48<|rB<|(decide<|0<(j.Draw.length:Int)),pO 49<|.agg [rB<|(!q),rB<|(decide<|0<(j.Attrs.length:Int)),rB<|(decide<|0<(j.Steps.length:Int)),rB<|(decide<|0<u),rB<|(decide<|0<(j.Draw.length:Int))],⟨some 4,(λw=>.ptr 4 (w 38) 0 0),some (4,(λw=>some<|.box (w 38) 158 gM)),[38]⟩] BJ (by kernel_rfl) (by exact⟨λ_ _ h=>⟨R,λ_ _ e=>by cases e⟩,λ_ _ h=>⟨R,λ_ _ e=>by cases e⟩,λ_ _ h=>⟨R,λ_ _ e=>by cases e⟩,λ_ _ h=>⟨R,λ_ _ e=>by cases e⟩,λ_ _ h=>⟨R,λ_ _ e=>by cases e⟩,λ_ _ h=>⟨R,λ_ _ e=>by cases e⟩,λ_ _ h=>⟨R,λ_ _ e=>by cases e⟩,λ_ _ h=>⟨R,λ_ _ e=>by cases e⟩,λ_ _ h=>⟨R,λ_ _ e=>by cases e⟩,λ_ _ h=>⟨R,λ_ _ e=>by cases e⟩,λ_ _ h=>⟨R,λ_ _ e=>by cases e⟩,λ_ _ h=>⟨R,λ_ _ e=>by cases e⟩,λ_ _ h=>⟨R,λ_ _ e=>by cases e⟩,λ_ _ h=>⟨R,λ_ _ e=>by cases e⟩,λ_ _ h=>⟨R,λ_ _ e=>by cases e⟩,λ_ _ h=>⟨R,λ_ _ e=>by cases e⟩,λ_ _ h=>⟨R,λ_ _ e=>by cases e⟩,λ_ _ h=>⟨R,λ_ _ e=>by cases e⟩,λ_ _ h=>⟨R,λ_ _ e=>by cases e⟩,λ_ _ h=>⟨R,λ_ _ e=>by cases e⟩,λ_ _ h=>⟨R,λ_ _ e=>by cases e⟩,λ_ _ h=>⟨R,λ_ _ e=>by cases e⟩,λ_ _ h=>⟨R,λ_ _ e=>by cases e⟩,λ_ _ h=>⟨R,λ_ _ e=>by cases e⟩,λ_ _ h=>⟨R,λ_ _ e=>by cases e⟩,λ_ _ h=>⟨R,λ_ _ e=>by cases e⟩,λ_ _ h=>⟨R,λ_ _ e=>by cases e⟩,λ_ _ h=>⟨R,λ_ _ e=>by cases e⟩,λ_ _ h=>⟨R,λ_ _ e=>by cases e⟩,λ_ _ h=>⟨R,λ_ _ e=>by cases e⟩,λ_ _ h=>⟨R,λ_ _ e=>by cases e⟩,λ_ _ h=>⟨R,λ_ _ e=>by cases e⟩,λ_ _ h=>⟨R,λ_ _ e=>by cases e⟩,λ_ _ h=>⟨R,λ_ _ e=>by cases e⟩,λ_ _ h=>⟨R,λ_ _ e=>by cases e⟩,λ_ _ h=>⟨R,λ_ _ e=>by cases e⟩,λ_ _ h=>⟨R,λ_ _ e=>by cases e⟩,λ_ _ h=>⟨R,λ_ _ e=>by cases e⟩,λ_ _ h=>⟨by simp only[h 38 R],λ_ _ e=>by cases e;simp only[h 38 R]⟩,Za⟩) R (by exact⟨oB [(1,.ptr 1 l 0 0)] [(1,some<|.box l 76<|EA j)]<|fB R T9 (.inl R) (λ_=>R) R,oB [(12,.ptr 1 l 0 2)] [(1,some<|.box l 76<|EA j)]<|F0 (ds:=(Bd j.New)) R Fs (.inl R) R R R,oB [] []<|Bg R s6 (q:=[]) (by exact Za) (cs:=Lf)<|by rfl,oD (λ_=>[(13,.agg<|Bd j.New),(14,.agg Lf)]) (λ_=>[]) λw e h' n=>ER (r:=rB q) (caps:=[]) (bs:=[.agg<|Bd j.New,.agg [rI 0,rI 0,.r<|.sl [],.r<|.sl [],rI 0,rI 0,.r<|.sl [],.r<|.sl [],.r<|.sl []]]) R (.inl R) R ⟨⟨_,(.inl R),.g (cs:=[.int .i64 j.New.ID,.int .i64 j.New.Kind,.sl<|j.New.Attrs.map AC.row,.sl<|j.New.Flow.map AD.row,.int .i64 j.New.Grid.Rows,.int .i64 j.New.Grid.Cols,.sl<|j.New.Grid.Cells.map Aw.row,.sl<|j.New.Grid.Merges.map As.row,.sl<|j.New.Draw.map BN.row]) R R⟩,⟨_,(.inl R),.agg<|by exact⟨.closed _ R,.closed _ R,.nil,.nil,.closed _ R,.closed _ R,.nil,.nil,.nil,Za⟩⟩,Za⟩ (λ_=>ik<|Z) R,oB [(15,rB q)] []<|A0 R<|.inl R,oB [(1,.ptr 1 l 0 0)] [(1,some<|.box l 76<|EA j)]<|fB R R6 (.inl R) (λ_=>R) R,oB [(17,.ptr 1 l 0 11)] [(1,some<|.box l 76<|EA j)]<|AZ (a:=qa j.Attrs) R BA (.inl R) R R,oB [(18,qa j.Attrs)] []<|Bu R Ac.slice<|.inl R,oB [(19,rL j.Attrs)] []<|BD R (.inl R)<|.inl R,oB [(1,.ptr 1 l 0 0)] [(1,some<|.box l 76<|EA j)]<|fB R Mt (.inl R) (λ_=>R) R,oB [(21,.ptr 1 l 0 12)] [(1,some<|.box l 76<|EA j)]<|AZ (a:=qd j.Steps) R EE (.inl R) R R,oB [(22,qd j.Steps)] []<|Bu R Bx.slice<|.inl R,oB [(23,rL j.Steps)] []<|BD R (.inl R)<|.inl R,oB [(3,.ptr 3 (l+1) 0 0)] [(3,some<|.box (l+1) 74<|Di j.Grid)]<|fB R Sc (.inl R) (λ_=>R) R,oB [(25,.ptr 3 (l+1) 0 0)] [(3,some<|.box (l+1) 74<|Di j.Grid)]<|AZ (a:=qh j.Grid.Rows) R JH (.inl R) R R,oB [(26,qh j.Grid.Rows)] []<|Bu R Ej.slice<|.inl R,oB [(3,.ptr 3 (l+1) 0 0)] [(3,some<|.box (l+1) 74<|Di j.Grid)]<|fB R UH (.inl R) (λ_=>R) R,oB [(28,.ptr 3 (l+1) 0 1)] [(3,some<|.box (l+1) 74<|Di j.Grid)]<|AZ (a:=qh j.Grid.Cols) R JH (.inl R) R R,oB [(29,qh j.Grid.Cols)] []<|Bu R Ej.slice<|.inl R,oB [(27,rL j.Grid.Rows),(30,rL j.Grid.Cols)] []<|G5 R (.inl R) (.inl R) λ_=>a0,oB [(3,.ptr 3 (l+1) 0 0)] [(3,some<|.box (l+1) 74<|Di j.Grid)]<|fB R SV (.inl R) (λ_=>R) R,oB [(32,.ptr 3 (l+1) 0 2)] [(3,some<|.box (l+1) 74<|Di j.Grid)]<|AZ (a:=qe j.Grid.Cells) R FA (.inl R) R R,oB [(33,qe j.Grid.Cells)] []<|Bu R Cq.slice<|.inl R,oB [(31,rI x1),(34,rL j.Grid.Cells)] []<|G5 R (.inl R) (.inl R) λ_=>a1,oB [(3,.ptr 3 (l+1) 0 0)] [(3,some<|.box (l+1) 74<|Di j.Grid)]<|fB R RP (.inl R) (λ_=>R) R,oB [(36,.ptr 3 (l+1) 0 3)] [(3,some<|.box (l+1) 74<|Di j.Grid)]<|AZ (a:=qc j.Grid.Split) R DR (.inl R) R R,oB [(37,qc j.Grid.Split)] []<|Bu R Cn.slice<|.inl R,oB [(35,rI x2),(38,rL j.Grid.Split)] []<|G5 R (.inl R) (.inl R) λ_=>a2,oB [(3,.ptr 3 (l+1) 0 0)] [(3,some<|.box (l+1) 74<|Di j.Grid)]<|fB R Kq (.inl R) (λ_=>R) R,oB [(40,.ptr 3 (l+1) 0 4)] [(3,some<|.box (l+1) 74<|Di j.Grid)]<|AZ (a:=qc j.Grid.Merge) R DR (.inl R) R R,oB [(41,qc j.Grid.Merge)] []<|Bu R Cn.slice<|.inl R,oB [(39,rI x3),(42,rL j.Grid.Merge)] []<|G5 R (.inl R) (.inl R) λ_=>a6,oB [(43,rI u)] []<|BD R (.inl R)<|.inl R,oB [(1,.ptr 1 l 0 0)] [(1,some<|.box l 76<|EA j)]<|fB R S2 (.inl R) (λ_=>R) R,oB [(45,.ptr 1 l 0 18)] [(1,some<|.box l 76<|EA j)]<|AZ (a:=qf j.Draw) R Gk (.inl R) R R,oB [(46,qf j.Draw)] []<|Bu R FI.slice<|.inl R,oB [(47,rL j.Draw)] []<|BD R (.inl R)<|.inl R,oB [(16,rB<|(!q)),(20,rB<|(decide<|0<(j.Attrs.length:Int))),(24,rB<|(decide<|0<(j.Steps.length:Int))),(44,rB<|(decide<|0<u)),(48,rB<|(decide<|0<(j.Draw.length:Int)))] []<|uy R ux (q:=[(0,_),(1,_),(2,_),(3,_),(4,_)]) (by exact⟨R,R,R,(.inl R),R,R,R,(.inl R),R,R,R,(.inl R),R,R,R,(.inl R),R,R,R,(.inl R),Za⟩) (cs:=[rB<|(!q),rB<|(decide<|0<(j.Attrs.length:Int)),rB<|(decide<|0<(j.Steps.length:Int)),rB<|(decide<|0<u),rB<|(decide<|0<(j.Draw.length:Int))])<|by rfl,oM (λ_=>[]) (λ_=>[]) R λw e h' n=>BB (cs:=gM) 4 R pt R R,Za⟩) λw n1=>?_
 refine A7 [0,1,2,3,4,6,7,8,9,10,11,12,13,14,15,16,17,18,19,20,21,22,23,24,25,26,27,28,29,30,31,32,33,34,35,36,37,38,39,40,41,42,43,44,45,46,47,48,49] [1,3,4] ?_
 refine Zk R R (Af (ds:=[rB<|(!q),rB<|(decide<|0<(j.Attrs.length:Int)),rB<|(decide<|0<(j.Steps.length:Int)),rB<|(decide<|0<u),rB<|(decide<|0<(j.Draw.length:Int))]) R rE iL R iL R R R R)<|aZ<|c6 _<|aS λK7 c7 a7=>aT λc8=>aG [1,4] [1,4] ?_
 refine aR<|mM R<|aZ<|c8 _<|Zf<|BI h7 λo2 M a8 aa=>?_
 have J1:∀(u2:Unit) (i5:NN),o2=.nrm u2→K7 ⟨[(1,.ptr 1 l 0 0)],[(1,some<|.box l 76<|EA j)],(i5 0),96⟩:=by
  intro u2 i5 e
  have h8:=a8 _ e
  refine c7 _<|aT λc9=>aU<|lF LP AJ R R<|xQ R<|aZ<|cI R h8 (λh9=>?_) λh9=>?_
  ·refine aT λab=>aU<|lF P3 AJ R R<|xU R<|aZ<|cI R h9 (λA=>?_) λA=>?_
   ·exact zI A R id
   exact Zd<|ab _<|aU<|sQ R (fB R T9 iL fR R)<|sQ R (F0 (ds:=(Bd j.New)) R Fs iL R R R)<|AG A λr3 ac ad=>cL (g9<|ac) R<|mA R<|aZ<|Zj<|yI ad R
  refine Zd<|c9 _<|aT λae=>aU<|lF P3 AJ R R<|AG h9 λr4 af ag=>cL (DX<|af) R<|sQ R (A0 R iL)<|aZ<|cI R ag (λB=>?_) λB=>?_
  ·exact zI B R id
  refine Zd<|ae _<|aT λah=>aU<|lF LP AJ R R<|aZ<|Zf<|aU<|xQ R<|mA R<|aZ<|cI R B (λC=>?_) λC=>?_
  ·refine aT λai=>aG [1] [1] ?_
   exact aR<|lF R6 BA R R<|AG C λr5 aj ak=>cL (ML<|aj) R<|mA R<|aZ<|ai _<|Zj<|yI ak R
  refine aT λal=>aG [1,77] [1] ?_
  refine aR<|xQ R<|mA R<|aZ<|al _<|cI R C (λE=>?_) λE=>?_
  ·exact aU<|lF Mt EE R R<|AG E λr6 an ao=>cL (pg<|an) R<|mA R<|aZ<|Zj<|yI ao R
  refine aU<|xQ R<|mA R<|aZ<|cI R E (λF=>?_) λF=>?_
  ·exact aU<|sQ R (fB R Sf iL fR R)<|sQ R (F0 (ds:=(Di j.Grid)) R T7 iL R R R)<|AG F λr7 aq ar=>cL (qm<|aq) R<|mA R<|aZ<|Zj<|yI ar R
  exact Zd<|ah _<|aU<|lF S2 Gk R R<|AG F λr8 av aw=>cL (co<|av) R<|mA R<|aZ<|Zj<|yI aw R
 refine Zz (λ(x6:Int) V=>⟨[(1,.ptr 1 l 0 0),(4,.ptr 4 (w 38) 0 0),(50,rI x6)],[(1,some<|.box l 76<|EA j),(4,some<|.box (w 38) 158 [rB<|(!q),rB<|(decide<|0<(j.Attrs.length:Int)),rB<|(decide<|0<(j.Steps.length:Int)),rB<|(decide<|0<u),rB<|(decide<|0<(j.Draw.length:Int))])],(V 0),96⟩) (AH [n1]) M wk ?_
 intro x6 V v1 ax O
 have T:Lo j q u x6=some v1:=ax;unfold Lo at T
 refine aU<|xS R<|aZ<|aT λay=>cI R T (λI=>?_) λI=>?_
 ·refine Zd<|ay _<|aT λaz=>Zf<|aU<|mM R<|mA R<|aZ<|aU<|mM R<|AG I λx8 U b0=>sQ R (jP (l:=[(!q),(decide<|0<(j.Attrs.length:Int)),(decide<|0<(j.Steps.length:Int)),(decide<|0<u),(decide<|0<(j.Draw.length:Int))]) R oS iL R iL (λ_=>U) R)<|sQ R (pG (l:=[(!q),(decide<|0<(j.Attrs.length:Int)),(decide<|0<(j.Steps.length:Int)),(decide<|0<u),(decide<|0<(j.Draw.length:Int))]) R XR iL R R λ_=>U)<|mM R<|vM R<|vF LP AJ R R<|vQ R (Cf R (iR R)<|iR R)<|xN R<|aZ<|cI R b0 (λJ=>?_) λJ=>?_
  ·exact zI (aa _<|xH O J) R id
  exact Zd<|az _<|aR<|AG J λx9 b1 b2=>xA R b1<|mM R<|Zh<|Zx b2 (AH [(V 0)]) wk
 exact Zn<|a7 _ _ wk<|J1 _ (AH [(V 0)])<|xH O I
theorem mC{d1 r}(h:Nk d1=some r):AO prog 61 [qd d1] (rI r):=by
 unfold Nk at h
 refine mF func61 ntmps61 R λU=>aU<|mA R<|aZ<|aU<|mA R<|aZ<|aS λV X q=>aU<|mM R<|xL Bx R<|mM R<|aZ<|Zf<|A3 h λY j u=>?_
 have Z:∀(w:Int) (O:NN),Y=w→V ⟨[(3,rI w)],[],(O 0),19⟩:=by
  intro w O e
  have h1:=u _ e
  exact X _<|aU<|mM R<|mA R<|aZ<|Zj<|yI h1 R
 refine ZL (λ(A:Int) (B:Int) l=>⟨[(0,qd d1),(3,rI A),(6,rL d1),(7,rI B)],[],(l 0),19⟩) (AH [U]) j wk ?_
 intro A B l v1 C E
 have T:JD d1 A B=some v1:=C;unfold JD at T
 refine aU<|xS R<|aZ<|aT λc7=>cI R T (λF=>?_) λF=>?_
 ·refine Zd<|c7 _<|aT λc8=>Zf<|aU<|mM R<|mA R<|aZ<|aR<|mM R<|mM R<|mM R<|AG F λx4 I h4=>xI Bx R I<|sQ R (A2 R EM iL)<|xV (.int .i64 x4.N) AJ R<|AG h4 λn5 J h5=>xA R J<|mA R<|aZ<|c8 _<|aF [0,3,6,7] ?_
  exact aR<|AG h5 λx5 M h6=>xA R M<|mM R<|Zh<|ZH h6 (AH [(l 0)]) wk
 exact Zn<|q _ _ wk<|Z _ (AH [(l 0)])<|xH E F
theorem qt{d1 r}(h:QM d1=some r):AO prog 116 [qd d1] (.agg<|HB r):=by
 unfold QM at h
 refine mF func116 ntmps116 R λj=>aU<|sS R (BB (cs:=Iu) 2 R Yp R R)<|aZ<|aT λc2=>aR<|sS R (Bw 7 R Jt (f:=(EC AD.row)) (l:=([[]]:List (List AD))) ⟨R,⟨_,iL,R⟩,Za⟩ R (λ_=>R) R) ?_
 refine sQ R (Bg R om (q:=[(0,_)]) (by exact⟨R,R,R,iL,Za⟩) (cs:=[.own 7<|j+1,cZ,cZ])<|by rfl) ?_
 refine sS R (BB (cs:=Iu) 3 R Yp R R)<|Zk R R (Af (ds:=[.own 7<|j+1,cZ,cZ]) R ZT iL R iL R R R R)<|aZ<|c2 _<|aS λK3 c3 Z=>aU<|mM R<|xL Bx R<|mM R<|aZ<|Zf<|A3 h λo1 M a0=>?_
 have J1:∀(a4:Bk) (C:NN),o1=a4→K3 ⟨[(2,.ptr 2 j 0 0),(3,.ptr 3 (j+2) 0 0)],[(2,some<|.box j 69 Iu),(3,some<|.box (j+2) 69 [.own 7<|C 0,.own 54<|C 1,.own 61<|C 2]),(7,some<|.arr (C 0) 36 1<|a4.Adds.map<|EC AD.row),(54,some<|.arr (C 1) 4 1<|a4.Cuts.map Ed),(61,some<|.arr (C 2) 39 1<|a4.Attrs.map<|EC AC.row)],(C 3),66⟩:=by
  intro a4 C e
  have h1:=a0 _ e
  refine c3 _<|aU<|xC cF R<|Zk R R (Af (ds:=[.own 7<|C 0,.own 54<|C 1,.own 61<|C 2]) R ZT iL R iL R R R R)<|aZ ?_
  exact Zj<|Cz (P:=prog) (λ(r:Bk)=>.agg<|HB r) h1 iL<|.a cF R R R<|.agg<|by exact⟨.own R,.own R,.own R,Za⟩
 refine ZL (λ(J:Int) (E:Bk) l=>⟨[(0,qd d1),(2,.ptr 2 j 0 0),(3,.ptr 3 (j+2) 0 0),(10,rL d1),(11,rI J)],[(2,some<|.box j 69 Iu),(3,some<|.box (j+2) 69 [.own 7<|l 0,.own 54<|l 1,.own 61<|l 2]),(7,some<|.arr (l 0) 36 1<|E.Adds.map<|EC AD.row),(54,some<|.arr (l 1) 4 1<|E.Cuts.map Ed),(61,some<|.arr (l 2) 39 1<|E.Attrs.map<|EC AC.row)],(l 3),66⟩) (AH [(j+1),(j+3),(j+4),(j+5)]) M (Zm (Zm (FB 3 1 54 4 1 (by decide) R R<|by decide)<|by exact ZC (e':=[(0,qd d1),(2,.ptr 2 j 0 0),(3,.ptr 3 (j+2) 0 0),(7,.own 7<|j+1),(8,.agg [.own 7<|j+1,cZ,cZ]),(9,qd d1),(10,rL d1),(11,rI 0)]) (h':=[(2,some<|.box j 69 Iu),(3,some<|.box (j+2) 69 [.own 7<|j+1,.own 54<|j+3,cZ]),(7,some<|.arr (j+1) 36 1<|[[]].map<|EC AD.row),(54,some<|.arr (j+3) 4 1<|([]:List Bool).map Ed)]) ⟨jL,jL,jL,jL,jL,jL,jL,jL,Za⟩ ⟨.inl R,.inl R,.inl R,.inl R,Za⟩ nL)<|Zm (Zm (FB 3 2 61 39 1 (by decide) R R<|by decide)<|by exact ZC (e':=[(0,qd d1),(2,.ptr 2 j 0 0),(3,.ptr 3 (j+2) 0 0),(7,.own 7<|j+1),(8,.agg [.own 7<|j+1,cZ,cZ]),(9,qd d1),(10,rL d1),(11,rI 0)]) (h':=[(2,some<|.box j 69 Iu),(3,some<|.box (j+2) 69 [.own 7<|j+1,.own 54<|j+3,.own 61<|j+4]),(7,some<|.arr (j+1) 36 1<|[[]].map<|EC AD.row),(54,some<|.arr (j+3) 4 1<|([]:List Bool).map Ed),(61,some<|.arr (j+4) 39 1<|([]:List (List AC)).map<|EC AC.row)]) ⟨jL,jL,jL,jL,jL,jL,jL,jL,Za⟩ ⟨.inl R,.inl R,.inl R,.inl R,.inl R,Za⟩ nL) wk) ?_
 intro J E l v1 a1 a6
 have h2:JM d1 J E=some v1:=a1;unfold JM at h2
 refine aU<|xS R<|aZ<|aT λc7=>cI R h2 (λh3=>?_) λh3=>?_
 ·refine Zd<|c7 _<|aS λK8 c8 O=>Zf<|A3 h3 λp1 a8 aa=>?_
  have J2:∀(a5:Bk) (B:NN),p1=a5→K8 ⟨[(0,qd d1),(2,.ptr 2 j 0 0),(3,.ptr 3 (j+2) 0 0),(10,rL d1),(11,rI J)],[(2,some<|.box j 69 Iu),(3,some<|.box (j+2) 69 [.own 7<|B 0,.own 54<|B 1,.own 61<|B 2]),(7,some<|.arr (B 0) 36 1<|a5.Adds.map<|EC AD.row),(54,some<|.arr (B 1) 4 1<|a5.Cuts.map Ed),(61,some<|.arr (B 2) 39 1<|a5.Attrs.map<|EC AC.row)],(B 3),66⟩:=by
   intro a5 B e
   have h4:=aa _ e
   exact c8 _<|aR<|AG h4 λx4 ab h5=>xA R ab<|mM R<|Zh<|ZH h5 (AH [(B 0),(B 1),(B 2),(B 3)]) wk
  refine aU<|mM R<|mA R<|aZ<|aU<|mM R<|mM R<|AG a8 λw ac h6=>xI Bx R ac<|xB ((Bq w)) En R<|sS R (BB (cs:=EH) 5 R FH R R)<|Zk R R (Af (ds:=(Bq w)) R FT iL R iL R R R R)<|aZ<|aT λad=>aU<|lF CG AJ R R<|xQ R<|aZ<|cI R h6 (λh7=>?_) λh7=>?_
  ·refine aT λae=>aG [0,2,3,5,10,11] [2,3,5,7,54,61] ?_
   refine aR<|lF LC ON R R<|sQ R (LK R Jt.slice iL R)<|AG h7 λA af h8=>sQ R (CF R iL iL λ_=>af)<|mA R<|aZ<|ae _<|aT λag=>AG h8 λY F h9=>AG h9 λl1 ah ai=>AG ai λl2 aj ak=>?_
   refine JC 13 [pO 25<|.ptr 3 (j+2) 0 0,pO 26<|.own 7<|l 0,pO 27<|rI A,⟨some 28,(λu=>.own 28<|u 3),some (28,(λu=>some<|.arr (u 3) 51 3<|([]:List AD).map AD.row)),[3]⟩,pO 29<|.ptr 3 (j+2) 0 0,pO 30<|.own 7<|l 0,pO 31<|rI A,pO 32<|.ptr 7 (l 0) A.toNat 0,pO 33<|qb Y,⟨some 34,(λu=>.own 28<|u 9),some (28,(λu=>some<|.arr (u 9) 51 3<|l1.map AD.row)),[9]⟩,pO 35<|.ptr 5 (l 3) 0 3,pO 36<|qb w.Elems,⟨some 37,(λu=>.own 28<|u 12),some (28,(λu=>some<|.arr (u 12) 51 3<|l2.map AD.row)),[12]⟩] BJ (by kernel_rfl) (by exact⟨λ_ _ h=>⟨R,λ_ _ e=>by cases e⟩,λ_ _ h=>⟨R,λ_ _ e=>by cases e⟩,λ_ _ h=>⟨R,λ_ _ e=>by cases e⟩,λ_ _ h=>⟨by simp only[h 3 R],λ_ _ e=>by cases e;simp only[h 3 R]⟩,λ_ _ h=>⟨R,λ_ _ e=>by cases e⟩,λ_ _ h=>⟨R,λ_ _ e=>by cases e⟩,λ_ _ h=>⟨R,λ_ _ e=>by cases e⟩,λ_ _ h=>⟨R,λ_ _ e=>by cases e⟩,λ_ _ h=>⟨R,λ_ _ e=>by cases e⟩,λ_ _ h=>⟨by simp only[h 9 R],λ_ _ e=>by cases e;simp only[h 9 R]⟩,λ_ _ h=>⟨R,λ_ _ e=>by cases e⟩,λ_ _ h=>⟨R,λ_ _ e=>by cases e⟩,λ_ _ h=>⟨by simp only[h 12 R],λ_ _ e=>by cases e;simp only[h 12 R]⟩,Za⟩) R (by exact⟨oB [(3,.ptr 3 (j+2) 0 0)] [(3,some<|.box (j+2) 69 [.own 7<|l 0,.own 54<|l 1,.own 61<|l 2])]<|fB R LC (.inl R) (λ_=>R) R,oB [(25,.ptr 3 (j+2) 0 0)] [(3,some<|.box (j+2) 69 [.own 7<|l 0,.own 54<|l 1,.own 61<|l 2])]<|AZ (a:=.own 7<|l 0) R ON (.inl R) R R,oB [(6,rI A)] []<|AK R<|.inl R,oM (λ_=>[]) (λ_=>[]) R λu e h' n=>Bw 28 R Ah (f:=AD.row) (l:=([]:List AD)) Za R (λ_=>R) R,oB [(3,.ptr 3 (j+2) 0 0)] [(3,some<|.box (j+2) 69 [.own 7<|l 0,.own 54<|l 1,.own 61<|l 2])]<|fB R LC (.inl R) (λ_=>R) R,oB [(29,.ptr 3 (j+2) 0 0)] [(3,some<|.box (j+2) 69 [.own 7<|l 0,.own 54<|l 1,.own 61<|l 2])]<|AZ (a:=.own 7<|l 0) R ON (.inl R) R R,oB [(6,rI A)] []<|AK R<|.inl R,oB [(30,.own 7<|l 0),(31,rI A)] [(7,some<|.arr (l 0) 36 1<|E.Adds.map<|EC AD.row)]<|Em R Jt.slice (.inl R) R (.inl R) λ_=>F,oB [(32,.ptr 7 (l 0) A.toNat 0)] [(7,some<|.arr (l 0) 36 1<|E.Adds.map<|EC AD.row)]<|Ju (d:=.sl<|Y.map AD.row) R B2 (.inl R) (λ_=>R) (λ_=>F) R,oM (λu=>[(28,.own 28<|u 3),(33,qb Y)]) (λu=>[(28,some<|.arr (u 3) 51 3<|([]:List AD).map AD.row)]) R λu e h' n=>Ca R Ah (.inl R) R (.inl ⟨(.inl R),λ_=>R⟩) ah,oB [(5,.ptr 5 (l 3) 0 0)] [(5,some<|.box (l 3) 100<|Bq w)]<|fB R EK (.inl R) (λ_=>R) R,oB [(35,.ptr 5 (l 3) 0 3)] [(5,some<|.box (l 3) 100<|Bq w)]<|AZ (a:=qb w.Elems) R B2 (.inl R) R R,oM (λu=>[(34,.own 28<|u 9),(36,qb w.Elems)]) (λu=>[(28,some<|.arr (u 9) 51 3<|l1.map AD.row)]) R λu e h' n=>Ca R Ah (.inl R) R (.inl ⟨(.inl R),λ_=>R⟩) aj,Za⟩) λu n1=>?_
   refine A7 [0,2,3,5,6,10,11,21,22,23,24,25,26,27,29,30,31,32,33,35,36,37] [2,3,5,7,28,54,61] ?_
   refine sQ R (Em R Jt.slice iL R iL λ_=>F) ?_
   refine AN.weak (by exact Ak.frz (e':=[(0,qd d1),(2,.ptr 2 j 0 0),(3,.ptr 3 (j+2) 0 0),(5,.ptr 5 (l 3) 0 0),(6,rI A),(10,rL d1),(11,rI J),(21,.ptr 3 (j+2) 0 0),(22,.own 7<|l 0),(23,rL E.Adds),(24,rI A),(25,.ptr 3 (j+2) 0 0),(26,.own 7<|l 0),(27,rI A),(29,.ptr 3 (j+2) 0 0),(30,.own 7<|l 0),(31,rI A),(32,.ptr 7 (l 0) A.toNat 0),(33,qb Y),(35,.ptr 5 (l 3) 0 3),(36,qb w.Elems),(37,qb l2),(38,.ptr 7 (l 0) A.toNat 0)]) (h':=[(2,some<|.box j 69 Iu),(3,some<|.box (j+2) 69 [.own 7<|l 0,.own 54<|l 1,.own 61<|l 2]),(5,some<|.box (l 3) 100<|Bq w),(7,some<|.arr (l 0) 36 1<|E.Adds.map<|EC AD.row),(54,some<|.arr (l 1) 4 1<|E.Cuts.map Ed),(61,some<|.arr (l 2) 39 1<|E.Attrs.map<|EC AC.row)]) 28 R ⟨jL,jL,jL,jL,jL,jL,jL,jL,jL,jL,jL,jL,jL,jL,jL,jL,jL,jL,jL,jL,jL,.inl<|.inr<|.inr ⟨R,R⟩,jL,Za⟩ ⟨R,.inl R,R,.inl R,R,.inl R,R,.inl R,R,.inl R,R,.inl R,Za⟩) ?_
   exact Zk R R (Kw (v:=l2) R S8 iL R F iL R R R R)<|aZ<|ag _<|Zn<|O _ _ wk<|J2 _ (AH [(l 0),(l 1),(l 2),n1]) (Zb ak).symm
  refine Zd<|ad _<|aT λal=>aG [0,2,3,5,10,11] [2,3,5,7,54,61] ?_
  refine aR<|lF EM AJ R R<|mM R<|aZ<|al _<|Zf<|BI h7 λo2 T b3 an=>ZL (λ(x8:Int) (U:Bk) q=>⟨[(0,qd d1),(2,.ptr 2 j 0 0),(3,.ptr 3 (j+2) 0 0),(5,.ptr 5 (l 3) 0 0),(10,rL d1),(11,rI J),(40,rI w.N),(41,rI x8)],[(2,some<|.box j 69 Iu),(3,some<|.box (j+2) 69 [.own 7<|q 0,.own 54<|q 1,.own 61<|q 2]),(5,some<|.box (l 3) 100<|Bq w),(7,some<|.arr (q 0) 36 1<|U.Adds.map<|EC AD.row),(54,some<|.arr (q 1) 4 1<|U.Cuts.map Ed),(61,some<|.arr (q 2) 39 1<|U.Attrs.map<|EC AC.row)],(q 3),66⟩) (AH [(l 0),(l 1),(l 2),((l 3)+1)]) T wk ?_
  intro x8 U q v2 ao aq
  have V:JT w x8 U=some v2:=ao;unfold JT at V
  refine aU<|xS R<|aZ<|aT λar=>cI R V (λI=>?_) λI=>?_
  ·refine Zd<|ar _<|aT λav=>Zf<|aU<|lF LC ON R R<|sS R (Bw 45 R Jt (f:=(EC AD.row)) (l:=([[]]:List (List AD))) ⟨R,⟨_,iL,R⟩,Za⟩ R (λ_=>R) R)<|AG I λl3 aw ax=>sS R (Ca R Jt iL R (.inr<|.inl ⟨_,_,iL,R⟩) aw)<|sQ R (fB R LC iL fR R)<|Zk R R (Af (ds:=[.own 7<|(q 3)+1,.own 54<|q 1,.own 61<|q 2]) R mN iL R iL R R R R)<|aZ<|aU<|lF XO Zy R R<|lF CG AJ R R<|xQ R<|sS R (Bw 53 R MV (f:=Ed) (l:=([(decide<|w.Kind=2)]:List Bool)) ⟨R,⟨_,iL,R⟩,Za⟩ R (λ_=>R) R)<|AG ax λl4 ay az=>sS R (Ca R MV iL R (.inr<|.inl ⟨_,_,iL,R⟩) ay)<|sQ R (fB R XO iL fR R)<|Zk R R (Af (ds:=[.own 7<|(q 3)+1,.own 54<|(q 3)+3,.own 61<|q 2]) R qU iL R iL R R R R)<|aZ<|aG [0,2,3,5,10,11,40,41] [2,3,5,7,54,61] ?_
   exact aR<|lF Ve dI R R<|lF Dt BA R R<|sS R (Bw 60 R WX (f:=(EC AC.row)) (l:=([w.Attrs]:List (List AC))) ⟨R,⟨_,iL,R⟩,Za⟩ R (λ_=>R) R)<|AG az λl5 b0 b1=>sS R (Ca R WX iL R (.inr<|.inl ⟨_,_,iL,R⟩) b0)<|sQ R (fB R Ve iL fR R)<|Zk R R (Af (ds:=[.own 7<|(q 3)+1,.own 54<|(q 3)+3,.own 61<|(q 3)+5]) R mK iL R iL R R R R)<|aZ<|av _<|aR<|AG b1 λb4 X b2=>xA R X<|mM R<|Zh<|ZH b2 (AH [((q 3)+1),((q 3)+3),((q 3)+5),((q 3)+6)]) wk
  exact Zn<|O _ _ wk<|J2 _ (AH [(q 0),(q 1),(q 2),(q 3)]) (Zb<|an _<|xH aq I).symm
 exact Zn<|Z _ _ wk<|J1 _ (AH [(l 0),(l 1),(l 2),(l 3)])<|xH a6 h3
theorem qp{f1 w r}(h:Mo f1 w=some r):AO prog 115 [qb f1,.agg<|HB w] (qb r):=by
 unfold Mo at h
 refine mF func115 ntmps115 R λj=>aU<|sS R (Ay (cs:=(HB w)) 3 R iL R R)<|mA R<|aZ<|aU<|mA R<|aZ<|aS λK3 c3 U=>aU<|mM R<|xL Ah R<|mM R<|aZ<|Zf<|A3 h λo1 J V=>?_
 have J1:∀(l:List AD) (O:NN),o1=l→K3 ⟨[(0,qb f1),(3,.ptr 3 j 0 0),(5,.own 5005<|O 0)],[(3,some<|.box j 69<|HB w),(5005,some<|.arr (O 0) 51 3<|l.map AD.row)],(O 1),52⟩:=by
  intro l O e
  have h1:=V _ e
  exact c3 _<|aU<|mM R<|lF LC ON R R<|mM R<|xL Ah R<|AG h1 λx4 X h2=>xI Jt R X<|xV (.sl<|x4.map AD.row) B2 R<|AG h2 λl1 Y h3=>sS R (Ca R Ah iL R (.inl ⟨iL,λ_=>R⟩) Y)<|mA R<|aZ<|Zj<|Cz (P:=prog) (λ(r:(List AD))=>qb r) h3 iL<|.t<|.one<|.own R
 refine ZL (λ(T:Int) (q:List AD) A=>⟨[(0,qb f1),(3,.ptr 3 j 0 0),(5,.own 5005<|A 0),(9,rL f1),(10,rI T)],[(3,some<|.box j 69<|HB w),(5005,some<|.arr (A 0) 51 3<|q.map AD.row)],(A 1),52⟩) (AH [(j+1),(j+2)]) J (Zm (Zm (ZR 5 5005 51 3 (by decide) R)<|by exact ZC (e':=[(0,qb f1),(1,.agg<|HB w),(3,.ptr 3 j 0 0),(4,cZ),(5,.own 5005<|j+1),(8,qb f1),(9,rL f1),(10,rI 0)]) (h':=[(3,some<|.box j 69<|HB w),(5005,some<|.arr (j+1) 51 3<|([]:List AD).map AD.row)]) ⟨jL,jL,jL,jL,jL,jL,jL,jL,Za⟩ ⟨.inl R,.inl R,Za⟩ nL) wk) ?_
 intro T q A v1 Z a0
 have h4:JS f1 w T q=some v1:=Z;unfold JS at h4
 refine aU<|xS R<|aZ<|aT λc7=>cI R h4 (λh5=>?_) λh5=>?_
 ·refine Zd<|c7 _<|aS λK8 c8 M=>Zf<|A3 h5 λp1 a2 a6=>?_
  have J2:∀(u:List AD) (I:NN),p1=u→K8 ⟨[(0,qb f1),(3,.ptr 3 j 0 0),(5,.own 5005<|I 0),(9,rL f1),(10,rI T)],[(3,some<|.box j 69<|HB w),(5005,some<|.arr (I 0) 51 3<|u.map AD.row)],(I 1),52⟩:=by
   intro u I e
   have h6:=a6 _ e
   exact c8 _<|aR<|AG h6 λx5 a7 h7=>xA R a7<|mM R<|Zh<|ZH h7 (AH [(I 0),(I 1)]) wk
  refine aU<|mM R<|mA R<|aZ<|aU<|mM R<|lF LC ON R R<|mM R<|AG a2 λx6 a8 h8=>xI Jt R a8<|xV (.sl<|x6.map AD.row) B2 R<|AG h8 λal C h9=>sS R (Ca R Ah iL R (.inl ⟨iL,λ_=>R⟩) C)<|mA R<|aZ<|aU<|lF XO Zy R R<|mM R<|AG h9 λx7 aa ab=>xI MV R aa<|xV (.bool x7) XR R<|sQ R (A0 R iL)<|aZ<|cI R ab (λE=>?_) λE=>?_
  ·refine aT λac=>aG [0,3,5,6,9,10] [3,5005] ?_
   refine aR<|mM R<|mM R<|AG E λB ad ae=>xI Ah R ad<|xB ((Ad B)) Cj R<|sS R (BB (cs:=Eo) 7 R Ee R R)<|Zk R R (Af (ds:=(Ad B)) R DT iL R iL R R R R)<|aZ<|ac _<|aT λaf=>?_
   refine MA 7 BJ (by kernel_rfl) R R ?_
   refine Zt R R R (fB R CR iL fR R)<|Zt R R R (AZ (a:=qa B.Attrs) R BA iL R R)<|Zt R R R (fB R Ve iL fR R)<|Zt R R R (AZ (a:=.r<|.sl<|w.Attrs.map<|EC AC.row) R dI iL R R)<|Zt R R R (AK R iL)<|AG ae λx9 ag ah=>Zt R R R (Ap R WX.slice iL iL (λ_=>R) λ_=>ag)<|Zt R R R (BU (d:=.sl<|x9.map AC.row) R BA iL R)<|AT.nil<|AG ah λr1 ai aj=>sS R (CB (r:=qa r1) (caps:=[]) (bs:=[qa B.Attrs,qa x9]) R iL R ⟨.inl ⟨iL,R⟩,.inl ⟨iL,R⟩,Za⟩ λ_=>W7<|ai)<|sQ R (fB R CR iL fR R)<|Zk R R (Af (ds:=[rI B.Char,rI B.Ref,qa r1]) R F9 iL R iL R R R R)<|aZ<|af _<|aG [0,3,5,7,9,10] [3,7,5005] ?_
   exact aR<|mM R<|xC Cj R<|sS R (Bw 41 R Ah (f:=AD.row) (l:=([(AD.mk B.Char B.Ref r1)]:List AD)) ⟨R,⟨_,iL,R⟩,Za⟩ R (λ_=>R) R)<|AG aj λan F ak=>sS R (Ca R Ah iL R (.inr<|.inl ⟨_,_,iL,R⟩) F)<|mA R<|Zh<|M _ _ wk<|J2 _ (AH [((A 1)+3),((A 1)+4)]) (Zb ak).symm
  exact Zd<|M _ _ wk<|J2 _ (AH [(A 1),((A 1)+1)]) (Zb E).symm
 exact Zn<|U _ _ wk<|J1 _ (AH [(A 0),(A 1)])<|xH a0 h5
theorem jx{f1 d1 r}(h:MD f1 d1=some r):AO prog 63 [qb f1,qd d1] (qb r):=by
 unfold MD at h
 exact mF func63 ntmps63 R λB=>aU<|mA R<|aZ<|aU<|mM R<|mM R<|AG h λq j u=>sS R (CB (r:=.agg<|HB q) (caps:=[]) (bs:=[qd d1]) R iL R ⟨.inl ⟨iL,R⟩,Za⟩ λ_=>qt<|j)<|AG u λw l A=>sS R (CB (r:=qb w) (caps:=[]) (bs:=[qb f1,.agg<|HB q]) R iL R ⟨.inl ⟨iL,R⟩,.inl ⟨iL,R⟩,Za⟩ λ_=>qp<|l)<|mA R<|aZ<|Zj<|Cz (P:=prog) (λ(r:(List AD))=>qb r) A iL<|.t<|.d R
theorem mw{d1 C n w r}(h:PZ d1 C n w=some r):AO prog 20 [.agg [qg d1.Nodes],qi C,rI n,qb w] (rB r):=by
 unfold PZ at h
 refine mF func20 ntmps20 R λn0=>aU<|sS R (Ay (cs:=[qg d1.Nodes]) 4 R iL R R)<|mA R<|aZ<|aT λC2=>aU<|mM R<|xL GK R<|xU R<|mM R<|vM R<|AG h λx1 I h1=>vQ R (Ap R GK.slice (iR R) iL (λ_=>R)<|AP I)<|vQ R (A2 R LP<|iR R)<|vQ R (BU (d:=.int .i64 x1.Kind) R AJ (iR R) R)<|vQ R (Cf R (iR R) iL)<|xO R<|mM R<|vM R<|AG h1 λx2 J h2=>vQ R (Ap R GK.slice (iR R) iL (λ_=>R)<|AP J)<|vQ R (A2 R P3<|iR R)<|vQ R (BU (d:=.int .i64 x2.Node) R AJ (iR R) R)<|vM R<|vQ R (Cf R (iR R)<|iR R)<|xO R<|aZ<|cI R h2 (λM=>?_) λM=>?_
 ·exact zB M R id
 refine Zd<|C2 _<|aT λC5=>aG [1,2,3,4] [4] ?_
 refine ZA BJ (by kernel_rfl) ?_
 refine qP R (fB R Dy iL fR R)<|qP R (AZ (a:=qg d1.Nodes) R Dw iL R R)<|qP R (D5 R EF iL R R)<|qP R (AK R iL)<|AG M λr1 O h4=>Ep R R R (r:=rI r1) (caps:=[]) (bs:=[.agg [qg d1.Nodes],rI n]) R iL R ⟨⟨_,iL,.g (cs:=[.sl<|d1.Nodes.map Ag.row]) R R⟩,⟨_,iL,.d R⟩,Za⟩ (λ_=>TO<|O) R<|AG h4 λq T h5=>qP R (Ap R DJ.slice iL iL (λ_=>R) λ_=>T)<|qP R (A2 R E8 iL)<|qP R (BU (d:=.sl<|q.Flow.map AD.row) R B2 iL R)<|qP R (Do R iL)<|AQ.nil<|C5 _<|aS λK6 C6 E=>aF [1,3,9] ?_
 refine aR<|mM R<|AG h5 λl u h6=>xI GK R u<|xB ((EA l)) WQ R<|AG h6 λB U h7=>cL (ja<|U) R<|xQ R<|mM R<|vM R<|vQ R (Ap R GK.slice (iR R) iL (λ_=>R) λ_=>u)<|vQ R (A2 R Mt<|iR R)<|vQ R (BU (d:=.sl<|l.Steps.map AI.row) R EE (iR R) R)<|AG h7 λV X h8=>vL (λhg=>mC<|AP X hg) R<|vM R<|vQ R (Bu R Ah.slice<|iR R)<|vQ R (Aq R (iR R)<|iR R)<|xN R<|mM R<|vM R<|vM R<|vQ R (Ap R GK.slice (iR R) iL (λ_=>R) λ_=>u)<|vQ R (A2 R Mt<|iR R)<|vQ R (BU (d:=.sl<|l.Steps.map AI.row) R EE (iR R) R)<|A3 h8 λp1 F Y=>?_
 have J1:∀(Z:Bool) (i1:NN),p1=Z→K6 ⟨[(8,rB Z)],[],(i1 0),61⟩:=by
  intro Z i1 e
  have h9:=Y _ e
  exact C6 _<|Zj<|yB h9 R
 refine AN.split (((B=0)&&(V=(q.Flow.length:Int)))==true) (λj=>?_) λj=>?_
 ·have A:=Br j F
  refine AN.weak (by exact Rn (e':=[(1,qi C),(3,qb w),(9,qb q.Flow),(36,qi C),(37,.rop (BE.row l) 0),(38,.agg<|EA l),(39,rI B),(40,rB<|(decide<|B=0)),(41,rB<|(decide<|B=0)),(50,rB<|((B=0)&&(V=(q.Flow.length:Int)))),(51,rB<|((B=0)&&(V=(q.Flow.length:Int)))),(52,qb q.Flow),(53,qi C),(54,.rop (BE.row l) 0),(55,.rop (BE.row l) 12),(56,qd l.Steps)]) j ⟨.inl R,.inl R,.inl R,.inl R,.inl R,.inl R,.inl R,.inl R,.inl R,.inl R,.inl R,.inr iL,.inr iL,.inr iL,.inr iL,.inr iL,Za⟩) ?_
  exact AG A λr4 a0 a1=>IQ (.one R R R) j R R (CB (r:=qb r4) (caps:=[]) (bs:=[qb q.Flow,qd l.Steps]) R (.inl R) R ⟨.inl ⟨(.inl R),R⟩,.inl ⟨(.inl R),R⟩,Za⟩ λ_=>jx<|a0)<|IQ (.one R R R) j R R (AU.spec (AK R<|.inl R) _)<|AG a1 λr5 a2 a6=>IQ (.one R R R) j R R (ER (r:=rB r5) (caps:=[]) (bs:=[qb r4,qb w]) R (.inl R) R ⟨⟨_,(.inl R),.d R⟩,⟨_,(.inl R),.d R⟩,Za⟩ (λ_=>WM<|a2) R)<|sQ R (BP R iL iL)<|mA R<|Zh<|E _ _ wk<|J1 _ (AH [(n0+1)]) (Zb a6).symm
 ·have A:=Bt j F
  exact GM (.one R R R) j R R<|GM (.one R R R) j R R<|GM (.one R R R) j R R<|xN R<|mA R<|Zh<|E _ _ wk<|J1 _ (AH [(n0+1)]) (Zb A).symm
theorem jS{d1 q b c r}(h:ME d1 q b c=some r):AO prog 3 [.agg [qg d1.Nodes],.agg<|A5 q,rS b,rS c] (rB r):=by
 unfold ME at h
 refine mF func3 ntmps3 R λu=>aU<|sS R (Ay (cs:=[qg d1.Nodes]) 4 R iL R R)<|sS R (Ay (cs:=(A5 q)) 5 R iL R R)<|mA R<|aZ<|aT λc2=>aT λc3=>?_
 refine ZA BJ (by kernel_rfl) ?_
 refine AG h λr1 ar h1=>Ep R R R (r:=rB r1) (caps:=[]) (bs:=[]) R iL R Za (λ_=>pa<|ar) R<|qP R (A0 R iL)<|qP R (AK R iL)<|qO R (D5 R EF iL R R)<|qO R (D5 R D8 iL R R)<|AG h1 λr2 av h2=>HS (.one R R R) R R (r:=rI r2) (caps:=[]) (bs:=[.agg [qg d1.Nodes],.agg<|A5 q]) R iL R ⟨⟨_,(iR R),.g (cs:=[.sl<|d1.Nodes.map Ag.row]) R R⟩,⟨_,(iR R),.g (cs:=[.int .i64 q.Node,.int .i64 q.From,.int .i64 q.To]) R R⟩,Za⟩ (λhg=>ld<|AP av hg) R<|qO R (D5 R EF iL R R)<|qO R (D5 R D8 iL R R)<|AG h2 λr3 aw h3=>HS (.one R R R) R R (r:=rI r3) (caps:=[]) (bs:=[.agg [qg d1.Nodes],.agg<|A5 q]) R iL R ⟨⟨_,(iR R),.g (cs:=[.sl<|d1.Nodes.map Ag.row]) R R⟩,⟨_,(iR R),.g (cs:=[.int .i64 q.Node,.int .i64 q.From,.int .i64 q.To]) R R⟩,Za⟩ (λhg=>Yn<|AP aw hg) R<|qO R (Cf R (iR R)<|iR R)<|qP R (CM R iL<|iR R)<|AQ.nil<|c3 _<|cI R h3 (λh4=>?_) λh4=>?_
 ·exact zB h4 R id
 refine Zd<|c2 _<|aT λc5=>aG [2,3,4,5] [4,5] ?_
 refine aR<|xC EF R<|xC D8 R<|mM R<|mM R<|IW h4 λC l w ax h5=>sS R (CB (r:=.tup [qi C,.agg<|A5 l,rI w]) (caps:=[]) (bs:=[.agg [qg d1.Nodes],.agg<|A5 q,rS b,rS c]) R iL R ⟨.inl ⟨iL,R⟩,.inl ⟨iL,R⟩,.inl ⟨iL,R⟩,.inl ⟨iL,R⟩,Za⟩ λ_=>ei<|ax)<|mM R<|xX R<|xX R<|xX R<|sS R (BB (cs:=[rI 0,rI 0,rI 0]) 10 R O3 R R)<|mA R<|Zk R R (Af (ds:=(A5 l)) R IL iL R iL R R R R)<|mA R<|aZ<|c5 _<|aS λK6 c6 a6=>aT λc7=>aG [2,3,4,5,9,10,11] [4,5,10] ?_
 refine aR<|mM R<|sQ R (Bo R iL iL)<|aZ<|c7 _<|BI h5 λp1 a7 ay az=>?_
 have J1:∀(u1:Unit) (i1:NN),p1=.nrm u1→K6 ⟨[(2,rS b),(3,rS c),(4,.ptr 4 u 0 0),(5,.ptr 5 (u+1) 0 0),(9,qi C),(10,.ptr 10 (u+2) 0 0),(11,rI w)],[(4,some<|.box u 24 [qg d1.Nodes]),(5,some<|.box (u+1) 26<|A5 q),(10,some<|.box (u+2) 26<|A5 l)],(i1 0),169⟩:=by
  intro u1 i1 e
  have h6:=ay _ e
  refine c6 _<|aU<|xC EF R<|xC D8 R<|mM R<|AG h6 λf1 b0 h7=>cL (pk<|b0) R<|mA R<|aZ<|aS λK9 c9 a8=>aU<|mM R<|xQ R<|mM R<|vM R<|vQ R (DE R underlying9<|iR R)<|vQ R (BD R (iR R) iL)<|xN R<|aZ<|A3 h7 λp2 aa b1=>?_
  have J2:∀(f2:Int) (i2:NN),p2=f2→K9 ⟨[(2,rS b),(3,rS c),(4,.ptr 4 u 0 0),(5,.ptr 5 (u+1) 0 0),(9,qi C),(10,.ptr 10 (u+2) 0 0),(11,rI w),(15,rI f2)],[(4,some<|.box u 24 [qg d1.Nodes]),(5,some<|.box (u+1) 26<|A5 q),(10,some<|.box (u+2) 26<|A5 l)],(i2 0),169⟩:=by
   intro f2 i2 e
   have h8:=b1 _ e
   refine c9 _<|aU<|mA R<|aZ<|aS λb2 b3 J=>aU<|mM R<|xQ R<|aZ<|LN h8 λp3 ab b4=>?_
   have J3:∀(f3:Int) (l1:List AD) (i3:NN),p3=(f3,l1)→b2 ⟨[(3,rS c),(4,.ptr 4 u 0 0),(5,.ptr 5 (u+1) 0 0),(9,qi C),(10,.ptr 10 (u+2) 0 0),(11,rI w),(15,rI f3),(16,.own 80<|i3 0)],[(4,some<|.box u 24 [qg d1.Nodes]),(5,some<|.box (u+1) 26<|A5 q),(10,some<|.box (u+2) 26<|A5 l),(80,some<|.arr (i3 0) 51 3<|l1.map AD.row)],(i3 1),169⟩:=by
    intro f3 l1 i3 e
    have h9:=b4 _ _ e
    refine b3 _<|aT λb5=>aU<|mM R<|xU R<|aZ<|cI R h9 (λO=>?_) λO=>?_
    ·refine aT λb6=>aR<|mM R<|mM R<|xQ R<|mM R<|vM R<|vQ R (Bu R GK.slice<|iR R)<|vQ R (Aq R (iR R) iL)<|xN R<|mM R<|vQ R (D5 R D8 iL R R) ?_
     refine vQ R (Bg R KM (q:=[]) (by exact Za) (cs:=[rI 0,rI 0,rI 0])<|by rfl) ?_
     exact vQ R (Xf R VE (iR R) (iR R) R)<|xN R<|mA R<|aZ<|b6 _<|Zj<|yB O R
    refine Zd<|b5 _<|aT λb7=>AG O λr7 b8 b9=>AG b9 λB ba bb=>?_
    refine JC 9 [pO 98<|.ptr 4 u 0 0,pO 99<|qg d1.Nodes,pO 100<|.agg [qg d1.Nodes],pO 101<|.ptr 5 (u+1) 0 0,pO 102<|rI q.Node,pO 103<|rI r7,pO 104<|.rop (Ag.row B) 0,pO 105<|.agg<|Bd B,⟨some 17,(λA=>.ptr 17 (A 8) 0 0),some (17,(λA=>some<|.box (A 8) 46 Lf)),[8]⟩] BJ (by kernel_rfl) (by exact⟨λ_ _ h=>⟨R,λ_ _ e=>by cases e⟩,λ_ _ h=>⟨R,λ_ _ e=>by cases e⟩,λ_ _ h=>⟨R,λ_ _ e=>by cases e⟩,λ_ _ h=>⟨R,λ_ _ e=>by cases e⟩,λ_ _ h=>⟨R,λ_ _ e=>by cases e⟩,λ_ _ h=>⟨R,λ_ _ e=>by cases e⟩,λ_ _ h=>⟨R,λ_ _ e=>by cases e⟩,λ_ _ h=>⟨R,λ_ _ e=>by cases e⟩,λ_ _ h=>⟨by simp only[h 8 R],λ_ _ e=>by cases e;simp only[h 8 R]⟩,Za⟩) R (by exact⟨oB [(4,.ptr 4 u 0 0)] [(4,some<|.box u 24 [qg d1.Nodes])]<|fB R Dy (.inl R) (λ_=>R) R,oB [(98,.ptr 4 u 0 0)] [(4,some<|.box u 24 [qg d1.Nodes])]<|AZ (a:=qg d1.Nodes) R Dw (.inl R) R R,oB [(4,.ptr 4 u 0 0)] [(4,some<|.box u 24 [qg d1.Nodes])]<|D5 R EF (.inl R) R R,oB [(5,.ptr 5 (u+1) 0 0)] [(5,some<|.box (u+1) 26<|A5 q)]<|fB R Ka (.inl R) (λ_=>R) R,oB [(101,.ptr 5 (u+1) 0 0)] [(5,some<|.box (u+1) 26<|A5 q)]<|AZ (a:=rI q.Node) R AJ (.inl R) R R,oD (λ_=>[(100,.agg [qg d1.Nodes]),(102,rI q.Node)]) (λ_=>[]) λA e h' n=>ER (r:=rI r7) (caps:=[]) (bs:=[.agg [qg d1.Nodes],rI q.Node]) R (.inl R) R ⟨⟨_,(.inl R),.g (cs:=[.sl<|d1.Nodes.map Ag.row]) R R⟩,⟨_,(.inl R),.d R⟩,Za⟩ (λ_=>TO<|b8) R,oB [(99,qg d1.Nodes),(103,rI r7)] []<|Ap R DJ.slice (.inl R) (.inl R) (λ_=>R) λ_=>ba,oB [(104,.rop (Ag.row B) 0)] []<|CU (cs:=(Bd B)) R Fs (.inl R) R R,oM (λ_=>[]) (λ_=>[]) R λA e h' n=>BB (cs:=Lf) 17 R Xw R R,Za⟩) λA n1=>?_
    refine A7 [3,4,5,9,10,11,15,16,17,83,84,98,99,100,101,102,103,104,105] [4,5,10,17,80] ?_
    refine Zk R R (Af (ds:=(Bd B)) R WD iL R iL R R R R)<|aZ<|b7 _<|aT λbc=>aG [3,4,5,9,10,11,16,17] [4,5,10,17,80] ?_
    refine aR<|lF E8 B2 R R<|AG bb λv1 bd be=>sS R (CB (r:=qb v1) (caps:=[]) (bs:=[qb B.Flow]) R iL R ⟨.inl ⟨iL,R⟩,Za⟩ λ_=>lf<|bd)<|mA R<|aZ<|bc _<|aS λbf bg ac=>aU<|mM R<|sQ R (LK R Ah.slice iL R)<|mM R<|aZ<|Zf<|A3 be λo1 ad bh=>?_
    have J4:∀(E:List AD) (i8:NN),o1=E→bf ⟨[(3,rS c),(4,.ptr 4 u 0 0),(5,.ptr 5 (u+1) 0 0),(9,qi C),(10,.ptr 10 (u+2) 0 0),(11,rI w),(16,.own 80<|i8 0),(17,.ptr 17 (A 8) 0 0)],[(4,some<|.box u 24 [qg d1.Nodes]),(5,some<|.box (u+1) 26<|A5 q),(10,some<|.box (u+2) 26<|A5 l),(17,some<|.box (A 8) 46<|Bd B),(80,some<|.arr (i8 0) 51 3<|E.map AD.row)],(i8 1),169⟩:=by
     intro E i8 e
     have bi:=bh _ e
     refine bg _<|aU<|lF G4 AJ R R<|mM R<|sQ R (LK R Ah.slice iL R)<|AG bi λj ae bj=>xA R ae<|mA R<|aZ<|aT λbk=>?_
     refine AW.weak (by exact Ak.frz (e':=[(3,rS c),(4,.ptr 4 u 0 0),(5,.ptr 5 (u+1) 0 0),(9,qi C),(10,.ptr 10 (u+2) 0 0),(11,rI w),(16,qb E),(17,.ptr 17 (A 8) 0 0),(20,rI j),(137,.ptr 5 (u+1) 0 1),(138,rI q.From),(139,qb E),(140,rL E),(141,rI j)]) (h':=[(4,some<|.box u 24 [qg d1.Nodes]),(5,some<|.box (u+1) 26<|A5 q),(10,some<|.box (u+2) 26<|A5 l),(17,some<|.box (A 8) 46<|Bd B)]) 80 R ⟨jL,jL,jL,jL,jL,jL,.inl<|.inr<|.inr ⟨R,R⟩,jL,jL,jL,jL,.inl<|.inr<|.inr ⟨R,R⟩,jL,jL,Za⟩ ⟨R,.inl R,R,.inl R,R,.inl R,R,.inl R,Za⟩) ?_
     refine AG bj λr8 bl bm=>?_
     refine rP 25 [pO 142<|rI w,pO 143<|rB<|(decide<|w=0),pO 144<|rB<|(decide<|w=0),pO 145<|.whn ((decide<|w=0)==true)<|.agg<|A5 l,pO 146<|.whn ((decide<|w=0)==true)<|.ptr 5 (u+1) 0 0,pO 147<|.whn ((decide<|w=0)==true)<|rI q.Node,pO 148<|.whn ((decide<|w=0)==true)<|rI j,pO 149<|.whn ((decide<|w=0)==true)<|rI j,pO 150<|.whn ((decide<|w=0)==true)<|.agg [rI q.Node,rI j,rI j],pO 151<|.whn ((decide<|w=0)==true)<|rB<|((l.Node=q.Node)&&((l.From=j)&&((l.To=j)&&true))),pO 152<|rB<|((w=0)&&((l.Node=q.Node)&&((l.From=j)&&((l.To=j)&&true)))),pO 153<|rB<|((w=0)&&((l.Node=q.Node)&&((l.From=j)&&((l.To=j)&&true)))),pO 154<|.whn (((w=0)&&((l.Node=q.Node)&&((l.From=j)&&((l.To=j)&&true))))==true)<|.agg [qg d1.Nodes],pO 155<|.whn (((w=0)&&((l.Node=q.Node)&&((l.From=j)&&((l.To=j)&&true))))==true)<|qi C,pO 156<|.whn (((w=0)&&((l.Node=q.Node)&&((l.From=j)&&((l.To=j)&&true))))==true)<|.ptr 5 (u+1) 0 0,pO 157<|.whn (((w=0)&&((l.Node=q.Node)&&((l.From=j)&&((l.To=j)&&true))))==true)<|rI q.Node,pO 158<|.whn (((w=0)&&((l.Node=q.Node)&&((l.From=j)&&((l.To=j)&&true))))==true)<|.ptr 17 (A 8) 0 3,pO 159<|.whn (((w=0)&&((l.Node=q.Node)&&((l.From=j)&&((l.To=j)&&true))))==true)<|qb B.Flow,pO 160<|.whn (((w=0)&&((l.Node=q.Node)&&((l.From=j)&&((l.To=j)&&true))))==true)<|.ptr 5 (u+1) 0 1,pO 161<|.whn (((w=0)&&((l.Node=q.Node)&&((l.From=j)&&((l.To=j)&&true))))==true)<|rI q.From,pO 162<|.whn (((w=0)&&((l.Node=q.Node)&&((l.From=j)&&((l.To=j)&&true))))==true)<|.ptr 5 (u+1) 0 2,pO 163<|.whn (((w=0)&&((l.Node=q.Node)&&((l.From=j)&&((l.To=j)&&true))))==true)<|rI q.To,pO 164<|.whn (((w=0)&&((l.Node=q.Node)&&((l.From=j)&&((l.To=j)&&true))))==true)<|qb E,pO 165<|.whn (((w=0)&&((l.Node=q.Node)&&((l.From=j)&&((l.To=j)&&true))))==true)<|rS c,pO 166<|.whn (((w=0)&&((l.Node=q.Node)&&((l.From=j)&&((l.To=j)&&true))))==true)<|qb r8] BJ R (by exact⟨oB [(11,rI w)] []<|AK R<|.inl R,oB [(142,rI w)] []<|Aq R (.inl R)<|.inl R,oB [(143,rB<|(decide<|w=0))] []<|AK R<|.inl R,oG [(10,.ptr 10 (u+2) 0 0),(144,rB<|(decide<|w=0))] [(10,some<|.box (u+2) 26<|A5 l)] (λ_ _=>R)<|D5 R D8 (.inl R) R R,oG [(5,.ptr 5 (u+1) 0 0),(144,rB<|(decide<|w=0))] [(5,some<|.box (u+1) 26<|A5 q)] (λ_ _=>R)<|fB R Ka (.inl R) (λ_=>R) R,oG [(144,rB<|(decide<|w=0)),(146,.whn ((decide<|w=0)==true)<|.ptr 5 (u+1) 0 0)] [(5,some<|.box (u+1) 26<|A5 q)] (λ_ _=>R)<|AZ (a:=rI q.Node) R AJ (.inr ⟨_,(by exact id),R⟩) R R,oG [(20,rI j),(144,rB<|(decide<|w=0))] [] (λ_ _=>R)<|AK R<|.inl R,oG [(20,rI j),(144,rB<|(decide<|w=0))] [] (λ_ _=>R)<|AK R<|.inl R,oG [(144,rB<|(decide<|w=0)),(147,.whn ((decide<|w=0)==true)<|rI q.Node),(148,.whn ((decide<|w=0)==true)<|rI j),(149,.whn ((decide<|w=0)==true)<|rI j)] [] (λ_ _=>R)<|Bg R KM (q:=[(0,_),(1,_),(2,_)]) (by exact⟨R,R,R,(.inr ⟨_,(by exact id),R⟩),R,R,R,(.inr ⟨_,(by exact id),R⟩),R,R,R,(.inr ⟨_,(by exact id),R⟩),Za⟩) (cs:=[rI q.Node,rI j,rI j])<|by rfl,oG [(144,rB<|(decide<|w=0)),(145,.whn ((decide<|w=0)==true)<|.agg<|A5 l),(150,.whn ((decide<|w=0)==true)<|.agg [rI q.Node,rI j,rI j])] [] (λ_ _=>R)<|Xf R VE (.inr ⟨_,(by exact id),R⟩) (.inr ⟨_,(by exact id),R⟩) R,oB [(144,rB<|(decide<|w=0)),(151,.whn ((decide<|w=0)==true)<|rB<|((l.Node=q.Node)&&((l.From=j)&&((l.To=j)&&true))))] []<|BP R (.inl R)<|.inr ⟨_,(by exact id),R⟩,oB [(152,rB<|((w=0)&&((l.Node=q.Node)&&((l.From=j)&&((l.To=j)&&true)))))] []<|AK R<|.inl R,oG [(4,.ptr 4 u 0 0),(153,rB<|((w=0)&&((l.Node=q.Node)&&((l.From=j)&&((l.To=j)&&true)))))] [(4,some<|.box u 24 [qg d1.Nodes])] (λ_ _=>R)<|D5 R EF (.inl R) R R,oG [(9,qi C),(153,rB<|((w=0)&&((l.Node=q.Node)&&((l.From=j)&&((l.To=j)&&true)))))] [] (λ_ _=>R)<|AK R<|.inl R,oG [(5,.ptr 5 (u+1) 0 0),(153,rB<|((w=0)&&((l.Node=q.Node)&&((l.From=j)&&((l.To=j)&&true)))))] [(5,some<|.box (u+1) 26<|A5 q)] (λ_ _=>R)<|fB R Ka (.inl R) (λ_=>R) R,oG [(153,rB<|((w=0)&&((l.Node=q.Node)&&((l.From=j)&&((l.To=j)&&true))))),(156,.whn (((w=0)&&((l.Node=q.Node)&&((l.From=j)&&((l.To=j)&&true))))==true)<|.ptr 5 (u+1) 0 0)] [(5,some<|.box (u+1) 26<|A5 q)] (λ_ _=>R)<|AZ (a:=rI q.Node) R AJ (.inr ⟨_,(by exact id),R⟩) R R,oG [(17,.ptr 17 (A 8) 0 0),(153,rB<|((w=0)&&((l.Node=q.Node)&&((l.From=j)&&((l.To=j)&&true)))))] [(17,some<|.box (A 8) 46<|Bd B)] (λ_ _=>R)<|fB R E8 (.inl R) (λ_=>R) R,oG [(153,rB<|((w=0)&&((l.Node=q.Node)&&((l.From=j)&&((l.To=j)&&true))))),(158,.whn (((w=0)&&((l.Node=q.Node)&&((l.From=j)&&((l.To=j)&&true))))==true)<|.ptr 17 (A 8) 0 3)] [(17,some<|.box (A 8) 46<|Bd B)] (λ_ _=>R)<|AZ (a:=qb B.Flow) R B2 (.inr ⟨_,(by exact id),R⟩) R R,oG [(5,.ptr 5 (u+1) 0 0),(153,rB<|((w=0)&&((l.Node=q.Node)&&((l.From=j)&&((l.To=j)&&true)))))] [(5,some<|.box (u+1) 26<|A5 q)] (λ_ _=>R)<|fB R G4 (.inl R) (λ_=>R) R,oG [(153,rB<|((w=0)&&((l.Node=q.Node)&&((l.From=j)&&((l.To=j)&&true))))),(160,.whn (((w=0)&&((l.Node=q.Node)&&((l.From=j)&&((l.To=j)&&true))))==true)<|.ptr 5 (u+1) 0 1)] [(5,some<|.box (u+1) 26<|A5 q)] (λ_ _=>R)<|AZ (a:=rI q.From) R AJ (.inr ⟨_,(by exact id),R⟩) R R,oG [(5,.ptr 5 (u+1) 0 0),(153,rB<|((w=0)&&((l.Node=q.Node)&&((l.From=j)&&((l.To=j)&&true)))))] [(5,some<|.box (u+1) 26<|A5 q)] (λ_ _=>R)<|fB R Je (.inl R) (λ_=>R) R,oG [(153,rB<|((w=0)&&((l.Node=q.Node)&&((l.From=j)&&((l.To=j)&&true))))),(162,.whn (((w=0)&&((l.Node=q.Node)&&((l.From=j)&&((l.To=j)&&true))))==true)<|.ptr 5 (u+1) 0 2)] [(5,some<|.box (u+1) 26<|A5 q)] (λ_ _=>R)<|AZ (a:=rI q.To) R AJ (.inr ⟨_,(by exact id),R⟩) R R,oG [(16,qb E),(153,rB<|((w=0)&&((l.Node=q.Node)&&((l.From=j)&&((l.To=j)&&true)))))] [] (λ_ _=>R)<|AK R<|.inl R,oG [(3,rS c),(153,rB<|((w=0)&&((l.Node=q.Node)&&((l.From=j)&&((l.To=j)&&true)))))] [] (λ_ _=>R)<|AK R<|.inl R,oH (λ_=>[(153,rB<|((w=0)&&((l.Node=q.Node)&&((l.From=j)&&((l.To=j)&&true))))),(159,.whn (((w=0)&&((l.Node=q.Node)&&((l.From=j)&&((l.To=j)&&true))))==true)<|qb B.Flow),(161,.whn (((w=0)&&((l.Node=q.Node)&&((l.From=j)&&((l.To=j)&&true))))==true)<|rI q.From),(163,.whn (((w=0)&&((l.Node=q.Node)&&((l.From=j)&&((l.To=j)&&true))))==true)<|rI q.To),(164,.whn (((w=0)&&((l.Node=q.Node)&&((l.From=j)&&((l.To=j)&&true))))==true)<|qb E),(165,.whn (((w=0)&&((l.Node=q.Node)&&((l.From=j)&&((l.To=j)&&true))))==true)<|rS c)]) (λ_=>[]) (λ_ _=>R) λG2 e h' n=>CB (r:=qb r8) (caps:=[]) (bs:=[qb B.Flow,rI q.From,rI q.To,qb E,rS c]) R (.inl R) R ⟨.inl ⟨(.inr ⟨_,(by exact id),R⟩),R⟩,.inl ⟨(.inr ⟨_,(by exact id),R⟩),R⟩,.inl ⟨(.inr ⟨_,(by exact id),R⟩),R⟩,.inl ⟨(.inr ⟨_,(by exact id),R⟩),R⟩,.inl ⟨(.inr ⟨_,(by exact id),R⟩),R⟩,Za⟩ λhg=>jN<|AP bl hg,Za⟩) λG2 n2=>?_
     refine A7 [3,4,5,9,10,11,16,17,20,137,138,139,140,141,142,143,144,145,146,147,148,149,150,151,152,153,154,155,156,157,158,159,160,161,162,163,164,165,166] [4,5,10,17] ?_
     exact AG bm λr9 bn bo=>vL (λhg=>mw<|AP bn hg) R<|xN R<|mA R<|aZ<|bk _<|Zj<|yB bo R
    refine ZL (λ(x3:Int) (l3:List AD) F=>⟨[(3,rS c),(4,.ptr 4 u 0 0),(5,.ptr 5 (u+1) 0 0),(9,qi C),(10,.ptr 10 (u+2) 0 0),(11,rI w),(16,.own 80<|F 0),(17,.ptr 17 (A 8) 0 0),(18,qb v1),(110,rL l1),(111,rI x3)],[(4,some<|.box u 24 [qg d1.Nodes]),(5,some<|.box (u+1) 26<|A5 q),(10,some<|.box (u+2) 26<|A5 l),(17,some<|.box (A 8) 46<|Bd B),(80,some<|.arr (F 0) 51 3<|l3.map AD.row)],(F 1),169⟩) (AH [(i3 0),n1]) ad wk ?_
    intro x3 l3 F v2 bp bq
    have af:Lq q l1 v1 x3 l3=some v2:=bp;unfold Lq at af
    refine aU<|xS R<|aZ<|aT λbr=>cI R af (λT=>?_) λT=>?_
    ·refine Zd<|br _<|aS λbs bt M=>Zf<|A3 T λp4 bu bv=>?_
     have J5:∀(l6:List AD) (i9:NN),p4=l6→bs ⟨[(3,rS c),(4,.ptr 4 u 0 0),(5,.ptr 5 (u+1) 0 0),(9,qi C),(10,.ptr 10 (u+2) 0 0),(11,rI w),(16,.own 80<|i9 0),(17,.ptr 17 (A 8) 0 0),(18,qb v1),(110,rL l1),(111,rI x3)],[(4,some<|.box u 24 [qg d1.Nodes]),(5,some<|.box (u+1) 26<|A5 q),(10,some<|.box (u+2) 26<|A5 l),(17,some<|.box (A 8) 46<|Bd B),(80,some<|.arr (i9 0) 51 3<|l6.map AD.row)],(i9 1),169⟩:=by
      intro l6 i9 e
      have bw:=bv _ e
      exact bt _<|aR<|AG bw λx5 bx bz=>xA R bx<|mM R<|Zh<|ZH bz (AH [(i9 0),(i9 1)]) wk
     refine aU<|mM R<|mA R<|aZ<|aU<|mM R<|mM R<|mM R<|lF G4 AJ R R<|AG bu λag ah c0=>sS R (CB (r:=qa ag) (caps:=[]) (bs:=[qb v1,rI q.From]) R iL R ⟨.inl ⟨iL,R⟩,.inl ⟨iL,R⟩,Za⟩ λ_=>oY<|ah)<|AG c0 λx6 ai c1=>sQ R (Em R Ah.slice iL R iL λ_=>ai)<|sQ R (Fg (ob:=.arr _ _ _ _) R CR iL fR R)<|Zk R R (Kw (v:=(AD.mk x6.Char x6.Ref ag)) R F9 iL R ai iL R R R R)<|aZ<|aT λc4=>aG [3,4,5,9,10,11,16,17,18,19,110,111] [4,5,10,17,80] ?_
     refine aR<|mM R<|mM R<|AG c1 λx7 I c8=>sQ R (Em R Ah.slice iL R iL λ_=>I)<|sQ R (Fg (ob:=.arr _ _ _ _) R D1 iL fR R)<|sQ R (Ju (d:=.int .i64 x7.Char) R AJ iL fR (λ_=>I) R)<|xQ R<|aZ<|c4 _<|cI R c8 (λU=>?_) λU=>?_
     ·exact aR<|mM R<|mM R<|mM R<|lF Je AJ R R<|AG U λaj ak ca=>sS R (CB (r:=qa aj) (caps:=[]) (bs:=[qb v1,rI q.To]) R iL R ⟨.inl ⟨iL,R⟩,.inl ⟨iL,R⟩,Za⟩ λ_=>kb<|ak)<|sQ R (Em R Ah.slice iL R iL λ_=>I)<|sQ R (Fg (ob:=.arr _ _ _ _) R CR iL fR R)<|Zk R R (Kw (v:=(AD.mk x7.Char x7.Ref aj)) R F9 iL R I iL R R R R)<|Zh<|M _ _ wk<|J5 _ (AH [(F 0),(F 1)]) (Zb ca).symm
     exact Zd<|M _ _ wk<|J5 _ (AH [(F 0),(F 1)]) (Zb U).symm
    exact Zn<|ac _ _ wk<|J4 _ (AH [(F 0),(F 1)])<|xH bq T
   refine aC R (λV=>?_) λV=>?_
   ·have X:=Br V ab
    refine aR<|mM R<|DQ X λck w1 al cb=>?_
    refine Zo [80] (hc:=[]) (bs:=[rS b,.r<|.sl []]) (caps:=[]) R R R R iL R ⟨.inl ⟨iL,R⟩,.inr ⟨iL,R⟩,Za⟩ Za (by decide) (ln al) ?_
    intro cc n3
    refine A7 [2,3,4,5,9,10,11,15,16,76,77,79,80] [4,5,10,80] ?_
    exact mM R<|xX R<|xX R<|mA R<|mA R<|Zh<|J _ _ wk<|J3 _ _ (AH [(cc 0),n3]) (Zb cb).symm
   ·have X:=Bt V ab
    refine Zd ?_
    exact J _ _ (Zm (Zm (ZR 16 80 51 3 (by decide) R)<|by exact ZC (e':=[(2,rS b),(3,rS c),(4,.ptr 4 u 0 0),(5,.ptr 5 (u+1) 0 0),(9,qi C),(10,.ptr 10 (u+2) 0 0),(11,rI w),(15,rI f2),(16,.own 80<|i2 0),(76,rI f2),(77,rB<|(decide<|f2=0))]) (h':=[(4,some<|.box u 24 [qg d1.Nodes]),(5,some<|.box (u+1) 26<|A5 q),(10,some<|.box (u+2) 26<|A5 l),(80,some<|.arr (i2 0) 51 3<|([]:List AD).map AD.row)]) ⟨jL,jL,jL,jL,jL,jL,jL,jL,jL,jL,jL,Za⟩ ⟨.inl R,.inl R,.inl R,.inl R,Za⟩ nL) wk)<|J3 _ _ (AH [(i2 0),((i2 0)+1)]) (Zb X).symm
  refine aC R (λY=>?_) λY=>?_
  ·have Z:=Br Y aa
   refine aG [2,3,4,5,9,10,11] [4,5,10] ?_
   exact aR<|mA R<|Zh<|a8 _ _ wk<|J2 _ (AH [(i1 0)]) (Zb Z).symm
  ·have Z:=Bt Y aa
   exact Zd<|a8 _ _ wk<|J2 _ (AH [(i1 0)]) (Zb Z).symm
 refine aC R (λa0=>?_) λa0=>?_
 ·have a1:=Br a0 a7
  refine aU<|xC EF R<|xC D8 R<|mM R<|IW a1 λcd an cf ao cg=>sS R (CB (r:=.tup [qi cd,.agg<|A5 an,rI cf]) (caps:=[]) (bs:=[.agg [qg d1.Nodes],.agg<|A5 q,rS c]) R iL R ⟨.inl ⟨iL,R⟩,.inl ⟨iL,R⟩,.inl ⟨iL,R⟩,Za⟩ λ_=>p8<|ao)<|mM R<|xX R<|xX R<|xX R<|sS R (BB (cs:=[rI 0,rI 0,rI 0]) 13 R O3 R R)<|mA R<|Zk R R (Af (ds:=(A5 an)) R IL iL R iL R R R R)<|mA R<|aZ<|aT λch=>aG [2,3,4,5,9,10,11,12,13,14] [4,5,10,13] ?_
  refine aR<|mM R<|mM R<|xU R<|mM R<|vQ R (D5 R D8 iL R R)<|vQ R (D5 R D8 iL R R)<|vQ R (KF R VE (iR R) (iR R) R)<|xO R<|mM R<|vM R<|vM R<|AG cg λcl aq cj=>vL (λhg=>nv<|AP aq hg) R<|vQ R (A0 R<|iR R)<|xO R<|aZ<|ch _<|cI R cj (λa2=>?_) λa2=>?_
  ·exact zB (az _ (Zb a2).symm) R id
  exact Zd<|a6 _ _ wk<|J1 _ (AH [(u+4)]) (Zb a2).symm
 ·have a1:=Bt a0 a7
  exact Zd<|a6 _ _ wk<|J1 _ (AH [(u+3)]) (Zb a1).symm



end Go.Proofs.YtdafahjmopdleaaGreatDoor.Al
