/- The program logic, a part of it. -/
import Derived.Test.YtgcalnmhoifpoaaGreatDoorAl2
import Derived.Lib.LaidU8
set_option linter.all false
namespace Go.Proofs.YtgcalnmhoifpoaaGreatDoor.Al
section
variable{P:Program}{ops:Array Oper}{R:AX}{h:AO}{n:Nat}{o:Oper}
theorem A7.frz1{c}{n1 id g e sz:Nat}{B}(Z:A7 P c o R h n (.own id g) ((id,some (.arr g e sz B))::h) n1):A7 P c o R h n (.r (.sl B)) ((id,none)::h) n1:=by
 intro hc x a O hH hn he K Q hK
 refine Z hc x a O hH hn he K Q λu y k1 A Y kn k4=>?_
 have w:y.H id=some (.arr g e sz B):=by rw[Y,Bv,vh rfl]
 let E:Cx:={ y with S:=λb=>y.S b∨∃k,y.β id=some (b,k),H:=hget ((id,none)::h) }
 have j:∀i o,E.H i=some o→i≠id∧y.H i=some o:=by
  intro i o l
  simp only[E,Bv] at l
  split at l
  ·cases l
  ·rename_i F
   refine⟨λe=>F e.symm,?_⟩
   rw[Y,Bv,vg F];exact l
 have C:y.le E:=⟨vu _,rfl,rfl,rfl,λ_ _=>rfl,λ_ h=>.inl h,rfl,vu _,λi o l _=>⟨o,(j i o l).2,rfl,rfl,rfl⟩,λi o l hf _ _=>⟨o,(j i o l).2,hf,rfl,rfl,rfl,rfl⟩⟩
 have I:E.ok:=by
  refine⟨λb q=>?_,A.F_lt,λb q=>?_,λi o l=>?_,λi o b k l q=>?_,λi i' o o' b k J l T=>A.inj i i' o o' b k J (j _ _ l).2 (j _ _ T).2,A.extOf (λi o l=>⟨o,(j i o l).2⟩) rfl rfl (vu _) (λi o b k l M hS=>hS.elim (A.own' i o b k (j i o l).2 M).2.1 λ⟨J,q⟩=>(j i o l).1 (A.inj' (j i o l).2 w M (.inl q))) (λi o b k l M=>(A.own' i o b k (j i o l).2 M).2.2),A.tabs.le C⟩
  ·rcases q with q | ⟨k,q⟩
   ·exact A.S_lt b q
   ·exact(A.own id _ b k w q).1
  ·rcases q with q | ⟨k,q⟩
   ·exact A.SF b q
   ·exact(A.own id _ b k w q).2.2
  ·obtain⟨U,V⟩:=A.obj i o (j _ _ l).2
   exact⟨U,V.mono C (λ_ _ _=>rfl) λ_ _ _ _=>rfl⟩
  ·obtain⟨U,V,j3⟩:=A.own i o b k (j _ _ l).2 q
   refine⟨U,?_,j3⟩
   rintro(X | ⟨J,X⟩)
   ·exact V X
   ·exact(j _ _ l).1 (A.inj i id o _ b k J (j _ _ l).2 w q X)
 exact hK u E (k1.trans C) I rfl kn (.r (N8 A w k4 (λ_ h=>.inl h) (λb k q=>.inr ⟨k,q⟩)))
theorem ko{r:AV × AO × Nat}(hr:JZ P R h n o=some r):∃id ob,r.2.1=(id,ob)::h:=by
 unfold JZ at hr
 split at hr
 ·unfold TG at hr
  repeat' split at hr
  all_goals first | (cases hr;exact⟨_,_,rfl⟩) | cases hr
 ·repeat' split at hr
  all_goals first | (cases hr;exact⟨_,_,rfl⟩) | cases hr
 ·repeat' split at hr
  all_goals first | (cases hr;exact⟨_,_,rfl⟩) | cases hr
 ·repeat' split at hr
  all_goals first | (cases hr;exact⟨_,_,rfl⟩) | cases hr
 ·repeat' split at hr
  all_goals first | (cases hr;exact⟨_,_,rfl⟩) | cases hr
 ·unfold Sd at hr
  repeat' split at hr
  all_goals first | (cases hr;exact⟨_,_,rfl⟩) | cases hr
 ·cases hr;exact⟨_,_,rfl⟩
 ·repeat' split at hr
  all_goals first | (cases hr;exact⟨_,_,rfl⟩) | cases hr
 ·repeat' split at hr
  all_goals first | (cases hr;exact⟨_,_,rfl⟩) | cases hr
 ·repeat' split at hr
  all_goals first | (cases hr;exact⟨_,_,rfl⟩) | cases hr
 ·repeat' split at hr
  all_goals first | (cases hr;exact⟨_,_,rfl⟩) | cases hr
 ·cases hr
def rD(o:Oper):Bool:=match o.op with
 | .buildSlice _ _ _=>true
 | .call ⟨.builtin .append,⟨[.const _,_]⟩,_⟩=>true
 | _=>false
def MQ(P:Program)(R:AX)(h:AO)(n:Nat)(o:Oper):Option (AV × AO × Nat):=match JZ P R h n o with
 | some (v,(id,l)::_,q)=>match rD o with
  | true=>match v,l with
   | .own i g,some (.arr u _ _ j)=>if i=id∧g=u then some (.r (.sl j),[(id,none)],q) else none
   | _,_=>none
  | false=>some (v,[(id,l)],q)
 | _=>none
theorem lJ{v}{d}{n'}(j:MQ P R h n o=some (v,d,n')):A7 P true o R h n v (d++h) n':=by
 unfold MQ at j
 split at j
 ·rename_i v0 id C tl E q
  obtain⟨A,B,e⟩:=ko q
  have u:=S6 q
  simp only[yv,wA] at e
  obtain⟨⟨rfl,rfl⟩,rfl⟩:=e
  split at j
  ·split at j
   ·split at j
    ·rename_i i g F e sz w l
     obtain⟨rfl,rfl⟩:=l
     cases j
     exact u.frz1
    ·cases j
   ·cases j
  ·cases j;exact u
 ·cases j
def TN(P:Program)(q:Gv)(ops:Array Oper)(j:AO):List Oper→List PE→List (AO × Nat)→AX→AO→Nat→Option (List PE × List (AO × Nat))
 | [],L,l,_,_,_=>some (L.reverse,l.reverse)
 | o::rest,L,l,e,d,n=>
  match (match o.guard with | none=>some true | some _=>GV e ops o) with
  | some true=>match Kr P q e (d++j) o with
   | some v=>TN P q ops j rest (⟨o.dst,v,false⟩::L) l (EW o.dst v e) d n
   | none=>match MQ P e (d++j) n o with
    | some (v,u,w)=>TN P q ops j rest (⟨o.dst,v,true⟩::L) ((u++d,w)::l) (EW o.dst v e) (u++d) w
    | none=>none
  | some false=>TN P q ops j rest (⟨o.dst,.whn false (.r (.bool false)),false⟩::L) l (EW o.dst (.whn false (.r (.bool false))) e) d n
  | none=>none
def Tk(P:Program)(w:Gv)(ops:Array Oper)(j:AO)(l:List (AO × Nat))(R:AX)(k:Nat)(o:Oper)(p:PE):Bool:=match p.eff with
 | false=>match l[k]? with
  | some (d,_)=>match o.guard with
   | none=>match Kr P w R (d++j) o with
    | some v=>DV v p.v
    | none=>false
   | some _=>match GV R ops o with
    | some true=>match Kr P w R (d++j) o with
     | some v=>DV v p.v
     | none=>false
    | some false=>DV (.whn false (.r (.bool false))) p.v
    | none=>false
  | none=>false
 | true=>match l[k]?,l[k+1]? with
  | some (d,n),some (A,B)=>match o.guard with
   | none=>match MQ P R (d++j) n o with
    | some (v,q,u)=>(DV v p.v&&F3 (q++d) A)&&Nat.beq u B
    | none=>false
   | some _=>match GV R ops o with
    | some true=>match MQ P R (d++j) n o with
     | some (v,q,u)=>(DV v p.v&&F3 (q++d) A)&&Nat.beq u B
     | none=>false
    | _=>false
  | _,_=>false
theorem re{M}(w:Jd P M){u}{O:List (AO × Nat)} : Vi P ops (O.map λq=>(q.1++u,q.2)) (Tk P M ops u O):=by
 intro R k o p h n T j
 rw[wD,v8] at T
 obtain⟨⟨d,m⟩,hd,e⟩:=T
 cases e
 unfold Tk at j
 cases U:p.eff with
 | false=>
  rw[U,hd] at j
  refine⟨d++u,m,by rw[wD];simp[hd],?_⟩
  simp only at j
  split at j
  ·rename_i hg
   split at j
   ·rename_i v F;rw[← G3 j];exact .inl ⟨hg,SO w F m⟩
   ·cases j
  ·split at j
   ·rename_i l
    split at j
    ·rename_i v F;rw[← G3 j];exact .inr (.inl ⟨FQ l,SO w F m⟩)
    ·cases j
   ·rename_i l;exact .inr (.inr ⟨FQ l,(G3 j).symm,rfl,rfl⟩)
   ·cases j
 | true=>
  rw[U,hd] at j
  simp only at j
  split at j
  ·rename_i d0 n0 I J V e2
   simp only[vz,wA] at V
   obtain⟨rfl,rfl⟩:=V
   refine⟨I++u,J,by rw[wD];simp[e2],?_⟩
   have A:∀ {v B C},MQ P R (d++u) m o=some (v,B,C)→((DV v p.v&&F3 (B++d) I)&&Nat.beq C J)=true→A7 P true o R (d++u) m p.v (I++u) J:=by
    intro v B C E X
    simp only[vm] at X
    obtain⟨⟨Y,Z⟩,q3⟩:=X
    rw[← G3 Y,← Oz Z,← vx q3,vy]
    exact lJ E
   split at j
   ·rename_i hg
    split at j
    ·rename_i v B C E;exact .inl ⟨hg,A E j⟩
    ·cases j
   ·split at j
    ·rename_i l
     split at j
     ·rename_i v B C E;exact .inr (.inl ⟨FQ l,A E j⟩)
     ·cases j
    ·cases j
  ·cases j
def VO(P:Program)(l:Gv)(ops:Array Oper)(s:St):Option St:=match TN P l ops s.h ops.toList [] [([],s.n)] s.e [] s.n with
 | some (L,([],j)::q)=>match Nat.beq j s.n&&Rz (Tk P l ops s.h (([],j)::q)) ops s L with
  | true=>match (([],j)::q)[DD (λ_=>true) L 0]? with
   | some (d,u)=>some ⟨CI (λ_=>true) (λ_=>0) s.e (L.map PE.po),d++s.h,u,s.N⟩
   | none=>none
  | false=>none
 | _=>none
theorem sf{u}{Q}(C:P.follows .mixedOrders=true)(w:Jd P u){s s':St}{id}(j:VO P u ops s=some s')(hc:Q .normal s'):AW P (.region id ops true) Q s:=by
 unfold VO at j
 split at j
 ·rename_i L A B _
  split at j
  ·rename_i hB
   rw[vm] at hB
   have E:=vx hB.1
   split at j
   ·rename_i d n' l
    cases j
    refine hM (CK:=Tk P u ops s.h (([],A)::B)) L ((([],A)::B).map λq=>(q.1++s.h,q.2)) (re w) C (by rw[← E];rfl) hB.2 (h':=d++s.h) (n':=n') (by rw[wD,l];rfl) hc
   ·cases j
  ·cases j
 ·cases j
end
variable{β:Type}
def DP(n:Nat)(k:Nat→β):β:=match n with
 | 0=>k 0
 | m+1=>k (m+1)
theorem Do(n:Nat)(k:Nat→β):DP n k=k n:=by cases n<;>rfl
def T0(z:Int)(k:Int→β):β:=match z with
 | .ofNat n=>DP n λn=>k (.ofNat n)
 | .negSucc n=>DP n λn=>k (.negSucc n)
theorem dI(z:Int)(k:Int→β):T0 z k=k z:=by cases z<;>simp only[T0,Do]
def UP(c:UInt8)(k:UInt8→β):β:=DP c.toNat λn=>k (UInt8.ofNat n)
theorem uO(c:UInt8)(k:UInt8→β):UP c k=k c:=by unfold UP;rw[Do];congr 1;simp
def Rp:List UInt8→(List UInt8→β)→β
 | [],k=>k []
 | c::r,k=>UP c λc=>Rp r λr=>k (c::r)
theorem Xt:∀(l:List UInt8) (k:List UInt8→β),Rp l k=k l
 | [],_=>rfl
 | c::r,k=>by unfold Rp;rw[uO,Xt r]
def U0(x:IntKind)(k:IntKind→β):β:=match x with
 | .i8=>k .i8 | .i16=>k .i16 | .i32=>k .i32 | .i64=>k .i64 | .u8=>k .u8 | .u16=>k .u16 | .u32=>k .u32 | .u64=>k .u64
theorem Yo(x:IntKind)(k:IntKind→β):U0 x k=k x:=by cases x<;>rfl
def U3(x:Bool)(k:Bool→β):β:=match x with
 | true=>k true
 | false=>k false
theorem ZV(x:Bool)(k:Bool→β):U3 x k=k x:=by cases x<;>rfl
mutual
def IM:RV→(RV→β)→β
 | .int kd n,k=>U0 kd λkd=>T0 n λn=>k (.int kd n)
 | .bool b,k=>U3 b λb=>k (.bool b)
 | .str s,k=>Rp s λs=>k (.str s)
 | .sl xs,k=>LD xs λxs=>k (.sl xs)
 | .slf xs,k=>LD xs λxs=>k (.slf xs)
 | .any,k=>k .any
def L4:List RV→(List RV→β)→β
 | [],k=>k []
 | a::l,k=>IM a λa=>L4 l λl=>k (a::l)
def LD:List (List RV)→(List (List RV)→β)→β
 | [],k=>k []
 | a::l,k=>L4 a λa=>LD l λl=>k (a::l)
end
mutual
theorem cD:∀(a:RV) (k:RV→β),IM a k=k a
 | .int kd n,k=>by unfold IM;rw[Yo,dI]
 | .bool b,k=>by unfold IM;rw[ZV]
 | .str s,k=>by unfold IM;rw[Xt]
 | .sl xs,k=>by unfold IM;rw[Rt xs]
 | .slf xs,k=>by unfold IM;rw[Rt xs]
 | .any,k=>by unfold IM;rfl
theorem Vg:∀(a:List RV) (k:List RV→β),L4 a k=k a
 | [],k=>by unfold L4;rfl
 | a::l,k=>by unfold L4;rw[cD a,Vg l]
theorem Rt:∀(a:List (List RV)) (k:List (List RV)→β),LD a k=k a
 | [],k=>by unfold LD;rfl
 | a::l,k=>by unfold LD;rw[Vg a,Rt l]
end
mutual
def EI:AV→(AV→β)→β
 | .r x,k=>IM x λx=>k (.r x)
 | .agg cs,k=>Hb cs λcs=>k (.agg cs)
 | .tup cs,k=>Hb cs λcs=>k (.tup cs)
 | .own i g,k=>DP i λi=>DP g λg=>k (.own i g)
 | .ptr i g j m,k=>DP i λi=>DP g λg=>DP j λj=>DP m λm=>k (.ptr i g j m)
 | .rop row m,k=>L4 row λrow=>DP m λm=>k (.rop row m)
 | .fn f cs,k=>DP f λf=>Hb cs λcs=>k (.fn f cs)
 | a,k=>k a
def Hb:List AV→(List AV→β)→β
 | [],k=>k []
 | a::l,k=>EI a λa=>Hb l λl=>k (a::l)
end
mutual
theorem gN:∀(a:AV) (k:AV→β),EI a k=k a
 | .r x,k=>by unfold EI;rw[cD]
 | .agg cs,k=>by unfold EI;rw[Kw cs]
 | .tup cs,k=>by unfold EI;rw[Kw cs]
 | .own i g,k=>by unfold EI;rw[Do,Do]
 | .ptr i g j m,k=>by unfold EI;rw[Do,Do,Do,Do]
 | .rop row m,k=>by unfold EI;rw[Vg,Do]
 | .fn f cs,k=>by unfold EI;rw[Do,Kw cs]
 | .mref _ _,k=>by unfold EI;rfl
 | .yld _ _,k=>by unfold EI;rfl
 | .full _,k=>by unfold EI;rfl
 | .pk _ _ _ _ _,k=>by unfold EI;rfl
 | .fo _ _ _ _,k=>by unfold EI;rfl
 | .pre _ _ _,k=>by unfold EI;rfl
 | .ifc _,k=>by unfold EI;rfl
 | .cst _,k=>by unfold EI;rfl
 | .whn _ _,k=>by unfold EI;rfl
 | .any,k=>by unfold EI;rfl
theorem Kw:∀(a:List AV) (k:List AV→β),Hb a k=k a
 | [],k=>by unfold Hb;rfl
 | a::l,k=>by unfold Hb;rw[gN a,Kw l]
end
def UK:Option Ab→(Option Ab→β)→β
 | some (.arr g e sz xs),k=>DP g λg=>DP e λe=>DP sz λsz=>LD xs λxs=>k (some (.arr g e sz xs))
 | some (.box g e j),k=>DP g λg=>DP e λe=>Hb j λj=>k (some (.box g e j))
 | o,k=>k o
theorem uJ(o:Option Ab)(k:Option Ab→β):UK o k=k o:=by
 unfold UK
 split
 ·rw[Do,Do,Do,Rt]
 ·rw[Do,Do,Kw]
 ·rfl
def Ty:AO→(AO→β)→β
 | [],k=>k []
 | (i,o)::r,k=>DP i λi=>UK o λo=>Ty r λr=>k ((i,o)::r)
theorem aW:∀(h:AO) (k:AO→β),Ty h k=k h
 | [],_=>rfl
 | (i,o)::r,k=>by unfold Ty;rw[Do,uJ,aW r]
def XR(a:AV)(k:AV→β):β:=match a with
 | .r (.int l n)=>U0 l λl=>T0 n λn=>k (.r (.int l n))
 | .r (.bool b)=>U3 b λb=>k (.r (.bool b))
 | .own i g=>DP i λi=>DP g λg=>k (.own i g)
 | .ptr i g j m=>DP i λi=>DP g λg=>DP j λj=>DP m λm=>k (.ptr i g j m)
 | a=>k a
theorem iO(a:AV)(k:AV→β):XR a k=k a:=by
 unfold XR
 split
 ·rw[Yo,dI]
 ·rw[ZV]
 ·rw[Do,Do]
 ·rw[Do,Do,Do,Do]
 ·rfl
def Uq(s:St)(k:St→β):β:=match s with
 | ⟨(d,v)::e,h,n,N⟩=>XR v λv=>DP n λn=>k ⟨(d,v)::e,h,n,N⟩
 | s=>k s
theorem mI(s:St)(k:St→β):Uq s k=k s:=by
 unfold Uq
 split
 ·rw[iO,Do]
 ·rfl
section
variable{P:Program}
theorem A7.frzV{c}{o}{R}{h j}{n n1}{v}{id g e sz}{xs}(M:A7 P c o R h n v j n1)(O:hget j id=some (.arr g e sz xs)) :
  A7 P c o R h n (KS id g xs v) (LL id g xs ⟨[(0,v)],j,n1,1⟩).h n1:=by
 intro T x a w U V X K Q Y
 refine M T x a w U V X K Q λu y Z k2 k3 k4 k5=>?_
 have l:EU y ⟨[(0,v)],j,n1,1⟩ { tmps:=#[u],defers:=[] } y.w:=by
  refine⟨_,rfl,rfl,y,rfl,.refl y,k2,k3,k4,λt=>?_⟩
  rw[DQ]
  split
  ·rename_i ht;subst ht;exact k5
  ·exact .any _
 obtain⟨_,_,_,z,A,B,q,C,E,F⟩:=Ss (s:=⟨[(0,v)],j,n1,1⟩) O y _ _ l
 have I:=F 0
 have:get (LL id g xs ⟨[(0,v)],j,n1,1⟩).e 0=KS id g xs v:=rfl
 rw[this] at I
 have J:=Y u z (Z.trans B.le) q C E I
 rw[A] at J;exact J
def MK:Nat→AV→AO→Nat→AV × AO
 | 0,v,h,_=>(v,h)
 | f+1,v,h,n=>match PA h v with
  | some id=>match hget h id with
   | some (.arr g _ _ xs)=>MK f (KS id g xs v) (LL id g xs ⟨[(0,v)],h,n,1⟩).h n
   | _=>(v,h)
  | none=>(v,h)
theorem ZJ{c}{o}{R}{h}{n n1} : ∀(f:Nat) {v:AV} {j:AO},A7 P c o R h n v j n1→A7 P c o R h n (MK f v j n1).1 (MK f v j n1).2 n1
 | 0,v,j,l=>l
 | f+1,v,j,l=>by
  unfold MK
  split
  ·split
   ·rename_i q;exact ZJ f (l.frzV q)
   ·exact l
  ·exact l
def pc(o:Oper):Bool:=match o.op with
 | .buildSlice _ _ _=>true
 | .call ⟨.builtin .append,⟨[.const _,_]⟩,_⟩=>true
 | .call ⟨.value _,_,_⟩=>true
 | _=>false
def Tl(S:Gt):Gt:=λR h n o=>match S R h n o with
 | some (v,l,j)=>match pc o with
  | true=>some ((MK 9 v l j).1,(MK 9 v l j).2,j)
  | false=>some (v,l,j)
 | none=>none
theorem rg{S}(q:KH P S):KH P (Tl S):=by
 intro R h n o r j
 unfold Tl at j
 split at j
 ·rename_i v w A u
  have l:=q R h n o _ u
  split at j
  ·cases j;exact ZJ 9 l
  ·cases j;exact l
 ·cases j
def QX(S:Gt)(l:Gv)(ops:Array Oper):List Oper→List PE→List (AO × Nat)→AX→AO→Nat→Option (List PE × List (AO × Nat))
 | [],L,j,_,_,_=>some (L.reverse,j.reverse)
 | o::rest,L,j,e,h,n=>
  match (match o.guard with | none=>some true | some _=>GV e ops o) with
  | some true=>match RQ o with
   | true=>match S e h n o with
    | some (v,_,_)=>QX S l ops rest (⟨o.dst,v,false⟩::L) j (EW o.dst v e) h n
    | none=>none
   | false=>match l e h o with
    | some v=>QX S l ops rest (⟨o.dst,v,false⟩::L) j (EW o.dst v e) h n
    | none=>match S e h n o with
     | some (v,q,u)=>QX S l ops rest (⟨o.dst,v,true⟩::L) ((q,u)::j) (EW o.dst v e) q u
     | none=>none
  | some false=>QX S l ops rest (⟨o.dst,.whn false (.r (.bool false)),false⟩::L) j (EW o.dst (.whn false (.r (.bool false))) e) h n
  | none=>none
def UD(P:Program)(S:Gt)(j:Gv)(ops:Array Oper)(s:St):Option St:=match QX S j ops ops.toList [] [(s.h,s.n)] s.e s.h s.n with
 | some (L,l)=>match Xl P S j ops s L l with
  | true=>match l[DD (λ_=>true) L 0]? with
   | some (q,u)=>some ⟨CI (λ_=>true) (λ_=>0) s.e (L.map PE.po),q,u,s.N⟩
   | none=>none
  | false=>none
 | none=>none
def Tt(S:Gt)(ops:Array Oper):List Oper→AX→AO→Nat→Option Nat
 | [],_,_,_=>none
 | o::rest,e,h,n=>
  match (match o.guard with | none=>some true | some _=>GV e ops o) with
  | some true=>match S e h n o with
   | some (v,j,l)=>match RQ o with
    | true=>Tt S ops rest (EW o.dst v e) h n
    | false=>Tt S ops rest (EW o.dst v e) j l
   | none=>fc ⟨e,h,n,0⟩ o
  | some false=>Tt S ops rest (EW o.dst (.whn false (.r (.bool false))) e) h n
  | none=>none
def ke(F:List Nat)(s:St)(o:Oper):Option Nat:=match o.op with
 | .call ⟨.value fo,xs,_⟩=>match Ap s.e fo with
  | .fn f _=>match F.any (Nat.beq f) with
   | true=>xs.toList.findSome? λx=>PA s.h (Ap s.e x)
   | false=>none
  | _=>none
 | _=>none
def RK(F:List Nat)(c:Dk):Dk:=match c with
 | .ops ops (o::rest) ks s=>match ke F s o with
  | some id=>match hget s.h id with
   | some (.arr g _ _ xs)=>.ops ops (o::rest) ks (LL id g xs s)
   | _=>c
  | none=>c
 | c=>c
theorem cB{F}{Q}{c}(h:Da P Q (RK F c)):Da P Q c:=by
 unfold RK at h
 split at h
 ·split at h
  ·split at h
   ·rename_i j;exact CQ.weak (Ss j) h
   ·exact h
  ·exact h
 ·exact h
structure Lv where
 S:Gt
 Sp:Gv
structure LU(P:Program)(p:Lv):Prop where
 S:KH P p.S
 Sp:Jd P p.Sp
def WR(p:Lv)(ops:Array Oper)(o:Oper)(rest:List Oper)(ks:List Fr)(s:St):Option Dk:=match o.op with
 | .call ⟨.value _,_,_⟩=>match (match o.guard with | none=>some true | some _=>GV s.e ops o) with
  | some true=>match p.Sp s.e s.h o with
   | some v=>match o.dst with
    | some d=>match Nat.blt d s.N with
     | true=>some (.ops ops rest ks { e:=(d,v)::s.e,h:=s.h,n:=s.n,N:=s.N })
     | false=>none
    | none=>none
   | none=>none
  | _=>none
 | _=>none
theorem te{p}(hp:LU P p){Q}{ops}{o:Oper}{rest}{ks}{s:St}{u}(h:WR p ops o rest ks s=some u)(hc:Da P Q u):Da P Q (.ops ops (o::rest) ks s):=by
 unfold WR at h
 split at h
 ·split at h
  ·rename_i hg
   split at h
   ·rename_i v A
    split at h
    ·rename_i d hd
     split at h
     ·rename_i B;cases h
      have l:(false=false∧o.guard=none)∨CS s.e ops o true:=by
       cases q:o.guard with
       | none=>exact .inl ⟨rfl,rfl⟩
       | some j=>rw[q] at hg;exact .inr (FQ hg)
      exact CQ.cons (K1:=λw=>w=_) (Xp l hd B (hp.Sp _ _ _ _ A _) (AL.nil rfl)) λw e=>e ▸ hc
     ·cases h
    ·cases h
   ·cases h
  ·cases h
 ·cases h
def Ux(s:St)(o:Oper):Option Nat:=match o.op with
 | .slice _ (.tmp t) _ _ _=>match get s.e t with
  | .cst (.slice none 0 0)=>some t
  | _=>none
 | _=>none
theorem iN{s:St}{o}{t}(h:Ux s o=some t):Ae s ⟨(t,.r (.sl []))::s.e,s.h,s.n,s.N⟩:=by
 unfold Ux at h
 split at h
 ·split at h
  ·rename_i hg
   cases h
   intro I a w ⟨C,q,hsz,y,u,A,B,E,F,l⟩
   refine⟨C,q,hsz,y,u,A,B,E,F,λj=>?_⟩
   rw[DQ]
   split
   ·rename_i e
    subst e
    have:=l t
    rw[hg] at this
    generalize a.tmps.getD t undef=v at this ⊢
    cases this
    exact .r .snil
   ·exact l j
  ·cases h
 ·cases h
def Sc(P:Program)(p:Lv)(c:Dk):Option Dk:=match WZ P c with
 | some (.ops o r ks s)=>Uq s λs=>some (.ops o r ks s)
 | some l=>some l
 | none=>match c with
  | .code (.region i ops true) ks s=>match UD P (Tl p.S) p.Sp ops s with
   | some j=>some (.out .normal ks j)
   | none=>match Tt (Tl p.S) ops ops.toList s.e s.h s.n with
    | some id=>match hget s.h id with
     | some (.arr g _ _ xs)=>some (.code (.region i ops true) ks (LL id g xs s))
     | _=>none
    | none=>match VO P p.Sp ops s with
     | some j=>some (.out .normal ks j)
     | none=>none
  | .ops ops (o::rest) ks s=>match Ux s o with
   | some t=>some (.ops ops (o::rest) ks ⟨(t,.r (.sl []))::s.e,s.h,s.n,s.N⟩)
   | none=>none
  | _=>none
def UO(P:Program)(p:Lv)(c:Dk):Option Dk:=match c with
 | .ops ops (o::rest) ks s=>match WR p ops o rest ks s with
  | some j=>some j
  | none=>Sc P p c
 | c=>Sc P p c
theorem jy{S}{u}{Q}(w:P.follows .mixedOrders=true)(A:KH P S)(q:Jd P u){ops}{s s'}{id}(j:UD P S u ops s=some s')(hc:Q .normal s'):AW P (.region id ops true) Q s:=by
 unfold UD at j
 split at j
 ·rename_i L B _
  split at j
  ·rename_i hB
   split at j
   ·rename_i C E l
    cases j
    exact uz A q L B w hB l hc
   ·cases j
  ·cases j
 ·cases j
theorem bE{p}{Q}(l:P.follows .mixedOrders=true)(hp:LU P p){c q}(h:Sc P p c=some q)(hc:Da P Q q):Da P Q c:=by
 unfold Sc at h
 split at h
 ·rename_i o r ks s j;rw[mI] at h;cases h;exact fx l j hc
 ·rename_i B _ j;cases h;exact fx l j hc
 ·split at h
  ·split at h
   ·rename_i u j;cases h;exact jy l (rg hp.S) hp.Sp j hc
   ·split at h
    ·split at h
     ·rename_i w;cases h;exact AW.weak (Ss w) hc
     ·cases h
    ·split at h
     ·rename_i u j;cases h;exact sf l hp.Sp j hc
     ·cases h
  ·split at h
   ·rename_i t A;cases h;exact CQ.weak (iN A) hc
   ·cases h
  ·cases h
theorem qH{p}{Q}(j:P.follows .mixedOrders=true)(hp:LU P p){c l}(h:UO P p c=some l)(hc:Da P Q l):Da P Q c:=by
 unfold UO at h
 split at h
 ·split at h
  ·rename_i u q;cases h;exact te hp q hc
  ·exact bE j hp h hc
 ·exact bE j hp h hc
def runX(P:Program)(F:List Nat)(p:Lv):Nat→Dk→Dk
 | 0,c=>c
 | n+1,c=>match UO P p (RK F (RK F c)) with
  | some j=>runX P F p n j
  | none=>c
theorem QG{F}{p}{Q}(j:P.follows .mixedOrders=true)(hp:LU P p):∀ {n:Nat} {c:Dk},Da P Q (runX P F p n c)→Da P Q c
 | 0,c,h=>h
 | n+1,c,h=>by
  unfold runX at h
  split at h
  ·rename_i q l;exact cB (cB (qH j hp l (QG j hp h)))
  ·exact h
def Ry(P:Program):Gt:=λR h n o=>match LA P R h o with
 | some v=>some (v,h,n)
 | none=>JZ P R h n o
theorem fr:KH P (Ry P):=by
 intro R h n o r j
 unfold Ry at j
 split at j
 ·rename_i v l;cases j;exact(LJ (c:=true) l).spec _
 ·exact S6 j
def Vz(P:Program)(F:List Nat)(p:Lv)(R:AX)(h:AO)(n:Nat)(o:Oper):Option (AV × AO × Nat):=match o.op with
 | .call ⟨.value fo,xs,_⟩=>match Ap R fo with
  | .fn f j=>match P.funcs[f]? with
   | some fn=>match fn.body with
    | some code => if (fn.name == "runtime.NumGoroutine") = false ∧ Nat.ble (xs.toList.map (Ap R) ++ j).length fn.ntmps = true then
      Hb (xs.toList.map (Ap R)++j) λl=>DP n λn=>Ty h λh=>
      match runX P F p 1000000 (.code code [] ⟨DW 0 l,h,n,fn.ntmps⟩) with
      | .out .ret [] s=>match Kv P s fn.results.toList with
       | some r=>some (r,s.h,s.n)
       | none=>none
      | .out .normal [] s=>match Kv P s fn.results.toList with
       | some r=>some (r,s.h,s.n)
       | none=>none
      | _=>none
     else none
    | none=>none
   | none=>none
  | _=>none
 | _=>none
theorem qz{F}{p}(U:P.follows .mixedOrders=true)(hp:LU P p){R}{h}{n}{o}{r}(j:Vz P F p R h n o=some r):A7 P true o R h n r.1 r.2.1 r.2.2:=by
 unfold Vz at j
 split at j
 ·rename_i fo xs X Y
  split at j
  ·rename_i f q I
   split at j
   ·rename_i fn Z
    split at j
    ·rename_i code hb
     split at j
     ·rename_i V
      rw[Kw,Do,aW] at j
      have B:Ev true R fo (.fn f q):=by rw[← I];exact BM true R fo
      have C:∀(v:AV) (J:AO) (M:Nat),AW P code (G7 P fn.results.toList λr w A=>r=v∧w=J∧A=M) ⟨DW 0 (xs.toList.map (Ap R)++q),h,n,fn.ntmps⟩→A7 P true o R h n v J M:=by
       intro v J M hw hc z a O hH hn he K Q hK
       refine Sb Y B (Kk true R xs.toList) Z hb V.1 rfl (wj V.2) O hH hn he hw K Q λu y r w A k1 k2 k3 k4 k5 ⟨e1,e2,e3⟩=>?_
       subst e1;subst e2;subst e3
       exact hK u y k1 k2 k3 k4 k5
      split at j
      ·rename_i s T
       split at j
       ·rename_i E l;cases j
        refine C _ _ _ (QG (F:=F) (Q:=G7 P fn.results.toList λr w A=>r=E∧w=s.h∧A=s.n) (c:=.code code [] _) (n:=1000000) U hp ?_)
        rw[T];exact⟨E,P4 l,rfl,rfl,rfl⟩
       ·cases j
      ·rename_i s T
       split at j
       ·rename_i E l;cases j
        refine C _ _ _ (QG (F:=F) (Q:=G7 P fn.results.toList λr w A=>r=E∧w=s.h∧A=s.n) (c:=.code code [] _) (n:=1000000) U hp ?_)
        rw[T];exact⟨E,P4 l,rfl,rfl,rfl⟩
       ·cases j
      ·cases j
     ·cases j
    ·cases j
   ·cases j
  ·cases j
 ·cases j
def L1(h:AO):List AV→Option (List AV)
 | []=>some []
 | a::l=>match (match a with
   | .own id g=>match hget h id with
    | some (.arr j _ _ xs)=>if j=g then some (.r (.sl xs)) else none
    | _=>none
   | a=>match a.closed with
    | true=>some a
    | false=>none),L1 h l with
  | some b,some m=>some (b::m)
  | _,_=>none
def Kl(h:AO)(a:AV):Option AV:=match a with
 | .own id g=>match hget h id with
  | some (.arr j _ _ xs)=>if j=g then some (.r (.sl xs)) else none
  | _=>none
 | .agg l=>(L1 h l).map .agg
 | a=>match a.closed with
  | true=>some a
  | false=>none
theorem Xz{h} : ∀ {cs ds:List AV},L1 h cs=some ds→O6 h cs ds
 | [],ds,q=>by cases q;trivial
 | a::l,ds,q=>by
  unfold L1 at q
  split at q
  ·rename_i b m j u
   cases q
   refine⟨?_,Xz u⟩
   split at j
   ·split at j
    ·rename_i w
     split at j
     ·rename_i hg;subst hg;cases j;exact .own w
     ·cases j
    ·cases j
   ·split at j
    ·rename_i A;cases j;exact .closed _ A
    ·cases j
  ·cases q
theorem Rs{h}{a b}(j:Kl h a=some b):Fz h a b:=by
 unfold Kl at j
 split at j
 ·split at j
  ·rename_i l
   split at j
   ·rename_i hg;subst hg;cases j;exact .one (.own l)
   ·cases j
  ·cases j
 ·rw[v8] at j
  obtain⟨w,q,rfl⟩:=j
  exact .agg (Xz q)
 ·split at j
  ·rename_i u;cases j;exact .one (.closed _ u)
  ·cases j
def Lh(R:AX)(h:AO):List Operand→Option (List AV)
 | []=>some []
 | x::xs=>match Kl h (Ap R x),Lh R h xs with
  | some b,some j=>some (b::j)
  | _,_=>none
theorem fH{R}{h} : ∀ {xs:List Operand} {bs:List AV},Lh R h xs=some bs→Hw true R h xs bs
 | [],bs,j=>by cases j;trivial
 | x::xs,bs,j=>by
  unfold Lh at j
  split at j
  ·rename_i b l q u
   cases j
   exact⟨⟨_,BM true R x,Rs q⟩,fH u⟩
  ·cases j
theorem fz{R} : ∀(xs:List Operand),Dr (xs.map (Ap R))=true→PX true R xs (xs.map (Ap R))
 | [],_=>trivial
 | x::xs,h=>by
  simp only[wB,Dr,vm] at h
  exact⟨.inl ⟨BM true R x,h.1⟩,fz xs h.2⟩
def RX(P:Program)(s:St):ResultVar→Option AV
 | .tmp t=>Kl s.h (get s.e t)
 | .cell a t=>match get s.e a with
  | .ptr id g 0 0=>match hget s.h id with
   | some (.box l _ j)=>if l=g then match LK P t with
     | true=>match j with
      | [r]=>Kl s.h r
      | _=>none
     | false=>match KM P t with
      | some sz=>if j.length=sz then Kl s.h (.agg j) else none
      | none=>none
    else none
   | _=>none
  | _=>none
theorem Y4{s}{x}{r}(h:RX P s x=some r):Dw P s x r:=by
 unfold RX at h
 split at h
 ·exact Rs h
 ·split at h
  ·rename_i id g hp
   split at h
   ·rename_i w e A j
    split at h
    ·rename_i hg;subst hg
     split at h
     ·rename_i l
      split at h
      ·exact .inl ⟨id,_,_,_,QR l,hp,j,Rs h⟩
      ·cases h
     ·split at h
      ·rename_i sz q
       split at h
       ·rename_i u;exact .inr ⟨sz,id,_,_,_,Ot q,hp,j,u,Rs h⟩
       ·cases h
      ·cases h
    ·cases h
   ·cases h
  ·cases h
def Rb(P:Program)(s:St):List ResultVar→Option (List AV)
 | []=>some []
 | x::l=>match RX P s x,Rb P s l with
  | some r,some j=>some (r::j)
  | _,_=>none
theorem eu{s} : ∀ {l:List ResultVar} {j:List AV},Rb P s l=some j→Lu (Dw P s) l j
 | [],j,h=>by cases h;trivial
 | x::l,j,h=>by
  unfold Rb at h
  split at h
  ·rename_i r q u w;cases h;exact⟨Y4 u,eu w⟩
  ·cases h
def Rc(P:Program)(s:St)(l:List ResultVar):Option AV:=match l with
 | [x]=>RX P s x
 | l=>(Rb P s l).map .tup
theorem fW{s}{l}{r}(h:Rc P s l=some r):NB (Dw P s) l r:=by
 unfold Rc at h
 split at h
 ·exact Y4 h
 ·rename_i A j
  rw[v8] at h
  obtain⟨q,u,rfl⟩:=h
  have w:=eu u
  unfold NB
  split
  ·rename_i x;exact absurd rfl (j x)
  ·exact⟨q,rfl,w⟩
def Xd(P:Program)(j:List ResultVar):Dk→Option AV
 | .out .ret [] s=>Rc P s j
 | .out .normal [] s=>Rc P s j
 | _=>none
theorem sr{j}{c}{r}(h:Xd P j c=some r):Da P (Fd P j r) c:=by
 unfold Xd at h
 split at h
 ·exact fW h
 ·exact fW h
 ·cases h
def Sq(P:Program)(F X:List Nat)(p:Lv)(R:AX)(h:AO)(o:Oper):Option AV:=match o.op with
 | .call ⟨.value fo,xs,_⟩=>match Ap R fo with
  | .fn f j=>match X.any (Nat.beq f) with
   | true=>none
   | false=>match Dr j,Lh R h xs.toList with
    | true,some l=>match P.funcs[f]? with
     | some fn=>match fn.body with
      | some code => if (fn.name == "runtime.NumGoroutine") = false ∧ Nat.ble (l ++ j).length fn.ntmps = true ∧ Dr (l ++ j) = true then
        Hb (l++j) λq=>
        match Xd P fn.results.toList (runX P F p 1000000 (.code code [] ⟨DW 0 q,[],0,fn.ntmps⟩)) with
        | some r=>EI r λr=>if r.closed=true∧(r.flat=true∨Dr (xs.toList.map (Ap R))=true) then some r else none
        | none=>none
       else none
      | none=>none
     | none=>none
    | _,_=>none
  | _=>none
 | _=>none
theorem YS{R}{h} : ∀ {xs:List Operand} {bs:List AV},Lh R h xs=some bs→Dr (xs.map (Ap R))=true→bs=xs.map (Ap R)
 | [],bs,j,_=>by cases j;rfl
 | x::xs,bs,j,A=>by
  unfold Lh at j
  simp only[wB,Dr,vm] at A
  split at j
  ·rename_i b F q I
   cases j
   rw[wB,YS I A.2]
   congr 1
   unfold Kl at q
   split at q
   ·rename_i E;rw[E] at A;cases A.1
   ·rename_i u E
    rw[v8] at q
    obtain⟨B,J,rfl⟩:=q
    rw[E] at A ⊢
    have:∀(u B:List AV),Dr u=true→L1 h u=some B→B=u:=by
     intro u
     induction u with
     | nil=>intro B _ j;cases j;rfl
     | cons a l M=>
      intro B w j
      simp only[Dr,vm] at w
      unfold L1 at j
      split at j
      ·rename_i b m C O
       cases j
       rw[M m w.2 O]
       congr 1
       split at C
       ·cases w.1
       ·split at C
        ·cases C;rfl
        ·cases C
      ·cases j
    rw[this u B A.1 J]
   ·split at q
    ·cases q;rfl
    ·cases q
  ·cases j
theorem eD{F X}{p}(T:P.follows .mixedOrders=true)(hp:LU P p):Jd P (Sq P F X p):=by
 intro R h o v j n
 unfold Sq at j
 split at j
 ·rename_i fo xs U M
  split at j
  ·rename_i f u E
   split at j
   ·cases j
   ·split at j
    ·rename_i I l q
     split at j
     ·rename_i fn V
      split at j
      ·rename_i code Y
       split at j
       ·rename_i J
        rw[Kw] at j
        split at j
        ·rename_i r B
         rw[gN] at j
         split at j
         ·rename_i O
          cases j
          have w:Ev true R fo (.fn f u):=by rw[← E];exact BM true R fo
          have A:AS P f (I++u) v:=hJ V Y J.1 rfl O.1 J.2.2 (wj J.2.1) (QG (F:=F) (Q:=Fd P fn.results.toList v) T hp (sr B))
          rcases O.2 with C | C
          ·exact Dy M w l (fH q) (λ_=>A) C
          ·refine C0 M w l (fz xs.toList C) (λ_=>?_)
           rw[← YS q C];exact A
         ·cases j
        ·cases j
       ·cases j
      ·cases j
     ·cases j
    ·cases j
  ·cases j
 ·cases j
def W7(P:Program)(T:List (FuncId × Bool)):Prop:=∀p∈T,AS P p.1 [] (.r (.bool p.2))
def RN(T:List (FuncId × Bool))(R:AX)(o:Oper):Option AV:=match o.op with
 | .call ⟨.value fo,⟨[]⟩,_⟩=>match Ap R fo with
  | .fn f []=>match T.find? (λp=>Nat.beq p.1 f) with
   | some p=>some (.r (.bool p.2))
   | none=>none
  | _=>none
 | _=>none
theorem X5{T}(w:W7 P T){R}{h}{n}{o}{r}(j:RN T R o=some r):A7 P true o R h n r h n:=by
 unfold RN at j
 split at j
 ·rename_i fo A B
  split at j
  ·rename_i f q
   split at j
   ·rename_i p hp
    cases j
    have C:=List.mem_of_find?_eq_some hp
    have E:p.1=f:=vx (by have:=List.find?_some hp;exact this)
    have l:Ev true R fo (.fn f []):=by rw[← q];exact BM true R fo
    have u:=w p C
    rw[E] at u
    exact Dy (caps:=[]) (bs:=[]) B l rfl trivial (λ_=>u) rfl
   ·cases j
  ·cases j
 ·cases j
def J8(P:Program)(T:List (FuncId × Bool))(F X:List Nat):Nat→Lv
  | 0 => ⟨Ry P, λ_ _ _ => none⟩
  | l+1 =>
    ⟨λR h n o => match Ry P R h n o with
      | some r => some r
      | none => match RN T R o with
        | some v => some (v, h, n)
        | none => match Sq P F X (J8 P T F X l) R h o with
          | some v => some (v, h, n)
          | none => Vz P F (J8 P T F X l) R h n o,
     λR h o => match RN T R o with
      | some v => some v
      | none => Sq P F X (J8 P T F X l) R h o⟩
theorem ZC{T}{F X}(u:P.follows .mixedOrders=true)(w:W7 P T):∀l:Nat,LU P (J8 P T F X l)
 | 0=>⟨fr,λR h o v j=>by cases j⟩
 | l+1=>by
  have A:=ZC u w l (F:=F) (X:=X)
  refine⟨λR h n o r j=>?_,λR h o v j n=>?_⟩
  ·unfold J8 at j
   dsimp only at j
   split at j
   ·rename_i B q;cases j;exact fr R h n o _ q
   ·split at j
    ·rename_i v q;cases j;exact X5 w q
    ·split at j
     ·rename_i v q;cases j;exact eD u A _ _ _ _ q _
     ·exact qz u A j
  ·unfold J8 at j
   dsimp only at j
   split at j
   ·rename_i C q;cases j;exact X5 w q
   ·exact eD u A _ _ _ _ j _
theorem AS.runX {f} {fn : Func} {code} {N} {b} (T : List (FuncId × Bool)) (u : W7 P T) (F X : List Nat) (l n : Nat) (q : P.follows .mixedOrders = true) (w : P.funcs[f]? = some fn) (A : fn.body = some code) (j : (fn.name == "runtime.NumGoroutine") = false) (B : fn.ntmps = N)
 (C:UG fn.results.toList (Al.runX P F (J8 P T F X l) n (.code code [] ⟨[], [], 0, N⟩))=some b):AS P f [] (.r (.bool b)) :=
  hJ w A j B rfl rfl (xd _) (QG (F := F) (Q := Fd P fn.results.toList (.r (.bool b))) q (ZC q u l) (sG C))
end
theorem iL{α:Sort _}{x:α}{p:Prop} : x=x∨p:=.inl rfl
section
variable{P:Program}{ops:Array Oper}{rest:List Oper}{s:St}{K:St→Prop}{o:Oper}
theorem sQ{d}{v}(hg:(o.guard, o.dst, Nat.blt d s.N)=(none, some d, true))(j:AR P true o s.e s.h v)
 (l:AL P ops rest { e := (d, v)::s.e, h := s.h, n := s.n, N := s.N } K):AL P ops (o::rest) s K :=
  AL.step (xq hg).1 (xq (xq hg).2).1 (xq (xq hg).2).2 (AR.spec j _) l
end
theorem jL{α:Sort _}{x:α}{p q:Prop} : (x=x∨p)∨q:=.inl (.inl rfl)
theorem iR{c}{R}{x}{v}(h:BK R x=.whn c v):Ev c R x v:=.inr ⟨c,id,h⟩
theorem nL{n:Nat} : n≤n:=vu n
theorem fR{α β:Sort _}{x:β}(_:α):x=x:=rfl
section
variable{P:Program}{ops:Array Oper}{rest:List Oper}{s:St}{K:St→Prop}{o:Oper}
theorem sA{d}{x}(hg:(o.guard, o.dst, Nat.blt d s.N)=(none, some d, true))(j:o.op=.assign x)
 (l:AL P ops rest { e := (d, BK s.e x)::s.e, h := s.h, n := s.n, N := s.N } K):AL P ops (o::rest) s K := sQ hg (Dj j (.inl rfl)) l
theorem aZ(h:K s):AL P ops [] s K:=AL.nil h
end
section
variable{P:Program}{Q:Exit→St→Prop}{s:St}{x y:Code}
theorem aS(h:∀K:St→Prop,(∀s,AW P y Q s→K s)→(∀s j,Ae s j→K j→K s)→AW P x (E6 K Q) s):AW P (.seq x y) Q s:=up h
theorem aR{id}{l:List Oper}(h:AL P l.toArray l s (Q .normal)):AW P (.region id l.toArray false) Q s:=AW.region h
theorem aC{c}{b}(hc:BK s.e c=.r (.bool b))(j:b=true→AW P x Q s)(l:b=false→AW P y Q s):AW P (.cond c x y) Q s:=AW.cond hc j l
end
theorem fB{P}{c}{o:Oper}{R}{h}{t}{x}{f off}{id g g' i k}{e}{cs}(j:o.op=.fieldAddr t x f)(l:AY P t f off)(q:Ev c R x (.ptr id g i k))(u:c=true→hget h id=some (.box g' e cs))
 (hg:g'=g):AR P c o R h (.ptr id g i (k+off)) := GQ (ob := .box g' e cs) j l q u hg
@[reducible] def rI(k:Int):AV:=.r (.int .i64 k)
@[reducible] def rB(b:Bool):AV:=.r (.bool b)
theorem oQ{P}{ops}{s:St}{L}{i}{p:PO}{o:Oper}(j:(Nat→Nat)→AX)(l:(Nat→Nat)→AO)
 (u:∀D G, Bg ops D i→Fp (CI D G s.e L) (j G)) (w:∀D G, Bg ops D i→Fs (Dm D G s.h L) (l G)) (h:∀G e q, AR P true o (j G++e) (l G++q) (p.v G))
 (hg:o.guard=none := by rfl) (hd:o.dst=p.d := by rfl) (A:∀d, p.d=some d→Nat.blt d s.N=true := by intro d h;cases h;rfl) (hp:p.hp=none := by rfl) (B:∀G n, p.v (DC G i n)=p.v G := by intros;rfl):Ob P ops s L i p o :=
  T8 (n1 := λn => n) hg hd A hp j l u w B λG e q _ => AR.spec (h G e q) _
@[reducible] def cZ:AV:=.cst (.slice none 0 0)
inductive Bu(e:AX):List Nat→AX→Prop
 | nil:Bu e [] []
 | cons {k:Nat} {ks:List Nat} {v:AV} {r:AX} (h:get e k=v) (t:Bu e ks r):Bu e (k::ks) ((k,v)::r)
inductive FK(e:AO):List Nat→AO→Prop
 | nil:FK e [] []
 | cons {k:Nat} {ks:List Nat} {v:Ab} {r:AO} (h:hget e k=some v) (t:FK e ks r):FK e (k::ks) ((k,some v)::r)
theorem Bu.cv{e}{ks}{e'}(h:Bu e ks e'):OI e' e:=by
 induction h with
 | nil=>trivial
 | cons h _ j=>exact⟨.inl (.inl h),j⟩
theorem FK.cv{e}{ks}{e'}(h:FK e ks e'):OQ e' e:=by
 induction h with
 | nil=>trivial
 | cons h _ j=>exact⟨.inl h,j⟩
section
variable{e:AX}{k:Nat}{ks:List Nat}{r:AX}
theorem kR{d}(t:Bu e ks r)(h:get e k=.r d):Bu e (k::ks) ((k,.r d)::r):=.cons h t
theorem kP{a b c d}(t:Bu e ks r)(h:get e k=.ptr a b c d):Bu e (k::ks) ((k,.ptr a b c d)::r):=.cons h t
theorem kO{a b}(t:Bu e ks r)(h:get e k=.own a b):Bu e (k::ks) ((k,.own a b)::r):=.cons h t
theorem kA{d}(t:Bu e ks r)(h:get e k=.agg d):Bu e (k::ks) ((k,.agg d)::r):=.cons h t
theorem kC{d}(t:Bu e ks r)(h:get e k=.cst d):Bu e (k::ks) ((k,.cst d)::r):=.cons h t
theorem kT{d}(t:Bu e ks r)(h:get e k=.tup d):Bu e (k::ks) ((k,.tup d)::r):=.cons h t
theorem kF{f}{d}(t:Bu e ks r)(h:get e k=.fn f d):Bu e (k::ks) ((k,.fn f d)::r):=.cons h t
theorem kQ{d}{i}(t:Bu e ks r)(h:get e k=.rop d i):Bu e (k::ks) ((k,.rop d i)::r):=.cons h t
theorem kM{a b}(t:Bu e ks r)(h:get e k=.mref a b):Bu e (k::ks) ((k,.mref a b)::r):=.cons h t
theorem kW{b}{v}(t:Bu e ks r)(h:get e k=.whn b v):Bu e (k::ks) ((k,.whn b v)::r):=.cons h t
theorem kK{a b c d f}(t:Bu e ks r)(h:get e k=.pk a b c d f):Bu e (k::ks) ((k,.pk a b c d f)::r):=.cons h t
theorem kU{a b c}{d}(t:Bu e ks r)(h:get e k=.fo a b c d):Bu e (k::ks) ((k,.fo a b c d)::r):=.cons h t
theorem kI{b}(t:Bu e ks r)(h:get e k=.ifc b):Bu e (k::ks) ((k,.ifc b)::r):=.cons h t
theorem kV{a b c}(t:Bu e ks r)(h:get e k=.pre a b c):Bu e (k::ks) ((k,.pre a b c)::r):=.cons h t
theorem kY{a b}(t:Bu e ks r)(h:get e k=.yld a b):Bu e (k::ks) ((k,.yld a b)::r):=.cons h t
theorem kL{xs}(t:Bu e ks r)(h:get e k=.full xs):Bu e (k::ks) ((k,.full xs)::r):=.cons h t
end
section
variable{e:AO}{k:Nat}{ks:List Nat}{r:AO}
theorem hB{g}{t}{cs}(t1:FK e ks r)(h:hget e k=some (.box g t cs)):FK e (k::ks) ((k,some (.box g t cs))::r):=.cons h t1
theorem hA{g}{t}{sz}{xs}(t1:FK e ks r)(h:hget e k=some (.arr g t sz xs)):FK e (k::ks) ((k,some (.arr g t sz xs))::r):=.cons h t1
theorem hC{o}(t1:FK e ks r)(h:hget e k=some o):FK e (k::ks) ((k,some o)::r):=.cons h t1
end
section
variable{P:Program}{Q:Exit→St→Prop}{x y:Code}
theorem aF{e:AX}{h:AO}{n N:Nat}(ks:List Nat){e':AX}(hr:AW P x Q ⟨e',[],n,N⟩)
  (he:Bu e ks e':=by repeat' first | exact Bu.nil | apply kR _ rfl | apply kP _ rfl | apply kA _ rfl | apply kO _ rfl | apply kC _ rfl | apply kT _ rfl | apply kF _ rfl | apply kQ _ rfl | apply kM _ rfl | apply kW _ rfl | apply kL _ rfl | apply kK _ rfl | apply kU _ rfl | apply kI _ rfl | apply kV _ rfl | apply kY _ rfl):AW P x Q ⟨e,h,n,N⟩:=
 AW.weak (Ae.cv (h':=[]) he.cv trivial (vu _)) hr
theorem aG{e:AX}{h:AO}{n N:Nat}(ks js:List Nat){e':AX}{h':AO}(hr:AW P x Q ⟨e',h',n,N⟩)
  (he:Bu e ks e':=by repeat' first | exact Bu.nil | apply kR _ rfl | apply kP _ rfl | apply kA _ rfl | apply kO _ rfl | apply kC _ rfl | apply kT _ rfl | apply kF _ rfl | apply kQ _ rfl | apply kM _ rfl | apply kW _ rfl | apply kL _ rfl | apply kK _ rfl | apply kU _ rfl | apply kI _ rfl | apply kV _ rfl | apply kY _ rfl)
  (hh:FK h js h':=by repeat' first | exact FK.nil | apply hB _ rfl | apply hA _ rfl | apply hC _ rfl):AW P x Q ⟨e,h,n,N⟩:=
 AW.weak (Ae.cv he.cv hh.cv (vu _)) hr
end
section
variable{P:Program}{ops:Array Oper}{rest:List Oper}{K:St→Prop}{o o2:Oper}{e:AX}{h:AO}{n N:Nat}
theorem A8(ks js:List Nat){e':AX}{h':AO}(hr:AL P ops rest ⟨e',h',n,N⟩ K)
  (he:Bu e ks e':=by repeat' first | exact Bu.nil | apply kR _ rfl | apply kP _ rfl | apply kA _ rfl | apply kO _ rfl | apply kC _ rfl | apply kT _ rfl | apply kF _ rfl | apply kQ _ rfl | apply kM _ rfl | apply kW _ rfl | apply kL _ rfl | apply kK _ rfl | apply kU _ rfl | apply kI _ rfl | apply kV _ rfl | apply kY _ rfl)
  (hh:FK h js h':=by repeat' first | exact FK.nil | apply hB _ rfl | apply hA _ rfl | apply hC _ rfl):AL P ops rest ⟨e,h,n,N⟩ K:=
 AL.weak (Ae.cv he.cv hh.cv (vu _)) hr
end
section
variable{P:Program}{ops:Array Oper}{rest:List Oper}{K:St→Prop}{o o2:Oper}{s:St}
theorem vQ{d j q}{l b}{v}(hg:(o.guard, o.dst, Nat.blt d s.N, (ops[j]?).bind (·.dst), BK s.e (.tmp q))=(some (j, l), some d, true, some q, .r (.bool b)))(u:AR P (b==l) o s.e s.h v)
 (w:AL P ops rest { e := (d, .whn (b==l) v)::s.e, h := s.h, n := s.n, N := s.N } K):AL P ops (o::rest) s K := by
  simp only[wA] at hg
  obtain⟨A, B, C, E, F⟩ := hg
  exact AL.stepW (.one A E F) B C (AR.spec u _) w
theorem wQ{d j u}{l b q}{v}(hg:(o.guard, o.dst, Nat.blt d s.N, (ops[j]?).bind (·.dst), BK s.e (.tmp u))=(some (j, l), some d, true, some u, .whn q (.r (.bool b))))(w:AR P (q&&(b==l)) o s.e s.h v)
 (A:AL P ops rest { e := (d, .whn (q&&(b==l)) v)::s.e, h := s.h, n := s.n, N := s.N } K):AL P ops (o::rest) s K := by
  simp only[wA] at hg
  obtain⟨B, C, E, F, I⟩ := hg
  exact AL.stepW (.two B F I) C E (AR.spec w _) A
theorem qP{d}{v}(hg:(o.guard, o.dst, Nat.blt d s.N)=(none, some d, true))(j:AR P true o s.e s.h v)
 (l:AQ P ops rest { e := (d, v)::s.e, h := s.h, n := s.n, N := s.N } K):AQ P ops (o::rest) s K :=
  AQ.step (xq hg).1 (xq (xq hg).2).1 (xq (xq hg).2).2 j l
theorem qO{d j q}{l b}{v}(hg:(o.guard, o.dst, Nat.blt d s.N, (ops[j]?).bind (·.dst), BK s.e (.tmp q))=(some (j, l), some d, true, some q, .r (.bool b)))(u:AR P (b==l) o s.e s.h v)
 (w:AQ P ops rest { e := (d, .whn (b==l) v)::s.e, h := s.h, n := s.n, N := s.N } K):AQ P ops (o::rest) s K := by
  simp only[wA] at hg
  obtain⟨A, B, C, E, F⟩ := hg
  exact AQ.stepW (.one A E F) B C u w
theorem qT{d j u}{l b q}{v}(hg:(o.guard, o.dst, Nat.blt d s.N, (ops[j]?).bind (·.dst), BK s.e (.tmp u))=(some (j, l), some d, true, some u, .whn q (.r (.bool b))))(w:AR P (q&&(b==l)) o s.e s.h v)
 (A:AQ P ops rest { e := (d, .whn (q&&(b==l)) v)::s.e, h := s.h, n := s.n, N := s.N } K):AQ P ops (o::rest) s K := by
  simp only[wA] at hg
  obtain⟨B, C, E, F, I⟩ := hg
  exact AQ.stepW (.two B F I) C E w A
theorem sS{d}{v}{h'}{n'}(hg:(o.guard, o.dst, Nat.blt d s.N)=(none, some d, true))(j:A7 P true o s.e s.h s.n v h' n')
 (l:AL P ops rest { e := (d, v)::s.e, h := h', n := n', N := s.N } K):AL P ops (o::rest) s K :=
  AL.step (xq hg).1 (xq (xq hg).2).1 (xq (xq hg).2).2 j l
theorem lF{t t2}{x y}{f off id g i k d1 d2 j g' q}{e1 e2}{cs l}{a}(A:AY P t f off)(B:Bd P t2)
 (u:(o.guard, o.dst, Nat.blt d1 s.N, o.op, BK s.e x, hget s.h id)=(none, some d1, true, .fieldAddr t x f, .ptr id g i k, some (.box g e1 cs)))
 (w:(o2.guard, o2.dst, Nat.blt d2 s.N, o2.op, BK ((d1, .ptr id g i (k+off))::s.e) y, hget s.h j, l[q]?)=(none, some d2, true, .load t2 y, .ptr j g' 0 q, some (.box g' e2 l), some a))
 (C:AL P ops rest { e := (d2, a)::(d1, .ptr id g i (k+off))::s.e, h := s.h, n := s.n, N := s.N } K):AL P ops (o::o2::rest) s K := by
  simp only[wA] at u w
  obtain⟨E, F, a3, a4, a5, I⟩ := u
  obtain⟨J, M, O, T, U, V, X⟩ := w
  exact AL.step E F a3 (AR.spec (GQ (ob := .box g e1 cs) a4 A (.inl a5) (λ_ => I) rfl) _) (AL.step J M O (AR.spec (AZ T B (.inl U) V X) _) C)
theorem vF{t t2}{x y}{f off id g i k d1 d2 l g' C j E F q}{w b B u}{e1 e2}{cs A}{a}(M:AY P t f off)(O:Bd P t2)
 (I:(o.guard, o.dst, Nat.blt d1 s.N, (ops[j]?).bind (·.dst), BK s.e (.tmp E), o.op, BK s.e x, hget s.h id)=(some (j, w), some d1, true, some E, .r (.bool b), .fieldAddr t x f, .ptr id g i k, some (.box g e1 cs)))
 (J:(o2.guard, o2.dst, Nat.blt d2 s.N, (ops[F]?).bind (·.dst), BK ((d1, .whn (b==w) (.ptr id g i (k+off)))::s.e) (.tmp q), o2.op, BK ((d1, .whn (b==w) (.ptr id g i (k+off)))::s.e) y, hget s.h l, A[C]?)=(some (F, B), some d2, true, some q, .r (.bool u), .load t2 y, .whn (u==B) (.ptr l g' 0 C), some (.box g' e2 A), some a))
 (T:AL P ops rest { e := (d2, .whn (u==B) a)::(d1, .whn (b==w) (.ptr id g i (k+off)))::s.e, h := s.h, n := s.n, N := s.N } K):AL P ops (o::o2::rest) s K := by
  simp only[wA] at I J
  obtain⟨U, V, a3, a4, a5, X, Y, Z⟩ := I
  obtain⟨b1, u, b3, b4, b5, b6, b7, b8, b9⟩ := J
  exact AL.stepW (.one U a4 a5) V a3 (AR.spec (GQ (ob := .box g e1 cs) X M (.inl Y) (λ_ => Z) rfl) _) (AL.stepW (.one b1 b4 b5) u b3 (AR.spec (AZ b6 O (iR b7) b8 b9) _) T)
end
def AV.isR:AV→Bool
 | .r _=>true
 | _=>false
theorem qC{l:List AV}(h:l.all AV.isR=true):∃cs:List RV,l=cs.map .r:=by
 induction l with
 | nil=>exact⟨[],rfl⟩
 | cons a l j=>
  rw[zE,vm] at h
  obtain⟨cs,rfl⟩:=j h.2
  cases a with
  | r d=>exact⟨d::cs,rfl⟩
  | _=>exact Bool.noConfusion h.1
theorem Fz.g2{h}{a}{ds:List AV}(e:a=.agg ds)(e2:ds.all AV.isR=true):Fz h a (.agg ds):=by
 obtain⟨l,j⟩:=qC e2
 exact .g e j
section
variable{P:Program}{ops:Array Oper}{rest:List Oper}{K:St→Prop}{o:Oper}{s:St}
theorem cL{d:Nat}{f:FuncId}{fo:Operand}{xs:Array Operand}{ats:Array TypeId}{bs:List AV}{r:AV}(hq:AS P f bs r)
  (hg:(o.guard,o.dst,Nat.blt d s.N,o.op,BK s.e fo,r.flat)=(none,some d,true,.call { callee:=.value fo,args:=xs,argTypes:=ats },.fn f [],true))
  (hr:AL P ops rest { e:=(d,r)::s.e,h:=s.h,n:=s.n,N:=s.N } K)
  (hx:Hw true s.e s.h xs.toList bs:=by repeat' first | exact trivial | refine⟨⟨_,iL,.d rfl⟩,?_⟩ | refine⟨⟨_,iL,.g2 rfl rfl⟩,?_⟩ | refine⟨⟨_,iL,.one (.own rfl)⟩,?_⟩ | refine⟨⟨_,iR rfl,.d rfl⟩,?_⟩ | refine⟨⟨_,iR rfl,.g2 rfl rfl⟩,?_⟩):AL P ops (o::rest) s K:=by
 simp only[wA] at hg
 obtain⟨h1,h2,h3,h4,h5,h6⟩:=hg
 exact AL.step h1 h2 h3 (Dy (caps:=[]) h4 (.inl h5) rfl hx (λ_=>by rw[wG];exact hq) h6) hr
theorem vL{d j dj:Nat}{want b:Bool}{f:FuncId}{fo:Operand}{xs:Array Operand}{ats:Array TypeId}{bs:List AV}{r:AV}(hq:(b==want)=true→AS P f bs r)
  (hg:(o.guard,o.dst,Nat.blt d s.N,(ops[j]?).bind (·.dst),BK s.e (.tmp dj),o.op,BK s.e fo,r.flat)=(some (j,want),some d,true,some dj,.r (.bool b),.call { callee:=.value fo,args:=xs,argTypes:=ats },.fn f [],true))
  (hr:AL P ops rest { e:=(d,.whn (b==want) r)::s.e,h:=s.h,n:=s.n,N:=s.N } K)
  (hx:Hw (b==want) s.e s.h xs.toList bs:=by repeat' first | exact trivial | refine⟨⟨_,iL,.d rfl⟩,?_⟩ | refine⟨⟨_,iL,.g2 rfl rfl⟩,?_⟩ | refine⟨⟨_,iL,.one (.own rfl)⟩,?_⟩ | refine⟨⟨_,iR rfl,.d rfl⟩,?_⟩ | refine⟨⟨_,iR rfl,.g2 rfl rfl⟩,?_⟩):AL P ops (o::rest) s K:=by
 simp only[wA] at hg
 obtain⟨h1,h2,h3,h4,h5,h6,h7,h8⟩:=hg
 exact AL.stepW (.one h1 h4 h5) h2 h3 (Dy (caps:=[]) h6 (.inl h7) rfl hx (λhc=>by rw[wG];exact hq hc) h8) hr
end
section
variable{P:Program}{Q:Exit→St→Prop}{s:St}{x y:Code}
theorem aU{id}{l:List Oper}(h:AL P l.toArray l s λj=>AW P y Q j):AW P (.seq (.region id l.toArray false) y) Q s:=.seq (.region h)
theorem aT(h:∀ {K:St→Prop},(∀s,AW P y Q s→K s)→AW P x (E6 K Q) s):AW P (.seq x y) Q s:=u7 λ_ j=>h j
theorem cI{α:Type}{b:Bool}{c:Operand}{X Y Z:α}(hc:BK s.e c=.r (.bool b))(h:(if b=true then X else Y)=Z)(j:X=Z→AW P x Q s)(l:Y=Z→AW P y Q s):AW P (.cond c x y) Q s:=
 AW.cond hc (λe=>j (CF e h)) (λe=>l (CA e h))
end
theorem mF{P:Program}{f}{fn:Func}{code}{args:List AV}{r:AV}{N}(l:P.funcs[f]?=some fn)(q:fn.ntmps=N)
 (j : (fn.body, fn.name == "runtime.NumGoroutine", r.closed, Nat.ble args.length N) = (some code, false, true, true)) (u : ∀ w, AW P code (Fd P fn.results.toList r) ⟨DW 0 args, [], w, N⟩) : AS P f args r := by
  simp only[wA] at j
  obtain⟨A, B, C, E⟩ := j
  exact vD l A B q C (wj E) u
theorem oZ{P}{ops}{s}{K}{y}{Q}(j:∀s,AW P y Q s→K s)(h:AW P y Q s):AL P ops [] s K:=AL.nil (j _ h)
def YB(t i:Nat):List PO→Nat→Option Nat→Option Nat
 | [],_,r=>r
 | p::L,k,r=>match Nat.blt k i with
  | true=>YB t i L (k+1) (match p.d with
   | some d=>(match Nat.beq d t with
    | true=>some k
    | false=>r)
   | none=>r)
  | false=>r
def Zs(t i:Nat):List PO→Nat→Option Nat→Option Nat
 | [],_,r=>r
 | p::L,k,r=>match Nat.blt k i with
  | true=>Zs t i L (k+1) (match p.hp with
   | some (d,_)=>(match Nat.beq d t with
    | true=>some k
    | false=>r)
   | none=>r)
  | false=>r
section
variable{P:Program}{ops:Array Oper}{s:St}{L:List PO}{i:Nat}{p:PO}{o:Oper}
theorem NK{D}{G}{e}{t j}(l:Bg ops D i)(_:YB t i L 0 none=some j){p:PO}{a}(q:L[j]?=some p)(hd:p.d=some t)(u:wt ops 40 i j=true)(hB:JG (L.drop (j+1)) t=true)(w:p.v G=a):get (CI D G e L) t=a:=O8 l j q hd u hB w
theorem Lc{D}{G}{h}{t j}(l:Bg ops D i)(_:Zs t i L 0 none=some j){p:PO}{ob}{a}(q:L[j]?=some p)(hd:p.hp=some (t,ob))(u:wt ops 40 i j=true)(hB:NE ops i t (L.drop (j+1)) (j+1)=true)(w:ob G=a):hget (Dm D G h L) t=a:=kb l j q hd u hB w
theorem oB(ie:AX)(ih:AO)(h:∀ {G e h'},AR P true o (ie++e) (ih++h') (p.v G))
  (hg:o.guard=none:=by rfl) (hd:o.dst=p.d:=by rfl) (hN:∀d,p.d=some d→Nat.blt d s.N=true:=by intro d h;cases h<;>rfl) (hp:p.hp=none:=by rfl) (hv:∀G n,p.v (DC G i n)=p.v G:=by intros;rfl)
  (hE:∀D G,Bg ops D i→Fp (CI D G s.e L) ie:=by intro _ _ hr;repeat' first | exact trivial | refine⟨MM rfl rfl,?_⟩ | refine⟨NK hr rfl rfl rfl (by kernel_rfl) rfl rfl,?_⟩ | refine⟨Mz hr (by kernel_rfl) rfl,?_⟩)
  (hH:∀D G,Bg ops D i→Fs (Dm D G s.h L) ih:=by intro _ _ hr;repeat' first | exact trivial | refine⟨NR rfl rfl,?_⟩ | refine⟨Lc hr rfl rfl rfl (by kernel_rfl) (by kernel_rfl) rfl,?_⟩ | refine⟨Jr hr (by kernel_rfl) rfl,?_⟩):Ob P ops s L i p o:=
 T8 (n1:=λn=>n) hg hd hN hp (λ_=>ie) (λ_=>ih) hE hH hv λ_ _ _ _=>AR.spec h _
theorem oC(ie:(Nat→Nat)→AX)(ih:(Nat→Nat)→AO)(h:∀G e h',AR P true o (ie G++e) (ih G++h') (p.v G))
  (hg:o.guard=none:=by rfl) (hd:o.dst=p.d:=by rfl) (hN:∀d,p.d=some d→Nat.blt d s.N=true:=by intro d h;cases h<;>rfl) (hp:p.hp=none:=by rfl) (hv:∀G n,p.v (DC G i n)=p.v G:=by intros;rfl)
  (hE:∀D G,Bg ops D i→Fp (CI D G s.e L) (ie G):=by intro _ _ hr;repeat' first | exact trivial | refine⟨MM rfl rfl,?_⟩ | refine⟨NK hr rfl rfl rfl (by kernel_rfl) rfl rfl,?_⟩ | refine⟨Mz hr (by kernel_rfl) rfl,?_⟩)
  (hH:∀D G,Bg ops D i→Fs (Dm D G s.h L) (ih G):=by intro _ _ hr;repeat' first | exact trivial | refine⟨NR rfl rfl,?_⟩ | refine⟨Lc hr rfl rfl rfl (by kernel_rfl) (by kernel_rfl) rfl,?_⟩ | refine⟨Jr hr (by kernel_rfl) rfl,?_⟩):Ob P ops s L i p o:=
 T8 (n1:=λn=>n) hg hd hN hp ie ih hE hH hv λG e h' _=>AR.spec (h G e h') _
theorem oD(ie:(Nat→Nat)→AX)(ih:(Nat→Nat)→AO){n1:Nat→Nat}(h:∀G e h' n,A7 P true o (ie G++e) (ih G++h') n (p.v G) (ih G++h') (n1 n))
  (hg:o.guard=none:=by rfl) (hd:o.dst=p.d:=by rfl) (hN:∀d,p.d=some d→Nat.blt d s.N=true:=by intro d h;cases h<;>rfl) (hp:p.hp=none:=by rfl) (hv:∀G n,p.v (DC G i n)=p.v G:=by intros;rfl)
  (hE:∀D G,Bg ops D i→Fp (CI D G s.e L) (ie G):=by intro _ _ hr;repeat' first | exact trivial | refine⟨MM rfl rfl,?_⟩ | refine⟨NK hr rfl rfl rfl (by kernel_rfl) rfl rfl,?_⟩ | refine⟨Mz hr (by kernel_rfl) rfl,?_⟩)
  (hH:∀D G,Bg ops D i→Fs (Dm D G s.h L) (ih G):=by intro _ _ hr;repeat' first | exact trivial | refine⟨NR rfl rfl,?_⟩ | refine⟨Lc hr rfl rfl rfl (by kernel_rfl) (by kernel_rfl) rfl,?_⟩ | refine⟨Jr hr (by kernel_rfl) rfl,?_⟩):Ob P ops s L i p o:=
 T8 hg hd hN hp ie ih hE hH hv h
theorem oG{c:Bool}{v0:(Nat→Nat)→AV}(ie:AX)(ih:AO)(hv:∀G n,p.v (DC G i n)=.whn c (v0 G))(h:∀ {G e h'},AR P c o (ie++e) (ih++h') (v0 G))
  (hd:o.dst=p.d:=by rfl) (hN:∀d,p.d=some d→Nat.blt d s.N=true:=by intro d h;cases h<;>rfl) (hp:p.hp=none:=by rfl)
  (hE:∀D G,Bg ops D i→Fp (CI D G s.e L) ie:=by intro _ _ hr;repeat' first | exact trivial | refine⟨MM rfl rfl,?_⟩ | refine⟨NK hr rfl rfl rfl (by kernel_rfl) rfl rfl,?_⟩ | refine⟨Mz hr (by kernel_rfl) rfl,?_⟩)
  (hH:∀D G,Bg ops D i→Fs (Dm D G s.h L) ih:=by intro _ _ hr;repeat' first | exact trivial | refine⟨NR rfl rfl,?_⟩ | refine⟨Lc hr rfl rfl rfl (by kernel_rfl) (by kernel_rfl) rfl,?_⟩ | refine⟨Jr hr (by kernel_rfl) rfl,?_⟩)
  (hg:∀e,CS (ie++e) ops o c:=by intros;first | exact .one rfl rfl rfl | exact .two rfl rfl rfl):Ob P ops s L i p o:=
 g9 (n1:=λn=>n) (c:=c) (v0:=v0) hd hN hp (λ_=>ie) (λ_=>ih) hE hH hv (λ_ e=>hg e) λ_ _ _ _=>AR.spec h _
theorem oH{c:Bool}{v0:(Nat→Nat)→AV}(ie:(Nat→Nat)→AX)(ih:(Nat→Nat)→AO)(hv:∀G n,p.v (DC G i n)=.whn c (v0 G)){n1:Nat→Nat}(h:∀G e h' n,A7 P c o (ie G++e) (ih G++h') n (v0 G) (ih G++h') (n1 n))
  (hd:o.dst=p.d:=by rfl) (hN:∀d,p.d=some d→Nat.blt d s.N=true:=by intro d h;cases h<;>rfl) (hp:p.hp=none:=by rfl)
  (hE:∀D G,Bg ops D i→Fp (CI D G s.e L) (ie G):=by intro _ _ hr;repeat' first | exact trivial | refine⟨MM rfl rfl,?_⟩ | refine⟨NK hr rfl rfl rfl (by kernel_rfl) rfl rfl,?_⟩ | refine⟨Mz hr (by kernel_rfl) rfl,?_⟩)
  (hH:∀D G,Bg ops D i→Fs (Dm D G s.h L) (ih G):=by intro _ _ hr;repeat' first | exact trivial | refine⟨NR rfl rfl,?_⟩ | refine⟨Lc hr rfl rfl rfl (by kernel_rfl) (by kernel_rfl) rfl,?_⟩ | refine⟨Jr hr (by kernel_rfl) rfl,?_⟩)
  (hg:∀G e,CS (ie G++e) ops o c:=by intros;first | exact .one rfl rfl rfl | exact .two rfl rfl rfl):Ob P ops s L i p o:=
 g9 (c:=c) (v0:=v0) hd hN hp ie ih hE hH hv hg h
theorem oM{id:Nat}{ob:(Nat→Nat)→Option Ab}{n1:Nat→Nat}(ie:(Nat→Nat)→AX)(ih:(Nat→Nat)→AO)(hp:p.hp=some (id,ob))(h:∀(G:Nat→Nat) e h' n,A7 P true o (ie G++e) (ih G++h') n (p.v (DC G i n)) ((id,ob (DC G i n))::(ih G++h')) (n1 n))
  (hg:o.guard=none:=by rfl) (hd:o.dst=p.d:=by rfl) (hN:∀d,p.d=some d→Nat.blt d s.N=true:=by intro d h;cases h<;>rfl)
  (hE:∀D G,Bg ops D i→Fp (CI D G s.e L) (ie G):=by intro _ _ hr;repeat' first | exact trivial | refine⟨MM rfl rfl,?_⟩ | refine⟨NK hr rfl rfl rfl (by kernel_rfl) rfl rfl,?_⟩ | refine⟨Mz hr (by kernel_rfl) rfl,?_⟩)
  (hH:∀D G,Bg ops D i→Fs (Dm D G s.h L) (ih G):=by intro _ _ hr;repeat' first | exact trivial | refine⟨NR rfl rfl,?_⟩ | refine⟨Lc hr rfl rfl rfl (by kernel_rfl) (by kernel_rfl) rfl,?_⟩ | refine⟨Jr hr (by kernel_rfl) rfl,?_⟩):Ob P ops s L i p o:=
 uv hg hd hN hp ie ih hE hH h
end
@[reducible] def pO(d:Nat)(v:AV):PO:=⟨some d,λ_=>v,none,[]⟩
theorem rP{P:Program}{id:Nat}{l:List Oper}{s:St}{Q:Exit→St→Prop}(n:Nat)(L:List PO){lt:List Oper}(hm:P.follows .mixedOrders=true)(e4:l.drop n=lt)(hOb:Kd P l.toArray s L 0 L l)
  (h:∀(G:Nat→Nat) (n':Nat),AL P l.toArray lt ⟨CI (λ_=>true) G s.e L,Dm (λ_=>true) G s.h L,n',s.N⟩ (Q .normal)) (hB:V7 l.toArray n L=true:=by kernel_rfl)
  (hLoc:IZ L:=by repeat' first | exact trivial | refine⟨λ_ _ _=>⟨rfl,λ_ _ e=>by cases e<;>rfl⟩,?_⟩):AW P (.region id l.toArray true) Q s:=IA n L hm hB hLoc e4 hOb h
theorem wk{s s'}(h:Ae s s':=by refine Ae.cv ?_ ?_ nL<;>repeat (first | exact trivial | refine⟨jL,?_⟩ | refine⟨.inl rfl,?_⟩)):Ae s s':=h
section
variable{P:Program}{ops:Array Oper}{rest:List Oper}{K:St→Prop}{o:Oper}{s:St}
theorem mM{d}{x}(hg:(o.guard,o.dst,Nat.blt d s.N,o.op)=(none,some d,true,.move x))(j:AL P ops rest { e:=(d,BK s.e x)::s.e,h:=s.h,n:=s.n,N:=s.N } K):AL P ops (o::rest) s K:=by
 simp only[wA] at hg
 obtain⟨l,q,u,w⟩:=hg
 exact AL.step l q u (AR.spec (AK w (.inl rfl)) _) j
theorem mA{d}{x}(hg:(o.guard,o.dst,Nat.blt d s.N,o.op)=(none,some d,true,.assign x))(j:AL P ops rest { e:=(d,BK s.e x)::s.e,h:=s.h,n:=s.n,N:=s.N } K):AL P ops (o::rest) s K:=by
 simp only[wA] at hg
 obtain⟨l,q,u,w⟩:=hg
 exact AL.step l q u (AR.spec (Dj w (.inl rfl)) _) j
theorem vM{d j q}{l b}{x}(hg:(o.guard, o.dst, Nat.blt d s.N, (ops[j]?).bind (·.dst), BK s.e (.tmp q), o.op)=(some (j, l), some d, true, some q, .r (.bool b), .move x))
 (u:AL P ops rest { e := (d, .whn (b==l) (BK s.e x))::s.e, h := s.h, n := s.n, N := s.N } K):AL P ops (o::rest) s K := by
  simp only[wA] at hg
  obtain⟨w, A, B, C, E, F⟩ := hg
  exact AL.stepW (.one w C E) A B (AR.spec (AK F (.inl rfl)) _) u
end
section
variable{P:Program}{ops:Array Oper}{rest:List Oper}{K:St→Prop}{o:Oper}{s:St}{d:Nat}{x y:Operand}
theorem one{v}(hg:o.guard=none)(hd:o.dst=some d)(j:Nat.blt d s.N=true)(l:AR P true o s.e s.h v)(q:AL P ops rest { e:=(d,v)::s.e,h:=s.h,n:=s.n,N:=s.N } K):AL P ops (o::rest) s K:=AL.step hg hd j (AR.spec l _) q
theorem xI{α:Type}{f}{t e}{sz b}{l:List α}{k}{z}{a}(q:Bj P t e sz b)(hg:(o.guard, o.dst, Nat.blt d s.N, o.op, BK s.e x, BK s.e y)=(none, some d, true, .indexAddr t x y, .r (.sl (l.map f)), .r (.int k z)))
 (u:AM l z=some a) (w:AL P ops rest { e := (d, .rop (f a) 0)::s.e, h := s.h, n := s.n, N := s.N } K) (j:∀a, (f a).length=sz := by intro _;rfl):AL P ops (o::rest) s K := by
  simp only[wA] at hg
  exact one hg.1 hg.2.1 hg.2.2.1 (Az hg.2.2.2.1 q.slice (.inl hg.2.2.2.2.1) (.inl hg.2.2.2.2.2) j λ_ => u) w
theorem xL{α:Type}{f}{t e}{sz b}{l:List α}(j:Bj P t e sz b)(hg:(o.guard, o.dst, Nat.blt d s.N, o.op, BK s.e x)=(none, some d, true, .call { callee := .builtin .len, args := #[x], argTypes := #[t] }, .r (.sl (l.map f))))
 (q:AL P ops rest { e := (d, .r (.int .i64 l.length))::s.e, h := s.h, n := s.n, N := s.N } K):AL P ops (o::rest) s K := by
  simp only[wA] at hg
  exact one hg.1 hg.2.1 hg.2.2.1 (Bk hg.2.2.2.1 j.slice (.inl hg.2.2.2.2)) q
theorem xA{t j}{k}{a b r}(hg:(o.guard, o.dst, Nat.blt d s.N, o.op, BK s.e x, BK s.e y)=(none, some d, true, .binOp .add t x y j, .r (.int k a), .r (.int k b)))
 (l:AN k (a+b)=some r) (q:AL P ops rest { e := (d, .r (.int k r))::s.e, h := s.h, n := s.n, N := s.N } K):AL P ops (o::rest) s K := by
  simp only[wA] at hg
  exact one hg.1 hg.2.1 hg.2.2.1 (Gh hg.2.2.2.1 (.inl hg.2.2.2.2.1) (.inl hg.2.2.2.2.2) λ_ => l) q
theorem xN{a b}(hg:(o.guard, o.dst, Nat.blt d s.N, o.op, BK s.e x, BK s.e y)=(none, some d, true, .pick x y (.const (.bool false)), .r (.bool a), .whn (a==true) (.r (.bool b))))
 (j:AL P ops rest { e := (d, .r (.bool (a&&b)))::s.e, h := s.h, n := s.n, N := s.N } K):AL P ops (o::rest) s K := by
  simp only[wA] at hg
  exact one hg.1 hg.2.1 hg.2.2.1 (BI hg.2.2.2.1 (.inl hg.2.2.2.2.1) (iR hg.2.2.2.2.2)) j
theorem xO{a b}(hg:(o.guard, o.dst, Nat.blt d s.N, o.op, BK s.e x, BK s.e y)=(none, some d, true, .pick x (.const (.bool true)) y, .r (.bool a), .whn (a==false) (.r (.bool b))))
 (j:AL P ops rest { e := (d, .r (.bool (a||b)))::s.e, h := s.h, n := s.n, N := s.N } K):AL P ops (o::rest) s K := by
  simp only[wA] at hg
  exact one hg.1 hg.2.1 hg.2.2.1 (CW hg.2.2.2.1 (.inl hg.2.2.2.2.1) (iR hg.2.2.2.2.2)) j
theorem xB{t}{row:List RV}{sz}(cs:List AV)(j:Bf P t sz)(hg:(o.guard, o.dst, Nat.blt d s.N, o.op, BK s.e x, row.length, row.map AV.r)=(none, some d, true, .load t x, .rop row 0, sz, cs))
 (l:AL P ops rest { e := (d, .agg cs)::s.e, h := s.h, n := s.n, N := s.N } K):AL P ops (o::rest) s K := by
  simp only[wA] at hg
  exact one hg.1 hg.2.1 hg.2.2.1 (Ci hg.2.2.2.1 j (.inl hg.2.2.2.2.1) hg.2.2.2.2.2.1 hg.2.2.2.2.2.2) l
theorem xC{t}{id g}{e}{sz}{cs:List AV}(j:Bf P t sz)(hg:(o.guard, o.dst, Nat.blt d s.N, o.op, BK s.e x, hget s.h id, cs.length)=(none, some d, true, .load t x, .ptr id g 0 0, some (.box g e cs), sz))
 (l:AL P ops rest { e := (d, .agg cs)::s.e, h := s.h, n := s.n, N := s.N } K):AL P ops (o::rest) s K := by
  simp only[wA] at hg
  exact one hg.1 hg.2.1 hg.2.2.1 (FT hg.2.2.2.1 j (.inl hg.2.2.2.2.1) hg.2.2.2.2.2.1 hg.2.2.2.2.2.2) l
theorem xV{t}{row}{k}(r:RV)(j:Bd P t)(hg:(o.guard, o.dst, Nat.blt d s.N, o.op, BK s.e x, row[k]?)=(none, some d, true, .load t x, .rop row k, some r))
 (l:AL P ops rest { e := (d, .r r)::s.e, h := s.h, n := s.n, N := s.N } K):AL P ops (o::rest) s K := by
  simp only[wA] at hg
  exact one hg.1 hg.2.1 hg.2.2.1 (Bc hg.2.2.2.1 j (.inl hg.2.2.2.2.1) hg.2.2.2.2.2) l
theorem xX{vs}{i}{a}(hg:(o.guard, o.dst, Nat.blt d s.N, o.op, BK s.e x, vs[i]?)=(none, some d, true, .extract x i, .tup vs, some a))
 (j:AL P ops rest { e := (d, a)::s.e, h := s.h, n := s.n, N := s.N } K):AL P ops (o::rest) s K := by
  simp only[wA] at hg
  exact one hg.1 hg.2.1 hg.2.2.1 (aB hg.2.2.2.1 (.inl hg.2.2.2.2.1) hg.2.2.2.2.2) j
theorem xS{t j}{k}{a b}(hg:(o.guard, o.dst, Nat.blt d s.N, o.op, BK s.e x, BK s.e y)=(none, some d, true, .binOp .lss t x y j, .r (.int k a), .r (.int k b)))
 (l:AL P ops rest { e := (d, .r (.bool (decide (a<b))))::s.e, h := s.h, n := s.n, N := s.N } K):AL P ops (o::rest) s K := by
  simp only[wA] at hg
  exact one hg.1 hg.2.1 hg.2.2.1 (B5 hg.2.2.2.1 (.inl hg.2.2.2.2.1) (.inl hg.2.2.2.2.2)) l
theorem xQ{t j}{k}{a b}(hg:(o.guard, o.dst, Nat.blt d s.N, o.op, BK s.e x, BK s.e y)=(none, some d, true, .binOp .eql t x y j, .r (.int k a), .r (.int k b)))
 (l:AL P ops rest { e := (d, .r (.bool (decide (a=b))))::s.e, h := s.h, n := s.n, N := s.N } K):AL P ops (o::rest) s K := by
  simp only[wA] at hg
  exact one hg.1 hg.2.1 hg.2.2.1 (Am hg.2.2.2.1 (.inl hg.2.2.2.2.1) (.inl hg.2.2.2.2.2)) l
theorem xU{t j}{k}{a b}(hg:(o.guard, o.dst, Nat.blt d s.N, o.op, BK s.e x, BK s.e y)=(none, some d, true, .binOp .neq t x y j, .r (.int k a), .r (.int k b)))
 (l:AL P ops rest { e := (d, .r (.bool (!(a=b))))::s.e, h := s.h, n := s.n, N := s.N } K):AL P ops (o::rest) s K := by
  simp only[wA] at hg
  exact one hg.1 hg.2.1 hg.2.2.1 (Ct hg.2.2.2.1 (.inl hg.2.2.2.2.1) (.inl hg.2.2.2.2.2)) l
end
theorem xH{ρ α:Type}{o:ρ}{v:α ⊕ ρ}{q:ρ}(j:∀q,v=.inr q→o=q)(h:some (.inr q)=some v):o=q:=j _ (wY h).symm
theorem aJ{P}{T r}{s:St}{t}(e:some T=some r)(h:get s.e t=rI T):Fd P [.tmp t] (rI r) .ret s:=DU (λr=>rI r) e (.inl rfl) (.t (.d h))
theorem dZ{P}{T r}{s:St}{t}(e:some T=some r)(h:get s.e t=rB T):Fd P [.tmp t] (rB r) .ret s:=DU (λr=>rB r) e (.inl rfl) (.t (.d h))
theorem zI{P}{T r}{s:St}{t id}{x}{o:Oper}{Q}(e:some T=some r)(h:(o.guard, o.dst, Nat.blt t s.N, o.op, BK s.e x)=(none, some t, true, .assign x, rI T))
 (k:Fd P [.tmp t] (rI r) .ret { e := (t, BK s.e x)::s.e, h := s.h, n := s.n, N := s.N } → Q .ret { e := (t, BK s.e x)::s.e, h := s.h, n := s.n, N := s.N }):AW P (.seq (.region id [o].toArray false) .ret) Q s := by
  simp only[wA] at h
  refine aU (AL.step h.1 h.2.1 h.2.2.1 (AR.spec (Dj h.2.2.2.1 (.inl rfl)) _) (AL.nil (AW.ret (k (aJ e ?_)))))
  show get (_::_) t=_
  unfold get
  rw[zk]
  exact h.2.2.2.2
theorem zB{P}{T r}{s:St}{t id}{x}{o:Oper}{Q}(e:some T=some r)(h:(o.guard, o.dst, Nat.blt t s.N, o.op, BK s.e x)=(none, some t, true, .assign x, rB T))
 (k:Fd P [.tmp t] (rB r) .ret { e := (t, BK s.e x)::s.e, h := s.h, n := s.n, N := s.N } → Q .ret { e := (t, BK s.e x)::s.e, h := s.h, n := s.n, N := s.N }):AW P (.seq (.region id [o].toArray false) .ret) Q s := by
  simp only[wA] at h
  refine aU (AL.step h.1 h.2.1 h.2.2.1 (AR.spec (Dj h.2.2.2.1 (.inl rfl)) _) (AL.nil (AW.ret (k (dZ e ?_)))))
  show get (_::_) t=_
  unfold get
  rw[zk]
  exact h.2.2.2.2
@[reducible] def rL{α:Type}(l:List α):AV:=rI (l.length:Int)
@[reducible] def rS(l:List UInt8):AV:=.r (.str l)
abbrev NN:=Nat→Nat
open Go.WideShapes
section
variable{H:Type}(K:Gi H){enc:TypeId × Value→H}{P:Program}{W:World}
theorem Y2{t:TypeId}{A:Array Field}{α:Type}{f:α→List RV}{ok:α→Prop}{μ:α→Nat}{v:Value}{d:DataW H}{p:List MemPlace}{r:Reach}{b0:Nat}(B:P.underlying t=some (.struct A))(C:BY K enc P W t f ok μ)
  (j:Value.okWide P W r b0 t v) (h:DataW.Trod enc P W 0 (λ_=>true) true t v d p):∃a,ok a∧AP (Cx.start W) (.agg ((f a).map .r)) v∧μ a≤K.B d:=by
 obtain⟨O,rfl,_⟩:=okWide_struct B j
 obtain⟨l,E⟩:=h
 obtain⟨a,F,q,I⟩:=C l _ _ E
 refine⟨a,F,.agg ?_ λi c u w J=>?_,I⟩
 ·have:=q.1
  rw[v7,← this];rfl
 ·rw[wD,v8] at w
  obtain⟨M,hd,rfl⟩:=w
  exact .r (q.2 i M u hd (by rw[← J];exact w0))
end
end Go.Proofs.YtgcalnmhoifpoaaGreatDoor.Al

namespace Go.Proofs.YtgcalnmhoifpoaaGreatDoor.Al
open Go.Lib
theorem ZZ{W:World}{g}{row}(h:∀j d,row[j]?=some d→∃v,W.cell? ⟨g,j,none⟩=some v∧BE W (· < W.heap.size) d v):AP (Cx.start W) (.rop row 0) (.pointer (some ⟨g,0,none⟩)):=by
 have u:row≠[]→g<W.heap.size:=by
  intro w
  obtain⟨d,hd⟩:∃d,row[0]?=some d:=by
   cases row with
   | nil=>exact absurd rfl w
   | cons d r=>exact⟨d,rfl⟩
  obtain⟨v,l,_⟩:=h 0 d hd
  unfold World.cell? at l
  rcases yQ g W.heap.size with q | q
  ·exact q
  ·rw[zA q] at l;cases l
 exact AP.rop (x:=Cx.start W) (row:=row) (k:=0) (b:=g) (off:=0) (λj=>(W.cell? ⟨g,j,none⟩).getD undef) u
  (λj d A=>by obtain⟨v,l,_⟩:=h j d A;rw[wK];show W.cell? _=_;rw[l];rfl)
  (λj d A=>by obtain⟨v,l,q⟩:=h j d A;rw[l];exact q)
theorem gA{α β:Type}(f:α→β):∀(l:List α) (j:Nat),(l.flatMap λz=>[f z])[j]?=(l[j]?).map f
 | [],j=>by simp
 | x::l,0=>by simp
 | x::l,j+1=>by
  have:=gA f l j
  rw[y8,zP,yA,this,yA]
theorem fN{α β:Type}(f g:α→β):∀(l:List α) (j:Nat) (d:β),(l.flatMap λz=>[f z,g z])[j]?=some d→∃i a,l[i]?=some a∧((j=2 * i∧d=f a)∨(j=2 * i+1∧d=g a))
 | [],j,d,h=>by simp at h
 | x::l,0,d,h=>by
  have:f x=d:=by simpa using h
  exact⟨0,x,rfl,.inl ⟨rfl,this.symm⟩⟩
 | x::l,1,d,h=>by
  have:g x=d:=by simpa using h
  exact⟨0,x,rfl,.inr ⟨rfl,this.symm⟩⟩
 | x::l,j+2,d,h=>by
  rw[y8] at h
  have w:(l.flatMap λz=>[f z,g z])[j]?=some d:=by simpa using h
  obtain⟨i,a,A,q⟩:=fN f g l j d w
  refine⟨i+1,a,by simpa using A,?_⟩
  rcases q with ⟨q,u⟩ | ⟨q,u⟩
  ·exact .inl ⟨by omega,u⟩
  ·exact .inr ⟨by omega,u⟩
theorem my {P : Program} {W : World} {d1 d2 : DataW Unit} {t1 t2 e1 e2 : TypeId} {fs : Array Field} (h1 : VarReads P W "unicode/utf8.first" d1) (hd1 : d1 = tabData .u8 GK) (n1 : P.globalNamed "unicode/utf8.first" = some Ii)
  (y1:(P.globals[Ii]?).map (·.type)=some t1) (u1:P.underlying t1=some (.array 256 e1)) (ue:P.underlying e1=some (.int .u8)) (ce:P.cellsOf e1=1) (ct:P.cellsOf t1=256)
  (h2 : VarReads P W "unicode/utf8.acceptRanges" d2) (hd2 : d2 = .agg (JJ.map fun p => .agg ([p.1, p.2].map fun z => .lit (.int .u8 z)))) (n2 : P.globalNamed "unicode/utf8.acceptRanges" = some IP)
  (y2:(P.globals[IP]?).map (·.type)=some t2) (u2:P.underlying t2=some (.array 16 e2)) (us:P.underlying e2=some (.struct fs)) (hfs:∀(i:Nat) (f:Field),fs[i]?=some f→P.underlying f.type=some (.int .u8)∧f.offset=i∧P.cellsOf f.type=1)
  (hsz:fs.size=2) (c2:P.cellsOf e2=2)
  (hw:∀g cs,ef g=some cs→0<cs.size∧∃t p,W.heap[g]?=some (.cells cs t p):=by intro _ _ h;cases h) (hF:W4 W:=by trivial):F6 (Cx.start W):=by
 refine⟨λg row hg=>?_,λg cs hg=>⟨?_,hw g cs hg⟩,W,hF,Go.RowKit.Below.refl _ _,λ_ h=>h⟩
 rotate_left
 ·obtain⟨_,t,p,h⟩:=hw g cs hg
  show g<W.heap.size
  exact(wm.1 h).1
 unfold H8 at hg
 by_cases hF:g=Ii
 ·rw[vh hF] at hg
  cases hg
  subst hF
  obtain⟨g,t,cs,fuel,p,hg,hty,hvar,hd⟩:=h1
  obtain rfl:=wY (n1.symm.trans hg)
  obtain rfl:=wY (y1.symm.trans hty)
  subst hd1
  have hcs:=cells_of_tab u1 ue ce ct hd
  refine ZZ λj d hj=>?_
  rw[gA,v8] at hj
  obtain⟨z,hz,rfl⟩:=hj
  refine⟨.int .u8 z,?_,.int _ _⟩
  rw[World.var?_cell hg hvar j,← w0,hcs,wD,hz];rfl
 ·rw[vg hF] at hg
  by_cases hA:g=IP
  ·rw[vh hA] at hg
   cases hg
   subst hA
   obtain⟨g,t,cs,fuel,p,hg,hty,hvar,hd⟩:=h2
   obtain rfl:=wY (n2.symm.trans hg)
   obtain rfl:=wY (y2.symm.trans hty)
   subst hd2
   refine ZZ λj d hj=>?_
   obtain⟨i,a,hi,hja⟩:=fN _ _ _ _ _ hj
   have hil:i<16:=(vl.1 hi).1
   obtain⟨fuel',d',q,hdi,he⟩:=array_elem u2 hd i hil
   rw[wD,hi] at hdi
   cases hdi
   rw[c2] at he
   have hcs:=ints_of_struct us hfs (by rw[c2,hsz]) he
   have e0:=yC (·[0]?) hcs
   have e1:=yC (·[1]?) hcs
   simp only[wW,xJ] at e0 e1
   rcases hja with ⟨rfl,rfl⟩ | ⟨rfl,rfl⟩
   ·refine⟨.int .u8 a.1,?_,.int _ _⟩
    rw[World.var?_cell hg hvar (2 * i),← w0]
    simpa[yH] using e0
   ·refine⟨.int .u8 a.2,?_,.int _ _⟩
    rw[World.var?_cell hg hvar (2 * i+1),← w0]
    simpa[yH] using e1
  ·rw[vg hA] at hg;cases hg
end Go.Proofs.YtgcalnmhoifpoaaGreatDoor.Al
