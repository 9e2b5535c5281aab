/- Models, as printed. -/
import Derived.Test.YtifgmfoihehlbaaGreatDoorAl3
set_option linter.all false
namespace Go.Proofs.YtifgmfoihehlbaaGreatDoor.Al
noncomputable section
structure Kd where
 Kind:Int
 N:Int
deriving DecidableEq
instance:Inhabited Kd:=⟨⟨0,0⟩⟩
structure fc where
 steps:List Kd
 used:Int
deriving DecidableEq
instance:Inhabited fc:=⟨⟨[],0⟩⟩
structure Vw where
 out:List Kd
 add:Int
 cut:Int
deriving DecidableEq
instance:Inhabited Vw:=⟨⟨[],0,0⟩⟩
structure AG where
 Name:List UInt8
 Value:List UInt8
deriving DecidableEq
instance:Inhabited AG:=⟨⟨[],[]⟩⟩
@[reducible] def AG.row(x:AG):List RV:=[.str x.Name,.str x.Value]
structure AN where
 Char:Int
 Ref:Int
 Attrs:List AG
deriving DecidableEq
instance:Inhabited AN:=⟨⟨0,0,[]⟩⟩
@[reducible] def AN.row(x:AN):List RV:=[.int .i64 x.Char,.int .i64 x.Ref,.sl (x.Attrs.map AG.row)]
structure An where
 Row:Int
 Col:Int
 Text:List UInt8
 Ref:Int
 Attrs:List AG
deriving DecidableEq
instance:Inhabited An:=⟨⟨0,0,[],0,[]⟩⟩
@[reducible] def An.row(x:An):List RV:=[.int .i64 x.Row,.int .i64 x.Col,.str x.Text,.int .i64 x.Ref,.sl (x.Attrs.map AG.row)]
structure Ap where
 Row:Int
 Col:Int
 H:Int
 W:Int
deriving DecidableEq
instance:Inhabited Ap:=⟨⟨0,0,0,0⟩⟩
@[reducible] def Ap.row(x:Ap):List RV:=[.int .i64 x.Row,.int .i64 x.Col,.int .i64 x.H,.int .i64 x.W]
structure Av where
 Rows:Int
 Cols:Int
 Cells:List An
 Merges:List Ap
deriving DecidableEq
instance:Inhabited Av:=⟨⟨0,0,[],[]⟩⟩
@[reducible] def Av.row(x:Av):List RV:=[.int .i64 x.Rows,.int .i64 x.Cols,.sl (x.Cells.map An.row),.sl (x.Merges.map Ap.row)]
structure Aw where
 Clock:Int
 Site:Int
 Kind:Int
 Item:Int
 Parent:Int
 Place:List UInt8
 Name:List UInt8
 Value:List UInt8
deriving DecidableEq
instance:Inhabited Aw:=⟨⟨0,0,0,0,0,[],[],[]⟩⟩
@[reducible] def Aw.row(x:Aw):List RV:=[.int .i64 x.Clock,.int .i64 x.Site,.int .i64 x.Kind,.int .i64 x.Item,.int .i64 x.Parent,.str x.Place,.str x.Name,.str x.Value]
structure AO where
 ID:Int
 Kind:Int
 Attrs:List AG
 Flow:List AN
 Grid:Av
 Draw:List Aw
deriving DecidableEq
instance:Inhabited AO:=⟨⟨0,0,[],[],(Av.mk 0 0 [] []),[]⟩⟩
@[reducible] def AO.row(x:AO):List RV:=[.int .i64 x.ID,.int .i64 x.Kind,.sl (x.Attrs.map AG.row),.sl (x.Flow.map AN.row),.int .i64 x.Grid.Rows,.int .i64 x.Grid.Cols,.sl (x.Grid.Cells.map An.row),.sl (x.Grid.Merges.map Ap.row),.sl (x.Draw.map Aw.row)]
structure GStep where
 Kind:Int
 N:Int
 Attrs:List AG
 Elems:List AN
deriving DecidableEq
instance:Inhabited GStep:=⟨⟨0,0,[],[]⟩⟩
structure OH where
 Rows:List Kd
 Cols:List Kd
 Cells:List An
 Split:List Ap
 Merge:List Ap
deriving DecidableEq
instance:Inhabited OH:=⟨⟨[],[],[],[],[]⟩⟩
structure YD where
 Kind:Int
 Node:Int
 New:AO
 Attrs:List AG
 Steps:List GStep
 Grid:OH
 Draw:List Aw
deriving DecidableEq
instance:Inhabited YD:=⟨⟨0,0,(AO.mk 0 0 [] [] (Av.mk 0 0 [] []) []),[],[],(OH.mk [] [] [] [] []),[]⟩⟩
structure kc where
 Site:Int
 Number:Int
 Change:List YD
 Undoes:Int
 Refused:Int
deriving DecidableEq
instance:Inhabited kc:=⟨⟨0,0,[],0,0⟩⟩
structure fp where
 From:Int
 To:Int
deriving DecidableEq
instance:Inhabited fp:=⟨⟨0,0⟩⟩
def DF(m:Int)(l:Int)(j:Int):Option (Bool):=
 some ((l≤m)&&(m≤j))
def Ll(l:List UInt8)(j:Int):Option (Int ⊕ (Ax Unit Bool)):=
 if(decide (j<(l.length:Int))) then(
 AB (AL l j) λ(c1:UInt8)=>
 if((((((c1.toNat:Int)<97)||(122<(c1.toNat:Int)))&&(((c1.toNat:Int)<48)||(57<(c1.toNat:Int))))&&(!((c1.toNat:Int)=46)))&&(!((c1.toNat:Int)=45))) then(
 some (.inr (.ext false))
 ) else(
 AB (AZ .i64 (j+1)) λ(m:Int)=>
 some (.inl m)
 )
 ) else(
 some (.inr (.nrm ()))
 )
def LZ(j:List UInt8):Option (Bool):=
 AB (gd (((j=[])||(24<(j.length:Int)))==false) (AL j 0)) λ(l:UInt8)=>
 AB (gd ((((j=[])||(24<(j.length:Int)))||((l.toNat:Int)<97))==false) (AL j 0)) λ(m:UInt8)=>
 if((((j=[])||(24<(j.length:Int)))||((l.toNat:Int)<97))||(122<(m.toNat:Int))) then(
 some false
 ) else(
 A7 (iter (λ(a:Int)=>Ll j a) 0) λ(q:Unit)=>
 some true
 )
def N2(m:List UInt8)(l:Int):Option (Int ⊕ (Ax Unit Bool)):=
 if(decide (l<(m.length:Int))) then(
 AB (AL m l) λ(j:UInt8)=>
 if(((j.toNat:Int)<32)||(126<(j.toNat:Int))) then(
 some (.inr (.ext false))
 ) else(
 AB (AZ .i64 (l+1)) λ(q:Int)=>
 some (.inl q)
 )
 ) else(
 some (.inr (.nrm ()))
 )
def MG(j:List UInt8):Option (Bool):=
 if((j=[])||(200<(j.length:Int))) then(
 some false
 ) else(
 A7 (iter (λ(a:Int)=>N2 j a) 0) λ(l:Unit)=>
 some true
 )
def L9(q:List AG)(j:Bool)(l:Int):Option (Int ⊕ (Ax Unit Int)):=
 if(decide (l<(q.length:Int))) then(
 AB (AL q l) λ(m:AG)=>
 AB (LZ m.Name) λ(A:Bool)=>
 if(!A) then(
 some (.inr (.ext 9))
 ) else(
 AB (MG m.Value) λ(B:Bool)=>
 if((!B)&&(!(j&&(m.Value=[])))) then(
 some (.inr (.ext 23))
 ) else(
 AB (gd ((decide (0<l))==true) (AZ .i64 (l-1))) λ(C:Int)=>
 AB (gd ((decide (0<l))==true) (AL q C)) λ(w:AG)=>
 if((0<l)&&(Ay m.Name w.Name||(m.Name=w.Name))) then(
 some (.inr (.ext 5))
 ) else(
 AB (AZ .i64 (l+1)) λ(E:Int)=>
 some (.inl E)
 )
 )
 )
 ) else(
 some (.inr (.nrm ()))
 )
def N7(l:List AG)(j:Bool):Option (Int):=
 A7 (iter (λ(a:Int)=>L9 l j a) 0) λ(m:Unit)=>
 some 0
def I3(j:List AG):Option (Int):=
 AB (N7 j false) λ(l:Int)=>
 some l
def KK(c1:List AG)(l:AG)(j:AG):Option ((List AG)):=
 if(decide (j.Name=[])) then(
 AB (app 32 c1 [l]) λ(m:List AG)=>
 some m
 ) else(
 if(!(j.Value=[])) then(
 AB (app 32 c1 [j]) λ(q:List AG)=>
 some q
 ) else(
 some c1
 )
 )
def Ot(l:List AG)(b1:List AG)(j:Int)(m:Int)(o2:List AG):Option ((Int × Int × (List AG)) ⊕ (Ax Unit (List AG))):=
 if((j<(l.length:Int))||(m<(b1.length:Int))) then(
 AB (gd (((decide (m=(b1.length:Int)))==false)&&((decide (j<(l.length:Int)))==true)) (AL l j)) λ(w:AG)=>
 AB (gd (((decide (m=(b1.length:Int)))==false)&&((decide (j<(l.length:Int)))==true)) (AL b1 m)) λ(A:AG)=>
 if((m=(b1.length:Int))||((j<(l.length:Int))&&(Ay w.Name A.Name))) then(
 AB (AL l j) λ(B:AG)=>
 AB (KK o2 B (AG.mk [] [])) λ(C:List AG)=>
 AB (AZ .i64 (j+1)) λ(E:Int)=>
 some (.inl (E,m,C))
 ) else(
 AB (gd ((decide (j=(l.length:Int)))==false) (AL b1 m)) λ(F:AG)=>
 AB (gd ((decide (j=(l.length:Int)))==false) (AL l j)) λ(I:AG)=>
 if((j=(l.length:Int))||(Ay F.Name I.Name)) then(
 AB (AL b1 m) λ(J:AG)=>
 AB (KK o2 (AG.mk [] []) J) λ(M:List AG)=>
 AB (AZ .i64 (m+1)) λ(O:Int)=>
 some (.inl (j,O,M))
 ) else(
 AB (AL l j) λ(T:AG)=>
 AB (AL b1 m) λ(U:AG)=>
 AB (KK o2 T U) λ(V:List AG)=>
 AB (AZ .i64 (j+1)) λ(q:Int)=>
 AB (AZ .i64 (m+1)) λ(X:Int)=>
 some (.inl (q,X,V))
 )
 )
 ) else(
 some (.inr (.ext o2))
 )
def Pb(c1:List AG)(j:List AG)(b1:List AG):Option ((List AG)):=
 A7 (iter (λ(a:Int × Int × (List AG))=>Ot j b1 a.1 a.2.1 a.2.2) (0,0,c1)) λ(l:Unit)=>
 none
def MM(l:List AG)(j:List AG):Option ((List AG)):=
 AB (Pb [] l j) λ(m:List AG)=>
 some m
def Ou(l:List AG)(b1:List AG)(j:Int):Option (Int ⊕ (Ax Unit Bool)):=
 if(decide (j<(l.length:Int))) then(
 AB (AL l j) λ(m:AG)=>
 AB (AL b1 j) λ(q:AG)=>
 if(!((m.Name=q.Name)&&((m.Value=q.Value)&&true))) then(
 some (.inr (.ext false))
 ) else(
 AB (AZ .i64 (j+1)) λ(w:Int)=>
 some (.inl w)
 )
 ) else(
 some (.inr (.nrm ()))
 )
def LM(j:List AG)(b1:List AG):Option (Bool):=
 if(!((j.length:Int)=(b1.length:Int))) then(
 some false
 ) else(
 A7 (iter (λ(a:Int)=>Ou j b1 a) 0) λ(l:Unit)=>
 some true
 )
def Lx(m:List UInt8)(l:Int):Option (Int ⊕ (Ax Unit Bool)):=
 if(decide (l<(m.length:Int))) then(
 AB (AL m l) λ(j:UInt8)=>
 if((!((97≤(j.toNat:Int))&&((j.toNat:Int)≤122)))&&((l=0)||(((!((j.toNat:Int)=46))&&(!((j.toNat:Int)=45)))&&(((j.toNat:Int)<48)||(57<(j.toNat:Int)))))) then(
 some (.inr (.ext false))
 ) else(
 AB (AZ .i64 (l+1)) λ(q:Int)=>
 some (.inl q)
 )
 ) else(
 some (.inr (.nrm ()))
 )
def Mi(j:List UInt8):Option (Bool):=
 A7 (iter (λ(a:Int)=>Lx j a) 0) λ(l:Unit)=>
 some ((1≤(j.length:Int))&&((j.length:Int)≤24))
def PQ(m:List UInt8)(l:Int):Option (Int ⊕ (Ax Unit Bool)):=
 if(decide (l<(m.length:Int))) then(
 AB (AL m l) λ(j:UInt8)=>
 if(((j.toNat:Int)<32)||(126<(j.toNat:Int))) then(
 some (.inr (.ext false))
 ) else(
 AB (AZ .i64 (l+1)) λ(q:Int)=>
 some (.inl q)
 )
 ) else(
 some (.inr (.nrm ()))
 )
def MF(j:List UInt8):Option (Bool):=
 A7 (iter (λ(a:Int)=>PQ j a) 0) λ(l:Unit)=>
 some ((1≤(j.length:Int))&&((j.length:Int)≤200))
def LN(q:List AG)(j:Bool)(l:Int):Option (Int ⊕ (Ax Unit Int)):=
 if(decide (l<(q.length:Int))) then(
 AB (AL q l) λ(m:AG)=>
 AB (Mi m.Name) λ(w:Bool)=>
 if(!w) then(
 some (.inr (.ext 9))
 ) else(
 AB (MF m.Value) λ(A:Bool)=>
 if((!A)&&((!(m.Value=[]))||(!j))) then(
 some (.inr (.ext 23))
 ) else(
 AB (gd ((decide (0<l))==true) (AZ .i64 (l-1))) λ(B:Int)=>
 AB (gd ((decide (0<l))==true) (AL q B)) λ(C:AG)=>
 if((0<l)&&(!Ay C.Name m.Name)) then(
 some (.inr (.ext 5))
 ) else(
 AB (AZ .i64 (l+1)) λ(E:Int)=>
 some (.inl E)
 )
 )
 )
 ) else(
 some (.inr (.nrm ()))
 )
def Kl(l:List AG)(j:Bool):Option (Int):=
 A7 (iter (λ(a:Int)=>LN l j a) 0) λ(m:Unit)=>
 some 0
def Ng(m:List AG)(j:List UInt8)(l:Int):Option (Int ⊕ (Ax Unit (List UInt8))):=
 if(decide (l<(m.length:Int))) then(
 AB (AL m l) λ(q:AG)=>
 if(decide (q.Name=j)) then(
 some (.inr (.ext q.Value))
 ) else(
 AB (AZ .i64 (l+1)) λ(w:Int)=>
 some (.inl w)
 )
 ) else(
 some (.inr (.nrm ()))
 )
def It(l:List AG)(j:List UInt8):Option ((List UInt8)):=
 A7 (iter (λ(a:Int)=>Ng l j a) 0) λ(m:Unit)=>
 some []
def OV(m:List AG)(j:List UInt8)(l:Int):Option (Int ⊕ (Ax Unit (List UInt8))):=
 if(decide (l<(m.length:Int))) then(
 AB (AL m l) λ(q:AG)=>
 if(decide (q.Name=j)) then(
 some (.inr (.ext q.Value))
 ) else(
 AB (AZ .i64 (l+1)) λ(w:Int)=>
 some (.inl w)
 )
 ) else(
 some (.inr (.nrm ()))
 )
def Jv(l:List AG)(j:List UInt8):Option ((List UInt8)):=
 A7 (iter (λ(a:Int)=>OV l j a) 0) λ(m:Unit)=>
 some []
def NY(F:List AG)(I:AG)(j:Bool)(E:Int)(l:List AG):Option ((Bool × Int × (List AG)) ⊕ (Bool × (List AG))):=
 if(decide (E<(F.length:Int))) then(
 CE (
 AB (gd ((!j)==true) (AL F E)) λ(M:AG)=>
 CE (
 if((!j)&&(!Ay M.Name I.Name)) then(
 AB (app 32 l [I]) λ(w:List AG)=>
 some (true,w)
 ) else(
 some (j,l)
 )
 ) λ(m:Bool) (q:List AG)=>
 AB (AL F E) λ(J:AG)=>
 if(!(J.Name=I.Name)) then(
 AB (app 32 q [J]) λ(B:List AG)=>
 some (m,B)
 ) else(
 some (m,q)
 )
 ) λ(A:Bool) (C:List AG)=>
 AB (AZ .i64 (E+1)) λ(O:Int)=>
 some (.inl (A,O,C))
 ) else(
 some (.inr (j,l))
 )
def Km(A:List AG)(w:AG):Option ((List AG)):=
 CE (iter (λ(a:Bool × Int × (List AG))=>NY A w a.1 a.2.1 a.2.2) (false,0,[])) λ(l:Bool) (j:List AG)=>
 AB (
 if(!l) then(
 AB (app 32 j [w]) λ(m:List AG)=>
 some m
 ) else(
 some j
 )
 ) λ(q:List AG)=>
 some q
def Mt(l:List AG)(A:Int)(j:List AG):Option ((Int × (List AG)) ⊕ (List AG)):=
 if(decide (A<(l.length:Int))) then(
 AB (
 AB (AL l A) λ(w:AG)=>
 if(!(w.Value=[])) then(
 AB (app 32 j [w]) λ(m:List AG)=>
 some m
 ) else(
 some j
 )
 ) λ(q:List AG)=>
 AB (AZ .i64 (A+1)) λ(B:Int)=>
 some (.inl (B,q))
 ) else(
 some (.inr j)
 )
def OQ(j:List AG)(l:List AG)(q:Int):Option (((List AG) × Int) ⊕ (List AG)):=
 if(decide (q<(j.length:Int))) then(
 AB (AL j q) λ(w:AG)=>
 AB (Km l w) λ(m:List AG)=>
 AB (AZ .i64 (q+1)) λ(A:Int)=>
 some (.inl (m,A))
 ) else(
 some (.inr l)
 )
def NU(A:List AG)(j:List AG)(m:Int):Option (((List AG) × Int) ⊕ (List AG)):=
 if(decide (m<(A.length:Int))) then(
 AB (AL A m) λ(q:AG)=>
 AB (Km j q) λ(l:List AG)=>
 AB (AZ .i64 (m+1)) λ(w:Int)=>
 some (.inl (l,w))
 ) else(
 some (.inr j)
 )
def Lw(w:List AG)(j:List AG):Option ((List AG)):=
 AB (iter (λ(a:(List AG) × Int)=>NU w a.1 a.2) ([],0)) λ(m:List AG)=>
 AB (iter (λ(a:(List AG) × Int)=>OQ j a.1 a.2) (m,0)) λ(q:List AG)=>
 AB (iter (λ(a:Int × (List AG))=>Mt q a.1 a.2) (0,[])) λ(l:List AG)=>
 some l
def L7:Option (AN):=
 some (AN.mk 10 0 [])
def Mn(c1:Int):Option (Bool):=
 some (((((c1=9)||(c1=10))||((32≤c1)&&(c1<127)))||((160≤c1)&&(c1<55296)))||((57343<c1)&&(c1≤1114111)))
def OJ(j:AN):Option (Int):=
 if((!(j.Char=0))==(!(j.Ref=0))) then(
 some 4
 ) else(
 AB (gd ((decide (j.Ref=0))==true) (Mn j.Char)) λ(l:Bool)=>
 AB (
 if((j.Ref=0)&&(!l)) then(
 some ((j.Ref=0)&&(!l))
 ) else(
 some ((!(j.Ref=0))&&((j.Ref<1)||(1073741824<j.Ref)))
 )
 ) λ(m:Bool)=>
 if m then(
 some 2
 ) else(
 AB (I3 j.Attrs) λ(q:Int)=>
 some q
 )
 )
def OU(l:AN)(j:Int):Option (Bool):=
 AB (It l.Attrs [104,105,100,100,101,110]) λ(m:List UInt8)=>
 AB (gd (((decide (m=[111,110]))==false)&&((decide (j=0))==true)) (It l.Attrs [99,117,116])) λ(q:List UInt8)=>
 AB (gd ((((m=[111,110])||((j=0)&&(!(q=[]))))==false)&&((decide (j=1))==true)) (It l.Attrs [97,100,100])) λ(w:List UInt8)=>
 some (((m=[111,110])||((j=0)&&(!(q=[]))))||((j=1)&&(!(w=[]))))
def Mq(A:List AN)(l:Int)(m:Int)(j:List Int):Option ((Int × (List Int)) ⊕ (List Int)):=
 if(decide (m<(A.length:Int))) then(
 AB (
 AB (AL A m) λ(B:AN)=>
 AB (OU B l) λ(C:Bool)=>
 AB (gd ((!C)==false) (AZ .i64 ((A.length:Int)-1))) λ(E:Int)=>
 if((!C)||((m=E)&&(B.Char=10))) then(
 AB (app 8 j [m]) λ(q:List Int)=>
 some q
 ) else(
 some j
 )
 ) λ(w:List Int)=>
 AB (AZ .i64 (m+1)) λ(F:Int)=>
 some (.inl (F,w))
 ) else(
 some (.inr j)
 )
def PV(m:List AN)(j:Int):Option ((List Int)):=
 AB (iter (λ(a:Int × (List Int))=>Mq m j a.1 a.2) (0,[])) λ(l:List Int)=>
 some l
def Mp(c1:Int):Option (Bool):=
 AB (gd (((c1=9)||(c1=10))==false) (DF c1 32 126)) λ(j:Bool)=>
 AB (gd ((((c1=9)||(c1=10))||j)==false) (DF c1 160 55295)) λ(l:Bool)=>
 AB (gd (((((c1=9)||(c1=10))||j)||l)==false) (DF c1 57344 1114111)) λ(m:Bool)=>
 some (((((c1=9)||(c1=10))||j)||l)||m)
def M3(j:AN):Option (Int):=
 if(((j.Char=0)&&(j.Ref=0))||((!(j.Char=0))&&(!(j.Ref=0)))) then(
 some 4
 ) else(
 AB (gd ((!(j.Char=0))==true) (Mp j.Char)) λ(l:Bool)=>
 AB (gd ((((!(j.Char=0))&&(!l))==false)&&((!(j.Ref=0))==true)) (DF j.Ref 1 1073741824)) λ(m:Bool)=>
 if(((!(j.Char=0))&&(!l))||((!(j.Ref=0))&&(!m))) then(
 some 2
 ) else(
 AB (Kl j.Attrs false) λ(q:Int)=>
 some q
 )
 )
def Nz(m:List AG)(j:List UInt8)(l:Int):Option (Int ⊕ (Ax Unit Bool)):=
 if(decide (l<(m.length:Int))) then(
 AB (AL m l) λ(q:AG)=>
 if(decide (q.Name=j)) then(
 some (.inr (.ext true))
 ) else(
 AB (AZ .i64 (l+1)) λ(w:Int)=>
 some (.inl w)
 )
 ) else(
 some (.inr (.nrm ()))
 )
def LS(l:List AG)(j:List UInt8):Option (Bool):=
 A7 (iter (λ(a:Int)=>Nz l j a) 0) λ(m:Unit)=>
 some false
def La(C:List AN)(j:Int)(q:Int)(l:List Int):Option ((Int × (List Int)) ⊕ (List Int)):=
 if(decide (q<(C.length:Int))) then(
 AB (
 AB (AL C q) λ(B:AN)=>
 AB (Jv B.Attrs [104,105,100,100,101,110]) λ(F:List UInt8)=>
 AB (gd ((decide (j=0))==true) (LS B.Attrs [99,117,116])) λ(E:Bool)=>
 AB (gd ((((j=0)&&E)==false)&&((decide (j=1))==true)) (LS B.Attrs [97,100,100])) λ(I:Bool)=>
 AB (
 if(((j=0)&&E)||((j=1)&&I)) then(
 some false
 ) else(
 some (!(F=[111,110]))
 )
 ) λ(m:Bool)=>
 AB (gd (m==false) (AZ .i64 ((C.length:Int)-1))) λ(J:Int)=>
 if(m||((q=J)&&(B.Char=10))) then(
 AB (app 8 l [q]) λ(w:List Int)=>
 some w
 ) else(
 some l
 )
 ) λ(A:List Int)=>
 AB (AZ .i64 (q+1)) λ(M:Int)=>
 some (.inl (M,A))
 ) else(
 some (.inr l)
 )
def Np(m:List AN)(j:Int):Option ((List Int)):=
 AB (iter (λ(a:Int × (List Int))=>La m j a.1 a.2) (0,[])) λ(l:List Int)=>
 some l
def N9(l:List AG)(b1:List AG)(j:Int):Option (Int ⊕ (Ax Unit Bool)):=
 if(decide (j<(l.length:Int))) then(
 AB (AL l j) λ(m:AG)=>
 AB (AL b1 j) λ(q:AG)=>
 if(!((m.Name=q.Name)&&((m.Value=q.Value)&&true))) then(
 some (.inr (.ext false))
 ) else(
 AB (AZ .i64 (j+1)) λ(w:Int)=>
 some (.inl w)
 )
 ) else(
 some (.inr (.nrm ()))
 )
def Jx(j:List AG)(b1:List AG):Option (Bool):=
 if(!((j.length:Int)=(b1.length:Int))) then(
 some false
 ) else(
 A7 (iter (λ(a:Int)=>N9 j b1 a) 0) λ(l:Unit)=>
 some true
 )
end
noncomputable section
structure eO where
 Adds:List (List AN)
 Cuts:List Bool
 Attrs:List (List AG)
deriving DecidableEq
instance:Inhabited eO:=⟨⟨[],[],[]⟩⟩
end
noncomputable section
end
noncomputable section
structure bX where
 steps:List GStep
 used:Int
deriving DecidableEq
instance:Inhabited bX:=⟨⟨[],0⟩⟩
structure jW where
 out:List GStep
 add:List AN
 cut:Int
deriving DecidableEq
instance:Inhabited jW:=⟨⟨[],[],0⟩⟩
def JC(q:List AN)(l:Int)(j:List AN):Option ((Int × (List AN)) ⊕ (List AN)):=
 if(decide (l<(q.length:Int))) then(
 AB (AL q l) λ(m:AN)=>
 AB (app 32 [] m.Attrs) λ(w:List AG)=>
 AB (AL j l) λ(B:AN)=>
 AB (AZ .i64 (l+1)) λ(A:Int)=>
 some (.inl (A,(j.set l.toNat (AN.mk m.Char m.Ref w))))
 ) else(
 some (.inr j)
 )
def PG(m:List AN):Option ((List AN)):=
 AB (mk 40 (m.length:Int) (AN.mk 0 0 [])) λ(j:List AN)=>
 AB (iter (λ(a:Int × (List AN))=>JC m a.1 a.2) (0,j)) λ(l:List AN)=>
 some l
def M9(j:AN)(b1:AN):Option (Bool):=
 AB (gd (((j.Char=b1.Char)&&(j.Ref=b1.Ref))==true) (LM j.Attrs b1.Attrs)) λ(l:Bool)=>
 some (((j.Char=b1.Char)&&(j.Ref=b1.Ref))&&l)
def PB(l:List AN)(b1:List AN)(j:Int):Option (Int ⊕ (Ax Unit Bool)):=
 if(decide (j<(l.length:Int))) then(
 AB (AL l j) λ(m:AN)=>
 AB (AL b1 j) λ(q:AN)=>
 AB (M9 m q) λ(w:Bool)=>
 if(!w) then(
 some (.inr (.ext false))
 ) else(
 AB (AZ .i64 (j+1)) λ(A:Int)=>
 some (.inl A)
 )
 ) else(
 some (.inr (.nrm ()))
 )
def Ns(j:List AN)(b1:List AN):Option (Bool):=
 if(!((j.length:Int)=(b1.length:Int))) then(
 some false
 ) else(
 A7 (iter (λ(a:Int)=>PB j b1 a) 0) λ(l:Unit)=>
 some true
 )
def KZ(m:List AN)(j:Bool)(l:Int):Option (Int ⊕ (Ax Unit Int)):=
 if(decide (l<(m.length:Int))) then(
 AB (AL m l) λ(q:AN)=>
 AB (OJ q) λ(w:Int)=>
 if(!(w=0)) then(
 some (.inr (.ext w))
 ) else(
 if((!j)&&(q.Ref=0)) then(
 some (.inr (.ext 8))
 ) else(
 AB (AZ .i64 (l+1)) λ(A:Int)=>
 some (.inl A)
 )
 )
 ) else(
 some (.inr (.nrm ()))
 )
def FI(l:List AN)(j:Bool):Option (Int):=
 A7 (iter (λ(a:Int)=>KZ l j a) 0) λ(w:Unit)=>
 AB (gd ((j==true)&&((decide ((l.length:Int)=0))==false)) (AZ .i64 ((l.length:Int)-1))) λ(m:Int)=>
 AB (gd ((j==true)&&((decide ((l.length:Int)=0))==false)) (AL l m)) λ(q:AN)=>
 if(j&&(((l.length:Int)=0)||(!(q.Char=10)))) then(
 some 11
 ) else(
 some 0
 )
def KT(m:List AN)(j:Bool)(l:Int):Option (Int ⊕ (Ax Unit Int)):=
 if(decide (l<(m.length:Int))) then(
 AB (AL m l) λ(q:AN)=>
 AB (M3 q) λ(w:Int)=>
 if(!(w=0)) then(
 some (.inr (.ext w))
 ) else(
 if((!j)&&(!(q.Char=0))) then(
 some (.inr (.ext 8))
 ) else(
 AB (AZ .i64 (l+1)) λ(A:Int)=>
 some (.inl A)
 )
 )
 ) else(
 some (.inr (.nrm ()))
 )
def Iy(l:List AN)(j:Bool):Option (Int):=
 A7 (iter (λ(a:Int)=>KT l j a) 0) λ(w:Unit)=>
 AB (gd ((j==true)&&((decide ((l.length:Int)=0))==false)) (AZ .i64 ((l.length:Int)-1))) λ(m:Int)=>
 AB (gd ((j==true)&&((decide ((l.length:Int)=0))==false)) (AL l m)) λ(q:AN)=>
 if(j&&(((l.length:Int)=0)||(!(q.Char=10)))) then(
 some 11
 ) else(
 some 0
 )
end
noncomputable section
end
noncomputable section
end
noncomputable section
end
noncomputable section
structure V8 where
 Kind:Int
 Node:Int
 From:Int
 To:Int
 Name:List UInt8
deriving DecidableEq
instance:Inhabited V8:=⟨⟨0,0,0,0,[]⟩⟩
structure nn where
 node:Int
 out:List AN
 bad:List V8
deriving DecidableEq
instance:Inhabited nn:=⟨⟨0,[],[]⟩⟩
structure nb where
 adds:List (List AN)
 cut:List Bool
 attrs:List (List AG)
deriving DecidableEq
instance:Inhabited nb:=⟨⟨[],[],[]⟩⟩
def TN(q:List AN)(b1:List AN)(m:Int):Option (Int ⊕ (Ax Unit Bool)):=
 if(decide (m<(q.length:Int))) then(
 AB (AL q m) λ(j:AN)=>
 AB (AL b1 m) λ(l:AN)=>
 AB (gd (((!(j.Char=l.Char))||(!(j.Ref=l.Ref)))==false) (Jx j.Attrs l.Attrs)) λ(w:Bool)=>
 if(((!(j.Char=l.Char))||(!(j.Ref=l.Ref)))||(!w)) then(
 some (.inr (.ext false))
 ) else(
 AB (AZ .i64 (m+1)) λ(A:Int)=>
 some (.inl A)
 )
 ) else(
 some (.inr (.nrm ()))
 )
def Te(j:List AN)(b1:List AN):Option (Bool):=
 if(!((j.length:Int)=(b1.length:Int))) then(
 some false
 ) else(
 A7 (iter (λ(a:Int)=>TN j b1 a) 0) λ(l:Unit)=>
 some true
 )
end
noncomputable section
structure IO where
 lo:Int
 hi:Int
deriving DecidableEq
instance:Inhabited IO:=⟨⟨0,0⟩⟩
@[reducible] def IO.row(x:IO):List RV:=[.int .u8 x.lo,.int .u8 x.hi]
def QC:List IO:=Jc.map λp=>IO.mk p.1 p.2
def OG(A:List UInt8):Option (Int × Int):=
 if(decide ((A.length:Int)<1)) then(
 some (65533,0)
 ) else(
 AB (AL A 0) λ(j:UInt8)=>
 AB (AL GW (j.toNat:Int)) λ(q:Int)=>
 if(decide (240≤q)) then(
 some ((Ea .i32 (RE .i32 (IntKind.i32.wrap (j.toNat:Int)) (GD .i32 (D2 .i32 (IntKind.i32.wrap q) 31) 31)) (Cr .i32 65533 (GD .i32 (D2 .i32 (IntKind.i32.wrap q) 31) 31))),1)
 ) else(
 AB (AL QC (GD .u8 q 4)) λ(B:IO)=>
 if(decide ((A.length:Int)<(IntKind.i64.wrap (Cr .u8 q 7)))) then(
 some (65533,1)
 ) else(
 AB (AL A 1) λ(l:UInt8)=>
 if(((l.toNat:Int)<B.lo)||(B.hi<(l.toNat:Int))) then(
 some (65533,1)
 ) else(
 if(decide ((IntKind.i64.wrap (Cr .u8 q 7))≤2)) then(
 some ((Ea .i32 (D2 .i32 (IntKind.i32.wrap (Cr .u8 (j.toNat:Int) 31)) 6) (IntKind.i32.wrap (Cr .u8 (l.toNat:Int) 63))),2)
 ) else(
 AB (AL A 2) λ(m:UInt8)=>
 if(((m.toNat:Int)<128)||(191<(m.toNat:Int))) then(
 some (65533,1)
 ) else(
 if(decide ((IntKind.i64.wrap (Cr .u8 q 7))≤3)) then(
 some ((Ea .i32 (Ea .i32 (D2 .i32 (IntKind.i32.wrap (Cr .u8 (j.toNat:Int) 15)) 12) (D2 .i32 (IntKind.i32.wrap (Cr .u8 (l.toNat:Int) 63)) 6)) (IntKind.i32.wrap (Cr .u8 (m.toNat:Int) 63))),3)
 ) else(
 AB (AL A 3) λ(w:UInt8)=>
 if(((w.toNat:Int)<128)||(191<(w.toNat:Int))) then(
 some (65533,1)
 ) else(
 some ((Ea .i32 (Ea .i32 (Ea .i32 (D2 .i32 (IntKind.i32.wrap (Cr .u8 (j.toNat:Int) 7)) 18) (D2 .i32 (IntKind.i32.wrap (Cr .u8 (l.toNat:Int) 63)) 12)) (D2 .i32 (IntKind.i32.wrap (Cr .u8 (m.toNat:Int) 63)) 6)) (IntKind.i32.wrap (Cr .u8 (w.toNat:Int) 63))),4)
 )
 )
 )
 )
 )
 )
 )
 )
def Nr(j:List UInt8):Option (Int × Int):=
 AB (gd ((!(j=[]))==true) (AL j 0)) λ(l:UInt8)=>
 if((!(j=[]))&&((l.toNat:Int)<128)) then(
 AB (AL j 0) λ(m:UInt8)=>
 some ((IntKind.i32.wrap (m.toNat:Int)),1)
 ) else(
 CE (OG j) λ(q:Int) (w:Int)=>
 some (q,w)
 )
end
noncomputable section
def FZ(w:List AN)(q:Int)(j:List Int):Option ((Int × (List Int)) ⊕ (List Int)):=
 if(decide (q<(w.length:Int))) then(
 AB (
 AB (AL w q) λ(A:AN)=>
 if(!(A.Ref=0)) then(
 AB (app 8 j [A.Ref]) λ(l:List Int)=>
 some l
 ) else(
 some j
 )
 ) λ(m:List Int)=>
 AB (AZ .i64 (q+1)) λ(B:Int)=>
 some (.inl (B,m))
 ) else(
 some (.inr j)
 )
def Jp(l:List AN):Option ((List Int)):=
 AB (iter (λ(a:Int × (List Int))=>FZ l a.1 a.2) (0,[])) λ(j:List Int)=>
 some j
end
noncomputable section
end
noncomputable section
structure AR where
 Nodes:List AO
deriving DecidableEq
instance:Inhabited AR:=⟨⟨[]⟩⟩
@[reducible] def AR.row(x:AR):List RV:=[.sl (x.Nodes.map AO.row)]
def RX:Option (AR):=
 some (AR.mk [(AO.mk 1 0 [] [(AN.mk 0 2 [])] (Av.mk 0 0 [] []) []),(AO.mk 2 1 [] [(AN.mk 10 0 [])] (Av.mk 0 0 [] []) [])])
def Ds(j:Int):Option (Bool):=
 some ((((j=1)||(j=3))||(j=4))||(j=12))
def F6(j:Int):Option (Bool):=
 some ((j=0)||(j=7))
def FS(j:Int):Option (Bool):=
 some ((j=2)||(j=6))
def Mu(j:List Ap)(w:List Ap)(l:Int):Option (Int ⊕ (Ax Unit Bool)):=
 if(decide (l<(j.length:Int))) then(
 AB (AL j l) λ(m:Ap)=>
 AB (AL w l) λ(q:Ap)=>
 if(!((m.Row=q.Row)&&((m.Col=q.Col)&&((m.H=q.H)&&((m.W=q.W)&&true))))) then(
 some (.inr (.ext false))
 ) else(
 AB (AZ .i64 (l+1)) λ(A:Int)=>
 some (.inl A)
 )
 ) else(
 some (.inr (.nrm ()))
 )
def Oh(j:List Ap)(l:List Ap):Option (Bool):=
 if(!((j.length:Int)=(l.length:Int))) then(
 some false
 ) else(
 A7 (iter (λ(a:Int)=>Mu j l a) 0) λ(m:Unit)=>
 some true
 )
def M6(j:An)(b1:An):Option (Bool):=
 AB (gd (((((j.Row=b1.Row)&&(j.Col=b1.Col))&&(j.Text=b1.Text))&&(j.Ref=b1.Ref))==true) (Jx j.Attrs b1.Attrs)) λ(l:Bool)=>
 some (((((j.Row=b1.Row)&&(j.Col=b1.Col))&&(j.Text=b1.Text))&&(j.Ref=b1.Ref))&&l)
def M1(j:List An)(m:List An)(l:Int):Option (Int ⊕ (Ax Unit Bool)):=
 if(decide (l<(j.length:Int))) then(
 AB (AL j l) λ(q:An)=>
 AB (AL m l) λ(w:An)=>
 AB (M6 q w) λ(A:Bool)=>
 if(!A) then(
 some (.inr (.ext false))
 ) else(
 AB (AZ .i64 (l+1)) λ(B:Int)=>
 some (.inl B)
 )
 ) else(
 some (.inr (.nrm ()))
 )
def Nl(j:List An)(l:List An):Option (Bool):=
 if(!((j.length:Int)=(l.length:Int))) then(
 some false
 ) else(
 A7 (iter (λ(a:Int)=>M1 j l a) 0) λ(m:Unit)=>
 some true
 )
def KR(j:Av)(b1:Av):Option (Bool):=
 AB (gd (((j.Rows=b1.Rows)&&(j.Cols=b1.Cols))==true) (Oh j.Merges b1.Merges)) λ(l:Bool)=>
 AB (gd ((((j.Rows=b1.Rows)&&(j.Cols=b1.Cols))&&l)==true) (Nl j.Cells b1.Cells)) λ(m:Bool)=>
 some ((((j.Rows=b1.Rows)&&(j.Cols=b1.Cols))&&l)&&m)
def Fk(j:Int):Option (Bool):=
 some (((j=8)||(j=9))||(j=10))
def Fi(l:List UInt8):Option ((List UInt8) ⊕ (Ax Unit Bool)):=
 if(!(l=[])) then(
 CE (Nr l) λ(j:Int) (m:Int)=>
 AB (gd ((((j=65533)&&(m=1))||(j=10))==false) (Mn (IntKind.i64.wrap j))) λ(q:Bool)=>
 if((((j=65533)&&(m=1))||(j=10))||(!q)) then(
 some (.inr (.ext false))
 ) else(
 AB (DY l m (l.length:Int)) λ(w:List UInt8)=>
 some (.inl w)
 )
 ) else(
 some (.inr (.nrm ()))
 )
def Of(j:List UInt8):Option (Bool):=
 A7 (iter (λ(a:(List UInt8))=>Fi a) j) λ(l:Unit)=>
 some true
def Nx(c1:An):Option (Bool):=
 some (((c1.Text=[])&&(c1.Ref=0))&&((c1.Attrs.length:Int)=0))
def Lq(j:Int):Option (Bool):=
 some (!(j=j))
def GR(m:Int)(q:Int):Option (Int):=
 AB (Lq m) λ(l:Bool)=>
 AB (Lq q) λ(j:Bool)=>
 if l then(
 if j then(
 some 0
 ) else(
 some (-1)
 )
 ) else(
 if j then(
 some 1
 ) else(
 if(decide (m<q)) then(
 some (-1)
 ) else(
 if(decide (q<m)) then(
 some 1
 ) else(
 some 0
 )
 )
 )
 )
def EE(j:List Int)(l:Int):Option (Int ⊕ (Ax Unit Int)):=
 if(decide (l<(j.length:Int))) then(
 AB (AL j l) λ(m:Int)=>
 if(!(m=0)) then(
 some (.inr (.ext m))
 ) else(
 AB (AZ .i64 (l+1)) λ(q:Int)=>
 some (.inl q)
 )
 ) else(
 some (.inr (.nrm ()))
 )
def IN(j:List Int):Option (Int):=
 A7 (iter (λ(a:Int)=>EE j a) 0) λ(l:Unit)=>
 some 0
def MJ(j:An)(b1:An):Option (Int):=
 AB (GR j.Row b1.Row) λ(l:Int)=>
 AB (GR j.Col b1.Col) λ(m:Int)=>
 AB (IN [l,m]) λ(q:Int)=>
 some q
def PT(A:List An)(m:Int)(q:Int)(w:Bool)(l:Int):Option (Int ⊕ (Ax Unit Int)):=
 if(decide (l<(A.length:Int))) then(
 AB (AL A l) λ(j:An)=>
 if((((j.Row<0)||(m≤j.Row))||(j.Col<0))||(q≤j.Col)) then(
 some (.inr (.ext 2))
 ) else(
 if((j.Ref<0)||(1073741824<j.Ref)) then(
 some (.inr (.ext 2))
 ) else(
 AB (Of j.Text) λ(C:Bool)=>
 if(!C) then(
 some (.inr (.ext 23))
 ) else(
 AB (I3 j.Attrs) λ(B:Int)=>
 if(!(B=0)) then(
 some (.inr (.ext B))
 ) else(
 AB (Nx j) λ(E:Bool)=>
 if(E&&(!w)) then(
 some (.inr (.ext 4))
 ) else(
 AB (gd ((decide (0<l))==true) (AZ .i64 (l-1))) λ(F:Int)=>
 AB (gd ((decide (0<l))==true) (AL A F)) λ(I:An)=>
 AB (gd ((decide (0<l))==true) (MJ I j)) λ(J:Int)=>
 if((0<l)&&(0≤J)) then(
 some (.inr (.ext 5))
 ) else(
 AB (AZ .i64 (l+1)) λ(M:Int)=>
 some (.inl M)
 )
 )
 )
 )
 )
 )
 ) else(
 some (.inr (.nrm ()))
 )
def Nq(q:List An)(j:Int)(l:Int)(m:Bool):Option (Int):=
 A7 (iter (λ(a:Int)=>PT q j l m a) 0) λ(w:Unit)=>
 some 0
def OI(j:Ap)(l:Int)(m:Int):Option (Bool):=
 AB (gd (((((((0≤j.Row)&&(0≤j.Col))&&(1≤j.H))&&(1≤j.W))&&(j.Row<l))&&(j.Col<m))==true) (AZ .i64 (l-j.Row))) λ(q:Int)=>
 AB (gd ((((((((0≤j.Row)&&(0≤j.Col))&&(1≤j.H))&&(1≤j.W))&&(j.Row<l))&&(j.Col<m))&&(j.H≤q))==true) (AZ .i64 (m-j.Col))) λ(w:Int)=>
 some ((((((((0≤j.Row)&&(0≤j.Col))&&(1≤j.H))&&(1≤j.W))&&(j.Row<l))&&(j.Col<m))&&(j.H≤q))&&(j.W≤w))
def NQ(j:Ap)(b1:Ap):Option (Bool):=
 some ((j.Row<b1.Row)||((j.Row=b1.Row)&&(j.Col<b1.Col)))
def ON(j:Ap)(b1:Ap):Option (Bool):=
 AB (AZ .i64 (b1.Row+b1.H)) λ(l:Int)=>
 AB (gd ((decide (j.Row<l))==true) (AZ .i64 (j.Row+j.H))) λ(m:Int)=>
 AB (gd (((j.Row<l)&&(b1.Row<m))==true) (AZ .i64 (b1.Col+b1.W))) λ(q:Int)=>
 AB (gd ((((j.Row<l)&&(b1.Row<m))&&(j.Col<q))==true) (AZ .i64 (j.Col+j.W))) λ(w:Int)=>
 some ((((j.Row<l)&&(b1.Row<m))&&(j.Col<q))&&(b1.Col<w))
def Ra(j:Ap)(l:Ap):Option (Bool):=
 AB (ON l j) λ(m:Bool)=>
 some m
def O4(m:Ap)(l:List Ap)(j:Int):Option (Int ⊕ (Ax Unit Int)):=
 if(decide (j<(l.length:Int))) then(
 AB (AL l j) λ(q:Ap)=>
 AB (Ra m q) λ(w:Bool)=>
 if w then(
 some (.inr (.ext j))
 ) else(
 AB (AZ .i64 (j+1)) λ(A:Int)=>
 some (.inl A)
 )
 ) else(
 some (.inr (.nrm ()))
 )
def QF(j:Ap)(l:List Ap):Option (Int):=
 A7 (iter (λ(a:Int)=>O4 j l a) 0) λ(m:Unit)=>
 some (-1)
def L2(j:Ap)(l:List Ap):Option (Bool):=
 AB (QF j l) λ(m:Int)=>
 some (decide (0≤m))
def PJ(l:Av)(j:Int):Option (Int ⊕ (Ax Unit Int)):=
 if(decide (j<(l.Merges.length:Int))) then(
 AB (AL l.Merges j) λ(m:Ap)=>
 AB (OI m l.Rows l.Cols) λ(q:Bool)=>
 if(!q) then(
 some (.inr (.ext 2))
 ) else(
 if((m.H=1)&&(m.W=1)) then(
 some (.inr (.ext 4))
 ) else(
 AB (gd ((decide (0<j))==true) (AZ .i64 (j-1))) λ(w:Int)=>
 AB (gd ((decide (0<j))==true) (AL l.Merges w)) λ(A:Ap)=>
 AB (gd ((decide (0<j))==true) (NQ A m)) λ(B:Bool)=>
 if((0<j)&&(!B)) then(
 some (.inr (.ext 5))
 ) else(
 AB (DY l.Merges 0 j) λ(C:List Ap)=>
 AB (L2 m C) λ(E:Bool)=>
 if E then(
 some (.inr (.ext 21))
 ) else(
 AB (AZ .i64 (j+1)) λ(F:Int)=>
 some (.inl F)
 )
 )
 )
 )
 ) else(
 some (.inr (.nrm ()))
 )
def PU(j:Av):Option (Int):=
 if((((j.Rows<0)||(2147483647<j.Rows))||(j.Cols<0))||(2147483647<j.Cols)) then(
 some 2
 ) else(
 AB (Nq j.Cells j.Rows j.Cols false) λ(l:Int)=>
 if(!(l=0)) then(
 some l
 ) else(
 A7 (iter (λ(a:Int)=>PJ j a) 0) λ(m:Unit)=>
 some 0
 )
 )
def NI(j:Int)(q:List An)(l:Int):Option (Int ⊕ (Ax Unit Int)):=
 if(decide (l<(q.length:Int))) then(
 AB (AL q l) λ(m:An)=>
 if(((j=2)&&((!(m.Text=[]))||(0<(m.Attrs.length:Int))))||((j=6)&&(!(m.Ref=0)))) then(
 some (.inr (.ext 4))
 ) else(
 AB (AZ .i64 (l+1)) λ(w:Int)=>
 some (.inl w)
 )
 ) else(
 some (.inr (.nrm ()))
 )
def O9(j:Int)(l:List An):Option (Int):=
 A7 (iter (λ(a:Int)=>NI j l a) 0) λ(m:Unit)=>
 some 0
def KN(m:List UInt8)(l:Int):Option (Int ⊕ (Ax Unit Bool)):=
 if(decide (l<(m.length:Int))) then(
 AB (AL m l) λ(j:UInt8)=>
 if(((j.toNat:Int)<97)||(122<(j.toNat:Int))) then(
 some (.inr (.ext false))
 ) else(
 AB (AZ .i64 (l+1)) λ(q:Int)=>
 some (.inl q)
 )
 ) else(
 some (.inr (.nrm ()))
 )
def KH(j:List UInt8):Option (Bool):=
 AB (gd (((j=[])||(200<(j.length:Int)))==false) (AZ .i64 ((j.length:Int)-1))) λ(m:Int)=>
 AB (gd (((j=[])||(200<(j.length:Int)))==false) (AL j m)) λ(l:UInt8)=>
 if(((j=[])||(200<(j.length:Int)))||((l.toNat:Int)=97)) then(
 some false
 ) else(
 A7 (iter (λ(a:Int)=>KN j a) 0) λ(q:Unit)=>
 some true
 )
def Kz(j:Aw):Option (Int):=
 if((!(j.Kind=0))&&(!(j.Kind=1))) then(
 some 8
 ) else(
 if((((((j.Clock<1)||(1073741824<j.Clock))||(j.Site<0))||(1000<j.Site))||(j.Item<1))||(1073741824<j.Item)) then(
 some 2
 ) else(
 AB (
 if((j.Kind=0)&&((!(j.Name=[]))||(!(j.Value=[])))) then(
 some ((j.Kind=0)&&((!(j.Name=[]))||(!(j.Value=[]))))
 ) else(
 some ((j.Kind=1)&&((!(j.Parent=0))||(!(j.Place=[]))))
 )
 ) λ(m:Bool)=>
 if m then(
 some 4
 ) else(
 if((j.Kind=0)&&((j.Parent<(-1))||(1073741824<j.Parent))) then(
 some 2
 ) else(
 AB (gd ((decide (j.Kind=0))==true) (KH j.Place)) λ(l:Bool)=>
 AB (
 if((j.Kind=0)&&(!l)) then(
 some ((j.Kind=0)&&(!l))
 ) else(
 AB (gd ((decide (j.Kind=1))==true) (LZ j.Name)) λ(q:Bool)=>
 some ((j.Kind=1)&&(!q))
 )
 ) λ(w:Bool)=>
 if w then(
 some 9
 ) else(
 AB (gd (((j.Kind=1)&&(!(j.Value=[])))==true) (MG j.Value)) λ(A:Bool)=>
 if(((j.Kind=1)&&(!(j.Value=[])))&&(!A)) then(
 some 23
 ) else(
 some 0
 )
 )
 )
 )
 )
 )
def KQ(j:Aw)(b1:Aw):Option (Int):=
 AB (GR j.Clock b1.Clock) λ(l:Int)=>
 AB (GR j.Site b1.Site) λ(m:Int)=>
 AB (IN [l,m]) λ(q:Int)=>
 some q
def LE(l:List Aw)(j:Int):Option (Int ⊕ (Ax Unit Int)):=
 if(decide (j<(l.length:Int))) then(
 AB (AL l j) λ(m:Aw)=>
 AB (Kz m) λ(q:Int)=>
 if(!(q=0)) then(
 some (.inr (.ext q))
 ) else(
 AB (gd ((decide (0<j))==true) (AZ .i64 (j-1))) λ(w:Int)=>
 AB (gd ((decide (0<j))==true) (AL l w)) λ(A:Aw)=>
 AB (gd ((decide (0<j))==true) (KQ A m)) λ(B:Int)=>
 if((0<j)&&(0≤B)) then(
 some (.inr (.ext 5))
 ) else(
 AB (AZ .i64 (j+1)) λ(C:Int)=>
 some (.inl C)
 )
 )
 ) else(
 some (.inr (.nrm ()))
 )
def LL(j:List Aw):Option (Int):=
 A7 (iter (λ(a:Int)=>LE j a) 0) λ(l:Unit)=>
 some 0
def CZ(n1:AO):Option (Int):=
 if((n1.ID<1)||(1073741824<n1.ID)) then(
 some 2
 ) else(
 if(((n1.Kind<0)||(13≤n1.Kind))||(!((decide (n1.ID=1))==(decide (n1.Kind=0))))) then(
 some 8
 ) else(
 AB (I3 n1.Attrs) λ(w:Int)=>
 if(!(w=0)) then(
 some w
 ) else(
 AB (Ds n1.Kind) λ(l:Bool)=>
 AB (gd (l==false) (F6 n1.Kind)) λ(m:Bool)=>
 AB (FS n1.Kind) λ(j:Bool)=>
 AB (
 if(((!(l||m))&&(0<(n1.Flow.length:Int)))==false) then(
 if((!j)==true) then(
 AB (KR n1.Grid (Av.mk 0 0 [] [])) λ(A:Bool)=>
 AB (gd ((((!(l||m))&&(0<(n1.Flow.length:Int)))||((!j)&&(!A)))==false) (Fk n1.Kind)) λ(C:Bool)=>
 some ((((!(l||m))&&(0<(n1.Flow.length:Int)))||((!j)&&(!A)))||((!C)&&(0<(n1.Draw.length:Int))))
 ) else(
 AB (gd ((((!(l||m))&&(0<(n1.Flow.length:Int)))||((!j)&&false))==false) (Fk n1.Kind)) λ(E:Bool)=>
 some ((((!(l||m))&&(0<(n1.Flow.length:Int)))||((!j)&&false))||((!E)&&(0<(n1.Draw.length:Int))))
 )
 ) else(
 AB (gd ((((!(l||m))&&(0<(n1.Flow.length:Int)))||false)==false) (Fk n1.Kind)) λ(q:Bool)=>
 some ((((!(l||m))&&(0<(n1.Flow.length:Int)))||false)||((!q)&&(0<(n1.Draw.length:Int))))
 )
 ) λ(F:Bool)=>
 if F then(
 some 4
 ) else(
 if(l||m) then(
 AB (FI n1.Flow l) λ(I:Int)=>
 some I
 ) else(
 if j then(
 AB (PU n1.Grid) λ(B:Int)=>
 if(!(B=0)) then(
 some B
 ) else(
 AB (O9 n1.Kind n1.Grid.Cells) λ(J:Int)=>
 some J
 )
 ) else(
 AB (LL n1.Draw) λ(M:Int)=>
 some M
 )
 )
 )
 )
 )
 )
def E9(w:List AN)(q:Int)(j:List Int):Option ((Int × (List Int)) ⊕ (List Int)):=
 if(decide (q<(w.length:Int))) then(
 AB (
 AB (AL w q) λ(A:AN)=>
 if(!(A.Ref=0)) then(
 AB (app 8 j [A.Ref]) λ(l:List Int)=>
 some l
 ) else(
 some j
 )
 ) λ(m:List Int)=>
 AB (AZ .i64 (q+1)) λ(B:Int)=>
 some (.inl (B,m))
 ) else(
 some (.inr j)
 )
def Jt(l:List AN):Option ((List Int)):=
 AB (iter (λ(a:Int × (List Int))=>E9 l a.1 a.2) (0,[])) λ(j:List Int)=>
 some j
def EX(n1:AO)(q:Int)(j:List Int):Option ((Int × (List Int)) ⊕ (List Int)):=
 if(decide (q<(n1.Grid.Cells.length:Int))) then(
 AB (
 AB (AL n1.Grid.Cells q) λ(w:An)=>
 if(!(w.Ref=0)) then(
 AB (app 8 j [w.Ref]) λ(l:List Int)=>
 some l
 ) else(
 some j
 )
 ) λ(m:List Int)=>
 AB (AZ .i64 (q+1)) λ(A:Int)=>
 some (.inl (A,m))
 ) else(
 some (.inr j)
 )
def Gf(n1:AO):Option ((List Int)):=
 AB (Jt n1.Flow) λ(l:List Int)=>
 AB (iter (λ(a:Int × (List Int))=>EX n1 a.1 a.2) (0,l)) λ(j:List Int)=>
 some j
def Ls(n1:AO)(j:Int):Option (Int):=
 if(decide (n1.ID<j)) then(
 some (-1)
 ) else(
 if(decide (j<n1.ID)) then(
 some 1
 ) else(
 some 0
 )
 )
def FG(A:List AO)(j:Int)(l:Int)(m:Int):Option ((Int × Int) ⊕ Int):=
 if(decide (l<m)) then(
 AB (AZ .i64 (l+m)) λ(q:Int)=>
 AB (AL A (IntKind.i64.wrap (GD .u64 (IntKind.u64.wrap q) 1))) λ(B:AO)=>
 AB (Ls B j) λ(C:Int)=>
 if(decide (C<0)) then(
 AB (AZ .i64 ((IntKind.i64.wrap (GD .u64 (IntKind.u64.wrap q) 1))+1)) λ(w:Int)=>
 some (.inl (w,m))
 ) else(
 some (.inl (l,(IntKind.i64.wrap (GD .u64 (IntKind.u64.wrap q) 1))))
 )
 ) else(
 some (.inr l)
 )
def OL(l:List AO)(j:Int):Option (Int × Bool):=
 AB (iter (λ(a:Int × Int)=>FG l j a.1 a.2) (0,(l.length:Int))) λ(i8:Int)=>
 AB (gd ((decide (i8<(l.length:Int)))==true) (AL l i8)) λ(m:AO)=>
 AB (gd ((decide (i8<(l.length:Int)))==true) (Ls m j)) λ(q:Int)=>
 some (i8,((i8<(l.length:Int))&&(q=0)))
def Fc(d1:AR)(j:Int):Option (Int × Bool):=
 CE (OL d1.Nodes j) λ(l:Int) (m:Bool)=>
 some (l,m)
def JX(l:List Int)(v1:Int)(j:Int):Option (Int ⊕ (Ax Unit Int)):=
 if(decide (j<(l.length:Int))) then(
 AB (AL l j) λ(m:Int)=>
 if(decide (v1=m)) then(
 some (.inr (.ext j))
 ) else(
 AB (AZ .i64 (j+1)) λ(q:Int)=>
 some (.inl q)
 )
 ) else(
 some (.inr (.nrm ()))
 )
def N1(j:List Int)(v1:Int):Option (Int):=
 A7 (iter (λ(a:Int)=>JX j v1 a) 0) λ(l:Unit)=>
 some (-1)
def Kf(j:List Int)(v1:Int):Option (Bool):=
 AB (N1 j v1) λ(l:Int)=>
 some (decide (0≤l))
def KG(j:Int)(l:Int):Option (Bool):=
 AB (
 if(decide (j=0)) then(
 some [1,6,7,10,11,12]
 ) else(
 if(decide (j=1)) then(
 some [2,4,5,10]
 ) else(
 if(decide (j=3)) then(
 some [4,5,10]
 ) else(
 AB (
 if(decide (j=4)) then(
 some (decide (j=4))
 ) else(
 some (decide (j=12))
 )
 ) λ(m:Bool)=>
 if m then(
 some [5]
 ) else(
 if(decide (j=2)) then(
 some [3]
 ) else(
 if(decide (j=7)) then(
 some [8,9]
 ) else(
 some []
 )
 )
 )
 )
 )
 )
 ) λ(q:List Int)=>
 AB (Kf q l) λ(w:Bool)=>
 some w
def CU(d1:AR)(j:Int)(HJ:List Int)(l:Int):Option (Int ⊕ (Ax Unit Int)):=
 if(decide (l<(HJ.length:Int))) then(
 AB (AL HJ l) λ(m:Int)=>
 CE (Fc d1 m) λ(q:Int) (w:Bool)=>
 if(!w) then(
 some (.inr (.ext 7))
 ) else(
 AB (AL d1.Nodes q) λ(A:AO)=>
 AB (KG j A.Kind) λ(B:Bool)=>
 if(!B) then(
 some (.inr (.ext 8))
 ) else(
 AB (AZ .i64 (l+1)) λ(C:Int)=>
 some (.inl C)
 )
 )
 ) else(
 some (.inr (.nrm ()))
 )
def EV(d1:AR)(j:Int)(HJ:List Int):Option (Int):=
 A7 (iter (λ(a:Int)=>CU d1 j HJ a) 0) λ(l:Unit)=>
 some 0
def Ch(d1:AR)(j:Int):Option (Int ⊕ (Ax Unit Int)):=
 if(decide (j<(d1.Nodes.length:Int))) then(
 AB (AL d1.Nodes j) λ(l:AO)=>
 AB (Gf l) λ(q:List Int)=>
 AB (EV d1 l.Kind q) λ(m:Int)=>
 if(!(m=0)) then(
 some (.inr (.ext m))
 ) else(
 AB (AZ .i64 (j+1)) λ(w:Int)=>
 some (.inl w)
 )
 ) else(
 some (.inr (.nrm ()))
 )
def CL(d1:AR)(j:Int):Option (Int ⊕ (Ax Unit Int)):=
 if(decide (j<(d1.Nodes.length:Int))) then(
 AB (AL d1.Nodes j) λ(l:AO)=>
 AB (CZ l) λ(A:Int)=>
 if(!(A=0)) then(
 some (.inr (.ext A))
 ) else(
 AB (gd ((((j=0)&&(!(l.ID=1)))==false)&&((decide (0<j))==true)) (AZ .i64 (j-1))) λ(m:Int)=>
 AB (gd ((((j=0)&&(!(l.ID=1)))==false)&&((decide (0<j))==true)) (AL d1.Nodes m)) λ(q:AO)=>
 if(((j=0)&&(!(l.ID=1)))||((0<j)&&(l.ID≤q.ID))) then(
 some (.inr (.ext 5))
 ) else(
 AB (AZ .i64 (j+1)) λ(w:Int)=>
 some (.inl w)
 )
 )
 ) else(
 some (.inr (.nrm ()))
 )
def Em(d1:AR):Option (Int):=
 if(decide ((d1.Nodes.length:Int)=0)) then(
 some 11
 ) else(
 A7 (iter (λ(a:Int)=>CL d1 a) 0) λ(j:Unit)=>
 A7 (iter (λ(a:Int)=>Ch d1 a) 0) λ(l:Unit)=>
 some 0
 )
def Q6(j:List AN):Option (AR):=
 some (AR.mk [(AO.mk 1 0 [] [(AN.mk 0 2 [])] (Av.mk 0 0 [] []) []),(AO.mk 2 1 [] j (Av.mk 0 0 [] []) [])])
def O1(j:An)(b1:An):Option (Bool):=
 AB (gd (((((j.Row=b1.Row)&&(j.Col=b1.Col))&&(j.Text=b1.Text))&&(j.Ref=b1.Ref))==true) (LM j.Attrs b1.Attrs)) λ(l:Bool)=>
 some (((((j.Row=b1.Row)&&(j.Col=b1.Col))&&(j.Text=b1.Text))&&(j.Ref=b1.Ref))&&l)
def Oz(l:List An)(b1:List An)(j:Int):Option (Int ⊕ (Ax Unit Bool)):=
 if(decide (j<(l.length:Int))) then(
 AB (AL l j) λ(m:An)=>
 AB (AL b1 j) λ(q:An)=>
 AB (O1 m q) λ(w:Bool)=>
 if(!w) then(
 some (.inr (.ext false))
 ) else(
 AB (AZ .i64 (j+1)) λ(A:Int)=>
 some (.inl A)
 )
 ) else(
 some (.inr (.nrm ()))
 )
def Oo(j:List An)(b1:List An):Option (Bool):=
 if(!((j.length:Int)=(b1.length:Int))) then(
 some false
 ) else(
 A7 (iter (λ(a:Int)=>Oz j b1 a) 0) λ(l:Unit)=>
 some true
 )
def NV(q:List Ap)(b1:List Ap)(j:Int):Option (Int ⊕ (Ax Unit Bool)):=
 if(decide (j<(q.length:Int))) then(
 AB (AL q j) λ(l:Ap)=>
 AB (AL b1 j) λ(m:Ap)=>
 if(!((l.Row=m.Row)&&((l.Col=m.Col)&&((l.H=m.H)&&((l.W=m.W)&&true))))) then(
 some (.inr (.ext false))
 ) else(
 AB (AZ .i64 (j+1)) λ(w:Int)=>
 some (.inl w)
 )
 ) else(
 some (.inr (.nrm ()))
 )
def Na(j:List Ap)(b1:List Ap):Option (Bool):=
 if(!((j.length:Int)=(b1.length:Int))) then(
 some false
 ) else(
 A7 (iter (λ(a:Int)=>NV j b1 a) 0) λ(l:Unit)=>
 some true
 )
def Nn(j:Av)(b1:Av):Option (Bool):=
 AB (gd (((j.Rows=b1.Rows)&&(j.Cols=b1.Cols))==true) (Oo j.Cells b1.Cells)) λ(l:Bool)=>
 AB (gd ((((j.Rows=b1.Rows)&&(j.Cols=b1.Cols))&&l)==true) (Na j.Merges b1.Merges)) λ(m:Bool)=>
 some ((((j.Rows=b1.Rows)&&(j.Cols=b1.Cols))&&l)&&m)
def PR(q:List Aw)(b1:List Aw)(m:Int):Option (Int ⊕ (Ax Unit Bool)):=
 if(decide (m<(q.length:Int))) then(
 AB (AL q m) λ(j:Aw)=>
 AB (AL b1 m) λ(l:Aw)=>
 if(!((j.Clock=l.Clock)&&((j.Site=l.Site)&&((j.Kind=l.Kind)&&((j.Item=l.Item)&&((j.Parent=l.Parent)&&((j.Place=l.Place)&&((j.Name=l.Name)&&((j.Value=l.Value)&&true))))))))) then(
 some (.inr (.ext false))
 ) else(
 AB (AZ .i64 (m+1)) λ(w:Int)=>
 some (.inl w)
 )
 ) else(
 some (.inr (.nrm ()))
 )
def NL(j:List Aw)(b1:List Aw):Option (Bool):=
 if(!((j.length:Int)=(b1.length:Int))) then(
 some false
 ) else(
 A7 (iter (λ(a:Int)=>PR j b1 a) 0) λ(l:Unit)=>
 some true
 )
def NM(j:AO)(b1:AO):Option (Bool):=
 AB (gd (((j.ID=b1.ID)&&(j.Kind=b1.Kind))==true) (LM j.Attrs b1.Attrs)) λ(l:Bool)=>
 AB (gd ((((j.ID=b1.ID)&&(j.Kind=b1.Kind))&&l)==true) (Ns j.Flow b1.Flow)) λ(m:Bool)=>
 AB (gd (((((j.ID=b1.ID)&&(j.Kind=b1.Kind))&&l)&&m)==true) (Nn j.Grid b1.Grid)) λ(q:Bool)=>
 AB (gd ((((((j.ID=b1.ID)&&(j.Kind=b1.Kind))&&l)&&m)&&q)==true) (NL j.Draw b1.Draw)) λ(w:Bool)=>
 some ((((((j.ID=b1.ID)&&(j.Kind=b1.Kind))&&l)&&m)&&q)&&w)
def Mv(l:AR)(b1:AR)(j:Int):Option (Int ⊕ (Ax Unit Bool)):=
 if(decide (j<(l.Nodes.length:Int))) then(
 AB (AL l.Nodes j) λ(m:AO)=>
 AB (AL b1.Nodes j) λ(q:AO)=>
 AB (NM m q) λ(w:Bool)=>
 if(!w) then(
 some (.inr (.ext false))
 ) else(
 AB (AZ .i64 (j+1)) λ(A:Int)=>
 some (.inl A)
 )
 ) else(
 some (.inr (.nrm ()))
 )
def Mx(j:AR)(b1:AR):Option (Bool):=
 if(!((j.Nodes.length:Int)=(b1.Nodes.length:Int))) then(
 some false
 ) else(
 A7 (iter (λ(a:Int)=>Mv j b1 a) 0) λ(l:Unit)=>
 some true
 )
def PP:Option (Bool):=
 AB (RX) λ(l:AR)=>
 AB (Em l) λ(j:Int)=>
 AB (
 if((decide (j=0))==true) then(
 AB (L7) λ(m:AN)=>
 AB (Q6 [m]) λ(q:AR)=>
 AB (Mx l q) λ(w:Bool)=>
 some ((j=0)&&w)
 ) else(
 some ((j=0)&&false)
 )
 ) λ(A:Bool)=>
 some A
def Sc(m:List Aw)(w:List Aw)(q:Int):Option (Int ⊕ (Ax Unit Bool)):=
 if(decide (q<(m.length:Int))) then(
 AB (AL m q) λ(j:Aw)=>
 AB (AL w q) λ(l:Aw)=>
 if(!((j.Clock=l.Clock)&&((j.Site=l.Site)&&((j.Kind=l.Kind)&&((j.Item=l.Item)&&((j.Parent=l.Parent)&&((j.Place=l.Place)&&((j.Name=l.Name)&&((j.Value=l.Value)&&true))))))))) then(
 some (.inr (.ext false))
 ) else(
 AB (AZ .i64 (q+1)) λ(A:Int)=>
 some (.inl A)
 )
 ) else(
 some (.inr (.nrm ()))
 )
def UI(j:List Aw)(l:List Aw):Option (Bool):=
 if(!((j.length:Int)=(l.length:Int))) then(
 some false
 ) else(
 A7 (iter (λ(a:Int)=>Sc j l a) 0) λ(m:Unit)=>
 some true
 )
def TD(j:AO)(b1:AO):Option (Bool):=
 AB (gd (((j.ID=b1.ID)&&(j.Kind=b1.Kind))==true) (Jx j.Attrs b1.Attrs)) λ(l:Bool)=>
 AB (gd ((((j.ID=b1.ID)&&(j.Kind=b1.Kind))&&l)==true) (Te j.Flow b1.Flow)) λ(m:Bool)=>
 AB (gd (((((j.ID=b1.ID)&&(j.Kind=b1.Kind))&&l)&&m)==true) (KR j.Grid b1.Grid)) λ(q:Bool)=>
 AB (gd ((((((j.ID=b1.ID)&&(j.Kind=b1.Kind))&&l)&&m)&&q)==true) (UI j.Draw b1.Draw)) λ(w:Bool)=>
 some ((((((j.ID=b1.ID)&&(j.Kind=b1.Kind))&&l)&&m)&&q)&&w)
def SB(j:List AO)(m:List AO)(l:Int):Option (Int ⊕ (Ax Unit Bool)):=
 if(decide (l<(j.length:Int))) then(
 AB (AL j l) λ(q:AO)=>
 AB (AL m l) λ(w:AO)=>
 AB (TD q w) λ(A:Bool)=>
 if(!A) then(
 some (.inr (.ext false))
 ) else(
 AB (AZ .i64 (l+1)) λ(B:Int)=>
 some (.inl B)
 )
 ) else(
 some (.inr (.nrm ()))
 )
def YA(j:List AO)(l:List AO):Option (Bool):=
 if(!((j.length:Int)=(l.length:Int))) then(
 some false
 ) else(
 A7 (iter (λ(a:Int)=>SB j l a) 0) λ(m:Unit)=>
 some true
 )
def X4(j:AR)(b1:AR):Option (Bool):=
 AB (YA j.Nodes b1.Nodes) λ(l:Bool)=>
 some l
def KV(m:List An)(l:Int)(g2:Av):Option ((Int × Av) ⊕ Av):=
 if(decide (l<(m.length:Int))) then(
 AB (AL g2.Cells l) λ(j:An)=>
 AB (app 32 [] j.Attrs) λ(q:List AG)=>
 AB (AZ .i64 (l+1)) λ(w:Int)=>
 some (.inl (w,(Av.mk g2.Rows g2.Cols (g2.Cells.set l.toNat (An.mk j.Row j.Col j.Text j.Ref q)) g2.Merges)))
 ) else(
 some (.inr g2)
 )
def N8(n1:AO):Option (AO):=
 AB (app 32 [] n1.Attrs) λ(l:List AG)=>
 AB (PG n1.Flow) λ(m:List AN)=>
 AB (app 88 [] n1.Draw) λ(q:List Aw)=>
 AB (app 32 [] n1.Grid.Merges) λ(w:List Ap)=>
 AB (app 64 [] n1.Grid.Cells) λ(j:List An)=>
 AB (iter (λ(a:Int × Av)=>KV j a.1 a.2) (0,(Av.mk n1.Grid.Rows n1.Grid.Cols j w))) λ(g4:Av)=>
 some (AO.mk n1.ID n1.Kind l m g4 q)
def O3(d1:AR)(l:Int)(j:Int):Option (Int ⊕ (Ax Unit Int)):=
 if(decide (j<(d1.Nodes.length:Int))) then(
 AB (AL d1.Nodes j) λ(m:AO)=>
 if(decide (m.ID=l)) then(
 some (.inr (.ext j))
 ) else(
 AB (AZ .i64 (j+1)) λ(q:Int)=>
 some (.inl q)
 )
 ) else(
 some (.inr (.nrm ()))
 )
def GS(d1:AR)(j:Int):Option (Int):=
 A7 (iter (λ(a:Int)=>O3 d1 j a) 0) λ(l:Unit)=>
 some (-1)
end
noncomputable section
def Ko(j:Int):Option (Bool):=
 some ((((j=1)||(j=3))||(j=4))||(j=12))
def NG(j:Int)(l:Int):Option (Bool):=
 AB (
 if(decide (l=1)) then(
 some (decide (l=1))
 ) else(
 if(decide (l=6)) then(
 some (decide (l=6))
 ) else(
 if(decide (l=7)) then(
 some (decide (l=7))
 ) else(
 if(decide (l=11)) then(
 some (decide (l=11))
 ) else(
 some (decide (l=12))
 )
 )
 )
 )
 ) λ(m:Bool)=>
 if m then(
 some (decide (j=0))
 ) else(
 if(decide (l=10)) then(
 some (((j=0)||(j=1))||(j=3))
 ) else(
 if(decide (l=2)) then(
 some (decide (j=1))
 ) else(
 if(decide (l=4)) then(
 some ((j=1)||(j=3))
 ) else(
 if(decide (l=5)) then(
 AB (Ko j) λ(q:Bool)=>
 some q
 ) else(
 if(decide (l=3)) then(
 some (decide (j=2))
 ) else(
 AB (
 if(decide (l=8)) then(
 some (decide (l=8))
 ) else(
 some (decide (l=9))
 )
 ) λ(w:Bool)=>
 if w then(
 some (decide (j=7))
 ) else(
 some false
 )
 )
 )
 )
 )
 )
 )
def Q9(j:Int):Option (Bool):=
 some ((j=0)||(j=7))
def NZ(j:Av):Option (Bool):=
 some ((((j.Rows=0)&&(j.Cols=0))&&((j.Cells.length:Int)=0))&&((j.Merges.length:Int)=0))
def Pe(j:Int):Option (Bool):=
 some ((j=2)||(j=6))
def Rc(j:Int):Option (Bool):=
 some (((j=8)||(j=9))||(j=10))
def RM(j:List UInt8):Option (Bool):=
 RW j
def Fd(l:List UInt8)(j:(Nat)):Option ((Nat) ⊕ (Ax Unit Bool)):=
 if(decide (j<l.length)) then(
 AB (gd ((decide (((GU l j).1:Int)=10))==false) (Mp (IntKind.i64.wrap ((GU l j).1:Int)))) λ(m:Bool)=>
 if((((GU l j).1:Int)=10)||(!m)) then(
 some (.inr (.ext false))
 ) else(
 some (.inl (j+(GU l j).2))
 )
 ) else(
 some (.inr (.nrm ()))
 )
def O0(j:List UInt8):Option (Bool):=
 AB (RM j) λ(l:Bool)=>
 if(!l) then(
 some false
 ) else(
 A7 (iter (λ(a:(Nat))=>Fd j a) 0) λ(m:Unit)=>
 some true
 )
def PK(c1:An):Option (Bool):=
 some (((c1.Text=[])&&(c1.Ref=0))&&((c1.Attrs.length:Int)=0))
def Oa(B:List An)(q:Int)(w:Int)(l:Bool)(m:Int):Option (Int ⊕ (Ax Unit Int)):=
 if(decide (m<(B.length:Int))) then(
 AB (AL B m) λ(j:An)=>
 AB (AZ .i64 (q-1)) λ(M:Int)=>
 AB (DF j.Row 0 M) λ(C:Bool)=>
 AB (gd ((!C)==false) (AZ .i64 (w-1))) λ(O:Int)=>
 AB (gd ((!C)==false) (DF j.Col 0 O)) λ(I:Bool)=>
 AB (gd (((!C)||(!I))==false) (DF j.Ref 0 1073741824)) λ(T:Bool)=>
 if(((!C)||(!I))||(!T)) then(
 some (.inr (.ext 2))
 ) else(
 AB (O0 j.Text) λ(U:Bool)=>
 if(!U) then(
 some (.inr (.ext 23))
 ) else(
 AB (Kl j.Attrs false) λ(J:Int)=>
 if(!(J=0)) then(
 some (.inr (.ext J))
 ) else(
 AB (gd ((!l)==true) (PK j)) λ(V:Bool)=>
 if((!l)&&V) then(
 some (.inr (.ext 4))
 ) else(
 AB (gd ((decide (0<m))==true) (AZ .i64 (m-1))) λ(X:Int)=>
 AB (gd ((decide (0<m))==true) (AL B X)) λ(A:An)=>
 AB (gd ((((decide (0<m))==true)&&((decide (j.Row<A.Row))==false))&&((decide (j.Row=A.Row))==true)) (AZ .i64 (m-1))) λ(Z:Int)=>
 AB (gd ((((decide (0<m))==true)&&((decide (j.Row<A.Row))==false))&&((decide (j.Row=A.Row))==true)) (AL B Z)) λ(E:An)=>
 if((0<m)&&((j.Row<A.Row)||((j.Row=A.Row)&&(j.Col≤E.Col)))) then(
 some (.inr (.ext 5))
 ) else(
 AB (AZ .i64 (m+1)) λ(F:Int)=>
 some (.inl F)
 )
 )
 )
 )
 )
 ) else(
 some (.inr (.nrm ()))
 )
def NC(q:List An)(j:Int)(l:Int)(m:Bool):Option (Int):=
 A7 (iter (λ(a:Int)=>Oa q j l m a) 0) λ(w:Unit)=>
 some 0
def Ms(q:Ap)(j:Int)(l:Int):Option (Bool):=
 AB (AZ .i64 (j-1)) λ(B:Int)=>
 AB (DF q.Row 0 B) λ(m:Bool)=>
 AB (gd (m==true) (AZ .i64 (l-1))) λ(C:Int)=>
 AB (gd (m==true) (DF q.Col 0 C)) λ(w:Bool)=>
 AB (gd ((m&&w)==true) (AZ .i64 (j-q.Row))) λ(E:Int)=>
 AB (gd ((m&&w)==true) (DF q.H 1 E)) λ(A:Bool)=>
 AB (gd (((m&&w)&&A)==true) (AZ .i64 (l-q.Col))) λ(F:Int)=>
 AB (gd (((m&&w)&&A)==true) (DF q.W 1 F)) λ(I:Bool)=>
 some (((m&&w)&&A)&&I)
def PC(j:Ap)(b1:Ap):Option (Bool):=
 AB (AZ .i64 (j.Row+j.H)) λ(l:Int)=>
 AB (AZ .i64 (b1.Row+b1.H)) λ(m:Int)=>
 AB (gd ((decide ((max j.Row b1.Row)<(min l m)))==true) (AZ .i64 (j.Col+j.W))) λ(q:Int)=>
 AB (gd ((decide ((max j.Row b1.Row)<(min l m)))==true) (AZ .i64 (b1.Col+b1.W))) λ(w:Int)=>
 some (((max j.Row b1.Row)<(min l m))&&((max j.Col b1.Col)<(min q w)))
def PZ(q:Av)(w:Int)(A:Ap)(j:Int):Option (Int ⊕ (Ax Unit (Int ⊕ (Ax Unit Int)))):=
 if(decide (j<w)) then(
 AB (AL q.Merges j) λ(l:Ap)=>
 AB (PC A l) λ(B:Bool)=>
 if B then(
 some (.inr (.ext (.inr (.ext 21))))
 ) else(
 AB (AZ .i64 (j+1)) λ(m:Int)=>
 some (.inl m)
 )
 ) else(
 some (.inr (.nrm ()))
 )
def O8(m:Av)(j:Int):Option (Int ⊕ (Ax Unit Int)):=
 if(decide (j<(m.Merges.length:Int))) then(
 AB (AL m.Merges j) λ(l:Ap)=>
 AB (Ms l m.Rows m.Cols) λ(A:Bool)=>
 if(!A) then(
 some (.inr (.ext 2))
 ) else(
 if((l.H=1)&&(l.W=1)) then(
 some (.inr (.ext 4))
 ) else(
 AB (gd ((decide (0<j))==true) (AZ .i64 (j-1))) λ(B:Int)=>
 AB (gd ((decide (0<j))==true) (AL m.Merges B)) λ(q:Ap)=>
 AB (gd ((((decide (0<j))==true)&&((decide (l.Row<q.Row))==false))&&((decide (l.Row=q.Row))==true)) (AZ .i64 (j-1))) λ(C:Int)=>
 AB (gd ((((decide (0<j))==true)&&((decide (l.Row<q.Row))==false))&&((decide (l.Row=q.Row))==true)) (AL m.Merges C)) λ(E:Ap)=>
 if((0<j)&&((l.Row<q.Row)||((l.Row=q.Row)&&(l.Col≤E.Col)))) then(
 some (.inr (.ext 5))
 ) else(
 A7 (iter (λ(a:Int)=>PZ m j l a) 0) λ(F:Unit)=>
 AB (AZ .i64 (j+1)) λ(w:Int)=>
 some (.inl w)
 )
 )
 )
 ) else(
 some (.inr (.nrm ()))
 )
def Nj(j:Av):Option (Int):=
 AB (DF j.Rows 0 2147483647) λ(l:Bool)=>
 AB (gd ((!l)==false) (DF j.Cols 0 2147483647)) λ(q:Bool)=>
 if((!l)||(!q)) then(
 some 2
 ) else(
 AB (NC j.Cells j.Rows j.Cols false) λ(m:Int)=>
 if(!(m=0)) then(
 some m
 ) else(
 A7 (iter (λ(a:Int)=>O8 j a) 0) λ(w:Unit)=>
 some 0
 )
 )
def PS(j:Int)(q:List An)(l:Int):Option (Int ⊕ (Ax Unit Int)):=
 if(decide (l<(q.length:Int))) then(
 AB (gd ((decide (j=2))==true) (AL q l)) λ(m:An)=>
 AB (gd ((((j=2)&&((!(m.Text=[]))||(0<(m.Attrs.length:Int))))==false)&&((decide (j=6))==true)) (AL q l)) λ(w:An)=>
 if(((j=2)&&((!(m.Text=[]))||(0<(m.Attrs.length:Int))))||((j=6)&&(!(w.Ref=0)))) then(
 some (.inr (.ext 4))
 ) else(
 AB (AZ .i64 (l+1)) λ(A:Int)=>
 some (.inl A)
 )
 ) else(
 some (.inr (.nrm ()))
 )
def Ow(j:Int)(l:List An):Option (Int):=
 A7 (iter (λ(a:Int)=>PS j l a) 0) λ(m:Unit)=>
 some 0
def Jw(m:List UInt8)(l:Int):Option (Int ⊕ (Ax Unit Bool)):=
 if(decide (l<(m.length:Int))) then(
 AB (AL m l) λ(j:UInt8)=>
 if(((j.toNat:Int)<97)||(122<(j.toNat:Int))) then(
 some (.inr (.ext false))
 ) else(
 AB (AZ .i64 (l+1)) λ(q:Int)=>
 some (.inl q)
 )
 ) else(
 some (.inr (.nrm ()))
 )
def Ox(j:List UInt8):Option (Bool):=
 A7 (iter (λ(a:Int)=>Jw j a) 0) λ(q:Unit)=>
 AB (gd (((1≤(j.length:Int))&&((j.length:Int)≤200))==true) (AZ .i64 ((j.length:Int)-1))) λ(m:Int)=>
 AB (gd (((1≤(j.length:Int))&&((j.length:Int)≤200))==true) (AL j m)) λ(l:UInt8)=>
 some (((1≤(j.length:Int))&&((j.length:Int)≤200))&&(!((l.toNat:Int)=97)))
def LP(j:Aw)(b1:Aw):Option (Bool):=
 some ((j.Clock<b1.Clock)||((j.Clock=b1.Clock)&&(j.Site<b1.Site)))
def N5(m:List Aw)(l:Int):Option (Int ⊕ (Ax Unit Int)):=
 if(decide (l<(m.length:Int))) then(
 AB (AL m l) λ(j:Aw)=>
 if((!(j.Kind=0))&&(!(j.Kind=1))) then(
 some (.inr (.ext 8))
 ) else(
 AB (DF j.Clock 1 1073741824) λ(q:Bool)=>
 AB (gd ((!q)==false) (DF j.Site 0 1000)) λ(w:Bool)=>
 AB (gd (((!q)||(!w))==false) (DF j.Item 1 1073741824)) λ(A:Bool)=>
 if(((!q)||(!w))||(!A)) then(
 some (.inr (.ext 2))
 ) else(
 A7 (
 if(decide (j.Kind=0)) then(
 if((!(j.Name=[]))||(!(j.Value=[]))) then(
 some (.ext (.inr (.ext 4)))
 ) else(
 AB (DF j.Parent (-1) 1073741824) λ(B:Bool)=>
 if(!B) then(
 some (.ext (.inr (.ext 2)))
 ) else(
 AB (Ox j.Place) λ(C:Bool)=>
 if(!C) then(
 some (.ext (.inr (.ext 9)))
 ) else(
 some (.nrm ())
 )
 )
 )
 ) else(
 if((!(j.Parent=0))||(!(j.Place=[]))) then(
 some (.ext (.inr (.ext 4)))
 ) else(
 AB (Mi j.Name) λ(E:Bool)=>
 if(!E) then(
 some (.ext (.inr (.ext 9)))
 ) else(
 AB (gd ((!(j.Value=[]))==true) (MF j.Value)) λ(F:Bool)=>
 if((!(j.Value=[]))&&(!F)) then(
 some (.ext (.inr (.ext 23)))
 ) else(
 some (.nrm ())
 )
 )
 )
 )
 ) λ(T:Unit)=>
 AB (gd ((decide (0<l))==true) (AZ .i64 (l-1))) λ(I:Int)=>
 AB (gd ((decide (0<l))==true) (AL m I)) λ(J:Aw)=>
 AB (gd ((decide (0<l))==true) (LP J j)) λ(M:Bool)=>
 if((0<l)&&(!M)) then(
 some (.inr (.ext 5))
 ) else(
 AB (AZ .i64 (l+1)) λ(O:Int)=>
 some (.inl O)
 )
 )
 )
 ) else(
 some (.inr (.nrm ()))
 )
def NW(j:List Aw):Option (Int):=
 A7 (iter (λ(a:Int)=>N5 j a) 0) λ(l:Unit)=>
 some 0
def OY(n1:AO):Option (Int):=
 AB (DF n1.ID 1 1073741824) λ(F:Bool)=>
 if(!F) then(
 some 2
 ) else(
 AB (DF n1.Kind 0 12) λ(I:Bool)=>
 if(((!I)||((n1.ID=1)&&(!(n1.Kind=0))))||((!(n1.ID=1))&&(n1.Kind=0))) then(
 some 8
 ) else(
 AB (Kl n1.Attrs false) λ(B:Int)=>
 if(!(B=0)) then(
 some B
 ) else(
 AB (Ko n1.Kind) λ(j:Bool)=>
 AB (gd (j==false) (Q9 n1.Kind)) λ(l:Bool)=>
 AB (gd (((0<(n1.Flow.length:Int))&&(!(j||l)))==false) (NZ n1.Grid)) λ(m:Bool)=>
 AB (gd ((((0<(n1.Flow.length:Int))&&(!(j||l)))==false)&&((!m)==true)) (Pe n1.Kind)) λ(C:Bool)=>
 AB (gd (((((0<(n1.Flow.length:Int))&&(!(j||l)))||((!m)&&(!C)))==false)&&((decide (0<(n1.Draw.length:Int)))==true)) (Rc n1.Kind)) λ(J:Bool)=>
 if((((0<(n1.Flow.length:Int))&&(!(j||l)))||((!m)&&(!C)))||((0<(n1.Draw.length:Int))&&(!J))) then(
 some 4
 ) else(
 if(j||l) then(
 AB (Iy n1.Flow j) λ(M:Int)=>
 some M
 ) else(
 AB (Pe n1.Kind) λ(q:Bool)=>
 if q then(
 AB (Nj n1.Grid) λ(E:Int)=>
 if(!(E=0)) then(
 some E
 ) else(
 AB (Ow n1.Kind n1.Grid.Cells) λ(w:Int)=>
 some w
 )
 ) else(
 AB (NW n1.Draw) λ(A:Int)=>
 some A
 )
 )
 )
 )
 )
 )
def QN(n1:AO)(q:Int)(j:List Int):Option ((Int × (List Int)) ⊕ (List Int)):=
 if(decide (q<(n1.Grid.Cells.length:Int))) then(
 AB (
 AB (AL n1.Grid.Cells q) λ(w:An)=>
 if(!(w.Ref=0)) then(
 AB (app 8 j [w.Ref]) λ(l:List Int)=>
 some l
 ) else(
 some j
 )
 ) λ(m:List Int)=>
 AB (AZ .i64 (q+1)) λ(A:Int)=>
 some (.inl (A,m))
 ) else(
 some (.inr j)
 )
def QT(n1:AO)(w:Int)(j:List Int):Option ((Int × (List Int)) ⊕ (List Int)):=
 if(decide (w<(n1.Flow.length:Int))) then(
 AB (
 AB (AL n1.Flow w) λ(q:AN)=>
 if(!(q.Ref=0)) then(
 AB (app 8 j [q.Ref]) λ(l:List Int)=>
 some l
 ) else(
 some j
 )
 ) λ(m:List Int)=>
 AB (AZ .i64 (w+1)) λ(A:Int)=>
 some (.inl (A,m))
 ) else(
 some (.inr j)
 )
def N3(n1:AO):Option ((List Int)):=
 AB (iter (λ(a:Int × (List Int))=>QT n1 a.1 a.2) (0,[])) λ(j:List Int)=>
 AB (iter (λ(a:Int × (List Int))=>QN n1 a.1 a.2) (0,j)) λ(l:List Int)=>
 some l
def L4(d1:AR)(j:Int)(HJ:List Int)(l:Int):Option (Int ⊕ (Ax Unit Int)):=
 if(decide (l<(HJ.length:Int))) then(
 AB (AL HJ l) λ(q:Int)=>
 AB (GS d1 q) λ(m:Int)=>
 if(decide (m<0)) then(
 some (.inr (.ext 7))
 ) else(
 AB (AL d1.Nodes m) λ(w:AO)=>
 AB (NG j w.Kind) λ(A:Bool)=>
 if(!A) then(
 some (.inr (.ext 8))
 ) else(
 AB (AZ .i64 (l+1)) λ(B:Int)=>
 some (.inl B)
 )
 )
 ) else(
 some (.inr (.nrm ()))
 )
def OE(d1:AR)(j:Int)(HJ:List Int):Option (Int):=
 A7 (iter (λ(a:Int)=>L4 d1 j HJ a) 0) λ(l:Unit)=>
 some 0
def Ju(d1:AR)(j:Int):Option (Int ⊕ (Ax Unit Int)):=
 if(decide (j<(d1.Nodes.length:Int))) then(
 AB (AL d1.Nodes j) λ(l:AO)=>
 AB (N3 l) λ(q:List Int)=>
 AB (OE d1 l.Kind q) λ(m:Int)=>
 if(!(m=0)) then(
 some (.inr (.ext m))
 ) else(
 AB (AZ .i64 (j+1)) λ(w:Int)=>
 some (.inl w)
 )
 ) else(
 some (.inr (.nrm ()))
 )
def Mb(d1:AR)(j:Int):Option (Int ⊕ (Ax Unit Int)):=
 if(decide (j<(d1.Nodes.length:Int))) then(
 AB (AL d1.Nodes j) λ(A:AO)=>
 AB (OY A) λ(B:Int)=>
 if(!(B=0)) then(
 some (.inr (.ext B))
 ) else(
 AB (gd ((decide (j=0))==true) (AL d1.Nodes 0)) λ(l:AO)=>
 AB (gd ((((j=0)&&(!(l.ID=1)))==false)&&((decide (0<j))==true)) (AZ .i64 (j-1))) λ(m:Int)=>
 AB (gd ((((j=0)&&(!(l.ID=1)))==false)&&((decide (0<j))==true)) (AL d1.Nodes m)) λ(q:AO)=>
 if(((j=0)&&(!(l.ID=1)))||((0<j)&&(A.ID≤q.ID))) then(
 some (.inr (.ext 5))
 ) else(
 AB (AZ .i64 (j+1)) λ(w:Int)=>
 some (.inl w)
 )
 )
 ) else(
 some (.inr (.nrm ()))
 )
def L0(d1:AR):Option (Int):=
 if(decide ((d1.Nodes.length:Int)=0)) then(
 some 11
 ) else(
 A7 (iter (λ(a:Int)=>Mb d1 a) 0) λ(j:Unit)=>
 A7 (iter (λ(a:Int)=>Ju d1 a) 0) λ(l:Unit)=>
 some 0
 )
end
noncomputable section
def JA(w:Av)(j:Int)(l:Int)(q:Int):Option (Int ⊕ (Ax Unit Ap)):=
 if(decide (q<(w.Merges.length:Int))) then(
 AB (AL w.Merges q) λ(m:Ap)=>
 AB (gd ((decide (m.Row≤j))==true) (AZ .i64 (j-m.Row))) λ(A:Int)=>
 AB (gd ((((m.Row≤j)&&(A<m.H))&&(m.Col≤l))==true) (AZ .i64 (l-m.Col))) λ(B:Int)=>
 if((((m.Row≤j)&&(A<m.H))&&(m.Col≤l))&&(B<m.W)) then(
 some (.inr (.ext m))
 ) else(
 AB (AZ .i64 (q+1)) λ(C:Int)=>
 some (.inl C)
 )
 ) else(
 some (.inr (.nrm ()))
 )
def F9(m:Av)(j:Int)(l:Int):Option (Ap):=
 A7 (iter (λ(a:Int)=>JA m j l a) 0) λ(q:Unit)=>
 some (Ap.mk j l 1 1)
def JU(A:Av)(l:Int)(m:Int)(w:Int):Option (Int ⊕ (Ax Unit Ap)):=
 if(decide (w<(A.Merges.length:Int))) then(
 AB (AL A.Merges w) λ(j:Ap)=>
 AB (AZ .i64 (j.Row+j.H)) λ(B:Int)=>
 AB (AZ .i64 (B-1)) λ(C:Int)=>
 AB (DF l j.Row C) λ(q:Bool)=>
 AB (gd (q==true) (AZ .i64 (j.Col+j.W))) λ(E:Int)=>
 AB (gd (q==true) (AZ .i64 (E-1))) λ(F:Int)=>
 AB (gd (q==true) (DF m j.Col F)) λ(I:Bool)=>
 if(q&&I) then(
 some (.inr (.ext j))
 ) else(
 AB (AZ .i64 (w+1)) λ(J:Int)=>
 some (.inl J)
 )
 ) else(
 some (.inr (.nrm ()))
 )
def MH(m:Av)(j:Int)(l:Int):Option (Ap):=
 A7 (iter (λ(a:Int)=>JU m j l a) 0) λ(q:Unit)=>
 some (Ap.mk j l 1 1)
end
noncomputable section
structure jc where
 Node:Int
 From:Int
 To:Int
deriving DecidableEq
instance:Inhabited jc:=⟨⟨0,0,0⟩⟩
structure eA where
 node:AO
 shown:List Int
 author:List UInt8
deriving DecidableEq
instance:Inhabited eA:=⟨⟨(AO.mk 0 0 [] [] (Av.mk 0 0 [] []) []),[],[]⟩⟩
def HE(d1:AR)(j:Int):Option (Int):=
 CE (Fc d1 j) λ(l:Int) (m:Bool)=>
 if m then(
 some l
 ) else(
 some (-1)
 )
end
noncomputable section
end
noncomputable section
structure AC where
 Item:Int
 Parent:Int
 Place:List UInt8
 Attrs:List AG
deriving DecidableEq
instance:Inhabited AC:=⟨⟨0,0,[],[]⟩⟩
@[reducible] def AC.row(x:AC):List RV:=[.int .i64 x.Item,.int .i64 x.Parent,.str x.Place,.sl (x.Attrs.map AG.row)]
end
noncomputable section
def G9(m:List (Int × AC))(l:Int)(j:Int):Option (Int ⊕ (Ax Unit Bool)):=
 if(decide (0<j)) then(
 if(decide (j=l)) then(
 some (.inr (.ext true))
 ) else(
 if(!((AU m j).isSome)) then(
 some (.inr (.ext false))
 ) else(
 AB (AU m j) λ(q:AC)=>
 some (.inl q.Parent)
 )
 )
 ) else(
 some (.inr (.nrm ()))
 )
def M8(m:List (Int × AC))(m2:List (Int × (List AG)))(j:Int)(l:Int):Option (Bool):=
 A7 (iter (λ(a:Int)=>G9 m l a) j) λ(q:Unit)=>
 some false
def Iu(A:List Aw)(q:Int)(m:List (Int × AC))(l:List (Int × (List AG))):Option ((Int × (List (Int × AC)) × (List (Int × (List AG)))) ⊕ ((List (Int × AC)) × (List (Int × (List AG))))):=
 if(decide (q<(A.length:Int))) then(
 CE (
 AB (AL A q) λ(j:Aw)=>
 if(decide (j.Kind=1)) then(
 AB (MM ((AU l j.Item).getD []) [(AG.mk j.Name j.Value)]) λ(B:List AG)=>
 some (m,(Ah l j.Item B))
 ) else(
 AB (M8 m l j.Parent j.Item) λ(C:Bool)=>
 if(!C) then(
 some ((Ah m j.Item (AC.mk j.Item j.Parent j.Place [])),l)
 ) else(
 some (m,l)
 )
 )
 ) λ(E:List (Int × AC)) (w:List (Int × (List AG)))=>
 AB (AZ .i64 (q+1)) λ(F:Int)=>
 some (.inl (F,E,w))
 ) else(
 some (.inr (m,l))
 )
def Lm(j:List Aw):Option ((List (Int × AC)) × (List (Int × (List AG)))):=
 CE (iter (λ(a:Int × (List (Int × AC)) × (List (Int × (List AG))))=>Iu j a.1 a.2.1 a.2.2) (0,[],[])) λ(l:List (Int × AC)) (m:List (Int × (List AG)))=>
 some (l,m)
def Nu(j:List UInt8):Option (Bool):=
 some (!(j=j))
def OW(m:List UInt8)(q:List UInt8):Option (Int):=
 AB (Nu m) λ(l:Bool)=>
 AB (Nu q) λ(j:Bool)=>
 if l then(
 if j then(
 some 0
 ) else(
 some (-1)
 )
 ) else(
 if j then(
 some 1
 ) else(
 if(Ay m q) then(
 some (-1)
 ) else(
 if(!(Ay m q||(m=q))) then(
 some 1
 ) else(
 some 0
 )
 )
 )
 )
def Kn(j:AC)(b1:AC):Option (Int):=
 AB (OW j.Place b1.Place) λ(l:Int)=>
 AB (GR j.Item b1.Item) λ(m:Int)=>
 AB (IN [l,m]) λ(q:Int)=>
 some q
def GL(j:Int)(self:(List (Int × (List AC)))→(List AC)→(List (Int × Bool))→Int→Option ((List (Int × (List AC))) × (List AC) × (List (Int × Bool))))(A:List (Int × List AC))(l:Int)(o2:List AC)(m:List (Int × (List AC)))(w:List (Int × Bool)):Option ((Int × (List AC) × (List (Int × (List AC))) × (List (Int × Bool))) ⊕ (Ax Unit ((List (Int × (List AC))) × (List AC) × (List (Int × Bool))))):=
 if(decide (l<(((AU A j).getD []).length:Int))) then(
 AB (AL ((AU m j).getD []) l) λ(q:AC)=>
 AB (app 56 o2 [q]) λ(B:List AC)=>
 CK (self m B (Ah w q.Item true) q.Item) λ(C:List (Int × (List AC))) (E:List AC) (F:List (Int × Bool))=>
 AB (AZ .i64 (l+1)) λ(I:Int)=>
 some (.inl (I,E,C,F))
 ) else(
 some (.inr (.ext (m,o2,w)))
 )
def Jb(self:(List (Int × (List AC)))→(List AC)→(List (Int × Bool))→Int→Option ((List (Int × (List AC))) × (List AC) × (List (Int × Bool))))(m:List (Int × (List AC)))(c1:List AC)(m2:List (Int × Bool))(j:Int):Option ((List (Int × (List AC))) × (List AC) × (List (Int × Bool))):=
 AB (Js Kn m j) λ(l:List (Int × List AC))=>
 A7 (iter (λ(a:Int × (List AC) × (List (Int × (List AC))) × (List (Int × Bool)))=>GL j self l a.1 a.2.1 a.2.2.1 a.2.2.2) (0,c1,l,m2)) λ(q:Unit)=>
 none
def Dp:Nat→(List (Int × (List AC)))→(List AC)→(List (Int × Bool))→Int→Option ((List (Int × (List AC))) × (List AC) × (List (Int × Bool)))
 | 0,_,_,_,_=>none
 | n+1,l,c1,m2,j=>Jb (λl c1 m2 j=>Dp n l c1 m2 j) l c1 m2 j
def Oq(l:List (Int × (List AC)))(c1:List AC)(m2:List (Int × Bool))(j:Int):Option ((List (Int × (List AC))) × (List AC) × (List (Int × Bool))):=
 @dite _ (∃n r,Dp n l c1 m2 j=some r) (Classical.propDecidable _) (λh=>Dp h.choose l c1 m2 j) (λ_=>none)
def Pd(j:AC)(b1:AC):Option (Int):=
 AB (GR j.Item b1.Item) λ(l:Int)=>
 some l
def Hl(m:List (Int × (List AG)))(q:List AC)(A:List (Int × AC))(B:List (Int × (List AC)))(l:Int):Option ((List AC) × (List (Int × AC)) × (List (Int × (List AC)))):=
 AB (AU A l) λ(j:AC)=>
 AB (app 56 ((AU B ((AC.mk j.Item j.Parent j.Place ((AU m l).getD [])).Parent)).getD []) [(AC.mk j.Item j.Parent j.Place ((AU m l).getD []))]) λ(C:List AC)=>
 AB (app 56 q [(AC.mk j.Item j.Parent j.Place ((AU m l).getD []))]) λ(w:List AC)=>
 some (w,(Ah A l (AC.mk j.Item j.Parent j.Place ((AU m l).getD []))),(Ah B ((AC.mk j.Item j.Parent j.Place ((AU m l).getD [])).Parent) C))
def IE(A:List (Int × Bool))(q:List AC)(m:Int)(j:List AC):Option ((Int × (List AC)) ⊕ (List AC)):=
 if(decide (m<(q.length:Int))) then(
 AB (
 AB (AL q m) λ(w:AC)=>
 if(!((AU A w.Item).getD false)) then(
 AB (app 56 j [w]) λ(B:List AC)=>
 some B
 ) else(
 some j
 )
 ) λ(l:List AC)=>
 AB (AZ .i64 (m+1)) λ(C:Int)=>
 some (.inl (C,l))
 ) else(
 some (.inr j)
 )
def Nv(m:List Aw):Option ((List AC)):=
 CE (Lm m) λ(q:List (Int × AC)) (w:List (Int × (List AG)))=>
 MR (λ(a:(List AC) × (List (Int × AC)) × (List (Int × (List AC))))=>a.2.1.map (·.1)) (λ(a:(List AC) × (List (Int × AC)) × (List (Int × (List AC)))) (A:Int)=>Hl w a.1 a.2.1 a.2.2 A) ([],q,[]) λ(a:(List AC) × (List (Int × AC)) × (List (Int × (List AC))))=>
 CK (some a) λ(j:List AC) (I:List (Int × AC)) (B:List (Int × (List AC)))=>
 CK (Oq B [] ([]:List (Int × Bool)) 0) λ(J:List (Int × (List AC))) (C:List AC) (E:List (Int × Bool))=>
 AB (Hv Pd j) λ(F:List AC)=>
 AB (iter (λ(a:Int × (List AC))=>IE E F a.1 a.2) (0,C)) λ(l:List AC)=>
 some l
def IG(m:List AC)(j:Int)(l:Int):Option (Int ⊕ (Ax Unit Int)):=
 if(decide (l<(m.length:Int))) then(
 AB (AL m l) λ(q:AC)=>
 if(decide (q.Item=j)) then(
 some (.inr (.ext l))
 ) else(
 AB (AZ .i64 (l+1)) λ(w:Int)=>
 some (.inl w)
 )
 ) else(
 some (.inr (.nrm ()))
 )
def In(l:List AC)(j:Int):Option (Int):=
 A7 (iter (λ(a:Int)=>IG l j a) 0) λ(m:Unit)=>
 some (-1)
def Gp(m:List AC)(l:Int)(A:Int)(j:Int)(q:Int):Option ((Int × Int) ⊕ (Ax Unit Bool)):=
 if(decide (q<A)) then(
 if(decide (j=l)) then(
 some (.inr (.ext true))
 ) else(
 AB (In m j) λ(w:Int)=>
 if(decide (w<0)) then(
 some (.inr (.ext false))
 ) else(
 AB (AL m w) λ(B:AC)=>
 AB (AZ .i64 (q+1)) λ(C:Int)=>
 some (.inl (B.Parent,C))
 )
 )
 ) else(
 some (.inr (.nrm ()))
 )
def MQ(m:List AC)(j:Int)(l:Int):Option (Bool):=
 AB (AZ .i64 ((m.length:Int)+1)) λ(q:Int)=>
 A7 (iter (λ(a:Int × Int)=>Gp m l q a.1 a.2) (j,0)) λ(w:Unit)=>
 some false
def IW(m:List AC)(l:List AC)(w:Int)(j:List AC):Option ((Int × (List AC)) ⊕ (List AC)):=
 if(decide (w<(m.length:Int))) then(
 AB (
 AB (AL j w) λ(A:AC)=>
 AB (In l A.Item) λ(B:Int)=>
 if(decide (0≤B)) then(
 AB (AL l B) λ(C:AC)=>
 some (j.set w.toNat (AC.mk A.Item A.Parent A.Place C.Attrs))
 ) else(
 some j
 )
 ) λ(q:List AC)=>
 AB (AZ .i64 (w+1)) λ(E:Int)=>
 some (.inl (E,q))
 ) else(
 some (.inr j)
 )
def IR(M:List Aw)(I:Int)(j:List AC)(l:List AC):Option ((Int × (List AC) × (List AC)) ⊕ ((List AC) × (List AC))):=
 if(decide (I<(M.length:Int))) then(
 CE (
 AB (AL M I) λ(m:Aw)=>
 if(decide (m.Kind=1)) then(
 AB (In l m.Item) λ(O:Int)=>
 CE (
 if(decide (O<0)) then(
 AB (app 56 l [(AC.mk m.Item 0 [] [])]) λ(C:List AC)=>
 some ((l.length:Int),C)
 ) else(
 some (O,l)
 )
 ) λ(T:Int) (w:List AC)=>
 AB (AL w T) λ(E:AC)=>
 AB (Lw E.Attrs [(AG.mk m.Name m.Value)]) λ(X:List AG)=>
 some (j,(w.set T.toNat (AC.mk E.Item E.Parent E.Place X)))
 ) else(
 AB (gd (((decide (m.Parent=m.Item))==false)&&((decide (0<m.Parent))==true)) (MQ j m.Parent m.Item)) λ(Z:Bool)=>
 if((m.Parent=m.Item)||((0<m.Parent)&&Z)) then(
 some (j,l)
 ) else(
 AB (In j m.Item) λ(U:Int)=>
 CE (
 if(decide (U<0)) then(
 AB (app 56 j [(AC.mk 0 0 [] [])]) λ(A:List AC)=>
 some ((j.length:Int),A)
 ) else(
 some (U,j)
 )
 ) λ(V:Int) (q:List AC)=>
 AB (AL q V) λ(a0:AC)=>
 some ((q.set V.toNat (AC.mk m.Item m.Parent m.Place [])),l)
 )
 )
 ) λ(B:List AC) (F:List AC)=>
 AB (AZ .i64 (I+1)) λ(J:Int)=>
 some (.inl (J,B,F))
 ) else(
 some (.inr (j,l))
 )
def Lo(q:List Aw):Option ((List AC) × (List AC)):=
 CE (iter (λ(a:Int × (List AC) × (List AC))=>IR q a.1 a.2.1 a.2.2) (0,[],[])) λ(j:List AC) (l:List AC)=>
 AB (iter (λ(a:Int × (List AC))=>IW j l a.1 a.2) (0,j)) λ(m:List AC)=>
 some (m,l)
def IP(B:List AC)(m:Int)(l:List UInt8)(w:Int)(j:Int)(C:Int):Option ((Int × Int) ⊕ Int):=
 if(decide (C<(B.length:Int))) then(
 AB (
 AB (AL B C) λ(q:AC)=>
 if(((!(q.Parent=m))||(Ay q.Place l))||((q.Place=l)&&(q.Item≤w))) then(
 some j
 ) else(
 AB (gd ((decide (j<0))==false) (AL B j)) λ(E:AC)=>
 AB (gd (((j<0)||(Ay q.Place E.Place))==false) (AL B j)) λ(F:AC)=>
 if(((j<0)||(Ay q.Place E.Place))||((q.Place=F.Place)&&(q.Item<F.Item))) then(
 some C
 ) else(
 some j
 )
 )
 ) λ(A:Int)=>
 AB (AZ .i64 (C+1)) λ(I:Int)=>
 some (.inl (A,I))
 ) else(
 some (.inr j)
 )
def GT(B:List AC)(j:Int)(self:(List AC)→(List AC)→Int→Option (List AC))(m:List UInt8)(w:Int)(q:List AC):Option (((List UInt8) × Int × (List AC)) ⊕ (Ax Unit (List AC))):=
 AB (iter (λ(a:Int × Int)=>IP B j m w a.1 a.2) ((-1),0)) λ(l:Int)=>
 if(decide (l<0)) then(
 some (.inr (.ext q))
 ) else(
 AB (AL B l) λ(A:AC)=>
 AB (app 56 q [A]) λ(C:List AC)=>
 AB (self C B A.Item) λ(E:List AC)=>
 some (.inl (A.Place,A.Item,E))
 )
def JO(self:(List AC)→(List AC)→Int→Option (List AC))(l:List AC)(m:List AC)(j:Int):Option ((List AC)):=
 A7 (iter (λ(a:(List UInt8) × Int × (List AC))=>GT m j self a.1 a.2.1 a.2.2) ([],0,l)) λ(q:Unit)=>
 none
def D3:Nat→(List AC)→(List AC)→Int→Option (List AC)
 | 0,_,_,_=>none
 | n+1,l,m,j=>JO (λl m j=>D3 n l m j) l m j
def Od(l:List AC)(m:List AC)(j:Int):Option ((List AC)):=
 @dite _ (∃n r,D3 n l m j=some r) (Classical.propDecidable _) (λh=>D3 h.choose l m j) (λ_=>none)
def I2(B:List AC)(E:List AC)(l:Int)(w:List AC)(j:Int)(A:Int):Option ((Int × Int) ⊕ Int):=
 if(decide (A<(B.length:Int))) then(
 AB (
 AB (AL B A) λ(q:AC)=>
 AB (gd ((decide (l<q.Item))==true) (DY w 0 (E.length:Int))) λ(F:List AC)=>
 AB (gd ((decide (l<q.Item))==true) (In F q.Item)) λ(C:Int)=>
 AB (gd ((((l<q.Item)&&(C<0))==true)&&((decide (j<0))==false)) (AL B j)) λ(I:AC)=>
 if(((l<q.Item)&&(C<0))&&((j<0)||(q.Item<I.Item))) then(
 some A
 ) else(
 some j
 )
 ) λ(m:Int)=>
 AB (AZ .i64 (A+1)) λ(J:Int)=>
 some (.inl (m,J))
 ) else(
 some (.inr j)
 )
def Iq(w:List AC)(A:List AC)(m:Int)(j:List AC):Option ((Int × (List AC)) ⊕ (Ax Unit ((List AC) × Int))):=
 AB (iter (λ(a:Int × Int)=>I2 w A m j a.1 a.2) ((-1),0)) λ(l:Int)=>
 if(decide (l<0)) then(
 some (.inr (.ext (j,(A.length:Int))))
 ) else(
 AB (AL w l) λ(B:AC)=>
 AB (app 56 j [B]) λ(q:List AC)=>
 some (.inl (B.Item,q))
 )
def Iv(m:List Aw):Option ((List AC) × Int):=
 CE (Lo m) λ(j:List AC) (q:List AC)=>
 AB (Od [] j 0) λ(l:List AC)=>
 A7 (iter (λ(a:Int × (List AC))=>Iq j l a.1 a.2) (0,l)) λ(w:Unit)=>
 none
def Ja(j:List AC)(l:Int)(m2:List (Int × Bool)):Option ((Int × (List (Int × Bool))) ⊕ (Ax Unit Int)):=
 if(decide (l<(j.length:Int))) then(
 AB (AL j l) λ(m:AC)=>
 if(!((AU m2 m.Parent).getD false)) then(
 some (.inr (.ext l))
 ) else(
 AB (AZ .i64 (l+1)) λ(q:Int)=>
 some (.inl (q,(Ah m2 m.Item true)))
 )
 ) else(
 some (.inr (.nrm ()))
 )
def O5(j:List AC):Option (Int):=
 A7 (iter (λ(a:Int × (List (Int × Bool)))=>Ja j a.1 a.2) (0,(Ah ([]:List (Int × Bool)) 0 true))) λ(l:Unit)=>
 some (j.length:Int)
end
noncomputable section
end
noncomputable section
structure Aq where
 id:Int
 parent:Int
 visible:Bool
deriving DecidableEq
instance:Inhabited Aq:=⟨⟨0,0,false⟩⟩
structure Ae where
 ID:Int
 Parent:Int
 Visible:Bool
deriving DecidableEq
instance:Inhabited Ae:=⟨⟨0,0,false⟩⟩
@[reducible] def Ae.row(x:Ae):List RV:=[.int .i64 x.ID,.int .i64 x.Parent,.bool x.Visible]
def Ii(d1:AR)(l:Int)(j:AR):Option ((Int × AR) ⊕ AR):=
 if(decide (l<(d1.Nodes.length:Int))) then(
 AB (AL d1.Nodes l) λ(m:AO)=>
 AB (N8 m) λ(q:AO)=>
 AB (AL j.Nodes l) λ(A:AO)=>
 AB (AZ .i64 (l+1)) λ(w:Int)=>
 some (.inl (w,(AR.mk (j.Nodes.set l.toNat q))))
 ) else(
 some (.inr j)
 )
def PY(d1:AR):Option (AR):=
 AB (mk 152 (d1.Nodes.length:Int) (AO.mk 0 0 [] [] (Av.mk 0 0 [] []) [])) λ(l:List AO)=>
 AB (iter (λ(a:Int × AR)=>Ii d1 a.1 a.2) (0,(AR.mk l))) λ(j:AR)=>
 some j
def QQ(d1:AR):Option (AR):=
 AB (PY d1) λ(j:AR)=>
 some j
def HO(l:List (List RV)→Option Bool)(j:List (List RV))(v1:Aq):Option (Bool × (List (List RV))):=
 AB (l (j++[[.int .i64 v1.id,.int .i64 v1.parent]])) λ(c1:Bool)=>
 some (c1,(j++[[.int .i64 v1.id,.int .i64 v1.parent]]))
def RG(j:List UInt8):Option (Int × Bool):=
 atoiS j
def strconv_Itoa(n1:Int):Option (List UInt8):=
 itoaS n1
def IS(d1:AR)(A:List AC)(q:Int)(j:List Int):Option ((Int × (List Int)) ⊕ (List Int)):=
 if(decide (q<(A.length:Int))) then(
 AB (
 AB (AL A q) λ(F:AC)=>
 AB (It F.Attrs [110,111,100,101]) λ(B:List UInt8)=>
 CE (RG B) λ(w:Int) (C:Bool)=>
 AB (gd ((!C)==false) (strconv_Itoa w)) λ(I:List UInt8)=>
 if((!C)||(!(I=B))) then(
 some j
 ) else(
 CE (Fc d1 w) λ(J:Int) (E:Bool)=>
 AB (gd (E==true) (AL d1.Nodes J)) λ(M:AO)=>
 if(E&&(M.Kind=1)) then(
 AB (app 8 j [w]) λ(l:List Int)=>
 some l
 ) else(
 some j
 )
 )
 ) λ(m:List Int)=>
 AB (AZ .i64 (q+1)) λ(O:Int)=>
 some (.inl (O,m))
 ) else(
 some (.inr j)
 )
def Gh(d1:AR)(n1:AO):Option ((List Int)):=
 AB (Nv n1.Draw) λ(l:List AC)=>
 AB (O5 l) λ(m:Int)=>
 AB (DY l 0 m) λ(q:List AC)=>
 AB (iter (λ(a:Int × (List Int))=>IS d1 q a.1 a.2) (0,[])) λ(j:List Int)=>
 some j
def Sr(E:List (List RV)→Option Bool)(F:AR)(v1:Aq)(self:(List (List RV)→Option Bool)→(List (Int × Bool))→(List (List RV))→AR→Aq→Option (Bool × (List (Int × Bool)) × (List (List RV))))(A:List Int)(m:Int)(l:List (Int × Bool))(j:List (List RV)):Option ((Int × (List (Int × Bool)) × (List (List RV))) ⊕ (Ax ((List (Int × Bool)) × (List (List RV))) (Bool × (List (Int × Bool)) × (List (List RV))))):=
 if(decide (m<(A.length:Int))) then(
 AB (AL A m) λ(q:Int)=>
 CK (self E l j F (Aq.mk q v1.id v1.visible)) λ(I:Bool) (B:List (Int × Bool)) (C:List (List RV))=>
 if(!I) then(
 some (.inr (.ext (false,B,C)))
 ) else(
 AB (AZ .i64 (m+1)) λ(w:Int)=>
 some (.inl (w,B,C))
 )
 ) else(
 some (.inr (.nrm (l,j)))
 )
def Tv(I:List (List RV)→Option Bool)(J:AR)(v1:Aq)(self:(List (List RV)→Option Bool)→(List (Int × Bool))→(List (List RV))→AR→Aq→Option (Bool × (List (Int × Bool)) × (List (List RV))))(w:AO)(A:Int)(B:List (Int × Bool))(m:List (List RV)):Option ((Int × (List (Int × Bool)) × (List (List RV))) ⊕ (Ax ((List (Int × Bool)) × (List (List RV))) (Bool × (List (Int × Bool)) × (List (List RV))))):=
 if(decide (A<(w.Grid.Cells.length:Int))) then(
 AB (AL w.Grid.Cells A) λ(j:An)=>
 AB (F9 w.Grid j.Row j.Col) λ(F:Ap)=>
 CK (
 if((!(j.Ref=0))==true) then(
 CK (self I B m J (Aq.mk j.Ref v1.id ((v1.visible&&(F.Row=j.Row))&&(F.Col=j.Col)))) λ(M:Bool) (O:List (Int × Bool)) (T:List (List RV))=>
 some (((!(j.Ref=0))&&(!M)),O,T)
 ) else(
 some (((!(j.Ref=0))&&false),B,m)
 )
 ) λ(C:Bool) (q:List (Int × Bool)) (l:List (List RV))=>
 if C then(
 some (.inr (.ext (false,q,l)))
 ) else(
 AB (AZ .i64 (A+1)) λ(E:Int)=>
 some (.inl (E,q,l))
 )
 ) else(
 some (.inr (.nrm (B,m)))
 )
def TA(E:List (List RV)→Option Bool)(F:AR)(v1:Aq)(self:(List (List RV)→Option Bool)→(List (Int × Bool))→(List (List RV))→AR→Aq→Option (Bool × (List (Int × Bool)) × (List (List RV))))(w:List Int)(l:Int)(A:List (Int × Bool))(j:List (List RV)):Option ((Int × (List (Int × Bool)) × (List (List RV))) ⊕ (Ax ((List (Int × Bool)) × (List (List RV))) (Bool × (List (Int × Bool)) × (List (List RV))))):=
 if(decide (l<(w.length:Int))) then(
 AB (AL w l) λ(m:Int)=>
 CK (self E A j F (Aq.mk m v1.id v1.visible)) λ(I:Bool) (B:List (Int × Bool)) (C:List (List RV))=>
 if(!I) then(
 some (.inr (.ext (false,B,C)))
 ) else(
 AB (AZ .i64 (l+1)) λ(q:Int)=>
 some (.inl (q,B,C))
 )
 ) else(
 some (.inr (.nrm (A,j)))
 )
def Ru(self:(List (List RV)→Option Bool)→(List (Int × Bool))→(List (List RV))→AR→Aq→Option (Bool × (List (Int × Bool)) × (List (List RV))))(q:List (List RV)→Option Bool)(w:List (Int × Bool))(l:List (List RV))(j:AR)(v1:Aq):Option (Bool × (List (Int × Bool)) × (List (List RV))):=
 if((AU w v1.id).getD false) then(
 some (true,w,l)
 ) else(
 CE (HO q l v1) λ(I:Bool) (F:List (List RV))=>
 if(!I) then(
 some (false,(Ah w v1.id true),F)
 ) else(
 CE (Fc j v1.id) λ(J:Int) (V:Bool)=>
 AB (AL j.Nodes J) λ(A:AO)=>
 AB (Jp A.Flow) λ(M:List Int)=>
 GA (iter (λ(a:Int × (List (Int × Bool)) × (List (List RV)))=>TA q j v1 self M a.1 a.2.1 a.2.2) (0,(Ah w v1.id true),F)) λ(O:List (Int × Bool)) (B:List (List RV))=>
 GA (iter (λ(a:Int × (List (Int × Bool)) × (List (List RV)))=>Tv q j v1 self A a.1 a.2.1 a.2.2) (0,O,B)) λ(T:List (Int × Bool)) (C:List (List RV))=>
 AB (Gh j A) λ(U:List Int)=>
 GA (iter (λ(a:Int × (List (Int × Bool)) × (List (List RV)))=>Sr q j v1 self U a.1 a.2.1 a.2.2) (0,T,C)) λ(E:List (Int × Bool)) (m:List (List RV))=>
 some (true,E,m)
 )
 )
def Hr:Nat→(List (List RV)→Option Bool)→(List (Int × Bool))→(List (List RV))→AR→Aq→Option (Bool × (List (Int × Bool)) × (List (List RV)))
 | 0,_,_,_,_,_=>none
 | n+1,l,m,j,q,v1=>Ru (λl m j q v1=>Hr n l m j q v1) l m j q v1
def P5(l:List (List RV)→Option Bool)(m:List (Int × Bool))(j:List (List RV))(q:AR)(v1:Aq):Option (Bool × (List (Int × Bool)) × (List (List RV))):=
 @dite _ (∃n r,Hr n l m j q v1=some r) (Classical.propDecidable _) (λh=>Hr h.choose l m j q v1) (λ_=>none)
def OC(l:List (List RV)→Option Bool)(j:List (List RV))(d1:AR):Option ((List (List RV))):=
 CK (P5 l ([]:List (Int × Bool)) j d1 (Aq.mk 1 0 true)) λ(q:Bool) (w:List (Int × Bool)) (m:List (List RV))=>
 some m
def H0(m:List (List RV)→Option Bool)(j:List (List RV))(l:AR):Option ((List (List RV))):=
 AB (Em l) λ(q:Int)=>
 if(!(q=0)) then(
 some j
 ) else(
 AB (OC m j l) λ(w:List (List RV))=>
 some w
 )
def H8(m:List Ae)(l:Int)(j:Int):Option (Int ⊕ (Ax Unit Int)):=
 if(decide (j<(m.length:Int))) then(
 AB (AL m j) λ(q:Ae)=>
 if(decide (q.ID=l)) then(
 some (.inr (.ext j))
 ) else(
 AB (AZ .i64 (j+1)) λ(w:Int)=>
 some (.inl w)
 )
 ) else(
 some (.inr (.nrm ()))
 )
def Dx(l:List Ae)(j:Int):Option (Int):=
 A7 (iter (λ(a:Int)=>H8 l j a) 0) λ(m:Unit)=>
 some (-1)
def Hi(m:List UInt8)(q:Int)(l:Int):Option ((Int × Int) ⊕ (Ax Int Int)):=
 if(decide (l<(m.length:Int))) then(
 AB (AL m l) λ(j:UInt8)=>
 if(((j.toNat:Int)<48)||(57<(j.toNat:Int))) then(
 some (.inr (.ext (-1)))
 ) else(
 AB (AZ .i64 (10 * q)) λ(w:Int)=>
 AB (AZ .i64 (w+(IntKind.i64.wrap (IntKind.u8.wrap ((j.toNat:Int)-48))))) λ(A:Int)=>
 AB (AZ .i64 (l+1)) λ(B:Int)=>
 some (.inl (A,B))
 )
 ) else(
 some (.inr (.nrm q))
 )
def N0(j:List UInt8):Option (Int):=
 AB (gd (((j=[])||(10<(j.length:Int)))==false) (AL j 0)) λ(l:UInt8)=>
 if(((j=[])||(10<(j.length:Int)))||(((l.toNat:Int)=48)&&(1<(j.length:Int)))) then(
 some (-1)
 ) else(
 A7 (iter (λ(a:Int × Int)=>Hi j a.1 a.2) (0,0)) λ(m:Int)=>
 some m
 )
def Ft(d1:AR)(E:Ae)(self:(List Ae)→AR→Ae→Option (List Ae))(F:List AC)(I:Int)(q:Int)(j:List Ae):Option ((Int × (List Ae)) ⊕ (List Ae)):=
 if(decide (q<I)) then(
 AB (
 AB (AL F q) λ(w:AC)=>
 AB (Jv w.Attrs [110,111,100,101]) λ(J:List UInt8)=>
 AB (N0 J) λ(l:Int)=>
 AB (GS d1 l) λ(A:Int)=>
 AB (gd (((0<l)&&(0≤A))==true) (AL d1.Nodes A)) λ(B:AO)=>
 if(((0<l)&&(0≤A))&&(B.Kind=1)) then(
 AB (self j d1 (Ae.mk l E.ID E.Visible)) λ(M:List Ae)=>
 some M
 ) else(
 some j
 )
 ) λ(m:List Ae)=>
 AB (AZ .i64 (q+1)) λ(C:Int)=>
 some (.inl (C,m))
 ) else(
 some (.inr j)
 )
def F1(d1:AR)(B:Ae)(self:(List Ae)→AR→Ae→Option (List Ae))(q:AO)(w:Int)(l:List Ae):Option ((Int × (List Ae)) ⊕ (List Ae)):=
 if(decide (w<(q.Grid.Cells.length:Int))) then(
 AB (
 AB (AL q.Grid.Cells w) λ(j:An)=>
 if(!(j.Ref=0)) then(
 AB (MH q.Grid j.Row j.Col) λ(C:Ap)=>
 AB (self l d1 (Ae.mk j.Ref B.ID ((B.Visible&&(C.Row=j.Row))&&(C.Col=j.Col)))) λ(E:List Ae)=>
 some E
 ) else(
 some l
 )
 ) λ(m:List Ae)=>
 AB (AZ .i64 (w+1)) λ(A:Int)=>
 some (.inl (A,m))
 ) else(
 some (.inr l)
 )
def GG(d1:AR)(A:Ae)(self:(List Ae)→AR→Ae→Option (List Ae))(B:AO)(q:Int)(j:List Ae):Option ((Int × (List Ae)) ⊕ (List Ae)):=
 if(decide (q<(B.Flow.length:Int))) then(
 AB (
 AB (AL B.Flow q) λ(m:AN)=>
 if(!(m.Ref=0)) then(
 AB (self j d1 (Ae.mk m.Ref A.ID A.Visible)) λ(C:List Ae)=>
 some C
 ) else(
 some j
 )
 ) λ(l:List Ae)=>
 AB (AZ .i64 (q+1)) λ(w:Int)=>
 some (.inl (w,l))
 ) else(
 some (.inr j)
 )
def Jm(self:(List Ae)→AR→Ae→Option (List Ae))(j:List Ae)(d1:AR)(q:Ae):Option ((List Ae)):=
 AB (Dx j q.ID) λ(C:Int)=>
 if(decide (0≤C)) then(
 some j
 ) else(
 AB (app 24 j [q]) λ(w:List Ae)=>
 AB (GS d1 q.ID) λ(E:Int)=>
 AB (AL d1.Nodes E) λ(B:AO)=>
 AB (iter (λ(a:Int × (List Ae))=>GG d1 q self B a.1 a.2) (0,w)) λ(A:List Ae)=>
 AB (iter (λ(a:Int × (List Ae))=>F1 d1 q self B a.1 a.2) (0,A)) λ(l:List Ae)=>
 CE (Iv B.Draw) λ(F:List AC) (I:Int)=>
 AB (iter (λ(a:Int × (List Ae))=>Ft d1 q self F I a.1 a.2) (0,l)) λ(m:List Ae)=>
 some m
 )
def Cc:Nat→(List Ae)→AR→Ae→Option (List Ae)
 | 0,_,_,_=>none
 | n+1,j,l,m=>Jm (λj l m=>Cc n j l m) j l m
def P3(j:List Ae)(d1:AR)(l:Ae):Option ((List Ae)):=
 @dite _ (∃n r,Cc n j d1 l=some r) (Classical.propDecidable _) (λh=>Cc h.choose j d1 l) (λ_=>none)
def Nh(d1:AR):Option ((List Ae)):=
 AB (P3 [] d1 (Ae.mk 1 0 true)) λ(j:List Ae)=>
 some j
end
noncomputable section
end
noncomputable section
structure AP where
 Node:Int
 Number:Int
 End:Bool
deriving DecidableEq
instance:Inhabited AP:=⟨⟨0,0,false⟩⟩
@[reducible] def AP.row(x:AP):List RV:=[.int .i64 x.Node,.int .i64 x.Number,.bool x.End]
structure Dg where
 d:AR
deriving DecidableEq
instance:Inhabited Dg:=⟨⟨(AR.mk [])⟩⟩
def Px(j:List AN):Option ((List AO)):=
 some [(AO.mk 1 0 [] [(AN.mk 0 2 [])] (Av.mk 0 0 [] []) []),(AO.mk 2 1 [] j (Av.mk 0 0 [] []) [])]
def JG(c1:(Int × Int))(j:List AP)(n1:AO):Option ((Int × Int) × (List AP)):=
 if(!(n1.Kind=4)) then(
 some (c1,j)
 ) else(
 AB (It n1.Attrs [107,105,110,100]) λ(q:List UInt8)=>
 if(decide (q=[101,110,100])) then(
 AB (AZ .i64 (c1.2+1)) λ(l:Int)=>
 AB (app 24 j [(AP.mk n1.ID l (decide (1=1)))]) λ(w:List AP)=>
 some ((c1.1,l),w)
 ) else(
 AB (AZ .i64 (c1.1+1)) λ(m:Int)=>
 AB (app 24 j [(AP.mk n1.ID m (decide (0=1)))]) λ(A:List AP)=>
 some ((m,c1.2),A)
 )
 )
def F2(w:Dg)(B:List (Int × Int))(n1:AO)(self:Dg→(List (Int × Int))→(List (Int × Bool))→(Int × Int)→(List AP)→AO→Option ((List (Int × Bool)) × (Int × Int) × (List AP)))(A:Int)(l:List (Int × Bool))(m:(Int × Int))(q:List AP):Option ((Int × (List (Int × Bool)) × (Int × Int) × (List AP)) ⊕ (Ax Unit ((List (Int × Bool)) × (Int × Int) × (List AP)))):=
 if(decide (A<(n1.Grid.Cells.length:Int))) then(
 CK (
 AB (AL n1.Grid.Cells A) λ(j:An)=>
 AB (F9 n1.Grid j.Row j.Col) λ(C:Ap)=>
 if(((j.Ref=0)||(!(((AU B j.Ref).getD 0)=n1.ID)))||((AU l j.Ref).getD false)) then(
 some (l,m,q)
 ) else(
 if((C.Row=j.Row)&&(C.Col=j.Col)) then(
 AB (HE w.d j.Ref) λ(F:Int)=>
 AB (AL w.d.Nodes F) λ(E:AO)=>
 CE (JG m q E) λ(I:(Int × Int)) (J:List AP)=>
 CK (self w B (Ah l j.Ref true) I J E) λ(M:List (Int × Bool)) (O:(Int × Int)) (T:List AP)=>
 some (M,O,T)
 ) else(
 some ((Ah l j.Ref true),m,q)
 )
 )
 ) λ(U:List (Int × Bool)) (V:(Int × Int)) (X:List AP)=>
 AB (AZ .i64 (A+1)) λ(Z:Int)=>
 some (.inl (Z,U,V,X))
 ) else(
 some (.inr (.ext (l,m,q)))
 )
def Ha(self:Dg→(List (Int × Int))→(List (Int × Bool))→(Int × Int)→(List AP)→AO→Option ((List (Int × Bool)) × (Int × Int) × (List AP)))(l:Dg)(m:List (Int × Int))(m2:List (Int × Bool))(c1:(Int × Int))(j:List AP)(n1:AO):Option ((List (Int × Bool)) × (Int × Int) × (List AP)):=
 if(!(n1.Kind=2)) then(
 some (m2,c1,j)
 ) else(
 A7 (iter (λ(a:Int × (List (Int × Bool)) × (Int × Int) × (List AP))=>F2 l m n1 self a.1 a.2.1 a.2.2.1 a.2.2.2) (0,m2,c1,j)) λ(q:Unit)=>
 none
 )
def HN(A:AN)(w:List AN)(j:Bool)(l:Int):Option ((Bool × Int) ⊕ Bool):=
 if(decide (l<(w.length:Int))) then(
 AB (AL w l) λ(m:AN)=>
 AB (AZ .i64 (l+1)) λ(q:Int)=>
 some (.inl ((j&&(!(m.Ref=A.Ref))),q))
 ) else(
 some (.inr j)
 )
def F7(B:Dg)(E:List (Int × Int))(n1:AO)(self:Dg→(List (Int × Int))→(List (Int × Bool))→(Int × Int)→(List AP)→AO→Option ((List (Int × Bool)) × (Int × Int) × (List AP)))(F:List Int)(C:Int)(m:List (Int × Bool))(w:(Int × Int))(A:List AP):Option ((Int × (List (Int × Bool)) × (Int × Int) × (List AP)) ⊕ (Ax Unit ((List (Int × Bool)) × (Int × Int) × (List AP)))):=
 if(decide (C<(F.length:Int))) then(
 CK (
 AB (AL F C) λ(I:Int)=>
 AB (AL n1.Flow I) λ(l:AN)=>
 if(((l.Ref=0)||(!(((AU E l.Ref).getD 0)=n1.ID)))||((AU m l.Ref).getD false)) then(
 some (m,w,A)
 ) else(
 AB (DY n1.Flow 0 I) λ(J:List AN)=>
 AB (iter (λ(a:Bool × Int)=>HN l J a.1 a.2) (true,0)) λ(j:Bool)=>
 if(!j) then(
 some ((Ah m l.Ref true),w,A)
 ) else(
 AB (HE B.d l.Ref) λ(M:Int)=>
 AB (AL B.d.Nodes M) λ(q:AO)=>
 CE (JG w A q) λ(O:(Int × Int)) (T:List AP)=>
 CK (Ha self B E (Ah m l.Ref true) O T q) λ(U:List (Int × Bool)) (V:(Int × Int)) (X:List AP)=>
 some (U,V,X)
 )
 )
 ) λ(Z:List (Int × Bool)) (o8:(Int × Int)) (o9:List AP)=>
 AB (AZ .i64 (C+1)) λ(x4:Int)=>
 some (.inl (x4,Z,o8,o9))
 ) else(
 some (.inr (.ext (m,w,A)))
 )
def I4(self:Dg→(List (Int × Int))→(List (Int × Bool))→(Int × Int)→(List AP)→AO→Option ((List (Int × Bool)) × (Int × Int) × (List AP)))(j:Dg)(l:List (Int × Int))(m2:List (Int × Bool))(c1:(Int × Int))(m:List AP)(n1:AO):Option ((List (Int × Bool)) × (Int × Int) × (List AP)):=
 AB (PV n1.Flow 0) λ(q:List Int)=>
 A7 (iter (λ(a:Int × (List (Int × Bool)) × (Int × Int) × (List AP))=>F7 j l n1 self q a.1 a.2.1 a.2.2.1 a.2.2.2) (0,m2,c1,m)) λ(w:Unit)=>
 none
def Ca:Nat→Dg→(List (Int × Int))→(List (Int × Bool))→(Int × Int)→(List AP)→AO→Option ((List (Int × Bool)) × (Int × Int) × (List AP))
 | 0,_,_,_,_,_,_=>none
 | n+1,j,l,m2,c1,m,q=>I4 (λj l m2 c1 m q=>Ca n j l m2 c1 m q) j l m2 c1 m q
def Lk(j:Dg)(l:List (Int × Int))(m2:List (Int × Bool))(c1:(Int × Int))(m:List AP)(n1:AO):Option ((List (Int × Bool)) × (Int × Int) × (List AP)):=
 @dite _ (∃n r,Ca n j l m2 c1 m n1=some r) (Classical.propDecidable _) (λh=>Ca h.choose j l m2 c1 m n1) (λ_=>none)
def Hw(m2:List (Int × Int))(l:Int)(j:Int):Option (List (Int × Int)):=
 some (Ah m2 l j)
def M0(c1:(Int × Int))(j:List AP)(d1:AR)(Do:Int):Option ((Int × Int) × (List AP)):=
 AB (QQ d1) λ(l:AR)=>
 AB (rng2 (λA=>H0 A [] l) (λ(a:(List (Int × Int)))=>Hw a) []) λ(m:List (Int × Int))=>
 AB (HE d1 Do) λ(q:Int)=>
 AB (AL d1.Nodes q) λ(w:AO)=>
 CK (Lk (Dg.mk d1) m ([]:List (Int × Bool)) c1 j w) λ(E:List (Int × Bool)) (B:(Int × Int)) (C:List AP)=>
 some (B,C)
def Hp(d1:AR)(Do:Int):Option ((List AP) × Int):=
 AB (Em d1) λ(j:Int)=>
 if(!(j=0)) then(
 some ([],j)
 ) else(
 AB (HE d1 Do) λ(l:Int)=>
 if(decide (l<0)) then(
 some ([],7)
 ) else(
 AB (AL d1.Nodes l) λ(m:AO)=>
 AB (Ds m.Kind) λ(q:Bool)=>
 if(!q) then(
 some ([],8)
 ) else(
 CE (M0 (0,0) [] d1 Do) λ(A:(Int × Int)) (w:List AP)=>
 some (w,0)
 )
 )
 )
def M4:Option (Bool):=
 AB (L7) λ(m:AN)=>
 AB (Px [(AN.mk 0 3 []),m]) λ(A:List AO)=>
 AB (app 152 A [(AO.mk 3 4 [] [m] (Av.mk 0 0 [] []) [])]) λ(B:List AO)=>
 CE (Hp (AR.mk B) 2) λ(j:List AP) (q:Int)=>
 AB (PP) λ(w:Bool)=>
 AB (gd (((w&&(q=0))&&((j.length:Int)=1))==true) (AL j 0)) λ(l:AP)=>
 some (((w&&(q=0))&&((j.length:Int)=1))&&((l.Node=3)&&((l.Number=1)&&((l.End==false)&&true))))
def KP(d1:AR)(Do:Int):Option (Int):=
 AB (L0 d1) λ(j:Int)=>
 if(!(j=0)) then(
 some j
 ) else(
 AB (GS d1 Do) λ(l:Int)=>
 if(decide (l<0)) then(
 some 7
 ) else(
 AB (AL d1.Nodes l) λ(m:AO)=>
 AB (Ko m.Kind) λ(q:Bool)=>
 if(!q) then(
 some 8
 ) else(
 some 0
 )
 )
 )
def IM(B:AO)(m:Int)(q:An)(j:Bool)(l:Int):Option ((Bool × Int) ⊕ Bool):=
 if(decide (l<m)) then(
 AB (gd (j==false) (AL B.Grid.Cells l)) λ(w:An)=>
 AB (AZ .i64 (l+1)) λ(A:Int)=>
 some (.inl ((j||(w.Ref=q.Ref)),A))
 ) else(
 some (.inr j)
 )
def Hu(d1:AR)(self:AR→Int→Option (List Int))(t1:List Ae)(x7:AN)(C:AO)(q:Int)(m:List Int):Option ((Int × (List Int)) ⊕ (Ax Unit (List Int))):=
 if(decide (q<(C.Grid.Cells.length:Int))) then(
 AB (
 AB (AL C.Grid.Cells q) λ(j:An)=>
 AB (MH C.Grid j.Row j.Col) λ(w:Ap)=>
 AB (iter (λ(a:Bool × Int)=>IM C q j a.1 a.2) (false,0)) λ(l:Bool)=>
 AB (gd (((((!(j.Ref=0))&&(!l))&&(w.Row=j.Row))&&(w.Col=j.Col))==true) (Dx t1 j.Ref)) λ(E:Int)=>
 AB (gd ((((((!(j.Ref=0))&&(!l))&&(w.Row=j.Row))&&(w.Col=j.Col))&&(0≤E))==true) (Dx t1 j.Ref)) λ(J:Int)=>
 AB (gd ((((((!(j.Ref=0))&&(!l))&&(w.Row=j.Row))&&(w.Col=j.Col))&&(0≤E))==true) (AL t1 J)) λ(F:Ae)=>
 if((((((!(j.Ref=0))&&(!l))&&(w.Row=j.Row))&&(w.Col=j.Col))&&(0≤E))&&(F.Parent=x7.Ref)) then(
 AB (app 8 m [j.Ref]) λ(M:List Int)=>
 AB (self d1 j.Ref) λ(O:List Int)=>
 AB (app 8 M O) λ(A:List Int)=>
 some A
 ) else(
 some m
 )
 ) λ(B:List Int)=>
 AB (AZ .i64 (q+1)) λ(I:Int)=>
 some (.inl (I,B))
 ) else(
 some (.inr (.ext m))
 )
def HC(q:AO)(x7:AN)(j:Int):Option (Int ⊕ Int):=
 AB (AL q.Flow j) λ(m:AN)=>
 if(!(m.Ref=x7.Ref)) then(
 AB (AZ .i64 (j+1)) λ(l:Int)=>
 some (.inl l)
 ) else(
 some (.inr j)
 )
def Hk(d1:AR)(B:Int)(self:AR→Int→Option (List Int))(t1:List Ae)(F:AO)(j:List Int)(C:Int)(l:List Int):Option ((Int × (List Int)) ⊕ (List Int)):=
 if(decide (C<(j.length:Int))) then(
 AB (
 AB (AL j C) λ(I:Int)=>
 AB (AL F.Flow I) λ(m:AN)=>
 AB (gd ((decide (m.Ref=0))==false) (Dx t1 m.Ref)) λ(E:Int)=>
 AB (gd (((m.Ref=0)||(E<0))==false) (Dx t1 m.Ref)) λ(M:Int)=>
 AB (gd (((m.Ref=0)||(E<0))==false) (AL t1 M)) λ(O:Ae)=>
 if(((m.Ref=0)||(E<0))||(!(O.Parent=B))) then(
 some l
 ) else(
 AB (iter (λ(a:Int)=>HC F m a) 0) λ(q:Int)=>
 if(!(q=I)) then(
 some l
 ) else(
 AB (app 8 l [m.Ref]) λ(w:List Int)=>
 AB (GS d1 m.Ref) λ(T:Int)=>
 AB (AL d1.Nodes T) λ(J:AO)=>
 if(!(J.Kind=2)) then(
 some w
 ) else(
 A7 (iter (λ(a:Int × (List Int))=>Hu d1 self t1 m J a.1 a.2) (0,w)) λ(V:Unit)=>
 none
 )
 )
 )
 ) λ(A:List Int)=>
 AB (AZ .i64 (C+1)) λ(U:Int)=>
 some (.inl (U,A))
 ) else(
 some (.inr l)
 )
def JB(self:AR→Int→Option (List Int))(d1:AR)(l:Int):Option ((List Int)):=
 AB (Nh d1) λ(w:List Ae)=>
 AB (GS d1 l) λ(A:Int)=>
 AB (AL d1.Nodes A) λ(q:AO)=>
 AB (Np q.Flow 0) λ(j:List Int)=>
 AB (iter (λ(a:Int × (List Int))=>Hk d1 l self w q j a.1 a.2) (0,[])) λ(m:List Int)=>
 some m
def D6:Nat→AR→Int→Option (List Int)
 | 0,_,_=>none
 | n+1,l,j=>JB (λl j=>D6 n l j) l j
def NK(d1:AR)(j:Int):Option ((List Int)):=
 @dite _ (∃n r,D6 n d1 j=some r) (Classical.propDecidable _) (λh=>D6 h.choose d1 j) (λ_=>none)
def II(d1:AR)(M:List Int)(j:Int)(m:Int)(J:Int)(l:List AP):Option ((Int × Int × Int × (List AP)) ⊕ (List AP)):=
 if(decide (J<(M.length:Int))) then(
 CK (
 AB (AL M J) λ(O:Int)=>
 AB (GS d1 O) λ(T:Int)=>
 AB (AL d1.Nodes T) λ(I:AO)=>
 if(!(I.Kind=4)) then(
 some (j,m,l)
 ) else(
 AB (Jv I.Attrs [107,105,110,100]) λ(U:List UInt8)=>
 if(decide (U=[101,110,100])) then(
 AB (AZ .i64 (m+1)) λ(w:Int)=>
 AB (app 24 l [(AP.mk I.ID w true)]) λ(B:List AP)=>
 some (j,w,B)
 ) else(
 AB (AZ .i64 (j+1)) λ(q:Int)=>
 AB (app 24 l [(AP.mk I.ID q false)]) λ(C:List AP)=>
 some (q,m,C)
 )
 )
 ) λ(A:Int) (E:Int) (F:List AP)=>
 AB (AZ .i64 (J+1)) λ(V:Int)=>
 some (.inl (A,E,V,F))
 ) else(
 some (.inr l)
 )
def Oc(d1:AR)(l:Int):Option ((List AP)):=
 AB (NK d1 l) λ(m:List Int)=>
 AB (iter (λ(a:Int × Int × Int × (List AP))=>II d1 m a.1 a.2.1 a.2.2.1 a.2.2.2) (0,0,0,[])) λ(j:List AP)=>
 some j
def K0(w:List AP)(j:List AP)(l:Int):Option (Int ⊕ (Ax Unit Bool)):=
 if(decide (l<(w.length:Int))) then(
 AB (AL w l) λ(m:AP)=>
 AB (AL j l) λ(q:AP)=>
 if(!((m.Node=q.Node)&&((m.Number=q.Number)&&((m.End==q.End)&&true)))) then(
 some (.inr (.ext false))
 ) else(
 AB (AZ .i64 (l+1)) λ(A:Int)=>
 some (.inl A)
 )
 ) else(
 some (.inr (.nrm ()))
 )
def Ri(d1:AR)(Do:Int):Option (Bool):=
 AB (M4) λ(w:Bool)=>
 if(!w) then(
 some false
 ) else(
 CE (Hp d1 Do) λ(l:List AP) (m:Int)=>
 AB (KP d1 Do) λ(q:Int)=>
 if(!(q=0)) then(
 some ((m=q)&&((l.length:Int)=0))
 ) else(
 AB (Oc d1 Do) λ(j:List AP)=>
 if((!(m=0))||(!((l.length:Int)=(j.length:Int)))) then(
 some false
 ) else(
 A7 (iter (λ(a:Int)=>K0 l j a) 0) λ(A:Unit)=>
 some true
 )
 )
 )
end
end Go.Proofs.YtifgmfoihehlbaaGreatDoor.Al
