/- Models, as printed. -/
import Derived.Test.YtdafahjmopdleaaGreatDoorAl2
namespace Go.Proofs.YtdafahjmopdleaaGreatDoor.Al
noncomputable section
structure Cq where
 Kind:Int
 N:Int
deriving DecidableEq
instance:Inhabited Cq:=⟨⟨0,0⟩⟩
@[reducible] def Cq.row(x:Cq):List RV:=[.int .i64 x.Kind,.int .i64 x.N]
structure vW where
 steps:List Cq
 used:Int
deriving DecidableEq
instance:Inhabited vW:=⟨⟨[],0⟩⟩
structure se where
 out:List Cq
 add:Int
 cut:Int
deriving DecidableEq
instance:Inhabited se:=⟨⟨[],0,0⟩⟩
structure AD where
 Name:List UInt8
 Value:List UInt8
deriving DecidableEq
instance:Inhabited AD:=⟨⟨[],[]⟩⟩
@[reducible] def AD.row(x:AD):List RV:=[.str x.Name,.str x.Value]
structure AC where
 Char:Int
 Ref:Int
 Attrs:List AD
deriving DecidableEq
instance:Inhabited AC:=⟨⟨0,0,[]⟩⟩
@[reducible] def AC.row(x:AC):List RV:=[.int .i64 x.Char,.int .i64 x.Ref,.sl (x.Attrs.map AD.row)]
structure Aq where
 Row:Int
 Col:Int
 Text:List UInt8
 Ref:Int
 Attrs:List AD
deriving DecidableEq
instance:Inhabited Aq:=⟨⟨0,0,[],0,[]⟩⟩
@[reducible] def Aq.row(x:Aq):List RV:=[.int .i64 x.Row,.int .i64 x.Col,.str x.Text,.int .i64 x.Ref,.sl (x.Attrs.map AD.row)]
structure An where
 Row:Int
 Col:Int
 H:Int
 W:Int
deriving DecidableEq
instance:Inhabited An:=⟨⟨0,0,0,0⟩⟩
@[reducible] def An.row(x:An):List RV:=[.int .i64 x.Row,.int .i64 x.Col,.int .i64 x.H,.int .i64 x.W]
structure BI where
 Rows:Int
 Cols:Int
 Cells:List Aq
 Merges:List An
deriving DecidableEq
instance:Inhabited BI:=⟨⟨0,0,[],[]⟩⟩
@[reducible] def BI.row(x:BI):List RV:=[.int .i64 x.Rows,.int .i64 x.Cols,.sl (x.Cells.map Aq.row),.sl (x.Merges.map An.row)]
structure BB where
 Clock:Int
 Site:Int
 Kind:Int
 Item:Int
 Parent:Int
 Place:List UInt8
 Name:List UInt8
 Value:List UInt8
deriving DecidableEq
instance:Inhabited BB:=⟨⟨0,0,0,0,0,[],[],[]⟩⟩
@[reducible] def BB.row(x:BB):List RV:=[.int .i64 x.Clock,.int .i64 x.Site,.int .i64 x.Kind,.int .i64 x.Item,.int .i64 x.Parent,.str x.Place,.str x.Name,.str x.Value]
structure Ae where
 ID:Int
 Kind:Int
 Attrs:List AD
 Flow:List AC
 Grid:BI
 Draw:List BB
deriving DecidableEq
instance:Inhabited Ae:=⟨⟨0,0,[],[],(BI.mk 0 0 [] []),[]⟩⟩
@[reducible] def Ae.row(x:Ae):List RV:=[.int .i64 x.ID,.int .i64 x.Kind,.sl (x.Attrs.map AD.row),.sl (x.Flow.map AC.row),.int .i64 x.Grid.Rows,.int .i64 x.Grid.Cols,.sl (x.Grid.Cells.map Aq.row),.sl (x.Grid.Merges.map An.row),.sl (x.Draw.map BB.row)]
structure AH where
 Kind:Int
 N:Int
 Attrs:List AD
 Elems:List AC
deriving DecidableEq
instance:Inhabited AH:=⟨⟨0,0,[],[]⟩⟩
@[reducible] def AH.row(x:AH):List RV:=[.int .i64 x.Kind,.int .i64 x.N,.sl (x.Attrs.map AD.row),.sl (x.Elems.map AC.row)]
structure D4 where
 Rows:List Cq
 Cols:List Cq
 Cells:List Aq
 Split:List An
 Merge:List An
deriving DecidableEq
instance:Inhabited D4:=⟨⟨[],[],[],[],[]⟩⟩
structure A3 where
 Kind:Int
 Node:Int
 New:Ae
 Attrs:List AD
 Steps:List AH
 Grid:D4
 Draw:List BB
deriving DecidableEq
instance:Inhabited A3:=⟨⟨0,0,(Ae.mk 0 0 [] [] (BI.mk 0 0 [] []) []),[],[],(D4.mk [] [] [] [] []),[]⟩⟩
@[reducible] def A3.row(x:A3):List RV:=[.int .i64 x.Kind,.int .i64 x.Node,.int .i64 x.New.ID,.int .i64 x.New.Kind,.sl (x.New.Attrs.map AD.row),.sl (x.New.Flow.map AC.row),.int .i64 x.New.Grid.Rows,.int .i64 x.New.Grid.Cols,.sl (x.New.Grid.Cells.map Aq.row),.sl (x.New.Grid.Merges.map An.row),.sl (x.New.Draw.map BB.row),.sl (x.Attrs.map AD.row),.sl (x.Steps.map AH.row),.sl (x.Grid.Rows.map Cq.row),.sl (x.Grid.Cols.map Cq.row),.sl (x.Grid.Cells.map Aq.row),.sl (x.Grid.Split.map An.row),.sl (x.Grid.Merge.map An.row),.sl (x.Draw.map BB.row)]
structure s8 where
 Site:Int
 Number:Int
 Change:List A3
 Undoes:Int
 Refused:Int
deriving DecidableEq
instance:Inhabited s8:=⟨⟨0,0,[],0,0⟩⟩
structure oE where
 From:Int
 To:Int
deriving DecidableEq
instance:Inhabited oE:=⟨⟨0,0⟩⟩
def CV(q:Int)(l:Int)(j:Int):Option (Bool):=
 some ((l≤q)&&(q≤j))
def W4(F:List Cq)(j:Int)(l:Int)(u:Int):Option ((Int × Int × Int) ⊕ (Ai (Int × Int) Int)):=
 if(decide (u<(F.length:Int))) then(
 E1 (
 AB (AJ F u) λ(q:Cq)=>
 AB (CV q.Kind 0 2) λ(J:Bool)=>
 if(!J) then(
 some (.ext (.inr (.ext 8)))
 ) else(
 AB (CV q.N 1 2147483647) λ(M:Bool)=>
 if(!M) then(
 some (.ext (.inr (.ext 2)))
 ) else(
 AB (gd ((decide (0<u))==true) (AK .i64 (u-1))) λ(O:Int)=>
 AB (gd ((decide (0<u))==true) (AJ F O)) λ(I:Cq)=>
 AB (gd ((((decide (0<u))==true)&&((decide (q.Kind=I.Kind))==false))&&((decide (q.Kind=1))==true)) (AK .i64 (u-1))) λ(T:Int)=>
 AB (gd ((((decide (0<u))==true)&&((decide (q.Kind=I.Kind))==false))&&((decide (q.Kind=1))==true)) (AJ F T)) λ(U:Cq)=>
 if((0<u)&&((q.Kind=I.Kind)||((q.Kind=1)&&(U.Kind=2)))) then(
 some (.ext (.inr (.ext 5)))
 ) else(
 AB (
 if((!(q.Kind=1))&&(j<2147483648)) then(
 AB (AK .i64 (j+q.N)) λ(A:Int)=>
 some A
 ) else(
 some j
 )
 ) λ(w:Int)=>
 if((!(q.Kind=2))&&(l<2147483648)) then(
 AB (AK .i64 (l+q.N)) λ(B:Int)=>
 some (.nrm (w,B))
 ) else(
 some (.nrm (w,l))
 )
 )
 )
 )
 ) λ(C:Int) (E:Int)=>
 AB (AK .i64 (u+1)) λ(V:Int)=>
 some (.inl (C,E,V))
 ) else(
 some (.inr (.nrm (j,l)))
 )
def Rz(q:List Cq):Option (Int):=
 E1 (iter (λ(a:Int × Int × Int)=>W4 q a.1 a.2.1 a.2.2) (0,0,0)) λ(j:Int) (l:Int)=>
 if((2147483647<j)||(2147483647<l)) then(
 some 3
 ) else(
 some 0
 )
def NO(q:List UInt8)(l:Int):Option (Int ⊕ (Ai Unit Bool)):=
 if(decide (l<(q.length:Int))) then(
 AB (AJ q l) λ(j:UInt8)=>
 if((((((j.toNat:Int)<97)||(122<(j.toNat:Int)))&&(((j.toNat:Int)<48)||(57<(j.toNat:Int))))&&(!((j.toNat:Int)=46)))&&(!((j.toNat:Int)=45))) then(
 some (.inr (.ext false))
 ) else(
 AB (AK .i64 (l+1)) λ(u:Int)=>
 some (.inl u)
 )
 ) else(
 some (.inr (.nrm ()))
 )
def Mq(j:List UInt8):Option (Bool):=
 AB (gd (((j=[])||(24<(j.length:Int)))==false) (AJ j 0)) λ(l:UInt8)=>
 AB (gd ((((j=[])||(24<(j.length:Int)))||((l.toNat:Int)<97))==false) (AJ j 0)) λ(q:UInt8)=>
 if((((j=[])||(24<(j.length:Int)))||((l.toNat:Int)<97))||(122<(q.toNat:Int))) then(
 some false
 ) else(
 Aj (iter (λ(a:Int)=>NO j a) 0) λ(u:Unit)=>
 some true
 )
def RP(q:List UInt8)(l:Int):Option (Int ⊕ (Ai Unit Bool)):=
 if(decide (l<(q.length:Int))) then(
 AB (AJ q l) λ(j:UInt8)=>
 if(((j.toNat:Int)<32)||(126<(j.toNat:Int))) then(
 some (.inr (.ext false))
 ) else(
 AB (AK .i64 (l+1)) λ(u:Int)=>
 some (.inl u)
 )
 ) else(
 some (.inr (.nrm ()))
 )
def Iq(j:List UInt8):Option (Bool):=
 if((j=[])||(200<(j.length:Int))) then(
 some false
 ) else(
 Aj (iter (λ(a:Int)=>RP j a) 0) λ(l:Unit)=>
 some true
 )
def Lx(u:List AD)(j:Bool)(l:Int):Option (Int ⊕ (Ai Unit Int)):=
 if(decide (l<(u.length:Int))) then(
 AB (AJ u l) λ(q:AD)=>
 AB (Mq q.Name) λ(A:Bool)=>
 if(!A) then(
 some (.inr (.ext 9))
 ) else(
 AB (Iq q.Value) λ(B:Bool)=>
 if((!B)&&(!(j&&(q.Value=[])))) then(
 some (.inr (.ext 23))
 ) else(
 AB (gd ((decide (0<l))==true) (AK .i64 (l-1))) λ(C:Int)=>
 AB (gd ((decide (0<l))==true) (AJ u C)) λ(w:AD)=>
 if((0<l)&&(Au q.Name w.Name||(q.Name=w.Name))) then(
 some (.inr (.ext 5))
 ) else(
 AB (AK .i64 (l+1)) λ(E:Int)=>
 some (.inl E)
 )
 )
 )
 ) else(
 some (.inr (.nrm ()))
 )
def MP(l:List AD)(j:Bool):Option (Int):=
 Aj (iter (λ(a:Int)=>Lx l j a) 0) λ(q:Unit)=>
 some 0
def Hx(j:List AD):Option (Int):=
 AB (MP j false) λ(l:Int)=>
 some l
def Jx(j:List AD):Option (Int):=
 AB (MP j true) λ(l:Int)=>
 some l
def KO(j:List AD)(q:AD)(l:AD):Option ((List AD)):=
 if(decide (l.Name=[])) then(
 AB (app 32 j [q]) λ(u:List AD)=>
 some u
 ) else(
 if(!(l.Value=[])) then(
 AB (app 32 j [l]) λ(w:List AD)=>
 some w
 ) else(
 some j
 )
 )
def RN(l:List AD)(u:List AD)(j:Int)(q:Int)(o2:List AD):Option ((Int × Int × (List AD)) ⊕ (Ai Unit (List AD))):=
 if((j<(l.length:Int))||(q<(u.length:Int))) then(
 AB (gd (((decide (q=(u.length:Int)))==false)&&((decide (j<(l.length:Int)))==true)) (AJ l j)) λ(A:AD)=>
 AB (gd (((decide (q=(u.length:Int)))==false)&&((decide (j<(l.length:Int)))==true)) (AJ u q)) λ(B:AD)=>
 if((q=(u.length:Int))||((j<(l.length:Int))&&(Au A.Name B.Name))) then(
 AB (AJ l j) λ(C:AD)=>
 AB (KO o2 C (AD.mk [] [])) λ(E:List AD)=>
 AB (AK .i64 (j+1)) λ(F:Int)=>
 some (.inl (F,q,E))
 ) else(
 AB (gd ((decide (j=(l.length:Int)))==false) (AJ u q)) λ(I:AD)=>
 AB (gd ((decide (j=(l.length:Int)))==false) (AJ l j)) λ(J:AD)=>
 if((j=(l.length:Int))||(Au I.Name J.Name)) then(
 AB (AJ u q) λ(M:AD)=>
 AB (KO o2 (AD.mk [] []) M) λ(O:List AD)=>
 AB (AK .i64 (q+1)) λ(T:Int)=>
 some (.inl (j,T,O))
 ) else(
 AB (AJ l j) λ(U:AD)=>
 AB (AJ u q) λ(V:AD)=>
 AB (KO o2 U V) λ(X:List AD)=>
 AB (AK .i64 (j+1)) λ(w:Int)=>
 AB (AK .i64 (q+1)) λ(Y:Int)=>
 some (.inl (w,Y,X))
 )
 )
 ) else(
 some (.inr (.ext o2))
 )
def Qg(j:List AD)(l:List AD)(q:List AD):Option ((List AD)):=
 Aj (iter (λ(a:Int × Int × (List AD))=>RN l q a.1 a.2.1 a.2.2) (0,0,j)) λ(u:Unit)=>
 none
def Lj(l:List AD)(j:List AD):Option ((List AD)):=
 AB (Qg [] l j) λ(q:List AD)=>
 some q
def O3(l:List AD)(w:List AD)(j:Int):Option (Int ⊕ (Ai Unit Bool)):=
 if(decide (j<(l.length:Int))) then(
 AB (AJ l j) λ(q:AD)=>
 AB (AJ w j) λ(u:AD)=>
 if(!((q.Name=u.Name)&&((q.Value=u.Value)&&true))) then(
 some (.inr (.ext false))
 ) else(
 AB (AK .i64 (j+1)) λ(A:Int)=>
 some (.inl A)
 )
 ) else(
 some (.inr (.nrm ()))
 )
def Fe(j:List AD)(l:List AD):Option (Bool):=
 if(!((j.length:Int)=(l.length:Int))) then(
 some false
 ) else(
 Aj (iter (λ(a:Int)=>O3 j l a) 0) λ(q:Unit)=>
 some true
 )
def Ns(q:List UInt8)(l:Int):Option (Int ⊕ (Ai Unit Bool)):=
 if(decide (l<(q.length:Int))) then(
 AB (AJ q l) λ(j:UInt8)=>
 if((!((97≤(j.toNat:Int))&&((j.toNat:Int)≤122)))&&((l=0)||(((!((j.toNat:Int)=46))&&(!((j.toNat:Int)=45)))&&(((j.toNat:Int)<48)||(57<(j.toNat:Int)))))) then(
 some (.inr (.ext false))
 ) else(
 AB (AK .i64 (l+1)) λ(u:Int)=>
 some (.inl u)
 )
 ) else(
 some (.inr (.nrm ()))
 )
def Mt(j:List UInt8):Option (Bool):=
 Aj (iter (λ(a:Int)=>Ns j a) 0) λ(l:Unit)=>
 some ((1≤(j.length:Int))&&((j.length:Int)≤24))
def Oe(q:List UInt8)(l:Int):Option (Int ⊕ (Ai Unit Bool)):=
 if(decide (l<(q.length:Int))) then(
 AB (AJ q l) λ(j:UInt8)=>
 if(((j.toNat:Int)<32)||(126<(j.toNat:Int))) then(
 some (.inr (.ext false))
 ) else(
 AB (AK .i64 (l+1)) λ(u:Int)=>
 some (.inl u)
 )
 ) else(
 some (.inr (.nrm ()))
 )
def Kj(j:List UInt8):Option (Bool):=
 Aj (iter (λ(a:Int)=>Oe j a) 0) λ(l:Unit)=>
 some ((1≤(j.length:Int))&&((j.length:Int)≤200))
def L7(u:List AD)(j:Bool)(l:Int):Option (Int ⊕ (Ai Unit Int)):=
 if(decide (l<(u.length:Int))) then(
 AB (AJ u l) λ(q:AD)=>
 AB (Mt q.Name) λ(w:Bool)=>
 if(!w) then(
 some (.inr (.ext 9))
 ) else(
 AB (Kj q.Value) λ(A:Bool)=>
 if((!A)&&((!(q.Value=[]))||(!j))) then(
 some (.inr (.ext 23))
 ) else(
 AB (gd ((decide (0<l))==true) (AK .i64 (l-1))) λ(B:Int)=>
 AB (gd ((decide (0<l))==true) (AJ u B)) λ(C:AD)=>
 if((0<l)&&(!Au C.Name q.Name)) then(
 some (.inr (.ext 5))
 ) else(
 AB (AK .i64 (l+1)) λ(E:Int)=>
 some (.inl E)
 )
 )
 )
 ) else(
 some (.inr (.nrm ()))
 )
def Gn(l:List AD)(j:Bool):Option (Int):=
 Aj (iter (λ(a:Int)=>L7 l j a) 0) λ(q:Unit)=>
 some 0
def P8(q:List AD)(j:List UInt8)(l:Int):Option (Int ⊕ (Ai Unit (List UInt8))):=
 if(decide (l<(q.length:Int))) then(
 AB (AJ q l) λ(u:AD)=>
 if(decide (u.Name=j)) then(
 some (.inr (.ext u.Value))
 ) else(
 AB (AK .i64 (l+1)) λ(w:Int)=>
 some (.inl w)
 )
 ) else(
 some (.inr (.nrm ()))
 )
def Gs(l:List AD)(j:List UInt8):Option ((List UInt8)):=
 Aj (iter (λ(a:Int)=>P8 l j a) 0) λ(q:Unit)=>
 some []
def OI(q:List AD)(j:List UInt8)(l:Int):Option (Int ⊕ (Ai Unit (List UInt8))):=
 if(decide (l<(q.length:Int))) then(
 AB (AJ q l) λ(u:AD)=>
 if(decide (u.Name=j)) then(
 some (.inr (.ext u.Value))
 ) else(
 AB (AK .i64 (l+1)) λ(w:Int)=>
 some (.inl w)
 )
 ) else(
 some (.inr (.nrm ()))
 )
def Ib(l:List AD)(j:List UInt8):Option ((List UInt8)):=
 Aj (iter (λ(a:Int)=>OI l j a) 0) λ(q:Unit)=>
 some []
def RI(F:List AD)(I:AD)(j:Bool)(E:Int)(l:List AD):Option ((Bool × Int × (List AD)) ⊕ (Bool × (List AD))):=
 if(decide (E<(F.length:Int))) then(
 Bm (
 AB (gd ((!j)==true) (AJ F E)) λ(M:AD)=>
 Bm (
 if((!j)&&(!Au M.Name I.Name)) then(
 AB (app 32 l [I]) λ(w:List AD)=>
 some (true,w)
 ) else(
 some (j,l)
 )
 ) λ(q:Bool) (u:List AD)=>
 AB (AJ F E) λ(J:AD)=>
 if(!(J.Name=I.Name)) then(
 AB (app 32 u [J]) λ(B:List AD)=>
 some (q,B)
 ) else(
 some (q,u)
 )
 ) λ(A:Bool) (C:List AD)=>
 AB (AK .i64 (E+1)) λ(O:Int)=>
 some (.inl (A,O,C))
 ) else(
 some (.inr (j,l))
 )
def G4(A:List AD)(w:AD):Option ((List AD)):=
 Bm (iter (λ(a:Bool × Int × (List AD))=>RI A w a.1 a.2.1 a.2.2) (false,0,[])) λ(l:Bool) (j:List AD)=>
 AB (
 if(!l) then(
 AB (app 32 j [w]) λ(q:List AD)=>
 some q
 ) else(
 some j
 )
 ) λ(u:List AD)=>
 some u
def QV(l:List AD)(A:Int)(j:List AD):Option ((Int × (List AD)) ⊕ (List AD)):=
 if(decide (A<(l.length:Int))) then(
 AB (
 AB (AJ l A) λ(w:AD)=>
 if(!(w.Value=[])) then(
 AB (app 32 j [w]) λ(q:List AD)=>
 some q
 ) else(
 some j
 )
 ) λ(u:List AD)=>
 AB (AK .i64 (A+1)) λ(B:Int)=>
 some (.inl (B,u))
 ) else(
 some (.inr j)
 )
def Oa(j:List AD)(l:List AD)(u:Int):Option (((List AD) × Int) ⊕ (List AD)):=
 if(decide (u<(j.length:Int))) then(
 AB (AJ j u) λ(w:AD)=>
 AB (G4 l w) λ(q:List AD)=>
 AB (AK .i64 (u+1)) λ(A:Int)=>
 some (.inl (q,A))
 ) else(
 some (.inr l)
 )
def Pc(A:List AD)(j:List AD)(q:Int):Option (((List AD) × Int) ⊕ (List AD)):=
 if(decide (q<(A.length:Int))) then(
 AB (AJ A q) λ(u:AD)=>
 AB (G4 j u) λ(l:List AD)=>
 AB (AK .i64 (q+1)) λ(w:Int)=>
 some (.inl (l,w))
 ) else(
 some (.inr j)
 )
def Hj(w:List AD)(j:List AD):Option ((List AD)):=
 AB (iter (λ(a:(List AD) × Int)=>Pc w a.1 a.2) ([],0)) λ(q:List AD)=>
 AB (iter (λ(a:(List AD) × Int)=>Oa j a.1 a.2) (q,0)) λ(u:List AD)=>
 AB (iter (λ(a:Int × (List AD))=>QV u a.1 a.2) (0,[])) λ(l:List AD)=>
 some l
def Jh(j:Int):Option (Bool):=
 some (((((j=9)||(j=10))||((32≤j)&&(j<127)))||((160≤j)&&(j<55296)))||((57343<j)&&(j≤1114111)))
def L6(j:AC):Option (Int):=
 if((!(j.Char=0))==(!(j.Ref=0))) then(
 some 4
 ) else(
 AB (gd ((decide (j.Ref=0))==true) (Jh j.Char)) λ(l:Bool)=>
 AB (
 if((j.Ref=0)&&(!l)) then(
 some ((j.Ref=0)&&(!l))
 ) else(
 some ((!(j.Ref=0))&&((j.Ref<1)||(1073741824<j.Ref)))
 )
 ) λ(q:Bool)=>
 if q then(
 some 2
 ) else(
 AB (Hx j.Attrs) λ(u:Int)=>
 some u
 )
 )
def Pq(f1:List AC)(j:Int):Option (Int ⊕ (Ai Unit Int)):=
 if(decide (j<(f1.length:Int))) then(
 AB (AJ f1 j) λ(q:AC)=>
 AB (L6 q) λ(l:Int)=>
 if(!(l=0)) then(
 some (.inr (.ext l))
 ) else(
 AB (AK .i64 (j+1)) λ(u:Int)=>
 some (.inl u)
 )
 ) else(
 some (.inr (.nrm ()))
 )
def RH(f1:List AC):Option (Int):=
 Aj (iter (λ(a:Int)=>Pq f1 a) 0) λ(j:Unit)=>
 some 0
def PB(l:AC)(j:Int):Option (Bool):=
 AB (Gs l.Attrs [104,105,100,100,101,110]) λ(q:List UInt8)=>
 AB (gd (((decide (q=[111,110]))==false)&&((decide (j=0))==true)) (Gs l.Attrs [99,117,116])) λ(u:List UInt8)=>
 AB (gd ((((q=[111,110])||((j=0)&&(!(u=[]))))==false)&&((decide (j=1))==true)) (Gs l.Attrs [97,100,100])) λ(w:List UInt8)=>
 some (((q=[111,110])||((j=0)&&(!(u=[]))))||((j=1)&&(!(w=[]))))
def L4(f1:List AC)(l:Int)(q:Int)(j:List Int):Option ((Int × (List Int)) ⊕ (List Int)):=
 if(decide (q<(f1.length:Int))) then(
 AB (
 AB (AJ f1 q) λ(A:AC)=>
 AB (PB A l) λ(B:Bool)=>
 AB (gd ((!B)==false) (AK .i64 ((f1.length:Int)-1))) λ(C:Int)=>
 if((!B)||((q=C)&&(A.Char=10))) then(
 AB (app 8 j [q]) λ(u:List Int)=>
 some u
 ) else(
 some j
 )
 ) λ(w:List Int)=>
 AB (AK .i64 (q+1)) λ(E:Int)=>
 some (.inl (E,w))
 ) else(
 some (.inr j)
 )
def Pt(f1:List AC)(j:Int):Option ((List Int)):=
 AB (iter (λ(a:Int × (List Int))=>L4 f1 j a.1 a.2) (0,[])) λ(l:List Int)=>
 some l
def JU(j:Int):Option (Bool):=
 AB (gd (((j=9)||(j=10))==false) (CV j 32 126)) λ(l:Bool)=>
 AB (gd ((((j=9)||(j=10))||l)==false) (CV j 160 55295)) λ(q:Bool)=>
 AB (gd (((((j=9)||(j=10))||l)||q)==false) (CV j 57344 1114111)) λ(u:Bool)=>
 some (((((j=9)||(j=10))||l)||q)||u)
def MZ(j:AC):Option (Int):=
 if(((j.Char=0)&&(j.Ref=0))||((!(j.Char=0))&&(!(j.Ref=0)))) then(
 some 4
 ) else(
 AB (gd ((!(j.Char=0))==true) (JU j.Char)) λ(l:Bool)=>
 AB (gd ((((!(j.Char=0))&&(!l))==false)&&((!(j.Ref=0))==true)) (CV j.Ref 1 1073741824)) λ(q:Bool)=>
 if(((!(j.Char=0))&&(!l))||((!(j.Ref=0))&&(!q))) then(
 some 2
 ) else(
 AB (Gn j.Attrs false) λ(u:Int)=>
 some u
 )
 )
def Py(f1:List AC)(j:Int):Option (Int ⊕ (Ai Unit Int)):=
 if(decide (j<(f1.length:Int))) then(
 AB (AJ f1 j) λ(q:AC)=>
 AB (MZ q) λ(l:Int)=>
 if(!(l=0)) then(
 some (.inr (.ext l))
 ) else(
 AB (AK .i64 (j+1)) λ(u:Int)=>
 some (.inl u)
 )
 ) else(
 some (.inr (.nrm ()))
 )
def OE(f1:List AC):Option (Int):=
 Aj (iter (λ(a:Int)=>Py f1 a) 0) λ(j:Unit)=>
 some 0
def O5(q:List AD)(j:List UInt8)(l:Int):Option (Int ⊕ (Ai Unit Bool)):=
 if(decide (l<(q.length:Int))) then(
 AB (AJ q l) λ(u:AD)=>
 if(decide (u.Name=j)) then(
 some (.inr (.ext true))
 ) else(
 AB (AK .i64 (l+1)) λ(w:Int)=>
 some (.inl w)
 )
 ) else(
 some (.inr (.nrm ()))
 )
def M4(l:List AD)(j:List UInt8):Option (Bool):=
 Aj (iter (λ(a:Int)=>O5 l j a) 0) λ(q:Unit)=>
 some false
def MG(f1:List AC)(j:Int)(u:Int)(l:List Int):Option ((Int × (List Int)) ⊕ (List Int)):=
 if(decide (u<(f1.length:Int))) then(
 AB (
 AB (AJ f1 u) λ(B:AC)=>
 AB (Ib B.Attrs [104,105,100,100,101,110]) λ(E:List UInt8)=>
 AB (gd ((decide (j=0))==true) (M4 B.Attrs [99,117,116])) λ(C:Bool)=>
 AB (gd ((((j=0)&&C)==false)&&((decide (j=1))==true)) (M4 B.Attrs [97,100,100])) λ(F:Bool)=>
 AB (
 if(((j=0)&&C)||((j=1)&&F)) then(
 some false
 ) else(
 some (!(E=[111,110]))
 )
 ) λ(q:Bool)=>
 AB (gd (q==false) (AK .i64 ((f1.length:Int)-1))) λ(I:Int)=>
 if(q||((u=I)&&(B.Char=10))) then(
 AB (app 8 l [u]) λ(w:List Int)=>
 some w
 ) else(
 some l
 )
 ) λ(A:List Int)=>
 AB (AK .i64 (u+1)) λ(J:Int)=>
 some (.inl (J,A))
 ) else(
 some (.inr l)
 )
def HS(f1:List AC)(j:Int):Option ((List Int)):=
 AB (iter (λ(a:Int × (List Int))=>MG f1 j a.1 a.2) (0,[])) λ(l:List Int)=>
 some l
def RM(l:List AD)(w:List AD)(j:Int):Option (Int ⊕ (Ai Unit Bool)):=
 if(decide (j<(l.length:Int))) then(
 AB (AJ l j) λ(q:AD)=>
 AB (AJ w j) λ(u:AD)=>
 if(!((q.Name=u.Name)&&((q.Value=u.Value)&&true))) then(
 some (.inr (.ext false))
 ) else(
 AB (AK .i64 (j+1)) λ(A:Int)=>
 some (.inl A)
 )
 ) else(
 some (.inr (.nrm ()))
 )
def Gb(j:List AD)(l:List AD):Option (Bool):=
 if(!((j.length:Int)=(l.length:Int))) then(
 some false
 ) else(
 Aj (iter (λ(a:Int)=>RM j l a) 0) λ(q:Unit)=>
 some true
 )
def Kh(l:List AD)(q:AD)(j:AD):Option ((List AD)):=
 AB (
 if(decide (j.Name=[])) then(
 some q
 ) else(
 some j
 )
 ) λ(u:AD)=>
 AB (app 32 l [u]) λ(w:List AD)=>
 some w
def PV(l:List AD)(u:List AD)(j:Int)(q:Int)(o2:List AD):Option ((Int × Int × (List AD)) ⊕ (Ai Unit (List AD))):=
 if((j<(l.length:Int))||(q<(u.length:Int))) then(
 AB (gd (((decide (q=(u.length:Int)))==false)&&((decide (j<(l.length:Int)))==true)) (AJ l j)) λ(A:AD)=>
 AB (gd (((decide (q=(u.length:Int)))==false)&&((decide (j<(l.length:Int)))==true)) (AJ u q)) λ(B:AD)=>
 if((q=(u.length:Int))||((j<(l.length:Int))&&(Au A.Name B.Name))) then(
 AB (AJ l j) λ(C:AD)=>
 AB (Kh o2 C (AD.mk [] [])) λ(E:List AD)=>
 AB (AK .i64 (j+1)) λ(F:Int)=>
 some (.inl (F,q,E))
 ) else(
 AB (gd ((decide (j=(l.length:Int)))==false) (AJ u q)) λ(I:AD)=>
 AB (gd ((decide (j=(l.length:Int)))==false) (AJ l j)) λ(J:AD)=>
 if((j=(l.length:Int))||(Au I.Name J.Name)) then(
 AB (AJ u q) λ(M:AD)=>
 AB (Kh o2 (AD.mk [] []) M) λ(O:List AD)=>
 AB (AK .i64 (q+1)) λ(T:Int)=>
 some (.inl (j,T,O))
 ) else(
 AB (AJ l j) λ(U:AD)=>
 AB (AJ u q) λ(V:AD)=>
 AB (Kh o2 U V) λ(X:List AD)=>
 AB (AK .i64 (j+1)) λ(w:Int)=>
 AB (AK .i64 (q+1)) λ(Y:Int)=>
 some (.inl (w,Y,X))
 )
 )
 ) else(
 some (.inr (.ext o2))
 )
def Ql(j:List AD)(l:List AD)(q:List AD):Option ((List AD)):=
 Aj (iter (λ(a:Int × Int × (List AD))=>PV l q a.1 a.2.1 a.2.2) (0,0,j)) λ(u:Unit)=>
 none
def RD(j:List AD)(l:List AD):Option ((List AD)):=
 AB (Ql [] j l) λ(q:List AD)=>
 some q
def Kk(j:List AD)(l:AD)(q:AD):Option ((List AD)):=
 if(decide (q.Name=[])) then(
 AB (app 32 j [l]) λ(u:List AD)=>
 some u
 ) else(
 some j
 )
def O8(l:List AD)(u:List AD)(j:Int)(q:Int)(o2:List AD):Option ((Int × Int × (List AD)) ⊕ (Ai Unit (List AD))):=
 if((j<(l.length:Int))||(q<(u.length:Int))) then(
 AB (gd (((decide (q=(u.length:Int)))==false)&&((decide (j<(l.length:Int)))==true)) (AJ l j)) λ(A:AD)=>
 AB (gd (((decide (q=(u.length:Int)))==false)&&((decide (j<(l.length:Int)))==true)) (AJ u q)) λ(B:AD)=>
 if((q=(u.length:Int))||((j<(l.length:Int))&&(Au A.Name B.Name))) then(
 AB (AJ l j) λ(C:AD)=>
 AB (Kk o2 C (AD.mk [] [])) λ(E:List AD)=>
 AB (AK .i64 (j+1)) λ(F:Int)=>
 some (.inl (F,q,E))
 ) else(
 AB (gd ((decide (j=(l.length:Int)))==false) (AJ u q)) λ(I:AD)=>
 AB (gd ((decide (j=(l.length:Int)))==false) (AJ l j)) λ(J:AD)=>
 if((j=(l.length:Int))||(Au I.Name J.Name)) then(
 AB (AJ u q) λ(M:AD)=>
 AB (Kk o2 (AD.mk [] []) M) λ(O:List AD)=>
 AB (AK .i64 (q+1)) λ(T:Int)=>
 some (.inl (j,T,O))
 ) else(
 AB (AJ l j) λ(U:AD)=>
 AB (AJ u q) λ(V:AD)=>
 AB (Kk o2 U V) λ(X:List AD)=>
 AB (AK .i64 (j+1)) λ(w:Int)=>
 AB (AK .i64 (q+1)) λ(Y:Int)=>
 some (.inl (w,Y,X))
 )
 )
 ) else(
 some (.inr (.ext o2))
 )
def Qc(j:List AD)(l:List AD)(q:List AD):Option ((List AD)):=
 Aj (iter (λ(a:Int × Int × (List AD))=>O8 l q a.1 a.2.1 a.2.2) (0,0,j)) λ(u:Unit)=>
 none
def Ot(j:List AD)(l:List AD):Option ((List AD)):=
 AB (Qc [] j l) λ(q:List AD)=>
 some q
end
noncomputable section
structure BT where
 Adds:List (List AC)
 Cuts:List Bool
 Attrs:List (List AD)
deriving DecidableEq
instance:Inhabited BT:=⟨⟨[],[],[]⟩⟩
def JS(l:AH)(u:Int)(j:BT):Option ((Int × BT) ⊕ (Ai Unit BT)):=
 if(decide (u<l.N)) then(
 AB (app 24 j.Adds [[]]) λ(w:List (List AC))=>
 AB (app 1 j.Cuts [(decide (l.Kind=2))]) λ(A:List Bool)=>
 AB (app 24 j.Attrs [l.Attrs]) λ(B:List (List AD))=>
 AB (AK .i64 (u+1)) λ(q:Int)=>
 some (.inl (q,(BT.mk w A B)))
 ) else(
 some (.inr (.ext j))
 )
def JC(d1:List AH)(l:Int)(j:BT):Option ((Int × BT) ⊕ BT):=
 if(decide (l<(d1.length:Int))) then(
 AB (
 AB (AJ d1 l) λ(q:AH)=>
 if(decide (q.Kind=1)) then(
 AB (AK .i64 ((j.Adds.length:Int)-1)) λ(u:Int)=>
 AB (AJ j.Adds u) λ(w:List AC)=>
 AB (app 40 [] w) λ(A:List AC)=>
 AB (app 40 A q.Elems) λ(B:List AC)=>
 some (BT.mk (j.Adds.set u.toNat B) j.Cuts j.Attrs)
 ) else(
 Aj (iter (λ(a:Int × BT)=>JS q a.1 a.2) (0,j)) λ(E:Unit)=>
 none
 )
 ) λ(a5:BT)=>
 AB (AK .i64 (l+1)) λ(C:Int)=>
 some (.inl (C,a5))
 ) else(
 some (.inr j)
 )
def OC(d1:List AH):Option (BT):=
 AB (iter (λ(a:Int × BT)=>JC d1 a.1 a.2) (0,(BT.mk [[]] [] []))) λ(a4:BT)=>
 some a4
def Q1(l:List Cq)(w:List Cq)(j:Int):Option (Int ⊕ (Ai Unit Bool)):=
 if(decide (j<(l.length:Int))) then(
 AB (AJ l j) λ(q:Cq)=>
 AB (AJ w j) λ(u:Cq)=>
 if(!((q.Kind=u.Kind)&&((q.N=u.N)&&true))) then(
 some (.inr (.ext false))
 ) else(
 AB (AK .i64 (j+1)) λ(A:Int)=>
 some (.inl A)
 )
 ) else(
 some (.inr (.nrm ()))
 )
def KB(j:List Cq)(l:List Cq):Option (Bool):=
 if(!((j.length:Int)=(l.length:Int))) then(
 some false
 ) else(
 Aj (iter (λ(a:Int)=>Q1 j l a) 0) λ(q:Unit)=>
 some true
 )
end
noncomputable section
end
noncomputable section
structure BM where
 steps:List AH
 used:Int
deriving DecidableEq
instance:Inhabited BM:=⟨⟨[],0⟩⟩
structure Ac where
 out:List AH
 add:List AC
 cut:Int
deriving DecidableEq
instance:Inhabited Ac:=⟨⟨[],[],0⟩⟩
def Mk(j:AH):Option (Int):=
 AB (
 if(decide (j.Kind=0)) then(
 some (decide (j.Kind=0))
 ) else(
 some (decide (j.Kind=2))
 )
 ) λ(l:Bool)=>
 if l then(
 if((0<(j.Elems.length:Int))||((j.Kind=2)&&(0<(j.Attrs.length:Int)))) then(
 some 4
 ) else(
 if((j.N<1)||(2147483647<j.N)) then(
 some 2
 ) else(
 AB (Jx j.Attrs) λ(q:Int)=>
 some q
 )
 )
 ) else(
 if(decide (j.Kind=1)) then(
 if((!(j.N=0))||(0<(j.Attrs.length:Int))) then(
 some 4
 ) else(
 if(decide ((j.Elems.length:Int)=0)) then(
 some 11
 ) else(
 AB (RH j.Elems) λ(u:Int)=>
 some u
 )
 )
 ) else(
 some 8
 )
 )
def Gh(j:AH):Option (Int):=
 if(decide (j.Kind=1)) then(
 some (j.Elems.length:Int)
 ) else(
 some j.N
 )
def IM(d1:List AH)(j:Int)(l:Int)(B:Int):Option ((Int × Int × Int) ⊕ (Ai (Int × Int) Int)):=
 if(decide (B<(d1.length:Int))) then(
 E1 (
 AB (AJ d1 B) λ(u:AH)=>
 AB (Mk u) λ(E:Int)=>
 if(!(E=0)) then(
 some (.ext (.inr (.ext E)))
 ) else(
 Aj (
 if(decide (0<B)) then(
 AB (AK .i64 (B-1)) λ(F:Int)=>
 AB (AJ d1 F) λ(C:AH)=>
 AB (gd (((decide (C.Kind=u.Kind))==true)&&((!(u.Kind=0))==false)) (Gb C.Attrs u.Attrs)) λ(I:Bool)=>
 if(((C.Kind=u.Kind)&&((!(u.Kind=0))||I))||((C.Kind=2)&&(u.Kind=1))) then(
 some (.ext (.ext (.inr (.ext 5))))
 ) else(
 some (.nrm ())
 )
 ) else(
 some (.nrm ())
 )
 ) λ(U:Unit)=>
 AB (
 if(!(u.Kind=1)) then(
 AB (AK .i64 (j+u.N)) λ(J:Int)=>
 some (min J 2147483648)
 ) else(
 some j
 )
 ) λ(q:Int)=>
 if(!(u.Kind=2)) then(
 AB (Gh u) λ(M:Int)=>
 AB (AK .i64 (l+M)) λ(O:Int)=>
 some (.nrm (q,(min O 2147483648)))
 ) else(
 some (.nrm (q,l))
 )
 )
 ) λ(w:Int) (A:Int)=>
 AB (AK .i64 (B+1)) λ(T:Int)=>
 some (.inl (w,A,T))
 ) else(
 some (.inr (.nrm (j,l)))
 )
def IO(d1:List AH):Option (Int):=
 E1 (iter (λ(a:Int × Int × Int)=>IM d1 a.1 a.2.1 a.2.2) (0,0,0)) λ(j:Int) (l:Int)=>
 if((2147483647<j)||(2147483647<l)) then(
 some 3
 ) else(
 some 0
 )
def Jj(d1:List AH)(j:Int)(l:Int)(E:Int):Option ((Int × Int × Int) ⊕ (Int × Int)):=
 if(decide (E<(d1.length:Int))) then(
 Bm (
 AB (AJ d1 E) λ(C:AH)=>
 AB (
 if(!(C.Kind=1)) then(
 AB (AK .i64 (j+C.N)) λ(u:Int)=>
 some u
 ) else(
 some j
 )
 ) λ(q:Int)=>
 if(!(C.Kind=2)) then(
 AB (Gh C) λ(F:Int)=>
 AB (AK .i64 (l+F)) λ(A:Int)=>
 some (q,A)
 ) else(
 some (q,l)
 )
 ) λ(w:Int) (B:Int)=>
 AB (AK .i64 (E+1)) λ(I:Int)=>
 some (.inl (w,B,I))
 ) else(
 some (.inr (j,l))
 )
def I1(d1:List AH):Option (Int × Int):=
 Bm (iter (λ(a:Int × Int × Int)=>Jj d1 a.1 a.2.1 a.2.2) (0,0,0)) λ(j:Int) (l:Int)=>
 some (j,l)
def JV(w:List AC)(j:List AD)(q:Int)(l:List AC):Option ((Int × (List AC)) ⊕ (List AC)):=
 if(decide (q<(w.length:Int))) then(
 AB (AJ w q) λ(u:AC)=>
 AB (Lj u.Attrs j) λ(A:List AD)=>
 AB (AJ l q) λ(C:AC)=>
 AB (AK .i64 (q+1)) λ(B:Int)=>
 some (.inl (B,(l.set q.toNat (AC.mk u.Char u.Ref A))))
 ) else(
 some (.inr l)
 )
def Q6(u:List AC)(j:List AD):Option ((List AC)):=
 AB (mk 40 (u.length:Int) (AC.mk 0 0 [])) λ(l:List AC)=>
 AB (iter (λ(a:Int × (List AC))=>JV u j a.1 a.2) (0,l)) λ(q:List AC)=>
 some q
def JE(f1:List AC)(l:Int)(j:List AC):Option ((Int × (List AC)) ⊕ (List AC)):=
 if(decide (l<(f1.length:Int))) then(
 AB (AJ f1 l) λ(q:AC)=>
 AB (app 32 [] q.Attrs) λ(u:List AD)=>
 AB (AJ j l) λ(A:AC)=>
 AB (AK .i64 (l+1)) λ(w:Int)=>
 some (.inl (w,(j.set l.toNat (AC.mk q.Char q.Ref u))))
 ) else(
 some (.inr j)
 )
def QX(f1:List AC):Option ((List AC)):=
 AB (mk 40 (f1.length:Int) (AC.mk 0 0 [])) λ(j:List AC)=>
 AB (iter (λ(a:Int × (List AC))=>JE f1 a.1 a.2) (0,j)) λ(l:List AC)=>
 some l
def Q2(j:AH):Option (Int):=
 AB (CV j.Kind 0 2) λ(l:Bool)=>
 if(!l) then(
 some 8
 ) else(
 if(decide (j.Kind=1)) then(
 if((!(j.N=0))||(0<(j.Attrs.length:Int))) then(
 some 4
 ) else(
 if(decide ((j.Elems.length:Int)=0)) then(
 some 11
 ) else(
 AB (OE j.Elems) λ(q:Int)=>
 some q
 )
 )
 ) else(
 if((0<(j.Elems.length:Int))||((j.Kind=2)&&(0<(j.Attrs.length:Int)))) then(
 some 4
 ) else(
 AB (CV j.N 1 2147483647) λ(u:Bool)=>
 if(!u) then(
 some 2
 ) else(
 AB (Gn j.Attrs true) λ(w:Int)=>
 some w
 )
 )
 )
 )
def Ij(d1:List AH)(j:Int)(l:Int)(w:Int):Option ((Int × Int × Int) ⊕ (Ai (Int × Int) Int)):=
 if(decide (w<(d1.length:Int))) then(
 E1 (
 AB (AJ d1 w) λ(q:AH)=>
 AB (Q2 q) λ(I:Int)=>
 if(!(I=0)) then(
 some (.ext (.inr (.ext I)))
 ) else(
 Aj (
 if(decide (0<w)) then(
 AB (AK .i64 (w-1)) λ(J:Int)=>
 AB (AJ d1 J) λ(A:AH)=>
 if(decide (q.Kind=1)) then(
 if(!(A.Kind=0)) then(
 some (.ext (.ext (.inr (.ext 5))))
 ) else(
 some (.nrm ())
 )
 ) else(
 if(decide (q.Kind=2)) then(
 if(decide (A.Kind=2)) then(
 some (.ext (.ext (.inr (.ext 5))))
 ) else(
 some (.nrm ())
 )
 ) else(
 AB (gd ((decide (A.Kind=0))==true) (Fe A.Attrs q.Attrs)) λ(M:Bool)=>
 if((A.Kind=0)&&M) then(
 some (.ext (.ext (.inr (.ext 5))))
 ) else(
 some (.nrm ())
 )
 )
 )
 ) else(
 some (.nrm ())
 )
 ) λ(U:Unit)=>
 AB (
 if((!(q.Kind=1))&&(j<2147483648)) then(
 AB (AK .i64 (j+q.N)) λ(B:Int)=>
 some B
 ) else(
 some j
 )
 ) λ(u:Int)=>
 if((!(q.Kind=2))&&(l<2147483648)) then(
 AB (AK .i64 (q.N+(q.Elems.length:Int))) λ(O:Int)=>
 AB (AK .i64 (l+O)) λ(C:Int)=>
 some (.nrm (u,C))
 ) else(
 some (.nrm (u,l))
 )
 )
 ) λ(E:Int) (F:Int)=>
 AB (AK .i64 (w+1)) λ(T:Int)=>
 some (.inl (E,F,T))
 ) else(
 some (.inr (.nrm (j,l)))
 )
def Mc(d1:List AH):Option (Int):=
 E1 (iter (λ(a:Int × Int × Int)=>Ij d1 a.1 a.2.1 a.2.2) (0,0,0)) λ(j:Int) (l:Int)=>
 if((2147483647<j)||(2147483647<l)) then(
 some 3
 ) else(
 some 0
 )
def Nv(j:Ac):Option (Ac):=
 AB (
 if(decide (0<(j.add.length:Int))) then(
 AB (app 64 j.out [(AH.mk 1 0 [] j.add)]) λ(q:List AH)=>
 some (Ac.mk q j.add j.cut)
 ) else(
 some j
 )
 ) λ(l:Ac)=>
 AB (
 if(decide (0<l.cut)) then(
 AB (app 64 l.out [(AH.mk 2 l.cut [] [])]) λ(u:List AH)=>
 some (Ac.mk u l.add l.cut)
 ) else(
 some l
 )
 ) λ(w:Ac)=>
 some (Ac.mk w.out [] 0)
def GT(A:Ac)(n1:Int)(j:List AD):Option (Ac):=
 if(decide (n1=0)) then(
 some A
 ) else(
 AB (Nv A) λ(l:Ac)=>
 AB (AK .i64 ((l.out.length:Int)-1)) λ(q:Int)=>
 AB (gd ((decide (0≤q))==true) (AJ l.out q)) λ(w:AH)=>
 AB (gd (((0≤q)&&(w.Kind=0))==true) (AJ l.out q)) λ(B:AH)=>
 AB (gd (((0≤q)&&(w.Kind=0))==true) (Gb B.Attrs j)) λ(C:Bool)=>
 if(((0≤q)&&(w.Kind=0))&&C) then(
 AB (AJ l.out q) λ(u:AH)=>
 AB (AK .i64 (u.N+n1)) λ(E:Int)=>
 some (Ac.mk (l.out.set q.toNat (AH.mk u.Kind E u.Attrs u.Elems)) [] l.cut)
 ) else(
 AB (app 32 [] j) λ(F:List AD)=>
 AB (app 64 l.out [(AH.mk 0 n1 F [])]) λ(I:List AH)=>
 some (Ac.mk I [] l.cut)
 )
 )
def HF(j:Ac)(l:List AC):Option (Ac):=
 AB (QX l) λ(q:List AC)=>
 AB (app 40 j.add q) λ(u:List AC)=>
 some (Ac.mk j.out u j.cut)
def IK(l:Ac):Option ((List AH) × Int × Ac):=
 AB (Nv l) λ(j:Ac)=>
 AB (IO j.out) λ(q:Int)=>
 if(!(q=0)) then(
 some ([],3,(Ac.mk j.out [] j.cut))
 ) else(
 some (j.out,0,(Ac.mk j.out [] j.cut))
 )
def Jf(d1:List AH)(l:Int)(j:Int):Option ((Int × Int) ⊕ Int):=
 if(decide (j<(d1.length:Int))) then(
 AB (AJ d1 j) λ(q:AH)=>
 AB (AK .i64 (l+q.N)) λ(u:Int)=>
 AB (AK .i64 (j+1)) λ(w:Int)=>
 some (.inl (u,w))
 ) else(
 some (.inr l)
 )
def MX(d1:List AH):Option (Int):=
 AB (iter (λ(a:Int × Int)=>Jf d1 a.1 a.2) (0,0)) λ(j:Int)=>
 some j
def Iz(f1:List AC)(A:BT)(q:Int)(j:List AC):Option ((Int × (List AC)) ⊕ (List AC)):=
 if(decide (q<(f1.length:Int))) then(
 AB (
 AB (AJ A.Adds q) λ(C:List AC)=>
 AB (app 40 j C) λ(l:List AC)=>
 AB (AJ A.Cuts q) λ(E:Bool)=>
 if(!E) then(
 AB (AJ f1 q) λ(B:AC)=>
 AB (AJ A.Attrs q) λ(F:List AD)=>
 AB (Hj B.Attrs F) λ(I:List AD)=>
 AB (app 40 l [(AC.mk B.Char B.Ref I)]) λ(u:List AC)=>
 some u
 ) else(
 some l
 )
 ) λ(w:List AC)=>
 AB (AK .i64 (q+1)) λ(J:Int)=>
 some (.inl (J,w))
 ) else(
 some (.inr j)
 )
def MT(f1:List AC)(l:BT):Option ((List AC)):=
 AB (iter (λ(a:Int × (List AC))=>Iz f1 l a.1 a.2) (0,[])) λ(j:List AC)=>
 AB (AJ l.Adds (f1.length:Int)) λ(q:List AC)=>
 AB (app 40 j q) λ(u:List AC)=>
 some u
def Pv(j:AC)(l:AC):Option (Bool):=
 AB (gd (((j.Char=l.Char)&&(j.Ref=l.Ref))==true) (Fe j.Attrs l.Attrs)) λ(q:Bool)=>
 some (((j.Char=l.Char)&&(j.Ref=l.Ref))&&q)
def PK(l:List AC)(q:List AC)(j:Int):Option (Int ⊕ (Ai Unit Bool)):=
 if(decide (j<(l.length:Int))) then(
 AB (AJ l j) λ(u:AC)=>
 AB (AJ q j) λ(w:AC)=>
 AB (Pv u w) λ(A:Bool)=>
 if(!A) then(
 some (.inr (.ext false))
 ) else(
 AB (AK .i64 (j+1)) λ(B:Int)=>
 some (.inl B)
 )
 ) else(
 some (.inr (.nrm ()))
 )
def LZ(j:List AC)(l:List AC):Option (Bool):=
 if(!((j.length:Int)=(l.length:Int))) then(
 some false
 ) else(
 Aj (iter (λ(a:Int)=>PK j l a) 0) λ(q:Unit)=>
 some true
 )
def Qk(u:List AH)(A:List AH)(q:Int):Option (Int ⊕ (Ai Unit Bool)):=
 if(decide (q<(u.length:Int))) then(
 AB (AJ u q) λ(j:AH)=>
 AB (AJ A q) λ(l:AH)=>
 AB (gd (((!(j.Kind=l.Kind))||(!(j.N=l.N)))==false) (Fe j.Attrs l.Attrs)) λ(w:Bool)=>
 AB (gd ((((!(j.Kind=l.Kind))||(!(j.N=l.N)))||(!w))==false) (LZ j.Elems l.Elems)) λ(B:Bool)=>
 if((((!(j.Kind=l.Kind))||(!(j.N=l.N)))||(!w))||(!B)) then(
 some (.inr (.ext false))
 ) else(
 AB (AK .i64 (q+1)) λ(C:Int)=>
 some (.inl C)
 )
 ) else(
 some (.inr (.nrm ()))
 )
def Jz(j:List AH)(l:List AH):Option (Bool):=
 if(!((j.length:Int)=(l.length:Int))) then(
 some false
 ) else(
 Aj (iter (λ(a:Int)=>Qk j l a) 0) λ(q:Unit)=>
 some true
 )
def GB(j:BM):Option (Int):=
 if(decide ((j.steps.length:Int)=0)) then(
 some (-1)
 ) else(
 AB (AJ j.steps 0) λ(l:AH)=>
 some l.Kind
 )
def GJ(j:BM):Option (Int):=
 AB (AJ j.steps 0) λ(l:AH)=>
 AB (Gh l) λ(q:Int)=>
 AB (AK .i64 (q-j.used)) λ(u:Int)=>
 some u
def FY(l:BM)(n1:Int):Option (AH × BM):=
 AB (AJ l.steps 0) λ(j:AH)=>
 AB (
 if(decide (j.Kind=1)) then(
 AB (AK .i64 (l.used+n1)) λ(u:Int)=>
 AB (B8 j.Elems l.used u) λ(w:List AC)=>
 some (AH.mk j.Kind j.N j.Attrs w)
 ) else(
 some (AH.mk j.Kind n1 j.Attrs j.Elems)
 )
 ) λ(A:AH)=>
 AB (AK .i64 (l.used+n1)) λ(q:Int)=>
 AB (Gh j) λ(B:Int)=>
 AB (
 if(decide (q=B)) then(
 AB (B8 l.steps 1 (l.steps.length:Int)) λ(C:List AH)=>
 some (BM.mk C 0)
 ) else(
 some (BM.mk l.steps q)
 )
 ) λ(E:BM)=>
 some (A,E)
def Mv(q:Ac)(u:Ac)(E:BM)(B:BM):Option ((Ac × Ac × BM × BM) ⊕ (Ac × Ac)):=
 AB (GB E) λ(J:Int)=>
 AB (
 if((decide (0≤J))==false) then(
 AB (GB B) λ(O:Int)=>
 some ((0≤J)||(0≤O))
 ) else(
 some ((0≤J)||false)
 )
 ) λ(x5:Bool)=>
 if x5 then(
 if(decide (J=1)) then(
 AB (GJ E) λ(T:Int)=>
 Bm (FY E T) λ(F:AH) (w3:BM)=>
 AB (HF q F.Elems) λ(w4:Ac)=>
 AB (GT u (F.Elems.length:Int) []) λ(w5:Ac)=>
 some (.inl (w4,w5,w3,B))
 ) else(
 AB (GB B) λ(U:Int)=>
 if(decide (U=1)) then(
 AB (GJ B) λ(V:Int)=>
 Bm (FY B V) λ(I:AH) (w6:BM)=>
 AB (GT q (I.Elems.length:Int) []) λ(w7:Ac)=>
 AB (HF u I.Elems) λ(w8:Ac)=>
 some (.inl (w7,w8,E,w6))
 ) else(
 AB (GJ E) λ(j:Int)=>
 AB (GJ B) λ(l:Int)=>
 Bm (FY E (min j l)) λ(C:AH) (M:BM)=>
 Bm (FY B (min j l)) λ(w:AH) (A:BM)=>
 if((C.Kind=0)&&(w.Kind=0)) then(
 AB (Ot C.Attrs w.Attrs) λ(X:List AD)=>
 AB (GT q (min j l) X) λ(Y:Ac)=>
 AB (GT u (min j l) w.Attrs) λ(Z:Ac)=>
 some (.inl (Y,Z,M,A))
 ) else(
 if(decide (C.Kind=0)) then(
 AB (AK .i64 (u.cut+(min j l))) λ(x6:Int)=>
 some (.inl (q,(Ac.mk u.out u.add x6),M,A))
 ) else(
 if(decide (w.Kind=0)) then(
 AB (AK .i64 (q.cut+(min j l))) λ(x7:Int)=>
 some (.inl ((Ac.mk q.out q.add x7),u,M,A))
 ) else(
 some (.inl (q,u,M,A))
 )
 )
 )
 )
 )
 ) else(
 some (.inr (q,u))
 )
def NU(j:List AH)(l:List AH):Option ((List AH) × (List AH) × Int):=
 AB (IO j) λ(q:Int)=>
 if(!(q=0)) then(
 some ([],[],q)
 ) else(
 AB (IO l) λ(u:Int)=>
 if(!(u=0)) then(
 some ([],[],u)
 ) else(
 Bm (I1 j) λ(w:Int) (M:Int)=>
 Bm (I1 l) λ(A:Int) (O:Int)=>
 if(!(w=A)) then(
 some ([],[],14)
 ) else(
 Bm (iter (λ(a:Ac × Ac × BM × BM)=>Mv a.1 a.2.1 a.2.2.1 a.2.2.2) ((Ac.mk [] [] 0),(Ac.mk [] [] 0),(BM.mk j 0),(BM.mk l 0))) λ(B:Ac) (C:Ac)=>
 Fc (IK B) λ(E:List AH) (F:Int) (T:Ac)=>
 Fc (IK C) λ(I:List AH) (J:Int) (U:Ac)=>
 if((!(F=0))||(!(J=0))) then(
 some ([],[],3)
 ) else(
 some (E,I,0)
 )
 )
 )
 )
def LH(f1:List AC)(j:Bool)(l:Int):Option (Int ⊕ (Ai Unit Int)):=
 if(decide (l<(f1.length:Int))) then(
 AB (AJ f1 l) λ(q:AC)=>
 AB (L6 q) λ(u:Int)=>
 if(!(u=0)) then(
 some (.inr (.ext u))
 ) else(
 if((!j)&&(q.Ref=0)) then(
 some (.inr (.ext 8))
 ) else(
 AB (AK .i64 (l+1)) λ(w:Int)=>
 some (.inl w)
 )
 )
 ) else(
 some (.inr (.nrm ()))
 )
def Hb(f1:List AC)(j:Bool):Option (Int):=
 Aj (iter (λ(a:Int)=>LH f1 j a) 0) λ(u:Unit)=>
 AB (gd ((j==true)&&((decide ((f1.length:Int)=0))==false)) (AK .i64 ((f1.length:Int)-1))) λ(l:Int)=>
 AB (gd ((j==true)&&((decide ((f1.length:Int)=0))==false)) (AJ f1 l)) λ(q:AC)=>
 if(j&&(((f1.length:Int)=0)||(!(q.Char=10)))) then(
 some 11
 ) else(
 some 0
 )
def FA(d1:List AH)(q:Int)(l:Ac):Option ((Int × Ac) ⊕ (Ai Ac ((List AH) × Int))):=
 if(decide (q<(d1.length:Int))) then(
 Aj (
 AB (AJ d1 q) λ(j:AH)=>
 AB (Mk j) λ(u:Int)=>
 AB (
 if((((j.Kind=1)&&((j.Elems.length:Int)=0))&&(u=11))||(((!(j.Kind=1))&&(j.N=0))&&(u=2))) then(
 AB (Jx j.Attrs) λ(B:Int)=>
 some B
 ) else(
 some u
 )
 ) λ(w:Int)=>
 if(!(w=0)) then(
 some (.ext (.inr (.ext ([],w))))
 ) else(
 if(decide (j.Kind=0)) then(
 AB (GT l j.N j.Attrs) λ(C:Ac)=>
 some (.nrm C)
 ) else(
 if(decide (j.Kind=1)) then(
 AB (HF l j.Elems) λ(E:Ac)=>
 some (.nrm E)
 ) else(
 AB (AK .i64 (l.cut+j.N)) λ(A:Int)=>
 if(decide (2147483647<A)) then(
 some (.ext (.inr (.ext ([],3))))
 ) else(
 some (.nrm (Ac.mk l.out l.add A))
 )
 )
 )
 )
 ) λ(F:Ac)=>
 AB (AK .i64 (q+1)) λ(I:Int)=>
 some (.inl (I,F))
 ) else(
 some (.inr (.nrm l))
 )
def IU(d1:List AH):Option ((List AH) × Int):=
 Aj (iter (λ(a:Int × Ac)=>FA d1 a.1 a.2) (0,(Ac.mk [] [] 0))) λ(j:Ac)=>
 Fc (IK j) λ(l:List AH) (q:Int) (u:Ac)=>
 some (l,q)
def Kc(f1:List AC)(j:Bool)(l:Int):Option (Int ⊕ (Ai Unit Int)):=
 if(decide (l<(f1.length:Int))) then(
 AB (AJ f1 l) λ(q:AC)=>
 AB (MZ q) λ(u:Int)=>
 if(!(u=0)) then(
 some (.inr (.ext u))
 ) else(
 if((!j)&&(!(q.Char=0))) then(
 some (.inr (.ext 8))
 ) else(
 AB (AK .i64 (l+1)) λ(w:Int)=>
 some (.inl w)
 )
 )
 ) else(
 some (.inr (.nrm ()))
 )
def JM(f1:List AC)(j:Bool):Option (Int):=
 Aj (iter (λ(a:Int)=>Kc f1 j a) 0) λ(u:Unit)=>
 AB (gd ((j==true)&&((decide ((f1.length:Int)=0))==false)) (AK .i64 ((f1.length:Int)-1))) λ(l:Int)=>
 AB (gd ((j==true)&&((decide ((f1.length:Int)=0))==false)) (AJ f1 l)) λ(q:AC)=>
 if(j&&(((f1.length:Int)=0)||(!(q.Char=10)))) then(
 some 11
 ) else(
 some 0
 )
end
noncomputable section
structure H2 where
 lo:Int
 hi:Int
deriving DecidableEq
instance:Inhabited H2:=⟨⟨0,0⟩⟩
@[reducible] def H2.row(x:H2):List RV:=[.int .u8 x.lo,.int .u8 x.hi]
def O1:List H2:=JJ.map λp=>H2.mk p.1 p.2
def J0(A:List UInt8):Option (Int × Int):=
 if(decide ((A.length:Int)<1)) then(
 some (65533,0)
 ) else(
 AB (AJ A 0) λ(j:UInt8)=>
 AB (AJ FH (j.toNat:Int)) λ(u:Int)=>
 if(decide (240≤u)) then(
 some ((D9 .i32 (Ou .i32 (IntKind.i32.wrap (j.toNat:Int)) (FB .i32 (Dj .i32 (IntKind.i32.wrap u) 31) 31)) (CL .i32 65533 (FB .i32 (Dj .i32 (IntKind.i32.wrap u) 31) 31))),1)
 ) else(
 AB (AJ O1 (FB .u8 u 4)) λ(B:H2)=>
 if(decide ((A.length:Int)<(IntKind.i64.wrap (CL .u8 u 7)))) then(
 some (65533,1)
 ) else(
 AB (AJ A 1) λ(l:UInt8)=>
 if(((l.toNat:Int)<B.lo)||(B.hi<(l.toNat:Int))) then(
 some (65533,1)
 ) else(
 if(decide ((IntKind.i64.wrap (CL .u8 u 7))≤2)) then(
 some ((D9 .i32 (Dj .i32 (IntKind.i32.wrap (CL .u8 (j.toNat:Int) 31)) 6) (IntKind.i32.wrap (CL .u8 (l.toNat:Int) 63))),2)
 ) else(
 AB (AJ A 2) λ(q:UInt8)=>
 if(((q.toNat:Int)<128)||(191<(q.toNat:Int))) then(
 some (65533,1)
 ) else(
 if(decide ((IntKind.i64.wrap (CL .u8 u 7))≤3)) then(
 some ((D9 .i32 (D9 .i32 (Dj .i32 (IntKind.i32.wrap (CL .u8 (j.toNat:Int) 15)) 12) (Dj .i32 (IntKind.i32.wrap (CL .u8 (l.toNat:Int) 63)) 6)) (IntKind.i32.wrap (CL .u8 (q.toNat:Int) 63))),3)
 ) else(
 AB (AJ A 3) λ(w:UInt8)=>
 if(((w.toNat:Int)<128)||(191<(w.toNat:Int))) then(
 some (65533,1)
 ) else(
 some ((D9 .i32 (D9 .i32 (D9 .i32 (Dj .i32 (IntKind.i32.wrap (CL .u8 (j.toNat:Int) 7)) 18) (Dj .i32 (IntKind.i32.wrap (CL .u8 (l.toNat:Int) 63)) 12)) (Dj .i32 (IntKind.i32.wrap (CL .u8 (q.toNat:Int) 63)) 6)) (IntKind.i32.wrap (CL .u8 (w.toNat:Int) 63))),4)
 )
 )
 )
 )
 )
 )
 )
 )
def GZ(j:List UInt8):Option (Int × Int):=
 AB (gd ((!(j=[]))==true) (AJ j 0)) λ(l:UInt8)=>
 if((!(j=[]))&&((l.toNat:Int)<128)) then(
 AB (AJ j 0) λ(q:UInt8)=>
 some ((IntKind.i32.wrap (q.toNat:Int)),1)
 ) else(
 Bm (J0 j) λ(u:Int) (w:Int)=>
 some (u,w)
 )
def X1(j:List AD)(u:List UInt8)(l:List AC):Option (((List UInt8) × (List AC)) ⊕ (Ai (List AC) ((List AC) × Int))):=
 if(!(u=[])) then(
 Bm (GZ u) λ(w:Int) (A:Int)=>
 if((w=65533)&&(A=1)) then(
 some (.inr (.ext ([],10)))
 ) else(
 AB (Jh (IntKind.i64.wrap w)) λ(B:Bool)=>
 if(!B) then(
 some (.inr (.ext ([],2)))
 ) else(
 AB (app 32 [] j) λ(C:List AD)=>
 AB (app 40 l [(AC.mk (IntKind.i64.wrap w) 0 C)]) λ(q:List AC)=>
 AB (B8 u A (u.length:Int)) λ(E:List UInt8)=>
 some (.inl (E,q))
 )
 )
 ) else(
 some (.inr (.nrm l))
 )
def cR(u:List UInt8)(j:List AD):Option ((List AC) × Int):=
 AB (Hx j) λ(q:Int)=>
 if(!(q=0)) then(
 some ([],q)
 ) else(
 Aj (iter (λ(a:(List UInt8) × (List AC))=>X1 j a.1 a.2) (u,[])) λ(l:List AC)=>
 some (l,0)
 )
def Wg(u:List UInt8)(j:List AD)(w:Int)(l:List AC):Option ((Int × (List AC)) ⊕ (Ai (List AC) ((List AC) × Int))):=
 if(decide (w<(u.length:Int))) then(
 AB (B8 u w (u.length:Int)) λ(C:List UInt8)=>
 Bm (GZ C) λ(A:Int) (B:Int)=>
 if((A=65533)&&(B<2)) then(
 some (.inr (.ext ([],10)))
 ) else(
 AB (JU (IntKind.i64.wrap A)) λ(E:Bool)=>
 if(!E) then(
 some (.inr (.ext ([],2)))
 ) else(
 AB (app 40 l [(AC.mk (IntKind.i64.wrap A) 0 j)]) λ(q:List AC)=>
 AB (AK .i64 (w+B)) λ(F:Int)=>
 some (.inl (F,q))
 )
 )
 ) else(
 some (.inr (.nrm l))
 )
def dN(u:List UInt8)(j:List AD):Option ((List AC) × Int):=
 AB (Gn j false) λ(q:Int)=>
 if(!(q=0)) then(
 some ([],q)
 ) else(
 Aj (iter (λ(a:Int × (List AC))=>Wg u j a.1 a.2) (0,[])) λ(l:List AC)=>
 some (l,0)
 )
end
noncomputable section
def VL(u:List AC)(w:List AC)(q:Int):Option (Int ⊕ (Ai Unit Bool)):=
 if(decide (q<(u.length:Int))) then(
 AB (AJ u q) λ(j:AC)=>
 AB (AJ w q) λ(l:AC)=>
 AB (gd (((!(j.Char=l.Char))||(!(j.Ref=l.Ref)))==false) (Gb j.Attrs l.Attrs)) λ(A:Bool)=>
 if(((!(j.Char=l.Char))||(!(j.Ref=l.Ref)))||(!A)) then(
 some (.inr (.ext false))
 ) else(
 AB (AK .i64 (q+1)) λ(B:Int)=>
 some (.inl B)
 )
 ) else(
 some (.inr (.nrm ()))
 )
def Xt(j:List AC)(l:List AC):Option (Bool):=
 if(!((j.length:Int)=(l.length:Int))) then(
 some false
 ) else(
 Aj (iter (λ(a:Int)=>VL j l a) 0) λ(q:Unit)=>
 some true
 )
def JR(f1:List AC)(u:Int)(j:List Int):Option ((Int × (List Int)) ⊕ (List Int)):=
 if(decide (u<(f1.length:Int))) then(
 AB (
 AB (AJ f1 u) λ(w:AC)=>
 if(!(w.Ref=0)) then(
 AB (app 8 j [w.Ref]) λ(l:List Int)=>
 some l
 ) else(
 some j
 )
 ) λ(q:List Int)=>
 AB (AK .i64 (u+1)) λ(A:Int)=>
 some (.inl (A,q))
 ) else(
 some (.inr j)
 )
def bM(f1:List AC):Option ((List Int)):=
 AB (iter (λ(a:Int × (List Int))=>JR f1 a.1 a.2) (0,[])) λ(j:List Int)=>
 some j
end
noncomputable section
end
noncomputable section
structure Bj where
 Nodes:List Ae
deriving DecidableEq
instance:Inhabited Bj:=⟨⟨[]⟩⟩
@[reducible] def Bj.row(x:Bj):List RV:=[.sl (x.Nodes.map Ae.row)]
def G7(j:Int):Option (Bool):=
 some ((((j=1)||(j=3))||(j=4))||(j=12))
def MS(j:Int):Option (Bool):=
 some ((j=0)||(j=7))
def Ln(j:Int):Option (Bool):=
 some ((j=2)||(j=6))
def N5(j:List An)(w:List An)(l:Int):Option (Int ⊕ (Ai Unit Bool)):=
 if(decide (l<(j.length:Int))) then(
 AB (AJ j l) λ(q:An)=>
 AB (AJ w l) λ(u:An)=>
 if(!((q.Row=u.Row)&&((q.Col=u.Col)&&((q.H=u.H)&&((q.W=u.W)&&true))))) then(
 some (.inr (.ext false))
 ) else(
 AB (AK .i64 (l+1)) λ(A:Int)=>
 some (.inl A)
 )
 ) else(
 some (.inr (.nrm ()))
 )
def Pp(j:List An)(l:List An):Option (Bool):=
 if(!((j.length:Int)=(l.length:Int))) then(
 some false
 ) else(
 Aj (iter (λ(a:Int)=>N5 j l a) 0) λ(q:Unit)=>
 some true
 )
def QZ(j:Aq)(l:Aq):Option (Bool):=
 AB (gd (((((j.Row=l.Row)&&(j.Col=l.Col))&&(j.Text=l.Text))&&(j.Ref=l.Ref))==true) (Gb j.Attrs l.Attrs)) λ(q:Bool)=>
 some (((((j.Row=l.Row)&&(j.Col=l.Col))&&(j.Text=l.Text))&&(j.Ref=l.Ref))&&q)
def Pz(j:List Aq)(q:List Aq)(l:Int):Option (Int ⊕ (Ai Unit Bool)):=
 if(decide (l<(j.length:Int))) then(
 AB (AJ j l) λ(u:Aq)=>
 AB (AJ q l) λ(w:Aq)=>
 AB (QZ u w) λ(A:Bool)=>
 if(!A) then(
 some (.inr (.ext false))
 ) else(
 AB (AK .i64 (l+1)) λ(B:Int)=>
 some (.inl B)
 )
 ) else(
 some (.inr (.nrm ()))
 )
def Qd(j:List Aq)(l:List Aq):Option (Bool):=
 if(!((j.length:Int)=(l.length:Int))) then(
 some false
 ) else(
 Aj (iter (λ(a:Int)=>Pz j l a) 0) λ(q:Unit)=>
 some true
 )
def LE(j:BI)(l:BI):Option (Bool):=
 AB (gd (((j.Rows=l.Rows)&&(j.Cols=l.Cols))==true) (Pp j.Merges l.Merges)) λ(q:Bool)=>
 AB (gd ((((j.Rows=l.Rows)&&(j.Cols=l.Cols))&&q)==true) (Qd j.Cells l.Cells)) λ(u:Bool)=>
 some ((((j.Rows=l.Rows)&&(j.Cols=l.Cols))&&q)&&u)
def JN(j:Int):Option (Bool):=
 some (((j=8)||(j=9))||(j=10))
def Fa(l:List UInt8):Option ((List UInt8) ⊕ (Ai Unit Bool)):=
 if(!(l=[])) then(
 Bm (GZ l) λ(j:Int) (q:Int)=>
 AB (gd ((((j=65533)&&(q=1))||(j=10))==false) (Jh (IntKind.i64.wrap j))) λ(u:Bool)=>
 if((((j=65533)&&(q=1))||(j=10))||(!u)) then(
 some (.inr (.ext false))
 ) else(
 AB (B8 l q (l.length:Int)) λ(w:List UInt8)=>
 some (.inl w)
 )
 ) else(
 some (.inr (.nrm ()))
 )
def QW(j:List UInt8):Option (Bool):=
 Aj (iter (λ(a:(List UInt8))=>Fa a) j) λ(l:Unit)=>
 some true
def QG(j:Aq):Option (Bool):=
 some (((j.Text=[])&&(j.Ref=0))&&((j.Attrs.length:Int)=0))
def RJ(j:Int):Option (Bool):=
 some (!(j=j))
def Ix(q:Int)(u:Int):Option (Int):=
 AB (RJ q) λ(l:Bool)=>
 AB (RJ u) λ(j:Bool)=>
 if l then(
 if j then(
 some 0
 ) else(
 some (-1)
 )
 ) else(
 if j then(
 some 1
 ) else(
 if(decide (q<u)) then(
 some (-1)
 ) else(
 if(decide (u<q)) then(
 some 1
 ) else(
 some 0
 )
 )
 )
 )
def EN(j:List Int)(l:Int):Option (Int ⊕ (Ai Unit Int)):=
 if(decide (l<(j.length:Int))) then(
 AB (AJ j l) λ(q:Int)=>
 if(!(q=0)) then(
 some (.inr (.ext q))
 ) else(
 AB (AK .i64 (l+1)) λ(u:Int)=>
 some (.inl u)
 )
 ) else(
 some (.inr (.nrm ()))
 )
def NK(j:List Int):Option (Int):=
 Aj (iter (λ(a:Int)=>EN j a) 0) λ(l:Unit)=>
 some 0
def M5(j:Aq)(l:Aq):Option (Int):=
 AB (Ix j.Row l.Row) λ(q:Int)=>
 AB (Ix j.Col l.Col) λ(u:Int)=>
 AB (NK [q,u]) λ(w:Int)=>
 some w
def P2(A:List Aq)(q:Int)(u:Int)(w:Bool)(l:Int):Option (Int ⊕ (Ai Unit Int)):=
 if(decide (l<(A.length:Int))) then(
 AB (AJ A l) λ(j:Aq)=>
 if((((j.Row<0)||(q≤j.Row))||(j.Col<0))||(u≤j.Col)) then(
 some (.inr (.ext 2))
 ) else(
 if((j.Ref<0)||(1073741824<j.Ref)) then(
 some (.inr (.ext 2))
 ) else(
 AB (QW j.Text) λ(C:Bool)=>
 if(!C) then(
 some (.inr (.ext 23))
 ) else(
 AB (Hx j.Attrs) λ(B:Int)=>
 if(!(B=0)) then(
 some (.inr (.ext B))
 ) else(
 AB (QG j) λ(E:Bool)=>
 if(E&&(!w)) then(
 some (.inr (.ext 4))
 ) else(
 AB (gd ((decide (0<l))==true) (AK .i64 (l-1))) λ(F:Int)=>
 AB (gd ((decide (0<l))==true) (AJ A F)) λ(I:Aq)=>
 AB (gd ((decide (0<l))==true) (M5 I j)) λ(J:Int)=>
 if((0<l)&&(0≤J)) then(
 some (.inr (.ext 5))
 ) else(
 AB (AK .i64 (l+1)) λ(M:Int)=>
 some (.inl M)
 )
 )
 )
 )
 )
 )
 ) else(
 some (.inr (.nrm ()))
 )
def Od(u:List Aq)(j:Int)(l:Int)(q:Bool):Option (Int):=
 Aj (iter (λ(a:Int)=>P2 u j l q a) 0) λ(w:Unit)=>
 some 0
def N3(j:An)(l:Int)(q:Int):Option (Bool):=
 AB (gd (((((((0≤j.Row)&&(0≤j.Col))&&(1≤j.H))&&(1≤j.W))&&(j.Row<l))&&(j.Col<q))==true) (AK .i64 (l-j.Row))) λ(u:Int)=>
 AB (gd ((((((((0≤j.Row)&&(0≤j.Col))&&(1≤j.H))&&(1≤j.W))&&(j.Row<l))&&(j.Col<q))&&(j.H≤u))==true) (AK .i64 (q-j.Col))) λ(w:Int)=>
 some ((((((((0≤j.Row)&&(0≤j.Col))&&(1≤j.H))&&(1≤j.W))&&(j.Row<l))&&(j.Col<q))&&(j.H≤u))&&(j.W≤w))
def Pr(j:An)(l:An):Option (Bool):=
 some ((j.Row<l.Row)||((j.Row=l.Row)&&(j.Col<l.Col)))
def PD(j:An)(l:An):Option (Bool):=
 AB (AK .i64 (l.Row+l.H)) λ(q:Int)=>
 AB (gd ((decide (j.Row<q))==true) (AK .i64 (j.Row+j.H))) λ(u:Int)=>
 AB (gd (((j.Row<q)&&(l.Row<u))==true) (AK .i64 (l.Col+l.W))) λ(w:Int)=>
 AB (gd ((((j.Row<q)&&(l.Row<u))&&(j.Col<w))==true) (AK .i64 (j.Col+j.W))) λ(A:Int)=>
 some ((((j.Row<q)&&(l.Row<u))&&(j.Col<w))&&(l.Col<A))
def SG(j:An)(l:An):Option (Bool):=
 AB (PD l j) λ(q:Bool)=>
 some q
def Q7(q:An)(l:List An)(j:Int):Option (Int ⊕ (Ai Unit Int)):=
 if(decide (j<(l.length:Int))) then(
 AB (AJ l j) λ(u:An)=>
 AB (SG q u) λ(w:Bool)=>
 if w then(
 some (.inr (.ext j))
 ) else(
 AB (AK .i64 (j+1)) λ(A:Int)=>
 some (.inl A)
 )
 ) else(
 some (.inr (.nrm ()))
 )
def TF(j:An)(l:List An):Option (Int):=
 Aj (iter (λ(a:Int)=>Q7 j l a) 0) λ(q:Unit)=>
 some (-1)
def Mn(j:An)(l:List An):Option (Bool):=
 AB (TF j l) λ(q:Int)=>
 some (decide (0≤q))
def OJ(l:BI)(j:Int):Option (Int ⊕ (Ai Unit Int)):=
 if(decide (j<(l.Merges.length:Int))) then(
 AB (AJ l.Merges j) λ(q:An)=>
 AB (N3 q l.Rows l.Cols) λ(u:Bool)=>
 if(!u) then(
 some (.inr (.ext 2))
 ) else(
 if((q.H=1)&&(q.W=1)) then(
 some (.inr (.ext 4))
 ) else(
 AB (gd ((decide (0<j))==true) (AK .i64 (j-1))) λ(w:Int)=>
 AB (gd ((decide (0<j))==true) (AJ l.Merges w)) λ(A:An)=>
 AB (gd ((decide (0<j))==true) (Pr A q)) λ(B:Bool)=>
 if((0<j)&&(!B)) then(
 some (.inr (.ext 5))
 ) else(
 AB (B8 l.Merges 0 j) λ(C:List An)=>
 AB (Mn q C) λ(E:Bool)=>
 if E then(
 some (.inr (.ext 21))
 ) else(
 AB (AK .i64 (j+1)) λ(F:Int)=>
 some (.inl F)
 )
 )
 )
 )
 ) else(
 some (.inr (.nrm ()))
 )
def Oo(j:BI):Option (Int):=
 if((((j.Rows<0)||(2147483647<j.Rows))||(j.Cols<0))||(2147483647<j.Cols)) then(
 some 2
 ) else(
 AB (Od j.Cells j.Rows j.Cols false) λ(l:Int)=>
 if(!(l=0)) then(
 some l
 ) else(
 Aj (iter (λ(a:Int)=>OJ j a) 0) λ(q:Unit)=>
 some 0
 )
 )
def RB(j:Int)(u:List Aq)(l:Int):Option (Int ⊕ (Ai Unit Int)):=
 if(decide (l<(u.length:Int))) then(
 AB (AJ u l) λ(q:Aq)=>
 if(((j=2)&&((!(q.Text=[]))||(0<(q.Attrs.length:Int))))||((j=6)&&(!(q.Ref=0)))) then(
 some (.inr (.ext 4))
 ) else(
 AB (AK .i64 (l+1)) λ(w:Int)=>
 some (.inl w)
 )
 ) else(
 some (.inr (.nrm ()))
 )
def RA(j:Int)(l:List Aq):Option (Int):=
 Aj (iter (λ(a:Int)=>RB j l a) 0) λ(q:Unit)=>
 some 0
def RW(q:List UInt8)(l:Int):Option (Int ⊕ (Ai Unit Bool)):=
 if(decide (l<(q.length:Int))) then(
 AB (AJ q l) λ(j:UInt8)=>
 if(((j.toNat:Int)<97)||(122<(j.toNat:Int))) then(
 some (.inr (.ext false))
 ) else(
 AB (AK .i64 (l+1)) λ(u:Int)=>
 some (.inl u)
 )
 ) else(
 some (.inr (.nrm ()))
 )
def Qx(j:List UInt8):Option (Bool):=
 AB (gd (((j=[])||(200<(j.length:Int)))==false) (AK .i64 ((j.length:Int)-1))) λ(q:Int)=>
 AB (gd (((j=[])||(200<(j.length:Int)))==false) (AJ j q)) λ(l:UInt8)=>
 if(((j=[])||(200<(j.length:Int)))||((l.toNat:Int)=97)) then(
 some false
 ) else(
 Aj (iter (λ(a:Int)=>RW j a) 0) λ(u:Unit)=>
 some true
 )
def QP(j:BB):Option (Int):=
 if((!(j.Kind=0))&&(!(j.Kind=1))) then(
 some 8
 ) else(
 if((((((j.Clock<1)||(1073741824<j.Clock))||(j.Site<0))||(1000<j.Site))||(j.Item<1))||(1073741824<j.Item)) then(
 some 2
 ) else(
 AB (
 if((j.Kind=0)&&((!(j.Name=[]))||(!(j.Value=[])))) then(
 some ((j.Kind=0)&&((!(j.Name=[]))||(!(j.Value=[]))))
 ) else(
 some ((j.Kind=1)&&((!(j.Parent=0))||(!(j.Place=[]))))
 )
 ) λ(q:Bool)=>
 if q then(
 some 4
 ) else(
 if((j.Kind=0)&&((j.Parent<(-1))||(1073741824<j.Parent))) then(
 some 2
 ) else(
 AB (gd ((decide (j.Kind=0))==true) (Qx j.Place)) λ(l:Bool)=>
 AB (
 if((j.Kind=0)&&(!l)) then(
 some ((j.Kind=0)&&(!l))
 ) else(
 AB (gd ((decide (j.Kind=1))==true) (Mq j.Name)) λ(u:Bool)=>
 some ((j.Kind=1)&&(!u))
 )
 ) λ(w:Bool)=>
 if w then(
 some 9
 ) else(
 AB (gd (((j.Kind=1)&&(!(j.Value=[])))==true) (Iq j.Value)) λ(A:Bool)=>
 if(((j.Kind=1)&&(!(j.Value=[])))&&(!A)) then(
 some 23
 ) else(
 some 0
 )
 )
 )
 )
 )
 )
def OV(j:BB)(l:BB):Option (Int):=
 AB (Ix j.Clock l.Clock) λ(q:Int)=>
 AB (Ix j.Site l.Site) λ(u:Int)=>
 AB (NK [q,u]) λ(w:Int)=>
 some w
def Qj(l:List BB)(j:Int):Option (Int ⊕ (Ai Unit Int)):=
 if(decide (j<(l.length:Int))) then(
 AB (AJ l j) λ(q:BB)=>
 AB (QP q) λ(u:Int)=>
 if(!(u=0)) then(
 some (.inr (.ext u))
 ) else(
 AB (gd ((decide (0<j))==true) (AK .i64 (j-1))) λ(w:Int)=>
 AB (gd ((decide (0<j))==true) (AJ l w)) λ(A:BB)=>
 AB (gd ((decide (0<j))==true) (OV A q)) λ(B:Int)=>
 if((0<j)&&(0≤B)) then(
 some (.inr (.ext 5))
 ) else(
 AB (AK .i64 (j+1)) λ(C:Int)=>
 some (.inl C)
 )
 )
 ) else(
 some (.inr (.nrm ()))
 )
def N2(j:List BB):Option (Int):=
 Aj (iter (λ(a:Int)=>Qj j a) 0) λ(l:Unit)=>
 some 0
def E9(n1:Ae):Option (Int):=
 if((n1.ID<1)||(1073741824<n1.ID)) then(
 some 2
 ) else(
 if(((n1.Kind<0)||(13≤n1.Kind))||(!((decide (n1.ID=1))==(decide (n1.Kind=0))))) then(
 some 8
 ) else(
 AB (Hx n1.Attrs) λ(w:Int)=>
 if(!(w=0)) then(
 some w
 ) else(
 AB (G7 n1.Kind) λ(l:Bool)=>
 AB (gd (l==false) (MS n1.Kind)) λ(q:Bool)=>
 AB (Ln n1.Kind) λ(j:Bool)=>
 AB (
 if(((!(l||q))&&(0<(n1.Flow.length:Int)))==false) then(
 if((!j)==true) then(
 AB (LE n1.Grid (BI.mk 0 0 [] [])) λ(A:Bool)=>
 AB (gd ((((!(l||q))&&(0<(n1.Flow.length:Int)))||((!j)&&(!A)))==false) (JN n1.Kind)) λ(C:Bool)=>
 some ((((!(l||q))&&(0<(n1.Flow.length:Int)))||((!j)&&(!A)))||((!C)&&(0<(n1.Draw.length:Int))))
 ) else(
 AB (gd ((((!(l||q))&&(0<(n1.Flow.length:Int)))||((!j)&&false))==false) (JN n1.Kind)) λ(E:Bool)=>
 some ((((!(l||q))&&(0<(n1.Flow.length:Int)))||((!j)&&false))||((!E)&&(0<(n1.Draw.length:Int))))
 )
 ) else(
 AB (gd ((((!(l||q))&&(0<(n1.Flow.length:Int)))||false)==false) (JN n1.Kind)) λ(u:Bool)=>
 some ((((!(l||q))&&(0<(n1.Flow.length:Int)))||false)||((!u)&&(0<(n1.Draw.length:Int))))
 )
 ) λ(F:Bool)=>
 if F then(
 some 4
 ) else(
 if(l||q) then(
 AB (Hb n1.Flow l) λ(I:Int)=>
 some I
 ) else(
 if j then(
 AB (Oo n1.Grid) λ(B:Int)=>
 if(!(B=0)) then(
 some B
 ) else(
 AB (RA n1.Kind n1.Grid.Cells) λ(J:Int)=>
 some J
 )
 ) else(
 AB (N2 n1.Draw) λ(M:Int)=>
 some M
 )
 )
 )
 )
 )
 )
def Hm(f1:List AC)(u:Int)(j:List Int):Option ((Int × (List Int)) ⊕ (List Int)):=
 if(decide (u<(f1.length:Int))) then(
 AB (
 AB (AJ f1 u) λ(w:AC)=>
 if(!(w.Ref=0)) then(
 AB (app 8 j [w.Ref]) λ(l:List Int)=>
 some l
 ) else(
 some j
 )
 ) λ(q:List Int)=>
 AB (AK .i64 (u+1)) λ(A:Int)=>
 some (.inl (A,q))
 ) else(
 some (.inr j)
 )
def Q9(f1:List AC):Option ((List Int)):=
 AB (iter (λ(a:Int × (List Int))=>Hm f1 a.1 a.2) (0,[])) λ(j:List Int)=>
 some j
def HW(n1:Ae)(u:Int)(j:List Int):Option ((Int × (List Int)) ⊕ (List Int)):=
 if(decide (u<(n1.Grid.Cells.length:Int))) then(
 AB (
 AB (AJ n1.Grid.Cells u) λ(w:Aq)=>
 if(!(w.Ref=0)) then(
 AB (app 8 j [w.Ref]) λ(l:List Int)=>
 some l
 ) else(
 some j
 )
 ) λ(q:List Int)=>
 AB (AK .i64 (u+1)) λ(A:Int)=>
 some (.inl (A,q))
 ) else(
 some (.inr j)
 )
def LC(n1:Ae):Option ((List Int)):=
 AB (Q9 n1.Flow) λ(l:List Int)=>
 AB (iter (λ(a:Int × (List Int))=>HW n1 a.1 a.2) (0,l)) λ(j:List Int)=>
 some j
def My(n1:Ae)(j:Int):Option (Int):=
 if(decide (n1.ID<j)) then(
 some (-1)
 ) else(
 if(decide (j<n1.ID)) then(
 some 1
 ) else(
 some 0
 )
 )
def MI(A:List Ae)(j:Int)(l:Int)(q:Int):Option ((Int × Int) ⊕ Int):=
 if(decide (l<q)) then(
 AB (AK .i64 (l+q)) λ(u:Int)=>
 AB (AJ A (IntKind.i64.wrap (FB .u64 (IntKind.u64.wrap u) 1))) λ(B:Ae)=>
 AB (My B j) λ(C:Int)=>
 if(decide (C<0)) then(
 AB (AK .i64 ((IntKind.i64.wrap (FB .u64 (IntKind.u64.wrap u) 1))+1)) λ(w:Int)=>
 some (.inl (w,q))
 ) else(
 some (.inl (l,(IntKind.i64.wrap (FB .u64 (IntKind.u64.wrap u) 1))))
 )
 ) else(
 some (.inr l)
 )
def Rs(l:List Ae)(j:Int):Option (Int × Bool):=
 AB (iter (λ(a:Int × Int)=>MI l j a.1 a.2) (0,(l.length:Int))) λ(i8:Int)=>
 AB (gd ((decide (i8<(l.length:Int)))==true) (AJ l i8)) λ(q:Ae)=>
 AB (gd ((decide (i8<(l.length:Int)))==true) (My q j)) λ(u:Int)=>
 some (i8,((i8<(l.length:Int))&&(u=0)))
def M0(d1:Bj)(j:Int):Option (Int × Bool):=
 Bm (Rs d1.Nodes j) λ(l:Int) (q:Bool)=>
 some (l,q)
def Qi(l:List Int)(v1:Int)(j:Int):Option (Int ⊕ (Ai Unit Int)):=
 if(decide (j<(l.length:Int))) then(
 AB (AJ l j) λ(q:Int)=>
 if(decide (v1=q)) then(
 some (.inr (.ext j))
 ) else(
 AB (AK .i64 (j+1)) λ(u:Int)=>
 some (.inl u)
 )
 ) else(
 some (.inr (.nrm ()))
 )
def TM(j:List Int)(v1:Int):Option (Int):=
 Aj (iter (λ(a:Int)=>Qi j v1 a) 0) λ(l:Unit)=>
 some (-1)
def NR(j:List Int)(v1:Int):Option (Bool):=
 AB (TM j v1) λ(l:Int)=>
 some (decide (0≤l))
def PT(j:Int)(l:Int):Option (Bool):=
 AB (
 if(decide (j=0)) then(
 some [1,6,7,10,11,12]
 ) else(
 if(decide (j=1)) then(
 some [2,4,5,10]
 ) else(
 if(decide (j=3)) then(
 some [4,5,10]
 ) else(
 AB (
 if(decide (j=4)) then(
 some (decide (j=4))
 ) else(
 some (decide (j=12))
 )
 ) λ(q:Bool)=>
 if q then(
 some [5]
 ) else(
 if(decide (j=2)) then(
 some [3]
 ) else(
 if(decide (j=7)) then(
 some [8,9]
 ) else(
 some []
 )
 )
 )
 )
 )
 )
 ) λ(u:List Int)=>
 AB (NR u l) λ(w:Bool)=>
 some w
def L3(d1:Bj)(j:Int)(Ht:List Int)(l:Int):Option (Int ⊕ (Ai Unit Int)):=
 if(decide (l<(Ht.length:Int))) then(
 AB (AJ Ht l) λ(q:Int)=>
 Bm (M0 d1 q) λ(u:Int) (w:Bool)=>
 if(!w) then(
 some (.inr (.ext 7))
 ) else(
 AB (AJ d1.Nodes u) λ(A:Ae)=>
 AB (PT j A.Kind) λ(B:Bool)=>
 if(!B) then(
 some (.inr (.ext 8))
 ) else(
 AB (AK .i64 (l+1)) λ(C:Int)=>
 some (.inl C)
 )
 )
 ) else(
 some (.inr (.nrm ()))
 )
def Pg(d1:Bj)(j:Int)(Ht:List Int):Option (Int):=
 Aj (iter (λ(a:Int)=>L3 d1 j Ht a) 0) λ(l:Unit)=>
 some 0
def KV(d1:Bj)(j:Int):Option (Int ⊕ (Ai Unit Int)):=
 if(decide (j<(d1.Nodes.length:Int))) then(
 AB (AJ d1.Nodes j) λ(l:Ae)=>
 AB (LC l) λ(u:List Int)=>
 AB (Pg d1 l.Kind u) λ(q:Int)=>
 if(!(q=0)) then(
 some (.inr (.ext q))
 ) else(
 AB (AK .i64 (j+1)) λ(w:Int)=>
 some (.inl w)
 )
 ) else(
 some (.inr (.nrm ()))
 )
def IR(d1:Bj)(j:Int):Option (Int ⊕ (Ai Unit Int)):=
 if(decide (j<(d1.Nodes.length:Int))) then(
 AB (AJ d1.Nodes j) λ(l:Ae)=>
 AB (E9 l) λ(A:Int)=>
 if(!(A=0)) then(
 some (.inr (.ext A))
 ) else(
 AB (gd ((((j=0)&&(!(l.ID=1)))==false)&&((decide (0<j))==true)) (AK .i64 (j-1))) λ(q:Int)=>
 AB (gd ((((j=0)&&(!(l.ID=1)))==false)&&((decide (0<j))==true)) (AJ d1.Nodes q)) λ(u:Ae)=>
 if(((j=0)&&(!(l.ID=1)))||((0<j)&&(l.ID≤u.ID))) then(
 some (.inr (.ext 5))
 ) else(
 AB (AK .i64 (j+1)) λ(w:Int)=>
 some (.inl w)
 )
 )
 ) else(
 some (.inr (.nrm ()))
 )
def I9(d1:Bj):Option (Int):=
 if(decide ((d1.Nodes.length:Int)=0)) then(
 some 11
 ) else(
 Aj (iter (λ(a:Int)=>IR d1 a) 0) λ(j:Unit)=>
 Aj (iter (λ(a:Int)=>KV d1 a) 0) λ(l:Unit)=>
 some 0
 )
def Oi(j:Aq)(l:Aq):Option (Bool):=
 AB (gd (((((j.Row=l.Row)&&(j.Col=l.Col))&&(j.Text=l.Text))&&(j.Ref=l.Ref))==true) (Fe j.Attrs l.Attrs)) λ(q:Bool)=>
 some (((((j.Row=l.Row)&&(j.Col=l.Col))&&(j.Text=l.Text))&&(j.Ref=l.Ref))&&q)
def L2(l:List Aq)(q:List Aq)(j:Int):Option (Int ⊕ (Ai Unit Bool)):=
 if(decide (j<(l.length:Int))) then(
 AB (AJ l j) λ(u:Aq)=>
 AB (AJ q j) λ(w:Aq)=>
 AB (Oi u w) λ(A:Bool)=>
 if(!A) then(
 some (.inr (.ext false))
 ) else(
 AB (AK .i64 (j+1)) λ(B:Int)=>
 some (.inl B)
 )
 ) else(
 some (.inr (.nrm ()))
 )
def Jm(j:List Aq)(l:List Aq):Option (Bool):=
 if(!((j.length:Int)=(l.length:Int))) then(
 some false
 ) else(
 Aj (iter (λ(a:Int)=>L2 j l a) 0) λ(q:Unit)=>
 some true
 )
def Lw(u:List An)(w:List An)(j:Int):Option (Int ⊕ (Ai Unit Bool)):=
 if(decide (j<(u.length:Int))) then(
 AB (AJ u j) λ(l:An)=>
 AB (AJ w j) λ(q:An)=>
 if(!((l.Row=q.Row)&&((l.Col=q.Col)&&((l.H=q.H)&&((l.W=q.W)&&true))))) then(
 some (.inr (.ext false))
 ) else(
 AB (AK .i64 (j+1)) λ(A:Int)=>
 some (.inl A)
 )
 ) else(
 some (.inr (.nrm ()))
 )
def IB(j:List An)(l:List An):Option (Bool):=
 if(!((j.length:Int)=(l.length:Int))) then(
 some false
 ) else(
 Aj (iter (λ(a:Int)=>Lw j l a) 0) λ(q:Unit)=>
 some true
 )
def QM(j:BI)(l:BI):Option (Bool):=
 AB (gd (((j.Rows=l.Rows)&&(j.Cols=l.Cols))==true) (Jm j.Cells l.Cells)) λ(q:Bool)=>
 AB (gd ((((j.Rows=l.Rows)&&(j.Cols=l.Cols))&&q)==true) (IB j.Merges l.Merges)) λ(u:Bool)=>
 some ((((j.Rows=l.Rows)&&(j.Cols=l.Cols))&&q)&&u)
def MB(u:List BB)(w:List BB)(q:Int):Option (Int ⊕ (Ai Unit Bool)):=
 if(decide (q<(u.length:Int))) then(
 AB (AJ u q) λ(j:BB)=>
 AB (AJ w q) λ(l:BB)=>
 if(!((j.Clock=l.Clock)&&((j.Site=l.Site)&&((j.Kind=l.Kind)&&((j.Item=l.Item)&&((j.Parent=l.Parent)&&((j.Place=l.Place)&&((j.Name=l.Name)&&((j.Value=l.Value)&&true))))))))) then(
 some (.inr (.ext false))
 ) else(
 AB (AK .i64 (q+1)) λ(A:Int)=>
 some (.inl A)
 )
 ) else(
 some (.inr (.nrm ()))
 )
def Is(j:List BB)(l:List BB):Option (Bool):=
 if(!((j.length:Int)=(l.length:Int))) then(
 some false
 ) else(
 Aj (iter (λ(a:Int)=>MB j l a) 0) λ(q:Unit)=>
 some true
 )
def Hf(j:Ae)(l:Ae):Option (Bool):=
 AB (gd (((j.ID=l.ID)&&(j.Kind=l.Kind))==true) (Fe j.Attrs l.Attrs)) λ(q:Bool)=>
 AB (gd ((((j.ID=l.ID)&&(j.Kind=l.Kind))&&q)==true) (LZ j.Flow l.Flow)) λ(u:Bool)=>
 AB (gd (((((j.ID=l.ID)&&(j.Kind=l.Kind))&&q)&&u)==true) (QM j.Grid l.Grid)) λ(w:Bool)=>
 AB (gd ((((((j.ID=l.ID)&&(j.Kind=l.Kind))&&q)&&u)&&w)==true) (Is j.Draw l.Draw)) λ(A:Bool)=>
 some ((((((j.ID=l.ID)&&(j.Kind=l.Kind))&&q)&&u)&&w)&&A)
def YD(q:List BB)(w:List BB)(u:Int):Option (Int ⊕ (Ai Unit Bool)):=
 if(decide (u<(q.length:Int))) then(
 AB (AJ q u) λ(j:BB)=>
 AB (AJ w u) λ(l:BB)=>
 if(!((j.Clock=l.Clock)&&((j.Site=l.Site)&&((j.Kind=l.Kind)&&((j.Item=l.Item)&&((j.Parent=l.Parent)&&((j.Place=l.Place)&&((j.Name=l.Name)&&((j.Value=l.Value)&&true))))))))) then(
 some (.inr (.ext false))
 ) else(
 AB (AK .i64 (u+1)) λ(A:Int)=>
 some (.inl A)
 )
 ) else(
 some (.inr (.nrm ()))
 )
def Xq(j:List BB)(l:List BB):Option (Bool):=
 if(!((j.length:Int)=(l.length:Int))) then(
 some false
 ) else(
 Aj (iter (λ(a:Int)=>YD j l a) 0) λ(q:Unit)=>
 some true
 )
def Yw(j:Ae)(l:Ae):Option (Bool):=
 AB (gd (((j.ID=l.ID)&&(j.Kind=l.Kind))==true) (Gb j.Attrs l.Attrs)) λ(q:Bool)=>
 AB (gd ((((j.ID=l.ID)&&(j.Kind=l.Kind))&&q)==true) (Xt j.Flow l.Flow)) λ(u:Bool)=>
 AB (gd (((((j.ID=l.ID)&&(j.Kind=l.Kind))&&q)&&u)==true) (LE j.Grid l.Grid)) λ(w:Bool)=>
 AB (gd ((((((j.ID=l.ID)&&(j.Kind=l.Kind))&&q)&&u)&&w)==true) (Xq j.Draw l.Draw)) λ(A:Bool)=>
 some ((((((j.ID=l.ID)&&(j.Kind=l.Kind))&&q)&&u)&&w)&&A)
def RG(d1:Bj)(l:Int)(j:Int):Option (Int ⊕ (Ai Unit Int)):=
 if(decide (j<(d1.Nodes.length:Int))) then(
 AB (AJ d1.Nodes j) λ(q:Ae)=>
 if(decide (q.ID=l)) then(
 some (.inr (.ext j))
 ) else(
 AB (AK .i64 (j+1)) λ(u:Int)=>
 some (.inl u)
 )
 ) else(
 some (.inr (.nrm ()))
 )
def Hv(d1:Bj)(j:Int):Option (Int):=
 Aj (iter (λ(a:Int)=>RG d1 j a) 0) λ(l:Unit)=>
 some (-1)
end
noncomputable section
def KP(j:Int):Option (Bool):=
 some ((((j=1)||(j=3))||(j=4))||(j=12))
def OA(j:Int)(l:Int):Option (Bool):=
 AB (
 if(decide (l=1)) then(
 some (decide (l=1))
 ) else(
 if(decide (l=6)) then(
 some (decide (l=6))
 ) else(
 if(decide (l=7)) then(
 some (decide (l=7))
 ) else(
 if(decide (l=11)) then(
 some (decide (l=11))
 ) else(
 some (decide (l=12))
 )
 )
 )
 )
 ) λ(q:Bool)=>
 if q then(
 some (decide (j=0))
 ) else(
 if(decide (l=10)) then(
 some (((j=0)||(j=1))||(j=3))
 ) else(
 if(decide (l=2)) then(
 some (decide (j=1))
 ) else(
 if(decide (l=4)) then(
 some ((j=1)||(j=3))
 ) else(
 if(decide (l=5)) then(
 AB (KP j) λ(u:Bool)=>
 some u
 ) else(
 if(decide (l=3)) then(
 some (decide (j=2))
 ) else(
 AB (
 if(decide (l=8)) then(
 some (decide (l=8))
 ) else(
 some (decide (l=9))
 )
 ) λ(w:Bool)=>
 if w then(
 some (decide (j=7))
 ) else(
 some false
 )
 )
 )
 )
 )
 )
 )
def UP(j:Int):Option (Bool):=
 some ((j=0)||(j=7))
def PZ(j:BI):Option (Bool):=
 some ((((j.Rows=0)&&(j.Cols=0))&&((j.Cells.length:Int)=0))&&((j.Merges.length:Int)=0))
def RF(j:Int):Option (Bool):=
 some ((j=2)||(j=6))
def Tn(j:Int):Option (Bool):=
 some (((j=8)||(j=9))||(j=10))
def Rg(j:List UInt8):Option (Bool):=
 SC j
def FW(l:List UInt8)(j:(Nat)):Option ((Nat) ⊕ (Ai Unit Bool)):=
 if(decide (j<l.length)) then(
 AB (gd ((decide (((GE l j).1:Int)=10))==false) (JU (IntKind.i64.wrap ((GE l j).1:Int)))) λ(q:Bool)=>
 if((((GE l j).1:Int)=10)||(!q)) then(
 some (.inr (.ext false))
 ) else(
 some (.inl (j+(GE l j).2))
 )
 ) else(
 some (.inr (.nrm ()))
 )
def QS(j:List UInt8):Option (Bool):=
 AB (Rg j) λ(l:Bool)=>
 if(!l) then(
 some false
 ) else(
 Aj (iter (λ(a:(Nat))=>FW j a) 0) λ(q:Unit)=>
 some true
 )
def O0(j:Aq):Option (Bool):=
 some (((j.Text=[])&&(j.Ref=0))&&((j.Attrs.length:Int)=0))
def N7(B:List Aq)(u:Int)(w:Int)(l:Bool)(q:Int):Option (Int ⊕ (Ai Unit Int)):=
 if(decide (q<(B.length:Int))) then(
 AB (AJ B q) λ(j:Aq)=>
 AB (AK .i64 (u-1)) λ(M:Int)=>
 AB (CV j.Row 0 M) λ(C:Bool)=>
 AB (gd ((!C)==false) (AK .i64 (w-1))) λ(O:Int)=>
 AB (gd ((!C)==false) (CV j.Col 0 O)) λ(I:Bool)=>
 AB (gd (((!C)||(!I))==false) (CV j.Ref 0 1073741824)) λ(T:Bool)=>
 if(((!C)||(!I))||(!T)) then(
 some (.inr (.ext 2))
 ) else(
 AB (QS j.Text) λ(U:Bool)=>
 if(!U) then(
 some (.inr (.ext 23))
 ) else(
 AB (Gn j.Attrs false) λ(J:Int)=>
 if(!(J=0)) then(
 some (.inr (.ext J))
 ) else(
 AB (gd ((!l)==true) (O0 j)) λ(V:Bool)=>
 if((!l)&&V) then(
 some (.inr (.ext 4))
 ) else(
 AB (gd ((decide (0<q))==true) (AK .i64 (q-1))) λ(X:Int)=>
 AB (gd ((decide (0<q))==true) (AJ B X)) λ(A:Aq)=>
 AB (gd ((((decide (0<q))==true)&&((decide (j.Row<A.Row))==false))&&((decide (j.Row=A.Row))==true)) (AK .i64 (q-1))) λ(Y:Int)=>
 AB (gd ((((decide (0<q))==true)&&((decide (j.Row<A.Row))==false))&&((decide (j.Row=A.Row))==true)) (AJ B Y)) λ(E:Aq)=>
 if((0<q)&&((j.Row<A.Row)||((j.Row=A.Row)&&(j.Col≤E.Col)))) then(
 some (.inr (.ext 5))
 ) else(
 AB (AK .i64 (q+1)) λ(F:Int)=>
 some (.inl F)
 )
 )
 )
 )
 )
 ) else(
 some (.inr (.nrm ()))
 )
def M8(u:List Aq)(j:Int)(l:Int)(q:Bool):Option (Int):=
 Aj (iter (λ(a:Int)=>N7 u j l q a) 0) λ(w:Unit)=>
 some 0
def LA(u:An)(j:Int)(l:Int):Option (Bool):=
 AB (AK .i64 (j-1)) λ(B:Int)=>
 AB (CV u.Row 0 B) λ(q:Bool)=>
 AB (gd (q==true) (AK .i64 (l-1))) λ(C:Int)=>
 AB (gd (q==true) (CV u.Col 0 C)) λ(w:Bool)=>
 AB (gd ((q&&w)==true) (AK .i64 (j-u.Row))) λ(E:Int)=>
 AB (gd ((q&&w)==true) (CV u.H 1 E)) λ(A:Bool)=>
 AB (gd (((q&&w)&&A)==true) (AK .i64 (l-u.Col))) λ(F:Int)=>
 AB (gd (((q&&w)&&A)==true) (CV u.W 1 F)) λ(I:Bool)=>
 some (((q&&w)&&A)&&I)
def Qt(j:An)(l:An):Option (Bool):=
 AB (AK .i64 (j.Row+j.H)) λ(q:Int)=>
 AB (AK .i64 (l.Row+l.H)) λ(u:Int)=>
 AB (gd ((decide ((max j.Row l.Row)<(min q u)))==true) (AK .i64 (j.Col+j.W))) λ(w:Int)=>
 AB (gd ((decide ((max j.Row l.Row)<(min q u)))==true) (AK .i64 (l.Col+l.W))) λ(A:Int)=>
 some (((max j.Row l.Row)<(min q u))&&((max j.Col l.Col)<(min w A)))
def Pb(u:BI)(w:Int)(A:An)(j:Int):Option (Int ⊕ (Ai Unit (Int ⊕ (Ai Unit Int)))):=
 if(decide (j<w)) then(
 AB (AJ u.Merges j) λ(l:An)=>
 AB (Qt A l) λ(B:Bool)=>
 if B then(
 some (.inr (.ext (.inr (.ext 21))))
 ) else(
 AB (AK .i64 (j+1)) λ(q:Int)=>
 some (.inl q)
 )
 ) else(
 some (.inr (.nrm ()))
 )
def Ow(q:BI)(j:Int):Option (Int ⊕ (Ai Unit Int)):=
 if(decide (j<(q.Merges.length:Int))) then(
 AB (AJ q.Merges j) λ(l:An)=>
 AB (LA l q.Rows q.Cols) λ(A:Bool)=>
 if(!A) then(
 some (.inr (.ext 2))
 ) else(
 if((l.H=1)&&(l.W=1)) then(
 some (.inr (.ext 4))
 ) else(
 AB (gd ((decide (0<j))==true) (AK .i64 (j-1))) λ(B:Int)=>
 AB (gd ((decide (0<j))==true) (AJ q.Merges B)) λ(u:An)=>
 AB (gd ((((decide (0<j))==true)&&((decide (l.Row<u.Row))==false))&&((decide (l.Row=u.Row))==true)) (AK .i64 (j-1))) λ(C:Int)=>
 AB (gd ((((decide (0<j))==true)&&((decide (l.Row<u.Row))==false))&&((decide (l.Row=u.Row))==true)) (AJ q.Merges C)) λ(E:An)=>
 if((0<j)&&((l.Row<u.Row)||((l.Row=u.Row)&&(l.Col≤E.Col)))) then(
 some (.inr (.ext 5))
 ) else(
 Aj (iter (λ(a:Int)=>Pb q j l a) 0) λ(F:Unit)=>
 AB (AK .i64 (j+1)) λ(w:Int)=>
 some (.inl w)
 )
 )
 )
 ) else(
 some (.inr (.nrm ()))
 )
def N4(j:BI):Option (Int):=
 AB (CV j.Rows 0 2147483647) λ(l:Bool)=>
 AB (gd ((!l)==false) (CV j.Cols 0 2147483647)) λ(u:Bool)=>
 if((!l)||(!u)) then(
 some 2
 ) else(
 AB (M8 j.Cells j.Rows j.Cols false) λ(q:Int)=>
 if(!(q=0)) then(
 some q
 ) else(
 Aj (iter (λ(a:Int)=>Ow j a) 0) λ(w:Unit)=>
 some 0
 )
 )
def Qh(j:Int)(u:List Aq)(l:Int):Option (Int ⊕ (Ai Unit Int)):=
 if(decide (l<(u.length:Int))) then(
 AB (gd ((decide (j=2))==true) (AJ u l)) λ(q:Aq)=>
 AB (gd ((((j=2)&&((!(q.Text=[]))||(0<(q.Attrs.length:Int))))==false)&&((decide (j=6))==true)) (AJ u l)) λ(w:Aq)=>
 if(((j=2)&&((!(q.Text=[]))||(0<(q.Attrs.length:Int))))||((j=6)&&(!(w.Ref=0)))) then(
 some (.inr (.ext 4))
 ) else(
 AB (AK .i64 (l+1)) λ(A:Int)=>
 some (.inl A)
 )
 ) else(
 some (.inr (.nrm ()))
 )
def OH(j:Int)(l:List Aq):Option (Int):=
 Aj (iter (λ(a:Int)=>Qh j l a) 0) λ(q:Unit)=>
 some 0
def LN(q:List UInt8)(l:Int):Option (Int ⊕ (Ai Unit Bool)):=
 if(decide (l<(q.length:Int))) then(
 AB (AJ q l) λ(j:UInt8)=>
 if(((j.toNat:Int)<97)||(122<(j.toNat:Int))) then(
 some (.inr (.ext false))
 ) else(
 AB (AK .i64 (l+1)) λ(u:Int)=>
 some (.inl u)
 )
 ) else(
 some (.inr (.nrm ()))
 )
def RC(j:List UInt8):Option (Bool):=
 Aj (iter (λ(a:Int)=>LN j a) 0) λ(u:Unit)=>
 AB (gd (((1≤(j.length:Int))&&((j.length:Int)≤200))==true) (AK .i64 ((j.length:Int)-1))) λ(q:Int)=>
 AB (gd (((1≤(j.length:Int))&&((j.length:Int)≤200))==true) (AJ j q)) λ(l:UInt8)=>
 some (((1≤(j.length:Int))&&((j.length:Int)≤200))&&(!((l.toNat:Int)=97)))
def Nh(j:BB)(l:BB):Option (Bool):=
 some ((j.Clock<l.Clock)||((j.Clock=l.Clock)&&(j.Site<l.Site)))
def PN(q:List BB)(l:Int):Option (Int ⊕ (Ai Unit Int)):=
 if(decide (l<(q.length:Int))) then(
 AB (AJ q l) λ(j:BB)=>
 if((!(j.Kind=0))&&(!(j.Kind=1))) then(
 some (.inr (.ext 8))
 ) else(
 AB (CV j.Clock 1 1073741824) λ(u:Bool)=>
 AB (gd ((!u)==false) (CV j.Site 0 1000)) λ(w:Bool)=>
 AB (gd (((!u)||(!w))==false) (CV j.Item 1 1073741824)) λ(A:Bool)=>
 if(((!u)||(!w))||(!A)) then(
 some (.inr (.ext 2))
 ) else(
 Aj (
 if(decide (j.Kind=0)) then(
 if((!(j.Name=[]))||(!(j.Value=[]))) then(
 some (.ext (.inr (.ext 4)))
 ) else(
 AB (CV j.Parent (-1) 1073741824) λ(B:Bool)=>
 if(!B) then(
 some (.ext (.inr (.ext 2)))
 ) else(
 AB (RC j.Place) λ(C:Bool)=>
 if(!C) then(
 some (.ext (.inr (.ext 9)))
 ) else(
 some (.nrm ())
 )
 )
 )
 ) else(
 if((!(j.Parent=0))||(!(j.Place=[]))) then(
 some (.ext (.inr (.ext 4)))
 ) else(
 AB (Mt j.Name) λ(E:Bool)=>
 if(!E) then(
 some (.ext (.inr (.ext 9)))
 ) else(
 AB (gd ((!(j.Value=[]))==true) (Kj j.Value)) λ(F:Bool)=>
 if((!(j.Value=[]))&&(!F)) then(
 some (.ext (.inr (.ext 23)))
 ) else(
 some (.nrm ())
 )
 )
 )
 )
 ) λ(T:Unit)=>
 AB (gd ((decide (0<l))==true) (AK .i64 (l-1))) λ(I:Int)=>
 AB (gd ((decide (0<l))==true) (AJ q I)) λ(J:BB)=>
 AB (gd ((decide (0<l))==true) (Nh J j)) λ(M:Bool)=>
 if((0<l)&&(!M)) then(
 some (.inr (.ext 5))
 ) else(
 AB (AK .i64 (l+1)) λ(O:Int)=>
 some (.inl O)
 )
 )
 )
 ) else(
 some (.inr (.nrm ()))
 )
def Mj(j:List BB):Option (Int):=
 Aj (iter (λ(a:Int)=>PN j a) 0) λ(l:Unit)=>
 some 0
def MA(n1:Ae):Option (Int):=
 AB (CV n1.ID 1 1073741824) λ(F:Bool)=>
 if(!F) then(
 some 2
 ) else(
 AB (CV n1.Kind 0 12) λ(I:Bool)=>
 if(((!I)||((n1.ID=1)&&(!(n1.Kind=0))))||((!(n1.ID=1))&&(n1.Kind=0))) then(
 some 8
 ) else(
 AB (Gn n1.Attrs false) λ(B:Int)=>
 if(!(B=0)) then(
 some B
 ) else(
 AB (KP n1.Kind) λ(j:Bool)=>
 AB (gd (j==false) (UP n1.Kind)) λ(l:Bool)=>
 AB (gd (((0<(n1.Flow.length:Int))&&(!(j||l)))==false) (PZ n1.Grid)) λ(q:Bool)=>
 AB (gd ((((0<(n1.Flow.length:Int))&&(!(j||l)))==false)&&((!q)==true)) (RF n1.Kind)) λ(C:Bool)=>
 AB (gd (((((0<(n1.Flow.length:Int))&&(!(j||l)))||((!q)&&(!C)))==false)&&((decide (0<(n1.Draw.length:Int)))==true)) (Tn n1.Kind)) λ(J:Bool)=>
 if((((0<(n1.Flow.length:Int))&&(!(j||l)))||((!q)&&(!C)))||((0<(n1.Draw.length:Int))&&(!J))) then(
 some 4
 ) else(
 if(j||l) then(
 AB (JM n1.Flow j) λ(M:Int)=>
 some M
 ) else(
 AB (RF n1.Kind) λ(u:Bool)=>
 if u then(
 AB (N4 n1.Grid) λ(E:Int)=>
 if(!(E=0)) then(
 some E
 ) else(
 AB (OH n1.Kind n1.Grid.Cells) λ(w:Int)=>
 some w
 )
 ) else(
 AB (Mj n1.Draw) λ(A:Int)=>
 some A
 )
 )
 )
 )
 )
 )
def SV(n1:Ae)(u:Int)(j:List Int):Option ((Int × (List Int)) ⊕ (List Int)):=
 if(decide (u<(n1.Grid.Cells.length:Int))) then(
 AB (
 AB (AJ n1.Grid.Cells u) λ(w:Aq)=>
 if(!(w.Ref=0)) then(
 AB (app 8 j [w.Ref]) λ(l:List Int)=>
 some l
 ) else(
 some j
 )
 ) λ(q:List Int)=>
 AB (AK .i64 (u+1)) λ(A:Int)=>
 some (.inl (A,q))
 ) else(
 some (.inr j)
 )
def TC(n1:Ae)(w:Int)(j:List Int):Option ((Int × (List Int)) ⊕ (List Int)):=
 if(decide (w<(n1.Flow.length:Int))) then(
 AB (
 AB (AJ n1.Flow w) λ(u:AC)=>
 if(!(u.Ref=0)) then(
 AB (app 8 j [u.Ref]) λ(l:List Int)=>
 some l
 ) else(
 some j
 )
 ) λ(q:List Int)=>
 AB (AK .i64 (w+1)) λ(A:Int)=>
 some (.inl (A,q))
 ) else(
 some (.inr j)
 )
def Og(n1:Ae):Option ((List Int)):=
 AB (iter (λ(a:Int × (List Int))=>TC n1 a.1 a.2) (0,[])) λ(j:List Int)=>
 AB (iter (λ(a:Int × (List Int))=>SV n1 a.1 a.2) (0,j)) λ(l:List Int)=>
 some l
def MN(d1:Bj)(j:Int)(Ht:List Int)(l:Int):Option (Int ⊕ (Ai Unit Int)):=
 if(decide (l<(Ht.length:Int))) then(
 AB (AJ Ht l) λ(u:Int)=>
 AB (Hv d1 u) λ(q:Int)=>
 if(decide (q<0)) then(
 some (.inr (.ext 7))
 ) else(
 AB (AJ d1.Nodes q) λ(w:Ae)=>
 AB (OA j w.Kind) λ(A:Bool)=>
 if(!A) then(
 some (.inr (.ext 8))
 ) else(
 AB (AK .i64 (l+1)) λ(B:Int)=>
 some (.inl B)
 )
 )
 ) else(
 some (.inr (.nrm ()))
 )
def PJ(d1:Bj)(j:Int)(Ht:List Int):Option (Int):=
 Aj (iter (λ(a:Int)=>MN d1 j Ht a) 0) λ(l:Unit)=>
 some 0
def LI(d1:Bj)(j:Int):Option (Int ⊕ (Ai Unit Int)):=
 if(decide (j<(d1.Nodes.length:Int))) then(
 AB (AJ d1.Nodes j) λ(l:Ae)=>
 AB (Og l) λ(u:List Int)=>
 AB (PJ d1 l.Kind u) λ(q:Int)=>
 if(!(q=0)) then(
 some (.inr (.ext q))
 ) else(
 AB (AK .i64 (j+1)) λ(w:Int)=>
 some (.inl w)
 )
 ) else(
 some (.inr (.nrm ()))
 )
def M2(d1:Bj)(j:Int):Option (Int ⊕ (Ai Unit Int)):=
 if(decide (j<(d1.Nodes.length:Int))) then(
 AB (AJ d1.Nodes j) λ(A:Ae)=>
 AB (MA A) λ(B:Int)=>
 if(!(B=0)) then(
 some (.inr (.ext B))
 ) else(
 AB (gd ((decide (j=0))==true) (AJ d1.Nodes 0)) λ(l:Ae)=>
 AB (gd ((((j=0)&&(!(l.ID=1)))==false)&&((decide (0<j))==true)) (AK .i64 (j-1))) λ(q:Int)=>
 AB (gd ((((j=0)&&(!(l.ID=1)))==false)&&((decide (0<j))==true)) (AJ d1.Nodes q)) λ(u:Ae)=>
 if(((j=0)&&(!(l.ID=1)))||((0<j)&&(A.ID≤u.ID))) then(
 some (.inr (.ext 5))
 ) else(
 AB (AK .i64 (j+1)) λ(w:Int)=>
 some (.inl w)
 )
 )
 ) else(
 some (.inr (.nrm ()))
 )
def P0(d1:Bj):Option (Int):=
 if(decide ((d1.Nodes.length:Int)=0)) then(
 some 11
 ) else(
 Aj (iter (λ(a:Int)=>M2 d1 a) 0) λ(j:Unit)=>
 Aj (iter (λ(a:Int)=>LI d1 a) 0) λ(l:Unit)=>
 some 0
 )
end
noncomputable section
structure A9 where
 Node:Int
 From:Int
 To:Int
deriving DecidableEq
instance:Inhabited A9:=⟨⟨0,0,0⟩⟩
@[reducible] def A9.row(x:A9):List RV:=[.int .i64 x.Node,.int .i64 x.From,.int .i64 x.To]
structure B2 where
 node:Ae
 shown:List Int
 author:List UInt8
deriving DecidableEq
instance:Inhabited B2:=⟨⟨(Ae.mk 0 0 [] [] (BI.mk 0 0 [] []) []),[],[]⟩⟩
def bP:Option (Bool):=
 some true
def fW:Option (Bool):=
 some true
def P7:Option (Bool):=
 some true
def PW(d1:Bj)(j:Int):Option (Int):=
 Bm (M0 d1 j) λ(l:Int) (q:Bool)=>
 if q then(
 some l
 ) else(
 some (-1)
 )
def KY(d1:Bj)(l:A9)(j:List UInt8):Option (B2 × Int):=
 AB (I9 d1) λ(u:Int)=>
 if(!(u=0)) then(
 some ((B2.mk (Ae.mk 0 0 [] [] (BI.mk 0 0 [] []) []) [] []),u)
 ) else(
 AB (PW d1 l.Node) λ(w:Int)=>
 if(decide (w<0)) then(
 some ((B2.mk (Ae.mk 0 0 [] [] (BI.mk 0 0 [] []) []) [] []),7)
 ) else(
 AB (AJ d1.Nodes w) λ(q:Ae)=>
 AB (G7 q.Kind) λ(B:Bool)=>
 if(!B) then(
 some ((B2.mk (Ae.mk 0 0 [] [] (BI.mk 0 0 [] []) []) [] []),8)
 ) else(
 AB (Pt q.Flow 0) λ(A:List Int)=>
 if(((l.From<0)||(l.To<l.From))||((A.length:Int)≤l.To)) then(
 some ((B2.mk (Ae.mk 0 0 [] [] (BI.mk 0 0 [] []) []) [] []),2)
 ) else(
 AB (gd ((!(j=[]))==true) (Iq j)) λ(C:Bool)=>
 if((!(j=[]))&&(!C)) then(
 some ((B2.mk (Ae.mk 0 0 [] [] (BI.mk 0 0 [] []) []) [] []),23)
 ) else(
 some ((B2.mk q A j),0)
 )
 )
 )
 )
 )
def IN(j:B2)(l:Int):Option (AC):=
 if((l<0)||((j.shown.length:Int)≤l)) then(
 some (AC.mk 10 0 [])
 ) else(
 AB (AJ j.shown l) λ(q:Int)=>
 AB (AJ j.node.Flow q) λ(u:AC)=>
 some u
 )
def JG(d1:Bj)(j:A9):Option (Int):=
 AB (P0 d1) λ(l:Int)=>
 if(!(l=0)) then(
 some l
 ) else(
 AB (Hv d1 j.Node) λ(q:Int)=>
 if(decide (q<0)) then(
 some 7
 ) else(
 AB (AJ d1.Nodes q) λ(u:Ae)=>
 AB (KP u.Kind) λ(w:Bool)=>
 if(!w) then(
 some 8
 ) else(
 AB (HS u.Flow 0) λ(A:List Int)=>
 if(((j.From<0)||(j.To<j.From))||((A.length:Int)≤j.To)) then(
 some 2
 ) else(
 some 0
 )
 )
 )
 )
def PY(j:D4)(l:D4):Option (Bool):=
 AB (KB j.Rows l.Rows) λ(q:Bool)=>
 AB (gd (q==true) (KB j.Cols l.Cols)) λ(u:Bool)=>
 AB (gd ((q&&u)==true) (Jm j.Cells l.Cells)) λ(w:Bool)=>
 AB (gd (((q&&u)&&w)==true) (IB j.Split l.Split)) λ(A:Bool)=>
 AB (gd ((((q&&u)&&w)&&A)==true) (IB j.Merge l.Merge)) λ(B:Bool)=>
 some ((((q&&u)&&w)&&A)&&B)
def M6(j:A3)(l:A3):Option (Bool):=
 AB (gd (((j.Kind=l.Kind)&&(j.Node=l.Node))==true) (Hf j.New l.New)) λ(q:Bool)=>
 AB (gd ((((j.Kind=l.Kind)&&(j.Node=l.Node))&&q)==true) (Fe j.Attrs l.Attrs)) λ(u:Bool)=>
 AB (gd (((((j.Kind=l.Kind)&&(j.Node=l.Node))&&q)&&u)==true) (Jz j.Steps l.Steps)) λ(w:Bool)=>
 AB (gd ((((((j.Kind=l.Kind)&&(j.Node=l.Node))&&q)&&u)&&w)==true) (PY j.Grid l.Grid)) λ(A:Bool)=>
 AB (gd (((((((j.Kind=l.Kind)&&(j.Node=l.Node))&&q)&&u)&&w)&&A)==true) (Is j.Draw l.Draw)) λ(B:Bool)=>
 some (((((((j.Kind=l.Kind)&&(j.Node=l.Node))&&q)&&u)&&w)&&A)&&B)
def No(l:List A3)(q:List A3)(j:Int):Option (Int ⊕ (Ai Unit Bool)):=
 if(decide (j<(l.length:Int))) then(
 AB (AJ l j) λ(u:A3)=>
 AB (AJ q j) λ(w:A3)=>
 AB (M6 u w) λ(A:Bool)=>
 if(!A) then(
 some (.inr (.ext false))
 ) else(
 AB (AK .i64 (j+1)) λ(B:Int)=>
 some (.inl B)
 )
 ) else(
 some (.inr (.nrm ()))
 )
def Hi(j:List A3)(l:List A3):Option (Bool):=
 if(!((j.length:Int)=(l.length:Int))) then(
 some false
 ) else(
 Aj (iter (λ(a:Int)=>No j l a) 0) λ(q:Unit)=>
 some true
 )
end
noncomputable section
end
noncomputable section
def NE(j:Ac)(C:BM)(B:BM):Option ((Ac × BM × BM) ⊕ Ac):=
 AB (GB C) λ(E:Int)=>
 AB (
 if((decide (0≤E))==false) then(
 AB (GB B) λ(I:Int)=>
 some ((0≤E)||(0≤I))
 ) else(
 some ((0≤E)||false)
 )
 ) λ(Z:Bool)=>
 if Z then(
 if(decide (E=2)) then(
 AB (GJ C) λ(r9:Int)=>
 Bm (FY C r9) λ(J:AH) (w6:BM)=>
 AB (AK .i64 (j.cut+J.N)) λ(x2:Int)=>
 some (.inl ((Ac.mk j.out j.add x2),w6,B))
 ) else(
 AB (GB B) λ(M:Int)=>
 if(decide (M=1)) then(
 AB (GJ B) λ(O:Int)=>
 Bm (FY B O) λ(T:AH) (w7:BM)=>
 AB (HF j T.Elems) λ(w8:Ac)=>
 some (.inl (w8,C,w7))
 ) else(
 AB (GJ C) λ(l:Int)=>
 AB (GJ B) λ(q:Int)=>
 Bm (FY C (min l q)) λ(u:AH) (F:BM)=>
 Bm (FY B (min l q)) λ(w:AH) (A:BM)=>
 if((u.Kind=0)&&(w.Kind=0)) then(
 AB (RD u.Attrs w.Attrs) λ(U:List AD)=>
 AB (GT j (min l q) U) λ(V:Ac)=>
 some (.inl (V,F,A))
 ) else(
 if(decide (u.Kind=0)) then(
 AB (AK .i64 (j.cut+(min l q))) λ(x3:Int)=>
 some (.inl ((Ac.mk j.out j.add x3),F,A))
 ) else(
 if(decide (w.Kind=0)) then(
 AB (Q6 u.Elems w.Attrs) λ(X:List AC)=>
 AB (HF j X) λ(Y:Ac)=>
 some (.inl (Y,F,A))
 ) else(
 some (.inl (j,F,A))
 )
 )
 )
 )
 )
 ) else(
 some (.inr j)
 )
def L5(j:List AH)(l:List AH):Option ((List AH) × Int):=
 AB (IO j) λ(q:Int)=>
 if(!(q=0)) then(
 some ([],q)
 ) else(
 AB (IO l) λ(u:Int)=>
 if(!(u=0)) then(
 some ([],u)
 ) else(
 Bm (I1 j) λ(F:Int) (w:Int)=>
 Bm (I1 l) λ(A:Int) (I:Int)=>
 if(!(A=w)) then(
 some ([],14)
 ) else(
 AB (iter (λ(a:Ac × BM × BM)=>NE a.1 a.2.1 a.2.2) ((Ac.mk [] [] 0),(BM.mk j 0),(BM.mk l 0))) λ(B:Ac)=>
 Fc (IK B) λ(C:List AH) (E:Int) (J:Ac)=>
 some (C,E)
 )
 )
 )
end
noncomputable section
def Np(f1:List AC)(d1:List AH):Option ((List AC)):=
 AB (OC d1) λ(j:BT)=>
 AB (MT f1 j) λ(l:List AC)=>
 some l
end
noncomputable section
def Qu(d1:Bj)(j:A9):Option (Int):=
 Bm (KY d1 j []) λ(q:B2) (l:Int)=>
 some l
def NZ(l:List (List UInt8))(v1:List UInt8)(j:Int):Option (Int ⊕ (Ai Unit Int)):=
 if(decide (j<(l.length:Int))) then(
 AB (AJ l j) λ(q:List UInt8)=>
 if(decide (v1=q)) then(
 some (.inr (.ext j))
 ) else(
 AB (AK .i64 (j+1)) λ(u:Int)=>
 some (.inl u)
 )
 ) else(
 some (.inr (.nrm ()))
 )
def TX(j:List (List UInt8))(v1:List UInt8):Option (Int):=
 Aj (iter (λ(a:Int)=>NZ j v1 a) 0) λ(l:Unit)=>
 some (-1)
def Ms(j:List (List UInt8))(v1:List UInt8):Option (Bool):=
 AB (TX j v1) λ(l:Int)=>
 some (decide (0≤l))
def Po(j:List UInt8):Option (Bool):=
 AB (Ms [[98,111,108,100],[105,116,97,108,105,99],[117,110,100,101,114],[115,116,114,105,107,101],[102,105,120,101,100],[114,97,105,115,101],[115,105,122,101],[99,111,108,111,117,114],[108,97,110,103],[115,116,121,108,101]] j) λ(l:Bool)=>
 some l
def Nz(j:List UInt8):Option (Bool):=
 AB (gd ((((j=[108,105,110,107])||(j=[108,111,99,107]))==false)&&((decide (7<(j.length:Int)))==true)) (B8 j 0 7)) λ(l:List UInt8)=>
 AB (gd (((((j=[108,105,110,107])||(j=[108,111,99,107]))||((7<(j.length:Int))&&(l=[114,101,109,97,114,107,46])))==false)&&((decide (5<(j.length:Int)))==true)) (B8 j 0 5)) λ(q:List UInt8)=>
 some ((((j=[108,105,110,107])||(j=[108,111,99,107]))||((7<(j.length:Int))&&(l=[114,101,109,97,114,107,46])))||((5<(j.length:Int))&&(q=[109,97,114,107,46])))
def KI(A:Int)(B:AC)(E:AC)(j:List AD)(w:Int):Option (((List AD) × Int) ⊕ (List AD)):=
 if(decide (w<(B.Attrs.length:Int))) then(
 AB (
 AB (AJ B.Attrs w) λ(u:AD)=>
 AB (Nz u.Name) λ(C:Bool)=>
 AB (gd ((C&&(0<A))==true) (Gs E.Attrs u.Name)) λ(F:List UInt8)=>
 if((C&&(0<A))&&(F=u.Value)) then(
 AB (Lj j [u]) λ(l:List AD)=>
 some l
 ) else(
 some j
 )
 ) λ(q:List AD)=>
 AB (AK .i64 (w+1)) λ(I:Int)=>
 some (.inl (q,I))
 ) else(
 some (.inr j)
 )
def Kw(j:AC)(A:Int)(l:List AD):Option ((Int × (List AD)) ⊕ (Ai Unit (List AD))):=
 if(decide (A<(j.Attrs.length:Int))) then(
 AB (
 AB (AJ j.Attrs A) λ(w:AD)=>
 AB (Po w.Name) λ(C:Bool)=>
 if C then(
 AB (app 32 l [w]) λ(q:List AD)=>
 some q
 ) else(
 some l
 )
 ) λ(u:List AD)=>
 AB (AK .i64 (A+1)) λ(B:Int)=>
 some (.inl (B,u))
 ) else(
 some (.inr (.ext l))
 )
def PL(A:B2)(u:Int):Option ((List AD)):=
 AB (AK .i64 (u-1)) λ(C:Int)=>
 AB (IN A C) λ(w:AC)=>
 AB (IN A u) λ(B:AC)=>
 AB (
 if(decide (w.Char=10)) then(
 some B
 ) else(
 some w
 )
 ) λ(j:AC)=>
 AB (
 if(!(j.Char=10)) then(
 Aj (iter (λ(a:Int × (List AD))=>Kw j a.1 a.2) (0,[])) λ(E:Unit)=>
 none
 ) else(
 some []
 )
 ) λ(l:List AD)=>
 AB (iter (λ(a:(List AD) × Int)=>KI u w B a.1 a.2) (l,0)) λ(q:List AD)=>
 some q
def Kb(A:AC)(u:Int)(j:List AD):Option ((Int × (List AD)) ⊕ (List AD)):=
 if(decide (u<(A.Attrs.length:Int))) then(
 AB (
 AB (AJ A.Attrs u) λ(w:AD)=>
 AB (Ms [[97,100,100],[99,117,116],[104,105,100,100,101,110],[108,111,99,107],[115,101,99,116,105,111,110],[98,114,101,97,107],[115,116,97,114,116]] w.Name) λ(B:Bool)=>
 AB (gd ((!B)==true) (Nz w.Name)) λ(C:Bool)=>
 if((!B)&&(!C)) then(
 AB (app 32 j [w]) λ(l:List AD)=>
 some l
 ) else(
 some j
 )
 ) λ(q:List AD)=>
 AB (AK .i64 (u+1)) λ(E:Int)=>
 some (.inl (E,q))
 ) else(
 some (.inr j)
 )
def TO(l:B2)(j:Int):Option (Int ⊕ Int):=
 AB (IN l j) λ(q:AC)=>
 if(!(q.Char=10)) then(
 AB (AK .i64 (j+1)) λ(u:Int)=>
 some (.inl u)
 ) else(
 some (.inr j)
 )
def Jy(l:B2)(q:Int):Option ((List AD)):=
 AB (iter (λ(a:Int)=>TO l a) q) λ(u:Int)=>
 AB (IN l u) λ(w:AC)=>
 AB (iter (λ(a:Int × (List AD))=>Kb w a.1 a.2) (0,[])) λ(j:List AD)=>
 some j
def GQ(j:List AD)(u:List UInt8)(l:List AC):Option (((List UInt8) × (List AC)) ⊕ (Ai (List AC) (Int × (List AC)))):=
 if(!(u=[])) then(
 Bm (GZ u) λ(w:Int) (A:Int)=>
 if((w=65533)&&(A=1)) then(
 some (.inr (.ext (10,[])))
 ) else(
 AB (Jh (IntKind.i64.wrap w)) λ(B:Bool)=>
 if(!B) then(
 some (.inr (.ext (2,[])))
 ) else(
 AB (app 32 [] j) λ(C:List AD)=>
 AB (app 40 l [(AC.mk (IntKind.i64.wrap w) 0 C)]) λ(q:List AC)=>
 AB (B8 u A (u.length:Int)) λ(E:List UInt8)=>
 some (.inl (E,q))
 )
 )
 ) else(
 some (.inr (.nrm l))
 )
def Nu(u:List UInt8)(j:List AD):Option (Int × (List AC)):=
 AB (Hx j) λ(q:Int)=>
 if(!(q=0)) then(
 some (q,[])
 ) else(
 Aj (iter (λ(a:(List UInt8) × (List AC))=>GQ j a.1 a.2) (u,[])) λ(l:List AC)=>
 some (0,l)
 )
def Lh(f1:List AC)(j:List UInt8)(q:List Bool)(w:Int)(l:List AH):Option ((Int × (List AH)) ⊕ (List AH)):=
 if(decide (w<(f1.length:Int))) then(
 AB (AJ f1 w) λ(B:AC)=>
 AB (
 AB (AJ q w) λ(C:Bool)=>
 if(!C) then(
 some (AH.mk 0 1 [] [])
 ) else(
 AB (gd ((decide (j=[]))==false) (Gs B.Attrs [97,100,100])) λ(E:List UInt8)=>
 if((j=[])||(E=j)) then(
 some (AH.mk 2 1 [] [])
 ) else(
 some (AH.mk 0 1 [(AD.mk [99,117,116] j)] [])
 )
 )
 ) λ(A:AH)=>
 AB (app 64 l [(AH.mk A.Kind A.N A.Attrs [])]) λ(u:List AH)=>
 AB (AK .i64 (w+1)) λ(F:Int)=>
 some (.inl (F,u))
 ) else(
 some (.inr l)
 )
def LP(j:List Int)(u:Int)(l:List Bool):Option ((Int × (List Bool)) ⊕ (List Bool)):=
 if(decide (u<(j.length:Int))) then(
 AB (AJ j u) λ(q:Int)=>
 AB (AJ l q) λ(A:Bool)=>
 AB (AK .i64 (u+1)) λ(w:Int)=>
 some (.inl (w,(l.set q.toNat true)))
 ) else(
 some (.inr l)
 )
def PI(f1:List AC)(j:List Int)(l:List UInt8):Option ((List AH)):=
 AB (mk 1 (f1.length:Int) false) λ(q:List Bool)=>
 AB (iter (λ(a:Int × (List Bool))=>LP j a.1 a.2) (0,q)) λ(u:List Bool)=>
 AB (iter (λ(a:Int × (List AH))=>Lh f1 l u a.1 a.2) (0,[])) λ(w:List AH)=>
 Bm (IU w) λ(A:List AH) (B:Int)=>
 some A
def QJ(j:List Int)(l:Int):Option (Int):=
 if(decide (l=0)) then(
 some 0
 ) else(
 AB (AK .i64 (l-1)) λ(q:Int)=>
 AB (AJ j q) λ(u:Int)=>
 AB (AK .i64 (u+1)) λ(w:Int)=>
 some w
 )
def Jc(f1:List AC)(l:Int)(j:List AC):Option ((Int × (List AC)) ⊕ (List AC)):=
 if(decide (l<(f1.length:Int))) then(
 AB (AJ f1 l) λ(q:AC)=>
 AB (app 32 [] q.Attrs) λ(u:List AD)=>
 AB (AJ j l) λ(A:AC)=>
 AB (AK .i64 (l+1)) λ(w:Int)=>
 some (.inl (w,(j.set l.toNat (AC.mk q.Char q.Ref u))))
 ) else(
 some (.inr j)
 )
def Qw(f1:List AC):Option ((List AC)):=
 AB (mk 40 (f1.length:Int) (AC.mk 0 0 [])) λ(j:List AC)=>
 AB (iter (λ(a:Int × (List AC))=>Jc f1 a.1 a.2) (0,j)) λ(l:List AC)=>
 some l
def KZ(j:List UInt8)(w:List AC)(l:Int)(q:List AC):Option ((Int × (List AC)) ⊕ (List AC)):=
 if(decide (l<(w.length:Int))) then(
 AB (AJ q l) λ(u:AC)=>
 AB (Lj u.Attrs [(AD.mk [97,100,100] j),(AD.mk [99,117,116] [])]) λ(A:List AD)=>
 AB (AK .i64 (l+1)) λ(B:Int)=>
 some (.inl (B,(q.set l.toNat (AC.mk u.Char u.Ref A))))
 ) else(
 some (.inr q)
 )
def Pw(f1:List AC)(q:Int)(l:List AC)(j:List UInt8):Option ((List AH)):=
 AB (Qw l) λ(u:List AC)=>
 AB (iter (λ(a:Int × (List AC))=>KZ j u a.1 a.2) (0,u)) λ(w:List AC)=>
 AB (AK .i64 ((f1.length:Int)-q)) λ(A:Int)=>
 Bm (IU [(AH.mk 0 q [] []),(AH.mk 1 0 [] w),(AH.mk 0 A [] [])]) λ(B:List AH) (C:Int)=>
 some B
def Qr(q:B2)(u:A9)(j:List AC):Option ((List A3) × A9 × Int):=
 AB (B8 q.shown u.From u.To) λ(F:List Int)=>
 AB (PI q.node.Flow F q.author) λ(l:List AH)=>
 AB (QJ q.shown u.From) λ(w:Int)=>
 AB (Pw q.node.Flow w j q.author) λ(A:List AH)=>
 Fc (NU A l) λ(I:List AH) (M:List AH) (B:Int)=>
 if(!(B=0)) then(
 some ([],(A9.mk 0 0 0),B)
 ) else(
 Bm (L5 l I) λ(J:List AH) (C:Int)=>
 if(!(C=0)) then(
 some ([],(A9.mk 0 0 0),C)
 ) else(
 AB (AK .i64 (u.From+(j.length:Int))) λ(E:Int)=>
 some ([(A3.mk 2 u.Node (Ae.mk 0 0 [] [] (BI.mk 0 0 [] []) []) [] J (D4.mk [] [] [] [] []) [])],(A9.mk u.Node E E),0)
 )
 )
def LX(w:A9)(A:B2)(B:List AC)(q:Int)(j:List AC):Option ((Int × (List AC)) ⊕ (List AC)):=
 if(decide (q<(B.length:Int))) then(
 AB (
 AB (AJ j q) λ(u:AC)=>
 if(decide (u.Char=10)) then(
 AB (Jy A w.To) λ(C:List AD)=>
 some (j.set q.toNat (AC.mk u.Char u.Ref C))
 ) else(
 some j
 )
 ) λ(l:List AC)=>
 AB (AK .i64 (q+1)) λ(E:Int)=>
 some (.inl (E,l))
 ) else(
 some (.inr j)
 )
def Eu(d1:Bj)(u:A9)(j:List UInt8)(l:List UInt8):Option ((List A3) × A9 × Int):=
 Bm (KY d1 u l) λ(w:B2) (A:Int)=>
 if(!(A=0)) then(
 some ([],(A9.mk 0 0 0),A)
 ) else(
 if(decide (20000<(j.length:Int))) then(
 some ([],(A9.mk 0 0 0),3)
 ) else(
 AB (PL w u.From) λ(E:List AD)=>
 Bm (Nu j E) λ(B:Int) (C:List AC)=>
 if(!(B=0)) then(
 some ([],(A9.mk 0 0 0),B)
 ) else(
 AB (iter (λ(a:Int × (List AC))=>LX u w C a.1 a.2) (0,C)) λ(q:List AC)=>
 Fc (Qr w u q) λ(F:List A3) (I:A9) (J:Int)=>
 some (F,I,J)
 )
 )
 )
def ND(d1:Bj)(l:A9)(j:List UInt8):Option ((List A3) × A9 × Int):=
 Fc (Eu d1 l [] j) λ(q:List A3) (u:A9) (w:Int)=>
 some (q,u,w)
def Jg(d1:Bj)(q:A9)(j:List UInt8):Option (Int):=
 AB (JG d1 q) λ(l:Int)=>
 if(!(l=0)) then(
 some l
 ) else(
 AB (gd ((!(j=[]))==true) (Kj j)) λ(u:Bool)=>
 if((!(j=[]))&&(!u)) then(
 some 23
 ) else(
 some 0
 )
 )
def L9(f1:List AC)(u:List Int)(q:Int)(j:List AC):Option ((Int × (List AC)) ⊕ (List AC)):=
 if(decide (q<(u.length:Int))) then(
 AB (AJ u q) λ(w:Int)=>
 AB (AJ f1 w) λ(A:AC)=>
 AB (app 40 j [A]) λ(l:List AC)=>
 AB (AK .i64 (q+1)) λ(B:Int)=>
 some (.inl (B,l))
 ) else(
 some (.inr j)
 )
def PH(f1:List AC):Option ((List AC)):=
 AB (HS f1 0) λ(l:List Int)=>
 AB (iter (λ(a:Int × (List AC))=>L9 f1 l a.1 a.2) (0,[])) λ(j:List AC)=>
 some j
def O2(j:List UInt8):Option (Bool):=
 AB (
 if(decide (j=[98,111,108,100])) then(
 some (decide (j=[98,111,108,100]))
 ) else(
 if(decide (j=[105,116,97,108,105,99])) then(
 some (decide (j=[105,116,97,108,105,99]))
 ) else(
 if(decide (j=[117,110,100,101,114])) then(
 some (decide (j=[117,110,100,101,114]))
 ) else(
 if(decide (j=[115,116,114,105,107,101])) then(
 some (decide (j=[115,116,114,105,107,101]))
 ) else(
 if(decide (j=[102,105,120,101,100])) then(
 some (decide (j=[102,105,120,101,100]))
 ) else(
 if(decide (j=[114,97,105,115,101])) then(
 some (decide (j=[114,97,105,115,101]))
 ) else(
 if(decide (j=[115,105,122,101])) then(
 some (decide (j=[115,105,122,101]))
 ) else(
 if(decide (j=[99,111,108,111,117,114])) then(
 some (decide (j=[99,111,108,111,117,114]))
 ) else(
 if(decide (j=[108,97,110,103])) then(
 some (decide (j=[108,97,110,103]))
 ) else(
 some (decide (j=[115,116,121,108,101]))
 )
 )
 )
 )
 )
 )
 )
 )
 )
 ) λ(l:Bool)=>
 if l then(
 some true
 ) else(
 some false
 )
def Nq(l:List UInt8)(j:List UInt8):Option (Bool):=
 AB (gd ((decide ((j.length:Int)<(l.length:Int)))==true) (B8 l 0 (j.length:Int))) λ(q:List UInt8)=>
 some (((j.length:Int)<(l.length:Int))&&(q=j))
def NY(j:List UInt8):Option (Bool):=
 AB (gd (((j=[108,105,110,107])||(j=[108,111,99,107]))==false) (Nq j [114,101,109,97,114,107,46])) λ(l:Bool)=>
 AB (gd ((((j=[108,105,110,107])||(j=[108,111,99,107]))||l)==false) (Nq j [109,97,114,107,46])) λ(q:Bool)=>
 some ((((j=[108,105,110,107])||(j=[108,111,99,107]))||l)||q)
def La(j:AC)(q:AC)(l:List AD)(B:Int):Option (((List AD) × Int) ⊕ (Ai Unit (List AD))):=
 if(decide (B<(j.Attrs.length:Int))) then(
 AB (
 AB (AJ j.Attrs B) λ(A:AD)=>
 AB (NY A.Name) λ(C:Bool)=>
 AB (gd (C==true) (Ib q.Attrs A.Name)) λ(E:List UInt8)=>
 if(C&&(E=A.Value)) then(
 AB (G4 l A) λ(u:List AD)=>
 some u
 ) else(
 some l
 )
 ) λ(w:List AD)=>
 AB (AK .i64 (B+1)) λ(F:Int)=>
 some (.inl (w,F))
 ) else(
 some (.inr (.ext l))
 )
def Lk(j:AC)(l:List AD)(A:Int):Option (((List AD) × Int) ⊕ (Ai Unit (List AD))):=
 if(decide (A<(j.Attrs.length:Int))) then(
 AB (
 AB (AJ j.Attrs A) λ(w:AD)=>
 AB (O2 w.Name) λ(B:Bool)=>
 if B then(
 AB (G4 l w) λ(q:List AD)=>
 some q
 ) else(
 some l
 )
 ) λ(u:List AD)=>
 AB (AK .i64 (A+1)) λ(C:Int)=>
 some (.inl (u,C))
 ) else(
 some (.inr (.ext l))
 )
def LW(v1:List AC)(q:Int):Option ((List AD)):=
 AB (
 if(decide (0<q)) then(
 AB (AK .i64 (q-1)) λ(B:Int)=>
 AB (AJ v1 B) λ(C:AC)=>
 some C
 ) else(
 some (AC.mk 10 0 [])
 )
 ) λ(j:AC)=>
 AB (
 if(decide (q<(v1.length:Int))) then(
 AB (AJ v1 q) λ(E:AC)=>
 some E
 ) else(
 some (AC.mk 10 0 [])
 )
 ) λ(l:AC)=>
 AB (
 if(decide (j.Char=10)) then(
 some l
 ) else(
 some j
 )
 ) λ(u:AC)=>
 AB (
 if(!(u.Char=10)) then(
 Aj (iter (λ(a:(List AD) × Int)=>Lk u a.1 a.2) ([],0)) λ(F:Unit)=>
 none
 ) else(
 some []
 )
 ) λ(w:List AD)=>
 AB (
 if(decide (0<q)) then(
 Aj (iter (λ(a:(List AD) × Int)=>La j l a.1 a.2) (w,0)) λ(I:Unit)=>
 none
 ) else(
 some w
 )
 ) λ(A:List AD)=>
 some A
def GK(u:List UInt8)(j:List AD)(w:Int)(l:List AC):Option ((Int × (List AC)) ⊕ (Ai (List AC) (Int × (List AC)))):=
 if(decide (w<(u.length:Int))) then(
 AB (B8 u w (u.length:Int)) λ(C:List UInt8)=>
 Bm (GZ C) λ(A:Int) (B:Int)=>
 if((A=65533)&&(B<2)) then(
 some (.inr (.ext (10,[])))
 ) else(
 AB (JU (IntKind.i64.wrap A)) λ(E:Bool)=>
 if(!E) then(
 some (.inr (.ext (2,[])))
 ) else(
 AB (app 40 l [(AC.mk (IntKind.i64.wrap A) 0 j)]) λ(q:List AC)=>
 AB (AK .i64 (w+B)) λ(F:Int)=>
 some (.inl (F,q))
 )
 )
 ) else(
 some (.inr (.nrm l))
 )
def Kp(u:List UInt8)(j:List AD):Option (Int × (List AC)):=
 AB (Gn j false) λ(q:Int)=>
 if(!(q=0)) then(
 some (q,[])
 ) else(
 Aj (iter (λ(a:Int × (List AC))=>GK u j a.1 a.2) (0,[])) λ(l:List AC)=>
 some (0,l)
 )
def KF(A:AC)(j:List AD)(w:Int):Option (((List AD) × Int) ⊕ (List AD)):=
 if(decide (w<(A.Attrs.length:Int))) then(
 AB (
 AB (AJ A.Attrs w) λ(l:AD)=>
 AB (
 if(decide (l.Name=[97,100,100])) then(
 some (decide (l.Name=[97,100,100]))
 ) else(
 if(decide (l.Name=[99,117,116])) then(
 some (decide (l.Name=[99,117,116]))
 ) else(
 if(decide (l.Name=[104,105,100,100,101,110])) then(
 some (decide (l.Name=[104,105,100,100,101,110]))
 ) else(
 if(decide (l.Name=[115,101,99,116,105,111,110])) then(
 some (decide (l.Name=[115,101,99,116,105,111,110]))
 ) else(
 if(decide (l.Name=[98,114,101,97,107])) then(
 some (decide (l.Name=[98,114,101,97,107]))
 ) else(
 some (decide (l.Name=[115,116,97,114,116]))
 )
 )
 )
 )
 )
 ) λ(B:Bool)=>
 if B then(
 some j
 ) else(
 AB (NY l.Name) λ(C:Bool)=>
 if(!C) then(
 AB (G4 j l) λ(q:List AD)=>
 some q
 ) else(
 some j
 )
 )
 ) λ(u:List AD)=>
 AB (AK .i64 (w+1)) λ(E:Int)=>
 some (.inl (u,E))
 ) else(
 some (.inr j)
 )
def T3(v1:List AC)(j:Int):Option (Int ⊕ Int):=
 AB (gd ((decide (j<(v1.length:Int)))==true) (AJ v1 j)) λ(q:AC)=>
 if((j<(v1.length:Int))&&(!(q.Char=10))) then(
 AB (AK .i64 (j+1)) λ(l:Int)=>
 some (.inl l)
 ) else(
 some (.inr j)
 )
def J8(v1:List AC)(q:Int):Option ((List AD)):=
 AB (iter (λ(a:Int)=>T3 v1 a) q) λ(j:Int)=>
 if(decide (j=(v1.length:Int))) then(
 some []
 ) else(
 AB (AJ v1 j) λ(u:AC)=>
 AB (iter (λ(a:(List AD) × Int)=>KF u a.1 a.2) ([],0)) λ(l:List AD)=>
 some l
 )
def Id(j:List AC)(l:List UInt8)(w:Int)(q:List AC):Option ((Int × (List AC)) ⊕ (Ai Unit (List AC))):=
 if(decide (w<(j.length:Int))) then(
 AB (AJ j w) λ(A:AC)=>
 AB (Hj A.Attrs [(AD.mk [97,100,100] l),(AD.mk [99,117,116] [])]) λ(B:List AD)=>
 AB (app 40 q [(AC.mk A.Char A.Ref B)]) λ(u:List AC)=>
 AB (AK .i64 (w+1)) λ(C:Int)=>
 some (.inl (C,u))
 ) else(
 some (.inr (.ext q))
 )
def JD(f1:List AC)(B:Int)(M:Int)(w:List AC)(j:List UInt8)(l:List Int)(F:Int)(A:Int)(C:Int)(q:List AC):Option ((Int × Int × (List AC)) ⊕ (List AC)):=
 if(decide (C≤(f1.length:Int))) then(
 E1 (
 AB (
 if(decide (C=F)) then(
 Aj (iter (λ(a:Int × (List AC))=>Id w j a.1 a.2) (0,q)) λ(u3:Unit)=>
 none
 ) else(
 some q
 )
 ) λ(u:List AC)=>
 if(decide (C=(f1.length:Int))) then(
 some (.ext (.inr u))
 ) else(
 AB (AJ f1 C) λ(E:AC)=>
 AB (gd ((decide (A<(l.length:Int)))==true) (AJ l A)) λ(T:Int)=>
 E1 (
 if((A<(l.length:Int))&&(T=C)) then(
 Aj (
 if((B≤A)&&(A<M)) then(
 AB (gd ((decide (j=[]))==false) (Ib E.Attrs [97,100,100])) λ(U:List UInt8)=>
 if((j=[])||(U=j)) then(
 AB (AK .i64 (A+1)) λ(V:Int)=>
 some (.ext (.ext (.nrm (V,u))))
 ) else(
 AB (Hj E.Attrs [(AD.mk [99,117,116] j)]) λ(X:List AD)=>
 some (.nrm (AC.mk E.Char E.Ref X))
 )
 ) else(
 some (.nrm E)
 )
 ) λ(Y:AC)=>
 AB (AK .i64 (A+1)) λ(Z:Int)=>
 some (.nrm (Z,Y))
 ) else(
 some (.nrm (A,E))
 )
 ) λ(k5:Int) (x3:AC)=>
 AB (app 40 u [x3]) λ(I:List AC)=>
 some (.nrm (k5,I))
 )
 ) λ(k4:Int) (J:List AC)=>
 AB (AK .i64 (C+1)) λ(O:Int)=>
 some (.inl (k4,O,J))
 ) else(
 some (.inr q)
 )
def P4(f1:List AC)(j:Int)(C:Int)(u:List AC)(q:List UInt8):Option ((List AC)):=
 AB (HS f1 0) λ(l:List Int)=>
 AB (
 if(decide (0<j)) then(
 AB (AK .i64 (j-1)) λ(E:Int)=>
 AB (AJ l E) λ(F:Int)=>
 AB (AK .i64 (F+1)) λ(w:Int)=>
 some w
 ) else(
 some 0
 )
 ) λ(A:Int)=>
 AB (iter (λ(a:Int × Int × (List AC))=>JD f1 j C u q l A a.1 a.2.1 a.2.2) (0,0,[])) λ(B:List AC)=>
 some B
def U5(e1:D4)(j:Int):Option (Int ⊕ (Ai Unit Int)):=
 if(decide (j<(e1.Merge.length:Int))) then(
 AB (AJ e1.Merge j) λ(l:An)=>
 AB (LA l 2147483647 2147483647) λ(q:Bool)=>
 if(!q) then(
 some (.inr (.ext 2))
 ) else(
 if((l.H=1)&&(l.W=1)) then(
 some (.inr (.ext 4))
 ) else(
 AB (AK .i64 (j+1)) λ(u:Int)=>
 some (.inl u)
 )
 )
 ) else(
 some (.inr (.nrm ()))
 )
def Xl(e1:D4)(j:Int):Option (Int ⊕ (Ai Unit Int)):=
 if(decide (j<(e1.Split.length:Int))) then(
 AB (AJ e1.Split j) λ(q:An)=>
 AB (LA q 2147483647 2147483647) λ(u:Bool)=>
 if(!u) then(
 some (.inr (.ext 2))
 ) else(
 AB (AK .i64 (j+1)) λ(l:Int)=>
 some (.inl l)
 )
 ) else(
 some (.inr (.nrm ()))
 )
def YB(e1:D4):Option (Int):=
 AB (Rz e1.Rows) λ(j:Int)=>
 if(!(j=0)) then(
 some j
 ) else(
 AB (Rz e1.Cols) λ(l:Int)=>
 if(!(l=0)) then(
 some l
 ) else(
 AB (M8 e1.Cells 2147483647 2147483647 true) λ(q:Int)=>
 if(!(q=0)) then(
 some q
 ) else(
 Aj (iter (λ(a:Int)=>Xl e1 a) 0) λ(u:Unit)=>
 Aj (iter (λ(a:Int)=>U5 e1 a) 0) λ(w:Unit)=>
 some 0
 )
 )
 )
def KA(j:A3)(q:Bool)(u:Int)(l:Int):Option (Int ⊕ (Ai Unit Int)):=
 if(decide (l<5)) then(
 AB (AJ ([(!q),(decide (0<(j.Attrs.length:Int))),(decide (0<(j.Steps.length:Int))),(decide (0<u)),(decide (0<(j.Draw.length:Int)))]:List Bool) l) λ(w:Bool)=>
 if(w&&(!(l=j.Kind))) then(
 some (.inr (.ext 4))
 ) else(
 AB (AK .i64 (l+1)) λ(A:Int)=>
 some (.inl A)
 )
 ) else(
 some (.inr (.nrm ()))
 )
def N0(j:A3):Option (Int):=
 AB (CV j.Kind 0 4) λ(l:Bool)=>
 if(!l) then(
 some 8
 ) else(
 AB (Hf j.New (Ae.mk 0 0 [] [] (BI.mk 0 0 [] []) [])) λ(q:Bool)=>
 AB (AK .i64 ((j.Grid.Rows.length:Int)+(j.Grid.Cols.length:Int))) λ(u:Int)=>
 AB (AK .i64 (u+(j.Grid.Cells.length:Int))) λ(w:Int)=>
 AB (AK .i64 (w+(j.Grid.Split.length:Int))) λ(A:Int)=>
 AB (AK .i64 (A+(j.Grid.Merge.length:Int))) λ(B:Int)=>
 Aj (iter (λ(a:Int)=>KA j q B a) 0) λ(O:Unit)=>
 if(decide (j.Kind=0)) then(
 if(!(j.Node=0)) then(
 some 4
 ) else(
 AB (MA j.New) λ(C:Int)=>
 some C
 )
 ) else(
 AB (CV j.Node 1 1073741824) λ(E:Bool)=>
 if(!E) then(
 some 2
 ) else(
 if(decide (j.Kind=1)) then(
 AB (Gn j.Attrs true) λ(F:Int)=>
 some F
 ) else(
 if(decide (j.Kind=2)) then(
 AB (Mc j.Steps) λ(I:Int)=>
 some I
 ) else(
 if(decide (j.Kind=3)) then(
 AB (YB j.Grid) λ(J:Int)=>
 some J
 ) else(
 AB (Mj j.Draw) λ(M:Int)=>
 some M
 )
 )
 )
 )
 )
 )
def P1(d1:Bj)(l:List A3)(Ue:Int)(j:List AC):Option (Bool):=
 AB (gd ((!((l.length:Int)=1))==false) (AJ l 0)) λ(B:A3)=>
 AB (gd (((!((l.length:Int)=1))||(!(B.Kind=2)))==false) (AJ l 0)) λ(C:A3)=>
 if(((!((l.length:Int)=1))||(!(B.Kind=2)))||(!(C.Node=Ue))) then(
 some false
 ) else(
 AB (Hv d1 Ue) λ(E:Int)=>
 AB (AJ d1.Nodes E) λ(q:Ae)=>
 AB (AJ l 0) λ(w:A3)=>
 AB (N0 w) λ(u:Int)=>
 AB (gd ((decide (u=0))==true) (MX w.Steps)) λ(A:Int)=>
 AB (
 if(((u=0)&&(A=(q.Flow.length:Int)))==true) then(
 AB (Np q.Flow w.Steps) λ(F:List AC)=>
 AB (LZ F j) λ(I:Bool)=>
 some (((u=0)&&(A=(q.Flow.length:Int)))&&I)
 ) else(
 some (((u=0)&&(A=(q.Flow.length:Int)))&&false)
 )
 ) λ(J:Bool)=>
 some J
 )
def KU(B:A9)(C:List AC)(v1:List AC)(j:Int)(u:List AC):Option ((Int × (List AC)) ⊕ (List AC)):=
 if(decide (j<(C.length:Int))) then(
 AB (
 AB (LW v1 B.From) λ(l:List AD)=>
 AB (AJ u j) λ(q:AC)=>
 AB (AJ (u.set j.toNat (AC.mk q.Char q.Ref l)) j) λ(w:AC)=>
 if(decide (w.Char=10)) then(
 AB (J8 v1 B.To) λ(A:List AD)=>
 some ((u.set j.toNat (AC.mk q.Char q.Ref l)).set j.toNat (AC.mk w.Char w.Ref A))
 ) else(
 some (u.set j.toNat (AC.mk q.Char q.Ref l))
 )
 ) λ(E:List AC)=>
 AB (AK .i64 (j+1)) λ(F:Int)=>
 some (.inl (F,E))
 ) else(
 some (.inr u)
 )
def M3(d1:Bj)(u:A9)(l:List UInt8)(j:List UInt8):Option (Bool):=
 AB (P7) λ(E:Bool)=>
 AB (gd ((!E)==false) (Qu d1 u)) λ(Z:Int)=>
 AB (gd ((!E)==false) (JG d1 u)) λ(r3:Int)=>
 if((!E)||(!(Z=r3))) then(
 some false
 ) else(
 Fc (Eu d1 u l j) λ(F:List A3) (q:A9) (B:Int)=>
 Aj (
 if(decide (l=[])) then(
 Fc (ND d1 u j) λ(I:List A3) (w:A9) (C:Int)=>
 AB (gd (((!(C=B))||(!((w.Node=q.Node)&&((w.From=q.From)&&((w.To=q.To)&&true)))))==false) (Hi I F)) λ(J:Bool)=>
 if(((!(C=B))||(!((w.Node=q.Node)&&((w.From=q.From)&&((w.To=q.To)&&true)))))||(!J)) then(
 some (.ext false)
 ) else(
 some (.nrm ())
 )
 ) else(
 some (.nrm ())
 )
 ) λ(u1:Unit)=>
 AB (Jg d1 u j) λ(O:Int)=>
 AB (
 if((O=0)&&(20000<(l.length:Int))) then(
 some 3
 ) else(
 some O
 )
 ) λ(T:Int)=>
 Bm (
 if(decide (T=0)) then(
 Bm (Kp l []) λ(M:Int) (w1:List AC)=>
 some (M,w1)
 ) else(
 some (T,[])
 )
 ) λ(U:Int) (V:List AC)=>
 if(!(U=0)) then(
 some (((B=U)&&((F.length:Int)=0))&&((q.Node=0)&&((q.From=0)&&((q.To=0)&&true))))
 ) else(
 AB (Hv d1 u.Node) λ(r7:Int)=>
 AB (AJ d1.Nodes r7) λ(X:Ae)=>
 AB (PH X.Flow) λ(v1:List AC)=>
 AB (iter (λ(a:Int × (List AC))=>KU u V v1 a.1 a.2) (0,V)) λ(Y:List AC)=>
 AB (AK .i64 (u.From+(Y.length:Int))) λ(A:Int)=>
 AB (gd (((B=0)&&((q.Node=u.Node)&&((q.From=A)&&((q.To=A)&&true))))==true) (P4 X.Flow u.From u.To Y j)) λ(r8:List AC)=>
 AB (gd (((B=0)&&((q.Node=u.Node)&&((q.From=A)&&((q.To=A)&&true))))==true) (P1 d1 F u.Node r8)) λ(r9:Bool)=>
 some (((B=0)&&((q.Node=u.Node)&&((q.From=A)&&((q.To=A)&&true))))&&r9)
 )
 )
end
end Go.Proofs.YtdafahjmopdleaaGreatDoor.Al
