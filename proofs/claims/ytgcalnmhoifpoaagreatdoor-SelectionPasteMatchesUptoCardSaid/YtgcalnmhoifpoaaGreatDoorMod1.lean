/- Models, as printed. -/
import Derived.Test.YtgcalnmhoifpoaaGreatDoorAl3
set_option linter.all false
namespace Go.Proofs.YtgcalnmhoifpoaaGreatDoor.Al
noncomputable section
structure FJ where
 Kind:Int
 N:Int
deriving DecidableEq
instance:Inhabited FJ:=⟨⟨0,0⟩⟩
@[reducible] def FJ.row(x:FJ):List RV:=[.int .i64 x.Kind,.int .i64 x.N]
structure ju where
 steps:List FJ
 used:Int
deriving DecidableEq
instance:Inhabited ju:=⟨⟨[],0⟩⟩
structure Zr where
 out:List FJ
 add:Int
 cut:Int
deriving DecidableEq
instance:Inhabited Zr:=⟨⟨[],0,0⟩⟩
structure AC where
 Name:List UInt8
 Value:List UInt8
deriving DecidableEq
instance:Inhabited AC:=⟨⟨[],[]⟩⟩
@[reducible] def AC.row(x:AC):List RV:=[.str x.Name,.str x.Value]
structure AD where
 Char:Int
 Ref:Int
 Attrs:List AC
deriving DecidableEq
instance:Inhabited AD:=⟨⟨0,0,[]⟩⟩
@[reducible] def AD.row(x:AD):List RV:=[.int .i64 x.Char,.int .i64 x.Ref,.sl (x.Attrs.map AC.row)]
structure Av where
 Row:Int
 Col:Int
 Text:List UInt8
 Ref:Int
 Attrs:List AC
deriving DecidableEq
instance:Inhabited Av:=⟨⟨0,0,[],0,[]⟩⟩
@[reducible] def Av.row(x:Av):List RV:=[.int .i64 x.Row,.int .i64 x.Col,.str x.Text,.int .i64 x.Ref,.sl (x.Attrs.map AC.row)]
structure As where
 Row:Int
 Col:Int
 H:Int
 W:Int
deriving DecidableEq
instance:Inhabited As:=⟨⟨0,0,0,0⟩⟩
@[reducible] def As.row(x:As):List RV:=[.int .i64 x.Row,.int .i64 x.Col,.int .i64 x.H,.int .i64 x.W]
structure BX where
 Rows:Int
 Cols:Int
 Cells:List Av
 Merges:List As
deriving DecidableEq
instance:Inhabited BX:=⟨⟨0,0,[],[]⟩⟩
@[reducible] def BX.row(x:BX):List RV:=[.int .i64 x.Rows,.int .i64 x.Cols,.sl (x.Cells.map Av.row),.sl (x.Merges.map As.row)]
structure BQ where
 Clock:Int
 Site:Int
 Kind:Int
 Item:Int
 Parent:Int
 Place:List UInt8
 Name:List UInt8
 Value:List UInt8
deriving DecidableEq
instance:Inhabited BQ:=⟨⟨0,0,0,0,0,[],[],[]⟩⟩
@[reducible] def BQ.row(x:BQ):List RV:=[.int .i64 x.Clock,.int .i64 x.Site,.int .i64 x.Kind,.int .i64 x.Item,.int .i64 x.Parent,.str x.Place,.str x.Name,.str x.Value]
structure Ak where
 ID:Int
 Kind:Int
 Attrs:List AC
 Flow:List AD
 Grid:BX
 Draw:List BQ
deriving DecidableEq
instance:Inhabited Ak:=⟨⟨0,0,[],[],(BX.mk 0 0 [] []),[]⟩⟩
@[reducible] def Ak.row(x:Ak):List RV:=[.int .i64 x.ID,.int .i64 x.Kind,.sl (x.Attrs.map AC.row),.sl (x.Flow.map AD.row),.int .i64 x.Grid.Rows,.int .i64 x.Grid.Cols,.sl (x.Grid.Cells.map Av.row),.sl (x.Grid.Merges.map As.row),.sl (x.Draw.map BQ.row)]
structure AI where
 Kind:Int
 N:Int
 Attrs:List AC
 Elems:List AD
deriving DecidableEq
instance:Inhabited AI:=⟨⟨0,0,[],[]⟩⟩
@[reducible] def AI.row(x:AI):List RV:=[.int .i64 x.Kind,.int .i64 x.N,.sl (x.Attrs.map AC.row),.sl (x.Elems.map AD.row)]
structure Ez where
 Rows:List FJ
 Cols:List FJ
 Cells:List Av
 Split:List As
 Merge:List As
deriving DecidableEq
instance:Inhabited Ez:=⟨⟨[],[],[],[],[]⟩⟩
structure BS where
 Kind:Int
 Node:Int
 New:Ak
 Attrs:List AC
 Steps:List AI
 Grid:Ez
 Draw:List BQ
deriving DecidableEq
instance:Inhabited BS:=⟨⟨0,0,(Ak.mk 0 0 [] [] (BX.mk 0 0 [] []) []),[],[],(Ez.mk [] [] [] [] []),[]⟩⟩
@[reducible] def BS.row(x:BS):List RV:=[.int .i64 x.Kind,.int .i64 x.Node,.int .i64 x.New.ID,.int .i64 x.New.Kind,.sl (x.New.Attrs.map AC.row),.sl (x.New.Flow.map AD.row),.int .i64 x.New.Grid.Rows,.int .i64 x.New.Grid.Cols,.sl (x.New.Grid.Cells.map Av.row),.sl (x.New.Grid.Merges.map As.row),.sl (x.New.Draw.map BQ.row),.sl (x.Attrs.map AC.row),.sl (x.Steps.map AI.row),.sl (x.Grid.Rows.map FJ.row),.sl (x.Grid.Cols.map FJ.row),.sl (x.Grid.Cells.map Av.row),.sl (x.Grid.Split.map As.row),.sl (x.Grid.Merge.map As.row),.sl (x.Draw.map BQ.row)]
structure na where
 Site:Int
 Number:Int
 Change:List BS
 Undoes:Int
 Refused:Int
deriving DecidableEq
instance:Inhabited na:=⟨⟨0,0,[],0,0⟩⟩
structure jX where
 From:Int
 To:Int
deriving DecidableEq
instance:Inhabited jX:=⟨⟨0,0⟩⟩
def Cq(q:Int)(l:Int)(j:Int):Option (Bool):=
 some ((l≤q)&&(q≤j))
def WM(F:List FJ)(j:Int)(l:Int)(u:Int):Option ((Int × Int × Int) ⊕ (Au (Int × Int) Int)):=
 if(decide (u<(F.length:Int))) then(
 E1 (
 AB (AM F u) λ(q:FJ)=>
 AB (Cq q.Kind 0 2) λ(J:Bool)=>
 if(!J) then(
 some (.ext (.inr (.ext 8)))
 ) else(
 AB (Cq q.N 1 2147483647) λ(M:Bool)=>
 if(!M) then(
 some (.ext (.inr (.ext 2)))
 ) else(
 AB (gd ((decide (0<u))==true) (AN .i64 (u-1))) λ(O:Int)=>
 AB (gd ((decide (0<u))==true) (AM F O)) λ(I:FJ)=>
 AB (gd ((((decide (0<u))==true)&&((decide (q.Kind=I.Kind))==false))&&((decide (q.Kind=1))==true)) (AN .i64 (u-1))) λ(T:Int)=>
 AB (gd ((((decide (0<u))==true)&&((decide (q.Kind=I.Kind))==false))&&((decide (q.Kind=1))==true)) (AM F T)) λ(U:FJ)=>
 if((0<u)&&((q.Kind=I.Kind)||((q.Kind=1)&&(U.Kind=2)))) then(
 some (.ext (.inr (.ext 5)))
 ) else(
 AB (
 if((!(q.Kind=1))&&(j<2147483648)) then(
 AB (AN .i64 (j+q.N)) λ(A:Int)=>
 some A
 ) else(
 some j
 )
 ) λ(w:Int)=>
 if((!(q.Kind=2))&&(l<2147483648)) then(
 AB (AN .i64 (l+q.N)) λ(B:Int)=>
 some (.nrm (w,B))
 ) else(
 some (.nrm (w,l))
 )
 )
 )
 )
 ) λ(C:Int) (E:Int)=>
 AB (AN .i64 (u+1)) λ(V:Int)=>
 some (.inl (C,E,V))
 ) else(
 some (.inr (.nrm (j,l)))
 )
def Q8(q:List FJ):Option (Int):=
 E1 (iter (λ(a:Int × Int × Int)=>WM q a.1 a.2.1 a.2.2) (0,0,0)) λ(j:Int) (l:Int)=>
 if((2147483647<j)||(2147483647<l)) then(
 some 3
 ) else(
 some 0
 )
def NM(q:List UInt8)(l:Int):Option (Int ⊕ (Au Unit Bool)):=
 if(decide (l<(q.length:Int))) then(
 AB (AM q l) λ(j:UInt8)=>
 if((((((j.toNat:Int)<97)||(122<(j.toNat:Int)))&&(((j.toNat:Int)<48)||(57<(j.toNat:Int))))&&(!((j.toNat:Int)=46)))&&(!((j.toNat:Int)=45))) then(
 some (.inr (.ext false))
 ) else(
 AB (AN .i64 (l+1)) λ(u:Int)=>
 some (.inl u)
 )
 ) else(
 some (.inr (.nrm ()))
 )
def Lk(j:List UInt8):Option (Bool):=
 AB (gd (((j=[])||(24<(j.length:Int)))==false) (AM j 0)) λ(l:UInt8)=>
 AB (gd ((((j=[])||(24<(j.length:Int)))||((l.toNat:Int)<97))==false) (AM j 0)) λ(q:UInt8)=>
 if((((j=[])||(24<(j.length:Int)))||((l.toNat:Int)<97))||(122<(q.toNat:Int))) then(
 some false
 ) else(
 At (iter (λ(a:Int)=>NM j a) 0) λ(u:Unit)=>
 some true
 )
def PM(q:List UInt8)(l:Int):Option (Int ⊕ (Au Unit Bool)):=
 if(decide (l<(q.length:Int))) then(
 AB (AM q l) λ(j:UInt8)=>
 if(((j.toNat:Int)<32)||(126<(j.toNat:Int))) then(
 some (.inr (.ext false))
 ) else(
 AB (AN .i64 (l+1)) λ(u:Int)=>
 some (.inl u)
 )
 ) else(
 some (.inr (.nrm ()))
 )
def JS(j:List UInt8):Option (Bool):=
 if((j=[])||(200<(j.length:Int))) then(
 some false
 ) else(
 At (iter (λ(a:Int)=>PM j a) 0) λ(l:Unit)=>
 some true
 )
def Me(u:List AC)(j:Bool)(l:Int):Option (Int ⊕ (Au Unit Int)):=
 if(decide (l<(u.length:Int))) then(
 AB (AM u l) λ(q:AC)=>
 AB (Lk q.Name) λ(A:Bool)=>
 if(!A) then(
 some (.inr (.ext 9))
 ) else(
 AB (JS q.Value) λ(B:Bool)=>
 if((!B)&&(!(j&&(q.Value=[])))) then(
 some (.inr (.ext 23))
 ) else(
 AB (gd ((decide (0<l))==true) (AN .i64 (l-1))) λ(C:Int)=>
 AB (gd ((decide (0<l))==true) (AM u C)) λ(w:AC)=>
 if((0<l)&&(Ay q.Name w.Name||(q.Name=w.Name))) then(
 some (.inr (.ext 5))
 ) else(
 AB (AN .i64 (l+1)) λ(E:Int)=>
 some (.inl E)
 )
 )
 )
 ) else(
 some (.inr (.nrm ()))
 )
def Lb(l:List AC)(j:Bool):Option (Int):=
 At (iter (λ(a:Int)=>Me l j a) 0) λ(q:Unit)=>
 some 0
def Jq(j:List AC):Option (Int):=
 AB (Lb j false) λ(l:Int)=>
 some l
def KX(j:List AC):Option (Int):=
 AB (Lb j true) λ(l:Int)=>
 some l
def Ku(j:List AC)(q:AC)(l:AC):Option ((List AC)):=
 if(decide (l.Name=[])) then(
 AB (app 32 j [q]) λ(u:List AC)=>
 some u
 ) else(
 if(!(l.Value=[])) then(
 AB (app 32 j [l]) λ(w:List AC)=>
 some w
 ) else(
 some j
 )
 )
def P0(l:List AC)(u:List AC)(j:Int)(q:Int)(o2:List AC):Option ((Int × Int × (List AC)) ⊕ (Au Unit (List AC))):=
 if((j<(l.length:Int))||(q<(u.length:Int))) then(
 AB (gd (((decide (q=(u.length:Int)))==false)&&((decide (j<(l.length:Int)))==true)) (AM l j)) λ(A:AC)=>
 AB (gd (((decide (q=(u.length:Int)))==false)&&((decide (j<(l.length:Int)))==true)) (AM u q)) λ(B:AC)=>
 if((q=(u.length:Int))||((j<(l.length:Int))&&(Ay A.Name B.Name))) then(
 AB (AM l j) λ(C:AC)=>
 AB (Ku o2 C (AC.mk [] [])) λ(E:List AC)=>
 AB (AN .i64 (j+1)) λ(F:Int)=>
 some (.inl (F,q,E))
 ) else(
 AB (gd ((decide (j=(l.length:Int)))==false) (AM u q)) λ(I:AC)=>
 AB (gd ((decide (j=(l.length:Int)))==false) (AM l j)) λ(J:AC)=>
 if((j=(l.length:Int))||(Ay I.Name J.Name)) then(
 AB (AM u q) λ(M:AC)=>
 AB (Ku o2 (AC.mk [] []) M) λ(O:List AC)=>
 AB (AN .i64 (q+1)) λ(T:Int)=>
 some (.inl (j,T,O))
 ) else(
 AB (AM l j) λ(U:AC)=>
 AB (AM u q) λ(V:AC)=>
 AB (Ku o2 U V) λ(X:List AC)=>
 AB (AN .i64 (j+1)) λ(w:Int)=>
 AB (AN .i64 (q+1)) λ(Y:Int)=>
 some (.inl (w,Y,X))
 )
 )
 ) else(
 some (.inr (.ext o2))
 )
def O5(j:List AC)(l:List AC)(q:List AC):Option ((List AC)):=
 At (iter (λ(a:Int × Int × (List AC))=>P0 l q a.1 a.2.1 a.2.2) (0,0,j)) λ(u:Unit)=>
 none
def Mc(l:List AC)(j:List AC):Option ((List AC)):=
 AB (O5 [] l j) λ(q:List AC)=>
 some q
def OW(l:List AC)(w:List AC)(j:Int):Option (Int ⊕ (Au Unit Bool)):=
 if(decide (j<(l.length:Int))) then(
 AB (AM l j) λ(q:AC)=>
 AB (AM w j) λ(u:AC)=>
 if(!((q.Name=u.Name)&&((q.Value=u.Value)&&true))) then(
 some (.inr (.ext false))
 ) else(
 AB (AN .i64 (j+1)) λ(A:Int)=>
 some (.inl A)
 )
 ) else(
 some (.inr (.nrm ()))
 )
def Hi(j:List AC)(l:List AC):Option (Bool):=
 if(!((j.length:Int)=(l.length:Int))) then(
 some false
 ) else(
 At (iter (λ(a:Int)=>OW j l a) 0) λ(q:Unit)=>
 some true
 )
def Mo(q:List UInt8)(l:Int):Option (Int ⊕ (Au Unit Bool)):=
 if(decide (l<(q.length:Int))) then(
 AB (AM q l) λ(j:UInt8)=>
 if((!((97≤(j.toNat:Int))&&((j.toNat:Int)≤122)))&&((l=0)||(((!((j.toNat:Int)=46))&&(!((j.toNat:Int)=45)))&&(((j.toNat:Int)<48)||(57<(j.toNat:Int)))))) then(
 some (.inr (.ext false))
 ) else(
 AB (AN .i64 (l+1)) λ(u:Int)=>
 some (.inl u)
 )
 ) else(
 some (.inr (.nrm ()))
 )
def MA(j:List UInt8):Option (Bool):=
 At (iter (λ(a:Int)=>Mo j a) 0) λ(l:Unit)=>
 some ((1≤(j.length:Int))&&((j.length:Int)≤24))
def P2(q:List UInt8)(l:Int):Option (Int ⊕ (Au Unit Bool)):=
 if(decide (l<(q.length:Int))) then(
 AB (AM q l) λ(j:UInt8)=>
 if(((j.toNat:Int)<32)||(126<(j.toNat:Int))) then(
 some (.inr (.ext false))
 ) else(
 AB (AN .i64 (l+1)) λ(u:Int)=>
 some (.inl u)
 )
 ) else(
 some (.inr (.nrm ()))
 )
def J9(j:List UInt8):Option (Bool):=
 At (iter (λ(a:Int)=>P2 j a) 0) λ(l:Unit)=>
 some ((1≤(j.length:Int))&&((j.length:Int)≤200))
def Ld(u:List AC)(j:Bool)(l:Int):Option (Int ⊕ (Au Unit Int)):=
 if(decide (l<(u.length:Int))) then(
 AB (AM u l) λ(q:AC)=>
 AB (MA q.Name) λ(w:Bool)=>
 if(!w) then(
 some (.inr (.ext 9))
 ) else(
 AB (J9 q.Value) λ(A:Bool)=>
 if((!A)&&((!(q.Value=[]))||(!j))) then(
 some (.inr (.ext 23))
 ) else(
 AB (gd ((decide (0<l))==true) (AN .i64 (l-1))) λ(B:Int)=>
 AB (gd ((decide (0<l))==true) (AM u B)) λ(C:AC)=>
 if((0<l)&&(!Ay C.Name q.Name)) then(
 some (.inr (.ext 5))
 ) else(
 AB (AN .i64 (l+1)) λ(E:Int)=>
 some (.inl E)
 )
 )
 )
 ) else(
 some (.inr (.nrm ()))
 )
def Iv(l:List AC)(j:Bool):Option (Int):=
 At (iter (λ(a:Int)=>Ld l j a) 0) λ(q:Unit)=>
 some 0
def OZ(q:List AC)(j:List UInt8)(l:Int):Option (Int ⊕ (Au Unit (List UInt8))):=
 if(decide (l<(q.length:Int))) then(
 AB (AM q l) λ(u:AC)=>
 if(decide (u.Name=j)) then(
 some (.inr (.ext u.Value))
 ) else(
 AB (AN .i64 (l+1)) λ(w:Int)=>
 some (.inl w)
 )
 ) else(
 some (.inr (.nrm ()))
 )
def It(l:List AC)(j:List UInt8):Option ((List UInt8)):=
 At (iter (λ(a:Int)=>OZ l j a) 0) λ(q:Unit)=>
 some []
def QO(q:List AC)(j:List UInt8)(l:Int):Option (Int ⊕ (Au Unit (List UInt8))):=
 if(decide (l<(q.length:Int))) then(
 AB (AM q l) λ(u:AC)=>
 if(decide (u.Name=j)) then(
 some (.inr (.ext u.Value))
 ) else(
 AB (AN .i64 (l+1)) λ(w:Int)=>
 some (.inl w)
 )
 ) else(
 some (.inr (.nrm ()))
 )
def Ko(l:List AC)(j:List UInt8):Option ((List UInt8)):=
 At (iter (λ(a:Int)=>QO l j a) 0) λ(q:Unit)=>
 some []
def PW(F:List AC)(I:AC)(j:Bool)(E:Int)(l:List AC):Option ((Bool × Int × (List AC)) ⊕ (Bool × (List AC))):=
 if(decide (E<(F.length:Int))) then(
 CR (
 AB (gd ((!j)==true) (AM F E)) λ(M:AC)=>
 CR (
 if((!j)&&(!Ay M.Name I.Name)) then(
 AB (app 32 l [I]) λ(w:List AC)=>
 some (true,w)
 ) else(
 some (j,l)
 )
 ) λ(q:Bool) (u:List AC)=>
 AB (AM F E) λ(J:AC)=>
 if(!(J.Name=I.Name)) then(
 AB (app 32 u [J]) λ(B:List AC)=>
 some (q,B)
 ) else(
 some (q,u)
 )
 ) λ(A:Bool) (C:List AC)=>
 AB (AN .i64 (E+1)) λ(O:Int)=>
 some (.inl (A,O,C))
 ) else(
 some (.inr (j,l))
 )
def KW(A:List AC)(w:AC):Option ((List AC)):=
 CR (iter (λ(a:Bool × Int × (List AC))=>PW A w a.1 a.2.1 a.2.2) (false,0,[])) λ(l:Bool) (j:List AC)=>
 AB (
 if(!l) then(
 AB (app 32 j [w]) λ(q:List AC)=>
 some q
 ) else(
 some j
 )
 ) λ(u:List AC)=>
 some u
def Qx(l:List AC)(A:Int)(j:List AC):Option ((Int × (List AC)) ⊕ (List AC)):=
 if(decide (A<(l.length:Int))) then(
 AB (
 AB (AM l A) λ(w:AC)=>
 if(!(w.Value=[])) then(
 AB (app 32 j [w]) λ(q:List AC)=>
 some q
 ) else(
 some j
 )
 ) λ(u:List AC)=>
 AB (AN .i64 (A+1)) λ(B:Int)=>
 some (.inl (B,u))
 ) else(
 some (.inr j)
 )
def QS(j:List AC)(l:List AC)(u:Int):Option (((List AC) × Int) ⊕ (List AC)):=
 if(decide (u<(j.length:Int))) then(
 AB (AM j u) λ(w:AC)=>
 AB (KW l w) λ(q:List AC)=>
 AB (AN .i64 (u+1)) λ(A:Int)=>
 some (.inl (q,A))
 ) else(
 some (.inr l)
 )
def OH(A:List AC)(j:List AC)(q:Int):Option (((List AC) × Int) ⊕ (List AC)):=
 if(decide (q<(A.length:Int))) then(
 AB (AM A q) λ(u:AC)=>
 AB (KW j u) λ(l:List AC)=>
 AB (AN .i64 (q+1)) λ(w:Int)=>
 some (.inl (l,w))
 ) else(
 some (.inr j)
 )
def H4(w:List AC)(j:List AC):Option ((List AC)):=
 AB (iter (λ(a:(List AC) × Int)=>OH w a.1 a.2) ([],0)) λ(q:List AC)=>
 AB (iter (λ(a:(List AC) × Int)=>QS j a.1 a.2) (q,0)) λ(u:List AC)=>
 AB (iter (λ(a:Int × (List AC))=>Qx u a.1 a.2) (0,[])) λ(l:List AC)=>
 some l
def M5(j:Int):Option (Bool):=
 some (((((j=9)||(j=10))||((32≤j)&&(j<127)))||((160≤j)&&(j<55296)))||((57343<j)&&(j≤1114111)))
def Ml(j:AD):Option (Int):=
 if((!(j.Char=0))==(!(j.Ref=0))) then(
 some 4
 ) else(
 AB (gd ((decide (j.Ref=0))==true) (M5 j.Char)) λ(l:Bool)=>
 AB (
 if((j.Ref=0)&&(!l)) then(
 some ((j.Ref=0)&&(!l))
 ) else(
 some ((!(j.Ref=0))&&((j.Ref<1)||(1073741824<j.Ref)))
 )
 ) λ(q:Bool)=>
 if q then(
 some 2
 ) else(
 AB (Jq j.Attrs) λ(u:Int)=>
 some u
 )
 )
def QE(f1:List AD)(j:Int):Option (Int ⊕ (Au Unit Int)):=
 if(decide (j<(f1.length:Int))) then(
 AB (AM f1 j) λ(q:AD)=>
 AB (Ml q) λ(l:Int)=>
 if(!(l=0)) then(
 some (.inr (.ext l))
 ) else(
 AB (AN .i64 (j+1)) λ(u:Int)=>
 some (.inl u)
 )
 ) else(
 some (.inr (.nrm ()))
 )
def MI(f1:List AD):Option (Int):=
 At (iter (λ(a:Int)=>QE f1 a) 0) λ(j:Unit)=>
 some 0
def Ou(l:AD)(j:Int):Option (Bool):=
 AB (It l.Attrs [104,105,100,100,101,110]) λ(q:List UInt8)=>
 AB (gd (((decide (q=[111,110]))==false)&&((decide (j=0))==true)) (It l.Attrs [99,117,116])) λ(u:List UInt8)=>
 AB (gd ((((q=[111,110])||((j=0)&&(!(u=[]))))==false)&&((decide (j=1))==true)) (It l.Attrs [97,100,100])) λ(w:List UInt8)=>
 some (((q=[111,110])||((j=0)&&(!(u=[]))))||((j=1)&&(!(w=[]))))
def Mk(f1:List AD)(l:Int)(q:Int)(j:List Int):Option ((Int × (List Int)) ⊕ (List Int)):=
 if(decide (q<(f1.length:Int))) then(
 AB (
 AB (AM f1 q) λ(A:AD)=>
 AB (Ou A l) λ(B:Bool)=>
 AB (gd ((!B)==false) (AN .i64 ((f1.length:Int)-1))) λ(C:Int)=>
 if((!B)||((q=C)&&(A.Char=10))) then(
 AB (app 8 j [q]) λ(u:List Int)=>
 some u
 ) else(
 some j
 )
 ) λ(w:List Int)=>
 AB (AN .i64 (q+1)) λ(E:Int)=>
 some (.inl (E,w))
 ) else(
 some (.inr j)
 )
def Po(f1:List AD)(j:Int):Option ((List Int)):=
 AB (iter (λ(a:Int × (List Int))=>Mk f1 j a.1 a.2) (0,[])) λ(l:List Int)=>
 some l
def M9(j:Int):Option (Bool):=
 AB (gd (((j=9)||(j=10))==false) (Cq j 32 126)) λ(l:Bool)=>
 AB (gd ((((j=9)||(j=10))||l)==false) (Cq j 160 55295)) λ(q:Bool)=>
 AB (gd (((((j=9)||(j=10))||l)||q)==false) (Cq j 57344 1114111)) λ(u:Bool)=>
 some (((((j=9)||(j=10))||l)||q)||u)
def Mb(j:AD):Option (Int):=
 if(((j.Char=0)&&(j.Ref=0))||((!(j.Char=0))&&(!(j.Ref=0)))) then(
 some 4
 ) else(
 AB (gd ((!(j.Char=0))==true) (M9 j.Char)) λ(l:Bool)=>
 AB (gd ((((!(j.Char=0))&&(!l))==false)&&((!(j.Ref=0))==true)) (Cq j.Ref 1 1073741824)) λ(q:Bool)=>
 if(((!(j.Char=0))&&(!l))||((!(j.Ref=0))&&(!q))) then(
 some 2
 ) else(
 AB (Iv j.Attrs false) λ(u:Int)=>
 some u
 )
 )
def Pv(f1:List AD)(j:Int):Option (Int ⊕ (Au Unit Int)):=
 if(decide (j<(f1.length:Int))) then(
 AB (AM f1 j) λ(q:AD)=>
 AB (Mb q) λ(l:Int)=>
 if(!(l=0)) then(
 some (.inr (.ext l))
 ) else(
 AB (AN .i64 (j+1)) λ(u:Int)=>
 some (.inl u)
 )
 ) else(
 some (.inr (.nrm ()))
 )
def JV(f1:List AD):Option (Int):=
 At (iter (λ(a:Int)=>Pv f1 a) 0) λ(j:Unit)=>
 some 0
def Nu(q:List AC)(j:List UInt8)(l:Int):Option (Int ⊕ (Au Unit Bool)):=
 if(decide (l<(q.length:Int))) then(
 AB (AM q l) λ(u:AC)=>
 if(decide (u.Name=j)) then(
 some (.inr (.ext true))
 ) else(
 AB (AN .i64 (l+1)) λ(w:Int)=>
 some (.inl w)
 )
 ) else(
 some (.inr (.nrm ()))
 )
def Ma(l:List AC)(j:List UInt8):Option (Bool):=
 At (iter (λ(a:Int)=>Nu l j a) 0) λ(q:Unit)=>
 some false
def MG(f1:List AD)(j:Int)(u:Int)(l:List Int):Option ((Int × (List Int)) ⊕ (List Int)):=
 if(decide (u<(f1.length:Int))) then(
 AB (
 AB (AM f1 u) λ(B:AD)=>
 AB (Ko B.Attrs [104,105,100,100,101,110]) λ(E:List UInt8)=>
 AB (gd ((decide (j=0))==true) (Ma B.Attrs [99,117,116])) λ(C:Bool)=>
 AB (gd ((((j=0)&&C)==false)&&((decide (j=1))==true)) (Ma B.Attrs [97,100,100])) λ(F:Bool)=>
 AB (
 if(((j=0)&&C)||((j=1)&&F)) then(
 some false
 ) else(
 some (!(E=[111,110]))
 )
 ) λ(q:Bool)=>
 AB (gd (q==false) (AN .i64 ((f1.length:Int)-1))) λ(I:Int)=>
 if(q||((u=I)&&(B.Char=10))) then(
 AB (app 8 l [u]) λ(w:List Int)=>
 some w
 ) else(
 some l
 )
 ) λ(A:List Int)=>
 AB (AN .i64 (u+1)) λ(J:Int)=>
 some (.inl (J,A))
 ) else(
 some (.inr l)
 )
def I1(f1:List AD)(j:Int):Option ((List Int)):=
 AB (iter (λ(a:Int × (List Int))=>MG f1 j a.1 a.2) (0,[])) λ(l:List Int)=>
 some l
def QK(l:List AC)(w:List AC)(j:Int):Option (Int ⊕ (Au Unit Bool)):=
 if(decide (j<(l.length:Int))) then(
 AB (AM l j) λ(q:AC)=>
 AB (AM w j) λ(u:AC)=>
 if(!((q.Name=u.Name)&&((q.Value=u.Value)&&true))) then(
 some (.inr (.ext false))
 ) else(
 AB (AN .i64 (j+1)) λ(A:Int)=>
 some (.inl A)
 )
 ) else(
 some (.inr (.nrm ()))
 )
def G8(j:List AC)(l:List AC):Option (Bool):=
 if(!((j.length:Int)=(l.length:Int))) then(
 some false
 ) else(
 At (iter (λ(a:Int)=>QK j l a) 0) λ(q:Unit)=>
 some true
 )
def Kj(l:List AC)(q:AC)(j:AC):Option ((List AC)):=
 AB (
 if(decide (j.Name=[])) then(
 some q
 ) else(
 some j
 )
 ) λ(u:AC)=>
 AB (app 32 l [u]) λ(w:List AC)=>
 some w
def OU(l:List AC)(u:List AC)(j:Int)(q:Int)(o2:List AC):Option ((Int × Int × (List AC)) ⊕ (Au Unit (List AC))):=
 if((j<(l.length:Int))||(q<(u.length:Int))) then(
 AB (gd (((decide (q=(u.length:Int)))==false)&&((decide (j<(l.length:Int)))==true)) (AM l j)) λ(A:AC)=>
 AB (gd (((decide (q=(u.length:Int)))==false)&&((decide (j<(l.length:Int)))==true)) (AM u q)) λ(B:AC)=>
 if((q=(u.length:Int))||((j<(l.length:Int))&&(Ay A.Name B.Name))) then(
 AB (AM l j) λ(C:AC)=>
 AB (Kj o2 C (AC.mk [] [])) λ(E:List AC)=>
 AB (AN .i64 (j+1)) λ(F:Int)=>
 some (.inl (F,q,E))
 ) else(
 AB (gd ((decide (j=(l.length:Int)))==false) (AM u q)) λ(I:AC)=>
 AB (gd ((decide (j=(l.length:Int)))==false) (AM l j)) λ(J:AC)=>
 if((j=(l.length:Int))||(Ay I.Name J.Name)) then(
 AB (AM u q) λ(M:AC)=>
 AB (Kj o2 (AC.mk [] []) M) λ(O:List AC)=>
 AB (AN .i64 (q+1)) λ(T:Int)=>
 some (.inl (j,T,O))
 ) else(
 AB (AM l j) λ(U:AC)=>
 AB (AM u q) λ(V:AC)=>
 AB (Kj o2 U V) λ(X:List AC)=>
 AB (AN .i64 (j+1)) λ(w:Int)=>
 AB (AN .i64 (q+1)) λ(Y:Int)=>
 some (.inl (w,Y,X))
 )
 )
 ) else(
 some (.inr (.ext o2))
 )
def Pa(j:List AC)(l:List AC)(q:List AC):Option ((List AC)):=
 At (iter (λ(a:Int × Int × (List AC))=>OU l q a.1 a.2.1 a.2.2) (0,0,j)) λ(u:Unit)=>
 none
def Pk(j:List AC)(l:List AC):Option ((List AC)):=
 AB (Pa [] j l) λ(q:List AC)=>
 some q
def KD(j:List AC)(l:AC)(q:AC):Option ((List AC)):=
 if(decide (q.Name=[])) then(
 AB (app 32 j [l]) λ(u:List AC)=>
 some u
 ) else(
 some j
 )
def Od(l:List AC)(u:List AC)(j:Int)(q:Int)(o2:List AC):Option ((Int × Int × (List AC)) ⊕ (Au Unit (List AC))):=
 if((j<(l.length:Int))||(q<(u.length:Int))) then(
 AB (gd (((decide (q=(u.length:Int)))==false)&&((decide (j<(l.length:Int)))==true)) (AM l j)) λ(A:AC)=>
 AB (gd (((decide (q=(u.length:Int)))==false)&&((decide (j<(l.length:Int)))==true)) (AM u q)) λ(B:AC)=>
 if((q=(u.length:Int))||((j<(l.length:Int))&&(Ay A.Name B.Name))) then(
 AB (AM l j) λ(C:AC)=>
 AB (KD o2 C (AC.mk [] [])) λ(E:List AC)=>
 AB (AN .i64 (j+1)) λ(F:Int)=>
 some (.inl (F,q,E))
 ) else(
 AB (gd ((decide (j=(l.length:Int)))==false) (AM u q)) λ(I:AC)=>
 AB (gd ((decide (j=(l.length:Int)))==false) (AM l j)) λ(J:AC)=>
 if((j=(l.length:Int))||(Ay I.Name J.Name)) then(
 AB (AM u q) λ(M:AC)=>
 AB (KD o2 (AC.mk [] []) M) λ(O:List AC)=>
 AB (AN .i64 (q+1)) λ(T:Int)=>
 some (.inl (j,T,O))
 ) else(
 AB (AM l j) λ(U:AC)=>
 AB (AM u q) λ(V:AC)=>
 AB (KD o2 U V) λ(X:List AC)=>
 AB (AN .i64 (j+1)) λ(w:Int)=>
 AB (AN .i64 (q+1)) λ(Y:Int)=>
 some (.inl (w,Y,X))
 )
 )
 ) else(
 some (.inr (.ext o2))
 )
def OD(j:List AC)(l:List AC)(q:List AC):Option ((List AC)):=
 At (iter (λ(a:Int × Int × (List AC))=>Od l q a.1 a.2.1 a.2.2) (0,0,j)) λ(u:Unit)=>
 none
def Oe(j:List AC)(l:List AC):Option ((List AC)):=
 AB (OD [] j l) λ(q:List AC)=>
 some q
end
noncomputable section
structure Bh where
 Adds:List (List AD)
 Cuts:List Bool
 Attrs:List (List AC)
deriving DecidableEq
instance:Inhabited Bh:=⟨⟨[],[],[]⟩⟩
def Je(l:AI)(u:Int)(j:Bh):Option ((Int × Bh) ⊕ (Au Unit Bh)):=
 if(decide (u<l.N)) then(
 AB (app 24 j.Adds [[]]) λ(w:List (List AD))=>
 AB (app 1 j.Cuts [(decide (l.Kind=2))]) λ(A:List Bool)=>
 AB (app 24 j.Attrs [l.Attrs]) λ(B:List (List AC))=>
 AB (AN .i64 (u+1)) λ(q:Int)=>
 some (.inl (q,(Bh.mk w A B)))
 ) else(
 some (.inr (.ext j))
 )
def Jl(d1:List AI)(l:Int)(j:Bh):Option ((Int × Bh) ⊕ Bh):=
 if(decide (l<(d1.length:Int))) then(
 AB (
 AB (AM d1 l) λ(q:AI)=>
 if(decide (q.Kind=1)) then(
 AB (AN .i64 ((j.Adds.length:Int)-1)) λ(u:Int)=>
 AB (AM j.Adds u) λ(w:List AD)=>
 AB (app 40 [] w) λ(A:List AD)=>
 AB (app 40 A q.Elems) λ(B:List AD)=>
 some (Bh.mk (j.Adds.set u.toNat B) j.Cuts j.Attrs)
 ) else(
 At (iter (λ(a:Int × Bh)=>Je q a.1 a.2) (0,j)) λ(E:Unit)=>
 none
 )
 ) λ(a5:Bh)=>
 AB (AN .i64 (l+1)) λ(C:Int)=>
 some (.inl (C,a5))
 ) else(
 some (.inr j)
 )
def Nk(d1:List AI):Option (Bh):=
 AB (iter (λ(a:Int × Bh)=>Jl d1 a.1 a.2) (0,(Bh.mk [[]] [] []))) λ(a4:Bh)=>
 some a4
end
noncomputable section
end
noncomputable section
structure BU where
 steps:List AI
 used:Int
deriving DecidableEq
instance:Inhabited BU:=⟨⟨[],0⟩⟩
structure Af where
 out:List AI
 add:List AD
 cut:Int
deriving DecidableEq
instance:Inhabited Af:=⟨⟨[],[],0⟩⟩
def Ly(j:AI):Option (Int):=
 AB (
 if(decide (j.Kind=0)) then(
 some (decide (j.Kind=0))
 ) else(
 some (decide (j.Kind=2))
 )
 ) λ(l:Bool)=>
 if l then(
 if((0<(j.Elems.length:Int))||((j.Kind=2)&&(0<(j.Attrs.length:Int)))) then(
 some 4
 ) else(
 if((j.N<1)||(2147483647<j.N)) then(
 some 2
 ) else(
 AB (KX j.Attrs) λ(q:Int)=>
 some q
 )
 )
 ) else(
 if(decide (j.Kind=1)) then(
 if((!(j.N=0))||(0<(j.Attrs.length:Int))) then(
 some 4
 ) else(
 if(decide ((j.Elems.length:Int)=0)) then(
 some 11
 ) else(
 AB (MI j.Elems) λ(u:Int)=>
 some u
 )
 )
 ) else(
 some 8
 )
 )
def Gx(j:AI):Option (Int):=
 if(decide (j.Kind=1)) then(
 some (j.Elems.length:Int)
 ) else(
 some j.N
 )
def If(d1:List AI)(j:Int)(l:Int)(B:Int):Option ((Int × Int × Int) ⊕ (Au (Int × Int) Int)):=
 if(decide (B<(d1.length:Int))) then(
 E1 (
 AB (AM d1 B) λ(u:AI)=>
 AB (Ly u) λ(E:Int)=>
 if(!(E=0)) then(
 some (.ext (.inr (.ext E)))
 ) else(
 At (
 if(decide (0<B)) then(
 AB (AN .i64 (B-1)) λ(F:Int)=>
 AB (AM d1 F) λ(C:AI)=>
 AB (gd (((decide (C.Kind=u.Kind))==true)&&((!(u.Kind=0))==false)) (G8 C.Attrs u.Attrs)) λ(I:Bool)=>
 if(((C.Kind=u.Kind)&&((!(u.Kind=0))||I))||((C.Kind=2)&&(u.Kind=1))) then(
 some (.ext (.ext (.inr (.ext 5))))
 ) else(
 some (.nrm ())
 )
 ) else(
 some (.nrm ())
 )
 ) λ(U:Unit)=>
 AB (
 if(!(u.Kind=1)) then(
 AB (AN .i64 (j+u.N)) λ(J:Int)=>
 some (min J 2147483648)
 ) else(
 some j
 )
 ) λ(q:Int)=>
 if(!(u.Kind=2)) then(
 AB (Gx u) λ(M:Int)=>
 AB (AN .i64 (l+M)) λ(O:Int)=>
 some (.nrm (q,(min O 2147483648)))
 ) else(
 some (.nrm (q,l))
 )
 )
 ) λ(w:Int) (A:Int)=>
 AB (AN .i64 (B+1)) λ(T:Int)=>
 some (.inl (w,A,T))
 ) else(
 some (.inr (.nrm (j,l)))
 )
def IR(d1:List AI):Option (Int):=
 E1 (iter (λ(a:Int × Int × Int)=>If d1 a.1 a.2.1 a.2.2) (0,0,0)) λ(j:Int) (l:Int)=>
 if((2147483647<j)||(2147483647<l)) then(
 some 3
 ) else(
 some 0
 )
def JC(d1:List AI)(j:Int)(l:Int)(E:Int):Option ((Int × Int × Int) ⊕ (Int × Int)):=
 if(decide (E<(d1.length:Int))) then(
 CR (
 AB (AM d1 E) λ(C:AI)=>
 AB (
 if(!(C.Kind=1)) then(
 AB (AN .i64 (j+C.N)) λ(u:Int)=>
 some u
 ) else(
 some j
 )
 ) λ(q:Int)=>
 if(!(C.Kind=2)) then(
 AB (Gx C) λ(F:Int)=>
 AB (AN .i64 (l+F)) λ(A:Int)=>
 some (q,A)
 ) else(
 some (q,l)
 )
 ) λ(w:Int) (B:Int)=>
 AB (AN .i64 (E+1)) λ(I:Int)=>
 some (.inl (w,B,I))
 ) else(
 some (.inr (j,l))
 )
def Jy(d1:List AI):Option (Int × Int):=
 CR (iter (λ(a:Int × Int × Int)=>JC d1 a.1 a.2.1 a.2.2) (0,0,0)) λ(j:Int) (l:Int)=>
 some (j,l)
def JT(w:List AD)(j:List AC)(q:Int)(l:List AD):Option ((Int × (List AD)) ⊕ (List AD)):=
 if(decide (q<(w.length:Int))) then(
 AB (AM w q) λ(u:AD)=>
 AB (Mc u.Attrs j) λ(A:List AC)=>
 AB (AM l q) λ(C:AD)=>
 AB (AN .i64 (q+1)) λ(B:Int)=>
 some (.inl (B,(l.set q.toNat (AD.mk u.Char u.Ref A))))
 ) else(
 some (.inr l)
 )
def P9(u:List AD)(j:List AC):Option ((List AD)):=
 AB (mk 40 (u.length:Int) (AD.mk 0 0 [])) λ(l:List AD)=>
 AB (iter (λ(a:Int × (List AD))=>JT u j a.1 a.2) (0,l)) λ(q:List AD)=>
 some q
def Ja(f1:List AD)(l:Int)(j:List AD):Option ((Int × (List AD)) ⊕ (List AD)):=
 if(decide (l<(f1.length:Int))) then(
 AB (AM f1 l) λ(q:AD)=>
 AB (app 32 [] q.Attrs) λ(u:List AC)=>
 AB (AM j l) λ(A:AD)=>
 AB (AN .i64 (l+1)) λ(w:Int)=>
 some (.inl (w,(j.set l.toNat (AD.mk q.Char q.Ref u))))
 ) else(
 some (.inr j)
 )
def Qy(f1:List AD):Option ((List AD)):=
 AB (mk 40 (f1.length:Int) (AD.mk 0 0 [])) λ(j:List AD)=>
 AB (iter (λ(a:Int × (List AD))=>Ja f1 a.1 a.2) (0,j)) λ(l:List AD)=>
 some l
def Pc(j:AI):Option (Int):=
 AB (Cq j.Kind 0 2) λ(l:Bool)=>
 if(!l) then(
 some 8
 ) else(
 if(decide (j.Kind=1)) then(
 if((!(j.N=0))||(0<(j.Attrs.length:Int))) then(
 some 4
 ) else(
 if(decide ((j.Elems.length:Int)=0)) then(
 some 11
 ) else(
 AB (JV j.Elems) λ(q:Int)=>
 some q
 )
 )
 ) else(
 if((0<(j.Elems.length:Int))||((j.Kind=2)&&(0<(j.Attrs.length:Int)))) then(
 some 4
 ) else(
 AB (Cq j.N 1 2147483647) λ(u:Bool)=>
 if(!u) then(
 some 2
 ) else(
 AB (Iv j.Attrs true) λ(w:Int)=>
 some w
 )
 )
 )
 )
def Iq(d1:List AI)(j:Int)(l:Int)(w:Int):Option ((Int × Int × Int) ⊕ (Au (Int × Int) Int)):=
 if(decide (w<(d1.length:Int))) then(
 E1 (
 AB (AM d1 w) λ(q:AI)=>
 AB (Pc q) λ(I:Int)=>
 if(!(I=0)) then(
 some (.ext (.inr (.ext I)))
 ) else(
 At (
 if(decide (0<w)) then(
 AB (AN .i64 (w-1)) λ(J:Int)=>
 AB (AM d1 J) λ(A:AI)=>
 if(decide (q.Kind=1)) then(
 if(!(A.Kind=0)) then(
 some (.ext (.ext (.inr (.ext 5))))
 ) else(
 some (.nrm ())
 )
 ) else(
 if(decide (q.Kind=2)) then(
 if(decide (A.Kind=2)) then(
 some (.ext (.ext (.inr (.ext 5))))
 ) else(
 some (.nrm ())
 )
 ) else(
 AB (gd ((decide (A.Kind=0))==true) (Hi A.Attrs q.Attrs)) λ(M:Bool)=>
 if((A.Kind=0)&&M) then(
 some (.ext (.ext (.inr (.ext 5))))
 ) else(
 some (.nrm ())
 )
 )
 )
 ) else(
 some (.nrm ())
 )
 ) λ(U:Unit)=>
 AB (
 if((!(q.Kind=1))&&(j<2147483648)) then(
 AB (AN .i64 (j+q.N)) λ(B:Int)=>
 some B
 ) else(
 some j
 )
 ) λ(u:Int)=>
 if((!(q.Kind=2))&&(l<2147483648)) then(
 AB (AN .i64 (q.N+(q.Elems.length:Int))) λ(O:Int)=>
 AB (AN .i64 (l+O)) λ(C:Int)=>
 some (.nrm (u,C))
 ) else(
 some (.nrm (u,l))
 )
 )
 ) λ(E:Int) (F:Int)=>
 AB (AN .i64 (w+1)) λ(T:Int)=>
 some (.inl (E,F,T))
 ) else(
 some (.inr (.nrm (j,l)))
 )
def L8(d1:List AI):Option (Int):=
 E1 (iter (λ(a:Int × Int × Int)=>Iq d1 a.1 a.2.1 a.2.2) (0,0,0)) λ(j:Int) (l:Int)=>
 if((2147483647<j)||(2147483647<l)) then(
 some 3
 ) else(
 some 0
 )
def NC(j:Af):Option (Af):=
 AB (
 if(decide (0<(j.add.length:Int))) then(
 AB (app 64 j.out [(AI.mk 1 0 [] j.add)]) λ(q:List AI)=>
 some (Af.mk q j.add j.cut)
 ) else(
 some j
 )
 ) λ(l:Af)=>
 AB (
 if(decide (0<l.cut)) then(
 AB (app 64 l.out [(AI.mk 2 l.cut [] [])]) λ(u:List AI)=>
 some (Af.mk u l.add l.cut)
 ) else(
 some l
 )
 ) λ(w:Af)=>
 some (Af.mk w.out [] 0)
def GE(A:Af)(n1:Int)(j:List AC):Option (Af):=
 if(decide (n1=0)) then(
 some A
 ) else(
 AB (NC A) λ(l:Af)=>
 AB (AN .i64 ((l.out.length:Int)-1)) λ(q:Int)=>
 AB (gd ((decide (0≤q))==true) (AM l.out q)) λ(w:AI)=>
 AB (gd (((0≤q)&&(w.Kind=0))==true) (AM l.out q)) λ(B:AI)=>
 AB (gd (((0≤q)&&(w.Kind=0))==true) (G8 B.Attrs j)) λ(C:Bool)=>
 if(((0≤q)&&(w.Kind=0))&&C) then(
 AB (AM l.out q) λ(u:AI)=>
 AB (AN .i64 (u.N+n1)) λ(E:Int)=>
 some (Af.mk (l.out.set q.toNat (AI.mk u.Kind E u.Attrs u.Elems)) [] l.cut)
 ) else(
 AB (app 32 [] j) λ(F:List AC)=>
 AB (app 64 l.out [(AI.mk 0 n1 F [])]) λ(I:List AI)=>
 some (Af.mk I [] l.cut)
 )
 )
def HK(j:Af)(l:List AD):Option (Af):=
 AB (Qy l) λ(q:List AD)=>
 AB (app 40 j.add q) λ(u:List AD)=>
 some (Af.mk j.out u j.cut)
def IJ(l:Af):Option ((List AI) × Int × Af):=
 AB (NC l) λ(j:Af)=>
 AB (IR j.out) λ(q:Int)=>
 if(!(q=0)) then(
 some ([],3,(Af.mk j.out [] j.cut))
 ) else(
 some (j.out,0,(Af.mk j.out [] j.cut))
 )
def Jf(d1:List AI)(l:Int)(j:Int):Option ((Int × Int) ⊕ Int):=
 if(decide (j<(d1.length:Int))) then(
 AB (AM d1 j) λ(q:AI)=>
 AB (AN .i64 (l+q.N)) λ(u:Int)=>
 AB (AN .i64 (j+1)) λ(w:Int)=>
 some (.inl (u,w))
 ) else(
 some (.inr l)
 )
def ND(d1:List AI):Option (Int):=
 AB (iter (λ(a:Int × Int)=>Jf d1 a.1 a.2) (0,0)) λ(j:Int)=>
 some j
def I3(f1:List AD)(A:Bh)(q:Int)(j:List AD):Option ((Int × (List AD)) ⊕ (List AD)):=
 if(decide (q<(f1.length:Int))) then(
 AB (
 AB (AM A.Adds q) λ(C:List AD)=>
 AB (app 40 j C) λ(l:List AD)=>
 AB (AM A.Cuts q) λ(E:Bool)=>
 if(!E) then(
 AB (AM f1 q) λ(B:AD)=>
 AB (AM A.Attrs q) λ(F:List AC)=>
 AB (H4 B.Attrs F) λ(I:List AC)=>
 AB (app 40 l [(AD.mk B.Char B.Ref I)]) λ(u:List AD)=>
 some u
 ) else(
 some l
 )
 ) λ(w:List AD)=>
 AB (AN .i64 (q+1)) λ(J:Int)=>
 some (.inl (J,w))
 ) else(
 some (.inr j)
 )
def NI(f1:List AD)(l:Bh):Option ((List AD)):=
 AB (iter (λ(a:Int × (List AD))=>I3 f1 l a.1 a.2) (0,[])) λ(j:List AD)=>
 AB (AM l.Adds (f1.length:Int)) λ(q:List AD)=>
 AB (app 40 j q) λ(u:List AD)=>
 some u
def Qu(j:AD)(l:AD):Option (Bool):=
 AB (gd (((j.Char=l.Char)&&(j.Ref=l.Ref))==true) (Hi j.Attrs l.Attrs)) λ(q:Bool)=>
 some (((j.Char=l.Char)&&(j.Ref=l.Ref))&&q)
def OK(l:List AD)(q:List AD)(j:Int):Option (Int ⊕ (Au Unit Bool)):=
 if(decide (j<(l.length:Int))) then(
 AB (AM l j) λ(u:AD)=>
 AB (AM q j) λ(w:AD)=>
 AB (Qu u w) λ(A:Bool)=>
 if(!A) then(
 some (.inr (.ext false))
 ) else(
 AB (AN .i64 (j+1)) λ(B:Int)=>
 some (.inl B)
 )
 ) else(
 some (.inr (.nrm ()))
 )
def L3(j:List AD)(l:List AD):Option (Bool):=
 if(!((j.length:Int)=(l.length:Int))) then(
 some false
 ) else(
 At (iter (λ(a:Int)=>OK j l a) 0) λ(q:Unit)=>
 some true
 )
def GF(j:BU):Option (Int):=
 if(decide ((j.steps.length:Int)=0)) then(
 some (-1)
 ) else(
 AB (AM j.steps 0) λ(l:AI)=>
 some l.Kind
 )
def GR(j:BU):Option (Int):=
 AB (AM j.steps 0) λ(l:AI)=>
 AB (Gx l) λ(q:Int)=>
 AB (AN .i64 (q-j.used)) λ(u:Int)=>
 some u
def Fj(l:BU)(n1:Int):Option (AI × BU):=
 AB (AM l.steps 0) λ(j:AI)=>
 AB (
 if(decide (j.Kind=1)) then(
 AB (AN .i64 (l.used+n1)) λ(u:Int)=>
 AB (Bx j.Elems l.used u) λ(w:List AD)=>
 some (AI.mk j.Kind j.N j.Attrs w)
 ) else(
 some (AI.mk j.Kind n1 j.Attrs j.Elems)
 )
 ) λ(A:AI)=>
 AB (AN .i64 (l.used+n1)) λ(q:Int)=>
 AB (Gx j) λ(B:Int)=>
 AB (
 if(decide (q=B)) then(
 AB (Bx l.steps 1 (l.steps.length:Int)) λ(C:List AI)=>
 some (BU.mk C 0)
 ) else(
 some (BU.mk l.steps q)
 )
 ) λ(E:BU)=>
 some (A,E)
def Lp(q:Af)(u:Af)(E:BU)(B:BU):Option ((Af × Af × BU × BU) ⊕ (Af × Af)):=
 AB (GF E) λ(J:Int)=>
 AB (
 if((decide (0≤J))==false) then(
 AB (GF B) λ(O:Int)=>
 some ((0≤J)||(0≤O))
 ) else(
 some ((0≤J)||false)
 )
 ) λ(x5:Bool)=>
 if x5 then(
 if(decide (J=1)) then(
 AB (GR E) λ(T:Int)=>
 CR (Fj E T) λ(F:AI) (w3:BU)=>
 AB (HK q F.Elems) λ(w4:Af)=>
 AB (GE u (F.Elems.length:Int) []) λ(w5:Af)=>
 some (.inl (w4,w5,w3,B))
 ) else(
 AB (GF B) λ(U:Int)=>
 if(decide (U=1)) then(
 AB (GR B) λ(V:Int)=>
 CR (Fj B V) λ(I:AI) (w6:BU)=>
 AB (GE q (I.Elems.length:Int) []) λ(w7:Af)=>
 AB (HK u I.Elems) λ(w8:Af)=>
 some (.inl (w7,w8,E,w6))
 ) else(
 AB (GR E) λ(j:Int)=>
 AB (GR B) λ(l:Int)=>
 CR (Fj E (min j l)) λ(C:AI) (M:BU)=>
 CR (Fj B (min j l)) λ(w:AI) (A:BU)=>
 if((C.Kind=0)&&(w.Kind=0)) then(
 AB (Oe C.Attrs w.Attrs) λ(X:List AC)=>
 AB (GE q (min j l) X) λ(Y:Af)=>
 AB (GE u (min j l) w.Attrs) λ(Z:Af)=>
 some (.inl (Y,Z,M,A))
 ) else(
 if(decide (C.Kind=0)) then(
 AB (AN .i64 (u.cut+(min j l))) λ(x6:Int)=>
 some (.inl (q,(Af.mk u.out u.add x6),M,A))
 ) else(
 if(decide (w.Kind=0)) then(
 AB (AN .i64 (q.cut+(min j l))) λ(x7:Int)=>
 some (.inl ((Af.mk q.out q.add x7),u,M,A))
 ) else(
 some (.inl (q,u,M,A))
 )
 )
 )
 )
 )
 ) else(
 some (.inr (q,u))
 )
def MY(j:List AI)(l:List AI):Option ((List AI) × (List AI) × Int):=
 AB (IR j) λ(q:Int)=>
 if(!(q=0)) then(
 some ([],[],q)
 ) else(
 AB (IR l) λ(e2:Int)=>
 if(!(e2=0)) then(
 some ([],[],e2)
 ) else(
 CR (Jy j) λ(u:Int) (J:Int)=>
 CR (Jy l) λ(w:Int) (M:Int)=>
 if(!(u=w)) then(
 some ([],[],14)
 ) else(
 CR (iter (λ(a:Af × Af × BU × BU)=>Lp a.1 a.2.1 a.2.2.1 a.2.2.2) ((Af.mk [] [] 0),(Af.mk [] [] 0),(BU.mk j 0),(BU.mk l 0))) λ(A:Af) (B:Af)=>
 HH (IJ A) λ(C:List AI) (E:Int) (O:Af)=>
 HH (IJ B) λ(F:List AI) (I:Int) (T:Af)=>
 if((!(E=0))||(!(I=0))) then(
 some ([],[],3)
 ) else(
 some (C,F,0)
 )
 )
 )
 )
def LI(f1:List AD)(j:Bool)(l:Int):Option (Int ⊕ (Au Unit Int)):=
 if(decide (l<(f1.length:Int))) then(
 AB (AM f1 l) λ(q:AD)=>
 AB (Ml q) λ(u:Int)=>
 if(!(u=0)) then(
 some (.inr (.ext u))
 ) else(
 if((!j)&&(q.Ref=0)) then(
 some (.inr (.ext 8))
 ) else(
 AB (AN .i64 (l+1)) λ(w:Int)=>
 some (.inl w)
 )
 )
 ) else(
 some (.inr (.nrm ()))
 )
def H2(f1:List AD)(j:Bool):Option (Int):=
 At (iter (λ(a:Int)=>LI f1 j a) 0) λ(u:Unit)=>
 AB (gd ((j==true)&&((decide ((f1.length:Int)=0))==false)) (AN .i64 ((f1.length:Int)-1))) λ(l:Int)=>
 AB (gd ((j==true)&&((decide ((f1.length:Int)=0))==false)) (AM f1 l)) λ(q:AD)=>
 if(j&&(((f1.length:Int)=0)||(!(q.Char=10)))) then(
 some 11
 ) else(
 some 0
 )
def FX(d1:List AI)(q:Int)(l:Af):Option ((Int × Af) ⊕ (Au Af ((List AI) × Int))):=
 if(decide (q<(d1.length:Int))) then(
 At (
 AB (AM d1 q) λ(j:AI)=>
 AB (Ly j) λ(u:Int)=>
 AB (
 if((((j.Kind=1)&&((j.Elems.length:Int)=0))&&(u=11))||(((!(j.Kind=1))&&(j.N=0))&&(u=2))) then(
 AB (KX j.Attrs) λ(A:Int)=>
 some A
 ) else(
 some u
 )
 ) λ(e2:Int)=>
 if(!(e2=0)) then(
 some (.ext (.inr (.ext ([],e2))))
 ) else(
 if(decide (j.Kind=0)) then(
 AB (GE l j.N j.Attrs) λ(B:Af)=>
 some (.nrm B)
 ) else(
 if(decide (j.Kind=1)) then(
 AB (HK l j.Elems) λ(C:Af)=>
 some (.nrm C)
 ) else(
 AB (AN .i64 (l.cut+j.N)) λ(w:Int)=>
 if(decide (2147483647<w)) then(
 some (.ext (.inr (.ext ([],3))))
 ) else(
 some (.nrm (Af.mk l.out l.add w))
 )
 )
 )
 )
 ) λ(E:Af)=>
 AB (AN .i64 (q+1)) λ(F:Int)=>
 some (.inl (F,E))
 ) else(
 some (.inr (.nrm l))
 )
def Ir(d1:List AI):Option ((List AI) × Int):=
 At (iter (λ(a:Int × Af)=>FX d1 a.1 a.2) (0,(Af.mk [] [] 0))) λ(j:Af)=>
 HH (IJ j) λ(l:List AI) (q:Int) (u:Af)=>
 some (l,q)
def Ke(f1:List AD)(j:Bool)(l:Int):Option (Int ⊕ (Au Unit Int)):=
 if(decide (l<(f1.length:Int))) then(
 AB (AM f1 l) λ(q:AD)=>
 AB (Mb q) λ(u:Int)=>
 if(!(u=0)) then(
 some (.inr (.ext u))
 ) else(
 if((!j)&&(!(q.Char=0))) then(
 some (.inr (.ext 8))
 ) else(
 AB (AN .i64 (l+1)) λ(w:Int)=>
 some (.inl w)
 )
 )
 ) else(
 some (.inr (.nrm ()))
 )
def JD(f1:List AD)(j:Bool):Option (Int):=
 At (iter (λ(a:Int)=>Ke f1 j a) 0) λ(u:Unit)=>
 AB (gd ((j==true)&&((decide ((f1.length:Int)=0))==false)) (AN .i64 ((f1.length:Int)-1))) λ(l:Int)=>
 AB (gd ((j==true)&&((decide ((f1.length:Int)=0))==false)) (AM f1 l)) λ(q:AD)=>
 if(j&&(((f1.length:Int)=0)||(!(q.Char=10)))) then(
 some 11
 ) else(
 some 0
 )
end
noncomputable section
structure Ip where
 lo:Int
 hi:Int
deriving DecidableEq
instance:Inhabited Ip:=⟨⟨0,0⟩⟩
@[reducible] def Ip.row(x:Ip):List RV:=[.int .u8 x.lo,.int .u8 x.hi]
def Td:List Ip:=JJ.map λp=>Ip.mk p.1 p.2
def N6(A:List UInt8):Option (Int × Int):=
 if(decide ((A.length:Int)<1)) then(
 some (65533,0)
 ) else(
 AB (AM A 0) λ(j:UInt8)=>
 AB (AM GK (j.toNat:Int)) λ(u:Int)=>
 if(decide (240≤u)) then(
 some ((ET .i32 (PT .i32 (IntKind.i32.wrap (j.toNat:Int)) (Fo .i32 (Dv .i32 (IntKind.i32.wrap u) 31) 31)) (Ch .i32 65533 (Fo .i32 (Dv .i32 (IntKind.i32.wrap u) 31) 31))),1)
 ) else(
 AB (AM Td (Fo .u8 u 4)) λ(B:Ip)=>
 if(decide ((A.length:Int)<(IntKind.i64.wrap (Ch .u8 u 7)))) then(
 some (65533,1)
 ) else(
 AB (AM A 1) λ(l:UInt8)=>
 if(((l.toNat:Int)<B.lo)||(B.hi<(l.toNat:Int))) then(
 some (65533,1)
 ) else(
 if(decide ((IntKind.i64.wrap (Ch .u8 u 7))≤2)) then(
 some ((ET .i32 (Dv .i32 (IntKind.i32.wrap (Ch .u8 (j.toNat:Int) 31)) 6) (IntKind.i32.wrap (Ch .u8 (l.toNat:Int) 63))),2)
 ) else(
 AB (AM A 2) λ(q:UInt8)=>
 if(((q.toNat:Int)<128)||(191<(q.toNat:Int))) then(
 some (65533,1)
 ) else(
 if(decide ((IntKind.i64.wrap (Ch .u8 u 7))≤3)) then(
 some ((ET .i32 (ET .i32 (Dv .i32 (IntKind.i32.wrap (Ch .u8 (j.toNat:Int) 15)) 12) (Dv .i32 (IntKind.i32.wrap (Ch .u8 (l.toNat:Int) 63)) 6)) (IntKind.i32.wrap (Ch .u8 (q.toNat:Int) 63))),3)
 ) else(
 AB (AM A 3) λ(w:UInt8)=>
 if(((w.toNat:Int)<128)||(191<(w.toNat:Int))) then(
 some (65533,1)
 ) else(
 some ((ET .i32 (ET .i32 (ET .i32 (Dv .i32 (IntKind.i32.wrap (Ch .u8 (j.toNat:Int) 7)) 18) (Dv .i32 (IntKind.i32.wrap (Ch .u8 (l.toNat:Int) 63)) 12)) (Dv .i32 (IntKind.i32.wrap (Ch .u8 (q.toNat:Int) 63)) 6)) (IntKind.i32.wrap (Ch .u8 (w.toNat:Int) 63))),4)
 )
 )
 )
 )
 )
 )
 )
 )
def PR(j:List UInt8):Option (Int × Int):=
 AB (gd ((!(j=[]))==true) (AM j 0)) λ(l:UInt8)=>
 if((!(j=[]))&&((l.toNat:Int)<128)) then(
 AB (AM j 0) λ(q:UInt8)=>
 some ((IntKind.i32.wrap (q.toNat:Int)),1)
 ) else(
 CR (N6 j) λ(u:Int) (w:Int)=>
 some (u,w)
 )
end
noncomputable section
def Va(u:List AD)(w:List AD)(q:Int):Option (Int ⊕ (Au Unit Bool)):=
 if(decide (q<(u.length:Int))) then(
 AB (AM u q) λ(j:AD)=>
 AB (AM w q) λ(l:AD)=>
 AB (gd (((!(j.Char=l.Char))||(!(j.Ref=l.Ref)))==false) (G8 j.Attrs l.Attrs)) λ(A:Bool)=>
 if(((!(j.Char=l.Char))||(!(j.Ref=l.Ref)))||(!A)) then(
 some (.inr (.ext false))
 ) else(
 AB (AN .i64 (q+1)) λ(B:Int)=>
 some (.inl B)
 )
 ) else(
 some (.inr (.nrm ()))
 )
def Wx(j:List AD)(l:List AD):Option (Bool):=
 if(!((j.length:Int)=(l.length:Int))) then(
 some false
 ) else(
 At (iter (λ(a:Int)=>Va j l a) 0) λ(q:Unit)=>
 some true
 )
def ML(f1:List AD)(u:Int)(j:List Int):Option ((Int × (List Int)) ⊕ (List Int)):=
 if(decide (u<(f1.length:Int))) then(
 AB (
 AB (AM f1 u) λ(w:AD)=>
 if(!(w.Ref=0)) then(
 AB (app 8 j [w.Ref]) λ(l:List Int)=>
 some l
 ) else(
 some j
 )
 ) λ(q:List Int)=>
 AB (AN .i64 (u+1)) λ(A:Int)=>
 some (.inl (A,q))
 ) else(
 some (.inr j)
 )
def vY(f1:List AD):Option ((List Int)):=
 AB (iter (λ(a:Int × (List Int))=>ML f1 a.1 a.2) (0,[])) λ(j:List Int)=>
 some j
end
noncomputable section
end
noncomputable section
structure B2 where
 Nodes:List Ak
deriving DecidableEq
instance:Inhabited B2:=⟨⟨[]⟩⟩
@[reducible] def B2.row(x:B2):List RV:=[.sl (x.Nodes.map Ak.row)]
def Hn(j:Int):Option (Bool):=
 some ((((j=1)||(j=3))||(j=4))||(j=12))
def NO(j:Int):Option (Bool):=
 some ((j=0)||(j=7))
def Mw(j:Int):Option (Bool):=
 some ((j=2)||(j=6))
def OA(j:List As)(w:List As)(l:Int):Option (Int ⊕ (Au Unit Bool)):=
 if(decide (l<(j.length:Int))) then(
 AB (AM j l) λ(q:As)=>
 AB (AM w l) λ(u:As)=>
 if(!((q.Row=u.Row)&&((q.Col=u.Col)&&((q.H=u.H)&&((q.W=u.W)&&true))))) then(
 some (.inr (.ext false))
 ) else(
 AB (AN .i64 (l+1)) λ(A:Int)=>
 some (.inl A)
 )
 ) else(
 some (.inr (.nrm ()))
 )
def Qr(j:List As)(l:List As):Option (Bool):=
 if(!((j.length:Int)=(l.length:Int))) then(
 some false
 ) else(
 At (iter (λ(a:Int)=>OA j l a) 0) λ(q:Unit)=>
 some true
 )
def Pf(j:Av)(l:Av):Option (Bool):=
 AB (gd (((((j.Row=l.Row)&&(j.Col=l.Col))&&(j.Text=l.Text))&&(j.Ref=l.Ref))==true) (G8 j.Attrs l.Attrs)) λ(q:Bool)=>
 some (((((j.Row=l.Row)&&(j.Col=l.Col))&&(j.Text=l.Text))&&(j.Ref=l.Ref))&&q)
def Qo(j:List Av)(q:List Av)(l:Int):Option (Int ⊕ (Au Unit Bool)):=
 if(decide (l<(j.length:Int))) then(
 AB (AM j l) λ(u:Av)=>
 AB (AM q l) λ(w:Av)=>
 AB (Pf u w) λ(A:Bool)=>
 if(!A) then(
 some (.inr (.ext false))
 ) else(
 AB (AN .i64 (l+1)) λ(B:Int)=>
 some (.inl B)
 )
 ) else(
 some (.inr (.nrm ()))
 )
def Qz(j:List Av)(l:List Av):Option (Bool):=
 if(!((j.length:Int)=(l.length:Int))) then(
 some false
 ) else(
 At (iter (λ(a:Int)=>Qo j l a) 0) λ(q:Unit)=>
 some true
 )
def KT(j:BX)(l:BX):Option (Bool):=
 AB (gd (((j.Rows=l.Rows)&&(j.Cols=l.Cols))==true) (Qr j.Merges l.Merges)) λ(q:Bool)=>
 AB (gd ((((j.Rows=l.Rows)&&(j.Cols=l.Cols))&&q)==true) (Qz j.Cells l.Cells)) λ(u:Bool)=>
 some ((((j.Rows=l.Rows)&&(j.Cols=l.Cols))&&q)&&u)
def JM(j:Int):Option (Bool):=
 some (((j=8)||(j=9))||(j=10))
def Fu(l:List UInt8):Option ((List UInt8) ⊕ (Au Unit Bool)):=
 if(!(l=[])) then(
 CR (PR l) λ(j:Int) (q:Int)=>
 AB (gd ((((j=65533)&&(q=1))||(j=10))==false) (M5 (IntKind.i64.wrap j))) λ(u:Bool)=>
 if((((j=65533)&&(q=1))||(j=10))||(!u)) then(
 some (.inr (.ext false))
 ) else(
 AB (Bx l q (l.length:Int)) λ(w:List UInt8)=>
 some (.inl w)
 )
 ) else(
 some (.inr (.nrm ()))
 )
def OV(j:List UInt8):Option (Bool):=
 At (iter (λ(a:(List UInt8))=>Fu a) j) λ(l:Unit)=>
 some true
def O7(j:Av):Option (Bool):=
 some (((j.Text=[])&&(j.Ref=0))&&((j.Attrs.length:Int)=0))
def Pp(j:Int):Option (Bool):=
 some (!(j=j))
def JK(q:Int)(u:Int):Option (Int):=
 AB (Pp q) λ(l:Bool)=>
 AB (Pp u) λ(j:Bool)=>
 if l then(
 if j then(
 some 0
 ) else(
 some (-1)
 )
 ) else(
 if j then(
 some 1
 ) else(
 if(decide (q<u)) then(
 some (-1)
 ) else(
 if(decide (u<q)) then(
 some 1
 ) else(
 some 0
 )
 )
 )
 )
def Ec(j:List Int)(l:Int):Option (Int ⊕ (Au Unit Int)):=
 if(decide (l<(j.length:Int))) then(
 AB (AM j l) λ(q:Int)=>
 if(!(q=0)) then(
 some (.inr (.ext q))
 ) else(
 AB (AN .i64 (l+1)) λ(u:Int)=>
 some (.inl u)
 )
 ) else(
 some (.inr (.nrm ()))
 )
def MX(j:List Int):Option (Int):=
 At (iter (λ(a:Int)=>Ec j a) 0) λ(l:Unit)=>
 some 0
def La(j:Av)(l:Av):Option (Int):=
 AB (JK j.Row l.Row) λ(q:Int)=>
 AB (JK j.Col l.Col) λ(u:Int)=>
 AB (MX [q,u]) λ(w:Int)=>
 some w
def OY(A:List Av)(q:Int)(u:Int)(w:Bool)(l:Int):Option (Int ⊕ (Au Unit Int)):=
 if(decide (l<(A.length:Int))) then(
 AB (AM A l) λ(j:Av)=>
 if((((j.Row<0)||(q≤j.Row))||(j.Col<0))||(u≤j.Col)) then(
 some (.inr (.ext 2))
 ) else(
 if((j.Ref<0)||(1073741824<j.Ref)) then(
 some (.inr (.ext 2))
 ) else(
 AB (OV j.Text) λ(C:Bool)=>
 if(!C) then(
 some (.inr (.ext 23))
 ) else(
 AB (Jq j.Attrs) λ(B:Int)=>
 if(!(B=0)) then(
 some (.inr (.ext B))
 ) else(
 AB (O7 j) λ(E:Bool)=>
 if(E&&(!w)) then(
 some (.inr (.ext 4))
 ) else(
 AB (gd ((decide (0<l))==true) (AN .i64 (l-1))) λ(F:Int)=>
 AB (gd ((decide (0<l))==true) (AM A F)) λ(I:Av)=>
 AB (gd ((decide (0<l))==true) (La I j)) λ(J:Int)=>
 if((0<l)&&(0≤J)) then(
 some (.inr (.ext 5))
 ) else(
 AB (AN .i64 (l+1)) λ(M:Int)=>
 some (.inl M)
 )
 )
 )
 )
 )
 )
 ) else(
 some (.inr (.nrm ()))
 )
def N7(u:List Av)(j:Int)(l:Int)(q:Bool):Option (Int):=
 At (iter (λ(a:Int)=>OY u j l q a) 0) λ(w:Unit)=>
 some 0
def Qj(j:As)(l:Int)(q:Int):Option (Bool):=
 AB (gd (((((((0≤j.Row)&&(0≤j.Col))&&(1≤j.H))&&(1≤j.W))&&(j.Row<l))&&(j.Col<q))==true) (AN .i64 (l-j.Row))) λ(u:Int)=>
 AB (gd ((((((((0≤j.Row)&&(0≤j.Col))&&(1≤j.H))&&(1≤j.W))&&(j.Row<l))&&(j.Col<q))&&(j.H≤u))==true) (AN .i64 (q-j.Col))) λ(w:Int)=>
 some ((((((((0≤j.Row)&&(0≤j.Col))&&(1≤j.H))&&(1≤j.W))&&(j.Row<l))&&(j.Col<q))&&(j.H≤u))&&(j.W≤w))
def OG(j:As)(l:As):Option (Bool):=
 some ((j.Row<l.Row)||((j.Row=l.Row)&&(j.Col<l.Col)))
def QL(j:As)(l:As):Option (Bool):=
 AB (AN .i64 (l.Row+l.H)) λ(q:Int)=>
 AB (gd ((decide (j.Row<q))==true) (AN .i64 (j.Row+j.H))) λ(u:Int)=>
 AB (gd (((j.Row<q)&&(l.Row<u))==true) (AN .i64 (l.Col+l.W))) λ(w:Int)=>
 AB (gd ((((j.Row<q)&&(l.Row<u))&&(j.Col<w))==true) (AN .i64 (j.Col+j.W))) λ(A:Int)=>
 some ((((j.Row<q)&&(l.Row<u))&&(j.Col<w))&&(l.Col<A))
def Ts(j:As)(l:As):Option (Bool):=
 AB (QL l j) λ(q:Bool)=>
 some q
def Qf(q:As)(l:List As)(j:Int):Option (Int ⊕ (Au Unit Int)):=
 if(decide (j<(l.length:Int))) then(
 AB (AM l j) λ(u:As)=>
 AB (Ts q u) λ(w:Bool)=>
 if w then(
 some (.inr (.ext j))
 ) else(
 AB (AN .i64 (j+1)) λ(A:Int)=>
 some (.inl A)
 )
 ) else(
 some (.inr (.nrm ()))
 )
def Rk(j:As)(l:List As):Option (Int):=
 At (iter (λ(a:Int)=>Qf j l a) 0) λ(q:Unit)=>
 some (-1)
def NQ(j:As)(l:List As):Option (Bool):=
 AB (Rk j l) λ(q:Int)=>
 some (decide (0≤q))
def Oc(l:BX)(j:Int):Option (Int ⊕ (Au Unit Int)):=
 if(decide (j<(l.Merges.length:Int))) then(
 AB (AM l.Merges j) λ(q:As)=>
 AB (Qj q l.Rows l.Cols) λ(u:Bool)=>
 if(!u) then(
 some (.inr (.ext 2))
 ) else(
 if((q.H=1)&&(q.W=1)) then(
 some (.inr (.ext 4))
 ) else(
 AB (gd ((decide (0<j))==true) (AN .i64 (j-1))) λ(w:Int)=>
 AB (gd ((decide (0<j))==true) (AM l.Merges w)) λ(A:As)=>
 AB (gd ((decide (0<j))==true) (OG A q)) λ(B:Bool)=>
 if((0<j)&&(!B)) then(
 some (.inr (.ext 5))
 ) else(
 AB (Bx l.Merges 0 j) λ(C:List As)=>
 AB (NQ q C) λ(E:Bool)=>
 if E then(
 some (.inr (.ext 21))
 ) else(
 AB (AN .i64 (j+1)) λ(F:Int)=>
 some (.inl F)
 )
 )
 )
 )
 ) else(
 some (.inr (.nrm ()))
 )
def Oa(j:BX):Option (Int):=
 if((((j.Rows<0)||(2147483647<j.Rows))||(j.Cols<0))||(2147483647<j.Cols)) then(
 some 2
 ) else(
 AB (N7 j.Cells j.Rows j.Cols false) λ(l:Int)=>
 if(!(l=0)) then(
 some l
 ) else(
 At (iter (λ(a:Int)=>Oc j a) 0) λ(q:Unit)=>
 some 0
 )
 )
def OC(j:Int)(u:List Av)(l:Int):Option (Int ⊕ (Au Unit Int)):=
 if(decide (l<(u.length:Int))) then(
 AB (AM u l) λ(q:Av)=>
 if(((j=2)&&((!(q.Text=[]))||(0<(q.Attrs.length:Int))))||((j=6)&&(!(q.Ref=0)))) then(
 some (.inr (.ext 4))
 ) else(
 AB (AN .i64 (l+1)) λ(w:Int)=>
 some (.inl w)
 )
 ) else(
 some (.inr (.nrm ()))
 )
def PI(j:Int)(l:List Av):Option (Int):=
 At (iter (λ(a:Int)=>OC j l a) 0) λ(q:Unit)=>
 some 0
def S7(q:List UInt8)(l:Int):Option (Int ⊕ (Au Unit Bool)):=
 if(decide (l<(q.length:Int))) then(
 AB (AM q l) λ(j:UInt8)=>
 if(((j.toNat:Int)<97)||(122<(j.toNat:Int))) then(
 some (.inr (.ext false))
 ) else(
 AB (AN .i64 (l+1)) λ(u:Int)=>
 some (.inl u)
 )
 ) else(
 some (.inr (.nrm ()))
 )
def N9(j:List UInt8):Option (Bool):=
 AB (gd (((j=[])||(200<(j.length:Int)))==false) (AN .i64 ((j.length:Int)-1))) λ(q:Int)=>
 AB (gd (((j=[])||(200<(j.length:Int)))==false) (AM j q)) λ(l:UInt8)=>
 if(((j=[])||(200<(j.length:Int)))||((l.toNat:Int)=97)) then(
 some false
 ) else(
 At (iter (λ(a:Int)=>S7 j a) 0) λ(u:Unit)=>
 some true
 )
def O9(j:BQ):Option (Int):=
 if((!(j.Kind=0))&&(!(j.Kind=1))) then(
 some 8
 ) else(
 if((((((j.Clock<1)||(1073741824<j.Clock))||(j.Site<0))||(1000<j.Site))||(j.Item<1))||(1073741824<j.Item)) then(
 some 2
 ) else(
 AB (
 if((j.Kind=0)&&((!(j.Name=[]))||(!(j.Value=[])))) then(
 some ((j.Kind=0)&&((!(j.Name=[]))||(!(j.Value=[]))))
 ) else(
 some ((j.Kind=1)&&((!(j.Parent=0))||(!(j.Place=[]))))
 )
 ) λ(q:Bool)=>
 if q then(
 some 4
 ) else(
 if((j.Kind=0)&&((j.Parent<(-1))||(1073741824<j.Parent))) then(
 some 2
 ) else(
 AB (gd ((decide (j.Kind=0))==true) (N9 j.Place)) λ(l:Bool)=>
 AB (
 if((j.Kind=0)&&(!l)) then(
 some ((j.Kind=0)&&(!l))
 ) else(
 AB (gd ((decide (j.Kind=1))==true) (Lk j.Name)) λ(u:Bool)=>
 some ((j.Kind=1)&&(!u))
 )
 ) λ(w:Bool)=>
 if w then(
 some 9
 ) else(
 AB (gd (((j.Kind=1)&&(!(j.Value=[])))==true) (JS j.Value)) λ(A:Bool)=>
 if(((j.Kind=1)&&(!(j.Value=[])))&&(!A)) then(
 some 23
 ) else(
 some 0
 )
 )
 )
 )
 )
 )
def PN(j:BQ)(l:BQ):Option (Int):=
 AB (JK j.Clock l.Clock) λ(q:Int)=>
 AB (JK j.Site l.Site) λ(u:Int)=>
 AB (MX [q,u]) λ(w:Int)=>
 some w
def N5(l:List BQ)(j:Int):Option (Int ⊕ (Au Unit Int)):=
 if(decide (j<(l.length:Int))) then(
 AB (AM l j) λ(q:BQ)=>
 AB (O9 q) λ(u:Int)=>
 if(!(u=0)) then(
 some (.inr (.ext u))
 ) else(
 AB (gd ((decide (0<j))==true) (AN .i64 (j-1))) λ(w:Int)=>
 AB (gd ((decide (0<j))==true) (AM l w)) λ(A:BQ)=>
 AB (gd ((decide (0<j))==true) (PN A q)) λ(B:Int)=>
 if((0<j)&&(0≤B)) then(
 some (.inr (.ext 5))
 ) else(
 AB (AN .i64 (j+1)) λ(C:Int)=>
 some (.inl C)
 )
 )
 ) else(
 some (.inr (.nrm ()))
 )
def OF(j:List BQ):Option (Int):=
 At (iter (λ(a:Int)=>N5 j a) 0) λ(l:Unit)=>
 some 0
def FM(n1:Ak):Option (Int):=
 if((n1.ID<1)||(1073741824<n1.ID)) then(
 some 2
 ) else(
 if(((n1.Kind<0)||(13≤n1.Kind))||(!((decide (n1.ID=1))==(decide (n1.Kind=0))))) then(
 some 8
 ) else(
 AB (Jq n1.Attrs) λ(w:Int)=>
 if(!(w=0)) then(
 some w
 ) else(
 AB (Hn n1.Kind) λ(l:Bool)=>
 AB (gd (l==false) (NO n1.Kind)) λ(q:Bool)=>
 AB (Mw n1.Kind) λ(j:Bool)=>
 AB (
 if(((!(l||q))&&(0<(n1.Flow.length:Int)))==false) then(
 if((!j)==true) then(
 AB (KT n1.Grid (BX.mk 0 0 [] [])) λ(A:Bool)=>
 AB (gd ((((!(l||q))&&(0<(n1.Flow.length:Int)))||((!j)&&(!A)))==false) (JM n1.Kind)) λ(B:Bool)=>
 some ((((!(l||q))&&(0<(n1.Flow.length:Int)))||((!j)&&(!A)))||((!B)&&(0<(n1.Draw.length:Int))))
 ) else(
 AB (gd ((((!(l||q))&&(0<(n1.Flow.length:Int)))||((!j)&&false))==false) (JM n1.Kind)) λ(C:Bool)=>
 some ((((!(l||q))&&(0<(n1.Flow.length:Int)))||((!j)&&false))||((!C)&&(0<(n1.Draw.length:Int))))
 )
 ) else(
 AB (gd ((((!(l||q))&&(0<(n1.Flow.length:Int)))||false)==false) (JM n1.Kind)) λ(u:Bool)=>
 some ((((!(l||q))&&(0<(n1.Flow.length:Int)))||false)||((!u)&&(0<(n1.Draw.length:Int))))
 )
 ) λ(E:Bool)=>
 if E then(
 some 4
 ) else(
 if(l||q) then(
 AB (H2 n1.Flow l) λ(F:Int)=>
 some F
 ) else(
 if j then(
 AB (Oa n1.Grid) λ(e2:Int)=>
 if(!(e2=0)) then(
 some e2
 ) else(
 AB (PI n1.Kind n1.Grid.Cells) λ(I:Int)=>
 some I
 )
 ) else(
 AB (OF n1.Draw) λ(J:Int)=>
 some J
 )
 )
 )
 )
 )
 )
def HT(f1:List AD)(u:Int)(j:List Int):Option ((Int × (List Int)) ⊕ (List Int)):=
 if(decide (u<(f1.length:Int))) then(
 AB (
 AB (AM f1 u) λ(w:AD)=>
 if(!(w.Ref=0)) then(
 AB (app 8 j [w.Ref]) λ(l:List Int)=>
 some l
 ) else(
 some j
 )
 ) λ(q:List Int)=>
 AB (AN .i64 (u+1)) λ(A:Int)=>
 some (.inl (A,q))
 ) else(
 some (.inr j)
 )
def Ny(f1:List AD):Option ((List Int)):=
 AB (iter (λ(a:Int × (List Int))=>HT f1 a.1 a.2) (0,[])) λ(j:List Int)=>
 some j
def Hp(n1:Ak)(u:Int)(j:List Int):Option ((Int × (List Int)) ⊕ (List Int)):=
 if(decide (u<(n1.Grid.Cells.length:Int))) then(
 AB (
 AB (AM n1.Grid.Cells u) λ(w:Av)=>
 if(!(w.Ref=0)) then(
 AB (app 8 j [w.Ref]) λ(l:List Int)=>
 some l
 ) else(
 some j
 )
 ) λ(q:List Int)=>
 AB (AN .i64 (u+1)) λ(A:Int)=>
 some (.inl (A,q))
 ) else(
 some (.inr j)
 )
def J7(n1:Ak):Option ((List Int)):=
 AB (Ny n1.Flow) λ(l:List Int)=>
 AB (iter (λ(a:Int × (List Int))=>Hp n1 a.1 a.2) (0,l)) λ(j:List Int)=>
 some j
def Nd(n1:Ak)(j:Int):Option (Int):=
 if(decide (n1.ID<j)) then(
 some (-1)
 ) else(
 if(decide (j<n1.ID)) then(
 some 1
 ) else(
 some 0
 )
 )
def Mp(A:List Ak)(j:Int)(l:Int)(q:Int):Option ((Int × Int) ⊕ Int):=
 if(decide (l<q)) then(
 AB (AN .i64 (l+q)) λ(u:Int)=>
 AB (AM A (IntKind.i64.wrap (Fo .u64 (IntKind.u64.wrap u) 1))) λ(B:Ak)=>
 AB (Nd B j) λ(C:Int)=>
 if(decide (C<0)) then(
 AB (AN .i64 ((IntKind.i64.wrap (Fo .u64 (IntKind.u64.wrap u) 1))+1)) λ(w:Int)=>
 some (.inl (w,q))
 ) else(
 some (.inl (l,(IntKind.i64.wrap (Fo .u64 (IntKind.u64.wrap u) 1))))
 )
 ) else(
 some (.inr l)
 )
def R4(l:List Ak)(j:Int):Option (Int × Bool):=
 AB (iter (λ(a:Int × Int)=>Mp l j a.1 a.2) (0,(l.length:Int))) λ(i8:Int)=>
 AB (gd ((decide (i8<(l.length:Int)))==true) (AM l i8)) λ(q:Ak)=>
 AB (gd ((decide (i8<(l.length:Int)))==true) (Nd q j)) λ(u:Int)=>
 some (i8,((i8<(l.length:Int))&&(u=0)))
def MP(d1:B2)(j:Int):Option (Int × Bool):=
 CR (R4 d1.Nodes j) λ(l:Int) (q:Bool)=>
 some (l,q)
def QI(l:List Int)(v1:Int)(j:Int):Option (Int ⊕ (Au Unit Int)):=
 if(decide (j<(l.length:Int))) then(
 AB (AM l j) λ(q:Int)=>
 if(decide (v1=q)) then(
 some (.inr (.ext j))
 ) else(
 AB (AN .i64 (j+1)) λ(u:Int)=>
 some (.inl u)
 )
 ) else(
 some (.inr (.nrm ()))
 )
def Sn(j:List Int)(v1:Int):Option (Int):=
 At (iter (λ(a:Int)=>QI j v1 a) 0) λ(l:Unit)=>
 some (-1)
def Mm(j:List Int)(v1:Int):Option (Bool):=
 AB (Sn j v1) λ(l:Int)=>
 some (decide (0≤l))
def Qh(j:Int)(l:Int):Option (Bool):=
 AB (
 if(decide (j=0)) then(
 some [1,6,7,10,11,12]
 ) else(
 if(decide (j=1)) then(
 some [2,4,5,10]
 ) else(
 if(decide (j=3)) then(
 some [4,5,10]
 ) else(
 AB (
 if(decide (j=4)) then(
 some (decide (j=4))
 ) else(
 some (decide (j=12))
 )
 ) λ(q:Bool)=>
 if q then(
 some [5]
 ) else(
 if(decide (j=2)) then(
 some [3]
 ) else(
 if(decide (j=7)) then(
 some [8,9]
 ) else(
 some []
 )
 )
 )
 )
 )
 )
 ) λ(u:List Int)=>
 AB (Mm u l) λ(w:Bool)=>
 some w
def Ls(d1:B2)(j:Int)(He:List Int)(l:Int):Option (Int ⊕ (Au Unit Int)):=
 if(decide (l<(He.length:Int))) then(
 AB (AM He l) λ(q:Int)=>
 CR (MP d1 q) λ(u:Int) (w:Bool)=>
 if(!w) then(
 some (.inr (.ext 7))
 ) else(
 AB (AM d1.Nodes u) λ(A:Ak)=>
 AB (Qh j A.Kind) λ(B:Bool)=>
 if(!B) then(
 some (.inr (.ext 8))
 ) else(
 AB (AN .i64 (l+1)) λ(C:Int)=>
 some (.inl C)
 )
 )
 ) else(
 some (.inr (.nrm ()))
 )
def Qd(d1:B2)(j:Int)(He:List Int):Option (Int):=
 At (iter (λ(a:Int)=>Ls d1 j He a) 0) λ(l:Unit)=>
 some 0
def LR(d1:B2)(j:Int):Option (Int ⊕ (Au Unit Int)):=
 if(decide (j<(d1.Nodes.length:Int))) then(
 AB (AM d1.Nodes j) λ(l:Ak)=>
 AB (J7 l) λ(u:List Int)=>
 AB (Qd d1 l.Kind u) λ(q:Int)=>
 if(!(q=0)) then(
 some (.inr (.ext q))
 ) else(
 AB (AN .i64 (j+1)) λ(w:Int)=>
 some (.inl w)
 )
 ) else(
 some (.inr (.nrm ()))
 )
def IY(d1:B2)(j:Int):Option (Int ⊕ (Au Unit Int)):=
 if(decide (j<(d1.Nodes.length:Int))) then(
 AB (AM d1.Nodes j) λ(l:Ak)=>
 AB (FM l) λ(e2:Int)=>
 if(!(e2=0)) then(
 some (.inr (.ext e2))
 ) else(
 AB (gd ((((j=0)&&(!(l.ID=1)))==false)&&((decide (0<j))==true)) (AN .i64 (j-1))) λ(q:Int)=>
 AB (gd ((((j=0)&&(!(l.ID=1)))==false)&&((decide (0<j))==true)) (AM d1.Nodes q)) λ(u:Ak)=>
 if(((j=0)&&(!(l.ID=1)))||((0<j)&&(l.ID≤u.ID))) then(
 some (.inr (.ext 5))
 ) else(
 AB (AN .i64 (j+1)) λ(w:Int)=>
 some (.inl w)
 )
 )
 ) else(
 some (.inr (.nrm ()))
 )
def Jb(d1:B2):Option (Int):=
 if(decide ((d1.Nodes.length:Int)=0)) then(
 some 11
 ) else(
 At (iter (λ(a:Int)=>IY d1 a) 0) λ(j:Unit)=>
 At (iter (λ(a:Int)=>LR d1 a) 0) λ(l:Unit)=>
 some 0
 )
def O3(j:Av)(l:Av):Option (Bool):=
 AB (gd (((((j.Row=l.Row)&&(j.Col=l.Col))&&(j.Text=l.Text))&&(j.Ref=l.Ref))==true) (Hi j.Attrs l.Attrs)) λ(q:Bool)=>
 some (((((j.Row=l.Row)&&(j.Col=l.Col))&&(j.Text=l.Text))&&(j.Ref=l.Ref))&&q)
def Nw(l:List Av)(q:List Av)(j:Int):Option (Int ⊕ (Au Unit Bool)):=
 if(decide (j<(l.length:Int))) then(
 AB (AM l j) λ(u:Av)=>
 AB (AM q j) λ(w:Av)=>
 AB (O3 u w) λ(A:Bool)=>
 if(!A) then(
 some (.inr (.ext false))
 ) else(
 AB (AN .i64 (j+1)) λ(B:Int)=>
 some (.inl B)
 )
 ) else(
 some (.inr (.nrm ()))
 )
def O4(j:List Av)(l:List Av):Option (Bool):=
 if(!((j.length:Int)=(l.length:Int))) then(
 some false
 ) else(
 At (iter (λ(a:Int)=>Nw j l a) 0) λ(q:Unit)=>
 some true
 )
def P6(u:List As)(w:List As)(j:Int):Option (Int ⊕ (Au Unit Bool)):=
 if(decide (j<(u.length:Int))) then(
 AB (AM u j) λ(l:As)=>
 AB (AM w j) λ(q:As)=>
 if(!((l.Row=q.Row)&&((l.Col=q.Col)&&((l.H=q.H)&&((l.W=q.W)&&true))))) then(
 some (.inr (.ext false))
 ) else(
 AB (AN .i64 (j+1)) λ(A:Int)=>
 some (.inl A)
 )
 ) else(
 some (.inr (.nrm ()))
 )
def Qs(j:List As)(l:List As):Option (Bool):=
 if(!((j.length:Int)=(l.length:Int))) then(
 some false
 ) else(
 At (iter (λ(a:Int)=>P6 j l a) 0) λ(q:Unit)=>
 some true
 )
def Qe(j:BX)(l:BX):Option (Bool):=
 AB (gd (((j.Rows=l.Rows)&&(j.Cols=l.Cols))==true) (O4 j.Cells l.Cells)) λ(q:Bool)=>
 AB (gd ((((j.Rows=l.Rows)&&(j.Cols=l.Cols))&&q)==true) (Qs j.Merges l.Merges)) λ(u:Bool)=>
 some ((((j.Rows=l.Rows)&&(j.Cols=l.Cols))&&q)&&u)
def Qm(u:List BQ)(w:List BQ)(q:Int):Option (Int ⊕ (Au Unit Bool)):=
 if(decide (q<(u.length:Int))) then(
 AB (AM u q) λ(j:BQ)=>
 AB (AM w q) λ(l:BQ)=>
 if(!((j.Clock=l.Clock)&&((j.Site=l.Site)&&((j.Kind=l.Kind)&&((j.Item=l.Item)&&((j.Parent=l.Parent)&&((j.Place=l.Place)&&((j.Name=l.Name)&&((j.Value=l.Value)&&true))))))))) then(
 some (.inr (.ext false))
 ) else(
 AB (AN .i64 (q+1)) λ(A:Int)=>
 some (.inl A)
 )
 ) else(
 some (.inr (.nrm ()))
 )
def Ph(j:List BQ)(l:List BQ):Option (Bool):=
 if(!((j.length:Int)=(l.length:Int))) then(
 some false
 ) else(
 At (iter (λ(a:Int)=>Qm j l a) 0) λ(q:Unit)=>
 some true
 )
def LG(j:Ak)(l:Ak):Option (Bool):=
 AB (gd (((j.ID=l.ID)&&(j.Kind=l.Kind))==true) (Hi j.Attrs l.Attrs)) λ(q:Bool)=>
 AB (gd ((((j.ID=l.ID)&&(j.Kind=l.Kind))&&q)==true) (L3 j.Flow l.Flow)) λ(u:Bool)=>
 AB (gd (((((j.ID=l.ID)&&(j.Kind=l.Kind))&&q)&&u)==true) (Qe j.Grid l.Grid)) λ(w:Bool)=>
 AB (gd ((((((j.ID=l.ID)&&(j.Kind=l.Kind))&&q)&&u)&&w)==true) (Ph j.Draw l.Draw)) λ(A:Bool)=>
 some ((((((j.ID=l.ID)&&(j.Kind=l.Kind))&&q)&&u)&&w)&&A)
def Xg(q:List BQ)(w:List BQ)(u:Int):Option (Int ⊕ (Au Unit Bool)):=
 if(decide (u<(q.length:Int))) then(
 AB (AM q u) λ(j:BQ)=>
 AB (AM w u) λ(l:BQ)=>
 if(!((j.Clock=l.Clock)&&((j.Site=l.Site)&&((j.Kind=l.Kind)&&((j.Item=l.Item)&&((j.Parent=l.Parent)&&((j.Place=l.Place)&&((j.Name=l.Name)&&((j.Value=l.Value)&&true))))))))) then(
 some (.inr (.ext false))
 ) else(
 AB (AN .i64 (u+1)) λ(A:Int)=>
 some (.inl A)
 )
 ) else(
 some (.inr (.nrm ()))
 )
def W2(j:List BQ)(l:List BQ):Option (Bool):=
 if(!((j.length:Int)=(l.length:Int))) then(
 some false
 ) else(
 At (iter (λ(a:Int)=>Xg j l a) 0) λ(q:Unit)=>
 some true
 )
def ew(j:Ak)(l:Ak):Option (Bool):=
 AB (gd (((j.ID=l.ID)&&(j.Kind=l.Kind))==true) (G8 j.Attrs l.Attrs)) λ(q:Bool)=>
 AB (gd ((((j.ID=l.ID)&&(j.Kind=l.Kind))&&q)==true) (Wx j.Flow l.Flow)) λ(u:Bool)=>
 AB (gd (((((j.ID=l.ID)&&(j.Kind=l.Kind))&&q)&&u)==true) (KT j.Grid l.Grid)) λ(w:Bool)=>
 AB (gd ((((((j.ID=l.ID)&&(j.Kind=l.Kind))&&q)&&u)&&w)==true) (W2 j.Draw l.Draw)) λ(A:Bool)=>
 some ((((((j.ID=l.ID)&&(j.Kind=l.Kind))&&q)&&u)&&w)&&A)
def PP(d1:B2)(l:Int)(j:Int):Option (Int ⊕ (Au Unit Int)):=
 if(decide (j<(d1.Nodes.length:Int))) then(
 AB (AM d1.Nodes j) λ(q:Ak)=>
 if(decide (q.ID=l)) then(
 some (.inr (.ext j))
 ) else(
 AB (AN .i64 (j+1)) λ(u:Int)=>
 some (.inl u)
 )
 ) else(
 some (.inr (.nrm ()))
 )
def HO(d1:B2)(j:Int):Option (Int):=
 At (iter (λ(a:Int)=>PP d1 j a) 0) λ(l:Unit)=>
 some (-1)
end
noncomputable section
def Kp(j:Int):Option (Bool):=
 some ((((j=1)||(j=3))||(j=4))||(j=12))
def PG(j:Int)(l:Int):Option (Bool):=
 AB (
 if(decide (l=1)) then(
 some (decide (l=1))
 ) else(
 if(decide (l=6)) then(
 some (decide (l=6))
 ) else(
 if(decide (l=7)) then(
 some (decide (l=7))
 ) else(
 if(decide (l=11)) then(
 some (decide (l=11))
 ) else(
 some (decide (l=12))
 )
 )
 )
 )
 ) λ(q:Bool)=>
 if q then(
 some (decide (j=0))
 ) else(
 if(decide (l=10)) then(
 some (((j=0)||(j=1))||(j=3))
 ) else(
 if(decide (l=2)) then(
 some (decide (j=1))
 ) else(
 if(decide (l=4)) then(
 some ((j=1)||(j=3))
 ) else(
 if(decide (l=5)) then(
 AB (Kp j) λ(u:Bool)=>
 some u
 ) else(
 if(decide (l=3)) then(
 some (decide (j=2))
 ) else(
 AB (
 if(decide (l=8)) then(
 some (decide (l=8))
 ) else(
 some (decide (l=9))
 )
 ) λ(w:Bool)=>
 if w then(
 some (decide (j=7))
 ) else(
 some false
 )
 )
 )
 )
 )
 )
 )
def RZ(j:Int):Option (Bool):=
 some ((j=0)||(j=7))
def OM(j:BX):Option (Bool):=
 some ((((j.Rows=0)&&(j.Cols=0))&&((j.Cells.length:Int)=0))&&((j.Merges.length:Int)=0))
def Pr(j:Int):Option (Bool):=
 some ((j=2)||(j=6))
def RD(j:Int):Option (Bool):=
 some (((j=8)||(j=9))||(j=10))
def RS(j:List UInt8):Option (Bool):=
 Rl j
def Fq(l:List UInt8)(j:(Nat)):Option ((Nat) ⊕ (Au Unit Bool)):=
 if(decide (j<l.length)) then(
 AB (gd ((decide (((GN l j).1:Int)=10))==false) (M9 (IntKind.i64.wrap ((GN l j).1:Int)))) λ(q:Bool)=>
 if((((GN l j).1:Int)=10)||(!q)) then(
 some (.inr (.ext false))
 ) else(
 some (.inl (j+(GN l j).2))
 )
 ) else(
 some (.inr (.nrm ()))
 )
def N4(j:List UInt8):Option (Bool):=
 AB (RS j) λ(l:Bool)=>
 if(!l) then(
 some false
 ) else(
 At (iter (λ(a:(Nat))=>Fq j a) 0) λ(q:Unit)=>
 some true
 )
def Pt(j:Av):Option (Bool):=
 some (((j.Text=[])&&(j.Ref=0))&&((j.Attrs.length:Int)=0))
def QP(B:List Av)(u:Int)(w:Int)(l:Bool)(q:Int):Option (Int ⊕ (Au Unit Int)):=
 if(decide (q<(B.length:Int))) then(
 AB (AM B q) λ(j:Av)=>
 AB (AN .i64 (u-1)) λ(M:Int)=>
 AB (Cq j.Row 0 M) λ(C:Bool)=>
 AB (gd ((!C)==false) (AN .i64 (w-1))) λ(O:Int)=>
 AB (gd ((!C)==false) (Cq j.Col 0 O)) λ(I:Bool)=>
 AB (gd (((!C)||(!I))==false) (Cq j.Ref 0 1073741824)) λ(T:Bool)=>
 if(((!C)||(!I))||(!T)) then(
 some (.inr (.ext 2))
 ) else(
 AB (N4 j.Text) λ(U:Bool)=>
 if(!U) then(
 some (.inr (.ext 23))
 ) else(
 AB (Iv j.Attrs false) λ(J:Int)=>
 if(!(J=0)) then(
 some (.inr (.ext J))
 ) else(
 AB (gd ((!l)==true) (Pt j)) λ(V:Bool)=>
 if((!l)&&V) then(
 some (.inr (.ext 4))
 ) else(
 AB (gd ((decide (0<q))==true) (AN .i64 (q-1))) λ(X:Int)=>
 AB (gd ((decide (0<q))==true) (AM B X)) λ(A:Av)=>
 AB (gd ((((decide (0<q))==true)&&((decide (j.Row<A.Row))==false))&&((decide (j.Row=A.Row))==true)) (AN .i64 (q-1))) λ(Y:Int)=>
 AB (gd ((((decide (0<q))==true)&&((decide (j.Row<A.Row))==false))&&((decide (j.Row=A.Row))==true)) (AM B Y)) λ(E:Av)=>
 if((0<q)&&((j.Row<A.Row)||((j.Row=A.Row)&&(j.Col≤E.Col)))) then(
 some (.inr (.ext 5))
 ) else(
 AB (AN .i64 (q+1)) λ(F:Int)=>
 some (.inl F)
 )
 )
 )
 )
 )
 ) else(
 some (.inr (.nrm ()))
 )
def MU(u:List Av)(j:Int)(l:Int)(q:Bool):Option (Int):=
 At (iter (λ(a:Int)=>QP u j l q a) 0) λ(w:Unit)=>
 some 0
def KZ(u:As)(j:Int)(l:Int):Option (Bool):=
 AB (AN .i64 (j-1)) λ(B:Int)=>
 AB (Cq u.Row 0 B) λ(q:Bool)=>
 AB (gd (q==true) (AN .i64 (l-1))) λ(C:Int)=>
 AB (gd (q==true) (Cq u.Col 0 C)) λ(w:Bool)=>
 AB (gd ((q&&w)==true) (AN .i64 (j-u.Row))) λ(E:Int)=>
 AB (gd ((q&&w)==true) (Cq u.H 1 E)) λ(A:Bool)=>
 AB (gd (((q&&w)&&A)==true) (AN .i64 (l-u.Col))) λ(F:Int)=>
 AB (gd (((q&&w)&&A)==true) (Cq u.W 1 F)) λ(I:Bool)=>
 some (((q&&w)&&A)&&I)
def ON(j:As)(l:As):Option (Bool):=
 AB (AN .i64 (j.Row+j.H)) λ(q:Int)=>
 AB (AN .i64 (l.Row+l.H)) λ(u:Int)=>
 AB (gd ((decide ((max j.Row l.Row)<(min q u)))==true) (AN .i64 (j.Col+j.W))) λ(w:Int)=>
 AB (gd ((decide ((max j.Row l.Row)<(min q u)))==true) (AN .i64 (l.Col+l.W))) λ(A:Int)=>
 some (((max j.Row l.Row)<(min q u))&&((max j.Col l.Col)<(min w A)))
def PL(u:BX)(w:Int)(A:As)(j:Int):Option (Int ⊕ (Au Unit (Int ⊕ (Au Unit Int)))):=
 if(decide (j<w)) then(
 AB (AM u.Merges j) λ(l:As)=>
 AB (ON A l) λ(B:Bool)=>
 if B then(
 some (.inr (.ext (.inr (.ext 21))))
 ) else(
 AB (AN .i64 (j+1)) λ(q:Int)=>
 some (.inl q)
 )
 ) else(
 some (.inr (.nrm ()))
 )
def Pj(q:BX)(j:Int):Option (Int ⊕ (Au Unit Int)):=
 if(decide (j<(q.Merges.length:Int))) then(
 AB (AM q.Merges j) λ(l:As)=>
 AB (KZ l q.Rows q.Cols) λ(A:Bool)=>
 if(!A) then(
 some (.inr (.ext 2))
 ) else(
 if((l.H=1)&&(l.W=1)) then(
 some (.inr (.ext 4))
 ) else(
 AB (gd ((decide (0<j))==true) (AN .i64 (j-1))) λ(B:Int)=>
 AB (gd ((decide (0<j))==true) (AM q.Merges B)) λ(u:As)=>
 AB (gd ((((decide (0<j))==true)&&((decide (l.Row<u.Row))==false))&&((decide (l.Row=u.Row))==true)) (AN .i64 (j-1))) λ(C:Int)=>
 AB (gd ((((decide (0<j))==true)&&((decide (l.Row<u.Row))==false))&&((decide (l.Row=u.Row))==true)) (AM q.Merges C)) λ(E:As)=>
 if((0<j)&&((l.Row<u.Row)||((l.Row=u.Row)&&(l.Col≤E.Col)))) then(
 some (.inr (.ext 5))
 ) else(
 At (iter (λ(a:Int)=>PL q j l a) 0) λ(F:Unit)=>
 AB (AN .i64 (j+1)) λ(w:Int)=>
 some (.inl w)
 )
 )
 )
 ) else(
 some (.inr (.nrm ()))
 )
def PC(j:BX):Option (Int):=
 AB (Cq j.Rows 0 2147483647) λ(l:Bool)=>
 AB (gd ((!l)==false) (Cq j.Cols 0 2147483647)) λ(u:Bool)=>
 if((!l)||(!u)) then(
 some 2
 ) else(
 AB (MU j.Cells j.Rows j.Cols false) λ(q:Int)=>
 if(!(q=0)) then(
 some q
 ) else(
 At (iter (λ(a:Int)=>Pj j a) 0) λ(w:Unit)=>
 some 0
 )
 )
def Nr(j:Int)(u:List Av)(l:Int):Option (Int ⊕ (Au Unit Int)):=
 if(decide (l<(u.length:Int))) then(
 AB (gd ((decide (j=2))==true) (AM u l)) λ(q:Av)=>
 AB (gd ((((j=2)&&((!(q.Text=[]))||(0<(q.Attrs.length:Int))))==false)&&((decide (j=6))==true)) (AM u l)) λ(w:Av)=>
 if(((j=2)&&((!(q.Text=[]))||(0<(q.Attrs.length:Int))))||((j=6)&&(!(w.Ref=0)))) then(
 some (.inr (.ext 4))
 ) else(
 AB (AN .i64 (l+1)) λ(A:Int)=>
 some (.inl A)
 )
 ) else(
 some (.inr (.nrm ()))
 )
def PF(j:Int)(l:List Av):Option (Int):=
 At (iter (λ(a:Int)=>Nr j l a) 0) λ(q:Unit)=>
 some 0
def LC(q:List UInt8)(l:Int):Option (Int ⊕ (Au Unit Bool)):=
 if(decide (l<(q.length:Int))) then(
 AB (AM q l) λ(j:UInt8)=>
 if(((j.toNat:Int)<97)||(122<(j.toNat:Int))) then(
 some (.inr (.ext false))
 ) else(
 AB (AN .i64 (l+1)) λ(u:Int)=>
 some (.inl u)
 )
 ) else(
 some (.inr (.nrm ()))
 )
def OR(j:List UInt8):Option (Bool):=
 At (iter (λ(a:Int)=>LC j a) 0) λ(u:Unit)=>
 AB (gd (((1≤(j.length:Int))&&((j.length:Int)≤200))==true) (AN .i64 ((j.length:Int)-1))) λ(q:Int)=>
 AB (gd (((1≤(j.length:Int))&&((j.length:Int)≤200))==true) (AM j q)) λ(l:UInt8)=>
 some (((1≤(j.length:Int))&&((j.length:Int)≤200))&&(!((l.toNat:Int)=97)))
def MC(j:BQ)(l:BQ):Option (Bool):=
 some ((j.Clock<l.Clock)||((j.Clock=l.Clock)&&(j.Site<l.Site)))
def Pi(q:List BQ)(l:Int):Option (Int ⊕ (Au Unit Int)):=
 if(decide (l<(q.length:Int))) then(
 AB (AM q l) λ(j:BQ)=>
 if((!(j.Kind=0))&&(!(j.Kind=1))) then(
 some (.inr (.ext 8))
 ) else(
 AB (Cq j.Clock 1 1073741824) λ(u:Bool)=>
 AB (gd ((!u)==false) (Cq j.Site 0 1000)) λ(w:Bool)=>
 AB (gd (((!u)||(!w))==false) (Cq j.Item 1 1073741824)) λ(A:Bool)=>
 if(((!u)||(!w))||(!A)) then(
 some (.inr (.ext 2))
 ) else(
 At (
 if(decide (j.Kind=0)) then(
 if((!(j.Name=[]))||(!(j.Value=[]))) then(
 some (.ext (.inr (.ext 4)))
 ) else(
 AB (Cq j.Parent (-1) 1073741824) λ(B:Bool)=>
 if(!B) then(
 some (.ext (.inr (.ext 2)))
 ) else(
 AB (OR j.Place) λ(C:Bool)=>
 if(!C) then(
 some (.ext (.inr (.ext 9)))
 ) else(
 some (.nrm ())
 )
 )
 )
 ) else(
 if((!(j.Parent=0))||(!(j.Place=[]))) then(
 some (.ext (.inr (.ext 4)))
 ) else(
 AB (MA j.Name) λ(E:Bool)=>
 if(!E) then(
 some (.ext (.inr (.ext 9)))
 ) else(
 AB (gd ((!(j.Value=[]))==true) (J9 j.Value)) λ(F:Bool)=>
 if((!(j.Value=[]))&&(!F)) then(
 some (.ext (.inr (.ext 23)))
 ) else(
 some (.nrm ())
 )
 )
 )
 )
 ) λ(T:Unit)=>
 AB (gd ((decide (0<l))==true) (AN .i64 (l-1))) λ(I:Int)=>
 AB (gd ((decide (0<l))==true) (AM q I)) λ(J:BQ)=>
 AB (gd ((decide (0<l))==true) (MC J j)) λ(M:Bool)=>
 if((0<l)&&(!M)) then(
 some (.inr (.ext 5))
 ) else(
 AB (AN .i64 (l+1)) λ(O:Int)=>
 some (.inl O)
 )
 )
 )
 ) else(
 some (.inr (.nrm ()))
 )
def Lw(j:List BQ):Option (Int):=
 At (iter (λ(a:Int)=>Pi j a) 0) λ(l:Unit)=>
 some 0
def Mf(n1:Ak):Option (Int):=
 AB (Cq n1.ID 1 1073741824) λ(E:Bool)=>
 if(!E) then(
 some 2
 ) else(
 AB (Cq n1.Kind 0 12) λ(F:Bool)=>
 if(((!F)||((n1.ID=1)&&(!(n1.Kind=0))))||((!(n1.ID=1))&&(n1.Kind=0))) then(
 some 8
 ) else(
 AB (Iv n1.Attrs false) λ(B:Int)=>
 if(!(B=0)) then(
 some B
 ) else(
 AB (Kp n1.Kind) λ(j:Bool)=>
 AB (gd (j==false) (RZ n1.Kind)) λ(l:Bool)=>
 AB (gd (((0<(n1.Flow.length:Int))&&(!(j||l)))==false) (OM n1.Grid)) λ(q:Bool)=>
 AB (gd ((((0<(n1.Flow.length:Int))&&(!(j||l)))==false)&&((!q)==true)) (Pr n1.Kind)) λ(C:Bool)=>
 AB (gd (((((0<(n1.Flow.length:Int))&&(!(j||l)))||((!q)&&(!C)))==false)&&((decide (0<(n1.Draw.length:Int)))==true)) (RD n1.Kind)) λ(I:Bool)=>
 if((((0<(n1.Flow.length:Int))&&(!(j||l)))||((!q)&&(!C)))||((0<(n1.Draw.length:Int))&&(!I))) then(
 some 4
 ) else(
 if(j||l) then(
 AB (JD n1.Flow j) λ(J:Int)=>
 some J
 ) else(
 AB (Pr n1.Kind) λ(u:Bool)=>
 if u then(
 AB (PC n1.Grid) λ(e2:Int)=>
 if(!(e2=0)) then(
 some e2
 ) else(
 AB (PF n1.Kind n1.Grid.Cells) λ(w:Int)=>
 some w
 )
 ) else(
 AB (Lw n1.Draw) λ(A:Int)=>
 some A
 )
 )
 )
 )
 )
 )
def Si(n1:Ak)(u:Int)(j:List Int):Option ((Int × (List Int)) ⊕ (List Int)):=
 if(decide (u<(n1.Grid.Cells.length:Int))) then(
 AB (
 AB (AM n1.Grid.Cells u) λ(w:Av)=>
 if(!(w.Ref=0)) then(
 AB (app 8 j [w.Ref]) λ(l:List Int)=>
 some l
 ) else(
 some j
 )
 ) λ(q:List Int)=>
 AB (AN .i64 (u+1)) λ(A:Int)=>
 some (.inl (A,q))
 ) else(
 some (.inr j)
 )
def TI(n1:Ak)(w:Int)(j:List Int):Option ((Int × (List Int)) ⊕ (List Int)):=
 if(decide (w<(n1.Flow.length:Int))) then(
 AB (
 AB (AM n1.Flow w) λ(u:AD)=>
 if(!(u.Ref=0)) then(
 AB (app 8 j [u.Ref]) λ(l:List Int)=>
 some l
 ) else(
 some j
 )
 ) λ(q:List Int)=>
 AB (AN .i64 (w+1)) λ(A:Int)=>
 some (.inl (A,q))
 ) else(
 some (.inr j)
 )
def Ov(n1:Ak):Option ((List Int)):=
 AB (iter (λ(a:Int × (List Int))=>TI n1 a.1 a.2) (0,[])) λ(j:List Int)=>
 AB (iter (λ(a:Int × (List Int))=>Si n1 a.1 a.2) (0,j)) λ(l:List Int)=>
 some l
def Nb(d1:B2)(j:Int)(He:List Int)(l:Int):Option (Int ⊕ (Au Unit Int)):=
 if(decide (l<(He.length:Int))) then(
 AB (AM He l) λ(u:Int)=>
 AB (HO d1 u) λ(q:Int)=>
 if(decide (q<0)) then(
 some (.inr (.ext 7))
 ) else(
 AB (AM d1.Nodes q) λ(w:Ak)=>
 AB (PG j w.Kind) λ(A:Bool)=>
 if(!A) then(
 some (.inr (.ext 8))
 ) else(
 AB (AN .i64 (l+1)) λ(B:Int)=>
 some (.inl B)
 )
 )
 ) else(
 some (.inr (.nrm ()))
 )
def QM(d1:B2)(j:Int)(He:List Int):Option (Int):=
 At (iter (λ(a:Int)=>Nb d1 j He a) 0) λ(l:Unit)=>
 some 0
def Kh(d1:B2)(j:Int):Option (Int ⊕ (Au Unit Int)):=
 if(decide (j<(d1.Nodes.length:Int))) then(
 AB (AM d1.Nodes j) λ(l:Ak)=>
 AB (Ov l) λ(u:List Int)=>
 AB (QM d1 l.Kind u) λ(q:Int)=>
 if(!(q=0)) then(
 some (.inr (.ext q))
 ) else(
 AB (AN .i64 (j+1)) λ(w:Int)=>
 some (.inl w)
 )
 ) else(
 some (.inr (.nrm ()))
 )
def MV(d1:B2)(j:Int):Option (Int ⊕ (Au Unit Int)):=
 if(decide (j<(d1.Nodes.length:Int))) then(
 AB (AM d1.Nodes j) λ(A:Ak)=>
 AB (Mf A) λ(e2:Int)=>
 if(!(e2=0)) then(
 some (.inr (.ext e2))
 ) else(
 AB (gd ((decide (j=0))==true) (AM d1.Nodes 0)) λ(l:Ak)=>
 AB (gd ((((j=0)&&(!(l.ID=1)))==false)&&((decide (0<j))==true)) (AN .i64 (j-1))) λ(q:Int)=>
 AB (gd ((((j=0)&&(!(l.ID=1)))==false)&&((decide (0<j))==true)) (AM d1.Nodes q)) λ(u:Ak)=>
 if(((j=0)&&(!(l.ID=1)))||((0<j)&&(A.ID≤u.ID))) then(
 some (.inr (.ext 5))
 ) else(
 AB (AN .i64 (j+1)) λ(w:Int)=>
 some (.inl w)
 )
 )
 ) else(
 some (.inr (.nrm ()))
 )
def Nt(d1:B2):Option (Int):=
 if(decide ((d1.Nodes.length:Int)=0)) then(
 some 11
 ) else(
 At (iter (λ(a:Int)=>MV d1 a) 0) λ(j:Unit)=>
 At (iter (λ(a:Int)=>Kh d1 a) 0) λ(l:Unit)=>
 some 0
 )
end
noncomputable section
structure BW where
 Node:Int
 From:Int
 To:Int
deriving DecidableEq
instance:Inhabited BW:=⟨⟨0,0,0⟩⟩
@[reducible] def BW.row(x:BW):List RV:=[.int .i64 x.Node,.int .i64 x.From,.int .i64 x.To]
structure Cu where
 node:Ak
 shown:List Int
 author:List UInt8
deriving DecidableEq
instance:Inhabited Cu:=⟨⟨(Ak.mk 0 0 [] [] (BX.mk 0 0 [] []) []),[],[]⟩⟩
def Yi:Option (Bool):=
 some true
def bO:Option (Bool):=
 some true
def Nl:Option (Bool):=
 some true
def Pz(d1:B2)(j:Int):Option (Int):=
 CR (MP d1 j) λ(l:Int) (q:Bool)=>
 if q then(
 some l
 ) else(
 some (-1)
 )
def NL(d1:B2)(l:BW)(j:List UInt8):Option (Cu × Int):=
 AB (Jb d1) λ(u:Int)=>
 if(!(u=0)) then(
 some ((Cu.mk (Ak.mk 0 0 [] [] (BX.mk 0 0 [] []) []) [] []),u)
 ) else(
 AB (Pz d1 l.Node) λ(w:Int)=>
 if(decide (w<0)) then(
 some ((Cu.mk (Ak.mk 0 0 [] [] (BX.mk 0 0 [] []) []) [] []),7)
 ) else(
 AB (AM d1.Nodes w) λ(q:Ak)=>
 AB (Hn q.Kind) λ(B:Bool)=>
 if(!B) then(
 some ((Cu.mk (Ak.mk 0 0 [] [] (BX.mk 0 0 [] []) []) [] []),8)
 ) else(
 AB (Po q.Flow 0) λ(A:List Int)=>
 if(((l.From<0)||(l.To<l.From))||((A.length:Int)≤l.To)) then(
 some ((Cu.mk (Ak.mk 0 0 [] [] (BX.mk 0 0 [] []) []) [] []),2)
 ) else(
 AB (gd ((!(j=[]))==true) (JS j)) λ(C:Bool)=>
 if((!(j=[]))&&(!C)) then(
 some ((Cu.mk (Ak.mk 0 0 [] [] (BX.mk 0 0 [] []) []) [] []),23)
 ) else(
 some ((Cu.mk q A j),0)
 )
 )
 )
 )
 )
def Ms(d1:B2)(j:BW):Option (Int):=
 AB (Nt d1) λ(l:Int)=>
 if(!(l=0)) then(
 some l
 ) else(
 AB (HO d1 j.Node) λ(q:Int)=>
 if(decide (q<0)) then(
 some 7
 ) else(
 AB (AM d1.Nodes q) λ(u:Ak)=>
 AB (Kp u.Kind) λ(w:Bool)=>
 if(!w) then(
 some 8
 ) else(
 AB (I1 u.Flow 0) λ(A:List Int)=>
 if(((j.From<0)||(j.To<j.From))||((A.length:Int)≤j.To)) then(
 some 2
 ) else(
 some 0
 )
 )
 )
 )
end
noncomputable section
end
noncomputable section
def Lq(j:Af)(C:BU)(B:BU):Option ((Af × BU × BU) ⊕ Af):=
 AB (GF C) λ(E:Int)=>
 AB (
 if((decide (0≤E))==false) then(
 AB (GF B) λ(I:Int)=>
 some ((0≤E)||(0≤I))
 ) else(
 some ((0≤E)||false)
 )
 ) λ(Z:Bool)=>
 if Z then(
 if(decide (E=2)) then(
 AB (GR C) λ(r9:Int)=>
 CR (Fj C r9) λ(J:AI) (w6:BU)=>
 AB (AN .i64 (j.cut+J.N)) λ(x2:Int)=>
 some (.inl ((Af.mk j.out j.add x2),w6,B))
 ) else(
 AB (GF B) λ(M:Int)=>
 if(decide (M=1)) then(
 AB (GR B) λ(O:Int)=>
 CR (Fj B O) λ(T:AI) (w7:BU)=>
 AB (HK j T.Elems) λ(w8:Af)=>
 some (.inl (w8,C,w7))
 ) else(
 AB (GR C) λ(l:Int)=>
 AB (GR B) λ(q:Int)=>
 CR (Fj C (min l q)) λ(u:AI) (F:BU)=>
 CR (Fj B (min l q)) λ(w:AI) (A:BU)=>
 if((u.Kind=0)&&(w.Kind=0)) then(
 AB (Pk u.Attrs w.Attrs) λ(U:List AC)=>
 AB (GE j (min l q) U) λ(V:Af)=>
 some (.inl (V,F,A))
 ) else(
 if(decide (u.Kind=0)) then(
 AB (AN .i64 (j.cut+(min l q))) λ(x3:Int)=>
 some (.inl ((Af.mk j.out j.add x3),F,A))
 ) else(
 if(decide (w.Kind=0)) then(
 AB (P9 u.Elems w.Attrs) λ(X:List AD)=>
 AB (HK j X) λ(Y:Af)=>
 some (.inl (Y,F,A))
 ) else(
 some (.inl (j,F,A))
 )
 )
 )
 )
 )
 ) else(
 some (.inr j)
 )
def MW(j:List AI)(l:List AI):Option ((List AI) × Int):=
 AB (IR j) λ(q:Int)=>
 if(!(q=0)) then(
 some ([],q)
 ) else(
 AB (IR l) λ(e2:Int)=>
 if(!(e2=0)) then(
 some ([],e2)
 ) else(
 CR (Jy j) λ(E:Int) (u:Int)=>
 CR (Jy l) λ(w:Int) (F:Int)=>
 if(!(w=u)) then(
 some ([],14)
 ) else(
 AB (iter (λ(a:Af × BU × BU)=>Lq a.1 a.2.1 a.2.2) ((Af.mk [] [] 0),(BU.mk j 0),(BU.mk l 0))) λ(A:Af)=>
 HH (IJ A) λ(B:List AI) (C:Int) (I:Af)=>
 some (B,C)
 )
 )
 )
end
noncomputable section
def Mu(f1:List AD)(d1:List AI):Option ((List AD)):=
 AB (Nk d1) λ(j:Bh)=>
 AB (NI f1 j) λ(l:List AD)=>
 some l
end
noncomputable section
def PH(j:List UInt8):Option (Bool):=
 AB (gd ((((j=[108,105,110,107])||(j=[108,111,99,107]))==false)&&((decide (7<(j.length:Int)))==true)) (Bx j 0 7)) λ(l:List UInt8)=>
 AB (gd (((((j=[108,105,110,107])||(j=[108,111,99,107]))||((7<(j.length:Int))&&(l=[114,101,109,97,114,107,46])))==false)&&((decide (5<(j.length:Int)))==true)) (Bx j 0 5)) λ(q:List UInt8)=>
 some ((((j=[108,105,110,107])||(j=[108,111,99,107]))||((7<(j.length:Int))&&(l=[114,101,109,97,114,107,46])))||((5<(j.length:Int))&&(q=[109,97,114,107,46])))
def KE(f1:List AD)(j:List UInt8)(q:List Bool)(w:Int)(l:List AI):Option ((Int × (List AI)) ⊕ (List AI)):=
 if(decide (w<(f1.length:Int))) then(
 AB (AM f1 w) λ(B:AD)=>
 AB (
 AB (AM q w) λ(C:Bool)=>
 if(!C) then(
 some (AI.mk 0 1 [] [])
 ) else(
 AB (gd ((decide (j=[]))==false) (It B.Attrs [97,100,100])) λ(E:List UInt8)=>
 if((j=[])||(E=j)) then(
 some (AI.mk 2 1 [] [])
 ) else(
 some (AI.mk 0 1 [(AC.mk [99,117,116] j)] [])
 )
 )
 ) λ(A:AI)=>
 AB (app 64 l [(AI.mk A.Kind A.N A.Attrs [])]) λ(u:List AI)=>
 AB (AN .i64 (w+1)) λ(F:Int)=>
 some (.inl (F,u))
 ) else(
 some (.inr l)
 )
def KG(j:List Int)(u:Int)(l:List Bool):Option ((Int × (List Bool)) ⊕ (List Bool)):=
 if(decide (u<(j.length:Int))) then(
 AB (AM j u) λ(q:Int)=>
 AB (AM l q) λ(A:Bool)=>
 AB (AN .i64 (u+1)) λ(w:Int)=>
 some (.inl (w,(l.set q.toNat true)))
 ) else(
 some (.inr l)
 )
def QQ(f1:List AD)(j:List Int)(l:List UInt8):Option ((List AI)):=
 AB (mk 1 (f1.length:Int) false) λ(q:List Bool)=>
 AB (iter (λ(a:Int × (List Bool))=>KG j a.1 a.2) (0,q)) λ(u:List Bool)=>
 AB (iter (λ(a:Int × (List AI))=>KE f1 l u a.1 a.2) (0,[])) λ(w:List AI)=>
 CR (Ir w) λ(A:List AI) (B:Int)=>
 some A
def Nz(j:List Int)(l:Int):Option (Int):=
 if(decide (l=0)) then(
 some 0
 ) else(
 AB (AN .i64 (l-1)) λ(q:Int)=>
 AB (AM j q) λ(u:Int)=>
 AB (AN .i64 (u+1)) λ(w:Int)=>
 some w
 )
def JP(f1:List AD)(l:Int)(j:List AD):Option ((Int × (List AD)) ⊕ (List AD)):=
 if(decide (l<(f1.length:Int))) then(
 AB (AM f1 l) λ(q:AD)=>
 AB (app 32 [] q.Attrs) λ(u:List AC)=>
 AB (AM j l) λ(A:AD)=>
 AB (AN .i64 (l+1)) λ(w:Int)=>
 some (.inl (w,(j.set l.toNat (AD.mk q.Char q.Ref u))))
 ) else(
 some (.inr j)
 )
def QH(f1:List AD):Option ((List AD)):=
 AB (mk 40 (f1.length:Int) (AD.mk 0 0 [])) λ(j:List AD)=>
 AB (iter (λ(a:Int × (List AD))=>JP f1 a.1 a.2) (0,j)) λ(l:List AD)=>
 some l
def LF(j:List UInt8)(w:List AD)(l:Int)(q:List AD):Option ((Int × (List AD)) ⊕ (List AD)):=
 if(decide (l<(w.length:Int))) then(
 AB (AM q l) λ(u:AD)=>
 AB (Mc u.Attrs [(AC.mk [97,100,100] j),(AC.mk [99,117,116] [])]) λ(A:List AC)=>
 AB (AN .i64 (l+1)) λ(B:Int)=>
 some (.inl (B,(q.set l.toNat (AD.mk u.Char u.Ref A))))
 ) else(
 some (.inr q)
 )
def PS(f1:List AD)(q:Int)(l:List AD)(j:List UInt8):Option ((List AI)):=
 AB (QH l) λ(u:List AD)=>
 AB (iter (λ(a:Int × (List AD))=>LF j u a.1 a.2) (0,u)) λ(w:List AD)=>
 AB (AN .i64 ((f1.length:Int)-q)) λ(A:Int)=>
 CR (Ir [(AI.mk 0 q [] []),(AI.mk 1 0 [] w),(AI.mk 0 A [] [])]) λ(B:List AI) (C:Int)=>
 some B
def Qp(q:Cu)(u:BW)(j:List AD):Option ((List BS) × BW × Int):=
 AB (Bx q.shown u.From u.To) λ(F:List Int)=>
 AB (QQ q.node.Flow F q.author) λ(l:List AI)=>
 AB (Nz q.shown u.From) λ(w:Int)=>
 AB (PS q.node.Flow w j q.author) λ(A:List AI)=>
 HH (MY A l) λ(I:List AI) (M:List AI) (B:Int)=>
 if(!(B=0)) then(
 some ([],(BW.mk 0 0 0),B)
 ) else(
 CR (MW l I) λ(J:List AI) (C:Int)=>
 if(!(C=0)) then(
 some ([],(BW.mk 0 0 0),C)
 ) else(
 AB (AN .i64 (u.From+(j.length:Int))) λ(E:Int)=>
 some ([(BS.mk 2 u.Node (Ak.mk 0 0 [] [] (BX.mk 0 0 [] []) []) [] J (Ez.mk [] [] [] [] []) [])],(BW.mk u.Node E E),0)
 )
 )
def JB(d1:B2)(q:BW)(j:List UInt8):Option (Int):=
 AB (Ms d1 q) λ(l:Int)=>
 if(!(l=0)) then(
 some l
 ) else(
 AB (gd ((!(j=[]))==true) (J9 j)) λ(u:Bool)=>
 if((!(j=[]))&&(!u)) then(
 some 23
 ) else(
 some 0
 )
 )
def Ij(j:List AD)(l:List UInt8)(w:Int)(q:List AD):Option ((Int × (List AD)) ⊕ (Au Unit (List AD))):=
 if(decide (w<(j.length:Int))) then(
 AB (AM j w) λ(A:AD)=>
 AB (H4 A.Attrs [(AC.mk [97,100,100] l),(AC.mk [99,117,116] [])]) λ(B:List AC)=>
 AB (app 40 q [(AD.mk A.Char A.Ref B)]) λ(u:List AD)=>
 AB (AN .i64 (w+1)) λ(C:Int)=>
 some (.inl (C,u))
 ) else(
 some (.inr (.ext q))
 )
def Jh(f1:List AD)(B:Int)(M:Int)(w:List AD)(j:List UInt8)(l:List Int)(F:Int)(A:Int)(C:Int)(q:List AD):Option ((Int × Int × (List AD)) ⊕ (List AD)):=
 if(decide (C≤(f1.length:Int))) then(
 E1 (
 AB (
 if(decide (C=F)) then(
 At (iter (λ(a:Int × (List AD))=>Ij w j a.1 a.2) (0,q)) λ(u3:Unit)=>
 none
 ) else(
 some q
 )
 ) λ(u:List AD)=>
 if(decide (C=(f1.length:Int))) then(
 some (.ext (.inr u))
 ) else(
 AB (AM f1 C) λ(E:AD)=>
 AB (gd ((decide (A<(l.length:Int)))==true) (AM l A)) λ(T:Int)=>
 E1 (
 if((A<(l.length:Int))&&(T=C)) then(
 At (
 if((B≤A)&&(A<M)) then(
 AB (gd ((decide (j=[]))==false) (Ko E.Attrs [97,100,100])) λ(U:List UInt8)=>
 if((j=[])||(U=j)) then(
 AB (AN .i64 (A+1)) λ(V:Int)=>
 some (.ext (.ext (.nrm (V,u))))
 ) else(
 AB (H4 E.Attrs [(AC.mk [99,117,116] j)]) λ(X:List AC)=>
 some (.nrm (AD.mk E.Char E.Ref X))
 )
 ) else(
 some (.nrm E)
 )
 ) λ(Y:AD)=>
 AB (AN .i64 (A+1)) λ(Z:Int)=>
 some (.nrm (Z,Y))
 ) else(
 some (.nrm (A,E))
 )
 ) λ(k5:Int) (x3:AD)=>
 AB (app 40 u [x3]) λ(I:List AD)=>
 some (.nrm (k5,I))
 )
 ) λ(k4:Int) (J:List AD)=>
 AB (AN .i64 (C+1)) λ(O:Int)=>
 some (.inl (k4,O,J))
 ) else(
 some (.inr q)
 )
def Og(f1:List AD)(j:Int)(C:Int)(u:List AD)(q:List UInt8):Option ((List AD)):=
 AB (I1 f1 0) λ(l:List Int)=>
 AB (
 if(decide (0<j)) then(
 AB (AN .i64 (j-1)) λ(E:Int)=>
 AB (AM l E) λ(F:Int)=>
 AB (AN .i64 (F+1)) λ(w:Int)=>
 some w
 ) else(
 some 0
 )
 ) λ(A:Int)=>
 AB (iter (λ(a:Int × Int × (List AD))=>Jh f1 j C u q l A a.1 a.2.1 a.2.2) (0,0,[])) λ(B:List AD)=>
 some B
def V4(e1:Ez)(j:Int):Option (Int ⊕ (Au Unit Int)):=
 if(decide (j<(e1.Merge.length:Int))) then(
 AB (AM e1.Merge j) λ(l:As)=>
 AB (KZ l 2147483647 2147483647) λ(q:Bool)=>
 if(!q) then(
 some (.inr (.ext 2))
 ) else(
 if((l.H=1)&&(l.W=1)) then(
 some (.inr (.ext 4))
 ) else(
 AB (AN .i64 (j+1)) λ(u:Int)=>
 some (.inl u)
 )
 )
 ) else(
 some (.inr (.nrm ()))
 )
def XK(e1:Ez)(j:Int):Option (Int ⊕ (Au Unit Int)):=
 if(decide (j<(e1.Split.length:Int))) then(
 AB (AM e1.Split j) λ(q:As)=>
 AB (KZ q 2147483647 2147483647) λ(u:Bool)=>
 if(!u) then(
 some (.inr (.ext 2))
 ) else(
 AB (AN .i64 (j+1)) λ(l:Int)=>
 some (.inl l)
 )
 ) else(
 some (.inr (.nrm ()))
 )
def Vm(e1:Ez):Option (Int):=
 AB (Q8 e1.Rows) λ(j:Int)=>
 if(!(j=0)) then(
 some j
 ) else(
 AB (Q8 e1.Cols) λ(f2:Int)=>
 if(!(f2=0)) then(
 some f2
 ) else(
 AB (MU e1.Cells 2147483647 2147483647 true) λ(l:Int)=>
 if(!(l=0)) then(
 some l
 ) else(
 At (iter (λ(a:Int)=>XK e1 a) 0) λ(q:Unit)=>
 At (iter (λ(a:Int)=>V4 e1 a) 0) λ(u:Unit)=>
 some 0
 )
 )
 )
def KA(j:BS)(q:Bool)(u:Int)(l:Int):Option (Int ⊕ (Au Unit Int)):=
 if(decide (l<5)) then(
 AB (AM ([(!q),(decide (0<(j.Attrs.length:Int))),(decide (0<(j.Steps.length:Int))),(decide (0<u)),(decide (0<(j.Draw.length:Int)))]:List Bool) l) λ(w:Bool)=>
 if(w&&(!(l=j.Kind))) then(
 some (.inr (.ext 4))
 ) else(
 AB (AN .i64 (l+1)) λ(A:Int)=>
 some (.inl A)
 )
 ) else(
 some (.inr (.nrm ()))
 )
def PQ(j:BS):Option (Int):=
 AB (Cq j.Kind 0 4) λ(l:Bool)=>
 if(!l) then(
 some 8
 ) else(
 AB (LG j.New (Ak.mk 0 0 [] [] (BX.mk 0 0 [] []) [])) λ(q:Bool)=>
 AB (AN .i64 ((j.Grid.Rows.length:Int)+(j.Grid.Cols.length:Int))) λ(u:Int)=>
 AB (AN .i64 (u+(j.Grid.Cells.length:Int))) λ(w:Int)=>
 AB (AN .i64 (w+(j.Grid.Split.length:Int))) λ(A:Int)=>
 AB (AN .i64 (A+(j.Grid.Merge.length:Int))) λ(B:Int)=>
 At (iter (λ(a:Int)=>KA j q B a) 0) λ(O:Unit)=>
 if(decide (j.Kind=0)) then(
 if(!(j.Node=0)) then(
 some 4
 ) else(
 AB (Mf j.New) λ(C:Int)=>
 some C
 )
 ) else(
 AB (Cq j.Node 1 1073741824) λ(E:Bool)=>
 if(!E) then(
 some 2
 ) else(
 if(decide (j.Kind=1)) then(
 AB (Iv j.Attrs true) λ(F:Int)=>
 some F
 ) else(
 if(decide (j.Kind=2)) then(
 AB (L8 j.Steps) λ(I:Int)=>
 some I
 ) else(
 if(decide (j.Kind=3)) then(
 AB (Vm j.Grid) λ(J:Int)=>
 some J
 ) else(
 AB (Lw j.Draw) λ(M:Int)=>
 some M
 )
 )
 )
 )
 )
 )
def Ps(d1:B2)(l:List BS)(WS:Int)(j:List AD):Option (Bool):=
 AB (gd ((!((l.length:Int)=1))==false) (AM l 0)) λ(B:BS)=>
 AB (gd (((!((l.length:Int)=1))||(!(B.Kind=2)))==false) (AM l 0)) λ(C:BS)=>
 if(((!((l.length:Int)=1))||(!(B.Kind=2)))||(!(C.Node=WS))) then(
 some false
 ) else(
 AB (HO d1 WS) λ(E:Int)=>
 AB (AM d1.Nodes E) λ(q:Ak)=>
 AB (AM l 0) λ(w:BS)=>
 AB (PQ w) λ(u:Int)=>
 AB (gd ((decide (u=0))==true) (ND w.Steps)) λ(A:Int)=>
 AB (
 if(((u=0)&&(A=(q.Flow.length:Int)))==true) then(
 AB (Mu q.Flow w.Steps) λ(F:List AD)=>
 AB (L3 F j) λ(I:Bool)=>
 some (((u=0)&&(A=(q.Flow.length:Int)))&&I)
 ) else(
 some (((u=0)&&(A=(q.Flow.length:Int)))&&false)
 )
 ) λ(J:Bool)=>
 some J
 )
end
noncomputable section
def I5(f1:List AD)(l:Int)(j:List AD):Option ((Int × (List AD)) ⊕ (List AD)):=
 if(decide (l<(f1.length:Int))) then(
 AB (AM f1 l) λ(q:AD)=>
 AB (app 32 [] q.Attrs) λ(u:List AC)=>
 AB (AM j l) λ(A:AD)=>
 AB (AN .i64 (l+1)) λ(w:Int)=>
 some (.inl (w,(j.set l.toNat (AD.mk q.Char q.Ref u))))
 ) else(
 some (.inr j)
 )
def No(f1:List AD):Option ((List AD)):=
 AB (mk 40 (f1.length:Int) (AD.mk 0 0 [])) λ(j:List AD)=>
 AB (iter (λ(a:Int × (List AD))=>I5 f1 a.1 a.2) (0,j)) λ(l:List AD)=>
 some l
def Lr(j:AC):Option (Bool):=
 AB (gd (((((j.Name=[97,100,100])||(j.Name=[99,117,116]))||(j.Name=[104,105,100,100,101,110]))==false)&&((!(j.Name=[108,105,110,107]))==true)) (PH j.Name)) λ(l:Bool)=>
 some ((((j.Name=[97,100,100])||(j.Name=[99,117,116]))||(j.Name=[104,105,100,100,101,110]))||((!(j.Name=[108,105,110,107]))&&l))
def Lx(l:List AC)(j:Int):Option (Int ⊕ (Au Unit Int)):=
 if(decide (j<(l.length:Int))) then(
 AB (AM l j) λ(q:AC)=>
 AB (Lr q) λ(u:Bool)=>
 if u then(
 some (.inr (.ext j))
 ) else(
 AB (AN .i64 (j+1)) λ(w:Int)=>
 some (.inl w)
 )
 ) else(
 some (.inr (.nrm ()))
 )
def MF(j:List AC):Option (Int):=
 At (iter (λ(a:Int)=>Lx j a) 0) λ(l:Unit)=>
 some (-1)
def KI(l:Int)(q:Int)(j:List AC):Option ((Int × Int × (List AC)) ⊕ (Int × (List AC))):=
 if(decide (q<(j.length:Int))) then(
 CR (
 AB (AM j q) λ(A:AC)=>
 AB (Lr A) λ(B:Bool)=>
 if(!B) then(
 AB (AM j l) λ(F:AC)=>
 AB (AN .i64 (l+1)) λ(u:Int)=>
 some (u,(j.set l.toNat A))
 ) else(
 some (l,j)
 )
 ) λ(w:Int) (C:List AC)=>
 AB (AN .i64 (q+1)) λ(E:Int)=>
 some (.inl (w,E,C))
 ) else(
 some (.inr (l,j))
 )
def O2(j:List AC):Option ((List AC)):=
 AB (MF j) λ(l:Int)=>
 if(decide (l=(-1))) then(
 some j
 ) else(
 AB (AN .i64 (l+1)) λ(u:Int)=>
 CR (iter (λ(a:Int × Int × (List AC))=>KI a.1 a.2.1 a.2.2) (l,u,j)) λ(q:Int) (w:List AC)=>
 AB (Nn w q (AC.mk [] [])) λ(A:List AC)=>
 AB (Bx A 0 q) λ(B:List AC)=>
 some B
 )
def HL(u:List AD)(j:Int)(q:List AD):Option ((Int × (List AD)) ⊕ (Au (List AD) ((List BS) × BW × Int))):=
 if(decide (j<(u.length:Int))) then(
 AB (AM q j) λ(l:AD)=>
 if(!(l.Ref=0)) then(
 some (.inr (.ext ([],(BW.mk 0 0 0),8)))
 ) else(
 AB (O2 l.Attrs) λ(w:List AC)=>
 AB (AN .i64 (j+1)) λ(A:Int)=>
 some (.inl (A,(q.set j.toNat (AD.mk l.Char l.Ref w))))
 )
 ) else(
 some (.inr (.nrm q))
 )
def G4(d1:B2)(q:BW)(j:List AD)(l:List UInt8):Option ((List BS) × BW × Int):=
 CR (NL d1 q l) λ(B:Cu) (u:Int)=>
 if(!(u=0)) then(
 some ([],(BW.mk 0 0 0),u)
 ) else(
 AB (MI j) λ(w:Int)=>
 if(!(w=0)) then(
 some ([],(BW.mk 0 0 0),w)
 ) else(
 if(decide (20000<(j.length:Int))) then(
 some ([],(BW.mk 0 0 0),3)
 ) else(
 AB (No j) λ(A:List AD)=>
 At (iter (λ(a:Int × (List AD))=>HL A a.1 a.2) (0,A)) λ(C:List AD)=>
 HH (Qp B q C) λ(E:List BS) (F:BW) (I:Int)=>
 some (E,F,I)
 )
 )
 )
def IK(A:AD)(q:Int)(l:AD):Option ((Int × AD) ⊕ AD):=
 if(decide (q<(A.Attrs.length:Int))) then(
 AB (
 AB (AM A.Attrs q) λ(j:AC)=>
 AB (gd ((decide (7<(j.Name.length:Int)))==true) (Bx j.Name 0 7)) λ(B:List UInt8)=>
 AB (gd ((((7<(j.Name.length:Int))&&(B=[114,101,109,97,114,107,46]))==false)&&((decide (5<(j.Name.length:Int)))==true)) (Bx j.Name 0 5)) λ(C:List UInt8)=>
 if(((((!(j.Name=[97,100,100]))&&(!(j.Name=[99,117,116])))&&(!(j.Name=[104,105,100,100,101,110])))&&(!(j.Name=[108,111,99,107])))&&(!(((7<(j.Name.length:Int))&&(B=[114,101,109,97,114,107,46]))||((5<(j.Name.length:Int))&&(C=[109,97,114,107,46]))))) then(
 AB (app 32 l.Attrs [j]) λ(E:List AC)=>
 some (AD.mk l.Char l.Ref E)
 ) else(
 some l
 )
 ) λ(u:AD)=>
 AB (AN .i64 (q+1)) λ(w:Int)=>
 some (.inl (w,u))
 ) else(
 some (.inr l)
 )
def KJ(j:List AD)(l:Int)(q:Int)(A:List AD):Option ((Int × Int × (List AD)) ⊕ (Int × (List AD))):=
 if(decide (q<(j.length:Int))) then(
 AB (gd ((decide (l=0))==true) (AM j q)) λ(C:AD)=>
 AB (
 if((l=0)&&(!(C.Ref=0))) then(
 some 8
 ) else(
 some l
 )
 ) λ(E:Int)=>
 AB (AM j q) λ(B:AD)=>
 AB (iter (λ(a:Int × AD)=>IK B a.1 a.2) (0,(AD.mk B.Char 0 []))) λ(u:AD)=>
 AB (app 40 A [u]) λ(F:List AD)=>
 AB (AN .i64 (q+1)) λ(w:Int)=>
 some (.inl (E,w,F))
 ) else(
 some (.inr (l,A))
 )
def MB(d1:B2)(u:BW)(j:List AD)(l:List UInt8):Option (Bool):=
 AB (Nl) λ(I:Bool)=>
 if(!I) then(
 some false
 ) else(
 HH (G4 d1 u j l) λ(B:List BS) (q:BW) (w:Int)=>
 AB (JB d1 u l) λ(C:Int)=>
 AB (
 if(decide (C=0)) then(
 AB (JV j) λ(J:Int)=>
 some J
 ) else(
 some C
 )
 ) λ(f2:Int)=>
 AB (
 if((f2=0)&&(20000<(j.length:Int))) then(
 some 3
 ) else(
 some f2
 )
 ) λ(M:Int)=>
 CR (iter (λ(a:Int × Int × (List AD))=>KJ j a.1 a.2.1 a.2.2) (M,0,[])) λ(E:Int) (F:List AD)=>
 if(!(E=0)) then(
 some (((w=E)&&((B.length:Int)=0))&&((q.Node=0)&&((q.From=0)&&((q.To=0)&&true))))
 ) else(
 AB (HO d1 u.Node) λ(O:Int)=>
 AB (AM d1.Nodes O) λ(T:Ak)=>
 AB (gd ((decide (w=0))==true) (AN .i64 (u.From+(F.length:Int)))) λ(A:Int)=>
 AB (gd ((((w=0)&&(q.From=A))&&(q.To=q.From))==true) (Og T.Flow u.From u.To F l)) λ(U:List AD)=>
 AB (gd ((((w=0)&&(q.From=A))&&(q.To=q.From))==true) (Ps d1 B u.Node U)) λ(V:Bool)=>
 some ((((w=0)&&(q.From=A))&&(q.To=q.From))&&V)
 )
 )
end
end Go.Proofs.YtgcalnmhoifpoaaGreatDoor.Al
