/- Models, as printed. -/
import Derived.Test.YtdafahjmopdleaaGreatDoorAl2
set_option linter.all false
namespace Go.Proofs.YtdafahjmopdleaaGreatDoor.Al
noncomputable section
structure Db where
 Kind:Int
 N:Int
deriving DecidableEq
instance:Inhabited Db:=⟨⟨0,0⟩⟩
@[reducible] def Db.row(x:Db):List RV:=[.int .i64 x.Kind,.int .i64 x.N]
structure my where
 steps:List Db
 used:Int
deriving DecidableEq
instance:Inhabited my:=⟨⟨[],0⟩⟩
structure hZ where
 out:List Db
 add:Int
 cut:Int
deriving DecidableEq
instance:Inhabited hZ:=⟨⟨[],0,0⟩⟩
structure AC where
 Name:List UInt8
 Value:List UInt8
deriving DecidableEq
instance:Inhabited AC:=⟨⟨[],[]⟩⟩
@[reducible] def AC.row(x:AC):List RV:=[.str x.Name,.str x.Value]
structure AG where
 Char:Int
 Ref:Int
 Attrs:List AC
deriving DecidableEq
instance:Inhabited AG:=⟨⟨0,0,[]⟩⟩
@[reducible] def AG.row(x:AG):List RV:=[.int .i64 x.Char,.int .i64 x.Ref,.sl (x.Attrs.map AC.row)]
structure A0 where
 Row:Int
 Col:Int
 Text:List UInt8
 Ref:Int
 Attrs:List AC
deriving DecidableEq
instance:Inhabited A0:=⟨⟨0,0,[],0,[]⟩⟩
@[reducible] def A0.row(x:A0):List RV:=[.int .i64 x.Row,.int .i64 x.Col,.str x.Text,.int .i64 x.Ref,.sl (x.Attrs.map AC.row)]
structure Ax where
 Row:Int
 Col:Int
 H:Int
 W:Int
deriving DecidableEq
instance:Inhabited Ax:=⟨⟨0,0,0,0⟩⟩
@[reducible] def Ax.row(x:Ax):List RV:=[.int .i64 x.Row,.int .i64 x.Col,.int .i64 x.H,.int .i64 x.W]
structure A1 where
 Rows:Int
 Cols:Int
 Cells:List A0
 Merges:List Ax
deriving DecidableEq
instance:Inhabited A1:=⟨⟨0,0,[],[]⟩⟩
@[reducible] def A1.row(x:A1):List RV:=[.int .i64 x.Rows,.int .i64 x.Cols,.sl (x.Cells.map A0.row),.sl (x.Merges.map Ax.row)]
structure BS where
 Clock:Int
 Site:Int
 Kind:Int
 Item:Int
 Parent:Int
 Place:List UInt8
 Name:List UInt8
 Value:List UInt8
deriving DecidableEq
instance:Inhabited BS:=⟨⟨0,0,0,0,0,[],[],[]⟩⟩
@[reducible] def BS.row(x:BS):List RV:=[.int .i64 x.Clock,.int .i64 x.Site,.int .i64 x.Kind,.int .i64 x.Item,.int .i64 x.Parent,.str x.Place,.str x.Name,.str x.Value]
structure AX where
 ID:Int
 Kind:Int
 Attrs:List AC
 Flow:List AG
 Grid:A1
 Draw:List BS
deriving DecidableEq
instance:Inhabited AX:=⟨⟨0,0,[],[],(A1.mk 0 0 [] []),[]⟩⟩
@[reducible] def AX.row(x:AX):List RV:=[.int .i64 x.ID,.int .i64 x.Kind,.sl (x.Attrs.map AC.row),.sl (x.Flow.map AG.row),.int .i64 x.Grid.Rows,.int .i64 x.Grid.Cols,.sl (x.Grid.Cells.map A0.row),.sl (x.Grid.Merges.map Ax.row),.sl (x.Draw.map BS.row)]
structure AI where
 Kind:Int
 N:Int
 Attrs:List AC
 Elems:List AG
deriving DecidableEq
instance:Inhabited AI:=⟨⟨0,0,[],[]⟩⟩
@[reducible] def AI.row(x:AI):List RV:=[.int .i64 x.Kind,.int .i64 x.N,.sl (x.Attrs.map AC.row),.sl (x.Elems.map AG.row)]
structure DW where
 Rows:List Db
 Cols:List Db
 Cells:List A0
 Split:List Ax
 Merge:List Ax
deriving DecidableEq
instance:Inhabited DW:=⟨⟨[],[],[],[],[]⟩⟩
structure Ai where
 Kind:Int
 Node:Int
 New:AX
 Attrs:List AC
 Steps:List AI
 Grid:DW
 Draw:List BS
deriving DecidableEq
instance:Inhabited Ai:=⟨⟨0,0,(AX.mk 0 0 [] [] (A1.mk 0 0 [] []) []),[],[],(DW.mk [] [] [] [] []),[]⟩⟩
@[reducible] def Ai.row(x:Ai):List RV:=[.int .i64 x.Kind,.int .i64 x.Node,.int .i64 x.New.ID,.int .i64 x.New.Kind,.sl (x.New.Attrs.map AC.row),.sl (x.New.Flow.map AG.row),.int .i64 x.New.Grid.Rows,.int .i64 x.New.Grid.Cols,.sl (x.New.Grid.Cells.map A0.row),.sl (x.New.Grid.Merges.map Ax.row),.sl (x.New.Draw.map BS.row),.sl (x.Attrs.map AC.row),.sl (x.Steps.map AI.row),.sl (x.Grid.Rows.map Db.row),.sl (x.Grid.Cols.map Db.row),.sl (x.Grid.Cells.map A0.row),.sl (x.Grid.Split.map Ax.row),.sl (x.Grid.Merge.map Ax.row),.sl (x.Draw.map BS.row)]
structure kH where
 Site:Int
 Number:Int
 Change:List Ai
 Undoes:Int
 Refused:Int
deriving DecidableEq
instance:Inhabited kH:=⟨⟨0,0,[],0,0⟩⟩
structure o5 where
 From:Int
 To:Int
deriving DecidableEq
instance:Inhabited o5:=⟨⟨0,0⟩⟩
def CX(q:Int)(l:Int)(j:Int):Option (Bool):=
 some ((l≤q)&&(q≤j))
def WX(F:List Db)(j:Int)(l:Int)(u:Int):Option ((Int × Int × Int) ⊕ (As (Int × Int) Int)):=
 if(decide (u<(F.length:Int))) then(
 FO (
 AB (AL F u) λ(q:Db)=>
 AB (CX q.Kind 0 2) λ(J:Bool)=>
 if(!J) then(
 some (.ext (.inr (.ext 8)))
 ) else(
 AB (CX q.N 1 2147483647) λ(M:Bool)=>
 if(!M) then(
 some (.ext (.inr (.ext 2)))
 ) else(
 AB (gd ((decide (0<u))==true) (AN .i64 (u-1))) λ(O:Int)=>
 AB (gd ((decide (0<u))==true) (AL F O)) λ(I:Db)=>
 AB (gd ((((decide (0<u))==true)&&((decide (q.Kind=I.Kind))==false))&&((decide (q.Kind=1))==true)) (AN .i64 (u-1))) λ(T:Int)=>
 AB (gd ((((decide (0<u))==true)&&((decide (q.Kind=I.Kind))==false))&&((decide (q.Kind=1))==true)) (AL F T)) λ(U:Db)=>
 if((0<u)&&((q.Kind=I.Kind)||((q.Kind=1)&&(U.Kind=2)))) then(
 some (.ext (.inr (.ext 5)))
 ) else(
 AB (
 if((!(q.Kind=1))&&(j<2147483648)) then(
 AB (AN .i64 (j+q.N)) λ(A:Int)=>
 some A
 ) else(
 some j
 )
 ) λ(w:Int)=>
 if((!(q.Kind=2))&&(l<2147483648)) then(
 AB (AN .i64 (l+q.N)) λ(B:Int)=>
 some (.nrm (w,B))
 ) else(
 some (.nrm (w,l))
 )
 )
 )
 )
 ) λ(C:Int) (E:Int)=>
 AB (AN .i64 (u+1)) λ(V:Int)=>
 some (.inl (C,E,V))
 ) else(
 some (.inr (.nrm (j,l)))
 )
def Uc(q:List Db):Option (Int):=
 FO (iter (λ(a:Int × Int × Int)=>WX q a.1 a.2.1 a.2.2) (0,0,0)) λ(j:Int) (l:Int)=>
 if((2147483647<j)||(2147483647<l)) then(
 some 3
 ) else(
 some 0
 )
def M9(q:List UInt8)(l:Int):Option (Int ⊕ (As Unit Bool)):=
 if(decide (l<(q.length:Int))) then(
 AB (AL q l) λ(j:UInt8)=>
 if((((((j.toNat:Int)<97)||(122<(j.toNat:Int)))&&(((j.toNat:Int)<48)||(57<(j.toNat:Int))))&&(!((j.toNat:Int)=46)))&&(!((j.toNat:Int)=45))) then(
 some (.inr (.ext false))
 ) else(
 AB (AN .i64 (l+1)) λ(u:Int)=>
 some (.inl u)
 )
 ) else(
 some (.inr (.nrm ()))
 )
def OB(j:List UInt8):Option (Bool):=
 AB (gd (((j=[])||(24<(j.length:Int)))==false) (AL j 0)) λ(l:UInt8)=>
 AB (gd ((((j=[])||(24<(j.length:Int)))||((l.toNat:Int)<97))==false) (AL j 0)) λ(q:UInt8)=>
 if((((j=[])||(24<(j.length:Int)))||((l.toNat:Int)<97))||(122<(q.toNat:Int))) then(
 some false
 ) else(
 Aq (iter (λ(a:Int)=>M9 j a) 0) λ(u:Unit)=>
 some true
 )
def QS(q:List UInt8)(l:Int):Option (Int ⊕ (As Unit Bool)):=
 if(decide (l<(q.length:Int))) then(
 AB (AL q l) λ(j:UInt8)=>
 if(((j.toNat:Int)<32)||(126<(j.toNat:Int))) then(
 some (.inr (.ext false))
 ) else(
 AB (AN .i64 (l+1)) λ(u:Int)=>
 some (.inl u)
 )
 ) else(
 some (.inr (.nrm ()))
 )
def Jj(j:List UInt8):Option (Bool):=
 if((j=[])||(200<(j.length:Int))) then(
 some false
 ) else(
 Aq (iter (λ(a:Int)=>QS j a) 0) λ(l:Unit)=>
 some true
 )
def Mu(u:List AC)(j:Bool)(l:Int):Option (Int ⊕ (As Unit Int)):=
 if(decide (l<(u.length:Int))) then(
 AB (AL u l) λ(q:AC)=>
 AB (OB q.Name) λ(A:Bool)=>
 if(!A) then(
 some (.inr (.ext 9))
 ) else(
 AB (Jj q.Value) λ(B:Bool)=>
 if((!B)&&(!(j&&(q.Value=[])))) then(
 some (.inr (.ext 23))
 ) else(
 AB (gd ((decide (0<l))==true) (AN .i64 (l-1))) λ(C:Int)=>
 AB (gd ((decide (0<l))==true) (AL u C)) λ(w:AC)=>
 if((0<l)&&(A4 q.Name w.Name||(q.Name=w.Name))) then(
 some (.inr (.ext 5))
 ) else(
 AB (AN .i64 (l+1)) λ(E:Int)=>
 some (.inl E)
 )
 )
 )
 ) else(
 some (.inr (.nrm ()))
 )
def NL(l:List AC)(j:Bool):Option (Int):=
 Aq (iter (λ(a:Int)=>Mu l j a) 0) λ(q:Unit)=>
 some 0
def HM(j:List AC):Option (Int):=
 AB (NL j false) λ(l:Int)=>
 some l
def Lh(j:List AC):Option (Int):=
 AB (NL j true) λ(l:Int)=>
 some l
def Kc(j:List AC)(q:AC)(l:AC):Option ((List AC)):=
 if(decide (l.Name=[])) then(
 AB (app 32 j [q]) λ(u:List AC)=>
 some u
 ) else(
 if(!(l.Value=[])) then(
 AB (app 32 j [l]) λ(w:List AC)=>
 some w
 ) else(
 some j
 )
 )
def Qo(l:List AC)(u:List AC)(j:Int)(q:Int)(o2:List AC):Option ((Int × Int × (List AC)) ⊕ (As Unit (List AC))):=
 if((j<(l.length:Int))||(q<(u.length:Int))) then(
 AB (gd (((decide (q=(u.length:Int)))==false)&&((decide (j<(l.length:Int)))==true)) (AL l j)) λ(A:AC)=>
 AB (gd (((decide (q=(u.length:Int)))==false)&&((decide (j<(l.length:Int)))==true)) (AL u q)) λ(B:AC)=>
 if((q=(u.length:Int))||((j<(l.length:Int))&&(A4 A.Name B.Name))) then(
 AB (AL l j) λ(C:AC)=>
 AB (Kc o2 C (AC.mk [] [])) λ(E:List AC)=>
 AB (AN .i64 (j+1)) λ(F:Int)=>
 some (.inl (F,q,E))
 ) else(
 AB (gd ((decide (j=(l.length:Int)))==false) (AL u q)) λ(I:AC)=>
 AB (gd ((decide (j=(l.length:Int)))==false) (AL l j)) λ(J:AC)=>
 if((j=(l.length:Int))||(A4 I.Name J.Name)) then(
 AB (AL u q) λ(M:AC)=>
 AB (Kc o2 (AC.mk [] []) M) λ(O:List AC)=>
 AB (AN .i64 (q+1)) λ(T:Int)=>
 some (.inl (j,T,O))
 ) else(
 AB (AL l j) λ(U:AC)=>
 AB (AL u q) λ(V:AC)=>
 AB (Kc o2 U V) λ(X:List AC)=>
 AB (AN .i64 (j+1)) λ(w:Int)=>
 AB (AN .i64 (q+1)) λ(Y:Int)=>
 some (.inl (w,Y,X))
 )
 )
 ) else(
 some (.inr (.ext o2))
 )
def Pb(j:List AC)(l:List AC)(q:List AC):Option ((List AC)):=
 Aq (iter (λ(a:Int × Int × (List AC))=>Qo l q a.1 a.2.1 a.2.2) (0,0,j)) λ(u:Unit)=>
 none
def L4(l:List AC)(j:List AC):Option ((List AC)):=
 AB (Pb [] l j) λ(q:List AC)=>
 some q
def O8(l:List AC)(w:List AC)(j:Int):Option (Int ⊕ (As Unit Bool)):=
 if(decide (j<(l.length:Int))) then(
 AB (AL l j) λ(q:AC)=>
 AB (AL w j) λ(u:AC)=>
 if(!((q.Name=u.Name)&&((q.Value=u.Value)&&true))) then(
 some (.inr (.ext false))
 ) else(
 AB (AN .i64 (j+1)) λ(A:Int)=>
 some (.inl A)
 )
 ) else(
 some (.inr (.nrm ()))
 )
def GI(j:List AC)(l:List AC):Option (Bool):=
 if(!((j.length:Int)=(l.length:Int))) then(
 some false
 ) else(
 Aq (iter (λ(a:Int)=>O8 j l a) 0) λ(q:Unit)=>
 some true
 )
def Mp(q:List UInt8)(l:Int):Option (Int ⊕ (As Unit Bool)):=
 if(decide (l<(q.length:Int))) then(
 AB (AL q l) λ(j:UInt8)=>
 if((!((97≤(j.toNat:Int))&&((j.toNat:Int)≤122)))&&((l=0)||(((!((j.toNat:Int)=46))&&(!((j.toNat:Int)=45)))&&(((j.toNat:Int)<48)||(57<(j.toNat:Int)))))) then(
 some (.inr (.ext false))
 ) else(
 AB (AN .i64 (l+1)) λ(u:Int)=>
 some (.inl u)
 )
 ) else(
 some (.inr (.nrm ()))
 )
def OA(j:List UInt8):Option (Bool):=
 Aq (iter (λ(a:Int)=>Mp j a) 0) λ(l:Unit)=>
 some ((1≤(j.length:Int))&&((j.length:Int)≤24))
def Qi(q:List UInt8)(l:Int):Option (Int ⊕ (As Unit Bool)):=
 if(decide (l<(q.length:Int))) then(
 AB (AL q l) λ(j:UInt8)=>
 if(((j.toNat:Int)<32)||(126<(j.toNat:Int))) then(
 some (.inr (.ext false))
 ) else(
 AB (AN .i64 (l+1)) λ(u:Int)=>
 some (.inl u)
 )
 ) else(
 some (.inr (.nrm ()))
 )
def LC(j:List UInt8):Option (Bool):=
 Aq (iter (λ(a:Int)=>Qi j a) 0) λ(l:Unit)=>
 some ((1≤(j.length:Int))&&((j.length:Int)≤200))
def MK(u:List AC)(j:Bool)(l:Int):Option (Int ⊕ (As Unit Int)):=
 if(decide (l<(u.length:Int))) then(
 AB (AL u l) λ(q:AC)=>
 AB (OA q.Name) λ(w:Bool)=>
 if(!w) then(
 some (.inr (.ext 9))
 ) else(
 AB (LC q.Value) λ(A:Bool)=>
 if((!A)&&((!(q.Value=[]))||(!j))) then(
 some (.inr (.ext 23))
 ) else(
 AB (gd ((decide (0<l))==true) (AN .i64 (l-1))) λ(B:Int)=>
 AB (gd ((decide (0<l))==true) (AL u B)) λ(C:AC)=>
 if((0<l)&&(!A4 C.Name q.Name)) then(
 some (.inr (.ext 5))
 ) else(
 AB (AN .i64 (l+1)) λ(E:Int)=>
 some (.inl E)
 )
 )
 )
 ) else(
 some (.inr (.nrm ()))
 )
def Hh(l:List AC)(j:Bool):Option (Int):=
 Aq (iter (λ(a:Int)=>MK l j a) 0) λ(q:Unit)=>
 some 0
def Q2(q:List AC)(j:List UInt8)(l:Int):Option (Int ⊕ (As Unit (List UInt8))):=
 if(decide (l<(q.length:Int))) then(
 AB (AL q l) λ(u:AC)=>
 if(decide (u.Name=j)) then(
 some (.inr (.ext u.Value))
 ) else(
 AB (AN .i64 (l+1)) λ(w:Int)=>
 some (.inl w)
 )
 ) else(
 some (.inr (.nrm ()))
 )
def G9(l:List AC)(j:List UInt8):Option ((List UInt8)):=
 Aq (iter (λ(a:Int)=>Q2 l j a) 0) λ(q:Unit)=>
 some []
def Rh(q:List AC)(j:List UInt8)(l:Int):Option (Int ⊕ (As Unit (List UInt8))):=
 if(decide (l<(q.length:Int))) then(
 AB (AL q l) λ(u:AC)=>
 if(decide (u.Name=j)) then(
 some (.inr (.ext u.Value))
 ) else(
 AB (AN .i64 (l+1)) λ(w:Int)=>
 some (.inl w)
 )
 ) else(
 some (.inr (.nrm ()))
 )
def I3(l:List AC)(j:List UInt8):Option ((List UInt8)):=
 Aq (iter (λ(a:Int)=>Rh l j a) 0) λ(q:Unit)=>
 some []
def PR(F:List AC)(I:AC)(j:Bool)(E:Int)(l:List AC):Option ((Bool × Int × (List AC)) ⊕ (Bool × (List AC))):=
 if(decide (E<(F.length:Int))) then(
 CT (
 AB (gd ((!j)==true) (AL F E)) λ(M:AC)=>
 CT (
 if((!j)&&(!A4 M.Name I.Name)) then(
 AB (app 32 l [I]) λ(w:List AC)=>
 some (true,w)
 ) else(
 some (j,l)
 )
 ) λ(q:Bool) (u:List AC)=>
 AB (AL F E) λ(J:AC)=>
 if(!(J.Name=I.Name)) then(
 AB (app 32 u [J]) λ(B:List AC)=>
 some (q,B)
 ) else(
 some (q,u)
 )
 ) λ(A:Bool) (C:List AC)=>
 AB (AN .i64 (E+1)) λ(O:Int)=>
 some (.inl (A,O,C))
 ) else(
 some (.inr (j,l))
 )
def Ir(A:List AC)(w:AC):Option ((List AC)):=
 CT (iter (λ(a:Bool × Int × (List AC))=>PR A w a.1 a.2.1 a.2.2) (false,0,[])) λ(l:Bool) (j:List AC)=>
 AB (
 if(!l) then(
 AB (app 32 j [w]) λ(q:List AC)=>
 some q
 ) else(
 some j
 )
 ) λ(u:List AC)=>
 some u
def OL(l:List AC)(A:Int)(j:List AC):Option ((Int × (List AC)) ⊕ (List AC)):=
 if(decide (A<(l.length:Int))) then(
 AB (
 AB (AL l A) λ(w:AC)=>
 if(!(w.Value=[])) then(
 AB (app 32 j [w]) λ(q:List AC)=>
 some q
 ) else(
 some j
 )
 ) λ(u:List AC)=>
 AB (AN .i64 (A+1)) λ(B:Int)=>
 some (.inl (B,u))
 ) else(
 some (.inr j)
 )
def PA(j:List AC)(l:List AC)(u:Int):Option (((List AC) × Int) ⊕ (List AC)):=
 if(decide (u<(j.length:Int))) then(
 AB (AL j u) λ(w:AC)=>
 AB (Ir l w) λ(q:List AC)=>
 AB (AN .i64 (u+1)) λ(A:Int)=>
 some (.inl (q,A))
 ) else(
 some (.inr l)
 )
def Qc(A:List AC)(j:List AC)(q:Int):Option (((List AC) × Int) ⊕ (List AC)):=
 if(decide (q<(A.length:Int))) then(
 AB (AL A q) λ(u:AC)=>
 AB (Ir j u) λ(l:List AC)=>
 AB (AN .i64 (q+1)) λ(w:Int)=>
 some (.inl (l,w))
 ) else(
 some (.inr j)
 )
def H4(w:List AC)(j:List AC):Option ((List AC)):=
 AB (iter (λ(a:(List AC) × Int)=>Qc w a.1 a.2) ([],0)) λ(q:List AC)=>
 AB (iter (λ(a:(List AC) × Int)=>PA j a.1 a.2) (q,0)) λ(u:List AC)=>
 AB (iter (λ(a:Int × (List AC))=>OL u a.1 a.2) (0,[])) λ(l:List AC)=>
 some l
def Vx:Option (AG):=
 some (AG.mk 10 0 [])
def MQ(j:Int):Option (Bool):=
 some (((((j=9)||(j=10))||((32≤j)&&(j<127)))||((160≤j)&&(j<55296)))||((57343<j)&&(j≤1114111)))
def NA(j:AG):Option (Int):=
 if((!(j.Char=0))==(!(j.Ref=0))) then(
 some 4
 ) else(
 AB (gd ((decide (j.Ref=0))==true) (MQ j.Char)) λ(l:Bool)=>
 AB (
 if((j.Ref=0)&&(!l)) then(
 some ((j.Ref=0)&&(!l))
 ) else(
 some ((!(j.Ref=0))&&((j.Ref<1)||(1073741824<j.Ref)))
 )
 ) λ(q:Bool)=>
 if q then(
 some 2
 ) else(
 AB (HM j.Attrs) λ(u:Int)=>
 some u
 )
 )
def RU(l:List AG)(j:Int):Option (Int ⊕ (As Unit Int)):=
 if(decide (j<(l.length:Int))) then(
 AB (AL l j) λ(u:AG)=>
 AB (NA u) λ(q:Int)=>
 if(!(q=0)) then(
 some (.inr (.ext q))
 ) else(
 AB (AN .i64 (j+1)) λ(w:Int)=>
 some (.inl w)
 )
 ) else(
 some (.inr (.nrm ()))
 )
def PY(j:List AG):Option (Int):=
 Aq (iter (λ(a:Int)=>RU j a) 0) λ(l:Unit)=>
 some 0
def QY(l:AG)(j:Int):Option (Bool):=
 AB (G9 l.Attrs [104,105,100,100,101,110]) λ(q:List UInt8)=>
 AB (gd (((decide (q=[111,110]))==false)&&((decide (j=0))==true)) (G9 l.Attrs [99,117,116])) λ(u:List UInt8)=>
 AB (gd ((((q=[111,110])||((j=0)&&(!(u=[]))))==false)&&((decide (j=1))==true)) (G9 l.Attrs [97,100,100])) λ(w:List UInt8)=>
 some (((q=[111,110])||((j=0)&&(!(u=[]))))||((j=1)&&(!(w=[]))))
def NY(A:List AG)(l:Int)(q:Int)(j:List Int):Option ((Int × (List Int)) ⊕ (List Int)):=
 if(decide (q<(A.length:Int))) then(
 AB (
 AB (AL A q) λ(B:AG)=>
 AB (QY B l) λ(C:Bool)=>
 AB (gd ((!C)==false) (AN .i64 ((A.length:Int)-1))) λ(E:Int)=>
 if((!C)||((q=E)&&(B.Char=10))) then(
 AB (app 8 j [q]) λ(u:List Int)=>
 some u
 ) else(
 some j
 )
 ) λ(w:List Int)=>
 AB (AN .i64 (q+1)) λ(F:Int)=>
 some (.inl (F,w))
 ) else(
 some (.inr j)
 )
def Pg(q:List AG)(j:Int):Option ((List Int)):=
 AB (iter (λ(a:Int × (List Int))=>NY q j a.1 a.2) (0,[])) λ(l:List Int)=>
 some l
def Mf(j:Int):Option (Bool):=
 AB (gd (((j=9)||(j=10))==false) (CX j 32 126)) λ(l:Bool)=>
 AB (gd ((((j=9)||(j=10))||l)==false) (CX j 160 55295)) λ(q:Bool)=>
 AB (gd (((((j=9)||(j=10))||l)||q)==false) (CX j 57344 1114111)) λ(u:Bool)=>
 some (((((j=9)||(j=10))||l)||q)||u)
def Nx(j:AG):Option (Int):=
 if(((j.Char=0)&&(j.Ref=0))||((!(j.Char=0))&&(!(j.Ref=0)))) then(
 some 4
 ) else(
 AB (gd ((!(j.Char=0))==true) (Mf j.Char)) λ(l:Bool)=>
 AB (gd ((((!(j.Char=0))&&(!l))==false)&&((!(j.Ref=0))==true)) (CX j.Ref 1 1073741824)) λ(q:Bool)=>
 if(((!(j.Char=0))&&(!l))||((!(j.Ref=0))&&(!q))) then(
 some 2
 ) else(
 AB (Hh j.Attrs false) λ(u:Int)=>
 some u
 )
 )
def O6(l:List AG)(j:Int):Option (Int ⊕ (As Unit Int)):=
 if(decide (j<(l.length:Int))) then(
 AB (AL l j) λ(u:AG)=>
 AB (Nx u) λ(q:Int)=>
 if(!(q=0)) then(
 some (.inr (.ext q))
 ) else(
 AB (AN .i64 (j+1)) λ(w:Int)=>
 some (.inl w)
 )
 ) else(
 some (.inr (.nrm ()))
 )
def Re(j:List AG):Option (Int):=
 Aq (iter (λ(a:Int)=>O6 j a) 0) λ(l:Unit)=>
 some 0
def P8(q:List AC)(j:List UInt8)(l:Int):Option (Int ⊕ (As Unit Bool)):=
 if(decide (l<(q.length:Int))) then(
 AB (AL q l) λ(u:AC)=>
 if(decide (u.Name=j)) then(
 some (.inr (.ext true))
 ) else(
 AB (AN .i64 (l+1)) λ(w:Int)=>
 some (.inl w)
 )
 ) else(
 some (.inr (.nrm ()))
 )
def N5(l:List AC)(j:List UInt8):Option (Bool):=
 Aq (iter (λ(a:Int)=>P8 l j a) 0) λ(q:Unit)=>
 some false
def NK(C:List AG)(j:Int)(u:Int)(l:List Int):Option ((Int × (List Int)) ⊕ (List Int)):=
 if(decide (u<(C.length:Int))) then(
 AB (
 AB (AL C u) λ(B:AG)=>
 AB (I3 B.Attrs [104,105,100,100,101,110]) λ(F:List UInt8)=>
 AB (gd ((decide (j=0))==true) (N5 B.Attrs [99,117,116])) λ(E:Bool)=>
 AB (gd ((((j=0)&&E)==false)&&((decide (j=1))==true)) (N5 B.Attrs [97,100,100])) λ(I:Bool)=>
 AB (
 if(((j=0)&&E)||((j=1)&&I)) then(
 some false
 ) else(
 some (!(F=[111,110]))
 )
 ) λ(q:Bool)=>
 AB (gd (q==false) (AN .i64 ((C.length:Int)-1))) λ(J:Int)=>
 if(q||((u=J)&&(B.Char=10))) then(
 AB (app 8 l [u]) λ(w:List Int)=>
 some w
 ) else(
 some l
 )
 ) λ(A:List Int)=>
 AB (AN .i64 (u+1)) λ(M:Int)=>
 some (.inl (M,A))
 ) else(
 some (.inr l)
 )
def H7(q:List AG)(j:Int):Option ((List Int)):=
 AB (iter (λ(a:Int × (List Int))=>NK q j a.1 a.2) (0,[])) λ(l:List Int)=>
 some l
def RJ(l:List AC)(w:List AC)(j:Int):Option (Int ⊕ (As Unit Bool)):=
 if(decide (j<(l.length:Int))) then(
 AB (AL l j) λ(q:AC)=>
 AB (AL w j) λ(u:AC)=>
 if(!((q.Name=u.Name)&&((q.Value=u.Value)&&true))) then(
 some (.inr (.ext false))
 ) else(
 AB (AN .i64 (j+1)) λ(A:Int)=>
 some (.inl A)
 )
 ) else(
 some (.inr (.nrm ()))
 )
def HC(j:List AC)(l:List AC):Option (Bool):=
 if(!((j.length:Int)=(l.length:Int))) then(
 some false
 ) else(
 Aq (iter (λ(a:Int)=>RJ j l a) 0) λ(q:Unit)=>
 some true
 )
def LB(l:List AC)(q:AC)(j:AC):Option ((List AC)):=
 AB (
 if(decide (j.Name=[])) then(
 some q
 ) else(
 some j
 )
 ) λ(u:AC)=>
 AB (app 32 l [u]) λ(w:List AC)=>
 some w
def Qn(l:List AC)(u:List AC)(j:Int)(q:Int)(o2:List AC):Option ((Int × Int × (List AC)) ⊕ (As Unit (List AC))):=
 if((j<(l.length:Int))||(q<(u.length:Int))) then(
 AB (gd (((decide (q=(u.length:Int)))==false)&&((decide (j<(l.length:Int)))==true)) (AL l j)) λ(A:AC)=>
 AB (gd (((decide (q=(u.length:Int)))==false)&&((decide (j<(l.length:Int)))==true)) (AL u q)) λ(B:AC)=>
 if((q=(u.length:Int))||((j<(l.length:Int))&&(A4 A.Name B.Name))) then(
 AB (AL l j) λ(C:AC)=>
 AB (LB o2 C (AC.mk [] [])) λ(E:List AC)=>
 AB (AN .i64 (j+1)) λ(F:Int)=>
 some (.inl (F,q,E))
 ) else(
 AB (gd ((decide (j=(l.length:Int)))==false) (AL u q)) λ(I:AC)=>
 AB (gd ((decide (j=(l.length:Int)))==false) (AL l j)) λ(J:AC)=>
 if((j=(l.length:Int))||(A4 I.Name J.Name)) then(
 AB (AL u q) λ(M:AC)=>
 AB (LB o2 (AC.mk [] []) M) λ(O:List AC)=>
 AB (AN .i64 (q+1)) λ(T:Int)=>
 some (.inl (j,T,O))
 ) else(
 AB (AL l j) λ(U:AC)=>
 AB (AL u q) λ(V:AC)=>
 AB (LB o2 U V) λ(X:List AC)=>
 AB (AN .i64 (j+1)) λ(w:Int)=>
 AB (AN .i64 (q+1)) λ(Y:Int)=>
 some (.inl (w,Y,X))
 )
 )
 ) else(
 some (.inr (.ext o2))
 )
def Ri(j:List AC)(l:List AC)(q:List AC):Option ((List AC)):=
 Aq (iter (λ(a:Int × Int × (List AC))=>Qn l q a.1 a.2.1 a.2.2) (0,0,j)) λ(u:Unit)=>
 none
def QV(j:List AC)(l:List AC):Option ((List AC)):=
 AB (Ri [] j l) λ(q:List AC)=>
 some q
def Ke(j:List AC)(l:AC)(q:AC):Option ((List AC)):=
 if(decide (q.Name=[])) then(
 AB (app 32 j [l]) λ(u:List AC)=>
 some u
 ) else(
 some j
 )
def QM(l:List AC)(u:List AC)(j:Int)(q:Int)(o2:List AC):Option ((Int × Int × (List AC)) ⊕ (As Unit (List AC))):=
 if((j<(l.length:Int))||(q<(u.length:Int))) then(
 AB (gd (((decide (q=(u.length:Int)))==false)&&((decide (j<(l.length:Int)))==true)) (AL l j)) λ(A:AC)=>
 AB (gd (((decide (q=(u.length:Int)))==false)&&((decide (j<(l.length:Int)))==true)) (AL u q)) λ(B:AC)=>
 if((q=(u.length:Int))||((j<(l.length:Int))&&(A4 A.Name B.Name))) then(
 AB (AL l j) λ(C:AC)=>
 AB (Ke o2 C (AC.mk [] [])) λ(E:List AC)=>
 AB (AN .i64 (j+1)) λ(F:Int)=>
 some (.inl (F,q,E))
 ) else(
 AB (gd ((decide (j=(l.length:Int)))==false) (AL u q)) λ(I:AC)=>
 AB (gd ((decide (j=(l.length:Int)))==false) (AL l j)) λ(J:AC)=>
 if((j=(l.length:Int))||(A4 I.Name J.Name)) then(
 AB (AL u q) λ(M:AC)=>
 AB (Ke o2 (AC.mk [] []) M) λ(O:List AC)=>
 AB (AN .i64 (q+1)) λ(T:Int)=>
 some (.inl (j,T,O))
 ) else(
 AB (AL l j) λ(U:AC)=>
 AB (AL u q) λ(V:AC)=>
 AB (Ke o2 U V) λ(X:List AC)=>
 AB (AN .i64 (j+1)) λ(w:Int)=>
 AB (AN .i64 (q+1)) λ(Y:Int)=>
 some (.inl (w,Y,X))
 )
 )
 ) else(
 some (.inr (.ext o2))
 )
def Oo(j:List AC)(l:List AC)(q:List AC):Option ((List AC)):=
 Aq (iter (λ(a:Int × Int × (List AC))=>QM l q a.1 a.2.1 a.2.2) (0,0,j)) λ(u:Unit)=>
 none
def PW(j:List AC)(l:List AC):Option ((List AC)):=
 AB (Oo [] j l) λ(q:List AC)=>
 some q
end
noncomputable section
structure Bo where
 Adds:List (List AG)
 Cuts:List Bool
 Attrs:List (List AC)
deriving DecidableEq
instance:Inhabited Bo:=⟨⟨[],[],[]⟩⟩
def Jg(l:AI)(u:Int)(j:Bo):Option ((Int × Bo) ⊕ (As Unit Bo)):=
 if(decide (u<l.N)) then(
 AB (app 24 j.Adds [[]]) λ(w:List (List AG))=>
 AB (app 1 j.Cuts [(decide (l.Kind=2))]) λ(A:List Bool)=>
 AB (app 24 j.Attrs [l.Attrs]) λ(B:List (List AC))=>
 AB (AN .i64 (u+1)) λ(q:Int)=>
 some (.inl (q,(Bo.mk w A B)))
 ) else(
 some (.inr (.ext j))
 )
def JU(d1:List AI)(l:Int)(j:Bo):Option ((Int × Bo) ⊕ Bo):=
 if(decide (l<(d1.length:Int))) then(
 AB (
 AB (AL d1 l) λ(q:AI)=>
 if(decide (q.Kind=1)) then(
 AB (AN .i64 ((j.Adds.length:Int)-1)) λ(u:Int)=>
 AB (AL j.Adds u) λ(w:List AG)=>
 AB (app 40 [] w) λ(A:List AG)=>
 AB (app 40 A q.Elems) λ(B:List AG)=>
 some (Bo.mk (j.Adds.set u.toNat B) j.Cuts j.Attrs)
 ) else(
 Aq (iter (λ(a:Int × Bo)=>Jg q a.1 a.2) (0,j)) λ(E:Unit)=>
 none
 )
 ) λ(a5:Bo)=>
 AB (AN .i64 (l+1)) λ(C:Int)=>
 some (.inl (C,a5))
 ) else(
 some (.inr j)
 )
def QW(d1:List AI):Option (Bo):=
 AB (iter (λ(a:Int × Bo)=>JU d1 a.1 a.2) (0,(Bo.mk [[]] [] []))) λ(a4:Bo)=>
 some a4
def QE(l:List Db)(w:List Db)(j:Int):Option (Int ⊕ (As Unit Bool)):=
 if(decide (j<(l.length:Int))) then(
 AB (AL l j) λ(q:Db)=>
 AB (AL w j) λ(u:Db)=>
 if(!((q.Kind=u.Kind)&&((q.N=u.N)&&true))) then(
 some (.inr (.ext false))
 ) else(
 AB (AN .i64 (j+1)) λ(A:Int)=>
 some (.inl A)
 )
 ) else(
 some (.inr (.nrm ()))
 )
def ND(j:List Db)(l:List Db):Option (Bool):=
 if(!((j.length:Int)=(l.length:Int))) then(
 some false
 ) else(
 Aq (iter (λ(a:Int)=>QE j l a) 0) λ(q:Unit)=>
 some true
 )
end
noncomputable section
end
noncomputable section
structure BX where
 steps:List AI
 used:Int
deriving DecidableEq
instance:Inhabited BX:=⟨⟨[],0⟩⟩
structure Ah where
 out:List AI
 add:List AG
 cut:Int
deriving DecidableEq
instance:Inhabited Ah:=⟨⟨[],[],0⟩⟩
def NU(j:AI):Option (Int):=
 AB (
 if(decide (j.Kind=0)) then(
 some (decide (j.Kind=0))
 ) else(
 some (decide (j.Kind=2))
 )
 ) λ(l:Bool)=>
 if l then(
 if((0<(j.Elems.length:Int))||((j.Kind=2)&&(0<(j.Attrs.length:Int)))) then(
 some 4
 ) else(
 if((j.N<1)||(2147483647<j.N)) then(
 some 2
 ) else(
 AB (Lh j.Attrs) λ(q:Int)=>
 some q
 )
 )
 ) else(
 if(decide (j.Kind=1)) then(
 if((!(j.N=0))||(0<(j.Attrs.length:Int))) then(
 some 4
 ) else(
 if(decide ((j.Elems.length:Int)=0)) then(
 some 11
 ) else(
 AB (PY j.Elems) λ(u:Int)=>
 some u
 )
 )
 ) else(
 some 8
 )
 )
def HS(j:AI):Option (Int):=
 if(decide (j.Kind=1)) then(
 some (j.Elems.length:Int)
 ) else(
 some j.N
 )
def Il(d1:List AI)(j:Int)(l:Int)(B:Int):Option ((Int × Int × Int) ⊕ (As (Int × Int) Int)):=
 if(decide (B<(d1.length:Int))) then(
 FO (
 AB (AL d1 B) λ(u:AI)=>
 AB (NU u) λ(E:Int)=>
 if(!(E=0)) then(
 some (.ext (.inr (.ext E)))
 ) else(
 Aq (
 if(decide (0<B)) then(
 AB (AN .i64 (B-1)) λ(F:Int)=>
 AB (AL d1 F) λ(C:AI)=>
 AB (gd (((decide (C.Kind=u.Kind))==true)&&((!(u.Kind=0))==false)) (HC C.Attrs u.Attrs)) λ(I:Bool)=>
 if(((C.Kind=u.Kind)&&((!(u.Kind=0))||I))||((C.Kind=2)&&(u.Kind=1))) then(
 some (.ext (.ext (.inr (.ext 5))))
 ) else(
 some (.nrm ())
 )
 ) else(
 some (.nrm ())
 )
 ) λ(U:Unit)=>
 AB (
 if(!(u.Kind=1)) then(
 AB (AN .i64 (j+u.N)) λ(J:Int)=>
 some (min J 2147483648)
 ) else(
 some j
 )
 ) λ(q:Int)=>
 if(!(u.Kind=2)) then(
 AB (HS u) λ(M:Int)=>
 AB (AN .i64 (l+M)) λ(O:Int)=>
 some (.nrm (q,(min O 2147483648)))
 ) else(
 some (.nrm (q,l))
 )
 )
 ) λ(w:Int) (A:Int)=>
 AB (AN .i64 (B+1)) λ(T:Int)=>
 some (.inl (w,A,T))
 ) else(
 some (.inr (.nrm (j,l)))
 )
def Iw(d1:List AI):Option (Int):=
 FO (iter (λ(a:Int × Int × Int)=>Il d1 a.1 a.2.1 a.2.2) (0,0,0)) λ(j:Int) (l:Int)=>
 if((2147483647<j)||(2147483647<l)) then(
 some 3
 ) else(
 some 0
 )
def Jx(d1:List AI)(j:Int)(l:Int)(E:Int):Option ((Int × Int × Int) ⊕ (Int × Int)):=
 if(decide (E<(d1.length:Int))) then(
 CT (
 AB (AL d1 E) λ(C:AI)=>
 AB (
 if(!(C.Kind=1)) then(
 AB (AN .i64 (j+C.N)) λ(u:Int)=>
 some u
 ) else(
 some j
 )
 ) λ(q:Int)=>
 if(!(C.Kind=2)) then(
 AB (HS C) λ(F:Int)=>
 AB (AN .i64 (l+F)) λ(A:Int)=>
 some (q,A)
 ) else(
 some (q,l)
 )
 ) λ(w:Int) (B:Int)=>
 AB (AN .i64 (E+1)) λ(I:Int)=>
 some (.inl (w,B,I))
 ) else(
 some (.inr (j,l))
 )
def Jz(d1:List AI):Option (Int × Int):=
 CT (iter (λ(a:Int × Int × Int)=>Jx d1 a.1 a.2.1 a.2.2) (0,0,0)) λ(j:Int) (l:Int)=>
 some (j,l)
def KF(w:List AG)(j:List AC)(q:Int)(l:List AG):Option ((Int × (List AG)) ⊕ (List AG)):=
 if(decide (q<(w.length:Int))) then(
 AB (AL w q) λ(u:AG)=>
 AB (L4 u.Attrs j) λ(A:List AC)=>
 AB (AL l q) λ(C:AG)=>
 AB (AN .i64 (q+1)) λ(B:Int)=>
 some (.inl (B,(l.set q.toNat (AG.mk u.Char u.Ref A))))
 ) else(
 some (.inr l)
 )
def O4(u:List AG)(j:List AC):Option ((List AG)):=
 AB (mk 40 (u.length:Int) (AG.mk 0 0 [])) λ(l:List AG)=>
 AB (iter (λ(a:Int × (List AG))=>KF u j a.1 a.2) (0,l)) λ(q:List AG)=>
 some q
def JO(u:List AG)(l:Int)(j:List AG):Option ((Int × (List AG)) ⊕ (List AG)):=
 if(decide (l<(u.length:Int))) then(
 AB (AL u l) λ(q:AG)=>
 AB (app 32 [] q.Attrs) λ(w:List AC)=>
 AB (AL j l) λ(B:AG)=>
 AB (AN .i64 (l+1)) λ(A:Int)=>
 some (.inl (A,(j.set l.toNat (AG.mk q.Char q.Ref w))))
 ) else(
 some (.inr j)
 )
def Rf(q:List AG):Option ((List AG)):=
 AB (mk 40 (q.length:Int) (AG.mk 0 0 [])) λ(j:List AG)=>
 AB (iter (λ(a:Int × (List AG))=>JO q a.1 a.2) (0,j)) λ(l:List AG)=>
 some l
def RW(j:AI):Option (Int):=
 AB (CX j.Kind 0 2) λ(l:Bool)=>
 if(!l) then(
 some 8
 ) else(
 if(decide (j.Kind=1)) then(
 if((!(j.N=0))||(0<(j.Attrs.length:Int))) then(
 some 4
 ) else(
 if(decide ((j.Elems.length:Int)=0)) then(
 some 11
 ) else(
 AB (Re j.Elems) λ(q:Int)=>
 some q
 )
 )
 ) else(
 if((0<(j.Elems.length:Int))||((j.Kind=2)&&(0<(j.Attrs.length:Int)))) then(
 some 4
 ) else(
 AB (CX j.N 1 2147483647) λ(u:Bool)=>
 if(!u) then(
 some 2
 ) else(
 AB (Hh j.Attrs true) λ(w:Int)=>
 some w
 )
 )
 )
 )
def IX(d1:List AI)(j:Int)(l:Int)(w:Int):Option ((Int × Int × Int) ⊕ (As (Int × Int) Int)):=
 if(decide (w<(d1.length:Int))) then(
 FO (
 AB (AL d1 w) λ(q:AI)=>
 AB (RW q) λ(I:Int)=>
 if(!(I=0)) then(
 some (.ext (.inr (.ext I)))
 ) else(
 Aq (
 if(decide (0<w)) then(
 AB (AN .i64 (w-1)) λ(J:Int)=>
 AB (AL d1 J) λ(A:AI)=>
 if(decide (q.Kind=1)) then(
 if(!(A.Kind=0)) then(
 some (.ext (.ext (.inr (.ext 5))))
 ) else(
 some (.nrm ())
 )
 ) else(
 if(decide (q.Kind=2)) then(
 if(decide (A.Kind=2)) then(
 some (.ext (.ext (.inr (.ext 5))))
 ) else(
 some (.nrm ())
 )
 ) else(
 AB (gd ((decide (A.Kind=0))==true) (GI A.Attrs q.Attrs)) λ(M:Bool)=>
 if((A.Kind=0)&&M) then(
 some (.ext (.ext (.inr (.ext 5))))
 ) else(
 some (.nrm ())
 )
 )
 )
 ) else(
 some (.nrm ())
 )
 ) λ(U:Unit)=>
 AB (
 if((!(q.Kind=1))&&(j<2147483648)) then(
 AB (AN .i64 (j+q.N)) λ(B:Int)=>
 some B
 ) else(
 some j
 )
 ) λ(u:Int)=>
 if((!(q.Kind=2))&&(l<2147483648)) then(
 AB (AN .i64 (q.N+(q.Elems.length:Int))) λ(O:Int)=>
 AB (AN .i64 (l+O)) λ(C:Int)=>
 some (.nrm (u,C))
 ) else(
 some (.nrm (u,l))
 )
 )
 ) λ(E:Int) (F:Int)=>
 AB (AN .i64 (w+1)) λ(T:Int)=>
 some (.inl (E,F,T))
 ) else(
 some (.inr (.nrm (j,l)))
 )
def NC(d1:List AI):Option (Int):=
 FO (iter (λ(a:Int × Int × Int)=>IX d1 a.1 a.2.1 a.2.2) (0,0,0)) λ(j:Int) (l:Int)=>
 if((2147483647<j)||(2147483647<l)) then(
 some 3
 ) else(
 some 0
 )
def L8(j:Ah):Option (Ah):=
 AB (
 if(decide (0<(j.add.length:Int))) then(
 AB (app 64 j.out [(AI.mk 1 0 [] j.add)]) λ(q:List AI)=>
 some (Ah.mk q j.add j.cut)
 ) else(
 some j
 )
 ) λ(l:Ah)=>
 AB (
 if(decide (0<l.cut)) then(
 AB (app 64 l.out [(AI.mk 2 l.cut [] [])]) λ(u:List AI)=>
 some (Ah.mk u l.add l.cut)
 ) else(
 some l
 )
 ) λ(w:Ah)=>
 some (Ah.mk w.out [] 0)
def Gv(A:Ah)(n1:Int)(j:List AC):Option (Ah):=
 if(decide (n1=0)) then(
 some A
 ) else(
 AB (L8 A) λ(l:Ah)=>
 AB (AN .i64 ((l.out.length:Int)-1)) λ(q:Int)=>
 AB (gd ((decide (0≤q))==true) (AL l.out q)) λ(w:AI)=>
 AB (gd (((0≤q)&&(w.Kind=0))==true) (AL l.out q)) λ(B:AI)=>
 AB (gd (((0≤q)&&(w.Kind=0))==true) (HC B.Attrs j)) λ(C:Bool)=>
 if(((0≤q)&&(w.Kind=0))&&C) then(
 AB (AL l.out q) λ(u:AI)=>
 AB (AN .i64 (u.N+n1)) λ(E:Int)=>
 some (Ah.mk (l.out.set q.toNat (AI.mk u.Kind E u.Attrs u.Elems)) [] l.cut)
 ) else(
 AB (app 32 [] j) λ(F:List AC)=>
 AB (app 64 l.out [(AI.mk 0 n1 F [])]) λ(I:List AI)=>
 some (Ah.mk I [] l.cut)
 )
 )
def H2(j:Ah)(l:List AG):Option (Ah):=
 AB (Rf l) λ(q:List AG)=>
 AB (app 40 j.add q) λ(u:List AG)=>
 some (Ah.mk j.out u j.cut)
def Ib(l:Ah):Option ((List AI) × Int × Ah):=
 AB (L8 l) λ(j:Ah)=>
 AB (Iw j.out) λ(q:Int)=>
 if(!(q=0)) then(
 some ([],3,(Ah.mk j.out [] j.cut))
 ) else(
 some (j.out,0,(Ah.mk j.out [] j.cut))
 )
def Jw(d1:List AI)(l:Int)(j:Int):Option ((Int × Int) ⊕ Int):=
 if(decide (j<(d1.length:Int))) then(
 AB (AL d1 j) λ(q:AI)=>
 AB (AN .i64 (l+q.N)) λ(u:Int)=>
 AB (AN .i64 (j+1)) λ(w:Int)=>
 some (.inl (u,w))
 ) else(
 some (.inr l)
 )
def NR(d1:List AI):Option (Int):=
 AB (iter (λ(a:Int × Int)=>Jw d1 a.1 a.2) (0,0)) λ(j:Int)=>
 some j
def KH(C:List AG)(A:Bo)(q:Int)(j:List AG):Option ((Int × (List AG)) ⊕ (List AG)):=
 if(decide (q<(C.length:Int))) then(
 AB (
 AB (AL A.Adds q) λ(E:List AG)=>
 AB (app 40 j E) λ(l:List AG)=>
 AB (AL A.Cuts q) λ(F:Bool)=>
 if(!F) then(
 AB (AL C q) λ(B:AG)=>
 AB (AL A.Attrs q) λ(I:List AC)=>
 AB (H4 B.Attrs I) λ(J:List AC)=>
 AB (app 40 l [(AG.mk B.Char B.Ref J)]) λ(u:List AG)=>
 some u
 ) else(
 some l
 )
 ) λ(w:List AG)=>
 AB (AN .i64 (q+1)) λ(M:Int)=>
 some (.inl (M,w))
 ) else(
 some (.inr j)
 )
def Np(l:List AG)(q:Bo):Option ((List AG)):=
 AB (iter (λ(a:Int × (List AG))=>KH l q a.1 a.2) (0,[])) λ(j:List AG)=>
 AB (AL q.Adds (l.length:Int)) λ(u:List AG)=>
 AB (app 40 j u) λ(w:List AG)=>
 some w
def Ot(j:AG)(l:AG):Option (Bool):=
 AB (gd (((j.Char=l.Char)&&(j.Ref=l.Ref))==true) (GI j.Attrs l.Attrs)) λ(q:Bool)=>
 some (((j.Char=l.Char)&&(j.Ref=l.Ref))&&q)
def OP(l:List AG)(q:List AG)(j:Int):Option (Int ⊕ (As Unit Bool)):=
 if(decide (j<(l.length:Int))) then(
 AB (AL l j) λ(u:AG)=>
 AB (AL q j) λ(w:AG)=>
 AB (Ot u w) λ(A:Bool)=>
 if(!A) then(
 some (.inr (.ext false))
 ) else(
 AB (AN .i64 (j+1)) λ(B:Int)=>
 some (.inl B)
 )
 ) else(
 some (.inr (.nrm ()))
 )
def LS(j:List AG)(l:List AG):Option (Bool):=
 if(!((j.length:Int)=(l.length:Int))) then(
 some false
 ) else(
 Aq (iter (λ(a:Int)=>OP j l a) 0) λ(q:Unit)=>
 some true
 )
def PQ(u:List AI)(A:List AI)(q:Int):Option (Int ⊕ (As Unit Bool)):=
 if(decide (q<(u.length:Int))) then(
 AB (AL u q) λ(j:AI)=>
 AB (AL A q) λ(l:AI)=>
 AB (gd (((!(j.Kind=l.Kind))||(!(j.N=l.N)))==false) (GI j.Attrs l.Attrs)) λ(w:Bool)=>
 AB (gd ((((!(j.Kind=l.Kind))||(!(j.N=l.N)))||(!w))==false) (LS j.Elems l.Elems)) λ(B:Bool)=>
 if((((!(j.Kind=l.Kind))||(!(j.N=l.N)))||(!w))||(!B)) then(
 some (.inr (.ext false))
 ) else(
 AB (AN .i64 (q+1)) λ(C:Int)=>
 some (.inl C)
 )
 ) else(
 some (.inr (.nrm ()))
 )
def NP(j:List AI)(l:List AI):Option (Bool):=
 if(!((j.length:Int)=(l.length:Int))) then(
 some false
 ) else(
 Aq (iter (λ(a:Int)=>PQ j l a) 0) λ(q:Unit)=>
 some true
 )
def Gf(j:BX):Option (Int):=
 if(decide ((j.steps.length:Int)=0)) then(
 some (-1)
 ) else(
 AB (AL j.steps 0) λ(l:AI)=>
 some l.Kind
 )
def Gs(j:BX):Option (Int):=
 AB (AL j.steps 0) λ(l:AI)=>
 AB (HS l) λ(q:Int)=>
 AB (AN .i64 (q-j.used)) λ(u:Int)=>
 some u
def Fx(l:BX)(n1:Int):Option (AI × BX):=
 AB (AL l.steps 0) λ(j:AI)=>
 AB (
 if(decide (j.Kind=1)) then(
 AB (AN .i64 (l.used+n1)) λ(u:Int)=>
 AB (CS j.Elems l.used u) λ(w:List AG)=>
 some (AI.mk j.Kind j.N j.Attrs w)
 ) else(
 some (AI.mk j.Kind n1 j.Attrs j.Elems)
 )
 ) λ(A:AI)=>
 AB (AN .i64 (l.used+n1)) λ(q:Int)=>
 AB (HS j) λ(B:Int)=>
 AB (
 if(decide (q=B)) then(
 AB (CS l.steps 1 (l.steps.length:Int)) λ(C:List AI)=>
 some (BX.mk C 0)
 ) else(
 some (BX.mk l.steps q)
 )
 ) λ(E:BX)=>
 some (A,E)
def Ma(q:Ah)(u:Ah)(E:BX)(B:BX):Option ((Ah × Ah × BX × BX) ⊕ (Ah × Ah)):=
 AB (Gf E) λ(J:Int)=>
 AB (
 if((decide (0≤J))==false) then(
 AB (Gf B) λ(O:Int)=>
 some ((0≤J)||(0≤O))
 ) else(
 some ((0≤J)||false)
 )
 ) λ(x5:Bool)=>
 if x5 then(
 if(decide (J=1)) then(
 AB (Gs E) λ(T:Int)=>
 CT (Fx E T) λ(F:AI) (w3:BX)=>
 AB (H2 q F.Elems) λ(w4:Ah)=>
 AB (Gv u (F.Elems.length:Int) []) λ(w5:Ah)=>
 some (.inl (w4,w5,w3,B))
 ) else(
 AB (Gf B) λ(U:Int)=>
 if(decide (U=1)) then(
 AB (Gs B) λ(V:Int)=>
 CT (Fx B V) λ(I:AI) (w6:BX)=>
 AB (Gv q (I.Elems.length:Int) []) λ(w7:Ah)=>
 AB (H2 u I.Elems) λ(w8:Ah)=>
 some (.inl (w7,w8,E,w6))
 ) else(
 AB (Gs E) λ(j:Int)=>
 AB (Gs B) λ(l:Int)=>
 CT (Fx E (min j l)) λ(C:AI) (M:BX)=>
 CT (Fx B (min j l)) λ(w:AI) (A:BX)=>
 if((C.Kind=0)&&(w.Kind=0)) then(
 AB (PW C.Attrs w.Attrs) λ(X:List AC)=>
 AB (Gv q (min j l) X) λ(Y:Ah)=>
 AB (Gv u (min j l) w.Attrs) λ(Z:Ah)=>
 some (.inl (Y,Z,M,A))
 ) else(
 if(decide (C.Kind=0)) then(
 AB (AN .i64 (u.cut+(min j l))) λ(x6:Int)=>
 some (.inl (q,(Ah.mk u.out u.add x6),M,A))
 ) else(
 if(decide (w.Kind=0)) then(
 AB (AN .i64 (q.cut+(min j l))) λ(x7:Int)=>
 some (.inl ((Ah.mk q.out q.add x7),u,M,A))
 ) else(
 some (.inl (q,u,M,A))
 )
 )
 )
 )
 )
 ) else(
 some (.inr (q,u))
 )
def Ns(j:List AI)(l:List AI):Option ((List AI) × (List AI) × Int):=
 AB (Iw j) λ(q:Int)=>
 if(!(q=0)) then(
 some ([],[],q)
 ) else(
 AB (Iw l) λ(u:Int)=>
 if(!(u=0)) then(
 some ([],[],u)
 ) else(
 CT (Jz j) λ(w:Int) (M:Int)=>
 CT (Jz l) λ(A:Int) (O:Int)=>
 if(!(w=A)) then(
 some ([],[],14)
 ) else(
 CT (iter (λ(a:Ah × Ah × BX × BX)=>Ma a.1 a.2.1 a.2.2.1 a.2.2.2) ((Ah.mk [] [] 0),(Ah.mk [] [] 0),(BX.mk j 0),(BX.mk l 0))) λ(B:Ah) (C:Ah)=>
 FG (Ib B) λ(E:List AI) (F:Int) (T:Ah)=>
 FG (Ib C) λ(I:List AI) (J:Int) (U:Ah)=>
 if((!(F=0))||(!(J=0))) then(
 some ([],[],3)
 ) else(
 some (E,I,0)
 )
 )
 )
 )
def Ki(q:List AG)(j:Bool)(l:Int):Option (Int ⊕ (As Unit Int)):=
 if(decide (l<(q.length:Int))) then(
 AB (AL q l) λ(u:AG)=>
 AB (NA u) λ(w:Int)=>
 if(!(w=0)) then(
 some (.inr (.ext w))
 ) else(
 if((!j)&&(u.Ref=0)) then(
 some (.inr (.ext 8))
 ) else(
 AB (AN .i64 (l+1)) λ(A:Int)=>
 some (.inl A)
 )
 )
 ) else(
 some (.inr (.nrm ()))
 )
def Gp(l:List AG)(j:Bool):Option (Int):=
 Aq (iter (λ(a:Int)=>Ki l j a) 0) λ(w:Unit)=>
 AB (gd ((j==true)&&((decide ((l.length:Int)=0))==false)) (AN .i64 ((l.length:Int)-1))) λ(q:Int)=>
 AB (gd ((j==true)&&((decide ((l.length:Int)=0))==false)) (AL l q)) λ(u:AG)=>
 if(j&&(((l.length:Int)=0)||(!(u.Char=10)))) then(
 some 11
 ) else(
 some 0
 )
def Fk(d1:List AI)(q:Int)(l:Ah):Option ((Int × Ah) ⊕ (As Ah ((List AI) × Int))):=
 if(decide (q<(d1.length:Int))) then(
 Aq (
 AB (AL d1 q) λ(j:AI)=>
 AB (NU j) λ(u:Int)=>
 AB (
 if((((j.Kind=1)&&((j.Elems.length:Int)=0))&&(u=11))||(((!(j.Kind=1))&&(j.N=0))&&(u=2))) then(
 AB (Lh j.Attrs) λ(B:Int)=>
 some B
 ) else(
 some u
 )
 ) λ(w:Int)=>
 if(!(w=0)) then(
 some (.ext (.inr (.ext ([],w))))
 ) else(
 if(decide (j.Kind=0)) then(
 AB (Gv l j.N j.Attrs) λ(C:Ah)=>
 some (.nrm C)
 ) else(
 if(decide (j.Kind=1)) then(
 AB (H2 l j.Elems) λ(E:Ah)=>
 some (.nrm E)
 ) else(
 AB (AN .i64 (l.cut+j.N)) λ(A:Int)=>
 if(decide (2147483647<A)) then(
 some (.ext (.inr (.ext ([],3))))
 ) else(
 some (.nrm (Ah.mk l.out l.add A))
 )
 )
 )
 )
 ) λ(F:Ah)=>
 AB (AN .i64 (q+1)) λ(I:Int)=>
 some (.inl (I,F))
 ) else(
 some (.inr (.nrm l))
 )
def IZ(d1:List AI):Option ((List AI) × Int):=
 Aq (iter (λ(a:Int × Ah)=>Fk d1 a.1 a.2) (0,(Ah.mk [] [] 0))) λ(j:Ah)=>
 FG (Ib j) λ(l:List AI) (q:Int) (u:Ah)=>
 some (l,q)
def LV(q:List AG)(j:Bool)(l:Int):Option (Int ⊕ (As Unit Int)):=
 if(decide (l<(q.length:Int))) then(
 AB (AL q l) λ(u:AG)=>
 AB (Nx u) λ(w:Int)=>
 if(!(w=0)) then(
 some (.inr (.ext w))
 ) else(
 if((!j)&&(!(u.Char=0))) then(
 some (.inr (.ext 8))
 ) else(
 AB (AN .i64 (l+1)) λ(A:Int)=>
 some (.inl A)
 )
 )
 ) else(
 some (.inr (.nrm ()))
 )
def Jl(l:List AG)(j:Bool):Option (Int):=
 Aq (iter (λ(a:Int)=>LV l j a) 0) λ(w:Unit)=>
 AB (gd ((j==true)&&((decide ((l.length:Int)=0))==false)) (AN .i64 ((l.length:Int)-1))) λ(q:Int)=>
 AB (gd ((j==true)&&((decide ((l.length:Int)=0))==false)) (AL l q)) λ(u:AG)=>
 if(j&&(((l.length:Int)=0)||(!(u.Char=10)))) then(
 some 11
 ) else(
 some 0
 )
end
noncomputable section
end
noncomputable section
def Nd(j:Ah)(C:BX)(B:BX):Option ((Ah × BX × BX) ⊕ Ah):=
 AB (Gf C) λ(E:Int)=>
 AB (
 if((decide (0≤E))==false) then(
 AB (Gf B) λ(I:Int)=>
 some ((0≤E)||(0≤I))
 ) else(
 some ((0≤E)||false)
 )
 ) λ(Z:Bool)=>
 if Z then(
 if(decide (E=2)) then(
 AB (Gs C) λ(r9:Int)=>
 CT (Fx C r9) λ(J:AI) (w6:BX)=>
 AB (AN .i64 (j.cut+J.N)) λ(x2:Int)=>
 some (.inl ((Ah.mk j.out j.add x2),w6,B))
 ) else(
 AB (Gf B) λ(M:Int)=>
 if(decide (M=1)) then(
 AB (Gs B) λ(O:Int)=>
 CT (Fx B O) λ(T:AI) (w7:BX)=>
 AB (H2 j T.Elems) λ(w8:Ah)=>
 some (.inl (w8,C,w7))
 ) else(
 AB (Gs C) λ(l:Int)=>
 AB (Gs B) λ(q:Int)=>
 CT (Fx C (min l q)) λ(u:AI) (F:BX)=>
 CT (Fx B (min l q)) λ(w:AI) (A:BX)=>
 if((u.Kind=0)&&(w.Kind=0)) then(
 AB (QV u.Attrs w.Attrs) λ(U:List AC)=>
 AB (Gv j (min l q) U) λ(V:Ah)=>
 some (.inl (V,F,A))
 ) else(
 if(decide (u.Kind=0)) then(
 AB (AN .i64 (j.cut+(min l q))) λ(x3:Int)=>
 some (.inl ((Ah.mk j.out j.add x3),F,A))
 ) else(
 if(decide (w.Kind=0)) then(
 AB (O4 u.Elems w.Attrs) λ(X:List AG)=>
 AB (H2 j X) λ(Y:Ah)=>
 some (.inl (Y,F,A))
 ) else(
 some (.inl (j,F,A))
 )
 )
 )
 )
 )
 ) else(
 some (.inr j)
 )
def Nk(j:List AI)(l:List AI):Option ((List AI) × Int):=
 AB (Iw j) λ(q:Int)=>
 if(!(q=0)) then(
 some ([],q)
 ) else(
 AB (Iw l) λ(u:Int)=>
 if(!(u=0)) then(
 some ([],u)
 ) else(
 CT (Jz j) λ(F:Int) (w:Int)=>
 CT (Jz l) λ(A:Int) (I:Int)=>
 if(!(A=w)) then(
 some ([],14)
 ) else(
 AB (iter (λ(a:Ah × BX × BX)=>Nd a.1 a.2.1 a.2.2) ((Ah.mk [] [] 0),(BX.mk j 0),(BX.mk l 0))) λ(B:Ah)=>
 FG (Ib B) λ(C:List AI) (E:Int) (J:Ah)=>
 some (C,E)
 )
 )
 )
end
noncomputable section
def NZ(j:List AG)(d1:List AI):Option ((List AG)):=
 AB (QW d1) λ(l:Bo)=>
 AB (Np j l) λ(q:List AG)=>
 some q
end
noncomputable section
structure JM where
 lo:Int
 hi:Int
deriving DecidableEq
instance:Inhabited JM:=⟨⟨0,0⟩⟩
@[reducible] def JM.row(x:JM):List RV:=[.int .u8 x.lo,.int .u8 x.hi]
def Tu:List JM:=KC.map λp=>JM.mk p.1 p.2
def P3(A:List UInt8):Option (Int × Int):=
 if(decide ((A.length:Int)<1)) then(
 some (65533,0)
 ) else(
 AB (AL A 0) λ(j:UInt8)=>
 AB (AL GX (j.toNat:Int)) λ(u:Int)=>
 if(decide (240≤u)) then(
 some ((EZ .i32 (RZ .i32 (IntKind.i32.wrap (j.toNat:Int)) (Eu .i32 (DV .i32 (IntKind.i32.wrap u) 31) 31)) (Cj .i32 65533 (Eu .i32 (DV .i32 (IntKind.i32.wrap u) 31) 31))),1)
 ) else(
 AB (AL Tu (Eu .u8 u 4)) λ(B:JM)=>
 if(decide ((A.length:Int)<(IntKind.i64.wrap (Cj .u8 u 7)))) then(
 some (65533,1)
 ) else(
 AB (AL A 1) λ(l:UInt8)=>
 if(((l.toNat:Int)<B.lo)||(B.hi<(l.toNat:Int))) then(
 some (65533,1)
 ) else(
 if(decide ((IntKind.i64.wrap (Cj .u8 u 7))≤2)) then(
 some ((EZ .i32 (DV .i32 (IntKind.i32.wrap (Cj .u8 (j.toNat:Int) 31)) 6) (IntKind.i32.wrap (Cj .u8 (l.toNat:Int) 63))),2)
 ) else(
 AB (AL A 2) λ(q:UInt8)=>
 if(((q.toNat:Int)<128)||(191<(q.toNat:Int))) then(
 some (65533,1)
 ) else(
 if(decide ((IntKind.i64.wrap (Cj .u8 u 7))≤3)) then(
 some ((EZ .i32 (EZ .i32 (DV .i32 (IntKind.i32.wrap (Cj .u8 (j.toNat:Int) 15)) 12) (DV .i32 (IntKind.i32.wrap (Cj .u8 (l.toNat:Int) 63)) 6)) (IntKind.i32.wrap (Cj .u8 (q.toNat:Int) 63))),3)
 ) else(
 AB (AL A 3) λ(w:UInt8)=>
 if(((w.toNat:Int)<128)||(191<(w.toNat:Int))) then(
 some (65533,1)
 ) else(
 some ((EZ .i32 (EZ .i32 (EZ .i32 (DV .i32 (IntKind.i32.wrap (Cj .u8 (j.toNat:Int) 7)) 18) (DV .i32 (IntKind.i32.wrap (Cj .u8 (l.toNat:Int) 63)) 12)) (DV .i32 (IntKind.i32.wrap (Cj .u8 (q.toNat:Int) 63)) 6)) (IntKind.i32.wrap (Cj .u8 (w.toNat:Int) 63))),4)
 )
 )
 )
 )
 )
 )
 )
 )
def Qv(j:List UInt8):Option (Int × Int):=
 AB (gd ((!(j=[]))==true) (AL j 0)) λ(l:UInt8)=>
 if((!(j=[]))&&((l.toNat:Int)<128)) then(
 AB (AL j 0) λ(q:UInt8)=>
 some ((IntKind.i32.wrap (q.toNat:Int)),1)
 ) else(
 CT (P3 j) λ(u:Int) (w:Int)=>
 some (u,w)
 )
end
noncomputable section
def Ve(u:List AG)(w:List AG)(q:Int):Option (Int ⊕ (As Unit Bool)):=
 if(decide (q<(u.length:Int))) then(
 AB (AL u q) λ(j:AG)=>
 AB (AL w q) λ(l:AG)=>
 AB (gd (((!(j.Char=l.Char))||(!(j.Ref=l.Ref)))==false) (HC j.Attrs l.Attrs)) λ(A:Bool)=>
 if(((!(j.Char=l.Char))||(!(j.Ref=l.Ref)))||(!A)) then(
 some (.inr (.ext false))
 ) else(
 AB (AN .i64 (q+1)) λ(B:Int)=>
 some (.inl B)
 )
 ) else(
 some (.inr (.nrm ()))
 )
def U8(j:List AG)(l:List AG):Option (Bool):=
 if(!((j.length:Int)=(l.length:Int))) then(
 some false
 ) else(
 Aq (iter (λ(a:Int)=>Ve j l a) 0) λ(q:Unit)=>
 some true
 )
def MA(w:List AG)(u:Int)(j:List Int):Option ((Int × (List Int)) ⊕ (List Int)):=
 if(decide (u<(w.length:Int))) then(
 AB (
 AB (AL w u) λ(A:AG)=>
 if(!(A.Ref=0)) then(
 AB (app 8 j [A.Ref]) λ(l:List Int)=>
 some l
 ) else(
 some j
 )
 ) λ(q:List Int)=>
 AB (AN .i64 (u+1)) λ(B:Int)=>
 some (.inl (B,q))
 ) else(
 some (.inr j)
 )
def vr(l:List AG):Option ((List Int)):=
 AB (iter (λ(a:Int × (List Int))=>MA l a.1 a.2) (0,[])) λ(j:List Int)=>
 some j
end
noncomputable section
end
noncomputable section
structure Bc where
 Nodes:List AX
deriving DecidableEq
instance:Inhabited Bc:=⟨⟨[]⟩⟩
@[reducible] def Bc.row(x:Bc):List RV:=[.sl (x.Nodes.map AX.row)]
def F7(j:Int):Option (Bool):=
 some ((((j=1)||(j=3))||(j=4))||(j=12))
def Iq(j:Int):Option (Bool):=
 some ((j=0)||(j=7))
def JE(j:Int):Option (Bool):=
 some ((j=2)||(j=6))
def PJ(j:List Ax)(w:List Ax)(l:Int):Option (Int ⊕ (As Unit Bool)):=
 if(decide (l<(j.length:Int))) then(
 AB (AL j l) λ(q:Ax)=>
 AB (AL w l) λ(u:Ax)=>
 if(!((q.Row=u.Row)&&((q.Col=u.Col)&&((q.H=u.H)&&((q.W=u.W)&&true))))) then(
 some (.inr (.ext false))
 ) else(
 AB (AN .i64 (l+1)) λ(A:Int)=>
 some (.inl A)
 )
 ) else(
 some (.inr (.nrm ()))
 )
def Qy(j:List Ax)(l:List Ax):Option (Bool):=
 if(!((j.length:Int)=(l.length:Int))) then(
 some false
 ) else(
 Aq (iter (λ(a:Int)=>PJ j l a) 0) λ(q:Unit)=>
 some true
 )
def OU(j:A0)(l:A0):Option (Bool):=
 AB (gd (((((j.Row=l.Row)&&(j.Col=l.Col))&&(j.Text=l.Text))&&(j.Ref=l.Ref))==true) (HC j.Attrs l.Attrs)) λ(q:Bool)=>
 some (((((j.Row=l.Row)&&(j.Col=l.Col))&&(j.Text=l.Text))&&(j.Ref=l.Ref))&&q)
def P1(j:List A0)(q:List A0)(l:Int):Option (Int ⊕ (As Unit Bool)):=
 if(decide (l<(j.length:Int))) then(
 AB (AL j l) λ(u:A0)=>
 AB (AL q l) λ(w:A0)=>
 AB (OU u w) λ(A:Bool)=>
 if(!A) then(
 some (.inr (.ext false))
 ) else(
 AB (AN .i64 (l+1)) λ(B:Int)=>
 some (.inl B)
 )
 ) else(
 some (.inr (.nrm ()))
 )
def Pm(j:List A0)(l:List A0):Option (Bool):=
 if(!((j.length:Int)=(l.length:Int))) then(
 some false
 ) else(
 Aq (iter (λ(a:Int)=>P1 j l a) 0) λ(q:Unit)=>
 some true
 )
def Lw(j:A1)(l:A1):Option (Bool):=
 AB (gd (((j.Rows=l.Rows)&&(j.Cols=l.Cols))==true) (Qy j.Merges l.Merges)) λ(q:Bool)=>
 AB (gd ((((j.Rows=l.Rows)&&(j.Cols=l.Cols))&&q)==true) (Pm j.Cells l.Cells)) λ(u:Bool)=>
 some ((((j.Rows=l.Rows)&&(j.Cols=l.Cols))&&q)&&u)
def HB(j:Int):Option (Bool):=
 some (((j=8)||(j=9))||(j=10))
def F3(l:List UInt8):Option ((List UInt8) ⊕ (As Unit Bool)):=
 if(!(l=[])) then(
 CT (Qv l) λ(j:Int) (q:Int)=>
 AB (gd ((((j=65533)&&(q=1))||(j=10))==false) (MQ (IntKind.i64.wrap j))) λ(u:Bool)=>
 if((((j=65533)&&(q=1))||(j=10))||(!u)) then(
 some (.inr (.ext false))
 ) else(
 AB (CS l q (l.length:Int)) λ(w:List UInt8)=>
 some (.inl w)
 )
 ) else(
 some (.inr (.nrm ()))
 )
def QR(j:List UInt8):Option (Bool):=
 Aq (iter (λ(a:(List UInt8))=>F3 a) j) λ(l:Unit)=>
 some true
def PH(j:A0):Option (Bool):=
 some (((j.Text=[])&&(j.Ref=0))&&((j.Attrs.length:Int)=0))
def RF(j:Int):Option (Bool):=
 some (!(j=j))
def KM(q:Int)(u:Int):Option (Int):=
 AB (RF q) λ(l:Bool)=>
 AB (RF u) λ(j:Bool)=>
 if l then(
 if j then(
 some 0
 ) else(
 some (-1)
 )
 ) else(
 if j then(
 some 1
 ) else(
 if(decide (q<u)) then(
 some (-1)
 ) else(
 if(decide (u<q)) then(
 some 1
 ) else(
 some 0
 )
 )
 )
 )
def Eh(j:List Int)(l:Int):Option (Int ⊕ (As Unit Int)):=
 if(decide (l<(j.length:Int))) then(
 AB (AL j l) λ(q:Int)=>
 if(!(q=0)) then(
 some (.inr (.ext q))
 ) else(
 AB (AN .i64 (l+1)) λ(u:Int)=>
 some (.inl u)
 )
 ) else(
 some (.inr (.nrm ()))
 )
def M3(j:List Int):Option (Int):=
 Aq (iter (λ(a:Int)=>Eh j a) 0) λ(l:Unit)=>
 some 0
def L9(j:A0)(l:A0):Option (Int):=
 AB (KM j.Row l.Row) λ(q:Int)=>
 AB (KM j.Col l.Col) λ(u:Int)=>
 AB (M3 [q,u]) λ(w:Int)=>
 some w
def Rb(A:List A0)(q:Int)(u:Int)(w:Bool)(l:Int):Option (Int ⊕ (As Unit Int)):=
 if(decide (l<(A.length:Int))) then(
 AB (AL A l) λ(j:A0)=>
 if((((j.Row<0)||(q≤j.Row))||(j.Col<0))||(u≤j.Col)) then(
 some (.inr (.ext 2))
 ) else(
 if((j.Ref<0)||(1073741824<j.Ref)) then(
 some (.inr (.ext 2))
 ) else(
 AB (QR j.Text) λ(C:Bool)=>
 if(!C) then(
 some (.inr (.ext 23))
 ) else(
 AB (HM j.Attrs) λ(B:Int)=>
 if(!(B=0)) then(
 some (.inr (.ext B))
 ) else(
 AB (PH j) λ(E:Bool)=>
 if(E&&(!w)) then(
 some (.inr (.ext 4))
 ) else(
 AB (gd ((decide (0<l))==true) (AN .i64 (l-1))) λ(F:Int)=>
 AB (gd ((decide (0<l))==true) (AL A F)) λ(I:A0)=>
 AB (gd ((decide (0<l))==true) (L9 I j)) λ(J:Int)=>
 if((0<l)&&(0≤J)) then(
 some (.inr (.ext 5))
 ) else(
 AB (AN .i64 (l+1)) λ(M:Int)=>
 some (.inl M)
 )
 )
 )
 )
 )
 )
 ) else(
 some (.inr (.nrm ()))
 )
def Q7(u:List A0)(j:Int)(l:Int)(q:Bool):Option (Int):=
 Aq (iter (λ(a:Int)=>Rb u j l q a) 0) λ(w:Unit)=>
 some 0
def O3(j:Ax)(l:Int)(q:Int):Option (Bool):=
 AB (gd (((((((0≤j.Row)&&(0≤j.Col))&&(1≤j.H))&&(1≤j.W))&&(j.Row<l))&&(j.Col<q))==true) (AN .i64 (l-j.Row))) λ(u:Int)=>
 AB (gd ((((((((0≤j.Row)&&(0≤j.Col))&&(1≤j.H))&&(1≤j.W))&&(j.Row<l))&&(j.Col<q))&&(j.H≤u))==true) (AN .i64 (q-j.Col))) λ(w:Int)=>
 some ((((((((0≤j.Row)&&(0≤j.Col))&&(1≤j.H))&&(1≤j.W))&&(j.Row<l))&&(j.Col<q))&&(j.H≤u))&&(j.W≤w))
def Qg(j:Ax)(l:Ax):Option (Bool):=
 some ((j.Row<l.Row)||((j.Row=l.Row)&&(j.Col<l.Col)))
def Oh(j:Ax)(l:Ax):Option (Bool):=
 AB (AN .i64 (l.Row+l.H)) λ(q:Int)=>
 AB (gd ((decide (j.Row<q))==true) (AN .i64 (j.Row+j.H))) λ(u:Int)=>
 AB (gd (((j.Row<q)&&(l.Row<u))==true) (AN .i64 (l.Col+l.W))) λ(w:Int)=>
 AB (gd ((((j.Row<q)&&(l.Row<u))&&(j.Col<w))==true) (AN .i64 (j.Col+j.W))) λ(A:Int)=>
 some ((((j.Row<q)&&(l.Row<u))&&(j.Col<w))&&(l.Col<A))
def SO(j:Ax)(l:Ax):Option (Bool):=
 AB (Oh l j) λ(q:Bool)=>
 some q
def Ou(q:Ax)(l:List Ax)(j:Int):Option (Int ⊕ (As Unit Int)):=
 if(decide (j<(l.length:Int))) then(
 AB (AL l j) λ(u:Ax)=>
 AB (SO q u) λ(w:Bool)=>
 if w then(
 some (.inr (.ext j))
 ) else(
 AB (AN .i64 (j+1)) λ(A:Int)=>
 some (.inl A)
 )
 ) else(
 some (.inr (.nrm ()))
 )
def R3(j:Ax)(l:List Ax):Option (Int):=
 Aq (iter (λ(a:Int)=>Ou j l a) 0) λ(q:Unit)=>
 some (-1)
def Mt(j:Ax)(l:List Ax):Option (Bool):=
 AB (R3 j l) λ(q:Int)=>
 some (decide (0≤q))
def OO(l:A1)(j:Int):Option (Int ⊕ (As Unit Int)):=
 if(decide (j<(l.Merges.length:Int))) then(
 AB (AL l.Merges j) λ(q:Ax)=>
 AB (O3 q l.Rows l.Cols) λ(u:Bool)=>
 if(!u) then(
 some (.inr (.ext 2))
 ) else(
 if((q.H=1)&&(q.W=1)) then(
 some (.inr (.ext 4))
 ) else(
 AB (gd ((decide (0<j))==true) (AN .i64 (j-1))) λ(w:Int)=>
 AB (gd ((decide (0<j))==true) (AL l.Merges w)) λ(A:Ax)=>
 AB (gd ((decide (0<j))==true) (Qg A q)) λ(B:Bool)=>
 if((0<j)&&(!B)) then(
 some (.inr (.ext 5))
 ) else(
 AB (CS l.Merges 0 j) λ(C:List Ax)=>
 AB (Mt q C) λ(E:Bool)=>
 if E then(
 some (.inr (.ext 21))
 ) else(
 AB (AN .i64 (j+1)) λ(F:Int)=>
 some (.inl F)
 )
 )
 )
 )
 ) else(
 some (.inr (.nrm ()))
 )
def LA(j:A1):Option (Int):=
 if((((j.Rows<0)||(2147483647<j.Rows))||(j.Cols<0))||(2147483647<j.Cols)) then(
 some 2
 ) else(
 AB (Q7 j.Cells j.Rows j.Cols false) λ(l:Int)=>
 if(!(l=0)) then(
 some l
 ) else(
 Aq (iter (λ(a:Int)=>OO j a) 0) λ(q:Unit)=>
 some 0
 )
 )
def Qp(j:Int)(u:List A0)(l:Int):Option (Int ⊕ (As Unit Int)):=
 if(decide (l<(u.length:Int))) then(
 AB (AL u l) λ(q:A0)=>
 if(((j=2)&&((!(q.Text=[]))||(0<(q.Attrs.length:Int))))||((j=6)&&(!(q.Ref=0)))) then(
 some (.inr (.ext 4))
 ) else(
 AB (AN .i64 (l+1)) λ(w:Int)=>
 some (.inl w)
 )
 ) else(
 some (.inr (.nrm ()))
 )
def Qf(j:Int)(l:List A0):Option (Int):=
 Aq (iter (λ(a:Int)=>Qp j l a) 0) λ(q:Unit)=>
 some 0
def UD(q:List UInt8)(l:Int):Option (Int ⊕ (As Unit Bool)):=
 if(decide (l<(q.length:Int))) then(
 AB (AL q l) λ(j:UInt8)=>
 if(((j.toNat:Int)<97)||(122<(j.toNat:Int))) then(
 some (.inr (.ext false))
 ) else(
 AB (AN .i64 (l+1)) λ(u:Int)=>
 some (.inl u)
 )
 ) else(
 some (.inr (.nrm ()))
 )
def QQ(j:List UInt8):Option (Bool):=
 AB (gd (((j=[])||(200<(j.length:Int)))==false) (AN .i64 ((j.length:Int)-1))) λ(q:Int)=>
 AB (gd (((j=[])||(200<(j.length:Int)))==false) (AL j q)) λ(l:UInt8)=>
 if(((j=[])||(200<(j.length:Int)))||((l.toNat:Int)=97)) then(
 some false
 ) else(
 Aq (iter (λ(a:Int)=>UD j a) 0) λ(u:Unit)=>
 some true
 )
def RS(j:BS):Option (Int):=
 if((!(j.Kind=0))&&(!(j.Kind=1))) then(
 some 8
 ) else(
 if((((((j.Clock<1)||(1073741824<j.Clock))||(j.Site<0))||(1000<j.Site))||(j.Item<1))||(1073741824<j.Item)) then(
 some 2
 ) else(
 AB (
 if((j.Kind=0)&&((!(j.Name=[]))||(!(j.Value=[])))) then(
 some ((j.Kind=0)&&((!(j.Name=[]))||(!(j.Value=[]))))
 ) else(
 some ((j.Kind=1)&&((!(j.Parent=0))||(!(j.Place=[]))))
 )
 ) λ(q:Bool)=>
 if q then(
 some 4
 ) else(
 if((j.Kind=0)&&((j.Parent<(-1))||(1073741824<j.Parent))) then(
 some 2
 ) else(
 AB (gd ((decide (j.Kind=0))==true) (QQ j.Place)) λ(l:Bool)=>
 AB (
 if((j.Kind=0)&&(!l)) then(
 some ((j.Kind=0)&&(!l))
 ) else(
 AB (gd ((decide (j.Kind=1))==true) (OB j.Name)) λ(u:Bool)=>
 some ((j.Kind=1)&&(!u))
 )
 ) λ(w:Bool)=>
 if w then(
 some 9
 ) else(
 AB (gd (((j.Kind=1)&&(!(j.Value=[])))==true) (Jj j.Value)) λ(A:Bool)=>
 if(((j.Kind=1)&&(!(j.Value=[])))&&(!A)) then(
 some 23
 ) else(
 some 0
 )
 )
 )
 )
 )
 )
def Oi(j:BS)(l:BS):Option (Int):=
 AB (KM j.Clock l.Clock) λ(q:Int)=>
 AB (KM j.Site l.Site) λ(u:Int)=>
 AB (M3 [q,u]) λ(w:Int)=>
 some w
def Od(l:List BS)(j:Int):Option (Int ⊕ (As Unit Int)):=
 if(decide (j<(l.length:Int))) then(
 AB (AL l j) λ(q:BS)=>
 AB (RS q) λ(u:Int)=>
 if(!(u=0)) then(
 some (.inr (.ext u))
 ) else(
 AB (gd ((decide (0<j))==true) (AN .i64 (j-1))) λ(w:Int)=>
 AB (gd ((decide (0<j))==true) (AL l w)) λ(A:BS)=>
 AB (gd ((decide (0<j))==true) (Oi A q)) λ(B:Int)=>
 if((0<j)&&(0≤B)) then(
 some (.inr (.ext 5))
 ) else(
 AB (AN .i64 (j+1)) λ(C:Int)=>
 some (.inl C)
 )
 )
 ) else(
 some (.inr (.nrm ()))
 )
def MF(j:List BS):Option (Int):=
 Aq (iter (λ(a:Int)=>Od j a) 0) λ(l:Unit)=>
 some 0
def Dz(n1:AX):Option (Int):=
 if((n1.ID<1)||(1073741824<n1.ID)) then(
 some 2
 ) else(
 if(((n1.Kind<0)||(13≤n1.Kind))||(!((decide (n1.ID=1))==(decide (n1.Kind=0))))) then(
 some 8
 ) else(
 AB (HM n1.Attrs) λ(w:Int)=>
 if(!(w=0)) then(
 some w
 ) else(
 AB (F7 n1.Kind) λ(l:Bool)=>
 AB (gd (l==false) (Iq n1.Kind)) λ(q:Bool)=>
 AB (JE n1.Kind) λ(j:Bool)=>
 AB (
 if(((!(l||q))&&(0<(n1.Flow.length:Int)))==false) then(
 if((!j)==true) then(
 AB (Lw n1.Grid (A1.mk 0 0 [] [])) λ(A:Bool)=>
 AB (gd ((((!(l||q))&&(0<(n1.Flow.length:Int)))||((!j)&&(!A)))==false) (HB n1.Kind)) λ(C:Bool)=>
 some ((((!(l||q))&&(0<(n1.Flow.length:Int)))||((!j)&&(!A)))||((!C)&&(0<(n1.Draw.length:Int))))
 ) else(
 AB (gd ((((!(l||q))&&(0<(n1.Flow.length:Int)))||((!j)&&false))==false) (HB n1.Kind)) λ(E:Bool)=>
 some ((((!(l||q))&&(0<(n1.Flow.length:Int)))||((!j)&&false))||((!E)&&(0<(n1.Draw.length:Int))))
 )
 ) else(
 AB (gd ((((!(l||q))&&(0<(n1.Flow.length:Int)))||false)==false) (HB n1.Kind)) λ(u:Bool)=>
 some ((((!(l||q))&&(0<(n1.Flow.length:Int)))||false)||((!u)&&(0<(n1.Draw.length:Int))))
 )
 ) λ(F:Bool)=>
 if F then(
 some 4
 ) else(
 if(l||q) then(
 AB (Gp n1.Flow l) λ(I:Int)=>
 some I
 ) else(
 if j then(
 AB (LA n1.Grid) λ(B:Int)=>
 if(!(B=0)) then(
 some B
 ) else(
 AB (Qf n1.Kind n1.Grid.Cells) λ(J:Int)=>
 some J
 )
 ) else(
 AB (MF n1.Draw) λ(M:Int)=>
 some M
 )
 )
 )
 )
 )
 )
def IK(w:List AG)(u:Int)(j:List Int):Option ((Int × (List Int)) ⊕ (List Int)):=
 if(decide (u<(w.length:Int))) then(
 AB (
 AB (AL w u) λ(A:AG)=>
 if(!(A.Ref=0)) then(
 AB (app 8 j [A.Ref]) λ(l:List Int)=>
 some l
 ) else(
 some j
 )
 ) λ(q:List Int)=>
 AB (AN .i64 (u+1)) λ(B:Int)=>
 some (.inl (B,q))
 ) else(
 some (.inr j)
 )
def Pd(l:List AG):Option ((List Int)):=
 AB (iter (λ(a:Int × (List Int))=>IK l a.1 a.2) (0,[])) λ(j:List Int)=>
 some j
def IA(n1:AX)(u:Int)(j:List Int):Option ((Int × (List Int)) ⊕ (List Int)):=
 if(decide (u<(n1.Grid.Cells.length:Int))) then(
 AB (
 AB (AL n1.Grid.Cells u) λ(w:A0)=>
 if(!(w.Ref=0)) then(
 AB (app 8 j [w.Ref]) λ(l:List Int)=>
 some l
 ) else(
 some j
 )
 ) λ(q:List Int)=>
 AB (AN .i64 (u+1)) λ(A:Int)=>
 some (.inl (A,q))
 ) else(
 some (.inr j)
 )
def Kx(n1:AX):Option ((List Int)):=
 AB (Pd n1.Flow) λ(l:List Int)=>
 AB (iter (λ(a:Int × (List Int))=>IA n1 a.1 a.2) (0,l)) λ(j:List Int)=>
 some j
def MJ(n1:AX)(j:Int):Option (Int):=
 if(decide (n1.ID<j)) then(
 some (-1)
 ) else(
 if(decide (j<n1.ID)) then(
 some 1
 ) else(
 some 0
 )
 )
def Mb(A:List AX)(j:Int)(l:Int)(q:Int):Option ((Int × Int) ⊕ Int):=
 if(decide (l<q)) then(
 AB (AN .i64 (l+q)) λ(u:Int)=>
 AB (AL A (IntKind.i64.wrap (Eu .u64 (IntKind.u64.wrap u) 1))) λ(B:AX)=>
 AB (MJ B j) λ(C:Int)=>
 if(decide (C<0)) then(
 AB (AN .i64 ((IntKind.i64.wrap (Eu .u64 (IntKind.u64.wrap u) 1))+1)) λ(w:Int)=>
 some (.inl (w,q))
 ) else(
 some (.inl (l,(IntKind.i64.wrap (Eu .u64 (IntKind.u64.wrap u) 1))))
 )
 ) else(
 some (.inr l)
 )
def UF(l:List AX)(j:Int):Option (Int × Bool):=
 AB (iter (λ(a:Int × Int)=>Mb l j a.1 a.2) (0,(l.length:Int))) λ(i8:Int)=>
 AB (gd ((decide (i8<(l.length:Int)))==true) (AL l i8)) λ(q:AX)=>
 AB (gd ((decide (i8<(l.length:Int)))==true) (MJ q j)) λ(u:Int)=>
 some (i8,((i8<(l.length:Int))&&(u=0)))
def Ni(d1:Bc)(j:Int):Option (Int × Bool):=
 CT (UF d1.Nodes j) λ(l:Int) (q:Bool)=>
 some (l,q)
def Qz(l:List Int)(v1:Int)(j:Int):Option (Int ⊕ (As Unit Int)):=
 if(decide (j<(l.length:Int))) then(
 AB (AL l j) λ(q:Int)=>
 if(decide (v1=q)) then(
 some (.inr (.ext j))
 ) else(
 AB (AN .i64 (j+1)) λ(u:Int)=>
 some (.inl u)
 )
 ) else(
 some (.inr (.nrm ()))
 )
def TF(j:List Int)(v1:Int):Option (Int):=
 Aq (iter (λ(a:Int)=>Qz j v1 a) 0) λ(l:Unit)=>
 some (-1)
def M1(j:List Int)(v1:Int):Option (Bool):=
 AB (TF j v1) λ(l:Int)=>
 some (decide (0≤l))
def M0(j:Int)(l:Int):Option (Bool):=
 AB (
 if(decide (j=0)) then(
 some [1,6,7,10,11,12]
 ) else(
 if(decide (j=1)) then(
 some [2,4,5,10]
 ) else(
 if(decide (j=3)) then(
 some [4,5,10]
 ) else(
 AB (
 if(decide (j=4)) then(
 some (decide (j=4))
 ) else(
 some (decide (j=12))
 )
 ) λ(q:Bool)=>
 if q then(
 some [5]
 ) else(
 if(decide (j=2)) then(
 some [3]
 ) else(
 if(decide (j=7)) then(
 some [8,9]
 ) else(
 some []
 )
 )
 )
 )
 )
 )
 ) λ(u:List Int)=>
 AB (M1 u l) λ(w:Bool)=>
 some w
def MD(d1:Bc)(j:Int)(Hm:List Int)(l:Int):Option (Int ⊕ (As Unit Int)):=
 if(decide (l<(Hm.length:Int))) then(
 AB (AL Hm l) λ(q:Int)=>
 CT (Ni d1 q) λ(u:Int) (w:Bool)=>
 if(!w) then(
 some (.inr (.ext 7))
 ) else(
 AB (AL d1.Nodes u) λ(A:AX)=>
 AB (M0 j A.Kind) λ(B:Bool)=>
 if(!B) then(
 some (.inr (.ext 8))
 ) else(
 AB (AN .i64 (l+1)) λ(C:Int)=>
 some (.inl C)
 )
 )
 ) else(
 some (.inr (.nrm ()))
 )
def Oz(d1:Bc)(j:Int)(Hm:List Int):Option (Int):=
 Aq (iter (λ(a:Int)=>MD d1 j Hm a) 0) λ(l:Unit)=>
 some 0
def Lx(d1:Bc)(j:Int):Option (Int ⊕ (As Unit Int)):=
 if(decide (j<(d1.Nodes.length:Int))) then(
 AB (AL d1.Nodes j) λ(l:AX)=>
 AB (Kx l) λ(u:List Int)=>
 AB (Oz d1 l.Kind u) λ(q:Int)=>
 if(!(q=0)) then(
 some (.inr (.ext q))
 ) else(
 AB (AN .i64 (j+1)) λ(w:Int)=>
 some (.inl w)
 )
 ) else(
 some (.inr (.nrm ()))
 )
def Gb(d1:Bc)(j:Int):Option (Int ⊕ (As Unit Int)):=
 if(decide (j<(d1.Nodes.length:Int))) then(
 AB (AL d1.Nodes j) λ(l:AX)=>
 AB (Dz l) λ(A:Int)=>
 if(!(A=0)) then(
 some (.inr (.ext A))
 ) else(
 AB (gd ((((j=0)&&(!(l.ID=1)))==false)&&((decide (0<j))==true)) (AN .i64 (j-1))) λ(q:Int)=>
 AB (gd ((((j=0)&&(!(l.ID=1)))==false)&&((decide (0<j))==true)) (AL d1.Nodes q)) λ(u:AX)=>
 if(((j=0)&&(!(l.ID=1)))||((0<j)&&(l.ID≤u.ID))) then(
 some (.inr (.ext 5))
 ) else(
 AB (AN .i64 (j+1)) λ(w:Int)=>
 some (.inl w)
 )
 )
 ) else(
 some (.inr (.nrm ()))
 )
def Ed(d1:Bc):Option (Int):=
 if(decide ((d1.Nodes.length:Int)=0)) then(
 some 11
 ) else(
 Aq (iter (λ(a:Int)=>Gb d1 a) 0) λ(j:Unit)=>
 Aq (iter (λ(a:Int)=>Lx d1 a) 0) λ(l:Unit)=>
 some 0
 )
def QI(j:A0)(l:A0):Option (Bool):=
 AB (gd (((((j.Row=l.Row)&&(j.Col=l.Col))&&(j.Text=l.Text))&&(j.Ref=l.Ref))==true) (GI j.Attrs l.Attrs)) λ(q:Bool)=>
 some (((((j.Row=l.Row)&&(j.Col=l.Col))&&(j.Text=l.Text))&&(j.Ref=l.Ref))&&q)
def P2(l:List A0)(q:List A0)(j:Int):Option (Int ⊕ (As Unit Bool)):=
 if(decide (j<(l.length:Int))) then(
 AB (AL l j) λ(u:A0)=>
 AB (AL q j) λ(w:A0)=>
 AB (QI u w) λ(A:Bool)=>
 if(!A) then(
 some (.inr (.ext false))
 ) else(
 AB (AN .i64 (j+1)) λ(B:Int)=>
 some (.inl B)
 )
 ) else(
 some (.inr (.nrm ()))
 )
def M8(j:List A0)(l:List A0):Option (Bool):=
 if(!((j.length:Int)=(l.length:Int))) then(
 some false
 ) else(
 Aq (iter (λ(a:Int)=>P2 j l a) 0) λ(q:Unit)=>
 some true
 )
def Oa(u:List Ax)(w:List Ax)(j:Int):Option (Int ⊕ (As Unit Bool)):=
 if(decide (j<(u.length:Int))) then(
 AB (AL u j) λ(l:Ax)=>
 AB (AL w j) λ(q:Ax)=>
 if(!((l.Row=q.Row)&&((l.Col=q.Col)&&((l.H=q.H)&&((l.W=q.W)&&true))))) then(
 some (.inr (.ext false))
 ) else(
 AB (AN .i64 (j+1)) λ(A:Int)=>
 some (.inl A)
 )
 ) else(
 some (.inr (.nrm ()))
 )
def LK(j:List Ax)(l:List Ax):Option (Bool):=
 if(!((j.length:Int)=(l.length:Int))) then(
 some false
 ) else(
 Aq (iter (λ(a:Int)=>Oa j l a) 0) λ(q:Unit)=>
 some true
 )
def QZ(j:A1)(l:A1):Option (Bool):=
 AB (gd (((j.Rows=l.Rows)&&(j.Cols=l.Cols))==true) (M8 j.Cells l.Cells)) λ(q:Bool)=>
 AB (gd ((((j.Rows=l.Rows)&&(j.Cols=l.Cols))&&q)==true) (LK j.Merges l.Merges)) λ(u:Bool)=>
 some ((((j.Rows=l.Rows)&&(j.Cols=l.Cols))&&q)&&u)
def NS(u:List BS)(w:List BS)(q:Int):Option (Int ⊕ (As Unit Bool)):=
 if(decide (q<(u.length:Int))) then(
 AB (AL u q) λ(j:BS)=>
 AB (AL w q) λ(l:BS)=>
 if(!((j.Clock=l.Clock)&&((j.Site=l.Site)&&((j.Kind=l.Kind)&&((j.Item=l.Item)&&((j.Parent=l.Parent)&&((j.Place=l.Place)&&((j.Name=l.Name)&&((j.Value=l.Value)&&true))))))))) then(
 some (.inr (.ext false))
 ) else(
 AB (AN .i64 (q+1)) λ(A:Int)=>
 some (.inl A)
 )
 ) else(
 some (.inr (.nrm ()))
 )
def Jy(j:List BS)(l:List BS):Option (Bool):=
 if(!((j.length:Int)=(l.length:Int))) then(
 some false
 ) else(
 Aq (iter (λ(a:Int)=>NS j l a) 0) λ(q:Unit)=>
 some true
 )
def JL(j:AX)(l:AX):Option (Bool):=
 AB (gd (((j.ID=l.ID)&&(j.Kind=l.Kind))==true) (GI j.Attrs l.Attrs)) λ(q:Bool)=>
 AB (gd ((((j.ID=l.ID)&&(j.Kind=l.Kind))&&q)==true) (LS j.Flow l.Flow)) λ(u:Bool)=>
 AB (gd (((((j.ID=l.ID)&&(j.Kind=l.Kind))&&q)&&u)==true) (QZ j.Grid l.Grid)) λ(w:Bool)=>
 AB (gd ((((((j.ID=l.ID)&&(j.Kind=l.Kind))&&q)&&u)&&w)==true) (Jy j.Draw l.Draw)) λ(A:Bool)=>
 some ((((((j.ID=l.ID)&&(j.Kind=l.Kind))&&q)&&u)&&w)&&A)
def YW(q:List BS)(w:List BS)(u:Int):Option (Int ⊕ (As Unit Bool)):=
 if(decide (u<(q.length:Int))) then(
 AB (AL q u) λ(j:BS)=>
 AB (AL w u) λ(l:BS)=>
 if(!((j.Clock=l.Clock)&&((j.Site=l.Site)&&((j.Kind=l.Kind)&&((j.Item=l.Item)&&((j.Parent=l.Parent)&&((j.Place=l.Place)&&((j.Name=l.Name)&&((j.Value=l.Value)&&true))))))))) then(
 some (.inr (.ext false))
 ) else(
 AB (AN .i64 (u+1)) λ(A:Int)=>
 some (.inl A)
 )
 ) else(
 some (.inr (.nrm ()))
 )
def YO(j:List BS)(l:List BS):Option (Bool):=
 if(!((j.length:Int)=(l.length:Int))) then(
 some false
 ) else(
 Aq (iter (λ(a:Int)=>YW j l a) 0) λ(q:Unit)=>
 some true
 )
def iF(j:AX)(l:AX):Option (Bool):=
 AB (gd (((j.ID=l.ID)&&(j.Kind=l.Kind))==true) (HC j.Attrs l.Attrs)) λ(q:Bool)=>
 AB (gd ((((j.ID=l.ID)&&(j.Kind=l.Kind))&&q)==true) (U8 j.Flow l.Flow)) λ(u:Bool)=>
 AB (gd (((((j.ID=l.ID)&&(j.Kind=l.Kind))&&q)&&u)==true) (Lw j.Grid l.Grid)) λ(w:Bool)=>
 AB (gd ((((((j.ID=l.ID)&&(j.Kind=l.Kind))&&q)&&u)&&w)==true) (YO j.Draw l.Draw)) λ(A:Bool)=>
 some ((((((j.ID=l.ID)&&(j.Kind=l.Kind))&&q)&&u)&&w)&&A)
def Oe(d1:Bc)(l:Int)(j:Int):Option (Int ⊕ (As Unit Int)):=
 if(decide (j<(d1.Nodes.length:Int))) then(
 AB (AL d1.Nodes j) λ(q:AX)=>
 if(decide (q.ID=l)) then(
 some (.inr (.ext j))
 ) else(
 AB (AN .i64 (j+1)) λ(u:Int)=>
 some (.inl u)
 )
 ) else(
 some (.inr (.nrm ()))
 )
def FP(d1:Bc)(j:Int):Option (Int):=
 Aq (iter (λ(a:Int)=>Oe d1 j a) 0) λ(l:Unit)=>
 some (-1)
def TJ(j:Int):Option (Int):=
 some (Eu .i64 j 16)
end
noncomputable section
def Kp(j:Int):Option (Bool):=
 some ((((j=1)||(j=3))||(j=4))||(j=12))
def L3(j:Int)(l:Int):Option (Bool):=
 AB (
 if(decide (l=1)) then(
 some (decide (l=1))
 ) else(
 if(decide (l=6)) then(
 some (decide (l=6))
 ) else(
 if(decide (l=7)) then(
 some (decide (l=7))
 ) else(
 if(decide (l=11)) then(
 some (decide (l=11))
 ) else(
 some (decide (l=12))
 )
 )
 )
 )
 ) λ(q:Bool)=>
 if q then(
 some (decide (j=0))
 ) else(
 if(decide (l=10)) then(
 some (((j=0)||(j=1))||(j=3))
 ) else(
 if(decide (l=2)) then(
 some (decide (j=1))
 ) else(
 if(decide (l=4)) then(
 some ((j=1)||(j=3))
 ) else(
 if(decide (l=5)) then(
 AB (Kp j) λ(u:Bool)=>
 some u
 ) else(
 if(decide (l=3)) then(
 some (decide (j=2))
 ) else(
 AB (
 if(decide (l=8)) then(
 some (decide (l=8))
 ) else(
 some (decide (l=9))
 )
 ) λ(w:Bool)=>
 if w then(
 some (decide (j=7))
 ) else(
 some false
 )
 )
 )
 )
 )
 )
 )
def TW(j:Int):Option (Bool):=
 some ((j=0)||(j=7))
def Q3(j:A1):Option (Bool):=
 some ((((j.Rows=0)&&(j.Cols=0))&&((j.Cells.length:Int)=0))&&((j.Merges.length:Int)=0))
def P5(j:Int):Option (Bool):=
 some ((j=2)||(j=6))
def T4(j:Int):Option (Bool):=
 some (((j=8)||(j=9))||(j=10))
def Ue(j:List UInt8):Option (Bool):=
 UK j
def F0(l:List UInt8)(j:(Nat)):Option ((Nat) ⊕ (As Unit Bool)):=
 if(decide (j<l.length)) then(
 AB (gd ((decide (((GV l j).1:Int)=10))==false) (Mf (IntKind.i64.wrap ((GV l j).1:Int)))) λ(q:Bool)=>
 if((((GV l j).1:Int)=10)||(!q)) then(
 some (.inr (.ext false))
 ) else(
 some (.inl (j+(GV l j).2))
 )
 ) else(
 some (.inr (.nrm ()))
 )
def RA(j:List UInt8):Option (Bool):=
 AB (Ue j) λ(l:Bool)=>
 if(!l) then(
 some false
 ) else(
 Aq (iter (λ(a:(Nat))=>F0 j a) 0) λ(q:Unit)=>
 some true
 )
def Qh(j:A0):Option (Bool):=
 some (((j.Text=[])&&(j.Ref=0))&&((j.Attrs.length:Int)=0))
def OS(B:List A0)(u:Int)(w:Int)(l:Bool)(q:Int):Option (Int ⊕ (As Unit Int)):=
 if(decide (q<(B.length:Int))) then(
 AB (AL B q) λ(j:A0)=>
 AB (AN .i64 (u-1)) λ(M:Int)=>
 AB (CX j.Row 0 M) λ(C:Bool)=>
 AB (gd ((!C)==false) (AN .i64 (w-1))) λ(O:Int)=>
 AB (gd ((!C)==false) (CX j.Col 0 O)) λ(I:Bool)=>
 AB (gd (((!C)||(!I))==false) (CX j.Ref 0 1073741824)) λ(T:Bool)=>
 if(((!C)||(!I))||(!T)) then(
 some (.inr (.ext 2))
 ) else(
 AB (RA j.Text) λ(U:Bool)=>
 if(!U) then(
 some (.inr (.ext 23))
 ) else(
 AB (Hh j.Attrs false) λ(J:Int)=>
 if(!(J=0)) then(
 some (.inr (.ext J))
 ) else(
 AB (gd ((!l)==true) (Qh j)) λ(V:Bool)=>
 if((!l)&&V) then(
 some (.inr (.ext 4))
 ) else(
 AB (gd ((decide (0<q))==true) (AN .i64 (q-1))) λ(X:Int)=>
 AB (gd ((decide (0<q))==true) (AL B X)) λ(A:A0)=>
 AB (gd ((((decide (0<q))==true)&&((decide (j.Row<A.Row))==false))&&((decide (j.Row=A.Row))==true)) (AN .i64 (q-1))) λ(Y:Int)=>
 AB (gd ((((decide (0<q))==true)&&((decide (j.Row<A.Row))==false))&&((decide (j.Row=A.Row))==true)) (AL B Y)) λ(E:A0)=>
 if((0<q)&&((j.Row<A.Row)||((j.Row=A.Row)&&(j.Col≤E.Col)))) then(
 some (.inr (.ext 5))
 ) else(
 AB (AN .i64 (q+1)) λ(F:Int)=>
 some (.inl F)
 )
 )
 )
 )
 )
 ) else(
 some (.inr (.nrm ()))
 )
def Mr(u:List A0)(j:Int)(l:Int)(q:Bool):Option (Int):=
 Aq (iter (λ(a:Int)=>OS u j l q a) 0) λ(w:Unit)=>
 some 0
def Lp(u:Ax)(j:Int)(l:Int):Option (Bool):=
 AB (AN .i64 (j-1)) λ(B:Int)=>
 AB (CX u.Row 0 B) λ(q:Bool)=>
 AB (gd (q==true) (AN .i64 (l-1))) λ(C:Int)=>
 AB (gd (q==true) (CX u.Col 0 C)) λ(w:Bool)=>
 AB (gd ((q&&w)==true) (AN .i64 (j-u.Row))) λ(E:Int)=>
 AB (gd ((q&&w)==true) (CX u.H 1 E)) λ(A:Bool)=>
 AB (gd (((q&&w)&&A)==true) (AN .i64 (l-u.Col))) λ(F:Int)=>
 AB (gd (((q&&w)&&A)==true) (CX u.W 1 F)) λ(I:Bool)=>
 some (((q&&w)&&A)&&I)
def QN(j:Ax)(l:Ax):Option (Bool):=
 AB (AN .i64 (j.Row+j.H)) λ(q:Int)=>
 AB (AN .i64 (l.Row+l.H)) λ(u:Int)=>
 AB (gd ((decide ((max j.Row l.Row)<(min q u)))==true) (AN .i64 (j.Col+j.W))) λ(w:Int)=>
 AB (gd ((decide ((max j.Row l.Row)<(min q u)))==true) (AN .i64 (l.Col+l.W))) λ(A:Int)=>
 some (((max j.Row l.Row)<(min q u))&&((max j.Col l.Col)<(min w A)))
def RQ(u:A1)(w:Int)(A:Ax)(j:Int):Option (Int ⊕ (As Unit (Int ⊕ (As Unit Int)))):=
 if(decide (j<w)) then(
 AB (AL u.Merges j) λ(l:Ax)=>
 AB (QN A l) λ(B:Bool)=>
 if B then(
 some (.inr (.ext (.inr (.ext 21))))
 ) else(
 AB (AN .i64 (j+1)) λ(q:Int)=>
 some (.inl q)
 )
 ) else(
 some (.inr (.nrm ()))
 )
def Pw(q:A1)(j:Int):Option (Int ⊕ (As Unit Int)):=
 if(decide (j<(q.Merges.length:Int))) then(
 AB (AL q.Merges j) λ(l:Ax)=>
 AB (Lp l q.Rows q.Cols) λ(A:Bool)=>
 if(!A) then(
 some (.inr (.ext 2))
 ) else(
 if((l.H=1)&&(l.W=1)) then(
 some (.inr (.ext 4))
 ) else(
 AB (gd ((decide (0<j))==true) (AN .i64 (j-1))) λ(B:Int)=>
 AB (gd ((decide (0<j))==true) (AL q.Merges B)) λ(u:Ax)=>
 AB (gd ((((decide (0<j))==true)&&((decide (l.Row<u.Row))==false))&&((decide (l.Row=u.Row))==true)) (AN .i64 (j-1))) λ(C:Int)=>
 AB (gd ((((decide (0<j))==true)&&((decide (l.Row<u.Row))==false))&&((decide (l.Row=u.Row))==true)) (AL q.Merges C)) λ(E:Ax)=>
 if((0<j)&&((l.Row<u.Row)||((l.Row=u.Row)&&(l.Col≤E.Col)))) then(
 some (.inr (.ext 5))
 ) else(
 Aq (iter (λ(a:Int)=>RQ q j l a) 0) λ(F:Unit)=>
 AB (AN .i64 (j+1)) λ(w:Int)=>
 some (.inl w)
 )
 )
 )
 ) else(
 some (.inr (.nrm ()))
 )
def Qt(j:A1):Option (Int):=
 AB (CX j.Rows 0 2147483647) λ(l:Bool)=>
 AB (gd ((!l)==false) (CX j.Cols 0 2147483647)) λ(u:Bool)=>
 if((!l)||(!u)) then(
 some 2
 ) else(
 AB (Mr j.Cells j.Rows j.Cols false) λ(q:Int)=>
 if(!(q=0)) then(
 some q
 ) else(
 Aq (iter (λ(a:Int)=>Pw j a) 0) λ(w:Unit)=>
 some 0
 )
 )
def Ph(j:Int)(u:List A0)(l:Int):Option (Int ⊕ (As Unit Int)):=
 if(decide (l<(u.length:Int))) then(
 AB (gd ((decide (j=2))==true) (AL u l)) λ(q:A0)=>
 AB (gd ((((j=2)&&((!(q.Text=[]))||(0<(q.Attrs.length:Int))))==false)&&((decide (j=6))==true)) (AL u l)) λ(w:A0)=>
 if(((j=2)&&((!(q.Text=[]))||(0<(q.Attrs.length:Int))))||((j=6)&&(!(w.Ref=0)))) then(
 some (.inr (.ext 4))
 ) else(
 AB (AN .i64 (l+1)) λ(A:Int)=>
 some (.inl A)
 )
 ) else(
 some (.inr (.nrm ()))
 )
def Qk(j:Int)(l:List A0):Option (Int):=
 Aq (iter (λ(a:Int)=>Ph j l a) 0) λ(q:Unit)=>
 some 0
def Km(q:List UInt8)(l:Int):Option (Int ⊕ (As Unit Bool)):=
 if(decide (l<(q.length:Int))) then(
 AB (AL q l) λ(j:UInt8)=>
 if(((j.toNat:Int)<97)||(122<(j.toNat:Int))) then(
 some (.inr (.ext false))
 ) else(
 AB (AN .i64 (l+1)) λ(u:Int)=>
 some (.inl u)
 )
 ) else(
 some (.inr (.nrm ()))
 )
def Rc(j:List UInt8):Option (Bool):=
 Aq (iter (λ(a:Int)=>Km j a) 0) λ(u:Unit)=>
 AB (gd (((1≤(j.length:Int))&&((j.length:Int)≤200))==true) (AN .i64 ((j.length:Int)-1))) λ(q:Int)=>
 AB (gd (((1≤(j.length:Int))&&((j.length:Int)≤200))==true) (AL j q)) λ(l:UInt8)=>
 some (((1≤(j.length:Int))&&((j.length:Int)≤200))&&(!((l.toNat:Int)=97)))
def Nl(j:BS)(l:BS):Option (Bool):=
 some ((j.Clock<l.Clock)||((j.Clock=l.Clock)&&(j.Site<l.Site)))
def PZ(q:List BS)(l:Int):Option (Int ⊕ (As Unit Int)):=
 if(decide (l<(q.length:Int))) then(
 AB (AL q l) λ(j:BS)=>
 if((!(j.Kind=0))&&(!(j.Kind=1))) then(
 some (.inr (.ext 8))
 ) else(
 AB (CX j.Clock 1 1073741824) λ(u:Bool)=>
 AB (gd ((!u)==false) (CX j.Site 0 1000)) λ(w:Bool)=>
 AB (gd (((!u)||(!w))==false) (CX j.Item 1 1073741824)) λ(A:Bool)=>
 if(((!u)||(!w))||(!A)) then(
 some (.inr (.ext 2))
 ) else(
 Aq (
 if(decide (j.Kind=0)) then(
 if((!(j.Name=[]))||(!(j.Value=[]))) then(
 some (.ext (.inr (.ext 4)))
 ) else(
 AB (CX j.Parent (-1) 1073741824) λ(B:Bool)=>
 if(!B) then(
 some (.ext (.inr (.ext 2)))
 ) else(
 AB (Rc j.Place) λ(C:Bool)=>
 if(!C) then(
 some (.ext (.inr (.ext 9)))
 ) else(
 some (.nrm ())
 )
 )
 )
 ) else(
 if((!(j.Parent=0))||(!(j.Place=[]))) then(
 some (.ext (.inr (.ext 4)))
 ) else(
 AB (OA j.Name) λ(E:Bool)=>
 if(!E) then(
 some (.ext (.inr (.ext 9)))
 ) else(
 AB (gd ((!(j.Value=[]))==true) (LC j.Value)) λ(F:Bool)=>
 if((!(j.Value=[]))&&(!F)) then(
 some (.ext (.inr (.ext 23)))
 ) else(
 some (.nrm ())
 )
 )
 )
 )
 ) λ(T:Unit)=>
 AB (gd ((decide (0<l))==true) (AN .i64 (l-1))) λ(I:Int)=>
 AB (gd ((decide (0<l))==true) (AL q I)) λ(J:BS)=>
 AB (gd ((decide (0<l))==true) (Nl J j)) λ(M:Bool)=>
 if((0<l)&&(!M)) then(
 some (.inr (.ext 5))
 ) else(
 AB (AN .i64 (l+1)) λ(O:Int)=>
 some (.inl O)
 )
 )
 )
 ) else(
 some (.inr (.nrm ()))
 )
def NQ(j:List BS):Option (Int):=
 Aq (iter (λ(a:Int)=>PZ j a) 0) λ(l:Unit)=>
 some 0
def Md(n1:AX):Option (Int):=
 AB (CX n1.ID 1 1073741824) λ(F:Bool)=>
 if(!F) then(
 some 2
 ) else(
 AB (CX n1.Kind 0 12) λ(I:Bool)=>
 if(((!I)||((n1.ID=1)&&(!(n1.Kind=0))))||((!(n1.ID=1))&&(n1.Kind=0))) then(
 some 8
 ) else(
 AB (Hh n1.Attrs false) λ(B:Int)=>
 if(!(B=0)) then(
 some B
 ) else(
 AB (Kp n1.Kind) λ(j:Bool)=>
 AB (gd (j==false) (TW n1.Kind)) λ(l:Bool)=>
 AB (gd (((0<(n1.Flow.length:Int))&&(!(j||l)))==false) (Q3 n1.Grid)) λ(q:Bool)=>
 AB (gd ((((0<(n1.Flow.length:Int))&&(!(j||l)))==false)&&((!q)==true)) (P5 n1.Kind)) λ(C:Bool)=>
 AB (gd (((((0<(n1.Flow.length:Int))&&(!(j||l)))||((!q)&&(!C)))==false)&&((decide (0<(n1.Draw.length:Int)))==true)) (T4 n1.Kind)) λ(J:Bool)=>
 if((((0<(n1.Flow.length:Int))&&(!(j||l)))||((!q)&&(!C)))||((0<(n1.Draw.length:Int))&&(!J))) then(
 some 4
 ) else(
 if(j||l) then(
 AB (Jl n1.Flow j) λ(M:Int)=>
 some M
 ) else(
 AB (P5 n1.Kind) λ(u:Bool)=>
 if u then(
 AB (Qt n1.Grid) λ(E:Int)=>
 if(!(E=0)) then(
 some E
 ) else(
 AB (Qk n1.Kind n1.Grid.Cells) λ(w:Int)=>
 some w
 )
 ) else(
 AB (NQ n1.Draw) λ(A:Int)=>
 some A
 )
 )
 )
 )
 )
 )
def S9(n1:AX)(u:Int)(j:List Int):Option ((Int × (List Int)) ⊕ (List Int)):=
 if(decide (u<(n1.Grid.Cells.length:Int))) then(
 AB (
 AB (AL n1.Grid.Cells u) λ(w:A0)=>
 if(!(w.Ref=0)) then(
 AB (app 8 j [w.Ref]) λ(l:List Int)=>
 some l
 ) else(
 some j
 )
 ) λ(q:List Int)=>
 AB (AN .i64 (u+1)) λ(A:Int)=>
 some (.inl (A,q))
 ) else(
 some (.inr j)
 )
def TO(n1:AX)(w:Int)(j:List Int):Option ((Int × (List Int)) ⊕ (List Int)):=
 if(decide (w<(n1.Flow.length:Int))) then(
 AB (
 AB (AL n1.Flow w) λ(u:AG)=>
 if(!(u.Ref=0)) then(
 AB (app 8 j [u.Ref]) λ(l:List Int)=>
 some l
 ) else(
 some j
 )
 ) λ(q:List Int)=>
 AB (AN .i64 (w+1)) λ(A:Int)=>
 some (.inl (A,q))
 ) else(
 some (.inr j)
 )
def P0(n1:AX):Option ((List Int)):=
 AB (iter (λ(a:Int × (List Int))=>TO n1 a.1 a.2) (0,[])) λ(j:List Int)=>
 AB (iter (λ(a:Int × (List Int))=>S9 n1 a.1 a.2) (0,j)) λ(l:List Int)=>
 some l
def N4(d1:Bc)(j:Int)(Hm:List Int)(l:Int):Option (Int ⊕ (As Unit Int)):=
 if(decide (l<(Hm.length:Int))) then(
 AB (AL Hm l) λ(u:Int)=>
 AB (FP d1 u) λ(q:Int)=>
 if(decide (q<0)) then(
 some (.inr (.ext 7))
 ) else(
 AB (AL d1.Nodes q) λ(w:AX)=>
 AB (L3 j w.Kind) λ(A:Bool)=>
 if(!A) then(
 some (.inr (.ext 8))
 ) else(
 AB (AN .i64 (l+1)) λ(B:Int)=>
 some (.inl B)
 )
 )
 ) else(
 some (.inr (.nrm ()))
 )
def Qm(d1:Bc)(j:Int)(Hm:List Int):Option (Int):=
 Aq (iter (λ(a:Int)=>N4 d1 j Hm a) 0) λ(l:Unit)=>
 some 0
def Kn(d1:Bc)(j:Int):Option (Int ⊕ (As Unit Int)):=
 if(decide (j<(d1.Nodes.length:Int))) then(
 AB (AL d1.Nodes j) λ(l:AX)=>
 AB (P0 l) λ(u:List Int)=>
 AB (Qm d1 l.Kind u) λ(q:Int)=>
 if(!(q=0)) then(
 some (.inr (.ext q))
 ) else(
 AB (AN .i64 (j+1)) λ(w:Int)=>
 some (.inl w)
 )
 ) else(
 some (.inr (.nrm ()))
 )
def MI(d1:Bc)(j:Int):Option (Int ⊕ (As Unit Int)):=
 if(decide (j<(d1.Nodes.length:Int))) then(
 AB (AL d1.Nodes j) λ(A:AX)=>
 AB (Md A) λ(B:Int)=>
 if(!(B=0)) then(
 some (.inr (.ext B))
 ) else(
 AB (gd ((decide (j=0))==true) (AL d1.Nodes 0)) λ(l:AX)=>
 AB (gd ((((j=0)&&(!(l.ID=1)))==false)&&((decide (0<j))==true)) (AN .i64 (j-1))) λ(q:Int)=>
 AB (gd ((((j=0)&&(!(l.ID=1)))==false)&&((decide (0<j))==true)) (AL d1.Nodes q)) λ(u:AX)=>
 if(((j=0)&&(!(l.ID=1)))||((0<j)&&(A.ID≤u.ID))) then(
 some (.inr (.ext 5))
 ) else(
 AB (AN .i64 (j+1)) λ(w:Int)=>
 some (.inl w)
 )
 )
 ) else(
 some (.inr (.nrm ()))
 )
def ME(d1:Bc):Option (Int):=
 if(decide ((d1.Nodes.length:Int)=0)) then(
 some 11
 ) else(
 Aq (iter (λ(a:Int)=>MI d1 a) 0) λ(j:Unit)=>
 Aq (iter (λ(a:Int)=>Kn d1 a) 0) λ(l:Unit)=>
 some 0
 )
end
noncomputable section
structure Am where
 Node:Int
 From:Int
 To:Int
deriving DecidableEq
instance:Inhabited Am:=⟨⟨0,0,0⟩⟩
@[reducible] def Am.row(x:Am):List RV:=[.int .i64 x.Node,.int .i64 x.From,.int .i64 x.To]
structure Cd where
 node:AX
 shown:List Int
 author:List UInt8
deriving DecidableEq
instance:Inhabited Cd:=⟨⟨(AX.mk 0 0 [] [] (A1.mk 0 0 [] []) []),[],[]⟩⟩
def cF:Option (Bool):=
 some true
def fq:Option (Bool):=
 some true
def Ti:Option (Bool):=
 some true
def RL(d1:Bc)(j:Int):Option (Int):=
 CT (Ni d1 j) λ(l:Int) (q:Bool)=>
 if q then(
 some l
 ) else(
 some (-1)
 )
def MC(d1:Bc)(l:Am)(j:List UInt8):Option (Cd × Int):=
 AB (Ed d1) λ(u:Int)=>
 if(!(u=0)) then(
 some ((Cd.mk (AX.mk 0 0 [] [] (A1.mk 0 0 [] []) []) [] []),u)
 ) else(
 AB (RL d1 l.Node) λ(w:Int)=>
 if(decide (w<0)) then(
 some ((Cd.mk (AX.mk 0 0 [] [] (A1.mk 0 0 [] []) []) [] []),7)
 ) else(
 AB (AL d1.Nodes w) λ(q:AX)=>
 AB (F7 q.Kind) λ(B:Bool)=>
 if(!B) then(
 some ((Cd.mk (AX.mk 0 0 [] [] (A1.mk 0 0 [] []) []) [] []),8)
 ) else(
 AB (Pg q.Flow 0) λ(A:List Int)=>
 if(((l.From<0)||(l.To<l.From))||((A.length:Int)≤l.To)) then(
 some ((Cd.mk (AX.mk 0 0 [] [] (A1.mk 0 0 [] []) []) [] []),2)
 ) else(
 AB (gd ((!(j=[]))==true) (Jj j)) λ(C:Bool)=>
 if((!(j=[]))&&(!C)) then(
 some ((Cd.mk (AX.mk 0 0 [] [] (A1.mk 0 0 [] []) []) [] []),23)
 ) else(
 some ((Cd.mk q A j),0)
 )
 )
 )
 )
 )
def Ll(j:Cd)(l:Int):Option (AG):=
 if((l<0)||((j.shown.length:Int)≤l)) then(
 some (AG.mk 10 0 [])
 ) else(
 AB (AL j.shown l) λ(q:Int)=>
 AB (AL j.node.Flow q) λ(u:AG)=>
 some u
 )
def Nn(d1:Bc)(j:Am):Option (Int):=
 AB (ME d1) λ(l:Int)=>
 if(!(l=0)) then(
 some l
 ) else(
 AB (FP d1 j.Node) λ(q:Int)=>
 if(decide (q<0)) then(
 some 7
 ) else(
 AB (AL d1.Nodes q) λ(u:AX)=>
 AB (Kp u.Kind) λ(w:Bool)=>
 if(!w) then(
 some 8
 ) else(
 AB (H7 u.Flow 0) λ(A:List Int)=>
 if(((j.From<0)||(j.To<j.From))||((A.length:Int)≤j.To)) then(
 some 2
 ) else(
 some 0
 )
 )
 )
 )
def Pt(j:DW)(l:DW):Option (Bool):=
 AB (ND j.Rows l.Rows) λ(q:Bool)=>
 AB (gd (q==true) (ND j.Cols l.Cols)) λ(u:Bool)=>
 AB (gd ((q&&u)==true) (M8 j.Cells l.Cells)) λ(w:Bool)=>
 AB (gd (((q&&u)&&w)==true) (LK j.Split l.Split)) λ(A:Bool)=>
 AB (gd ((((q&&u)&&w)&&A)==true) (LK j.Merge l.Merge)) λ(B:Bool)=>
 some ((((q&&u)&&w)&&A)&&B)
def IY(j:Ai)(l:Ai):Option (Bool):=
 AB (gd (((j.Kind=l.Kind)&&(j.Node=l.Node))==true) (JL j.New l.New)) λ(q:Bool)=>
 AB (gd ((((j.Kind=l.Kind)&&(j.Node=l.Node))&&q)==true) (GI j.Attrs l.Attrs)) λ(u:Bool)=>
 AB (gd (((((j.Kind=l.Kind)&&(j.Node=l.Node))&&q)&&u)==true) (NP j.Steps l.Steps)) λ(w:Bool)=>
 AB (gd ((((((j.Kind=l.Kind)&&(j.Node=l.Node))&&q)&&u)&&w)==true) (Pt j.Grid l.Grid)) λ(A:Bool)=>
 AB (gd (((((((j.Kind=l.Kind)&&(j.Node=l.Node))&&q)&&u)&&w)&&A)==true) (Jy j.Draw l.Draw)) λ(B:Bool)=>
 some (((((((j.Kind=l.Kind)&&(j.Node=l.Node))&&q)&&u)&&w)&&A)&&B)
end
noncomputable section
def Ms(l:List (List UInt8))(v1:List UInt8)(j:Int):Option (Int ⊕ (As Unit Int)):=
 if(decide (j<(l.length:Int))) then(
 AB (AL l j) λ(q:List UInt8)=>
 if(decide (v1=q)) then(
 some (.inr (.ext j))
 ) else(
 AB (AN .i64 (j+1)) λ(u:Int)=>
 some (.inl u)
 )
 ) else(
 some (.inr (.nrm ()))
 )
def UM(j:List (List UInt8))(v1:List UInt8):Option (Int):=
 Aq (iter (λ(a:Int)=>Ms j v1 a) 0) λ(l:Unit)=>
 some (-1)
def QB(j:List (List UInt8))(v1:List UInt8):Option (Bool):=
 AB (UM j v1) λ(l:Int)=>
 some (decide (0≤l))
def PG(j:List UInt8):Option (Bool):=
 AB (QB [[98,111,108,100],[105,116,97,108,105,99],[117,110,100,101,114],[115,116,114,105,107,101],[102,105,120,101,100],[114,97,105,115,101],[115,105,122,101],[99,111,108,111,117,114],[108,97,110,103],[115,116,121,108,101]] j) λ(l:Bool)=>
 some l
def Qq(j:List UInt8):Option (Bool):=
 AB (gd ((((j=[108,105,110,107])||(j=[108,111,99,107]))==false)&&((decide (7<(j.length:Int)))==true)) (CS j 0 7)) λ(l:List UInt8)=>
 AB (gd (((((j=[108,105,110,107])||(j=[108,111,99,107]))||((7<(j.length:Int))&&(l=[114,101,109,97,114,107,46])))==false)&&((decide (5<(j.length:Int)))==true)) (CS j 0 5)) λ(q:List UInt8)=>
 some ((((j=[108,105,110,107])||(j=[108,111,99,107]))||((7<(j.length:Int))&&(l=[114,101,109,97,114,107,46])))||((5<(j.length:Int))&&(q=[109,97,114,107,46])))
def L2(A:Int)(B:AG)(E:AG)(j:List AC)(w:Int):Option (((List AC) × Int) ⊕ (List AC)):=
 if(decide (w<(B.Attrs.length:Int))) then(
 AB (
 AB (AL B.Attrs w) λ(u:AC)=>
 AB (Qq u.Name) λ(C:Bool)=>
 AB (gd ((C&&(0<A))==true) (G9 E.Attrs u.Name)) λ(F:List UInt8)=>
 if((C&&(0<A))&&(F=u.Value)) then(
 AB (L4 j [u]) λ(l:List AC)=>
 some l
 ) else(
 some j
 )
 ) λ(q:List AC)=>
 AB (AN .i64 (w+1)) λ(I:Int)=>
 some (.inl (q,I))
 ) else(
 some (.inr j)
 )
def KY(j:AG)(A:Int)(l:List AC):Option ((Int × (List AC)) ⊕ (As Unit (List AC))):=
 if(decide (A<(j.Attrs.length:Int))) then(
 AB (
 AB (AL j.Attrs A) λ(w:AC)=>
 AB (PG w.Name) λ(C:Bool)=>
 if C then(
 AB (app 32 l [w]) λ(q:List AC)=>
 some q
 ) else(
 some l
 )
 ) λ(u:List AC)=>
 AB (AN .i64 (A+1)) λ(B:Int)=>
 some (.inl (B,u))
 ) else(
 some (.inr (.ext l))
 )
def Nh(A:Cd)(u:Int):Option ((List AC)):=
 AB (AN .i64 (u-1)) λ(C:Int)=>
 AB (Ll A C) λ(w:AG)=>
 AB (Ll A u) λ(B:AG)=>
 AB (
 if(decide (w.Char=10)) then(
 some B
 ) else(
 some w
 )
 ) λ(j:AG)=>
 AB (
 if(!(j.Char=10)) then(
 Aq (iter (λ(a:Int × (List AC))=>KY j a.1 a.2) (0,[])) λ(E:Unit)=>
 none
 ) else(
 some []
 )
 ) λ(l:List AC)=>
 AB (iter (λ(a:(List AC) × Int)=>L2 u w B a.1 a.2) (l,0)) λ(q:List AC)=>
 some q
def Ka(B:List AG)(j:List UInt8)(q:List Bool)(w:Int)(l:List AI):Option ((Int × (List AI)) ⊕ (List AI)):=
 if(decide (w<(B.length:Int))) then(
 AB (AL B w) λ(C:AG)=>
 AB (
 AB (AL q w) λ(E:Bool)=>
 if(!E) then(
 some (AI.mk 0 1 [] [])
 ) else(
 AB (gd ((decide (j=[]))==false) (G9 C.Attrs [97,100,100])) λ(F:List UInt8)=>
 if((j=[])||(F=j)) then(
 some (AI.mk 2 1 [] [])
 ) else(
 some (AI.mk 0 1 [(AC.mk [99,117,116] j)] [])
 )
 )
 ) λ(A:AI)=>
 AB (app 64 l [(AI.mk A.Kind A.N A.Attrs [])]) λ(u:List AI)=>
 AB (AN .i64 (w+1)) λ(I:Int)=>
 some (.inl (I,u))
 ) else(
 some (.inr l)
 )
def KU(j:List Int)(u:Int)(l:List Bool):Option ((Int × (List Bool)) ⊕ (List Bool)):=
 if(decide (u<(j.length:Int))) then(
 AB (AL j u) λ(q:Int)=>
 AB (AL l q) λ(A:Bool)=>
 AB (AN .i64 (u+1)) λ(w:Int)=>
 some (.inl (w,(l.set q.toNat true)))
 ) else(
 some (.inr l)
 )
def Pc(A:List AG)(j:List Int)(l:List UInt8):Option ((List AI)):=
 AB (mk 1 (A.length:Int) false) λ(q:List Bool)=>
 AB (iter (λ(a:Int × (List Bool))=>KU j a.1 a.2) (0,q)) λ(u:List Bool)=>
 AB (iter (λ(a:Int × (List AI))=>Ka A l u a.1 a.2) (0,[])) λ(w:List AI)=>
 CT (IZ w) λ(B:List AI) (C:Int)=>
 some B
def QC(j:List Int)(l:Int):Option (Int):=
 if(decide (l=0)) then(
 some 0
 ) else(
 AB (AN .i64 (l-1)) λ(q:Int)=>
 AB (AL j q) λ(u:Int)=>
 AB (AN .i64 (u+1)) λ(w:Int)=>
 some w
 )
def J0(u:List AG)(l:Int)(j:List AG):Option ((Int × (List AG)) ⊕ (List AG)):=
 if(decide (l<(u.length:Int))) then(
 AB (AL u l) λ(q:AG)=>
 AB (app 32 [] q.Attrs) λ(w:List AC)=>
 AB (AL j l) λ(B:AG)=>
 AB (AN .i64 (l+1)) λ(A:Int)=>
 some (.inl (A,(j.set l.toNat (AG.mk q.Char q.Ref w))))
 ) else(
 some (.inr j)
 )
def RP(q:List AG):Option ((List AG)):=
 AB (mk 40 (q.length:Int) (AG.mk 0 0 [])) λ(j:List AG)=>
 AB (iter (λ(a:Int × (List AG))=>J0 q a.1 a.2) (0,j)) λ(l:List AG)=>
 some l
def LE(j:List UInt8)(w:List AG)(l:Int)(q:List AG):Option ((Int × (List AG)) ⊕ (List AG)):=
 if(decide (l<(w.length:Int))) then(
 AB (AL q l) λ(u:AG)=>
 AB (L4 u.Attrs [(AC.mk [97,100,100] j),(AC.mk [99,117,116] [])]) λ(A:List AC)=>
 AB (AN .i64 (l+1)) λ(B:Int)=>
 some (.inl (B,(q.set l.toNat (AG.mk u.Char u.Ref A))))
 ) else(
 some (.inr q)
 )
def O7(w:List AG)(q:Int)(l:List AG)(j:List UInt8):Option ((List AI)):=
 AB (RP l) λ(u:List AG)=>
 AB (iter (λ(a:Int × (List AG))=>LE j u a.1 a.2) (0,u)) λ(A:List AG)=>
 AB (AN .i64 ((w.length:Int)-q)) λ(B:Int)=>
 CT (IZ [(AI.mk 0 q [] []),(AI.mk 1 0 [] A),(AI.mk 0 B [] [])]) λ(C:List AI) (E:Int)=>
 some C
def MP(q:Cd)(u:Am)(j:List AG):Option ((List Ai) × Am × Int):=
 AB (CS q.shown u.From u.To) λ(F:List Int)=>
 AB (Pc q.node.Flow F q.author) λ(l:List AI)=>
 AB (QC q.shown u.From) λ(w:Int)=>
 AB (O7 q.node.Flow w j q.author) λ(A:List AI)=>
 FG (Ns A l) λ(I:List AI) (M:List AI) (B:Int)=>
 if(!(B=0)) then(
 some ([],(Am.mk 0 0 0),B)
 ) else(
 CT (Nk l I) λ(J:List AI) (C:Int)=>
 if(!(C=0)) then(
 some ([],(Am.mk 0 0 0),C)
 ) else(
 AB (AN .i64 (u.From+(j.length:Int))) λ(E:Int)=>
 some ([(Ai.mk 2 u.Node (AX.mk 0 0 [] [] (A1.mk 0 0 [] []) []) [] J (DW.mk [] [] [] [] []) [])],(Am.mk u.Node E E),0)
 )
 )
def Gd(d1:Bc)(q:Am)(j:List UInt8):Option (Int):=
 AB (Nn d1 q) λ(l:Int)=>
 if(!(l=0)) then(
 some l
 ) else(
 AB (gd ((!(j=[]))==true) (LC j)) λ(u:Bool)=>
 if((!(j=[]))&&(!u)) then(
 some 23
 ) else(
 some 0
 )
 )
def MM(w:List AG)(u:List Int)(q:Int)(j:List AG):Option ((Int × (List AG)) ⊕ (List AG)):=
 if(decide (q<(u.length:Int))) then(
 AB (AL u q) λ(A:Int)=>
 AB (AL w A) λ(B:AG)=>
 AB (app 40 j [B]) λ(l:List AG)=>
 AB (AN .i64 (q+1)) λ(C:Int)=>
 some (.inl (C,l))
 ) else(
 some (.inr j)
 )
def LF(l:List AG):Option ((List AG)):=
 AB (H7 l 0) λ(q:List Int)=>
 AB (iter (λ(a:Int × (List AG))=>MM l q a.1 a.2) (0,[])) λ(j:List AG)=>
 some j
def PM(j:List UInt8):Option (Bool):=
 AB (
 if(decide (j=[98,111,108,100])) then(
 some (decide (j=[98,111,108,100]))
 ) else(
 if(decide (j=[105,116,97,108,105,99])) then(
 some (decide (j=[105,116,97,108,105,99]))
 ) else(
 if(decide (j=[117,110,100,101,114])) then(
 some (decide (j=[117,110,100,101,114]))
 ) else(
 if(decide (j=[115,116,114,105,107,101])) then(
 some (decide (j=[115,116,114,105,107,101]))
 ) else(
 if(decide (j=[102,105,120,101,100])) then(
 some (decide (j=[102,105,120,101,100]))
 ) else(
 if(decide (j=[114,97,105,115,101])) then(
 some (decide (j=[114,97,105,115,101]))
 ) else(
 if(decide (j=[115,105,122,101])) then(
 some (decide (j=[115,105,122,101]))
 ) else(
 if(decide (j=[99,111,108,111,117,114])) then(
 some (decide (j=[99,111,108,111,117,114]))
 ) else(
 if(decide (j=[108,97,110,103])) then(
 some (decide (j=[108,97,110,103]))
 ) else(
 some (decide (j=[115,116,121,108,101]))
 )
 )
 )
 )
 )
 )
 )
 )
 )
 ) λ(l:Bool)=>
 if l then(
 some true
 ) else(
 some false
 )
def NO(l:List UInt8)(j:List UInt8):Option (Bool):=
 AB (gd ((decide ((j.length:Int)<(l.length:Int)))==true) (CS l 0 (j.length:Int))) λ(q:List UInt8)=>
 some (((j.length:Int)<(l.length:Int))&&(q=j))
def O9(j:List UInt8):Option (Bool):=
 AB (gd (((j=[108,105,110,107])||(j=[108,111,99,107]))==false) (NO j [114,101,109,97,114,107,46])) λ(l:Bool)=>
 AB (gd ((((j=[108,105,110,107])||(j=[108,111,99,107]))||l)==false) (NO j [109,97,114,107,46])) λ(q:Bool)=>
 some ((((j=[108,105,110,107])||(j=[108,111,99,107]))||l)||q)
def Ku(j:AG)(q:AG)(l:List AC)(B:Int):Option (((List AC) × Int) ⊕ (As Unit (List AC))):=
 if(decide (B<(j.Attrs.length:Int))) then(
 AB (
 AB (AL j.Attrs B) λ(A:AC)=>
 AB (O9 A.Name) λ(C:Bool)=>
 AB (gd (C==true) (I3 q.Attrs A.Name)) λ(E:List UInt8)=>
 if(C&&(E=A.Value)) then(
 AB (Ir l A) λ(u:List AC)=>
 some u
 ) else(
 some l
 )
 ) λ(w:List AC)=>
 AB (AN .i64 (B+1)) λ(F:Int)=>
 some (.inl (w,F))
 ) else(
 some (.inr (.ext l))
 )
def KZ(j:AG)(l:List AC)(A:Int):Option (((List AC) × Int) ⊕ (As Unit (List AC))):=
 if(decide (A<(j.Attrs.length:Int))) then(
 AB (
 AB (AL j.Attrs A) λ(w:AC)=>
 AB (PM w.Name) λ(B:Bool)=>
 if B then(
 AB (Ir l w) λ(q:List AC)=>
 some q
 ) else(
 some l
 )
 ) λ(u:List AC)=>
 AB (AN .i64 (A+1)) λ(C:Int)=>
 some (.inl (u,C))
 ) else(
 some (.inr (.ext l))
 )
def KL(v1:List AG)(q:Int):Option ((List AC)):=
 AB (
 if(decide (0<q)) then(
 AB (AN .i64 (q-1)) λ(B:Int)=>
 AB (AL v1 B) λ(C:AG)=>
 some C
 ) else(
 some (AG.mk 10 0 [])
 )
 ) λ(j:AG)=>
 AB (
 if(decide (q<(v1.length:Int))) then(
 AB (AL v1 q) λ(E:AG)=>
 some E
 ) else(
 some (AG.mk 10 0 [])
 )
 ) λ(l:AG)=>
 AB (
 if(decide (j.Char=10)) then(
 some l
 ) else(
 some j
 )
 ) λ(u:AG)=>
 AB (
 if(!(u.Char=10)) then(
 Aq (iter (λ(a:(List AC) × Int)=>KZ u a.1 a.2) ([],0)) λ(F:Unit)=>
 none
 ) else(
 some []
 )
 ) λ(w:List AC)=>
 AB (
 if(decide (0<q)) then(
 Aq (iter (λ(a:(List AC) × Int)=>Ku j l a.1 a.2) (w,0)) λ(I:Unit)=>
 none
 ) else(
 some w
 )
 ) λ(A:List AC)=>
 some A
def Ij(j:List AG)(l:List UInt8)(w:Int)(q:List AG):Option ((Int × (List AG)) ⊕ (As Unit (List AG))):=
 if(decide (w<(j.length:Int))) then(
 AB (AL j w) λ(A:AG)=>
 AB (H4 A.Attrs [(AC.mk [97,100,100] l),(AC.mk [99,117,116] [])]) λ(B:List AC)=>
 AB (app 40 q [(AG.mk A.Char A.Ref B)]) λ(u:List AG)=>
 AB (AN .i64 (w+1)) λ(C:Int)=>
 some (.inl (C,u))
 ) else(
 some (.inr (.ext q))
 )
def Jp(M:List AG)(B:Int)(O:Int)(w:List AG)(j:List UInt8)(l:List Int)(F:Int)(A:Int)(C:Int)(q:List AG):Option ((Int × Int × (List AG)) ⊕ (List AG)):=
 if(decide (C≤(M.length:Int))) then(
 FO (
 AB (
 if(decide (C=F)) then(
 Aq (iter (λ(a:Int × (List AG))=>Ij w j a.1 a.2) (0,q)) λ(u3:Unit)=>
 none
 ) else(
 some q
 )
 ) λ(u:List AG)=>
 if(decide (C=(M.length:Int))) then(
 some (.ext (.inr u))
 ) else(
 AB (AL M C) λ(E:AG)=>
 AB (gd ((decide (A<(l.length:Int)))==true) (AL l A)) λ(U:Int)=>
 FO (
 if((A<(l.length:Int))&&(U=C)) then(
 Aq (
 if((B≤A)&&(A<O)) then(
 AB (gd ((decide (j=[]))==false) (I3 E.Attrs [97,100,100])) λ(V:List UInt8)=>
 if((j=[])||(V=j)) then(
 AB (AN .i64 (A+1)) λ(X:Int)=>
 some (.ext (.ext (.nrm (X,u))))
 ) else(
 AB (H4 E.Attrs [(AC.mk [99,117,116] j)]) λ(Y:List AC)=>
 some (.nrm (AG.mk E.Char E.Ref Y))
 )
 ) else(
 some (.nrm E)
 )
 ) λ(Z:AG)=>
 AB (AN .i64 (A+1)) λ(k6:Int)=>
 some (.nrm (k6,Z))
 ) else(
 some (.nrm (A,E))
 )
 ) λ(k5:Int) (x3:AG)=>
 AB (app 40 u [x3]) λ(I:List AG)=>
 some (.nrm (k5,I))
 )
 ) λ(k4:Int) (J:List AG)=>
 AB (AN .i64 (C+1)) λ(T:Int)=>
 some (.inl (k4,T,J))
 ) else(
 some (.inr q)
 )
def Kf(I:List AG)(j:Int)(C:Int)(u:List AG)(q:List UInt8):Option ((List AG)):=
 AB (H7 I 0) λ(l:List Int)=>
 AB (
 if(decide (0<j)) then(
 AB (AN .i64 (j-1)) λ(E:Int)=>
 AB (AL l E) λ(F:Int)=>
 AB (AN .i64 (F+1)) λ(w:Int)=>
 some w
 ) else(
 some 0
 )
 ) λ(A:Int)=>
 AB (iter (λ(a:Int × Int × (List AG))=>Jp I j C u q l A a.1 a.2.1 a.2.2) (0,0,[])) λ(B:List AG)=>
 some B
def WU(e1:DW)(j:Int):Option (Int ⊕ (As Unit Int)):=
 if(decide (j<(e1.Merge.length:Int))) then(
 AB (AL e1.Merge j) λ(l:Ax)=>
 AB (Lp l 2147483647 2147483647) λ(q:Bool)=>
 if(!q) then(
 some (.inr (.ext 2))
 ) else(
 if((l.H=1)&&(l.W=1)) then(
 some (.inr (.ext 4))
 ) else(
 AB (AN .i64 (j+1)) λ(u:Int)=>
 some (.inl u)
 )
 )
 ) else(
 some (.inr (.nrm ()))
 )
def Wb(e1:DW)(j:Int):Option (Int ⊕ (As Unit Int)):=
 if(decide (j<(e1.Split.length:Int))) then(
 AB (AL e1.Split j) λ(q:Ax)=>
 AB (Lp q 2147483647 2147483647) λ(u:Bool)=>
 if(!u) then(
 some (.inr (.ext 2))
 ) else(
 AB (AN .i64 (j+1)) λ(l:Int)=>
 some (.inl l)
 )
 ) else(
 some (.inr (.nrm ()))
 )
def W1(e1:DW):Option (Int):=
 AB (Uc e1.Rows) λ(j:Int)=>
 if(!(j=0)) then(
 some j
 ) else(
 AB (Uc e1.Cols) λ(l:Int)=>
 if(!(l=0)) then(
 some l
 ) else(
 AB (Mr e1.Cells 2147483647 2147483647 true) λ(q:Int)=>
 if(!(q=0)) then(
 some q
 ) else(
 Aq (iter (λ(a:Int)=>Wb e1 a) 0) λ(u:Unit)=>
 Aq (iter (λ(a:Int)=>WU e1 a) 0) λ(w:Unit)=>
 some 0
 )
 )
 )
def Kw(j:Ai)(q:Bool)(u:Int)(l:Int):Option (Int ⊕ (As Unit Int)):=
 if(decide (l<5)) then(
 AB (AL ([(!q),(decide (0<(j.Attrs.length:Int))),(decide (0<(j.Steps.length:Int))),(decide (0<u)),(decide (0<(j.Draw.length:Int)))]:List Bool) l) λ(w:Bool)=>
 if(w&&(!(l=j.Kind))) then(
 some (.inr (.ext 4))
 ) else(
 AB (AN .i64 (l+1)) λ(A:Int)=>
 some (.inl A)
 )
 ) else(
 some (.inr (.nrm ()))
 )
def OM(j:Ai):Option (Int):=
 AB (CX j.Kind 0 4) λ(l:Bool)=>
 if(!l) then(
 some 8
 ) else(
 AB (JL j.New (AX.mk 0 0 [] [] (A1.mk 0 0 [] []) [])) λ(q:Bool)=>
 AB (AN .i64 ((j.Grid.Rows.length:Int)+(j.Grid.Cols.length:Int))) λ(u:Int)=>
 AB (AN .i64 (u+(j.Grid.Cells.length:Int))) λ(w:Int)=>
 AB (AN .i64 (w+(j.Grid.Split.length:Int))) λ(A:Int)=>
 AB (AN .i64 (A+(j.Grid.Merge.length:Int))) λ(B:Int)=>
 Aq (iter (λ(a:Int)=>Kw j q B a) 0) λ(O:Unit)=>
 if(decide (j.Kind=0)) then(
 if(!(j.Node=0)) then(
 some 4
 ) else(
 AB (Md j.New) λ(C:Int)=>
 some C
 )
 ) else(
 AB (CX j.Node 1 1073741824) λ(E:Bool)=>
 if(!E) then(
 some 2
 ) else(
 if(decide (j.Kind=1)) then(
 AB (Hh j.Attrs true) λ(F:Int)=>
 some F
 ) else(
 if(decide (j.Kind=2)) then(
 AB (NC j.Steps) λ(I:Int)=>
 some I
 ) else(
 if(decide (j.Kind=3)) then(
 AB (W1 j.Grid) λ(J:Int)=>
 some J
 ) else(
 AB (NQ j.Draw) λ(M:Int)=>
 some M
 )
 )
 )
 )
 )
 )
def Kq(d1:Bc)(l:List Ai)(Vg:Int)(j:List AG):Option (Bool):=
 AB (gd ((!((l.length:Int)=1))==false) (AL l 0)) λ(B:Ai)=>
 AB (gd (((!((l.length:Int)=1))||(!(B.Kind=2)))==false) (AL l 0)) λ(C:Ai)=>
 if(((!((l.length:Int)=1))||(!(B.Kind=2)))||(!(C.Node=Vg))) then(
 some false
 ) else(
 AB (FP d1 Vg) λ(E:Int)=>
 AB (AL d1.Nodes E) λ(q:AX)=>
 AB (AL l 0) λ(w:Ai)=>
 AB (OM w) λ(u:Int)=>
 AB (gd ((decide (u=0))==true) (NR w.Steps)) λ(A:Int)=>
 AB (
 if(((u=0)&&(A=(q.Flow.length:Int)))==true) then(
 AB (NZ q.Flow w.Steps) λ(F:List AG)=>
 AB (LS F j) λ(I:Bool)=>
 some (((u=0)&&(A=(q.Flow.length:Int)))&&I)
 ) else(
 some (((u=0)&&(A=(q.Flow.length:Int)))&&false)
 )
 ) λ(J:Bool)=>
 some J
 )
end
noncomputable section
def Nq(d1:Bc)(l:Int)(j:Int)(u:Int):Option ((Int × Int) ⊕ Int):=
 if(decide (u<(d1.Nodes.length:Int))) then(
 AB (
 AB (AL d1.Nodes u) λ(w:AX)=>
 AB (TJ w.ID) λ(A:Int)=>
 if(decide (A=l)) then(
 some w.ID
 ) else(
 some j
 )
 ) λ(q:Int)=>
 AB (AN .i64 (u+1)) λ(B:Int)=>
 some (.inl (q,B))
 ) else(
 some (.inr j)
 )
def GJ(d1:Bc)(j:Int):Option (Int × Int):=
 AB (Ed d1) λ(q:Int)=>
 if(!(q=0)) then(
 some (0,q)
 ) else(
 if((j<0)||(1000<j)) then(
 some (0,2)
 ) else(
 AB (iter (λ(a:Int × Int)=>Nq d1 j a.1 a.2) ((DV .i64 j 16),0)) λ(l:Int)=>
 if(decide ((Cj .i64 l 65535)=65535)) then(
 some (0,18)
 ) else(
 AB (AN .i64 (l+1)) λ(u:Int)=>
 some (u,0)
 )
 )
 )
def HX(d1:Bc)(q:Am)(n1:AX)(l:Int)(j:List UInt8):Option ((List Ai) × Am × Int):=
 CT (MC d1 q j) λ(u:Cd) (A:Int)=>
 if(!(A=0)) then(
 some ([],(Am.mk 0 0 0),A)
 ) else(
 AB (M0 u.node.Kind n1.Kind) λ(F:Bool)=>
 if(!F) then(
 some ([],(Am.mk 0 0 0),8)
 ) else(
 CT (GJ d1 l) λ(w:Int) (B:Int)=>
 if(!(B=0)) then(
 some ([],(Am.mk 0 0 0),B)
 ) else(
 AB (Dz (AX.mk w n1.Kind n1.Attrs n1.Flow n1.Grid n1.Draw)) λ(C:Int)=>
 if(!(C=0)) then(
 some ([],(Am.mk 0 0 0),C)
 ) else(
 AB (Nh u q.From) λ(I:List AC)=>
 FG (MP u q [(AG.mk 0 w I)]) λ(J:List Ai) (M:Am) (E:Int)=>
 if(!(E=0)) then(
 some ([],(Am.mk 0 0 0),E)
 ) else(
 AB (app 360 [(Ai.mk 0 0 (AX.mk w n1.Kind n1.Attrs n1.Flow n1.Grid n1.Draw) [] [] (DW.mk [] [] [] [] []) [])] J) λ(O:List Ai)=>
 some (O,M,0)
 )
 )
 )
 )
 )
def LG(d1:Bc)(w:Am)(j:Int)(l:Int)(u:Int)(q:List UInt8):Option ((List Ai) × Am × Int):=
 if((((j<1)||(1000<j))||(l<1))||(1000<l)) then(
 some ([],(Am.mk 0 0 0),2)
 ) else(
 FG (HX d1 w (AX.mk 0 2 [] [] (A1.mk j l [] []) []) u q) λ(A:List Ai) (B:Am) (C:Int)=>
 some (A,B,C)
 )
def LU(d1:Bc)(w:Am)(j:List AC)(q:Int)(l:List UInt8):Option ((List Ai) × Am × Int):=
 AB (HM j) λ(u:Int)=>
 if(!(u=0)) then(
 some ([],(Am.mk 0 0 0),u)
 ) else(
 AB (app 32 [] j) λ(A:List AC)=>
 FG (HX d1 w (AX.mk 0 5 A [] (A1.mk 0 0 [] []) []) q l) λ(B:List Ai) (C:Am) (E:Int)=>
 some (B,C,E)
 )
def PC(d1:Bc)(w:Am)(u:Bool)(l:Int)(j:List UInt8):Option ((List Ai) × Am × Int):=
 AB (
 if u then(
 some [101,110,100]
 ) else(
 some [102,111,111,116]
 )
 ) λ(q:List UInt8)=>
 FG (HX d1 w (AX.mk 0 4 [(AC.mk [107,105,110,100] q)] [(AG.mk 10 0 [])] (A1.mk 0 0 [] []) []) l j) λ(A:List Ai) (B:Am) (C:Int)=>
 some (A,B,C)
def GE(d1:Bc)(B:Am)(q:Int)(u:Int)(A:Int)(w:List AC)(j:List UInt8)(l:Int)(g2:Int)(J:Int):Option (Int ⊕ (As Unit Bool)):=
 if(decide (J<4)) then(
 Aq (
 VK (
 if(decide (J=0)) then(
 FG (LG d1 B q u A j) λ(M:List Ai) (O:Am) (T:Int)=>
 AB (CX q 1 1000) λ(U:Bool)=>
 AB (gd ((!U)==false) (CX u 1 1000)) λ(Z:Bool)=>
 if((!U)||(!Z)) then(
 some (M,T,2,O,(AX.mk l 2 [] [] (A1.mk q u [] []) []))
 ) else(
 some (M,T,0,O,(AX.mk l 2 [] [] (A1.mk q u [] []) []))
 )
 ) else(
 if(decide (J=3)) then(
 FG (LU d1 B w A j) λ(a0:List Ai) (a1:Am) (a2:Int)=>
 AB (Hh w false) λ(f6:Int)=>
 some (a0,a2,f6,a1,(AX.mk l 5 w [] (A1.mk 0 0 [] []) []))
 ) else(
 FG (PC d1 B (decide (J=2)) A j) λ(a6:List Ai) (a7:Am) (a8:Int)=>
 AB (Vx) λ(aa:AG)=>
 AB (AN .i64 (J-1)) λ(x9:Int)=>
 AB (AL ([[102,111,111,116],[101,110,100]]:List (List UInt8)) x9) λ(ab:List UInt8)=>
 some (a6,a8,0,a7,(AX.mk l 4 [(AC.mk [107,105,110,100] ab)] [aa] (A1.mk 0 0 [] []) []))
 )
 )
 ) λ(C:List Ai) (E:Int) (f1:Int) (F:Am) (I:AX)=>
 AB (
 if(decide (f1=0)) then(
 AB (Gd d1 B j) λ(f5:Int)=>
 some f5
 ) else(
 some f1
 )
 ) λ(V:Int)=>
 AB (gd ((decide (V=0))==true) (FP d1 B.Node)) λ(r2:Int)=>
 AB (gd ((decide (V=0))==true) (AL d1.Nodes r2)) λ(x5:AX)=>
 AB (gd ((decide (V=0))==true) (L3 x5.Kind I.Kind)) λ(r3:Bool)=>
 AB (
 if((V=0)&&(!r3)) then(
 some 8
 ) else(
 some V
 )
 ) λ(f3:Int)=>
 AB (
 if(decide (f3=0)) then(
 some g2
 ) else(
 some f3
 )
 ) λ(f4:Int)=>
 if(!(f4=0)) then(
 if(((!(E=f4))||(!((C.length:Int)=0)))||(!((F.Node=0)&&((F.From=0)&&((F.To=0)&&true))))) then(
 some (.ext (.inr (.ext false)))
 ) else(
 some (.nrm ())
 )
 ) else(
 AB (FP d1 B.Node) λ(r4:Int)=>
 AB (AL d1.Nodes r4) λ(x6:AX)=>
 AB (LF x6.Flow) λ(r5:List AG)=>
 AB (KL r5 B.From) λ(r6:List AC)=>
 AB (gd (((!(E=0))||(!((C.length:Int)=2)))==false) (AL C 0)) λ(x7:Ai)=>
 AB (gd (((!(E=0))||(!((C.length:Int)=2)))==false) (IY x7 (Ai.mk 0 0 (AX.mk I.ID I.Kind I.Attrs I.Flow (A1.mk I.Grid.Rows I.Grid.Cols [] []) []) [] [] (DW.mk [] [] [] [] []) []))) λ(X:Bool)=>
 AB (gd ((((!(E=0))||(!((C.length:Int)=2)))||(!X))==false) (AN .i64 (B.From+1))) λ(Y:Int)=>
 AB (gd (((((!(E=0))||(!((C.length:Int)=2)))||(!X))||(!(F.From=Y)))==false) (CS C 1 (C.length:Int))) λ(l1:List Ai)=>
 AB (gd (((((!(E=0))||(!((C.length:Int)=2)))||(!X))||(!(F.From=Y)))==false) (Kf x6.Flow B.From B.To [(AG.mk 0 l r6)] j)) λ(r8:List AG)=>
 AB (gd (((((!(E=0))||(!((C.length:Int)=2)))||(!X))||(!(F.From=Y)))==false) (Kq d1 l1 B.Node r8)) λ(r9:Bool)=>
 if(((((!(E=0))||(!((C.length:Int)=2)))||(!X))||(!(F.From=Y)))||(!r9)) then(
 some (.ext (.inr (.ext false)))
 ) else(
 some (.nrm ())
 )
 )
 ) λ(u3:Unit)=>
 AB (AN .i64 (J+1)) λ(x4:Int)=>
 some (.inl x4)
 ) else(
 some (.inr (.nrm ()))
 )
def T8(d1:Bc)(F:Am)(u:Int)(w:Int)(j:Int)(q:List AC)(l:List UInt8):Option (Bool):=
 AB (Ti) λ(I:Bool)=>
 if(!I) then(
 some false
 ) else(
 AB (ME d1) λ(E:Int)=>
 CT (
 if(decide (E=0)) then(
 CT (GJ d1 j) λ(B:Int) (C:Int)=>
 some (B,C)
 ) else(
 some (0,E)
 )
 ) λ(A:Int) (g2:Int)=>
 Aq (iter (λ(a:Int)=>GE d1 F u w j q l A g2 a) 0) λ(J:Unit)=>
 some true
 )
end
end Go.Proofs.YtdafahjmopdleaaGreatDoor.Al
