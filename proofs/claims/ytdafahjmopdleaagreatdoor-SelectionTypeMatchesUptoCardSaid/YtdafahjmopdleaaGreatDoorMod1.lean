/- Models, as printed. -/
import Derived.Test.YtdafahjmopdleaaGreatDoorAl2
set_option linter.all false
namespace Go.Proofs.YtdafahjmopdleaaGreatDoor.Al
noncomputable section
structure DK where
 Kind:Int
 N:Int
deriving DecidableEq
instance:Inhabited DK:=⟨⟨0,0⟩⟩
@[reducible] def DK.row(x:DK):List RV:=[.int .i64 x.Kind,.int .i64 x.N]
structure qW where
 steps:List DK
 used:Int
deriving DecidableEq
instance:Inhabited qW:=⟨⟨[],0⟩⟩
structure cG where
 out:List DK
 add:Int
 cut:Int
deriving DecidableEq
instance:Inhabited cG:=⟨⟨[],0,0⟩⟩
structure AC where
 Name:List UInt8
 Value:List UInt8
deriving DecidableEq
instance:Inhabited AC:=⟨⟨[],[]⟩⟩
@[reducible] def AC.row(x:AC):List RV:=[.str x.Name,.str x.Value]
structure AD where
 Char:Int
 Ref:Int
 Attrs:List AC
deriving DecidableEq
instance:Inhabited AD:=⟨⟨0,0,[]⟩⟩
@[reducible] def AD.row(x:AD):List RV:=[.int .i64 x.Char,.int .i64 x.Ref,.sl (x.Attrs.map AC.row)]
structure Aw where
 Row:Int
 Col:Int
 Text:List UInt8
 Ref:Int
 Attrs:List AC
deriving DecidableEq
instance:Inhabited Aw:=⟨⟨0,0,[],0,[]⟩⟩
@[reducible] def Aw.row(x:Aw):List RV:=[.int .i64 x.Row,.int .i64 x.Col,.str x.Text,.int .i64 x.Ref,.sl (x.Attrs.map AC.row)]
structure As where
 Row:Int
 Col:Int
 H:Int
 W:Int
deriving DecidableEq
instance:Inhabited As:=⟨⟨0,0,0,0⟩⟩
@[reducible] def As.row(x:As):List RV:=[.int .i64 x.Row,.int .i64 x.Col,.int .i64 x.H,.int .i64 x.W]
structure BW where
 Rows:Int
 Cols:Int
 Cells:List Aw
 Merges:List As
deriving DecidableEq
instance:Inhabited BW:=⟨⟨0,0,[],[]⟩⟩
@[reducible] def BW.row(x:BW):List RV:=[.int .i64 x.Rows,.int .i64 x.Cols,.sl (x.Cells.map Aw.row),.sl (x.Merges.map As.row)]
structure BN where
 Clock:Int
 Site:Int
 Kind:Int
 Item:Int
 Parent:Int
 Place:List UInt8
 Name:List UInt8
 Value:List UInt8
deriving DecidableEq
instance:Inhabited BN:=⟨⟨0,0,0,0,0,[],[],[]⟩⟩
@[reducible] def BN.row(x:BN):List RV:=[.int .i64 x.Clock,.int .i64 x.Site,.int .i64 x.Kind,.int .i64 x.Item,.int .i64 x.Parent,.str x.Place,.str x.Name,.str x.Value]
structure Ag where
 ID:Int
 Kind:Int
 Attrs:List AC
 Flow:List AD
 Grid:BW
 Draw:List BN
deriving DecidableEq
instance:Inhabited Ag:=⟨⟨0,0,[],[],(BW.mk 0 0 [] []),[]⟩⟩
@[reducible] def Ag.row(x:Ag):List RV:=[.int .i64 x.ID,.int .i64 x.Kind,.sl (x.Attrs.map AC.row),.sl (x.Flow.map AD.row),.int .i64 x.Grid.Rows,.int .i64 x.Grid.Cols,.sl (x.Grid.Cells.map Aw.row),.sl (x.Grid.Merges.map As.row),.sl (x.Draw.map BN.row)]
structure AI where
 Kind:Int
 N:Int
 Attrs:List AC
 Elems:List AD
deriving DecidableEq
instance:Inhabited AI:=⟨⟨0,0,[],[]⟩⟩
@[reducible] def AI.row(x:AI):List RV:=[.int .i64 x.Kind,.int .i64 x.N,.sl (x.Attrs.map AC.row),.sl (x.Elems.map AD.row)]
structure EY where
 Rows:List DK
 Cols:List DK
 Cells:List Aw
 Split:List As
 Merge:List As
deriving DecidableEq
instance:Inhabited EY:=⟨⟨[],[],[],[],[]⟩⟩
structure BE where
 Kind:Int
 Node:Int
 New:Ag
 Attrs:List AC
 Steps:List AI
 Grid:EY
 Draw:List BN
deriving DecidableEq
instance:Inhabited BE:=⟨⟨0,0,(Ag.mk 0 0 [] [] (BW.mk 0 0 [] []) []),[],[],(EY.mk [] [] [] [] []),[]⟩⟩
@[reducible] def BE.row(x:BE):List RV:=[.int .i64 x.Kind,.int .i64 x.Node,.int .i64 x.New.ID,.int .i64 x.New.Kind,.sl (x.New.Attrs.map AC.row),.sl (x.New.Flow.map AD.row),.int .i64 x.New.Grid.Rows,.int .i64 x.New.Grid.Cols,.sl (x.New.Grid.Cells.map Aw.row),.sl (x.New.Grid.Merges.map As.row),.sl (x.New.Draw.map BN.row),.sl (x.Attrs.map AC.row),.sl (x.Steps.map AI.row),.sl (x.Grid.Rows.map DK.row),.sl (x.Grid.Cols.map DK.row),.sl (x.Grid.Cells.map Aw.row),.sl (x.Grid.Split.map As.row),.sl (x.Grid.Merge.map As.row),.sl (x.Draw.map BN.row)]
structure pH where
 Site:Int
 Number:Int
 Change:List BE
 Undoes:Int
 Refused:Int
deriving DecidableEq
instance:Inhabited pH:=⟨⟨0,0,[],0,0⟩⟩
structure pn where
 From:Int
 To:Int
deriving DecidableEq
instance:Inhabited pn:=⟨⟨0,0⟩⟩
def Cr(q:Int)(l:Int)(j:Int):Option (Bool):=
 some ((l≤q)&&(q≤j))
def VL(F:List DK)(j:Int)(l:Int)(u:Int):Option ((Int × Int × Int) ⊕ (An (Int × Int) Int)):=
 if(decide (u<(F.length:Int))) then(
 FS (
 AB (AL F u) λ(q:DK)=>
 AB (Cr q.Kind 0 2) λ(J:Bool)=>
 if(!J) then(
 some (.ext (.inr (.ext 8)))
 ) else(
 AB (Cr q.N 1 2147483647) λ(M:Bool)=>
 if(!M) then(
 some (.ext (.inr (.ext 2)))
 ) else(
 AB (gd ((decide (0<u))==true) (AM .i64 (u-1))) λ(O:Int)=>
 AB (gd ((decide (0<u))==true) (AL F O)) λ(I:DK)=>
 AB (gd ((((decide (0<u))==true)&&((decide (q.Kind=I.Kind))==false))&&((decide (q.Kind=1))==true)) (AM .i64 (u-1))) λ(T:Int)=>
 AB (gd ((((decide (0<u))==true)&&((decide (q.Kind=I.Kind))==false))&&((decide (q.Kind=1))==true)) (AL F T)) λ(U:DK)=>
 if((0<u)&&((q.Kind=I.Kind)||((q.Kind=1)&&(U.Kind=2)))) then(
 some (.ext (.inr (.ext 5)))
 ) else(
 AB (
 if((!(q.Kind=1))&&(j<2147483648)) then(
 AB (AM .i64 (j+q.N)) λ(A:Int)=>
 some A
 ) else(
 some j
 )
 ) λ(w:Int)=>
 if((!(q.Kind=2))&&(l<2147483648)) then(
 AB (AM .i64 (l+q.N)) λ(B:Int)=>
 some (.nrm (w,B))
 ) else(
 some (.nrm (w,l))
 )
 )
 )
 )
 ) λ(C:Int) (E:Int)=>
 AB (AM .i64 (u+1)) λ(V:Int)=>
 some (.inl (C,E,V))
 ) else(
 some (.inr (.nrm (j,l)))
 )
def TJ(q:List DK):Option (Int):=
 FS (iter (λ(a:Int × Int × Int)=>VL q a.1 a.2.1 a.2.2) (0,0,0)) λ(j:Int) (l:Int)=>
 if((2147483647<j)||(2147483647<l)) then(
 some 3
 ) else(
 some 0
 )
def NA(q:List UInt8)(l:Int):Option (Int ⊕ (An Unit Bool)):=
 if(decide (l<(q.length:Int))) then(
 AB (AL q l) λ(j:UInt8)=>
 if((((((j.toNat:Int)<97)||(122<(j.toNat:Int)))&&(((j.toNat:Int)<48)||(57<(j.toNat:Int))))&&(!((j.toNat:Int)=46)))&&(!((j.toNat:Int)=45))) then(
 some (.inr (.ext false))
 ) else(
 AB (AM .i64 (l+1)) λ(u:Int)=>
 some (.inl u)
 )
 ) else(
 some (.inr (.nrm ()))
 )
def Nv(j:List UInt8):Option (Bool):=
 AB (gd (((j=[])||(24<(j.length:Int)))==false) (AL j 0)) λ(l:UInt8)=>
 AB (gd ((((j=[])||(24<(j.length:Int)))||((l.toNat:Int)<97))==false) (AL j 0)) λ(q:UInt8)=>
 if((((j=[])||(24<(j.length:Int)))||((l.toNat:Int)<97))||(122<(q.toNat:Int))) then(
 some false
 ) else(
 Ao (iter (λ(a:Int)=>NA j a) 0) λ(u:Unit)=>
 some true
 )
def RY(q:List UInt8)(l:Int):Option (Int ⊕ (An Unit Bool)):=
 if(decide (l<(q.length:Int))) then(
 AB (AL q l) λ(j:UInt8)=>
 if(((j.toNat:Int)<32)||(126<(j.toNat:Int))) then(
 some (.inr (.ext false))
 ) else(
 AB (AM .i64 (l+1)) λ(u:Int)=>
 some (.inl u)
 )
 ) else(
 some (.inr (.nrm ()))
 )
def Jo(j:List UInt8):Option (Bool):=
 if((j=[])||(200<(j.length:Int))) then(
 some false
 ) else(
 Ao (iter (λ(a:Int)=>RY j a) 0) λ(l:Unit)=>
 some true
 )
def Mf(u:List AC)(j:Bool)(l:Int):Option (Int ⊕ (An Unit Int)):=
 if(decide (l<(u.length:Int))) then(
 AB (AL u l) λ(q:AC)=>
 AB (Nv q.Name) λ(A:Bool)=>
 if(!A) then(
 some (.inr (.ext 9))
 ) else(
 AB (Jo q.Value) λ(B:Bool)=>
 if((!B)&&(!(j&&(q.Value=[])))) then(
 some (.inr (.ext 23))
 ) else(
 AB (gd ((decide (0<l))==true) (AM .i64 (l-1))) λ(C:Int)=>
 AB (gd ((decide (0<l))==true) (AL u C)) λ(w:AC)=>
 if((0<l)&&(A1 q.Name w.Name||(q.Name=w.Name))) then(
 some (.inr (.ext 5))
 ) else(
 AB (AM .i64 (l+1)) λ(E:Int)=>
 some (.inl E)
 )
 )
 )
 ) else(
 some (.inr (.nrm ()))
 )
def M7(l:List AC)(j:Bool):Option (Int):=
 Ao (iter (λ(a:Int)=>Mf l j a) 0) λ(q:Unit)=>
 some 0
def Hu(j:List AC):Option (Int):=
 AB (M7 j false) λ(l:Int)=>
 some l
def Lh(j:List AC):Option (Int):=
 AB (M7 j true) λ(l:Int)=>
 some l
def Lb(j:List AC)(q:AC)(l:AC):Option ((List AC)):=
 if(decide (l.Name=[])) then(
 AB (app 32 j [q]) λ(u:List AC)=>
 some u
 ) else(
 if(!(l.Value=[])) then(
 AB (app 32 j [l]) λ(w:List AC)=>
 some w
 ) else(
 some j
 )
 )
def PQ(l:List AC)(u:List AC)(j:Int)(q:Int)(o2:List AC):Option ((Int × Int × (List AC)) ⊕ (An Unit (List AC))):=
 if((j<(l.length:Int))||(q<(u.length:Int))) then(
 AB (gd (((decide (q=(u.length:Int)))==false)&&((decide (j<(l.length:Int)))==true)) (AL l j)) λ(A:AC)=>
 AB (gd (((decide (q=(u.length:Int)))==false)&&((decide (j<(l.length:Int)))==true)) (AL u q)) λ(B:AC)=>
 if((q=(u.length:Int))||((j<(l.length:Int))&&(A1 A.Name B.Name))) then(
 AB (AL l j) λ(C:AC)=>
 AB (Lb o2 C (AC.mk [] [])) λ(E:List AC)=>
 AB (AM .i64 (j+1)) λ(F:Int)=>
 some (.inl (F,q,E))
 ) else(
 AB (gd ((decide (j=(l.length:Int)))==false) (AL u q)) λ(I:AC)=>
 AB (gd ((decide (j=(l.length:Int)))==false) (AL l j)) λ(J:AC)=>
 if((j=(l.length:Int))||(A1 I.Name J.Name)) then(
 AB (AL u q) λ(M:AC)=>
 AB (Lb o2 (AC.mk [] []) M) λ(O:List AC)=>
 AB (AM .i64 (q+1)) λ(T:Int)=>
 some (.inl (j,T,O))
 ) else(
 AB (AL l j) λ(U:AC)=>
 AB (AL u q) λ(V:AC)=>
 AB (Lb o2 U V) λ(X:List AC)=>
 AB (AM .i64 (j+1)) λ(w:Int)=>
 AB (AM .i64 (q+1)) λ(Y:Int)=>
 some (.inl (w,Y,X))
 )
 )
 ) else(
 some (.inr (.ext o2))
 )
def RH(j:List AC)(l:List AC)(q:List AC):Option ((List AC)):=
 Ao (iter (λ(a:Int × Int × (List AC))=>PQ l q a.1 a.2.1 a.2.2) (0,0,j)) λ(u:Unit)=>
 none
def LQ(l:List AC)(j:List AC):Option ((List AC)):=
 AB (RH [] l j) λ(q:List AC)=>
 some q
def Oa(l:List AC)(w:List AC)(j:Int):Option (Int ⊕ (An Unit Bool)):=
 if(decide (j<(l.length:Int))) then(
 AB (AL l j) λ(q:AC)=>
 AB (AL w j) λ(u:AC)=>
 if(!((q.Name=u.Name)&&((q.Value=u.Value)&&true))) then(
 some (.inr (.ext false))
 ) else(
 AB (AM .i64 (j+1)) λ(A:Int)=>
 some (.inl A)
 )
 ) else(
 some (.inr (.nrm ()))
 )
def GC(j:List AC)(l:List AC):Option (Bool):=
 if(!((j.length:Int)=(l.length:Int))) then(
 some false
 ) else(
 Ao (iter (λ(a:Int)=>Oa j l a) 0) λ(q:Unit)=>
 some true
 )
def Ny(q:List UInt8)(l:Int):Option (Int ⊕ (An Unit Bool)):=
 if(decide (l<(q.length:Int))) then(
 AB (AL q l) λ(j:UInt8)=>
 if((!((97≤(j.toNat:Int))&&((j.toNat:Int)≤122)))&&((l=0)||(((!((j.toNat:Int)=46))&&(!((j.toNat:Int)=45)))&&(((j.toNat:Int)<48)||(57<(j.toNat:Int)))))) then(
 some (.inr (.ext false))
 ) else(
 AB (AM .i64 (l+1)) λ(u:Int)=>
 some (.inl u)
 )
 ) else(
 some (.inr (.nrm ()))
 )
def Ni(j:List UInt8):Option (Bool):=
 Ao (iter (λ(a:Int)=>Ny j a) 0) λ(l:Unit)=>
 some ((1≤(j.length:Int))&&((j.length:Int)≤24))
def Q6(q:List UInt8)(l:Int):Option (Int ⊕ (An Unit Bool)):=
 if(decide (l<(q.length:Int))) then(
 AB (AL q l) λ(j:UInt8)=>
 if(((j.toNat:Int)<32)||(126<(j.toNat:Int))) then(
 some (.inr (.ext false))
 ) else(
 AB (AM .i64 (l+1)) λ(u:Int)=>
 some (.inl u)
 )
 ) else(
 some (.inr (.nrm ()))
 )
def Lt(j:List UInt8):Option (Bool):=
 Ao (iter (λ(a:Int)=>Q6 j a) 0) λ(l:Unit)=>
 some ((1≤(j.length:Int))&&((j.length:Int)≤200))
def Ns(u:List AC)(j:Bool)(l:Int):Option (Int ⊕ (An Unit Int)):=
 if(decide (l<(u.length:Int))) then(
 AB (AL u l) λ(q:AC)=>
 AB (Ni q.Name) λ(w:Bool)=>
 if(!w) then(
 some (.inr (.ext 9))
 ) else(
 AB (Lt q.Value) λ(A:Bool)=>
 if((!A)&&((!(q.Value=[]))||(!j))) then(
 some (.inr (.ext 23))
 ) else(
 AB (gd ((decide (0<l))==true) (AM .i64 (l-1))) λ(B:Int)=>
 AB (gd ((decide (0<l))==true) (AL u B)) λ(C:AC)=>
 if((0<l)&&(!A1 C.Name q.Name)) then(
 some (.inr (.ext 5))
 ) else(
 AB (AM .i64 (l+1)) λ(E:Int)=>
 some (.inl E)
 )
 )
 )
 ) else(
 some (.inr (.nrm ()))
 )
def HE(l:List AC)(j:Bool):Option (Int):=
 Ao (iter (λ(a:Int)=>Ns l j a) 0) λ(q:Unit)=>
 some 0
def RX(q:List AC)(j:List UInt8)(l:Int):Option (Int ⊕ (An Unit (List UInt8))):=
 if(decide (l<(q.length:Int))) then(
 AB (AL q l) λ(u:AC)=>
 if(decide (u.Name=j)) then(
 some (.inr (.ext u.Value))
 ) else(
 AB (AM .i64 (l+1)) λ(w:Int)=>
 some (.inl w)
 )
 ) else(
 some (.inr (.nrm ()))
 )
def G9(l:List AC)(j:List UInt8):Option ((List UInt8)):=
 Ao (iter (λ(a:Int)=>RX l j a) 0) λ(q:Unit)=>
 some []
def QI(q:List AC)(j:List UInt8)(l:Int):Option (Int ⊕ (An Unit (List UInt8))):=
 if(decide (l<(q.length:Int))) then(
 AB (AL q l) λ(u:AC)=>
 if(decide (u.Name=j)) then(
 some (.inr (.ext u.Value))
 ) else(
 AB (AM .i64 (l+1)) λ(w:Int)=>
 some (.inl w)
 )
 ) else(
 some (.inr (.nrm ()))
 )
def Ia(l:List AC)(j:List UInt8):Option ((List UInt8)):=
 Ao (iter (λ(a:Int)=>QI l j a) 0) λ(q:Unit)=>
 some []
def OY(F:List AC)(I:AC)(j:Bool)(E:Int)(l:List AC):Option ((Bool × Int × (List AC)) ⊕ (Bool × (List AC))):=
 if(decide (E<(F.length:Int))) then(
 B5 (
 AB (gd ((!j)==true) (AL F E)) λ(M:AC)=>
 B5 (
 if((!j)&&(!A1 M.Name I.Name)) then(
 AB (app 32 l [I]) λ(w:List AC)=>
 some (true,w)
 ) else(
 some (j,l)
 )
 ) λ(q:Bool) (u:List AC)=>
 AB (AL F E) λ(J:AC)=>
 if(!(J.Name=I.Name)) then(
 AB (app 32 u [J]) λ(B:List AC)=>
 some (q,B)
 ) else(
 some (q,u)
 )
 ) λ(A:Bool) (C:List AC)=>
 AB (AM .i64 (E+1)) λ(O:Int)=>
 some (.inl (A,O,C))
 ) else(
 some (.inr (j,l))
 )
def II(A:List AC)(w:AC):Option ((List AC)):=
 B5 (iter (λ(a:Bool × Int × (List AC))=>OY A w a.1 a.2.1 a.2.2) (false,0,[])) λ(l:Bool) (j:List AC)=>
 AB (
 if(!l) then(
 AB (app 32 j [w]) λ(q:List AC)=>
 some q
 ) else(
 some j
 )
 ) λ(u:List AC)=>
 some u
def O5(l:List AC)(A:Int)(j:List AC):Option ((Int × (List AC)) ⊕ (List AC)):=
 if(decide (A<(l.length:Int))) then(
 AB (
 AB (AL l A) λ(w:AC)=>
 if(!(w.Value=[])) then(
 AB (app 32 j [w]) λ(q:List AC)=>
 some q
 ) else(
 some j
 )
 ) λ(u:List AC)=>
 AB (AM .i64 (A+1)) λ(B:Int)=>
 some (.inl (B,u))
 ) else(
 some (.inr j)
 )
def QV(j:List AC)(l:List AC)(u:Int):Option (((List AC) × Int) ⊕ (List AC)):=
 if(decide (u<(j.length:Int))) then(
 AB (AL j u) λ(w:AC)=>
 AB (II l w) λ(q:List AC)=>
 AB (AM .i64 (u+1)) λ(A:Int)=>
 some (.inl (q,A))
 ) else(
 some (.inr l)
 )
def Qh(A:List AC)(j:List AC)(q:Int):Option (((List AC) × Int) ⊕ (List AC)):=
 if(decide (q<(A.length:Int))) then(
 AB (AL A q) λ(u:AC)=>
 AB (II j u) λ(l:List AC)=>
 AB (AM .i64 (q+1)) λ(w:Int)=>
 some (.inl (l,w))
 ) else(
 some (.inr j)
 )
def IE(w:List AC)(j:List AC):Option ((List AC)):=
 AB (iter (λ(a:(List AC) × Int)=>Qh w a.1 a.2) ([],0)) λ(q:List AC)=>
 AB (iter (λ(a:(List AC) × Int)=>QV j a.1 a.2) (q,0)) λ(u:List AC)=>
 AB (iter (λ(a:Int × (List AC))=>O5 u a.1 a.2) (0,[])) λ(l:List AC)=>
 some l
def Jb(j:Int):Option (Bool):=
 some (((((j=9)||(j=10))||((32≤j)&&(j<127)))||((160≤j)&&(j<55296)))||((57343<j)&&(j≤1114111)))
def N9(j:AD):Option (Int):=
 if((!(j.Char=0))==(!(j.Ref=0))) then(
 some 4
 ) else(
 AB (gd ((decide (j.Ref=0))==true) (Jb j.Char)) λ(l:Bool)=>
 AB (
 if((j.Ref=0)&&(!l)) then(
 some ((j.Ref=0)&&(!l))
 ) else(
 some ((!(j.Ref=0))&&((j.Ref<1)||(1073741824<j.Ref)))
 )
 ) λ(q:Bool)=>
 if q then(
 some 2
 ) else(
 AB (Hu j.Attrs) λ(u:Int)=>
 some u
 )
 )
def Qw(f1:List AD)(j:Int):Option (Int ⊕ (An Unit Int)):=
 if(decide (j<(f1.length:Int))) then(
 AB (AL f1 j) λ(q:AD)=>
 AB (N9 q) λ(l:Int)=>
 if(!(l=0)) then(
 some (.inr (.ext l))
 ) else(
 AB (AM .i64 (j+1)) λ(u:Int)=>
 some (.inl u)
 )
 ) else(
 some (.inr (.nrm ()))
 )
def Qq(f1:List AD):Option (Int):=
 Ao (iter (λ(a:Int)=>Qw f1 a) 0) λ(j:Unit)=>
 some 0
def P1(l:AD)(j:Int):Option (Bool):=
 AB (G9 l.Attrs [104,105,100,100,101,110]) λ(q:List UInt8)=>
 AB (gd (((decide (q=[111,110]))==false)&&((decide (j=0))==true)) (G9 l.Attrs [99,117,116])) λ(u:List UInt8)=>
 AB (gd ((((q=[111,110])||((j=0)&&(!(u=[]))))==false)&&((decide (j=1))==true)) (G9 l.Attrs [97,100,100])) λ(w:List UInt8)=>
 some (((q=[111,110])||((j=0)&&(!(u=[]))))||((j=1)&&(!(w=[]))))
def OC(f1:List AD)(l:Int)(q:Int)(j:List Int):Option ((Int × (List Int)) ⊕ (List Int)):=
 if(decide (q<(f1.length:Int))) then(
 AB (
 AB (AL f1 q) λ(A:AD)=>
 AB (P1 A l) λ(B:Bool)=>
 AB (gd ((!B)==false) (AM .i64 ((f1.length:Int)-1))) λ(C:Int)=>
 if((!B)||((q=C)&&(A.Char=10))) then(
 AB (app 8 j [q]) λ(u:List Int)=>
 some u
 ) else(
 some j
 )
 ) λ(w:List Int)=>
 AB (AM .i64 (q+1)) λ(E:Int)=>
 some (.inl (E,w))
 ) else(
 some (.inr j)
 )
def QW(f1:List AD)(j:Int):Option ((List Int)):=
 AB (iter (λ(a:Int × (List Int))=>OC f1 j a.1 a.2) (0,[])) λ(l:List Int)=>
 some l
def Jl(j:Int):Option (Bool):=
 AB (gd (((j=9)||(j=10))==false) (Cr j 32 126)) λ(l:Bool)=>
 AB (gd ((((j=9)||(j=10))||l)==false) (Cr j 160 55295)) λ(q:Bool)=>
 AB (gd (((((j=9)||(j=10))||l)||q)==false) (Cr j 57344 1114111)) λ(u:Bool)=>
 some (((((j=9)||(j=10))||l)||q)||u)
def N8(j:AD):Option (Int):=
 if(((j.Char=0)&&(j.Ref=0))||((!(j.Char=0))&&(!(j.Ref=0)))) then(
 some 4
 ) else(
 AB (gd ((!(j.Char=0))==true) (Jl j.Char)) λ(l:Bool)=>
 AB (gd ((((!(j.Char=0))&&(!l))==false)&&((!(j.Ref=0))==true)) (Cr j.Ref 1 1073741824)) λ(q:Bool)=>
 if(((!(j.Char=0))&&(!l))||((!(j.Ref=0))&&(!q))) then(
 some 2
 ) else(
 AB (HE j.Attrs false) λ(u:Int)=>
 some u
 )
 )
def Qx(f1:List AD)(j:Int):Option (Int ⊕ (An Unit Int)):=
 if(decide (j<(f1.length:Int))) then(
 AB (AL f1 j) λ(q:AD)=>
 AB (N8 q) λ(l:Int)=>
 if(!(l=0)) then(
 some (.inr (.ext l))
 ) else(
 AB (AM .i64 (j+1)) λ(u:Int)=>
 some (.inl u)
 )
 ) else(
 some (.inr (.nrm ()))
 )
def Oc(f1:List AD):Option (Int):=
 Ao (iter (λ(a:Int)=>Qx f1 a) 0) λ(j:Unit)=>
 some 0
def Q1(q:List AC)(j:List UInt8)(l:Int):Option (Int ⊕ (An Unit Bool)):=
 if(decide (l<(q.length:Int))) then(
 AB (AL q l) λ(u:AC)=>
 if(decide (u.Name=j)) then(
 some (.inr (.ext true))
 ) else(
 AB (AM .i64 (l+1)) λ(w:Int)=>
 some (.inl w)
 )
 ) else(
 some (.inr (.nrm ()))
 )
def NE(l:List AC)(j:List UInt8):Option (Bool):=
 Ao (iter (λ(a:Int)=>Q1 l j a) 0) λ(q:Unit)=>
 some false
def MQ(f1:List AD)(j:Int)(u:Int)(l:List Int):Option ((Int × (List Int)) ⊕ (List Int)):=
 if(decide (u<(f1.length:Int))) then(
 AB (
 AB (AL f1 u) λ(B:AD)=>
 AB (Ia B.Attrs [104,105,100,100,101,110]) λ(E:List UInt8)=>
 AB (gd ((decide (j=0))==true) (NE B.Attrs [99,117,116])) λ(C:Bool)=>
 AB (gd ((((j=0)&&C)==false)&&((decide (j=1))==true)) (NE B.Attrs [97,100,100])) λ(F:Bool)=>
 AB (
 if(((j=0)&&C)||((j=1)&&F)) then(
 some false
 ) else(
 some (!(E=[111,110]))
 )
 ) λ(q:Bool)=>
 AB (gd (q==false) (AM .i64 ((f1.length:Int)-1))) λ(I:Int)=>
 if(q||((u=I)&&(B.Char=10))) then(
 AB (app 8 l [u]) λ(w:List Int)=>
 some w
 ) else(
 some l
 )
 ) λ(A:List Int)=>
 AB (AM .i64 (u+1)) λ(J:Int)=>
 some (.inl (J,A))
 ) else(
 some (.inr l)
 )
def HV(f1:List AD)(j:Int):Option ((List Int)):=
 AB (iter (λ(a:Int × (List Int))=>MQ f1 j a.1 a.2) (0,[])) λ(l:List Int)=>
 some l
def Pk(l:List AC)(w:List AC)(j:Int):Option (Int ⊕ (An Unit Bool)):=
 if(decide (j<(l.length:Int))) then(
 AB (AL l j) λ(q:AC)=>
 AB (AL w j) λ(u:AC)=>
 if(!((q.Name=u.Name)&&((q.Value=u.Value)&&true))) then(
 some (.inr (.ext false))
 ) else(
 AB (AM .i64 (j+1)) λ(A:Int)=>
 some (.inl A)
 )
 ) else(
 some (.inr (.nrm ()))
 )
def Gz(j:List AC)(l:List AC):Option (Bool):=
 if(!((j.length:Int)=(l.length:Int))) then(
 some false
 ) else(
 Ao (iter (λ(a:Int)=>Pk j l a) 0) λ(q:Unit)=>
 some true
 )
def Ls(l:List AC)(q:AC)(j:AC):Option ((List AC)):=
 AB (
 if(decide (j.Name=[])) then(
 some q
 ) else(
 some j
 )
 ) λ(u:AC)=>
 AB (app 32 l [u]) λ(w:List AC)=>
 some w
def Oh(l:List AC)(u:List AC)(j:Int)(q:Int)(o2:List AC):Option ((Int × Int × (List AC)) ⊕ (An Unit (List AC))):=
 if((j<(l.length:Int))||(q<(u.length:Int))) then(
 AB (gd (((decide (q=(u.length:Int)))==false)&&((decide (j<(l.length:Int)))==true)) (AL l j)) λ(A:AC)=>
 AB (gd (((decide (q=(u.length:Int)))==false)&&((decide (j<(l.length:Int)))==true)) (AL u q)) λ(B:AC)=>
 if((q=(u.length:Int))||((j<(l.length:Int))&&(A1 A.Name B.Name))) then(
 AB (AL l j) λ(C:AC)=>
 AB (Ls o2 C (AC.mk [] [])) λ(E:List AC)=>
 AB (AM .i64 (j+1)) λ(F:Int)=>
 some (.inl (F,q,E))
 ) else(
 AB (gd ((decide (j=(l.length:Int)))==false) (AL u q)) λ(I:AC)=>
 AB (gd ((decide (j=(l.length:Int)))==false) (AL l j)) λ(J:AC)=>
 if((j=(l.length:Int))||(A1 I.Name J.Name)) then(
 AB (AL u q) λ(M:AC)=>
 AB (Ls o2 (AC.mk [] []) M) λ(O:List AC)=>
 AB (AM .i64 (q+1)) λ(T:Int)=>
 some (.inl (j,T,O))
 ) else(
 AB (AL l j) λ(U:AC)=>
 AB (AL u q) λ(V:AC)=>
 AB (Ls o2 U V) λ(X:List AC)=>
 AB (AM .i64 (j+1)) λ(w:Int)=>
 AB (AM .i64 (q+1)) λ(Y:Int)=>
 some (.inl (w,Y,X))
 )
 )
 ) else(
 some (.inr (.ext o2))
 )
def PD(j:List AC)(l:List AC)(q:List AC):Option ((List AC)):=
 Ao (iter (λ(a:Int × Int × (List AC))=>Oh l q a.1 a.2.1 a.2.2) (0,0,j)) λ(u:Unit)=>
 none
def Of(j:List AC)(l:List AC):Option ((List AC)):=
 AB (PD [] j l) λ(q:List AC)=>
 some q
def Kr(j:List AC)(l:AC)(q:AC):Option ((List AC)):=
 if(decide (q.Name=[])) then(
 AB (app 32 j [l]) λ(u:List AC)=>
 some u
 ) else(
 some j
 )
def QF(l:List AC)(u:List AC)(j:Int)(q:Int)(o2:List AC):Option ((Int × Int × (List AC)) ⊕ (An Unit (List AC))):=
 if((j<(l.length:Int))||(q<(u.length:Int))) then(
 AB (gd (((decide (q=(u.length:Int)))==false)&&((decide (j<(l.length:Int)))==true)) (AL l j)) λ(A:AC)=>
 AB (gd (((decide (q=(u.length:Int)))==false)&&((decide (j<(l.length:Int)))==true)) (AL u q)) λ(B:AC)=>
 if((q=(u.length:Int))||((j<(l.length:Int))&&(A1 A.Name B.Name))) then(
 AB (AL l j) λ(C:AC)=>
 AB (Kr o2 C (AC.mk [] [])) λ(E:List AC)=>
 AB (AM .i64 (j+1)) λ(F:Int)=>
 some (.inl (F,q,E))
 ) else(
 AB (gd ((decide (j=(l.length:Int)))==false) (AL u q)) λ(I:AC)=>
 AB (gd ((decide (j=(l.length:Int)))==false) (AL l j)) λ(J:AC)=>
 if((j=(l.length:Int))||(A1 I.Name J.Name)) then(
 AB (AL u q) λ(M:AC)=>
 AB (Kr o2 (AC.mk [] []) M) λ(O:List AC)=>
 AB (AM .i64 (q+1)) λ(T:Int)=>
 some (.inl (j,T,O))
 ) else(
 AB (AL l j) λ(U:AC)=>
 AB (AL u q) λ(V:AC)=>
 AB (Kr o2 U V) λ(X:List AC)=>
 AB (AM .i64 (j+1)) λ(w:Int)=>
 AB (AM .i64 (q+1)) λ(Y:Int)=>
 some (.inl (w,Y,X))
 )
 )
 ) else(
 some (.inr (.ext o2))
 )
def Pe(j:List AC)(l:List AC)(q:List AC):Option ((List AC)):=
 Ao (iter (λ(a:Int × Int × (List AC))=>QF l q a.1 a.2.1 a.2.2) (0,0,j)) λ(u:Unit)=>
 none
def Oj(j:List AC)(l:List AC):Option ((List AC)):=
 AB (Pe [] j l) λ(q:List AC)=>
 some q
end
noncomputable section
structure Bk where
 Adds:List (List AD)
 Cuts:List Bool
 Attrs:List (List AC)
deriving DecidableEq
instance:Inhabited Bk:=⟨⟨[],[],[]⟩⟩
def JT(l:AI)(u:Int)(j:Bk):Option ((Int × Bk) ⊕ (An Unit Bk)):=
 if(decide (u<l.N)) then(
 AB (app 24 j.Adds [[]]) λ(w:List (List AD))=>
 AB (app 1 j.Cuts [(decide (l.Kind=2))]) λ(A:List Bool)=>
 AB (app 24 j.Attrs [l.Attrs]) λ(B:List (List AC))=>
 AB (AM .i64 (u+1)) λ(q:Int)=>
 some (.inl (q,(Bk.mk w A B)))
 ) else(
 some (.inr (.ext j))
 )
def JM(d1:List AI)(l:Int)(j:Bk):Option ((Int × Bk) ⊕ Bk):=
 if(decide (l<(d1.length:Int))) then(
 AB (
 AB (AL d1 l) λ(q:AI)=>
 if(decide (q.Kind=1)) then(
 AB (AM .i64 ((j.Adds.length:Int)-1)) λ(u:Int)=>
 AB (AL j.Adds u) λ(w:List AD)=>
 AB (app 40 [] w) λ(A:List AD)=>
 AB (app 40 A q.Elems) λ(B:List AD)=>
 some (Bk.mk (j.Adds.set u.toNat B) j.Cuts j.Attrs)
 ) else(
 Ao (iter (λ(a:Int × Bk)=>JT q a.1 a.2) (0,j)) λ(E:Unit)=>
 none
 )
 ) λ(a5:Bk)=>
 AB (AM .i64 (l+1)) λ(C:Int)=>
 some (.inl (C,a5))
 ) else(
 some (.inr j)
 )
def QM(d1:List AI):Option (Bk):=
 AB (iter (λ(a:Int × Bk)=>JM d1 a.1 a.2) (0,(Bk.mk [[]] [] []))) λ(a4:Bk)=>
 some a4
def RW(l:List DK)(w:List DK)(j:Int):Option (Int ⊕ (An Unit Bool)):=
 if(decide (j<(l.length:Int))) then(
 AB (AL l j) λ(q:DK)=>
 AB (AL w j) λ(u:DK)=>
 if(!((q.Kind=u.Kind)&&((q.N=u.N)&&true))) then(
 some (.inr (.ext false))
 ) else(
 AB (AM .i64 (j+1)) λ(A:Int)=>
 some (.inl A)
 )
 ) else(
 some (.inr (.nrm ()))
 )
def Kk(j:List DK)(l:List DK):Option (Bool):=
 if(!((j.length:Int)=(l.length:Int))) then(
 some false
 ) else(
 Ao (iter (λ(a:Int)=>RW j l a) 0) λ(q:Unit)=>
 some true
 )
end
noncomputable section
end
noncomputable section
structure BZ where
 steps:List AI
 used:Int
deriving DecidableEq
instance:Inhabited BZ:=⟨⟨[],0⟩⟩
structure Ae where
 out:List AI
 add:List AD
 cut:Int
deriving DecidableEq
instance:Inhabited Ae:=⟨⟨[],[],0⟩⟩
def MZ(j:AI):Option (Int):=
 AB (
 if(decide (j.Kind=0)) then(
 some (decide (j.Kind=0))
 ) else(
 some (decide (j.Kind=2))
 )
 ) λ(l:Bool)=>
 if l then(
 if((0<(j.Elems.length:Int))||((j.Kind=2)&&(0<(j.Attrs.length:Int)))) then(
 some 4
 ) else(
 if((j.N<1)||(2147483647<j.N)) then(
 some 2
 ) else(
 AB (Lh j.Attrs) λ(q:Int)=>
 some q
 )
 )
 ) else(
 if(decide (j.Kind=1)) then(
 if((!(j.N=0))||(0<(j.Attrs.length:Int))) then(
 some 4
 ) else(
 if(decide ((j.Elems.length:Int)=0)) then(
 some 11
 ) else(
 AB (Qq j.Elems) λ(u:Int)=>
 some u
 )
 )
 ) else(
 some 8
 )
 )
def HO(j:AI):Option (Int):=
 if(decide (j.Kind=1)) then(
 some (j.Elems.length:Int)
 ) else(
 some j.N
 )
def Id(d1:List AI)(j:Int)(l:Int)(B:Int):Option ((Int × Int × Int) ⊕ (An (Int × Int) Int)):=
 if(decide (B<(d1.length:Int))) then(
 FS (
 AB (AL d1 B) λ(u:AI)=>
 AB (MZ u) λ(E:Int)=>
 if(!(E=0)) then(
 some (.ext (.inr (.ext E)))
 ) else(
 Ao (
 if(decide (0<B)) then(
 AB (AM .i64 (B-1)) λ(F:Int)=>
 AB (AL d1 F) λ(C:AI)=>
 AB (gd (((decide (C.Kind=u.Kind))==true)&&((!(u.Kind=0))==false)) (Gz C.Attrs u.Attrs)) λ(I:Bool)=>
 if(((C.Kind=u.Kind)&&((!(u.Kind=0))||I))||((C.Kind=2)&&(u.Kind=1))) then(
 some (.ext (.ext (.inr (.ext 5))))
 ) else(
 some (.nrm ())
 )
 ) else(
 some (.nrm ())
 )
 ) λ(U:Unit)=>
 AB (
 if(!(u.Kind=1)) then(
 AB (AM .i64 (j+u.N)) λ(J:Int)=>
 some (min J 2147483648)
 ) else(
 some j
 )
 ) λ(q:Int)=>
 if(!(u.Kind=2)) then(
 AB (HO u) λ(M:Int)=>
 AB (AM .i64 (l+M)) λ(O:Int)=>
 some (.nrm (q,(min O 2147483648)))
 ) else(
 some (.nrm (q,l))
 )
 )
 ) λ(w:Int) (A:Int)=>
 AB (AM .i64 (B+1)) λ(T:Int)=>
 some (.inl (w,A,T))
 ) else(
 some (.inr (.nrm (j,l)))
 )
def I6(d1:List AI):Option (Int):=
 FS (iter (λ(a:Int × Int × Int)=>Id d1 a.1 a.2.1 a.2.2) (0,0,0)) λ(j:Int) (l:Int)=>
 if((2147483647<j)||(2147483647<l)) then(
 some 3
 ) else(
 some 0
 )
def Jn(d1:List AI)(j:Int)(l:Int)(E:Int):Option ((Int × Int × Int) ⊕ (Int × Int)):=
 if(decide (E<(d1.length:Int))) then(
 B5 (
 AB (AL d1 E) λ(C:AI)=>
 AB (
 if(!(C.Kind=1)) then(
 AB (AM .i64 (j+C.N)) λ(u:Int)=>
 some u
 ) else(
 some j
 )
 ) λ(q:Int)=>
 if(!(C.Kind=2)) then(
 AB (HO C) λ(F:Int)=>
 AB (AM .i64 (l+F)) λ(A:Int)=>
 some (q,A)
 ) else(
 some (q,l)
 )
 ) λ(w:Int) (B:Int)=>
 AB (AM .i64 (E+1)) λ(I:Int)=>
 some (.inl (w,B,I))
 ) else(
 some (.inr (j,l))
 )
def J0(d1:List AI):Option (Int × Int):=
 B5 (iter (λ(a:Int × Int × Int)=>Jn d1 a.1 a.2.1 a.2.2) (0,0,0)) λ(j:Int) (l:Int)=>
 some (j,l)
def KL(w:List AD)(j:List AC)(q:Int)(l:List AD):Option ((Int × (List AD)) ⊕ (List AD)):=
 if(decide (q<(w.length:Int))) then(
 AB (AL w q) λ(u:AD)=>
 AB (LQ u.Attrs j) λ(A:List AC)=>
 AB (AL l q) λ(C:AD)=>
 AB (AM .i64 (q+1)) λ(B:Int)=>
 some (.inl (B,(l.set q.toNat (AD.mk u.Char u.Ref A))))
 ) else(
 some (.inr l)
 )
def Ow(u:List AD)(j:List AC):Option ((List AD)):=
 AB (mk 40 (u.length:Int) (AD.mk 0 0 [])) λ(l:List AD)=>
 AB (iter (λ(a:Int × (List AD))=>KL u j a.1 a.2) (0,l)) λ(q:List AD)=>
 some q
def JP(f1:List AD)(l:Int)(j:List AD):Option ((Int × (List AD)) ⊕ (List AD)):=
 if(decide (l<(f1.length:Int))) then(
 AB (AL f1 l) λ(q:AD)=>
 AB (app 32 [] q.Attrs) λ(u:List AC)=>
 AB (AL j l) λ(A:AD)=>
 AB (AM .i64 (l+1)) λ(w:Int)=>
 some (.inl (w,(j.set l.toNat (AD.mk q.Char q.Ref u))))
 ) else(
 some (.inr j)
 )
def QU(f1:List AD):Option ((List AD)):=
 AB (mk 40 (f1.length:Int) (AD.mk 0 0 [])) λ(j:List AD)=>
 AB (iter (λ(a:Int × (List AD))=>JP f1 a.1 a.2) (0,j)) λ(l:List AD)=>
 some l
def RL(j:AI):Option (Int):=
 AB (Cr j.Kind 0 2) λ(l:Bool)=>
 if(!l) then(
 some 8
 ) else(
 if(decide (j.Kind=1)) then(
 if((!(j.N=0))||(0<(j.Attrs.length:Int))) then(
 some 4
 ) else(
 if(decide ((j.Elems.length:Int)=0)) then(
 some 11
 ) else(
 AB (Oc j.Elems) λ(q:Int)=>
 some q
 )
 )
 ) else(
 if((0<(j.Elems.length:Int))||((j.Kind=2)&&(0<(j.Attrs.length:Int)))) then(
 some 4
 ) else(
 AB (Cr j.N 1 2147483647) λ(u:Bool)=>
 if(!u) then(
 some 2
 ) else(
 AB (HE j.Attrs true) λ(w:Int)=>
 some w
 )
 )
 )
 )
def Ib(d1:List AI)(j:Int)(l:Int)(w:Int):Option ((Int × Int × Int) ⊕ (An (Int × Int) Int)):=
 if(decide (w<(d1.length:Int))) then(
 FS (
 AB (AL d1 w) λ(q:AI)=>
 AB (RL q) λ(I:Int)=>
 if(!(I=0)) then(
 some (.ext (.inr (.ext I)))
 ) else(
 Ao (
 if(decide (0<w)) then(
 AB (AM .i64 (w-1)) λ(J:Int)=>
 AB (AL d1 J) λ(A:AI)=>
 if(decide (q.Kind=1)) then(
 if(!(A.Kind=0)) then(
 some (.ext (.ext (.inr (.ext 5))))
 ) else(
 some (.nrm ())
 )
 ) else(
 if(decide (q.Kind=2)) then(
 if(decide (A.Kind=2)) then(
 some (.ext (.ext (.inr (.ext 5))))
 ) else(
 some (.nrm ())
 )
 ) else(
 AB (gd ((decide (A.Kind=0))==true) (GC A.Attrs q.Attrs)) λ(M:Bool)=>
 if((A.Kind=0)&&M) then(
 some (.ext (.ext (.inr (.ext 5))))
 ) else(
 some (.nrm ())
 )
 )
 )
 ) else(
 some (.nrm ())
 )
 ) λ(U:Unit)=>
 AB (
 if((!(q.Kind=1))&&(j<2147483648)) then(
 AB (AM .i64 (j+q.N)) λ(B:Int)=>
 some B
 ) else(
 some j
 )
 ) λ(u:Int)=>
 if((!(q.Kind=2))&&(l<2147483648)) then(
 AB (AM .i64 (q.N+(q.Elems.length:Int))) λ(O:Int)=>
 AB (AM .i64 (l+O)) λ(C:Int)=>
 some (.nrm (u,C))
 ) else(
 some (.nrm (u,l))
 )
 )
 ) λ(E:Int) (F:Int)=>
 AB (AM .i64 (w+1)) λ(T:Int)=>
 some (.inl (E,F,T))
 ) else(
 some (.inr (.nrm (j,l)))
 )
def Nz(d1:List AI):Option (Int):=
 FS (iter (λ(a:Int × Int × Int)=>Ib d1 a.1 a.2.1 a.2.2) (0,0,0)) λ(j:Int) (l:Int)=>
 if((2147483647<j)||(2147483647<l)) then(
 some 3
 ) else(
 some 0
 )
def Mb(j:Ae):Option (Ae):=
 AB (
 if(decide (0<(j.add.length:Int))) then(
 AB (app 64 j.out [(AI.mk 1 0 [] j.add)]) λ(q:List AI)=>
 some (Ae.mk q j.add j.cut)
 ) else(
 some j
 )
 ) λ(l:Ae)=>
 AB (
 if(decide (0<l.cut)) then(
 AB (app 64 l.out [(AI.mk 2 l.cut [] [])]) λ(u:List AI)=>
 some (Ae.mk u l.add l.cut)
 ) else(
 some l
 )
 ) λ(w:Ae)=>
 some (Ae.mk w.out [] 0)
def Gu(A:Ae)(n1:Int)(j:List AC):Option (Ae):=
 if(decide (n1=0)) then(
 some A
 ) else(
 AB (Mb A) λ(l:Ae)=>
 AB (AM .i64 ((l.out.length:Int)-1)) λ(q:Int)=>
 AB (gd ((decide (0≤q))==true) (AL l.out q)) λ(w:AI)=>
 AB (gd (((0≤q)&&(w.Kind=0))==true) (AL l.out q)) λ(B:AI)=>
 AB (gd (((0≤q)&&(w.Kind=0))==true) (Gz B.Attrs j)) λ(C:Bool)=>
 if(((0≤q)&&(w.Kind=0))&&C) then(
 AB (AL l.out q) λ(u:AI)=>
 AB (AM .i64 (u.N+n1)) λ(E:Int)=>
 some (Ae.mk (l.out.set q.toNat (AI.mk u.Kind E u.Attrs u.Elems)) [] l.cut)
 ) else(
 AB (app 32 [] j) λ(F:List AC)=>
 AB (app 64 l.out [(AI.mk 0 n1 F [])]) λ(I:List AI)=>
 some (Ae.mk I [] l.cut)
 )
 )
def Hr(j:Ae)(l:List AD):Option (Ae):=
 AB (QU l) λ(q:List AD)=>
 AB (app 40 j.add q) λ(u:List AD)=>
 some (Ae.mk j.out u j.cut)
def IZ(l:Ae):Option ((List AI) × Int × Ae):=
 AB (Mb l) λ(j:Ae)=>
 AB (I6 j.out) λ(q:Int)=>
 if(!(q=0)) then(
 some ([],3,(Ae.mk j.out [] j.cut))
 ) else(
 some (j.out,0,(Ae.mk j.out [] j.cut))
 )
def JD(d1:List AI)(l:Int)(j:Int):Option ((Int × Int) ⊕ Int):=
 if(decide (j<(d1.length:Int))) then(
 AB (AL d1 j) λ(q:AI)=>
 AB (AM .i64 (l+q.N)) λ(u:Int)=>
 AB (AM .i64 (j+1)) λ(w:Int)=>
 some (.inl (u,w))
 ) else(
 some (.inr l)
 )
def Nk(d1:List AI):Option (Int):=
 AB (iter (λ(a:Int × Int)=>JD d1 a.1 a.2) (0,0)) λ(j:Int)=>
 some j
def JS(f1:List AD)(A:Bk)(q:Int)(j:List AD):Option ((Int × (List AD)) ⊕ (List AD)):=
 if(decide (q<(f1.length:Int))) then(
 AB (
 AB (AL A.Adds q) λ(C:List AD)=>
 AB (app 40 j C) λ(l:List AD)=>
 AB (AL A.Cuts q) λ(E:Bool)=>
 if(!E) then(
 AB (AL f1 q) λ(B:AD)=>
 AB (AL A.Attrs q) λ(F:List AC)=>
 AB (IE B.Attrs F) λ(I:List AC)=>
 AB (app 40 l [(AD.mk B.Char B.Ref I)]) λ(u:List AD)=>
 some u
 ) else(
 some l
 )
 ) λ(w:List AD)=>
 AB (AM .i64 (q+1)) λ(J:Int)=>
 some (.inl (J,w))
 ) else(
 some (.inr j)
 )
def Mo(f1:List AD)(l:Bk):Option ((List AD)):=
 AB (iter (λ(a:Int × (List AD))=>JS f1 l a.1 a.2) (0,[])) λ(j:List AD)=>
 AB (AL l.Adds (f1.length:Int)) λ(q:List AD)=>
 AB (app 40 j q) λ(u:List AD)=>
 some u
def QE(j:AD)(l:AD):Option (Bool):=
 AB (gd (((j.Char=l.Char)&&(j.Ref=l.Ref))==true) (GC j.Attrs l.Attrs)) λ(q:Bool)=>
 some (((j.Char=l.Char)&&(j.Ref=l.Ref))&&q)
def Pc(l:List AD)(q:List AD)(j:Int):Option (Int ⊕ (An Unit Bool)):=
 if(decide (j<(l.length:Int))) then(
 AB (AL l j) λ(u:AD)=>
 AB (AL q j) λ(w:AD)=>
 AB (QE u w) λ(A:Bool)=>
 if(!A) then(
 some (.inr (.ext false))
 ) else(
 AB (AM .i64 (j+1)) λ(B:Int)=>
 some (.inl B)
 )
 ) else(
 some (.inr (.nrm ()))
 )
def Lg(j:List AD)(l:List AD):Option (Bool):=
 if(!((j.length:Int)=(l.length:Int))) then(
 some false
 ) else(
 Ao (iter (λ(a:Int)=>Pc j l a) 0) λ(q:Unit)=>
 some true
 )
def Q5(u:List AI)(A:List AI)(q:Int):Option (Int ⊕ (An Unit Bool)):=
 if(decide (q<(u.length:Int))) then(
 AB (AL u q) λ(j:AI)=>
 AB (AL A q) λ(l:AI)=>
 AB (gd (((!(j.Kind=l.Kind))||(!(j.N=l.N)))==false) (GC j.Attrs l.Attrs)) λ(w:Bool)=>
 AB (gd ((((!(j.Kind=l.Kind))||(!(j.N=l.N)))||(!w))==false) (Lg j.Elems l.Elems)) λ(B:Bool)=>
 if((((!(j.Kind=l.Kind))||(!(j.N=l.N)))||(!w))||(!B)) then(
 some (.inr (.ext false))
 ) else(
 AB (AM .i64 (q+1)) λ(C:Int)=>
 some (.inl C)
 )
 ) else(
 some (.inr (.nrm ()))
 )
def L2(j:List AI)(l:List AI):Option (Bool):=
 if(!((j.length:Int)=(l.length:Int))) then(
 some false
 ) else(
 Ao (iter (λ(a:Int)=>Q5 j l a) 0) λ(q:Unit)=>
 some true
 )
def GW(j:BZ):Option (Int):=
 if(decide ((j.steps.length:Int)=0)) then(
 some (-1)
 ) else(
 AB (AL j.steps 0) λ(l:AI)=>
 some l.Kind
 )
def Gg(j:BZ):Option (Int):=
 AB (AL j.steps 0) λ(l:AI)=>
 AB (HO l) λ(q:Int)=>
 AB (AM .i64 (q-j.used)) λ(u:Int)=>
 some u
def F1(l:BZ)(n1:Int):Option (AI × BZ):=
 AB (AL l.steps 0) λ(j:AI)=>
 AB (
 if(decide (j.Kind=1)) then(
 AB (AM .i64 (l.used+n1)) λ(u:Int)=>
 AB (CV j.Elems l.used u) λ(w:List AD)=>
 some (AI.mk j.Kind j.N j.Attrs w)
 ) else(
 some (AI.mk j.Kind n1 j.Attrs j.Elems)
 )
 ) λ(A:AI)=>
 AB (AM .i64 (l.used+n1)) λ(q:Int)=>
 AB (HO j) λ(B:Int)=>
 AB (
 if(decide (q=B)) then(
 AB (CV l.steps 1 (l.steps.length:Int)) λ(C:List AI)=>
 some (BZ.mk C 0)
 ) else(
 some (BZ.mk l.steps q)
 )
 ) λ(E:BZ)=>
 some (A,E)
def M0(q:Ae)(u:Ae)(E:BZ)(B:BZ):Option ((Ae × Ae × BZ × BZ) ⊕ (Ae × Ae)):=
 AB (GW E) λ(J:Int)=>
 AB (
 if((decide (0≤J))==false) then(
 AB (GW B) λ(O:Int)=>
 some ((0≤J)||(0≤O))
 ) else(
 some ((0≤J)||false)
 )
 ) λ(x5:Bool)=>
 if x5 then(
 if(decide (J=1)) then(
 AB (Gg E) λ(T:Int)=>
 B5 (F1 E T) λ(F:AI) (w3:BZ)=>
 AB (Hr q F.Elems) λ(w4:Ae)=>
 AB (Gu u (F.Elems.length:Int) []) λ(w5:Ae)=>
 some (.inl (w4,w5,w3,B))
 ) else(
 AB (GW B) λ(U:Int)=>
 if(decide (U=1)) then(
 AB (Gg B) λ(V:Int)=>
 B5 (F1 B V) λ(I:AI) (w6:BZ)=>
 AB (Gu q (I.Elems.length:Int) []) λ(w7:Ae)=>
 AB (Hr u I.Elems) λ(w8:Ae)=>
 some (.inl (w7,w8,E,w6))
 ) else(
 AB (Gg E) λ(j:Int)=>
 AB (Gg B) λ(l:Int)=>
 B5 (F1 E (min j l)) λ(C:AI) (M:BZ)=>
 B5 (F1 B (min j l)) λ(w:AI) (A:BZ)=>
 if((C.Kind=0)&&(w.Kind=0)) then(
 AB (Oj C.Attrs w.Attrs) λ(X:List AC)=>
 AB (Gu q (min j l) X) λ(Y:Ae)=>
 AB (Gu u (min j l) w.Attrs) λ(Z:Ae)=>
 some (.inl (Y,Z,M,A))
 ) else(
 if(decide (C.Kind=0)) then(
 AB (AM .i64 (u.cut+(min j l))) λ(x6:Int)=>
 some (.inl (q,(Ae.mk u.out u.add x6),M,A))
 ) else(
 if(decide (w.Kind=0)) then(
 AB (AM .i64 (q.cut+(min j l))) λ(x7:Int)=>
 some (.inl ((Ae.mk q.out q.add x7),u,M,A))
 ) else(
 some (.inl (q,u,M,A))
 )
 )
 )
 )
 )
 ) else(
 some (.inr (q,u))
 )
def M8(j:List AI)(l:List AI):Option ((List AI) × (List AI) × Int):=
 AB (I6 j) λ(q:Int)=>
 if(!(q=0)) then(
 some ([],[],q)
 ) else(
 AB (I6 l) λ(u:Int)=>
 if(!(u=0)) then(
 some ([],[],u)
 ) else(
 B5 (J0 j) λ(w:Int) (M:Int)=>
 B5 (J0 l) λ(A:Int) (O:Int)=>
 if(!(w=A)) then(
 some ([],[],14)
 ) else(
 B5 (iter (λ(a:Ae × Ae × BZ × BZ)=>M0 a.1 a.2.1 a.2.2.1 a.2.2.2) ((Ae.mk [] [] 0),(Ae.mk [] [] 0),(BZ.mk j 0),(BZ.mk l 0))) λ(B:Ae) (C:Ae)=>
 F8 (IZ B) λ(E:List AI) (F:Int) (T:Ae)=>
 F8 (IZ C) λ(I:List AI) (J:Int) (U:Ae)=>
 if((!(F=0))||(!(J=0))) then(
 some ([],[],3)
 ) else(
 some (E,I,0)
 )
 )
 )
 )
def KY(f1:List AD)(j:Bool)(l:Int):Option (Int ⊕ (An Unit Int)):=
 if(decide (l<(f1.length:Int))) then(
 AB (AL f1 l) λ(q:AD)=>
 AB (N9 q) λ(u:Int)=>
 if(!(u=0)) then(
 some (.inr (.ext u))
 ) else(
 if((!j)&&(q.Ref=0)) then(
 some (.inr (.ext 8))
 ) else(
 AB (AM .i64 (l+1)) λ(w:Int)=>
 some (.inl w)
 )
 )
 ) else(
 some (.inr (.nrm ()))
 )
def Hm(f1:List AD)(j:Bool):Option (Int):=
 Ao (iter (λ(a:Int)=>KY f1 j a) 0) λ(u:Unit)=>
 AB (gd ((j==true)&&((decide ((f1.length:Int)=0))==false)) (AM .i64 ((f1.length:Int)-1))) λ(l:Int)=>
 AB (gd ((j==true)&&((decide ((f1.length:Int)=0))==false)) (AL f1 l)) λ(q:AD)=>
 if(j&&(((f1.length:Int)=0)||(!(q.Char=10)))) then(
 some 11
 ) else(
 some 0
 )
def Ff(d1:List AI)(q:Int)(l:Ae):Option ((Int × Ae) ⊕ (An Ae ((List AI) × Int))):=
 if(decide (q<(d1.length:Int))) then(
 Ao (
 AB (AL d1 q) λ(j:AI)=>
 AB (MZ j) λ(u:Int)=>
 AB (
 if((((j.Kind=1)&&((j.Elems.length:Int)=0))&&(u=11))||(((!(j.Kind=1))&&(j.N=0))&&(u=2))) then(
 AB (Lh j.Attrs) λ(B:Int)=>
 some B
 ) else(
 some u
 )
 ) λ(w:Int)=>
 if(!(w=0)) then(
 some (.ext (.inr (.ext ([],w))))
 ) else(
 if(decide (j.Kind=0)) then(
 AB (Gu l j.N j.Attrs) λ(C:Ae)=>
 some (.nrm C)
 ) else(
 if(decide (j.Kind=1)) then(
 AB (Hr l j.Elems) λ(E:Ae)=>
 some (.nrm E)
 ) else(
 AB (AM .i64 (l.cut+j.N)) λ(A:Int)=>
 if(decide (2147483647<A)) then(
 some (.ext (.inr (.ext ([],3))))
 ) else(
 some (.nrm (Ae.mk l.out l.add A))
 )
 )
 )
 )
 ) λ(F:Ae)=>
 AB (AM .i64 (q+1)) λ(I:Int)=>
 some (.inl (I,F))
 ) else(
 some (.inr (.nrm l))
 )
def It(d1:List AI):Option ((List AI) × Int):=
 Ao (iter (λ(a:Int × Ae)=>Ff d1 a.1 a.2) (0,(Ae.mk [] [] 0))) λ(j:Ae)=>
 F8 (IZ j) λ(l:List AI) (q:Int) (u:Ae)=>
 some (l,q)
def LU(f1:List AD)(j:Bool)(l:Int):Option (Int ⊕ (An Unit Int)):=
 if(decide (l<(f1.length:Int))) then(
 AB (AL f1 l) λ(q:AD)=>
 AB (N8 q) λ(u:Int)=>
 if(!(u=0)) then(
 some (.inr (.ext u))
 ) else(
 if((!j)&&(!(q.Char=0))) then(
 some (.inr (.ext 8))
 ) else(
 AB (AM .i64 (l+1)) λ(w:Int)=>
 some (.inl w)
 )
 )
 ) else(
 some (.inr (.nrm ()))
 )
def JW(f1:List AD)(j:Bool):Option (Int):=
 Ao (iter (λ(a:Int)=>LU f1 j a) 0) λ(u:Unit)=>
 AB (gd ((j==true)&&((decide ((f1.length:Int)=0))==false)) (AM .i64 ((f1.length:Int)-1))) λ(l:Int)=>
 AB (gd ((j==true)&&((decide ((f1.length:Int)=0))==false)) (AL f1 l)) λ(q:AD)=>
 if(j&&(((f1.length:Int)=0)||(!(q.Char=10)))) then(
 some 11
 ) else(
 some 0
 )
end
noncomputable section
structure Iq where
 lo:Int
 hi:Int
deriving DecidableEq
instance:Inhabited Iq:=⟨⟨0,0⟩⟩
@[reducible] def Iq.row(x:Iq):List RV:=[.int .u8 x.lo,.int .u8 x.hi]
def Re:List Iq:=JV.map λp=>Iq.mk p.1 p.2
def LJ(A:List UInt8):Option (Int × Int):=
 if(decide ((A.length:Int)<1)) then(
 some (65533,0)
 ) else(
 AB (AL A 0) λ(j:UInt8)=>
 AB (AL Fe (j.toNat:Int)) λ(u:Int)=>
 if(decide (240≤u)) then(
 some ((EZ .i32 (QD .i32 (IntKind.i32.wrap (j.toNat:Int)) (FZ .i32 (D9 .i32 (IntKind.i32.wrap u) 31) 31)) (Cg .i32 65533 (FZ .i32 (D9 .i32 (IntKind.i32.wrap u) 31) 31))),1)
 ) else(
 AB (AL Re (FZ .u8 u 4)) λ(B:Iq)=>
 if(decide ((A.length:Int)<(IntKind.i64.wrap (Cg .u8 u 7)))) then(
 some (65533,1)
 ) else(
 AB (AL A 1) λ(l:UInt8)=>
 if(((l.toNat:Int)<B.lo)||(B.hi<(l.toNat:Int))) then(
 some (65533,1)
 ) else(
 if(decide ((IntKind.i64.wrap (Cg .u8 u 7))≤2)) then(
 some ((EZ .i32 (D9 .i32 (IntKind.i32.wrap (Cg .u8 (j.toNat:Int) 31)) 6) (IntKind.i32.wrap (Cg .u8 (l.toNat:Int) 63))),2)
 ) else(
 AB (AL A 2) λ(q:UInt8)=>
 if(((q.toNat:Int)<128)||(191<(q.toNat:Int))) then(
 some (65533,1)
 ) else(
 if(decide ((IntKind.i64.wrap (Cg .u8 u 7))≤3)) then(
 some ((EZ .i32 (EZ .i32 (D9 .i32 (IntKind.i32.wrap (Cg .u8 (j.toNat:Int) 15)) 12) (D9 .i32 (IntKind.i32.wrap (Cg .u8 (l.toNat:Int) 63)) 6)) (IntKind.i32.wrap (Cg .u8 (q.toNat:Int) 63))),3)
 ) else(
 AB (AL A 3) λ(w:UInt8)=>
 if(((w.toNat:Int)<128)||(191<(w.toNat:Int))) then(
 some (65533,1)
 ) else(
 some ((EZ .i32 (EZ .i32 (EZ .i32 (D9 .i32 (IntKind.i32.wrap (Cg .u8 (j.toNat:Int) 7)) 18) (D9 .i32 (IntKind.i32.wrap (Cg .u8 (l.toNat:Int) 63)) 12)) (D9 .i32 (IntKind.i32.wrap (Cg .u8 (q.toNat:Int) 63)) 6)) (IntKind.i32.wrap (Cg .u8 (w.toNat:Int) 63))),4)
 )
 )
 )
 )
 )
 )
 )
 )
def HH(j:List UInt8):Option (Int × Int):=
 AB (gd ((!(j=[]))==true) (AL j 0)) λ(l:UInt8)=>
 if((!(j=[]))&&((l.toNat:Int)<128)) then(
 AB (AL j 0) λ(q:UInt8)=>
 some ((IntKind.i32.wrap (q.toNat:Int)),1)
 ) else(
 B5 (LJ j) λ(u:Int) (w:Int)=>
 some (u,w)
 )
def jM(j:List AC)(u:List UInt8)(l:List AD):Option (((List UInt8) × (List AD)) ⊕ (An (List AD) ((List AD) × Int))):=
 if(!(u=[])) then(
 B5 (HH u) λ(w:Int) (A:Int)=>
 if((w=65533)&&(A=1)) then(
 some (.inr (.ext ([],10)))
 ) else(
 AB (Jb (IntKind.i64.wrap w)) λ(B:Bool)=>
 if(!B) then(
 some (.inr (.ext ([],2)))
 ) else(
 AB (app 32 [] j) λ(C:List AC)=>
 AB (app 40 l [(AD.mk (IntKind.i64.wrap w) 0 C)]) λ(q:List AD)=>
 AB (CV u A (u.length:Int)) λ(E:List UInt8)=>
 some (.inl (E,q))
 )
 )
 ) else(
 some (.inr (.nrm l))
 )
def vp(u:List UInt8)(j:List AC):Option ((List AD) × Int):=
 AB (Hu j) λ(q:Int)=>
 if(!(q=0)) then(
 some ([],q)
 ) else(
 Ao (iter (λ(a:(List UInt8) × (List AD))=>jM j a.1 a.2) (u,[])) λ(l:List AD)=>
 some (l,0)
 )
def uO(u:List UInt8)(j:List AC)(w:Int)(l:List AD):Option ((Int × (List AD)) ⊕ (An (List AD) ((List AD) × Int))):=
 if(decide (w<(u.length:Int))) then(
 AB (CV u w (u.length:Int)) λ(C:List UInt8)=>
 B5 (HH C) λ(A:Int) (B:Int)=>
 if((A=65533)&&(B<2)) then(
 some (.inr (.ext ([],10)))
 ) else(
 AB (Jl (IntKind.i64.wrap A)) λ(E:Bool)=>
 if(!E) then(
 some (.inr (.ext ([],2)))
 ) else(
 AB (app 40 l [(AD.mk (IntKind.i64.wrap A) 0 j)]) λ(q:List AD)=>
 AB (AM .i64 (w+B)) λ(F:Int)=>
 some (.inl (F,q))
 )
 )
 ) else(
 some (.inr (.nrm l))
 )
def vo(u:List UInt8)(j:List AC):Option ((List AD) × Int):=
 AB (HE j false) λ(q:Int)=>
 if(!(q=0)) then(
 some ([],q)
 ) else(
 Ao (iter (λ(a:Int × (List AD))=>uO u j a.1 a.2) (0,[])) λ(l:List AD)=>
 some (l,0)
 )
end
noncomputable section
def YN(u:List AD)(w:List AD)(q:Int):Option (Int ⊕ (An Unit Bool)):=
 if(decide (q<(u.length:Int))) then(
 AB (AL u q) λ(j:AD)=>
 AB (AL w q) λ(l:AD)=>
 AB (gd (((!(j.Char=l.Char))||(!(j.Ref=l.Ref)))==false) (Gz j.Attrs l.Attrs)) λ(A:Bool)=>
 if(((!(j.Char=l.Char))||(!(j.Ref=l.Ref)))||(!A)) then(
 some (.inr (.ext false))
 ) else(
 AB (AM .i64 (q+1)) λ(B:Int)=>
 some (.inl B)
 )
 ) else(
 some (.inr (.nrm ()))
 )
def WB(j:List AD)(l:List AD):Option (Bool):=
 if(!((j.length:Int)=(l.length:Int))) then(
 some false
 ) else(
 Ao (iter (λ(a:Int)=>YN j l a) 0) λ(q:Unit)=>
 some true
 )
def MK(f1:List AD)(u:Int)(j:List Int):Option ((Int × (List Int)) ⊕ (List Int)):=
 if(decide (u<(f1.length:Int))) then(
 AB (
 AB (AL f1 u) λ(w:AD)=>
 if(!(w.Ref=0)) then(
 AB (app 8 j [w.Ref]) λ(l:List Int)=>
 some l
 ) else(
 some j
 )
 ) λ(q:List Int)=>
 AB (AM .i64 (u+1)) λ(A:Int)=>
 some (.inl (A,q))
 ) else(
 some (.inr j)
 )
def vr(f1:List AD):Option ((List Int)):=
 AB (iter (λ(a:Int × (List Int))=>MK f1 a.1 a.2) (0,[])) λ(j:List Int)=>
 some j
end
noncomputable section
end
noncomputable section
structure B0 where
 Nodes:List Ag
deriving DecidableEq
instance:Inhabited B0:=⟨⟨[]⟩⟩
@[reducible] def B0.row(x:B0):List RV:=[.sl (x.Nodes.map Ag.row)]
def IC(j:Int):Option (Bool):=
 some ((((j=1)||(j=3))||(j=4))||(j=12))
def Mc(j:Int):Option (Bool):=
 some ((j=0)||(j=7))
def Mi(j:Int):Option (Bool):=
 some ((j=2)||(j=6))
def Ol(j:List As)(w:List As)(l:Int):Option (Int ⊕ (An Unit Bool)):=
 if(decide (l<(j.length:Int))) then(
 AB (AL j l) λ(q:As)=>
 AB (AL w l) λ(u:As)=>
 if(!((q.Row=u.Row)&&((q.Col=u.Col)&&((q.H=u.H)&&((q.W=u.W)&&true))))) then(
 some (.inr (.ext false))
 ) else(
 AB (AM .i64 (l+1)) λ(A:Int)=>
 some (.inl A)
 )
 ) else(
 some (.inr (.nrm ()))
 )
def Qj(j:List As)(l:List As):Option (Bool):=
 if(!((j.length:Int)=(l.length:Int))) then(
 some false
 ) else(
 Ao (iter (λ(a:Int)=>Ol j l a) 0) λ(q:Unit)=>
 some true
 )
def OS(j:Aw)(l:Aw):Option (Bool):=
 AB (gd (((((j.Row=l.Row)&&(j.Col=l.Col))&&(j.Text=l.Text))&&(j.Ref=l.Ref))==true) (Gz j.Attrs l.Attrs)) λ(q:Bool)=>
 some (((((j.Row=l.Row)&&(j.Col=l.Col))&&(j.Text=l.Text))&&(j.Ref=l.Ref))&&q)
def RM(j:List Aw)(q:List Aw)(l:Int):Option (Int ⊕ (An Unit Bool)):=
 if(decide (l<(j.length:Int))) then(
 AB (AL j l) λ(u:Aw)=>
 AB (AL q l) λ(w:Aw)=>
 AB (OS u w) λ(A:Bool)=>
 if(!A) then(
 some (.inr (.ext false))
 ) else(
 AB (AM .i64 (l+1)) λ(B:Int)=>
 some (.inl B)
 )
 ) else(
 some (.inr (.nrm ()))
 )
def Qo(j:List Aw)(l:List Aw):Option (Bool):=
 if(!((j.length:Int)=(l.length:Int))) then(
 some false
 ) else(
 Ao (iter (λ(a:Int)=>RM j l a) 0) λ(q:Unit)=>
 some true
 )
def Lr(j:BW)(l:BW):Option (Bool):=
 AB (gd (((j.Rows=l.Rows)&&(j.Cols=l.Cols))==true) (Qj j.Merges l.Merges)) λ(q:Bool)=>
 AB (gd ((((j.Rows=l.Rows)&&(j.Cols=l.Cols))&&q)==true) (Qo j.Cells l.Cells)) λ(u:Bool)=>
 some ((((j.Rows=l.Rows)&&(j.Cols=l.Cols))&&q)&&u)
def Jm(j:Int):Option (Bool):=
 some (((j=8)||(j=9))||(j=10))
def Fm(l:List UInt8):Option ((List UInt8) ⊕ (An Unit Bool)):=
 if(!(l=[])) then(
 B5 (HH l) λ(j:Int) (q:Int)=>
 AB (gd ((((j=65533)&&(q=1))||(j=10))==false) (Jb (IntKind.i64.wrap j))) λ(u:Bool)=>
 if((((j=65533)&&(q=1))||(j=10))||(!u)) then(
 some (.inr (.ext false))
 ) else(
 AB (CV l q (l.length:Int)) λ(w:List UInt8)=>
 some (.inl w)
 )
 ) else(
 some (.inr (.nrm ()))
 )
def RO(j:List UInt8):Option (Bool):=
 Ao (iter (λ(a:(List UInt8))=>Fm a) j) λ(l:Unit)=>
 some true
def Rb(j:Aw):Option (Bool):=
 some (((j.Text=[])&&(j.Ref=0))&&((j.Attrs.length:Int)=0))
def Rl(j:Int):Option (Bool):=
 some (!(j=j))
def Ja(q:Int)(u:Int):Option (Int):=
 AB (Rl q) λ(l:Bool)=>
 AB (Rl u) λ(j:Bool)=>
 if l then(
 if j then(
 some 0
 ) else(
 some (-1)
 )
 ) else(
 if j then(
 some 1
 ) else(
 if(decide (q<u)) then(
 some (-1)
 ) else(
 if(decide (u<q)) then(
 some 1
 ) else(
 some 0
 )
 )
 )
 )
def Ef(j:List Int)(l:Int):Option (Int ⊕ (An Unit Int)):=
 if(decide (l<(j.length:Int))) then(
 AB (AL j l) λ(q:Int)=>
 if(!(q=0)) then(
 some (.inr (.ext q))
 ) else(
 AB (AM .i64 (l+1)) λ(u:Int)=>
 some (.inl u)
 )
 ) else(
 some (.inr (.nrm ()))
 )
def N4(j:List Int):Option (Int):=
 Ao (iter (λ(a:Int)=>Ef j a) 0) λ(l:Unit)=>
 some 0
def NR(j:Aw)(l:Aw):Option (Int):=
 AB (Ja j.Row l.Row) λ(q:Int)=>
 AB (Ja j.Col l.Col) λ(u:Int)=>
 AB (N4 [q,u]) λ(w:Int)=>
 some w
def RU(A:List Aw)(q:Int)(u:Int)(w:Bool)(l:Int):Option (Int ⊕ (An Unit Int)):=
 if(decide (l<(A.length:Int))) then(
 AB (AL A l) λ(j:Aw)=>
 if((((j.Row<0)||(q≤j.Row))||(j.Col<0))||(u≤j.Col)) then(
 some (.inr (.ext 2))
 ) else(
 if((j.Ref<0)||(1073741824<j.Ref)) then(
 some (.inr (.ext 2))
 ) else(
 AB (RO j.Text) λ(C:Bool)=>
 if(!C) then(
 some (.inr (.ext 23))
 ) else(
 AB (Hu j.Attrs) λ(B:Int)=>
 if(!(B=0)) then(
 some (.inr (.ext B))
 ) else(
 AB (Rb j) λ(E:Bool)=>
 if(E&&(!w)) then(
 some (.inr (.ext 4))
 ) else(
 AB (gd ((decide (0<l))==true) (AM .i64 (l-1))) λ(F:Int)=>
 AB (gd ((decide (0<l))==true) (AL A F)) λ(I:Aw)=>
 AB (gd ((decide (0<l))==true) (NR I j)) λ(J:Int)=>
 if((0<l)&&(0≤J)) then(
 some (.inr (.ext 5))
 ) else(
 AB (AM .i64 (l+1)) λ(M:Int)=>
 some (.inl M)
 )
 )
 )
 )
 )
 )
 ) else(
 some (.inr (.nrm ()))
 )
def RF(u:List Aw)(j:Int)(l:Int)(q:Bool):Option (Int):=
 Ao (iter (λ(a:Int)=>RU u j l q a) 0) λ(w:Unit)=>
 some 0
def PL(j:As)(l:Int)(q:Int):Option (Bool):=
 AB (gd (((((((0≤j.Row)&&(0≤j.Col))&&(1≤j.H))&&(1≤j.W))&&(j.Row<l))&&(j.Col<q))==true) (AM .i64 (l-j.Row))) λ(u:Int)=>
 AB (gd ((((((((0≤j.Row)&&(0≤j.Col))&&(1≤j.H))&&(1≤j.W))&&(j.Row<l))&&(j.Col<q))&&(j.H≤u))==true) (AM .i64 (q-j.Col))) λ(w:Int)=>
 some ((((((((0≤j.Row)&&(0≤j.Col))&&(1≤j.H))&&(1≤j.W))&&(j.Row<l))&&(j.Col<q))&&(j.H≤u))&&(j.W≤w))
def Qk(j:As)(l:As):Option (Bool):=
 some ((j.Row<l.Row)||((j.Row=l.Row)&&(j.Col<l.Col)))
def Rj(j:As)(l:As):Option (Bool):=
 AB (AM .i64 (l.Row+l.H)) λ(q:Int)=>
 AB (gd ((decide (j.Row<q))==true) (AM .i64 (j.Row+j.H))) λ(u:Int)=>
 AB (gd (((j.Row<q)&&(l.Row<u))==true) (AM .i64 (l.Col+l.W))) λ(w:Int)=>
 AB (gd ((((j.Row<q)&&(l.Row<u))&&(j.Col<w))==true) (AM .i64 (j.Col+j.W))) λ(A:Int)=>
 some ((((j.Row<q)&&(l.Row<u))&&(j.Col<w))&&(l.Col<A))
def TD(j:As)(l:As):Option (Bool):=
 AB (Rj l j) λ(q:Bool)=>
 some q
def OW(q:As)(l:List As)(j:Int):Option (Int ⊕ (An Unit Int)):=
 if(decide (j<(l.length:Int))) then(
 AB (AL l j) λ(u:As)=>
 AB (TD q u) λ(w:Bool)=>
 if w then(
 some (.inr (.ext j))
 ) else(
 AB (AM .i64 (j+1)) λ(A:Int)=>
 some (.inl A)
 )
 ) else(
 some (.inr (.nrm ()))
 )
def TI(j:As)(l:List As):Option (Int):=
 Ao (iter (λ(a:Int)=>OW j l a) 0) λ(q:Unit)=>
 some (-1)
def Ms(j:As)(l:List As):Option (Bool):=
 AB (TI j l) λ(q:Int)=>
 some (decide (0≤q))
def O0(l:BW)(j:Int):Option (Int ⊕ (An Unit Int)):=
 if(decide (j<(l.Merges.length:Int))) then(
 AB (AL l.Merges j) λ(q:As)=>
 AB (PL q l.Rows l.Cols) λ(u:Bool)=>
 if(!u) then(
 some (.inr (.ext 2))
 ) else(
 if((q.H=1)&&(q.W=1)) then(
 some (.inr (.ext 4))
 ) else(
 AB (gd ((decide (0<j))==true) (AM .i64 (j-1))) λ(w:Int)=>
 AB (gd ((decide (0<j))==true) (AL l.Merges w)) λ(A:As)=>
 AB (gd ((decide (0<j))==true) (Qk A q)) λ(B:Bool)=>
 if((0<j)&&(!B)) then(
 some (.inr (.ext 5))
 ) else(
 AB (CV l.Merges 0 j) λ(C:List As)=>
 AB (Ms q C) λ(E:Bool)=>
 if E then(
 some (.inr (.ext 21))
 ) else(
 AB (AM .i64 (j+1)) λ(F:Int)=>
 some (.inl F)
 )
 )
 )
 )
 ) else(
 some (.inr (.nrm ()))
 )
def O4(j:BW):Option (Int):=
 if((((j.Rows<0)||(2147483647<j.Rows))||(j.Cols<0))||(2147483647<j.Cols)) then(
 some 2
 ) else(
 AB (RF j.Cells j.Rows j.Cols false) λ(l:Int)=>
 if(!(l=0)) then(
 some l
 ) else(
 Ao (iter (λ(a:Int)=>O0 j a) 0) λ(q:Unit)=>
 some 0
 )
 )
def Oz(j:Int)(u:List Aw)(l:Int):Option (Int ⊕ (An Unit Int)):=
 if(decide (l<(u.length:Int))) then(
 AB (AL u l) λ(q:Aw)=>
 if(((j=2)&&((!(q.Text=[]))||(0<(q.Attrs.length:Int))))||((j=6)&&(!(q.Ref=0)))) then(
 some (.inr (.ext 4))
 ) else(
 AB (AM .i64 (l+1)) λ(w:Int)=>
 some (.inl w)
 )
 ) else(
 some (.inr (.nrm ()))
 )
def PX(j:Int)(l:List Aw):Option (Int):=
 Ao (iter (λ(a:Int)=>Oz j l a) 0) λ(q:Unit)=>
 some 0
def TB(q:List UInt8)(l:Int):Option (Int ⊕ (An Unit Bool)):=
 if(decide (l<(q.length:Int))) then(
 AB (AL q l) λ(j:UInt8)=>
 if(((j.toNat:Int)<97)||(122<(j.toNat:Int))) then(
 some (.inr (.ext false))
 ) else(
 AB (AM .i64 (l+1)) λ(u:Int)=>
 some (.inl u)
 )
 ) else(
 some (.inr (.nrm ()))
 )
def PI(j:List UInt8):Option (Bool):=
 AB (gd (((j=[])||(200<(j.length:Int)))==false) (AM .i64 ((j.length:Int)-1))) λ(q:Int)=>
 AB (gd (((j=[])||(200<(j.length:Int)))==false) (AL j q)) λ(l:UInt8)=>
 if(((j=[])||(200<(j.length:Int)))||((l.toNat:Int)=97)) then(
 some false
 ) else(
 Ao (iter (λ(a:Int)=>TB j a) 0) λ(u:Unit)=>
 some true
 )
def O2(j:BN):Option (Int):=
 if((!(j.Kind=0))&&(!(j.Kind=1))) then(
 some 8
 ) else(
 if((((((j.Clock<1)||(1073741824<j.Clock))||(j.Site<0))||(1000<j.Site))||(j.Item<1))||(1073741824<j.Item)) then(
 some 2
 ) else(
 AB (
 if((j.Kind=0)&&((!(j.Name=[]))||(!(j.Value=[])))) then(
 some ((j.Kind=0)&&((!(j.Name=[]))||(!(j.Value=[]))))
 ) else(
 some ((j.Kind=1)&&((!(j.Parent=0))||(!(j.Place=[]))))
 )
 ) λ(q:Bool)=>
 if q then(
 some 4
 ) else(
 if((j.Kind=0)&&((j.Parent<(-1))||(1073741824<j.Parent))) then(
 some 2
 ) else(
 AB (gd ((decide (j.Kind=0))==true) (PI j.Place)) λ(l:Bool)=>
 AB (
 if((j.Kind=0)&&(!l)) then(
 some ((j.Kind=0)&&(!l))
 ) else(
 AB (gd ((decide (j.Kind=1))==true) (Nv j.Name)) λ(u:Bool)=>
 some ((j.Kind=1)&&(!u))
 )
 ) λ(w:Bool)=>
 if w then(
 some 9
 ) else(
 AB (gd (((j.Kind=1)&&(!(j.Value=[])))==true) (Jo j.Value)) λ(A:Bool)=>
 if(((j.Kind=1)&&(!(j.Value=[])))&&(!A)) then(
 some 23
 ) else(
 some 0
 )
 )
 )
 )
 )
 )
def Ps(j:BN)(l:BN):Option (Int):=
 AB (Ja j.Clock l.Clock) λ(q:Int)=>
 AB (Ja j.Site l.Site) λ(u:Int)=>
 AB (N4 [q,u]) λ(w:Int)=>
 some w
def Qb(l:List BN)(j:Int):Option (Int ⊕ (An Unit Int)):=
 if(decide (j<(l.length:Int))) then(
 AB (AL l j) λ(q:BN)=>
 AB (O2 q) λ(u:Int)=>
 if(!(u=0)) then(
 some (.inr (.ext u))
 ) else(
 AB (gd ((decide (0<j))==true) (AM .i64 (j-1))) λ(w:Int)=>
 AB (gd ((decide (0<j))==true) (AL l w)) λ(A:BN)=>
 AB (gd ((decide (0<j))==true) (Ps A q)) λ(B:Int)=>
 if((0<j)&&(0≤B)) then(
 some (.inr (.ext 5))
 ) else(
 AB (AM .i64 (j+1)) λ(C:Int)=>
 some (.inl C)
 )
 )
 ) else(
 some (.inr (.nrm ()))
 )
def OQ(j:List BN):Option (Int):=
 Ao (iter (λ(a:Int)=>Qb j a) 0) λ(l:Unit)=>
 some 0
def Fc(n1:Ag):Option (Int):=
 if((n1.ID<1)||(1073741824<n1.ID)) then(
 some 2
 ) else(
 if(((n1.Kind<0)||(13≤n1.Kind))||(!((decide (n1.ID=1))==(decide (n1.Kind=0))))) then(
 some 8
 ) else(
 AB (Hu n1.Attrs) λ(w:Int)=>
 if(!(w=0)) then(
 some w
 ) else(
 AB (IC n1.Kind) λ(l:Bool)=>
 AB (gd (l==false) (Mc n1.Kind)) λ(q:Bool)=>
 AB (Mi n1.Kind) λ(j:Bool)=>
 AB (
 if(((!(l||q))&&(0<(n1.Flow.length:Int)))==false) then(
 if((!j)==true) then(
 AB (Lr n1.Grid (BW.mk 0 0 [] [])) λ(A:Bool)=>
 AB (gd ((((!(l||q))&&(0<(n1.Flow.length:Int)))||((!j)&&(!A)))==false) (Jm n1.Kind)) λ(C:Bool)=>
 some ((((!(l||q))&&(0<(n1.Flow.length:Int)))||((!j)&&(!A)))||((!C)&&(0<(n1.Draw.length:Int))))
 ) else(
 AB (gd ((((!(l||q))&&(0<(n1.Flow.length:Int)))||((!j)&&false))==false) (Jm n1.Kind)) λ(E:Bool)=>
 some ((((!(l||q))&&(0<(n1.Flow.length:Int)))||((!j)&&false))||((!E)&&(0<(n1.Draw.length:Int))))
 )
 ) else(
 AB (gd ((((!(l||q))&&(0<(n1.Flow.length:Int)))||false)==false) (Jm n1.Kind)) λ(u:Bool)=>
 some ((((!(l||q))&&(0<(n1.Flow.length:Int)))||false)||((!u)&&(0<(n1.Draw.length:Int))))
 )
 ) λ(F:Bool)=>
 if F then(
 some 4
 ) else(
 if(l||q) then(
 AB (Hm n1.Flow l) λ(I:Int)=>
 some I
 ) else(
 if j then(
 AB (O4 n1.Grid) λ(B:Int)=>
 if(!(B=0)) then(
 some B
 ) else(
 AB (PX n1.Kind n1.Grid.Cells) λ(J:Int)=>
 some J
 )
 ) else(
 AB (OQ n1.Draw) λ(M:Int)=>
 some M
 )
 )
 )
 )
 )
 )
def IH(f1:List AD)(u:Int)(j:List Int):Option ((Int × (List Int)) ⊕ (List Int)):=
 if(decide (u<(f1.length:Int))) then(
 AB (
 AB (AL f1 u) λ(w:AD)=>
 if(!(w.Ref=0)) then(
 AB (app 8 j [w.Ref]) λ(l:List Int)=>
 some l
 ) else(
 some j
 )
 ) λ(q:List Int)=>
 AB (AM .i64 (u+1)) λ(A:Int)=>
 some (.inl (A,q))
 ) else(
 some (.inr j)
 )
def Q8(f1:List AD):Option ((List Int)):=
 AB (iter (λ(a:Int × (List Int))=>IH f1 a.1 a.2) (0,[])) λ(j:List Int)=>
 some j
def Hb(n1:Ag)(u:Int)(j:List Int):Option ((Int × (List Int)) ⊕ (List Int)):=
 if(decide (u<(n1.Grid.Cells.length:Int))) then(
 AB (
 AB (AL n1.Grid.Cells u) λ(w:Aw)=>
 if(!(w.Ref=0)) then(
 AB (app 8 j [w.Ref]) λ(l:List Int)=>
 some l
 ) else(
 some j
 )
 ) λ(q:List Int)=>
 AB (AM .i64 (u+1)) λ(A:Int)=>
 some (.inl (A,q))
 ) else(
 some (.inr j)
 )
def KS(n1:Ag):Option ((List Int)):=
 AB (Q8 n1.Flow) λ(l:List Int)=>
 AB (iter (λ(a:Int × (List Int))=>Hb n1 a.1 a.2) (0,l)) λ(j:List Int)=>
 some j
def MP(n1:Ag)(j:Int):Option (Int):=
 if(decide (n1.ID<j)) then(
 some (-1)
 ) else(
 if(decide (j<n1.ID)) then(
 some 1
 ) else(
 some 0
 )
 )
def Nq(A:List Ag)(j:Int)(l:Int)(q:Int):Option ((Int × Int) ⊕ Int):=
 if(decide (l<q)) then(
 AB (AM .i64 (l+q)) λ(u:Int)=>
 AB (AL A (IntKind.i64.wrap (FZ .u64 (IntKind.u64.wrap u) 1))) λ(B:Ag)=>
 AB (MP B j) λ(C:Int)=>
 if(decide (C<0)) then(
 AB (AM .i64 ((IntKind.i64.wrap (FZ .u64 (IntKind.u64.wrap u) 1))+1)) λ(w:Int)=>
 some (.inl (w,q))
 ) else(
 some (.inl (l,(IntKind.i64.wrap (FZ .u64 (IntKind.u64.wrap u) 1))))
 )
 ) else(
 some (.inr l)
 )
def TX(l:List Ag)(j:Int):Option (Int × Bool):=
 AB (iter (λ(a:Int × Int)=>Nq l j a.1 a.2) (0,(l.length:Int))) λ(i8:Int)=>
 AB (gd ((decide (i8<(l.length:Int)))==true) (AL l i8)) λ(q:Ag)=>
 AB (gd ((decide (i8<(l.length:Int)))==true) (MP q j)) λ(u:Int)=>
 some (i8,((i8<(l.length:Int))&&(u=0)))
def MR(d1:B0)(j:Int):Option (Int × Bool):=
 B5 (TX d1.Nodes j) λ(l:Int) (q:Bool)=>
 some (l,q)
def PC(l:List Int)(v1:Int)(j:Int):Option (Int ⊕ (An Unit Int)):=
 if(decide (j<(l.length:Int))) then(
 AB (AL l j) λ(q:Int)=>
 if(decide (v1=q)) then(
 some (.inr (.ext j))
 ) else(
 AB (AM .i64 (j+1)) λ(u:Int)=>
 some (.inl u)
 )
 ) else(
 some (.inr (.nrm ()))
 )
def TR(j:List Int)(v1:Int):Option (Int):=
 Ao (iter (λ(a:Int)=>PC j v1 a) 0) λ(l:Unit)=>
 some (-1)
def OG(j:List Int)(v1:Int):Option (Bool):=
 AB (TR j v1) λ(l:Int)=>
 some (decide (0≤l))
def QX(j:Int)(l:Int):Option (Bool):=
 AB (
 if(decide (j=0)) then(
 some [1,6,7,10,11,12]
 ) else(
 if(decide (j=1)) then(
 some [2,4,5,10]
 ) else(
 if(decide (j=3)) then(
 some [4,5,10]
 ) else(
 AB (
 if(decide (j=4)) then(
 some (decide (j=4))
 ) else(
 some (decide (j=12))
 )
 ) λ(q:Bool)=>
 if q then(
 some [5]
 ) else(
 if(decide (j=2)) then(
 some [3]
 ) else(
 if(decide (j=7)) then(
 some [8,9]
 ) else(
 some []
 )
 )
 )
 )
 )
 )
 ) λ(u:List Int)=>
 AB (OG u l) λ(w:Bool)=>
 some w
def OM(d1:B0)(j:Int)(Hg:List Int)(l:Int):Option (Int ⊕ (An Unit Int)):=
 if(decide (l<(Hg.length:Int))) then(
 AB (AL Hg l) λ(q:Int)=>
 B5 (MR d1 q) λ(u:Int) (w:Bool)=>
 if(!w) then(
 some (.inr (.ext 7))
 ) else(
 AB (AL d1.Nodes u) λ(A:Ag)=>
 AB (QX j A.Kind) λ(B:Bool)=>
 if(!B) then(
 some (.inr (.ext 8))
 ) else(
 AB (AM .i64 (l+1)) λ(C:Int)=>
 some (.inl C)
 )
 )
 ) else(
 some (.inr (.nrm ()))
 )
def PY(d1:B0)(j:Int)(Hg:List Int):Option (Int):=
 Ao (iter (λ(a:Int)=>OM d1 j Hg a) 0) λ(l:Unit)=>
 some 0
def Lk(d1:B0)(j:Int):Option (Int ⊕ (An Unit Int)):=
 if(decide (j<(d1.Nodes.length:Int))) then(
 AB (AL d1.Nodes j) λ(l:Ag)=>
 AB (KS l) λ(u:List Int)=>
 AB (PY d1 l.Kind u) λ(q:Int)=>
 if(!(q=0)) then(
 some (.inr (.ext q))
 ) else(
 AB (AM .i64 (j+1)) λ(w:Int)=>
 some (.inl w)
 )
 ) else(
 some (.inr (.nrm ()))
 )
def Iy(d1:B0)(j:Int):Option (Int ⊕ (An Unit Int)):=
 if(decide (j<(d1.Nodes.length:Int))) then(
 AB (AL d1.Nodes j) λ(l:Ag)=>
 AB (Fc l) λ(A:Int)=>
 if(!(A=0)) then(
 some (.inr (.ext A))
 ) else(
 AB (gd ((((j=0)&&(!(l.ID=1)))==false)&&((decide (0<j))==true)) (AM .i64 (j-1))) λ(q:Int)=>
 AB (gd ((((j=0)&&(!(l.ID=1)))==false)&&((decide (0<j))==true)) (AL d1.Nodes q)) λ(u:Ag)=>
 if(((j=0)&&(!(l.ID=1)))||((0<j)&&(l.ID≤u.ID))) then(
 some (.inr (.ext 5))
 ) else(
 AB (AM .i64 (j+1)) λ(w:Int)=>
 some (.inl w)
 )
 )
 ) else(
 some (.inr (.nrm ()))
 )
def KI(d1:B0):Option (Int):=
 if(decide ((d1.Nodes.length:Int)=0)) then(
 some 11
 ) else(
 Ao (iter (λ(a:Int)=>Iy d1 a) 0) λ(j:Unit)=>
 Ao (iter (λ(a:Int)=>Lk d1 a) 0) λ(l:Unit)=>
 some 0
 )
def QO(j:Aw)(l:Aw):Option (Bool):=
 AB (gd (((((j.Row=l.Row)&&(j.Col=l.Col))&&(j.Text=l.Text))&&(j.Ref=l.Ref))==true) (GC j.Attrs l.Attrs)) λ(q:Bool)=>
 some (((((j.Row=l.Row)&&(j.Col=l.Col))&&(j.Text=l.Text))&&(j.Ref=l.Ref))&&q)
def M2(l:List Aw)(q:List Aw)(j:Int):Option (Int ⊕ (An Unit Bool)):=
 if(decide (j<(l.length:Int))) then(
 AB (AL l j) λ(u:Aw)=>
 AB (AL q j) λ(w:Aw)=>
 AB (QO u w) λ(A:Bool)=>
 if(!A) then(
 some (.inr (.ext false))
 ) else(
 AB (AM .i64 (j+1)) λ(B:Int)=>
 some (.inl B)
 )
 ) else(
 some (.inr (.nrm ()))
 )
def Jk(j:List Aw)(l:List Aw):Option (Bool):=
 if(!((j.length:Int)=(l.length:Int))) then(
 some false
 ) else(
 Ao (iter (λ(a:Int)=>M2 j l a) 0) λ(q:Unit)=>
 some true
 )
def NF(u:List As)(w:List As)(j:Int):Option (Int ⊕ (An Unit Bool)):=
 if(decide (j<(u.length:Int))) then(
 AB (AL u j) λ(l:As)=>
 AB (AL w j) λ(q:As)=>
 if(!((l.Row=q.Row)&&((l.Col=q.Col)&&((l.H=q.H)&&((l.W=q.W)&&true))))) then(
 some (.inr (.ext false))
 ) else(
 AB (AM .i64 (j+1)) λ(A:Int)=>
 some (.inl A)
 )
 ) else(
 some (.inr (.nrm ()))
 )
def Ip(j:List As)(l:List As):Option (Bool):=
 if(!((j.length:Int)=(l.length:Int))) then(
 some false
 ) else(
 Ao (iter (λ(a:Int)=>NF j l a) 0) λ(q:Unit)=>
 some true
 )
def Qs(j:BW)(l:BW):Option (Bool):=
 AB (gd (((j.Rows=l.Rows)&&(j.Cols=l.Cols))==true) (Jk j.Cells l.Cells)) λ(q:Bool)=>
 AB (gd ((((j.Rows=l.Rows)&&(j.Cols=l.Cols))&&q)==true) (Ip j.Merges l.Merges)) λ(u:Bool)=>
 some ((((j.Rows=l.Rows)&&(j.Cols=l.Cols))&&q)&&u)
def Nh(u:List BN)(w:List BN)(q:Int):Option (Int ⊕ (An Unit Bool)):=
 if(decide (q<(u.length:Int))) then(
 AB (AL u q) λ(j:BN)=>
 AB (AL w q) λ(l:BN)=>
 if(!((j.Clock=l.Clock)&&((j.Site=l.Site)&&((j.Kind=l.Kind)&&((j.Item=l.Item)&&((j.Parent=l.Parent)&&((j.Place=l.Place)&&((j.Name=l.Name)&&((j.Value=l.Value)&&true))))))))) then(
 some (.inr (.ext false))
 ) else(
 AB (AM .i64 (q+1)) λ(A:Int)=>
 some (.inl A)
 )
 ) else(
 some (.inr (.nrm ()))
 )
def Js(j:List BN)(l:List BN):Option (Bool):=
 if(!((j.length:Int)=(l.length:Int))) then(
 some false
 ) else(
 Ao (iter (λ(a:Int)=>Nh j l a) 0) λ(q:Unit)=>
 some true
 )
def IF(j:Ag)(l:Ag):Option (Bool):=
 AB (gd (((j.ID=l.ID)&&(j.Kind=l.Kind))==true) (GC j.Attrs l.Attrs)) λ(q:Bool)=>
 AB (gd ((((j.ID=l.ID)&&(j.Kind=l.Kind))&&q)==true) (Lg j.Flow l.Flow)) λ(u:Bool)=>
 AB (gd (((((j.ID=l.ID)&&(j.Kind=l.Kind))&&q)&&u)==true) (Qs j.Grid l.Grid)) λ(w:Bool)=>
 AB (gd ((((((j.ID=l.ID)&&(j.Kind=l.Kind))&&q)&&u)&&w)==true) (Js j.Draw l.Draw)) λ(A:Bool)=>
 some ((((((j.ID=l.ID)&&(j.Kind=l.Kind))&&q)&&u)&&w)&&A)
def Vr(q:List BN)(w:List BN)(u:Int):Option (Int ⊕ (An Unit Bool)):=
 if(decide (u<(q.length:Int))) then(
 AB (AL q u) λ(j:BN)=>
 AB (AL w u) λ(l:BN)=>
 if(!((j.Clock=l.Clock)&&((j.Site=l.Site)&&((j.Kind=l.Kind)&&((j.Item=l.Item)&&((j.Parent=l.Parent)&&((j.Place=l.Place)&&((j.Name=l.Name)&&((j.Value=l.Value)&&true))))))))) then(
 some (.inr (.ext false))
 ) else(
 AB (AM .i64 (u+1)) λ(A:Int)=>
 some (.inl A)
 )
 ) else(
 some (.inr (.nrm ()))
 )
def U9(j:List BN)(l:List BN):Option (Bool):=
 if(!((j.length:Int)=(l.length:Int))) then(
 some false
 ) else(
 Ao (iter (λ(a:Int)=>Vr j l a) 0) λ(q:Unit)=>
 some true
 )
def gI(j:Ag)(l:Ag):Option (Bool):=
 AB (gd (((j.ID=l.ID)&&(j.Kind=l.Kind))==true) (Gz j.Attrs l.Attrs)) λ(q:Bool)=>
 AB (gd ((((j.ID=l.ID)&&(j.Kind=l.Kind))&&q)==true) (WB j.Flow l.Flow)) λ(u:Bool)=>
 AB (gd (((((j.ID=l.ID)&&(j.Kind=l.Kind))&&q)&&u)==true) (Lr j.Grid l.Grid)) λ(w:Bool)=>
 AB (gd ((((((j.ID=l.ID)&&(j.Kind=l.Kind))&&q)&&u)&&w)==true) (U9 j.Draw l.Draw)) λ(A:Bool)=>
 some ((((((j.ID=l.ID)&&(j.Kind=l.Kind))&&q)&&u)&&w)&&A)
def Pz(d1:B0)(l:Int)(j:Int):Option (Int ⊕ (An Unit Int)):=
 if(decide (j<(d1.Nodes.length:Int))) then(
 AB (AL d1.Nodes j) λ(q:Ag)=>
 if(decide (q.ID=l)) then(
 some (.inr (.ext j))
 ) else(
 AB (AM .i64 (j+1)) λ(u:Int)=>
 some (.inl u)
 )
 ) else(
 some (.inr (.nrm ()))
 )
def Hh(d1:B0)(j:Int):Option (Int):=
 Ao (iter (λ(a:Int)=>Pz d1 j a) 0) λ(l:Unit)=>
 some (-1)
end
noncomputable section
def LY(j:Int):Option (Bool):=
 some ((((j=1)||(j=3))||(j=4))||(j=12))
def RT(j:Int)(l:Int):Option (Bool):=
 AB (
 if(decide (l=1)) then(
 some (decide (l=1))
 ) else(
 if(decide (l=6)) then(
 some (decide (l=6))
 ) else(
 if(decide (l=7)) then(
 some (decide (l=7))
 ) else(
 if(decide (l=11)) then(
 some (decide (l=11))
 ) else(
 some (decide (l=12))
 )
 )
 )
 )
 ) λ(q:Bool)=>
 if q then(
 some (decide (j=0))
 ) else(
 if(decide (l=10)) then(
 some (((j=0)||(j=1))||(j=3))
 ) else(
 if(decide (l=2)) then(
 some (decide (j=1))
 ) else(
 if(decide (l=4)) then(
 some ((j=1)||(j=3))
 ) else(
 if(decide (l=5)) then(
 AB (LY j) λ(u:Bool)=>
 some u
 ) else(
 if(decide (l=3)) then(
 some (decide (j=2))
 ) else(
 AB (
 if(decide (l=8)) then(
 some (decide (l=8))
 ) else(
 some (decide (l=9))
 )
 ) λ(w:Bool)=>
 if w then(
 some (decide (j=7))
 ) else(
 some false
 )
 )
 )
 )
 )
 )
 )
def T0(j:Int):Option (Bool):=
 some ((j=0)||(j=7))
def QA(j:BW):Option (Bool):=
 some ((((j.Rows=0)&&(j.Cols=0))&&((j.Cells.length:Int)=0))&&((j.Merges.length:Int)=0))
def Qt(j:Int):Option (Bool):=
 some ((j=2)||(j=6))
def Te(j:Int):Option (Bool):=
 some (((j=8)||(j=9))||(j=10))
def Ts(j:List UInt8):Option (Bool):=
 Sx j
def Fw(l:List UInt8)(j:(Nat)):Option ((Nat) ⊕ (An Unit Bool)):=
 if(decide (j<l.length)) then(
 AB (gd ((decide (((Gp l j).1:Int)=10))==false) (Jl (IntKind.i64.wrap ((Gp l j).1:Int)))) λ(q:Bool)=>
 if((((Gp l j).1:Int)=10)||(!q)) then(
 some (.inr (.ext false))
 ) else(
 some (.inl (j+(Gp l j).2))
 )
 ) else(
 some (.inr (.nrm ()))
 )
def Qv(j:List UInt8):Option (Bool):=
 AB (Ts j) λ(l:Bool)=>
 if(!l) then(
 some false
 ) else(
 Ao (iter (λ(a:(Nat))=>Fw j a) 0) λ(q:Unit)=>
 some true
 )
def Q0(j:Aw):Option (Bool):=
 some (((j.Text=[])&&(j.Ref=0))&&((j.Attrs.length:Int)=0))
def O7(B:List Aw)(u:Int)(w:Int)(l:Bool)(q:Int):Option (Int ⊕ (An Unit Int)):=
 if(decide (q<(B.length:Int))) then(
 AB (AL B q) λ(j:Aw)=>
 AB (AM .i64 (u-1)) λ(M:Int)=>
 AB (Cr j.Row 0 M) λ(C:Bool)=>
 AB (gd ((!C)==false) (AM .i64 (w-1))) λ(O:Int)=>
 AB (gd ((!C)==false) (Cr j.Col 0 O)) λ(I:Bool)=>
 AB (gd (((!C)||(!I))==false) (Cr j.Ref 0 1073741824)) λ(T:Bool)=>
 if(((!C)||(!I))||(!T)) then(
 some (.inr (.ext 2))
 ) else(
 AB (Qv j.Text) λ(U:Bool)=>
 if(!U) then(
 some (.inr (.ext 23))
 ) else(
 AB (HE j.Attrs false) λ(J:Int)=>
 if(!(J=0)) then(
 some (.inr (.ext J))
 ) else(
 AB (gd ((!l)==true) (Q0 j)) λ(V:Bool)=>
 if((!l)&&V) then(
 some (.inr (.ext 4))
 ) else(
 AB (gd ((decide (0<q))==true) (AM .i64 (q-1))) λ(X:Int)=>
 AB (gd ((decide (0<q))==true) (AL B X)) λ(A:Aw)=>
 AB (gd ((((decide (0<q))==true)&&((decide (j.Row<A.Row))==false))&&((decide (j.Row=A.Row))==true)) (AM .i64 (q-1))) λ(Y:Int)=>
 AB (gd ((((decide (0<q))==true)&&((decide (j.Row<A.Row))==false))&&((decide (j.Row=A.Row))==true)) (AL B Y)) λ(E:Aw)=>
 if((0<q)&&((j.Row<A.Row)||((j.Row=A.Row)&&(j.Col≤E.Col)))) then(
 some (.inr (.ext 5))
 ) else(
 AB (AM .i64 (q+1)) λ(F:Int)=>
 some (.inl F)
 )
 )
 )
 )
 )
 ) else(
 some (.inr (.nrm ()))
 )
def NS(u:List Aw)(j:Int)(l:Int)(q:Bool):Option (Int):=
 Ao (iter (λ(a:Int)=>O7 u j l q a) 0) λ(w:Unit)=>
 some 0
def LZ(u:As)(j:Int)(l:Int):Option (Bool):=
 AB (AM .i64 (j-1)) λ(B:Int)=>
 AB (Cr u.Row 0 B) λ(q:Bool)=>
 AB (gd (q==true) (AM .i64 (l-1))) λ(C:Int)=>
 AB (gd (q==true) (Cr u.Col 0 C)) λ(w:Bool)=>
 AB (gd ((q&&w)==true) (AM .i64 (j-u.Row))) λ(E:Int)=>
 AB (gd ((q&&w)==true) (Cr u.H 1 E)) λ(A:Bool)=>
 AB (gd (((q&&w)&&A)==true) (AM .i64 (l-u.Col))) λ(F:Int)=>
 AB (gd (((q&&w)&&A)==true) (Cr u.W 1 F)) λ(I:Bool)=>
 some (((q&&w)&&A)&&I)
def Qm(j:As)(l:As):Option (Bool):=
 AB (AM .i64 (j.Row+j.H)) λ(q:Int)=>
 AB (AM .i64 (l.Row+l.H)) λ(u:Int)=>
 AB (gd ((decide ((max j.Row l.Row)<(min q u)))==true) (AM .i64 (j.Col+j.W))) λ(w:Int)=>
 AB (gd ((decide ((max j.Row l.Row)<(min q u)))==true) (AM .i64 (l.Col+l.W))) λ(A:Int)=>
 some (((max j.Row l.Row)<(min q u))&&((max j.Col l.Col)<(min w A)))
def PJ(u:BW)(w:Int)(A:As)(j:Int):Option (Int ⊕ (An Unit (Int ⊕ (An Unit Int)))):=
 if(decide (j<w)) then(
 AB (AL u.Merges j) λ(l:As)=>
 AB (Qm A l) λ(B:Bool)=>
 if B then(
 some (.inr (.ext (.inr (.ext 21))))
 ) else(
 AB (AM .i64 (j+1)) λ(q:Int)=>
 some (.inl q)
 )
 ) else(
 some (.inr (.nrm ()))
 )
def QT(q:BW)(j:Int):Option (Int ⊕ (An Unit Int)):=
 if(decide (j<(q.Merges.length:Int))) then(
 AB (AL q.Merges j) λ(l:As)=>
 AB (LZ l q.Rows q.Cols) λ(A:Bool)=>
 if(!A) then(
 some (.inr (.ext 2))
 ) else(
 if((l.H=1)&&(l.W=1)) then(
 some (.inr (.ext 4))
 ) else(
 AB (gd ((decide (0<j))==true) (AM .i64 (j-1))) λ(B:Int)=>
 AB (gd ((decide (0<j))==true) (AL q.Merges B)) λ(u:As)=>
 AB (gd ((((decide (0<j))==true)&&((decide (l.Row<u.Row))==false))&&((decide (l.Row=u.Row))==true)) (AM .i64 (j-1))) λ(C:Int)=>
 AB (gd ((((decide (0<j))==true)&&((decide (l.Row<u.Row))==false))&&((decide (l.Row=u.Row))==true)) (AL q.Merges C)) λ(E:As)=>
 if((0<j)&&((l.Row<u.Row)||((l.Row=u.Row)&&(l.Col≤E.Col)))) then(
 some (.inr (.ext 5))
 ) else(
 Ao (iter (λ(a:Int)=>PJ q j l a) 0) λ(F:Unit)=>
 AB (AM .i64 (j+1)) λ(w:Int)=>
 some (.inl w)
 )
 )
 )
 ) else(
 some (.inr (.nrm ()))
 )
def P4(j:BW):Option (Int):=
 AB (Cr j.Rows 0 2147483647) λ(l:Bool)=>
 AB (gd ((!l)==false) (Cr j.Cols 0 2147483647)) λ(u:Bool)=>
 if((!l)||(!u)) then(
 some 2
 ) else(
 AB (NS j.Cells j.Rows j.Cols false) λ(q:Int)=>
 if(!(q=0)) then(
 some q
 ) else(
 Ao (iter (λ(a:Int)=>QT j a) 0) λ(w:Unit)=>
 some 0
 )
 )
def On(j:Int)(u:List Aw)(l:Int):Option (Int ⊕ (An Unit Int)):=
 if(decide (l<(u.length:Int))) then(
 AB (gd ((decide (j=2))==true) (AL u l)) λ(q:Aw)=>
 AB (gd ((((j=2)&&((!(q.Text=[]))||(0<(q.Attrs.length:Int))))==false)&&((decide (j=6))==true)) (AL u l)) λ(w:Aw)=>
 if(((j=2)&&((!(q.Text=[]))||(0<(q.Attrs.length:Int))))||((j=6)&&(!(w.Ref=0)))) then(
 some (.inr (.ext 4))
 ) else(
 AB (AM .i64 (l+1)) λ(A:Int)=>
 some (.inl A)
 )
 ) else(
 some (.inr (.nrm ()))
 )
def PS(j:Int)(l:List Aw):Option (Int):=
 Ao (iter (λ(a:Int)=>On j l a) 0) λ(q:Unit)=>
 some 0
def Kz(q:List UInt8)(l:Int):Option (Int ⊕ (An Unit Bool)):=
 if(decide (l<(q.length:Int))) then(
 AB (AL q l) λ(j:UInt8)=>
 if(((j.toNat:Int)<97)||(122<(j.toNat:Int))) then(
 some (.inr (.ext false))
 ) else(
 AB (AM .i64 (l+1)) λ(u:Int)=>
 some (.inl u)
 )
 ) else(
 some (.inr (.nrm ()))
 )
def Qn(j:List UInt8):Option (Bool):=
 Ao (iter (λ(a:Int)=>Kz j a) 0) λ(u:Unit)=>
 AB (gd (((1≤(j.length:Int))&&((j.length:Int)≤200))==true) (AM .i64 ((j.length:Int)-1))) λ(q:Int)=>
 AB (gd (((1≤(j.length:Int))&&((j.length:Int)≤200))==true) (AL j q)) λ(l:UInt8)=>
 some (((1≤(j.length:Int))&&((j.length:Int)≤200))&&(!((l.toNat:Int)=97)))
def Mh(j:BN)(l:BN):Option (Bool):=
 some ((j.Clock<l.Clock)||((j.Clock=l.Clock)&&(j.Site<l.Site)))
def Rc(q:List BN)(l:Int):Option (Int ⊕ (An Unit Int)):=
 if(decide (l<(q.length:Int))) then(
 AB (AL q l) λ(j:BN)=>
 if((!(j.Kind=0))&&(!(j.Kind=1))) then(
 some (.inr (.ext 8))
 ) else(
 AB (Cr j.Clock 1 1073741824) λ(u:Bool)=>
 AB (gd ((!u)==false) (Cr j.Site 0 1000)) λ(w:Bool)=>
 AB (gd (((!u)||(!w))==false) (Cr j.Item 1 1073741824)) λ(A:Bool)=>
 if(((!u)||(!w))||(!A)) then(
 some (.inr (.ext 2))
 ) else(
 Ao (
 if(decide (j.Kind=0)) then(
 if((!(j.Name=[]))||(!(j.Value=[]))) then(
 some (.ext (.inr (.ext 4)))
 ) else(
 AB (Cr j.Parent (-1) 1073741824) λ(B:Bool)=>
 if(!B) then(
 some (.ext (.inr (.ext 2)))
 ) else(
 AB (Qn j.Place) λ(C:Bool)=>
 if(!C) then(
 some (.ext (.inr (.ext 9)))
 ) else(
 some (.nrm ())
 )
 )
 )
 ) else(
 if((!(j.Parent=0))||(!(j.Place=[]))) then(
 some (.ext (.inr (.ext 4)))
 ) else(
 AB (Ni j.Name) λ(E:Bool)=>
 if(!E) then(
 some (.ext (.inr (.ext 9)))
 ) else(
 AB (gd ((!(j.Value=[]))==true) (Lt j.Value)) λ(F:Bool)=>
 if((!(j.Value=[]))&&(!F)) then(
 some (.ext (.inr (.ext 23)))
 ) else(
 some (.nrm ())
 )
 )
 )
 )
 ) λ(T:Unit)=>
 AB (gd ((decide (0<l))==true) (AM .i64 (l-1))) λ(I:Int)=>
 AB (gd ((decide (0<l))==true) (AL q I)) λ(J:BN)=>
 AB (gd ((decide (0<l))==true) (Mh J j)) λ(M:Bool)=>
 if((0<l)&&(!M)) then(
 some (.inr (.ext 5))
 ) else(
 AB (AM .i64 (l+1)) λ(O:Int)=>
 some (.inl O)
 )
 )
 )
 ) else(
 some (.inr (.nrm ()))
 )
def MI(j:List BN):Option (Int):=
 Ao (iter (λ(a:Int)=>Rc j a) 0) λ(l:Unit)=>
 some 0
def N2(n1:Ag):Option (Int):=
 AB (Cr n1.ID 1 1073741824) λ(F:Bool)=>
 if(!F) then(
 some 2
 ) else(
 AB (Cr n1.Kind 0 12) λ(I:Bool)=>
 if(((!I)||((n1.ID=1)&&(!(n1.Kind=0))))||((!(n1.ID=1))&&(n1.Kind=0))) then(
 some 8
 ) else(
 AB (HE n1.Attrs false) λ(B:Int)=>
 if(!(B=0)) then(
 some B
 ) else(
 AB (LY n1.Kind) λ(j:Bool)=>
 AB (gd (j==false) (T0 n1.Kind)) λ(l:Bool)=>
 AB (gd (((0<(n1.Flow.length:Int))&&(!(j||l)))==false) (QA n1.Grid)) λ(q:Bool)=>
 AB (gd ((((0<(n1.Flow.length:Int))&&(!(j||l)))==false)&&((!q)==true)) (Qt n1.Kind)) λ(C:Bool)=>
 AB (gd (((((0<(n1.Flow.length:Int))&&(!(j||l)))||((!q)&&(!C)))==false)&&((decide (0<(n1.Draw.length:Int)))==true)) (Te n1.Kind)) λ(J:Bool)=>
 if((((0<(n1.Flow.length:Int))&&(!(j||l)))||((!q)&&(!C)))||((0<(n1.Draw.length:Int))&&(!J))) then(
 some 4
 ) else(
 if(j||l) then(
 AB (JW n1.Flow j) λ(M:Int)=>
 some M
 ) else(
 AB (Qt n1.Kind) λ(u:Bool)=>
 if u then(
 AB (P4 n1.Grid) λ(E:Int)=>
 if(!(E=0)) then(
 some E
 ) else(
 AB (PS n1.Kind n1.Grid.Cells) λ(w:Int)=>
 some w
 )
 ) else(
 AB (MI n1.Draw) λ(A:Int)=>
 some A
 )
 )
 )
 )
 )
 )
def R8(n1:Ag)(u:Int)(j:List Int):Option ((Int × (List Int)) ⊕ (List Int)):=
 if(decide (u<(n1.Grid.Cells.length:Int))) then(
 AB (
 AB (AL n1.Grid.Cells u) λ(w:Aw)=>
 if(!(w.Ref=0)) then(
 AB (app 8 j [w.Ref]) λ(l:List Int)=>
 some l
 ) else(
 some j
 )
 ) λ(q:List Int)=>
 AB (AM .i64 (u+1)) λ(A:Int)=>
 some (.inl (A,q))
 ) else(
 some (.inr j)
 )
def Rt(n1:Ag)(w:Int)(j:List Int):Option ((Int × (List Int)) ⊕ (List Int)):=
 if(decide (w<(n1.Flow.length:Int))) then(
 AB (
 AB (AL n1.Flow w) λ(u:AD)=>
 if(!(u.Ref=0)) then(
 AB (app 8 j [u.Ref]) λ(l:List Int)=>
 some l
 ) else(
 some j
 )
 ) λ(q:List Int)=>
 AB (AM .i64 (w+1)) λ(A:Int)=>
 some (.inl (A,q))
 ) else(
 some (.inr j)
 )
def QH(n1:Ag):Option ((List Int)):=
 AB (iter (λ(a:Int × (List Int))=>Rt n1 a.1 a.2) (0,[])) λ(j:List Int)=>
 AB (iter (λ(a:Int × (List Int))=>R8 n1 a.1 a.2) (0,j)) λ(l:List Int)=>
 some l
def MT(d1:B0)(j:Int)(Hg:List Int)(l:Int):Option (Int ⊕ (An Unit Int)):=
 if(decide (l<(Hg.length:Int))) then(
 AB (AL Hg l) λ(u:Int)=>
 AB (Hh d1 u) λ(q:Int)=>
 if(decide (q<0)) then(
 some (.inr (.ext 7))
 ) else(
 AB (AL d1.Nodes q) λ(w:Ag)=>
 AB (RT j w.Kind) λ(A:Bool)=>
 if(!A) then(
 some (.inr (.ext 8))
 ) else(
 AB (AM .i64 (l+1)) λ(B:Int)=>
 some (.inl B)
 )
 )
 ) else(
 some (.inr (.nrm ()))
 )
def QZ(d1:B0)(j:Int)(Hg:List Int):Option (Int):=
 Ao (iter (λ(a:Int)=>MT d1 j Hg a) 0) λ(l:Unit)=>
 some 0
def Ki(d1:B0)(j:Int):Option (Int ⊕ (An Unit Int)):=
 if(decide (j<(d1.Nodes.length:Int))) then(
 AB (AL d1.Nodes j) λ(l:Ag)=>
 AB (QH l) λ(u:List Int)=>
 AB (QZ d1 l.Kind u) λ(q:Int)=>
 if(!(q=0)) then(
 some (.inr (.ext q))
 ) else(
 AB (AM .i64 (j+1)) λ(w:Int)=>
 some (.inl w)
 )
 ) else(
 some (.inr (.nrm ()))
 )
def Nl(d1:B0)(j:Int):Option (Int ⊕ (An Unit Int)):=
 if(decide (j<(d1.Nodes.length:Int))) then(
 AB (AL d1.Nodes j) λ(A:Ag)=>
 AB (N2 A) λ(B:Int)=>
 if(!(B=0)) then(
 some (.inr (.ext B))
 ) else(
 AB (gd ((decide (j=0))==true) (AL d1.Nodes 0)) λ(l:Ag)=>
 AB (gd ((((j=0)&&(!(l.ID=1)))==false)&&((decide (0<j))==true)) (AM .i64 (j-1))) λ(q:Int)=>
 AB (gd ((((j=0)&&(!(l.ID=1)))==false)&&((decide (0<j))==true)) (AL d1.Nodes q)) λ(u:Ag)=>
 if(((j=0)&&(!(l.ID=1)))||((0<j)&&(A.ID≤u.ID))) then(
 some (.inr (.ext 5))
 ) else(
 AB (AM .i64 (j+1)) λ(w:Int)=>
 some (.inl w)
 )
 )
 ) else(
 some (.inr (.nrm ()))
 )
def O1(d1:B0):Option (Int):=
 if(decide ((d1.Nodes.length:Int)=0)) then(
 some 11
 ) else(
 Ao (iter (λ(a:Int)=>Nl d1 a) 0) λ(j:Unit)=>
 Ao (iter (λ(a:Int)=>Ki d1 a) 0) λ(l:Unit)=>
 some 0
 )
end
noncomputable section
structure BK where
 Node:Int
 From:Int
 To:Int
deriving DecidableEq
instance:Inhabited BK:=⟨⟨0,0,0⟩⟩
@[reducible] def BK.row(x:BK):List RV:=[.int .i64 x.Node,.int .i64 x.From,.int .i64 x.To]
structure CN where
 node:Ag
 shown:List Int
 author:List UInt8
deriving DecidableEq
instance:Inhabited CN:=⟨⟨(Ag.mk 0 0 [] [] (BW.mk 0 0 [] []) []),[],[]⟩⟩
def gN:Option (Bool):=
 some true
def bB:Option (Bool):=
 some true
def QK:Option (Bool):=
 some true
def Oq(d1:B0)(j:Int):Option (Int):=
 B5 (MR d1 j) λ(l:Int) (q:Bool)=>
 if q then(
 some l
 ) else(
 some (-1)
 )
def L0(d1:B0)(l:BK)(j:List UInt8):Option (CN × Int):=
 AB (KI d1) λ(u:Int)=>
 if(!(u=0)) then(
 some ((CN.mk (Ag.mk 0 0 [] [] (BW.mk 0 0 [] []) []) [] []),u)
 ) else(
 AB (Oq d1 l.Node) λ(w:Int)=>
 if(decide (w<0)) then(
 some ((CN.mk (Ag.mk 0 0 [] [] (BW.mk 0 0 [] []) []) [] []),7)
 ) else(
 AB (AL d1.Nodes w) λ(q:Ag)=>
 AB (IC q.Kind) λ(B:Bool)=>
 if(!B) then(
 some ((CN.mk (Ag.mk 0 0 [] [] (BW.mk 0 0 [] []) []) [] []),8)
 ) else(
 AB (QW q.Flow 0) λ(A:List Int)=>
 if(((l.From<0)||(l.To<l.From))||((A.length:Int)≤l.To)) then(
 some ((CN.mk (Ag.mk 0 0 [] [] (BW.mk 0 0 [] []) []) [] []),2)
 ) else(
 AB (gd ((!(j=[]))==true) (Jo j)) λ(C:Bool)=>
 if((!(j=[]))&&(!C)) then(
 some ((CN.mk (Ag.mk 0 0 [] [] (BW.mk 0 0 [] []) []) [] []),23)
 ) else(
 some ((CN.mk q A j),0)
 )
 )
 )
 )
 )
def If(j:CN)(l:Int):Option (AD):=
 if((l<0)||((j.shown.length:Int)≤l)) then(
 some (AD.mk 10 0 [])
 ) else(
 AB (AL j.shown l) λ(q:Int)=>
 AB (AL j.node.Flow q) λ(u:AD)=>
 some u
 )
def Jp(d1:B0)(j:BK):Option (Int):=
 AB (O1 d1) λ(l:Int)=>
 if(!(l=0)) then(
 some l
 ) else(
 AB (Hh d1 j.Node) λ(q:Int)=>
 if(decide (q<0)) then(
 some 7
 ) else(
 AB (AL d1.Nodes q) λ(u:Ag)=>
 AB (LY u.Kind) λ(w:Bool)=>
 if(!w) then(
 some 8
 ) else(
 AB (HV u.Flow 0) λ(A:List Int)=>
 if(((j.From<0)||(j.To<j.From))||((A.length:Int)≤j.To)) then(
 some 2
 ) else(
 some 0
 )
 )
 )
 )
def Pb(j:EY)(l:EY):Option (Bool):=
 AB (Kk j.Rows l.Rows) λ(q:Bool)=>
 AB (gd (q==true) (Kk j.Cols l.Cols)) λ(u:Bool)=>
 AB (gd ((q&&u)==true) (Jk j.Cells l.Cells)) λ(w:Bool)=>
 AB (gd (((q&&u)&&w)==true) (Ip j.Split l.Split)) λ(A:Bool)=>
 AB (gd ((((q&&u)&&w)&&A)==true) (Ip j.Merge l.Merge)) λ(B:Bool)=>
 some ((((q&&u)&&w)&&A)&&B)
def Na(j:BE)(l:BE):Option (Bool):=
 AB (gd (((j.Kind=l.Kind)&&(j.Node=l.Node))==true) (IF j.New l.New)) λ(q:Bool)=>
 AB (gd ((((j.Kind=l.Kind)&&(j.Node=l.Node))&&q)==true) (GC j.Attrs l.Attrs)) λ(u:Bool)=>
 AB (gd (((((j.Kind=l.Kind)&&(j.Node=l.Node))&&q)&&u)==true) (L2 j.Steps l.Steps)) λ(w:Bool)=>
 AB (gd ((((((j.Kind=l.Kind)&&(j.Node=l.Node))&&q)&&u)&&w)==true) (Pb j.Grid l.Grid)) λ(A:Bool)=>
 AB (gd (((((((j.Kind=l.Kind)&&(j.Node=l.Node))&&q)&&u)&&w)&&A)==true) (Js j.Draw l.Draw)) λ(B:Bool)=>
 some (((((((j.Kind=l.Kind)&&(j.Node=l.Node))&&q)&&u)&&w)&&A)&&B)
def MH(l:List BE)(q:List BE)(j:Int):Option (Int ⊕ (An Unit Bool)):=
 if(decide (j<(l.length:Int))) then(
 AB (AL l j) λ(u:BE)=>
 AB (AL q j) λ(w:BE)=>
 AB (Na u w) λ(A:Bool)=>
 if(!A) then(
 some (.inr (.ext false))
 ) else(
 AB (AM .i64 (j+1)) λ(B:Int)=>
 some (.inl B)
 )
 ) else(
 some (.inr (.nrm ()))
 )
def Ha(j:List BE)(l:List BE):Option (Bool):=
 if(!((j.length:Int)=(l.length:Int))) then(
 some false
 ) else(
 Ao (iter (λ(a:Int)=>MH j l a) 0) λ(q:Unit)=>
 some true
 )
end
noncomputable section
end
noncomputable section
def Me(j:Ae)(C:BZ)(B:BZ):Option ((Ae × BZ × BZ) ⊕ Ae):=
 AB (GW C) λ(E:Int)=>
 AB (
 if((decide (0≤E))==false) then(
 AB (GW B) λ(I:Int)=>
 some ((0≤E)||(0≤I))
 ) else(
 some ((0≤E)||false)
 )
 ) λ(Z:Bool)=>
 if Z then(
 if(decide (E=2)) then(
 AB (Gg C) λ(r9:Int)=>
 B5 (F1 C r9) λ(J:AI) (w6:BZ)=>
 AB (AM .i64 (j.cut+J.N)) λ(x2:Int)=>
 some (.inl ((Ae.mk j.out j.add x2),w6,B))
 ) else(
 AB (GW B) λ(M:Int)=>
 if(decide (M=1)) then(
 AB (Gg B) λ(O:Int)=>
 B5 (F1 B O) λ(T:AI) (w7:BZ)=>
 AB (Hr j T.Elems) λ(w8:Ae)=>
 some (.inl (w8,C,w7))
 ) else(
 AB (Gg C) λ(l:Int)=>
 AB (Gg B) λ(q:Int)=>
 B5 (F1 C (min l q)) λ(u:AI) (F:BZ)=>
 B5 (F1 B (min l q)) λ(w:AI) (A:BZ)=>
 if((u.Kind=0)&&(w.Kind=0)) then(
 AB (Of u.Attrs w.Attrs) λ(U:List AC)=>
 AB (Gu j (min l q) U) λ(V:Ae)=>
 some (.inl (V,F,A))
 ) else(
 if(decide (u.Kind=0)) then(
 AB (AM .i64 (j.cut+(min l q))) λ(x3:Int)=>
 some (.inl ((Ae.mk j.out j.add x3),F,A))
 ) else(
 if(decide (w.Kind=0)) then(
 AB (Ow u.Elems w.Attrs) λ(X:List AD)=>
 AB (Hr j X) λ(Y:Ae)=>
 some (.inl (Y,F,A))
 ) else(
 some (.inl (j,F,A))
 )
 )
 )
 )
 )
 ) else(
 some (.inr j)
 )
def Nr(j:List AI)(l:List AI):Option ((List AI) × Int):=
 AB (I6 j) λ(q:Int)=>
 if(!(q=0)) then(
 some ([],q)
 ) else(
 AB (I6 l) λ(u:Int)=>
 if(!(u=0)) then(
 some ([],u)
 ) else(
 B5 (J0 j) λ(F:Int) (w:Int)=>
 B5 (J0 l) λ(A:Int) (I:Int)=>
 if(!(A=w)) then(
 some ([],14)
 ) else(
 AB (iter (λ(a:Ae × BZ × BZ)=>Me a.1 a.2.1 a.2.2) ((Ae.mk [] [] 0),(BZ.mk j 0),(BZ.mk l 0))) λ(B:Ae)=>
 F8 (IZ B) λ(C:List AI) (E:Int) (J:Ae)=>
 some (C,E)
 )
 )
 )
end
noncomputable section
def MD(f1:List AD)(d1:List AI):Option ((List AD)):=
 AB (QM d1) λ(j:Bk)=>
 AB (Mo f1 j) λ(l:List AD)=>
 some l
end
noncomputable section
def Rh(d1:B0)(j:BK):Option (Int):=
 B5 (L0 d1 j []) λ(q:CN) (l:Int)=>
 some l
def NQ(l:List (List UInt8))(v1:List UInt8)(j:Int):Option (Int ⊕ (An Unit Int)):=
 if(decide (j<(l.length:Int))) then(
 AB (AL l j) λ(q:List UInt8)=>
 if(decide (v1=q)) then(
 some (.inr (.ext j))
 ) else(
 AB (AM .i64 (j+1)) λ(u:Int)=>
 some (.inl u)
 )
 ) else(
 some (.inr (.nrm ()))
 )
def S6(j:List (List UInt8))(v1:List UInt8):Option (Int):=
 Ao (iter (λ(a:Int)=>NQ j v1 a) 0) λ(l:Unit)=>
 some (-1)
def NJ(j:List (List UInt8))(v1:List UInt8):Option (Bool):=
 AB (S6 j v1) λ(l:Int)=>
 some (decide (0≤l))
def P5(j:List UInt8):Option (Bool):=
 AB (NJ [[98,111,108,100],[105,116,97,108,105,99],[117,110,100,101,114],[115,116,114,105,107,101],[102,105,120,101,100],[114,97,105,115,101],[115,105,122,101],[99,111,108,111,117,114],[108,97,110,103],[115,116,121,108,101]] j) λ(l:Bool)=>
 some l
def Mx(j:List UInt8):Option (Bool):=
 AB (gd ((((j=[108,105,110,107])||(j=[108,111,99,107]))==false)&&((decide (7<(j.length:Int)))==true)) (CV j 0 7)) λ(l:List UInt8)=>
 AB (gd (((((j=[108,105,110,107])||(j=[108,111,99,107]))||((7<(j.length:Int))&&(l=[114,101,109,97,114,107,46])))==false)&&((decide (5<(j.length:Int)))==true)) (CV j 0 5)) λ(q:List UInt8)=>
 some ((((j=[108,105,110,107])||(j=[108,111,99,107]))||((7<(j.length:Int))&&(l=[114,101,109,97,114,107,46])))||((5<(j.length:Int))&&(q=[109,97,114,107,46])))
def LI(A:Int)(B:AD)(E:AD)(j:List AC)(w:Int):Option (((List AC) × Int) ⊕ (List AC)):=
 if(decide (w<(B.Attrs.length:Int))) then(
 AB (
 AB (AL B.Attrs w) λ(u:AC)=>
 AB (Mx u.Name) λ(C:Bool)=>
 AB (gd ((C&&(0<A))==true) (G9 E.Attrs u.Name)) λ(F:List UInt8)=>
 if((C&&(0<A))&&(F=u.Value)) then(
 AB (LQ j [u]) λ(l:List AC)=>
 some l
 ) else(
 some j
 )
 ) λ(q:List AC)=>
 AB (AM .i64 (w+1)) λ(I:Int)=>
 some (.inl (q,I))
 ) else(
 some (.inr j)
 )
def LX(j:AD)(A:Int)(l:List AC):Option ((Int × (List AC)) ⊕ (An Unit (List AC))):=
 if(decide (A<(j.Attrs.length:Int))) then(
 AB (
 AB (AL j.Attrs A) λ(w:AC)=>
 AB (P5 w.Name) λ(C:Bool)=>
 if C then(
 AB (app 32 l [w]) λ(q:List AC)=>
 some q
 ) else(
 some l
 )
 ) λ(u:List AC)=>
 AB (AM .i64 (A+1)) λ(B:Int)=>
 some (.inl (B,u))
 ) else(
 some (.inr (.ext l))
 )
def P9(A:CN)(u:Int):Option ((List AC)):=
 AB (AM .i64 (u-1)) λ(C:Int)=>
 AB (If A C) λ(w:AD)=>
 AB (If A u) λ(B:AD)=>
 AB (
 if(decide (w.Char=10)) then(
 some B
 ) else(
 some w
 )
 ) λ(j:AD)=>
 AB (
 if(!(j.Char=10)) then(
 Ao (iter (λ(a:Int × (List AC))=>LX j a.1 a.2) (0,[])) λ(E:Unit)=>
 none
 ) else(
 some []
 )
 ) λ(l:List AC)=>
 AB (iter (λ(a:(List AC) × Int)=>LI u w B a.1 a.2) (l,0)) λ(q:List AC)=>
 some q
def L3(A:AD)(u:Int)(j:List AC):Option ((Int × (List AC)) ⊕ (List AC)):=
 if(decide (u<(A.Attrs.length:Int))) then(
 AB (
 AB (AL A.Attrs u) λ(w:AC)=>
 AB (NJ [[97,100,100],[99,117,116],[104,105,100,100,101,110],[108,111,99,107],[115,101,99,116,105,111,110],[98,114,101,97,107],[115,116,97,114,116]] w.Name) λ(B:Bool)=>
 AB (gd ((!B)==true) (Mx w.Name)) λ(C:Bool)=>
 if((!B)&&(!C)) then(
 AB (app 32 j [w]) λ(l:List AC)=>
 some l
 ) else(
 some j
 )
 ) λ(q:List AC)=>
 AB (AM .i64 (u+1)) λ(E:Int)=>
 some (.inl (E,q))
 ) else(
 some (.inr j)
 )
def TK(l:CN)(j:Int):Option (Int ⊕ Int):=
 AB (If l j) λ(q:AD)=>
 if(!(q.Char=10)) then(
 AB (AM .i64 (j+1)) λ(u:Int)=>
 some (.inl u)
 ) else(
 some (.inr j)
 )
def Kj(l:CN)(q:Int):Option ((List AC)):=
 AB (iter (λ(a:Int)=>TK l a) q) λ(u:Int)=>
 AB (If l u) λ(w:AD)=>
 AB (iter (λ(a:Int × (List AC))=>L3 w a.1 a.2) (0,[])) λ(j:List AC)=>
 some j
def Gt(j:List AC)(u:List UInt8)(l:List AD):Option (((List UInt8) × (List AD)) ⊕ (An (List AD) (Int × (List AD)))):=
 if(!(u=[])) then(
 B5 (HH u) λ(w:Int) (A:Int)=>
 if((w=65533)&&(A=1)) then(
 some (.inr (.ext (10,[])))
 ) else(
 AB (Jb (IntKind.i64.wrap w)) λ(B:Bool)=>
 if(!B) then(
 some (.inr (.ext (2,[])))
 ) else(
 AB (app 32 [] j) λ(C:List AC)=>
 AB (app 40 l [(AD.mk (IntKind.i64.wrap w) 0 C)]) λ(q:List AD)=>
 AB (CV u A (u.length:Int)) λ(E:List UInt8)=>
 some (.inl (E,q))
 )
 )
 ) else(
 some (.inr (.nrm l))
 )
def MG(u:List UInt8)(j:List AC):Option (Int × (List AD)):=
 AB (Hu j) λ(q:Int)=>
 if(!(q=0)) then(
 some (q,[])
 ) else(
 Ao (iter (λ(a:(List UInt8) × (List AD))=>Gt j a.1 a.2) (u,[])) λ(l:List AD)=>
 some (0,l)
 )
def Kd(f1:List AD)(j:List UInt8)(q:List Bool)(w:Int)(l:List AI):Option ((Int × (List AI)) ⊕ (List AI)):=
 if(decide (w<(f1.length:Int))) then(
 AB (AL f1 w) λ(B:AD)=>
 AB (
 AB (AL q w) λ(C:Bool)=>
 if(!C) then(
 some (AI.mk 0 1 [] [])
 ) else(
 AB (gd ((decide (j=[]))==false) (G9 B.Attrs [97,100,100])) λ(E:List UInt8)=>
 if((j=[])||(E=j)) then(
 some (AI.mk 2 1 [] [])
 ) else(
 some (AI.mk 0 1 [(AC.mk [99,117,116] j)] [])
 )
 )
 ) λ(A:AI)=>
 AB (app 64 l [(AI.mk A.Kind A.N A.Attrs [])]) λ(u:List AI)=>
 AB (AM .i64 (w+1)) λ(F:Int)=>
 some (.inl (F,u))
 ) else(
 some (.inr l)
 )
def KU(j:List Int)(u:Int)(l:List Bool):Option ((Int × (List Bool)) ⊕ (List Bool)):=
 if(decide (u<(j.length:Int))) then(
 AB (AL j u) λ(q:Int)=>
 AB (AL l q) λ(A:Bool)=>
 AB (AM .i64 (u+1)) λ(w:Int)=>
 some (.inl (w,(l.set q.toNat true)))
 ) else(
 some (.inr l)
 )
def P6(f1:List AD)(j:List Int)(l:List UInt8):Option ((List AI)):=
 AB (mk 1 (f1.length:Int) false) λ(q:List Bool)=>
 AB (iter (λ(a:Int × (List Bool))=>KU j a.1 a.2) (0,q)) λ(u:List Bool)=>
 AB (iter (λ(a:Int × (List AI))=>Kd f1 l u a.1 a.2) (0,[])) λ(w:List AI)=>
 B5 (It w) λ(A:List AI) (B:Int)=>
 some A
def Ot(j:List Int)(l:Int):Option (Int):=
 if(decide (l=0)) then(
 some 0
 ) else(
 AB (AM .i64 (l-1)) λ(q:Int)=>
 AB (AL j q) λ(u:Int)=>
 AB (AM .i64 (u+1)) λ(w:Int)=>
 some w
 )
def Jw(f1:List AD)(l:Int)(j:List AD):Option ((Int × (List AD)) ⊕ (List AD)):=
 if(decide (l<(f1.length:Int))) then(
 AB (AL f1 l) λ(q:AD)=>
 AB (app 32 [] q.Attrs) λ(u:List AC)=>
 AB (AL j l) λ(A:AD)=>
 AB (AM .i64 (l+1)) λ(w:Int)=>
 some (.inl (w,(j.set l.toNat (AD.mk q.Char q.Ref u))))
 ) else(
 some (.inr j)
 )
def Pm(f1:List AD):Option ((List AD)):=
 AB (mk 40 (f1.length:Int) (AD.mk 0 0 [])) λ(j:List AD)=>
 AB (iter (λ(a:Int × (List AD))=>Jw f1 a.1 a.2) (0,j)) λ(l:List AD)=>
 some l
def Kt(j:List UInt8)(w:List AD)(l:Int)(q:List AD):Option ((Int × (List AD)) ⊕ (List AD)):=
 if(decide (l<(w.length:Int))) then(
 AB (AL q l) λ(u:AD)=>
 AB (LQ u.Attrs [(AC.mk [97,100,100] j),(AC.mk [99,117,116] [])]) λ(A:List AC)=>
 AB (AM .i64 (l+1)) λ(B:Int)=>
 some (.inl (B,(q.set l.toNat (AD.mk u.Char u.Ref A))))
 ) else(
 some (.inr q)
 )
def RG(f1:List AD)(q:Int)(l:List AD)(j:List UInt8):Option ((List AI)):=
 AB (Pm l) λ(u:List AD)=>
 AB (iter (λ(a:Int × (List AD))=>Kt j u a.1 a.2) (0,u)) λ(w:List AD)=>
 AB (AM .i64 ((f1.length:Int)-q)) λ(A:Int)=>
 B5 (It [(AI.mk 0 q [] []),(AI.mk 1 0 [] w),(AI.mk 0 A [] [])]) λ(B:List AI) (C:Int)=>
 some B
def Qy(q:CN)(u:BK)(j:List AD):Option ((List BE) × BK × Int):=
 AB (CV q.shown u.From u.To) λ(F:List Int)=>
 AB (P6 q.node.Flow F q.author) λ(l:List AI)=>
 AB (Ot q.shown u.From) λ(w:Int)=>
 AB (RG q.node.Flow w j q.author) λ(A:List AI)=>
 F8 (M8 A l) λ(I:List AI) (M:List AI) (B:Int)=>
 if(!(B=0)) then(
 some ([],(BK.mk 0 0 0),B)
 ) else(
 B5 (Nr l I) λ(J:List AI) (C:Int)=>
 if(!(C=0)) then(
 some ([],(BK.mk 0 0 0),C)
 ) else(
 AB (AM .i64 (u.From+(j.length:Int))) λ(E:Int)=>
 some ([(BE.mk 2 u.Node (Ag.mk 0 0 [] [] (BW.mk 0 0 [] []) []) [] J (EY.mk [] [] [] [] []) [])],(BK.mk u.Node E E),0)
 )
 )
def Kc(w:BK)(A:CN)(B:List AD)(q:Int)(j:List AD):Option ((Int × (List AD)) ⊕ (List AD)):=
 if(decide (q<(B.length:Int))) then(
 AB (
 AB (AL j q) λ(u:AD)=>
 if(decide (u.Char=10)) then(
 AB (Kj A w.To) λ(C:List AC)=>
 some (j.set q.toNat (AD.mk u.Char u.Ref C))
 ) else(
 some j
 )
 ) λ(l:List AD)=>
 AB (AM .i64 (q+1)) λ(E:Int)=>
 some (.inl (E,l))
 ) else(
 some (.inr j)
 )
def FO(d1:B0)(u:BK)(j:List UInt8)(l:List UInt8):Option ((List BE) × BK × Int):=
 B5 (L0 d1 u l) λ(w:CN) (A:Int)=>
 if(!(A=0)) then(
 some ([],(BK.mk 0 0 0),A)
 ) else(
 if(decide (20000<(j.length:Int))) then(
 some ([],(BK.mk 0 0 0),3)
 ) else(
 AB (P9 w u.From) λ(E:List AC)=>
 B5 (MG j E) λ(B:Int) (C:List AD)=>
 if(!(B=0)) then(
 some ([],(BK.mk 0 0 0),B)
 ) else(
 AB (iter (λ(a:Int × (List AD))=>Kc u w C a.1 a.2) (0,C)) λ(q:List AD)=>
 F8 (Qy w u q) λ(F:List BE) (I:BK) (J:Int)=>
 some (F,I,J)
 )
 )
 )
def MC(d1:B0)(l:BK)(j:List UInt8):Option ((List BE) × BK × Int):=
 F8 (FO d1 l [] j) λ(q:List BE) (u:BK) (w:Int)=>
 some (q,u,w)
def JY(d1:B0)(q:BK)(j:List UInt8):Option (Int):=
 AB (Jp d1 q) λ(l:Int)=>
 if(!(l=0)) then(
 some l
 ) else(
 AB (gd ((!(j=[]))==true) (Lt j)) λ(u:Bool)=>
 if((!(j=[]))&&(!u)) then(
 some 23
 ) else(
 some 0
 )
 )
def MF(f1:List AD)(u:List Int)(q:Int)(j:List AD):Option ((Int × (List AD)) ⊕ (List AD)):=
 if(decide (q<(u.length:Int))) then(
 AB (AL u q) λ(w:Int)=>
 AB (AL f1 w) λ(A:AD)=>
 AB (app 40 j [A]) λ(l:List AD)=>
 AB (AM .i64 (q+1)) λ(B:Int)=>
 some (.inl (B,l))
 ) else(
 some (.inr j)
 )
def PT(f1:List AD):Option ((List AD)):=
 AB (HV f1 0) λ(l:List Int)=>
 AB (iter (λ(a:Int × (List AD))=>MF f1 l a.1 a.2) (0,[])) λ(j:List AD)=>
 some j
def P0(j:List UInt8):Option (Bool):=
 AB (
 if(decide (j=[98,111,108,100])) then(
 some (decide (j=[98,111,108,100]))
 ) else(
 if(decide (j=[105,116,97,108,105,99])) then(
 some (decide (j=[105,116,97,108,105,99]))
 ) else(
 if(decide (j=[117,110,100,101,114])) then(
 some (decide (j=[117,110,100,101,114]))
 ) else(
 if(decide (j=[115,116,114,105,107,101])) then(
 some (decide (j=[115,116,114,105,107,101]))
 ) else(
 if(decide (j=[102,105,120,101,100])) then(
 some (decide (j=[102,105,120,101,100]))
 ) else(
 if(decide (j=[114,97,105,115,101])) then(
 some (decide (j=[114,97,105,115,101]))
 ) else(
 if(decide (j=[115,105,122,101])) then(
 some (decide (j=[115,105,122,101]))
 ) else(
 if(decide (j=[99,111,108,111,117,114])) then(
 some (decide (j=[99,111,108,111,117,114]))
 ) else(
 if(decide (j=[108,97,110,103])) then(
 some (decide (j=[108,97,110,103]))
 ) else(
 some (decide (j=[115,116,121,108,101]))
 )
 )
 )
 )
 )
 )
 )
 )
 )
 ) λ(l:Bool)=>
 if l then(
 some true
 ) else(
 some false
 )
def NU(l:List UInt8)(j:List UInt8):Option (Bool):=
 AB (gd ((decide ((j.length:Int)<(l.length:Int)))==true) (CV l 0 (j.length:Int))) λ(q:List UInt8)=>
 some (((j.length:Int)<(l.length:Int))&&(q=j))
def Mz(j:List UInt8):Option (Bool):=
 AB (gd (((j=[108,105,110,107])||(j=[108,111,99,107]))==false) (NU j [114,101,109,97,114,107,46])) λ(l:Bool)=>
 AB (gd ((((j=[108,105,110,107])||(j=[108,111,99,107]))||l)==false) (NU j [109,97,114,107,46])) λ(q:Bool)=>
 some ((((j=[108,105,110,107])||(j=[108,111,99,107]))||l)||q)
def Ly(j:AD)(q:AD)(l:List AC)(B:Int):Option (((List AC) × Int) ⊕ (An Unit (List AC))):=
 if(decide (B<(j.Attrs.length:Int))) then(
 AB (
 AB (AL j.Attrs B) λ(A:AC)=>
 AB (Mz A.Name) λ(C:Bool)=>
 AB (gd (C==true) (Ia q.Attrs A.Name)) λ(E:List UInt8)=>
 if(C&&(E=A.Value)) then(
 AB (II l A) λ(u:List AC)=>
 some u
 ) else(
 some l
 )
 ) λ(w:List AC)=>
 AB (AM .i64 (B+1)) λ(F:Int)=>
 some (.inl (w,F))
 ) else(
 some (.inr (.ext l))
 )
def Lp(j:AD)(l:List AC)(A:Int):Option (((List AC) × Int) ⊕ (An Unit (List AC))):=
 if(decide (A<(j.Attrs.length:Int))) then(
 AB (
 AB (AL j.Attrs A) λ(w:AC)=>
 AB (P0 w.Name) λ(B:Bool)=>
 if B then(
 AB (II l w) λ(q:List AC)=>
 some q
 ) else(
 some l
 )
 ) λ(u:List AC)=>
 AB (AM .i64 (A+1)) λ(C:Int)=>
 some (.inl (u,C))
 ) else(
 some (.inr (.ext l))
 )
def Ld(v1:List AD)(q:Int):Option ((List AC)):=
 AB (
 if(decide (0<q)) then(
 AB (AM .i64 (q-1)) λ(B:Int)=>
 AB (AL v1 B) λ(C:AD)=>
 some C
 ) else(
 some (AD.mk 10 0 [])
 )
 ) λ(j:AD)=>
 AB (
 if(decide (q<(v1.length:Int))) then(
 AB (AL v1 q) λ(E:AD)=>
 some E
 ) else(
 some (AD.mk 10 0 [])
 )
 ) λ(l:AD)=>
 AB (
 if(decide (j.Char=10)) then(
 some l
 ) else(
 some j
 )
 ) λ(u:AD)=>
 AB (
 if(!(u.Char=10)) then(
 Ao (iter (λ(a:(List AC) × Int)=>Lp u a.1 a.2) ([],0)) λ(F:Unit)=>
 none
 ) else(
 some []
 )
 ) λ(w:List AC)=>
 AB (
 if(decide (0<q)) then(
 Ao (iter (λ(a:(List AC) × Int)=>Ly j l a.1 a.2) (w,0)) λ(I:Unit)=>
 none
 ) else(
 some w
 )
 ) λ(A:List AC)=>
 some A
def Gv(u:List UInt8)(j:List AC)(w:Int)(l:List AD):Option ((Int × (List AD)) ⊕ (An (List AD) (Int × (List AD)))):=
 if(decide (w<(u.length:Int))) then(
 AB (CV u w (u.length:Int)) λ(C:List UInt8)=>
 B5 (HH C) λ(A:Int) (B:Int)=>
 if((A=65533)&&(B<2)) then(
 some (.inr (.ext (10,[])))
 ) else(
 AB (Jl (IntKind.i64.wrap A)) λ(E:Bool)=>
 if(!E) then(
 some (.inr (.ext (2,[])))
 ) else(
 AB (app 40 l [(AD.mk (IntKind.i64.wrap A) 0 j)]) λ(q:List AD)=>
 AB (AM .i64 (w+B)) λ(F:Int)=>
 some (.inl (F,q))
 )
 )
 ) else(
 some (.inr (.nrm l))
 )
def LS(u:List UInt8)(j:List AC):Option (Int × (List AD)):=
 AB (HE j false) λ(q:Int)=>
 if(!(q=0)) then(
 some (q,[])
 ) else(
 Ao (iter (λ(a:Int × (List AD))=>Gv u j a.1 a.2) (0,[])) λ(l:List AD)=>
 some (0,l)
 )
def Lc(A:AD)(j:List AC)(w:Int):Option (((List AC) × Int) ⊕ (List AC)):=
 if(decide (w<(A.Attrs.length:Int))) then(
 AB (
 AB (AL A.Attrs w) λ(l:AC)=>
 AB (
 if(decide (l.Name=[97,100,100])) then(
 some (decide (l.Name=[97,100,100]))
 ) else(
 if(decide (l.Name=[99,117,116])) then(
 some (decide (l.Name=[99,117,116]))
 ) else(
 if(decide (l.Name=[104,105,100,100,101,110])) then(
 some (decide (l.Name=[104,105,100,100,101,110]))
 ) else(
 if(decide (l.Name=[115,101,99,116,105,111,110])) then(
 some (decide (l.Name=[115,101,99,116,105,111,110]))
 ) else(
 if(decide (l.Name=[98,114,101,97,107])) then(
 some (decide (l.Name=[98,114,101,97,107]))
 ) else(
 some (decide (l.Name=[115,116,97,114,116]))
 )
 )
 )
 )
 )
 ) λ(B:Bool)=>
 if B then(
 some j
 ) else(
 AB (Mz l.Name) λ(C:Bool)=>
 if(!C) then(
 AB (II j l) λ(q:List AC)=>
 some q
 ) else(
 some j
 )
 )
 ) λ(u:List AC)=>
 AB (AM .i64 (w+1)) λ(E:Int)=>
 some (.inl (u,E))
 ) else(
 some (.inr j)
 )
def Rq(v1:List AD)(j:Int):Option (Int ⊕ Int):=
 AB (gd ((decide (j<(v1.length:Int)))==true) (AL v1 j)) λ(q:AD)=>
 if((j<(v1.length:Int))&&(!(q.Char=10))) then(
 AB (AM .i64 (j+1)) λ(l:Int)=>
 some (.inl l)
 ) else(
 some (.inr j)
 )
def LO(v1:List AD)(q:Int):Option ((List AC)):=
 AB (iter (λ(a:Int)=>Rq v1 a) q) λ(j:Int)=>
 if(decide (j=(v1.length:Int))) then(
 some []
 ) else(
 AB (AL v1 j) λ(u:AD)=>
 AB (iter (λ(a:(List AC) × Int)=>Lc u a.1 a.2) ([],0)) λ(l:List AC)=>
 some l
 )
def I0(j:List AD)(l:List UInt8)(w:Int)(q:List AD):Option ((Int × (List AD)) ⊕ (An Unit (List AD))):=
 if(decide (w<(j.length:Int))) then(
 AB (AL j w) λ(A:AD)=>
 AB (IE A.Attrs [(AC.mk [97,100,100] l),(AC.mk [99,117,116] [])]) λ(B:List AC)=>
 AB (app 40 q [(AD.mk A.Char A.Ref B)]) λ(u:List AD)=>
 AB (AM .i64 (w+1)) λ(C:Int)=>
 some (.inl (C,u))
 ) else(
 some (.inr (.ext q))
 )
def Jh(f1:List AD)(B:Int)(M:Int)(w:List AD)(j:List UInt8)(l:List Int)(F:Int)(A:Int)(C:Int)(q:List AD):Option ((Int × Int × (List AD)) ⊕ (List AD)):=
 if(decide (C≤(f1.length:Int))) then(
 FS (
 AB (
 if(decide (C=F)) then(
 Ao (iter (λ(a:Int × (List AD))=>I0 w j a.1 a.2) (0,q)) λ(u3:Unit)=>
 none
 ) else(
 some q
 )
 ) λ(u:List AD)=>
 if(decide (C=(f1.length:Int))) then(
 some (.ext (.inr u))
 ) else(
 AB (AL f1 C) λ(E:AD)=>
 AB (gd ((decide (A<(l.length:Int)))==true) (AL l A)) λ(T:Int)=>
 FS (
 if((A<(l.length:Int))&&(T=C)) then(
 Ao (
 if((B≤A)&&(A<M)) then(
 AB (gd ((decide (j=[]))==false) (Ia E.Attrs [97,100,100])) λ(U:List UInt8)=>
 if((j=[])||(U=j)) then(
 AB (AM .i64 (A+1)) λ(V:Int)=>
 some (.ext (.ext (.nrm (V,u))))
 ) else(
 AB (IE E.Attrs [(AC.mk [99,117,116] j)]) λ(X:List AC)=>
 some (.nrm (AD.mk E.Char E.Ref X))
 )
 ) else(
 some (.nrm E)
 )
 ) λ(Y:AD)=>
 AB (AM .i64 (A+1)) λ(Z:Int)=>
 some (.nrm (Z,Y))
 ) else(
 some (.nrm (A,E))
 )
 ) λ(k5:Int) (x3:AD)=>
 AB (app 40 u [x3]) λ(I:List AD)=>
 some (.nrm (k5,I))
 )
 ) λ(k4:Int) (J:List AD)=>
 AB (AM .i64 (C+1)) λ(O:Int)=>
 some (.inl (k4,O,J))
 ) else(
 some (.inr q)
 )
def Pu(f1:List AD)(j:Int)(C:Int)(u:List AD)(q:List UInt8):Option ((List AD)):=
 AB (HV f1 0) λ(l:List Int)=>
 AB (
 if(decide (0<j)) then(
 AB (AM .i64 (j-1)) λ(E:Int)=>
 AB (AL l E) λ(F:Int)=>
 AB (AM .i64 (F+1)) λ(w:Int)=>
 some w
 ) else(
 some 0
 )
 ) λ(A:Int)=>
 AB (iter (λ(a:Int × Int × (List AD))=>Jh f1 j C u q l A a.1 a.2.1 a.2.2) (0,0,[])) λ(B:List AD)=>
 some B
def VM(e1:EY)(j:Int):Option (Int ⊕ (An Unit Int)):=
 if(decide (j<(e1.Merge.length:Int))) then(
 AB (AL e1.Merge j) λ(l:As)=>
 AB (LZ l 2147483647 2147483647) λ(q:Bool)=>
 if(!q) then(
 some (.inr (.ext 2))
 ) else(
 if((l.H=1)&&(l.W=1)) then(
 some (.inr (.ext 4))
 ) else(
 AB (AM .i64 (j+1)) λ(u:Int)=>
 some (.inl u)
 )
 )
 ) else(
 some (.inr (.nrm ()))
 )
def WC(e1:EY)(j:Int):Option (Int ⊕ (An Unit Int)):=
 if(decide (j<(e1.Split.length:Int))) then(
 AB (AL e1.Split j) λ(q:As)=>
 AB (LZ q 2147483647 2147483647) λ(u:Bool)=>
 if(!u) then(
 some (.inr (.ext 2))
 ) else(
 AB (AM .i64 (j+1)) λ(l:Int)=>
 some (.inl l)
 )
 ) else(
 some (.inr (.nrm ()))
 )
def YH(e1:EY):Option (Int):=
 AB (TJ e1.Rows) λ(j:Int)=>
 if(!(j=0)) then(
 some j
 ) else(
 AB (TJ e1.Cols) λ(l:Int)=>
 if(!(l=0)) then(
 some l
 ) else(
 AB (NS e1.Cells 2147483647 2147483647 true) λ(q:Int)=>
 if(!(q=0)) then(
 some q
 ) else(
 Ao (iter (λ(a:Int)=>WC e1 a) 0) λ(u:Unit)=>
 Ao (iter (λ(a:Int)=>VM e1 a) 0) λ(w:Unit)=>
 some 0
 )
 )
 )
def Lo(j:BE)(q:Bool)(u:Int)(l:Int):Option (Int ⊕ (An Unit Int)):=
 if(decide (l<5)) then(
 AB (AL ([(!q),(decide (0<(j.Attrs.length:Int))),(decide (0<(j.Steps.length:Int))),(decide (0<u)),(decide (0<(j.Draw.length:Int)))]:List Bool) l) λ(w:Bool)=>
 if(w&&(!(l=j.Kind))) then(
 some (.inr (.ext 4))
 ) else(
 AB (AM .i64 (l+1)) λ(A:Int)=>
 some (.inl A)
 )
 ) else(
 some (.inr (.nrm ()))
 )
def Oi(j:BE):Option (Int):=
 AB (Cr j.Kind 0 4) λ(l:Bool)=>
 if(!l) then(
 some 8
 ) else(
 AB (IF j.New (Ag.mk 0 0 [] [] (BW.mk 0 0 [] []) [])) λ(q:Bool)=>
 AB (AM .i64 ((j.Grid.Rows.length:Int)+(j.Grid.Cols.length:Int))) λ(u:Int)=>
 AB (AM .i64 (u+(j.Grid.Cells.length:Int))) λ(w:Int)=>
 AB (AM .i64 (w+(j.Grid.Split.length:Int))) λ(A:Int)=>
 AB (AM .i64 (A+(j.Grid.Merge.length:Int))) λ(B:Int)=>
 Ao (iter (λ(a:Int)=>Lo j q B a) 0) λ(O:Unit)=>
 if(decide (j.Kind=0)) then(
 if(!(j.Node=0)) then(
 some 4
 ) else(
 AB (N2 j.New) λ(C:Int)=>
 some C
 )
 ) else(
 AB (Cr j.Node 1 1073741824) λ(E:Bool)=>
 if(!E) then(
 some 2
 ) else(
 if(decide (j.Kind=1)) then(
 AB (HE j.Attrs true) λ(F:Int)=>
 some F
 ) else(
 if(decide (j.Kind=2)) then(
 AB (Nz j.Steps) λ(I:Int)=>
 some I
 ) else(
 if(decide (j.Kind=3)) then(
 AB (YH j.Grid) λ(J:Int)=>
 some J
 ) else(
 AB (MI j.Draw) λ(M:Int)=>
 some M
 )
 )
 )
 )
 )
 )
def PZ(d1:B0)(l:List BE)(YP:Int)(j:List AD):Option (Bool):=
 AB (gd ((!((l.length:Int)=1))==false) (AL l 0)) λ(B:BE)=>
 AB (gd (((!((l.length:Int)=1))||(!(B.Kind=2)))==false) (AL l 0)) λ(C:BE)=>
 if(((!((l.length:Int)=1))||(!(B.Kind=2)))||(!(C.Node=YP))) then(
 some false
 ) else(
 AB (Hh d1 YP) λ(E:Int)=>
 AB (AL d1.Nodes E) λ(q:Ag)=>
 AB (AL l 0) λ(w:BE)=>
 AB (Oi w) λ(u:Int)=>
 AB (gd ((decide (u=0))==true) (Nk w.Steps)) λ(A:Int)=>
 AB (
 if(((u=0)&&(A=(q.Flow.length:Int)))==true) then(
 AB (MD q.Flow w.Steps) λ(F:List AD)=>
 AB (Lg F j) λ(I:Bool)=>
 some (((u=0)&&(A=(q.Flow.length:Int)))&&I)
 ) else(
 some (((u=0)&&(A=(q.Flow.length:Int)))&&false)
 )
 ) λ(J:Bool)=>
 some J
 )
def Lq(B:BK)(C:List AD)(v1:List AD)(j:Int)(u:List AD):Option ((Int × (List AD)) ⊕ (List AD)):=
 if(decide (j<(C.length:Int))) then(
 AB (
 AB (Ld v1 B.From) λ(l:List AC)=>
 AB (AL u j) λ(q:AD)=>
 AB (AL (u.set j.toNat (AD.mk q.Char q.Ref l)) j) λ(w:AD)=>
 if(decide (w.Char=10)) then(
 AB (LO v1 B.To) λ(A:List AC)=>
 some ((u.set j.toNat (AD.mk q.Char q.Ref l)).set j.toNat (AD.mk w.Char w.Ref A))
 ) else(
 some (u.set j.toNat (AD.mk q.Char q.Ref l))
 )
 ) λ(E:List AD)=>
 AB (AM .i64 (j+1)) λ(F:Int)=>
 some (.inl (F,E))
 ) else(
 some (.inr u)
 )
def ME(d1:B0)(u:BK)(l:List UInt8)(j:List UInt8):Option (Bool):=
 AB (QK) λ(E:Bool)=>
 AB (gd ((!E)==false) (Rh d1 u)) λ(Z:Int)=>
 AB (gd ((!E)==false) (Jp d1 u)) λ(r3:Int)=>
 if((!E)||(!(Z=r3))) then(
 some false
 ) else(
 F8 (FO d1 u l j) λ(F:List BE) (q:BK) (B:Int)=>
 Ao (
 if(decide (l=[])) then(
 F8 (MC d1 u j) λ(I:List BE) (w:BK) (C:Int)=>
 AB (gd (((!(C=B))||(!((w.Node=q.Node)&&((w.From=q.From)&&((w.To=q.To)&&true)))))==false) (Ha I F)) λ(J:Bool)=>
 if(((!(C=B))||(!((w.Node=q.Node)&&((w.From=q.From)&&((w.To=q.To)&&true)))))||(!J)) then(
 some (.ext false)
 ) else(
 some (.nrm ())
 )
 ) else(
 some (.nrm ())
 )
 ) λ(u1:Unit)=>
 AB (JY d1 u j) λ(O:Int)=>
 AB (
 if((O=0)&&(20000<(l.length:Int))) then(
 some 3
 ) else(
 some O
 )
 ) λ(T:Int)=>
 B5 (
 if(decide (T=0)) then(
 B5 (LS l []) λ(M:Int) (w1:List AD)=>
 some (M,w1)
 ) else(
 some (T,[])
 )
 ) λ(U:Int) (V:List AD)=>
 if(!(U=0)) then(
 some (((B=U)&&((F.length:Int)=0))&&((q.Node=0)&&((q.From=0)&&((q.To=0)&&true))))
 ) else(
 AB (Hh d1 u.Node) λ(r7:Int)=>
 AB (AL d1.Nodes r7) λ(X:Ag)=>
 AB (PT X.Flow) λ(v1:List AD)=>
 AB (iter (λ(a:Int × (List AD))=>Lq u V v1 a.1 a.2) (0,V)) λ(Y:List AD)=>
 AB (AM .i64 (u.From+(Y.length:Int))) λ(A:Int)=>
 AB (gd (((B=0)&&((q.Node=u.Node)&&((q.From=A)&&((q.To=A)&&true))))==true) (Pu X.Flow u.From u.To Y j)) λ(r8:List AD)=>
 AB (gd (((B=0)&&((q.Node=u.Node)&&((q.From=A)&&((q.To=A)&&true))))==true) (PZ d1 F u.Node r8)) λ(r9:Bool)=>
 some (((B=0)&&((q.Node=u.Node)&&((q.From=A)&&((q.To=A)&&true))))&&r9)
 )
 )
end
end Go.Proofs.YtdafahjmopdleaaGreatDoor.Al
