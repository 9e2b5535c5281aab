/- Models, as printed. -/
import Derived.Test.YtcgleifameckmaaGreatDoorAl3
set_option linter.all false
namespace Go.Proofs.YtcgleifameckmaaGreatDoor.Al
noncomputable section
structure KZ where
 Kind:Int
 N:Int
deriving DecidableEq
instance:Inhabited KZ:=⟨⟨0,0⟩⟩
structure o7 where
 steps:List KZ
 used:Int
deriving DecidableEq
instance:Inhabited o7:=⟨⟨[],0⟩⟩
structure Xn where
 out:List KZ
 add:Int
 cut:Int
deriving DecidableEq
instance:Inhabited Xn:=⟨⟨[],0,0⟩⟩
structure AH where
 Name:List UInt8
 Value:List UInt8
deriving DecidableEq
instance:Inhabited AH:=⟨⟨[],[]⟩⟩
@[reducible] def AH.row(x:AH):List RV:=[.str x.Name,.str x.Value]
structure Aq where
 Char:Int
 Ref:Int
 Attrs:List AH
deriving DecidableEq
instance:Inhabited Aq:=⟨⟨0,0,[]⟩⟩
@[reducible] def Aq.row(x:Aq):List RV:=[.int .i64 x.Char,.int .i64 x.Ref,.sl (x.Attrs.map AH.row)]
structure Aw where
 Row:Int
 Col:Int
 Text:List UInt8
 Ref:Int
 Attrs:List AH
deriving DecidableEq
instance:Inhabited Aw:=⟨⟨0,0,[],0,[]⟩⟩
@[reducible] def Aw.row(x:Aw):List RV:=[.int .i64 x.Row,.int .i64 x.Col,.str x.Text,.int .i64 x.Ref,.sl (x.Attrs.map AH.row)]
structure At where
 Row:Int
 Col:Int
 H:Int
 W:Int
deriving DecidableEq
instance:Inhabited At:=⟨⟨0,0,0,0⟩⟩
@[reducible] def At.row(x:At):List RV:=[.int .i64 x.Row,.int .i64 x.Col,.int .i64 x.H,.int .i64 x.W]
structure BJ where
 Rows:Int
 Cols:Int
 Cells:List Aw
 Merges:List At
deriving DecidableEq
instance:Inhabited BJ:=⟨⟨0,0,[],[]⟩⟩
@[reducible] def BJ.row(x:BJ):List RV:=[.int .i64 x.Rows,.int .i64 x.Cols,.sl (x.Cells.map Aw.row),.sl (x.Merges.map At.row)]
structure BA where
 Clock:Int
 Site:Int
 Kind:Int
 Item:Int
 Parent:Int
 Place:List UInt8
 Name:List UInt8
 Value:List UInt8
deriving DecidableEq
instance:Inhabited BA:=⟨⟨0,0,0,0,0,[],[],[]⟩⟩
@[reducible] def BA.row(x:BA):List RV:=[.int .i64 x.Clock,.int .i64 x.Site,.int .i64 x.Kind,.int .i64 x.Item,.int .i64 x.Parent,.str x.Place,.str x.Name,.str x.Value]
structure Ad where
 ID:Int
 Kind:Int
 Attrs:List AH
 Flow:List Aq
 Grid:BJ
 Draw:List BA
deriving DecidableEq
instance:Inhabited Ad:=⟨⟨0,0,[],[],(BJ.mk 0 0 [] []),[]⟩⟩
@[reducible] def Ad.row(x:Ad):List RV:=[.int .i64 x.ID,.int .i64 x.Kind,.sl (x.Attrs.map AH.row),.sl (x.Flow.map Aq.row),.int .i64 x.Grid.Rows,.int .i64 x.Grid.Cols,.sl (x.Grid.Cells.map Aw.row),.sl (x.Grid.Merges.map At.row),.sl (x.Draw.map BA.row)]
structure GStep where
 Kind:Int
 N:Int
 Attrs:List AH
 Elems:List Aq
deriving DecidableEq
instance:Inhabited GStep:=⟨⟨0,0,[],[]⟩⟩
structure QG where
 Rows:List KZ
 Cols:List KZ
 Cells:List Aw
 Split:List At
 Merge:List At
deriving DecidableEq
instance:Inhabited QG:=⟨⟨[],[],[],[],[]⟩⟩
structure fk where
 Kind:Int
 Node:Int
 New:Ad
 Attrs:List AH
 Steps:List GStep
 Grid:QG
 Draw:List BA
deriving DecidableEq
instance:Inhabited fk:=⟨⟨0,0,(Ad.mk 0 0 [] [] (BJ.mk 0 0 [] []) []),[],[],(QG.mk [] [] [] [] []),[]⟩⟩
structure uh where
 Site:Int
 Number:Int
 Change:List fk
 Undoes:Int
 Refused:Int
deriving DecidableEq
instance:Inhabited uh:=⟨⟨0,0,[],0,0⟩⟩
structure FX where
 From:Int
 To:Int
deriving DecidableEq
instance:Inhabited FX:=⟨⟨0,0⟩⟩
def DB(m:Int)(l:Int)(j:Int):Option (Bool):=
 some ((l<=m)&&(m<=j))
def QJ(l:List Int)(m:List Int)(j:Int):Option (Int ⊕ (A3 Unit Bool)):=
 if(decide (j<(l.length:Int))) then(
 AB (AO l j) λ(q:Int)=>
 AB (AO m j) λ(w:Int)=>
 if(!(q=w)) then(
 some (.inr (.ext false))
 ) else(
 AB (AX .i64 (j+1)) λ(A:Int)=>
 some (.inl A)
 )
 ) else(
 some (.inr (.nrm ()))
 )
def Qf(j:List Int)(l:List Int):Option (Bool):=
 if(!((j.length:Int)=(l.length:Int))) then(
 some false
 ) else(
 A7 (iter (λ(a:Int)=>QJ j l a) 0) λ(m:Unit)=>
 some true
 )
def NY(m:List UInt8)(l:Int):Option (Int ⊕ (A3 Unit Bool)):=
 if(decide (l<(m.length:Int))) then(
 AB (AO m l) λ(j:UInt8)=>
 if((((((j.toNat:Int)<97)||(122<(j.toNat:Int)))&&(((j.toNat:Int)<48)||(57<(j.toNat:Int))))&&(!((j.toNat:Int)=46)))&&(!((j.toNat:Int)=45))) then(
 some (.inr (.ext false))
 ) else(
 AB (AX .i64 (l+1)) λ(q:Int)=>
 some (.inl q)
 )
 ) else(
 some (.inr (.nrm ()))
 )
def NF(j:List UInt8):Option (Bool):=
 AB (gd (((j=[])||(24<(j.length:Int)))==false) (AO j 0)) λ(l:UInt8)=>
 AB (gd ((((j=[])||(24<(j.length:Int)))||((l.toNat:Int)<97))==false) (AO j 0)) λ(m:UInt8)=>
 if((((j=[])||(24<(j.length:Int)))||((l.toNat:Int)<97))||(122<(m.toNat:Int))) then(
 some false
 ) else(
 A7 (iter (λ(a:Int)=>NY j a) 0) λ(q:Unit)=>
 some true
 )
def QF(m:List UInt8)(l:Int):Option (Int ⊕ (A3 Unit Bool)):=
 if(decide (l<(m.length:Int))) then(
 AB (AO m l) λ(j:UInt8)=>
 if(((j.toNat:Int)<32)||(126<(j.toNat:Int))) then(
 some (.inr (.ext false))
 ) else(
 AB (AX .i64 (l+1)) λ(q:Int)=>
 some (.inl q)
 )
 ) else(
 some (.inr (.nrm ()))
 )
def MY(j:List UInt8):Option (Bool):=
 if((j=[])||(200<(j.length:Int))) then(
 some false
 ) else(
 A7 (iter (λ(a:Int)=>QF j a) 0) λ(l:Unit)=>
 some true
 )
def Mq(q:List AH)(j:Bool)(l:Int):Option (Int ⊕ (A3 Unit Int)):=
 if(decide (l<(q.length:Int))) then(
 AB (AO q l) λ(m:AH)=>
 AB (NF m.Name) λ(A:Bool)=>
 if(!A) then(
 some (.inr (.ext 9))
 ) else(
 AB (MY m.Value) λ(B:Bool)=>
 if((!B)&&(!(j&&(m.Value=[])))) then(
 some (.inr (.ext 23))
 ) else(
 AB (gd ((decide (0<l))==true) (AX .i64 (l-1))) λ(C:Int)=>
 AB (gd ((decide (0<l))==true) (AO q C)) λ(w:AH)=>
 if((0<l)&&(Ay m.Name w.Name||(m.Name=w.Name))) then(
 some (.inr (.ext 5))
 ) else(
 AB (AX .i64 (l+1)) λ(E:Int)=>
 some (.inl E)
 )
 )
 )
 ) else(
 some (.inr (.nrm ()))
 )
def OJ(l:List AH)(j:Bool):Option (Int):=
 A7 (iter (λ(a:Int)=>Mq l j a) 0) λ(m:Unit)=>
 some 0
def JN(j:List AH):Option (Int):=
 AB (OJ j false) λ(l:Int)=>
 some l
def Le(j:List AH)(m:AH)(l:AH):Option ((List AH)):=
 if(decide (l.Name=[])) then(
 AB (app 32 j [m]) λ(q:List AH)=>
 some q
 ) else(
 if(!(l.Value=[])) then(
 AB (app 32 j [l]) λ(w:List AH)=>
 some w
 ) else(
 some j
 )
 )
def Oi(l:List AH)(q:List AH)(j:Int)(m:Int)(o2:List AH):Option ((Int × Int × (List AH)) ⊕ (A3 Unit (List AH))):=
 if((j<(l.length:Int))||(m<(q.length:Int))) then(
 AB (gd (((decide (m=(q.length:Int)))==false)&&((decide (j<(l.length:Int)))==true)) (AO l j)) λ(A:AH)=>
 AB (gd (((decide (m=(q.length:Int)))==false)&&((decide (j<(l.length:Int)))==true)) (AO q m)) λ(B:AH)=>
 if((m=(q.length:Int))||((j<(l.length:Int))&&(Ay A.Name B.Name))) then(
 AB (AO l j) λ(C:AH)=>
 AB (Le o2 C (AH.mk [] [])) λ(E:List AH)=>
 AB (AX .i64 (j+1)) λ(F:Int)=>
 some (.inl (F,m,E))
 ) else(
 AB (gd ((decide (j=(l.length:Int)))==false) (AO q m)) λ(I:AH)=>
 AB (gd ((decide (j=(l.length:Int)))==false) (AO l j)) λ(J:AH)=>
 if((j=(l.length:Int))||(Ay I.Name J.Name)) then(
 AB (AO q m) λ(M:AH)=>
 AB (Le o2 (AH.mk [] []) M) λ(O:List AH)=>
 AB (AX .i64 (m+1)) λ(T:Int)=>
 some (.inl (j,T,O))
 ) else(
 AB (AO l j) λ(U:AH)=>
 AB (AO q m) λ(V:AH)=>
 AB (Le o2 U V) λ(X:List AH)=>
 AB (AX .i64 (j+1)) λ(w:Int)=>
 AB (AX .i64 (m+1)) λ(Z:Int)=>
 some (.inl (w,Z,X))
 )
 )
 ) else(
 some (.inr (.ext o2))
 )
def N8(j:List AH)(l:List AH)(m:List AH):Option ((List AH)):=
 A7 (iter (λ(a:Int × Int × (List AH))=>Oi l m a.1 a.2.1 a.2.2) (0,0,j)) λ(q:Unit)=>
 none
def Mo(l:List AH)(j:List AH):Option ((List AH)):=
 AB (N8 [] l j) λ(m:List AH)=>
 some m
def NI(m:List UInt8)(l:Int):Option (Int ⊕ (A3 Unit Bool)):=
 if(decide (l<(m.length:Int))) then(
 AB (AO m l) λ(j:UInt8)=>
 if((!((97<=(j.toNat:Int))&&((j.toNat:Int)<=122)))&&((l=0)||(((!((j.toNat:Int)=46))&&(!((j.toNat:Int)=45)))&&(((j.toNat:Int)<48)||(57<(j.toNat:Int)))))) then(
 some (.inr (.ext false))
 ) else(
 AB (AX .i64 (l+1)) λ(q:Int)=>
 some (.inl q)
 )
 ) else(
 some (.inr (.nrm ()))
 )
def ME(j:List UInt8):Option (Bool):=
 A7 (iter (λ(a:Int)=>NI j a) 0) λ(l:Unit)=>
 some ((1<=(j.length:Int))&&((j.length:Int)<=24))
def OZ(m:List UInt8)(l:Int):Option (Int ⊕ (A3 Unit Bool)):=
 if(decide (l<(m.length:Int))) then(
 AB (AO m l) λ(j:UInt8)=>
 if(((j.toNat:Int)<32)||(126<(j.toNat:Int))) then(
 some (.inr (.ext false))
 ) else(
 AB (AX .i64 (l+1)) λ(q:Int)=>
 some (.inl q)
 )
 ) else(
 some (.inr (.nrm ()))
 )
def Nd(j:List UInt8):Option (Bool):=
 A7 (iter (λ(a:Int)=>OZ j a) 0) λ(l:Unit)=>
 some ((1<=(j.length:Int))&&((j.length:Int)<=200))
def M7(q:List AH)(j:Bool)(l:Int):Option (Int ⊕ (A3 Unit Int)):=
 if(decide (l<(q.length:Int))) then(
 AB (AO q l) λ(m:AH)=>
 AB (ME m.Name) λ(w:Bool)=>
 if(!w) then(
 some (.inr (.ext 9))
 ) else(
 AB (Nd m.Value) λ(A:Bool)=>
 if((!A)&&((!(m.Value=[]))||(!j))) then(
 some (.inr (.ext 23))
 ) else(
 AB (gd ((decide (0<l))==true) (AX .i64 (l-1))) λ(B:Int)=>
 AB (gd ((decide (0<l))==true) (AO q B)) λ(C:AH)=>
 if((0<l)&&(!Ay C.Name m.Name)) then(
 some (.inr (.ext 5))
 ) else(
 AB (AX .i64 (l+1)) λ(E:Int)=>
 some (.inl E)
 )
 )
 )
 ) else(
 some (.inr (.nrm ()))
 )
def LH(l:List AH)(j:Bool):Option (Int):=
 A7 (iter (λ(a:Int)=>M7 l j a) 0) λ(m:Unit)=>
 some 0
def OG(m:List AH)(j:List UInt8)(l:Int):Option (Int ⊕ (A3 Unit (List UInt8))):=
 if(decide (l<(m.length:Int))) then(
 AB (AO m l) λ(q:AH)=>
 if(decide (q.Name=j)) then(
 some (.inr (.ext q.Value))
 ) else(
 AB (AX .i64 (l+1)) λ(w:Int)=>
 some (.inl w)
 )
 ) else(
 some (.inr (.nrm ()))
 )
def IS(l:List AH)(j:List UInt8):Option ((List UInt8)):=
 A7 (iter (λ(a:Int)=>OG l j a) 0) λ(m:Unit)=>
 some []
def N7(m:List AH)(j:List UInt8)(l:Int):Option (Int ⊕ (A3 Unit (List UInt8))):=
 if(decide (l<(m.length:Int))) then(
 AB (AO m l) λ(q:AH)=>
 if(decide (q.Name=j)) then(
 some (.inr (.ext q.Value))
 ) else(
 AB (AX .i64 (l+1)) λ(w:Int)=>
 some (.inl w)
 )
 ) else(
 some (.inr (.nrm ()))
 )
def JS(l:List AH)(j:List UInt8):Option ((List UInt8)):=
 A7 (iter (λ(a:Int)=>N7 l j a) 0) λ(m:Unit)=>
 some []
def Qk(F:List AH)(I:AH)(j:Bool)(E:Int)(l:List AH):Option ((Bool × Int × (List AH)) ⊕ (Bool × (List AH))):=
 if(decide (E<(F.length:Int))) then(
 B3 (
 AB (gd ((!j)==true) (AO F E)) λ(M:AH)=>
 B3 (
 if((!j)&&(!Ay M.Name I.Name)) then(
 AB (app 32 l [I]) λ(w:List AH)=>
 some (true,w)
 ) else(
 some (j,l)
 )
 ) λ(m:Bool) (q:List AH)=>
 AB (AO F E) λ(J:AH)=>
 if(!(J.Name=I.Name)) then(
 AB (app 32 q [J]) λ(B:List AH)=>
 some (m,B)
 ) else(
 some (m,q)
 )
 ) λ(A:Bool) (C:List AH)=>
 AB (AX .i64 (E+1)) λ(O:Int)=>
 some (.inl (A,O,C))
 ) else(
 some (.inr (j,l))
 )
def Ln(A:List AH)(w:AH):Option ((List AH)):=
 B3 (iter (λ(a:Bool × Int × (List AH))=>Qk A w a.1 a.2.1 a.2.2) (false,0,[])) λ(l:Bool) (j:List AH)=>
 AB (
 if(!l) then(
 AB (app 32 j [w]) λ(m:List AH)=>
 some m
 ) else(
 some j
 )
 ) λ(q:List AH)=>
 some q
def Of(l:List AH)(A:Int)(j:List AH):Option ((Int × (List AH)) ⊕ (List AH)):=
 if(decide (A<(l.length:Int))) then(
 AB (
 AB (AO l A) λ(w:AH)=>
 if(!(w.Value=[])) then(
 AB (app 32 j [w]) λ(m:List AH)=>
 some m
 ) else(
 some j
 )
 ) λ(q:List AH)=>
 AB (AX .i64 (A+1)) λ(B:Int)=>
 some (.inl (B,q))
 ) else(
 some (.inr j)
 )
def QI(j:List AH)(l:List AH)(q:Int):Option (((List AH) × Int) ⊕ (List AH)):=
 if(decide (q<(j.length:Int))) then(
 AB (AO j q) λ(w:AH)=>
 AB (Ln l w) λ(m:List AH)=>
 AB (AX .i64 (q+1)) λ(A:Int)=>
 some (.inl (m,A))
 ) else(
 some (.inr l)
 )
def Pr(A:List AH)(j:List AH)(m:Int):Option (((List AH) × Int) ⊕ (List AH)):=
 if(decide (m<(A.length:Int))) then(
 AB (AO A m) λ(q:AH)=>
 AB (Ln j q) λ(l:List AH)=>
 AB (AX .i64 (m+1)) λ(w:Int)=>
 some (.inl (l,w))
 ) else(
 some (.inr j)
 )
def NQ(w:List AH)(j:List AH):Option ((List AH)):=
 AB (iter (λ(a:(List AH) × Int)=>Pr w a.1 a.2) ([],0)) λ(m:List AH)=>
 AB (iter (λ(a:(List AH) × Int)=>QI j a.1 a.2) (m,0)) λ(q:List AH)=>
 AB (iter (λ(a:Int × (List AH))=>Of q a.1 a.2) (0,[])) λ(l:List AH)=>
 some l
def Mi(j:Int):Option (Bool):=
 some (((((j=9)||(j=10))||((32<=j)&&(j<127)))||((160<=j)&&(j<55296)))||((57343<j)&&(j<=1114111)))
def O5(j:Aq):Option (Int):=
 if((!(j.Char=0))==(!(j.Ref=0))) then(
 some 4
 ) else(
 AB (gd ((decide (j.Ref=0))==true) (Mi j.Char)) λ(l:Bool)=>
 AB (
 if((j.Ref=0)&&(!l)) then(
 some ((j.Ref=0)&&(!l))
 ) else(
 some ((!(j.Ref=0))&&((j.Ref<1)||(1073741824<j.Ref)))
 )
 ) λ(m:Bool)=>
 if m then(
 some 2
 ) else(
 AB (JN j.Attrs) λ(q:Int)=>
 some q
 )
 )
def Mz(j:Int):Option (Bool):=
 AB (gd (((j=9)||(j=10))==false) (DB j 32 126)) λ(l:Bool)=>
 AB (gd ((((j=9)||(j=10))||l)==false) (DB j 160 55295)) λ(m:Bool)=>
 AB (gd (((((j=9)||(j=10))||l)||m)==false) (DB j 57344 1114111)) λ(q:Bool)=>
 some (((((j=9)||(j=10))||l)||m)||q)
def Ot(j:Aq):Option (Int):=
 if(((j.Char=0)&&(j.Ref=0))||((!(j.Char=0))&&(!(j.Ref=0)))) then(
 some 4
 ) else(
 AB (gd ((!(j.Char=0))==true) (Mz j.Char)) λ(l:Bool)=>
 AB (gd ((((!(j.Char=0))&&(!l))==false)&&((!(j.Ref=0))==true)) (DB j.Ref 1 1073741824)) λ(m:Bool)=>
 if(((!(j.Char=0))&&(!l))||((!(j.Ref=0))&&(!m))) then(
 some 2
 ) else(
 AB (LH j.Attrs false) λ(q:Int)=>
 some q
 )
 )
def PK(l:List AH)(w:List AH)(j:Int):Option (Int ⊕ (A3 Unit Bool)):=
 if(decide (j<(l.length:Int))) then(
 AB (AO l j) λ(m:AH)=>
 AB (AO w j) λ(q:AH)=>
 if(!((m.Name=q.Name)&&((m.Value=q.Value)&&true))) then(
 some (.inr (.ext false))
 ) else(
 AB (AX .i64 (j+1)) λ(A:Int)=>
 some (.inl A)
 )
 ) else(
 some (.inr (.nrm ()))
 )
def PJ(j:List AH)(l:List AH):Option (Bool):=
 if(!((j.length:Int)=(l.length:Int))) then(
 some false
 ) else(
 A7 (iter (λ(a:Int)=>PK j l a) 0) λ(m:Unit)=>
 some true
 )
end
noncomputable section
structure kZ where
 Adds:List (List Aq)
 Cuts:List Bool
 Attrs:List (List AH)
deriving DecidableEq
instance:Inhabited kZ:=⟨⟨[],[],[]⟩⟩
end
noncomputable section
end
noncomputable section
structure tc where
 steps:List GStep
 used:Int
deriving DecidableEq
instance:Inhabited tc:=⟨⟨[],0⟩⟩
structure tY where
 out:List GStep
 add:List Aq
 cut:Int
deriving DecidableEq
instance:Inhabited tY:=⟨⟨[],[],0⟩⟩
def JL(q:List Aq)(l:Int)(j:List Aq):Option ((Int × (List Aq)) ⊕ (List Aq)):=
 if(decide (l<(q.length:Int))) then(
 AB (AO q l) λ(m:Aq)=>
 AB (app 32 [] m.Attrs) λ(w:List AH)=>
 AB (AO j l) λ(B:Aq)=>
 AB (AX .i64 (l+1)) λ(A:Int)=>
 some (.inl (A,(j.set l.toNat (Aq.mk m.Char m.Ref w))))
 ) else(
 some (.inr j)
 )
def P5(m:List Aq):Option ((List Aq)):=
 AB (mk 40 (m.length:Int) (Aq.mk 0 0 [])) λ(j:List Aq)=>
 AB (iter (λ(a:Int × (List Aq))=>JL m a.1 a.2) (0,j)) λ(l:List Aq)=>
 some l
def La(m:List Aq)(j:Bool)(l:Int):Option (Int ⊕ (A3 Unit Int)):=
 if(decide (l<(m.length:Int))) then(
 AB (AO m l) λ(q:Aq)=>
 AB (O5 q) λ(w:Int)=>
 if(!(w=0)) then(
 some (.inr (.ext w))
 ) else(
 if((!j)&&(q.Ref=0)) then(
 some (.inr (.ext 8))
 ) else(
 AB (AX .i64 (l+1)) λ(A:Int)=>
 some (.inl A)
 )
 )
 ) else(
 some (.inr (.nrm ()))
 )
def H4(l:List Aq)(j:Bool):Option (Int):=
 A7 (iter (λ(a:Int)=>La l j a) 0) λ(w:Unit)=>
 AB (gd ((j==true)&&((decide ((l.length:Int)=0))==false)) (AX .i64 ((l.length:Int)-1))) λ(m:Int)=>
 AB (gd ((j==true)&&((decide ((l.length:Int)=0))==false)) (AO l m)) λ(q:Aq)=>
 if(j&&(((l.length:Int)=0)||(!(q.Char=10)))) then(
 some 11
 ) else(
 some 0
 )
def Kn(m:List Aq)(j:Bool)(l:Int):Option (Int ⊕ (A3 Unit Int)):=
 if(decide (l<(m.length:Int))) then(
 AB (AO m l) λ(q:Aq)=>
 AB (Ot q) λ(w:Int)=>
 if(!(w=0)) then(
 some (.inr (.ext w))
 ) else(
 if((!j)&&(!(q.Char=0))) then(
 some (.inr (.ext 8))
 ) else(
 AB (AX .i64 (l+1)) λ(A:Int)=>
 some (.inl A)
 )
 )
 ) else(
 some (.inr (.nrm ()))
 )
def KL(l:List Aq)(j:Bool):Option (Int):=
 A7 (iter (λ(a:Int)=>Kn l j a) 0) λ(w:Unit)=>
 AB (gd ((j==true)&&((decide ((l.length:Int)=0))==false)) (AX .i64 ((l.length:Int)-1))) λ(m:Int)=>
 AB (gd ((j==true)&&((decide ((l.length:Int)=0))==false)) (AO l m)) λ(q:Aq)=>
 if(j&&(((l.length:Int)=0)||(!(q.Char=10)))) then(
 some 11
 ) else(
 some 0
 )
end
noncomputable section
end
noncomputable section
end
noncomputable section
end
noncomputable section
structure eX where
 Kind:Int
 Node:Int
 From:Int
 To:Int
 Name:List UInt8
deriving DecidableEq
instance:Inhabited eX:=⟨⟨0,0,0,0,[]⟩⟩
structure pe where
 node:Int
 out:List Aq
 bad:List eX
deriving DecidableEq
instance:Inhabited pe:=⟨⟨0,[],[]⟩⟩
structure vd where
 adds:List (List Aq)
 cut:List Bool
 attrs:List (List AH)
deriving DecidableEq
instance:Inhabited vd:=⟨⟨[],[],[]⟩⟩
end
noncomputable section
structure Il where
 lo:Int
 hi:Int
deriving DecidableEq
instance:Inhabited Il:=⟨⟨0,0⟩⟩
@[reducible] def Il.row(x:Il):List RV:=[.int .u8 x.lo,.int .u8 x.hi]
def Sz:List Il:=Je.map λp=>Il.mk p.1 p.2
def Qp(A:List UInt8):Option (Int × Int):=
 if(decide ((A.length:Int)<1)) then(
 some (65533,0)
 ) else(
 AB (AO A 0) λ(j:UInt8)=>
 AB (AO GH (j.toNat:Int)) λ(q:Int)=>
 if(decide (240<=q)) then(
 some ((EJ .i32 (Pa .i32 (IntKind.i32.wrap (j.toNat:Int)) (Fh .i32 (Di .i32 (IntKind.i32.wrap q) 31) 31)) (CR .i32 65533 (Fh .i32 (Di .i32 (IntKind.i32.wrap q) 31) 31))),1)
 ) else(
 AB (AO Sz (Fh .u8 q 4)) λ(B:Il)=>
 if(decide ((A.length:Int)<(IntKind.i64.wrap (CR .u8 q 7)))) then(
 some (65533,1)
 ) else(
 AB (AO A 1) λ(l:UInt8)=>
 if(((l.toNat:Int)<B.lo)||(B.hi<(l.toNat:Int))) then(
 some (65533,1)
 ) else(
 if(decide ((IntKind.i64.wrap (CR .u8 q 7))<=2)) then(
 some ((EJ .i32 (Di .i32 (IntKind.i32.wrap (CR .u8 (j.toNat:Int) 31)) 6) (IntKind.i32.wrap (CR .u8 (l.toNat:Int) 63))),2)
 ) else(
 AB (AO A 2) λ(m:UInt8)=>
 if(((m.toNat:Int)<128)||(191<(m.toNat:Int))) then(
 some (65533,1)
 ) else(
 if(decide ((IntKind.i64.wrap (CR .u8 q 7))<=3)) then(
 some ((EJ .i32 (EJ .i32 (Di .i32 (IntKind.i32.wrap (CR .u8 (j.toNat:Int) 15)) 12) (Di .i32 (IntKind.i32.wrap (CR .u8 (l.toNat:Int) 63)) 6)) (IntKind.i32.wrap (CR .u8 (m.toNat:Int) 63))),3)
 ) else(
 AB (AO A 3) λ(w:UInt8)=>
 if(((w.toNat:Int)<128)||(191<(w.toNat:Int))) then(
 some (65533,1)
 ) else(
 some ((EJ .i32 (EJ .i32 (EJ .i32 (Di .i32 (IntKind.i32.wrap (CR .u8 (j.toNat:Int) 7)) 18) (Di .i32 (IntKind.i32.wrap (CR .u8 (l.toNat:Int) 63)) 12)) (Di .i32 (IntKind.i32.wrap (CR .u8 (m.toNat:Int) 63)) 6)) (IntKind.i32.wrap (CR .u8 (w.toNat:Int) 63))),4)
 )
 )
 )
 )
 )
 )
 )
 )
def Px(j:List UInt8):Option (Int × Int):=
 AB (gd ((!(j=[]))==true) (AO j 0)) λ(l:UInt8)=>
 if((!(j=[]))&&((l.toNat:Int)<128)) then(
 AB (AO j 0) λ(m:UInt8)=>
 some ((IntKind.i32.wrap (m.toNat:Int)),1)
 ) else(
 B3 (Qp j) λ(q:Int) (w:Int)=>
 some (q,w)
 )
end
noncomputable section
def FY(w:List Aq)(q:Int)(j:List Int):Option ((Int × (List Int)) ⊕ (List Int)):=
 if(decide (q<(w.length:Int))) then(
 AB (
 AB (AO w q) λ(A:Aq)=>
 if(!(A.Ref=0)) then(
 AB (app 8 j [A.Ref]) λ(l:List Int)=>
 some l
 ) else(
 some j
 )
 ) λ(m:List Int)=>
 AB (AX .i64 (q+1)) λ(B:Int)=>
 some (.inl (B,m))
 ) else(
 some (.inr j)
 )
def Lj(l:List Aq):Option ((List Int)):=
 AB (iter (λ(a:Int × (List Int))=>FY l a.1 a.2) (0,[])) λ(j:List Int)=>
 some j
end
noncomputable section
end
noncomputable section
structure Ac where
 Nodes:List Ad
deriving DecidableEq
instance:Inhabited Ac:=⟨⟨[]⟩⟩
@[reducible] def Ac.row(x:Ac):List RV:=[.sl (x.Nodes.map Ad.row)]
def FJ(j:Int):Option (Bool):=
 some ((((j=1)||(j=3))||(j=4))||(j=12))
def HW(j:Int):Option (Bool):=
 some ((j=0)||(j=7))
def GM(j:Int):Option (Bool):=
 some ((j=2)||(j=6))
def SK(j:List At)(w:List At)(l:Int):Option (Int ⊕ (A3 Unit Bool)):=
 if(decide (l<(j.length:Int))) then(
 AB (AO j l) λ(m:At)=>
 AB (AO w l) λ(q:At)=>
 if(!((m.Row=q.Row)&&((m.Col=q.Col)&&((m.H=q.H)&&((m.W=q.W)&&true))))) then(
 some (.inr (.ext false))
 ) else(
 AB (AX .i64 (l+1)) λ(A:Int)=>
 some (.inl A)
 )
 ) else(
 some (.inr (.nrm ()))
 )
def OS(j:List At)(l:List At):Option (Bool):=
 if(!((j.length:Int)=(l.length:Int))) then(
 some false
 ) else(
 A7 (iter (λ(a:Int)=>SK j l a) 0) λ(m:Unit)=>
 some true
 )
def O0(j:Aw)(l:Aw):Option (Bool):=
 AB (gd (((((j.Row=l.Row)&&(j.Col=l.Col))&&(j.Text=l.Text))&&(j.Ref=l.Ref))==true) (PJ j.Attrs l.Attrs)) λ(m:Bool)=>
 some (((((j.Row=l.Row)&&(j.Col=l.Col))&&(j.Text=l.Text))&&(j.Ref=l.Ref))&&m)
def So(j:List Aw)(m:List Aw)(l:Int):Option (Int ⊕ (A3 Unit Bool)):=
 if(decide (l<(j.length:Int))) then(
 AB (AO j l) λ(q:Aw)=>
 AB (AO m l) λ(w:Aw)=>
 AB (O0 q w) λ(A:Bool)=>
 if(!A) then(
 some (.inr (.ext false))
 ) else(
 AB (AX .i64 (l+1)) λ(B:Int)=>
 some (.inl B)
 )
 ) else(
 some (.inr (.nrm ()))
 )
def QB(j:List Aw)(l:List Aw):Option (Bool):=
 if(!((j.length:Int)=(l.length:Int))) then(
 some false
 ) else(
 A7 (iter (λ(a:Int)=>So j l a) 0) λ(m:Unit)=>
 some true
 )
def MS(j:BJ)(l:BJ):Option (Bool):=
 AB (gd (((j.Rows=l.Rows)&&(j.Cols=l.Cols))==true) (OS j.Merges l.Merges)) λ(m:Bool)=>
 AB (gd ((((j.Rows=l.Rows)&&(j.Cols=l.Cols))&&m)==true) (QB j.Cells l.Cells)) λ(q:Bool)=>
 some ((((j.Rows=l.Rows)&&(j.Cols=l.Cols))&&m)&&q)
def Hk(j:Int):Option (Bool):=
 some (((j=8)||(j=9))||(j=10))
def G5(l:List UInt8):Option ((List UInt8) ⊕ (A3 Unit Bool)):=
 if(!(l=[])) then(
 B3 (Px l) λ(j:Int) (m:Int)=>
 AB (gd ((((j=65533)&&(m=1))||(j=10))==false) (Mi (IntKind.i64.wrap j))) λ(q:Bool)=>
 if((((j=65533)&&(m=1))||(j=10))||(!q)) then(
 some (.inr (.ext false))
 ) else(
 AB (Dl l m (l.length:Int)) λ(w:List UInt8)=>
 some (.inl w)
 )
 ) else(
 some (.inr (.nrm ()))
 )
def Oz(j:List UInt8):Option (Bool):=
 A7 (iter (λ(a:(List UInt8))=>G5 a) j) λ(l:Unit)=>
 some true
def Qq(j:Aw):Option (Bool):=
 some (((j.Text=[])&&(j.Ref=0))&&((j.Attrs.length:Int)=0))
def Mc(j:Int):Option (Bool):=
 some (!(j=j))
def GK(m:Int)(q:Int):Option (Int):=
 AB (Mc m) λ(l:Bool)=>
 AB (Mc q) λ(j:Bool)=>
 if l then(
 if j then(
 some 0
 ) else(
 some (-1)
 )
 ) else(
 if j then(
 some 1
 ) else(
 if(decide (m<q)) then(
 some (-1)
 ) else(
 if(decide (q<m)) then(
 some 1
 ) else(
 some 0
 )
 )
 )
 )
def FF(j:List Int)(l:Int):Option (Int ⊕ (A3 Unit Int)):=
 if(decide (l<(j.length:Int))) then(
 AB (AO j l) λ(m:Int)=>
 if(!(m=0)) then(
 some (.inr (.ext m))
 ) else(
 AB (AX .i64 (l+1)) λ(q:Int)=>
 some (.inl q)
 )
 ) else(
 some (.inr (.nrm ()))
 )
def IY(j:List Int):Option (Int):=
 A7 (iter (λ(a:Int)=>FF j a) 0) λ(l:Unit)=>
 some 0
def Mw(j:Aw)(l:Aw):Option (Int):=
 AB (GK j.Row l.Row) λ(m:Int)=>
 AB (GK j.Col l.Col) λ(q:Int)=>
 AB (IY [m,q]) λ(w:Int)=>
 some w
def Od(A:List Aw)(m:Int)(q:Int)(w:Bool)(l:Int):Option (Int ⊕ (A3 Unit Int)):=
 if(decide (l<(A.length:Int))) then(
 AB (AO A l) λ(j:Aw)=>
 if((((j.Row<0)||(m<=j.Row))||(j.Col<0))||(q<=j.Col)) then(
 some (.inr (.ext 2))
 ) else(
 if((j.Ref<0)||(1073741824<j.Ref)) then(
 some (.inr (.ext 2))
 ) else(
 AB (Oz j.Text) λ(C:Bool)=>
 if(!C) then(
 some (.inr (.ext 23))
 ) else(
 AB (JN j.Attrs) λ(B:Int)=>
 if(!(B=0)) then(
 some (.inr (.ext B))
 ) else(
 AB (Qq j) λ(E:Bool)=>
 if(E&&(!w)) then(
 some (.inr (.ext 4))
 ) else(
 AB (gd ((decide (0<l))==true) (AX .i64 (l-1))) λ(F:Int)=>
 AB (gd ((decide (0<l))==true) (AO A F)) λ(I:Aw)=>
 AB (gd ((decide (0<l))==true) (Mw I j)) λ(J:Int)=>
 if((0<l)&&(0<=J)) then(
 some (.inr (.ext 5))
 ) else(
 AB (AX .i64 (l+1)) λ(M:Int)=>
 some (.inl M)
 )
 )
 )
 )
 )
 )
 ) else(
 some (.inr (.nrm ()))
 )
def Oq(q:List Aw)(j:Int)(l:Int)(m:Bool):Option (Int):=
 A7 (iter (λ(a:Int)=>Od q j l m a) 0) λ(w:Unit)=>
 some 0
def Ol(j:At)(l:Int)(m:Int):Option (Bool):=
 AB (gd (((((((0<=j.Row)&&(0<=j.Col))&&(1<=j.H))&&(1<=j.W))&&(j.Row<l))&&(j.Col<m))==true) (AX .i64 (l-j.Row))) λ(q:Int)=>
 AB (gd ((((((((0<=j.Row)&&(0<=j.Col))&&(1<=j.H))&&(1<=j.W))&&(j.Row<l))&&(j.Col<m))&&(j.H<=q))==true) (AX .i64 (m-j.Col))) λ(w:Int)=>
 some ((((((((0<=j.Row)&&(0<=j.Col))&&(1<=j.H))&&(1<=j.W))&&(j.Row<l))&&(j.Col<m))&&(j.H<=q))&&(j.W<=w))
def Pb(j:At)(l:At):Option (Bool):=
 some ((j.Row<l.Row)||((j.Row=l.Row)&&(j.Col<l.Col)))
def Ox(j:At)(l:At):Option (Bool):=
 AB (AX .i64 (l.Row+l.H)) λ(m:Int)=>
 AB (gd ((decide (j.Row<m))==true) (AX .i64 (j.Row+j.H))) λ(q:Int)=>
 AB (gd (((j.Row<m)&&(l.Row<q))==true) (AX .i64 (l.Col+l.W))) λ(w:Int)=>
 AB (gd ((((j.Row<m)&&(l.Row<q))&&(j.Col<w))==true) (AX .i64 (j.Col+j.W))) λ(A:Int)=>
 some ((((j.Row<m)&&(l.Row<q))&&(j.Col<w))&&(l.Col<A))
def Th(j:At)(l:At):Option (Bool):=
 AB (Ox l j) λ(m:Bool)=>
 some m
def P1(m:At)(l:List At)(j:Int):Option (Int ⊕ (A3 Unit Int)):=
 if(decide (j<(l.length:Int))) then(
 AB (AO l j) λ(q:At)=>
 AB (Th m q) λ(w:Bool)=>
 if w then(
 some (.inr (.ext j))
 ) else(
 AB (AX .i64 (j+1)) λ(A:Int)=>
 some (.inl A)
 )
 ) else(
 some (.inr (.nrm ()))
 )
def SP(j:At)(l:List At):Option (Int):=
 A7 (iter (λ(a:Int)=>P1 j l a) 0) λ(m:Unit)=>
 some (-1)
def My(j:At)(l:List At):Option (Bool):=
 AB (SP j l) λ(m:Int)=>
 some (decide (0<=m))
def Oe(l:BJ)(j:Int):Option (Int ⊕ (A3 Unit Int)):=
 if(decide (j<(l.Merges.length:Int))) then(
 AB (AO l.Merges j) λ(m:At)=>
 AB (Ol m l.Rows l.Cols) λ(q:Bool)=>
 if(!q) then(
 some (.inr (.ext 2))
 ) else(
 if((m.H=1)&&(m.W=1)) then(
 some (.inr (.ext 4))
 ) else(
 AB (gd ((decide (0<j))==true) (AX .i64 (j-1))) λ(w:Int)=>
 AB (gd ((decide (0<j))==true) (AO l.Merges w)) λ(A:At)=>
 AB (gd ((decide (0<j))==true) (Pb A m)) λ(B:Bool)=>
 if((0<j)&&(!B)) then(
 some (.inr (.ext 5))
 ) else(
 AB (Dl l.Merges 0 j) λ(C:List At)=>
 AB (My m C) λ(E:Bool)=>
 if E then(
 some (.inr (.ext 21))
 ) else(
 AB (AX .i64 (j+1)) λ(F:Int)=>
 some (.inl F)
 )
 )
 )
 )
 ) else(
 some (.inr (.nrm ()))
 )
def O2(j:BJ):Option (Int):=
 if((((j.Rows<0)||(2147483647<j.Rows))||(j.Cols<0))||(2147483647<j.Cols)) then(
 some 2
 ) else(
 AB (Oq j.Cells j.Rows j.Cols false) λ(l:Int)=>
 if(!(l=0)) then(
 some l
 ) else(
 A7 (iter (λ(a:Int)=>Oe j a) 0) λ(m:Unit)=>
 some 0
 )
 )
def N3(j:Int)(q:List Aw)(l:Int):Option (Int ⊕ (A3 Unit Int)):=
 if(decide (l<(q.length:Int))) then(
 AB (AO q l) λ(m:Aw)=>
 if(((j=2)&&((!(m.Text=[]))||(0<(m.Attrs.length:Int))))||((j=6)&&(!(m.Ref=0)))) then(
 some (.inr (.ext 4))
 ) else(
 AB (AX .i64 (l+1)) λ(w:Int)=>
 some (.inl w)
 )
 ) else(
 some (.inr (.nrm ()))
 )
def Qc(j:Int)(l:List Aw):Option (Int):=
 A7 (iter (λ(a:Int)=>N3 j l a) 0) λ(m:Unit)=>
 some 0
def LD(m:List UInt8)(l:Int):Option (Int ⊕ (A3 Unit Bool)):=
 if(decide (l<(m.length:Int))) then(
 AB (AO m l) λ(j:UInt8)=>
 if(((j.toNat:Int)<97)||(122<(j.toNat:Int))) then(
 some (.inr (.ext false))
 ) else(
 AB (AX .i64 (l+1)) λ(q:Int)=>
 some (.inl q)
 )
 ) else(
 some (.inr (.nrm ()))
 )
def Kg(j:List UInt8):Option (Bool):=
 AB (gd (((j=[])||(200<(j.length:Int)))==false) (AX .i64 ((j.length:Int)-1))) λ(m:Int)=>
 AB (gd (((j=[])||(200<(j.length:Int)))==false) (AO j m)) λ(l:UInt8)=>
 if(((j=[])||(200<(j.length:Int)))||((l.toNat:Int)=97)) then(
 some false
 ) else(
 A7 (iter (λ(a:Int)=>LD j a) 0) λ(q:Unit)=>
 some true
 )
def LE(j:BA):Option (Int):=
 if((!(j.Kind=0))&&(!(j.Kind=1))) then(
 some 8
 ) else(
 if((((((j.Clock<1)||(1073741824<j.Clock))||(j.Site<0))||(1000<j.Site))||(j.Item<1))||(1073741824<j.Item)) then(
 some 2
 ) else(
 AB (
 if((j.Kind=0)&&((!(j.Name=[]))||(!(j.Value=[])))) then(
 some ((j.Kind=0)&&((!(j.Name=[]))||(!(j.Value=[]))))
 ) else(
 some ((j.Kind=1)&&((!(j.Parent=0))||(!(j.Place=[]))))
 )
 ) λ(m:Bool)=>
 if m then(
 some 4
 ) else(
 if((j.Kind=0)&&((j.Parent<(-1))||(1073741824<j.Parent))) then(
 some 2
 ) else(
 AB (gd ((decide (j.Kind=0))==true) (Kg j.Place)) λ(l:Bool)=>
 AB (
 if((j.Kind=0)&&(!l)) then(
 some ((j.Kind=0)&&(!l))
 ) else(
 AB (gd ((decide (j.Kind=1))==true) (NF j.Name)) λ(q:Bool)=>
 some ((j.Kind=1)&&(!q))
 )
 ) λ(w:Bool)=>
 if w then(
 some 9
 ) else(
 AB (gd (((j.Kind=1)&&(!(j.Value=[])))==true) (MY j.Value)) λ(A:Bool)=>
 if(((j.Kind=1)&&(!(j.Value=[])))&&(!A)) then(
 some 23
 ) else(
 some 0
 )
 )
 )
 )
 )
 )
def Lh(j:BA)(l:BA):Option (Int):=
 AB (GK j.Clock l.Clock) λ(m:Int)=>
 AB (GK j.Site l.Site) λ(q:Int)=>
 AB (IY [m,q]) λ(w:Int)=>
 some w
def Kv(l:List BA)(j:Int):Option (Int ⊕ (A3 Unit Int)):=
 if(decide (j<(l.length:Int))) then(
 AB (AO l j) λ(m:BA)=>
 AB (LE m) λ(q:Int)=>
 if(!(q=0)) then(
 some (.inr (.ext q))
 ) else(
 AB (gd ((decide (0<j))==true) (AX .i64 (j-1))) λ(w:Int)=>
 AB (gd ((decide (0<j))==true) (AO l w)) λ(A:BA)=>
 AB (gd ((decide (0<j))==true) (Lh A m)) λ(B:Int)=>
 if((0<j)&&(0<=B)) then(
 some (.inr (.ext 5))
 ) else(
 AB (AX .i64 (j+1)) λ(C:Int)=>
 some (.inl C)
 )
 )
 ) else(
 some (.inr (.nrm ()))
 )
def Ld(j:List BA):Option (Int):=
 A7 (iter (λ(a:Int)=>Kv j a) 0) λ(l:Unit)=>
 some 0
def DM(n1:Ad):Option (Int):=
 if((n1.ID<1)||(1073741824<n1.ID)) then(
 some 2
 ) else(
 if(((n1.Kind<0)||(13<=n1.Kind))||(!((decide (n1.ID=1))==(decide (n1.Kind=0))))) then(
 some 8
 ) else(
 AB (JN n1.Attrs) λ(w:Int)=>
 if(!(w=0)) then(
 some w
 ) else(
 AB (FJ n1.Kind) λ(l:Bool)=>
 AB (gd (l==false) (HW n1.Kind)) λ(m:Bool)=>
 AB (GM n1.Kind) λ(j:Bool)=>
 AB (
 if(((!(l||m))&&(0<(n1.Flow.length:Int)))==false) then(
 if((!j)==true) then(
 AB (MS n1.Grid (BJ.mk 0 0 [] [])) λ(A:Bool)=>
 AB (gd ((((!(l||m))&&(0<(n1.Flow.length:Int)))||((!j)&&(!A)))==false) (Hk n1.Kind)) λ(B:Bool)=>
 some ((((!(l||m))&&(0<(n1.Flow.length:Int)))||((!j)&&(!A)))||((!B)&&(0<(n1.Draw.length:Int))))
 ) else(
 AB (gd ((((!(l||m))&&(0<(n1.Flow.length:Int)))||((!j)&&false))==false) (Hk n1.Kind)) λ(C:Bool)=>
 some ((((!(l||m))&&(0<(n1.Flow.length:Int)))||((!j)&&false))||((!C)&&(0<(n1.Draw.length:Int))))
 )
 ) else(
 AB (gd ((((!(l||m))&&(0<(n1.Flow.length:Int)))||false)==false) (Hk n1.Kind)) λ(q:Bool)=>
 some ((((!(l||m))&&(0<(n1.Flow.length:Int)))||false)||((!q)&&(0<(n1.Draw.length:Int))))
 )
 ) λ(E:Bool)=>
 if E then(
 some 4
 ) else(
 if(l||m) then(
 AB (H4 n1.Flow l) λ(F:Int)=>
 some F
 ) else(
 if j then(
 AB (O2 n1.Grid) λ(e2:Int)=>
 if(!(e2=0)) then(
 some e2
 ) else(
 AB (Qc n1.Kind n1.Grid.Cells) λ(I:Int)=>
 some I
 )
 ) else(
 AB (Ld n1.Draw) λ(J:Int)=>
 some J
 )
 )
 )
 )
 )
 )
def Hw(w:List Aq)(q:Int)(j:List Int):Option ((Int × (List Int)) ⊕ (List Int)):=
 if(decide (q<(w.length:Int))) then(
 AB (
 AB (AO w q) λ(A:Aq)=>
 if(!(A.Ref=0)) then(
 AB (app 8 j [A.Ref]) λ(l:List Int)=>
 some l
 ) else(
 some j
 )
 ) λ(m:List Int)=>
 AB (AX .i64 (q+1)) λ(B:Int)=>
 some (.inl (B,m))
 ) else(
 some (.inr j)
 )
def MW(l:List Aq):Option ((List Int)):=
 AB (iter (λ(a:Int × (List Int))=>Hw l a.1 a.2) (0,[])) λ(j:List Int)=>
 some j
def E8(n1:Ad)(q:Int)(j:List Int):Option ((Int × (List Int)) ⊕ (List Int)):=
 if(decide (q<(n1.Grid.Cells.length:Int))) then(
 AB (
 AB (AO n1.Grid.Cells q) λ(w:Aw)=>
 if(!(w.Ref=0)) then(
 AB (app 8 j [w.Ref]) λ(l:List Int)=>
 some l
 ) else(
 some j
 )
 ) λ(m:List Int)=>
 AB (AX .i64 (q+1)) λ(A:Int)=>
 some (.inl (A,m))
 ) else(
 some (.inr j)
 )
def It(n1:Ad):Option ((List Int)):=
 AB (MW n1.Flow) λ(l:List Int)=>
 AB (iter (λ(a:Int × (List Int))=>E8 n1 a.1 a.2) (0,l)) λ(j:List Int)=>
 some j
def NG(n1:Ad)(j:Int):Option (Int):=
 if(decide (n1.ID<j)) then(
 some (-1)
 ) else(
 if(decide (j<n1.ID)) then(
 some 1
 ) else(
 some 0
 )
 )
def MC(A:List Ad)(j:Int)(l:Int)(m:Int):Option ((Int × Int) ⊕ Int):=
 if(decide (l<m)) then(
 AB (AX .i64 (l+m)) λ(q:Int)=>
 AB (AO A (IntKind.i64.wrap (Fh .u64 (IntKind.u64.wrap q) 1))) λ(B:Ad)=>
 AB (NG B j) λ(C:Int)=>
 if(decide (C<0)) then(
 AB (AX .i64 ((IntKind.i64.wrap (Fh .u64 (IntKind.u64.wrap q) 1))+1)) λ(w:Int)=>
 some (.inl (w,m))
 ) else(
 some (.inl (l,(IntKind.i64.wrap (Fh .u64 (IntKind.u64.wrap q) 1))))
 )
 ) else(
 some (.inr l)
 )
def S4(l:List Ad)(j:Int):Option (Int × Bool):=
 AB (iter (λ(a:Int × Int)=>MC l j a.1 a.2) (0,(l.length:Int))) λ(i8:Int)=>
 AB (gd ((decide (i8<(l.length:Int)))==true) (AO l i8)) λ(m:Ad)=>
 AB (gd ((decide (i8<(l.length:Int)))==true) (NG m j)) λ(q:Int)=>
 some (i8,((i8<(l.length:Int))&&(q=0)))
def Gb(d1:Ac)(j:Int):Option (Int × Bool):=
 B3 (S4 d1.Nodes j) λ(l:Int) (m:Bool)=>
 some (l,m)
def P6(l:List Int)(v1:Int)(j:Int):Option (Int ⊕ (A3 Unit Int)):=
 if(decide (j<(l.length:Int))) then(
 AB (AO l j) λ(m:Int)=>
 if(decide (v1=m)) then(
 some (.inr (.ext j))
 ) else(
 AB (AX .i64 (j+1)) λ(q:Int)=>
 some (.inl q)
 )
 ) else(
 some (.inr (.nrm ()))
 )
def Rh(j:List Int)(v1:Int):Option (Int):=
 A7 (iter (λ(a:Int)=>P6 j v1 a) 0) λ(l:Unit)=>
 some (-1)
def NP(j:List Int)(v1:Int):Option (Bool):=
 AB (Rh j v1) λ(l:Int)=>
 some (decide (0<=l))
def QE(j:Int)(l:Int):Option (Bool):=
 AB (
 if(decide (j=0)) then(
 some [1,6,7,10,11,12]
 ) else(
 if(decide (j=1)) then(
 some [2,4,5,10]
 ) else(
 if(decide (j=3)) then(
 some [4,5,10]
 ) else(
 AB (
 if(decide (j=4)) then(
 some (decide (j=4))
 ) else(
 some (decide (j=12))
 )
 ) λ(m:Bool)=>
 if m then(
 some [5]
 ) else(
 if(decide (j=2)) then(
 some [3]
 ) else(
 if(decide (j=7)) then(
 some [8,9]
 ) else(
 some []
 )
 )
 )
 )
 )
 )
 ) λ(q:List Int)=>
 AB (NP q l) λ(w:Bool)=>
 some w
def Ib(d1:Ac)(j:Int)(Ht:List Int)(l:Int):Option (Int ⊕ (A3 Unit Int)):=
 if(decide (l<(Ht.length:Int))) then(
 AB (AO Ht l) λ(m:Int)=>
 B3 (Gb d1 m) λ(q:Int) (w:Bool)=>
 if(!w) then(
 some (.inr (.ext 7))
 ) else(
 AB (AO d1.Nodes q) λ(A:Ad)=>
 AB (QE j A.Kind) λ(B:Bool)=>
 if(!B) then(
 some (.inr (.ext 8))
 ) else(
 AB (AX .i64 (l+1)) λ(C:Int)=>
 some (.inl C)
 )
 )
 ) else(
 some (.inr (.nrm ()))
 )
def Iv(d1:Ac)(j:Int)(Ht:List Int):Option (Int):=
 A7 (iter (λ(a:Int)=>Ib d1 j Ht a) 0) λ(l:Unit)=>
 some 0
def Ho(d1:Ac)(j:Int):Option (Int ⊕ (A3 Unit Int)):=
 if(decide (j<(d1.Nodes.length:Int))) then(
 AB (AO d1.Nodes j) λ(l:Ad)=>
 AB (It l) λ(q:List Int)=>
 AB (Iv d1 l.Kind q) λ(m:Int)=>
 if(!(m=0)) then(
 some (.inr (.ext m))
 ) else(
 AB (AX .i64 (j+1)) λ(w:Int)=>
 some (.inl w)
 )
 ) else(
 some (.inr (.nrm ()))
 )
def FK(d1:Ac)(j:Int):Option (Int ⊕ (A3 Unit Int)):=
 if(decide (j<(d1.Nodes.length:Int))) then(
 AB (AO d1.Nodes j) λ(l:Ad)=>
 AB (DM l) λ(e2:Int)=>
 if(!(e2=0)) then(
 some (.inr (.ext e2))
 ) else(
 AB (gd ((((j=0)&&(!(l.ID=1)))==false)&&((decide (0<j))==true)) (AX .i64 (j-1))) λ(m:Int)=>
 AB (gd ((((j=0)&&(!(l.ID=1)))==false)&&((decide (0<j))==true)) (AO d1.Nodes m)) λ(q:Ad)=>
 if(((j=0)&&(!(l.ID=1)))||((0<j)&&(l.ID<=q.ID))) then(
 some (.inr (.ext 5))
 ) else(
 AB (AX .i64 (j+1)) λ(w:Int)=>
 some (.inl w)
 )
 )
 ) else(
 some (.inr (.nrm ()))
 )
def Fa(d1:Ac):Option (Int):=
 if(decide ((d1.Nodes.length:Int)=0)) then(
 some 11
 ) else(
 A7 (iter (λ(a:Int)=>FK d1 a) 0) λ(j:Unit)=>
 A7 (iter (λ(a:Int)=>Ho d1 a) 0) λ(l:Unit)=>
 some 0
 )
def Kh(m:List Aw)(l:Int)(g2:BJ):Option ((Int × BJ) ⊕ BJ):=
 if(decide (l<(m.length:Int))) then(
 AB (AO g2.Cells l) λ(j:Aw)=>
 AB (app 32 [] j.Attrs) λ(q:List AH)=>
 AB (AX .i64 (l+1)) λ(w:Int)=>
 some (.inl (w,(BJ.mk g2.Rows g2.Cols (g2.Cells.set l.toNat (Aw.mk j.Row j.Col j.Text j.Ref q)) g2.Merges)))
 ) else(
 some (.inr g2)
 )
def Qn(n1:Ad):Option (Ad):=
 AB (app 32 [] n1.Attrs) λ(l:List AH)=>
 AB (P5 n1.Flow) λ(m:List Aq)=>
 AB (app 88 [] n1.Draw) λ(q:List BA)=>
 AB (app 32 [] n1.Grid.Merges) λ(w:List At)=>
 AB (app 64 [] n1.Grid.Cells) λ(j:List Aw)=>
 AB (iter (λ(a:Int × BJ)=>Kh j a.1 a.2) (0,(BJ.mk n1.Grid.Rows n1.Grid.Cols j w))) λ(g4:BJ)=>
 some (Ad.mk n1.ID n1.Kind l m g4 q)
def QV(d1:Ac)(l:Int)(j:Int):Option (Int ⊕ (A3 Unit Int)):=
 if(decide (j<(d1.Nodes.length:Int))) then(
 AB (AO d1.Nodes j) λ(m:Ad)=>
 if(decide (m.ID=l)) then(
 some (.inr (.ext j))
 ) else(
 AB (AX .i64 (j+1)) λ(q:Int)=>
 some (.inl q)
 )
 ) else(
 some (.inr (.nrm ()))
 )
def Gs(d1:Ac)(j:Int):Option (Int):=
 A7 (iter (λ(a:Int)=>QV d1 j a) 0) λ(l:Unit)=>
 some (-1)
end
noncomputable section
def I9(j:Int):Option (Bool):=
 some ((((j=1)||(j=3))||(j=4))||(j=12))
def Qm(j:Int)(l:Int):Option (Bool):=
 AB (
 if(decide (l=1)) then(
 some (decide (l=1))
 ) else(
 if(decide (l=6)) then(
 some (decide (l=6))
 ) else(
 if(decide (l=7)) then(
 some (decide (l=7))
 ) else(
 if(decide (l=11)) then(
 some (decide (l=11))
 ) else(
 some (decide (l=12))
 )
 )
 )
 )
 ) λ(m:Bool)=>
 if m then(
 some (decide (j=0))
 ) else(
 if(decide (l=10)) then(
 some (((j=0)||(j=1))||(j=3))
 ) else(
 if(decide (l=2)) then(
 some (decide (j=1))
 ) else(
 if(decide (l=4)) then(
 some ((j=1)||(j=3))
 ) else(
 if(decide (l=5)) then(
 AB (I9 j) λ(q:Bool)=>
 some q
 ) else(
 if(decide (l=3)) then(
 some (decide (j=2))
 ) else(
 AB (
 if(decide (l=8)) then(
 some (decide (l=8))
 ) else(
 some (decide (l=9))
 )
 ) λ(w:Bool)=>
 if w then(
 some (decide (j=7))
 ) else(
 some false
 )
 )
 )
 )
 )
 )
 )
def R9(j:Int):Option (Bool):=
 some ((j=0)||(j=7))
def P0(j:BJ):Option (Bool):=
 some ((((j.Rows=0)&&(j.Cols=0))&&((j.Cells.length:Int)=0))&&((j.Merges.length:Int)=0))
def PB(j:Int):Option (Bool):=
 some ((j=2)||(j=6))
def Td(j:Int):Option (Bool):=
 some (((j=8)||(j=9))||(j=10))
def S9(j:List UInt8):Option (Bool):=
 TG j
def GY(l:List UInt8)(j:(Nat)):Option ((Nat) ⊕ (A3 Unit Bool)):=
 if(decide (j<l.length)) then(
 AB (gd ((decide (((GE l j).1:Int)=10))==false) (Mz (IntKind.i64.wrap ((GE l j).1:Int)))) λ(m:Bool)=>
 if((((GE l j).1:Int)=10)||(!m)) then(
 some (.inr (.ext false))
 ) else(
 some (.inl (j+(GE l j).2))
 )
 ) else(
 some (.inr (.nrm ()))
 )
def OH(j:List UInt8):Option (Bool):=
 AB (S9 j) λ(l:Bool)=>
 if(!l) then(
 some false
 ) else(
 A7 (iter (λ(a:(Nat))=>GY j a) 0) λ(m:Unit)=>
 some true
 )
def O8(j:Aw):Option (Bool):=
 some (((j.Text=[])&&(j.Ref=0))&&((j.Attrs.length:Int)=0))
def Pp(B:List Aw)(q:Int)(w:Int)(l:Bool)(m:Int):Option (Int ⊕ (A3 Unit Int)):=
 if(decide (m<(B.length:Int))) then(
 AB (AO B m) λ(j:Aw)=>
 AB (AX .i64 (q-1)) λ(M:Int)=>
 AB (DB j.Row 0 M) λ(C:Bool)=>
 AB (gd ((!C)==false) (AX .i64 (w-1))) λ(O:Int)=>
 AB (gd ((!C)==false) (DB j.Col 0 O)) λ(I:Bool)=>
 AB (gd (((!C)||(!I))==false) (DB j.Ref 0 1073741824)) λ(T:Bool)=>
 if(((!C)||(!I))||(!T)) then(
 some (.inr (.ext 2))
 ) else(
 AB (OH j.Text) λ(U:Bool)=>
 if(!U) then(
 some (.inr (.ext 23))
 ) else(
 AB (LH j.Attrs false) λ(J:Int)=>
 if(!(J=0)) then(
 some (.inr (.ext J))
 ) else(
 AB (gd ((!l)==true) (O8 j)) λ(V:Bool)=>
 if((!l)&&V) then(
 some (.inr (.ext 4))
 ) else(
 AB (gd ((decide (0<m))==true) (AX .i64 (m-1))) λ(X:Int)=>
 AB (gd ((decide (0<m))==true) (AO B X)) λ(A:Aw)=>
 AB (gd ((((decide (0<m))==true)&&((decide (j.Row<A.Row))==false))&&((decide (j.Row=A.Row))==true)) (AX .i64 (m-1))) λ(Z:Int)=>
 AB (gd ((((decide (0<m))==true)&&((decide (j.Row<A.Row))==false))&&((decide (j.Row=A.Row))==true)) (AO B Z)) λ(E:Aw)=>
 if((0<m)&&((j.Row<A.Row)||((j.Row=A.Row)&&(j.Col<=E.Col)))) then(
 some (.inr (.ext 5))
 ) else(
 AB (AX .i64 (m+1)) λ(F:Int)=>
 some (.inl F)
 )
 )
 )
 )
 )
 ) else(
 some (.inr (.nrm ()))
 )
def Pt(q:List Aw)(j:Int)(l:Int)(m:Bool):Option (Int):=
 A7 (iter (λ(a:Int)=>Pp q j l m a) 0) λ(w:Unit)=>
 some 0
def Nt(q:At)(j:Int)(l:Int):Option (Bool):=
 AB (AX .i64 (j-1)) λ(B:Int)=>
 AB (DB q.Row 0 B) λ(m:Bool)=>
 AB (gd (m==true) (AX .i64 (l-1))) λ(C:Int)=>
 AB (gd (m==true) (DB q.Col 0 C)) λ(w:Bool)=>
 AB (gd ((m&&w)==true) (AX .i64 (j-q.Row))) λ(E:Int)=>
 AB (gd ((m&&w)==true) (DB q.H 1 E)) λ(A:Bool)=>
 AB (gd (((m&&w)&&A)==true) (AX .i64 (l-q.Col))) λ(F:Int)=>
 AB (gd (((m&&w)&&A)==true) (DB q.W 1 F)) λ(I:Bool)=>
 some (((m&&w)&&A)&&I)
def PW(j:At)(l:At):Option (Bool):=
 AB (AX .i64 (j.Row+j.H)) λ(m:Int)=>
 AB (AX .i64 (l.Row+l.H)) λ(q:Int)=>
 AB (gd ((decide ((max j.Row l.Row)<(min m q)))==true) (AX .i64 (j.Col+j.W))) λ(w:Int)=>
 AB (gd ((decide ((max j.Row l.Row)<(min m q)))==true) (AX .i64 (l.Col+l.W))) λ(A:Int)=>
 some (((max j.Row l.Row)<(min m q))&&((max j.Col l.Col)<(min w A)))
def Pn(q:BJ)(w:Int)(A:At)(j:Int):Option (Int ⊕ (A3 Unit (Int ⊕ (A3 Unit Int)))):=
 if(decide (j<w)) then(
 AB (AO q.Merges j) λ(l:At)=>
 AB (PW A l) λ(B:Bool)=>
 if B then(
 some (.inr (.ext (.inr (.ext 21))))
 ) else(
 AB (AX .i64 (j+1)) λ(m:Int)=>
 some (.inl m)
 )
 ) else(
 some (.inr (.nrm ()))
 )
def QH(m:BJ)(j:Int):Option (Int ⊕ (A3 Unit Int)):=
 if(decide (j<(m.Merges.length:Int))) then(
 AB (AO m.Merges j) λ(l:At)=>
 AB (Nt l m.Rows m.Cols) λ(A:Bool)=>
 if(!A) then(
 some (.inr (.ext 2))
 ) else(
 if((l.H=1)&&(l.W=1)) then(
 some (.inr (.ext 4))
 ) else(
 AB (gd ((decide (0<j))==true) (AX .i64 (j-1))) λ(B:Int)=>
 AB (gd ((decide (0<j))==true) (AO m.Merges B)) λ(q:At)=>
 AB (gd ((((decide (0<j))==true)&&((decide (l.Row<q.Row))==false))&&((decide (l.Row=q.Row))==true)) (AX .i64 (j-1))) λ(C:Int)=>
 AB (gd ((((decide (0<j))==true)&&((decide (l.Row<q.Row))==false))&&((decide (l.Row=q.Row))==true)) (AO m.Merges C)) λ(E:At)=>
 if((0<j)&&((l.Row<q.Row)||((l.Row=q.Row)&&(l.Col<=E.Col)))) then(
 some (.inr (.ext 5))
 ) else(
 A7 (iter (λ(a:Int)=>Pn m j l a) 0) λ(F:Unit)=>
 AB (AX .i64 (j+1)) λ(w:Int)=>
 some (.inl w)
 )
 )
 )
 ) else(
 some (.inr (.nrm ()))
 )
def P3(j:BJ):Option (Int):=
 AB (DB j.Rows 0 2147483647) λ(l:Bool)=>
 AB (gd ((!l)==false) (DB j.Cols 0 2147483647)) λ(q:Bool)=>
 if((!l)||(!q)) then(
 some 2
 ) else(
 AB (Pt j.Cells j.Rows j.Cols false) λ(m:Int)=>
 if(!(m=0)) then(
 some m
 ) else(
 A7 (iter (λ(a:Int)=>QH j a) 0) λ(w:Unit)=>
 some 0
 )
 )
def Nx(j:Int)(q:List Aw)(l:Int):Option (Int ⊕ (A3 Unit Int)):=
 if(decide (l<(q.length:Int))) then(
 AB (gd ((decide (j=2))==true) (AO q l)) λ(m:Aw)=>
 AB (gd ((((j=2)&&((!(m.Text=[]))||(0<(m.Attrs.length:Int))))==false)&&((decide (j=6))==true)) (AO q l)) λ(w:Aw)=>
 if(((j=2)&&((!(m.Text=[]))||(0<(m.Attrs.length:Int))))||((j=6)&&(!(w.Ref=0)))) then(
 some (.inr (.ext 4))
 ) else(
 AB (AX .i64 (l+1)) λ(A:Int)=>
 some (.inl A)
 )
 ) else(
 some (.inr (.nrm ()))
 )
def Oy(j:Int)(l:List Aw):Option (Int):=
 A7 (iter (λ(a:Int)=>Nx j l a) 0) λ(m:Unit)=>
 some 0
def Lu(m:List UInt8)(l:Int):Option (Int ⊕ (A3 Unit Bool)):=
 if(decide (l<(m.length:Int))) then(
 AB (AO m l) λ(j:UInt8)=>
 if(((j.toNat:Int)<97)||(122<(j.toNat:Int))) then(
 some (.inr (.ext false))
 ) else(
 AB (AX .i64 (l+1)) λ(q:Int)=>
 some (.inl q)
 )
 ) else(
 some (.inr (.nrm ()))
 )
def N4(j:List UInt8):Option (Bool):=
 A7 (iter (λ(a:Int)=>Lu j a) 0) λ(q:Unit)=>
 AB (gd (((1<=(j.length:Int))&&((j.length:Int)<=200))==true) (AX .i64 ((j.length:Int)-1))) λ(m:Int)=>
 AB (gd (((1<=(j.length:Int))&&((j.length:Int)<=200))==true) (AO j m)) λ(l:UInt8)=>
 some (((1<=(j.length:Int))&&((j.length:Int)<=200))&&(!((l.toNat:Int)=97)))
def MF(j:BA)(l:BA):Option (Bool):=
 some ((j.Clock<l.Clock)||((j.Clock=l.Clock)&&(j.Site<l.Site)))
def Oj(m:List BA)(l:Int):Option (Int ⊕ (A3 Unit Int)):=
 if(decide (l<(m.length:Int))) then(
 AB (AO m l) λ(j:BA)=>
 if((!(j.Kind=0))&&(!(j.Kind=1))) then(
 some (.inr (.ext 8))
 ) else(
 AB (DB j.Clock 1 1073741824) λ(q:Bool)=>
 AB (gd ((!q)==false) (DB j.Site 0 1000)) λ(w:Bool)=>
 AB (gd (((!q)||(!w))==false) (DB j.Item 1 1073741824)) λ(A:Bool)=>
 if(((!q)||(!w))||(!A)) then(
 some (.inr (.ext 2))
 ) else(
 A7 (
 if(decide (j.Kind=0)) then(
 if((!(j.Name=[]))||(!(j.Value=[]))) then(
 some (.ext (.inr (.ext 4)))
 ) else(
 AB (DB j.Parent (-1) 1073741824) λ(B:Bool)=>
 if(!B) then(
 some (.ext (.inr (.ext 2)))
 ) else(
 AB (N4 j.Place) λ(C:Bool)=>
 if(!C) then(
 some (.ext (.inr (.ext 9)))
 ) else(
 some (.nrm ())
 )
 )
 )
 ) else(
 if((!(j.Parent=0))||(!(j.Place=[]))) then(
 some (.ext (.inr (.ext 4)))
 ) else(
 AB (ME j.Name) λ(E:Bool)=>
 if(!E) then(
 some (.ext (.inr (.ext 9)))
 ) else(
 AB (gd ((!(j.Value=[]))==true) (Nd j.Value)) λ(F:Bool)=>
 if((!(j.Value=[]))&&(!F)) then(
 some (.ext (.inr (.ext 23)))
 ) else(
 some (.nrm ())
 )
 )
 )
 )
 ) λ(T:Unit)=>
 AB (gd ((decide (0<l))==true) (AX .i64 (l-1))) λ(I:Int)=>
 AB (gd ((decide (0<l))==true) (AO m I)) λ(J:BA)=>
 AB (gd ((decide (0<l))==true) (MF J j)) λ(M:Bool)=>
 if((0<l)&&(!M)) then(
 some (.inr (.ext 5))
 ) else(
 AB (AX .i64 (l+1)) λ(O:Int)=>
 some (.inl O)
 )
 )
 )
 ) else(
 some (.inr (.nrm ()))
 )
def OU(j:List BA):Option (Int):=
 A7 (iter (λ(a:Int)=>Oj j a) 0) λ(l:Unit)=>
 some 0
def OA(n1:Ad):Option (Int):=
 AB (DB n1.ID 1 1073741824) λ(E:Bool)=>
 if(!E) then(
 some 2
 ) else(
 AB (DB n1.Kind 0 12) λ(F:Bool)=>
 if(((!F)||((n1.ID=1)&&(!(n1.Kind=0))))||((!(n1.ID=1))&&(n1.Kind=0))) then(
 some 8
 ) else(
 AB (LH n1.Attrs false) λ(B:Int)=>
 if(!(B=0)) then(
 some B
 ) else(
 AB (I9 n1.Kind) λ(j:Bool)=>
 AB (gd (j==false) (R9 n1.Kind)) λ(l:Bool)=>
 AB (gd (((0<(n1.Flow.length:Int))&&(!(j||l)))==false) (P0 n1.Grid)) λ(m:Bool)=>
 AB (gd ((((0<(n1.Flow.length:Int))&&(!(j||l)))==false)&&((!m)==true)) (PB n1.Kind)) λ(C:Bool)=>
 AB (gd (((((0<(n1.Flow.length:Int))&&(!(j||l)))||((!m)&&(!C)))==false)&&((decide (0<(n1.Draw.length:Int)))==true)) (Td n1.Kind)) λ(I:Bool)=>
 if((((0<(n1.Flow.length:Int))&&(!(j||l)))||((!m)&&(!C)))||((0<(n1.Draw.length:Int))&&(!I))) then(
 some 4
 ) else(
 if(j||l) then(
 AB (KL n1.Flow j) λ(J:Int)=>
 some J
 ) else(
 AB (PB n1.Kind) λ(q:Bool)=>
 if q then(
 AB (P3 n1.Grid) λ(e2:Int)=>
 if(!(e2=0)) then(
 some e2
 ) else(
 AB (Oy n1.Kind n1.Grid.Cells) λ(w:Int)=>
 some w
 )
 ) else(
 AB (OU n1.Draw) λ(A:Int)=>
 some A
 )
 )
 )
 )
 )
 )
def Tz(n1:Ad)(q:Int)(j:List Int):Option ((Int × (List Int)) ⊕ (List Int)):=
 if(decide (q<(n1.Grid.Cells.length:Int))) then(
 AB (
 AB (AO n1.Grid.Cells q) λ(w:Aw)=>
 if(!(w.Ref=0)) then(
 AB (app 8 j [w.Ref]) λ(l:List Int)=>
 some l
 ) else(
 some j
 )
 ) λ(m:List Int)=>
 AB (AX .i64 (q+1)) λ(A:Int)=>
 some (.inl (A,m))
 ) else(
 some (.inr j)
 )
def R7(n1:Ad)(w:Int)(j:List Int):Option ((Int × (List Int)) ⊕ (List Int)):=
 if(decide (w<(n1.Flow.length:Int))) then(
 AB (
 AB (AO n1.Flow w) λ(q:Aq)=>
 if(!(q.Ref=0)) then(
 AB (app 8 j [q.Ref]) λ(l:List Int)=>
 some l
 ) else(
 some j
 )
 ) λ(m:List Int)=>
 AB (AX .i64 (w+1)) λ(A:Int)=>
 some (.inl (A,m))
 ) else(
 some (.inr j)
 )
def PL(n1:Ad):Option ((List Int)):=
 AB (iter (λ(a:Int × (List Int))=>R7 n1 a.1 a.2) (0,[])) λ(j:List Int)=>
 AB (iter (λ(a:Int × (List Int))=>Tz n1 a.1 a.2) (0,j)) λ(l:List Int)=>
 some l
def Mv(d1:Ac)(j:Int)(Ht:List Int)(l:Int):Option (Int ⊕ (A3 Unit Int)):=
 if(decide (l<(Ht.length:Int))) then(
 AB (AO Ht l) λ(q:Int)=>
 AB (Gs d1 q) λ(m:Int)=>
 if(decide (m<0)) then(
 some (.inr (.ext 7))
 ) else(
 AB (AO d1.Nodes m) λ(w:Ad)=>
 AB (Qm j w.Kind) λ(A:Bool)=>
 if(!A) then(
 some (.inr (.ext 8))
 ) else(
 AB (AX .i64 (l+1)) λ(B:Int)=>
 some (.inl B)
 )
 )
 ) else(
 some (.inr (.nrm ()))
 )
def PU(d1:Ac)(j:Int)(Ht:List Int):Option (Int):=
 A7 (iter (λ(a:Int)=>Mv d1 j Ht a) 0) λ(l:Unit)=>
 some 0
def Kq(d1:Ac)(j:Int):Option (Int ⊕ (A3 Unit Int)):=
 if(decide (j<(d1.Nodes.length:Int))) then(
 AB (AO d1.Nodes j) λ(l:Ad)=>
 AB (PL l) λ(q:List Int)=>
 AB (PU d1 l.Kind q) λ(m:Int)=>
 if(!(m=0)) then(
 some (.inr (.ext m))
 ) else(
 AB (AX .i64 (j+1)) λ(w:Int)=>
 some (.inl w)
 )
 ) else(
 some (.inr (.nrm ()))
 )
def NV(d1:Ac)(j:Int):Option (Int ⊕ (A3 Unit Int)):=
 if(decide (j<(d1.Nodes.length:Int))) then(
 AB (AO d1.Nodes j) λ(A:Ad)=>
 AB (OA A) λ(e2:Int)=>
 if(!(e2=0)) then(
 some (.inr (.ext e2))
 ) else(
 AB (gd ((decide (j=0))==true) (AO d1.Nodes 0)) λ(l:Ad)=>
 AB (gd ((((j=0)&&(!(l.ID=1)))==false)&&((decide (0<j))==true)) (AX .i64 (j-1))) λ(m:Int)=>
 AB (gd ((((j=0)&&(!(l.ID=1)))==false)&&((decide (0<j))==true)) (AO d1.Nodes m)) λ(q:Ad)=>
 if(((j=0)&&(!(l.ID=1)))||((0<j)&&(A.ID<=q.ID))) then(
 some (.inr (.ext 5))
 ) else(
 AB (AX .i64 (j+1)) λ(w:Int)=>
 some (.inl w)
 )
 )
 ) else(
 some (.inr (.nrm ()))
 )
def Pg(d1:Ac):Option (Int):=
 if(decide ((d1.Nodes.length:Int)=0)) then(
 some 11
 ) else(
 A7 (iter (λ(a:Int)=>NV d1 a) 0) λ(j:Unit)=>
 A7 (iter (λ(a:Int)=>Kq d1 a) 0) λ(l:Unit)=>
 some 0
 )
end
noncomputable section
def LM(w:BJ)(j:Int)(l:Int)(q:Int):Option (Int ⊕ (A3 Unit At)):=
 if(decide (q<(w.Merges.length:Int))) then(
 AB (AO w.Merges q) λ(m:At)=>
 AB (gd ((decide (m.Row<=j))==true) (AX .i64 (j-m.Row))) λ(A:Int)=>
 AB (gd ((((m.Row<=j)&&(A<m.H))&&(m.Col<=l))==true) (AX .i64 (l-m.Col))) λ(B:Int)=>
 if((((m.Row<=j)&&(A<m.H))&&(m.Col<=l))&&(B<m.W)) then(
 some (.inr (.ext m))
 ) else(
 AB (AX .i64 (q+1)) λ(C:Int)=>
 some (.inl C)
 )
 ) else(
 some (.inr (.nrm ()))
 )
def Hm(m:BJ)(j:Int)(l:Int):Option (At):=
 A7 (iter (λ(a:Int)=>LM m j l a) 0) λ(q:Unit)=>
 some (At.mk j l 1 1)
def Lr(A:BJ)(l:Int)(m:Int)(w:Int):Option (Int ⊕ (A3 Unit At)):=
 if(decide (w<(A.Merges.length:Int))) then(
 AB (AO A.Merges w) λ(j:At)=>
 AB (AX .i64 (j.Row+j.H)) λ(B:Int)=>
 AB (AX .i64 (B-1)) λ(C:Int)=>
 AB (DB l j.Row C) λ(q:Bool)=>
 AB (gd (q==true) (AX .i64 (j.Col+j.W))) λ(E:Int)=>
 AB (gd (q==true) (AX .i64 (E-1))) λ(F:Int)=>
 AB (gd (q==true) (DB m j.Col F)) λ(I:Bool)=>
 if(q&&I) then(
 some (.inr (.ext j))
 ) else(
 AB (AX .i64 (w+1)) λ(J:Int)=>
 some (.inl J)
 )
 ) else(
 some (.inr (.nrm ()))
 )
def Pe(m:BJ)(j:Int)(l:Int):Option (At):=
 A7 (iter (λ(a:Int)=>Lr m j l a) 0) λ(q:Unit)=>
 some (At.mk j l 1 1)
end
noncomputable section
structure mG where
 Node:Int
 From:Int
 To:Int
deriving DecidableEq
instance:Inhabited mG:=⟨⟨0,0,0⟩⟩
structure mS where
 node:Ad
 shown:List Int
 author:List UInt8
deriving DecidableEq
instance:Inhabited mS:=⟨⟨(Ad.mk 0 0 [] [] (BJ.mk 0 0 [] []) []),[],[]⟩⟩
def X2:Option (Bool):=
 some true
def gH:Option (Bool):=
 some true
def L0(d1:Ac)(j:Int):Option (Int):=
 B3 (Gb d1 j) λ(l:Int) (m:Bool)=>
 if m then(
 some l
 ) else(
 some (-1)
 )
end
noncomputable section
end
noncomputable section
structure AC where
 Item:Int
 Parent:Int
 Place:List UInt8
 Attrs:List AH
deriving DecidableEq
instance:Inhabited AC:=⟨⟨0,0,[],[]⟩⟩
@[reducible] def AC.row(x:AC):List RV:=[.int .i64 x.Item,.int .i64 x.Parent,.str x.Place,.sl (x.Attrs.map AH.row)]
end
noncomputable section
def Gq(m:List (Int × AC))(l:Int)(j:Int):Option (Int ⊕ (A3 Unit Bool)):=
 if(decide (0<j)) then(
 if(decide (j=l)) then(
 some (.inr (.ext true))
 ) else(
 if(!((AR m j).isSome)) then(
 some (.inr (.ext false))
 ) else(
 AB (AR m j) λ(q:AC)=>
 some (.inl q.Parent)
 )
 )
 ) else(
 some (.inr (.nrm ()))
 )
def OX(m:List (Int × AC))(m2:List (Int × (List AH)))(j:Int)(l:Int):Option (Bool):=
 A7 (iter (λ(a:Int)=>Gq m l a) j) λ(q:Unit)=>
 some false
def Jr(A:List BA)(q:Int)(m:List (Int × AC))(l:List (Int × (List AH))):Option ((Int × (List (Int × AC)) × (List (Int × (List AH)))) ⊕ ((List (Int × AC)) × (List (Int × (List AH))))):=
 if(decide (q<(A.length:Int))) then(
 B3 (
 AB (AO A q) λ(j:BA)=>
 if(decide (j.Kind=1)) then(
 AB (Mo ((AR l j.Item).getD []) [(AH.mk j.Name j.Value)]) λ(B:List AH)=>
 some (m,(Am l j.Item B))
 ) else(
 AB (OX m l j.Parent j.Item) λ(C:Bool)=>
 if(!C) then(
 some ((Am m j.Item (AC.mk j.Item j.Parent j.Place [])),l)
 ) else(
 some (m,l)
 )
 )
 ) λ(E:List (Int × AC)) (w:List (Int × (List AH)))=>
 AB (AX .i64 (q+1)) λ(F:Int)=>
 some (.inl (F,E,w))
 ) else(
 some (.inr (m,l))
 )
def NZ(j:List BA):Option ((List (Int × AC)) × (List (Int × (List AH)))):=
 B3 (iter (λ(a:Int × (List (Int × AC)) × (List (Int × (List AH))))=>Jr j a.1 a.2.1 a.2.2) (0,[],[])) λ(l:List (Int × AC)) (m:List (Int × (List AH)))=>
 some (l,m)
def PM(j:List UInt8):Option (Bool):=
 some (!(j=j))
def Qe(m:List UInt8)(q:List UInt8):Option (Int):=
 AB (PM m) λ(l:Bool)=>
 AB (PM q) λ(j:Bool)=>
 if l then(
 if j then(
 some 0
 ) else(
 some (-1)
 )
 ) else(
 if j then(
 some 1
 ) else(
 if(Ay m q) then(
 some (-1)
 ) else(
 if(!(Ay m q||(m=q))) then(
 some 1
 ) else(
 some 0
 )
 )
 )
 )
def Li(j:AC)(l:AC):Option (Int):=
 AB (Qe j.Place l.Place) λ(m:Int)=>
 AB (GK j.Item l.Item) λ(q:Int)=>
 AB (IY [m,q]) λ(w:Int)=>
 some w
def GJ(j:Int)(self:(List (Int × (List AC)))->(List AC)->(List (Int × Bool))->Int->Option ((List (Int × (List AC))) × (List AC) × (List (Int × Bool))))(A:List (Int × List AC))(l:Int)(o2:List AC)(m:List (Int × (List AC)))(w:List (Int × Bool)):Option ((Int × (List AC) × (List (Int × (List AC))) × (List (Int × Bool))) ⊕ (A3 Unit ((List (Int × (List AC))) × (List AC) × (List (Int × Bool))))):=
 if(decide (l<(((AR A j).getD []).length:Int))) then(
 AB (AO ((AR m j).getD []) l) λ(q:AC)=>
 AB (app 56 o2 [q]) λ(B:List AC)=>
 EQ (self m B (Am w q.Item true) q.Item) λ(C:List (Int × (List AC))) (E:List AC) (F:List (Int × Bool))=>
 AB (AX .i64 (l+1)) λ(I:Int)=>
 some (.inl (I,E,C,F))
 ) else(
 some (.inr (.ext (m,o2,w)))
 )
def KC(self:(List (Int × (List AC)))->(List AC)->(List (Int × Bool))->Int->Option ((List (Int × (List AC))) × (List AC) × (List (Int × Bool))))(m:List (Int × (List AC)))(q:List AC)(m2:List (Int × Bool))(j:Int):Option ((List (Int × (List AC))) × (List AC) × (List (Int × Bool))):=
 AB (Lg Li m j) λ(l:List (Int × List AC))=>
 A7 (iter (λ(a:Int × (List AC) × (List (Int × (List AC))) × (List (Int × Bool)))=>GJ j self l a.1 a.2.1 a.2.2.1 a.2.2.2) (0,q,l,m2)) λ(w:Unit)=>
 none
def Dv:Nat->(List (Int × (List AC)))->(List AC)->(List (Int × Bool))->Int->Option ((List (Int × (List AC))) × (List AC) × (List (Int × Bool)))
 | 0,_,_,_,_=>none
 | n+1,l,m,m2,j=>KC (λl m m2 j=>Dv n l m m2 j) l m m2 j
def QQ(l:List (Int × (List AC)))(m:List AC)(m2:List (Int × Bool))(j:Int):Option ((List (Int × (List AC))) × (List AC) × (List (Int × Bool))):=
 @dite _ (∃n r,Dv n l m m2 j=some r) (Classical.propDecidable _) (λh=>Dv h.choose l m m2 j) (λ_=>none)
def Oa(j:AC)(l:AC):Option (Int):=
 AB (GK j.Item l.Item) λ(m:Int)=>
 some m
def Hi(m:List (Int × (List AH)))(q:List AC)(A:List (Int × AC))(B:List (Int × (List AC)))(l:Int):Option ((List AC) × (List (Int × AC)) × (List (Int × (List AC)))):=
 AB (AR A l) λ(j:AC)=>
 AB (app 56 ((AR B ((AC.mk j.Item j.Parent j.Place ((AR m l).getD [])).Parent)).getD []) [(AC.mk j.Item j.Parent j.Place ((AR m l).getD []))]) λ(C:List AC)=>
 AB (app 56 q [(AC.mk j.Item j.Parent j.Place ((AR m l).getD []))]) λ(w:List AC)=>
 some (w,(Am A l (AC.mk j.Item j.Parent j.Place ((AR m l).getD []))),(Am B ((AC.mk j.Item j.Parent j.Place ((AR m l).getD [])).Parent) C))
def I4(A:List (Int × Bool))(q:List AC)(m:Int)(j:List AC):Option ((Int × (List AC)) ⊕ (List AC)):=
 if(decide (m<(q.length:Int))) then(
 AB (
 AB (AO q m) λ(w:AC)=>
 if(!((AR A w.Item).getD false)) then(
 AB (app 56 j [w]) λ(B:List AC)=>
 some B
 ) else(
 some j
 )
 ) λ(l:List AC)=>
 AB (AX .i64 (m+1)) λ(C:Int)=>
 some (.inl (C,l))
 ) else(
 some (.inr j)
 )
def OV(m:List BA):Option ((List AC)):=
 B3 (NZ m) λ(q:List (Int × AC)) (w:List (Int × (List AH)))=>
 NH (λ(a:(List AC) × (List (Int × AC)) × (List (Int × (List AC))))=>a.2.1.map (·.1)) (λ(a:(List AC) × (List (Int × AC)) × (List (Int × (List AC)))) (A:Int)=>Hi w a.1 a.2.1 a.2.2 A) ([],q,[]) λ(a:(List AC) × (List (Int × AC)) × (List (Int × (List AC))))=>
 EQ (some a) λ(j:List AC) (I:List (Int × AC)) (B:List (Int × (List AC)))=>
 EQ (QQ B [] ([]:List (Int × Bool)) 0) λ(J:List (Int × (List AC))) (C:List AC) (E:List (Int × Bool))=>
 AB (IA Oa j) λ(F:List AC)=>
 AB (iter (λ(a:Int × (List AC))=>I4 E F a.1 a.2) (0,C)) λ(l:List AC)=>
 some l
def Im(m:List AC)(j:Int)(l:Int):Option (Int ⊕ (A3 Unit Int)):=
 if(decide (l<(m.length:Int))) then(
 AB (AO m l) λ(q:AC)=>
 if(decide (q.Item=j)) then(
 some (.inr (.ext l))
 ) else(
 AB (AX .i64 (l+1)) λ(w:Int)=>
 some (.inl w)
 )
 ) else(
 some (.inr (.nrm ()))
 )
def I6(l:List AC)(j:Int):Option (Int):=
 A7 (iter (λ(a:Int)=>Im l j a) 0) λ(m:Unit)=>
 some (-1)
def Gw(m:List AC)(l:Int)(A:Int)(j:Int)(q:Int):Option ((Int × Int) ⊕ (A3 Unit Bool)):=
 if(decide (q<A)) then(
 if(decide (j=l)) then(
 some (.inr (.ext true))
 ) else(
 AB (I6 m j) λ(w:Int)=>
 if(decide (w<0)) then(
 some (.inr (.ext false))
 ) else(
 AB (AO m w) λ(B:AC)=>
 AB (AX .i64 (q+1)) λ(C:Int)=>
 some (.inl (B.Parent,C))
 )
 )
 ) else(
 some (.inr (.nrm ()))
 )
def MV(m:List AC)(j:Int)(l:Int):Option (Bool):=
 AB (AX .i64 ((m.length:Int)+1)) λ(q:Int)=>
 A7 (iter (λ(a:Int × Int)=>Gw m l q a.1 a.2) (j,0)) λ(w:Unit)=>
 some false
def J8(m:List AC)(l:List AC)(w:Int)(j:List AC):Option ((Int × (List AC)) ⊕ (List AC)):=
 if(decide (w<(m.length:Int))) then(
 AB (
 AB (AO j w) λ(A:AC)=>
 AB (I6 l A.Item) λ(B:Int)=>
 if(decide (0<=B)) then(
 AB (AO l B) λ(C:AC)=>
 some (j.set w.toNat (AC.mk A.Item A.Parent A.Place C.Attrs))
 ) else(
 some j
 )
 ) λ(q:List AC)=>
 AB (AX .i64 (w+1)) λ(E:Int)=>
 some (.inl (E,q))
 ) else(
 some (.inr j)
 )
def Jc(M:List BA)(I:Int)(j:List AC)(l:List AC):Option ((Int × (List AC) × (List AC)) ⊕ ((List AC) × (List AC))):=
 if(decide (I<(M.length:Int))) then(
 B3 (
 AB (AO M I) λ(m:BA)=>
 if(decide (m.Kind=1)) then(
 AB (I6 l m.Item) λ(O:Int)=>
 B3 (
 if(decide (O<0)) then(
 AB (app 56 l [(AC.mk m.Item 0 [] [])]) λ(C:List AC)=>
 some ((l.length:Int),C)
 ) else(
 some (O,l)
 )
 ) λ(T:Int) (w:List AC)=>
 AB (AO w T) λ(E:AC)=>
 AB (NQ E.Attrs [(AH.mk m.Name m.Value)]) λ(X:List AH)=>
 some (j,(w.set T.toNat (AC.mk E.Item E.Parent E.Place X)))
 ) else(
 AB (gd (((decide (m.Parent=m.Item))==false)&&((decide (0<m.Parent))==true)) (MV j m.Parent m.Item)) λ(Z:Bool)=>
 if((m.Parent=m.Item)||((0<m.Parent)&&Z)) then(
 some (j,l)
 ) else(
 AB (I6 j m.Item) λ(U:Int)=>
 B3 (
 if(decide (U<0)) then(
 AB (app 56 j [(AC.mk 0 0 [] [])]) λ(A:List AC)=>
 some ((j.length:Int),A)
 ) else(
 some (U,j)
 )
 ) λ(V:Int) (q:List AC)=>
 AB (AO q V) λ(a0:AC)=>
 some ((q.set V.toNat (AC.mk m.Item m.Parent m.Place [])),l)
 )
 )
 ) λ(B:List AC) (F:List AC)=>
 AB (AX .i64 (I+1)) λ(J:Int)=>
 some (.inl (J,B,F))
 ) else(
 some (.inr (j,l))
 )
def NM(q:List BA):Option ((List AC) × (List AC)):=
 B3 (iter (λ(a:Int × (List AC) × (List AC))=>Jc q a.1 a.2.1 a.2.2) (0,[],[])) λ(j:List AC) (l:List AC)=>
 AB (iter (λ(a:Int × (List AC))=>J8 j l a.1 a.2) (0,j)) λ(m:List AC)=>
 some (m,l)
def JH(B:List AC)(m:Int)(l:List UInt8)(w:Int)(j:Int)(C:Int):Option ((Int × Int) ⊕ Int):=
 if(decide (C<(B.length:Int))) then(
 AB (
 AB (AO B C) λ(q:AC)=>
 if(((!(q.Parent=m))||(Ay q.Place l))||((q.Place=l)&&(q.Item<=w))) then(
 some j
 ) else(
 AB (gd ((decide (j<0))==false) (AO B j)) λ(E:AC)=>
 AB (gd (((j<0)||(Ay q.Place E.Place))==false) (AO B j)) λ(F:AC)=>
 if(((j<0)||(Ay q.Place E.Place))||((q.Place=F.Place)&&(q.Item<F.Item))) then(
 some C
 ) else(
 some j
 )
 )
 ) λ(A:Int)=>
 AB (AX .i64 (C+1)) λ(I:Int)=>
 some (.inl (A,I))
 ) else(
 some (.inr j)
 )
def GC(B:List AC)(j:Int)(self:(List AC)->(List AC)->Int->Option (List AC))(m:List UInt8)(w:Int)(q:List AC):Option (((List UInt8) × Int × (List AC)) ⊕ (A3 Unit (List AC))):=
 AB (iter (λ(a:Int × Int)=>JH B j m w a.1 a.2) ((-1),0)) λ(l:Int)=>
 if(decide (l<0)) then(
 some (.inr (.ext q))
 ) else(
 AB (AO B l) λ(A:AC)=>
 AB (app 56 q [A]) λ(C:List AC)=>
 AB (self C B A.Item) λ(E:List AC)=>
 some (.inl (A.Place,A.Item,E))
 )
def Ju(self:(List AC)->(List AC)->Int->Option (List AC))(l:List AC)(m:List AC)(j:Int):Option ((List AC)):=
 A7 (iter (λ(a:(List UInt8) × Int × (List AC))=>GC m j self a.1 a.2.1 a.2.2) ([],0,l)) λ(q:Unit)=>
 none
def Dq:Nat->(List AC)->(List AC)->Int->Option (List AC)
 | 0,_,_,_=>none
 | n+1,l,m,j=>Ju (λl m j=>Dq n l m j) l m j
def QX(l:List AC)(m:List AC)(j:Int):Option ((List AC)):=
 @dite _ (∃n r,Dq n l m j=some r) (Classical.propDecidable _) (λh=>Dq h.choose l m j) (λ_=>none)
def LC(B:List AC)(E:List AC)(l:Int)(w:List AC)(j:Int)(A:Int):Option ((Int × Int) ⊕ Int):=
 if(decide (A<(B.length:Int))) then(
 AB (
 AB (AO B A) λ(q:AC)=>
 AB (gd ((decide (l<q.Item))==true) (Dl w 0 (E.length:Int))) λ(F:List AC)=>
 AB (gd ((decide (l<q.Item))==true) (I6 F q.Item)) λ(C:Int)=>
 AB (gd ((((l<q.Item)&&(C<0))==true)&&((decide (j<0))==false)) (AO B j)) λ(I:AC)=>
 if(((l<q.Item)&&(C<0))&&((j<0)||(q.Item<I.Item))) then(
 some A
 ) else(
 some j
 )
 ) λ(m:Int)=>
 AB (AX .i64 (A+1)) λ(J:Int)=>
 some (.inl (m,J))
 ) else(
 some (.inr j)
 )
def IZ(w:List AC)(A:List AC)(m:Int)(j:List AC):Option ((Int × (List AC)) ⊕ (A3 Unit ((List AC) × Int))):=
 AB (iter (λ(a:Int × Int)=>LC w A m j a.1 a.2) ((-1),0)) λ(l:Int)=>
 if(decide (l<0)) then(
 some (.inr (.ext (j,(A.length:Int))))
 ) else(
 AB (AO w l) λ(B:AC)=>
 AB (app 56 j [B]) λ(q:List AC)=>
 some (.inl (B.Item,q))
 )
def LZ(m:List BA):Option ((List AC) × Int):=
 B3 (NM m) λ(j:List AC) (q:List AC)=>
 AB (QX [] j 0) λ(l:List AC)=>
 A7 (iter (λ(a:Int × (List AC))=>IZ j l a.1 a.2) (0,l)) λ(w:Unit)=>
 none
def KA(j:List AC)(l:Int)(m2:List (Int × Bool)):Option ((Int × (List (Int × Bool))) ⊕ (A3 Unit Int)):=
 if(decide (l<(j.length:Int))) then(
 AB (AO j l) λ(m:AC)=>
 if(!((AR m2 m.Parent).getD false)) then(
 some (.inr (.ext l))
 ) else(
 AB (AX .i64 (l+1)) λ(q:Int)=>
 some (.inl (q,(Am m2 m.Item true)))
 )
 ) else(
 some (.inr (.nrm ()))
 )
def N0(j:List AC):Option (Int):=
 A7 (iter (λ(a:Int × (List (Int × Bool)))=>KA j a.1 a.2) (0,(Am ([]:List (Int × Bool)) 0 true))) λ(l:Unit)=>
 some (j.length:Int)
end
noncomputable section
end
noncomputable section
structure As where
 id:Int
 parent:Int
 visible:Bool
deriving DecidableEq
instance:Inhabited As:=⟨⟨0,0,false⟩⟩
structure Aj where
 ID:Int
 Parent:Int
 Visible:Bool
deriving DecidableEq
instance:Inhabited Aj:=⟨⟨0,0,false⟩⟩
@[reducible] def Aj.row(x:Aj):List RV:=[.int .i64 x.ID,.int .i64 x.Parent,.bool x.Visible]
def Ix(d1:Ac)(l:Int)(j:Ac):Option ((Int × Ac) ⊕ Ac):=
 if(decide (l<(d1.Nodes.length:Int))) then(
 AB (AO d1.Nodes l) λ(m:Ad)=>
 AB (Qn m) λ(q:Ad)=>
 AB (AO j.Nodes l) λ(A:Ad)=>
 AB (AX .i64 (l+1)) λ(w:Int)=>
 some (.inl (w,(Ac.mk (j.Nodes.set l.toNat q))))
 ) else(
 some (.inr j)
 )
def QK(d1:Ac):Option (Ac):=
 AB (mk 152 (d1.Nodes.length:Int) (Ad.mk 0 0 [] [] (BJ.mk 0 0 [] []) [])) λ(l:List Ad)=>
 AB (iter (λ(a:Int × Ac)=>Ix d1 a.1 a.2) (0,(Ac.mk l))) λ(j:Ac)=>
 some j
def M9(d1:Ac):Option (Ac):=
 AB (QK d1) λ(j:Ac)=>
 some j
def HL(l:List (List RV)->Option Bool)(j:List (List RV))(v1:As):Option (Bool × (List (List RV))):=
 AB (l (j++[[.int .i64 v1.id,.int .i64 v1.parent]])) λ(m:Bool)=>
 some (m,(j++[[.int .i64 v1.id,.int .i64 v1.parent]]))
def Jb(j:List UInt8):Option (Int × Bool):=
 atoiS j
def strconv_Itoa(n1:Int):Option (List UInt8):=
 itoaS n1
def IO(d1:Ac)(A:List AC)(q:Int)(j:List Int):Option ((Int × (List Int)) ⊕ (List Int)):=
 if(decide (q<(A.length:Int))) then(
 AB (
 AB (AO A q) λ(F:AC)=>
 AB (IS F.Attrs [110,111,100,101]) λ(B:List UInt8)=>
 B3 (Jb B) λ(w:Int) (C:Bool)=>
 AB (gd ((!C)==false) (strconv_Itoa w)) λ(I:List UInt8)=>
 if((!C)||(!(I=B))) then(
 some j
 ) else(
 B3 (Gb d1 w) λ(J:Int) (E:Bool)=>
 AB (gd (E==true) (AO d1.Nodes J)) λ(M:Ad)=>
 if(E&&(M.Kind=1)) then(
 AB (app 8 j [w]) λ(l:List Int)=>
 some l
 ) else(
 some j
 )
 )
 ) λ(m:List Int)=>
 AB (AX .i64 (q+1)) λ(O:Int)=>
 some (.inl (O,m))
 ) else(
 some (.inr j)
 )
def GT(d1:Ac)(n1:Ad):Option ((List Int)):=
 AB (OV n1.Draw) λ(l:List AC)=>
 AB (N0 l) λ(m:Int)=>
 AB (Dl l 0 m) λ(q:List AC)=>
 AB (iter (λ(a:Int × (List Int))=>IO d1 q a.1 a.2) (0,[])) λ(j:List Int)=>
 some j
def UL(E:List (List RV)->Option Bool)(F:Ac)(v1:As)(self:(List (List RV)->Option Bool)->(List (Int × Bool))->(List (List RV))->Ac->As->Option (Bool × (List (Int × Bool)) × (List (List RV))))(A:List Int)(m:Int)(l:List (Int × Bool))(j:List (List RV)):Option ((Int × (List (Int × Bool)) × (List (List RV))) ⊕ (A3 ((List (Int × Bool)) × (List (List RV))) (Bool × (List (Int × Bool)) × (List (List RV))))):=
 if(decide (m<(A.length:Int))) then(
 AB (AO A m) λ(q:Int)=>
 EQ (self E l j F (As.mk q v1.id v1.visible)) λ(I:Bool) (B:List (Int × Bool)) (C:List (List RV))=>
 if(!I) then(
 some (.inr (.ext (false,B,C)))
 ) else(
 AB (AX .i64 (m+1)) λ(w:Int)=>
 some (.inl (w,B,C))
 )
 ) else(
 some (.inr (.nrm (l,j)))
 )
def Wn(I:List (List RV)->Option Bool)(J:Ac)(v1:As)(self:(List (List RV)->Option Bool)->(List (Int × Bool))->(List (List RV))->Ac->As->Option (Bool × (List (Int × Bool)) × (List (List RV))))(w:Ad)(A:Int)(B:List (Int × Bool))(m:List (List RV)):Option ((Int × (List (Int × Bool)) × (List (List RV))) ⊕ (A3 ((List (Int × Bool)) × (List (List RV))) (Bool × (List (Int × Bool)) × (List (List RV))))):=
 if(decide (A<(w.Grid.Cells.length:Int))) then(
 AB (AO w.Grid.Cells A) λ(j:Aw)=>
 AB (Hm w.Grid j.Row j.Col) λ(F:At)=>
 EQ (
 if((!(j.Ref=0))==true) then(
 EQ (self I B m J (As.mk j.Ref v1.id ((v1.visible&&(F.Row=j.Row))&&(F.Col=j.Col)))) λ(M:Bool) (O:List (Int × Bool)) (T:List (List RV))=>
 some (((!(j.Ref=0))&&(!M)),O,T)
 ) else(
 some (((!(j.Ref=0))&&false),B,m)
 )
 ) λ(C:Bool) (q:List (Int × Bool)) (l:List (List RV))=>
 if C then(
 some (.inr (.ext (false,q,l)))
 ) else(
 AB (AX .i64 (A+1)) λ(E:Int)=>
 some (.inl (E,q,l))
 )
 ) else(
 some (.inr (.nrm (B,m)))
 )
def UO(E:List (List RV)->Option Bool)(F:Ac)(v1:As)(self:(List (List RV)->Option Bool)->(List (Int × Bool))->(List (List RV))->Ac->As->Option (Bool × (List (Int × Bool)) × (List (List RV))))(w:List Int)(l:Int)(A:List (Int × Bool))(j:List (List RV)):Option ((Int × (List (Int × Bool)) × (List (List RV))) ⊕ (A3 ((List (Int × Bool)) × (List (List RV))) (Bool × (List (Int × Bool)) × (List (List RV))))):=
 if(decide (l<(w.length:Int))) then(
 AB (AO w l) λ(m:Int)=>
 EQ (self E A j F (As.mk m v1.id v1.visible)) λ(I:Bool) (B:List (Int × Bool)) (C:List (List RV))=>
 if(!I) then(
 some (.inr (.ext (false,B,C)))
 ) else(
 AB (AX .i64 (l+1)) λ(q:Int)=>
 some (.inl (q,B,C))
 )
 ) else(
 some (.inr (.nrm (A,j)))
 )
def Tl(self:(List (List RV)->Option Bool)->(List (Int × Bool))->(List (List RV))->Ac->As->Option (Bool × (List (Int × Bool)) × (List (List RV))))(q:List (List RV)->Option Bool)(w:List (Int × Bool))(l:List (List RV))(j:Ac)(v1:As):Option (Bool × (List (Int × Bool)) × (List (List RV))):=
 if((AR w v1.id).getD false) then(
 some (true,w,l)
 ) else(
 B3 (HL q l v1) λ(I:Bool) (F:List (List RV))=>
 if(!I) then(
 some (false,(Am w v1.id true),F)
 ) else(
 B3 (Gb j v1.id) λ(J:Int) (V:Bool)=>
 AB (AO j.Nodes J) λ(A:Ad)=>
 AB (Lj A.Flow) λ(M:List Int)=>
 F9 (iter (λ(a:Int × (List (Int × Bool)) × (List (List RV)))=>UO q j v1 self M a.1 a.2.1 a.2.2) (0,(Am w v1.id true),F)) λ(O:List (Int × Bool)) (B:List (List RV))=>
 F9 (iter (λ(a:Int × (List (Int × Bool)) × (List (List RV)))=>Wn q j v1 self A a.1 a.2.1 a.2.2) (0,O,B)) λ(T:List (Int × Bool)) (C:List (List RV))=>
 AB (GT j A) λ(U:List Int)=>
 F9 (iter (λ(a:Int × (List (Int × Bool)) × (List (List RV)))=>UL q j v1 self U a.1 a.2.1 a.2.2) (0,T,C)) λ(E:List (Int × Bool)) (m:List (List RV))=>
 some (true,E,m)
 )
 )
def HK:Nat->(List (List RV)->Option Bool)->(List (Int × Bool))->(List (List RV))->Ac->As->Option (Bool × (List (Int × Bool)) × (List (List RV)))
 | 0,_,_,_,_,_=>none
 | n+1,l,m,j,q,v1=>Tl (λl m j q v1=>HK n l m j q v1) l m j q v1
def Sk(l:List (List RV)->Option Bool)(m:List (Int × Bool))(j:List (List RV))(q:Ac)(v1:As):Option (Bool × (List (Int × Bool)) × (List (List RV))):=
 @dite _ (∃n r,HK n l m j q v1=some r) (Classical.propDecidable _) (λh=>HK h.choose l m j q v1) (λ_=>none)
def P7(l:List (List RV)->Option Bool)(j:List (List RV))(d1:Ac):Option ((List (List RV))):=
 EQ (Sk l ([]:List (Int × Bool)) j d1 (As.mk 1 0 true)) λ(q:Bool) (w:List (Int × Bool)) (m:List (List RV))=>
 some m
def GO(m:List (List RV)->Option Bool)(j:List (List RV))(l:Ac):Option ((List (List RV))):=
 AB (Fa l) λ(q:Int)=>
 if(!(q=0)) then(
 some j
 ) else(
 AB (P7 m j l) λ(w:List (List RV))=>
 some w
 )
def Nh(m:List Aj)(l:Int)(j:Int):Option (Int ⊕ (A3 Unit Int)):=
 if(decide (j<(m.length:Int))) then(
 AB (AO m j) λ(q:Aj)=>
 if(decide (q.ID=l)) then(
 some (.inr (.ext j))
 ) else(
 AB (AX .i64 (j+1)) λ(w:Int)=>
 some (.inl w)
 )
 ) else(
 some (.inr (.nrm ()))
 )
def Qg(l:List Aj)(j:Int):Option (Int):=
 A7 (iter (λ(a:Int)=>Nh l j a) 0) λ(m:Unit)=>
 some (-1)
def HX(m:List UInt8)(q:Int)(l:Int):Option ((Int × Int) ⊕ (A3 Int Int)):=
 if(decide (l<(m.length:Int))) then(
 AB (AO m l) λ(j:UInt8)=>
 if(((j.toNat:Int)<48)||(57<(j.toNat:Int))) then(
 some (.inr (.ext (-1)))
 ) else(
 AB (AX .i64 (10 * q)) λ(w:Int)=>
 AB (AX .i64 (w+(IntKind.i64.wrap (IntKind.u8.wrap ((j.toNat:Int)-48))))) λ(A:Int)=>
 AB (AX .i64 (l+1)) λ(B:Int)=>
 some (.inl (A,B))
 )
 ) else(
 some (.inr (.nrm q))
 )
def Mm(j:List UInt8):Option (Int):=
 AB (gd (((j=[])||(10<(j.length:Int)))==false) (AO j 0)) λ(l:UInt8)=>
 if(((j=[])||(10<(j.length:Int)))||(((l.toNat:Int)=48)&&(1<(j.length:Int)))) then(
 some (-1)
 ) else(
 A7 (iter (λ(a:Int × Int)=>HX j a.1 a.2) (0,0)) λ(m:Int)=>
 some m
 )
def Fx(d1:Ac)(E:Aj)(self:(List Aj)->Ac->Aj->Option (List Aj))(F:List AC)(I:Int)(q:Int)(j:List Aj):Option ((Int × (List Aj)) ⊕ (List Aj)):=
 if(decide (q<I)) then(
 AB (
 AB (AO F q) λ(w:AC)=>
 AB (JS w.Attrs [110,111,100,101]) λ(J:List UInt8)=>
 AB (Mm J) λ(l:Int)=>
 AB (Gs d1 l) λ(A:Int)=>
 AB (gd (((0<l)&&(0<=A))==true) (AO d1.Nodes A)) λ(B:Ad)=>
 if(((0<l)&&(0<=A))&&(B.Kind=1)) then(
 AB (self j d1 (Aj.mk l E.ID E.Visible)) λ(M:List Aj)=>
 some M
 ) else(
 some j
 )
 ) λ(m:List Aj)=>
 AB (AX .i64 (q+1)) λ(C:Int)=>
 some (.inl (C,m))
 ) else(
 some (.inr j)
 )
def F4(d1:Ac)(B:Aj)(self:(List Aj)->Ac->Aj->Option (List Aj))(q:Ad)(w:Int)(l:List Aj):Option ((Int × (List Aj)) ⊕ (List Aj)):=
 if(decide (w<(q.Grid.Cells.length:Int))) then(
 AB (
 AB (AO q.Grid.Cells w) λ(j:Aw)=>
 if(!(j.Ref=0)) then(
 AB (Pe q.Grid j.Row j.Col) λ(C:At)=>
 AB (self l d1 (Aj.mk j.Ref B.ID ((B.Visible&&(C.Row=j.Row))&&(C.Col=j.Col)))) λ(E:List Aj)=>
 some E
 ) else(
 some l
 )
 ) λ(m:List Aj)=>
 AB (AX .i64 (w+1)) λ(A:Int)=>
 some (.inl (A,m))
 ) else(
 some (.inr l)
 )
def Fw(d1:Ac)(A:Aj)(self:(List Aj)->Ac->Aj->Option (List Aj))(B:Ad)(q:Int)(j:List Aj):Option ((Int × (List Aj)) ⊕ (List Aj)):=
 if(decide (q<(B.Flow.length:Int))) then(
 AB (
 AB (AO B.Flow q) λ(m:Aq)=>
 if(!(m.Ref=0)) then(
 AB (self j d1 (Aj.mk m.Ref A.ID A.Visible)) λ(C:List Aj)=>
 some C
 ) else(
 some j
 )
 ) λ(l:List Aj)=>
 AB (AX .i64 (q+1)) λ(w:Int)=>
 some (.inl (w,l))
 ) else(
 some (.inr j)
 )
def JU(self:(List Aj)->Ac->Aj->Option (List Aj))(j:List Aj)(d1:Ac)(q:Aj):Option ((List Aj)):=
 AB (Qg j q.ID) λ(C:Int)=>
 if(decide (0<=C)) then(
 some j
 ) else(
 AB (app 24 j [q]) λ(w:List Aj)=>
 AB (Gs d1 q.ID) λ(E:Int)=>
 AB (AO d1.Nodes E) λ(B:Ad)=>
 AB (iter (λ(a:Int × (List Aj))=>Fw d1 q self B a.1 a.2) (0,w)) λ(A:List Aj)=>
 AB (iter (λ(a:Int × (List Aj))=>F4 d1 q self B a.1 a.2) (0,A)) λ(l:List Aj)=>
 B3 (LZ B.Draw) λ(F:List AC) (I:Int)=>
 AB (iter (λ(a:Int × (List Aj))=>Fx d1 q self F I a.1 a.2) (0,l)) λ(m:List Aj)=>
 some m
 )
def CM:Nat->(List Aj)->Ac->Aj->Option (List Aj)
 | 0,_,_,_=>none
 | n+1,j,l,m=>JU (λj l m=>CM n j l m) j l m
def TI(j:List Aj)(d1:Ac)(l:Aj):Option ((List Aj)):=
 @dite _ (∃n r,CM n j d1 l=some r) (Classical.propDecidable _) (λh=>CM h.choose j d1 l) (λ_=>none)
def QL(d1:Ac):Option ((List Aj)):=
 AB (TI [] d1 (Aj.mk 1 0 true)) λ(j:List Aj)=>
 some j
end
noncomputable section
end
noncomputable section
structure Ag where
 Node:Int
 Span:FX
deriving DecidableEq
instance:Inhabited Ag:=⟨⟨0,(FX.mk 0 0)⟩⟩
@[reducible] def Ag.row(x:Ag):List RV:=[.int .i64 x.Node,.int .i64 x.Span.From,.int .i64 x.Span.To]
structure Ae where
 Remark:Int
 Replies:List Int
 Done:Bool
deriving DecidableEq
instance:Inhabited Ae:=⟨⟨0,[],false⟩⟩
@[reducible] def Ae.row(x:Ae):List RV:=[.int .i64 x.Remark,.sl (x.Replies.map (Ai .i64)),.bool x.Done]
def S5:Option (Bool):=
 some true
def N5(d1:Ac)(j:Int):Option (Int):=
 AB (Fa d1) λ(l:Int)=>
 if(!(l=0)) then(
 some l
 ) else(
 AB (L0 d1 j) λ(m:Int)=>
 if(decide (m<0)) then(
 some 7
 ) else(
 AB (AO d1.Nodes m) λ(q:Ad)=>
 if(!(q.Kind=12)) then(
 some 8
 ) else(
 some 0
 )
 )
 )
def QM(j:Int):Option ((List UInt8)):=
 AB (strconv_Itoa j) λ(l:List UInt8)=>
 AB (Gf [114,101,109,97,114,107,46] l) λ(m:List UInt8)=>
 some m
def L7(w:Int)(EV:Int)(E:Ad)(m:Int)(j:List Ag):Option ((Int × (List Ag)) ⊕ (A3 Unit (List Ag))):=
 if(decide (m<(E.Flow.length:Int))) then(
 AB (
 AB (AO E.Flow m) λ(I:Aq)=>
 AB (QM w) λ(J:List UInt8)=>
 AB (IS I.Attrs J) λ(M:List UInt8)=>
 if(!(M=[111,110])) then(
 some j
 ) else(
 AB (AX .i64 ((j.length:Int)-1)) λ(l:Int)=>
 AB (gd ((decide (0<=l))==true) (AO j l)) λ(F:Ag)=>
 AB (gd (((0<=l)&&(F.Node=EV))==true) (AO j l)) λ(O:Ag)=>
 if(((0<=l)&&(F.Node=EV))&&(O.Span.To=m)) then(
 AB (AO j l) λ(A:Ag)=>
 AB (AX .i64 (A.Span.To+1)) λ(B:Int)=>
 some (j.set l.toNat (Ag.mk A.Node (FX.mk A.Span.From B)))
 ) else(
 AB (AX .i64 (m+1)) λ(C:Int)=>
 AB (app 24 j [(Ag.mk EV (FX.mk m C))]) λ(T:List Ag)=>
 some T
 )
 )
 ) λ(q:List Ag)=>
 AB (AX .i64 (m+1)) λ(U:Int)=>
 some (.inl (U,q))
 ) else(
 some (.inr (.ext j))
 )
def I5(d1:Ac)(l:Int)(j:List Ag)(EV:Int)(A:Int):Option (List Ag):=
 AB (L0 d1 EV) λ(q:Int)=>
 AB (AO d1.Nodes q) λ(m:Ad)=>
 AB (FJ m.Kind) λ(w:Bool)=>
 if(!w) then(
 some j
 ) else(
 A7 (iter (λ(a:Int × (List Ag))=>L7 l EV m a.1 a.2) (0,j)) λ(B:Unit)=>
 none
 )
def KW(d1:Ac)(j:Int):Option ((List Ag) × Int):=
 AB (N5 d1 j) λ(m:Int)=>
 if(!(m=0)) then(
 some ([],m)
 ) else(
 AB (M9 d1) λ(q:Ac)=>
 AB (rng2 (λA=>GO A [] q) (λ(a:(List Ag))=>I5 d1 j a) []) λ(l:List Ag)=>
 some (l,0)
 )
def Ij(d1:Ac)(j:List Ae)(m2:List (Int × Int))(l:Int)(M:Int):Option ((List Ae) × (List (Int × Int))):=
 AB (L0 d1 l) λ(C:Int)=>
 AB (AO d1.Nodes C) λ(q:Ad)=>
 if(!(q.Kind=12)) then(
 some (j,m2)
 ) else(
 AB (IS q.Attrs [114,101,112,108,121]) λ(A:List UInt8)=>
 B3 (Jb A) λ(m:Int) (B:Bool)=>
 AB (gd (((AR m2 m).isSome&&B)==true) (strconv_Itoa m)) λ(E:List UInt8)=>
 if(((AR m2 m).isSome&&B)&&(E=A)) then(
 AB (AO j ((AR m2 m).getD 0)) λ(w:Ae)=>
 AB (app 8 w.Replies [l]) λ(F:List Int)=>
 some ((j.set ((AR m2 m).getD 0).toNat (Ae.mk w.Remark F w.Done)),(Am m2 l ((AR m2 m).getD 0)))
 ) else(
 AB (IS q.Attrs [100,111,110,101]) λ(I:List UInt8)=>
 AB (app 40 j [(Ae.mk l [] (decide (I=[111,110])))]) λ(J:List Ae)=>
 some (J,(Am m2 l (j.length:Int)))
 )
 )
def Kf(d1:Ac):Option ((List Ae) × Int):=
 AB (Fa d1) λ(l:Int)=>
 if(!(l=0)) then(
 some ([],l)
 ) else(
 AB (M9 d1) λ(m:Ac)=>
 B3 (rng2 (λA=>GO A [] m) (λ(a:(List Ae) × (List (Int × Int)))=>Ij d1 a.1 a.2) ([],[])) λ(j:List Ae) (q:List (Int × Int))=>
 some (j,0)
 )
def GI(m:Int)(j:List UInt8):Option ((Int × (List UInt8)) ⊕ (List UInt8)):=
 if((j=[])||(!(m=0))) then(
 AB (QT m 10) λ(q:Int)=>
 AB (AX .i64 (-q)) λ(w:Int)=>
 AB (AX .i64 (48+(max q w))) λ(A:Int)=>
 AB (Gf (FZ [(IntKind.u8.wrap A)]) j) λ(l:List UInt8)=>
 AB (Py .i64 m 10) λ(B:Int)=>
 some (.inl (B,l))
 ) else(
 some (.inr j)
 )
def Om(n1:Int):Option ((List UInt8)):=
 AB (
 if(decide (n1<0)) then(
 some [45]
 ) else(
 some []
 )
 ) λ(j:List UInt8)=>
 AB (iter (λ(a:Int × (List UInt8))=>GI a.1 a.2) (n1,[])) λ(l:List UInt8)=>
 AB (Gf j l) λ(m:List UInt8)=>
 some m
def JC(l:Int)(w:Ae)(j:Bool)(m:Int):Option ((Bool × Int) ⊕ Bool):=
 if(decide (m<(w.Replies.length:Int))) then(
 AB (gd (j==false) (AO w.Replies m)) λ(A:Int)=>
 AB (AX .i64 (m+1)) λ(q:Int)=>
 some (.inl ((j||(A=l)),q))
 ) else(
 some (.inr j)
 )
def Kx(q:List Ae)(n1:Ad)(j:Int)(m:Int):Option (Int ⊕ (A3 Unit (List Ae))):=
 if(decide (m<(q.length:Int))) then(
 AB (AO q m) λ(l:Ae)=>
 AB (iter (λ(a:Bool × Int)=>JC j l a.1 a.2) ((decide (l.Remark=j)),0)) λ(w:Bool)=>
 if w then(
 AB (app 8 l.Replies [n1.ID]) λ(A:List Int)=>
 some (.inr (.ext (q.set m.toNat (Ae.mk l.Remark A l.Done))))
 ) else(
 AB (AX .i64 (m+1)) λ(B:Int)=>
 some (.inl B)
 )
 ) else(
 some (.inr (.nrm ()))
 )
def Ov(l:List Ae)(n1:Ad):Option ((List Ae)):=
 AB (JS n1.Attrs [114,101,112,108,121]) λ(m:List UInt8)=>
 AB (Mm m) λ(j:Int)=>
 A7 (iter (λ(a:Int)=>Kx l n1 j a) 0) λ(A:Unit)=>
 AB (JS n1.Attrs [100,111,110,101]) λ(q:List UInt8)=>
 AB (app 40 l [(Ae.mk n1.ID [] (decide (q=[111,110])))]) λ(w:List Ae)=>
 some w
def IT(A:List Ae)(j:List Ae)(q:Int):Option (Int ⊕ (A3 Unit Bool)):=
 if(decide (q<(A.length:Int))) then(
 AB (AO j q) λ(l:Ae)=>
 AB (AO A q) λ(m:Ae)=>
 AB (gd (((!(m.Remark=l.Remark))||(!(m.Done==l.Done)))==false) (Qf m.Replies l.Replies)) λ(B:Bool)=>
 if(((!(m.Remark=l.Remark))||(!(m.Done==l.Done)))||(!B)) then(
 some (.inr (.ext false))
 ) else(
 AB (AX .i64 (q+1)) λ(w:Int)=>
 some (.inl w)
 )
 ) else(
 some (.inr (.nrm ()))
 )
def Ha(A:List Ag)(j:List Ag)(q:Int):Option (Int ⊕ (A3 Unit Bool)):=
 if(decide (q<(A.length:Int))) then(
 AB (AO A q) λ(l:Ag)=>
 AB (AO j q) λ(m:Ag)=>
 if(!((l.Node=m.Node)&&((l.Span.From=m.Span.From)&&((l.Span.To=m.Span.To)&&true)))) then(
 some (.inr (.ext false))
 ) else(
 AB (AX .i64 (q+1)) λ(w:Int)=>
 some (.inl w)
 )
 ) else(
 some (.inr (.nrm ()))
 )
def HU(I:Int)(w:Ad)(E:Bool)(l:Int)(j:List Ag):Option ((Bool × Int × (List Ag)) ⊕ (List Ag)):=
 if(decide (l<(w.Flow.length:Int))) then(
 AB (I9 w.Kind) λ(A:Bool)=>
 AB (gd (A==true) (AO w.Flow l)) λ(J:Aq)=>
 AB (gd (A==true) (Om I)) λ(U:List UInt8)=>
 AB (gd (A==true) (Gf [114,101,109,97,114,107,46] U)) λ(V:List UInt8)=>
 AB (gd (A==true) (JS J.Attrs V)) λ(B:List UInt8)=>
 AB (
 if((A&&(B=[111,110]))&&E) then(
 AB (AX .i64 ((j.length:Int)-1)) λ(F:Int)=>
 AB (AO j F) λ(C:Ag)=>
 AB (AX .i64 (C.Span.To+1)) λ(M:Int)=>
 some (j.set F.toNat (Ag.mk C.Node (FX.mk C.Span.From M)))
 ) else(
 if(A&&(B=[111,110])) then(
 AB (AX .i64 (l+1)) λ(O:Int)=>
 AB (app 24 j [(Ag.mk w.ID (FX.mk l O))]) λ(m:List Ag)=>
 some m
 ) else(
 some j
 )
 )
 ) λ(q:List Ag)=>
 AB (AX .i64 (l+1)) λ(T:Int)=>
 some (.inl ((A&&(B=[111,110])),T,q))
 ) else(
 some (.inr j)
 )
def Lm(d1:Ac)(B:Int)(t1:List Aj)(C:Int)(l:List Ag)(j:List Ae):Option ((Int × (List Ag) × (List Ae)) ⊕ ((List Ag) × (List Ae))):=
 if(decide (C<(t1.length:Int))) then(
 B3 (
 AB (AO t1 C) λ(E:Aj)=>
 AB (Gs d1 E.ID) λ(I:Int)=>
 AB (AO d1.Nodes I) λ(A:Ad)=>
 AB (iter (λ(a:Bool × Int × (List Ag))=>HU B A a.1 a.2.1 a.2.2) (false,0,l)) λ(m:List Ag)=>
 if(decide (A.Kind=12)) then(
 AB (Ov j A) λ(J:List Ae)=>
 some (m,J)
 ) else(
 some (m,j)
 )
 ) λ(w:List Ag) (q:List Ae)=>
 AB (AX .i64 (C+1)) λ(F:Int)=>
 some (.inl (F,w,q))
 ) else(
 some (.inr (l,j))
 )
def Sc(d1:Ac)(m:Int):Option (Bool):=
 AB (S5) λ(I:Bool)=>
 if(!I) then(
 some false
 ) else(
 B3 (KW d1 m) λ(q:List Ag) (w:Int)=>
 B3 (Kf d1) λ(B:List Ae) (C:Int)=>
 AB (Pg d1) λ(A:Int)=>
 if(!(A=0)) then(
 AB (gd (((w=A)&&(C=A))==true) (AX .i64 ((q.length:Int)+(B.length:Int)))) λ(J:Int)=>
 some (((w=A)&&(C=A))&&(J=0))
 ) else(
 AB (QL d1) λ(M:List Aj)=>
 B3 (iter (λ(a:Int × (List Ag) × (List Ae))=>Lm d1 m M a.1 a.2.1 a.2.2) (0,[],[])) λ(l:List Ag) (j:List Ae)=>
 AB (Gs d1 m) λ(F:Int)=>
 A7 (
 if(decide (F<0)) then(
 if((!(w=7))||(!((q.length:Int)=0))) then(
 some (.ext false)
 ) else(
 some (.nrm ())
 )
 ) else(
 AB (AO d1.Nodes F) λ(E:Ad)=>
 if(!(E.Kind=12)) then(
 if((!(w=8))||(!((q.length:Int)=0))) then(
 some (.ext false)
 ) else(
 some (.nrm ())
 )
 ) else(
 if((!(w=0))||(!((q.length:Int)=(l.length:Int)))) then(
 some (.ext false)
 ) else(
 some (.nrm ())
 )
 )
 )
 ) λ(O:Unit)=>
 A7 (iter (λ(a:Int)=>Ha q l a) 0) λ(T:Unit)=>
 if((!(C=0))||(!((B.length:Int)=(j.length:Int)))) then(
 some false
 ) else(
 A7 (iter (λ(a:Int)=>IT B j a) 0) λ(U:Unit)=>
 some true
 )
 )
 )
end
end Go.Proofs.YtcgleifameckmaaGreatDoor.Al
