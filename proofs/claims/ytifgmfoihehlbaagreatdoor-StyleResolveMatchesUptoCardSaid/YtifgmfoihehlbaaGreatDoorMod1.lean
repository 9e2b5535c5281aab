/- Models, as printed. -/
import Derived.Test.YtifgmfoihehlbaaGreatDoorAl3
set_option linter.all false
namespace Go.Proofs.YtifgmfoihehlbaaGreatDoor.Al
noncomputable section
structure LM where
 Kind:Int
 N:Int
deriving DecidableEq
instance:Inhabited LM:=⟨⟨0,0⟩⟩
structure fx where
 steps:List LM
 used:Int
deriving DecidableEq
instance:Inhabited fx:=⟨⟨[],0⟩⟩
structure WU where
 out:List LM
 add:Int
 cut:Int
deriving DecidableEq
instance:Inhabited WU:=⟨⟨[],0,0⟩⟩
structure AC where
 Name:List UInt8
 Value:List UInt8
deriving DecidableEq
instance:Inhabited AC:=⟨⟨[],[]⟩⟩
@[reducible] def AC.row(x:AC):List RV:=[.str x.Name,.str x.Value]
structure AL where
 Char:Int
 Ref:Int
 Attrs:List AC
deriving DecidableEq
instance:Inhabited AL:=⟨⟨0,0,[]⟩⟩
@[reducible] def AL.row(x:AL):List RV:=[.int .i64 x.Char,.int .i64 x.Ref,.sl (x.Attrs.map AC.row)]
structure Aj where
 Row:Int
 Col:Int
 Text:List UInt8
 Ref:Int
 Attrs:List AC
deriving DecidableEq
instance:Inhabited Aj:=⟨⟨0,0,[],0,[]⟩⟩
@[reducible] def Aj.row(x:Aj):List RV:=[.int .i64 x.Row,.int .i64 x.Col,.str x.Text,.int .i64 x.Ref,.sl (x.Attrs.map AC.row)]
structure Ai where
 Row:Int
 Col:Int
 H:Int
 W:Int
deriving DecidableEq
instance:Inhabited Ai:=⟨⟨0,0,0,0⟩⟩
@[reducible] def Ai.row(x:Ai):List RV:=[.int .i64 x.Row,.int .i64 x.Col,.int .i64 x.H,.int .i64 x.W]
structure Ar where
 Rows:Int
 Cols:Int
 Cells:List Aj
 Merges:List Ai
deriving DecidableEq
instance:Inhabited Ar:=⟨⟨0,0,[],[]⟩⟩
@[reducible] def Ar.row(x:Ar):List RV:=[.int .i64 x.Rows,.int .i64 x.Cols,.sl (x.Cells.map Aj.row),.sl (x.Merges.map Ai.row)]
structure Ax where
 Clock:Int
 Site:Int
 Kind:Int
 Item:Int
 Parent:Int
 Place:List UInt8
 Name:List UInt8
 Value:List UInt8
deriving DecidableEq
instance:Inhabited Ax:=⟨⟨0,0,0,0,0,[],[],[]⟩⟩
@[reducible] def Ax.row(x:Ax):List RV:=[.int .i64 x.Clock,.int .i64 x.Site,.int .i64 x.Kind,.int .i64 x.Item,.int .i64 x.Parent,.str x.Place,.str x.Name,.str x.Value]
structure AI where
 ID:Int
 Kind:Int
 Attrs:List AC
 Flow:List AL
 Grid:Ar
 Draw:List Ax
deriving DecidableEq
instance:Inhabited AI:=⟨⟨0,0,[],[],(Ar.mk 0 0 [] []),[]⟩⟩
@[reducible] def AI.row(x:AI):List RV:=[.int .i64 x.ID,.int .i64 x.Kind,.sl (x.Attrs.map AC.row),.sl (x.Flow.map AL.row),.int .i64 x.Grid.Rows,.int .i64 x.Grid.Cols,.sl (x.Grid.Cells.map Aj.row),.sl (x.Grid.Merges.map Ai.row),.sl (x.Draw.map Ax.row)]
structure GStep where
 Kind:Int
 N:Int
 Attrs:List AC
 Elems:List AL
deriving DecidableEq
instance:Inhabited GStep:=⟨⟨0,0,[],[]⟩⟩
structure M8 where
 Rows:List LM
 Cols:List LM
 Cells:List Aj
 Split:List Ai
 Merge:List Ai
deriving DecidableEq
instance:Inhabited M8:=⟨⟨[],[],[],[],[]⟩⟩
structure Ye where
 Kind:Int
 Node:Int
 New:AI
 Attrs:List AC
 Steps:List GStep
 Grid:M8
 Draw:List Ax
deriving DecidableEq
instance:Inhabited Ye:=⟨⟨0,0,(AI.mk 0 0 [] [] (Ar.mk 0 0 [] []) []),[],[],(M8.mk [] [] [] [] []),[]⟩⟩
structure nk where
 Site:Int
 Number:Int
 Change:List Ye
 Undoes:Int
 Refused:Int
deriving DecidableEq
instance:Inhabited nk:=⟨⟨0,0,[],0,0⟩⟩
structure d7 where
 From:Int
 To:Int
deriving DecidableEq
instance:Inhabited d7:=⟨⟨0,0⟩⟩
def Cy(m:Int)(l:Int)(j:Int):Option (Bool):=
 some ((l≤m)&&(m≤j))
def Lo(m:List UInt8)(l:Int):Option (Int ⊕ (As Unit Bool)):=
 if(decide (l<(m.length:Int))) then(
 AB (AM m l) λ(j:UInt8)=>
 if((((((j.toNat:Int)<97)||(122<(j.toNat:Int)))&&(((j.toNat:Int)<48)||(57<(j.toNat:Int))))&&(!((j.toNat:Int)=46)))&&(!((j.toNat:Int)=45))) then(
 some (.inr (.ext false))
 ) else(
 AB (AS .i64 (l+1)) λ(q:Int)=>
 some (.inl q)
 )
 ) else(
 some (.inr (.nrm ()))
 )
def Jy(j:List UInt8):Option (Bool):=
 AB (gd (((j=[])||(24<(j.length:Int)))==false) (AM j 0)) λ(l:UInt8)=>
 AB (gd ((((j=[])||(24<(j.length:Int)))||((l.toNat:Int)<97))==false) (AM j 0)) λ(m:UInt8)=>
 if((((j=[])||(24<(j.length:Int)))||((l.toNat:Int)<97))||(122<(m.toNat:Int))) then(
 some false
 ) else(
 Az (iter (λ(a:Int)=>Lo j a) 0) λ(q:Unit)=>
 some true
 )
def ND(m:List UInt8)(l:Int):Option (Int ⊕ (As Unit Bool)):=
 if(decide (l<(m.length:Int))) then(
 AB (AM m l) λ(j:UInt8)=>
 if(((j.toNat:Int)<32)||(126<(j.toNat:Int))) then(
 some (.inr (.ext false))
 ) else(
 AB (AS .i64 (l+1)) λ(q:Int)=>
 some (.inl q)
 )
 ) else(
 some (.inr (.nrm ()))
 )
def L2(j:List UInt8):Option (Bool):=
 if((j=[])||(200<(j.length:Int))) then(
 some false
 ) else(
 Az (iter (λ(a:Int)=>ND j a) 0) λ(l:Unit)=>
 some true
 )
def Li(q:List AC)(j:Bool)(l:Int):Option (Int ⊕ (As Unit Int)):=
 if(decide (l<(q.length:Int))) then(
 AB (AM q l) λ(m:AC)=>
 AB (Jy m.Name) λ(A:Bool)=>
 if(!A) then(
 some (.inr (.ext 9))
 ) else(
 AB (L2 m.Value) λ(B:Bool)=>
 if((!B)&&(!(j&&(m.Value=[])))) then(
 some (.inr (.ext 23))
 ) else(
 AB (gd ((decide (0<l))==true) (AS .i64 (l-1))) λ(C:Int)=>
 AB (gd ((decide (0<l))==true) (AM q C)) λ(w:AC)=>
 if((0<l)&&(Au m.Name w.Name||(m.Name=w.Name))) then(
 some (.inr (.ext 5))
 ) else(
 AB (AS .i64 (l+1)) λ(E:Int)=>
 some (.inl E)
 )
 )
 )
 ) else(
 some (.inr (.nrm ()))
 )
def NC(l:List AC)(j:Bool):Option (Int):=
 Az (iter (λ(a:Int)=>Li l j a) 0) λ(m:Unit)=>
 some 0
def Gu(j:List AC):Option (Int):=
 AB (NC j false) λ(l:Int)=>
 some l
def KR(j:List AC)(m:AC)(l:AC):Option ((List AC)):=
 if(decide (l.Name=[])) then(
 AB (app 32 j [m]) λ(q:List AC)=>
 some q
 ) else(
 if(!(l.Value=[])) then(
 AB (app 32 j [l]) λ(w:List AC)=>
 some w
 ) else(
 some j
 )
 )
def PW(l:List AC)(q:List AC)(j:Int)(m:Int)(o2:List AC):Option ((Int × Int × (List AC)) ⊕ (As Unit (List AC))):=
 if((j<(l.length:Int))||(m<(q.length:Int))) then(
 AB (gd (((decide (m=(q.length:Int)))==false)&&((decide (j<(l.length:Int)))==true)) (AM l j)) λ(A:AC)=>
 AB (gd (((decide (m=(q.length:Int)))==false)&&((decide (j<(l.length:Int)))==true)) (AM q m)) λ(B:AC)=>
 if((m=(q.length:Int))||((j<(l.length:Int))&&(Au A.Name B.Name))) then(
 AB (AM l j) λ(C:AC)=>
 AB (KR o2 C (AC.mk [] [])) λ(E:List AC)=>
 AB (AS .i64 (j+1)) λ(F:Int)=>
 some (.inl (F,m,E))
 ) else(
 AB (gd ((decide (j=(l.length:Int)))==false) (AM q m)) λ(I:AC)=>
 AB (gd ((decide (j=(l.length:Int)))==false) (AM l j)) λ(J:AC)=>
 if((j=(l.length:Int))||(Au I.Name J.Name)) then(
 AB (AM q m) λ(M:AC)=>
 AB (KR o2 (AC.mk [] []) M) λ(O:List AC)=>
 AB (AS .i64 (m+1)) λ(T:Int)=>
 some (.inl (j,T,O))
 ) else(
 AB (AM l j) λ(U:AC)=>
 AB (AM q m) λ(V:AC)=>
 AB (KR o2 U V) λ(X:List AC)=>
 AB (AS .i64 (j+1)) λ(w:Int)=>
 AB (AS .i64 (m+1)) λ(Z:Int)=>
 some (.inl (w,Z,X))
 )
 )
 ) else(
 some (.inr (.ext o2))
 )
def OK(j:List AC)(l:List AC)(m:List AC):Option ((List AC)):=
 Az (iter (λ(a:Int × Int × (List AC))=>PW l m a.1 a.2.1 a.2.2) (0,0,j)) λ(q:Unit)=>
 none
def GE(l:List AC)(j:List AC):Option ((List AC)):=
 AB (OK [] l j) λ(m:List AC)=>
 some m
def OV(l:List AC)(w:List AC)(j:Int):Option (Int ⊕ (As Unit Bool)):=
 if(decide (j<(l.length:Int))) then(
 AB (AM l j) λ(m:AC)=>
 AB (AM w j) λ(q:AC)=>
 if(!((m.Name=q.Name)&&((m.Value=q.Value)&&true))) then(
 some (.inr (.ext false))
 ) else(
 AB (AS .i64 (j+1)) λ(A:Int)=>
 some (.inl A)
 )
 ) else(
 some (.inr (.nrm ()))
 )
def GH(j:List AC)(l:List AC):Option (Bool):=
 if(!((j.length:Int)=(l.length:Int))) then(
 some false
 ) else(
 Az (iter (λ(a:Int)=>OV j l a) 0) λ(m:Unit)=>
 some true
 )
def MF(m:List UInt8)(l:Int):Option (Int ⊕ (As Unit Bool)):=
 if(decide (l<(m.length:Int))) then(
 AB (AM m l) λ(j:UInt8)=>
 if((!((97≤(j.toNat:Int))&&((j.toNat:Int)≤122)))&&((l=0)||(((!((j.toNat:Int)=46))&&(!((j.toNat:Int)=45)))&&(((j.toNat:Int)<48)||(57<(j.toNat:Int)))))) then(
 some (.inr (.ext false))
 ) else(
 AB (AS .i64 (l+1)) λ(q:Int)=>
 some (.inl q)
 )
 ) else(
 some (.inr (.nrm ()))
 )
def JR(j:List UInt8):Option (Bool):=
 Az (iter (λ(a:Int)=>MF j a) 0) λ(l:Unit)=>
 some ((1≤(j.length:Int))&&((j.length:Int)≤24))
def Nv(m:List UInt8)(l:Int):Option (Int ⊕ (As Unit Bool)):=
 if(decide (l<(m.length:Int))) then(
 AB (AM m l) λ(j:UInt8)=>
 if(((j.toNat:Int)<32)||(126<(j.toNat:Int))) then(
 some (.inr (.ext false))
 ) else(
 AB (AS .i64 (l+1)) λ(q:Int)=>
 some (.inl q)
 )
 ) else(
 some (.inr (.nrm ()))
 )
def Lq(j:List UInt8):Option (Bool):=
 Az (iter (λ(a:Int)=>Nv j a) 0) λ(l:Unit)=>
 some ((1≤(j.length:Int))&&((j.length:Int)≤200))
def Ml(q:List AC)(j:Bool)(l:Int):Option (Int ⊕ (As Unit Int)):=
 if(decide (l<(q.length:Int))) then(
 AB (AM q l) λ(m:AC)=>
 AB (JR m.Name) λ(w:Bool)=>
 if(!w) then(
 some (.inr (.ext 9))
 ) else(
 AB (Lq m.Value) λ(A:Bool)=>
 if((!A)&&((!(m.Value=[]))||(!j))) then(
 some (.inr (.ext 23))
 ) else(
 AB (gd ((decide (0<l))==true) (AS .i64 (l-1))) λ(B:Int)=>
 AB (gd ((decide (0<l))==true) (AM q B)) λ(C:AC)=>
 if((0<l)&&(!Au C.Name m.Name)) then(
 some (.inr (.ext 5))
 ) else(
 AB (AS .i64 (l+1)) λ(E:Int)=>
 some (.inl E)
 )
 )
 )
 ) else(
 some (.inr (.nrm ()))
 )
def Ja(l:List AC)(j:Bool):Option (Int):=
 Az (iter (λ(a:Int)=>Ml l j a) 0) λ(m:Unit)=>
 some 0
def On(m:List AC)(j:List UInt8)(l:Int):Option (Int ⊕ (As Unit (List UInt8))):=
 if(decide (l<(m.length:Int))) then(
 AB (AM m l) λ(q:AC)=>
 if(decide (q.Name=j)) then(
 some (.inr (.ext q.Value))
 ) else(
 AB (AS .i64 (l+1)) λ(w:Int)=>
 some (.inl w)
 )
 ) else(
 some (.inr (.nrm ()))
 )
def FP(l:List AC)(j:List UInt8):Option ((List UInt8)):=
 Az (iter (λ(a:Int)=>On l j a) 0) λ(m:Unit)=>
 some []
def NY(m:List AC)(j:List UInt8)(l:Int):Option (Int ⊕ (As Unit (List UInt8))):=
 if(decide (l<(m.length:Int))) then(
 AB (AM m l) λ(q:AC)=>
 if(decide (q.Name=j)) then(
 some (.inr (.ext q.Value))
 ) else(
 AB (AS .i64 (l+1)) λ(w:Int)=>
 some (.inl w)
 )
 ) else(
 some (.inr (.nrm ()))
 )
def Fb(l:List AC)(j:List UInt8):Option ((List UInt8)):=
 Az (iter (λ(a:Int)=>NY l j a) 0) λ(m:Unit)=>
 some []
def Nj(F:List AC)(I:AC)(j:Bool)(E:Int)(l:List AC):Option ((Bool × Int × (List AC)) ⊕ (Bool × (List AC))):=
 if(decide (E<(F.length:Int))) then(
 CT (
 AB (gd ((!j)==true) (AM F E)) λ(M:AC)=>
 CT (
 if((!j)&&(!Au M.Name I.Name)) then(
 AB (app 32 l [I]) λ(w:List AC)=>
 some (true,w)
 ) else(
 some (j,l)
 )
 ) λ(m:Bool) (q:List AC)=>
 AB (AM F E) λ(J:AC)=>
 if(!(J.Name=I.Name)) then(
 AB (app 32 q [J]) λ(B:List AC)=>
 some (m,B)
 ) else(
 some (m,q)
 )
 ) λ(A:Bool) (C:List AC)=>
 AB (AS .i64 (E+1)) λ(O:Int)=>
 some (.inl (A,O,C))
 ) else(
 some (.inr (j,l))
 )
def Ir(A:List AC)(w:AC):Option ((List AC)):=
 CT (iter (λ(a:Bool × Int × (List AC))=>Nj A w a.1 a.2.1 a.2.2) (false,0,[])) λ(l:Bool) (j:List AC)=>
 AB (
 if(!l) then(
 AB (app 32 j [w]) λ(m:List AC)=>
 some m
 ) else(
 some j
 )
 ) λ(q:List AC)=>
 some q
def OP(l:List AC)(A:Int)(j:List AC):Option ((Int × (List AC)) ⊕ (List AC)):=
 if(decide (A<(l.length:Int))) then(
 AB (
 AB (AM l A) λ(w:AC)=>
 if(!(w.Value=[])) then(
 AB (app 32 j [w]) λ(m:List AC)=>
 some m
 ) else(
 some j
 )
 ) λ(q:List AC)=>
 AB (AS .i64 (A+1)) λ(B:Int)=>
 some (.inl (B,q))
 ) else(
 some (.inr j)
 )
def Oa(j:List AC)(l:List AC)(q:Int):Option (((List AC) × Int) ⊕ (List AC)):=
 if(decide (q<(j.length:Int))) then(
 AB (AM j q) λ(w:AC)=>
 AB (Ir l w) λ(m:List AC)=>
 AB (AS .i64 (q+1)) λ(A:Int)=>
 some (.inl (m,A))
 ) else(
 some (.inr l)
 )
def NS(A:List AC)(j:List AC)(m:Int):Option (((List AC) × Int) ⊕ (List AC)):=
 if(decide (m<(A.length:Int))) then(
 AB (AM A m) λ(q:AC)=>
 AB (Ir j q) λ(l:List AC)=>
 AB (AS .i64 (m+1)) λ(w:Int)=>
 some (.inl (l,w))
 ) else(
 some (.inr j)
 )
def Gg(w:List AC)(j:List AC):Option ((List AC)):=
 AB (iter (λ(a:(List AC) × Int)=>NS w a.1 a.2) ([],0)) λ(m:List AC)=>
 AB (iter (λ(a:(List AC) × Int)=>Oa j a.1 a.2) (m,0)) λ(q:List AC)=>
 AB (iter (λ(a:Int × (List AC))=>OP q a.1 a.2) (0,[])) λ(l:List AC)=>
 some l
def Ls:Option (AL):=
 some (AL.mk 10 0 [])
def La(j:Int):Option (Bool):=
 some (((((j=9)||(j=10))||((32≤j)&&(j<127)))||((160≤j)&&(j<55296)))||((57343<j)&&(j≤1114111)))
def Le(j:AL):Option (Int):=
 if((!(j.Char=0))==(!(j.Ref=0))) then(
 some 4
 ) else(
 AB (gd ((decide (j.Ref=0))==true) (La j.Char)) λ(l:Bool)=>
 AB (
 if((j.Ref=0)&&(!l)) then(
 some ((j.Ref=0)&&(!l))
 ) else(
 some ((!(j.Ref=0))&&((j.Ref<1)||(1073741824<j.Ref)))
 )
 ) λ(m:Bool)=>
 if m then(
 some 2
 ) else(
 AB (Gu j.Attrs) λ(q:Int)=>
 some q
 )
 )
def N0(l:List AL)(j:Int):Option (Int ⊕ (As Unit Int)):=
 if(decide (j<(l.length:Int))) then(
 AB (AM l j) λ(q:AL)=>
 AB (Le q) λ(m:Int)=>
 if(!(m=0)) then(
 some (.inr (.ext m))
 ) else(
 AB (AS .i64 (j+1)) λ(w:Int)=>
 some (.inl w)
 )
 ) else(
 some (.inr (.nrm ()))
 )
def NV(j:List AL):Option (Int):=
 Az (iter (λ(a:Int)=>N0 j a) 0) λ(l:Unit)=>
 some 0
def Mq(j:Int):Option (Bool):=
 AB (gd (((j=9)||(j=10))==false) (Cy j 32 126)) λ(l:Bool)=>
 AB (gd ((((j=9)||(j=10))||l)==false) (Cy j 160 55295)) λ(m:Bool)=>
 AB (gd (((((j=9)||(j=10))||l)||m)==false) (Cy j 57344 1114111)) λ(q:Bool)=>
 some (((((j=9)||(j=10))||l)||m)||q)
def Mu(j:AL):Option (Int):=
 if(((j.Char=0)&&(j.Ref=0))||((!(j.Char=0))&&(!(j.Ref=0)))) then(
 some 4
 ) else(
 AB (gd ((!(j.Char=0))==true) (Mq j.Char)) λ(l:Bool)=>
 AB (gd ((((!(j.Char=0))&&(!l))==false)&&((!(j.Ref=0))==true)) (Cy j.Ref 1 1073741824)) λ(m:Bool)=>
 if(((!(j.Char=0))&&(!l))||((!(j.Ref=0))&&(!m))) then(
 some 2
 ) else(
 AB (Ja j.Attrs false) λ(q:Int)=>
 some q
 )
 )
def NR(m:List AC)(j:List UInt8)(l:Int):Option (Int ⊕ (As Unit Bool)):=
 if(decide (l<(m.length:Int))) then(
 AB (AM m l) λ(q:AC)=>
 if(decide (q.Name=j)) then(
 some (.inr (.ext true))
 ) else(
 AB (AS .i64 (l+1)) λ(w:Int)=>
 some (.inl w)
 )
 ) else(
 some (.inr (.nrm ()))
 )
def Lm(l:List AC)(j:List UInt8):Option (Bool):=
 Az (iter (λ(a:Int)=>NR l j a) 0) λ(m:Unit)=>
 some false
def M9(l:List AC)(w:List AC)(j:Int):Option (Int ⊕ (As Unit Bool)):=
 if(decide (j<(l.length:Int))) then(
 AB (AM l j) λ(m:AC)=>
 AB (AM w j) λ(q:AC)=>
 if(!((m.Name=q.Name)&&((m.Value=q.Value)&&true))) then(
 some (.inr (.ext false))
 ) else(
 AB (AS .i64 (j+1)) λ(A:Int)=>
 some (.inl A)
 )
 ) else(
 some (.inr (.nrm ()))
 )
def LI(j:List AC)(l:List AC):Option (Bool):=
 if(!((j.length:Int)=(l.length:Int))) then(
 some false
 ) else(
 Az (iter (λ(a:Int)=>M9 j l a) 0) λ(m:Unit)=>
 some true
 )
end
noncomputable section
structure fm where
 Adds:List (List AL)
 Cuts:List Bool
 Attrs:List (List AC)
deriving DecidableEq
instance:Inhabited fm:=⟨⟨[],[],[]⟩⟩
end
noncomputable section
end
noncomputable section
structure ja where
 steps:List GStep
 used:Int
deriving DecidableEq
instance:Inhabited ja:=⟨⟨[],0⟩⟩
structure eE where
 out:List GStep
 add:List AL
 cut:Int
deriving DecidableEq
instance:Inhabited eE:=⟨⟨[],[],0⟩⟩
def Qq(j:List UInt8):Option ((List AC)):=
 some [(AC.mk j [111,110])]
def Ji(q:List AL)(l:Int)(j:List AL):Option ((Int × (List AL)) ⊕ (List AL)):=
 if(decide (l<(q.length:Int))) then(
 AB (AM q l) λ(m:AL)=>
 AB (app 32 [] m.Attrs) λ(w:List AC)=>
 AB (AM j l) λ(B:AL)=>
 AB (AS .i64 (l+1)) λ(A:Int)=>
 some (.inl (A,(j.set l.toNat (AL.mk m.Char m.Ref w))))
 ) else(
 some (.inr j)
 )
def Of(m:List AL):Option ((List AL)):=
 AB (mk 40 (m.length:Int) (AL.mk 0 0 [])) λ(j:List AL)=>
 AB (iter (λ(a:Int × (List AL))=>Ji m a.1 a.2) (0,j)) λ(l:List AL)=>
 some l
def Pt(j:AL)(l:AL):Option (Bool):=
 AB (gd (((j.Char=l.Char)&&(j.Ref=l.Ref))==true) (GH j.Attrs l.Attrs)) λ(m:Bool)=>
 some (((j.Char=l.Char)&&(j.Ref=l.Ref))&&m)
def NO(l:List AL)(m:List AL)(j:Int):Option (Int ⊕ (As Unit Bool)):=
 if(decide (j<(l.length:Int))) then(
 AB (AM l j) λ(q:AL)=>
 AB (AM m j) λ(w:AL)=>
 AB (Pt q w) λ(A:Bool)=>
 if(!A) then(
 some (.inr (.ext false))
 ) else(
 AB (AS .i64 (j+1)) λ(B:Int)=>
 some (.inl B)
 )
 ) else(
 some (.inr (.nrm ()))
 )
def PM(j:List AL)(l:List AL):Option (Bool):=
 if(!((j.length:Int)=(l.length:Int))) then(
 some false
 ) else(
 Az (iter (λ(a:Int)=>NO j l a) 0) λ(m:Unit)=>
 some true
 )
def LP(m:List AL)(j:Bool)(l:Int):Option (Int ⊕ (As Unit Int)):=
 if(decide (l<(m.length:Int))) then(
 AB (AM m l) λ(q:AL)=>
 AB (Le q) λ(w:Int)=>
 if(!(w=0)) then(
 some (.inr (.ext w))
 ) else(
 if((!j)&&(q.Ref=0)) then(
 some (.inr (.ext 8))
 ) else(
 AB (AS .i64 (l+1)) λ(A:Int)=>
 some (.inl A)
 )
 )
 ) else(
 some (.inr (.nrm ()))
 )
def FO(l:List AL)(j:Bool):Option (Int):=
 Az (iter (λ(a:Int)=>LP l j a) 0) λ(w:Unit)=>
 AB (gd ((j==true)&&((decide ((l.length:Int)=0))==false)) (AS .i64 ((l.length:Int)-1))) λ(m:Int)=>
 AB (gd ((j==true)&&((decide ((l.length:Int)=0))==false)) (AM l m)) λ(q:AL)=>
 if(j&&(((l.length:Int)=0)||(!(q.Char=10)))) then(
 some 11
 ) else(
 some 0
 )
def Kr(m:List AL)(j:Bool)(l:Int):Option (Int ⊕ (As Unit Int)):=
 if(decide (l<(m.length:Int))) then(
 AB (AM m l) λ(q:AL)=>
 AB (Mu q) λ(w:Int)=>
 if(!(w=0)) then(
 some (.inr (.ext w))
 ) else(
 if((!j)&&(!(q.Char=0))) then(
 some (.inr (.ext 8))
 ) else(
 AB (AS .i64 (l+1)) λ(A:Int)=>
 some (.inl A)
 )
 )
 ) else(
 some (.inr (.nrm ()))
 )
def JQ(l:List AL)(j:Bool):Option (Int):=
 Az (iter (λ(a:Int)=>Kr l j a) 0) λ(w:Unit)=>
 AB (gd ((j==true)&&((decide ((l.length:Int)=0))==false)) (AS .i64 ((l.length:Int)-1))) λ(m:Int)=>
 AB (gd ((j==true)&&((decide ((l.length:Int)=0))==false)) (AM l m)) λ(q:AL)=>
 if(j&&(((l.length:Int)=0)||(!(q.Char=10)))) then(
 some 11
 ) else(
 some 0
 )
end
noncomputable section
end
noncomputable section
end
noncomputable section
end
noncomputable section
structure W1 where
 Kind:Int
 Node:Int
 From:Int
 To:Int
 Name:List UInt8
deriving DecidableEq
instance:Inhabited W1:=⟨⟨0,0,0,0,[]⟩⟩
structure ji where
 node:Int
 out:List AL
 bad:List W1
deriving DecidableEq
instance:Inhabited ji:=⟨⟨0,[],[]⟩⟩
structure dw where
 adds:List (List AL)
 cut:List Bool
 attrs:List (List AC)
deriving DecidableEq
instance:Inhabited dw:=⟨⟨[],[],[]⟩⟩
def UU(q:List AL)(w:List AL)(m:Int):Option (Int ⊕ (As Unit Bool)):=
 if(decide (m<(q.length:Int))) then(
 AB (AM q m) λ(j:AL)=>
 AB (AM w m) λ(l:AL)=>
 AB (gd (((!(j.Char=l.Char))||(!(j.Ref=l.Ref)))==false) (LI j.Attrs l.Attrs)) λ(A:Bool)=>
 if(((!(j.Char=l.Char))||(!(j.Ref=l.Ref)))||(!A)) then(
 some (.inr (.ext false))
 ) else(
 AB (AS .i64 (m+1)) λ(B:Int)=>
 some (.inl B)
 )
 ) else(
 some (.inr (.nrm ()))
 )
def Uz(j:List AL)(l:List AL):Option (Bool):=
 if(!((j.length:Int)=(l.length:Int))) then(
 some false
 ) else(
 Az (iter (λ(a:Int)=>UU j l a) 0) λ(m:Unit)=>
 some true
 )
end
noncomputable section
structure Ip where
 lo:Int
 hi:Int
deriving DecidableEq
instance:Inhabited Ip:=⟨⟨0,0⟩⟩
@[reducible] def Ip.row(x:Ip):List RV:=[.int .u8 x.lo,.int .u8 x.hi]
def ST:List Ip:=I0.map λp=>Ip.mk p.1 p.2
def OU(A:List UInt8):Option (Int × Int):=
 if(decide ((A.length:Int)<1)) then(
 some (65533,0)
 ) else(
 AB (AM A 0) λ(j:UInt8)=>
 AB (AM GP (j.toNat:Int)) λ(q:Int)=>
 if(decide (240≤q)) then(
 some ((EX .i32 (QV .i32 (IntKind.i32.wrap (j.toNat:Int)) (F2 .i32 (Dq .i32 (IntKind.i32.wrap q) 31) 31)) (Cg .i32 65533 (F2 .i32 (Dq .i32 (IntKind.i32.wrap q) 31) 31))),1)
 ) else(
 AB (AM ST (F2 .u8 q 4)) λ(B:Ip)=>
 if(decide ((A.length:Int)<(IntKind.i64.wrap (Cg .u8 q 7)))) then(
 some (65533,1)
 ) else(
 AB (AM A 1) λ(l:UInt8)=>
 if(((l.toNat:Int)<B.lo)||(B.hi<(l.toNat:Int))) then(
 some (65533,1)
 ) else(
 if(decide ((IntKind.i64.wrap (Cg .u8 q 7))≤2)) then(
 some ((EX .i32 (Dq .i32 (IntKind.i32.wrap (Cg .u8 (j.toNat:Int) 31)) 6) (IntKind.i32.wrap (Cg .u8 (l.toNat:Int) 63))),2)
 ) else(
 AB (AM A 2) λ(m:UInt8)=>
 if(((m.toNat:Int)<128)||(191<(m.toNat:Int))) then(
 some (65533,1)
 ) else(
 if(decide ((IntKind.i64.wrap (Cg .u8 q 7))≤3)) then(
 some ((EX .i32 (EX .i32 (Dq .i32 (IntKind.i32.wrap (Cg .u8 (j.toNat:Int) 15)) 12) (Dq .i32 (IntKind.i32.wrap (Cg .u8 (l.toNat:Int) 63)) 6)) (IntKind.i32.wrap (Cg .u8 (m.toNat:Int) 63))),3)
 ) else(
 AB (AM A 3) λ(w:UInt8)=>
 if(((w.toNat:Int)<128)||(191<(w.toNat:Int))) then(
 some (65533,1)
 ) else(
 some ((EX .i32 (EX .i32 (EX .i32 (Dq .i32 (IntKind.i32.wrap (Cg .u8 (j.toNat:Int) 7)) 18) (Dq .i32 (IntKind.i32.wrap (Cg .u8 (l.toNat:Int) 63)) 12)) (Dq .i32 (IntKind.i32.wrap (Cg .u8 (m.toNat:Int) 63)) 6)) (IntKind.i32.wrap (Cg .u8 (w.toNat:Int) 63))),4)
 )
 )
 )
 )
 )
 )
 )
 )
def M3(j:List UInt8):Option (Int × Int):=
 AB (gd ((!(j=[]))==true) (AM j 0)) λ(l:UInt8)=>
 if((!(j=[]))&&((l.toNat:Int)<128)) then(
 AB (AM j 0) λ(m:UInt8)=>
 some ((IntKind.i32.wrap (m.toNat:Int)),1)
 ) else(
 CT (OU j) λ(q:Int) (w:Int)=>
 some (q,w)
 )
end
noncomputable section
def Fc(w:List AL)(q:Int)(j:List Int):Option ((Int × (List Int)) ⊕ (List Int)):=
 if(decide (q<(w.length:Int))) then(
 AB (
 AB (AM w q) λ(A:AL)=>
 if(!(A.Ref=0)) then(
 AB (app 8 j [A.Ref]) λ(l:List Int)=>
 some l
 ) else(
 some j
 )
 ) λ(m:List Int)=>
 AB (AS .i64 (q+1)) λ(B:Int)=>
 some (.inl (B,m))
 ) else(
 some (.inr j)
 )
def K0(l:List AL):Option ((List Int)):=
 AB (iter (λ(a:Int × (List Int))=>Fc l a.1 a.2) (0,[])) λ(j:List Int)=>
 some j
end
noncomputable section
end
noncomputable section
structure AP where
 Nodes:List AI
deriving DecidableEq
instance:Inhabited AP:=⟨⟨[]⟩⟩
@[reducible] def AP.row(x:AP):List RV:=[.sl (x.Nodes.map AI.row)]
def QF:Option (AP):=
 some (AP.mk [(AI.mk 1 0 [] [(AL.mk 0 2 [])] (Ar.mk 0 0 [] []) []),(AI.mk 2 1 [] [(AL.mk 10 0 [])] (Ar.mk 0 0 [] []) [])])
def Fp(j:Int):Option (Bool):=
 some ((((j=1)||(j=3))||(j=4))||(j=12))
def F6(j:Int):Option (Bool):=
 some ((j=0)||(j=7))
def FD(j:Int):Option (Bool):=
 some ((j=2)||(j=6))
def PQ(j:List Ai)(w:List Ai)(l:Int):Option (Int ⊕ (As Unit Bool)):=
 if(decide (l<(j.length:Int))) then(
 AB (AM j l) λ(m:Ai)=>
 AB (AM w l) λ(q:Ai)=>
 if(!((m.Row=q.Row)&&((m.Col=q.Col)&&((m.H=q.H)&&((m.W=q.W)&&true))))) then(
 some (.inr (.ext false))
 ) else(
 AB (AS .i64 (l+1)) λ(A:Int)=>
 some (.inl A)
 )
 ) else(
 some (.inr (.nrm ()))
 )
def P0(j:List Ai)(l:List Ai):Option (Bool):=
 if(!((j.length:Int)=(l.length:Int))) then(
 some false
 ) else(
 Az (iter (λ(a:Int)=>PQ j l a) 0) λ(m:Unit)=>
 some true
 )
def Pj(j:Aj)(l:Aj):Option (Bool):=
 AB (gd (((((j.Row=l.Row)&&(j.Col=l.Col))&&(j.Text=l.Text))&&(j.Ref=l.Ref))==true) (LI j.Attrs l.Attrs)) λ(m:Bool)=>
 some (((((j.Row=l.Row)&&(j.Col=l.Col))&&(j.Text=l.Text))&&(j.Ref=l.Ref))&&m)
def N6(j:List Aj)(m:List Aj)(l:Int):Option (Int ⊕ (As Unit Bool)):=
 if(decide (l<(j.length:Int))) then(
 AB (AM j l) λ(q:Aj)=>
 AB (AM m l) λ(w:Aj)=>
 AB (Pj q w) λ(A:Bool)=>
 if(!A) then(
 some (.inr (.ext false))
 ) else(
 AB (AS .i64 (l+1)) λ(B:Int)=>
 some (.inl B)
 )
 ) else(
 some (.inr (.nrm ()))
 )
def NT(j:List Aj)(l:List Aj):Option (Bool):=
 if(!((j.length:Int)=(l.length:Int))) then(
 some false
 ) else(
 Az (iter (λ(a:Int)=>N6 j l a) 0) λ(m:Unit)=>
 some true
 )
def Kv(j:Ar)(l:Ar):Option (Bool):=
 AB (gd (((j.Rows=l.Rows)&&(j.Cols=l.Cols))==true) (P0 j.Merges l.Merges)) λ(m:Bool)=>
 AB (gd ((((j.Rows=l.Rows)&&(j.Cols=l.Cols))&&m)==true) (NT j.Cells l.Cells)) λ(q:Bool)=>
 some ((((j.Rows=l.Rows)&&(j.Cols=l.Cols))&&m)&&q)
def F1(j:Int):Option (Bool):=
 some (((j=8)||(j=9))||(j=10))
def FT(l:List UInt8):Option ((List UInt8) ⊕ (As Unit Bool)):=
 if(!(l=[])) then(
 CT (M3 l) λ(j:Int) (m:Int)=>
 AB (gd ((((j=65533)&&(m=1))||(j=10))==false) (La (IntKind.i64.wrap j))) λ(q:Bool)=>
 if((((j=65533)&&(m=1))||(j=10))||(!q)) then(
 some (.inr (.ext false))
 ) else(
 AB (CB l m (l.length:Int)) λ(w:List UInt8)=>
 some (.inl w)
 )
 ) else(
 some (.inr (.nrm ()))
 )
def O6(j:List UInt8):Option (Bool):=
 Az (iter (λ(a:(List UInt8))=>FT a) j) λ(l:Unit)=>
 some true
def OR(j:Aj):Option (Bool):=
 some (((j.Text=[])&&(j.Ref=0))&&((j.Attrs.length:Int)=0))
def Lp(j:Int):Option (Bool):=
 some (!(j=j))
def GC(m:Int)(q:Int):Option (Int):=
 AB (Lp m) λ(l:Bool)=>
 AB (Lp q) λ(j:Bool)=>
 if l then(
 if j then(
 some 0
 ) else(
 some (-1)
 )
 ) else(
 if j then(
 some 1
 ) else(
 if(decide (m<q)) then(
 some (-1)
 ) else(
 if(decide (q<m)) then(
 some 1
 ) else(
 some 0
 )
 )
 )
 )
def D3(j:List Int)(l:Int):Option (Int ⊕ (As Unit Int)):=
 if(decide (l<(j.length:Int))) then(
 AB (AM j l) λ(m:Int)=>
 if(!(m=0)) then(
 some (.inr (.ext m))
 ) else(
 AB (AS .i64 (l+1)) λ(q:Int)=>
 some (.inl q)
 )
 ) else(
 some (.inr (.nrm ()))
 )
def IB(j:List Int):Option (Int):=
 Az (iter (λ(a:Int)=>D3 j a) 0) λ(l:Unit)=>
 some 0
def MS(j:Aj)(l:Aj):Option (Int):=
 AB (GC j.Row l.Row) λ(m:Int)=>
 AB (GC j.Col l.Col) λ(q:Int)=>
 AB (IB [m,q]) λ(w:Int)=>
 some w
def PE(A:List Aj)(m:Int)(q:Int)(w:Bool)(l:Int):Option (Int ⊕ (As Unit Int)):=
 if(decide (l<(A.length:Int))) then(
 AB (AM A l) λ(j:Aj)=>
 if((((j.Row<0)||(m≤j.Row))||(j.Col<0))||(q≤j.Col)) then(
 some (.inr (.ext 2))
 ) else(
 if((j.Ref<0)||(1073741824<j.Ref)) then(
 some (.inr (.ext 2))
 ) else(
 AB (O6 j.Text) λ(C:Bool)=>
 if(!C) then(
 some (.inr (.ext 23))
 ) else(
 AB (Gu j.Attrs) λ(B:Int)=>
 if(!(B=0)) then(
 some (.inr (.ext B))
 ) else(
 AB (OR j) λ(E:Bool)=>
 if(E&&(!w)) then(
 some (.inr (.ext 4))
 ) else(
 AB (gd ((decide (0<l))==true) (AS .i64 (l-1))) λ(F:Int)=>
 AB (gd ((decide (0<l))==true) (AM A F)) λ(I:Aj)=>
 AB (gd ((decide (0<l))==true) (MS I j)) λ(J:Int)=>
 if((0<l)&&(0≤J)) then(
 some (.inr (.ext 5))
 ) else(
 AB (AS .i64 (l+1)) λ(M:Int)=>
 some (.inl M)
 )
 )
 )
 )
 )
 )
 ) else(
 some (.inr (.nrm ()))
 )
def Ns(q:List Aj)(j:Int)(l:Int)(m:Bool):Option (Int):=
 Az (iter (λ(a:Int)=>PE q j l m a) 0) λ(w:Unit)=>
 some 0
def NE(j:Ai)(l:Int)(m:Int):Option (Bool):=
 AB (gd (((((((0≤j.Row)&&(0≤j.Col))&&(1≤j.H))&&(1≤j.W))&&(j.Row<l))&&(j.Col<m))==true) (AS .i64 (l-j.Row))) λ(q:Int)=>
 AB (gd ((((((((0≤j.Row)&&(0≤j.Col))&&(1≤j.H))&&(1≤j.W))&&(j.Row<l))&&(j.Col<m))&&(j.H≤q))==true) (AS .i64 (m-j.Col))) λ(w:Int)=>
 some ((((((((0≤j.Row)&&(0≤j.Col))&&(1≤j.H))&&(1≤j.W))&&(j.Row<l))&&(j.Col<m))&&(j.H≤q))&&(j.W≤w))
def NP(j:Ai)(l:Ai):Option (Bool):=
 some ((j.Row<l.Row)||((j.Row=l.Row)&&(j.Col<l.Col)))
def Oq(j:Ai)(l:Ai):Option (Bool):=
 AB (AS .i64 (l.Row+l.H)) λ(m:Int)=>
 AB (gd ((decide (j.Row<m))==true) (AS .i64 (j.Row+j.H))) λ(q:Int)=>
 AB (gd (((j.Row<m)&&(l.Row<q))==true) (AS .i64 (l.Col+l.W))) λ(w:Int)=>
 AB (gd ((((j.Row<m)&&(l.Row<q))&&(j.Col<w))==true) (AS .i64 (j.Col+j.W))) λ(A:Int)=>
 some ((((j.Row<m)&&(l.Row<q))&&(j.Col<w))&&(l.Col<A))
def QZ(j:Ai)(l:Ai):Option (Bool):=
 AB (Oq l j) λ(m:Bool)=>
 some m
def PI(m:Ai)(l:List Ai)(j:Int):Option (Int ⊕ (As Unit Int)):=
 if(decide (j<(l.length:Int))) then(
 AB (AM l j) λ(q:Ai)=>
 AB (QZ m q) λ(w:Bool)=>
 if w then(
 some (.inr (.ext j))
 ) else(
 AB (AS .i64 (j+1)) λ(A:Int)=>
 some (.inl A)
 )
 ) else(
 some (.inr (.nrm ()))
 )
def P9(j:Ai)(l:List Ai):Option (Int):=
 Az (iter (λ(a:Int)=>PI j l a) 0) λ(m:Unit)=>
 some (-1)
def Mj(j:Ai)(l:List Ai):Option (Bool):=
 AB (P9 j l) λ(m:Int)=>
 some (decide (0≤m))
def N3(l:Ar)(j:Int):Option (Int ⊕ (As Unit Int)):=
 if(decide (j<(l.Merges.length:Int))) then(
 AB (AM l.Merges j) λ(m:Ai)=>
 AB (NE m l.Rows l.Cols) λ(q:Bool)=>
 if(!q) then(
 some (.inr (.ext 2))
 ) else(
 if((m.H=1)&&(m.W=1)) then(
 some (.inr (.ext 4))
 ) else(
 AB (gd ((decide (0<j))==true) (AS .i64 (j-1))) λ(w:Int)=>
 AB (gd ((decide (0<j))==true) (AM l.Merges w)) λ(A:Ai)=>
 AB (gd ((decide (0<j))==true) (NP A m)) λ(B:Bool)=>
 if((0<j)&&(!B)) then(
 some (.inr (.ext 5))
 ) else(
 AB (CB l.Merges 0 j) λ(C:List Ai)=>
 AB (Mj m C) λ(E:Bool)=>
 if E then(
 some (.inr (.ext 21))
 ) else(
 AB (AS .i64 (j+1)) λ(F:Int)=>
 some (.inl F)
 )
 )
 )
 )
 ) else(
 some (.inr (.nrm ()))
 )
def Oy(j:Ar):Option (Int):=
 if((((j.Rows<0)||(2147483647<j.Rows))||(j.Cols<0))||(2147483647<j.Cols)) then(
 some 2
 ) else(
 AB (Ns j.Cells j.Rows j.Cols false) λ(l:Int)=>
 if(!(l=0)) then(
 some l
 ) else(
 Az (iter (λ(a:Int)=>N3 j a) 0) λ(m:Unit)=>
 some 0
 )
 )
def OD(j:Int)(q:List Aj)(l:Int):Option (Int ⊕ (As Unit Int)):=
 if(decide (l<(q.length:Int))) then(
 AB (AM q l) λ(m:Aj)=>
 if(((j=2)&&((!(m.Text=[]))||(0<(m.Attrs.length:Int))))||((j=6)&&(!(m.Ref=0)))) then(
 some (.inr (.ext 4))
 ) else(
 AB (AS .i64 (l+1)) λ(w:Int)=>
 some (.inl w)
 )
 ) else(
 some (.inr (.nrm ()))
 )
def Pf(j:Int)(l:List Aj):Option (Int):=
 Az (iter (λ(a:Int)=>OD j l a) 0) λ(m:Unit)=>
 some 0
def LF(m:List UInt8)(l:Int):Option (Int ⊕ (As Unit Bool)):=
 if(decide (l<(m.length:Int))) then(
 AB (AM m l) λ(j:UInt8)=>
 if(((j.toNat:Int)<97)||(122<(j.toNat:Int))) then(
 some (.inr (.ext false))
 ) else(
 AB (AS .i64 (l+1)) λ(q:Int)=>
 some (.inl q)
 )
 ) else(
 some (.inr (.nrm ()))
 )
def Kd(j:List UInt8):Option (Bool):=
 AB (gd (((j=[])||(200<(j.length:Int)))==false) (AS .i64 ((j.length:Int)-1))) λ(m:Int)=>
 AB (gd (((j=[])||(200<(j.length:Int)))==false) (AM j m)) λ(l:UInt8)=>
 if(((j=[])||(200<(j.length:Int)))||((l.toNat:Int)=97)) then(
 some false
 ) else(
 Az (iter (λ(a:Int)=>LF j a) 0) λ(q:Unit)=>
 some true
 )
def Ky(j:Ax):Option (Int):=
 if((!(j.Kind=0))&&(!(j.Kind=1))) then(
 some 8
 ) else(
 if((((((j.Clock<1)||(1073741824<j.Clock))||(j.Site<0))||(1000<j.Site))||(j.Item<1))||(1073741824<j.Item)) then(
 some 2
 ) else(
 AB (
 if((j.Kind=0)&&((!(j.Name=[]))||(!(j.Value=[])))) then(
 some ((j.Kind=0)&&((!(j.Name=[]))||(!(j.Value=[]))))
 ) else(
 some ((j.Kind=1)&&((!(j.Parent=0))||(!(j.Place=[]))))
 )
 ) λ(m:Bool)=>
 if m then(
 some 4
 ) else(
 if((j.Kind=0)&&((j.Parent<(-1))||(1073741824<j.Parent))) then(
 some 2
 ) else(
 AB (gd ((decide (j.Kind=0))==true) (Kd j.Place)) λ(l:Bool)=>
 AB (
 if((j.Kind=0)&&(!l)) then(
 some ((j.Kind=0)&&(!l))
 ) else(
 AB (gd ((decide (j.Kind=1))==true) (Jy j.Name)) λ(q:Bool)=>
 some ((j.Kind=1)&&(!q))
 )
 ) λ(w:Bool)=>
 if w then(
 some 9
 ) else(
 AB (gd (((j.Kind=1)&&(!(j.Value=[])))==true) (L2 j.Value)) λ(A:Bool)=>
 if(((j.Kind=1)&&(!(j.Value=[])))&&(!A)) then(
 some 23
 ) else(
 some 0
 )
 )
 )
 )
 )
 )
def KO(j:Ax)(l:Ax):Option (Int):=
 AB (GC j.Clock l.Clock) λ(m:Int)=>
 AB (GC j.Site l.Site) λ(q:Int)=>
 AB (IB [m,q]) λ(w:Int)=>
 some w
def K1(l:List Ax)(j:Int):Option (Int ⊕ (As Unit Int)):=
 if(decide (j<(l.length:Int))) then(
 AB (AM l j) λ(m:Ax)=>
 AB (Ky m) λ(q:Int)=>
 if(!(q=0)) then(
 some (.inr (.ext q))
 ) else(
 AB (gd ((decide (0<j))==true) (AS .i64 (j-1))) λ(w:Int)=>
 AB (gd ((decide (0<j))==true) (AM l w)) λ(A:Ax)=>
 AB (gd ((decide (0<j))==true) (KO A m)) λ(B:Int)=>
 if((0<j)&&(0≤B)) then(
 some (.inr (.ext 5))
 ) else(
 AB (AS .i64 (j+1)) λ(C:Int)=>
 some (.inl C)
 )
 )
 ) else(
 some (.inr (.nrm ()))
 )
def IT(j:List Ax):Option (Int):=
 Az (iter (λ(a:Int)=>K1 j a) 0) λ(l:Unit)=>
 some 0
def Ch(n1:AI):Option (Int):=
 if((n1.ID<1)||(1073741824<n1.ID)) then(
 some 2
 ) else(
 if(((n1.Kind<0)||(13≤n1.Kind))||(!((decide (n1.ID=1))==(decide (n1.Kind=0))))) then(
 some 8
 ) else(
 AB (Gu n1.Attrs) λ(w:Int)=>
 if(!(w=0)) then(
 some w
 ) else(
 AB (Fp n1.Kind) λ(l:Bool)=>
 AB (gd (l==false) (F6 n1.Kind)) λ(m:Bool)=>
 AB (FD n1.Kind) λ(j:Bool)=>
 AB (
 if(((!(l||m))&&(0<(n1.Flow.length:Int)))==false) then(
 if((!j)==true) then(
 AB (Kv n1.Grid (Ar.mk 0 0 [] [])) λ(A:Bool)=>
 AB (gd ((((!(l||m))&&(0<(n1.Flow.length:Int)))||((!j)&&(!A)))==false) (F1 n1.Kind)) λ(C:Bool)=>
 some ((((!(l||m))&&(0<(n1.Flow.length:Int)))||((!j)&&(!A)))||((!C)&&(0<(n1.Draw.length:Int))))
 ) else(
 AB (gd ((((!(l||m))&&(0<(n1.Flow.length:Int)))||((!j)&&false))==false) (F1 n1.Kind)) λ(E:Bool)=>
 some ((((!(l||m))&&(0<(n1.Flow.length:Int)))||((!j)&&false))||((!E)&&(0<(n1.Draw.length:Int))))
 )
 ) else(
 AB (gd ((((!(l||m))&&(0<(n1.Flow.length:Int)))||false)==false) (F1 n1.Kind)) λ(q:Bool)=>
 some ((((!(l||m))&&(0<(n1.Flow.length:Int)))||false)||((!q)&&(0<(n1.Draw.length:Int))))
 )
 ) λ(F:Bool)=>
 if F then(
 some 4
 ) else(
 if(l||m) then(
 AB (FO n1.Flow l) λ(I:Int)=>
 some I
 ) else(
 if j then(
 AB (Oy n1.Grid) λ(B:Int)=>
 if(!(B=0)) then(
 some B
 ) else(
 AB (Pf n1.Kind n1.Grid.Cells) λ(J:Int)=>
 some J
 )
 ) else(
 AB (IT n1.Draw) λ(M:Int)=>
 some M
 )
 )
 )
 )
 )
 )
def Ey(w:List AL)(q:Int)(j:List Int):Option ((Int × (List Int)) ⊕ (List Int)):=
 if(decide (q<(w.length:Int))) then(
 AB (
 AB (AM w q) λ(A:AL)=>
 if(!(A.Ref=0)) then(
 AB (app 8 j [A.Ref]) λ(l:List Int)=>
 some l
 ) else(
 some j
 )
 ) λ(m:List Int)=>
 AB (AS .i64 (q+1)) λ(B:Int)=>
 some (.inl (B,m))
 ) else(
 some (.inr j)
 )
def Ke(l:List AL):Option ((List Int)):=
 AB (iter (λ(a:Int × (List Int))=>Ey l a.1 a.2) (0,[])) λ(j:List Int)=>
 some j
def EB(n1:AI)(q:Int)(j:List Int):Option ((Int × (List Int)) ⊕ (List Int)):=
 if(decide (q<(n1.Grid.Cells.length:Int))) then(
 AB (
 AB (AM n1.Grid.Cells q) λ(w:Aj)=>
 if(!(w.Ref=0)) then(
 AB (app 8 j [w.Ref]) λ(l:List Int)=>
 some l
 ) else(
 some j
 )
 ) λ(m:List Int)=>
 AB (AS .i64 (q+1)) λ(A:Int)=>
 some (.inl (A,m))
 ) else(
 some (.inr j)
 )
def GM(n1:AI):Option ((List Int)):=
 AB (Ke n1.Flow) λ(l:List Int)=>
 AB (iter (λ(a:Int × (List Int))=>EB n1 a.1 a.2) (0,l)) λ(j:List Int)=>
 some j
def MB(n1:AI)(j:Int):Option (Int):=
 if(decide (n1.ID<j)) then(
 some (-1)
 ) else(
 if(decide (j<n1.ID)) then(
 some 1
 ) else(
 some 0
 )
 )
def E5(A:List AI)(j:Int)(l:Int)(m:Int):Option ((Int × Int) ⊕ Int):=
 if(decide (l<m)) then(
 AB (AS .i64 (l+m)) λ(q:Int)=>
 AB (AM A (IntKind.i64.wrap (F2 .u64 (IntKind.u64.wrap q) 1))) λ(B:AI)=>
 AB (MB B j) λ(C:Int)=>
 if(decide (C<0)) then(
 AB (AS .i64 ((IntKind.i64.wrap (F2 .u64 (IntKind.u64.wrap q) 1))+1)) λ(w:Int)=>
 some (.inl (w,m))
 ) else(
 some (.inl (l,(IntKind.i64.wrap (F2 .u64 (IntKind.u64.wrap q) 1))))
 )
 ) else(
 some (.inr l)
 )
def Nq(l:List AI)(j:Int):Option (Int × Bool):=
 AB (iter (λ(a:Int × Int)=>E5 l j a.1 a.2) (0,(l.length:Int))) λ(i8:Int)=>
 AB (gd ((decide (i8<(l.length:Int)))==true) (AM l i8)) λ(m:AI)=>
 AB (gd ((decide (i8<(l.length:Int)))==true) (MB m j)) λ(q:Int)=>
 some (i8,((i8<(l.length:Int))&&(q=0)))
def FX(d1:AP)(j:Int):Option (Int × Bool):=
 CT (Nq d1.Nodes j) λ(l:Int) (m:Bool)=>
 some (l,m)
def JF(l:List Int)(v1:Int)(j:Int):Option (Int ⊕ (As Unit Int)):=
 if(decide (j<(l.length:Int))) then(
 AB (AM l j) λ(m:Int)=>
 if(decide (v1=m)) then(
 some (.inr (.ext j))
 ) else(
 AB (AS .i64 (j+1)) λ(q:Int)=>
 some (.inl q)
 )
 ) else(
 some (.inr (.nrm ()))
 )
def Ow(j:List Int)(v1:Int):Option (Int):=
 Az (iter (λ(a:Int)=>JF j v1 a) 0) λ(l:Unit)=>
 some (-1)
def LO(j:List Int)(v1:Int):Option (Bool):=
 AB (Ow j v1) λ(l:Int)=>
 some (decide (0≤l))
def Kw(j:Int)(l:Int):Option (Bool):=
 AB (
 if(decide (j=0)) then(
 some [1,6,7,10,11,12]
 ) else(
 if(decide (j=1)) then(
 some [2,4,5,10]
 ) else(
 if(decide (j=3)) then(
 some [4,5,10]
 ) else(
 AB (
 if(decide (j=4)) then(
 some (decide (j=4))
 ) else(
 some (decide (j=12))
 )
 ) λ(m:Bool)=>
 if m then(
 some [5]
 ) else(
 if(decide (j=2)) then(
 some [3]
 ) else(
 if(decide (j=7)) then(
 some [8,9]
 ) else(
 some []
 )
 )
 )
 )
 )
 )
 ) λ(q:List Int)=>
 AB (LO q l) λ(w:Bool)=>
 some w
def Ci(d1:AP)(j:Int)(Gq:List Int)(l:Int):Option (Int ⊕ (As Unit Int)):=
 if(decide (l<(Gq.length:Int))) then(
 AB (AM Gq l) λ(m:Int)=>
 CT (FX d1 m) λ(q:Int) (w:Bool)=>
 if(!w) then(
 some (.inr (.ext 7))
 ) else(
 AB (AM d1.Nodes q) λ(A:AI)=>
 AB (Kw j A.Kind) λ(B:Bool)=>
 if(!B) then(
 some (.inr (.ext 8))
 ) else(
 AB (AS .i64 (l+1)) λ(C:Int)=>
 some (.inl C)
 )
 )
 ) else(
 some (.inr (.nrm ()))
 )
def Ej(d1:AP)(j:Int)(Gq:List Int):Option (Int):=
 Az (iter (λ(a:Int)=>Ci d1 j Gq a) 0) λ(l:Unit)=>
 some 0
def Cc(d1:AP)(j:Int):Option (Int ⊕ (As Unit Int)):=
 if(decide (j<(d1.Nodes.length:Int))) then(
 AB (AM d1.Nodes j) λ(l:AI)=>
 AB (GM l) λ(q:List Int)=>
 AB (Ej d1 l.Kind q) λ(m:Int)=>
 if(!(m=0)) then(
 some (.inr (.ext m))
 ) else(
 AB (AS .i64 (j+1)) λ(w:Int)=>
 some (.inl w)
 )
 ) else(
 some (.inr (.nrm ()))
 )
def CJ(d1:AP)(j:Int):Option (Int ⊕ (As Unit Int)):=
 if(decide (j<(d1.Nodes.length:Int))) then(
 AB (AM d1.Nodes j) λ(l:AI)=>
 AB (Ch l) λ(A:Int)=>
 if(!(A=0)) then(
 some (.inr (.ext A))
 ) else(
 AB (gd ((((j=0)&&(!(l.ID=1)))==false)&&((decide (0<j))==true)) (AS .i64 (j-1))) λ(m:Int)=>
 AB (gd ((((j=0)&&(!(l.ID=1)))==false)&&((decide (0<j))==true)) (AM d1.Nodes m)) λ(q:AI)=>
 if(((j=0)&&(!(l.ID=1)))||((0<j)&&(l.ID≤q.ID))) then(
 some (.inr (.ext 5))
 ) else(
 AB (AS .i64 (j+1)) λ(w:Int)=>
 some (.inl w)
 )
 )
 ) else(
 some (.inr (.nrm ()))
 )
def D2(d1:AP):Option (Int):=
 if(decide ((d1.Nodes.length:Int)=0)) then(
 some 11
 ) else(
 Az (iter (λ(a:Int)=>CJ d1 a) 0) λ(j:Unit)=>
 Az (iter (λ(a:Int)=>Cc d1 a) 0) λ(l:Unit)=>
 some 0
 )
def Qj(j:List AL):Option (AP):=
 some (AP.mk [(AI.mk 1 0 [] [(AL.mk 0 2 [])] (Ar.mk 0 0 [] []) []),(AI.mk 2 1 [] j (Ar.mk 0 0 [] []) [])])
def Nf(j:Aj)(l:Aj):Option (Bool):=
 AB (gd (((((j.Row=l.Row)&&(j.Col=l.Col))&&(j.Text=l.Text))&&(j.Ref=l.Ref))==true) (GH j.Attrs l.Attrs)) λ(m:Bool)=>
 some (((((j.Row=l.Row)&&(j.Col=l.Col))&&(j.Text=l.Text))&&(j.Ref=l.Ref))&&m)
def Nu(l:List Aj)(m:List Aj)(j:Int):Option (Int ⊕ (As Unit Bool)):=
 if(decide (j<(l.length:Int))) then(
 AB (AM l j) λ(q:Aj)=>
 AB (AM m j) λ(w:Aj)=>
 AB (Nf q w) λ(A:Bool)=>
 if(!A) then(
 some (.inr (.ext false))
 ) else(
 AB (AS .i64 (j+1)) λ(B:Int)=>
 some (.inl B)
 )
 ) else(
 some (.inr (.nrm ()))
 )
def OO(j:List Aj)(l:List Aj):Option (Bool):=
 if(!((j.length:Int)=(l.length:Int))) then(
 some false
 ) else(
 Az (iter (λ(a:Int)=>Nu j l a) 0) λ(m:Unit)=>
 some true
 )
def PD(q:List Ai)(w:List Ai)(j:Int):Option (Int ⊕ (As Unit Bool)):=
 if(decide (j<(q.length:Int))) then(
 AB (AM q j) λ(l:Ai)=>
 AB (AM w j) λ(m:Ai)=>
 if(!((l.Row=m.Row)&&((l.Col=m.Col)&&((l.H=m.H)&&((l.W=m.W)&&true))))) then(
 some (.inr (.ext false))
 ) else(
 AB (AS .i64 (j+1)) λ(A:Int)=>
 some (.inl A)
 )
 ) else(
 some (.inr (.nrm ()))
 )
def M4(j:List Ai)(l:List Ai):Option (Bool):=
 if(!((j.length:Int)=(l.length:Int))) then(
 some false
 ) else(
 Az (iter (λ(a:Int)=>PD j l a) 0) λ(m:Unit)=>
 some true
 )
def Ng(j:Ar)(l:Ar):Option (Bool):=
 AB (gd (((j.Rows=l.Rows)&&(j.Cols=l.Cols))==true) (OO j.Cells l.Cells)) λ(m:Bool)=>
 AB (gd ((((j.Rows=l.Rows)&&(j.Cols=l.Cols))&&m)==true) (M4 j.Merges l.Merges)) λ(q:Bool)=>
 some ((((j.Rows=l.Rows)&&(j.Cols=l.Cols))&&m)&&q)
def Nz(q:List Ax)(w:List Ax)(m:Int):Option (Int ⊕ (As Unit Bool)):=
 if(decide (m<(q.length:Int))) then(
 AB (AM q m) λ(j:Ax)=>
 AB (AM w m) λ(l:Ax)=>
 if(!((j.Clock=l.Clock)&&((j.Site=l.Site)&&((j.Kind=l.Kind)&&((j.Item=l.Item)&&((j.Parent=l.Parent)&&((j.Place=l.Place)&&((j.Name=l.Name)&&((j.Value=l.Value)&&true))))))))) then(
 some (.inr (.ext false))
 ) else(
 AB (AS .i64 (m+1)) λ(A:Int)=>
 some (.inl A)
 )
 ) else(
 some (.inr (.nrm ()))
 )
def Oo(j:List Ax)(l:List Ax):Option (Bool):=
 if(!((j.length:Int)=(l.length:Int))) then(
 some false
 ) else(
 Az (iter (λ(a:Int)=>Nz j l a) 0) λ(m:Unit)=>
 some true
 )
def O4(j:AI)(l:AI):Option (Bool):=
 AB (gd (((j.ID=l.ID)&&(j.Kind=l.Kind))==true) (GH j.Attrs l.Attrs)) λ(m:Bool)=>
 AB (gd ((((j.ID=l.ID)&&(j.Kind=l.Kind))&&m)==true) (PM j.Flow l.Flow)) λ(q:Bool)=>
 AB (gd (((((j.ID=l.ID)&&(j.Kind=l.Kind))&&m)&&q)==true) (Ng j.Grid l.Grid)) λ(w:Bool)=>
 AB (gd ((((((j.ID=l.ID)&&(j.Kind=l.Kind))&&m)&&q)&&w)==true) (Oo j.Draw l.Draw)) λ(A:Bool)=>
 some ((((((j.ID=l.ID)&&(j.Kind=l.Kind))&&m)&&q)&&w)&&A)
def OY(l:AP)(m:AP)(j:Int):Option (Int ⊕ (As Unit Bool)):=
 if(decide (j<(l.Nodes.length:Int))) then(
 AB (AM l.Nodes j) λ(q:AI)=>
 AB (AM m.Nodes j) λ(w:AI)=>
 AB (O4 q w) λ(A:Bool)=>
 if(!A) then(
 some (.inr (.ext false))
 ) else(
 AB (AS .i64 (j+1)) λ(B:Int)=>
 some (.inl B)
 )
 ) else(
 some (.inr (.nrm ()))
 )
def O5(j:AP)(l:AP):Option (Bool):=
 if(!((j.Nodes.length:Int)=(l.Nodes.length:Int))) then(
 some false
 ) else(
 Az (iter (λ(a:Int)=>OY j l a) 0) λ(m:Unit)=>
 some true
 )
def Nb:Option (Bool):=
 AB (QF) λ(l:AP)=>
 AB (D2 l) λ(j:Int)=>
 AB (
 if((decide (j=0))==true) then(
 AB (Ls) λ(m:AL)=>
 AB (Qj [m]) λ(q:AP)=>
 AB (O5 l q) λ(w:Bool)=>
 some ((j=0)&&w)
 ) else(
 some ((j=0)&&false)
 )
 ) λ(A:Bool)=>
 some A
def UA(m:List Ax)(w:List Ax)(q:Int):Option (Int ⊕ (As Unit Bool)):=
 if(decide (q<(m.length:Int))) then(
 AB (AM m q) λ(j:Ax)=>
 AB (AM w q) λ(l:Ax)=>
 if(!((j.Clock=l.Clock)&&((j.Site=l.Site)&&((j.Kind=l.Kind)&&((j.Item=l.Item)&&((j.Parent=l.Parent)&&((j.Place=l.Place)&&((j.Name=l.Name)&&((j.Value=l.Value)&&true))))))))) then(
 some (.inr (.ext false))
 ) else(
 AB (AS .i64 (q+1)) λ(A:Int)=>
 some (.inl A)
 )
 ) else(
 some (.inr (.nrm ()))
 )
def Tm(j:List Ax)(l:List Ax):Option (Bool):=
 if(!((j.length:Int)=(l.length:Int))) then(
 some false
 ) else(
 Az (iter (λ(a:Int)=>UA j l a) 0) λ(m:Unit)=>
 some true
 )
def UI(j:AI)(l:AI):Option (Bool):=
 AB (gd (((j.ID=l.ID)&&(j.Kind=l.Kind))==true) (LI j.Attrs l.Attrs)) λ(m:Bool)=>
 AB (gd ((((j.ID=l.ID)&&(j.Kind=l.Kind))&&m)==true) (Uz j.Flow l.Flow)) λ(q:Bool)=>
 AB (gd (((((j.ID=l.ID)&&(j.Kind=l.Kind))&&m)&&q)==true) (Kv j.Grid l.Grid)) λ(w:Bool)=>
 AB (gd ((((((j.ID=l.ID)&&(j.Kind=l.Kind))&&m)&&q)&&w)==true) (Tm j.Draw l.Draw)) λ(A:Bool)=>
 some ((((((j.ID=l.ID)&&(j.Kind=l.Kind))&&m)&&q)&&w)&&A)
def Sm(j:List AI)(m:List AI)(l:Int):Option (Int ⊕ (As Unit Bool)):=
 if(decide (l<(j.length:Int))) then(
 AB (AM j l) λ(q:AI)=>
 AB (AM m l) λ(w:AI)=>
 AB (UI q w) λ(A:Bool)=>
 if(!A) then(
 some (.inr (.ext false))
 ) else(
 AB (AS .i64 (l+1)) λ(B:Int)=>
 some (.inl B)
 )
 ) else(
 some (.inr (.nrm ()))
 )
def Vg(j:List AI)(l:List AI):Option (Bool):=
 if(!((j.length:Int)=(l.length:Int))) then(
 some false
 ) else(
 Az (iter (λ(a:Int)=>Sm j l a) 0) λ(m:Unit)=>
 some true
 )
def XL(j:AP)(l:AP):Option (Bool):=
 AB (Vg j.Nodes l.Nodes) λ(m:Bool)=>
 some m
def Km(m:List Aj)(l:Int)(g2:Ar):Option ((Int × Ar) ⊕ Ar):=
 if(decide (l<(m.length:Int))) then(
 AB (AM g2.Cells l) λ(j:Aj)=>
 AB (app 32 [] j.Attrs) λ(q:List AC)=>
 AB (AS .i64 (l+1)) λ(w:Int)=>
 some (.inl (w,(Ar.mk g2.Rows g2.Cols (g2.Cells.set l.toNat (Aj.mk j.Row j.Col j.Text j.Ref q)) g2.Merges)))
 ) else(
 some (.inr g2)
 )
def PX(n1:AI):Option (AI):=
 AB (app 32 [] n1.Attrs) λ(l:List AC)=>
 AB (Of n1.Flow) λ(m:List AL)=>
 AB (app 88 [] n1.Draw) λ(q:List Ax)=>
 AB (app 32 [] n1.Grid.Merges) λ(w:List Ai)=>
 AB (app 64 [] n1.Grid.Cells) λ(j:List Aj)=>
 AB (iter (λ(a:Int × Ar)=>Km j a.1 a.2) (0,(Ar.mk n1.Grid.Rows n1.Grid.Cols j w))) λ(g4:Ar)=>
 some (AI.mk n1.ID n1.Kind l m g4 q)
def Ph(d1:AP)(l:Int)(j:Int):Option (Int ⊕ (As Unit Int)):=
 if(decide (j<(d1.Nodes.length:Int))) then(
 AB (AM d1.Nodes j) λ(m:AI)=>
 if(decide (m.ID=l)) then(
 some (.inr (.ext j))
 ) else(
 AB (AS .i64 (j+1)) λ(q:Int)=>
 some (.inl q)
 )
 ) else(
 some (.inr (.nrm ()))
 )
def IG(d1:AP)(j:Int):Option (Int):=
 Az (iter (λ(a:Int)=>Ph d1 j a) 0) λ(l:Unit)=>
 some (-1)
end
noncomputable section
def Lj(j:Int):Option (Bool):=
 some ((((j=1)||(j=3))||(j=4))||(j=12))
def Po(j:Int)(l:Int):Option (Bool):=
 AB (
 if(decide (l=1)) then(
 some (decide (l=1))
 ) else(
 if(decide (l=6)) then(
 some (decide (l=6))
 ) else(
 if(decide (l=7)) then(
 some (decide (l=7))
 ) else(
 if(decide (l=11)) then(
 some (decide (l=11))
 ) else(
 some (decide (l=12))
 )
 )
 )
 )
 ) λ(m:Bool)=>
 if m then(
 some (decide (j=0))
 ) else(
 if(decide (l=10)) then(
 some (((j=0)||(j=1))||(j=3))
 ) else(
 if(decide (l=2)) then(
 some (decide (j=1))
 ) else(
 if(decide (l=4)) then(
 some ((j=1)||(j=3))
 ) else(
 if(decide (l=5)) then(
 AB (Lj j) λ(q:Bool)=>
 some q
 ) else(
 if(decide (l=3)) then(
 some (decide (j=2))
 ) else(
 AB (
 if(decide (l=8)) then(
 some (decide (l=8))
 ) else(
 some (decide (l=9))
 )
 ) λ(w:Bool)=>
 if w then(
 some (decide (j=7))
 ) else(
 some false
 )
 )
 )
 )
 )
 )
 )
def SV(j:Int):Option (Bool):=
 some ((j=0)||(j=7))
def PB(j:Ar):Option (Bool):=
 some ((((j.Rows=0)&&(j.Cols=0))&&((j.Cells.length:Int)=0))&&((j.Merges.length:Int)=0))
def OQ(j:Int):Option (Bool):=
 some ((j=2)||(j=6))
def SM(j:Int):Option (Bool):=
 some (((j=8)||(j=9))||(j=10))
def Rt(j:List UInt8):Option (Bool):=
 SN j
def FY(l:List UInt8)(j:(Nat)):Option ((Nat) ⊕ (As Unit Bool)):=
 if(decide (j<l.length)) then(
 AB (gd ((decide (((GI l j).1:Int)=10))==false) (Mq (IntKind.i64.wrap ((GI l j).1:Int)))) λ(m:Bool)=>
 if((((GI l j).1:Int)=10)||(!m)) then(
 some (.inr (.ext false))
 ) else(
 some (.inl (j+(GI l j).2))
 )
 ) else(
 some (.inr (.nrm ()))
 )
def Py(j:List UInt8):Option (Bool):=
 AB (Rt j) λ(l:Bool)=>
 if(!l) then(
 some false
 ) else(
 Az (iter (λ(a:(Nat))=>FY j a) 0) λ(m:Unit)=>
 some true
 )
def Pg(j:Aj):Option (Bool):=
 some (((j.Text=[])&&(j.Ref=0))&&((j.Attrs.length:Int)=0))
def M7(B:List Aj)(q:Int)(w:Int)(l:Bool)(m:Int):Option (Int ⊕ (As Unit Int)):=
 if(decide (m<(B.length:Int))) then(
 AB (AM B m) λ(j:Aj)=>
 AB (AS .i64 (q-1)) λ(M:Int)=>
 AB (Cy j.Row 0 M) λ(C:Bool)=>
 AB (gd ((!C)==false) (AS .i64 (w-1))) λ(O:Int)=>
 AB (gd ((!C)==false) (Cy j.Col 0 O)) λ(I:Bool)=>
 AB (gd (((!C)||(!I))==false) (Cy j.Ref 0 1073741824)) λ(T:Bool)=>
 if(((!C)||(!I))||(!T)) then(
 some (.inr (.ext 2))
 ) else(
 AB (Py j.Text) λ(U:Bool)=>
 if(!U) then(
 some (.inr (.ext 23))
 ) else(
 AB (Ja j.Attrs false) λ(J:Int)=>
 if(!(J=0)) then(
 some (.inr (.ext J))
 ) else(
 AB (gd ((!l)==true) (Pg j)) λ(V:Bool)=>
 if((!l)&&V) then(
 some (.inr (.ext 4))
 ) else(
 AB (gd ((decide (0<m))==true) (AS .i64 (m-1))) λ(X:Int)=>
 AB (gd ((decide (0<m))==true) (AM B X)) λ(A:Aj)=>
 AB (gd ((((decide (0<m))==true)&&((decide (j.Row<A.Row))==false))&&((decide (j.Row=A.Row))==true)) (AS .i64 (m-1))) λ(Z:Int)=>
 AB (gd ((((decide (0<m))==true)&&((decide (j.Row<A.Row))==false))&&((decide (j.Row=A.Row))==true)) (AM B Z)) λ(E:Aj)=>
 if((0<m)&&((j.Row<A.Row)||((j.Row=A.Row)&&(j.Col≤E.Col)))) then(
 some (.inr (.ext 5))
 ) else(
 AB (AS .i64 (m+1)) λ(F:Int)=>
 some (.inl F)
 )
 )
 )
 )
 )
 ) else(
 some (.inr (.nrm ()))
 )
def Pv(q:List Aj)(j:Int)(l:Int)(m:Bool):Option (Int):=
 Az (iter (λ(a:Int)=>M7 q j l m a) 0) λ(w:Unit)=>
 some 0
def M0(q:Ai)(j:Int)(l:Int):Option (Bool):=
 AB (AS .i64 (j-1)) λ(B:Int)=>
 AB (Cy q.Row 0 B) λ(m:Bool)=>
 AB (gd (m==true) (AS .i64 (l-1))) λ(C:Int)=>
 AB (gd (m==true) (Cy q.Col 0 C)) λ(w:Bool)=>
 AB (gd ((m&&w)==true) (AS .i64 (j-q.Row))) λ(E:Int)=>
 AB (gd ((m&&w)==true) (Cy q.H 1 E)) λ(A:Bool)=>
 AB (gd (((m&&w)&&A)==true) (AS .i64 (l-q.Col))) λ(F:Int)=>
 AB (gd (((m&&w)&&A)==true) (Cy q.W 1 F)) λ(I:Bool)=>
 some (((m&&w)&&A)&&I)
def Pm(j:Ai)(l:Ai):Option (Bool):=
 AB (AS .i64 (j.Row+j.H)) λ(m:Int)=>
 AB (AS .i64 (l.Row+l.H)) λ(q:Int)=>
 AB (gd ((decide ((max j.Row l.Row)<(min m q)))==true) (AS .i64 (j.Col+j.W))) λ(w:Int)=>
 AB (gd ((decide ((max j.Row l.Row)<(min m q)))==true) (AS .i64 (l.Col+l.W))) λ(A:Int)=>
 some (((max j.Row l.Row)<(min m q))&&((max j.Col l.Col)<(min w A)))
def OF(q:Ar)(w:Int)(A:Ai)(j:Int):Option (Int ⊕ (As Unit (Int ⊕ (As Unit Int)))):=
 if(decide (j<w)) then(
 AB (AM q.Merges j) λ(l:Ai)=>
 AB (Pm A l) λ(B:Bool)=>
 if B then(
 some (.inr (.ext (.inr (.ext 21))))
 ) else(
 AB (AS .i64 (j+1)) λ(m:Int)=>
 some (.inl m)
 )
 ) else(
 some (.inr (.nrm ()))
 )
def Mz(m:Ar)(j:Int):Option (Int ⊕ (As Unit Int)):=
 if(decide (j<(m.Merges.length:Int))) then(
 AB (AM m.Merges j) λ(l:Ai)=>
 AB (M0 l m.Rows m.Cols) λ(A:Bool)=>
 if(!A) then(
 some (.inr (.ext 2))
 ) else(
 if((l.H=1)&&(l.W=1)) then(
 some (.inr (.ext 4))
 ) else(
 AB (gd ((decide (0<j))==true) (AS .i64 (j-1))) λ(B:Int)=>
 AB (gd ((decide (0<j))==true) (AM m.Merges B)) λ(q:Ai)=>
 AB (gd ((((decide (0<j))==true)&&((decide (l.Row<q.Row))==false))&&((decide (l.Row=q.Row))==true)) (AS .i64 (j-1))) λ(C:Int)=>
 AB (gd ((((decide (0<j))==true)&&((decide (l.Row<q.Row))==false))&&((decide (l.Row=q.Row))==true)) (AM m.Merges C)) λ(E:Ai)=>
 if((0<j)&&((l.Row<q.Row)||((l.Row=q.Row)&&(l.Col≤E.Col)))) then(
 some (.inr (.ext 5))
 ) else(
 Az (iter (λ(a:Int)=>OF m j l a) 0) λ(F:Unit)=>
 AB (AS .i64 (j+1)) λ(w:Int)=>
 some (.inl w)
 )
 )
 )
 ) else(
 some (.inr (.nrm ()))
 )
def NW(j:Ar):Option (Int):=
 AB (Cy j.Rows 0 2147483647) λ(l:Bool)=>
 AB (gd ((!l)==false) (Cy j.Cols 0 2147483647)) λ(q:Bool)=>
 if((!l)||(!q)) then(
 some 2
 ) else(
 AB (Pv j.Cells j.Rows j.Cols false) λ(m:Int)=>
 if(!(m=0)) then(
 some m
 ) else(
 Az (iter (λ(a:Int)=>Mz j a) 0) λ(w:Unit)=>
 some 0
 )
 )
def M1(j:Int)(q:List Aj)(l:Int):Option (Int ⊕ (As Unit Int)):=
 if(decide (l<(q.length:Int))) then(
 AB (gd ((decide (j=2))==true) (AM q l)) λ(m:Aj)=>
 AB (gd ((((j=2)&&((!(m.Text=[]))||(0<(m.Attrs.length:Int))))==false)&&((decide (j=6))==true)) (AM q l)) λ(w:Aj)=>
 if(((j=2)&&((!(m.Text=[]))||(0<(m.Attrs.length:Int))))||((j=6)&&(!(w.Ref=0)))) then(
 some (.inr (.ext 4))
 ) else(
 AB (AS .i64 (l+1)) λ(A:Int)=>
 some (.inl A)
 )
 ) else(
 some (.inr (.nrm ()))
 )
def Pw(j:Int)(l:List Aj):Option (Int):=
 Az (iter (λ(a:Int)=>M1 j l a) 0) λ(m:Unit)=>
 some 0
def LB(m:List UInt8)(l:Int):Option (Int ⊕ (As Unit Bool)):=
 if(decide (l<(m.length:Int))) then(
 AB (AM m l) λ(j:UInt8)=>
 if(((j.toNat:Int)<97)||(122<(j.toNat:Int))) then(
 some (.inr (.ext false))
 ) else(
 AB (AS .i64 (l+1)) λ(q:Int)=>
 some (.inl q)
 )
 ) else(
 some (.inr (.nrm ()))
 )
def N8(j:List UInt8):Option (Bool):=
 Az (iter (λ(a:Int)=>LB j a) 0) λ(q:Unit)=>
 AB (gd (((1≤(j.length:Int))&&((j.length:Int)≤200))==true) (AS .i64 ((j.length:Int)-1))) λ(m:Int)=>
 AB (gd (((1≤(j.length:Int))&&((j.length:Int)≤200))==true) (AM j m)) λ(l:UInt8)=>
 some (((1≤(j.length:Int))&&((j.length:Int)≤200))&&(!((l.toNat:Int)=97)))
def Mc(j:Ax)(l:Ax):Option (Bool):=
 some ((j.Clock<l.Clock)||((j.Clock=l.Clock)&&(j.Site<l.Site)))
def Nr(m:List Ax)(l:Int):Option (Int ⊕ (As Unit Int)):=
 if(decide (l<(m.length:Int))) then(
 AB (AM m l) λ(j:Ax)=>
 if((!(j.Kind=0))&&(!(j.Kind=1))) then(
 some (.inr (.ext 8))
 ) else(
 AB (Cy j.Clock 1 1073741824) λ(q:Bool)=>
 AB (gd ((!q)==false) (Cy j.Site 0 1000)) λ(w:Bool)=>
 AB (gd (((!q)||(!w))==false) (Cy j.Item 1 1073741824)) λ(A:Bool)=>
 if(((!q)||(!w))||(!A)) then(
 some (.inr (.ext 2))
 ) else(
 Az (
 if(decide (j.Kind=0)) then(
 if((!(j.Name=[]))||(!(j.Value=[]))) then(
 some (.ext (.inr (.ext 4)))
 ) else(
 AB (Cy j.Parent (-1) 1073741824) λ(B:Bool)=>
 if(!B) then(
 some (.ext (.inr (.ext 2)))
 ) else(
 AB (N8 j.Place) λ(C:Bool)=>
 if(!C) then(
 some (.ext (.inr (.ext 9)))
 ) else(
 some (.nrm ())
 )
 )
 )
 ) else(
 if((!(j.Parent=0))||(!(j.Place=[]))) then(
 some (.ext (.inr (.ext 4)))
 ) else(
 AB (JR j.Name) λ(E:Bool)=>
 if(!E) then(
 some (.ext (.inr (.ext 9)))
 ) else(
 AB (gd ((!(j.Value=[]))==true) (Lq j.Value)) λ(F:Bool)=>
 if((!(j.Value=[]))&&(!F)) then(
 some (.ext (.inr (.ext 23)))
 ) else(
 some (.nrm ())
 )
 )
 )
 )
 ) λ(T:Unit)=>
 AB (gd ((decide (0<l))==true) (AS .i64 (l-1))) λ(I:Int)=>
 AB (gd ((decide (0<l))==true) (AM m I)) λ(J:Ax)=>
 AB (gd ((decide (0<l))==true) (Mc J j)) λ(M:Bool)=>
 if((0<l)&&(!M)) then(
 some (.inr (.ext 5))
 ) else(
 AB (AS .i64 (l+1)) λ(O:Int)=>
 some (.inl O)
 )
 )
 )
 ) else(
 some (.inr (.nrm ()))
 )
def Nl(j:List Ax):Option (Int):=
 Az (iter (λ(a:Int)=>Nr j a) 0) λ(l:Unit)=>
 some 0
def NA(n1:AI):Option (Int):=
 AB (Cy n1.ID 1 1073741824) λ(F:Bool)=>
 if(!F) then(
 some 2
 ) else(
 AB (Cy n1.Kind 0 12) λ(I:Bool)=>
 if(((!I)||((n1.ID=1)&&(!(n1.Kind=0))))||((!(n1.ID=1))&&(n1.Kind=0))) then(
 some 8
 ) else(
 AB (Ja n1.Attrs false) λ(B:Int)=>
 if(!(B=0)) then(
 some B
 ) else(
 AB (Lj n1.Kind) λ(j:Bool)=>
 AB (gd (j==false) (SV n1.Kind)) λ(l:Bool)=>
 AB (gd (((0<(n1.Flow.length:Int))&&(!(j||l)))==false) (PB n1.Grid)) λ(m:Bool)=>
 AB (gd ((((0<(n1.Flow.length:Int))&&(!(j||l)))==false)&&((!m)==true)) (OQ n1.Kind)) λ(C:Bool)=>
 AB (gd (((((0<(n1.Flow.length:Int))&&(!(j||l)))||((!m)&&(!C)))==false)&&((decide (0<(n1.Draw.length:Int)))==true)) (SM n1.Kind)) λ(J:Bool)=>
 if((((0<(n1.Flow.length:Int))&&(!(j||l)))||((!m)&&(!C)))||((0<(n1.Draw.length:Int))&&(!J))) then(
 some 4
 ) else(
 if(j||l) then(
 AB (JQ n1.Flow j) λ(M:Int)=>
 some M
 ) else(
 AB (OQ n1.Kind) λ(q:Bool)=>
 if q then(
 AB (NW n1.Grid) λ(E:Int)=>
 if(!(E=0)) then(
 some E
 ) else(
 AB (Pw n1.Kind n1.Grid.Cells) λ(w:Int)=>
 some w
 )
 ) else(
 AB (Nl n1.Draw) λ(A:Int)=>
 some A
 )
 )
 )
 )
 )
 )
def Q1(n1:AI)(q:Int)(j:List Int):Option ((Int × (List Int)) ⊕ (List Int)):=
 if(decide (q<(n1.Grid.Cells.length:Int))) then(
 AB (
 AB (AM n1.Grid.Cells q) λ(w:Aj)=>
 if(!(w.Ref=0)) then(
 AB (app 8 j [w.Ref]) λ(l:List Int)=>
 some l
 ) else(
 some j
 )
 ) λ(m:List Int)=>
 AB (AS .i64 (q+1)) λ(A:Int)=>
 some (.inl (A,m))
 ) else(
 some (.inr j)
 )
def QK(n1:AI)(w:Int)(j:List Int):Option ((Int × (List Int)) ⊕ (List Int)):=
 if(decide (w<(n1.Flow.length:Int))) then(
 AB (
 AB (AM n1.Flow w) λ(q:AL)=>
 if(!(q.Ref=0)) then(
 AB (app 8 j [q.Ref]) λ(l:List Int)=>
 some l
 ) else(
 some j
 )
 ) λ(m:List Int)=>
 AB (AS .i64 (w+1)) λ(A:Int)=>
 some (.inl (A,m))
 ) else(
 some (.inr j)
 )
def No(n1:AI):Option ((List Int)):=
 AB (iter (λ(a:Int × (List Int))=>QK n1 a.1 a.2) (0,[])) λ(j:List Int)=>
 AB (iter (λ(a:Int × (List Int))=>Q1 n1 a.1 a.2) (0,j)) λ(l:List Int)=>
 some l
def Lh(d1:AP)(j:Int)(Gq:List Int)(l:Int):Option (Int ⊕ (As Unit Int)):=
 if(decide (l<(Gq.length:Int))) then(
 AB (AM Gq l) λ(q:Int)=>
 AB (IG d1 q) λ(m:Int)=>
 if(decide (m<0)) then(
 some (.inr (.ext 7))
 ) else(
 AB (AM d1.Nodes m) λ(w:AI)=>
 AB (Po j w.Kind) λ(A:Bool)=>
 if(!A) then(
 some (.inr (.ext 8))
 ) else(
 AB (AS .i64 (l+1)) λ(B:Int)=>
 some (.inl B)
 )
 )
 ) else(
 some (.inr (.nrm ()))
 )
def Nt(d1:AP)(j:Int)(Gq:List Int):Option (Int):=
 Az (iter (λ(a:Int)=>Lh d1 j Gq a) 0) λ(l:Unit)=>
 some 0
def KJ(d1:AP)(j:Int):Option (Int ⊕ (As Unit Int)):=
 if(decide (j<(d1.Nodes.length:Int))) then(
 AB (AM d1.Nodes j) λ(l:AI)=>
 AB (No l) λ(q:List Int)=>
 AB (Nt d1 l.Kind q) λ(m:Int)=>
 if(!(m=0)) then(
 some (.inr (.ext m))
 ) else(
 AB (AS .i64 (j+1)) λ(w:Int)=>
 some (.inl w)
 )
 ) else(
 some (.inr (.nrm ()))
 )
def LT(d1:AP)(j:Int):Option (Int ⊕ (As Unit Int)):=
 if(decide (j<(d1.Nodes.length:Int))) then(
 AB (AM d1.Nodes j) λ(A:AI)=>
 AB (NA A) λ(B:Int)=>
 if(!(B=0)) then(
 some (.inr (.ext B))
 ) else(
 AB (gd ((decide (j=0))==true) (AM d1.Nodes 0)) λ(l:AI)=>
 AB (gd ((((j=0)&&(!(l.ID=1)))==false)&&((decide (0<j))==true)) (AS .i64 (j-1))) λ(m:Int)=>
 AB (gd ((((j=0)&&(!(l.ID=1)))==false)&&((decide (0<j))==true)) (AM d1.Nodes m)) λ(q:AI)=>
 if(((j=0)&&(!(l.ID=1)))||((0<j)&&(A.ID≤q.ID))) then(
 some (.inr (.ext 5))
 ) else(
 AB (AS .i64 (j+1)) λ(w:Int)=>
 some (.inl w)
 )
 )
 ) else(
 some (.inr (.nrm ()))
 )
def Nh(d1:AP):Option (Int):=
 if(decide ((d1.Nodes.length:Int)=0)) then(
 some 11
 ) else(
 Az (iter (λ(a:Int)=>LT d1 a) 0) λ(j:Unit)=>
 Az (iter (λ(a:Int)=>KJ d1 a) 0) λ(l:Unit)=>
 some 0
 )
end
noncomputable section
def Js(w:Ar)(j:Int)(l:Int)(q:Int):Option (Int ⊕ (As Unit Ai)):=
 if(decide (q<(w.Merges.length:Int))) then(
 AB (AM w.Merges q) λ(m:Ai)=>
 AB (gd ((decide (m.Row≤j))==true) (AS .i64 (j-m.Row))) λ(A:Int)=>
 AB (gd ((((m.Row≤j)&&(A<m.H))&&(m.Col≤l))==true) (AS .i64 (l-m.Col))) λ(B:Int)=>
 if((((m.Row≤j)&&(A<m.H))&&(m.Col≤l))&&(B<m.W)) then(
 some (.inr (.ext m))
 ) else(
 AB (AS .i64 (q+1)) λ(C:Int)=>
 some (.inl C)
 )
 ) else(
 some (.inr (.nrm ()))
 )
def He(m:Ar)(j:Int)(l:Int):Option (Ai):=
 Az (iter (λ(a:Int)=>Js m j l a) 0) λ(q:Unit)=>
 some (Ai.mk j l 1 1)
def JM(A:Ar)(l:Int)(m:Int)(w:Int):Option (Int ⊕ (As Unit Ai)):=
 if(decide (w<(A.Merges.length:Int))) then(
 AB (AM A.Merges w) λ(j:Ai)=>
 AB (AS .i64 (j.Row+j.H)) λ(B:Int)=>
 AB (AS .i64 (B-1)) λ(C:Int)=>
 AB (Cy l j.Row C) λ(q:Bool)=>
 AB (gd (q==true) (AS .i64 (j.Col+j.W))) λ(E:Int)=>
 AB (gd (q==true) (AS .i64 (E-1))) λ(F:Int)=>
 AB (gd (q==true) (Cy m j.Col F)) λ(I:Bool)=>
 if(q&&I) then(
 some (.inr (.ext j))
 ) else(
 AB (AS .i64 (w+1)) λ(J:Int)=>
 some (.inl J)
 )
 ) else(
 some (.inr (.nrm ()))
 )
def OG(m:Ar)(j:Int)(l:Int):Option (Ai):=
 Az (iter (λ(a:Int)=>JM m j l a) 0) λ(q:Unit)=>
 some (Ai.mk j l 1 1)
end
noncomputable section
structure lq where
 Node:Int
 From:Int
 To:Int
deriving DecidableEq
instance:Inhabited lq:=⟨⟨0,0,0⟩⟩
structure db where
 node:AI
 shown:List Int
 author:List UInt8
deriving DecidableEq
instance:Inhabited db:=⟨⟨(AI.mk 0 0 [] [] (Ar.mk 0 0 [] []) []),[],[]⟩⟩
def PS(d1:AP)(j:Int):Option (Int):=
 CT (FX d1 j) λ(l:Int) (m:Bool)=>
 if m then(
 some l
 ) else(
 some (-1)
 )
end
noncomputable section
end
noncomputable section
structure AE where
 Item:Int
 Parent:Int
 Place:List UInt8
 Attrs:List AC
deriving DecidableEq
instance:Inhabited AE:=⟨⟨0,0,[],[]⟩⟩
@[reducible] def AE.row(x:AE):List RV:=[.int .i64 x.Item,.int .i64 x.Parent,.str x.Place,.sl (x.Attrs.map AC.row)]
end
noncomputable section
def Gr(m:List (Int × AE))(l:Int)(j:Int):Option (Int ⊕ (As Unit Bool)):=
 if(decide (0<j)) then(
 if(decide (j=l)) then(
 some (.inr (.ext true))
 ) else(
 if(!((AU m j).isSome)) then(
 some (.inr (.ext false))
 ) else(
 AB (AU m j) λ(q:AE)=>
 some (.inl q.Parent)
 )
 )
 ) else(
 some (.inr (.nrm ()))
 )
def Ol(m:List (Int × AE))(m2:List (Int × (List AC)))(j:Int)(l:Int):Option (Bool):=
 Az (iter (λ(a:Int)=>Gr m l a) j) λ(q:Unit)=>
 some false
def IV(A:List Ax)(q:Int)(m:List (Int × AE))(l:List (Int × (List AC))):Option ((Int × (List (Int × AE)) × (List (Int × (List AC)))) ⊕ ((List (Int × AE)) × (List (Int × (List AC))))):=
 if(decide (q<(A.length:Int))) then(
 CT (
 AB (AM A q) λ(j:Ax)=>
 if(decide (j.Kind=1)) then(
 AB (GE ((AU l j.Item).getD []) [(AC.mk j.Name j.Value)]) λ(B:List AC)=>
 some (m,(An l j.Item B))
 ) else(
 AB (Ol m l j.Parent j.Item) λ(C:Bool)=>
 if(!C) then(
 some ((An m j.Item (AE.mk j.Item j.Parent j.Place [])),l)
 ) else(
 some (m,l)
 )
 )
 ) λ(E:List (Int × AE)) (w:List (Int × (List AC)))=>
 AB (AS .i64 (q+1)) λ(F:Int)=>
 some (.inl (F,E,w))
 ) else(
 some (.inr (m,l))
 )
def Lu(j:List Ax):Option ((List (Int × AE)) × (List (Int × (List AC)))):=
 CT (iter (λ(a:Int × (List (Int × AE)) × (List (Int × (List AC))))=>IV j a.1 a.2.1 a.2.2) (0,[],[])) λ(l:List (Int × AE)) (m:List (Int × (List AC)))=>
 some (l,m)
def Px(j:List UInt8):Option (Bool):=
 some (!(j=j))
def NK(m:List UInt8)(q:List UInt8):Option (Int):=
 AB (Px m) λ(l:Bool)=>
 AB (Px q) λ(j:Bool)=>
 if l then(
 if j then(
 some 0
 ) else(
 some (-1)
 )
 ) else(
 if j then(
 some 1
 ) else(
 if(Au m q) then(
 some (-1)
 ) else(
 if(!(Au m q||(m=q))) then(
 some 1
 ) else(
 some 0
 )
 )
 )
 )
def KD(j:AE)(l:AE):Option (Int):=
 AB (NK j.Place l.Place) λ(m:Int)=>
 AB (GC j.Item l.Item) λ(q:Int)=>
 AB (IB [m,q]) λ(w:Int)=>
 some w
def GT(j:Int)(self:(List (Int × (List AE)))→(List AE)→(List (Int × Bool))→Int→Option ((List (Int × (List AE))) × (List AE) × (List (Int × Bool))))(A:List (Int × List AE))(l:Int)(o2:List AE)(m:List (Int × (List AE)))(w:List (Int × Bool)):Option ((Int × (List AE) × (List (Int × (List AE))) × (List (Int × Bool))) ⊕ (As Unit ((List (Int × (List AE))) × (List AE) × (List (Int × Bool))))):=
 if(decide (l<(((AU A j).getD []).length:Int))) then(
 AB (AM ((AU m j).getD []) l) λ(q:AE)=>
 AB (app 56 o2 [q]) λ(B:List AE)=>
 EC (self m B (An w q.Item true) q.Item) λ(C:List (Int × (List AE))) (E:List AE) (F:List (Int × Bool))=>
 AB (AS .i64 (l+1)) λ(I:Int)=>
 some (.inl (I,E,C,F))
 ) else(
 some (.inr (.ext (m,o2,w)))
 )
def I8(self:(List (Int × (List AE)))→(List AE)→(List (Int × Bool))→Int→Option ((List (Int × (List AE))) × (List AE) × (List (Int × Bool))))(m:List (Int × (List AE)))(q:List AE)(m2:List (Int × Bool))(j:Int):Option ((List (Int × (List AE))) × (List AE) × (List (Int × Bool))):=
 AB (Kj KD m j) λ(l:List (Int × List AE))=>
 Az (iter (λ(a:Int × (List AE) × (List (Int × (List AE))) × (List (Int × Bool)))=>GT j self l a.1 a.2.1 a.2.2.1 a.2.2.2) (0,q,l,m2)) λ(w:Unit)=>
 none
def Dv:Nat→(List (Int × (List AE)))→(List AE)→(List (Int × Bool))→Int→Option ((List (Int × (List AE))) × (List AE) × (List (Int × Bool)))
 | 0,_,_,_,_=>none
 | n+1,l,m,m2,j=>I8 (λl m m2 j=>Dv n l m m2 j) l m m2 j
def PF(l:List (Int × (List AE)))(m:List AE)(m2:List (Int × Bool))(j:Int):Option ((List (Int × (List AE))) × (List AE) × (List (Int × Bool))):=
 @dite _ (∃n r,Dv n l m m2 j=some r) (Classical.propDecidable _) (λh=>Dv h.choose l m m2 j) (λ_=>none)
def Pe(j:AE)(l:AE):Option (Int):=
 AB (GC j.Item l.Item) λ(m:Int)=>
 some m
def HW(m:List (Int × (List AC)))(q:List AE)(A:List (Int × AE))(B:List (Int × (List AE)))(l:Int):Option ((List AE) × (List (Int × AE)) × (List (Int × (List AE)))):=
 AB (AU A l) λ(j:AE)=>
 AB (app 56 ((AU B ((AE.mk j.Item j.Parent j.Place ((AU m l).getD [])).Parent)).getD []) [(AE.mk j.Item j.Parent j.Place ((AU m l).getD []))]) λ(C:List AE)=>
 AB (app 56 q [(AE.mk j.Item j.Parent j.Place ((AU m l).getD []))]) λ(w:List AE)=>
 some (w,(An A l (AE.mk j.Item j.Parent j.Place ((AU m l).getD []))),(An B ((AE.mk j.Item j.Parent j.Place ((AU m l).getD [])).Parent) C))
def Hv(A:List (Int × Bool))(q:List AE)(m:Int)(j:List AE):Option ((Int × (List AE)) ⊕ (List AE)):=
 if(decide (m<(q.length:Int))) then(
 AB (
 AB (AM q m) λ(w:AE)=>
 if(!((AU A w.Item).getD false)) then(
 AB (app 56 j [w]) λ(B:List AE)=>
 some B
 ) else(
 some j
 )
 ) λ(l:List AE)=>
 AB (AS .i64 (m+1)) λ(C:Int)=>
 some (.inl (C,l))
 ) else(
 some (.inr j)
 )
def OI(m:List Ax):Option ((List AE)):=
 CT (Lu m) λ(q:List (Int × AE)) (w:List (Int × (List AC)))=>
 MM (λ(a:(List AE) × (List (Int × AE)) × (List (Int × (List AE))))=>a.2.1.map (·.1)) (λ(a:(List AE) × (List (Int × AE)) × (List (Int × (List AE)))) (A:Int)=>HW w a.1 a.2.1 a.2.2 A) ([],q,[]) λ(a:(List AE) × (List (Int × AE)) × (List (Int × (List AE))))=>
 EC (some a) λ(j:List AE) (I:List (Int × AE)) (B:List (Int × (List AE)))=>
 EC (PF B [] ([]:List (Int × Bool)) 0) λ(J:List (Int × (List AE))) (C:List AE) (E:List (Int × Bool))=>
 AB (HU Pe j) λ(F:List AE)=>
 AB (iter (λ(a:Int × (List AE))=>Hv E F a.1 a.2) (0,C)) λ(l:List AE)=>
 some l
def II(m:List AE)(j:Int)(l:Int):Option (Int ⊕ (As Unit Int)):=
 if(decide (l<(m.length:Int))) then(
 AB (AM m l) λ(q:AE)=>
 if(decide (q.Item=j)) then(
 some (.inr (.ext l))
 ) else(
 AB (AS .i64 (l+1)) λ(w:Int)=>
 some (.inl w)
 )
 ) else(
 some (.inr (.nrm ()))
 )
def H3(l:List AE)(j:Int):Option (Int):=
 Az (iter (λ(a:Int)=>II l j a) 0) λ(m:Unit)=>
 some (-1)
def HB(m:List AE)(l:Int)(A:Int)(j:Int)(q:Int):Option ((Int × Int) ⊕ (As Unit Bool)):=
 if(decide (q<A)) then(
 if(decide (j=l)) then(
 some (.inr (.ext true))
 ) else(
 AB (H3 m j) λ(w:Int)=>
 if(decide (w<0)) then(
 some (.inr (.ext false))
 ) else(
 AB (AM m w) λ(B:AE)=>
 AB (AS .i64 (q+1)) λ(C:Int)=>
 some (.inl (B.Parent,C))
 )
 )
 ) else(
 some (.inr (.nrm ()))
 )
def MJ(m:List AE)(j:Int)(l:Int):Option (Bool):=
 AB (AS .i64 ((m.length:Int)+1)) λ(q:Int)=>
 Az (iter (λ(a:Int × Int)=>HB m l q a.1 a.2) (j,0)) λ(w:Unit)=>
 some false
def Hx(m:List AE)(l:List AE)(w:Int)(j:List AE):Option ((Int × (List AE)) ⊕ (List AE)):=
 if(decide (w<(m.length:Int))) then(
 AB (
 AB (AM j w) λ(A:AE)=>
 AB (H3 l A.Item) λ(B:Int)=>
 if(decide (0≤B)) then(
 AB (AM l B) λ(C:AE)=>
 some (j.set w.toNat (AE.mk A.Item A.Parent A.Place C.Attrs))
 ) else(
 some j
 )
 ) λ(q:List AE)=>
 AB (AS .i64 (w+1)) λ(E:Int)=>
 some (.inl (E,q))
 ) else(
 some (.inr j)
 )
def H4(M:List Ax)(I:Int)(j:List AE)(l:List AE):Option ((Int × (List AE) × (List AE)) ⊕ ((List AE) × (List AE))):=
 if(decide (I<(M.length:Int))) then(
 CT (
 AB (AM M I) λ(m:Ax)=>
 if(decide (m.Kind=1)) then(
 AB (H3 l m.Item) λ(O:Int)=>
 CT (
 if(decide (O<0)) then(
 AB (app 56 l [(AE.mk m.Item 0 [] [])]) λ(C:List AE)=>
 some ((l.length:Int),C)
 ) else(
 some (O,l)
 )
 ) λ(T:Int) (w:List AE)=>
 AB (AM w T) λ(E:AE)=>
 AB (Gg E.Attrs [(AC.mk m.Name m.Value)]) λ(X:List AC)=>
 some (j,(w.set T.toNat (AE.mk E.Item E.Parent E.Place X)))
 ) else(
 AB (gd (((decide (m.Parent=m.Item))==false)&&((decide (0<m.Parent))==true)) (MJ j m.Parent m.Item)) λ(Z:Bool)=>
 if((m.Parent=m.Item)||((0<m.Parent)&&Z)) then(
 some (j,l)
 ) else(
 AB (H3 j m.Item) λ(U:Int)=>
 CT (
 if(decide (U<0)) then(
 AB (app 56 j [(AE.mk 0 0 [] [])]) λ(A:List AE)=>
 some ((j.length:Int),A)
 ) else(
 some (U,j)
 )
 ) λ(V:Int) (q:List AE)=>
 AB (AM q V) λ(a0:AE)=>
 some ((q.set V.toNat (AE.mk m.Item m.Parent m.Place [])),l)
 )
 )
 ) λ(B:List AE) (F:List AE)=>
 AB (AS .i64 (I+1)) λ(J:Int)=>
 some (.inl (J,B,F))
 ) else(
 some (.inr (j,l))
 )
def LU(q:List Ax):Option ((List AE) × (List AE)):=
 CT (iter (λ(a:Int × (List AE) × (List AE))=>H4 q a.1 a.2.1 a.2.2) (0,[],[])) λ(j:List AE) (l:List AE)=>
 AB (iter (λ(a:Int × (List AE))=>Hx j l a.1 a.2) (0,j)) λ(m:List AE)=>
 some (m,l)
def H8(B:List AE)(m:Int)(l:List UInt8)(w:Int)(j:Int)(C:Int):Option ((Int × Int) ⊕ Int):=
 if(decide (C<(B.length:Int))) then(
 AB (
 AB (AM B C) λ(q:AE)=>
 if(((!(q.Parent=m))||(Au q.Place l))||((q.Place=l)&&(q.Item≤w))) then(
 some j
 ) else(
 AB (gd ((decide (j<0))==false) (AM B j)) λ(E:AE)=>
 AB (gd (((j<0)||(Au q.Place E.Place))==false) (AM B j)) λ(F:AE)=>
 if(((j<0)||(Au q.Place E.Place))||((q.Place=F.Place)&&(q.Item<F.Item))) then(
 some C
 ) else(
 some j
 )
 )
 ) λ(A:Int)=>
 AB (AS .i64 (C+1)) λ(I:Int)=>
 some (.inl (A,I))
 ) else(
 some (.inr j)
 )
def GS(B:List AE)(j:Int)(self:(List AE)→(List AE)→Int→Option (List AE))(m:List UInt8)(w:Int)(q:List AE):Option (((List UInt8) × Int × (List AE)) ⊕ (As Unit (List AE))):=
 AB (iter (λ(a:Int × Int)=>H8 B j m w a.1 a.2) ((-1),0)) λ(l:Int)=>
 if(decide (l<0)) then(
 some (.inr (.ext q))
 ) else(
 AB (AM B l) λ(A:AE)=>
 AB (app 56 q [A]) λ(C:List AE)=>
 AB (self C B A.Item) λ(E:List AE)=>
 some (.inl (A.Place,A.Item,E))
 )
def Jc(self:(List AE)→(List AE)→Int→Option (List AE))(l:List AE)(m:List AE)(j:Int):Option ((List AE)):=
 Az (iter (λ(a:(List UInt8) × Int × (List AE))=>GS m j self a.1 a.2.1 a.2.2) ([],0,l)) λ(q:Unit)=>
 none
def Dn:Nat→(List AE)→(List AE)→Int→Option (List AE)
 | 0,_,_,_=>none
 | n+1,l,m,j=>Jc (λl m j=>Dn n l m j) l m j
def OJ(l:List AE)(m:List AE)(j:Int):Option ((List AE)):=
 @dite _ (∃n r,Dn n l m j=some r) (Classical.propDecidable _) (λh=>Dn h.choose l m j) (λ_=>none)
def Iy(B:List AE)(E:List AE)(l:Int)(w:List AE)(j:Int)(A:Int):Option ((Int × Int) ⊕ Int):=
 if(decide (A<(B.length:Int))) then(
 AB (
 AB (AM B A) λ(q:AE)=>
 AB (gd ((decide (l<q.Item))==true) (CB w 0 (E.length:Int))) λ(F:List AE)=>
 AB (gd ((decide (l<q.Item))==true) (H3 F q.Item)) λ(C:Int)=>
 AB (gd ((((l<q.Item)&&(C<0))==true)&&((decide (j<0))==false)) (AM B j)) λ(I:AE)=>
 if(((l<q.Item)&&(C<0))&&((j<0)||(q.Item<I.Item))) then(
 some A
 ) else(
 some j
 )
 ) λ(m:Int)=>
 AB (AS .i64 (A+1)) λ(J:Int)=>
 some (.inl (m,J))
 ) else(
 some (.inr j)
 )
def H9(w:List AE)(A:List AE)(m:Int)(j:List AE):Option ((Int × (List AE)) ⊕ (As Unit ((List AE) × Int))):=
 AB (iter (λ(a:Int × Int)=>Iy w A m j a.1 a.2) ((-1),0)) λ(l:Int)=>
 if(decide (l<0)) then(
 some (.inr (.ext (j,(A.length:Int))))
 ) else(
 AB (AM w l) λ(B:AE)=>
 AB (app 56 j [B]) λ(q:List AE)=>
 some (.inl (B.Item,q))
 )
def Iz(m:List Ax):Option ((List AE) × Int):=
 CT (LU m) λ(j:List AE) (q:List AE)=>
 AB (OJ [] j 0) λ(l:List AE)=>
 Az (iter (λ(a:Int × (List AE))=>H9 j l a.1 a.2) (0,l)) λ(w:Unit)=>
 none
def JI(j:List AE)(l:Int)(m2:List (Int × Bool)):Option ((Int × (List (Int × Bool))) ⊕ (As Unit Int)):=
 if(decide (l<(j.length:Int))) then(
 AB (AM j l) λ(m:AE)=>
 if(!((AU m2 m.Parent).getD false)) then(
 some (.inr (.ext l))
 ) else(
 AB (AS .i64 (l+1)) λ(q:Int)=>
 some (.inl (q,(An m2 m.Item true)))
 )
 ) else(
 some (.inr (.nrm ()))
 )
def Ni(j:List AE):Option (Int):=
 Az (iter (λ(a:Int × (List (Int × Bool)))=>JI j a.1 a.2) (0,(An ([]:List (Int × Bool)) 0 true))) λ(l:Unit)=>
 some (j.length:Int)
end
noncomputable section
end
noncomputable section
structure Aw where
 id:Int
 parent:Int
 visible:Bool
deriving DecidableEq
instance:Inhabited Aw:=⟨⟨0,0,false⟩⟩
structure Ac where
 ID:Int
 Parent:Int
 Visible:Bool
deriving DecidableEq
instance:Inhabited Ac:=⟨⟨0,0,false⟩⟩
@[reducible] def Ac.row(x:Ac):List RV:=[.int .i64 x.ID,.int .i64 x.Parent,.bool x.Visible]
def Ii(d1:AP)(l:Int)(j:AP):Option ((Int × AP) ⊕ AP):=
 if(decide (l<(d1.Nodes.length:Int))) then(
 AB (AM d1.Nodes l) λ(m:AI)=>
 AB (PX m) λ(q:AI)=>
 AB (AM j.Nodes l) λ(A:AI)=>
 AB (AS .i64 (l+1)) λ(w:Int)=>
 some (.inl (w,(AP.mk (j.Nodes.set l.toNat q))))
 ) else(
 some (.inr j)
 )
def PU(d1:AP):Option (AP):=
 AB (mk 152 (d1.Nodes.length:Int) (AI.mk 0 0 [] [] (Ar.mk 0 0 [] []) [])) λ(l:List AI)=>
 AB (iter (λ(a:Int × AP)=>Ii d1 a.1 a.2) (0,(AP.mk l))) λ(j:AP)=>
 some j
def SD(d1:AP):Option (AP):=
 AB (PU d1) λ(j:AP)=>
 some j
def G0(l:List (List RV)→Option Bool)(j:List (List RV))(v1:Aw):Option (Bool × (List (List RV))):=
 AB (l (j++[[.int .i64 v1.id,.int .i64 v1.parent]])) λ(m:Bool)=>
 some (m,(j++[[.int .i64 v1.id,.int .i64 v1.parent]]))
def Rl(j:List UInt8):Option (Int × Bool):=
 atoiS j
def strconv_Itoa(n1:Int):Option (List UInt8):=
 itoaS n1
def IL(d1:AP)(A:List AE)(q:Int)(j:List Int):Option ((Int × (List Int)) ⊕ (List Int)):=
 if(decide (q<(A.length:Int))) then(
 AB (
 AB (AM A q) λ(F:AE)=>
 AB (FP F.Attrs [110,111,100,101]) λ(B:List UInt8)=>
 CT (Rl B) λ(w:Int) (C:Bool)=>
 AB (gd ((!C)==false) (strconv_Itoa w)) λ(I:List UInt8)=>
 if((!C)||(!(I=B))) then(
 some j
 ) else(
 CT (FX d1 w) λ(J:Int) (E:Bool)=>
 AB (gd (E==true) (AM d1.Nodes J)) λ(M:AI)=>
 if(E&&(M.Kind=1)) then(
 AB (app 8 j [w]) λ(l:List Int)=>
 some l
 ) else(
 some j
 )
 )
 ) λ(m:List Int)=>
 AB (AS .i64 (q+1)) λ(O:Int)=>
 some (.inl (O,m))
 ) else(
 some (.inr j)
 )
def GF(d1:AP)(n1:AI):Option ((List Int)):=
 AB (OI n1.Draw) λ(l:List AE)=>
 AB (Ni l) λ(m:Int)=>
 AB (CB l 0 m) λ(q:List AE)=>
 AB (iter (λ(a:Int × (List Int))=>IL d1 q a.1 a.2) (0,[])) λ(j:List Int)=>
 some j
def Td(E:List (List RV)→Option Bool)(F:AP)(v1:Aw)(self:(List (List RV)→Option Bool)→(List (Int × Bool))→(List (List RV))→AP→Aw→Option (Bool × (List (Int × Bool)) × (List (List RV))))(A:List Int)(m:Int)(l:List (Int × Bool))(j:List (List RV)):Option ((Int × (List (Int × Bool)) × (List (List RV))) ⊕ (As ((List (Int × Bool)) × (List (List RV))) (Bool × (List (Int × Bool)) × (List (List RV))))):=
 if(decide (m<(A.length:Int))) then(
 AB (AM A m) λ(q:Int)=>
 EC (self E l j F (Aw.mk q v1.id v1.visible)) λ(I:Bool) (B:List (Int × Bool)) (C:List (List RV))=>
 if(!I) then(
 some (.inr (.ext (false,B,C)))
 ) else(
 AB (AS .i64 (m+1)) λ(w:Int)=>
 some (.inl (w,B,C))
 )
 ) else(
 some (.inr (.nrm (l,j)))
 )
def Uj(I:List (List RV)→Option Bool)(J:AP)(v1:Aw)(self:(List (List RV)→Option Bool)→(List (Int × Bool))→(List (List RV))→AP→Aw→Option (Bool × (List (Int × Bool)) × (List (List RV))))(w:AI)(A:Int)(B:List (Int × Bool))(m:List (List RV)):Option ((Int × (List (Int × Bool)) × (List (List RV))) ⊕ (As ((List (Int × Bool)) × (List (List RV))) (Bool × (List (Int × Bool)) × (List (List RV))))):=
 if(decide (A<(w.Grid.Cells.length:Int))) then(
 AB (AM w.Grid.Cells A) λ(j:Aj)=>
 AB (He w.Grid j.Row j.Col) λ(F:Ai)=>
 EC (
 if((!(j.Ref=0))==true) then(
 EC (self I B m J (Aw.mk j.Ref v1.id ((v1.visible&&(F.Row=j.Row))&&(F.Col=j.Col)))) λ(M:Bool) (O:List (Int × Bool)) (T:List (List RV))=>
 some (((!(j.Ref=0))&&(!M)),O,T)
 ) else(
 some (((!(j.Ref=0))&&false),B,m)
 )
 ) λ(C:Bool) (q:List (Int × Bool)) (l:List (List RV))=>
 if C then(
 some (.inr (.ext (false,q,l)))
 ) else(
 AB (AS .i64 (A+1)) λ(E:Int)=>
 some (.inl (E,q,l))
 )
 ) else(
 some (.inr (.nrm (B,m)))
 )
def U3(E:List (List RV)→Option Bool)(F:AP)(v1:Aw)(self:(List (List RV)→Option Bool)→(List (Int × Bool))→(List (List RV))→AP→Aw→Option (Bool × (List (Int × Bool)) × (List (List RV))))(w:List Int)(l:Int)(A:List (Int × Bool))(j:List (List RV)):Option ((Int × (List (Int × Bool)) × (List (List RV))) ⊕ (As ((List (Int × Bool)) × (List (List RV))) (Bool × (List (Int × Bool)) × (List (List RV))))):=
 if(decide (l<(w.length:Int))) then(
 AB (AM w l) λ(m:Int)=>
 EC (self E A j F (Aw.mk m v1.id v1.visible)) λ(I:Bool) (B:List (Int × Bool)) (C:List (List RV))=>
 if(!I) then(
 some (.inr (.ext (false,B,C)))
 ) else(
 AB (AS .i64 (l+1)) λ(q:Int)=>
 some (.inl (q,B,C))
 )
 ) else(
 some (.inr (.nrm (A,j)))
 )
def SU(self:(List (List RV)→Option Bool)→(List (Int × Bool))→(List (List RV))→AP→Aw→Option (Bool × (List (Int × Bool)) × (List (List RV))))(q:List (List RV)→Option Bool)(w:List (Int × Bool))(l:List (List RV))(j:AP)(v1:Aw):Option (Bool × (List (Int × Bool)) × (List (List RV))):=
 if((AU w v1.id).getD false) then(
 some (true,w,l)
 ) else(
 CT (G0 q l v1) λ(I:Bool) (F:List (List RV))=>
 if(!I) then(
 some (false,(An w v1.id true),F)
 ) else(
 CT (FX j v1.id) λ(J:Int) (V:Bool)=>
 AB (AM j.Nodes J) λ(A:AI)=>
 AB (K0 A.Flow) λ(M:List Int)=>
 F8 (iter (λ(a:Int × (List (Int × Bool)) × (List (List RV)))=>U3 q j v1 self M a.1 a.2.1 a.2.2) (0,(An w v1.id true),F)) λ(O:List (Int × Bool)) (B:List (List RV))=>
 F8 (iter (λ(a:Int × (List (Int × Bool)) × (List (List RV)))=>Uj q j v1 self A a.1 a.2.1 a.2.2) (0,O,B)) λ(T:List (Int × Bool)) (C:List (List RV))=>
 AB (GF j A) λ(U:List Int)=>
 F8 (iter (λ(a:Int × (List (Int × Bool)) × (List (List RV)))=>Td q j v1 self U a.1 a.2.1 a.2.2) (0,T,C)) λ(E:List (Int × Bool)) (m:List (List RV))=>
 some (true,E,m)
 )
 )
def HX:Nat→(List (List RV)→Option Bool)→(List (Int × Bool))→(List (List RV))→AP→Aw→Option (Bool × (List (Int × Bool)) × (List (List RV)))
 | 0,_,_,_,_,_=>none
 | n+1,l,m,j,q,v1=>SU (λl m j q v1=>HX n l m j q v1) l m j q v1
def P6(l:List (List RV)→Option Bool)(m:List (Int × Bool))(j:List (List RV))(q:AP)(v1:Aw):Option (Bool × (List (Int × Bool)) × (List (List RV))):=
 @dite _ (∃n r,HX n l m j q v1=some r) (Classical.propDecidable _) (λh=>HX h.choose l m j q v1) (λ_=>none)
def NH(l:List (List RV)→Option Bool)(j:List (List RV))(d1:AP):Option ((List (List RV))):=
 EC (P6 l ([]:List (Int × Bool)) j d1 (Aw.mk 1 0 true)) λ(q:Bool) (w:List (Int × Bool)) (m:List (List RV))=>
 some m
def IM(m:List (List RV)→Option Bool)(j:List (List RV))(l:AP):Option ((List (List RV))):=
 AB (D2 l) λ(q:Int)=>
 if(!(q=0)) then(
 some j
 ) else(
 AB (NH m j l) λ(w:List (List RV))=>
 some w
 )
def Ld(m:List Ac)(l:Int)(j:Int):Option (Int ⊕ (As Unit Int)):=
 if(decide (j<(m.length:Int))) then(
 AB (AM m j) λ(q:Ac)=>
 if(decide (q.ID=l)) then(
 some (.inr (.ext j))
 ) else(
 AB (AS .i64 (j+1)) λ(w:Int)=>
 some (.inl w)
 )
 ) else(
 some (.inr (.nrm ()))
 )
def Om(l:List Ac)(j:Int):Option (Int):=
 Az (iter (λ(a:Int)=>Ld l j a) 0) λ(m:Unit)=>
 some (-1)
def Hp(m:List UInt8)(q:Int)(l:Int):Option ((Int × Int) ⊕ (As Int Int)):=
 if(decide (l<(m.length:Int))) then(
 AB (AM m l) λ(j:UInt8)=>
 if(((j.toNat:Int)<48)||(57<(j.toNat:Int))) then(
 some (.inr (.ext (-1)))
 ) else(
 AB (AS .i64 (10 * q)) λ(w:Int)=>
 AB (AS .i64 (w+(IntKind.i64.wrap (IntKind.u8.wrap ((j.toNat:Int)-48))))) λ(A:Int)=>
 AB (AS .i64 (l+1)) λ(B:Int)=>
 some (.inl (A,B))
 )
 ) else(
 some (.inr (.nrm q))
 )
def Pk(j:List UInt8):Option (Int):=
 AB (gd (((j=[])||(10<(j.length:Int)))==false) (AM j 0)) λ(l:UInt8)=>
 if(((j=[])||(10<(j.length:Int)))||(((l.toNat:Int)=48)&&(1<(j.length:Int)))) then(
 some (-1)
 ) else(
 Az (iter (λ(a:Int × Int)=>Hp j a.1 a.2) (0,0)) λ(m:Int)=>
 some m
 )
def F3(d1:AP)(E:Ac)(self:(List Ac)→AP→Ac→Option (List Ac))(F:List AE)(I:Int)(q:Int)(j:List Ac):Option ((Int × (List Ac)) ⊕ (List Ac)):=
 if(decide (q<I)) then(
 AB (
 AB (AM F q) λ(w:AE)=>
 AB (Fb w.Attrs [110,111,100,101]) λ(J:List UInt8)=>
 AB (Pk J) λ(l:Int)=>
 AB (IG d1 l) λ(A:Int)=>
 AB (gd (((0<l)&&(0≤A))==true) (AM d1.Nodes A)) λ(B:AI)=>
 if(((0<l)&&(0≤A))&&(B.Kind=1)) then(
 AB (self j d1 (Ac.mk l E.ID E.Visible)) λ(M:List Ac)=>
 some M
 ) else(
 some j
 )
 ) λ(m:List Ac)=>
 AB (AS .i64 (q+1)) λ(C:Int)=>
 some (.inl (C,m))
 ) else(
 some (.inr j)
 )
def F0(d1:AP)(B:Ac)(self:(List Ac)→AP→Ac→Option (List Ac))(q:AI)(w:Int)(l:List Ac):Option ((Int × (List Ac)) ⊕ (List Ac)):=
 if(decide (w<(q.Grid.Cells.length:Int))) then(
 AB (
 AB (AM q.Grid.Cells w) λ(j:Aj)=>
 if(!(j.Ref=0)) then(
 AB (OG q.Grid j.Row j.Col) λ(C:Ai)=>
 AB (self l d1 (Ac.mk j.Ref B.ID ((B.Visible&&(C.Row=j.Row))&&(C.Col=j.Col)))) λ(E:List Ac)=>
 some E
 ) else(
 some l
 )
 ) λ(m:List Ac)=>
 AB (AS .i64 (w+1)) λ(A:Int)=>
 some (.inl (A,m))
 ) else(
 some (.inr l)
 )
def Fi(d1:AP)(A:Ac)(self:(List Ac)→AP→Ac→Option (List Ac))(B:AI)(q:Int)(j:List Ac):Option ((Int × (List Ac)) ⊕ (List Ac)):=
 if(decide (q<(B.Flow.length:Int))) then(
 AB (
 AB (AM B.Flow q) λ(m:AL)=>
 if(!(m.Ref=0)) then(
 AB (self j d1 (Ac.mk m.Ref A.ID A.Visible)) λ(C:List Ac)=>
 some C
 ) else(
 some j
 )
 ) λ(l:List Ac)=>
 AB (AS .i64 (q+1)) λ(w:Int)=>
 some (.inl (w,l))
 ) else(
 some (.inr j)
 )
def Jr(self:(List Ac)→AP→Ac→Option (List Ac))(j:List Ac)(d1:AP)(q:Ac):Option ((List Ac)):=
 AB (Om j q.ID) λ(C:Int)=>
 if(decide (0≤C)) then(
 some j
 ) else(
 AB (app 24 j [q]) λ(w:List Ac)=>
 AB (IG d1 q.ID) λ(E:Int)=>
 AB (AM d1.Nodes E) λ(B:AI)=>
 AB (iter (λ(a:Int × (List Ac))=>Fi d1 q self B a.1 a.2) (0,w)) λ(A:List Ac)=>
 AB (iter (λ(a:Int × (List Ac))=>F0 d1 q self B a.1 a.2) (0,A)) λ(l:List Ac)=>
 CT (Iz B.Draw) λ(F:List AE) (I:Int)=>
 AB (iter (λ(a:Int × (List Ac))=>F3 d1 q self F I a.1 a.2) (0,l)) λ(m:List Ac)=>
 some m
 )
def Ca:Nat→(List Ac)→AP→Ac→Option (List Ac)
 | 0,_,_,_=>none
 | n+1,j,l,m=>Jr (λj l m=>Ca n j l m) j l m
def QS(j:List Ac)(d1:AP)(l:Ac):Option ((List Ac)):=
 @dite _ (∃n r,Ca n j d1 l=some r) (Classical.propDecidable _) (λh=>Ca h.choose j d1 l) (λ_=>none)
def O0(d1:AP):Option ((List Ac)):=
 AB (QS [] d1 (Ac.mk 1 0 true)) λ(j:List Ac)=>
 some j
end
noncomputable section
end
noncomputable section
structure Dh where
 nodes:List AI
deriving DecidableEq
instance:Inhabited Dh:=⟨⟨[]⟩⟩
def Qy(j:List AL):Option ((List AI)):=
 some [(AI.mk 1 0 [] [(AL.mk 0 2 [])] (Ar.mk 0 0 [] []) []),(AI.mk 2 1 [] j (Ar.mk 0 0 [] []) [])]
def Ik(d1:AP)(l:Dh)(j:Int)(A:Int):Option Dh:=
 AB (PS d1 j) λ(q:Int)=>
 AB (AM d1.Nodes q) λ(m:AI)=>
 if(decide (m.Kind=11)) then(
 AB (app 152 l.nodes [m]) λ(w:List AI)=>
 some (Dh.mk w)
 ) else(
 some l
 )
def J9(d1:AP):Option (Dh):=
 AB (SD d1) λ(j:AP)=>
 AB (rng2 (λA=>IM A [] j) (λ(a:Dh)=>Ik d1 a) (Dh.mk [])) λ(l:Dh)=>
 some l
def Gk(w:Dh)(j:List UInt8)(l:List UInt8)(m:Int):Option (Int ⊕ (As Unit (AI × Bool))):=
 if(decide (m<(w.nodes.length:Int))) then(
 AB (AM w.nodes m) λ(q:AI)=>
 AB (gd ((!(j=[]))==true) (FP q.Attrs [110,97,109,101])) λ(A:List UInt8)=>
 AB (gd (((!(j=[]))&&(A=j))==true) (FP q.Attrs [111,102])) λ(B:List UInt8)=>
 if(((!(j=[]))&&(A=j))&&(B=l)) then(
 some (.inr (.ext (q,true)))
 ) else(
 AB (AS .i64 (m+1)) λ(C:Int)=>
 some (.inl C)
 )
 ) else(
 some (.inr (.nrm ()))
 )
def Np(m:Dh)(j:List UInt8)(l:List UInt8):Option (AI × Bool):=
 Az (iter (λ(a:Int)=>Gk m j l a) 0) λ(q:Unit)=>
 some ((AI.mk 0 0 [] [] (Ar.mk 0 0 [] []) []),false)
def Og(j:AI)(l:AI):Option (Bool):=
 some (decide (l.ID=j.ID))
def pt(m:AI)(l:List AI)(j:Int):Option (Int ⊕ (As Unit Int)):=
 if(decide (j<(l.length:Int))) then(
 AB (AM l j) λ(q:AI)=>
 AB (Og m q) λ(w:Bool)=>
 if w then(
 some (.inr (.ext j))
 ) else(
 AB (AS .i64 (j+1)) λ(A:Int)=>
 some (.inl A)
 )
 ) else(
 some (.inr (.nrm ()))
 )
def jK(j:AI)(l:List AI):Option (Int):=
 Az (iter (λ(a:Int)=>pt j l a) 0) λ(m:Unit)=>
 some (-1)
def rF(j:AI)(l:List AI):Option (Bool):=
 AB (jK j l) λ(m:Int)=>
 some (decide (0≤m))
def MT(l:List AI)(m:AI)(j:Int):Option (Int ⊕ (As Unit Int)):=
 if(decide (j<(l.length:Int))) then(
 AB (AM l j) λ(q:AI)=>
 AB (Og m q) λ(w:Bool)=>
 if w then(
 some (.inr (.ext j))
 ) else(
 AB (AS .i64 (j+1)) λ(A:Int)=>
 some (.inl A)
 )
 ) else(
 some (.inr (.nrm ()))
 )
def Ra(j:List AI)(l:AI):Option (Int):=
 Az (iter (λ(a:Int)=>MT j l a) 0) λ(m:Unit)=>
 some (-1)
def Pc(j:List AI)(l:AI):Option (Bool):=
 AB (Ra j l) λ(m:Int)=>
 some (decide (0≤m))
def MH(C:Dh)(w:List UInt8)(l:List UInt8)(j:List AI):Option (((List UInt8) × (List AI)) ⊕ (As Unit (List AI))):=
 CT (Np C l w) λ(A:AI) (B:Bool)=>
 AB (
 if((!B)==false) then(
 AB (Pc j A) λ(E:Bool)=>
 some ((!B)||E)
 ) else(
 some ((!B)||false)
 )
 ) λ(F:Bool)=>
 if F then(
 some (.inr (.ext j))
 ) else(
 AB (app 152 j [A]) λ(q:List AI)=>
 AB (FP A.Attrs [98,97,115,101]) λ(m:List UInt8)=>
 some (.inl (m,q))
 )
def Lk(m:Dh)(j:List UInt8)(l:List UInt8):Option ((List AI)):=
 Az (iter (λ(a:(List UInt8) × (List AI))=>MH m l a.1 a.2) (j,[])) λ(q:Unit)=>
 none
def UH(j:List AI):Option ((List AI)):=
 some j
def H5(B:AI)(w:Int)(j:List AC):Option ((Int × (List AC)) ⊕ (List AC)):=
 if(decide (w<(B.Attrs.length:Int))) then(
 AB (
 AB (AM B.Attrs w) λ(q:AC)=>
 AB (gd ((decide (2<(q.Name.length:Int)))==true) (CB q.Name 0 2)) λ(A:List UInt8)=>
 AB (gd (((2<(q.Name.length:Int))&&(A=[112,46]))==true) (CB q.Name 2 (q.Name.length:Int))) λ(C:List UInt8)=>
 AB (gd (((2<(q.Name.length:Int))&&(A=[112,46]))==true) (Jy C)) λ(E:Bool)=>
 if(((2<(q.Name.length:Int))&&(A=[112,46]))&&E) then(
 AB (CB q.Name 2 (q.Name.length:Int)) λ(F:List UInt8)=>
 AB (app 32 j [(AC.mk F q.Value)]) λ(l:List AC)=>
 some l
 ) else(
 some j
 )
 ) λ(m:List AC)=>
 AB (AS .i64 (w+1)) λ(I:Int)=>
 some (.inl (I,m))
 ) else(
 some (.inr j)
 )
def Hy(l:List AC)(w:Int)(m:AI):Option (List AC):=
 AB (iter (λ(a:Int × (List AC))=>H5 m a.1 a.2) (0,[])) λ(j:List AC)=>
 AB (GE l j) λ(q:List AC)=>
 some q
def Gm(q:Dh)(j:List UInt8)(m:List UInt8):Option ((List AC)):=
 AB (Lk q j m) λ(w:List AI)=>
 AB (UH w) λ(A:List AI)=>
 AB (L5 A (λ(a:(List AC))=>Hy a) []) λ(l:List AC)=>
 some l
def IQ(j:List AC):Option ((List AC)):=
 AB (GE j [(AC.mk [115,116,121,108,101] [])]) λ(l:List AC)=>
 some l
def NF(q:Dh)(w:List AC)(j:List AC):Option ((List AC)):=
 AB (FP j [115,116,121,108,101]) λ(A:List UInt8)=>
 AB (Gm q A [112,97,114,97,103,114,97,112,104]) λ(B:List AC)=>
 AB (IQ B) λ(l:List AC)=>
 AB (FP w [115,116,121,108,101]) λ(C:List UInt8)=>
 AB (Gm q C [116,101,120,116]) λ(E:List AC)=>
 AB (IQ E) λ(F:List AC)=>
 AB (GE l F) λ(m:List AC)=>
 AB (IQ w) λ(I:List AC)=>
 AB (GE m I) λ(J:List AC)=>
 some J
def Hb(d1:AP)(l:AL)(j:List AC):Option ((List AC) × Int):=
 AB (D2 d1) λ(m:Int)=>
 if(!(m=0)) then(
 some ([],m)
 ) else(
 AB (NV [l]) λ(q:Int)=>
 if(!(q=0)) then(
 some ([],q)
 ) else(
 AB (Gu j) λ(w:Int)=>
 if(!(w=0)) then(
 some ([],w)
 ) else(
 AB (J9 d1) λ(A:Dh)=>
 AB (NF A l.Attrs j) λ(B:List AC)=>
 some (B,0)
 )
 )
 )
def Oe:Option (Bool):=
 AB (Ls) λ(w:AL)=>
 AB (Qy [w]) λ(q:List AI)=>
 AB (AM q 0) λ(j:AI)=>
 AB (Re 40 j.Flow [(AL.mk 0 3 [])]) λ(A:List AL)=>
 AB (app 152 (q.set (0:Int).toNat (AI.mk j.ID j.Kind j.Attrs A j.Grid j.Draw)) [(AI.mk 3 11 [(AC.mk [110,97,109,101] [104]),(AC.mk [111,102] [112,97,114,97,103,114,97,112,104]),(AC.mk [112,46,98,111,108,100] [111,110])] [] (Ar.mk 0 0 [] []) [])]) λ(B:List AI)=>
 CT (Hb (AP.mk B) (AL.mk 97 0 []) [(AC.mk [115,116,121,108,101] [104])]) λ(C:List AC) (l:Int)=>
 AB (Nb) λ(m:Bool)=>
 AB (
 if((m&&(l=0))==true) then(
 AB (Qq [98,111,108,100]) λ(E:List AC)=>
 AB (GH C E) λ(F:Bool)=>
 some ((m&&(l=0))&&F)
 ) else(
 some ((m&&(l=0))&&false)
 )
 ) λ(I:Bool)=>
 some I
def Iv(q:List AI)(m:Int)(j:List (List UInt8)):Option ((Int × (List (List UInt8))) ⊕ (List (List UInt8))):=
 if(decide (m<(q.length:Int))) then(
 AB (AM q m) λ(w:AI)=>
 AB (FP w.Attrs [110,97,109,101]) λ(A:List UInt8)=>
 AB (app 16 j [A]) λ(l:List (List UInt8))=>
 AB (AS .i64 (m+1)) λ(B:Int)=>
 some (.inl (B,l))
 ) else(
 some (.inr j)
 )
def LN(d1:AP)(j:List UInt8)(m:List UInt8):Option ((List (List UInt8)) × Int):=
 AB (D2 d1) λ(q:Int)=>
 if(!(q=0)) then(
 some ([],q)
 ) else(
 AB (J9 d1) λ(w:Dh)=>
 AB (Lk w j m) λ(A:List AI)=>
 AB (iter (λ(a:Int × (List (List UInt8)))=>Iv A a.1 a.2) (0,[])) λ(l:List (List UInt8))=>
 some (l,0)
 )
def Pu(l:Dh)(j:List AC):Option ((List AC)):=
 AB (FP j [115,116,121,108,101]) λ(m:List UInt8)=>
 AB (Gm l m [112,97,114,97,103,114,97,112,104]) λ(q:List AC)=>
 AB (IQ q) λ(w:List AC)=>
 AB (IQ j) λ(A:List AC)=>
 AB (GE w A) λ(B:List AC)=>
 some B
def KT(d1:AP)(j:List AC):Option ((List AC) × Int):=
 AB (D2 d1) λ(l:Int)=>
 if(!(l=0)) then(
 some ([],l)
 ) else(
 AB (Gu j) λ(m:Int)=>
 if(!(m=0)) then(
 some ([],m)
 ) else(
 AB (J9 d1) λ(q:Dh)=>
 AB (Pu q j) λ(w:List AC)=>
 some (w,0)
 )
 )
def IP(d1:AP)(t1:List Ac)(q:Int)(j:List AI):Option ((Int × (List AI)) ⊕ (List AI)):=
 if(decide (q<(t1.length:Int))) then(
 AB (
 AB (AM t1 q) λ(A:Ac)=>
 AB (IG d1 A.ID) λ(B:Int)=>
 AB (AM d1.Nodes B) λ(w:AI)=>
 if(decide (w.Kind=11)) then(
 AB (app 152 j [w]) λ(l:List AI)=>
 some l
 ) else(
 some j
 )
 ) λ(m:List AI)=>
 AB (AS .i64 (q+1)) λ(C:Int)=>
 some (.inl (C,m))
 ) else(
 some (.inr j)
 )
def OS(d1:AP):Option ((List AI)):=
 AB (O0 d1) λ(l:List Ac)=>
 AB (iter (λ(a:Int × (List AI))=>IP d1 l a.1 a.2) (0,[])) λ(j:List AI)=>
 some j
def Gy(q:List AI)(j:List AI)(l:Int)(m:Int):Option (Int ⊕ (As Unit (((List UInt8) × (List AI)) ⊕ (As Unit (List AI))))):=
 if(decide (m<(j.length:Int))) then(
 AB (AM j m) λ(w:AI)=>
 AB (AM q l) λ(A:AI)=>
 if(decide (w.ID=A.ID)) then(
 some (.inr (.ext (.inr (.ext j))))
 ) else(
 AB (AS .i64 (m+1)) λ(B:Int)=>
 some (.inl B)
 )
 ) else(
 some (.inr (.nrm ()))
 )
def H2(q:List UInt8)(C:List AI)(j:List UInt8)(l:Int)(m:Int):Option ((Int × Int) ⊕ Int):=
 if(decide (0≤m)) then(
 AB (
 AB (gd ((!(j=[]))==true) (AM C m)) λ(E:AI)=>
 AB (gd ((!(j=[]))==true) (Fb E.Attrs [110,97,109,101])) λ(w:List UInt8)=>
 AB (gd (((!(j=[]))&&(w=j))==true) (AM C m)) λ(F:AI)=>
 AB (gd (((!(j=[]))&&(w=j))==true) (Fb F.Attrs [111,102])) λ(I:List UInt8)=>
 if(((!(j=[]))&&(w=j))&&(I=q)) then(
 some m
 ) else(
 some l
 )
 ) λ(A:Int)=>
 AB (AS .i64 (m-1)) λ(B:Int)=>
 some (.inl (A,B))
 ) else(
 some (.inr l)
 )
def Ln(B:List UInt8)(A:List AI)(l:List UInt8)(j:List AI):Option (((List UInt8) × (List AI)) ⊕ (As Unit (List AI))):=
 AB (AS .i64 ((A.length:Int)-1)) λ(E:Int)=>
 AB (iter (λ(a:Int × Int)=>H2 B A l a.1 a.2) ((-1),E)) λ(m:Int)=>
 if(decide (m<0)) then(
 some (.inr (.ext j))
 ) else(
 Az (iter (λ(a:Int)=>Gy A j m a) 0) λ(F:Unit)=>
 AB (AM A m) λ(C:AI)=>
 AB (app 152 j [C]) λ(w:List AI)=>
 AB (Fb C.Attrs [98,97,115,101]) λ(q:List UInt8)=>
 some (.inl (q,w))
 )
def LY(d1:AP)(j:List UInt8)(l:List UInt8):Option ((List AI)):=
 AB (OS d1) λ(m:List AI)=>
 Az (iter (λ(a:(List UInt8) × (List AI))=>Ln l m a.1 a.2) (j,[])) λ(q:Unit)=>
 none
def MU(l:List UInt8)(j:List UInt8):Option (Bool):=
 AB (gd ((decide ((j.length:Int)<(l.length:Int)))==true) (CB l 0 (j.length:Int))) λ(m:List UInt8)=>
 some (((j.length:Int)<(l.length:Int))&&(m=j))
def Ho(C:AI)(l:List AC)(A:Int):Option (((List AC) × Int) ⊕ (List AC)):=
 if(decide (A<(C.Attrs.length:Int))) then(
 AB (
 AB (AM C.Attrs A) λ(j:AC)=>
 AB (MU j.Name [112,46]) λ(q:Bool)=>
 AB (gd (q==true) (CB j.Name 2 (j.Name.length:Int))) λ(E:List UInt8)=>
 AB (gd (q==true) (JR E)) λ(B:Bool)=>
 AB (gd ((q&&B)==true) (CB j.Name 2 (j.Name.length:Int))) λ(F:List UInt8)=>
 AB (gd ((q&&B)==true) (Lm l F)) λ(I:Bool)=>
 if((q&&B)&&(!I)) then(
 AB (CB j.Name 2 (j.Name.length:Int)) λ(J:List UInt8)=>
 AB (Ir l (AC.mk J j.Value)) λ(m:List AC)=>
 some m
 ) else(
 some l
 )
 ) λ(w:List AC)=>
 AB (AS .i64 (A+1)) λ(M:Int)=>
 some (.inl (w,M))
 ) else(
 some (.inr l)
 )
def IC(q:List AI)(j:List AC)(m:Int):Option (((List AC) × Int) ⊕ (List AC)):=
 if(decide (m<(q.length:Int))) then(
 AB (AM q m) λ(w:AI)=>
 AB (iter (λ(a:(List AC) × Int)=>Ho w a.1 a.2) (j,0)) λ(l:List AC)=>
 AB (AS .i64 (m+1)) λ(A:Int)=>
 some (.inl (l,A))
 ) else(
 some (.inr j)
 )
def Gw(d1:AP)(j:List UInt8)(m:List UInt8):Option ((List AC)):=
 AB (LY d1 j m) λ(q:List AI)=>
 AB (iter (λ(a:(List AC) × Int)=>IC q a.1 a.2) ([],0)) λ(l:List AC)=>
 some l
def IS(j:List AC):Option ((List AC)):=
 AB (Gg j [(AC.mk [115,116,121,108,101] [])]) λ(l:List AC)=>
 some l
def Oi(d1:AP)(j:List AC):Option ((List AC)):=
 AB (Fb j [115,116,121,108,101]) λ(l:List UInt8)=>
 AB (Gw d1 l [112,97,114,97,103,114,97,112,104]) λ(m:List AC)=>
 AB (IS m) λ(q:List AC)=>
 AB (IS j) λ(w:List AC)=>
 AB (Gg q w) λ(A:List AC)=>
 some A
def Oc(d1:AP)(q:List AC)(j:List AC):Option ((List AC)):=
 AB (Fb j [115,116,121,108,101]) λ(w:List UInt8)=>
 AB (Gw d1 w [112,97,114,97,103,114,97,112,104]) λ(A:List AC)=>
 AB (IS A) λ(l:List AC)=>
 AB (Fb q [115,116,121,108,101]) λ(B:List UInt8)=>
 AB (Gw d1 B [116,101,120,116]) λ(C:List AC)=>
 AB (IS C) λ(E:List AC)=>
 AB (Gg l E) λ(m:List AC)=>
 AB (IS q) λ(F:List AC)=>
 AB (Gg m F) λ(I:List AC)=>
 some I
def HS(w:List (List UInt8))(A:List AI)(j:Int):Option (Int ⊕ (As Unit Bool)):=
 if(decide (j<(w.length:Int))) then(
 AB (AM w j) λ(B:List UInt8)=>
 AB (AM A j) λ(l:AI)=>
 AB (Fb l.Attrs [110,97,109,101]) λ(m:List UInt8)=>
 if(!(B=m)) then(
 some (.inr (.ext false))
 ) else(
 AB (AS .i64 (j+1)) λ(q:Int)=>
 some (.inl q)
 )
 ) else(
 some (.inr (.nrm ()))
 )
def SW(d1:AP)(F:AL)(j:List AC)(m:List UInt8)(C:List UInt8):Option (Bool):=
 AB (Oe) λ(X:Bool)=>
 if(!X) then(
 some false
 ) else(
 CT (LN d1 m C) λ(I:List (List UInt8)) (E:Int)=>
 CT (Hb d1 F j) λ(J:List AC) (A:Int)=>
 CT (KT d1 j) λ(B:List AC) (q:Int)=>
 AB (Nh d1) λ(w:Int)=>
 if(!(w=0)) then(
 AB (gd ((((E=w)&&(A=w))&&(q=w))==true) (AS .i64 ((I.length:Int)+(J.length:Int)))) λ(Z:Int)=>
 AB (gd ((((E=w)&&(A=w))&&(q=w))==true) (AS .i64 (Z+(B.length:Int)))) λ(x3:Int)=>
 some ((((E=w)&&(A=w))&&(q=w))&&(x3=0))
 ) else(
 AB (LY d1 m C) λ(T:List AI)=>
 if((!(E=0))||(!((I.length:Int)=(T.length:Int)))) then(
 some false
 ) else(
 Az (iter (λ(a:Int)=>HS I T a) 0) λ(u2:Unit)=>
 AB (Mu F) λ(U:Int)=>
 AB (Ja j false) λ(l:Int)=>
 AB (
 if(((!(l=0))&&((!(q=l))||(!((B.length:Int)=0))))==false) then(
 if((decide (l=0))==true) then(
 if((!(q=0))==false) then(
 AB (Oi d1 j) λ(M:List AC)=>
 AB (GH B M) λ(O:Bool)=>
 some (((!(l=0))&&((!(q=l))||(!((B.length:Int)=0))))||((l=0)&&((!(q=0))||(!O))))
 ) else(
 some (((!(l=0))&&((!(q=l))||(!((B.length:Int)=0))))||((l=0)&&((!(q=0))||false)))
 )
 ) else(
 some (((!(l=0))&&((!(q=l))||(!((B.length:Int)=0))))||((l=0)&&false))
 )
 ) else(
 some (((!(l=0))&&((!(q=l))||(!((B.length:Int)=0))))||false)
 )
 ) λ(x7:Bool)=>
 if x7 then(
 some false
 ) else(
 AB (
 if(decide (U=0)) then(
 some l
 ) else(
 some U
 )
 ) λ(V:Int)=>
 if(!(V=0)) then(
 some ((A=V)&&((J.length:Int)=0))
 ) else(
 AB (
 if((decide (A=0))==true) then(
 AB (Oc d1 F.Attrs j) λ(r8:List AC)=>
 AB (GH J r8) λ(r9:Bool)=>
 some ((A=0)&&r9)
 ) else(
 some ((A=0)&&false)
 )
 ) λ(x8:Bool)=>
 some x8
 )
 )
 )
 )
 )
end
end Go.Proofs.YtifgmfoihehlbaaGreatDoor.Al
