/- Models, as printed. -/
import Derived.Test.YtmogkkigacadpaaGreatDoorAl3
set_option linter.all false
namespace Go.Proofs.YtmogkkigacadpaaGreatDoor.Al
noncomputable section
structure JJ where
 Kind:Int
 N:Int
deriving DecidableEq
instance:Inhabited JJ:=⟨⟨0,0⟩⟩
structure ZH where
 steps:List JJ
 used:Int
deriving DecidableEq
instance:Inhabited ZH:=⟨⟨[],0⟩⟩
structure UD where
 out:List JJ
 add:Int
 cut:Int
deriving DecidableEq
instance:Inhabited UD:=⟨⟨[],0,0⟩⟩
structure AG where
 Name:List UInt8
 Value:List UInt8
deriving DecidableEq
instance:Inhabited AG:=⟨⟨[],[]⟩⟩
@[reducible] def AG.row(x:AG):List RV:=[.str x.Name,.str x.Value]
structure AP where
 Char:Int
 Ref:Int
 Attrs:List AG
deriving DecidableEq
instance:Inhabited AP:=⟨⟨0,0,[]⟩⟩
@[reducible] def AP.row(x:AP):List RV:=[.int .i64 x.Char,.int .i64 x.Ref,.sl (x.Attrs.map AG.row)]
structure Am where
 Row:Int
 Col:Int
 Text:List UInt8
 Ref:Int
 Attrs:List AG
deriving DecidableEq
instance:Inhabited Am:=⟨⟨0,0,[],0,[]⟩⟩
@[reducible] def Am.row(x:Am):List RV:=[.int .i64 x.Row,.int .i64 x.Col,.str x.Text,.int .i64 x.Ref,.sl (x.Attrs.map AG.row)]
structure Ak where
 Row:Int
 Col:Int
 H:Int
 W:Int
deriving DecidableEq
instance:Inhabited Ak:=⟨⟨0,0,0,0⟩⟩
@[reducible] def Ak.row(x:Ak):List RV:=[.int .i64 x.Row,.int .i64 x.Col,.int .i64 x.H,.int .i64 x.W]
structure A5 where
 Rows:Int
 Cols:Int
 Cells:List Am
 Merges:List Ak
deriving DecidableEq
instance:Inhabited A5:=⟨⟨0,0,[],[]⟩⟩
@[reducible] def A5.row(x:A5):List RV:=[.int .i64 x.Rows,.int .i64 x.Cols,.sl (x.Cells.map Am.row),.sl (x.Merges.map Ak.row)]
structure Au where
 Clock:Int
 Site:Int
 Kind:Int
 Item:Int
 Parent:Int
 Place:List UInt8
 Name:List UInt8
 Value:List UInt8
deriving DecidableEq
instance:Inhabited Au:=⟨⟨0,0,0,0,0,[],[],[]⟩⟩
@[reducible] def Au.row(x:Au):List RV:=[.int .i64 x.Clock,.int .i64 x.Site,.int .i64 x.Kind,.int .i64 x.Item,.int .i64 x.Parent,.str x.Place,.str x.Name,.str x.Value]
structure AX where
 ID:Int
 Kind:Int
 Attrs:List AG
 Flow:List AP
 Grid:A5
 Draw:List Au
deriving DecidableEq
instance:Inhabited AX:=⟨⟨0,0,[],[],(A5.mk 0 0 [] []),[]⟩⟩
@[reducible] def AX.row(x:AX):List RV:=[.int .i64 x.ID,.int .i64 x.Kind,.sl (x.Attrs.map AG.row),.sl (x.Flow.map AP.row),.int .i64 x.Grid.Rows,.int .i64 x.Grid.Cols,.sl (x.Grid.Cells.map Am.row),.sl (x.Grid.Merges.map Ak.row),.sl (x.Draw.map Au.row)]
structure GStep where
 Kind:Int
 N:Int
 Attrs:List AG
 Elems:List AP
deriving DecidableEq
instance:Inhabited GStep:=⟨⟨0,0,[],[]⟩⟩
structure Nw where
 Rows:List JJ
 Cols:List JJ
 Cells:List Am
 Split:List Ak
 Merge:List Ak
deriving DecidableEq
instance:Inhabited Nw:=⟨⟨[],[],[],[],[]⟩⟩
structure Ve where
 Kind:Int
 Node:Int
 New:AX
 Attrs:List AG
 Steps:List GStep
 Grid:Nw
 Draw:List Au
deriving DecidableEq
instance:Inhabited Ve:=⟨⟨0,0,(AX.mk 0 0 [] [] (A5.mk 0 0 [] []) []),[],[],(Nw.mk [] [] [] [] []),[]⟩⟩
structure gW where
 Site:Int
 Number:Int
 Change:List Ve
 Undoes:Int
 Refused:Int
deriving DecidableEq
instance:Inhabited gW:=⟨⟨0,0,[],0,0⟩⟩
structure Yp where
 From:Int
 To:Int
deriving DecidableEq
instance:Inhabited Yp:=⟨⟨0,0⟩⟩
def Cm(m:Int)(l:Int)(j:Int):Option (Bool):=
 some ((l≤m)&&(m≤j))
def MH(l:List Int)(m:List Int)(j:Int):Option (Int ⊕ (Ar Unit Bool)):=
 if(decide (j<(l.length:Int))) then(
 AC (AM l j) λ(q:Int)=>
 AC (AM m j) λ(w:Int)=>
 if(!(q=w)) then(
 some (.inr (.ext false))
 ) else(
 AC (AS .i64 (j+1)) λ(A:Int)=>
 some (.inl A)
 )
 ) else(
 some (.inr (.nrm ()))
 )
def KJ(j:List Int)(l:List Int):Option (Bool):=
 if(!((j.length:Int)=(l.length:Int))) then(
 some false
 ) else(
 Ay (iter (λ(a:Int)=>MH j l a) 0) λ(m:Unit)=>
 some true
 )
def Ld(m:List UInt8)(l:Int):Option (Int ⊕ (Ar Unit Bool)):=
 if(decide (l<(m.length:Int))) then(
 AC (AM m l) λ(j:UInt8)=>
 if((((((j.toNat:Int)<97)||(122<(j.toNat:Int)))&&(((j.toNat:Int)<48)||(57<(j.toNat:Int))))&&(!((j.toNat:Int)=46)))&&(!((j.toNat:Int)=45))) then(
 some (.inr (.ext false))
 ) else(
 AC (AS .i64 (l+1)) λ(q:Int)=>
 some (.inl q)
 )
 ) else(
 some (.inr (.nrm ()))
 )
def KQ(j:List UInt8):Option (Bool):=
 AC (gd (((j=[])||(24<(j.length:Int)))==false) (AM j 0)) λ(l:UInt8)=>
 AC (gd ((((j=[])||(24<(j.length:Int)))||((l.toNat:Int)<97))==false) (AM j 0)) λ(m:UInt8)=>
 if((((j=[])||(24<(j.length:Int)))||((l.toNat:Int)<97))||(122<(m.toNat:Int))) then(
 some false
 ) else(
 Ay (iter (λ(a:Int)=>Ld j a) 0) λ(q:Unit)=>
 some true
 )
def ON(m:List UInt8)(l:Int):Option (Int ⊕ (Ar Unit Bool)):=
 if(decide (l<(m.length:Int))) then(
 AC (AM m l) λ(j:UInt8)=>
 if(((j.toNat:Int)<32)||(126<(j.toNat:Int))) then(
 some (.inr (.ext false))
 ) else(
 AC (AS .i64 (l+1)) λ(q:Int)=>
 some (.inl q)
 )
 ) else(
 some (.inr (.nrm ()))
 )
def Ke(j:List UInt8):Option (Bool):=
 if((j=[])||(200<(j.length:Int))) then(
 some false
 ) else(
 Ay (iter (λ(a:Int)=>ON j a) 0) λ(l:Unit)=>
 some true
 )
def Lc(q:List AG)(j:Bool)(l:Int):Option (Int ⊕ (Ar Unit Int)):=
 if(decide (l<(q.length:Int))) then(
 AC (AM q l) λ(m:AG)=>
 AC (KQ m.Name) λ(A:Bool)=>
 if(!A) then(
 some (.inr (.ext 9))
 ) else(
 AC (Ke m.Value) λ(B:Bool)=>
 if((!B)&&(!(j&&(m.Value=[])))) then(
 some (.inr (.ext 23))
 ) else(
 AC (gd ((decide (0<l))==true) (AS .i64 (l-1))) λ(C:Int)=>
 AC (gd ((decide (0<l))==true) (AM q C)) λ(w:AG)=>
 if((0<l)&&(Av m.Name w.Name||(m.Name=w.Name))) then(
 some (.inr (.ext 5))
 ) else(
 AC (AS .i64 (l+1)) λ(E:Int)=>
 some (.inl E)
 )
 )
 )
 ) else(
 some (.inr (.nrm ()))
 )
def MM(l:List AG)(j:Bool):Option (Int):=
 Ay (iter (λ(a:Int)=>Lc l j a) 0) λ(m:Unit)=>
 some 0
def I1(j:List AG):Option (Int):=
 AC (MM j false) λ(l:Int)=>
 some l
def JE(j:List AG)(m:AG)(l:AG):Option ((List AG)):=
 if(decide (l.Name=[])) then(
 AC (app 32 j [m]) λ(q:List AG)=>
 some q
 ) else(
 if(!(l.Value=[])) then(
 AC (app 32 j [l]) λ(w:List AG)=>
 some w
 ) else(
 some j
 )
 )
def OA(l:List AG)(q:List AG)(j:Int)(m:Int)(o2:List AG):Option ((Int × Int × (List AG)) ⊕ (Ar Unit (List AG))):=
 if((j<(l.length:Int))||(m<(q.length:Int))) then(
 AC (gd (((decide (m=(q.length:Int)))==false)&&((decide (j<(l.length:Int)))==true)) (AM l j)) λ(A:AG)=>
 AC (gd (((decide (m=(q.length:Int)))==false)&&((decide (j<(l.length:Int)))==true)) (AM q m)) λ(B:AG)=>
 if((m=(q.length:Int))||((j<(l.length:Int))&&(Av A.Name B.Name))) then(
 AC (AM l j) λ(C:AG)=>
 AC (JE o2 C (AG.mk [] [])) λ(E:List AG)=>
 AC (AS .i64 (j+1)) λ(F:Int)=>
 some (.inl (F,m,E))
 ) else(
 AC (gd ((decide (j=(l.length:Int)))==false) (AM q m)) λ(I:AG)=>
 AC (gd ((decide (j=(l.length:Int)))==false) (AM l j)) λ(J:AG)=>
 if((j=(l.length:Int))||(Av I.Name J.Name)) then(
 AC (AM q m) λ(M:AG)=>
 AC (JE o2 (AG.mk [] []) M) λ(O:List AG)=>
 AC (AS .i64 (m+1)) λ(T:Int)=>
 some (.inl (j,T,O))
 ) else(
 AC (AM l j) λ(U:AG)=>
 AC (AM q m) λ(V:AG)=>
 AC (JE o2 U V) λ(X:List AG)=>
 AC (AS .i64 (j+1)) λ(w:Int)=>
 AC (AS .i64 (m+1)) λ(Z:Int)=>
 some (.inl (w,Z,X))
 )
 )
 ) else(
 some (.inr (.ext o2))
 )
def M4(j:List AG)(l:List AG)(m:List AG):Option ((List AG)):=
 Ay (iter (λ(a:Int × Int × (List AG))=>OA l m a.1 a.2.1 a.2.2) (0,0,j)) λ(q:Unit)=>
 none
def LT(l:List AG)(j:List AG):Option ((List AG)):=
 AC (M4 [] l j) λ(m:List AG)=>
 some m
def OC(l:List AG)(w:List AG)(j:Int):Option (Int ⊕ (Ar Unit Bool)):=
 if(decide (j<(l.length:Int))) then(
 AC (AM l j) λ(m:AG)=>
 AC (AM w j) λ(q:AG)=>
 if(!((m.Name=q.Name)&&((m.Value=q.Value)&&true))) then(
 some (.inr (.ext false))
 ) else(
 AC (AS .i64 (j+1)) λ(A:Int)=>
 some (.inl A)
 )
 ) else(
 some (.inr (.nrm ()))
 )
def JQ(j:List AG)(l:List AG):Option (Bool):=
 if(!((j.length:Int)=(l.length:Int))) then(
 some false
 ) else(
 Ay (iter (λ(a:Int)=>OC j l a) 0) λ(m:Unit)=>
 some true
 )
def LZ(m:List UInt8)(l:Int):Option (Int ⊕ (Ar Unit Bool)):=
 if(decide (l<(m.length:Int))) then(
 AC (AM m l) λ(j:UInt8)=>
 if((!((97≤(j.toNat:Int))&&((j.toNat:Int)≤122)))&&((l=0)||(((!((j.toNat:Int)=46))&&(!((j.toNat:Int)=45)))&&(((j.toNat:Int)<48)||(57<(j.toNat:Int)))))) then(
 some (.inr (.ext false))
 ) else(
 AC (AS .i64 (l+1)) λ(q:Int)=>
 some (.inl q)
 )
 ) else(
 some (.inr (.nrm ()))
 )
def KV(j:List UInt8):Option (Bool):=
 Ay (iter (λ(a:Int)=>LZ j a) 0) λ(l:Unit)=>
 some ((1≤(j.length:Int))&&((j.length:Int)≤24))
def Nk(m:List UInt8)(l:Int):Option (Int ⊕ (Ar Unit Bool)):=
 if(decide (l<(m.length:Int))) then(
 AC (AM m l) λ(j:UInt8)=>
 if(((j.toNat:Int)<32)||(126<(j.toNat:Int))) then(
 some (.inr (.ext false))
 ) else(
 AC (AS .i64 (l+1)) λ(q:Int)=>
 some (.inl q)
 )
 ) else(
 some (.inr (.nrm ()))
 )
def LR(j:List UInt8):Option (Bool):=
 Ay (iter (λ(a:Int)=>Nk j a) 0) λ(l:Unit)=>
 some ((1≤(j.length:Int))&&((j.length:Int)≤200))
def KR(q:List AG)(j:Bool)(l:Int):Option (Int ⊕ (Ar Unit Int)):=
 if(decide (l<(q.length:Int))) then(
 AC (AM q l) λ(m:AG)=>
 AC (KV m.Name) λ(w:Bool)=>
 if(!w) then(
 some (.inr (.ext 9))
 ) else(
 AC (LR m.Value) λ(A:Bool)=>
 if((!A)&&((!(m.Value=[]))||(!j))) then(
 some (.inr (.ext 23))
 ) else(
 AC (gd ((decide (0<l))==true) (AS .i64 (l-1))) λ(B:Int)=>
 AC (gd ((decide (0<l))==true) (AM q B)) λ(C:AG)=>
 if((0<l)&&(!Av C.Name m.Name)) then(
 some (.inr (.ext 5))
 ) else(
 AC (AS .i64 (l+1)) λ(E:Int)=>
 some (.inl E)
 )
 )
 )
 ) else(
 some (.inr (.nrm ()))
 )
def JT(l:List AG)(j:Bool):Option (Int):=
 Ay (iter (λ(a:Int)=>KR l j a) 0) λ(m:Unit)=>
 some 0
def NV(m:List AG)(j:List UInt8)(l:Int):Option (Int ⊕ (Ar Unit (List UInt8))):=
 if(decide (l<(m.length:Int))) then(
 AC (AM m l) λ(q:AG)=>
 if(decide (q.Name=j)) then(
 some (.inr (.ext q.Value))
 ) else(
 AC (AS .i64 (l+1)) λ(w:Int)=>
 some (.inl w)
 )
 ) else(
 some (.inr (.nrm ()))
 )
def MU(l:List AG)(j:List UInt8):Option ((List UInt8)):=
 Ay (iter (λ(a:Int)=>NV l j a) 0) λ(m:Unit)=>
 some []
def Lz(m:List AG)(j:List UInt8)(l:Int):Option (Int ⊕ (Ar Unit (List UInt8))):=
 if(decide (l<(m.length:Int))) then(
 AC (AM m l) λ(q:AG)=>
 if(decide (q.Name=j)) then(
 some (.inr (.ext q.Value))
 ) else(
 AC (AS .i64 (l+1)) λ(w:Int)=>
 some (.inl w)
 )
 ) else(
 some (.inr (.nrm ()))
 )
def MI(l:List AG)(j:List UInt8):Option ((List UInt8)):=
 Ay (iter (λ(a:Int)=>Lz l j a) 0) λ(m:Unit)=>
 some []
def N5(F:List AG)(I:AG)(j:Bool)(E:Int)(l:List AG):Option ((Bool × Int × (List AG)) ⊕ (Bool × (List AG))):=
 if(decide (E<(F.length:Int))) then(
 CE (
 AC (gd ((!j)==true) (AM F E)) λ(M:AG)=>
 CE (
 if((!j)&&(!Av M.Name I.Name)) then(
 AC (app 32 l [I]) λ(w:List AG)=>
 some (true,w)
 ) else(
 some (j,l)
 )
 ) λ(m:Bool) (q:List AG)=>
 AC (AM F E) λ(J:AG)=>
 if(!(J.Name=I.Name)) then(
 AC (app 32 q [J]) λ(B:List AG)=>
 some (m,B)
 ) else(
 some (m,q)
 )
 ) λ(A:Bool) (C:List AG)=>
 AC (AS .i64 (E+1)) λ(O:Int)=>
 some (.inl (A,O,C))
 ) else(
 some (.inr (j,l))
 )
def Jf(A:List AG)(w:AG):Option ((List AG)):=
 CE (iter (λ(a:Bool × Int × (List AG))=>N5 A w a.1 a.2.1 a.2.2) (false,0,[])) λ(l:Bool) (j:List AG)=>
 AC (
 if(!l) then(
 AC (app 32 j [w]) λ(m:List AG)=>
 some m
 ) else(
 some j
 )
 ) λ(q:List AG)=>
 some q
def OS(l:List AG)(A:Int)(j:List AG):Option ((Int × (List AG)) ⊕ (List AG)):=
 if(decide (A<(l.length:Int))) then(
 AC (
 AC (AM l A) λ(w:AG)=>
 if(!(w.Value=[])) then(
 AC (app 32 j [w]) λ(m:List AG)=>
 some m
 ) else(
 some j
 )
 ) λ(q:List AG)=>
 AC (AS .i64 (A+1)) λ(B:Int)=>
 some (.inl (B,q))
 ) else(
 some (.inr j)
 )
def Mp(j:List AG)(l:List AG)(q:Int):Option (((List AG) × Int) ⊕ (List AG)):=
 if(decide (q<(j.length:Int))) then(
 AC (AM j q) λ(w:AG)=>
 AC (Jf l w) λ(m:List AG)=>
 AC (AS .i64 (q+1)) λ(A:Int)=>
 some (.inl (m,A))
 ) else(
 some (.inr l)
 )
def Nn(A:List AG)(j:List AG)(m:Int):Option (((List AG) × Int) ⊕ (List AG)):=
 if(decide (m<(A.length:Int))) then(
 AC (AM A m) λ(q:AG)=>
 AC (Jf j q) λ(l:List AG)=>
 AC (AS .i64 (m+1)) λ(w:Int)=>
 some (.inl (l,w))
 ) else(
 some (.inr j)
 )
def Ki(w:List AG)(j:List AG):Option ((List AG)):=
 AC (iter (λ(a:(List AG) × Int)=>Nn w a.1 a.2) ([],0)) λ(m:List AG)=>
 AC (iter (λ(a:(List AG) × Int)=>Mp j a.1 a.2) (m,0)) λ(q:List AG)=>
 AC (iter (λ(a:Int × (List AG))=>OS q a.1 a.2) (0,[])) λ(l:List AG)=>
 some l
def PK:Option (AP):=
 some (AP.mk 10 0 [])
def Kb(j:Int):Option (Bool):=
 some (((((j=9)||(j=10))||((32≤j)&&(j<127)))||((160≤j)&&(j<55296)))||((57343<j)&&(j≤1114111)))
def Ng(j:AP):Option (Int):=
 if((!(j.Char=0))==(!(j.Ref=0))) then(
 some 4
 ) else(
 AC (gd ((decide (j.Ref=0))==true) (Kb j.Char)) λ(l:Bool)=>
 AC (
 if((j.Ref=0)&&(!l)) then(
 some ((j.Ref=0)&&(!l))
 ) else(
 some ((!(j.Ref=0))&&((j.Ref<1)||(1073741824<j.Ref)))
 )
 ) λ(m:Bool)=>
 if m then(
 some 2
 ) else(
 AC (I1 j.Attrs) λ(q:Int)=>
 some q
 )
 )
def Kn(j:Int):Option (Bool):=
 AC (gd (((j=9)||(j=10))==false) (Cm j 32 126)) λ(l:Bool)=>
 AC (gd ((((j=9)||(j=10))||l)==false) (Cm j 160 55295)) λ(m:Bool)=>
 AC (gd (((((j=9)||(j=10))||l)||m)==false) (Cm j 57344 1114111)) λ(q:Bool)=>
 some (((((j=9)||(j=10))||l)||m)||q)
def NC(j:AP):Option (Int):=
 if(((j.Char=0)&&(j.Ref=0))||((!(j.Char=0))&&(!(j.Ref=0)))) then(
 some 4
 ) else(
 AC (gd ((!(j.Char=0))==true) (Kn j.Char)) λ(l:Bool)=>
 AC (gd ((((!(j.Char=0))&&(!l))==false)&&((!(j.Ref=0))==true)) (Cm j.Ref 1 1073741824)) λ(m:Bool)=>
 if(((!(j.Char=0))&&(!l))||((!(j.Ref=0))&&(!m))) then(
 some 2
 ) else(
 AC (JT j.Attrs false) λ(q:Int)=>
 some q
 )
 )
def NJ(l:List AG)(w:List AG)(j:Int):Option (Int ⊕ (Ar Unit Bool)):=
 if(decide (j<(l.length:Int))) then(
 AC (AM l j) λ(m:AG)=>
 AC (AM w j) λ(q:AG)=>
 if(!((m.Name=q.Name)&&((m.Value=q.Value)&&true))) then(
 some (.inr (.ext false))
 ) else(
 AC (AS .i64 (j+1)) λ(A:Int)=>
 some (.inl A)
 )
 ) else(
 some (.inr (.nrm ()))
 )
def KA(j:List AG)(l:List AG):Option (Bool):=
 if(!((j.length:Int)=(l.length:Int))) then(
 some false
 ) else(
 Ay (iter (λ(a:Int)=>NJ j l a) 0) λ(m:Unit)=>
 some true
 )
end
noncomputable section
structure Yk where
 Adds:List (List AP)
 Cuts:List Bool
 Attrs:List (List AG)
deriving DecidableEq
instance:Inhabited Yk:=⟨⟨[],[],[]⟩⟩
end
noncomputable section
end
noncomputable section
structure kw where
 steps:List GStep
 used:Int
deriving DecidableEq
instance:Inhabited kw:=⟨⟨[],0⟩⟩
structure dG where
 out:List GStep
 add:List AP
 cut:Int
deriving DecidableEq
instance:Inhabited dG:=⟨⟨[],[],0⟩⟩
def IS(q:List AP)(l:Int)(j:List AP):Option ((Int × (List AP)) ⊕ (List AP)):=
 if(decide (l<(q.length:Int))) then(
 AC (AM q l) λ(m:AP)=>
 AC (app 32 [] m.Attrs) λ(w:List AG)=>
 AC (AM j l) λ(B:AP)=>
 AC (AS .i64 (l+1)) λ(A:Int)=>
 some (.inl (A,(j.set l.toNat (AP.mk m.Char m.Ref w))))
 ) else(
 some (.inr j)
 )
def Ms(m:List AP):Option ((List AP)):=
 AC (mk 40 (m.length:Int) (AP.mk 0 0 [])) λ(j:List AP)=>
 AC (iter (λ(a:Int × (List AP))=>IS m a.1 a.2) (0,j)) λ(l:List AP)=>
 some l
def Mt(j:AP)(l:AP):Option (Bool):=
 AC (gd (((j.Char=l.Char)&&(j.Ref=l.Ref))==true) (JQ j.Attrs l.Attrs)) λ(m:Bool)=>
 some (((j.Char=l.Char)&&(j.Ref=l.Ref))&&m)
def MO(l:List AP)(m:List AP)(j:Int):Option (Int ⊕ (Ar Unit Bool)):=
 if(decide (j<(l.length:Int))) then(
 AC (AM l j) λ(q:AP)=>
 AC (AM m j) λ(w:AP)=>
 AC (Mt q w) λ(A:Bool)=>
 if(!A) then(
 some (.inr (.ext false))
 ) else(
 AC (AS .i64 (j+1)) λ(B:Int)=>
 some (.inl B)
 )
 ) else(
 some (.inr (.nrm ()))
 )
def Lo(j:List AP)(l:List AP):Option (Bool):=
 if(!((j.length:Int)=(l.length:Int))) then(
 some false
 ) else(
 Ay (iter (λ(a:Int)=>MO j l a) 0) λ(m:Unit)=>
 some true
 )
def KD(m:List AP)(j:Bool)(l:Int):Option (Int ⊕ (Ar Unit Int)):=
 if(decide (l<(m.length:Int))) then(
 AC (AM m l) λ(q:AP)=>
 AC (Ng q) λ(w:Int)=>
 if(!(w=0)) then(
 some (.inr (.ext w))
 ) else(
 if((!j)&&(q.Ref=0)) then(
 some (.inr (.ext 8))
 ) else(
 AC (AS .i64 (l+1)) λ(A:Int)=>
 some (.inl A)
 )
 )
 ) else(
 some (.inr (.nrm ()))
 )
def Fg(l:List AP)(j:Bool):Option (Int):=
 Ay (iter (λ(a:Int)=>KD l j a) 0) λ(w:Unit)=>
 AC (gd ((j==true)&&((decide ((l.length:Int)=0))==false)) (AS .i64 ((l.length:Int)-1))) λ(m:Int)=>
 AC (gd ((j==true)&&((decide ((l.length:Int)=0))==false)) (AM l m)) λ(q:AP)=>
 if(j&&(((l.length:Int)=0)||(!(q.Char=10)))) then(
 some 11
 ) else(
 some 0
 )
def KB(m:List AP)(j:Bool)(l:Int):Option (Int ⊕ (Ar Unit Int)):=
 if(decide (l<(m.length:Int))) then(
 AC (AM m l) λ(q:AP)=>
 AC (NC q) λ(w:Int)=>
 if(!(w=0)) then(
 some (.inr (.ext w))
 ) else(
 if((!j)&&(!(q.Char=0))) then(
 some (.inr (.ext 8))
 ) else(
 AC (AS .i64 (l+1)) λ(A:Int)=>
 some (.inl A)
 )
 )
 ) else(
 some (.inr (.nrm ()))
 )
def Im(l:List AP)(j:Bool):Option (Int):=
 Ay (iter (λ(a:Int)=>KB l j a) 0) λ(w:Unit)=>
 AC (gd ((j==true)&&((decide ((l.length:Int)=0))==false)) (AS .i64 ((l.length:Int)-1))) λ(m:Int)=>
 AC (gd ((j==true)&&((decide ((l.length:Int)=0))==false)) (AM l m)) λ(q:AP)=>
 if(j&&(((l.length:Int)=0)||(!(q.Char=10)))) then(
 some 11
 ) else(
 some 0
 )
end
noncomputable section
end
noncomputable section
end
noncomputable section
end
noncomputable section
structure Up where
 Kind:Int
 Node:Int
 From:Int
 To:Int
 Name:List UInt8
deriving DecidableEq
instance:Inhabited Up:=⟨⟨0,0,0,0,[]⟩⟩
structure XP where
 node:Int
 out:List AP
 bad:List Up
deriving DecidableEq
instance:Inhabited XP:=⟨⟨0,[],[]⟩⟩
structure lC where
 adds:List (List AP)
 cut:List Bool
 attrs:List (List AG)
deriving DecidableEq
instance:Inhabited lC:=⟨⟨[],[],[]⟩⟩
def TD(q:List AP)(w:List AP)(m:Int):Option (Int ⊕ (Ar Unit Bool)):=
 if(decide (m<(q.length:Int))) then(
 AC (AM q m) λ(j:AP)=>
 AC (AM w m) λ(l:AP)=>
 AC (gd (((!(j.Char=l.Char))||(!(j.Ref=l.Ref)))==false) (KA j.Attrs l.Attrs)) λ(A:Bool)=>
 if(((!(j.Char=l.Char))||(!(j.Ref=l.Ref)))||(!A)) then(
 some (.inr (.ext false))
 ) else(
 AC (AS .i64 (m+1)) λ(B:Int)=>
 some (.inl B)
 )
 ) else(
 some (.inr (.nrm ()))
 )
def Sz(j:List AP)(l:List AP):Option (Bool):=
 if(!((j.length:Int)=(l.length:Int))) then(
 some false
 ) else(
 Ay (iter (λ(a:Int)=>TD j l a) 0) λ(m:Unit)=>
 some true
 )
end
noncomputable section
structure Ha where
 lo:Int
 hi:Int
deriving DecidableEq
instance:Inhabited Ha:=⟨⟨0,0⟩⟩
@[reducible] def Ha.row(x:Ha):List RV:=[.int .u8 x.lo,.int .u8 x.hi]
def PX:List Ha:=IO.map λp=>Ha.mk p.1 p.2
def NF(A:List UInt8):Option (Int × Int):=
 if(decide ((A.length:Int)<1)) then(
 some (65533,0)
 ) else(
 AC (AM A 0) λ(j:UInt8)=>
 AC (AM Fx (j.toNat:Int)) λ(q:Int)=>
 if(decide (240≤q)) then(
 some ((D6 .i32 (P8 .i32 (IntKind.i32.wrap (j.toNat:Int)) (FQ .i32 (DZ .i32 (IntKind.i32.wrap q) 31) 31)) (CR .i32 65533 (FQ .i32 (DZ .i32 (IntKind.i32.wrap q) 31) 31))),1)
 ) else(
 AC (AM PX (FQ .u8 q 4)) λ(B:Ha)=>
 if(decide ((A.length:Int)<(IntKind.i64.wrap (CR .u8 q 7)))) then(
 some (65533,1)
 ) else(
 AC (AM A 1) λ(l:UInt8)=>
 if(((l.toNat:Int)<B.lo)||(B.hi<(l.toNat:Int))) then(
 some (65533,1)
 ) else(
 if(decide ((IntKind.i64.wrap (CR .u8 q 7))≤2)) then(
 some ((D6 .i32 (DZ .i32 (IntKind.i32.wrap (CR .u8 (j.toNat:Int) 31)) 6) (IntKind.i32.wrap (CR .u8 (l.toNat:Int) 63))),2)
 ) else(
 AC (AM A 2) λ(m:UInt8)=>
 if(((m.toNat:Int)<128)||(191<(m.toNat:Int))) then(
 some (65533,1)
 ) else(
 if(decide ((IntKind.i64.wrap (CR .u8 q 7))≤3)) then(
 some ((D6 .i32 (D6 .i32 (DZ .i32 (IntKind.i32.wrap (CR .u8 (j.toNat:Int) 15)) 12) (DZ .i32 (IntKind.i32.wrap (CR .u8 (l.toNat:Int) 63)) 6)) (IntKind.i32.wrap (CR .u8 (m.toNat:Int) 63))),3)
 ) else(
 AC (AM A 3) λ(w:UInt8)=>
 if(((w.toNat:Int)<128)||(191<(w.toNat:Int))) then(
 some (65533,1)
 ) else(
 some ((D6 .i32 (D6 .i32 (D6 .i32 (DZ .i32 (IntKind.i32.wrap (CR .u8 (j.toNat:Int) 7)) 18) (DZ .i32 (IntKind.i32.wrap (CR .u8 (l.toNat:Int) 63)) 12)) (DZ .i32 (IntKind.i32.wrap (CR .u8 (m.toNat:Int) 63)) 6)) (IntKind.i32.wrap (CR .u8 (w.toNat:Int) 63))),4)
 )
 )
 )
 )
 )
 )
 )
 )
def Md(j:List UInt8):Option (Int × Int):=
 AC (gd ((!(j=[]))==true) (AM j 0)) λ(l:UInt8)=>
 if((!(j=[]))&&((l.toNat:Int)<128)) then(
 AC (AM j 0) λ(m:UInt8)=>
 some ((IntKind.i32.wrap (m.toNat:Int)),1)
 ) else(
 CE (NF j) λ(q:Int) (w:Int)=>
 some (q,w)
 )
end
noncomputable section
def FD(w:List AP)(q:Int)(j:List Int):Option ((Int × (List Int)) ⊕ (List Int)):=
 if(decide (q<(w.length:Int))) then(
 AC (
 AC (AM w q) λ(A:AP)=>
 if(!(A.Ref=0)) then(
 AC (app 8 j [A.Ref]) λ(l:List Int)=>
 some l
 ) else(
 some j
 )
 ) λ(m:List Int)=>
 AC (AS .i64 (q+1)) λ(B:Int)=>
 some (.inl (B,m))
 ) else(
 some (.inr j)
 )
def HU(l:List AP):Option ((List Int)):=
 AC (iter (λ(a:Int × (List Int))=>FD l a.1 a.2) (0,[])) λ(j:List Int)=>
 some j
end
noncomputable section
end
noncomputable section
structure AN where
 Nodes:List AX
deriving DecidableEq
instance:Inhabited AN:=⟨⟨[]⟩⟩
@[reducible] def AN.row(x:AN):List RV:=[.sl (x.Nodes.map AX.row)]
def O4:Option (AN):=
 some (AN.mk [(AX.mk 1 0 [] [(AP.mk 0 2 [])] (A5.mk 0 0 [] []) []),(AX.mk 2 1 [] [(AP.mk 10 0 [])] (A5.mk 0 0 [] []) [])])
def Gl(j:Int):Option (Bool):=
 some ((((j=1)||(j=3))||(j=4))||(j=12))
def GG(j:Int):Option (Bool):=
 some ((j=0)||(j=7))
def FP(j:Int):Option (Bool):=
 some ((j=2)||(j=6))
def MR(j:List Ak)(w:List Ak)(l:Int):Option (Int ⊕ (Ar Unit Bool)):=
 if(decide (l<(j.length:Int))) then(
 AC (AM j l) λ(m:Ak)=>
 AC (AM w l) λ(q:Ak)=>
 if(!((m.Row=q.Row)&&((m.Col=q.Col)&&((m.H=q.H)&&((m.W=q.W)&&true))))) then(
 some (.inr (.ext false))
 ) else(
 AC (AS .i64 (l+1)) λ(A:Int)=>
 some (.inl A)
 )
 ) else(
 some (.inr (.nrm ()))
 )
def Mr(j:List Ak)(l:List Ak):Option (Bool):=
 if(!((j.length:Int)=(l.length:Int))) then(
 some false
 ) else(
 Ay (iter (λ(a:Int)=>MR j l a) 0) λ(m:Unit)=>
 some true
 )
def Nl(j:Am)(l:Am):Option (Bool):=
 AC (gd (((((j.Row=l.Row)&&(j.Col=l.Col))&&(j.Text=l.Text))&&(j.Ref=l.Ref))==true) (KA j.Attrs l.Attrs)) λ(m:Bool)=>
 some (((((j.Row=l.Row)&&(j.Col=l.Col))&&(j.Text=l.Text))&&(j.Ref=l.Ref))&&m)
def OL(j:List Am)(m:List Am)(l:Int):Option (Int ⊕ (Ar Unit Bool)):=
 if(decide (l<(j.length:Int))) then(
 AC (AM j l) λ(q:Am)=>
 AC (AM m l) λ(w:Am)=>
 AC (Nl q w) λ(A:Bool)=>
 if(!A) then(
 some (.inr (.ext false))
 ) else(
 AC (AS .i64 (l+1)) λ(B:Int)=>
 some (.inl B)
 )
 ) else(
 some (.inr (.nrm ()))
 )
def M2(j:List Am)(l:List Am):Option (Bool):=
 if(!((j.length:Int)=(l.length:Int))) then(
 some false
 ) else(
 Ay (iter (λ(a:Int)=>OL j l a) 0) λ(m:Unit)=>
 some true
 )
def Jg(j:A5)(l:A5):Option (Bool):=
 AC (gd (((j.Rows=l.Rows)&&(j.Cols=l.Cols))==true) (Mr j.Merges l.Merges)) λ(m:Bool)=>
 AC (gd ((((j.Rows=l.Rows)&&(j.Cols=l.Cols))&&m)==true) (M2 j.Cells l.Cells)) λ(q:Bool)=>
 some ((((j.Rows=l.Rows)&&(j.Cols=l.Cols))&&m)&&q)
def GC(j:Int):Option (Bool):=
 some (((j=8)||(j=9))||(j=10))
def FH(l:List UInt8):Option ((List UInt8) ⊕ (Ar Unit Bool)):=
 if(!(l=[])) then(
 CE (Md l) λ(j:Int) (m:Int)=>
 AC (gd ((((j=65533)&&(m=1))||(j=10))==false) (Kb (IntKind.i64.wrap j))) λ(q:Bool)=>
 if((((j=65533)&&(m=1))||(j=10))||(!q)) then(
 some (.inr (.ext false))
 ) else(
 AC (Do l m (l.length:Int)) λ(w:List UInt8)=>
 some (.inl w)
 )
 ) else(
 some (.inr (.nrm ()))
 )
def M3(j:List UInt8):Option (Bool):=
 Ay (iter (λ(a:(List UInt8))=>FH a) j) λ(l:Unit)=>
 some true
def Mg(j:Am):Option (Bool):=
 some (((j.Text=[])&&(j.Ref=0))&&((j.Attrs.length:Int)=0))
def LA(j:Int):Option (Bool):=
 some (!(j=j))
def F7(m:Int)(q:Int):Option (Int):=
 AC (LA m) λ(l:Bool)=>
 AC (LA q) λ(j:Bool)=>
 if l then(
 if j then(
 some 0
 ) else(
 some (-1)
 )
 ) else(
 if j then(
 some 1
 ) else(
 if(decide (m<q)) then(
 some (-1)
 ) else(
 if(decide (q<m)) then(
 some 1
 ) else(
 some 0
 )
 )
 )
 )
def Dl(j:List Int)(l:Int):Option (Int ⊕ (Ar Unit Int)):=
 if(decide (l<(j.length:Int))) then(
 AC (AM j l) λ(m:Int)=>
 if(!(m=0)) then(
 some (.inr (.ext m))
 ) else(
 AC (AS .i64 (l+1)) λ(q:Int)=>
 some (.inl q)
 )
 ) else(
 some (.inr (.nrm ()))
 )
def Ht(j:List Int):Option (Int):=
 Ay (iter (λ(a:Int)=>Dl j a) 0) λ(l:Unit)=>
 some 0
def Kw(j:Am)(l:Am):Option (Int):=
 AC (F7 j.Row l.Row) λ(m:Int)=>
 AC (F7 j.Col l.Col) λ(q:Int)=>
 AC (Ht [m,q]) λ(w:Int)=>
 some w
def L0(A:List Am)(m:Int)(q:Int)(w:Bool)(l:Int):Option (Int ⊕ (Ar Unit Int)):=
 if(decide (l<(A.length:Int))) then(
 AC (AM A l) λ(j:Am)=>
 if((((j.Row<0)||(m≤j.Row))||(j.Col<0))||(q≤j.Col)) then(
 some (.inr (.ext 2))
 ) else(
 if((j.Ref<0)||(1073741824<j.Ref)) then(
 some (.inr (.ext 2))
 ) else(
 AC (M3 j.Text) λ(C:Bool)=>
 if(!C) then(
 some (.inr (.ext 23))
 ) else(
 AC (I1 j.Attrs) λ(B:Int)=>
 if(!(B=0)) then(
 some (.inr (.ext B))
 ) else(
 AC (Mg j) λ(E:Bool)=>
 if(E&&(!w)) then(
 some (.inr (.ext 4))
 ) else(
 AC (gd ((decide (0<l))==true) (AS .i64 (l-1))) λ(F:Int)=>
 AC (gd ((decide (0<l))==true) (AM A F)) λ(I:Am)=>
 AC (gd ((decide (0<l))==true) (Kw I j)) λ(J:Int)=>
 if((0<l)&&(0≤J)) then(
 some (.inr (.ext 5))
 ) else(
 AC (AS .i64 (l+1)) λ(M:Int)=>
 some (.inl M)
 )
 )
 )
 )
 )
 )
 ) else(
 some (.inr (.nrm ()))
 )
def Nf(q:List Am)(j:Int)(l:Int)(m:Bool):Option (Int):=
 Ay (iter (λ(a:Int)=>L0 q j l m a) 0) λ(w:Unit)=>
 some 0
def NS(j:Ak)(l:Int)(m:Int):Option (Bool):=
 AC (gd (((((((0≤j.Row)&&(0≤j.Col))&&(1≤j.H))&&(1≤j.W))&&(j.Row<l))&&(j.Col<m))==true) (AS .i64 (l-j.Row))) λ(q:Int)=>
 AC (gd ((((((((0≤j.Row)&&(0≤j.Col))&&(1≤j.H))&&(1≤j.W))&&(j.Row<l))&&(j.Col<m))&&(j.H≤q))==true) (AS .i64 (m-j.Col))) λ(w:Int)=>
 some ((((((((0≤j.Row)&&(0≤j.Col))&&(1≤j.H))&&(1≤j.W))&&(j.Row<l))&&(j.Col<m))&&(j.H≤q))&&(j.W≤w))
def OE(j:Ak)(l:Ak):Option (Bool):=
 some ((j.Row<l.Row)||((j.Row=l.Row)&&(j.Col<l.Col)))
def Mx(j:Ak)(l:Ak):Option (Bool):=
 AC (AS .i64 (l.Row+l.H)) λ(m:Int)=>
 AC (gd ((decide (j.Row<m))==true) (AS .i64 (j.Row+j.H))) λ(q:Int)=>
 AC (gd (((j.Row<m)&&(l.Row<q))==true) (AS .i64 (l.Col+l.W))) λ(w:Int)=>
 AC (gd ((((j.Row<m)&&(l.Row<q))&&(j.Col<w))==true) (AS .i64 (j.Col+j.W))) λ(A:Int)=>
 some ((((j.Row<m)&&(l.Row<q))&&(j.Col<w))&&(l.Col<A))
def Ps(j:Ak)(l:Ak):Option (Bool):=
 AC (Mx l j) λ(m:Bool)=>
 some m
def L1(m:Ak)(l:List Ak)(j:Int):Option (Int ⊕ (Ar Unit Int)):=
 if(decide (j<(l.length:Int))) then(
 AC (AM l j) λ(q:Ak)=>
 AC (Ps m q) λ(w:Bool)=>
 if w then(
 some (.inr (.ext j))
 ) else(
 AC (AS .i64 (j+1)) λ(A:Int)=>
 some (.inl A)
 )
 ) else(
 some (.inr (.nrm ()))
 )
def Pz(j:Ak)(l:List Ak):Option (Int):=
 Ay (iter (λ(a:Int)=>L1 j l a) 0) λ(m:Unit)=>
 some (-1)
def LO(j:Ak)(l:List Ak):Option (Bool):=
 AC (Pz j l) λ(m:Int)=>
 some (decide (0≤m))
def NW(l:A5)(j:Int):Option (Int ⊕ (Ar Unit Int)):=
 if(decide (j<(l.Merges.length:Int))) then(
 AC (AM l.Merges j) λ(m:Ak)=>
 AC (NS m l.Rows l.Cols) λ(q:Bool)=>
 if(!q) then(
 some (.inr (.ext 2))
 ) else(
 if((m.H=1)&&(m.W=1)) then(
 some (.inr (.ext 4))
 ) else(
 AC (gd ((decide (0<j))==true) (AS .i64 (j-1))) λ(w:Int)=>
 AC (gd ((decide (0<j))==true) (AM l.Merges w)) λ(A:Ak)=>
 AC (gd ((decide (0<j))==true) (OE A m)) λ(B:Bool)=>
 if((0<j)&&(!B)) then(
 some (.inr (.ext 5))
 ) else(
 AC (Do l.Merges 0 j) λ(C:List Ak)=>
 AC (LO m C) λ(E:Bool)=>
 if E then(
 some (.inr (.ext 21))
 ) else(
 AC (AS .i64 (j+1)) λ(F:Int)=>
 some (.inl F)
 )
 )
 )
 )
 ) else(
 some (.inr (.nrm ()))
 )
def OR(j:A5):Option (Int):=
 if((((j.Rows<0)||(2147483647<j.Rows))||(j.Cols<0))||(2147483647<j.Cols)) then(
 some 2
 ) else(
 AC (Nf j.Cells j.Rows j.Cols false) λ(l:Int)=>
 if(!(l=0)) then(
 some l
 ) else(
 Ay (iter (λ(a:Int)=>NW j a) 0) λ(m:Unit)=>
 some 0
 )
 )
def Nz(j:Int)(q:List Am)(l:Int):Option (Int ⊕ (Ar Unit Int)):=
 if(decide (l<(q.length:Int))) then(
 AC (AM q l) λ(m:Am)=>
 if(((j=2)&&((!(m.Text=[]))||(0<(m.Attrs.length:Int))))||((j=6)&&(!(m.Ref=0)))) then(
 some (.inr (.ext 4))
 ) else(
 AC (AS .i64 (l+1)) λ(w:Int)=>
 some (.inl w)
 )
 ) else(
 some (.inr (.nrm ()))
 )
def Nx(j:Int)(l:List Am):Option (Int):=
 Ay (iter (λ(a:Int)=>Nz j l a) 0) λ(m:Unit)=>
 some 0
def J0(m:List UInt8)(l:Int):Option (Int ⊕ (Ar Unit Bool)):=
 if(decide (l<(m.length:Int))) then(
 AC (AM m l) λ(j:UInt8)=>
 if(((j.toNat:Int)<97)||(122<(j.toNat:Int))) then(
 some (.inr (.ext false))
 ) else(
 AC (AS .i64 (l+1)) λ(q:Int)=>
 some (.inl q)
 )
 ) else(
 some (.inr (.nrm ()))
 )
def Ja(j:List UInt8):Option (Bool):=
 AC (gd (((j=[])||(200<(j.length:Int)))==false) (AS .i64 ((j.length:Int)-1))) λ(m:Int)=>
 AC (gd (((j=[])||(200<(j.length:Int)))==false) (AM j m)) λ(l:UInt8)=>
 if(((j=[])||(200<(j.length:Int)))||((l.toNat:Int)=97)) then(
 some false
 ) else(
 Ay (iter (λ(a:Int)=>J0 j a) 0) λ(q:Unit)=>
 some true
 )
def KK(j:Au):Option (Int):=
 if((!(j.Kind=0))&&(!(j.Kind=1))) then(
 some 8
 ) else(
 if((((((j.Clock<1)||(1073741824<j.Clock))||(j.Site<0))||(1000<j.Site))||(j.Item<1))||(1073741824<j.Item)) then(
 some 2
 ) else(
 AC (
 if((j.Kind=0)&&((!(j.Name=[]))||(!(j.Value=[])))) then(
 some ((j.Kind=0)&&((!(j.Name=[]))||(!(j.Value=[]))))
 ) else(
 some ((j.Kind=1)&&((!(j.Parent=0))||(!(j.Place=[]))))
 )
 ) λ(m:Bool)=>
 if m then(
 some 4
 ) else(
 if((j.Kind=0)&&((j.Parent<(-1))||(1073741824<j.Parent))) then(
 some 2
 ) else(
 AC (gd ((decide (j.Kind=0))==true) (Ja j.Place)) λ(l:Bool)=>
 AC (
 if((j.Kind=0)&&(!l)) then(
 some ((j.Kind=0)&&(!l))
 ) else(
 AC (gd ((decide (j.Kind=1))==true) (KQ j.Name)) λ(q:Bool)=>
 some ((j.Kind=1)&&(!q))
 )
 ) λ(w:Bool)=>
 if w then(
 some 9
 ) else(
 AC (gd (((j.Kind=1)&&(!(j.Value=[])))==true) (Ke j.Value)) λ(A:Bool)=>
 if(((j.Kind=1)&&(!(j.Value=[])))&&(!A)) then(
 some 23
 ) else(
 some 0
 )
 )
 )
 )
 )
 )
def JF(j:Au)(l:Au):Option (Int):=
 AC (F7 j.Clock l.Clock) λ(m:Int)=>
 AC (F7 j.Site l.Site) λ(q:Int)=>
 AC (Ht [m,q]) λ(w:Int)=>
 some w
def JA(l:List Au)(j:Int):Option (Int ⊕ (Ar Unit Int)):=
 if(decide (j<(l.length:Int))) then(
 AC (AM l j) λ(m:Au)=>
 AC (KK m) λ(q:Int)=>
 if(!(q=0)) then(
 some (.inr (.ext q))
 ) else(
 AC (gd ((decide (0<j))==true) (AS .i64 (j-1))) λ(w:Int)=>
 AC (gd ((decide (0<j))==true) (AM l w)) λ(A:Au)=>
 AC (gd ((decide (0<j))==true) (JF A m)) λ(B:Int)=>
 if((0<j)&&(0≤B)) then(
 some (.inr (.ext 5))
 ) else(
 AC (AS .i64 (j+1)) λ(C:Int)=>
 some (.inl C)
 )
 )
 ) else(
 some (.inr (.nrm ()))
 )
def Jc(j:List Au):Option (Int):=
 Ay (iter (λ(a:Int)=>JA j a) 0) λ(l:Unit)=>
 some 0
def Cz(n1:AX):Option (Int):=
 if((n1.ID<1)||(1073741824<n1.ID)) then(
 some 2
 ) else(
 if(((n1.Kind<0)||(13≤n1.Kind))||(!((decide (n1.ID=1))==(decide (n1.Kind=0))))) then(
 some 8
 ) else(
 AC (I1 n1.Attrs) λ(w:Int)=>
 if(!(w=0)) then(
 some w
 ) else(
 AC (Gl n1.Kind) λ(l:Bool)=>
 AC (gd (l==false) (GG n1.Kind)) λ(m:Bool)=>
 AC (FP n1.Kind) λ(j:Bool)=>
 AC (
 if(((!(l||m))&&(0<(n1.Flow.length:Int)))==false) then(
 if((!j)==true) then(
 AC (Jg n1.Grid (A5.mk 0 0 [] [])) λ(A:Bool)=>
 AC (gd ((((!(l||m))&&(0<(n1.Flow.length:Int)))||((!j)&&(!A)))==false) (GC n1.Kind)) λ(C:Bool)=>
 some ((((!(l||m))&&(0<(n1.Flow.length:Int)))||((!j)&&(!A)))||((!C)&&(0<(n1.Draw.length:Int))))
 ) else(
 AC (gd ((((!(l||m))&&(0<(n1.Flow.length:Int)))||((!j)&&false))==false) (GC n1.Kind)) λ(E:Bool)=>
 some ((((!(l||m))&&(0<(n1.Flow.length:Int)))||((!j)&&false))||((!E)&&(0<(n1.Draw.length:Int))))
 )
 ) else(
 AC (gd ((((!(l||m))&&(0<(n1.Flow.length:Int)))||false)==false) (GC n1.Kind)) λ(q:Bool)=>
 some ((((!(l||m))&&(0<(n1.Flow.length:Int)))||false)||((!q)&&(0<(n1.Draw.length:Int))))
 )
 ) λ(F:Bool)=>
 if F then(
 some 4
 ) else(
 if(l||m) then(
 AC (Fg n1.Flow l) λ(I:Int)=>
 some I
 ) else(
 if j then(
 AC (OR n1.Grid) λ(B:Int)=>
 if(!(B=0)) then(
 some B
 ) else(
 AC (Nx n1.Kind n1.Grid.Cells) λ(J:Int)=>
 some J
 )
 ) else(
 AC (Jc n1.Draw) λ(M:Int)=>
 some M
 )
 )
 )
 )
 )
 )
def EY(w:List AP)(q:Int)(j:List Int):Option ((Int × (List Int)) ⊕ (List Int)):=
 if(decide (q<(w.length:Int))) then(
 AC (
 AC (AM w q) λ(A:AP)=>
 if(!(A.Ref=0)) then(
 AC (app 8 j [A.Ref]) λ(l:List Int)=>
 some l
 ) else(
 some j
 )
 ) λ(m:List Int)=>
 AC (AS .i64 (q+1)) λ(B:Int)=>
 some (.inl (B,m))
 ) else(
 some (.inr j)
 )
def JC(l:List AP):Option ((List Int)):=
 AC (iter (λ(a:Int × (List Int))=>EY l a.1 a.2) (0,[])) λ(j:List Int)=>
 some j
def Ds(n1:AX)(q:Int)(j:List Int):Option ((Int × (List Int)) ⊕ (List Int)):=
 if(decide (q<(n1.Grid.Cells.length:Int))) then(
 AC (
 AC (AM n1.Grid.Cells q) λ(w:Am)=>
 if(!(w.Ref=0)) then(
 AC (app 8 j [w.Ref]) λ(l:List Int)=>
 some l
 ) else(
 some j
 )
 ) λ(m:List Int)=>
 AC (AS .i64 (q+1)) λ(A:Int)=>
 some (.inl (A,m))
 ) else(
 some (.inr j)
 )
def GX(n1:AX):Option ((List Int)):=
 AC (JC n1.Flow) λ(l:List Int)=>
 AC (iter (λ(a:Int × (List Int))=>Ds n1 a.1 a.2) (0,l)) λ(j:List Int)=>
 some j
def LD(n1:AX)(j:Int):Option (Int):=
 if(decide (n1.ID<j)) then(
 some (-1)
 ) else(
 if(decide (j<n1.ID)) then(
 some 1
 ) else(
 some 0
 )
 )
def Er(A:List AX)(j:Int)(l:Int)(m:Int):Option ((Int × Int) ⊕ Int):=
 if(decide (l<m)) then(
 AC (AS .i64 (l+m)) λ(q:Int)=>
 AC (AM A (IntKind.i64.wrap (FQ .u64 (IntKind.u64.wrap q) 1))) λ(B:AX)=>
 AC (LD B j) λ(C:Int)=>
 if(decide (C<0)) then(
 AC (AS .i64 ((IntKind.i64.wrap (FQ .u64 (IntKind.u64.wrap q) 1))+1)) λ(w:Int)=>
 some (.inl (w,m))
 ) else(
 some (.inl (l,(IntKind.i64.wrap (FQ .u64 (IntKind.u64.wrap q) 1))))
 )
 ) else(
 some (.inr l)
 )
def Lx(l:List AX)(j:Int):Option (Int × Bool):=
 AC (iter (λ(a:Int × Int)=>Er l j a.1 a.2) (0,(l.length:Int))) λ(i8:Int)=>
 AC (gd ((decide (i8<(l.length:Int)))==true) (AM l i8)) λ(m:AX)=>
 AC (gd ((decide (i8<(l.length:Int)))==true) (LD m j)) λ(q:Int)=>
 some (i8,((i8<(l.length:Int))&&(q=0)))
def FB(d1:AN)(j:Int):Option (Int × Bool):=
 CE (Lx d1.Nodes j) λ(l:Int) (m:Bool)=>
 some (l,m)
def IQ(l:List Int)(v1:Int)(j:Int):Option (Int ⊕ (Ar Unit Int)):=
 if(decide (j<(l.length:Int))) then(
 AC (AM l j) λ(m:Int)=>
 if(decide (v1=m)) then(
 some (.inr (.ext j))
 ) else(
 AC (AS .i64 (j+1)) λ(q:Int)=>
 some (.inl q)
 )
 ) else(
 some (.inr (.nrm ()))
 )
def Nq(j:List Int)(v1:Int):Option (Int):=
 Ay (iter (λ(a:Int)=>IQ j v1 a) 0) λ(l:Unit)=>
 some (-1)
def Jo(j:List Int)(v1:Int):Option (Bool):=
 AC (Nq j v1) λ(l:Int)=>
 some (decide (0≤l))
def KG(j:Int)(l:Int):Option (Bool):=
 AC (
 if(decide (j=0)) then(
 some [1,6,7,10,11,12]
 ) else(
 if(decide (j=1)) then(
 some [2,4,5,10]
 ) else(
 if(decide (j=3)) then(
 some [4,5,10]
 ) else(
 AC (
 if(decide (j=4)) then(
 some (decide (j=4))
 ) else(
 some (decide (j=12))
 )
 ) λ(m:Bool)=>
 if m then(
 some [5]
 ) else(
 if(decide (j=2)) then(
 some [3]
 ) else(
 if(decide (j=7)) then(
 some [8,9]
 ) else(
 some []
 )
 )
 )
 )
 )
 )
 ) λ(q:List Int)=>
 AC (Jo q l) λ(w:Bool)=>
 some w
def EJ(d1:AN)(j:Int)(Gj:List Int)(l:Int):Option (Int ⊕ (Ar Unit Int)):=
 if(decide (l<(Gj.length:Int))) then(
 AC (AM Gj l) λ(m:Int)=>
 CE (FB d1 m) λ(q:Int) (w:Bool)=>
 if(!w) then(
 some (.inr (.ext 7))
 ) else(
 AC (AM d1.Nodes q) λ(A:AX)=>
 AC (KG j A.Kind) λ(B:Bool)=>
 if(!B) then(
 some (.inr (.ext 8))
 ) else(
 AC (AS .i64 (l+1)) λ(C:Int)=>
 some (.inl C)
 )
 )
 ) else(
 some (.inr (.nrm ()))
 )
def FV(d1:AN)(j:Int)(Gj:List Int):Option (Int):=
 Ay (iter (λ(a:Int)=>EJ d1 j Gj a) 0) λ(l:Unit)=>
 some 0
def D1(d1:AN)(j:Int):Option (Int ⊕ (Ar Unit Int)):=
 if(decide (j<(d1.Nodes.length:Int))) then(
 AC (AM d1.Nodes j) λ(l:AX)=>
 AC (GX l) λ(q:List Int)=>
 AC (FV d1 l.Kind q) λ(m:Int)=>
 if(!(m=0)) then(
 some (.inr (.ext m))
 ) else(
 AC (AS .i64 (j+1)) λ(w:Int)=>
 some (.inl w)
 )
 ) else(
 some (.inr (.nrm ()))
 )
def C0(d1:AN)(j:Int):Option (Int ⊕ (Ar Unit Int)):=
 if(decide (j<(d1.Nodes.length:Int))) then(
 AC (AM d1.Nodes j) λ(l:AX)=>
 AC (Cz l) λ(A:Int)=>
 if(!(A=0)) then(
 some (.inr (.ext A))
 ) else(
 AC (gd ((((j=0)&&(!(l.ID=1)))==false)&&((decide (0<j))==true)) (AS .i64 (j-1))) λ(m:Int)=>
 AC (gd ((((j=0)&&(!(l.ID=1)))==false)&&((decide (0<j))==true)) (AM d1.Nodes m)) λ(q:AX)=>
 if(((j=0)&&(!(l.ID=1)))||((0<j)&&(l.ID≤q.ID))) then(
 some (.inr (.ext 5))
 ) else(
 AC (AS .i64 (j+1)) λ(w:Int)=>
 some (.inl w)
 )
 )
 ) else(
 some (.inr (.nrm ()))
 )
def ET(d1:AN):Option (Int):=
 if(decide ((d1.Nodes.length:Int)=0)) then(
 some 11
 ) else(
 Ay (iter (λ(a:Int)=>C0 d1 a) 0) λ(j:Unit)=>
 Ay (iter (λ(a:Int)=>D1 d1 a) 0) λ(l:Unit)=>
 some 0
 )
def QP(j:List AP):Option (AN):=
 some (AN.mk [(AX.mk 1 0 [] [(AP.mk 0 2 [])] (A5.mk 0 0 [] []) []),(AX.mk 2 1 [] j (A5.mk 0 0 [] []) [])])
def MK(j:Am)(l:Am):Option (Bool):=
 AC (gd (((((j.Row=l.Row)&&(j.Col=l.Col))&&(j.Text=l.Text))&&(j.Ref=l.Ref))==true) (JQ j.Attrs l.Attrs)) λ(m:Bool)=>
 some (((((j.Row=l.Row)&&(j.Col=l.Col))&&(j.Text=l.Text))&&(j.Ref=l.Ref))&&m)
def MG(l:List Am)(m:List Am)(j:Int):Option (Int ⊕ (Ar Unit Bool)):=
 if(decide (j<(l.length:Int))) then(
 AC (AM l j) λ(q:Am)=>
 AC (AM m j) λ(w:Am)=>
 AC (MK q w) λ(A:Bool)=>
 if(!A) then(
 some (.inr (.ext false))
 ) else(
 AC (AS .i64 (j+1)) λ(B:Int)=>
 some (.inl B)
 )
 ) else(
 some (.inr (.nrm ()))
 )
def Lk(j:List Am)(l:List Am):Option (Bool):=
 if(!((j.length:Int)=(l.length:Int))) then(
 some false
 ) else(
 Ay (iter (λ(a:Int)=>MG j l a) 0) λ(m:Unit)=>
 some true
 )
def Mn(q:List Ak)(w:List Ak)(j:Int):Option (Int ⊕ (Ar Unit Bool)):=
 if(decide (j<(q.length:Int))) then(
 AC (AM q j) λ(l:Ak)=>
 AC (AM w j) λ(m:Ak)=>
 if(!((l.Row=m.Row)&&((l.Col=m.Col)&&((l.H=m.H)&&((l.W=m.W)&&true))))) then(
 some (.inr (.ext false))
 ) else(
 AC (AS .i64 (j+1)) λ(A:Int)=>
 some (.inl A)
 )
 ) else(
 some (.inr (.nrm ()))
 )
def No(j:List Ak)(l:List Ak):Option (Bool):=
 if(!((j.length:Int)=(l.length:Int))) then(
 some false
 ) else(
 Ay (iter (λ(a:Int)=>Mn j l a) 0) λ(m:Unit)=>
 some true
 )
def Mi(j:A5)(l:A5):Option (Bool):=
 AC (gd (((j.Rows=l.Rows)&&(j.Cols=l.Cols))==true) (Lk j.Cells l.Cells)) λ(m:Bool)=>
 AC (gd ((((j.Rows=l.Rows)&&(j.Cols=l.Cols))&&m)==true) (No j.Merges l.Merges)) λ(q:Bool)=>
 some ((((j.Rows=l.Rows)&&(j.Cols=l.Cols))&&m)&&q)
def Lu(q:List Au)(w:List Au)(m:Int):Option (Int ⊕ (Ar Unit Bool)):=
 if(decide (m<(q.length:Int))) then(
 AC (AM q m) λ(j:Au)=>
 AC (AM w m) λ(l:Au)=>
 if(!((j.Clock=l.Clock)&&((j.Site=l.Site)&&((j.Kind=l.Kind)&&((j.Item=l.Item)&&((j.Parent=l.Parent)&&((j.Place=l.Place)&&((j.Name=l.Name)&&((j.Value=l.Value)&&true))))))))) then(
 some (.inr (.ext false))
 ) else(
 AC (AS .i64 (m+1)) λ(A:Int)=>
 some (.inl A)
 )
 ) else(
 some (.inr (.nrm ()))
 )
def MB(j:List Au)(l:List Au):Option (Bool):=
 if(!((j.length:Int)=(l.length:Int))) then(
 some false
 ) else(
 Ay (iter (λ(a:Int)=>Lu j l a) 0) λ(m:Unit)=>
 some true
 )
def Lr(j:AX)(l:AX):Option (Bool):=
 AC (gd (((j.ID=l.ID)&&(j.Kind=l.Kind))==true) (JQ j.Attrs l.Attrs)) λ(m:Bool)=>
 AC (gd ((((j.ID=l.ID)&&(j.Kind=l.Kind))&&m)==true) (Lo j.Flow l.Flow)) λ(q:Bool)=>
 AC (gd (((((j.ID=l.ID)&&(j.Kind=l.Kind))&&m)&&q)==true) (Mi j.Grid l.Grid)) λ(w:Bool)=>
 AC (gd ((((((j.ID=l.ID)&&(j.Kind=l.Kind))&&m)&&q)&&w)==true) (MB j.Draw l.Draw)) λ(A:Bool)=>
 some ((((((j.ID=l.ID)&&(j.Kind=l.Kind))&&m)&&q)&&w)&&A)
def Lw(l:AN)(m:AN)(j:Int):Option (Int ⊕ (Ar Unit Bool)):=
 if(decide (j<(l.Nodes.length:Int))) then(
 AC (AM l.Nodes j) λ(q:AX)=>
 AC (AM m.Nodes j) λ(w:AX)=>
 AC (Lr q w) λ(A:Bool)=>
 if(!A) then(
 some (.inr (.ext false))
 ) else(
 AC (AS .i64 (j+1)) λ(B:Int)=>
 some (.inl B)
 )
 ) else(
 some (.inr (.nrm ()))
 )
def Nb(j:AN)(l:AN):Option (Bool):=
 if(!((j.Nodes.length:Int)=(l.Nodes.length:Int))) then(
 some false
 ) else(
 Ay (iter (λ(a:Int)=>Lw j l a) 0) λ(m:Unit)=>
 some true
 )
def Lm:Option (Bool):=
 AC (O4) λ(l:AN)=>
 AC (ET l) λ(j:Int)=>
 AC (
 if((decide (j=0))==true) then(
 AC (PK) λ(m:AP)=>
 AC (QP [m]) λ(q:AN)=>
 AC (Nb l q) λ(w:Bool)=>
 some ((j=0)&&w)
 ) else(
 some ((j=0)&&false)
 )
 ) λ(A:Bool)=>
 some A
def Q8(m:List Au)(w:List Au)(q:Int):Option (Int ⊕ (Ar Unit Bool)):=
 if(decide (q<(m.length:Int))) then(
 AC (AM m q) λ(j:Au)=>
 AC (AM w q) λ(l:Au)=>
 if(!((j.Clock=l.Clock)&&((j.Site=l.Site)&&((j.Kind=l.Kind)&&((j.Item=l.Item)&&((j.Parent=l.Parent)&&((j.Place=l.Place)&&((j.Name=l.Name)&&((j.Value=l.Value)&&true))))))))) then(
 some (.inr (.ext false))
 ) else(
 AC (AS .i64 (q+1)) λ(A:Int)=>
 some (.inl A)
 )
 ) else(
 some (.inr (.nrm ()))
 )
def Rs(j:List Au)(l:List Au):Option (Bool):=
 if(!((j.length:Int)=(l.length:Int))) then(
 some false
 ) else(
 Ay (iter (λ(a:Int)=>Q8 j l a) 0) λ(m:Unit)=>
 some true
 )
def Sx(j:AX)(l:AX):Option (Bool):=
 AC (gd (((j.ID=l.ID)&&(j.Kind=l.Kind))==true) (KA j.Attrs l.Attrs)) λ(m:Bool)=>
 AC (gd ((((j.ID=l.ID)&&(j.Kind=l.Kind))&&m)==true) (Sz j.Flow l.Flow)) λ(q:Bool)=>
 AC (gd (((((j.ID=l.ID)&&(j.Kind=l.Kind))&&m)&&q)==true) (Jg j.Grid l.Grid)) λ(w:Bool)=>
 AC (gd ((((((j.ID=l.ID)&&(j.Kind=l.Kind))&&m)&&q)&&w)==true) (Rs j.Draw l.Draw)) λ(A:Bool)=>
 some ((((((j.ID=l.ID)&&(j.Kind=l.Kind))&&m)&&q)&&w)&&A)
def Sm(j:List AX)(m:List AX)(l:Int):Option (Int ⊕ (Ar Unit Bool)):=
 if(decide (l<(j.length:Int))) then(
 AC (AM j l) λ(q:AX)=>
 AC (AM m l) λ(w:AX)=>
 AC (Sx q w) λ(A:Bool)=>
 if(!A) then(
 some (.inr (.ext false))
 ) else(
 AC (AS .i64 (l+1)) λ(B:Int)=>
 some (.inl B)
 )
 ) else(
 some (.inr (.nrm ()))
 )
def Vt(j:List AX)(l:List AX):Option (Bool):=
 if(!((j.length:Int)=(l.length:Int))) then(
 some false
 ) else(
 Ay (iter (λ(a:Int)=>Sm j l a) 0) λ(m:Unit)=>
 some true
 )
def Tb(j:AN)(l:AN):Option (Bool):=
 AC (Vt j.Nodes l.Nodes) λ(m:Bool)=>
 some m
def Ju(m:List Am)(l:Int)(g2:A5):Option ((Int × A5) ⊕ A5):=
 if(decide (l<(m.length:Int))) then(
 AC (AM g2.Cells l) λ(j:Am)=>
 AC (app 32 [] j.Attrs) λ(q:List AG)=>
 AC (AS .i64 (l+1)) λ(w:Int)=>
 some (.inl (w,(A5.mk g2.Rows g2.Cols (g2.Cells.set l.toNat (Am.mk j.Row j.Col j.Text j.Ref q)) g2.Merges)))
 ) else(
 some (.inr g2)
 )
def Mo(n1:AX):Option (AX):=
 AC (app 32 [] n1.Attrs) λ(l:List AG)=>
 AC (Ms n1.Flow) λ(m:List AP)=>
 AC (app 88 [] n1.Draw) λ(q:List Au)=>
 AC (app 32 [] n1.Grid.Merges) λ(w:List Ak)=>
 AC (app 64 [] n1.Grid.Cells) λ(j:List Am)=>
 AC (iter (λ(a:Int × A5)=>Ju j a.1 a.2) (0,(A5.mk n1.Grid.Rows n1.Grid.Cols j w))) λ(g4:A5)=>
 some (AX.mk n1.ID n1.Kind l m g4 q)
def NG(d1:AN)(l:Int)(j:Int):Option (Int ⊕ (Ar Unit Int)):=
 if(decide (j<(d1.Nodes.length:Int))) then(
 AC (AM d1.Nodes j) λ(m:AX)=>
 if(decide (m.ID=l)) then(
 some (.inr (.ext j))
 ) else(
 AC (AS .i64 (j+1)) λ(q:Int)=>
 some (.inl q)
 )
 ) else(
 some (.inr (.nrm ()))
 )
def IL(d1:AN)(j:Int):Option (Int):=
 Ay (iter (λ(a:Int)=>NG d1 j a) 0) λ(l:Unit)=>
 some (-1)
end
noncomputable section
def Kr(j:Int):Option (Bool):=
 some ((((j=1)||(j=3))||(j=4))||(j=12))
def NO(j:Int)(l:Int):Option (Bool):=
 AC (
 if(decide (l=1)) then(
 some (decide (l=1))
 ) else(
 if(decide (l=6)) then(
 some (decide (l=6))
 ) else(
 if(decide (l=7)) then(
 some (decide (l=7))
 ) else(
 if(decide (l=11)) then(
 some (decide (l=11))
 ) else(
 some (decide (l=12))
 )
 )
 )
 )
 ) λ(m:Bool)=>
 if m then(
 some (decide (j=0))
 ) else(
 if(decide (l=10)) then(
 some (((j=0)||(j=1))||(j=3))
 ) else(
 if(decide (l=2)) then(
 some (decide (j=1))
 ) else(
 if(decide (l=4)) then(
 some ((j=1)||(j=3))
 ) else(
 if(decide (l=5)) then(
 AC (Kr j) λ(q:Bool)=>
 some q
 ) else(
 if(decide (l=3)) then(
 some (decide (j=2))
 ) else(
 AC (
 if(decide (l=8)) then(
 some (decide (l=8))
 ) else(
 some (decide (l=9))
 )
 ) λ(w:Bool)=>
 if w then(
 some (decide (j=7))
 ) else(
 some false
 )
 )
 )
 )
 )
 )
 )
def O1(j:Int):Option (Bool):=
 some ((j=0)||(j=7))
def NR(j:A5):Option (Bool):=
 some ((((j.Rows=0)&&(j.Cols=0))&&((j.Cells.length:Int)=0))&&((j.Merges.length:Int)=0))
def Lp(j:Int):Option (Bool):=
 some ((j=2)||(j=6))
def Pi(j:Int):Option (Bool):=
 some (((j=8)||(j=9))||(j=10))
def QE(j:List UInt8):Option (Bool):=
 Od j
def E4(l:List UInt8)(j:(Nat)):Option ((Nat) ⊕ (Ar Unit Bool)):=
 if(decide (j<l.length)) then(
 AC (gd ((decide (((Fh l j).1:Int)=10))==false) (Kn (IntKind.i64.wrap ((Fh l j).1:Int)))) λ(m:Bool)=>
 if((((Fh l j).1:Int)=10)||(!m)) then(
 some (.inr (.ext false))
 ) else(
 some (.inl (j+(Fh l j).2))
 )
 ) else(
 some (.inr (.nrm ()))
 )
def M5(j:List UInt8):Option (Bool):=
 AC (QE j) λ(l:Bool)=>
 if(!l) then(
 some false
 ) else(
 Ay (iter (λ(a:(Nat))=>E4 j a) 0) λ(m:Unit)=>
 some true
 )
def OV(j:Am):Option (Bool):=
 some (((j.Text=[])&&(j.Ref=0))&&((j.Attrs.length:Int)=0))
def Mm(B:List Am)(q:Int)(w:Int)(l:Bool)(m:Int):Option (Int ⊕ (Ar Unit Int)):=
 if(decide (m<(B.length:Int))) then(
 AC (AM B m) λ(j:Am)=>
 AC (AS .i64 (q-1)) λ(M:Int)=>
 AC (Cm j.Row 0 M) λ(C:Bool)=>
 AC (gd ((!C)==false) (AS .i64 (w-1))) λ(O:Int)=>
 AC (gd ((!C)==false) (Cm j.Col 0 O)) λ(I:Bool)=>
 AC (gd (((!C)||(!I))==false) (Cm j.Ref 0 1073741824)) λ(T:Bool)=>
 if(((!C)||(!I))||(!T)) then(
 some (.inr (.ext 2))
 ) else(
 AC (M5 j.Text) λ(U:Bool)=>
 if(!U) then(
 some (.inr (.ext 23))
 ) else(
 AC (JT j.Attrs false) λ(J:Int)=>
 if(!(J=0)) then(
 some (.inr (.ext J))
 ) else(
 AC (gd ((!l)==true) (OV j)) λ(V:Bool)=>
 if((!l)&&V) then(
 some (.inr (.ext 4))
 ) else(
 AC (gd ((decide (0<m))==true) (AS .i64 (m-1))) λ(X:Int)=>
 AC (gd ((decide (0<m))==true) (AM B X)) λ(A:Am)=>
 AC (gd ((((decide (0<m))==true)&&((decide (j.Row<A.Row))==false))&&((decide (j.Row=A.Row))==true)) (AS .i64 (m-1))) λ(Z:Int)=>
 AC (gd ((((decide (0<m))==true)&&((decide (j.Row<A.Row))==false))&&((decide (j.Row=A.Row))==true)) (AM B Z)) λ(E:Am)=>
 if((0<m)&&((j.Row<A.Row)||((j.Row=A.Row)&&(j.Col≤E.Col)))) then(
 some (.inr (.ext 5))
 ) else(
 AC (AS .i64 (m+1)) λ(F:Int)=>
 some (.inl F)
 )
 )
 )
 )
 )
 ) else(
 some (.inr (.nrm ()))
 )
def L7(q:List Am)(j:Int)(l:Int)(m:Bool):Option (Int):=
 Ay (iter (λ(a:Int)=>Mm q j l m a) 0) λ(w:Unit)=>
 some 0
def N1(q:Ak)(j:Int)(l:Int):Option (Bool):=
 AC (AS .i64 (j-1)) λ(B:Int)=>
 AC (Cm q.Row 0 B) λ(m:Bool)=>
 AC (gd (m==true) (AS .i64 (l-1))) λ(C:Int)=>
 AC (gd (m==true) (Cm q.Col 0 C)) λ(w:Bool)=>
 AC (gd ((m&&w)==true) (AS .i64 (j-q.Row))) λ(E:Int)=>
 AC (gd ((m&&w)==true) (Cm q.H 1 E)) λ(A:Bool)=>
 AC (gd (((m&&w)&&A)==true) (AS .i64 (l-q.Col))) λ(F:Int)=>
 AC (gd (((m&&w)&&A)==true) (Cm q.W 1 F)) λ(I:Bool)=>
 some (((m&&w)&&A)&&I)
def NX(j:Ak)(l:Ak):Option (Bool):=
 AC (AS .i64 (j.Row+j.H)) λ(m:Int)=>
 AC (AS .i64 (l.Row+l.H)) λ(q:Int)=>
 AC (gd ((decide ((max j.Row l.Row)<(min m q)))==true) (AS .i64 (j.Col+j.W))) λ(w:Int)=>
 AC (gd ((decide ((max j.Row l.Row)<(min m q)))==true) (AS .i64 (l.Col+l.W))) λ(A:Int)=>
 some (((max j.Row l.Row)<(min m q))&&((max j.Col l.Col)<(min w A)))
def Ny(q:A5)(w:Int)(A:Ak)(j:Int):Option (Int ⊕ (Ar Unit (Int ⊕ (Ar Unit Int)))):=
 if(decide (j<w)) then(
 AC (AM q.Merges j) λ(l:Ak)=>
 AC (NX A l) λ(B:Bool)=>
 if B then(
 some (.inr (.ext (.inr (.ext 21))))
 ) else(
 AC (AS .i64 (j+1)) λ(m:Int)=>
 some (.inl m)
 )
 ) else(
 some (.inr (.nrm ()))
 )
def MZ(m:A5)(j:Int):Option (Int ⊕ (Ar Unit Int)):=
 if(decide (j<(m.Merges.length:Int))) then(
 AC (AM m.Merges j) λ(l:Ak)=>
 AC (N1 l m.Rows m.Cols) λ(A:Bool)=>
 if(!A) then(
 some (.inr (.ext 2))
 ) else(
 if((l.H=1)&&(l.W=1)) then(
 some (.inr (.ext 4))
 ) else(
 AC (gd ((decide (0<j))==true) (AS .i64 (j-1))) λ(B:Int)=>
 AC (gd ((decide (0<j))==true) (AM m.Merges B)) λ(q:Ak)=>
 AC (gd ((((decide (0<j))==true)&&((decide (l.Row<q.Row))==false))&&((decide (l.Row=q.Row))==true)) (AS .i64 (j-1))) λ(C:Int)=>
 AC (gd ((((decide (0<j))==true)&&((decide (l.Row<q.Row))==false))&&((decide (l.Row=q.Row))==true)) (AM m.Merges C)) λ(E:Ak)=>
 if((0<j)&&((l.Row<q.Row)||((l.Row=q.Row)&&(l.Col≤E.Col)))) then(
 some (.inr (.ext 5))
 ) else(
 Ay (iter (λ(a:Int)=>Ny m j l a) 0) λ(F:Unit)=>
 AC (AS .i64 (j+1)) λ(w:Int)=>
 some (.inl w)
 )
 )
 )
 ) else(
 some (.inr (.nrm ()))
 )
def N8(j:A5):Option (Int):=
 AC (Cm j.Rows 0 2147483647) λ(l:Bool)=>
 AC (gd ((!l)==false) (Cm j.Cols 0 2147483647)) λ(q:Bool)=>
 if((!l)||(!q)) then(
 some 2
 ) else(
 AC (L7 j.Cells j.Rows j.Cols false) λ(m:Int)=>
 if(!(m=0)) then(
 some m
 ) else(
 Ay (iter (λ(a:Int)=>MZ j a) 0) λ(w:Unit)=>
 some 0
 )
 )
def Ml(j:Int)(q:List Am)(l:Int):Option (Int ⊕ (Ar Unit Int)):=
 if(decide (l<(q.length:Int))) then(
 AC (gd ((decide (j=2))==true) (AM q l)) λ(m:Am)=>
 AC (gd ((((j=2)&&((!(m.Text=[]))||(0<(m.Attrs.length:Int))))==false)&&((decide (j=6))==true)) (AM q l)) λ(w:Am)=>
 if(((j=2)&&((!(m.Text=[]))||(0<(m.Attrs.length:Int))))||((j=6)&&(!(w.Ref=0)))) then(
 some (.inr (.ext 4))
 ) else(
 AC (AS .i64 (l+1)) λ(A:Int)=>
 some (.inl A)
 )
 ) else(
 some (.inr (.nrm ()))
 )
def MP(j:Int)(l:List Am):Option (Int):=
 Ay (iter (λ(a:Int)=>Ml j l a) 0) λ(m:Unit)=>
 some 0
def JZ(m:List UInt8)(l:Int):Option (Int ⊕ (Ar Unit Bool)):=
 if(decide (l<(m.length:Int))) then(
 AC (AM m l) λ(j:UInt8)=>
 if(((j.toNat:Int)<97)||(122<(j.toNat:Int))) then(
 some (.inr (.ext false))
 ) else(
 AC (AS .i64 (l+1)) λ(q:Int)=>
 some (.inl q)
 )
 ) else(
 some (.inr (.nrm ()))
 )
def OJ(j:List UInt8):Option (Bool):=
 Ay (iter (λ(a:Int)=>JZ j a) 0) λ(q:Unit)=>
 AC (gd (((1≤(j.length:Int))&&((j.length:Int)≤200))==true) (AS .i64 ((j.length:Int)-1))) λ(m:Int)=>
 AC (gd (((1≤(j.length:Int))&&((j.length:Int)≤200))==true) (AM j m)) λ(l:UInt8)=>
 some (((1≤(j.length:Int))&&((j.length:Int)≤200))&&(!((l.toNat:Int)=97)))
def KZ(j:Au)(l:Au):Option (Bool):=
 some ((j.Clock<l.Clock)||((j.Clock=l.Clock)&&(j.Site<l.Site)))
def Mv(m:List Au)(l:Int):Option (Int ⊕ (Ar Unit Int)):=
 if(decide (l<(m.length:Int))) then(
 AC (AM m l) λ(j:Au)=>
 if((!(j.Kind=0))&&(!(j.Kind=1))) then(
 some (.inr (.ext 8))
 ) else(
 AC (Cm j.Clock 1 1073741824) λ(q:Bool)=>
 AC (gd ((!q)==false) (Cm j.Site 0 1000)) λ(w:Bool)=>
 AC (gd (((!q)||(!w))==false) (Cm j.Item 1 1073741824)) λ(A:Bool)=>
 if(((!q)||(!w))||(!A)) then(
 some (.inr (.ext 2))
 ) else(
 Ay (
 if(decide (j.Kind=0)) then(
 if((!(j.Name=[]))||(!(j.Value=[]))) then(
 some (.ext (.inr (.ext 4)))
 ) else(
 AC (Cm j.Parent (-1) 1073741824) λ(B:Bool)=>
 if(!B) then(
 some (.ext (.inr (.ext 2)))
 ) else(
 AC (OJ j.Place) λ(C:Bool)=>
 if(!C) then(
 some (.ext (.inr (.ext 9)))
 ) else(
 some (.nrm ())
 )
 )
 )
 ) else(
 if((!(j.Parent=0))||(!(j.Place=[]))) then(
 some (.ext (.inr (.ext 4)))
 ) else(
 AC (KV j.Name) λ(E:Bool)=>
 if(!E) then(
 some (.ext (.inr (.ext 9)))
 ) else(
 AC (gd ((!(j.Value=[]))==true) (LR j.Value)) λ(F:Bool)=>
 if((!(j.Value=[]))&&(!F)) then(
 some (.ext (.inr (.ext 23)))
 ) else(
 some (.nrm ())
 )
 )
 )
 )
 ) λ(T:Unit)=>
 AC (gd ((decide (0<l))==true) (AS .i64 (l-1))) λ(I:Int)=>
 AC (gd ((decide (0<l))==true) (AM m I)) λ(J:Au)=>
 AC (gd ((decide (0<l))==true) (KZ J j)) λ(M:Bool)=>
 if((0<l)&&(!M)) then(
 some (.inr (.ext 5))
 ) else(
 AC (AS .i64 (l+1)) λ(O:Int)=>
 some (.inl O)
 )
 )
 )
 ) else(
 some (.inr (.nrm ()))
 )
def M8(j:List Au):Option (Int):=
 Ay (iter (λ(a:Int)=>Mv j a) 0) λ(l:Unit)=>
 some 0
def ND(n1:AX):Option (Int):=
 AC (Cm n1.ID 1 1073741824) λ(F:Bool)=>
 if(!F) then(
 some 2
 ) else(
 AC (Cm n1.Kind 0 12) λ(I:Bool)=>
 if(((!I)||((n1.ID=1)&&(!(n1.Kind=0))))||((!(n1.ID=1))&&(n1.Kind=0))) then(
 some 8
 ) else(
 AC (JT n1.Attrs false) λ(B:Int)=>
 if(!(B=0)) then(
 some B
 ) else(
 AC (Kr n1.Kind) λ(j:Bool)=>
 AC (gd (j==false) (O1 n1.Kind)) λ(l:Bool)=>
 AC (gd (((0<(n1.Flow.length:Int))&&(!(j||l)))==false) (NR n1.Grid)) λ(m:Bool)=>
 AC (gd ((((0<(n1.Flow.length:Int))&&(!(j||l)))==false)&&((!m)==true)) (Lp n1.Kind)) λ(C:Bool)=>
 AC (gd (((((0<(n1.Flow.length:Int))&&(!(j||l)))||((!m)&&(!C)))==false)&&((decide (0<(n1.Draw.length:Int)))==true)) (Pi n1.Kind)) λ(J:Bool)=>
 if((((0<(n1.Flow.length:Int))&&(!(j||l)))||((!m)&&(!C)))||((0<(n1.Draw.length:Int))&&(!J))) then(
 some 4
 ) else(
 if(j||l) then(
 AC (Im n1.Flow j) λ(M:Int)=>
 some M
 ) else(
 AC (Lp n1.Kind) λ(q:Bool)=>
 if q then(
 AC (N8 n1.Grid) λ(E:Int)=>
 if(!(E=0)) then(
 some E
 ) else(
 AC (MP n1.Kind n1.Grid.Cells) λ(w:Int)=>
 some w
 )
 ) else(
 AC (M8 n1.Draw) λ(A:Int)=>
 some A
 )
 )
 )
 )
 )
 )
def Ow(n1:AX)(q:Int)(j:List Int):Option ((Int × (List Int)) ⊕ (List Int)):=
 if(decide (q<(n1.Grid.Cells.length:Int))) then(
 AC (
 AC (AM n1.Grid.Cells q) λ(w:Am)=>
 if(!(w.Ref=0)) then(
 AC (app 8 j [w.Ref]) λ(l:List Int)=>
 some l
 ) else(
 some j
 )
 ) λ(m:List Int)=>
 AC (AS .i64 (q+1)) λ(A:Int)=>
 some (.inl (A,m))
 ) else(
 some (.inr j)
 )
def P0(n1:AX)(w:Int)(j:List Int):Option ((Int × (List Int)) ⊕ (List Int)):=
 if(decide (w<(n1.Flow.length:Int))) then(
 AC (
 AC (AM n1.Flow w) λ(q:AP)=>
 if(!(q.Ref=0)) then(
 AC (app 8 j [q.Ref]) λ(l:List Int)=>
 some l
 ) else(
 some j
 )
 ) λ(m:List Int)=>
 AC (AS .i64 (w+1)) λ(A:Int)=>
 some (.inl (A,m))
 ) else(
 some (.inr j)
 )
def N9(n1:AX):Option ((List Int)):=
 AC (iter (λ(a:Int × (List Int))=>P0 n1 a.1 a.2) (0,[])) λ(j:List Int)=>
 AC (iter (λ(a:Int × (List Int))=>Ow n1 a.1 a.2) (0,j)) λ(l:List Int)=>
 some l
def Lg(d1:AN)(j:Int)(Gj:List Int)(l:Int):Option (Int ⊕ (Ar Unit Int)):=
 if(decide (l<(Gj.length:Int))) then(
 AC (AM Gj l) λ(q:Int)=>
 AC (IL d1 q) λ(m:Int)=>
 if(decide (m<0)) then(
 some (.inr (.ext 7))
 ) else(
 AC (AM d1.Nodes m) λ(w:AX)=>
 AC (NO j w.Kind) λ(A:Bool)=>
 if(!A) then(
 some (.inr (.ext 8))
 ) else(
 AC (AS .i64 (l+1)) λ(B:Int)=>
 some (.inl B)
 )
 )
 ) else(
 some (.inr (.nrm ()))
 )
def Lv(d1:AN)(j:Int)(Gj:List Int):Option (Int):=
 Ay (iter (λ(a:Int)=>Lg d1 j Gj a) 0) λ(l:Unit)=>
 some 0
def KL(d1:AN)(j:Int):Option (Int ⊕ (Ar Unit Int)):=
 if(decide (j<(d1.Nodes.length:Int))) then(
 AC (AM d1.Nodes j) λ(l:AX)=>
 AC (N9 l) λ(q:List Int)=>
 AC (Lv d1 l.Kind q) λ(m:Int)=>
 if(!(m=0)) then(
 some (.inr (.ext m))
 ) else(
 AC (AS .i64 (j+1)) λ(w:Int)=>
 some (.inl w)
 )
 ) else(
 some (.inr (.nrm ()))
 )
def LB(d1:AN)(j:Int):Option (Int ⊕ (Ar Unit Int)):=
 if(decide (j<(d1.Nodes.length:Int))) then(
 AC (AM d1.Nodes j) λ(A:AX)=>
 AC (ND A) λ(B:Int)=>
 if(!(B=0)) then(
 some (.inr (.ext B))
 ) else(
 AC (gd ((decide (j=0))==true) (AM d1.Nodes 0)) λ(l:AX)=>
 AC (gd ((((j=0)&&(!(l.ID=1)))==false)&&((decide (0<j))==true)) (AS .i64 (j-1))) λ(m:Int)=>
 AC (gd ((((j=0)&&(!(l.ID=1)))==false)&&((decide (0<j))==true)) (AM d1.Nodes m)) λ(q:AX)=>
 if(((j=0)&&(!(l.ID=1)))||((0<j)&&(A.ID≤q.ID))) then(
 some (.inr (.ext 5))
 ) else(
 AC (AS .i64 (j+1)) λ(w:Int)=>
 some (.inl w)
 )
 )
 ) else(
 some (.inr (.nrm ()))
 )
def MN(d1:AN):Option (Int):=
 if(decide ((d1.Nodes.length:Int)=0)) then(
 some 11
 ) else(
 Ay (iter (λ(a:Int)=>LB d1 a) 0) λ(j:Unit)=>
 Ay (iter (λ(a:Int)=>KL d1 a) 0) λ(l:Unit)=>
 some 0
 )
end
noncomputable section
def IU(w:A5)(j:Int)(l:Int)(q:Int):Option (Int ⊕ (Ar Unit Ak)):=
 if(decide (q<(w.Merges.length:Int))) then(
 AC (AM w.Merges q) λ(m:Ak)=>
 AC (gd ((decide (m.Row≤j))==true) (AS .i64 (j-m.Row))) λ(A:Int)=>
 AC (gd ((((m.Row≤j)&&(A<m.H))&&(m.Col≤l))==true) (AS .i64 (l-m.Col))) λ(B:Int)=>
 if((((m.Row≤j)&&(A<m.H))&&(m.Col≤l))&&(B<m.W)) then(
 some (.inr (.ext m))
 ) else(
 AC (AS .i64 (q+1)) λ(C:Int)=>
 some (.inl C)
 )
 ) else(
 some (.inr (.nrm ()))
 )
def Fs(m:A5)(j:Int)(l:Int):Option (Ak):=
 Ay (iter (λ(a:Int)=>IU m j l a) 0) λ(q:Unit)=>
 some (Ak.mk j l 1 1)
def IM(A:A5)(l:Int)(m:Int)(w:Int):Option (Int ⊕ (Ar Unit Ak)):=
 if(decide (w<(A.Merges.length:Int))) then(
 AC (AM A.Merges w) λ(j:Ak)=>
 AC (AS .i64 (j.Row+j.H)) λ(B:Int)=>
 AC (AS .i64 (B-1)) λ(C:Int)=>
 AC (Cm l j.Row C) λ(q:Bool)=>
 AC (gd (q==true) (AS .i64 (j.Col+j.W))) λ(E:Int)=>
 AC (gd (q==true) (AS .i64 (E-1))) λ(F:Int)=>
 AC (gd (q==true) (Cm m j.Col F)) λ(I:Bool)=>
 if(q&&I) then(
 some (.inr (.ext j))
 ) else(
 AC (AS .i64 (w+1)) λ(J:Int)=>
 some (.inl J)
 )
 ) else(
 some (.inr (.nrm ()))
 )
def ML(m:A5)(j:Int)(l:Int):Option (Ak):=
 Ay (iter (λ(a:Int)=>IM m j l a) 0) λ(q:Unit)=>
 some (Ak.mk j l 1 1)
end
noncomputable section
structure AB where
 Item:Int
 Parent:Int
 Place:List UInt8
 Attrs:List AG
deriving DecidableEq
instance:Inhabited AB:=⟨⟨0,0,[],[]⟩⟩
@[reducible] def AB.row(x:AB):List RV:=[.int .i64 x.Item,.int .i64 x.Parent,.str x.Place,.sl (x.Attrs.map AG.row)]
end
noncomputable section
structure g9 where
 Node:Int
 From:Int
 To:Int
deriving DecidableEq
instance:Inhabited g9:=⟨⟨0,0,0⟩⟩
structure iq where
 node:AX
 shown:List Int
 author:List UInt8
deriving DecidableEq
instance:Inhabited iq:=⟨⟨(AX.mk 0 0 [] [] (A5.mk 0 0 [] []) []),[],[]⟩⟩
end
noncomputable section
end
noncomputable section
def GY(m:List (Int × AB))(l:Int)(j:Int):Option (Int ⊕ (Ar Unit Bool)):=
 if(decide (0<j)) then(
 if(decide (j=l)) then(
 some (.inr (.ext true))
 ) else(
 if(!((AR m j).isSome)) then(
 some (.inr (.ext false))
 ) else(
 AC (AR m j) λ(q:AB)=>
 some (.inl q.Parent)
 )
 )
 ) else(
 some (.inr (.nrm ()))
 )
def MW(m:List (Int × AB))(m2:List (Int × (List AG)))(j:Int)(l:Int):Option (Bool):=
 Ay (iter (λ(a:Int)=>GY m l a) j) λ(q:Unit)=>
 some false
def H6(A:List Au)(q:Int)(m:List (Int × AB))(l:List (Int × (List AG))):Option ((Int × (List (Int × AB)) × (List (Int × (List AG)))) ⊕ ((List (Int × AB)) × (List (Int × (List AG))))):=
 if(decide (q<(A.length:Int))) then(
 CE (
 AC (AM A q) λ(j:Au)=>
 if(decide (j.Kind=1)) then(
 AC (LT ((AR l j.Item).getD []) [(AG.mk j.Name j.Value)]) λ(B:List AG)=>
 some (m,(Ai l j.Item B))
 ) else(
 AC (MW m l j.Parent j.Item) λ(C:Bool)=>
 if(!C) then(
 some ((Ai m j.Item (AB.mk j.Item j.Parent j.Place [])),l)
 ) else(
 some (m,l)
 )
 )
 ) λ(E:List (Int × AB)) (w:List (Int × (List AG)))=>
 AC (AS .i64 (q+1)) λ(F:Int)=>
 some (.inl (F,E,w))
 ) else(
 some (.inr (m,l))
 )
def Kg(j:List Au):Option ((List (Int × AB)) × (List (Int × (List AG)))):=
 CE (iter (λ(a:Int × (List (Int × AB)) × (List (Int × (List AG))))=>H6 j a.1 a.2.1 a.2.2) (0,[],[])) λ(l:List (Int × AB)) (m:List (Int × (List AG)))=>
 some (l,m)
def OP(j:List UInt8):Option (Bool):=
 some (!(j=j))
def Ma(m:List UInt8)(q:List UInt8):Option (Int):=
 AC (OP m) λ(l:Bool)=>
 AC (OP q) λ(j:Bool)=>
 if l then(
 if j then(
 some 0
 ) else(
 some (-1)
 )
 ) else(
 if j then(
 some 1
 ) else(
 if(Av m q) then(
 some (-1)
 ) else(
 if(!(Av m q||(m=q))) then(
 some 1
 ) else(
 some 0
 )
 )
 )
 )
def KI(j:AB)(l:AB):Option (Int):=
 AC (Ma j.Place l.Place) λ(m:Int)=>
 AC (F7 j.Item l.Item) λ(q:Int)=>
 AC (Ht [m,q]) λ(w:Int)=>
 some w
def F1(j:Int)(self:(List (Int × (List AB)))→(List AB)→(List (Int × Bool))→Int→Option ((List (Int × (List AB))) × (List AB) × (List (Int × Bool))))(A:List (Int × List AB))(l:Int)(o2:List AB)(m:List (Int × (List AB)))(w:List (Int × Bool)):Option ((Int × (List AB) × (List (Int × (List AB))) × (List (Int × Bool))) ⊕ (Ar Unit ((List (Int × (List AB))) × (List AB) × (List (Int × Bool))))):=
 if(decide (l<(((AR A j).getD []).length:Int))) then(
 AC (AM ((AR m j).getD []) l) λ(q:AB)=>
 AC (app 56 o2 [q]) λ(B:List AB)=>
 CU (self m B (Ai w q.Item true) q.Item) λ(C:List (Int × (List AB))) (E:List AB) (F:List (Int × Bool))=>
 AC (AS .i64 (l+1)) λ(I:Int)=>
 some (.inl (I,E,C,F))
 ) else(
 some (.inr (.ext (m,o2,w)))
 )
def IJ(self:(List (Int × (List AB)))→(List AB)→(List (Int × Bool))→Int→Option ((List (Int × (List AB))) × (List AB) × (List (Int × Bool))))(m:List (Int × (List AB)))(q:List AB)(m2:List (Int × Bool))(j:Int):Option ((List (Int × (List AB))) × (List AB) × (List (Int × Bool))):=
 AC (J9 KI m j) λ(l:List (Int × List AB))=>
 Ay (iter (λ(a:Int × (List AB) × (List (Int × (List AB))) × (List (Int × Bool)))=>F1 j self l a.1 a.2.1 a.2.2.1 a.2.2.2) (0,q,l,m2)) λ(w:Unit)=>
 none
def Dj:Nat→(List (Int × (List AB)))→(List AB)→(List (Int × Bool))→Int→Option ((List (Int × (List AB))) × (List AB) × (List (Int × Bool)))
 | 0,_,_,_,_=>none
 | n+1,l,m,m2,j=>IJ (λl m m2 j=>Dj n l m m2 j) l m m2 j
def Mh(l:List (Int × (List AB)))(m:List AB)(m2:List (Int × Bool))(j:Int):Option ((List (Int × (List AB))) × (List AB) × (List (Int × Bool))):=
 @dite _ (∃n r,Dj n l m m2 j=some r) (Classical.propDecidable _) (λh=>Dj h.choose l m m2 j) (λ_=>none)
def NK(j:AB)(l:AB):Option (Int):=
 AC (F7 j.Item l.Item) λ(m:Int)=>
 some m
def Gu(m:List (Int × (List AG)))(q:List AB)(A:List (Int × AB))(B:List (Int × (List AB)))(l:Int):Option ((List AB) × (List (Int × AB)) × (List (Int × (List AB)))):=
 AC (AR A l) λ(j:AB)=>
 AC (app 56 ((AR B ((AB.mk j.Item j.Parent j.Place ((AR m l).getD [])).Parent)).getD []) [(AB.mk j.Item j.Parent j.Place ((AR m l).getD []))]) λ(C:List AB)=>
 AC (app 56 q [(AB.mk j.Item j.Parent j.Place ((AR m l).getD []))]) λ(w:List AB)=>
 some (w,(Ai A l (AB.mk j.Item j.Parent j.Place ((AR m l).getD []))),(Ai B ((AB.mk j.Item j.Parent j.Place ((AR m l).getD [])).Parent) C))
def HT(A:List (Int × Bool))(q:List AB)(m:Int)(j:List AB):Option ((Int × (List AB)) ⊕ (List AB)):=
 if(decide (m<(q.length:Int))) then(
 AC (
 AC (AM q m) λ(w:AB)=>
 if(!((AR A w.Item).getD false)) then(
 AC (app 56 j [w]) λ(B:List AB)=>
 some B
 ) else(
 some j
 )
 ) λ(l:List AB)=>
 AC (AS .i64 (m+1)) λ(C:Int)=>
 some (.inl (C,l))
 ) else(
 some (.inr j)
 )
def L2(m:List Au):Option ((List AB)):=
 CE (Kg m) λ(q:List (Int × AB)) (w:List (Int × (List AG)))=>
 LE (λ(a:(List AB) × (List (Int × AB)) × (List (Int × (List AB))))=>a.2.1.map (·.1)) (λ(a:(List AB) × (List (Int × AB)) × (List (Int × (List AB)))) (A:Int)=>Gu w a.1 a.2.1 a.2.2 A) ([],q,[]) λ(a:(List AB) × (List (Int × AB)) × (List (Int × (List AB))))=>
 CU (some a) λ(j:List AB) (I:List (Int × AB)) (B:List (Int × (List AB)))=>
 CU (Mh B [] ([]:List (Int × Bool)) 0) λ(J:List (Int × (List AB))) (C:List AB) (E:List (Int × Bool))=>
 AC (G8 NK j) λ(F:List AB)=>
 AC (iter (λ(a:Int × (List AB))=>HT E F a.1 a.2) (0,C)) λ(l:List AB)=>
 some l
def Hw(m:List AB)(j:Int)(l:Int):Option (Int ⊕ (Ar Unit Int)):=
 if(decide (l<(m.length:Int))) then(
 AC (AM m l) λ(q:AB)=>
 if(decide (q.Item=j)) then(
 some (.inr (.ext l))
 ) else(
 AC (AS .i64 (l+1)) λ(w:Int)=>
 some (.inl w)
 )
 ) else(
 some (.inr (.nrm ()))
 )
def H3(l:List AB)(j:Int):Option (Int):=
 Ay (iter (λ(a:Int)=>Hw l j a) 0) λ(m:Unit)=>
 some (-1)
def Gk(m:List AB)(l:Int)(A:Int)(j:Int)(q:Int):Option ((Int × Int) ⊕ (Ar Unit Bool)):=
 if(decide (q<A)) then(
 if(decide (j=l)) then(
 some (.inr (.ext true))
 ) else(
 AC (H3 m j) λ(w:Int)=>
 if(decide (w<0)) then(
 some (.inr (.ext false))
 ) else(
 AC (AM m w) λ(B:AB)=>
 AC (AS .i64 (q+1)) λ(C:Int)=>
 some (.inl (B.Parent,C))
 )
 )
 ) else(
 some (.inr (.nrm ()))
 )
def Kl(m:List AB)(j:Int)(l:Int):Option (Bool):=
 AC (AS .i64 ((m.length:Int)+1)) λ(q:Int)=>
 Ay (iter (λ(a:Int × Int)=>Gk m l q a.1 a.2) (j,0)) λ(w:Unit)=>
 some false
def Hi(m:List AB)(l:List AB)(w:Int)(j:List AB):Option ((Int × (List AB)) ⊕ (List AB)):=
 if(decide (w<(m.length:Int))) then(
 AC (
 AC (AM j w) λ(A:AB)=>
 AC (H3 l A.Item) λ(B:Int)=>
 if(decide (0≤B)) then(
 AC (AM l B) λ(C:AB)=>
 some (j.set w.toNat (AB.mk A.Item A.Parent A.Place C.Attrs))
 ) else(
 some j
 )
 ) λ(q:List AB)=>
 AC (AS .i64 (w+1)) λ(E:Int)=>
 some (.inl (E,q))
 ) else(
 some (.inr j)
 )
def Hk(M:List Au)(I:Int)(j:List AB)(l:List AB):Option ((Int × (List AB) × (List AB)) ⊕ ((List AB) × (List AB))):=
 if(decide (I<(M.length:Int))) then(
 CE (
 AC (AM M I) λ(m:Au)=>
 if(decide (m.Kind=1)) then(
 AC (H3 l m.Item) λ(O:Int)=>
 CE (
 if(decide (O<0)) then(
 AC (app 56 l [(AB.mk m.Item 0 [] [])]) λ(C:List AB)=>
 some ((l.length:Int),C)
 ) else(
 some (O,l)
 )
 ) λ(T:Int) (w:List AB)=>
 AC (AM w T) λ(E:AB)=>
 AC (Ki E.Attrs [(AG.mk m.Name m.Value)]) λ(X:List AG)=>
 some (j,(w.set T.toNat (AB.mk E.Item E.Parent E.Place X)))
 ) else(
 AC (gd (((decide (m.Parent=m.Item))==false)&&((decide (0<m.Parent))==true)) (Kl j m.Parent m.Item)) λ(Z:Bool)=>
 if((m.Parent=m.Item)||((0<m.Parent)&&Z)) then(
 some (j,l)
 ) else(
 AC (H3 j m.Item) λ(U:Int)=>
 CE (
 if(decide (U<0)) then(
 AC (app 56 j [(AB.mk 0 0 [] [])]) λ(A:List AB)=>
 some ((j.length:Int),A)
 ) else(
 some (U,j)
 )
 ) λ(V:Int) (q:List AB)=>
 AC (AM q V) λ(a0:AB)=>
 some ((q.set V.toNat (AB.mk m.Item m.Parent m.Place [])),l)
 )
 )
 ) λ(B:List AB) (F:List AB)=>
 AC (AS .i64 (I+1)) λ(J:Int)=>
 some (.inl (J,B,F))
 ) else(
 some (.inr (j,l))
 )
def LU(q:List Au):Option ((List AB) × (List AB)):=
 CE (iter (λ(a:Int × (List AB) × (List AB))=>Hk q a.1 a.2.1 a.2.2) (0,[],[])) λ(j:List AB) (l:List AB)=>
 AC (iter (λ(a:Int × (List AB))=>Hi j l a.1 a.2) (0,j)) λ(m:List AB)=>
 some (m,l)
def H0(B:List AB)(m:Int)(l:List UInt8)(w:Int)(j:Int)(C:Int):Option ((Int × Int) ⊕ Int):=
 if(decide (C<(B.length:Int))) then(
 AC (
 AC (AM B C) λ(q:AB)=>
 if(((!(q.Parent=m))||(Av q.Place l))||((q.Place=l)&&(q.Item≤w))) then(
 some j
 ) else(
 AC (gd ((decide (j<0))==false) (AM B j)) λ(E:AB)=>
 AC (gd (((j<0)||(Av q.Place E.Place))==false) (AM B j)) λ(F:AB)=>
 if(((j<0)||(Av q.Place E.Place))||((q.Place=F.Place)&&(q.Item<F.Item))) then(
 some C
 ) else(
 some j
 )
 )
 ) λ(A:Int)=>
 AC (AS .i64 (C+1)) λ(I:Int)=>
 some (.inl (A,I))
 ) else(
 some (.inr j)
 )
def Fl(B:List AB)(j:Int)(self:(List AB)→(List AB)→Int→Option (List AB))(m:List UInt8)(w:Int)(q:List AB):Option (((List UInt8) × Int × (List AB)) ⊕ (Ar Unit (List AB))):=
 AC (iter (λ(a:Int × Int)=>H0 B j m w a.1 a.2) ((-1),0)) λ(l:Int)=>
 if(decide (l<0)) then(
 some (.inr (.ext q))
 ) else(
 AC (AM B l) λ(A:AB)=>
 AC (app 56 q [A]) λ(C:List AB)=>
 AC (self C B A.Item) λ(E:List AB)=>
 some (.inl (A.Place,A.Item,E))
 )
def IP(self:(List AB)→(List AB)→Int→Option (List AB))(l:List AB)(m:List AB)(j:Int):Option ((List AB)):=
 Ay (iter (λ(a:(List UInt8) × Int × (List AB))=>Fl m j self a.1 a.2.1 a.2.2) ([],0,l)) λ(q:Unit)=>
 none
def DW:Nat→(List AB)→(List AB)→Int→Option (List AB)
 | 0,_,_,_=>none
 | n+1,l,m,j=>IP (λl m j=>DW n l m j) l m j
def Lt(l:List AB)(m:List AB)(j:Int):Option ((List AB)):=
 @dite _ (∃n r,DW n l m j=some r) (Classical.propDecidable _) (λh=>DW h.choose l m j) (λ_=>none)
def Ij(B:List AB)(E:List AB)(l:Int)(w:List AB)(j:Int)(A:Int):Option ((Int × Int) ⊕ Int):=
 if(decide (A<(B.length:Int))) then(
 AC (
 AC (AM B A) λ(q:AB)=>
 AC (gd ((decide (l<q.Item))==true) (Do w 0 (E.length:Int))) λ(F:List AB)=>
 AC (gd ((decide (l<q.Item))==true) (H3 F q.Item)) λ(C:Int)=>
 AC (gd ((((l<q.Item)&&(C<0))==true)&&((decide (j<0))==false)) (AM B j)) λ(I:AB)=>
 if(((l<q.Item)&&(C<0))&&((j<0)||(q.Item<I.Item))) then(
 some A
 ) else(
 some j
 )
 ) λ(m:Int)=>
 AC (AS .i64 (A+1)) λ(J:Int)=>
 some (.inl (m,J))
 ) else(
 some (.inr j)
 )
def IB(w:List AB)(A:List AB)(m:Int)(j:List AB):Option ((Int × (List AB)) ⊕ (Ar Unit ((List AB) × Int))):=
 AC (iter (λ(a:Int × Int)=>Ij w A m j a.1 a.2) ((-1),0)) λ(l:Int)=>
 if(decide (l<0)) then(
 some (.inr (.ext (j,(A.length:Int))))
 ) else(
 AC (AM w l) λ(B:AB)=>
 AC (app 56 j [B]) λ(q:List AB)=>
 some (.inl (B.Item,q))
 )
def Jy(m:List Au):Option ((List AB) × Int):=
 CE (LU m) λ(j:List AB) (q:List AB)=>
 AC (Lt [] j 0) λ(l:List AB)=>
 Ay (iter (λ(a:Int × (List AB))=>IB j l a.1 a.2) (0,l)) λ(w:Unit)=>
 none
def Ip(j:List AB)(l:Int)(m2:List (Int × Bool)):Option ((Int × (List (Int × Bool))) ⊕ (Ar Unit Int)):=
 if(decide (l<(j.length:Int))) then(
 AC (AM j l) λ(m:AB)=>
 if(!((AR m2 m.Parent).getD false)) then(
 some (.inr (.ext l))
 ) else(
 AC (AS .i64 (l+1)) λ(q:Int)=>
 some (.inl (q,(Ai m2 m.Item true)))
 )
 ) else(
 some (.inr (.nrm ()))
 )
def MX(j:List AB):Option (Int):=
 Ay (iter (λ(a:Int × (List (Int × Bool)))=>Ip j a.1 a.2) (0,(Ai ([]:List (Int × Bool)) 0 true))) λ(l:Unit)=>
 some (j.length:Int)
end
noncomputable section
end
noncomputable section
structure Ab where
 id:Int
 parent:Int
 visible:Bool
deriving DecidableEq
instance:Inhabited Ab:=⟨⟨0,0,false⟩⟩
structure Ac where
 ID:Int
 Parent:Int
 Visible:Bool
deriving DecidableEq
instance:Inhabited Ac:=⟨⟨0,0,false⟩⟩
@[reducible] def Ac.row(x:Ac):List RV:=[.int .i64 x.ID,.int .i64 x.Parent,.bool x.Visible]
def Hh(d1:AN)(l:Int)(j:AN):Option ((Int × AN) ⊕ AN):=
 if(decide (l<(d1.Nodes.length:Int))) then(
 AC (AM d1.Nodes l) λ(m:AX)=>
 AC (Mo m) λ(q:AX)=>
 AC (AM j.Nodes l) λ(A:AX)=>
 AC (AS .i64 (l+1)) λ(w:Int)=>
 some (.inl (w,(AN.mk (j.Nodes.set l.toNat q))))
 ) else(
 some (.inr j)
 )
def Me(d1:AN):Option (AN):=
 AC (mk 152 (d1.Nodes.length:Int) (AX.mk 0 0 [] [] (A5.mk 0 0 [] []) [])) λ(l:List AX)=>
 AC (iter (λ(a:Int × AN)=>Hh d1 a.1 a.2) (0,(AN.mk l))) λ(j:AN)=>
 some j
def Pj(d1:AN):Option (AN):=
 AC (Me d1) λ(j:AN)=>
 some j
def Gb(l:List (List RV)→Option Bool)(j:List (List RV))(v1:Ab):Option (Bool × (List (List RV))):=
 AC (l (j++[[.int .i64 v1.id,.int .i64 v1.parent]])) λ(m:Bool)=>
 some (m,(j++[[.int .i64 v1.id,.int .i64 v1.parent]]))
def P4(j:List UInt8):Option (Int × Bool):=
 atoiS j
def strconv_Itoa(n1:Int):Option (List UInt8):=
 itoaS n1
def Hp(d1:AN)(A:List AB)(q:Int)(j:List Int):Option ((Int × (List Int)) ⊕ (List Int)):=
 if(decide (q<(A.length:Int))) then(
 AC (
 AC (AM A q) λ(F:AB)=>
 AC (MU F.Attrs [110,111,100,101]) λ(B:List UInt8)=>
 CE (P4 B) λ(w:Int) (C:Bool)=>
 AC (gd ((!C)==false) (strconv_Itoa w)) λ(I:List UInt8)=>
 if((!C)||(!(I=B))) then(
 some j
 ) else(
 CE (FB d1 w) λ(J:Int) (E:Bool)=>
 AC (gd (E==true) (AM d1.Nodes J)) λ(M:AX)=>
 if(E&&(M.Kind=1)) then(
 AC (app 8 j [w]) λ(l:List Int)=>
 some l
 ) else(
 some j
 )
 )
 ) λ(m:List Int)=>
 AC (AS .i64 (q+1)) λ(O:Int)=>
 some (.inl (O,m))
 ) else(
 some (.inr j)
 )
def FA(d1:AN)(n1:AX):Option ((List Int)):=
 AC (L2 n1.Draw) λ(l:List AB)=>
 AC (MX l) λ(m:Int)=>
 AC (Do l 0 m) λ(q:List AB)=>
 AC (iter (λ(a:Int × (List Int))=>Hp d1 q a.1 a.2) (0,[])) λ(j:List Int)=>
 some j
def RH(E:List (List RV)→Option Bool)(F:AN)(v1:Ab)(self:(List (List RV)→Option Bool)→(List (Int × Bool))→(List (List RV))→AN→Ab→Option (Bool × (List (Int × Bool)) × (List (List RV))))(A:List Int)(m:Int)(l:List (Int × Bool))(j:List (List RV)):Option ((Int × (List (Int × Bool)) × (List (List RV))) ⊕ (Ar ((List (Int × Bool)) × (List (List RV))) (Bool × (List (Int × Bool)) × (List (List RV))))):=
 if(decide (m<(A.length:Int))) then(
 AC (AM A m) λ(q:Int)=>
 CU (self E l j F (Ab.mk q v1.id v1.visible)) λ(I:Bool) (B:List (Int × Bool)) (C:List (List RV))=>
 if(!I) then(
 some (.inr (.ext (false,B,C)))
 ) else(
 AC (AS .i64 (m+1)) λ(w:Int)=>
 some (.inl (w,B,C))
 )
 ) else(
 some (.inr (.nrm (l,j)))
 )
def S9(I:List (List RV)→Option Bool)(J:AN)(v1:Ab)(self:(List (List RV)→Option Bool)→(List (Int × Bool))→(List (List RV))→AN→Ab→Option (Bool × (List (Int × Bool)) × (List (List RV))))(w:AX)(A:Int)(B:List (Int × Bool))(m:List (List RV)):Option ((Int × (List (Int × Bool)) × (List (List RV))) ⊕ (Ar ((List (Int × Bool)) × (List (List RV))) (Bool × (List (Int × Bool)) × (List (List RV))))):=
 if(decide (A<(w.Grid.Cells.length:Int))) then(
 AC (AM w.Grid.Cells A) λ(j:Am)=>
 AC (Fs w.Grid j.Row j.Col) λ(F:Ak)=>
 CU (
 if((!(j.Ref=0))==true) then(
 CU (self I B m J (Ab.mk j.Ref v1.id ((v1.visible&&(F.Row=j.Row))&&(F.Col=j.Col)))) λ(M:Bool) (O:List (Int × Bool)) (T:List (List RV))=>
 some (((!(j.Ref=0))&&(!M)),O,T)
 ) else(
 some (((!(j.Ref=0))&&false),B,m)
 )
 ) λ(C:Bool) (q:List (Int × Bool)) (l:List (List RV))=>
 if C then(
 some (.inr (.ext (false,q,l)))
 ) else(
 AC (AS .i64 (A+1)) λ(E:Int)=>
 some (.inl (E,q,l))
 )
 ) else(
 some (.inr (.nrm (B,m)))
 )
def SP(E:List (List RV)→Option Bool)(F:AN)(v1:Ab)(self:(List (List RV)→Option Bool)→(List (Int × Bool))→(List (List RV))→AN→Ab→Option (Bool × (List (Int × Bool)) × (List (List RV))))(w:List Int)(l:Int)(A:List (Int × Bool))(j:List (List RV)):Option ((Int × (List (Int × Bool)) × (List (List RV))) ⊕ (Ar ((List (Int × Bool)) × (List (List RV))) (Bool × (List (Int × Bool)) × (List (List RV))))):=
 if(decide (l<(w.length:Int))) then(
 AC (AM w l) λ(m:Int)=>
 CU (self E A j F (Ab.mk m v1.id v1.visible)) λ(I:Bool) (B:List (Int × Bool)) (C:List (List RV))=>
 if(!I) then(
 some (.inr (.ext (false,B,C)))
 ) else(
 AC (AS .i64 (l+1)) λ(q:Int)=>
 some (.inl (q,B,C))
 )
 ) else(
 some (.inr (.nrm (A,j)))
 )
def Pm(self:(List (List RV)→Option Bool)→(List (Int × Bool))→(List (List RV))→AN→Ab→Option (Bool × (List (Int × Bool)) × (List (List RV))))(q:List (List RV)→Option Bool)(w:List (Int × Bool))(l:List (List RV))(j:AN)(v1:Ab):Option (Bool × (List (Int × Bool)) × (List (List RV))):=
 if((AR w v1.id).getD false) then(
 some (true,w,l)
 ) else(
 CE (Gb q l v1) λ(I:Bool) (F:List (List RV))=>
 if(!I) then(
 some (false,(Ai w v1.id true),F)
 ) else(
 CE (FB j v1.id) λ(J:Int) (V:Bool)=>
 AC (AM j.Nodes J) λ(A:AX)=>
 AC (HU A.Flow) λ(M:List Int)=>
 D2 (iter (λ(a:Int × (List (Int × Bool)) × (List (List RV)))=>SP q j v1 self M a.1 a.2.1 a.2.2) (0,(Ai w v1.id true),F)) λ(O:List (Int × Bool)) (B:List (List RV))=>
 D2 (iter (λ(a:Int × (List (Int × Bool)) × (List (List RV)))=>S9 q j v1 self A a.1 a.2.1 a.2.2) (0,O,B)) λ(T:List (Int × Bool)) (C:List (List RV))=>
 AC (FA j A) λ(U:List Int)=>
 D2 (iter (λ(a:Int × (List (Int × Bool)) × (List (List RV)))=>RH q j v1 self U a.1 a.2.1 a.2.2) (0,T,C)) λ(E:List (Int × Bool)) (m:List (List RV))=>
 some (true,E,m)
 )
 )
def G0:Nat→(List (List RV)→Option Bool)→(List (Int × Bool))→(List (List RV))→AN→Ab→Option (Bool × (List (Int × Bool)) × (List (List RV)))
 | 0,_,_,_,_,_=>none
 | n+1,l,m,j,q,v1=>Pm (λl m j q v1=>G0 n l m j q v1) l m j q v1
def PB(l:List (List RV)→Option Bool)(m:List (Int × Bool))(j:List (List RV))(q:AN)(v1:Ab):Option (Bool × (List (Int × Bool)) × (List (List RV))):=
 @dite _ (∃n r,G0 n l m j q v1=some r) (Classical.propDecidable _) (λh=>G0 h.choose l m j q v1) (λ_=>none)
def MF(l:List (List RV)→Option Bool)(j:List (List RV))(d1:AN):Option ((List (List RV))):=
 CU (PB l ([]:List (Int × Bool)) j d1 (Ab.mk 1 0 true)) λ(q:Bool) (w:List (Int × Bool)) (m:List (List RV))=>
 some m
def FN(m:List (List RV)→Option Bool)(j:List (List RV))(l:AN):Option ((List (List RV))):=
 AC (ET l) λ(q:Int)=>
 if(!(q=0)) then(
 some j
 ) else(
 AC (MF m j l) λ(w:List (List RV))=>
 some w
 )
def Hc(j:List (Int × Bool))(v1:Ab):Option (Bool × (List (Int × Bool))):=
 some (true,(Ai j v1.id true))
def Sl(E:AN)(v1:Ab)(self:(List (Int × Bool))→(List (Int × Bool))→AN→Ab→Option (Bool × (List (Int × Bool)) × (List (Int × Bool))))(A:List Int)(m:Int)(j:List (Int × Bool))(l:List (Int × Bool)):Option ((Int × (List (Int × Bool)) × (List (Int × Bool))) ⊕ (Ar ((List (Int × Bool)) × (List (Int × Bool))) (Bool × (List (Int × Bool)) × (List (Int × Bool))))):=
 if(decide (m<(A.length:Int))) then(
 AC (AM A m) λ(q:Int)=>
 CU (self j l E (Ab.mk q v1.id v1.visible)) λ(F:Bool) (B:List (Int × Bool)) (C:List (Int × Bool))=>
 if(!F) then(
 some (.inr (.ext (false,B,C)))
 ) else(
 AC (AS .i64 (m+1)) λ(w:Int)=>
 some (.inl (w,B,C))
 )
 ) else(
 some (.inr (.nrm (j,l)))
 )
def Ss(I:AN)(v1:Ab)(self:(List (Int × Bool))→(List (Int × Bool))→AN→Ab→Option (Bool × (List (Int × Bool)) × (List (Int × Bool))))(A:AX)(B:Int)(l:List (Int × Bool))(m:List (Int × Bool)):Option ((Int × (List (Int × Bool)) × (List (Int × Bool))) ⊕ (Ar ((List (Int × Bool)) × (List (Int × Bool))) (Bool × (List (Int × Bool)) × (List (Int × Bool))))):=
 if(decide (B<(A.Grid.Cells.length:Int))) then(
 AC (AM A.Grid.Cells B) λ(j:Am)=>
 AC (Fs A.Grid j.Row j.Col) λ(F:Ak)=>
 CU (
 if((!(j.Ref=0))==true) then(
 CU (self l m I (Ab.mk j.Ref v1.id ((v1.visible&&(F.Row=j.Row))&&(F.Col=j.Col)))) λ(J:Bool) (M:List (Int × Bool)) (O:List (Int × Bool))=>
 some (((!(j.Ref=0))&&(!J)),M,O)
 ) else(
 some (((!(j.Ref=0))&&false),l,m)
 )
 ) λ(C:Bool) (q:List (Int × Bool)) (w:List (Int × Bool))=>
 if C then(
 some (.inr (.ext (false,q,w)))
 ) else(
 AC (AS .i64 (B+1)) λ(E:Int)=>
 some (.inl (E,q,w))
 )
 ) else(
 some (.inr (.nrm (l,m)))
 )
def Rw(E:AN)(v1:Ab)(self:(List (Int × Bool))→(List (Int × Bool))→AN→Ab→Option (Bool × (List (Int × Bool)) × (List (Int × Bool))))(q:List Int)(j:Int)(w:List (Int × Bool))(A:List (Int × Bool)):Option ((Int × (List (Int × Bool)) × (List (Int × Bool))) ⊕ (Ar ((List (Int × Bool)) × (List (Int × Bool))) (Bool × (List (Int × Bool)) × (List (Int × Bool))))):=
 if(decide (j<(q.length:Int))) then(
 AC (AM q j) λ(l:Int)=>
 CU (self w A E (Ab.mk l v1.id v1.visible)) λ(F:Bool) (B:List (Int × Bool)) (C:List (Int × Bool))=>
 if(!F) then(
 some (.inr (.ext (false,B,C)))
 ) else(
 AC (AS .i64 (j+1)) λ(m:Int)=>
 some (.inl (m,B,C))
 )
 ) else(
 some (.inr (.nrm (w,A)))
 )
def P5(self:(List (Int × Bool))→(List (Int × Bool))→AN→Ab→Option (Bool × (List (Int × Bool)) × (List (Int × Bool))))(l:List (Int × Bool))(m2:List (Int × Bool))(j:AN)(v1:Ab):Option (Bool × (List (Int × Bool)) × (List (Int × Bool))):=
 if((AR l v1.id).getD false) then(
 some (true,l,m2)
 ) else(
 CE (Hc m2 v1) λ(F:Bool) (E:List (Int × Bool))=>
 if(!F) then(
 some (false,(Ai l v1.id true),E)
 ) else(
 CE (FB j v1.id) λ(I:Int) (T:Bool)=>
 AC (AM j.Nodes I) λ(m:AX)=>
 AC (HU m.Flow) λ(J:List Int)=>
 D2 (iter (λ(a:Int × (List (Int × Bool)) × (List (Int × Bool)))=>Rw j v1 self J a.1 a.2.1 a.2.2) (0,(Ai l v1.id true),E)) λ(M:List (Int × Bool)) (q:List (Int × Bool))=>
 D2 (iter (λ(a:Int × (List (Int × Bool)) × (List (Int × Bool)))=>Ss j v1 self m a.1 a.2.1 a.2.2) (0,M,q)) λ(w:List (Int × Bool)) (A:List (Int × Bool))=>
 AC (FA j m) λ(O:List Int)=>
 D2 (iter (λ(a:Int × (List (Int × Bool)) × (List (Int × Bool)))=>Sl j v1 self O a.1 a.2.1 a.2.2) (0,w,A)) λ(B:List (Int × Bool)) (C:List (Int × Bool))=>
 some (true,B,C)
 )
 )
def Gz:Nat→(List (Int × Bool))→(List (Int × Bool))→AN→Ab→Option (Bool × (List (Int × Bool)) × (List (Int × Bool)))
 | 0,_,_,_,_=>none
 | n+1,j,m2,l,v1=>P5 (λj m2 l v1=>Gz n j m2 l v1) j m2 l v1
def Qd(j:List (Int × Bool))(m2:List (Int × Bool))(l:AN)(v1:Ab):Option (Bool × (List (Int × Bool)) × (List (Int × Bool))):=
 @dite _ (∃n r,Gz n j m2 l v1=some r) (Classical.propDecidable _) (λh=>Gz h.choose j m2 l v1) (λ_=>none)
def MD(j:List (Int × Bool))(d1:AN):Option ((List (Int × Bool))):=
 CU (Qd ([]:List (Int × Bool)) j d1 (Ab.mk 1 0 true)) λ(m:Bool) (q:List (Int × Bool)) (l:List (Int × Bool))=>
 some l
def Hb(d1:AN)(A:List (Int × Bool))(q:Int)(j:List Int):Option ((Int × (List Int)) ⊕ (List Int)):=
 if(decide (q<(d1.Nodes.length:Int))) then(
 AC (
 AC (AM d1.Nodes q) λ(w:AX)=>
 if(!((AR A w.ID).getD false)) then(
 AC (app 8 j [w.ID]) λ(l:List Int)=>
 some l
 ) else(
 some j
 )
 ) λ(m:List Int)=>
 AC (AS .i64 (q+1)) λ(B:Int)=>
 some (.inl (B,m))
 ) else(
 some (.inr j)
 )
def JN(d1:AN):Option ((List Int) × Int):=
 AC (ET d1) λ(l:Int)=>
 if(!(l=0)) then(
 some ([],l)
 ) else(
 AC (MD ([]:List (Int × Bool)) d1) λ(m:List (Int × Bool))=>
 AC (iter (λ(a:Int × (List Int))=>Hb d1 m a.1 a.2) (0,[])) λ(j:List Int)=>
 some (j,0)
 )
def FJ(j:Int)(l:Bool)(v1:Ab):Option (Bool × Bool):=
 AC (
 if(decide (v1.id=j)) then(
 some v1.visible
 ) else(
 some l
 )
 ) λ(m:Bool)=>
 some ((!(v1.id=j)),m)
def R2(E:Int)(F:AN)(v1:Ab)(self:(List (Int × Bool))→Int→Bool→AN→Ab→Option (Bool × (List (Int × Bool)) × Bool))(A:List Int)(m:Int)(j:List (Int × Bool))(l:Bool):Option ((Int × (List (Int × Bool)) × Bool) ⊕ (Ar ((List (Int × Bool)) × Bool) (Bool × (List (Int × Bool)) × Bool))):=
 if(decide (m<(A.length:Int))) then(
 AC (AM A m) λ(q:Int)=>
 CU (self j E l F (Ab.mk q v1.id v1.visible)) λ(I:Bool) (B:List (Int × Bool)) (C:Bool)=>
 if(!I) then(
 some (.inr (.ext (false,B,C)))
 ) else(
 AC (AS .i64 (m+1)) λ(w:Int)=>
 some (.inl (w,B,C))
 )
 ) else(
 some (.inr (.nrm (j,l)))
 )
def R5(I:Int)(J:AN)(v1:Ab)(self:(List (Int × Bool))→Int→Bool→AN→Ab→Option (Bool × (List (Int × Bool)) × Bool))(q:AX)(w:Int)(A:List (Int × Bool))(B:Bool):Option ((Int × (List (Int × Bool)) × Bool) ⊕ (Ar ((List (Int × Bool)) × Bool) (Bool × (List (Int × Bool)) × Bool))):=
 if(decide (w<(q.Grid.Cells.length:Int))) then(
 AC (AM q.Grid.Cells w) λ(j:Am)=>
 AC (Fs q.Grid j.Row j.Col) λ(F:Ak)=>
 CU (
 if((!(j.Ref=0))==true) then(
 CU (self A I B J (Ab.mk j.Ref v1.id ((v1.visible&&(F.Row=j.Row))&&(F.Col=j.Col)))) λ(M:Bool) (O:List (Int × Bool)) (T:Bool)=>
 some (((!(j.Ref=0))&&(!M)),O,T)
 ) else(
 some (((!(j.Ref=0))&&false),A,B)
 )
 ) λ(C:Bool) (l:List (Int × Bool)) (m:Bool)=>
 if C then(
 some (.inr (.ext (false,l,m)))
 ) else(
 AC (AS .i64 (w+1)) λ(E:Int)=>
 some (.inl (E,l,m))
 )
 ) else(
 some (.inr (.nrm (A,B)))
 )
def Sp(C:Int)(E:AN)(v1:Ab)(self:(List (Int × Bool))→Int→Bool→AN→Ab→Option (Bool × (List (Int × Bool)) × Bool))(q:List Int)(j:Int)(w:List (Int × Bool))(o2:Bool):Option ((Int × (List (Int × Bool)) × Bool) ⊕ (Ar ((List (Int × Bool)) × Bool) (Bool × (List (Int × Bool)) × Bool))):=
 if(decide (j<(q.length:Int))) then(
 AC (AM q j) λ(l:Int)=>
 CU (self w C o2 E (Ab.mk l v1.id v1.visible)) λ(F:Bool) (A:List (Int × Bool)) (B:Bool)=>
 if(!F) then(
 some (.inr (.ext (false,A,B)))
 ) else(
 AC (AS .i64 (j+1)) λ(m:Int)=>
 some (.inl (m,A,B))
 )
 ) else(
 some (.inr (.nrm (w,o2)))
 )
def O5(self:(List (Int × Bool))→Int→Bool→AN→Ab→Option (Bool × (List (Int × Bool)) × Bool))(l:List (Int × Bool))(m:Int)(B:Bool)(j:AN)(v1:Ab):Option (Bool × (List (Int × Bool)) × Bool):=
 if((AR l v1.id).getD false) then(
 some (true,l,B)
 ) else(
 CE (FJ m B v1) λ(E:Bool) (C:Bool)=>
 if(!E) then(
 some (false,(Ai l v1.id true),C)
 ) else(
 CE (FB j v1.id) λ(F:Int) (V:Bool)=>
 AC (AM j.Nodes F) λ(q:AX)=>
 AC (HU q.Flow) λ(I:List Int)=>
 D2 (iter (λ(a:Int × (List (Int × Bool)) × Bool)=>Sp m j v1 self I a.1 a.2.1 a.2.2) (0,(Ai l v1.id true),C)) λ(J:List (Int × Bool)) (M:Bool)=>
 D2 (iter (λ(a:Int × (List (Int × Bool)) × Bool)=>R5 m j v1 self q a.1 a.2.1 a.2.2) (0,J,M)) λ(O:List (Int × Bool)) (T:Bool)=>
 AC (FA j q) λ(U:List Int)=>
 D2 (iter (λ(a:Int × (List (Int × Bool)) × Bool)=>R2 m j v1 self U a.1 a.2.1 a.2.2) (0,O,T)) λ(w:List (Int × Bool)) (A:Bool)=>
 some (true,w,A)
 )
 )
def Gt:Nat→(List (Int × Bool))→Int→Bool→AN→Ab→Option (Bool × (List (Int × Bool)) × Bool)
 | 0,_,_,_,_,_=>none
 | n+1,j,l,m,q,v1=>O5 (λj l m q v1=>Gt n j l m q v1) j l m q v1
def PP(j:List (Int × Bool))(l:Int)(m:Bool)(q:AN)(v1:Ab):Option (Bool × (List (Int × Bool)) × Bool):=
 @dite _ (∃n r,Gt n j l m q v1=some r) (Classical.propDecidable _) (λh=>Gt h.choose j l m q v1) (λ_=>none)
def M1(j:Int)(l:Bool)(d1:AN):Option (Bool):=
 CU (PP ([]:List (Int × Bool)) j l d1 (Ab.mk 1 0 true)) λ(q:Bool) (w:List (Int × Bool)) (m:Bool)=>
 some m
def G6(d1:AN)(j:Int):Option (Bool):=
 AC (ET d1) λ(l:Int)=>
 if(!(l=0)) then(
 some false
 ) else(
 AC (M1 j false d1) λ(m:Bool)=>
 some m
 )
def Kp(m:List Ac)(l:Int)(j:Int):Option (Int ⊕ (Ar Unit Int)):=
 if(decide (j<(m.length:Int))) then(
 AC (AM m j) λ(q:Ac)=>
 if(decide (q.ID=l)) then(
 some (.inr (.ext j))
 ) else(
 AC (AS .i64 (j+1)) λ(w:Int)=>
 some (.inl w)
 )
 ) else(
 some (.inr (.nrm ()))
 )
def KO(l:List Ac)(j:Int):Option (Int):=
 Ay (iter (λ(a:Int)=>Kp l j a) 0) λ(m:Unit)=>
 some (-1)
def HJ(m:List UInt8)(q:Int)(l:Int):Option ((Int × Int) ⊕ (Ar Int Int)):=
 if(decide (l<(m.length:Int))) then(
 AC (AM m l) λ(j:UInt8)=>
 if(((j.toNat:Int)<48)||(57<(j.toNat:Int))) then(
 some (.inr (.ext (-1)))
 ) else(
 AC (AS .i64 (10 * q)) λ(w:Int)=>
 AC (AS .i64 (w+(IntKind.i64.wrap (IntKind.u8.wrap ((j.toNat:Int)-48))))) λ(A:Int)=>
 AC (AS .i64 (l+1)) λ(B:Int)=>
 some (.inl (A,B))
 )
 ) else(
 some (.inr (.nrm q))
 )
def OH(j:List UInt8):Option (Int):=
 AC (gd (((j=[])||(10<(j.length:Int)))==false) (AM j 0)) λ(l:UInt8)=>
 if(((j=[])||(10<(j.length:Int)))||(((l.toNat:Int)=48)&&(1<(j.length:Int)))) then(
 some (-1)
 ) else(
 Ay (iter (λ(a:Int × Int)=>HJ j a.1 a.2) (0,0)) λ(m:Int)=>
 some m
 )
def FK(d1:AN)(E:Ac)(self:(List Ac)→AN→Ac→Option (List Ac))(F:List AB)(I:Int)(q:Int)(j:List Ac):Option ((Int × (List Ac)) ⊕ (List Ac)):=
 if(decide (q<I)) then(
 AC (
 AC (AM F q) λ(w:AB)=>
 AC (MI w.Attrs [110,111,100,101]) λ(J:List UInt8)=>
 AC (OH J) λ(l:Int)=>
 AC (IL d1 l) λ(A:Int)=>
 AC (gd (((0<l)&&(0≤A))==true) (AM d1.Nodes A)) λ(B:AX)=>
 if(((0<l)&&(0≤A))&&(B.Kind=1)) then(
 AC (self j d1 (Ac.mk l E.ID E.Visible)) λ(M:List Ac)=>
 some M
 ) else(
 some j
 )
 ) λ(m:List Ac)=>
 AC (AS .i64 (q+1)) λ(C:Int)=>
 some (.inl (C,m))
 ) else(
 some (.inr j)
 )
def Fb(d1:AN)(B:Ac)(self:(List Ac)→AN→Ac→Option (List Ac))(q:AX)(w:Int)(l:List Ac):Option ((Int × (List Ac)) ⊕ (List Ac)):=
 if(decide (w<(q.Grid.Cells.length:Int))) then(
 AC (
 AC (AM q.Grid.Cells w) λ(j:Am)=>
 if(!(j.Ref=0)) then(
 AC (ML q.Grid j.Row j.Col) λ(C:Ak)=>
 AC (self l d1 (Ac.mk j.Ref B.ID ((B.Visible&&(C.Row=j.Row))&&(C.Col=j.Col)))) λ(E:List Ac)=>
 some E
 ) else(
 some l
 )
 ) λ(m:List Ac)=>
 AC (AS .i64 (w+1)) λ(A:Int)=>
 some (.inl (A,m))
 ) else(
 some (.inr l)
 )
def FL(d1:AN)(A:Ac)(self:(List Ac)→AN→Ac→Option (List Ac))(B:AX)(q:Int)(j:List Ac):Option ((Int × (List Ac)) ⊕ (List Ac)):=
 if(decide (q<(B.Flow.length:Int))) then(
 AC (
 AC (AM B.Flow q) λ(m:AP)=>
 if(!(m.Ref=0)) then(
 AC (self j d1 (Ac.mk m.Ref A.ID A.Visible)) λ(C:List Ac)=>
 some C
 ) else(
 some j
 )
 ) λ(l:List Ac)=>
 AC (AS .i64 (q+1)) λ(w:Int)=>
 some (.inl (w,l))
 ) else(
 some (.inr j)
 )
def In(self:(List Ac)→AN→Ac→Option (List Ac))(j:List Ac)(d1:AN)(q:Ac):Option ((List Ac)):=
 AC (KO j q.ID) λ(C:Int)=>
 if(decide (0≤C)) then(
 some j
 ) else(
 AC (app 24 j [q]) λ(w:List Ac)=>
 AC (IL d1 q.ID) λ(E:Int)=>
 AC (AM d1.Nodes E) λ(B:AX)=>
 AC (iter (λ(a:Int × (List Ac))=>FL d1 q self B a.1 a.2) (0,w)) λ(A:List Ac)=>
 AC (iter (λ(a:Int × (List Ac))=>Fb d1 q self B a.1 a.2) (0,A)) λ(l:List Ac)=>
 CE (Jy B.Draw) λ(F:List AB) (I:Int)=>
 AC (iter (λ(a:Int × (List Ac))=>FK d1 q self F I a.1 a.2) (0,l)) λ(m:List Ac)=>
 some m
 )
def CH:Nat→(List Ac)→AN→Ac→Option (List Ac)
 | 0,_,_,_=>none
 | n+1,j,l,m=>In (λj l m=>CH n j l m) j l m
def QY(j:List Ac)(d1:AN)(l:Ac):Option ((List Ac)):=
 @dite _ (∃n r,CH n j d1 l=some r) (Classical.propDecidable _) (λh=>CH h.choose j d1 l) (λ_=>none)
def Ni(d1:AN):Option ((List Ac)):=
 AC (QY [] d1 (Ac.mk 1 0 true)) λ(j:List Ac)=>
 some j
def G7(l:List Int)(m:Int)(j:Int):Option (List Int):=
 AC (app 8 l [m,j]) λ(q:List Int)=>
 some q
def Hg(d1:AN)(t1:List Ac)(q:Int)(j:List Int):Option ((Int × (List Int)) ⊕ (Ar (List Int) Bool)):=
 if(decide (q<(d1.Nodes.length:Int))) then(
 Ay (
 AC (AM d1.Nodes q) λ(w:AX)=>
 AC (KO t1 w.ID) λ(A:Int)=>
 if(decide (A<0)) then(
 AC (app 8 j [w.ID]) λ(l:List Int)=>
 AC (G6 d1 w.ID) λ(B:Bool)=>
 if B then(
 some (.ext (.inr (.ext false)))
 ) else(
 some (.nrm l)
 )
 ) else(
 some (.nrm j)
 )
 ) λ(m:List Int)=>
 AC (AS .i64 (q+1)) λ(C:Int)=>
 some (.inl (C,m))
 ) else(
 some (.inr (.nrm j))
 )
def Hv(d1:AN)(t1:List Ac)(q:Int)(j:List Int):Option ((Int × (List Int)) ⊕ (Ar (List Int) Bool)):=
 if(decide (q<(t1.length:Int))) then(
 AC (AM t1 q) λ(l:Ac)=>
 AC (app 8 j [l.ID,l.Parent]) λ(m:List Int)=>
 AC (G6 d1 l.ID) λ(A:Bool)=>
 if(!(A==l.Visible)) then(
 some (.inr (.ext false))
 ) else(
 AC (AS .i64 (q+1)) λ(w:Int)=>
 some (.inl (w,m))
 )
 ) else(
 some (.inr (.nrm j))
 )
def QN(d1:AN):Option (Bool):=
 AC (Lm) λ(I:Bool)=>
 if(!I) then(
 some false
 ) else(
 AC (Pj d1) λ(J:AN)=>
 AC (rng2 (λA=>FN A [] J) (λ(a:(List Int))=>G7 a) []) λ(j:List Int)=>
 CE (JN d1) λ(B:List Int) (q:Int)=>
 AC (MN d1) λ(w:Int)=>
 if(!(w=0)) then(
 AC (gd ((decide (q=w))==true) (AS .i64 ((j.length:Int)+(B.length:Int)))) λ(C:Int)=>
 AC (gd (((q=w)&&(C=0))==true) (G6 d1 1)) λ(M:Bool)=>
 some (((q=w)&&(C=0))&&(!M))
 ) else(
 AC (Ni d1) λ(E:List Ac)=>
 Ay (iter (λ(a:Int × (List Int))=>Hv d1 E a.1 a.2) (0,[])) λ(l:List Int)=>
 Ay (iter (λ(a:Int × (List Int))=>Hg d1 E a.1 a.2) (0,[])) λ(m:List Int)=>
 AC (gd ((decide (q=0))==true) (KJ j l)) λ(F:Bool)=>
 AC (gd (((q=0)&&F)==true) (KJ B m)) λ(O:Bool)=>
 some (((q=0)&&F)&&O)
 )
 )
end
end Go.Proofs.YtmogkkigacadpaaGreatDoor.Al
