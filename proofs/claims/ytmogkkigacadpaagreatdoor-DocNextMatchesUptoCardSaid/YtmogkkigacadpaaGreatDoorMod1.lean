/- Models, as printed. -/
import Derived.Test.YtmogkkigacadpaaGreatDoorAl3
set_option linter.all false
namespace Go.Proofs.YtmogkkigacadpaaGreatDoor.Al
noncomputable section
structure Js where
 Kind:Int
 N:Int
deriving DecidableEq
instance:Inhabited Js:=⟨⟨0,0⟩⟩
structure jq where
 steps:List Js
 used:Int
deriving DecidableEq
instance:Inhabited jq:=⟨⟨[],0⟩⟩
structure Wx where
 out:List Js
 add:Int
 cut:Int
deriving DecidableEq
instance:Inhabited Wx:=⟨⟨[],0,0⟩⟩
structure AG where
 Name:List UInt8
 Value:List UInt8
deriving DecidableEq
instance:Inhabited AG:=⟨⟨[],[]⟩⟩
@[reducible] def AG.row(x:AG):List RV:=[.str x.Name,.str x.Value]
structure AS where
 Char:Int
 Ref:Int
 Attrs:List AG
deriving DecidableEq
instance:Inhabited AS:=⟨⟨0,0,[]⟩⟩
@[reducible] def AS.row(x:AS):List RV:=[.int .i64 x.Char,.int .i64 x.Ref,.sl (x.Attrs.map AG.row)]
structure Ak where
 Row:Int
 Col:Int
 Text:List UInt8
 Ref:Int
 Attrs:List AG
deriving DecidableEq
instance:Inhabited Ak:=⟨⟨0,0,[],0,[]⟩⟩
@[reducible] def Ak.row(x:Ak):List RV:=[.int .i64 x.Row,.int .i64 x.Col,.str x.Text,.int .i64 x.Ref,.sl (x.Attrs.map AG.row)]
structure Aj where
 Row:Int
 Col:Int
 H:Int
 W:Int
deriving DecidableEq
instance:Inhabited Aj:=⟨⟨0,0,0,0⟩⟩
@[reducible] def Aj.row(x:Aj):List RV:=[.int .i64 x.Row,.int .i64 x.Col,.int .i64 x.H,.int .i64 x.W]
structure Av where
 Rows:Int
 Cols:Int
 Cells:List Ak
 Merges:List Aj
deriving DecidableEq
instance:Inhabited Av:=⟨⟨0,0,[],[]⟩⟩
@[reducible] def Av.row(x:Av):List RV:=[.int .i64 x.Rows,.int .i64 x.Cols,.sl (x.Cells.map Ak.row),.sl (x.Merges.map Aj.row)]
structure At where
 Clock:Int
 Site:Int
 Kind:Int
 Item:Int
 Parent:Int
 Place:List UInt8
 Name:List UInt8
 Value:List UInt8
deriving DecidableEq
instance:Inhabited At:=⟨⟨0,0,0,0,0,[],[],[]⟩⟩
@[reducible] def At.row(x:At):List RV:=[.int .i64 x.Clock,.int .i64 x.Site,.int .i64 x.Kind,.int .i64 x.Item,.int .i64 x.Parent,.str x.Place,.str x.Name,.str x.Value]
structure AK where
 ID:Int
 Kind:Int
 Attrs:List AG
 Flow:List AS
 Grid:Av
 Draw:List At
deriving DecidableEq
instance:Inhabited AK:=⟨⟨0,0,[],[],(Av.mk 0 0 [] []),[]⟩⟩
@[reducible] def AK.row(x:AK):List RV:=[.int .i64 x.ID,.int .i64 x.Kind,.sl (x.Attrs.map AG.row),.sl (x.Flow.map AS.row),.int .i64 x.Grid.Rows,.int .i64 x.Grid.Cols,.sl (x.Grid.Cells.map Ak.row),.sl (x.Grid.Merges.map Aj.row),.sl (x.Draw.map At.row)]
structure GStep where
 Kind:Int
 N:Int
 Attrs:List AG
 Elems:List AS
deriving DecidableEq
instance:Inhabited GStep:=⟨⟨0,0,[],[]⟩⟩
structure Mp where
 Rows:List Js
 Cols:List Js
 Cells:List Ak
 Split:List Aj
 Merge:List Aj
deriving DecidableEq
instance:Inhabited Mp:=⟨⟨[],[],[],[],[]⟩⟩
structure UJ where
 Kind:Int
 Node:Int
 New:AK
 Attrs:List AG
 Steps:List GStep
 Grid:Mp
 Draw:List At
deriving DecidableEq
instance:Inhabited UJ:=⟨⟨0,0,(AK.mk 0 0 [] [] (Av.mk 0 0 [] []) []),[],[],(Mp.mk [] [] [] [] []),[]⟩⟩
structure iX where
 Site:Int
 Number:Int
 Change:List UJ
 Undoes:Int
 Refused:Int
deriving DecidableEq
instance:Inhabited iX:=⟨⟨0,0,[],0,0⟩⟩
structure iY where
 From:Int
 To:Int
deriving DecidableEq
instance:Inhabited iY:=⟨⟨0,0⟩⟩
def CW(m:Int)(l:Int)(j:Int):Option (Bool):=
 some ((l≤m)&&(m≤j))
def jv(l:List Int)(m:List Int)(j:Int):Option (Int ⊕ (Ar Unit Bool)):=
 if(decide (j<(l.length:Int))) then(
 AB (AL l j) λ(q:Int)=>
 AB (AL m j) λ(w:Int)=>
 if(!(q=w)) then(
 some (.inr (.ext false))
 ) else(
 AB (AR .i64 (j+1)) λ(A:Int)=>
 some (.inl A)
 )
 ) else(
 some (.inr (.nrm ()))
 )
def Uv(j:List Int)(l:List Int):Option (Bool):=
 if(!((j.length:Int)=(l.length:Int))) then(
 some false
 ) else(
 Aw (iter (λ(a:Int)=>jv j l a) 0) λ(m:Unit)=>
 some true
 )
def Lb(m:List UInt8)(l:Int):Option (Int ⊕ (Ar Unit Bool)):=
 if(decide (l<(m.length:Int))) then(
 AB (AL m l) λ(j:UInt8)=>
 if((((((j.toNat:Int)<97)||(122<(j.toNat:Int)))&&(((j.toNat:Int)<48)||(57<(j.toNat:Int))))&&(!((j.toNat:Int)=46)))&&(!((j.toNat:Int)=45))) then(
 some (.inr (.ext false))
 ) else(
 AB (AR .i64 (l+1)) λ(q:Int)=>
 some (.inl q)
 )
 ) else(
 some (.inr (.nrm ()))
 )
def LZ(j:List UInt8):Option (Bool):=
 AB (gd (((j=[])||(24<(j.length:Int)))==false) (AL j 0)) λ(l:UInt8)=>
 AB (gd ((((j=[])||(24<(j.length:Int)))||((l.toNat:Int)<97))==false) (AL j 0)) λ(m:UInt8)=>
 if((((j=[])||(24<(j.length:Int)))||((l.toNat:Int)<97))||(122<(m.toNat:Int))) then(
 some false
 ) else(
 Aw (iter (λ(a:Int)=>Lb j a) 0) λ(q:Unit)=>
 some true
 )
def My(m:List UInt8)(l:Int):Option (Int ⊕ (Ar Unit Bool)):=
 if(decide (l<(m.length:Int))) then(
 AB (AL m l) λ(j:UInt8)=>
 if(((j.toNat:Int)<32)||(126<(j.toNat:Int))) then(
 some (.inr (.ext false))
 ) else(
 AB (AR .i64 (l+1)) λ(q:Int)=>
 some (.inl q)
 )
 ) else(
 some (.inr (.nrm ()))
 )
def LC(j:List UInt8):Option (Bool):=
 if((j=[])||(200<(j.length:Int))) then(
 some false
 ) else(
 Aw (iter (λ(a:Int)=>My j a) 0) λ(l:Unit)=>
 some true
 )
def LE(q:List AG)(j:Bool)(l:Int):Option (Int ⊕ (Ar Unit Int)):=
 if(decide (l<(q.length:Int))) then(
 AB (AL q l) λ(m:AG)=>
 AB (LZ m.Name) λ(A:Bool)=>
 if(!A) then(
 some (.inr (.ext 9))
 ) else(
 AB (LC m.Value) λ(B:Bool)=>
 if((!B)&&(!(j&&(m.Value=[])))) then(
 some (.inr (.ext 23))
 ) else(
 AB (gd ((decide (0<l))==true) (AR .i64 (l-1))) λ(C:Int)=>
 AB (gd ((decide (0<l))==true) (AL q C)) λ(w:AG)=>
 if((0<l)&&(Au m.Name w.Name||(m.Name=w.Name))) then(
 some (.inr (.ext 5))
 ) else(
 AB (AR .i64 (l+1)) λ(E:Int)=>
 some (.inl E)
 )
 )
 )
 ) else(
 some (.inr (.nrm ()))
 )
def L6(l:List AG)(j:Bool):Option (Int):=
 Aw (iter (λ(a:Int)=>LE l j a) 0) λ(m:Unit)=>
 some 0
def IK(j:List AG):Option (Int):=
 AB (L6 j false) λ(l:Int)=>
 some l
def Jr(j:List AG)(m:AG)(l:AG):Option ((List AG)):=
 if(decide (l.Name=[])) then(
 AB (app 32 j [m]) λ(q:List AG)=>
 some q
 ) else(
 if(!(l.Value=[])) then(
 AB (app 32 j [l]) λ(w:List AG)=>
 some w
 ) else(
 some j
 )
 )
def Mu(l:List AG)(q:List AG)(j:Int)(m:Int)(o2:List AG):Option ((Int × Int × (List AG)) ⊕ (Ar Unit (List AG))):=
 if((j<(l.length:Int))||(m<(q.length:Int))) then(
 AB (gd (((decide (m=(q.length:Int)))==false)&&((decide (j<(l.length:Int)))==true)) (AL l j)) λ(A:AG)=>
 AB (gd (((decide (m=(q.length:Int)))==false)&&((decide (j<(l.length:Int)))==true)) (AL q m)) λ(B:AG)=>
 if((m=(q.length:Int))||((j<(l.length:Int))&&(Au A.Name B.Name))) then(
 AB (AL l j) λ(C:AG)=>
 AB (Jr o2 C (AG.mk [] [])) λ(E:List AG)=>
 AB (AR .i64 (j+1)) λ(F:Int)=>
 some (.inl (F,m,E))
 ) else(
 AB (gd ((decide (j=(l.length:Int)))==false) (AL q m)) λ(I:AG)=>
 AB (gd ((decide (j=(l.length:Int)))==false) (AL l j)) λ(J:AG)=>
 if((j=(l.length:Int))||(Au I.Name J.Name)) then(
 AB (AL q m) λ(M:AG)=>
 AB (Jr o2 (AG.mk [] []) M) λ(O:List AG)=>
 AB (AR .i64 (m+1)) λ(T:Int)=>
 some (.inl (j,T,O))
 ) else(
 AB (AL l j) λ(U:AG)=>
 AB (AL q m) λ(V:AG)=>
 AB (Jr o2 U V) λ(X:List AG)=>
 AB (AR .i64 (j+1)) λ(w:Int)=>
 AB (AR .i64 (m+1)) λ(Z:Int)=>
 some (.inl (w,Z,X))
 )
 )
 ) else(
 some (.inr (.ext o2))
 )
def MA(j:List AG)(l:List AG)(m:List AG):Option ((List AG)):=
 Aw (iter (λ(a:Int × Int × (List AG))=>Mu l m a.1 a.2.1 a.2.2) (0,0,j)) λ(q:Unit)=>
 none
def KG(l:List AG)(j:List AG):Option ((List AG)):=
 AB (MA [] l j) λ(m:List AG)=>
 some m
def N5(l:List AG)(w:List AG)(j:Int):Option (Int ⊕ (Ar Unit Bool)):=
 if(decide (j<(l.length:Int))) then(
 AB (AL l j) λ(m:AG)=>
 AB (AL w j) λ(q:AG)=>
 if(!((m.Name=q.Name)&&((m.Value=q.Value)&&true))) then(
 some (.inr (.ext false))
 ) else(
 AB (AR .i64 (j+1)) λ(A:Int)=>
 some (.inl A)
 )
 ) else(
 some (.inr (.nrm ()))
 )
def Jm(j:List AG)(l:List AG):Option (Bool):=
 if(!((j.length:Int)=(l.length:Int))) then(
 some false
 ) else(
 Aw (iter (λ(a:Int)=>N5 j l a) 0) λ(m:Unit)=>
 some true
 )
def Ky(m:List UInt8)(l:Int):Option (Int ⊕ (Ar Unit Bool)):=
 if(decide (l<(m.length:Int))) then(
 AB (AL m l) λ(j:UInt8)=>
 if((!((97≤(j.toNat:Int))&&((j.toNat:Int)≤122)))&&((l=0)||(((!((j.toNat:Int)=46))&&(!((j.toNat:Int)=45)))&&(((j.toNat:Int)<48)||(57<(j.toNat:Int)))))) then(
 some (.inr (.ext false))
 ) else(
 AB (AR .i64 (l+1)) λ(q:Int)=>
 some (.inl q)
 )
 ) else(
 some (.inr (.nrm ()))
 )
def LP(j:List UInt8):Option (Bool):=
 Aw (iter (λ(a:Int)=>Ky j a) 0) λ(l:Unit)=>
 some ((1≤(j.length:Int))&&((j.length:Int)≤24))
def M2(m:List UInt8)(l:Int):Option (Int ⊕ (Ar Unit Bool)):=
 if(decide (l<(m.length:Int))) then(
 AB (AL m l) λ(j:UInt8)=>
 if(((j.toNat:Int)<32)||(126<(j.toNat:Int))) then(
 some (.inr (.ext false))
 ) else(
 AB (AR .i64 (l+1)) λ(q:Int)=>
 some (.inl q)
 )
 ) else(
 some (.inr (.nrm ()))
 )
def Kl(j:List UInt8):Option (Bool):=
 Aw (iter (λ(a:Int)=>M2 j a) 0) λ(l:Unit)=>
 some ((1≤(j.length:Int))&&((j.length:Int)≤200))
def LM(q:List AG)(j:Bool)(l:Int):Option (Int ⊕ (Ar Unit Int)):=
 if(decide (l<(q.length:Int))) then(
 AB (AL q l) λ(m:AG)=>
 AB (LP m.Name) λ(w:Bool)=>
 if(!w) then(
 some (.inr (.ext 9))
 ) else(
 AB (Kl m.Value) λ(A:Bool)=>
 if((!A)&&((!(m.Value=[]))||(!j))) then(
 some (.inr (.ext 23))
 ) else(
 AB (gd ((decide (0<l))==true) (AR .i64 (l-1))) λ(B:Int)=>
 AB (gd ((decide (0<l))==true) (AL q B)) λ(C:AG)=>
 if((0<l)&&(!Au C.Name m.Name)) then(
 some (.inr (.ext 5))
 ) else(
 AB (AR .i64 (l+1)) λ(E:Int)=>
 some (.inl E)
 )
 )
 )
 ) else(
 some (.inr (.nrm ()))
 )
def JR(l:List AG)(j:Bool):Option (Int):=
 Aw (iter (λ(a:Int)=>LM l j a) 0) λ(m:Unit)=>
 some 0
def NQ(m:List AG)(j:List UInt8)(l:Int):Option (Int ⊕ (Ar Unit (List UInt8))):=
 if(decide (l<(m.length:Int))) then(
 AB (AL m l) λ(q:AG)=>
 if(decide (q.Name=j)) then(
 some (.inr (.ext q.Value))
 ) else(
 AB (AR .i64 (l+1)) λ(w:Int)=>
 some (.inl w)
 )
 ) else(
 some (.inr (.nrm ()))
 )
def Mb(l:List AG)(j:List UInt8):Option ((List UInt8)):=
 Aw (iter (λ(a:Int)=>NQ l j a) 0) λ(m:Unit)=>
 some []
def Nr(m:List AG)(j:List UInt8)(l:Int):Option (Int ⊕ (Ar Unit (List UInt8))):=
 if(decide (l<(m.length:Int))) then(
 AB (AL m l) λ(q:AG)=>
 if(decide (q.Name=j)) then(
 some (.inr (.ext q.Value))
 ) else(
 AB (AR .i64 (l+1)) λ(w:Int)=>
 some (.inl w)
 )
 ) else(
 some (.inr (.nrm ()))
 )
def Ny(l:List AG)(j:List UInt8):Option ((List UInt8)):=
 Aw (iter (λ(a:Int)=>Nr l j a) 0) λ(m:Unit)=>
 some []
def NB(F:List AG)(I:AG)(j:Bool)(E:Int)(l:List AG):Option ((Bool × Int × (List AG)) ⊕ (Bool × (List AG))):=
 if(decide (E<(F.length:Int))) then(
 Bw (
 AB (gd ((!j)==true) (AL F E)) λ(M:AG)=>
 Bw (
 if((!j)&&(!Au M.Name I.Name)) then(
 AB (app 32 l [I]) λ(w:List AG)=>
 some (true,w)
 ) else(
 some (j,l)
 )
 ) λ(m:Bool) (q:List AG)=>
 AB (AL F E) λ(J:AG)=>
 if(!(J.Name=I.Name)) then(
 AB (app 32 q [J]) λ(B:List AG)=>
 some (m,B)
 ) else(
 some (m,q)
 )
 ) λ(A:Bool) (C:List AG)=>
 AB (AR .i64 (E+1)) λ(O:Int)=>
 some (.inl (A,O,C))
 ) else(
 some (.inr (j,l))
 )
def JV(A:List AG)(w:AG):Option ((List AG)):=
 Bw (iter (λ(a:Bool × Int × (List AG))=>NB A w a.1 a.2.1 a.2.2) (false,0,[])) λ(l:Bool) (j:List AG)=>
 AB (
 if(!l) then(
 AB (app 32 j [w]) λ(m:List AG)=>
 some m
 ) else(
 some j
 )
 ) λ(q:List AG)=>
 some q
def N9(l:List AG)(A:Int)(j:List AG):Option ((Int × (List AG)) ⊕ (List AG)):=
 if(decide (A<(l.length:Int))) then(
 AB (
 AB (AL l A) λ(w:AG)=>
 if(!(w.Value=[])) then(
 AB (app 32 j [w]) λ(m:List AG)=>
 some m
 ) else(
 some j
 )
 ) λ(q:List AG)=>
 AB (AR .i64 (A+1)) λ(B:Int)=>
 some (.inl (B,q))
 ) else(
 some (.inr j)
 )
def MM(j:List AG)(l:List AG)(q:Int):Option (((List AG) × Int) ⊕ (List AG)):=
 if(decide (q<(j.length:Int))) then(
 AB (AL j q) λ(w:AG)=>
 AB (JV l w) λ(m:List AG)=>
 AB (AR .i64 (q+1)) λ(A:Int)=>
 some (.inl (m,A))
 ) else(
 some (.inr l)
 )
def Lp(A:List AG)(j:List AG)(m:Int):Option (((List AG) × Int) ⊕ (List AG)):=
 if(decide (m<(A.length:Int))) then(
 AB (AL A m) λ(q:AG)=>
 AB (JV j q) λ(l:List AG)=>
 AB (AR .i64 (m+1)) λ(w:Int)=>
 some (.inl (l,w))
 ) else(
 some (.inr j)
 )
def Kd(w:List AG)(j:List AG):Option ((List AG)):=
 AB (iter (λ(a:(List AG) × Int)=>Lp w a.1 a.2) ([],0)) λ(m:List AG)=>
 AB (iter (λ(a:(List AG) × Int)=>MM j a.1 a.2) (m,0)) λ(q:List AG)=>
 AB (iter (λ(a:Int × (List AG))=>N9 q a.1 a.2) (0,[])) λ(l:List AG)=>
 some l
def Pr:Option (AS):=
 some (AS.mk 10 0 [])
def J7(j:Int):Option (Bool):=
 some (((((j=9)||(j=10))||((32≤j)&&(j<127)))||((160≤j)&&(j<55296)))||((57343<j)&&(j≤1114111)))
def Nq(j:AS):Option (Int):=
 if((!(j.Char=0))==(!(j.Ref=0))) then(
 some 4
 ) else(
 AB (gd ((decide (j.Ref=0))==true) (J7 j.Char)) λ(l:Bool)=>
 AB (
 if((j.Ref=0)&&(!l)) then(
 some ((j.Ref=0)&&(!l))
 ) else(
 some ((!(j.Ref=0))&&((j.Ref<1)||(1073741824<j.Ref)))
 )
 ) λ(m:Bool)=>
 if m then(
 some 2
 ) else(
 AB (IK j.Attrs) λ(q:Int)=>
 some q
 )
 )
def KC(j:Int):Option (Bool):=
 AB (gd (((j=9)||(j=10))==false) (CW j 32 126)) λ(l:Bool)=>
 AB (gd ((((j=9)||(j=10))||l)==false) (CW j 160 55295)) λ(m:Bool)=>
 AB (gd (((((j=9)||(j=10))||l)||m)==false) (CW j 57344 1114111)) λ(q:Bool)=>
 some (((((j=9)||(j=10))||l)||m)||q)
def N8(j:AS):Option (Int):=
 if(((j.Char=0)&&(j.Ref=0))||((!(j.Char=0))&&(!(j.Ref=0)))) then(
 some 4
 ) else(
 AB (gd ((!(j.Char=0))==true) (KC j.Char)) λ(l:Bool)=>
 AB (gd ((((!(j.Char=0))&&(!l))==false)&&((!(j.Ref=0))==true)) (CW j.Ref 1 1073741824)) λ(m:Bool)=>
 if(((!(j.Char=0))&&(!l))||((!(j.Ref=0))&&(!m))) then(
 some 2
 ) else(
 AB (JR j.Attrs false) λ(q:Int)=>
 some q
 )
 )
def M7(l:List AG)(w:List AG)(j:Int):Option (Int ⊕ (Ar Unit Bool)):=
 if(decide (j<(l.length:Int))) then(
 AB (AL l j) λ(m:AG)=>
 AB (AL w j) λ(q:AG)=>
 if(!((m.Name=q.Name)&&((m.Value=q.Value)&&true))) then(
 some (.inr (.ext false))
 ) else(
 AB (AR .i64 (j+1)) λ(A:Int)=>
 some (.inl A)
 )
 ) else(
 some (.inr (.nrm ()))
 )
def Jb(j:List AG)(l:List AG):Option (Bool):=
 if(!((j.length:Int)=(l.length:Int))) then(
 some false
 ) else(
 Aw (iter (λ(a:Int)=>M7 j l a) 0) λ(m:Unit)=>
 some true
 )
end
noncomputable section
structure Zj where
 Adds:List (List AS)
 Cuts:List Bool
 Attrs:List (List AG)
deriving DecidableEq
instance:Inhabited Zj:=⟨⟨[],[],[]⟩⟩
end
noncomputable section
end
noncomputable section
structure ZM where
 steps:List GStep
 used:Int
deriving DecidableEq
instance:Inhabited ZM:=⟨⟨[],0⟩⟩
structure j9 where
 out:List GStep
 add:List AS
 cut:Int
deriving DecidableEq
instance:Inhabited j9:=⟨⟨[],[],0⟩⟩
def IU(q:List AS)(l:Int)(j:List AS):Option ((Int × (List AS)) ⊕ (List AS)):=
 if(decide (l<(q.length:Int))) then(
 AB (AL q l) λ(m:AS)=>
 AB (app 32 [] m.Attrs) λ(w:List AG)=>
 AB (AL j l) λ(B:AS)=>
 AB (AR .i64 (l+1)) λ(A:Int)=>
 some (.inl (A,(j.set l.toNat (AS.mk m.Char m.Ref w))))
 ) else(
 some (.inr j)
 )
def NS(m:List AS):Option ((List AS)):=
 AB (mk 40 (m.length:Int) (AS.mk 0 0 [])) λ(j:List AS)=>
 AB (iter (λ(a:Int × (List AS))=>IU m a.1 a.2) (0,j)) λ(l:List AS)=>
 some l
def L0(j:AS)(l:AS):Option (Bool):=
 AB (gd (((j.Char=l.Char)&&(j.Ref=l.Ref))==true) (Jm j.Attrs l.Attrs)) λ(m:Bool)=>
 some (((j.Char=l.Char)&&(j.Ref=l.Ref))&&m)
def MQ(l:List AS)(m:List AS)(j:Int):Option (Int ⊕ (Ar Unit Bool)):=
 if(decide (j<(l.length:Int))) then(
 AB (AL l j) λ(q:AS)=>
 AB (AL m j) λ(w:AS)=>
 AB (L0 q w) λ(A:Bool)=>
 if(!A) then(
 some (.inr (.ext false))
 ) else(
 AB (AR .i64 (j+1)) λ(B:Int)=>
 some (.inl B)
 )
 ) else(
 some (.inr (.nrm ()))
 )
def Nd(j:List AS)(l:List AS):Option (Bool):=
 if(!((j.length:Int)=(l.length:Int))) then(
 some false
 ) else(
 Aw (iter (λ(a:Int)=>MQ j l a) 0) λ(m:Unit)=>
 some true
 )
def Jy(m:List AS)(j:Bool)(l:Int):Option (Int ⊕ (Ar Unit Int)):=
 if(decide (l<(m.length:Int))) then(
 AB (AL m l) λ(q:AS)=>
 AB (Nq q) λ(w:Int)=>
 if(!(w=0)) then(
 some (.inr (.ext w))
 ) else(
 if((!j)&&(q.Ref=0)) then(
 some (.inr (.ext 8))
 ) else(
 AB (AR .i64 (l+1)) λ(A:Int)=>
 some (.inl A)
 )
 )
 ) else(
 some (.inr (.nrm ()))
 )
def Ft(l:List AS)(j:Bool):Option (Int):=
 Aw (iter (λ(a:Int)=>Jy l j a) 0) λ(w:Unit)=>
 AB (gd ((j==true)&&((decide ((l.length:Int)=0))==false)) (AR .i64 ((l.length:Int)-1))) λ(m:Int)=>
 AB (gd ((j==true)&&((decide ((l.length:Int)=0))==false)) (AL l m)) λ(q:AS)=>
 if(j&&(((l.length:Int)=0)||(!(q.Char=10)))) then(
 some 11
 ) else(
 some 0
 )
def JS(m:List AS)(j:Bool)(l:Int):Option (Int ⊕ (Ar Unit Int)):=
 if(decide (l<(m.length:Int))) then(
 AB (AL m l) λ(q:AS)=>
 AB (N8 q) λ(w:Int)=>
 if(!(w=0)) then(
 some (.inr (.ext w))
 ) else(
 if((!j)&&(!(q.Char=0))) then(
 some (.inr (.ext 8))
 ) else(
 AB (AR .i64 (l+1)) λ(A:Int)=>
 some (.inl A)
 )
 )
 ) else(
 some (.inr (.nrm ()))
 )
def Ib(l:List AS)(j:Bool):Option (Int):=
 Aw (iter (λ(a:Int)=>JS l j a) 0) λ(w:Unit)=>
 AB (gd ((j==true)&&((decide ((l.length:Int)=0))==false)) (AR .i64 ((l.length:Int)-1))) λ(m:Int)=>
 AB (gd ((j==true)&&((decide ((l.length:Int)=0))==false)) (AL l m)) λ(q:AS)=>
 if(j&&(((l.length:Int)=0)||(!(q.Char=10)))) then(
 some 11
 ) else(
 some 0
 )
end
noncomputable section
end
noncomputable section
end
noncomputable section
end
noncomputable section
structure WW where
 Kind:Int
 Node:Int
 From:Int
 To:Int
 Name:List UInt8
deriving DecidableEq
instance:Inhabited WW:=⟨⟨0,0,0,0,[]⟩⟩
structure jB where
 node:Int
 out:List AS
 bad:List WW
deriving DecidableEq
instance:Inhabited jB:=⟨⟨0,[],[]⟩⟩
structure X2 where
 adds:List (List AS)
 cut:List Bool
 attrs:List (List AG)
deriving DecidableEq
instance:Inhabited X2:=⟨⟨[],[],[]⟩⟩
def Sh(q:List AS)(w:List AS)(m:Int):Option (Int ⊕ (Ar Unit Bool)):=
 if(decide (m<(q.length:Int))) then(
 AB (AL q m) λ(j:AS)=>
 AB (AL w m) λ(l:AS)=>
 AB (gd (((!(j.Char=l.Char))||(!(j.Ref=l.Ref)))==false) (Jb j.Attrs l.Attrs)) λ(A:Bool)=>
 if(((!(j.Char=l.Char))||(!(j.Ref=l.Ref)))||(!A)) then(
 some (.inr (.ext false))
 ) else(
 AB (AR .i64 (m+1)) λ(B:Int)=>
 some (.inl B)
 )
 ) else(
 some (.inr (.nrm ()))
 )
def RT(j:List AS)(l:List AS):Option (Bool):=
 if(!((j.length:Int)=(l.length:Int))) then(
 some false
 ) else(
 Aw (iter (λ(a:Int)=>Sh j l a) 0) λ(m:Unit)=>
 some true
 )
end
noncomputable section
structure Hi where
 lo:Int
 hi:Int
deriving DecidableEq
instance:Inhabited Hi:=⟨⟨0,0⟩⟩
@[reducible] def Hi.row(x:Hi):List RV:=[.int .u8 x.lo,.int .u8 x.hi]
def Od:List Hi:=IA.map λp=>Hi.mk p.1 p.2
def NW(A:List UInt8):Option (Int × Int):=
 if(decide ((A.length:Int)<1)) then(
 some (65533,0)
 ) else(
 AB (AL A 0) λ(j:UInt8)=>
 AB (AL Fl (j.toNat:Int)) λ(q:Int)=>
 if(decide (240≤q)) then(
 some ((D8 .i32 (Pg .i32 (IntKind.i32.wrap (j.toNat:Int)) (E6 .i32 (Ct .i32 (IntKind.i32.wrap q) 31) 31)) (B5 .i32 65533 (E6 .i32 (Ct .i32 (IntKind.i32.wrap q) 31) 31))),1)
 ) else(
 AB (AL Od (E6 .u8 q 4)) λ(B:Hi)=>
 if(decide ((A.length:Int)<(IntKind.i64.wrap (B5 .u8 q 7)))) then(
 some (65533,1)
 ) else(
 AB (AL A 1) λ(l:UInt8)=>
 if(((l.toNat:Int)<B.lo)||(B.hi<(l.toNat:Int))) then(
 some (65533,1)
 ) else(
 if(decide ((IntKind.i64.wrap (B5 .u8 q 7))≤2)) then(
 some ((D8 .i32 (Ct .i32 (IntKind.i32.wrap (B5 .u8 (j.toNat:Int) 31)) 6) (IntKind.i32.wrap (B5 .u8 (l.toNat:Int) 63))),2)
 ) else(
 AB (AL A 2) λ(m:UInt8)=>
 if(((m.toNat:Int)<128)||(191<(m.toNat:Int))) then(
 some (65533,1)
 ) else(
 if(decide ((IntKind.i64.wrap (B5 .u8 q 7))≤3)) then(
 some ((D8 .i32 (D8 .i32 (Ct .i32 (IntKind.i32.wrap (B5 .u8 (j.toNat:Int) 15)) 12) (Ct .i32 (IntKind.i32.wrap (B5 .u8 (l.toNat:Int) 63)) 6)) (IntKind.i32.wrap (B5 .u8 (m.toNat:Int) 63))),3)
 ) else(
 AB (AL A 3) λ(w:UInt8)=>
 if(((w.toNat:Int)<128)||(191<(w.toNat:Int))) then(
 some (65533,1)
 ) else(
 some ((D8 .i32 (D8 .i32 (D8 .i32 (Ct .i32 (IntKind.i32.wrap (B5 .u8 (j.toNat:Int) 7)) 18) (Ct .i32 (IntKind.i32.wrap (B5 .u8 (l.toNat:Int) 63)) 12)) (Ct .i32 (IntKind.i32.wrap (B5 .u8 (m.toNat:Int) 63)) 6)) (IntKind.i32.wrap (B5 .u8 (w.toNat:Int) 63))),4)
 )
 )
 )
 )
 )
 )
 )
 )
def L9(j:List UInt8):Option (Int × Int):=
 AB (gd ((!(j=[]))==true) (AL j 0)) λ(l:UInt8)=>
 if((!(j=[]))&&((l.toNat:Int)<128)) then(
 AB (AL j 0) λ(m:UInt8)=>
 some ((IntKind.i32.wrap (m.toNat:Int)),1)
 ) else(
 Bw (NW j) λ(q:Int) (w:Int)=>
 some (q,w)
 )
end
noncomputable section
def E4(w:List AS)(q:Int)(j:List Int):Option ((Int × (List Int)) ⊕ (List Int)):=
 if(decide (q<(w.length:Int))) then(
 AB (
 AB (AL w q) λ(A:AS)=>
 if(!(A.Ref=0)) then(
 AB (app 8 j [A.Ref]) λ(l:List Int)=>
 some l
 ) else(
 some j
 )
 ) λ(m:List Int)=>
 AB (AR .i64 (q+1)) λ(B:Int)=>
 some (.inl (B,m))
 ) else(
 some (.inr j)
 )
def HH(l:List AS):Option ((List Int)):=
 AB (iter (λ(a:Int × (List Int))=>E4 l a.1 a.2) (0,[])) λ(j:List Int)=>
 some j
end
noncomputable section
end
noncomputable section
structure AM where
 Nodes:List AK
deriving DecidableEq
instance:Inhabited AM:=⟨⟨[]⟩⟩
@[reducible] def AM.row(x:AM):List RV:=[.sl (x.Nodes.map AK.row)]
def PQ:Option (AM):=
 some (AM.mk [(AK.mk 1 0 [] [(AS.mk 0 2 [])] (Av.mk 0 0 [] []) []),(AK.mk 2 1 [] [(AS.mk 10 0 [])] (Av.mk 0 0 [] []) [])])
def Fv(j:Int):Option (Bool):=
 some ((((j=1)||(j=3))||(j=4))||(j=12))
def GH(j:Int):Option (Bool):=
 some ((j=0)||(j=7))
def FG(j:Int):Option (Bool):=
 some ((j=2)||(j=6))
def Nk(j:List Aj)(w:List Aj)(l:Int):Option (Int ⊕ (Ar Unit Bool)):=
 if(decide (l<(j.length:Int))) then(
 AB (AL j l) λ(m:Aj)=>
 AB (AL w l) λ(q:Aj)=>
 if(!((m.Row=q.Row)&&((m.Col=q.Col)&&((m.H=q.H)&&((m.W=q.W)&&true))))) then(
 some (.inr (.ext false))
 ) else(
 AB (AR .i64 (l+1)) λ(A:Int)=>
 some (.inl A)
 )
 ) else(
 some (.inr (.nrm ()))
 )
def Lq(j:List Aj)(l:List Aj):Option (Bool):=
 if(!((j.length:Int)=(l.length:Int))) then(
 some false
 ) else(
 Aw (iter (λ(a:Int)=>Nk j l a) 0) λ(m:Unit)=>
 some true
 )
def Md(j:Ak)(l:Ak):Option (Bool):=
 AB (gd (((((j.Row=l.Row)&&(j.Col=l.Col))&&(j.Text=l.Text))&&(j.Ref=l.Ref))==true) (Jb j.Attrs l.Attrs)) λ(m:Bool)=>
 some (((((j.Row=l.Row)&&(j.Col=l.Col))&&(j.Text=l.Text))&&(j.Ref=l.Ref))&&m)
def Nv(j:List Ak)(m:List Ak)(l:Int):Option (Int ⊕ (Ar Unit Bool)):=
 if(decide (l<(j.length:Int))) then(
 AB (AL j l) λ(q:Ak)=>
 AB (AL m l) λ(w:Ak)=>
 AB (Md q w) λ(A:Bool)=>
 if(!A) then(
 some (.inr (.ext false))
 ) else(
 AB (AR .i64 (l+1)) λ(B:Int)=>
 some (.inl B)
 )
 ) else(
 some (.inr (.nrm ()))
 )
def Mc(j:List Ak)(l:List Ak):Option (Bool):=
 if(!((j.length:Int)=(l.length:Int))) then(
 some false
 ) else(
 Aw (iter (λ(a:Int)=>Nv j l a) 0) λ(m:Unit)=>
 some true
 )
def Jh(j:Av)(l:Av):Option (Bool):=
 AB (gd (((j.Rows=l.Rows)&&(j.Cols=l.Cols))==true) (Lq j.Merges l.Merges)) λ(m:Bool)=>
 AB (gd ((((j.Rows=l.Rows)&&(j.Cols=l.Cols))&&m)==true) (Mc j.Cells l.Cells)) λ(q:Bool)=>
 some ((((j.Rows=l.Rows)&&(j.Cols=l.Cols))&&m)&&q)
def Fx(j:Int):Option (Bool):=
 some (((j=8)||(j=9))||(j=10))
def Es(l:List UInt8):Option ((List UInt8) ⊕ (Ar Unit Bool)):=
 if(!(l=[])) then(
 Bw (L9 l) λ(j:Int) (m:Int)=>
 AB (gd ((((j=65533)&&(m=1))||(j=10))==false) (J7 (IntKind.i64.wrap j))) λ(q:Bool)=>
 if((((j=65533)&&(m=1))||(j=10))||(!q)) then(
 some (.inr (.ext false))
 ) else(
 AB (C0 l m (l.length:Int)) λ(w:List UInt8)=>
 some (.inl w)
 )
 ) else(
 some (.inr (.nrm ()))
 )
def Ls(j:List UInt8):Option (Bool):=
 Aw (iter (λ(a:(List UInt8))=>Es a) j) λ(l:Unit)=>
 some true
def NX(j:Ak):Option (Bool):=
 some (((j.Text=[])&&(j.Ref=0))&&((j.Attrs.length:Int)=0))
def Kx(j:Int):Option (Bool):=
 some (!(j=j))
def Fm(m:Int)(q:Int):Option (Int):=
 AB (Kx m) λ(l:Bool)=>
 AB (Kx q) λ(j:Bool)=>
 if l then(
 if j then(
 some 0
 ) else(
 some (-1)
 )
 ) else(
 if j then(
 some 1
 ) else(
 if(decide (m<q)) then(
 some (-1)
 ) else(
 if(decide (q<m)) then(
 some 1
 ) else(
 some 0
 )
 )
 )
 )
def De(j:List Int)(l:Int):Option (Int ⊕ (Ar Unit Int)):=
 if(decide (l<(j.length:Int))) then(
 AB (AL j l) λ(m:Int)=>
 if(!(m=0)) then(
 some (.inr (.ext m))
 ) else(
 AB (AR .i64 (l+1)) λ(q:Int)=>
 some (.inl q)
 )
 ) else(
 some (.inr (.nrm ()))
 )
def G4(j:List Int):Option (Int):=
 Aw (iter (λ(a:Int)=>De j a) 0) λ(l:Unit)=>
 some 0
def KY(j:Ak)(l:Ak):Option (Int):=
 AB (Fm j.Row l.Row) λ(m:Int)=>
 AB (Fm j.Col l.Col) λ(q:Int)=>
 AB (G4 [m,q]) λ(w:Int)=>
 some w
def N4(A:List Ak)(m:Int)(q:Int)(w:Bool)(l:Int):Option (Int ⊕ (Ar Unit Int)):=
 if(decide (l<(A.length:Int))) then(
 AB (AL A l) λ(j:Ak)=>
 if((((j.Row<0)||(m≤j.Row))||(j.Col<0))||(q≤j.Col)) then(
 some (.inr (.ext 2))
 ) else(
 if((j.Ref<0)||(1073741824<j.Ref)) then(
 some (.inr (.ext 2))
 ) else(
 AB (Ls j.Text) λ(C:Bool)=>
 if(!C) then(
 some (.inr (.ext 23))
 ) else(
 AB (IK j.Attrs) λ(B:Int)=>
 if(!(B=0)) then(
 some (.inr (.ext B))
 ) else(
 AB (NX j) λ(E:Bool)=>
 if(E&&(!w)) then(
 some (.inr (.ext 4))
 ) else(
 AB (gd ((decide (0<l))==true) (AR .i64 (l-1))) λ(F:Int)=>
 AB (gd ((decide (0<l))==true) (AL A F)) λ(I:Ak)=>
 AB (gd ((decide (0<l))==true) (KY I j)) λ(J:Int)=>
 if((0<l)&&(0≤J)) then(
 some (.inr (.ext 5))
 ) else(
 AB (AR .i64 (l+1)) λ(M:Int)=>
 some (.inl M)
 )
 )
 )
 )
 )
 )
 ) else(
 some (.inr (.nrm ()))
 )
def Nx(q:List Ak)(j:Int)(l:Int)(m:Bool):Option (Int):=
 Aw (iter (λ(a:Int)=>N4 q j l m a) 0) λ(w:Unit)=>
 some 0
def M4(j:Aj)(l:Int)(m:Int):Option (Bool):=
 AB (gd (((((((0≤j.Row)&&(0≤j.Col))&&(1≤j.H))&&(1≤j.W))&&(j.Row<l))&&(j.Col<m))==true) (AR .i64 (l-j.Row))) λ(q:Int)=>
 AB (gd ((((((((0≤j.Row)&&(0≤j.Col))&&(1≤j.H))&&(1≤j.W))&&(j.Row<l))&&(j.Col<m))&&(j.H≤q))==true) (AR .i64 (m-j.Col))) λ(w:Int)=>
 some ((((((((0≤j.Row)&&(0≤j.Col))&&(1≤j.H))&&(1≤j.W))&&(j.Row<l))&&(j.Col<m))&&(j.H≤q))&&(j.W≤w))
def M9(j:Aj)(l:Aj):Option (Bool):=
 some ((j.Row<l.Row)||((j.Row=l.Row)&&(j.Col<l.Col)))
def OC(j:Aj)(l:Aj):Option (Bool):=
 AB (AR .i64 (l.Row+l.H)) λ(m:Int)=>
 AB (gd ((decide (j.Row<m))==true) (AR .i64 (j.Row+j.H))) λ(q:Int)=>
 AB (gd (((j.Row<m)&&(l.Row<q))==true) (AR .i64 (l.Col+l.W))) λ(w:Int)=>
 AB (gd ((((j.Row<m)&&(l.Row<q))&&(j.Col<w))==true) (AR .i64 (j.Col+j.W))) λ(A:Int)=>
 some ((((j.Row<m)&&(l.Row<q))&&(j.Col<w))&&(l.Col<A))
def OM(j:Aj)(l:Aj):Option (Bool):=
 AB (OC l j) λ(m:Bool)=>
 some m
def N2(m:Aj)(l:List Aj)(j:Int):Option (Int ⊕ (Ar Unit Int)):=
 if(decide (j<(l.length:Int))) then(
 AB (AL l j) λ(q:Aj)=>
 AB (OM m q) λ(w:Bool)=>
 if w then(
 some (.inr (.ext j))
 ) else(
 AB (AR .i64 (j+1)) λ(A:Int)=>
 some (.inl A)
 )
 ) else(
 some (.inr (.nrm ()))
 )
def QJ(j:Aj)(l:List Aj):Option (Int):=
 Aw (iter (λ(a:Int)=>N2 j l a) 0) λ(m:Unit)=>
 some (-1)
def KW(j:Aj)(l:List Aj):Option (Bool):=
 AB (QJ j l) λ(m:Int)=>
 some (decide (0≤m))
def NL(l:Av)(j:Int):Option (Int ⊕ (Ar Unit Int)):=
 if(decide (j<(l.Merges.length:Int))) then(
 AB (AL l.Merges j) λ(m:Aj)=>
 AB (M4 m l.Rows l.Cols) λ(q:Bool)=>
 if(!q) then(
 some (.inr (.ext 2))
 ) else(
 if((m.H=1)&&(m.W=1)) then(
 some (.inr (.ext 4))
 ) else(
 AB (gd ((decide (0<j))==true) (AR .i64 (j-1))) λ(w:Int)=>
 AB (gd ((decide (0<j))==true) (AL l.Merges w)) λ(A:Aj)=>
 AB (gd ((decide (0<j))==true) (M9 A m)) λ(B:Bool)=>
 if((0<j)&&(!B)) then(
 some (.inr (.ext 5))
 ) else(
 AB (C0 l.Merges 0 j) λ(C:List Aj)=>
 AB (KW m C) λ(E:Bool)=>
 if E then(
 some (.inr (.ext 21))
 ) else(
 AB (AR .i64 (j+1)) λ(F:Int)=>
 some (.inl F)
 )
 )
 )
 )
 ) else(
 some (.inr (.nrm ()))
 )
def Lx(j:Av):Option (Int):=
 if((((j.Rows<0)||(2147483647<j.Rows))||(j.Cols<0))||(2147483647<j.Cols)) then(
 some 2
 ) else(
 AB (Nx j.Cells j.Rows j.Cols false) λ(l:Int)=>
 if(!(l=0)) then(
 some l
 ) else(
 Aw (iter (λ(a:Int)=>NL j a) 0) λ(m:Unit)=>
 some 0
 )
 )
def L7(j:Int)(q:List Ak)(l:Int):Option (Int ⊕ (Ar Unit Int)):=
 if(decide (l<(q.length:Int))) then(
 AB (AL q l) λ(m:Ak)=>
 if(((j=2)&&((!(m.Text=[]))||(0<(m.Attrs.length:Int))))||((j=6)&&(!(m.Ref=0)))) then(
 some (.inr (.ext 4))
 ) else(
 AB (AR .i64 (l+1)) λ(w:Int)=>
 some (.inl w)
 )
 ) else(
 some (.inr (.nrm ()))
 )
def Lo(j:Int)(l:List Ak):Option (Int):=
 Aw (iter (λ(a:Int)=>L7 j l a) 0) λ(m:Unit)=>
 some 0
def I6(m:List UInt8)(l:Int):Option (Int ⊕ (Ar Unit Bool)):=
 if(decide (l<(m.length:Int))) then(
 AB (AL m l) λ(j:UInt8)=>
 if(((j.toNat:Int)<97)||(122<(j.toNat:Int))) then(
 some (.inr (.ext false))
 ) else(
 AB (AR .i64 (l+1)) λ(q:Int)=>
 some (.inl q)
 )
 ) else(
 some (.inr (.nrm ()))
 )
def Je(j:List UInt8):Option (Bool):=
 AB (gd (((j=[])||(200<(j.length:Int)))==false) (AR .i64 ((j.length:Int)-1))) λ(m:Int)=>
 AB (gd (((j=[])||(200<(j.length:Int)))==false) (AL j m)) λ(l:UInt8)=>
 if(((j=[])||(200<(j.length:Int)))||((l.toNat:Int)=97)) then(
 some false
 ) else(
 Aw (iter (λ(a:Int)=>I6 j a) 0) λ(q:Unit)=>
 some true
 )
def Iu(j:At):Option (Int):=
 if((!(j.Kind=0))&&(!(j.Kind=1))) then(
 some 8
 ) else(
 if((((((j.Clock<1)||(1073741824<j.Clock))||(j.Site<0))||(1000<j.Site))||(j.Item<1))||(1073741824<j.Item)) then(
 some 2
 ) else(
 AB (
 if((j.Kind=0)&&((!(j.Name=[]))||(!(j.Value=[])))) then(
 some ((j.Kind=0)&&((!(j.Name=[]))||(!(j.Value=[]))))
 ) else(
 some ((j.Kind=1)&&((!(j.Parent=0))||(!(j.Place=[]))))
 )
 ) λ(m:Bool)=>
 if m then(
 some 4
 ) else(
 if((j.Kind=0)&&((j.Parent<(-1))||(1073741824<j.Parent))) then(
 some 2
 ) else(
 AB (gd ((decide (j.Kind=0))==true) (Je j.Place)) λ(l:Bool)=>
 AB (
 if((j.Kind=0)&&(!l)) then(
 some ((j.Kind=0)&&(!l))
 ) else(
 AB (gd ((decide (j.Kind=1))==true) (LZ j.Name)) λ(q:Bool)=>
 some ((j.Kind=1)&&(!q))
 )
 ) λ(w:Bool)=>
 if w then(
 some 9
 ) else(
 AB (gd (((j.Kind=1)&&(!(j.Value=[])))==true) (LC j.Value)) λ(A:Bool)=>
 if(((j.Kind=1)&&(!(j.Value=[])))&&(!A)) then(
 some 23
 ) else(
 some 0
 )
 )
 )
 )
 )
 )
def JJ(j:At)(l:At):Option (Int):=
 AB (Fm j.Clock l.Clock) λ(m:Int)=>
 AB (Fm j.Site l.Site) λ(q:Int)=>
 AB (G4 [m,q]) λ(w:Int)=>
 some w
def Iw(l:List At)(j:Int):Option (Int ⊕ (Ar Unit Int)):=
 if(decide (j<(l.length:Int))) then(
 AB (AL l j) λ(m:At)=>
 AB (Iu m) λ(q:Int)=>
 if(!(q=0)) then(
 some (.inr (.ext q))
 ) else(
 AB (gd ((decide (0<j))==true) (AR .i64 (j-1))) λ(w:Int)=>
 AB (gd ((decide (0<j))==true) (AL l w)) λ(A:At)=>
 AB (gd ((decide (0<j))==true) (JJ A m)) λ(B:Int)=>
 if((0<j)&&(0≤B)) then(
 some (.inr (.ext 5))
 ) else(
 AB (AR .i64 (j+1)) λ(C:Int)=>
 some (.inl C)
 )
 )
 ) else(
 some (.inr (.nrm ()))
 )
def JZ(j:List At):Option (Int):=
 Aw (iter (λ(a:Int)=>Iw j a) 0) λ(l:Unit)=>
 some 0
def Cr(n1:AK):Option (Int):=
 if((n1.ID<1)||(1073741824<n1.ID)) then(
 some 2
 ) else(
 if(((n1.Kind<0)||(13≤n1.Kind))||(!((decide (n1.ID=1))==(decide (n1.Kind=0))))) then(
 some 8
 ) else(
 AB (IK n1.Attrs) λ(w:Int)=>
 if(!(w=0)) then(
 some w
 ) else(
 AB (Fv n1.Kind) λ(l:Bool)=>
 AB (gd (l==false) (GH n1.Kind)) λ(m:Bool)=>
 AB (FG n1.Kind) λ(j:Bool)=>
 AB (
 if(((!(l||m))&&(0<(n1.Flow.length:Int)))==false) then(
 if((!j)==true) then(
 AB (Jh n1.Grid (Av.mk 0 0 [] [])) λ(A:Bool)=>
 AB (gd ((((!(l||m))&&(0<(n1.Flow.length:Int)))||((!j)&&(!A)))==false) (Fx n1.Kind)) λ(C:Bool)=>
 some ((((!(l||m))&&(0<(n1.Flow.length:Int)))||((!j)&&(!A)))||((!C)&&(0<(n1.Draw.length:Int))))
 ) else(
 AB (gd ((((!(l||m))&&(0<(n1.Flow.length:Int)))||((!j)&&false))==false) (Fx n1.Kind)) λ(E:Bool)=>
 some ((((!(l||m))&&(0<(n1.Flow.length:Int)))||((!j)&&false))||((!E)&&(0<(n1.Draw.length:Int))))
 )
 ) else(
 AB (gd ((((!(l||m))&&(0<(n1.Flow.length:Int)))||false)==false) (Fx n1.Kind)) λ(q:Bool)=>
 some ((((!(l||m))&&(0<(n1.Flow.length:Int)))||false)||((!q)&&(0<(n1.Draw.length:Int))))
 )
 ) λ(F:Bool)=>
 if F then(
 some 4
 ) else(
 if(l||m) then(
 AB (Ft n1.Flow l) λ(I:Int)=>
 some I
 ) else(
 if j then(
 AB (Lx n1.Grid) λ(B:Int)=>
 if(!(B=0)) then(
 some B
 ) else(
 AB (Lo n1.Kind n1.Grid.Cells) λ(J:Int)=>
 some J
 )
 ) else(
 AB (JZ n1.Draw) λ(M:Int)=>
 some M
 )
 )
 )
 )
 )
 )
def EX(w:List AS)(q:Int)(j:List Int):Option ((Int × (List Int)) ⊕ (List Int)):=
 if(decide (q<(w.length:Int))) then(
 AB (
 AB (AL w q) λ(A:AS)=>
 if(!(A.Ref=0)) then(
 AB (app 8 j [A.Ref]) λ(l:List Int)=>
 some l
 ) else(
 some j
 )
 ) λ(m:List Int)=>
 AB (AR .i64 (q+1)) λ(B:Int)=>
 some (.inl (B,m))
 ) else(
 some (.inr j)
 )
def JA(l:List AS):Option ((List Int)):=
 AB (iter (λ(a:Int × (List Int))=>EX l a.1 a.2) (0,[])) λ(j:List Int)=>
 some j
def Dn(n1:AK)(q:Int)(j:List Int):Option ((Int × (List Int)) ⊕ (List Int)):=
 if(decide (q<(n1.Grid.Cells.length:Int))) then(
 AB (
 AB (AL n1.Grid.Cells q) λ(w:Ak)=>
 if(!(w.Ref=0)) then(
 AB (app 8 j [w.Ref]) λ(l:List Int)=>
 some l
 ) else(
 some j
 )
 ) λ(m:List Int)=>
 AB (AR .i64 (q+1)) λ(A:Int)=>
 some (.inl (A,m))
 ) else(
 some (.inr j)
 )
def GT(n1:AK):Option ((List Int)):=
 AB (JA n1.Flow) λ(l:List Int)=>
 AB (iter (λ(a:Int × (List Int))=>Dn n1 a.1 a.2) (0,l)) λ(j:List Int)=>
 some j
def Kw(n1:AK)(j:Int):Option (Int):=
 if(decide (n1.ID<j)) then(
 some (-1)
 ) else(
 if(decide (j<n1.ID)) then(
 some 1
 ) else(
 some 0
 )
 )
def Em(A:List AK)(j:Int)(l:Int)(m:Int):Option ((Int × Int) ⊕ Int):=
 if(decide (l<m)) then(
 AB (AR .i64 (l+m)) λ(q:Int)=>
 AB (AL A (IntKind.i64.wrap (E6 .u64 (IntKind.u64.wrap q) 1))) λ(B:AK)=>
 AB (Kw B j) λ(C:Int)=>
 if(decide (C<0)) then(
 AB (AR .i64 ((IntKind.i64.wrap (E6 .u64 (IntKind.u64.wrap q) 1))+1)) λ(w:Int)=>
 some (.inl (w,m))
 ) else(
 some (.inl (l,(IntKind.i64.wrap (E6 .u64 (IntKind.u64.wrap q) 1))))
 )
 ) else(
 some (.inr l)
 )
def M8(l:List AK)(j:Int):Option (Int × Bool):=
 AB (iter (λ(a:Int × Int)=>Em l j a.1 a.2) (0,(l.length:Int))) λ(i8:Int)=>
 AB (gd ((decide (i8<(l.length:Int)))==true) (AL l i8)) λ(m:AK)=>
 AB (gd ((decide (i8<(l.length:Int)))==true) (Kw m j)) λ(q:Int)=>
 some (i8,((i8<(l.length:Int))&&(q=0)))
def E1(d1:AM)(j:Int):Option (Int × Bool):=
 Bw (M8 d1.Nodes j) λ(l:Int) (m:Bool)=>
 some (l,m)
def H7(l:List Int)(v1:Int)(j:Int):Option (Int ⊕ (Ar Unit Int)):=
 if(decide (j<(l.length:Int))) then(
 AB (AL l j) λ(m:Int)=>
 if(decide (v1=m)) then(
 some (.inr (.ext j))
 ) else(
 AB (AR .i64 (j+1)) λ(q:Int)=>
 some (.inl q)
 )
 ) else(
 some (.inr (.nrm ()))
 )
def NG(j:List Int)(v1:Int):Option (Int):=
 Aw (iter (λ(a:Int)=>H7 j v1 a) 0) λ(l:Unit)=>
 some (-1)
def IT(j:List Int)(v1:Int):Option (Bool):=
 AB (NG j v1) λ(l:Int)=>
 some (decide (0≤l))
def JB(j:Int)(l:Int):Option (Bool):=
 AB (
 if(decide (j=0)) then(
 some [1,6,7,10,11,12]
 ) else(
 if(decide (j=1)) then(
 some [2,4,5,10]
 ) else(
 if(decide (j=3)) then(
 some [4,5,10]
 ) else(
 AB (
 if(decide (j=4)) then(
 some (decide (j=4))
 ) else(
 some (decide (j=12))
 )
 ) λ(m:Bool)=>
 if m then(
 some [5]
 ) else(
 if(decide (j=2)) then(
 some [3]
 ) else(
 if(decide (j=7)) then(
 some [8,9]
 ) else(
 some []
 )
 )
 )
 )
 )
 )
 ) λ(q:List Int)=>
 AB (IT q l) λ(w:Bool)=>
 some w
def Du(d1:AM)(j:Int)(F1:List Int)(l:Int):Option (Int ⊕ (Ar Unit Int)):=
 if(decide (l<(F1.length:Int))) then(
 AB (AL F1 l) λ(m:Int)=>
 Bw (E1 d1 m) λ(q:Int) (w:Bool)=>
 if(!w) then(
 some (.inr (.ext 7))
 ) else(
 AB (AL d1.Nodes q) λ(A:AK)=>
 AB (JB j A.Kind) λ(B:Bool)=>
 if(!B) then(
 some (.inr (.ext 8))
 ) else(
 AB (AR .i64 (l+1)) λ(C:Int)=>
 some (.inl C)
 )
 )
 ) else(
 some (.inr (.nrm ()))
 )
def FN(d1:AM)(j:Int)(F1:List Int):Option (Int):=
 Aw (iter (λ(a:Int)=>Du d1 j F1 a) 0) λ(l:Unit)=>
 some 0
def Dq(d1:AM)(j:Int):Option (Int ⊕ (Ar Unit Int)):=
 if(decide (j<(d1.Nodes.length:Int))) then(
 AB (AL d1.Nodes j) λ(l:AK)=>
 AB (GT l) λ(q:List Int)=>
 AB (FN d1 l.Kind q) λ(m:Int)=>
 if(!(m=0)) then(
 some (.inr (.ext m))
 ) else(
 AB (AR .i64 (j+1)) λ(w:Int)=>
 some (.inl w)
 )
 ) else(
 some (.inr (.nrm ()))
 )
def Cq(d1:AM)(j:Int):Option (Int ⊕ (Ar Unit Int)):=
 if(decide (j<(d1.Nodes.length:Int))) then(
 AB (AL d1.Nodes j) λ(l:AK)=>
 AB (Cr l) λ(A:Int)=>
 if(!(A=0)) then(
 some (.inr (.ext A))
 ) else(
 AB (gd ((((j=0)&&(!(l.ID=1)))==false)&&((decide (0<j))==true)) (AR .i64 (j-1))) λ(m:Int)=>
 AB (gd ((((j=0)&&(!(l.ID=1)))==false)&&((decide (0<j))==true)) (AL d1.Nodes m)) λ(q:AK)=>
 if(((j=0)&&(!(l.ID=1)))||((0<j)&&(l.ID≤q.ID))) then(
 some (.inr (.ext 5))
 ) else(
 AB (AR .i64 (j+1)) λ(w:Int)=>
 some (.inl w)
 )
 )
 ) else(
 some (.inr (.nrm ()))
 )
def DX(d1:AM):Option (Int):=
 if(decide ((d1.Nodes.length:Int)=0)) then(
 some 11
 ) else(
 Aw (iter (λ(a:Int)=>Cq d1 a) 0) λ(j:Unit)=>
 Aw (iter (λ(a:Int)=>Dq d1 a) 0) λ(l:Unit)=>
 some 0
 )
def P2(j:List AS):Option (AM):=
 some (AM.mk [(AK.mk 1 0 [] [(AS.mk 0 2 [])] (Av.mk 0 0 [] []) []),(AK.mk 2 1 [] j (Av.mk 0 0 [] []) [])])
def MZ(j:Ak)(l:Ak):Option (Bool):=
 AB (gd (((((j.Row=l.Row)&&(j.Col=l.Col))&&(j.Text=l.Text))&&(j.Ref=l.Ref))==true) (Jm j.Attrs l.Attrs)) λ(m:Bool)=>
 some (((((j.Row=l.Row)&&(j.Col=l.Col))&&(j.Text=l.Text))&&(j.Ref=l.Ref))&&m)
def M6(l:List Ak)(m:List Ak)(j:Int):Option (Int ⊕ (Ar Unit Bool)):=
 if(decide (j<(l.length:Int))) then(
 AB (AL l j) λ(q:Ak)=>
 AB (AL m j) λ(w:Ak)=>
 AB (MZ q w) λ(A:Bool)=>
 if(!A) then(
 some (.inr (.ext false))
 ) else(
 AB (AR .i64 (j+1)) λ(B:Int)=>
 some (.inl B)
 )
 ) else(
 some (.inr (.nrm ()))
 )
def Mq(j:List Ak)(l:List Ak):Option (Bool):=
 if(!((j.length:Int)=(l.length:Int))) then(
 some false
 ) else(
 Aw (iter (λ(a:Int)=>M6 j l a) 0) λ(m:Unit)=>
 some true
 )
def Mx(q:List Aj)(w:List Aj)(j:Int):Option (Int ⊕ (Ar Unit Bool)):=
 if(decide (j<(q.length:Int))) then(
 AB (AL q j) λ(l:Aj)=>
 AB (AL w j) λ(m:Aj)=>
 if(!((l.Row=m.Row)&&((l.Col=m.Col)&&((l.H=m.H)&&((l.W=m.W)&&true))))) then(
 some (.inr (.ext false))
 ) else(
 AB (AR .i64 (j+1)) λ(A:Int)=>
 some (.inl A)
 )
 ) else(
 some (.inr (.nrm ()))
 )
def Mi(j:List Aj)(l:List Aj):Option (Bool):=
 if(!((j.length:Int)=(l.length:Int))) then(
 some false
 ) else(
 Aw (iter (λ(a:Int)=>Mx j l a) 0) λ(m:Unit)=>
 some true
 )
def Mt(j:Av)(l:Av):Option (Bool):=
 AB (gd (((j.Rows=l.Rows)&&(j.Cols=l.Cols))==true) (Mq j.Cells l.Cells)) λ(m:Bool)=>
 AB (gd ((((j.Rows=l.Rows)&&(j.Cols=l.Cols))&&m)==true) (Mi j.Merges l.Merges)) λ(q:Bool)=>
 some ((((j.Rows=l.Rows)&&(j.Cols=l.Cols))&&m)&&q)
def Nu(q:List At)(w:List At)(m:Int):Option (Int ⊕ (Ar Unit Bool)):=
 if(decide (m<(q.length:Int))) then(
 AB (AL q m) λ(j:At)=>
 AB (AL w m) λ(l:At)=>
 if(!((j.Clock=l.Clock)&&((j.Site=l.Site)&&((j.Kind=l.Kind)&&((j.Item=l.Item)&&((j.Parent=l.Parent)&&((j.Place=l.Place)&&((j.Name=l.Name)&&((j.Value=l.Value)&&true))))))))) then(
 some (.inr (.ext false))
 ) else(
 AB (AR .i64 (m+1)) λ(A:Int)=>
 some (.inl A)
 )
 ) else(
 some (.inr (.nrm ()))
 )
def Nz(j:List At)(l:List At):Option (Bool):=
 if(!((j.length:Int)=(l.length:Int))) then(
 some false
 ) else(
 Aw (iter (λ(a:Int)=>Nu j l a) 0) λ(m:Unit)=>
 some true
 )
def NY(j:AK)(l:AK):Option (Bool):=
 AB (gd (((j.ID=l.ID)&&(j.Kind=l.Kind))==true) (Jm j.Attrs l.Attrs)) λ(m:Bool)=>
 AB (gd ((((j.ID=l.ID)&&(j.Kind=l.Kind))&&m)==true) (Nd j.Flow l.Flow)) λ(q:Bool)=>
 AB (gd (((((j.ID=l.ID)&&(j.Kind=l.Kind))&&m)&&q)==true) (Mt j.Grid l.Grid)) λ(w:Bool)=>
 AB (gd ((((((j.ID=l.ID)&&(j.Kind=l.Kind))&&m)&&q)&&w)==true) (Nz j.Draw l.Draw)) λ(A:Bool)=>
 some ((((((j.ID=l.ID)&&(j.Kind=l.Kind))&&m)&&q)&&w)&&A)
def Ma(l:AM)(m:AM)(j:Int):Option (Int ⊕ (Ar Unit Bool)):=
 if(decide (j<(l.Nodes.length:Int))) then(
 AB (AL l.Nodes j) λ(q:AK)=>
 AB (AL m.Nodes j) λ(w:AK)=>
 AB (NY q w) λ(A:Bool)=>
 if(!A) then(
 some (.inr (.ext false))
 ) else(
 AB (AR .i64 (j+1)) λ(B:Int)=>
 some (.inl B)
 )
 ) else(
 some (.inr (.nrm ()))
 )
def JD(j:AM)(l:AM):Option (Bool):=
 if(!((j.Nodes.length:Int)=(l.Nodes.length:Int))) then(
 some false
 ) else(
 Aw (iter (λ(a:Int)=>Ma j l a) 0) λ(m:Unit)=>
 some true
 )
def KF:Option (Bool):=
 AB (PQ) λ(l:AM)=>
 AB (DX l) λ(j:Int)=>
 AB (
 if((decide (j=0))==true) then(
 AB (Pr) λ(m:AS)=>
 AB (P2 [m]) λ(q:AM)=>
 AB (JD l q) λ(w:Bool)=>
 some ((j=0)&&w)
 ) else(
 some ((j=0)&&false)
 )
 ) λ(A:Bool)=>
 some A
def Rs(m:List At)(w:List At)(q:Int):Option (Int ⊕ (Ar Unit Bool)):=
 if(decide (q<(m.length:Int))) then(
 AB (AL m q) λ(j:At)=>
 AB (AL w q) λ(l:At)=>
 if(!((j.Clock=l.Clock)&&((j.Site=l.Site)&&((j.Kind=l.Kind)&&((j.Item=l.Item)&&((j.Parent=l.Parent)&&((j.Place=l.Place)&&((j.Name=l.Name)&&((j.Value=l.Value)&&true))))))))) then(
 some (.inr (.ext false))
 ) else(
 AB (AR .i64 (q+1)) λ(A:Int)=>
 some (.inl A)
 )
 ) else(
 some (.inr (.nrm ()))
 )
def SV(j:List At)(l:List At):Option (Bool):=
 if(!((j.length:Int)=(l.length:Int))) then(
 some false
 ) else(
 Aw (iter (λ(a:Int)=>Rs j l a) 0) λ(m:Unit)=>
 some true
 )
def SU(j:AK)(l:AK):Option (Bool):=
 AB (gd (((j.ID=l.ID)&&(j.Kind=l.Kind))==true) (Jb j.Attrs l.Attrs)) λ(m:Bool)=>
 AB (gd ((((j.ID=l.ID)&&(j.Kind=l.Kind))&&m)==true) (RT j.Flow l.Flow)) λ(q:Bool)=>
 AB (gd (((((j.ID=l.ID)&&(j.Kind=l.Kind))&&m)&&q)==true) (Jh j.Grid l.Grid)) λ(w:Bool)=>
 AB (gd ((((((j.ID=l.ID)&&(j.Kind=l.Kind))&&m)&&q)&&w)==true) (SV j.Draw l.Draw)) λ(A:Bool)=>
 some ((((((j.ID=l.ID)&&(j.Kind=l.Kind))&&m)&&q)&&w)&&A)
def Rl(j:List AK)(m:List AK)(l:Int):Option (Int ⊕ (Ar Unit Bool)):=
 if(decide (l<(j.length:Int))) then(
 AB (AL j l) λ(q:AK)=>
 AB (AL m l) λ(w:AK)=>
 AB (SU q w) λ(A:Bool)=>
 if(!A) then(
 some (.inr (.ext false))
 ) else(
 AB (AR .i64 (l+1)) λ(B:Int)=>
 some (.inl B)
 )
 ) else(
 some (.inr (.nrm ()))
 )
def WL(j:List AK)(l:List AK):Option (Bool):=
 if(!((j.length:Int)=(l.length:Int))) then(
 some false
 ) else(
 Aw (iter (λ(a:Int)=>Rl j l a) 0) λ(m:Unit)=>
 some true
 )
def WJ(j:AM)(l:AM):Option (Bool):=
 AB (WL j.Nodes l.Nodes) λ(m:Bool)=>
 some m
def Jz(m:List Ak)(l:Int)(g2:Av):Option ((Int × Av) ⊕ Av):=
 if(decide (l<(m.length:Int))) then(
 AB (AL g2.Cells l) λ(j:Ak)=>
 AB (app 32 [] j.Attrs) λ(q:List AG)=>
 AB (AR .i64 (l+1)) λ(w:Int)=>
 some (.inl (w,(Av.mk g2.Rows g2.Cols (g2.Cells.set l.toNat (Ak.mk j.Row j.Col j.Text j.Ref q)) g2.Merges)))
 ) else(
 some (.inr g2)
 )
def LV(n1:AK):Option (AK):=
 AB (app 32 [] n1.Attrs) λ(l:List AG)=>
 AB (NS n1.Flow) λ(m:List AS)=>
 AB (app 88 [] n1.Draw) λ(q:List At)=>
 AB (app 32 [] n1.Grid.Merges) λ(w:List Aj)=>
 AB (app 64 [] n1.Grid.Cells) λ(j:List Ak)=>
 AB (iter (λ(a:Int × Av)=>Jz j a.1 a.2) (0,(Av.mk n1.Grid.Rows n1.Grid.Cols j w))) λ(g4:Av)=>
 some (AK.mk n1.ID n1.Kind l m g4 q)
def Lw(d1:AM)(l:Int)(j:Int):Option (Int ⊕ (Ar Unit Int)):=
 if(decide (j<(d1.Nodes.length:Int))) then(
 AB (AL d1.Nodes j) λ(m:AK)=>
 if(decide (m.ID=l)) then(
 some (.inr (.ext j))
 ) else(
 AB (AR .i64 (j+1)) λ(q:Int)=>
 some (.inl q)
 )
 ) else(
 some (.inr (.nrm ()))
 )
def H8(d1:AM)(j:Int):Option (Int):=
 Aw (iter (λ(a:Int)=>Lw d1 j a) 0) λ(l:Unit)=>
 some (-1)
def Pm(j:Int):Option (Int):=
 some (E6 .i64 j 16)
end
noncomputable section
def Kc(j:Int):Option (Bool):=
 some ((((j=1)||(j=3))||(j=4))||(j=12))
def NI(j:Int)(l:Int):Option (Bool):=
 AB (
 if(decide (l=1)) then(
 some (decide (l=1))
 ) else(
 if(decide (l=6)) then(
 some (decide (l=6))
 ) else(
 if(decide (l=7)) then(
 some (decide (l=7))
 ) else(
 if(decide (l=11)) then(
 some (decide (l=11))
 ) else(
 some (decide (l=12))
 )
 )
 )
 )
 ) λ(m:Bool)=>
 if m then(
 some (decide (j=0))
 ) else(
 if(decide (l=10)) then(
 some (((j=0)||(j=1))||(j=3))
 ) else(
 if(decide (l=2)) then(
 some (decide (j=1))
 ) else(
 if(decide (l=4)) then(
 some ((j=1)||(j=3))
 ) else(
 if(decide (l=5)) then(
 AB (Kc j) λ(q:Bool)=>
 some q
 ) else(
 if(decide (l=3)) then(
 some (decide (j=2))
 ) else(
 AB (
 if(decide (l=8)) then(
 some (decide (l=8))
 ) else(
 some (decide (l=9))
 )
 ) λ(w:Bool)=>
 if w then(
 some (decide (j=7))
 ) else(
 some false
 )
 )
 )
 )
 )
 )
 )
def O4(j:Int):Option (Bool):=
 some ((j=0)||(j=7))
def Mn(j:Av):Option (Bool):=
 some ((((j.Rows=0)&&(j.Cols=0))&&((j.Cells.length:Int)=0))&&((j.Merges.length:Int)=0))
def MC(j:Int):Option (Bool):=
 some ((j=2)||(j=6))
def Pq(j:Int):Option (Bool):=
 some (((j=8)||(j=9))||(j=10))
def Px(j:List UInt8):Option (Bool):=
 Ok j
def E2(l:List UInt8)(j:(Nat)):Option ((Nat) ⊕ (Ar Unit Bool)):=
 if(decide (j<l.length)) then(
 AB (gd ((decide (((Fk l j).1:Int)=10))==false) (KC (IntKind.i64.wrap ((Fk l j).1:Int)))) λ(m:Bool)=>
 if((((Fk l j).1:Int)=10)||(!m)) then(
 some (.inr (.ext false))
 ) else(
 some (.inl (j+(Fk l j).2))
 )
 ) else(
 some (.inr (.nrm ()))
 )
def OD(j:List UInt8):Option (Bool):=
 AB (Px j) λ(l:Bool)=>
 if(!l) then(
 some false
 ) else(
 Aw (iter (λ(a:(Nat))=>E2 j a) 0) λ(m:Unit)=>
 some true
 )
def NF(j:Ak):Option (Bool):=
 some (((j.Text=[])&&(j.Ref=0))&&((j.Attrs.length:Int)=0))
def Mj(B:List Ak)(q:Int)(w:Int)(l:Bool)(m:Int):Option (Int ⊕ (Ar Unit Int)):=
 if(decide (m<(B.length:Int))) then(
 AB (AL B m) λ(j:Ak)=>
 AB (AR .i64 (q-1)) λ(M:Int)=>
 AB (CW j.Row 0 M) λ(C:Bool)=>
 AB (gd ((!C)==false) (AR .i64 (w-1))) λ(O:Int)=>
 AB (gd ((!C)==false) (CW j.Col 0 O)) λ(I:Bool)=>
 AB (gd (((!C)||(!I))==false) (CW j.Ref 0 1073741824)) λ(T:Bool)=>
 if(((!C)||(!I))||(!T)) then(
 some (.inr (.ext 2))
 ) else(
 AB (OD j.Text) λ(U:Bool)=>
 if(!U) then(
 some (.inr (.ext 23))
 ) else(
 AB (JR j.Attrs false) λ(J:Int)=>
 if(!(J=0)) then(
 some (.inr (.ext J))
 ) else(
 AB (gd ((!l)==true) (NF j)) λ(V:Bool)=>
 if((!l)&&V) then(
 some (.inr (.ext 4))
 ) else(
 AB (gd ((decide (0<m))==true) (AR .i64 (m-1))) λ(X:Int)=>
 AB (gd ((decide (0<m))==true) (AL B X)) λ(A:Ak)=>
 AB (gd ((((decide (0<m))==true)&&((decide (j.Row<A.Row))==false))&&((decide (j.Row=A.Row))==true)) (AR .i64 (m-1))) λ(Z:Int)=>
 AB (gd ((((decide (0<m))==true)&&((decide (j.Row<A.Row))==false))&&((decide (j.Row=A.Row))==true)) (AL B Z)) λ(E:Ak)=>
 if((0<m)&&((j.Row<A.Row)||((j.Row=A.Row)&&(j.Col≤E.Col)))) then(
 some (.inr (.ext 5))
 ) else(
 AB (AR .i64 (m+1)) λ(F:Int)=>
 some (.inl F)
 )
 )
 )
 )
 )
 ) else(
 some (.inr (.nrm ()))
 )
def M5(q:List Ak)(j:Int)(l:Int)(m:Bool):Option (Int):=
 Aw (iter (λ(a:Int)=>Mj q j l m a) 0) λ(w:Unit)=>
 some 0
def Mm(q:Aj)(j:Int)(l:Int):Option (Bool):=
 AB (AR .i64 (j-1)) λ(B:Int)=>
 AB (CW q.Row 0 B) λ(m:Bool)=>
 AB (gd (m==true) (AR .i64 (l-1))) λ(C:Int)=>
 AB (gd (m==true) (CW q.Col 0 C)) λ(w:Bool)=>
 AB (gd ((m&&w)==true) (AR .i64 (j-q.Row))) λ(E:Int)=>
 AB (gd ((m&&w)==true) (CW q.H 1 E)) λ(A:Bool)=>
 AB (gd (((m&&w)&&A)==true) (AR .i64 (l-q.Col))) λ(F:Int)=>
 AB (gd (((m&&w)&&A)==true) (CW q.W 1 F)) λ(I:Bool)=>
 some (((m&&w)&&A)&&I)
def Nl(j:Aj)(l:Aj):Option (Bool):=
 AB (AR .i64 (j.Row+j.H)) λ(m:Int)=>
 AB (AR .i64 (l.Row+l.H)) λ(q:Int)=>
 AB (gd ((decide ((max j.Row l.Row)<(min m q)))==true) (AR .i64 (j.Col+j.W))) λ(w:Int)=>
 AB (gd ((decide ((max j.Row l.Row)<(min m q)))==true) (AR .i64 (l.Col+l.W))) λ(A:Int)=>
 some (((max j.Row l.Row)<(min m q))&&((max j.Col l.Col)<(min w A)))
def MD(q:Av)(w:Int)(A:Aj)(j:Int):Option (Int ⊕ (Ar Unit (Int ⊕ (Ar Unit Int)))):=
 if(decide (j<w)) then(
 AB (AL q.Merges j) λ(l:Aj)=>
 AB (Nl A l) λ(B:Bool)=>
 if B then(
 some (.inr (.ext (.inr (.ext 21))))
 ) else(
 AB (AR .i64 (j+1)) λ(m:Int)=>
 some (.inl m)
 )
 ) else(
 some (.inr (.nrm ()))
 )
def Mv(m:Av)(j:Int):Option (Int ⊕ (Ar Unit Int)):=
 if(decide (j<(m.Merges.length:Int))) then(
 AB (AL m.Merges j) λ(l:Aj)=>
 AB (Mm l m.Rows m.Cols) λ(A:Bool)=>
 if(!A) then(
 some (.inr (.ext 2))
 ) else(
 if((l.H=1)&&(l.W=1)) then(
 some (.inr (.ext 4))
 ) else(
 AB (gd ((decide (0<j))==true) (AR .i64 (j-1))) λ(B:Int)=>
 AB (gd ((decide (0<j))==true) (AL m.Merges B)) λ(q:Aj)=>
 AB (gd ((((decide (0<j))==true)&&((decide (l.Row<q.Row))==false))&&((decide (l.Row=q.Row))==true)) (AR .i64 (j-1))) λ(C:Int)=>
 AB (gd ((((decide (0<j))==true)&&((decide (l.Row<q.Row))==false))&&((decide (l.Row=q.Row))==true)) (AL m.Merges C)) λ(E:Aj)=>
 if((0<j)&&((l.Row<q.Row)||((l.Row=q.Row)&&(l.Col≤E.Col)))) then(
 some (.inr (.ext 5))
 ) else(
 Aw (iter (λ(a:Int)=>MD m j l a) 0) λ(F:Unit)=>
 AB (AR .i64 (j+1)) λ(w:Int)=>
 some (.inl w)
 )
 )
 )
 ) else(
 some (.inr (.nrm ()))
 )
def Nh(j:Av):Option (Int):=
 AB (CW j.Rows 0 2147483647) λ(l:Bool)=>
 AB (gd ((!l)==false) (CW j.Cols 0 2147483647)) λ(q:Bool)=>
 if((!l)||(!q)) then(
 some 2
 ) else(
 AB (M5 j.Cells j.Rows j.Cols false) λ(m:Int)=>
 if(!(m=0)) then(
 some m
 ) else(
 Aw (iter (λ(a:Int)=>Mv j a) 0) λ(w:Unit)=>
 some 0
 )
 )
def Nw(j:Int)(q:List Ak)(l:Int):Option (Int ⊕ (Ar Unit Int)):=
 if(decide (l<(q.length:Int))) then(
 AB (gd ((decide (j=2))==true) (AL q l)) λ(m:Ak)=>
 AB (gd ((((j=2)&&((!(m.Text=[]))||(0<(m.Attrs.length:Int))))==false)&&((decide (j=6))==true)) (AL q l)) λ(w:Ak)=>
 if(((j=2)&&((!(m.Text=[]))||(0<(m.Attrs.length:Int))))||((j=6)&&(!(w.Ref=0)))) then(
 some (.inr (.ext 4))
 ) else(
 AB (AR .i64 (l+1)) λ(A:Int)=>
 some (.inl A)
 )
 ) else(
 some (.inr (.nrm ()))
 )
def OG(j:Int)(l:List Ak):Option (Int):=
 Aw (iter (λ(a:Int)=>Nw j l a) 0) λ(m:Unit)=>
 some 0
def Ja(m:List UInt8)(l:Int):Option (Int ⊕ (Ar Unit Bool)):=
 if(decide (l<(m.length:Int))) then(
 AB (AL m l) λ(j:UInt8)=>
 if(((j.toNat:Int)<97)||(122<(j.toNat:Int))) then(
 some (.inr (.ext false))
 ) else(
 AB (AR .i64 (l+1)) λ(q:Int)=>
 some (.inl q)
 )
 ) else(
 some (.inr (.nrm ()))
 )
def OE(j:List UInt8):Option (Bool):=
 Aw (iter (λ(a:Int)=>Ja j a) 0) λ(q:Unit)=>
 AB (gd (((1≤(j.length:Int))&&((j.length:Int)≤200))==true) (AR .i64 ((j.length:Int)-1))) λ(m:Int)=>
 AB (gd (((1≤(j.length:Int))&&((j.length:Int)≤200))==true) (AL j m)) λ(l:UInt8)=>
 some (((1≤(j.length:Int))&&((j.length:Int)≤200))&&(!((l.toNat:Int)=97)))
def LS(j:At)(l:At):Option (Bool):=
 some ((j.Clock<l.Clock)||((j.Clock=l.Clock)&&(j.Site<l.Site)))
def L3(m:List At)(l:Int):Option (Int ⊕ (Ar Unit Int)):=
 if(decide (l<(m.length:Int))) then(
 AB (AL m l) λ(j:At)=>
 if((!(j.Kind=0))&&(!(j.Kind=1))) then(
 some (.inr (.ext 8))
 ) else(
 AB (CW j.Clock 1 1073741824) λ(q:Bool)=>
 AB (gd ((!q)==false) (CW j.Site 0 1000)) λ(w:Bool)=>
 AB (gd (((!q)||(!w))==false) (CW j.Item 1 1073741824)) λ(A:Bool)=>
 if(((!q)||(!w))||(!A)) then(
 some (.inr (.ext 2))
 ) else(
 Aw (
 if(decide (j.Kind=0)) then(
 if((!(j.Name=[]))||(!(j.Value=[]))) then(
 some (.ext (.inr (.ext 4)))
 ) else(
 AB (CW j.Parent (-1) 1073741824) λ(B:Bool)=>
 if(!B) then(
 some (.ext (.inr (.ext 2)))
 ) else(
 AB (OE j.Place) λ(C:Bool)=>
 if(!C) then(
 some (.ext (.inr (.ext 9)))
 ) else(
 some (.nrm ())
 )
 )
 )
 ) else(
 if((!(j.Parent=0))||(!(j.Place=[]))) then(
 some (.ext (.inr (.ext 4)))
 ) else(
 AB (LP j.Name) λ(E:Bool)=>
 if(!E) then(
 some (.ext (.inr (.ext 9)))
 ) else(
 AB (gd ((!(j.Value=[]))==true) (Kl j.Value)) λ(F:Bool)=>
 if((!(j.Value=[]))&&(!F)) then(
 some (.ext (.inr (.ext 23)))
 ) else(
 some (.nrm ())
 )
 )
 )
 )
 ) λ(T:Unit)=>
 AB (gd ((decide (0<l))==true) (AR .i64 (l-1))) λ(I:Int)=>
 AB (gd ((decide (0<l))==true) (AL m I)) λ(J:At)=>
 AB (gd ((decide (0<l))==true) (LS J j)) λ(M:Bool)=>
 if((0<l)&&(!M)) then(
 some (.inr (.ext 5))
 ) else(
 AB (AR .i64 (l+1)) λ(O:Int)=>
 some (.inl O)
 )
 )
 )
 ) else(
 some (.inr (.nrm ()))
 )
def N3(j:List At):Option (Int):=
 Aw (iter (λ(a:Int)=>L3 j a) 0) λ(l:Unit)=>
 some 0
def Mk(n1:AK):Option (Int):=
 AB (CW n1.ID 1 1073741824) λ(F:Bool)=>
 if(!F) then(
 some 2
 ) else(
 AB (CW n1.Kind 0 12) λ(I:Bool)=>
 if(((!I)||((n1.ID=1)&&(!(n1.Kind=0))))||((!(n1.ID=1))&&(n1.Kind=0))) then(
 some 8
 ) else(
 AB (JR n1.Attrs false) λ(B:Int)=>
 if(!(B=0)) then(
 some B
 ) else(
 AB (Kc n1.Kind) λ(j:Bool)=>
 AB (gd (j==false) (O4 n1.Kind)) λ(l:Bool)=>
 AB (gd (((0<(n1.Flow.length:Int))&&(!(j||l)))==false) (Mn n1.Grid)) λ(m:Bool)=>
 AB (gd ((((0<(n1.Flow.length:Int))&&(!(j||l)))==false)&&((!m)==true)) (MC n1.Kind)) λ(C:Bool)=>
 AB (gd (((((0<(n1.Flow.length:Int))&&(!(j||l)))||((!m)&&(!C)))==false)&&((decide (0<(n1.Draw.length:Int)))==true)) (Pq n1.Kind)) λ(J:Bool)=>
 if((((0<(n1.Flow.length:Int))&&(!(j||l)))||((!m)&&(!C)))||((0<(n1.Draw.length:Int))&&(!J))) then(
 some 4
 ) else(
 if(j||l) then(
 AB (Ib n1.Flow j) λ(M:Int)=>
 some M
 ) else(
 AB (MC n1.Kind) λ(q:Bool)=>
 if q then(
 AB (Nh n1.Grid) λ(E:Int)=>
 if(!(E=0)) then(
 some E
 ) else(
 AB (OG n1.Kind n1.Grid.Cells) λ(w:Int)=>
 some w
 )
 ) else(
 AB (N3 n1.Draw) λ(A:Int)=>
 some A
 )
 )
 )
 )
 )
 )
def PX(n1:AK)(q:Int)(j:List Int):Option ((Int × (List Int)) ⊕ (List Int)):=
 if(decide (q<(n1.Grid.Cells.length:Int))) then(
 AB (
 AB (AL n1.Grid.Cells q) λ(w:Ak)=>
 if(!(w.Ref=0)) then(
 AB (app 8 j [w.Ref]) λ(l:List Int)=>
 some l
 ) else(
 some j
 )
 ) λ(m:List Int)=>
 AB (AR .i64 (q+1)) λ(A:Int)=>
 some (.inl (A,m))
 ) else(
 some (.inr j)
 )
def OW(n1:AK)(w:Int)(j:List Int):Option ((Int × (List Int)) ⊕ (List Int)):=
 if(decide (w<(n1.Flow.length:Int))) then(
 AB (
 AB (AL n1.Flow w) λ(q:AS)=>
 if(!(q.Ref=0)) then(
 AB (app 8 j [q.Ref]) λ(l:List Int)=>
 some l
 ) else(
 some j
 )
 ) λ(m:List Int)=>
 AB (AR .i64 (w+1)) λ(A:Int)=>
 some (.inl (A,m))
 ) else(
 some (.inr j)
 )
def M0(n1:AK):Option ((List Int)):=
 AB (iter (λ(a:Int × (List Int))=>OW n1 a.1 a.2) (0,[])) λ(j:List Int)=>
 AB (iter (λ(a:Int × (List Int))=>PX n1 a.1 a.2) (0,j)) λ(l:List Int)=>
 some l
def Ki(d1:AM)(j:Int)(F1:List Int)(l:Int):Option (Int ⊕ (Ar Unit Int)):=
 if(decide (l<(F1.length:Int))) then(
 AB (AL F1 l) λ(q:Int)=>
 AB (H8 d1 q) λ(m:Int)=>
 if(decide (m<0)) then(
 some (.inr (.ext 7))
 ) else(
 AB (AL d1.Nodes m) λ(w:AK)=>
 AB (NI j w.Kind) λ(A:Bool)=>
 if(!A) then(
 some (.inr (.ext 8))
 ) else(
 AB (AR .i64 (l+1)) λ(B:Int)=>
 some (.inl B)
 )
 )
 ) else(
 some (.inr (.nrm ()))
 )
def L1(d1:AM)(j:Int)(F1:List Int):Option (Int):=
 Aw (iter (λ(a:Int)=>Ki d1 j F1 a) 0) λ(l:Unit)=>
 some 0
def JQ(d1:AM)(j:Int):Option (Int ⊕ (Ar Unit Int)):=
 if(decide (j<(d1.Nodes.length:Int))) then(
 AB (AL d1.Nodes j) λ(l:AK)=>
 AB (M0 l) λ(q:List Int)=>
 AB (L1 d1 l.Kind q) λ(m:Int)=>
 if(!(m=0)) then(
 some (.inr (.ext m))
 ) else(
 AB (AR .i64 (j+1)) λ(w:Int)=>
 some (.inl w)
 )
 ) else(
 some (.inr (.nrm ()))
 )
def KX(d1:AM)(j:Int):Option (Int ⊕ (Ar Unit Int)):=
 if(decide (j<(d1.Nodes.length:Int))) then(
 AB (AL d1.Nodes j) λ(A:AK)=>
 AB (Mk A) λ(B:Int)=>
 if(!(B=0)) then(
 some (.inr (.ext B))
 ) else(
 AB (gd ((decide (j=0))==true) (AL d1.Nodes 0)) λ(l:AK)=>
 AB (gd ((((j=0)&&(!(l.ID=1)))==false)&&((decide (0<j))==true)) (AR .i64 (j-1))) λ(m:Int)=>
 AB (gd ((((j=0)&&(!(l.ID=1)))==false)&&((decide (0<j))==true)) (AL d1.Nodes m)) λ(q:AK)=>
 if(((j=0)&&(!(l.ID=1)))||((0<j)&&(A.ID≤q.ID))) then(
 some (.inr (.ext 5))
 ) else(
 AB (AR .i64 (j+1)) λ(w:Int)=>
 some (.inl w)
 )
 )
 ) else(
 some (.inr (.nrm ()))
 )
def Lc(d1:AM):Option (Int):=
 if(decide ((d1.Nodes.length:Int)=0)) then(
 some 11
 ) else(
 Aw (iter (λ(a:Int)=>KX d1 a) 0) λ(j:Unit)=>
 Aw (iter (λ(a:Int)=>JQ d1 a) 0) λ(l:Unit)=>
 some 0
 )
end
noncomputable section
def IJ(w:Av)(j:Int)(l:Int)(q:Int):Option (Int ⊕ (Ar Unit Aj)):=
 if(decide (q<(w.Merges.length:Int))) then(
 AB (AL w.Merges q) λ(m:Aj)=>
 AB (gd ((decide (m.Row≤j))==true) (AR .i64 (j-m.Row))) λ(A:Int)=>
 AB (gd ((((m.Row≤j)&&(A<m.H))&&(m.Col≤l))==true) (AR .i64 (l-m.Col))) λ(B:Int)=>
 if((((m.Row≤j)&&(A<m.H))&&(m.Col≤l))&&(B<m.W)) then(
 some (.inr (.ext m))
 ) else(
 AB (AR .i64 (q+1)) λ(C:Int)=>
 some (.inl C)
 )
 ) else(
 some (.inr (.nrm ()))
 )
def Fd(m:Av)(j:Int)(l:Int):Option (Aj):=
 Aw (iter (λ(a:Int)=>IJ m j l a) 0) λ(q:Unit)=>
 some (Aj.mk j l 1 1)
def IN(A:Av)(l:Int)(m:Int)(w:Int):Option (Int ⊕ (Ar Unit Aj)):=
 if(decide (w<(A.Merges.length:Int))) then(
 AB (AL A.Merges w) λ(j:Aj)=>
 AB (AR .i64 (j.Row+j.H)) λ(B:Int)=>
 AB (AR .i64 (B-1)) λ(C:Int)=>
 AB (CW l j.Row C) λ(q:Bool)=>
 AB (gd (q==true) (AR .i64 (j.Col+j.W))) λ(E:Int)=>
 AB (gd (q==true) (AR .i64 (E-1))) λ(F:Int)=>
 AB (gd (q==true) (CW m j.Col F)) λ(I:Bool)=>
 if(q&&I) then(
 some (.inr (.ext j))
 ) else(
 AB (AR .i64 (w+1)) λ(J:Int)=>
 some (.inl J)
 )
 ) else(
 some (.inr (.nrm ()))
 )
def MP(m:Av)(j:Int)(l:Int):Option (Aj):=
 Aw (iter (λ(a:Int)=>IN m j l a) 0) λ(q:Unit)=>
 some (Aj.mk j l 1 1)
end
noncomputable section
structure AC where
 Item:Int
 Parent:Int
 Place:List UInt8
 Attrs:List AG
deriving DecidableEq
instance:Inhabited AC:=⟨⟨0,0,[],[]⟩⟩
@[reducible] def AC.row(x:AC):List RV:=[.int .i64 x.Item,.int .i64 x.Parent,.str x.Place,.sl (x.Attrs.map AG.row)]
end
noncomputable section
structure fk where
 Node:Int
 From:Int
 To:Int
deriving DecidableEq
instance:Inhabited fk:=⟨⟨0,0,0⟩⟩
structure YX where
 node:AK
 shown:List Int
 author:List UInt8
deriving DecidableEq
instance:Inhabited YX:=⟨⟨(AK.mk 0 0 [] [] (Av.mk 0 0 [] []) []),[],[]⟩⟩
end
noncomputable section
def HM(d1:AM)(l:Int)(j:Int)(q:Int):Option ((Int × Int) ⊕ Int):=
 if(decide (q<(d1.Nodes.length:Int))) then(
 AB (
 AB (AL d1.Nodes q) λ(w:AK)=>
 AB (Pm w.ID) λ(A:Int)=>
 if(decide (A=l)) then(
 some w.ID
 ) else(
 some j
 )
 ) λ(m:Int)=>
 AB (AR .i64 (q+1)) λ(B:Int)=>
 some (.inl (m,B))
 ) else(
 some (.inr j)
 )
def Fe(d1:AM)(j:Int):Option (Int × Int):=
 AB (DX d1) λ(m:Int)=>
 if(!(m=0)) then(
 some (0,m)
 ) else(
 if((j<0)||(1000<j)) then(
 some (0,2)
 ) else(
 AB (iter (λ(a:Int × Int)=>HM d1 j a.1 a.2) ((Ct .i64 j 16),0)) λ(l:Int)=>
 if(decide ((B5 .i64 l 65535)=65535)) then(
 some (0,18)
 ) else(
 AB (AR .i64 (l+1)) λ(q:Int)=>
 some (q,0)
 )
 )
 )
end
noncomputable section
def GF(m:List (Int × AC))(l:Int)(j:Int):Option (Int ⊕ (Ar Unit Bool)):=
 if(decide (0<j)) then(
 if(decide (j=l)) then(
 some (.inr (.ext true))
 ) else(
 if(!((AU m j).isSome)) then(
 some (.inr (.ext false))
 ) else(
 AB (AU m j) λ(q:AC)=>
 some (.inl q.Parent)
 )
 )
 ) else(
 some (.inr (.nrm ()))
 )
def NO(m:List (Int × AC))(m2:List (Int × (List AG)))(j:Int)(l:Int):Option (Bool):=
 Aw (iter (λ(a:Int)=>GF m l a) j) λ(q:Unit)=>
 some false
def Hr(A:List At)(q:Int)(m:List (Int × AC))(l:List (Int × (List AG))):Option ((Int × (List (Int × AC)) × (List (Int × (List AG)))) ⊕ ((List (Int × AC)) × (List (Int × (List AG))))):=
 if(decide (q<(A.length:Int))) then(
 Bw (
 AB (AL A q) λ(j:At)=>
 if(decide (j.Kind=1)) then(
 AB (KG ((AU l j.Item).getD []) [(AG.mk j.Name j.Value)]) λ(B:List AG)=>
 some (m,(Ai l j.Item B))
 ) else(
 AB (NO m l j.Parent j.Item) λ(C:Bool)=>
 if(!C) then(
 some ((Ai m j.Item (AC.mk j.Item j.Parent j.Place [])),l)
 ) else(
 some (m,l)
 )
 )
 ) λ(E:List (Int × AC)) (w:List (Int × (List AG)))=>
 AB (AR .i64 (q+1)) λ(F:Int)=>
 some (.inl (F,E,w))
 ) else(
 some (.inr (m,l))
 )
def KR(j:List At):Option ((List (Int × AC)) × (List (Int × (List AG)))):=
 Bw (iter (λ(a:Int × (List (Int × AC)) × (List (Int × (List AG))))=>Hr j a.1 a.2.1 a.2.2) (0,[],[])) λ(l:List (Int × AC)) (m:List (Int × (List AG)))=>
 some (l,m)
def MO(j:List UInt8):Option (Bool):=
 some (!(j=j))
def Lu(m:List UInt8)(q:List UInt8):Option (Int):=
 AB (MO m) λ(l:Bool)=>
 AB (MO q) λ(j:Bool)=>
 if l then(
 if j then(
 some 0
 ) else(
 some (-1)
 )
 ) else(
 if j then(
 some 1
 ) else(
 if(Au m q) then(
 some (-1)
 ) else(
 if(!(Au m q||(m=q))) then(
 some 1
 ) else(
 some 0
 )
 )
 )
 )
def JM(j:AC)(l:AC):Option (Int):=
 AB (Lu j.Place l.Place) λ(m:Int)=>
 AB (Fm j.Item l.Item) λ(q:Int)=>
 AB (G4 [m,q]) λ(w:Int)=>
 some w
def Fj(j:Int)(self:(List (Int × (List AC)))→(List AC)→(List (Int × Bool))→Int→Option ((List (Int × (List AC))) × (List AC) × (List (Int × Bool))))(A:List (Int × List AC))(l:Int)(o2:List AC)(m:List (Int × (List AC)))(w:List (Int × Bool)):Option ((Int × (List AC) × (List (Int × (List AC))) × (List (Int × Bool))) ⊕ (Ar Unit ((List (Int × (List AC))) × (List AC) × (List (Int × Bool))))):=
 if(decide (l<(((AU A j).getD []).length:Int))) then(
 AB (AL ((AU m j).getD []) l) λ(q:AC)=>
 AB (app 56 o2 [q]) λ(B:List AC)=>
 CN (self m B (Ai w q.Item true) q.Item) λ(C:List (Int × (List AC))) (E:List AC) (F:List (Int × Bool))=>
 AB (AR .i64 (l+1)) λ(I:Int)=>
 some (.inl (I,E,C,F))
 ) else(
 some (.inr (.ext (m,o2,w)))
 )
def IM(self:(List (Int × (List AC)))→(List AC)→(List (Int × Bool))→Int→Option ((List (Int × (List AC))) × (List AC) × (List (Int × Bool))))(m:List (Int × (List AC)))(q:List AC)(m2:List (Int × Bool))(j:Int):Option ((List (Int × (List AC))) × (List AC) × (List (Int × Bool))):=
 AB (I8 JM m j) λ(l:List (Int × List AC))=>
 Aw (iter (λ(a:Int × (List AC) × (List (Int × (List AC))) × (List (Int × Bool)))=>Fj j self l a.1 a.2.1 a.2.2.1 a.2.2.2) (0,q,l,m2)) λ(w:Unit)=>
 none
def DW:Nat→(List (Int × (List AC)))→(List AC)→(List (Int × Bool))→Int→Option ((List (Int × (List AC))) × (List AC) × (List (Int × Bool)))
 | 0,_,_,_,_=>none
 | n+1,l,m,m2,j=>IM (λl m m2 j=>DW n l m m2 j) l m m2 j
def MW(l:List (Int × (List AC)))(m:List AC)(m2:List (Int × Bool))(j:Int):Option ((List (Int × (List AC))) × (List AC) × (List (Int × Bool))):=
 @dite _ (∃n r,DW n l m m2 j=some r) (Classical.propDecidable _) (λh=>DW h.choose l m m2 j) (λ_=>none)
def Ms(j:AC)(l:AC):Option (Int):=
 AB (Fm j.Item l.Item) λ(m:Int)=>
 some m
def Ga(m:List (Int × (List AG)))(q:List AC)(A:List (Int × AC))(B:List (Int × (List AC)))(l:Int):Option ((List AC) × (List (Int × AC)) × (List (Int × (List AC)))):=
 AB (AU A l) λ(j:AC)=>
 AB (app 56 ((AU B ((AC.mk j.Item j.Parent j.Place ((AU m l).getD [])).Parent)).getD []) [(AC.mk j.Item j.Parent j.Place ((AU m l).getD []))]) λ(C:List AC)=>
 AB (app 56 q [(AC.mk j.Item j.Parent j.Place ((AU m l).getD []))]) λ(w:List AC)=>
 some (w,(Ai A l (AC.mk j.Item j.Parent j.Place ((AU m l).getD []))),(Ai B ((AC.mk j.Item j.Parent j.Place ((AU m l).getD [])).Parent) C))
def HW(A:List (Int × Bool))(q:List AC)(m:Int)(j:List AC):Option ((Int × (List AC)) ⊕ (List AC)):=
 if(decide (m<(q.length:Int))) then(
 AB (
 AB (AL q m) λ(w:AC)=>
 if(!((AU A w.Item).getD false)) then(
 AB (app 56 j [w]) λ(B:List AC)=>
 some B
 ) else(
 some j
 )
 ) λ(l:List AC)=>
 AB (AR .i64 (m+1)) λ(C:Int)=>
 some (.inl (C,l))
 ) else(
 some (.inr j)
 )
def MR(m:List At):Option ((List AC)):=
 Bw (KR m) λ(q:List (Int × AC)) (w:List (Int × (List AG)))=>
 KT (λ(a:(List AC) × (List (Int × AC)) × (List (Int × (List AC))))=>a.2.1.map (·.1)) (λ(a:(List AC) × (List (Int × AC)) × (List (Int × (List AC)))) (A:Int)=>Ga w a.1 a.2.1 a.2.2 A) ([],q,[]) λ(a:(List AC) × (List (Int × AC)) × (List (Int × (List AC))))=>
 CN (some a) λ(j:List AC) (I:List (Int × AC)) (B:List (Int × (List AC)))=>
 CN (MW B [] ([]:List (Int × Bool)) 0) λ(J:List (Int × (List AC))) (C:List AC) (E:List (Int × Bool))=>
 AB (Gn Ms j) λ(F:List AC)=>
 AB (iter (λ(a:Int × (List AC))=>HW E F a.1 a.2) (0,C)) λ(l:List AC)=>
 some l
def G5(m:List AC)(j:Int)(l:Int):Option (Int ⊕ (Ar Unit Int)):=
 if(decide (l<(m.length:Int))) then(
 AB (AL m l) λ(q:AC)=>
 if(decide (q.Item=j)) then(
 some (.inr (.ext l))
 ) else(
 AB (AR .i64 (l+1)) λ(w:Int)=>
 some (.inl w)
 )
 ) else(
 some (.inr (.nrm ()))
 )
def Hu(l:List AC)(j:Int):Option (Int):=
 Aw (iter (λ(a:Int)=>G5 l j a) 0) λ(m:Unit)=>
 some (-1)
def F7(m:List AC)(l:Int)(A:Int)(j:Int)(q:Int):Option ((Int × Int) ⊕ (Ar Unit Bool)):=
 if(decide (q<A)) then(
 if(decide (j=l)) then(
 some (.inr (.ext true))
 ) else(
 AB (Hu m j) λ(w:Int)=>
 if(decide (w<0)) then(
 some (.inr (.ext false))
 ) else(
 AB (AL m w) λ(B:AC)=>
 AB (AR .i64 (q+1)) λ(C:Int)=>
 some (.inl (B.Parent,C))
 )
 )
 ) else(
 some (.inr (.nrm ()))
 )
def Ks(m:List AC)(j:Int)(l:Int):Option (Bool):=
 AB (AR .i64 ((m.length:Int)+1)) λ(q:Int)=>
 Aw (iter (λ(a:Int × Int)=>F7 m l q a.1 a.2) (j,0)) λ(w:Unit)=>
 some false
def G8(m:List AC)(l:List AC)(w:Int)(j:List AC):Option ((Int × (List AC)) ⊕ (List AC)):=
 if(decide (w<(m.length:Int))) then(
 AB (
 AB (AL j w) λ(A:AC)=>
 AB (Hu l A.Item) λ(B:Int)=>
 if(decide (0≤B)) then(
 AB (AL l B) λ(C:AC)=>
 some (j.set w.toNat (AC.mk A.Item A.Parent A.Place C.Attrs))
 ) else(
 some j
 )
 ) λ(q:List AC)=>
 AB (AR .i64 (w+1)) λ(E:Int)=>
 some (.inl (E,q))
 ) else(
 some (.inr j)
 )
def HT(M:List At)(I:Int)(j:List AC)(l:List AC):Option ((Int × (List AC) × (List AC)) ⊕ ((List AC) × (List AC))):=
 if(decide (I<(M.length:Int))) then(
 Bw (
 AB (AL M I) λ(m:At)=>
 if(decide (m.Kind=1)) then(
 AB (Hu l m.Item) λ(O:Int)=>
 Bw (
 if(decide (O<0)) then(
 AB (app 56 l [(AC.mk m.Item 0 [] [])]) λ(C:List AC)=>
 some ((l.length:Int),C)
 ) else(
 some (O,l)
 )
 ) λ(T:Int) (w:List AC)=>
 AB (AL w T) λ(E:AC)=>
 AB (Kd E.Attrs [(AG.mk m.Name m.Value)]) λ(X:List AG)=>
 some (j,(w.set T.toNat (AC.mk E.Item E.Parent E.Place X)))
 ) else(
 AB (gd (((decide (m.Parent=m.Item))==false)&&((decide (0<m.Parent))==true)) (Ks j m.Parent m.Item)) λ(Z:Bool)=>
 if((m.Parent=m.Item)||((0<m.Parent)&&Z)) then(
 some (j,l)
 ) else(
 AB (Hu j m.Item) λ(U:Int)=>
 Bw (
 if(decide (U<0)) then(
 AB (app 56 j [(AC.mk 0 0 [] [])]) λ(A:List AC)=>
 some ((j.length:Int),A)
 ) else(
 some (U,j)
 )
 ) λ(V:Int) (q:List AC)=>
 AB (AL q V) λ(a0:AC)=>
 some ((q.set V.toNat (AC.mk m.Item m.Parent m.Place [])),l)
 )
 )
 ) λ(B:List AC) (F:List AC)=>
 AB (AR .i64 (I+1)) λ(J:Int)=>
 some (.inl (J,B,F))
 ) else(
 some (.inr (j,l))
 )
def KQ(q:List At):Option ((List AC) × (List AC)):=
 Bw (iter (λ(a:Int × (List AC) × (List AC))=>HT q a.1 a.2.1 a.2.2) (0,[],[])) λ(j:List AC) (l:List AC)=>
 AB (iter (λ(a:Int × (List AC))=>G8 j l a.1 a.2) (0,j)) λ(m:List AC)=>
 some (m,l)
def G9(B:List AC)(m:Int)(l:List UInt8)(w:Int)(j:Int)(C:Int):Option ((Int × Int) ⊕ Int):=
 if(decide (C<(B.length:Int))) then(
 AB (
 AB (AL B C) λ(q:AC)=>
 if(((!(q.Parent=m))||(Au q.Place l))||((q.Place=l)&&(q.Item≤w))) then(
 some j
 ) else(
 AB (gd ((decide (j<0))==false) (AL B j)) λ(E:AC)=>
 AB (gd (((j<0)||(Au q.Place E.Place))==false) (AL B j)) λ(F:AC)=>
 if(((j<0)||(Au q.Place E.Place))||((q.Place=F.Place)&&(q.Item<F.Item))) then(
 some C
 ) else(
 some j
 )
 )
 ) λ(A:Int)=>
 AB (AR .i64 (C+1)) λ(I:Int)=>
 some (.inl (A,I))
 ) else(
 some (.inr j)
 )
def Fg(B:List AC)(j:Int)(self:(List AC)→(List AC)→Int→Option (List AC))(m:List UInt8)(w:Int)(q:List AC):Option (((List UInt8) × Int × (List AC)) ⊕ (Ar Unit (List AC))):=
 AB (iter (λ(a:Int × Int)=>G9 B j m w a.1 a.2) ((-1),0)) λ(l:Int)=>
 if(decide (l<0)) then(
 some (.inr (.ext q))
 ) else(
 AB (AL B l) λ(A:AC)=>
 AB (app 56 q [A]) λ(C:List AC)=>
 AB (self C B A.Item) λ(E:List AC)=>
 some (.inl (A.Place,A.Item,E))
 )
def IE(self:(List AC)→(List AC)→Int→Option (List AC))(l:List AC)(m:List AC)(j:Int):Option ((List AC)):=
 Aw (iter (λ(a:(List UInt8) × Int × (List AC))=>Fg m j self a.1 a.2.1 a.2.2) ([],0,l)) λ(q:Unit)=>
 none
def DR:Nat→(List AC)→(List AC)→Int→Option (List AC)
 | 0,_,_,_=>none
 | n+1,l,m,j=>IE (λl m j=>DR n l m j) l m j
def MS(l:List AC)(m:List AC)(j:Int):Option ((List AC)):=
 @dite _ (∃n r,DR n l m j=some r) (Classical.propDecidable _) (λh=>DR h.choose l m j) (λ_=>none)
def Ig(B:List AC)(E:List AC)(l:Int)(w:List AC)(j:Int)(A:Int):Option ((Int × Int) ⊕ Int):=
 if(decide (A<(B.length:Int))) then(
 AB (
 AB (AL B A) λ(q:AC)=>
 AB (gd ((decide (l<q.Item))==true) (C0 w 0 (E.length:Int))) λ(F:List AC)=>
 AB (gd ((decide (l<q.Item))==true) (Hu F q.Item)) λ(C:Int)=>
 AB (gd ((((l<q.Item)&&(C<0))==true)&&((decide (j<0))==false)) (AL B j)) λ(I:AC)=>
 if(((l<q.Item)&&(C<0))&&((j<0)||(q.Item<I.Item))) then(
 some A
 ) else(
 some j
 )
 ) λ(m:Int)=>
 AB (AR .i64 (A+1)) λ(J:Int)=>
 some (.inl (m,J))
 ) else(
 some (.inr j)
 )
def Hm(w:List AC)(A:List AC)(m:Int)(j:List AC):Option ((Int × (List AC)) ⊕ (Ar Unit ((List AC) × Int))):=
 AB (iter (λ(a:Int × Int)=>Ig w A m j a.1 a.2) ((-1),0)) λ(l:Int)=>
 if(decide (l<0)) then(
 some (.inr (.ext (j,(A.length:Int))))
 ) else(
 AB (AL w l) λ(B:AC)=>
 AB (app 56 j [B]) λ(q:List AC)=>
 some (.inl (B.Item,q))
 )
def JF(m:List At):Option ((List AC) × Int):=
 Bw (KQ m) λ(j:List AC) (q:List AC)=>
 AB (MS [] j 0) λ(l:List AC)=>
 Aw (iter (λ(a:Int × (List AC))=>Hm j l a.1 a.2) (0,l)) λ(w:Unit)=>
 none
def IG(j:List AC)(l:Int)(m2:List (Int × Bool)):Option ((Int × (List (Int × Bool))) ⊕ (Ar Unit Int)):=
 if(decide (l<(j.length:Int))) then(
 AB (AL j l) λ(m:AC)=>
 if(!((AU m2 m.Parent).getD false)) then(
 some (.inr (.ext l))
 ) else(
 AB (AR .i64 (l+1)) λ(q:Int)=>
 some (.inl (q,(Ai m2 m.Item true)))
 )
 ) else(
 some (.inr (.nrm ()))
 )
def Lv(j:List AC):Option (Int):=
 Aw (iter (λ(a:Int × (List (Int × Bool)))=>IG j a.1 a.2) (0,(Ai ([]:List (Int × Bool)) 0 true))) λ(l:Unit)=>
 some (j.length:Int)
end
noncomputable section
end
noncomputable section
structure Af where
 id:Int
 parent:Int
 visible:Bool
deriving DecidableEq
instance:Inhabited Af:=⟨⟨0,0,false⟩⟩
structure AY where
 ID:Int
 Parent:Int
 Visible:Bool
deriving DecidableEq
instance:Inhabited AY:=⟨⟨0,0,false⟩⟩
@[reducible] def AY.row(x:AY):List RV:=[.int .i64 x.ID,.int .i64 x.Parent,.bool x.Visible]
def Iq(d1:AM)(l:Int)(j:AM):Option ((Int × AM) ⊕ AM):=
 if(decide (l<(d1.Nodes.length:Int))) then(
 AB (AL d1.Nodes l) λ(m:AK)=>
 AB (LV m) λ(q:AK)=>
 AB (AL j.Nodes l) λ(A:AK)=>
 AB (AR .i64 (l+1)) λ(w:Int)=>
 some (.inl (w,(AM.mk (j.Nodes.set l.toNat q))))
 ) else(
 some (.inr j)
 )
def QQ(d1:AM):Option (AM):=
 AB (mk 152 (d1.Nodes.length:Int) (AK.mk 0 0 [] [] (Av.mk 0 0 [] []) [])) λ(l:List AK)=>
 AB (iter (λ(a:Int × AM)=>Iq d1 a.1 a.2) (0,(AM.mk l))) λ(j:AM)=>
 some j
def fb(d1:AM):Option (AM):=
 AB (QQ d1) λ(j:AM)=>
 some j
def aY(l:List (List RV)→Option Bool)(j:List (List RV))(v1:Af):Option (Bool × (List (List RV))):=
 AB (l (j++[[.int .i64 v1.id,.int .i64 v1.parent]])) λ(m:Bool)=>
 some (m,(j++[[.int .i64 v1.id,.int .i64 v1.parent]]))
def Ps(j:List UInt8):Option (Int × Bool):=
 atoiS j
def strconv_Itoa(n1:Int):Option (List UInt8):=
 itoaS n1
def HP(d1:AM)(A:List AC)(q:Int)(j:List Int):Option ((Int × (List Int)) ⊕ (List Int)):=
 if(decide (q<(A.length:Int))) then(
 AB (
 AB (AL A q) λ(F:AC)=>
 AB (Mb F.Attrs [110,111,100,101]) λ(B:List UInt8)=>
 Bw (Ps B) λ(w:Int) (C:Bool)=>
 AB (gd ((!C)==false) (strconv_Itoa w)) λ(I:List UInt8)=>
 if((!C)||(!(I=B))) then(
 some j
 ) else(
 Bw (E1 d1 w) λ(J:Int) (E:Bool)=>
 AB (gd (E==true) (AL d1.Nodes J)) λ(M:AK)=>
 if(E&&(M.Kind=1)) then(
 AB (app 8 j [w]) λ(l:List Int)=>
 some l
 ) else(
 some j
 )
 )
 ) λ(m:List Int)=>
 AB (AR .i64 (q+1)) λ(O:Int)=>
 some (.inl (O,m))
 ) else(
 some (.inr j)
 )
def Ey(d1:AM)(n1:AK):Option ((List Int)):=
 AB (MR n1.Draw) λ(l:List AC)=>
 AB (Lv l) λ(m:Int)=>
 AB (C0 l 0 m) λ(q:List AC)=>
 AB (iter (λ(a:Int × (List Int))=>HP d1 q a.1 a.2) (0,[])) λ(j:List Int)=>
 some j
def lx(E:List (List RV)→Option Bool)(F:AM)(v1:Af)(self:(List (List RV)→Option Bool)→(List (Int × Bool))→(List (List RV))→AM→Af→Option (Bool × (List (Int × Bool)) × (List (List RV))))(A:List Int)(m:Int)(l:List (Int × Bool))(j:List (List RV)):Option ((Int × (List (Int × Bool)) × (List (List RV))) ⊕ (Ar ((List (Int × Bool)) × (List (List RV))) (Bool × (List (Int × Bool)) × (List (List RV))))):=
 if(decide (m<(A.length:Int))) then(
 AB (AL A m) λ(q:Int)=>
 CN (self E l j F (Af.mk q v1.id v1.visible)) λ(I:Bool) (B:List (Int × Bool)) (C:List (List RV))=>
 if(!I) then(
 some (.inr (.ext (false,B,C)))
 ) else(
 AB (AR .i64 (m+1)) λ(w:Int)=>
 some (.inl (w,B,C))
 )
 ) else(
 some (.inr (.nrm (l,j)))
 )
def Xt(I:List (List RV)→Option Bool)(J:AM)(v1:Af)(self:(List (List RV)→Option Bool)→(List (Int × Bool))→(List (List RV))→AM→Af→Option (Bool × (List (Int × Bool)) × (List (List RV))))(w:AK)(A:Int)(B:List (Int × Bool))(m:List (List RV)):Option ((Int × (List (Int × Bool)) × (List (List RV))) ⊕ (Ar ((List (Int × Bool)) × (List (List RV))) (Bool × (List (Int × Bool)) × (List (List RV))))):=
 if(decide (A<(w.Grid.Cells.length:Int))) then(
 AB (AL w.Grid.Cells A) λ(j:Ak)=>
 AB (Fd w.Grid j.Row j.Col) λ(F:Aj)=>
 CN (
 if((!(j.Ref=0))==true) then(
 CN (self I B m J (Af.mk j.Ref v1.id ((v1.visible&&(F.Row=j.Row))&&(F.Col=j.Col)))) λ(M:Bool) (O:List (Int × Bool)) (T:List (List RV))=>
 some (((!(j.Ref=0))&&(!M)),O,T)
 ) else(
 some (((!(j.Ref=0))&&false),B,m)
 )
 ) λ(C:Bool) (q:List (Int × Bool)) (l:List (List RV))=>
 if C then(
 some (.inr (.ext (false,q,l)))
 ) else(
 AB (AR .i64 (A+1)) λ(E:Int)=>
 some (.inl (E,q,l))
 )
 ) else(
 some (.inr (.nrm (B,m)))
 )
def cT(E:List (List RV)→Option Bool)(F:AM)(v1:Af)(self:(List (List RV)→Option Bool)→(List (Int × Bool))→(List (List RV))→AM→Af→Option (Bool × (List (Int × Bool)) × (List (List RV))))(w:List Int)(l:Int)(A:List (Int × Bool))(j:List (List RV)):Option ((Int × (List (Int × Bool)) × (List (List RV))) ⊕ (Ar ((List (Int × Bool)) × (List (List RV))) (Bool × (List (Int × Bool)) × (List (List RV))))):=
 if(decide (l<(w.length:Int))) then(
 AB (AL w l) λ(m:Int)=>
 CN (self E A j F (Af.mk m v1.id v1.visible)) λ(I:Bool) (B:List (Int × Bool)) (C:List (List RV))=>
 if(!I) then(
 some (.inr (.ext (false,B,C)))
 ) else(
 AB (AR .i64 (l+1)) λ(q:Int)=>
 some (.inl (q,B,C))
 )
 ) else(
 some (.inr (.nrm (A,j)))
 )
def W9(self:(List (List RV)→Option Bool)→(List (Int × Bool))→(List (List RV))→AM→Af→Option (Bool × (List (Int × Bool)) × (List (List RV))))(q:List (List RV)→Option Bool)(w:List (Int × Bool))(l:List (List RV))(j:AM)(v1:Af):Option (Bool × (List (Int × Bool)) × (List (List RV))):=
 if((AU w v1.id).getD false) then(
 some (true,w,l)
 ) else(
 Bw (aY q l v1) λ(I:Bool) (F:List (List RV))=>
 if(!I) then(
 some (false,(Ai w v1.id true),F)
 ) else(
 Bw (E1 j v1.id) λ(J:Int) (V:Bool)=>
 AB (AL j.Nodes J) λ(A:AK)=>
 AB (HH A.Flow) λ(M:List Int)=>
 Dm (iter (λ(a:Int × (List (Int × Bool)) × (List (List RV)))=>cT q j v1 self M a.1 a.2.1 a.2.2) (0,(Ai w v1.id true),F)) λ(O:List (Int × Bool)) (B:List (List RV))=>
 Dm (iter (λ(a:Int × (List (Int × Bool)) × (List (List RV)))=>Xt q j v1 self A a.1 a.2.1 a.2.2) (0,O,B)) λ(T:List (Int × Bool)) (C:List (List RV))=>
 AB (Ey j A) λ(U:List Int)=>
 Dm (iter (λ(a:Int × (List (Int × Bool)) × (List (List RV)))=>lx q j v1 self U a.1 a.2.1 a.2.2) (0,T,C)) λ(E:List (Int × Bool)) (m:List (List RV))=>
 some (true,E,m)
 )
 )
def Qu:Nat→(List (List RV)→Option Bool)→(List (Int × Bool))→(List (List RV))→AM→Af→Option (Bool × (List (Int × Bool)) × (List (List RV)))
 | 0,_,_,_,_,_=>none
 | n+1,l,m,j,q,v1=>W9 (λl m j q v1=>Qu n l m j q v1) l m j q v1
def YY(l:List (List RV)→Option Bool)(m:List (Int × Bool))(j:List (List RV))(q:AM)(v1:Af):Option (Bool × (List (Int × Bool)) × (List (List RV))):=
 @dite _ (∃n r,Qu n l m j q v1=some r) (Classical.propDecidable _) (λh=>Qu h.choose l m j q v1) (λ_=>none)
def eW(l:List (List RV)→Option Bool)(j:List (List RV))(d1:AM):Option ((List (List RV))):=
 CN (YY l ([]:List (Int × Bool)) j d1 (Af.mk 1 0 true)) λ(q:Bool) (w:List (Int × Bool)) (m:List (List RV))=>
 some m
def d7(m:List (List RV)→Option Bool)(j:List (List RV))(l:AM):Option ((List (List RV))):=
 AB (DX l) λ(q:Int)=>
 if(!(q=0)) then(
 some j
 ) else(
 AB (eW m j l) λ(w:List (List RV))=>
 some w
 )
def Hh(j:List (Int × Bool))(v1:Af):Option (Bool × (List (Int × Bool))):=
 some (true,(Ai j v1.id true))
def Q5(E:AM)(v1:Af)(self:(List (Int × Bool))→(List (Int × Bool))→AM→Af→Option (Bool × (List (Int × Bool)) × (List (Int × Bool))))(A:List Int)(m:Int)(j:List (Int × Bool))(l:List (Int × Bool)):Option ((Int × (List (Int × Bool)) × (List (Int × Bool))) ⊕ (Ar ((List (Int × Bool)) × (List (Int × Bool))) (Bool × (List (Int × Bool)) × (List (Int × Bool))))):=
 if(decide (m<(A.length:Int))) then(
 AB (AL A m) λ(q:Int)=>
 CN (self j l E (Af.mk q v1.id v1.visible)) λ(F:Bool) (B:List (Int × Bool)) (C:List (Int × Bool))=>
 if(!F) then(
 some (.inr (.ext (false,B,C)))
 ) else(
 AB (AR .i64 (m+1)) λ(w:Int)=>
 some (.inl (w,B,C))
 )
 ) else(
 some (.inr (.nrm (j,l)))
 )
def Si(I:AM)(v1:Af)(self:(List (Int × Bool))→(List (Int × Bool))→AM→Af→Option (Bool × (List (Int × Bool)) × (List (Int × Bool))))(A:AK)(B:Int)(l:List (Int × Bool))(m:List (Int × Bool)):Option ((Int × (List (Int × Bool)) × (List (Int × Bool))) ⊕ (Ar ((List (Int × Bool)) × (List (Int × Bool))) (Bool × (List (Int × Bool)) × (List (Int × Bool))))):=
 if(decide (B<(A.Grid.Cells.length:Int))) then(
 AB (AL A.Grid.Cells B) λ(j:Ak)=>
 AB (Fd A.Grid j.Row j.Col) λ(F:Aj)=>
 CN (
 if((!(j.Ref=0))==true) then(
 CN (self l m I (Af.mk j.Ref v1.id ((v1.visible&&(F.Row=j.Row))&&(F.Col=j.Col)))) λ(J:Bool) (M:List (Int × Bool)) (O:List (Int × Bool))=>
 some (((!(j.Ref=0))&&(!J)),M,O)
 ) else(
 some (((!(j.Ref=0))&&false),l,m)
 )
 ) λ(C:Bool) (q:List (Int × Bool)) (w:List (Int × Bool))=>
 if C then(
 some (.inr (.ext (false,q,w)))
 ) else(
 AB (AR .i64 (B+1)) λ(E:Int)=>
 some (.inl (E,q,w))
 )
 ) else(
 some (.inr (.nrm (l,m)))
 )
def SL(E:AM)(v1:Af)(self:(List (Int × Bool))→(List (Int × Bool))→AM→Af→Option (Bool × (List (Int × Bool)) × (List (Int × Bool))))(q:List Int)(j:Int)(w:List (Int × Bool))(A:List (Int × Bool)):Option ((Int × (List (Int × Bool)) × (List (Int × Bool))) ⊕ (Ar ((List (Int × Bool)) × (List (Int × Bool))) (Bool × (List (Int × Bool)) × (List (Int × Bool))))):=
 if(decide (j<(q.length:Int))) then(
 AB (AL q j) λ(l:Int)=>
 CN (self w A E (Af.mk l v1.id v1.visible)) λ(F:Bool) (B:List (Int × Bool)) (C:List (Int × Bool))=>
 if(!F) then(
 some (.inr (.ext (false,B,C)))
 ) else(
 AB (AR .i64 (j+1)) λ(m:Int)=>
 some (.inl (m,B,C))
 )
 ) else(
 some (.inr (.nrm (w,A)))
 )
def PR(self:(List (Int × Bool))→(List (Int × Bool))→AM→Af→Option (Bool × (List (Int × Bool)) × (List (Int × Bool))))(l:List (Int × Bool))(m2:List (Int × Bool))(j:AM)(v1:Af):Option (Bool × (List (Int × Bool)) × (List (Int × Bool))):=
 if((AU l v1.id).getD false) then(
 some (true,l,m2)
 ) else(
 Bw (Hh m2 v1) λ(F:Bool) (E:List (Int × Bool))=>
 if(!F) then(
 some (false,(Ai l v1.id true),E)
 ) else(
 Bw (E1 j v1.id) λ(I:Int) (T:Bool)=>
 AB (AL j.Nodes I) λ(m:AK)=>
 AB (HH m.Flow) λ(J:List Int)=>
 Dm (iter (λ(a:Int × (List (Int × Bool)) × (List (Int × Bool)))=>SL j v1 self J a.1 a.2.1 a.2.2) (0,(Ai l v1.id true),E)) λ(M:List (Int × Bool)) (q:List (Int × Bool))=>
 Dm (iter (λ(a:Int × (List (Int × Bool)) × (List (Int × Bool)))=>Si j v1 self m a.1 a.2.1 a.2.2) (0,M,q)) λ(w:List (Int × Bool)) (A:List (Int × Bool))=>
 AB (Ey j m) λ(O:List Int)=>
 Dm (iter (λ(a:Int × (List (Int × Bool)) × (List (Int × Bool)))=>Q5 j v1 self O a.1 a.2.1 a.2.2) (0,w,A)) λ(B:List (Int × Bool)) (C:List (Int × Bool))=>
 some (true,B,C)
 )
 )
def Gt:Nat→(List (Int × Bool))→(List (Int × Bool))→AM→Af→Option (Bool × (List (Int × Bool)) × (List (Int × Bool)))
 | 0,_,_,_,_=>none
 | n+1,j,m2,l,v1=>PR (λj m2 l v1=>Gt n j m2 l v1) j m2 l v1
def Pi(j:List (Int × Bool))(m2:List (Int × Bool))(l:AM)(v1:Af):Option (Bool × (List (Int × Bool)) × (List (Int × Bool))):=
 @dite _ (∃n r,Gt n j m2 l v1=some r) (Classical.propDecidable _) (λh=>Gt h.choose j m2 l v1) (λ_=>none)
def MI(j:List (Int × Bool))(d1:AM):Option ((List (Int × Bool))):=
 CN (Pi ([]:List (Int × Bool)) j d1 (Af.mk 1 0 true)) λ(m:Bool) (q:List (Int × Bool)) (l:List (Int × Bool))=>
 some l
def HK(d1:AM)(A:List (Int × Bool))(q:Int)(j:List Int):Option ((Int × (List Int)) ⊕ (List Int)):=
 if(decide (q<(d1.Nodes.length:Int))) then(
 AB (
 AB (AL d1.Nodes q) λ(w:AK)=>
 if(!((AU A w.ID).getD false)) then(
 AB (app 8 j [w.ID]) λ(l:List Int)=>
 some l
 ) else(
 some j
 )
 ) λ(m:List Int)=>
 AB (AR .i64 (q+1)) λ(B:Int)=>
 some (.inl (B,m))
 ) else(
 some (.inr j)
 )
def IO(d1:AM):Option ((List Int) × Int):=
 AB (DX d1) λ(l:Int)=>
 if(!(l=0)) then(
 some ([],l)
 ) else(
 AB (MI ([]:List (Int × Bool)) d1) λ(m:List (Int × Bool))=>
 AB (iter (λ(a:Int × (List Int))=>HK d1 m a.1 a.2) (0,[])) λ(j:List Int)=>
 some (j,0)
 )
def ja(j:Int)(l:Bool)(v1:Af):Option (Bool × Bool):=
 AB (
 if(decide (v1.id=j)) then(
 some v1.visible
 ) else(
 some l
 )
 ) λ(m:Bool)=>
 some ((!(v1.id=j)),m)
def iG(E:Int)(F:AM)(v1:Af)(self:(List (Int × Bool))→Int→Bool→AM→Af→Option (Bool × (List (Int × Bool)) × Bool))(A:List Int)(m:Int)(j:List (Int × Bool))(l:Bool):Option ((Int × (List (Int × Bool)) × Bool) ⊕ (Ar ((List (Int × Bool)) × Bool) (Bool × (List (Int × Bool)) × Bool))):=
 if(decide (m<(A.length:Int))) then(
 AB (AL A m) λ(q:Int)=>
 CN (self j E l F (Af.mk q v1.id v1.visible)) λ(I:Bool) (B:List (Int × Bool)) (C:Bool)=>
 if(!I) then(
 some (.inr (.ext (false,B,C)))
 ) else(
 AB (AR .i64 (m+1)) λ(w:Int)=>
 some (.inl (w,B,C))
 )
 ) else(
 some (.inr (.nrm (j,l)))
 )
def gy(I:Int)(J:AM)(v1:Af)(self:(List (Int × Bool))→Int→Bool→AM→Af→Option (Bool × (List (Int × Bool)) × Bool))(q:AK)(w:Int)(A:List (Int × Bool))(B:Bool):Option ((Int × (List (Int × Bool)) × Bool) ⊕ (Ar ((List (Int × Bool)) × Bool) (Bool × (List (Int × Bool)) × Bool))):=
 if(decide (w<(q.Grid.Cells.length:Int))) then(
 AB (AL q.Grid.Cells w) λ(j:Ak)=>
 AB (Fd q.Grid j.Row j.Col) λ(F:Aj)=>
 CN (
 if((!(j.Ref=0))==true) then(
 CN (self A I B J (Af.mk j.Ref v1.id ((v1.visible&&(F.Row=j.Row))&&(F.Col=j.Col)))) λ(M:Bool) (O:List (Int × Bool)) (T:Bool)=>
 some (((!(j.Ref=0))&&(!M)),O,T)
 ) else(
 some (((!(j.Ref=0))&&false),A,B)
 )
 ) λ(C:Bool) (l:List (Int × Bool)) (m:Bool)=>
 if C then(
 some (.inr (.ext (false,l,m)))
 ) else(
 AB (AR .i64 (w+1)) λ(E:Int)=>
 some (.inl (E,l,m))
 )
 ) else(
 some (.inr (.nrm (A,B)))
 )
def l4(C:Int)(E:AM)(v1:Af)(self:(List (Int × Bool))→Int→Bool→AM→Af→Option (Bool × (List (Int × Bool)) × Bool))(q:List Int)(j:Int)(w:List (Int × Bool))(o2:Bool):Option ((Int × (List (Int × Bool)) × Bool) ⊕ (Ar ((List (Int × Bool)) × Bool) (Bool × (List (Int × Bool)) × Bool))):=
 if(decide (j<(q.length:Int))) then(
 AB (AL q j) λ(l:Int)=>
 CN (self w C o2 E (Af.mk l v1.id v1.visible)) λ(F:Bool) (A:List (Int × Bool)) (B:Bool)=>
 if(!F) then(
 some (.inr (.ext (false,A,B)))
 ) else(
 AB (AR .i64 (j+1)) λ(m:Int)=>
 some (.inl (m,A,B))
 )
 ) else(
 some (.inr (.nrm (w,o2)))
 )
def Yl(self:(List (Int × Bool))→Int→Bool→AM→Af→Option (Bool × (List (Int × Bool)) × Bool))(l:List (Int × Bool))(m:Int)(B:Bool)(j:AM)(v1:Af):Option (Bool × (List (Int × Bool)) × Bool):=
 if((AU l v1.id).getD false) then(
 some (true,l,B)
 ) else(
 Bw (ja m B v1) λ(E:Bool) (C:Bool)=>
 if(!E) then(
 some (false,(Ai l v1.id true),C)
 ) else(
 Bw (E1 j v1.id) λ(F:Int) (V:Bool)=>
 AB (AL j.Nodes F) λ(q:AK)=>
 AB (HH q.Flow) λ(I:List Int)=>
 Dm (iter (λ(a:Int × (List (Int × Bool)) × Bool)=>l4 m j v1 self I a.1 a.2.1 a.2.2) (0,(Ai l v1.id true),C)) λ(J:List (Int × Bool)) (M:Bool)=>
 Dm (iter (λ(a:Int × (List (Int × Bool)) × Bool)=>gy m j v1 self q a.1 a.2.1 a.2.2) (0,J,M)) λ(O:List (Int × Bool)) (T:Bool)=>
 AB (Ey j q) λ(U:List Int)=>
 Dm (iter (λ(a:Int × (List (Int × Bool)) × Bool)=>iG m j v1 self U a.1 a.2.1 a.2.2) (0,O,T)) λ(w:List (Int × Bool)) (A:Bool)=>
 some (true,w,A)
 )
 )
def SP:Nat→(List (Int × Bool))→Int→Bool→AM→Af→Option (Bool × (List (Int × Bool)) × Bool)
 | 0,_,_,_,_,_=>none
 | n+1,j,l,m,q,v1=>Yl (λj l m q v1=>SP n j l m q v1) j l m q v1
def jt(j:List (Int × Bool))(l:Int)(m:Bool)(q:AM)(v1:Af):Option (Bool × (List (Int × Bool)) × Bool):=
 @dite _ (∃n r,SP n j l m q v1=some r) (Classical.propDecidable _) (λh=>SP h.choose j l m q v1) (λ_=>none)
def X9(j:Int)(l:Bool)(d1:AM):Option (Bool):=
 CN (jt ([]:List (Int × Bool)) j l d1 (Af.mk 1 0 true)) λ(q:Bool) (w:List (Int × Bool)) (m:Bool)=>
 some m
def RG(d1:AM)(j:Int):Option (Bool):=
 AB (DX d1) λ(l:Int)=>
 if(!(l=0)) then(
 some false
 ) else(
 AB (X9 j false d1) λ(m:Bool)=>
 some m
 )
def LW(m:List AY)(l:Int)(j:Int):Option (Int ⊕ (Ar Unit Int)):=
 if(decide (j<(m.length:Int))) then(
 AB (AL m j) λ(q:AY)=>
 if(decide (q.ID=l)) then(
 some (.inr (.ext j))
 ) else(
 AB (AR .i64 (j+1)) λ(w:Int)=>
 some (.inl w)
 )
 ) else(
 some (.inr (.nrm ()))
 )
def Ju(l:List AY)(j:Int):Option (Int):=
 Aw (iter (λ(a:Int)=>LW l j a) 0) λ(m:Unit)=>
 some (-1)
def Gg(m:List UInt8)(q:Int)(l:Int):Option ((Int × Int) ⊕ (Ar Int Int)):=
 if(decide (l<(m.length:Int))) then(
 AB (AL m l) λ(j:UInt8)=>
 if(((j.toNat:Int)<48)||(57<(j.toNat:Int))) then(
 some (.inr (.ext (-1)))
 ) else(
 AB (AR .i64 (10 * q)) λ(w:Int)=>
 AB (AR .i64 (w+(IntKind.i64.wrap (IntKind.u8.wrap ((j.toNat:Int)-48))))) λ(A:Int)=>
 AB (AR .i64 (l+1)) λ(B:Int)=>
 some (.inl (A,B))
 )
 ) else(
 some (.inr (.nrm q))
 )
def MH(j:List UInt8):Option (Int):=
 AB (gd (((j=[])||(10<(j.length:Int)))==false) (AL j 0)) λ(l:UInt8)=>
 if(((j=[])||(10<(j.length:Int)))||(((l.toNat:Int)=48)&&(1<(j.length:Int)))) then(
 some (-1)
 ) else(
 Aw (iter (λ(a:Int × Int)=>Gg j a.1 a.2) (0,0)) λ(m:Int)=>
 some m
 )
def FR(d1:AM)(E:AY)(self:(List AY)→AM→AY→Option (List AY))(F:List AC)(I:Int)(q:Int)(j:List AY):Option ((Int × (List AY)) ⊕ (List AY)):=
 if(decide (q<I)) then(
 AB (
 AB (AL F q) λ(w:AC)=>
 AB (Ny w.Attrs [110,111,100,101]) λ(J:List UInt8)=>
 AB (MH J) λ(l:Int)=>
 AB (H8 d1 l) λ(A:Int)=>
 AB (gd (((0<l)&&(0≤A))==true) (AL d1.Nodes A)) λ(B:AK)=>
 if(((0<l)&&(0≤A))&&(B.Kind=1)) then(
 AB (self j d1 (AY.mk l E.ID E.Visible)) λ(M:List AY)=>
 some M
 ) else(
 some j
 )
 ) λ(m:List AY)=>
 AB (AR .i64 (q+1)) λ(C:Int)=>
 some (.inl (C,m))
 ) else(
 some (.inr j)
 )
def FM(d1:AM)(B:AY)(self:(List AY)→AM→AY→Option (List AY))(q:AK)(w:Int)(l:List AY):Option ((Int × (List AY)) ⊕ (List AY)):=
 if(decide (w<(q.Grid.Cells.length:Int))) then(
 AB (
 AB (AL q.Grid.Cells w) λ(j:Ak)=>
 if(!(j.Ref=0)) then(
 AB (MP q.Grid j.Row j.Col) λ(C:Aj)=>
 AB (self l d1 (AY.mk j.Ref B.ID ((B.Visible&&(C.Row=j.Row))&&(C.Col=j.Col)))) λ(E:List AY)=>
 some E
 ) else(
 some l
 )
 ) λ(m:List AY)=>
 AB (AR .i64 (w+1)) λ(A:Int)=>
 some (.inl (A,m))
 ) else(
 some (.inr l)
 )
def FQ(d1:AM)(A:AY)(self:(List AY)→AM→AY→Option (List AY))(B:AK)(q:Int)(j:List AY):Option ((Int × (List AY)) ⊕ (List AY)):=
 if(decide (q<(B.Flow.length:Int))) then(
 AB (
 AB (AL B.Flow q) λ(m:AS)=>
 if(!(m.Ref=0)) then(
 AB (self j d1 (AY.mk m.Ref A.ID A.Visible)) λ(C:List AY)=>
 some C
 ) else(
 some j
 )
 ) λ(l:List AY)=>
 AB (AR .i64 (q+1)) λ(w:Int)=>
 some (.inl (w,l))
 ) else(
 some (.inr j)
 )
def IP(self:(List AY)→AM→AY→Option (List AY))(j:List AY)(d1:AM)(q:AY):Option ((List AY)):=
 AB (Ju j q.ID) λ(C:Int)=>
 if(decide (0≤C)) then(
 some j
 ) else(
 AB (app 24 j [q]) λ(w:List AY)=>
 AB (H8 d1 q.ID) λ(E:Int)=>
 AB (AL d1.Nodes E) λ(B:AK)=>
 AB (iter (λ(a:Int × (List AY))=>FQ d1 q self B a.1 a.2) (0,w)) λ(A:List AY)=>
 AB (iter (λ(a:Int × (List AY))=>FM d1 q self B a.1 a.2) (0,A)) λ(l:List AY)=>
 Bw (JF B.Draw) λ(F:List AC) (I:Int)=>
 AB (iter (λ(a:Int × (List AY))=>FR d1 q self F I a.1 a.2) (0,l)) λ(m:List AY)=>
 some m
 )
def CA:Nat→(List AY)→AM→AY→Option (List AY)
 | 0,_,_,_=>none
 | n+1,j,l,m=>IP (λj l m=>CA n j l m) j l m
def On(j:List AY)(d1:AM)(l:AY):Option ((List AY)):=
 @dite _ (∃n r,CA n j d1 l=some r) (Classical.propDecidable _) (λh=>CA h.choose j d1 l) (λ_=>none)
def KP(d1:AM):Option ((List AY)):=
 AB (On [] d1 (AY.mk 1 0 true)) λ(j:List AY)=>
 some j
def XF(l:List Int)(m:Int)(j:Int):Option (List Int):=
 AB (app 8 l [m,j]) λ(q:List Int)=>
 some q
def g9(d1:AM)(t1:List AY)(q:Int)(j:List Int):Option ((Int × (List Int)) ⊕ (Ar (List Int) Bool)):=
 if(decide (q<(d1.Nodes.length:Int))) then(
 Aw (
 AB (AL d1.Nodes q) λ(w:AK)=>
 AB (Ju t1 w.ID) λ(A:Int)=>
 if(decide (A<0)) then(
 AB (app 8 j [w.ID]) λ(l:List Int)=>
 AB (RG d1 w.ID) λ(B:Bool)=>
 if B then(
 some (.ext (.inr (.ext false)))
 ) else(
 some (.nrm l)
 )
 ) else(
 some (.nrm j)
 )
 ) λ(m:List Int)=>
 AB (AR .i64 (q+1)) λ(C:Int)=>
 some (.inl (C,m))
 ) else(
 some (.inr (.nrm j))
 )
def lB(d1:AM)(t1:List AY)(q:Int)(j:List Int):Option ((Int × (List Int)) ⊕ (Ar (List Int) Bool)):=
 if(decide (q<(t1.length:Int))) then(
 AB (AL t1 q) λ(l:AY)=>
 AB (app 8 j [l.ID,l.Parent]) λ(m:List Int)=>
 AB (RG d1 l.ID) λ(A:Bool)=>
 if(!(A==l.Visible)) then(
 some (.inr (.ext false))
 ) else(
 AB (AR .i64 (q+1)) λ(w:Int)=>
 some (.inl (w,m))
 )
 ) else(
 some (.inr (.nrm j))
 )
def nC(d1:AM):Option (Bool):=
 AB (KF) λ(I:Bool)=>
 if(!I) then(
 some false
 ) else(
 AB (fb d1) λ(J:AM)=>
 AB (rng2 (λA=>d7 A [] J) (λ(a:(List Int))=>XF a) []) λ(j:List Int)=>
 Bw (IO d1) λ(B:List Int) (q:Int)=>
 AB (Lc d1) λ(w:Int)=>
 if(!(w=0)) then(
 AB (gd ((decide (q=w))==true) (AR .i64 ((j.length:Int)+(B.length:Int)))) λ(C:Int)=>
 AB (gd (((q=w)&&(C=0))==true) (RG d1 1)) λ(M:Bool)=>
 some (((q=w)&&(C=0))&&(!M))
 ) else(
 AB (KP d1) λ(E:List AY)=>
 Aw (iter (λ(a:Int × (List Int))=>lB d1 E a.1 a.2) (0,[])) λ(l:List Int)=>
 Aw (iter (λ(a:Int × (List Int))=>g9 d1 E a.1 a.2) (0,[])) λ(m:List Int)=>
 AB (gd ((decide (q=0))==true) (Uv j l)) λ(F:Bool)=>
 AB (gd (((q=0)&&F)==true) (Uv B m)) λ(O:Bool)=>
 some (((q=0)&&F)&&O)
 )
 )
end
noncomputable section
def Of(d1:AM)(l:Int)(j:AM):Option ((Int × AM) ⊕ AM):=
 if(decide (l<(d1.Nodes.length:Int))) then(
 AB (AL d1.Nodes l) λ(m:AK)=>
 AB (LV m) λ(q:AK)=>
 AB (AL j.Nodes l) λ(A:AK)=>
 AB (AR .i64 (l+1)) λ(w:Int)=>
 some (.inl (w,(AM.mk (j.Nodes.set l.toNat q))))
 ) else(
 some (.inr j)
 )
def Ln(d1:AM):Option ((List AK)):=
 AB (mk 152 (d1.Nodes.length:Int) (AK.mk 0 0 [] [] (Av.mk 0 0 [] []) [])) λ(l:List AK)=>
 AB (iter (λ(a:Int × AM)=>Of d1 a.1 a.2) (0,(AM.mk l))) λ(j:AM)=>
 some j.Nodes
def JH(j:List Int)(n1:AK):Option (Bool):=
 AB (IT j n1.ID) λ(l:Bool)=>
 some l
def eV(m:List Int)(l:List AK)(j:Int):Option (Int ⊕ (Ar Unit Int)):=
 if(decide (j<(l.length:Int))) then(
 AB (AL l j) λ(q:AK)=>
 AB (JH m q) λ(w:Bool)=>
 if w then(
 some (.inr (.ext j))
 ) else(
 AB (AR .i64 (j+1)) λ(A:Int)=>
 some (.inl A)
 )
 ) else(
 some (.inr (.nrm ()))
 )
def my(j:List Int)(l:List AK):Option (Int):=
 Aw (iter (λ(a:Int)=>eV j l a) 0) λ(m:Unit)=>
 some (-1)
def LH(l:List AK)(m:List Int)(j:Int):Option (Int ⊕ (Ar Unit Int)):=
 if(decide (j<(l.length:Int))) then(
 AB (AL l j) λ(q:AK)=>
 AB (JH m q) λ(w:Bool)=>
 if w then(
 some (.inr (.ext j))
 ) else(
 AB (AR .i64 (j+1)) λ(A:Int)=>
 some (.inl A)
 )
 ) else(
 some (.inr (.nrm ()))
 )
def Ke(j:List AK)(l:List Int):Option (Int):=
 Aw (iter (λ(a:Int)=>LH j l a) 0) λ(m:Unit)=>
 some (-1)
def I2(B:List Int)(l:Int)(m:Int)(j:List AK):Option ((Int × Int × (List AK)) ⊕ (Int × (List AK))):=
 if(decide (m<(j.length:Int))) then(
 Bw (
 AB (AL j m) λ(A:AK)=>
 AB (JH B A) λ(C:Bool)=>
 if(!C) then(
 AB (AL j l) λ(I:AK)=>
 AB (AR .i64 (l+1)) λ(q:Int)=>
 some (q,(j.set l.toNat A))
 ) else(
 some (l,j)
 )
 ) λ(w:Int) (E:List AK)=>
 AB (AR .i64 (m+1)) λ(F:Int)=>
 some (.inl (w,F,E))
 ) else(
 some (.inr (l,j))
 )
def NR(l:List AK)(q:List Int):Option ((List AK)):=
 AB (Ke l q) λ(m:Int)=>
 if(decide (m=(-1))) then(
 some l
 ) else(
 AB (AR .i64 (m+1)) λ(w:Int)=>
 Bw (iter (λ(a:Int × Int × (List AK))=>I2 q a.1 a.2.1 a.2.2) (m,w,l)) λ(j:Int) (A:List AK)=>
 AB (OA A j (AK.mk 0 0 [] [] (Av.mk 0 0 [] []) [])) λ(B:List AK)=>
 AB (C0 B 0 j) λ(C:List AK)=>
 some C
 )
def JG(d1:AM):Option (AM × Int):=
 Bw (IO d1) λ(l:List Int) (j:Int)=>
 if(!(j=0)) then(
 some ((AM.mk []),j)
 ) else(
 AB (Ln d1) λ(m:List AK)=>
 AB (NR m l) λ(q:List AK)=>
 some ((AM.mk q),0)
 )
def Hs(d1:AM)(l:Int)(j:Int)(A:Int):Option ((Int × Int) ⊕ Int):=
 if(decide (A<(d1.Nodes.length:Int))) then(
 AB (
 AB (AL d1.Nodes A) λ(m:AK)=>
 AB (Kj .i64 m.ID 65536) λ(B:Int)=>
 if((B=l)&&(j≤m.ID)) then(
 AB (AR .i64 (m.ID+1)) λ(q:Int)=>
 some q
 ) else(
 some j
 )
 ) λ(w:Int)=>
 AB (AR .i64 (A+1)) λ(C:Int)=>
 some (.inl (w,C))
 ) else(
 some (.inr j)
 )
def HX(d1:AM)(t1:List AY)(q:Int)(j:AM):Option ((Int × AM) ⊕ AM):=
 if(decide (q<(d1.Nodes.length:Int))) then(
 AB (
 AB (AL d1.Nodes q) λ(m:AK)=>
 AB (Ju t1 m.ID) λ(A:Int)=>
 if(decide (0≤A)) then(
 AB (app 152 j.Nodes [m]) λ(B:List AK)=>
 some (AM.mk B)
 ) else(
 some j
 )
 ) λ(l:AM)=>
 AB (AR .i64 (q+1)) λ(w:Int)=>
 some (.inl (w,l))
 ) else(
 some (.inr j)
 )
def O6(d1:AM)(j:Int):Option (Bool):=
 AB (KF) λ(F:Bool)=>
 if(!F) then(
 some false
 ) else(
 Bw (Fe d1 j) λ(w:Int) (A:Int)=>
 Bw (JG d1) λ(E:AM) (B:Int)=>
 AB (Lc d1) λ(C:Int)=>
 if(!(C=0)) then(
 some ((((A=C)&&(B=C))&&(w=0))&&((E.Nodes.length:Int)=0))
 ) else(
 AB (KP d1) λ(I:List AY)=>
 AB (iter (λ(a:Int × AM)=>HX d1 I a.1 a.2) (0,(AM.mk []))) λ(m:AM)=>
 AB (gd ((!(B=0))==false) (JD E m)) λ(J:Bool)=>
 if((!(B=0))||(!J)) then(
 some false
 ) else(
 AB (CW j 0 1000) λ(M:Bool)=>
 if(!M) then(
 some ((A=2)&&(w=0))
 ) else(
 AB (AR .i64 (j * 65536)) λ(O:Int)=>
 AB (AR .i64 (O+1)) λ(q:Int)=>
 AB (iter (λ(a:Int × Int)=>Hs d1 j a.1 a.2) (q,0)) λ(l:Int)=>
 AB (Kj .i64 l 65536) λ(T:Int)=>
 if(!(T=j)) then(
 some ((A=18)&&(w=0))
 ) else(
 some ((A=0)&&(w=l))
 )
 )
 )
 )
 )
end
end Go.Proofs.YtmogkkigacadpaaGreatDoor.Al
