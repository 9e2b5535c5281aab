/- Models, as printed. -/
import Derived.Test.YtmeadkhpiobenaaGreatDoorAl3
set_option linter.all false
namespace Go.Proofs.YtmeadkhpiobenaaGreatDoor.Al
noncomputable section
structure KR where
 Kind:Int
 N:Int
deriving DecidableEq
instance:Inhabited KR:=⟨⟨0,0⟩⟩
structure iC where
 steps:List KR
 used:Int
deriving DecidableEq
instance:Inhabited iC:=⟨⟨[],0⟩⟩
structure Yi where
 out:List KR
 add:Int
 cut:Int
deriving DecidableEq
instance:Inhabited Yi:=⟨⟨[],0,0⟩⟩
structure AE where
 Name:List UInt8
 Value:List UInt8
deriving DecidableEq
instance:Inhabited AE:=⟨⟨[],[]⟩⟩
@[reducible] def AE.row(x:AE):List RV:=[.str x.Name,.str x.Value]
structure An where
 Char:Int
 Ref:Int
 Attrs:List AE
deriving DecidableEq
instance:Inhabited An:=⟨⟨0,0,[]⟩⟩
@[reducible] def An.row(x:An):List RV:=[.int .i64 x.Char,.int .i64 x.Ref,.sl (x.Attrs.map AE.row)]
structure Ao where
 Row:Int
 Col:Int
 Text:List UInt8
 Ref:Int
 Attrs:List AE
deriving DecidableEq
instance:Inhabited Ao:=⟨⟨0,0,[],0,[]⟩⟩
@[reducible] def Ao.row(x:Ao):List RV:=[.int .i64 x.Row,.int .i64 x.Col,.str x.Text,.int .i64 x.Ref,.sl (x.Attrs.map AE.row)]
structure Ak where
 Row:Int
 Col:Int
 H:Int
 W:Int
deriving DecidableEq
instance:Inhabited Ak:=⟨⟨0,0,0,0⟩⟩
@[reducible] def Ak.row(x:Ak):List RV:=[.int .i64 x.Row,.int .i64 x.Col,.int .i64 x.H,.int .i64 x.W]
structure BF where
 Rows:Int
 Cols:Int
 Cells:List Ao
 Merges:List Ak
deriving DecidableEq
instance:Inhabited BF:=⟨⟨0,0,[],[]⟩⟩
@[reducible] def BF.row(x:BF):List RV:=[.int .i64 x.Rows,.int .i64 x.Cols,.sl (x.Cells.map Ao.row),.sl (x.Merges.map Ak.row)]
structure A3 where
 Clock:Int
 Site:Int
 Kind:Int
 Item:Int
 Parent:Int
 Place:List UInt8
 Name:List UInt8
 Value:List UInt8
deriving DecidableEq
instance:Inhabited A3:=⟨⟨0,0,0,0,0,[],[],[]⟩⟩
@[reducible] def A3.row(x:A3):List RV:=[.int .i64 x.Clock,.int .i64 x.Site,.int .i64 x.Kind,.int .i64 x.Item,.int .i64 x.Parent,.str x.Place,.str x.Name,.str x.Value]
structure Ac where
 ID:Int
 Kind:Int
 Attrs:List AE
 Flow:List An
 Grid:BF
 Draw:List A3
deriving DecidableEq
instance:Inhabited Ac:=⟨⟨0,0,[],[],(BF.mk 0 0 [] []),[]⟩⟩
@[reducible] def Ac.row(x:Ac):List RV:=[.int .i64 x.ID,.int .i64 x.Kind,.sl (x.Attrs.map AE.row),.sl (x.Flow.map An.row),.int .i64 x.Grid.Rows,.int .i64 x.Grid.Cols,.sl (x.Grid.Cells.map Ao.row),.sl (x.Grid.Merges.map Ak.row),.sl (x.Draw.map A3.row)]
structure GStep where
 Kind:Int
 N:Int
 Attrs:List AE
 Elems:List An
deriving DecidableEq
instance:Inhabited GStep:=⟨⟨0,0,[],[]⟩⟩
structure My where
 Rows:List KR
 Cols:List KR
 Cells:List Ao
 Split:List Ak
 Merge:List Ak
deriving DecidableEq
instance:Inhabited My:=⟨⟨[],[],[],[],[]⟩⟩
structure Vb where
 Kind:Int
 Node:Int
 New:Ac
 Attrs:List AE
 Steps:List GStep
 Grid:My
 Draw:List A3
deriving DecidableEq
instance:Inhabited Vb:=⟨⟨0,0,(Ac.mk 0 0 [] [] (BF.mk 0 0 [] []) []),[],[],(My.mk [] [] [] [] []),[]⟩⟩
structure og where
 Site:Int
 Number:Int
 Change:List Vb
 Undoes:Int
 Refused:Int
deriving DecidableEq
instance:Inhabited og:=⟨⟨0,0,[],0,0⟩⟩
structure kj where
 From:Int
 To:Int
deriving DecidableEq
instance:Inhabited kj:=⟨⟨0,0⟩⟩
def Ck(m:Int)(l:Int)(j:Int):Option (Bool):=
 some ((l≤m)&&(m≤j))
def ML(m:List UInt8)(l:Int):Option (Int ⊕ (Ax Unit Bool)):=
 if(decide (l<(m.length:Int))) then(
 AC (AN m l) λ(j:UInt8)=>
 if((((((j.toNat:Int)<97)||(122<(j.toNat:Int)))&&(((j.toNat:Int)<48)||(57<(j.toNat:Int))))&&(!((j.toNat:Int)=46)))&&(!((j.toNat:Int)=45))) then(
 some (.inr (.ext false))
 ) else(
 AC (AY .i64 (l+1)) λ(q:Int)=>
 some (.inl q)
 )
 ) else(
 some (.inr (.nrm ()))
 )
def MU(j:List UInt8):Option (Bool):=
 AC (gd (((j=[])||(24<(j.length:Int)))==false) (AN j 0)) λ(l:UInt8)=>
 AC (gd ((((j=[])||(24<(j.length:Int)))||((l.toNat:Int)<97))==false) (AN j 0)) λ(m:UInt8)=>
 if((((j=[])||(24<(j.length:Int)))||((l.toNat:Int)<97))||(122<(m.toNat:Int))) then(
 some false
 ) else(
 BA (iter (λ(a:Int)=>ML j a) 0) λ(q:Unit)=>
 some true
 )
def Ni(m:List UInt8)(l:Int):Option (Int ⊕ (Ax Unit Bool)):=
 if(decide (l<(m.length:Int))) then(
 AC (AN m l) λ(j:UInt8)=>
 if(((j.toNat:Int)<32)||(126<(j.toNat:Int))) then(
 some (.inr (.ext false))
 ) else(
 AC (AY .i64 (l+1)) λ(q:Int)=>
 some (.inl q)
 )
 ) else(
 some (.inr (.nrm ()))
 )
def Ld(j:List UInt8):Option (Bool):=
 if((j=[])||(200<(j.length:Int))) then(
 some false
 ) else(
 BA (iter (λ(a:Int)=>Ni j a) 0) λ(l:Unit)=>
 some true
 )
def MK(q:List AE)(j:Bool)(l:Int):Option (Int ⊕ (Ax Unit Int)):=
 if(decide (l<(q.length:Int))) then(
 AC (AN q l) λ(m:AE)=>
 AC (MU m.Name) λ(A:Bool)=>
 if(!A) then(
 some (.inr (.ext 9))
 ) else(
 AC (Ld m.Value) λ(B:Bool)=>
 if((!B)&&(!(j&&(m.Value=[])))) then(
 some (.inr (.ext 23))
 ) else(
 AC (gd ((decide (0<l))==true) (AY .i64 (l-1))) λ(C:Int)=>
 AC (gd ((decide (0<l))==true) (AN q C)) λ(w:AE)=>
 if((0<l)&&(Ap m.Name w.Name||(m.Name=w.Name))) then(
 some (.inr (.ext 5))
 ) else(
 AC (AY .i64 (l+1)) λ(E:Int)=>
 some (.inl E)
 )
 )
 )
 ) else(
 some (.inr (.nrm ()))
 )
def Mm(l:List AE)(j:Bool):Option (Int):=
 BA (iter (λ(a:Int)=>MK l j a) 0) λ(m:Unit)=>
 some 0
def Kc(j:List AE):Option (Int):=
 AC (Mm j false) λ(l:Int)=>
 some l
def Kf(j:List AE)(m:AE)(l:AE):Option ((List AE)):=
 if(decide (l.Name=[])) then(
 AC (app 32 j [m]) λ(q:List AE)=>
 some q
 ) else(
 if(!(l.Value=[])) then(
 AC (app 32 j [l]) λ(w:List AE)=>
 some w
 ) else(
 some j
 )
 )
def OZ(l:List AE)(q:List AE)(j:Int)(m:Int)(o2:List AE):Option ((Int × Int × (List AE)) ⊕ (Ax Unit (List AE))):=
 if((j<(l.length:Int))||(m<(q.length:Int))) then(
 AC (gd (((decide (m=(q.length:Int)))==false)&&((decide (j<(l.length:Int)))==true)) (AN l j)) λ(A:AE)=>
 AC (gd (((decide (m=(q.length:Int)))==false)&&((decide (j<(l.length:Int)))==true)) (AN q m)) λ(B:AE)=>
 if((m=(q.length:Int))||((j<(l.length:Int))&&(Ap A.Name B.Name))) then(
 AC (AN l j) λ(C:AE)=>
 AC (Kf o2 C (AE.mk [] [])) λ(E:List AE)=>
 AC (AY .i64 (j+1)) λ(F:Int)=>
 some (.inl (F,m,E))
 ) else(
 AC (gd ((decide (j=(l.length:Int)))==false) (AN q m)) λ(I:AE)=>
 AC (gd ((decide (j=(l.length:Int)))==false) (AN l j)) λ(J:AE)=>
 if((j=(l.length:Int))||(Ap I.Name J.Name)) then(
 AC (AN q m) λ(M:AE)=>
 AC (Kf o2 (AE.mk [] []) M) λ(O:List AE)=>
 AC (AY .i64 (m+1)) λ(T:Int)=>
 some (.inl (j,T,O))
 ) else(
 AC (AN l j) λ(U:AE)=>
 AC (AN q m) λ(V:AE)=>
 AC (Kf o2 U V) λ(X:List AE)=>
 AC (AY .i64 (j+1)) λ(w:Int)=>
 AC (AY .i64 (m+1)) λ(Z:Int)=>
 some (.inl (w,Z,X))
 )
 )
 ) else(
 some (.inr (.ext o2))
 )
def Nh(j:List AE)(l:List AE)(m:List AE):Option ((List AE)):=
 BA (iter (λ(a:Int × Int × (List AE))=>OZ l m a.1 a.2.1 a.2.2) (0,0,j)) λ(q:Unit)=>
 none
def Lx(l:List AE)(j:List AE):Option ((List AE)):=
 AC (Nh [] l j) λ(m:List AE)=>
 some m
def Lw(m:List UInt8)(l:Int):Option (Int ⊕ (Ax Unit Bool)):=
 if(decide (l<(m.length:Int))) then(
 AC (AN m l) λ(j:UInt8)=>
 if((!((97≤(j.toNat:Int))&&((j.toNat:Int)≤122)))&&((l=0)||(((!((j.toNat:Int)=46))&&(!((j.toNat:Int)=45)))&&(((j.toNat:Int)<48)||(57<(j.toNat:Int)))))) then(
 some (.inr (.ext false))
 ) else(
 AC (AY .i64 (l+1)) λ(q:Int)=>
 some (.inl q)
 )
 ) else(
 some (.inr (.nrm ()))
 )
def Ll(j:List UInt8):Option (Bool):=
 BA (iter (λ(a:Int)=>Lw j a) 0) λ(l:Unit)=>
 some ((1≤(j.length:Int))&&((j.length:Int)≤24))
def OF(m:List UInt8)(l:Int):Option (Int ⊕ (Ax Unit Bool)):=
 if(decide (l<(m.length:Int))) then(
 AC (AN m l) λ(j:UInt8)=>
 if(((j.toNat:Int)<32)||(126<(j.toNat:Int))) then(
 some (.inr (.ext false))
 ) else(
 AC (AY .i64 (l+1)) λ(q:Int)=>
 some (.inl q)
 )
 ) else(
 some (.inr (.nrm ()))
 )
def LO(j:List UInt8):Option (Bool):=
 BA (iter (λ(a:Int)=>OF j a) 0) λ(l:Unit)=>
 some ((1≤(j.length:Int))&&((j.length:Int)≤200))
def La(q:List AE)(j:Bool)(l:Int):Option (Int ⊕ (Ax Unit Int)):=
 if(decide (l<(q.length:Int))) then(
 AC (AN q l) λ(m:AE)=>
 AC (Ll m.Name) λ(w:Bool)=>
 if(!w) then(
 some (.inr (.ext 9))
 ) else(
 AC (LO m.Value) λ(A:Bool)=>
 if((!A)&&((!(m.Value=[]))||(!j))) then(
 some (.inr (.ext 23))
 ) else(
 AC (gd ((decide (0<l))==true) (AY .i64 (l-1))) λ(B:Int)=>
 AC (gd ((decide (0<l))==true) (AN q B)) λ(C:AE)=>
 if((0<l)&&(!Ap C.Name m.Name)) then(
 some (.inr (.ext 5))
 ) else(
 AC (AY .i64 (l+1)) λ(E:Int)=>
 some (.inl E)
 )
 )
 )
 ) else(
 some (.inr (.nrm ()))
 )
def Jl(l:List AE)(j:Bool):Option (Int):=
 BA (iter (λ(a:Int)=>La l j a) 0) λ(m:Unit)=>
 some 0
def Oj(m:List AE)(j:List UInt8)(l:Int):Option (Int ⊕ (Ax Unit (List UInt8))):=
 if(decide (l<(m.length:Int))) then(
 AC (AN m l) λ(q:AE)=>
 if(decide (q.Name=j)) then(
 some (.inr (.ext q.Value))
 ) else(
 AC (AY .i64 (l+1)) λ(w:Int)=>
 some (.inl w)
 )
 ) else(
 some (.inr (.nrm ()))
 )
def Jz(l:List AE)(j:List UInt8):Option ((List UInt8)):=
 BA (iter (λ(a:Int)=>Oj l j a) 0) λ(m:Unit)=>
 some []
def NI(m:List AE)(j:List UInt8)(l:Int):Option (Int ⊕ (Ax Unit (List UInt8))):=
 if(decide (l<(m.length:Int))) then(
 AC (AN m l) λ(q:AE)=>
 if(decide (q.Name=j)) then(
 some (.inr (.ext q.Value))
 ) else(
 AC (AY .i64 (l+1)) λ(w:Int)=>
 some (.inl w)
 )
 ) else(
 some (.inr (.nrm ()))
 )
def Jo(l:List AE)(j:List UInt8):Option ((List UInt8)):=
 BA (iter (λ(a:Int)=>NI l j a) 0) λ(m:Unit)=>
 some []
def Ox(F:List AE)(I:AE)(j:Bool)(E:Int)(l:List AE):Option ((Bool × Int × (List AE)) ⊕ (Bool × (List AE))):=
 if(decide (E<(F.length:Int))) then(
 CO (
 AC (gd ((!j)==true) (AN F E)) λ(M:AE)=>
 CO (
 if((!j)&&(!Ap M.Name I.Name)) then(
 AC (app 32 l [I]) λ(w:List AE)=>
 some (true,w)
 ) else(
 some (j,l)
 )
 ) λ(m:Bool) (q:List AE)=>
 AC (AN F E) λ(J:AE)=>
 if(!(J.Name=I.Name)) then(
 AC (app 32 q [J]) λ(B:List AE)=>
 some (m,B)
 ) else(
 some (m,q)
 )
 ) λ(A:Bool) (C:List AE)=>
 AC (AY .i64 (E+1)) λ(O:Int)=>
 some (.inl (A,O,C))
 ) else(
 some (.inr (j,l))
 )
def KZ(A:List AE)(w:AE):Option ((List AE)):=
 CO (iter (λ(a:Bool × Int × (List AE))=>Ox A w a.1 a.2.1 a.2.2) (false,0,[])) λ(l:Bool) (j:List AE)=>
 AC (
 if(!l) then(
 AC (app 32 j [w]) λ(m:List AE)=>
 some m
 ) else(
 some j
 )
 ) λ(q:List AE)=>
 some q
def Nd(l:List AE)(A:Int)(j:List AE):Option ((Int × (List AE)) ⊕ (List AE)):=
 if(decide (A<(l.length:Int))) then(
 AC (
 AC (AN l A) λ(w:AE)=>
 if(!(w.Value=[])) then(
 AC (app 32 j [w]) λ(m:List AE)=>
 some m
 ) else(
 some j
 )
 ) λ(q:List AE)=>
 AC (AY .i64 (A+1)) λ(B:Int)=>
 some (.inl (B,q))
 ) else(
 some (.inr j)
 )
def MX(j:List AE)(l:List AE)(q:Int):Option (((List AE) × Int) ⊕ (List AE)):=
 if(decide (q<(j.length:Int))) then(
 AC (AN j q) λ(w:AE)=>
 AC (KZ l w) λ(m:List AE)=>
 AC (AY .i64 (q+1)) λ(A:Int)=>
 some (.inl (m,A))
 ) else(
 some (.inr l)
 )
def OR(A:List AE)(j:List AE)(m:Int):Option (((List AE) × Int) ⊕ (List AE)):=
 if(decide (m<(A.length:Int))) then(
 AC (AN A m) λ(q:AE)=>
 AC (KZ j q) λ(l:List AE)=>
 AC (AY .i64 (m+1)) λ(w:Int)=>
 some (.inl (l,w))
 ) else(
 some (.inr j)
 )
def LU(w:List AE)(j:List AE):Option ((List AE)):=
 AC (iter (λ(a:(List AE) × Int)=>OR w a.1 a.2) ([],0)) λ(m:List AE)=>
 AC (iter (λ(a:(List AE) × Int)=>MX j a.1 a.2) (m,0)) λ(q:List AE)=>
 AC (iter (λ(a:Int × (List AE))=>Nd q a.1 a.2) (0,[])) λ(l:List AE)=>
 some l
def LD(j:Int):Option (Bool):=
 some (((((j=9)||(j=10))||((32≤j)&&(j<127)))||((160≤j)&&(j<55296)))||((57343<j)&&(j≤1114111)))
def OB(j:An):Option (Int):=
 if((!(j.Char=0))==(!(j.Ref=0))) then(
 some 4
 ) else(
 AC (gd ((decide (j.Ref=0))==true) (LD j.Char)) λ(l:Bool)=>
 AC (
 if((j.Ref=0)&&(!l)) then(
 some ((j.Ref=0)&&(!l))
 ) else(
 some ((!(j.Ref=0))&&((j.Ref<1)||(1073741824<j.Ref)))
 )
 ) λ(m:Bool)=>
 if m then(
 some 2
 ) else(
 AC (Kc j.Attrs) λ(q:Int)=>
 some q
 )
 )
def Lq(j:Int):Option (Bool):=
 AC (gd (((j=9)||(j=10))==false) (Ck j 32 126)) λ(l:Bool)=>
 AC (gd ((((j=9)||(j=10))||l)==false) (Ck j 160 55295)) λ(m:Bool)=>
 AC (gd (((((j=9)||(j=10))||l)||m)==false) (Ck j 57344 1114111)) λ(q:Bool)=>
 some (((((j=9)||(j=10))||l)||m)||q)
def NA(j:An):Option (Int):=
 if(((j.Char=0)&&(j.Ref=0))||((!(j.Char=0))&&(!(j.Ref=0)))) then(
 some 4
 ) else(
 AC (gd ((!(j.Char=0))==true) (Lq j.Char)) λ(l:Bool)=>
 AC (gd ((((!(j.Char=0))&&(!l))==false)&&((!(j.Ref=0))==true)) (Ck j.Ref 1 1073741824)) λ(m:Bool)=>
 if(((!(j.Char=0))&&(!l))||((!(j.Ref=0))&&(!m))) then(
 some 2
 ) else(
 AC (Jl j.Attrs false) λ(q:Int)=>
 some q
 )
 )
def NM(l:List AE)(w:List AE)(j:Int):Option (Int ⊕ (Ax Unit Bool)):=
 if(decide (j<(l.length:Int))) then(
 AC (AN l j) λ(m:AE)=>
 AC (AN w j) λ(q:AE)=>
 if(!((m.Name=q.Name)&&((m.Value=q.Value)&&true))) then(
 some (.inr (.ext false))
 ) else(
 AC (AY .i64 (j+1)) λ(A:Int)=>
 some (.inl A)
 )
 ) else(
 some (.inr (.nrm ()))
 )
def O0(j:List AE)(l:List AE):Option (Bool):=
 if(!((j.length:Int)=(l.length:Int))) then(
 some false
 ) else(
 BA (iter (λ(a:Int)=>NM j l a) 0) λ(m:Unit)=>
 some true
 )
end
noncomputable section
structure iN where
 Adds:List (List An)
 Cuts:List Bool
 Attrs:List (List AE)
deriving DecidableEq
instance:Inhabited iN:=⟨⟨[],[],[]⟩⟩
end
noncomputable section
end
noncomputable section
structure nC where
 steps:List GStep
 used:Int
deriving DecidableEq
instance:Inhabited nC:=⟨⟨[],0⟩⟩
structure iO where
 out:List GStep
 add:List An
 cut:Int
deriving DecidableEq
instance:Inhabited iO:=⟨⟨[],[],0⟩⟩
def I5(q:List An)(l:Int)(j:List An):Option ((Int × (List An)) ⊕ (List An)):=
 if(decide (l<(q.length:Int))) then(
 AC (AN q l) λ(m:An)=>
 AC (app 32 [] m.Attrs) λ(w:List AE)=>
 AC (AN j l) λ(B:An)=>
 AC (AY .i64 (l+1)) λ(A:Int)=>
 some (.inl (A,(j.set l.toNat (An.mk m.Char m.Ref w))))
 ) else(
 some (.inr j)
 )
def Mx(m:List An):Option ((List An)):=
 AC (mk 40 (m.length:Int) (An.mk 0 0 [])) λ(j:List An)=>
 AC (iter (λ(a:Int × (List An))=>I5 m a.1 a.2) (0,j)) λ(l:List An)=>
 some l
def KU(m:List An)(j:Bool)(l:Int):Option (Int ⊕ (Ax Unit Int)):=
 if(decide (l<(m.length:Int))) then(
 AC (AN m l) λ(q:An)=>
 AC (OB q) λ(w:Int)=>
 if(!(w=0)) then(
 some (.inr (.ext w))
 ) else(
 if((!j)&&(q.Ref=0)) then(
 some (.inr (.ext 8))
 ) else(
 AC (AY .i64 (l+1)) λ(A:Int)=>
 some (.inl A)
 )
 )
 ) else(
 some (.inr (.nrm ()))
 )
def JM(l:List An)(j:Bool):Option (Int):=
 BA (iter (λ(a:Int)=>KU l j a) 0) λ(w:Unit)=>
 AC (gd ((j==true)&&((decide ((l.length:Int)=0))==false)) (AY .i64 ((l.length:Int)-1))) λ(m:Int)=>
 AC (gd ((j==true)&&((decide ((l.length:Int)=0))==false)) (AN l m)) λ(q:An)=>
 if(j&&(((l.length:Int)=0)||(!(q.Char=10)))) then(
 some 11
 ) else(
 some 0
 )
def Jy(m:List An)(j:Bool)(l:Int):Option (Int ⊕ (Ax Unit Int)):=
 if(decide (l<(m.length:Int))) then(
 AC (AN m l) λ(q:An)=>
 AC (NA q) λ(w:Int)=>
 if(!(w=0)) then(
 some (.inr (.ext w))
 ) else(
 if((!j)&&(!(q.Char=0))) then(
 some (.inr (.ext 8))
 ) else(
 AC (AY .i64 (l+1)) λ(A:Int)=>
 some (.inl A)
 )
 )
 ) else(
 some (.inr (.nrm ()))
 )
def Iv(l:List An)(j:Bool):Option (Int):=
 BA (iter (λ(a:Int)=>Jy l j a) 0) λ(w:Unit)=>
 AC (gd ((j==true)&&((decide ((l.length:Int)=0))==false)) (AY .i64 ((l.length:Int)-1))) λ(m:Int)=>
 AC (gd ((j==true)&&((decide ((l.length:Int)=0))==false)) (AN l m)) λ(q:An)=>
 if(j&&(((l.length:Int)=0)||(!(q.Char=10)))) then(
 some 11
 ) else(
 some 0
 )
end
noncomputable section
end
noncomputable section
end
noncomputable section
end
noncomputable section
structure Xi where
 Kind:Int
 Node:Int
 From:Int
 To:Int
 Name:List UInt8
deriving DecidableEq
instance:Inhabited Xi:=⟨⟨0,0,0,0,[]⟩⟩
structure fx where
 node:Int
 out:List An
 bad:List Xi
deriving DecidableEq
instance:Inhabited fx:=⟨⟨0,[],[]⟩⟩
structure lU where
 adds:List (List An)
 cut:List Bool
 attrs:List (List AE)
deriving DecidableEq
instance:Inhabited lU:=⟨⟨[],[],[]⟩⟩
end
noncomputable section
structure IP where
 lo:Int
 hi:Int
deriving DecidableEq
instance:Inhabited IP:=⟨⟨0,0⟩⟩
@[reducible] def IP.row(x:IP):List RV:=[.int .u8 x.lo,.int .u8 x.hi]
def Pm:List IP:=Iy.map λp=>IP.mk p.1 p.2
def OT(A:List UInt8):Option (Int × Int):=
 if(decide ((A.length:Int)<1)) then(
 some (65533,0)
 ) else(
 AC (AN A 0) λ(j:UInt8)=>
 AC (AN F5 (j.toNat:Int)) λ(q:Int)=>
 if(decide (240≤q)) then(
 some ((D5 .i32 (O1 .i32 (IntKind.i32.wrap (j.toNat:Int)) (FO .i32 (DR .i32 (IntKind.i32.wrap q) 31) 31)) (CE .i32 65533 (FO .i32 (DR .i32 (IntKind.i32.wrap q) 31) 31))),1)
 ) else(
 AC (AN Pm (FO .u8 q 4)) λ(B:IP)=>
 if(decide ((A.length:Int)<(IntKind.i64.wrap (CE .u8 q 7)))) then(
 some (65533,1)
 ) else(
 AC (AN A 1) λ(l:UInt8)=>
 if(((l.toNat:Int)<B.lo)||(B.hi<(l.toNat:Int))) then(
 some (65533,1)
 ) else(
 if(decide ((IntKind.i64.wrap (CE .u8 q 7))≤2)) then(
 some ((D5 .i32 (DR .i32 (IntKind.i32.wrap (CE .u8 (j.toNat:Int) 31)) 6) (IntKind.i32.wrap (CE .u8 (l.toNat:Int) 63))),2)
 ) else(
 AC (AN A 2) λ(m:UInt8)=>
 if(((m.toNat:Int)<128)||(191<(m.toNat:Int))) then(
 some (65533,1)
 ) else(
 if(decide ((IntKind.i64.wrap (CE .u8 q 7))≤3)) then(
 some ((D5 .i32 (D5 .i32 (DR .i32 (IntKind.i32.wrap (CE .u8 (j.toNat:Int) 15)) 12) (DR .i32 (IntKind.i32.wrap (CE .u8 (l.toNat:Int) 63)) 6)) (IntKind.i32.wrap (CE .u8 (m.toNat:Int) 63))),3)
 ) else(
 AC (AN A 3) λ(w:UInt8)=>
 if(((w.toNat:Int)<128)||(191<(w.toNat:Int))) then(
 some (65533,1)
 ) else(
 some ((D5 .i32 (D5 .i32 (D5 .i32 (DR .i32 (IntKind.i32.wrap (CE .u8 (j.toNat:Int) 7)) 18) (DR .i32 (IntKind.i32.wrap (CE .u8 (l.toNat:Int) 63)) 12)) (DR .i32 (IntKind.i32.wrap (CE .u8 (m.toNat:Int) 63)) 6)) (IntKind.i32.wrap (CE .u8 (w.toNat:Int) 63))),4)
 )
 )
 )
 )
 )
 )
 )
 )
def Mk(j:List UInt8):Option (Int × Int):=
 AC (gd ((!(j=[]))==true) (AN j 0)) λ(l:UInt8)=>
 if((!(j=[]))&&((l.toNat:Int)<128)) then(
 AC (AN j 0) λ(m:UInt8)=>
 some ((IntKind.i32.wrap (m.toNat:Int)),1)
 ) else(
 CO (OT j) λ(q:Int) (w:Int)=>
 some (q,w)
 )
end
noncomputable section
def FK(w:List An)(q:Int)(j:List Int):Option ((Int × (List Int)) ⊕ (List Int)):=
 if(decide (q<(w.length:Int))) then(
 AC (
 AC (AN w q) λ(A:An)=>
 if(!(A.Ref=0)) then(
 AC (app 8 j [A.Ref]) λ(l:List Int)=>
 some l
 ) else(
 some j
 )
 ) λ(m:List Int)=>
 AC (AY .i64 (q+1)) λ(B:Int)=>
 some (.inl (B,m))
 ) else(
 some (.inr j)
 )
def Jj(l:List An):Option ((List Int)):=
 AC (iter (λ(a:Int × (List Int))=>FK l a.1 a.2) (0,[])) λ(j:List Int)=>
 some j
end
noncomputable section
end
noncomputable section
structure Aa where
 Nodes:List Ac
deriving DecidableEq
instance:Inhabited Aa:=⟨⟨[]⟩⟩
@[reducible] def Aa.row(x:Aa):List RV:=[.sl (x.Nodes.map Ac.row)]
def H6(j:Int):Option (Bool):=
 some ((((j=1)||(j=3))||(j=4))||(j=12))
def Hl(j:Int):Option (Bool):=
 some ((j=0)||(j=7))
def GL(j:Int):Option (Bool):=
 some ((j=2)||(j=6))
def Ot(j:List Ak)(w:List Ak)(l:Int):Option (Int ⊕ (Ax Unit Bool)):=
 if(decide (l<(j.length:Int))) then(
 AC (AN j l) λ(m:Ak)=>
 AC (AN w l) λ(q:Ak)=>
 if(!((m.Row=q.Row)&&((m.Col=q.Col)&&((m.H=q.H)&&((m.W=q.W)&&true))))) then(
 some (.inr (.ext false))
 ) else(
 AC (AY .i64 (l+1)) λ(A:Int)=>
 some (.inl A)
 )
 ) else(
 some (.inr (.nrm ()))
 )
def Mr(j:List Ak)(l:List Ak):Option (Bool):=
 if(!((j.length:Int)=(l.length:Int))) then(
 some false
 ) else(
 BA (iter (λ(a:Int)=>Ot j l a) 0) λ(m:Unit)=>
 some true
 )
def Mo(j:Ao)(l:Ao):Option (Bool):=
 AC (gd (((((j.Row=l.Row)&&(j.Col=l.Col))&&(j.Text=l.Text))&&(j.Ref=l.Ref))==true) (O0 j.Attrs l.Attrs)) λ(m:Bool)=>
 some (((((j.Row=l.Row)&&(j.Col=l.Col))&&(j.Text=l.Text))&&(j.Ref=l.Ref))&&m)
def Mg(j:List Ao)(m:List Ao)(l:Int):Option (Int ⊕ (Ax Unit Bool)):=
 if(decide (l<(j.length:Int))) then(
 AC (AN j l) λ(q:Ao)=>
 AC (AN m l) λ(w:Ao)=>
 AC (Mo q w) λ(A:Bool)=>
 if(!A) then(
 some (.inr (.ext false))
 ) else(
 AC (AY .i64 (l+1)) λ(B:Int)=>
 some (.inl B)
 )
 ) else(
 some (.inr (.nrm ()))
 )
def OI(j:List Ao)(l:List Ao):Option (Bool):=
 if(!((j.length:Int)=(l.length:Int))) then(
 some false
 ) else(
 BA (iter (λ(a:Int)=>Mg j l a) 0) λ(m:Unit)=>
 some true
 )
def Mf(j:BF)(l:BF):Option (Bool):=
 AC (gd (((j.Rows=l.Rows)&&(j.Cols=l.Cols))==true) (Mr j.Merges l.Merges)) λ(m:Bool)=>
 AC (gd ((((j.Rows=l.Rows)&&(j.Cols=l.Cols))&&m)==true) (OI j.Cells l.Cells)) λ(q:Bool)=>
 some ((((j.Rows=l.Rows)&&(j.Cols=l.Cols))&&m)&&q)
def Hn(j:Int):Option (Bool):=
 some (((j=8)||(j=9))||(j=10))
def FE(l:List UInt8):Option ((List UInt8) ⊕ (Ax Unit Bool)):=
 if(!(l=[])) then(
 CO (Mk l) λ(j:Int) (m:Int)=>
 AC (gd ((((j=65533)&&(m=1))||(j=10))==false) (LD (IntKind.i64.wrap j))) λ(q:Bool)=>
 if((((j=65533)&&(m=1))||(j=10))||(!q)) then(
 some (.inr (.ext false))
 ) else(
 AC (DX l m (l.length:Int)) λ(w:List UInt8)=>
 some (.inl w)
 )
 ) else(
 some (.inr (.nrm ()))
 )
def Ns(j:List UInt8):Option (Bool):=
 BA (iter (λ(a:(List UInt8))=>FE a) j) λ(l:Unit)=>
 some true
def OM(j:Ao):Option (Bool):=
 some (((j.Text=[])&&(j.Ref=0))&&((j.Attrs.length:Int)=0))
def Le(j:Int):Option (Bool):=
 some (!(j=j))
def F1(m:Int)(q:Int):Option (Int):=
 AC (Le m) λ(l:Bool)=>
 AC (Le q) λ(j:Bool)=>
 if l then(
 if j then(
 some 0
 ) else(
 some (-1)
 )
 ) else(
 if j then(
 some 1
 ) else(
 if(decide (m<q)) then(
 some (-1)
 ) else(
 if(decide (q<m)) then(
 some 1
 ) else(
 some 0
 )
 )
 )
 )
def Dh(j:List Int)(l:Int):Option (Int ⊕ (Ax Unit Int)):=
 if(decide (l<(j.length:Int))) then(
 AC (AN j l) λ(m:Int)=>
 if(!(m=0)) then(
 some (.inr (.ext m))
 ) else(
 AC (AY .i64 (l+1)) λ(q:Int)=>
 some (.inl q)
 )
 ) else(
 some (.inr (.nrm ()))
 )
def H8(j:List Int):Option (Int):=
 BA (iter (λ(a:Int)=>Dh j a) 0) λ(l:Unit)=>
 some 0
def L7(j:Ao)(l:Ao):Option (Int):=
 AC (F1 j.Row l.Row) λ(m:Int)=>
 AC (F1 j.Col l.Col) λ(q:Int)=>
 AC (H8 [m,q]) λ(w:Int)=>
 some w
def NB(A:List Ao)(m:Int)(q:Int)(w:Bool)(l:Int):Option (Int ⊕ (Ax Unit Int)):=
 if(decide (l<(A.length:Int))) then(
 AC (AN A l) λ(j:Ao)=>
 if((((j.Row<0)||(m≤j.Row))||(j.Col<0))||(q≤j.Col)) then(
 some (.inr (.ext 2))
 ) else(
 if((j.Ref<0)||(1073741824<j.Ref)) then(
 some (.inr (.ext 2))
 ) else(
 AC (Ns j.Text) λ(C:Bool)=>
 if(!C) then(
 some (.inr (.ext 23))
 ) else(
 AC (Kc j.Attrs) λ(B:Int)=>
 if(!(B=0)) then(
 some (.inr (.ext B))
 ) else(
 AC (OM j) λ(E:Bool)=>
 if(E&&(!w)) then(
 some (.inr (.ext 4))
 ) else(
 AC (gd ((decide (0<l))==true) (AY .i64 (l-1))) λ(F:Int)=>
 AC (gd ((decide (0<l))==true) (AN A F)) λ(I:Ao)=>
 AC (gd ((decide (0<l))==true) (L7 I j)) λ(J:Int)=>
 if((0<l)&&(0≤J)) then(
 some (.inr (.ext 5))
 ) else(
 AC (AY .i64 (l+1)) λ(M:Int)=>
 some (.inl M)
 )
 )
 )
 )
 )
 )
 ) else(
 some (.inr (.nrm ()))
 )
def On(q:List Ao)(j:Int)(l:Int)(m:Bool):Option (Int):=
 BA (iter (λ(a:Int)=>NB q j l m a) 0) λ(w:Unit)=>
 some 0
def NW(j:Ak)(l:Int)(m:Int):Option (Bool):=
 AC (gd (((((((0≤j.Row)&&(0≤j.Col))&&(1≤j.H))&&(1≤j.W))&&(j.Row<l))&&(j.Col<m))==true) (AY .i64 (l-j.Row))) λ(q:Int)=>
 AC (gd ((((((((0≤j.Row)&&(0≤j.Col))&&(1≤j.H))&&(1≤j.W))&&(j.Row<l))&&(j.Col<m))&&(j.H≤q))==true) (AY .i64 (m-j.Col))) λ(w:Int)=>
 some ((((((((0≤j.Row)&&(0≤j.Col))&&(1≤j.H))&&(1≤j.W))&&(j.Row<l))&&(j.Col<m))&&(j.H≤q))&&(j.W≤w))
def Ng(j:Ak)(l:Ak):Option (Bool):=
 some ((j.Row<l.Row)||((j.Row=l.Row)&&(j.Col<l.Col)))
def OU(j:Ak)(l:Ak):Option (Bool):=
 AC (AY .i64 (l.Row+l.H)) λ(m:Int)=>
 AC (gd ((decide (j.Row<m))==true) (AY .i64 (j.Row+j.H))) λ(q:Int)=>
 AC (gd (((j.Row<m)&&(l.Row<q))==true) (AY .i64 (l.Col+l.W))) λ(w:Int)=>
 AC (gd ((((j.Row<m)&&(l.Row<q))&&(j.Col<w))==true) (AY .i64 (j.Col+j.W))) λ(A:Int)=>
 some ((((j.Row<m)&&(l.Row<q))&&(j.Col<w))&&(l.Col<A))
def QR(j:Ak)(l:Ak):Option (Bool):=
 AC (OU l j) λ(m:Bool)=>
 some m
def NG(m:Ak)(l:List Ak)(j:Int):Option (Int ⊕ (Ax Unit Int)):=
 if(decide (j<(l.length:Int))) then(
 AC (AN l j) λ(q:Ak)=>
 AC (QR m q) λ(w:Bool)=>
 if w then(
 some (.inr (.ext j))
 ) else(
 AC (AY .i64 (j+1)) λ(A:Int)=>
 some (.inl A)
 )
 ) else(
 some (.inr (.nrm ()))
 )
def Pw(j:Ak)(l:List Ak):Option (Int):=
 BA (iter (λ(a:Int)=>NG j l a) 0) λ(m:Unit)=>
 some (-1)
def Lb(j:Ak)(l:List Ak):Option (Bool):=
 AC (Pw j l) λ(m:Int)=>
 some (decide (0≤m))
def Nc(l:BF)(j:Int):Option (Int ⊕ (Ax Unit Int)):=
 if(decide (j<(l.Merges.length:Int))) then(
 AC (AN l.Merges j) λ(m:Ak)=>
 AC (NW m l.Rows l.Cols) λ(q:Bool)=>
 if(!q) then(
 some (.inr (.ext 2))
 ) else(
 if((m.H=1)&&(m.W=1)) then(
 some (.inr (.ext 4))
 ) else(
 AC (gd ((decide (0<j))==true) (AY .i64 (j-1))) λ(w:Int)=>
 AC (gd ((decide (0<j))==true) (AN l.Merges w)) λ(A:Ak)=>
 AC (gd ((decide (0<j))==true) (Ng A m)) λ(B:Bool)=>
 if((0<j)&&(!B)) then(
 some (.inr (.ext 5))
 ) else(
 AC (DX l.Merges 0 j) λ(C:List Ak)=>
 AC (Lb m C) λ(E:Bool)=>
 if E then(
 some (.inr (.ext 21))
 ) else(
 AC (AY .i64 (j+1)) λ(F:Int)=>
 some (.inl F)
 )
 )
 )
 )
 ) else(
 some (.inr (.nrm ()))
 )
def M3(j:BF):Option (Int):=
 if((((j.Rows<0)||(2147483647<j.Rows))||(j.Cols<0))||(2147483647<j.Cols)) then(
 some 2
 ) else(
 AC (On j.Cells j.Rows j.Cols false) λ(l:Int)=>
 if(!(l=0)) then(
 some l
 ) else(
 BA (iter (λ(a:Int)=>Nc j a) 0) λ(m:Unit)=>
 some 0
 )
 )
def NC(j:Int)(q:List Ao)(l:Int):Option (Int ⊕ (Ax Unit Int)):=
 if(decide (l<(q.length:Int))) then(
 AC (AN q l) λ(m:Ao)=>
 if(((j=2)&&((!(m.Text=[]))||(0<(m.Attrs.length:Int))))||((j=6)&&(!(m.Ref=0)))) then(
 some (.inr (.ext 4))
 ) else(
 AC (AY .i64 (l+1)) λ(w:Int)=>
 some (.inl w)
 )
 ) else(
 some (.inr (.nrm ()))
 )
def M5(j:Int)(l:List Ao):Option (Int):=
 BA (iter (λ(a:Int)=>NC j l a) 0) λ(m:Unit)=>
 some 0
def JZ(m:List UInt8)(l:Int):Option (Int ⊕ (Ax Unit Bool)):=
 if(decide (l<(m.length:Int))) then(
 AC (AN m l) λ(j:UInt8)=>
 if(((j.toNat:Int)<97)||(122<(j.toNat:Int))) then(
 some (.inr (.ext false))
 ) else(
 AC (AY .i64 (l+1)) λ(q:Int)=>
 some (.inl q)
 )
 ) else(
 some (.inr (.nrm ()))
 )
def KT(j:List UInt8):Option (Bool):=
 AC (gd (((j=[])||(200<(j.length:Int)))==false) (AY .i64 ((j.length:Int)-1))) λ(m:Int)=>
 AC (gd (((j=[])||(200<(j.length:Int)))==false) (AN j m)) λ(l:UInt8)=>
 if(((j=[])||(200<(j.length:Int)))||((l.toNat:Int)=97)) then(
 some false
 ) else(
 BA (iter (λ(a:Int)=>JZ j a) 0) λ(q:Unit)=>
 some true
 )
def JY(j:A3):Option (Int):=
 if((!(j.Kind=0))&&(!(j.Kind=1))) then(
 some 8
 ) else(
 if((((((j.Clock<1)||(1073741824<j.Clock))||(j.Site<0))||(1000<j.Site))||(j.Item<1))||(1073741824<j.Item)) then(
 some 2
 ) else(
 AC (
 if((j.Kind=0)&&((!(j.Name=[]))||(!(j.Value=[])))) then(
 some ((j.Kind=0)&&((!(j.Name=[]))||(!(j.Value=[]))))
 ) else(
 some ((j.Kind=1)&&((!(j.Parent=0))||(!(j.Place=[]))))
 )
 ) λ(m:Bool)=>
 if m then(
 some 4
 ) else(
 if((j.Kind=0)&&((j.Parent<(-1))||(1073741824<j.Parent))) then(
 some 2
 ) else(
 AC (gd ((decide (j.Kind=0))==true) (KT j.Place)) λ(l:Bool)=>
 AC (
 if((j.Kind=0)&&(!l)) then(
 some ((j.Kind=0)&&(!l))
 ) else(
 AC (gd ((decide (j.Kind=1))==true) (MU j.Name)) λ(q:Bool)=>
 some ((j.Kind=1)&&(!q))
 )
 ) λ(w:Bool)=>
 if w then(
 some 9
 ) else(
 AC (gd (((j.Kind=1)&&(!(j.Value=[])))==true) (Ld j.Value)) λ(A:Bool)=>
 if(((j.Kind=1)&&(!(j.Value=[])))&&(!A)) then(
 some 23
 ) else(
 some 0
 )
 )
 )
 )
 )
 )
def J8(j:A3)(l:A3):Option (Int):=
 AC (F1 j.Clock l.Clock) λ(m:Int)=>
 AC (F1 j.Site l.Site) λ(q:Int)=>
 AC (H8 [m,q]) λ(w:Int)=>
 some w
def Jk(l:List A3)(j:Int):Option (Int ⊕ (Ax Unit Int)):=
 if(decide (j<(l.length:Int))) then(
 AC (AN l j) λ(m:A3)=>
 AC (JY m) λ(q:Int)=>
 if(!(q=0)) then(
 some (.inr (.ext q))
 ) else(
 AC (gd ((decide (0<j))==true) (AY .i64 (j-1))) λ(w:Int)=>
 AC (gd ((decide (0<j))==true) (AN l w)) λ(A:A3)=>
 AC (gd ((decide (0<j))==true) (J8 A m)) λ(B:Int)=>
 if((0<j)&&(0≤B)) then(
 some (.inr (.ext 5))
 ) else(
 AC (AY .i64 (j+1)) λ(C:Int)=>
 some (.inl C)
 )
 )
 ) else(
 some (.inr (.nrm ()))
 )
def Jx(j:List A3):Option (Int):=
 BA (iter (λ(a:Int)=>Jk j a) 0) λ(l:Unit)=>
 some 0
def Dg(n1:Ac):Option (Int):=
 if((n1.ID<1)||(1073741824<n1.ID)) then(
 some 2
 ) else(
 if(((n1.Kind<0)||(13≤n1.Kind))||(!((decide (n1.ID=1))==(decide (n1.Kind=0))))) then(
 some 8
 ) else(
 AC (Kc n1.Attrs) λ(w:Int)=>
 if(!(w=0)) then(
 some w
 ) else(
 AC (H6 n1.Kind) λ(l:Bool)=>
 AC (gd (l==false) (Hl n1.Kind)) λ(m:Bool)=>
 AC (GL n1.Kind) λ(j:Bool)=>
 AC (
 if(((!(l||m))&&(0<(n1.Flow.length:Int)))==false) then(
 if((!j)==true) then(
 AC (Mf n1.Grid (BF.mk 0 0 [] [])) λ(A:Bool)=>
 AC (gd ((((!(l||m))&&(0<(n1.Flow.length:Int)))||((!j)&&(!A)))==false) (Hn n1.Kind)) λ(C:Bool)=>
 some ((((!(l||m))&&(0<(n1.Flow.length:Int)))||((!j)&&(!A)))||((!C)&&(0<(n1.Draw.length:Int))))
 ) else(
 AC (gd ((((!(l||m))&&(0<(n1.Flow.length:Int)))||((!j)&&false))==false) (Hn n1.Kind)) λ(E:Bool)=>
 some ((((!(l||m))&&(0<(n1.Flow.length:Int)))||((!j)&&false))||((!E)&&(0<(n1.Draw.length:Int))))
 )
 ) else(
 AC (gd ((((!(l||m))&&(0<(n1.Flow.length:Int)))||false)==false) (Hn n1.Kind)) λ(q:Bool)=>
 some ((((!(l||m))&&(0<(n1.Flow.length:Int)))||false)||((!q)&&(0<(n1.Draw.length:Int))))
 )
 ) λ(F:Bool)=>
 if F then(
 some 4
 ) else(
 if(l||m) then(
 AC (JM n1.Flow l) λ(I:Int)=>
 some I
 ) else(
 if j then(
 AC (M3 n1.Grid) λ(B:Int)=>
 if(!(B=0)) then(
 some B
 ) else(
 AC (M5 n1.Kind n1.Grid.Cells) λ(J:Int)=>
 some J
 )
 ) else(
 AC (Jx n1.Draw) λ(M:Int)=>
 some M
 )
 )
 )
 )
 )
 )
def HA(w:List An)(q:Int)(j:List Int):Option ((Int × (List Int)) ⊕ (List Int)):=
 if(decide (q<(w.length:Int))) then(
 AC (
 AC (AN w q) λ(A:An)=>
 if(!(A.Ref=0)) then(
 AC (app 8 j [A.Ref]) λ(l:List Int)=>
 some l
 ) else(
 some j
 )
 ) λ(m:List Int)=>
 AC (AY .i64 (q+1)) λ(B:Int)=>
 some (.inl (B,m))
 ) else(
 some (.inr j)
 )
def Kx(l:List An):Option ((List Int)):=
 AC (iter (λ(a:Int × (List Int))=>HA l a.1 a.2) (0,[])) λ(j:List Int)=>
 some j
def Ee(n1:Ac)(q:Int)(j:List Int):Option ((Int × (List Int)) ⊕ (List Int)):=
 if(decide (q<(n1.Grid.Cells.length:Int))) then(
 AC (
 AC (AN n1.Grid.Cells q) λ(w:Ao)=>
 if(!(w.Ref=0)) then(
 AC (app 8 j [w.Ref]) λ(l:List Int)=>
 some l
 ) else(
 some j
 )
 ) λ(m:List Int)=>
 AC (AY .i64 (q+1)) λ(A:Int)=>
 some (.inl (A,m))
 ) else(
 some (.inr j)
 )
def H1(n1:Ac):Option ((List Int)):=
 AC (Kx n1.Flow) λ(l:List Int)=>
 AC (iter (λ(a:Int × (List Int))=>Ee n1 a.1 a.2) (0,l)) λ(j:List Int)=>
 some j
def Lz(n1:Ac)(j:Int):Option (Int):=
 if(decide (n1.ID<j)) then(
 some (-1)
 ) else(
 if(decide (j<n1.ID)) then(
 some 1
 ) else(
 some 0
 )
 )
def IC(A:List Ac)(j:Int)(l:Int)(m:Int):Option ((Int × Int) ⊕ Int):=
 if(decide (l<m)) then(
 AC (AY .i64 (l+m)) λ(q:Int)=>
 AC (AN A (IntKind.i64.wrap (FO .u64 (IntKind.u64.wrap q) 1))) λ(B:Ac)=>
 AC (Lz B j) λ(C:Int)=>
 if(decide (C<0)) then(
 AC (AY .i64 ((IntKind.i64.wrap (FO .u64 (IntKind.u64.wrap q) 1))+1)) λ(w:Int)=>
 some (.inl (w,m))
 ) else(
 some (.inl (l,(IntKind.i64.wrap (FO .u64 (IntKind.u64.wrap q) 1))))
 )
 ) else(
 some (.inr l)
 )
def O4(l:List Ac)(j:Int):Option (Int × Bool):=
 AC (iter (λ(a:Int × Int)=>IC l j a.1 a.2) (0,(l.length:Int))) λ(i8:Int)=>
 AC (gd ((decide (i8<(l.length:Int)))==true) (AN l i8)) λ(m:Ac)=>
 AC (gd ((decide (i8<(l.length:Int)))==true) (Lz m j)) λ(q:Int)=>
 some (i8,((i8<(l.length:Int))&&(q=0)))
def Fm(d1:Aa)(j:Int):Option (Int × Bool):=
 CO (O4 d1.Nodes j) λ(l:Int) (m:Bool)=>
 some (l,m)
def OK(l:List Int)(v1:Int)(j:Int):Option (Int ⊕ (Ax Unit Int)):=
 if(decide (j<(l.length:Int))) then(
 AC (AN l j) λ(m:Int)=>
 if(decide (v1=m)) then(
 some (.inr (.ext j))
 ) else(
 AC (AY .i64 (j+1)) λ(q:Int)=>
 some (.inl q)
 )
 ) else(
 some (.inr (.nrm ()))
 )
def RR(j:List Int)(v1:Int):Option (Int):=
 BA (iter (λ(a:Int)=>OK j v1 a) 0) λ(l:Unit)=>
 some (-1)
def L8(j:List Int)(v1:Int):Option (Bool):=
 AC (RR j v1) λ(l:Int)=>
 some (decide (0≤l))
def OH(j:Int)(l:Int):Option (Bool):=
 AC (
 if(decide (j=0)) then(
 some [1,6,7,10,11,12]
 ) else(
 if(decide (j=1)) then(
 some [2,4,5,10]
 ) else(
 if(decide (j=3)) then(
 some [4,5,10]
 ) else(
 AC (
 if(decide (j=4)) then(
 some (decide (j=4))
 ) else(
 some (decide (j=12))
 )
 ) λ(m:Bool)=>
 if m then(
 some [5]
 ) else(
 if(decide (j=2)) then(
 some [3]
 ) else(
 if(decide (j=7)) then(
 some [8,9]
 ) else(
 some []
 )
 )
 )
 )
 )
 )
 ) λ(q:List Int)=>
 AC (L8 q l) λ(w:Bool)=>
 some w
def IL(d1:Aa)(j:Int)(G3:List Int)(l:Int):Option (Int ⊕ (Ax Unit Int)):=
 if(decide (l<(G3.length:Int))) then(
 AC (AN G3 l) λ(m:Int)=>
 CO (Fm d1 m) λ(q:Int) (w:Bool)=>
 if(!w) then(
 some (.inr (.ext 7))
 ) else(
 AC (AN d1.Nodes q) λ(A:Ac)=>
 AC (OH j A.Kind) λ(B:Bool)=>
 if(!B) then(
 some (.inr (.ext 8))
 ) else(
 AC (AY .i64 (l+1)) λ(C:Int)=>
 some (.inl C)
 )
 )
 ) else(
 some (.inr (.nrm ()))
 )
def Hb(d1:Aa)(j:Int)(G3:List Int):Option (Int):=
 BA (iter (λ(a:Int)=>IL d1 j G3 a) 0) λ(l:Unit)=>
 some 0
def Gr(d1:Aa)(j:Int):Option (Int ⊕ (Ax Unit Int)):=
 if(decide (j<(d1.Nodes.length:Int))) then(
 AC (AN d1.Nodes j) λ(l:Ac)=>
 AC (H1 l) λ(q:List Int)=>
 AC (Hb d1 l.Kind q) λ(m:Int)=>
 if(!(m=0)) then(
 some (.inr (.ext m))
 ) else(
 AC (AY .i64 (j+1)) λ(w:Int)=>
 some (.inl w)
 )
 ) else(
 some (.inr (.nrm ()))
 )
def Ez(d1:Aa)(j:Int):Option (Int ⊕ (Ax Unit Int)):=
 if(decide (j<(d1.Nodes.length:Int))) then(
 AC (AN d1.Nodes j) λ(l:Ac)=>
 AC (Dg l) λ(A:Int)=>
 if(!(A=0)) then(
 some (.inr (.ext A))
 ) else(
 AC (gd ((((j=0)&&(!(l.ID=1)))==false)&&((decide (0<j))==true)) (AY .i64 (j-1))) λ(m:Int)=>
 AC (gd ((((j=0)&&(!(l.ID=1)))==false)&&((decide (0<j))==true)) (AN d1.Nodes m)) λ(q:Ac)=>
 if(((j=0)&&(!(l.ID=1)))||((0<j)&&(l.ID≤q.ID))) then(
 some (.inr (.ext 5))
 ) else(
 AC (AY .i64 (j+1)) λ(w:Int)=>
 some (.inl w)
 )
 )
 ) else(
 some (.inr (.nrm ()))
 )
def E9(d1:Aa):Option (Int):=
 if(decide ((d1.Nodes.length:Int)=0)) then(
 some 11
 ) else(
 BA (iter (λ(a:Int)=>Ez d1 a) 0) λ(j:Unit)=>
 BA (iter (λ(a:Int)=>Gr d1 a) 0) λ(l:Unit)=>
 some 0
 )
def Kh(m:List Ao)(l:Int)(g2:BF):Option ((Int × BF) ⊕ BF):=
 if(decide (l<(m.length:Int))) then(
 AC (AN g2.Cells l) λ(j:Ao)=>
 AC (app 32 [] j.Attrs) λ(q:List AE)=>
 AC (AY .i64 (l+1)) λ(w:Int)=>
 some (.inl (w,(BF.mk g2.Rows g2.Cols (g2.Cells.set l.toNat (Ao.mk j.Row j.Col j.Text j.Ref q)) g2.Merges)))
 ) else(
 some (.inr g2)
 )
def ON(n1:Ac):Option (Ac):=
 AC (app 32 [] n1.Attrs) λ(l:List AE)=>
 AC (Mx n1.Flow) λ(m:List An)=>
 AC (app 88 [] n1.Draw) λ(q:List A3)=>
 AC (app 32 [] n1.Grid.Merges) λ(w:List Ak)=>
 AC (app 64 [] n1.Grid.Cells) λ(j:List Ao)=>
 AC (iter (λ(a:Int × BF)=>Kh j a.1 a.2) (0,(BF.mk n1.Grid.Rows n1.Grid.Cols j w))) λ(g4:BF)=>
 some (Ac.mk n1.ID n1.Kind l m g4 q)
def Nw(d1:Aa)(l:Int)(j:Int):Option (Int ⊕ (Ax Unit Int)):=
 if(decide (j<(d1.Nodes.length:Int))) then(
 AC (AN d1.Nodes j) λ(m:Ac)=>
 if(decide (m.ID=l)) then(
 some (.inr (.ext j))
 ) else(
 AC (AY .i64 (j+1)) λ(q:Int)=>
 some (.inl q)
 )
 ) else(
 some (.inr (.nrm ()))
 )
def Gf(d1:Aa)(j:Int):Option (Int):=
 BA (iter (λ(a:Int)=>Nw d1 j a) 0) λ(l:Unit)=>
 some (-1)
end
noncomputable section
def LW(j:Int):Option (Bool):=
 some ((((j=1)||(j=3))||(j=4))||(j=12))
def NT(j:Int)(l:Int):Option (Bool):=
 AC (
 if(decide (l=1)) then(
 some (decide (l=1))
 ) else(
 if(decide (l=6)) then(
 some (decide (l=6))
 ) else(
 if(decide (l=7)) then(
 some (decide (l=7))
 ) else(
 if(decide (l=11)) then(
 some (decide (l=11))
 ) else(
 some (decide (l=12))
 )
 )
 )
 )
 ) λ(m:Bool)=>
 if m then(
 some (decide (j=0))
 ) else(
 if(decide (l=10)) then(
 some (((j=0)||(j=1))||(j=3))
 ) else(
 if(decide (l=2)) then(
 some (decide (j=1))
 ) else(
 if(decide (l=4)) then(
 some ((j=1)||(j=3))
 ) else(
 if(decide (l=5)) then(
 AC (LW j) λ(q:Bool)=>
 some q
 ) else(
 if(decide (l=3)) then(
 some (decide (j=2))
 ) else(
 AC (
 if(decide (l=8)) then(
 some (decide (l=8))
 ) else(
 some (decide (l=9))
 )
 ) λ(w:Bool)=>
 if w then(
 some (decide (j=7))
 ) else(
 some false
 )
 )
 )
 )
 )
 )
 )
def RN(j:Int):Option (Bool):=
 some ((j=0)||(j=7))
def N3(j:BF):Option (Bool):=
 some ((((j.Rows=0)&&(j.Cols=0))&&((j.Cells.length:Int)=0))&&((j.Merges.length:Int)=0))
def OE(j:Int):Option (Bool):=
 some ((j=2)||(j=6))
def PK(j:Int):Option (Bool):=
 some (((j=8)||(j=9))||(j=10))
def Py(j:List UInt8):Option (Bool):=
 QG j
def E8(l:List UInt8)(j:(Nat)):Option ((Nat) ⊕ (Ax Unit Bool)):=
 if(decide (j<l.length)) then(
 AC (gd ((decide (((Fh l j).1:Int)=10))==false) (Lq (IntKind.i64.wrap ((Fh l j).1:Int)))) λ(m:Bool)=>
 if((((Fh l j).1:Int)=10)||(!m)) then(
 some (.inr (.ext false))
 ) else(
 some (.inl (j+(Fh l j).2))
 )
 ) else(
 some (.inr (.nrm ()))
 )
def MY(j:List UInt8):Option (Bool):=
 AC (Py j) λ(l:Bool)=>
 if(!l) then(
 some false
 ) else(
 BA (iter (λ(a:(Nat))=>E8 j a) 0) λ(m:Unit)=>
 some true
 )
def O7(j:Ao):Option (Bool):=
 some (((j.Text=[])&&(j.Ref=0))&&((j.Attrs.length:Int)=0))
def Nx(B:List Ao)(q:Int)(w:Int)(l:Bool)(m:Int):Option (Int ⊕ (Ax Unit Int)):=
 if(decide (m<(B.length:Int))) then(
 AC (AN B m) λ(j:Ao)=>
 AC (AY .i64 (q-1)) λ(M:Int)=>
 AC (Ck j.Row 0 M) λ(C:Bool)=>
 AC (gd ((!C)==false) (AY .i64 (w-1))) λ(O:Int)=>
 AC (gd ((!C)==false) (Ck j.Col 0 O)) λ(I:Bool)=>
 AC (gd (((!C)||(!I))==false) (Ck j.Ref 0 1073741824)) λ(T:Bool)=>
 if(((!C)||(!I))||(!T)) then(
 some (.inr (.ext 2))
 ) else(
 AC (MY j.Text) λ(U:Bool)=>
 if(!U) then(
 some (.inr (.ext 23))
 ) else(
 AC (Jl j.Attrs false) λ(J:Int)=>
 if(!(J=0)) then(
 some (.inr (.ext J))
 ) else(
 AC (gd ((!l)==true) (O7 j)) λ(V:Bool)=>
 if((!l)&&V) then(
 some (.inr (.ext 4))
 ) else(
 AC (gd ((decide (0<m))==true) (AY .i64 (m-1))) λ(X:Int)=>
 AC (gd ((decide (0<m))==true) (AN B X)) λ(A:Ao)=>
 AC (gd ((((decide (0<m))==true)&&((decide (j.Row<A.Row))==false))&&((decide (j.Row=A.Row))==true)) (AY .i64 (m-1))) λ(Z:Int)=>
 AC (gd ((((decide (0<m))==true)&&((decide (j.Row<A.Row))==false))&&((decide (j.Row=A.Row))==true)) (AN B Z)) λ(E:Ao)=>
 if((0<m)&&((j.Row<A.Row)||((j.Row=A.Row)&&(j.Col≤E.Col)))) then(
 some (.inr (.ext 5))
 ) else(
 AC (AY .i64 (m+1)) λ(F:Int)=>
 some (.inl F)
 )
 )
 )
 )
 )
 ) else(
 some (.inr (.nrm ()))
 )
def NX(q:List Ao)(j:Int)(l:Int)(m:Bool):Option (Int):=
 BA (iter (λ(a:Int)=>Nx q j l m a) 0) λ(w:Unit)=>
 some 0
def M8(q:Ak)(j:Int)(l:Int):Option (Bool):=
 AC (AY .i64 (j-1)) λ(B:Int)=>
 AC (Ck q.Row 0 B) λ(m:Bool)=>
 AC (gd (m==true) (AY .i64 (l-1))) λ(C:Int)=>
 AC (gd (m==true) (Ck q.Col 0 C)) λ(w:Bool)=>
 AC (gd ((m&&w)==true) (AY .i64 (j-q.Row))) λ(E:Int)=>
 AC (gd ((m&&w)==true) (Ck q.H 1 E)) λ(A:Bool)=>
 AC (gd (((m&&w)&&A)==true) (AY .i64 (l-q.Col))) λ(F:Int)=>
 AC (gd (((m&&w)&&A)==true) (Ck q.W 1 F)) λ(I:Bool)=>
 some (((m&&w)&&A)&&I)
def Ok(j:Ak)(l:Ak):Option (Bool):=
 AC (AY .i64 (j.Row+j.H)) λ(m:Int)=>
 AC (AY .i64 (l.Row+l.H)) λ(q:Int)=>
 AC (gd ((decide ((max j.Row l.Row)<(min m q)))==true) (AY .i64 (j.Col+j.W))) λ(w:Int)=>
 AC (gd ((decide ((max j.Row l.Row)<(min m q)))==true) (AY .i64 (l.Col+l.W))) λ(A:Int)=>
 some (((max j.Row l.Row)<(min m q))&&((max j.Col l.Col)<(min w A)))
def OJ(q:BF)(w:Int)(A:Ak)(j:Int):Option (Int ⊕ (Ax Unit (Int ⊕ (Ax Unit Int)))):=
 if(decide (j<w)) then(
 AC (AN q.Merges j) λ(l:Ak)=>
 AC (Ok A l) λ(B:Bool)=>
 if B then(
 some (.inr (.ext (.inr (.ext 21))))
 ) else(
 AC (AY .i64 (j+1)) λ(m:Int)=>
 some (.inl m)
 )
 ) else(
 some (.inr (.nrm ()))
 )
def Mi(m:BF)(j:Int):Option (Int ⊕ (Ax Unit Int)):=
 if(decide (j<(m.Merges.length:Int))) then(
 AC (AN m.Merges j) λ(l:Ak)=>
 AC (M8 l m.Rows m.Cols) λ(A:Bool)=>
 if(!A) then(
 some (.inr (.ext 2))
 ) else(
 if((l.H=1)&&(l.W=1)) then(
 some (.inr (.ext 4))
 ) else(
 AC (gd ((decide (0<j))==true) (AY .i64 (j-1))) λ(B:Int)=>
 AC (gd ((decide (0<j))==true) (AN m.Merges B)) λ(q:Ak)=>
 AC (gd ((((decide (0<j))==true)&&((decide (l.Row<q.Row))==false))&&((decide (l.Row=q.Row))==true)) (AY .i64 (j-1))) λ(C:Int)=>
 AC (gd ((((decide (0<j))==true)&&((decide (l.Row<q.Row))==false))&&((decide (l.Row=q.Row))==true)) (AN m.Merges C)) λ(E:Ak)=>
 if((0<j)&&((l.Row<q.Row)||((l.Row=q.Row)&&(l.Col≤E.Col)))) then(
 some (.inr (.ext 5))
 ) else(
 BA (iter (λ(a:Int)=>OJ m j l a) 0) λ(F:Unit)=>
 AC (AY .i64 (j+1)) λ(w:Int)=>
 some (.inl w)
 )
 )
 )
 ) else(
 some (.inr (.nrm ()))
 )
def O5(j:BF):Option (Int):=
 AC (Ck j.Rows 0 2147483647) λ(l:Bool)=>
 AC (gd ((!l)==false) (Ck j.Cols 0 2147483647)) λ(q:Bool)=>
 if((!l)||(!q)) then(
 some 2
 ) else(
 AC (NX j.Cells j.Rows j.Cols false) λ(m:Int)=>
 if(!(m=0)) then(
 some m
 ) else(
 BA (iter (λ(a:Int)=>Mi j a) 0) λ(w:Unit)=>
 some 0
 )
 )
def N7(j:Int)(q:List Ao)(l:Int):Option (Int ⊕ (Ax Unit Int)):=
 if(decide (l<(q.length:Int))) then(
 AC (gd ((decide (j=2))==true) (AN q l)) λ(m:Ao)=>
 AC (gd ((((j=2)&&((!(m.Text=[]))||(0<(m.Attrs.length:Int))))==false)&&((decide (j=6))==true)) (AN q l)) λ(w:Ao)=>
 if(((j=2)&&((!(m.Text=[]))||(0<(m.Attrs.length:Int))))||((j=6)&&(!(w.Ref=0)))) then(
 some (.inr (.ext 4))
 ) else(
 AC (AY .i64 (l+1)) λ(A:Int)=>
 some (.inl A)
 )
 ) else(
 some (.inr (.nrm ()))
 )
def Og(j:Int)(l:List Ao):Option (Int):=
 BA (iter (λ(a:Int)=>N7 j l a) 0) λ(m:Unit)=>
 some 0
def KY(m:List UInt8)(l:Int):Option (Int ⊕ (Ax Unit Bool)):=
 if(decide (l<(m.length:Int))) then(
 AC (AN m l) λ(j:UInt8)=>
 if(((j.toNat:Int)<97)||(122<(j.toNat:Int))) then(
 some (.inr (.ext false))
 ) else(
 AC (AY .i64 (l+1)) λ(q:Int)=>
 some (.inl q)
 )
 ) else(
 some (.inr (.nrm ()))
 )
def NS(j:List UInt8):Option (Bool):=
 BA (iter (λ(a:Int)=>KY j a) 0) λ(q:Unit)=>
 AC (gd (((1≤(j.length:Int))&&((j.length:Int)≤200))==true) (AY .i64 ((j.length:Int)-1))) λ(m:Int)=>
 AC (gd (((1≤(j.length:Int))&&((j.length:Int)≤200))==true) (AN j m)) λ(l:UInt8)=>
 some (((1≤(j.length:Int))&&((j.length:Int)≤200))&&(!((l.toNat:Int)=97)))
def Lc(j:A3)(l:A3):Option (Bool):=
 some ((j.Clock<l.Clock)||((j.Clock=l.Clock)&&(j.Site<l.Site)))
def NL(m:List A3)(l:Int):Option (Int ⊕ (Ax Unit Int)):=
 if(decide (l<(m.length:Int))) then(
 AC (AN m l) λ(j:A3)=>
 if((!(j.Kind=0))&&(!(j.Kind=1))) then(
 some (.inr (.ext 8))
 ) else(
 AC (Ck j.Clock 1 1073741824) λ(q:Bool)=>
 AC (gd ((!q)==false) (Ck j.Site 0 1000)) λ(w:Bool)=>
 AC (gd (((!q)||(!w))==false) (Ck j.Item 1 1073741824)) λ(A:Bool)=>
 if(((!q)||(!w))||(!A)) then(
 some (.inr (.ext 2))
 ) else(
 BA (
 if(decide (j.Kind=0)) then(
 if((!(j.Name=[]))||(!(j.Value=[]))) then(
 some (.ext (.inr (.ext 4)))
 ) else(
 AC (Ck j.Parent (-1) 1073741824) λ(B:Bool)=>
 if(!B) then(
 some (.ext (.inr (.ext 2)))
 ) else(
 AC (NS j.Place) λ(C:Bool)=>
 if(!C) then(
 some (.ext (.inr (.ext 9)))
 ) else(
 some (.nrm ())
 )
 )
 )
 ) else(
 if((!(j.Parent=0))||(!(j.Place=[]))) then(
 some (.ext (.inr (.ext 4)))
 ) else(
 AC (Ll j.Name) λ(E:Bool)=>
 if(!E) then(
 some (.ext (.inr (.ext 9)))
 ) else(
 AC (gd ((!(j.Value=[]))==true) (LO j.Value)) λ(F:Bool)=>
 if((!(j.Value=[]))&&(!F)) then(
 some (.ext (.inr (.ext 23)))
 ) else(
 some (.nrm ())
 )
 )
 )
 )
 ) λ(T:Unit)=>
 AC (gd ((decide (0<l))==true) (AY .i64 (l-1))) λ(I:Int)=>
 AC (gd ((decide (0<l))==true) (AN m I)) λ(J:A3)=>
 AC (gd ((decide (0<l))==true) (Lc J j)) λ(M:Bool)=>
 if((0<l)&&(!M)) then(
 some (.inr (.ext 5))
 ) else(
 AC (AY .i64 (l+1)) λ(O:Int)=>
 some (.inl O)
 )
 )
 )
 ) else(
 some (.inr (.nrm ()))
 )
def Nt(j:List A3):Option (Int):=
 BA (iter (λ(a:Int)=>NL j a) 0) λ(l:Unit)=>
 some 0
def OL(n1:Ac):Option (Int):=
 AC (Ck n1.ID 1 1073741824) λ(F:Bool)=>
 if(!F) then(
 some 2
 ) else(
 AC (Ck n1.Kind 0 12) λ(I:Bool)=>
 if(((!I)||((n1.ID=1)&&(!(n1.Kind=0))))||((!(n1.ID=1))&&(n1.Kind=0))) then(
 some 8
 ) else(
 AC (Jl n1.Attrs false) λ(B:Int)=>
 if(!(B=0)) then(
 some B
 ) else(
 AC (LW n1.Kind) λ(j:Bool)=>
 AC (gd (j==false) (RN n1.Kind)) λ(l:Bool)=>
 AC (gd (((0<(n1.Flow.length:Int))&&(!(j||l)))==false) (N3 n1.Grid)) λ(m:Bool)=>
 AC (gd ((((0<(n1.Flow.length:Int))&&(!(j||l)))==false)&&((!m)==true)) (OE n1.Kind)) λ(C:Bool)=>
 AC (gd (((((0<(n1.Flow.length:Int))&&(!(j||l)))||((!m)&&(!C)))==false)&&((decide (0<(n1.Draw.length:Int)))==true)) (PK n1.Kind)) λ(J:Bool)=>
 if((((0<(n1.Flow.length:Int))&&(!(j||l)))||((!m)&&(!C)))||((0<(n1.Draw.length:Int))&&(!J))) then(
 some 4
 ) else(
 if(j||l) then(
 AC (Iv n1.Flow j) λ(M:Int)=>
 some M
 ) else(
 AC (OE n1.Kind) λ(q:Bool)=>
 if q then(
 AC (O5 n1.Grid) λ(E:Int)=>
 if(!(E=0)) then(
 some E
 ) else(
 AC (Og n1.Kind n1.Grid.Cells) λ(w:Int)=>
 some w
 )
 ) else(
 AC (Nt n1.Draw) λ(A:Int)=>
 some A
 )
 )
 )
 )
 )
 )
def PV(n1:Ac)(q:Int)(j:List Int):Option ((Int × (List Int)) ⊕ (List Int)):=
 if(decide (q<(n1.Grid.Cells.length:Int))) then(
 AC (
 AC (AN n1.Grid.Cells q) λ(w:Ao)=>
 if(!(w.Ref=0)) then(
 AC (app 8 j [w.Ref]) λ(l:List Int)=>
 some l
 ) else(
 some j
 )
 ) λ(m:List Int)=>
 AC (AY .i64 (q+1)) λ(A:Int)=>
 some (.inl (A,m))
 ) else(
 some (.inr j)
 )
def Qy(n1:Ac)(w:Int)(j:List Int):Option ((Int × (List Int)) ⊕ (List Int)):=
 if(decide (w<(n1.Flow.length:Int))) then(
 AC (
 AC (AN n1.Flow w) λ(q:An)=>
 if(!(q.Ref=0)) then(
 AC (app 8 j [q.Ref]) λ(l:List Int)=>
 some l
 ) else(
 some j
 )
 ) λ(m:List Int)=>
 AC (AY .i64 (w+1)) λ(A:Int)=>
 some (.inl (A,m))
 ) else(
 some (.inr j)
 )
def Ma(n1:Ac):Option ((List Int)):=
 AC (iter (λ(a:Int × (List Int))=>Qy n1 a.1 a.2) (0,[])) λ(j:List Int)=>
 AC (iter (λ(a:Int × (List Int))=>PV n1 a.1 a.2) (0,j)) λ(l:List Int)=>
 some l
def LG(d1:Aa)(j:Int)(G3:List Int)(l:Int):Option (Int ⊕ (Ax Unit Int)):=
 if(decide (l<(G3.length:Int))) then(
 AC (AN G3 l) λ(q:Int)=>
 AC (Gf d1 q) λ(m:Int)=>
 if(decide (m<0)) then(
 some (.inr (.ext 7))
 ) else(
 AC (AN d1.Nodes m) λ(w:Ac)=>
 AC (NT j w.Kind) λ(A:Bool)=>
 if(!A) then(
 some (.inr (.ext 8))
 ) else(
 AC (AY .i64 (l+1)) λ(B:Int)=>
 some (.inl B)
 )
 )
 ) else(
 some (.inr (.nrm ()))
 )
def Nv(d1:Aa)(j:Int)(G3:List Int):Option (Int):=
 BA (iter (λ(a:Int)=>LG d1 j G3 a) 0) λ(l:Unit)=>
 some 0
def Jn(d1:Aa)(j:Int):Option (Int ⊕ (Ax Unit Int)):=
 if(decide (j<(d1.Nodes.length:Int))) then(
 AC (AN d1.Nodes j) λ(l:Ac)=>
 AC (Ma l) λ(q:List Int)=>
 AC (Nv d1 l.Kind q) λ(m:Int)=>
 if(!(m=0)) then(
 some (.inr (.ext m))
 ) else(
 AC (AY .i64 (j+1)) λ(w:Int)=>
 some (.inl w)
 )
 ) else(
 some (.inr (.nrm ()))
 )
def Lp(d1:Aa)(j:Int):Option (Int ⊕ (Ax Unit Int)):=
 if(decide (j<(d1.Nodes.length:Int))) then(
 AC (AN d1.Nodes j) λ(A:Ac)=>
 AC (OL A) λ(B:Int)=>
 if(!(B=0)) then(
 some (.inr (.ext B))
 ) else(
 AC (gd ((decide (j=0))==true) (AN d1.Nodes 0)) λ(l:Ac)=>
 AC (gd ((((j=0)&&(!(l.ID=1)))==false)&&((decide (0<j))==true)) (AY .i64 (j-1))) λ(m:Int)=>
 AC (gd ((((j=0)&&(!(l.ID=1)))==false)&&((decide (0<j))==true)) (AN d1.Nodes m)) λ(q:Ac)=>
 if(((j=0)&&(!(l.ID=1)))||((0<j)&&(A.ID≤q.ID))) then(
 some (.inr (.ext 5))
 ) else(
 AC (AY .i64 (j+1)) λ(w:Int)=>
 some (.inl w)
 )
 )
 ) else(
 some (.inr (.nrm ()))
 )
def M0(d1:Aa):Option (Int):=
 if(decide ((d1.Nodes.length:Int)=0)) then(
 some 11
 ) else(
 BA (iter (λ(a:Int)=>Lp d1 a) 0) λ(j:Unit)=>
 BA (iter (λ(a:Int)=>Jn d1 a) 0) λ(l:Unit)=>
 some 0
 )
end
noncomputable section
def It(w:BF)(j:Int)(l:Int)(q:Int):Option (Int ⊕ (Ax Unit Ak)):=
 if(decide (q<(w.Merges.length:Int))) then(
 AC (AN w.Merges q) λ(m:Ak)=>
 AC (gd ((decide (m.Row≤j))==true) (AY .i64 (j-m.Row))) λ(A:Int)=>
 AC (gd ((((m.Row≤j)&&(A<m.H))&&(m.Col≤l))==true) (AY .i64 (l-m.Col))) λ(B:Int)=>
 if((((m.Row≤j)&&(A<m.H))&&(m.Col≤l))&&(B<m.W)) then(
 some (.inr (.ext m))
 ) else(
 AC (AY .i64 (q+1)) λ(C:Int)=>
 some (.inl C)
 )
 ) else(
 some (.inr (.nrm ()))
 )
def HR(m:BF)(j:Int)(l:Int):Option (Ak):=
 BA (iter (λ(a:Int)=>It m j l a) 0) λ(q:Unit)=>
 some (Ak.mk j l 1 1)
def Ia(A:BF)(l:Int)(m:Int)(w:Int):Option (Int ⊕ (Ax Unit Ak)):=
 if(decide (w<(A.Merges.length:Int))) then(
 AC (AN A.Merges w) λ(j:Ak)=>
 AC (AY .i64 (j.Row+j.H)) λ(B:Int)=>
 AC (AY .i64 (B-1)) λ(C:Int)=>
 AC (Ck l j.Row C) λ(q:Bool)=>
 AC (gd (q==true) (AY .i64 (j.Col+j.W))) λ(E:Int)=>
 AC (gd (q==true) (AY .i64 (E-1))) λ(F:Int)=>
 AC (gd (q==true) (Ck m j.Col F)) λ(I:Bool)=>
 if(q&&I) then(
 some (.inr (.ext j))
 ) else(
 AC (AY .i64 (w+1)) λ(J:Int)=>
 some (.inl J)
 )
 ) else(
 some (.inr (.nrm ()))
 )
def NF(m:BF)(j:Int)(l:Int):Option (Ak):=
 BA (iter (λ(a:Int)=>Ia m j l a) 0) λ(q:Unit)=>
 some (Ak.mk j l 1 1)
end
noncomputable section
structure oY where
 Node:Int
 From:Int
 To:Int
deriving DecidableEq
instance:Inhabited oY:=⟨⟨0,0,0⟩⟩
structure j9 where
 node:Ac
 shown:List Int
 author:List UInt8
deriving DecidableEq
instance:Inhabited j9:=⟨⟨(Ac.mk 0 0 [] [] (BF.mk 0 0 [] []) []),[],[]⟩⟩
def VY:Option (Bool):=
 some true
def Ql:Option (Bool):=
 some true
def Hc(d1:Aa)(j:Int):Option (Int):=
 CO (Fm d1 j) λ(l:Int) (m:Bool)=>
 if m then(
 some l
 ) else(
 some (-1)
 )
end
noncomputable section
end
noncomputable section
structure AB where
 Item:Int
 Parent:Int
 Place:List UInt8
 Attrs:List AE
deriving DecidableEq
instance:Inhabited AB:=⟨⟨0,0,[],[]⟩⟩
@[reducible] def AB.row(x:AB):List RV:=[.int .i64 x.Item,.int .i64 x.Parent,.str x.Place,.sl (x.Attrs.map AE.row)]
end
noncomputable section
def GI(m:List (Int × AB))(l:Int)(j:Int):Option (Int ⊕ (Ax Unit Bool)):=
 if(decide (0<j)) then(
 if(decide (j=l)) then(
 some (.inr (.ext true))
 ) else(
 if(!((AR m j).isSome)) then(
 some (.inr (.ext false))
 ) else(
 AC (AR m j) λ(q:AB)=>
 some (.inl q.Parent)
 )
 )
 ) else(
 some (.inr (.nrm ()))
 )
def Oz(m:List (Int × AB))(m2:List (Int × (List AE)))(j:Int)(l:Int):Option (Bool):=
 BA (iter (λ(a:Int)=>GI m l a) j) λ(q:Unit)=>
 some false
def He(A:List A3)(q:Int)(m:List (Int × AB))(l:List (Int × (List AE))):Option ((Int × (List (Int × AB)) × (List (Int × (List AE)))) ⊕ ((List (Int × AB)) × (List (Int × (List AE))))):=
 if(decide (q<(A.length:Int))) then(
 CO (
 AC (AN A q) λ(j:A3)=>
 if(decide (j.Kind=1)) then(
 AC (Lx ((AR l j.Item).getD []) [(AE.mk j.Name j.Value)]) λ(B:List AE)=>
 some (m,(Ag l j.Item B))
 ) else(
 AC (Oz m l j.Parent j.Item) λ(C:Bool)=>
 if(!C) then(
 some ((Ag m j.Item (AB.mk j.Item j.Parent j.Place [])),l)
 ) else(
 some (m,l)
 )
 )
 ) λ(E:List (Int × AB)) (w:List (Int × (List AE)))=>
 AC (AY .i64 (q+1)) λ(F:Int)=>
 some (.inl (F,E,w))
 ) else(
 some (.inr (m,l))
 )
def Kz(j:List A3):Option ((List (Int × AB)) × (List (Int × (List AE)))):=
 CO (iter (λ(a:Int × (List (Int × AB)) × (List (Int × (List AE))))=>He j a.1 a.2.1 a.2.2) (0,[],[])) λ(l:List (Int × AB)) (m:List (Int × (List AE)))=>
 some (l,m)
def N4(j:List UInt8):Option (Bool):=
 some (!(j=j))
def No(m:List UInt8)(q:List UInt8):Option (Int):=
 AC (N4 m) λ(l:Bool)=>
 AC (N4 q) λ(j:Bool)=>
 if l then(
 if j then(
 some 0
 ) else(
 some (-1)
 )
 ) else(
 if j then(
 some 1
 ) else(
 if(Ap m q) then(
 some (-1)
 ) else(
 if(!(Ap m q||(m=q))) then(
 some 1
 ) else(
 some 0
 )
 )
 )
 )
def KM(j:AB)(l:AB):Option (Int):=
 AC (No j.Place l.Place) λ(m:Int)=>
 AC (F1 j.Item l.Item) λ(q:Int)=>
 AC (H8 [m,q]) λ(w:Int)=>
 some w
def Fu(j:Int)(self:(List (Int × (List AB)))→(List AB)→(List (Int × Bool))→Int→Option ((List (Int × (List AB))) × (List AB) × (List (Int × Bool))))(A:List (Int × List AB))(l:Int)(o2:List AB)(m:List (Int × (List AB)))(w:List (Int × Bool)):Option ((Int × (List AB) × (List (Int × (List AB))) × (List (Int × Bool))) ⊕ (Ax Unit ((List (Int × (List AB))) × (List AB) × (List (Int × Bool))))):=
 if(decide (l<(((AR A j).getD []).length:Int))) then(
 AC (AN ((AR m j).getD []) l) λ(q:AB)=>
 AC (app 56 o2 [q]) λ(B:List AB)=>
 Dv (self m B (Ag w q.Item true) q.Item) λ(C:List (Int × (List AB))) (E:List AB) (F:List (Int × Bool))=>
 AC (AY .i64 (l+1)) λ(I:Int)=>
 some (.inl (I,E,C,F))
 ) else(
 some (.inr (.ext (m,o2,w)))
 )
def Ii(self:(List (Int × (List AB)))→(List AB)→(List (Int × Bool))→Int→Option ((List (Int × (List AB))) × (List AB) × (List (Int × Bool))))(m:List (Int × (List AB)))(q:List AB)(m2:List (Int × Bool))(j:Int):Option ((List (Int × (List AB))) × (List AB) × (List (Int × Bool))):=
 AC (KH KM m j) λ(l:List (Int × List AB))=>
 BA (iter (λ(a:Int × (List AB) × (List (Int × (List AB))) × (List (Int × Bool)))=>Fu j self l a.1 a.2.1 a.2.2.1 a.2.2.2) (0,q,l,m2)) λ(w:Unit)=>
 none
def DW:Nat→(List (Int × (List AB)))→(List AB)→(List (Int × Bool))→Int→Option ((List (Int × (List AB))) × (List AB) × (List (Int × Bool)))
 | 0,_,_,_,_=>none
 | n+1,l,m,m2,j=>Ii (λl m m2 j=>DW n l m m2 j) l m m2 j
def N2(l:List (Int × (List AB)))(m:List AB)(m2:List (Int × Bool))(j:Int):Option ((List (Int × (List AB))) × (List AB) × (List (Int × Bool))):=
 @dite _ (∃n r,DW n l m m2 j=some r) (Classical.propDecidable _) (λh=>DW h.choose l m m2 j) (λ_=>none)
def ND(j:AB)(l:AB):Option (Int):=
 AC (F1 j.Item l.Item) λ(m:Int)=>
 some m
def HM(m:List (Int × (List AE)))(q:List AB)(A:List (Int × AB))(B:List (Int × (List AB)))(l:Int):Option ((List AB) × (List (Int × AB)) × (List (Int × (List AB)))):=
 AC (AR A l) λ(j:AB)=>
 AC (app 56 ((AR B ((AB.mk j.Item j.Parent j.Place ((AR m l).getD [])).Parent)).getD []) [(AB.mk j.Item j.Parent j.Place ((AR m l).getD []))]) λ(C:List AB)=>
 AC (app 56 q [(AB.mk j.Item j.Parent j.Place ((AR m l).getD []))]) λ(w:List AB)=>
 some (w,(Ag A l (AB.mk j.Item j.Parent j.Place ((AR m l).getD []))),(Ag B ((AB.mk j.Item j.Parent j.Place ((AR m l).getD [])).Parent) C))
def IS(A:List (Int × Bool))(q:List AB)(m:Int)(j:List AB):Option ((Int × (List AB)) ⊕ (List AB)):=
 if(decide (m<(q.length:Int))) then(
 AC (
 AC (AN q m) λ(w:AB)=>
 if(!((AR A w.Item).getD false)) then(
 AC (app 56 j [w]) λ(B:List AB)=>
 some B
 ) else(
 some j
 )
 ) λ(l:List AB)=>
 AC (AY .i64 (m+1)) λ(C:Int)=>
 some (.inl (C,l))
 ) else(
 some (.inr j)
 )
def OV(m:List A3):Option ((List AB)):=
 CO (Kz m) λ(q:List (Int × AB)) (w:List (Int × (List AE)))=>
 Lm (λ(a:(List AB) × (List (Int × AB)) × (List (Int × (List AB))))=>a.2.1.map (·.1)) (λ(a:(List AB) × (List (Int × AB)) × (List (Int × (List AB)))) (A:Int)=>HM w a.1 a.2.1 a.2.2 A) ([],q,[]) λ(a:(List AB) × (List (Int × AB)) × (List (Int × (List AB))))=>
 Dv (some a) λ(j:List AB) (I:List (Int × AB)) (B:List (Int × (List AB)))=>
 Dv (N2 B [] ([]:List (Int × Bool)) 0) λ(J:List (Int × (List AB))) (C:List AB) (E:List (Int × Bool))=>
 AC (G4 ND j) λ(F:List AB)=>
 AC (iter (λ(a:Int × (List AB))=>IS E F a.1 a.2) (0,C)) λ(l:List AB)=>
 some l
def Hx(m:List AB)(j:Int)(l:Int):Option (Int ⊕ (Ax Unit Int)):=
 if(decide (l<(m.length:Int))) then(
 AC (AN m l) λ(q:AB)=>
 if(decide (q.Item=j)) then(
 some (.inr (.ext l))
 ) else(
 AC (AY .i64 (l+1)) λ(w:Int)=>
 some (.inl w)
 )
 ) else(
 some (.inr (.nrm ()))
 )
def Hz(l:List AB)(j:Int):Option (Int):=
 BA (iter (λ(a:Int)=>Hx l j a) 0) λ(m:Unit)=>
 some (-1)
def GX(m:List AB)(l:Int)(A:Int)(j:Int)(q:Int):Option ((Int × Int) ⊕ (Ax Unit Bool)):=
 if(decide (q<A)) then(
 if(decide (j=l)) then(
 some (.inr (.ext true))
 ) else(
 AC (Hz m j) λ(w:Int)=>
 if(decide (w<0)) then(
 some (.inr (.ext false))
 ) else(
 AC (AN m w) λ(B:AB)=>
 AC (AY .i64 (q+1)) λ(C:Int)=>
 some (.inl (B.Parent,C))
 )
 )
 ) else(
 some (.inr (.nrm ()))
 )
def Lk(m:List AB)(j:Int)(l:Int):Option (Bool):=
 AC (AY .i64 ((m.length:Int)+1)) λ(q:Int)=>
 BA (iter (λ(a:Int × Int)=>GX m l q a.1 a.2) (j,0)) λ(w:Unit)=>
 some false
def HX(m:List AB)(l:List AB)(w:Int)(j:List AB):Option ((Int × (List AB)) ⊕ (List AB)):=
 if(decide (w<(m.length:Int))) then(
 AC (
 AC (AN j w) λ(A:AB)=>
 AC (Hz l A.Item) λ(B:Int)=>
 if(decide (0≤B)) then(
 AC (AN l B) λ(C:AB)=>
 some (j.set w.toNat (AB.mk A.Item A.Parent A.Place C.Attrs))
 ) else(
 some j
 )
 ) λ(q:List AB)=>
 AC (AY .i64 (w+1)) λ(E:Int)=>
 some (.inl (E,q))
 ) else(
 some (.inr j)
 )
def Hr(M:List A3)(I:Int)(j:List AB)(l:List AB):Option ((Int × (List AB) × (List AB)) ⊕ ((List AB) × (List AB))):=
 if(decide (I<(M.length:Int))) then(
 CO (
 AC (AN M I) λ(m:A3)=>
 if(decide (m.Kind=1)) then(
 AC (Hz l m.Item) λ(O:Int)=>
 CO (
 if(decide (O<0)) then(
 AC (app 56 l [(AB.mk m.Item 0 [] [])]) λ(C:List AB)=>
 some ((l.length:Int),C)
 ) else(
 some (O,l)
 )
 ) λ(T:Int) (w:List AB)=>
 AC (AN w T) λ(E:AB)=>
 AC (LU E.Attrs [(AE.mk m.Name m.Value)]) λ(X:List AE)=>
 some (j,(w.set T.toNat (AB.mk E.Item E.Parent E.Place X)))
 ) else(
 AC (gd (((decide (m.Parent=m.Item))==false)&&((decide (0<m.Parent))==true)) (Lk j m.Parent m.Item)) λ(Z:Bool)=>
 if((m.Parent=m.Item)||((0<m.Parent)&&Z)) then(
 some (j,l)
 ) else(
 AC (Hz j m.Item) λ(U:Int)=>
 CO (
 if(decide (U<0)) then(
 AC (app 56 j [(AB.mk 0 0 [] [])]) λ(A:List AB)=>
 some ((j.length:Int),A)
 ) else(
 some (U,j)
 )
 ) λ(V:Int) (q:List AB)=>
 AC (AN q V) λ(a0:AB)=>
 some ((q.set V.toNat (AB.mk m.Item m.Parent m.Place [])),l)
 )
 )
 ) λ(B:List AB) (F:List AB)=>
 AC (AY .i64 (I+1)) λ(J:Int)=>
 some (.inl (J,B,F))
 ) else(
 some (.inr (j,l))
 )
def MG(q:List A3):Option ((List AB) × (List AB)):=
 CO (iter (λ(a:Int × (List AB) × (List AB))=>Hr q a.1 a.2.1 a.2.2) (0,[],[])) λ(j:List AB) (l:List AB)=>
 AC (iter (λ(a:Int × (List AB))=>HX j l a.1 a.2) (0,j)) λ(m:List AB)=>
 some (m,l)
def Hk(B:List AB)(m:Int)(l:List UInt8)(w:Int)(j:Int)(C:Int):Option ((Int × Int) ⊕ Int):=
 if(decide (C<(B.length:Int))) then(
 AC (
 AC (AN B C) λ(q:AB)=>
 if(((!(q.Parent=m))||(Ap q.Place l))||((q.Place=l)&&(q.Item≤w))) then(
 some j
 ) else(
 AC (gd ((decide (j<0))==false) (AN B j)) λ(E:AB)=>
 AC (gd (((j<0)||(Ap q.Place E.Place))==false) (AN B j)) λ(F:AB)=>
 if(((j<0)||(Ap q.Place E.Place))||((q.Place=F.Place)&&(q.Item<F.Item))) then(
 some C
 ) else(
 some j
 )
 )
 ) λ(A:Int)=>
 AC (AY .i64 (C+1)) λ(I:Int)=>
 some (.inl (A,I))
 ) else(
 some (.inr j)
 )
def Fy(B:List AB)(j:Int)(self:(List AB)→(List AB)→Int→Option (List AB))(m:List UInt8)(w:Int)(q:List AB):Option (((List UInt8) × Int × (List AB)) ⊕ (Ax Unit (List AB))):=
 AC (iter (λ(a:Int × Int)=>Hk B j m w a.1 a.2) ((-1),0)) λ(l:Int)=>
 if(decide (l<0)) then(
 some (.inr (.ext q))
 ) else(
 AC (AN B l) λ(A:AB)=>
 AC (app 56 q [A]) λ(C:List AB)=>
 AC (self C B A.Item) λ(E:List AB)=>
 some (.inl (A.Place,A.Item,E))
 )
def Ib(self:(List AB)→(List AB)→Int→Option (List AB))(l:List AB)(m:List AB)(j:Int):Option ((List AB)):=
 BA (iter (λ(a:(List UInt8) × Int × (List AB))=>Fy m j self a.1 a.2.1 a.2.2) ([],0,l)) λ(q:Unit)=>
 none
def DZ:Nat→(List AB)→(List AB)→Int→Option (List AB)
 | 0,_,_,_=>none
 | n+1,l,m,j=>Ib (λl m j=>DZ n l m j) l m j
def OX(l:List AB)(m:List AB)(j:Int):Option ((List AB)):=
 @dite _ (∃n r,DZ n l m j=some r) (Classical.propDecidable _) (λh=>DZ h.choose l m j) (λ_=>none)
def Iu(B:List AB)(E:List AB)(l:Int)(w:List AB)(j:Int)(A:Int):Option ((Int × Int) ⊕ Int):=
 if(decide (A<(B.length:Int))) then(
 AC (
 AC (AN B A) λ(q:AB)=>
 AC (gd ((decide (l<q.Item))==true) (DX w 0 (E.length:Int))) λ(F:List AB)=>
 AC (gd ((decide (l<q.Item))==true) (Hz F q.Item)) λ(C:Int)=>
 AC (gd ((((l<q.Item)&&(C<0))==true)&&((decide (j<0))==false)) (AN B j)) λ(I:AB)=>
 if(((l<q.Item)&&(C<0))&&((j<0)||(q.Item<I.Item))) then(
 some A
 ) else(
 some j
 )
 ) λ(m:Int)=>
 AC (AY .i64 (A+1)) λ(J:Int)=>
 some (.inl (m,J))
 ) else(
 some (.inr j)
 )
def IJ(w:List AB)(A:List AB)(m:Int)(j:List AB):Option ((Int × (List AB)) ⊕ (Ax Unit ((List AB) × Int))):=
 AC (iter (λ(a:Int × Int)=>Iu w A m j a.1 a.2) ((-1),0)) λ(l:Int)=>
 if(decide (l<0)) then(
 some (.inr (.ext (j,(A.length:Int))))
 ) else(
 AC (AN w l) λ(B:AB)=>
 AC (app 56 j [B]) λ(q:List AB)=>
 some (.inl (B.Item,q))
 )
def Ke(m:List A3):Option ((List AB) × Int):=
 CO (MG m) λ(j:List AB) (q:List AB)=>
 AC (OX [] j 0) λ(l:List AB)=>
 BA (iter (λ(a:Int × (List AB))=>IJ j l a.1 a.2) (0,l)) λ(w:Unit)=>
 none
def JE(j:List AB)(l:Int)(m2:List (Int × Bool)):Option ((Int × (List (Int × Bool))) ⊕ (Ax Unit Int)):=
 if(decide (l<(j.length:Int))) then(
 AC (AN j l) λ(m:AB)=>
 if(!((AR m2 m.Parent).getD false)) then(
 some (.inr (.ext l))
 ) else(
 AC (AY .i64 (l+1)) λ(q:Int)=>
 some (.inl (q,(Ag m2 m.Item true)))
 )
 ) else(
 some (.inr (.nrm ()))
 )
def Mq(j:List AB):Option (Int):=
 BA (iter (λ(a:Int × (List (Int × Bool)))=>JE j a.1 a.2) (0,(Ag ([]:List (Int × Bool)) 0 true))) λ(l:Unit)=>
 some (j.length:Int)
end
noncomputable section
end
noncomputable section
structure Am where
 id:Int
 parent:Int
 visible:Bool
deriving DecidableEq
instance:Inhabited Am:=⟨⟨0,0,false⟩⟩
structure AZ where
 ID:Int
 Parent:Int
 Visible:Bool
deriving DecidableEq
instance:Inhabited AZ:=⟨⟨0,0,false⟩⟩
@[reducible] def AZ.row(x:AZ):List RV:=[.int .i64 x.ID,.int .i64 x.Parent,.bool x.Visible]
def IQ(d1:Aa)(l:Int)(j:Aa):Option ((Int × Aa) ⊕ Aa):=
 if(decide (l<(d1.Nodes.length:Int))) then(
 AC (AN d1.Nodes l) λ(m:Ac)=>
 AC (ON m) λ(q:Ac)=>
 AC (AN j.Nodes l) λ(A:Ac)=>
 AC (AY .i64 (l+1)) λ(w:Int)=>
 some (.inl (w,(Aa.mk (j.Nodes.set l.toNat q))))
 ) else(
 some (.inr j)
 )
def OG(d1:Aa):Option (Aa):=
 AC (mk 152 (d1.Nodes.length:Int) (Ac.mk 0 0 [] [] (BF.mk 0 0 [] []) [])) λ(l:List Ac)=>
 AC (iter (λ(a:Int × Aa)=>IQ d1 a.1 a.2) (0,(Aa.mk l))) λ(j:Aa)=>
 some j
def Ow(d1:Aa):Option (Aa):=
 AC (OG d1) λ(j:Aa)=>
 some j
def F9(l:List (List RV)→Option Bool)(j:List (List RV))(v1:Am):Option (Bool × (List (List RV))):=
 AC (l (j++[[.int .i64 v1.id,.int .i64 v1.parent]])) λ(m:Bool)=>
 some (m,(j++[[.int .i64 v1.id,.int .i64 v1.parent]]))
def RG(j:List UInt8):Option (Int × Bool):=
 atoiS j
def strconv_Itoa(n1:Int):Option (List UInt8):=
 itoaS n1
def IR(d1:Aa)(A:List AB)(q:Int)(j:List Int):Option ((Int × (List Int)) ⊕ (List Int)):=
 if(decide (q<(A.length:Int))) then(
 AC (
 AC (AN A q) λ(F:AB)=>
 AC (Jz F.Attrs [110,111,100,101]) λ(B:List UInt8)=>
 CO (RG B) λ(w:Int) (C:Bool)=>
 AC (gd ((!C)==false) (strconv_Itoa w)) λ(I:List UInt8)=>
 if((!C)||(!(I=B))) then(
 some j
 ) else(
 CO (Fm d1 w) λ(J:Int) (E:Bool)=>
 AC (gd (E==true) (AN d1.Nodes J)) λ(M:Ac)=>
 if(E&&(M.Kind=1)) then(
 AC (app 8 j [w]) λ(l:List Int)=>
 some l
 ) else(
 some j
 )
 )
 ) λ(m:List Int)=>
 AC (AY .i64 (q+1)) λ(O:Int)=>
 some (.inl (O,m))
 ) else(
 some (.inr j)
 )
def F0(d1:Aa)(n1:Ac):Option ((List Int)):=
 AC (OV n1.Draw) λ(l:List AB)=>
 AC (Mq l) λ(m:Int)=>
 AC (DX l 0 m) λ(q:List AB)=>
 AC (iter (λ(a:Int × (List Int))=>IR d1 q a.1 a.2) (0,[])) λ(j:List Int)=>
 some j
def UW(E:List (List RV)→Option Bool)(F:Aa)(v1:Am)(self:(List (List RV)→Option Bool)→(List (Int × Bool))→(List (List RV))→Aa→Am→Option (Bool × (List (Int × Bool)) × (List (List RV))))(A:List Int)(m:Int)(l:List (Int × Bool))(j:List (List RV)):Option ((Int × (List (Int × Bool)) × (List (List RV))) ⊕ (Ax ((List (Int × Bool)) × (List (List RV))) (Bool × (List (Int × Bool)) × (List (List RV))))):=
 if(decide (m<(A.length:Int))) then(
 AC (AN A m) λ(q:Int)=>
 Dv (self E l j F (Am.mk q v1.id v1.visible)) λ(I:Bool) (B:List (Int × Bool)) (C:List (List RV))=>
 if(!I) then(
 some (.inr (.ext (false,B,C)))
 ) else(
 AC (AY .i64 (m+1)) λ(w:Int)=>
 some (.inl (w,B,C))
 )
 ) else(
 some (.inr (.nrm (l,j)))
 )
def Tt(I:List (List RV)→Option Bool)(J:Aa)(v1:Am)(self:(List (List RV)→Option Bool)→(List (Int × Bool))→(List (List RV))→Aa→Am→Option (Bool × (List (Int × Bool)) × (List (List RV))))(w:Ac)(A:Int)(B:List (Int × Bool))(m:List (List RV)):Option ((Int × (List (Int × Bool)) × (List (List RV))) ⊕ (Ax ((List (Int × Bool)) × (List (List RV))) (Bool × (List (Int × Bool)) × (List (List RV))))):=
 if(decide (A<(w.Grid.Cells.length:Int))) then(
 AC (AN w.Grid.Cells A) λ(j:Ao)=>
 AC (HR w.Grid j.Row j.Col) λ(F:Ak)=>
 Dv (
 if((!(j.Ref=0))==true) then(
 Dv (self I B m J (Am.mk j.Ref v1.id ((v1.visible&&(F.Row=j.Row))&&(F.Col=j.Col)))) λ(M:Bool) (O:List (Int × Bool)) (T:List (List RV))=>
 some (((!(j.Ref=0))&&(!M)),O,T)
 ) else(
 some (((!(j.Ref=0))&&false),B,m)
 )
 ) λ(C:Bool) (q:List (Int × Bool)) (l:List (List RV))=>
 if C then(
 some (.inr (.ext (false,q,l)))
 ) else(
 AC (AY .i64 (A+1)) λ(E:Int)=>
 some (.inl (E,q,l))
 )
 ) else(
 some (.inr (.nrm (B,m)))
 )
def UP(E:List (List RV)→Option Bool)(F:Aa)(v1:Am)(self:(List (List RV)→Option Bool)→(List (Int × Bool))→(List (List RV))→Aa→Am→Option (Bool × (List (Int × Bool)) × (List (List RV))))(w:List Int)(l:Int)(A:List (Int × Bool))(j:List (List RV)):Option ((Int × (List (Int × Bool)) × (List (List RV))) ⊕ (Ax ((List (Int × Bool)) × (List (List RV))) (Bool × (List (Int × Bool)) × (List (List RV))))):=
 if(decide (l<(w.length:Int))) then(
 AC (AN w l) λ(m:Int)=>
 Dv (self E A j F (Am.mk m v1.id v1.visible)) λ(I:Bool) (B:List (Int × Bool)) (C:List (List RV))=>
 if(!I) then(
 some (.inr (.ext (false,B,C)))
 ) else(
 AC (AY .i64 (l+1)) λ(q:Int)=>
 some (.inl (q,B,C))
 )
 ) else(
 some (.inr (.nrm (A,j)))
 )
def Pr(self:(List (List RV)→Option Bool)→(List (Int × Bool))→(List (List RV))→Aa→Am→Option (Bool × (List (Int × Bool)) × (List (List RV))))(q:List (List RV)→Option Bool)(w:List (Int × Bool))(l:List (List RV))(j:Aa)(v1:Am):Option (Bool × (List (Int × Bool)) × (List (List RV))):=
 if((AR w v1.id).getD false) then(
 some (true,w,l)
 ) else(
 CO (F9 q l v1) λ(I:Bool) (F:List (List RV))=>
 if(!I) then(
 some (false,(Ag w v1.id true),F)
 ) else(
 CO (Fm j v1.id) λ(J:Int) (V:Bool)=>
 AC (AN j.Nodes J) λ(A:Ac)=>
 AC (Jj A.Flow) λ(M:List Int)=>
 FR (iter (λ(a:Int × (List (Int × Bool)) × (List (List RV)))=>UP q j v1 self M a.1 a.2.1 a.2.2) (0,(Ag w v1.id true),F)) λ(O:List (Int × Bool)) (B:List (List RV))=>
 FR (iter (λ(a:Int × (List (Int × Bool)) × (List (List RV)))=>Tt q j v1 self A a.1 a.2.1 a.2.2) (0,O,B)) λ(T:List (Int × Bool)) (C:List (List RV))=>
 AC (F0 j A) λ(U:List Int)=>
 FR (iter (λ(a:Int × (List (Int × Bool)) × (List (List RV)))=>UW q j v1 self U a.1 a.2.1 a.2.2) (0,T,C)) λ(E:List (Int × Bool)) (m:List (List RV))=>
 some (true,E,m)
 )
 )
def Gk:Nat→(List (List RV)→Option Bool)→(List (Int × Bool))→(List (List RV))→Aa→Am→Option (Bool × (List (Int × Bool)) × (List (List RV)))
 | 0,_,_,_,_,_=>none
 | n+1,l,m,j,q,v1=>Pr (λl m j q v1=>Gk n l m j q v1) l m j q v1
def Qe(l:List (List RV)→Option Bool)(m:List (Int × Bool))(j:List (List RV))(q:Aa)(v1:Am):Option (Bool × (List (Int × Bool)) × (List (List RV))):=
 @dite _ (∃n r,Gk n l m j q v1=some r) (Classical.propDecidable _) (λh=>Gk h.choose l m j q v1) (λ_=>none)
def NP(l:List (List RV)→Option Bool)(j:List (List RV))(d1:Aa):Option ((List (List RV))):=
 Dv (Qe l ([]:List (Int × Bool)) j d1 (Am.mk 1 0 true)) λ(q:Bool) (w:List (Int × Bool)) (m:List (List RV))=>
 some m
def Fg(m:List (List RV)→Option Bool)(j:List (List RV))(l:Aa):Option ((List (List RV))):=
 AC (E9 l) λ(q:Int)=>
 if(!(q=0)) then(
 some j
 ) else(
 AC (NP m j l) λ(w:List (List RV))=>
 some w
 )
def Hp(m:List AZ)(l:Int)(j:Int):Option (Int ⊕ (Ax Unit Int)):=
 if(decide (j<(m.length:Int))) then(
 AC (AN m j) λ(q:AZ)=>
 if(decide (q.ID=l)) then(
 some (.inr (.ext j))
 ) else(
 AC (AY .i64 (j+1)) λ(w:Int)=>
 some (.inl w)
 )
 ) else(
 some (.inr (.nrm ()))
 )
def IG(l:List AZ)(j:Int):Option (Int):=
 BA (iter (λ(a:Int)=>Hp l j a) 0) λ(m:Unit)=>
 some (-1)
def G7(m:List UInt8)(q:Int)(l:Int):Option ((Int × Int) ⊕ (Ax Int Int)):=
 if(decide (l<(m.length:Int))) then(
 AC (AN m l) λ(j:UInt8)=>
 if(((j.toNat:Int)<48)||(57<(j.toNat:Int))) then(
 some (.inr (.ext (-1)))
 ) else(
 AC (AY .i64 (10 * q)) λ(w:Int)=>
 AC (AY .i64 (w+(IntKind.i64.wrap (IntKind.u8.wrap ((j.toNat:Int)-48))))) λ(A:Int)=>
 AC (AY .i64 (l+1)) λ(B:Int)=>
 some (.inl (A,B))
 )
 ) else(
 some (.inr (.nrm q))
 )
def Mv(j:List UInt8):Option (Int):=
 AC (gd (((j=[])||(10<(j.length:Int)))==false) (AN j 0)) λ(l:UInt8)=>
 if(((j=[])||(10<(j.length:Int)))||(((l.toNat:Int)=48)&&(1<(j.length:Int)))) then(
 some (-1)
 ) else(
 BA (iter (λ(a:Int × Int)=>G7 j a.1 a.2) (0,0)) λ(m:Int)=>
 some m
 )
def FT(d1:Aa)(E:AZ)(self:(List AZ)→Aa→AZ→Option (List AZ))(F:List AB)(I:Int)(q:Int)(j:List AZ):Option ((Int × (List AZ)) ⊕ (List AZ)):=
 if(decide (q<I)) then(
 AC (
 AC (AN F q) λ(w:AB)=>
 AC (Jo w.Attrs [110,111,100,101]) λ(J:List UInt8)=>
 AC (Mv J) λ(l:Int)=>
 AC (Gf d1 l) λ(A:Int)=>
 AC (gd (((0<l)&&(0≤A))==true) (AN d1.Nodes A)) λ(B:Ac)=>
 if(((0<l)&&(0≤A))&&(B.Kind=1)) then(
 AC (self j d1 (AZ.mk l E.ID E.Visible)) λ(M:List AZ)=>
 some M
 ) else(
 some j
 )
 ) λ(m:List AZ)=>
 AC (AY .i64 (q+1)) λ(C:Int)=>
 some (.inl (C,m))
 ) else(
 some (.inr j)
 )
def Fb(d1:Aa)(B:AZ)(self:(List AZ)→Aa→AZ→Option (List AZ))(q:Ac)(w:Int)(l:List AZ):Option ((Int × (List AZ)) ⊕ (List AZ)):=
 if(decide (w<(q.Grid.Cells.length:Int))) then(
 AC (
 AC (AN q.Grid.Cells w) λ(j:Ao)=>
 if(!(j.Ref=0)) then(
 AC (NF q.Grid j.Row j.Col) λ(C:Ak)=>
 AC (self l d1 (AZ.mk j.Ref B.ID ((B.Visible&&(C.Row=j.Row))&&(C.Col=j.Col)))) λ(E:List AZ)=>
 some E
 ) else(
 some l
 )
 ) λ(m:List AZ)=>
 AC (AY .i64 (w+1)) λ(A:Int)=>
 some (.inl (A,m))
 ) else(
 some (.inr l)
 )
def FQ(d1:Aa)(A:AZ)(self:(List AZ)→Aa→AZ→Option (List AZ))(B:Ac)(q:Int)(j:List AZ):Option ((Int × (List AZ)) ⊕ (List AZ)):=
 if(decide (q<(B.Flow.length:Int))) then(
 AC (
 AC (AN B.Flow q) λ(m:An)=>
 if(!(m.Ref=0)) then(
 AC (self j d1 (AZ.mk m.Ref A.ID A.Visible)) λ(C:List AZ)=>
 some C
 ) else(
 some j
 )
 ) λ(l:List AZ)=>
 AC (AY .i64 (q+1)) λ(w:Int)=>
 some (.inl (w,l))
 ) else(
 some (.inr j)
 )
def IZ(self:(List AZ)→Aa→AZ→Option (List AZ))(j:List AZ)(d1:Aa)(q:AZ):Option ((List AZ)):=
 AC (IG j q.ID) λ(C:Int)=>
 if(decide (0≤C)) then(
 some j
 ) else(
 AC (app 24 j [q]) λ(w:List AZ)=>
 AC (Gf d1 q.ID) λ(E:Int)=>
 AC (AN d1.Nodes E) λ(B:Ac)=>
 AC (iter (λ(a:Int × (List AZ))=>FQ d1 q self B a.1 a.2) (0,w)) λ(A:List AZ)=>
 AC (iter (λ(a:Int × (List AZ))=>Fb d1 q self B a.1 a.2) (0,A)) λ(l:List AZ)=>
 CO (Ke B.Draw) λ(F:List AB) (I:Int)=>
 AC (iter (λ(a:Int × (List AZ))=>FT d1 q self F I a.1 a.2) (0,l)) λ(m:List AZ)=>
 some m
 )
def CA:Nat→(List AZ)→Aa→AZ→Option (List AZ)
 | 0,_,_,_=>none
 | n+1,j,l,m=>IZ (λj l m=>CA n j l m) j l m
def Qi(j:List AZ)(d1:Aa)(l:AZ):Option ((List AZ)):=
 @dite _ (∃n r,CA n j d1 l=some r) (Classical.propDecidable _) (λh=>CA h.choose j d1 l) (λ_=>none)
def MZ(d1:Aa):Option ((List AZ)):=
 AC (Qi [] d1 (AZ.mk 1 0 true)) λ(j:List AZ)=>
 some j
end
noncomputable section
end
noncomputable section
def Iw(d1:Aa)(l:Int)(q:List UInt8)(o2:List UInt8)(j:Int)(B:Int):Option (Nat × (List UInt8)):=
 AC (Hc d1 j) λ(w:Int)=>
 AC (AN d1.Nodes w) λ(m:Ac)=>
 AC (gd ((decide (m.Kind=6))==true) (Jz m.Attrs [110,97,109,101])) λ(A:List UInt8)=>
 if((m.Kind=6)&&(A=q)) then(
 if(decide (j=l)) then(
 some (1,q)
 ) else(
 some (1,[])
 )
 ) else(
 some (0,o2)
 )
def Jp(d1:Aa)(l:Int):Option ((List UInt8)):=
 AC (Hc d1 l) λ(m:Int)=>
 AC (gd ((decide (m<0))==false) (AN d1.Nodes m)) λ(q:Ac)=>
 if((m<0)||(!(q.Kind=6))) then(
 some []
 ) else(
 AC (AN d1.Nodes m) λ(w:Ac)=>
 AC (Jz w.Attrs [110,97,109,101]) λ(B:List UInt8)=>
 AC (Ow d1) λ(C:Aa)=>
 CO (rng2L (λA=>Fg A [] C) (λ(a:(List UInt8))=>Iw d1 l B a) []) λ(j:Nat) (E:List UInt8)=>
 if(j==0) then(
 some []
 ) else(
 if(j==1) then(
 some E
 ) else(
 none
 ))
 )
def Gy(d1:Aa)(t1:List AZ)(m:Int)(j:List UInt8)(q:Int):Option (((List UInt8) × Int) ⊕ (List UInt8)):=
 if(decide (q<m)) then(
 AC (
 AC (AN t1 q) λ(A:AZ)=>
 AC (Gf d1 A.ID) λ(B:Int)=>
 AC (AN d1.Nodes B) λ(w:Ac)=>
 AC (gd ((decide (w.Kind=6))==true) (Jo w.Attrs [110,97,109,101])) λ(C:List UInt8)=>
 if((w.Kind=6)&&(C=j)) then(
 some []
 ) else(
 some j
 )
 ) λ(l:List UInt8)=>
 AC (AY .i64 (q+1)) λ(E:Int)=>
 some (.inl (l,E))
 ) else(
 some (.inr j)
 )
def Pi(d1:Aa)(j:Int):Option (Bool):=
 AC (Ql) λ(B:Bool)=>
 if(!B) then(
 some false
 ) else(
 AC (Jp d1 j) λ(w:List UInt8)=>
 AC (M0 d1) λ(C:Int)=>
 if(!(C=0)) then(
 some (decide (w=[]))
 ) else(
 AC (MZ d1) λ(A:List AZ)=>
 AC (IG A j) λ(l:Int)=>
 AC (gd ((decide (l<0))==false) (Gf d1 j)) λ(E:Int)=>
 AC (gd ((decide (l<0))==false) (AN d1.Nodes E)) λ(F:Ac)=>
 if((l<0)||(!(F.Kind=6))) then(
 some (decide (w=[]))
 ) else(
 AC (Gf d1 j) λ(I:Int)=>
 AC (AN d1.Nodes I) λ(J:Ac)=>
 AC (Jo J.Attrs [110,97,109,101]) λ(m:List UInt8)=>
 AC (iter (λ(a:(List UInt8) × Int)=>Gy d1 A l a.1 a.2) (m,0)) λ(q:List UInt8)=>
 some (decide (w=q))
 )
 )
 )
end
end Go.Proofs.YtmeadkhpiobenaaGreatDoor.Al
