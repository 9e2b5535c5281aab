/- Models, as printed. -/
import Derived.Test.YtelkfhdgmbahgaaAl2
namespace Go.Proofs.Ytelkfhdgmbahgaa.Al
structure JB where
 Kind:Int
 N:Int
deriving DecidableEq
instance:Inhabited JB:=⟨⟨0,0⟩⟩
structure TK where
 steps:List JB
 used:Int
deriving DecidableEq
instance:Inhabited TK:=⟨⟨[],0⟩⟩
structure Ud where
 out:List JB
 add:Int
 cut:Int
deriving DecidableEq
instance:Inhabited Ud:=⟨⟨[],0,0⟩⟩
structure AC where
 Name:List UInt8
 Value:List UInt8
deriving DecidableEq
instance:Inhabited AC:=⟨⟨[],[]⟩⟩
@[reducible] def AC.row (x:AC):List RV:=[.str x.Name,.str x.Value]
structure LW where
 Char:Int
 Ref:Int
 Attrs:List AC
deriving DecidableEq
instance:Inhabited LW:=⟨⟨0,0,[]⟩⟩
structure Kw where
 Row:Int
 Col:Int
 Text:List UInt8
 Ref:Int
 Attrs:List AC
deriving DecidableEq
instance:Inhabited Kw:=⟨⟨0,0,[],0,[]⟩⟩
structure Jz where
 Row:Int
 Col:Int
 H:Int
 W:Int
deriving DecidableEq
instance:Inhabited Jz:=⟨⟨0,0,0,0⟩⟩
structure JZ where
 Rows:Int
 Cols:Int
 Cells:List Kw
 Merges:List Jz
deriving DecidableEq
instance:Inhabited JZ:=⟨⟨0,0,[],[]⟩⟩
structure AD where
 Clock:Int
 Site:Int
 Kind:Int
 Item:Int
 Parent:Int
 Place:List UInt8
 Name:List UInt8
 Value:List UInt8
deriving DecidableEq
instance:Inhabited AD:=⟨⟨0,0,0,0,0,[],[],[]⟩⟩
@[reducible] def AD.row (x:AD):List RV:=[.int .i64 x.Clock,.int .i64 x.Site,.int .i64 x.Kind,.int .i64 x.Item,.int .i64 x.Parent,.str x.Place,.str x.Name,.str x.Value]
structure MW where
 ID:Int
 Kind:Int
 Attrs:List AC
 Flow:List LW
 Grid:JZ
 Draw:List AD
deriving DecidableEq
instance:Inhabited MW:=⟨⟨0,0,[],[],(JZ.mk 0 0 [] []),[]⟩⟩
structure GStep where
 Kind:Int
 N:Int
 Attrs:List AC
 Elems:List LW
deriving DecidableEq
instance:Inhabited GStep:=⟨⟨0,0,[],[]⟩⟩
structure L7 where
 Rows:List JB
 Cols:List JB
 Cells:List Kw
 Split:List Jz
 Merge:List Jz
deriving DecidableEq
instance:Inhabited L7:=⟨⟨[],[],[],[],[]⟩⟩
structure PR where
 Kind:Int
 Node:Int
 New:MW
 Attrs:List AC
 Steps:List GStep
 Grid:L7
 Draw:List AD
deriving DecidableEq
instance:Inhabited PR:=⟨⟨0,0,(MW.mk 0 0 [] [] (JZ.mk 0 0 [] []) []),[],[],(L7.mk [] [] [] [] []),[]⟩⟩
structure Qn where
 Site:Int
 Number:Int
 Change:List PR
 Undoes:Int
 Refused:Int
deriving DecidableEq
instance:Inhabited Qn:=⟨⟨0,0,[],0,0⟩⟩
structure Rz where
 From:Int
 To:Int
deriving DecidableEq
instance:Inhabited Rz:=⟨⟨0,0⟩⟩
noncomputable def D4 (x1:Int) (low1:Int) (high1:Int):Option (Bool):=
 some ((decide (low1≤x1)) && (decide (x1≤high1)))
noncomputable def FO (a1:List Int) (b1:List Int) (x2:Int):Option (Int ⊕ (Ay Unit Bool)):=
 if (decide (x2<(a1.length:Int))) then (
 AH (AN a1 x2) fun (x4:Int)=>
 AH (AN b1 x2) fun (x5:Int)=>
 if (!decide (x4=x5)) then (
 some (.inr (.ext false))
 ) else (
 AH (Ac .i64 (x2+1)) fun (x6:Int)=>
 some (.inl x6)
 )
 ) else (
 some (.inr (.nrm ()))
 )
noncomputable def JG (a1:List Int) (b1:List Int):Option (Bool):=
 if (!decide ((a1.length:Int)=(b1.length:Int))) then (
 some false
 ) else (
 A0 (iter (fun (a:Int)=>FO a1 b1 a) 0) fun (u2:Unit)=>
 some true
 )
noncomputable def Hj (s1:List UInt8) (x2:Int):Option (Int ⊕ (Ay Unit Bool)):=
 if (decide (x2<(s1.length:Int))) then (
 AH (AN s1 x2) fun (c1:UInt8)=>
 if (((((decide ((c1.toNat:Int)<97)) || (decide (122<(c1.toNat:Int)))) && ((decide ((c1.toNat:Int)<48)) || (decide (57<(c1.toNat:Int))))) && (!decide ((c1.toNat:Int)=46))) && (!decide ((c1.toNat:Int)=45))) then (
 some (.inr (.ext false))
 ) else (
 AH (Ac .i64 (x2+1)) fun (x4:Int)=>
 some (.inl x4)
 )
 ) else (
 some (.inr (.nrm ()))
 )
noncomputable def Hr (s1:List UInt8):Option (Bool):=
 AH (gd (((decide (s1=[])) || (decide (24<(s1.length:Int)))) == false) (AN s1 0)) fun (ch1:UInt8)=>
 AH (gd ((((decide (s1=[])) || (decide (24<(s1.length:Int)))) || (decide ((ch1.toNat:Int)<97))) == false) (AN s1 0)) fun (ch2:UInt8)=>
 if ((((decide (s1=[])) || (decide (24<(s1.length:Int)))) || (decide ((ch1.toNat:Int)<97))) || (decide (122<(ch2.toNat:Int)))) then (
 some false
 ) else (
 A0 (iter (fun (a:Int)=>Hj s1 a) 0) fun (u2:Unit)=>
 some true
 )
noncomputable def H4 (s1:List UInt8) (x2:Int):Option (Int ⊕ (Ay Unit Bool)):=
 if (decide (x2<(s1.length:Int))) then (
 AH (AN s1 x2) fun (ch1:UInt8)=>
 if ((decide ((ch1.toNat:Int)<32)) || (decide (126<(ch1.toNat:Int)))) then (
 some (.inr (.ext false))
 ) else (
 AH (Ac .i64 (x2+1)) fun (x4:Int)=>
 some (.inl x4)
 )
 ) else (
 some (.inr (.nrm ()))
 )
noncomputable def Ip (s1:List UInt8):Option (Bool):=
 if ((decide (s1=[])) || (decide (200<(s1.length:Int)))) then (
 some false
 ) else (
 A0 (iter (fun (a:Int)=>H4 s1 a) 0) fun (u2:Unit)=>
 some true
 )
noncomputable def GM (c1:List AC) (x1:AC) (y1:AC):Option ((List AC)):=
 if (decide (y1.Name=[])) then (
 AH (app 32 c1 [x1]) fun (l1:List AC)=>
 some l1
 ) else (
 if (!decide (y1.Value=[])) then (
 AH (app 32 c1 [y1]) fun (l2:List AC)=>
 some l2
 ) else (
 some c1
 )
 )
noncomputable def Is (a1:List AC) (b1:List AC) (i4:Int) (j2:Int) (o2:List AC):Option ((Int × Int × (List AC)) ⊕ (Ay Unit (List AC))):=
 if ((decide (i4<(a1.length:Int))) || (decide (j2<(b1.length:Int)))) then (
 AH (gd (((decide (j2=(b1.length:Int))) == false) && ((decide (i4<(a1.length:Int))) == true)) (AN a1 i4)) fun (x1:AC)=>
 AH (gd (((decide (j2=(b1.length:Int))) == false) && ((decide (i4<(a1.length:Int))) == true)) (AN b1 j2)) fun (x2:AC)=>
 if ((decide (j2=(b1.length:Int))) || ((decide (i4<(a1.length:Int))) && (Ae x1.Name x2.Name))) then (
 AH (AN a1 i4) fun (x3:AC)=>
 AH (GM o2 x3 (AC.mk [] [])) fun (w1:List AC)=>
 AH (Ac .i64 (i4+1)) fun (i9:Int)=>
 some (.inl (i9,j2,w1))
 ) else (
 AH (gd ((decide (i4=(a1.length:Int))) == false) (AN b1 j2)) fun (x4:AC)=>
 AH (gd ((decide (i4=(a1.length:Int))) == false) (AN a1 i4)) fun (x5:AC)=>
 if ((decide (i4=(a1.length:Int))) || (Ae x4.Name x5.Name)) then (
 AH (AN b1 j2) fun (x6:AC)=>
 AH (GM o2 (AC.mk [] []) x6) fun (w2:List AC)=>
 AH (Ac .i64 (j2+1)) fun (j4:Int)=>
 some (.inl (i4,j4,w2))
 ) else (
 AH (AN a1 i4) fun (x7:AC)=>
 AH (AN b1 j2) fun (x8:AC)=>
 AH (GM o2 x7 x8) fun (w3:List AC)=>
 AH (Ac .i64 (i4+1)) fun (i12:Int)=>
 AH (Ac .i64 (j2+1)) fun (j5:Int)=>
 some (.inl (i12,j5,w3))
 )
 )
 ) else (
 some (.inr (.ext o2))
 )
noncomputable def Iw (c1:List AC) (a1:List AC) (b1:List AC):Option ((List AC)):=
 A0 (iter (fun (a:Int × Int × (List AC))=>Is a1 b1 a.1 a.2.1 a.2.2) (0,0,c1)) fun (u2:Unit)=>
 none
noncomputable def HP (l1:List AC) (change1:List AC):Option ((List AC)):=
 AH (Iw [] l1 change1) fun (w1:List AC)=>
 some w1
noncomputable def Id (a1:List AC) (b1:List AC) (x2:Int):Option (Int ⊕ (Ay Unit Bool)):=
 if (decide (x2<(a1.length:Int))) then (
 AH (AN a1 x2) fun (x4:AC)=>
 AH (AN b1 x2) fun (x5:AC)=>
 if (!(decide (x4.Name=x5.Name) && (decide (x4.Value=x5.Value) && true))) then (
 some (.inr (.ext false))
 ) else (
 AH (Ac .i64 (x2+1)) fun (x6:Int)=>
 some (.inl x6)
 )
 ) else (
 some (.inr (.nrm ()))
 )
noncomputable def IK (a1:List AC) (b1:List AC):Option (Bool):=
 if (!decide ((a1.length:Int)=(b1.length:Int))) then (
 some false
 ) else (
 A0 (iter (fun (a:Int)=>Id a1 b1 a) 0) fun (u2:Unit)=>
 some true
 )
noncomputable def HT (s1:List UInt8) (x2:Int):Option (Int ⊕ (Ay Unit Bool)):=
 if (decide (x2<(s1.length:Int))) then (
 AH (AN s1 x2) fun (ch1:UInt8)=>
 if ((!((decide (97≤(ch1.toNat:Int))) && (decide ((ch1.toNat:Int)≤122)))) && ((decide (x2=0)) || (((!decide ((ch1.toNat:Int)=46)) && (!decide ((ch1.toNat:Int)=45))) && ((decide ((ch1.toNat:Int)<48)) || (decide (57<(ch1.toNat:Int))))))) then (
 some (.inr (.ext false))
 ) else (
 AH (Ac .i64 (x2+1)) fun (x4:Int)=>
 some (.inl x4)
 )
 ) else (
 some (.inr (.nrm ()))
 )
noncomputable def IS (s1:List UInt8):Option (Bool):=
 A0 (iter (fun (a:Int)=>HT s1 a) 0) fun (u2:Unit)=>
 some ((decide (1≤(s1.length:Int))) && (decide ((s1.length:Int)≤24)))
noncomputable def Hx (s1:List UInt8) (x2:Int):Option (Int ⊕ (Ay Unit Bool)):=
 if (decide (x2<(s1.length:Int))) then (
 AH (AN s1 x2) fun (ch1:UInt8)=>
 if ((decide ((ch1.toNat:Int)<32)) || (decide (126<(ch1.toNat:Int)))) then (
 some (.inr (.ext false))
 ) else (
 AH (Ac .i64 (x2+1)) fun (x4:Int)=>
 some (.inl x4)
 )
 ) else (
 some (.inr (.nrm ()))
 )
noncomputable def Ic (s1:List UInt8):Option (Bool):=
 A0 (iter (fun (a:Int)=>Hx s1 a) 0) fun (u2:Unit)=>
 some ((decide (1≤(s1.length:Int))) && (decide ((s1.length:Int)≤200)))
noncomputable def LG (l1:List AC) (name1:List UInt8) (x2:Int):Option (Int ⊕ (Ay Unit (List UInt8))):=
 if (decide (x2<(l1.length:Int))) then (
 AH (AN l1 x2) fun (x4:AC)=>
 if (decide (x4.Name=name1)) then (
 some (.inr (.ext x4.Value))
 ) else (
 AH (Ac .i64 (x2+1)) fun (x5:Int)=>
 some (.inl x5)
 )
 ) else (
 some (.inr (.nrm ()))
 )
noncomputable def N9 (l1:List AC) (name1:List UInt8):Option ((List UInt8)):=
 A0 (iter (fun (a:Int)=>LG l1 name1 a) 0) fun (u2:Unit)=>
 some []
noncomputable def Hw (l1:List AC) (name1:List UInt8) (x2:Int):Option (Int ⊕ (Ay Unit (List UInt8))):=
 if (decide (x2<(l1.length:Int))) then (
 AH (AN l1 x2) fun (x4:AC)=>
 if (decide (x4.Name=name1)) then (
 some (.inr (.ext x4.Value))
 ) else (
 AH (Ac .i64 (x2+1)) fun (x5:Int)=>
 some (.inl x5)
 )
 ) else (
 some (.inr (.nrm ()))
 )
noncomputable def G8 (l1:List AC) (name1:List UInt8):Option ((List UInt8)):=
 A0 (iter (fun (a:Int)=>Hw l1 name1 a) 0) fun (u2:Unit)=>
 some []
noncomputable def Gq (c1:List AC) (x1:AC) (y1:AC):Option ((List AC)):=
 if (decide (y1.Name=[])) then (
 AH (app 32 c1 [(AC.mk x1.Name [])]) fun (l1:List AC)=>
 some l1
 ) else (
 if (!(decide (x1.Name=y1.Name) && (decide (x1.Value=y1.Value) && true))) then (
 AH (app 32 c1 [y1]) fun (l2:List AC)=>
 some l2
 ) else (
 some c1
 )
 )
noncomputable def Hs (a1:List AC) (b1:List AC) (i4:Int) (j2:Int) (o2:List AC):Option ((Int × Int × (List AC)) ⊕ (Ay Unit (List AC))):=
 if ((decide (i4<(a1.length:Int))) || (decide (j2<(b1.length:Int)))) then (
 AH (gd (((decide (j2=(b1.length:Int))) == false) && ((decide (i4<(a1.length:Int))) == true)) (AN a1 i4)) fun (x1:AC)=>
 AH (gd (((decide (j2=(b1.length:Int))) == false) && ((decide (i4<(a1.length:Int))) == true)) (AN b1 j2)) fun (x2:AC)=>
 if ((decide (j2=(b1.length:Int))) || ((decide (i4<(a1.length:Int))) && (Ae x1.Name x2.Name))) then (
 AH (AN a1 i4) fun (x3:AC)=>
 AH (Gq o2 x3 (AC.mk [] [])) fun (w1:List AC)=>
 AH (Ac .i64 (i4+1)) fun (i9:Int)=>
 some (.inl (i9,j2,w1))
 ) else (
 AH (gd ((decide (i4=(a1.length:Int))) == false) (AN b1 j2)) fun (x4:AC)=>
 AH (gd ((decide (i4=(a1.length:Int))) == false) (AN a1 i4)) fun (x5:AC)=>
 if ((decide (i4=(a1.length:Int))) || (Ae x4.Name x5.Name)) then (
 AH (AN b1 j2) fun (x6:AC)=>
 AH (Gq o2 (AC.mk [] []) x6) fun (w2:List AC)=>
 AH (Ac .i64 (j2+1)) fun (j4:Int)=>
 some (.inl (i4,j4,w2))
 ) else (
 AH (AN a1 i4) fun (x7:AC)=>
 AH (AN b1 j2) fun (x8:AC)=>
 AH (Gq o2 x7 x8) fun (w3:List AC)=>
 AH (Ac .i64 (i4+1)) fun (i12:Int)=>
 AH (Ac .i64 (j2+1)) fun (j5:Int)=>
 some (.inl (i12,j5,w3))
 )
 )
 ) else (
 some (.inr (.ext o2))
 )
noncomputable def Hz (c1:List AC) (a1:List AC) (b1:List AC):Option ((List AC)):=
 A0 (iter (fun (a:Int × Int × (List AC))=>Hs a1 b1 a.1 a.2.1 a.2.2) (0,0,c1)) fun (u2:Unit)=>
 none
noncomputable def I9 (a1:List AC) (b1:List AC):Option ((List AC)):=
 AH (Hz [] a1 b1) fun (w1:List AC)=>
 some w1
noncomputable def IX (l1:List AC) (a1:AC) (done2:Bool) (x2:Int) (out2:List AC):Option ((Bool × Int × (List AC)) ⊕ (Bool × (List AC))):=
 if (decide (x2<(l1.length:Int))) then (
 BU (
 AH (gd ((!done2) == true) (AN l1 x2)) fun (x5:AC)=>
 BU (
 if ((!done2) && (!Ae x5.Name a1.Name)) then (
 AH (app 32 out2 [a1]) fun (out10:List AC)=>
 some (true,out10)
 ) else (
 some (done2,out2)
 )
 ) fun (done6:Bool) (out8:List AC)=>
 AH (AN l1 x2) fun (x6:AC)=>
 if (!decide (x6.Name=a1.Name)) then (
 AH (app 32 out8 [x6]) fun (out9:List AC)=>
 some (done6,out9)
 ) else (
 some (done6,out8)
 )
 ) fun (done5:Bool) (out7:List AC)=>
 AH (Ac .i64 (x2+1)) fun (x4:Int)=>
 some (.inl (done5,x4,out7))
 ) else (
 some (.inr (done2,out2))
 )
noncomputable def Dv (l1:List AC) (a1:AC):Option ((List AC)):=
 BU (iter (fun (a:Bool × Int × (List AC))=>IX l1 a1 a.1 a.2.1 a.2.2) (false,0,[])) fun (done4:Bool) (out4:List AC)=>
 AH (
 if (!done4) then (
 AH (app 32 out4 [a1]) fun (out6:List AC)=>
 some out6
 ) else (
 some out4
 )
 ) fun (out5:List AC)=>
 some out5
noncomputable def Io (out8:List AC) (x8:Int) (rest2:List AC):Option ((Int × (List AC)) ⊕ (List AC)):=
 if (decide (x8<(out8.length:Int))) then (
 AH (
 AH (AN out8 x8) fun (x11:AC)=>
 if (!decide (x11.Value=[])) then (
 AH (app 32 rest2 [x11]) fun (rest6:List AC)=>
 some rest6
 ) else (
 some rest2
 )
 ) fun (rest5:List AC)=>
 AH (Ac .i64 (x8+1)) fun (x10:Int)=>
 some (.inl (x10,rest5))
 ) else (
 some (.inr rest2)
 )
noncomputable def Ix (change1:List AC) (out6:List AC) (x5:Int):Option (((List AC) × Int) ⊕ (List AC)):=
 if (decide (x5<(change1.length:Int))) then (
 AH (AN change1 x5) fun (x12:AC)=>
 AH (Dv out6 x12) fun (out9:List AC)=>
 AH (Ac .i64 (x5+1)) fun (x13:Int)=>
 some (.inl (out9,x13))
 ) else (
 some (.inr out6)
 )
noncomputable def IA (l1:List AC) (out2:List AC) (x2:Int):Option (((List AC) × Int) ⊕ (List AC)):=
 if (decide (x2<(l1.length:Int))) then (
 AH (AN l1 x2) fun (x14:AC)=>
 AH (Dv out2 x14) fun (out10:List AC)=>
 AH (Ac .i64 (x2+1)) fun (x15:Int)=>
 some (.inl (out10,x15))
 ) else (
 some (.inr out2)
 )
noncomputable def Hp (l1:List AC) (change1:List AC):Option ((List AC)):=
 AH (iter (fun (a:(List AC) × Int)=>IA l1 a.1 a.2) ([],0)) fun (out4:List AC)=>
 AH (iter (fun (a:(List AC) × Int)=>Ix change1 a.1 a.2) (out4,0)) fun (out8:List AC)=>
 AH (iter (fun (a:Int × (List AC))=>Io out8 a.1 a.2) (0,[])) fun (rest4:List AC)=>
 some rest4
noncomputable def Ih (a1:List AC) (b1:List AC) (out6:List AC) (x5:Int):Option (((List AC) × Int) ⊕ (List AC)):=
 if (decide (x5<(a1.length:Int))) then (
 AH (
 AH (AN a1 x5) fun (x8:AC)=>
 AH (G8 b1 x8.Name) fun (r1:List UInt8)=>
 if (decide (r1=[])) then (
 AH (Dv out6 (AC.mk x8.Name [])) fun (out10:List AC)=>
 some out10
 ) else (
 some out6
 )
 ) fun (out9:List AC)=>
 AH (Ac .i64 (x5+1)) fun (x7:Int)=>
 some (.inl (out9,x7))
 ) else (
 some (.inr out6)
 )
noncomputable def Hy (a1:List AC) (b1:List AC) (out2:List AC) (x2:Int):Option (((List AC) × Int) ⊕ (List AC)):=
 if (decide (x2<(b1.length:Int))) then (
 AH (
 AH (AN b1 x2) fun (x10:AC)=>
 AH (G8 a1 x10.Name) fun (r2:List UInt8)=>
 if (!decide (r2=x10.Value)) then (
 AH (Dv out2 x10) fun (out12:List AC)=>
 some out12
 ) else (
 some out2
 )
 ) fun (out11:List AC)=>
 AH (Ac .i64 (x2+1)) fun (x9:Int)=>
 some (.inl (out11,x9))
 ) else (
 some (.inr out2)
 )
noncomputable def HS (a1:List AC) (b1:List AC):Option ((List AC)):=
 AH (iter (fun (a:(List AC) × Int)=>Hy a1 b1 a.1 a.2) ([],0)) fun (out4:List AC)=>
 AH (iter (fun (a:(List AC) × Int)=>Ih a1 b1 a.1 a.2) (out4,0)) fun (out8:List AC)=>
 some out8
noncomputable def Mo (a1:List AC) (b1:List AC) (x2:Int):Option (Int ⊕ (Ay Unit Bool)):=
 if (decide (x2<(a1.length:Int))) then (
 AH (AN a1 x2) fun (x4:AC)=>
 AH (AN b1 x2) fun (x5:AC)=>
 if (!(decide (x4.Name=x5.Name) && (decide (x4.Value=x5.Value) && true))) then (
 some (.inr (.ext false))
 ) else (
 AH (Ac .i64 (x2+1)) fun (x6:Int)=>
 some (.inl x6)
 )
 ) else (
 some (.inr (.nrm ()))
 )
noncomputable def Nh (a1:List AC) (b1:List AC):Option (Bool):=
 if (!decide ((a1.length:Int)=(b1.length:Int))) then (
 some false
 ) else (
 A0 (iter (fun (a:Int)=>Mo a1 b1 a) 0) fun (u2:Unit)=>
 some true
 )
structure AB where
 Item:Int
 Parent:Int
 Place:List UInt8
 Attrs:List AC
deriving DecidableEq
instance:Inhabited AB:=⟨⟨0,0,[],[]⟩⟩
@[reducible] def AB.row (x:AB):List RV:=[.int .i64 x.Item,.int .i64 x.Parent,.str x.Place,.sl (x.Attrs.map AC.row)]
noncomputable def Hn:Option (Bool):=
 some true
noncomputable def Hm (s1:List UInt8) (x3:Int):Option (Int ⊕ (Ay Unit Bool)):=
 if (decide (x3<(s1.length:Int))) then (
 AH (AN s1 x3) fun (ch2:UInt8)=>
 if ((decide ((ch2.toNat:Int)<97)) || (decide (122<(ch2.toNat:Int)))) then (
 some (.inr (.ext false))
 ) else (
 AH (Ac .i64 (x3+1)) fun (x5:Int)=>
 some (.inl x5)
 )
 ) else (
 some (.inr (.nrm ()))
 )
noncomputable def JF (s1:List UInt8):Option (Bool):=
 AH (gd (((decide (s1=[])) || (decide (200<(s1.length:Int)))) == false) (Ac .i64 ((s1.length:Int)-1))) fun (x1:Int)=>
 AH (gd (((decide (s1=[])) || (decide (200<(s1.length:Int)))) == false) (AN s1 x1)) fun (ch1:UInt8)=>
 if (((decide (s1=[])) || (decide (200<(s1.length:Int)))) || (decide ((ch1.toNat:Int)=97))) then (
 some false
 ) else (
 A0 (iter (fun (a:Int)=>Hm s1 a) 0) fun (u2:Unit)=>
 some true
 )
noncomputable def KN (s1:List UInt8) (x2:Int):Option (Int ⊕ (Ay Unit Bool)):=
 if (decide (x2<(s1.length:Int))) then (
 AH (AN s1 x2) fun (ch2:UInt8)=>
 if ((decide ((ch2.toNat:Int)<97)) || (decide (122<(ch2.toNat:Int)))) then (
 some (.inr (.ext false))
 ) else (
 AH (Ac .i64 (x2+1)) fun (x5:Int)=>
 some (.inl x5)
 )
 ) else (
 some (.inr (.nrm ()))
 )
noncomputable def I5 (s1:List UInt8):Option (Bool):=
 A0 (iter (fun (a:Int)=>KN s1 a) 0) fun (u2:Unit)=>
 AH (gd (((decide (1≤(s1.length:Int))) && (decide ((s1.length:Int)≤200))) == true) (Ac .i64 ((s1.length:Int)-1))) fun (x4:Int)=>
 AH (gd (((decide (1≤(s1.length:Int))) && (decide ((s1.length:Int)≤200))) == true) (AN s1 x4)) fun (ch1:UInt8)=>
 some (((decide (1≤(s1.length:Int))) && (decide ((s1.length:Int)≤200))) && (!decide ((ch1.toNat:Int)=97)))
noncomputable def JJ (o1:AD):Option (Int):=
 if ((!decide (o1.Kind=0)) && (!decide (o1.Kind=1))) then (
 some 8
 ) else (
 if ((((((decide (o1.Clock<1)) || (decide (1073741824<o1.Clock))) || (decide (o1.Site<0))) || (decide (1000<o1.Site))) || (decide (o1.Item<1))) || (decide (1073741824<o1.Item))) then (
 some 2
 ) else (
 AH (
 if ((decide (o1.Kind=0)) && ((!decide (o1.Name=[])) || (!decide (o1.Value=[])))) then (
 some ((decide (o1.Kind=0)) && ((!decide (o1.Name=[])) || (!decide (o1.Value=[]))))
 ) else (
 some ((decide (o1.Kind=1)) && ((!decide (o1.Parent=0)) || (!decide (o1.Place=[]))))
 )
 ) fun (x1:Bool)=>
 if x1 then (
 some 4
 ) else (
 if ((decide (o1.Kind=0)) && ((decide (o1.Parent<(-1))) || (decide (1073741824<o1.Parent)))) then (
 some 2
 ) else (
 AH (gd ((decide (o1.Kind=0)) == true) (JF o1.Place)) fun (r1:Bool)=>
 AH (
 if ((decide (o1.Kind=0)) && (!r1)) then (
 some ((decide (o1.Kind=0)) && (!r1))
 ) else (
 AH (gd ((decide (o1.Kind=1)) == true) (Hr o1.Name)) fun (r3:Bool)=>
 some ((decide (o1.Kind=1)) && (!r3))
 )
 ) fun (x2:Bool)=>
 if x2 then (
 some 9
 ) else (
 AH (gd (((decide (o1.Kind=1)) && (!decide (o1.Value=[]))) == true) (Ip o1.Value)) fun (r2:Bool)=>
 if (((decide (o1.Kind=1)) && (!decide (o1.Value=[]))) && (!r2)) then (
 some 23
 ) else (
 some 0
 )
 )
 )
 )
 )
 )
noncomputable def Ir (x1:Int):Option (Bool):=
 some (!decide (x1=x1))
noncomputable def Hg (x1:Int) (y1:Int):Option (Int):=
 AH (Ir x1) fun (xNaN1:Bool)=>
 AH (Ir y1) fun (yNaN1:Bool)=>
 if xNaN1 then (
 if yNaN1 then (
 some 0
 ) else (
 some (-1)
 )
 ) else (
 if yNaN1 then (
 some 1
 ) else (
 if (decide (x1<y1)) then (
 some (-1)
 ) else (
 if (decide (y1<x1)) then (
 some 1
 ) else (
 some 0
 )
 )
 )
 )
noncomputable def Ie (vals1:List Int) (x2:Int):Option (Int ⊕ (Ay Unit Int)):=
 if (decide (x2<(vals1.length:Int))) then (
 AH (AN vals1 x2) fun (x4:Int)=>
 if (!decide (x4=0)) then (
 some (.inr (.ext x4))
 ) else (
 AH (Ac .i64 (x2+1)) fun (x5:Int)=>
 some (.inl x5)
 )
 ) else (
 some (.inr (.nrm ()))
 )
noncomputable def H9 (vals1:List Int):Option (Int):=
 A0 (iter (fun (a:Int)=>Ie vals1 a) 0) fun (u2:Unit)=>
 some 0
noncomputable def GZ (a1:AD) (b1:AD):Option (Int):=
 AH (Hg a1.Clock b1.Clock) fun (r1:Int)=>
 AH (Hg a1.Site b1.Site) fun (r2:Int)=>
 AH (H9 [r1,r2]) fun (r3:Int)=>
 some r3
noncomputable def IE (l1:List AD) (x2:Int):Option (Int ⊕ (Ay Unit Int)):=
 if (decide (x2<(l1.length:Int))) then (
 AH (AN l1 x2) fun (x4:AD)=>
 AH (JJ x4) fun (e1:Int)=>
 if (!decide (e1=0)) then (
 some (.inr (.ext e1))
 ) else (
 AH (gd ((decide (0<x2)) == true) (Ac .i64 (x2-1))) fun (x5:Int)=>
 AH (gd ((decide (0<x2)) == true) (AN l1 x5)) fun (x6:AD)=>
 AH (gd ((decide (0<x2)) == true) (GZ x6 x4)) fun (r1:Int)=>
 if ((decide (0<x2)) && (decide (0≤r1))) then (
 some (.inr (.ext 5))
 ) else (
 AH (Ac .i64 (x2+1)) fun (x7:Int)=>
 some (.inl x7)
 )
 )
 ) else (
 some (.inr (.nrm ()))
 )
noncomputable def GP (l1:List AD):Option (Int):=
 A0 (iter (fun (a:Int)=>IE l1 a) 0) fun (u2:Unit)=>
 some 0
noncomputable def IG (a1:AD) (b1:AD):Option (Bool):=
 some ((decide (a1.Clock<b1.Clock)) || ((decide (a1.Clock=b1.Clock)) && (decide (a1.Site<b1.Site))))
noncomputable def Hu (l1:List AD) (x2:Int):Option (Int ⊕ (Ay Unit Int)):=
 if (decide (x2<(l1.length:Int))) then (
 AH (AN l1 x2) fun (x4:AD)=>
 if ((!decide (x4.Kind=0)) && (!decide (x4.Kind=1))) then (
 some (.inr (.ext 8))
 ) else (
 AH (D4 x4.Clock 1 1073741824) fun (r1:Bool)=>
 AH (gd ((!r1) == false) (D4 x4.Site 0 1000)) fun (r2:Bool)=>
 AH (gd (((!r1) || (!r2)) == false) (D4 x4.Item 1 1073741824)) fun (r3:Bool)=>
 if (((!r1) || (!r2)) || (!r3)) then (
 some (.inr (.ext 2))
 ) else (
 A0 (
 if (decide (x4.Kind=0)) then (
 if ((!decide (x4.Name=[])) || (!decide (x4.Value=[]))) then (
 some (.ext (.inr (.ext 4)))
 ) else (
 AH (D4 x4.Parent (-1) 1073741824) fun (r5:Bool)=>
 if (!r5) then (
 some (.ext (.inr (.ext 2)))
 ) else (
 AH (I5 x4.Place) fun (r6:Bool)=>
 if (!r6) then (
 some (.ext (.inr (.ext 9)))
 ) else (
 some (.nrm ())
 )
 )
 )
 ) else (
 if ((!decide (x4.Parent=0)) || (!decide (x4.Place=[]))) then (
 some (.ext (.inr (.ext 4)))
 ) else (
 AH (IS x4.Name) fun (r7:Bool)=>
 if (!r7) then (
 some (.ext (.inr (.ext 9)))
 ) else (
 AH (gd ((!decide (x4.Value=[])) == true) (Ic x4.Value)) fun (r8:Bool)=>
 if ((!decide (x4.Value=[])) && (!r8)) then (
 some (.ext (.inr (.ext 23)))
 ) else (
 some (.nrm ())
 )
 )
 )
 )
 ) fun (u3:Unit)=>
 AH (gd ((decide (0<x2)) == true) (Ac .i64 (x2-1))) fun (x5:Int)=>
 AH (gd ((decide (0<x2)) == true) (AN l1 x5)) fun (x6:AD)=>
 AH (gd ((decide (0<x2)) == true) (IG x6 x4)) fun (r4:Bool)=>
 if ((decide (0<x2)) && (!r4)) then (
 some (.inr (.ext 5))
 ) else (
 AH (Ac .i64 (x2+1)) fun (x7:Int)=>
 some (.inl x7)
 )
 )
 )
 ) else (
 some (.inr (.nrm ()))
 )
noncomputable def GF (l1:List AD):Option (Int):=
 A0 (iter (fun (a:Int)=>Hu l1 a) 0) fun (u2:Unit)=>
 some 0
noncomputable def EF (a3:List AD) (b3:List AD) (out2:List AD):Option (((List AD) × (List AD) × (List AD)) ⊕ (Ay (List AD) ((List AD) × Int))):=
 if ((decide (0<(a3.length:Int))) || (decide (0<(b3.length:Int)))) then (
 AH (gd (((decide ((b3.length:Int)=0)) == false) && ((decide (0<(a3.length:Int))) == true)) (AN a3 0)) fun (x1:AD)=>
 AH (gd (((decide ((b3.length:Int)=0)) == false) && ((decide (0<(a3.length:Int))) == true)) (AN b3 0)) fun (x2:AD)=>
 AH (gd (((decide ((b3.length:Int)=0)) == false) && ((decide (0<(a3.length:Int))) == true)) (GZ x1 x2)) fun (r1:Int)=>
 if ((decide ((b3.length:Int)=0)) || ((decide (0<(a3.length:Int))) && (decide (r1<0)))) then (
 AH (AN a3 0) fun (x3:AD)=>
 AH (app 88 out2 [x3]) fun (out5:List AD)=>
 AH (DV a3 1 (a3.length:Int)) fun (a5:List AD)=>
 some (.inl (a5,b3,out5))
 ) else (
 AH (gd ((decide ((a3.length:Int)=0)) == false) (AN b3 0)) fun (x4:AD)=>
 AH (gd ((decide ((a3.length:Int)=0)) == false) (AN a3 0)) fun (x5:AD)=>
 AH (gd ((decide ((a3.length:Int)=0)) == false) (GZ x4 x5)) fun (r2:Int)=>
 if ((decide ((a3.length:Int)=0)) || (decide (r2<0))) then (
 AH (AN b3 0) fun (x6:AD)=>
 AH (app 88 out2 [x6]) fun (out6:List AD)=>
 AH (DV b3 1 (b3.length:Int)) fun (b5:List AD)=>
 some (.inl (a3,b5,out6))
 ) else (
 AH (AN a3 0) fun (x7:AD)=>
 AH (AN b3 0) fun (x8:AD)=>
 if (!(decide (x7.Clock=x8.Clock) && (decide (x7.Site=x8.Site) && (decide (x7.Kind=x8.Kind) && (decide (x7.Item=x8.Item) && (decide (x7.Parent=x8.Parent) && (decide (x7.Place=x8.Place) && (decide (x7.Name=x8.Name) && (decide (x7.Value=x8.Value) && true))))))))) then (
 some (.inr (.ext ([],6)))
 ) else (
 AH (app 88 out2 [x7]) fun (out7:List AD)=>
 AH (DV a3 1 (a3.length:Int)) fun (a6:List AD)=>
 AH (DV b3 1 (b3.length:Int)) fun (b6:List AD)=>
 some (.inl (a6,b6,out7))
 )
 )
 )
 ) else (
 some (.inr (.nrm out2))
 )
noncomputable def Im (a1:List AD) (b1:List AD):Option ((List AD) × Int):=
 A0 (iter (fun (a:(List AD) × (List AD) × (List AD))=>EF a.1 a.2.1 a.2.2) (a1,b1,[])) fun (out4:List AD)=>
 some (out4,0)
noncomputable def IY (a1:List AD) (b1:List AD):Option ((List AD) × Int):=
 AH (GP a1) fun (e1:Int)=>
 if (!decide (e1=0)) then (
 some ([],e1)
 ) else (
 AH (GP b1) fun (e2:Int)=>
 if (!decide (e2=0)) then (
 some ([],e2)
 ) else (
 BU (Im a1 b1) fun (r1:List AD) (r2:Int)=>
 some (r1,r2)
 )
 )
noncomputable def EU (m1:List (Int × AB)) (top1:Int) (item3:Int):Option (Int ⊕ (Ay Unit Bool)):=
 if (decide (0<item3)) then (
 if (decide (item3=top1)) then (
 some (.inr (.ext true))
 ) else (
 if (!((AK m1 item3).isSome)) then (
 some (.inr (.ext false))
 ) else (
 AH (AK m1 item3) fun (x1:AB)=>
 some (.inl x1.Parent)
 )
 )
 ) else (
 some (.inr (.nrm ()))
 )
noncomputable def JA (m1:List (Int × AB)) (m2:List (Int × (List AC))) (item1:Int) (top1:Int):Option (Bool):=
 A0 (iter (fun (a:Int)=>EU m1 top1 a) item1) fun (u2:Unit)=>
 some false
noncomputable def Dd (l1:List AD) (x2:Int) (m3:List (Int × AB)) (m4:List (Int × (List AC))):Option ((Int × (List (Int × AB)) × (List (Int × (List AC)))) ⊕ ((List (Int × AB)) × (List (Int × (List AC))))):=
 if (decide (x2<(l1.length:Int))) then (
 BU (
 AH (AN l1 x2) fun (x5:AD)=>
 if (decide (x5.Kind=1)) then (
 AH (HP ((AK m4 x5.Item).getD []) [(AC.mk x5.Name x5.Value)]) fun (r1:List AC)=>
 some (m3,(Aw m4 x5.Item r1))
 ) else (
 AH (JA m3 m4 x5.Parent x5.Item) fun (r2:Bool)=>
 if (!r2) then (
 some ((Aw m3 x5.Item (AB.mk x5.Item x5.Parent x5.Place [])),m4)
 ) else (
 some (m3,m4)
 )
 )
 ) fun (m9:List (Int × AB)) (m10:List (Int × (List AC)))=>
 AH (Ac .i64 (x2+1)) fun (x4:Int)=>
 some (.inl (x4,m9,m10))
 ) else (
 some (.inr (m3,m4))
 )
noncomputable def DR (l1:List AD):Option ((List (Int × AB)) × (List (Int × (List AC)))):=
 BU (iter (fun (a:Int × (List (Int × AB)) × (List (Int × (List AC))))=>Dd l1 a.1 a.2.1 a.2.2) (0,[],[])) fun (m7:List (Int × AB)) (m8:List (Int × (List AC)))=>
 some (m7,m8)
noncomputable def FC (l1:List AB) (item1:Int) (x2:Int):Option (Int ⊕ (Ay Unit Int)):=
 if (decide (x2<(l1.length:Int))) then (
 AH (AN l1 x2) fun (x4:AB)=>
 if (decide (x4.Item=item1)) then (
 some (.inr (.ext x2))
 ) else (
 AH (Ac .i64 (x2+1)) fun (x5:Int)=>
 some (.inl x5)
 )
 ) else (
 some (.inr (.nrm ()))
 )
noncomputable def CN (l1:List AB) (item1:Int):Option (Int):=
 A0 (iter (fun (a:Int)=>FC l1 item1 a) 0) fun (u2:Unit)=>
 some (-1)
noncomputable def EE (l1:List AB) (top1:Int) (x1:Int) (item3:Int) (x3:Int):Option ((Int × Int) ⊕ (Ay Unit Bool)):=
 if (decide (x3<x1)) then (
 if (decide (item3=top1)) then (
 some (.inr (.ext true))
 ) else (
 AH (CN l1 item3) fun (i6:Int)=>
 if (decide (i6<0)) then (
 some (.inr (.ext false))
 ) else (
 AH (AN l1 i6) fun (x5:AB)=>
 AH (Ac .i64 (x3+1)) fun (x6:Int)=>
 some (.inl (x5.Parent,x6))
 )
 )
 ) else (
 some (.inr (.nrm ()))
 )
noncomputable def GN (l1:List AB) (item1:Int) (top1:Int):Option (Bool):=
 AH (Ac .i64 ((l1.length:Int)+1)) fun (x1:Int)=>
 A0 (iter (fun (a:Int × Int)=>EE l1 top1 x1 a.1 a.2) (item1,0)) fun (u2:Unit)=>
 some false
noncomputable def Eu (items4:List AB) (attrs4:List AB) (x5:Int) (items6:List AB):Option ((Int × (List AB)) ⊕ (List AB)):=
 if (decide (x5<(items4.length:Int))) then (
 AH (
 AH (AN items6 x5) fun (x8:AB)=>
 AH (CN attrs4 x8.Item) fun (k1:Int)=>
 if (decide (0≤k1)) then (
 AH (AN attrs4 k1) fun (x9:AB)=>
 some (items6.set x5.toNat (AB.mk x8.Item x8.Parent x8.Place x9.Attrs))
 ) else (
 some items6
 )
 ) fun (items9:List AB)=>
 AH (Ac .i64 (x5+1)) fun (x7:Int)=>
 some (.inl (x7,items9))
 ) else (
 some (.inr items6)
 )
noncomputable def Bs (l1:List AD) (x2:Int) (items2:List AB) (attrs2:List AB):Option ((Int × (List AB) × (List AB)) ⊕ ((List AB) × (List AB))):=
 if (decide (x2<(l1.length:Int))) then (
 BU (
 AH (AN l1 x2) fun (x11:AD)=>
 if (decide (x11.Kind=1)) then (
 AH (CN attrs2 x11.Item) fun (k2:Int)=>
 BU (
 if (decide (k2<0)) then (
 AH (app 56 attrs2 [(AB.mk x11.Item 0 [] [])]) fun (attrs7:List AB)=>
 some ((attrs2.length:Int),attrs7)
 ) else (
 some (k2,attrs2)
 )
 ) fun (k3:Int) (attrs6:List AB)=>
 AH (AN attrs6 k3) fun (x12:AB)=>
 AH (Hp x12.Attrs [(AC.mk x11.Name x11.Value)]) fun (r1:List AC)=>
 some (items2,(attrs6.set k3.toNat (AB.mk x12.Item x12.Parent x12.Place r1)))
 ) else (
 AH (gd (((decide (x11.Parent=x11.Item)) == false) && ((decide (0<x11.Parent)) == true)) (GN items2 x11.Parent x11.Item)) fun (r2:Bool)=>
 if ((decide (x11.Parent=x11.Item)) || ((decide (0<x11.Parent)) && r2)) then (
 some (items2,attrs2)
 ) else (
 AH (CN items2 x11.Item) fun (k4:Int)=>
 BU (
 if (decide (k4<0)) then (
 AH (app 56 items2 [(AB.mk 0 0 [] [])]) fun (items12:List AB)=>
 some ((items2.length:Int),items12)
 ) else (
 some (k4,items2)
 )
 ) fun (k5:Int) (items11:List AB)=>
 AH (AN items11 k5) fun (x13:AB)=>
 some ((items11.set k5.toNat (AB.mk x11.Item x11.Parent x11.Place [])),attrs2)
 )
 )
 ) fun (items10:List AB) (attrs5:List AB)=>
 AH (Ac .i64 (x2+1)) fun (x10:Int)=>
 some (.inl (x10,items10,attrs5))
 ) else (
 some (.inr (items2,attrs2))
 )
noncomputable def Cn (l1:List AD):Option ((List AB) × (List AB)):=
 BU (iter (fun (a:Int × (List AB) × (List AB))=>Bs l1 a.1 a.2.1 a.2.2) (0,[],[])) fun (items4:List AB) (attrs4:List AB)=>
 AH (iter (fun (a:Int × (List AB))=>Eu items4 attrs4 a.1 a.2) (0,items4)) fun (items8:List AB)=>
 some (items8,attrs4)
noncomputable def FG (l1:List AB) (parent1:Int) (place2:List UInt8) (item2:Int) (next2:Int) (x2:Int):Option ((Int × Int) ⊕ Int):=
 if (decide (x2<(l1.length:Int))) then (
 AH (
 AH (AN l1 x2) fun (x6:AB)=>
 if (((!decide (x6.Parent=parent1)) || (Ae x6.Place place2)) || ((decide (x6.Place=place2)) && (decide (x6.Item≤item2)))) then (
 some next2
 ) else (
 AH (gd ((decide (next2<0)) == false) (AN l1 next2)) fun (x7:AB)=>
 AH (gd (((decide (next2<0)) || (Ae x6.Place x7.Place)) == false) (AN l1 next2)) fun (x8:AB)=>
 if (((decide (next2<0)) || (Ae x6.Place x7.Place)) || ((decide (x6.Place=x8.Place)) && (decide (x6.Item<x8.Item)))) then (
 some x2
 ) else (
 some next2
 )
 )
 ) fun (next5:Int)=>
 AH (Ac .i64 (x2+1)) fun (x5:Int)=>
 some (.inl (next5,x5))
 ) else (
 some (.inr next2)
 )
noncomputable def Dt (l1:List AB) (parent1:Int) (self:(List AB)→(List AB)→Int→Option (List AB)) (place2:List UInt8) (item2:Int) (out3:List AB):Option (((List UInt8) × Int × (List AB)) ⊕ (Ay Unit (List AB))):=
 AH (iter (fun (a:Int × Int)=>FG l1 parent1 place2 item2 a.1 a.2) ((-1),0)) fun (next4:Int)=>
 if (decide (next4<0)) then (
 some (.inr (.ext out3))
 ) else (
 AH (AN l1 next4) fun (x4:AB)=>
 AH (app 56 out3 [x4]) fun (l2:List AB)=>
 AH (self l2 l1 x4.Item) fun (w1:List AB)=>
 some (.inl (x4.Place,x4.Item,w1))
 )
noncomputable def FU (self:(List AB)→(List AB)→Int→Option (List AB)) (out1:List AB) (l1:List AB) (parent1:Int):Option ((List AB)):=
 A0 (iter (fun (a:(List UInt8) × Int × (List AB))=>Dt l1 parent1 self a.1 a.2.1 a.2.2) ([],0,out1)) fun (u2:Unit)=>
 none
noncomputable def B9:Nat→(List AB)→(List AB)→Int→Option (List AB)
 | 0,_,_,_=>none
 | n+1,out1,l1,parent1=>FU (fun out1 l1 parent1=>B9 n out1 l1 parent1) out1 l1 parent1
noncomputable def IQ (out1:List AB) (l1:List AB) (parent1:Int):Option ((List AB)):=
 @dite _ (∃ n r,B9 n out1 l1 parent1=some r) (Classical.propDecidable _) (fun h=>B9 h.choose out1 l1 parent1) (fun _=>none)
noncomputable def FW (r1:List AB) (w1:List AB) (last2:Int) (out2:List AB) (next2:Int) (x2:Int):Option ((Int × Int) ⊕ Int):=
 if (decide (x2<(r1.length:Int))) then (
 AH (
 AH (AN r1 x2) fun (x6:AB)=>
 AH (gd ((decide (last2<x6.Item)) == true) (DV out2 0 (w1.length:Int))) fun (l2:List AB)=>
 AH (gd ((decide (last2<x6.Item)) == true) (CN l2 x6.Item)) fun (r3:Int)=>
 AH (gd ((((decide (last2<x6.Item)) && (decide (r3<0))) == true) && ((decide (next2<0)) == false)) (AN r1 next2)) fun (x7:AB)=>
 if (((decide (last2<x6.Item)) && (decide (r3<0))) && ((decide (next2<0)) || (decide (x6.Item<x7.Item)))) then (
 some x2
 ) else (
 some next2
 )
 ) fun (next5:Int)=>
 AH (Ac .i64 (x2+1)) fun (x5:Int)=>
 some (.inl (next5,x5))
 ) else (
 some (.inr next2)
 )
noncomputable def E3 (r1:List AB) (w1:List AB) (last2:Int) (out2:List AB):Option ((Int × (List AB)) ⊕ (Ay Unit ((List AB) × Int))):=
 AH (iter (fun (a:Int × Int)=>FW r1 w1 last2 out2 a.1 a.2) ((-1),0)) fun (next4:Int)=>
 if (decide (next4<0)) then (
 some (.inr (.ext (out2,(w1.length:Int))))
 ) else (
 AH (AN r1 next4) fun (x4:AB)=>
 AH (app 56 out2 [x4]) fun (out4:List AB)=>
 some (.inl (x4.Item,out4))
 )
noncomputable def Eg (l1:List AD):Option ((List AB) × Int):=
 BU (Cn l1) fun (r1:List AB) (r2:List AB)=>
 AH (IQ [] r1 0) fun (w1:List AB)=>
 A0 (iter (fun (a:Int × (List AB))=>E3 r1 w1 a.1 a.2) (0,w1)) fun (u2:Unit)=>
 none
noncomputable def Hl (a1:AB) (b1:AB):Option (Bool):=
 AH (gd ((((decide (a1.Item=b1.Item)) && (decide (a1.Parent=b1.Parent))) && (decide (a1.Place=b1.Place))) == true) (IK a1.Attrs b1.Attrs)) fun (r1:Bool)=>
 some ((((decide (a1.Item=b1.Item)) && (decide (a1.Parent=b1.Parent))) && (decide (a1.Place=b1.Place))) && r1)
noncomputable def Fw (self:(List (Int × AB))→(List (Int × (List AC)))→(List (Int × Bool))→(List AB)→Int→Option ((List (Int × Bool)) × (List AB))) (m1:List (Int × AB)) (m2:List (Int × (List AC))) (m3:List (Int × Bool)) (c1:List AB) (id1:Int):Option ((List (Int × Bool)) × (List AB)):=
 if ((!((AK m1 id1).isSome)) || ((AK m3 id1).getD false)) then (
 some (m3,c1)
 ) else (
 AH (AK m1 id1) fun (x1:AB)=>
 BU (self m1 m2 (Aw m3 id1 true) c1 x1.Parent) fun (w1:List (Int × Bool)) (w2:List AB)=>
 AH (app 56 w2 [x1]) fun (l1:List AB)=>
 some (w1,l1)
 )
noncomputable def Ct:Nat→(List (Int × AB))→(List (Int × (List AC)))→(List (Int × Bool))→(List AB)→Int→Option ((List (Int × Bool)) × (List AB))
 | 0,_,_,_,_,_=>none
 | n+1,m1,m2,m3,c1,id1=>Fw (fun m1 m2 m3 c1 id1=>Ct n m1 m2 m3 c1 id1) m1 m2 m3 c1 id1
noncomputable def H0 (m1:List (Int × AB)) (m2:List (Int × (List AC))) (m3:List (Int × Bool)) (c1:List AB) (id1:Int):Option ((List (Int × Bool)) × (List AB)):=
 @dite _ (∃ n r,Ct n m1 m2 m3 c1 id1=some r) (Classical.propDecidable _) (fun h=>Ct h.choose m1 m2 m3 c1 id1) (fun _=>none)
noncomputable def ES (ids2:List Int) (k1:Int):Option (List Int):=
 AH (app 8 ids2 [k1]) fun (ids4:List Int)=>
 some ids4
noncomputable def Ey (m1:List (Int × AB)) (m2:List (Int × (List AC))) (w1:List Int) (x2:Int) (out2:List AB) (m4:List (Int × Bool)):Option ((Int × (List AB) × (List (Int × Bool))) ⊕ (List AB)):=
 if (decide (x2<(w1.length:Int))) then (
 AH (AN w1 x2) fun (x4:Int)=>
 BU (H0 m1 m2 m4 out2 x4) fun (w2:List (Int × Bool)) (w3:List AB)=>
 AH (Ac .i64 (x2+1)) fun (x5:Int)=>
 some (.inl (x5,w3,w2))
 ) else (
 some (.inr out2)
 )
noncomputable def Fx (m1:List (Int × AB)) (m2:List (Int × (List AC))):Option ((List AB)):=
 DH (fun (_:(List Int))=>m1.map (·.1)) (fun (a:(List Int)) (k1:Int)=>ES a k1) [] fun (a:(List Int))=>
 AH (some a) fun (ids2:List Int)=>
 AH (D9 ids2) fun (w1:List Int)=>
 AH (iter (fun (a:Int × (List AB) × (List (Int × Bool)))=>Ey m1 m2 w1 a.1 a.2.1 a.2.2) (0,[],[])) fun (out4:List AB)=>
 some out4
noncomputable def Ge (c1:Int) (c2:List AD) (c3:Int) (o1:AD):Option ((List AD)):=
 AH (Ac .i64 (c1+(c2.length:Int))) fun (x1:Int)=>
 AH (app 88 c2 [(AD.mk x1 c3 o1.Kind o1.Item o1.Parent o1.Place o1.Name o1.Value)]) fun (l1:List AD)=>
 some l1
noncomputable def Gd (w2:List (Int × (List AC))) (m2:List (Int × Bool)) (k1:Int):Option (List (Int × Bool)):=
 AH (AK w2 k1) fun (v1:List AC)=>
 some (Aw m2 k1 true)
noncomputable def GA (w4:List (Int × (List AC))) (m5:List (Int × Bool)) (k2:Int):Option (List (Int × Bool)):=
 AH (AK w4 k2) fun (v2:List AC)=>
 some (Aw m5 k2 true)
noncomputable def D1 (m5:List (Int × Bool)) (all2:List Int) (k3:Int):Option (List Int):=
 AH (AK m5 k3) fun (v3:Bool)=>
 AH (app 8 all2 [k3]) fun (all4:List Int)=>
 some all4
noncomputable def Ed (clock1:Int) (site1:Int) (x17:Int) (r3:List AC) (x19:Int) (out14:List AD):Option ((Int × (List AD)) ⊕ (List AD)):=
 if (decide (x19<(r3.length:Int))) then (
 AH (AN r3 x19) fun (x22:AC)=>
 AH (Ge clock1 out14 site1 (AD.mk 0 0 1 x17 0 [] x22.Name x22.Value)) fun (w6:List AD)=>
 AH (Ac .i64 (x19+1)) fun (x23:Int)=>
 some (.inl (x23,w6))
 ) else (
 some (.inr out14)
 )
noncomputable def EJ (clock1:Int) (site1:Int) (w2:List (Int × (List AC))) (w4:List (Int × (List AC))) (w5:List Int) (x13:Int) (out10:List AD):Option ((Int × (List AD)) ⊕ (List AD)):=
 if (decide (x13<(w5.length:Int))) then (
 AH (AN w5 x13) fun (x17:Int)=>
 AH (I9 ((AK w2 x17).getD []) ((AK w4 x17).getD [])) fun (r3:List AC)=>
 AH (iter (fun (a:Int × (List AD))=>Ed clock1 site1 x17 r3 a.1 a.2) (0,out10)) fun (out16:List AD)=>
 AH (Ac .i64 (x13+1)) fun (x21:Int)=>
 some (.inl (x21,out16))
 ) else (
 some (.inr out10)
 )
noncomputable def Er (clock1:Int) (site1:Int) (w1:List (Int × AB)) (r2:List AB) (x10:Int) (out6:List AD):Option ((Int × (List AD)) ⊕ (List AD)):=
 if (decide (x10<(r2.length:Int))) then (
 AH (
 AH (AN r2 x10) fun (x25:AB)=>
 AH (gd ((!((AK w1 x25.Item).isSome)) == false) (AK w1 x25.Item)) fun (x26:AB)=>
 AH (gd (((!((AK w1 x25.Item).isSome)) || (!decide (x26.Parent=x25.Parent))) == false) (AK w1 x25.Item)) fun (x27:AB)=>
 if (((!((AK w1 x25.Item).isSome)) || (!decide (x26.Parent=x25.Parent))) || (!decide (x27.Place=x25.Place))) then (
 AH (Ge clock1 out6 site1 (AD.mk 0 0 0 x25.Item x25.Parent x25.Place [] [])) fun (w7:List AD)=>
 some w7
 ) else (
 some out6
 )
 ) fun (out17:List AD)=>
 AH (Ac .i64 (x10+1)) fun (x24:Int)=>
 some (.inl (x24,out17))
 ) else (
 some (.inr out6)
 )
noncomputable def Dr (clock1:Int) (site1:Int) (w3:List (Int × AB)) (r1:List AB) (x7:Int) (out2:List AD):Option ((Int × (List AD)) ⊕ (List AD)):=
 if (decide (x7<(r1.length:Int))) then (
 AH (
 AH (AN r1 x7) fun (x29:AB)=>
 if ((!((AK w3 x29.Item).isSome)) && (!decide (x29.Parent=(-1)))) then (
 AH (Ge clock1 out2 site1 (AD.mk 0 0 0 x29.Item (-1) x29.Place [] [])) fun (w8:List AD)=>
 some w8
 ) else (
 some out2
 )
 ) fun (out18:List AD)=>
 AH (Ac .i64 (x7+1)) fun (x28:Int)=>
 some (.inl (x28,out18))
 ) else (
 some (.inr out2)
 )
noncomputable def Bq (l1:List AD) (want1:List AD) (x2:Int):Option (Int ⊕ (Ay Unit ((List AD) × Int))):=
 if (decide (x2<2)) then (
 AH (AN ([l1,want1]:List (List AD)) x2) fun (x30:List AD)=>
 AH (GP x30) fun (e1:Int)=>
 if (!decide (e1=0)) then (
 some (.inr (.ext ([],e1)))
 ) else (
 AH (Ac .i64 (x2+1)) fun (x31:Int)=>
 some (.inl x31)
 )
 ) else (
 some (.inr (.nrm ()))
 )
noncomputable def Fu (l1:List AD) (want1:List AD) (clock1:Int) (site1:Int):Option ((List AD) × Int):=
 A0 (iter (fun (a:Int)=>Bq l1 want1 a) 0) fun (u2:Unit)=>
 AH (gd ((((((decide (clock1<1)) || (decide (1073741824<clock1))) || (decide (site1<0))) || (decide (1000<site1))) == false) && ((decide (0<(l1.length:Int))) == true)) (Ac .i64 ((l1.length:Int)-1))) fun (x4:Int)=>
 AH (gd ((((((decide (clock1<1)) || (decide (1073741824<clock1))) || (decide (site1<0))) || (decide (1000<site1))) == false) && ((decide (0<(l1.length:Int))) == true)) (AN l1 x4)) fun (x5:AD)=>
 if (((((decide (clock1<1)) || (decide (1073741824<clock1))) || (decide (site1<0))) || (decide (1000<site1))) || ((decide (0<(l1.length:Int))) && (decide (clock1≤x5.Clock)))) then (
 some ([],2)
 ) else (
 BU (DR l1) fun (w1:List (Int × AB)) (w2:List (Int × (List AC)))=>
 BU (DR want1) fun (w3:List (Int × AB)) (w4:List (Int × (List AC)))=>
 AH (Fx w1 w2) fun (r1:List AB)=>
 AH (iter (fun (a:Int × (List AD))=>Dr clock1 site1 w3 r1 a.1 a.2) (0,[])) fun (out4:List AD)=>
 AH (Fx w3 w4) fun (r2:List AB)=>
 AH (iter (fun (a:Int × (List AD))=>Er clock1 site1 w1 r2 a.1 a.2) (0,out4)) fun (out8:List AD)=>
 DH (fun (_:(List (Int × Bool)))=>w2.map (·.1)) (fun (a:(List (Int × Bool))) (k1:Int)=>Gd w2 a k1) [] fun (a:(List (Int × Bool)))=>
 AH (some a) fun (m2:List (Int × Bool))=>
 DH (fun (_:(List (Int × Bool)))=>w4.map (·.1)) (fun (a:(List (Int × Bool))) (k2:Int)=>GA w4 a k2) m2 fun (a:(List (Int × Bool)))=>
 AH (some a) fun (m5:List (Int × Bool))=>
 DH (fun (_:(List Int))=>m5.map (·.1)) (fun (a:(List Int)) (k3:Int)=>D1 m5 a k3) [] fun (a:(List Int))=>
 AH (some a) fun (all2:List Int)=>
 AH (D9 all2) fun (w5:List Int)=>
 AH (iter (fun (a:Int × (List AD))=>EJ clock1 site1 w2 w4 w5 a.1 a.2) (0,out8)) fun (out12:List AD)=>
 AH (gd ((decide (0<(out12.length:Int))) == true) (Ac .i64 ((out12.length:Int)-1))) fun (x15:Int)=>
 AH (gd ((decide (0<(out12.length:Int))) == true) (AN out12 x15)) fun (x16:AD)=>
 if ((decide (0<(out12.length:Int))) && (decide (1073741824<x16.Clock))) then (
 some ([],18)
 ) else (
 some (out12,0)
 )
 )
noncomputable def Eo (l1:List AB) (out2:List AB) (k2:Int) (chain2:List AB):Option ((Int × (List AB)) ⊕ (List AB)):=
 AH (gd ((decide (0≤k2)) == true) (AN l1 k2)) fun (x5:AB)=>
 AH (gd ((decide (0≤k2)) == true) (CN out2 x5.Item)) fun (r1:Int)=>
 if ((decide (0≤k2)) && (decide (r1<0))) then (
 AH (AN l1 k2) fun (x6:AB)=>
 AH (app 56 [x6] chain2) fun (chain5:List AB)=>
 AH (CN l1 x6.Parent) fun (k4:Int)=>
 some (.inl (k4,chain5))
 ) else (
 some (.inr chain2)
 )
noncomputable def Fb (l1:List AB) (last2:Int) (next2:Int) (x2:Int):Option ((Int × Int) ⊕ Int):=
 if (decide (x2<(l1.length:Int))) then (
 AH (
 AH (AN l1 x2) fun (x8:AB)=>
 AH (gd (((decide (last2<x8.Item)) == true) && ((decide (next2<0)) == false)) (AN l1 next2)) fun (x9:AB)=>
 if ((decide (last2<x8.Item)) && ((decide (next2<0)) || (decide (x8.Item<x9.Item)))) then (
 some x2
 ) else (
 some next2
 )
 ) fun (next5:Int)=>
 AH (Ac .i64 (x2+1)) fun (x7:Int)=>
 some (.inl (next5,x7))
 ) else (
 some (.inr next2)
 )
noncomputable def FD (l1:List AB) (last2:Int) (out2:List AB):Option ((Int × (List AB)) ⊕ (Ay Unit (List AB))):=
 AH (iter (fun (a:Int × Int)=>Fb l1 last2 a.1 a.2) ((-1),0)) fun (next4:Int)=>
 if (decide (next4<0)) then (
 some (.inr (.ext out2))
 ) else (
 AH (AN l1 next4) fun (x4:AB)=>
 AH (iter (fun (a:Int × (List AB))=>Eo l1 out2 a.1 a.2) (next4,[])) fun (chain4:List AB)=>
 AH (app 56 out2 chain4) fun (out4:List AB)=>
 some (.inl (x4.Item,out4))
 )
noncomputable def Gx (l1:List AB):Option ((List AB)):=
 A0 (iter (fun (a:Int × (List AB))=>FD l1 a.1 a.2) (0,[])) fun (u2:Unit)=>
 none
noncomputable def Eh (next4:Int) (r5:List AC) (x12:Int) (out13:List Int):Option ((Int × (List Int)) ⊕ (Ay Unit ((Int × (List Int)) ⊕ (Ay Unit (Int × (List Int)))))):=
 if (decide (x12<(r5.length:Int))) then (
 AH (Ac .i64 (-next4)) fun (x14:Int)=>
 AH (app 8 out13 [x14]) fun (out15:List Int)=>
 AH (Ac .i64 (x12+1)) fun (x15:Int)=>
 some (.inl (x15,out15))
 ) else (
 some (.inr (.ext (.inl (next4,out13))))
 )
noncomputable def E8 (last2:Int) (all1:List AB) (next2:Int) (x8:Int):Option ((Int × Int) ⊕ Int):=
 if (decide (x8<(all1.length:Int))) then (
 AH (
 AH (AN all1 x8) fun (x19:AB)=>
 if ((decide (last2<x19.Item)) && ((decide (next2=0)) || (decide (x19.Item<next2)))) then (
 some x19.Item
 ) else (
 some next2
 )
 ) fun (next5:Int)=>
 AH (Ac .i64 (x8+1)) fun (x18:Int)=>
 some (.inl (next5,x18))
 ) else (
 some (.inr next2)
 )
noncomputable def FF (r2:List AB) (r4:List AB) (last2:Int) (out10:List Int):Option ((Int × (List Int)) ⊕ (Ay Unit (Int × (List Int)))):=
 AH (app 56 [] r2) fun (l2:List AB)=>
 AH (app 56 l2 r4) fun (all1:List AB)=>
 AH (iter (fun (a:Int × Int)=>E8 last2 all1 a.1 a.2) (0,0)) fun (next4:Int)=>
 if (decide (next4=0)) then (
 some (.inr (.ext ((out10.length:Int),out10)))
 ) else (
 AH (CN r2 next4) fun (k1:Int)=>
 AH (
 if (decide (0≤k1)) then (
 AH (AN r2 k1) fun (x17:AB)=>
 some x17.Attrs
 ) else (
 some []
 )
 ) fun (x10:List AC)=>
 AH (CN r4 next4) fun (k2:Int)=>
 AH (
 if (decide (0≤k2)) then (
 AH (AN r4 k2) fun (x16:AB)=>
 some x16.Attrs
 ) else (
 some []
 )
 ) fun (y1:List AC)=>
 AH (HS x10 y1) fun (r5:List AC)=>
 A0 (iter (fun (a:Int × (List Int))=>Eh next4 r5 a.1 a.2) (0,out10)) fun (u7:Unit)=>
 none
 )
noncomputable def FB (r1:List AB) (b1:List AB) (x5:Int) (out6:List Int):Option ((Int × (List Int)) ⊕ (List Int)):=
 if (decide (x5<(b1.length:Int))) then (
 AH (
 AH (AN b1 x5) fun (x21:AB)=>
 AH (CN r1 x21.Item) fun (k3:Int)=>
 AH (gd ((decide (k3<0)) == false) (AN r1 k3)) fun (x22:AB)=>
 AH (gd (((decide (k3<0)) || (!decide (x22.Parent=x21.Parent))) == false) (AN r1 k3)) fun (x23:AB)=>
 if (((decide (k3<0)) || (!decide (x22.Parent=x21.Parent))) || (!decide (x23.Place=x21.Place))) then (
 AH (app 8 out6 [x21.Item]) fun (out17:List Int)=>
 some out17
 ) else (
 some out6
 )
 ) fun (out16:List Int)=>
 AH (Ac .i64 (x5+1)) fun (x20:Int)=>
 some (.inl (x20,out16))
 ) else (
 some (.inr out6)
 )
noncomputable def ED (r3:List AB) (a1:List AB) (x2:Int) (out2:List Int):Option ((Int × (List Int)) ⊕ (List Int)):=
 if (decide (x2<(a1.length:Int))) then (
 AH (
 AH (AN a1 x2) fun (x25:AB)=>
 AH (CN r3 x25.Item) fun (r6:Int)=>
 if ((decide (r6<0)) && (!decide (x25.Parent=(-1)))) then (
 AH (app 8 out2 [x25.Item]) fun (out19:List Int)=>
 some out19
 ) else (
 some out2
 )
 ) fun (out18:List Int)=>
 AH (Ac .i64 (x2+1)) fun (x24:Int)=>
 some (.inl (x24,out18))
 ) else (
 some (.inr out2)
 )
noncomputable def I8 (l1:List AD) (want1:List AD):Option (Int × (List Int)):=
 BU (Cn l1) fun (r1:List AB) (r2:List AB)=>
 BU (Cn want1) fun (r3:List AB) (r4:List AB)=>
 AH (Gx r1) fun (a1:List AB)=>
 AH (Gx r3) fun (b1:List AB)=>
 AH (iter (fun (a:Int × (List Int))=>ED r3 a1 a.1 a.2) (0,[])) fun (out4:List Int)=>
 AH (iter (fun (a:Int × (List Int))=>FB r1 b1 a.1 a.2) (0,out4)) fun (out8:List Int)=>
 A0 (iter (fun (a:Int × (List Int))=>FF r2 r4 a.1 a.2) (0,out8)) fun (u4:Unit)=>
 none
noncomputable def FA (l1:List AD) (x2:Int) (out2:List Int):Option ((Int × (List Int)) ⊕ (List Int)):=
 if (decide (x2<(l1.length:Int))) then (
 AH (
 AH (AN l1 x2) fun (x5:AD)=>
 if (decide (x5.Kind=0)) then (
 AH (app 8 out2 [x5.Item]) fun (out6:List Int)=>
 some out6
 ) else (
 AH (Ac .i64 (-x5.Item)) fun (x6:Int)=>
 AH (app 8 out2 [x6]) fun (out7:List Int)=>
 some out7
 )
 ) fun (out5:List Int)=>
 AH (Ac .i64 (x2+1)) fun (x4:Int)=>
 some (.inl (x4,out5))
 ) else (
 some (.inr out2)
 )
noncomputable def He (l1:List AD):Option ((List Int)):=
 AH (iter (fun (a:Int × (List Int))=>FA l1 a.1 a.2) (0,[])) fun (out4:List Int)=>
 some out4
noncomputable def Fg (now1:List AB) (want1:List AB) (x5:Int):Option (Int ⊕ (Ay Unit Bool)):=
 if (decide (x5<(now1.length:Int))) then (
 AH (AN now1 x5) fun (x7:AB)=>
 AH (CN want1 x7.Item) fun (r1:Int)=>
 if ((decide (r1<0)) && (!decide (x7.Parent=(-1)))) then (
 some (.inr (.ext false))
 ) else (
 AH (Ac .i64 (x5+1)) fun (x8:Int)=>
 some (.inl x8)
 )
 ) else (
 some (.inr (.nrm ()))
 )
noncomputable def Fr (now1:List AB) (want1:List AB) (x2:Int):Option (Int ⊕ (Ay Unit Bool)):=
 if (decide (x2<(want1.length:Int))) then (
 AH (AN want1 x2) fun (x9:AB)=>
 AH (CN now1 x9.Item) fun (k1:Int)=>
 AH (gd ((decide (k1<0)) == false) (AN now1 k1)) fun (x10:AB)=>
 AH (gd ((decide (k1<0)) == false) (Hl x10 x9)) fun (r2:Bool)=>
 if ((decide (k1<0)) || (!r2)) then (
 some (.inr (.ext false))
 ) else (
 AH (Ac .i64 (x2+1)) fun (x11:Int)=>
 some (.inl x11)
 )
 ) else (
 some (.inr (.nrm ()))
 )
noncomputable def GD (now1:List AB) (want1:List AB):Option (Bool):=
 A0 (iter (fun (a:Int)=>Fr now1 want1 a) 0) fun (u2:Unit)=>
 A0 (iter (fun (a:Int)=>Fg now1 want1 a) 0) fun (u4:Unit)=>
 some true
noncomputable def FP (clock1:Int) (site1:Int) (r2:List AD) (x7:Int):Option (Int ⊕ (Ay Unit Bool)):=
 if (decide (x7<(r2.length:Int))) then (
 AH (AN r2 x7) fun (x9:AD)=>
 AH (Ac .i64 (clock1+x7)) fun (x10:Int)=>
 if ((!decide (x9.Clock=x10)) || (!decide (x9.Site=site1))) then (
 some (.inr (.ext false))
 ) else (
 AH (Ac .i64 (x7+1)) fun (x11:Int)=>
 some (.inl x11)
 )
 ) else (
 some (.inr (.nrm ()))
 )
noncomputable def E2 (l1:List AD) (want1:List AD) (clock1:Int) (site1:Int):Option (Bool):=
 AH (Hn) fun (r1:Bool)=>
 if (!r1) then (
 some false
 ) else (
 BU (Fu l1 want1 clock1 site1) fun (r2:List AD) (r3:Int)=>
 AH (GF l1) fun (f1:Int)=>
 AH (
 if (decide (f1=0)) then (
 AH (GF want1) fun (f4:Int)=>
 some f4
 ) else (
 some f1
 )
 ) fun (f2:Int)=>
 AH (gd ((decide (f2=0)) == true) (D4 clock1 1 1073741824)) fun (r4:Bool)=>
 AH (gd (((decide (f2=0)) == true) && ((!r4) == false)) (D4 site1 0 1000)) fun (r5:Bool)=>
 AH (gd ((((decide (f2=0)) == true) && (((!r4) || (!r5)) == false)) && ((decide (0<(l1.length:Int))) == true)) (Ac .i64 ((l1.length:Int)-1))) fun (x1:Int)=>
 AH (gd ((((decide (f2=0)) == true) && (((!r4) || (!r5)) == false)) && ((decide (0<(l1.length:Int))) == true)) (AN l1 x1)) fun (x2:AD)=>
 AH (
 if ((decide (f2=0)) && (((!r4) || (!r5)) || ((decide (0<(l1.length:Int))) && (decide (clock1≤x2.Clock))))) then (
 some 2
 ) else (
 some f2
 )
 ) fun (f3:Int)=>
 if (!decide (f3=0)) then (
 some ((decide (r3=f3)) && (decide ((r2.length:Int)=0)))
 ) else (
 BU (I8 l1 want1) fun (r6:Int) (r7:List Int)=>
 AH (Ac .i64 (1073741824-r6)) fun (x3:Int)=>
 AH (Ac .i64 (x3+1)) fun (x4:Int)=>
 if (decide (x4<clock1)) then (
 some ((decide (r3=18)) && (decide ((r2.length:Int)=0)))
 ) else (
 AH (
 if (((!decide (r3=0)) || (!decide ((r2.length:Int)=r6))) == false) then (
 AH (He r2) fun (r16:List Int)=>
 AH (JG r7 r16) fun (r17:Bool)=>
 some (((!decide (r3=0)) || (!decide ((r2.length:Int)=r6))) || (!r17))
 ) else (
 some (((!decide (r3=0)) || (!decide ((r2.length:Int)=r6))) || false)
 )
 ) fun (x5:Bool)=>
 if x5 then (
 some false
 ) else (
 A0 (iter (fun (a:Int)=>FP clock1 site1 r2 a) 0) fun (u2:Unit)=>
 BU (IY l1 r2) fun (r8:List AD) (r9:Int)=>
 BU (Eg r8) fun (r10:List AB) (r11:Int)=>
 BU (Eg want1) fun (r12:List AB) (r13:Int)=>
 AH (gd ((decide (r9=0)) == true) (GF r8)) fun (r14:Int)=>
 AH (gd (((decide (r9=0)) && (decide (r14=0))) == true) (GD r10 r12)) fun (r15:Bool)=>
 some (((decide (r9=0)) && (decide (r14=0))) && r15)
 )
 )
 )
 )
end Go.Proofs.Ytelkfhdgmbahgaa.Al
