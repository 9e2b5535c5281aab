/- Models, as printed. -/
import Derived.Test.YtelkfhdgmbahgaaAl2
set_option linter.all false
namespace Go.Proofs.Ytelkfhdgmbahgaa.Al
structure G6 where
 Kind:Int
 N:Int
deriving DecidableEq
instance:Inhabited G6:=⟨⟨0,0⟩⟩
structure PQ where
 steps:List G6
 used:Int
deriving DecidableEq
instance:Inhabited PQ:=⟨⟨[],0⟩⟩
structure Nn where
 out:List G6
 add:Int
 cut:Int
deriving DecidableEq
instance:Inhabited Nn:=⟨⟨[],0,0⟩⟩
structure AG where
 Name:List UInt8
 Value:List UInt8
deriving DecidableEq
instance:Inhabited AG:=⟨⟨[],[]⟩⟩
@[reducible] def AG.row (x:AG):List RV:=[.str x.Name,.str x.Value]
structure Jo where
 Char:Int
 Ref:Int
 Attrs:List AG
deriving DecidableEq
instance:Inhabited Jo:=⟨⟨0,0,[]⟩⟩
structure Ju where
 Row:Int
 Col:Int
 Text:List UInt8
 Ref:Int
 Attrs:List AG
deriving DecidableEq
instance:Inhabited Ju:=⟨⟨0,0,[],0,[]⟩⟩
structure JM where
 Row:Int
 Col:Int
 H:Int
 W:Int
deriving DecidableEq
instance:Inhabited JM:=⟨⟨0,0,0,0⟩⟩
structure JD where
 Rows:Int
 Cols:Int
 Cells:List Ju
 Merges:List JM
deriving DecidableEq
instance:Inhabited JD:=⟨⟨0,0,[],[]⟩⟩
structure AP where
 Clock:Int
 Site:Int
 Kind:Int
 Item:Int
 Parent:Int
 Place:List UInt8
 Name:List UInt8
 Value:List UInt8
deriving DecidableEq
instance:Inhabited AP:=⟨⟨0,0,0,0,0,[],[],[]⟩⟩
@[reducible] def AP.row (x:AP):List RV:=[.int .i64 x.Clock,.int .i64 x.Site,.int .i64 x.Kind,.int .i64 x.Item,.int .i64 x.Parent,.str x.Place,.str x.Name,.str x.Value]
structure KO where
 ID:Int
 Kind:Int
 Attrs:List AG
 Flow:List Jo
 Grid:JD
 Draw:List AP
deriving DecidableEq
instance:Inhabited KO:=⟨⟨0,0,[],[],(JD.mk 0 0 [] []),[]⟩⟩
structure GStep where
 Kind:Int
 N:Int
 Attrs:List AG
 Elems:List Jo
deriving DecidableEq
instance:Inhabited GStep:=⟨⟨0,0,[],[]⟩⟩
structure Jx where
 Rows:List G6
 Cols:List G6
 Cells:List Ju
 Split:List JM
 Merge:List JM
deriving DecidableEq
instance:Inhabited Jx:=⟨⟨[],[],[],[],[]⟩⟩
structure M7 where
 Kind:Int
 Node:Int
 New:KO
 Attrs:List AG
 Steps:List GStep
 Grid:Jx
 Draw:List AP
deriving DecidableEq
instance:Inhabited M7:=⟨⟨0,0,(KO.mk 0 0 [] [] (JD.mk 0 0 [] []) []),[],[],(Jx.mk [] [] [] [] []),[]⟩⟩
structure O7 where
 Site:Int
 Number:Int
 Change:List M7
 Undoes:Int
 Refused:Int
deriving DecidableEq
instance:Inhabited O7:=⟨⟨0,0,[],0,0⟩⟩
structure R7 where
 From:Int
 To:Int
deriving DecidableEq
instance:Inhabited R7:=⟨⟨0,0⟩⟩
noncomputable def Eo (x1:Int) (low1:Int) (high1:Int):Option (Bool):=
 some ((decide (low1≤x1)) && (decide (x1≤high1)))
noncomputable def Gh (s1:List UInt8) (x2:Int):Option (Int ⊕ (BN Unit Bool)):=
 if (decide (x2<(s1.length:Int))) then (
 AO (Ak s1 x2) fun (c1:UInt8)=>
 if (((((decide ((c1.toNat:Int)<97)) || (decide (122<(c1.toNat:Int)))) && ((decide ((c1.toNat:Int)<48)) || (decide (57<(c1.toNat:Int))))) && (!decide ((c1.toNat:Int)=46))) && (!decide ((c1.toNat:Int)=45))) then (
 some (.inr (.ext false))
 ) else (
 AO (Aw .i64 (x2+1)) fun (x4:Int)=>
 some (.inl x4)
 )
 ) else (
 some (.inr (.nrm ()))
 )
noncomputable def H4 (s1:List UInt8):Option (Bool):=
 AO (gd (((decide (s1=[])) || (decide (24<(s1.length:Int)))) == false) (Ak s1 0)) fun (ch1:UInt8)=>
 AO (gd ((((decide (s1=[])) || (decide (24<(s1.length:Int)))) || (decide ((ch1.toNat:Int)<97))) == false) (Ak s1 0)) fun (ch2:UInt8)=>
 if ((((decide (s1=[])) || (decide (24<(s1.length:Int)))) || (decide ((ch1.toNat:Int)<97))) || (decide (122<(ch2.toNat:Int)))) then (
 some false
 ) else (
 BS (iter (fun (a:Int)=>Gh s1 a) 0) fun (u2:Unit)=>
 some true
 )
noncomputable def HJ (s1:List UInt8) (x2:Int):Option (Int ⊕ (BN Unit Bool)):=
 if (decide (x2<(s1.length:Int))) then (
 AO (Ak s1 x2) fun (ch1:UInt8)=>
 if ((decide ((ch1.toNat:Int)<32)) || (decide (126<(ch1.toNat:Int)))) then (
 some (.inr (.ext false))
 ) else (
 AO (Aw .i64 (x2+1)) fun (x4:Int)=>
 some (.inl x4)
 )
 ) else (
 some (.inr (.nrm ()))
 )
noncomputable def HC (s1:List UInt8):Option (Bool):=
 if ((decide (s1=[])) || (decide (200<(s1.length:Int)))) then (
 some false
 ) else (
 BS (iter (fun (a:Int)=>HJ s1 a) 0) fun (u2:Unit)=>
 some true
 )
noncomputable def FZ (c1:List AG) (x1:AG) (y1:AG):Option ((List AG)):=
 if (decide (y1.Name=[])) then (
 AO (app 32 c1 [x1]) fun (l1:List AG)=>
 some l1
 ) else (
 if (!decide (y1.Value=[])) then (
 AO (app 32 c1 [y1]) fun (l2:List AG)=>
 some l2
 ) else (
 some c1
 )
 )
noncomputable def Gm (a1:List AG) (b1:List AG) (i4:Int) (j2:Int) (o2:List AG):Option ((Int × Int × (List AG)) ⊕ (BN Unit (List AG))):=
 if ((decide (i4<(a1.length:Int))) || (decide (j2<(b1.length:Int)))) then (
 AO (gd (((decide (j2=(b1.length:Int))) == false) && ((decide (i4<(a1.length:Int))) == true)) (Ak a1 i4)) fun (x1:AG)=>
 AO (gd (((decide (j2=(b1.length:Int))) == false) && ((decide (i4<(a1.length:Int))) == true)) (Ak b1 j2)) fun (x2:AG)=>
 if ((decide (j2=(b1.length:Int))) || ((decide (i4<(a1.length:Int))) && (An x1.Name x2.Name))) then (
 AO (Ak a1 i4) fun (x3:AG)=>
 AO (FZ o2 x3 (AG.mk [] [])) fun (w1:List AG)=>
 AO (Aw .i64 (i4+1)) fun (i9:Int)=>
 some (.inl (i9,j2,w1))
 ) else (
 AO (gd ((decide (i4=(a1.length:Int))) == false) (Ak b1 j2)) fun (x4:AG)=>
 AO (gd ((decide (i4=(a1.length:Int))) == false) (Ak a1 i4)) fun (x5:AG)=>
 if ((decide (i4=(a1.length:Int))) || (An x4.Name x5.Name)) then (
 AO (Ak b1 j2) fun (x6:AG)=>
 AO (FZ o2 (AG.mk [] []) x6) fun (w2:List AG)=>
 AO (Aw .i64 (j2+1)) fun (j4:Int)=>
 some (.inl (i4,j4,w2))
 ) else (
 AO (Ak a1 i4) fun (x7:AG)=>
 AO (Ak b1 j2) fun (x8:AG)=>
 AO (FZ o2 x7 x8) fun (w3:List AG)=>
 AO (Aw .i64 (i4+1)) fun (i12:Int)=>
 AO (Aw .i64 (j2+1)) fun (j5:Int)=>
 some (.inl (i12,j5,w3))
 )
 )
 ) else (
 some (.inr (.ext o2))
 )
noncomputable def H7 (c1:List AG) (a1:List AG) (b1:List AG):Option ((List AG)):=
 BS (iter (fun (a:Int × Int × (List AG))=>Gm a1 b1 a.1 a.2.1 a.2.2) (0,0,c1)) fun (u2:Unit)=>
 none
noncomputable def GC (l1:List AG) (change1:List AG):Option ((List AG)):=
 AO (H7 [] l1 change1) fun (w1:List AG)=>
 some w1
noncomputable def Ha (a1:List AG) (b1:List AG) (x2:Int):Option (Int ⊕ (BN Unit Bool)):=
 if (decide (x2<(a1.length:Int))) then (
 AO (Ak a1 x2) fun (x4:AG)=>
 AO (Ak b1 x2) fun (x5:AG)=>
 if (!(decide (x4.Name=x5.Name) && (decide (x4.Value=x5.Value) && true))) then (
 some (.inr (.ext false))
 ) else (
 AO (Aw .i64 (x2+1)) fun (x6:Int)=>
 some (.inl x6)
 )
 ) else (
 some (.inr (.nrm ()))
 )
noncomputable def He (a1:List AG) (b1:List AG):Option (Bool):=
 if (!decide ((a1.length:Int)=(b1.length:Int))) then (
 some false
 ) else (
 BS (iter (fun (a:Int)=>Ha a1 b1 a) 0) fun (u2:Unit)=>
 some true
 )
noncomputable def GP (s1:List UInt8) (x2:Int):Option (Int ⊕ (BN Unit Bool)):=
 if (decide (x2<(s1.length:Int))) then (
 AO (Ak s1 x2) fun (ch1:UInt8)=>
 if ((!((decide (97≤(ch1.toNat:Int))) && (decide ((ch1.toNat:Int)≤122)))) && ((decide (x2=0)) || (((!decide ((ch1.toNat:Int)=46)) && (!decide ((ch1.toNat:Int)=45))) && ((decide ((ch1.toNat:Int)<48)) || (decide (57<(ch1.toNat:Int))))))) then (
 some (.inr (.ext false))
 ) else (
 AO (Aw .i64 (x2+1)) fun (x4:Int)=>
 some (.inl x4)
 )
 ) else (
 some (.inr (.nrm ()))
 )
noncomputable def Hl (s1:List UInt8):Option (Bool):=
 BS (iter (fun (a:Int)=>GP s1 a) 0) fun (u2:Unit)=>
 some ((decide (1≤(s1.length:Int))) && (decide ((s1.length:Int)≤24)))
noncomputable def HW (s1:List UInt8) (x2:Int):Option (Int ⊕ (BN Unit Bool)):=
 if (decide (x2<(s1.length:Int))) then (
 AO (Ak s1 x2) fun (ch1:UInt8)=>
 if ((decide ((ch1.toNat:Int)<32)) || (decide (126<(ch1.toNat:Int)))) then (
 some (.inr (.ext false))
 ) else (
 AO (Aw .i64 (x2+1)) fun (x4:Int)=>
 some (.inl x4)
 )
 ) else (
 some (.inr (.nrm ()))
 )
noncomputable def Hd (s1:List UInt8):Option (Bool):=
 BS (iter (fun (a:Int)=>HW s1 a) 0) fun (u2:Unit)=>
 some ((decide (1≤(s1.length:Int))) && (decide ((s1.length:Int)≤200)))
noncomputable def HB (l1:List AG) (a1:AG) (done2:Bool) (x2:Int) (out2:List AG):Option ((Bool × Int × (List AG)) ⊕ (Bool × (List AG))):=
 if (decide (x2<(l1.length:Int))) then (
 CN (
 AO (gd ((!done2) == true) (Ak l1 x2)) fun (x5:AG)=>
 CN (
 if ((!done2) && (!An x5.Name a1.Name)) then (
 AO (app 32 out2 [a1]) fun (out10:List AG)=>
 some (true,out10)
 ) else (
 some (done2,out2)
 )
 ) fun (done6:Bool) (out8:List AG)=>
 AO (Ak l1 x2) fun (x6:AG)=>
 if (!decide (x6.Name=a1.Name)) then (
 AO (app 32 out8 [x6]) fun (out9:List AG)=>
 some (done6,out9)
 ) else (
 some (done6,out8)
 )
 ) fun (done5:Bool) (out7:List AG)=>
 AO (Aw .i64 (x2+1)) fun (x4:Int)=>
 some (.inl (done5,x4,out7))
 ) else (
 some (.inr (done2,out2))
 )
noncomputable def FI (l1:List AG) (a1:AG):Option ((List AG)):=
 CN (iter (fun (a:Bool × Int × (List AG))=>HB l1 a1 a.1 a.2.1 a.2.2) (false,0,[])) fun (done4:Bool) (out4:List AG)=>
 AO (
 if (!done4) then (
 AO (app 32 out4 [a1]) fun (out6:List AG)=>
 some out6
 ) else (
 some out4
 )
 ) fun (out5:List AG)=>
 some out5
noncomputable def G4 (out8:List AG) (x8:Int) (rest2:List AG):Option ((Int × (List AG)) ⊕ (List AG)):=
 if (decide (x8<(out8.length:Int))) then (
 AO (
 AO (Ak out8 x8) fun (x11:AG)=>
 if (!decide (x11.Value=[])) then (
 AO (app 32 rest2 [x11]) fun (rest6:List AG)=>
 some rest6
 ) else (
 some rest2
 )
 ) fun (rest5:List AG)=>
 AO (Aw .i64 (x8+1)) fun (x10:Int)=>
 some (.inl (x10,rest5))
 ) else (
 some (.inr rest2)
 )
noncomputable def Hn (change1:List AG) (out6:List AG) (x5:Int):Option (((List AG) × Int) ⊕ (List AG)):=
 if (decide (x5<(change1.length:Int))) then (
 AO (Ak change1 x5) fun (x12:AG)=>
 AO (FI out6 x12) fun (out9:List AG)=>
 AO (Aw .i64 (x5+1)) fun (x13:Int)=>
 some (.inl (out9,x13))
 ) else (
 some (.inr out6)
 )
noncomputable def G7 (l1:List AG) (out2:List AG) (x2:Int):Option (((List AG) × Int) ⊕ (List AG)):=
 if (decide (x2<(l1.length:Int))) then (
 AO (Ak l1 x2) fun (x14:AG)=>
 AO (FI out2 x14) fun (out10:List AG)=>
 AO (Aw .i64 (x2+1)) fun (x15:Int)=>
 some (.inl (out10,x15))
 ) else (
 some (.inr out2)
 )
noncomputable def GD (l1:List AG) (change1:List AG):Option ((List AG)):=
 AO (iter (fun (a:(List AG) × Int)=>G7 l1 a.1 a.2) ([],0)) fun (out4:List AG)=>
 AO (iter (fun (a:(List AG) × Int)=>Hn change1 a.1 a.2) (out4,0)) fun (out8:List AG)=>
 AO (iter (fun (a:Int × (List AG))=>G4 out8 a.1 a.2) (0,[])) fun (rest4:List AG)=>
 some rest4
noncomputable def KY (a1:List AG) (b1:List AG) (x2:Int):Option (Int ⊕ (BN Unit Bool)):=
 if (decide (x2<(a1.length:Int))) then (
 AO (Ak a1 x2) fun (x4:AG)=>
 AO (Ak b1 x2) fun (x5:AG)=>
 if (!(decide (x4.Name=x5.Name) && (decide (x4.Value=x5.Value) && true))) then (
 some (.inr (.ext false))
 ) else (
 AO (Aw .i64 (x2+1)) fun (x6:Int)=>
 some (.inl x6)
 )
 ) else (
 some (.inr (.nrm ()))
 )
noncomputable def Ll (a1:List AG) (b1:List AG):Option (Bool):=
 if (!decide ((a1.length:Int)=(b1.length:Int))) then (
 some false
 ) else (
 BS (iter (fun (a:Int)=>KY a1 b1 a) 0) fun (u2:Unit)=>
 some true
 )
structure AE where
 Item:Int
 Parent:Int
 Place:List UInt8
 Attrs:List AG
deriving DecidableEq
instance:Inhabited AE:=⟨⟨0,0,[],[]⟩⟩
@[reducible] def AE.row (x:AE):List RV:=[.int .i64 x.Item,.int .i64 x.Parent,.str x.Place,.sl (x.Attrs.map AG.row)]
noncomputable def Iz:Option (Bool):=
 some true
noncomputable def GM (s1:List UInt8) (x3:Int):Option (Int ⊕ (BN Unit Bool)):=
 if (decide (x3<(s1.length:Int))) then (
 AO (Ak s1 x3) fun (ch2:UInt8)=>
 if ((decide ((ch2.toNat:Int)<97)) || (decide (122<(ch2.toNat:Int)))) then (
 some (.inr (.ext false))
 ) else (
 AO (Aw .i64 (x3+1)) fun (x5:Int)=>
 some (.inl x5)
 )
 ) else (
 some (.inr (.nrm ()))
 )
noncomputable def G9 (s1:List UInt8):Option (Bool):=
 AO (gd (((decide (s1=[])) || (decide (200<(s1.length:Int)))) == false) (Aw .i64 ((s1.length:Int)-1))) fun (x1:Int)=>
 AO (gd (((decide (s1=[])) || (decide (200<(s1.length:Int)))) == false) (Ak s1 x1)) fun (ch1:UInt8)=>
 if (((decide (s1=[])) || (decide (200<(s1.length:Int)))) || (decide ((ch1.toNat:Int)=97))) then (
 some false
 ) else (
 BS (iter (fun (a:Int)=>GM s1 a) 0) fun (u2:Unit)=>
 some true
 )
noncomputable def Ic (s1:List UInt8) (x2:Int):Option (Int ⊕ (BN Unit Bool)):=
 if (decide (x2<(s1.length:Int))) then (
 AO (Ak s1 x2) fun (ch2:UInt8)=>
 if ((decide ((ch2.toNat:Int)<97)) || (decide (122<(ch2.toNat:Int)))) then (
 some (.inr (.ext false))
 ) else (
 AO (Aw .i64 (x2+1)) fun (x5:Int)=>
 some (.inl x5)
 )
 ) else (
 some (.inr (.nrm ()))
 )
noncomputable def Hg (s1:List UInt8):Option (Bool):=
 BS (iter (fun (a:Int)=>Ic s1 a) 0) fun (u2:Unit)=>
 AO (gd (((decide (1≤(s1.length:Int))) && (decide ((s1.length:Int)≤200))) == true) (Aw .i64 ((s1.length:Int)-1))) fun (x4:Int)=>
 AO (gd (((decide (1≤(s1.length:Int))) && (decide ((s1.length:Int)≤200))) == true) (Ak s1 x4)) fun (ch1:UInt8)=>
 some (((decide (1≤(s1.length:Int))) && (decide ((s1.length:Int)≤200))) && (!decide ((ch1.toNat:Int)=97)))
noncomputable def HM (o1:AP):Option (Int):=
 if ((!decide (o1.Kind=0)) && (!decide (o1.Kind=1))) then (
 some 8
 ) else (
 if ((((((decide (o1.Clock<1)) || (decide (1073741824<o1.Clock))) || (decide (o1.Site<0))) || (decide (1000<o1.Site))) || (decide (o1.Item<1))) || (decide (1073741824<o1.Item))) then (
 some 2
 ) else (
 AO (
 if ((decide (o1.Kind=0)) && ((!decide (o1.Name=[])) || (!decide (o1.Value=[])))) then (
 some ((decide (o1.Kind=0)) && ((!decide (o1.Name=[])) || (!decide (o1.Value=[]))))
 ) else (
 some ((decide (o1.Kind=1)) && ((!decide (o1.Parent=0)) || (!decide (o1.Place=[]))))
 )
 ) fun (x1:Bool)=>
 if x1 then (
 some 4
 ) else (
 if ((decide (o1.Kind=0)) && ((decide (o1.Parent<(-1))) || (decide (1073741824<o1.Parent)))) then (
 some 2
 ) else (
 AO (gd ((decide (o1.Kind=0)) == true) (G9 o1.Place)) fun (r1:Bool)=>
 AO (
 if ((decide (o1.Kind=0)) && (!r1)) then (
 some ((decide (o1.Kind=0)) && (!r1))
 ) else (
 AO (gd ((decide (o1.Kind=1)) == true) (H4 o1.Name)) fun (r3:Bool)=>
 some ((decide (o1.Kind=1)) && (!r3))
 )
 ) fun (x2:Bool)=>
 if x2 then (
 some 9
 ) else (
 AO (gd (((decide (o1.Kind=1)) && (!decide (o1.Value=[]))) == true) (HC o1.Value)) fun (r2:Bool)=>
 if (((decide (o1.Kind=1)) && (!decide (o1.Value=[]))) && (!r2)) then (
 some 23
 ) else (
 some 0
 )
 )
 )
 )
 )
 )
noncomputable def Hz (x1:Int):Option (Bool):=
 some (!decide (x1=x1))
noncomputable def Ei (x1:Int) (y1:Int):Option (Int):=
 AO (Hz x1) fun (xNaN1:Bool)=>
 AO (Hz y1) fun (yNaN1:Bool)=>
 if xNaN1 then (
 if yNaN1 then (
 some 0
 ) else (
 some (-1)
 )
 ) else (
 if yNaN1 then (
 some 1
 ) else (
 if (decide (x1<y1)) then (
 some (-1)
 ) else (
 if (decide (y1<x1)) then (
 some 1
 ) else (
 some 0
 )
 )
 )
 )
noncomputable def HG (vals1:List Int) (x2:Int):Option (Int ⊕ (BN Unit Int)):=
 if (decide (x2<(vals1.length:Int))) then (
 AO (Ak vals1 x2) fun (x4:Int)=>
 if (!decide (x4=0)) then (
 some (.inr (.ext x4))
 ) else (
 AO (Aw .i64 (x2+1)) fun (x5:Int)=>
 some (.inl x5)
 )
 ) else (
 some (.inr (.nrm ()))
 )
noncomputable def Gf (vals1:List Int):Option (Int):=
 BS (iter (fun (a:Int)=>HG vals1 a) 0) fun (u2:Unit)=>
 some 0
noncomputable def Hk (a1:AP) (b1:AP):Option (Int):=
 AO (Ei a1.Clock b1.Clock) fun (r1:Int)=>
 AO (Ei a1.Site b1.Site) fun (r2:Int)=>
 AO (Gf [r1,r2]) fun (r3:Int)=>
 some r3
noncomputable def G5 (l1:List AP) (x2:Int):Option (Int ⊕ (BN Unit Int)):=
 if (decide (x2<(l1.length:Int))) then (
 AO (Ak l1 x2) fun (x4:AP)=>
 AO (HM x4) fun (e1:Int)=>
 if (!decide (e1=0)) then (
 some (.inr (.ext e1))
 ) else (
 AO (gd ((decide (0<x2)) == true) (Aw .i64 (x2-1))) fun (x5:Int)=>
 AO (gd ((decide (0<x2)) == true) (Ak l1 x5)) fun (x6:AP)=>
 AO (gd ((decide (0<x2)) == true) (Hk x6 x4)) fun (r1:Int)=>
 if ((decide (0<x2)) && (decide (0≤r1))) then (
 some (.inr (.ext 5))
 ) else (
 AO (Aw .i64 (x2+1)) fun (x7:Int)=>
 some (.inl x7)
 )
 )
 ) else (
 some (.inr (.nrm ()))
 )
noncomputable def H0 (l1:List AP):Option (Int):=
 BS (iter (fun (a:Int)=>G5 l1 a) 0) fun (u2:Unit)=>
 some 0
noncomputable def IA (a1:AP) (b1:AP):Option (Bool):=
 some ((decide (a1.Clock<b1.Clock)) || ((decide (a1.Clock=b1.Clock)) && (decide (a1.Site<b1.Site))))
noncomputable def HR (l1:List AP) (x2:Int):Option (Int ⊕ (BN Unit Int)):=
 if (decide (x2<(l1.length:Int))) then (
 AO (Ak l1 x2) fun (x4:AP)=>
 if ((!decide (x4.Kind=0)) && (!decide (x4.Kind=1))) then (
 some (.inr (.ext 8))
 ) else (
 AO (Eo x4.Clock 1 1073741824) fun (r1:Bool)=>
 AO (gd ((!r1) == false) (Eo x4.Site 0 1000)) fun (r2:Bool)=>
 AO (gd (((!r1) || (!r2)) == false) (Eo x4.Item 1 1073741824)) fun (r3:Bool)=>
 if (((!r1) || (!r2)) || (!r3)) then (
 some (.inr (.ext 2))
 ) else (
 BS (
 if (decide (x4.Kind=0)) then (
 if ((!decide (x4.Name=[])) || (!decide (x4.Value=[]))) then (
 some (.ext (.inr (.ext 4)))
 ) else (
 AO (Eo x4.Parent (-1) 1073741824) fun (r5:Bool)=>
 if (!r5) then (
 some (.ext (.inr (.ext 2)))
 ) else (
 AO (Hg x4.Place) fun (r6:Bool)=>
 if (!r6) then (
 some (.ext (.inr (.ext 9)))
 ) else (
 some (.nrm ())
 )
 )
 )
 ) else (
 if ((!decide (x4.Parent=0)) || (!decide (x4.Place=[]))) then (
 some (.ext (.inr (.ext 4)))
 ) else (
 AO (Hl x4.Name) fun (r7:Bool)=>
 if (!r7) then (
 some (.ext (.inr (.ext 9)))
 ) else (
 AO (gd ((!decide (x4.Value=[])) == true) (Hd x4.Value)) fun (r8:Bool)=>
 if ((!decide (x4.Value=[])) && (!r8)) then (
 some (.ext (.inr (.ext 23)))
 ) else (
 some (.nrm ())
 )
 )
 )
 )
 ) fun (u3:Unit)=>
 AO (gd ((decide (0<x2)) == true) (Aw .i64 (x2-1))) fun (x5:Int)=>
 AO (gd ((decide (0<x2)) == true) (Ak l1 x5)) fun (x6:AP)=>
 AO (gd ((decide (0<x2)) == true) (IA x6 x4)) fun (r4:Bool)=>
 if ((decide (0<x2)) && (!r4)) then (
 some (.inr (.ext 5))
 ) else (
 AO (Aw .i64 (x2+1)) fun (x7:Int)=>
 some (.inl x7)
 )
 )
 )
 ) else (
 some (.inr (.nrm ()))
 )
noncomputable def Hi (l1:List AP):Option (Int):=
 BS (iter (fun (a:Int)=>HR l1 a) 0) fun (u2:Unit)=>
 some 0
noncomputable def Di (m1:List (Int × AE)) (top1:Int) (item3:Int):Option (Int ⊕ (BN Unit Bool)):=
 if (decide (0<item3)) then (
 if (decide (item3=top1)) then (
 some (.inr (.ext true))
 ) else (
 if (!((AN m1 item3).isSome)) then (
 some (.inr (.ext false))
 ) else (
 AO (AN m1 item3) fun (x1:AE)=>
 some (.inl x1.Parent)
 )
 )
 ) else (
 some (.inr (.nrm ()))
 )
noncomputable def Hh (m1:List (Int × AE)) (m2:List (Int × (List AG))) (item1:Int) (top1:Int):Option (Bool):=
 BS (iter (fun (a:Int)=>Di m1 top1 a) item1) fun (u2:Unit)=>
 some false
noncomputable def EM (l1:List AP) (x2:Int) (m3:List (Int × AE)) (m4:List (Int × (List AG))):Option ((Int × (List (Int × AE)) × (List (Int × (List AG)))) ⊕ ((List (Int × AE)) × (List (Int × (List AG))))):=
 if (decide (x2<(l1.length:Int))) then (
 CN (
 AO (Ak l1 x2) fun (x5:AP)=>
 if (decide (x5.Kind=1)) then (
 AO (GC ((AN m4 x5.Item).getD []) [(AG.mk x5.Name x5.Value)]) fun (r1:List AG)=>
 some (m3,(Ai m4 x5.Item r1))
 ) else (
 AO (Hh m3 m4 x5.Parent x5.Item) fun (r2:Bool)=>
 if (!r2) then (
 some ((Ai m3 x5.Item (AE.mk x5.Item x5.Parent x5.Place [])),m4)
 ) else (
 some (m3,m4)
 )
 )
 ) fun (m9:List (Int × AE)) (m10:List (Int × (List AG)))=>
 AO (Aw .i64 (x2+1)) fun (x4:Int)=>
 some (.inl (x4,m9,m10))
 ) else (
 some (.inr (m3,m4))
 )
noncomputable def F6 (l1:List AP):Option ((List (Int × AE)) × (List (Int × (List AG)))):=
 CN (iter (fun (a:Int × (List (Int × AE)) × (List (Int × (List AG))))=>EM l1 a.1 a.2.1 a.2.2) (0,[],[])) fun (m7:List (Int × AE)) (m8:List (Int × (List AG)))=>
 some (m7,m8)
noncomputable def H9 (x1:List UInt8):Option (Bool):=
 some (!decide (x1=x1))
noncomputable def IE (x1:List UInt8) (y1:List UInt8):Option (Int):=
 AO (H9 x1) fun (xNaN1:Bool)=>
 AO (H9 y1) fun (yNaN1:Bool)=>
 if xNaN1 then (
 if yNaN1 then (
 some 0
 ) else (
 some (-1)
 )
 ) else (
 if yNaN1 then (
 some 1
 ) else (
 if (An x1 y1) then (
 some (-1)
 ) else (
 if (!(An x1 y1 || decide (x1=y1))) then (
 some 1
 ) else (
 some 0
 )
 )
 )
 )
noncomputable def Fp (a1:AE) (b1:AE):Option (Int):=
 AO (IE a1.Place b1.Place) fun (r1:Int)=>
 AO (Ei a1.Item b1.Item) fun (r2:Int)=>
 AO (Gf [r1,r2]) fun (r3:Int)=>
 some r3
noncomputable def DP (parent1:Int) (self:(List (Int × (List AE)))→(List AE)→(List (Int × Bool))→Int→Option ((List (Int × (List AE))) × (List AE) × (List (Int × Bool)))) (w1:List (Int × List AE)) (x2:Int) (o2:List AE) (m5:List (Int × (List AE))) (m6:List (Int × Bool)):Option ((Int × (List AE) × (List (Int × (List AE))) × (List (Int × Bool))) ⊕ (BN Unit ((List (Int × (List AE))) × (List AE) × (List (Int × Bool))))):=
 if (decide (x2<(((AN w1 parent1).getD []).length:Int))) then (
 AO (Ak ((AN m5 parent1).getD []) x2) fun (x4:AE)=>
 AO (app 56 o2 [x4]) fun (l1:List AE)=>
 EW (self m5 l1 (Ai m6 x4.Item true) x4.Item) fun (w2:List (Int × (List AE))) (w3:List AE) (w4:List (Int × Bool))=>
 AO (Aw .i64 (x2+1)) fun (x5:Int)=>
 some (.inl (x5,w3,w2,w4))
 ) else (
 some (.inr (.ext (m5,o2,m6)))
 )
noncomputable def Ew (self:(List (Int × (List AE)))→(List AE)→(List (Int × Bool))→Int→Option ((List (Int × (List AE))) × (List AE) × (List (Int × Bool)))) (m1:List (Int × (List AE))) (c1:List AE) (m2:List (Int × Bool)) (parent1:Int):Option ((List (Int × (List AE))) × (List AE) × (List (Int × Bool))):=
 AO (FJ Fp m1 parent1) fun (w1:List (Int × List AE))=>
 BS (iter (fun (a:Int × (List AE) × (List (Int × (List AE))) × (List (Int × Bool)))=>DP parent1 self w1 a.1 a.2.1 a.2.2.1 a.2.2.2) (0,c1,w1,m2)) fun (u2:Unit)=>
 none
noncomputable def B1:Nat→(List (Int × (List AE)))→(List AE)→(List (Int × Bool))→Int→Option ((List (Int × (List AE))) × (List AE) × (List (Int × Bool)))
 | 0,_,_,_,_=>none
 | n+1,m1,c1,m2,parent1=>Ew (fun m1 c1 m2 parent1=>B1 n m1 c1 m2 parent1) m1 c1 m2 parent1
noncomputable def HH (m1:List (Int × (List AE))) (c1:List AE) (m2:List (Int × Bool)) (parent1:Int):Option ((List (Int × (List AE))) × (List AE) × (List (Int × Bool))):=
 @dite _ (∃ n r,B1 n m1 c1 m2 parent1=some r) (Classical.propDecidable _) (fun h=>B1 h.choose m1 c1 m2 parent1) (fun _=>none)
noncomputable def Hs (a1:AE) (b1:AE):Option (Int):=
 AO (Ei a1.Item b1.Item) fun (r1:Int)=>
 some r1
noncomputable def Dx (w2:List (Int × (List AG))) (all2:List AE) (m3:List (Int × AE)) (m4:List (Int × (List AE))) (k1:Int):Option ((List AE) × (List (Int × AE)) × (List (Int × (List AE)))):=
 AO (AN m3 k1) fun (x1:AE)=>
 AO (app 56 ((AN m4 ((AE.mk x1.Item x1.Parent x1.Place ((AN w2 k1).getD [])).Parent)).getD []) [(AE.mk x1.Item x1.Parent x1.Place ((AN w2 k1).getD []))]) fun (l2:List AE)=>
 AO (app 56 all2 [(AE.mk x1.Item x1.Parent x1.Place ((AN w2 k1).getD []))]) fun (all4:List AE)=>
 some (all4,(Ai m3 k1 (AE.mk x1.Item x1.Parent x1.Place ((AN w2 k1).getD []))),(Ai m4 ((AE.mk x1.Item x1.Parent x1.Place ((AN w2 k1).getD [])).Parent) l2))
noncomputable def EE (w5:List (Int × Bool)) (w6:List AE) (x3:Int) (out2:List AE):Option ((Int × (List AE)) ⊕ (List AE)):=
 if (decide (x3<(w6.length:Int))) then (
 AO (
 AO (Ak w6 x3) fun (x6:AE)=>
 if (!((AN w5 x6.Item).getD false)) then (
 AO (app 56 out2 [x6]) fun (l3:List AE)=>
 some l3
 ) else (
 some out2
 )
 ) fun (out5:List AE)=>
 AO (Aw .i64 (x3+1)) fun (x5:Int)=>
 some (.inl (x5,out5))
 ) else (
 some (.inr out2)
 )
noncomputable def HZ (l1:List AP):Option ((List AE)):=
 CN (F6 l1) fun (w1:List (Int × AE)) (w2:List (Int × (List AG)))=>
 Gj (fun (a:(List AE) × (List (Int × AE)) × (List (Int × (List AE))))=>a.2.1.map (·.1)) (fun (a:(List AE) × (List (Int × AE)) × (List (Int × (List AE)))) (k1:Int)=>Dx w2 a.1 a.2.1 a.2.2 k1) ([],w1,[]) fun (a:(List AE) × (List (Int × AE)) × (List (Int × (List AE))))=>
 EW (some a) fun (all2:List AE) (m3:List (Int × AE)) (m4:List (Int × (List AE)))=>
 EW (HH m4 [] ([]:List (Int × Bool)) 0) fun (w3:List (Int × (List AE))) (w4:List AE) (w5:List (Int × Bool))=>
 AO (D6 Hs all2) fun (w6:List AE)=>
 AO (iter (fun (a:Int × (List AE))=>EE w5 w6 a.1 a.2) (0,w4)) fun (out4:List AE)=>
 some out4
noncomputable def IK (l1:List AP):Option ((List AE) × Int):=
 AO (H0 l1) fun (e1:Int)=>
 if (!decide (e1=0)) then (
 some ([],e1)
 ) else (
 AO (HZ l1) fun (r1:List AE)=>
 some (r1,0)
 )
noncomputable def Ed (l1:List AE) (item1:Int) (x2:Int):Option (Int ⊕ (BN Unit Int)):=
 if (decide (x2<(l1.length:Int))) then (
 AO (Ak l1 x2) fun (x4:AE)=>
 if (decide (x4.Item=item1)) then (
 some (.inr (.ext x2))
 ) else (
 AO (Aw .i64 (x2+1)) fun (x5:Int)=>
 some (.inl x5)
 )
 ) else (
 some (.inr (.nrm ()))
 )
noncomputable def EL (l1:List AE) (item1:Int):Option (Int):=
 BS (iter (fun (a:Int)=>Ed l1 item1 a) 0) fun (u2:Unit)=>
 some (-1)
noncomputable def De (l1:List AE) (top1:Int) (x1:Int) (item3:Int) (x3:Int):Option ((Int × Int) ⊕ (BN Unit Bool)):=
 if (decide (x3<x1)) then (
 if (decide (item3=top1)) then (
 some (.inr (.ext true))
 ) else (
 AO (EL l1 item3) fun (i6:Int)=>
 if (decide (i6<0)) then (
 some (.inr (.ext false))
 ) else (
 AO (Ak l1 i6) fun (x5:AE)=>
 AO (Aw .i64 (x3+1)) fun (x6:Int)=>
 some (.inl (x5.Parent,x6))
 )
 )
 ) else (
 some (.inr (.nrm ()))
 )
noncomputable def Gc (l1:List AE) (item1:Int) (top1:Int):Option (Bool):=
 AO (Aw .i64 ((l1.length:Int)+1)) fun (x1:Int)=>
 BS (iter (fun (a:Int × Int)=>De l1 top1 x1 a.1 a.2) (item1,0)) fun (u2:Unit)=>
 some false
noncomputable def EY (items4:List AE) (attrs4:List AE) (x5:Int) (items6:List AE):Option ((Int × (List AE)) ⊕ (List AE)):=
 if (decide (x5<(items4.length:Int))) then (
 AO (
 AO (Ak items6 x5) fun (x8:AE)=>
 AO (EL attrs4 x8.Item) fun (k1:Int)=>
 if (decide (0≤k1)) then (
 AO (Ak attrs4 k1) fun (x9:AE)=>
 some (items6.set x5.toNat (AE.mk x8.Item x8.Parent x8.Place x9.Attrs))
 ) else (
 some items6
 )
 ) fun (items9:List AE)=>
 AO (Aw .i64 (x5+1)) fun (x7:Int)=>
 some (.inl (x7,items9))
 ) else (
 some (.inr items6)
 )
noncomputable def EI (l1:List AP) (x2:Int) (items2:List AE) (attrs2:List AE):Option ((Int × (List AE) × (List AE)) ⊕ ((List AE) × (List AE))):=
 if (decide (x2<(l1.length:Int))) then (
 CN (
 AO (Ak l1 x2) fun (x11:AP)=>
 if (decide (x11.Kind=1)) then (
 AO (EL attrs2 x11.Item) fun (k2:Int)=>
 CN (
 if (decide (k2<0)) then (
 AO (app 56 attrs2 [(AE.mk x11.Item 0 [] [])]) fun (attrs7:List AE)=>
 some ((attrs2.length:Int),attrs7)
 ) else (
 some (k2,attrs2)
 )
 ) fun (k3:Int) (attrs6:List AE)=>
 AO (Ak attrs6 k3) fun (x12:AE)=>
 AO (GD x12.Attrs [(AG.mk x11.Name x11.Value)]) fun (r1:List AG)=>
 some (items2,(attrs6.set k3.toNat (AE.mk x12.Item x12.Parent x12.Place r1)))
 ) else (
 AO (gd (((decide (x11.Parent=x11.Item)) == false) && ((decide (0<x11.Parent)) == true)) (Gc items2 x11.Parent x11.Item)) fun (r2:Bool)=>
 if ((decide (x11.Parent=x11.Item)) || ((decide (0<x11.Parent)) && r2)) then (
 some (items2,attrs2)
 ) else (
 AO (EL items2 x11.Item) fun (k4:Int)=>
 CN (
 if (decide (k4<0)) then (
 AO (app 56 items2 [(AE.mk 0 0 [] [])]) fun (items12:List AE)=>
 some ((items2.length:Int),items12)
 ) else (
 some (k4,items2)
 )
 ) fun (k5:Int) (items11:List AE)=>
 AO (Ak items11 k5) fun (x13:AE)=>
 some ((items11.set k5.toNat (AE.mk x11.Item x11.Parent x11.Place [])),attrs2)
 )
 )
 ) fun (items10:List AE) (attrs5:List AE)=>
 AO (Aw .i64 (x2+1)) fun (x10:Int)=>
 some (.inl (x10,items10,attrs5))
 ) else (
 some (.inr (items2,attrs2))
 )
noncomputable def GX (l1:List AP):Option ((List AE) × (List AE)):=
 CN (iter (fun (a:Int × (List AE) × (List AE))=>EI l1 a.1 a.2.1 a.2.2) (0,[],[])) fun (items4:List AE) (attrs4:List AE)=>
 AO (iter (fun (a:Int × (List AE))=>EY items4 attrs4 a.1 a.2) (0,items4)) fun (items8:List AE)=>
 some (items8,attrs4)
noncomputable def Ec (l1:List AE) (parent1:Int) (place2:List UInt8) (item2:Int) (next2:Int) (x2:Int):Option ((Int × Int) ⊕ Int):=
 if (decide (x2<(l1.length:Int))) then (
 AO (
 AO (Ak l1 x2) fun (x6:AE)=>
 if (((!decide (x6.Parent=parent1)) || (An x6.Place place2)) || ((decide (x6.Place=place2)) && (decide (x6.Item≤item2)))) then (
 some next2
 ) else (
 AO (gd ((decide (next2<0)) == false) (Ak l1 next2)) fun (x7:AE)=>
 AO (gd (((decide (next2<0)) || (An x6.Place x7.Place)) == false) (Ak l1 next2)) fun (x8:AE)=>
 if (((decide (next2<0)) || (An x6.Place x7.Place)) || ((decide (x6.Place=x8.Place)) && (decide (x6.Item<x8.Item)))) then (
 some x2
 ) else (
 some next2
 )
 )
 ) fun (next5:Int)=>
 AO (Aw .i64 (x2+1)) fun (x5:Int)=>
 some (.inl (next5,x5))
 ) else (
 some (.inr next2)
 )
noncomputable def DM (l1:List AE) (parent1:Int) (self:(List AE)→(List AE)→Int→Option (List AE)) (place2:List UInt8) (item2:Int) (out3:List AE):Option (((List UInt8) × Int × (List AE)) ⊕ (BN Unit (List AE))):=
 AO (iter (fun (a:Int × Int)=>Ec l1 parent1 place2 item2 a.1 a.2) ((-1),0)) fun (next4:Int)=>
 if (decide (next4<0)) then (
 some (.inr (.ext out3))
 ) else (
 AO (Ak l1 next4) fun (x4:AE)=>
 AO (app 56 out3 [x4]) fun (l2:List AE)=>
 AO (self l2 l1 x4.Item) fun (w1:List AE)=>
 some (.inl (x4.Place,x4.Item,w1))
 )
noncomputable def Ey (self:(List AE)→(List AE)→Int→Option (List AE)) (out1:List AE) (l1:List AE) (parent1:Int):Option ((List AE)):=
 BS (iter (fun (a:(List UInt8) × Int × (List AE))=>DM l1 parent1 self a.1 a.2.1 a.2.2) ([],0,out1)) fun (u2:Unit)=>
 none
noncomputable def B4:Nat→(List AE)→(List AE)→Int→Option (List AE)
 | 0,_,_,_=>none
 | n+1,out1,l1,parent1=>Ey (fun out1 l1 parent1=>B4 n out1 l1 parent1) out1 l1 parent1
noncomputable def Gr (out1:List AE) (l1:List AE) (parent1:Int):Option ((List AE)):=
 @dite _ (∃ n r,B4 n out1 l1 parent1=some r) (Classical.propDecidable _) (fun h=>B4 h.choose out1 l1 parent1) (fun _=>none)
noncomputable def Ex (r1:List AE) (w1:List AE) (last2:Int) (out2:List AE) (next2:Int) (x2:Int):Option ((Int × Int) ⊕ Int):=
 if (decide (x2<(r1.length:Int))) then (
 AO (
 AO (Ak r1 x2) fun (x6:AE)=>
 AO (gd ((decide (last2<x6.Item)) == true) (FM out2 0 (w1.length:Int))) fun (l2:List AE)=>
 AO (gd ((decide (last2<x6.Item)) == true) (EL l2 x6.Item)) fun (r3:Int)=>
 AO (gd ((((decide (last2<x6.Item)) && (decide (r3<0))) == true) && ((decide (next2<0)) == false)) (Ak r1 next2)) fun (x7:AE)=>
 if (((decide (last2<x6.Item)) && (decide (r3<0))) && ((decide (next2<0)) || (decide (x6.Item<x7.Item)))) then (
 some x2
 ) else (
 some next2
 )
 ) fun (next5:Int)=>
 AO (Aw .i64 (x2+1)) fun (x5:Int)=>
 some (.inl (next5,x5))
 ) else (
 some (.inr next2)
 )
noncomputable def EX (r1:List AE) (w1:List AE) (last2:Int) (out2:List AE):Option ((Int × (List AE)) ⊕ (BN Unit ((List AE) × Int))):=
 AO (iter (fun (a:Int × Int)=>Ex r1 w1 last2 out2 a.1 a.2) ((-1),0)) fun (next4:Int)=>
 if (decide (next4<0)) then (
 some (.inr (.ext (out2,(w1.length:Int))))
 ) else (
 AO (Ak r1 next4) fun (x4:AE)=>
 AO (app 56 out2 [x4]) fun (out4:List AE)=>
 some (.inl (x4.Item,out4))
 )
noncomputable def Gw (l1:List AP):Option ((List AE) × Int):=
 CN (GX l1) fun (r1:List AE) (r2:List AE)=>
 AO (Gr [] r1 0) fun (w1:List AE)=>
 BS (iter (fun (a:Int × (List AE))=>EX r1 w1 a.1 a.2) (0,w1)) fun (u2:Unit)=>
 none
noncomputable def Hq (a1:AE) (b1:AE):Option (Bool):=
 AO (gd ((((decide (a1.Item=b1.Item)) && (decide (a1.Parent=b1.Parent))) && (decide (a1.Place=b1.Place))) == true) (He a1.Attrs b1.Attrs)) fun (r1:Bool)=>
 some ((((decide (a1.Item=b1.Item)) && (decide (a1.Parent=b1.Parent))) && (decide (a1.Place=b1.Place))) && r1)
noncomputable def Ep (a1:List AE) (b1:List AE) (x2:Int):Option (Int ⊕ (BN Unit Bool)):=
 if (decide (x2<(a1.length:Int))) then (
 AO (Ak a1 x2) fun (x4:AE)=>
 AO (Ak b1 x2) fun (x5:AE)=>
 AO (Hq x4 x5) fun (r1:Bool)=>
 if (!r1) then (
 some (.inr (.ext false))
 ) else (
 AO (Aw .i64 (x2+1)) fun (x6:Int)=>
 some (.inl x6)
 )
 ) else (
 some (.inr (.nrm ()))
 )
noncomputable def HV (a1:List AE) (b1:List AE):Option (Bool):=
 if (!decide ((a1.length:Int)=(b1.length:Int))) then (
 some false
 ) else (
 BS (iter (fun (a:Int)=>Ep a1 b1 a) 0) fun (u2:Unit)=>
 some true
 )
noncomputable def E7 (items1:List AE) (x2:Int) (m2:List (Int × Bool)):Option ((Int × (List (Int × Bool))) ⊕ (BN Unit Int)):=
 if (decide (x2<(items1.length:Int))) then (
 AO (Ak items1 x2) fun (x4:AE)=>
 if (!((AN m2 x4.Parent).getD false)) then (
 some (.inr (.ext x2))
 ) else (
 AO (Aw .i64 (x2+1)) fun (x5:Int)=>
 some (.inl (x5,(Ai m2 x4.Item true)))
 )
 ) else (
 some (.inr (.nrm ()))
 )
noncomputable def HA (items1:List AE):Option (Int):=
 BS (iter (fun (a:Int × (List (Int × Bool)))=>E7 items1 a.1 a.2) (0,(Ai ([]:List (Int × Bool)) 0 true))) fun (u2:Unit)=>
 some (items1.length:Int)
noncomputable def Ih (l1:List AP):Option (Bool):=
 AO (Iz) fun (r1:Bool)=>
 if (!r1) then (
 some false
 ) else (
 CN (IK l1) fun (r2:List AE) (r3:Int)=>
 AO (Hi l1) fun (f1:Int)=>
 if (!decide (f1=0)) then (
 some ((decide (r3=f1)) && (decide ((r2.length:Int)=0)))
 ) else (
 CN (Gw l1) fun (r4:List AE) (r5:Int)=>
 AO (gd ((decide (r3=0)) == true) (HV r2 r4)) fun (r6:Bool)=>
 AO (gd (((decide (r3=0)) && r6) == true) (HA r2)) fun (r7:Int)=>
 some (((decide (r3=0)) && r6) && (decide (r7=r5)))
 )
 )
end Go.Proofs.Ytelkfhdgmbahgaa.Al
