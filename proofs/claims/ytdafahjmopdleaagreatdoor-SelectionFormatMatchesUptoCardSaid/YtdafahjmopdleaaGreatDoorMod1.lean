/- Models, as printed. -/
import Derived.Test.YtdafahjmopdleaaGreatDoorAl2
namespace Go.Proofs.YtdafahjmopdleaaGreatDoor.Al
structure YAo where
 Kind:Int
 N:Int
deriving DecidableEq
instance:Inhabited YAo:=⟨⟨0,0⟩⟩
@[reducible] def YAo.row (x:YAo):List RV:=[.int .i64 x.Kind,.int .i64 x.N]
structure YP3 where
 steps:List YAo
 used:Int
deriving DecidableEq
instance:Inhabited YP3:=⟨⟨[],0⟩⟩
structure YP2 where
 out:List YAo
 add:Int
 cut:Int
deriving DecidableEq
instance:Inhabited YP2:=⟨⟨[],0,0⟩⟩
structure YAG where
 Name:List UInt8
 Value:List UInt8
deriving DecidableEq
instance:Inhabited YAG:=⟨⟨[],[]⟩⟩
@[reducible] def YAG.row (x:YAG):List RV:=[.str x.Name,.str x.Value]
structure YAC where
 Char:Int
 Ref:Int
 Attrs:List YAG
deriving DecidableEq
instance:Inhabited YAC:=⟨⟨0,0,[]⟩⟩
@[reducible] def YAC.row (x:YAC):List RV:=[.int .i64 x.Char,.int .i64 x.Ref,.sl (x.Attrs.map YAG.row)]
structure YAY where
 Row:Int
 Col:Int
 Text:List UInt8
 Ref:Int
 Attrs:List YAG
deriving DecidableEq
instance:Inhabited YAY:=⟨⟨0,0,[],0,[]⟩⟩
@[reducible] def YAY.row (x:YAY):List RV:=[.int .i64 x.Row,.int .i64 x.Col,.str x.Text,.int .i64 x.Ref,.sl (x.Attrs.map YAG.row)]
structure YAX where
 Row:Int
 Col:Int
 H:Int
 W:Int
deriving DecidableEq
instance:Inhabited YAX:=⟨⟨0,0,0,0⟩⟩
@[reducible] def YAX.row (x:YAX):List RV:=[.int .i64 x.Row,.int .i64 x.Col,.int .i64 x.H,.int .i64 x.W]
structure YAy where
 Rows:Int
 Cols:Int
 Cells:List YAY
 Merges:List YAX
deriving DecidableEq
instance:Inhabited YAy:=⟨⟨0,0,[],[]⟩⟩
@[reducible] def YAy.row (x:YAy):List RV:=[.int .i64 x.Rows,.int .i64 x.Cols,.sl (x.Cells.map YAY.row),.sl (x.Merges.map YAX.row)]
structure YAN where
 Clock:Int
 Site:Int
 Kind:Int
 Item:Int
 Parent:Int
 Place:List UInt8
 Name:List UInt8
 Value:List UInt8
deriving DecidableEq
instance:Inhabited YAN:=⟨⟨0,0,0,0,0,[],[],[]⟩⟩
@[reducible] def YAN.row (x:YAN):List RV:=[.int .i64 x.Clock,.int .i64 x.Site,.int .i64 x.Kind,.int .i64 x.Item,.int .i64 x.Parent,.str x.Place,.str x.Name,.str x.Value]
structure YAP where
 ID:Int
 Kind:Int
 Attrs:List YAG
 Flow:List YAC
 Grid:YAy
 Draw:List YAN
deriving DecidableEq
instance:Inhabited YAP:=⟨⟨0,0,[],[],(YAy.mk 0 0 [] []),[]⟩⟩
@[reducible] def YAP.row (x:YAP):List RV:=[.int .i64 x.ID,.int .i64 x.Kind,.sl (x.Attrs.map YAG.row),.sl (x.Flow.map YAC.row),.int .i64 x.Grid.Rows,.int .i64 x.Grid.Cols,.sl (x.Grid.Cells.map YAY.row),.sl (x.Grid.Merges.map YAX.row),.sl (x.Draw.map YAN.row)]
structure YAB where
 Kind:Int
 N:Int
 Attrs:List YAG
 Elems:List YAC
deriving DecidableEq
instance:Inhabited YAB:=⟨⟨0,0,[],[]⟩⟩
@[reducible] def YAB.row (x:YAB):List RV:=[.int .i64 x.Kind,.int .i64 x.N,.sl (x.Attrs.map YAG.row),.sl (x.Elems.map YAC.row)]
structure YAj where
 Rows:List YAo
 Cols:List YAo
 Cells:List YAY
 Split:List YAX
 Merge:List YAX
deriving DecidableEq
instance:Inhabited YAj:=⟨⟨[],[],[],[],[]⟩⟩
structure GOp where
 Kind:Int
 Node:Int
 New:YAP
 Attrs:List YAG
 Steps:List YAB
 Grid:YAj
 Draw:List YAN
deriving DecidableEq
instance:Inhabited GOp:=⟨⟨0,0,(YAP.mk 0 0 [] [] (YAy.mk 0 0 [] []) []),[],[],(YAj.mk [] [] [] [] []),[]⟩⟩
@[reducible] def GOp.row (x:GOp):List RV:=[.int .i64 x.Kind,.int .i64 x.Node,.int .i64 x.New.ID,.int .i64 x.New.Kind,.sl (x.New.Attrs.map YAG.row),.sl (x.New.Flow.map YAC.row),.int .i64 x.New.Grid.Rows,.int .i64 x.New.Grid.Cols,.sl (x.New.Grid.Cells.map YAY.row),.sl (x.New.Grid.Merges.map YAX.row),.sl (x.New.Draw.map YAN.row),.sl (x.Attrs.map YAG.row),.sl (x.Steps.map YAB.row),.sl (x.Grid.Rows.map YAo.row),.sl (x.Grid.Cols.map YAo.row),.sl (x.Grid.Cells.map YAY.row),.sl (x.Grid.Split.map YAX.row),.sl (x.Grid.Merge.map YAX.row),.sl (x.Draw.map YAN.row)]
structure GEntry where
 Site:Int
 Number:Int
 Change:List GOp
 Undoes:Int
 Refused:Int
deriving DecidableEq
instance:Inhabited GEntry:=⟨⟨0,0,[],0,0⟩⟩
structure GSpan where
 From:Int
 To:Int
deriving DecidableEq
instance:Inhabited GSpan:=⟨⟨0,0⟩⟩
noncomputable def YC2 (x1:Int) (low1:Int) (high1:Int):Option (Bool):=
 some ((decide (low1≤x1)) && (decide (x1≤high1)))
noncomputable def YDt (s1:List UInt8) (x2:Int):Option (Int ⊕ (Ctl Unit Bool)):=
 if (decide (x2<(s1.length:Int))) then (
 bnd1 (idx s1 x2) fun (c1:UInt8)=>
 if (((((decide ((c1.toNat:Int)<97)) || (decide (122<(c1.toNat:Int)))) && ((decide ((c1.toNat:Int)<48)) || (decide (57<(c1.toNat:Int))))) && (!decide ((c1.toNat:Int)=46))) && (!decide ((c1.toNat:Int)=45))) then (
 some (.inr (.ext false))
 ) else (
 bnd1 (chk .i64 (x2+1)) fun (x4:Int)=>
 some (.inl x4)
 )
 ) else (
 some (.inr (.nrm ()))
 )
noncomputable def YGJ (s1:List UInt8):Option (Bool):=
 bnd1 (gd (((decide (s1=[])) || (decide (24<(s1.length:Int)))) == false) (idx s1 0)) fun (ch1:UInt8)=>
 bnd1 (gd ((((decide (s1=[])) || (decide (24<(s1.length:Int)))) || (decide ((ch1.toNat:Int)<97))) == false) (idx s1 0)) fun (ch2:UInt8)=>
 if ((((decide (s1=[])) || (decide (24<(s1.length:Int)))) || (decide ((ch1.toNat:Int)<97))) || (decide (122<(ch2.toNat:Int)))) then (
 some false
 ) else (
 ctl1 (iter (fun (a:Int)=>YDt s1 a) 0) fun (u2:Unit)=>
 some true
 )
noncomputable def YEK (s1:List UInt8) (x2:Int):Option (Int ⊕ (Ctl Unit Bool)):=
 if (decide (x2<(s1.length:Int))) then (
 bnd1 (idx s1 x2) fun (ch1:UInt8)=>
 if ((decide ((ch1.toNat:Int)<32)) || (decide (126<(ch1.toNat:Int)))) then (
 some (.inr (.ext false))
 ) else (
 bnd1 (chk .i64 (x2+1)) fun (x4:Int)=>
 some (.inl x4)
 )
 ) else (
 some (.inr (.nrm ()))
 )
noncomputable def YDs (s1:List UInt8):Option (Bool):=
 if ((decide (s1=[])) || (decide (200<(s1.length:Int)))) then (
 some false
 ) else (
 ctl1 (iter (fun (a:Int)=>YEK s1 a) 0) fun (u2:Unit)=>
 some true
 )
noncomputable def YDQ (l1:List YAG) (empty1:Bool) (x2:Int):Option (Int ⊕ (Ctl Unit Int)):=
 if (decide (x2<(l1.length:Int))) then (
 bnd1 (idx l1 x2) fun (x4:YAG)=>
 bnd1 (YGJ x4.Name) fun (r1:Bool)=>
 if (!r1) then (
 some (.inr (.ext 9))
 ) else (
 bnd1 (YDs x4.Value) fun (r2:Bool)=>
 if ((!r2) && (!(empty1 && (decide (x4.Value=[]))))) then (
 some (.inr (.ext 23))
 ) else (
 bnd1 (gd ((decide (0<x2)) == true) (chk .i64 (x2-1))) fun (x5:Int)=>
 bnd1 (gd ((decide (0<x2)) == true) (idx l1 x5)) fun (x6:YAG)=>
 if ((decide (0<x2)) && (sLt x4.Name x6.Name || decide (x4.Name=x6.Name))) then (
 some (.inr (.ext 5))
 ) else (
 bnd1 (chk .i64 (x2+1)) fun (x7:Int)=>
 some (.inl x7)
 )
 )
 )
 ) else (
 some (.inr (.nrm ()))
 )
noncomputable def YFK (l1:List YAG) (empty1:Bool):Option (Int):=
 ctl1 (iter (fun (a:Int)=>YDQ l1 empty1 a) 0) fun (u2:Unit)=>
 some 0
noncomputable def YEZ (l1:List YAG):Option (Int):=
 bnd1 (YFK l1 false) fun (r1:Int)=>
 some r1
noncomputable def YBA (l1:List YAG):Option (Int):=
 bnd1 (YFK l1 true) fun (r1:Int)=>
 some r1
noncomputable def YCn (a1:List YAG) (b1:List YAG) (x2:Int):Option (Int ⊕ (Ctl Unit Bool)):=
 if (decide (x2<(a1.length:Int))) then (
 bnd1 (idx a1 x2) fun (x4:YAG)=>
 bnd1 (idx b1 x2) fun (x5:YAG)=>
 if (!(decide (x4.Name=x5.Name) && (decide (x4.Value=x5.Value) && true))) then (
 some (.inr (.ext false))
 ) else (
 bnd1 (chk .i64 (x2+1)) fun (x6:Int)=>
 some (.inl x6)
 )
 ) else (
 some (.inr (.nrm ()))
 )
noncomputable def YBK (a1:List YAG) (b1:List YAG):Option (Bool):=
 if (!decide ((a1.length:Int)=(b1.length:Int))) then (
 some false
 ) else (
 ctl1 (iter (fun (a:Int)=>YCn a1 b1 a) 0) fun (u2:Unit)=>
 some true
 )
noncomputable def YEU (s1:List UInt8) (x2:Int):Option (Int ⊕ (Ctl Unit Bool)):=
 if (decide (x2<(s1.length:Int))) then (
 bnd1 (idx s1 x2) fun (ch1:UInt8)=>
 if ((!((decide (97≤(ch1.toNat:Int))) && (decide ((ch1.toNat:Int)≤122)))) && ((decide (x2=0)) || (((!decide ((ch1.toNat:Int)=46)) && (!decide ((ch1.toNat:Int)=45))) && ((decide ((ch1.toNat:Int)<48)) || (decide (57<(ch1.toNat:Int))))))) then (
 some (.inr (.ext false))
 ) else (
 bnd1 (chk .i64 (x2+1)) fun (x4:Int)=>
 some (.inl x4)
 )
 ) else (
 some (.inr (.nrm ()))
 )
noncomputable def YHT (s1:List UInt8):Option (Bool):=
 ctl1 (iter (fun (a:Int)=>YEU s1 a) 0) fun (u2:Unit)=>
 some ((decide (1≤(s1.length:Int))) && (decide ((s1.length:Int)≤24)))
noncomputable def YEj (s1:List UInt8) (x2:Int):Option (Int ⊕ (Ctl Unit Bool)):=
 if (decide (x2<(s1.length:Int))) then (
 bnd1 (idx s1 x2) fun (ch1:UInt8)=>
 if ((decide ((ch1.toNat:Int)<32)) || (decide (126<(ch1.toNat:Int)))) then (
 some (.inr (.ext false))
 ) else (
 bnd1 (chk .i64 (x2+1)) fun (x4:Int)=>
 some (.inl x4)
 )
 ) else (
 some (.inr (.nrm ()))
 )
noncomputable def YF2 (s1:List UInt8):Option (Bool):=
 ctl1 (iter (fun (a:Int)=>YEj s1 a) 0) fun (u2:Unit)=>
 some ((decide (1≤(s1.length:Int))) && (decide ((s1.length:Int)≤200)))
noncomputable def YBn (l1:List YAG) (change1:Bool) (x2:Int):Option (Int ⊕ (Ctl Unit Int)):=
 if (decide (x2<(l1.length:Int))) then (
 bnd1 (idx l1 x2) fun (x4:YAG)=>
 bnd1 (YHT x4.Name) fun (r1:Bool)=>
 if (!r1) then (
 some (.inr (.ext 9))
 ) else (
 bnd1 (YF2 x4.Value) fun (r2:Bool)=>
 if ((!r2) && ((!decide (x4.Value=[])) || (!change1))) then (
 some (.inr (.ext 23))
 ) else (
 bnd1 (gd ((decide (0<x2)) == true) (chk .i64 (x2-1))) fun (x5:Int)=>
 bnd1 (gd ((decide (0<x2)) == true) (idx l1 x5)) fun (x6:YAG)=>
 if ((decide (0<x2)) && (!sLt x6.Name x4.Name)) then (
 some (.inr (.ext 5))
 ) else (
 bnd1 (chk .i64 (x2+1)) fun (x7:Int)=>
 some (.inl x7)
 )
 )
 )
 ) else (
 some (.inr (.nrm ()))
 )
noncomputable def YBm (l1:List YAG) (change1:Bool):Option (Int):=
 ctl1 (iter (fun (a:Int)=>YBn l1 change1 a) 0) fun (u2:Unit)=>
 some 0
noncomputable def YFe (l1:List YAG) (name1:List UInt8) (x2:Int):Option (Int ⊕ (Ctl Unit (List UInt8))):=
 if (decide (x2<(l1.length:Int))) then (
 bnd1 (idx l1 x2) fun (x4:YAG)=>
 if (decide (x4.Name=name1)) then (
 some (.inr (.ext x4.Value))
 ) else (
 bnd1 (chk .i64 (x2+1)) fun (x5:Int)=>
 some (.inl x5)
 )
 ) else (
 some (.inr (.nrm ()))
 )
noncomputable def YGa (l1:List YAG) (name1:List UInt8):Option ((List UInt8)):=
 ctl1 (iter (fun (a:Int)=>YFe l1 name1 a) 0) fun (u2:Unit)=>
 some []
noncomputable def YF5 (l1:List YAG) (name1:List UInt8) (x2:Int):Option (Int ⊕ (Ctl Unit (List UInt8))):=
 if (decide (x2<(l1.length:Int))) then (
 bnd1 (idx l1 x2) fun (x4:YAG)=>
 if (decide (x4.Name=name1)) then (
 some (.inr (.ext x4.Value))
 ) else (
 bnd1 (chk .i64 (x2+1)) fun (x5:Int)=>
 some (.inl x5)
 )
 ) else (
 some (.inr (.nrm ()))
 )
noncomputable def YK6 (l1:List YAG) (name1:List UInt8):Option ((List UInt8)):=
 ctl1 (iter (fun (a:Int)=>YF5 l1 name1 a) 0) fun (u2:Unit)=>
 some []
noncomputable def YGH (c1:Int):Option (Bool):=
 some (((((decide (c1=9)) || (decide (c1=10))) || ((decide (32≤c1)) && (decide (c1<127)))) || ((decide (160≤c1)) && (decide (c1<55296)))) || ((decide (57343<c1)) && (decide (c1≤1114111))))
noncomputable def YGG (x1:YAC):Option (Int):=
 if ((!decide (x1.Char=0)) == (!decide (x1.Ref=0))) then (
 some 4
 ) else (
 bnd1 (gd ((decide (x1.Ref=0)) == true) (YGH x1.Char)) fun (r1:Bool)=>
 bnd1 (
 if ((decide (x1.Ref=0)) && (!r1)) then (
 some ((decide (x1.Ref=0)) && (!r1))
 ) else (
 some ((!decide (x1.Ref=0)) && ((decide (x1.Ref<1)) || (decide (1073741824<x1.Ref))))
 )
 ) fun (x2:Bool)=>
 if x2 then (
 some 2
 ) else (
 bnd1 (YEZ x1.Attrs) fun (r2:Int)=>
 some r2
 )
 )
noncomputable def YCR (f1:List YAC) (x2:Int):Option (Int ⊕ (Ctl Unit Int)):=
 if (decide (x2<(f1.length:Int))) then (
 bnd1 (idx f1 x2) fun (x4:YAC)=>
 bnd1 (YGG x4) fun (e1:Int)=>
 if (!decide (e1=0)) then (
 some (.inr (.ext e1))
 ) else (
 bnd1 (chk .i64 (x2+1)) fun (x5:Int)=>
 some (.inl x5)
 )
 ) else (
 some (.inr (.nrm ()))
 )
noncomputable def YDX (f1:List YAC):Option (Int):=
 ctl1 (iter (fun (a:Int)=>YCR f1 a) 0) fun (u2:Unit)=>
 some 0
noncomputable def YEf (x1:YAC) (mode1:Int):Option (Bool):=
 bnd1 (YGa x1.Attrs [104,105,100,100,101,110]) fun (r1:List UInt8)=>
 bnd1 (gd (((decide (r1=[111,110])) == false) && ((decide (mode1=0)) == true)) (YGa x1.Attrs [99,117,116])) fun (r2:List UInt8)=>
 bnd1 (gd ((((decide (r1=[111,110])) || ((decide (mode1=0)) && (!decide (r2=[])))) == false) && ((decide (mode1=1)) == true)) (YGa x1.Attrs [97,100,100])) fun (r3:List UInt8)=>
 some (((decide (r1=[111,110])) || ((decide (mode1=0)) && (!decide (r2=[])))) || ((decide (mode1=1)) && (!decide (r3=[]))))
noncomputable def YCN (f1:List YAC) (mode1:Int) (x2:Int) (out2:List Int):Option ((Int × (List Int)) ⊕ (List Int)):=
 if (decide (x2<(f1.length:Int))) then (
 bnd1 (
 bnd1 (idx f1 x2) fun (x5:YAC)=>
 bnd1 (YEf x5 mode1) fun (r1:Bool)=>
 bnd1 (gd ((!r1) == false) (chk .i64 ((f1.length:Int)-1))) fun (x6:Int)=>
 if ((!r1) || ((decide (x2=x6)) && (decide (x5.Char=10)))) then (
 bnd1 (app 8 out2 [x2]) fun (out6:List Int)=>
 some out6
 ) else (
 some out2
 )
 ) fun (out5:List Int)=>
 bnd1 (chk .i64 (x2+1)) fun (x4:Int)=>
 some (.inl (x4,out5))
 ) else (
 some (.inr out2)
 )
noncomputable def YEe (f1:List YAC) (mode1:Int):Option ((List Int)):=
 bnd1 (iter (fun (a:Int × (List Int))=>YCN f1 mode1 a.1 a.2) (0,[])) fun (out4:List Int)=>
 some out4
noncomputable def YHU (c1:Int):Option (Bool):=
 bnd1 (gd (((decide (c1=9)) || (decide (c1=10))) == false) (YC2 c1 32 126)) fun (r1:Bool)=>
 bnd1 (gd ((((decide (c1=9)) || (decide (c1=10))) || r1) == false) (YC2 c1 160 55295)) fun (r2:Bool)=>
 bnd1 (gd (((((decide (c1=9)) || (decide (c1=10))) || r1) || r2) == false) (YC2 c1 57344 1114111)) fun (r3:Bool)=>
 some (((((decide (c1=9)) || (decide (c1=10))) || r1) || r2) || r3)
noncomputable def YD9 (x1:YAC):Option (Int):=
 if (((decide (x1.Char=0)) && (decide (x1.Ref=0))) || ((!decide (x1.Char=0)) && (!decide (x1.Ref=0)))) then (
 some 4
 ) else (
 bnd1 (gd ((!decide (x1.Char=0)) == true) (YHU x1.Char)) fun (r1:Bool)=>
 bnd1 (gd ((((!decide (x1.Char=0)) && (!r1)) == false) && ((!decide (x1.Ref=0)) == true)) (YC2 x1.Ref 1 1073741824)) fun (r2:Bool)=>
 if (((!decide (x1.Char=0)) && (!r1)) || ((!decide (x1.Ref=0)) && (!r2))) then (
 some 2
 ) else (
 bnd1 (YBm x1.Attrs false) fun (r3:Int)=>
 some r3
 )
 )
noncomputable def YF4 (l1:List YAG) (name1:List UInt8) (x2:Int):Option (Int ⊕ (Ctl Unit Bool)):=
 if (decide (x2<(l1.length:Int))) then (
 bnd1 (idx l1 x2) fun (x4:YAG)=>
 if (decide (x4.Name=name1)) then (
 some (.inr (.ext true))
 ) else (
 bnd1 (chk .i64 (x2+1)) fun (x5:Int)=>
 some (.inl x5)
 )
 ) else (
 some (.inr (.nrm ()))
 )
noncomputable def YIx (l1:List YAG) (name1:List UInt8):Option (Bool):=
 ctl1 (iter (fun (a:Int)=>YF4 l1 name1 a) 0) fun (u2:Unit)=>
 some false
noncomputable def YDl (f1:List YAC) (mode1:Int) (x2:Int) (out2:List Int):Option ((Int × (List Int)) ⊕ (List Int)):=
 if (decide (x2<(f1.length:Int))) then (
 bnd1 (
 bnd1 (idx f1 x2) fun (x5:YAC)=>
 bnd1 (YK6 x5.Attrs [104,105,100,100,101,110]) fun (r1:List UInt8)=>
 bnd1 (gd ((decide (mode1=0)) == true) (YIx x5.Attrs [99,117,116])) fun (r2:Bool)=>
 bnd1 (gd ((((decide (mode1=0)) && r2) == false) && ((decide (mode1=1)) == true)) (YIx x5.Attrs [97,100,100])) fun (r3:Bool)=>
 bnd1 (
 if (((decide (mode1=0)) && r2) || ((decide (mode1=1)) && r3)) then (
 some false
 ) else (
 some (!decide (r1=[111,110]))
 )
 ) fun (show1:Bool)=>
 bnd1 (gd (show1 == false) (chk .i64 ((f1.length:Int)-1))) fun (x6:Int)=>
 if (show1 || ((decide (x2=x6)) && (decide (x5.Char=10)))) then (
 bnd1 (app 8 out2 [x2]) fun (out6:List Int)=>
 some out6
 ) else (
 some out2
 )
 ) fun (out5:List Int)=>
 bnd1 (chk .i64 (x2+1)) fun (x4:Int)=>
 some (.inl (x4,out5))
 ) else (
 some (.inr out2)
 )
noncomputable def YFT (f1:List YAC) (mode1:Int):Option ((List Int)):=
 bnd1 (iter (fun (a:Int × (List Int))=>YDl f1 mode1 a.1 a.2) (0,[])) fun (out4:List Int)=>
 some out4
noncomputable def YEu (a1:List YAG) (b1:List YAG) (x2:Int):Option (Int ⊕ (Ctl Unit Bool)):=
 if (decide (x2<(a1.length:Int))) then (
 bnd1 (idx a1 x2) fun (x4:YAG)=>
 bnd1 (idx b1 x2) fun (x5:YAG)=>
 if (!(decide (x4.Name=x5.Name) && (decide (x4.Value=x5.Value) && true))) then (
 some (.inr (.ext false))
 ) else (
 bnd1 (chk .i64 (x2+1)) fun (x6:Int)=>
 some (.inl x6)
 )
 ) else (
 some (.inr (.nrm ()))
 )
noncomputable def YDE (a1:List YAG) (b1:List YAG):Option (Bool):=
 if (!decide ((a1.length:Int)=(b1.length:Int))) then (
 some false
 ) else (
 ctl1 (iter (fun (a:Int)=>YEu a1 b1 a) 0) fun (u2:Unit)=>
 some true
 )
end Go.Proofs.YtdafahjmopdleaaGreatDoor.Al


namespace Go.Proofs.YtdafahjmopdleaaGreatDoor.Al
structure YAR where
 Adds:List (List YAC)
 Cuts:List Bool
 Attrs:List (List YAG)
deriving DecidableEq
instance:Inhabited YAR:=⟨⟨[],[],[]⟩⟩
noncomputable def YBl (a1:YAR) (cuts2:Int) (i4:Int) (out2:List YAB) (adds2:List YAC):Option ((Int × Int × (List YAB) × (List YAC)) ⊕ (List YAB)):=
 if (decide (i4≤(a1.Cuts.length:Int))) then (
 ctl3 (
 bnd1 (idx a1.Adds i4) fun (x1:List YAC)=>
 bnd1 (app 40 adds2 x1) fun (adds5:List YAC)=>
 bnd1 (gd ((decide (i4<(a1.Cuts.length:Int))) == true) (idx a1.Cuts i4)) fun (x2:Bool)=>
 if ((decide (i4<(a1.Cuts.length:Int))) && x2) then (
 bnd1 (chk .i64 (cuts2+1)) fun (cuts5:Int)=>
 some (.nrm (cuts5,out2,adds5))
 ) else (
 bnd1 (
 if (decide (0<(adds5.length:Int))) then (
 bnd1 (app 64 out2 [(YAB.mk 1 0 [] adds5)]) fun (out10:List YAB)=>
 some out10
 ) else (
 some out2
 )
 ) fun (out6:List YAB)=>
 bnd1 (
 if (decide (0<cuts2)) then (
 bnd1 (app 64 out6 [(YAB.mk 2 cuts2 [] [])]) fun (out9:List YAB)=>
 some out9
 ) else (
 some out6
 )
 ) fun (out7:List YAB)=>
 if (decide (i4=(a1.Cuts.length:Int))) then (
 some (.ext (.inr out7))
 ) else (
 bnd1 (chk .i64 ((out7.length:Int)-1)) fun (k1:Int)=>
 bnd1 (gd ((decide (0≤k1)) == true) (idx out7 k1)) fun (x3:YAB)=>
 bnd1 (gd (((decide (0≤k1)) && (decide (x3.Kind=0))) == true) (idx out7 k1)) fun (x4:YAB)=>
 bnd1 (gd (((decide (0≤k1)) && (decide (x3.Kind=0))) == true) (idx a1.Attrs i4)) fun (x5:List YAG)=>
 bnd1 (gd (((decide (0≤k1)) && (decide (x3.Kind=0))) == true) (YBK x4.Attrs x5)) fun (r1:Bool)=>
 if (((decide (0≤k1)) && (decide (x3.Kind=0))) && r1) then (
 bnd1 (idx out7 k1) fun (x6:YAB)=>
 bnd1 (chk .i64 (x6.N+1)) fun (x7:Int)=>
 some (.nrm (0,(out7.set k1.toNat (YAB.mk x6.Kind x7 x6.Attrs x6.Elems)),[]))
 ) else (
 bnd1 (idx a1.Attrs i4) fun (x8:List YAG)=>
 bnd1 (app 64 out7 [(YAB.mk 0 1 x8 [])]) fun (out8:List YAB)=>
 some (.nrm (0,out8,[]))
 )
 )
 )
 ) fun (cuts4:Int) (out5:List YAB) (adds4:List YAC)=>
 bnd1 (chk .i64 (i4+1)) fun (i10:Int)=>
 some (.inl (cuts4,i10,out5,adds4))
 ) else (
 some (.inr out2)
 )
noncomputable def YDg (a1:YAR):Option ((List YAB)):=
 bnd1 (iter (fun (a:Int × Int × (List YAB) × (List YAC))=>YBl a1 a.1 a.2.1 a.2.2.1 a.2.2.2) (0,0,[],[])) fun (out4:List YAB)=>
 some out4
noncomputable def YCl (a1:List YAo) (b1:List YAo) (x2:Int):Option (Int ⊕ (Ctl Unit Bool)):=
 if (decide (x2<(a1.length:Int))) then (
 bnd1 (idx a1 x2) fun (x4:YAo)=>
 bnd1 (idx b1 x2) fun (x5:YAo)=>
 if (!(decide (x4.Kind=x5.Kind) && (decide (x4.N=x5.N) && true))) then (
 some (.inr (.ext false))
 ) else (
 bnd1 (chk .i64 (x2+1)) fun (x6:Int)=>
 some (.inl x6)
 )
 ) else (
 some (.inr (.nrm ()))
 )
noncomputable def YCb (a1:List YAo) (b1:List YAo):Option (Bool):=
 if (!decide ((a1.length:Int)=(b1.length:Int))) then (
 some false
 ) else (
 ctl1 (iter (fun (a:Int)=>YCl a1 b1 a) 0) fun (u2:Unit)=>
 some true
 )
end Go.Proofs.YtdafahjmopdleaaGreatDoor.Al


namespace Go.Proofs.YtdafahjmopdleaaGreatDoor.Al
end Go.Proofs.YtdafahjmopdleaaGreatDoor.Al


namespace Go.Proofs.YtdafahjmopdleaaGreatDoor.Al
structure YOx where
 steps:List YAB
 used:Int
deriving DecidableEq
instance:Inhabited YOx:=⟨⟨[],0⟩⟩
structure YAE where
 out:List YAB
 add:List YAC
 cut:Int
deriving DecidableEq
instance:Inhabited YAE:=⟨⟨[],[],0⟩⟩
noncomputable def YFI (s1:YAB):Option (Int):=
 bnd1 (
 if (decide (s1.Kind=0)) then (
 some (decide (s1.Kind=0))
 ) else (
 some (decide (s1.Kind=2))
 )
 ) fun (x1:Bool)=>
 if x1 then (
 if ((decide (0<(s1.Elems.length:Int))) || ((decide (s1.Kind=2)) && (decide (0<(s1.Attrs.length:Int))))) then (
 some 4
 ) else (
 if ((decide (s1.N<1)) || (decide (2147483647<s1.N))) then (
 some 2
 ) else (
 bnd1 (YBA s1.Attrs) fun (r1:Int)=>
 some r1
 )
 )
 ) else (
 if (decide (s1.Kind=1)) then (
 if ((!decide (s1.N=0)) || (decide (0<(s1.Attrs.length:Int)))) then (
 some 4
 ) else (
 if (decide ((s1.Elems.length:Int)=0)) then (
 some 11
 ) else (
 bnd1 (YDX s1.Elems) fun (r2:Int)=>
 some r2
 )
 )
 ) else (
 some 8
 )
 )
noncomputable def YGI (s1:YAB):Option (Int):=
 if (decide (s1.Kind=1)) then (
 some (s1.Elems.length:Int)
 ) else (
 some s1.N
 )
noncomputable def YBW (d1:List YAB) (before2:Int) (after2:Int) (x2:Int):Option ((Int × Int × Int) ⊕ (Ctl (Int × Int) Int)):=
 if (decide (x2<(d1.length:Int))) then (
 ctl2 (
 bnd1 (idx d1 x2) fun (x5:YAB)=>
 bnd1 (YFI x5) fun (e1:Int)=>
 if (!decide (e1=0)) then (
 some (.ext (.inr (.ext e1)))
 ) else (
 ctl1 (
 if (decide (0<x2)) then (
 bnd1 (chk .i64 (x2-1)) fun (x8:Int)=>
 bnd1 (idx d1 x8) fun (x9:YAB)=>
 bnd1 (gd (((decide (x9.Kind=x5.Kind)) == true) && ((!decide (x5.Kind=0)) == false)) (YDE x9.Attrs x5.Attrs)) fun (r2:Bool)=>
 if (((decide (x9.Kind=x5.Kind)) && ((!decide (x5.Kind=0)) || r2)) || ((decide (x9.Kind=2)) && (decide (x5.Kind=1)))) then (
 some (.ext (.ext (.inr (.ext 5))))
 ) else (
 some (.nrm ())
 )
 ) else (
 some (.nrm ())
 )
 ) fun (u2:Unit)=>
 bnd1 (
 if (!decide (x5.Kind=1)) then (
 bnd1 (chk .i64 (before2+x5.N)) fun (x7:Int)=>
 some (min x7 2147483648)
 ) else (
 some before2
 )
 ) fun (before6:Int)=>
 if (!decide (x5.Kind=2)) then (
 bnd1 (YGI x5) fun (r1:Int)=>
 bnd1 (chk .i64 (after2+r1)) fun (x6:Int)=>
 some (.nrm (before6,(min x6 2147483648)))
 ) else (
 some (.nrm (before6,after2))
 )
 )
 ) fun (before5:Int) (after5:Int)=>
 bnd1 (chk .i64 (x2+1)) fun (x4:Int)=>
 some (.inl (before5,after5,x4))
 ) else (
 some (.inr (.nrm (before2,after2)))
 )
noncomputable def YFb (d1:List YAB):Option (Int):=
 ctl2 (iter (fun (a:Int × Int × Int)=>YBW d1 a.1 a.2.1 a.2.2) (0,0,0)) fun (before4:Int) (after4:Int)=>
 if ((decide (2147483647<before4)) || (decide (2147483647<after4))) then (
 some 3
 ) else (
 some 0
 )
noncomputable def YCV (f1:List YAC) (x2:Int) (out3:List YAC):Option ((Int × (List YAC)) ⊕ (List YAC)):=
 if (decide (x2<(f1.length:Int))) then (
 bnd1 (idx f1 x2) fun (x4:YAC)=>
 bnd1 (app 32 [] x4.Attrs) fun (l1:List YAG)=>
 bnd1 (idx out3 x2) fun (x5:YAC)=>
 bnd1 (chk .i64 (x2+1)) fun (x6:Int)=>
 some (.inl (x6,(out3.set x2.toNat (YAC.mk x4.Char x4.Ref l1))))
 ) else (
 some (.inr out3)
 )
noncomputable def YHH (f1:List YAC):Option ((List YAC)):=
 bnd1 (mk 40 (f1.length:Int) (YAC.mk 0 0 [])) fun (out1:List YAC)=>
 bnd1 (iter (fun (a:Int × (List YAC))=>YCV f1 a.1 a.2) (0,out1)) fun (out5:List YAC)=>
 some out5
noncomputable def YBc (w1:YAE):Option (YAE):=
 bnd1 (
 if (decide (0<(w1.add.length:Int))) then (
 bnd1 (app 64 w1.out [(YAB.mk 1 0 [] w1.add)]) fun (l2:List YAB)=>
 some (YAE.mk l2 w1.add w1.cut)
 ) else (
 some w1
 )
 ) fun (w2:YAE)=>
 bnd1 (
 if (decide (0<w2.cut)) then (
 bnd1 (app 64 w2.out [(YAB.mk 2 w2.cut [] [])]) fun (l1:List YAB)=>
 some (YAE.mk l1 w2.add w2.cut)
 ) else (
 some w2
 )
 ) fun (w3:YAE)=>
 some (YAE.mk w3.out [] 0)
noncomputable def YCT (w1:YAE) (n1:Int) (attrs1:List YAG):Option (YAE):=
 if (decide (n1=0)) then (
 some w1
 ) else (
 bnd1 (YBc w1) fun (w2:YAE)=>
 bnd1 (chk .i64 ((w2.out.length:Int)-1)) fun (k1:Int)=>
 bnd1 (gd ((decide (0≤k1)) == true) (idx w2.out k1)) fun (x1:YAB)=>
 bnd1 (gd (((decide (0≤k1)) && (decide (x1.Kind=0))) == true) (idx w2.out k1)) fun (x2:YAB)=>
 bnd1 (gd (((decide (0≤k1)) && (decide (x1.Kind=0))) == true) (YDE x2.Attrs attrs1)) fun (r1:Bool)=>
 if (((decide (0≤k1)) && (decide (x1.Kind=0))) && r1) then (
 bnd1 (idx w2.out k1) fun (x3:YAB)=>
 bnd1 (chk .i64 (x3.N+n1)) fun (x4:Int)=>
 some (YAE.mk (w2.out.set k1.toNat (YAB.mk x3.Kind x4 x3.Attrs x3.Elems)) [] w2.cut)
 ) else (
 bnd1 (app 32 [] attrs1) fun (l1:List YAG)=>
 bnd1 (app 64 w2.out [(YAB.mk 0 n1 l1 [])]) fun (l2:List YAB)=>
 some (YAE.mk l2 [] w2.cut)
 )
 )
noncomputable def YCB (w1:YAE) (l1:List YAC):Option (YAE):=
 bnd1 (YHH l1) fun (r1:List YAC)=>
 bnd1 (app 40 w1.add r1) fun (l2:List YAC)=>
 some (YAE.mk w1.out l2 w1.cut)
noncomputable def YBo (w1:YAE):Option ((List YAB) × Int × YAE):=
 bnd1 (YBc w1) fun (w2:YAE)=>
 bnd1 (YFb w2.out) fun (r1:Int)=>
 if (!decide (r1=0)) then (
 some ([],3,(YAE.mk w2.out [] w2.cut))
 ) else (
 some (w2.out,0,(YAE.mk w2.out [] w2.cut))
 )
noncomputable def YEl (a1:YAC) (b1:YAC):Option (Bool):=
 bnd1 (gd (((decide (a1.Char=b1.Char)) && (decide (a1.Ref=b1.Ref))) == true) (YBK a1.Attrs b1.Attrs)) fun (r1:Bool)=>
 some (((decide (a1.Char=b1.Char)) && (decide (a1.Ref=b1.Ref))) && r1)
noncomputable def YC9 (a1:List YAC) (b1:List YAC) (x2:Int):Option (Int ⊕ (Ctl Unit Bool)):=
 if (decide (x2<(a1.length:Int))) then (
 bnd1 (idx a1 x2) fun (x4:YAC)=>
 bnd1 (idx b1 x2) fun (x5:YAC)=>
 bnd1 (YEl x4 x5) fun (r1:Bool)=>
 if (!r1) then (
 some (.inr (.ext false))
 ) else (
 bnd1 (chk .i64 (x2+1)) fun (x6:Int)=>
 some (.inl x6)
 )
 ) else (
 some (.inr (.nrm ()))
 )
noncomputable def YDm (a1:List YAC) (b1:List YAC):Option (Bool):=
 if (!decide ((a1.length:Int)=(b1.length:Int))) then (
 some false
 ) else (
 ctl1 (iter (fun (a:Int)=>YC9 a1 b1 a) 0) fun (u2:Unit)=>
 some true
 )
noncomputable def YCm (a1:List YAB) (b1:List YAB) (x2:Int):Option (Int ⊕ (Ctl Unit Bool)):=
 if (decide (x2<(a1.length:Int))) then (
 bnd1 (idx a1 x2) fun (x4:YAB)=>
 bnd1 (idx b1 x2) fun (x5:YAB)=>
 bnd1 (gd (((!decide (x4.Kind=x5.Kind)) || (!decide (x4.N=x5.N))) == false) (YBK x4.Attrs x5.Attrs)) fun (r1:Bool)=>
 bnd1 (gd ((((!decide (x4.Kind=x5.Kind)) || (!decide (x4.N=x5.N))) || (!r1)) == false) (YDm x4.Elems x5.Elems)) fun (r2:Bool)=>
 if ((((!decide (x4.Kind=x5.Kind)) || (!decide (x4.N=x5.N))) || (!r1)) || (!r2)) then (
 some (.inr (.ext false))
 ) else (
 bnd1 (chk .i64 (x2+1)) fun (x6:Int)=>
 some (.inl x6)
 )
 ) else (
 some (.inr (.nrm ()))
 )
noncomputable def YCc (a1:List YAB) (b1:List YAB):Option (Bool):=
 if (!decide ((a1.length:Int)=(b1.length:Int))) then (
 some false
 ) else (
 ctl1 (iter (fun (a:Int)=>YCm a1 b1 a) 0) fun (u2:Unit)=>
 some true
 )
noncomputable def YCg (f1:List YAC) (text1:Bool) (x2:Int):Option (Int ⊕ (Ctl Unit Int)):=
 if (decide (x2<(f1.length:Int))) then (
 bnd1 (idx f1 x2) fun (x6:YAC)=>
 bnd1 (YGG x6) fun (e1:Int)=>
 if (!decide (e1=0)) then (
 some (.inr (.ext e1))
 ) else (
 if ((!text1) && (decide (x6.Ref=0))) then (
 some (.inr (.ext 8))
 ) else (
 bnd1 (chk .i64 (x2+1)) fun (x7:Int)=>
 some (.inl x7)
 )
 )
 ) else (
 some (.inr (.nrm ()))
 )
noncomputable def YDp (f1:List YAC) (text1:Bool):Option (Int):=
 ctl1 (iter (fun (a:Int)=>YCg f1 text1 a) 0) fun (u2:Unit)=>
 bnd1 (gd ((text1 == true) && ((decide ((f1.length:Int)=0)) == false)) (chk .i64 ((f1.length:Int)-1))) fun (x4:Int)=>
 bnd1 (gd ((text1 == true) && ((decide ((f1.length:Int)=0)) == false)) (idx f1 x4)) fun (x5:YAC)=>
 if (text1 && ((decide ((f1.length:Int)=0)) || (!decide (x5.Char=10)))) then (
 some 11
 ) else (
 some 0
 )
noncomputable def YBk (d1:List YAB) (x2:Int) (w2:YAE):Option ((Int × YAE) ⊕ (Ctl YAE ((List YAB) × Int))):=
 if (decide (x2<(d1.length:Int))) then (
 ctl1 (
 bnd1 (idx d1 x2) fun (x5:YAB)=>
 bnd1 (YFI x5) fun (e1:Int)=>
 bnd1 (
 if ((((decide (x5.Kind=1)) && (decide ((x5.Elems.length:Int)=0))) && (decide (e1=11))) || (((!decide (x5.Kind=1)) && (decide (x5.N=0))) && (decide (e1=2)))) then (
 bnd1 (YBA x5.Attrs) fun (e3:Int)=>
 some e3
 ) else (
 some e1
 )
 ) fun (e2:Int)=>
 if (!decide (e2=0)) then (
 some (.ext (.inr (.ext ([],e2))))
 ) else (
 if (decide (x5.Kind=0)) then (
 bnd1 (YCT w2 x5.N x5.Attrs) fun (w7:YAE)=>
 some (.nrm w7)
 ) else (
 if (decide (x5.Kind=1)) then (
 bnd1 (YCB w2 x5.Elems) fun (w8:YAE)=>
 some (.nrm w8)
 ) else (
 bnd1 (chk .i64 (w2.cut+x5.N)) fun (x6:Int)=>
 if (decide (2147483647<x6)) then (
 some (.ext (.inr (.ext ([],3))))
 ) else (
 some (.nrm (YAE.mk w2.out w2.add x6))
 )
 )
 )
 )
 ) fun (w6:YAE)=>
 bnd1 (chk .i64 (x2+1)) fun (x4:Int)=>
 some (.inl (x4,w6))
 ) else (
 some (.inr (.nrm w2))
 )
noncomputable def YEY (d1:List YAB):Option ((List YAB) × Int):=
 ctl1 (iter (fun (a:Int × YAE)=>YBk d1 a.1 a.2) (0,(YAE.mk [] [] 0))) fun (w4:YAE)=>
 bnd3 (YBo w4) fun (r1:List YAB) (r2:Int) (w5:YAE)=>
 some (r1,r2)
noncomputable def YBe (f1:List YAC) (text1:Bool) (x2:Int):Option (Int ⊕ (Ctl Unit Int)):=
 if (decide (x2<(f1.length:Int))) then (
 bnd1 (idx f1 x2) fun (x6:YAC)=>
 bnd1 (YD9 x6) fun (e1:Int)=>
 if (!decide (e1=0)) then (
 some (.inr (.ext e1))
 ) else (
 if ((!text1) && (!decide (x6.Char=0))) then (
 some (.inr (.ext 8))
 ) else (
 bnd1 (chk .i64 (x2+1)) fun (x7:Int)=>
 some (.inl x7)
 )
 )
 ) else (
 some (.inr (.nrm ()))
 )
noncomputable def YB8 (f1:List YAC) (text1:Bool):Option (Int):=
 ctl1 (iter (fun (a:Int)=>YBe f1 text1 a) 0) fun (u2:Unit)=>
 bnd1 (gd ((text1 == true) && ((decide ((f1.length:Int)=0)) == false)) (chk .i64 ((f1.length:Int)-1))) fun (x4:Int)=>
 bnd1 (gd ((text1 == true) && ((decide ((f1.length:Int)=0)) == false)) (idx f1 x4)) fun (x5:YAC)=>
 if (text1 && ((decide ((f1.length:Int)=0)) || (!decide (x5.Char=10)))) then (
 some 11
 ) else (
 some 0
 )
end Go.Proofs.YtdafahjmopdleaaGreatDoor.Al


namespace Go.Proofs.YtdafahjmopdleaaGreatDoor.Al
structure YBB where
 lo:Int
 hi:Int
deriving DecidableEq
instance:Inhabited YBB:=⟨⟨0,0⟩⟩
@[reducible] def YBB.row (x:YBB):List RV:=[.int .u8 x.lo,.int .u8 x.hi]
noncomputable def YIM:List YBB:=YDk.map fun p=>YBB.mk p.1 p.2
noncomputable def YAg (s1:List UInt8):Option (Int × Int):=
 if (decide ((s1.length:Int)<1)) then (
 some (65533,0)
 ) else (
 bnd1 (idx s1 0) fun (s01:UInt8)=>
 bnd1 (idx YDc (s01.toNat:Int)) fun (x1:Int)=>
 if (decide (240≤x1)) then (
 some ((bOr .i32 (YLT .i32 (IntKind.i32.wrap (s01.toNat:Int)) (shrC .i32 (shlC .i32 (IntKind.i32.wrap x1) 31) 31)) (bAnd .i32 65533 (shrC .i32 (shlC .i32 (IntKind.i32.wrap x1) 31) 31))),1)
 ) else (
 bnd1 (idx YIM (shrC .u8 x1 4)) fun (x2:YBB)=>
 if (decide ((s1.length:Int)<(IntKind.i64.wrap (bAnd .u8 x1 7)))) then (
 some (65533,1)
 ) else (
 bnd1 (idx s1 1) fun (s11:UInt8)=>
 if ((decide ((s11.toNat:Int)<x2.lo)) || (decide (x2.hi<(s11.toNat:Int)))) then (
 some (65533,1)
 ) else (
 if (decide ((IntKind.i64.wrap (bAnd .u8 x1 7))≤2)) then (
 some ((bOr .i32 (shlC .i32 (IntKind.i32.wrap (bAnd .u8 (s01.toNat:Int) 31)) 6) (IntKind.i32.wrap (bAnd .u8 (s11.toNat:Int) 63))),2)
 ) else (
 bnd1 (idx s1 2) fun (s21:UInt8)=>
 if ((decide ((s21.toNat:Int)<128)) || (decide (191<(s21.toNat:Int)))) then (
 some (65533,1)
 ) else (
 if (decide ((IntKind.i64.wrap (bAnd .u8 x1 7))≤3)) then (
 some ((bOr .i32 (bOr .i32 (shlC .i32 (IntKind.i32.wrap (bAnd .u8 (s01.toNat:Int) 15)) 12) (shlC .i32 (IntKind.i32.wrap (bAnd .u8 (s11.toNat:Int) 63)) 6)) (IntKind.i32.wrap (bAnd .u8 (s21.toNat:Int) 63))),3)
 ) else (
 bnd1 (idx s1 3) fun (s31:UInt8)=>
 if ((decide ((s31.toNat:Int)<128)) || (decide (191<(s31.toNat:Int)))) then (
 some (65533,1)
 ) else (
 some ((bOr .i32 (bOr .i32 (bOr .i32 (shlC .i32 (IntKind.i32.wrap (bAnd .u8 (s01.toNat:Int) 7)) 18) (shlC .i32 (IntKind.i32.wrap (bAnd .u8 (s11.toNat:Int) 63)) 12)) (shlC .i32 (IntKind.i32.wrap (bAnd .u8 (s21.toNat:Int) 63)) 6)) (IntKind.i32.wrap (bAnd .u8 (s31.toNat:Int) 63))),4)
 )
 )
 )
 )
 )
 )
 )
 )
noncomputable def YAp (s1:List UInt8):Option (Int × Int):=
 bnd1 (gd ((!decide (s1=[])) == true) (idx s1 0)) fun (ch1:UInt8)=>
 if ((!decide (s1=[])) && (decide ((ch1.toNat:Int)<128))) then (
 bnd1 (idx s1 0) fun (ch2:UInt8)=>
 some ((IntKind.i32.wrap (ch2.toNat:Int)),1)
 ) else (
 bnd2 (YAg s1) fun (r1:Int) (r2:Int)=>
 some (r1,r2)
 )
end Go.Proofs.YtdafahjmopdleaaGreatDoor.Al


namespace Go.Proofs.YtdafahjmopdleaaGreatDoor.Al
noncomputable def YHG (a1:List YAC) (b1:List YAC) (x2:Int):Option (Int ⊕ (Ctl Unit Bool)):=
 if (decide (x2<(a1.length:Int))) then (
 bnd1 (idx a1 x2) fun (x4:YAC)=>
 bnd1 (idx b1 x2) fun (x5:YAC)=>
 bnd1 (gd (((!decide (x4.Char=x5.Char)) || (!decide (x4.Ref=x5.Ref))) == false) (YDE x4.Attrs x5.Attrs)) fun (r1:Bool)=>
 if (((!decide (x4.Char=x5.Char)) || (!decide (x4.Ref=x5.Ref))) || (!r1)) then (
 some (.inr (.ext false))
 ) else (
 bnd1 (chk .i64 (x2+1)) fun (x6:Int)=>
 some (.inl x6)
 )
 ) else (
 some (.inr (.nrm ()))
 )
noncomputable def YLI (a1:List YAC) (b1:List YAC):Option (Bool):=
 if (!decide ((a1.length:Int)=(b1.length:Int))) then (
 some false
 ) else (
 ctl1 (iter (fun (a:Int)=>YHG a1 b1 a) 0) fun (u2:Unit)=>
 some true
 )
noncomputable def YCU (f1:List YAC) (x2:Int) (out2:List Int):Option ((Int × (List Int)) ⊕ (List Int)):=
 if (decide (x2<(f1.length:Int))) then (
 bnd1 (
 bnd1 (idx f1 x2) fun (x5:YAC)=>
 if (!decide (x5.Ref=0)) then (
 bnd1 (app 8 out2 [x5.Ref]) fun (out6:List Int)=>
 some out6
 ) else (
 some out2
 )
 ) fun (out5:List Int)=>
 bnd1 (chk .i64 (x2+1)) fun (x4:Int)=>
 some (.inl (x4,out5))
 ) else (
 some (.inr out2)
 )
noncomputable def YOW (f1:List YAC):Option ((List Int)):=
 bnd1 (iter (fun (a:Int × (List Int))=>YCU f1 a.1 a.2) (0,[])) fun (out4:List Int)=>
 some out4
end Go.Proofs.YtdafahjmopdleaaGreatDoor.Al


namespace Go.Proofs.YtdafahjmopdleaaGreatDoor.Al
end Go.Proofs.YtdafahjmopdleaaGreatDoor.Al


namespace Go.Proofs.YtdafahjmopdleaaGreatDoor.Al
structure GDoc where
 Nodes:List YAP
deriving DecidableEq
instance:Inhabited GDoc:=⟨⟨[]⟩⟩
@[reducible] def GDoc.row (x:GDoc):List RV:=[.sl (x.Nodes.map YAP.row)]
noncomputable def YEG (kind1:Int):Option (Bool):=
 some ((((decide (kind1=1)) || (decide (kind1=3))) || (decide (kind1=4))) || (decide (kind1=12)))
noncomputable def YHI (kind1:Int):Option (Bool):=
 some ((decide (kind1=0)) || (decide (kind1=7)))
noncomputable def YHK (kind1:Int):Option (Bool):=
 some ((decide (kind1=2)) || (decide (kind1=6)))
noncomputable def YAl (s11:List YAX) (s21:List YAX) (x2:Int):Option (Int ⊕ (Ctl Unit Bool)):=
 if (decide (x2<(s11.length:Int))) then (
 bnd1 (idx s11 x2) fun (x4:YAX)=>
 bnd1 (idx s21 x2) fun (x5:YAX)=>
 if (!(decide (x4.Row=x5.Row) && (decide (x4.Col=x5.Col) && (decide (x4.H=x5.H) && (decide (x4.W=x5.W) && true))))) then (
 some (.inr (.ext false))
 ) else (
 bnd1 (chk .i64 (x2+1)) fun (x6:Int)=>
 some (.inl x6)
 )
 ) else (
 some (.inr (.nrm ()))
 )
noncomputable def YAs (s11:List YAX) (s21:List YAX):Option (Bool):=
 if (!decide ((s11.length:Int)=(s21.length:Int))) then (
 some false
 ) else (
 ctl1 (iter (fun (a:Int)=>YAl s11 s21 a) 0) fun (u2:Unit)=>
 some true
 )
noncomputable def YEE (a1:YAY) (b1:YAY):Option (Bool):=
 bnd1 (gd (((((decide (a1.Row=b1.Row)) && (decide (a1.Col=b1.Col))) && (decide (a1.Text=b1.Text))) && (decide (a1.Ref=b1.Ref))) == true) (YDE a1.Attrs b1.Attrs)) fun (r1:Bool)=>
 some (((((decide (a1.Row=b1.Row)) && (decide (a1.Col=b1.Col))) && (decide (a1.Text=b1.Text))) && (decide (a1.Ref=b1.Ref))) && r1)
noncomputable def YAJ (s11:List YAY) (s21:List YAY) (x2:Int):Option (Int ⊕ (Ctl Unit Bool)):=
 if (decide (x2<(s11.length:Int))) then (
 bnd1 (idx s11 x2) fun (x4:YAY)=>
 bnd1 (idx s21 x2) fun (x5:YAY)=>
 bnd1 (YEE x4 x5) fun (r1:Bool)=>
 if (!r1) then (
 some (.inr (.ext false))
 ) else (
 bnd1 (chk .i64 (x2+1)) fun (x6:Int)=>
 some (.inl x6)
 )
 ) else (
 some (.inr (.nrm ()))
 )
noncomputable def YAK (s11:List YAY) (s21:List YAY):Option (Bool):=
 if (!decide ((s11.length:Int)=(s21.length:Int))) then (
 some false
 ) else (
 ctl1 (iter (fun (a:Int)=>YAJ s11 s21 a) 0) fun (u2:Unit)=>
 some true
 )
noncomputable def YGE (a1:YAy) (b1:YAy):Option (Bool):=
 bnd1 (gd (((decide (a1.Rows=b1.Rows)) && (decide (a1.Cols=b1.Cols))) == true) (YAs a1.Merges b1.Merges)) fun (r1:Bool)=>
 bnd1 (gd ((((decide (a1.Rows=b1.Rows)) && (decide (a1.Cols=b1.Cols))) && r1) == true) (YAK a1.Cells b1.Cells)) fun (r2:Bool)=>
 some ((((decide (a1.Rows=b1.Rows)) && (decide (a1.Cols=b1.Cols))) && r1) && r2)
noncomputable def YFa (kind1:Int):Option (Bool):=
 some (((decide (kind1=8)) || (decide (kind1=9))) || (decide (kind1=10)))
noncomputable def YA6 (s3:List UInt8):Option ((List UInt8) ⊕ (Ctl Unit Bool)):=
 if (!decide (s3=[])) then (
 bnd2 (YAp s3) fun (r1:Int) (r2:Int)=>
 bnd1 (gd ((((decide (r1=65533)) && (decide (r2=1))) || (decide (r1=10))) == false) (YGH (IntKind.i64.wrap r1))) fun (r3:Bool)=>
 if ((((decide (r1=65533)) && (decide (r2=1))) || (decide (r1=10))) || (!r3)) then (
 some (.inr (.ext false))
 ) else (
 bnd1 (slc s3 r2 (s3.length:Int)) fun (s5:List UInt8)=>
 some (.inl s5)
 )
 ) else (
 some (.inr (.nrm ()))
 )
noncomputable def YHD (s1:List UInt8):Option (Bool):=
 ctl1 (iter (fun (a:(List UInt8))=>YA6 a) s1) fun (u2:Unit)=>
 some true
noncomputable def YGC (c1:YAY):Option (Bool):=
 some (((decide (c1.Text=[])) && (decide (c1.Ref=0))) && (decide ((c1.Attrs.length:Int)=0)))
noncomputable def YEJ (x1:Int):Option (Bool):=
 some (!decide (x1=x1))
noncomputable def YBX (x1:Int) (y1:Int):Option (Int):=
 bnd1 (YEJ x1) fun (xNaN1:Bool)=>
 bnd1 (YEJ y1) fun (yNaN1:Bool)=>
 if xNaN1 then (
 if yNaN1 then (
 some 0
 ) else (
 some (-1)
 )
 ) else (
 if yNaN1 then (
 some 1
 ) else (
 if (decide (x1<y1)) then (
 some (-1)
 ) else (
 if (decide (y1<x1)) then (
 some 1
 ) else (
 some 0
 )
 )
 )
 )
noncomputable def YAk (vals1:List Int) (x2:Int):Option (Int ⊕ (Ctl Unit Int)):=
 if (decide (x2<(vals1.length:Int))) then (
 bnd1 (idx vals1 x2) fun (x4:Int)=>
 if (!decide (x4=0)) then (
 some (.inr (.ext x4))
 ) else (
 bnd1 (chk .i64 (x2+1)) fun (x5:Int)=>
 some (.inl x5)
 )
 ) else (
 some (.inr (.nrm ()))
 )
noncomputable def YFJ (vals1:List Int):Option (Int):=
 ctl1 (iter (fun (a:Int)=>YAk vals1 a) 0) fun (u2:Unit)=>
 some 0
noncomputable def YFH (a1:YAY) (b1:YAY):Option (Int):=
 bnd1 (YBX a1.Row b1.Row) fun (r1:Int)=>
 bnd1 (YBX a1.Col b1.Col) fun (r2:Int)=>
 bnd1 (YFJ [r1,r2]) fun (r3:Int)=>
 some r3
noncomputable def YED (l1:List YAY) (rows1:Int) (cols1:Int) (none1:Bool) (x2:Int):Option (Int ⊕ (Ctl Unit Int)):=
 if (decide (x2<(l1.length:Int))) then (
 bnd1 (idx l1 x2) fun (x4:YAY)=>
 if ((((decide (x4.Row<0)) || (decide (rows1≤x4.Row))) || (decide (x4.Col<0))) || (decide (cols1≤x4.Col))) then (
 some (.inr (.ext 2))
 ) else (
 if ((decide (x4.Ref<0)) || (decide (1073741824<x4.Ref))) then (
 some (.inr (.ext 2))
 ) else (
 bnd1 (YHD x4.Text) fun (r1:Bool)=>
 if (!r1) then (
 some (.inr (.ext 23))
 ) else (
 bnd1 (YEZ x4.Attrs) fun (e1:Int)=>
 if (!decide (e1=0)) then (
 some (.inr (.ext e1))
 ) else (
 bnd1 (YGC x4) fun (r2:Bool)=>
 if (r2 && (!none1)) then (
 some (.inr (.ext 4))
 ) else (
 bnd1 (gd ((decide (0<x2)) == true) (chk .i64 (x2-1))) fun (x5:Int)=>
 bnd1 (gd ((decide (0<x2)) == true) (idx l1 x5)) fun (x6:YAY)=>
 bnd1 (gd ((decide (0<x2)) == true) (YFH x6 x4)) fun (r3:Int)=>
 if ((decide (0<x2)) && (decide (0≤r3))) then (
 some (.inr (.ext 5))
 ) else (
 bnd1 (chk .i64 (x2+1)) fun (x7:Int)=>
 some (.inl x7)
 )
 )
 )
 )
 )
 )
 ) else (
 some (.inr (.nrm ()))
 )
noncomputable def YGD (l1:List YAY) (rows1:Int) (cols1:Int) (none1:Bool):Option (Int):=
 ctl1 (iter (fun (a:Int)=>YED l1 rows1 cols1 none1 a) 0) fun (u2:Unit)=>
 some 0
noncomputable def YFW (r1:YAX) (rows1:Int) (cols1:Int):Option (Bool):=
 bnd1 (gd (((((((decide (0≤r1.Row)) && (decide (0≤r1.Col))) && (decide (1≤r1.H))) && (decide (1≤r1.W))) && (decide (r1.Row<rows1))) && (decide (r1.Col<cols1))) == true) (chk .i64 (rows1-r1.Row))) fun (x1:Int)=>
 bnd1 (gd ((((((((decide (0≤r1.Row)) && (decide (0≤r1.Col))) && (decide (1≤r1.H))) && (decide (1≤r1.W))) && (decide (r1.Row<rows1))) && (decide (r1.Col<cols1))) && (decide (r1.H≤x1))) == true) (chk .i64 (cols1-r1.Col))) fun (x2:Int)=>
 some ((((((((decide (0≤r1.Row)) && (decide (0≤r1.Col))) && (decide (1≤r1.H))) && (decide (1≤r1.W))) && (decide (r1.Row<rows1))) && (decide (r1.Col<cols1))) && (decide (r1.H≤x1))) && (decide (r1.W≤x2)))
noncomputable def YFX (a1:YAX) (b1:YAX):Option (Bool):=
 some ((decide (a1.Row<b1.Row)) || ((decide (a1.Row=b1.Row)) && (decide (a1.Col<b1.Col))))
noncomputable def YGB (a1:YAX) (b1:YAX):Option (Bool):=
 bnd1 (chk .i64 (b1.Row+b1.H)) fun (x1:Int)=>
 bnd1 (gd ((decide (a1.Row<x1)) == true) (chk .i64 (a1.Row+a1.H))) fun (x2:Int)=>
 bnd1 (gd (((decide (a1.Row<x1)) && (decide (b1.Row<x2))) == true) (chk .i64 (b1.Col+b1.W))) fun (x3:Int)=>
 bnd1 (gd ((((decide (a1.Row<x1)) && (decide (b1.Row<x2))) && (decide (a1.Col<x3))) == true) (chk .i64 (a1.Col+a1.W))) fun (x4:Int)=>
 some ((((decide (a1.Row<x1)) && (decide (b1.Row<x2))) && (decide (a1.Col<x3))) && (decide (b1.Col<x4)))
noncomputable def YFD (w1:YAX) (q1:YAX):Option (Bool):=
 bnd1 (YGB q1 w1) fun (r1:Bool)=>
 some r1
noncomputable def YAU (w1:YAX) (s1:List YAX) (x2:Int):Option (Int ⊕ (Ctl Unit Int)):=
 if (decide (x2<(s1.length:Int))) then (
 bnd1 (idx s1 x2) fun (x4:YAX)=>
 bnd1 (YFD w1 x4) fun (r1:Bool)=>
 if r1 then (
 some (.inr (.ext x2))
 ) else (
 bnd1 (chk .i64 (x2+1)) fun (x5:Int)=>
 some (.inl x5)
 )
 ) else (
 some (.inr (.nrm ()))
 )
noncomputable def YAd (w1:YAX) (s1:List YAX):Option (Int):=
 ctl1 (iter (fun (a:Int)=>YAU w1 s1 a) 0) fun (u2:Unit)=>
 some (-1)
noncomputable def YAO (w1:YAX) (s1:List YAX):Option (Bool):=
 bnd1 (YAd w1 s1) fun (r1:Int)=>
 some (decide (0≤r1))
noncomputable def YEF (g1:YAy) (x2:Int):Option (Int ⊕ (Ctl Unit Int)):=
 if (decide (x2<(g1.Merges.length:Int))) then (
 bnd1 (idx g1.Merges x2) fun (x4:YAX)=>
 bnd1 (YFW x4 g1.Rows g1.Cols) fun (r1:Bool)=>
 if (!r1) then (
 some (.inr (.ext 2))
 ) else (
 if ((decide (x4.H=1)) && (decide (x4.W=1))) then (
 some (.inr (.ext 4))
 ) else (
 bnd1 (gd ((decide (0<x2)) == true) (chk .i64 (x2-1))) fun (x5:Int)=>
 bnd1 (gd ((decide (0<x2)) == true) (idx g1.Merges x5)) fun (x6:YAX)=>
 bnd1 (gd ((decide (0<x2)) == true) (YFX x6 x4)) fun (r2:Bool)=>
 if ((decide (0<x2)) && (!r2)) then (
 some (.inr (.ext 5))
 ) else (
 bnd1 (slc g1.Merges 0 x2) fun (l1:List YAX)=>
 bnd1 (YAO x4 l1) fun (r3:Bool)=>
 if r3 then (
 some (.inr (.ext 21))
 ) else (
 bnd1 (chk .i64 (x2+1)) fun (x7:Int)=>
 some (.inl x7)
 )
 )
 )
 )
 ) else (
 some (.inr (.nrm ()))
 )
noncomputable def YGF (g1:YAy):Option (Int):=
 if ((((decide (g1.Rows<0)) || (decide (2147483647<g1.Rows))) || (decide (g1.Cols<0))) || (decide (2147483647<g1.Cols))) then (
 some 2
 ) else (
 bnd1 (YGD g1.Cells g1.Rows g1.Cols false) fun (e1:Int)=>
 if (!decide (e1=0)) then (
 some e1
 ) else (
 ctl1 (iter (fun (a:Int)=>YEF g1 a) 0) fun (u2:Unit)=>
 some 0
 )
 )
noncomputable def YCS (kind1:Int) (l1:List YAY) (x2:Int):Option (Int ⊕ (Ctl Unit Int)):=
 if (decide (x2<(l1.length:Int))) then (
 bnd1 (idx l1 x2) fun (x4:YAY)=>
 if (((decide (kind1=2)) && ((!decide (x4.Text=[])) || (decide (0<(x4.Attrs.length:Int))))) || ((decide (kind1=6)) && (!decide (x4.Ref=0)))) then (
 some (.inr (.ext 4))
 ) else (
 bnd1 (chk .i64 (x2+1)) fun (x5:Int)=>
 some (.inl x5)
 )
 ) else (
 some (.inr (.nrm ()))
 )
noncomputable def YDZ (kind1:Int) (l1:List YAY):Option (Int):=
 ctl1 (iter (fun (a:Int)=>YCS kind1 l1 a) 0) fun (u2:Unit)=>
 some 0
noncomputable def YDd (s1:List UInt8) (x3:Int):Option (Int ⊕ (Ctl Unit Bool)):=
 if (decide (x3<(s1.length:Int))) then (
 bnd1 (idx s1 x3) fun (ch2:UInt8)=>
 if ((decide ((ch2.toNat:Int)<97)) || (decide (122<(ch2.toNat:Int)))) then (
 some (.inr (.ext false))
 ) else (
 bnd1 (chk .i64 (x3+1)) fun (x5:Int)=>
 some (.inl x5)
 )
 ) else (
 some (.inr (.nrm ()))
 )
noncomputable def YD1 (s1:List UInt8):Option (Bool):=
 bnd1 (gd (((decide (s1=[])) || (decide (200<(s1.length:Int)))) == false) (chk .i64 ((s1.length:Int)-1))) fun (x1:Int)=>
 bnd1 (gd (((decide (s1=[])) || (decide (200<(s1.length:Int)))) == false) (idx s1 x1)) fun (ch1:UInt8)=>
 if (((decide (s1=[])) || (decide (200<(s1.length:Int)))) || (decide ((ch1.toNat:Int)=97))) then (
 some false
 ) else (
 ctl1 (iter (fun (a:Int)=>YDd s1 a) 0) fun (u2:Unit)=>
 some true
 )
noncomputable def YF1 (o1:YAN):Option (Int):=
 if ((!decide (o1.Kind=0)) && (!decide (o1.Kind=1))) then (
 some 8
 ) else (
 if ((((((decide (o1.Clock<1)) || (decide (1073741824<o1.Clock))) || (decide (o1.Site<0))) || (decide (1000<o1.Site))) || (decide (o1.Item<1))) || (decide (1073741824<o1.Item))) then (
 some 2
 ) else (
 bnd1 (
 if ((decide (o1.Kind=0)) && ((!decide (o1.Name=[])) || (!decide (o1.Value=[])))) then (
 some ((decide (o1.Kind=0)) && ((!decide (o1.Name=[])) || (!decide (o1.Value=[]))))
 ) else (
 some ((decide (o1.Kind=1)) && ((!decide (o1.Parent=0)) || (!decide (o1.Place=[]))))
 )
 ) fun (x1:Bool)=>
 if x1 then (
 some 4
 ) else (
 if ((decide (o1.Kind=0)) && ((decide (o1.Parent<(-1))) || (decide (1073741824<o1.Parent)))) then (
 some 2
 ) else (
 bnd1 (gd ((decide (o1.Kind=0)) == true) (YD1 o1.Place)) fun (r1:Bool)=>
 bnd1 (
 if ((decide (o1.Kind=0)) && (!r1)) then (
 some ((decide (o1.Kind=0)) && (!r1))
 ) else (
 bnd1 (gd ((decide (o1.Kind=1)) == true) (YGJ o1.Name)) fun (r3:Bool)=>
 some ((decide (o1.Kind=1)) && (!r3))
 )
 ) fun (x2:Bool)=>
 if x2 then (
 some 9
 ) else (
 bnd1 (gd (((decide (o1.Kind=1)) && (!decide (o1.Value=[]))) == true) (YDs o1.Value)) fun (r2:Bool)=>
 if (((decide (o1.Kind=1)) && (!decide (o1.Value=[]))) && (!r2)) then (
 some 23
 ) else (
 some 0
 )
 )
 )
 )
 )
 )
noncomputable def YDV (a1:YAN) (b1:YAN):Option (Int):=
 bnd1 (YBX a1.Clock b1.Clock) fun (r1:Int)=>
 bnd1 (YBX a1.Site b1.Site) fun (r2:Int)=>
 bnd1 (YFJ [r1,r2]) fun (r3:Int)=>
 some r3
noncomputable def YCk (l1:List YAN) (x2:Int):Option (Int ⊕ (Ctl Unit Int)):=
 if (decide (x2<(l1.length:Int))) then (
 bnd1 (idx l1 x2) fun (x4:YAN)=>
 bnd1 (YF1 x4) fun (e1:Int)=>
 if (!decide (e1=0)) then (
 some (.inr (.ext e1))
 ) else (
 bnd1 (gd ((decide (0<x2)) == true) (chk .i64 (x2-1))) fun (x5:Int)=>
 bnd1 (gd ((decide (0<x2)) == true) (idx l1 x5)) fun (x6:YAN)=>
 bnd1 (gd ((decide (0<x2)) == true) (YDV x6 x4)) fun (r1:Int)=>
 if ((decide (0<x2)) && (decide (0≤r1))) then (
 some (.inr (.ext 5))
 ) else (
 bnd1 (chk .i64 (x2+1)) fun (x7:Int)=>
 some (.inl x7)
 )
 )
 ) else (
 some (.inr (.nrm ()))
 )
noncomputable def YD2 (l1:List YAN):Option (Int):=
 ctl1 (iter (fun (a:Int)=>YCk l1 a) 0) fun (u2:Unit)=>
 some 0
noncomputable def YBL (n1:YAP):Option (Int):=
 if ((decide (n1.ID<1)) || (decide (1073741824<n1.ID))) then (
 some 2
 ) else (
 if (((decide (n1.Kind<0)) || (decide (13≤n1.Kind))) || (!((decide (n1.ID=1)) == (decide (n1.Kind=0))))) then (
 some 8
 ) else (
 bnd1 (YEZ n1.Attrs) fun (e1:Int)=>
 if (!decide (e1=0)) then (
 some e1
 ) else (
 bnd1 (YEG n1.Kind) fun (r1:Bool)=>
 bnd1 (gd (r1 == false) (YHI n1.Kind)) fun (r2:Bool)=>
 bnd1 (YHK n1.Kind) fun (grids1:Bool)=>
 bnd1 (
 if (((!(r1 || r2)) && (decide (0<(n1.Flow.length:Int)))) == false) then (
 if ((!grids1) == true) then (
 bnd1 (YGE n1.Grid (YAy.mk 0 0 [] [])) fun (r7:Bool)=>
 bnd1 (gd ((((!(r1 || r2)) && (decide (0<(n1.Flow.length:Int)))) || ((!grids1) && (!r7))) == false) (YFa n1.Kind)) fun (r8:Bool)=>
 some ((((!(r1 || r2)) && (decide (0<(n1.Flow.length:Int)))) || ((!grids1) && (!r7))) || ((!r8) && (decide (0<(n1.Draw.length:Int)))))
 ) else (
 bnd1 (gd ((((!(r1 || r2)) && (decide (0<(n1.Flow.length:Int)))) || ((!grids1) && false)) == false) (YFa n1.Kind)) fun (r9:Bool)=>
 some ((((!(r1 || r2)) && (decide (0<(n1.Flow.length:Int)))) || ((!grids1) && false)) || ((!r9) && (decide (0<(n1.Draw.length:Int)))))
 )
 ) else (
 bnd1 (gd ((((!(r1 || r2)) && (decide (0<(n1.Flow.length:Int)))) || false) == false) (YFa n1.Kind)) fun (r10:Bool)=>
 some ((((!(r1 || r2)) && (decide (0<(n1.Flow.length:Int)))) || false) || ((!r10) && (decide (0<(n1.Draw.length:Int)))))
 )
 ) fun (x1:Bool)=>
 if x1 then (
 some 4
 ) else (
 if (r1 || r2) then (
 bnd1 (YDp n1.Flow r1) fun (r4:Int)=>
 some r4
 ) else (
 if grids1 then (
 bnd1 (YGF n1.Grid) fun (e2:Int)=>
 if (!decide (e2=0)) then (
 some e2
 ) else (
 bnd1 (YDZ n1.Kind n1.Grid.Cells) fun (r5:Int)=>
 some r5
 )
 ) else (
 bnd1 (YD2 n1.Draw) fun (r6:Int)=>
 some r6
 )
 )
 )
 )
 )
 )
noncomputable def YBH (f1:List YAC) (x2:Int) (out2:List Int):Option ((Int × (List Int)) ⊕ (List Int)):=
 if (decide (x2<(f1.length:Int))) then (
 bnd1 (
 bnd1 (idx f1 x2) fun (x5:YAC)=>
 if (!decide (x5.Ref=0)) then (
 bnd1 (app 8 out2 [x5.Ref]) fun (out6:List Int)=>
 some out6
 ) else (
 some out2
 )
 ) fun (out5:List Int)=>
 bnd1 (chk .i64 (x2+1)) fun (x4:Int)=>
 some (.inl (x4,out5))
 ) else (
 some (.inr out2)
 )
noncomputable def YFY (f1:List YAC):Option ((List Int)):=
 bnd1 (iter (fun (a:Int × (List Int))=>YBH f1 a.1 a.2) (0,[])) fun (out4:List Int)=>
 some out4
noncomputable def YCF (n1:YAP) (x2:Int) (out2:List Int):Option ((Int × (List Int)) ⊕ (List Int)):=
 if (decide (x2<(n1.Grid.Cells.length:Int))) then (
 bnd1 (
 bnd1 (idx n1.Grid.Cells x2) fun (x5:YAY)=>
 if (!decide (x5.Ref=0)) then (
 bnd1 (app 8 out2 [x5.Ref]) fun (out6:List Int)=>
 some out6
 ) else (
 some out2
 )
 ) fun (out5:List Int)=>
 bnd1 (chk .i64 (x2+1)) fun (x4:Int)=>
 some (.inl (x4,out5))
 ) else (
 some (.inr out2)
 )
noncomputable def YGX (n1:YAP):Option ((List Int)):=
 bnd1 (YFY n1.Flow) fun (w1:List Int)=>
 bnd1 (iter (fun (a:Int × (List Int))=>YCF n1 a.1 a.2) (0,w1)) fun (out4:List Int)=>
 some out4
noncomputable def YEX (n1:YAP) (id1:Int):Option (Int):=
 if (decide (n1.ID<id1)) then (
 some (-1)
 ) else (
 if (decide (id1<n1.ID)) then (
 some 1
 ) else (
 some 0
 )
 )
noncomputable def YAI (x1:List YAP) (target1:Int) (i4:Int) (j2:Int):Option ((Int × Int) ⊕ Int):=
 if (decide (i4<j2)) then (
 bnd1 (chk .i64 (i4+j2)) fun (x3:Int)=>
 bnd1 (idx x1 (IntKind.i64.wrap (shrC .u64 (IntKind.u64.wrap x3) 1))) fun (x4:YAP)=>
 bnd1 (YEX x4 target1) fun (r2:Int)=>
 if (decide (r2<0)) then (
 bnd1 (chk .i64 ((IntKind.i64.wrap (shrC .u64 (IntKind.u64.wrap x3) 1))+1)) fun (i10:Int)=>
 some (.inl (i10,j2))
 ) else (
 some (.inl (i4,(IntKind.i64.wrap (shrC .u64 (IntKind.u64.wrap x3) 1))))
 )
 ) else (
 some (.inr i4)
 )
noncomputable def YAV (x1:List YAP) (target1:Int):Option (Int × Bool):=
 bnd1 (iter (fun (a:Int × Int)=>YAI x1 target1 a.1 a.2) (0,(x1.length:Int))) fun (i8:Int)=>
 bnd1 (gd ((decide (i8<(x1.length:Int))) == true) (idx x1 i8)) fun (x2:YAP)=>
 bnd1 (gd ((decide (i8<(x1.length:Int))) == true) (YEX x2 target1)) fun (r1:Int)=>
 some (i8,((decide (i8<(x1.length:Int))) && (decide (r1=0))))
noncomputable def YHZ (d1:GDoc) (id1:Int):Option (Int × Bool):=
 bnd2 (YAV d1.Nodes id1) fun (r1:Int) (r2:Bool)=>
 some (r1,r2)
noncomputable def YBJ (s1:List Int) (v1:Int) (x2:Int):Option (Int ⊕ (Ctl Unit Int)):=
 if (decide (x2<(s1.length:Int))) then (
 bnd1 (idx s1 x2) fun (x4:Int)=>
 if (decide (v1=x4)) then (
 some (.inr (.ext x2))
 ) else (
 bnd1 (chk .i64 (x2+1)) fun (x5:Int)=>
 some (.inl x5)
 )
 ) else (
 some (.inr (.nrm ()))
 )
noncomputable def YCK (s1:List Int) (v1:Int):Option (Int):=
 ctl1 (iter (fun (a:Int)=>YBJ s1 v1 a) 0) fun (u2:Unit)=>
 some (-1)
noncomputable def YA2 (s1:List Int) (v1:Int):Option (Bool):=
 bnd1 (YCK s1 v1) fun (r1:Int)=>
 some (decide (0≤r1))
noncomputable def YEH (parent1:Int) (kid1:Int):Option (Bool):=
 bnd1 (
 if (decide (parent1=0)) then (
 some [1,6,7,10,11,12]
 ) else (
 if (decide (parent1=1)) then (
 some [2,4,5,10]
 ) else (
 if (decide (parent1=3)) then (
 some [4,5,10]
 ) else (
 bnd1 (
 if (decide (parent1=4)) then (
 some (decide (parent1=4))
 ) else (
 some (decide (parent1=12))
 )
 ) fun (x1:Bool)=>
 if x1 then (
 some [5]
 ) else (
 if (decide (parent1=2)) then (
 some [3]
 ) else (
 if (decide (parent1=7)) then (
 some [8,9]
 ) else (
 some []
 )
 )
 )
 )
 )
 )
 ) fun (l1:List Int)=>
 bnd1 (YA2 l1 kid1) fun (r1:Bool)=>
 some r1
noncomputable def YB1 (d1:GDoc) (kind1:Int) (YDv:List Int) (x2:Int):Option (Int ⊕ (Ctl Unit Int)):=
 if (decide (x2<(YDv.length:Int))) then (
 bnd1 (idx YDv x2) fun (x4:Int)=>
 bnd2 (YHZ d1 x4) fun (r1:Int) (r2:Bool)=>
 if (!r2) then (
 some (.inr (.ext 7))
 ) else (
 bnd1 (idx d1.Nodes r1) fun (x5:YAP)=>
 bnd1 (YEH kind1 x5.Kind) fun (r3:Bool)=>
 if (!r3) then (
 some (.inr (.ext 8))
 ) else (
 bnd1 (chk .i64 (x2+1)) fun (x6:Int)=>
 some (.inl x6)
 )
 )
 ) else (
 some (.inr (.nrm ()))
 )
noncomputable def YEI (d1:GDoc) (kind1:Int) (YDv:List Int):Option (Int):=
 ctl1 (iter (fun (a:Int)=>YB1 d1 kind1 YDv a) 0) fun (u2:Unit)=>
 some 0
noncomputable def YDC (d1:GDoc) (x5:Int):Option (Int ⊕ (Ctl Unit Int)):=
 if (decide (x5<(d1.Nodes.length:Int))) then (
 bnd1 (idx d1.Nodes x5) fun (x7:YAP)=>
 bnd1 (YGX x7) fun (r1:List Int)=>
 bnd1 (YEI d1 x7.Kind r1) fun (e1:Int)=>
 if (!decide (e1=0)) then (
 some (.inr (.ext e1))
 ) else (
 bnd1 (chk .i64 (x5+1)) fun (x8:Int)=>
 some (.inl x8)
 )
 ) else (
 some (.inr (.nrm ()))
 )
noncomputable def YCA (d1:GDoc) (x2:Int):Option (Int ⊕ (Ctl Unit Int)):=
 if (decide (x2<(d1.Nodes.length:Int))) then (
 bnd1 (idx d1.Nodes x2) fun (x9:YAP)=>
 bnd1 (YBL x9) fun (e2:Int)=>
 if (!decide (e2=0)) then (
 some (.inr (.ext e2))
 ) else (
 bnd1 (gd ((((decide (x2=0)) && (!decide (x9.ID=1))) == false) && ((decide (0<x2)) == true)) (chk .i64 (x2-1))) fun (x10:Int)=>
 bnd1 (gd ((((decide (x2=0)) && (!decide (x9.ID=1))) == false) && ((decide (0<x2)) == true)) (idx d1.Nodes x10)) fun (x11:YAP)=>
 if (((decide (x2=0)) && (!decide (x9.ID=1))) || ((decide (0<x2)) && (decide (x9.ID≤x11.ID)))) then (
 some (.inr (.ext 5))
 ) else (
 bnd1 (chk .i64 (x2+1)) fun (x12:Int)=>
 some (.inl x12)
 )
 )
 ) else (
 some (.inr (.nrm ()))
 )
noncomputable def YEs (d1:GDoc):Option (Int):=
 if (decide ((d1.Nodes.length:Int)=0)) then (
 some 11
 ) else (
 ctl1 (iter (fun (a:Int)=>YCA d1 a) 0) fun (u2:Unit)=>
 ctl1 (iter (fun (a:Int)=>YDC d1 a) 0) fun (u4:Unit)=>
 some 0
 )
noncomputable def YEn (a1:YAY) (b1:YAY):Option (Bool):=
 bnd1 (gd (((((decide (a1.Row=b1.Row)) && (decide (a1.Col=b1.Col))) && (decide (a1.Text=b1.Text))) && (decide (a1.Ref=b1.Ref))) == true) (YBK a1.Attrs b1.Attrs)) fun (r1:Bool)=>
 some (((((decide (a1.Row=b1.Row)) && (decide (a1.Col=b1.Col))) && (decide (a1.Text=b1.Text))) && (decide (a1.Ref=b1.Ref))) && r1)
noncomputable def YBy (a1:List YAY) (b1:List YAY) (x2:Int):Option (Int ⊕ (Ctl Unit Bool)):=
 if (decide (x2<(a1.length:Int))) then (
 bnd1 (idx a1 x2) fun (x4:YAY)=>
 bnd1 (idx b1 x2) fun (x5:YAY)=>
 bnd1 (YEn x4 x5) fun (r1:Bool)=>
 if (!r1) then (
 some (.inr (.ext false))
 ) else (
 bnd1 (chk .i64 (x2+1)) fun (x6:Int)=>
 some (.inl x6)
 )
 ) else (
 some (.inr (.nrm ()))
 )
noncomputable def YB7 (a1:List YAY) (b1:List YAY):Option (Bool):=
 if (!decide ((a1.length:Int)=(b1.length:Int))) then (
 some false
 ) else (
 ctl1 (iter (fun (a:Int)=>YBy a1 b1 a) 0) fun (u2:Unit)=>
 some true
 )
noncomputable def YBx (a1:List YAX) (b1:List YAX) (x2:Int):Option (Int ⊕ (Ctl Unit Bool)):=
 if (decide (x2<(a1.length:Int))) then (
 bnd1 (idx a1 x2) fun (x4:YAX)=>
 bnd1 (idx b1 x2) fun (x5:YAX)=>
 if (!(decide (x4.Row=x5.Row) && (decide (x4.Col=x5.Col) && (decide (x4.H=x5.H) && (decide (x4.W=x5.W) && true))))) then (
 some (.inr (.ext false))
 ) else (
 bnd1 (chk .i64 (x2+1)) fun (x6:Int)=>
 some (.inl x6)
 )
 ) else (
 some (.inr (.nrm ()))
 )
noncomputable def YBj (a1:List YAX) (b1:List YAX):Option (Bool):=
 if (!decide ((a1.length:Int)=(b1.length:Int))) then (
 some false
 ) else (
 ctl1 (iter (fun (a:Int)=>YBx a1 b1 a) 0) fun (u2:Unit)=>
 some true
 )
noncomputable def YEk (a1:YAy) (b1:YAy):Option (Bool):=
 bnd1 (gd (((decide (a1.Rows=b1.Rows)) && (decide (a1.Cols=b1.Cols))) == true) (YB7 a1.Cells b1.Cells)) fun (r1:Bool)=>
 bnd1 (gd ((((decide (a1.Rows=b1.Rows)) && (decide (a1.Cols=b1.Cols))) && r1) == true) (YBj a1.Merges b1.Merges)) fun (r2:Bool)=>
 some ((((decide (a1.Rows=b1.Rows)) && (decide (a1.Cols=b1.Cols))) && r1) && r2)
noncomputable def YCw (a1:List YAN) (b1:List YAN) (x2:Int):Option (Int ⊕ (Ctl Unit Bool)):=
 if (decide (x2<(a1.length:Int))) then (
 bnd1 (idx a1 x2) fun (x4:YAN)=>
 bnd1 (idx b1 x2) fun (x5:YAN)=>
 if (!(decide (x4.Clock=x5.Clock) && (decide (x4.Site=x5.Site) && (decide (x4.Kind=x5.Kind) && (decide (x4.Item=x5.Item) && (decide (x4.Parent=x5.Parent) && (decide (x4.Place=x5.Place) && (decide (x4.Name=x5.Name) && (decide (x4.Value=x5.Value) && true))))))))) then (
 some (.inr (.ext false))
 ) else (
 bnd1 (chk .i64 (x2+1)) fun (x6:Int)=>
 some (.inl x6)
 )
 ) else (
 some (.inr (.nrm ()))
 )
noncomputable def YC7 (a1:List YAN) (b1:List YAN):Option (Bool):=
 if (!decide ((a1.length:Int)=(b1.length:Int))) then (
 some false
 ) else (
 ctl1 (iter (fun (a:Int)=>YCw a1 b1 a) 0) fun (u2:Unit)=>
 some true
 )
noncomputable def YC8 (a1:YAP) (b1:YAP):Option (Bool):=
 bnd1 (gd (((decide (a1.ID=b1.ID)) && (decide (a1.Kind=b1.Kind))) == true) (YBK a1.Attrs b1.Attrs)) fun (r1:Bool)=>
 bnd1 (gd ((((decide (a1.ID=b1.ID)) && (decide (a1.Kind=b1.Kind))) && r1) == true) (YDm a1.Flow b1.Flow)) fun (r2:Bool)=>
 bnd1 (gd (((((decide (a1.ID=b1.ID)) && (decide (a1.Kind=b1.Kind))) && r1) && r2) == true) (YEk a1.Grid b1.Grid)) fun (r3:Bool)=>
 bnd1 (gd ((((((decide (a1.ID=b1.ID)) && (decide (a1.Kind=b1.Kind))) && r1) && r2) && r3) == true) (YC7 a1.Draw b1.Draw)) fun (r4:Bool)=>
 some ((((((decide (a1.ID=b1.ID)) && (decide (a1.Kind=b1.Kind))) && r1) && r2) && r3) && r4)
noncomputable def YA4 (s11:List YAN) (s21:List YAN) (x2:Int):Option (Int ⊕ (Ctl Unit Bool)):=
 if (decide (x2<(s11.length:Int))) then (
 bnd1 (idx s11 x2) fun (x4:YAN)=>
 bnd1 (idx s21 x2) fun (x5:YAN)=>
 if (!(decide (x4.Clock=x5.Clock) && (decide (x4.Site=x5.Site) && (decide (x4.Kind=x5.Kind) && (decide (x4.Item=x5.Item) && (decide (x4.Parent=x5.Parent) && (decide (x4.Place=x5.Place) && (decide (x4.Name=x5.Name) && (decide (x4.Value=x5.Value) && true))))))))) then (
 some (.inr (.ext false))
 ) else (
 bnd1 (chk .i64 (x2+1)) fun (x6:Int)=>
 some (.inl x6)
 )
 ) else (
 some (.inr (.nrm ()))
 )
noncomputable def YBF (s11:List YAN) (s21:List YAN):Option (Bool):=
 if (!decide ((s11.length:Int)=(s21.length:Int))) then (
 some false
 ) else (
 ctl1 (iter (fun (a:Int)=>YA4 s11 s21 a) 0) fun (u2:Unit)=>
 some true
 )
noncomputable def YJf (a1:YAP) (b1:YAP):Option (Bool):=
 bnd1 (gd (((decide (a1.ID=b1.ID)) && (decide (a1.Kind=b1.Kind))) == true) (YDE a1.Attrs b1.Attrs)) fun (r1:Bool)=>
 bnd1 (gd ((((decide (a1.ID=b1.ID)) && (decide (a1.Kind=b1.Kind))) && r1) == true) (YLI a1.Flow b1.Flow)) fun (r2:Bool)=>
 bnd1 (gd (((((decide (a1.ID=b1.ID)) && (decide (a1.Kind=b1.Kind))) && r1) && r2) == true) (YGE a1.Grid b1.Grid)) fun (r3:Bool)=>
 bnd1 (gd ((((((decide (a1.ID=b1.ID)) && (decide (a1.Kind=b1.Kind))) && r1) && r2) && r3) == true) (YBF a1.Draw b1.Draw)) fun (r4:Bool)=>
 some ((((((decide (a1.ID=b1.ID)) && (decide (a1.Kind=b1.Kind))) && r1) && r2) && r3) && r4)
noncomputable def YFV (d1:GDoc) (id1:Int) (x2:Int):Option (Int ⊕ (Ctl Unit Int)):=
 if (decide (x2<(d1.Nodes.length:Int))) then (
 bnd1 (idx d1.Nodes x2) fun (x4:YAP)=>
 if (decide (x4.ID=id1)) then (
 some (.inr (.ext x2))
 ) else (
 bnd1 (chk .i64 (x2+1)) fun (x5:Int)=>
 some (.inl x5)
 )
 ) else (
 some (.inr (.nrm ()))
 )
noncomputable def YFn (d1:GDoc) (id1:Int):Option (Int):=
 ctl1 (iter (fun (a:Int)=>YFV d1 id1 a) 0) fun (u2:Unit)=>
 some (-1)
end Go.Proofs.YtdafahjmopdleaaGreatDoor.Al


namespace Go.Proofs.YtdafahjmopdleaaGreatDoor.Al
noncomputable def YDf (kind1:Int):Option (Bool):=
 some ((((decide (kind1=1)) || (decide (kind1=3))) || (decide (kind1=4))) || (decide (kind1=12)))
noncomputable def YD5 (parent1:Int) (kid1:Int):Option (Bool):=
 bnd1 (
 if (decide (kid1=1)) then (
 some (decide (kid1=1))
 ) else (
 if (decide (kid1=6)) then (
 some (decide (kid1=6))
 ) else (
 if (decide (kid1=7)) then (
 some (decide (kid1=7))
 ) else (
 if (decide (kid1=11)) then (
 some (decide (kid1=11))
 ) else (
 some (decide (kid1=12))
 )
 )
 )
 )
 ) fun (x1:Bool)=>
 if x1 then (
 some (decide (parent1=0))
 ) else (
 if (decide (kid1=10)) then (
 some (((decide (parent1=0)) || (decide (parent1=1))) || (decide (parent1=3)))
 ) else (
 if (decide (kid1=2)) then (
 some (decide (parent1=1))
 ) else (
 if (decide (kid1=4)) then (
 some ((decide (parent1=1)) || (decide (parent1=3)))
 ) else (
 if (decide (kid1=5)) then (
 bnd1 (YDf parent1) fun (r1:Bool)=>
 some r1
 ) else (
 if (decide (kid1=3)) then (
 some (decide (parent1=2))
 ) else (
 bnd1 (
 if (decide (kid1=8)) then (
 some (decide (kid1=8))
 ) else (
 some (decide (kid1=9))
 )
 ) fun (x2:Bool)=>
 if x2 then (
 some (decide (parent1=7))
 ) else (
 some false
 )
 )
 )
 )
 )
 )
 )
noncomputable def YGR (kind1:Int):Option (Bool):=
 some ((decide (kind1=0)) || (decide (kind1=7)))
noncomputable def YEi (g1:YAy):Option (Bool):=
 some ((((decide (g1.Rows=0)) && (decide (g1.Cols=0))) && (decide ((g1.Cells.length:Int)=0))) && (decide ((g1.Merges.length:Int)=0)))
noncomputable def YFU (kind1:Int):Option (Bool):=
 some ((decide (kind1=2)) || (decide (kind1=6)))
noncomputable def YGS (kind1:Int):Option (Bool):=
 some (((decide (kind1=8)) || (decide (kind1=9))) || (decide (kind1=10)))
noncomputable def YBa (s1:List UInt8):Option (Bool):=
 YP7 s1
noncomputable def YAm (s1:List UInt8) (p2:(Nat)):Option ((Nat) ⊕ (Ctl Unit Bool)):=
 if (decide (p2<s1.length)) then (
 bnd1 (gd ((decide (((YFl s1 p2).1:Int)=10)) == false) (YHU (IntKind.i64.wrap ((YFl s1 p2).1:Int)))) fun (r2:Bool)=>
 if ((decide (((YFl s1 p2).1:Int)=10)) || (!r2)) then (
 some (.inr (.ext false))
 ) else (
 some (.inl (p2+(YFl s1 p2).2))
 )
 ) else (
 some (.inr (.nrm ()))
 )
noncomputable def YEp (s1:List UInt8):Option (Bool):=
 bnd1 (YBa s1) fun (r1:Bool)=>
 if (!r1) then (
 some false
 ) else (
 ctl1 (iter (fun (a:(Nat))=>YAm s1 a) 0) fun (u2:Unit)=>
 some true
 )
noncomputable def YD8 (c1:YAY):Option (Bool):=
 some (((decide (c1.Text=[])) && (decide (c1.Ref=0))) && (decide ((c1.Attrs.length:Int)=0)))
noncomputable def YCP (l1:List YAY) (rows1:Int) (cols1:Int) (none1:Bool) (x2:Int):Option (Int ⊕ (Ctl Unit Int)):=
 if (decide (x2<(l1.length:Int))) then (
 bnd1 (idx l1 x2) fun (x4:YAY)=>
 bnd1 (chk .i64 (rows1-1)) fun (x5:Int)=>
 bnd1 (YC2 x4.Row 0 x5) fun (r1:Bool)=>
 bnd1 (gd ((!r1) == false) (chk .i64 (cols1-1))) fun (x6:Int)=>
 bnd1 (gd ((!r1) == false) (YC2 x4.Col 0 x6)) fun (r2:Bool)=>
 bnd1 (gd (((!r1) || (!r2)) == false) (YC2 x4.Ref 0 1073741824)) fun (r3:Bool)=>
 if (((!r1) || (!r2)) || (!r3)) then (
 some (.inr (.ext 2))
 ) else (
 bnd1 (YEp x4.Text) fun (r4:Bool)=>
 if (!r4) then (
 some (.inr (.ext 23))
 ) else (
 bnd1 (YBm x4.Attrs false) fun (e1:Int)=>
 if (!decide (e1=0)) then (
 some (.inr (.ext e1))
 ) else (
 bnd1 (gd ((!none1) == true) (YD8 x4)) fun (r5:Bool)=>
 if ((!none1) && r5) then (
 some (.inr (.ext 4))
 ) else (
 bnd1 (gd ((decide (0<x2)) == true) (chk .i64 (x2-1))) fun (x7:Int)=>
 bnd1 (gd ((decide (0<x2)) == true) (idx l1 x7)) fun (x8:YAY)=>
 bnd1 (gd ((((decide (0<x2)) == true) && ((decide (x4.Row<x8.Row)) == false)) && ((decide (x4.Row=x8.Row)) == true)) (chk .i64 (x2-1))) fun (x9:Int)=>
 bnd1 (gd ((((decide (0<x2)) == true) && ((decide (x4.Row<x8.Row)) == false)) && ((decide (x4.Row=x8.Row)) == true)) (idx l1 x9)) fun (x10:YAY)=>
 if ((decide (0<x2)) && ((decide (x4.Row<x8.Row)) || ((decide (x4.Row=x8.Row)) && (decide (x4.Col≤x10.Col))))) then (
 some (.inr (.ext 5))
 ) else (
 bnd1 (chk .i64 (x2+1)) fun (x11:Int)=>
 some (.inl x11)
 )
 )
 )
 )
 )
 ) else (
 some (.inr (.nrm ()))
 )
noncomputable def YDW (l1:List YAY) (rows1:Int) (cols1:Int) (none1:Bool):Option (Int):=
 ctl1 (iter (fun (a:Int)=>YCP l1 rows1 cols1 none1 a) 0) fun (u2:Unit)=>
 some 0
noncomputable def YIU (r1:YAX) (rows1:Int) (cols1:Int):Option (Bool):=
 bnd1 (chk .i64 (rows1-1)) fun (x1:Int)=>
 bnd1 (YC2 r1.Row 0 x1) fun (r2:Bool)=>
 bnd1 (gd (r2 == true) (chk .i64 (cols1-1))) fun (x2:Int)=>
 bnd1 (gd (r2 == true) (YC2 r1.Col 0 x2)) fun (r3:Bool)=>
 bnd1 (gd ((r2 && r3) == true) (chk .i64 (rows1-r1.Row))) fun (x3:Int)=>
 bnd1 (gd ((r2 && r3) == true) (YC2 r1.H 1 x3)) fun (r4:Bool)=>
 bnd1 (gd (((r2 && r3) && r4) == true) (chk .i64 (cols1-r1.Col))) fun (x4:Int)=>
 bnd1 (gd (((r2 && r3) && r4) == true) (YC2 r1.W 1 x4)) fun (r5:Bool)=>
 some (((r2 && r3) && r4) && r5)
noncomputable def YG5 (a1:YAX) (b1:YAX):Option (Bool):=
 bnd1 (chk .i64 (a1.Row+a1.H)) fun (x1:Int)=>
 bnd1 (chk .i64 (b1.Row+b1.H)) fun (x2:Int)=>
 bnd1 (gd ((decide ((max a1.Row b1.Row)<(min x1 x2))) == true) (chk .i64 (a1.Col+a1.W))) fun (x3:Int)=>
 bnd1 (gd ((decide ((max a1.Row b1.Row)<(min x1 x2))) == true) (chk .i64 (b1.Col+b1.W))) fun (x4:Int)=>
 some ((decide ((max a1.Row b1.Row)<(min x1 x2))) && (decide ((max a1.Col b1.Col)<(min x3 x4))))
noncomputable def YCo (g1:YAy) (x2:Int) (x4:YAX) (x10:Int):Option (Int ⊕ (Ctl Unit (Int ⊕ (Ctl Unit Int)))):=
 if (decide (x10<x2)) then (
 bnd1 (idx g1.Merges x10) fun (x13:YAX)=>
 bnd1 (YG5 x4 x13) fun (r4:Bool)=>
 if r4 then (
 some (.inr (.ext (.inr (.ext 21))))
 ) else (
 bnd1 (chk .i64 (x10+1)) fun (x14:Int)=>
 some (.inl x14)
 )
 ) else (
 some (.inr (.nrm ()))
 )
noncomputable def YCp (g1:YAy) (x2:Int):Option (Int ⊕ (Ctl Unit Int)):=
 if (decide (x2<(g1.Merges.length:Int))) then (
 bnd1 (idx g1.Merges x2) fun (x4:YAX)=>
 bnd1 (YIU x4 g1.Rows g1.Cols) fun (r3:Bool)=>
 if (!r3) then (
 some (.inr (.ext 2))
 ) else (
 if ((decide (x4.H=1)) && (decide (x4.W=1))) then (
 some (.inr (.ext 4))
 ) else (
 bnd1 (gd ((decide (0<x2)) == true) (chk .i64 (x2-1))) fun (x5:Int)=>
 bnd1 (gd ((decide (0<x2)) == true) (idx g1.Merges x5)) fun (x6:YAX)=>
 bnd1 (gd ((((decide (0<x2)) == true) && ((decide (x4.Row<x6.Row)) == false)) && ((decide (x4.Row=x6.Row)) == true)) (chk .i64 (x2-1))) fun (x7:Int)=>
 bnd1 (gd ((((decide (0<x2)) == true) && ((decide (x4.Row<x6.Row)) == false)) && ((decide (x4.Row=x6.Row)) == true)) (idx g1.Merges x7)) fun (x8:YAX)=>
 if ((decide (0<x2)) && ((decide (x4.Row<x6.Row)) || ((decide (x4.Row=x6.Row)) && (decide (x4.Col≤x8.Col))))) then (
 some (.inr (.ext 5))
 ) else (
 ctl1 (iter (fun (a:Int)=>YCo g1 x2 x4 a) 0) fun (u4:Unit)=>
 bnd1 (chk .i64 (x2+1)) fun (x12:Int)=>
 some (.inl x12)
 )
 )
 )
 ) else (
 some (.inr (.nrm ()))
 )
noncomputable def YD7 (g1:YAy):Option (Int):=
 bnd1 (YC2 g1.Rows 0 2147483647) fun (r1:Bool)=>
 bnd1 (gd ((!r1) == false) (YC2 g1.Cols 0 2147483647)) fun (r2:Bool)=>
 if ((!r1) || (!r2)) then (
 some 2
 ) else (
 bnd1 (YDW g1.Cells g1.Rows g1.Cols false) fun (e1:Int)=>
 if (!decide (e1=0)) then (
 some e1
 ) else (
 ctl1 (iter (fun (a:Int)=>YCp g1 a) 0) fun (u2:Unit)=>
 some 0
 )
 )
noncomputable def YCr (kind1:Int) (l1:List YAY) (x2:Int):Option (Int ⊕ (Ctl Unit Int)):=
 if (decide (x2<(l1.length:Int))) then (
 bnd1 (gd ((decide (kind1=2)) == true) (idx l1 x2)) fun (x4:YAY)=>
 bnd1 (gd ((((decide (kind1=2)) && ((!decide (x4.Text=[])) || (decide (0<(x4.Attrs.length:Int))))) == false) && ((decide (kind1=6)) == true)) (idx l1 x2)) fun (x5:YAY)=>
 if (((decide (kind1=2)) && ((!decide (x4.Text=[])) || (decide (0<(x4.Attrs.length:Int))))) || ((decide (kind1=6)) && (!decide (x5.Ref=0)))) then (
 some (.inr (.ext 4))
 ) else (
 bnd1 (chk .i64 (x2+1)) fun (x6:Int)=>
 some (.inl x6)
 )
 ) else (
 some (.inr (.nrm ()))
 )
noncomputable def YEB (kind1:Int) (l1:List YAY):Option (Int):=
 ctl1 (iter (fun (a:Int)=>YCr kind1 l1 a) 0) fun (u2:Unit)=>
 some 0
noncomputable def YDA (s1:List UInt8) (x2:Int):Option (Int ⊕ (Ctl Unit Bool)):=
 if (decide (x2<(s1.length:Int))) then (
 bnd1 (idx s1 x2) fun (ch2:UInt8)=>
 if ((decide ((ch2.toNat:Int)<97)) || (decide (122<(ch2.toNat:Int)))) then (
 some (.inr (.ext false))
 ) else (
 bnd1 (chk .i64 (x2+1)) fun (x5:Int)=>
 some (.inl x5)
 )
 ) else (
 some (.inr (.nrm ()))
 )
noncomputable def YG7 (s1:List UInt8):Option (Bool):=
 ctl1 (iter (fun (a:Int)=>YDA s1 a) 0) fun (u2:Unit)=>
 bnd1 (gd (((decide (1≤(s1.length:Int))) && (decide ((s1.length:Int)≤200))) == true) (chk .i64 ((s1.length:Int)-1))) fun (x4:Int)=>
 bnd1 (gd (((decide (1≤(s1.length:Int))) && (decide ((s1.length:Int)≤200))) == true) (idx s1 x4)) fun (ch1:UInt8)=>
 some (((decide (1≤(s1.length:Int))) && (decide ((s1.length:Int)≤200))) && (!decide ((ch1.toNat:Int)=97)))
noncomputable def YEV (a1:YAN) (b1:YAN):Option (Bool):=
 some ((decide (a1.Clock<b1.Clock)) || ((decide (a1.Clock=b1.Clock)) && (decide (a1.Site<b1.Site))))
noncomputable def YCq (l1:List YAN) (x2:Int):Option (Int ⊕ (Ctl Unit Int)):=
 if (decide (x2<(l1.length:Int))) then (
 bnd1 (idx l1 x2) fun (x4:YAN)=>
 if ((!decide (x4.Kind=0)) && (!decide (x4.Kind=1))) then (
 some (.inr (.ext 8))
 ) else (
 bnd1 (YC2 x4.Clock 1 1073741824) fun (r1:Bool)=>
 bnd1 (gd ((!r1) == false) (YC2 x4.Site 0 1000)) fun (r2:Bool)=>
 bnd1 (gd (((!r1) || (!r2)) == false) (YC2 x4.Item 1 1073741824)) fun (r3:Bool)=>
 if (((!r1) || (!r2)) || (!r3)) then (
 some (.inr (.ext 2))
 ) else (
 ctl1 (
 if (decide (x4.Kind=0)) then (
 if ((!decide (x4.Name=[])) || (!decide (x4.Value=[]))) then (
 some (.ext (.inr (.ext 4)))
 ) else (
 bnd1 (YC2 x4.Parent (-1) 1073741824) fun (r5:Bool)=>
 if (!r5) then (
 some (.ext (.inr (.ext 2)))
 ) else (
 bnd1 (YG7 x4.Place) fun (r6:Bool)=>
 if (!r6) then (
 some (.ext (.inr (.ext 9)))
 ) else (
 some (.nrm ())
 )
 )
 )
 ) else (
 if ((!decide (x4.Parent=0)) || (!decide (x4.Place=[]))) then (
 some (.ext (.inr (.ext 4)))
 ) else (
 bnd1 (YHT x4.Name) fun (r7:Bool)=>
 if (!r7) then (
 some (.ext (.inr (.ext 9)))
 ) else (
 bnd1 (gd ((!decide (x4.Value=[])) == true) (YF2 x4.Value)) fun (r8:Bool)=>
 if ((!decide (x4.Value=[])) && (!r8)) then (
 some (.ext (.inr (.ext 23)))
 ) else (
 some (.nrm ())
 )
 )
 )
 )
 ) fun (u3:Unit)=>
 bnd1 (gd ((decide (0<x2)) == true) (chk .i64 (x2-1))) fun (x5:Int)=>
 bnd1 (gd ((decide (0<x2)) == true) (idx l1 x5)) fun (x6:YAN)=>
 bnd1 (gd ((decide (0<x2)) == true) (YEV x6 x4)) fun (r4:Bool)=>
 if ((decide (0<x2)) && (!r4)) then (
 some (.inr (.ext 5))
 ) else (
 bnd1 (chk .i64 (x2+1)) fun (x7:Int)=>
 some (.inl x7)
 )
 )
 )
 ) else (
 some (.inr (.nrm ()))
 )
noncomputable def YEA (l1:List YAN):Option (Int):=
 ctl1 (iter (fun (a:Int)=>YCq l1 a) 0) fun (u2:Unit)=>
 some 0
noncomputable def YD6 (n1:YAP):Option (Int):=
 bnd1 (YC2 n1.ID 1 1073741824) fun (r1:Bool)=>
 if (!r1) then (
 some 2
 ) else (
 bnd1 (YC2 n1.Kind 0 12) fun (r2:Bool)=>
 if (((!r2) || ((decide (n1.ID=1)) && (!decide (n1.Kind=0)))) || ((!decide (n1.ID=1)) && (decide (n1.Kind=0)))) then (
 some 8
 ) else (
 bnd1 (YBm n1.Attrs false) fun (e1:Int)=>
 if (!decide (e1=0)) then (
 some e1
 ) else (
 bnd1 (YDf n1.Kind) fun (r3:Bool)=>
 bnd1 (gd (r3 == false) (YGR n1.Kind)) fun (r4:Bool)=>
 bnd1 (gd (((decide (0<(n1.Flow.length:Int))) && (!(r3 || r4))) == false) (YEi n1.Grid)) fun (r5:Bool)=>
 bnd1 (gd ((((decide (0<(n1.Flow.length:Int))) && (!(r3 || r4))) == false) && ((!r5) == true)) (YFU n1.Kind)) fun (r6:Bool)=>
 bnd1 (gd (((((decide (0<(n1.Flow.length:Int))) && (!(r3 || r4))) || ((!r5) && (!r6))) == false) && ((decide (0<(n1.Draw.length:Int))) == true)) (YGS n1.Kind)) fun (r7:Bool)=>
 if ((((decide (0<(n1.Flow.length:Int))) && (!(r3 || r4))) || ((!r5) && (!r6))) || ((decide (0<(n1.Draw.length:Int))) && (!r7))) then (
 some 4
 ) else (
 if (r3 || r4) then (
 bnd1 (YB8 n1.Flow r3) fun (r9:Int)=>
 some r9
 ) else (
 bnd1 (YFU n1.Kind) fun (r10:Bool)=>
 if r10 then (
 bnd1 (YD7 n1.Grid) fun (e2:Int)=>
 if (!decide (e2=0)) then (
 some e2
 ) else (
 bnd1 (YEB n1.Kind n1.Grid.Cells) fun (r11:Int)=>
 some r11
 )
 ) else (
 bnd1 (YEA n1.Draw) fun (r12:Int)=>
 some r12
 )
 )
 )
 )
 )
 )
noncomputable def YFA (n1:YAP) (x5:Int) (out6:List Int):Option ((Int × (List Int)) ⊕ (List Int)):=
 if (decide (x5<(n1.Grid.Cells.length:Int))) then (
 bnd1 (
 bnd1 (idx n1.Grid.Cells x5) fun (x8:YAY)=>
 if (!decide (x8.Ref=0)) then (
 bnd1 (app 8 out6 [x8.Ref]) fun (out10:List Int)=>
 some out10
 ) else (
 some out6
 )
 ) fun (out9:List Int)=>
 bnd1 (chk .i64 (x5+1)) fun (x7:Int)=>
 some (.inl (x7,out9))
 ) else (
 some (.inr out6)
 )
noncomputable def YFB (n1:YAP) (x2:Int) (out2:List Int):Option ((Int × (List Int)) ⊕ (List Int)):=
 if (decide (x2<(n1.Flow.length:Int))) then (
 bnd1 (
 bnd1 (idx n1.Flow x2) fun (x10:YAC)=>
 if (!decide (x10.Ref=0)) then (
 bnd1 (app 8 out2 [x10.Ref]) fun (out12:List Int)=>
 some out12
 ) else (
 some out2
 )
 ) fun (out11:List Int)=>
 bnd1 (chk .i64 (x2+1)) fun (x9:Int)=>
 some (.inl (x9,out11))
 ) else (
 some (.inr out2)
 )
noncomputable def YF3 (n1:YAP):Option ((List Int)):=
 bnd1 (iter (fun (a:Int × (List Int))=>YFB n1 a.1 a.2) (0,[])) fun (out4:List Int)=>
 bnd1 (iter (fun (a:Int × (List Int))=>YFA n1 a.1 a.2) (0,out4)) fun (out8:List Int)=>
 some out8
noncomputable def YB0 (d1:GDoc) (kind1:Int) (YDv:List Int) (x2:Int):Option (Int ⊕ (Ctl Unit Int)):=
 if (decide (x2<(YDv.length:Int))) then (
 bnd1 (idx YDv x2) fun (x4:Int)=>
 bnd1 (YFn d1 x4) fun (k1:Int)=>
 if (decide (k1<0)) then (
 some (.inr (.ext 7))
 ) else (
 bnd1 (idx d1.Nodes k1) fun (x5:YAP)=>
 bnd1 (YD5 kind1 x5.Kind) fun (r1:Bool)=>
 if (!r1) then (
 some (.inr (.ext 8))
 ) else (
 bnd1 (chk .i64 (x2+1)) fun (x6:Int)=>
 some (.inl x6)
 )
 )
 ) else (
 some (.inr (.nrm ()))
 )
noncomputable def YD4 (d1:GDoc) (kind1:Int) (YDv:List Int):Option (Int):=
 ctl1 (iter (fun (a:Int)=>YB0 d1 kind1 YDv a) 0) fun (u2:Unit)=>
 some 0
noncomputable def YBq (d1:GDoc) (x5:Int):Option (Int ⊕ (Ctl Unit Int)):=
 if (decide (x5<(d1.Nodes.length:Int))) then (
 bnd1 (idx d1.Nodes x5) fun (x7:YAP)=>
 bnd1 (YF3 x7) fun (r1:List Int)=>
 bnd1 (YD4 d1 x7.Kind r1) fun (e1:Int)=>
 if (!decide (e1=0)) then (
 some (.inr (.ext e1))
 ) else (
 bnd1 (chk .i64 (x5+1)) fun (x8:Int)=>
 some (.inl x8)
 )
 ) else (
 some (.inr (.nrm ()))
 )
noncomputable def YCO (d1:GDoc) (x2:Int):Option (Int ⊕ (Ctl Unit Int)):=
 if (decide (x2<(d1.Nodes.length:Int))) then (
 bnd1 (idx d1.Nodes x2) fun (x9:YAP)=>
 bnd1 (YD6 x9) fun (e2:Int)=>
 if (!decide (e2=0)) then (
 some (.inr (.ext e2))
 ) else (
 bnd1 (gd ((decide (x2=0)) == true) (idx d1.Nodes 0)) fun (x10:YAP)=>
 bnd1 (gd ((((decide (x2=0)) && (!decide (x10.ID=1))) == false) && ((decide (0<x2)) == true)) (chk .i64 (x2-1))) fun (x11:Int)=>
 bnd1 (gd ((((decide (x2=0)) && (!decide (x10.ID=1))) == false) && ((decide (0<x2)) == true)) (idx d1.Nodes x11)) fun (x12:YAP)=>
 if (((decide (x2=0)) && (!decide (x10.ID=1))) || ((decide (0<x2)) && (decide (x9.ID≤x12.ID)))) then (
 some (.inr (.ext 5))
 ) else (
 bnd1 (chk .i64 (x2+1)) fun (x13:Int)=>
 some (.inl x13)
 )
 )
 ) else (
 some (.inr (.nrm ()))
 )
noncomputable def YEo (d1:GDoc):Option (Int):=
 if (decide ((d1.Nodes.length:Int)=0)) then (
 some 11
 ) else (
 ctl1 (iter (fun (a:Int)=>YCO d1 a) 0) fun (u2:Unit)=>
 ctl1 (iter (fun (a:Int)=>YBq d1 a) 0) fun (u4:Unit)=>
 some 0
 )
end Go.Proofs.YtdafahjmopdleaaGreatDoor.Al


namespace Go.Proofs.YtdafahjmopdleaaGreatDoor.Al
structure GSel where
 Node:Int
 From:Int
 To:Int
deriving DecidableEq
instance:Inhabited GSel:=⟨⟨0,0,0⟩⟩
@[reducible] def GSel.row (x:GSel):List RV:=[.int .i64 x.Node,.int .i64 x.From,.int .i64 x.To]
structure YAD where
 node:YAP
 shown:List Int
 author:List UInt8
deriving DecidableEq
instance:Inhabited YAD:=⟨⟨(YAP.mk 0 0 [] [] (YAy.mk 0 0 [] []) []),[],[]⟩⟩
noncomputable def YJU:Option (Bool):=
 some true
noncomputable def YIS:Option (Bool):=
 some true
noncomputable def YE8:Option (Bool):=
 some true
noncomputable def YHJ (d1:GDoc) (id1:Int):Option (Int):=
 bnd2 (YHZ d1 id1) fun (r1:Int) (r2:Bool)=>
 if r2 then (
 some r1
 ) else (
 some (-1)
 )
noncomputable def YC5 (d1:GDoc) (s1:GSel) (author1:List UInt8):Option (YAD × Int):=
 bnd1 (YEs d1) fun (e1:Int)=>
 if (!decide (e1=0)) then (
 some ((YAD.mk (YAP.mk 0 0 [] [] (YAy.mk 0 0 [] []) []) [] []),e1)
 ) else (
 bnd1 (YHJ d1 s1.Node) fun (i1:Int)=>
 if (decide (i1<0)) then (
 some ((YAD.mk (YAP.mk 0 0 [] [] (YAy.mk 0 0 [] []) []) [] []),7)
 ) else (
 bnd1 (idx d1.Nodes i1) fun (x1:YAP)=>
 bnd1 (YEG x1.Kind) fun (r1:Bool)=>
 if (!r1) then (
 some ((YAD.mk (YAP.mk 0 0 [] [] (YAy.mk 0 0 [] []) []) [] []),8)
 ) else (
 bnd1 (YEe x1.Flow 0) fun (r2:List Int)=>
 if (((decide (s1.From<0)) || (decide (s1.To<s1.From))) || (decide ((r2.length:Int)≤s1.To))) then (
 some ((YAD.mk (YAP.mk 0 0 [] [] (YAy.mk 0 0 [] []) []) [] []),2)
 ) else (
 bnd1 (gd ((!decide (author1=[])) == true) (YDs author1)) fun (r3:Bool)=>
 if ((!decide (author1=[])) && (!r3)) then (
 some ((YAD.mk (YAP.mk 0 0 [] [] (YAy.mk 0 0 [] []) []) [] []),23)
 ) else (
 some ((YAD.mk x1 r2 author1),0)
 )
 )
 )
 )
 )
noncomputable def YA5 (w1:YAD) (k1:Int):Option (YAC):=
 if ((decide (k1<0)) || (decide ((w1.shown.length:Int)≤k1))) then (
 some (YAC.mk 10 0 [])
 ) else (
 bnd1 (idx w1.shown k1) fun (x1:Int)=>
 bnd1 (idx w1.node.Flow x1) fun (x2:YAC)=>
 some x2
 )
noncomputable def YBp (w1:GSel) (w2:YAD) (k1:Int):Option (Bool):=
 bnd1 (
 if (((decide (w1.From≤k1)) && (decide (k1<w1.To))) == true) then (
 bnd1 (YA5 w2 k1) fun (r1:YAC)=>
 some (((decide (w1.From≤k1)) && (decide (k1<w1.To))) && (!decide (r1.Char=10)))
 ) else (
 some (((decide (w1.From≤k1)) && (decide (k1<w1.To))) && false)
 )
 ) fun (x1:Bool)=>
 some x1
noncomputable def YAa (w1:YAD) (change1:List YAG) (in5:List Bool) (x5:Int) (l2:List YAB):Option ((Int × (List YAB)) ⊕ (List YAB)):=
 if (decide (x5<(w1.node.Flow.length:Int))) then (
 bnd1 (idx in5 x5) fun (x7:Bool)=>
 bnd1 (
 if x7 then (
 some (YAB.mk 0 1 change1 [])
 ) else (
 some (YAB.mk 0 1 [] [])
 )
 ) fun (s1:YAB)=>
 bnd1 (app 64 l2 [(YAB.mk s1.Kind s1.N s1.Attrs [])]) fun (l5:List YAB)=>
 bnd1 (chk .i64 (x5+1)) fun (x8:Int)=>
 some (.inl (x8,l5))
 ) else (
 some (.inr l2)
 )
noncomputable def YAb (w1:YAD) (w2:GSel) (x2:Int) (in3:List Bool):Option ((Int × (List Bool)) ⊕ (List Bool)):=
 if (decide (x2<(w1.shown.length:Int))) then (
 bnd1 (idx w1.shown x2) fun (x9:Int)=>
 bnd1 (YBp w2 w1 x2) fun (r3:Bool)=>
 bnd1 (idx in3 x9) fun (x10:Bool)=>
 bnd1 (chk .i64 (x2+1)) fun (x11:Int)=>
 some (.inl (x11,(in3.set x9.toNat r3)))
 ) else (
 some (.inr in3)
 )
noncomputable def YAh (w1:YAD) (w2:GSel) (change1:List YAG):Option ((List GOp)):=
 bnd1 (mk 1 (w1.node.Flow.length:Int) false) fun (in1:List Bool)=>
 bnd1 (iter (fun (a:Int × (List Bool))=>YAb w1 w2 a.1 a.2) (0,in1)) fun (in5:List Bool)=>
 bnd1 (iter (fun (a:Int × (List YAB))=>YAa w1 change1 in5 a.1 a.2) (0,[])) fun (l4:List YAB)=>
 bnd2 (YEY l4) fun (r1:List YAB) (r2:Int)=>
 some [(GOp.mk 2 w1.node.ID (YAP.mk 0 0 [] [] (YAy.mk 0 0 [] []) []) [] r1 (YAj.mk [] [] [] [] []) [])]
noncomputable def YA9 (d1:GDoc) (s1:GSel) (change1:List YAG):Option ((List GOp) × Int):=
 bnd2 (YC5 d1 s1 []) fun (r1:YAD) (r2:Int)=>
 if (!decide (r2=0)) then (
 some ([],r2)
 ) else (
 bnd1 (YBA change1) fun (e1:Int)=>
 if (!decide (e1=0)) then (
 some ([],e1)
 ) else (
 bnd1 (YAh r1 s1 change1) fun (r3:List GOp)=>
 some (r3,0)
 )
 )
noncomputable def YAu (w1:GSel) (c1:Int) (w2:YAD) (k1:Int):Option (Bool):=
 bnd1 (
 if (((decide (w1.From≤k1)) && (decide (k1≤c1))) == true) then (
 bnd1 (YA5 w2 k1) fun (r1:YAC)=>
 some (((decide (w1.From≤k1)) && (decide (k1≤c1))) && (decide (r1.Char=10)))
 ) else (
 some (((decide (w1.From≤k1)) && (decide (k1≤c1))) && false)
 )
 ) fun (x1:Bool)=>
 some x1
noncomputable def YAS (w1:YAD) (change1:List YAG) (in5:List Bool) (x5:Int) (l2:List YAB):Option ((Int × (List YAB)) ⊕ (List YAB)):=
 if (decide (x5<(w1.node.Flow.length:Int))) then (
 bnd1 (idx in5 x5) fun (x7:Bool)=>
 bnd1 (
 if x7 then (
 some (YAB.mk 0 1 change1 [])
 ) else (
 some (YAB.mk 0 1 [] [])
 )
 ) fun (s1:YAB)=>
 bnd1 (app 64 l2 [(YAB.mk s1.Kind s1.N s1.Attrs [])]) fun (l5:List YAB)=>
 bnd1 (chk .i64 (x5+1)) fun (x8:Int)=>
 some (.inl (x8,l5))
 ) else (
 some (.inr l2)
 )
noncomputable def YAT (w1:YAD) (w2:GSel) (c1:Int) (x2:Int) (in3:List Bool):Option ((Int × (List Bool)) ⊕ (List Bool)):=
 if (decide (x2<(w1.shown.length:Int))) then (
 bnd1 (idx w1.shown x2) fun (x9:Int)=>
 bnd1 (YAu w2 c1 w1 x2) fun (r3:Bool)=>
 bnd1 (idx in3 x9) fun (x10:Bool)=>
 bnd1 (chk .i64 (x2+1)) fun (x11:Int)=>
 some (.inl (x11,(in3.set x9.toNat r3)))
 ) else (
 some (.inr in3)
 )
noncomputable def YAW (w1:YAD) (w2:GSel) (c1:Int) (change1:List YAG):Option ((List GOp)):=
 bnd1 (mk 1 (w1.node.Flow.length:Int) false) fun (in1:List Bool)=>
 bnd1 (iter (fun (a:Int × (List Bool))=>YAT w1 w2 c1 a.1 a.2) (0,in1)) fun (in5:List Bool)=>
 bnd1 (iter (fun (a:Int × (List YAB))=>YAS w1 change1 in5 a.1 a.2) (0,[])) fun (l4:List YAB)=>
 bnd2 (YEY l4) fun (r1:List YAB) (r2:Int)=>
 some [(GOp.mk 2 w1.node.ID (YAP.mk 0 0 [] [] (YAy.mk 0 0 [] []) []) [] r1 (YAj.mk [] [] [] [] []) [])]
noncomputable def YAv (r1:YAD) (last2:Int):Option (Int ⊕ Int):=
 bnd1 (YA5 r1 last2) fun (r4:YAC)=>
 if (!decide (r4.Char=10)) then (
 bnd1 (chk .i64 (last2+1)) fun (x2:Int)=>
 some (.inl x2)
 ) else (
 some (.inr last2)
 )
noncomputable def YAZ (d1:GDoc) (s1:GSel) (change1:List YAG):Option ((List GOp) × Int):=
 bnd2 (YC5 d1 s1 []) fun (r1:YAD) (r2:Int)=>
 if (!decide (r2=0)) then (
 some ([],r2)
 ) else (
 bnd1 (YBA change1) fun (e1:Int)=>
 if (!decide (e1=0)) then (
 some ([],e1)
 ) else (
 bnd1 (chk .i64 (s1.To-1)) fun (x1:Int)=>
 bnd1 (iter (fun (a:Int)=>YAv r1 a) (max s1.From x1)) fun (last4:Int)=>
 bnd1 (YAW r1 s1 last4 change1) fun (r3:List GOp)=>
 some (r3,0)
 )
 )
noncomputable def YDo (d1:GDoc) (s1:GSel):Option (Int):=
 bnd1 (YEo d1) fun (e1:Int)=>
 if (!decide (e1=0)) then (
 some e1
 ) else (
 bnd1 (YFn d1 s1.Node) fun (i1:Int)=>
 if (decide (i1<0)) then (
 some 7
 ) else (
 bnd1 (idx d1.Nodes i1) fun (x1:YAP)=>
 bnd1 (YDf x1.Kind) fun (r1:Bool)=>
 if (!r1) then (
 some 8
 ) else (
 bnd1 (YFT x1.Flow 0) fun (r2:List Int)=>
 if (((decide (s1.From<0)) || (decide (s1.To<s1.From))) || (decide ((r2.length:Int)≤s1.To))) then (
 some 2
 ) else (
 some 0
 )
 )
 )
 )
noncomputable def YEm (a1:YAj) (b1:YAj):Option (Bool):=
 bnd1 (YCb a1.Rows b1.Rows) fun (r1:Bool)=>
 bnd1 (gd (r1 == true) (YCb a1.Cols b1.Cols)) fun (r2:Bool)=>
 bnd1 (gd ((r1 && r2) == true) (YB7 a1.Cells b1.Cells)) fun (r3:Bool)=>
 bnd1 (gd (((r1 && r2) && r3) == true) (YBj a1.Split b1.Split)) fun (r4:Bool)=>
 bnd1 (gd ((((r1 && r2) && r3) && r4) == true) (YBj a1.Merge b1.Merge)) fun (r5:Bool)=>
 some ((((r1 && r2) && r3) && r4) && r5)
noncomputable def YFG (a1:GOp) (b1:GOp):Option (Bool):=
 bnd1 (gd (((decide (a1.Kind=b1.Kind)) && (decide (a1.Node=b1.Node))) == true) (YC8 a1.New b1.New)) fun (r1:Bool)=>
 bnd1 (gd ((((decide (a1.Kind=b1.Kind)) && (decide (a1.Node=b1.Node))) && r1) == true) (YBK a1.Attrs b1.Attrs)) fun (r2:Bool)=>
 bnd1 (gd (((((decide (a1.Kind=b1.Kind)) && (decide (a1.Node=b1.Node))) && r1) && r2) == true) (YCc a1.Steps b1.Steps)) fun (r3:Bool)=>
 bnd1 (gd ((((((decide (a1.Kind=b1.Kind)) && (decide (a1.Node=b1.Node))) && r1) && r2) && r3) == true) (YEm a1.Grid b1.Grid)) fun (r4:Bool)=>
 bnd1 (gd (((((((decide (a1.Kind=b1.Kind)) && (decide (a1.Node=b1.Node))) && r1) && r2) && r3) && r4) == true) (YC7 a1.Draw b1.Draw)) fun (r5:Bool)=>
 some (((((((decide (a1.Kind=b1.Kind)) && (decide (a1.Node=b1.Node))) && r1) && r2) && r3) && r4) && r5)
noncomputable def YCQ (a1:List GOp) (b1:List GOp) (x2:Int):Option (Int ⊕ (Ctl Unit Bool)):=
 if (decide (x2<(a1.length:Int))) then (
 bnd1 (idx a1 x2) fun (x4:GOp)=>
 bnd1 (idx b1 x2) fun (x5:GOp)=>
 bnd1 (YFG x4 x5) fun (r1:Bool)=>
 if (!r1) then (
 some (.inr (.ext false))
 ) else (
 bnd1 (chk .i64 (x2+1)) fun (x6:Int)=>
 some (.inl x6)
 )
 ) else (
 some (.inr (.nrm ()))
 )
noncomputable def YCx (a1:List GOp) (b1:List GOp):Option (Bool):=
 if (!decide ((a1.length:Int)=(b1.length:Int))) then (
 some false
 ) else (
 ctl1 (iter (fun (a:Int)=>YCQ a1 b1 a) 0) fun (u2:Unit)=>
 some true
 )
noncomputable def YAc (s1:GSel) (change1:List YAG) (x2:YAP) (shown1:List Int) (last4:Int) (x7:Int) (x8:YAR) (y2:YAR):Option ((Int × YAR × YAR) ⊕ (YAR × YAR)):=
 if (decide (x7<(shown1.length:Int))) then (
 bnd2 (
 bnd1 (idx shown1 x7) fun (x14:Int)=>
 bnd1 (idx x2.Flow x14) fun (x15:YAC)=>
 bnd1 (
 if (((!(decide (x15.Char=10))) && (decide (s1.From≤x7))) && (decide (x7<s1.To))) then (
 bnd1 (idx x8.Attrs x14) fun (x18:List YAG)=>
 some (YAR.mk y2.Adds y2.Cuts (x8.Attrs.set x14.toNat change1))
 ) else (
 some (YAR.mk y2.Adds y2.Cuts x8.Attrs)
 )
 ) fun (x16:YAR)=>
 if (((decide (x15.Char=10)) && (decide (s1.From≤x7))) && (decide (x7≤last4))) then (
 bnd1 (idx y2.Attrs x14) fun (x17:List YAG)=>
 some ((YAR.mk y2.Adds y2.Cuts x16.Attrs),(YAR.mk y2.Adds y2.Cuts (y2.Attrs.set x14.toNat change1)))
 ) else (
 some ((YAR.mk y2.Adds y2.Cuts x16.Attrs),y2)
 )
 ) fun (x12:YAR) (y5:YAR)=>
 bnd1 (chk .i64 (x7+1)) fun (x13:Int)=>
 some (.inl (x13,(YAR.mk y5.Adds y5.Cuts x12.Attrs),y5))
 ) else (
 some (.inr ((YAR.mk y2.Adds y2.Cuts x8.Attrs),y2))
 )
noncomputable def YAw (x2:YAP) (shown1:List Int) (last2:Int):Option (Int ⊕ Int):=
 bnd1 (idx shown1 last2) fun (x19:Int)=>
 bnd1 (idx x2.Flow x19) fun (x20:YAC)=>
 if (!decide (x20.Char=10)) then (
 bnd1 (chk .i64 (last2+1)) fun (last5:Int)=>
 some (.inl last5)
 ) else (
 some (.inr last2)
 )
noncomputable def YBP (d1:GDoc) (s1:GSel) (change1:List YAG):Option (Bool):=
 bnd1 (YE8) fun (r1:Bool)=>
 if (!r1) then (
 some false
 ) else (
 bnd2 (YA9 d1 s1 change1) fun (r2:List GOp) (r3:Int)=>
 bnd2 (YAZ d1 s1 change1) fun (r4:List GOp) (r5:Int)=>
 bnd1 (YDo d1 s1) fun (f1:Int)=>
 bnd1 (
 if (decide (f1=0)) then (
 bnd1 (YBm change1 true) fun (f3:Int)=>
 some f3
 ) else (
 some f1
 )
 ) fun (f2:Int)=>
 if (!decide (f2=0)) then (
 bnd1 (gd (((decide (r3=f2)) && (decide (r5=f2))) == true) (chk .i64 ((r2.length:Int)+(r4.length:Int)))) fun (x1:Int)=>
 some (((decide (r3=f2)) && (decide (r5=f2))) && (decide (x1=0)))
 ) else (
 bnd1 (YFn d1 s1.Node) fun (r6:Int)=>
 bnd1 (idx d1.Nodes r6) fun (x2:YAP)=>
 bnd1 (YFT x2.Flow 0) fun (shown1:List Int)=>
 bnd1 (chk .i64 (s1.To-1)) fun (x3:Int)=>
 bnd1 (iter (fun (a:Int)=>YAw x2 shown1 a) (max s1.From x3)) fun (last4:Int)=>
 bnd1 (chk .i64 ((x2.Flow.length:Int)+1)) fun (x4:Int)=>
 bnd1 (mk 24 x4 []) fun (l1:List (List YAC))=>
 bnd1 (mk 1 (x2.Flow.length:Int) false) fun (l2:List Bool)=>
 bnd1 (mk 24 (x2.Flow.length:Int) []) fun (l3:List (List YAG))=>
 bnd2 (iter (fun (a:Int × YAR × YAR)=>YAc s1 change1 x2 shown1 last4 a.1 a.2.1 a.2.2) (0,(YAR.mk l1 l2 l3),(YAR.mk l1 l2 l3))) fun (x11:YAR) (y4:YAR)=>
 bnd1 (YDg (YAR.mk y4.Adds y4.Cuts x11.Attrs)) fun (r7:List YAB)=>
 bnd1 (YDg y4) fun (r8:List YAB)=>
 bnd1 (gd (((decide (r3=0)) && (decide (r5=0))) == true) (YCx r2 [(GOp.mk 2 s1.Node (YAP.mk 0 0 [] [] (YAy.mk 0 0 [] []) []) [] r7 (YAj.mk [] [] [] [] []) [])])) fun (r9:Bool)=>
 bnd1 (gd ((((decide (r3=0)) && (decide (r5=0))) && r9) == true) (YCx r4 [(GOp.mk 2 s1.Node (YAP.mk 0 0 [] [] (YAy.mk 0 0 [] []) []) [] r8 (YAj.mk [] [] [] [] []) [])])) fun (r10:Bool)=>
 some ((((decide (r3=0)) && (decide (r5=0))) && r9) && r10)
 )
 )
end Go.Proofs.YtdafahjmopdleaaGreatDoor.Al


namespace Go.Proofs.YtdafahjmopdleaaGreatDoor.Al
end Go.Proofs.YtdafahjmopdleaaGreatDoor.Al

