/- Models, as printed. -/
import Derived.Test.YtkefchjpggjibaaGreatDoorAl3
namespace Go.Proofs.YtkefchjpggjibaaGreatDoor.Al
structure YAf where
 Kind:Int
 N:Int
deriving DecidableEq
instance:Inhabited YAf:=⟨⟨0,0⟩⟩
@[reducible] def YAf.row (x:YAf):List RV:=[.int .i64 x.Kind,.int .i64 x.N]
structure YQ6 where
 steps:List YAf
 used:Int
deriving DecidableEq
instance:Inhabited YQ6:=⟨⟨[],0⟩⟩
structure YQ5 where
 out:List YAf
 add:Int
 cut:Int
deriving DecidableEq
instance:Inhabited YQ5:=⟨⟨[],0,0⟩⟩
structure YAD where
 Name:List UInt8
 Value:List UInt8
deriving DecidableEq
instance:Inhabited YAD:=⟨⟨[],[]⟩⟩
@[reducible] def YAD.row (x:YAD):List RV:=[.str x.Name,.str x.Value]
structure YAB where
 Char:Int
 Ref:Int
 Attrs:List YAD
deriving DecidableEq
instance:Inhabited YAB:=⟨⟨0,0,[]⟩⟩
@[reducible] def YAB.row (x:YAB):List RV:=[.int .i64 x.Char,.int .i64 x.Ref,.sl (x.Attrs.map YAD.row)]
structure YAd where
 Row:Int
 Col:Int
 Text:List UInt8
 Ref:Int
 Attrs:List YAD
deriving DecidableEq
instance:Inhabited YAd:=⟨⟨0,0,[],0,[]⟩⟩
@[reducible] def YAd.row (x:YAd):List RV:=[.int .i64 x.Row,.int .i64 x.Col,.str x.Text,.int .i64 x.Ref,.sl (x.Attrs.map YAD.row)]
structure YAW where
 Row:Int
 Col:Int
 H:Int
 W:Int
deriving DecidableEq
instance:Inhabited YAW:=⟨⟨0,0,0,0⟩⟩
@[reducible] def YAW.row (x:YAW):List RV:=[.int .i64 x.Row,.int .i64 x.Col,.int .i64 x.H,.int .i64 x.W]
structure YAy where
 Rows:Int
 Cols:Int
 Cells:List YAd
 Merges:List YAW
deriving DecidableEq
instance:Inhabited YAy:=⟨⟨0,0,[],[]⟩⟩
@[reducible] def YAy.row (x:YAy):List RV:=[.int .i64 x.Rows,.int .i64 x.Cols,.sl (x.Cells.map YAd.row),.sl (x.Merges.map YAW.row)]
structure YAP where
 Clock:Int
 Site:Int
 Kind:Int
 Item:Int
 Parent:Int
 Place:List UInt8
 Name:List UInt8
 Value:List UInt8
deriving DecidableEq
instance:Inhabited YAP:=⟨⟨0,0,0,0,0,[],[],[]⟩⟩
@[reducible] def YAP.row (x:YAP):List RV:=[.int .i64 x.Clock,.int .i64 x.Site,.int .i64 x.Kind,.int .i64 x.Item,.int .i64 x.Parent,.str x.Place,.str x.Name,.str x.Value]
structure YAR where
 ID:Int
 Kind:Int
 Attrs:List YAD
 Flow:List YAB
 Grid:YAy
 Draw:List YAP
deriving DecidableEq
instance:Inhabited YAR:=⟨⟨0,0,[],[],(YAy.mk 0 0 [] []),[]⟩⟩
@[reducible] def YAR.row (x:YAR):List RV:=[.int .i64 x.ID,.int .i64 x.Kind,.sl (x.Attrs.map YAD.row),.sl (x.Flow.map YAB.row),.int .i64 x.Grid.Rows,.int .i64 x.Grid.Cols,.sl (x.Grid.Cells.map YAd.row),.sl (x.Grid.Merges.map YAW.row),.sl (x.Draw.map YAP.row)]
structure YAC where
 Kind:Int
 N:Int
 Attrs:List YAD
 Elems:List YAB
deriving DecidableEq
instance:Inhabited YAC:=⟨⟨0,0,[],[]⟩⟩
@[reducible] def YAC.row (x:YAC):List RV:=[.int .i64 x.Kind,.int .i64 x.N,.sl (x.Attrs.map YAD.row),.sl (x.Elems.map YAB.row)]
structure YAY where
 Rows:List YAf
 Cols:List YAf
 Cells:List YAd
 Split:List YAW
 Merge:List YAW
deriving DecidableEq
instance:Inhabited YAY:=⟨⟨[],[],[],[],[]⟩⟩
structure GOp where
 Kind:Int
 Node:Int
 New:YAR
 Attrs:List YAD
 Steps:List YAC
 Grid:YAY
 Draw:List YAP
deriving DecidableEq
instance:Inhabited GOp:=⟨⟨0,0,(YAR.mk 0 0 [] [] (YAy.mk 0 0 [] []) []),[],[],(YAY.mk [] [] [] [] []),[]⟩⟩
@[reducible] def GOp.row (x:GOp):List RV:=[.int .i64 x.Kind,.int .i64 x.Node,.int .i64 x.New.ID,.int .i64 x.New.Kind,.sl (x.New.Attrs.map YAD.row),.sl (x.New.Flow.map YAB.row),.int .i64 x.New.Grid.Rows,.int .i64 x.New.Grid.Cols,.sl (x.New.Grid.Cells.map YAd.row),.sl (x.New.Grid.Merges.map YAW.row),.sl (x.New.Draw.map YAP.row),.sl (x.Attrs.map YAD.row),.sl (x.Steps.map YAC.row),.sl (x.Grid.Rows.map YAf.row),.sl (x.Grid.Cols.map YAf.row),.sl (x.Grid.Cells.map YAd.row),.sl (x.Grid.Split.map YAW.row),.sl (x.Grid.Merge.map YAW.row),.sl (x.Draw.map YAP.row)]
structure GEntry where
 Site:Int
 Number:Int
 Change:List GOp
 Undoes:Int
 Refused:Int
deriving DecidableEq
instance:Inhabited GEntry:=⟨⟨0,0,[],0,0⟩⟩
structure GSpan where
 From:Int
 To:Int
deriving DecidableEq
instance:Inhabited GSpan:=⟨⟨0,0⟩⟩
noncomputable def YC2 (x1:Int) (low1:Int) (high1:Int):Option (Bool):=
 some ((decide (low1≤x1)) && (decide (x1≤high1)))
noncomputable def YDx (s1:List UInt8) (x2:Int):Option (Int ⊕ (Ctl Unit Bool)):=
 if (decide (x2<(s1.length:Int))) then (
 bnd1 (idx s1 x2) fun (c1:UInt8)=>
 if (((((decide ((c1.toNat:Int)<97)) || (decide (122<(c1.toNat:Int)))) && ((decide ((c1.toNat:Int)<48)) || (decide (57<(c1.toNat:Int))))) && (!decide ((c1.toNat:Int)=46))) && (!decide ((c1.toNat:Int)=45))) then (
 some (.inr (.ext false))
 ) else (
 bnd1 (chk .i64 (x2+1)) fun (x4:Int)=>
 some (.inl x4)
 )
 ) else (
 some (.inr (.nrm ()))
 )
noncomputable def YGh (s1:List UInt8):Option (Bool):=
 bnd1 (gd (((decide (s1=[])) || (decide (24<(s1.length:Int)))) == false) (idx s1 0)) fun (ch1:UInt8)=>
 bnd1 (gd ((((decide (s1=[])) || (decide (24<(s1.length:Int)))) || (decide ((ch1.toNat:Int)<97))) == false) (idx s1 0)) fun (ch2:UInt8)=>
 if ((((decide (s1=[])) || (decide (24<(s1.length:Int)))) || (decide ((ch1.toNat:Int)<97))) || (decide (122<(ch2.toNat:Int)))) then (
 some false
 ) else (
 ctl1 (iter (fun (a:Int)=>YDx s1 a) 0) fun (u2:Unit)=>
 some true
 )
noncomputable def YET (s1:List UInt8) (x2:Int):Option (Int ⊕ (Ctl Unit Bool)):=
 if (decide (x2<(s1.length:Int))) then (
 bnd1 (idx s1 x2) fun (ch1:UInt8)=>
 if ((decide ((ch1.toNat:Int)<32)) || (decide (126<(ch1.toNat:Int)))) then (
 some (.inr (.ext false))
 ) else (
 bnd1 (chk .i64 (x2+1)) fun (x4:Int)=>
 some (.inl x4)
 )
 ) else (
 some (.inr (.nrm ()))
 )
noncomputable def YCz (s1:List UInt8):Option (Bool):=
 if ((decide (s1=[])) || (decide (200<(s1.length:Int)))) then (
 some false
 ) else (
 ctl1 (iter (fun (a:Int)=>YET s1 a) 0) fun (u2:Unit)=>
 some true
 )
noncomputable def YDT (l1:List YAD) (empty1:Bool) (x2:Int):Option (Int ⊕ (Ctl Unit Int)):=
 if (decide (x2<(l1.length:Int))) then (
 bnd1 (idx l1 x2) fun (x4:YAD)=>
 bnd1 (YGh x4.Name) fun (r1:Bool)=>
 if (!r1) then (
 some (.inr (.ext 9))
 ) else (
 bnd1 (YCz x4.Value) fun (r2:Bool)=>
 if ((!r2) && (!(empty1 && (decide (x4.Value=[]))))) then (
 some (.inr (.ext 23))
 ) else (
 bnd1 (gd ((decide (0<x2)) == true) (chk .i64 (x2-1))) fun (x5:Int)=>
 bnd1 (gd ((decide (0<x2)) == true) (idx l1 x5)) fun (x6:YAD)=>
 if ((decide (0<x2)) && (sLt x4.Name x6.Name || decide (x4.Name=x6.Name))) then (
 some (.inr (.ext 5))
 ) else (
 bnd1 (chk .i64 (x2+1)) fun (x7:Int)=>
 some (.inl x7)
 )
 )
 )
 ) else (
 some (.inr (.nrm ()))
 )
noncomputable def YFW (l1:List YAD) (empty1:Bool):Option (Int):=
 ctl1 (iter (fun (a:Int)=>YDT l1 empty1 a) 0) fun (u2:Unit)=>
 some 0
noncomputable def YDU (l1:List YAD):Option (Int):=
 bnd1 (YFW l1 false) fun (r1:Int)=>
 some r1
noncomputable def YBf (l1:List YAD):Option (Int):=
 bnd1 (YFW l1 true) fun (r1:Int)=>
 some r1
noncomputable def YCm (a1:List YAD) (b1:List YAD) (x2:Int):Option (Int ⊕ (Ctl Unit Bool)):=
 if (decide (x2<(a1.length:Int))) then (
 bnd1 (idx a1 x2) fun (x4:YAD)=>
 bnd1 (idx b1 x2) fun (x5:YAD)=>
 if (!(decide (x4.Name=x5.Name) && (decide (x4.Value=x5.Value) && true))) then (
 some (.inr (.ext false))
 ) else (
 bnd1 (chk .i64 (x2+1)) fun (x6:Int)=>
 some (.inl x6)
 )
 ) else (
 some (.inr (.nrm ()))
 )
noncomputable def YA7 (a1:List YAD) (b1:List YAD):Option (Bool):=
 if (!decide ((a1.length:Int)=(b1.length:Int))) then (
 some false
 ) else (
 ctl1 (iter (fun (a:Int)=>YCm a1 b1 a) 0) fun (u2:Unit)=>
 some true
 )
noncomputable def YEZ (s1:List UInt8) (x2:Int):Option (Int ⊕ (Ctl Unit Bool)):=
 if (decide (x2<(s1.length:Int))) then (
 bnd1 (idx s1 x2) fun (ch1:UInt8)=>
 if ((!((decide (97≤(ch1.toNat:Int))) && (decide ((ch1.toNat:Int)≤122)))) && ((decide (x2=0)) || (((!decide ((ch1.toNat:Int)=46)) && (!decide ((ch1.toNat:Int)=45))) && ((decide ((ch1.toNat:Int)<48)) || (decide (57<(ch1.toNat:Int))))))) then (
 some (.inr (.ext false))
 ) else (
 bnd1 (chk .i64 (x2+1)) fun (x4:Int)=>
 some (.inl x4)
 )
 ) else (
 some (.inr (.nrm ()))
 )
noncomputable def YH2 (s1:List UInt8):Option (Bool):=
 ctl1 (iter (fun (a:Int)=>YEZ s1 a) 0) fun (u2:Unit)=>
 some ((decide (1≤(s1.length:Int))) && (decide ((s1.length:Int)≤24)))
noncomputable def YEs (s1:List UInt8) (x2:Int):Option (Int ⊕ (Ctl Unit Bool)):=
 if (decide (x2<(s1.length:Int))) then (
 bnd1 (idx s1 x2) fun (ch1:UInt8)=>
 if ((decide ((ch1.toNat:Int)<32)) || (decide (126<(ch1.toNat:Int)))) then (
 some (.inr (.ext false))
 ) else (
 bnd1 (chk .i64 (x2+1)) fun (x4:Int)=>
 some (.inl x4)
 )
 ) else (
 some (.inr (.nrm ()))
 )
noncomputable def YFi (s1:List UInt8):Option (Bool):=
 ctl1 (iter (fun (a:Int)=>YEs s1 a) 0) fun (u2:Unit)=>
 some ((decide (1≤(s1.length:Int))) && (decide ((s1.length:Int)≤200)))
noncomputable def YBn (l1:List YAD) (change1:Bool) (x2:Int):Option (Int ⊕ (Ctl Unit Int)):=
 if (decide (x2<(l1.length:Int))) then (
 bnd1 (idx l1 x2) fun (x4:YAD)=>
 bnd1 (YH2 x4.Name) fun (r1:Bool)=>
 if (!r1) then (
 some (.inr (.ext 9))
 ) else (
 bnd1 (YFi x4.Value) fun (r2:Bool)=>
 if ((!r2) && ((!decide (x4.Value=[])) || (!change1))) then (
 some (.inr (.ext 23))
 ) else (
 bnd1 (gd ((decide (0<x2)) == true) (chk .i64 (x2-1))) fun (x5:Int)=>
 bnd1 (gd ((decide (0<x2)) == true) (idx l1 x5)) fun (x6:YAD)=>
 if ((decide (0<x2)) && (!sLt x6.Name x4.Name)) then (
 some (.inr (.ext 5))
 ) else (
 bnd1 (chk .i64 (x2+1)) fun (x7:Int)=>
 some (.inl x7)
 )
 )
 )
 ) else (
 some (.inr (.nrm ()))
 )
noncomputable def YBR (l1:List YAD) (change1:Bool):Option (Int):=
 ctl1 (iter (fun (a:Int)=>YBn l1 change1 a) 0) fun (u2:Unit)=>
 some 0
noncomputable def YFw (l1:List YAD) (name1:List UInt8) (x2:Int):Option (Int ⊕ (Ctl Unit (List UInt8))):=
 if (decide (x2<(l1.length:Int))) then (
 bnd1 (idx l1 x2) fun (x4:YAD)=>
 if (decide (x4.Name=name1)) then (
 some (.inr (.ext x4.Value))
 ) else (
 bnd1 (chk .i64 (x2+1)) fun (x5:Int)=>
 some (.inl x5)
 )
 ) else (
 some (.inr (.nrm ()))
 )
noncomputable def YG4 (l1:List YAD) (name1:List UInt8):Option ((List UInt8)):=
 ctl1 (iter (fun (a:Int)=>YFw l1 name1 a) 0) fun (u2:Unit)=>
 some []
noncomputable def YGR (l1:List YAD) (name1:List UInt8) (x2:Int):Option (Int ⊕ (Ctl Unit (List UInt8))):=
 if (decide (x2<(l1.length:Int))) then (
 bnd1 (idx l1 x2) fun (x4:YAD)=>
 if (decide (x4.Name=name1)) then (
 some (.inr (.ext x4.Value))
 ) else (
 bnd1 (chk .i64 (x2+1)) fun (x5:Int)=>
 some (.inl x5)
 )
 ) else (
 some (.inr (.nrm ()))
 )
noncomputable def YLj (l1:List YAD) (name1:List UInt8):Option ((List UInt8)):=
 ctl1 (iter (fun (a:Int)=>YGR l1 name1 a) 0) fun (u2:Unit)=>
 some []
noncomputable def YQj:Option (YAB):=
 some (YAB.mk 10 0 [])
noncomputable def YEx (c1:Int):Option (Bool):=
 some (((((decide (c1=9)) || (decide (c1=10))) || ((decide (32≤c1)) && (decide (c1<127)))) || ((decide (160≤c1)) && (decide (c1<55296)))) || ((decide (57343<c1)) && (decide (c1≤1114111))))
noncomputable def YGd (x1:YAB):Option (Int):=
 if ((!decide (x1.Char=0)) == (!decide (x1.Ref=0))) then (
 some 4
 ) else (
 bnd1 (gd ((decide (x1.Ref=0)) == true) (YEx x1.Char)) fun (r1:Bool)=>
 bnd1 (
 if ((decide (x1.Ref=0)) && (!r1)) then (
 some ((decide (x1.Ref=0)) && (!r1))
 ) else (
 some ((!decide (x1.Ref=0)) && ((decide (x1.Ref<1)) || (decide (1073741824<x1.Ref))))
 )
 ) fun (x2:Bool)=>
 if x2 then (
 some 2
 ) else (
 bnd1 (YDU x1.Attrs) fun (r2:Int)=>
 some r2
 )
 )
noncomputable def YCM (f1:List YAB) (x2:Int):Option (Int ⊕ (Ctl Unit Int)):=
 if (decide (x2<(f1.length:Int))) then (
 bnd1 (idx f1 x2) fun (x4:YAB)=>
 bnd1 (YGd x4) fun (e1:Int)=>
 if (!decide (e1=0)) then (
 some (.inr (.ext e1))
 ) else (
 bnd1 (chk .i64 (x2+1)) fun (x5:Int)=>
 some (.inl x5)
 )
 ) else (
 some (.inr (.nrm ()))
 )
noncomputable def YCy (f1:List YAB):Option (Int):=
 ctl1 (iter (fun (a:Int)=>YCM f1 a) 0) fun (u2:Unit)=>
 some 0
noncomputable def YEn (x1:YAB) (mode1:Int):Option (Bool):=
 bnd1 (YG4 x1.Attrs [104,105,100,100,101,110]) fun (r1:List UInt8)=>
 bnd1 (gd (((decide (r1=[111,110])) == false) && ((decide (mode1=0)) == true)) (YG4 x1.Attrs [99,117,116])) fun (r2:List UInt8)=>
 bnd1 (gd ((((decide (r1=[111,110])) || ((decide (mode1=0)) && (!decide (r2=[])))) == false) && ((decide (mode1=1)) == true)) (YG4 x1.Attrs [97,100,100])) fun (r3:List UInt8)=>
 some (((decide (r1=[111,110])) || ((decide (mode1=0)) && (!decide (r2=[])))) || ((decide (mode1=1)) && (!decide (r3=[]))))
noncomputable def YCG (f1:List YAB) (mode1:Int) (x2:Int) (out2:List Int):Option ((Int × (List Int)) ⊕ (List Int)):=
 if (decide (x2<(f1.length:Int))) then (
 bnd1 (
 bnd1 (idx f1 x2) fun (x5:YAB)=>
 bnd1 (YEn x5 mode1) fun (r1:Bool)=>
 bnd1 (gd ((!r1) == false) (chk .i64 ((f1.length:Int)-1))) fun (x6:Int)=>
 if ((!r1) || ((decide (x2=x6)) && (decide (x5.Char=10)))) then (
 bnd1 (app 8 out2 [x2]) fun (out6:List Int)=>
 some out6
 ) else (
 some out2
 )
 ) fun (out5:List Int)=>
 bnd1 (chk .i64 (x2+1)) fun (x4:Int)=>
 some (.inl (x4,out5))
 ) else (
 some (.inr out2)
 )
noncomputable def YDm (f1:List YAB) (mode1:Int):Option ((List Int)):=
 bnd1 (iter (fun (a:Int × (List Int))=>YCG f1 mode1 a.1 a.2) (0,[])) fun (out4:List Int)=>
 some out4
noncomputable def YF4 (c1:Int):Option (Bool):=
 bnd1 (gd (((decide (c1=9)) || (decide (c1=10))) == false) (YC2 c1 32 126)) fun (r1:Bool)=>
 bnd1 (gd ((((decide (c1=9)) || (decide (c1=10))) || r1) == false) (YC2 c1 160 55295)) fun (r2:Bool)=>
 bnd1 (gd (((((decide (c1=9)) || (decide (c1=10))) || r1) || r2) == false) (YC2 c1 57344 1114111)) fun (r3:Bool)=>
 some (((((decide (c1=9)) || (decide (c1=10))) || r1) || r2) || r3)
noncomputable def YEI (x1:YAB):Option (Int):=
 if (((decide (x1.Char=0)) && (decide (x1.Ref=0))) || ((!decide (x1.Char=0)) && (!decide (x1.Ref=0)))) then (
 some 4
 ) else (
 bnd1 (gd ((!decide (x1.Char=0)) == true) (YF4 x1.Char)) fun (r1:Bool)=>
 bnd1 (gd ((((!decide (x1.Char=0)) && (!r1)) == false) && ((!decide (x1.Ref=0)) == true)) (YC2 x1.Ref 1 1073741824)) fun (r2:Bool)=>
 if (((!decide (x1.Char=0)) && (!r1)) || ((!decide (x1.Ref=0)) && (!r2))) then (
 some 2
 ) else (
 bnd1 (YBR x1.Attrs false) fun (r3:Int)=>
 some r3
 )
 )
noncomputable def YGQ (l1:List YAD) (name1:List UInt8) (x2:Int):Option (Int ⊕ (Ctl Unit Bool)):=
 if (decide (x2<(l1.length:Int))) then (
 bnd1 (idx l1 x2) fun (x4:YAD)=>
 if (decide (x4.Name=name1)) then (
 some (.inr (.ext true))
 ) else (
 bnd1 (chk .i64 (x2+1)) fun (x5:Int)=>
 some (.inl x5)
 )
 ) else (
 some (.inr (.nrm ()))
 )
noncomputable def YJk (l1:List YAD) (name1:List UInt8):Option (Bool):=
 ctl1 (iter (fun (a:Int)=>YGQ l1 name1 a) 0) fun (u2:Unit)=>
 some false
noncomputable def YDq (f1:List YAB) (mode1:Int) (x2:Int) (out2:List Int):Option ((Int × (List Int)) ⊕ (List Int)):=
 if (decide (x2<(f1.length:Int))) then (
 bnd1 (
 bnd1 (idx f1 x2) fun (x5:YAB)=>
 bnd1 (YLj x5.Attrs [104,105,100,100,101,110]) fun (r1:List UInt8)=>
 bnd1 (gd ((decide (mode1=0)) == true) (YJk x5.Attrs [99,117,116])) fun (r2:Bool)=>
 bnd1 (gd ((((decide (mode1=0)) && r2) == false) && ((decide (mode1=1)) == true)) (YJk x5.Attrs [97,100,100])) fun (r3:Bool)=>
 bnd1 (
 if (((decide (mode1=0)) && r2) || ((decide (mode1=1)) && r3)) then (
 some false
 ) else (
 some (!decide (r1=[111,110]))
 )
 ) fun (show1:Bool)=>
 bnd1 (gd (show1 == false) (chk .i64 ((f1.length:Int)-1))) fun (x6:Int)=>
 if (show1 || ((decide (x2=x6)) && (decide (x5.Char=10)))) then (
 bnd1 (app 8 out2 [x2]) fun (out6:List Int)=>
 some out6
 ) else (
 some out2
 )
 ) fun (out5:List Int)=>
 bnd1 (chk .i64 (x2+1)) fun (x4:Int)=>
 some (.inl (x4,out5))
 ) else (
 some (.inr out2)
 )
noncomputable def YGO (f1:List YAB) (mode1:Int):Option ((List Int)):=
 bnd1 (iter (fun (a:Int × (List Int))=>YDq f1 mode1 a.1 a.2) (0,[])) fun (out4:List Int)=>
 some out4
noncomputable def YE1 (a1:List YAD) (b1:List YAD) (x2:Int):Option (Int ⊕ (Ctl Unit Bool)):=
 if (decide (x2<(a1.length:Int))) then (
 bnd1 (idx a1 x2) fun (x4:YAD)=>
 bnd1 (idx b1 x2) fun (x5:YAD)=>
 if (!(decide (x4.Name=x5.Name) && (decide (x4.Value=x5.Value) && true))) then (
 some (.inr (.ext false))
 ) else (
 bnd1 (chk .i64 (x2+1)) fun (x6:Int)=>
 some (.inl x6)
 )
 ) else (
 some (.inr (.nrm ()))
 )
noncomputable def YDD (a1:List YAD) (b1:List YAD):Option (Bool):=
 if (!decide ((a1.length:Int)=(b1.length:Int))) then (
 some false
 ) else (
 ctl1 (iter (fun (a:Int)=>YE1 a1 b1 a) 0) fun (u2:Unit)=>
 some true
 )
structure YAq where
 Adds:List (List YAB)
 Cuts:List Bool
 Attrs:List (List YAD)
deriving DecidableEq
instance:Inhabited YAq:=⟨⟨[],[],[]⟩⟩
noncomputable def YBm (a1:YAq) (cuts2:Int) (i4:Int) (out2:List YAC) (adds2:List YAB):Option ((Int × Int × (List YAC) × (List YAB)) ⊕ (List YAC)):=
 if (decide (i4≤(a1.Cuts.length:Int))) then (
 ctl3 (
 bnd1 (idx a1.Adds i4) fun (x1:List YAB)=>
 bnd1 (app 40 adds2 x1) fun (adds5:List YAB)=>
 bnd1 (gd ((decide (i4<(a1.Cuts.length:Int))) == true) (idx a1.Cuts i4)) fun (x2:Bool)=>
 if ((decide (i4<(a1.Cuts.length:Int))) && x2) then (
 bnd1 (chk .i64 (cuts2+1)) fun (cuts5:Int)=>
 some (.nrm (cuts5,out2,adds5))
 ) else (
 bnd1 (
 if (decide (0<(adds5.length:Int))) then (
 bnd1 (app 64 out2 [(YAC.mk 1 0 [] adds5)]) fun (out10:List YAC)=>
 some out10
 ) else (
 some out2
 )
 ) fun (out6:List YAC)=>
 bnd1 (
 if (decide (0<cuts2)) then (
 bnd1 (app 64 out6 [(YAC.mk 2 cuts2 [] [])]) fun (out9:List YAC)=>
 some out9
 ) else (
 some out6
 )
 ) fun (out7:List YAC)=>
 if (decide (i4=(a1.Cuts.length:Int))) then (
 some (.ext (.inr out7))
 ) else (
 bnd1 (chk .i64 ((out7.length:Int)-1)) fun (k1:Int)=>
 bnd1 (gd ((decide (0≤k1)) == true) (idx out7 k1)) fun (x3:YAC)=>
 bnd1 (gd (((decide (0≤k1)) && (decide (x3.Kind=0))) == true) (idx out7 k1)) fun (x4:YAC)=>
 bnd1 (gd (((decide (0≤k1)) && (decide (x3.Kind=0))) == true) (idx a1.Attrs i4)) fun (x5:List YAD)=>
 bnd1 (gd (((decide (0≤k1)) && (decide (x3.Kind=0))) == true) (YA7 x4.Attrs x5)) fun (r1:Bool)=>
 if (((decide (0≤k1)) && (decide (x3.Kind=0))) && r1) then (
 bnd1 (idx out7 k1) fun (x6:YAC)=>
 bnd1 (chk .i64 (x6.N+1)) fun (x7:Int)=>
 some (.nrm (0,(out7.set k1.toNat (YAC.mk x6.Kind x7 x6.Attrs x6.Elems)),[]))
 ) else (
 bnd1 (idx a1.Attrs i4) fun (x8:List YAD)=>
 bnd1 (app 64 out7 [(YAC.mk 0 1 x8 [])]) fun (out8:List YAC)=>
 some (.nrm (0,out8,[]))
 )
 )
 )
 ) fun (cuts4:Int) (out5:List YAC) (adds4:List YAB)=>
 bnd1 (chk .i64 (i4+1)) fun (i10:Int)=>
 some (.inl (cuts4,i10,out5,adds4))
 ) else (
 some (.inr out2)
 )
noncomputable def YEb (a1:YAq):Option ((List YAC)):=
 bnd1 (iter (fun (a:Int × Int × (List YAC) × (List YAB))=>YBm a1 a.1 a.2.1 a.2.2.1 a.2.2.2) (0,0,[],[])) fun (out4:List YAC)=>
 some out4
noncomputable def YCi (a1:List YAf) (b1:List YAf) (x2:Int):Option (Int ⊕ (Ctl Unit Bool)):=
 if (decide (x2<(a1.length:Int))) then (
 bnd1 (idx a1 x2) fun (x4:YAf)=>
 bnd1 (idx b1 x2) fun (x5:YAf)=>
 if (!(decide (x4.Kind=x5.Kind) && (decide (x4.N=x5.N) && true))) then (
 some (.inr (.ext false))
 ) else (
 bnd1 (chk .i64 (x2+1)) fun (x6:Int)=>
 some (.inl x6)
 )
 ) else (
 some (.inr (.nrm ()))
 )
noncomputable def YDL (a1:List YAf) (b1:List YAf):Option (Bool):=
 if (!decide ((a1.length:Int)=(b1.length:Int))) then (
 some false
 ) else (
 ctl1 (iter (fun (a:Int)=>YCi a1 b1 a) 0) fun (u2:Unit)=>
 some true
 )
structure YPw where
 steps:List YAC
 used:Int
deriving DecidableEq
instance:Inhabited YPw:=⟨⟨[],0⟩⟩
structure YAE where
 out:List YAC
 add:List YAB
 cut:Int
deriving DecidableEq
instance:Inhabited YAE:=⟨⟨[],[],0⟩⟩
noncomputable def YKH (name1:List UInt8):Option ((List YAD)):=
 some [(YAD.mk name1 [111,110])]
noncomputable def YFT (s1:YAC):Option (Int):=
 bnd1 (
 if (decide (s1.Kind=0)) then (
 some (decide (s1.Kind=0))
 ) else (
 some (decide (s1.Kind=2))
 )
 ) fun (x1:Bool)=>
 if x1 then (
 if ((decide (0<(s1.Elems.length:Int))) || ((decide (s1.Kind=2)) && (decide (0<(s1.Attrs.length:Int))))) then (
 some 4
 ) else (
 if ((decide (s1.N<1)) || (decide (2147483647<s1.N))) then (
 some 2
 ) else (
 bnd1 (YBf s1.Attrs) fun (r1:Int)=>
 some r1
 )
 )
 ) else (
 if (decide (s1.Kind=1)) then (
 if ((!decide (s1.N=0)) || (decide (0<(s1.Attrs.length:Int)))) then (
 some 4
 ) else (
 if (decide ((s1.Elems.length:Int)=0)) then (
 some 11
 ) else (
 bnd1 (YCy s1.Elems) fun (r2:Int)=>
 some r2
 )
 )
 ) else (
 some 8
 )
 )
noncomputable def YGf (s1:YAC):Option (Int):=
 if (decide (s1.Kind=1)) then (
 some (s1.Elems.length:Int)
 ) else (
 some s1.N
 )
noncomputable def YBS (d1:List YAC) (before2:Int) (after2:Int) (x2:Int):Option ((Int × Int × Int) ⊕ (Ctl (Int × Int) Int)):=
 if (decide (x2<(d1.length:Int))) then (
 ctl2 (
 bnd1 (idx d1 x2) fun (x5:YAC)=>
 bnd1 (YFT x5) fun (e1:Int)=>
 if (!decide (e1=0)) then (
 some (.ext (.inr (.ext e1)))
 ) else (
 ctl1 (
 if (decide (0<x2)) then (
 bnd1 (chk .i64 (x2-1)) fun (x8:Int)=>
 bnd1 (idx d1 x8) fun (x9:YAC)=>
 bnd1 (gd (((decide (x9.Kind=x5.Kind)) == true) && ((!decide (x5.Kind=0)) == false)) (YDD x9.Attrs x5.Attrs)) fun (r2:Bool)=>
 if (((decide (x9.Kind=x5.Kind)) && ((!decide (x5.Kind=0)) || r2)) || ((decide (x9.Kind=2)) && (decide (x5.Kind=1)))) then (
 some (.ext (.ext (.inr (.ext 5))))
 ) else (
 some (.nrm ())
 )
 ) else (
 some (.nrm ())
 )
 ) fun (u2:Unit)=>
 bnd1 (
 if (!decide (x5.Kind=1)) then (
 bnd1 (chk .i64 (before2+x5.N)) fun (x7:Int)=>
 some (min x7 2147483648)
 ) else (
 some before2
 )
 ) fun (before6:Int)=>
 if (!decide (x5.Kind=2)) then (
 bnd1 (YGf x5) fun (r1:Int)=>
 bnd1 (chk .i64 (after2+r1)) fun (x6:Int)=>
 some (.nrm (before6,(min x6 2147483648)))
 ) else (
 some (.nrm (before6,after2))
 )
 )
 ) fun (before5:Int) (after5:Int)=>
 bnd1 (chk .i64 (x2+1)) fun (x4:Int)=>
 some (.inl (before5,after5,x4))
 ) else (
 some (.inr (.nrm (before2,after2)))
 )
noncomputable def YFs (d1:List YAC):Option (Int):=
 ctl2 (iter (fun (a:Int × Int × Int)=>YBS d1 a.1 a.2.1 a.2.2) (0,0,0)) fun (before4:Int) (after4:Int)=>
 if ((decide (2147483647<before4)) || (decide (2147483647<after4))) then (
 some 3
 ) else (
 some 0
 )
noncomputable def YCQ (f1:List YAB) (x2:Int) (out3:List YAB):Option ((Int × (List YAB)) ⊕ (List YAB)):=
 if (decide (x2<(f1.length:Int))) then (
 bnd1 (idx f1 x2) fun (x4:YAB)=>
 bnd1 (app 32 [] x4.Attrs) fun (l1:List YAD)=>
 bnd1 (idx out3 x2) fun (x5:YAB)=>
 bnd1 (chk .i64 (x2+1)) fun (x6:Int)=>
 some (.inl (x6,(out3.set x2.toNat (YAB.mk x4.Char x4.Ref l1))))
 ) else (
 some (.inr out3)
 )
noncomputable def YHt (f1:List YAB):Option ((List YAB)):=
 bnd1 (mk 40 (f1.length:Int) (YAB.mk 0 0 [])) fun (out1:List YAB)=>
 bnd1 (iter (fun (a:Int × (List YAB))=>YCQ f1 a.1 a.2) (0,out1)) fun (out5:List YAB)=>
 some out5
noncomputable def YBZ (w1:YAE):Option (YAE):=
 bnd1 (
 if (decide (0<(w1.add.length:Int))) then (
 bnd1 (app 64 w1.out [(YAC.mk 1 0 [] w1.add)]) fun (l2:List YAC)=>
 some (YAE.mk l2 w1.add w1.cut)
 ) else (
 some w1
 )
 ) fun (w2:YAE)=>
 bnd1 (
 if (decide (0<w2.cut)) then (
 bnd1 (app 64 w2.out [(YAC.mk 2 w2.cut [] [])]) fun (l1:List YAC)=>
 some (YAE.mk l1 w2.add w2.cut)
 ) else (
 some w2
 )
 ) fun (w3:YAE)=>
 some (YAE.mk w3.out [] 0)
noncomputable def YBB (w1:YAE) (n1:Int) (attrs1:List YAD):Option (YAE):=
 if (decide (n1=0)) then (
 some w1
 ) else (
 bnd1 (YBZ w1) fun (w2:YAE)=>
 bnd1 (chk .i64 ((w2.out.length:Int)-1)) fun (k1:Int)=>
 bnd1 (gd ((decide (0≤k1)) == true) (idx w2.out k1)) fun (x1:YAC)=>
 bnd1 (gd (((decide (0≤k1)) && (decide (x1.Kind=0))) == true) (idx w2.out k1)) fun (x2:YAC)=>
 bnd1 (gd (((decide (0≤k1)) && (decide (x1.Kind=0))) == true) (YDD x2.Attrs attrs1)) fun (r1:Bool)=>
 if (((decide (0≤k1)) && (decide (x1.Kind=0))) && r1) then (
 bnd1 (idx w2.out k1) fun (x3:YAC)=>
 bnd1 (chk .i64 (x3.N+n1)) fun (x4:Int)=>
 some (YAE.mk (w2.out.set k1.toNat (YAC.mk x3.Kind x4 x3.Attrs x3.Elems)) [] w2.cut)
 ) else (
 bnd1 (app 32 [] attrs1) fun (l1:List YAD)=>
 bnd1 (app 64 w2.out [(YAC.mk 0 n1 l1 [])]) fun (l2:List YAC)=>
 some (YAE.mk l2 [] w2.cut)
 )
 )
noncomputable def YBJ (w1:YAE) (l1:List YAB):Option (YAE):=
 bnd1 (YHt l1) fun (r1:List YAB)=>
 bnd1 (app 40 w1.add r1) fun (l2:List YAB)=>
 some (YAE.mk w1.out l2 w1.cut)
noncomputable def YBO (w1:YAE):Option ((List YAC) × Int × YAE):=
 bnd1 (YBZ w1) fun (w2:YAE)=>
 bnd1 (YFs w2.out) fun (r1:Int)=>
 if (!decide (r1=0)) then (
 some ([],3,(YAE.mk w2.out [] w2.cut))
 ) else (
 some (w2.out,0,(YAE.mk w2.out [] w2.cut))
 )
noncomputable def YEu (a1:YAB) (b1:YAB):Option (Bool):=
 bnd1 (gd (((decide (a1.Char=b1.Char)) && (decide (a1.Ref=b1.Ref))) == true) (YA7 a1.Attrs b1.Attrs)) fun (r1:Bool)=>
 some (((decide (a1.Char=b1.Char)) && (decide (a1.Ref=b1.Ref))) && r1)
noncomputable def YC6 (a1:List YAB) (b1:List YAB) (x2:Int):Option (Int ⊕ (Ctl Unit Bool)):=
 if (decide (x2<(a1.length:Int))) then (
 bnd1 (idx a1 x2) fun (x4:YAB)=>
 bnd1 (idx b1 x2) fun (x5:YAB)=>
 bnd1 (YEu x4 x5) fun (r1:Bool)=>
 if (!r1) then (
 some (.inr (.ext false))
 ) else (
 bnd1 (chk .i64 (x2+1)) fun (x6:Int)=>
 some (.inl x6)
 )
 ) else (
 some (.inr (.nrm ()))
 )
noncomputable def YDr (a1:List YAB) (b1:List YAB):Option (Bool):=
 if (!decide ((a1.length:Int)=(b1.length:Int))) then (
 some false
 ) else (
 ctl1 (iter (fun (a:Int)=>YC6 a1 b1 a) 0) fun (u2:Unit)=>
 some true
 )
noncomputable def YCk (a1:List YAC) (b1:List YAC) (x2:Int):Option (Int ⊕ (Ctl Unit Bool)):=
 if (decide (x2<(a1.length:Int))) then (
 bnd1 (idx a1 x2) fun (x4:YAC)=>
 bnd1 (idx b1 x2) fun (x5:YAC)=>
 bnd1 (gd (((!decide (x4.Kind=x5.Kind)) || (!decide (x4.N=x5.N))) == false) (YA7 x4.Attrs x5.Attrs)) fun (r1:Bool)=>
 bnd1 (gd ((((!decide (x4.Kind=x5.Kind)) || (!decide (x4.N=x5.N))) || (!r1)) == false) (YDr x4.Elems x5.Elems)) fun (r2:Bool)=>
 if ((((!decide (x4.Kind=x5.Kind)) || (!decide (x4.N=x5.N))) || (!r1)) || (!r2)) then (
 some (.inr (.ext false))
 ) else (
 bnd1 (chk .i64 (x2+1)) fun (x6:Int)=>
 some (.inl x6)
 )
 ) else (
 some (.inr (.nrm ()))
 )
noncomputable def YCa (a1:List YAC) (b1:List YAC):Option (Bool):=
 if (!decide ((a1.length:Int)=(b1.length:Int))) then (
 some false
 ) else (
 ctl1 (iter (fun (a:Int)=>YCk a1 b1 a) 0) fun (u2:Unit)=>
 some true
 )
noncomputable def YCc (f1:List YAB) (text1:Bool) (x2:Int):Option (Int ⊕ (Ctl Unit Int)):=
 if (decide (x2<(f1.length:Int))) then (
 bnd1 (idx f1 x2) fun (x6:YAB)=>
 bnd1 (YGd x6) fun (e1:Int)=>
 if (!decide (e1=0)) then (
 some (.inr (.ext e1))
 ) else (
 if ((!text1) && (decide (x6.Ref=0))) then (
 some (.inr (.ext 8))
 ) else (
 bnd1 (chk .i64 (x2+1)) fun (x7:Int)=>
 some (.inl x7)
 )
 )
 ) else (
 some (.inr (.nrm ()))
 )
noncomputable def YDu (f1:List YAB) (text1:Bool):Option (Int):=
 ctl1 (iter (fun (a:Int)=>YCc f1 text1 a) 0) fun (u2:Unit)=>
 bnd1 (gd ((text1 == true) && ((decide ((f1.length:Int)=0)) == false)) (chk .i64 ((f1.length:Int)-1))) fun (x4:Int)=>
 bnd1 (gd ((text1 == true) && ((decide ((f1.length:Int)=0)) == false)) (idx f1 x4)) fun (x5:YAB)=>
 if (text1 && ((decide ((f1.length:Int)=0)) || (!decide (x5.Char=10)))) then (
 some 11
 ) else (
 some 0
 )
noncomputable def YBl (d1:List YAC) (x2:Int) (w2:YAE):Option ((Int × YAE) ⊕ (Ctl YAE ((List YAC) × Int))):=
 if (decide (x2<(d1.length:Int))) then (
 ctl1 (
 bnd1 (idx d1 x2) fun (x5:YAC)=>
 bnd1 (YFT x5) fun (e1:Int)=>
 bnd1 (
 if ((((decide (x5.Kind=1)) && (decide ((x5.Elems.length:Int)=0))) && (decide (e1=11))) || (((!decide (x5.Kind=1)) && (decide (x5.N=0))) && (decide (e1=2)))) then (
 bnd1 (YBf x5.Attrs) fun (e3:Int)=>
 some e3
 ) else (
 some e1
 )
 ) fun (e2:Int)=>
 if (!decide (e2=0)) then (
 some (.ext (.inr (.ext ([],e2))))
 ) else (
 if (decide (x5.Kind=0)) then (
 bnd1 (YBB w2 x5.N x5.Attrs) fun (w7:YAE)=>
 some (.nrm w7)
 ) else (
 if (decide (x5.Kind=1)) then (
 bnd1 (YBJ w2 x5.Elems) fun (w8:YAE)=>
 some (.nrm w8)
 ) else (
 bnd1 (chk .i64 (w2.cut+x5.N)) fun (x6:Int)=>
 if (decide (2147483647<x6)) then (
 some (.ext (.inr (.ext ([],3))))
 ) else (
 some (.nrm (YAE.mk w2.out w2.add x6))
 )
 )
 )
 )
 ) fun (w6:YAE)=>
 bnd1 (chk .i64 (x2+1)) fun (x4:Int)=>
 some (.inl (x4,w6))
 ) else (
 some (.inr (.nrm w2))
 )
noncomputable def YFU (d1:List YAC):Option ((List YAC) × Int):=
 ctl1 (iter (fun (a:Int × YAE)=>YBl d1 a.1 a.2) (0,(YAE.mk [] [] 0))) fun (w4:YAE)=>
 bnd3 (YBO w4) fun (r1:List YAC) (r2:Int) (w5:YAE)=>
 some (r1,r2)
noncomputable def YBe (f1:List YAB) (text1:Bool) (x2:Int):Option (Int ⊕ (Ctl Unit Int)):=
 if (decide (x2<(f1.length:Int))) then (
 bnd1 (idx f1 x2) fun (x6:YAB)=>
 bnd1 (YEI x6) fun (e1:Int)=>
 if (!decide (e1=0)) then (
 some (.inr (.ext e1))
 ) else (
 if ((!text1) && (!decide (x6.Char=0))) then (
 some (.inr (.ext 8))
 ) else (
 bnd1 (chk .i64 (x2+1)) fun (x7:Int)=>
 some (.inl x7)
 )
 )
 ) else (
 some (.inr (.nrm ()))
 )
noncomputable def YB0 (f1:List YAB) (text1:Bool):Option (Int):=
 ctl1 (iter (fun (a:Int)=>YBe f1 text1 a) 0) fun (u2:Unit)=>
 bnd1 (gd ((text1 == true) && ((decide ((f1.length:Int)=0)) == false)) (chk .i64 ((f1.length:Int)-1))) fun (x4:Int)=>
 bnd1 (gd ((text1 == true) && ((decide ((f1.length:Int)=0)) == false)) (idx f1 x4)) fun (x5:YAB)=>
 if (text1 && ((decide ((f1.length:Int)=0)) || (!decide (x5.Char=10)))) then (
 some 11
 ) else (
 some 0
 )
noncomputable def YEz (n1:Int) (from1:Int) (to1:Int):Option (Int):=
 if (((((decide (n1<0)) || (decide (2147483647<n1))) || (decide (from1<0))) || (decide (to1<from1))) || (decide (n1<to1))) then (
 some 2
 ) else (
 some 0
 )
noncomputable def YCd (n1:Int) (from1:Int) (to1:Int) (elems1:List YAB):Option ((List YAC) × Int):=
 bnd1 (YEz n1 from1 to1) fun (e1:Int)=>
 if (!decide (e1=0)) then (
 some ([],e1)
 ) else (
 bnd1 (YCy elems1) fun (e2:Int)=>
 if (!decide (e2=0)) then (
 some ([],e2)
 ) else (
 bnd1 (YBB (YAE.mk [] [] 0) from1 []) fun (w1:YAE)=>
 bnd1 (YBJ w1 elems1) fun (w2:YAE)=>
 bnd1 (chk .i64 (to1-from1)) fun (x1:Int)=>
 bnd1 (chk .i64 (n1-to1)) fun (x2:Int)=>
 bnd1 (YBB (YAE.mk w2.out w2.add x1) x2 []) fun (w3:YAE)=>
 bnd3 (YBO w3) fun (r1:List YAC) (r2:Int) (w4:YAE)=>
 some (r1,r2)
 )
 )
structure YA8 where
 lo:Int
 hi:Int
deriving DecidableEq
instance:Inhabited YA8:=⟨⟨0,0⟩⟩
@[reducible] def YA8.row (x:YA8):List RV:=[.int .u8 x.lo,.int .u8 x.hi]
noncomputable def YHV:List YA8:=YDn.map fun p=>YA8.mk p.1 p.2
noncomputable def YAT (s1:List UInt8):Option (Int × Int):=
 if (decide ((s1.length:Int)<1)) then (
 some (65533,0)
 ) else (
 bnd1 (idx s1 0) fun (s01:UInt8)=>
 bnd1 (idx YCV (s01.toNat:Int)) fun (x1:Int)=>
 if (decide (240≤x1)) then (
 some ((bOr .i32 (YL3 .i32 (IntKind.i32.wrap (s01.toNat:Int)) (shrC .i32 (shlC .i32 (IntKind.i32.wrap x1) 31) 31)) (bAnd .i32 65533 (shrC .i32 (shlC .i32 (IntKind.i32.wrap x1) 31) 31))),1)
 ) else (
 bnd1 (idx YHV (shrC .u8 x1 4)) fun (x2:YA8)=>
 if (decide ((s1.length:Int)<(IntKind.i64.wrap (bAnd .u8 x1 7)))) then (
 some (65533,1)
 ) else (
 bnd1 (idx s1 1) fun (s11:UInt8)=>
 if ((decide ((s11.toNat:Int)<x2.lo)) || (decide (x2.hi<(s11.toNat:Int)))) then (
 some (65533,1)
 ) else (
 if (decide ((IntKind.i64.wrap (bAnd .u8 x1 7))≤2)) then (
 some ((bOr .i32 (shlC .i32 (IntKind.i32.wrap (bAnd .u8 (s01.toNat:Int) 31)) 6) (IntKind.i32.wrap (bAnd .u8 (s11.toNat:Int) 63))),2)
 ) else (
 bnd1 (idx s1 2) fun (s21:UInt8)=>
 if ((decide ((s21.toNat:Int)<128)) || (decide (191<(s21.toNat:Int)))) then (
 some (65533,1)
 ) else (
 if (decide ((IntKind.i64.wrap (bAnd .u8 x1 7))≤3)) then (
 some ((bOr .i32 (bOr .i32 (shlC .i32 (IntKind.i32.wrap (bAnd .u8 (s01.toNat:Int) 15)) 12) (shlC .i32 (IntKind.i32.wrap (bAnd .u8 (s11.toNat:Int) 63)) 6)) (IntKind.i32.wrap (bAnd .u8 (s21.toNat:Int) 63))),3)
 ) else (
 bnd1 (idx s1 3) fun (s31:UInt8)=>
 if ((decide ((s31.toNat:Int)<128)) || (decide (191<(s31.toNat:Int)))) then (
 some (65533,1)
 ) else (
 some ((bOr .i32 (bOr .i32 (bOr .i32 (shlC .i32 (IntKind.i32.wrap (bAnd .u8 (s01.toNat:Int) 7)) 18) (shlC .i32 (IntKind.i32.wrap (bAnd .u8 (s11.toNat:Int) 63)) 12)) (shlC .i32 (IntKind.i32.wrap (bAnd .u8 (s21.toNat:Int) 63)) 6)) (IntKind.i32.wrap (bAnd .u8 (s31.toNat:Int) 63))),4)
 )
 )
 )
 )
 )
 )
 )
 )
noncomputable def YAL (s1:List UInt8):Option (Int × Int):=
 bnd1 (gd ((!decide (s1=[])) == true) (idx s1 0)) fun (ch1:UInt8)=>
 if ((!decide (s1=[])) && (decide ((ch1.toNat:Int)<128))) then (
 bnd1 (idx s1 0) fun (ch2:UInt8)=>
 some ((IntKind.i32.wrap (ch2.toNat:Int)),1)
 ) else (
 bnd2 (YAT s1) fun (r1:Int) (r2:Int)=>
 some (r1,r2)
 )
noncomputable def YJp (attrs1:List YAD) (s3:List UInt8) (out2:List YAB):Option (((List UInt8) × (List YAB)) ⊕ (Ctl (List YAB) ((List YAB) × Int))):=
 if (!decide (s3=[])) then (
 bnd2 (YAL s3) fun (r1:Int) (r2:Int)=>
 if ((decide (r1=65533)) && (decide (r2=1))) then (
 some (.inr (.ext ([],10)))
 ) else (
 bnd1 (YEx (IntKind.i64.wrap r1)) fun (r3:Bool)=>
 if (!r3) then (
 some (.inr (.ext ([],2)))
 ) else (
 bnd1 (app 32 [] attrs1) fun (l1:List YAD)=>
 bnd1 (app 40 out2 [(YAB.mk (IntKind.i64.wrap r1) 0 l1)]) fun (out5:List YAB)=>
 bnd1 (slc s3 r2 (s3.length:Int)) fun (s5:List UInt8)=>
 some (.inl (s5,out5))
 )
 )
 ) else (
 some (.inr (.nrm out2))
 )
noncomputable def YUW (s1:List UInt8) (attrs1:List YAD):Option ((List YAB) × Int):=
 bnd1 (YDU attrs1) fun (e1:Int)=>
 if (!decide (e1=0)) then (
 some ([],e1)
 ) else (
 ctl1 (iter (fun (a:(List UInt8) × (List YAB))=>YJp attrs1 a.1 a.2) (s1,[])) fun (out4:List YAB)=>
 some (out4,0)
 )
noncomputable def YGr (s1:List UInt8) (attrs1:List YAD) (i4:Int) (out2:List YAB):Option ((Int × (List YAB)) ⊕ (Ctl (List YAB) ((List YAB) × Int))):=
 if (decide (i4<(s1.length:Int))) then (
 bnd1 (slc s1 i4 (s1.length:Int)) fun (s2:List UInt8)=>
 bnd2 (YAL s2) fun (r1:Int) (r2:Int)=>
 if ((decide (r1=65533)) && (decide (r2<2))) then (
 some (.inr (.ext ([],10)))
 ) else (
 bnd1 (YF4 (IntKind.i64.wrap r1)) fun (r3:Bool)=>
 if (!r3) then (
 some (.inr (.ext ([],2)))
 ) else (
 bnd1 (app 40 out2 [(YAB.mk (IntKind.i64.wrap r1) 0 attrs1)]) fun (out5:List YAB)=>
 bnd1 (chk .i64 (i4+r2)) fun (i9:Int)=>
 some (.inl (i9,out5))
 )
 )
 ) else (
 some (.inr (.nrm out2))
 )
noncomputable def YM4 (s1:List UInt8) (attrs1:List YAD):Option ((List YAB) × Int):=
 bnd1 (YBR attrs1 false) fun (e1:Int)=>
 if (!decide (e1=0)) then (
 some ([],e1)
 ) else (
 ctl1 (iter (fun (a:Int × (List YAB))=>YGr s1 attrs1 a.1 a.2) (0,[])) fun (out4:List YAB)=>
 some (out4,0)
 )
noncomputable def YHs (a1:List YAB) (b1:List YAB) (x2:Int):Option (Int ⊕ (Ctl Unit Bool)):=
 if (decide (x2<(a1.length:Int))) then (
 bnd1 (idx a1 x2) fun (x4:YAB)=>
 bnd1 (idx b1 x2) fun (x5:YAB)=>
 bnd1 (gd (((!decide (x4.Char=x5.Char)) || (!decide (x4.Ref=x5.Ref))) == false) (YDD x4.Attrs x5.Attrs)) fun (r1:Bool)=>
 if (((!decide (x4.Char=x5.Char)) || (!decide (x4.Ref=x5.Ref))) || (!r1)) then (
 some (.inr (.ext false))
 ) else (
 bnd1 (chk .i64 (x2+1)) fun (x6:Int)=>
 some (.inl x6)
 )
 ) else (
 some (.inr (.nrm ()))
 )
noncomputable def YLv (a1:List YAB) (b1:List YAB):Option (Bool):=
 if (!decide ((a1.length:Int)=(b1.length:Int))) then (
 some false
 ) else (
 ctl1 (iter (fun (a:Int)=>YHs a1 b1 a) 0) fun (u2:Unit)=>
 some true
 )
noncomputable def YCP (f1:List YAB) (x2:Int) (out2:List Int):Option ((Int × (List Int)) ⊕ (List Int)):=
 if (decide (x2<(f1.length:Int))) then (
 bnd1 (
 bnd1 (idx f1 x2) fun (x5:YAB)=>
 if (!decide (x5.Ref=0)) then (
 bnd1 (app 8 out2 [x5.Ref]) fun (out6:List Int)=>
 some out6
 ) else (
 some out2
 )
 ) fun (out5:List Int)=>
 bnd1 (chk .i64 (x2+1)) fun (x4:Int)=>
 some (.inl (x4,out5))
 ) else (
 some (.inr out2)
 )
noncomputable def YPV (f1:List YAB):Option ((List Int)):=
 bnd1 (iter (fun (a:Int × (List Int))=>YCP f1 a.1 a.2) (0,[])) fun (out4:List Int)=>
 some out4
structure GDoc where
 Nodes:List YAR
deriving DecidableEq
instance:Inhabited GDoc:=⟨⟨[]⟩⟩
@[reducible] def GDoc.row (x:GDoc):List RV:=[.sl (x.Nodes.map YAR.row)]
noncomputable def YEO (kind1:Int):Option (Bool):=
 some ((((decide (kind1=1)) || (decide (kind1=3))) || (decide (kind1=4))) || (decide (kind1=12)))
noncomputable def YHu (kind1:Int):Option (Bool):=
 some ((decide (kind1=0)) || (decide (kind1=7)))
noncomputable def YHw (kind1:Int):Option (Bool):=
 some ((decide (kind1=2)) || (decide (kind1=6)))
noncomputable def YAh (s11:List YAW) (s21:List YAW) (x2:Int):Option (Int ⊕ (Ctl Unit Bool)):=
 if (decide (x2<(s11.length:Int))) then (
 bnd1 (idx s11 x2) fun (x4:YAW)=>
 bnd1 (idx s21 x2) fun (x5:YAW)=>
 if (!(decide (x4.Row=x5.Row) && (decide (x4.Col=x5.Col) && (decide (x4.H=x5.H) && (decide (x4.W=x5.W) && true))))) then (
 some (.inr (.ext false))
 ) else (
 bnd1 (chk .i64 (x2+1)) fun (x6:Int)=>
 some (.inl x6)
 )
 ) else (
 some (.inr (.nrm ()))
 )
noncomputable def YAn (s11:List YAW) (s21:List YAW):Option (Bool):=
 if (!decide ((s11.length:Int)=(s21.length:Int))) then (
 some false
 ) else (
 ctl1 (iter (fun (a:Int)=>YAh s11 s21 a) 0) fun (u2:Unit)=>
 some true
 )
noncomputable def YEM (a1:YAd) (b1:YAd):Option (Bool):=
 bnd1 (gd (((((decide (a1.Row=b1.Row)) && (decide (a1.Col=b1.Col))) && (decide (a1.Text=b1.Text))) && (decide (a1.Ref=b1.Ref))) == true) (YDD a1.Attrs b1.Attrs)) fun (r1:Bool)=>
 some (((((decide (a1.Row=b1.Row)) && (decide (a1.Col=b1.Col))) && (decide (a1.Text=b1.Text))) && (decide (a1.Ref=b1.Ref))) && r1)
noncomputable def YAJ (s11:List YAd) (s21:List YAd) (x2:Int):Option (Int ⊕ (Ctl Unit Bool)):=
 if (decide (x2<(s11.length:Int))) then (
 bnd1 (idx s11 x2) fun (x4:YAd)=>
 bnd1 (idx s21 x2) fun (x5:YAd)=>
 bnd1 (YEM x4 x5) fun (r1:Bool)=>
 if (!r1) then (
 some (.inr (.ext false))
 ) else (
 bnd1 (chk .i64 (x2+1)) fun (x6:Int)=>
 some (.inl x6)
 )
 ) else (
 some (.inr (.nrm ()))
 )
noncomputable def YAK (s11:List YAd) (s21:List YAd):Option (Bool):=
 if (!decide ((s11.length:Int)=(s21.length:Int))) then (
 some false
 ) else (
 ctl1 (iter (fun (a:Int)=>YAJ s11 s21 a) 0) fun (u2:Unit)=>
 some true
 )
noncomputable def YGb (a1:YAy) (b1:YAy):Option (Bool):=
 bnd1 (gd (((decide (a1.Rows=b1.Rows)) && (decide (a1.Cols=b1.Cols))) == true) (YAn a1.Merges b1.Merges)) fun (r1:Bool)=>
 bnd1 (gd ((((decide (a1.Rows=b1.Rows)) && (decide (a1.Cols=b1.Cols))) && r1) == true) (YAK a1.Cells b1.Cells)) fun (r2:Bool)=>
 some ((((decide (a1.Rows=b1.Rows)) && (decide (a1.Cols=b1.Cols))) && r1) && r2)
noncomputable def YFr (kind1:Int):Option (Bool):=
 some (((decide (kind1=8)) || (decide (kind1=9))) || (decide (kind1=10)))
noncomputable def YA1 (s3:List UInt8):Option ((List UInt8) ⊕ (Ctl Unit Bool)):=
 if (!decide (s3=[])) then (
 bnd2 (YAL s3) fun (r1:Int) (r2:Int)=>
 bnd1 (gd ((((decide (r1=65533)) && (decide (r2=1))) || (decide (r1=10))) == false) (YEx (IntKind.i64.wrap r1))) fun (r3:Bool)=>
 if ((((decide (r1=65533)) && (decide (r2=1))) || (decide (r1=10))) || (!r3)) then (
 some (.inr (.ext false))
 ) else (
 bnd1 (slc s3 r2 (s3.length:Int)) fun (s5:List UInt8)=>
 some (.inl s5)
 )
 ) else (
 some (.inr (.nrm ()))
 )
noncomputable def YHp (s1:List UInt8):Option (Bool):=
 ctl1 (iter (fun (a:(List UInt8))=>YA1 a) s1) fun (u2:Unit)=>
 some true
noncomputable def YGZ (c1:YAd):Option (Bool):=
 some (((decide (c1.Text=[])) && (decide (c1.Ref=0))) && (decide ((c1.Attrs.length:Int)=0)))
noncomputable def YER (x1:Int):Option (Bool):=
 some (!decide (x1=x1))
noncomputable def YBT (x1:Int) (y1:Int):Option (Int):=
 bnd1 (YER x1) fun (xNaN1:Bool)=>
 bnd1 (YER y1) fun (yNaN1:Bool)=>
 if xNaN1 then (
 if yNaN1 then (
 some 0
 ) else (
 some (-1)
 )
 ) else (
 if yNaN1 then (
 some 1
 ) else (
 if (decide (x1<y1)) then (
 some (-1)
 ) else (
 if (decide (y1<x1)) then (
 some 1
 ) else (
 some 0
 )
 )
 )
 )
noncomputable def YAe (vals1:List Int) (x2:Int):Option (Int ⊕ (Ctl Unit Int)):=
 if (decide (x2<(vals1.length:Int))) then (
 bnd1 (idx vals1 x2) fun (x4:Int)=>
 if (!decide (x4=0)) then (
 some (.inr (.ext x4))
 ) else (
 bnd1 (chk .i64 (x2+1)) fun (x5:Int)=>
 some (.inl x5)
 )
 ) else (
 some (.inr (.nrm ()))
 )
noncomputable def YFV (vals1:List Int):Option (Int):=
 ctl1 (iter (fun (a:Int)=>YAe vals1 a) 0) fun (u2:Unit)=>
 some 0
noncomputable def YFS (a1:YAd) (b1:YAd):Option (Int):=
 bnd1 (YBT a1.Row b1.Row) fun (r1:Int)=>
 bnd1 (YBT a1.Col b1.Col) fun (r2:Int)=>
 bnd1 (YFV [r1,r2]) fun (r3:Int)=>
 some r3
noncomputable def YEL (l1:List YAd) (rows1:Int) (cols1:Int) (none1:Bool) (x2:Int):Option (Int ⊕ (Ctl Unit Int)):=
 if (decide (x2<(l1.length:Int))) then (
 bnd1 (idx l1 x2) fun (x4:YAd)=>
 if ((((decide (x4.Row<0)) || (decide (rows1≤x4.Row))) || (decide (x4.Col<0))) || (decide (cols1≤x4.Col))) then (
 some (.inr (.ext 2))
 ) else (
 if ((decide (x4.Ref<0)) || (decide (1073741824<x4.Ref))) then (
 some (.inr (.ext 2))
 ) else (
 bnd1 (YHp x4.Text) fun (r1:Bool)=>
 if (!r1) then (
 some (.inr (.ext 23))
 ) else (
 bnd1 (YDU x4.Attrs) fun (e1:Int)=>
 if (!decide (e1=0)) then (
 some (.inr (.ext e1))
 ) else (
 bnd1 (YGZ x4) fun (r2:Bool)=>
 if (r2 && (!none1)) then (
 some (.inr (.ext 4))
 ) else (
 bnd1 (gd ((decide (0<x2)) == true) (chk .i64 (x2-1))) fun (x5:Int)=>
 bnd1 (gd ((decide (0<x2)) == true) (idx l1 x5)) fun (x6:YAd)=>
 bnd1 (gd ((decide (0<x2)) == true) (YFS x6 x4)) fun (r3:Int)=>
 if ((decide (0<x2)) && (decide (0≤r3))) then (
 some (.inr (.ext 5))
 ) else (
 bnd1 (chk .i64 (x2+1)) fun (x7:Int)=>
 some (.inl x7)
 )
 )
 )
 )
 )
 )
 ) else (
 some (.inr (.nrm ()))
 )
noncomputable def YGa (l1:List YAd) (rows1:Int) (cols1:Int) (none1:Bool):Option (Int):=
 ctl1 (iter (fun (a:Int)=>YEL l1 rows1 cols1 none1 a) 0) fun (u2:Unit)=>
 some 0
noncomputable def YFl (r1:YAW) (rows1:Int) (cols1:Int):Option (Bool):=
 bnd1 (gd (((((((decide (0≤r1.Row)) && (decide (0≤r1.Col))) && (decide (1≤r1.H))) && (decide (1≤r1.W))) && (decide (r1.Row<rows1))) && (decide (r1.Col<cols1))) == true) (chk .i64 (rows1-r1.Row))) fun (x1:Int)=>
 bnd1 (gd ((((((((decide (0≤r1.Row)) && (decide (0≤r1.Col))) && (decide (1≤r1.H))) && (decide (1≤r1.W))) && (decide (r1.Row<rows1))) && (decide (r1.Col<cols1))) && (decide (r1.H≤x1))) == true) (chk .i64 (cols1-r1.Col))) fun (x2:Int)=>
 some ((((((((decide (0≤r1.Row)) && (decide (0≤r1.Col))) && (decide (1≤r1.H))) && (decide (1≤r1.W))) && (decide (r1.Row<rows1))) && (decide (r1.Col<cols1))) && (decide (r1.H≤x1))) && (decide (r1.W≤x2)))
noncomputable def YFm (a1:YAW) (b1:YAW):Option (Bool):=
 some ((decide (a1.Row<b1.Row)) || ((decide (a1.Row=b1.Row)) && (decide (a1.Col<b1.Col))))
noncomputable def YGY (a1:YAW) (b1:YAW):Option (Bool):=
 bnd1 (chk .i64 (b1.Row+b1.H)) fun (x1:Int)=>
 bnd1 (gd ((decide (a1.Row<x1)) == true) (chk .i64 (a1.Row+a1.H))) fun (x2:Int)=>
 bnd1 (gd (((decide (a1.Row<x1)) && (decide (b1.Row<x2))) == true) (chk .i64 (b1.Col+b1.W))) fun (x3:Int)=>
 bnd1 (gd ((((decide (a1.Row<x1)) && (decide (b1.Row<x2))) && (decide (a1.Col<x3))) == true) (chk .i64 (a1.Col+a1.W))) fun (x4:Int)=>
 some ((((decide (a1.Row<x1)) && (decide (b1.Row<x2))) && (decide (a1.Col<x3))) && (decide (b1.Col<x4)))
noncomputable def YFL (w1:YAW) (q1:YAW):Option (Bool):=
 bnd1 (YGY q1 w1) fun (r1:Bool)=>
 some r1
noncomputable def YAS (w1:YAW) (s1:List YAW) (x2:Int):Option (Int ⊕ (Ctl Unit Int)):=
 if (decide (x2<(s1.length:Int))) then (
 bnd1 (idx s1 x2) fun (x4:YAW)=>
 bnd1 (YFL w1 x4) fun (r1:Bool)=>
 if r1 then (
 some (.inr (.ext x2))
 ) else (
 bnd1 (chk .i64 (x2+1)) fun (x5:Int)=>
 some (.inl x5)
 )
 ) else (
 some (.inr (.nrm ()))
 )
noncomputable def YAZ (w1:YAW) (s1:List YAW):Option (Int):=
 ctl1 (iter (fun (a:Int)=>YAS w1 s1 a) 0) fun (u2:Unit)=>
 some (-1)
noncomputable def YAO (w1:YAW) (s1:List YAW):Option (Bool):=
 bnd1 (YAZ w1 s1) fun (r1:Int)=>
 some (decide (0≤r1))
noncomputable def YEN (g1:YAy) (x2:Int):Option (Int ⊕ (Ctl Unit Int)):=
 if (decide (x2<(g1.Merges.length:Int))) then (
 bnd1 (idx g1.Merges x2) fun (x4:YAW)=>
 bnd1 (YFl x4 g1.Rows g1.Cols) fun (r1:Bool)=>
 if (!r1) then (
 some (.inr (.ext 2))
 ) else (
 if ((decide (x4.H=1)) && (decide (x4.W=1))) then (
 some (.inr (.ext 4))
 ) else (
 bnd1 (gd ((decide (0<x2)) == true) (chk .i64 (x2-1))) fun (x5:Int)=>
 bnd1 (gd ((decide (0<x2)) == true) (idx g1.Merges x5)) fun (x6:YAW)=>
 bnd1 (gd ((decide (0<x2)) == true) (YFm x6 x4)) fun (r2:Bool)=>
 if ((decide (0<x2)) && (!r2)) then (
 some (.inr (.ext 5))
 ) else (
 bnd1 (slc g1.Merges 0 x2) fun (l1:List YAW)=>
 bnd1 (YAO x4 l1) fun (r3:Bool)=>
 if r3 then (
 some (.inr (.ext 21))
 ) else (
 bnd1 (chk .i64 (x2+1)) fun (x7:Int)=>
 some (.inl x7)
 )
 )
 )
 )
 ) else (
 some (.inr (.nrm ()))
 )
noncomputable def YGc (g1:YAy):Option (Int):=
 if ((((decide (g1.Rows<0)) || (decide (2147483647<g1.Rows))) || (decide (g1.Cols<0))) || (decide (2147483647<g1.Cols))) then (
 some 2
 ) else (
 bnd1 (YGa g1.Cells g1.Rows g1.Cols false) fun (e1:Int)=>
 if (!decide (e1=0)) then (
 some e1
 ) else (
 ctl1 (iter (fun (a:Int)=>YEN g1 a) 0) fun (u2:Unit)=>
 some 0
 )
 )
noncomputable def YCN (kind1:Int) (l1:List YAd) (x2:Int):Option (Int ⊕ (Ctl Unit Int)):=
 if (decide (x2<(l1.length:Int))) then (
 bnd1 (idx l1 x2) fun (x4:YAd)=>
 if (((decide (kind1=2)) && ((!decide (x4.Text=[])) || (decide (0<(x4.Attrs.length:Int))))) || ((decide (kind1=6)) && (!decide (x4.Ref=0)))) then (
 some (.inr (.ext 4))
 ) else (
 bnd1 (chk .i64 (x2+1)) fun (x5:Int)=>
 some (.inl x5)
 )
 ) else (
 some (.inr (.nrm ()))
 )
noncomputable def YDd (kind1:Int) (l1:List YAd):Option (Int):=
 ctl1 (iter (fun (a:Int)=>YCN kind1 l1 a) 0) fun (u2:Unit)=>
 some 0
noncomputable def YDf (s1:List UInt8) (x3:Int):Option (Int ⊕ (Ctl Unit Bool)):=
 if (decide (x3<(s1.length:Int))) then (
 bnd1 (idx s1 x3) fun (ch2:UInt8)=>
 if ((decide ((ch2.toNat:Int)<97)) || (decide (122<(ch2.toNat:Int)))) then (
 some (.inr (.ext false))
 ) else (
 bnd1 (chk .i64 (x3+1)) fun (x5:Int)=>
 some (.inl x5)
 )
 ) else (
 some (.inr (.nrm ()))
 )
noncomputable def YEA (s1:List UInt8):Option (Bool):=
 bnd1 (gd (((decide (s1=[])) || (decide (200<(s1.length:Int)))) == false) (chk .i64 ((s1.length:Int)-1))) fun (x1:Int)=>
 bnd1 (gd (((decide (s1=[])) || (decide (200<(s1.length:Int)))) == false) (idx s1 x1)) fun (ch1:UInt8)=>
 if (((decide (s1=[])) || (decide (200<(s1.length:Int)))) || (decide ((ch1.toNat:Int)=97))) then (
 some false
 ) else (
 ctl1 (iter (fun (a:Int)=>YDf s1 a) 0) fun (u2:Unit)=>
 some true
 )
noncomputable def YGM (o1:YAP):Option (Int):=
 if ((!decide (o1.Kind=0)) && (!decide (o1.Kind=1))) then (
 some 8
 ) else (
 if ((((((decide (o1.Clock<1)) || (decide (1073741824<o1.Clock))) || (decide (o1.Site<0))) || (decide (1000<o1.Site))) || (decide (o1.Item<1))) || (decide (1073741824<o1.Item))) then (
 some 2
 ) else (
 bnd1 (
 if ((decide (o1.Kind=0)) && ((!decide (o1.Name=[])) || (!decide (o1.Value=[])))) then (
 some ((decide (o1.Kind=0)) && ((!decide (o1.Name=[])) || (!decide (o1.Value=[]))))
 ) else (
 some ((decide (o1.Kind=1)) && ((!decide (o1.Parent=0)) || (!decide (o1.Place=[]))))
 )
 ) fun (x1:Bool)=>
 if x1 then (
 some 4
 ) else (
 if ((decide (o1.Kind=0)) && ((decide (o1.Parent<(-1))) || (decide (1073741824<o1.Parent)))) then (
 some 2
 ) else (
 bnd1 (gd ((decide (o1.Kind=0)) == true) (YEA o1.Place)) fun (r1:Bool)=>
 bnd1 (
 if ((decide (o1.Kind=0)) && (!r1)) then (
 some ((decide (o1.Kind=0)) && (!r1))
 ) else (
 bnd1 (gd ((decide (o1.Kind=1)) == true) (YGh o1.Name)) fun (r3:Bool)=>
 some ((decide (o1.Kind=1)) && (!r3))
 )
 ) fun (x2:Bool)=>
 if x2 then (
 some 9
 ) else (
 bnd1 (gd (((decide (o1.Kind=1)) && (!decide (o1.Value=[]))) == true) (YCz o1.Value)) fun (r2:Bool)=>
 if (((decide (o1.Kind=1)) && (!decide (o1.Value=[]))) && (!r2)) then (
 some 23
 ) else (
 some 0
 )
 )
 )
 )
 )
 )
noncomputable def YDb (a1:YAP) (b1:YAP):Option (Int):=
 bnd1 (YBT a1.Clock b1.Clock) fun (r1:Int)=>
 bnd1 (YBT a1.Site b1.Site) fun (r2:Int)=>
 bnd1 (YFV [r1,r2]) fun (r3:Int)=>
 some r3
noncomputable def YCh (l1:List YAP) (x2:Int):Option (Int ⊕ (Ctl Unit Int)):=
 if (decide (x2<(l1.length:Int))) then (
 bnd1 (idx l1 x2) fun (x4:YAP)=>
 bnd1 (YGM x4) fun (e1:Int)=>
 if (!decide (e1=0)) then (
 some (.inr (.ext e1))
 ) else (
 bnd1 (gd ((decide (0<x2)) == true) (chk .i64 (x2-1))) fun (x5:Int)=>
 bnd1 (gd ((decide (0<x2)) == true) (idx l1 x5)) fun (x6:YAP)=>
 bnd1 (gd ((decide (0<x2)) == true) (YDb x6 x4)) fun (r1:Int)=>
 if ((decide (0<x2)) && (decide (0≤r1))) then (
 some (.inr (.ext 5))
 ) else (
 bnd1 (chk .i64 (x2+1)) fun (x7:Int)=>
 some (.inl x7)
 )
 )
 ) else (
 some (.inr (.nrm ()))
 )
noncomputable def YEB (l1:List YAP):Option (Int):=
 ctl1 (iter (fun (a:Int)=>YCh l1 a) 0) fun (u2:Unit)=>
 some 0
noncomputable def YAz (n1:YAR):Option (Int):=
 if ((decide (n1.ID<1)) || (decide (1073741824<n1.ID))) then (
 some 2
 ) else (
 if (((decide (n1.Kind<0)) || (decide (13≤n1.Kind))) || (!((decide (n1.ID=1)) == (decide (n1.Kind=0))))) then (
 some 8
 ) else (
 bnd1 (YDU n1.Attrs) fun (e1:Int)=>
 if (!decide (e1=0)) then (
 some e1
 ) else (
 bnd1 (YEO n1.Kind) fun (r1:Bool)=>
 bnd1 (gd (r1 == false) (YHu n1.Kind)) fun (r2:Bool)=>
 bnd1 (YHw n1.Kind) fun (grids1:Bool)=>
 bnd1 (
 if (((!(r1 || r2)) && (decide (0<(n1.Flow.length:Int)))) == false) then (
 if ((!grids1) == true) then (
 bnd1 (YGb n1.Grid (YAy.mk 0 0 [] [])) fun (r7:Bool)=>
 bnd1 (gd ((((!(r1 || r2)) && (decide (0<(n1.Flow.length:Int)))) || ((!grids1) && (!r7))) == false) (YFr n1.Kind)) fun (r8:Bool)=>
 some ((((!(r1 || r2)) && (decide (0<(n1.Flow.length:Int)))) || ((!grids1) && (!r7))) || ((!r8) && (decide (0<(n1.Draw.length:Int)))))
 ) else (
 bnd1 (gd ((((!(r1 || r2)) && (decide (0<(n1.Flow.length:Int)))) || ((!grids1) && false)) == false) (YFr n1.Kind)) fun (r9:Bool)=>
 some ((((!(r1 || r2)) && (decide (0<(n1.Flow.length:Int)))) || ((!grids1) && false)) || ((!r9) && (decide (0<(n1.Draw.length:Int)))))
 )
 ) else (
 bnd1 (gd ((((!(r1 || r2)) && (decide (0<(n1.Flow.length:Int)))) || false) == false) (YFr n1.Kind)) fun (r10:Bool)=>
 some ((((!(r1 || r2)) && (decide (0<(n1.Flow.length:Int)))) || false) || ((!r10) && (decide (0<(n1.Draw.length:Int)))))
 )
 ) fun (x1:Bool)=>
 if x1 then (
 some 4
 ) else (
 if (r1 || r2) then (
 bnd1 (YDu n1.Flow r1) fun (r4:Int)=>
 some r4
 ) else (
 if grids1 then (
 bnd1 (YGc n1.Grid) fun (e2:Int)=>
 if (!decide (e2=0)) then (
 some e2
 ) else (
 bnd1 (YDd n1.Kind n1.Grid.Cells) fun (r5:Int)=>
 some r5
 )
 ) else (
 bnd1 (YEB n1.Draw) fun (r6:Int)=>
 some r6
 )
 )
 )
 )
 )
 )
noncomputable def YBF (f1:List YAB) (x2:Int) (out2:List Int):Option ((Int × (List Int)) ⊕ (List Int)):=
 if (decide (x2<(f1.length:Int))) then (
 bnd1 (
 bnd1 (idx f1 x2) fun (x5:YAB)=>
 if (!decide (x5.Ref=0)) then (
 bnd1 (app 8 out2 [x5.Ref]) fun (out6:List Int)=>
 some out6
 ) else (
 some out2
 )
 ) fun (out5:List Int)=>
 bnd1 (chk .i64 (x2+1)) fun (x4:Int)=>
 some (.inl (x4,out5))
 ) else (
 some (.inr out2)
 )
noncomputable def YFn (f1:List YAB):Option ((List Int)):=
 bnd1 (iter (fun (a:Int × (List Int))=>YBF f1 a.1 a.2) (0,[])) fun (out4:List Int)=>
 some out4
noncomputable def YB9 (n1:YAR) (x2:Int) (out2:List Int):Option ((Int × (List Int)) ⊕ (List Int)):=
 if (decide (x2<(n1.Grid.Cells.length:Int))) then (
 bnd1 (
 bnd1 (idx n1.Grid.Cells x2) fun (x5:YAd)=>
 if (!decide (x5.Ref=0)) then (
 bnd1 (app 8 out2 [x5.Ref]) fun (out6:List Int)=>
 some out6
 ) else (
 some out2
 )
 ) fun (out5:List Int)=>
 bnd1 (chk .i64 (x2+1)) fun (x4:Int)=>
 some (.inl (x4,out5))
 ) else (
 some (.inr out2)
 )
noncomputable def YG2 (n1:YAR):Option ((List Int)):=
 bnd1 (YFn n1.Flow) fun (w1:List Int)=>
 bnd1 (iter (fun (a:Int × (List Int))=>YB9 n1 a.1 a.2) (0,w1)) fun (out4:List Int)=>
 some out4
noncomputable def YEf (n1:YAR) (id1:Int):Option (Int):=
 if (decide (n1.ID<id1)) then (
 some (-1)
 ) else (
 if (decide (id1<n1.ID)) then (
 some 1
 ) else (
 some 0
 )
 )
noncomputable def YAH (x1:List YAR) (target1:Int) (i4:Int) (j2:Int):Option ((Int × Int) ⊕ Int):=
 if (decide (i4<j2)) then (
 bnd1 (chk .i64 (i4+j2)) fun (x3:Int)=>
 bnd1 (idx x1 (IntKind.i64.wrap (shrC .u64 (IntKind.u64.wrap x3) 1))) fun (x4:YAR)=>
 bnd1 (YEf x4 target1) fun (r2:Int)=>
 if (decide (r2<0)) then (
 bnd1 (chk .i64 ((IntKind.i64.wrap (shrC .u64 (IntKind.u64.wrap x3) 1))+1)) fun (i10:Int)=>
 some (.inl (i10,j2))
 ) else (
 some (.inl (i4,(IntKind.i64.wrap (shrC .u64 (IntKind.u64.wrap x3) 1))))
 )
 ) else (
 some (.inr i4)
 )
noncomputable def YAU (x1:List YAR) (target1:Int):Option (Int × Bool):=
 bnd1 (iter (fun (a:Int × Int)=>YAH x1 target1 a.1 a.2) (0,(x1.length:Int))) fun (i8:Int)=>
 bnd1 (gd ((decide (i8<(x1.length:Int))) == true) (idx x1 i8)) fun (x2:YAR)=>
 bnd1 (gd ((decide (i8<(x1.length:Int))) == true) (YEf x2 target1)) fun (r1:Int)=>
 some (i8,((decide (i8<(x1.length:Int))) && (decide (r1=0))))
noncomputable def YH8 (d1:GDoc) (id1:Int):Option (Int × Bool):=
 bnd2 (YAU d1.Nodes id1) fun (r1:Int) (r2:Bool)=>
 some (r1,r2)
noncomputable def YBH (s1:List Int) (v1:Int) (x2:Int):Option (Int ⊕ (Ctl Unit Int)):=
 if (decide (x2<(s1.length:Int))) then (
 bnd1 (idx s1 x2) fun (x4:Int)=>
 if (decide (v1=x4)) then (
 some (.inr (.ext x2))
 ) else (
 bnd1 (chk .i64 (x2+1)) fun (x5:Int)=>
 some (.inl x5)
 )
 ) else (
 some (.inr (.nrm ()))
 )
noncomputable def YCD (s1:List Int) (v1:Int):Option (Int):=
 ctl1 (iter (fun (a:Int)=>YBH s1 v1 a) 0) fun (u2:Unit)=>
 some (-1)
noncomputable def YAo (s1:List Int) (v1:Int):Option (Bool):=
 bnd1 (YCD s1 v1) fun (r1:Int)=>
 some (decide (0≤r1))
noncomputable def YEP (parent1:Int) (kid1:Int):Option (Bool):=
 bnd1 (
 if (decide (parent1=0)) then (
 some [1,6,7,10,11,12]
 ) else (
 if (decide (parent1=1)) then (
 some [2,4,5,10]
 ) else (
 if (decide (parent1=3)) then (
 some [4,5,10]
 ) else (
 bnd1 (
 if (decide (parent1=4)) then (
 some (decide (parent1=4))
 ) else (
 some (decide (parent1=12))
 )
 ) fun (x1:Bool)=>
 if x1 then (
 some [5]
 ) else (
 if (decide (parent1=2)) then (
 some [3]
 ) else (
 if (decide (parent1=7)) then (
 some [8,9]
 ) else (
 some []
 )
 )
 )
 )
 )
 )
 ) fun (l1:List Int)=>
 bnd1 (YAo l1 kid1) fun (r1:Bool)=>
 some r1
noncomputable def YBv (d1:GDoc) (kind1:Int) (YMY:List Int) (x2:Int):Option (Int ⊕ (Ctl Unit Int)):=
 if (decide (x2<(YMY.length:Int))) then (
 bnd1 (idx YMY x2) fun (x4:Int)=>
 bnd2 (YH8 d1 x4) fun (r1:Int) (r2:Bool)=>
 if (!r2) then (
 some (.inr (.ext 7))
 ) else (
 bnd1 (idx d1.Nodes r1) fun (x5:YAR)=>
 bnd1 (YEP kind1 x5.Kind) fun (r3:Bool)=>
 if (!r3) then (
 some (.inr (.ext 8))
 ) else (
 bnd1 (chk .i64 (x2+1)) fun (x6:Int)=>
 some (.inl x6)
 )
 )
 ) else (
 some (.inr (.nrm ()))
 )
noncomputable def YEQ (d1:GDoc) (kind1:Int) (YMY:List Int):Option (Int):=
 ctl1 (iter (fun (a:Int)=>YBv d1 kind1 YMY a) 0) fun (u2:Unit)=>
 some 0
noncomputable def YDB (d1:GDoc) (x5:Int):Option (Int ⊕ (Ctl Unit Int)):=
 if (decide (x5<(d1.Nodes.length:Int))) then (
 bnd1 (idx d1.Nodes x5) fun (x7:YAR)=>
 bnd1 (YG2 x7) fun (r1:List Int)=>
 bnd1 (YEQ d1 x7.Kind r1) fun (e1:Int)=>
 if (!decide (e1=0)) then (
 some (.inr (.ext e1))
 ) else (
 bnd1 (chk .i64 (x5+1)) fun (x8:Int)=>
 some (.inl x8)
 )
 ) else (
 some (.inr (.nrm ()))
 )
noncomputable def YB3 (d1:GDoc) (x2:Int):Option (Int ⊕ (Ctl Unit Int)):=
 if (decide (x2<(d1.Nodes.length:Int))) then (
 bnd1 (idx d1.Nodes x2) fun (x9:YAR)=>
 bnd1 (YAz x9) fun (e2:Int)=>
 if (!decide (e2=0)) then (
 some (.inr (.ext e2))
 ) else (
 bnd1 (gd ((((decide (x2=0)) && (!decide (x9.ID=1))) == false) && ((decide (0<x2)) == true)) (chk .i64 (x2-1))) fun (x10:Int)=>
 bnd1 (gd ((((decide (x2=0)) && (!decide (x9.ID=1))) == false) && ((decide (0<x2)) == true)) (idx d1.Nodes x10)) fun (x11:YAR)=>
 if (((decide (x2=0)) && (!decide (x9.ID=1))) || ((decide (0<x2)) && (decide (x9.ID≤x11.ID)))) then (
 some (.inr (.ext 5))
 ) else (
 bnd1 (chk .i64 (x2+1)) fun (x12:Int)=>
 some (.inl x12)
 )
 )
 ) else (
 some (.inr (.nrm ()))
 )
noncomputable def YBh (d1:GDoc):Option (Int):=
 if (decide ((d1.Nodes.length:Int)=0)) then (
 some 11
 ) else (
 ctl1 (iter (fun (a:Int)=>YB3 d1 a) 0) fun (u2:Unit)=>
 ctl1 (iter (fun (a:Int)=>YDB d1 a) 0) fun (u4:Unit)=>
 some 0
 )
noncomputable def YEv (a1:YAd) (b1:YAd):Option (Bool):=
 bnd1 (gd (((((decide (a1.Row=b1.Row)) && (decide (a1.Col=b1.Col))) && (decide (a1.Text=b1.Text))) && (decide (a1.Ref=b1.Ref))) == true) (YA7 a1.Attrs b1.Attrs)) fun (r1:Bool)=>
 some (((((decide (a1.Row=b1.Row)) && (decide (a1.Col=b1.Col))) && (decide (a1.Text=b1.Text))) && (decide (a1.Ref=b1.Ref))) && r1)
noncomputable def YCl (a1:List YAd) (b1:List YAd) (x2:Int):Option (Int ⊕ (Ctl Unit Bool)):=
 if (decide (x2<(a1.length:Int))) then (
 bnd1 (idx a1 x2) fun (x4:YAd)=>
 bnd1 (idx b1 x2) fun (x5:YAd)=>
 bnd1 (YEv x4 x5) fun (r1:Bool)=>
 if (!r1) then (
 some (.inr (.ext false))
 ) else (
 bnd1 (chk .i64 (x2+1)) fun (x6:Int)=>
 some (.inl x6)
 )
 ) else (
 some (.inr (.nrm ()))
 )
noncomputable def YDM (a1:List YAd) (b1:List YAd):Option (Bool):=
 if (!decide ((a1.length:Int)=(b1.length:Int))) then (
 some false
 ) else (
 ctl1 (iter (fun (a:Int)=>YCl a1 b1 a) 0) fun (u2:Unit)=>
 some true
 )
noncomputable def YCj (a1:List YAW) (b1:List YAW) (x2:Int):Option (Int ⊕ (Ctl Unit Bool)):=
 if (decide (x2<(a1.length:Int))) then (
 bnd1 (idx a1 x2) fun (x4:YAW)=>
 bnd1 (idx b1 x2) fun (x5:YAW)=>
 if (!(decide (x4.Row=x5.Row) && (decide (x4.Col=x5.Col) && (decide (x4.H=x5.H) && (decide (x4.W=x5.W) && true))))) then (
 some (.inr (.ext false))
 ) else (
 bnd1 (chk .i64 (x2+1)) fun (x6:Int)=>
 some (.inl x6)
 )
 ) else (
 some (.inr (.nrm ()))
 )
noncomputable def YCZ (a1:List YAW) (b1:List YAW):Option (Bool):=
 if (!decide ((a1.length:Int)=(b1.length:Int))) then (
 some false
 ) else (
 ctl1 (iter (fun (a:Int)=>YCj a1 b1 a) 0) fun (u2:Unit)=>
 some true
 )
noncomputable def YEt (a1:YAy) (b1:YAy):Option (Bool):=
 bnd1 (gd (((decide (a1.Rows=b1.Rows)) && (decide (a1.Cols=b1.Cols))) == true) (YDM a1.Cells b1.Cells)) fun (r1:Bool)=>
 bnd1 (gd ((((decide (a1.Rows=b1.Rows)) && (decide (a1.Cols=b1.Cols))) && r1) == true) (YCZ a1.Merges b1.Merges)) fun (r2:Bool)=>
 some ((((decide (a1.Rows=b1.Rows)) && (decide (a1.Cols=b1.Cols))) && r1) && r2)
noncomputable def YB5 (a1:List YAP) (b1:List YAP) (x2:Int):Option (Int ⊕ (Ctl Unit Bool)):=
 if (decide (x2<(a1.length:Int))) then (
 bnd1 (idx a1 x2) fun (x4:YAP)=>
 bnd1 (idx b1 x2) fun (x5:YAP)=>
 if (!(decide (x4.Clock=x5.Clock) && (decide (x4.Site=x5.Site) && (decide (x4.Kind=x5.Kind) && (decide (x4.Item=x5.Item) && (decide (x4.Parent=x5.Parent) && (decide (x4.Place=x5.Place) && (decide (x4.Name=x5.Name) && (decide (x4.Value=x5.Value) && true))))))))) then (
 some (.inr (.ext false))
 ) else (
 bnd1 (chk .i64 (x2+1)) fun (x6:Int)=>
 some (.inl x6)
 )
 ) else (
 some (.inr (.nrm ()))
 )
noncomputable def YB6 (a1:List YAP) (b1:List YAP):Option (Bool):=
 if (!decide ((a1.length:Int)=(b1.length:Int))) then (
 some false
 ) else (
 ctl1 (iter (fun (a:Int)=>YB5 a1 b1 a) 0) fun (u2:Unit)=>
 some true
 )
noncomputable def YC5 (a1:YAR) (b1:YAR):Option (Bool):=
 bnd1 (gd (((decide (a1.ID=b1.ID)) && (decide (a1.Kind=b1.Kind))) == true) (YA7 a1.Attrs b1.Attrs)) fun (r1:Bool)=>
 bnd1 (gd ((((decide (a1.ID=b1.ID)) && (decide (a1.Kind=b1.Kind))) && r1) == true) (YDr a1.Flow b1.Flow)) fun (r2:Bool)=>
 bnd1 (gd (((((decide (a1.ID=b1.ID)) && (decide (a1.Kind=b1.Kind))) && r1) && r2) == true) (YEt a1.Grid b1.Grid)) fun (r3:Bool)=>
 bnd1 (gd ((((((decide (a1.ID=b1.ID)) && (decide (a1.Kind=b1.Kind))) && r1) && r2) && r3) == true) (YB6 a1.Draw b1.Draw)) fun (r4:Bool)=>
 some ((((((decide (a1.ID=b1.ID)) && (decide (a1.Kind=b1.Kind))) && r1) && r2) && r3) && r4)
noncomputable def YA0 (s11:List YAP) (s21:List YAP) (x2:Int):Option (Int ⊕ (Ctl Unit Bool)):=
 if (decide (x2<(s11.length:Int))) then (
 bnd1 (idx s11 x2) fun (x4:YAP)=>
 bnd1 (idx s21 x2) fun (x5:YAP)=>
 if (!(decide (x4.Clock=x5.Clock) && (decide (x4.Site=x5.Site) && (decide (x4.Kind=x5.Kind) && (decide (x4.Item=x5.Item) && (decide (x4.Parent=x5.Parent) && (decide (x4.Place=x5.Place) && (decide (x4.Name=x5.Name) && (decide (x4.Value=x5.Value) && true))))))))) then (
 some (.inr (.ext false))
 ) else (
 bnd1 (chk .i64 (x2+1)) fun (x6:Int)=>
 some (.inl x6)
 )
 ) else (
 some (.inr (.nrm ()))
 )
noncomputable def YBD (s11:List YAP) (s21:List YAP):Option (Bool):=
 if (!decide ((s11.length:Int)=(s21.length:Int))) then (
 some false
 ) else (
 ctl1 (iter (fun (a:Int)=>YA0 s11 s21 a) 0) fun (u2:Unit)=>
 some true
 )
noncomputable def YKN (a1:YAR) (b1:YAR):Option (Bool):=
 bnd1 (gd (((decide (a1.ID=b1.ID)) && (decide (a1.Kind=b1.Kind))) == true) (YDD a1.Attrs b1.Attrs)) fun (r1:Bool)=>
 bnd1 (gd ((((decide (a1.ID=b1.ID)) && (decide (a1.Kind=b1.Kind))) && r1) == true) (YLv a1.Flow b1.Flow)) fun (r2:Bool)=>
 bnd1 (gd (((((decide (a1.ID=b1.ID)) && (decide (a1.Kind=b1.Kind))) && r1) && r2) == true) (YGb a1.Grid b1.Grid)) fun (r3:Bool)=>
 bnd1 (gd ((((((decide (a1.ID=b1.ID)) && (decide (a1.Kind=b1.Kind))) && r1) && r2) && r3) == true) (YBD a1.Draw b1.Draw)) fun (r4:Bool)=>
 some ((((((decide (a1.ID=b1.ID)) && (decide (a1.Kind=b1.Kind))) && r1) && r2) && r3) && r4)
noncomputable def YFk (d1:GDoc) (id1:Int) (x2:Int):Option (Int ⊕ (Ctl Unit Int)):=
 if (decide (x2<(d1.Nodes.length:Int))) then (
 bnd1 (idx d1.Nodes x2) fun (x4:YAR)=>
 if (decide (x4.ID=id1)) then (
 some (.inr (.ext x2))
 ) else (
 bnd1 (chk .i64 (x2+1)) fun (x5:Int)=>
 some (.inl x5)
 )
 ) else (
 some (.inr (.nrm ()))
 )
noncomputable def YDh (d1:GDoc) (id1:Int):Option (Int):=
 ctl1 (iter (fun (a:Int)=>YFk d1 id1 a) 0) fun (u2:Unit)=>
 some (-1)
noncomputable def YKn (id1:Int):Option (Int):=
 some (shrC .i64 id1 16)
noncomputable def YDk (kind1:Int):Option (Bool):=
 some ((((decide (kind1=1)) || (decide (kind1=3))) || (decide (kind1=4))) || (decide (kind1=12)))
noncomputable def YEE (parent1:Int) (kid1:Int):Option (Bool):=
 bnd1 (
 if (decide (kid1=1)) then (
 some (decide (kid1=1))
 ) else (
 if (decide (kid1=6)) then (
 some (decide (kid1=6))
 ) else (
 if (decide (kid1=7)) then (
 some (decide (kid1=7))
 ) else (
 if (decide (kid1=11)) then (
 some (decide (kid1=11))
 ) else (
 some (decide (kid1=12))
 )
 )
 )
 )
 ) fun (x1:Bool)=>
 if x1 then (
 some (decide (parent1=0))
 ) else (
 if (decide (kid1=10)) then (
 some (((decide (parent1=0)) || (decide (parent1=1))) || (decide (parent1=3)))
 ) else (
 if (decide (kid1=2)) then (
 some (decide (parent1=1))
 ) else (
 if (decide (kid1=4)) then (
 some ((decide (parent1=1)) || (decide (parent1=3)))
 ) else (
 if (decide (kid1=5)) then (
 bnd1 (YDk parent1) fun (r1:Bool)=>
 some r1
 ) else (
 if (decide (kid1=3)) then (
 some (decide (parent1=2))
 ) else (
 bnd1 (
 if (decide (kid1=8)) then (
 some (decide (kid1=8))
 ) else (
 some (decide (kid1=9))
 )
 ) fun (x2:Bool)=>
 if x2 then (
 some (decide (parent1=7))
 ) else (
 some false
 )
 )
 )
 )
 )
 )
 )
noncomputable def YGs (kind1:Int):Option (Bool):=
 some ((decide (kind1=0)) || (decide (kind1=7)))
noncomputable def YEq (g1:YAy):Option (Bool):=
 some ((((decide (g1.Rows=0)) && (decide (g1.Cols=0))) && (decide ((g1.Cells.length:Int)=0))) && (decide ((g1.Merges.length:Int)=0)))
noncomputable def YFj (kind1:Int):Option (Bool):=
 some ((decide (kind1=2)) || (decide (kind1=6)))
noncomputable def YGt (kind1:Int):Option (Bool):=
 some (((decide (kind1=8)) || (decide (kind1=9))) || (decide (kind1=10)))
noncomputable def YBV (s1:List UInt8):Option (Bool):=
 YRA s1
noncomputable def YAi (s1:List UInt8) (p2:(Nat)):Option ((Nat) ⊕ (Ctl Unit Bool)):=
 if (decide (p2<s1.length)) then (
 bnd1 (gd ((decide (((YGJ s1 p2).1:Int)=10)) == false) (YF4 (IntKind.i64.wrap ((YGJ s1 p2).1:Int)))) fun (r2:Bool)=>
 if ((decide (((YGJ s1 p2).1:Int)=10)) || (!r2)) then (
 some (.inr (.ext false))
 ) else (
 some (.inl (p2+(YGJ s1 p2).2))
 )
 ) else (
 some (.inr (.nrm ()))
 )
noncomputable def YEw (s1:List UInt8):Option (Bool):=
 bnd1 (YBV s1) fun (r1:Bool)=>
 if (!r1) then (
 some false
 ) else (
 ctl1 (iter (fun (a:(Nat))=>YAi s1 a) 0) fun (u2:Unit)=>
 some true
 )
noncomputable def YEH (c1:YAd):Option (Bool):=
 some (((decide (c1.Text=[])) && (decide (c1.Ref=0))) && (decide ((c1.Attrs.length:Int)=0)))
noncomputable def YCK (l1:List YAd) (rows1:Int) (cols1:Int) (none1:Bool) (x2:Int):Option (Int ⊕ (Ctl Unit Int)):=
 if (decide (x2<(l1.length:Int))) then (
 bnd1 (idx l1 x2) fun (x4:YAd)=>
 bnd1 (chk .i64 (rows1-1)) fun (x5:Int)=>
 bnd1 (YC2 x4.Row 0 x5) fun (r1:Bool)=>
 bnd1 (gd ((!r1) == false) (chk .i64 (cols1-1))) fun (x6:Int)=>
 bnd1 (gd ((!r1) == false) (YC2 x4.Col 0 x6)) fun (r2:Bool)=>
 bnd1 (gd (((!r1) || (!r2)) == false) (YC2 x4.Ref 0 1073741824)) fun (r3:Bool)=>
 if (((!r1) || (!r2)) || (!r3)) then (
 some (.inr (.ext 2))
 ) else (
 bnd1 (YEw x4.Text) fun (r4:Bool)=>
 if (!r4) then (
 some (.inr (.ext 23))
 ) else (
 bnd1 (YBR x4.Attrs false) fun (e1:Int)=>
 if (!decide (e1=0)) then (
 some (.inr (.ext e1))
 ) else (
 bnd1 (gd ((!none1) == true) (YEH x4)) fun (r5:Bool)=>
 if ((!none1) && r5) then (
 some (.inr (.ext 4))
 ) else (
 bnd1 (gd ((decide (0<x2)) == true) (chk .i64 (x2-1))) fun (x7:Int)=>
 bnd1 (gd ((decide (0<x2)) == true) (idx l1 x7)) fun (x8:YAd)=>
 bnd1 (gd ((((decide (0<x2)) == true) && ((decide (x4.Row<x8.Row)) == false)) && ((decide (x4.Row=x8.Row)) == true)) (chk .i64 (x2-1))) fun (x9:Int)=>
 bnd1 (gd ((((decide (0<x2)) == true) && ((decide (x4.Row<x8.Row)) == false)) && ((decide (x4.Row=x8.Row)) == true)) (idx l1 x9)) fun (x10:YAd)=>
 if ((decide (0<x2)) && ((decide (x4.Row<x8.Row)) || ((decide (x4.Row=x8.Row)) && (decide (x4.Col≤x10.Col))))) then (
 some (.inr (.ext 5))
 ) else (
 bnd1 (chk .i64 (x2+1)) fun (x11:Int)=>
 some (.inl x11)
 )
 )
 )
 )
 )
 ) else (
 some (.inr (.nrm ()))
 )
noncomputable def YDc (l1:List YAd) (rows1:Int) (cols1:Int) (none1:Bool):Option (Int):=
 ctl1 (iter (fun (a:Int)=>YCK l1 rows1 cols1 none1 a) 0) fun (u2:Unit)=>
 some 0
noncomputable def YI7 (r1:YAW) (rows1:Int) (cols1:Int):Option (Bool):=
 bnd1 (chk .i64 (rows1-1)) fun (x1:Int)=>
 bnd1 (YC2 r1.Row 0 x1) fun (r2:Bool)=>
 bnd1 (gd (r2 == true) (chk .i64 (cols1-1))) fun (x2:Int)=>
 bnd1 (gd (r2 == true) (YC2 r1.Col 0 x2)) fun (r3:Bool)=>
 bnd1 (gd ((r2 && r3) == true) (chk .i64 (rows1-r1.Row))) fun (x3:Int)=>
 bnd1 (gd ((r2 && r3) == true) (YC2 r1.H 1 x3)) fun (r4:Bool)=>
 bnd1 (gd (((r2 && r3) && r4) == true) (chk .i64 (cols1-r1.Col))) fun (x4:Int)=>
 bnd1 (gd (((r2 && r3) && r4) == true) (YC2 r1.W 1 x4)) fun (r5:Bool)=>
 some (((r2 && r3) && r4) && r5)
noncomputable def YHh (a1:YAW) (b1:YAW):Option (Bool):=
 bnd1 (chk .i64 (a1.Row+a1.H)) fun (x1:Int)=>
 bnd1 (chk .i64 (b1.Row+b1.H)) fun (x2:Int)=>
 bnd1 (gd ((decide ((max a1.Row b1.Row)<(min x1 x2))) == true) (chk .i64 (a1.Col+a1.W))) fun (x3:Int)=>
 bnd1 (gd ((decide ((max a1.Row b1.Row)<(min x1 x2))) == true) (chk .i64 (b1.Col+b1.W))) fun (x4:Int)=>
 some ((decide ((max a1.Row b1.Row)<(min x1 x2))) && (decide ((max a1.Col b1.Col)<(min x3 x4))))
noncomputable def YCn (g1:YAy) (x2:Int) (x4:YAW) (x10:Int):Option (Int ⊕ (Ctl Unit (Int ⊕ (Ctl Unit Int)))):=
 if (decide (x10<x2)) then (
 bnd1 (idx g1.Merges x10) fun (x13:YAW)=>
 bnd1 (YHh x4 x13) fun (r4:Bool)=>
 if r4 then (
 some (.inr (.ext (.inr (.ext 21))))
 ) else (
 bnd1 (chk .i64 (x10+1)) fun (x14:Int)=>
 some (.inl x14)
 )
 ) else (
 some (.inr (.nrm ()))
 )
noncomputable def YCo (g1:YAy) (x2:Int):Option (Int ⊕ (Ctl Unit Int)):=
 if (decide (x2<(g1.Merges.length:Int))) then (
 bnd1 (idx g1.Merges x2) fun (x4:YAW)=>
 bnd1 (YI7 x4 g1.Rows g1.Cols) fun (r3:Bool)=>
 if (!r3) then (
 some (.inr (.ext 2))
 ) else (
 if ((decide (x4.H=1)) && (decide (x4.W=1))) then (
 some (.inr (.ext 4))
 ) else (
 bnd1 (gd ((decide (0<x2)) == true) (chk .i64 (x2-1))) fun (x5:Int)=>
 bnd1 (gd ((decide (0<x2)) == true) (idx g1.Merges x5)) fun (x6:YAW)=>
 bnd1 (gd ((((decide (0<x2)) == true) && ((decide (x4.Row<x6.Row)) == false)) && ((decide (x4.Row=x6.Row)) == true)) (chk .i64 (x2-1))) fun (x7:Int)=>
 bnd1 (gd ((((decide (0<x2)) == true) && ((decide (x4.Row<x6.Row)) == false)) && ((decide (x4.Row=x6.Row)) == true)) (idx g1.Merges x7)) fun (x8:YAW)=>
 if ((decide (0<x2)) && ((decide (x4.Row<x6.Row)) || ((decide (x4.Row=x6.Row)) && (decide (x4.Col≤x8.Col))))) then (
 some (.inr (.ext 5))
 ) else (
 ctl1 (iter (fun (a:Int)=>YCn g1 x2 x4 a) 0) fun (u4:Unit)=>
 bnd1 (chk .i64 (x2+1)) fun (x12:Int)=>
 some (.inl x12)
 )
 )
 )
 ) else (
 some (.inr (.nrm ()))
 )
noncomputable def YEG (g1:YAy):Option (Int):=
 bnd1 (YC2 g1.Rows 0 2147483647) fun (r1:Bool)=>
 bnd1 (gd ((!r1) == false) (YC2 g1.Cols 0 2147483647)) fun (r2:Bool)=>
 if ((!r1) || (!r2)) then (
 some 2
 ) else (
 bnd1 (YDc g1.Cells g1.Rows g1.Cols false) fun (e1:Int)=>
 if (!decide (e1=0)) then (
 some e1
 ) else (
 ctl1 (iter (fun (a:Int)=>YCo g1 a) 0) fun (u2:Unit)=>
 some 0
 )
 )
noncomputable def YCq (kind1:Int) (l1:List YAd) (x2:Int):Option (Int ⊕ (Ctl Unit Int)):=
 if (decide (x2<(l1.length:Int))) then (
 bnd1 (gd ((decide (kind1=2)) == true) (idx l1 x2)) fun (x4:YAd)=>
 bnd1 (gd ((((decide (kind1=2)) && ((!decide (x4.Text=[])) || (decide (0<(x4.Attrs.length:Int))))) == false) && ((decide (kind1=6)) == true)) (idx l1 x2)) fun (x5:YAd)=>
 if (((decide (kind1=2)) && ((!decide (x4.Text=[])) || (decide (0<(x4.Attrs.length:Int))))) || ((decide (kind1=6)) && (!decide (x5.Ref=0)))) then (
 some (.inr (.ext 4))
 ) else (
 bnd1 (chk .i64 (x2+1)) fun (x6:Int)=>
 some (.inl x6)
 )
 ) else (
 some (.inr (.nrm ()))
 )
noncomputable def YEK (kind1:Int) (l1:List YAd):Option (Int):=
 ctl1 (iter (fun (a:Int)=>YCq kind1 l1 a) 0) fun (u2:Unit)=>
 some 0
noncomputable def YC8 (s1:List UInt8) (x2:Int):Option (Int ⊕ (Ctl Unit Bool)):=
 if (decide (x2<(s1.length:Int))) then (
 bnd1 (idx s1 x2) fun (ch2:UInt8)=>
 if ((decide ((ch2.toNat:Int)<97)) || (decide (122<(ch2.toNat:Int)))) then (
 some (.inr (.ext false))
 ) else (
 bnd1 (chk .i64 (x2+1)) fun (x5:Int)=>
 some (.inl x5)
 )
 ) else (
 some (.inr (.nrm ()))
 )
noncomputable def YHj (s1:List UInt8):Option (Bool):=
 ctl1 (iter (fun (a:Int)=>YC8 s1 a) 0) fun (u2:Unit)=>
 bnd1 (gd (((decide (1≤(s1.length:Int))) && (decide ((s1.length:Int)≤200))) == true) (chk .i64 ((s1.length:Int)-1))) fun (x4:Int)=>
 bnd1 (gd (((decide (1≤(s1.length:Int))) && (decide ((s1.length:Int)≤200))) == true) (idx s1 x4)) fun (ch1:UInt8)=>
 some (((decide (1≤(s1.length:Int))) && (decide ((s1.length:Int)≤200))) && (!decide ((ch1.toNat:Int)=97)))
noncomputable def YEa (a1:YAP) (b1:YAP):Option (Bool):=
 some ((decide (a1.Clock<b1.Clock)) || ((decide (a1.Clock=b1.Clock)) && (decide (a1.Site<b1.Site))))
noncomputable def YCp (l1:List YAP) (x2:Int):Option (Int ⊕ (Ctl Unit Int)):=
 if (decide (x2<(l1.length:Int))) then (
 bnd1 (idx l1 x2) fun (x4:YAP)=>
 if ((!decide (x4.Kind=0)) && (!decide (x4.Kind=1))) then (
 some (.inr (.ext 8))
 ) else (
 bnd1 (YC2 x4.Clock 1 1073741824) fun (r1:Bool)=>
 bnd1 (gd ((!r1) == false) (YC2 x4.Site 0 1000)) fun (r2:Bool)=>
 bnd1 (gd (((!r1) || (!r2)) == false) (YC2 x4.Item 1 1073741824)) fun (r3:Bool)=>
 if (((!r1) || (!r2)) || (!r3)) then (
 some (.inr (.ext 2))
 ) else (
 ctl1 (
 if (decide (x4.Kind=0)) then (
 if ((!decide (x4.Name=[])) || (!decide (x4.Value=[]))) then (
 some (.ext (.inr (.ext 4)))
 ) else (
 bnd1 (YC2 x4.Parent (-1) 1073741824) fun (r5:Bool)=>
 if (!r5) then (
 some (.ext (.inr (.ext 2)))
 ) else (
 bnd1 (YHj x4.Place) fun (r6:Bool)=>
 if (!r6) then (
 some (.ext (.inr (.ext 9)))
 ) else (
 some (.nrm ())
 )
 )
 )
 ) else (
 if ((!decide (x4.Parent=0)) || (!decide (x4.Place=[]))) then (
 some (.ext (.inr (.ext 4)))
 ) else (
 bnd1 (YH2 x4.Name) fun (r7:Bool)=>
 if (!r7) then (
 some (.ext (.inr (.ext 9)))
 ) else (
 bnd1 (gd ((!decide (x4.Value=[])) == true) (YFi x4.Value)) fun (r8:Bool)=>
 if ((!decide (x4.Value=[])) && (!r8)) then (
 some (.ext (.inr (.ext 23)))
 ) else (
 some (.nrm ())
 )
 )
 )
 )
 ) fun (u3:Unit)=>
 bnd1 (gd ((decide (0<x2)) == true) (chk .i64 (x2-1))) fun (x5:Int)=>
 bnd1 (gd ((decide (0<x2)) == true) (idx l1 x5)) fun (x6:YAP)=>
 bnd1 (gd ((decide (0<x2)) == true) (YEa x6 x4)) fun (r4:Bool)=>
 if ((decide (0<x2)) && (!r4)) then (
 some (.inr (.ext 5))
 ) else (
 bnd1 (chk .i64 (x2+1)) fun (x7:Int)=>
 some (.inl x7)
 )
 )
 )
 ) else (
 some (.inr (.nrm ()))
 )
noncomputable def YEJ (l1:List YAP):Option (Int):=
 ctl1 (iter (fun (a:Int)=>YCp l1 a) 0) fun (u2:Unit)=>
 some 0
noncomputable def YEF (n1:YAR):Option (Int):=
 bnd1 (YC2 n1.ID 1 1073741824) fun (r1:Bool)=>
 if (!r1) then (
 some 2
 ) else (
 bnd1 (YC2 n1.Kind 0 12) fun (r2:Bool)=>
 if (((!r2) || ((decide (n1.ID=1)) && (!decide (n1.Kind=0)))) || ((!decide (n1.ID=1)) && (decide (n1.Kind=0)))) then (
 some 8
 ) else (
 bnd1 (YBR n1.Attrs false) fun (e1:Int)=>
 if (!decide (e1=0)) then (
 some e1
 ) else (
 bnd1 (YDk n1.Kind) fun (r3:Bool)=>
 bnd1 (gd (r3 == false) (YGs n1.Kind)) fun (r4:Bool)=>
 bnd1 (gd (((decide (0<(n1.Flow.length:Int))) && (!(r3 || r4))) == false) (YEq n1.Grid)) fun (r5:Bool)=>
 bnd1 (gd ((((decide (0<(n1.Flow.length:Int))) && (!(r3 || r4))) == false) && ((!r5) == true)) (YFj n1.Kind)) fun (r6:Bool)=>
 bnd1 (gd (((((decide (0<(n1.Flow.length:Int))) && (!(r3 || r4))) || ((!r5) && (!r6))) == false) && ((decide (0<(n1.Draw.length:Int))) == true)) (YGt n1.Kind)) fun (r7:Bool)=>
 if ((((decide (0<(n1.Flow.length:Int))) && (!(r3 || r4))) || ((!r5) && (!r6))) || ((decide (0<(n1.Draw.length:Int))) && (!r7))) then (
 some 4
 ) else (
 if (r3 || r4) then (
 bnd1 (YB0 n1.Flow r3) fun (r9:Int)=>
 some r9
 ) else (
 bnd1 (YFj n1.Kind) fun (r10:Bool)=>
 if r10 then (
 bnd1 (YEG n1.Grid) fun (e2:Int)=>
 if (!decide (e2=0)) then (
 some e2
 ) else (
 bnd1 (YEK n1.Kind n1.Grid.Cells) fun (r11:Int)=>
 some r11
 )
 ) else (
 bnd1 (YEJ n1.Draw) fun (r12:Int)=>
 some r12
 )
 )
 )
 )
 )
 )
noncomputable def YFI (n1:YAR) (x5:Int) (out6:List Int):Option ((Int × (List Int)) ⊕ (List Int)):=
 if (decide (x5<(n1.Grid.Cells.length:Int))) then (
 bnd1 (
 bnd1 (idx n1.Grid.Cells x5) fun (x8:YAd)=>
 if (!decide (x8.Ref=0)) then (
 bnd1 (app 8 out6 [x8.Ref]) fun (out10:List Int)=>
 some out10
 ) else (
 some out6
 )
 ) fun (out9:List Int)=>
 bnd1 (chk .i64 (x5+1)) fun (x7:Int)=>
 some (.inl (x7,out9))
 ) else (
 some (.inr out6)
 )
noncomputable def YFJ (n1:YAR) (x2:Int) (out2:List Int):Option ((Int × (List Int)) ⊕ (List Int)):=
 if (decide (x2<(n1.Flow.length:Int))) then (
 bnd1 (
 bnd1 (idx n1.Flow x2) fun (x10:YAB)=>
 if (!decide (x10.Ref=0)) then (
 bnd1 (app 8 out2 [x10.Ref]) fun (out12:List Int)=>
 some out12
 ) else (
 some out2
 )
 ) fun (out11:List Int)=>
 bnd1 (chk .i64 (x2+1)) fun (x9:Int)=>
 some (.inl (x9,out11))
 ) else (
 some (.inr out2)
 )
noncomputable def YGP (n1:YAR):Option ((List Int)):=
 bnd1 (iter (fun (a:Int × (List Int))=>YFJ n1 a.1 a.2) (0,[])) fun (out4:List Int)=>
 bnd1 (iter (fun (a:Int × (List Int))=>YFI n1 a.1 a.2) (0,out4)) fun (out8:List Int)=>
 some out8
noncomputable def YBu (d1:GDoc) (kind1:Int) (YMY:List Int) (x2:Int):Option (Int ⊕ (Ctl Unit Int)):=
 if (decide (x2<(YMY.length:Int))) then (
 bnd1 (idx YMY x2) fun (x4:Int)=>
 bnd1 (YDh d1 x4) fun (k1:Int)=>
 if (decide (k1<0)) then (
 some (.inr (.ext 7))
 ) else (
 bnd1 (idx d1.Nodes k1) fun (x5:YAR)=>
 bnd1 (YEE kind1 x5.Kind) fun (r1:Bool)=>
 if (!r1) then (
 some (.inr (.ext 8))
 ) else (
 bnd1 (chk .i64 (x2+1)) fun (x6:Int)=>
 some (.inl x6)
 )
 )
 ) else (
 some (.inr (.nrm ()))
 )
noncomputable def YED (d1:GDoc) (kind1:Int) (YMY:List Int):Option (Int):=
 ctl1 (iter (fun (a:Int)=>YBu d1 kind1 YMY a) 0) fun (u2:Unit)=>
 some 0
noncomputable def YBo (d1:GDoc) (x5:Int):Option (Int ⊕ (Ctl Unit Int)):=
 if (decide (x5<(d1.Nodes.length:Int))) then (
 bnd1 (idx d1.Nodes x5) fun (x7:YAR)=>
 bnd1 (YGP x7) fun (r1:List Int)=>
 bnd1 (YED d1 x7.Kind r1) fun (e1:Int)=>
 if (!decide (e1=0)) then (
 some (.inr (.ext e1))
 ) else (
 bnd1 (chk .i64 (x5+1)) fun (x8:Int)=>
 some (.inl x8)
 )
 ) else (
 some (.inr (.nrm ()))
 )
noncomputable def YCJ (d1:GDoc) (x2:Int):Option (Int ⊕ (Ctl Unit Int)):=
 if (decide (x2<(d1.Nodes.length:Int))) then (
 bnd1 (idx d1.Nodes x2) fun (x9:YAR)=>
 bnd1 (YEF x9) fun (e2:Int)=>
 if (!decide (e2=0)) then (
 some (.inr (.ext e2))
 ) else (
 bnd1 (gd ((decide (x2=0)) == true) (idx d1.Nodes 0)) fun (x10:YAR)=>
 bnd1 (gd ((((decide (x2=0)) && (!decide (x10.ID=1))) == false) && ((decide (0<x2)) == true)) (chk .i64 (x2-1))) fun (x11:Int)=>
 bnd1 (gd ((((decide (x2=0)) && (!decide (x10.ID=1))) == false) && ((decide (0<x2)) == true)) (idx d1.Nodes x11)) fun (x12:YAR)=>
 if (((decide (x2=0)) && (!decide (x10.ID=1))) || ((decide (0<x2)) && (decide (x9.ID≤x12.ID)))) then (
 some (.inr (.ext 5))
 ) else (
 bnd1 (chk .i64 (x2+1)) fun (x13:Int)=>
 some (.inl x13)
 )
 )
 ) else (
 some (.inr (.nrm ()))
 )
noncomputable def YC9 (d1:GDoc):Option (Int):=
 if (decide ((d1.Nodes.length:Int)=0)) then (
 some 11
 ) else (
 ctl1 (iter (fun (a:Int)=>YCJ d1 a) 0) fun (u2:Unit)=>
 ctl1 (iter (fun (a:Int)=>YBo d1 a) 0) fun (u4:Unit)=>
 some 0
 )
structure GSel where
 Node:Int
 From:Int
 To:Int
deriving DecidableEq
instance:Inhabited GSel:=⟨⟨0,0,0⟩⟩
@[reducible] def GSel.row (x:GSel):List RV:=[.int .i64 x.Node,.int .i64 x.From,.int .i64 x.To]
structure YAM where
 node:YAR
 shown:List Int
 author:List UInt8
deriving DecidableEq
instance:Inhabited YAM:=⟨⟨(YAR.mk 0 0 [] [] (YAy.mk 0 0 [] []) []),[],[]⟩⟩
noncomputable def YKE:Option (Bool):=
 some true
noncomputable def YI5:Option (Bool):=
 some true
noncomputable def YFq (d1:GDoc) (id1:Int):Option (Int):=
 bnd2 (YH8 d1 id1) fun (r1:Int) (r2:Bool)=>
 if r2 then (
 some r1
 ) else (
 some (-1)
 )
noncomputable def YDo (d1:GDoc) (s1:GSel) (author1:List UInt8):Option (YAM × Int):=
 bnd1 (YBh d1) fun (e1:Int)=>
 if (!decide (e1=0)) then (
 some ((YAM.mk (YAR.mk 0 0 [] [] (YAy.mk 0 0 [] []) []) [] []),e1)
 ) else (
 bnd1 (YFq d1 s1.Node) fun (i1:Int)=>
 if (decide (i1<0)) then (
 some ((YAM.mk (YAR.mk 0 0 [] [] (YAy.mk 0 0 [] []) []) [] []),7)
 ) else (
 bnd1 (idx d1.Nodes i1) fun (x1:YAR)=>
 bnd1 (YEO x1.Kind) fun (r1:Bool)=>
 if (!r1) then (
 some ((YAM.mk (YAR.mk 0 0 [] [] (YAy.mk 0 0 [] []) []) [] []),8)
 ) else (
 bnd1 (YDm x1.Flow 0) fun (r2:List Int)=>
 if (((decide (s1.From<0)) || (decide (s1.To<s1.From))) || (decide ((r2.length:Int)≤s1.To))) then (
 some ((YAM.mk (YAR.mk 0 0 [] [] (YAy.mk 0 0 [] []) []) [] []),2)
 ) else (
 bnd1 (gd ((!decide (author1=[])) == true) (YCz author1)) fun (r3:Bool)=>
 if ((!decide (author1=[])) && (!r3)) then (
 some ((YAM.mk (YAR.mk 0 0 [] [] (YAy.mk 0 0 [] []) []) [] []),23)
 ) else (
 some ((YAM.mk x1 r2 author1),0)
 )
 )
 )
 )
 )
noncomputable def YDA (d1:GDoc) (s1:GSel):Option (Int):=
 bnd1 (YC9 d1) fun (e1:Int)=>
 if (!decide (e1=0)) then (
 some e1
 ) else (
 bnd1 (YDh d1 s1.Node) fun (i1:Int)=>
 if (decide (i1<0)) then (
 some 7
 ) else (
 bnd1 (idx d1.Nodes i1) fun (x1:YAR)=>
 bnd1 (YDk x1.Kind) fun (r1:Bool)=>
 if (!r1) then (
 some 8
 ) else (
 bnd1 (YGO x1.Flow 0) fun (r2:List Int)=>
 if (((decide (s1.From<0)) || (decide (s1.To<s1.From))) || (decide ((r2.length:Int)≤s1.To))) then (
 some 2
 ) else (
 some 0
 )
 )
 )
 )
noncomputable def YC7 (a1:YAY) (b1:YAY):Option (Bool):=
 bnd1 (YDL a1.Rows b1.Rows) fun (r1:Bool)=>
 bnd1 (gd (r1 == true) (YDL a1.Cols b1.Cols)) fun (r2:Bool)=>
 bnd1 (gd ((r1 && r2) == true) (YDM a1.Cells b1.Cells)) fun (r3:Bool)=>
 bnd1 (gd (((r1 && r2) && r3) == true) (YCZ a1.Split b1.Split)) fun (r4:Bool)=>
 bnd1 (gd ((((r1 && r2) && r3) && r4) == true) (YCZ a1.Merge b1.Merge)) fun (r5:Bool)=>
 some ((((r1 && r2) && r3) && r4) && r5)
noncomputable def YA4 (a1:GOp) (b1:GOp):Option (Bool):=
 bnd1 (gd (((decide (a1.Kind=b1.Kind)) && (decide (a1.Node=b1.Node))) == true) (YC5 a1.New b1.New)) fun (r1:Bool)=>
 bnd1 (gd ((((decide (a1.Kind=b1.Kind)) && (decide (a1.Node=b1.Node))) && r1) == true) (YA7 a1.Attrs b1.Attrs)) fun (r2:Bool)=>
 bnd1 (gd (((((decide (a1.Kind=b1.Kind)) && (decide (a1.Node=b1.Node))) && r1) && r2) == true) (YCa a1.Steps b1.Steps)) fun (r3:Bool)=>
 bnd1 (gd ((((((decide (a1.Kind=b1.Kind)) && (decide (a1.Node=b1.Node))) && r1) && r2) && r3) == true) (YC7 a1.Grid b1.Grid)) fun (r4:Bool)=>
 bnd1 (gd (((((((decide (a1.Kind=b1.Kind)) && (decide (a1.Node=b1.Node))) && r1) && r2) && r3) && r4) == true) (YB6 a1.Draw b1.Draw)) fun (r5:Bool)=>
 some (((((((decide (a1.Kind=b1.Kind)) && (decide (a1.Node=b1.Node))) && r1) && r2) && r3) && r4) && r5)
noncomputable def YCL (a1:List GOp) (b1:List GOp) (x2:Int):Option (Int ⊕ (Ctl Unit Bool)):=
 if (decide (x2<(a1.length:Int))) then (
 bnd1 (idx a1 x2) fun (x4:GOp)=>
 bnd1 (idx b1 x2) fun (x5:GOp)=>
 bnd1 (YA4 x4 x5) fun (r1:Bool)=>
 if (!r1) then (
 some (.inr (.ext false))
 ) else (
 bnd1 (chk .i64 (x2+1)) fun (x6:Int)=>
 some (.inl x6)
 )
 ) else (
 some (.inr (.nrm ()))
 )
noncomputable def YB8 (a1:List GOp) (b1:List GOp):Option (Bool):=
 if (!decide ((a1.length:Int)=(b1.length:Int))) then (
 some false
 ) else (
 ctl1 (iter (fun (a:Int)=>YCL a1 b1 a) 0) fun (u2:Unit)=>
 some true
 )
noncomputable def YEg (d1:GDoc) (site1:Int) (last2:Int) (x2:Int):Option ((Int × Int) ⊕ Int):=
 if (decide (x2<(d1.Nodes.length:Int))) then (
 bnd1 (
 bnd1 (idx d1.Nodes x2) fun (x6:YAR)=>
 bnd1 (YKn x6.ID) fun (r1:Int)=>
 if (decide (r1=site1)) then (
 some x6.ID
 ) else (
 some last2
 )
 ) fun (last5:Int)=>
 bnd1 (chk .i64 (x2+1)) fun (x5:Int)=>
 some (.inl (last5,x5))
 ) else (
 some (.inr last2)
 )
noncomputable def YF9 (d1:GDoc) (site1:Int):Option (Int × Int):=
 bnd1 (YBh d1) fun (e1:Int)=>
 if (!decide (e1=0)) then (
 some (0,e1)
 ) else (
 if ((decide (site1<0)) || (decide (1000<site1))) then (
 some (0,2)
 ) else (
 bnd1 (iter (fun (a:Int × Int)=>YEg d1 site1 a.1 a.2) ((shlC .i64 site1 16),0)) fun (last4:Int)=>
 if (decide ((bAnd .i64 last4 65535)=65535)) then (
 some (0,18)
 ) else (
 bnd1 (chk .i64 (last4+1)) fun (x4:Int)=>
 some (x4,0)
 )
 )
 )
noncomputable def YD8:Option (Bool):=
 some true
noncomputable def YD7 (d1:GDoc) (s1:GSel):Option (Int):=
 bnd2 (YDo d1 s1 []) fun (r1:YAM) (r2:Int)=>
 some r2
noncomputable def YA2 (attrs1:List YAD) (s3:List UInt8) (out2:List YAB):Option (((List UInt8) × (List YAB)) ⊕ (Ctl (List YAB) (Int × (List YAB)))):=
 if (!decide (s3=[])) then (
 bnd2 (YAL s3) fun (r1:Int) (r2:Int)=>
 if ((decide (r1=65533)) && (decide (r2=1))) then (
 some (.inr (.ext (10,[])))
 ) else (
 bnd1 (YEx (IntKind.i64.wrap r1)) fun (r3:Bool)=>
 if (!r3) then (
 some (.inr (.ext (2,[])))
 ) else (
 bnd1 (app 32 [] attrs1) fun (l1:List YAD)=>
 bnd1 (app 40 out2 [(YAB.mk (IntKind.i64.wrap r1) 0 l1)]) fun (out5:List YAB)=>
 bnd1 (slc s3 r2 (s3.length:Int)) fun (s5:List UInt8)=>
 some (.inl (s5,out5))
 )
 )
 ) else (
 some (.inr (.nrm out2))
 )
noncomputable def YFo (s1:List UInt8) (attrs1:List YAD):Option (Int × (List YAB)):=
 bnd1 (YDU attrs1) fun (e1:Int)=>
 if (!decide (e1=0)) then (
 some (e1,[])
 ) else (
 ctl1 (iter (fun (a:(List UInt8) × (List YAB))=>YA2 attrs1 a.1 a.2) (s1,[])) fun (out4:List YAB)=>
 some (0,out4)
 )
noncomputable def YCY (d1:GDoc) (attrs1:List YAD) (text1:List UInt8) (site1:Int):Option ((List GOp) × Int × Int):=
 bnd2 (YF9 d1 site1) fun (r1:Int) (r2:Int)=>
 if (!decide (r2=0)) then (
 some ([],0,r2)
 ) else (
 if (decide (20000<(text1.length:Int))) then (
 some ([],0,3)
 ) else (
 bnd2 (YFo text1 []) fun (r3:Int) (w1:List YAB)=>
 if (!decide (r3=0)) then (
 some ([],0,r3)
 ) else (
 bnd1 (app 40 w1 [(YAB.mk 10 0 [])]) fun (l1:List YAB)=>
 bnd1 (idx d1.Nodes 0) fun (x1:YAR)=>
 bnd2 (YCd (x1.Flow.length:Int) (x1.Flow.length:Int) (x1.Flow.length:Int) [(YAB.mk 0 r1 [])]) fun (r4:List YAC) (r5:Int)=>
 some ([(GOp.mk 0 0 (YAR.mk r1 12 attrs1 l1 (YAy.mk 0 0 [] []) []) [] [] (YAY.mk [] [] [] [] []) []),(GOp.mk 2 1 (YAR.mk 0 0 [] [] (YAy.mk 0 0 [] []) []) [] r4 (YAY.mk [] [] [] [] []) [])],r1,r5)
 )
 )
 )
noncomputable def strconv_Itoa (n1:Int):Option (List UInt8):=
 itoaS n1
noncomputable def YFg (id1:Int):Option ((List UInt8)):=
 bnd1 (strconv_Itoa id1) fun (r1:List UInt8)=>
 bnd1 (catM [114,101,109,97,114,107,46] r1) fun (s1:List UInt8)=>
 some s1
noncomputable def YDJ (d1:GDoc) (attrs1:List YAD) (text1:List UInt8) (site1:Int):Option (Int × Int × (List GOp)):=
 bnd2 (YF9 d1 site1) fun (r1:Int) (r2:Int)=>
 if (!decide (r2=0)) then (
 some (0,r2,[])
 ) else (
 if (decide (20000<(text1.length:Int))) then (
 some (0,3,[])
 ) else (
 bnd2 (YFo text1 []) fun (r3:Int) (w1:List YAB)=>
 if (!decide (r3=0)) then (
 some (0,r3,[])
 ) else (
 bnd1 (app 40 w1 [(YAB.mk 10 0 [])]) fun (l1:List YAB)=>
 bnd1 (idx d1.Nodes 0) fun (x1:YAR)=>
 bnd2 (YCd (x1.Flow.length:Int) (x1.Flow.length:Int) (x1.Flow.length:Int) [(YAB.mk 0 r1 [])]) fun (r4:List YAC) (r5:Int)=>
 some (r1,r5,[(GOp.mk 0 0 (YAR.mk r1 12 attrs1 l1 (YAy.mk 0 0 [] []) []) [] [] (YAY.mk [] [] [] [] []) []),(GOp.mk 2 1 (YAR.mk 0 0 [] [] (YAy.mk 0 0 [] []) []) [] r4 (YAY.mk [] [] [] [] []) [])])
 )
 )
 )
noncomputable def YDK (r2:Int) (x1:YAR) (shown1:List Int) (x3:Int) (steps2:List YAC):Option ((Int × (List YAC)) ⊕ (List YAC)):=
 if (decide (x3<(x1.Flow.length:Int))) then (
 bnd1 (YAo shown1 x3) fun (r8:Bool)=>
 bnd1 (
 if r8 then (
 bnd1 (YFg r2) fun (r9:List UInt8)=>
 some (YAC.mk 0 1 [(YAD.mk r9 [111,110])] [])
 ) else (
 some (YAC.mk 0 1 [] [])
 )
 ) fun (x5:YAC)=>
 bnd1 (app 64 steps2 [(YAC.mk x5.Kind x5.N x5.Attrs [])]) fun (steps5:List YAC)=>
 bnd1 (chk .i64 (x3+1)) fun (x6:Int)=>
 some (.inl (x6,steps5))
 ) else (
 some (.inr steps2)
 )
noncomputable def YGN (d1:GDoc) (s1:GSel) (author1:List UInt8) (text1:List UInt8) (site1:Int):Option ((List GOp) × Int × Int):=
 bnd1 (YD7 d1 s1) fun (e1:Int)=>
 if (!decide (e1=0)) then (
 some ([],0,e1)
 ) else (
 if (decide (s1.From=s1.To)) then (
 some ([],0,1)
 ) else (
 bnd1 (YCz author1) fun (r1:Bool)=>
 if (!r1) then (
 some ([],0,23)
 ) else (
 bnd3 (YDJ d1 [(YAD.mk [97,117,116,104,111,114] author1)] text1 site1) fun (r2:Int) (r3:Int) (w1:List GOp)=>
 if (!decide (r3=0)) then (
 some ([],0,r3)
 ) else (
 bnd1 (YFq d1 s1.Node) fun (r4:Int)=>
 bnd1 (idx d1.Nodes r4) fun (x1:YAR)=>
 bnd1 (YDm x1.Flow 0) fun (r5:List Int)=>
 bnd1 (slc r5 s1.From s1.To) fun (shown1:List Int)=>
 bnd1 (iter (fun (a:Int × (List YAC))=>YDK r2 x1 shown1 a.1 a.2) (0,[])) fun (steps4:List YAC)=>
 bnd2 (YFU steps4) fun (r6:List YAC) (r7:Int)=>
 bnd1 (app 360 w1 [(GOp.mk 2 s1.Node (YAR.mk 0 0 [] [] (YAy.mk 0 0 [] []) []) [] r6 (YAY.mk [] [] [] [] []) [])]) fun (l1:List GOp)=>
 some (l1,r2,0)
 )
 )
 )
 )
noncomputable def YEo (d1:GDoc) (id1:Int):Option (Int):=
 bnd1 (YBh d1) fun (e1:Int)=>
 if (!decide (e1=0)) then (
 some e1
 ) else (
 bnd1 (YFq d1 id1) fun (i1:Int)=>
 if (decide (i1<0)) then (
 some 7
 ) else (
 bnd1 (idx d1.Nodes i1) fun (x1:YAR)=>
 if (!decide (x1.Kind=12)) then (
 some 8
 ) else (
 some 0
 )
 )
 )
noncomputable def YEp (d1:GDoc) (id1:Int) (author1:List UInt8) (text1:List UInt8) (site1:Int):Option ((List GOp) × Int × Int):=
 bnd1 (YEo d1 id1) fun (e1:Int)=>
 if (!decide (e1=0)) then (
 some ([],0,e1)
 ) else (
 bnd1 (YCz author1) fun (r1:Bool)=>
 if (!r1) then (
 some ([],0,23)
 ) else (
 bnd1 (strconv_Itoa id1) fun (r2:List UInt8)=>
 bnd3 (YCY d1 [(YAD.mk [97,117,116,104,111,114] author1),(YAD.mk [114,101,112,108,121] r2)] text1 site1) fun (r3:List GOp) (r4:Int) (r5:Int)=>
 some (r3,r4,r5)
 )
 )
noncomputable def YFh (d1:GDoc) (id1:Int) (done1:Bool):Option ((List GOp) × Int):=
 bnd1 (YEo d1 id1) fun (e1:Int)=>
 if (!decide (e1=0)) then (
 some ([],e1)
 ) else (
 bnd1 (
 if done1 then (
 some (YAD.mk [100,111,110,101] [111,110])
 ) else (
 some (YAD.mk [100,111,110,101] [])
 )
 ) fun (a1:YAD)=>
 some ([(GOp.mk 1 id1 (YAR.mk 0 0 [] [] (YAy.mk 0 0 [] []) []) [a1] [] (YAY.mk [] [] [] [] []) [])],0)
 )
noncomputable def YAs (s1:List UInt8) (attrs1:List YAD) (i4:Int) (out2:List YAB):Option ((Int × (List YAB)) ⊕ (Ctl (List YAB) (Int × (List YAB)))):=
 if (decide (i4<(s1.length:Int))) then (
 bnd1 (slc s1 i4 (s1.length:Int)) fun (s2:List UInt8)=>
 bnd2 (YAL s2) fun (r1:Int) (r2:Int)=>
 if ((decide (r1=65533)) && (decide (r2<2))) then (
 some (.inr (.ext (10,[])))
 ) else (
 bnd1 (YF4 (IntKind.i64.wrap r1)) fun (r3:Bool)=>
 if (!r3) then (
 some (.inr (.ext (2,[])))
 ) else (
 bnd1 (app 40 out2 [(YAB.mk (IntKind.i64.wrap r1) 0 attrs1)]) fun (out5:List YAB)=>
 bnd1 (chk .i64 (i4+r2)) fun (i9:Int)=>
 some (.inl (i9,out5))
 )
 )
 ) else (
 some (.inr (.nrm out2))
 )
noncomputable def YDp (s1:List UInt8) (attrs1:List YAD):Option (Int × (List YAB)):=
 bnd1 (YBR attrs1 false) fun (e1:Int)=>
 if (!decide (e1=0)) then (
 some (e1,[])
 ) else (
 ctl1 (iter (fun (a:Int × (List YAB))=>YAs s1 attrs1 a.1 a.2) (0,[])) fun (out4:List YAB)=>
 some (0,out4)
 )
noncomputable def YIk (d1:GDoc) (c1:List GOp) (id1:Int) (e1:Int) (f1:Int) (l1:List YAD) (text1:List UInt8) (site1:Int):Option (Bool):=
 bnd1 (gd ((decide (f1=0)) == true) (idx l1 0)) fun (x1:YAD)=>
 bnd1 (gd ((decide (f1=0)) == true) (YFi x1.Value)) fun (r1:Bool)=>
 bnd1 (
 if ((decide (f1=0)) && (!r1)) then (
 some 23
 ) else (
 some f1
 )
 ) fun (f2:Int)=>
 bnd2 (
 if (decide (f2=0)) then (
 bnd2 (YF9 d1 site1) fun (r6:Int) (r7:Int)=>
 some (r7,r6)
 ) else (
 some (f2,0)
 )
 ) fun (f3:Int) (next1:Int)=>
 bnd1 (
 if ((decide (f3=0)) && (decide (20000<(text1.length:Int)))) then (
 some 3
 ) else (
 some f3
 )
 ) fun (f4:Int)=>
 bnd2 (
 if (decide (f4=0)) then (
 bnd2 (YDp text1 []) fun (r5:Int) (w1:List YAB)=>
 some (r5,w1)
 ) else (
 some (f4,[])
 )
 ) fun (f5:Int) (t1:List YAB)=>
 if (!decide (f5=0)) then (
 some (((decide (e1=f5)) && (decide ((c1.length:Int)=0))) && (decide (id1=0)))
 ) else (
 bnd1 (YQj) fun (r2:YAB)=>
 bnd1 (app 40 t1 [r2]) fun (l2:List YAB)=>
 bnd1 (idx d1.Nodes 0) fun (x2:YAR)=>
 bnd1 (
 if (decide (0<(x2.Flow.length:Int))) then (
 bnd1 (app 64 [] [(YAC.mk 0 (x2.Flow.length:Int) [] [])]) fun (steps3:List YAC)=>
 some steps3
 ) else (
 some []
 )
 ) fun (steps1:List YAC)=>
 bnd1 (app 64 steps1 [(YAC.mk 1 0 [] [(YAB.mk 0 next1 [])])]) fun (steps2:List YAC)=>
 bnd1 (gd ((((decide (e1=0)) && (decide (id1=next1))) && (decide (1<(c1.length:Int)))) == true) (idx c1 0)) fun (x3:GOp)=>
 bnd1 (gd ((((decide (e1=0)) && (decide (id1=next1))) && (decide (1<(c1.length:Int)))) == true) (YA4 x3 (GOp.mk 0 0 (YAR.mk next1 12 l1 l2 (YAy.mk 0 0 [] []) []) [] [] (YAY.mk [] [] [] [] []) []))) fun (r3:Bool)=>
 bnd1 (gd (((((decide (e1=0)) && (decide (id1=next1))) && (decide (1<(c1.length:Int)))) && r3) == true) (idx c1 1)) fun (x4:GOp)=>
 bnd1 (gd (((((decide (e1=0)) && (decide (id1=next1))) && (decide (1<(c1.length:Int)))) && r3) == true) (YA4 x4 (GOp.mk 2 1 (YAR.mk 0 0 [] [] (YAy.mk 0 0 [] []) []) [] steps2 (YAY.mk [] [] [] [] []) []))) fun (r4:Bool)=>
 some (((((decide (e1=0)) && (decide (id1=next1))) && (decide (1<(c1.length:Int)))) && r3) && r4)
 )
noncomputable def YBd (n3:Int) (out2:List UInt8):Option ((Int × (List UInt8)) ⊕ (List UInt8)):=
 if ((decide (out2=[])) || (!decide (n3=0))) then (
 bnd1 (remM n3 10) fun (x1:Int)=>
 bnd1 (chk .i64 (-x1)) fun (x2:Int)=>
 bnd1 (chk .i64 (48+(max x1 x2))) fun (x3:Int)=>
 bnd1 (catM (YI1 [(IntKind.u8.wrap x3)]) out2) fun (out5:List UInt8)=>
 bnd1 (quoM .i64 n3 10) fun (n5:Int)=>
 some (.inl (n5,out5))
 ) else (
 some (.inr out2)
 )
noncomputable def YH3 (n1:Int):Option ((List UInt8)):=
 bnd1 (
 if (decide (n1<0)) then (
 some [45]
 ) else (
 some []
 )
 ) fun (sign1:List UInt8)=>
 bnd1 (iter (fun (a:Int × (List UInt8))=>YBd a.1 a.2) (n1,[])) fun (out4:List UInt8)=>
 bnd1 (catM sign1 out4) fun (s1:List UInt8)=>
 some s1
noncomputable def YAp (r3:Int) (l5:List Int) (x7:Int) (x8:YAq):Option ((Int × YAq) ⊕ YAq):=
 if (decide (x7<(l5.length:Int))) then (
 bnd1 (idx l5 x7) fun (x14:Int)=>
 bnd1 (YH3 r3) fun (r19:List UInt8)=>
 bnd1 (catM [114,101,109,97,114,107,46] r19) fun (s2:List UInt8)=>
 bnd1 (YKH s2) fun (r20:List YAD)=>
 bnd1 (idx x8.Attrs x14) fun (x15:List YAD)=>
 bnd1 (chk .i64 (x7+1)) fun (x16:Int)=>
 some (.inl (x16,(YAq.mk x8.Adds x8.Cuts (x8.Attrs.set x14.toNat r20))))
 ) else (
 some (.inr x8)
 )
noncomputable def YCE (d1:GDoc) (s1:GSel) (id1:Int) (author1:List UInt8) (text1:List UInt8) (site1:Int):Option (Bool):=
 bnd1 (YD8) fun (r1:Bool)=>
 if (!r1) then (
 some false
 ) else (
 bnd3 (YGN d1 s1 author1 text1 site1) fun (r2:List GOp) (r3:Int) (r4:Int)=>
 bnd3 (YEp d1 id1 author1 text1 site1) fun (r5:List GOp) (r6:Int) (r7:Int)=>
 bnd2 (YFh d1 id1 true) fun (r8:List GOp) (r9:Int)=>
 bnd1 (YDA d1 s1) fun (p1:Int)=>
 bnd1 (
 if ((decide (p1=0)) && (decide (s1.From=s1.To))) then (
 some 1
 ) else (
 some p1
 )
 ) fun (p2:Int)=>
 bnd1 (YC9 d1) fun (q1:Int)=>
 bnd1 (gd ((decide (q1=0)) == true) (YDh d1 id1)) fun (r10:Int)=>
 bnd1 (
 if ((decide (q1=0)) && (decide (r10<0))) then (
 some 7
 ) else (
 some q1
 )
 ) fun (q2:Int)=>
 bnd1 (gd ((decide (q2=0)) == true) (YDh d1 id1)) fun (r11:Int)=>
 bnd1 (gd ((decide (q2=0)) == true) (idx d1.Nodes r11)) fun (x1:YAR)=>
 bnd1 (
 if ((decide (q2=0)) && (!decide (x1.Kind=12))) then (
 some 8
 ) else (
 some q2
 )
 ) fun (q3:Int)=>
 bnd1 (
 if ((!decide (r9=q3)) == false) then (
 bnd1 (YKH [100,111,110,101]) fun (r21:List YAD)=>
 bnd1 (YB8 r8 [(GOp.mk 1 id1 (YAR.mk 0 0 [] [] (YAy.mk 0 0 [] []) []) r21 [] (YAY.mk [] [] [] [] []) [])]) fun (r22:Bool)=>
 some ((!decide (r9=q3)) || (!((decide (q3=0)) == r22)))
 ) else (
 some ((!decide (r9=q3)) || false)
 )
 ) fun (x2:Bool)=>
 if x2 then (
 some false
 ) else (
 bnd1 (YIk d1 r2 r3 r4 p2 [(YAD.mk [97,117,116,104,111,114] author1)] text1 site1) fun (r12:Bool)=>
 bnd1 (gd ((!r12) == false) (YH3 id1)) fun (r13:List UInt8)=>
 bnd1 (gd ((!r12) == false) (appF 32 [(YAD.mk [97,117,116,104,111,114] author1)] [(YAD.mk [114,101,112,108,121] r13)])) fun (l1:List YAD)=>
 bnd1 (gd ((!r12) == false) (YIk d1 r5 r6 r7 q3 l1 text1 site1)) fun (r14:Bool)=>
 if ((!r12) || (!r14)) then (
 some false
 ) else (
 if (decide (r4=0)) then (
 bnd1 (YDh d1 s1.Node) fun (r15:Int)=>
 bnd1 (idx d1.Nodes r15) fun (x3:YAR)=>
 bnd1 (chk .i64 ((x3.Flow.length:Int)+1)) fun (x4:Int)=>
 bnd1 (mk 24 x4 []) fun (l2:List (List YAB))=>
 bnd1 (mk 1 (x3.Flow.length:Int) false) fun (l3:List Bool)=>
 bnd1 (mk 24 (x3.Flow.length:Int) []) fun (l4:List (List YAD))=>
 bnd1 (YGO x3.Flow 0) fun (r16:List Int)=>
 bnd1 (slc r16 s1.From s1.To) fun (l5:List Int)=>
 bnd1 (iter (fun (a:Int × YAq)=>YAp r3 l5 a.1 a.2) (0,(YAq.mk l2 l3 l4))) fun (x11:YAq)=>
 bnd1 (gd ((decide ((r2.length:Int)=3)) == true) (idx r2 2)) fun (x12:GOp)=>
 bnd1 (gd ((decide ((r2.length:Int)=3)) == true) (YEb x11)) fun (r17:List YAC)=>
 bnd1 (
 if ((decide ((r2.length:Int)=3)) == true) then (
 bnd1 (YA4 x12 (GOp.mk 2 s1.Node (YAR.mk 0 0 [] [] (YAy.mk 0 0 [] []) []) [] r17 (YAY.mk [] [] [] [] []) [])) fun (r18:Bool)=>
 some ((decide ((r2.length:Int)=3)) && r18)
 ) else (
 some ((decide ((r2.length:Int)=3)) && false)
 )
 ) fun (x13:Bool)=>
 some x13
 ) else (
 some ((!decide (r7=0)) || (decide ((r5.length:Int)=2)))
 )
 )
 )
 )
end Go.Proofs.YtkefchjpggjibaaGreatDoor.Al
