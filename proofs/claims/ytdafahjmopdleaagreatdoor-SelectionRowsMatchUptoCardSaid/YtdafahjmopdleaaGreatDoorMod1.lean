/- Models, as printed. -/
import Derived.Test.YtdafahjmopdleaaGreatDoorAl2
namespace Go.Proofs.YtdafahjmopdleaaGreatDoor.Al
structure YAB where
 Kind:Int
 N:Int
deriving DecidableEq
instance:Inhabited YAB:=⟨⟨0,0⟩⟩
@[reducible] def YAB.row (x:YAB):List RV:=[.int .i64 x.Kind,.int .i64 x.N]
structure YNa where
 steps:List YAB
 used:Int
deriving DecidableEq
instance:Inhabited YNa:=⟨⟨[],0⟩⟩
structure YNZ where
 out:List YAB
 add:Int
 cut:Int
deriving DecidableEq
instance:Inhabited YNZ:=⟨⟨[],0,0⟩⟩
structure YAT where
 Name:List UInt8
 Value:List UInt8
deriving DecidableEq
instance:Inhabited YAT:=⟨⟨[],[]⟩⟩
@[reducible] def YAT.row (x:YAT):List RV:=[.str x.Name,.str x.Value]
structure YAN where
 Char:Int
 Ref:Int
 Attrs:List YAT
deriving DecidableEq
instance:Inhabited YAN:=⟨⟨0,0,[]⟩⟩
@[reducible] def YAN.row (x:YAN):List RV:=[.int .i64 x.Char,.int .i64 x.Ref,.sl (x.Attrs.map YAT.row)]
structure YAL where
 Row:Int
 Col:Int
 Text:List UInt8
 Ref:Int
 Attrs:List YAT
deriving DecidableEq
instance:Inhabited YAL:=⟨⟨0,0,[],0,[]⟩⟩
@[reducible] def YAL.row (x:YAL):List RV:=[.int .i64 x.Row,.int .i64 x.Col,.str x.Text,.int .i64 x.Ref,.sl (x.Attrs.map YAT.row)]
structure YAQ where
 Row:Int
 Col:Int
 H:Int
 W:Int
deriving DecidableEq
instance:Inhabited YAQ:=⟨⟨0,0,0,0⟩⟩
@[reducible] def YAQ.row (x:YAQ):List RV:=[.int .i64 x.Row,.int .i64 x.Col,.int .i64 x.H,.int .i64 x.W]
structure YAv where
 Rows:Int
 Cols:Int
 Cells:List YAL
 Merges:List YAQ
deriving DecidableEq
instance:Inhabited YAv:=⟨⟨0,0,[],[]⟩⟩
@[reducible] def YAv.row (x:YAv):List RV:=[.int .i64 x.Rows,.int .i64 x.Cols,.sl (x.Cells.map YAL.row),.sl (x.Merges.map YAQ.row)]
structure YAI where
 Clock:Int
 Site:Int
 Kind:Int
 Item:Int
 Parent:Int
 Place:List UInt8
 Name:List UInt8
 Value:List UInt8
deriving DecidableEq
instance:Inhabited YAI:=⟨⟨0,0,0,0,0,[],[],[]⟩⟩
@[reducible] def YAI.row (x:YAI):List RV:=[.int .i64 x.Clock,.int .i64 x.Site,.int .i64 x.Kind,.int .i64 x.Item,.int .i64 x.Parent,.str x.Place,.str x.Name,.str x.Value]
structure YAJ where
 ID:Int
 Kind:Int
 Attrs:List YAT
 Flow:List YAN
 Grid:YAv
 Draw:List YAI
deriving DecidableEq
instance:Inhabited YAJ:=⟨⟨0,0,[],[],(YAv.mk 0 0 [] []),[]⟩⟩
@[reducible] def YAJ.row (x:YAJ):List RV:=[.int .i64 x.ID,.int .i64 x.Kind,.sl (x.Attrs.map YAT.row),.sl (x.Flow.map YAN.row),.int .i64 x.Grid.Rows,.int .i64 x.Grid.Cols,.sl (x.Grid.Cells.map YAL.row),.sl (x.Grid.Merges.map YAQ.row),.sl (x.Draw.map YAI.row)]
structure YEn where
 Kind:Int
 N:Int
 Attrs:List YAT
 Elems:List YAN
deriving DecidableEq
instance:Inhabited YEn:=⟨⟨0,0,[],[]⟩⟩
@[reducible] def YEn.row (x:YEn):List RV:=[.int .i64 x.Kind,.int .i64 x.N,.sl (x.Attrs.map YAT.row),.sl (x.Elems.map YAN.row)]
structure YAh where
 Rows:List YAB
 Cols:List YAB
 Cells:List YAL
 Split:List YAQ
 Merge:List YAQ
deriving DecidableEq
instance:Inhabited YAh:=⟨⟨[],[],[],[],[]⟩⟩
structure GOp where
 Kind:Int
 Node:Int
 New:YAJ
 Attrs:List YAT
 Steps:List YEn
 Grid:YAh
 Draw:List YAI
deriving DecidableEq
instance:Inhabited GOp:=⟨⟨0,0,(YAJ.mk 0 0 [] [] (YAv.mk 0 0 [] []) []),[],[],(YAh.mk [] [] [] [] []),[]⟩⟩
@[reducible] def GOp.row (x:GOp):List RV:=[.int .i64 x.Kind,.int .i64 x.Node,.int .i64 x.New.ID,.int .i64 x.New.Kind,.sl (x.New.Attrs.map YAT.row),.sl (x.New.Flow.map YAN.row),.int .i64 x.New.Grid.Rows,.int .i64 x.New.Grid.Cols,.sl (x.New.Grid.Cells.map YAL.row),.sl (x.New.Grid.Merges.map YAQ.row),.sl (x.New.Draw.map YAI.row),.sl (x.Attrs.map YAT.row),.sl (x.Steps.map YEn.row),.sl (x.Grid.Rows.map YAB.row),.sl (x.Grid.Cols.map YAB.row),.sl (x.Grid.Cells.map YAL.row),.sl (x.Grid.Split.map YAQ.row),.sl (x.Grid.Merge.map YAQ.row),.sl (x.Draw.map YAI.row)]
structure GEntry where
 Site:Int
 Number:Int
 Change:List GOp
 Undoes:Int
 Refused:Int
deriving DecidableEq
instance:Inhabited GEntry:=⟨⟨0,0,[],0,0⟩⟩
structure GSpan where
 From:Int
 To:Int
deriving DecidableEq
instance:Inhabited GSpan:=⟨⟨0,0⟩⟩
noncomputable def YBj (x1:Int) (low1:Int) (high1:Int):Option (Bool):=
 some ((decide (low1≤x1)) && (decide (x1≤high1)))
noncomputable def YCe (a1:List YAB) (before2:Int) (after2:Int) (x2:Int):Option ((Int × Int × Int) ⊕ (Ctl (Int × Int) Int)):=
 if (decide (x2<(a1.length:Int))) then (
 ctl2 (
 bnd1 (idx a1 x2) fun (x5:YAB)=>
 if ((decide (x5.Kind<0)) || (decide (2<x5.Kind))) then (
 some (.ext (.inr (.ext 8)))
 ) else (
 if ((decide (x5.N<1)) || (decide (2147483647<x5.N))) then (
 some (.ext (.inr (.ext 2)))
 ) else (
 bnd1 (gd ((decide (0<x2)) == true) (chk .i64 (x2-1))) fun (x6:Int)=>
 bnd1 (gd ((decide (0<x2)) == true) (idx a1 x6)) fun (x7:YAB)=>
 if ((decide (0<x2)) && ((decide (x7.Kind=x5.Kind)) || ((decide (x7.Kind=2)) && (decide (x5.Kind=1))))) then (
 some (.ext (.inr (.ext 5)))
 ) else (
 bnd1 (
 if (!decide (x5.Kind=1)) then (
 bnd1 (chk .i64 (before2+x5.N)) fun (x9:Int)=>
 some (min x9 2147483648)
 ) else (
 some before2
 )
 ) fun (before6:Int)=>
 if (!decide (x5.Kind=2)) then (
 bnd1 (chk .i64 (after2+x5.N)) fun (x8:Int)=>
 some (.nrm (before6,(min x8 2147483648)))
 ) else (
 some (.nrm (before6,after2))
 )
 )
 )
 )
 ) fun (before5:Int) (after5:Int)=>
 bnd1 (chk .i64 (x2+1)) fun (x4:Int)=>
 some (.inl (before5,after5,x4))
 ) else (
 some (.inr (.nrm (before2,after2)))
 )
noncomputable def YEJ (a1:List YAB):Option (Int):=
 ctl2 (iter (fun (a:Int × Int × Int)=>YCe a1 a.1 a.2.1 a.2.2) (0,0,0)) fun (before4:Int) (after4:Int)=>
 if ((decide (2147483647<before4)) || (decide (2147483647<after4))) then (
 some 3
 ) else (
 some 0
 )
noncomputable def YC6 (s1:List UInt8) (x2:Int):Option (Int ⊕ (Ctl Unit Bool)):=
 if (decide (x2<(s1.length:Int))) then (
 bnd1 (idx s1 x2) fun (c1:UInt8)=>
 if (((((decide ((c1.toNat:Int)<97)) || (decide (122<(c1.toNat:Int)))) && ((decide ((c1.toNat:Int)<48)) || (decide (57<(c1.toNat:Int))))) && (!decide ((c1.toNat:Int)=46))) && (!decide ((c1.toNat:Int)=45))) then (
 some (.inr (.ext false))
 ) else (
 bnd1 (chk .i64 (x2+1)) fun (x4:Int)=>
 some (.inl x4)
 )
 ) else (
 some (.inr (.nrm ()))
 )
noncomputable def YFH (s1:List UInt8):Option (Bool):=
 bnd1 (gd (((decide (s1=[])) || (decide (24<(s1.length:Int)))) == false) (idx s1 0)) fun (ch1:UInt8)=>
 bnd1 (gd ((((decide (s1=[])) || (decide (24<(s1.length:Int)))) || (decide ((ch1.toNat:Int)<97))) == false) (idx s1 0)) fun (ch2:UInt8)=>
 if ((((decide (s1=[])) || (decide (24<(s1.length:Int)))) || (decide ((ch1.toNat:Int)<97))) || (decide (122<(ch2.toNat:Int)))) then (
 some false
 ) else (
 ctl1 (iter (fun (a:Int)=>YC6 s1 a) 0) fun (u2:Unit)=>
 some true
 )
noncomputable def YDZ (s1:List UInt8) (x2:Int):Option (Int ⊕ (Ctl Unit Bool)):=
 if (decide (x2<(s1.length:Int))) then (
 bnd1 (idx s1 x2) fun (ch1:UInt8)=>
 if ((decide ((ch1.toNat:Int)<32)) || (decide (126<(ch1.toNat:Int)))) then (
 some (.inr (.ext false))
 ) else (
 bnd1 (chk .i64 (x2+1)) fun (x4:Int)=>
 some (.inl x4)
 )
 ) else (
 some (.inr (.nrm ()))
 )
noncomputable def YEK (s1:List UInt8):Option (Bool):=
 if ((decide (s1=[])) || (decide (200<(s1.length:Int)))) then (
 some false
 ) else (
 ctl1 (iter (fun (a:Int)=>YDZ s1 a) 0) fun (u2:Unit)=>
 some true
 )
noncomputable def YCf (l1:List YAT) (empty1:Bool) (x2:Int):Option (Int ⊕ (Ctl Unit Int)):=
 if (decide (x2<(l1.length:Int))) then (
 bnd1 (idx l1 x2) fun (x4:YAT)=>
 bnd1 (YFH x4.Name) fun (r1:Bool)=>
 if (!r1) then (
 some (.inr (.ext 9))
 ) else (
 bnd1 (YEK x4.Value) fun (r2:Bool)=>
 if ((!r2) && (!(empty1 && (decide (x4.Value=[]))))) then (
 some (.inr (.ext 23))
 ) else (
 bnd1 (gd ((decide (0<x2)) == true) (chk .i64 (x2-1))) fun (x5:Int)=>
 bnd1 (gd ((decide (0<x2)) == true) (idx l1 x5)) fun (x6:YAT)=>
 if ((decide (0<x2)) && (sLt x4.Name x6.Name || decide (x4.Name=x6.Name))) then (
 some (.inr (.ext 5))
 ) else (
 bnd1 (chk .i64 (x2+1)) fun (x7:Int)=>
 some (.inl x7)
 )
 )
 )
 ) else (
 some (.inr (.nrm ()))
 )
noncomputable def YFG (l1:List YAT) (empty1:Bool):Option (Int):=
 ctl1 (iter (fun (a:Int)=>YCf l1 empty1 a) 0) fun (u2:Unit)=>
 some 0
noncomputable def YDo (l1:List YAT):Option (Int):=
 bnd1 (YFG l1 false) fun (r1:Int)=>
 some r1
noncomputable def YB9 (a1:List YAT) (b1:List YAT) (x2:Int):Option (Int ⊕ (Ctl Unit Bool)):=
 if (decide (x2<(a1.length:Int))) then (
 bnd1 (idx a1 x2) fun (x4:YAT)=>
 bnd1 (idx b1 x2) fun (x5:YAT)=>
 if (!(decide (x4.Name=x5.Name) && (decide (x4.Value=x5.Value) && true))) then (
 some (.inr (.ext false))
 ) else (
 bnd1 (chk .i64 (x2+1)) fun (x6:Int)=>
 some (.inl x6)
 )
 ) else (
 some (.inr (.nrm ()))
 )
noncomputable def YBD (a1:List YAT) (b1:List YAT):Option (Bool):=
 if (!decide ((a1.length:Int)=(b1.length:Int))) then (
 some false
 ) else (
 ctl1 (iter (fun (a:Int)=>YB9 a1 b1 a) 0) fun (u2:Unit)=>
 some true
 )
noncomputable def YDh (s1:List UInt8) (x2:Int):Option (Int ⊕ (Ctl Unit Bool)):=
 if (decide (x2<(s1.length:Int))) then (
 bnd1 (idx s1 x2) fun (ch1:UInt8)=>
 if ((!((decide (97≤(ch1.toNat:Int))) && (decide ((ch1.toNat:Int)≤122)))) && ((decide (x2=0)) || (((!decide ((ch1.toNat:Int)=46)) && (!decide ((ch1.toNat:Int)=45))) && ((decide ((ch1.toNat:Int)<48)) || (decide (57<(ch1.toNat:Int))))))) then (
 some (.inr (.ext false))
 ) else (
 bnd1 (chk .i64 (x2+1)) fun (x4:Int)=>
 some (.inl x4)
 )
 ) else (
 some (.inr (.nrm ()))
 )
noncomputable def YGL (s1:List UInt8):Option (Bool):=
 ctl1 (iter (fun (a:Int)=>YDh s1 a) 0) fun (u2:Unit)=>
 some ((decide (1≤(s1.length:Int))) && (decide ((s1.length:Int)≤24)))
noncomputable def YDv (s1:List UInt8) (x2:Int):Option (Int ⊕ (Ctl Unit Bool)):=
 if (decide (x2<(s1.length:Int))) then (
 bnd1 (idx s1 x2) fun (ch1:UInt8)=>
 if ((decide ((ch1.toNat:Int)<32)) || (decide (126<(ch1.toNat:Int)))) then (
 some (.inr (.ext false))
 ) else (
 bnd1 (chk .i64 (x2+1)) fun (x4:Int)=>
 some (.inl x4)
 )
 ) else (
 some (.inr (.nrm ()))
 )
noncomputable def YE7 (s1:List UInt8):Option (Bool):=
 ctl1 (iter (fun (a:Int)=>YDv s1 a) 0) fun (u2:Unit)=>
 some ((decide (1≤(s1.length:Int))) && (decide ((s1.length:Int)≤200)))
noncomputable def YBP (l1:List YAT) (change1:Bool) (x2:Int):Option (Int ⊕ (Ctl Unit Int)):=
 if (decide (x2<(l1.length:Int))) then (
 bnd1 (idx l1 x2) fun (x4:YAT)=>
 bnd1 (YGL x4.Name) fun (r1:Bool)=>
 if (!r1) then (
 some (.inr (.ext 9))
 ) else (
 bnd1 (YE7 x4.Value) fun (r2:Bool)=>
 if ((!r2) && ((!decide (x4.Value=[])) || (!change1))) then (
 some (.inr (.ext 23))
 ) else (
 bnd1 (gd ((decide (0<x2)) == true) (chk .i64 (x2-1))) fun (x5:Int)=>
 bnd1 (gd ((decide (0<x2)) == true) (idx l1 x5)) fun (x6:YAT)=>
 if ((decide (0<x2)) && (!sLt x6.Name x4.Name)) then (
 some (.inr (.ext 5))
 ) else (
 bnd1 (chk .i64 (x2+1)) fun (x7:Int)=>
 some (.inl x7)
 )
 )
 )
 ) else (
 some (.inr (.nrm ()))
 )
noncomputable def YBh (l1:List YAT) (change1:Bool):Option (Int):=
 ctl1 (iter (fun (a:Int)=>YBP l1 change1 a) 0) fun (u2:Unit)=>
 some 0
noncomputable def YNN:Option (YAN):=
 some (YAN.mk 10 0 [])
noncomputable def YFF (c1:Int):Option (Bool):=
 some (((((decide (c1=9)) || (decide (c1=10))) || ((decide (32≤c1)) && (decide (c1<127)))) || ((decide (160≤c1)) && (decide (c1<55296)))) || ((decide (57343<c1)) && (decide (c1≤1114111))))
noncomputable def YGC (x1:YAN):Option (Int):=
 if ((!decide (x1.Char=0)) == (!decide (x1.Ref=0))) then (
 some 4
 ) else (
 bnd1 (gd ((decide (x1.Ref=0)) == true) (YFF x1.Char)) fun (r1:Bool)=>
 bnd1 (
 if ((decide (x1.Ref=0)) && (!r1)) then (
 some ((decide (x1.Ref=0)) && (!r1))
 ) else (
 some ((!decide (x1.Ref=0)) && ((decide (x1.Ref<1)) || (decide (1073741824<x1.Ref))))
 )
 ) fun (x2:Bool)=>
 if x2 then (
 some 2
 ) else (
 bnd1 (YDo x1.Attrs) fun (r2:Int)=>
 some r2
 )
 )
noncomputable def YGM (c1:Int):Option (Bool):=
 bnd1 (gd (((decide (c1=9)) || (decide (c1=10))) == false) (YBj c1 32 126)) fun (r1:Bool)=>
 bnd1 (gd ((((decide (c1=9)) || (decide (c1=10))) || r1) == false) (YBj c1 160 55295)) fun (r2:Bool)=>
 bnd1 (gd (((((decide (c1=9)) || (decide (c1=10))) || r1) || r2) == false) (YBj c1 57344 1114111)) fun (r3:Bool)=>
 some (((((decide (c1=9)) || (decide (c1=10))) || r1) || r2) || r3)
noncomputable def YDM (x1:YAN):Option (Int):=
 if (((decide (x1.Char=0)) && (decide (x1.Ref=0))) || ((!decide (x1.Char=0)) && (!decide (x1.Ref=0)))) then (
 some 4
 ) else (
 bnd1 (gd ((!decide (x1.Char=0)) == true) (YGM x1.Char)) fun (r1:Bool)=>
 bnd1 (gd ((((!decide (x1.Char=0)) && (!r1)) == false) && ((!decide (x1.Ref=0)) == true)) (YBj x1.Ref 1 1073741824)) fun (r2:Bool)=>
 if (((!decide (x1.Char=0)) && (!r1)) || ((!decide (x1.Ref=0)) && (!r2))) then (
 some 2
 ) else (
 bnd1 (YBh x1.Attrs false) fun (r3:Int)=>
 some r3
 )
 )
noncomputable def YD2 (a1:List YAT) (b1:List YAT) (x2:Int):Option (Int ⊕ (Ctl Unit Bool)):=
 if (decide (x2<(a1.length:Int))) then (
 bnd1 (idx a1 x2) fun (x4:YAT)=>
 bnd1 (idx b1 x2) fun (x5:YAT)=>
 if (!(decide (x4.Name=x5.Name) && (decide (x4.Value=x5.Value) && true))) then (
 some (.inr (.ext false))
 ) else (
 bnd1 (chk .i64 (x2+1)) fun (x6:Int)=>
 some (.inl x6)
 )
 ) else (
 some (.inr (.nrm ()))
 )
noncomputable def YEj (a1:List YAT) (b1:List YAT):Option (Bool):=
 if (!decide ((a1.length:Int)=(b1.length:Int))) then (
 some false
 ) else (
 ctl1 (iter (fun (a:Int)=>YD2 a1 b1 a) 0) fun (u2:Unit)=>
 some true
 )
end Go.Proofs.YtdafahjmopdleaaGreatDoor.Al


namespace Go.Proofs.YtdafahjmopdleaaGreatDoor.Al
structure YS8 where
 Adds:List (List YAN)
 Cuts:List Bool
 Attrs:List (List YAT)
deriving DecidableEq
instance:Inhabited YS8:=⟨⟨[],[],[]⟩⟩
noncomputable def YB4 (a1:List YAB) (b1:List YAB) (x2:Int):Option (Int ⊕ (Ctl Unit Bool)):=
 if (decide (x2<(a1.length:Int))) then (
 bnd1 (idx a1 x2) fun (x4:YAB)=>
 bnd1 (idx b1 x2) fun (x5:YAB)=>
 if (!(decide (x4.Kind=x5.Kind) && (decide (x4.N=x5.N) && true))) then (
 some (.inr (.ext false))
 ) else (
 bnd1 (chk .i64 (x2+1)) fun (x6:Int)=>
 some (.inl x6)
 )
 ) else (
 some (.inr (.nrm ()))
 )
noncomputable def YCW (a1:List YAB) (b1:List YAB):Option (Bool):=
 if (!decide ((a1.length:Int)=(b1.length:Int))) then (
 some false
 ) else (
 ctl1 (iter (fun (a:Int)=>YB4 a1 b1 a) 0) fun (u2:Unit)=>
 some true
 )
end Go.Proofs.YtdafahjmopdleaaGreatDoor.Al


namespace Go.Proofs.YtdafahjmopdleaaGreatDoor.Al
end Go.Proofs.YtdafahjmopdleaaGreatDoor.Al


namespace Go.Proofs.YtdafahjmopdleaaGreatDoor.Al
structure YMc where
 steps:List YEn
 used:Int
deriving DecidableEq
instance:Inhabited YMc:=⟨⟨[],0⟩⟩
structure YMb where
 out:List YEn
 add:List YAN
 cut:Int
deriving DecidableEq
instance:Inhabited YMb:=⟨⟨[],[],0⟩⟩
noncomputable def YDx (a1:YAN) (b1:YAN):Option (Bool):=
 bnd1 (gd (((decide (a1.Char=b1.Char)) && (decide (a1.Ref=b1.Ref))) == true) (YBD a1.Attrs b1.Attrs)) fun (r1:Bool)=>
 some (((decide (a1.Char=b1.Char)) && (decide (a1.Ref=b1.Ref))) && r1)
noncomputable def YCP (a1:List YAN) (b1:List YAN) (x2:Int):Option (Int ⊕ (Ctl Unit Bool)):=
 if (decide (x2<(a1.length:Int))) then (
 bnd1 (idx a1 x2) fun (x4:YAN)=>
 bnd1 (idx b1 x2) fun (x5:YAN)=>
 bnd1 (YDx x4 x5) fun (r1:Bool)=>
 if (!r1) then (
 some (.inr (.ext false))
 ) else (
 bnd1 (chk .i64 (x2+1)) fun (x6:Int)=>
 some (.inl x6)
 )
 ) else (
 some (.inr (.nrm ()))
 )
noncomputable def YC0 (a1:List YAN) (b1:List YAN):Option (Bool):=
 if (!decide ((a1.length:Int)=(b1.length:Int))) then (
 some false
 ) else (
 ctl1 (iter (fun (a:Int)=>YCP a1 b1 a) 0) fun (u2:Unit)=>
 some true
 )
noncomputable def YB6 (a1:List YEn) (b1:List YEn) (x2:Int):Option (Int ⊕ (Ctl Unit Bool)):=
 if (decide (x2<(a1.length:Int))) then (
 bnd1 (idx a1 x2) fun (x4:YEn)=>
 bnd1 (idx b1 x2) fun (x5:YEn)=>
 bnd1 (gd (((!decide (x4.Kind=x5.Kind)) || (!decide (x4.N=x5.N))) == false) (YBD x4.Attrs x5.Attrs)) fun (r1:Bool)=>
 bnd1 (gd ((((!decide (x4.Kind=x5.Kind)) || (!decide (x4.N=x5.N))) || (!r1)) == false) (YC0 x4.Elems x5.Elems)) fun (r2:Bool)=>
 if ((((!decide (x4.Kind=x5.Kind)) || (!decide (x4.N=x5.N))) || (!r1)) || (!r2)) then (
 some (.inr (.ext false))
 ) else (
 bnd1 (chk .i64 (x2+1)) fun (x6:Int)=>
 some (.inl x6)
 )
 ) else (
 some (.inr (.nrm ()))
 )
noncomputable def YCX (a1:List YEn) (b1:List YEn):Option (Bool):=
 if (!decide ((a1.length:Int)=(b1.length:Int))) then (
 some false
 ) else (
 ctl1 (iter (fun (a:Int)=>YB6 a1 b1 a) 0) fun (u2:Unit)=>
 some true
 )
noncomputable def YB0 (f1:List YAN) (text1:Bool) (x2:Int):Option (Int ⊕ (Ctl Unit Int)):=
 if (decide (x2<(f1.length:Int))) then (
 bnd1 (idx f1 x2) fun (x6:YAN)=>
 bnd1 (YGC x6) fun (e1:Int)=>
 if (!decide (e1=0)) then (
 some (.inr (.ext e1))
 ) else (
 if ((!text1) && (decide (x6.Ref=0))) then (
 some (.inr (.ext 8))
 ) else (
 bnd1 (chk .i64 (x2+1)) fun (x7:Int)=>
 some (.inl x7)
 )
 )
 ) else (
 some (.inr (.nrm ()))
 )
noncomputable def YC2 (f1:List YAN) (text1:Bool):Option (Int):=
 ctl1 (iter (fun (a:Int)=>YB0 f1 text1 a) 0) fun (u2:Unit)=>
 bnd1 (gd ((text1 == true) && ((decide ((f1.length:Int)=0)) == false)) (chk .i64 ((f1.length:Int)-1))) fun (x4:Int)=>
 bnd1 (gd ((text1 == true) && ((decide ((f1.length:Int)=0)) == false)) (idx f1 x4)) fun (x5:YAN)=>
 if (text1 && ((decide ((f1.length:Int)=0)) || (!decide (x5.Char=10)))) then (
 some 11
 ) else (
 some 0
 )
noncomputable def YBM (f1:List YAN) (text1:Bool) (x2:Int):Option (Int ⊕ (Ctl Unit Int)):=
 if (decide (x2<(f1.length:Int))) then (
 bnd1 (idx f1 x2) fun (x6:YAN)=>
 bnd1 (YDM x6) fun (e1:Int)=>
 if (!decide (e1=0)) then (
 some (.inr (.ext e1))
 ) else (
 if ((!text1) && (!decide (x6.Char=0))) then (
 some (.inr (.ext 8))
 ) else (
 bnd1 (chk .i64 (x2+1)) fun (x7:Int)=>
 some (.inl x7)
 )
 )
 ) else (
 some (.inr (.nrm ()))
 )
noncomputable def YBc (f1:List YAN) (text1:Bool):Option (Int):=
 ctl1 (iter (fun (a:Int)=>YBM f1 text1 a) 0) fun (u2:Unit)=>
 bnd1 (gd ((text1 == true) && ((decide ((f1.length:Int)=0)) == false)) (chk .i64 ((f1.length:Int)-1))) fun (x4:Int)=>
 bnd1 (gd ((text1 == true) && ((decide ((f1.length:Int)=0)) == false)) (idx f1 x4)) fun (x5:YAN)=>
 if (text1 && ((decide ((f1.length:Int)=0)) || (!decide (x5.Char=10)))) then (
 some 11
 ) else (
 some 0
 )
end Go.Proofs.YtdafahjmopdleaaGreatDoor.Al


namespace Go.Proofs.YtdafahjmopdleaaGreatDoor.Al
structure YAz where
 lo:Int
 hi:Int
deriving DecidableEq
instance:Inhabited YAz:=⟨⟨0,0⟩⟩
@[reducible] def YAz.row (x:YAz):List RV:=[.int .u8 x.lo,.int .u8 x.hi]
noncomputable def YG2:List YAz:=YCy.map fun p=>YAz.mk p.1 p.2
noncomputable def YAV (s1:List UInt8):Option (Int × Int):=
 if (decide ((s1.length:Int)<1)) then (
 some (65533,0)
 ) else (
 bnd1 (idx s1 0) fun (s01:UInt8)=>
 bnd1 (idx YCr (s01.toNat:Int)) fun (x1:Int)=>
 if (decide (240≤x1)) then (
 some ((bOr .i32 (YJa .i32 (IntKind.i32.wrap (s01.toNat:Int)) (shrC .i32 (shlC .i32 (IntKind.i32.wrap x1) 31) 31)) (bAnd .i32 65533 (shrC .i32 (shlC .i32 (IntKind.i32.wrap x1) 31) 31))),1)
 ) else (
 bnd1 (idx YG2 (shrC .u8 x1 4)) fun (x2:YAz)=>
 if (decide ((s1.length:Int)<(IntKind.i64.wrap (bAnd .u8 x1 7)))) then (
 some (65533,1)
 ) else (
 bnd1 (idx s1 1) fun (s11:UInt8)=>
 if ((decide ((s11.toNat:Int)<x2.lo)) || (decide (x2.hi<(s11.toNat:Int)))) then (
 some (65533,1)
 ) else (
 if (decide ((IntKind.i64.wrap (bAnd .u8 x1 7))≤2)) then (
 some ((bOr .i32 (shlC .i32 (IntKind.i32.wrap (bAnd .u8 (s01.toNat:Int) 31)) 6) (IntKind.i32.wrap (bAnd .u8 (s11.toNat:Int) 63))),2)
 ) else (
 bnd1 (idx s1 2) fun (s21:UInt8)=>
 if ((decide ((s21.toNat:Int)<128)) || (decide (191<(s21.toNat:Int)))) then (
 some (65533,1)
 ) else (
 if (decide ((IntKind.i64.wrap (bAnd .u8 x1 7))≤3)) then (
 some ((bOr .i32 (bOr .i32 (shlC .i32 (IntKind.i32.wrap (bAnd .u8 (s01.toNat:Int) 15)) 12) (shlC .i32 (IntKind.i32.wrap (bAnd .u8 (s11.toNat:Int) 63)) 6)) (IntKind.i32.wrap (bAnd .u8 (s21.toNat:Int) 63))),3)
 ) else (
 bnd1 (idx s1 3) fun (s31:UInt8)=>
 if ((decide ((s31.toNat:Int)<128)) || (decide (191<(s31.toNat:Int)))) then (
 some (65533,1)
 ) else (
 some ((bOr .i32 (bOr .i32 (bOr .i32 (shlC .i32 (IntKind.i32.wrap (bAnd .u8 (s01.toNat:Int) 7)) 18) (shlC .i32 (IntKind.i32.wrap (bAnd .u8 (s11.toNat:Int) 63)) 12)) (shlC .i32 (IntKind.i32.wrap (bAnd .u8 (s21.toNat:Int) 63)) 6)) (IntKind.i32.wrap (bAnd .u8 (s31.toNat:Int) 63))),4)
 )
 )
 )
 )
 )
 )
 )
 )
noncomputable def YAd (s1:List UInt8):Option (Int × Int):=
 bnd1 (gd ((!decide (s1=[])) == true) (idx s1 0)) fun (ch1:UInt8)=>
 if ((!decide (s1=[])) && (decide ((ch1.toNat:Int)<128))) then (
 bnd1 (idx s1 0) fun (ch2:UInt8)=>
 some ((IntKind.i32.wrap (ch2.toNat:Int)),1)
 ) else (
 bnd2 (YAV s1) fun (r1:Int) (r2:Int)=>
 some (r1,r2)
 )
end Go.Proofs.YtdafahjmopdleaaGreatDoor.Al


namespace Go.Proofs.YtdafahjmopdleaaGreatDoor.Al
noncomputable def YGD (a1:List YAN) (b1:List YAN) (x2:Int):Option (Int ⊕ (Ctl Unit Bool)):=
 if (decide (x2<(a1.length:Int))) then (
 bnd1 (idx a1 x2) fun (x4:YAN)=>
 bnd1 (idx b1 x2) fun (x5:YAN)=>
 bnd1 (gd (((!decide (x4.Char=x5.Char)) || (!decide (x4.Ref=x5.Ref))) == false) (YEj x4.Attrs x5.Attrs)) fun (r1:Bool)=>
 if (((!decide (x4.Char=x5.Char)) || (!decide (x4.Ref=x5.Ref))) || (!r1)) then (
 some (.inr (.ext false))
 ) else (
 bnd1 (chk .i64 (x2+1)) fun (x6:Int)=>
 some (.inl x6)
 )
 ) else (
 some (.inr (.nrm ()))
 )
noncomputable def YJS (a1:List YAN) (b1:List YAN):Option (Bool):=
 if (!decide ((a1.length:Int)=(b1.length:Int))) then (
 some false
 ) else (
 ctl1 (iter (fun (a:Int)=>YGD a1 b1 a) 0) fun (u2:Unit)=>
 some true
 )
noncomputable def YBw (f1:List YAN) (x2:Int) (out2:List Int):Option ((Int × (List Int)) ⊕ (List Int)):=
 if (decide (x2<(f1.length:Int))) then (
 bnd1 (
 bnd1 (idx f1 x2) fun (x5:YAN)=>
 if (!decide (x5.Ref=0)) then (
 bnd1 (app 8 out2 [x5.Ref]) fun (out6:List Int)=>
 some out6
 ) else (
 some out2
 )
 ) fun (out5:List Int)=>
 bnd1 (chk .i64 (x2+1)) fun (x4:Int)=>
 some (.inl (x4,out5))
 ) else (
 some (.inr out2)
 )
noncomputable def YME (f1:List YAN):Option ((List Int)):=
 bnd1 (iter (fun (a:Int × (List Int))=>YBw f1 a.1 a.2) (0,[])) fun (out4:List Int)=>
 some out4
end Go.Proofs.YtdafahjmopdleaaGreatDoor.Al


namespace Go.Proofs.YtdafahjmopdleaaGreatDoor.Al
end Go.Proofs.YtdafahjmopdleaaGreatDoor.Al


namespace Go.Proofs.YtdafahjmopdleaaGreatDoor.Al
structure GDoc where
 Nodes:List YAJ
deriving DecidableEq
instance:Inhabited GDoc:=⟨⟨[]⟩⟩
@[reducible] def GDoc.row (x:GDoc):List RV:=[.sl (x.Nodes.map YAJ.row)]
noncomputable def YEd (kind1:Int):Option (Bool):=
 some ((((decide (kind1=1)) || (decide (kind1=3))) || (decide (kind1=4))) || (decide (kind1=12)))
noncomputable def YEe (kind1:Int):Option (Bool):=
 some ((decide (kind1=0)) || (decide (kind1=7)))
noncomputable def YCo (kind1:Int):Option (Bool):=
 some ((decide (kind1=2)) || (decide (kind1=6)))
noncomputable def YAZ (s11:List YAQ) (s21:List YAQ) (x2:Int):Option (Int ⊕ (Ctl Unit Bool)):=
 if (decide (x2<(s11.length:Int))) then (
 bnd1 (idx s11 x2) fun (x4:YAQ)=>
 bnd1 (idx s21 x2) fun (x5:YAQ)=>
 if (!(decide (x4.Row=x5.Row) && (decide (x4.Col=x5.Col) && (decide (x4.H=x5.H) && (decide (x4.W=x5.W) && true))))) then (
 some (.inr (.ext false))
 ) else (
 bnd1 (chk .i64 (x2+1)) fun (x6:Int)=>
 some (.inl x6)
 )
 ) else (
 some (.inr (.nrm ()))
 )
noncomputable def YAe (s11:List YAQ) (s21:List YAQ):Option (Bool):=
 if (!decide ((s11.length:Int)=(s21.length:Int))) then (
 some false
 ) else (
 ctl1 (iter (fun (a:Int)=>YAZ s11 s21 a) 0) fun (u2:Unit)=>
 some true
 )
noncomputable def YDT (a1:YAL) (b1:YAL):Option (Bool):=
 bnd1 (gd (((((decide (a1.Row=b1.Row)) && (decide (a1.Col=b1.Col))) && (decide (a1.Text=b1.Text))) && (decide (a1.Ref=b1.Ref))) == true) (YEj a1.Attrs b1.Attrs)) fun (r1:Bool)=>
 some (((((decide (a1.Row=b1.Row)) && (decide (a1.Col=b1.Col))) && (decide (a1.Text=b1.Text))) && (decide (a1.Ref=b1.Ref))) && r1)
noncomputable def YAE (s11:List YAL) (s21:List YAL) (x2:Int):Option (Int ⊕ (Ctl Unit Bool)):=
 if (decide (x2<(s11.length:Int))) then (
 bnd1 (idx s11 x2) fun (x4:YAL)=>
 bnd1 (idx s21 x2) fun (x5:YAL)=>
 bnd1 (YDT x4 x5) fun (r1:Bool)=>
 if (!r1) then (
 some (.inr (.ext false))
 ) else (
 bnd1 (chk .i64 (x2+1)) fun (x6:Int)=>
 some (.inl x6)
 )
 ) else (
 some (.inr (.nrm ()))
 )
noncomputable def YAH (s11:List YAL) (s21:List YAL):Option (Bool):=
 if (!decide ((s11.length:Int)=(s21.length:Int))) then (
 some false
 ) else (
 ctl1 (iter (fun (a:Int)=>YAE s11 s21 a) 0) fun (u2:Unit)=>
 some true
 )
noncomputable def YFD (a1:YAv) (b1:YAv):Option (Bool):=
 bnd1 (gd (((decide (a1.Rows=b1.Rows)) && (decide (a1.Cols=b1.Cols))) == true) (YAe a1.Merges b1.Merges)) fun (r1:Bool)=>
 bnd1 (gd ((((decide (a1.Rows=b1.Rows)) && (decide (a1.Cols=b1.Cols))) && r1) == true) (YAH a1.Cells b1.Cells)) fun (r2:Bool)=>
 some ((((decide (a1.Rows=b1.Rows)) && (decide (a1.Cols=b1.Cols))) && r1) && r2)
noncomputable def YEf (kind1:Int):Option (Bool):=
 some (((decide (kind1=8)) || (decide (kind1=9))) || (decide (kind1=10)))
noncomputable def YAw (s3:List UInt8):Option ((List UInt8) ⊕ (Ctl Unit Bool)):=
 if (!decide (s3=[])) then (
 bnd2 (YAd s3) fun (r1:Int) (r2:Int)=>
 bnd1 (gd ((((decide (r1=65533)) && (decide (r2=1))) || (decide (r1=10))) == false) (YFF (IntKind.i64.wrap r1))) fun (r3:Bool)=>
 if ((((decide (r1=65533)) && (decide (r2=1))) || (decide (r1=10))) || (!r3)) then (
 some (.inr (.ext false))
 ) else (
 bnd1 (slc s3 r2 (s3.length:Int)) fun (s5:List UInt8)=>
 some (.inl s5)
 )
 ) else (
 some (.inr (.nrm ()))
 )
noncomputable def YGA (s1:List UInt8):Option (Bool):=
 ctl1 (iter (fun (a:(List UInt8))=>YAw a) s1) fun (u2:Unit)=>
 some true
noncomputable def YFB (c1:YAL):Option (Bool):=
 some (((decide (c1.Text=[])) && (decide (c1.Ref=0))) && (decide ((c1.Attrs.length:Int)=0)))
noncomputable def YDY (x1:Int):Option (Bool):=
 some (!decide (x1=x1))
noncomputable def YBF (x1:Int) (y1:Int):Option (Int):=
 bnd1 (YDY x1) fun (xNaN1:Bool)=>
 bnd1 (YDY y1) fun (yNaN1:Bool)=>
 if xNaN1 then (
 if yNaN1 then (
 some 0
 ) else (
 some (-1)
 )
 ) else (
 if yNaN1 then (
 some 1
 ) else (
 if (decide (x1<y1)) then (
 some (-1)
 ) else (
 if (decide (y1<x1)) then (
 some 1
 ) else (
 some 0
 )
 )
 )
 )
noncomputable def YAW (vals1:List Int) (x2:Int):Option (Int ⊕ (Ctl Unit Int)):=
 if (decide (x2<(vals1.length:Int))) then (
 bnd1 (idx vals1 x2) fun (x4:Int)=>
 if (!decide (x4=0)) then (
 some (.inr (.ext x4))
 ) else (
 bnd1 (chk .i64 (x2+1)) fun (x5:Int)=>
 some (.inl x5)
 )
 ) else (
 some (.inr (.nrm ()))
 )
noncomputable def YEI (vals1:List Int):Option (Int):=
 ctl1 (iter (fun (a:Int)=>YAW vals1 a) 0) fun (u2:Unit)=>
 some 0
noncomputable def YEH (a1:YAL) (b1:YAL):Option (Int):=
 bnd1 (YBF a1.Row b1.Row) fun (r1:Int)=>
 bnd1 (YBF a1.Col b1.Col) fun (r2:Int)=>
 bnd1 (YEI [r1,r2]) fun (r3:Int)=>
 some r3
noncomputable def YDS (l1:List YAL) (rows1:Int) (cols1:Int) (none1:Bool) (x2:Int):Option (Int ⊕ (Ctl Unit Int)):=
 if (decide (x2<(l1.length:Int))) then (
 bnd1 (idx l1 x2) fun (x4:YAL)=>
 if ((((decide (x4.Row<0)) || (decide (rows1≤x4.Row))) || (decide (x4.Col<0))) || (decide (cols1≤x4.Col))) then (
 some (.inr (.ext 2))
 ) else (
 if ((decide (x4.Ref<0)) || (decide (1073741824<x4.Ref))) then (
 some (.inr (.ext 2))
 ) else (
 bnd1 (YGA x4.Text) fun (r1:Bool)=>
 if (!r1) then (
 some (.inr (.ext 23))
 ) else (
 bnd1 (YDo x4.Attrs) fun (e1:Int)=>
 if (!decide (e1=0)) then (
 some (.inr (.ext e1))
 ) else (
 bnd1 (YFB x4) fun (r2:Bool)=>
 if (r2 && (!none1)) then (
 some (.inr (.ext 4))
 ) else (
 bnd1 (gd ((decide (0<x2)) == true) (chk .i64 (x2-1))) fun (x5:Int)=>
 bnd1 (gd ((decide (0<x2)) == true) (idx l1 x5)) fun (x6:YAL)=>
 bnd1 (gd ((decide (0<x2)) == true) (YEH x6 x4)) fun (r3:Int)=>
 if ((decide (0<x2)) && (decide (0≤r3))) then (
 some (.inr (.ext 5))
 ) else (
 bnd1 (chk .i64 (x2+1)) fun (x7:Int)=>
 some (.inl x7)
 )
 )
 )
 )
 )
 )
 ) else (
 some (.inr (.nrm ()))
 )
noncomputable def YFC (l1:List YAL) (rows1:Int) (cols1:Int) (none1:Bool):Option (Int):=
 ctl1 (iter (fun (a:Int)=>YDS l1 rows1 cols1 none1 a) 0) fun (u2:Unit)=>
 some 0
noncomputable def YEZ (r1:YAQ) (rows1:Int) (cols1:Int):Option (Bool):=
 bnd1 (gd (((((((decide (0≤r1.Row)) && (decide (0≤r1.Col))) && (decide (1≤r1.H))) && (decide (1≤r1.W))) && (decide (r1.Row<rows1))) && (decide (r1.Col<cols1))) == true) (chk .i64 (rows1-r1.Row))) fun (x1:Int)=>
 bnd1 (gd ((((((((decide (0≤r1.Row)) && (decide (0≤r1.Col))) && (decide (1≤r1.H))) && (decide (1≤r1.W))) && (decide (r1.Row<rows1))) && (decide (r1.Col<cols1))) && (decide (r1.H≤x1))) == true) (chk .i64 (cols1-r1.Col))) fun (x2:Int)=>
 some ((((((((decide (0≤r1.Row)) && (decide (0≤r1.Col))) && (decide (1≤r1.H))) && (decide (1≤r1.W))) && (decide (r1.Row<rows1))) && (decide (r1.Col<cols1))) && (decide (r1.H≤x1))) && (decide (r1.W≤x2)))
noncomputable def YEa (a1:YAQ) (b1:YAQ):Option (Bool):=
 some ((decide (a1.Row<b1.Row)) || ((decide (a1.Row=b1.Row)) && (decide (a1.Col<b1.Col))))
noncomputable def YFA (a1:YAQ) (b1:YAQ):Option (Bool):=
 bnd1 (chk .i64 (b1.Row+b1.H)) fun (x1:Int)=>
 bnd1 (gd ((decide (a1.Row<x1)) == true) (chk .i64 (a1.Row+a1.H))) fun (x2:Int)=>
 bnd1 (gd (((decide (a1.Row<x1)) && (decide (b1.Row<x2))) == true) (chk .i64 (b1.Col+b1.W))) fun (x3:Int)=>
 bnd1 (gd ((((decide (a1.Row<x1)) && (decide (b1.Row<x2))) && (decide (a1.Col<x3))) == true) (chk .i64 (a1.Col+a1.W))) fun (x4:Int)=>
 some ((((decide (a1.Row<x1)) && (decide (b1.Row<x2))) && (decide (a1.Col<x3))) && (decide (b1.Col<x4)))
noncomputable def YEF (w1:YAQ) (q1:YAQ):Option (Bool):=
 bnd1 (YFA q1 w1) fun (r1:Bool)=>
 some r1
noncomputable def YAO (w1:YAQ) (s1:List YAQ) (x2:Int):Option (Int ⊕ (Ctl Unit Int)):=
 if (decide (x2<(s1.length:Int))) then (
 bnd1 (idx s1 x2) fun (x4:YAQ)=>
 bnd1 (YEF w1 x4) fun (r1:Bool)=>
 if r1 then (
 some (.inr (.ext x2))
 ) else (
 bnd1 (chk .i64 (x2+1)) fun (x5:Int)=>
 some (.inl x5)
 )
 ) else (
 some (.inr (.nrm ()))
 )
noncomputable def YAS (w1:YAQ) (s1:List YAQ):Option (Int):=
 ctl1 (iter (fun (a:Int)=>YAO w1 s1 a) 0) fun (u2:Unit)=>
 some (-1)
noncomputable def YAK (w1:YAQ) (s1:List YAQ):Option (Bool):=
 bnd1 (YAS w1 s1) fun (r1:Int)=>
 some (decide (0≤r1))
noncomputable def YDU (g1:YAv) (x2:Int):Option (Int ⊕ (Ctl Unit Int)):=
 if (decide (x2<(g1.Merges.length:Int))) then (
 bnd1 (idx g1.Merges x2) fun (x4:YAQ)=>
 bnd1 (YEZ x4 g1.Rows g1.Cols) fun (r1:Bool)=>
 if (!r1) then (
 some (.inr (.ext 2))
 ) else (
 if ((decide (x4.H=1)) && (decide (x4.W=1))) then (
 some (.inr (.ext 4))
 ) else (
 bnd1 (gd ((decide (0<x2)) == true) (chk .i64 (x2-1))) fun (x5:Int)=>
 bnd1 (gd ((decide (0<x2)) == true) (idx g1.Merges x5)) fun (x6:YAQ)=>
 bnd1 (gd ((decide (0<x2)) == true) (YEa x6 x4)) fun (r2:Bool)=>
 if ((decide (0<x2)) && (!r2)) then (
 some (.inr (.ext 5))
 ) else (
 bnd1 (slc g1.Merges 0 x2) fun (l1:List YAQ)=>
 bnd1 (YAK x4 l1) fun (r3:Bool)=>
 if r3 then (
 some (.inr (.ext 21))
 ) else (
 bnd1 (chk .i64 (x2+1)) fun (x7:Int)=>
 some (.inl x7)
 )
 )
 )
 )
 ) else (
 some (.inr (.nrm ()))
 )
noncomputable def YFE (g1:YAv):Option (Int):=
 if ((((decide (g1.Rows<0)) || (decide (2147483647<g1.Rows))) || (decide (g1.Cols<0))) || (decide (2147483647<g1.Cols))) then (
 some 2
 ) else (
 bnd1 (YFC g1.Cells g1.Rows g1.Cols false) fun (e1:Int)=>
 if (!decide (e1=0)) then (
 some e1
 ) else (
 ctl1 (iter (fun (a:Int)=>YDU g1 a) 0) fun (u2:Unit)=>
 some 0
 )
 )
noncomputable def YBr (kind1:Int) (l1:List YAL) (x2:Int):Option (Int ⊕ (Ctl Unit Int)):=
 if (decide (x2<(l1.length:Int))) then (
 bnd1 (idx l1 x2) fun (x4:YAL)=>
 if (((decide (kind1=2)) && ((!decide (x4.Text=[])) || (decide (0<(x4.Attrs.length:Int))))) || ((decide (kind1=6)) && (!decide (x4.Ref=0)))) then (
 some (.inr (.ext 4))
 ) else (
 bnd1 (chk .i64 (x2+1)) fun (x5:Int)=>
 some (.inl x5)
 )
 ) else (
 some (.inr (.nrm ()))
 )
noncomputable def YCp (kind1:Int) (l1:List YAL):Option (Int):=
 ctl1 (iter (fun (a:Int)=>YBr kind1 l1 a) 0) fun (u2:Unit)=>
 some 0
noncomputable def YCt (s1:List UInt8) (x3:Int):Option (Int ⊕ (Ctl Unit Bool)):=
 if (decide (x3<(s1.length:Int))) then (
 bnd1 (idx s1 x3) fun (ch2:UInt8)=>
 if ((decide ((ch2.toNat:Int)<97)) || (decide (122<(ch2.toNat:Int)))) then (
 some (.inr (.ext false))
 ) else (
 bnd1 (chk .i64 (x3+1)) fun (x5:Int)=>
 some (.inl x5)
 )
 ) else (
 some (.inr (.nrm ()))
 )
noncomputable def YDE (s1:List UInt8):Option (Bool):=
 bnd1 (gd (((decide (s1=[])) || (decide (200<(s1.length:Int)))) == false) (chk .i64 ((s1.length:Int)-1))) fun (x1:Int)=>
 bnd1 (gd (((decide (s1=[])) || (decide (200<(s1.length:Int)))) == false) (idx s1 x1)) fun (ch1:UInt8)=>
 if (((decide (s1=[])) || (decide (200<(s1.length:Int)))) || (decide ((ch1.toNat:Int)=97))) then (
 some false
 ) else (
 ctl1 (iter (fun (a:Int)=>YCt s1 a) 0) fun (u2:Unit)=>
 some true
 )
noncomputable def YE6 (o1:YAI):Option (Int):=
 if ((!decide (o1.Kind=0)) && (!decide (o1.Kind=1))) then (
 some 8
 ) else (
 if ((((((decide (o1.Clock<1)) || (decide (1073741824<o1.Clock))) || (decide (o1.Site<0))) || (decide (1000<o1.Site))) || (decide (o1.Item<1))) || (decide (1073741824<o1.Item))) then (
 some 2
 ) else (
 bnd1 (
 if ((decide (o1.Kind=0)) && ((!decide (o1.Name=[])) || (!decide (o1.Value=[])))) then (
 some ((decide (o1.Kind=0)) && ((!decide (o1.Name=[])) || (!decide (o1.Value=[]))))
 ) else (
 some ((decide (o1.Kind=1)) && ((!decide (o1.Parent=0)) || (!decide (o1.Place=[]))))
 )
 ) fun (x1:Bool)=>
 if x1 then (
 some 4
 ) else (
 if ((decide (o1.Kind=0)) && ((decide (o1.Parent<(-1))) || (decide (1073741824<o1.Parent)))) then (
 some 2
 ) else (
 bnd1 (gd ((decide (o1.Kind=0)) == true) (YDE o1.Place)) fun (r1:Bool)=>
 bnd1 (
 if ((decide (o1.Kind=0)) && (!r1)) then (
 some ((decide (o1.Kind=0)) && (!r1))
 ) else (
 bnd1 (gd ((decide (o1.Kind=1)) == true) (YFH o1.Name)) fun (r3:Bool)=>
 some ((decide (o1.Kind=1)) && (!r3))
 )
 ) fun (x2:Bool)=>
 if x2 then (
 some 9
 ) else (
 bnd1 (gd (((decide (o1.Kind=1)) && (!decide (o1.Value=[]))) == true) (YEK o1.Value)) fun (r2:Bool)=>
 if (((decide (o1.Kind=1)) && (!decide (o1.Value=[]))) && (!r2)) then (
 some 23
 ) else (
 some 0
 )
 )
 )
 )
 )
 )
noncomputable def YCl (a1:YAI) (b1:YAI):Option (Int):=
 bnd1 (YBF a1.Clock b1.Clock) fun (r1:Int)=>
 bnd1 (YBF a1.Site b1.Site) fun (r2:Int)=>
 bnd1 (YEI [r1,r2]) fun (r3:Int)=>
 some r3
noncomputable def YB3 (l1:List YAI) (x2:Int):Option (Int ⊕ (Ctl Unit Int)):=
 if (decide (x2<(l1.length:Int))) then (
 bnd1 (idx l1 x2) fun (x4:YAI)=>
 bnd1 (YE6 x4) fun (e1:Int)=>
 if (!decide (e1=0)) then (
 some (.inr (.ext e1))
 ) else (
 bnd1 (gd ((decide (0<x2)) == true) (chk .i64 (x2-1))) fun (x5:Int)=>
 bnd1 (gd ((decide (0<x2)) == true) (idx l1 x5)) fun (x6:YAI)=>
 bnd1 (gd ((decide (0<x2)) == true) (YCl x6 x4)) fun (r1:Int)=>
 if ((decide (0<x2)) && (decide (0≤r1))) then (
 some (.inr (.ext 5))
 ) else (
 bnd1 (chk .i64 (x2+1)) fun (x7:Int)=>
 some (.inl x7)
 )
 )
 ) else (
 some (.inr (.nrm ()))
 )
noncomputable def YDF (l1:List YAI):Option (Int):=
 ctl1 (iter (fun (a:Int)=>YB3 l1 a) 0) fun (u2:Unit)=>
 some 0
noncomputable def YAr (n1:YAJ):Option (Int):=
 if ((decide (n1.ID<1)) || (decide (1073741824<n1.ID))) then (
 some 2
 ) else (
 if (((decide (n1.Kind<0)) || (decide (13≤n1.Kind))) || (!((decide (n1.ID=1)) == (decide (n1.Kind=0))))) then (
 some 8
 ) else (
 bnd1 (YDo n1.Attrs) fun (e1:Int)=>
 if (!decide (e1=0)) then (
 some e1
 ) else (
 bnd1 (YEd n1.Kind) fun (r1:Bool)=>
 bnd1 (gd (r1 == false) (YEe n1.Kind)) fun (r2:Bool)=>
 bnd1 (YCo n1.Kind) fun (grids1:Bool)=>
 bnd1 (
 if (((!(r1 || r2)) && (decide (0<(n1.Flow.length:Int)))) == false) then (
 if ((!grids1) == true) then (
 bnd1 (YFD n1.Grid (YAv.mk 0 0 [] [])) fun (r7:Bool)=>
 bnd1 (gd ((((!(r1 || r2)) && (decide (0<(n1.Flow.length:Int)))) || ((!grids1) && (!r7))) == false) (YEf n1.Kind)) fun (r8:Bool)=>
 some ((((!(r1 || r2)) && (decide (0<(n1.Flow.length:Int)))) || ((!grids1) && (!r7))) || ((!r8) && (decide (0<(n1.Draw.length:Int)))))
 ) else (
 bnd1 (gd ((((!(r1 || r2)) && (decide (0<(n1.Flow.length:Int)))) || ((!grids1) && false)) == false) (YEf n1.Kind)) fun (r9:Bool)=>
 some ((((!(r1 || r2)) && (decide (0<(n1.Flow.length:Int)))) || ((!grids1) && false)) || ((!r9) && (decide (0<(n1.Draw.length:Int)))))
 )
 ) else (
 bnd1 (gd ((((!(r1 || r2)) && (decide (0<(n1.Flow.length:Int)))) || false) == false) (YEf n1.Kind)) fun (r10:Bool)=>
 some ((((!(r1 || r2)) && (decide (0<(n1.Flow.length:Int)))) || false) || ((!r10) && (decide (0<(n1.Draw.length:Int)))))
 )
 ) fun (x1:Bool)=>
 if x1 then (
 some 4
 ) else (
 if (r1 || r2) then (
 bnd1 (YC2 n1.Flow r1) fun (r4:Int)=>
 some r4
 ) else (
 if grids1 then (
 bnd1 (YFE n1.Grid) fun (e2:Int)=>
 if (!decide (e2=0)) then (
 some e2
 ) else (
 bnd1 (YCp n1.Kind n1.Grid.Cells) fun (r5:Int)=>
 some r5
 )
 ) else (
 bnd1 (YDF n1.Draw) fun (r6:Int)=>
 some r6
 )
 )
 )
 )
 )
 )
noncomputable def YA4 (f1:List YAN) (x2:Int) (out2:List Int):Option ((Int × (List Int)) ⊕ (List Int)):=
 if (decide (x2<(f1.length:Int))) then (
 bnd1 (
 bnd1 (idx f1 x2) fun (x5:YAN)=>
 if (!decide (x5.Ref=0)) then (
 bnd1 (app 8 out2 [x5.Ref]) fun (out6:List Int)=>
 some out6
 ) else (
 some out2
 )
 ) fun (out5:List Int)=>
 bnd1 (chk .i64 (x2+1)) fun (x4:Int)=>
 some (.inl (x4,out5))
 ) else (
 some (.inr out2)
 )
noncomputable def YEb (f1:List YAN):Option ((List Int)):=
 bnd1 (iter (fun (a:Int × (List Int))=>YA4 f1 a.1 a.2) (0,[])) fun (out4:List Int)=>
 some out4
noncomputable def YBi (n1:YAJ) (x2:Int) (out2:List Int):Option ((Int × (List Int)) ⊕ (List Int)):=
 if (decide (x2<(n1.Grid.Cells.length:Int))) then (
 bnd1 (
 bnd1 (idx n1.Grid.Cells x2) fun (x5:YAL)=>
 if (!decide (x5.Ref=0)) then (
 bnd1 (app 8 out2 [x5.Ref]) fun (out6:List Int)=>
 some out6
 ) else (
 some out2
 )
 ) fun (out5:List Int)=>
 bnd1 (chk .i64 (x2+1)) fun (x4:Int)=>
 some (.inl (x4,out5))
 ) else (
 some (.inr out2)
 )
noncomputable def YFX (n1:YAJ):Option ((List Int)):=
 bnd1 (YEb n1.Flow) fun (w1:List Int)=>
 bnd1 (iter (fun (a:Int × (List Int))=>YBi n1 a.1 a.2) (0,w1)) fun (out4:List Int)=>
 some out4
noncomputable def YDm (n1:YAJ) (id1:Int):Option (Int):=
 if (decide (n1.ID<id1)) then (
 some (-1)
 ) else (
 if (decide (id1<n1.ID)) then (
 some 1
 ) else (
 some 0
 )
 )
noncomputable def YAD (x1:List YAJ) (target1:Int) (i4:Int) (j2:Int):Option ((Int × Int) ⊕ Int):=
 if (decide (i4<j2)) then (
 bnd1 (chk .i64 (i4+j2)) fun (x3:Int)=>
 bnd1 (idx x1 (IntKind.i64.wrap (shrC .u64 (IntKind.u64.wrap x3) 1))) fun (x4:YAJ)=>
 bnd1 (YDm x4 target1) fun (r2:Int)=>
 if (decide (r2<0)) then (
 bnd1 (chk .i64 ((IntKind.i64.wrap (shrC .u64 (IntKind.u64.wrap x3) 1))+1)) fun (i10:Int)=>
 some (.inl (i10,j2))
 ) else (
 some (.inl (i4,(IntKind.i64.wrap (shrC .u64 (IntKind.u64.wrap x3) 1))))
 )
 ) else (
 some (.inr i4)
 )
noncomputable def YAP (x1:List YAJ) (target1:Int):Option (Int × Bool):=
 bnd1 (iter (fun (a:Int × Int)=>YAD x1 target1 a.1 a.2) (0,(x1.length:Int))) fun (i8:Int)=>
 bnd1 (gd ((decide (i8<(x1.length:Int))) == true) (idx x1 i8)) fun (x2:YAJ)=>
 bnd1 (gd ((decide (i8<(x1.length:Int))) == true) (YDm x2 target1)) fun (r1:Int)=>
 some (i8,((decide (i8<(x1.length:Int))) && (decide (r1=0))))
noncomputable def YGQ (d1:GDoc) (id1:Int):Option (Int × Bool):=
 bnd2 (YAP d1.Nodes id1) fun (r1:Int) (r2:Bool)=>
 some (r1,r2)
noncomputable def YA5 (s1:List Int) (v1:Int) (x2:Int):Option (Int ⊕ (Ctl Unit Int)):=
 if (decide (x2<(s1.length:Int))) then (
 bnd1 (idx s1 x2) fun (x4:Int)=>
 if (decide (v1=x4)) then (
 some (.inr (.ext x2))
 ) else (
 bnd1 (chk .i64 (x2+1)) fun (x5:Int)=>
 some (.inl x5)
 )
 ) else (
 some (.inr (.nrm ()))
 )
noncomputable def YBm (s1:List Int) (v1:Int):Option (Int):=
 ctl1 (iter (fun (a:Int)=>YA5 s1 v1 a) 0) fun (u2:Unit)=>
 some (-1)
noncomputable def YAo (s1:List Int) (v1:Int):Option (Bool):=
 bnd1 (YBm s1 v1) fun (r1:Int)=>
 some (decide (0≤r1))
noncomputable def YDW (parent1:Int) (kid1:Int):Option (Bool):=
 bnd1 (
 if (decide (parent1=0)) then (
 some [1,6,7,10,11,12]
 ) else (
 if (decide (parent1=1)) then (
 some [2,4,5,10]
 ) else (
 if (decide (parent1=3)) then (
 some [4,5,10]
 ) else (
 bnd1 (
 if (decide (parent1=4)) then (
 some (decide (parent1=4))
 ) else (
 some (decide (parent1=12))
 )
 ) fun (x1:Bool)=>
 if x1 then (
 some [5]
 ) else (
 if (decide (parent1=2)) then (
 some [3]
 ) else (
 if (decide (parent1=7)) then (
 some [8,9]
 ) else (
 some []
 )
 )
 )
 )
 )
 )
 ) fun (l1:List Int)=>
 bnd1 (YAo l1 kid1) fun (r1:Bool)=>
 some r1
noncomputable def YBY (d1:GDoc) (kind1:Int) (YC8:List Int) (x2:Int):Option (Int ⊕ (Ctl Unit Int)):=
 if (decide (x2<(YC8.length:Int))) then (
 bnd1 (idx YC8 x2) fun (x4:Int)=>
 bnd2 (YGQ d1 x4) fun (r1:Int) (r2:Bool)=>
 if (!r2) then (
 some (.inr (.ext 7))
 ) else (
 bnd1 (idx d1.Nodes r1) fun (x5:YAJ)=>
 bnd1 (YDW kind1 x5.Kind) fun (r3:Bool)=>
 if (!r3) then (
 some (.inr (.ext 8))
 ) else (
 bnd1 (chk .i64 (x2+1)) fun (x6:Int)=>
 some (.inl x6)
 )
 )
 ) else (
 some (.inr (.nrm ()))
 )
noncomputable def YDX (d1:GDoc) (kind1:Int) (YC8:List Int):Option (Int):=
 ctl1 (iter (fun (a:Int)=>YBY d1 kind1 YC8 a) 0) fun (u2:Unit)=>
 some 0
noncomputable def YCR (d1:GDoc) (x5:Int):Option (Int ⊕ (Ctl Unit Int)):=
 if (decide (x5<(d1.Nodes.length:Int))) then (
 bnd1 (idx d1.Nodes x5) fun (x7:YAJ)=>
 bnd1 (YFX x7) fun (r1:List Int)=>
 bnd1 (YDX d1 x7.Kind r1) fun (e1:Int)=>
 if (!decide (e1=0)) then (
 some (.inr (.ext e1))
 ) else (
 bnd1 (chk .i64 (x5+1)) fun (x8:Int)=>
 some (.inl x8)
 )
 ) else (
 some (.inr (.nrm ()))
 )
noncomputable def YBd (d1:GDoc) (x2:Int):Option (Int ⊕ (Ctl Unit Int)):=
 if (decide (x2<(d1.Nodes.length:Int))) then (
 bnd1 (idx d1.Nodes x2) fun (x9:YAJ)=>
 bnd1 (YAr x9) fun (e2:Int)=>
 if (!decide (e2=0)) then (
 some (.inr (.ext e2))
 ) else (
 bnd1 (gd ((((decide (x2=0)) && (!decide (x9.ID=1))) == false) && ((decide (0<x2)) == true)) (chk .i64 (x2-1))) fun (x10:Int)=>
 bnd1 (gd ((((decide (x2=0)) && (!decide (x9.ID=1))) == false) && ((decide (0<x2)) == true)) (idx d1.Nodes x10)) fun (x11:YAJ)=>
 if (((decide (x2=0)) && (!decide (x9.ID=1))) || ((decide (0<x2)) && (decide (x9.ID≤x11.ID)))) then (
 some (.inr (.ext 5))
 ) else (
 bnd1 (chk .i64 (x2+1)) fun (x12:Int)=>
 some (.inl x12)
 )
 )
 ) else (
 some (.inr (.nrm ()))
 )
noncomputable def YCE (d1:GDoc):Option (Int):=
 if (decide ((d1.Nodes.length:Int)=0)) then (
 some 11
 ) else (
 ctl1 (iter (fun (a:Int)=>YBd d1 a) 0) fun (u2:Unit)=>
 ctl1 (iter (fun (a:Int)=>YCR d1 a) 0) fun (u4:Unit)=>
 some 0
 )
noncomputable def YDz (a1:YAL) (b1:YAL):Option (Bool):=
 bnd1 (gd (((((decide (a1.Row=b1.Row)) && (decide (a1.Col=b1.Col))) && (decide (a1.Text=b1.Text))) && (decide (a1.Ref=b1.Ref))) == true) (YBD a1.Attrs b1.Attrs)) fun (r1:Bool)=>
 some (((((decide (a1.Row=b1.Row)) && (decide (a1.Col=b1.Col))) && (decide (a1.Text=b1.Text))) && (decide (a1.Ref=b1.Ref))) && r1)
noncomputable def YB7 (a1:List YAL) (b1:List YAL) (x2:Int):Option (Int ⊕ (Ctl Unit Bool)):=
 if (decide (x2<(a1.length:Int))) then (
 bnd1 (idx a1 x2) fun (x4:YAL)=>
 bnd1 (idx b1 x2) fun (x5:YAL)=>
 bnd1 (YDz x4 x5) fun (r1:Bool)=>
 if (!r1) then (
 some (.inr (.ext false))
 ) else (
 bnd1 (chk .i64 (x2+1)) fun (x6:Int)=>
 some (.inl x6)
 )
 ) else (
 some (.inr (.nrm ()))
 )
noncomputable def YCY (a1:List YAL) (b1:List YAL):Option (Bool):=
 if (!decide ((a1.length:Int)=(b1.length:Int))) then (
 some false
 ) else (
 ctl1 (iter (fun (a:Int)=>YB7 a1 b1 a) 0) fun (u2:Unit)=>
 some true
 )
noncomputable def YB5 (a1:List YAQ) (b1:List YAQ) (x2:Int):Option (Int ⊕ (Ctl Unit Bool)):=
 if (decide (x2<(a1.length:Int))) then (
 bnd1 (idx a1 x2) fun (x4:YAQ)=>
 bnd1 (idx b1 x2) fun (x5:YAQ)=>
 if (!(decide (x4.Row=x5.Row) && (decide (x4.Col=x5.Col) && (decide (x4.H=x5.H) && (decide (x4.W=x5.W) && true))))) then (
 some (.inr (.ext false))
 ) else (
 bnd1 (chk .i64 (x2+1)) fun (x6:Int)=>
 some (.inl x6)
 )
 ) else (
 some (.inr (.nrm ()))
 )
noncomputable def YBz (a1:List YAQ) (b1:List YAQ):Option (Bool):=
 if (!decide ((a1.length:Int)=(b1.length:Int))) then (
 some false
 ) else (
 ctl1 (iter (fun (a:Int)=>YB5 a1 b1 a) 0) fun (u2:Unit)=>
 some true
 )
noncomputable def YDw (a1:YAv) (b1:YAv):Option (Bool):=
 bnd1 (gd (((decide (a1.Rows=b1.Rows)) && (decide (a1.Cols=b1.Cols))) == true) (YCY a1.Cells b1.Cells)) fun (r1:Bool)=>
 bnd1 (gd ((((decide (a1.Rows=b1.Rows)) && (decide (a1.Cols=b1.Cols))) && r1) == true) (YBz a1.Merges b1.Merges)) fun (r2:Bool)=>
 some ((((decide (a1.Rows=b1.Rows)) && (decide (a1.Cols=b1.Cols))) && r1) && r2)
noncomputable def YCH (a1:List YAI) (b1:List YAI) (x2:Int):Option (Int ⊕ (Ctl Unit Bool)):=
 if (decide (x2<(a1.length:Int))) then (
 bnd1 (idx a1 x2) fun (x4:YAI)=>
 bnd1 (idx b1 x2) fun (x5:YAI)=>
 if (!(decide (x4.Clock=x5.Clock) && (decide (x4.Site=x5.Site) && (decide (x4.Kind=x5.Kind) && (decide (x4.Item=x5.Item) && (decide (x4.Parent=x5.Parent) && (decide (x4.Place=x5.Place) && (decide (x4.Name=x5.Name) && (decide (x4.Value=x5.Value) && true))))))))) then (
 some (.inr (.ext false))
 ) else (
 bnd1 (chk .i64 (x2+1)) fun (x6:Int)=>
 some (.inl x6)
 )
 ) else (
 some (.inr (.nrm ()))
 )
noncomputable def YCO (a1:List YAI) (b1:List YAI):Option (Bool):=
 if (!decide ((a1.length:Int)=(b1.length:Int))) then (
 some false
 ) else (
 ctl1 (iter (fun (a:Int)=>YCH a1 b1 a) 0) fun (u2:Unit)=>
 some true
 )
noncomputable def YCz (a1:YAJ) (b1:YAJ):Option (Bool):=
 bnd1 (gd (((decide (a1.ID=b1.ID)) && (decide (a1.Kind=b1.Kind))) == true) (YBD a1.Attrs b1.Attrs)) fun (r1:Bool)=>
 bnd1 (gd ((((decide (a1.ID=b1.ID)) && (decide (a1.Kind=b1.Kind))) && r1) == true) (YC0 a1.Flow b1.Flow)) fun (r2:Bool)=>
 bnd1 (gd (((((decide (a1.ID=b1.ID)) && (decide (a1.Kind=b1.Kind))) && r1) && r2) == true) (YDw a1.Grid b1.Grid)) fun (r3:Bool)=>
 bnd1 (gd ((((((decide (a1.ID=b1.ID)) && (decide (a1.Kind=b1.Kind))) && r1) && r2) && r3) == true) (YCO a1.Draw b1.Draw)) fun (r4:Bool)=>
 some ((((((decide (a1.ID=b1.ID)) && (decide (a1.Kind=b1.Kind))) && r1) && r2) && r3) && r4)
noncomputable def YAu (s11:List YAI) (s21:List YAI) (x2:Int):Option (Int ⊕ (Ctl Unit Bool)):=
 if (decide (x2<(s11.length:Int))) then (
 bnd1 (idx s11 x2) fun (x4:YAI)=>
 bnd1 (idx s21 x2) fun (x5:YAI)=>
 if (!(decide (x4.Clock=x5.Clock) && (decide (x4.Site=x5.Site) && (decide (x4.Kind=x5.Kind) && (decide (x4.Item=x5.Item) && (decide (x4.Parent=x5.Parent) && (decide (x4.Place=x5.Place) && (decide (x4.Name=x5.Name) && (decide (x4.Value=x5.Value) && true))))))))) then (
 some (.inr (.ext false))
 ) else (
 bnd1 (chk .i64 (x2+1)) fun (x6:Int)=>
 some (.inl x6)
 )
 ) else (
 some (.inr (.nrm ()))
 )
noncomputable def YA2 (s11:List YAI) (s21:List YAI):Option (Bool):=
 if (!decide ((s11.length:Int)=(s21.length:Int))) then (
 some false
 ) else (
 ctl1 (iter (fun (a:Int)=>YAu s11 s21 a) 0) fun (u2:Unit)=>
 some true
 )
noncomputable def YH3 (a1:YAJ) (b1:YAJ):Option (Bool):=
 bnd1 (gd (((decide (a1.ID=b1.ID)) && (decide (a1.Kind=b1.Kind))) == true) (YEj a1.Attrs b1.Attrs)) fun (r1:Bool)=>
 bnd1 (gd ((((decide (a1.ID=b1.ID)) && (decide (a1.Kind=b1.Kind))) && r1) == true) (YJS a1.Flow b1.Flow)) fun (r2:Bool)=>
 bnd1 (gd (((((decide (a1.ID=b1.ID)) && (decide (a1.Kind=b1.Kind))) && r1) && r2) == true) (YFD a1.Grid b1.Grid)) fun (r3:Bool)=>
 bnd1 (gd ((((((decide (a1.ID=b1.ID)) && (decide (a1.Kind=b1.Kind))) && r1) && r2) && r3) == true) (YA2 a1.Draw b1.Draw)) fun (r4:Bool)=>
 some ((((((decide (a1.ID=b1.ID)) && (decide (a1.Kind=b1.Kind))) && r1) && r2) && r3) && r4)
noncomputable def YEX (d1:GDoc) (id1:Int) (x2:Int):Option (Int ⊕ (Ctl Unit Int)):=
 if (decide (x2<(d1.Nodes.length:Int))) then (
 bnd1 (idx d1.Nodes x2) fun (x4:YAJ)=>
 if (decide (x4.ID=id1)) then (
 some (.inr (.ext x2))
 ) else (
 bnd1 (chk .i64 (x2+1)) fun (x5:Int)=>
 some (.inl x5)
 )
 ) else (
 some (.inr (.nrm ()))
 )
noncomputable def YED (d1:GDoc) (id1:Int):Option (Int):=
 ctl1 (iter (fun (a:Int)=>YEX d1 id1 a) 0) fun (u2:Unit)=>
 some (-1)
noncomputable def YIW (id1:Int):Option (Int):=
 some (shrC .i64 id1 16)
end Go.Proofs.YtdafahjmopdleaaGreatDoor.Al


namespace Go.Proofs.YtdafahjmopdleaaGreatDoor.Al
noncomputable def YDi (kind1:Int):Option (Bool):=
 some ((((decide (kind1=1)) || (decide (kind1=3))) || (decide (kind1=4))) || (decide (kind1=12)))
noncomputable def YDI (parent1:Int) (kid1:Int):Option (Bool):=
 bnd1 (
 if (decide (kid1=1)) then (
 some (decide (kid1=1))
 ) else (
 if (decide (kid1=6)) then (
 some (decide (kid1=6))
 ) else (
 if (decide (kid1=7)) then (
 some (decide (kid1=7))
 ) else (
 if (decide (kid1=11)) then (
 some (decide (kid1=11))
 ) else (
 some (decide (kid1=12))
 )
 )
 )
 )
 ) fun (x1:Bool)=>
 if x1 then (
 some (decide (parent1=0))
 ) else (
 if (decide (kid1=10)) then (
 some (((decide (parent1=0)) || (decide (parent1=1))) || (decide (parent1=3)))
 ) else (
 if (decide (kid1=2)) then (
 some (decide (parent1=1))
 ) else (
 if (decide (kid1=4)) then (
 some ((decide (parent1=1)) || (decide (parent1=3)))
 ) else (
 if (decide (kid1=5)) then (
 bnd1 (YDi parent1) fun (r1:Bool)=>
 some r1
 ) else (
 if (decide (kid1=3)) then (
 some (decide (parent1=2))
 ) else (
 bnd1 (
 if (decide (kid1=8)) then (
 some (decide (kid1=8))
 ) else (
 some (decide (kid1=9))
 )
 ) fun (x2:Bool)=>
 if x2 then (
 some (decide (parent1=7))
 ) else (
 some false
 )
 )
 )
 )
 )
 )
 )
noncomputable def YFR (kind1:Int):Option (Bool):=
 some ((decide (kind1=0)) || (decide (kind1=7)))
noncomputable def YDu (g1:YAv):Option (Bool):=
 some ((((decide (g1.Rows=0)) && (decide (g1.Cols=0))) && (decide ((g1.Cells.length:Int)=0))) && (decide ((g1.Merges.length:Int)=0)))
noncomputable def YCw (kind1:Int):Option (Bool):=
 some ((decide (kind1=2)) || (decide (kind1=6)))
noncomputable def YFS (kind1:Int):Option (Bool):=
 some (((decide (kind1=8)) || (decide (kind1=9))) || (decide (kind1=10)))
noncomputable def YBH (s1:List UInt8):Option (Bool):=
 YNc s1
noncomputable def YAb (s1:List UInt8) (p2:(Nat)):Option ((Nat) ⊕ (Ctl Unit Bool)):=
 if (decide (p2<s1.length)) then (
 bnd1 (gd ((decide (((YEp s1 p2).1:Int)=10)) == false) (YGM (IntKind.i64.wrap ((YEp s1 p2).1:Int)))) fun (r2:Bool)=>
 if ((decide (((YEp s1 p2).1:Int)=10)) || (!r2)) then (
 some (.inr (.ext false))
 ) else (
 some (.inl (p2+(YEp s1 p2).2))
 )
 ) else (
 some (.inr (.nrm ()))
 )
noncomputable def YD0 (s1:List UInt8):Option (Bool):=
 bnd1 (YBH s1) fun (r1:Bool)=>
 if (!r1) then (
 some false
 ) else (
 ctl1 (iter (fun (a:(Nat))=>YAb s1 a) 0) fun (u2:Unit)=>
 some true
 )
noncomputable def YDL (c1:YAL):Option (Bool):=
 some (((decide (c1.Text=[])) && (decide (c1.Ref=0))) && (decide ((c1.Attrs.length:Int)=0)))
noncomputable def YBq (l1:List YAL) (rows1:Int) (cols1:Int) (none1:Bool) (x2:Int):Option (Int ⊕ (Ctl Unit Int)):=
 if (decide (x2<(l1.length:Int))) then (
 bnd1 (idx l1 x2) fun (x4:YAL)=>
 bnd1 (chk .i64 (rows1-1)) fun (x5:Int)=>
 bnd1 (YBj x4.Row 0 x5) fun (r1:Bool)=>
 bnd1 (gd ((!r1) == false) (chk .i64 (cols1-1))) fun (x6:Int)=>
 bnd1 (gd ((!r1) == false) (YBj x4.Col 0 x6)) fun (r2:Bool)=>
 bnd1 (gd (((!r1) || (!r2)) == false) (YBj x4.Ref 0 1073741824)) fun (r3:Bool)=>
 if (((!r1) || (!r2)) || (!r3)) then (
 some (.inr (.ext 2))
 ) else (
 bnd1 (YD0 x4.Text) fun (r4:Bool)=>
 if (!r4) then (
 some (.inr (.ext 23))
 ) else (
 bnd1 (YBh x4.Attrs false) fun (e1:Int)=>
 if (!decide (e1=0)) then (
 some (.inr (.ext e1))
 ) else (
 bnd1 (gd ((!none1) == true) (YDL x4)) fun (r5:Bool)=>
 if ((!none1) && r5) then (
 some (.inr (.ext 4))
 ) else (
 bnd1 (gd ((decide (0<x2)) == true) (chk .i64 (x2-1))) fun (x7:Int)=>
 bnd1 (gd ((decide (0<x2)) == true) (idx l1 x7)) fun (x8:YAL)=>
 bnd1 (gd ((((decide (0<x2)) == true) && ((decide (x4.Row<x8.Row)) == false)) && ((decide (x4.Row=x8.Row)) == true)) (chk .i64 (x2-1))) fun (x9:Int)=>
 bnd1 (gd ((((decide (0<x2)) == true) && ((decide (x4.Row<x8.Row)) == false)) && ((decide (x4.Row=x8.Row)) == true)) (idx l1 x9)) fun (x10:YAL)=>
 if ((decide (0<x2)) && ((decide (x4.Row<x8.Row)) || ((decide (x4.Row=x8.Row)) && (decide (x4.Col≤x10.Col))))) then (
 some (.inr (.ext 5))
 ) else (
 bnd1 (chk .i64 (x2+1)) fun (x11:Int)=>
 some (.inl x11)
 )
 )
 )
 )
 )
 ) else (
 some (.inr (.nrm ()))
 )
noncomputable def YCm (l1:List YAL) (rows1:Int) (cols1:Int) (none1:Bool):Option (Int):=
 ctl1 (iter (fun (a:Int)=>YBq l1 rows1 cols1 none1 a) 0) fun (u2:Unit)=>
 some 0
noncomputable def YG7 (r1:YAQ) (rows1:Int) (cols1:Int):Option (Bool):=
 bnd1 (chk .i64 (rows1-1)) fun (x1:Int)=>
 bnd1 (YBj r1.Row 0 x1) fun (r2:Bool)=>
 bnd1 (gd (r2 == true) (chk .i64 (cols1-1))) fun (x2:Int)=>
 bnd1 (gd (r2 == true) (YBj r1.Col 0 x2)) fun (r3:Bool)=>
 bnd1 (gd ((r2 && r3) == true) (chk .i64 (rows1-r1.Row))) fun (x3:Int)=>
 bnd1 (gd ((r2 && r3) == true) (YBj r1.H 1 x3)) fun (r4:Bool)=>
 bnd1 (gd (((r2 && r3) && r4) == true) (chk .i64 (cols1-r1.Col))) fun (x4:Int)=>
 bnd1 (gd (((r2 && r3) && r4) == true) (YBj r1.W 1 x4)) fun (r5:Bool)=>
 some (((r2 && r3) && r4) && r5)
noncomputable def YF3 (a1:YAQ) (b1:YAQ):Option (Bool):=
 bnd1 (chk .i64 (a1.Row+a1.H)) fun (x1:Int)=>
 bnd1 (chk .i64 (b1.Row+b1.H)) fun (x2:Int)=>
 bnd1 (gd ((decide ((max a1.Row b1.Row)<(min x1 x2))) == true) (chk .i64 (a1.Col+a1.W))) fun (x3:Int)=>
 bnd1 (gd ((decide ((max a1.Row b1.Row)<(min x1 x2))) == true) (chk .i64 (b1.Col+b1.W))) fun (x4:Int)=>
 some ((decide ((max a1.Row b1.Row)<(min x1 x2))) && (decide ((max a1.Col b1.Col)<(min x3 x4))))
noncomputable def YCA (g1:YAv) (x2:Int) (x4:YAQ) (x10:Int):Option (Int ⊕ (Ctl Unit (Int ⊕ (Ctl Unit Int)))):=
 if (decide (x10<x2)) then (
 bnd1 (idx g1.Merges x10) fun (x13:YAQ)=>
 bnd1 (YF3 x4 x13) fun (r4:Bool)=>
 if r4 then (
 some (.inr (.ext (.inr (.ext 21))))
 ) else (
 bnd1 (chk .i64 (x10+1)) fun (x14:Int)=>
 some (.inl x14)
 )
 ) else (
 some (.inr (.nrm ()))
 )
noncomputable def YCB (g1:YAv) (x2:Int):Option (Int ⊕ (Ctl Unit Int)):=
 if (decide (x2<(g1.Merges.length:Int))) then (
 bnd1 (idx g1.Merges x2) fun (x4:YAQ)=>
 bnd1 (YG7 x4 g1.Rows g1.Cols) fun (r3:Bool)=>
 if (!r3) then (
 some (.inr (.ext 2))
 ) else (
 if ((decide (x4.H=1)) && (decide (x4.W=1))) then (
 some (.inr (.ext 4))
 ) else (
 bnd1 (gd ((decide (0<x2)) == true) (chk .i64 (x2-1))) fun (x5:Int)=>
 bnd1 (gd ((decide (0<x2)) == true) (idx g1.Merges x5)) fun (x6:YAQ)=>
 bnd1 (gd ((((decide (0<x2)) == true) && ((decide (x4.Row<x6.Row)) == false)) && ((decide (x4.Row=x6.Row)) == true)) (chk .i64 (x2-1))) fun (x7:Int)=>
 bnd1 (gd ((((decide (0<x2)) == true) && ((decide (x4.Row<x6.Row)) == false)) && ((decide (x4.Row=x6.Row)) == true)) (idx g1.Merges x7)) fun (x8:YAQ)=>
 if ((decide (0<x2)) && ((decide (x4.Row<x6.Row)) || ((decide (x4.Row=x6.Row)) && (decide (x4.Col≤x8.Col))))) then (
 some (.inr (.ext 5))
 ) else (
 ctl1 (iter (fun (a:Int)=>YCA g1 x2 x4 a) 0) fun (u4:Unit)=>
 bnd1 (chk .i64 (x2+1)) fun (x12:Int)=>
 some (.inl x12)
 )
 )
 )
 ) else (
 some (.inr (.nrm ()))
 )
noncomputable def YDK (g1:YAv):Option (Int):=
 bnd1 (YBj g1.Rows 0 2147483647) fun (r1:Bool)=>
 bnd1 (gd ((!r1) == false) (YBj g1.Cols 0 2147483647)) fun (r2:Bool)=>
 if ((!r1) || (!r2)) then (
 some 2
 ) else (
 bnd1 (YCm g1.Cells g1.Rows g1.Cols false) fun (e1:Int)=>
 if (!decide (e1=0)) then (
 some e1
 ) else (
 ctl1 (iter (fun (a:Int)=>YCB g1 a) 0) fun (u2:Unit)=>
 some 0
 )
 )
noncomputable def YCD (kind1:Int) (l1:List YAL) (x2:Int):Option (Int ⊕ (Ctl Unit Int)):=
 if (decide (x2<(l1.length:Int))) then (
 bnd1 (gd ((decide (kind1=2)) == true) (idx l1 x2)) fun (x4:YAL)=>
 bnd1 (gd ((((decide (kind1=2)) && ((!decide (x4.Text=[])) || (decide (0<(x4.Attrs.length:Int))))) == false) && ((decide (kind1=6)) == true)) (idx l1 x2)) fun (x5:YAL)=>
 if (((decide (kind1=2)) && ((!decide (x4.Text=[])) || (decide (0<(x4.Attrs.length:Int))))) || ((decide (kind1=6)) && (!decide (x5.Ref=0)))) then (
 some (.inr (.ext 4))
 ) else (
 bnd1 (chk .i64 (x2+1)) fun (x6:Int)=>
 some (.inl x6)
 )
 ) else (
 some (.inr (.nrm ()))
 )
noncomputable def YDO (kind1:Int) (l1:List YAL):Option (Int):=
 ctl1 (iter (fun (a:Int)=>YCD kind1 l1 a) 0) fun (u2:Unit)=>
 some 0
noncomputable def YCQ (s1:List UInt8) (x2:Int):Option (Int ⊕ (Ctl Unit Bool)):=
 if (decide (x2<(s1.length:Int))) then (
 bnd1 (idx s1 x2) fun (ch2:UInt8)=>
 if ((decide ((ch2.toNat:Int)<97)) || (decide (122<(ch2.toNat:Int)))) then (
 some (.inr (.ext false))
 ) else (
 bnd1 (chk .i64 (x2+1)) fun (x5:Int)=>
 some (.inl x5)
 )
 ) else (
 some (.inr (.nrm ()))
 )
noncomputable def YF5 (s1:List UInt8):Option (Bool):=
 ctl1 (iter (fun (a:Int)=>YCQ s1 a) 0) fun (u2:Unit)=>
 bnd1 (gd (((decide (1≤(s1.length:Int))) && (decide ((s1.length:Int)≤200))) == true) (chk .i64 ((s1.length:Int)-1))) fun (x4:Int)=>
 bnd1 (gd (((decide (1≤(s1.length:Int))) && (decide ((s1.length:Int)≤200))) == true) (idx s1 x4)) fun (ch1:UInt8)=>
 some (((decide (1≤(s1.length:Int))) && (decide ((s1.length:Int)≤200))) && (!decide ((ch1.toNat:Int)=97)))
noncomputable def YDj (a1:YAI) (b1:YAI):Option (Bool):=
 some ((decide (a1.Clock<b1.Clock)) || ((decide (a1.Clock=b1.Clock)) && (decide (a1.Site<b1.Site))))
noncomputable def YCC (l1:List YAI) (x2:Int):Option (Int ⊕ (Ctl Unit Int)):=
 if (decide (x2<(l1.length:Int))) then (
 bnd1 (idx l1 x2) fun (x4:YAI)=>
 if ((!decide (x4.Kind=0)) && (!decide (x4.Kind=1))) then (
 some (.inr (.ext 8))
 ) else (
 bnd1 (YBj x4.Clock 1 1073741824) fun (r1:Bool)=>
 bnd1 (gd ((!r1) == false) (YBj x4.Site 0 1000)) fun (r2:Bool)=>
 bnd1 (gd (((!r1) || (!r2)) == false) (YBj x4.Item 1 1073741824)) fun (r3:Bool)=>
 if (((!r1) || (!r2)) || (!r3)) then (
 some (.inr (.ext 2))
 ) else (
 ctl1 (
 if (decide (x4.Kind=0)) then (
 if ((!decide (x4.Name=[])) || (!decide (x4.Value=[]))) then (
 some (.ext (.inr (.ext 4)))
 ) else (
 bnd1 (YBj x4.Parent (-1) 1073741824) fun (r5:Bool)=>
 if (!r5) then (
 some (.ext (.inr (.ext 2)))
 ) else (
 bnd1 (YF5 x4.Place) fun (r6:Bool)=>
 if (!r6) then (
 some (.ext (.inr (.ext 9)))
 ) else (
 some (.nrm ())
 )
 )
 )
 ) else (
 if ((!decide (x4.Parent=0)) || (!decide (x4.Place=[]))) then (
 some (.ext (.inr (.ext 4)))
 ) else (
 bnd1 (YGL x4.Name) fun (r7:Bool)=>
 if (!r7) then (
 some (.ext (.inr (.ext 9)))
 ) else (
 bnd1 (gd ((!decide (x4.Value=[])) == true) (YE7 x4.Value)) fun (r8:Bool)=>
 if ((!decide (x4.Value=[])) && (!r8)) then (
 some (.ext (.inr (.ext 23)))
 ) else (
 some (.nrm ())
 )
 )
 )
 )
 ) fun (u3:Unit)=>
 bnd1 (gd ((decide (0<x2)) == true) (chk .i64 (x2-1))) fun (x5:Int)=>
 bnd1 (gd ((decide (0<x2)) == true) (idx l1 x5)) fun (x6:YAI)=>
 bnd1 (gd ((decide (0<x2)) == true) (YDj x6 x4)) fun (r4:Bool)=>
 if ((decide (0<x2)) && (!r4)) then (
 some (.inr (.ext 5))
 ) else (
 bnd1 (chk .i64 (x2+1)) fun (x7:Int)=>
 some (.inl x7)
 )
 )
 )
 ) else (
 some (.inr (.nrm ()))
 )
noncomputable def YDN (l1:List YAI):Option (Int):=
 ctl1 (iter (fun (a:Int)=>YCC l1 a) 0) fun (u2:Unit)=>
 some 0
noncomputable def YDJ (n1:YAJ):Option (Int):=
 bnd1 (YBj n1.ID 1 1073741824) fun (r1:Bool)=>
 if (!r1) then (
 some 2
 ) else (
 bnd1 (YBj n1.Kind 0 12) fun (r2:Bool)=>
 if (((!r2) || ((decide (n1.ID=1)) && (!decide (n1.Kind=0)))) || ((!decide (n1.ID=1)) && (decide (n1.Kind=0)))) then (
 some 8
 ) else (
 bnd1 (YBh n1.Attrs false) fun (e1:Int)=>
 if (!decide (e1=0)) then (
 some e1
 ) else (
 bnd1 (YDi n1.Kind) fun (r3:Bool)=>
 bnd1 (gd (r3 == false) (YFR n1.Kind)) fun (r4:Bool)=>
 bnd1 (gd (((decide (0<(n1.Flow.length:Int))) && (!(r3 || r4))) == false) (YDu n1.Grid)) fun (r5:Bool)=>
 bnd1 (gd ((((decide (0<(n1.Flow.length:Int))) && (!(r3 || r4))) == false) && ((!r5) == true)) (YCw n1.Kind)) fun (r6:Bool)=>
 bnd1 (gd (((((decide (0<(n1.Flow.length:Int))) && (!(r3 || r4))) || ((!r5) && (!r6))) == false) && ((decide (0<(n1.Draw.length:Int))) == true)) (YFS n1.Kind)) fun (r7:Bool)=>
 if ((((decide (0<(n1.Flow.length:Int))) && (!(r3 || r4))) || ((!r5) && (!r6))) || ((decide (0<(n1.Draw.length:Int))) && (!r7))) then (
 some 4
 ) else (
 if (r3 || r4) then (
 bnd1 (YBc n1.Flow r3) fun (r9:Int)=>
 some r9
 ) else (
 bnd1 (YCw n1.Kind) fun (r10:Bool)=>
 if r10 then (
 bnd1 (YDK n1.Grid) fun (e2:Int)=>
 if (!decide (e2=0)) then (
 some e2
 ) else (
 bnd1 (YDO n1.Kind n1.Grid.Cells) fun (r11:Int)=>
 some r11
 )
 ) else (
 bnd1 (YDN n1.Draw) fun (r12:Int)=>
 some r12
 )
 )
 )
 )
 )
 )
noncomputable def YEB (n1:YAJ) (x5:Int) (out6:List Int):Option ((Int × (List Int)) ⊕ (List Int)):=
 if (decide (x5<(n1.Grid.Cells.length:Int))) then (
 bnd1 (
 bnd1 (idx n1.Grid.Cells x5) fun (x8:YAL)=>
 if (!decide (x8.Ref=0)) then (
 bnd1 (app 8 out6 [x8.Ref]) fun (out10:List Int)=>
 some out10
 ) else (
 some out6
 )
 ) fun (out9:List Int)=>
 bnd1 (chk .i64 (x5+1)) fun (x7:Int)=>
 some (.inl (x7,out9))
 ) else (
 some (.inr out6)
 )
noncomputable def YEC (n1:YAJ) (x2:Int) (out2:List Int):Option ((Int × (List Int)) ⊕ (List Int)):=
 if (decide (x2<(n1.Flow.length:Int))) then (
 bnd1 (
 bnd1 (idx n1.Flow x2) fun (x10:YAN)=>
 if (!decide (x10.Ref=0)) then (
 bnd1 (app 8 out2 [x10.Ref]) fun (out12:List Int)=>
 some out12
 ) else (
 some out2
 )
 ) fun (out11:List Int)=>
 bnd1 (chk .i64 (x2+1)) fun (x9:Int)=>
 some (.inl (x9,out11))
 ) else (
 some (.inr out2)
 )
noncomputable def YE8 (n1:YAJ):Option ((List Int)):=
 bnd1 (iter (fun (a:Int × (List Int))=>YEC n1 a.1 a.2) (0,[])) fun (out4:List Int)=>
 bnd1 (iter (fun (a:Int × (List Int))=>YEB n1 a.1 a.2) (0,out4)) fun (out8:List Int)=>
 some out8
noncomputable def YBX (d1:GDoc) (kind1:Int) (YC8:List Int) (x2:Int):Option (Int ⊕ (Ctl Unit Int)):=
 if (decide (x2<(YC8.length:Int))) then (
 bnd1 (idx YC8 x2) fun (x4:Int)=>
 bnd1 (YED d1 x4) fun (k1:Int)=>
 if (decide (k1<0)) then (
 some (.inr (.ext 7))
 ) else (
 bnd1 (idx d1.Nodes k1) fun (x5:YAJ)=>
 bnd1 (YDI kind1 x5.Kind) fun (r1:Bool)=>
 if (!r1) then (
 some (.inr (.ext 8))
 ) else (
 bnd1 (chk .i64 (x2+1)) fun (x6:Int)=>
 some (.inl x6)
 )
 )
 ) else (
 some (.inr (.nrm ()))
 )
noncomputable def YDH (d1:GDoc) (kind1:Int) (YC8:List Int):Option (Int):=
 ctl1 (iter (fun (a:Int)=>YBX d1 kind1 YC8 a) 0) fun (u2:Unit)=>
 some 0
noncomputable def YBS (d1:GDoc) (x5:Int):Option (Int ⊕ (Ctl Unit Int)):=
 if (decide (x5<(d1.Nodes.length:Int))) then (
 bnd1 (idx d1.Nodes x5) fun (x7:YAJ)=>
 bnd1 (YE8 x7) fun (r1:List Int)=>
 bnd1 (YDH d1 x7.Kind r1) fun (e1:Int)=>
 if (!decide (e1=0)) then (
 some (.inr (.ext e1))
 ) else (
 bnd1 (chk .i64 (x5+1)) fun (x8:Int)=>
 some (.inl x8)
 )
 ) else (
 some (.inr (.nrm ()))
 )
noncomputable def YBp (d1:GDoc) (x2:Int):Option (Int ⊕ (Ctl Unit Int)):=
 if (decide (x2<(d1.Nodes.length:Int))) then (
 bnd1 (idx d1.Nodes x2) fun (x9:YAJ)=>
 bnd1 (YDJ x9) fun (e2:Int)=>
 if (!decide (e2=0)) then (
 some (.inr (.ext e2))
 ) else (
 bnd1 (gd ((decide (x2=0)) == true) (idx d1.Nodes 0)) fun (x10:YAJ)=>
 bnd1 (gd ((((decide (x2=0)) && (!decide (x10.ID=1))) == false) && ((decide (0<x2)) == true)) (chk .i64 (x2-1))) fun (x11:Int)=>
 bnd1 (gd ((((decide (x2=0)) && (!decide (x10.ID=1))) == false) && ((decide (0<x2)) == true)) (idx d1.Nodes x11)) fun (x12:YAJ)=>
 if (((decide (x2=0)) && (!decide (x10.ID=1))) || ((decide (0<x2)) && (decide (x9.ID≤x12.ID)))) then (
 some (.inr (.ext 5))
 ) else (
 bnd1 (chk .i64 (x2+1)) fun (x13:Int)=>
 some (.inl x13)
 )
 )
 ) else (
 some (.inr (.nrm ()))
 )
noncomputable def YBu (d1:GDoc):Option (Int):=
 if (decide ((d1.Nodes.length:Int)=0)) then (
 some 11
 ) else (
 ctl1 (iter (fun (a:Int)=>YBp d1 a) 0) fun (u2:Unit)=>
 ctl1 (iter (fun (a:Int)=>YBS d1 a) 0) fun (u4:Unit)=>
 some 0
 )
end Go.Proofs.YtdafahjmopdleaaGreatDoor.Al


namespace Go.Proofs.YtdafahjmopdleaaGreatDoor.Al
structure GSel where
 Node:Int
 From:Int
 To:Int
deriving DecidableEq
instance:Inhabited GSel:=⟨⟨0,0,0⟩⟩
structure YJe where
 node:YAJ
 shown:List Int
 author:List UInt8
deriving DecidableEq
instance:Inhabited YJe:=⟨⟨(YAJ.mk 0 0 [] [] (YAv.mk 0 0 [] []) []),[],[]⟩⟩
noncomputable def YHr:Option (Bool):=
 some true
noncomputable def YG5:Option (Bool):=
 some true
noncomputable def YD9:Option (Bool):=
 some true
noncomputable def YGF (d1:GDoc) (id1:Int):Option (Int):=
 bnd2 (YGQ d1 id1) fun (r1:Int) (r2:Bool)=>
 if r2 then (
 some r1
 ) else (
 some (-1)
 )
noncomputable def YDy (a1:YAh) (b1:YAh):Option (Bool):=
 bnd1 (YCW a1.Rows b1.Rows) fun (r1:Bool)=>
 bnd1 (gd (r1 == true) (YCW a1.Cols b1.Cols)) fun (r2:Bool)=>
 bnd1 (gd ((r1 && r2) == true) (YCY a1.Cells b1.Cells)) fun (r3:Bool)=>
 bnd1 (gd (((r1 && r2) && r3) == true) (YBz a1.Split b1.Split)) fun (r4:Bool)=>
 bnd1 (gd ((((r1 && r2) && r3) && r4) == true) (YBz a1.Merge b1.Merge)) fun (r5:Bool)=>
 some ((((r1 && r2) && r3) && r4) && r5)
noncomputable def YBI (a1:GOp) (b1:GOp):Option (Bool):=
 bnd1 (gd (((decide (a1.Kind=b1.Kind)) && (decide (a1.Node=b1.Node))) == true) (YCz a1.New b1.New)) fun (r1:Bool)=>
 bnd1 (gd ((((decide (a1.Kind=b1.Kind)) && (decide (a1.Node=b1.Node))) && r1) == true) (YBD a1.Attrs b1.Attrs)) fun (r2:Bool)=>
 bnd1 (gd (((((decide (a1.Kind=b1.Kind)) && (decide (a1.Node=b1.Node))) && r1) && r2) == true) (YCX a1.Steps b1.Steps)) fun (r3:Bool)=>
 bnd1 (gd ((((((decide (a1.Kind=b1.Kind)) && (decide (a1.Node=b1.Node))) && r1) && r2) && r3) == true) (YDy a1.Grid b1.Grid)) fun (r4:Bool)=>
 bnd1 (gd (((((((decide (a1.Kind=b1.Kind)) && (decide (a1.Node=b1.Node))) && r1) && r2) && r3) && r4) == true) (YCO a1.Draw b1.Draw)) fun (r5:Bool)=>
 some (((((((decide (a1.Kind=b1.Kind)) && (decide (a1.Node=b1.Node))) && r1) && r2) && r3) && r4) && r5)
end Go.Proofs.YtdafahjmopdleaaGreatDoor.Al


namespace Go.Proofs.YtdafahjmopdleaaGreatDoor.Al
end Go.Proofs.YtdafahjmopdleaaGreatDoor.Al


namespace Go.Proofs.YtdafahjmopdleaaGreatDoor.Al
noncomputable def YAa (d1:GDoc) (id1:Int):Option (YAJ × Int):=
 bnd1 (YCE d1) fun (e1:Int)=>
 if (!decide (e1=0)) then (
 some ((YAJ.mk 0 0 [] [] (YAv.mk 0 0 [] []) []),e1)
 ) else (
 bnd1 (YGF d1 id1) fun (i1:Int)=>
 if (decide (i1<0)) then (
 some ((YAJ.mk 0 0 [] [] (YAv.mk 0 0 [] []) []),7)
 ) else (
 bnd1 (idx d1.Nodes i1) fun (x1:YAJ)=>
 bnd1 (YCo x1.Kind) fun (r1:Bool)=>
 if (!r1) then (
 some ((YAJ.mk 0 0 [] [] (YAv.mk 0 0 [] []) []),8)
 ) else (
 some (x1,0)
 )
 )
 )
noncomputable def YAU (c1:List YAB) (kind1:Int) (n1:Int):Option ((List YAB)):=
 if (decide (0<n1)) then (
 bnd1 (app 16 c1 [(YAB.mk kind1 n1)]) fun (l1:List YAB)=>
 some l1
 ) else (
 some c1
 )
noncomputable def YBo (size1:Int) (at1:Int) (n1:Int):Option ((List YAB) × Int):=
 bnd1 (gd ((((((decide (n1<(-2147483647))) || (decide (n1=0))) || (decide (at1<0))) || (decide (size1<at1))) == false) && ((decide (n1<0)) == true)) (chk .i64 (-n1))) fun (x1:Int)=>
 bnd1 (gd ((((((decide (n1<(-2147483647))) || (decide (n1=0))) || (decide (at1<0))) || (decide (size1<at1))) == false) && ((decide (n1<0)) == true)) (chk .i64 (size1-at1))) fun (x2:Int)=>
 if (((((decide (n1<(-2147483647))) || (decide (n1=0))) || (decide (at1<0))) || (decide (size1<at1))) || ((decide (n1<0)) && (decide (x2<x1)))) then (
 some ([],2)
 ) else (
 if (decide (1000<n1)) then (
 some ([],3)
 ) else (
 bnd1 (YAU [] 0 at1) fun (w1:List YAB)=>
 bnd1 (YAU w1 1 n1) fun (w2:List YAB)=>
 bnd1 (chk .i64 (-n1)) fun (x3:Int)=>
 bnd1 (YAU w2 2 x3) fun (w3:List YAB)=>
 bnd1 (chk .i64 (size1-at1)) fun (x4:Int)=>
 bnd1 (chk .i64 (x4-(max 0 x3))) fun (x5:Int)=>
 bnd1 (YAU w3 0 x5) fun (w4:List YAB)=>
 bnd1 (YEJ w4) fun (r1:Int)=>
 some (w4,r1)
 )
 )
noncomputable def YBe (d1:GDoc) (id1:Int) (at1:Int) (n1:Int):Option ((List GOp) × Int):=
 bnd2 (YAa d1 id1) fun (r1:YAJ) (r2:Int)=>
 if (!decide (r2=0)) then (
 some ([],r2)
 ) else (
 bnd2 (YBo r1.Grid.Rows at1 n1) fun (r3:List YAB) (r4:Int)=>
 if (!decide (r4=0)) then (
 some ([],r4)
 ) else (
 some ([(GOp.mk 3 id1 (YAJ.mk 0 0 [] [] (YAv.mk 0 0 [] []) []) [] [] (YAh.mk r3 [] [] [] []) [])],0)
 )
 )
noncomputable def YA9 (d1:GDoc) (id1:Int) (at1:Int) (n1:Int):Option ((List GOp) × Int):=
 bnd2 (YAa d1 id1) fun (r1:YAJ) (r2:Int)=>
 if (!decide (r2=0)) then (
 some ([],r2)
 ) else (
 bnd2 (YBo r1.Grid.Cols at1 n1) fun (r3:List YAB) (r4:Int)=>
 if (!decide (r4=0)) then (
 some ([],r4)
 ) else (
 some ([(GOp.mk 3 id1 (YAJ.mk 0 0 [] [] (YAv.mk 0 0 [] []) []) [] [] (YAh.mk [] r3 [] [] []) [])],0)
 )
 )
noncomputable def YDn (d1:GDoc) (site1:Int) (last2:Int) (x2:Int):Option ((Int × Int) ⊕ Int):=
 if (decide (x2<(d1.Nodes.length:Int))) then (
 bnd1 (
 bnd1 (idx d1.Nodes x2) fun (x6:YAJ)=>
 bnd1 (YIW x6.ID) fun (r1:Int)=>
 if (decide (r1=site1)) then (
 some x6.ID
 ) else (
 some last2
 )
 ) fun (last5:Int)=>
 bnd1 (chk .i64 (x2+1)) fun (x5:Int)=>
 some (.inl (last5,x5))
 ) else (
 some (.inr last2)
 )
noncomputable def YFY (d1:GDoc) (site1:Int):Option (Int × Int):=
 bnd1 (YCE d1) fun (e1:Int)=>
 if (!decide (e1=0)) then (
 some (0,e1)
 ) else (
 if ((decide (site1<0)) || (decide (1000<site1))) then (
 some (0,2)
 ) else (
 bnd1 (iter (fun (a:Int × Int)=>YDn d1 site1 a.1 a.2) ((shlC .i64 site1 16),0)) fun (last4:Int)=>
 if (decide ((bAnd .i64 last4 65535)=65535)) then (
 some (0,18)
 ) else (
 bnd1 (chk .i64 (last4+1)) fun (x4:Int)=>
 some (x4,0)
 )
 )
 )
noncomputable def YBO (row1:Int) (col1:Int) (r1:YAJ) (x2:Int):Option (Int ⊕ (Ctl Unit ((List GOp) × Int × Int))):=
 if (decide (x2<(r1.Grid.Cells.length:Int))) then (
 bnd1 (idx r1.Grid.Cells x2) fun (x4:YAL)=>
 if ((decide (x4.Row=row1)) && (decide (x4.Col=col1))) then (
 some (.inr (.ext ([],x4.Ref,0)))
 ) else (
 bnd1 (chk .i64 (x2+1)) fun (x5:Int)=>
 some (.inl x5)
 )
 ) else (
 some (.inr (.nrm ()))
 )
noncomputable def YBf (d1:GDoc) (id1:Int) (row1:Int) (col1:Int) (site1:Int):Option ((List GOp) × Int × Int):=
 bnd2 (YAa d1 id1) fun (r1:YAJ) (r2:Int)=>
 if (!decide (r2=0)) then (
 some ([],0,r2)
 ) else (
 if (!decide (r1.Kind=2)) then (
 some ([],0,8)
 ) else (
 if ((((decide (row1<0)) || (decide (r1.Grid.Rows≤row1))) || (decide (col1<0))) || (decide (r1.Grid.Cols≤col1))) then (
 some ([],0,2)
 ) else (
 ctl1 (iter (fun (a:Int)=>YBO row1 col1 r1 a) 0) fun (u2:Unit)=>
 bnd2 (YFY d1 site1) fun (r3:Int) (r4:Int)=>
 if (!decide (r4=0)) then (
 some ([],0,r4)
 ) else (
 some ([(GOp.mk 0 0 (YAJ.mk r3 3 [] [(YAN.mk 10 0 [])] (YAv.mk 0 0 [] []) []) [] [] (YAh.mk [] [] [] [] []) []),(GOp.mk 3 id1 (YAJ.mk 0 0 [] [] (YAv.mk 0 0 [] []) []) [] [] (YAh.mk [] [] [(YAL.mk row1 col1 [] r3 [])] [] []) [])],r3,0)
 )
 )
 )
 )
noncomputable def YAl (at1:Int) (n1:Int) (x1:Int) (x3:Int) (x5:Int) (want2:List YAB):Option ((Int × (List YAB)) ⊕ (List YAB)):=
 if (decide (x5<4)) then (
 bnd1 (
 bnd1 (idx ([(YAB.mk 0 at1),(YAB.mk 1 n1),(YAB.mk 2 x1),(YAB.mk 0 x3)]:List YAB) x5) fun (x9:YAB)=>
 if (decide (0<x9.N)) then (
 bnd1 (app 16 want2 [x9]) fun (want6:List YAB)=>
 some want6
 ) else (
 some want2
 )
 ) fun (want5:List YAB)=>
 bnd1 (chk .i64 (x5+1)) fun (x8:Int)=>
 some (.inl (x8,want5))
 ) else (
 some (.inr want2)
 )
noncomputable def YDl (c1:List GOp) (e1:Int) (id1:Int) (size1:Int) (at1:Int) (n1:Int) (rows1:Bool):Option (Bool):=
 bnd1 (
 bnd1 (gd ((((((decide (n1=0)) || (decide (n1<(-2147483647)))) || (decide (at1<0))) || (decide (size1<at1))) == false) && ((decide (n1<0)) == true)) (chk .i64 (size1-at1))) fun (x10:Int)=>
 bnd1 (gd ((((((decide (n1=0)) || (decide (n1<(-2147483647)))) || (decide (at1<0))) || (decide (size1<at1))) == false) && ((decide (n1<0)) == true)) (chk .i64 (-n1))) fun (x11:Int)=>
 if (((((decide (n1=0)) || (decide (n1<(-2147483647)))) || (decide (at1<0))) || (decide (size1<at1))) || ((decide (n1<0)) && (decide (x10<x11)))) then (
 some 2
 ) else (
 bnd1 (gd ((decide (1000<n1)) == false) (chk .i64 (size1+n1))) fun (x12:Int)=>
 if ((decide (1000<n1)) || (decide (2147483647<x12))) then (
 some 3
 ) else (
 some 0
 )
 )
 ) fun (f1:Int)=>
 if (!decide (f1=0)) then (
 some ((decide (e1=f1)) && (decide ((c1.length:Int)=0)))
 ) else (
 bnd1 (chk .i64 (-n1)) fun (x1:Int)=>
 bnd1 (chk .i64 (size1-at1)) fun (x2:Int)=>
 bnd1 (chk .i64 (x2-(max 0 x1))) fun (x3:Int)=>
 bnd1 (iter (fun (a:Int × (List YAB))=>YAl at1 n1 x1 x3 a.1 a.2) (0,[])) fun (want4:List YAB)=>
 bnd1 (
 if rows1 then (
 some (GOp.mk 3 id1 (YAJ.mk 0 0 [] [] (YAv.mk 0 0 [] []) []) [] [] (YAh.mk want4 [] [] [] []) [])
 ) else (
 some (GOp.mk 3 id1 (YAJ.mk 0 0 [] [] (YAv.mk 0 0 [] []) []) [] [] (YAh.mk [] want4 [] [] []) [])
 )
 ) fun (o2:GOp)=>
 bnd1 (gd (((decide (e1=0)) && (decide ((c1.length:Int)=1))) == true) (idx c1 0)) fun (x7:GOp)=>
 bnd1 (gd (((decide (e1=0)) && (decide ((c1.length:Int)=1))) == true) (YBI x7 (GOp.mk o2.Kind o2.Node (YAJ.mk o2.New.ID o2.New.Kind [] [] (YAv.mk o2.New.Grid.Rows o2.New.Grid.Cols [] []) []) [] [] (YAh.mk o2.Grid.Rows o2.Grid.Cols [] [] []) []))) fun (r1:Bool)=>
 some (((decide (e1=0)) && (decide ((c1.length:Int)=1))) && r1)
 )
noncomputable def YCZ (m1:YAJ) (row1:Int) (col1:Int) (c1:List GOp) (cell1:Int) (e1:Int) (x2:Int):Option (Int ⊕ (Ctl Unit Bool)):=
 if (decide (x2<(m1.Grid.Cells.length:Int))) then (
 bnd1 (idx m1.Grid.Cells x2) fun (x7:YAL)=>
 if ((decide (x7.Row=row1)) && (decide (x7.Col=col1))) then (
 some (.inr (.ext (((decide (e1=0)) && (decide ((c1.length:Int)=0))) && (decide (cell1=x7.Ref)))))
 ) else (
 bnd1 (chk .i64 (x2+1)) fun (x8:Int)=>
 some (.inl x8)
 )
 ) else (
 some (.inr (.nrm ()))
 )
noncomputable def YCa (d1:GDoc) (m1:YAJ) (row1:Int) (col1:Int) (site1:Int) (c1:List GOp) (cell1:Int) (e1:Int):Option (Bool):=
 bnd1 (
 if (!decide (m1.Kind=2)) then (
 some 8
 ) else (
 bnd1 (chk .i64 (m1.Grid.Rows-1)) fun (x9:Int)=>
 bnd1 (YBj row1 0 x9) fun (r6:Bool)=>
 bnd1 (gd ((!r6) == false) (chk .i64 (m1.Grid.Cols-1))) fun (x10:Int)=>
 bnd1 (gd ((!r6) == false) (YBj col1 0 x10)) fun (r7:Bool)=>
 if ((!r6) || (!r7)) then (
 some 2
 ) else (
 some 0
 )
 )
 ) fun (f1:Int)=>
 if (!decide (f1=0)) then (
 some (((decide (e1=f1)) && (decide ((c1.length:Int)=0))) && (decide (cell1=0)))
 ) else (
 ctl1 (iter (fun (a:Int)=>YCZ m1 row1 col1 c1 cell1 e1 a) 0) fun (u2:Unit)=>
 bnd2 (YFY d1 site1) fun (r1:Int) (r2:Int)=>
 if (!decide (r2=0)) then (
 some (((decide (e1=r2)) && (decide ((c1.length:Int)=0))) && (decide (cell1=0)))
 ) else (
 bnd1 (gd ((((decide (e1=0)) && (decide (cell1=r1))) && (decide ((c1.length:Int)=2))) == true) (idx c1 0)) fun (x4:GOp)=>
 bnd1 (gd ((((decide (e1=0)) && (decide (cell1=r1))) && (decide ((c1.length:Int)=2))) == true) (YNN)) fun (r3:YAN)=>
 bnd1 (gd ((((decide (e1=0)) && (decide (cell1=r1))) && (decide ((c1.length:Int)=2))) == true) (YBI x4 (GOp.mk 0 0 (YAJ.mk r1 3 [] [r3] (YAv.mk 0 0 [] []) []) [] [] (YAh.mk [] [] [] [] []) []))) fun (r4:Bool)=>
 bnd1 (gd (((((decide (e1=0)) && (decide (cell1=r1))) && (decide ((c1.length:Int)=2))) && r4) == true) (idx c1 1)) fun (x5:GOp)=>
 bnd1 (
 if (((((decide (e1=0)) && (decide (cell1=r1))) && (decide ((c1.length:Int)=2))) && r4) == true) then (
 bnd1 (YBI x5 (GOp.mk 3 m1.ID (YAJ.mk 0 0 [] [] (YAv.mk 0 0 [] []) []) [] [] (YAh.mk [] [] [(YAL.mk row1 col1 [] r1 [])] [] []) [])) fun (r5:Bool)=>
 some (((((decide (e1=0)) && (decide (cell1=r1))) && (decide ((c1.length:Int)=2))) && r4) && r5)
 ) else (
 some (((((decide (e1=0)) && (decide (cell1=r1))) && (decide ((c1.length:Int)=2))) && r4) && false)
 )
 ) fun (x6:Bool)=>
 some x6
 )
 )
noncomputable def YBV (d1:GDoc) (id1:Int) (at1:Int) (n1:Int) (site1:Int):Option (Bool):=
 bnd1 (YD9) fun (r1:Bool)=>
 if (!r1) then (
 some false
 ) else (
 bnd2 (YBe d1 id1 at1 n1) fun (r2:List GOp) (r3:Int)=>
 bnd2 (YA9 d1 id1 at1 n1) fun (r4:List GOp) (r5:Int)=>
 bnd3 (YBf d1 id1 at1 n1 site1) fun (r6:List GOp) (r7:Int) (r8:Int)=>
 bnd1 (YBu d1) fun (f1:Int)=>
 bnd1 (gd ((decide (f1=0)) == true) (YED d1 id1)) fun (r9:Int)=>
 bnd1 (
 if ((decide (f1=0)) && (decide (r9<0))) then (
 some 7
 ) else (
 some f1
 )
 ) fun (f2:Int)=>
 bnd1 (gd ((decide (f2=0)) == true) (YED d1 id1)) fun (r10:Int)=>
 bnd1 (gd ((decide (f2=0)) == true) (idx d1.Nodes r10)) fun (x1:YAJ)=>
 bnd1 (gd ((decide (f2=0)) == true) (YCw x1.Kind)) fun (r11:Bool)=>
 bnd1 (
 if ((decide (f2=0)) && (!r11)) then (
 some 8
 ) else (
 some f2
 )
 ) fun (f3:Int)=>
 if (!decide (f3=0)) then (
 bnd1 (gd ((((decide (r3=f3)) && (decide (r5=f3))) && (decide (r8=f3))) == true) (chk .i64 ((r2.length:Int)+(r4.length:Int)))) fun (x2:Int)=>
 bnd1 (gd ((((decide (r3=f3)) && (decide (r5=f3))) && (decide (r8=f3))) == true) (chk .i64 (x2+(r6.length:Int)))) fun (x3:Int)=>
 some (((((decide (r3=f3)) && (decide (r5=f3))) && (decide (r8=f3))) && (decide (x3=0))) && (decide (r7=0)))
 ) else (
 bnd1 (YED d1 id1) fun (r12:Int)=>
 bnd1 (idx d1.Nodes r12) fun (x4:YAJ)=>
 bnd1 (YDl r2 r3 id1 x4.Grid.Rows at1 n1 true) fun (r13:Bool)=>
 bnd1 (gd (r13 == true) (YDl r4 r5 id1 x4.Grid.Cols at1 n1 false)) fun (r14:Bool)=>
 bnd1 (gd ((r13 && r14) == true) (YCa d1 x4 at1 n1 site1 r6 r7 r8)) fun (r15:Bool)=>
 some ((r13 && r14) && r15)
 )
 )
end Go.Proofs.YtdafahjmopdleaaGreatDoor.Al

