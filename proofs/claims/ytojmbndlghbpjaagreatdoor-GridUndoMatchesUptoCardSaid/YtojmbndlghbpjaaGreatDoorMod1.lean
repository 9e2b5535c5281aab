/- Models, as printed. -/
import Derived.Test.YtojmbndlghbpjaaGreatDoorAl2
set_option linter.all false
namespace Go.Proofs.YtojmbndlghbpjaaGreatDoor.Al
structure AG where
 Kind:Int
 N:Int
deriving DecidableEq
instance:Inhabited AG:=⟨⟨0,0⟩⟩
@[reducible] def AG.row (x:AG):List RV:=[.int .i64 x.Kind,.int .i64 x.N]
structure U4 where
 steps:List AG
 used:Int
deriving DecidableEq
instance:Inhabited U4:=⟨⟨[],0⟩⟩
structure Ar where
 out:List AG
 add:Int
 cut:Int
deriving DecidableEq
instance:Inhabited Ar:=⟨⟨[],0,0⟩⟩
structure Ak where
 Name:List UInt8
 Value:List UInt8
deriving DecidableEq
instance:Inhabited Ak:=⟨⟨[],[]⟩⟩
@[reducible] def Ak.row (x:Ak):List RV:=[.str x.Name,.str x.Value]
structure D9 where
 Char:Int
 Ref:Int
 Attrs:List Ak
deriving DecidableEq
instance:Inhabited D9:=⟨⟨0,0,[]⟩⟩
structure AC where
 Row:Int
 Col:Int
 Text:List UInt8
 Ref:Int
 Attrs:List Ak
deriving DecidableEq
instance:Inhabited AC:=⟨⟨0,0,[],0,[]⟩⟩
@[reducible] def AC.row (x:AC):List RV:=[.int .i64 x.Row,.int .i64 x.Col,.str x.Text,.int .i64 x.Ref,.sl (x.Attrs.map Ak.row)]
structure AD where
 Row:Int
 Col:Int
 H:Int
 W:Int
deriving DecidableEq
instance:Inhabited AD:=⟨⟨0,0,0,0⟩⟩
@[reducible] def AD.row (x:AD):List RV:=[.int .i64 x.Row,.int .i64 x.Col,.int .i64 x.H,.int .i64 x.W]
structure AJ where
 Rows:Int
 Cols:Int
 Cells:List AC
 Merges:List AD
deriving DecidableEq
instance:Inhabited AJ:=⟨⟨0,0,[],[]⟩⟩
@[reducible] def AJ.row (x:AJ):List RV:=[.int .i64 x.Rows,.int .i64 x.Cols,.sl (x.Cells.map AC.row),.sl (x.Merges.map AD.row)]
structure KT where
 Clock:Int
 Site:Int
 Kind:Int
 Item:Int
 Parent:Int
 Place:List UInt8
 Name:List UInt8
 Value:List UInt8
deriving DecidableEq
instance:Inhabited KT:=⟨⟨0,0,0,0,0,[],[],[]⟩⟩
structure Mw where
 ID:Int
 Kind:Int
 Attrs:List Ak
 Flow:List D9
 Grid:AJ
 Draw:List KT
deriving DecidableEq
instance:Inhabited Mw:=⟨⟨0,0,[],[],(AJ.mk 0 0 [] []),[]⟩⟩
structure GStep where
 Kind:Int
 N:Int
 Attrs:List Ak
 Elems:List D9
deriving DecidableEq
instance:Inhabited GStep:=⟨⟨0,0,[],[]⟩⟩
structure AK where
 Rows:List AG
 Cols:List AG
 Cells:List AC
 Split:List AD
 Merge:List AD
deriving DecidableEq
instance:Inhabited AK:=⟨⟨[],[],[],[],[]⟩⟩
@[reducible] def AK.row (x:AK):List RV:=[.sl (x.Rows.map AG.row),.sl (x.Cols.map AG.row),.sl (x.Cells.map AC.row),.sl (x.Split.map AD.row),.sl (x.Merge.map AD.row)]
structure SX where
 Kind:Int
 Node:Int
 New:Mw
 Attrs:List Ak
 Steps:List GStep
 Grid:AK
 Draw:List KT
deriving DecidableEq
instance:Inhabited SX:=⟨⟨0,0,(Mw.mk 0 0 [] [] (AJ.mk 0 0 [] []) []),[],[],(AK.mk [] [] [] [] []),[]⟩⟩
structure YN where
 Site:Int
 Number:Int
 Change:List SX
 Undoes:Int
 Refused:Int
deriving DecidableEq
instance:Inhabited YN:=⟨⟨0,0,[],0,0⟩⟩
structure Mi where
 From:Int
 To:Int
deriving DecidableEq
instance:Inhabited Mi:=⟨⟨0,0⟩⟩
noncomputable def Ck (x1:Int) (low1:Int) (high1:Int):Option (Bool):=
 some ((decide (low1≤x1)) && (decide (x1≤high1)))
noncomputable def JZ (a1:List AG) (before2:Int) (after2:Int) (x2:Int):Option ((Int × Int × Int) ⊕ (Ao (Int × Int) Int)):=
 if (decide (x2<(a1.length:Int))) then (
 FD (
 AB (AO a1 x2) fun (x5:AG)=>
 if ((decide (x5.Kind<0)) || (decide (2<x5.Kind))) then (
 some (.ext (.inr (.ext 8)))
 ) else (
 if ((decide (x5.N<1)) || (decide (2147483647<x5.N))) then (
 some (.ext (.inr (.ext 2)))
 ) else (
 AB (gd ((decide (0<x2)) == true) (AM .i64 (x2-1))) fun (x6:Int)=>
 AB (gd ((decide (0<x2)) == true) (AO a1 x6)) fun (x7:AG)=>
 if ((decide (0<x2)) && ((decide (x7.Kind=x5.Kind)) || ((decide (x7.Kind=2)) && (decide (x5.Kind=1))))) then (
 some (.ext (.inr (.ext 5)))
 ) else (
 AB (
 if (!decide (x5.Kind=1)) then (
 AB (AM .i64 (before2+x5.N)) fun (x9:Int)=>
 some (min x9 2147483648)
 ) else (
 some before2
 )
 ) fun (before6:Int)=>
 if (!decide (x5.Kind=2)) then (
 AB (AM .i64 (after2+x5.N)) fun (x8:Int)=>
 some (.nrm (before6,(min x8 2147483648)))
 ) else (
 some (.nrm (before6,after2))
 )
 )
 )
 )
 ) fun (before5:Int) (after5:Int)=>
 AB (AM .i64 (x2+1)) fun (x4:Int)=>
 some (.inl (before5,after5,x4))
 ) else (
 some (.inr (.nrm (before2,after2)))
 )
noncomputable def Gf (a1:List AG):Option (Int):=
 FD (iter (fun (a:Int × Int × Int)=>JZ a1 a.1 a.2.1 a.2.2) (0,0,0)) fun (before4:Int) (after4:Int)=>
 if ((decide (2147483647<before4)) || (decide (2147483647<after4))) then (
 some 3
 ) else (
 some 0
 )
noncomputable def Jg (a1:List AG) (before2:Int) (after2:Int) (x2:Int):Option ((Int × Int × Int) ⊕ (Int × Int)):=
 if (decide (x2<(a1.length:Int))) then (
 Az (
 AB (AO a1 x2) fun (x5:AG)=>
 AB (
 if (!decide (x5.Kind=1)) then (
 AB (AM .i64 (before2+x5.N)) fun (before7:Int)=>
 some before7
 ) else (
 some before2
 )
 ) fun (before6:Int)=>
 if (!decide (x5.Kind=2)) then (
 AB (AM .i64 (after2+x5.N)) fun (after6:Int)=>
 some (before6,after6)
 ) else (
 some (before6,after2)
 )
 ) fun (before5:Int) (after5:Int)=>
 AB (AM .i64 (x2+1)) fun (x4:Int)=>
 some (.inl (before5,after5,x4))
 ) else (
 some (.inr (before2,after2))
 )
noncomputable def Ij (a1:List AG):Option (Int × Int):=
 Az (iter (fun (a:Int × Int × Int)=>Jg a1 a.1 a.2.1 a.2.2) (0,0,0)) fun (before4:Int) (after4:Int)=>
 some (before4,after4)
noncomputable def Ix (a1:List AG) (p1:Int) (from2:Int) (to2:Int) (x2:Int):Option ((Int × Int × Int) ⊕ (Ao Unit Int)):=
 if (decide (x2<(a1.length:Int))) then (
 FD (
 AB (AO a1 x2) fun (x5:AG)=>
 Ay (
 if (decide (x5.Kind=1)) then (
 AB (AM .i64 (to2+x5.N)) fun (to6:Int)=>
 some (.ext (.nrm (from2,to6)))
 ) else (
 if (decide (x5.Kind=0)) then (
 AB (AM .i64 (from2+x5.N)) fun (x6:Int)=>
 if (decide (p1<x6)) then (
 AB (AM .i64 (to2+p1)) fun (x7:Int)=>
 AB (AM .i64 (x7-from2)) fun (x8:Int)=>
 some (.ext (.ext (.inr (.ext x8))))
 ) else (
 AB (AM .i64 (to2+x5.N)) fun (to7:Int)=>
 some (.nrm to7)
 )
 ) else (
 AB (AM .i64 (from2+x5.N)) fun (x9:Int)=>
 if (decide (p1<x9)) then (
 some (.ext (.ext (.inr (.ext (-1)))))
 ) else (
 some (.nrm to2)
 )
 )
 )
 ) fun (to5:Int)=>
 AB (AM .i64 (from2+x5.N)) fun (from5:Int)=>
 some (.nrm (from5,to5))
 ) fun (from4:Int) (to4:Int)=>
 AB (AM .i64 (x2+1)) fun (x4:Int)=>
 some (.inl (from4,to4,x4))
 ) else (
 some (.inr (.nrm ()))
 )
noncomputable def LX (a1:List AG) (p1:Int):Option (Int):=
 Ay (iter (fun (a:Int × Int × Int)=>Ix a1 p1 a.1 a.2.1 a.2.2) (0,0,0)) fun (u2:Unit)=>
 some (-1)
noncomputable def JL (a1:List AG) (places1:List Int) (r1:Int) (x2:Int) (out2:List Int):Option ((Int × (List Int)) ⊕ (Ao (List Int) ((List Int) × Int))):=
 if (decide (x2<(places1.length:Int))) then (
 AB (AO places1 x2) fun (x4:Int)=>
 if ((decide (x4<0)) || (decide (r1≤x4))) then (
 some (.inr (.ext ([],2)))
 ) else (
 AB (LX a1 x4) fun (r3:Int)=>
 AB (A9 8 out2 [r3]) fun (out5:List Int)=>
 AB (AM .i64 (x2+1)) fun (x5:Int)=>
 some (.inl (x5,out5))
 )
 ) else (
 some (.inr (.nrm out2))
 )
noncomputable def E4 (a1:List AG) (places1:List Int):Option ((List Int) × Int):=
 AB (Gf a1) fun (e1:Int)=>
 if (!decide (e1=0)) then (
 some ([],e1)
 ) else (
 Az (Ij a1) fun (r1:Int) (r2:Int)=>
 Ay (iter (fun (a:Int × (List Int))=>JL a1 places1 r1 a.1 a.2) (0,[])) fun (out4:List Int)=>
 some (out4,0)
 )
noncomputable def JK (a1:List AG) (old2:Int) (now2:Int) (x2:Int):Option ((Int × Int × Int) ⊕ (Ao (Int × Int) Int)):=
 if (decide (x2<(a1.length:Int))) then (
 FD (
 AB (AO a1 x2) fun (x5:AG)=>
 AB (Ck x5.Kind 0 2) fun (r1:Bool)=>
 if (!r1) then (
 some (.ext (.inr (.ext 8)))
 ) else (
 AB (Ck x5.N 1 2147483647) fun (r2:Bool)=>
 if (!r2) then (
 some (.ext (.inr (.ext 2)))
 ) else (
 AB (gd ((decide (0<x2)) == true) (AM .i64 (x2-1))) fun (x6:Int)=>
 AB (gd ((decide (0<x2)) == true) (AO a1 x6)) fun (x7:AG)=>
 AB (gd ((((decide (0<x2)) == true) && ((decide (x5.Kind=x7.Kind)) == false)) && ((decide (x5.Kind=1)) == true)) (AM .i64 (x2-1))) fun (x8:Int)=>
 AB (gd ((((decide (0<x2)) == true) && ((decide (x5.Kind=x7.Kind)) == false)) && ((decide (x5.Kind=1)) == true)) (AO a1 x8)) fun (x9:AG)=>
 if ((decide (0<x2)) && ((decide (x5.Kind=x7.Kind)) || ((decide (x5.Kind=1)) && (decide (x9.Kind=2))))) then (
 some (.ext (.inr (.ext 5)))
 ) else (
 AB (
 if ((!decide (x5.Kind=1)) && (decide (old2<2147483648))) then (
 AB (AM .i64 (old2+x5.N)) fun (old7:Int)=>
 some old7
 ) else (
 some old2
 )
 ) fun (old6:Int)=>
 if ((!decide (x5.Kind=2)) && (decide (now2<2147483648))) then (
 AB (AM .i64 (now2+x5.N)) fun (now6:Int)=>
 some (.nrm (old6,now6))
 ) else (
 some (.nrm (old6,now2))
 )
 )
 )
 )
 ) fun (old5:Int) (now5:Int)=>
 AB (AM .i64 (x2+1)) fun (x4:Int)=>
 some (.inl (old5,now5,x4))
 ) else (
 some (.inr (.nrm (old2,now2)))
 )
noncomputable def Je (a1:List AG):Option (Int):=
 FD (iter (fun (a:Int × Int × Int)=>JK a1 a.1 a.2.1 a.2.2) (0,0,0)) fun (old4:Int) (now4:Int)=>
 if ((decide (2147483647<old4)) || (decide (2147483647<now4))) then (
 some 3
 ) else (
 some 0
 )
noncomputable def It (a1:List AG) (n2:Int) (x2:Int):Option ((Int × Int) ⊕ Int):=
 if (decide (x2<(a1.length:Int))) then (
 AB (AO a1 x2) fun (x4:AG)=>
 AB (AM .i64 (n2+x4.N)) fun (n5:Int)=>
 AB (AM .i64 (x2+1)) fun (x5:Int)=>
 some (.inl (n5,x5))
 ) else (
 some (.inr n2)
 )
noncomputable def JY (a1:List AG):Option (Int):=
 AB (iter (fun (a:Int × Int)=>It a1 a.1 a.2) (0,0)) fun (n4:Int)=>
 some n4
noncomputable def Fa (x4:AG) (x6:Int) (out6:List Int):Option ((Int × (List Int)) ⊕ (List Int)):=
 if (decide (x6<x4.N)) then (
 AB (A9 8 out6 [x4.Kind]) fun (out9:List Int)=>
 AB (AM .i64 (x6+1)) fun (x9:Int)=>
 some (.inl (x9,out9))
 ) else (
 some (.inr out6)
 )
noncomputable def Ep (a1:List AG) (x2:Int) (out2:List Int):Option ((Int × (List Int)) ⊕ (List Int)):=
 if (decide (x2<(a1.length:Int))) then (
 AB (AO a1 x2) fun (x4:AG)=>
 AB (iter (fun (a:Int × (List Int))=>Fa x4 a.1 a.2) (0,out2)) fun (out8:List Int)=>
 AB (AM .i64 (x2+1)) fun (x8:Int)=>
 some (.inl (x8,out8))
 ) else (
 some (.inr out2)
 )
noncomputable def HO (a1:List AG):Option ((List Int)):=
 AB (iter (fun (a:Int × (List Int))=>Ep a1 a.1 a.2) (0,[])) fun (out4:List Int)=>
 some out4
noncomputable def I0 (units1:List Int) (old2:Int) (x2:Int) (rows2:List Int) (ahead2:List Int):Option ((Int × Int × (List Int) × (List Int)) ⊕ ((List Int) × (List Int))):=
 if (decide (x2<(units1.length:Int))) then (
 Fw (
 AB (AO units1 x2) fun (x5:Int)=>
 if (decide (x5=0)) then (
 AB (A9 8 rows2 [old2]) fun (rows6:List Int)=>
 AB (A9 8 ahead2 [old2]) fun (ahead6:List Int)=>
 AB (AM .i64 (old2+1)) fun (old5:Int)=>
 some (old5,rows6,ahead6)
 ) else (
 if (decide (x5=1)) then (
 AB (A9 8 rows2 [(-1)]) fun (rows7:List Int)=>
 AB (A9 8 ahead2 [old2]) fun (ahead7:List Int)=>
 some (old2,rows7,ahead7)
 ) else (
 AB (AM .i64 (old2+1)) fun (old6:Int)=>
 some (old6,rows2,ahead2)
 )
 )
 ) fun (old4:Int) (rows5:List Int) (ahead5:List Int)=>
 AB (AM .i64 (x2+1)) fun (x4:Int)=>
 some (.inl (old4,x4,rows5,ahead5))
 ) else (
 some (.inr (rows2,ahead2))
 )
noncomputable def IH (units1:List Int):Option ((List Int) × (List Int)):=
 Az (iter (fun (a:Int × Int × (List Int) × (List Int))=>I0 units1 a.1 a.2.1 a.2.2.1 a.2.2.2) (0,0,[],[])) fun (rows4:List Int) (ahead4:List Int)=>
 some (rows4,ahead4)
noncomputable def IQ (row1:Int) (r1:List Int) (x2:Int):Option (Int ⊕ (Ao Unit Int)):=
 if (decide (x2<(r1.length:Int))) then (
 AB (AO r1 x2) fun (x4:Int)=>
 if (decide (x4=row1)) then (
 some (.inr (.ext x2))
 ) else (
 AB (AM .i64 (x2+1)) fun (x5:Int)=>
 some (.inl x5)
 )
 ) else (
 some (.inr (.nrm ()))
 )
noncomputable def Lt (units1:List Int) (row1:Int):Option (Int):=
 Az (IH units1) fun (r1:List Int) (r2:List Int)=>
 Ay (iter (fun (a:Int)=>IQ row1 r1 a) 0) fun (u2:Unit)=>
 some (-1)
noncomputable def JA (s1:List UInt8) (x2:Int):Option (Int ⊕ (Ao Unit Bool)):=
 if (decide (x2<(s1.length:Int))) then (
 AB (AO s1 x2) fun (c1:UInt8)=>
 if (((((decide ((c1.toNat:Int)<97)) || (decide (122<(c1.toNat:Int)))) && ((decide ((c1.toNat:Int)<48)) || (decide (57<(c1.toNat:Int))))) && (!decide ((c1.toNat:Int)=46))) && (!decide ((c1.toNat:Int)=45))) then (
 some (.inr (.ext false))
 ) else (
 AB (AM .i64 (x2+1)) fun (x4:Int)=>
 some (.inl x4)
 )
 ) else (
 some (.inr (.nrm ()))
 )
noncomputable def KP (s1:List UInt8):Option (Bool):=
 AB (gd (((decide (s1=[])) || (decide (24<(s1.length:Int)))) == false) (AO s1 0)) fun (ch1:UInt8)=>
 AB (gd ((((decide (s1=[])) || (decide (24<(s1.length:Int)))) || (decide ((ch1.toNat:Int)<97))) == false) (AO s1 0)) fun (ch2:UInt8)=>
 if ((((decide (s1=[])) || (decide (24<(s1.length:Int)))) || (decide ((ch1.toNat:Int)<97))) || (decide (122<(ch2.toNat:Int)))) then (
 some false
 ) else (
 Ay (iter (fun (a:Int)=>JA s1 a) 0) fun (u2:Unit)=>
 some true
 )
noncomputable def KZ (s1:List UInt8) (x2:Int):Option (Int ⊕ (Ao Unit Bool)):=
 if (decide (x2<(s1.length:Int))) then (
 AB (AO s1 x2) fun (ch1:UInt8)=>
 if ((decide ((ch1.toNat:Int)<32)) || (decide (126<(ch1.toNat:Int)))) then (
 some (.inr (.ext false))
 ) else (
 AB (AM .i64 (x2+1)) fun (x4:Int)=>
 some (.inl x4)
 )
 ) else (
 some (.inr (.nrm ()))
 )
noncomputable def KI (s1:List UInt8):Option (Bool):=
 if ((decide (s1=[])) || (decide (200<(s1.length:Int)))) then (
 some false
 ) else (
 Ay (iter (fun (a:Int)=>KZ s1 a) 0) fun (u2:Unit)=>
 some true
 )
noncomputable def JH (l1:List Ak) (empty1:Bool) (x2:Int):Option (Int ⊕ (Ao Unit Int)):=
 if (decide (x2<(l1.length:Int))) then (
 AB (AO l1 x2) fun (x4:Ak)=>
 AB (KP x4.Name) fun (r1:Bool)=>
 if (!r1) then (
 some (.inr (.ext 9))
 ) else (
 AB (KI x4.Value) fun (r2:Bool)=>
 if ((!r2) && (!(empty1 && (decide (x4.Value=[]))))) then (
 some (.inr (.ext 23))
 ) else (
 AB (gd ((decide (0<x2)) == true) (AM .i64 (x2-1))) fun (x5:Int)=>
 AB (gd ((decide (0<x2)) == true) (AO l1 x5)) fun (x6:Ak)=>
 if ((decide (0<x2)) && (CR x4.Name x6.Name || decide (x4.Name=x6.Name))) then (
 some (.inr (.ext 5))
 ) else (
 AB (AM .i64 (x2+1)) fun (x7:Int)=>
 some (.inl x7)
 )
 )
 )
 ) else (
 some (.inr (.nrm ()))
 )
noncomputable def LA (l1:List Ak) (empty1:Bool):Option (Int):=
 Ay (iter (fun (a:Int)=>JH l1 empty1 a) 0) fun (u2:Unit)=>
 some 0
noncomputable def Jz (l1:List Ak):Option (Int):=
 AB (LA l1 false) fun (r1:Int)=>
 some r1
noncomputable def LT (a1:List Ak) (b1:List Ak) (x2:Int):Option (Int ⊕ (Ao Unit Bool)):=
 if (decide (x2<(a1.length:Int))) then (
 AB (AO a1 x2) fun (x4:Ak)=>
 AB (AO b1 x2) fun (x5:Ak)=>
 if (!(decide (x4.Name=x5.Name) && (decide (x4.Value=x5.Value) && true))) then (
 some (.inr (.ext false))
 ) else (
 AB (AM .i64 (x2+1)) fun (x6:Int)=>
 some (.inl x6)
 )
 ) else (
 some (.inr (.nrm ()))
 )
noncomputable def KS (a1:List Ak) (b1:List Ak):Option (Bool):=
 if (!decide ((a1.length:Int)=(b1.length:Int))) then (
 some false
 ) else (
 Ay (iter (fun (a:Int)=>LT a1 b1 a) 0) fun (u2:Unit)=>
 some true
 )
noncomputable def Ja (s1:List UInt8) (x2:Int):Option (Int ⊕ (Ao Unit Bool)):=
 if (decide (x2<(s1.length:Int))) then (
 AB (AO s1 x2) fun (ch1:UInt8)=>
 if ((!((decide (97≤(ch1.toNat:Int))) && (decide ((ch1.toNat:Int)≤122)))) && ((decide (x2=0)) || (((!decide ((ch1.toNat:Int)=46)) && (!decide ((ch1.toNat:Int)=45))) && ((decide ((ch1.toNat:Int)<48)) || (decide (57<(ch1.toNat:Int))))))) then (
 some (.inr (.ext false))
 ) else (
 AB (AM .i64 (x2+1)) fun (x4:Int)=>
 some (.inl x4)
 )
 ) else (
 some (.inr (.nrm ()))
 )
noncomputable def LD (s1:List UInt8):Option (Bool):=
 Ay (iter (fun (a:Int)=>Ja s1 a) 0) fun (u2:Unit)=>
 some ((decide (1≤(s1.length:Int))) && (decide ((s1.length:Int)≤24)))
noncomputable def Ko (s1:List UInt8) (x2:Int):Option (Int ⊕ (Ao Unit Bool)):=
 if (decide (x2<(s1.length:Int))) then (
 AB (AO s1 x2) fun (ch1:UInt8)=>
 if ((decide ((ch1.toNat:Int)<32)) || (decide (126<(ch1.toNat:Int)))) then (
 some (.inr (.ext false))
 ) else (
 AB (AM .i64 (x2+1)) fun (x4:Int)=>
 some (.inl x4)
 )
 ) else (
 some (.inr (.nrm ()))
 )
noncomputable def LY (s1:List UInt8):Option (Bool):=
 Ay (iter (fun (a:Int)=>Ko s1 a) 0) fun (u2:Unit)=>
 some ((decide (1≤(s1.length:Int))) && (decide ((s1.length:Int)≤200)))
noncomputable def Iv (l1:List Ak) (change1:Bool) (x2:Int):Option (Int ⊕ (Ao Unit Int)):=
 if (decide (x2<(l1.length:Int))) then (
 AB (AO l1 x2) fun (x4:Ak)=>
 AB (LD x4.Name) fun (r1:Bool)=>
 if (!r1) then (
 some (.inr (.ext 9))
 ) else (
 AB (LY x4.Value) fun (r2:Bool)=>
 if ((!r2) && ((!decide (x4.Value=[])) || (!change1))) then (
 some (.inr (.ext 23))
 ) else (
 AB (gd ((decide (0<x2)) == true) (AM .i64 (x2-1))) fun (x5:Int)=>
 AB (gd ((decide (0<x2)) == true) (AO l1 x5)) fun (x6:Ak)=>
 if ((decide (0<x2)) && (!CR x6.Name x4.Name)) then (
 some (.inr (.ext 5))
 ) else (
 AB (AM .i64 (x2+1)) fun (x7:Int)=>
 some (.inl x7)
 )
 )
 )
 ) else (
 some (.inr (.nrm ()))
 )
noncomputable def LZ (l1:List Ak) (change1:Bool):Option (Int):=
 Ay (iter (fun (a:Int)=>Iv l1 change1 a) 0) fun (u2:Unit)=>
 some 0
noncomputable def KR (c1:Int):Option (Bool):=
 some (((((decide (c1=9)) || (decide (c1=10))) || ((decide (32≤c1)) && (decide (c1<127)))) || ((decide (160≤c1)) && (decide (c1<55296)))) || ((decide (57343<c1)) && (decide (c1≤1114111))))
noncomputable def Lr (c1:Int):Option (Bool):=
 AB (gd (((decide (c1=9)) || (decide (c1=10))) == false) (Ck c1 32 126)) fun (r1:Bool)=>
 AB (gd ((((decide (c1=9)) || (decide (c1=10))) || r1) == false) (Ck c1 160 55295)) fun (r2:Bool)=>
 AB (gd (((((decide (c1=9)) || (decide (c1=10))) || r1) || r2) == false) (Ck c1 57344 1114111)) fun (r3:Bool)=>
 some (((((decide (c1=9)) || (decide (c1=10))) || r1) || r2) || r3)
noncomputable def Kq (a1:List Ak) (b1:List Ak) (x2:Int):Option (Int ⊕ (Ao Unit Bool)):=
 if (decide (x2<(a1.length:Int))) then (
 AB (AO a1 x2) fun (x4:Ak)=>
 AB (AO b1 x2) fun (x5:Ak)=>
 if (!(decide (x4.Name=x5.Name) && (decide (x4.Value=x5.Value) && true))) then (
 some (.inr (.ext false))
 ) else (
 AB (AM .i64 (x2+1)) fun (x6:Int)=>
 some (.inl x6)
 )
 ) else (
 some (.inr (.nrm ()))
 )
noncomputable def Ld (a1:List Ak) (b1:List Ak):Option (Bool):=
 if (!decide ((a1.length:Int)=(b1.length:Int))) then (
 some false
 ) else (
 Ay (iter (fun (a:Int)=>Kq a1 b1 a) 0) fun (u2:Unit)=>
 some true
 )
noncomputable def Lf (a1:List AG):Option (Int × Int × Int):=
 AB (Gf a1) fun (e1:Int)=>
 if (!decide (e1=0)) then (
 some (0,0,e1)
 ) else (
 Az (Ij a1) fun (r1:Int) (r2:Int)=>
 some (r1,r2,0)
 )
noncomputable def Ii (w1:Ar):Option (Ar):=
 AB (
 if (decide (0<w1.add)) then (
 AB (A9 16 w1.out [(AG.mk 1 w1.add)]) fun (l2:List AG)=>
 some (Ar.mk l2 w1.add w1.cut)
 ) else (
 some w1
 )
 ) fun (w2:Ar)=>
 AB (
 if (decide (0<w2.cut)) then (
 AB (A9 16 w2.out [(AG.mk 2 w2.cut)]) fun (l1:List AG)=>
 some (Ar.mk l1 w2.add w2.cut)
 ) else (
 some w2
 )
 ) fun (w3:Ar)=>
 some (Ar.mk w3.out 0 0)
noncomputable def JC (w1:Ar) (kind1:Int) (n1:Int):Option (Ar):=
 if (decide (n1=0)) then (
 some w1
 ) else (
 if (decide (kind1=1)) then (
 AB (AM .i64 (w1.add+n1)) fun (x1:Int)=>
 some (Ar.mk w1.out x1 w1.cut)
 ) else (
 if (decide (kind1=2)) then (
 AB (AM .i64 (w1.cut+n1)) fun (x2:Int)=>
 some (Ar.mk w1.out w1.add x2)
 ) else (
 AB (Ii w1) fun (w2:Ar)=>
 AB (AM .i64 ((w2.out.length:Int)-1)) fun (k1:Int)=>
 AB (gd ((decide (0≤k1)) == true) (AO w2.out k1)) fun (x3:AG)=>
 if ((decide (0≤k1)) && (decide (x3.Kind=0))) then (
 AB (AO w2.out k1) fun (x4:AG)=>
 AB (AM .i64 (x4.N+n1)) fun (x5:Int)=>
 some (Ar.mk (w2.out.set k1.toNat (AG.mk x4.Kind x5)) w2.add w2.cut)
 ) else (
 AB (A9 16 w2.out [(AG.mk 0 n1)]) fun (l1:List AG)=>
 some (Ar.mk l1 w2.add w2.cut)
 )
 )
 )
 )
noncomputable def LN (w1:Ar):Option ((List AG) × Int × Ar):=
 AB (Ii w1) fun (w2:Ar)=>
 AB (Gf w2.out) fun (r1:Int)=>
 if (!decide (r1=0)) then (
 some ([],3,w2)
 ) else (
 some (w2.out,0,w2)
 )
noncomputable def Iy (a1:List AG) (from1:Int) (to1:Int) (first2:Int) (last2:Int) (old2:Int) (now2:Int) (x2:Int):Option ((Int × Int × Int × Int × Int) ⊕ (Int × Int)):=
 if (decide (x2<(a1.length:Int))) then (
 MU (
 AB (AO a1 x2) fun (x5:AG)=>
 AB (AM .i64 (old2+x5.N)) fun (x6:Int)=>
 Az (
 if ((decide (x5.Kind=0)) && (decide ((max from1 old2)<(min to1 x6)))) then (
 AB (
 if (decide (last2=0)) then (
 AB (AM .i64 (now2+(max from1 old2))) fun (x8:Int)=>
 AB (AM .i64 (x8-old2)) fun (first8:Int)=>
 some first8
 ) else (
 some first2
 )
 ) fun (first7:Int)=>
 AB (AM .i64 (now2+(min to1 x6))) fun (x7:Int)=>
 AB (AM .i64 (x7-old2)) fun (last7:Int)=>
 some (first7,last7)
 ) else (
 some (first2,last2)
 )
 ) fun (first6:Int) (last6:Int)=>
 AB (
 if (!decide (x5.Kind=2)) then (
 AB (AM .i64 (now2+x5.N)) fun (now6:Int)=>
 some now6
 ) else (
 some now2
 )
 ) fun (now5:Int)=>
 if (!decide (x5.Kind=1)) then (
 some (first6,last6,x6,now5)
 ) else (
 some (first6,last6,old2,now5)
 )
 ) fun (first5:Int) (last5:Int) (old4:Int) (now4:Int)=>
 AB (AM .i64 (x2+1)) fun (x4:Int)=>
 some (.inl (first5,last5,old4,now4,x4))
 ) else (
 some (.inr (first2,last2))
 )
noncomputable def E8 (a1:List AG) (from1:Int) (to1:Int):Option (Int × Int):=
 Az (iter (fun (a:Int × Int × Int × Int × Int)=>Iy a1 from1 to1 a.1 a.2.1 a.2.2.1 a.2.2.2.1 a.2.2.2.2) (0,0,0,0,0)) fun (first4:Int) (last4:Int)=>
 some (first4,last4)
noncomputable def Jc (units1:List Int) (from1:Int) (low2:Int) (high2:Int) (row3:Int):Option ((Int × Int × Int) ⊕ (Int × Int)):=
 if (decide (from1≤row3)) then (
 Az (
 AB (Lt units1 row3) fun (k1:Int)=>
 if (decide (0≤k1)) then (
 if (decide (high2=0)) then (
 AB (AM .i64 (k1+1)) fun (high6:Int)=>
 some (k1,high6)
 ) else (
 some (k1,high2)
 )
 ) else (
 some (low2,high2)
 )
 ) fun (low5:Int) (high5:Int)=>
 AB (AM .i64 (row3-1)) fun (row5:Int)=>
 some (.inl (low5,high5,row5))
 ) else (
 some (.inr (low2,high2))
 )
noncomputable def IJ (units1:List Int) (from1:Int) (to1:Int):Option (Int × Int):=
 AB (AM .i64 (to1-1)) fun (row1:Int)=>
 Az (iter (fun (a:Int × Int × Int)=>Jc units1 from1 a.1 a.2.1 a.2.2) (0,0,row1)) fun (low4:Int) (high4:Int)=>
 some (low4,high4)
structure bC where
 Adds:List (List D9)
 Cuts:List Bool
 Attrs:List (List Ak)
deriving DecidableEq
instance:Inhabited bC:=⟨⟨[],[],[]⟩⟩
noncomputable def KL (a1:List AG) (b1:List AG) (x2:Int):Option (Int ⊕ (Ao Unit Bool)):=
 if (decide (x2<(a1.length:Int))) then (
 AB (AO a1 x2) fun (x4:AG)=>
 AB (AO b1 x2) fun (x5:AG)=>
 if (!(decide (x4.Kind=x5.Kind) && (decide (x4.N=x5.N) && true))) then (
 some (.inr (.ext false))
 ) else (
 AB (AM .i64 (x2+1)) fun (x6:Int)=>
 some (.inl x6)
 )
 ) else (
 some (.inr (.nrm ()))
 )
noncomputable def Jj (a1:List AG) (b1:List AG):Option (Bool):=
 if (!decide ((a1.length:Int)=(b1.length:Int))) then (
 some false
 ) else (
 Ay (iter (fun (a:Int)=>KL a1 b1 a) 0) fun (u2:Unit)=>
 some true
 )
structure XH where
 steps:List GStep
 used:Int
deriving DecidableEq
instance:Inhabited XH:=⟨⟨[],0⟩⟩
structure UV where
 out:List GStep
 add:List D9
 cut:Int
deriving DecidableEq
instance:Inhabited UV:=⟨⟨[],[],0⟩⟩
noncomputable def GO (a1:List AG) (x2:Int) (w2:Ar):Option ((Int × Ar) ⊕ Ar):=
 if (decide (x2<(a1.length:Int))) then (
 AB (AO a1 x2) fun (x4:AG)=>
 AB (AO [0,2,1] x4.Kind) fun (x5:Int)=>
 AB (JC w2 x5 x4.N) fun (w6:Ar)=>
 AB (AM .i64 (x2+1)) fun (x6:Int)=>
 some (.inl (x6,w6))
 ) else (
 some (.inr w2)
 )
noncomputable def Gi (a1:List AG):Option ((List AG) × Int):=
 AB (Gf a1) fun (e1:Int)=>
 if (!decide (e1=0)) then (
 some ([],e1)
 ) else (
 AB (iter (fun (a:Int × Ar)=>GO a1 a.1 a.2) (0,(Ar.mk [] 0 0))) fun (w4:Ar)=>
 Fw (LN w4) fun (r1:List AG) (r2:Int) (w5:Ar)=>
 some (r1,r2)
 )
structure TZ where
 Kind:Int
 Node:Int
 From:Int
 To:Int
 Name:List UInt8
deriving DecidableEq
instance:Inhabited TZ:=⟨⟨0,0,0,0,[]⟩⟩
structure VY where
 node:Int
 out:List D9
 bad:List TZ
deriving DecidableEq
instance:Inhabited VY:=⟨⟨0,[],[]⟩⟩
structure aV where
 adds:List (List D9)
 cut:List Bool
 attrs:List (List Ak)
deriving DecidableEq
instance:Inhabited aV:=⟨⟨[],[],[]⟩⟩
structure GN where
 lo:Int
 hi:Int
deriving DecidableEq
instance:Inhabited GN:=⟨⟨0,0⟩⟩
@[reducible] def GN.row (x:GN):List RV:=[.int .u8 x.lo,.int .u8 x.hi]
noncomputable def Mr:List GN:=HT.map fun p=>GN.mk p.1 p.2
noncomputable def KA (s1:List UInt8):Option (Int × Int):=
 if (decide ((s1.length:Int)<1)) then (
 some (65533,0)
 ) else (
 AB (AO s1 0) fun (s01:UInt8)=>
 AB (AO Ed (s01.toNat:Int)) fun (x1:Int)=>
 if (decide (240≤x1)) then (
 some ((C4 .i32 (Kr .i32 (IntKind.i32.wrap (s01.toNat:Int)) (Dv .i32 (Ce .i32 (IntKind.i32.wrap x1) 31) 31)) (Bn .i32 65533 (Dv .i32 (Ce .i32 (IntKind.i32.wrap x1) 31) 31))),1)
 ) else (
 AB (AO Mr (Dv .u8 x1 4)) fun (x2:GN)=>
 if (decide ((s1.length:Int)<(IntKind.i64.wrap (Bn .u8 x1 7)))) then (
 some (65533,1)
 ) else (
 AB (AO s1 1) fun (s11:UInt8)=>
 if ((decide ((s11.toNat:Int)<x2.lo)) || (decide (x2.hi<(s11.toNat:Int)))) then (
 some (65533,1)
 ) else (
 if (decide ((IntKind.i64.wrap (Bn .u8 x1 7))≤2)) then (
 some ((C4 .i32 (Ce .i32 (IntKind.i32.wrap (Bn .u8 (s01.toNat:Int) 31)) 6) (IntKind.i32.wrap (Bn .u8 (s11.toNat:Int) 63))),2)
 ) else (
 AB (AO s1 2) fun (s21:UInt8)=>
 if ((decide ((s21.toNat:Int)<128)) || (decide (191<(s21.toNat:Int)))) then (
 some (65533,1)
 ) else (
 if (decide ((IntKind.i64.wrap (Bn .u8 x1 7))≤3)) then (
 some ((C4 .i32 (C4 .i32 (Ce .i32 (IntKind.i32.wrap (Bn .u8 (s01.toNat:Int) 15)) 12) (Ce .i32 (IntKind.i32.wrap (Bn .u8 (s11.toNat:Int) 63)) 6)) (IntKind.i32.wrap (Bn .u8 (s21.toNat:Int) 63))),3)
 ) else (
 AB (AO s1 3) fun (s31:UInt8)=>
 if ((decide ((s31.toNat:Int)<128)) || (decide (191<(s31.toNat:Int)))) then (
 some (65533,1)
 ) else (
 some ((C4 .i32 (C4 .i32 (C4 .i32 (Ce .i32 (IntKind.i32.wrap (Bn .u8 (s01.toNat:Int) 7)) 18) (Ce .i32 (IntKind.i32.wrap (Bn .u8 (s11.toNat:Int) 63)) 12)) (Ce .i32 (IntKind.i32.wrap (Bn .u8 (s21.toNat:Int) 63)) 6)) (IntKind.i32.wrap (Bn .u8 (s31.toNat:Int) 63))),4)
 )
 )
 )
 )
 )
 )
 )
 )
noncomputable def K0 (s1:List UInt8):Option (Int × Int):=
 AB (gd ((!decide (s1=[])) == true) (AO s1 0)) fun (ch1:UInt8)=>
 if ((!decide (s1=[])) && (decide ((ch1.toNat:Int)<128))) then (
 AB (AO s1 0) fun (ch2:UInt8)=>
 some ((IntKind.i32.wrap (ch2.toNat:Int)),1)
 ) else (
 Az (KA s1) fun (r1:Int) (r2:Int)=>
 some (r1,r2)
 )
structure UX where
 Nodes:List Mw
deriving DecidableEq
instance:Inhabited UX:=⟨⟨[]⟩⟩
noncomputable def OP (s11:List AD) (s21:List AD) (x2:Int):Option (Int ⊕ (Ao Unit Bool)):=
 if (decide (x2<(s11.length:Int))) then (
 AB (AO s11 x2) fun (x4:AD)=>
 AB (AO s21 x2) fun (x5:AD)=>
 if (!(decide (x4.Row=x5.Row) && (decide (x4.Col=x5.Col) && (decide (x4.H=x5.H) && (decide (x4.W=x5.W) && true))))) then (
 some (.inr (.ext false))
 ) else (
 AB (AM .i64 (x2+1)) fun (x6:Int)=>
 some (.inl x6)
 )
 ) else (
 some (.inr (.nrm ()))
 )
noncomputable def Rn (s11:List AD) (s21:List AD):Option (Bool):=
 if (!decide ((s11.length:Int)=(s21.length:Int))) then (
 some false
 ) else (
 Ay (iter (fun (a:Int)=>OP s11 s21 a) 0) fun (u2:Unit)=>
 some true
 )
noncomputable def Gu (a1:AC) (b1:AC):Option (Bool):=
 AB (gd (((((decide (a1.Row=b1.Row)) && (decide (a1.Col=b1.Col))) && (decide (a1.Text=b1.Text))) && (decide (a1.Ref=b1.Ref))) == true) (Ld a1.Attrs b1.Attrs)) fun (r1:Bool)=>
 some (((((decide (a1.Row=b1.Row)) && (decide (a1.Col=b1.Col))) && (decide (a1.Text=b1.Text))) && (decide (a1.Ref=b1.Ref))) && r1)
noncomputable def PT (s11:List AC) (s21:List AC) (x2:Int):Option (Int ⊕ (Ao Unit Bool)):=
 if (decide (x2<(s11.length:Int))) then (
 AB (AO s11 x2) fun (x4:AC)=>
 AB (AO s21 x2) fun (x5:AC)=>
 AB (Gu x4 x5) fun (r1:Bool)=>
 if (!r1) then (
 some (.inr (.ext false))
 ) else (
 AB (AM .i64 (x2+1)) fun (x6:Int)=>
 some (.inl x6)
 )
 ) else (
 some (.inr (.nrm ()))
 )
noncomputable def R8 (s11:List AC) (s21:List AC):Option (Bool):=
 if (!decide ((s11.length:Int)=(s21.length:Int))) then (
 some false
 ) else (
 Ay (iter (fun (a:Int)=>PT s11 s21 a) 0) fun (u2:Unit)=>
 some true
 )
noncomputable def EB (s3:List UInt8):Option ((List UInt8) ⊕ (Ao Unit Bool)):=
 if (!decide (s3=[])) then (
 Az (K0 s3) fun (r1:Int) (r2:Int)=>
 AB (gd ((((decide (r1=65533)) && (decide (r2=1))) || (decide (r1=10))) == false) (KR (IntKind.i64.wrap r1))) fun (r3:Bool)=>
 if ((((decide (r1=65533)) && (decide (r2=1))) || (decide (r1=10))) || (!r3)) then (
 some (.inr (.ext false))
 ) else (
 AB (CG s3 r2 (s3.length:Int)) fun (s5:List UInt8)=>
 some (.inl s5)
 )
 ) else (
 some (.inr (.nrm ()))
 )
noncomputable def LW (s1:List UInt8):Option (Bool):=
 Ay (iter (fun (a:(List UInt8))=>EB a) s1) fun (u2:Unit)=>
 some true
noncomputable def HA (c1:AC):Option (Bool):=
 some (((decide (c1.Text=[])) && (decide (c1.Ref=0))) && (decide ((c1.Attrs.length:Int)=0)))
noncomputable def Lp (x1:Int):Option (Bool):=
 some (!decide (x1=x1))
noncomputable def Ha (x1:Int) (y1:Int):Option (Int):=
 AB (Lp x1) fun (xNaN1:Bool)=>
 AB (Lp y1) fun (yNaN1:Bool)=>
 if xNaN1 then (
 if yNaN1 then (
 some 0
 ) else (
 some (-1)
 )
 ) else (
 if yNaN1 then (
 some 1
 ) else (
 if (decide (x1<y1)) then (
 some (-1)
 ) else (
 if (decide (y1<x1)) then (
 some 1
 ) else (
 some 0
 )
 )
 )
 )
noncomputable def DG (vals1:List Int) (x2:Int):Option (Int ⊕ (Ao Unit Int)):=
 if (decide (x2<(vals1.length:Int))) then (
 AB (AO vals1 x2) fun (x4:Int)=>
 if (!decide (x4=0)) then (
 some (.inr (.ext x4))
 ) else (
 AB (AM .i64 (x2+1)) fun (x5:Int)=>
 some (.inl x5)
 )
 ) else (
 some (.inr (.nrm ()))
 )
noncomputable def Jf (vals1:List Int):Option (Int):=
 Ay (iter (fun (a:Int)=>DG vals1 a) 0) fun (u2:Unit)=>
 some 0
noncomputable def EF (a1:AC) (b1:AC):Option (Int):=
 AB (Ha a1.Row b1.Row) fun (r1:Int)=>
 AB (Ha a1.Col b1.Col) fun (r2:Int)=>
 AB (Jf [r1,r2]) fun (r3:Int)=>
 some r3
noncomputable def LK (l1:List AC) (rows1:Int) (cols1:Int) (none1:Bool) (x2:Int):Option (Int ⊕ (Ao Unit Int)):=
 if (decide (x2<(l1.length:Int))) then (
 AB (AO l1 x2) fun (x4:AC)=>
 if ((((decide (x4.Row<0)) || (decide (rows1≤x4.Row))) || (decide (x4.Col<0))) || (decide (cols1≤x4.Col))) then (
 some (.inr (.ext 2))
 ) else (
 if ((decide (x4.Ref<0)) || (decide (1073741824<x4.Ref))) then (
 some (.inr (.ext 2))
 ) else (
 AB (LW x4.Text) fun (r1:Bool)=>
 if (!r1) then (
 some (.inr (.ext 23))
 ) else (
 AB (Jz x4.Attrs) fun (e1:Int)=>
 if (!decide (e1=0)) then (
 some (.inr (.ext e1))
 ) else (
 AB (HA x4) fun (r2:Bool)=>
 if (r2 && (!none1)) then (
 some (.inr (.ext 4))
 ) else (
 AB (gd ((decide (0<x2)) == true) (AM .i64 (x2-1))) fun (x5:Int)=>
 AB (gd ((decide (0<x2)) == true) (AO l1 x5)) fun (x6:AC)=>
 AB (gd ((decide (0<x2)) == true) (EF x6 x4)) fun (r3:Int)=>
 if ((decide (0<x2)) && (decide (0≤r3))) then (
 some (.inr (.ext 5))
 ) else (
 AB (AM .i64 (x2+1)) fun (x7:Int)=>
 some (.inl x7)
 )
 )
 )
 )
 )
 )
 ) else (
 some (.inr (.nrm ()))
 )
noncomputable def Jd (l1:List AC) (rows1:Int) (cols1:Int) (none1:Bool):Option (Int):=
 Ay (iter (fun (a:Int)=>LK l1 rows1 cols1 none1 a) 0) fun (u2:Unit)=>
 some 0
noncomputable def IK (r1:AD) (rows1:Int) (cols1:Int):Option (Bool):=
 AB (gd (((((((decide (0≤r1.Row)) && (decide (0≤r1.Col))) && (decide (1≤r1.H))) && (decide (1≤r1.W))) && (decide (r1.Row<rows1))) && (decide (r1.Col<cols1))) == true) (AM .i64 (rows1-r1.Row))) fun (x1:Int)=>
 AB (gd ((((((((decide (0≤r1.Row)) && (decide (0≤r1.Col))) && (decide (1≤r1.H))) && (decide (1≤r1.W))) && (decide (r1.Row<rows1))) && (decide (r1.Col<cols1))) && (decide (r1.H≤x1))) == true) (AM .i64 (cols1-r1.Col))) fun (x2:Int)=>
 some ((((((((decide (0≤r1.Row)) && (decide (0≤r1.Col))) && (decide (1≤r1.H))) && (decide (1≤r1.W))) && (decide (r1.Row<rows1))) && (decide (r1.Col<cols1))) && (decide (r1.H≤x1))) && (decide (r1.W≤x2)))
noncomputable def Lx (a1:AD) (b1:AD):Option (Bool):=
 some ((decide (a1.Row<b1.Row)) || ((decide (a1.Row=b1.Row)) && (decide (a1.Col<b1.Col))))
noncomputable def JN (a1:AD) (b1:AD):Option (Bool):=
 AB (AM .i64 (b1.Row+b1.H)) fun (x1:Int)=>
 AB (gd ((decide (a1.Row<x1)) == true) (AM .i64 (a1.Row+a1.H))) fun (x2:Int)=>
 AB (gd (((decide (a1.Row<x1)) && (decide (b1.Row<x2))) == true) (AM .i64 (b1.Col+b1.W))) fun (x3:Int)=>
 AB (gd ((((decide (a1.Row<x1)) && (decide (b1.Row<x2))) && (decide (a1.Col<x3))) == true) (AM .i64 (a1.Col+a1.W))) fun (x4:Int)=>
 some ((((decide (a1.Row<x1)) && (decide (b1.Row<x2))) && (decide (a1.Col<x3))) && (decide (b1.Col<x4)))
noncomputable def MJ (w1:AD) (q1:AD):Option (Bool):=
 AB (JN q1 w1) fun (r1:Bool)=>
 some r1
noncomputable def Lh (w1:AD) (s1:List AD) (x2:Int):Option (Int ⊕ (Ao Unit Int)):=
 if (decide (x2<(s1.length:Int))) then (
 AB (AO s1 x2) fun (x4:AD)=>
 AB (MJ w1 x4) fun (r1:Bool)=>
 if r1 then (
 some (.inr (.ext x2))
 ) else (
 AB (AM .i64 (x2+1)) fun (x5:Int)=>
 some (.inl x5)
 )
 ) else (
 some (.inr (.nrm ()))
 )
noncomputable def Nk (w1:AD) (s1:List AD):Option (Int):=
 Ay (iter (fun (a:Int)=>Lh w1 s1 a) 0) fun (u2:Unit)=>
 some (-1)
noncomputable def Iq (w1:AD) (s1:List AD):Option (Bool):=
 AB (Nk w1 s1) fun (r1:Int)=>
 some (decide (0≤r1))
noncomputable def Ka (g1:AJ) (x2:Int):Option (Int ⊕ (Ao Unit Int)):=
 if (decide (x2<(g1.Merges.length:Int))) then (
 AB (AO g1.Merges x2) fun (x4:AD)=>
 AB (IK x4 g1.Rows g1.Cols) fun (r1:Bool)=>
 if (!r1) then (
 some (.inr (.ext 2))
 ) else (
 if ((decide (x4.H=1)) && (decide (x4.W=1))) then (
 some (.inr (.ext 4))
 ) else (
 AB (gd ((decide (0<x2)) == true) (AM .i64 (x2-1))) fun (x5:Int)=>
 AB (gd ((decide (0<x2)) == true) (AO g1.Merges x5)) fun (x6:AD)=>
 AB (gd ((decide (0<x2)) == true) (Lx x6 x4)) fun (r2:Bool)=>
 if ((decide (0<x2)) && (!r2)) then (
 some (.inr (.ext 5))
 ) else (
 AB (CG g1.Merges 0 x2) fun (l1:List AD)=>
 AB (Iq x4 l1) fun (r3:Bool)=>
 if r3 then (
 some (.inr (.ext 21))
 ) else (
 AB (AM .i64 (x2+1)) fun (x7:Int)=>
 some (.inl x7)
 )
 )
 )
 )
 ) else (
 some (.inr (.nrm ()))
 )
noncomputable def Kp (g1:AJ):Option (Int):=
 if ((((decide (g1.Rows<0)) || (decide (2147483647<g1.Rows))) || (decide (g1.Cols<0))) || (decide (2147483647<g1.Cols))) then (
 some 2
 ) else (
 AB (Jd g1.Cells g1.Rows g1.Cols false) fun (e1:Int)=>
 if (!decide (e1=0)) then (
 some e1
 ) else (
 Ay (iter (fun (a:Int)=>Ka g1 a) 0) fun (u2:Unit)=>
 some 0
 )
 )
noncomputable def I7 (a1:AC) (b1:AC):Option (Bool):=
 AB (gd (((((decide (a1.Row=b1.Row)) && (decide (a1.Col=b1.Col))) && (decide (a1.Text=b1.Text))) && (decide (a1.Ref=b1.Ref))) == true) (KS a1.Attrs b1.Attrs)) fun (r1:Bool)=>
 some (((((decide (a1.Row=b1.Row)) && (decide (a1.Col=b1.Col))) && (decide (a1.Text=b1.Text))) && (decide (a1.Ref=b1.Ref))) && r1)
noncomputable def Js (a1:List AC) (b1:List AC) (x2:Int):Option (Int ⊕ (Ao Unit Bool)):=
 if (decide (x2<(a1.length:Int))) then (
 AB (AO a1 x2) fun (x4:AC)=>
 AB (AO b1 x2) fun (x5:AC)=>
 AB (I7 x4 x5) fun (r1:Bool)=>
 if (!r1) then (
 some (.inr (.ext false))
 ) else (
 AB (AM .i64 (x2+1)) fun (x6:Int)=>
 some (.inl x6)
 )
 ) else (
 some (.inr (.nrm ()))
 )
noncomputable def Km (a1:List AC) (b1:List AC):Option (Bool):=
 if (!decide ((a1.length:Int)=(b1.length:Int))) then (
 some false
 ) else (
 Ay (iter (fun (a:Int)=>Js a1 b1 a) 0) fun (u2:Unit)=>
 some true
 )
noncomputable def Kv (a1:List AD) (b1:List AD) (x2:Int):Option (Int ⊕ (Ao Unit Bool)):=
 if (decide (x2<(a1.length:Int))) then (
 AB (AO a1 x2) fun (x4:AD)=>
 AB (AO b1 x2) fun (x5:AD)=>
 if (!(decide (x4.Row=x5.Row) && (decide (x4.Col=x5.Col) && (decide (x4.H=x5.H) && (decide (x4.W=x5.W) && true))))) then (
 some (.inr (.ext false))
 ) else (
 AB (AM .i64 (x2+1)) fun (x6:Int)=>
 some (.inl x6)
 )
 ) else (
 some (.inr (.nrm ()))
 )
noncomputable def JQ (a1:List AD) (b1:List AD):Option (Bool):=
 if (!decide ((a1.length:Int)=(b1.length:Int))) then (
 some false
 ) else (
 Ay (iter (fun (a:Int)=>Kv a1 b1 a) 0) fun (u2:Unit)=>
 some true
 )
noncomputable def Mh (s1:List UInt8):Option (Bool):=
 NZ s1
noncomputable def EG (s1:List UInt8) (p2:(Nat)):Option ((Nat) ⊕ (Ao Unit Bool)):=
 if (decide (p2<s1.length)) then (
 AB (gd ((decide (((Eu s1 p2).1:Int)=10)) == false) (Lr (IntKind.i64.wrap ((Eu s1 p2).1:Int)))) fun (r2:Bool)=>
 if ((decide (((Eu s1 p2).1:Int)=10)) || (!r2)) then (
 some (.inr (.ext false))
 ) else (
 some (.inl (p2+(Eu s1 p2).2))
 )
 ) else (
 some (.inr (.nrm ()))
 )
noncomputable def KO (s1:List UInt8):Option (Bool):=
 AB (Mh s1) fun (r1:Bool)=>
 if (!r1) then (
 some false
 ) else (
 Ay (iter (fun (a:(Nat))=>EG s1 a) 0) fun (u2:Unit)=>
 some true
 )
noncomputable def Fh (c1:AC):Option (Bool):=
 some (((decide (c1.Text=[])) && (decide (c1.Ref=0))) && (decide ((c1.Attrs.length:Int)=0)))
noncomputable def Kz (l1:List AC) (rows1:Int) (cols1:Int) (none1:Bool) (x2:Int):Option (Int ⊕ (Ao Unit Int)):=
 if (decide (x2<(l1.length:Int))) then (
 AB (AO l1 x2) fun (x4:AC)=>
 AB (AM .i64 (rows1-1)) fun (x5:Int)=>
 AB (Ck x4.Row 0 x5) fun (r1:Bool)=>
 AB (gd ((!r1) == false) (AM .i64 (cols1-1))) fun (x6:Int)=>
 AB (gd ((!r1) == false) (Ck x4.Col 0 x6)) fun (r2:Bool)=>
 AB (gd (((!r1) || (!r2)) == false) (Ck x4.Ref 0 1073741824)) fun (r3:Bool)=>
 if (((!r1) || (!r2)) || (!r3)) then (
 some (.inr (.ext 2))
 ) else (
 AB (KO x4.Text) fun (r4:Bool)=>
 if (!r4) then (
 some (.inr (.ext 23))
 ) else (
 AB (LZ x4.Attrs false) fun (e1:Int)=>
 if (!decide (e1=0)) then (
 some (.inr (.ext e1))
 ) else (
 AB (gd ((!none1) == true) (Fh x4)) fun (r5:Bool)=>
 if ((!none1) && r5) then (
 some (.inr (.ext 4))
 ) else (
 AB (gd ((decide (0<x2)) == true) (AM .i64 (x2-1))) fun (x7:Int)=>
 AB (gd ((decide (0<x2)) == true) (AO l1 x7)) fun (x8:AC)=>
 AB (gd ((((decide (0<x2)) == true) && ((decide (x4.Row<x8.Row)) == false)) && ((decide (x4.Row=x8.Row)) == true)) (AM .i64 (x2-1))) fun (x9:Int)=>
 AB (gd ((((decide (0<x2)) == true) && ((decide (x4.Row<x8.Row)) == false)) && ((decide (x4.Row=x8.Row)) == true)) (AO l1 x9)) fun (x10:AC)=>
 if ((decide (0<x2)) && ((decide (x4.Row<x8.Row)) || ((decide (x4.Row=x8.Row)) && (decide (x4.Col≤x10.Col))))) then (
 some (.inr (.ext 5))
 ) else (
 AB (AM .i64 (x2+1)) fun (x11:Int)=>
 some (.inl x11)
 )
 )
 )
 )
 )
 ) else (
 some (.inr (.nrm ()))
 )
noncomputable def Jh (l1:List AC) (rows1:Int) (cols1:Int) (none1:Bool):Option (Int):=
 Ay (iter (fun (a:Int)=>Kz l1 rows1 cols1 none1 a) 0) fun (u2:Unit)=>
 some 0
noncomputable def GA (r1:AD) (rows1:Int) (cols1:Int):Option (Bool):=
 AB (AM .i64 (rows1-1)) fun (x1:Int)=>
 AB (Ck r1.Row 0 x1) fun (r2:Bool)=>
 AB (gd (r2 == true) (AM .i64 (cols1-1))) fun (x2:Int)=>
 AB (gd (r2 == true) (Ck r1.Col 0 x2)) fun (r3:Bool)=>
 AB (gd ((r2 && r3) == true) (AM .i64 (rows1-r1.Row))) fun (x3:Int)=>
 AB (gd ((r2 && r3) == true) (Ck r1.H 1 x3)) fun (r4:Bool)=>
 AB (gd (((r2 && r3) && r4) == true) (AM .i64 (cols1-r1.Col))) fun (x4:Int)=>
 AB (gd (((r2 && r3) && r4) == true) (Ck r1.W 1 x4)) fun (r5:Bool)=>
 some (((r2 && r3) && r4) && r5)
noncomputable def Iz (a1:AD) (b1:AD):Option (Bool):=
 AB (AM .i64 (a1.Row+a1.H)) fun (x1:Int)=>
 AB (AM .i64 (b1.Row+b1.H)) fun (x2:Int)=>
 AB (gd ((decide ((max a1.Row b1.Row)<(min x1 x2))) == true) (AM .i64 (a1.Col+a1.W))) fun (x3:Int)=>
 AB (gd ((decide ((max a1.Row b1.Row)<(min x1 x2))) == true) (AM .i64 (b1.Col+b1.W))) fun (x4:Int)=>
 some ((decide ((max a1.Row b1.Row)<(min x1 x2))) && (decide ((max a1.Col b1.Col)<(min x3 x4))))
noncomputable def LF (g1:AJ) (x2:Int) (x4:AD) (x10:Int):Option (Int ⊕ (Ao Unit (Int ⊕ (Ao Unit Int)))):=
 if (decide (x10<x2)) then (
 AB (AO g1.Merges x10) fun (x13:AD)=>
 AB (Iz x4 x13) fun (r4:Bool)=>
 if r4 then (
 some (.inr (.ext (.inr (.ext 21))))
 ) else (
 AB (AM .i64 (x10+1)) fun (x14:Int)=>
 some (.inl x14)
 )
 ) else (
 some (.inr (.nrm ()))
 )
noncomputable def Ls (g1:AJ) (x2:Int):Option (Int ⊕ (Ao Unit Int)):=
 if (decide (x2<(g1.Merges.length:Int))) then (
 AB (AO g1.Merges x2) fun (x4:AD)=>
 AB (GA x4 g1.Rows g1.Cols) fun (r3:Bool)=>
 if (!r3) then (
 some (.inr (.ext 2))
 ) else (
 if ((decide (x4.H=1)) && (decide (x4.W=1))) then (
 some (.inr (.ext 4))
 ) else (
 AB (gd ((decide (0<x2)) == true) (AM .i64 (x2-1))) fun (x5:Int)=>
 AB (gd ((decide (0<x2)) == true) (AO g1.Merges x5)) fun (x6:AD)=>
 AB (gd ((((decide (0<x2)) == true) && ((decide (x4.Row<x6.Row)) == false)) && ((decide (x4.Row=x6.Row)) == true)) (AM .i64 (x2-1))) fun (x7:Int)=>
 AB (gd ((((decide (0<x2)) == true) && ((decide (x4.Row<x6.Row)) == false)) && ((decide (x4.Row=x6.Row)) == true)) (AO g1.Merges x7)) fun (x8:AD)=>
 if ((decide (0<x2)) && ((decide (x4.Row<x6.Row)) || ((decide (x4.Row=x6.Row)) && (decide (x4.Col≤x8.Col))))) then (
 some (.inr (.ext 5))
 ) else (
 Ay (iter (fun (a:Int)=>LF g1 x2 x4 a) 0) fun (u4:Unit)=>
 AB (AM .i64 (x2+1)) fun (x12:Int)=>
 some (.inl x12)
 )
 )
 )
 ) else (
 some (.inr (.nrm ()))
 )
noncomputable def LG (g1:AJ):Option (Int):=
 AB (Ck g1.Rows 0 2147483647) fun (r1:Bool)=>
 AB (gd ((!r1) == false) (Ck g1.Cols 0 2147483647)) fun (r2:Bool)=>
 if ((!r1) || (!r2)) then (
 some 2
 ) else (
 AB (Jh g1.Cells g1.Rows g1.Cols false) fun (e1:Int)=>
 if (!decide (e1=0)) then (
 some e1
 ) else (
 Ay (iter (fun (a:Int)=>Ls g1 a) 0) fun (u2:Unit)=>
 some 0
 )
 )
noncomputable def EX (x5:Int) (l1:List AD) (x8:Int):Option (Int ⊕ (Ao Unit (Int ⊕ (Ao Unit Int)))):=
 if (decide (x8<(l1.length:Int))) then (
 AB (AO l1 x8) fun (x11:AD)=>
 AB (IK x11 2147483647 2147483647) fun (r1:Bool)=>
 if (!r1) then (
 some (.inr (.ext (.inr (.ext 2))))
 ) else (
 if (((decide (x5=1)) && (decide (x11.H=1))) && (decide (x11.W=1))) then (
 some (.inr (.ext (.inr (.ext 4))))
 ) else (
 AB (AM .i64 (x8+1)) fun (x12:Int)=>
 some (.inl x12)
 )
 )
 ) else (
 some (.inr (.nrm ()))
 )
noncomputable def Dy (e1:AK) (x5:Int):Option (Int ⊕ (Ao Unit Int)):=
 if (decide (x5<2)) then (
 AB (AO ([e1.Split,e1.Merge]:List (List AD)) x5) fun (l1:List AD)=>
 Ay (iter (fun (a:Int)=>EX x5 l1 a) 0) fun (u6:Unit)=>
 AB (AM .i64 (x5+1)) fun (x10:Int)=>
 some (.inl x10)
 ) else (
 some (.inr (.nrm ()))
 )
noncomputable def EE (e1:AK) (x2:Int):Option (Int ⊕ (Ao Unit Int)):=
 if (decide (x2<2)) then (
 AB (AO ([e1.Rows,e1.Cols]:List (List AG)) x2) fun (a1:List AG)=>
 AB (Gf a1) fun (f2:Int)=>
 if (!decide (f2=0)) then (
 some (.inr (.ext f2))
 ) else (
 AB (AM .i64 (x2+1)) fun (x13:Int)=>
 some (.inl x13)
 )
 ) else (
 some (.inr (.nrm ()))
 )
noncomputable def Ki (e1:AK):Option (Int):=
 Ay (iter (fun (a:Int)=>EE e1 a) 0) fun (u2:Unit)=>
 AB (Jd e1.Cells 2147483647 2147483647 true) fun (f1:Int)=>
 if (!decide (f1=0)) then (
 some f1
 ) else (
 Ay (iter (fun (a:Int)=>Dy e1 a) 0) fun (u4:Unit)=>
 some 0
 )
noncomputable def Dl (n1:Int) (a1:List AG):Option (Int × Bool):=
 if (decide ((a1.length:Int)=0)) then (
 some (n1,true)
 ) else (
 Fw (Lf a1) fun (r1:Int) (r2:Int) (r3:Int)=>
 some (r2,(decide (r1=n1)))
 )
noncomputable def FR (r1:Int) (r3:Int) (l1:List AD) (x8:Int):Option (Int ⊕ (Ao Unit (Int ⊕ (Ao Unit (Int × Int × Int))))):=
 if (decide (x8<(l1.length:Int))) then (
 AB (AO l1 x8) fun (x11:AD)=>
 AB (IK x11 r1 r3) fun (r5:Bool)=>
 if (!r5) then (
 some (.inr (.ext (.inr (.ext (0,0,2)))))
 ) else (
 AB (AM .i64 (x8+1)) fun (x12:Int)=>
 some (.inl x12)
 )
 ) else (
 some (.inr (.nrm ()))
 )
noncomputable def CN (e1:AK) (r1:Int) (r3:Int) (x5:Int):Option (Int ⊕ (Ao Unit (Int × Int × Int))):=
 if (decide (x5<2)) then (
 AB (AO ([e1.Split,e1.Merge]:List (List AD)) x5) fun (l1:List AD)=>
 Ay (iter (fun (a:Int)=>FR r1 r3 l1 a) 0) fun (u6:Unit)=>
 AB (AM .i64 (x5+1)) fun (x10:Int)=>
 some (.inl x10)
 ) else (
 some (.inr (.nrm ()))
 )
noncomputable def GD (e1:AK) (r1:Int) (r3:Int) (x2:Int):Option (Int ⊕ (Ao Unit (Int × Int × Int))):=
 if (decide (x2<(e1.Cells.length:Int))) then (
 AB (AO e1.Cells x2) fun (x13:AC)=>
 if ((decide (r1≤x13.Row)) || (decide (r3≤x13.Col))) then (
 some (.inr (.ext (0,0,2)))
 ) else (
 AB (AM .i64 (x2+1)) fun (x14:Int)=>
 some (.inl x14)
 )
 ) else (
 some (.inr (.nrm ()))
 )
noncomputable def Ea (g1:AJ) (e1:AK):Option (Int × Int × Int):=
 AB (Kp g1) fun (f1:Int)=>
 if (!decide (f1=0)) then (
 some (0,0,f1)
 ) else (
 AB (Ki e1) fun (f2:Int)=>
 if (!decide (f2=0)) then (
 some (0,0,f2)
 ) else (
 Az (Dl g1.Rows e1.Rows) fun (r1:Int) (r2:Bool)=>
 Az (Dl g1.Cols e1.Cols) fun (r3:Int) (r4:Bool)=>
 if ((!r2) || (!r4)) then (
 some (0,0,14)
 ) else (
 Ay (iter (fun (a:Int)=>GD e1 r1 r3 a) 0) fun (u2:Unit)=>
 Ay (iter (fun (a:Int)=>CN e1 r1 r3 a) 0) fun (u4:Unit)=>
 some (r1,r3,0)
 )
 )
 )
noncomputable def FQ (c1:AC):Option (AC):=
 AB (A9 32 [] c1.Attrs) fun (l1:List Ak)=>
 some (AC.mk c1.Row c1.Col c1.Text c1.Ref l1)
noncomputable def D1 (l1:List AC) (rows1:List AG) (cols1:List AG) (x2:Int) (out2:List AC):Option ((Int × (List AC)) ⊕ (List AC)):=
 if (decide (x2<(l1.length:Int))) then (
 AB (
 AB (AO l1 x2) fun (x5:AC)=>
 AB (FQ x5) fun (r1:AC)=>
 Ay (
 if (decide (0<(rows1.length:Int))) then (
 Az (E4 rows1 [r1.Row]) fun (r4:List Int) (r5:Int)=>
 AB (gd ((!decide (r5=0)) == false) (AO r4 0)) fun (x8:Int)=>
 if ((!decide (r5=0)) || (decide (x8<0))) then (
 some (.ext out2)
 ) else (
 AB (AO r4 0) fun (x9:Int)=>
 some (.nrm (AC.mk x9 r1.Col r1.Text r1.Ref r1.Attrs))
 )
 ) else (
 some (.nrm r1)
 )
 ) fun (c1:AC)=>
 Ay (
 if (decide (0<(cols1.length:Int))) then (
 Az (E4 cols1 [c1.Col]) fun (r2:List Int) (r3:Int)=>
 AB (gd ((!decide (r3=0)) == false) (AO r2 0)) fun (x6:Int)=>
 if ((!decide (r3=0)) || (decide (x6<0))) then (
 some (.ext out2)
 ) else (
 AB (AO r2 0) fun (x7:Int)=>
 some (.nrm (AC.mk c1.Row x7 c1.Text c1.Ref c1.Attrs))
 )
 ) else (
 some (.nrm c1)
 )
 ) fun (c2:AC)=>
 AB (A9 64 out2 [c2]) fun (out6:List AC)=>
 some out6
 ) fun (out5:List AC)=>
 AB (AM .i64 (x2+1)) fun (x4:Int)=>
 some (.inl (x4,out5))
 ) else (
 some (.inr out2)
 )
noncomputable def HG (l1:List AC) (rows1:List AG) (cols1:List AG):Option ((List AC)):=
 AB (iter (fun (a:Int × (List AC))=>D1 l1 rows1 cols1 a.1 a.2) (0,[])) fun (out4:List AC)=>
 some out4
noncomputable def Hb (l1:List AC) (x5:AC) (i15:Int) (out7:List AC):Option ((Int × (List AC)) ⊕ (Int × (List AC))):=
 AB (gd ((decide (i15<(l1.length:Int))) == true) (AO l1 i15)) fun (x7:AC)=>
 AB (gd ((decide (i15<(l1.length:Int))) == true) (EF x7 x5)) fun (r4:Int)=>
 if ((decide (i15<(l1.length:Int))) && (decide (r4<0))) then (
 AB (AO l1 i15) fun (x8:AC)=>
 AB (A9 64 out7 [x8]) fun (out11:List AC)=>
 AB (AM .i64 (i15+1)) fun (i24:Int)=>
 some (.inl (i24,out11))
 ) else (
 some (.inr (i15,out7))
 )
noncomputable def GY (l1:List AC) (news1:List AC) (i4:Int) (x2:Int) (out2:List AC):Option ((Int × Int × (List AC)) ⊕ (Int × (List AC))):=
 if (decide (x2<(news1.length:Int))) then (
 Az (
 AB (AO news1 x2) fun (x5:AC)=>
 Az (iter (fun (a:Int × (List AC))=>Hb l1 x5 a.1 a.2) (i4,out2)) fun (i19:Int) (out9:List AC)=>
 AB (gd ((decide (i19<(l1.length:Int))) == true) (AO l1 i19)) fun (x6:AC)=>
 AB (gd ((decide (i19<(l1.length:Int))) == true) (EF x6 x5)) fun (r1:Int)=>
 AB (
 if ((decide (i19<(l1.length:Int))) && (decide (r1=0))) then (
 AB (AM .i64 (i19+1)) fun (i23:Int)=>
 some i23
 ) else (
 some i19
 )
 ) fun (i21:Int)=>
 AB (HA x5) fun (r2:Bool)=>
 if (!r2) then (
 AB (FQ x5) fun (r3:AC)=>
 AB (A9 64 out9 [r3]) fun (out10:List AC)=>
 some (i21,out10)
 ) else (
 some (i21,out9)
 )
 ) fun (i10:Int) (out5:List AC)=>
 AB (AM .i64 (x2+1)) fun (x4:Int)=>
 some (.inl (i10,x4,out5))
 ) else (
 some (.inr (i4,out2))
 )
noncomputable def HZ (l1:List AC) (news1:List AC):Option ((List AC)):=
 Az (iter (fun (a:Int × Int × (List AC))=>GY l1 news1 a.1 a.2.1 a.2.2) (0,0,[])) fun (i8:Int) (out4:List AC)=>
 AB (CG l1 i8 (l1.length:Int)) fun (l2:List AC)=>
 AB (A9 64 out4 l2) fun (l3:List AC)=>
 some l3
noncomputable def Lv (r1:AD) (rows1:List AG) (cols1:List AG):Option (AD × Bool):=
 AB (
 if (decide (0<(rows1.length:Int))) then (
 AB (AM .i64 (r1.Row+r1.H)) fun (x4:Int)=>
 Az (E8 rows1 r1.Row x4) fun (r6:Int) (r7:Int)=>
 AB (AM .i64 (r7-r6)) fun (x5:Int)=>
 some (AD.mk r6 r1.Col x5 r1.W)
 ) else (
 some r1
 )
 ) fun (r2:AD)=>
 AB (
 if (decide (0<(cols1.length:Int))) then (
 AB (AM .i64 (r2.Col+r2.W)) fun (x2:Int)=>
 Az (E8 cols1 r2.Col x2) fun (r4:Int) (r5:Int)=>
 AB (AM .i64 (r5-r4)) fun (x3:Int)=>
 some (AD.mk r2.Row r4 r2.H x3)
 ) else (
 some r2
 )
 ) fun (r3:AD)=>
 AB (gd (((decide (0<r3.H)) && (decide (0<r3.W))) == true) (AM .i64 (r3.H+r3.W))) fun (x1:Int)=>
 some (r3,(((decide (0<r3.H)) && (decide (0<r3.W))) && (decide (2<x1))))
noncomputable def MB (s1:List AD) (v1:AD) (x2:Int):Option (Int ⊕ (Ao Unit Int)):=
 if (decide (x2<(s1.length:Int))) then (
 AB (AO s1 x2) fun (x4:AD)=>
 if (decide (v1.Row=x4.Row) && (decide (v1.Col=x4.Col) && (decide (v1.H=x4.H) && (decide (v1.W=x4.W) && true)))) then (
 some (.inr (.ext x2))
 ) else (
 AB (AM .i64 (x2+1)) fun (x5:Int)=>
 some (.inl x5)
 )
 ) else (
 some (.inr (.nrm ()))
 )
noncomputable def NK (s1:List AD) (v1:AD):Option (Int):=
 Ay (iter (fun (a:Int)=>MB s1 v1 a) 0) fun (u2:Unit)=>
 some (-1)
noncomputable def IV (s1:List AD) (v1:AD):Option (Bool):=
 AB (NK s1 v1) fun (r1:Int)=>
 some (decide (0≤r1))
noncomputable def HX (e1:AK) (x5:Int):Option (Int ⊕ (Ao Unit Int)):=
 if (decide (x5<(e1.Merge.length:Int))) then (
 AB (AO e1.Merge x5) fun (x7:AD)=>
 AB (GA x7 2147483647 2147483647) fun (r1:Bool)=>
 if (!r1) then (
 some (.inr (.ext 2))
 ) else (
 if ((decide (x7.H=1)) && (decide (x7.W=1))) then (
 some (.inr (.ext 4))
 ) else (
 AB (AM .i64 (x5+1)) fun (x8:Int)=>
 some (.inl x8)
 )
 )
 ) else (
 some (.inr (.nrm ()))
 )
noncomputable def HQ (e1:AK) (x2:Int):Option (Int ⊕ (Ao Unit Int)):=
 if (decide (x2<(e1.Split.length:Int))) then (
 AB (AO e1.Split x2) fun (x9:AD)=>
 AB (GA x9 2147483647 2147483647) fun (r2:Bool)=>
 if (!r2) then (
 some (.inr (.ext 2))
 ) else (
 AB (AM .i64 (x2+1)) fun (x10:Int)=>
 some (.inl x10)
 )
 ) else (
 some (.inr (.nrm ()))
 )
noncomputable def Ju (e1:AK):Option (Int):=
 AB (Je e1.Rows) fun (f1:Int)=>
 if (!decide (f1=0)) then (
 some f1
 ) else (
 AB (Je e1.Cols) fun (f2:Int)=>
 if (!decide (f2=0)) then (
 some f2
 ) else (
 AB (Jh e1.Cells 2147483647 2147483647 true) fun (f3:Int)=>
 if (!decide (f3=0)) then (
 some f3
 ) else (
 Ay (iter (fun (a:Int)=>HQ e1 a) 0) fun (u2:Unit)=>
 Ay (iter (fun (a:Int)=>HX e1 a) 0) fun (u4:Unit)=>
 some 0
 )
 )
 )
noncomputable def FH (x1:List AC) (target1:AC) (i4:Int) (j2:Int):Option ((Int × Int) ⊕ Int):=
 if (decide (i4<j2)) then (
 AB (AM .i64 (i4+j2)) fun (x3:Int)=>
 AB (AO x1 (IntKind.i64.wrap (Dv .u64 (IntKind.u64.wrap x3) 1))) fun (x4:AC)=>
 AB (EF x4 target1) fun (r2:Int)=>
 if (decide (r2<0)) then (
 AB (AM .i64 ((IntKind.i64.wrap (Dv .u64 (IntKind.u64.wrap x3) 1))+1)) fun (i10:Int)=>
 some (.inl (i10,j2))
 ) else (
 some (.inl (i4,(IntKind.i64.wrap (Dv .u64 (IntKind.u64.wrap x3) 1))))
 )
 ) else (
 some (.inr i4)
 )
noncomputable def M3 (x1:List AC) (target1:AC):Option (Int × Bool):=
 AB (iter (fun (a:Int × Int)=>FH x1 target1 a.1 a.2) (0,(x1.length:Int))) fun (i8:Int)=>
 AB (gd ((decide (i8<(x1.length:Int))) == true) (AO x1 i8)) fun (x2:AC)=>
 AB (gd ((decide (i8<(x1.length:Int))) == true) (EF x2 target1)) fun (r1:Int)=>
 some (i8,((decide (i8<(x1.length:Int))) && (decide (r1=0))))
noncomputable def Mc (l1:List AC) (row1:Int) (col1:Int):Option (Int × Bool):=
 Az (M3 l1 (AC.mk row1 col1 [] 0 [])) fun (r1:Int) (r2:Bool)=>
 some (r1,r2)
noncomputable def JP (g1:AJ) (row1:Int) (col1:Int):Option (AC):=
 Az (Mc g1.Cells row1 col1) fun (r1:Int) (r2:Bool)=>
 if (!r2) then (
 some (AC.mk row1 col1 [] 0 [])
 ) else (
 AB (AO g1.Cells r1) fun (x1:AC)=>
 AB (FQ x1) fun (r3:AC)=>
 some r3
 )
noncomputable def H6 (g1:AJ) (row1:Int) (col1:Int) (x2:Int):Option (Int ⊕ (Ao Unit AD)):=
 if (decide (x2<(g1.Merges.length:Int))) then (
 AB (AO g1.Merges x2) fun (x4:AD)=>
 AB (AM .i64 (x4.Row+x4.H)) fun (x5:Int)=>
 AB (AM .i64 (x5-1)) fun (x6:Int)=>
 AB (Ck row1 x4.Row x6) fun (r1:Bool)=>
 AB (gd (r1 == true) (AM .i64 (x4.Col+x4.W))) fun (x7:Int)=>
 AB (gd (r1 == true) (AM .i64 (x7-1))) fun (x8:Int)=>
 AB (gd (r1 == true) (Ck col1 x4.Col x8)) fun (r2:Bool)=>
 if (r1 && r2) then (
 some (.inr (.ext x4))
 ) else (
 AB (AM .i64 (x2+1)) fun (x9:Int)=>
 some (.inl x9)
 )
 ) else (
 some (.inr (.nrm ()))
 )
noncomputable def I9 (g1:AJ) (row1:Int) (col1:Int):Option (AD):=
 Ay (iter (fun (a:Int)=>H6 g1 row1 col1 a) 0) fun (u2:Unit)=>
 some (AD.mk row1 col1 1 1)
noncomputable def GW (w1:AD) (q1:AD):Option (Bool):=
 AB (JN q1 w1) fun (r1:Bool)=>
 some r1
noncomputable def Ox (w1:AD) (s1:List AD) (x2:Int):Option (Int ⊕ (Ao Unit Int)):=
 if (decide (x2<(s1.length:Int))) then (
 AB (AO s1 x2) fun (x4:AD)=>
 AB (GW w1 x4) fun (r1:Bool)=>
 if r1 then (
 some (.inr (.ext x2))
 ) else (
 AB (AM .i64 (x2+1)) fun (x5:Int)=>
 some (.inl x5)
 )
 ) else (
 some (.inr (.nrm ()))
 )
noncomputable def S3 (w1:AD) (s1:List AD):Option (Int):=
 Ay (iter (fun (a:Int)=>Ox w1 s1 a) 0) fun (u2:Unit)=>
 some (-1)
noncomputable def Ie (s1:List AD) (w1:AD) (x2:Int):Option (Int ⊕ (Ao Unit Int)):=
 if (decide (x2<(s1.length:Int))) then (
 AB (AO s1 x2) fun (x4:AD)=>
 AB (GW w1 x4) fun (r1:Bool)=>
 if r1 then (
 some (.inr (.ext x2))
 ) else (
 AB (AM .i64 (x2+1)) fun (x5:Int)=>
 some (.inl x5)
 )
 ) else (
 some (.inr (.nrm ()))
 )
noncomputable def I6 (s1:List AD) (w1:AD):Option (Int):=
 Ay (iter (fun (a:Int)=>Ie s1 w1 a) 0) fun (u2:Unit)=>
 some (-1)
noncomputable def IY (w1:AD) (i6:Int) (j3:Int) (s3:List AD):Option ((Int × Int × (List AD)) ⊕ (Int × (List AD))):=
 if (decide (j3<(s3.length:Int))) then (
 Az (
 AB (AO s3 j3) fun (x1:AD)=>
 AB (GW w1 x1) fun (r1:Bool)=>
 if (!r1) then (
 AB (AO s3 i6) fun (x2:AD)=>
 AB (AM .i64 (i6+1)) fun (i15:Int)=>
 some (i15,(s3.set i6.toNat x1))
 ) else (
 some (i6,s3)
 )
 ) fun (i12:Int) (s6:List AD)=>
 AB (AM .i64 (j3+1)) fun (j5:Int)=>
 some (.inl (i12,j5,s6))
 ) else (
 some (.inr (i6,s3))
 )
noncomputable def Ln (s1:List AD) (w1:AD):Option ((List AD)):=
 AB (I6 s1 w1) fun (i1:Int)=>
 if (decide (i1=(-1))) then (
 some s1
 ) else (
 AB (AM .i64 (i1+1)) fun (j1:Int)=>
 Az (iter (fun (a:Int × Int × (List AD))=>IY w1 a.1 a.2.1 a.2.2) (i1,j1,s1)) fun (i10:Int) (s5:List AD)=>
 AB (ME s5 i10 (AD.mk 0 0 0 0)) fun (l1:List AD)=>
 AB (CG l1 0 i10) fun (l2:List AD)=>
 some l2
 )
noncomputable def G5 (a1:AD) (b1:AD):Option (Int):=
 AB (Ha a1.Row b1.Row) fun (r1:Int)=>
 AB (Ha a1.Col b1.Col) fun (r2:Int)=>
 AB (Jf [r1,r2]) fun (r3:Int)=>
 some r3
noncomputable def Ey (e1:AK) (x5:Int) (out6:AJ):Option ((Int × AJ) ⊕ AJ):=
 if (decide (x5<(e1.Merge.length:Int))) then (
 AB (AO e1.Merge x5) fun (x7:AD)=>
 AB (Ln out6.Merges x7) fun (w2:List AD)=>
 AB (A9 32 w2 [x7]) fun (l1:List AD)=>
 AB (AM .i64 (x5+1)) fun (x8:Int)=>
 some (.inl (x8,(AJ.mk out6.Rows out6.Cols out6.Cells l1)))
 ) else (
 some (.inr out6)
 )
noncomputable def Eb (g1:AJ) (e1:AK) (x2:Int) (out2:AJ):Option ((Int × AJ) ⊕ AJ):=
 if (decide (x2<(g1.Merges.length:Int))) then (
 AB (
 AB (AO g1.Merges x2) fun (x10:AD)=>
 Az (Lv x10 e1.Rows e1.Cols) fun (r7:AD) (r8:Bool)=>
 AB (gd (r8 == true) (IV e1.Split r7)) fun (r9:Bool)=>
 if (r8 && (!r9)) then (
 AB (A9 32 out2.Merges [r7]) fun (l2:List AD)=>
 some (AJ.mk out2.Rows out2.Cols out2.Cells l2)
 ) else (
 some out2
 )
 ) fun (out9:AJ)=>
 AB (AM .i64 (x2+1)) fun (x9:Int)=>
 some (.inl (x9,out9))
 ) else (
 some (.inr out2)
 )
noncomputable def FS (g1:AJ) (e1:AK):Option (AJ):=
 Az (Dl g1.Rows e1.Rows) fun (r1:Int) (r2:Bool)=>
 Az (Dl g1.Cols e1.Cols) fun (r3:Int) (r4:Bool)=>
 AB (HG g1.Cells e1.Rows e1.Cols) fun (r5:List AC)=>
 AB (HZ r5 e1.Cells) fun (r6:List AC)=>
 AB (iter (fun (a:Int × AJ)=>Eb g1 e1 a.1 a.2) (0,(AJ.mk r1 r3 r6 []))) fun (out4:AJ)=>
 AB (iter (fun (a:Int × AJ)=>Ey e1 a.1 a.2) (0,out4)) fun (out8:AJ)=>
 AB (E5 G5 out8.Merges) fun (w1:List AD)=>
 some (AJ.mk out8.Rows out8.Cols out8.Cells w1)
noncomputable def LM (g1:AJ) (e1:AK):Option (AJ × Int):=
 Fw (Ea g1 e1) fun (r1:Int) (r2:Int) (r3:Int)=>
 if (!decide (r3=0)) then (
 some ((AJ.mk 0 0 [] []),r3)
 ) else (
 AB (FS g1 e1) fun (r4:AJ)=>
 some (r4,0)
 )
noncomputable def Kl:Option (Bool):=
 Az (LM (AJ.mk 2 1 [(AC.mk 1 0 [120] 0 [])] []) (AK.mk [(AG.mk 1 1),(AG.mk 0 2)] [] [] [] [])) fun (r1:AJ) (r2:Int)=>
 AB (gd ((((decide (r2=0)) && (decide (r1.Rows=3))) && (decide ((r1.Cells.length:Int)=1))) == true) (AO r1.Cells 0)) fun (x1:AC)=>
 some ((((decide (r2=0)) && (decide (r1.Rows=3))) && (decide ((r1.Cells.length:Int)=1))) && (decide (x1.Row=2)))
noncomputable def JB (a1:List AG) (old2:Int) (now2:Int) (x2:Int):Option ((Int × Int × Int) ⊕ (Int × Int)):=
 if (decide (x2<(a1.length:Int))) then (
 Az (
 AB (AO a1 x2) fun (x5:AG)=>
 AB (
 if (!decide (x5.Kind=1)) then (
 AB (AM .i64 (old2+x5.N)) fun (old7:Int)=>
 some old7
 ) else (
 some old2
 )
 ) fun (old6:Int)=>
 if (!decide (x5.Kind=2)) then (
 AB (AM .i64 (now2+x5.N)) fun (now6:Int)=>
 some (old6,now6)
 ) else (
 some (old6,now2)
 )
 ) fun (old5:Int) (now5:Int)=>
 AB (AM .i64 (x2+1)) fun (x4:Int)=>
 some (.inl (old5,now5,x4))
 ) else (
 some (.inr (old2,now2))
 )
noncomputable def IX (a1:List AG):Option (Int × Int):=
 Az (iter (fun (a:Int × Int × Int)=>JB a1 a.1 a.2.1 a.2.2) (0,0,0)) fun (old4:Int) (now4:Int)=>
 some (old4,now4)
noncomputable def I3 (e1:AK) (rows1:Int) (cols1:Int) (x8:Int):Option (Int ⊕ (Ao Unit Int)):=
 if (decide (x8<(e1.Merge.length:Int))) then (
 AB (AO e1.Merge x8) fun (x10:AD)=>
 AB (GA x10 rows1 cols1) fun (r1:Bool)=>
 if (!r1) then (
 some (.inr (.ext 2))
 ) else (
 AB (AM .i64 (x8+1)) fun (x11:Int)=>
 some (.inl x11)
 )
 ) else (
 some (.inr (.nrm ()))
 )
noncomputable def Io (e1:AK) (rows1:Int) (cols1:Int) (x5:Int):Option (Int ⊕ (Ao Unit Int)):=
 if (decide (x5<(e1.Split.length:Int))) then (
 AB (AO e1.Split x5) fun (x12:AD)=>
 AB (GA x12 rows1 cols1) fun (r2:Bool)=>
 if (!r2) then (
 some (.inr (.ext 2))
 ) else (
 AB (AM .i64 (x5+1)) fun (x13:Int)=>
 some (.inl x13)
 )
 ) else (
 some (.inr (.nrm ()))
 )
noncomputable def Jl (e1:AK) (rows1:Int) (cols1:Int) (x2:Int):Option (Int ⊕ (Ao Unit Int)):=
 if (decide (x2<(e1.Cells.length:Int))) then (
 AB (AO e1.Cells x2) fun (x14:AC)=>
 if ((decide (rows1≤x14.Row)) || (decide (cols1≤x14.Col))) then (
 some (.inr (.ext 2))
 ) else (
 AB (AM .i64 (x2+1)) fun (x15:Int)=>
 some (.inl x15)
 )
 ) else (
 some (.inr (.nrm ()))
 )
noncomputable def KE (g1:AJ) (e1:AK):Option (Int):=
 Ay (
 if (decide (0<(e1.Rows.length:Int))) then (
 Az (IX e1.Rows) fun (r5:Int) (r6:Int)=>
 if (!decide (r5=g1.Rows)) then (
 some (.ext 14)
 ) else (
 some (.nrm r6)
 )
 ) else (
 some (.nrm g1.Rows)
 )
 ) fun (rows1:Int)=>
 Ay (
 if (decide (0<(e1.Cols.length:Int))) then (
 Az (IX e1.Cols) fun (r3:Int) (r4:Int)=>
 if (!decide (r3=g1.Cols)) then (
 some (.ext 14)
 ) else (
 some (.nrm r4)
 )
 ) else (
 some (.nrm g1.Cols)
 )
 ) fun (cols1:Int)=>
 Ay (iter (fun (a:Int)=>Jl e1 rows1 cols1 a) 0) fun (u2:Unit)=>
 Ay (iter (fun (a:Int)=>Io e1 rows1 cols1 a) 0) fun (u4:Unit)=>
 Ay (iter (fun (a:Int)=>I3 e1 rows1 cols1 a) 0) fun (u6:Unit)=>
 some 0
noncomputable def Ly (g1:AJ) (e1:AK):Option (Bool):=
 AB (gd (((decide (g1.Rows≤30)) && (decide (g1.Cols≤30))) == true) (JY e1.Rows)) fun (r1:Int)=>
 AB (gd ((((decide (g1.Rows≤30)) && (decide (g1.Cols≤30))) && (decide (r1≤60))) == true) (JY e1.Cols)) fun (r2:Int)=>
 some ((((decide (g1.Rows≤30)) && (decide (g1.Cols≤30))) && (decide (r1≤60))) && (decide (r2≤60)))
noncomputable def Ip (a1:List AG) (n1:Int):Option ((List Int)):=
 if (decide ((a1.length:Int)=0)) then (
 AB (HO [(AG.mk 0 n1)]) fun (r1:List Int)=>
 some r1
 ) else (
 AB (HO a1) fun (r2:List Int)=>
 some r2
 )
noncomputable def If (l1:List AC) (row1:Int) (col1:Int) (x2:Int):Option (Int ⊕ (Ao Unit AC)):=
 if (decide (x2<(l1.length:Int))) then (
 AB (AO l1 x2) fun (x4:AC)=>
 if ((decide (x4.Row=row1)) && (decide (x4.Col=col1))) then (
 some (.inr (.ext x4))
 ) else (
 AB (AM .i64 (x2+1)) fun (x5:Int)=>
 some (.inl x5)
 )
 ) else (
 some (.inr (.nrm ()))
 )
noncomputable def JI (l1:List AC) (row1:Int) (col1:Int):Option (AC):=
 Ay (iter (fun (a:Int)=>If l1 row1 col1 a) 0) fun (u2:Unit)=>
 some (AC.mk row1 col1 [] 0 [])
noncomputable def Kw (r1:AD) (rows1:List Int) (cols1:List Int):Option (AD):=
 AB (AM .i64 (r1.Row+r1.H)) fun (x1:Int)=>
 Az (IJ rows1 r1.Row x1) fun (r2:Int) (r3:Int)=>
 AB (AM .i64 (r1.Col+r1.W)) fun (x2:Int)=>
 Az (IJ cols1 r1.Col x2) fun (r4:Int) (r5:Int)=>
 AB (gd (((decide (r2<r3)) && (decide (r4<r5))) == true) (AM .i64 (r3-r2))) fun (x3:Int)=>
 AB (gd (((decide (r2<r3)) && (decide (r4<r5))) == true) (AM .i64 (x3+r5))) fun (x4:Int)=>
 AB (gd (((decide (r2<r3)) && (decide (r4<r5))) == true) (AM .i64 (x4-r4))) fun (x5:Int)=>
 AB (
 if (((decide (r2<r3)) && (decide (r4<r5))) && (decide (2<x5))) then (
 AB (AM .i64 (r3-r2)) fun (x6:Int)=>
 AB (AM .i64 (r5-r4)) fun (x7:Int)=>
 some (AD.mk r2 r4 x6 x7)
 ) else (
 some (AD.mk 0 0 0 0)
 )
 ) fun (out1:AD)=>
 some out1
noncomputable def GP (merges8:List AD) (x11:Int) (x14:Int) (x18:Int) (out14:AJ):Option ((Int × AJ) ⊕ AJ):=
 if (decide (x18<(merges8.length:Int))) then (
 AB (
 AB (AO merges8 x18) fun (x22:AD)=>
 if ((decide (x22.Row=x11)) && (decide (x22.Col=x14))) then (
 AB (A9 32 out14.Merges [x22]) fun (l1:List AD)=>
 some (AJ.mk out14.Rows out14.Cols out14.Cells l1)
 ) else (
 some out14
 )
 ) fun (out17:AJ)=>
 AB (AM .i64 (x18+1)) fun (x21:Int)=>
 some (.inl (x21,out17))
 ) else (
 some (.inr out14)
 )
noncomputable def Ht (merges8:List AD) (x11:Int) (out6:AJ) (x14:Int) (out10:AJ):Option ((Int × AJ) ⊕ AJ):=
 if (decide (x14<out6.Cols)) then (
 AB (iter (fun (a:Int × AJ)=>GP merges8 x11 x14 a.1 a.2) (0,out10)) fun (out16:AJ)=>
 AB (AM .i64 (x14+1)) fun (x20:Int)=>
 some (.inl (x20,out16))
 ) else (
 some (.inr out10)
 )
noncomputable def Hm (out4:AJ) (merges8:List AD) (x11:Int) (out6:AJ):Option ((Int × AJ) ⊕ AJ):=
 if (decide (x11<out4.Rows)) then (
 AB (iter (fun (a:Int × AJ)=>Ht merges8 x11 out6 a.1 a.2) (0,out6)) fun (out12:AJ)=>
 AB (AM .i64 (x11+1)) fun (x16:Int)=>
 some (.inl (x16,out12))
 ) else (
 some (.inr out6)
 )
noncomputable def F8 (e1:AK) (x8:Int) (merges6:List AD) (x24:Int) (rest2:List AD):Option ((Int × (List AD)) ⊕ (List AD)):=
 if (decide (x24<(merges6.length:Int))) then (
 AB (
 AB (AO merges6 x24) fun (x29:AD)=>
 AB (AO e1.Merge x8) fun (x30:AD)=>
 AB (Iz x29 x30) fun (r5:Bool)=>
 if (!r5) then (
 AB (A9 32 rest2 [x29]) fun (rest6:List AD)=>
 some rest6
 ) else (
 some rest2
 )
 ) fun (rest5:List AD)=>
 AB (AM .i64 (x24+1)) fun (x28:Int)=>
 some (.inl (x28,rest5))
 ) else (
 some (.inr rest2)
 )
noncomputable def GM (e1:AK) (x8:Int) (merges6:List AD):Option ((Int × (List AD)) ⊕ (List AD)):=
 if (decide (x8<(e1.Merge.length:Int))) then (
 AB (iter (fun (a:Int × (List AD))=>F8 e1 x8 merges6 a.1 a.2) (0,[])) fun (rest4:List AD)=>
 AB (AO e1.Merge x8) fun (x26:AD)=>
 AB (A9 32 rest4 [x26]) fun (merges9:List AD)=>
 AB (AM .i64 (x8+1)) fun (x27:Int)=>
 some (.inl (x27,merges9))
 ) else (
 some (.inr merges6)
 )
noncomputable def Gk (e1:AK) (r6:AD) (keep2:Bool) (x34:Int):Option ((Bool × Int) ⊕ Bool):=
 if (decide (x34<(e1.Split.length:Int))) then (
 AB (gd (keep2 == true) (AO e1.Split x34)) fun (x36:AD)=>
 AB (AM .i64 (x34+1)) fun (x37:Int)=>
 some (.inl ((keep2 && (!(decide (x36.Row=r6.Row) && (decide (x36.Col=r6.Col) && (decide (x36.H=r6.H) && (decide (x36.W=r6.W) && true)))))),x37))
 ) else (
 some (.inr keep2)
 )
noncomputable def GF (g1:AJ) (e1:AK) (rows1:List Int) (cols1:List Int) (x5:Int) (merges2:List AD):Option ((Int × (List AD)) ⊕ (List AD)):=
 if (decide (x5<(g1.Merges.length:Int))) then (
 AB (
 AB (AO g1.Merges x5) fun (x32:AD)=>
 AB (Kw x32 rows1 cols1) fun (r6:AD)=>
 AB (iter (fun (a:Bool × Int)=>Gk e1 r6 a.1 a.2) ((decide (0<r6.H)),0)) fun (keep4:Bool)=>
 if keep4 then (
 AB (A9 32 merges2 [r6]) fun (merges11:List AD)=>
 some merges11
 ) else (
 some merges2
 )
 ) fun (merges10:List AD)=>
 AB (AM .i64 (x5+1)) fun (x31:Int)=>
 some (.inl (x31,merges10))
 ) else (
 some (.inr merges2)
 )
noncomputable def FE (e1:AK) (x2:Int) (x39:Int) (x48:Int) (x49:AC):Option ((Int × AC) ⊕ AC):=
 if (decide (x48<(e1.Cells.length:Int))) then (
 AB (
 AB (AO e1.Cells x48) fun (x55:AC)=>
 if ((decide (x55.Row=x2)) && (decide (x55.Col=x39))) then (
 some x55
 ) else (
 some x49
 )
 ) fun (x53:AC)=>
 AB (AM .i64 (x48+1)) fun (x54:Int)=>
 some (.inl (x54,x53))
 ) else (
 some (.inr x49)
 )
noncomputable def Hv (g1:AJ) (e1:AK) (r1:List Int) (r3:List Int) (x2:Int) (x39:Int) (out19:AJ):Option ((Int × AJ) ⊕ AJ):=
 if (decide (x39<(r3.length:Int))) then (
 AB (
 AB (AO r1 x2) fun (x43:Int)=>
 AB (gd ((decide (0≤x43)) == true) (AO r3 x39)) fun (x44:Int)=>
 AB (
 if ((decide (0≤x43)) && (decide (0≤x44))) then (
 AB (AO r3 x39) fun (x56:Int)=>
 AB (JI g1.Cells x43 x56) fun (r8:AC)=>
 some (AC.mk x2 x39 r8.Text r8.Ref r8.Attrs)
 ) else (
 some (AC.mk x2 x39 [] 0 [])
 )
 ) fun (x45:AC)=>
 AB (iter (fun (a:Int × AC)=>FE e1 x2 x39 a.1 a.2) (0,x45)) fun (x52:AC)=>
 AB (Fh x52) fun (r7:Bool)=>
 if (!r7) then (
 AB (A9 64 out19.Cells [x52]) fun (l2:List AC)=>
 some (AJ.mk out19.Rows out19.Cols l2 [])
 ) else (
 some (AJ.mk out19.Rows out19.Cols out19.Cells [])
 )
 ) fun (out22:AJ)=>
 AB (AM .i64 (x39+1)) fun (x42:Int)=>
 some (.inl (x42,(AJ.mk out22.Rows out22.Cols out22.Cells [])))
 ) else (
 some (.inr (AJ.mk out19.Rows out19.Cols out19.Cells []))
 )
noncomputable def H8 (g1:AJ) (e1:AK) (r1:List Int) (r3:List Int) (x2:Int) (out2:AJ):Option ((Int × AJ) ⊕ AJ):=
 if (decide (x2<(r1.length:Int))) then (
 AB (iter (fun (a:Int × AJ)=>Hv g1 e1 r1 r3 x2 a.1 a.2) (0,(AJ.mk out2.Rows out2.Cols out2.Cells []))) fun (out21:AJ)=>
 AB (AM .i64 (x2+1)) fun (x41:Int)=>
 some (.inl (x41,(AJ.mk out21.Rows out21.Cols out21.Cells [])))
 ) else (
 some (.inr (AJ.mk out2.Rows out2.Cols out2.Cells []))
 )
noncomputable def IT (g1:AJ) (e1:AK):Option (AJ):=
 AB (Ip e1.Rows g1.Rows) fun (rows1:List Int)=>
 AB (Ip e1.Cols g1.Cols) fun (cols1:List Int)=>
 Az (IH rows1) fun (r1:List Int) (r2:List Int)=>
 Az (IH cols1) fun (r3:List Int) (r4:List Int)=>
 AB (iter (fun (a:Int × AJ)=>H8 g1 e1 r1 r3 a.1 a.2) (0,(AJ.mk (r1.length:Int) (r3.length:Int) [] []))) fun (out4:AJ)=>
 AB (iter (fun (a:Int × (List AD))=>GF g1 e1 rows1 cols1 a.1 a.2) (0,[])) fun (merges4:List AD)=>
 AB (iter (fun (a:Int × (List AD))=>GM e1 a.1 a.2) (0,merges4)) fun (merges8:List AD)=>
 AB (iter (fun (a:Int × AJ)=>Hm out4 merges8 a.1 a.2) (0,(AJ.mk out4.Rows out4.Cols out4.Cells []))) fun (out8:AJ)=>
 some out8
noncomputable def F6 (l1:List AC) (x5:Int) (out6:List AC):Option ((Int × (List AC)) ⊕ (List AC)):=
 if (decide (x5<(l1.length:Int))) then (
 AB (AO l1 x5) fun (x7:AC)=>
 AB (A9 64 out6 [(AC.mk x7.Row x7.Col [] 0 [])]) fun (out9:List AC)=>
 AB (AM .i64 (x5+1)) fun (x8:Int)=>
 some (.inl (x8,out9))
 ) else (
 some (.inr out6)
 )
noncomputable def Gx (from1:List AC) (x10:AC) (i20:Int) (out12:List AC):Option ((Int × (List AC)) ⊕ (Int × (List AC))):=
 AB (gd ((decide (i20<(from1.length:Int))) == true) (AO from1 i20)) fun (x14:AC)=>
 AB (gd ((decide (i20<(from1.length:Int))) == true) (EF x14 x10)) fun (r4:Int)=>
 if ((decide (i20<(from1.length:Int))) && (decide (r4<0))) then (
 AB (AO from1 i20) fun (x15:AC)=>
 AB (A9 64 out12 [(AC.mk x15.Row x15.Col [] 0 [])]) fun (out16:List AC)=>
 AB (AM .i64 (i20+1)) fun (i29:Int)=>
 some (.inl (i29,out16))
 ) else (
 some (.inr (i20,out12))
 )
noncomputable def Ig (from1:List AC) (to1:List AC) (i4:Int) (x2:Int) (out2:List AC):Option ((Int × Int × (List AC)) ⊕ (Int × (List AC))):=
 if (decide (x2<(to1.length:Int))) then (
 Az (
 AB (AO to1 x2) fun (x10:AC)=>
 Az (iter (fun (a:Int × (List AC))=>Gx from1 x10 a.1 a.2) (i4,out2)) fun (i24:Int) (out14:List AC)=>
 AB (gd ((decide (i24<(from1.length:Int))) == true) (AO from1 i24)) fun (x11:AC)=>
 AB (gd ((decide (i24<(from1.length:Int))) == true) (EF x11 x10)) fun (r1:Int)=>
 Ay (
 if ((decide (i24<(from1.length:Int))) && (decide (r1=0))) then (
 AB (AM .i64 (i24+1)) fun (i28:Int)=>
 AB (AM .i64 (i28-1)) fun (x12:Int)=>
 AB (AO from1 x12) fun (x13:AC)=>
 AB (Gu x13 x10) fun (r3:Bool)=>
 if r3 then (
 some (.ext (i28,out14))
 ) else (
 some (.nrm i28)
 )
 ) else (
 some (.nrm i24)
 )
 ) fun (i26:Int)=>
 AB (FQ x10) fun (r2:AC)=>
 AB (A9 64 out14 [r2]) fun (out15:List AC)=>
 some (i26,out15)
 ) fun (i15:Int) (out10:List AC)=>
 AB (AM .i64 (x2+1)) fun (x9:Int)=>
 some (.inl (i15,x9,out10))
 ) else (
 some (.inr (i4,out2))
 )
noncomputable def L2 (from1:List AC) (to1:List AC):Option ((List AC)):=
 Az (iter (fun (a:Int × Int × (List AC))=>Ig from1 to1 a.1 a.2.1 a.2.2) (0,0,[])) fun (i8:Int) (out4:List AC)=>
 AB (CG from1 i8 (from1.length:Int)) fun (l1:List AC)=>
 AB (iter (fun (a:Int × (List AC))=>F6 l1 a.1 a.2) (0,out4)) fun (out8:List AC)=>
 some out8
noncomputable def Fv (back1:AJ) (g1:AJ) (x5:Int) (out6:AK):Option ((Int × AK) ⊕ AK):=
 if (decide (x5<(g1.Merges.length:Int))) then (
 AB (
 AB (AO g1.Merges x5) fun (x8:AD)=>
 AB (IV back1.Merges x8) fun (r2:Bool)=>
 if (!r2) then (
 AB (A9 32 out6.Merge [x8]) fun (l1:List AD)=>
 some (AK.mk out6.Rows out6.Cols out6.Cells out6.Split l1)
 ) else (
 some out6
 )
 ) fun (out9:AK)=>
 AB (AM .i64 (x5+1)) fun (x7:Int)=>
 some (.inl (x7,out9))
 ) else (
 some (.inr out6)
 )
noncomputable def Fu (back1:AJ) (g1:AJ) (x2:Int) (out2:AK):Option ((Int × AK) ⊕ AK):=
 if (decide (x2<(back1.Merges.length:Int))) then (
 AB (
 AB (AO back1.Merges x2) fun (x10:AD)=>
 AB (IV g1.Merges x10) fun (r3:Bool)=>
 if (!r3) then (
 AB (A9 32 out2.Split [x10]) fun (l2:List AD)=>
 some (AK.mk out2.Rows out2.Cols out2.Cells l2 [])
 ) else (
 some (AK.mk out2.Rows out2.Cols out2.Cells out2.Split [])
 )
 ) fun (out10:AK)=>
 AB (AM .i64 (x2+1)) fun (x9:Int)=>
 some (.inl (x9,(AK.mk out10.Rows out10.Cols out10.Cells out10.Split [])))
 ) else (
 some (.inr (AK.mk out2.Rows out2.Cols out2.Cells out2.Split []))
 )
noncomputable def Kd (back1:AJ) (g1:AJ) (rows1:List AG) (cols1:List AG):Option (AK):=
 AB (L2 back1.Cells g1.Cells) fun (r1:List AC)=>
 AB (iter (fun (a:Int × AK)=>Fu back1 g1 a.1 a.2) (0,(AK.mk rows1 cols1 r1 [] []))) fun (out4:AK)=>
 AB (iter (fun (a:Int × AK)=>Fv back1 g1 a.1 a.2) (0,(AK.mk out4.Rows out4.Cols out4.Cells out4.Split []))) fun (out8:AK)=>
 some out8
noncomputable def MY (g1:AJ) (e1:AK):Option (AK × Int):=
 Fw (Ea g1 e1) fun (r1:Int) (r2:Int) (r3:Int)=>
 if (!decide (r3=0)) then (
 some ((AK.mk [] [] [] [] []),r3)
 ) else (
 Az (Gi e1.Rows) fun (r4:List AG) (r5:Int)=>
 Az (Gi e1.Cols) fun (r6:List AG) (r7:Int)=>
 AB (FS g1 e1) fun (r8:AJ)=>
 AB (FS r8 (AK.mk r4 r6 [] [] [])) fun (r9:AJ)=>
 AB (Kd r9 g1 r4 r6) fun (r10:AK)=>
 some (r10,0)
 )
noncomputable def GQ (a1:AK) (b1:AK):Option (Bool):=
 AB (Jj a1.Rows b1.Rows) fun (r1:Bool)=>
 AB (gd (r1 == true) (Jj a1.Cols b1.Cols)) fun (r2:Bool)=>
 AB (gd ((r1 && r2) == true) (Km a1.Cells b1.Cells)) fun (r3:Bool)=>
 AB (gd (((r1 && r2) && r3) == true) (JQ a1.Split b1.Split)) fun (r4:Bool)=>
 AB (gd ((((r1 && r2) && r3) && r4) == true) (JQ a1.Merge b1.Merge)) fun (r5:Bool)=>
 some ((((r1 && r2) && r3) && r4) && r5)
noncomputable def GV (g1:AJ) (r11:AJ) (x9:Int) (want10:AK):Option ((Int × AK) ⊕ AK):=
 if (decide (x9<(g1.Merges.length:Int))) then (
 AB (
 AB (AO g1.Merges x9) fun (x12:AD)=>
 AB (I9 r11 x12.Row x12.Col) fun (r13:AD)=>
 if (!(decide (r13.Row=x12.Row) && (decide (r13.Col=x12.Col) && (decide (r13.H=x12.H) && (decide (r13.W=x12.W) && true))))) then (
 AB (A9 32 want10.Merge [x12]) fun (l1:List AD)=>
 some (AK.mk want10.Rows want10.Cols want10.Cells want10.Split l1)
 ) else (
 some want10
 )
 ) fun (want13:AK)=>
 AB (AM .i64 (x9+1)) fun (x11:Int)=>
 some (.inl (x11,want13))
 ) else (
 some (.inr want10)
 )
noncomputable def Gl (g1:AJ) (r11:AJ) (x6:Int) (want6:AK):Option ((Int × AK) ⊕ AK):=
 if (decide (x6<(r11.Merges.length:Int))) then (
 AB (
 AB (AO r11.Merges x6) fun (x14:AD)=>
 AB (I9 g1 x14.Row x14.Col) fun (r14:AD)=>
 if (!(decide (r14.Row=x14.Row) && (decide (r14.Col=x14.Col) && (decide (r14.H=x14.H) && (decide (r14.W=x14.W) && true))))) then (
 AB (A9 32 want6.Split [x14]) fun (l2:List AD)=>
 some (AK.mk want6.Rows want6.Cols want6.Cells l2 [])
 ) else (
 some (AK.mk want6.Rows want6.Cols want6.Cells want6.Split [])
 )
 ) fun (want14:AK)=>
 AB (AM .i64 (x6+1)) fun (x13:Int)=>
 some (.inl (x13,(AK.mk want14.Rows want14.Cols want14.Cells want14.Split [])))
 ) else (
 some (.inr (AK.mk want6.Rows want6.Cols want6.Cells want6.Split []))
 )
noncomputable def IA (g1:AJ) (r11:AJ) (x3:Int) (x16:Int) (want16:AK):Option ((Int × AK) ⊕ AK):=
 if (decide (x16<g1.Cols)) then (
 AB (
 AB (JP r11 x3 x16) fun (r15:AC)=>
 AB (JP g1 x3 x16) fun (r16:AC)=>
 AB (I7 r15 r16) fun (r17:Bool)=>
 if (!r17) then (
 AB (A9 64 want16.Cells [r16]) fun (l3:List AC)=>
 some (AK.mk want16.Rows want16.Cols l3 [] [])
 ) else (
 some (AK.mk want16.Rows want16.Cols want16.Cells [] [])
 )
 ) fun (want19:AK)=>
 AB (AM .i64 (x16+1)) fun (x19:Int)=>
 some (.inl (x19,(AK.mk want19.Rows want19.Cols want19.Cells [] [])))
 ) else (
 some (.inr (AK.mk want16.Rows want16.Cols want16.Cells [] []))
 )
noncomputable def Ho (g1:AJ) (r11:AJ) (x3:Int) (want2:AK):Option ((Int × AK) ⊕ AK):=
 if (decide (x3<g1.Rows)) then (
 AB (iter (fun (a:Int × AK)=>IA g1 r11 x3 a.1 a.2) (0,(AK.mk want2.Rows want2.Cols want2.Cells [] []))) fun (want18:AK)=>
 AB (AM .i64 (x3+1)) fun (x18:Int)=>
 some (.inl (x18,(AK.mk want18.Rows want18.Cols want18.Cells [] [])))
 ) else (
 some (.inr (AK.mk want2.Rows want2.Cols want2.Cells [] []))
 )
noncomputable def Nc (g1:AJ) (e1:AK):Option (Bool):=
 AB (Kl) fun (r1:Bool)=>
 if (!r1) then (
 some false
 ) else (
 Az (MY g1 e1) fun (r2:AK) (r3:Int)=>
 AB (LG g1) fun (p1:Int)=>
 AB (
 if (decide (p1=0)) then (
 AB (Ju e1) fun (p11:Int)=>
 some p11
 ) else (
 some p1
 )
 ) fun (p2:Int)=>
 AB (
 if (decide (p2=0)) then (
 AB (KE g1 e1) fun (p10:Int)=>
 some p10
 ) else (
 some p2
 )
 ) fun (p4:Int)=>
 if (!decide (p4=0)) then (
 AB (
 if ((decide (r3=p4)) == true) then (
 AB (GQ r2 (AK.mk [] [] [] [] [])) fun (r4:Bool)=>
 some ((decide (r3=p4)) && r4)
 ) else (
 some ((decide (r3=p4)) && false)
 )
 ) fun (x1:Bool)=>
 some x1
 ) else (
 AB (Ly g1 e1) fun (r5:Bool)=>
 if (!r5) then (
 some (decide (r3=0))
 ) else (
 Az (Gi e1.Rows) fun (r6:List AG) (r7:Int)=>
 Az (Gi e1.Cols) fun (r8:List AG) (r9:Int)=>
 AB (IT g1 e1) fun (r10:AJ)=>
 AB (IT r10 (AK.mk r6 r8 [] [] [])) fun (r11:AJ)=>
 AB (iter (fun (a:Int × AK)=>Ho g1 r11 a.1 a.2) (0,(AK.mk r6 r8 [] [] []))) fun (want4:AK)=>
 AB (iter (fun (a:Int × AK)=>Gl g1 r11 a.1 a.2) (0,(AK.mk want4.Rows want4.Cols want4.Cells [] []))) fun (want8:AK)=>
 AB (iter (fun (a:Int × AK)=>GV g1 r11 a.1 a.2) (0,(AK.mk want8.Rows want8.Cols want8.Cells want8.Split []))) fun (want12:AK)=>
 AB (gd ((decide (r3=0)) == true) (GQ r2 want12)) fun (r12:Bool)=>
 some ((decide (r3=0)) && r12)
 )
 )
 )
end Go.Proofs.YtojmbndlghbpjaaGreatDoor.Al
