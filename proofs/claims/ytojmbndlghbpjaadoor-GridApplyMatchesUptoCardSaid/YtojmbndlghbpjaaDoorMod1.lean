/- Models, as printed. -/
import Derived.Test.YtojmbndlghbpjaaDoorAl2
set_option linter.all false
namespace Go.Proofs.YtojmbndlghbpjaaDoor.Al
structure AI where
 Kind:Int
 N:Int
deriving DecidableEq
instance:Inhabited AI:=⟨⟨0,0⟩⟩
@[reducible] def AI.row (x:AI):List RV:=[.int .i64 x.Kind,.int .i64 x.N]
structure RP where
 steps:List AI
 used:Int
deriving DecidableEq
instance:Inhabited RP:=⟨⟨[],0⟩⟩
structure N9 where
 out:List AI
 add:Int
 cut:Int
deriving DecidableEq
instance:Inhabited N9:=⟨⟨[],0,0⟩⟩
structure Ah where
 Name:List UInt8
 Value:List UInt8
deriving DecidableEq
instance:Inhabited Ah:=⟨⟨[],[]⟩⟩
@[reducible] def Ah.row (x:Ah):List RV:=[.str x.Name,.str x.Value]
structure Eo where
 Char:Int
 Ref:Int
 Attrs:List Ah
deriving DecidableEq
instance:Inhabited Eo:=⟨⟨0,0,[]⟩⟩
structure AE where
 Row:Int
 Col:Int
 Text:List UInt8
 Ref:Int
 Attrs:List Ah
deriving DecidableEq
instance:Inhabited AE:=⟨⟨0,0,[],0,[]⟩⟩
@[reducible] def AE.row (x:AE):List RV:=[.int .i64 x.Row,.int .i64 x.Col,.str x.Text,.int .i64 x.Ref,.sl (x.Attrs.map Ah.row)]
structure AC where
 Row:Int
 Col:Int
 H:Int
 W:Int
deriving DecidableEq
instance:Inhabited AC:=⟨⟨0,0,0,0⟩⟩
@[reducible] def AC.row (x:AC):List RV:=[.int .i64 x.Row,.int .i64 x.Col,.int .i64 x.H,.int .i64 x.W]
structure AJ where
 Rows:Int
 Cols:Int
 Cells:List AE
 Merges:List AC
deriving DecidableEq
instance:Inhabited AJ:=⟨⟨0,0,[],[]⟩⟩
@[reducible] def AJ.row (x:AJ):List RV:=[.int .i64 x.Rows,.int .i64 x.Cols,.sl (x.Cells.map AE.row),.sl (x.Merges.map AC.row)]
structure JC where
 Clock:Int
 Site:Int
 Kind:Int
 Item:Int
 Parent:Int
 Place:List UInt8
 Name:List UInt8
 Value:List UInt8
deriving DecidableEq
instance:Inhabited JC:=⟨⟨0,0,0,0,0,[],[],[]⟩⟩
structure LN where
 ID:Int
 Kind:Int
 Attrs:List Ah
 Flow:List Eo
 Grid:AJ
 Draw:List JC
deriving DecidableEq
instance:Inhabited LN:=⟨⟨0,0,[],[],(AJ.mk 0 0 [] []),[]⟩⟩
structure GStep where
 Kind:Int
 N:Int
 Attrs:List Ah
 Elems:List Eo
deriving DecidableEq
instance:Inhabited GStep:=⟨⟨0,0,[],[]⟩⟩
structure Aj where
 Rows:List AI
 Cols:List AI
 Cells:List AE
 Split:List AC
 Merge:List AC
deriving DecidableEq
instance:Inhabited Aj:=⟨⟨[],[],[],[],[]⟩⟩
@[reducible] def Aj.row (x:Aj):List RV:=[.sl (x.Rows.map AI.row),.sl (x.Cols.map AI.row),.sl (x.Cells.map AE.row),.sl (x.Split.map AC.row),.sl (x.Merge.map AC.row)]
structure P1 where
 Kind:Int
 Node:Int
 New:LN
 Attrs:List Ah
 Steps:List GStep
 Grid:Aj
 Draw:List JC
deriving DecidableEq
instance:Inhabited P1:=⟨⟨0,0,(LN.mk 0 0 [] [] (AJ.mk 0 0 [] []) []),[],[],(Aj.mk [] [] [] [] []),[]⟩⟩
structure Ry where
 Site:Int
 Number:Int
 Change:List P1
 Undoes:Int
 Refused:Int
deriving DecidableEq
instance:Inhabited Ry:=⟨⟨0,0,[],0,0⟩⟩
structure KW where
 From:Int
 To:Int
deriving DecidableEq
instance:Inhabited KW:=⟨⟨0,0⟩⟩
noncomputable def CS (x1:Int) (low1:Int) (high1:Int):Option (Bool):=
 some ((decide (low1≤x1)) && (decide (x1≤high1)))
noncomputable def HU (a1:List AI) (before2:Int) (after2:Int) (x2:Int):Option ((Int × Int × Int) ⊕ (Af (Int × Int) Int)):=
 if (decide (x2<(a1.length:Int))) then (
 EZ (
 AB (AO a1 x2) fun (x5:AI)=>
 if ((decide (x5.Kind<0)) || (decide (2<x5.Kind))) then (
 some (.ext (.inr (.ext 8)))
 ) else (
 if ((decide (x5.N<1)) || (decide (2147483647<x5.N))) then (
 some (.ext (.inr (.ext 2)))
 ) else (
 AB (gd ((decide (0<x2)) == true) (AL .i64 (x2-1))) fun (x6:Int)=>
 AB (gd ((decide (0<x2)) == true) (AO a1 x6)) fun (x7:AI)=>
 if ((decide (0<x2)) && ((decide (x7.Kind=x5.Kind)) || ((decide (x7.Kind=2)) && (decide (x5.Kind=1))))) then (
 some (.ext (.inr (.ext 5)))
 ) else (
 AB (
 if (!decide (x5.Kind=1)) then (
 AB (AL .i64 (before2+x5.N)) fun (x9:Int)=>
 some (min x9 2147483648)
 ) else (
 some before2
 )
 ) fun (before6:Int)=>
 if (!decide (x5.Kind=2)) then (
 AB (AL .i64 (after2+x5.N)) fun (x8:Int)=>
 some (.nrm (before6,(min x8 2147483648)))
 ) else (
 some (.nrm (before6,after2))
 )
 )
 )
 )
 ) fun (before5:Int) (after5:Int)=>
 AB (AL .i64 (x2+1)) fun (x4:Int)=>
 some (.inl (before5,after5,x4))
 ) else (
 some (.inr (.nrm (before2,after2)))
 )
noncomputable def G6 (a1:List AI):Option (Int):=
 EZ (iter (fun (a:Int × Int × Int)=>HU a1 a.1 a.2.1 a.2.2) (0,0,0)) fun (before4:Int) (after4:Int)=>
 if ((decide (2147483647<before4)) || (decide (2147483647<after4))) then (
 some 3
 ) else (
 some 0
 )
noncomputable def Hd (a1:List AI) (before2:Int) (after2:Int) (x2:Int):Option ((Int × Int × Int) ⊕ (Int × Int)):=
 if (decide (x2<(a1.length:Int))) then (
 Aw (
 AB (AO a1 x2) fun (x5:AI)=>
 AB (
 if (!decide (x5.Kind=1)) then (
 AB (AL .i64 (before2+x5.N)) fun (before7:Int)=>
 some before7
 ) else (
 some before2
 )
 ) fun (before6:Int)=>
 if (!decide (x5.Kind=2)) then (
 AB (AL .i64 (after2+x5.N)) fun (after6:Int)=>
 some (before6,after6)
 ) else (
 some (before6,after2)
 )
 ) fun (before5:Int) (after5:Int)=>
 AB (AL .i64 (x2+1)) fun (x4:Int)=>
 some (.inl (before5,after5,x4))
 ) else (
 some (.inr (before2,after2))
 )
noncomputable def Hs (a1:List AI):Option (Int × Int):=
 Aw (iter (fun (a:Int × Int × Int)=>Hd a1 a.1 a.2.1 a.2.2) (0,0,0)) fun (before4:Int) (after4:Int)=>
 some (before4,after4)
noncomputable def HR (a1:List AI) (p1:Int) (from2:Int) (to2:Int) (x2:Int):Option ((Int × Int × Int) ⊕ (Af Unit Int)):=
 if (decide (x2<(a1.length:Int))) then (
 EZ (
 AB (AO a1 x2) fun (x5:AI)=>
 Ar (
 if (decide (x5.Kind=1)) then (
 AB (AL .i64 (to2+x5.N)) fun (to6:Int)=>
 some (.ext (.nrm (from2,to6)))
 ) else (
 if (decide (x5.Kind=0)) then (
 AB (AL .i64 (from2+x5.N)) fun (x6:Int)=>
 if (decide (p1<x6)) then (
 AB (AL .i64 (to2+p1)) fun (x7:Int)=>
 AB (AL .i64 (x7-from2)) fun (x8:Int)=>
 some (.ext (.ext (.inr (.ext x8))))
 ) else (
 AB (AL .i64 (to2+x5.N)) fun (to7:Int)=>
 some (.nrm to7)
 )
 ) else (
 AB (AL .i64 (from2+x5.N)) fun (x9:Int)=>
 if (decide (p1<x9)) then (
 some (.ext (.ext (.inr (.ext (-1)))))
 ) else (
 some (.nrm to2)
 )
 )
 )
 ) fun (to5:Int)=>
 AB (AL .i64 (from2+x5.N)) fun (from5:Int)=>
 some (.nrm (from5,to5))
 ) fun (from4:Int) (to4:Int)=>
 AB (AL .i64 (x2+1)) fun (x4:Int)=>
 some (.inl (from4,to4,x4))
 ) else (
 some (.inr (.nrm ()))
 )
noncomputable def Jh (a1:List AI) (p1:Int):Option (Int):=
 Ar (iter (fun (a:Int × Int × Int)=>HR a1 p1 a.1 a.2.1 a.2.2) (0,0,0)) fun (u2:Unit)=>
 some (-1)
noncomputable def IA (a1:List AI) (places1:List Int) (r1:Int) (x2:Int) (out2:List Int):Option ((Int × (List Int)) ⊕ (Af (List Int) ((List Int) × Int))):=
 if (decide (x2<(places1.length:Int))) then (
 AB (AO places1 x2) fun (x4:Int)=>
 if ((decide (x4<0)) || (decide (r1≤x4))) then (
 some (.inr (.ext ([],2)))
 ) else (
 AB (Jh a1 x4) fun (r3:Int)=>
 AB (BR 8 out2 [r3]) fun (out5:List Int)=>
 AB (AL .i64 (x2+1)) fun (x5:Int)=>
 some (.inl (x5,out5))
 )
 ) else (
 some (.inr (.nrm out2))
 )
noncomputable def EV (a1:List AI) (places1:List Int):Option ((List Int) × Int):=
 AB (G6 a1) fun (e1:Int)=>
 if (!decide (e1=0)) then (
 some ([],e1)
 ) else (
 Aw (Hs a1) fun (r1:Int) (r2:Int)=>
 Ar (iter (fun (a:Int × (List Int))=>IA a1 places1 r1 a.1 a.2) (0,[])) fun (out4:List Int)=>
 some (out4,0)
 )
noncomputable def HM (a1:List AI) (old2:Int) (now2:Int) (x2:Int):Option ((Int × Int × Int) ⊕ (Af (Int × Int) Int)):=
 if (decide (x2<(a1.length:Int))) then (
 EZ (
 AB (AO a1 x2) fun (x5:AI)=>
 AB (CS x5.Kind 0 2) fun (r1:Bool)=>
 if (!r1) then (
 some (.ext (.inr (.ext 8)))
 ) else (
 AB (CS x5.N 1 2147483647) fun (r2:Bool)=>
 if (!r2) then (
 some (.ext (.inr (.ext 2)))
 ) else (
 AB (gd ((decide (0<x2)) == true) (AL .i64 (x2-1))) fun (x6:Int)=>
 AB (gd ((decide (0<x2)) == true) (AO a1 x6)) fun (x7:AI)=>
 AB (gd ((((decide (0<x2)) == true) && ((decide (x5.Kind=x7.Kind)) == false)) && ((decide (x5.Kind=1)) == true)) (AL .i64 (x2-1))) fun (x8:Int)=>
 AB (gd ((((decide (0<x2)) == true) && ((decide (x5.Kind=x7.Kind)) == false)) && ((decide (x5.Kind=1)) == true)) (AO a1 x8)) fun (x9:AI)=>
 if ((decide (0<x2)) && ((decide (x5.Kind=x7.Kind)) || ((decide (x5.Kind=1)) && (decide (x9.Kind=2))))) then (
 some (.ext (.inr (.ext 5)))
 ) else (
 AB (
 if ((!decide (x5.Kind=1)) && (decide (old2<2147483648))) then (
 AB (AL .i64 (old2+x5.N)) fun (old7:Int)=>
 some old7
 ) else (
 some old2
 )
 ) fun (old6:Int)=>
 if ((!decide (x5.Kind=2)) && (decide (now2<2147483648))) then (
 AB (AL .i64 (now2+x5.N)) fun (now6:Int)=>
 some (.nrm (old6,now6))
 ) else (
 some (.nrm (old6,now2))
 )
 )
 )
 )
 ) fun (old5:Int) (now5:Int)=>
 AB (AL .i64 (x2+1)) fun (x4:Int)=>
 some (.inl (old5,now5,x4))
 ) else (
 some (.inr (.nrm (old2,now2)))
 )
noncomputable def H1 (a1:List AI):Option (Int):=
 EZ (iter (fun (a:Int × Int × Int)=>HM a1 a.1 a.2.1 a.2.2) (0,0,0)) fun (old4:Int) (now4:Int)=>
 if ((decide (2147483647<old4)) || (decide (2147483647<now4))) then (
 some 3
 ) else (
 some 0
 )
noncomputable def HQ (a1:List AI) (n2:Int) (x2:Int):Option ((Int × Int) ⊕ Int):=
 if (decide (x2<(a1.length:Int))) then (
 AB (AO a1 x2) fun (x4:AI)=>
 AB (AL .i64 (n2+x4.N)) fun (n5:Int)=>
 AB (AL .i64 (x2+1)) fun (x5:Int)=>
 some (.inl (n5,x5))
 ) else (
 some (.inr n2)
 )
noncomputable def Hm (a1:List AI):Option (Int):=
 AB (iter (fun (a:Int × Int)=>HQ a1 a.1 a.2) (0,0)) fun (n4:Int)=>
 some n4
noncomputable def E3 (x4:AI) (x6:Int) (out6:List Int):Option ((Int × (List Int)) ⊕ (List Int)):=
 if (decide (x6<x4.N)) then (
 AB (BR 8 out6 [x4.Kind]) fun (out9:List Int)=>
 AB (AL .i64 (x6+1)) fun (x9:Int)=>
 some (.inl (x9,out9))
 ) else (
 some (.inr out6)
 )
noncomputable def D0 (a1:List AI) (x2:Int) (out2:List Int):Option ((Int × (List Int)) ⊕ (List Int)):=
 if (decide (x2<(a1.length:Int))) then (
 AB (AO a1 x2) fun (x4:AI)=>
 AB (iter (fun (a:Int × (List Int))=>E3 x4 a.1 a.2) (0,out2)) fun (out8:List Int)=>
 AB (AL .i64 (x2+1)) fun (x8:Int)=>
 some (.inl (x8,out8))
 ) else (
 some (.inr out2)
 )
noncomputable def GH (a1:List AI):Option ((List Int)):=
 AB (iter (fun (a:Int × (List Int))=>D0 a1 a.1 a.2) (0,[])) fun (out4:List Int)=>
 some out4
noncomputable def Hw (units1:List Int) (old2:Int) (x2:Int) (rows2:List Int) (ahead2:List Int):Option ((Int × Int × (List Int) × (List Int)) ⊕ ((List Int) × (List Int))):=
 if (decide (x2<(units1.length:Int))) then (
 Gk (
 AB (AO units1 x2) fun (x5:Int)=>
 if (decide (x5=0)) then (
 AB (BR 8 rows2 [old2]) fun (rows6:List Int)=>
 AB (BR 8 ahead2 [old2]) fun (ahead6:List Int)=>
 AB (AL .i64 (old2+1)) fun (old5:Int)=>
 some (old5,rows6,ahead6)
 ) else (
 if (decide (x5=1)) then (
 AB (BR 8 rows2 [(-1)]) fun (rows7:List Int)=>
 AB (BR 8 ahead2 [old2]) fun (ahead7:List Int)=>
 some (old2,rows7,ahead7)
 ) else (
 AB (AL .i64 (old2+1)) fun (old6:Int)=>
 some (old6,rows2,ahead2)
 )
 )
 ) fun (old4:Int) (rows5:List Int) (ahead5:List Int)=>
 AB (AL .i64 (x2+1)) fun (x4:Int)=>
 some (.inl (old4,x4,rows5,ahead5))
 ) else (
 some (.inr (rows2,ahead2))
 )
noncomputable def Gf (units1:List Int):Option ((List Int) × (List Int)):=
 Aw (iter (fun (a:Int × Int × (List Int) × (List Int))=>Hw units1 a.1 a.2.1 a.2.2.1 a.2.2.2) (0,0,[],[])) fun (rows4:List Int) (ahead4:List Int)=>
 some (rows4,ahead4)
noncomputable def Gc (row1:Int) (r1:List Int) (x2:Int):Option (Int ⊕ (Af Unit Int)):=
 if (decide (x2<(r1.length:Int))) then (
 AB (AO r1 x2) fun (x4:Int)=>
 if (decide (x4=row1)) then (
 some (.inr (.ext x2))
 ) else (
 AB (AL .i64 (x2+1)) fun (x5:Int)=>
 some (.inl x5)
 )
 ) else (
 some (.inr (.nrm ()))
 )
noncomputable def Jb (units1:List Int) (row1:Int):Option (Int):=
 Aw (Gf units1) fun (r1:List Int) (r2:List Int)=>
 Ar (iter (fun (a:Int)=>Gc row1 r1 a) 0) fun (u2:Unit)=>
 some (-1)
noncomputable def HY (s1:List UInt8) (x2:Int):Option (Int ⊕ (Af Unit Bool)):=
 if (decide (x2<(s1.length:Int))) then (
 AB (AO s1 x2) fun (c1:UInt8)=>
 if (((((decide ((c1.toNat:Int)<97)) || (decide (122<(c1.toNat:Int)))) && ((decide ((c1.toNat:Int)<48)) || (decide (57<(c1.toNat:Int))))) && (!decide ((c1.toNat:Int)=46))) && (!decide ((c1.toNat:Int)=45))) then (
 some (.inr (.ext false))
 ) else (
 AB (AL .i64 (x2+1)) fun (x4:Int)=>
 some (.inl x4)
 )
 ) else (
 some (.inr (.nrm ()))
 )
noncomputable def IV (s1:List UInt8):Option (Bool):=
 AB (gd (((decide (s1=[])) || (decide (24<(s1.length:Int)))) == false) (AO s1 0)) fun (ch1:UInt8)=>
 AB (gd ((((decide (s1=[])) || (decide (24<(s1.length:Int)))) || (decide ((ch1.toNat:Int)<97))) == false) (AO s1 0)) fun (ch2:UInt8)=>
 if ((((decide (s1=[])) || (decide (24<(s1.length:Int)))) || (decide ((ch1.toNat:Int)<97))) || (decide (122<(ch2.toNat:Int)))) then (
 some false
 ) else (
 Ar (iter (fun (a:Int)=>HY s1 a) 0) fun (u2:Unit)=>
 some true
 )
noncomputable def Jt (s1:List UInt8) (x2:Int):Option (Int ⊕ (Af Unit Bool)):=
 if (decide (x2<(s1.length:Int))) then (
 AB (AO s1 x2) fun (ch1:UInt8)=>
 if ((decide ((ch1.toNat:Int)<32)) || (decide (126<(ch1.toNat:Int)))) then (
 some (.inr (.ext false))
 ) else (
 AB (AL .i64 (x2+1)) fun (x4:Int)=>
 some (.inl x4)
 )
 ) else (
 some (.inr (.nrm ()))
 )
noncomputable def I0 (s1:List UInt8):Option (Bool):=
 if ((decide (s1=[])) || (decide (200<(s1.length:Int)))) then (
 some false
 ) else (
 Ar (iter (fun (a:Int)=>Jt s1 a) 0) fun (u2:Unit)=>
 some true
 )
noncomputable def Hq (l1:List Ah) (empty1:Bool) (x2:Int):Option (Int ⊕ (Af Unit Int)):=
 if (decide (x2<(l1.length:Int))) then (
 AB (AO l1 x2) fun (x4:Ah)=>
 AB (IV x4.Name) fun (r1:Bool)=>
 if (!r1) then (
 some (.inr (.ext 9))
 ) else (
 AB (I0 x4.Value) fun (r2:Bool)=>
 if ((!r2) && (!(empty1 && (decide (x4.Value=[]))))) then (
 some (.inr (.ext 23))
 ) else (
 AB (gd ((decide (0<x2)) == true) (AL .i64 (x2-1))) fun (x5:Int)=>
 AB (gd ((decide (0<x2)) == true) (AO l1 x5)) fun (x6:Ah)=>
 if ((decide (0<x2)) && (CV x4.Name x6.Name || decide (x4.Name=x6.Name))) then (
 some (.inr (.ext 5))
 ) else (
 AB (AL .i64 (x2+1)) fun (x7:Int)=>
 some (.inl x7)
 )
 )
 )
 ) else (
 some (.inr (.nrm ()))
 )
noncomputable def Jc (l1:List Ah) (empty1:Bool):Option (Int):=
 Ar (iter (fun (a:Int)=>Hq l1 empty1 a) 0) fun (u2:Unit)=>
 some 0
noncomputable def Ia (l1:List Ah):Option (Int):=
 AB (Jc l1 false) fun (r1:Int)=>
 some r1
noncomputable def JD (a1:List Ah) (b1:List Ah) (x2:Int):Option (Int ⊕ (Af Unit Bool)):=
 if (decide (x2<(a1.length:Int))) then (
 AB (AO a1 x2) fun (x4:Ah)=>
 AB (AO b1 x2) fun (x5:Ah)=>
 if (!(decide (x4.Name=x5.Name) && (decide (x4.Value=x5.Value) && true))) then (
 some (.inr (.ext false))
 ) else (
 AB (AL .i64 (x2+1)) fun (x6:Int)=>
 some (.inl x6)
 )
 ) else (
 some (.inr (.nrm ()))
 )
noncomputable def Iz (a1:List Ah) (b1:List Ah):Option (Bool):=
 if (!decide ((a1.length:Int)=(b1.length:Int))) then (
 some false
 ) else (
 Ar (iter (fun (a:Int)=>JD a1 b1 a) 0) fun (u2:Unit)=>
 some true
 )
noncomputable def Hc (s1:List UInt8) (x2:Int):Option (Int ⊕ (Af Unit Bool)):=
 if (decide (x2<(s1.length:Int))) then (
 AB (AO s1 x2) fun (ch1:UInt8)=>
 if ((!((decide (97≤(ch1.toNat:Int))) && (decide ((ch1.toNat:Int)≤122)))) && ((decide (x2=0)) || (((!decide ((ch1.toNat:Int)=46)) && (!decide ((ch1.toNat:Int)=45))) && ((decide ((ch1.toNat:Int)<48)) || (decide (57<(ch1.toNat:Int))))))) then (
 some (.inr (.ext false))
 ) else (
 AB (AL .i64 (x2+1)) fun (x4:Int)=>
 some (.inl x4)
 )
 ) else (
 some (.inr (.nrm ()))
 )
noncomputable def Jx (s1:List UInt8):Option (Bool):=
 Ar (iter (fun (a:Int)=>Hc s1 a) 0) fun (u2:Unit)=>
 some ((decide (1≤(s1.length:Int))) && (decide ((s1.length:Int)≤24)))
noncomputable def JK (s1:List UInt8) (x2:Int):Option (Int ⊕ (Af Unit Bool)):=
 if (decide (x2<(s1.length:Int))) then (
 AB (AO s1 x2) fun (ch1:UInt8)=>
 if ((decide ((ch1.toNat:Int)<32)) || (decide (126<(ch1.toNat:Int)))) then (
 some (.inr (.ext false))
 ) else (
 AB (AL .i64 (x2+1)) fun (x4:Int)=>
 some (.inl x4)
 )
 ) else (
 some (.inr (.nrm ()))
 )
noncomputable def IS (s1:List UInt8):Option (Bool):=
 Ar (iter (fun (a:Int)=>JK s1 a) 0) fun (u2:Unit)=>
 some ((decide (1≤(s1.length:Int))) && (decide ((s1.length:Int)≤200)))
noncomputable def Ha (l1:List Ah) (change1:Bool) (x2:Int):Option (Int ⊕ (Af Unit Int)):=
 if (decide (x2<(l1.length:Int))) then (
 AB (AO l1 x2) fun (x4:Ah)=>
 AB (Jx x4.Name) fun (r1:Bool)=>
 if (!r1) then (
 some (.inr (.ext 9))
 ) else (
 AB (IS x4.Value) fun (r2:Bool)=>
 if ((!r2) && ((!decide (x4.Value=[])) || (!change1))) then (
 some (.inr (.ext 23))
 ) else (
 AB (gd ((decide (0<x2)) == true) (AL .i64 (x2-1))) fun (x5:Int)=>
 AB (gd ((decide (0<x2)) == true) (AO l1 x5)) fun (x6:Ah)=>
 if ((decide (0<x2)) && (!CV x6.Name x4.Name)) then (
 some (.inr (.ext 5))
 ) else (
 AB (AL .i64 (x2+1)) fun (x7:Int)=>
 some (.inl x7)
 )
 )
 )
 ) else (
 some (.inr (.nrm ()))
 )
noncomputable def JJ (l1:List Ah) (change1:Bool):Option (Int):=
 Ar (iter (fun (a:Int)=>Ha l1 change1 a) 0) fun (u2:Unit)=>
 some 0
noncomputable def KA (c1:Int):Option (Bool):=
 some (((((decide (c1=9)) || (decide (c1=10))) || ((decide (32≤c1)) && (decide (c1<127)))) || ((decide (160≤c1)) && (decide (c1<55296)))) || ((decide (57343<c1)) && (decide (c1≤1114111))))
noncomputable def Id (c1:Int):Option (Bool):=
 AB (gd (((decide (c1=9)) || (decide (c1=10))) == false) (CS c1 32 126)) fun (r1:Bool)=>
 AB (gd ((((decide (c1=9)) || (decide (c1=10))) || r1) == false) (CS c1 160 55295)) fun (r2:Bool)=>
 AB (gd (((((decide (c1=9)) || (decide (c1=10))) || r1) || r2) == false) (CS c1 57344 1114111)) fun (r3:Bool)=>
 some (((((decide (c1=9)) || (decide (c1=10))) || r1) || r2) || r3)
noncomputable def M0 (a1:List Ah) (b1:List Ah) (x2:Int):Option (Int ⊕ (Af Unit Bool)):=
 if (decide (x2<(a1.length:Int))) then (
 AB (AO a1 x2) fun (x4:Ah)=>
 AB (AO b1 x2) fun (x5:Ah)=>
 if (!(decide (x4.Name=x5.Name) && (decide (x4.Value=x5.Value) && true))) then (
 some (.inr (.ext false))
 ) else (
 AB (AL .i64 (x2+1)) fun (x6:Int)=>
 some (.inl x6)
 )
 ) else (
 some (.inr (.nrm ()))
 )
noncomputable def L4 (a1:List Ah) (b1:List Ah):Option (Bool):=
 if (!decide ((a1.length:Int)=(b1.length:Int))) then (
 some false
 ) else (
 Ar (iter (fun (a:Int)=>M0 a1 b1 a) 0) fun (u2:Unit)=>
 some true
 )
noncomputable def JS (a1:List AI):Option (Int × Int × Int):=
 AB (G6 a1) fun (e1:Int)=>
 if (!decide (e1=0)) then (
 some (0,0,e1)
 ) else (
 Aw (Hs a1) fun (r1:Int) (r2:Int)=>
 some (r1,r2,0)
 )
noncomputable def HK (a1:List AI) (from1:Int) (to1:Int) (first2:Int) (last2:Int) (old2:Int) (now2:Int) (x2:Int):Option ((Int × Int × Int × Int × Int) ⊕ (Int × Int)):=
 if (decide (x2<(a1.length:Int))) then (
 LV (
 AB (AO a1 x2) fun (x5:AI)=>
 AB (AL .i64 (old2+x5.N)) fun (x6:Int)=>
 Aw (
 if ((decide (x5.Kind=0)) && (decide ((max from1 old2)<(min to1 x6)))) then (
 AB (
 if (decide (last2=0)) then (
 AB (AL .i64 (now2+(max from1 old2))) fun (x8:Int)=>
 AB (AL .i64 (x8-old2)) fun (first8:Int)=>
 some first8
 ) else (
 some first2
 )
 ) fun (first7:Int)=>
 AB (AL .i64 (now2+(min to1 x6))) fun (x7:Int)=>
 AB (AL .i64 (x7-old2)) fun (last7:Int)=>
 some (first7,last7)
 ) else (
 some (first2,last2)
 )
 ) fun (first6:Int) (last6:Int)=>
 AB (
 if (!decide (x5.Kind=2)) then (
 AB (AL .i64 (now2+x5.N)) fun (now6:Int)=>
 some now6
 ) else (
 some now2
 )
 ) fun (now5:Int)=>
 if (!decide (x5.Kind=1)) then (
 some (first6,last6,x6,now5)
 ) else (
 some (first6,last6,old2,now5)
 )
 ) fun (first5:Int) (last5:Int) (old4:Int) (now4:Int)=>
 AB (AL .i64 (x2+1)) fun (x4:Int)=>
 some (.inl (first5,last5,old4,now4,x4))
 ) else (
 some (.inr (first2,last2))
 )
noncomputable def EK (a1:List AI) (from1:Int) (to1:Int):Option (Int × Int):=
 Aw (iter (fun (a:Int × Int × Int × Int × Int)=>HK a1 from1 to1 a.1 a.2.1 a.2.2.1 a.2.2.2.1 a.2.2.2.2) (0,0,0,0,0)) fun (first4:Int) (last4:Int)=>
 some (first4,last4)
noncomputable def HS (units1:List Int) (from1:Int) (low2:Int) (high2:Int) (row3:Int):Option ((Int × Int × Int) ⊕ (Int × Int)):=
 if (decide (from1≤row3)) then (
 Aw (
 AB (Jb units1 row3) fun (k1:Int)=>
 if (decide (0≤k1)) then (
 if (decide (high2=0)) then (
 AB (AL .i64 (k1+1)) fun (high6:Int)=>
 some (k1,high6)
 ) else (
 some (k1,high2)
 )
 ) else (
 some (low2,high2)
 )
 ) fun (low5:Int) (high5:Int)=>
 AB (AL .i64 (row3-1)) fun (row5:Int)=>
 some (.inl (low5,high5,row5))
 ) else (
 some (.inr (low2,high2))
 )
noncomputable def HE (units1:List Int) (from1:Int) (to1:Int):Option (Int × Int):=
 AB (AL .i64 (to1-1)) fun (row1:Int)=>
 Aw (iter (fun (a:Int × Int × Int)=>HS units1 from1 a.1 a.2.1 a.2.2) (0,0,row1)) fun (low4:Int) (high4:Int)=>
 some (low4,high4)
structure Tl where
 Adds:List (List Eo)
 Cuts:List Bool
 Attrs:List (List Ah)
deriving DecidableEq
instance:Inhabited Tl:=⟨⟨[],[],[]⟩⟩
structure T1 where
 steps:List GStep
 used:Int
deriving DecidableEq
instance:Inhabited T1:=⟨⟨[],0⟩⟩
structure Rx where
 out:List GStep
 add:List Eo
 cut:Int
deriving DecidableEq
instance:Inhabited Rx:=⟨⟨[],[],0⟩⟩
structure OG where
 Kind:Int
 Node:Int
 From:Int
 To:Int
 Name:List UInt8
deriving DecidableEq
instance:Inhabited OG:=⟨⟨0,0,0,0,[]⟩⟩
structure UG where
 node:Int
 out:List Eo
 bad:List OG
deriving DecidableEq
instance:Inhabited UG:=⟨⟨0,[],[]⟩⟩
structure RE where
 adds:List (List Eo)
 cut:List Bool
 attrs:List (List Ah)
deriving DecidableEq
instance:Inhabited RE:=⟨⟨[],[],[]⟩⟩
structure FI where
 lo:Int
 hi:Int
deriving DecidableEq
instance:Inhabited FI:=⟨⟨0,0⟩⟩
@[reducible] def FI.row (x:FI):List RV:=[.int .u8 x.lo,.int .u8 x.hi]
noncomputable def Lk:List FI:=Fp.map fun p=>FI.mk p.1 p.2
noncomputable def Jf (s1:List UInt8):Option (Int × Int):=
 if (decide ((s1.length:Int)<1)) then (
 some (65533,0)
 ) else (
 AB (AO s1 0) fun (s01:UInt8)=>
 AB (AO D5 (s01.toNat:Int)) fun (x1:Int)=>
 if (decide (240≤x1)) then (
 some ((CX .i32 (Km .i32 (IntKind.i32.wrap (s01.toNat:Int)) (FX .i32 (CF .i32 (IntKind.i32.wrap x1) 31) 31)) (Ba .i32 65533 (FX .i32 (CF .i32 (IntKind.i32.wrap x1) 31) 31))),1)
 ) else (
 AB (AO Lk (FX .u8 x1 4)) fun (x2:FI)=>
 if (decide ((s1.length:Int)<(IntKind.i64.wrap (Ba .u8 x1 7)))) then (
 some (65533,1)
 ) else (
 AB (AO s1 1) fun (s11:UInt8)=>
 if ((decide ((s11.toNat:Int)<x2.lo)) || (decide (x2.hi<(s11.toNat:Int)))) then (
 some (65533,1)
 ) else (
 if (decide ((IntKind.i64.wrap (Ba .u8 x1 7))≤2)) then (
 some ((CX .i32 (CF .i32 (IntKind.i32.wrap (Ba .u8 (s01.toNat:Int) 31)) 6) (IntKind.i32.wrap (Ba .u8 (s11.toNat:Int) 63))),2)
 ) else (
 AB (AO s1 2) fun (s21:UInt8)=>
 if ((decide ((s21.toNat:Int)<128)) || (decide (191<(s21.toNat:Int)))) then (
 some (65533,1)
 ) else (
 if (decide ((IntKind.i64.wrap (Ba .u8 x1 7))≤3)) then (
 some ((CX .i32 (CX .i32 (CF .i32 (IntKind.i32.wrap (Ba .u8 (s01.toNat:Int) 15)) 12) (CF .i32 (IntKind.i32.wrap (Ba .u8 (s11.toNat:Int) 63)) 6)) (IntKind.i32.wrap (Ba .u8 (s21.toNat:Int) 63))),3)
 ) else (
 AB (AO s1 3) fun (s31:UInt8)=>
 if ((decide ((s31.toNat:Int)<128)) || (decide (191<(s31.toNat:Int)))) then (
 some (65533,1)
 ) else (
 some ((CX .i32 (CX .i32 (CX .i32 (CF .i32 (IntKind.i32.wrap (Ba .u8 (s01.toNat:Int) 7)) 18) (CF .i32 (IntKind.i32.wrap (Ba .u8 (s11.toNat:Int) 63)) 12)) (CF .i32 (IntKind.i32.wrap (Ba .u8 (s21.toNat:Int) 63)) 6)) (IntKind.i32.wrap (Ba .u8 (s31.toNat:Int) 63))),4)
 )
 )
 )
 )
 )
 )
 )
 )
noncomputable def Iv (s1:List UInt8):Option (Int × Int):=
 AB (gd ((!decide (s1=[])) == true) (AO s1 0)) fun (ch1:UInt8)=>
 if ((!decide (s1=[])) && (decide ((ch1.toNat:Int)<128))) then (
 AB (AO s1 0) fun (ch2:UInt8)=>
 some ((IntKind.i32.wrap (ch2.toNat:Int)),1)
 ) else (
 Aw (Jf s1) fun (r1:Int) (r2:Int)=>
 some (r1,r2)
 )
structure TN where
 Nodes:List LN
deriving DecidableEq
instance:Inhabited TN:=⟨⟨[]⟩⟩
noncomputable def MO (s11:List AC) (s21:List AC) (x2:Int):Option (Int ⊕ (Af Unit Bool)):=
 if (decide (x2<(s11.length:Int))) then (
 AB (AO s11 x2) fun (x4:AC)=>
 AB (AO s21 x2) fun (x5:AC)=>
 if (!(decide (x4.Row=x5.Row) && (decide (x4.Col=x5.Col) && (decide (x4.H=x5.H) && (decide (x4.W=x5.W) && true))))) then (
 some (.inr (.ext false))
 ) else (
 AB (AL .i64 (x2+1)) fun (x6:Int)=>
 some (.inl x6)
 )
 ) else (
 some (.inr (.nrm ()))
 )
noncomputable def NZ (s11:List AC) (s21:List AC):Option (Bool):=
 if (!decide ((s11.length:Int)=(s21.length:Int))) then (
 some false
 ) else (
 Ar (iter (fun (a:Int)=>MO s11 s21 a) 0) fun (u2:Unit)=>
 some true
 )
noncomputable def MU (a1:AE) (b1:AE):Option (Bool):=
 AB (gd (((((decide (a1.Row=b1.Row)) && (decide (a1.Col=b1.Col))) && (decide (a1.Text=b1.Text))) && (decide (a1.Ref=b1.Ref))) == true) (L4 a1.Attrs b1.Attrs)) fun (r1:Bool)=>
 some (((((decide (a1.Row=b1.Row)) && (decide (a1.Col=b1.Col))) && (decide (a1.Text=b1.Text))) && (decide (a1.Ref=b1.Ref))) && r1)
noncomputable def Mx (s11:List AE) (s21:List AE) (x2:Int):Option (Int ⊕ (Af Unit Bool)):=
 if (decide (x2<(s11.length:Int))) then (
 AB (AO s11 x2) fun (x4:AE)=>
 AB (AO s21 x2) fun (x5:AE)=>
 AB (MU x4 x5) fun (r1:Bool)=>
 if (!r1) then (
 some (.inr (.ext false))
 ) else (
 AB (AL .i64 (x2+1)) fun (x6:Int)=>
 some (.inl x6)
 )
 ) else (
 some (.inr (.nrm ()))
 )
noncomputable def Nf (s11:List AE) (s21:List AE):Option (Bool):=
 if (!decide ((s11.length:Int)=(s21.length:Int))) then (
 some false
 ) else (
 Ar (iter (fun (a:Int)=>Mx s11 s21 a) 0) fun (u2:Unit)=>
 some true
 )
noncomputable def DV (s3:List UInt8):Option ((List UInt8) ⊕ (Af Unit Bool)):=
 if (!decide (s3=[])) then (
 Aw (Iv s3) fun (r1:Int) (r2:Int)=>
 AB (gd ((((decide (r1=65533)) && (decide (r2=1))) || (decide (r1=10))) == false) (KA (IntKind.i64.wrap r1))) fun (r3:Bool)=>
 if ((((decide (r1=65533)) && (decide (r2=1))) || (decide (r1=10))) || (!r3)) then (
 some (.inr (.ext false))
 ) else (
 AB (B3 s3 r2 (s3.length:Int)) fun (s5:List UInt8)=>
 some (.inl s5)
 )
 ) else (
 some (.inr (.nrm ()))
 )
noncomputable def JF (s1:List UInt8):Option (Bool):=
 Ar (iter (fun (a:(List UInt8))=>DV a) s1) fun (u2:Unit)=>
 some true
noncomputable def Fx (c1:AE):Option (Bool):=
 some (((decide (c1.Text=[])) && (decide (c1.Ref=0))) && (decide ((c1.Attrs.length:Int)=0)))
noncomputable def Jo (x1:Int):Option (Bool):=
 some (!decide (x1=x1))
noncomputable def GO (x1:Int) (y1:Int):Option (Int):=
 AB (Jo x1) fun (xNaN1:Bool)=>
 AB (Jo y1) fun (yNaN1:Bool)=>
 if xNaN1 then (
 if yNaN1 then (
 some 0
 ) else (
 some (-1)
 )
 ) else (
 if yNaN1 then (
 some 1
 ) else (
 if (decide (x1<y1)) then (
 some (-1)
 ) else (
 if (decide (y1<x1)) then (
 some 1
 ) else (
 some 0
 )
 )
 )
 )
noncomputable def Cc (vals1:List Int) (x2:Int):Option (Int ⊕ (Af Unit Int)):=
 if (decide (x2<(vals1.length:Int))) then (
 AB (AO vals1 x2) fun (x4:Int)=>
 if (!decide (x4=0)) then (
 some (.inr (.ext x4))
 ) else (
 AB (AL .i64 (x2+1)) fun (x5:Int)=>
 some (.inl x5)
 )
 ) else (
 some (.inr (.nrm ()))
 )
noncomputable def H2 (vals1:List Int):Option (Int):=
 Ar (iter (fun (a:Int)=>Cc vals1 a) 0) fun (u2:Unit)=>
 some 0
noncomputable def FD (a1:AE) (b1:AE):Option (Int):=
 AB (GO a1.Row b1.Row) fun (r1:Int)=>
 AB (GO a1.Col b1.Col) fun (r2:Int)=>
 AB (H2 [r1,r2]) fun (r3:Int)=>
 some r3
noncomputable def Js (l1:List AE) (rows1:Int) (cols1:Int) (none1:Bool) (x2:Int):Option (Int ⊕ (Af Unit Int)):=
 if (decide (x2<(l1.length:Int))) then (
 AB (AO l1 x2) fun (x4:AE)=>
 if ((((decide (x4.Row<0)) || (decide (rows1≤x4.Row))) || (decide (x4.Col<0))) || (decide (cols1≤x4.Col))) then (
 some (.inr (.ext 2))
 ) else (
 if ((decide (x4.Ref<0)) || (decide (1073741824<x4.Ref))) then (
 some (.inr (.ext 2))
 ) else (
 AB (JF x4.Text) fun (r1:Bool)=>
 if (!r1) then (
 some (.inr (.ext 23))
 ) else (
 AB (Ia x4.Attrs) fun (e1:Int)=>
 if (!decide (e1=0)) then (
 some (.inr (.ext e1))
 ) else (
 AB (Fx x4) fun (r2:Bool)=>
 if (r2 && (!none1)) then (
 some (.inr (.ext 4))
 ) else (
 AB (gd ((decide (0<x2)) == true) (AL .i64 (x2-1))) fun (x5:Int)=>
 AB (gd ((decide (0<x2)) == true) (AO l1 x5)) fun (x6:AE)=>
 AB (gd ((decide (0<x2)) == true) (FD x6 x4)) fun (r3:Int)=>
 if ((decide (0<x2)) && (decide (0≤r3))) then (
 some (.inr (.ext 5))
 ) else (
 AB (AL .i64 (x2+1)) fun (x7:Int)=>
 some (.inl x7)
 )
 )
 )
 )
 )
 )
 ) else (
 some (.inr (.nrm ()))
 )
noncomputable def IL (l1:List AE) (rows1:Int) (cols1:Int) (none1:Bool):Option (Int):=
 Ar (iter (fun (a:Int)=>Js l1 rows1 cols1 none1 a) 0) fun (u2:Unit)=>
 some 0
noncomputable def Gj (r1:AC) (rows1:Int) (cols1:Int):Option (Bool):=
 AB (gd (((((((decide (0≤r1.Row)) && (decide (0≤r1.Col))) && (decide (1≤r1.H))) && (decide (1≤r1.W))) && (decide (r1.Row<rows1))) && (decide (r1.Col<cols1))) == true) (AL .i64 (rows1-r1.Row))) fun (x1:Int)=>
 AB (gd ((((((((decide (0≤r1.Row)) && (decide (0≤r1.Col))) && (decide (1≤r1.H))) && (decide (1≤r1.W))) && (decide (r1.Row<rows1))) && (decide (r1.Col<cols1))) && (decide (r1.H≤x1))) == true) (AL .i64 (cols1-r1.Col))) fun (x2:Int)=>
 some ((((((((decide (0≤r1.Row)) && (decide (0≤r1.Col))) && (decide (1≤r1.H))) && (decide (1≤r1.W))) && (decide (r1.Row<rows1))) && (decide (r1.Col<cols1))) && (decide (r1.H≤x1))) && (decide (r1.W≤x2)))
noncomputable def IZ (a1:AC) (b1:AC):Option (Bool):=
 some ((decide (a1.Row<b1.Row)) || ((decide (a1.Row=b1.Row)) && (decide (a1.Col<b1.Col))))
noncomputable def HZ (a1:AC) (b1:AC):Option (Bool):=
 AB (AL .i64 (b1.Row+b1.H)) fun (x1:Int)=>
 AB (gd ((decide (a1.Row<x1)) == true) (AL .i64 (a1.Row+a1.H))) fun (x2:Int)=>
 AB (gd (((decide (a1.Row<x1)) && (decide (b1.Row<x2))) == true) (AL .i64 (b1.Col+b1.W))) fun (x3:Int)=>
 AB (gd ((((decide (a1.Row<x1)) && (decide (b1.Row<x2))) && (decide (a1.Col<x3))) == true) (AL .i64 (a1.Col+a1.W))) fun (x4:Int)=>
 some ((((decide (a1.Row<x1)) && (decide (b1.Row<x2))) && (decide (a1.Col<x3))) && (decide (b1.Col<x4)))
noncomputable def Lg (w1:AC) (q1:AC):Option (Bool):=
 AB (HZ q1 w1) fun (r1:Bool)=>
 some r1
noncomputable def IR (w1:AC) (s1:List AC) (x2:Int):Option (Int ⊕ (Af Unit Int)):=
 if (decide (x2<(s1.length:Int))) then (
 AB (AO s1 x2) fun (x4:AC)=>
 AB (Lg w1 x4) fun (r1:Bool)=>
 if r1 then (
 some (.inr (.ext x2))
 ) else (
 AB (AL .i64 (x2+1)) fun (x5:Int)=>
 some (.inl x5)
 )
 ) else (
 some (.inr (.nrm ()))
 )
noncomputable def Kp (w1:AC) (s1:List AC):Option (Int):=
 Ar (iter (fun (a:Int)=>IR w1 s1 a) 0) fun (u2:Unit)=>
 some (-1)
noncomputable def IH (w1:AC) (s1:List AC):Option (Bool):=
 AB (Kp w1 s1) fun (r1:Int)=>
 some (decide (0≤r1))
noncomputable def I1 (g1:AJ) (x2:Int):Option (Int ⊕ (Af Unit Int)):=
 if (decide (x2<(g1.Merges.length:Int))) then (
 AB (AO g1.Merges x2) fun (x4:AC)=>
 AB (Gj x4 g1.Rows g1.Cols) fun (r1:Bool)=>
 if (!r1) then (
 some (.inr (.ext 2))
 ) else (
 if ((decide (x4.H=1)) && (decide (x4.W=1))) then (
 some (.inr (.ext 4))
 ) else (
 AB (gd ((decide (0<x2)) == true) (AL .i64 (x2-1))) fun (x5:Int)=>
 AB (gd ((decide (0<x2)) == true) (AO g1.Merges x5)) fun (x6:AC)=>
 AB (gd ((decide (0<x2)) == true) (IZ x6 x4)) fun (r2:Bool)=>
 if ((decide (0<x2)) && (!r2)) then (
 some (.inr (.ext 5))
 ) else (
 AB (B3 g1.Merges 0 x2) fun (l1:List AC)=>
 AB (IH x4 l1) fun (r3:Bool)=>
 if r3 then (
 some (.inr (.ext 21))
 ) else (
 AB (AL .i64 (x2+1)) fun (x7:Int)=>
 some (.inl x7)
 )
 )
 )
 )
 ) else (
 some (.inr (.nrm ()))
 )
noncomputable def Ju (g1:AJ):Option (Int):=
 if ((((decide (g1.Rows<0)) || (decide (2147483647<g1.Rows))) || (decide (g1.Cols<0))) || (decide (2147483647<g1.Cols))) then (
 some 2
 ) else (
 AB (IL g1.Cells g1.Rows g1.Cols false) fun (e1:Int)=>
 if (!decide (e1=0)) then (
 some e1
 ) else (
 Ar (iter (fun (a:Int)=>I1 g1 a) 0) fun (u2:Unit)=>
 some 0
 )
 )
noncomputable def KF (a1:AE) (b1:AE):Option (Bool):=
 AB (gd (((((decide (a1.Row=b1.Row)) && (decide (a1.Col=b1.Col))) && (decide (a1.Text=b1.Text))) && (decide (a1.Ref=b1.Ref))) == true) (Iz a1.Attrs b1.Attrs)) fun (r1:Bool)=>
 some (((((decide (a1.Row=b1.Row)) && (decide (a1.Col=b1.Col))) && (decide (a1.Text=b1.Text))) && (decide (a1.Ref=b1.Ref))) && r1)
noncomputable def Ij (a1:List AE) (b1:List AE) (x2:Int):Option (Int ⊕ (Af Unit Bool)):=
 if (decide (x2<(a1.length:Int))) then (
 AB (AO a1 x2) fun (x4:AE)=>
 AB (AO b1 x2) fun (x5:AE)=>
 AB (KF x4 x5) fun (r1:Bool)=>
 if (!r1) then (
 some (.inr (.ext false))
 ) else (
 AB (AL .i64 (x2+1)) fun (x6:Int)=>
 some (.inl x6)
 )
 ) else (
 some (.inr (.nrm ()))
 )
noncomputable def KG (a1:List AE) (b1:List AE):Option (Bool):=
 if (!decide ((a1.length:Int)=(b1.length:Int))) then (
 some false
 ) else (
 Ar (iter (fun (a:Int)=>Ij a1 b1 a) 0) fun (u2:Unit)=>
 some true
 )
noncomputable def In (a1:List AC) (b1:List AC) (x2:Int):Option (Int ⊕ (Af Unit Bool)):=
 if (decide (x2<(a1.length:Int))) then (
 AB (AO a1 x2) fun (x4:AC)=>
 AB (AO b1 x2) fun (x5:AC)=>
 if (!(decide (x4.Row=x5.Row) && (decide (x4.Col=x5.Col) && (decide (x4.H=x5.H) && (decide (x4.W=x5.W) && true))))) then (
 some (.inr (.ext false))
 ) else (
 AB (AL .i64 (x2+1)) fun (x6:Int)=>
 some (.inl x6)
 )
 ) else (
 some (.inr (.nrm ()))
 )
noncomputable def I7 (a1:List AC) (b1:List AC):Option (Bool):=
 if (!decide ((a1.length:Int)=(b1.length:Int))) then (
 some false
 ) else (
 Ar (iter (fun (a:Int)=>In a1 b1 a) 0) fun (u2:Unit)=>
 some true
 )
noncomputable def FH (a1:AJ) (b1:AJ):Option (Bool):=
 AB (gd (((decide (a1.Rows=b1.Rows)) && (decide (a1.Cols=b1.Cols))) == true) (KG a1.Cells b1.Cells)) fun (r1:Bool)=>
 AB (gd ((((decide (a1.Rows=b1.Rows)) && (decide (a1.Cols=b1.Cols))) && r1) == true) (I7 a1.Merges b1.Merges)) fun (r2:Bool)=>
 some ((((decide (a1.Rows=b1.Rows)) && (decide (a1.Cols=b1.Cols))) && r1) && r2)
noncomputable def LC (s1:List UInt8):Option (Bool):=
 KV s1
noncomputable def Da (s1:List UInt8) (p2:(Nat)):Option ((Nat) ⊕ (Af Unit Bool)):=
 if (decide (p2<s1.length)) then (
 AB (gd ((decide (((D6 s1 p2).1:Int)=10)) == false) (Id (IntKind.i64.wrap ((D6 s1 p2).1:Int)))) fun (r2:Bool)=>
 if ((decide (((D6 s1 p2).1:Int)=10)) || (!r2)) then (
 some (.inr (.ext false))
 ) else (
 some (.inl (p2+(D6 s1 p2).2))
 )
 ) else (
 some (.inr (.nrm ()))
 )
noncomputable def KB (s1:List UInt8):Option (Bool):=
 AB (LC s1) fun (r1:Bool)=>
 if (!r1) then (
 some false
 ) else (
 Ar (iter (fun (a:(Nat))=>Da s1 a) 0) fun (u2:Unit)=>
 some true
 )
noncomputable def Em (c1:AE):Option (Bool):=
 some (((decide (c1.Text=[])) && (decide (c1.Ref=0))) && (decide ((c1.Attrs.length:Int)=0)))
noncomputable def JG (l1:List AE) (rows1:Int) (cols1:Int) (none1:Bool) (x2:Int):Option (Int ⊕ (Af Unit Int)):=
 if (decide (x2<(l1.length:Int))) then (
 AB (AO l1 x2) fun (x4:AE)=>
 AB (AL .i64 (rows1-1)) fun (x5:Int)=>
 AB (CS x4.Row 0 x5) fun (r1:Bool)=>
 AB (gd ((!r1) == false) (AL .i64 (cols1-1))) fun (x6:Int)=>
 AB (gd ((!r1) == false) (CS x4.Col 0 x6)) fun (r2:Bool)=>
 AB (gd (((!r1) || (!r2)) == false) (CS x4.Ref 0 1073741824)) fun (r3:Bool)=>
 if (((!r1) || (!r2)) || (!r3)) then (
 some (.inr (.ext 2))
 ) else (
 AB (KB x4.Text) fun (r4:Bool)=>
 if (!r4) then (
 some (.inr (.ext 23))
 ) else (
 AB (JJ x4.Attrs false) fun (e1:Int)=>
 if (!decide (e1=0)) then (
 some (.inr (.ext e1))
 ) else (
 AB (gd ((!none1) == true) (Em x4)) fun (r5:Bool)=>
 if ((!none1) && r5) then (
 some (.inr (.ext 4))
 ) else (
 AB (gd ((decide (0<x2)) == true) (AL .i64 (x2-1))) fun (x7:Int)=>
 AB (gd ((decide (0<x2)) == true) (AO l1 x7)) fun (x8:AE)=>
 AB (gd ((((decide (0<x2)) == true) && ((decide (x4.Row<x8.Row)) == false)) && ((decide (x4.Row=x8.Row)) == true)) (AL .i64 (x2-1))) fun (x9:Int)=>
 AB (gd ((((decide (0<x2)) == true) && ((decide (x4.Row<x8.Row)) == false)) && ((decide (x4.Row=x8.Row)) == true)) (AO l1 x9)) fun (x10:AE)=>
 if ((decide (0<x2)) && ((decide (x4.Row<x8.Row)) || ((decide (x4.Row=x8.Row)) && (decide (x4.Col≤x10.Col))))) then (
 some (.inr (.ext 5))
 ) else (
 AB (AL .i64 (x2+1)) fun (x11:Int)=>
 some (.inl x11)
 )
 )
 )
 )
 )
 ) else (
 some (.inr (.nrm ()))
 )
noncomputable def H8 (l1:List AE) (rows1:Int) (cols1:Int) (none1:Bool):Option (Int):=
 Ar (iter (fun (a:Int)=>JG l1 rows1 cols1 none1 a) 0) fun (u2:Unit)=>
 some 0
noncomputable def Fe (r1:AC) (rows1:Int) (cols1:Int):Option (Bool):=
 AB (AL .i64 (rows1-1)) fun (x1:Int)=>
 AB (CS r1.Row 0 x1) fun (r2:Bool)=>
 AB (gd (r2 == true) (AL .i64 (cols1-1))) fun (x2:Int)=>
 AB (gd (r2 == true) (CS r1.Col 0 x2)) fun (r3:Bool)=>
 AB (gd ((r2 && r3) == true) (AL .i64 (rows1-r1.Row))) fun (x3:Int)=>
 AB (gd ((r2 && r3) == true) (CS r1.H 1 x3)) fun (r4:Bool)=>
 AB (gd (((r2 && r3) && r4) == true) (AL .i64 (cols1-r1.Col))) fun (x4:Int)=>
 AB (gd (((r2 && r3) && r4) == true) (CS r1.W 1 x4)) fun (r5:Bool)=>
 some (((r2 && r3) && r4) && r5)
noncomputable def H3 (a1:AC) (b1:AC):Option (Bool):=
 AB (AL .i64 (a1.Row+a1.H)) fun (x1:Int)=>
 AB (AL .i64 (b1.Row+b1.H)) fun (x2:Int)=>
 AB (gd ((decide ((max a1.Row b1.Row)<(min x1 x2))) == true) (AL .i64 (a1.Col+a1.W))) fun (x3:Int)=>
 AB (gd ((decide ((max a1.Row b1.Row)<(min x1 x2))) == true) (AL .i64 (b1.Col+b1.W))) fun (x4:Int)=>
 some ((decide ((max a1.Row b1.Row)<(min x1 x2))) && (decide ((max a1.Col b1.Col)<(min x3 x4))))
noncomputable def JQ (g1:AJ) (x2:Int) (x4:AC) (x10:Int):Option (Int ⊕ (Af Unit (Int ⊕ (Af Unit Int)))):=
 if (decide (x10<x2)) then (
 AB (AO g1.Merges x10) fun (x13:AC)=>
 AB (H3 x4 x13) fun (r4:Bool)=>
 if r4 then (
 some (.inr (.ext (.inr (.ext 21))))
 ) else (
 AB (AL .i64 (x10+1)) fun (x14:Int)=>
 some (.inl x14)
 )
 ) else (
 some (.inr (.nrm ()))
 )
noncomputable def Jq (g1:AJ) (x2:Int):Option (Int ⊕ (Af Unit Int)):=
 if (decide (x2<(g1.Merges.length:Int))) then (
 AB (AO g1.Merges x2) fun (x4:AC)=>
 AB (Fe x4 g1.Rows g1.Cols) fun (r3:Bool)=>
 if (!r3) then (
 some (.inr (.ext 2))
 ) else (
 if ((decide (x4.H=1)) && (decide (x4.W=1))) then (
 some (.inr (.ext 4))
 ) else (
 AB (gd ((decide (0<x2)) == true) (AL .i64 (x2-1))) fun (x5:Int)=>
 AB (gd ((decide (0<x2)) == true) (AO g1.Merges x5)) fun (x6:AC)=>
 AB (gd ((((decide (0<x2)) == true) && ((decide (x4.Row<x6.Row)) == false)) && ((decide (x4.Row=x6.Row)) == true)) (AL .i64 (x2-1))) fun (x7:Int)=>
 AB (gd ((((decide (0<x2)) == true) && ((decide (x4.Row<x6.Row)) == false)) && ((decide (x4.Row=x6.Row)) == true)) (AO g1.Merges x7)) fun (x8:AC)=>
 if ((decide (0<x2)) && ((decide (x4.Row<x6.Row)) || ((decide (x4.Row=x6.Row)) && (decide (x4.Col≤x8.Col))))) then (
 some (.inr (.ext 5))
 ) else (
 Ar (iter (fun (a:Int)=>JQ g1 x2 x4 a) 0) fun (u4:Unit)=>
 AB (AL .i64 (x2+1)) fun (x12:Int)=>
 some (.inl x12)
 )
 )
 )
 ) else (
 some (.inr (.nrm ()))
 )
noncomputable def Iy (g1:AJ):Option (Int):=
 AB (CS g1.Rows 0 2147483647) fun (r1:Bool)=>
 AB (gd ((!r1) == false) (CS g1.Cols 0 2147483647)) fun (r2:Bool)=>
 if ((!r1) || (!r2)) then (
 some 2
 ) else (
 AB (H8 g1.Cells g1.Rows g1.Cols false) fun (e1:Int)=>
 if (!decide (e1=0)) then (
 some e1
 ) else (
 Ar (iter (fun (a:Int)=>Jq g1 a) 0) fun (u2:Unit)=>
 some 0
 )
 )
noncomputable def Dk (x5:Int) (l1:List AC) (x8:Int):Option (Int ⊕ (Af Unit (Int ⊕ (Af Unit Int)))):=
 if (decide (x8<(l1.length:Int))) then (
 AB (AO l1 x8) fun (x11:AC)=>
 AB (Gj x11 2147483647 2147483647) fun (r1:Bool)=>
 if (!r1) then (
 some (.inr (.ext (.inr (.ext 2))))
 ) else (
 if (((decide (x5=1)) && (decide (x11.H=1))) && (decide (x11.W=1))) then (
 some (.inr (.ext (.inr (.ext 4))))
 ) else (
 AB (AL .i64 (x8+1)) fun (x12:Int)=>
 some (.inl x12)
 )
 )
 ) else (
 some (.inr (.nrm ()))
 )
noncomputable def DK (e1:Aj) (x5:Int):Option (Int ⊕ (Af Unit Int)):=
 if (decide (x5<2)) then (
 AB (AO ([e1.Split,e1.Merge]:List (List AC)) x5) fun (l1:List AC)=>
 Ar (iter (fun (a:Int)=>Dk x5 l1 a) 0) fun (u6:Unit)=>
 AB (AL .i64 (x5+1)) fun (x10:Int)=>
 some (.inl x10)
 ) else (
 some (.inr (.nrm ()))
 )
noncomputable def DR (e1:Aj) (x2:Int):Option (Int ⊕ (Af Unit Int)):=
 if (decide (x2<2)) then (
 AB (AO ([e1.Rows,e1.Cols]:List (List AI)) x2) fun (a1:List AI)=>
 AB (G6 a1) fun (f2:Int)=>
 if (!decide (f2=0)) then (
 some (.inr (.ext f2))
 ) else (
 AB (AL .i64 (x2+1)) fun (x13:Int)=>
 some (.inl x13)
 )
 ) else (
 some (.inr (.nrm ()))
 )
noncomputable def I8 (e1:Aj):Option (Int):=
 Ar (iter (fun (a:Int)=>DR e1 a) 0) fun (u2:Unit)=>
 AB (IL e1.Cells 2147483647 2147483647 true) fun (f1:Int)=>
 if (!decide (f1=0)) then (
 some f1
 ) else (
 Ar (iter (fun (a:Int)=>DK e1 a) 0) fun (u4:Unit)=>
 some 0
 )
noncomputable def C1 (n1:Int) (a1:List AI):Option (Int × Bool):=
 if (decide ((a1.length:Int)=0)) then (
 some (n1,true)
 ) else (
 Gk (JS a1) fun (r1:Int) (r2:Int) (r3:Int)=>
 some (r2,(decide (r1=n1)))
 )
noncomputable def Ef (r1:Int) (r3:Int) (l1:List AC) (x8:Int):Option (Int ⊕ (Af Unit (Int ⊕ (Af Unit (Int × Int × Int))))):=
 if (decide (x8<(l1.length:Int))) then (
 AB (AO l1 x8) fun (x11:AC)=>
 AB (Gj x11 r1 r3) fun (r5:Bool)=>
 if (!r5) then (
 some (.inr (.ext (.inr (.ext (0,0,2)))))
 ) else (
 AB (AL .i64 (x8+1)) fun (x12:Int)=>
 some (.inl x12)
 )
 ) else (
 some (.inr (.nrm ()))
 )
noncomputable def B1 (e1:Aj) (r1:Int) (r3:Int) (x5:Int):Option (Int ⊕ (Af Unit (Int × Int × Int))):=
 if (decide (x5<2)) then (
 AB (AO ([e1.Split,e1.Merge]:List (List AC)) x5) fun (l1:List AC)=>
 Ar (iter (fun (a:Int)=>Ef r1 r3 l1 a) 0) fun (u6:Unit)=>
 AB (AL .i64 (x5+1)) fun (x10:Int)=>
 some (.inl x10)
 ) else (
 some (.inr (.nrm ()))
 )
noncomputable def Fa (e1:Aj) (r1:Int) (r3:Int) (x2:Int):Option (Int ⊕ (Af Unit (Int × Int × Int))):=
 if (decide (x2<(e1.Cells.length:Int))) then (
 AB (AO e1.Cells x2) fun (x13:AE)=>
 if ((decide (r1≤x13.Row)) || (decide (r3≤x13.Col))) then (
 some (.inr (.ext (0,0,2)))
 ) else (
 AB (AL .i64 (x2+1)) fun (x14:Int)=>
 some (.inl x14)
 )
 ) else (
 some (.inr (.nrm ()))
 )
noncomputable def EN (g1:AJ) (e1:Aj):Option (Int × Int × Int):=
 AB (Ju g1) fun (f1:Int)=>
 if (!decide (f1=0)) then (
 some (0,0,f1)
 ) else (
 AB (I8 e1) fun (f2:Int)=>
 if (!decide (f2=0)) then (
 some (0,0,f2)
 ) else (
 Aw (C1 g1.Rows e1.Rows) fun (r1:Int) (r2:Bool)=>
 Aw (C1 g1.Cols e1.Cols) fun (r3:Int) (r4:Bool)=>
 if ((!r2) || (!r4)) then (
 some (0,0,14)
 ) else (
 Ar (iter (fun (a:Int)=>Fa e1 r1 r3 a) 0) fun (u2:Unit)=>
 Ar (iter (fun (a:Int)=>B1 e1 r1 r3 a) 0) fun (u4:Unit)=>
 some (r1,r3,0)
 )
 )
 )
noncomputable def HH (c1:AE):Option (AE):=
 AB (BR 32 [] c1.Attrs) fun (l1:List Ah)=>
 some (AE.mk c1.Row c1.Col c1.Text c1.Ref l1)
noncomputable def DJ (l1:List AE) (rows1:List AI) (cols1:List AI) (x2:Int) (out2:List AE):Option ((Int × (List AE)) ⊕ (List AE)):=
 if (decide (x2<(l1.length:Int))) then (
 AB (
 AB (AO l1 x2) fun (x5:AE)=>
 AB (HH x5) fun (r1:AE)=>
 Ar (
 if (decide (0<(rows1.length:Int))) then (
 Aw (EV rows1 [r1.Row]) fun (r4:List Int) (r5:Int)=>
 AB (gd ((!decide (r5=0)) == false) (AO r4 0)) fun (x8:Int)=>
 if ((!decide (r5=0)) || (decide (x8<0))) then (
 some (.ext out2)
 ) else (
 AB (AO r4 0) fun (x9:Int)=>
 some (.nrm (AE.mk x9 r1.Col r1.Text r1.Ref r1.Attrs))
 )
 ) else (
 some (.nrm r1)
 )
 ) fun (c1:AE)=>
 Ar (
 if (decide (0<(cols1.length:Int))) then (
 Aw (EV cols1 [c1.Col]) fun (r2:List Int) (r3:Int)=>
 AB (gd ((!decide (r3=0)) == false) (AO r2 0)) fun (x6:Int)=>
 if ((!decide (r3=0)) || (decide (x6<0))) then (
 some (.ext out2)
 ) else (
 AB (AO r2 0) fun (x7:Int)=>
 some (.nrm (AE.mk c1.Row x7 c1.Text c1.Ref c1.Attrs))
 )
 ) else (
 some (.nrm c1)
 )
 ) fun (c2:AE)=>
 AB (BR 64 out2 [c2]) fun (out6:List AE)=>
 some out6
 ) fun (out5:List AE)=>
 AB (AL .i64 (x2+1)) fun (x4:Int)=>
 some (.inl (x4,out5))
 ) else (
 some (.inr out2)
 )
noncomputable def GN (l1:List AE) (rows1:List AI) (cols1:List AI):Option ((List AE)):=
 AB (iter (fun (a:Int × (List AE))=>DJ l1 rows1 cols1 a.1 a.2) (0,[])) fun (out4:List AE)=>
 some out4
noncomputable def Fw (l1:List AE) (x5:AE) (i15:Int) (out7:List AE):Option ((Int × (List AE)) ⊕ (Int × (List AE))):=
 AB (gd ((decide (i15<(l1.length:Int))) == true) (AO l1 i15)) fun (x7:AE)=>
 AB (gd ((decide (i15<(l1.length:Int))) == true) (FD x7 x5)) fun (r4:Int)=>
 if ((decide (i15<(l1.length:Int))) && (decide (r4<0))) then (
 AB (AO l1 i15) fun (x8:AE)=>
 AB (BR 64 out7 [x8]) fun (out11:List AE)=>
 AB (AL .i64 (i15+1)) fun (i24:Int)=>
 some (.inl (i24,out11))
 ) else (
 some (.inr (i15,out7))
 )
noncomputable def FY (l1:List AE) (news1:List AE) (i4:Int) (x2:Int) (out2:List AE):Option ((Int × Int × (List AE)) ⊕ (Int × (List AE))):=
 if (decide (x2<(news1.length:Int))) then (
 Aw (
 AB (AO news1 x2) fun (x5:AE)=>
 Aw (iter (fun (a:Int × (List AE))=>Fw l1 x5 a.1 a.2) (i4,out2)) fun (i19:Int) (out9:List AE)=>
 AB (gd ((decide (i19<(l1.length:Int))) == true) (AO l1 i19)) fun (x6:AE)=>
 AB (gd ((decide (i19<(l1.length:Int))) == true) (FD x6 x5)) fun (r1:Int)=>
 AB (
 if ((decide (i19<(l1.length:Int))) && (decide (r1=0))) then (
 AB (AL .i64 (i19+1)) fun (i23:Int)=>
 some i23
 ) else (
 some i19
 )
 ) fun (i21:Int)=>
 AB (Fx x5) fun (r2:Bool)=>
 if (!r2) then (
 AB (HH x5) fun (r3:AE)=>
 AB (BR 64 out9 [r3]) fun (out10:List AE)=>
 some (i21,out10)
 ) else (
 some (i21,out9)
 )
 ) fun (i10:Int) (out5:List AE)=>
 AB (AL .i64 (x2+1)) fun (x4:Int)=>
 some (.inl (i10,x4,out5))
 ) else (
 some (.inr (i4,out2))
 )
noncomputable def GF (l1:List AE) (news1:List AE):Option ((List AE)):=
 Aw (iter (fun (a:Int × Int × (List AE))=>FY l1 news1 a.1 a.2.1 a.2.2) (0,0,[])) fun (i8:Int) (out4:List AE)=>
 AB (B3 l1 i8 (l1.length:Int)) fun (l2:List AE)=>
 AB (BR 64 out4 l2) fun (l3:List AE)=>
 some l3
noncomputable def Jw (r1:AC) (rows1:List AI) (cols1:List AI):Option (AC × Bool):=
 AB (
 if (decide (0<(rows1.length:Int))) then (
 AB (AL .i64 (r1.Row+r1.H)) fun (x4:Int)=>
 Aw (EK rows1 r1.Row x4) fun (r6:Int) (r7:Int)=>
 AB (AL .i64 (r7-r6)) fun (x5:Int)=>
 some (AC.mk r6 r1.Col x5 r1.W)
 ) else (
 some r1
 )
 ) fun (r2:AC)=>
 AB (
 if (decide (0<(cols1.length:Int))) then (
 AB (AL .i64 (r2.Col+r2.W)) fun (x2:Int)=>
 Aw (EK cols1 r2.Col x2) fun (r4:Int) (r5:Int)=>
 AB (AL .i64 (r5-r4)) fun (x3:Int)=>
 some (AC.mk r2.Row r4 r2.H x3)
 ) else (
 some r2
 )
 ) fun (r3:AC)=>
 AB (gd (((decide (0<r3.H)) && (decide (0<r3.W))) == true) (AL .i64 (r3.H+r3.W))) fun (x1:Int)=>
 some (r3,(((decide (0<r3.H)) && (decide (0<r3.W))) && (decide (2<x1))))
noncomputable def JW (s1:List AC) (v1:AC) (x2:Int):Option (Int ⊕ (Af Unit Int)):=
 if (decide (x2<(s1.length:Int))) then (
 AB (AO s1 x2) fun (x4:AC)=>
 if (decide (v1.Row=x4.Row) && (decide (v1.Col=x4.Col) && (decide (v1.H=x4.H) && (decide (v1.W=x4.W) && true)))) then (
 some (.inr (.ext x2))
 ) else (
 AB (AL .i64 (x2+1)) fun (x5:Int)=>
 some (.inl x5)
 )
 ) else (
 some (.inr (.nrm ()))
 )
noncomputable def LD (s1:List AC) (v1:AC):Option (Int):=
 Ar (iter (fun (a:Int)=>JW s1 v1 a) 0) fun (u2:Unit)=>
 some (-1)
noncomputable def IT (s1:List AC) (v1:AC):Option (Bool):=
 AB (LD s1 v1) fun (r1:Int)=>
 some (decide (0≤r1))
noncomputable def GI (e1:Aj) (x5:Int):Option (Int ⊕ (Af Unit Int)):=
 if (decide (x5<(e1.Merge.length:Int))) then (
 AB (AO e1.Merge x5) fun (x7:AC)=>
 AB (Fe x7 2147483647 2147483647) fun (r1:Bool)=>
 if (!r1) then (
 some (.inr (.ext 2))
 ) else (
 if ((decide (x7.H=1)) && (decide (x7.W=1))) then (
 some (.inr (.ext 4))
 ) else (
 AB (AL .i64 (x5+1)) fun (x8:Int)=>
 some (.inl x8)
 )
 )
 ) else (
 some (.inr (.nrm ()))
 )
noncomputable def GA (e1:Aj) (x2:Int):Option (Int ⊕ (Af Unit Int)):=
 if (decide (x2<(e1.Split.length:Int))) then (
 AB (AO e1.Split x2) fun (x9:AC)=>
 AB (Fe x9 2147483647 2147483647) fun (r2:Bool)=>
 if (!r2) then (
 some (.inr (.ext 2))
 ) else (
 AB (AL .i64 (x2+1)) fun (x10:Int)=>
 some (.inl x10)
 )
 ) else (
 some (.inr (.nrm ()))
 )
noncomputable def JV (e1:Aj):Option (Int):=
 AB (H1 e1.Rows) fun (f1:Int)=>
 if (!decide (f1=0)) then (
 some f1
 ) else (
 AB (H1 e1.Cols) fun (f2:Int)=>
 if (!decide (f2=0)) then (
 some f2
 ) else (
 AB (H8 e1.Cells 2147483647 2147483647 true) fun (f3:Int)=>
 if (!decide (f3=0)) then (
 some f3
 ) else (
 Ar (iter (fun (a:Int)=>GA e1 a) 0) fun (u2:Unit)=>
 Ar (iter (fun (a:Int)=>GI e1 a) 0) fun (u4:Unit)=>
 some 0
 )
 )
 )
noncomputable def FA (w1:AC) (q1:AC):Option (Bool):=
 AB (HZ q1 w1) fun (r1:Bool)=>
 some r1
noncomputable def Mv (w1:AC) (s1:List AC) (x2:Int):Option (Int ⊕ (Af Unit Int)):=
 if (decide (x2<(s1.length:Int))) then (
 AB (AO s1 x2) fun (x4:AC)=>
 AB (FA w1 x4) fun (r1:Bool)=>
 if r1 then (
 some (.inr (.ext x2))
 ) else (
 AB (AL .i64 (x2+1)) fun (x5:Int)=>
 some (.inl x5)
 )
 ) else (
 some (.inr (.nrm ()))
 )
noncomputable def O7 (w1:AC) (s1:List AC):Option (Int):=
 Ar (iter (fun (a:Int)=>Mv w1 s1 a) 0) fun (u2:Unit)=>
 some (-1)
noncomputable def Hi (s1:List AC) (w1:AC) (x2:Int):Option (Int ⊕ (Af Unit Int)):=
 if (decide (x2<(s1.length:Int))) then (
 AB (AO s1 x2) fun (x4:AC)=>
 AB (FA w1 x4) fun (r1:Bool)=>
 if r1 then (
 some (.inr (.ext x2))
 ) else (
 AB (AL .i64 (x2+1)) fun (x5:Int)=>
 some (.inl x5)
 )
 ) else (
 some (.inr (.nrm ()))
 )
noncomputable def HW (s1:List AC) (w1:AC):Option (Int):=
 Ar (iter (fun (a:Int)=>Hi s1 w1 a) 0) fun (u2:Unit)=>
 some (-1)
noncomputable def GW (w1:AC) (i6:Int) (j3:Int) (s3:List AC):Option ((Int × Int × (List AC)) ⊕ (Int × (List AC))):=
 if (decide (j3<(s3.length:Int))) then (
 Aw (
 AB (AO s3 j3) fun (x1:AC)=>
 AB (FA w1 x1) fun (r1:Bool)=>
 if (!r1) then (
 AB (AO s3 i6) fun (x2:AC)=>
 AB (AL .i64 (i6+1)) fun (i15:Int)=>
 some (i15,(s3.set i6.toNat x1))
 ) else (
 some (i6,s3)
 )
 ) fun (i12:Int) (s6:List AC)=>
 AB (AL .i64 (j3+1)) fun (j5:Int)=>
 some (.inl (i12,j5,s6))
 ) else (
 some (.inr (i6,s3))
 )
noncomputable def Ip (s1:List AC) (w1:AC):Option ((List AC)):=
 AB (HW s1 w1) fun (i1:Int)=>
 if (decide (i1=(-1))) then (
 some s1
 ) else (
 AB (AL .i64 (i1+1)) fun (j1:Int)=>
 Aw (iter (fun (a:Int × Int × (List AC))=>GW w1 a.1 a.2.1 a.2.2) (i1,j1,s1)) fun (i10:Int) (s5:List AC)=>
 AB (IP s5 i10 (AC.mk 0 0 0 0)) fun (l1:List AC)=>
 AB (B3 l1 0 i10) fun (l2:List AC)=>
 some l2
 )
noncomputable def Fs (a1:AC) (b1:AC):Option (Int):=
 AB (GO a1.Row b1.Row) fun (r1:Int)=>
 AB (GO a1.Col b1.Col) fun (r2:Int)=>
 AB (H2 [r1,r2]) fun (r3:Int)=>
 some r3
noncomputable def EB (e1:Aj) (x5:Int) (out6:AJ):Option ((Int × AJ) ⊕ AJ):=
 if (decide (x5<(e1.Merge.length:Int))) then (
 AB (AO e1.Merge x5) fun (x7:AC)=>
 AB (Ip out6.Merges x7) fun (w2:List AC)=>
 AB (BR 32 w2 [x7]) fun (l1:List AC)=>
 AB (AL .i64 (x5+1)) fun (x8:Int)=>
 some (.inl (x8,(AJ.mk out6.Rows out6.Cols out6.Cells l1)))
 ) else (
 some (.inr out6)
 )
noncomputable def D2 (g1:AJ) (e1:Aj) (x2:Int) (out2:AJ):Option ((Int × AJ) ⊕ AJ):=
 if (decide (x2<(g1.Merges.length:Int))) then (
 AB (
 AB (AO g1.Merges x2) fun (x10:AC)=>
 Aw (Jw x10 e1.Rows e1.Cols) fun (r7:AC) (r8:Bool)=>
 AB (gd (r8 == true) (IT e1.Split r7)) fun (r9:Bool)=>
 if (r8 && (!r9)) then (
 AB (BR 32 out2.Merges [r7]) fun (l2:List AC)=>
 some (AJ.mk out2.Rows out2.Cols out2.Cells l2)
 ) else (
 some out2
 )
 ) fun (out9:AJ)=>
 AB (AL .i64 (x2+1)) fun (x9:Int)=>
 some (.inl (x9,out9))
 ) else (
 some (.inr out2)
 )
noncomputable def G7 (g1:AJ) (e1:Aj):Option (AJ):=
 Aw (C1 g1.Rows e1.Rows) fun (r1:Int) (r2:Bool)=>
 Aw (C1 g1.Cols e1.Cols) fun (r3:Int) (r4:Bool)=>
 AB (GN g1.Cells e1.Rows e1.Cols) fun (r5:List AE)=>
 AB (GF r5 e1.Cells) fun (r6:List AE)=>
 AB (iter (fun (a:Int × AJ)=>D2 g1 e1 a.1 a.2) (0,(AJ.mk r1 r3 r6 []))) fun (out4:AJ)=>
 AB (iter (fun (a:Int × AJ)=>EB e1 a.1 a.2) (0,out4)) fun (out8:AJ)=>
 AB (EO Fs out8.Merges) fun (w1:List AC)=>
 some (AJ.mk out8.Rows out8.Cols out8.Cells w1)
noncomputable def Gu (g1:AJ) (e1:Aj):Option (AJ × Int):=
 Gk (EN g1 e1) fun (r1:Int) (r2:Int) (r3:Int)=>
 if (!decide (r3=0)) then (
 some ((AJ.mk 0 0 [] []),r3)
 ) else (
 AB (G7 g1 e1) fun (r4:AJ)=>
 some (r4,0)
 )
noncomputable def KD:Option (Bool):=
 Aw (Gu (AJ.mk 2 1 [(AE.mk 1 0 [120] 0 [])] []) (Aj.mk [(AI.mk 1 1),(AI.mk 0 2)] [] [] [] [])) fun (r1:AJ) (r2:Int)=>
 AB (gd ((((decide (r2=0)) && (decide (r1.Rows=3))) && (decide ((r1.Cells.length:Int)=1))) == true) (AO r1.Cells 0)) fun (x1:AE)=>
 some ((((decide (r2=0)) && (decide (r1.Rows=3))) && (decide ((r1.Cells.length:Int)=1))) && (decide (x1.Row=2)))
noncomputable def Hk (a1:List AI) (old2:Int) (now2:Int) (x2:Int):Option ((Int × Int × Int) ⊕ (Int × Int)):=
 if (decide (x2<(a1.length:Int))) then (
 Aw (
 AB (AO a1 x2) fun (x5:AI)=>
 AB (
 if (!decide (x5.Kind=1)) then (
 AB (AL .i64 (old2+x5.N)) fun (old7:Int)=>
 some old7
 ) else (
 some old2
 )
 ) fun (old6:Int)=>
 if (!decide (x5.Kind=2)) then (
 AB (AL .i64 (now2+x5.N)) fun (now6:Int)=>
 some (old6,now6)
 ) else (
 some (old6,now2)
 )
 ) fun (old5:Int) (now5:Int)=>
 AB (AL .i64 (x2+1)) fun (x4:Int)=>
 some (.inl (old5,now5,x4))
 ) else (
 some (.inr (old2,now2))
 )
noncomputable def Gi (a1:List AI):Option (Int × Int):=
 Aw (iter (fun (a:Int × Int × Int)=>Hk a1 a.1 a.2.1 a.2.2) (0,0,0)) fun (old4:Int) (now4:Int)=>
 some (old4,now4)
noncomputable def Ht (e1:Aj) (rows1:Int) (cols1:Int) (x8:Int):Option (Int ⊕ (Af Unit Int)):=
 if (decide (x8<(e1.Merge.length:Int))) then (
 AB (AO e1.Merge x8) fun (x10:AC)=>
 AB (Fe x10 rows1 cols1) fun (r1:Bool)=>
 if (!r1) then (
 some (.inr (.ext 2))
 ) else (
 AB (AL .i64 (x8+1)) fun (x11:Int)=>
 some (.inl x11)
 )
 ) else (
 some (.inr (.nrm ()))
 )
noncomputable def HO (e1:Aj) (rows1:Int) (cols1:Int) (x5:Int):Option (Int ⊕ (Af Unit Int)):=
 if (decide (x5<(e1.Split.length:Int))) then (
 AB (AO e1.Split x5) fun (x12:AC)=>
 AB (Fe x12 rows1 cols1) fun (r2:Bool)=>
 if (!r2) then (
 some (.inr (.ext 2))
 ) else (
 AB (AL .i64 (x5+1)) fun (x13:Int)=>
 some (.inl x13)
 )
 ) else (
 some (.inr (.nrm ()))
 )
noncomputable def Hv (e1:Aj) (rows1:Int) (cols1:Int) (x2:Int):Option (Int ⊕ (Af Unit Int)):=
 if (decide (x2<(e1.Cells.length:Int))) then (
 AB (AO e1.Cells x2) fun (x14:AE)=>
 if ((decide (rows1≤x14.Row)) || (decide (cols1≤x14.Col))) then (
 some (.inr (.ext 2))
 ) else (
 AB (AL .i64 (x2+1)) fun (x15:Int)=>
 some (.inl x15)
 )
 ) else (
 some (.inr (.nrm ()))
 )
noncomputable def Jd (g1:AJ) (e1:Aj):Option (Int):=
 Ar (
 if (decide (0<(e1.Rows.length:Int))) then (
 Aw (Gi e1.Rows) fun (r5:Int) (r6:Int)=>
 if (!decide (r5=g1.Rows)) then (
 some (.ext 14)
 ) else (
 some (.nrm r6)
 )
 ) else (
 some (.nrm g1.Rows)
 )
 ) fun (rows1:Int)=>
 Ar (
 if (decide (0<(e1.Cols.length:Int))) then (
 Aw (Gi e1.Cols) fun (r3:Int) (r4:Int)=>
 if (!decide (r3=g1.Cols)) then (
 some (.ext 14)
 ) else (
 some (.nrm r4)
 )
 ) else (
 some (.nrm g1.Cols)
 )
 ) fun (cols1:Int)=>
 Ar (iter (fun (a:Int)=>Hv e1 rows1 cols1 a) 0) fun (u2:Unit)=>
 Ar (iter (fun (a:Int)=>HO e1 rows1 cols1 a) 0) fun (u4:Unit)=>
 Ar (iter (fun (a:Int)=>Ht e1 rows1 cols1 a) 0) fun (u6:Unit)=>
 some 0
noncomputable def I9 (g1:AJ) (e1:Aj):Option (Bool):=
 AB (gd (((decide (g1.Rows≤30)) && (decide (g1.Cols≤30))) == true) (Hm e1.Rows)) fun (r1:Int)=>
 AB (gd ((((decide (g1.Rows≤30)) && (decide (g1.Cols≤30))) && (decide (r1≤60))) == true) (Hm e1.Cols)) fun (r2:Int)=>
 some ((((decide (g1.Rows≤30)) && (decide (g1.Cols≤30))) && (decide (r1≤60))) && (decide (r2≤60)))
noncomputable def IG (a1:List AI) (n1:Int):Option ((List Int)):=
 if (decide ((a1.length:Int)=0)) then (
 AB (GH [(AI.mk 0 n1)]) fun (r1:List Int)=>
 some r1
 ) else (
 AB (GH a1) fun (r2:List Int)=>
 some r2
 )
noncomputable def Hu (l1:List AE) (row1:Int) (col1:Int) (x2:Int):Option (Int ⊕ (Af Unit AE)):=
 if (decide (x2<(l1.length:Int))) then (
 AB (AO l1 x2) fun (x4:AE)=>
 if ((decide (x4.Row=row1)) && (decide (x4.Col=col1))) then (
 some (.inr (.ext x4))
 ) else (
 AB (AL .i64 (x2+1)) fun (x5:Int)=>
 some (.inl x5)
 )
 ) else (
 some (.inr (.nrm ()))
 )
noncomputable def IJ (l1:List AE) (row1:Int) (col1:Int):Option (AE):=
 Ar (iter (fun (a:Int)=>Hu l1 row1 col1 a) 0) fun (u2:Unit)=>
 some (AE.mk row1 col1 [] 0 [])
noncomputable def I6 (r1:AC) (rows1:List Int) (cols1:List Int):Option (AC):=
 AB (AL .i64 (r1.Row+r1.H)) fun (x1:Int)=>
 Aw (HE rows1 r1.Row x1) fun (r2:Int) (r3:Int)=>
 AB (AL .i64 (r1.Col+r1.W)) fun (x2:Int)=>
 Aw (HE cols1 r1.Col x2) fun (r4:Int) (r5:Int)=>
 AB (gd (((decide (r2<r3)) && (decide (r4<r5))) == true) (AL .i64 (r3-r2))) fun (x3:Int)=>
 AB (gd (((decide (r2<r3)) && (decide (r4<r5))) == true) (AL .i64 (x3+r5))) fun (x4:Int)=>
 AB (gd (((decide (r2<r3)) && (decide (r4<r5))) == true) (AL .i64 (x4-r4))) fun (x5:Int)=>
 AB (
 if (((decide (r2<r3)) && (decide (r4<r5))) && (decide (2<x5))) then (
 AB (AL .i64 (r3-r2)) fun (x6:Int)=>
 AB (AL .i64 (r5-r4)) fun (x7:Int)=>
 some (AC.mk r2 r4 x6 x7)
 ) else (
 some (AC.mk 0 0 0 0)
 )
 ) fun (out1:AC)=>
 some out1
noncomputable def FV (merges8:List AC) (x11:Int) (x14:Int) (x18:Int) (out14:AJ):Option ((Int × AJ) ⊕ AJ):=
 if (decide (x18<(merges8.length:Int))) then (
 AB (
 AB (AO merges8 x18) fun (x22:AC)=>
 if ((decide (x22.Row=x11)) && (decide (x22.Col=x14))) then (
 AB (BR 32 out14.Merges [x22]) fun (l1:List AC)=>
 some (AJ.mk out14.Rows out14.Cols out14.Cells l1)
 ) else (
 some out14
 )
 ) fun (out17:AJ)=>
 AB (AL .i64 (x18+1)) fun (x21:Int)=>
 some (.inl (x21,out17))
 ) else (
 some (.inr out14)
 )
noncomputable def GX (merges8:List AC) (x11:Int) (out6:AJ) (x14:Int) (out10:AJ):Option ((Int × AJ) ⊕ AJ):=
 if (decide (x14<out6.Cols)) then (
 AB (iter (fun (a:Int × AJ)=>FV merges8 x11 x14 a.1 a.2) (0,out10)) fun (out16:AJ)=>
 AB (AL .i64 (x14+1)) fun (x20:Int)=>
 some (.inl (x20,out16))
 ) else (
 some (.inr out10)
 )
noncomputable def Ge (out4:AJ) (merges8:List AC) (x11:Int) (out6:AJ):Option ((Int × AJ) ⊕ AJ):=
 if (decide (x11<out4.Rows)) then (
 AB (iter (fun (a:Int × AJ)=>GX merges8 x11 out6 a.1 a.2) (0,out6)) fun (out12:AJ)=>
 AB (AL .i64 (x11+1)) fun (x16:Int)=>
 some (.inl (x16,out12))
 ) else (
 some (.inr out6)
 )
noncomputable def E7 (e1:Aj) (x8:Int) (merges6:List AC) (x24:Int) (rest2:List AC):Option ((Int × (List AC)) ⊕ (List AC)):=
 if (decide (x24<(merges6.length:Int))) then (
 AB (
 AB (AO merges6 x24) fun (x29:AC)=>
 AB (AO e1.Merge x8) fun (x30:AC)=>
 AB (H3 x29 x30) fun (r5:Bool)=>
 if (!r5) then (
 AB (BR 32 rest2 [x29]) fun (rest6:List AC)=>
 some rest6
 ) else (
 some rest2
 )
 ) fun (rest5:List AC)=>
 AB (AL .i64 (x24+1)) fun (x28:Int)=>
 some (.inl (x28,rest5))
 ) else (
 some (.inr rest2)
 )
noncomputable def FK (e1:Aj) (x8:Int) (merges6:List AC):Option ((Int × (List AC)) ⊕ (List AC)):=
 if (decide (x8<(e1.Merge.length:Int))) then (
 AB (iter (fun (a:Int × (List AC))=>E7 e1 x8 merges6 a.1 a.2) (0,[])) fun (rest4:List AC)=>
 AB (AO e1.Merge x8) fun (x26:AC)=>
 AB (BR 32 rest4 [x26]) fun (merges9:List AC)=>
 AB (AL .i64 (x8+1)) fun (x27:Int)=>
 some (.inl (x27,merges9))
 ) else (
 some (.inr merges6)
 )
noncomputable def Fb (e1:Aj) (r6:AC) (keep2:Bool) (x34:Int):Option ((Bool × Int) ⊕ Bool):=
 if (decide (x34<(e1.Split.length:Int))) then (
 AB (gd (keep2 == true) (AO e1.Split x34)) fun (x36:AC)=>
 AB (AL .i64 (x34+1)) fun (x37:Int)=>
 some (.inl ((keep2 && (!(decide (x36.Row=r6.Row) && (decide (x36.Col=r6.Col) && (decide (x36.H=r6.H) && (decide (x36.W=r6.W) && true)))))),x37))
 ) else (
 some (.inr keep2)
 )
noncomputable def Fg (g1:AJ) (e1:Aj) (rows1:List Int) (cols1:List Int) (x5:Int) (merges2:List AC):Option ((Int × (List AC)) ⊕ (List AC)):=
 if (decide (x5<(g1.Merges.length:Int))) then (
 AB (
 AB (AO g1.Merges x5) fun (x32:AC)=>
 AB (I6 x32 rows1 cols1) fun (r6:AC)=>
 AB (iter (fun (a:Bool × Int)=>Fb e1 r6 a.1 a.2) ((decide (0<r6.H)),0)) fun (keep4:Bool)=>
 if keep4 then (
 AB (BR 32 merges2 [r6]) fun (merges11:List AC)=>
 some merges11
 ) else (
 some merges2
 )
 ) fun (merges10:List AC)=>
 AB (AL .i64 (x5+1)) fun (x31:Int)=>
 some (.inl (x31,merges10))
 ) else (
 some (.inr merges2)
 )
noncomputable def EP (e1:Aj) (x2:Int) (x39:Int) (x48:Int) (x49:AE):Option ((Int × AE) ⊕ AE):=
 if (decide (x48<(e1.Cells.length:Int))) then (
 AB (
 AB (AO e1.Cells x48) fun (x55:AE)=>
 if ((decide (x55.Row=x2)) && (decide (x55.Col=x39))) then (
 some x55
 ) else (
 some x49
 )
 ) fun (x53:AE)=>
 AB (AL .i64 (x48+1)) fun (x54:Int)=>
 some (.inl (x54,x53))
 ) else (
 some (.inr x49)
 )
noncomputable def Gl (g1:AJ) (e1:Aj) (r1:List Int) (r3:List Int) (x2:Int) (x39:Int) (out19:AJ):Option ((Int × AJ) ⊕ AJ):=
 if (decide (x39<(r3.length:Int))) then (
 AB (
 AB (AO r1 x2) fun (x43:Int)=>
 AB (gd ((decide (0≤x43)) == true) (AO r3 x39)) fun (x44:Int)=>
 AB (
 if ((decide (0≤x43)) && (decide (0≤x44))) then (
 AB (AO r3 x39) fun (x56:Int)=>
 AB (IJ g1.Cells x43 x56) fun (r8:AE)=>
 some (AE.mk x2 x39 r8.Text r8.Ref r8.Attrs)
 ) else (
 some (AE.mk x2 x39 [] 0 [])
 )
 ) fun (x45:AE)=>
 AB (iter (fun (a:Int × AE)=>EP e1 x2 x39 a.1 a.2) (0,x45)) fun (x52:AE)=>
 AB (Em x52) fun (r7:Bool)=>
 if (!r7) then (
 AB (BR 64 out19.Cells [x52]) fun (l2:List AE)=>
 some (AJ.mk out19.Rows out19.Cols l2 [])
 ) else (
 some (AJ.mk out19.Rows out19.Cols out19.Cells [])
 )
 ) fun (out22:AJ)=>
 AB (AL .i64 (x39+1)) fun (x42:Int)=>
 some (.inl (x42,(AJ.mk out22.Rows out22.Cols out22.Cells [])))
 ) else (
 some (.inr (AJ.mk out19.Rows out19.Cols out19.Cells []))
 )
noncomputable def Gr (g1:AJ) (e1:Aj) (r1:List Int) (r3:List Int) (x2:Int) (out2:AJ):Option ((Int × AJ) ⊕ AJ):=
 if (decide (x2<(r1.length:Int))) then (
 AB (iter (fun (a:Int × AJ)=>Gl g1 e1 r1 r3 x2 a.1 a.2) (0,(AJ.mk out2.Rows out2.Cols out2.Cells []))) fun (out21:AJ)=>
 AB (AL .i64 (x2+1)) fun (x41:Int)=>
 some (.inl (x41,(AJ.mk out21.Rows out21.Cols out21.Cells [])))
 ) else (
 some (.inr (AJ.mk out2.Rows out2.Cols out2.Cells []))
 )
noncomputable def JU (g1:AJ) (e1:Aj):Option (AJ):=
 AB (IG e1.Rows g1.Rows) fun (rows1:List Int)=>
 AB (IG e1.Cols g1.Cols) fun (cols1:List Int)=>
 Aw (Gf rows1) fun (r1:List Int) (r2:List Int)=>
 Aw (Gf cols1) fun (r3:List Int) (r4:List Int)=>
 AB (iter (fun (a:Int × AJ)=>Gr g1 e1 r1 r3 a.1 a.2) (0,(AJ.mk (r1.length:Int) (r3.length:Int) [] []))) fun (out4:AJ)=>
 AB (iter (fun (a:Int × (List AC))=>Fg g1 e1 rows1 cols1 a.1 a.2) (0,[])) fun (merges4:List AC)=>
 AB (iter (fun (a:Int × (List AC))=>FK e1 a.1 a.2) (0,merges4)) fun (merges8:List AC)=>
 AB (iter (fun (a:Int × AJ)=>Ge out4 merges8 a.1 a.2) (0,(AJ.mk out4.Rows out4.Cols out4.Cells []))) fun (out8:AJ)=>
 some out8
noncomputable def KZ (g1:AJ) (e1:Aj):Option (Bool):=
 AB (KD) fun (r1:Bool)=>
 if (!r1) then (
 some false
 ) else (
 Aw (Gu g1 e1) fun (r2:AJ) (r3:Int)=>
 AB (Iy g1) fun (p1:Int)=>
 AB (
 if (decide (p1=0)) then (
 AB (JV e1) fun (p8:Int)=>
 some p8
 ) else (
 some p1
 )
 ) fun (p2:Int)=>
 AB (
 if (decide (p2=0)) then (
 AB (Jd g1 e1) fun (p7:Int)=>
 some p7
 ) else (
 some p2
 )
 ) fun (p4:Int)=>
 if (!decide (p4=0)) then (
 AB (
 if ((decide (r3=p4)) == true) then (
 AB (FH r2 (AJ.mk 0 0 [] [])) fun (r4:Bool)=>
 some ((decide (r3=p4)) && r4)
 ) else (
 some ((decide (r3=p4)) && false)
 )
 ) fun (x1:Bool)=>
 some x1
 ) else (
 AB (gd ((decide (r3=0)) == true) (I9 g1 e1)) fun (r5:Bool)=>
 AB (gd (((decide (r3=0)) == true) && ((!r5) == false)) (JU g1 e1)) fun (r6:AJ)=>
 AB (gd (((decide (r3=0)) == true) && ((!r5) == false)) (FH r2 r6)) fun (r7:Bool)=>
 some ((decide (r3=0)) && ((!r5) || r7))
 )
 )
end Go.Proofs.YtojmbndlghbpjaaDoor.Al
