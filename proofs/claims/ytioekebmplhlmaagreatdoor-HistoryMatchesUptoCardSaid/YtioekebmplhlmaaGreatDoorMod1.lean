/- Models, as printed. -/
import Derived.Test.YtioekebmplhlmaaGreatDoorAl2
set_option linter.all false
namespace Go.Proofs.YtioekebmplhlmaaGreatDoor.Al
structure Kd where
 Kind:Int
 N:Int
deriving DecidableEq
instance:Inhabited Kd:=⟨⟨0,0⟩⟩
structure Rf where
 steps:List Kd
 used:Int
deriving DecidableEq
instance:Inhabited Rf:=⟨⟨[],0⟩⟩
structure QN where
 out:List Kd
 add:Int
 cut:Int
deriving DecidableEq
instance:Inhabited QN:=⟨⟨[],0,0⟩⟩
structure Ab where
 Name:List UInt8
 Value:List UInt8
deriving DecidableEq
instance:Inhabited Ab:=⟨⟨[],[]⟩⟩
@[reducible] def Ab.row (x:Ab):List RV:=[.str x.Name,.str x.Value]
structure AO where
 Char:Int
 Ref:Int
 Attrs:List Ab
deriving DecidableEq
instance:Inhabited AO:=⟨⟨0,0,[]⟩⟩
@[reducible] def AO.row (x:AO):List RV:=[.int .i64 x.Char,.int .i64 x.Ref,.sl (x.Attrs.map Ab.row)]
structure Ae where
 Row:Int
 Col:Int
 Text:List UInt8
 Ref:Int
 Attrs:List Ab
deriving DecidableEq
instance:Inhabited Ae:=⟨⟨0,0,[],0,[]⟩⟩
@[reducible] def Ae.row (x:Ae):List RV:=[.int .i64 x.Row,.int .i64 x.Col,.str x.Text,.int .i64 x.Ref,.sl (x.Attrs.map Ab.row)]
structure Ag where
 Row:Int
 Col:Int
 H:Int
 W:Int
deriving DecidableEq
instance:Inhabited Ag:=⟨⟨0,0,0,0⟩⟩
@[reducible] def Ag.row (x:Ag):List RV:=[.int .i64 x.Row,.int .i64 x.Col,.int .i64 x.H,.int .i64 x.W]
structure Au where
 Rows:Int
 Cols:Int
 Cells:List Ae
 Merges:List Ag
deriving DecidableEq
instance:Inhabited Au:=⟨⟨0,0,[],[]⟩⟩
@[reducible] def Au.row (x:Au):List RV:=[.int .i64 x.Rows,.int .i64 x.Cols,.sl (x.Cells.map Ae.row),.sl (x.Merges.map Ag.row)]
structure Aq where
 Clock:Int
 Site:Int
 Kind:Int
 Item:Int
 Parent:Int
 Place:List UInt8
 Name:List UInt8
 Value:List UInt8
deriving DecidableEq
instance:Inhabited Aq:=⟨⟨0,0,0,0,0,[],[],[]⟩⟩
@[reducible] def Aq.row (x:Aq):List RV:=[.int .i64 x.Clock,.int .i64 x.Site,.int .i64 x.Kind,.int .i64 x.Item,.int .i64 x.Parent,.str x.Place,.str x.Name,.str x.Value]
structure AE where
 ID:Int
 Kind:Int
 Attrs:List Ab
 Flow:List AO
 Grid:Au
 Draw:List Aq
deriving DecidableEq
instance:Inhabited AE:=⟨⟨0,0,[],[],(Au.mk 0 0 [] []),[]⟩⟩
@[reducible] def AE.row (x:AE):List RV:=[.int .i64 x.ID,.int .i64 x.Kind,.sl (x.Attrs.map Ab.row),.sl (x.Flow.map AO.row),.int .i64 x.Grid.Rows,.int .i64 x.Grid.Cols,.sl (x.Grid.Cells.map Ae.row),.sl (x.Grid.Merges.map Ag.row),.sl (x.Draw.map Aq.row)]
structure MH where
 Kind:Int
 N:Int
 Attrs:List Ab
 Elems:List AO
deriving DecidableEq
instance:Inhabited MH:=⟨⟨0,0,[],[]⟩⟩
structure Np where
 Rows:List Kd
 Cols:List Kd
 Cells:List Ae
 Split:List Ag
 Merge:List Ag
deriving DecidableEq
instance:Inhabited Np:=⟨⟨[],[],[],[],[]⟩⟩
structure QK where
 Kind:Int
 Node:Int
 New:AE
 Attrs:List Ab
 Steps:List MH
 Grid:Np
 Draw:List Aq
deriving DecidableEq
instance:Inhabited QK:=⟨⟨0,0,(AE.mk 0 0 [] [] (Au.mk 0 0 [] []) []),[],[],(Np.mk [] [] [] [] []),[]⟩⟩
structure Wl where
 Site:Int
 Number:Int
 Change:List QK
 Undoes:Int
 Refused:Int
deriving DecidableEq
instance:Inhabited Wl:=⟨⟨0,0,[],0,0⟩⟩
structure R3 where
 From:Int
 To:Int
deriving DecidableEq
instance:Inhabited R3:=⟨⟨0,0⟩⟩
noncomputable def Be (x1:Int) (low1:Int) (high1:Int):Option (Bool):=
 some ((decide (low1≤x1)) && (decide (x1≤high1)))
noncomputable def Kv (a1:List Int) (b1:List Int) (x2:Int):Option (Int ⊕ (Aj Unit Bool)):=
 if (decide (x2<(a1.length:Int))) then (
 AB (AM a1 x2) fun (x4:Int)=>
 AB (AM b1 x2) fun (x5:Int)=>
 if (!decide (x4=x5)) then (
 some (.inr (.ext false))
 ) else (
 AB (AS .i64 (x2+1)) fun (x6:Int)=>
 some (.inl x6)
 )
 ) else (
 some (.inr (.nrm ()))
 )
noncomputable def Ia (a1:List Int) (b1:List Int):Option (Bool):=
 if (!decide ((a1.length:Int)=(b1.length:Int))) then (
 some false
 ) else (
 Ap (iter (fun (a:Int)=>Kv a1 b1 a) 0) fun (u2:Unit)=>
 some true
 )
noncomputable def Hs (s1:List UInt8) (x2:Int):Option (Int ⊕ (Aj Unit Bool)):=
 if (decide (x2<(s1.length:Int))) then (
 AB (AM s1 x2) fun (c1:UInt8)=>
 if (((((decide ((c1.toNat:Int)<97)) || (decide (122<(c1.toNat:Int)))) && ((decide ((c1.toNat:Int)<48)) || (decide (57<(c1.toNat:Int))))) && (!decide ((c1.toNat:Int)=46))) && (!decide ((c1.toNat:Int)=45))) then (
 some (.inr (.ext false))
 ) else (
 AB (AS .i64 (x2+1)) fun (x4:Int)=>
 some (.inl x4)
 )
 ) else (
 some (.inr (.nrm ()))
 )
noncomputable def HD (s1:List UInt8):Option (Bool):=
 AB (gd (((decide (s1=[])) || (decide (24<(s1.length:Int)))) == false) (AM s1 0)) fun (ch1:UInt8)=>
 AB (gd ((((decide (s1=[])) || (decide (24<(s1.length:Int)))) || (decide ((ch1.toNat:Int)<97))) == false) (AM s1 0)) fun (ch2:UInt8)=>
 if ((((decide (s1=[])) || (decide (24<(s1.length:Int)))) || (decide ((ch1.toNat:Int)<97))) || (decide (122<(ch2.toNat:Int)))) then (
 some false
 ) else (
 Ap (iter (fun (a:Int)=>Hs s1 a) 0) fun (u2:Unit)=>
 some true
 )
noncomputable def KM (s1:List UInt8) (x2:Int):Option (Int ⊕ (Aj Unit Bool)):=
 if (decide (x2<(s1.length:Int))) then (
 AB (AM s1 x2) fun (ch1:UInt8)=>
 if ((decide ((ch1.toNat:Int)<32)) || (decide (126<(ch1.toNat:Int)))) then (
 some (.inr (.ext false))
 ) else (
 AB (AS .i64 (x2+1)) fun (x4:Int)=>
 some (.inl x4)
 )
 ) else (
 some (.inr (.nrm ()))
 )
noncomputable def Ii (s1:List UInt8):Option (Bool):=
 if ((decide (s1=[])) || (decide (200<(s1.length:Int)))) then (
 some false
 ) else (
 Ap (iter (fun (a:Int)=>KM s1 a) 0) fun (u2:Unit)=>
 some true
 )
noncomputable def Hj (l1:List Ab) (empty1:Bool) (x2:Int):Option (Int ⊕ (Aj Unit Int)):=
 if (decide (x2<(l1.length:Int))) then (
 AB (AM l1 x2) fun (x4:Ab)=>
 AB (HD x4.Name) fun (r1:Bool)=>
 if (!r1) then (
 some (.inr (.ext 9))
 ) else (
 AB (Ii x4.Value) fun (r2:Bool)=>
 if ((!r2) && (!(empty1 && (decide (x4.Value=[]))))) then (
 some (.inr (.ext 23))
 ) else (
 AB (gd ((decide (0<x2)) == true) (AS .i64 (x2-1))) fun (x5:Int)=>
 AB (gd ((decide (0<x2)) == true) (AM l1 x5)) fun (x6:Ab)=>
 if ((decide (0<x2)) && (Bt x4.Name x6.Name || decide (x4.Name=x6.Name))) then (
 some (.inr (.ext 5))
 ) else (
 AB (AS .i64 (x2+1)) fun (x7:Int)=>
 some (.inl x7)
 )
 )
 )
 ) else (
 some (.inr (.nrm ()))
 )
noncomputable def Is (l1:List Ab) (empty1:Bool):Option (Int):=
 Ap (iter (fun (a:Int)=>Hj l1 empty1 a) 0) fun (u2:Unit)=>
 some 0
noncomputable def Fl (l1:List Ab):Option (Int):=
 AB (Is l1 false) fun (r1:Int)=>
 some r1
noncomputable def Kc (a1:List Ab) (b1:List Ab) (x2:Int):Option (Int ⊕ (Aj Unit Bool)):=
 if (decide (x2<(a1.length:Int))) then (
 AB (AM a1 x2) fun (x4:Ab)=>
 AB (AM b1 x2) fun (x5:Ab)=>
 if (!(decide (x4.Name=x5.Name) && (decide (x4.Value=x5.Value) && true))) then (
 some (.inr (.ext false))
 ) else (
 AB (AS .i64 (x2+1)) fun (x6:Int)=>
 some (.inl x6)
 )
 ) else (
 some (.inr (.nrm ()))
 )
noncomputable def Gw (a1:List Ab) (b1:List Ab):Option (Bool):=
 if (!decide ((a1.length:Int)=(b1.length:Int))) then (
 some false
 ) else (
 Ap (iter (fun (a:Int)=>Kc a1 b1 a) 0) fun (u2:Unit)=>
 some true
 )
noncomputable def Ho (s1:List UInt8) (x2:Int):Option (Int ⊕ (Aj Unit Bool)):=
 if (decide (x2<(s1.length:Int))) then (
 AB (AM s1 x2) fun (ch1:UInt8)=>
 if ((!((decide (97≤(ch1.toNat:Int))) && (decide ((ch1.toNat:Int)≤122)))) && ((decide (x2=0)) || (((!decide ((ch1.toNat:Int)=46)) && (!decide ((ch1.toNat:Int)=45))) && ((decide ((ch1.toNat:Int)<48)) || (decide (57<(ch1.toNat:Int))))))) then (
 some (.inr (.ext false))
 ) else (
 AB (AS .i64 (x2+1)) fun (x4:Int)=>
 some (.inl x4)
 )
 ) else (
 some (.inr (.nrm ()))
 )
noncomputable def Gj (s1:List UInt8):Option (Bool):=
 Ap (iter (fun (a:Int)=>Ho s1 a) 0) fun (u2:Unit)=>
 some ((decide (1≤(s1.length:Int))) && (decide ((s1.length:Int)≤24)))
noncomputable def Ji (s1:List UInt8) (x2:Int):Option (Int ⊕ (Aj Unit Bool)):=
 if (decide (x2<(s1.length:Int))) then (
 AB (AM s1 x2) fun (ch1:UInt8)=>
 if ((decide ((ch1.toNat:Int)<32)) || (decide (126<(ch1.toNat:Int)))) then (
 some (.inr (.ext false))
 ) else (
 AB (AS .i64 (x2+1)) fun (x4:Int)=>
 some (.inl x4)
 )
 ) else (
 some (.inr (.nrm ()))
 )
noncomputable def H9 (s1:List UInt8):Option (Bool):=
 Ap (iter (fun (a:Int)=>Ji s1 a) 0) fun (u2:Unit)=>
 some ((decide (1≤(s1.length:Int))) && (decide ((s1.length:Int)≤200)))
noncomputable def Im (l1:List Ab) (change1:Bool) (x2:Int):Option (Int ⊕ (Aj Unit Int)):=
 if (decide (x2<(l1.length:Int))) then (
 AB (AM l1 x2) fun (x4:Ab)=>
 AB (Gj x4.Name) fun (r1:Bool)=>
 if (!r1) then (
 some (.inr (.ext 9))
 ) else (
 AB (H9 x4.Value) fun (r2:Bool)=>
 if ((!r2) && ((!decide (x4.Value=[])) || (!change1))) then (
 some (.inr (.ext 23))
 ) else (
 AB (gd ((decide (0<x2)) == true) (AS .i64 (x2-1))) fun (x5:Int)=>
 AB (gd ((decide (0<x2)) == true) (AM l1 x5)) fun (x6:Ab)=>
 if ((decide (0<x2)) && (!Bt x6.Name x4.Name)) then (
 some (.inr (.ext 5))
 ) else (
 AB (AS .i64 (x2+1)) fun (x7:Int)=>
 some (.inl x7)
 )
 )
 )
 ) else (
 some (.inr (.nrm ()))
 )
noncomputable def GT (l1:List Ab) (change1:Bool):Option (Int):=
 Ap (iter (fun (a:Int)=>Im l1 change1 a) 0) fun (u2:Unit)=>
 some 0
noncomputable def Mc:Option (AO):=
 some (AO.mk 10 0 [])
noncomputable def Hd (c1:Int):Option (Bool):=
 some (((((decide (c1=9)) || (decide (c1=10))) || ((decide (32≤c1)) && (decide (c1<127)))) || ((decide (160≤c1)) && (decide (c1<55296)))) || ((decide (57343<c1)) && (decide (c1≤1114111))))
noncomputable def Jv (x1:AO):Option (Int):=
 if ((!decide (x1.Char=0)) == (!decide (x1.Ref=0))) then (
 some 4
 ) else (
 AB (gd ((decide (x1.Ref=0)) == true) (Hd x1.Char)) fun (r1:Bool)=>
 AB (
 if ((decide (x1.Ref=0)) && (!r1)) then (
 some ((decide (x1.Ref=0)) && (!r1))
 ) else (
 some ((!decide (x1.Ref=0)) && ((decide (x1.Ref<1)) || (decide (1073741824<x1.Ref))))
 )
 ) fun (x2:Bool)=>
 if x2 then (
 some 2
 ) else (
 AB (Fl x1.Attrs) fun (r2:Int)=>
 some r2
 )
 )
noncomputable def Hh (c1:Int):Option (Bool):=
 AB (gd (((decide (c1=9)) || (decide (c1=10))) == false) (Be c1 32 126)) fun (r1:Bool)=>
 AB (gd ((((decide (c1=9)) || (decide (c1=10))) || r1) == false) (Be c1 160 55295)) fun (r2:Bool)=>
 AB (gd (((((decide (c1=9)) || (decide (c1=10))) || r1) || r2) == false) (Be c1 57344 1114111)) fun (r3:Bool)=>
 some (((((decide (c1=9)) || (decide (c1=10))) || r1) || r2) || r3)
noncomputable def Iy (x1:AO):Option (Int):=
 if (((decide (x1.Char=0)) && (decide (x1.Ref=0))) || ((!decide (x1.Char=0)) && (!decide (x1.Ref=0)))) then (
 some 4
 ) else (
 AB (gd ((!decide (x1.Char=0)) == true) (Hh x1.Char)) fun (r1:Bool)=>
 AB (gd ((((!decide (x1.Char=0)) && (!r1)) == false) && ((!decide (x1.Ref=0)) == true)) (Be x1.Ref 1 1073741824)) fun (r2:Bool)=>
 if (((!decide (x1.Char=0)) && (!r1)) || ((!decide (x1.Ref=0)) && (!r2))) then (
 some 2
 ) else (
 AB (GT x1.Attrs false) fun (r3:Int)=>
 some r3
 )
 )
noncomputable def JA (a1:List Ab) (b1:List Ab) (x2:Int):Option (Int ⊕ (Aj Unit Bool)):=
 if (decide (x2<(a1.length:Int))) then (
 AB (AM a1 x2) fun (x4:Ab)=>
 AB (AM b1 x2) fun (x5:Ab)=>
 if (!(decide (x4.Name=x5.Name) && (decide (x4.Value=x5.Value) && true))) then (
 some (.inr (.ext false))
 ) else (
 AB (AS .i64 (x2+1)) fun (x6:Int)=>
 some (.inl x6)
 )
 ) else (
 some (.inr (.nrm ()))
 )
noncomputable def G9 (a1:List Ab) (b1:List Ab):Option (Bool):=
 if (!decide ((a1.length:Int)=(b1.length:Int))) then (
 some false
 ) else (
 Ap (iter (fun (a:Int)=>JA a1 b1 a) 0) fun (u2:Unit)=>
 some true
 )
structure SQ where
 Adds:List (List AO)
 Cuts:List Bool
 Attrs:List (List Ab)
deriving DecidableEq
instance:Inhabited SQ:=⟨⟨[],[],[]⟩⟩
structure Xv where
 steps:List MH
 used:Int
deriving DecidableEq
instance:Inhabited Xv:=⟨⟨[],0⟩⟩
structure WA where
 out:List MH
 add:List AO
 cut:Int
deriving DecidableEq
instance:Inhabited WA:=⟨⟨[],[],0⟩⟩
noncomputable def GK (f1:List AO) (x2:Int) (out3:List AO):Option ((Int × (List AO)) ⊕ (List AO)):=
 if (decide (x2<(f1.length:Int))) then (
 AB (AM f1 x2) fun (x4:AO)=>
 AB (BS 32 [] x4.Attrs) fun (l1:List Ab)=>
 AB (AM out3 x2) fun (x5:AO)=>
 AB (AS .i64 (x2+1)) fun (x6:Int)=>
 some (.inl (x6,(out3.set x2.toNat (AO.mk x4.Char x4.Ref l1))))
 ) else (
 some (.inr out3)
 )
noncomputable def JQ (f1:List AO):Option ((List AO)):=
 AB (mk 40 (f1.length:Int) (AO.mk 0 0 [])) fun (out1:List AO)=>
 AB (iter (fun (a:Int × (List AO))=>GK f1 a.1 a.2) (0,out1)) fun (out5:List AO)=>
 some out5
noncomputable def JV (a1:AO) (b1:AO):Option (Bool):=
 AB (gd (((decide (a1.Char=b1.Char)) && (decide (a1.Ref=b1.Ref))) == true) (Gw a1.Attrs b1.Attrs)) fun (r1:Bool)=>
 some (((decide (a1.Char=b1.Char)) && (decide (a1.Ref=b1.Ref))) && r1)
noncomputable def KQ (a1:List AO) (b1:List AO) (x2:Int):Option (Int ⊕ (Aj Unit Bool)):=
 if (decide (x2<(a1.length:Int))) then (
 AB (AM a1 x2) fun (x4:AO)=>
 AB (AM b1 x2) fun (x5:AO)=>
 AB (JV x4 x5) fun (r1:Bool)=>
 if (!r1) then (
 some (.inr (.ext false))
 ) else (
 AB (AS .i64 (x2+1)) fun (x6:Int)=>
 some (.inl x6)
 )
 ) else (
 some (.inr (.nrm ()))
 )
noncomputable def KY (a1:List AO) (b1:List AO):Option (Bool):=
 if (!decide ((a1.length:Int)=(b1.length:Int))) then (
 some false
 ) else (
 Ap (iter (fun (a:Int)=>KQ a1 b1 a) 0) fun (u2:Unit)=>
 some true
 )
noncomputable def Gt (f1:List AO) (text1:Bool) (x2:Int):Option (Int ⊕ (Aj Unit Int)):=
 if (decide (x2<(f1.length:Int))) then (
 AB (AM f1 x2) fun (x6:AO)=>
 AB (Jv x6) fun (e1:Int)=>
 if (!decide (e1=0)) then (
 some (.inr (.ext e1))
 ) else (
 if ((!text1) && (decide (x6.Ref=0))) then (
 some (.inr (.ext 8))
 ) else (
 AB (AS .i64 (x2+1)) fun (x7:Int)=>
 some (.inl x7)
 )
 )
 ) else (
 some (.inr (.nrm ()))
 )
noncomputable def EH (f1:List AO) (text1:Bool):Option (Int):=
 Ap (iter (fun (a:Int)=>Gt f1 text1 a) 0) fun (u2:Unit)=>
 AB (gd ((text1 == true) && ((decide ((f1.length:Int)=0)) == false)) (AS .i64 ((f1.length:Int)-1))) fun (x4:Int)=>
 AB (gd ((text1 == true) && ((decide ((f1.length:Int)=0)) == false)) (AM f1 x4)) fun (x5:AO)=>
 if (text1 && ((decide ((f1.length:Int)=0)) || (!decide (x5.Char=10)))) then (
 some 11
 ) else (
 some 0
 )
noncomputable def GS (f1:List AO) (text1:Bool) (x2:Int):Option (Int ⊕ (Aj Unit Int)):=
 if (decide (x2<(f1.length:Int))) then (
 AB (AM f1 x2) fun (x6:AO)=>
 AB (Iy x6) fun (e1:Int)=>
 if (!decide (e1=0)) then (
 some (.inr (.ext e1))
 ) else (
 if ((!text1) && (!decide (x6.Char=0))) then (
 some (.inr (.ext 8))
 ) else (
 AB (AS .i64 (x2+1)) fun (x7:Int)=>
 some (.inl x7)
 )
 )
 ) else (
 some (.inr (.nrm ()))
 )
noncomputable def Fk (f1:List AO) (text1:Bool):Option (Int):=
 Ap (iter (fun (a:Int)=>GS f1 text1 a) 0) fun (u2:Unit)=>
 AB (gd ((text1 == true) && ((decide ((f1.length:Int)=0)) == false)) (AS .i64 ((f1.length:Int)-1))) fun (x4:Int)=>
 AB (gd ((text1 == true) && ((decide ((f1.length:Int)=0)) == false)) (AM f1 x4)) fun (x5:AO)=>
 if (text1 && ((decide ((f1.length:Int)=0)) || (!decide (x5.Char=10)))) then (
 some 11
 ) else (
 some 0
 )
structure FH where
 lo:Int
 hi:Int
deriving DecidableEq
instance:Inhabited FH:=⟨⟨0,0⟩⟩
@[reducible] def FH.row (x:FH):List RV:=[.int .u8 x.lo,.int .u8 x.hi]
noncomputable def Lf:List FH:=GB.map fun p=>FH.mk p.1 p.2
noncomputable def KO (s1:List UInt8):Option (Int × Int):=
 if (decide ((s1.length:Int)<1)) then (
 some (65533,0)
 ) else (
 AB (AM s1 0) fun (s01:UInt8)=>
 AB (AM D7 (s01.toNat:Int)) fun (x1:Int)=>
 if (decide (240≤x1)) then (
 some ((CX .i32 (MN .i32 (IntKind.i32.wrap (s01.toNat:Int)) (Dv .i32 (CE .i32 (IntKind.i32.wrap x1) 31) 31)) (Bd .i32 65533 (Dv .i32 (CE .i32 (IntKind.i32.wrap x1) 31) 31))),1)
 ) else (
 AB (AM Lf (Dv .u8 x1 4)) fun (x2:FH)=>
 if (decide ((s1.length:Int)<(IntKind.i64.wrap (Bd .u8 x1 7)))) then (
 some (65533,1)
 ) else (
 AB (AM s1 1) fun (s11:UInt8)=>
 if ((decide ((s11.toNat:Int)<x2.lo)) || (decide (x2.hi<(s11.toNat:Int)))) then (
 some (65533,1)
 ) else (
 if (decide ((IntKind.i64.wrap (Bd .u8 x1 7))≤2)) then (
 some ((CX .i32 (CE .i32 (IntKind.i32.wrap (Bd .u8 (s01.toNat:Int) 31)) 6) (IntKind.i32.wrap (Bd .u8 (s11.toNat:Int) 63))),2)
 ) else (
 AB (AM s1 2) fun (s21:UInt8)=>
 if ((decide ((s21.toNat:Int)<128)) || (decide (191<(s21.toNat:Int)))) then (
 some (65533,1)
 ) else (
 if (decide ((IntKind.i64.wrap (Bd .u8 x1 7))≤3)) then (
 some ((CX .i32 (CX .i32 (CE .i32 (IntKind.i32.wrap (Bd .u8 (s01.toNat:Int) 15)) 12) (CE .i32 (IntKind.i32.wrap (Bd .u8 (s11.toNat:Int) 63)) 6)) (IntKind.i32.wrap (Bd .u8 (s21.toNat:Int) 63))),3)
 ) else (
 AB (AM s1 3) fun (s31:UInt8)=>
 if ((decide ((s31.toNat:Int)<128)) || (decide (191<(s31.toNat:Int)))) then (
 some (65533,1)
 ) else (
 some ((CX .i32 (CX .i32 (CX .i32 (CE .i32 (IntKind.i32.wrap (Bd .u8 (s01.toNat:Int) 7)) 18) (CE .i32 (IntKind.i32.wrap (Bd .u8 (s11.toNat:Int) 63)) 12)) (CE .i32 (IntKind.i32.wrap (Bd .u8 (s21.toNat:Int) 63)) 6)) (IntKind.i32.wrap (Bd .u8 (s31.toNat:Int) 63))),4)
 )
 )
 )
 )
 )
 )
 )
 )
noncomputable def JL (s1:List UInt8):Option (Int × Int):=
 AB (gd ((!decide (s1=[])) == true) (AM s1 0)) fun (ch1:UInt8)=>
 if ((!decide (s1=[])) && (decide ((ch1.toNat:Int)<128))) then (
 AB (AM s1 0) fun (ch2:UInt8)=>
 some ((IntKind.i32.wrap (ch2.toNat:Int)),1)
 ) else (
 CZ (KO s1) fun (r1:Int) (r2:Int)=>
 some (r1,r2)
 )
noncomputable def Iz (a1:List AO) (b1:List AO) (x2:Int):Option (Int ⊕ (Aj Unit Bool)):=
 if (decide (x2<(a1.length:Int))) then (
 AB (AM a1 x2) fun (x4:AO)=>
 AB (AM b1 x2) fun (x5:AO)=>
 AB (gd (((!decide (x4.Char=x5.Char)) || (!decide (x4.Ref=x5.Ref))) == false) (G9 x4.Attrs x5.Attrs)) fun (r1:Bool)=>
 if (((!decide (x4.Char=x5.Char)) || (!decide (x4.Ref=x5.Ref))) || (!r1)) then (
 some (.inr (.ext false))
 ) else (
 AB (AS .i64 (x2+1)) fun (x6:Int)=>
 some (.inl x6)
 )
 ) else (
 some (.inr (.nrm ()))
 )
noncomputable def I7 (a1:List AO) (b1:List AO):Option (Bool):=
 if (!decide ((a1.length:Int)=(b1.length:Int))) then (
 some false
 ) else (
 Ap (iter (fun (a:Int)=>Iz a1 b1 a) 0) fun (u2:Unit)=>
 some true
 )
noncomputable def F4 (f1:List AO) (x2:Int) (out2:List Int):Option ((Int × (List Int)) ⊕ (List Int)):=
 if (decide (x2<(f1.length:Int))) then (
 AB (
 AB (AM f1 x2) fun (x5:AO)=>
 if (!decide (x5.Ref=0)) then (
 AB (BS 8 out2 [x5.Ref]) fun (out6:List Int)=>
 some out6
 ) else (
 some out2
 )
 ) fun (out5:List Int)=>
 AB (AS .i64 (x2+1)) fun (x4:Int)=>
 some (.inl (x4,out5))
 ) else (
 some (.inr out2)
 )
noncomputable def OY (f1:List AO):Option ((List Int)):=
 AB (iter (fun (a:Int × (List Int))=>F4 f1 a.1 a.2) (0,[])) fun (out4:List Int)=>
 some out4
structure AP where
 Nodes:List AE
deriving DecidableEq
instance:Inhabited AP:=⟨⟨[]⟩⟩
@[reducible] def AP.row (x:AP):List RV:=[.sl (x.Nodes.map AE.row)]
noncomputable def IF:Option (AP):=
 some (AP.mk [(AE.mk 1 0 [] [(AO.mk 0 2 [])] (Au.mk 0 0 [] []) []),(AE.mk 2 1 [] [(AO.mk 10 0 [])] (Au.mk 0 0 [] []) [])])
noncomputable def HH (kind1:Int):Option (Bool):=
 some ((((decide (kind1=1)) || (decide (kind1=3))) || (decide (kind1=4))) || (decide (kind1=12)))
noncomputable def Gc (kind1:Int):Option (Bool):=
 some ((decide (kind1=0)) || (decide (kind1=7)))
noncomputable def Gf (kind1:Int):Option (Bool):=
 some ((decide (kind1=2)) || (decide (kind1=6)))
noncomputable def LA (s11:List Ag) (s21:List Ag) (x2:Int):Option (Int ⊕ (Aj Unit Bool)):=
 if (decide (x2<(s11.length:Int))) then (
 AB (AM s11 x2) fun (x4:Ag)=>
 AB (AM s21 x2) fun (x5:Ag)=>
 if (!(decide (x4.Row=x5.Row) && (decide (x4.Col=x5.Col) && (decide (x4.H=x5.H) && (decide (x4.W=x5.W) && true))))) then (
 some (.inr (.ext false))
 ) else (
 AB (AS .i64 (x2+1)) fun (x6:Int)=>
 some (.inl x6)
 )
 ) else (
 some (.inr (.nrm ()))
 )
noncomputable def KT (s11:List Ag) (s21:List Ag):Option (Bool):=
 if (!decide ((s11.length:Int)=(s21.length:Int))) then (
 some false
 ) else (
 Ap (iter (fun (a:Int)=>LA s11 s21 a) 0) fun (u2:Unit)=>
 some true
 )
noncomputable def KP (a1:Ae) (b1:Ae):Option (Bool):=
 AB (gd (((((decide (a1.Row=b1.Row)) && (decide (a1.Col=b1.Col))) && (decide (a1.Text=b1.Text))) && (decide (a1.Ref=b1.Ref))) == true) (G9 a1.Attrs b1.Attrs)) fun (r1:Bool)=>
 some (((((decide (a1.Row=b1.Row)) && (decide (a1.Col=b1.Col))) && (decide (a1.Text=b1.Text))) && (decide (a1.Ref=b1.Ref))) && r1)
noncomputable def Lk (s11:List Ae) (s21:List Ae) (x2:Int):Option (Int ⊕ (Aj Unit Bool)):=
 if (decide (x2<(s11.length:Int))) then (
 AB (AM s11 x2) fun (x4:Ae)=>
 AB (AM s21 x2) fun (x5:Ae)=>
 AB (KP x4 x5) fun (r1:Bool)=>
 if (!r1) then (
 some (.inr (.ext false))
 ) else (
 AB (AS .i64 (x2+1)) fun (x6:Int)=>
 some (.inl x6)
 )
 ) else (
 some (.inr (.nrm ()))
 )
noncomputable def Kx (s11:List Ae) (s21:List Ae):Option (Bool):=
 if (!decide ((s11.length:Int)=(s21.length:Int))) then (
 some false
 ) else (
 Ap (iter (fun (a:Int)=>Lk s11 s21 a) 0) fun (u2:Unit)=>
 some true
 )
noncomputable def GU (a1:Au) (b1:Au):Option (Bool):=
 AB (gd (((decide (a1.Rows=b1.Rows)) && (decide (a1.Cols=b1.Cols))) == true) (KT a1.Merges b1.Merges)) fun (r1:Bool)=>
 AB (gd ((((decide (a1.Rows=b1.Rows)) && (decide (a1.Cols=b1.Cols))) && r1) == true) (Kx a1.Cells b1.Cells)) fun (r2:Bool)=>
 some ((((decide (a1.Rows=b1.Rows)) && (decide (a1.Cols=b1.Cols))) && r1) && r2)
noncomputable def FN (kind1:Int):Option (Bool):=
 some (((decide (kind1=8)) || (decide (kind1=9))) || (decide (kind1=10)))
noncomputable def EO (s3:List UInt8):Option ((List UInt8) ⊕ (Aj Unit Bool)):=
 if (!decide (s3=[])) then (
 CZ (JL s3) fun (r1:Int) (r2:Int)=>
 AB (gd ((((decide (r1=65533)) && (decide (r2=1))) || (decide (r1=10))) == false) (Hd (IntKind.i64.wrap r1))) fun (r3:Bool)=>
 if ((((decide (r1=65533)) && (decide (r2=1))) || (decide (r1=10))) || (!r3)) then (
 some (.inr (.ext false))
 ) else (
 AB (DH s3 r2 (s3.length:Int)) fun (s5:List UInt8)=>
 some (.inl s5)
 )
 ) else (
 some (.inr (.nrm ()))
 )
noncomputable def I2 (s1:List UInt8):Option (Bool):=
 Ap (iter (fun (a:(List UInt8))=>EO a) s1) fun (u2:Unit)=>
 some true
noncomputable def JS (c1:Ae):Option (Bool):=
 some (((decide (c1.Text=[])) && (decide (c1.Ref=0))) && (decide ((c1.Attrs.length:Int)=0)))
noncomputable def Kb (x1:Int):Option (Bool):=
 some (!decide (x1=x1))
noncomputable def Fi (x1:Int) (y1:Int):Option (Int):=
 AB (Kb x1) fun (xNaN1:Bool)=>
 AB (Kb y1) fun (yNaN1:Bool)=>
 if xNaN1 then (
 if yNaN1 then (
 some 0
 ) else (
 some (-1)
 )
 ) else (
 if yNaN1 then (
 some 1
 ) else (
 if (decide (x1<y1)) then (
 some (-1)
 ) else (
 if (decide (y1<x1)) then (
 some 1
 ) else (
 some 0
 )
 )
 )
 )
noncomputable def Dg (vals1:List Int) (x2:Int):Option (Int ⊕ (Aj Unit Int)):=
 if (decide (x2<(vals1.length:Int))) then (
 AB (AM vals1 x2) fun (x4:Int)=>
 if (!decide (x4=0)) then (
 some (.inr (.ext x4))
 ) else (
 AB (AS .i64 (x2+1)) fun (x5:Int)=>
 some (.inl x5)
 )
 ) else (
 some (.inr (.nrm ()))
 )
noncomputable def IJ (vals1:List Int):Option (Int):=
 Ap (iter (fun (a:Int)=>Dg vals1 a) 0) fun (u2:Unit)=>
 some 0
noncomputable def HP (a1:Ae) (b1:Ae):Option (Int):=
 AB (Fi a1.Row b1.Row) fun (r1:Int)=>
 AB (Fi a1.Col b1.Col) fun (r2:Int)=>
 AB (IJ [r1,r2]) fun (r3:Int)=>
 some r3
noncomputable def JX (l1:List Ae) (rows1:Int) (cols1:Int) (none1:Bool) (x2:Int):Option (Int ⊕ (Aj Unit Int)):=
 if (decide (x2<(l1.length:Int))) then (
 AB (AM l1 x2) fun (x4:Ae)=>
 if ((((decide (x4.Row<0)) || (decide (rows1≤x4.Row))) || (decide (x4.Col<0))) || (decide (cols1≤x4.Col))) then (
 some (.inr (.ext 2))
 ) else (
 if ((decide (x4.Ref<0)) || (decide (1073741824<x4.Ref))) then (
 some (.inr (.ext 2))
 ) else (
 AB (I2 x4.Text) fun (r1:Bool)=>
 if (!r1) then (
 some (.inr (.ext 23))
 ) else (
 AB (Fl x4.Attrs) fun (e1:Int)=>
 if (!decide (e1=0)) then (
 some (.inr (.ext e1))
 ) else (
 AB (JS x4) fun (r2:Bool)=>
 if (r2 && (!none1)) then (
 some (.inr (.ext 4))
 ) else (
 AB (gd ((decide (0<x2)) == true) (AS .i64 (x2-1))) fun (x5:Int)=>
 AB (gd ((decide (0<x2)) == true) (AM l1 x5)) fun (x6:Ae)=>
 AB (gd ((decide (0<x2)) == true) (HP x6 x4)) fun (r3:Int)=>
 if ((decide (0<x2)) && (decide (0≤r3))) then (
 some (.inr (.ext 5))
 ) else (
 AB (AS .i64 (x2+1)) fun (x7:Int)=>
 some (.inl x7)
 )
 )
 )
 )
 )
 )
 ) else (
 some (.inr (.nrm ()))
 )
noncomputable def Jm (l1:List Ae) (rows1:Int) (cols1:Int) (none1:Bool):Option (Int):=
 Ap (iter (fun (a:Int)=>JX l1 rows1 cols1 none1 a) 0) fun (u2:Unit)=>
 some 0
noncomputable def Kg (r1:Ag) (rows1:Int) (cols1:Int):Option (Bool):=
 AB (gd (((((((decide (0≤r1.Row)) && (decide (0≤r1.Col))) && (decide (1≤r1.H))) && (decide (1≤r1.W))) && (decide (r1.Row<rows1))) && (decide (r1.Col<cols1))) == true) (AS .i64 (rows1-r1.Row))) fun (x1:Int)=>
 AB (gd ((((((((decide (0≤r1.Row)) && (decide (0≤r1.Col))) && (decide (1≤r1.H))) && (decide (1≤r1.W))) && (decide (r1.Row<rows1))) && (decide (r1.Col<cols1))) && (decide (r1.H≤x1))) == true) (AS .i64 (cols1-r1.Col))) fun (x2:Int)=>
 some ((((((((decide (0≤r1.Row)) && (decide (0≤r1.Col))) && (decide (1≤r1.H))) && (decide (1≤r1.W))) && (decide (r1.Row<rows1))) && (decide (r1.Col<cols1))) && (decide (r1.H≤x1))) && (decide (r1.W≤x2)))
noncomputable def Jg (a1:Ag) (b1:Ag):Option (Bool):=
 some ((decide (a1.Row<b1.Row)) || ((decide (a1.Row=b1.Row)) && (decide (a1.Col<b1.Col))))
noncomputable def JC (a1:Ag) (b1:Ag):Option (Bool):=
 AB (AS .i64 (b1.Row+b1.H)) fun (x1:Int)=>
 AB (gd ((decide (a1.Row<x1)) == true) (AS .i64 (a1.Row+a1.H))) fun (x2:Int)=>
 AB (gd (((decide (a1.Row<x1)) && (decide (b1.Row<x2))) == true) (AS .i64 (b1.Col+b1.W))) fun (x3:Int)=>
 AB (gd ((((decide (a1.Row<x1)) && (decide (b1.Row<x2))) && (decide (a1.Col<x3))) == true) (AS .i64 (a1.Col+a1.W))) fun (x4:Int)=>
 some ((((decide (a1.Row<x1)) && (decide (b1.Row<x2))) && (decide (a1.Col<x3))) && (decide (b1.Col<x4)))
noncomputable def Lr (w1:Ag) (q1:Ag):Option (Bool):=
 AB (JC q1 w1) fun (r1:Bool)=>
 some r1
noncomputable def Iw (w1:Ag) (s1:List Ag) (x2:Int):Option (Int ⊕ (Aj Unit Int)):=
 if (decide (x2<(s1.length:Int))) then (
 AB (AM s1 x2) fun (x4:Ag)=>
 AB (Lr w1 x4) fun (r1:Bool)=>
 if r1 then (
 some (.inr (.ext x2))
 ) else (
 AB (AS .i64 (x2+1)) fun (x5:Int)=>
 some (.inl x5)
 )
 ) else (
 some (.inr (.nrm ()))
 )
noncomputable def MI (w1:Ag) (s1:List Ag):Option (Int):=
 Ap (iter (fun (a:Int)=>Iw w1 s1 a) 0) fun (u2:Unit)=>
 some (-1)
noncomputable def Hu (w1:Ag) (s1:List Ag):Option (Bool):=
 AB (MI w1 s1) fun (r1:Int)=>
 some (decide (0≤r1))
noncomputable def Jn (g1:Au) (x2:Int):Option (Int ⊕ (Aj Unit Int)):=
 if (decide (x2<(g1.Merges.length:Int))) then (
 AB (AM g1.Merges x2) fun (x4:Ag)=>
 AB (Kg x4 g1.Rows g1.Cols) fun (r1:Bool)=>
 if (!r1) then (
 some (.inr (.ext 2))
 ) else (
 if ((decide (x4.H=1)) && (decide (x4.W=1))) then (
 some (.inr (.ext 4))
 ) else (
 AB (gd ((decide (0<x2)) == true) (AS .i64 (x2-1))) fun (x5:Int)=>
 AB (gd ((decide (0<x2)) == true) (AM g1.Merges x5)) fun (x6:Ag)=>
 AB (gd ((decide (0<x2)) == true) (Jg x6 x4)) fun (r2:Bool)=>
 if ((decide (0<x2)) && (!r2)) then (
 some (.inr (.ext 5))
 ) else (
 AB (DH g1.Merges 0 x2) fun (l1:List Ag)=>
 AB (Hu x4 l1) fun (r3:Bool)=>
 if r3 then (
 some (.inr (.ext 21))
 ) else (
 AB (AS .i64 (x2+1)) fun (x7:Int)=>
 some (.inl x7)
 )
 )
 )
 )
 ) else (
 some (.inr (.nrm ()))
 )
noncomputable def Iu (g1:Au):Option (Int):=
 if ((((decide (g1.Rows<0)) || (decide (2147483647<g1.Rows))) || (decide (g1.Cols<0))) || (decide (2147483647<g1.Cols))) then (
 some 2
 ) else (
 AB (Jm g1.Cells g1.Rows g1.Cols false) fun (e1:Int)=>
 if (!decide (e1=0)) then (
 some e1
 ) else (
 Ap (iter (fun (a:Int)=>Jn g1 a) 0) fun (u2:Unit)=>
 some 0
 )
 )
noncomputable def KZ (kind1:Int) (l1:List Ae) (x2:Int):Option (Int ⊕ (Aj Unit Int)):=
 if (decide (x2<(l1.length:Int))) then (
 AB (AM l1 x2) fun (x4:Ae)=>
 if (((decide (kind1=2)) && ((!decide (x4.Text=[])) || (decide (0<(x4.Attrs.length:Int))))) || ((decide (kind1=6)) && (!decide (x4.Ref=0)))) then (
 some (.inr (.ext 4))
 ) else (
 AB (AS .i64 (x2+1)) fun (x5:Int)=>
 some (.inl x5)
 )
 ) else (
 some (.inr (.nrm ()))
 )
noncomputable def J8 (kind1:Int) (l1:List Ae):Option (Int):=
 Ap (iter (fun (a:Int)=>KZ kind1 l1 a) 0) fun (u2:Unit)=>
 some 0
noncomputable def Mg (s1:List UInt8) (x3:Int):Option (Int ⊕ (Aj Unit Bool)):=
 if (decide (x3<(s1.length:Int))) then (
 AB (AM s1 x3) fun (ch2:UInt8)=>
 if ((decide ((ch2.toNat:Int)<97)) || (decide (122<(ch2.toNat:Int)))) then (
 some (.inr (.ext false))
 ) else (
 AB (AS .i64 (x3+1)) fun (x5:Int)=>
 some (.inl x5)
 )
 ) else (
 some (.inr (.nrm ()))
 )
noncomputable def Jl (s1:List UInt8):Option (Bool):=
 AB (gd (((decide (s1=[])) || (decide (200<(s1.length:Int)))) == false) (AS .i64 ((s1.length:Int)-1))) fun (x1:Int)=>
 AB (gd (((decide (s1=[])) || (decide (200<(s1.length:Int)))) == false) (AM s1 x1)) fun (ch1:UInt8)=>
 if (((decide (s1=[])) || (decide (200<(s1.length:Int)))) || (decide ((ch1.toNat:Int)=97))) then (
 some false
 ) else (
 Ap (iter (fun (a:Int)=>Mg s1 a) 0) fun (u2:Unit)=>
 some true
 )
noncomputable def Je (o1:Aq):Option (Int):=
 if ((!decide (o1.Kind=0)) && (!decide (o1.Kind=1))) then (
 some 8
 ) else (
 if ((((((decide (o1.Clock<1)) || (decide (1073741824<o1.Clock))) || (decide (o1.Site<0))) || (decide (1000<o1.Site))) || (decide (o1.Item<1))) || (decide (1073741824<o1.Item))) then (
 some 2
 ) else (
 AB (
 if ((decide (o1.Kind=0)) && ((!decide (o1.Name=[])) || (!decide (o1.Value=[])))) then (
 some ((decide (o1.Kind=0)) && ((!decide (o1.Name=[])) || (!decide (o1.Value=[]))))
 ) else (
 some ((decide (o1.Kind=1)) && ((!decide (o1.Parent=0)) || (!decide (o1.Place=[]))))
 )
 ) fun (x1:Bool)=>
 if x1 then (
 some 4
 ) else (
 if ((decide (o1.Kind=0)) && ((decide (o1.Parent<(-1))) || (decide (1073741824<o1.Parent)))) then (
 some 2
 ) else (
 AB (gd ((decide (o1.Kind=0)) == true) (Jl o1.Place)) fun (r1:Bool)=>
 AB (
 if ((decide (o1.Kind=0)) && (!r1)) then (
 some ((decide (o1.Kind=0)) && (!r1))
 ) else (
 AB (gd ((decide (o1.Kind=1)) == true) (HD o1.Name)) fun (r3:Bool)=>
 some ((decide (o1.Kind=1)) && (!r3))
 )
 ) fun (x2:Bool)=>
 if x2 then (
 some 9
 ) else (
 AB (gd (((decide (o1.Kind=1)) && (!decide (o1.Value=[]))) == true) (Ii o1.Value)) fun (r2:Bool)=>
 if (((decide (o1.Kind=1)) && (!decide (o1.Value=[]))) && (!r2)) then (
 some 23
 ) else (
 some 0
 )
 )
 )
 )
 )
 )
noncomputable def Kn (a1:Aq) (b1:Aq):Option (Int):=
 AB (Fi a1.Clock b1.Clock) fun (r1:Int)=>
 AB (Fi a1.Site b1.Site) fun (r2:Int)=>
 AB (IJ [r1,r2]) fun (r3:Int)=>
 some r3
noncomputable def JO (l1:List Aq) (x2:Int):Option (Int ⊕ (Aj Unit Int)):=
 if (decide (x2<(l1.length:Int))) then (
 AB (AM l1 x2) fun (x4:Aq)=>
 AB (Je x4) fun (e1:Int)=>
 if (!decide (e1=0)) then (
 some (.inr (.ext e1))
 ) else (
 AB (gd ((decide (0<x2)) == true) (AS .i64 (x2-1))) fun (x5:Int)=>
 AB (gd ((decide (0<x2)) == true) (AM l1 x5)) fun (x6:Aq)=>
 AB (gd ((decide (0<x2)) == true) (Kn x6 x4)) fun (r1:Int)=>
 if ((decide (0<x2)) && (decide (0≤r1))) then (
 some (.inr (.ext 5))
 ) else (
 AB (AS .i64 (x2+1)) fun (x7:Int)=>
 some (.inl x7)
 )
 )
 ) else (
 some (.inr (.nrm ()))
 )
noncomputable def Jz (l1:List Aq):Option (Int):=
 Ap (iter (fun (a:Int)=>JO l1 a) 0) fun (u2:Unit)=>
 some 0
noncomputable def Dk (n1:AE):Option (Int):=
 if ((decide (n1.ID<1)) || (decide (1073741824<n1.ID))) then (
 some 2
 ) else (
 if (((decide (n1.Kind<0)) || (decide (13≤n1.Kind))) || (!((decide (n1.ID=1)) == (decide (n1.Kind=0))))) then (
 some 8
 ) else (
 AB (Fl n1.Attrs) fun (e1:Int)=>
 if (!decide (e1=0)) then (
 some e1
 ) else (
 AB (HH n1.Kind) fun (r1:Bool)=>
 AB (gd (r1 == false) (Gc n1.Kind)) fun (r2:Bool)=>
 AB (Gf n1.Kind) fun (grids1:Bool)=>
 AB (
 if (((!(r1 || r2)) && (decide (0<(n1.Flow.length:Int)))) == false) then (
 if ((!grids1) == true) then (
 AB (GU n1.Grid (Au.mk 0 0 [] [])) fun (r7:Bool)=>
 AB (gd ((((!(r1 || r2)) && (decide (0<(n1.Flow.length:Int)))) || ((!grids1) && (!r7))) == false) (FN n1.Kind)) fun (r8:Bool)=>
 some ((((!(r1 || r2)) && (decide (0<(n1.Flow.length:Int)))) || ((!grids1) && (!r7))) || ((!r8) && (decide (0<(n1.Draw.length:Int)))))
 ) else (
 AB (gd ((((!(r1 || r2)) && (decide (0<(n1.Flow.length:Int)))) || ((!grids1) && false)) == false) (FN n1.Kind)) fun (r9:Bool)=>
 some ((((!(r1 || r2)) && (decide (0<(n1.Flow.length:Int)))) || ((!grids1) && false)) || ((!r9) && (decide (0<(n1.Draw.length:Int)))))
 )
 ) else (
 AB (gd ((((!(r1 || r2)) && (decide (0<(n1.Flow.length:Int)))) || false) == false) (FN n1.Kind)) fun (r10:Bool)=>
 some ((((!(r1 || r2)) && (decide (0<(n1.Flow.length:Int)))) || false) || ((!r10) && (decide (0<(n1.Draw.length:Int)))))
 )
 ) fun (x1:Bool)=>
 if x1 then (
 some 4
 ) else (
 if (r1 || r2) then (
 AB (EH n1.Flow r1) fun (r4:Int)=>
 some r4
 ) else (
 if grids1 then (
 AB (Iu n1.Grid) fun (e2:Int)=>
 if (!decide (e2=0)) then (
 some e2
 ) else (
 AB (J8 n1.Kind n1.Grid.Cells) fun (r5:Int)=>
 some r5
 )
 ) else (
 AB (Jz n1.Draw) fun (r6:Int)=>
 some r6
 )
 )
 )
 )
 )
 )
noncomputable def C1 (f1:List AO) (x2:Int) (out2:List Int):Option ((Int × (List Int)) ⊕ (List Int)):=
 if (decide (x2<(f1.length:Int))) then (
 AB (
 AB (AM f1 x2) fun (x5:AO)=>
 if (!decide (x5.Ref=0)) then (
 AB (BS 8 out2 [x5.Ref]) fun (out6:List Int)=>
 some out6
 ) else (
 some out2
 )
 ) fun (out5:List Int)=>
 AB (AS .i64 (x2+1)) fun (x4:Int)=>
 some (.inl (x4,out5))
 ) else (
 some (.inr out2)
 )
noncomputable def IY (f1:List AO):Option ((List Int)):=
 AB (iter (fun (a:Int × (List Int))=>C1 f1 a.1 a.2) (0,[])) fun (out4:List Int)=>
 some out4
noncomputable def Dr (n1:AE) (x2:Int) (out2:List Int):Option ((Int × (List Int)) ⊕ (List Int)):=
 if (decide (x2<(n1.Grid.Cells.length:Int))) then (
 AB (
 AB (AM n1.Grid.Cells x2) fun (x5:Ae)=>
 if (!decide (x5.Ref=0)) then (
 AB (BS 8 out2 [x5.Ref]) fun (out6:List Int)=>
 some out6
 ) else (
 some out2
 )
 ) fun (out5:List Int)=>
 AB (AS .i64 (x2+1)) fun (x4:Int)=>
 some (.inl (x4,out5))
 ) else (
 some (.inr out2)
 )
noncomputable def FQ (n1:AE):Option ((List Int)):=
 AB (IY n1.Flow) fun (w1:List Int)=>
 AB (iter (fun (a:Int × (List Int))=>Dr n1 a.1 a.2) (0,w1)) fun (out4:List Int)=>
 some out4
noncomputable def Hn (n1:AE) (id1:Int):Option (Int):=
 if (decide (n1.ID<id1)) then (
 some (-1)
 ) else (
 if (decide (id1<n1.ID)) then (
 some 1
 ) else (
 some 0
 )
 )
noncomputable def DP (x1:List AE) (target1:Int) (i4:Int) (j2:Int):Option ((Int × Int) ⊕ Int):=
 if (decide (i4<j2)) then (
 AB (AS .i64 (i4+j2)) fun (x3:Int)=>
 AB (AM x1 (IntKind.i64.wrap (Dv .u64 (IntKind.u64.wrap x3) 1))) fun (x4:AE)=>
 AB (Hn x4 target1) fun (r2:Int)=>
 if (decide (r2<0)) then (
 AB (AS .i64 ((IntKind.i64.wrap (Dv .u64 (IntKind.u64.wrap x3) 1))+1)) fun (i10:Int)=>
 some (.inl (i10,j2))
 ) else (
 some (.inl (i4,(IntKind.i64.wrap (Dv .u64 (IntKind.u64.wrap x3) 1))))
 )
 ) else (
 some (.inr i4)
 )
noncomputable def JB (x1:List AE) (target1:Int):Option (Int × Bool):=
 AB (iter (fun (a:Int × Int)=>DP x1 target1 a.1 a.2) (0,(x1.length:Int))) fun (i8:Int)=>
 AB (gd ((decide (i8<(x1.length:Int))) == true) (AM x1 i8)) fun (x2:AE)=>
 AB (gd ((decide (i8<(x1.length:Int))) == true) (Hn x2 target1)) fun (r1:Int)=>
 some (i8,((decide (i8<(x1.length:Int))) && (decide (r1=0))))
noncomputable def Gl (d1:AP) (id1:Int):Option (Int × Bool):=
 CZ (JB d1.Nodes id1) fun (r1:Int) (r2:Bool)=>
 some (r1,r2)
noncomputable def Eb (s1:List Int) (v1:Int) (x2:Int):Option (Int ⊕ (Aj Unit Int)):=
 if (decide (x2<(s1.length:Int))) then (
 AB (AM s1 x2) fun (x4:Int)=>
 if (decide (v1=x4)) then (
 some (.inr (.ext x2))
 ) else (
 AB (AS .i64 (x2+1)) fun (x5:Int)=>
 some (.inl x5)
 )
 ) else (
 some (.inr (.nrm ()))
 )
noncomputable def IO (s1:List Int) (v1:Int):Option (Int):=
 Ap (iter (fun (a:Int)=>Eb s1 v1 a) 0) fun (u2:Unit)=>
 some (-1)
noncomputable def E1 (s1:List Int) (v1:Int):Option (Bool):=
 AB (IO s1 v1) fun (r1:Int)=>
 some (decide (0≤r1))
noncomputable def GY (parent1:Int) (kid1:Int):Option (Bool):=
 AB (
 if (decide (parent1=0)) then (
 some [1,6,7,10,11,12]
 ) else (
 if (decide (parent1=1)) then (
 some [2,4,5,10]
 ) else (
 if (decide (parent1=3)) then (
 some [4,5,10]
 ) else (
 AB (
 if (decide (parent1=4)) then (
 some (decide (parent1=4))
 ) else (
 some (decide (parent1=12))
 )
 ) fun (x1:Bool)=>
 if x1 then (
 some [5]
 ) else (
 if (decide (parent1=2)) then (
 some [3]
 ) else (
 if (decide (parent1=7)) then (
 some [8,9]
 ) else (
 some []
 )
 )
 )
 )
 )
 )
 ) fun (l1:List Int)=>
 AB (E1 l1 kid1) fun (r1:Bool)=>
 some r1
noncomputable def DF (d1:AP) (kind1:Int) (EN:List Int) (x2:Int):Option (Int ⊕ (Aj Unit Int)):=
 if (decide (x2<(EN.length:Int))) then (
 AB (AM EN x2) fun (x4:Int)=>
 CZ (Gl d1 x4) fun (r1:Int) (r2:Bool)=>
 if (!r2) then (
 some (.inr (.ext 7))
 ) else (
 AB (AM d1.Nodes r1) fun (x5:AE)=>
 AB (GY kind1 x5.Kind) fun (r3:Bool)=>
 if (!r3) then (
 some (.inr (.ext 8))
 ) else (
 AB (AS .i64 (x2+1)) fun (x6:Int)=>
 some (.inl x6)
 )
 )
 ) else (
 some (.inr (.nrm ()))
 )
noncomputable def FU (d1:AP) (kind1:Int) (EN:List Int):Option (Int):=
 Ap (iter (fun (a:Int)=>DF d1 kind1 EN a) 0) fun (u2:Unit)=>
 some 0
noncomputable def DD (d1:AP) (x5:Int):Option (Int ⊕ (Aj Unit Int)):=
 if (decide (x5<(d1.Nodes.length:Int))) then (
 AB (AM d1.Nodes x5) fun (x7:AE)=>
 AB (FQ x7) fun (r1:List Int)=>
 AB (FU d1 x7.Kind r1) fun (e1:Int)=>
 if (!decide (e1=0)) then (
 some (.inr (.ext e1))
 ) else (
 AB (AS .i64 (x5+1)) fun (x8:Int)=>
 some (.inl x8)
 )
 ) else (
 some (.inr (.nrm ()))
 )
noncomputable def CT (d1:AP) (x2:Int):Option (Int ⊕ (Aj Unit Int)):=
 if (decide (x2<(d1.Nodes.length:Int))) then (
 AB (AM d1.Nodes x2) fun (x9:AE)=>
 AB (Dk x9) fun (e2:Int)=>
 if (!decide (e2=0)) then (
 some (.inr (.ext e2))
 ) else (
 AB (gd ((((decide (x2=0)) && (!decide (x9.ID=1))) == false) && ((decide (0<x2)) == true)) (AS .i64 (x2-1))) fun (x10:Int)=>
 AB (gd ((((decide (x2=0)) && (!decide (x9.ID=1))) == false) && ((decide (0<x2)) == true)) (AM d1.Nodes x10)) fun (x11:AE)=>
 if (((decide (x2=0)) && (!decide (x9.ID=1))) || ((decide (0<x2)) && (decide (x9.ID≤x11.ID)))) then (
 some (.inr (.ext 5))
 ) else (
 AB (AS .i64 (x2+1)) fun (x12:Int)=>
 some (.inl x12)
 )
 )
 ) else (
 some (.inr (.nrm ()))
 )
noncomputable def Dl (d1:AP):Option (Int):=
 if (decide ((d1.Nodes.length:Int)=0)) then (
 some 11
 ) else (
 Ap (iter (fun (a:Int)=>CT d1 a) 0) fun (u2:Unit)=>
 Ap (iter (fun (a:Int)=>DD d1 a) 0) fun (u4:Unit)=>
 some 0
 )
noncomputable def MD (f1:List AO):Option (AP):=
 some (AP.mk [(AE.mk 1 0 [] [(AO.mk 0 2 [])] (Au.mk 0 0 [] []) []),(AE.mk 2 1 [] f1 (Au.mk 0 0 [] []) [])])
noncomputable def Jx (a1:Ae) (b1:Ae):Option (Bool):=
 AB (gd (((((decide (a1.Row=b1.Row)) && (decide (a1.Col=b1.Col))) && (decide (a1.Text=b1.Text))) && (decide (a1.Ref=b1.Ref))) == true) (Gw a1.Attrs b1.Attrs)) fun (r1:Bool)=>
 some (((((decide (a1.Row=b1.Row)) && (decide (a1.Col=b1.Col))) && (decide (a1.Text=b1.Text))) && (decide (a1.Ref=b1.Ref))) && r1)
noncomputable def KI (a1:List Ae) (b1:List Ae) (x2:Int):Option (Int ⊕ (Aj Unit Bool)):=
 if (decide (x2<(a1.length:Int))) then (
 AB (AM a1 x2) fun (x4:Ae)=>
 AB (AM b1 x2) fun (x5:Ae)=>
 AB (Jx x4 x5) fun (r1:Bool)=>
 if (!r1) then (
 some (.inr (.ext false))
 ) else (
 AB (AS .i64 (x2+1)) fun (x6:Int)=>
 some (.inl x6)
 )
 ) else (
 some (.inr (.nrm ()))
 )
noncomputable def Iv (a1:List Ae) (b1:List Ae):Option (Bool):=
 if (!decide ((a1.length:Int)=(b1.length:Int))) then (
 some false
 ) else (
 Ap (iter (fun (a:Int)=>KI a1 b1 a) 0) fun (u2:Unit)=>
 some true
 )
noncomputable def Ki (a1:List Ag) (b1:List Ag) (x2:Int):Option (Int ⊕ (Aj Unit Bool)):=
 if (decide (x2<(a1.length:Int))) then (
 AB (AM a1 x2) fun (x4:Ag)=>
 AB (AM b1 x2) fun (x5:Ag)=>
 if (!(decide (x4.Row=x5.Row) && (decide (x4.Col=x5.Col) && (decide (x4.H=x5.H) && (decide (x4.W=x5.W) && true))))) then (
 some (.inr (.ext false))
 ) else (
 AB (AS .i64 (x2+1)) fun (x6:Int)=>
 some (.inl x6)
 )
 ) else (
 some (.inr (.nrm ()))
 )
noncomputable def Ke (a1:List Ag) (b1:List Ag):Option (Bool):=
 if (!decide ((a1.length:Int)=(b1.length:Int))) then (
 some false
 ) else (
 Ap (iter (fun (a:Int)=>Ki a1 b1 a) 0) fun (u2:Unit)=>
 some true
 )
noncomputable def It (a1:Au) (b1:Au):Option (Bool):=
 AB (gd (((decide (a1.Rows=b1.Rows)) && (decide (a1.Cols=b1.Cols))) == true) (Iv a1.Cells b1.Cells)) fun (r1:Bool)=>
 AB (gd ((((decide (a1.Rows=b1.Rows)) && (decide (a1.Cols=b1.Cols))) && r1) == true) (Ke a1.Merges b1.Merges)) fun (r2:Bool)=>
 some ((((decide (a1.Rows=b1.Rows)) && (decide (a1.Cols=b1.Cols))) && r1) && r2)
noncomputable def Jf (a1:List Aq) (b1:List Aq) (x2:Int):Option (Int ⊕ (Aj Unit Bool)):=
 if (decide (x2<(a1.length:Int))) then (
 AB (AM a1 x2) fun (x4:Aq)=>
 AB (AM b1 x2) fun (x5:Aq)=>
 if (!(decide (x4.Clock=x5.Clock) && (decide (x4.Site=x5.Site) && (decide (x4.Kind=x5.Kind) && (decide (x4.Item=x5.Item) && (decide (x4.Parent=x5.Parent) && (decide (x4.Place=x5.Place) && (decide (x4.Name=x5.Name) && (decide (x4.Value=x5.Value) && true))))))))) then (
 some (.inr (.ext false))
 ) else (
 AB (AS .i64 (x2+1)) fun (x6:Int)=>
 some (.inl x6)
 )
 ) else (
 some (.inr (.nrm ()))
 )
noncomputable def Jd (a1:List Aq) (b1:List Aq):Option (Bool):=
 if (!decide ((a1.length:Int)=(b1.length:Int))) then (
 some false
 ) else (
 Ap (iter (fun (a:Int)=>Jf a1 b1 a) 0) fun (u2:Unit)=>
 some true
 )
noncomputable def HU (a1:AE) (b1:AE):Option (Bool):=
 AB (gd (((decide (a1.ID=b1.ID)) && (decide (a1.Kind=b1.Kind))) == true) (Gw a1.Attrs b1.Attrs)) fun (r1:Bool)=>
 AB (gd ((((decide (a1.ID=b1.ID)) && (decide (a1.Kind=b1.Kind))) && r1) == true) (KY a1.Flow b1.Flow)) fun (r2:Bool)=>
 AB (gd (((((decide (a1.ID=b1.ID)) && (decide (a1.Kind=b1.Kind))) && r1) && r2) == true) (It a1.Grid b1.Grid)) fun (r3:Bool)=>
 AB (gd ((((((decide (a1.ID=b1.ID)) && (decide (a1.Kind=b1.Kind))) && r1) && r2) && r3) == true) (Jd a1.Draw b1.Draw)) fun (r4:Bool)=>
 some ((((((decide (a1.ID=b1.ID)) && (decide (a1.Kind=b1.Kind))) && r1) && r2) && r3) && r4)
noncomputable def Jo (a1:AP) (b1:AP) (x2:Int):Option (Int ⊕ (Aj Unit Bool)):=
 if (decide (x2<(a1.Nodes.length:Int))) then (
 AB (AM a1.Nodes x2) fun (x4:AE)=>
 AB (AM b1.Nodes x2) fun (x5:AE)=>
 AB (HU x4 x5) fun (r1:Bool)=>
 if (!r1) then (
 some (.inr (.ext false))
 ) else (
 AB (AS .i64 (x2+1)) fun (x6:Int)=>
 some (.inl x6)
 )
 ) else (
 some (.inr (.nrm ()))
 )
noncomputable def FP (a1:AP) (b1:AP):Option (Bool):=
 if (!decide ((a1.Nodes.length:Int)=(b1.Nodes.length:Int))) then (
 some false
 ) else (
 Ap (iter (fun (a:Int)=>Jo a1 b1 a) 0) fun (u2:Unit)=>
 some true
 )
noncomputable def JT:Option (Bool):=
 AB (IF) fun (r1:AP)=>
 AB (Dl r1) fun (r2:Int)=>
 AB (
 if ((decide (r2=0)) == true) then (
 AB (Mc) fun (r4:AO)=>
 AB (MD [r4]) fun (r5:AP)=>
 AB (FP r1 r5) fun (r6:Bool)=>
 some ((decide (r2=0)) && r6)
 ) else (
 some ((decide (r2=0)) && false)
 )
 ) fun (x1:Bool)=>
 some x1
noncomputable def Ja (s11:List Aq) (s21:List Aq) (x2:Int):Option (Int ⊕ (Aj Unit Bool)):=
 if (decide (x2<(s11.length:Int))) then (
 AB (AM s11 x2) fun (x4:Aq)=>
 AB (AM s21 x2) fun (x5:Aq)=>
 if (!(decide (x4.Clock=x5.Clock) && (decide (x4.Site=x5.Site) && (decide (x4.Kind=x5.Kind) && (decide (x4.Item=x5.Item) && (decide (x4.Parent=x5.Parent) && (decide (x4.Place=x5.Place) && (decide (x4.Name=x5.Name) && (decide (x4.Value=x5.Value) && true))))))))) then (
 some (.inr (.ext false))
 ) else (
 AB (AS .i64 (x2+1)) fun (x6:Int)=>
 some (.inl x6)
 )
 ) else (
 some (.inr (.nrm ()))
 )
noncomputable def JE (s11:List Aq) (s21:List Aq):Option (Bool):=
 if (!decide ((s11.length:Int)=(s21.length:Int))) then (
 some false
 ) else (
 Ap (iter (fun (a:Int)=>Ja s11 s21 a) 0) fun (u2:Unit)=>
 some true
 )
noncomputable def If (a1:AE) (b1:AE):Option (Bool):=
 AB (gd (((decide (a1.ID=b1.ID)) && (decide (a1.Kind=b1.Kind))) == true) (G9 a1.Attrs b1.Attrs)) fun (r1:Bool)=>
 AB (gd ((((decide (a1.ID=b1.ID)) && (decide (a1.Kind=b1.Kind))) && r1) == true) (I7 a1.Flow b1.Flow)) fun (r2:Bool)=>
 AB (gd (((((decide (a1.ID=b1.ID)) && (decide (a1.Kind=b1.Kind))) && r1) && r2) == true) (GU a1.Grid b1.Grid)) fun (r3:Bool)=>
 AB (gd ((((((decide (a1.ID=b1.ID)) && (decide (a1.Kind=b1.Kind))) && r1) && r2) && r3) == true) (JE a1.Draw b1.Draw)) fun (r4:Bool)=>
 some ((((((decide (a1.ID=b1.ID)) && (decide (a1.Kind=b1.Kind))) && r1) && r2) && r3) && r4)
noncomputable def Nc (s11:List AE) (s21:List AE) (x2:Int):Option (Int ⊕ (Aj Unit Bool)):=
 if (decide (x2<(s11.length:Int))) then (
 AB (AM s11 x2) fun (x4:AE)=>
 AB (AM s21 x2) fun (x5:AE)=>
 AB (If x4 x5) fun (r1:Bool)=>
 if (!r1) then (
 some (.inr (.ext false))
 ) else (
 AB (AS .i64 (x2+1)) fun (x6:Int)=>
 some (.inl x6)
 )
 ) else (
 some (.inr (.nrm ()))
 )
noncomputable def Oz (s11:List AE) (s21:List AE):Option (Bool):=
 if (!decide ((s11.length:Int)=(s21.length:Int))) then (
 some false
 ) else (
 Ap (iter (fun (a:Int)=>Nc s11 s21 a) 0) fun (u2:Unit)=>
 some true
 )
noncomputable def Oc (a1:AP) (b1:AP):Option (Bool):=
 AB (Oz a1.Nodes b1.Nodes) fun (r1:Bool)=>
 some r1
noncomputable def Gr (l4:List Ae) (x2:Int) (g2:Au):Option ((Int × Au) ⊕ Au):=
 if (decide (x2<(l4.length:Int))) then (
 AB (AM g2.Cells x2) fun (x4:Ae)=>
 AB (BS 32 [] x4.Attrs) fun (l5:List Ab)=>
 AB (AS .i64 (x2+1)) fun (x5:Int)=>
 some (.inl (x5,(Au.mk g2.Rows g2.Cols (g2.Cells.set x2.toNat (Ae.mk x4.Row x4.Col x4.Text x4.Ref l5)) g2.Merges)))
 ) else (
 some (.inr g2)
 )
noncomputable def HB (n1:AE):Option (AE):=
 AB (BS 32 [] n1.Attrs) fun (l1:List Ab)=>
 AB (JQ n1.Flow) fun (r1:List AO)=>
 AB (BS 88 [] n1.Draw) fun (l2:List Aq)=>
 AB (BS 32 [] n1.Grid.Merges) fun (l3:List Ag)=>
 AB (BS 64 [] n1.Grid.Cells) fun (l4:List Ae)=>
 AB (iter (fun (a:Int × Au)=>Gr l4 a.1 a.2) (0,(Au.mk n1.Grid.Rows n1.Grid.Cols l4 l3))) fun (g4:Au)=>
 some (AE.mk n1.ID n1.Kind l1 r1 g4 l2)
noncomputable def Kp (d1:AP) (id1:Int) (x2:Int):Option (Int ⊕ (Aj Unit Int)):=
 if (decide (x2<(d1.Nodes.length:Int))) then (
 AB (AM d1.Nodes x2) fun (x4:AE)=>
 if (decide (x4.ID=id1)) then (
 some (.inr (.ext x2))
 ) else (
 AB (AS .i64 (x2+1)) fun (x5:Int)=>
 some (.inl x5)
 )
 ) else (
 some (.inr (.nrm ()))
 )
noncomputable def Hg (d1:AP) (id1:Int):Option (Int):=
 Ap (iter (fun (a:Int)=>Kp d1 id1 a) 0) fun (u2:Unit)=>
 some (-1)
noncomputable def H3 (kind1:Int):Option (Bool):=
 some ((((decide (kind1=1)) || (decide (kind1=3))) || (decide (kind1=4))) || (decide (kind1=12)))
noncomputable def Kh (parent1:Int) (kid1:Int):Option (Bool):=
 AB (
 if (decide (kid1=1)) then (
 some (decide (kid1=1))
 ) else (
 if (decide (kid1=6)) then (
 some (decide (kid1=6))
 ) else (
 if (decide (kid1=7)) then (
 some (decide (kid1=7))
 ) else (
 if (decide (kid1=11)) then (
 some (decide (kid1=11))
 ) else (
 some (decide (kid1=12))
 )
 )
 )
 )
 ) fun (x1:Bool)=>
 if x1 then (
 some (decide (parent1=0))
 ) else (
 if (decide (kid1=10)) then (
 some (((decide (parent1=0)) || (decide (parent1=1))) || (decide (parent1=3)))
 ) else (
 if (decide (kid1=2)) then (
 some (decide (parent1=1))
 ) else (
 if (decide (kid1=4)) then (
 some ((decide (parent1=1)) || (decide (parent1=3)))
 ) else (
 if (decide (kid1=5)) then (
 AB (H3 parent1) fun (r1:Bool)=>
 some r1
 ) else (
 if (decide (kid1=3)) then (
 some (decide (parent1=2))
 ) else (
 AB (
 if (decide (kid1=8)) then (
 some (decide (kid1=8))
 ) else (
 some (decide (kid1=9))
 )
 ) fun (x2:Bool)=>
 if x2 then (
 some (decide (parent1=7))
 ) else (
 some false
 )
 )
 )
 )
 )
 )
 )
noncomputable def LX (kind1:Int):Option (Bool):=
 some ((decide (kind1=0)) || (decide (kind1=7)))
noncomputable def Kt (g1:Au):Option (Bool):=
 some ((((decide (g1.Rows=0)) && (decide (g1.Cols=0))) && (decide ((g1.Cells.length:Int)=0))) && (decide ((g1.Merges.length:Int)=0)))
noncomputable def Jh (kind1:Int):Option (Bool):=
 some ((decide (kind1=2)) || (decide (kind1=6)))
noncomputable def L5 (kind1:Int):Option (Bool):=
 some (((decide (kind1=8)) || (decide (kind1=9))) || (decide (kind1=10)))
noncomputable def L6 (s1:List UInt8):Option (Bool):=
 MK s1
noncomputable def EC (s1:List UInt8) (p2:(Nat)):Option ((Nat) ⊕ (Aj Unit Bool)):=
 if (decide (p2<s1.length)) then (
 AB (gd ((decide (((D4 s1 p2).1:Int)=10)) == false) (Hh (IntKind.i64.wrap ((D4 s1 p2).1:Int)))) fun (r2:Bool)=>
 if ((decide (((D4 s1 p2).1:Int)=10)) || (!r2)) then (
 some (.inr (.ext false))
 ) else (
 some (.inl (p2+(D4 s1 p2).2))
 )
 ) else (
 some (.inr (.nrm ()))
 )
noncomputable def KR (s1:List UInt8):Option (Bool):=
 AB (L6 s1) fun (r1:Bool)=>
 if (!r1) then (
 some false
 ) else (
 Ap (iter (fun (a:(Nat))=>EC s1 a) 0) fun (u2:Unit)=>
 some true
 )
noncomputable def Jr (c1:Ae):Option (Bool):=
 some (((decide (c1.Text=[])) && (decide (c1.Ref=0))) && (decide ((c1.Attrs.length:Int)=0)))
noncomputable def KA (l1:List Ae) (rows1:Int) (cols1:Int) (none1:Bool) (x2:Int):Option (Int ⊕ (Aj Unit Int)):=
 if (decide (x2<(l1.length:Int))) then (
 AB (AM l1 x2) fun (x4:Ae)=>
 AB (AS .i64 (rows1-1)) fun (x5:Int)=>
 AB (Be x4.Row 0 x5) fun (r1:Bool)=>
 AB (gd ((!r1) == false) (AS .i64 (cols1-1))) fun (x6:Int)=>
 AB (gd ((!r1) == false) (Be x4.Col 0 x6)) fun (r2:Bool)=>
 AB (gd (((!r1) || (!r2)) == false) (Be x4.Ref 0 1073741824)) fun (r3:Bool)=>
 if (((!r1) || (!r2)) || (!r3)) then (
 some (.inr (.ext 2))
 ) else (
 AB (KR x4.Text) fun (r4:Bool)=>
 if (!r4) then (
 some (.inr (.ext 23))
 ) else (
 AB (GT x4.Attrs false) fun (e1:Int)=>
 if (!decide (e1=0)) then (
 some (.inr (.ext e1))
 ) else (
 AB (gd ((!none1) == true) (Jr x4)) fun (r5:Bool)=>
 if ((!none1) && r5) then (
 some (.inr (.ext 4))
 ) else (
 AB (gd ((decide (0<x2)) == true) (AS .i64 (x2-1))) fun (x7:Int)=>
 AB (gd ((decide (0<x2)) == true) (AM l1 x7)) fun (x8:Ae)=>
 AB (gd ((((decide (0<x2)) == true) && ((decide (x4.Row<x8.Row)) == false)) && ((decide (x4.Row=x8.Row)) == true)) (AS .i64 (x2-1))) fun (x9:Int)=>
 AB (gd ((((decide (0<x2)) == true) && ((decide (x4.Row<x8.Row)) == false)) && ((decide (x4.Row=x8.Row)) == true)) (AM l1 x9)) fun (x10:Ae)=>
 if ((decide (0<x2)) && ((decide (x4.Row<x8.Row)) || ((decide (x4.Row=x8.Row)) && (decide (x4.Col≤x10.Col))))) then (
 some (.inr (.ext 5))
 ) else (
 AB (AS .i64 (x2+1)) fun (x11:Int)=>
 some (.inl x11)
 )
 )
 )
 )
 )
 ) else (
 some (.inr (.nrm ()))
 )
noncomputable def JM (l1:List Ae) (rows1:Int) (cols1:Int) (none1:Bool):Option (Int):=
 Ap (iter (fun (a:Int)=>KA l1 rows1 cols1 none1 a) 0) fun (u2:Unit)=>
 some 0
noncomputable def Jj (r1:Ag) (rows1:Int) (cols1:Int):Option (Bool):=
 AB (AS .i64 (rows1-1)) fun (x1:Int)=>
 AB (Be r1.Row 0 x1) fun (r2:Bool)=>
 AB (gd (r2 == true) (AS .i64 (cols1-1))) fun (x2:Int)=>
 AB (gd (r2 == true) (Be r1.Col 0 x2)) fun (r3:Bool)=>
 AB (gd ((r2 && r3) == true) (AS .i64 (rows1-r1.Row))) fun (x3:Int)=>
 AB (gd ((r2 && r3) == true) (Be r1.H 1 x3)) fun (r4:Bool)=>
 AB (gd (((r2 && r3) && r4) == true) (AS .i64 (cols1-r1.Col))) fun (x4:Int)=>
 AB (gd (((r2 && r3) && r4) == true) (Be r1.W 1 x4)) fun (r5:Bool)=>
 some (((r2 && r3) && r4) && r5)
noncomputable def Jt (a1:Ag) (b1:Ag):Option (Bool):=
 AB (AS .i64 (a1.Row+a1.H)) fun (x1:Int)=>
 AB (AS .i64 (b1.Row+b1.H)) fun (x2:Int)=>
 AB (gd ((decide ((max a1.Row b1.Row)<(min x1 x2))) == true) (AS .i64 (a1.Col+a1.W))) fun (x3:Int)=>
 AB (gd ((decide ((max a1.Row b1.Row)<(min x1 x2))) == true) (AS .i64 (b1.Col+b1.W))) fun (x4:Int)=>
 some ((decide ((max a1.Row b1.Row)<(min x1 x2))) && (decide ((max a1.Col b1.Col)<(min x3 x4))))
noncomputable def JF (g1:Au) (x2:Int) (x4:Ag) (x10:Int):Option (Int ⊕ (Aj Unit (Int ⊕ (Aj Unit Int)))):=
 if (decide (x10<x2)) then (
 AB (AM g1.Merges x10) fun (x13:Ag)=>
 AB (Jt x4 x13) fun (r4:Bool)=>
 if r4 then (
 some (.inr (.ext (.inr (.ext 21))))
 ) else (
 AB (AS .i64 (x10+1)) fun (x14:Int)=>
 some (.inl x14)
 )
 ) else (
 some (.inr (.nrm ()))
 )
noncomputable def KK (g1:Au) (x2:Int):Option (Int ⊕ (Aj Unit Int)):=
 if (decide (x2<(g1.Merges.length:Int))) then (
 AB (AM g1.Merges x2) fun (x4:Ag)=>
 AB (Jj x4 g1.Rows g1.Cols) fun (r3:Bool)=>
 if (!r3) then (
 some (.inr (.ext 2))
 ) else (
 if ((decide (x4.H=1)) && (decide (x4.W=1))) then (
 some (.inr (.ext 4))
 ) else (
 AB (gd ((decide (0<x2)) == true) (AS .i64 (x2-1))) fun (x5:Int)=>
 AB (gd ((decide (0<x2)) == true) (AM g1.Merges x5)) fun (x6:Ag)=>
 AB (gd ((((decide (0<x2)) == true) && ((decide (x4.Row<x6.Row)) == false)) && ((decide (x4.Row=x6.Row)) == true)) (AS .i64 (x2-1))) fun (x7:Int)=>
 AB (gd ((((decide (0<x2)) == true) && ((decide (x4.Row<x6.Row)) == false)) && ((decide (x4.Row=x6.Row)) == true)) (AM g1.Merges x7)) fun (x8:Ag)=>
 if ((decide (0<x2)) && ((decide (x4.Row<x6.Row)) || ((decide (x4.Row=x6.Row)) && (decide (x4.Col≤x8.Col))))) then (
 some (.inr (.ext 5))
 ) else (
 Ap (iter (fun (a:Int)=>JF g1 x2 x4 a) 0) fun (u4:Unit)=>
 AB (AS .i64 (x2+1)) fun (x12:Int)=>
 some (.inl x12)
 )
 )
 )
 ) else (
 some (.inr (.nrm ()))
 )
noncomputable def Ix (g1:Au):Option (Int):=
 AB (Be g1.Rows 0 2147483647) fun (r1:Bool)=>
 AB (gd ((!r1) == false) (Be g1.Cols 0 2147483647)) fun (r2:Bool)=>
 if ((!r1) || (!r2)) then (
 some 2
 ) else (
 AB (JM g1.Cells g1.Rows g1.Cols false) fun (e1:Int)=>
 if (!decide (e1=0)) then (
 some e1
 ) else (
 Ap (iter (fun (a:Int)=>KK g1 a) 0) fun (u2:Unit)=>
 some 0
 )
 )
noncomputable def Ky (kind1:Int) (l1:List Ae) (x2:Int):Option (Int ⊕ (Aj Unit Int)):=
 if (decide (x2<(l1.length:Int))) then (
 AB (gd ((decide (kind1=2)) == true) (AM l1 x2)) fun (x4:Ae)=>
 AB (gd ((((decide (kind1=2)) && ((!decide (x4.Text=[])) || (decide (0<(x4.Attrs.length:Int))))) == false) && ((decide (kind1=6)) == true)) (AM l1 x2)) fun (x5:Ae)=>
 if (((decide (kind1=2)) && ((!decide (x4.Text=[])) || (decide (0<(x4.Attrs.length:Int))))) || ((decide (kind1=6)) && (!decide (x5.Ref=0)))) then (
 some (.inr (.ext 4))
 ) else (
 AB (AS .i64 (x2+1)) fun (x6:Int)=>
 some (.inl x6)
 )
 ) else (
 some (.inr (.nrm ()))
 )
noncomputable def I1 (kind1:Int) (l1:List Ae):Option (Int):=
 Ap (iter (fun (a:Int)=>Ky kind1 l1 a) 0) fun (u2:Unit)=>
 some 0
noncomputable def HG (s1:List UInt8) (x2:Int):Option (Int ⊕ (Aj Unit Bool)):=
 if (decide (x2<(s1.length:Int))) then (
 AB (AM s1 x2) fun (ch2:UInt8)=>
 if ((decide ((ch2.toNat:Int)<97)) || (decide (122<(ch2.toNat:Int)))) then (
 some (.inr (.ext false))
 ) else (
 AB (AS .i64 (x2+1)) fun (x5:Int)=>
 some (.inl x5)
 )
 ) else (
 some (.inr (.nrm ()))
 )
noncomputable def Jq (s1:List UInt8):Option (Bool):=
 Ap (iter (fun (a:Int)=>HG s1 a) 0) fun (u2:Unit)=>
 AB (gd (((decide (1≤(s1.length:Int))) && (decide ((s1.length:Int)≤200))) == true) (AS .i64 ((s1.length:Int)-1))) fun (x4:Int)=>
 AB (gd (((decide (1≤(s1.length:Int))) && (decide ((s1.length:Int)≤200))) == true) (AM s1 x4)) fun (ch1:UInt8)=>
 some (((decide (1≤(s1.length:Int))) && (decide ((s1.length:Int)≤200))) && (!decide ((ch1.toNat:Int)=97)))
noncomputable def HW (a1:Aq) (b1:Aq):Option (Bool):=
 some ((decide (a1.Clock<b1.Clock)) || ((decide (a1.Clock=b1.Clock)) && (decide (a1.Site<b1.Site))))
noncomputable def Jy (l1:List Aq) (x2:Int):Option (Int ⊕ (Aj Unit Int)):=
 if (decide (x2<(l1.length:Int))) then (
 AB (AM l1 x2) fun (x4:Aq)=>
 if ((!decide (x4.Kind=0)) && (!decide (x4.Kind=1))) then (
 some (.inr (.ext 8))
 ) else (
 AB (Be x4.Clock 1 1073741824) fun (r1:Bool)=>
 AB (gd ((!r1) == false) (Be x4.Site 0 1000)) fun (r2:Bool)=>
 AB (gd (((!r1) || (!r2)) == false) (Be x4.Item 1 1073741824)) fun (r3:Bool)=>
 if (((!r1) || (!r2)) || (!r3)) then (
 some (.inr (.ext 2))
 ) else (
 Ap (
 if (decide (x4.Kind=0)) then (
 if ((!decide (x4.Name=[])) || (!decide (x4.Value=[]))) then (
 some (.ext (.inr (.ext 4)))
 ) else (
 AB (Be x4.Parent (-1) 1073741824) fun (r5:Bool)=>
 if (!r5) then (
 some (.ext (.inr (.ext 2)))
 ) else (
 AB (Jq x4.Place) fun (r6:Bool)=>
 if (!r6) then (
 some (.ext (.inr (.ext 9)))
 ) else (
 some (.nrm ())
 )
 )
 )
 ) else (
 if ((!decide (x4.Parent=0)) || (!decide (x4.Place=[]))) then (
 some (.ext (.inr (.ext 4)))
 ) else (
 AB (Gj x4.Name) fun (r7:Bool)=>
 if (!r7) then (
 some (.ext (.inr (.ext 9)))
 ) else (
 AB (gd ((!decide (x4.Value=[])) == true) (H9 x4.Value)) fun (r8:Bool)=>
 if ((!decide (x4.Value=[])) && (!r8)) then (
 some (.ext (.inr (.ext 23)))
 ) else (
 some (.nrm ())
 )
 )
 )
 )
 ) fun (u3:Unit)=>
 AB (gd ((decide (0<x2)) == true) (AS .i64 (x2-1))) fun (x5:Int)=>
 AB (gd ((decide (0<x2)) == true) (AM l1 x5)) fun (x6:Aq)=>
 AB (gd ((decide (0<x2)) == true) (HW x6 x4)) fun (r4:Bool)=>
 if ((decide (0<x2)) && (!r4)) then (
 some (.inr (.ext 5))
 ) else (
 AB (AS .i64 (x2+1)) fun (x7:Int)=>
 some (.inl x7)
 )
 )
 )
 ) else (
 some (.inr (.nrm ()))
 )
noncomputable def KG (l1:List Aq):Option (Int):=
 Ap (iter (fun (a:Int)=>Jy l1 a) 0) fun (u2:Unit)=>
 some 0
noncomputable def Ju (n1:AE):Option (Int):=
 AB (Be n1.ID 1 1073741824) fun (r1:Bool)=>
 if (!r1) then (
 some 2
 ) else (
 AB (Be n1.Kind 0 12) fun (r2:Bool)=>
 if (((!r2) || ((decide (n1.ID=1)) && (!decide (n1.Kind=0)))) || ((!decide (n1.ID=1)) && (decide (n1.Kind=0)))) then (
 some 8
 ) else (
 AB (GT n1.Attrs false) fun (e1:Int)=>
 if (!decide (e1=0)) then (
 some e1
 ) else (
 AB (H3 n1.Kind) fun (r3:Bool)=>
 AB (gd (r3 == false) (LX n1.Kind)) fun (r4:Bool)=>
 AB (gd (((decide (0<(n1.Flow.length:Int))) && (!(r3 || r4))) == false) (Kt n1.Grid)) fun (r5:Bool)=>
 AB (gd ((((decide (0<(n1.Flow.length:Int))) && (!(r3 || r4))) == false) && ((!r5) == true)) (Jh n1.Kind)) fun (r6:Bool)=>
 AB (gd (((((decide (0<(n1.Flow.length:Int))) && (!(r3 || r4))) || ((!r5) && (!r6))) == false) && ((decide (0<(n1.Draw.length:Int))) == true)) (L5 n1.Kind)) fun (r7:Bool)=>
 if ((((decide (0<(n1.Flow.length:Int))) && (!(r3 || r4))) || ((!r5) && (!r6))) || ((decide (0<(n1.Draw.length:Int))) && (!r7))) then (
 some 4
 ) else (
 if (r3 || r4) then (
 AB (Fk n1.Flow r3) fun (r9:Int)=>
 some r9
 ) else (
 AB (Jh n1.Kind) fun (r10:Bool)=>
 if r10 then (
 AB (Ix n1.Grid) fun (e2:Int)=>
 if (!decide (e2=0)) then (
 some e2
 ) else (
 AB (I1 n1.Kind n1.Grid.Cells) fun (r11:Int)=>
 some r11
 )
 ) else (
 AB (KG n1.Draw) fun (r12:Int)=>
 some r12
 )
 )
 )
 )
 )
 )
noncomputable def MZ (n1:AE) (x5:Int) (out6:List Int):Option ((Int × (List Int)) ⊕ (List Int)):=
 if (decide (x5<(n1.Grid.Cells.length:Int))) then (
 AB (
 AB (AM n1.Grid.Cells x5) fun (x8:Ae)=>
 if (!decide (x8.Ref=0)) then (
 AB (BS 8 out6 [x8.Ref]) fun (out10:List Int)=>
 some out10
 ) else (
 some out6
 )
 ) fun (out9:List Int)=>
 AB (AS .i64 (x5+1)) fun (x7:Int)=>
 some (.inl (x7,out9))
 ) else (
 some (.inr out6)
 )
noncomputable def Lu (n1:AE) (x2:Int) (out2:List Int):Option ((Int × (List Int)) ⊕ (List Int)):=
 if (decide (x2<(n1.Flow.length:Int))) then (
 AB (
 AB (AM n1.Flow x2) fun (x10:AO)=>
 if (!decide (x10.Ref=0)) then (
 AB (BS 8 out2 [x10.Ref]) fun (out12:List Int)=>
 some out12
 ) else (
 some out2
 )
 ) fun (out11:List Int)=>
 AB (AS .i64 (x2+1)) fun (x9:Int)=>
 some (.inl (x9,out11))
 ) else (
 some (.inr out2)
 )
noncomputable def J9 (n1:AE):Option ((List Int)):=
 AB (iter (fun (a:Int × (List Int))=>Lu n1 a.1 a.2) (0,[])) fun (out4:List Int)=>
 AB (iter (fun (a:Int × (List Int))=>MZ n1 a.1 a.2) (0,out4)) fun (out8:List Int)=>
 some out8
noncomputable def He (d1:AP) (kind1:Int) (EN:List Int) (x2:Int):Option (Int ⊕ (Aj Unit Int)):=
 if (decide (x2<(EN.length:Int))) then (
 AB (AM EN x2) fun (x4:Int)=>
 AB (Hg d1 x4) fun (k1:Int)=>
 if (decide (k1<0)) then (
 some (.inr (.ext 7))
 ) else (
 AB (AM d1.Nodes k1) fun (x5:AE)=>
 AB (Kh kind1 x5.Kind) fun (r1:Bool)=>
 if (!r1) then (
 some (.inr (.ext 8))
 ) else (
 AB (AS .i64 (x2+1)) fun (x6:Int)=>
 some (.inl x6)
 )
 )
 ) else (
 some (.inr (.nrm ()))
 )
noncomputable def Ku (d1:AP) (kind1:Int) (EN:List Int):Option (Int):=
 Ap (iter (fun (a:Int)=>He d1 kind1 EN a) 0) fun (u2:Unit)=>
 some 0
noncomputable def GR (d1:AP) (x5:Int):Option (Int ⊕ (Aj Unit Int)):=
 if (decide (x5<(d1.Nodes.length:Int))) then (
 AB (AM d1.Nodes x5) fun (x7:AE)=>
 AB (J9 x7) fun (r1:List Int)=>
 AB (Ku d1 x7.Kind r1) fun (e1:Int)=>
 if (!decide (e1=0)) then (
 some (.inr (.ext e1))
 ) else (
 AB (AS .i64 (x5+1)) fun (x8:Int)=>
 some (.inl x8)
 )
 ) else (
 some (.inr (.nrm ()))
 )
noncomputable def Hb (d1:AP) (x2:Int):Option (Int ⊕ (Aj Unit Int)):=
 if (decide (x2<(d1.Nodes.length:Int))) then (
 AB (AM d1.Nodes x2) fun (x9:AE)=>
 AB (Ju x9) fun (e2:Int)=>
 if (!decide (e2=0)) then (
 some (.inr (.ext e2))
 ) else (
 AB (gd ((decide (x2=0)) == true) (AM d1.Nodes 0)) fun (x10:AE)=>
 AB (gd ((((decide (x2=0)) && (!decide (x10.ID=1))) == false) && ((decide (0<x2)) == true)) (AS .i64 (x2-1))) fun (x11:Int)=>
 AB (gd ((((decide (x2=0)) && (!decide (x10.ID=1))) == false) && ((decide (0<x2)) == true)) (AM d1.Nodes x11)) fun (x12:AE)=>
 if (((decide (x2=0)) && (!decide (x10.ID=1))) || ((decide (0<x2)) && (decide (x9.ID≤x12.ID)))) then (
 some (.inr (.ext 5))
 ) else (
 AB (AS .i64 (x2+1)) fun (x13:Int)=>
 some (.inl x13)
 )
 )
 ) else (
 some (.inr (.nrm ()))
 )
noncomputable def IV (d1:AP):Option (Int):=
 if (decide ((d1.Nodes.length:Int)=0)) then (
 some 11
 ) else (
 Ap (iter (fun (a:Int)=>Hb d1 a) 0) fun (u2:Unit)=>
 Ap (iter (fun (a:Int)=>GR d1 a) 0) fun (u4:Unit)=>
 some 0
 )
structure AJ where
 name:List UInt8
 parents:List Int
 nodes:List Int
deriving DecidableEq
instance:Inhabited AJ:=⟨⟨[],[],[]⟩⟩
@[reducible] noncomputable def AJ.row (c:Nat) (x:AJ):List RV:=[.str x.name,.sl (x.parents.map (AL .i64)),.sl (x.nodes.map (BM c))]
structure Ah where
 versions:List AJ
deriving DecidableEq
instance:Inhabited Ah:=⟨⟨[]⟩⟩
structure TG where
deriving DecidableEq
instance:Inhabited TG:=⟨⟨⟩⟩
structure Wu where
 x:Int
 y:Int
 signed:Bool
 code:Int
deriving DecidableEq
instance:Inhabited Wu:=⟨⟨0,0,false,0⟩⟩
structure Si where
 msg:List UInt8
 addr:Int
deriving DecidableEq
instance:Inhabited Si:=⟨⟨[],0⟩⟩
noncomputable def Hi:Option (Unit):=
 some ()
noncomputable def J0 (c1:List UInt8) (v1:AJ):Option (Bool):=
 some (decide (v1.name=c1))
noncomputable def OM (c1:List UInt8) (s1:List AJ) (x2:Int):Option (Int ⊕ (Aj Unit Int)):=
 if (decide (x2<(s1.length:Int))) then (
 AB (AM s1 x2) fun (x4:AJ)=>
 AB (J0 c1 x4) fun (r1:Bool)=>
 if r1 then (
 some (.inr (.ext x2))
 ) else (
 AB (AS .i64 (x2+1)) fun (x5:Int)=>
 some (.inl x5)
 )
 ) else (
 some (.inr (.nrm ()))
 )
noncomputable def Ni (c1:List UInt8) (s1:List AJ):Option (Int):=
 Ap (iter (fun (a:Int)=>OM c1 s1 a) 0) fun (u2:Unit)=>
 some (-1)
noncomputable def Ok (c1:List UInt8) (s1:List AJ):Option (Bool):=
 AB (Ni c1 s1) fun (r1:Int)=>
 some (decide (0≤r1))
noncomputable def IH (s1:List AJ) (c1:List UInt8) (x2:Int):Option (Int ⊕ (Aj Unit Int)):=
 if (decide (x2<(s1.length:Int))) then (
 AB (AM s1 x2) fun (x4:AJ)=>
 AB (J0 c1 x4) fun (r1:Bool)=>
 if r1 then (
 some (.inr (.ext x2))
 ) else (
 AB (AS .i64 (x2+1)) fun (x5:Int)=>
 some (.inl x5)
 )
 ) else (
 some (.inr (.nrm ()))
 )
noncomputable def LM (s1:List AJ) (c1:List UInt8):Option (Int):=
 Ap (iter (fun (a:Int)=>IH s1 c1 a) 0) fun (u2:Unit)=>
 some (-1)
noncomputable def G8 (s1:List AJ) (c1:List UInt8):Option (Bool):=
 AB (LM s1 c1) fun (r1:Int)=>
 some (decide (0≤r1))
noncomputable def Hp (s1:List Int):Option ((List Int)):=
 AB (BS 8 [] s1) fun (l1:List Int)=>
 some l1
noncomputable def HX (fl1:List AE) (n1:AE) (x5:AJ) (x7:Int):Option (Int ⊕ (Aj Unit (Int ⊕ (Aj Unit (Int × (List AE)))))):=
 if (decide (x7<(x5.nodes.length:Int))) then (
 AB (AM x5.nodes x7) fun (x10:Int)=>
 AB (AM fl1 x10) fun (x11:AE)=>
 AB (gd ((decide (x11.ID=n1.ID)) == true) (If x11 n1)) fun (r2:Bool)=>
 if ((decide (x11.ID=n1.ID)) && r2) then (
 AB (Em fl1.length [x10]) fun (u5:Unit)=>
 some (.inr (.ext (.inr (.ext (x10,fl1)))))
 ) else (
 AB (AS .i64 (x7+1)) fun (x12:Int)=>
 some (.inl x12)
 )
 ) else (
 some (.inr (.nrm ()))
 )
noncomputable def IQ (w1:Ah) (fl1:List AE) (parents1:List Int) (n1:AE) (x2:Int):Option (Int ⊕ (Aj Unit (Int × (List AE)))):=
 if (decide (x2<(parents1.length:Int))) then (
 AB (AM parents1 x2) fun (x4:Int)=>
 AB (AM w1.versions x4) fun (x5:AJ)=>
 Ap (iter (fun (a:Int)=>HX fl1 n1 x5 a) 0) fun (u4:Unit)=>
 AB (AS .i64 (x2+1)) fun (x9:Int)=>
 some (.inl x9)
 ) else (
 some (.inr (.nrm ()))
 )
noncomputable def JU (w1:Ah) (fl1:List AE) (parents1:List Int) (n1:AE):Option (Int × (List AE)):=
 Ap (iter (fun (a:Int)=>IQ w1 fl1 parents1 n1 a) 0) fun (u2:Unit)=>
 AB (HB n1) fun (r1:AE)=>
 some ((fl1.length:Int),(fl1++[r1]))
noncomputable def IA (w1:Ah) (d1:AP) (parents1:List Int) (x5:Int) (v2:AJ) (fl3:List AE):Option ((Int × AJ × (List AE)) ⊕ (AJ × (List AE))):=
 if (decide (x5<(d1.Nodes.length:Int))) then (
 AB (AM d1.Nodes x5) fun (x8:AE)=>
 CZ (JU w1 fl3 parents1 x8) fun (r4:Int) (w2:List AE)=>
 AB (Em fl3.length v2.nodes) fun (u4:Unit)=>
 AB (BS 8 v2.nodes [r4]) fun (l2:List Int)=>
 AB (AS .i64 (x5+1)) fun (x9:Int)=>
 AB (Em fl3.length (w1.versions.flatMap fun v=>v.nodes)) fun (u5:Unit)=>
 some (.inl (x9,(AJ.mk v2.name v2.parents l2),w2))
 ) else (
 some (.inr (v2,fl3))
 )
noncomputable def IP (w1:Ah) (fl1:List AE) (parents1:List Int) (x2:Int):Option (Int ⊕ (Aj Unit (Int × Int × Ah × (List AE)))):=
 if (decide (x2<(parents1.length:Int))) then (
 AB (AM parents1 x2) fun (x10:Int)=>
 if ((decide (x10<0)) || (decide ((w1.versions.length:Int)≤x10))) then (
 some (.inr (.ext (0,2,w1,fl1)))
 ) else (
 AB (DH parents1 0 x2) fun (l3:List Int)=>
 AB (E1 l3 x10) fun (r5:Bool)=>
 if r5 then (
 some (.inr (.ext (0,6,w1,fl1)))
 ) else (
 AB (AS .i64 (x2+1)) fun (x11:Int)=>
 some (.inl x11)
 )
 )
 ) else (
 some (.inr (.nrm ()))
 )
noncomputable def GC (w1:Ah) (fl1:List AE) (name1:List UInt8) (d1:AP) (parents1:List Int):Option (Int × Int × Ah × (List AE)):=
 AB (HD name1) fun (r1:Bool)=>
 if (!r1) then (
 some (0,9,w1,fl1)
 ) else (
 AB (Dl d1) fun (e1:Int)=>
 if (!decide (e1=0)) then (
 some (0,e1,w1,fl1)
 ) else (
 Ap (iter (fun (a:Int)=>IP w1 fl1 parents1 a) 0) fun (u2:Unit)=>
 AB (G8 w1.versions name1) fun (r2:Bool)=>
 if r2 then (
 some (0,6,w1,fl1)
 ) else (
 AB (Hp parents1) fun (r3:List Int)=>
 CZ (iter (fun (a:Int × AJ × (List AE))=>IA w1 d1 parents1 a.1 a.2.1 a.2.2) (0,(AJ.mk name1 r3 []),fl1)) fun (v4:AJ) (fl5:List AE)=>
 AB (BS 64 w1.versions [v4]) fun (l1:List AJ)=>
 AB (AS .i64 ((l1.length:Int)-1)) fun (x7:Int)=>
 some (x7,0,(Ah.mk l1),fl5)
 )
 )
 )
noncomputable def IN (fl1:List AE) (x1:AJ) (x3:Int) (d2:AP):Option ((Int × AP) ⊕ AP):=
 if (decide (x3<(x1.nodes.length:Int))) then (
 AB (AM x1.nodes x3) fun (x5:Int)=>
 AB (AM fl1 x5) fun (x6:AE)=>
 AB (HB x6) fun (r1:AE)=>
 AB (BS 152 d2.Nodes [r1]) fun (l1:List AE)=>
 AB (AS .i64 (x3+1)) fun (x7:Int)=>
 some (.inl (x7,(AP.mk l1)))
 ) else (
 some (.inr d2)
 )
noncomputable def Et (w1:Ah) (fl1:List AE) (k1:Int):Option (AP × Int):=
 if ((decide (k1<0)) || (decide ((w1.versions.length:Int)≤k1))) then (
 some ((AP.mk []),2)
 ) else (
 AB (AM w1.versions k1) fun (x1:AJ)=>
 AB (iter (fun (a:Int × AP)=>IN fl1 x1 a.1 a.2) (0,(AP.mk []))) fun (d4:AP)=>
 some (d4,0)
 )
noncomputable def IC (fl1:List AE) (x4:AJ) (x6:Int) (js6:List Int):Option ((Int × (List Int)) ⊕ (List Int)):=
 if (decide (x6<(x4.nodes.length:Int))) then (
 AB (AM x4.nodes x6) fun (x9:Int)=>
 AB (HN fl1.length js6 x9) fun (js9:List Int)=>
 AB (AS .i64 (x6+1)) fun (x10:Int)=>
 some (.inl (x10,js9))
 ) else (
 some (.inr js6)
 )
noncomputable def II (w1:Ah) (fl1:List AE) (x2:Int) (js2:List Int):Option ((Int × (List Int)) ⊕ (List Int)):=
 if (decide (x2<(w1.versions.length:Int))) then (
 AB (AM w1.versions x2) fun (x4:AJ)=>
 AB (iter (fun (a:Int × (List Int))=>IC fl1 x4 a.1 a.2) (0,js2)) fun (js8:List Int)=>
 AB (AS .i64 (x2+1)) fun (x8:Int)=>
 some (.inl (x8,js8))
 ) else (
 some (.inr js2)
 )
noncomputable def Fq (w1:Ah) (fl1:List AE):Option (Int):=
 AB (iter (fun (a:Int × (List Int))=>II w1 fl1 a.1 a.2) (0,[])) fun (js4:List Int)=>
 some (js4.length:Int)
noncomputable def Ir:Option (Bool):=
 AB (Hi) fun (u1:Unit)=>
 AB (IF) fun (r1:AP)=>
 L7 (GC (Ah.mk []) [] [97] r1 []) fun (r2:Int) (r3:Int) (w1:Ah) (w2:List AE)=>
 CZ (Et w1 w2 0) fun (r4:AP) (r5:Int)=>
 AB (JT) fun (r6:Bool)=>
 AB (gd ((((r6 && (decide (r2=0))) && (decide (r3=0))) && (decide (r5=0))) == true) (FP r4 r1)) fun (r8:Bool)=>
 AB (
 if (((((r6 && (decide (r2=0))) && (decide (r3=0))) && (decide (r5=0))) && r8) == true) then (
 AB (Fq w1 w2) fun (r9:Int)=>
 some (((((r6 && (decide (r2=0))) && (decide (r3=0))) && (decide (r5=0))) && r8) && (decide (r9=2)))
 ) else (
 some (((((r6 && (decide (r2=0))) && (decide (r3=0))) && (decide (r5=0))) && r8) && false)
 )
 ) fun (x1:Bool)=>
 some x1
noncomputable def GP (names1:List (List UInt8)) (name1:List UInt8) (x5:Int):Option (Int ⊕ (Aj Unit Int)):=
 if (decide (x5<(names1.length:Int))) then (
 AB (AM names1 x5) fun (x7:List UInt8)=>
 if (decide (x7=name1)) then (
 some (.inr (.ext 6))
 ) else (
 AB (AS .i64 (x5+1)) fun (x8:Int)=>
 some (.inl x8)
 )
 ) else (
 some (.inr (.nrm ()))
 )
noncomputable def HT (p1:List Int) (x2:Int) (x9:Int) (x12:Int):Option (Int ⊕ (Aj Unit (Int ⊕ (Aj Unit Int)))):=
 if (decide (x12<x2)) then (
 AB (AM p1 x12) fun (x15:Int)=>
 if (decide (x15=x9)) then (
 some (.inr (.ext (.inr (.ext 6))))
 ) else (
 AB (AS .i64 (x12+1)) fun (x16:Int)=>
 some (.inl x16)
 )
 ) else (
 some (.inr (.nrm ()))
 )
noncomputable def Io (names1:List (List UInt8)) (p1:List Int) (x2:Int):Option (Int ⊕ (Aj Unit Int)):=
 if (decide (x2<(p1.length:Int))) then (
 AB (AM p1 x2) fun (x9:Int)=>
 AB (AS .i64 ((names1.length:Int)-1)) fun (x10:Int)=>
 AB (Be x9 0 x10) fun (r2:Bool)=>
 if (!r2) then (
 some (.inr (.ext 2))
 ) else (
 Ap (iter (fun (a:Int)=>HT p1 x2 x9 a) 0) fun (u6:Unit)=>
 AB (AS .i64 (x2+1)) fun (x14:Int)=>
 some (.inl x14)
 )
 ) else (
 some (.inr (.nrm ()))
 )
noncomputable def KV (names1:List (List UInt8)) (name1:List UInt8) (d1:AP) (p1:List Int):Option (Int):=
 AB (Gj name1) fun (r1:Bool)=>
 if (!r1) then (
 some 9
 ) else (
 AB (IV d1) fun (e1:Int)=>
 if (!decide (e1=0)) then (
 some e1
 ) else (
 Ap (iter (fun (a:Int)=>Io names1 p1 a) 0) fun (u2:Unit)=>
 Ap (iter (fun (a:Int)=>GP names1 name1 a) 0) fun (u4:Unit)=>
 some 0
 )
 )
noncomputable def In (w1:Ah) (x2:Int) (out2:List (List UInt8)):Option ((Int × (List (List UInt8))) ⊕ (List (List UInt8))):=
 if (decide (x2<(w1.versions.length:Int))) then (
 AB (AM w1.versions x2) fun (x4:AJ)=>
 AB (BS 16 out2 [x4.name]) fun (out5:List (List UInt8))=>
 AB (AS .i64 (x2+1)) fun (x5:Int)=>
 some (.inl (x5,out5))
 ) else (
 some (.inr out2)
 )
noncomputable def H6 (w1:Ah) (fl1:List AE):Option ((List (List UInt8))):=
 AB (iter (fun (a:Int × (List (List UInt8)))=>In w1 a.1 a.2) (0,[])) fun (out4:List (List UInt8))=>
 some out4
noncomputable def Gq (l1:List AP) (x10:AE) (x11:List Int) (is2:Bool) (x13:Int):Option ((Bool × Int) ⊕ Bool):=
 if (decide (x13<(x11.length:Int))) then (
 AB (
 AB (AM x11 x13) fun (x16:Int)=>
 AB (AM l1 x16) fun (x17:AP)=>
 AB (Hg x17 x10.ID) fun (k1:Int)=>
 AB (gd ((decide (0≤k1)) == true) (AM x17.Nodes k1)) fun (x18:AE)=>
 AB (gd ((decide (0≤k1)) == true) (HU x18 x10)) fun (r1:Bool)=>
 if ((decide (0≤k1)) && r1) then (
 some true
 ) else (
 some is2
 )
 ) fun (is5:Bool)=>
 AB (AS .i64 (x13+1)) fun (x15:Int)=>
 some (.inl (is5,x15))
 ) else (
 some (.inr is2)
 )
noncomputable def Hc (l1:List AP) (from1:List (List Int)) (x2:Int) (x4:AP) (count6:Int) (x6:Int):Option ((Int × Int) ⊕ Int):=
 if (decide (x6<(x4.Nodes.length:Int))) then (
 AB (
 AB (AM x4.Nodes x6) fun (x10:AE)=>
 AB (AM from1 x2) fun (x11:List Int)=>
 AB (iter (fun (a:Bool × Int)=>Gq l1 x10 x11 a.1 a.2) (false,0)) fun (is4:Bool)=>
 if (!is4) then (
 AB (AS .i64 (count6+1)) fun (count10:Int)=>
 some count10
 ) else (
 some count6
 )
 ) fun (count9:Int)=>
 AB (AS .i64 (x6+1)) fun (x9:Int)=>
 some (.inl (count9,x9))
 ) else (
 some (.inr count6)
 )
noncomputable def HZ (l1:List AP) (from1:List (List Int)) (count2:Int) (x2:Int):Option ((Int × Int) ⊕ Int):=
 if (decide (x2<(l1.length:Int))) then (
 AB (AM l1 x2) fun (x4:AP)=>
 AB (iter (fun (a:Int × Int)=>Hc l1 from1 x2 x4 a.1 a.2) (count2,0)) fun (count8:Int)=>
 AB (AS .i64 (x2+1)) fun (x8:Int)=>
 some (.inl (count8,x8))
 ) else (
 some (.inr count2)
 )
noncomputable def H5 (l1:List AP) (from1:List (List Int)):Option (Int):=
 AB (iter (fun (a:Int × Int)=>HZ l1 from1 a.1 a.2) (0,0)) fun (count4:Int)=>
 some count4
noncomputable def H7 (w1:Ah) (name1:List UInt8) (x2:Int):Option (Int ⊕ (Aj Unit (Int × Int))):=
 if (decide (x2<(w1.versions.length:Int))) then (
 AB (AM w1.versions x2) fun (x4:AJ)=>
 if (decide (x4.name=name1)) then (
 some (.inr (.ext (x2,0)))
 ) else (
 AB (AS .i64 (x2+1)) fun (x5:Int)=>
 some (.inl x5)
 )
 ) else (
 some (.inr (.nrm ()))
 )
noncomputable def KS (w1:Ah) (fl1:List AE) (name1:List UInt8):Option (Int × Int):=
 Ap (iter (fun (a:Int)=>H7 w1 name1 a) 0) fun (u2:Unit)=>
 some (0,7)
noncomputable def JG (w1:Ah) (fl1:List AE) (k1:Int):Option ((List Int) × Int):=
 if ((decide (k1<0)) || (decide ((w1.versions.length:Int)≤k1))) then (
 some ([],2)
 ) else (
 AB (AM w1.versions k1) fun (x1:AJ)=>
 AB (Hp x1.parents) fun (r1:List Int)=>
 some (r1,0)
 )
noncomputable def Gh (x3:AJ) (x5:Int) (out8:List Bool):Option ((Int × (List Bool)) ⊕ (Aj Unit (List Bool))):=
 if (decide (x5<(x3.parents.length:Int))) then (
 AB (AM x3.parents x5) fun (x7:Int)=>
 AB (AM out8 x7) fun (x8:Bool)=>
 AB (AS .i64 (x5+1)) fun (x9:Int)=>
 some (.inl (x9,(out8.set x7.toNat true)))
 ) else (
 some (.inr (.ext out8))
 )
noncomputable def Hz (w1:Ah) (i4:Int) (out3:List Bool):Option ((Int × (List Bool)) ⊕ (List Bool)):=
 if (decide (0≤i4)) then (
 AB (
 AB (AM out3 i4) fun (x2:Bool)=>
 if (!x2) then (
 some out3
 ) else (
 AB (AM w1.versions i4) fun (x3:AJ)=>
 Ap (iter (fun (a:Int × (List Bool))=>Gh x3 a.1 a.2) (0,out3)) fun (u3:Unit)=>
 none
 )
 ) fun (out6:List Bool)=>
 AB (AS .i64 (i4-1)) fun (i10:Int)=>
 some (.inl (i10,out6))
 ) else (
 some (.inr out3)
 )
noncomputable def IL (w1:Ah) (fl1:List AE) (k1:Int):Option ((List Bool)):=
 AB (mk 1 (w1.versions.length:Int) false) fun (out1:List Bool)=>
 AB (AM out1 k1) fun (x1:Bool)=>
 AB (iter (fun (a:Int × (List Bool))=>Hz w1 a.1 a.2) (k1,(out1.set k1.toNat true))) fun (out5:List Bool)=>
 some out5
noncomputable def Hv (a1:List Bool) (b1:List Bool) (n4:Int):Option (Int ⊕ (Aj Unit (Int × Int))):=
 if (decide (0≤n4)) then (
 AB (AM a1 n4) fun (x1:Bool)=>
 AB (gd (x1 == true) (AM b1 n4)) fun (x2:Bool)=>
 if (x1 && x2) then (
 some (.inr (.ext (n4,0)))
 ) else (
 AB (AS .i64 (n4-1)) fun (n6:Int)=>
 some (.inl n6)
 )
 ) else (
 some (.inr (.nrm ()))
 )
noncomputable def GH (w1:Ah) (fl1:List AE) (i1:Int) (k1:Int):Option (Int × Int):=
 if ((decide ((min i1 k1)<0)) || (decide ((w1.versions.length:Int)≤(max i1 k1)))) then (
 some (0,2)
 ) else (
 AB (IL w1 fl1 i1) fun (a1:List Bool)=>
 AB (IL w1 fl1 k1) fun (b1:List Bool)=>
 Ap (iter (fun (a:Int)=>Hv a1 b1 a) (min i1 k1)) fun (u2:Unit)=>
 some (0,7)
 )
noncomputable def FA (from1:List (List Int)) (n1:Int) (self:(List (List Int))→Int→Int→Option Bool) (x1:List Int) (x3:Int):Option (Int ⊕ (Aj Unit Bool)):=
 if (decide (x3<(x1.length:Int))) then (
 AB (AM x1 x3) fun (x5:Int)=>
 AB (self from1 x5 n1) fun (r1:Bool)=>
 if r1 then (
 some (.inr (.ext true))
 ) else (
 AB (AS .i64 (x3+1)) fun (x6:Int)=>
 some (.inl x6)
 )
 ) else (
 some (.inr (.nrm ()))
 )
noncomputable def GA (self:(List (List Int))→Int→Int→Option Bool) (from1:List (List Int)) (k1:Int) (n1:Int):Option (Bool):=
 if (decide (k1=n1)) then (
 some true
 ) else (
 AB (AM from1 k1) fun (x1:List Int)=>
 Ap (iter (fun (a:Int)=>FA from1 n1 self x1 a) 0) fun (u2:Unit)=>
 some false
 )
noncomputable def Cq:Nat→(List (List Int))→Int→Int→Option Bool
 | 0,_,_,_=>none
 | n+1,from1,k1,n1=>GA (fun from1 k1 n1=>Cq n from1 k1 n1) from1 k1 n1
noncomputable def HY (from1:List (List Int)) (k1:Int) (n1:Int):Option (Bool):=
 @dite _ (∃ n r,Cq n from1 k1 n1=some r) (Classical.propDecidable _) (fun h=>Cq h.choose from1 k1 n1) (fun _=>none)
noncomputable def G4 (i1:Int) (k1:Int) (from4:List (List Int)) (r2:Int) (r3:Int) (n9:Int):Option (Int ⊕ (Aj Unit Bool)):=
 if (decide (0≤n9)) then (
 AB (HY from4 i1 n9) fun (r8:Bool)=>
 AB (gd (r8 == true) (HY from4 k1 n9)) fun (r9:Bool)=>
 if (r8 && r9) then (
 some (.inr (.ext ((decide (r3=0)) && (decide (r2=n9)))))
 ) else (
 AB (AS .i64 (n9-1)) fun (n11:Int)=>
 some (.inl n11)
 )
 ) else (
 some (.inr (.nrm ()))
 )
noncomputable def IG (h7:Ah) (kept4:List AP) (called4:List (List UInt8)) (from4:List (List Int)) (fl4:List AE) (got1:List (List UInt8)) (x3:Int):Option (Int ⊕ (Aj Unit Bool)):=
 if (decide (x3<(called4.length:Int))) then (
 CZ (Et h7 fl4 x3) fun (r10:AP) (r11:Int)=>
 AB (AM called4 x3) fun (x6:List UInt8)=>
 CZ (KS h7 fl4 x6) fun (r12:Int) (r13:Int)=>
 CZ (JG h7 fl4 x3) fun (r14:List Int) (r15:Int)=>
 AB (AM got1 x3) fun (x7:List UInt8)=>
 AB (gd (((!decide (x7=x6)) || (!decide (r11=0))) == false) (AM kept4 x3)) fun (x8:AP)=>
 AB (gd (((!decide (x7=x6)) || (!decide (r11=0))) == false) (FP r10 x8)) fun (r16:Bool)=>
 AB (gd (((((((!decide (x7=x6)) || (!decide (r11=0))) || (!r16)) || (!decide (r13=0))) || (!decide (r12=x3))) || (!decide (r15=0))) == false) (AM from4 x3)) fun (x9:List Int)=>
 AB (gd (((((((!decide (x7=x6)) || (!decide (r11=0))) || (!r16)) || (!decide (r13=0))) || (!decide (r12=x3))) || (!decide (r15=0))) == false) (Ia r14 x9)) fun (r17:Bool)=>
 if (((((((!decide (x7=x6)) || (!decide (r11=0))) || (!r16)) || (!decide (r13=0))) || (!decide (r12=x3))) || (!decide (r15=0))) || (!r17)) then (
 some (.inr (.ext false))
 ) else (
 AB (AS .i64 (x3+1)) fun (x10:Int)=>
 some (.inl x10)
 )
 ) else (
 some (.inr (.nrm ()))
 )
noncomputable def H1 (l1:List AP) (names1:List (List UInt8)) (parents1:List (List Int)) (n3:Int) (h5:Ah) (kept2:List AP) (called2:List (List UInt8)) (from2:List (List Int)) (fl2:List AE):Option ((Int × Ah × (List AP) × (List (List UInt8)) × (List (List Int)) × (List AE)) ⊕ (Aj (Ah × (List AP) × (List (List UInt8)) × (List (List Int)) × (List AE)) Bool)):=
 if (((decide (n3<(l1.length:Int))) && (decide (n3<6))) && (decide (n3<(names1.length:Int)))) then (
 Lq (
 AB (
 if (decide (n3<(parents1.length:Int))) then (
 AB (AM parents1 n3) fun (x13:List Int)=>
 some x13
 ) else (
 some []
 )
 ) fun (p3:List Int)=>
 AB (AM names1 n3) fun (x11:List UInt8)=>
 AB (AM l1 n3) fun (x12:AP)=>
 L7 (GC h5 fl2 x11 x12 p3) fun (r20:Int) (r21:Int) (w1:Ah) (w2:List AE)=>
 AB (KV called2 x11 x12 p3) fun (f1:Int)=>
 if (!decide (f1=0)) then (
 if ((!decide (r21=f1)) || (!decide (r20=0))) then (
 some (.ext (.inr (.ext false)))
 ) else (
 some (.nrm (w1,kept2,called2,from2,w2))
 )
 ) else (
 if ((!decide (r21=0)) || (!decide (r20=(kept2.length:Int)))) then (
 some (.ext (.inr (.ext false)))
 ) else (
 AB (BS 24 kept2 [x12]) fun (kept6:List AP)=>
 AB (BS 16 called2 [x11]) fun (called6:List (List UInt8))=>
 AB (BS 24 from2 [p3]) fun (from6:List (List Int))=>
 some (.nrm (w1,kept6,called6,from6,w2))
 )
 )
 ) fun (h44:Ah) (kept5:List AP) (called5:List (List UInt8)) (from5:List (List Int)) (fl5:List AE)=>
 AB (AS .i64 (n3+1)) fun (n16:Int)=>
 some (.inl (n16,h44,kept5,called5,from5,fl5))
 ) else (
 some (.inr (.nrm (h5,kept2,called2,from2,fl2)))
 )
noncomputable def LY (l1:List AP) (names1:List (List UInt8)) (parents1:List (List Int)) (i1:Int) (k1:Int):Option (Bool):=
 AB (Ir) fun (r1:Bool)=>
 if (!r1) then (
 some false
 ) else (
 AB (Hi) fun (u1:Unit)=>
 Lq (iter (fun (a:Int × Ah × (List AP) × (List (List UInt8)) × (List (List Int)) × (List AE))=>H1 l1 names1 parents1 a.1 a.2.1 a.2.2.1 a.2.2.2.1 a.2.2.2.2.1 a.2.2.2.2.2) (0,(Ah.mk []),[],[],[],[])) fun (h7:Ah) (kept4:List AP) (called4:List (List UInt8)) (from4:List (List Int)) (fl4:List AE)=>
 AB (H6 h7 fl4) fun (got1:List (List UInt8))=>
 AB (
 if ((!decide ((got1.length:Int)=(called4.length:Int))) == false) then (
 AB (Fq h7 fl4) fun (r18:Int)=>
 AB (H5 kept4 from4) fun (r19:Int)=>
 some ((!decide ((got1.length:Int)=(called4.length:Int))) || (!decide (r18=r19)))
 ) else (
 some ((!decide ((got1.length:Int)=(called4.length:Int))) || false)
 )
 ) fun (x1:Bool)=>
 if x1 then (
 some false
 ) else (
 Ap (iter (fun (a:Int)=>IG h7 kept4 called4 from4 fl4 got1 a) 0) fun (u4:Unit)=>
 CZ (GH h7 fl4 i1 k1) fun (r2:Int) (r3:Int)=>
 AB (AS .i64 ((kept4.length:Int)-1)) fun (x5:Int)=>
 AB (Be i1 0 x5) fun (r4:Bool)=>
 AB (gd ((!r4) == false) (Be k1 0 x5)) fun (r5:Bool)=>
 if ((!r4) || (!r5)) then (
 CZ (Et h7 fl4 (kept4.length:Int)) fun (r6:AP) (r7:Int)=>
 some (((decide (r3=2)) && (decide (r2=0))) && (decide (r7=2)))
 ) else (
 Ap (iter (fun (a:Int)=>G4 i1 k1 from4 r2 r3 a) (min i1 k1)) fun (u6:Unit)=>
 some ((decide (r3=7)) && (decide (r2=0)))
 )
 )
 )
end Go.Proofs.YtioekebmplhlmaaGreatDoor.Al
