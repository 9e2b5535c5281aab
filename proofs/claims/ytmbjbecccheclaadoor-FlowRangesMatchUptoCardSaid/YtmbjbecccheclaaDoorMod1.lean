/- Models, as printed. -/
import Derived.Test.YtmbjbecccheclaaDoorAl2
namespace Go.Proofs.YtmbjbecccheclaaDoor.Al
structure EH where
 Kind:Int
 N:Int
deriving DecidableEq
instance:Inhabited EH:=⟨⟨0,0⟩⟩
structure KC where
 steps:List EH
 used:Int
deriving DecidableEq
instance:Inhabited KC:=⟨⟨[],0⟩⟩
structure IF where
 out:List EH
 add:Int
 cut:Int
deriving DecidableEq
instance:Inhabited IF:=⟨⟨[],0,0⟩⟩
structure AK where
 Name:List UInt8
 Value:List UInt8
deriving DecidableEq
instance:Inhabited AK:=⟨⟨[],[]⟩⟩
@[reducible] def AK.row (x:AK):List RV:=[.str x.Name,.str x.Value]
structure AE where
 Char:Int
 Ref:Int
 Attrs:List AK
deriving DecidableEq
instance:Inhabited AE:=⟨⟨0,0,[]⟩⟩
@[reducible] def AE.row (x:AE):List RV:=[.int .i64 x.Char,.int .i64 x.Ref,.sl (x.Attrs.map AK.row)]
structure GR where
 Row:Int
 Col:Int
 Text:List UInt8
 Ref:Int
 Attrs:List AK
deriving DecidableEq
instance:Inhabited GR:=⟨⟨0,0,[],0,[]⟩⟩
structure Ew where
 Row:Int
 Col:Int
 H:Int
 W:Int
deriving DecidableEq
instance:Inhabited Ew:=⟨⟨0,0,0,0⟩⟩
structure E4 where
 Rows:Int
 Cols:Int
 Cells:List GR
 Merges:List Ew
deriving DecidableEq
instance:Inhabited E4:=⟨⟨0,0,[],[]⟩⟩
structure Gd where
 Clock:Int
 Site:Int
 Kind:Int
 Item:Int
 Parent:Int
 Place:List UInt8
 Name:List UInt8
 Value:List UInt8
deriving DecidableEq
instance:Inhabited Gd:=⟨⟨0,0,0,0,0,[],[],[]⟩⟩
structure F6 where
 ID:Int
 Kind:Int
 Attrs:List AK
 Flow:List AE
 Grid:E4
 Draw:List Gd
deriving DecidableEq
instance:Inhabited F6:=⟨⟨0,0,[],[],(E4.mk 0 0 [] []),[]⟩⟩
structure Ep where
 Kind:Int
 N:Int
 Attrs:List AK
 Elems:List AE
deriving DecidableEq
instance:Inhabited Ep:=⟨⟨0,0,[],[]⟩⟩
structure F7 where
 Rows:List EH
 Cols:List EH
 Cells:List GR
 Split:List Ew
 Merge:List Ew
deriving DecidableEq
instance:Inhabited F7:=⟨⟨[],[],[],[],[]⟩⟩
structure Hd where
 Kind:Int
 Node:Int
 New:F6
 Attrs:List AK
 Steps:List Ep
 Grid:F7
 Draw:List Gd
deriving DecidableEq
instance:Inhabited Hd:=⟨⟨0,0,(F6.mk 0 0 [] [] (E4.mk 0 0 [] []) []),[],[],(F7.mk [] [] [] [] []),[]⟩⟩
structure Jl where
 Site:Int
 Number:Int
 Change:List Hd
 Undoes:Int
 Refused:Int
deriving DecidableEq
instance:Inhabited Jl:=⟨⟨0,0,[],0,0⟩⟩
structure KO where
 From:Int
 To:Int
deriving DecidableEq
instance:Inhabited KO:=⟨⟨0,0⟩⟩
noncomputable def DD (x1:Int) (low1:Int) (high1:Int):Option (Bool):=
 some ((decide (low1≤x1)) && (decide (x1≤high1)))
noncomputable def EK (a1:List Int) (b1:List Int) (x2:Int):Option (Int ⊕ (A5 Unit Bool)):=
 if (decide (x2<(a1.length:Int))) then (
 AN (Ab a1 x2) fun (x4:Int)=>
 AN (Ab b1 x2) fun (x5:Int)=>
 if (!decide (x4=x5)) then (
 some (.inr (.ext false))
 ) else (
 AN (Aj .i64 (x2+1)) fun (x6:Int)=>
 some (.inl x6)
 )
 ) else (
 some (.inr (.nrm ()))
 )
noncomputable def Ds (a1:List Int) (b1:List Int):Option (Bool):=
 if (!decide ((a1.length:Int)=(b1.length:Int))) then (
 some false
 ) else (
 BJ (iter (fun (a:Int)=>EK a1 b1 a) 0) fun (u2:Unit)=>
 some true
 )
noncomputable def De (s1:List UInt8) (x2:Int):Option (Int ⊕ (A5 Unit Bool)):=
 if (decide (x2<(s1.length:Int))) then (
 AN (Ab s1 x2) fun (c1:UInt8)=>
 if (((((decide ((c1.toNat:Int)<97)) || (decide (122<(c1.toNat:Int)))) && ((decide ((c1.toNat:Int)<48)) || (decide (57<(c1.toNat:Int))))) && (!decide ((c1.toNat:Int)=46))) && (!decide ((c1.toNat:Int)=45))) then (
 some (.inr (.ext false))
 ) else (
 AN (Aj .i64 (x2+1)) fun (x4:Int)=>
 some (.inl x4)
 )
 ) else (
 some (.inr (.nrm ()))
 )
noncomputable def EO (s1:List UInt8):Option (Bool):=
 AN (gd (((decide (s1=[])) || (decide (24<(s1.length:Int)))) == false) (Ab s1 0)) fun (ch1:UInt8)=>
 AN (gd ((((decide (s1=[])) || (decide (24<(s1.length:Int)))) || (decide ((ch1.toNat:Int)<97))) == false) (Ab s1 0)) fun (ch2:UInt8)=>
 if ((((decide (s1=[])) || (decide (24<(s1.length:Int)))) || (decide ((ch1.toNat:Int)<97))) || (decide (122<(ch2.toNat:Int)))) then (
 some false
 ) else (
 BJ (iter (fun (a:Int)=>De s1 a) 0) fun (u2:Unit)=>
 some true
 )
noncomputable def Eg (s1:List UInt8) (x2:Int):Option (Int ⊕ (A5 Unit Bool)):=
 if (decide (x2<(s1.length:Int))) then (
 AN (Ab s1 x2) fun (ch1:UInt8)=>
 if ((decide ((ch1.toNat:Int)<32)) || (decide (126<(ch1.toNat:Int)))) then (
 some (.inr (.ext false))
 ) else (
 AN (Aj .i64 (x2+1)) fun (x4:Int)=>
 some (.inl x4)
 )
 ) else (
 some (.inr (.nrm ()))
 )
noncomputable def D9 (s1:List UInt8):Option (Bool):=
 if ((decide (s1=[])) || (decide (200<(s1.length:Int)))) then (
 some false
 ) else (
 BJ (iter (fun (a:Int)=>Eg s1 a) 0) fun (u2:Unit)=>
 some true
 )
noncomputable def Do (l1:List AK) (empty1:Bool) (x2:Int):Option (Int ⊕ (A5 Unit Int)):=
 if (decide (x2<(l1.length:Int))) then (
 AN (Ab l1 x2) fun (x4:AK)=>
 AN (EO x4.Name) fun (r1:Bool)=>
 if (!r1) then (
 some (.inr (.ext 9))
 ) else (
 AN (D9 x4.Value) fun (r2:Bool)=>
 if ((!r2) && (!(empty1 && (decide (x4.Value=[]))))) then (
 some (.inr (.ext 23))
 ) else (
 AN (gd ((decide (0<x2)) == true) (Aj .i64 (x2-1))) fun (x5:Int)=>
 AN (gd ((decide (0<x2)) == true) (Ab l1 x5)) fun (x6:AK)=>
 if ((decide (0<x2)) && (Bn x4.Name x6.Name || decide (x4.Name=x6.Name))) then (
 some (.inr (.ext 5))
 ) else (
 AN (Aj .i64 (x2+1)) fun (x7:Int)=>
 some (.inl x7)
 )
 )
 )
 ) else (
 some (.inr (.nrm ()))
 )
noncomputable def D7 (l1:List AK) (empty1:Bool):Option (Int):=
 BJ (iter (fun (a:Int)=>Do l1 empty1 a) 0) fun (u2:Unit)=>
 some 0
noncomputable def DR (l1:List AK):Option (Int):=
 AN (D7 l1 false) fun (r1:Int)=>
 some r1
noncomputable def EU (a1:List AK) (b1:List AK) (x2:Int):Option (Int ⊕ (A5 Unit Bool)):=
 if (decide (x2<(a1.length:Int))) then (
 AN (Ab a1 x2) fun (x4:AK)=>
 AN (Ab b1 x2) fun (x5:AK)=>
 if (!(decide (x4.Name=x5.Name) && (decide (x4.Value=x5.Value) && true))) then (
 some (.inr (.ext false))
 ) else (
 AN (Aj .i64 (x2+1)) fun (x6:Int)=>
 some (.inl x6)
 )
 ) else (
 some (.inr (.nrm ()))
 )
noncomputable def C5 (a1:List AK) (b1:List AK):Option (Bool):=
 if (!decide ((a1.length:Int)=(b1.length:Int))) then (
 some false
 ) else (
 BJ (iter (fun (a:Int)=>EU a1 b1 a) 0) fun (u2:Unit)=>
 some true
 )
noncomputable def C8 (c1:Int):Option (Bool):=
 some (((((decide (c1=9)) || (decide (c1=10))) || ((decide (32≤c1)) && (decide (c1<127)))) || ((decide (160≤c1)) && (decide (c1<55296)))) || ((decide (57343<c1)) && (decide (c1≤1114111))))
noncomputable def EG (x1:AE):Option (Int):=
 if ((!decide (x1.Char=0)) == (!decide (x1.Ref=0))) then (
 some 4
 ) else (
 AN (gd ((decide (x1.Ref=0)) == true) (C8 x1.Char)) fun (r1:Bool)=>
 AN (
 if ((decide (x1.Ref=0)) && (!r1)) then (
 some ((decide (x1.Ref=0)) && (!r1))
 ) else (
 some ((!decide (x1.Ref=0)) && ((decide (x1.Ref<1)) || (decide (1073741824<x1.Ref))))
 )
 ) fun (x2:Bool)=>
 if x2 then (
 some 2
 ) else (
 AN (DR x1.Attrs) fun (r2:Int)=>
 some r2
 )
 )
noncomputable def El (c1:Int):Option (Bool):=
 AN (gd (((decide (c1=9)) || (decide (c1=10))) == false) (DD c1 32 126)) fun (r1:Bool)=>
 AN (gd ((((decide (c1=9)) || (decide (c1=10))) || r1) == false) (DD c1 160 55295)) fun (r2:Bool)=>
 AN (gd (((((decide (c1=9)) || (decide (c1=10))) || r1) || r2) == false) (DD c1 57344 1114111)) fun (r3:Bool)=>
 some (((((decide (c1=9)) || (decide (c1=10))) || r1) || r2) || r3)
noncomputable def Fu (a1:List AK) (b1:List AK) (x2:Int):Option (Int ⊕ (A5 Unit Bool)):=
 if (decide (x2<(a1.length:Int))) then (
 AN (Ab a1 x2) fun (x4:AK)=>
 AN (Ab b1 x2) fun (x5:AK)=>
 if (!(decide (x4.Name=x5.Name) && (decide (x4.Value=x5.Value) && true))) then (
 some (.inr (.ext false))
 ) else (
 AN (Aj .i64 (x2+1)) fun (x6:Int)=>
 some (.inl x6)
 )
 ) else (
 some (.inr (.nrm ()))
 )
noncomputable def G6 (a1:List AK) (b1:List AK):Option (Bool):=
 if (!decide ((a1.length:Int)=(b1.length:Int))) then (
 some false
 ) else (
 BJ (iter (fun (a:Int)=>Fu a1 b1 a) 0) fun (u2:Unit)=>
 some true
 )
structure I4 where
 Adds:List (List AE)
 Cuts:List Bool
 Attrs:List (List AK)
deriving DecidableEq
instance:Inhabited I4:=⟨⟨[],[],[]⟩⟩
structure KJ where
 steps:List Ep
 used:Int
deriving DecidableEq
instance:Inhabited KJ:=⟨⟨[],0⟩⟩
structure JI where
 out:List Ep
 add:List AE
 cut:Int
deriving DecidableEq
instance:Inhabited JI:=⟨⟨[],[],0⟩⟩
noncomputable def Fa (name1:List UInt8):Option ((List AK)):=
 some [(AK.mk name1 [111,110])]
noncomputable def ES (f1:List AE) (text1:Bool) (x2:Int):Option (Int ⊕ (A5 Unit Int)):=
 if (decide (x2<(f1.length:Int))) then (
 AN (Ab f1 x2) fun (x6:AE)=>
 AN (EG x6) fun (e1:Int)=>
 if (!decide (e1=0)) then (
 some (.inr (.ext e1))
 ) else (
 if ((!text1) && (decide (x6.Ref=0))) then (
 some (.inr (.ext 8))
 ) else (
 AN (Aj .i64 (x2+1)) fun (x7:Int)=>
 some (.inl x7)
 )
 )
 ) else (
 some (.inr (.nrm ()))
 )
noncomputable def EI (f1:List AE) (text1:Bool):Option (Int):=
 BJ (iter (fun (a:Int)=>ES f1 text1 a) 0) fun (u2:Unit)=>
 AN (gd ((text1 == true) && ((decide ((f1.length:Int)=0)) == false)) (Aj .i64 ((f1.length:Int)-1))) fun (x4:Int)=>
 AN (gd ((text1 == true) && ((decide ((f1.length:Int)=0)) == false)) (Ab f1 x4)) fun (x5:AE)=>
 if (text1 && ((decide ((f1.length:Int)=0)) || (!decide (x5.Char=10)))) then (
 some 11
 ) else (
 some 0
 )
structure Cp where
 lo:Int
 hi:Int
deriving DecidableEq
instance:Inhabited Cp:=⟨⟨0,0⟩⟩
@[reducible] def Cp.row (x:Cp):List RV:=[.int .u8 x.lo,.int .u8 x.hi]
noncomputable def GI:List Cp:=GW.map fun p=>Cp.mk p.1 p.2
noncomputable def F4 (s1:List UInt8):Option (Int × Int):=
 if (decide ((s1.length:Int)<1)) then (
 some (65533,0)
 ) else (
 AN (Ab s1 0) fun (s01:UInt8)=>
 AN (Ab D8 (s01.toNat:Int)) fun (x1:Int)=>
 if (decide (240≤x1)) then (
 some ((Ca .i32 (Gc .i32 (IntKind.i32.wrap (s01.toNat:Int)) (C4 .i32 (Bv .i32 (IntKind.i32.wrap x1) 31) 31)) (A9 .i32 65533 (C4 .i32 (Bv .i32 (IntKind.i32.wrap x1) 31) 31))),1)
 ) else (
 AN (Ab GI (C4 .u8 x1 4)) fun (x2:Cp)=>
 if (decide ((s1.length:Int)<(IntKind.i64.wrap (A9 .u8 x1 7)))) then (
 some (65533,1)
 ) else (
 AN (Ab s1 1) fun (s11:UInt8)=>
 if ((decide ((s11.toNat:Int)<x2.lo)) || (decide (x2.hi<(s11.toNat:Int)))) then (
 some (65533,1)
 ) else (
 if (decide ((IntKind.i64.wrap (A9 .u8 x1 7))≤2)) then (
 some ((Ca .i32 (Bv .i32 (IntKind.i32.wrap (A9 .u8 (s01.toNat:Int) 31)) 6) (IntKind.i32.wrap (A9 .u8 (s11.toNat:Int) 63))),2)
 ) else (
 AN (Ab s1 2) fun (s21:UInt8)=>
 if ((decide ((s21.toNat:Int)<128)) || (decide (191<(s21.toNat:Int)))) then (
 some (65533,1)
 ) else (
 if (decide ((IntKind.i64.wrap (A9 .u8 x1 7))≤3)) then (
 some ((Ca .i32 (Ca .i32 (Bv .i32 (IntKind.i32.wrap (A9 .u8 (s01.toNat:Int) 15)) 12) (Bv .i32 (IntKind.i32.wrap (A9 .u8 (s11.toNat:Int) 63)) 6)) (IntKind.i32.wrap (A9 .u8 (s21.toNat:Int) 63))),3)
 ) else (
 AN (Ab s1 3) fun (s31:UInt8)=>
 if ((decide ((s31.toNat:Int)<128)) || (decide (191<(s31.toNat:Int)))) then (
 some (65533,1)
 ) else (
 some ((Ca .i32 (Ca .i32 (Ca .i32 (Bv .i32 (IntKind.i32.wrap (A9 .u8 (s01.toNat:Int) 7)) 18) (Bv .i32 (IntKind.i32.wrap (A9 .u8 (s11.toNat:Int) 63)) 12)) (Bv .i32 (IntKind.i32.wrap (A9 .u8 (s21.toNat:Int) 63)) 6)) (IntKind.i32.wrap (A9 .u8 (s31.toNat:Int) 63))),4)
 )
 )
 )
 )
 )
 )
 )
 )
noncomputable def Ee (s1:List UInt8):Option (Int × Int):=
 AN (gd ((!decide (s1=[])) == true) (Ab s1 0)) fun (ch1:UInt8)=>
 if ((!decide (s1=[])) && (decide ((ch1.toNat:Int)<128))) then (
 AN (Ab s1 0) fun (ch2:UInt8)=>
 some ((IntKind.i32.wrap (ch2.toNat:Int)),1)
 ) else (
 CY (F4 s1) fun (r1:Int) (r2:Int)=>
 some (r1,r2)
 )
noncomputable def Bs (attrs1:List AK) (s3:List UInt8) (out2:List AE):Option (((List UInt8) × (List AE)) ⊕ (A5 (List AE) ((List AE) × Int))):=
 if (!decide (s3=[])) then (
 CY (Ee s3) fun (r1:Int) (r2:Int)=>
 if ((decide (r1=65533)) && (decide (r2=1))) then (
 some (.inr (.ext ([],10)))
 ) else (
 AN (C8 (IntKind.i64.wrap r1)) fun (r3:Bool)=>
 if (!r3) then (
 some (.inr (.ext ([],2)))
 ) else (
 AN (BR 32 [] attrs1) fun (l1:List AK)=>
 AN (BR 40 out2 [(AE.mk (IntKind.i64.wrap r1) 0 l1)]) fun (out5:List AE)=>
 AN (FG s3 r2 (s3.length:Int)) fun (s5:List UInt8)=>
 some (.inl (s5,out5))
 )
 )
 ) else (
 some (.inr (.nrm out2))
 )
noncomputable def EA (s1:List UInt8) (attrs1:List AK):Option ((List AE) × Int):=
 AN (DR attrs1) fun (e1:Int)=>
 if (!decide (e1=0)) then (
 some ([],e1)
 ) else (
 BJ (iter (fun (a:(List UInt8) × (List AE))=>Bs attrs1 a.1 a.2) (s1,[])) fun (out4:List AE)=>
 some (out4,0)
 )
noncomputable def ER:Option (Bool):=
 AN (Fa [98,111,108,100]) fun (r1:List AK)=>
 CY (EA [97,98] r1) fun (r2:List AE) (r3:Int)=>
 AN (gd (((decide (r3=0)) && (decide ((r2.length:Int)=2))) == true) (Ab r2 1)) fun (x1:AE)=>
 AN (gd ((((decide (r3=0)) && (decide ((r2.length:Int)=2))) && (decide (x1.Char=98))) == true) (Ab r2 0)) fun (x2:AE)=>
 AN (gd ((((decide (r3=0)) && (decide ((r2.length:Int)=2))) && (decide (x1.Char=98))) == true) (C5 x2.Attrs r1)) fun (r5:Bool)=>
 AN (gd (((((decide (r3=0)) && (decide ((r2.length:Int)=2))) && (decide (x1.Char=98))) && r5) == true) (EI [] true)) fun (r6:Int)=>
 some (((((decide (r3=0)) && (decide ((r2.length:Int)=2))) && (decide (x1.Char=98))) && r5) && (decide (r6=11)))
noncomputable def FW (f1:List AE):Option ((List AE)):=
 some f1
noncomputable def Bw (A1:List (List RV)→Option Bool) (c1:List AE) (from2:Int) (x2:Int) (ys3:List (List RV)):Option ((Int × Int × (List (List RV))) ⊕ (A5 Unit (List (List RV)))):=
 if (decide (x2<(c1.length:Int))) then (
 C1 (
 AN (Ab c1 x2) fun (x5:AE)=>
 if ((!decide (x5.Char=10)) || (!decide (x5.Ref=0))) then (
 some (.nrm (from2,ys3))
 ) else (
 AN (Aj .i64 (x2+1)) fun (x6:Int)=>
 AN (A1 (ys3++[[.int .i64 from2,.int .i64 x6]])) fun (c2:Bool)=>
 if (!c2) then (
 some (.ext (.inr (.ext (ys3++[[.int .i64 from2,.int .i64 x6]]))))
 ) else (
 some (.nrm (x6,(ys3++[[.int .i64 from2,.int .i64 x6]])))
 )
 )
 ) fun (from4:Int) (ys5:List (List RV))=>
 AN (Aj .i64 (x2+1)) fun (x4:Int)=>
 some (.inl (from4,x4,ys5))
 ) else (
 some (.inr (.ext ys3))
 )
noncomputable def DW (A1:List (List RV)→Option Bool) (ys1:List (List RV)) (c1:List AE):Option ((List (List RV))):=
 BJ (iter (fun (a:Int × Int × (List (List RV)))=>Bw A1 c1 a.1 a.2.1 a.2.2) (0,0,ys1)) fun (u2:Unit)=>
 none
noncomputable def Ex (f1:List AE):Option ((List AE)):=
 some f1
noncomputable def Dl (n1:Int):Option (Bool):=
 FL n1
noncomputable def DS (n1:Int):Option (Bool):=
 Eo n1
noncomputable def CX (A1:List (List RV)→Option Bool) (c1:List AE) (x1:Int) (from2:Int) (x3:Int) (ys3:List (List RV)):Option ((Int × Int × (List (List RV))) ⊕ (A5 Unit (List (List RV)))):=
 if (decide (x3<x1)) then (
 C1 (
 AN (gd ((decide (x3<(c1.length:Int))) == true) (Ab c1 x3)) fun (x6:AE)=>
 AN (gd (((decide (x3<(c1.length:Int))) && (decide (x6.Ref=0))) == true) (Ab c1 x3)) fun (x7:AE)=>
 AN (gd (((decide (x3<(c1.length:Int))) && (decide (x6.Ref=0))) == true) (C8 x7.Char)) fun (r1:Bool)=>
 AN (gd ((((decide (x3<(c1.length:Int))) && (decide (x6.Ref=0))) && r1) == true) (Ab c1 x3)) fun (x8:AE)=>
 AN (gd ((((decide (x3<(c1.length:Int))) && (decide (x6.Ref=0))) && r1) == true) (Dl (IntKind.i32.wrap x8.Char))) fun (r2:Bool)=>
 AN (gd (((((decide (x3<(c1.length:Int))) && (decide (x6.Ref=0))) && r1) == true) && (r2 == false)) (DS (IntKind.i32.wrap x8.Char))) fun (r3:Bool)=>
 if (((((decide (x3<(c1.length:Int))) && (decide (x6.Ref=0))) && r1) && (r2 || r3)) && (decide (from2<0))) then (
 some (.nrm (x3,ys3))
 ) else (
 if ((!((((decide (x3<(c1.length:Int))) && (decide (x6.Ref=0))) && r1) && (r2 || r3))) && (decide (0≤from2))) then (
 AN (A1 (ys3++[[.int .i64 from2,.int .i64 x3]])) fun (c2:Bool)=>
 if (!c2) then (
 some (.ext (.inr (.ext (ys3++[[.int .i64 from2,.int .i64 x3]]))))
 ) else (
 some (.nrm ((-1),(ys3++[[.int .i64 from2,.int .i64 x3]])))
 )
 ) else (
 some (.nrm (from2,ys3))
 )
 )
 ) fun (from4:Int) (ys5:List (List RV))=>
 AN (Aj .i64 (x3+1)) fun (x5:Int)=>
 some (.inl (from4,x5,ys5))
 ) else (
 some (.inr (.ext ys3))
 )
noncomputable def Dr (A1:List (List RV)→Option Bool) (ys1:List (List RV)) (c1:List AE):Option ((List (List RV))):=
 AN (Aj .i64 ((c1.length:Int)+1)) fun (x1:Int)=>
 BJ (iter (fun (a:Int × Int × (List (List RV)))=>CX A1 c1 x1 a.1 a.2.1 a.2.2) ((-1),0,ys1)) fun (u2:Unit)=>
 none
noncomputable def CT (f1:List AE) (n2:Int) (was2:Bool) (x2:Int):Option ((Int × Bool × Int) ⊕ Int):=
 if (decide (x2<(f1.length:Int))) then (
 AN (Ab f1 x2) fun (x4:AE)=>
 AN (gd ((decide (x4.Ref=0)) == true) (Dl (IntKind.i32.wrap x4.Char))) fun (r1:Bool)=>
 AN (gd (((decide (x4.Ref=0)) == true) && (r1 == false)) (DS (IntKind.i32.wrap x4.Char))) fun (r2:Bool)=>
 AN (
 if (((decide (x4.Ref=0)) && (r1 || r2)) && (!was2)) then (
 AN (Aj .i64 (n2+1)) fun (n6:Int)=>
 some n6
 ) else (
 some n2
 )
 ) fun (n5:Int)=>
 AN (Aj .i64 (x2+1)) fun (x5:Int)=>
 some (.inl (n5,((decide (x4.Ref=0)) && (r1 || r2)),x5))
 ) else (
 some (.inr n2)
 )
noncomputable def EC (f1:List AE):Option (Int):=
 AN (iter (fun (a:Int × Bool × Int)=>CT f1 a.1 a.2.1 a.2.2) (0,false,0)) fun (n4:Int)=>
 some n4
noncomputable def Co (x1:AE):Option (Bool):=
 AN (El x1.Char) fun (r1:Bool)=>
 AN (
 if (r1 == true) then (
 AN (EC [x1]) fun (r2:Int)=>
 some (r1 && (decide (r2=1)))
 ) else (
 some (r1 && false)
 )
 ) fun (x2:Bool)=>
 some x2
noncomputable def Cu (a1:List Int) (from1:Int) (to1:Int):Option (List Int):=
 AN (BR 8 a1 [from1,to1]) fun (l1:List Int)=>
 some l1
noncomputable def Cz (b1:List Int) (from2:Int) (to2:Int):Option (List Int):=
 AN (BR 8 b1 [from2,to2]) fun (l2:List Int)=>
 some l2
noncomputable def CO (f1:List AE) (k2:Int):Option (Int ⊕ Int):=
 AN (gd ((decide (k2<(f1.length:Int))) == true) (Ab f1 k2)) fun (x11:AE)=>
 AN (gd ((decide (k2<(f1.length:Int))) == true) (Co x11)) fun (r6:Bool)=>
 if ((decide (k2<(f1.length:Int))) && r6) then (
 AN (Aj .i64 (k2+1)) fun (k5:Int)=>
 some (.inl k5)
 ) else (
 some (.inr k2)
 )
noncomputable def CU (f1:List AE) (x5:Int) (d2:List Int):Option ((Int × (List Int)) ⊕ (List Int)):=
 if (decide (x5<(f1.length:Int))) then (
 AN (
 AN (Ab f1 x5) fun (x8:AE)=>
 AN (Co x8) fun (r4:Bool)=>
 AN (gd (((!r4) == false) && ((decide (0<x5)) == true)) (Aj .i64 (x5-1))) fun (x9:Int)=>
 AN (gd (((!r4) == false) && ((decide (0<x5)) == true)) (Ab f1 x9)) fun (x10:AE)=>
 AN (gd (((!r4) == false) && ((decide (0<x5)) == true)) (Co x10)) fun (r5:Bool)=>
 if ((!r4) || ((decide (0<x5)) && r5)) then (
 some d2
 ) else (
 AN (iter (fun (a:Int)=>CO f1 a) x5) fun (k4:Int)=>
 AN (BR 8 d2 [x5,k4]) fun (d6:List Int)=>
 some d6
 )
 ) fun (d5:List Int)=>
 AN (Aj .i64 (x5+1)) fun (x7:Int)=>
 some (.inl (x7,d5))
 ) else (
 some (.inr d2)
 )
noncomputable def Bx (f1:List AE) (from4:Int) (x2:Int) (c2:List Int):Option ((Int × Int × (List Int)) ⊕ (List Int)):=
 if (decide (x2<(f1.length:Int))) then (
 CY (
 AN (Ab f1 x2) fun (x13:AE)=>
 if ((decide (x13.Char=10)) && (decide (x13.Ref=0))) then (
 AN (Aj .i64 (x2+1)) fun (x14:Int)=>
 AN (BR 8 c2 [from4,x14]) fun (c6:List Int)=>
 some (x14,c6)
 ) else (
 some (from4,c2)
 )
 ) fun (from6:Int) (c5:List Int)=>
 AN (Aj .i64 (x2+1)) fun (x12:Int)=>
 some (.inl (from6,x12,c5))
 ) else (
 some (.inr c2)
 )
noncomputable def E0 (f1:List AE):Option (Bool):=
 AN (ER) fun (r1:Bool)=>
 if (!r1) then (
 some false
 ) else (
 AN (FW f1) fun (w1:List AE)=>
 AN (rng2 (fun A=>DW A [] w1) (fun (a:(List Int))=>Cu a) []) fun (a2:List Int)=>
 AN (Ex f1) fun (w2:List AE)=>
 AN (rng2 (fun A=>Dr A [] w2) (fun (a:(List Int))=>Cz a) []) fun (b2:List Int)=>
 AN (iter (fun (a:Int × Int × (List Int))=>Bx f1 a.1 a.2.1 a.2.2) (0,0,[])) fun (c4:List Int)=>
 AN (iter (fun (a:Int × (List Int))=>CU f1 a.1 a.2) (0,[])) fun (d4:List Int)=>
 AN (Ds a2 c4) fun (r2:Bool)=>
 AN (gd (r2 == true) (Ds b2 d4)) fun (r3:Bool)=>
 some (r2 && r3)
 )
end Go.Proofs.YtmbjbecccheclaaDoor.Al
