/- Plain laws over the models, a part of them. -/
import Derived.Test.YtmogkkigacadpaaGreatDoorPL1
set_option linter.all false
set_option linter.unusedVariables false
set_option linter.unusedSimpArgs false
namespace Go.Proofs.YtmogkkigacadpaaGreatDoor.Al
open Go
theorem Xc{d:AN}(h:IF d)(l:ET d=some 0):0<d.Nodes.length∧d.Nodes[0]!.ID=1:=by
 obtain⟨-,m⟩:=Nu h l
 unfold ET at l
 split at l
 ·cases l
 rename_i w
 have j:0<d.Nodes.length:=by
  rcases rH d.Nodes.length with h | h
  ·exact absurd (nh (show((d.Nodes.length:Int))=0 by omega)) w
  ·exact h
 refine⟨j,?_⟩
 by_cases BJ:d.Nodes[0]!.ID=1
 ·exact BJ
 exfalso
 have q:iter (λ(a:Int)=>C0 d a) 0=some (.ext 5):=by
  refine BM ?_
  have e0:=m 0 j
  show C0 d ((0:Nat):Int)=_
  unfold C0
  rw[ne (by simpa using j),Ag j,AD,e0,AD,nd (by decide),nh (show((0:Nat):Int)=0 from rfl),ng (show ¬ (0:Int)<((0:Nat):Int) by omega),ng BJ]
  rfl
 rw[q] at l
 cases l
theorem Rf{d:AN}(h:Dd d):DP d 1:=by
 obtain⟨l,m⟩:=Xc h.ok h.ch
 unfold DP
 cases j:CJ d.Nodes 1 with
 | some k=>exact⟨k,rfl⟩
 | none=>
  exfalso
  unfold CJ at j
  rw[rG] at j
  exact j 0 (oL.2 l) (by simpa using m)
noncomputable def Bl(d:AN):List Ab:=CZ d (d.Nodes.length+1) [] ⟨1,0,true⟩
theorem Ui(d:AN):Dk d []<d.Nodes.length+1:=Nat.lt_succ_of_le (List.countP_le_length ..)
theorem Sk{σ:Type}(Y:σ→Ab→Option (Bool × σ)){d:AN}(h:Dd d){s s'}{b}(l:CX Y (Bl d) s=some (b,s')):∃j,gN Y d (d.Nodes.length+1) [] s ⟨1,0,true⟩=some (b,j,s'):=by
 obtain⟨new,m,_,w⟩:=km Y h (d.Nodes.length+1) [] ⟨1,0,true⟩ [] s (Rf h) (Ui d) (λi=>rfl)
 have:Bl d=new:=by unfold Bl;rw[m,og]
 rw[this] at l
 obtain⟨j,q,_⟩:=w b s' l
 exact⟨j,q⟩
section
variable{σ:Type}(Y:σ→Ab→Option (Bool × σ)){d:AN}
theorem UB{v:Ab}{self j:JG σ}(C:∀m s w r,self m s w=some r→j m s w=some r){l:List Int}{x:Int}{m:List (Int × Bool)}{s:σ}{r}(h:EE v self l x m s=some r):EE v j l x m s=some r:=by
 unfold EE at h ⊢
 split at h
 ·rename_i q
  rw[ne q]
  cases B:AM l x with
  | none=>rw[B] at h;cases h
  | some y=>
   rw[B,AD] at h
   rw[AD]
   cases A:self m s ⟨y,v.id,v.visible⟩ with
   | none=>rw[A] at h;cases h
   | some p=>rw[A] at h;rw[C _ _ _ _ A];exact h
 ·rename_i q
  rw[nd q];exact h
theorem eO{v:Ab}{self j:JG σ}(E:∀m s w r,self m s w=some r→j m s w=some r){n:AX}{x:Int}{m:List (Int × Bool)}{s:σ}{r}(h:Dv v self n x m s=some r):Dv v j n x m s=some r:=by
 unfold Dv at h ⊢
 split at h
 ·rename_i l
  rw[ne l]
  cases C:AM n.Grid.Cells x with
  | none=>rw[C] at h;cases h
  | some c=>
   rw[C,AD] at h
   rw[AD]
   cases hg:Fs n.Grid c.Row c.Col with
   | none=>rw[hg] at h;cases h
   | some q=>
    rw[hg,AD] at h
    rw[AD]
    split at h
    ·rename_i A
     rw[ne A]
     cases B:self m s ⟨c.Ref,v.id,((v.visible&&(q.Row=c.Row))&&(q.Col=c.Col))⟩ with
     | none=>rw[B] at h;cases h
     | some p=>rw[B] at h;rw[E _ _ _ _ B];exact h
    ·rename_i A
     rw[nd A];exact h
 ·rename_i l
  rw[nd l];exact h
theorem eL{self j}(B:∀m s w r,self m s w=some r→j m s w=some r){m}{s}{v:Ab}{r}(h:gB Y d self m s v=some r):gB Y d j m s v=some r:=by
 unfold gB at h ⊢
 split at h
 ·rename_i C
  rw[ne C];exact h
 ·rename_i C
  rw[nd C]
  cases M:Y s v with
  | none=>rw[M] at h;cases h
  | some p=>
   rw[M,Bv] at h
   rw[Bv]
   split at h
   ·rename_i E
    rw[ne E];exact h
   ·rename_i E
    rw[nd E]
    cases O:FB d v.id with
    | none=>rw[O] at h;cases h
    | some q=>
     rw[O,Bv] at h
     rw[Bv]
     cases T:AM d.Nodes q.1 with
     | none=>rw[T] at h;cases h
     | some n=>
      rw[T,AD] at h
      rw[AD]
      cases U:HU n.Flow with
      | none=>rw[U] at h;cases h
      | some l=>
       rw[U,AD] at h
       rw[AD]
       cases F:iter (λ(a:Int × (List (Int × Bool)) × σ)=>EE v self l a.1 a.2.1 a.2.2) (0,(Ai m v.id true),p.2) with
       | none=>rw[F] at h;cases h
       | some c1=>
        rw[F] at h
        rw[Ix (g:=λ(a:Int × (List (Int × Bool)) × σ)=>EE v j l a.1 a.2.1 a.2.2) (λs v A=>UB B A) F]
        cases c1 with
        | ext e=>exact h
        | nrm t=>
         change D2 (iter (λ(a:Int × (List (Int × Bool)) × σ)=>Dv v self n a.1 a.2.1 a.2.2) (0,t.1,t.2)) _=_ at h
         show D2 (iter (λ(a:Int × (List (Int × Bool)) × σ)=>Dv v j n a.1 a.2.1 a.2.2) (0,t.1,t.2)) _=_
         cases I:iter (λ(a:Int × (List (Int × Bool)) × σ)=>Dv v self n a.1 a.2.1 a.2.2) (0,t.1,t.2) with
         | none=>rw[I] at h;cases h
         | some c2=>
          rw[I] at h
          rw[Ix (g:=λ(a:Int × (List (Int × Bool)) × σ)=>Dv v j n a.1 a.2.1 a.2.2) (λs v A=>eO B A) I]
          cases c2 with
          | ext e=>exact h
          | nrm V=>
           change AC (FA d n) _=_ at h
           show AC (FA d n) _=_
           cases X:FA d n with
           | none=>rw[X] at h;cases h
           | some Z=>
            rw[X,AD] at h
            rw[AD]
            cases J:iter (λ(a:Int × (List (Int × Bool)) × σ)=>EE v self Z a.1 a.2.1 a.2.2) (0,V.1,V.2) with
            | none=>rw[J] at h;cases h
            | some c3=>
             rw[J] at h
             rw[Ix (g:=λ(a:Int × (List (Int × Bool)) × σ)=>EE v j Z a.1 a.2.1 a.2.2) (λs v A=>UB B A) J]
             exact h
theorem S1:∀(n:Nat) (m:List (Int × Bool)) (s:σ) (v:Ab) r,gN Y d n m s v=some r→gN Y d (n+1) m s v=some r:=by
 intro n
 induction n with
 | zero=>intro m s v r h;cases h
 | succ n j=>intro m s v r h;exact eL Y j h
end
theorem TP j d:∀(n:Nat) m ys v,G0 n j m ys d v=gN (λys v=>Gb j ys v) d n m ys v:=by
 intro n
 induction n with
 | zero=>intro m ys v;rfl
 | succ n q=>
  intro m ys v
  have e:gN (λys v=>Gb j ys v) d n=λm ys v=>G0 n j m ys d v:=by
   funext m ys v;exact(q m ys v).symm
  show Pm (λj w l A v1=>G0 n j w l A v1) j m ys d v=gB (λys v=>Gb j ys v) d (gN (λys v=>Gb j ys v) d n) m ys v
  rw[e]
  rfl
theorem Wi d:∀(n:Nat) m ys v,Gz n m ys d v=gN (λys v=>Hc ys v) d n m ys v:=by
 intro n
 induction n with
 | zero=>intro m ys v;rfl
 | succ n l=>
  intro m ys v
  have e:gN (λys v=>Hc ys v) d n=λm ys v=>Gz n m ys d v:=by
   funext m ys v;exact(l m ys v).symm
  show P5 (λq j w v1=>Gz n q j w v1) m ys d v=gB (λys v=>Hc ys v) d (gN (λys v=>Hc ys v) d n) m ys v
  rw[e]
  rfl
theorem Vx id d:∀(n:Nat) m ys v,Gt n m id ys d v=gN (λys v=>FJ id ys v) d n m ys v:=by
 intro n
 induction n with
 | zero=>intro m ys v;rfl
 | succ n l=>
  intro m ys v
  have e:gN (λys v=>FJ id ys v) d n=λm ys v=>Gt n m id ys d v:=by
   funext m ys v;exact(l m ys v).symm
  show O5 (λq w j A v1=>Gt n q w j A v1) m id ys d v=gB (λys v=>FJ id ys v) d (gN (λys v=>FJ id ys v) d n) m ys v
  rw[e]
  rfl
theorem dR{l}{d}(h:Dd d){ys j}{b}(q:CX (λys v=>Gb l ys v) (Bl d) ys=some (b,j)):MF l ys d=some j:=by
 obtain⟨A,w⟩:=Sk _ h q
 unfold MF PB
 rw[Kx (N:=λn=>G0 n l [] ys d ⟨1,0,true⟩) (λn r m=>by rw[TP] at m ⊢;exact S1 _ n _ _ _ r m) (by rw[TP];exact w),FX]
theorem Y4{d}(h:Dd d){ys j}{b}(m:CX (λys v=>Hc ys v) (Bl d) ys=some (b,j)):MD ys d=some j:=by
 obtain⟨w,q⟩:=Sk _ h m
 unfold MD Qd
 rw[Kx (N:=λn=>Gz n [] ys d ⟨1,0,true⟩) (λn r l=>by rw[Wi] at l ⊢;exact S1 _ n _ _ _ r l) (by rw[Wi];exact q),FX]
theorem mT{id}{d}(h:Dd d){ys j}{b}(m:CX (λys v=>FJ id ys v) (Bl d) ys=some (b,j)):M1 id ys d=some j:=by
 obtain⟨w,q⟩:=Sk _ h m
 unfold M1 PP
 rw[Kx (N:=λn=>Gt n [] id ys d ⟨1,0,true⟩) (λn r l=>by rw[Vx] at l ⊢;exact S1 _ n _ _ _ r l) (by rw[Vx];exact q),FX]
def Ig(d:List Ab)(id:Int):Bool:=match d.find? λv=>decide (v.id=id) with | some v=>v.visible | none=>false
theorem Vg{d}(h:Dd d) id:G6 d id=some (Ig (Bl d) id):=by
 have key:∀l:List Ab,∃b,CX (λq v=>FJ id q v) l false=some (b,Ig l id):=by
  intro l
  induction l with
  | nil=>exact⟨true,rfl⟩
  | cons v r w=>
   by_cases j:v.id=id
   ·refine⟨false,?_⟩
    have:FJ id false v=some (false,v.visible):=by unfold FJ;rw[nh j];rfl
    simp only[CX,this]
    unfold Ig
    rw[List.find?_cons_of_pos (by simpa using j)]
   ·obtain⟨b,m⟩:=w
    refine⟨b,?_⟩
    have:FJ id false v=some (true,false):=by unfold FJ;rw[ng j];rfl
    simp only[CX,this,m]
    unfold Ig
    rw[List.find?_cons_of_neg (by simpa using j)]
 obtain⟨b,m⟩:=key (Bl d)
 unfold G6
 rw[h.ch,AD,nd (by decide),mT h m,AD]
theorem iS l:∀m:List (Int × Bool),∃j,CX (λys v=>Hc ys v) l m=some (true,j)∧∀i,Ce j i=(Ce m i||Bd l i):=by
 induction l with
 | nil=>intro m;exact⟨m,rfl,λi=>by simp[Bd]⟩
 | cons v r q=>
  intro m
  obtain⟨j,w,A⟩:=q (Ai m v.id true)
  refine⟨j,?_,λi=>?_⟩
  ·simp only[CX]
   exact w
  ·rw[A,MY]
   unfold Bd
   rw[qI]
   have:decide (v.id=i)=decide (i=v.id):=by rw[pv];exact⟨λe=>e.symm,λe=>e.symm⟩
   rw[this]
   cases decide (i=v.id)<;>cases Ce m i<;>rfl
noncomputable def OB(d:AN):List Int:=(d.Nodes.filter λn=>!Bd (Bl d) n.ID).map (·.ID)
theorem eJ{d:AN}(h:Dd d):JN d=some (OB d,0):=by
 obtain⟨j,w,A⟩:=iS (Bl d) []
 have E:=h.ok.1
 unfold JN
 rw[h.ch,AD,nd (by decide),Y4 h w,AD]
 have hit:=Fi (f:=λ(a:Int × (List Int))=>Hb d j a.1 a.2) d.Nodes (λ(c:List Int) i=>((i:Int),c)) (λr c=>c++(r.filter λn=>!Bd (Bl d) n.ID).map (·.ID)) (λi c=>c.length≤i)
  (λi c m B=>by
   left
   show ∃F,Hb d j (i:Int) c=_∧_
   unfold Hb
   have C:(AR j d.Nodes[i]!.ID).getD false=Bd (Bl d) d.Nodes[i]!.ID:=by
    have:=A d.Nodes[i]!.ID
    unfold Ce at this
    rw[this];rfl
   rw[ne (by simpa using m),Ag m,AD,Aq (by omega),C]
   cases q:Bd (Bl d) d.Nodes[i]!.ID with
   | true=>
    refine⟨c,rfl,by omega,?_⟩
    rw[pW,q];rfl
   | false=>
    refine⟨c++[d.Nodes[i]!.ID],by rw[ne (by decide),J7 (by omega)];rfl,by simp;omega,?_⟩
    rw[pW,q];simp)
  (λc B=>by
   show Hb d j (d.Nodes.length:Int) c=_
   unfold Hb
   rw[nd (by simp)]
   simp) [] (by simp) ((0:Int),[]) rfl
 have l:iter (λ(a:Int × (List Int))=>Hb d j a.1 a.2) (0,[])=_:=hit
 rw[l,AD]
 rfl
def Fu(v:Ab):List RV:=[.int .i64 v.id,.int .i64 v.parent]
theorem Z3{σ:Type}(F:σ→List RV→Option σ) a b(j:σ){r}(h:EM F (a++b) j=some r):∃m,EM F a j=some m:=by
 induction a generalizing j with
 | nil=>exact⟨j,rfl⟩
 | cons y a q=>
  rw[pD] at h
  simp only[EM] at h ⊢
  cases l:F j y with
  | none=>rw[l] at h;cases h
  | some s=>rw[l,oR] at h;rw[oR];exact q s h
theorem cH{σ:Type}(F:σ→List RV→Option σ)(j:σ):∀(l:List Ab) (ys:List (List RV)) {r:σ},EM F (ys++l.map Fu) j=some r→CX (λys v=>Gb (Fj F j) ys v) l ys=some (true,ys++l.map Fu):=by
 intro l
 induction l with
 | nil=>intro ys r _;simp[CX]
 | cons v l q=>
  intro ys r h
  have e:ys++(v::l).map Fu=(ys++[Fu v])++l.map Fu:=by simp
  rw[e] at h ⊢
  obtain⟨w,m⟩:=Z3 F (ys++[Fu v]) _ j h
  have:Gb (Fj F j) ys v=some (true,ys++[Fu v]):=by
   unfold Gb
   show AC (Fj F j (ys++[Fu v])) _=_
   unfold Fj
   rw[m];rfl
  simp only[CX,this]
  exact q _ h
theorem jB{σ:Type}{d}(h:Dd d)(F:σ→Int→Int→Option σ)(j:σ){r}(l:EM (λs=>m2 (F s)) ((Bl d).map Fu) j=some r):rng2 (λA=>FN A [] d) F j=some r:=by
 have m:=cH (λs=>m2 (F s)) j (Bl d) [] (r:=r) (by rw[og];exact l)
 rw[og] at m
 have q:FN (Fj (λs=>m2 (F s)) j) [] d=some ((Bl d).map Fu):=by
  unfold FN
  rw[h.ch,AD,nd (by decide),dR h m,AD]
 show(FN (Fj (λs=>m2 (F s)) j) [] d).bind _=_
 rw[q,oR]
 exact l
end Go.Proofs.YtmogkkigacadpaaGreatDoor.Al

set_option linter.unusedVariables false
set_option linter.unusedSimpArgs false
namespace Go.Proofs.YtmogkkigacadpaaGreatDoor.Al
open Go
def BD(v:Ab):Ac:=⟨v.id,v.parent,v.visible⟩
def Gd(d:AN)(j:List Ab):Prop:=(j.Pairwise λa b=>a.id≠b.id)∧∀w∈j,DP d w.id
theorem jq:∀(l A:List Int),l.Pairwise (· ≠ ·)→(∀z∈l,z∈A)→l.length≤A.length:=by
 intro l
 induction l with
 | nil=>intro A _ _;exact pM _
 | cons a r w=>
  intro A hp j
  rw[px] at hp
  have m:=j a (oE ..)
  have:=w (A.erase a) hp.2 λz q=>(List.mem_erase_of_ne (λe=>hp.1 z q e.symm)).2 (j z (ny _ q))
  rw[List.length_erase_of_mem m] at this
  have:0<A.length:=List.length_pos_of_mem m
  simp;omega
theorem Gd.len{d:AN}{j:List Ab}(h:Gd d j):j.length≤d.Nodes.length:=by
 have:=jq (j.map (·.id)) (d.Nodes.map (·.ID)) (by rw[qN];exact h.1) (λz l=>by
  obtain⟨w,m,rfl⟩:=oh.1 l
  obtain⟨k,q⟩:=h.2 w m
  obtain⟨A,B⟩:=Fq q
  exact oh.2 ⟨d.Nodes[k]!,B5 A,B⟩)
 simpa using this
theorem Gd.snoc{d}{j}(h:Gd d j){v:Ab}(m:DP d v.id)(q:Bd j v.id=false):Gd d (j++[v]):=by
 refine⟨List.pairwise_append.2 ⟨h.1,by simp,λa A b B e=>?_⟩,λw l=>?_⟩
 ·obtain rfl:=pi.1 B
  have:Bd j b.id=true:=by unfold Bd;rw[pV];exact⟨a,A,by simpa using e⟩
  rw[q] at this;cases this
 ·rcases pJ.1 l with l | l
  ·exact h.2 w l
  ·obtain rfl:=pi.1 l;exact m
theorem WK{d}(h:Dd d):∀(n:Nat) (j:List Ab) (v:Ab),DP d v.id→Gd d j→Gd d (CZ d n j v)∧Dk d (CZ d n j v)≤Dk d j:=by
 intro n
 induction n with
 | zero=>intro j v _ hg;exact⟨hg,nk _⟩
 | succ n E=>
  intro j v B hg
  unfold CZ
  split
  ·exact⟨hg,nk _⟩
  ·rename_i l
   have l:Bd j v.id=false:=by simpa using l
   have F:=RW h B
   have key:∀(ks:List Ab) (a:List Ab),(∀w∈ks,DP d w.id)→Gd d a→Gd d (ks.foldl (λa w=>CZ d n a w) a)∧Dk d (ks.foldl (λa w=>CZ d n a w) a)≤Dk d a:=by
    intro ks
    induction ks with
    | nil=>intro a _ m;exact⟨m,nk _⟩
    | cons w r q=>
     intro a C m
     obtain⟨A,g2⟩:=E a w (C w (oE ..)) m
     obtain⟨g3,g4⟩:=q (CZ d n a w) (λz I=>C z (ny _ I)) A
     exact⟨g3,by rw[pK];omega⟩
   obtain⟨A,g2⟩:=key _ (j++[v]) F (hg.snoc B l)
   exact⟨A,nu g2 (UT d j [v])⟩
theorem Ux(l:List Ab) id(B:l.length≤1048576):∃r,KO (l.map BD) id=some r∧decide (0≤r)=Bd l id:=by
 unfold KO
 have h:=Bu (f:=λ(a:Int)=>Kp (l.map BD) id a) (n:=l.length) (λk=>if l[k]!.id=id then some (k:Int) else none) (λk j=>by
  have q:k<(l.map BD).length:=by simpa using j
  unfold Kp
  rw[ne (by simpa using j),ED q,AD,rV]
  show(if decide ((BD l[k]).ID=id)=true then _ else _)=_
  rw[nv l k j]
  by_cases h:l[k].id=id
  ·rw[ne (by rw[ni];exact h),ne h];rfl
  ·rw[nd (by rw[ni];exact h),nd h,Aq (by omega)];rfl) (by unfold Kp;rw[nd (by simp)])
 rw[h]
 cases w:(List.range l.length).findSome? λ(k:Nat)=>if l[k]!.id=id then some (k:Int) else none with
 | none=>
  refine⟨-1,rfl,?_⟩
  rw[pI] at w
  have:Bd l id=false:=by
   unfold Bd
   rw[rR]
   intro v A
   obtain⟨k,j,rfl⟩:=ov.1 A
   have:=w k (oL.2 j)
   rw[nv l k j] at this
   split at this
   ·cases this
   ·rename_i h;simpa using h
  rw[this];rfl
 | some r=>
  obtain⟨k,j,m⟩:=ow w
  have j:=oL.1 j
  rw[nv l k j] at m
  split at m
  ·rename_i h
   cases m
   refine⟨(k:Int),rfl,?_⟩
   have:Bd l id=true:=by
    unfold Bd
    rw[pV]
    exact⟨l[k],oO j,by simpa using h⟩
   rw[this];simp
  ·cases m
noncomputable def Mk(v:Ab)(g:A5)(r:List Am):List Ab:=(r.filter λc=>!(c.Ref=0)).map (G2 v g)
theorem Tr v g(x:Am) r:Mk v g (x::r)=(if x.Ref=0 then [] else [G2 v g x])++Mk v g r:=by
 unfold Mk
 rw[pW]
 by_cases h:x.Ref=0<;>simp[h]
def jm(d:AN)(n:Nat):Prop:=∀(j:List Ab) (v:Ab),DP d v.id→Dk d j<n→Gd d j→CH n (j.map BD) d (BD v)=some ((CZ d n j v).map BD)
theorem Ym{d:AN}(h:Dd d):∀n,jm d n:=by
 intro n
 induction n with
 | zero=>intro A v _ hu;omega
 | succ n IH=>
  intro A v hv hu hg
  have hm:=h.ok.1
  have av:=hg.len
  show In (λm F B=>CH n m F B) (A.map BD) d (BD v)=_
  unfold In
  obtain⟨r,r1,r2⟩:=Ux A v.id (by omega)
  rw[show(BD v).ID=v.id from rfl,r1,AD,r2]
  by_cases hs:Bd A v.id=true
  ·rw[ne hs]
   unfold CZ
   rw[ne hs]
  ·rw[nd hs]
   have a7:Bd A v.id=false:=by simpa using hs
   have aw:=TT hv a7
   have a8:=hg.snoc hv a7
   obtain⟨U,ai,aa,ab,ax,ac⟩:=h.node hv
   obtain⟨kk,a0⟩:=hv
   have a1:IL d v.id=some (kk:Int):=by rw[Sf d v.id hm,a0]
   have ad:AM d.Nodes (kk:Int)=some (B9 d v.id):=by rw[a0] at ac;exact ac
   have ae:app 24 (A.map BD) [BD v]=some ((A++[v]).map BD):=by
    unfold app
    rw[ne ⟨by simp;omega,by simp;omega⟩]
    simp
   rw[ae,AD,a1,AD,ad,AD]
   have hR:CZ d (n+1) A v=(kids d v (B9 d v.id)).foldl (λa w=>CZ d n a w) (A++[v]):=by
    conv=>lhs;unfold CZ
    rw[nd hs]
   rw[hR]
   unfold kids
   rw[List.foldl_append,List.foldl_append]
   have O:=RW h ⟨kk,a0⟩
   unfold kids at O
   generalize hN:B9 d v.id=N at *
   have C:∀(a:List Ab) (w:Ab),DP d w.id→Dk d a<n→Gd d a→CH n (a.map BD) d (BD w)=some ((CZ d n a w).map BD)∧Dk d (CZ d n a w)<n∧Gd d (CZ d n a w):=λa w V ha af=>by
    obtain⟨g1,g2⟩:=WK h n a w V af
    exact⟨IH a w V ha af,by omega,g1⟩
   have ay:=U.ok.fl
   have az:=U.ok.gr.1
   have w1:=Fi (f:=λ(a:Int × (List Ac))=>FL d (BD v) (λm F B=>CH n m F B) N a.1 a.2) N.Flow (λ(c:List Ab) i=>((i:Int),c.map BD))
    (λr c=>(((Cc r).map λid=>(⟨id,v.id,v.visible⟩:Ab)).foldl (λa w=>CZ d n a w) c).map BD) (λi c=>(Dk d c<n∧Gd d c)∧∀x∈N.Flow,x.Ref≠0→DP d x.Ref)
    (λi c I ⟨⟨Z,c2⟩,c3⟩=>by
     left
     show ∃c',FL d (BD v) _ N (i:Int) (c.map BD)=_∧_
     unfold FL
     rw[ne (by simpa using I),Ag I,AD,Aq (by omega)]
     by_cases E:N.Flow[i]!.Ref=0
     ·refine⟨c,by rw[nh E];rfl,⟨⟨Z,c2⟩,c3⟩,?_⟩
      rw[Ok,ne E,og]
     ·obtain⟨B,s2,s3⟩:=C c ⟨N.Flow[i]!.Ref,v.id,v.visible⟩ (c3 _ (B5 I) E) Z c2
      refine⟨_,?_,⟨⟨s2,s3⟩,c3⟩,?_⟩
      ·rw[ng E,ne (by decide)]
       show AC (AC (CH n (c.map BD) d (BD ⟨N.Flow[i]!.Ref,v.id,v.visible⟩)) _) _=_
       rw[B];rfl
      ·rw[Ok,nd E];rfl)
    (λc _=>by
     show FL d (BD v) _ N (N.Flow.length:Int) (c.map BD)=_
     unfold FL
     rw[nd (by simp)]
     rfl) (A++[v]) ⟨⟨by omega,a8⟩,λx J E=>ab x.Ref (pm _ (by unfold Cc;exact oh.2 ⟨x,po.2 ⟨J,by simpa using E⟩,rfl⟩))⟩ ((0:Int),(A++[v]).map BD) rfl
   have aj:iter (λ(a:Int × (List Ac))=>FL d (BD v) (λm F B=>CH n m F B) N a.1 a.2) (0,(A++[v]).map BD)=_:=w1
   rw[aj,AD]
   have T:∀(ks:List Ab) (a:List Ab),(∀w∈ks,DP d w.id)→Dk d a<n→Gd d a→Dk d (ks.foldl (λa w=>CZ d n a w) a)<n∧Gd d (ks.foldl (λa w=>CZ d n a w) a):=by
    intro ks
    induction ks with
    | nil=>intro a _ h1 h2;exact⟨h1,h2⟩
    | cons w r ak=>
     intro a V h1 h2
     obtain⟨_,s2,s3⟩:=C a w (V w (oE ..)) h1 h2
     exact ak _ (λz hz=>V z (ny _ hz)) s2 s3
   have al:(Cc N.Flow).map (λid=>(⟨id,v.id,v.visible⟩:Ab))=LY v N:=rfl
   rw[al]
   obtain⟨b1,b2⟩:=T (LY v N) (A++[v]) (λw V=>O w (pm _ V)) (by omega) a8
   generalize (LY v N).foldl (λa w=>CZ d n a w) (A++[v])=A1 at *
   have ag:=RD U aa
   have w2:=Fi (f:=λ(a:Int × (List Ac))=>Fb d (BD v) (λm F B=>CH n m F B) N a.1 a.2) N.Grid.Cells (λ(c:List Ab) i=>((i:Int),c.map BD))
    (λ(r:List Am) (c:List Ab)=>((Mk v N.Grid r).foldl (λa w=>CZ d n a w) c).map BD) (λi c=>(Dk d c<n∧Gd d c)∧∀x∈N.Grid.Cells,x.Ref≠0→DP d x.Ref)
    (λi c I ⟨⟨Z,c2⟩,c3⟩=>by
     left
     show ∃c',Fb d (BD v) _ N (i:Int) (c.map BD)=_∧_
     unfold Fb
     rw[ne (by simpa using I),Ag I,AD,Aq (by omega)]
     obtain⟨q,q1,q2⟩:=ag _ (B5 I)
     by_cases E:N.Grid.Cells[i]!.Ref=0
     ·refine⟨c,by rw[nh E];rfl,⟨⟨Z,c2⟩,c3⟩,?_⟩
      rw[Tr,ne E,og]
     ·have a2:G2 v N.Grid N.Grid.Cells[i]! = ⟨N.Grid.Cells[i]!.Ref,v.id,((v.visible&&(q.Row=N.Grid.Cells[i]!.Row))&&(q.Col=N.Grid.Cells[i]!.Col))⟩:=by unfold G2;rw[q1]
      obtain⟨B,s2,s3⟩:=C c (G2 v N.Grid N.Grid.Cells[i]!) (by rw[a2];exact c3 _ (B5 I) E) Z c2
      refine⟨_,?_,⟨⟨s2,s3⟩,c3⟩,?_⟩
      ·rw[ng E,ne (by decide),q2,AD]
       rw[a2] at B
       show AC (AC (CH n (c.map BD) d (BD ⟨N.Grid.Cells[i]!.Ref,v.id,((v.visible&&(q.Row=N.Grid.Cells[i]!.Row))&&(q.Col=N.Grid.Cells[i]!.Col))⟩)) _) _=_
       rw[B,a2];rfl
      ·rw[Tr,nd E];rfl)
    (λc _=>by
     show Fb d (BD v) _ N (N.Grid.Cells.length:Int) (c.map BD)=_
     unfold Fb
     rw[nd (by simp)]
     rfl) A1 ⟨⟨b1,b2⟩,λx J E=>ab x.Ref (p6 _ (by unfold Ej;exact oh.2 ⟨x,po.2 ⟨J,by simpa using E⟩,rfl⟩))⟩ ((0:Int),A1.map BD) rfl
   have an:iter (λ(a:Int × (List Ac))=>Fb d (BD v) (λm F B=>CH n m F B) N a.1 a.2) (0,A1.map BD)=_:=w2
   rw[an,AD]
   have ao:Mk v N.Grid N.Grid.Cells=JL v N:=rfl
   rw[ao]
   obtain⟨b3,b4⟩:=T (JL v N) A1 (λw V=>O w (p6 _ (pm _ V))) b1 b2
   generalize (JL v N).foldl (λa w=>CZ d n a w) A1=A2 at *
   obtain⟨L,X,t1,t2,t3,t4⟩:=RL h.ids h.ok.1 h.srt U ai aa
   have aq:Gs d N=L.filterMap (D9 d):=by unfold Gs;rw[t1];rfl
   rw[t2,Bv]
   have a6:∀x id,D9 d x=some id→DP d id:=λx id J=>by
    unfold D9 I5 at J
    cases M:CJ d.Nodes (D7 (E8 x.Attrs HX)) with
    | none=>rw[M] at J;cases J
    | some j=>
     rw[M] at J
     simp only at J
     split at J
     ·cases J;exact⟨j,M⟩
     ·cases J
   have w3:=Fi (f:=λ(a:Int × (List Ac))=>FK d (BD v) (λm F B=>CH n m F B) (L++X) (L.length:Int) a.1 a.2) L (λ(c:List Ab) i=>((i:Int),c.map BD))
    (λr c=>(((r.filterMap (D9 d)).map λid=>(⟨id,v.id,v.visible⟩:Ab)).foldl (λa w=>CZ d n a w) c).map BD) (λi c=>Dk d c<n∧Gd d c)
    (λi c I ⟨Z,c2⟩=>by
     left
     have ar:i<(L++X).length:=by simp;omega
     have hget:(L++X)[i]=L[i]!:=by rw[List.getElem_append_left I,nv L i I]
     show ∃c',FK d (BD v) _ (L++X) (L.length:Int) (i:Int) (c.map BD)=_∧_
     unfold FK
     have b0:=t4 _ (B5 I)
     rw[ne (by simpa using I),ED ar,AD,hget,Aq (by simp at t3;omega),lX _ _ (by omega),AD,jl,AD,Sf _ _ hm,AD]
     rw[show([110,111,100,101]:List UInt8)=HX from rfl]
     cases l:D9 d L[i]! with
     | none=>
      refine⟨c,?_,⟨Z,c2⟩,by rw[rD,l]⟩
      unfold D9 I5 at l
      generalize D7 (E8 L[i]!.Attrs HX)=id at *
      cases M:CJ d.Nodes id with
      | none=>simp[Cs,AD]
      | some j=>
       rw[M] at l
       obtain⟨hj,_⟩:=Fq M
       obtain⟨f1,f2⟩:=Oe h.ids M
       simp only at l ⊢
       rw[nh (show 0<id by omega),nh (show(0:Int)≤(j:Int) by omega)]
       simp only[qo,oq,Ap,oS]
       rw[Ag hj,AD]
       split at l
       ·cases l
       ·rename_i hk
        rw[nd (by simpa using hk)]
        rfl
     | some id=>
      obtain⟨B,s2,s3⟩:=C c ⟨id,v.id,v.visible⟩ (a6 _ _ l) Z c2
      refine⟨_,?_,⟨s2,s3⟩,by rw[rD,l];rfl⟩
      unfold D9 I5 at l
      generalize D7 (E8 L[i]!.Attrs HX)=ah at *
      cases M:CJ d.Nodes ah with
      | none=>rw[M] at l;cases l
      | some j=>
       rw[M] at l
       obtain⟨hj,_⟩:=Fq M
       obtain⟨f1,f2⟩:=Oe h.ids M
       simp only at l ⊢
       rw[nh (show 0<ah by omega),nh (show(0:Int)≤(j:Int) by omega)]
       simp only[qo,oq,Ap,oS]
       rw[Ag hj,AD]
       split at l
       ·rename_i hk
        cases l
        rw[ne (by simpa using hk)]
        show AC (AC (CH n (c.map BD) d (BD ⟨id,v.id,v.visible⟩)) _) _=_
        rw[B];rfl
       ·cases l)
    (λc _=>by
     show FK d (BD v) _ (L++X) (L.length:Int) (L.length:Int) (c.map BD)=_
     unfold FK
     rw[nd (by simp)]
     rfl) A2 ⟨b3,b4⟩ ((0:Int),A2.map BD) rfl
   have au:iter (λ(a:Int × (List Ac))=>FK d (BD v) (λm F B=>CH n m F B) (L++X) (L.length:Int) a.1 a.2) (0,A2.map BD)=_:=w3
   rw[au,AD]
   unfold MV
   rw[aq]
theorem iD:∀(n:Nat) (o:List Ac) (d:AN) (s:Ac) r,CH n o d s=some r→CH (n+1) o d s=some r:=by
 intro n
 induction n with
 | zero=>intro o d s r h;cases h
 | succ n U=>
  intro o d s r h
  change In (λj l m=>CH n j l m) o d s=some r at h
  show In (λj l m=>CH (n+1) j l m) o d s=some r
  have m1:∀(N:AX) (A:Int × List Ac) v,FL d s (λj l m=>CH n j l m) N A.1 A.2=some v→FL d s (λj l m=>CH (n+1) j l m) N A.1 A.2=some v:=λN A v h=>by
   unfold FL at h ⊢
   split at h
   ·rename_i C
    rw[ne C]
    obtain⟨y,B,F⟩:=BZ h
    obtain⟨x,V,I⟩:=BZ B
    rw[V,AD]
    split at I
    ·rename_i E
     rw[ne E]
     obtain⟨w,J,M⟩:=BZ I
     dsimp only
     rw[U _ _ _ _ J,AD,M,AD];exact F
    ·rename_i E
     rw[nd E,I,AD];exact F
   ·rename_i C
    rw[nd C];exact h
  have m2:∀(N:AX) (A:Int × List Ac) v,Fb d s (λj l m=>CH n j l m) N A.1 A.2=some v→Fb d s (λj l m=>CH (n+1) j l m) N A.1 A.2=some v:=λN A v h=>by
   unfold Fb at h ⊢
   split at h
   ·rename_i C
    rw[ne C]
    obtain⟨y,B,F⟩:=BZ h
    obtain⟨x,V,I⟩:=BZ B
    rw[V,AD]
    split at I
    ·rename_i E
     rw[ne E]
     obtain⟨q,h7,h8⟩:=BZ I
     obtain⟨w,J,M⟩:=BZ h8
     rw[h7,AD]
     dsimp only
     rw[U _ _ _ _ J,AD,M,AD];exact F
    ·rename_i E
     rw[nd E,I,AD];exact F
   ·rename_i C
    rw[nd C];exact h
  have m3:∀(X:List AB) (Z:Int) (A:Int × List Ac) v,FK d s (λj l m=>CH n j l m) X Z A.1 A.2=some v→FK d s (λj l m=>CH (n+1) j l m) X Z A.1 A.2=some v:=λX Z A v h=>by
   unfold FK at h ⊢
   split at h
   ·rename_i C
    rw[ne C]
    obtain⟨y,B,F⟩:=BZ h
    obtain⟨x1,a1,B⟩:=BZ B
    obtain⟨x2,a2,B⟩:=BZ B
    obtain⟨x3,a3,B⟩:=BZ B
    obtain⟨T,a4,B⟩:=BZ B
    obtain⟨x5,a5,B⟩:=BZ B
    rw[a1,AD,a2,AD,a3,AD,a4,AD,a5,AD]
    split at B
    ·rename_i E
     rw[ne E]
     obtain⟨w,J,M⟩:=BZ B
     dsimp only
     rw[U _ _ _ _ J,AD,M,AD];exact F
    ·rename_i E
     rw[nd E,B,AD];exact F
   ·rename_i C
    rw[nd C];exact h
  unfold In at h ⊢
  obtain⟨x1,a1,h⟩:=BZ h
  rw[a1,AD]
  split at h
  ·rename_i C
   rw[ne C];exact h
  ·rename_i C
   rw[nd C]
   obtain⟨x2,a2,h⟩:=BZ h
   obtain⟨x3,a3,h⟩:=BZ h
   obtain⟨T,a4,h⟩:=BZ h
   obtain⟨x5,a5,h⟩:=BZ h
   obtain⟨x6,a6,h⟩:=BZ h
   rw[a2,AD,a3,AD,a4,AD,Ix (g:=λ(a:Int × (List Ac))=>FL d s (λj l m=>CH (n+1) j l m) T a.1 a.2) (λs v O=>m1 _ s v O) a5,AD,
    Ix (g:=λ(a:Int × (List Ac))=>Fb d s (λj l m=>CH (n+1) j l m) T a.1 a.2) (λs v O=>m2 _ s v O) a6,AD]
   cases hI:Jy T.Draw with
   | none=>rw[hI] at h;cases h
   | some p=>
    rw[hI,Bv] at h
    rw[Bv]
    obtain⟨x7,a7,h⟩:=BZ h
    rw[Ix (g:=λ(a:Int × (List Ac))=>FK d s (λj l m=>CH (n+1) j l m) p.1 p.2 a.1 a.2) (λs v O=>m3 _ _ s v O) a7,AD]
    exact h
theorem gL{d:AN}(h:Dd d):Ni d=some ((Bl d).map BD):=by
 have j:=Ym h (d.Nodes.length+1) [] ⟨1,0,true⟩ (Rf h) (Ui d) ⟨List.Pairwise.nil,λw l=>by cases l⟩
 unfold Ni QY
 rw[Kx (N:=λn=>CH n [] d ⟨1,0,true⟩) (λn r m=>iD n _ _ _ r m) j,AD]
 rfl
theorem Wu{d}(h:Dd d):Gd d (Bl d):=(WK h _ [] _ (Rf h) ⟨List.Pairwise.nil,λw j=>by cases j⟩).1
end Go.Proofs.YtmogkkigacadpaaGreatDoor.Al

set_option linter.unusedVariables false
set_option linter.unusedSimpArgs false
namespace Go.Proofs.YtmogkkigacadpaaGreatDoor.Al
open Go
theorem fq{d}(h:IF d):Me d=some d:=by
 obtain⟨l⟩:=d
 obtain⟨C,A⟩:=h
 dsimp only at C A
 unfold Me
 have w:mk 152 (l.length:Int) (AX.mk 0 0 [] [] (A5.mk 0 0 [] []) [])=some (List.replicate l.length (AX.mk 0 0 [] [] (A5.mk 0 0 [] []) [])):=by
  unfold mk
  rw[ne ⟨by omega,by omega,by omega⟩,pH]
 dsimp only
 rw[w,AD]
 have key:∀j k,k+j=l.length→iter (λ(a:Int × AN)=>Hh ⟨l⟩ a.1 a.2) ((k:Int),⟨l.take k++List.replicate j (AX.mk 0 0 [] [] (A5.mk 0 0 [] []) [])⟩)=some ⟨l⟩:=by
  intro j
  induction j with
  | zero=>
   intro k E
   refine BM ?_
   show Hh ⟨l⟩ (k:Int) _=_
   unfold Hh
   rw[nd (by simp;omega),qL (by omega)]
   simp
  | succ j F=>
   intro k E
   have m:k<l.length:=by omega
   rw[Br (s':=(((k+1:Nat):Int),⟨l.take (k+1)++List.replicate j (AX.mk 0 0 [] [] (A5.mk 0 0 [] []) [])⟩)) (by
    show Hh ⟨l⟩ (k:Int) _=_
    unfold Hh
    have B:(l.take k++List.replicate (j+1) (AX.mk 0 0 [] [] (A5.mk 0 0 [] []) [])).length=l.length:=by simp;omega
    dsimp only
    rw[ne (by simpa using m),Ag m,AD,YO _ (A _ (B5 m)).ok,AD,Ag (by omega),AD,Aq (by omega),AD,pH]
    congr 4
    rw[Mb m,oo,qy _ _ (by simp;omega),pL,Nat.min_eq_left (by omega),rX]
    rfl)]
   exact F (k+1) (by omega)
 have:=key l.length 0 (by omega)
 rw[List.take_zero,og] at this
 have q:iter (λ(a:Int × AN)=>Hh ⟨l⟩ a.1 a.2) (0,⟨List.replicate l.length (AX.mk 0 0 [] [] (A5.mk 0 0 [] []) [])⟩)=_:=this
 rw[q,AD]
def GR(l:List Ab):List Int:=l.flatMap λv=>[v.id,v.parent]
theorem TV{o:List Int}{x y}(h:o.length≤4194304):app 8 o [x,y]=some (o++[x,y]):=by
 unfold app
 rw[ne ⟨by simp;omega,by simp;omega⟩]
theorem lr(l:List Ab):(GR l).length=2 * l.length:=by
 induction l with
 | nil=>rfl
 | cons v r j=>unfold GR at *;rw[o6,oW,j];simp;omega
theorem aO:∀(l:List Ab) (o:List Int),o.length+2 * l.length≤4194304→EM (λs=>m2 (G7 s)) (l.map Fu) o=some (o++GR l):=by
 intro l
 induction l with
 | nil=>intro o _;simp[EM,GR]
 | cons v r j=>
  intro o h
  rw[oN]
  simp only[oY] at h
  have:m2 (G7 o) (Fu v)=some (o++[v.id,v.parent]):=by
   show G7 o v.id v.parent=_
   unfold G7
   rw[TV (by omega),AD]
  simp only[EM,this,oR]
  rw[j _ (by simp;omega)]
  unfold GR
  rw[o6,oo]
theorem lu{l:List Ab}(hp:l.Pairwise λa b=>a.id≠b.id){k}(m:k<l.length):Ig l l[k].id=l[k].visible:=by
 unfold Ig
 have:l.find? (λv=>decide (v.id=l[k].id))=some l[k]:=by
  induction l generalizing k with
  | nil=>simp at m
  | cons v r q=>
   rw[px] at hp
   cases k with
   | zero=>rw[List.find?_cons_of_pos (by simp)];rfl
   | succ k=>
    have j:k<r.length:=by simpa using m
    rw[List.getElem_cons_succ,List.find?_cons_of_neg (by simpa using hp.1 _ (oO j))]
    exact q hp.2 j
 rw[this]
theorem mJ{l:List Ab}{id}(h:Bd l id=false):Ig l id=false:=by
 unfold Ig
 have:l.find? (λv=>decide (v.id=id))=none:=by
  rw[rG]
  intro v j
  unfold Bd at h
  rw[rR] at h
  exact h v j
 rw[this]
theorem iW(d:AN)(h:IF d)(hd:∀n∈d.Nodes,Iw n.Draw):QN d=some true:=by
 have U:=h.1
 obtain⟨e,w,V⟩:=gR d h
 unfold QN Pj
 rw[l7,AD,nd (by decide),fq h,AD,AD,V]
 by_cases m:e=0
 ·subst m
  have hg:Dd d:=⟨h,hd,w⟩
  have X:=(Wu hg).len
  have B:=(Wu hg).1
  have M:=aO (Bl d) [] (by simp;omega)
  rw[og] at M
  have j:rng2 (λA=>FN A [] d) (λ(a:(List Int))=>G7 a) []=some (GR (Bl d)):=jB hg G7 [] M
  rw[j,AD,eJ hg,Bv,AD,nd (by decide),gL hg,AD]
  have Z:=Fi (f:=λ(a:Int × (List Int))=>Hv d ((Bl d).map BD) a.1 a.2) (Bl d) (λ(c:List Int) i=>((i:Int),c)) (λr c=>(.nrm (c++GR r):Ar (List Int) Bool)) (λi c=>c.length≤2 * i)
   (λi c l C=>by
    left
    have E:i<((Bl d).map BD).length:=by simpa using l
    show ∃F,Hv d ((Bl d).map BD) (i:Int) c=_∧_
    unfold Hv
    rw[ne (by simpa using l),ED E,AD,rV,TV (by omega),AD]
    show ∃F,(AC (G6 d (Bl d)[i].id) _)=_∧_
    rw[Vg hg,AD,lu B l]
    show ∃F,(if(!((Bl d)[i].visible==(Bl d)[i].visible))=true then _ else _)=_∧_
    rw[nd (by simp),Aq (by omega),AD]
    refine⟨c++[(Bl d)[i].id,(Bl d)[i].parent],rfl,by simp;omega,?_⟩
    rw[nv (Bl d) i l]
    unfold GR
    rw[o6,oo])
   (λc C=>by
    show Hv d ((Bl d).map BD) ((Bl d).length:Int) c=_
    unfold Hv
    rw[nd (by simp)]
    simp[GR]) [] (by simp) ((0:Int),[]) rfl
  have I:iter (λ(a:Int × (List Int))=>Hv d ((Bl d).map BD) a.1 a.2) (0,[])=_:=Z
  rw[I,og]
  simp only[OD]
  have w2:=Fi (f:=λ(a:Int × (List Int))=>Hg d ((Bl d).map BD) a.1 a.2) d.Nodes (λ(c:List Int) i=>((i:Int),c)) (λr c=>(.nrm (c++(r.filter λn=>!Bd (Bl d) n.ID).map (·.ID)):Ar (List Int) Bool)) (λi c=>c.length≤i)
   (λi c l C=>by
    left
    show ∃F,Hg d ((Bl d).map BD) (i:Int) c=_∧_
    unfold Hg
    obtain⟨r,r1,O⟩:=Ux (Bl d) d.Nodes[i]!.ID (by omega)
    rw[ne (by simpa using l),Ag l,AD,r1,AD]
    cases q:Bd (Bl d) d.Nodes[i]!.ID with
    | true=>
     rw[q,ni] at O
     rw[nd (by simp;omega),Aq (by omega)]
     refine⟨c,rfl,by omega,?_⟩
     rw[pW,q];rfl
    | false=>
     rw[q,ol] at O
     rw[ne (by simp;omega),J7 (by omega),AD,Vg hg,AD,mJ q,nd (by decide),Aq (by omega)]
     refine⟨c++[d.Nodes[i]!.ID],rfl,by simp;omega,?_⟩
     rw[pW,q];simp)
   (λc C=>by
    show Hg d ((Bl d).map BD) (d.Nodes.length:Int) c=_
    unfold Hg
    rw[nd (by simp)]
    simp) [] (by simp) ((0:Int),[]) rfl
  have J:iter (λ(a:Int × (List Int))=>Hg d ((Bl d).map BD) a.1 a.2) (0,[])=_:=w2
  rw[J,og]
  simp only[OD]
  have a0:(OB d).length≤1048576:=by unfold OB;rw[oK];exact nu (pA ..) U
  rw[VK _ _ (by rw[lr];omega)]
  show(AC (gd (decide ((0:Int)=0)==true) (some (decide (GR (Bl d)=GR (Bl d))))) λ(T:Bool)=>AC (gd ((((0:Int)=0)&&T)==true) (KJ (OB d) (OB d))) λ(r6:Bool)=>some ((((0:Int)=0)&&T)&&r6))=some true
  rw[VK _ _ (by omega)]
  simp[Ap,AD]
 ·have j:rng2 (λA=>FN A [] d) (λ(a:(List Int))=>G7 a) []=some []:=by
   have:∀A,FN A [] d=some []:=λA=>by
    unfold FN
    rw[w,AD,ne (by simpa using m)]
   show(FN _ [] d).bind _=_
   rw[this];rfl
  have hL:JN d=some ([],e):=by
   unfold JN
   rw[w,AD,ne (by simpa using m)]
  have hV:G6 d 1=some false:=by
   unfold G6
   rw[w,AD,ne (by simpa using m)]
  rw[j,AD,hL,Bv,AD,ne (by simpa using m),hV]
  simp only[qm,oq,Ap,qJ]
  rw[CM (by omega) (by omega)]
  simp[Ap,AD]
end Go.Proofs.YtmogkkigacadpaaGreatDoor.Al

namespace Go.Proofs.YtmogkkigacadpaaGreatDoor.Al
theorem jI{μ}{δ}(j:∀n,(n.Draw.map δ).sum+1≤μ n)(hd:∀o,o.Place.length+o.Name.length+o.Value.length+1≤δ o){d:AN}(m:(d.Nodes.map μ).sum≤1048576):∀n∈d.Nodes,Iw n.Draw:=by
 intro n l
 have q:=IE (μ:=μ) l
 have w:=j n
 exact(ln hd n.Draw (by omega)).1
end Go.Proofs.YtmogkkigacadpaaGreatDoor.Al
