/- The program logic, a part of it. -/
import Derived.Test.YtelkfhdgmbahgaaAl1
import Derived.Below
import Derived.Calls
import Derived.Laws.BytesString
import Derived.Laws.RangeString
import Derived.OrdersHeld
import Derived.OrdersIn
import Derived.RowKit
import Derived.Shelf.SlSortCmp.NoneTotal
import Derived.Shelf.Slices.In.SortNone
import Derived.Shelf.Sort.Plain
import Derived.Test.YtelkfhdgmbahgaaProg
namespace Go.Proofs.Ytelkfhdgmbahgaa.Al
open Go.ChangeMaps (setBlock)
open Go.MapKept Go.RowKit
set_option linter.unusedVariables false
section
variable {P:Program} {ops:Array Oper} {rest:List Oper} {s:St} {K:St→Prop} {o:Oper}
def B7 (P:Program) (rs:List ResultVar) (K:AV→AM→Nat→Prop):Exit→St→Prop
 | .normal,s | .ret,s=>∃ r,GB P rs s r∧K r s.h s.n
 | _,_=>False
theorem TG {f:FuncId} {fn:Func} {code:Code} {args:List AV} {vs:Array Value} {h:AM} {n N:Nat} {z:Cx} {K:AV→AM→Nat→Prop} (hf:P.funcs[f]? = some fn) (hb:fn.body=some code) (hN:fn.ntmps=N)
  (hlen:args.length≤N) (hok:z.ok) (hH:z.H=hget h) (hn:z.n=n) (hargs:FK z args vs.toList) (hw:AW P code (B7 P fn.results.toList K) ⟨DS 0 args,h,n,N⟩) :
  Calls P f vs z.w fun e w'=>∃ u y r h' n',e = .returned u∧y.w=w'∧z.le y∧y.ok∧y.H=hget h'∧y.n=n'∧AL y r u∧K r h' n':=by
 have hvl:vs.size=args.length:=by simpa using hargs.1
 have hsim:DT z ⟨DS 0 args,h,n,N⟩ { tmps:=vs++Array.replicate (fn.ntmps-vs.size) undef,defers:=[] } z.w:=by
  refine ⟨_,rfl,by simp; omega,z,rfl,.refl z,hok,hH,hn,fun t=>?_⟩
  rcases L5 args 0 t with h1 | ⟨j,a,h1,h2,h3⟩
  ·rw [h1]; exact .any _
  ·rw [h3]
   have hj:j<vs.size:=by rw [hvl]; exact (List.getElem?_eq_some_iff.1 h2).1
   have ht:t=j:=by omega
   subst ht
   have:(vs++Array.replicate (fn.ntmps-vs.size) undef).getD t undef=vs[t]:=by
    simp [Array.getD,hj]
    omega
   rw [this]
   exact hargs.2 t a vs[t] h2 (by simp [hj])
 have fin : ∀ {e:Exit} {a:Act} {y:Cx} {s:St},(∃ r,GB P fn.results.toList s r∧K r s.h s.n)→z.le y→y.ok→y.H=hget s.h→y.n=s.n→BF y s.e a →
   ∃ u,(results fn a.tmps).run P y.w = .ok u y.w ∧ ∃ u' y' r h' n',Ending.returned u = .returned u'∧y'.w=y.w∧z.le y'∧y'.ok∧y'.H=hget h'∧y'.n=n'∧AL y' r u'∧K r h' n':=by
  intro e a y s ⟨r,h1,h2⟩ hle hok' hH' hn' he
  obtain ⟨u,hrun,hu⟩:=Nf (P:=P) hok' hH' he h1
  exact ⟨u,hrun,u,y,r,s.h,s.n,rfl,rfl,hle,hok',hH',hn',hu,h2⟩
 refine Ml hf hb hok hsim (hw) fun e s a y hq hle hok' hH' hn' he=>?_
 cases e with
 | normal=>exact ⟨.inl rfl,fin (e:=.normal) hq hle hok' hH' hn' he⟩
 | ret=>exact ⟨.inr rfl,fin (e:=.ret) hq hle hok' hH' hn' he⟩
 | exit id=>exact hq.elim
 | goto l=>exact hq.elim
 | panic ch=>exact hq.elim
 | outgrown=>exact hq.elim
theorem Rd {f:FuncId} {fn:Func} {code:Code} {fo:Operand} {xs:Array Operand} {ats:Array TypeId} {caps bs:List AV} {R:AU} {h:AM} {n N:Nat} {a:Act} {z:Cx} {K0:AV→AM→Nat→Prop}
  (ho : o.op = .call { callee := .value fo, args := xs, argTypes := ats }) (hfo : Ev true R fo (.fn f caps)) (hx : Gt true R xs.toList bs) (hf : P.funcs[f]? = some fn) (hb : fn.body = some code) (hname : (fn.name == "runtime.NumGoroutine") = false)
  (hN:fn.ntmps=N) (hlen:(bs++caps).length≤N) (hok:z.ok) (hH:z.H=hget h) (hn:z.n=n) (he:BF z R a) (hw:AW P code (B7 P fn.results.toList K0) ⟨DS 0 (bs++caps),h,n,N⟩) (K:Act→World→Prop) (Q:Exit→Act→World→Prop)
  (hK : ∀ (u:Value) (y:Cx) (r:AV) (h':AM) (n':Nat),z.le y→y.ok→y.H=hget h'→y.n=n'→AL y r u→K0 r h' n'→K (a.put o.dst u) y.w):o.wp P a z.w K Q:=by
 obtain ⟨hxl,hxr⟩:=hx.rep rfl he
 have hv:=hfo.rep he rfl
 generalize hfv:a.eval fo=v at hv
 cases hv with
 | @fn _ _ us hl hall=>
  have hrun:=G4 (P:=P) ⟨fn,hf,by rw [hb]; rfl,hname⟩ ho hfv z.w
  have hargs:FK z (bs++caps) (xs.map a.eval++us).toList:=by
   refine ⟨by simp [hl]; simpa using hxl.symm,fun i b u h1 h2=>?_⟩
   have h2':((xs.toList.map a.eval)++us.toList)[i]? = some u:=by simpa using h2
   by_cases hi:i<bs.length
   ·rw [List.getElem?_append_left hi] at h1
    rw [List.getElem?_append_left (by simp at hxl ⊢; omega)] at h2'
    exact hxr i b u h1 h2'
   ·rw [List.getElem?_append_right (by omega)] at h1
    rw [List.getElem?_append_right (by simp at hxl ⊢; omega)] at h2'
    have hxl2:(xs.toList.map a.eval).length=bs.length:=by simpa using hxl.symm
    rw [hxl2] at h2'
    exact hall _ b u h1 (by simpa using h2')
  unfold Oper.wp
  rw [hrun]
  refine (TG hf hb hN hlen hok hH hn hargs hw).mono fun e w' ⟨u,y,r,h',n',he',hyw,hle,hyok,hyH,hyn,hyr,hk⟩=>?_
  subst he'
  subst hyw
  exact hK u y r h' n' hle hyok hyH hyn hyr hk
theorem VY {d:Nat} {f:FuncId} {fn:Func} {code:Code} {fo:Operand} {xs:Array Operand} {ats:Array TypeId} {N:Nat} (caps bs:List AV) (hg:o.guard=none) (hd:o.dst=some d) (hdN:Nat.blt d s.N=true)
  (ho : o.op = .call { callee := .value fo, args := xs, argTypes := ats }) (hfo : Ev true s.e fo (.fn f caps)) (hx : Gt true s.e xs.toList bs) (hf : P.funcs[f]? = some fn) (hb : fn.body = some code) (hname : (fn.name == "runtime.NumGoroutine") = false)
  (hN:fn.ntmps=N) (hlen:Nat.ble (bs++caps).length N=true)
  (hw:AW P code (B7 P fn.results.toList fun r h' n'=>AS P ops rest { e:=(d,r) :: s.e,h:=h',n:=n',N:=s.N } K) ⟨DS 0 (bs++caps),s.h,s.n,N⟩):AS P ops (o :: rest) s K:=by
 intro c0 a w ⟨_,hdef,hsz,y,hyw,hle,hok,hH,hn,he⟩ Q hQ
 subst hyw
 refine wpList_plain hg fun K' hK'=>?_
 refine Rd ho hfo hx hf hb hname hN (Nat.le_of_ble_eq_true hlen) hok hH hn he hw K' Q fun u z r h' n' hyz hzok hzH hzn hzv hr=>?_
 refine hK' _ _ ?_
 have hN':d<a.tmps.size:=by rw [hsz]; exact Bx hdN
 rw [hd]
 exact hr c0 (a.put (some d) u) z.w ⟨_,hdef,by simpa [Act.put] using hsz,z,rfl,hle.trans hyz,hzok,hzH,hzn,(he.mono hyz).put hN' hzv⟩ Q hQ
theorem B7.intro {rs:List ResultVar} {K:AV→AM→Nat→Prop} {s:St} (r:AV) (h1:GB P rs s r) (h2:K r s.h s.n):B7 P rs K .ret s:=⟨r,h1,h2⟩
def Bc (P:Program) (x:Code) (Q:Exit→St→Prop):Nat→St→Prop
 | 0,_=>False
 | n+1,s=>AW P x (EO (Bc P x Q n) Q) s
theorem Bc.step {Q:Exit→St→Prop} {x:Code} {n:Nat} (h:AW P x (EO (Bc P x Q n) Q) s):Bc P x Q (n+1) s:=h
theorem DP {Q:Exit→St→Prop} {x:Code} (n:Nat) (h:Bc P x Q n s):AW P (.loop x) Q s:=by
 refine AW.loop (fun m s=>Bc P x Q m s) n ⟨s,Af.refl s,h⟩ fun m s hm=>?_
 cases m with
 | zero=>exact hm.elim
 | succ m=>
  refine AW.mono (show AW P x (EO (Bc P x Q m) Q) s from hm) fun e s' hq=>?_
  cases e with
  | normal=>exact ⟨m,Nat.lt_succ_self m,s',Af.refl s',hq⟩
  | _=>exact hq
theorem La {x:Cx} (hok:x.ok) {id g mid mg since last:Nat} {seen:List Nat} {v:Value} (hH:x.H id=some (.mi g mid mg since seen last)) (hv:AL x (.ptr id g 0 0) v) :
  ∃ b m:Nat,x.β id=some (b,1)∧v = .pointer (some ⟨b,0,none⟩)∧x.w.heap[b]? = some (.mapIter (some m) since seen.toArray last)∧AL x (.mref mid mg) (.map (some m)):=by
 obtain ⟨_,b,m,h1,h2,h3⟩:=hok.obj _ _ hH
 cases hv with
 | ptr _ _ hv=>
  obtain ⟨b',cap,h5,h6⟩:=hv _ hH rfl
  rw [h1] at h5
  simp only [Option.some.injEq,Prod.mk.injEq] at h5
  obtain ⟨rfl,rfl⟩:=h5
  exact ⟨b,m,h1,by rw [h6,Nat.zero_mul],h2,h3⟩
section
variable {c:Bool} {R:AU} {h:AM} {n:Nat}
theorem QV {x:Operand} {id g mid mg since last clock k born:Nat} {ks:List (Int × Nat)} {vs:List AV} {seen:List Nat} (ho:o.op = .next x false) (hx:Ev c R x (.ptr id g 0 0)) (hh:hget h id=some (.mi g mid mg since seen last))
  (hm:hget h mid=some (.mp mg ks vs clock)) (hold:(ks.all fun p=>decide (p.2<since))=true) (hsc:Nat.ble since last=true) (hall:(ks.all fun p=>seen.contains p.2)=true) :
  A9 P c o R h n (.tup [.r (.bool false)]) h n:=by
 intro hc z w hok hH hn he K Q hK
 obtain ⟨b,m,h1,h2,h3,h4⟩:=La hok (by rw [hH]; exact hh) (hx.rep he hc)
 obtain ⟨bm,us,k1,k2,k3,k4,k5,k6⟩:=GK hok (by rw [hH]; exact hm) h4
 cases k2
 have hold' : ∀ e∈(Bt ks us).toArray.toList,e.born<since:=by
  intro e he'
  simp only [Bt,List.mem_map] at he'
  obtain ⟨p,hp,rfl⟩:=he'
  have:=List.all_eq_true.1 hold p.1 (List.of_mem_zip hp).1
  simpa using this
 have hleft:leftOf (Bt ks us).toArray seen.toArray = #[]:=by
  unfold leftOf
  rw [Array.filter_eq_empty_iff]
  intro e he'
  simp only [Bt,List.mem_toArray,List.mem_map] at he'
  obtain ⟨p,hp,rfl⟩:=he'
  have:=List.all_eq_true.1 hall p.1 (List.of_mem_zip hp).1
  simpa using this
 unfold Oper.wp execOp
 rw [ho]
 have hrun:(Instr.next (.pointer (some ⟨b,0,none⟩)) false o.type).run P z.w = .ok (.tuple #[.bool false]) z.w:=by
  rcases run_next_at (P:=P) z.w o.type b m since last seen.toArray _ clock h3 k5 hold' (Nat.le_of_ble_eq_true hsc) with ⟨_,h⟩ | ⟨e,he',_⟩
  ·exact h
  ·rw [hleft] at he'; simp at he'
 simp only [h2,Sem.run_bind,hrun,Result.andThen_ok,Sem.run_pure]
 refine hK (.tuple #[.bool false]) z (Cx.le.refl z) hok hH hn (.tup rfl fun i a u ha hu=>?_)
 rcases i with _ | i
 ·simp at ha hu; subst ha; subst hu; exact .r (.bool false)
 ·simp at ha
theorem Qc {x:Operand} {id g mid mg since last clock:Nat} {k:Int} {born:Nat} {v:AV} (ho:o.op = .next x false) (hx:Ev c R x (.ptr id g 0 0)) (hh:hget h id=some (.mi g mid mg since [] last))
  (hm:hget h mid=some (.mp mg [(k,born)] [v] clock)) (hold:Nat.blt born since=true) (hsc:Nat.ble since last=true) :
  A9 P c o R h n (.tup [.r (.bool true),.r (.int .i64 k),v]) ((id,some (.mi g mid mg since [born] clock)) :: h) n:=by
 intro hc z w hok hH hn he K Q hK
 have hHid:z.H id=some (.mi g mid mg since [] last):=by rw [hH]; exact hh
 obtain ⟨b,m,h1,h2,h3,h4⟩:=La hok hHid (hx.rep he hc)
 obtain ⟨bm,us,k1,k2,k3,k4,k5,k6⟩:=GK hok (by rw [hH]; exact hm) h4
 cases k2
 obtain ⟨u,rfl⟩:=List.length_eq_one_iff.1 k3
 have hb:=(hok.own id _ b 1 hHid h1).1
 have hrun : ∃ w1:World,(w1=z.w∨w1=z.w.drew)∧(Instr.next (.pointer (some ⟨b,0,none⟩)) false o.type).run P z.w = .ok (.tuple #[.bool true,.int .i64 k,u]) (setBlock w1 b (.mapIter (some m) since #[born] clock)):=by
  have hold' : ∀ e∈(Bt [(k,born)] [u]).toArray.toList,e.born<since:=by
   intro e he'
   simp [Bt] at he'
   subst he'
   exact Bx hold
  rcases run_next_at (P:=P) z.w o.type b m since last #[] _ clock h3 k5 hold' (Nat.le_of_ble_eq_true hsc) with ⟨h,_⟩ | ⟨e,he',w1,hw1,hr⟩
  ·simp [leftOf,Bt] at h
  ·simp [leftOf,Bt] at he'
   subst he'
   exact ⟨w1,hw1,hr⟩
 obtain ⟨w1,hw1,hrun⟩:=hrun
 have hwh:w1.heap=z.w.heap:=by rcases hw1 with rfl | rfl <;> rfl
 have hwo:w1.os=z.w.os:=by rcases hw1 with rfl | rfl <;> rfl
 have hwt:w1.tape=z.w.tape:=by rcases hw1 with rfl | rfl <;> rfl
 have hwu:w1.output=z.w.output:=by rcases hw1 with rfl | rfl <;> rfl
 have hup:=CP hok id (.mi g mid mg since [born] clock) (setBlock w1 b (.mapIter (some m) since #[born] clock)) (some (b,1)) z.n (by simp [setBlock,hwh]) hwo hwt hwu
  (fun b' _ hne=>by
   have:b≠b':=fun e=>hne _ 1 hHid (by rw [← e]; exact h1)
   simp [setBlock,hwh,this])
  (fun b' k' hb'=>by cases hb'; exact ⟨by simpa [setBlock,hwh] using hb,.inr ⟨_,_,hHid,h1⟩⟩) (Nat.le_refl _) (hok.obj _ _ hHid).1 (fun _=>⟨_,hHid,rfl,rfl,h1.symm⟩)
  (fun hle=>⟨b,m,rfl,by simp [setBlock,hwh,hb],h4.mono hle⟩)
 unfold Oper.wp execOp
 rw [ho]
 simp only [h2,Sem.run_bind,hrun,Result.andThen_ok,Sem.run_pure]
 refine hK _ _ hup.1 hup.2 (by simp only [hH]; exact Br _ _ _) hn (.tup rfl fun i a u' ha hu=>?_)
 rcases i with _ | _ | _ | i
 ·simp at ha hu; subst ha; subst hu; exact .r (.bool true)
 ·simp at ha hu; subst ha; subst hu; exact .r (.int _ _)
 ·simp at ha hu; subst ha; subst hu; exact (k6 0 _ _ rfl rfl).mono hup.1
 ·simp at ha
theorem TQ {x:Operand} {id g mid mg since clock:Nat} {k:Int} {born:Nat} {v:AV} (ho:o.op = .entry x) (hx:Ev c R x (.ptr id g 0 0)) (hh:hget h id=some (.mi g mid mg since [born] clock))
  (hm:hget h mid=some (.mp mg [(k,born)] [v] clock)):AX P c o R h (.tup [.r (.int .i64 k),v]):=by
 intro hc z w hok hH he
 obtain ⟨b,m,h1,h2,h3,h4⟩:=La hok (by rw [hH]; exact hh) (hx.rep he hc)
 obtain ⟨bm,us,k1,k2,k3,k4,k5,k6⟩:=GK hok (by rw [hH]; exact hm) h4
 cases k2
 obtain ⟨u,rfl⟩:=List.length_eq_one_iff.1 k3
 refine ⟨.tuple #[.int .i64 k,u],fun w2 hag=>?_,.tup rfl fun i a u' ha hu=>?_⟩
 ·have hb2:w2.heap[b]? = some (.mapIter (some m) since #[born] clock):=by rw [hag b (.inr ⟨id,_,1,by rw [hH]; exact hh,.inl h1⟩)]; exact h3
  have hm2:w2.heap[m]? = some (.map (Bt [(k,born)] [u]).toArray clock):=by rw [hag m (.inr ⟨mid,_,1,by rw [hH]; exact hm,.inl k1⟩)]; exact k5
  have hrun:=run_entry_at (P:=P) w2 b m since #[] _ clock { key:=.int .i64 k,val:=u,born:=born } hb2 hm2 (by simp [Bt]) (by simp [Bt])
  simp only [execOp,ho,h2,Sem.run_bind,hrun,Result.andThen_ok,Sem.run_pure]
 ·rcases i with _ | _ | i
  ·simp at ha hu; subst ha; subst hu; exact .r (.int _ _)
  ·simp at ha hu; subst ha; subst hu; exact k6 0 _ _ rfl rfl
  ·simp at ha
end
end
end Go.Proofs.Ytelkfhdgmbahgaa.Al

namespace Go.Proofs.Ytelkfhdgmbahgaa.Al
open Go.ChangeMaps (setBlock)
open Go.MapKept Go.RowKit
def AK {α:Type} : List (Int × α)→Int→Option α
 | [],_=>none
 | p :: r,k=>if k=p.1 then some p.2 else AK r k
def Aw {α:Type} : List (Int × α)→Int→α→List (Int × α)
 | [],k,v=>[(k,v)]
 | p :: r,k,v=>if k=p.1 then (k,v) :: r else p :: Aw r k v
def AE {α β:Type} (rd:α→β) (m:List (Int × α)):List (Int × β):=m.map fun p=>(p.1,rd p.2)
theorem PG {α β:Type} (rd:α→β) (m:List (Int × α)) (k:Int):AK (AE rd m) k=(AK m k).map rd:=by
 induction m with
 | nil=>rfl
 | cons p r ih=>
  show (if k=p.1 then some (rd p.2) else AK (AE rd r) k)=(if k=p.1 then some p.2 else AK r k).map rd
  split
  ·rfl
  ·exact ih
theorem Pm {α β:Type} (rd:α→β) (m:List (Int × α)) (k:Int) (v:α):Aw (AE rd m) k (rd v)=AE rd (Aw m k v):=by
 induction m with
 | nil=>rfl
 | cons p r ih=>
  show (if k=p.1 then (k,rd v) :: AE rd r else (p.1,rd p.2) :: Aw (AE rd r) k (rd v))=AE rd (if k=p.1 then (k,v) :: r else p :: Aw r k v)
  split
  ·rfl
  ·rw [ih]; rfl
theorem Cd {α:Type} {l:List (Int × α)} {k:Int} (h:Ab l k=none):AK l k=none ∧ ∀ v,Aw l k v=l++[(k,v)]:=by
 induction l with
 | nil=>exact ⟨rfl,fun _=>rfl⟩
 | cons p r ih=>
  unfold Ab at h
  split at h
  ·cases h
  ·rename_i hk
   have h2:Ab r k=none:=by cases hr:Ab r k with | none=>rfl | some j=>rw [hr] at h; cases h
   obtain ⟨e1,e2⟩:=ih h2
   exact ⟨by unfold AK; rw [if_neg hk,e1],fun v=>by unfold Aw; rw [if_neg hk,e2]; rfl⟩
theorem CW {α:Type} {l:List (Int × α)} {k:Int} {j:Nat} (h:Ab l k=some j) : ∃ v,l[j]? = some (k,v)∧AK l k=some v ∧ ∀ w,Aw l k w=l.set j (k,w):=by
 induction l generalizing j with
 | nil=>cases h
 | cons p r ih=>
  unfold Ab at h
  split at h
  ·rename_i hk
   cases h
   subst hk
   exact ⟨p.2,rfl,by unfold AK; rw [if_pos rfl],fun w=>by unfold Aw; rw [if_pos rfl]; rfl⟩
  ·rename_i hk
   rw [Option.map_eq_some_iff] at h
   obtain ⟨j',h1,rfl⟩:=h
   obtain ⟨v,e1,e2,e3⟩:=ih h1
   exact ⟨v,e1,by unfold AK; rw [if_neg hk,e2],fun w=>by unfold Aw; rw [if_neg hk,e3]; rfl⟩
theorem Uk {α:Type} {l:List (Int × α)} {k:Int} {j:Nat} (h:Ab l k=some j):j<l.length:=by
 obtain ⟨v,h1,_⟩:=CW h
 exact (List.getElem?_eq_some_iff.1 h1).1
theorem TJ {α β:Type} (f:Int × α→Int × β) (hf : ∀ p,(f p).1=p.1) (m:List (Int × α)) (k:Int):Ab (m.map f) k=Ab m k:=by
 induction m with
 | nil=>rfl
 | cons p r ih=>
  show (if k=(f p).1 then some 0 else (Ab (r.map f) k).map (· + 1))=(if k=p.1 then some 0 else (Ab r k).map (· + 1))
  rw [hf,ih]
def Fv {α:Type} (l:List (Int × α)) (es:List MapEntry):Prop:=es.length=l.length ∧ ∀ (j:Nat) (k:Int) (d:α),l[j]? = some (k,d) → ∃ m,es[j]? = some m∧m.key = .int .i64 k∧m.born=j
theorem OL {α:Type} (k:Int) : ∀ (l:List (Int × α)) (es:List MapEntry) (i:Nat),es.length=l.length→(∀ (j:Nat) (k':Int) (d:α),l[j]? = some (k',d) → ∃ m,es[j]? = some m∧m.key = .int .i64 k') →
  Instr.findNow (.int .i64) (.int .i64 k) es i=some ((Ab l k).map fun j=>(i+j,((es[j]?).map (·.val)).getD undef))
 | [],[],i,_,_=>rfl
 | [],_ :: _,i,h,_=>by simp at h
 | _ :: _,[],i,h,_=>by simp at h
 | p :: l,e :: es,i,h,hk=>by
  obtain ⟨m,h1,h2⟩:=hk 0 p.1 p.2 rfl
  cases h1
  have ih:=OL k l es (i+1) (by simpa using h) fun j k' d hj=>hk (j+1) k' d hj
  simp only [Instr.findNow,h2,Instr.sameNow,if_true,Ab]
  by_cases hkk:k=p.1
  ·rw [if_pos hkk,show (k == p.1)=true by simpa using hkk]; simp
  ·rw [if_neg hkk,show (k == p.1)=false by simpa using hkk]
   simp only [ih]
   cases Ab l k with
   | none=>rfl
   | some j=>simp [Nat.add_assoc,Nat.add_comm 1 j]
theorem Fv.find {α:Type} {l:List (Int × α)} {es:List MapEntry} (h:Fv l es) (k:Int):Instr.findNow (.int .i64) (.int .i64 k) es.toArray.toList 0=some ((Ab l k).map fun j=>(j,((es[j]?).map (·.val)).getD undef)):=by
 have:=OL k l es 0 h.1 fun j k' d hj=>by obtain ⟨m,h1,h2,_⟩:=h.2 j k' d hj; exact ⟨m,h1,h2⟩
 simpa using this
section
variable {P:Program}
theorem Km {α:Type} {l:List (Int × α)} {es:List MapEntry} (hes:Fv l es) {t kt et:TypeId} (ht:P.underlying t=some (.map kt et)) (hk:P.underlying kt=some (.int .i64)) {w:World} {b clock:Nat}
  (hb:w.heap[b]? = some (.map es.toArray clock)) (k:Int) (zv:Value) (hz:(zeroValue et).run P w = .ok zv w) (ok:Bool) :
  (Instr.lookup t (.map (some b)) (.int .i64 k) ok).run P w = .ok (match Ab l k with
   | some j=>if ok then .tuple #[((es[j]?).map (·.val)).getD undef,.bool true] else ((es[j]?).map (·.val)).getD undef
   | none=>if ok then .tuple #[zv,.bool false] else zv) w:=by
 have hf:=run_findKey (P:=P) (w:=w) hk (hes.find k)
 unfold Instr.lookup
 simp only [Sem.run_bind,run_underlying ht,Result.andThen_ok,MapKept.run_getObj_map hb,Sem.run_pure,run_checkKey hk (k:=.int .i64 k) (by simp [IsKey]),hf]
 cases Ab l k with
 | none=>cases ok <;> simp [hz]
 | some j=>cases ok <;> simp
def DL (es:List MapEntry) (k:Int) (j:Option Nat) (y:Value):List MapEntry:=match j with
 | none=>es++[{ key:=.int .i64 k,val:=y,born:=es.length }]
 | some j=>es.modify j fun e=>{ e with key:=.int .i64 k,val:=y }
theorem NV {α:Type} {l:List (Int × α)} {es:List MapEntry} (hes:Fv l es) {t kt et:TypeId} (ht:P.underlying t=some (.map kt et)) (hk:P.underlying kt=some (.int .i64)) {w:World} {b:Nat}
  (hb:w.heap[b]? = some (.map es.toArray l.length)) (k:Int) (y:Value) :
  (Instr.mapUpdate t (.map (some b)) (.int .i64 k) y).run P w = .ok () { w with heap:=w.heap.setIfInBounds b (.map (DL es k (Ab l k) y).toArray (DL es k (Ab l k) y).length) }:=by
 have hf:=run_findKey (P:=P) (w:=w) hk (hes.find k)
 unfold Instr.mapUpdate
 simp only [Sem.run_bind,run_underlying ht,Result.andThen_ok,MapKept.run_getObj_map hb,run_checkKey hk (k:=.int .i64 k) (by simp [IsKey]),hf]
 cases hj:Ab l k with
 | none=>
  simp only [Option.map_none]
  rw [run_setObj_map _ hb]
  simp [DL,hes.1]
 | some j=>
  obtain ⟨v,h1,_⟩:=CW hj
  obtain ⟨m,h2,h3,h4⟩:=hes.2 j k v h1
  have hm:es.toArray[j]? = some m:=by simpa using h2
  simp only [Option.map_some,hm,Option.getD_some,h3]
  simp [Instr.keyThatStays,Instr.sameBits]
  rw [run_setObj_map _ hb]
  simp [DL,hes.1]
theorem OC {α:Type} {l:List (Int × α)} {es:List MapEntry} (hes:Fv l es) (k:Int) (y:Value) (v:α):Fv (Aw l k v) (DL es k (Ab l k) y)∧(DL es k (Ab l k) y).length=(Aw l k v).length ∧
  ∀ (j:Nat) (k':Int) (d:α),(Aw l k v)[j]? = some (k',d) → ∃ m,(DL es k (Ab l k) y)[j]? = some m∧m.key = .int .i64 k'∧m.born=j ∧
   ((Ab l k=some j∨(Ab l k=none∧j=l.length))∧k'=k∧d=v∧m.val=y∨Ab l k≠some j∧j<l.length∧l[j]? = some (k',d)∧es[j]? = some m):=by
 have key:(DL es k (Ab l k) y).length=(Aw l k v).length ∧
  ∀ (j:Nat) (k':Int) (d:α),(Aw l k v)[j]? = some (k',d) → ∃ m,(DL es k (Ab l k) y)[j]? = some m∧m.key = .int .i64 k'∧m.born=j ∧
   ((Ab l k=some j∨(Ab l k=none∧j=l.length))∧k'=k∧d=v∧m.val=y∨Ab l k≠some j∧j<l.length∧l[j]? = some (k',d)∧es[j]? = some m):=by
  cases hj:Ab l k with
  | none=>
   rw [(Cd hj).2]
   refine ⟨by simp [DL,hes.1],fun j k' d h=>?_⟩
   by_cases hlt:j<l.length
   ·rw [List.getElem?_append_left hlt] at h
    obtain ⟨m,h1,h2,h3⟩:=hes.2 j k' d h
    exact ⟨m,by show (es++_)[j]? = _; rw [List.getElem?_append_left (by rw [hes.1]; exact hlt)]; exact h1,h2,h3,.inr ⟨(by simp),hlt,h,h1⟩⟩
   ·have hj':j=l.length:=by have:=(List.getElem?_eq_some_iff.1 h).1; simp at this; omega
    subst hj'
    rw [List.getElem?_append_right (Nat.le_refl _)] at h
    simp at h
    obtain ⟨rfl,rfl⟩:=h
    exact ⟨_,by show (es++_)[l.length]? = _; rw [← hes.1,List.getElem?_append_right (Nat.le_refl _)]; simp; rfl,rfl,hes.1,.inl ⟨.inr ⟨rfl,rfl⟩,rfl,rfl,rfl⟩⟩
  | some j0=>
   obtain ⟨v0,h1,_,h3⟩:=CW hj
   rw [h3]
   have hlt0:=Uk hj
   refine ⟨by simp [DL,hes.1],fun j k' d h=>?_⟩
   by_cases hjj:j0=j
   ·subst hjj
    rw [List.getElem?_set_self hlt0] at h
    cases h
    obtain ⟨m,e1,e2,e3⟩:=hes.2 j0 k v0 h1
    exact ⟨{ m with key:=.int .i64 k,val:=y },by show (es.modify j0 _)[j0]? = _; rw [List.getElem?_modify_eq,e1]; rfl,rfl,e3,.inl ⟨.inl rfl,rfl,rfl,rfl⟩⟩
   ·rw [List.getElem?_set_ne hjj] at h
    obtain ⟨m,e1,e2,e3⟩:=hes.2 j k' d h
    exact ⟨m,by show (es.modify j0 _)[j]? = _; rw [List.getElem?_modify_ne (h:=hjj)]; exact e1,e2,e3,.inr ⟨(fun e=>hjj (Option.some.inj e)),(List.getElem?_eq_some_iff.1 h).1,h,e1⟩⟩
 exact ⟨⟨key.1,fun j k' d h=>by obtain ⟨m,h1,h2,h3,_⟩:=key.2 j k' d h; exact ⟨m,h1,h2,h3⟩⟩,key⟩
variable {c:Bool} {o:Oper} {R:AU} {h:AM} {n:Nat}
theorem OQ {x:Cx} (hok:x.ok) {id g:Nat} {l:List (Int × RV)} {v:Value} (hH:x.H id=some (.md g l)) (hv:AL x (.mref id g) v) :
  ∃ (b:Nat) (es:List MapEntry),x.β id=some (b,1)∧v = .map (some b)∧Fv l es∧x.w.heap[b]? = some (.map es.toArray l.length) ∧ ∀ (j:Nat) (k:Int) (d:RV) (m:MapEntry),l[j]? = some (k,d)→es[j]? = some m→An x.w x.S d m.val:=by
 obtain ⟨_,b,es,h1,h2,h3,h4⟩:=hok.obj _ _ hH
 cases hv with
 | mref _ _ hv=>
  obtain ⟨b',cap,k1,k2⟩:=hv _ hH rfl
  rw [h1] at k1
  simp only [Option.some.injEq,Prod.mk.injEq] at k1
  obtain ⟨rfl,rfl⟩:=k1
  exact ⟨b,es,h1,k2,⟨h3,fun j k d hj=>by obtain ⟨m,e1,e2,e3,_⟩:=h4 j k d hj; exact ⟨m,e1,e2,e3⟩⟩,h2,fun j k d m hj hm=>by
   obtain ⟨m',e1,_,_,e4⟩:=h4 j k d hj
   rw [hm] at e1; cases e1; exact e4⟩
theorem Up {t:TypeId} (id:Nat) (ho:o.op = .makeMap t none):A9 P c o R h n (.mref id n) ((id,some (.md n [])) :: h) (n+1):=by
 intro hc z w hok hH hn he K Q hK
 have hup:=CP hok id (.md z.n []) (z.w.alloc (.map #[] 0)) (some (z.w.heap.size,1)) (z.n+1) (by simp) rfl rfl rfl
  (fun b hb _=>heap_alloc_old _ _ hb) (fun b k hb=>by cases hb; simp) (by omega) (by simp [AR.gen]) (fun hg=>absurd hg (by simp [AR.gen]))
  (fun hle=>⟨z.w.heap.size,[],rfl,heap_alloc_new _ _,rfl,fun j k d hj=>by simp at hj⟩)
 unfold Oper.wp execOp
 rw [ho]
 simp only [Option.map_none,Sem.run_bind,run_makeMap,Result.andThen_ok,Sem.run_pure]
 refine hK (.map (some z.w.heap.size)) _ hup.1 hup.2 (by simp only [hH,hn]; exact Br _ _ _) (by simp [hn]) (.mref (by simp [hn]) rfl fun o' ho' _=>?_)
 exact ⟨z.w.heap.size,1,by simp,rfl⟩
theorem Ji {α:Type} {rd:α→RV} {t kt et:TypeId} {x i:Operand} {id g:Nat} {m:List (Int × α)} {k:Int} (ok:Bool) (zv:Value) (z:α) (ho:o.op = .lookup t x i ok) (ht:P.underlying t=some (.map kt et))
  (hk:P.underlying kt=some (.int .i64)) (hz : ∀ w,(zeroValue et).run P w = .ok zv w) (hzr : ∀ w S,An w S (rd z) zv) (hx:Ev c R x (.mref id g)) (hi:Ev c R i (.r (.int .i64 k))) (hh:hget h id=some (.md g (AE rd m))) :
  AX P c o R h (match ok with | true=>.tup [.r (rd ((AK m k).getD z)),.r (.bool (AK m k).isSome)] | false=>.r (rd ((AK m k).getD z))):=by
 intro hc y w hok hH he
 obtain ⟨b,es,h1,h2,h3,h4,h5⟩:=OQ hok (by rw [hH]; exact hh) (hx.rep he hc)
 have hiv:=hi.rep he hc
 generalize hiw:w.eval i=iv at hiv
 cases hiv with
 | r hiv=>
  cases hiv with
  | int=>
   have hb2 : ∀ w2:World,CA y w2→w2.heap[b]? = some (.map es.toArray (AE rd m).length):=fun w2 hag=>by rw [hag b (.inr ⟨id,_,1,by rw [hH]; exact hh,.inl h1⟩)]; exact h4
   cases hj:Ab (AE rd m) k with
   | none=>
    have hg:AK m k=none:=by
     have:=(Cd hj).1
     rw [PG] at this
     simpa using this
    rw [hg]
    refine ⟨match ok with | true=>.tuple #[zv,.bool false] | false=>zv,fun w2 hag=>?_,?_⟩
    ·simp only [execOp,ho,h2,hiw,Sem.run_bind,Km h3 ht hk (hb2 w2 hag) k zv (hz w2) ok,hj,Result.andThen_ok,Sem.run_pure]
     cases ok <;> simp
    ·cases ok
     ·exact .r (hzr _ _)
     ·refine .tup rfl fun q a' u' e1 e2=>?_
      rcases q with _ | _ | q
      ·simp at e1 e2; subst e1; subst e2; exact .r (hzr _ _)
      ·simp at e1 e2; subst e1; subst e2; exact .r (.bool _)
      ·simp at e1
   | some j=>
    obtain ⟨v,e1,e2,_⟩:=CW hj
    obtain ⟨mm,e3,_⟩:=h3.2 j k v e1
    have hr:=h5 j k v mm e1 e3
    have hg : ∃ a,AK m k=some a∧rd a=v:=by
     rw [PG] at e2
     rw [Option.map_eq_some_iff] at e2
     exact e2
    obtain ⟨a,hg,rfl⟩:=hg
    rw [hg]
    refine ⟨match ok with | true=>.tuple #[mm.val,.bool true] | false=>mm.val,fun w2 hag=>?_,?_⟩
    ·simp only [execOp,ho,h2,hiw,Sem.run_bind,Km h3 ht hk (hb2 w2 hag) k zv (hz w2) ok,hj,e3,Result.andThen_ok,Sem.run_pure]
     cases ok <;> simp
    ·cases ok
     ·exact .r hr
     ·refine .tup rfl fun q a' u' e1 e2=>?_
      rcases q with _ | _ | q
      ·simp at e1 e2; subst e1; subst e2; exact .r hr
      ·simp at e1 e2; subst e1; subst e2; exact .r (.bool _)
      ·simp at e1
theorem KI {α:Type} {rd:α→RV} {t kt et:TypeId} {x i y:Operand} {id g:Nat} {m:List (Int × α)} {k:Int} {a:α} (ho:o.op = .mapUpdate t x i y∨o.op = .insert t x i y) (ht:P.underlying t=some (.map kt et)) (hk:P.underlying kt=some (.int .i64))
  (hx:Ev c R x (.mref id g)) (hi:Ev c R i (.r (.int .i64 k))) (hy:Ev c R y (.r (rd a))) (hh:hget h id=some (.md g (AE rd m))) :
  A9 P c o R h n .any ((id,some (.md g (AE rd (Aw m k a)))) :: h) n:=by
 intro hc z w hok hH hn he K Q hK
 have hHid:z.H id=some (.md g (AE rd m)):=by rw [hH]; exact hh
 obtain ⟨b,es,h1,h2,h3,h4,h5⟩:=OQ hok hHid (hx.rep he hc)
 have hya:=hy.rep he hc
 have hiv:=hi.rep he hc
 generalize hiw:w.eval i=iv at hiv
 cases hiv with
 | r hiv=>
  cases hiv with
  | int=>
   cases hya with
   | r hya=>
   have hb:=(hok.own id _ b 1 hHid h1).1
   obtain ⟨q1,q2,q3⟩:=OC h3 k (w.eval y) (rd a)
   rw [Pm] at q1 q2 q3
   have hup:=CP hok id (.md g (AE rd (Aw m k a))) { z.w with heap:=z.w.heap.setIfInBounds b (.map (DL es k (Ab (AE rd m) k) (w.eval y)).toArray (DL es k (Ab (AE rd m) k) (w.eval y)).length) } (some (b,1)) z.n (by simp) rfl rfl rfl
    (fun b' _ hne=>by
     have:b≠b':=fun e=>hne _ 1 hHid (by rw [← e]; exact h1)
     simp [this])
    (fun b' k' hb'=>by cases hb'; exact ⟨by simpa using hb,.inr ⟨_,_,hHid,h1⟩⟩) (Nat.le_refl _) (hok.obj _ _ hHid).1 (fun _=>⟨_,hHid,rfl,rfl,h1.symm⟩)
    (fun hle=>⟨b,DL es k (Ab (AE rd m) k) (w.eval y),rfl,by simp [hb,q2],q2,fun j k' d hj=>by
     obtain ⟨mm,e1,e2,e3,e4⟩:=q3 j k' d hj
     refine ⟨mm,e1,e2,e3,?_⟩
     rcases e4 with ⟨_,rfl,rfl,e⟩ | ⟨_,_,f1,f2⟩
     ·rw [e]; exact hya.mono (fun b hb=>hle.blk b (.inl hb)) hle.S
     ·exact (h5 j k' d mm f1 f2).mono (fun b hb=>hle.blk b (.inl hb)) hle.S⟩)
   have hrun:=NV h3 ht hk h4 k (w.eval y)
   unfold Oper.wp execOp
   rcases ho with ho | ho <;>
   ·rw [ho]
    simp only [h2,hiw,Sem.run_bind,hrun,Result.andThen_ok,Sem.run_pure]
    exact hK undef _ hup.1 hup.2 (by simp only [hH]; exact Br _ _ _) hn (.any _)
end
end Go.Proofs.Ytelkfhdgmbahgaa.Al

namespace Go.Proofs.Ytelkfhdgmbahgaa.Al
open Go.ChangeMaps (setBlock)
open Go.MapKept Go.RowKit
def Cx.tk (x:Cx) (id id':Nat) (o:AR) (w':World) (β':Option (Nat × Nat)) (κ':Nat→Option (Nat × Nat)) (n':Nat):Cx:=
 { x with w:=w',H:=fun i=>if id=i then some o else if id'=i then none else x.H i,β:=fun i=>if id=i then β' else x.β i,K:=fun i=>if id=i then κ' else x.K i,n:=n' }
theorem EX {x:Cx} {id id':Nat} {o:AR} {w':World} {β':Option (Nat × Nat)} {κ':Nat→Option (Nat × Nat)} {n' i:Nat} {o':AR} (h:(x.tk id id' o w' β' κ' n').H i=some o') :
  (id=i∧o'=o∧(x.tk id id' o w' β' κ' n').β i=β'∧(x.tk id id' o w' β' κ' n').K i=κ')∨(i≠id∧i≠id'∧x.H i=some o'∧(x.tk id id' o w' β' κ' n').β i=x.β i∧(x.tk id id' o w' β' κ' n').K i=x.K i):=by
 unfold Cx.tk at h ⊢
 dsimp only at h ⊢
 by_cases h1:id=i
 ·rw [if_pos h1] at h ⊢
  cases h
  exact .inl ⟨h1,rfl,rfl,by rw [if_pos h1]⟩
 ·rw [if_neg h1] at h ⊢
  split at h
  ·cases h
  ·rename_i h2
   exact .inr ⟨fun e=>h1 e.symm,fun e=>h2 e.symm,h,rfl,by rw [if_neg h1]⟩
theorem Vf {x:Cx} (hok:x.ok) (id id':Nat) (o:AR) (w':World) (β':Option (Nat × Nat)) (κ':Nat→Option (Nat × Nat)) (n':Nat)
  (hsize:x.w.heap.size≤w'.heap.size) (hos:w'.os=x.w.os) (htape:w'.tape=x.w.tape) (hout:w'.output=x.w.output)
  (hfr : ∀ b,b<x.w.heap.size→(∀ i o0,i=id∨i=id'→x.H i=some o0→x.at i b→False)→w'.heap[b]? = x.w.heap[b]?)
  (hβ : ∀ b k,β'=some (b,k)→b<w'.heap.size∧(x.w.heap.size≤b ∨ ∃ i o0,(i=id∨i=id')∧x.H i=some o0∧x.at i b))
  (hκ : ∀ j b k,κ' j=some (b,k)→(b<w'.heap.size∧(x.w.heap.size≤b ∨ ∃ i o0,(i=id∨i=id')∧x.H i=some o0∧x.at i b))∧(∀ k',β'=some (b,k')→False) ∧ ∀ j' k',κ' j'=some (b,k')→j'=j)
  (hn:x.n≤n') (hgen:o.gen<n') (hold:o.gen<x.n∨o.isCal=true → ∃ o0,x.H id=some o0∧o0.gen=o.gen∧o0.shape=o.shape∧β'=x.β id)
  (hfl:o.isFam=true→o.gen<x.n→o.ver<x.n → ∃ o0,x.H id=some o0∧o0.isFam=true∧o0.gen=o.gen∧o0.ver=o.ver∧o0.kshape=o.kshape∧κ'=x.K id)
  (hrep:x.le (x.tk id id' o w' β' κ' n')→CV (x.tk id id' o w' β' κ' n') β' κ' o) :
  x.le (x.tk id id' o w' β' κ' n')∧(x.tk id id' o w' β' κ' n').ok:=by
 have hnew : ∀ b,(x.w.heap.size≤b ∨ ∃ i o0,(i=id∨i=id')∧x.H i=some o0∧x.at i b)→(¬ x.S b ∧ ¬ x.F b) ∧ ∀ i o',i≠id→i≠id'→x.H i=some o'→x.at i b→False:=by
  intro b hb
  rcases hb with hb | ⟨i0,o0,h0,h1,h2⟩
  ·exact ⟨⟨fun h=>by have:=hok.S_lt b h; omega,fun h=>by have:=hok.F_lt b h; omega⟩,fun i o' _ _ hi ha=>by have:=(hok.at_lt hi ha).1; omega⟩
  ·exact ⟨(hok.at_lt h1 h2).2,fun i o' hne hne' hi ha=>by
    have:=hok.at_inj hi h1 ha h2
    subst this
    exact h0.elim hne hne'⟩
 have hle:x.le (x.tk id id' o w' β' κ' n'):=by
  refine ⟨hsize,hos,htape,hout,fun b hb=>?_,fun _ h=>h,rfl,hn,fun i o' ho' hg=>?_,fun i o' ho' hf hg hv=>?_⟩
  ·refine hfr b (hb.elim (hok.S_lt b) (hok.F_lt b)) fun i o0 _ h1 h2=>?_
   have:=hok.at_lt h1 h2
   exact hb.elim this.2.1 this.2.2
  ·rcases EX ho' with ⟨rfl,rfl,h1,h2⟩ | ⟨_,_,h1,h2,h3⟩
   ·obtain ⟨o0,e1,e2,e3,e4⟩:=hold hg
    exact ⟨o0,e1,e2,e3,by rw [h1]; exact e4⟩
   ·exact ⟨o',h1,rfl,rfl,h2⟩
  ·rcases EX ho' with ⟨rfl,rfl,h1,h2⟩ | ⟨_,_,h1,h2,h3⟩
   ·obtain ⟨o0,e1,e0,e2,e3,e4,e5⟩:=hfl hf hg hv
    exact ⟨o0,e1,e0,e2,e3,e4,by rw [h2]; exact e5⟩
   ·exact ⟨o',h1,hf,rfl,rfl,rfl,h3⟩
 have hblk' : ∀ i o',i≠id→i≠id'→x.H i=some o' → ∀ b,x.at i b→w'.heap[b]? = x.w.heap[b]?:=by
  intro i o' hne hne' hi b hb
  refine hfr b (hok.at_lt hi hb).1 fun i0 o0 h0 h1 h2=>?_
  have:=hok.at_inj hi h1 hb h2
  subst this
  exact h0.elim hne hne'
 refine ⟨hle,fun b hb=>Nat.lt_of_lt_of_le (hok.S_lt b hb) hsize,fun b hb=>Nat.lt_of_lt_of_le (hok.F_lt b hb) hsize,hok.SF,fun i o' ho'=>?_,fun i o' b k ho' hb=>?_,fun i i' o1 o2 b k k' h1 h2 hb hb'=>?_,fun i o' j b c ho' hb=>?_,hok.tabs.le hle⟩
 ·rcases EX ho' with ⟨rfl,rfl,h1,h2⟩ | ⟨hne,hne',h1,h2,h3⟩
  ·rw [h1,h2]; exact ⟨hgen,hrep hle⟩
  ·rw [h2,h3]
   obtain ⟨e1,e2⟩:=hok.obj i o' h1
   exact ⟨Nat.lt_of_lt_of_le e1 hn,e2.mono hle (fun b k hb=>hblk' i o' hne hne' h1 b (.inl ⟨k,hb⟩)) fun j b k hb=>hblk' i o' hne hne' h1 b (.inr ⟨j,k,hb⟩)⟩
 ·rcases EX ho' with ⟨rfl,rfl,h1,h2⟩ | ⟨hne,hne',h1,h2,h3⟩
  ·rw [h1] at hb
   obtain ⟨e1,e2⟩:=hβ b k hb
   exact ⟨e1,(hnew b e2).1⟩
  ·rw [h2] at hb
   have:=hok.own i o' b k h1 hb
   exact ⟨Nat.lt_of_lt_of_le this.1 hsize,this.2⟩
 ·rcases EX h1 with ⟨rfl,rfl,e1,e2⟩ | ⟨hne,hne',e0,e1,e2⟩ <;> rcases EX h2 with ⟨rfl,rfl,f1,f2⟩ | ⟨gne,gne',f0,f1,f2⟩
  ·rfl
  ·rw [e1] at hb; rw [f1] at hb'
   exact ((hnew b (hβ b k hb).2).2 i' o2 gne gne' f0 (.inl ⟨k',hb'⟩)).elim
  ·rw [e1] at hb; rw [f1] at hb'
   exact ((hnew b (hβ b k' hb').2).2 i o1 hne hne' e0 (.inl ⟨k,hb⟩)).elim
  ·rw [e1] at hb; rw [f1] at hb'
   exact hok.inj i i' o1 o2 b k k' e0 f0 hb hb'
 ·rcases EX ho' with ⟨rfl,rfl,e1,e2⟩ | ⟨hne,hne',e0,e1,e2⟩
  ·rw [e2] at hb
   obtain ⟨⟨h1,h2⟩,h3,h4⟩:=hκ j b c hb
   refine ⟨h1,(hnew b h2).1.1,(hnew b h2).1.2,fun i' o2 k hi' hb'=>?_,fun i' o2 j' c' hi' hb'=>?_⟩
   ·rcases EX hi' with ⟨rfl,rfl,f1,f2⟩ | ⟨gne,gne',f0,f1,f2⟩
    ·rw [f1] at hb'; exact h3 k hb'
    ·rw [f1] at hb'
     exact (hnew b h2).2 i' o2 gne gne' f0 (.inl ⟨k,hb'⟩)
   ·rcases EX hi' with ⟨rfl,rfl,f1,f2⟩ | ⟨gne,gne',f0,f1,f2⟩
    ·rw [f2] at hb'; exact ⟨rfl,h4 j' c' hb'⟩
    ·rw [f2] at hb'
     exact ((hnew b h2).2 i' o2 gne gne' f0 (.inr ⟨j',c',hb'⟩)).elim
  ·rw [e2] at hb
   obtain ⟨h1,h2,h3,h4,h5⟩:=hok.ext i o' j b c e0 hb
   refine ⟨Nat.lt_of_lt_of_le h1 hsize,h2,h3,fun i' o2 k hi' hb'=>?_,fun i' o2 j' c' hi' hb'=>?_⟩
   ·rcases EX hi' with ⟨rfl,rfl,f1,f2⟩ | ⟨gne,gne',f0,f1,f2⟩
    ·rw [f1] at hb'
     exact (hnew b (hβ b k hb').2).2 i o' hne hne' e0 (.inr ⟨j,c,hb⟩)
    ·rw [f1] at hb'
     exact h4 i' o2 k f0 hb'
   ·rcases EX hi' with ⟨rfl,rfl,f1,f2⟩ | ⟨gne,gne',f0,f1,f2⟩
    ·rw [f2] at hb'
     exact ((hnew b (hκ j' b c' hb').1.2).2 i o' hne hne' e0 (.inr ⟨j,c,hb⟩)).elim
    ·rw [f2] at hb'
     exact h5 i' o2 j' c' f0 hb'
theorem Pw (id id':Nat) (ob:AR) (h:AM):(fun i=>if id=i then some ob else if id'=i then none else hget h i)=hget ((id,some ob) :: (id',none) :: h):=by
 funext i
 rw [BS,BS]
end Go.Proofs.Ytelkfhdgmbahgaa.Al

namespace Go.Proofs.Ytelkfhdgmbahgaa.Al
section
variable {P:Program} {ops:Array Oper} {md:Region.Mode} {Q:Exit→Act→World→Prop} {S:World→Prop}
def GL (P:Program) (md:Region.Mode) (ops:Array Oper) (Q:Exit→Act→World→Prop) (S:World→Prop) (L:Array Bool→Act→World→Prop):Nat→Array Bool→Act→World→Prop
 | 0,listed,a,w=>L listed a w
 | f+1,listed,a,w=>Region.ready md ops listed≠[] ∧ ∀ i∈Region.ready md ops listed,wpOp P ops Q i (fun a' w'=>S w'∧GL P md ops Q S L f (listed.setIfInBounds i true) a' w') a w
theorem Oz {g:Nat} {L:Array Bool→Act→World→Prop} (hL : ∀ listed a w,L listed a w→wpAny P md ops Q g listed a w) :
  ∀ (f:Nat) (listed:Array Bool) (a:Act) (w:World),GL P md ops Q S L f listed a w→wpAny P md ops Q (f+g) listed a w
 | 0,listed,a,w,h=>by rw [Nat.zero_add]; exact hL _ _ _ h
 | f+1,listed,a,w,h=>by
  rw [show f+1+g=(f+g)+1 by omega]
  exact ⟨fun h0=>absurd h0 h.1,fun i hi=>wpOp_mono (fun a' w' h'=>Oz hL f _ a' w' h'.2) (h.2 i hi)⟩
structure HI (md:Region.Mode) (ops:Array Oper) (n:Nat) (l0 listed:Array Bool):Prop where
 size:listed.size=ops.size
 closed : ∀ j oj,ops[j]? = some oj→listed.getD j false=true→l0.getD j false=true ∨ ∀ e∈oj.after,Region.binds md e=true→listed.getD e.on false=true
 tail : ∀ t,n≤t→t<ops.size→listed.getD t true=false
 mono : ∀ j,l0.getD j false=true→listed.getD j false=true
theorem HI.set {n i:Nat} {l0 listed:Array Bool} (inv:HI md ops n l0 listed) (hi:i∈Region.ready md ops listed) (hin:i<n):HI md ops n l0 (listed.setIfInBounds i true):=by
 obtain ⟨_,oi,hoi,hall⟩:=mem_ready.1 hi
 refine ⟨by simp [inv.size],fun j oj hj hl=>?_,fun t ht ht'=>by rw [getD_set_ne true (by omega)]; exact inv.tail t ht ht',fun j hj=>getD_set_true (inv.mono j hj)⟩
 by_cases hij:i=j
 ·subst hij
  have:oj=oi:=Option.some.inj (hj.symm.trans hoi)
  subst this
  exact .inr fun e he hb=>getD_set_true (hall e he hb)
 ·rw [getD_set_ne false hij] at hl
  rcases inv.closed j oj hj hl with h | h
  ·exact .inl h
  ·exact .inr fun e he hb=>getD_set_true (h e he hb)
def J0 (md:Region.Mode) (ops:Array Oper) (n:Nat) (l0:Array Bool):Bool:=
 (List.range n).all fun i=>l0.getD i false || (List.range (n+1)).any fun j=>decide (i<j) && !l0.getD j false && Region.waitsFor md ops j i
theorem Od {n:Nat} {l0 listed:Array Bool} (hs:J0 md ops n l0=true) (hc:Region.chainB md ops n=true) (hn:n<ops.size) (inv:HI md ops n l0 listed) :
  ∀ (d i:Nat),n-i=d→i<n→listed.getD i true=false → ∀ t,n≤t→t ∉ Region.ready md ops listed:=by
 intro d
 induction d using Nat.strongRecOn with
 | _ d ih=>
  intro i hd hi hun t ht hr
  obtain ⟨_,ot,hot,hall⟩:=mem_ready.1 hr
  have htlt:t<ops.size:=(Array.getElem?_eq_some_iff.1 hot).1
  by_cases htn:t=n
  ·subst htn
   have h1:=List.all_eq_true.1 hs i (List.mem_range.2 hi)
   rw [Bool.or_eq_true] at h1
   rcases h1 with h1 | h1
   ·have:=inv.mono i h1
    rw [getD_both hun] at this; cases this
   obtain ⟨j,hj,hj2⟩:=List.any_eq_true.1 h1
   simp only [Bool.and_eq_true,decide_eq_true_eq,Bool.not_eq_true'] at hj2
   obtain ⟨oj,hoj,e,he,hb,hon⟩:=Region.waitsFor_spec hj2.2
   have hjle:j≤t:=by have:=List.mem_range.1 hj; omega
   by_cases hjt:j=t
   ·subst hjt
    have:oj=ot:=Option.some.inj (hoj.symm.trans hot)
    subst this
    have h2:=hall e he hb
    rw [hon,getD_both hun] at h2
    cases h2
   ·cases hl:listed.getD j false with
    | true=>
     rcases inv.closed j oj hoj hl with h3 | h3
     ·rw [h3] at hj2; cases hj2.1.2
     ·have h2:=h3 e he hb
      rw [hon,getD_both hun] at h2
      cases h2
    | false=>
     have hjs:j<listed.size:=by rw [inv.size]; omega
     exact ih (t-j) (by omega) j rfl (by omega) (getD_in hjs hl) t (Nat.le_refl _) hr
  ·have h1:=List.all_eq_true.1 hc t (List.mem_range.2 htlt)
   simp only [Bool.or_eq_true,decide_eq_true_eq] at h1
   rcases h1 with h1 | h1
   ·omega
   ·obtain ⟨o',ho',e,he,hb,hon⟩:=Region.waitsFor_spec h1
    have:o'=ot:=Option.some.inj (ho'.symm.trans hot)
    subst this
    have h2:=hall e he hb
    rw [hon,getD_both (inv.tail (t-1) (by omega) (by omega))] at h2
    cases h2
theorem T3 {n i:Nat} {oi:Oper} {v:Value} {l0:Array Bool} {L:Array Bool→Act→World→Prop} (hi:ops[i]? = some oi) (hsel : ∀ (j:Nat) (o:Oper) cs b,ops[j]? = some o→o.op ≠ .select cs b)
  (hQ : ∀ c a w,Q (.panic c) (a.put oi.dst v) w→Q (.panic c) a w) (hs:J0 md ops n l0=true) (hc:Region.chainB md ops n=true) (hn:n<ops.size) (hin:i<n)
  (hdone : ∀ listed a w,L listed a w → ∀ j∈Region.ready md ops listed,n≤j) :
  ∀ (f:Nat) (listed:Array Bool) (a:Act) (w:World),HI md ops n l0 listed →
   (∀ j oj,ops[j]? = some oj→j≠i→listed.getD j true=false→(∀ e∈oj.after,Region.binds md e=true→e.on≠i)→oi.apart ops oj=true) →
   i∈Region.ready md ops listed→YieldsIf P ops S oi v a→S w →
   GL P md ops Q S L f (listed.setIfInBounds i true) (a.put oi.dst v) w→GL P md ops Q S L (f+1) listed a w:=by
 intro f
 induction f with
 | zero=>
  intro listed a w inv _ hr hy hS H
  have hun:=(mem_ready.1 hr).1
  refine ⟨fun h=>(by rw [h] at hr; cases hr),fun j hj=>?_⟩
  have hjn:j<n:=by
   rcases Nat.lt_or_ge j n with h | h
   ·exact h
   ·exact absurd hj (Od hs hc hn inv _ i rfl hin hun j h)
  by_cases hji:j=i
  ·subst hji; exact hy.wpOp hi hS ⟨hS,H⟩
  ·have:=hdone _ _ _ H j (ready_mono hj hji)
   omega
 | succ f ih=>
  intro listed a w inv hfree hr hy hS H
  have hun:=(mem_ready.1 hr).1
  refine ⟨fun h=>(by rw [h] at hr; cases hr),fun j hj=>?_⟩
  have hjn:j<n:=by
   rcases Nat.lt_or_ge j n with h | h
   ·exact h
   ·exact absurd hj (Od hs hc hn inv _ i rfl hin hun j h)
  by_cases hji:j=i
  ·subst hji; exact hy.wpOp hi hS ⟨hS,H⟩
  ·have h1:=H.2 j (ready_mono hj hji)
   obtain ⟨hjun,oj,hoj,hall⟩:=mem_ready.1 hj
   have hnot : ∀ e∈oj.after,Region.binds md e=true→e.on≠i:=fun e he hb heq=>by
    have h1:=hall e he hb
    rw [heq,getD_both hun] at h1
    cases h1
   have h2:=wpOp_putIf hoj (hfree j oj hoj hji hjun hnot) (fun cs b=>hsel i oi cs b hi) (fun cs b=>hsel j oj cs b hoj) hQ hy h1
   have hfree' : ∀ k ok,ops[k]? = some ok→k≠i→(listed.setIfInBounds j true).getD k true=false →
     (∀ e∈ok.after,Region.binds md e=true→e.on≠i)→oi.apart ops ok=true:=fun k ok hk hki hun hno=>by
    refine hfree k ok hk hki ?_ hno
    by_cases hjk:j=k
    ·subst hjk; exact hjun
    ·rw [getD_set_ne true hjk] at hun; exact hun
   refine wpOp_mono (fun a' w' h3=>⟨h3.2.1,ih (listed.setIfInBounds j true) a' w' (inv.set hj hjn) hfree' (ready_mono hr (Ne.symm hji)) h3.1 h3.2.1 ?_⟩) h2
   rw [Array.setIfInBounds_comm _ _ hji]
   exact h3.2.2
def GY (md:Region.Mode) (ops:Array Oper):List Nat→Array Bool→Bool
 | [],_=>true
 | i :: is,listed=>(Region.ready md ops listed).contains i && Region.free md ops listed i && GY md ops is (listed.setIfInBounds i true)
def Kd (md:Region.Mode) (ops:Array Oper):List Nat→Array Bool→Bool
 | [],_=>true
 | i :: is,listed=>decide (Region.ready md ops listed=[i]) && Kd md ops is (listed.setIfInBounds i true)
def CG (listed:Array Bool) (is:List Nat):Array Bool:=is.foldl (fun l i=>l.setIfInBounds i true) listed
def Iz (P:Program) (ops:Array Oper) (S:World→Prop) (Qa:Act→Prop):List Oper→Act→Prop
 | [],a=>Qa a
 | o :: rest,a=>∃ v,YieldsIf P ops S o v a∧Iz P ops S Qa rest (a.put o.dst v)
def LV (P:Program) (ops:Array Oper) (Q:Exit→Act→World→Prop) (S:World→Prop) (Qa:Act→World→Prop):List Oper→Act→World→Prop
 | [],a,w=>Qa a w
 | o :: rest,a,w=>o.guard=none∧o.wp P a w (fun a' w'=>S w'∧LV P ops Q S Qa rest a' w') Q
def Lk (Q:Exit→Act→World→Prop):Prop:=∀ c a w,¬ Q (.panic c) a w
theorem Ou (hsel:Region.noSelect ops=true) (hQ:Lk Q) {f:Nat} : ∀ (is:List Nat) (l:List Oper) (listed:Array Bool) (a:Act) (w:World),is.map (fun i=>ops[i]?)=l.map some→GY md ops is listed=true →
  Iz P ops (fun _=>True) (fun a'=>wpAny P md ops Q f (CG listed is) a' w) l a→wpAny P md ops Q (f+is.length) listed a w
 | [],[],listed,a,w,_,_,h=>h
 | [],_ :: _,_,_,_,h,_,_=>by cases h
 | _ :: _,[],_,_,_,h,_,_=>by cases h
 | i :: is,o :: l,listed,a,w,hl,hB,⟨v,hy,h⟩=>by
  simp only [GY,Bool.and_eq_true] at hB
  obtain ⟨⟨hr,hf⟩,hB'⟩:=hB
  simp only [List.map_cons,List.cons.injEq] at hl
  have:=Ou hsel hQ is l (listed.setIfInBounds i true) (a.put o.dst v) w hl.2 hB' h
  rw [List.length_cons,← Nat.add_assoc]
  refine wpAny_take hl.1 hsel hf hr (fun c a w h=>absurd h (hQ _ _ _)) ?_ this
  exact hy.imp (fun ⟨hw,hv⟩=>⟨hw,fun w=>hv w trivial⟩) id
theorem PM {n:Nat} {l0:Array Bool} {L:Array Bool→Act→World→Prop} : ∀ (is:List Nat) (l:List Oper) (listed:Array Bool) (a:Act) (w:World),is.map (fun i=>ops[i]?)=l.map some→Kd md ops is listed=true →
  LV P ops Q S (fun a' w'=>L (CG listed is) a' w') l a w→GL P md ops Q S L is.length listed a w
 | [],[],listed,a,w,_,_,h=>h
 | [],_ :: _,_,_,_,h,_,_=>by cases h
 | _ :: _,[],_,_,_,h,_,_=>by cases h
 | i :: is,o :: l,listed,a,w,hl,hB,⟨hg,h⟩=>by
  simp only [Kd,Bool.and_eq_true,decide_eq_true_eq] at hB
  simp only [List.map_cons,List.cons.injEq] at hl
  refine ⟨by rw [hB.1]; simp,fun j hj=>?_⟩
  rw [hB.1] at hj
  have:j=i:=by simpa using hj
  subst this
  unfold wpOp
  simp only [hl.1]
  rw [if_pos (by simp [Region.wanted,hg])]
  exact .inl (Oper.wp_mono (fun a' w' h'=>⟨h'.1,PM (n:=n) (l0:=l0) is l _ a' w' hl.2 hB.2 h'.2⟩) h)
theorem Nz {n:Nat} {l0:Array Bool} {L:Array Bool→Act→World→Prop} {f:Nat} (hsel:Region.noSelect ops=true) (hQ:Lk Q) (hs:J0 md ops n l0=true) (hc:Region.chainB md ops n=true) (hn:n<ops.size)
  (hdone : ∀ listed a w,L listed a w → ∀ j∈Region.ready md ops listed,n≤j) {w:World} (hS:S w) : ∀ (is:List Nat) (l:List Oper) (listed:Array Bool) (a:Act),is.map (fun i=>ops[i]?)=l.map some→GY md ops is listed=true →
  (∀ i∈is,i<n)→HI md ops n l0 listed →
  Iz P ops S (fun a'=>GL P md ops Q S L f (CG listed is) a' w) l a→GL P md ops Q S L (f+is.length) listed a w
 | [],[],listed,a,_,_,_,_,h=>h
 | [],_ :: _,_,_,h,_,_,_,_=>by cases h
 | _ :: _,[],_,_,h,_,_,_,_=>by cases h
 | i :: is,o :: l,listed,a,hl,hB,hin,inv,⟨v,hy,h⟩=>by
  simp only [GY,Bool.and_eq_true] at hB
  obtain ⟨⟨hr,hf⟩,hB'⟩:=hB
  simp only [List.map_cons,List.cons.injEq] at hl
  have hr':i∈Region.ready md ops listed:=by simpa using hr
  have hi':=hin i (List.mem_cons_self ..)
  have:=Nz hsel hQ hs hc hn hdone hS is l (listed.setIfInBounds i true) (a.put o.dst v) hl.2 hB' (fun j hj=>hin j (List.mem_cons_of_mem _ hj)) (inv.set hr' hi') h
  rw [List.length_cons,← Nat.add_assoc]
  exact T3 hl.1 (Region.noSelect_spec hsel) (fun c a w h=>absurd h (hQ _ _ _)) hs hc hn hi' hdone _ listed a w inv (Region.free_spec hl.1 hf) hr' hy hS this
end
open Go.ChangeShapes Go.WideShapes Go.Deep Go.WideElems Go.RowKit
section
variable {H:Type} {enc:TypeId × Value→H} {P:Program} {W:World}
theorem SW {t:TypeId} {k:IntKind} {v:Value} {d:DataW H} {p:List MemPlace} {r:Reach} {b0:Nat} (ht:P.underlying t=some (.int k)) (hval:Value.okWide P W r b0 t v) (h:DataW.Trod enc P W 0 (fun _=>true) true t v d p) :
  ∃ n:Int,(Lit.int k n).wf=true∧An W (· < W.heap.size) (.int k n) v:=by
 obtain ⟨n,rfl,_,_,w⟩:=open_int ht hval h
 exact ⟨n,w,.int _ _⟩
end
end Go.Proofs.Ytelkfhdgmbahgaa.Al

namespace Go.Proofs.Ytelkfhdgmbahgaa.Al
section
variable {P:Program} {ops:Array Oper} {rest:List Oper} {s:St} {K:St→Prop} {o:Oper}
def DZ (P:Program) (ops:Array Oper) (rest:List Oper) (s:St) (K:St→Prop):Prop:=
 ∀ (y:Cx) (a:Act),y.ok→y.H=hget s.h→y.n=s.n→a.tmps.size=s.N→BF y s.e a → ∀ Qa:Act→Prop,
  (∀ s' a',K s'→s'.h=s.h→s'.n=s.n→s'.N=s.N→a'.tmps.size=s.N→a'.defers=a.defers→BF y s'.e a'→Qa a')→Iz P ops (fun _=>True) Qa rest a
theorem DZ.nil (h:K s):DZ P ops [] s K:=fun _ a _ _ _ hN he _ hQ=>hQ s a h rfl rfl rfl hN rfl he
theorem DZ.move {d:Nat} {x:Operand} (hg:o.guard=none) (ho:o.op = .move x) (hd:o.dst=some d) (hN:Nat.blt d s.N=true)
  (hr:DZ P ops rest { e:=(d,C3 s.e x) :: s.e,h:=s.h,n:=s.n,N:=s.N } K):DZ P ops (o :: rest) s K:=by
 intro y a hok hH hn hsz he Qa hQ
 have hN':d<a.tmps.size:=by rw [hsz]; exact Bx hN
 refine ⟨a.eval x,.inl ⟨by simp [Region.wanted,hg],fun w _=>by unfold execOp; simp only [ho]; rfl⟩,?_⟩
 rw [hd]
 exact hr y (a.put (some d) (a.eval x)) hok hH hn (by simpa [Act.put] using hsz) (he.put hN' (he.eval x)) Qa fun s' a' k1 k2 k3 k4 k5 k6 k7=>hQ s' a' k1 k2 k3 k4 k5 k6 k7
def AF (P:Program) (ops:Array Oper) (rest:List Oper) (s:St) (K:St→Prop):Prop:=
 ∀ (y:Cx) (a:Act),y.ok→y.H=hget s.h→y.n=s.n→a.tmps.size=s.N→BF y s.e a → ∀ Qa:Act→Prop,
  (∀ s' a',K s'→s'.h=s.h→s'.n=s.n→s'.N=s.N→a'.tmps.size=s.N→a'.defers=a.defers→BF y s'.e a'→Qa a')→Iz P ops (CA y) Qa rest a
theorem AF.nil (h:K s):AF P ops [] s K:=fun _ a _ _ _ hN he _ hQ=>hQ s a h rfl rfl rfl hN rfl he
theorem AF.step {d:Nat} {v:AV} (hg:o.guard=none) (hd:o.dst=some d) (hN:Nat.blt d s.N=true) (hs:AX P true o s.e s.h v)
  (hr:AF P ops rest { e:=(d,v) :: s.e,h:=s.h,n:=s.n,N:=s.N } K):AF P ops (o :: rest) s K:=by
 intro y a hok hH hn hsz he Qa hQ
 obtain ⟨u,hrun,hv⟩:=hs rfl y a hok hH he
 have hN':d<a.tmps.size:=by rw [hsz]; exact Bx hN
 refine ⟨u,.inl ⟨by simp [Region.wanted,hg],hrun⟩,?_⟩
 rw [hd]
 exact hr y (a.put (some d) u) hok hH hn (by simpa [Act.put] using hsz) (he.put hN' hv) Qa fun s' a' k1 k2 k3 k4 k5 k6 k7=>hQ s' a' k1 k2 k3 k4 k5 k6 k7
def Jp (P:Program) (o:Oper) (R:AU) (h:AM) (n:Nat) (v:AV) (h':AM) (n':Nat):Prop:=
 ∀ (x:Cx) (a:Act),x.ok→x.H=hget h→x.n=n→BF x R a → ∀ (K:Act→World→Prop) (Q:Exit→Act→World→Prop),
  (∀ (u:Value) (y:Cx),x.le y→y.ok→y.H=hget h'→y.n=n'→AL y v u→(∀ b,b<x.w.heap.size→y.w.heap[b]? = x.w.heap[b]?)→K (a.put o.dst u) y.w)→o.wp P a x.w K Q
def AA (P:Program) (ops:Array Oper) (rest:List Oper) (s:St) (K:St→Prop):Prop:=
 ∀ (y0 y:Cx) (a:Act),y0.ok→y0.le y→CA y0 y.w→y.ok→y.H=hget s.h→y.n=s.n→a.tmps.size=s.N→BF y s.e a → ∀ (Q:Exit→Act→World→Prop) (Qa:Act→World→Prop),
  (∀ s' a' y',K s'→y0.le y'→y'.ok→y'.H=hget s'.h→y'.n=s'.n→s'.N=s.N→a'.tmps.size=s.N→a'.defers=a.defers→BF y' s'.e a'→Qa a' y'.w)→LV P ops Q (CA y0) Qa rest a y.w
theorem AA.nil (h:K s):AA P ops [] s K:=fun _ y a _ hle _ hok hH hn hN he _ _ hQ=>hQ s a y h hle hok hH hn rfl hN rfl he
theorem AA.step {d:Nat} {v:AV} {h':AM} {n':Nat} (hg:o.guard=none) (hd:o.dst=some d) (hN:Nat.blt d s.N=true) (hs:Jp P o s.e s.h s.n v h' n')
  (hr:AA P ops rest { e:=(d,v) :: s.e,h:=h',n:=n',N:=s.N } K):AA P ops (o :: rest) s K:=by
 intro y0 y a hok0 hle hag hok hH hn hsz he Q Qa hQ
 have hN':d<a.tmps.size:=by rw [hsz]; exact Bx hN
 refine ⟨hg,hs y a hok hH hn he _ _ fun u y' k1 k2 k3 k4 k5 k6=>?_⟩
 have hag':CA y0 y'.w:=by
  intro b hb
  have hlt:b<y0.w.heap.size:=by
   rcases hb with hb | ⟨id,o,k,h1,h2⟩
   ·exact hok0.S_lt b hb
   ·exact (hok0.own' id o b k h1 h2).1
  rw [k6 b (Nat.lt_of_lt_of_le hlt hle.size)]
  exact hag b hb
 refine ⟨hag',?_⟩
 rw [hd]
 exact hr y0 y' (a.put (some d) u) hok0 (hle.trans k1) hag' k2 k3 k4 (by simpa [Act.put] using hsz) ((he.mono k1).put hN' k5) Q Qa fun s' a' y' j1 j2 j3 j4 j5 j6 j7 j8=>hQ s' a' y' j1 j2 j3 j4 j5 j6 j7 j8
def LI (ops:Array Oper) (fl hq al:List Nat) (n:Nat):Bool:=
 let r0:=Array.replicate ops.size false
 let l0:=CG r0 fl
 let l1:=CG l0 hq
 let l2:=CG l1 al
 Region.noSelect ops && decide (n<ops.size) && J0 .any ops n l0 && Region.chainB .any ops n && GY .any ops fl r0 && GY .any ops hq l0 && Kd .any ops al l1
  && Region.seqB .any ops (ops.size-n) n l2 && decide (fl.length+hq.length+al.length=n) && (hq.all fun i=>decide (i<n)) && ((List.range ops.size).all fun t=>decide (t<n) || !l0.getD t true)
theorem Na (is:List Nat) (l:Array Bool):(CG l is).size=l.size:=by
 induction is generalizing l with
 | nil=>rfl
 | cons i is ih=>show (CG (l.setIfInBounds i true) is).size=_; rw [ih]; simp
theorem NA (y:Cx):CA y y.w:=fun _ _=>rfl
theorem VW {id:Nat} {l:List Oper} {Q:Exit→St→Prop} (fl hq al:List Nat) (n:Nat) {lf lh la lt:List Oper} (hm:P.follows .mixedOrders=true) (hB:LI l.toArray fl hq al n=true)
  (e1:fl.map (fun i=>l.toArray[i]?)=lf.map some) (e2:hq.map (fun i=>l.toArray[i]?)=lh.map some) (e3:al.map (fun i=>l.toArray[i]?)=la.map some) (e4:l.drop n=lt)
  (h:DZ P l.toArray lf s fun s1=>AF P l.toArray lh s1 fun s2=>AA P l.toArray la s2 fun s3=>AS P l.toArray lt s3 (Q .normal)):AW P (.region id l.toArray true) Q s:=by
 intro z0 hz0 c0 a w ⟨_,hdef,hsz,y,hyw,hle,hok,hH,hn,he⟩
 subst hyw
 obtain ⟨r1,r2⟩:=Ms hok
 simp only [LI,Bool.and_eq_true,decide_eq_true_eq] at hB
 obtain ⟨⟨⟨⟨⟨⟨⟨⟨⟨⟨b1,b2⟩,b3⟩,b4⟩,b5⟩,b6⟩,b7⟩,b8⟩,b9⟩,b10⟩,b11⟩:=hB
 refine wpIn_mono (Q:=fun e a' w'=>e = .normal ∧ ∃ s',Q .normal s'∧DT c0 s' a' w') ?_ fun e a' w' ⟨k1,k2⟩=>by subst k1; exact ⟨by simp,k2⟩
 refine Jm (fun hlo=>by obtain ⟨_,_,h1,_⟩:=hlo; cases h1) hm hz0 ?_
 have hQ:Lk (fun (e:Exit) (a':Act) (w':World)=>e = .normal ∧ ∃ s',Q .normal s'∧DT c0 s' a' w'):=fun c a w h=>by cases h.1
 generalize hz:({ y with w:={ y.w with drawn:=y.w.drawn+1 } } : Cx)=z at r1 r2
 have hzw:z.w = { y.w with drawn:=y.w.drawn+1 }:=by rw [← hz]
 have hzH:z.H=hget s.h:=by rw [← hz]; exact hH
 have hzn:z.n=s.n:=by rw [← hz]; exact hn
 rw [← hzw]
 have hsize:l.toArray.size=(l.toArray.size-n)+al.length+hq.length+fl.length:=by omega
 have goal:=Ou (P:=P) (md:=.any) (f:=(l.toArray.size-n)+al.length+hq.length) b1 hQ fl lf (Array.replicate l.toArray.size false) a z.w e1 b5
  (h z a r2 hzH hzn hsz (he.mono r1) _ fun s1 a1 k1 k2 k3 k4 k5 k6 k7=>by
   rw [show l.toArray.size-n+al.length+hq.length=(al.length+hq.length)+(l.toArray.size-n) by omega]
   refine Oz (S:=CA z) (L:=fun listed a' w'=>listed=CG (CG (CG (Array.replicate l.toArray.size false) fl) hq) al∧wpList P l.toArray (fun e a' w'=>e = .normal ∧ ∃ s',Q .normal s'∧DT c0 s' a' w') lt a' w') (fun listed a' w' ⟨q1,q2⟩=>?_) _ _ _ _ ?_
   ·subst q1; subst e4
    have hdl:(l.drop n).length=l.toArray.size-n:=by simp
    have:=wpAny_of_seq (md:=.any) (l.drop n) n _ a' w' (fun j=>by simp [List.getElem?_drop]) (by rw [hdl]; exact b8) q2
    rwa [hdl] at this
   ·refine Nz (n:=n) (l0:=CG (Array.replicate l.toArray.size false) fl) b1 hQ b3 b4 b2 (fun listed a' w' ⟨q1,_⟩ j hj=>by subst q1; exact seqB_ready b8 j hj) (NA z) hq lh _ a1 e2 b6
     (fun i hi=>by simpa using (List.all_eq_true.1 b10 i hi)) ⟨by rw [Na]; simp,fun j oj _ hl=>.inl hl,fun t ht htl=>?_,fun _ h=>h⟩ ?_
    ·have:=List.all_eq_true.1 b11 t (List.mem_range.2 htl)
     simp only [Bool.or_eq_true,decide_eq_true_eq,Bool.not_eq_true'] at this
     rcases this with h | h
     ·omega
     ·exact h
    ·refine k1 z a1 r2 (by rw [k2]; exact hzH) (by rw [k3]; exact hzn) (by rw [k4,k5]) k7 _ fun s2 a2 m1 m2 m3 m4 m5 m6 m7=>?_
     refine PM (n:=n) (l0:=CG (Array.replicate l.toArray.size false) fl) al la _ a2 z.w e3 b7 ?_
     refine m1 z z a2 r2 (.refl z) (NA z) r2 (by rw [m2,k2]; exact hzH) (by rw [m3,k3]; exact hzn) (by rw [m4,m5]) m7 _ _ fun s3 a3 y3 t1 t2 t3 t4 t5 t6 t7 t8 t9=>⟨rfl,?_⟩
     exact t1 c0 a3 y3.w ⟨_,t8.trans (m6.trans (k6.trans hdef)),by rw [t7,t6],y3,rfl,(hle.trans r1).trans t2,t3,t4,t5,t9⟩ _ fun s'' a'' w'' j1 j2=>⟨rfl,s'',j1,j2⟩)
 have e:l.toArray.size-n+al.length+hq.length+fl.length=l.toArray.size:=by omega
 rw [e] at goal
 exact goal
end
section
variable {P:Program} {o:Oper} {R:AU} {h:AM} {n:Nat}
theorem RZ {t e:TypeId} {sz by_ len:Nat} {parts:Array (Nat × Operand)} (id:Nat) {rows:List (List RV)} (ho:o.op = .buildSlice t len parts) (ht:CF P t e sz by_)
  (hp:Gr true R 0 parts.toList rows) (hlen:rows.length=len) (hrow : ∀ row∈rows,row.length=sz) (hsmall:Nat.ble (len * sz) 16777216=true) :
  Jp P o R h n (.own id n) ((id,some (.arr n e sz rows)) :: h) (n+1):=by
 intro z w hok hH hn he K Q hK
 have hc:true=true:=rfl
 obtain ⟨ht1,ii,zv,hi,hisz,_,hz,hzs,_,h0⟩:=ht
 have hsm:len * sz≤16777216:=Nat.le_of_ble_eq_true hsmall
 have hlm:len≤len * sz:=Nat.le_mul_of_pos_right _ h0
 obtain ⟨hpl,hpg⟩:=hp.get
 have hinit : ∃ init:Array Value,init.size=len * sz ∧ ∀ W,(Instr.buildSlice t len (parts.map fun (i,x)=>(i,w.eval x))).run P W =
   match Instr.fill (fun i=>some (i * sz,sz)) init (parts.toList.map fun (i,x)=>(i,w.eval x)) with
   | some cells=>.ok (.slice (some ⟨W.heap.size,0,none⟩) len len) (W.alloc (.cells cells e))
   | none => .halt (.stuck "buildSlice: a part of the wrong size") W := by
  refine ⟨(Array.range (len * sz)).map (fun i=>(if len * sz=0 then #[] else zv.cells)[i % (if len * sz=0 then #[] else zv.cells).size]!),by simp,fun W=>?_⟩
  have hnot : ¬ 2 ^ 24<len * sz:=by omega
  by_cases hl0:len * sz=0
  ·simp only [Instr.buildSlice,Sem.run_bind,run_underlying ht1,Result.andThen_ok,CR hi,hisz,hl0]
   simp
   split <;> simp_all [newRow,Instr.fill]
  ·simp only [Instr.buildSlice,Sem.run_bind,run_underlying ht1,Result.andThen_ok,CR hi,hisz]
   simp only [hnot,hl0,zeroValue,typeInfo,if_false,Sem.run_bind,run_program,Result.andThen_ok,hi,hz,Sem.run_pure,Array.toList_map]
   generalize Instr.fill _ _ _=r
   cases r <;> simp [newRow]
 obtain ⟨init,hisize,hrun⟩:=hinit
 obtain ⟨us',f1,f2,_,f4⟩:=LE sz (parts.toList.map fun (i,x)=>(i,w.eval x)) 0 init (fun j p hj=>by
  simp only [List.getElem?_map,Option.map_eq_some_iff] at hj
  obtain ⟨q,hq,rfl⟩:=hj
  obtain ⟨h1,row,a,h2,h3,h4⟩:=hpg j q hq
  refine ⟨by simpa using h1,?_⟩
  rw [(Js h4 (h3.rep he hc)).1]
  exact hrow row (List.mem_of_getElem? h2)) (by rw [hisize]; simp only [List.length_map,hpl,hlen,Nat.zero_add]; exact Nat.le_refl _)
 obtain ⟨y,k1,k2,k3,k4,k5,k6⟩:=OB hok id e sz rows us' h0 hrow (by rw [f2,hisize,hlen]) (by unfold maxLen; omega) (fun i row k d h1 h2=>by
  have hi':i<parts.toList.length:=by rw [hpl]; exact (List.getElem?_eq_some_iff.1 h1).1
  obtain ⟨_,row',a,h3,h4,h5⟩:=hpg i _ (List.getElem?_eq_getElem hi')
  rw [h1] at h3; cases h3
  obtain ⟨u,h6,h7⟩:=(Js h5 (h4.rep he hc)).2 k d h2
  refine ⟨u,?_,h7⟩
  have hk:k<sz:=by rw [← hrow row (List.mem_of_getElem? h1)]; exact (List.getElem?_eq_some_iff.1 h2).1
  have:=f4 i (parts.toList[i].1,w.eval parts.toList[i].2) k (by simp [List.getElem?_map,List.getElem?_eq_getElem hi']) hk
  rw [Nat.zero_add] at this
  rw [this]; exact h6)
 unfold Oper.wp execOp
 simp only [ho,Sem.run_bind,hrun,f1,Result.andThen_ok,Sem.run_pure]
 have:=hK _ y k1 k2 (by rw [k4,hH,hn,Br]) (by rw [k5,hn]) (by rw [← hn]; exact k6) (fun b hb=>by rw [k3]; exact heap_alloc_old _ _ hb)
 rw [k3,hlen] at this
 exact this
theorem OS {α:Type} {f:α→List RV} {t e:TypeId} {sz by_ len:Nat} {parts:Array (Nat × Operand)} (id:Nat) {l:List α} (ho:o.op = .buildSlice t len parts) (ht:CF P t e sz by_)
  (hp:Gr true R 0 parts.toList (l.map f)) (hlen:l.length=len) (hrow : ∀ a,(f a).length=sz) (hsmall:Nat.ble (len * sz) 16777216=true) :
  Jp P o R h n (.own id n) ((id,some (.arr n e sz (l.map f))) :: h) (n+1):=
 RZ id ho ht hp (by rw [List.length_map]; exact hlen) (fun row hr=>by obtain ⟨a,_,rfl⟩:=List.mem_map.1 hr; exact hrow a) hsmall
end
end Go.Proofs.Ytelkfhdgmbahgaa.Al
namespace Go.Proofs.Ytelkfhdgmbahgaa.Al
def pick (l:List Oper):List Nat→List Oper
 | []=>[]
 | i :: is=>match l[i]? with
  | some o=>o :: pick l is
  | none=>pick l is
theorem MK {l:List Oper} {is:List Nat} (h:(is.all fun i=>Nat.blt i l.length)=true):is.map (fun i=>l.toArray[i]?)=(pick l is).map some:=by
 induction is with
 | nil=>rfl
 | cons i is ih=>
  simp only [List.all_cons,Bool.and_eq_true] at h
  have hi:=Bx h.1
  rw [List.map_cons,ih h.2,pick,List.getElem?_eq_getElem hi]
  simp [hi]
theorem Ks {P:Program} {s:St} {id:Nat} {l:List Oper} {Q:Exit→St→Prop} (fl hq al:List Nat) (n:Nat) {lf lh la lt:List Oper} (hm:P.follows .mixedOrders=true) (hB:LI l.toArray fl hq al n=true)
  (hi:((fl++hq++al).all fun i=>Nat.blt i l.length)=true) (e1:pick l fl=lf) (e2:pick l hq=lh) (e3:pick l al=la) (e4:l.drop n=lt)
  (h:DZ P l.toArray lf s fun s1=>AF P l.toArray lh s1 fun s2=>AA P l.toArray la s2 fun s3=>AS P l.toArray lt s3 (Q .normal)):AW P (.region id l.toArray true) Q s:=by
 subst e1; subst e2; subst e3
 simp only [List.all_append,Bool.and_eq_true] at hi
 exact VW fl hq al n hm hB (MK hi.1.1) (MK hi.1.2) (MK hi.2) e4 h
end Go.Proofs.Ytelkfhdgmbahgaa.Al
namespace Go.Proofs.Ytelkfhdgmbahgaa.Al
section
variable {P:Program} {o:Oper} {R:AU} {h:AM} {n:Nat}
theorem NJ {t:TypeId} {x:Operand} {a:AV} (id:Nat) {cs:List AV} (ho:o.op = .box t x) (hx:Ev true R x a) (hcs:BE a=cs) (h1:cs.all AV.one=true):Jp P o R h n (.ptr id n 0 0) ((id,some (.box n t cs)) :: h) (n+1):=by
 subst hcs
 intro z w hok hH hn he K Q hK
 obtain ⟨y,k1,k2,k3,k4,k5,k6⟩:=MH hok id t a (hx.rep he rfl) (fun b hb=>List.all_eq_true.1 h1 b hb)
 unfold Oper.wp execOp
 rw [ho]
 simp only [Instr.box,Sem.run_bind,Kx,Result.andThen_ok,Sem.run_pure]
 have:=hK (.pointer (some ⟨z.w.heap.size,0,none⟩)) y k1 k2 (by rw [k4,hH,hn,Br]) (by rw [k5,hn]) (by rw [← hn]; exact k6) (fun b hb=>by rw [k3]; exact heap_alloc_old _ _ hb)
 rw [k3] at this
 exact this
end
structure PO where
 d:Option Nat
 v:(Nat→Nat)→AV
 hp:Option (Nat × ((Nat→Nat)→Option AR))
 dep:List Nat
def PO.wE (p:PO):Option (Nat × ((Nat→Nat)→AV)):=match p.d with | some d=>some (d,p.v) | none=>none
def PO.wH (p:PO):Option (Nat × ((Nat→Nat)→Option AR)):=p.hp
section
variable {α:Type} (wr:PO→Option (Nat × ((Nat→Nat)→α))) (D:Nat→Bool) (G:Nat→Nat)
def Cb:List (Nat × α)→List PO→Nat→List (Nat × α)
 | e,[],_=>e
 | e,p :: L,k=>match D k with
  | true=>match wr p with
   | some (d,v)=>Cb ((d,v G) :: e) L (k+1)
   | none=>Cb e L (k+1)
  | false=>Cb e L (k+1)
def EM (t:Nat) (L:List PO) (k:Nat):Prop:=∀ (j:Nat) (p:PO) v,L[j]? = some p→D (k+j)=true→wr p≠some (t,v)
end
theorem EM.tail {α:Type} {wr:PO→Option (Nat × ((Nat→Nat)→α))} {D:Nat→Bool} {t:Nat} {p:PO} {L:List PO} {k:Nat} (h:EM wr D t (p :: L) k):EM wr D t L (k+1):=
 fun j q v h1 h2=>h (j+1) q v (by simpa using h1) (by rwa [show k+(j+1)=k+1+j by omega])
section
variable {α:Type} {wr:PO→Option (Nat × ((Nat→Nat)→α))} {D:Nat→Bool} {G:Nat→Nat} {lk:List (Nat × α)→Nat→α} (hlk : ∀ d v R t,lk ((d,v) :: R) t=if d=t then v else lk R t)
include hlk
theorem Ea {t:Nat} : ∀ (L:List PO) (e:List (Nat × α)) (k:Nat),EM wr D t L k→lk (Cb wr D G e L k) t=lk e t
 | [],_,_,_=>rfl
 | p :: L,e,k,h=>by
  unfold Cb
  cases hD:D k with
  | false=>exact Ea L e (k+1) h.tail
  | true=>
   cases hw:wr p with
   | none=>exact Ea L e (k+1) h.tail
   | some q=>
    obtain ⟨d,v⟩:=q
    have hdt:d≠t:=fun e=>h 0 p v rfl hD (by rw [hw,e])
    exact (Ea L _ (k+1) h.tail).trans (by rw [hlk,if_neg hdt])
theorem GV {t:Nat} {p:PO} {v:(Nat→Nat)→α} (hw:wr p=some (t,v)) : ∀ (L:List PO) (e:List (Nat × α)) (k j:Nat),L[j]? = some p→D (k+j)=true→EM wr D t (L.drop (j+1)) (k+j+1)→lk (Cb wr D G e L k) t=v G
 | [],_,_,_,h,_,_=>by simp at h
 | q :: L,e,k,0,h1,h2,h3=>by
  cases h1
  unfold Cb
  rw [show D k=true from h2,hw]
  exact (Ea hlk L _ (k+1) (by simpa using h3)).trans (by rw [hlk,if_pos rfl])
 | q :: L,e,k,j+1,h1,h2,h3=>by
  have h1':L[j]? = some p:=by simpa using h1
  have h2':D (k+1+j)=true:=by rwa [show k+1+j=k+(j+1) by omega]
  have h3':EM wr D t (L.drop (j+1)) (k+1+j+1):=by rw [show k+1+j+1=k+(j+1)+1 by omega]; simpa using h3
  unfold Cb
  cases D k with
  | false=>exact GV hw L e (k+1) j h1' h2' h3'
  | true=>
   cases wr q with
   | none=>exact GV hw L e (k+1) j h1' h2' h3'
   | some r=>exact GV hw L _ (k+1) j h1' h2' h3'
theorem FH {t:Nat} {D':Nat→Bool} {G':Nat→Nat} : ∀ (L:List PO) (e e':List (Nat × α)) (k:Nat),lk e' t=lk e t →
  (∀ (j:Nat) (p:PO) v,L[j]? = some p→wr p=some (t,v)→D' (k+j)=D (k+j)∧(D (k+j)=true→v G'=v G))→lk (Cb wr D' G' e' L k) t=lk (Cb wr D G e L k) t
 | [],_,_,_,h,_=>h
 | p :: L,e,e',k,h,hw=>by
  have ht : ∀ (j:Nat) (q:PO) v,L[j]? = some q→wr q=some (t,v)→D' (k+1+j)=D (k+1+j)∧(D (k+1+j)=true→v G'=v G):=fun j q v h1 h2=>by
   have:=hw (j+1) q v (by simpa using h1) h2
   rwa [show k+(j+1)=k+1+j by omega] at this
  unfold Cb
  cases hp:wr p with
  | none=>
   have ih:=FH L e e' (k+1) h ht
   cases D' k <;> cases D k <;> exact ih
  | some q=>
   obtain ⟨d,v⟩:=q
   by_cases hdt:d=t
   ·subst hdt
    obtain ⟨h1,h2⟩:=hw 0 p v rfl hp
    rw [Nat.add_zero] at h1 h2
    rw [h1]
    cases hD:D k with
    | false=>exact FH L e e' (k+1) h ht
    | true=>exact FH L _ _ (k+1) (by rw [hlk,hlk,if_pos rfl,if_pos rfl,h2 hD]) ht
   ·have e1:lk ((d,v G') :: e') t=lk e' t:=by rw [hlk,if_neg hdt]
    have e2:lk ((d,v G) :: e) t=lk e t:=by rw [hlk,if_neg hdt]
    cases D' k <;> cases D k
    ·exact FH L _ _ (k+1) h ht
    ·exact FH L _ _ (k+1) (by rw [e2]; exact h) ht
    ·exact FH L _ _ (k+1) (by rw [e1]; exact h) ht
    ·exact FH L _ _ (k+1) (by rw [e1,e2]; exact h) ht
end
abbrev C4 (D:Nat→Bool) (G:Nat→Nat) (e:AU) (L:List PO):AU:=Cb PO.wE D G e L 0
abbrev DJ (D:Nat→Bool) (G:Nat→Nat) (h:AM) (L:List PO):AM:=Cb PO.wH D G h L 0
def CJ (G:Nat→Nat) (i n:Nat):Nat→Nat:=fun k=>if k=i then n else G k
section
variable {P:Program} {ops:Array Oper}
def wt (ops:Array Oper):Nat→Nat→Nat→Bool
 | 0,_,_=>false
 | f+1,j,i=>Region.waitsFor .any ops j i || (List.range j).any fun m=>Region.waitsFor .any ops j m && wt ops f m i
def Cl (ops:Array Oper) (D:Nat→Bool):Prop:=∀ j k,D j=true→Region.waitsFor .any ops j k=true→D k=true
theorem Cl.wt {D:Nat→Bool} (h:Cl ops D) : ∀ (f j i:Nat),Al.wt ops f j i=true→D j=true→D i=true
 | 0,_,_,h1,_=>by cases h1
 | f+1,j,i,h1,h2=>by
  unfold Al.wt at h1
  rw [Bool.or_eq_true] at h1
  rcases h1 with h1 | h1
  ·exact h j i h2 h1
  ·obtain ⟨m,_,h3⟩:=List.any_eq_true.1 h1
   rw [Bool.and_eq_true] at h3
   exact h.wt f m i h3.2 (h j m h2 h3.1)
structure Bv (ops:Array Oper) (D:Nat→Bool) (i:Nat):Prop where
 cl:Cl ops D
 hw : ∀ k,Region.waitsFor .any ops i k=true→D k=true
 un:D i=false
theorem Bv.yes {D:Nat→Bool} {i:Nat} (h:Bv ops D i) {k:Nat} (hk:Al.wt ops 40 i k=true):D k=true:=by
 unfold Al.wt at hk
 rw [Bool.or_eq_true] at hk
 rcases hk with hk | hk
 ·exact h.hw k hk
 ·obtain ⟨m,_,h3⟩:=List.any_eq_true.1 hk
  rw [Bool.and_eq_true] at h3
  exact h.cl.wt 39 m k h3.2 (h.hw m h3.1)
theorem Bv.no {D:Nat→Bool} {i:Nat} (h:Bv ops D i) {k:Nat} (hk:Al.wt ops 40 k i=true):D k=false:=by
 cases hD:D k with
 | false=>rfl
 | true=>have:=h.cl.wt 40 k i hk hD; rw [h.un] at this; cases this
def EQ (c0:Cx) (s:St) (L:List PO) (listed:Array Bool) (a:Act) (w:World):Prop:=
 ∃ ds,a.defers=ds∧a.tmps.size=s.N ∧ ∃ (y:Cx) (G:Nat→Nat),y.w=w∧c0.leM ds y∧y.ok∧(∀ id,y.H id=hget (DJ (fun k=>listed.getD k false) G s.h L) id) ∧
  (∀ t,AL y (get (C4 (fun k=>listed.getD k false) G s.e L) t) (a.tmps.getD t undef))
def Ds (P:Program) (o:Oper) (R:AU) (h:AM) (n:Nat) (v:AV) (h':AM):Prop:=
 ∀ (x:Cx) (a:Act),x.ok→x.H=hget h→x.n=n→BF x R a → ∀ (K:Act→World→Prop) (Q:Exit→Act→World→Prop),
  (∀ (u:Value) (y:Cx),x.le y→y.ok→y.H=hget h'→AL y v u→K (a.put o.dst u) y.w)→o.wp P a x.w K Q
theorem A9.toN {o:Oper} {R:AU} {h:AM} {n:Nat} {v:AV} {h':AM} {n':Nat} (hs:A9 P true o R h n v h' n'):Ds P o R h n v h':=
 fun x a h1 h2 h3 h4 K Q hK=>hs rfl x a h1 h2 h3 h4 K Q fun u y k1 k2 k3 _ k5=>hK u y k1 k2 k3 k5
def Ob (P:Program) (ops:Array Oper) (s:St) (L:List PO) (i:Nat) (p:PO) (o:Oper):Prop:=
 o.dst=p.d∧(∀ d,p.d=some d→Nat.blt d s.N=true) ∧ ∀ (D:Nat→Bool) (G:Nat→Nat) (e:AU) (h:AM) (n:Nat),Bv ops D i →
  (∀ t,get e t=get (C4 D G s.e L) t)→(∀ id,hget h id=hget (DJ D G s.h L) id) →
  (o.guard=none ∧ ∃ h',Ds P o e h n (p.v (CJ G i n)) h'∧(∀ id,hget h' id=match p.hp with | some (j,ob)=>if j=id then ob (CJ G i n) else hget h id | none=>hget h id)) ∨
  (p.hp=none ∧ ∃ c v0,p.v (CJ G i n) = .whn c v0∧D3 e ops o c∧(c=true → ∃ h2,Ds P o e h n v0 h2 ∧ ∀ id,hget h2 id=hget h id))
def HV (L:List PO) (t:Nat):Bool:=L.all fun p=>match p.d with | some d=>!Nat.beq d t | none=>true
def ME (L:List PO) (t:Nat):Bool:=L.all fun p=>match p.hp with | some (d,_)=>!Nat.beq d t | none=>true
def Fp:List PO→Bool
 | []=>true
 | p :: L=>(match p.d with | some d=>HV L d | none=>true) && Fp L
def H1 (ops:Array Oper) (L:List PO):Bool:=(List.range L.length).all fun j=>(List.range j).all fun i=>match L[i]?.bind (·.hp),L[j]?.bind (·.hp) with
 | some (a,_),some (b,_)=>!Nat.beq a b || wt ops 40 j i
 | _,_=>true
theorem Tp {L:List PO} {t:Nat} (h:HV L t=true) {j:Nat} {p:PO} (hj:L[j]? = some p):p.d≠some t:=fun hd=>by
 have:=List.all_eq_true.1 h p (List.mem_of_getElem? hj)
 rw [hd] at this
 simp at this
theorem Ri {L:List PO} {t:Nat} (h:ME L t=true) {j:Nat} {p:PO} (hj:L[j]? = some p) : ∀ ob,p.hp≠some (t,ob):=fun ob hd=>by
 have:=List.all_eq_true.1 h p (List.mem_of_getElem? hj)
 rw [hd] at this
 simp at this
theorem LP {p:PO} {t:Nat} {v} (h:p.wE=some (t,v)):p.d=some t∧v=p.v:=by
 unfold PO.wE at h
 split at h
 ·rename_i d hd; simp only [Option.some.injEq,Prod.mk.injEq] at h; rw [hd,h.1]; exact ⟨rfl,h.2.symm⟩
 ·cases h
theorem PU {p:PO} {t:Nat} (h:p.d=some t):p.wE=some (t,p.v):=by unfold PO.wE; rw [h]
theorem KJ {p:PO} {t:Nat} {v} (h:p.wH=some (t,v)) : ∃ ob,p.hp=some (t,ob)∧v=ob:=⟨v,h,rfl⟩
theorem PC {p:PO} {t:Nat} {ob} (h:p.hp=some (t,ob)):p.wH=some (t,ob):=h
theorem PI : ∀ {L:List PO},Fp L=true → ∀ {j:Nat} {p:PO} {t:Nat},L[j]? = some p→p.d=some t→HV (L.drop (j+1)) t=true
 | [],_,_,_,_,h,_=>by simp at h
 | q :: L,h,0,p,t,h1,h2=>by
  cases h1
  simp only [Fp,Bool.and_eq_true,h2] at h
  simpa using h.1
 | q :: L,h,j+1,p,t,h1,h2=>by
  simp only [Fp,Bool.and_eq_true] at h
  simpa using PI h.2 (j:=j) (by simpa using h1) h2
theorem L9 {L:List PO} {t:Nat} (h:HV L t=true) {D:Nat→Bool} {k:Nat} : EM PO.wE D t L k:=fun _ _ _ h1 _ h3=>Tp h h1 (LP h3).1
theorem Sj {L:List PO} {t:Nat} (h:ME L t=true) {D:Nat→Bool} {k:Nat} : EM PO.wH D t L k:=fun _ _ _ h1 _ h3=>by obtain ⟨ob,h4,_⟩:=KJ h3; exact Ri h h1 ob h4
theorem QO {L:List PO} (hB:H1 ops L=true) {D:Nat→Bool} (hcl:Cl ops D) {i:Nat} {p:PO} {t:Nat} {ob} (hp:L[i]? = some p) (ht:p.hp=some (t,ob)) (hun:D i=false):EM PO.wH D t (L.drop (i+1)) (i+1):=by
 intro j q v h1 h2 h3
 obtain ⟨Pu,h4,_⟩:=KJ h3
 rw [List.getElem?_drop] at h1
 have hlt:i+1+j<L.length:=(List.getElem?_eq_some_iff.1 h1).1
 have:=List.all_eq_true.1 (List.all_eq_true.1 hB (i+1+j) (List.mem_range.2 hlt)) i (List.mem_range.2 (by omega))
 simp only [hp,h1,Option.bind_some,ht,h4,Bool.or_eq_true,Bool.not_eq_true'] at this
 rcases this with h5 | h5
 ·simp at h5
 ·have:=hcl.wt 40 _ _ h5 h2
  rw [hun] at this; cases this
def It (ops:Array Oper) (L:List PO):Bool:=(List.range L.length).all fun j=>match L[j]? with
 | some p=>p.dep.all fun k=>Nat.beq k j || wt ops 40 j k
 | none=>true
def F6:List PO→Prop
 | []=>True
 | p :: L=>(∀ G G':Nat→Nat,(∀ k,p.dep.contains k=true→G k=G' k)→p.v G'=p.v G ∧ ∀ id ob,p.hp=some (id,ob)→ob G'=ob G)∧F6 L
theorem F6.at : ∀ {L:List PO},F6 L → ∀ {j:Nat} {p:PO},L[j]? = some p → ∀ G G':Nat→Nat,(∀ k,p.dep.contains k=true→G k=G' k)→p.v G'=p.v G ∧ ∀ id ob,p.hp=some (id,ob)→ob G'=ob G
 | _ :: _,h,0,_,hj=>by cases hj; exact h.1
 | _ :: _,h,j+1,_,hj=>F6.at h.2 (j:=j) (by simpa using hj)
theorem R6 {L:List PO} (hB:It ops L=true) {D:Nat→Bool} (hcl:Cl ops D) {j:Nat} {p:PO} (hp:L[j]? = some p) (hl:D j=true) {k:Nat} (hk:p.dep.contains k=true):D k=true:=by
 have hlt:j<L.length:=(List.getElem?_eq_some_iff.1 hp).1
 have h1:=List.all_eq_true.1 hB j (List.mem_range.2 hlt)
 simp only [hp] at h1
 have h2:=List.all_eq_true.1 h1 k (by simpa using hk)
 simp only [Bool.or_eq_true] at h2
 rcases h2 with h2 | h2
 ·rw [Nat.eq_of_beq_eq_true h2]; exact hl
 ·exact hcl.wt 40 _ _ h2 hl
theorem EQ.put {c0:Cx} {s:St} {L:List PO} {listed:Array Bool} {a:Act} {i:Nat} {p:PO} {y z:Cx} {G:Nat→Nat} {u:Value} (hp:L[i]? = some p) (hN : ∀ d,p.d=some d→Nat.blt d s.N=true) (hE:Fp L=true) (hH:H1 ops L=true)
  (hD:It ops L=true) (hLoc:F6 L) (hi:i<listed.size) (hr:Bv ops (fun k=>listed.getD k false) i) {ds:List Deferred} (hdef:a.defers=ds) (hsz:a.tmps.size=s.N) (hle:c0.leM ds y)
  (he : ∀ t,AL y (get (C4 (fun k=>listed.getD k false) G s.e L) t) (a.tmps.getD t undef)) (hyz:y.le z) (hzok:z.ok)
  (hzH : ∀ id,z.H id=match p.hp with | some (j,ob)=>if j=id then ob (CJ G i y.n) else hget (DJ (fun k=>listed.getD k false) G s.h L) id | none=>hget (DJ (fun k=>listed.getD k false) G s.h L) id)
  (hv:AL z (p.v (CJ G i y.n)) u):EQ c0 s L (listed.setIfInBounds i true) (a.put p.d u) z.w:=by
 have hD' : ∀ k,(listed.setIfInBounds i true).getD k false=(listed.getD k false || decide (k=i)):=fun k=>by
  by_cases hk:i=k
  ·subst hk; simp [hi]
  ·rw [getD_set_ne false hk]; simp [Ne.symm hk]
 have hsame : ∀ k,k≠i→(listed.setIfInBounds i true).getD k false=listed.getD k false:=fun k hk=>by rw [hD']; simp [hk]
 have hval : ∀ (j:Nat) (q:PO),L[j]? = some q→listed.getD j false=true→q.v (CJ G i y.n)=q.v G ∧ ∀ id ob,q.hp=some (id,ob)→ob (CJ G i y.n)=ob G:=fun j q hj hl=>by
  refine hLoc.at hj G _ fun k hk=>?_
  have hlk:=R6 hD hr.cl hj hl hk
  have:k≠i:=fun e=>by subst e; rw [hr.un] at hlk; cases hlk
  simp [CJ,this]
 have hdi:(fun k=>(listed.setIfInBounds i true).getD k false) (0+i)=true:=by show (listed.setIfInBounds i true).getD (0+i) false=true; rw [Nat.zero_add,hD']; simp
 refine ⟨ds,by cases hdd:p.d <;> simpa [Act.put,hdd] using hdef,?_,z,CJ G i y.n,rfl,hle.trans hyz,hzok,fun id=>?_,fun t=>?_⟩
 ·cases hdd:p.d <;> simpa [Act.put,hdd] using hsz
 ·rw [hzH]
  have rest:(∀ ob,p.hp≠some (id,ob))→hget (DJ (fun k=>listed.getD k false) G s.h L) id=hget (DJ (fun k=>(listed.setIfInBounds i true).getD k false) (CJ G i y.n) s.h L) id:=fun hne=>by
   refine (FH BS L _ _ 0 rfl fun j q v h1 h2=>?_).symm
   obtain ⟨ob,h4,h5⟩:=KJ h2
   have hji:j≠i:=fun e=>by subst e; rw [hp] at h1; cases h1; exact hne ob h4
   rw [Nat.zero_add]
   exact ⟨hsame j hji,fun hl=>by rw [h5]; exact (hval j q h1 hl).2 id ob h4⟩
  cases hhp:p.hp with
  | none=>exact rest fun ob=>by rw [hhp]; simp
  | some r=>
   obtain ⟨j,ob⟩:=r
   by_cases hj:j=id
   ·subst hj
    simp only [if_true]
    have hlater:=QO hH hr.cl hp hhp hr.un
    refine (GV BS (PC hhp) L _ 0 i hp hdi ?_).symm
    rw [Nat.zero_add]
    intro m q v h1 h2 h3
    exact hlater m q v h1 ((hsame _ (by omega)).symm.trans h2) h3
   ·simp only [if_neg hj]
    exact rest fun ob'=>by rw [hhp]; intro e; cases e; exact hj rfl
 ·by_cases hpt:p.d=some t
  ·have e1:get (C4 (fun k=>(listed.setIfInBounds i true).getD k false) (CJ G i y.n) s.e L) t=p.v (CJ G i y.n):=
    GV By (PU hpt) L _ 0 i hp hdi (L9 (PI hE hp hpt))
   have hN':t<a.tmps.size:=by rw [hsz]; exact Bx (hN t hpt)
   rw [e1,hpt]
   simp only [Act.put,LO hN',if_true]
   exact hv
  ·have e1:get (C4 (fun k=>(listed.setIfInBounds i true).getD k false) (CJ G i y.n) s.e L) t=get (C4 (fun k=>listed.getD k false) G s.e L) t:=by
    refine FH By L _ _ 0 rfl fun j q v h1 h2=>?_
    obtain ⟨h4,h5⟩:=LP h2
    have hji:j≠i:=fun e=>by subst e; rw [hp] at h1; cases h1; exact hpt h4
    rw [Nat.zero_add]
    exact ⟨hsame j hji,fun hl=>by rw [h5]; exact (hval j q h1 hl).1⟩
   rw [e1]
   have h0:=(he t).mono hyz
   cases hdd:p.d with
   | none=>exact h0
   | some d=>
    have hdt:d≠t:=fun e=>hpt (by rw [hdd,e])
    have hN':d<a.tmps.size:=by rw [hsz]; exact Bx (hN d hdd)
    simp only [Act.put,LO hN',if_neg hdt]
    exact h0
theorem EQ.step {c0:Cx} {s:St} {L:List PO} {listed:Array Bool} {a:Act} {w:World} {i:Nat} {p:PO} {o:Oper} {Q:Exit→Act→World→Prop} (hp:L[i]? = some p) (ho:ops[i]? = some o) (hOb:Ob P ops s L i p o) (hE:Fp L=true) (hH:H1 ops L=true)
  (hD:It ops L=true) (hLoc:F6 L) (hi:i<listed.size) (hr:Bv ops (fun k=>listed.getD k false) i) (hinv:EQ c0 s L listed a w) :
  wpOp P ops Q i (EQ c0 s L (listed.setIfInBounds i true)) a w:=by
 obtain ⟨_,hdef,hsz,y,G,hyw,hle,hok,hyH,he⟩:=hinv
 subst hyw
 obtain ⟨hd,hN,hob⟩:=hOb
 unfold wpOp
 simp only [ho]
 rcases hob (fun k=>listed.getD k false) G _ _ y.n hr (fun t=>rfl) (fun id=>rfl) with ⟨hg,h',hspec,hh'⟩ | ⟨hhp,c,v0,hv0,hG,hspec⟩
 ·rw [if_pos (by simp [Region.wanted,hg])]
  refine .inl (hspec y a hok (funext fun id=>hyH id) rfl (fun t=>he t) _ Q fun u z hyz hzok hzH hv=>?_)
  rw [hd]
  exact EQ.put hp hN hE hH hD hLoc hi hr hdef hsz hle he hyz hzok (fun id=>by rw [hzH]; exact hh' id) hv
 ·have hw:Region.wanted o (yielded ops a.tmps)=c:=D3.wanted (s:=⟨_,[],0,0⟩) hG (fun t=>he t)
  rw [hw]
  cases c with
  | true=>
   obtain ⟨h2,hs2,hh2⟩:=hspec rfl
   rw [if_pos rfl]
   refine .inl (hs2 y a hok (funext fun id=>hyH id) rfl (fun t=>he t) _ Q fun u z hyz hzok hzH hv=>?_)
   rw [hd]
   refine EQ.put hp hN hE hH hD hLoc hi hr hdef hsz hle he hyz hzok (fun id=>by rw [hzH,hhp]; exact hh2 id) ?_
   rw [hv0]; exact .whn (fun _=>hv) (fun h=>by cases h)
  | false=>
   rw [if_neg (by decide),hd]
   refine EQ.put hp hN hE hH hD hLoc hi hr hdef hsz hle he (.refl y) hok (fun id=>by rw [hhp]; exact hyH id) ?_
   rw [hv0]; exact .whn (fun h=>by cases h) (fun _=>rfl)
def GQ (e:AU):AU→Prop
 | []=>True
 | (t,a) :: r=>get e t=a∧GQ e r
def Ga (e:AM):AM→Prop
 | []=>True
 | (t,a) :: r=>hget e t=a∧Ga e r
theorem LL {e0 e:AU} (he : ∀ t,get e t=get e0 t) : ∀ (r:AU),GQ e0 r → ∀ t,get (r++e) t=get e0 t
 | [],_,t=>he t
 | (t0,a) :: r,⟨h1,h2⟩,t=>by
  rw [List.cons_append,By]
  split
  ·rename_i ht; subst ht; exact h1.symm
  ·exact LL he r h2 t
theorem Lz {e0 e:AM} (he : ∀ t,hget e t=hget e0 t) : ∀ (r:AM),Ga e0 r → ∀ t,hget (r++e) t=hget e0 t
 | [],_,t=>he t
 | (t0,a) :: r,⟨h1,h2⟩,t=>by
  rw [List.cons_append,BS]
  split
  ·rename_i ht; subst ht; exact h1.symm
  ·exact Lz he r h2 t
theorem Ds.same {o:Oper} {R R':AU} {h h':AM} {n:Nat} {v:AV} {h2:AM} (hs:Ds P o R h n v h2) (hR : ∀ t,get R' t=get R t) (hh : ∀ id,hget h' id=hget h id):Ds P o R' h' n v h2:=by
 intro x a hok hH hn he K Q hK
 exact hs x a hok (by rw [hH]; exact funext hh) hn (fun t=>by rw [← hR]; exact he t) K Q hK
theorem VZ {s:St} {L:List PO} {i:Nat} {p:PO} {o:Oper} (hg:o.guard=none) (hd:o.dst=p.d) (hN : ∀ d,p.d=some d→Nat.blt d s.N=true) (hp:p.hp=none) (ie:(Nat→Nat)→AU) (ih:(Nat→Nat)→AM)
  (hE : ∀ D G,Bv ops D i→GQ (C4 D G s.e L) (ie G)) (hH : ∀ D G,Bv ops D i→Ga (DJ D G s.h L) (ih G))
  (hv : ∀ G n,p.v (CJ G i n)=p.v G) (h : ∀ G e h' n,∃ h2,Ds P o (ie G++e) (ih G++h') n (p.v G) h2 ∧ ∀ id,hget h2 id=hget (ih G++h') id):Ob P ops s L i p o:=by
 refine ⟨hd,hN,fun D G e h' n hr he hh=>.inl ⟨hg,?_⟩⟩
 have g1:=LL he _ (hE D G hr)
 have g2:=Lz hh _ (hH D G hr)
 obtain ⟨h2,k1,k2⟩:=h G e h' n
 refine ⟨h2,?_,fun id=>by rw [hp,k2,g2,hh]⟩
 rw [hv]
 exact k1.same (fun t=>by rw [g1,he]) (fun id=>by rw [g2,hh])
theorem Kv {s:St} {L:List PO} {i:Nat} {p:PO} {o:Oper} {n1:Nat→Nat} (hg:o.guard=none) (hd:o.dst=p.d) (hN : ∀ d,p.d=some d→Nat.blt d s.N=true) (hp:p.hp=none) (ie:(Nat→Nat)→AU) (ih:(Nat→Nat)→AM)
  (hE : ∀ D G,Bv ops D i→GQ (C4 D G s.e L) (ie G)) (hH : ∀ D G,Bv ops D i→Ga (DJ D G s.h L) (ih G))
  (hv : ∀ G n,p.v (CJ G i n)=p.v G) (h : ∀ G e h' n,A9 P true o (ie G++e) (ih G++h') n (p.v G) (ih G++h') (n1 n)):Ob P ops s L i p o:=
 VZ hg hd hN hp ie ih hE hH hv fun G e h' n=>⟨_,(h G e h' n).toN,fun _=>rfl⟩
theorem Pq {s:St} {L:List PO} {i:Nat} {p:PO} {o:Oper} {id:Nat} {ob:(Nat→Nat)→Option AR} (hg:o.guard=none) (hd:o.dst=p.d) (hN : ∀ d,p.d=some d→Nat.blt d s.N=true) (hp:p.hp=some (id,ob)) (ie:(Nat→Nat)→AU) (ih:(Nat→Nat)→AM)
  (hE : ∀ D G,Bv ops D i→GQ (C4 D G s.e L) (ie G)) (hH : ∀ D G,Bv ops D i→Ga (DJ D G s.h L) (ih G))
  (h : ∀ (G:Nat→Nat) e h' n,Ds P o (ie G++e) (ih G++h') n (p.v (CJ G i n)) ((id,ob (CJ G i n)) :: (ih G++h'))):Ob P ops s L i p o:=by
 refine ⟨hd,hN,fun D G e h' n hr he hh=>.inl ⟨hg,?_⟩⟩
 have g1:=LL he _ (hE D G hr)
 have g2:=Lz hh _ (hH D G hr)
 refine ⟨_,(h G e h' n).same (fun t=>by rw [g1,he]) (fun j=>by rw [g2,hh]),fun j=>?_⟩
 rw [hp,BS]
 simp only
 split
 ·rfl
 ·rw [g2,hh]
theorem D7 {s:St} {L:List PO} {i:Nat} {p:PO} {o:Oper} {id:Nat} {ob:(Nat→Nat)→Option AR} {n1:Nat→Nat} (hg:o.guard=none) (hd:o.dst=p.d) (hN : ∀ d,p.d=some d→Nat.blt d s.N=true) (hp:p.hp=some (id,ob)) (ie:(Nat→Nat)→AU) (ih:(Nat→Nat)→AM)
  (hE : ∀ D G,Bv ops D i→GQ (C4 D G s.e L) (ie G)) (hH : ∀ D G,Bv ops D i→Ga (DJ D G s.h L) (ih G))
  (h : ∀ (G:Nat→Nat) e h' n,A9 P true o (ie G++e) (ih G++h') n (p.v (CJ G i n)) ((id,ob (CJ G i n)) :: (ih G++h')) (n1 n)):Ob P ops s L i p o:=
 Pq hg hd hN hp ie ih hE hH fun G e h' n=>(h G e h' n).toN
theorem Ds.frz {o:Oper} {R:AU} {h:AM} {n id g:Nat} {e:TypeId} {sz:Nat} {xs:List (List RV)} (hs:Ds P o R h n (.own id g) ((id,some (.arr g e sz xs)) :: h)):Ds P o R h n (.r (.sl xs)) ((id,none) :: h):=by
 intro x a hok hH hn he K Q hK
 refine hs x a hok hH hn he K Q fun u y k1 k2 k3 k4=>?_
 have hHid:y.H id=some (.arr g e sz xs):=by rw [k3,BS,if_pos rfl]
 let y':Cx:={ y with S:=fun b=>y.S b ∨ ∃ k,y.β id=some (b,k),H:=hget ((id,none) :: h) }
 have hsub : ∀ i o,y'.H i=some o→i≠id∧y.H i=some o:=by
  intro i o ho
  simp only [y',BS] at ho
  split at ho
  ·cases ho
  ·rename_i hne
   refine ⟨fun e=>hne e.symm,?_⟩
   rw [k3,BS,if_neg hne]; exact ho
 have hle':y.le y':=⟨Nat.le_refl _,rfl,rfl,rfl,fun _ _=>rfl,fun _ h=>.inl h,rfl,Nat.le_refl _,fun i o ho _=>⟨o,(hsub i o ho).2,rfl,rfl,rfl⟩,fun i o ho hf _ _=>⟨o,(hsub i o ho).2,hf,rfl,rfl,rfl,rfl⟩⟩
 have hok':y'.ok:=by
  refine ⟨fun b hb=>?_,k2.F_lt,fun b hb=>?_,fun i o ho=>?_,fun i o b k ho hb=>?_,fun i i' o o' b k k' ho ho'=>k2.inj i i' o o' b k k' (hsub _ _ ho).2 (hsub _ _ ho').2,k2.extOf (fun i o ho=>⟨o,(hsub i o ho).2⟩) rfl rfl (Nat.le_refl _) (fun i o b k ho ha hS=>hS.elim (k2.own' i o b k (hsub i o ho).2 ha).2.1 fun ⟨k',hb⟩=>(hsub i o ho).1 (k2.inj' (hsub i o ho).2 hHid ha (.inl hb))) (fun i o b k ho ha=>(k2.own' i o b k (hsub i o ho).2 ha).2.2),k2.tabs.le hle'⟩
  ·rcases hb with hb | ⟨k,hb⟩
   ·exact k2.S_lt b hb
   ·exact (k2.own id _ b k hHid hb).1
  ·rcases hb with hb | ⟨k,hb⟩
   ·exact k2.SF b hb
   ·exact (k2.own id _ b k hHid hb).2.2
  ·obtain ⟨j1,j2⟩:=k2.obj i o (hsub _ _ ho).2
   exact ⟨j1,j2.mono hle' (fun _ _ _=>rfl) fun _ _ _ _=>rfl⟩
  ·obtain ⟨j1,j2,j3⟩:=k2.own i o b k (hsub _ _ ho).2 hb
   refine ⟨j1,?_,j3⟩
   rintro (h1 | ⟨k',h1⟩)
   ·exact j2 h1
   ·exact (hsub _ _ ho).1 (k2.inj i id o _ b k k' (hsub _ _ ho).2 hHid hb h1)
 exact hK u y' (k1.trans hle') hok' rfl (.r (KH k2 hHid k4 (fun _ h=>.inl h) (fun b k hb=>.inr ⟨k,hb⟩)))
end
section
variable {ops:Array Oper} {D:Nat→Bool} {G:Nat→Nat} {e:AU} {h:AM} {L:List PO} {t:Nat}
theorem P6 (hB:HV L t=true) {a:AV} (ha:get e t=a):get (C4 D G e L) t=a:=(Ea By L e 0 (L9 hB)).trans ha
theorem QF {i:Nat} (hr:Bv ops D i) (j:Nat) {p:PO} {a:AV} (hj:L[j]? = some p) (hd:p.d=some t) (hw:wt ops 40 i j=true) (hB:HV (L.drop (j+1)) t=true) (ha:p.v G=a):get (C4 D G e L) t=a:=
 (GV By (PU hd) L e 0 j hj (by rw [Nat.zero_add]; exact hr.yes hw) (L9 hB)).trans ha
theorem UZ (hB:ME L t=true) {a:Option AR} (ha:hget h t=a):hget (DJ D G h L) t=a:=(Ea BS L h 0 (Sj hB)).trans ha
def IM (ops:Array Oper) (i t:Nat):List PO→Nat→Bool
 | [],_=>true
 | p :: L,k=>(match p.hp with | some (d,_)=>!Nat.beq d t || Nat.beq k i || wt ops 40 k i | none=>true) && IM ops i t L (k+1)
theorem MJ {i:Nat} (hr:Bv ops D i) : ∀ {L:List PO} {k:Nat},IM ops i t L k=true→EM PO.wH D t L k
 | [],_,_=>fun j _ _ h=>by simp at h
 | q :: L,k,hB=>by
  simp only [IM,Bool.and_eq_true] at hB
  intro j p v h1 h2 h3
  match j with
  | 0=>
   cases h1
   obtain ⟨ob,h4,_⟩:=KJ h3
   rw [h4] at hB
   simp only [Bool.or_eq_true,Bool.not_eq_true'] at hB
   rcases hB.1 with (h5 | h5) | h5
   ·simp at h5
   ·rw [Nat.add_zero,Nat.eq_of_beq_eq_true h5,hr.un] at h2; cases h2
   ·rw [Nat.add_zero,hr.no h5] at h2; cases h2
  | j+1=>exact MJ hr hB.2 j p v (by simpa using h1) (by rwa [show k+1+j=k+(j+1) by omega]) h3
theorem Ee {i:Nat} (hr:Bv ops D i) (hB:IM ops i t L 0=true) {a:Option AR} (ha:hget h t=a):hget (DJ D G h L) t=a:=(Ea BS L h 0 (MJ hr hB)).trans ha
theorem Ew {i:Nat} (hr:Bv ops D i) (j:Nat) {p:PO} {ob} {a:Option AR} (hj:L[j]? = some p) (hd:p.hp=some (t,ob)) (hw:wt ops 40 i j=true) (hB:IM ops i t (L.drop (j+1)) (j+1)=true) (ha:ob G=a):hget (DJ D G h L) t=a:=
 (GV BS (PC hd) L h 0 j hj (by rw [Nat.zero_add]; exact hr.yes hw) (by rw [Nat.zero_add]; exact MJ hr hB)).trans ha
end
section
variable {P:Program} {ops:Array Oper}
def N0 (ops:Array Oper) (n:Nat):Bool:=(List.range n).all fun i=>match ops[i]? with | some o=>o.after.all fun e=>!Region.binds .any e || decide (e.on<i) | none=>false
def G6 (P:Program) (ops:Array Oper) (s:St) (L0:List PO):Nat→List PO→List Oper→Prop
 | _,[],_=>True
 | _,_ :: _,[]=>False
 | i,p :: L,o :: l=>Ob P ops s L0 i p o∧G6 P ops s L0 (i+1) L l
theorem G6.at {s:St} {L0:List PO} : ∀ {L:List PO} {l:List Oper} {i0:Nat},G6 P ops s L0 i0 L l → ∀ {j:Nat} {p:PO} {o:Oper},L[j]? = some p→l[j]? = some o→Ob P ops s L0 (i0+j) p o
 | _ :: _,_ :: _,i0,h,0,_,_,h1,h2=>by cases h1; cases h2; exact h.1
 | _ :: L,_ :: l,i0,h,j+1,p,o,h1,h2=>by
  have:=G6.at (j:=j) h.2 (p:=p) (o:=o) (by simpa using h1) (by simpa using h2)
  rwa [show i0+(j+1)=i0+1+j by omega]
 | _ :: _,[],_,h,_,_,_,_,_=>h.elim
 | [],_,_,_,_,_,_,h1,_=>by simp at h1
def Cg (listed:Array Bool):Nat→Nat
 | 0=>0
 | n+1=>Cg listed n+(if listed.getD n false then 0 else 1)
theorem Pb {listed:Array Bool} {i:Nat} (hi:i<listed.size) (hun:listed.getD i false=false) : ∀ n,Cg (listed.setIfInBounds i true) n+(if i<n then 1 else 0)=Cg listed n
 | 0=>by simp [Cg]
 | n+1=>by
  have ih:=Pb hi hun n
  unfold Cg
  by_cases hin:i=n
  ·subst hin
   rw [hun]
   have:(listed.setIfInBounds i true).getD i false=true:=by simp [hi]
   rw [this]
   simp at ih ⊢
   exact ih
  ·rw [getD_set_ne false hin]
   have:(i<n+1)↔(i<n):=by omega
   simp only [this]
   omega
theorem NL {listed : Array Bool} : ∀ {n : Nat}, 0 < Cg listed n → ∃ i, i < n ∧ listed.getD i false = false ∧ ∀ j, j < i → listed.getD j false = true
  | 0, h => by simp [Cg] at h
  | n + 1, h => by
    by_cases h0 : 0 < Cg listed n
    · obtain ⟨i, h1, h2, h3⟩ := NL h0
      exact ⟨i, by omega, h2, h3⟩
    · have hall : ∀ m, m ≤ n → Cg listed m = 0 := by
        intro m hm
        have : Cg listed m ≤ Cg listed n := by
          clear h h0
          induction n with
          | zero => have : m = 0 := by omega
                    subst this; exact Nat.le_refl _
          | succ n ih =>
            by_cases hmn : m = n + 1
            · subst hmn; exact Nat.le_refl _
            · exact Nat.le_trans (ih (by omega)) (Nat.le_add_right ..)
        omega
      unfold Cg at h
      refine ⟨n, by omega, ?_, fun j hj => ?_⟩
      · cases hl : listed.getD n false with
        | false => rfl
        | true => rw [hl] at h; simp at h; omega
      · have := hall (j + 1) (by omega)
        unfold Cg at this
        cases hl : listed.getD j false with
        | true => rfl
        | false => rw [hl] at this; simp at this
theorem OI {listed:Array Bool} : ∀ {n:Nat},Cg listed n=0 → ∀ j,j<n→listed.getD j false=true
 | 0,_,j,hj=>by omega
 | n+1,h,j,hj=>by
  unfold Cg at h
  by_cases hjn:j=n
  ·subst hjn
   cases hl:listed.getD j false with
   | true=>rfl
   | false=>rw [hl] at h; simp at h
  ·exact OI (n:=n) (by omega) j (by omega)
theorem Oy {listed:Array Bool} (h : ∀ j,listed.getD j false=false) : ∀ n,Cg listed n=n
 | 0=>rfl
 | n+1=>by unfold Cg; rw [Oy h n,h n]; simp
theorem VO {c0:Cx} {s:St} {L:List PO} {n g:Nat} {l:List Oper} {Q:Exit→Act→World→Prop} (hl:l.toArray=ops) (hn0:n=ops.size∨(n<ops.size∧Region.sinkB .any ops n=true∧Region.chainB .any ops n=true)) (hLn:L.length=n) (hback:N0 ops n=true)
  (hD:It ops L=true) (hE:Fp L=true) (hH:H1 ops L=true) (hLoc:F6 L) (hOb:G6 P ops s L 0 L l)
  (hend : ∀ listed a w,HeadInv .any ops n listed→(∀ j,j<n→listed.getD j false=true)→EQ c0 s L listed a w→wpAny P .any ops Q g listed a w) :
  ∀ (f:Nat) (listed:Array Bool) (a:Act) (w:World),Cg listed n=f→HeadInv .any ops n listed→EQ c0 s L listed a w→wpAny P .any ops Q (f+g) listed a w:=by
 have hn:n≤ops.size:=by rcases hn0 with h | h <;> omega
 intro f
 induction f with
 | zero=>
  intro listed a w hcnt inv hinv
  rw [Nat.zero_add]
  exact hend listed a w inv (OI hcnt) hinv
 | succ f ih=>
  intro listed a w hcnt inv hinv
  rw [show f+1+g=(f+g)+1 by omega]
  obtain ⟨i0,hi0,hun0,hbefore⟩:=NL (listed:=listed) (n:=n) (by omega)
  have hs0:i0<listed.size:=by rw [inv.size]; omega
  have hready0:i0∈Region.ready .any ops listed:=by
   refine mem_ready.2 ⟨getD_in hs0 hun0,?_⟩
   have hio : ∃ o,ops[i0]? = some o:=⟨ops[i0]'(by omega),by simp [Array.getElem?_eq_getElem (show i0<ops.size by omega)]⟩
   obtain ⟨o,ho⟩:=hio
   refine ⟨o,ho,fun e he hb=>?_⟩
   have h1:=List.all_eq_true.1 hback i0 (List.mem_range.2 hi0)
   simp only [ho] at h1
   have h2:=(Array.all_eq_true_iff_forall_mem.1 h1) e he
   simp only [hb,Bool.not_true,Bool.false_or,decide_eq_true_eq] at h2
   exact hbefore _ h2
  refine ⟨fun h=>(by rw [h] at hready0; cases hready0),fun i hi=>?_⟩
  have hin:i<n:=by
   rcases Nat.lt_or_ge i n with h | h
   ·exact h
   ·rcases hn0 with e | ⟨hn1,hs,hc⟩
    ·obtain ⟨_,o,ho,_⟩:=mem_ready.1 hi
     have:=(Array.getElem?_eq_some_iff.1 ho).1
     omega
    ·exact absurd hi (tail_waits hs hc hn1 inv _ i0 rfl hi0 (getD_in hs0 hun0) i h)
  obtain ⟨hun,o,ho,hall⟩:=mem_ready.1 hi
  have hunf:=getD_both hun
  have his:i<listed.size:=by rw [inv.size]; omega
  obtain ⟨p,hp⟩ : ∃ p,L[i]? = some p:=⟨L[i]'(by omega),by simp [List.getElem?_eq_getElem (show i<L.length by omega)]⟩
  have hol:l[i]? = some o:=by rw [← ho,← hl]; simp
  have hob:=hOb.at hp hol
  rw [Nat.zero_add] at hob
  have hrd:Bv ops (fun k=>listed.getD k false) i:=by
   refine ⟨fun j k hj hk=>?_,fun k hk=>?_,hunf⟩
   ·obtain ⟨oj,hoj,e,he,hb,hon⟩:=Region.waitsFor_spec hk
    rw [← hon]; exact inv.closed j oj hoj hj e he hb
   ·obtain ⟨oi,hoi,e,he,hb,hon⟩:=Region.waitsFor_spec hk
    have:oi=o:=Option.some.inj (hoi.symm.trans ho)
    subst this
    rw [← hon]; exact hall e he hb
  have step:=EQ.step (Q:=Q) hp ho hob hE hH hD hLoc his hrd hinv
  refine wpOp_mono (fun a' w' h'=>ih _ a' w' ?_ (inv.set hi hin) h') step
  have:=Pb his hunf n
  rw [if_pos hin] at this
  omega
def Pd (ops:Array Oper) (n:Nat) (L:List PO):Bool:=
 (Nat.beq n ops.size || (decide (n<ops.size) && Region.sinkB .any ops n && Region.chainB .any ops n)) && decide (L.length=n) && N0 ops n && It ops L && Fp L && H1 ops L
  && Region.seqB .any ops (ops.size-n) n (CG (Array.replicate ops.size false) (List.range n))
theorem Nk : ∀ (is:List Nat) (l:Array Bool) (j:Nat),(∀ i∈is,i<l.size)→(CG l is).getD j false=(l.getD j false || is.contains j)
 | [],l,j,_=>by simp [CG]
 | i :: is,l,j,h=>by
  show (CG (l.setIfInBounds i true) is).getD j false=_
  rw [Nk is _ j (fun k hk=>by simp; exact h k (List.mem_cons_of_mem _ hk))]
  by_cases hij:i=j
  ·subst hij
   have:=h i (List.mem_cons_self ..)
   simp [this]
  ·rw [getD_set_ne false hij]
   simp [Ne.symm hij]
theorem Lv {α:Type} {wr:PO→Option (Nat × ((Nat→Nat)→α))} {D D':Nat→Bool} {G:Nat→Nat} : ∀ (L:List PO) (e:List (Nat × α)) (k:Nat),(∀ j,k≤j→j<k+L.length→D j=D' j)→Cb wr D G e L k=Cb wr D' G e L k
 | [],_,_,_=>rfl
 | p :: L,e,k,h=>by
  have h0:=h k (Nat.le_refl _) (by simp)
  have ih:=fun e=>Lv (wr:=wr) (G:=G) L e (k+1) (fun j h1 h2=>h j (by omega) (by simp; omega))
  unfold Cb
  rw [h0]
  simp only [ih]
theorem FR {id:Nat} {l:List Oper} {s:St} {Q:Exit→St→Prop} (n:Nat) (L:List PO) {lt:List Oper} (hm:P.follows .mixedOrders=true) (hB:Pd l.toArray n L=true) (hLoc:F6 L) (e4:l.drop n=lt)
  (hOb:G6 P l.toArray s L 0 L l)
  (h : ∀ (G:Nat→Nat) (n':Nat),AS P l.toArray lt ⟨C4 (fun _=>true) G s.e L,DJ (fun _=>true) G s.h L,n',s.N⟩ (Q .normal)):AW P (.region id l.toArray true) Q s:=by
 intro z0 hz0 c0 a w ⟨_,hdef,hsz,y,hyw,hle,hok,hH,hn,he⟩
 subst hyw
 obtain ⟨r1,r2⟩:=Ms hok
 simp only [Pd,Bool.and_eq_true,decide_eq_true_eq] at hB
 obtain ⟨⟨⟨⟨⟨⟨b0,b2⟩,b3⟩,b6⟩,b7⟩,b8⟩,b9⟩:=hB
 have b1:n=l.toArray.size∨(n<l.toArray.size∧Region.sinkB .any l.toArray n=true∧Region.chainB .any l.toArray n=true):=by
  rw [Bool.or_eq_true] at b0
  rcases b0 with h | h
  ·exact .inl (Nat.eq_of_beq_eq_true h)
  ·simp only [Bool.and_eq_true,decide_eq_true_eq] at h
   exact .inr ⟨h.1.1,h.1.2,h.2⟩
 have hnle:n≤l.toArray.size:=by rcases b1 with h | h <;> omega
 refine Jm Kr hm hz0 ?_
 generalize hz:({ y with w:={ y.w with drawn:=y.w.drawn+1 } } : Cx)=z at r1 r2
 have hzw:z.w = { y.w with drawn:=y.w.drawn+1 }:=by rw [← hz]
 have hzH:z.H=hget s.h:=by rw [← hz]; exact hH
 rw [← hzw]
 have hrep : ∀ j,(Array.replicate l.toArray.size false).getD j false=false:=getD_replicate_false _
 have key:=VO (P:=P) (c0:=c0) (s:=s) (L:=L) (n:=n) (g:=l.toArray.size-n) (l:=l) (Q:=Dz c0 Q) rfl b1 b2 b3 b6 b7 b8 hLoc hOb
  (fun listed a' w' inv hall hinv=>by
   have hlisted:listed=CG (Array.replicate l.toArray.size false) (List.range n):=by
    have hsz1:listed.size=(CG (Array.replicate l.toArray.size false) (List.range n)).size:=by rw [inv.size,Na]; simp
    refine Array.ext hsz1 fun j h1 h2=>?_
    have h3:=Nk (List.range n) (Array.replicate l.toArray.size false) j (fun i hi=>by have:=List.mem_range.1 hi; rw [Array.size_replicate]; omega)
    rw [hrep] at h3
    have e1:listed[j]=listed.getD j false:=by unfold Array.getD; rw [dif_pos h1]; rfl
    have e2:(CG (Array.replicate l.toArray.size false) (List.range n))[j]=(CG (Array.replicate l.toArray.size false) (List.range n)).getD j false:=by unfold Array.getD; rw [dif_pos h2]; rfl
    rw [e1,e2,h3]
    by_cases hj:j<n
    ·rw [hall j hj]; simp [hj]
    ·have hjl:j<l.toArray.size:=by rw [inv.size] at h1; exact h1
     rw [getD_both (inv.tail j (by omega) hjl)]; simp [hj]
   obtain ⟨_,i1,i2,z',G,i3,i4,i5,i6,i7⟩:=hinv
   subst i3
   have hdl:(l.drop n).length=l.toArray.size-n:=by simp
   have hD : ∀ j,0≤j→j<0+L.length→(fun _=>true) j=(fun k=>listed.getD k false) j:=fun j _ hj=>(hall j (by omega)).symm
   have:=wpAny_of_seq (P:=P) (md:=.any) (ops:=l.toArray) (Q':=Dz c0 Q) (l.drop n) n listed a' z'.w (fun j=>by simp [List.getElem?_drop]) (by rw [hdl,hlisted]; exact b9) ?_
   ·rwa [hdl] at this
   ·rw [e4]
    refine h G z'.n c0 a' z'.w ⟨_,i1,i2,z',rfl,i4,i5,funext fun id=>?_,rfl,fun t=>?_⟩ _ fun s'' a'' w'' j1 j2=>⟨by simp,s'',j1,j2⟩
    ·rw [i6]; show _=hget (Cb _ _ _ _ _ _) _; rw [Lv L _ 0 hD]
    ·show AL z' (get (Cb _ _ _ _ _ _) t) _
     rw [Lv L _ 0 hD]; exact i7 t)
  n (Array.replicate l.toArray.size false) a z.w (Oy hrep n)
  ⟨by simp,fun j oj _ hl=>(by rw [hrep] at hl; cases hl),fun t _ ht=>getD_in (by simpa using ht) (hrep _)⟩
  ⟨_,hdef,hsz,z,fun _=>0,rfl,hle.trans r1,r2,fun id=>by rw [hzH]; exact (Ea BS L _ 0 fun j p _ _ h1=>by rw [hrep] at h1; cases h1).symm,fun t=>by
   have e1:get (C4 (fun k=>(Array.replicate l.toArray.size false).getD k false) (fun _=>0) s.e L) t=get s.e t:=Ea By L _ 0 fun j p _ _ h1=>by rw [hrep] at h1; cases h1
   rw [e1]
   exact (he t).mono r1⟩
 have e:n+(l.toArray.size-n)=l.toArray.size:=by omega
 rw [e] at key
 exact key
end
section
variable {P:Program} {c:Bool} {o:Oper} {R:AU} {h:AM}
def G0 (P:Program) (t:TypeId) (n:Nat) (e:TypeId):Prop:=P.underlying t=some (.array n e)∧BK P e
theorem O6 {f g:Nat→Option (Nat × Nat)} (hfg : ∀ i p,f i=some p→g i=some p) : ∀ (ps:List (Nat × Value)) (us us':Array Value),Instr.fill f us ps=some us'→Instr.fill g us ps=some us'
 | [],_,_,h=>h
 | (i,v) :: ps,us,us',h=>by
  unfold Instr.fill at h ⊢
  cases hf:f i with
  | none=>rw [hf] at h; cases h
  | some p=>
   obtain ⟨off,sz⟩:=p
   rw [hf] at h
   rw [hfg i _ hf]
   simp only at h ⊢
   split at h
   ·cases h
   ·rename_i hc
    rw [if_neg hc]
    exact O6 hfg ps _ _ h
def H5 (P:Program) (t:TypeId) (places:List (Nat × Nat)) (z:List Value):Prop:=
 ∃ n e sz,P.underlying t=some (.array n e)∧(∃ i,P.info? e=some i∧i.size=sz)∧(∀ i p,places[i]? = some p→p=(i * sz,sz)) ∧ ∃ i,P.info? t=some i∧i.zero=some (.agg z.toArray)
theorem QC {t:TypeId} {parts:Array (Nat × Operand)} {places:List (Nat × Nat)} {z:List Value} {q:List (Nat × AV)} {cs:List AV} (ho:o.op = .build t parts) (ht:H5 P t places z)
  (hp:KZ c R places z.length parts.toList q) (hcs:IB (z.map Fi) q=cs):AX P c o R h (.agg cs):=by
 intro hc y a _ _ he
 subst hcs
 obtain ⟨n,e,sz,h1,⟨ie,h5,h6⟩,h2,i,h3,h4⟩:=ht
 obtain ⟨us',f1,f2,f3⟩:=Lm hc he parts.toList q z.toArray (z.map Fi) (by simp) (fun j b u k1 k2=>by
  have k2':z[j]? = some u:=by simpa using k2
  rw [List.getElem?_map,k2'] at k1
  simp only [Option.map_some,Option.some.injEq] at k1
  subst k1; exact IN y u) (by rw [List.length_map]; exact hp)
 refine ⟨.agg us',fun w2 _=>?_,.agg f2.symm fun j b u k1 k2=>f3 j b u k1 k2⟩
 have f1':=O6 (g:=fun i=>some (i * sz,sz)) (fun i p hp=>by rw [h2 i p hp]) _ _ _ f1
 unfold execOp
 rw [ho]
 simp only [Instr.build,zeroValue,typeInfo,Sem.run_bind,run_program,Result.andThen_ok,h3,Sem.run_pure,h4,run_underlying h1,CR h5,h6,Value.cells,Array.toList_map]
 rw [f1']
 rfl
theorem Rr {t:TypeId} {n:Nat} {e:TypeId} {x y:Operand} {cs:List AV} {k:IntKind} {z:Int} {a:AV} (ho:o.op = .index t x y) (ht:G0 P t n e) (hx:Ev c R x (.agg cs)) (hy:Ev c R y (.r (.int k z)))
  (hn:cs.length=n) (h0:c=true→0≤z) (ha:c=true→cs[z.toNat]? = some a):AX P c o R h a:=by
 intro hc w0 w _ _ he
 obtain ⟨h1,d,i,h2,h3,h4,h5⟩:=ht
 have hv:=hx.rep he hc
 generalize hw:w.eval x=v at hv
 cases hv with
 | @agg _ us hl hall=>
  have hz:=ha hc
  have hi:z.toNat<us.size:=by have:=(List.getElem?_eq_some_iff.1 hz).1; omega
  refine ⟨us[z.toNat],fun w2 _=>?_,hall z.toNat a us[z.toNat] hz (Array.getElem?_eq_getElem hi)⟩
  have hin:0≤z∧z<n:=⟨h0 hc,by omega⟩
  unfold execOp
  rw [ho]
  simp [hw,DQ (hy.rep he hc),Instr.index,asIntOf,run_underlying h1,hin,CR h4,h5,part,GO h2,h3,Array.getElem?_eq_getElem hi]
theorem Uf {α:Type} {t:TypeId} {n:Nat} {e:TypeId} {x y:Operand} {f:α→AV} {l:List α} {k:IntKind} {z:Int} {a:α} (ho:o.op = .index t x y) (ht:G0 P t n e) (hx:Ev c R x (.agg (l.map f))) (hy:Ev c R y (.r (.int k z)))
  (hn:l.length=n) (ha:c=true→AN l z=some a):AX P c o R h (f a):=
 Rr ho ht hx hy (by rw [List.length_map]; exact hn) (fun hc=>(Dm (ha hc)).1) (fun hc=>by rw [List.getElem?_map,(Dm (ha hc)).2.1]; rfl)
theorem G0.of {t:TypeId} {n:Nat} {e:TypeId} (h1:P.underlying t=some (.array n e)) (h2:BK P e):G0 P t n e:=⟨h1,h2⟩
theorem H5.of {t:TypeId} {n:Nat} {e:TypeId} {sz b sz':Nat} {ze:Value} {be:Nat} {places:List (Nat × Nat)} {zs:List Value} (h1:P.underlying t=some (.array n e))
  (h2:(P.info? e).map (fun i=>(i.zero,i.size,i.bytes))=some (some ze,sz,be)) (h4 : ∀ i p,places[i]? = some p→p=(i * sz,sz)) (h3:(P.info? t).map (fun i=>(i.zero,i.size,i.bytes))=some (some (.agg zs.toArray),sz',b)):H5 P t places zs:=by
 cases hi:P.info? t with
 | none=>rw [hi] at h3; cases h3
 | some i=>
  rw [hi] at h3
  simp only [Option.map_some,Option.some.injEq,Prod.mk.injEq] at h3
  exact ⟨n,e,sz,h1,EV h2,h4,i,hi,h3.1⟩
theorem SZ {places:List (Nat × Nat)} {sz:Nat} (h:(List.range places.length).all (fun i=>match places[i]? with | some p=>p.1 == i * sz && p.2 == sz | none=>false)=true) : ∀ i p,places[i]? = some p→p=(i * sz,sz):=by
 intro i p hp
 have:=List.all_eq_true.1 h i (List.mem_range.2 (List.getElem?_eq_some_iff.1 hp).1)
 simp only [hp,Bool.and_eq_true,beq_iff_eq] at this
 obtain ⟨p1,p2⟩:=p
 simp only at this
 rw [this.1,this.2]
end
section
variable {P:Program} {c:Bool} {o:Oper} {R:AU} {h:AM} {n:Nat}
def HX (cs:List RV) (k:Nat) (vs:List RV):List RV:=cs.take k++vs++cs.drop (k+vs.length)
theorem Tz {t:TypeId} {x y:Operand} {id g i k m:Nat} {e:TypeId} {sz:Nat} {xs:List (List RV)} {row ds:List RV} {a:AV} (ho:o.op = .store t x y) (ht : ∃ i,P.info? t=some i∧i.size=m)
  (hx:Ev c R x (.ptr id g i k)) (hh:hget h id=some (.arr g e sz xs)) (hrow:xs[i]? = some row) (hy:Ev c R y a) (hd:JH a=some ds) (hm:ds.length=m) (hk:k+ds.length≤row.length) :
  A9 P c o R h n .any ((id,some (.arr g e sz (xs.set i (HX row k ds)))) :: h) n:=by
 intro hc z w hok hH hn he K Q hK
 obtain ⟨ii,hi,hisz⟩:=ht
 have hHid:z.H id=some (.arr g e sz xs):=by rw [hH]; exact hh
 have hil:i<xs.length:=(List.getElem?_eq_some_iff.1 hrow).1
 obtain ⟨b,cap,us,hβ,hx2,hown,hrows,hcells⟩:=KF hok hHid hil (hx.rep he hc)
 have hgn:=(hok.obj _ _ hHid).1
 obtain ⟨hus,hown2⟩:=hown
 rcases hown2 with ⟨hv,_⟩ | ⟨b',cap',cur,hv,_,hcur,hnc,hcm,hcs,htake⟩
 ·cases hv
 simp only [Value.slice.injEq,Option.some.injEq,Addr.mk.injEq,true_and,and_true] at hv
 obtain ⟨rfl,rfl⟩:=hv
 have hsz:0<sz:=(hok.obj _ _ hHid).2.1
 have hrl:=hrows row (List.mem_of_getElem? hrow)
 obtain ⟨hdl,hdg⟩:=My hd
 have hones : ∀ b∈BE a,b.one=true:=fun b hb=>by
  obtain ⟨j,hj,rfl⟩:=List.mem_iff_getElem.1 hb
  obtain ⟨a',h1,h2⟩:=hdg j (ds[j]'(by omega)) (by simp [List.getElem?_eq_getElem (show j<ds.length by omega)])
  rw [List.getElem?_eq_getElem hj] at h1
  cases h1
  exact MY h2
 have hvr:=hy.rep he hc
 obtain ⟨hvs,hvg,hv1⟩:=Iy hvr hones
 replace hdl:ds.length=(BE a).length:=hdl
 have hvl:(w.eval y).cells.toList.length=ds.length:=by rw [Array.length_toList (xs:=(w.eval y).cells),hvs,hdl]
 have hbase:i * sz+sz≤xs.length * sz:=by
  have:(i+1) * sz≤xs.length * sz:=Nat.mul_le_mul_right _ hil
  rwa [Nat.add_mul,Nat.one_mul] at this
 have hcap:xs.length * sz≤cur.size:=by rw [hcs]; exact Nat.mul_le_mul_right _ hnc
 have hrun:=Lj (P:=P) (k:=i * sz+k) hi hcur (v:=w.eval y) (by rw [hvs,hisz,← hdl,hm]) hv1 (by rw [hvs,← hdl]; omega)
 rw [show (w.eval y).cells.size=ds.length by rw [hvs,hdl]] at hrun
 have hsp2:=fun j=>Hi cur.toList (w.eval y).cells.toList (i * sz+k) j (by have:=Array.length_toList (xs:=cur); rw [hvl]; omega)
 rw [hvl] at hsp2
 let cur':Array Value:=(cur.toList.take (i * sz+k)++(w.eval y).cells.toList++cur.toList.drop (i * sz+k+ds.length)).toArray
 have hcur's:cur'.size=cur.size:=by
  have hvs':(w.eval y).cells.size=ds.length:=by rw [hvs,hdl]
  simp [cur',hvs']; omega
 have hspl:(HX row k ds).length=row.length:=by simp [HX]; omega
 have hspg : ∀ j,(HX row k ds)[j]? = if k≤j∧j<k+ds.length then ds[j-k]? else row[j]?:=fun j=>Hi row ds k j hk
 have hup:=CP hok id (.arr g e sz (xs.set i (HX row k ds))) (z.w.setRow b cur') (some (b,cap)) z.n (by simp [World.setRow]) rfl rfl rfl
  (fun b' _ hne=>setRow_other _ _ _ _ (fun e=>hne _ cap hHid (by rw [e]; exact hβ))) (fun b' k' hb=>by
   cases hb
   exact ⟨by simpa [World.setRow] using (hok.own id _ b cap hHid hβ).1,.inr ⟨_,_,hHid,hβ⟩⟩) (Nat.le_refl _) hgn
  (fun _=>⟨_,hHid,rfl,by simp [AR.shape],hβ.symm⟩)
  (fun hle=>by
   have hbs : ∀ b',z.S b'→(z.w.setRow b cur').heap[b']? = z.w.heap[b']?:=fun b' hb=>hle.blk b' (.inl hb)
   refine ⟨hsz,fun r hr=>?_,.slice (some ⟨b,0,none⟩) xs.length cap,cur'.toList.take (xs.length * sz),by simp [Bp],⟨by simp [hcur's]; omega,.inr ⟨b,cap,cur',by simp,Nat.zero_le _,setRow_heap _ _ _ _ _ _ hcur,by simpa using hnc,hcm,by rw [hcur's,hcs],by simp⟩⟩,fun i' row' c' d' k1 k2=>?_⟩
   ·rcases List.mem_or_eq_of_mem_set hr with hr | rfl
    ·exact hrows r hr
    ·rw [hspl]; exact hrl
   ·have hi'l:i'<xs.length:=by simpa using (List.getElem?_eq_some_iff.1 k1).1
    have hc'l:c'<sz:=by
     have:=(List.getElem?_eq_some_iff.1 k2).1
     rw [List.getElem?_set] at k1
     split at k1
     ·cases k1; rw [hspl,hrl] at this; exact this
     ·rw [← hrows row' (List.mem_of_getElem? k1)]; exact this
    have hlt:i' * sz+c'<xs.length * sz:=by
     calc i' * sz+c'<i' * sz+sz:=by omega
      _=(i'+1) * sz:=by rw [Nat.add_mul,Nat.one_mul]
      _≤xs.length * sz:=Nat.mul_le_mul_right _ hi'l
    have hget:(cur'.toList.take (xs.length * sz))[i' * sz+c']? = if i * sz+k≤i' * sz+c'∧i' * sz+c'<i * sz+k+ds.length then (w.eval y).cells.toList[i' * sz+c' - (i * sz+k)]? else cur.toList[i' * sz+c']?:=by
     rw [List.getElem?_take,if_pos hlt]
     simp only [cur']
     exact hsp2 _
    have huniq:i * sz+k≤i' * sz+c'→i' * sz+c'<i * sz+k+ds.length→i=i':=by
     intro h1 h2
     have e2:(i' * sz+c') / sz=i':=by rw [Nat.mul_comm,Nat.mul_add_div hsz,Nat.div_eq_of_lt (by omega),Nat.add_zero]
     obtain ⟨q,hq⟩ : ∃ q,i' * sz+c'=i * sz+q:=⟨i' * sz+c' - i * sz,by omega⟩
     have hqs:q<sz:=by omega
     have e1:(i * sz+q) / sz=i:=by rw [Nat.mul_comm,Nat.mul_add_div hsz,Nat.div_eq_of_lt hqs,Nat.add_zero]
     rw [← e1,← hq,e2]
    by_cases hin:i * sz+k≤i' * sz+c'∧i' * sz+c'<i * sz+k+ds.length
    ·have hii:=huniq hin.1 hin.2
     subst hii
     rw [List.getElem?_set,if_pos rfl,if_pos hil] at k1
     cases k1
     rw [hspg,if_pos (by omega)] at k2
     obtain ⟨a',h1,h2⟩:=hdg _ _ k2
     obtain ⟨u,h3,_,h5⟩:=hvg _ _ h1
     refine ⟨u,?_,(MP h2 h5).mono hbs (fun _ h=>h)⟩
     rw [hget,if_pos hin,show i * sz+c' - (i * sz+k)=c' - k by omega,Array.getElem?_toList]
     exact h3
    ·have hold : ∃ row0,xs[i']? = some row0∧row0[c']? = some d':=by
      rw [List.getElem?_set] at k1
      split at k1
      ·rename_i hii; subst hii
       cases k1
       rw [hspg] at k2
       split at k2
       ·exact absurd (by omega) hin
       ·exact ⟨row,hrow,k2⟩
      ·exact ⟨row',k1,k2⟩
     obtain ⟨row0,k3,k4⟩:=hold
     obtain ⟨u,k5,k6⟩:=hcells _ _ _ _ k3 k4
     refine ⟨u,?_,k6.mono hbs (fun _ h=>h)⟩
     rw [hget,if_neg hin]
     rw [← k5,← htake,List.getElem?_take,if_pos hlt])
 unfold Oper.wp execOp
 rw [ho]
 simp only [hx2,Sem.run_bind,hrun,Result.andThen_ok,Sem.run_pure]
 exact hK undef _ hup.1 hup.2 (by simp only [hH]; exact Br _ _ _) hn (.any _)
theorem Qp {α:Type} {f:α→List RV} {t:TypeId} {x y:Operand} {id g k m:Nat} {e:TypeId} {sz:Nat} {l:List α} {z:Int} {a v:α} {b:AV} {ds:List RV} (ho:o.op = .store t x y) (ht : ∃ i,P.info? t=some i∧i.size=m)
  (hx:Ev true R x (.ptr id g z.toNat k)) (hh:hget h id=some (.arr g e sz (l.map f))) (hi:AN l z=some a) (hy:Ev true R y b) (hd:JH b=some ds) (hm:ds.length=m) (hk:Nat.ble (k+ds.length) (f a).length=true) (hv:HX (f a) k ds=f v) :
  A9 P true o R h n .any ((id,some (.arr g e sz ((l.set z.toNat v).map f))) :: h) n:=by
 have:=Tz (n:=n) ho ht hx hh (row:=f a) (by rw [List.getElem?_map,(Dm hi).2.1]; rfl) hy hd hm (Nat.le_of_ble_eq_true hk)
 rwa [hv,← List.map_set] at this
end
def JT (c:Bool):AU→AU→Prop
 | [],_=>True
 | (t,v) :: r,e=>(get e t=v∨get e t = .whn c v∨(∃ b v0,get e t = .whn (c && b) v0∧v = .whn b v0) ∨ ∃ b1 b2 v0,get e t = .whn ((c && b1) && b2) v0∧v = .whn (b1 && b2) v0)∧JT c r e
theorem JT.get {c:Bool} {e' e:AU} (h:JT c e' e) (t:Nat):Al.get e' t = .any∨Al.get e t=Al.get e' t∨Al.get e t = .whn c (Al.get e' t) ∨
  (∃ b v0,Al.get e t = .whn (c && b) v0∧Al.get e' t = .whn b v0) ∨ ∃ b1 b2 v0,Al.get e t = .whn ((c && b1) && b2) v0∧Al.get e' t = .whn (b1 && b2) v0:=by
 induction e' with
 | nil=>exact .inl rfl
 | cons p r ih=>
  obtain ⟨d,v⟩:=p
  rw [By]
  split
  ·rename_i hd; subst hd; exact .inr h.1
  ·exact ih h.2
theorem Vr {c:Bool} {e' e:AU} {h:AM} {n N:Nat} (hc:c=true) (he:JT c e' e):Af ⟨e,h,n,N⟩ ⟨e',h,n,N⟩:=by
 intro c0 a w ⟨_,hdef,hsz,y,hyw,hle,hok,hH,hyn,henv⟩
 refine ⟨_,hdef,hsz,y,hyw,hle,hok,hH,hyn,fun t=>?_⟩
 subst hc
 have h2:=henv t
 rcases he.get t with h1 | h1 | h1 | ⟨b,v0,h1,h3⟩ | ⟨b1,b2,v0,h1,h3⟩
 ·rw [h1]; exact .any _
 ·rwa [show Al.get (St.mk e h n N).e t=Al.get e' t from h1] at h2
 ·rw [show Al.get (St.mk e h n N).e t = .whn true (Al.get e' t) from h1] at h2
  cases h2 with
  | whn hw _=>exact hw rfl
 ·rw [show Al.get (St.mk e h n N).e t = .whn (true && b) v0 from h1] at h2
  rw [Bool.true_and] at h2
  rw [h3]; exact h2
 ·rw [show Al.get (St.mk e h n N).e t = .whn ((true && b1) && b2) v0 from h1] at h2
  rw [Bool.true_and] at h2
  rw [h3]; exact h2
section
variable {P:Program} {c:Bool} {o:Oper} {R:AU} {h:AM} {n:Nat}
variable {α:Type} {f:α→List RV}
end
section
variable {P:Program} {c:Bool} {o:Oper} {R:AU} {h:AM} {n:Nat}
end
section
variable {P:Program} {c:Bool} {o:Oper} {R:AU} {h:AM} {n:Nat}
end
section
variable {P:Program} {c:Bool} {o:Oper} {R:AU} {h:AM}
end
theorem Af.ren {s:St} (t i j:Nat) {g:Nat} {e:TypeId} {sz:Nat} {xs:List (List RV)} (hij:(i == j)=false) (ht:get s.e t = .own i g) (hh:hget s.h i=some (.arr g e sz xs)) :
  Af s ⟨(t,.own j s.n) :: s.e,(j,some (.arr s.n e sz xs)) :: (i,none) :: s.h,s.n+1,s.N⟩:=by
 have hne:i≠j:=by simpa using hij
 intro c0 a w ⟨_,hdef,hsz,y,hyw,hle,hok,hH,hyn,henv⟩
 have hHi:y.H i=some (.arr g e sz xs):=by rw [hH]; exact hh
 let z:Cx:={ y with H:=fun d=>if j=d then some (.arr s.n e sz xs) else if i=d then none else y.H d,β:=fun d=>if j=d then y.β i else y.β d,K:=fun d=>if j=d then fun _=>none else y.K d,n:=y.n+1 }
 have hzl:y.le z:=by
  refine ⟨Nat.le_refl _,rfl,rfl,rfl,fun _ _=>rfl,fun _ h=>h,rfl,Nat.le_succ _,fun d o' ho' hg=>?_,fun d o' ho' hf hg hv=>?_⟩
  ·dsimp only [z] at ho' ⊢
   split at ho'
   ·cases ho'
    exact absurd hg (by simp [AR.gen,AR.isCal,hyn])
   ·rename_i hj
    split at ho'
    ·cases ho'
    ·exact ⟨o',ho',rfl,rfl,by rw [if_neg hj]⟩
  ·dsimp only [z] at ho' ⊢
   split at ho'
   ·cases ho'; cases hf
   ·rename_i hj
    split at ho'
    ·cases ho'
    ·exact ⟨o',ho',hf,rfl,rfl,rfl,by rw [if_neg hj]⟩
 have hzok:z.ok:=by
  refine ⟨hok.S_lt,hok.F_lt,hok.SF,fun d o ho=>?_,fun d o b k ho hb=>?_,fun d d' o o' b k k' ho ho' hb hb'=>?_,fun d o q b c ho hb=>?_,hok.tabs.le hzl⟩
  ·dsimp only [z] at ho ⊢
   split at ho
   ·rename_i hj
    cases ho
    rw [if_pos hj,if_pos hj]
    refine ⟨by simp [AR.gen,hyn],?_⟩
    have h2:=(hok.obj i _ hHi).2
    exact (show CV y (y.β i) (fun _=>none) (.arr s.n e sz xs) from h2).mono hzl (fun b k _=>rfl) fun _ _ _ _=>rfl
   ·rename_i hj
    split at ho
    ·cases ho
    ·rw [if_neg hj,if_neg hj]
     obtain ⟨h1,h2⟩:=hok.obj d o ho
     exact ⟨Nat.lt_succ_of_lt h1,h2.mono hzl (fun b k _=>rfl) fun _ _ _ _=>rfl⟩
  ·dsimp only [z] at ho hb ⊢
   split at hb
   ·exact hok.own i _ b k hHi hb
   ·rename_i hj
    rw [if_neg hj] at ho
    split at ho
    ·cases ho
    ·exact hok.own d o b k ho hb
  ·dsimp only [z] at ho ho' hb hb'
   by_cases h1:j=d <;> by_cases h2:j=d'
   ·rw [← h1,← h2]
   ·rw [if_pos h1] at hb
    rw [if_neg h2] at ho' hb'
    split at ho'
    ·cases ho'
    ·rename_i h3
     exact absurd (hok.inj i d' _ _ b k k' hHi ho' hb hb') h3
   ·rw [if_neg h1] at ho hb
    rw [if_pos h2] at hb'
    split at ho
    ·cases ho
    ·rename_i h3
     exact absurd (hok.inj d i _ _ b k k' ho hHi hb hb').symm h3
   ·rw [if_neg h1] at ho hb
    rw [if_neg h2] at ho' hb'
    split at ho
    ·cases ho
    ·split at ho'
     ·cases ho'
     ·exact hok.inj d d' _ _ b k k' ho ho' hb hb'
  ·dsimp only [z] at ho hb ⊢
   split at hb
   ·cases hb
   ·rename_i hj
    rw [if_neg hj] at ho
    split at ho
    ·cases ho
    ·obtain ⟨e1,e2,e3,e4,e5⟩:=hok.ext d o q b c ho hb
     refine ⟨e1,e2,e3,fun d' o' k ho' hb'=>?_,fun d' o' q' c' ho' hb'=>?_⟩
     ·by_cases h2:j=d'
      ·rw [if_pos h2] at hb'
       exact e4 i _ k hHi hb'
      ·rw [if_neg h2] at ho' hb'
       split at ho'
       ·cases ho'
       ·exact e4 d' o' k ho' hb'
     ·by_cases h2:j=d'
      ·rw [if_pos h2] at hb'
       cases hb'
      ·rw [if_neg h2] at ho' hb'
       split at ho'
       ·cases ho'
       ·exact e5 d' o' q' c' ho' hb'
 refine ⟨_,hdef,hsz,z,hyw,hle.trans hzl,hzok,?_,by simp [z,hyn],fun t'=>?_⟩
 ·funext d
  show (if j=d then _ else if i=d then _ else y.H d)=_
  rw [BS,BS,hH]
 ·rw [By]
  split
  ·rename_i htt
   have h1:=henv t
   rw [ht,htt] at h1
   generalize a.tmps.getD t' undef=u at h1 ⊢
   cases h1 with
   | own h1 h2 h3=>
    refine .own (by simp [z,hyn]) h2 fun o ho _=>?_
    dsimp only [z] at ho ⊢
    rw [if_pos rfl] at ho ⊢
    cases ho
    have h5:=h3 _ hHi rfl
    exact h5
  ·exact (henv t').mono hzl
open Go.ChangeMaps (setBlock)
open Go.MapKept Go.RowKit
def At {α:Type} (l:List (Int × α)) (k:Int):Nat:=(Ab l k).getD l.length
theorem JV {α β:Type} (rd:α→β) (m:List (Int × α)) (j:Nat):(AE rd m)[j]? = (m[j]?).map fun p=>(p.1,rd p.2):=by simp [AE]
theorem Lr {α β:Type} (rd:α→β) (m:List (Int × α)):(AE rd m).length=m.length:=by simp [AE]
theorem Jn {α β:Type} (rd:α→β) (m:List (Int × α)) (k:Int):Ab (AE rd m) k=Ab m k:=TJ (fun p=>(p.1,rd p.2)) (fun _=>rfl) m k
theorem NS {α:Type} {m:List (Int × α)} {k:Int} {v:α} (h:AK m k=some v):Ab m k=some (At m k)∧m[At m k]? = some (k,v):=by
 cases hj:Ab m k with
 | none=>rw [(Cd hj).1] at h; cases h
 | some j=>
  obtain ⟨w,h1,h2,_⟩:=CW hj
  rw [h] at h2; cases h2
  unfold At
  rw [hj]
  exact ⟨rfl,h1⟩
section
variable {P:Program} {c:Bool} {o:Oper} {R:AU} {h:AM} {n:Nat}
theorem Ot {x:Cx} (hok:x.ok) {id g ve:Nat} {e:TypeId} {l:List (Int × List RV)} {v:Value} (hH:x.H id=some (.mb g ve e l)) (hv:AL x (.mref id g) v) :
  ∃ (b:Nat) (es:List MapEntry),x.β id=some (b,1)∧v = .map (some b)∧Fv l es∧x.w.heap[b]? = some (.map es.toArray l.length)∧ve<x.n ∧ ∀ (j:Nat) (k:Int) (cs:List RV) (m:MapEntry),l[j]? = some (k,cs)→es[j]? = some m →
   ∃ bb cur,x.K id j=some (bb,1)∧m.val = .pointer (some ⟨bb,0,none⟩)∧x.w.heap[bb]? = some (.cells cur e (0,0))∧cur.size=cs.length ∧ ∀ (i:Nat) (c:RV),cs[i]? = some c → ∃ u:Value,cur[i]? = some u∧u.oneCell'=true∧An x.w x.S c u:=by
 obtain ⟨_,h0,b,es,h1,h2,h3,h4⟩:=hok.obj _ _ hH
 cases hv with
 | mref _ _ hv=>
  obtain ⟨b',cap,k1,k2⟩:=hv _ hH rfl
  rw [h1] at k1
  simp only [Option.some.injEq,Prod.mk.injEq] at k1
  obtain ⟨rfl,rfl⟩:=k1
  exact ⟨b,es,h1,k2,⟨h3,fun j k d hj=>by obtain ⟨m,_,_,e1,e2,e3,_⟩:=h4 j k d hj; exact ⟨m,e1,e2,e3⟩⟩,h2,h0,fun j k d m hj hm=>by
   obtain ⟨m',bb,cur,e1,_,_,e4⟩:=h4 j k d hj
   rw [hm] at e1; cases e1; exact ⟨bb,cur,e4⟩⟩
theorem Tv {t:TypeId} (id:Nat) (e:TypeId) (ho:o.op = .makeMap t none):A9 P c o R h n (.mref id n) ((id,some (.mb n n e [])) :: h) (n+1):=by
 intro hc z w hok hH hn he K Q hK
 have hup:=Po hok id (.mb z.n z.n e []) (z.w.alloc (.map #[] 0)) (some (z.w.heap.size,1)) (fun _=>none) (z.n+1) (by simp) rfl rfl rfl
  (fun b hb _=>heap_alloc_old _ _ hb) (fun b k hb=>by cases hb; simp) (fun j b k hb=>by cases hb) (by omega) (by simp [AR.gen]) (fun hg=>absurd hg (by simp [AR.gen,AR.isCal])) (fun _ hg=>absurd hg (by simp [AR.gen]))
  (fun hle=>⟨Nat.lt_succ_self _,z.w.heap.size,[],rfl,heap_alloc_new _ _,rfl,fun j k d hj=>by simp at hj⟩)
 unfold Oper.wp execOp
 rw [ho]
 simp only [Option.map_none,Sem.run_bind,run_makeMap,Result.andThen_ok,Sem.run_pure]
 refine hK (.map (some z.w.heap.size)) _ hup.1 hup.2 (by simp only [hH,hn]; exact Br _ _ _) (by simp [hn]) (.mref (by simp [hn]) rfl fun o' ho' _=>?_)
 exact ⟨z.w.heap.size,1,by simp,rfl⟩
theorem MN {x:Cx} (hok:x.ok) {id g ve j:Nat} {e:TypeId} {l:List (Int × List RV)} {v:Value} (hH:x.H id=some (.mb g ve e l)) (hve:ve<x.n) (h1:v.oneCell'=true)
  (h : ∀ q cs b c,l[j]? = some (q,cs)→x.K id j=some (b,c)→v = .pointer (some ⟨b,0,none⟩)):AL x (.pk id g ve j 0) v:=by
 refine .pk (hok.obj _ _ hH).1 hve h1 fun o b c q m ho _ hg hvr hs hK=>?_
 rw [hH] at ho; cases ho
 simp only [AR.kshape,List.getElem?_map,Option.map_eq_some_iff,Prod.mk.injEq] at hs
 obtain ⟨p,h2,rfl,_⟩:=hs
 exact h _ _ b c h2 hK
theorem KE {α:Type} {row:α→List RV} {t kt et:TypeId} {x i:Operand} {id g ve:Nat} {e:TypeId} {m:List (Int × α)} {k:Int} (ok:Bool) (ho:o.op = .lookup t x i ok) (ht:P.underlying t=some (.map kt et))
  (hk:P.underlying kt=some (.int .i64)) (hz : ∀ w,(zeroValue et).run P w = .ok (.pointer none) w) (hx:Ev c R x (.mref id g)) (hi:Ev c R i (.r (.int .i64 k))) (hh:hget h id=some (.mb g ve e (AE row m))) :
  AX P c o R h (match ok with | true=>.tup [.pk id g ve (At m k) 0,.r (.bool (AK m k).isSome)] | false=>.pk id g ve (At m k) 0):=by
 intro hc y w hok hH he
 have hHid:y.H id=some (.mb g ve e (AE row m)):=by rw [hH]; exact hh
 obtain ⟨b,es,h1,h2,h3,h4,h0,h5⟩:=Ot hok hHid (hx.rep he hc)
 have hiv:=hi.rep he hc
 generalize hiw:w.eval i=iv at hiv
 cases hiv with
 | r hiv=>
  cases hiv with
  | int=>
   have hb2 : ∀ w2:World,CA y w2→w2.heap[b]? = some (.map es.toArray (AE row m).length):=fun w2 hag=>by rw [hag b (.inr ⟨id,_,1,hHid,.inl h1⟩)]; exact h4
   cases hj:Ab (AE row m) k with
   | none=>
    have hj2:Ab m k=none:=by rw [← Jn row]; exact hj
    rw [(Cd hj2).1]
    have hr:AL y (.pk id g ve (At m k) 0) (.pointer none):=MN hok hHid h0 rfl fun q cs b c hq _=>by
     unfold At at hq
     rw [hj2] at hq
     have:=(List.getElem?_eq_some_iff.1 hq).1
     simp [Lr] at this
    refine ⟨match ok with | true=>.tuple #[.pointer none,.bool false] | false=>.pointer none,fun w2 hag=>?_,?_⟩
    ·simp only [execOp,ho,h2,hiw,Sem.run_bind,Km h3 ht hk (hb2 w2 hag) k _ (hz w2) ok,hj,Result.andThen_ok,Sem.run_pure]
     cases ok <;> simp
    ·cases ok
     ·exact hr
     ·refine .tup rfl fun q a' u' e1 e2=>?_
      rcases q with _ | _ | q
      ·simp at e1 e2; subst e1; subst e2; exact hr
      ·simp at e1 e2; subst e1; subst e2; exact .r (.bool _)
      ·simp at e1
   | some j=>
    have hj2:Ab m k=some j:=by rw [← Jn row]; exact hj
    obtain ⟨v,e1,e2,_⟩:=CW hj2
    have e1':(AE row m)[j]? = some (k,row v):=by rw [JV,e1]; rfl
    obtain ⟨mm,e3,_⟩:=h3.2 j k _ e1'
    obtain ⟨bb,cur,f1,f2,_⟩:=h5 j k _ mm e1' e3
    have hD:At m k=j:=by unfold At; rw [hj2]; rfl
    rw [e2,hD]
    have hr:AL y (.pk id g ve j 0) mm.val:=MN hok hHid h0 (by rw [f2]; rfl) fun q cs b c hq hK=>by
     rw [f1] at hK; cases hK; exact f2
    refine ⟨match ok with | true=>.tuple #[mm.val,.bool true] | false=>mm.val,fun w2 hag=>?_,?_⟩
    ·simp only [execOp,ho,h2,hiw,Sem.run_bind,Km h3 ht hk (hb2 w2 hag) k _ (hz w2) ok,hj,e3,Result.andThen_ok,Sem.run_pure]
     cases ok <;> simp
    ·cases ok
     ·exact hr
     ·refine .tup rfl fun q a' u' e1 e2=>?_
      rcases q with _ | _ | q
      ·simp at e1 e2; subst e1; subst e2; exact hr
      ·simp at e1 e2; subst e1; subst e2; exact .r (.bool _)
      ·simp at e1
theorem KD {x:Cx} (hok:x.ok) {id g ve j k:Nat} {e:TypeId} {l:List (Int × List RV)} {q:Int} {cs:List RV} {v:Value} (hH:x.H id=some (.mb g ve e l)) (hv:AL x (.pk id g ve j k) v) (hj:l[j]? = some (q,cs)) :
  ∃ bb cur,x.K id j=some (bb,1)∧v = .pointer (some ⟨bb,k,none⟩)∧x.w.heap[bb]? = some (.cells cur e (0,0))∧cur.size=cs.length ∧ ∀ (i:Nat) (c:RV),cs[i]? = some c → ∃ u:Value,cur[i]? = some u∧u.oneCell'=true∧An x.w x.S c u:=by
 obtain ⟨_,h0,b,es,h1,h2,h3,h4⟩:=hok.obj _ _ hH
 obtain ⟨m,bb,cur,e1,e2,e3,e4,e5,e6,e7,e8⟩:=h4 j q cs hj
 cases hv with
 | pk _ _ _ hp=>
  exact ⟨bb,cur,e4,hp _ bb 1 q cs.length hH rfl rfl rfl (by simp [AR.kshape,hj]) e4,e6,e7,e8⟩
theorem TN {t:TypeId} {x:Operand} {f off:Nat} {id g ve j k:Nat} {e:TypeId} {l:List (Int × List RV)} (ho:o.op = .fieldAddr t x f) (ht:BG P t f off) (hx:Ev c R x (.pk id g ve j k)) (hh:hget h id=some (.mb g ve e l)) (hj:c=true→(l[j]?).isSome=true) :
  AX P c o R h (.pk id g ve j (k+off)):=by
 intro hc z w hok hH he
 obtain ⟨fs,fl,ii,h1,h2,h3,h4,h5⟩:=ht
 have hHid:z.H id=some (.mb g ve e l):=by rw [hH]; exact hh
 obtain ⟨⟨q,cs⟩,hj'⟩:=Option.isSome_iff_exists.1 (hj hc)
 have hv:=hx.rep he hc
 obtain ⟨bb,cur,k1,k2,k3,_⟩:=KD hok hHid hv hj'
 have hve:ve<z.n:=by cases hv; assumption
 refine ⟨.pointer (some ⟨bb,k+off,none⟩),fun w2 hag=>?_,.pk (hok.obj _ _ hHid).1 hve rfl fun o b c q m ho _ hg hvr hs hK=>?_⟩
 ·unfold execOp
  rw [ho]
  simp [k2,Instr.fieldAt,run_underlying h1,h2,Instr.sureAddr,fieldPlace,CR h4,h5,h3,Addr.add_lit]
 ·rw [k1] at hK; cases hK; rfl
theorem Pc {x:Cx} {w2:World} (hag:CA x w2) {id j bb:Nat} {o:AR} (hH:x.H id=some o) (hK:x.K id j=some (bb,1)) {cur:Array Value} {e:TypeId} (hh:x.w.heap[bb]? = some (.cells cur e (0,0))) (k:Nat):w2.cell? ⟨bb,k,none⟩=cur[k]?:=by
 have:w2.heap[bb]? = some (.cells cur e (0,0)):=by rw [hag bb (.inr ⟨id,_,1,hH,.inr ⟨j,hK⟩⟩)]; exact hh
 exact cell_of_row _ bb k cur e _ this
theorem RY {t:TypeId} {x:Operand} {id g ve j k:Nat} {e:TypeId} {l:List (Int × List RV)} {q:Int} {cs:List RV} {d:RV} (ho:o.op = .load t x) (ht:BK P t) (hx:Ev c R x (.pk id g ve j k)) (hh:hget h id=some (.mb g ve e l))
  (hj:c=true→l[j]? = some (q,cs)) (hd:cs[k]? = some d):AX P c o R h (.r d):=by
 intro hc z w hok hH he
 have hHid:z.H id=some (.mb g ve e l):=by rw [hH]; exact hh
 obtain ⟨bb,cur,k1,k2,k3,k4,k5⟩:=KD hok hHid (hx.rep he hc) (hj hc)
 obtain ⟨u,e1,e2,e3⟩:=k5 k d hd
 refine ⟨u,fun w2 hag=>?_,.r e3⟩
 unfold execOp
 rw [ho]
 simp [k2,KC ht ((Pc hag hHid k1 k3 k).trans e1)]
theorem UE {t:TypeId} {x:Operand} {id g ve j sz:Nat} {e:TypeId} {l:List (Int × List RV)} {q:Int} {cs:List RV} (ho:o.op = .load t x) (ht:CU P t sz) (hx:Ev c R x (.pk id g ve j 0)) (hh:hget h id=some (.mb g ve e l))
  (hj:c=true→l[j]? = some (q,cs)) (hl:cs.length=sz):AX P c o R h (.agg (cs.map .r)):=by
 intro hc z w hok hH he
 have hHid:z.H id=some (.mb g ve e l):=by rw [hH]; exact hh
 obtain ⟨bb,cur,k1,k2,k3,k4,k5⟩:=KD hok hHid (hx.rep he hc) (hj hc)
 refine ⟨.agg ((List.range sz).map fun j=>cur.getD j undef).toArray,fun w2 hag=>?_,HG (by simpa using hl) _ fun j a hj=>?_⟩
 ·unfold execOp
  rw [ho]
  simp [k2,Gz ht (fun j=>cur.getD j undef) (fun j hj=>by
   rw [Nat.zero_add,Pc hag hHid k1 k3 j]
   have:j<cur.size:=by omega
   simp [this])]
 ·rw [List.getElem?_map,Option.map_eq_some_iff] at hj
  obtain ⟨d,hd,rfl⟩:=hj
  obtain ⟨u,e1,_,e3⟩:=k5 j d hd
  simpa [e1] using (AL.r e3:AL z (.r d) u)
theorem UV {α:Type} {row:α→List RV} {t kt et:TypeId} {x i y:Operand} {id g ve id' g':Nat} {e:TypeId} {m:List (Int × α)} {k:Int} {a:α} (ho:o.op = .mapUpdate t x i y∨o.op = .insert t x i y) (ht:P.underlying t=some (.map kt et)) (hk:P.underlying kt=some (.int .i64))
  (hx:Ev c R x (.mref id g)) (hi:Ev c R i (.r (.int .i64 k))) (hy:Ev c R y (.ptr id' g' 0 0)) (hh:hget h id=some (.mb g ve e (AE row m))) (hb:hget h id'=some (.box g' e ((row a).map .r))) :
  A9 P c o R h n .any ((id,some (.mb g n e (AE row (Aw m k a)))) :: (id',none) :: h) (n+1):=by
 intro hc z w hok hH hn he K Q hK
 have hHid:z.H id=some (.mb g ve e (AE row m)):=by rw [hH]; exact hh
 have hHid':z.H id'=some (.box g' e ((row a).map .r)):=by rw [hH]; exact hb
 have hne:id≠id':=fun e=>by rw [e] at hHid; rw [hHid] at hHid'; cases hHid'
 obtain ⟨b,es,h1,h2,h3,h4,h0,h5⟩:=Ot hok hHid (hx.rep he hc)
 obtain ⟨bb,cur,p1,p2,p3,p4,p5⟩:=Fd hok hHid' (hy.rep he hc)
 have hiv:=hi.rep he hc
 generalize hiw:w.eval i=iv at hiv
 cases hiv with
 | r hiv=>
  cases hiv with
  | int=>
   have hblt:=(hok.own id _ b 1 hHid h1).1
   have hbblt:=(hok.own id' _ bb 1 hHid' p1).1
   have hbne:b≠bb:=fun e=>hne (hok.inj id id' _ _ b 1 1 hHid hHid' h1 (by rw [e]; exact p1))
   obtain ⟨q1,q2,q3⟩:=OC h3 k (w.eval y) (row a)
   rw [Pm] at q1 q2 q3
   rw [Jn] at q1 q2 q3
   generalize hes:DL es k (Ab m k) (w.eval y)=es' at q1 q2 q3
   have hKne : ∀ j b' c,z.K id j=some (b',c)→b'≠bb:=fun j b' c hK2 e=>(hok.ext id _ j b' c hHid hK2).2.2.2.1 id' _ 1 hHid' (by rw [e]; exact p1)
   have hup:=Vf hok id id' (.mb g z.n e (AE row (Aw m k a))) { z.w with heap:=z.w.heap.setIfInBounds b (.map es'.toArray es'.length) } (some (b,1)) (fun j=>if j=At m k then some (bb,1) else z.K id j) (z.n+1) (by simp) rfl rfl rfl
    (fun b' _ hno=>by
     have:b≠b':=fun e=>hno id _ (.inl rfl) hHid (.inl ⟨1,by rw [← e]; exact h1⟩)
     simp [this])
    (fun b' k' hb'=>by cases hb'; exact ⟨by simpa using hblt,.inr ⟨id,_,.inl rfl,hHid,.inl ⟨1,h1⟩⟩⟩)
    (fun j b' k' hb'=>by
     split at hb'
     ·rename_i hj
      cases hb'
      refine ⟨⟨by simpa using hbblt,.inr ⟨id',_,.inr rfl,hHid',.inl ⟨1,p1⟩⟩⟩,fun k2 hk2=>by cases hk2; exact hbne rfl,fun j2 k2 hk2=>?_⟩
      split at hk2
      ·rename_i hj2; rw [hj2,hj]
      ·exact absurd rfl (hKne j2 _ k2 hk2)
     ·rename_i hj
      have hx2:=hok.ext id _ j b' k' hHid hb'
      refine ⟨⟨by simpa using hx2.1,.inr ⟨id,_,.inl rfl,hHid,.inr ⟨j,k',hb'⟩⟩⟩,fun k2 hk2=>by cases hk2; exact hx2.2.2.2.1 id _ 1 hHid h1,fun j2 k2 hk2=>?_⟩
      split at hk2
      ·cases hk2; exact absurd rfl (hKne j _ k' hb')
      ·exact (hx2.2.2.2.2 id _ j2 k2 hHid hk2).2)
    (Nat.le_succ _) (Nat.lt_succ_of_lt (hok.obj _ _ hHid).1) (fun _=>⟨_,hHid,rfl,rfl,h1.symm⟩) (fun _ _ hv=>absurd hv (by simp [AR.ver]))
    (fun hle=>⟨Nat.lt_succ_self _,b,es',rfl,by simp [Cx.tk,hblt,q2],q2,fun j k' cs' hj=>by
     obtain ⟨mm,e1,e2,e3,e4⟩:=q3 j k' cs' hj
     have hat : ∀ b2,b2≠b→(z.tk id id' (.mb g z.n e (AE row (Aw m k a))) { z.w with heap:=z.w.heap.setIfInBounds b (.map es'.toArray es'.length) } (some (b,1)) (fun j=>if j=At m k then some (bb,1) else z.K id j) (z.n+1)).w.heap[b2]? = z.w.heap[b2]?:=fun b2 hb2=>by simp [Cx.tk,(Ne.symm hb2)]
     rcases e4 with ⟨hjk,rfl,rfl,e⟩ | ⟨hjk,hjl,f1,f2⟩
     ·have hjD:j=At m k':=by
       unfold At
       rcases hjk with hjk | ⟨hjk,rfl⟩
       ·rw [hjk]; rfl
       ·rw [hjk]; simp [Lr]
      refine ⟨mm,bb,cur,e1,e2,e3,if_pos hjD,by rw [e]; exact p2,(hat bb (Ne.symm hbne)).trans p3,by rw [p4]; simp,fun i c hic=>?_⟩
      obtain ⟨u,g1,g2,g3⟩:=p5 i (.r c) (by rw [List.getElem?_map,hic]; rfl)
      cases g3 with
      | r g3=>exact ⟨u,g1,g2,g3.mono (fun b hb=>hle.blk b (.inl hb)) hle.S⟩
     ·obtain ⟨b2,cur2,g1,g2,g3,g4,g5⟩:=h5 j k' cs' mm f1 f2
      have hjD:j≠At m k:=fun e=>by
       unfold At at e
       cases hq:Ab m k with
       | none=>rw [hq] at e; simp at e; rw [Lr] at hjl; omega
       | some j0=>rw [hq] at e hjk; simp at e; exact hjk (by rw [e])
      refine ⟨mm,b2,cur2,e1,e2,e3,(if_neg hjD).trans g1,g2,(hat b2 fun e=>(hok.ext id _ j b2 1 hHid g1).2.2.2.1 id _ 1 hHid (by rw [e]; exact h1)).trans g3,g4,fun i c hic=>?_⟩
      obtain ⟨u,k1,k2,k3⟩:=g5 i c hic
      exact ⟨u,k1,k2,k3.mono (fun b hb=>hle.blk b (.inl hb)) hle.S⟩⟩)
   have hrun:=NV h3 ht hk h4 k (w.eval y)
   rw [Jn,hes] at hrun
   unfold Oper.wp execOp
   rcases ho with ho | ho <;>
   ·rw [ho]
    simp only [h2,hiw,Sem.run_bind,hrun,Result.andThen_ok,Sem.run_pure]
    exact hK undef _ hup.1 hup.2 (by rw [← Pw,← hH,← hn]; rfl) (by show z.n+1=n+1; rw [hn]) (.any _)
end
end Go.Proofs.Ytelkfhdgmbahgaa.Al

namespace Go.Proofs.Ytelkfhdgmbahgaa.Al
open Go.ChangeMaps (setBlock)
open Go.MapKept Go.RowKit
section
variable {P:Program} {c:Bool} {o:Oper} {R:AU} {h:AM} {n:Nat}
def Qu (hole:Option (Nat × Bool)) (a b:Nat):Prop:=match hole with
 | some (j,true)=>a=b+1∧j=b
 | _=>a=b
def Pv (x:Cx) (id j:Nat) (e:TypeId) (sz:Nat) (xs:List (List RV)) (bb cap:Nat) (us:List Value):Prop:=
 (∀ row∈xs,row.length=sz)∧x.K id j=some (bb,cap)∧x.w.ownsRow 0 e sz (.slice (some ⟨bb,0,none⟩) xs.length cap) xs.length us ∧ ∀ i row c d,xs[i]? = some row→row[c]? = some d → ∃ u,us[i * sz+c]? = some u∧An x.w x.S d u
theorem S8 {x:Cx} (hok:x.ok) {id g ve:Nat} {e:TypeId} {sz:Nat} {hole:Option (Nat × Bool)} {l:List (Int × List (List RV))} (hH:x.H id=some (.mr g ve e sz hole l)) :
  0<sz∧ve<x.n ∧ ∃ (b:Nat) (es:List MapEntry),x.β id=some (b,1)∧x.w.heap[b]? = some (.map es.toArray es.length)∧Qu hole l.length es.length ∧
   ∀ (j:Nat) (k:Int) (xs:List (List RV)),l[j]? = some (k,xs) → ∃ bb cap us,Pv x id j e sz xs bb cap us∧(hole=some (j,true) ∨ ∃ m,es[j]? = some m∧m.key = .int .i64 k∧m.born=j∧(hole=some (j,false)∨m.val = .slice (some ⟨bb,0,none⟩) xs.length cap)):=by
 obtain ⟨_,h0,hv,b,es,h1,h2,h3,h4⟩:=hok.obj _ _ hH
 exact ⟨h0,hv,b,es,h1,h2,h3,fun j k xs hj=>by
  obtain ⟨e1,bb,cap,us,e2,e3,e4,e5⟩:=h4 j k xs hj
  exact ⟨bb,cap,us,⟨e1,e2,e3,e4⟩,e5⟩⟩
end
end Go.Proofs.Ytelkfhdgmbahgaa.Al

namespace Go.Proofs.Ytelkfhdgmbahgaa.Al
open Go.ChangeMaps (setBlock)
open Go.MapKept Go.RowKit
section
variable {P:Program} {c:Bool} {o:Oper} {R:AU} {h:AM} {n:Nat}
end
end Go.Proofs.Ytelkfhdgmbahgaa.Al

namespace Go.Proofs.Ytelkfhdgmbahgaa.Al
section
variable {P:Program} {ops:Array Oper} {rest:List Oper} {s:St} {K:St→Prop} {o:Oper}
theorem AX.no {c:Bool} {R:AU} {h:AM} {v:AV} (hc:c=false):AX P c o R h v:=fun h=>by rw [hc] at h; cases h
theorem F8 {rs:List ResultVar} {K:AV→AM→Nat→Prop} {s:St} (r:AV) (h1:GB P rs s r) (h2:K r s.h s.n):B7 P rs K .normal s:=⟨r,h1,h2⟩
theorem Dj {d:Nat} {f:FuncId} {fn:Func} {code:Code} {fo:Operand} {xs:Array Operand} {ats:Array TypeId} {N:Nat} (caps bs:List AV) (hg:o.guard=none) (hd:o.dst=some d) (hdN:Nat.blt d s.N=true)
  (ho : o.op = .call { callee := .value fo, args := xs, argTypes := ats }) (hfo : Ev true s.e fo (.fn f caps)) (hx : Gt true s.e xs.toList bs) (hf : P.funcs[f]? = some fn) (hb : fn.body = some code) (hname : (fn.name == "runtime.NumGoroutine") = false)
  (hN:fn.ntmps=N) (hlen:Nat.ble (bs++caps).length N=true)
  (hw : ∀ K':AV→AM→Nat→Prop,(∀ r h' n',AS P ops rest { e:=(d,r) :: s.e,h:=h',n:=n',N:=s.N } K→K' r h' n')→AW P code (B7 P fn.results.toList K') ⟨DS 0 (bs++caps),s.h,s.n,N⟩):AS P ops (o :: rest) s K:=
 VY caps bs hg hd hdN ho hfo hx hf hb hname hN hlen (hw _ fun _ _ _ h=>h)
end
section
variable {P:Program} {ops:Array Oper} {rest:List Oper} {s:St} {K:St→Prop} {o:Oper}
end
section
variable {P:Program} {ops:Array Oper} {rest:List Oper} {s:St} {K:St→Prop} {o:Oper}
end
open Go.RowKit
section
variable {P:Program} {ops:Array Oper} {rest:List Oper} {s:St} {K:St→Prop} {o:Oper}
end
section
variable {P:Program} {s:St}
end
section
variable {P:Program} {ops:Array Oper} {Q:Exit→Act→World→Prop} {md:Region.Mode}
end
end Go.Proofs.Ytelkfhdgmbahgaa.Al

namespace Go.Proofs.Ytelkfhdgmbahgaa.Al
open Go.RowKit
section
variable {P:Program} {ops:Array Oper} {rest:List Oper} {s:St} {K:St→Prop} {o:Oper}
end
end Go.Proofs.Ytelkfhdgmbahgaa.Al

namespace Go.Proofs.Ytelkfhdgmbahgaa.Al
open Go.RowKit
end Go.Proofs.Ytelkfhdgmbahgaa.Al

namespace Go.Proofs.Ytelkfhdgmbahgaa.Al
open Go.RowKit
section
variable {x:Cx} (id0:Nat) (o0:AR) (β0:Option (Nat × Nat)) (κ0:Nat→Option (Nat × Nat)) (n':Nat)
end
end Go.Proofs.Ytelkfhdgmbahgaa.Al

namespace Go.Proofs.Ytelkfhdgmbahgaa.Al
open Go.RowKit
section
variable {P:Program} {s:St}
end
end Go.Proofs.Ytelkfhdgmbahgaa.Al

namespace Go.Proofs.Ytelkfhdgmbahgaa.Al
def m2 {σ:Type} (f:Int→Int→Option σ):List RV→Option σ
 | [.int .i64 a,.int .i64 b]=>f a b
 | _=>none
section
variable {P:Program} {s:St}
theorem Vd {c:Code} {Q:Exit→St→Prop} (h:AW P c (fun e s=>∃ s',Af s s'∧Q e s') s):AW P c Q s:=
 fun z hz c0 a w hs=>wpIn_mono (h z hz c0 a w hs) fun _ _ _ ⟨ho,s1,⟨s2,h1,h2⟩,h3⟩=>⟨ho,s2,h2,h1 _ _ _ h3⟩
end
section
variable {P:Program} {ops:Array Oper} {rest:List Oper} {s:St} {K:St→Prop} {o:Oper}
end
open Go.ChangeMaps (setBlock)
open Go.MapKept Go.RowKit
def DA {σ:Type} (key:σ→List Int) (ks:List Int) (F:σ→Int→Option σ) (st:σ) (k:Int):Option σ:=(F st k).bind fun st'=>if key st'=ks then some st' else none
def Cs {σ:Type} (G:σ→Int→Option σ):List Int→σ→Option σ
 | [],st=>some st
 | k :: ks,st=>(G st k).bind (Cs G ks)
theorem PS {σ:Type} (G:σ→Int→Option σ) (l m:List Int) (st:σ):Cs G (l++m) st=(Cs G l st).bind (Cs G m):=by
 induction l generalizing st with
 | nil=>simp [Cs]
 | cons a l ih=>
  simp only [List.cons_append,Cs]
  cases G st a with
  | none=>rfl
  | some s=>simpa using ih s
def Kb {σ ρ:Type} (key:σ→List Int) (F:σ→Int→Option σ) (st0:σ) (rest:σ→Option ρ) (r:ρ):Prop:=
 (key st0).Nodup ∧ ∀ l:List Int,l.Perm (key st0)→(Cs (DA key (key st0) F) l st0).bind rest=some r
open Classical in
noncomputable def DH {σ ρ:Type} (key:σ→List Int) (F:σ→Int→Option σ) (st0:σ) (rest:σ→Option ρ):Option ρ:=if h : ∃ r,Kb key F st0 rest r then some h.choose else none
theorem UF {σ ρ:Type} {key:σ→List Int} {F:σ→Int→Option σ} {st0:σ} {rest:σ→Option ρ} {r:ρ} (h:DH key F st0 rest=some r):Kb key F st0 rest r:=by
 unfold DH at h
 split at h
 ·rename_i hx
  cases h
  exact hx.choose_spec
 ·cases h
theorem KO {σ ρ:Type} {key:σ→List Int} {F:σ→Int→Option σ} {st0:σ} {rest:σ→Option ρ} {r:ρ} (h:Kb key F st0 rest r):DH key F st0 rest=some r:=by
 have hx : ∃ r,Kb key F st0 rest r:=⟨r,h⟩
 unfold DH
 rw [dif_pos hx]
 have h1:=hx.choose_spec.2 (key st0) (List.Perm.refl _)
 have h2:=h.2 (key st0) (List.Perm.refl _)
 rw [h1] at h2
 exact h2
def AR.mkeys:AR→Option (List Int)
 | .md _ l=>some (l.map (·.1))
 | .mb _ _ _ l=>some (l.map (·.1))
 | .mr _ _ _ _ none l=>some (l.map (·.1))
 | _=>none
theorem PL {α β:Type} (rd:α→β) (m:List (Int × α)):(AE rd m).map (·.1)=m.map (·.1):=by simp [AE]
theorem Gk {α:Type} (g:Nat) (rd:α→RV) (m:List (Int × α)):(AR.md g (AE rd m)).mkeys=some (m.map (·.1)):=by simp [AR.mkeys,PL]
theorem Mf {α:Type} (g v:Nat) (e:TypeId) (row:α→List RV) (m:List (Int × α)):(AR.mb g v e (AE row m)).mkeys=some (m.map (·.1)):=by simp [AR.mkeys,PL]
theorem MZ {x:Cx} (hok:x.ok) {id:Nat} {ob:AR} {ks:List Int} {v:Value} (hH:x.H id=some ob) (hk:ob.mkeys=some ks) (hv:AL x (.mref id ob.gen) v) :
  ∃ (b:Nat) (es:List MapEntry),x.β id=some (b,1)∧v = .map (some b)∧x.w.heap[b]? = some (.map es.toArray ks.length)∧es.length=ks.length ∧ ∀ (j:Nat) (k:Int),ks[j]? = some k → ∃ m,es[j]? = some m∧m.key = .int .i64 k∧m.born=j:=by
 have hvb : ∀ b,x.β id=some (b,1)→v = .map (some b):=by
  intro b h1
  cases hv with
  | mref _ _ hv=>
   obtain ⟨b',cap,k1,k2⟩:=hv _ hH rfl
   rw [h1] at k1
   simp only [Option.some.injEq,Prod.mk.injEq] at k1
   obtain ⟨rfl,rfl⟩:=k1
   exact k2
 cases ob with
 | md g l=>
  cases hk
  obtain ⟨_,b,es,h1,h2,h3,h4⟩:=hok.obj _ _ hH
  refine ⟨b,es,h1,hvb b h1,by simpa using h2,by simpa using h3,fun j k hj=>?_⟩
  rw [List.getElem?_map,Option.map_eq_some_iff] at hj
  obtain ⟨p,hp,rfl⟩:=hj
  obtain ⟨m,e1,e2,e3,_⟩:=h4 j p.1 p.2 hp
  exact ⟨m,e1,e2,e3⟩
 | mb g ve e l=>
  cases hk
  obtain ⟨_,_,b,es,h1,h2,h3,h4⟩:=hok.obj _ _ hH
  refine ⟨b,es,h1,hvb b h1,by simpa using h2,by simpa using h3,fun j k hj=>?_⟩
  rw [List.getElem?_map,Option.map_eq_some_iff] at hj
  obtain ⟨p,hp,rfl⟩:=hj
  obtain ⟨m,_,_,e1,e2,e3,_⟩:=h4 j p.1 p.2 hp
  exact ⟨m,e1,e2,e3⟩
 | mr g ve e sz hole l=>
  cases hole with
  | some _=>cases hk
  | none=>
   cases hk
   obtain ⟨h0,hv0,b,es,h1,h2,h3,h4⟩:=S8 hok hH
   have h3':l.length=es.length:=h3
   refine ⟨b,es,h1,hvb b h1,by rw [h2,List.length_map,h3'],by simp [h3'],fun j k hj=>?_⟩
   rw [List.getElem?_map,Option.map_eq_some_iff] at hj
   obtain ⟨p,hp,rfl⟩:=hj
   obtain ⟨_,_,_,_,e | ⟨m,e1,e2,e3,_⟩⟩:=h4 j p.1 p.2 hp
   ·cases e
   ·exact ⟨m,e1,e2,e3⟩
 | _=>cases hk
theorem NX {x:Cx} (hok:x.ok) {id g mid mg len:Nat} {seen:List Nat} {v:Value} (hH:x.H id=some (.mj g mid mg len seen)) (hv:AL x (.ptr id g 0 0) v) :
  ∃ b m:Nat,x.β id=some (b,1)∧v = .pointer (some ⟨b,0,none⟩)∧x.w.heap[b]? = some (.mapIter (some m) len seen.toArray len)∧AL x (.mref mid mg) (.map (some m)):=by
 obtain ⟨_,b,m,h1,h2,h3⟩:=hok.obj _ _ hH
 cases hv with
 | ptr _ _ hv=>
  obtain ⟨b',cap,h5,h6⟩:=hv _ hH rfl
  rw [h1] at h5
  simp only [Option.some.injEq,Prod.mk.injEq] at h5
  obtain ⟨rfl,rfl⟩:=h5
  exact ⟨b,m,h1,by rw [h6,Nat.zero_mul],h2,h3⟩
section
variable {P:Program} {c:Bool} {o:Oper} {R:AU} {h:AM} {n:Nat}
theorem Jk {t kt et:TypeId} {x:Operand} {id:Nat} {ob:AR} {ks:List Int} (id':Nat) (ho:o.op = .range t x) (ht:P.underlying t=some (.map kt et)) (hx:Ev c R x (.mref id ob.gen)) (hh:hget h id=some ob) (hk:ob.mkeys=some ks) (hid:(id' == id)=false) :
  A9 P c o R h n (.ptr id' n 0 0) ((id',some (.mj n id ob.gen ks.length [])) :: h) (n+1):=by
 intro hc z w hok hH hn he K Q hK
 have hxv:=hx.rep he hc
 obtain ⟨b,es,h1,h2,h3,h4,h5⟩:=MZ hok (by rw [hH]; exact hh) hk hxv
 have hup:=CP hok id' (.mj z.n id ob.gen ks.length []) (z.w.alloc (.mapIter (some b) ks.length #[] ks.length)) (some (z.w.heap.size,1)) (z.n+1) (by simp) rfl rfl rfl
  (fun b hb _=>heap_alloc_old _ _ hb) (fun b k hb=>by cases hb; simp) (by omega) (by simp [AR.gen]) (fun hg=>absurd hg (by simp [AR.gen]))
  (fun hle=>⟨z.w.heap.size,b,rfl,heap_alloc_new _ _,by rw [h2] at hxv; exact hxv.mono hle⟩)
 unfold Oper.wp execOp
 rw [ho]
 simp only [h2,Sem.run_bind,run_range_map _ _ _ _ _ _ _ ht h3,Result.andThen_ok,Sem.run_pure]
 refine hK (.pointer (some ⟨z.w.heap.size,0,none⟩)) _ hup.1 hup.2 (by simp only [hH,hn]; exact Br _ _ _) (by simp [hn]) (.ptr (by simp [hn]) rfl fun o' ho' _=>?_)
 simp only [if_pos] at ho'
 cases ho'
 exact ⟨z.w.heap.size,1,by simp,by simp⟩
end
end Go.Proofs.Ytelkfhdgmbahgaa.Al

namespace Go.Proofs.Ytelkfhdgmbahgaa.Al
open Go.ChangeMaps (setBlock)
open Go.MapKept Go.RowKit
theorem Ps {e' e:AU} {h' h:AM} {n' n N:Nat} (he : ∀ t,get e' t = .any∨get e' t=get e t) (hh : ∀ id,hget h' id=none∨hget h' id=hget h id) (hn:n≤n'):Af ⟨e,h,n,N⟩ ⟨e',h',n',N⟩:=by
 intro c0 a w ⟨_,hdef,hsz,y,hyw,hle,hok,hH,hyn,henv⟩
 have hsub : ∀ id o,hget h' id=some o→y.H id=some o:=by
  intro id o ho
  rw [hH]
  rcases hh id with h1 | h1
  ·rw [h1] at ho; cases ho
  ·rw [← h1]; exact ho
 obtain ⟨k1,k2⟩:=Pt hok (hget h') hsub n' (by rw [hyn]; exact hn)
 refine ⟨_,hdef,hsz,{ y with H:=hget h',n:=n' },hyw,hle.trans k1,k2,rfl,rfl,fun t=>?_⟩
 rcases he t with h1 | h1
 ·rw [h1]; exact .any _
 ·rw [h1]; exact (henv t).mono k1
section
variable {P:Program} {ops:Array Oper} {rest:List Oper} {s:St} {K:St→Prop} {o:Oper}
theorem Vh {d:Nat} {x:Operand} {id g mid len:Nat} {ob:AR} {ks:List Int} {seen:List Nat} (hg:o.guard=none) (hd:o.dst=some d) (hN:d<s.N) (ho:o.op = .next x false) (hx:Ev true s.e x (.ptr id g 0 0))
  (hh:hget s.h id=some (.mj g mid ob.gen len seen)) (hm:hget s.h mid=some ob) (hk:ob.mkeys=some ks) (hl:len=ks.length)
  (hf:(∀ j,j<len→j∈seen)→AS P ops rest { e:=(d,.tup [.r (.bool false)]) :: s.e,h:=s.h,n:=s.n,N:=s.N } K)
  (ht : ∀ j,j<len→j ∉ seen→AS P ops rest { e:=(d,.tup [.r (.bool true),.any,.any]) :: s.e,h:=(id,some (.mj g mid ob.gen len (seen++[j]))) :: s.h,n:=s.n,N:=s.N } K):AS P ops (o :: rest) s K:=by
 subst hl
 intro c0 a w ⟨_,hdef,hsz,z,hzw,hle,hok,hH,hn,he⟩ Q hQ
 subst hzw
 refine wpList_plain hg fun K' hK'=>?_
 have hHid:z.H id=some (.mj g mid ob.gen ks.length seen):=by rw [hH]; exact hh
 obtain ⟨b,m,h1,h2,h3,h4⟩:=NX hok hHid (hx.rep he rfl)
 obtain ⟨bm,es,k1,k2,k3,k4,k5⟩:=MZ hok (by rw [hH]; exact hm) hk h4
 cases k2
 have hb:=(hok.own id _ b 1 hHid h1).1
 have hborn : ∀ e∈es,∃ j,j<ks.length∧es[j]? = some e∧e.born=j:=by
  intro e he'
  obtain ⟨j,hj⟩:=List.mem_iff_getElem?.1 he'
  have hjl:j<ks.length:=by have:=(List.getElem?_eq_some_iff.1 hj).1; omega
  obtain ⟨m',e1,e2,e3⟩:=k5 j ks[j] (List.getElem?_eq_getElem hjl)
  rw [hj] at e1; cases e1
  exact ⟨j,hjl,hj,e3⟩
 have hold : ∀ e∈es.toArray.toList,e.born<ks.length:=fun e he'=>by
  obtain ⟨j,h1,_,h3⟩:=hborn e (by simpa using he')
  omega
 have hN':d<a.tmps.size:=by rw [hsz]; exact hN
 unfold Oper.wp execOp
 rw [ho]
 rcases run_next_at (P:=P) z.w o.type b m ks.length ks.length seen.toArray es.toArray ks.length h3 k3 hold (Nat.le_refl _) with ⟨hleft,hrun⟩ | ⟨e,he',w1,hw1,hrun⟩
 ·simp only [h2,Sem.run_bind,hrun,Result.andThen_ok,Sem.run_pure]
  refine hK' _ _ ?_
  rw [hd]
  refine hf (fun j hj=>?_) c0 (a.put (some d) (.tuple #[.bool false])) z.w ⟨_,hdef,by simpa [Act.put] using hsz,z,rfl,hle,hok,hH,hn,he.put hN' (.tup rfl fun i a u ha hu=>?_)⟩ Q hQ
  ·obtain ⟨m',e1,_,e3⟩:=k5 j ks[j] (List.getElem?_eq_getElem hj)
   have hmem:m'∈es.toArray:=by simpa using List.mem_of_getElem? e1
   have hnl : ¬ m'∈leftOf es.toArray seen.toArray:=fun hx=>by
    have:=Array.size_pos_of_mem hx
    omega
   unfold leftOf at hnl
   rw [Array.mem_filter] at hnl
   have:seen.contains m'.born=true:=by
    have h0:=fun h=>hnl ⟨hmem,h⟩
    simpa using h0
   rw [e3] at this
   simpa using this
  ·rcases i with _ | i
   ·simp at ha hu; subst ha; subst hu; exact .r (.bool false)
   ·simp at ha
 ·have hmem:e∈es∧seen.contains e.born=false:=by
   have h0:e∈leftOf es.toArray seen.toArray:=by simpa using he'
   unfold leftOf at h0
   rw [Array.mem_filter] at h0
   exact ⟨by simpa using h0.1,by simpa using h0.2⟩
  obtain ⟨j,hj1,hj2,hj3⟩:=hborn e hmem.1
  have hns:j ∉ seen:=by
   have:=hmem.2
   rw [hj3] at this
   simpa using this
  have hwh:w1.heap=z.w.heap:=by rcases hw1 with rfl | rfl <;> rfl
  have hwo:w1.os=z.w.os:=by rcases hw1 with rfl | rfl <;> rfl
  have hwt:w1.tape=z.w.tape:=by rcases hw1 with rfl | rfl <;> rfl
  have hwu:w1.output=z.w.output:=by rcases hw1 with rfl | rfl <;> rfl
  have hup:=CP hok id (.mj g mid ob.gen ks.length (seen++[j])) (setBlock w1 b (.mapIter (some m) ks.length (seen++[j]).toArray ks.length)) (some (b,1)) z.n (by simp [setBlock,hwh]) hwo hwt hwu
   (fun b' _ hne=>by
    have:b≠b':=fun e=>hne _ 1 hHid (by rw [← e]; exact h1)
    simp [setBlock,hwh,this])
   (fun b' k' hb'=>by cases hb'; exact ⟨by simpa [setBlock,hwh] using hb,.inr ⟨_,_,hHid,h1⟩⟩) (Nat.le_refl _) (hok.obj _ _ hHid).1 (fun _=>⟨_,hHid,rfl,rfl,h1.symm⟩)
   (fun hle=>⟨b,m,rfl,by simp [setBlock,hwh,hb],h4.mono hle⟩)
  have hrun':(Instr.next (.pointer (some ⟨b,0,none⟩)) false o.type).run P z.w = .ok (.tuple #[.bool true,e.key,e.val]) (setBlock w1 b (.mapIter (some m) ks.length (seen++[j]).toArray ks.length)):=by
   rw [hrun,hj3]; simp
  simp only [h2,Sem.run_bind,hrun',Result.andThen_ok,Sem.run_pure]
  refine hK' _ _ ?_
  rw [hd]
  refine ht j hj1 hns c0 (a.put (some d) _) _ ⟨_,hdef,by simpa [Act.put] using hsz,_,rfl,hle.trans hup.1,hup.2,by simp only [hH]; exact Br _ _ _,hn,(he.mono hup.1).put hN' (.tup rfl fun i a u ha hu=>?_)⟩ Q hQ
  rcases i with _ | _ | _ | i
  ·simp at ha hu; subst ha; subst hu; exact .r (.bool true)
  ·simp at ha; subst ha; exact .any _
  ·simp at ha; subst ha; exact .any _
  ·simp at ha
end
section
variable {P:Program} {c:Bool} {o:Oper} {R:AU} {h:AM} {n:Nat}
theorem PW {y:Cx} {a:Act} (hok:y.ok) (hH:y.H=hget h) {x:Operand} {id g mid len j:Nat} {ob:AR} {ks:List Int} {ys:List Nat} {k:Int} (ho:o.op = .entry x) (hv:AL y (.ptr id g 0 0) (a.eval x)) (hh:hget h id=some (.mj g mid ob.gen len (ys++[j]))) (hm:hget h mid=some ob)
  (hk:ob.mkeys=some ks) (hl:len=ks.length) (hj:ks[j]? = some k) : ∃ bm m,y.β mid=some (bm,1)∧m.key = .int .i64 k∧m.born=j∧(∀ w2,CA y w2→(execOp a.eval o).run P w2 = .ok (.value (.tuple #[.int .i64 k,m.val])) w2) ∧
   ∃ es:List MapEntry,es[j]? = some m∧y.w.heap[bm]? = some (.map es.toArray ks.length):=by
 subst hl
 have hHid:y.H id=some (.mj g mid ob.gen ks.length (ys++[j])):=by rw [hH]; exact hh
 have hHm:y.H mid=some ob:=by rw [hH]; exact hm
 obtain ⟨b,m,h1,h2,h3,h4⟩:=NX hok hHid hv
 obtain ⟨bm,es,k1,k2,k3,k4,k5⟩:=MZ hok hHm hk h4
 cases k2
 obtain ⟨e,e1,e2,e3⟩:=k5 j k hj
 refine ⟨m,e,k1,e2,e3,fun w2 hag=>?_,es,e1,k3⟩
 have hb2:w2.heap[b]? = some (.mapIter (some m) ks.length (ys.toArray.push e.born) ks.length):=by
  rw [hag b (.inr ⟨id,_,1,hHid,.inl h1⟩),h3,e3]; simp
 have hm2:w2.heap[m]? = some (.map es.toArray ks.length):=by rw [hag m (.inr ⟨mid,_,1,hHm,.inl k1⟩)]; exact k3
 have hnd:(es.toArray.toList.map (·.born)).Nodup:=by
  have:es.map (·.born)=List.range es.length:=by
   refine List.ext_getElem? fun i=>?_
   rw [List.getElem?_map]
   by_cases hi:i<es.length
   ·obtain ⟨m',f1,_,f3⟩:=k5 i (ks[i]'(by omega)) (List.getElem?_eq_getElem (by omega))
    rw [f1,List.getElem?_range hi]
    simp [f3]
   ·rw [List.getElem?_eq_none (by omega),List.getElem?_eq_none (by simpa using hi)]; rfl
  rw [this]; exact List.nodup_range
 have hrun:=run_entry_at (P:=P) w2 b m ks.length ys.toArray es.toArray ks.length e hb2 hm2 (by simpa using List.mem_of_getElem? e1) hnd
 simp only [execOp,ho,h2,Sem.run_bind,hrun,Result.andThen_ok,Sem.run_pure,e2]
theorem Ry {α:Type} {rd:α→RV} {x:Operand} {id g mid mg len j:Nat} {m:List (Int × α)} {ys:List Nat} {k:Int} {a:α} (ho:o.op = .entry x) (hx:Ev c R x (.ptr id g 0 0)) (hh:hget h id=some (.mj g mid mg len (ys++[j]))) (hm:hget h mid=some (.md mg (AE rd m)))
  (hl:m.length=len) (hj:m[j]? = some (k,a)):AX P c o R h (.tup [.r (.int .i64 k),.r (rd a)]):=by
 intro hc y w hok hH he
 have hHm:y.H mid=some (.md mg (AE rd m)):=by rw [hH]; exact hm
 obtain ⟨bm,e,k1,k2,k3,hrun,es,k4,k5⟩:=PW hok hH (P:=P) ho (hx.rep he hc) hh hm (Gk mg rd m) (by simp [hl]) (k:=k) (by rw [List.getElem?_map,hj]; rfl)
 refine ⟨_,hrun,.tup rfl fun i a' u' ha hu=>?_⟩
 rcases i with _ | _ | i
 ·simp at ha hu; subst ha; subst hu; exact .r (.int _ _)
 ·simp at ha hu; subst ha; subst hu
  obtain ⟨_,b,es',h1,h2,h3,h4⟩:=hok.obj _ _ hHm
  rw [k1] at h1; cases h1
  rw [k5] at h2
  simp only [Option.some.injEq,Obj.map.injEq] at h2
  have hes:es=es':=by simpa using congrArg Array.toList h2.1
  obtain ⟨m',f1,_,_,f4⟩:=h4 j k (rd a) (by rw [JV,hj]; rfl)
  rw [← hes,k4] at f1; cases f1
  exact .r f4
 ·simp at ha
theorem Rh {α:Type} {row:α→List RV} {x:Operand} {id g mid mg ve len j:Nat} {e:TypeId} {m:List (Int × α)} {ys:List Nat} {k:Int} {a:α} (ho:o.op = .entry x) (hx:Ev c R x (.ptr id g 0 0)) (hh:hget h id=some (.mj g mid mg len (ys++[j]))) (hm:hget h mid=some (.mb mg ve e (AE row m)))
  (hl:m.length=len) (hj:m[j]? = some (k,a)) (hnd:(m.map (·.1)).Nodup):AX P c o R h (.tup [.r (.int .i64 k),.pk mid mg ve (At m k) 0]):=by
 intro hc y w hok hH he
 have hHm:y.H mid=some (.mb mg ve e (AE row m)):=by rw [hH]; exact hm
 obtain ⟨bm,en,k1,k2,k3,hrun,es,k4,k5⟩:=PW hok hH (P:=P) ho (hx.rep he hc) hh hm (Mf mg ve e row m) (by simp [hl]) (k:=k) (by rw [List.getElem?_map,hj]; rfl)
 refine ⟨_,hrun,.tup rfl fun i a' u' ha hu=>?_⟩
 rcases i with _ | _ | i
 ·simp at ha hu; subst ha; subst hu; exact .r (.int _ _)
 ·simp at ha hu; subst ha; subst hu
  obtain ⟨_,h0,b,es',h1,h2,h3,h4⟩:=hok.obj _ _ hHm
  rw [k1] at h1; cases h1
  rw [k5] at h2
  simp only [Option.some.injEq,Obj.map.injEq] at h2
  have hes:es=es':=by simpa using congrArg Array.toList h2.1
  obtain ⟨m',bb,cur,f1,_,_,f4,f5,_⟩:=h4 j k (row a) (by rw [JV,hj]; rfl)
  rw [← hes,k4] at f1; cases f1
  have hD:At m k=j:=by
   have hg : ∃ v,AK m k=some v:=by
    cases hq:Ab m k with
    | none=>
     exfalso
     have : ∀ (l:List (Int × α)) (j:Nat),l[j]? = some (k,a)→Ab l k≠none:=by
      intro l
      induction l with
      | nil=>intro j h; simp at h
      | cons p r ih=>
       intro j h
       unfold Ab
       split
       ·simp
       ·rename_i hk
        cases j with
        | zero=>simp at h; exact absurd (by rw [h]) hk
        | succ j=>simpa using ih j (by simpa using h)
     exact this m j hj hq
    | some j'=>obtain ⟨v,_,e2,_⟩:=CW hq; exact ⟨v,e2⟩
   obtain ⟨v,hg⟩:=hg
   obtain ⟨_,e2⟩:=NS hg
   have h1:(m.map (·.1))[At m k]? = some k:=by rw [List.getElem?_map,e2]; rfl
   have h2:(m.map (·.1))[j]? = some k:=by rw [List.getElem?_map,hj]; rfl
   exact (List.getElem?_inj (List.getElem?_eq_some_iff.1 h1).1 hnd).1 (h1.trans h2.symm)
  rw [hD]
  exact MN hok hHm h0 (by rw [f5]; rfl) fun q cs b c hq hK=>by rw [f4] at hK; cases hK; exact f5
 ·simp at ha
end
theorem Rj {α:Type} {m:List (Int × α)} {j:Nat} {k:Int} {a:α} (hnd:(m.map (·.1)).Nodup) (hj:m[j]? = some (k,a)):AK m k=some a:=by
 induction m generalizing j with
 | nil=>simp at hj
 | cons p r ih=>
  rw [List.map_cons,List.nodup_cons] at hnd
  cases j with
  | zero=>simp at hj; subst hj; simp [AK]
  | succ j=>
   have hj':r[j]? = some (k,a):=by simpa using hj
   unfold AK
   rw [if_neg fun e=>hnd.1 (by rw [← e]; exact List.mem_map.2 ⟨(k,a),List.mem_of_getElem? hj',rfl⟩),ih hnd.2 hj']
theorem M0 {α:Type} {m:List (Int × α)} {j:Nat} {k:Int} (hj:(m.map (·.1))[j]? = some k) : ∃ a,m[j]? = some (k,a):=by
 rw [List.getElem?_map,Option.map_eq_some_iff] at hj
 obtain ⟨p,h1,rfl⟩:=hj
 exact ⟨p.2,h1⟩
section
variable {P:Program} {c:Bool} {o:Oper} {R:AU} {h:AM} {n:Nat}
theorem Mm {α:Type} {rd:α→RV} {x:Operand} {id g mid mg len j:Nat} {m:List (Int × α)} {ys:List Nat} {k:Int} {a:α} (ho:o.op = .entry x) (hx:Ev c R x (.ptr id g 0 0)) (hh:hget h id=some (.mj g mid mg len (ys++[j]))) (hm:hget h mid=some (.md mg (AE rd m)))
  (hl:(m.map (·.1)).length=len) (hj:(m.map (·.1))[j]? = some k) (hnd:(m.map (·.1)).Nodup) (ha:c=true→AK m k=some a):AX P c o R h (.tup [.r (.int .i64 k),.r (rd a)]):=by
 intro hc
 obtain ⟨b,hb⟩:=M0 hj
 have h1:=ha hc
 rw [Rj hnd hb] at h1
 cases h1
 exact Ry ho hx hh hm (by simpa using hl) hb hc
theorem Tc {α:Type} {row:α→List RV} {x:Operand} {id g mid mg ve len j:Nat} {e:TypeId} {m:List (Int × α)} {ys:List Nat} {k:Int} (ho:o.op = .entry x) (hx:Ev c R x (.ptr id g 0 0)) (hh:hget h id=some (.mj g mid mg len (ys++[j]))) (hm:hget h mid=some (.mb mg ve e (AE row m)))
  (hl:(m.map (·.1)).length=len) (hj:(m.map (·.1))[j]? = some k) (hnd:(m.map (·.1)).Nodup):AX P c o R h (.tup [.r (.int .i64 k),.pk mid mg ve (At m k) 0]):=by
 obtain ⟨b,hb⟩:=M0 hj
 exact Rh ho hx hh hm (by simpa using hl) hb hnd
end
section
variable {P:Program} {s:St}
theorem MR {L:Nat} {ys:List Nat} (hnd:ys.Nodup) (hlt : ∀ j∈ys,j<L) {j:Nat} (hj:j<L) (hjn:j ∉ ys):(ys++[j]).Nodup∧(ys++[j]++(List.range L).filter fun i=>!(ys++[j]).contains i).Perm (List.range L):=by
 have h0:(ys++[j]).Nodup:=by
  rw [List.nodup_append]
  exact ⟨hnd,by simp,fun a ha b hb e=>by simp at hb; subst hb; subst e; exact hjn ha⟩
 refine ⟨h0,(List.perm_ext_iff_of_nodup ?_ List.nodup_range).2 fun i=>?_⟩
 ·rw [List.nodup_append]
  refine ⟨h0,(List.nodup_range).filter _,fun a ha b hb e=>?_⟩
  subst e
  rw [List.mem_filter] at hb
  have:=hb.2
  simp only [Bool.not_eq_true',List.contains_eq_mem,decide_eq_false_iff_not] at this
  exact this ha
 ·simp only [List.mem_append,List.mem_filter,List.mem_range,Bool.not_eq_true',List.contains_eq_mem,decide_eq_false_iff_not,List.mem_singleton]
  constructor
  ·rintro ((h | rfl) | h)
   ·exact hlt i h
   ·exact hj
   ·exact h.1
  ·intro h
   by_cases hi:i∈ys∨i=j
   ·exact .inl hi
   ·exact .inr ⟨h,hi⟩
theorem QD {σ ρ:Type} {G:σ→Int→Option σ} {ks:List Int} {st0 st:σ} {rest:σ→Option ρ} {r:ρ} (hr : ∀ l:List Int,l.Perm ks→(Cs G l st0).bind rest=some r) {ys:List Nat} (hnd:ys.Nodup) (hlt : ∀ j∈ys,j<ks.length)
  (hst:Cs G (ys.map fun j=>ks.getD j 0) st0=some st) {j:Nat} (hj:j<ks.length) (hjn:j ∉ ys) : ∃ st',G st (ks.getD j 0)=some st':=by
 have hperm:=(MR hnd hlt hj hjn).2
 have hmap:((List.range ks.length).map fun j=>ks.getD j 0)=ks:=by
  refine List.ext_getElem? fun i=>?_
  rw [List.getElem?_map]
  by_cases hi:i<ks.length
  ·rw [List.getElem?_range hi]; simp [hi]
  ·rw [List.getElem?_eq_none (by simpa using hi),List.getElem?_eq_none (by omega)]; rfl
 have h:=hr _ (hmap ▸ hperm.map fun j=>ks.getD j 0)
 rw [List.map_append,List.map_append,List.append_assoc,PS,hst] at h
 simp only [Option.bind_some,List.map_cons,List.map_nil,List.cons_append,List.nil_append,Cs] at h
 cases hG:G st (ks.getD j 0) with
 | none=>rw [hG] at h; cases h
 | some st'=>exact ⟨st',rfl⟩
theorem VL {σ ρ:Type} {G:σ→Int→Option σ} {ks:List Int} {st0 st:σ} {rest:σ→Option ρ} {r:ρ} (hr : ∀ l:List Int,l.Perm ks→(Cs G l st0).bind rest=some r) {ys:List Nat} (hnd:ys.Nodup) (hlt : ∀ j∈ys,j<ks.length)
  (hst:Cs G (ys.map fun j=>ks.getD j 0) st0=some st) (hall : ∀ j,j<ks.length→j∈ys):rest st=some r:=by
 have hperm:ys.Perm (List.range ks.length):=(List.perm_ext_iff_of_nodup hnd List.nodup_range).2 fun i=>⟨fun h=>by simpa using hlt i h,fun h=>hall i (by simpa using h)⟩
 have hmap:((List.range ks.length).map fun j=>ks.getD j 0)=ks:=by
  refine List.ext_getElem? fun i=>?_
  rw [List.getElem?_map]
  by_cases hi:i<ks.length
  ·rw [List.getElem?_range hi]; simp [hi]
  ·rw [List.getElem?_eq_none (by simpa using hi),List.getElem?_eq_none (by omega)]; rfl
 have h:=hr _ (hmap ▸ hperm.map fun j=>ks.getD j 0)
 rw [hst] at h
 exact h
theorem Kt {σ ρ:Type} {bid BL d1 d2:Nat} {o1 o2:Oper} {x:Operand} {body:Code} {Q:Exit→St→Prop} {key:σ→List Int} {F:σ→Int→Option σ} {st0:σ} {rest:σ→Option ρ} {r:ρ}
  (it:Nat) {g mid mg:Nat} (Ef:σ→(Nat→Nat)→AU) (Hf:σ→(Nat→Nat)→AM) (nf:(Nat→Nat)→Nat) (hr:DH key F st0 rest=some r)
  (hw : ∃ i,Af s ⟨Ef st0 i,(it,some (.mj g mid mg (key st0).length [])) :: Hf st0 i,nf i,s.N⟩)
  (hg1:o1.guard=none) (hd1:o1.dst=some d1) (hN1:Nat.blt d1 s.N=true) (ho1:o1.op = .next x false) (hg2:o2.guard=none) (hd2:o2.dst=some d2) (hN2:Nat.blt d2 s.N=true) (ho2:o2.op = .extract (.tmp d1) 0)
  (hx : ∀ st i,Ev true (Ef st i) x (.ptr it g 0 0)) (hE1 : ∀ st i,get (Ef st i) d1 = .any) (hE2 : ∀ st i,get (Ef st i) d2 = .any) (hm : ∀ st i,∃ ob,hget (Hf st i) mid=some ob∧ob.gen=mg∧ob.mkeys=some (key st)) (hmi:(it == mid)=false) (hdis : ∀ st i,hget (Hf st i) it=none)
  (hbody : ∀ st k j ys st' i,F st k=some st'→(key st)[j]? = some k→(key st).Nodup→(key st).length=(key st0).length→AW P body (fun e s'=>e = .normal ∧ ∃ i',Af s' ⟨Ef st' i',(it,some (.mj g mid mg (key st0).length (ys++[j]))) :: Hf st' i',nf i',s.N⟩)
   ⟨(d2,.r (.bool true)) :: Ef st i,(it,some (.mj g mid mg (key st0).length (ys++[j]))) :: Hf st i,nf i,s.N⟩)
  (hrest : ∀ st1 i,rest st1=some r→Q .normal ⟨Ef st1 i,Hf st1 i,nf i,s.N⟩) :
  AW P (.block bid (.loop (.seq (.region BL #[o1,o2] false) (.seq (.cond (.tmp d2) .skip (.exit bid)) body)))) Q s:=by
 obtain ⟨hnd,hall⟩:=UF hr
 have hmi':it≠mid:=by simpa using hmi
 refine AW.block ?_
 let L:=(key st0).length
 refine AW.loop (fun m s'=>∃ (ys:List Nat) (st:σ) (i:Nat→Nat),ys.Nodup∧(∀ j∈ys,j<L)∧m=L-ys.length∧key st=key st0∧Cs (DA key (key st0) F) (ys.map fun j=>(key st0).getD j 0) st0=some st∧s'=⟨Ef st i,(it,some (.mj g mid mg L ys)) :: Hf st i,nf i,s.N⟩) L
  (by obtain ⟨i,hw⟩:=hw; exact ⟨_,hw,[],st0,i,by simp,by simp,by simp,rfl,rfl,rfl⟩) ?_
 rintro m s' ⟨ys,st,i,hys,hlt,rfl,hks,hfold,rfl⟩
 obtain ⟨ob,hob,hobg,hobk⟩:=hm st i
 refine AW.seq (AW.region (l:=[o1,o2]) ?_)
 refine Vh (ob:=ob) (ks:=key st) (id:=it) (g:=g) (mid:=mid) (len:=L) (seen:=ys) hg1 hd1 (Bx hN1) ho1 (hx st i) (by rw [BS,if_pos rfl,hobg]) (by rw [BS,if_neg hmi']; exact hob) hobk (by rw [hks]) (fun hdone=>?_) (fun j hj hjn=>?_)
 ·
  refine AS.step hg2 hd2 hN2 (Hq (LJ ho2 (vs:=[.r (.bool false)]) (by exact .inl (by rw [show ∀ e,C3 e (.tmp d1)=get e d1 from fun _=>rfl,By,if_pos rfl])) rfl) _) (AS.nil ?_)
  refine AW.seq (AW.cond (b:=false) (by rw [show ∀ e,C3 e (.tmp d2)=get e d2 from fun _=>rfl,By,if_pos rfl]) (fun h=>by cases h) fun _=>Vd (AW.exit ⟨⟨Ef st i,Hf st i,nf i,s.N⟩,Ps (fun t=>?_) (fun id=>?_) (Nat.le_refl _),?_⟩))
  ·rw [By,By]
   by_cases h2:d2=t
   ·subst h2; exact .inl (hE2 st i)
   ·rw [if_neg h2]
    by_cases h1:d1=t
    ·subst h1; exact .inl (hE1 st i)
    ·rw [if_neg h1]; exact .inr rfl
  ·rw [BS]
   by_cases h1:it=id
   ·subst h1; exact .inl (hdis st i)
   ·rw [if_neg h1]; exact .inr rfl
  ·show Ma bid Q (.exit bid) _
   show (if bid=bid then Q .normal _ else _)
   rw [if_pos rfl]
   exact hrest st i (VL hall hys hlt hfold hdone)
 ·
  obtain ⟨st',hst'⟩:=QD hall hys hlt hfold hj hjn
  have hk:(key st)[j]? = some ((key st0).getD j 0):=by rw [hks]; simp [List.getD,List.getElem?_eq_getElem hj]
  have hF:F st ((key st0).getD j 0)=some st'∧key st'=key st0:=by
   unfold DA at hst'
   rw [Option.bind_eq_some_iff] at hst'
   obtain ⟨st2,h1,h2⟩:=hst'
   split at h2
   ·rename_i h3; cases h2; exact ⟨h1,h3⟩
   ·cases h2
  refine AS.step hg2 hd2 hN2 (Hq (LJ ho2 (vs:=[.r (.bool true),.any,.any]) (by exact .inl (by rw [show ∀ e,C3 e (.tmp d1)=get e d1 from fun _=>rfl,By,if_pos rfl])) rfl) _) (AS.nil ?_)
  refine AW.seq (AW.cond (b:=true) (by rw [show ∀ e,C3 e (.tmp d2)=get e d2 from fun _=>rfl,By,if_pos rfl]) (fun _=>AW.skip ?_) fun h=>by cases h)
  show AW P body _ _
  refine AW.weak (s':=⟨(d2,.r (.bool true)) :: Ef st i,(it,some (.mj g mid mg L (ys++[j]))) :: Hf st i,nf i,s.N⟩) (Ps (fun t=>?_) (fun id=>?_) (Nat.le_refl _)) ?_
  ·rw [By,By,By]
   by_cases h2:d2=t
   ·rw [if_pos h2,if_pos h2]; exact .inr rfl
   ·rw [if_neg h2,if_neg h2]
    by_cases h1:d1=t
    ·subst h1; exact .inl (hE1 st i)
    ·rw [if_neg h1]; exact .inr rfl
  ·rw [BS,BS,BS]
   by_cases h1:it=id
   ·rw [if_pos h1,if_pos h1,hobg]; exact .inr rfl
   ·rw [if_neg h1,if_neg h1,if_neg h1]; exact .inr rfl
  ·refine (hbody st _ j ys st' i hF.1 hk (by rw [hks]; exact hnd) (by rw [hks])).mono fun e s2 ⟨he,i',hw2⟩=>?_
   subst he
   refine ⟨L-(ys++[j]).length,?_,_,hw2,ys++[j],st',i',?_,?_,rfl,hF.2,?_,rfl⟩
   ·have hlen:ys.length<L:=by
     have h1:=(MR hys hlt hj hjn).2.length_eq
     simp only [List.length_append,List.length_singleton,List.length_range] at h1
     omega
    simp; omega
   ·exact (MR hys hlt hj hjn).1
   ·intro a ha
    simp only [List.mem_append,List.mem_singleton] at ha
    rcases ha with ha | rfl
    ·exact hlt a ha
    ·exact hj
   ·rw [List.map_append,PS,hfold]
    simp only [Option.bind_some,List.map_cons,List.map_nil,Cs,hst']
end
end Go.Proofs.Ytelkfhdgmbahgaa.Al

namespace Go.Proofs.Ytelkfhdgmbahgaa.Al
open Go.MapKept Go.RowKit
section
variable {P:Program} {c:Bool} {o:Oper} {R:AU} {h:AM} {n:Nat}
theorem Fk {t:TypeId} {z:Value} (h:Bk P t z) (w:World):(zeroValue t).run P w = .ok z w:=by
 obtain ⟨i,h1,h2⟩:=h
 simp [zeroValue,typeInfo,h1,h2]
theorem LQ {α:Type} (rd:α→RV) {t:TypeId} (id:Nat) (ho:o.op = .makeMap t none):A9 P c o R h n (.mref id n) ((id,some (.md n (AE rd ([]:List (Int × α))))) :: h) (n+1):=Up id ho
theorem SB {α:Type} (row:α→List RV) {t:TypeId} (id:Nat) (e:TypeId) (ho:o.op = .makeMap t none):A9 P c o R h n (.mref id n) ((id,some (.mb n n e (AE row ([]:List (Int × α))))) :: h) (n+1):=Tv id e ho
theorem Ke {α:Type} {row:α→List RV} {m m0:List (Int × α)} {k:Int} {a:α} (hk:At m0 k=At m k) (hs:AK m k=some a):(AE row m)[At m0 k]? = some (k,row a):=by
 rw [hk,JV,(NS hs).2]; rfl
theorem Jx {α:Type} {row:α→List RV} {t:TypeId} {x:Operand} {f off:Nat} {id g ve q:Nat} {e:TypeId} {m m0:List (Int × α)} {k:Int} {a:α} (ho:o.op = .fieldAddr t x f) (ht:BG P t f off) (hx:Ev c R x (.pk id g ve (At m0 k) q)) (hh:hget h id=some (.mb g ve e (AE row m)))
  (hk:At m0 k=At m k) (hs:c=true→AK m k=some a):AX P c o R h (.pk id g ve (At m0 k) (q+off)):=
 TN ho ht hx hh fun hc=>by rw [Ke hk (hs hc)]; rfl
theorem KB {α:Type} {row:α→List RV} {t:TypeId} {x:Operand} {id g ve q:Nat} {e:TypeId} {m m0:List (Int × α)} {k:Int} {a:α} {d:RV} (ho:o.op = .load t x) (ht:BK P t) (hx:Ev c R x (.pk id g ve (At m0 k) q)) (hh:hget h id=some (.mb g ve e (AE row m)))
  (hk:At m0 k=At m k) (hs:c=true→AK m k=some a) (hd:(row a)[q]? = some d):AX P c o R h (.r d):=
 RY ho ht hx hh (fun hc=>Ke hk (hs hc)) hd
theorem Rx {α:Type} {row:α→List RV} {t:TypeId} {x:Operand} {id g ve sz:Nat} {e:TypeId} {m m0:List (Int × α)} {k:Int} {a:α} {cs:List AV} (ho:o.op = .load t x) (ht:CU P t sz) (hx:Ev c R x (.pk id g ve (At m0 k) 0)) (hh:hget h id=some (.mb g ve e (AE row m)))
  (hk:At m0 k=At m k) (hs:c=true→AK m k=some a) (hl:(row a).length=sz) (hcs:(row a).map .r=cs):AX P c o R h (.agg cs):=by
 subst hcs
 exact UE ho ht hx hh (fun hc=>Ke hk (hs hc)) hl
theorem IF {α:Type} {row:α→List RV} {x:Operand} {id g ve q:Nat} {e:TypeId} {m m0:List (Int × α)} {k:Int} {a:α} (ho:o.op = .nilCheck x) (hx:Ev c R x (.pk id g ve (At m0 k) q)) (hh:hget h id=some (.mb g ve e (AE row m)))
  (hk:At m0 k=At m k) (hs:c=true→AK m k=some a):AX P c o R h (.pk id g ve (At m0 k) q):=by
 intro hc z w hok hH he
 have hHid:z.H id=some (.mb g ve e (AE row m)):=by rw [hH]; exact hh
 have hv:=hx.rep he hc
 obtain ⟨bb,cur,k1,k2,_⟩:=KD hok hHid hv (Ke hk (hs hc))
 refine ⟨w.eval x,fun w2 hag=>?_,hv⟩
 unfold execOp
 rw [ho]
 simp [k2]
end
theorem KK {a α:Type} {x:a} {f:a→Option α} {r:α} (h:AH (some x) f=some r):f x=some r:=h
end Go.Proofs.Ytelkfhdgmbahgaa.Al

set_option linter.all false
set_option maxHeartbeats 4000000
set_option maxRecDepth 20000
namespace Go.Proofs.Ytelkfhdgmbahgaa.Al
open Go
def Nn:Go.GStep→Nat
 | .go _ w _=>w.drawn
 | .comm _ _ _ _ w _=>w.drawn
 | .spawn _ _ w _=>w.drawn
 | .count _ w _=>w.drawn
 | .timer _ _ w _=>w.drawn
 | .alone _ _ w _=>w.drawn
 | .newcoro _ _ _ w _=>w.drawn
 | .coroswitch _ _ _ w _=>w.drawn
 | .collect _ w _=>w.drawn
 | .watch _ w _=>w.drawn
 | .ended _ w _=>w.drawn
@[simp] theorem Vy (es:Array Event) (s:Go.GStep):(Nn (Go.GStep.after es s))=(Nn s):=by cases s <;> rfl
end Go.Proofs.Ytelkfhdgmbahgaa.Al

set_option maxHeartbeats 1000000
namespace Go.Proofs.Ytelkfhdgmbahgaa.Al
open Go.Shelf Go.RowKit Go.Lib Go.Sort
theorem PN {τ:Type} {lt:τ→τ→Bool} (hO:SWO lt) : ∀ (l l':List τ),l.Perm l'→(∀ a∈l,∀ b∈l,lt a b=false→lt b a=false→a=b)→l.Pairwise (fun a b=>lt b a=false)→l'.Pairwise (fun a b=>lt b a=false)→l=l':=by
 intro l
 induction l with
 | nil=>intro l' hp _ _ _; exact (List.nil_perm.1 hp).symm
 | cons a r ih=>
  intro l' hp ha h1 h2
  cases l' with
  | nil=>exact absurd hp (by simp)
  | cons b s=>
   rw [List.pairwise_cons] at h1 h2
   have hab:a=b:=by
    have hbm:b∈a :: r:=hp.symm.subset (List.mem_cons_self ..)
    have ham:a∈b :: s:=hp.subset (List.mem_cons_self ..)
    rcases List.mem_cons.1 hbm with e | hb
    ·exact e.symm
    ·rcases List.mem_cons.1 ham with e | ha'
     ·exact e
     ·exact ha a (List.mem_cons_self ..) b (List.mem_cons_of_mem _ hb) (h2.1 a ha') (h1.1 b hb)
   subst hab
   rw [ih s (List.Perm.cons_inv hp) (fun x hx y hy=>ha x (List.mem_cons_of_mem _ hx) y (List.mem_cons_of_mem _ hy)) h1.2 h2.2]
section
variable {P:Program} {ρ:Ren} {τ:Type} {row:τ→List RV} {k:Nat} {cmp:τ→τ→Option Int} {g:FuncId}
end
end Go.Proofs.Ytelkfhdgmbahgaa.Al

set_option linter.unusedVariables false
namespace Go.Proofs.Ytelkfhdgmbahgaa.Al
open Go.Shelf Go.RowKit Go.Lib Go.Sort
def D9 (xs:List Int):Option (List Int):=if xs.length<4611686018427387904 then some (xs.mergeSort fun x y=>decide (x≤y)) else none
structure Ov (P:Program) (f:FuncId):Prop where
 call:Jr P f
 ex : ∃ ρ:Ren,ρ.f 189=f∧Go.Proofs.Lays.n189 P ρ
theorem Sn (w:World) (blk n:Nat) (d:Array Int) (os:Array Obj) :
  w.heap.size≤(grow (putRow (Value.int .i64) (Sort.ahead w n) blk 0 d) os).heap.size∧(grow (putRow (Value.int .i64) (Sort.ahead w n) blk 0 d) os).os=w.os∧(grow (putRow (Value.int .i64) (Sort.ahead w n) blk 0 d) os).tape=w.tape∧(grow (putRow (Value.int .i64) (Sort.ahead w n) blk 0 d) os).output=w.output ∧
   (∀ b,b<w.heap.size→b≠blk→(grow (putRow (Value.int .i64) (Sort.ahead w n) blk 0 d) os).heap[b]? = w.heap[b]?) ∧
   ∀ cur e fz,w.heap[blk]? = some (.cells cur e fz)→(grow (putRow (Value.int .i64) (Sort.ahead w n) blk 0 d) os).heap[blk]? = some (.cells (putCells (Value.int .i64) 0 d cur) e fz):=by
 refine ⟨?_,rfl,rfl,rfl,fun b hb hne=>?_,fun cur e fz h=>?_⟩
 ·simp [grow,putRow,mapBlock,Sort.ahead]
 ·simp only [grow,putRow,mapBlock,Sort.ahead]
  rw [Array.getElem?_append_left (by simpa using hb),Array.getElem?_modify,if_neg (fun e=>hne e.symm)]
 ·have hb:blk<w.heap.size:=(Array.getElem?_eq_some_iff.1 h).1
  simp only [grow,putRow,mapBlock,Sort.ahead]
  rw [Array.getElem?_append_left (by simpa using hb),Array.getElem?_modify,if_pos rfl,h]
  rfl
section
variable {P:Program}
theorem Pp {f:FuncId} (L:Ov P f) {gg:Nat} {e:TypeId} {xs l:List Int} (hs:D9 xs=some l) :
  A8 P f 1 [.own 1000 gg] [(1000,some (.arr gg e 1 (xs.map (Ad .i64))))] (fun r h'=>∃ i:Nat→Nat,r = .tup []∧h'=[(1000,some (.arr gg e 1 (l.map (Ad .i64))))]):=by
 obtain ⟨hcal,ρ,hf,hL⟩:=L
 refine ⟨hcal,fun x vs hok hH ha=>?_⟩
 subst hf
 have hsz:xs.length<4611686018427387904:=by
  unfold D9 at hs
  split at hs
  ·assumption
  ·cases hs
 have hs':(xs.mergeSort fun x y=>decide (x≤y))=l:=by
  unfold D9 at hs
  rw [if_pos hsz] at hs
  exact Option.some.inj hs
 subst hs'
 have hHid:x.H 1000=some (.arr gg e 1 (xs.map (Ad .i64))):=by rw [hH]; rfl
 obtain ⟨hgn,h0,hrl,hdr,us,hh,hown,hcell⟩:=hok.obj _ _ hHid
 obtain ⟨v1,rfl⟩ : ∃ v1,vs = #[v1]:=by
  have:=ha.1
  match vs,this with
  | ⟨[a]⟩,_=>exact ⟨a,rfl⟩
 have a1:=ha.2 0 _ v1 rfl rfl
 have e1:Bp (x.β 1000) (xs.map (Ad .i64)).length v1:=by
  cases a1 with
  | own _ _ h=>exact h _ hHid rfl
 rw [List.length_map] at hh hown e1
 cases hβ:x.β 1000 with
 | none=>
  rw [hβ] at hh e1
  obtain ⟨hz,_⟩:=hh
  obtain ⟨_,rfl⟩:=e1
  have hx:xs=[]:=List.length_eq_zero_iff.1 hz
  subst hx
  refine (Any.slices_Sort_int_none hL none 0 x.w).mono fun e' w' ⟨he,hw⟩=>?_
  subst hw
  exact ⟨_,x,.tup [],_,he,rfl,Cx.le.refl x,hok,hH,.tup rfl (fun i c u h=>by simp at h),rfl,rfl,fun _=>gg,rfl,by simp⟩
 | some p=>
  obtain ⟨blk,cap⟩:=p
  rw [hβ] at hh e1
  cases hh; cases e1
  have hob:=hok.own 1000 _ blk cap hHid hβ
  obtain ⟨hul,hown'⟩:=hown
  obtain ⟨hv,_⟩ | ⟨g',cap',cur,hv,_,hhp,hcap,hm,hcur,htake⟩:=hown'
  ·cases hv
  simp only [Value.slice.injEq,Option.some.injEq,Addr.mk.injEq,and_true] at hv
  obtain ⟨rfl,_,rfl⟩:=hv
  rw [Nat.mul_one] at hul hcur htake
  have hus : ∀ i (hi:i<xs.length),cur[i]? = some (.int .i64 xs[i]):=fun i hi=>by
   obtain ⟨u,k1,k2⟩:=hcell i (Ad .i64 xs[i]) 0 (.int .i64 xs[i]) (by rw [List.getElem?_map,List.getElem?_eq_getElem hi]; rfl) rfl
   rw [Nat.mul_one,Nat.add_zero,← htake,List.getElem?_take,if_pos hi,Array.getElem?_toList] at k1
   rw [k1]
   cases k2; rfl
  have hHo:Holds (Value.int .i64) x.w blk 0 xs.toArray:=by
   intro j hj
   have hj':j<xs.length:=by simpa using hj
   refine ⟨?_,?_⟩
   ·unfold World.cell?
    simp only [hhp,Nat.zero_add,Option.isSome_none,Bool.false_eq_true,if_false]
    rw [hus j hj']
    simp [hj']
   ·unfold World.frozen?
    simp [hhp]
  refine (Any.slices_Sort_int hL blk 0 cap xs x.w hHo hob.1 hsz).mono fun e' w' ⟨he,n,os,hw⟩=>?_
  subst hw
  generalize hld:(xs.mergeSort fun x y=>decide (x≤y))=l
  have hll:l.length=xs.length:=by rw [← hld]; exact List.length_mergeSort _
  obtain ⟨f1,f2,f3,f4,f5,f6⟩:=Sn x.w blk n l.toArray os
  generalize grow (putRow (Value.int .i64) (Sort.ahead x.w n) blk 0 l.toArray) os=W at *
  have hcs:xs.length≤cur.size:=by omega
  have hflat:(putCells (Value.int .i64) 0 l.toArray cur).toList.take xs.length=l.map (Value.int .i64):=by
   apply List.ext_getElem?
   intro j
   rw [List.getElem?_take,Array.getElem?_toList]
   split
   ·rename_i hj
    unfold putCells
    rw [Array.getElem?_mapIdx,Array.getElem?_eq_getElem (by omega),Option.map_some,if_pos ⟨Nat.zero_le _,by simp; omega⟩]
    rw [List.getElem?_map,List.getElem?_eq_getElem (by omega)]
    simp [show j<l.length by omega]
   ·rename_i hj
    rw [List.getElem?_eq_none (by simp; omega)]
  have hup:=CP hok 1000 (.arr gg e 1 (l.map (Ad .i64))) W (some (blk,cap)) x.n f1 f2 f3 f4
   (fun b hb hno=>f5 b hb fun e=>hno _ cap hHid (by rw [e]; exact hβ))
   (fun b k' hb=>by cases hb; exact ⟨Nat.lt_of_lt_of_le hob.1 f1,.inr ⟨_,cap,hHid,hβ⟩⟩)
   (Nat.le_refl _) hgn (fun _=>⟨_,hHid,rfl,by simp [AR.shape,hll],hβ.symm⟩)
   (fun hle=>⟨by decide,fun r hr=>by obtain ⟨a,_,rfl⟩:=List.mem_map.1 hr; rfl,.slice (some ⟨blk,0,none⟩) xs.length cap,l.map (Value.int .i64),by rw [List.length_map,hll]; rfl,
    ⟨by simp,.inr ⟨blk,cap,putCells (Value.int .i64) 0 l.toArray cur,by rw [List.length_map,hll],Nat.zero_le _,f6 cur e (0,0) hhp,by rw [List.length_map,hll]; exact hcap,hm,by rw [Nat.mul_one,← hcur]; simp [putCells],by rw [List.length_map,hll,Nat.mul_one]; exact hflat⟩⟩,
    fun i r c d hi hd=>by
     rw [List.getElem?_map,Option.map_eq_some_iff] at hi
     obtain ⟨a,hi,rfl⟩:=hi
     match c,hd with
     | 0,hd=>cases hd; exact ⟨.int .i64 a,by rw [Nat.mul_one,Nat.add_zero,List.getElem?_map,hi]; rfl,.int _ _⟩
     | c+1,hd=>simp [Ad] at hd⟩)
  refine ⟨_,_,.tup [],[(1000,some (.arr gg e 1 (l.map (Ad .i64))))],he,rfl,hup.1,hup.2,?_,.tup rfl (fun i c u h=>by simp at h),rfl,rfl,fun _=>gg,rfl,rfl⟩
  simp only [hH]
  funext i
  by_cases hi:1000=i
  ·subst hi; rfl
  ·rw [if_neg hi,BS,if_neg hi,BS,if_neg hi]
end
end Go.Proofs.Ytelkfhdgmbahgaa.Al

namespace Go.Proofs.Ytelkfhdgmbahgaa.Al
section
variable {P:Program} {c:Bool} {o:Oper} {R:AU} {h:AM} {n:Nat}
end
section
variable {P:Program} {ops:Array Oper} {rest:List Oper} {s:St} {K:St→Prop} {o:Oper}
def IH (R:AU) (L:List Nat) (id n:Nat):List Operand→List AV→Prop
 | [],[]=>True
 | x :: xs,b :: bs=>(((Ev true R x (ren L b)∧b.canon L.length=true)∨(Ev true R x (.cst (.slice none 0 0))∧b = .r (.sl [])))∨(Ev true R x (.cst (.slice none 0 0))∧ren L b = .own id n∧b.canon L.length=true))∧IH R L id n xs bs
 | _,_=>False
theorem IH.get {R:AU} {L:List Nat} {id n:Nat} {xs:List Operand} {bs:List AV} (hx:IH R L id n xs bs) :
  xs.length=bs.length ∧ ∀ (i:Nat) (b:AV),bs[i]? = some b → ∃ x,xs[i]? = some x∧(((Ev true R x (ren L b)∧b.canon L.length=true)∨(Ev true R x (.cst (.slice none 0 0))∧b = .r (.sl [])))∨(Ev true R x (.cst (.slice none 0 0))∧ren L b = .own id n∧b.canon L.length=true)):=by
 induction xs generalizing bs with
 | nil=>cases bs with | nil=>exact ⟨rfl,by simp⟩ | cons _ _=>exact hx.elim
 | cons x l ih=>
  cases bs with
  | nil=>exact hx.elim
  | cons b m=>
   obtain ⟨h1,h2⟩:=ih hx.2
   refine ⟨by simp [h1],fun i c hi=>?_⟩
   cases i with
   | zero=>simp at hi; subst hi; exact ⟨x,rfl,hx.1⟩
   | succ i=>simpa using h2 i c (by simpa using hi)
theorem Qv {f:FuncId} {fo:Operand} {xs:Array Operand} {ats:Array TypeId} {caps bs:List AV} {L:List Nat} {hc:AM} {Post:AV→AM→Prop} {R:AU} {h:AM} {a:Act} {z:Cx} (id:Nat) (e:TypeId) (sz:Nat) (hz0:Nat.blt 0 sz=true)
  (ho:o.op = .call { callee:=.value fo,args:=xs,argTypes:=ats }) (hfo:Ev true R fo (.fn f (C7 L caps))) (hcc:D6 L.length caps=true) (hx:IH R L id z.n xs.toList bs) (hsh:EA ((id,some (.arr z.n e sz [])) :: h) L hc) (hnd:L.Nodup)
  (hcon:A8 P f L.length (bs++caps) hc Post) (hok:z.ok) (hH:z.H=hget h) (he:BF z R a) (K:Act→World→Prop) (Q:Exit→Act→World→Prop)
  (hK : ∀ (u:Value) (y:Cx) (r:AV) (h':AM),z.le y→y.ok→y.H=hget (DE L h' 1000 L++((id,some (.arr z.n e sz [])) :: h))→AL y (ren L r) u→Post r h'→K (a.put o.dst u) y.w):o.wp P a z.w K Q:=by
 have hup:=CP hok id (.arr z.n e sz []) z.w none (z.n+1) (Nat.le_refl _) rfl rfl rfl (fun _ _ _=>rfl) (fun b k hb=>by cases hb) (by omega) (by simp [AR.gen]) (fun hg=>absurd hg (by simp [AR.gen]))
  (fun hle=>⟨Bx hz0,by simp,.slice none 0 0,[],⟨rfl,rfl⟩,World.ownsRow_nil _ _ _ _,by simp⟩)
 generalize hy1:({ z with H:=fun i=>if id=i then some (.arr z.n e sz []) else z.H i,β:=fun i=>if id=i then none else z.β i,K:=fun i=>if id=i then fun _=>none else z.K i,n:=z.n+1 } : Cx)=y1 at hup
 have hy1H:y1.H=hget ((id,some (.arr z.n e sz [])) :: h):=by rw [← hy1]; simp only [hH]; exact Br _ _ _
 have hid:y1.H id=some (.arr z.n e sz []):=by rw [hy1H,BS,if_pos rfl]
 have hβid:y1.β id=none:=by rw [← hy1]; simp
 have hy1n:y1.n=z.n+1:=by rw [← hy1]
 have hy1w:y1.w=z.w:=by rw [← hy1]
 have he1:=he.mono hup.1
 obtain ⟨hcall,hcon⟩:=hcon
 obtain ⟨hlen,hget'⟩:=hx.get
 have hv:=hfo.rep he1 rfl
 generalize hfv:a.eval fo=v at hv
 cases hv with
 | @fn _ _ us hl hall=>
  have hrun:=G4 hcall ho hfv z.w
  rw [EK] at hl
  have hin : ∀ {b:AV} {u:Value},AL y1 (ren L b) u→b.canon L.length=true→AL (y1.view L hc) b u:=fun {b u} h1 h2=>LA (x:=y1) (y:=y1.view L hc) (L:=L) (k:=L.length) rfl (fun _ h=>h) (Nat.le_refl _) (LD hy1H hsh) h1 b rfl h2
  have hargs:FK (y1.view L hc) (bs++caps) (xs.map a.eval++us).toList:=by
   refine ⟨by simp [hl]; simpa using hlen,fun i b u h1 h2=>?_⟩
   have h2':((xs.toList.map a.eval)++us.toList)[i]? = some u:=by simpa using h2
   by_cases hi:i<bs.length
   ·rw [List.getElem?_append_left hi] at h1
    obtain ⟨x,k1,k2⟩:=hget' i b h1
    rw [List.getElem?_append_left (by simp at hlen ⊢; omega),List.getElem?_map,k1] at h2'
    simp only [Option.map_some,Option.some.injEq] at h2'
    subst h2'
    rcases k2 with (⟨k2,k3⟩ | ⟨k2,rfl⟩) | ⟨k2,k3,k4⟩
    ·exact hin (k2.rep he1 rfl) k3
    ·have:=k2.rep he1 rfl
     generalize a.eval x=v at this ⊢
     cases this; exact .r .snil
    ·refine hin ?_ k4
     rw [k3]
     have:=k2.rep he1 rfl
     generalize a.eval x=v at this ⊢
     cases this
     refine .own (by rw [hy1n]; omega) rfl fun o' ho' _=>?_
     rw [hid] at ho'; cases ho'
     rw [hβid]; exact ⟨rfl,rfl⟩
   ·rw [List.getElem?_append_right (by omega)] at h1
    rw [List.getElem?_append_right (by simp at hlen ⊢; omega)] at h2'
    have hxl:(xs.toList.map a.eval).length=bs.length:=by simpa using hlen
    rw [hxl] at h2'
    exact hin (hall _ (ren L b) u (by rw [Ec,h1]; rfl) (by simpa using h2')) (El hcc h1)
  unfold Oper.wp
  rw [hrun,← hy1w]
  refine (hcon (y1.view L hc) _ (Nt hup.2 hy1H hsh hnd) rfl hargs).mono fun e' w' ⟨u,y,r,h',he',hyw,hle,hyok,hyH,hyr,hrc,hhc,hpost⟩=>?_
  subst he'
  subst hyw
  obtain ⟨k1,k2⟩:=Nx hup.2 hy1H hsh hnd hle hyok hyH hhc
  exact hK u (y1.back y L h' _) r h' (hup.1.trans k1) k2 rfl (Mg (x:=y) (y:=y1.back y L h' _) (L:=L) (k:=L.length) rfl (fun _ h=>h) (Nat.le_refl _) (L2 hnd hyH) hyr hrc) hpost
theorem Vi {d:Nat} {f:FuncId} {fo:Operand} {xs:Array Operand} {ats:Array TypeId} {caps bs:List AV} (id:Nat) (e:TypeId) (sz:Nat) (hz0:Nat.blt 0 sz=true) (L:List Nat) {hc:AM} {F:(Nat→Nat)→AV} {G:(Nat→Nat)→AM} (hg:o.guard=none) (hd:o.dst=some d) (hN:Nat.blt d s.N=true)
  (ho:o.op = .call { callee:=.value fo,args:=xs,argTypes:=ats }) (hfo:Ev true s.e fo (.fn f (C7 L caps))) (hcc:D6 L.length caps=true) (hx:IH s.e L id s.n xs.toList bs) (hsh:EA ((id,some (.arr s.n e sz [])) :: s.h) L hc) (hnd:L.Nodup)
  (hcon:A8 P f L.length (bs++caps) hc (fun r h'=>∃ i,r=F i∧h'=G i))
  (hr : ∀ i n',AS P ops rest { e:=(d,ren L (F i)) :: s.e,h:=DE L (G i) 1000 L++((id,some (.arr s.n e sz [])) :: s.h),n:=n',N:=s.N } K):AS P ops (o :: rest) s K:=by
 intro c0 a w ⟨_,hdef,hsz,y,hyw,hle,hok,hH,hn,he⟩ Q hQ
 subst hyw
 rw [← hn] at hx hsh hr
 refine wpList_plain hg fun K' hK'=>?_
 refine Qv id e sz hz0 ho hfo hcc hx hsh hnd hcon hok hH he K' Q fun u z r h' hyz hzok hzH hzv hpost=>?_
 refine hK' _ _ ?_
 have hN':d<a.tmps.size:=by rw [hsz]; exact Bx hN
 obtain ⟨i,rfl,rfl⟩:=hpost
 rw [hd]
 exact hr i z.n c0 (a.put (some d) u) z.w ⟨_,hdef,by simpa [Act.put] using hsz,z,rfl,hle.trans hyz,hzok,hzH,rfl,(he.mono hyz).put hN' hzv⟩ Q hQ
end
theorem Qe {α:Type} {l l':List α} {z:Int} (h:DV l 0 z=some l'):l'=l.take z.toNat:=by
 obtain ⟨_,_,_,rfl⟩:=Mn h
 simp
section
variable {P:Program} {c:Bool} {o:Oper} {R:AU} {h:AM} {n:Nat}
theorem Qb {α:Type} {f:α→List RV} {t e e':TypeId} {sz sz':Nat} {x y:Operand} {id g:Nat} {l l':List α} {zh:Int} (ho:o.op = .slice t x none (some y) none) (ht:DK P t e sz) (hx:Ev c R x (.own id g))
  (hh:hget h id=some (.arr g e' sz' (l.map f))) (hhi : ∃ k,Ev c R y (.r (.int k zh))) (hs:c=true→DV l 0 zh=some l'):AX P c o R h (.pre id g zh.toNat):=by
 intro hc z w hok hH he
 obtain ⟨ht1,ii,ht2,ht3⟩:=ht
 obtain ⟨h1,h2,h3,rfl⟩:=Mn (hs hc)
 have hHid:z.H id=some (.arr g e' sz' (l.map f)):=by rw [hH]; exact hh
 obtain ⟨h0,hrow,us,hd,hown,hcl⟩:=HF hok hHid (hx.rep he hc)
 have hgn:=(hok.obj _ _ hHid).1
 obtain ⟨k,hk⟩:=hhi
 have hy:=DQ (hk.rep he hc)
 have hbnd : ∀ (len cap:Nat),zh≤cap → ∀ W,(Instr.sliceBounds true len cap none (some (w.eval y)) none).run P W = .ok (0,zh.toNat,cap) W:=by
  intro len cap hcap W
  have hH:(Instr.sliceBound (w.eval y) cap .sliceAcap).run P W = .ok zh.toNat W:=by rw [hy,MQ h2 hcap]
  simp [Instr.sliceBounds,hH]
 rw [List.length_map] at hd
 generalize hxv:w.eval x=xv at hd hown
 unfold Bp at hd
 split at hd
 ·rename_i heq
  obtain ⟨hz,rfl⟩:=hd
  have hm0:zh.toNat=0:=by omega
  refine ⟨.slice none 0 0,fun w2 hag=>?_,.pre hgn rfl fun o' ho' _=>?_⟩
  ·unfold execOp
   rw [ho]
   have hb2:=hbnd 0 0 (by omega) w2
   rw [hm0] at hb2
   simp [hxv,Instr.sliceAt,Instr.slice,run_underlying ht1,CR ht2,hb2]
  ·rw [hHid] at ho'; cases ho'
   rw [heq,hm0]
   exact ⟨Nat.zero_le _,rfl,rfl⟩
 ·rename_i b cap heq
  subst hd
  have hnc:l.length≤cap:=by
   rcases hown.2 with ⟨h1,_⟩ | ⟨g',cap',cur,h1,_,_,h2,h3,_⟩
   ·cases h1
   ·simp only [Value.slice.injEq] at h1; rw [h1.2.2]; simpa using h2
  refine ⟨.slice (some ⟨b,0,none⟩) zh.toNat cap,fun w2 hag=>?_,.pre hgn rfl fun o' ho' _=>?_⟩
  ·unfold execOp
   rw [ho]
   simp [hxv,Instr.sliceAt,Instr.slice,run_underlying ht1,CR ht2,ht3,hbnd _ cap (by omega),Addr.add_lit]
  ·rw [hHid] at ho'; cases ho'
   rw [heq]
   exact ⟨by simp [AR.shape]; omega,rfl⟩
end
open Go.Shelf Go.Proofs
def P5:Go.Shelf.Ren:=⟨fun | 189=>40 | 125=>60 | 257=>59 | 128=>78 | 129=>79 | 294=>69 | 295=>70 | 296=>71 | 297=>72 | 298=>73 | 299=>74 | 216=>75 | 300=>76 | 301=>77 | 328=>88 | 329=>89 | 330=>90 | 331=>91 | 332=>92 | 215=>67 | 343=>96 | n=>n,fun | 28=>47 | 3=>3 | 46=>94 | 0=>0 | 51=>110 | 53=>112 | 4=>4 | 183=>103 | 182=>102 | 131=>107 | 5=>5 | 9=>9 | 218=>118 | 222=>122 | 228=>126 | 229=>127 | n=>n,fun | n=>n⟩
theorem RJ:Go.Proofs.Lays.n189 Try.prog P5:={
 mixed:=by kernel_rfl
 f125:=Try.func60.trans (congrArg some (by kernel_rfl))
 f128:=Try.func78.trans (congrArg some (by kernel_rfl))
 f129:=Try.func79.trans (congrArg some (by kernel_rfl))
 f189:=Try.func40.trans (congrArg some (by kernel_rfl))
 f215:=Try.func67.trans (congrArg some (by kernel_rfl))
 f216:=Try.func75.trans (congrArg some (by kernel_rfl))
 f257:=Try.func59.trans (congrArg some (by kernel_rfl))
 f294:=Try.func69.trans (congrArg some (by kernel_rfl))
 f295:=Try.func70.trans (congrArg some (by kernel_rfl))
 f296:=Try.func71.trans (congrArg some (by kernel_rfl))
 f297:=Try.func72.trans (congrArg some (by kernel_rfl))
 f298:=Try.func73.trans (congrArg some (by kernel_rfl))
 f299:=Try.func74.trans (congrArg some (by kernel_rfl))
 f300:=Try.func76.trans (congrArg some (by kernel_rfl))
 f301:=Try.func77.trans (congrArg some (by kernel_rfl))
 f328:=Try.func88.trans (congrArg some (by kernel_rfl))
 f329:=Try.func89.trans (congrArg some (by kernel_rfl))
 f330:=Try.func90.trans (congrArg some (by kernel_rfl))
 f331:=Try.func91.trans (congrArg some (by kernel_rfl))
 f332:=Try.func92.trans (congrArg some (by kernel_rfl))
 f343:=Try.func96.trans (congrArg some (by kernel_rfl))
 t0:=Try.underlying0
 a0:=Try.isAgg0
 z0:=Try.sizeOf0
 v0:=Try.zeroValue0
 t3:=Try.underlying3
 a3:=Try.isAgg3
 z3:=Try.sizeOf3
 v3:=Try.zeroValue3
 t4:=Try.underlying4
 a4:=Try.isAgg4
 z4:=Try.sizeOf4
 v4:=Try.zeroValue4
 t5:=Try.underlying5
 a5:=Try.isAgg5
 z5:=Try.sizeOf5
 v5:=Try.zeroValue5
 t9:=Try.underlying9
 a9:=Try.isAgg9
 z9:=Try.sizeOf9
 v9:=Try.zeroValue9
 t28:=Try.underlying47
 a28:=Try.isAgg47
 z28:=Try.sizeOf47
 v28:=Try.zeroValue47
 t46:=Try.underlying94
 a46:=Try.isAgg94
 z46:=Try.sizeOf94
 v46:=Try.zeroValue94
 t51:=Try.underlying110
 a51:=Try.isAgg110
 z51:=Try.sizeOf110
 v51:=Try.zeroValue110
 t53:=Try.underlying112
 a53:=Try.isAgg112
 z53:=Try.sizeOf112
 v53:=Try.zeroValue112
 t131:=Try.underlying107
 a131:=Try.isAgg107
 z131:=Try.sizeOf107
 v131:=Try.zeroValue107
 t182:=Try.underlying102
 a182:=Try.isAgg102
 z182:=Try.sizeOf102
 v182:=Try.zeroValue102
 t183:=Try.underlying103
 a183:=Try.isAgg103
 z183:=Try.sizeOf103
 v183:=Try.zeroValue103
 t218:=Try.underlying118
 a218:=Try.isAgg118
 z218:=Try.sizeOf118
 v218:=Try.zeroValue118
 t222:=Try.underlying122
 a222:=Try.isAgg122
 z222:=Try.sizeOf122
 v222:=Try.zeroValue122
 t228:=Try.underlying126
 a228:=Try.isAgg126
 z228:=Try.sizeOf126
 v228:=Try.zeroValue126
 t229:=Try.underlying127
 a229:=Try.isAgg127
 z229:=Try.sizeOf127
 v229:=Try.zeroValue127 }
theorem Ol:Ov Try.prog 40:=⟨⟨Try.f40,Try.func40,rfl,rfl⟩,_,rfl,RJ⟩
end Go.Proofs.Ytelkfhdgmbahgaa.Al

namespace Go.Proofs.Ytelkfhdgmbahgaa.Al
section
variable {ops:Array Oper} {D:Nat→Bool} {G:Nat→Nat} {e:AU} {L:List PO} {t:Nat}
def Kh (ops:Array Oper) (i t:Nat):List PO→Nat→Bool
 | [],_=>true
 | p :: L,k=>(match p.d with | some d=>!Nat.beq d t || wt ops 40 k i | none=>true) && Kh ops i t L (k+1)
theorem Pi {i:Nat} (hr:Bv ops D i) : ∀ {L:List PO} {k:Nat},Kh ops i t L k=true→EM PO.wE D t L k
 | [],_,_=>fun j p v h=>by simp at h
 | q :: L,k,hB=>by
  simp only [Kh,Bool.and_eq_true] at hB
  obtain ⟨h1,h2⟩:=hB
  intro j p v hj hD hw
  cases j with
  | zero=>
   cases hj
   rw [(LP hw).1] at h1
   simp only [Bool.or_eq_true,Bool.not_eq_true',Nat.add_zero] at h1 hD
   rcases h1 with h1 | h1
   ·rw [Nat.beq_refl] at h1; cases h1
   ·rw [hr.no h1] at hD; cases hD
  | succ j=>
   exact Pi hr h2 j p v (by simpa using hj) (by rwa [show k+1+j=k+(j+1) by omega]) hw
theorem Ig {i:Nat} (hr:Bv ops D i) (hB:Kh ops i t L 0=true) {a:AV} (ha:get e t=a):get (C4 D G e L) t=a:=(Ea By L e 0 (Pi hr hB)).trans ha
end
theorem iL {α:Sort _} {x:α} {p:Prop} : x=x∨p:=.inl rfl
section
variable {P:Program} {ops:Array Oper} {rest:List Oper} {s:St} {K:St→Prop} {o:Oper}
theorem sQ {d:Nat} {v:AV} (hg:(o.guard,o.dst,Nat.blt d s.N)=(none,some d,true)) (hs:AX P true o s.e s.h v)
  (hr:AS P ops rest { e:=(d,v) :: s.e,h:=s.h,n:=s.n,N:=s.N } K):AS P ops (o :: rest) s K:=
 AS.step (Prod.mk.inj hg).1 (Prod.mk.inj (Prod.mk.inj hg).2).1 (Prod.mk.inj (Prod.mk.inj hg).2).2 (Hq hs _) hr
theorem sW {d:Nat} {c:Bool} {v:AV} (hG:D3 s.e ops o c) (hg:(o.dst,Nat.blt d s.N)=(some d,true)) (hs:AX P c o s.e s.h v)
  (hr:AS P ops rest { e:=(d,.whn c v) :: s.e,h:=s.h,n:=s.n,N:=s.N } K):AS P ops (o :: rest) s K:=
 AS.stepW hG (Prod.mk.inj hg).1 (Prod.mk.inj hg).2 (Hq hs _) hr
theorem sM {d:Nat} {x:Operand} (hg:(o.guard,o.dst,Nat.blt d s.N)=(none,some d,true)) (ho:o.op = .move x)
  (hr:AS P ops rest { e:=(d,C3 s.e x) :: s.e,h:=s.h,n:=s.n,N:=s.N } K):AS P ops (o :: rest) s K:=sQ hg (Nl ho (.inl rfl)) hr
theorem sV {d j dj:Nat} {want b:Bool} {v:AV} (hg:(o.guard,o.dst,Nat.blt d s.N)=(some (j,want),some d,true)) (hj:(ops[j]?).bind (·.dst)=some dj) (hb:C3 s.e (.tmp dj) = .r (.bool b)) (hs:AX P (b == want) o s.e s.h v)
  (hr:AS P ops rest { e:=(d,.whn (b == want) v) :: s.e,h:=s.h,n:=s.n,N:=s.N } K):AS P ops (o :: rest) s K:=
 sW (.one (Prod.mk.inj hg).1 hj hb) (Prod.mk.inj hg).2 hs hr
end
theorem jL {α:Sort _} {x:α} {p q:Prop} : (x=x∨p)∨q:=.inl (.inl rfl)
theorem iR {c:Bool} {R:AU} {x:Operand} {v:AV} (h:C3 R x = .whn c v):Ev c R x v:=.inr ⟨c,id,h⟩
theorem nL {n:Nat} : n≤n:=Nat.le_refl n
theorem fR {α β:Sort _} {x:β} (_:α):x=x:=rfl
section
variable {P:Program} {ops:Array Oper} {rest:List Oper} {s:St} {K:St→Prop} {o:Oper}
theorem sA {d:Nat} {x:Operand} (hg:(o.guard,o.dst,Nat.blt d s.N)=(none,some d,true)) (ho:o.op = .assign x)
  (hr:AS P ops rest { e:=(d,C3 s.e x) :: s.e,h:=s.h,n:=s.n,N:=s.N } K):AS P ops (o :: rest) s K:=sQ hg (CZ ho (.inl rfl)) hr
theorem aZ (h:K s):AS P ops [] s K:=AS.nil h
end
section
variable {P:Program} {Q:Exit→St→Prop} {s:St} {x y:Code}
theorem aS (h : ∀ K:St→Prop,(∀ s,AW P y Q s→K s)→(∀ s s',Af s s'→K s'→K s)→AW P x (EO K Q) s):AW P (.seq x y) Q s:=Vk h
theorem aR {id:Nat} {l:List Oper} (h:AS P l.toArray l s (Q .normal)):AW P (.region id l.toArray false) Q s:=AW.region h
theorem aC {c:Operand} {b:Bool} (hc:C3 s.e c = .r (.bool b)) (ht:b=true→AW P x Q s) (hf:b=false→AW P y Q s):AW P (.cond c x y) Q s:=AW.cond hc ht hf
end
theorem fB {P:Program} {c:Bool} {o:Oper} {R:AU} {h:AM} {t:TypeId} {x:Operand} {f off:Nat} {id g g' i k:Nat} {e:TypeId} {cs:List AV} (ho:o.op = .fieldAddr t x f) (ht:BG P t f off) (hx:Ev c R x (.ptr id g i k)) (hh:c=true→hget h id=some (.box g' e cs))
  (hg:g'=g):AX P c o R h (.ptr id g i (k+off)):=Fa (ob:=.box g' e cs) ho ht hx hh hg
@[reducible] def rI (k:Int):AV:=.r (.int .i64 k)
@[reducible] def rB (b:Bool):AV:=.r (.bool b)
theorem aK {P:Program} {Q:Exit→St→Prop} {s s':St} {x:Code} (h:AW P x Q s') (hw:Af s s':=by refine Mv ?_ ?_ nL <;> repeat (first | exact trivial | refine ⟨jL,?_⟩ | refine ⟨.inl rfl,?_⟩)):AW P x Q s:=AW.weak hw h
theorem BX {P:Program} {ops:Array Oper} {rest:List Oper} {s s':St} {K:St→Prop} (h:AS P ops rest s' K) (hw:Af s s':=by refine Mv ?_ ?_ nL <;> repeat (first | exact trivial | refine ⟨jL,?_⟩ | refine ⟨.inl rfl,?_⟩)):AS P ops rest s K:=AS.weak hw h
theorem oQ {P:Program} {ops:Array Oper} {s:St} {L:List PO} {i:Nat} {p:PO} {o:Oper} (ie:(Nat→Nat)→AU) (ih:(Nat→Nat)→AM)
  (hE : ∀ D G,Bv ops D i→GQ (C4 D G s.e L) (ie G)) (hH : ∀ D G,Bv ops D i→Ga (DJ D G s.h L) (ih G)) (h : ∀ G e h',AX P true o (ie G++e) (ih G++h') (p.v G))
  (hg:o.guard=none:=by rfl) (hd:o.dst=p.d:=by rfl) (hN : ∀ d,p.d=some d→Nat.blt d s.N=true:=by intro d h; cases h; rfl) (hp:p.hp=none:=by rfl) (hv : ∀ G n,p.v (CJ G i n)=p.v G:=by intros; rfl):Ob P ops s L i p o:=
 Kv (n1:=fun n=>n) hg hd hN hp ie ih hE hH hv fun G e h' _=>Hq (h G e h') _
@[reducible] def cZ:AV:=.cst (.slice none 0 0)
open Go.ChangeShapes Go.WideShapes Go.Deep Go.WideElems Go.RowKit
structure Kz (H:Type) where
 B:DataW H→Nat
 one : ∀ d,1≤B d
 str : ∀ s:List UInt8,s.length+1≤B (.lit (.string s))
 sl : ∀ l r,(l.map B).sum+1≤B (.slice l r)
 agg : ∀ l,(l.map B).sum+1≤B (.agg l)
section
variable {H:Type} {enc:TypeId × Value→H} {P:Program} {W:World} (K:Kz H)
def CM (enc:TypeId × Value→H) (P:Program) (W:World) (t:TypeId) {α:Type} (f:α→List RV) (ok:α→Prop) (μ:α→Nat):Prop:=
 ∀ (fuel:Nat) (cs:List Value) (x:DataW H × List MemPlace),DataW.trod enc P W 0 (fun _=>true) true fuel t cs=some x → ∃ a,ok a∧IT W cs (f a)∧μ a≤K.B x.1
theorem CM.int {t:TypeId} {k:IntKind} (ht:P.underlying t=some (.int k)):CM K enc P W t (fun n:Int=>[.int k n]) (fun n=>(Lit.int k n).wf=true) (fun _=>1):=by
 intro fuel cs x h
 obtain ⟨n,rfl,_,hw⟩:=DataW.trod_int ht h
 exact ⟨n,hw,.one (.int k n),K.one _⟩
theorem CM.str {t:TypeId} (ht:P.underlying t=some .string):CM K enc P W t (fun s:List UInt8=>[.str s]) (fun s=>s.length≤maxLen) (fun s=>s.length+1):=by
 intro fuel cs x h
 obtain ⟨s,rfl,rfl,hs⟩:=DataW.trod_string ht h
 exact ⟨s.data.toList,by simpa using hs,.one (.str s),K.str _⟩
theorem Qd {α β:Type} {l:List α} {m:List β} {f:α→Nat} {g:β→Nat} (hl:l.length=m.length) (h : ∀ (i:Nat) (a:α) (b:β),l[i]? = some a→m[i]? = some b→f a≤g b):(l.map f).sum≤(m.map g).sum:=by
 induction l generalizing m with
 | nil=>simp
 | cons a l ih=>
  cases m with
  | nil=>simp at hl
  | cons b m=>
   have h0:=h 0 a b rfl rfl
   have h1:=ih (m:=m) (by simpa using hl) (fun i a b h1 h2=>h (i+1) a b (by simpa using h1) (by simpa using h2))
   simp only [List.map_cons,List.sum_cons]
   omega
theorem CM.slice {t e:TypeId} {sz:Nat} {α:Type} {f:α→List RV} {ok:α→Prop} {μ:α→Nat} (ht:P.underlying t=some (.slice e)) (hc:P.cellsOf e=sz) (h0:0<sz) (h:CM K enc P W e f ok μ) (hf : ∀ a,(f a).length=sz) :
  CM K enc P W t (fun l:List α=>[.sl (l.map f)]) (fun l=>l.length≤maxLen ∧ ∀ a∈l,ok a) (fun l=>(l.map μ).sum+1):=by
 intro fuel cs x hx
 subst hc
 rcases open_slice ht hx with ⟨rfl,_⟩ | ⟨a,len,cap,m,n,D,Pl,rfl,_,hl,hm,hmm,rfl,hi⟩
 ·exact ⟨[],⟨Nat.zero_le _,fun _ h=>by cases h⟩,.one .snil,K.one _⟩
 simp only [if_true] at hmm
 have hread : ∀ i,i<len → ∃ b,ok b∧μ b≤K.B (D i) ∧ ∀ j d,(f b)[j]? = some d → ∃ u,W.cell? ((a.add (i * P.cellsOf e)).add j)=some u∧An W (· < W.heap.size) d u:=by
  intro i hil
  obtain ⟨cs',h1,h2⟩:=hi i (by omega)
  obtain ⟨b,hb,hr,hμ⟩:=h n _ _ h2
  obtain ⟨_,h3,h4⟩:=World.cells?_some h1
  refine ⟨b,hb,hμ,fun j d hj=>?_⟩
  have hjl:j<(f b).length:=(List.getElem?_eq_some_iff.1 hj).1
  have hjc:j<cs'.length:=by rw [hr.1]; exact hjl
  refine ⟨cs'[j],?_,hr.2 j d _ hj (List.getElem?_eq_getElem hjc)⟩
  rw [h4 j (by rw [← h3]; exact hjc)]
  exact List.getElem?_eq_getElem hjc
 obtain ⟨l,hll,hq⟩:=L8 len hread
 have hok : ∀ b∈l,ok b:=fun b hb=>by
  obtain ⟨i,hi⟩:=List.mem_iff_getElem?.1 hb
  exact (hq i b hi).1
 have hμ:(l.map μ).sum+1≤K.B (.slice ((List.range len).map D) ((List.range (m-len)).map fun j=>D (len+j))):=by
  refine Nat.le_trans ?_ (K.sl _ _)
  have:=Qd (l:=l) (m:=(List.range len).map D) (f:=μ) (g:=K.B) (by simpa using hll) (fun i a b h1 h2=>by
   have hil:i<len:=by rw [← hll]; exact (List.getElem?_eq_some_iff.1 h1).1
   rw [List.getElem?_map,List.getElem?_range hil] at h2
   cases h2
   exact (hq i a h1).2.1)
  omega
 have hcells : ∀ i b,l[i]? = some b → ∀ j d,(f b)[j]? = some d → ∃ u,W.cell? ((a.add (i * P.cellsOf e)).add j)=some u∧An W (· < W.heap.size) d u:=fun i b hb=>(hq i b hb).2.2
 refine ⟨l,⟨by rw [hll]; omega,hok⟩,.one ?_,hμ⟩
 subst hll
 by_cases hne:cap=0
 ·have:l=[]:=List.eq_nil_of_length_eq_zero (by omega)
  subst this; subst hne
  exact .sl0 a
 ·obtain ⟨cs',h1,_⟩:=hi 0 (by omega)
  obtain ⟨_,h3,h4⟩:=World.cells?_some h1
  have hc0 : ∃ u,W.cell? a=some u:=by
   have:=h4 0 h0
   rw [Nat.zero_mul,show (a.add 0).add 0=a from rfl] at this
   exact ⟨cs'[0]'(by omega),this.trans (List.getElem?_eq_getElem (by omega))⟩
  obtain ⟨u0,hu0⟩:=hc0
  obtain ⟨b,off,spot⟩:=a
  have hsp:spot=none:=World.cell?_spot hu0
  subst hsp
  have hblk:b<W.heap.size:=by
   unfold World.cell? at hu0
   rcases Nat.lt_or_ge b W.heap.size with h | h
   ·exact h
   ·rw [Array.getElem?_eq_none h] at hu0; cases hu0
  have hadd : ∀ i j,((⟨b,off,none⟩:Addr).add (i * P.cellsOf e)).add j=⟨b,off+i * P.cellsOf e+j,none⟩:=fun i j=>by rw [Addr.add_lit,Addr.add_lit]
  have hu : ∀ (i:Nat) (row:List RV) (c:Nat) (d:RV),(l.map f)[i]? = some row→row[c]? = some d → ∃ u,W.cell? ⟨b,off+i * P.cellsOf e+c,none⟩=some u∧An W (· < W.heap.size) d u:=by
   intro i row c d h1 h2
   rw [List.getElem?_map,Option.map_eq_some_iff] at h1
   obtain ⟨z,h5,rfl⟩:=h1
   obtain ⟨u,h6,h7⟩:=hcells i z h5 c d h2
   rw [hadd] at h6
   exact ⟨u,h6,h7⟩
  have:=An.sl (w:=W) (S:=(· < W.heap.size)) b off (l.map f) cap (P.cellsOf e) (fun i c=>(W.cell? ⟨b,off+i * P.cellsOf e+c,none⟩).getD undef) (fun _=>hblk) (by simpa using hl) hm
   (fun row hr=>by obtain ⟨z,_,rfl⟩:=List.mem_map.1 hr; exact hf z)
   (fun i row c d h1 h2=>by obtain ⟨u,h5,_⟩:=hu i row c d h1 h2; rw [h5]; rfl)
   (fun i row c d h1 h2=>by obtain ⟨u,h5,h6⟩:=hu i row c d h1 h2; rw [h5]; exact h6)
  rwa [List.length_map] at this
theorem T1 {t:TypeId} {fs:Array Field} {n:Nat} {fuel:Nat} {cs:List Value} {x:DataW H × List MemPlace} (ht:P.underlying t=some (.struct fs)) (hC:P.cellsOf t=n)
  (h:DataW.trod enc P W 0 (fun _=>true) true fuel t cs=some x) :
  cs.length=n ∧ ∃ xs:List (DataW H × List MemPlace),x.1 = .agg (xs.map (·.1))∧xs.length=fs.size ∧
   ∀ (j:Nat) (f:Field),fs[j]? = some f → ∃ (y:DataW H × List MemPlace) (m:Nat),xs[j]? = some y∧DataW.trod enc P W 0 (fun _=>true) true m f.type ((cs.drop f.offset).take (P.cellsOf f.type))=some y:=by
 obtain ⟨ys,n',hn',rfl,hlen,hyl,hf⟩:=DataW.trod_struct ht h
 refine ⟨hlen.trans hC,ys,rfl,hyl,fun j f hj=>?_⟩
 have hjl:j<fs.size:=(Array.getElem?_eq_some_iff.1 hj).1
 have h1:=hf j f hj
 have h2:ys[j]? = some ys[j]:=List.getElem?_eq_getElem (by omega)
 exact ⟨ys[j],n',h2,h1.trans h2⟩
theorem IT.part {cs:List Value} {off k jj:Nat} {row:List RV} {d:RV} {u:Value} (h:IT W ((cs.drop off).take k) row) (hjj:Nat.blt jj k=true) (h1:row[jj]? = some d) (h2:cs[off+jj]? = some u):An W (· < W.heap.size) d u:=by
 refine h.2 jj d u h1 ?_
 rw [List.getElem?_take,if_pos (Bx hjj),List.getElem?_drop]
 exact h2
theorem Rf {t:TypeId} {α:Type} {d0:α→RV} {ok:α→Prop} {μ:α→Nat} {v:Value} {d:DataW H} {p:List MemPlace} (hr:CM K enc P W t (fun a:α=>[d0 a]) ok μ) (hv:v.cells = #[v])
  (h:DataW.Trod enc P W 0 (fun _=>true) true t v d p) : ∃ a,ok a∧An W (· < W.heap.size) (d0 a) v∧μ a≤K.B d:=by
 obtain ⟨fuel,hf⟩:=h
 obtain ⟨l,h1,h2,h3⟩:=hr fuel _ _ hf
 rw [hv] at h2
 exact ⟨l,h1,h2.2 0 _ _ rfl rfl,h3⟩
theorem O3 {t e:TypeId} {α:Type} {f:α→List RV} {ok:List α→Prop} {μ:List α→Nat} {v:Value} {d:DataW H} {p:List MemPlace} {r:Reach} {b0:Nat} (ht:P.underlying t=some (.slice e)) (hr:CM K enc P W t (fun l:List α=>[.sl (l.map f)]) ok μ)
  (hval:Value.okWide P W r b0 t v) (h:DataW.Trod enc P W 0 (fun _=>true) true t v d p) : ∃ l,ok l∧An W (· < W.heap.size) (.sl (l.map f)) v∧μ l≤K.B d:=by
 obtain ⟨a,len,cap,rfl⟩:=okWide_slice ht hval
 exact Rf K hr rfl h
theorem Ow {t:TypeId} {k:IntKind} {v:Value} {d:DataW H} {p:List MemPlace} {r:Reach} {b0:Nat} (ht:P.underlying t=some (.int k)) (hval:Value.okWide P W r b0 t v) (h:DataW.Trod enc P W 0 (fun _=>true) true t v d p) :
  ∃ n:Int,(Lit.int k n).wf=true∧An W (· < W.heap.size) (.int k n) v∧1≤K.B d:=by
 obtain ⟨n,h1,h2⟩:=SW ht hval h
 exact ⟨n,h1,h2,K.one _⟩
end
end Go.Proofs.Ytelkfhdgmbahgaa.Al

namespace Go.Proofs.Ytelkfhdgmbahgaa.Al
theorem Ux {α:Type} {l ys:List α} (hl:l.length=ys.length) (h : ∀ (j:Nat) (y:α),ys[j]? = some y→l[j]? = some y):l=ys:=by
 apply List.ext_getElem? 
 intro i
 rcases Nat.lt_or_ge i ys.length with hi | hi
 ·rw [h i _ (List.getElem?_eq_getElem hi),List.getElem?_eq_getElem hi]
 ·rw [List.getElem?_eq_none hi,List.getElem?_eq_none (by omega)]
end Go.Proofs.Ytelkfhdgmbahgaa.Al
